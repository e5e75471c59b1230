/- MARKS: what a law's function does to the memory that it holds: frozen values of which the numbers are written over. Only for a function that nobody calls. -/
import Derived.Test.YtfoidnlodahfjaaGreatBAbPy
import Derived.Test.YtfoidnlodahfjaaGreatBAbPt
set_option linter.unusedVariables false
set_option linter.unusedSimpArgs false
set_option linter.defProp false
namespace Go.Ab
variable {P:Program} {ι ι':Nat→Nat} {Z Z':Nat→Prop} {h h' h'':AHeap} {σ σ' σ0 σ1 σ2:PHeap} {n n':Nat} {K:PV→PHeap→Prop} {L L':List (Nat×List PV)}
mutual
def ead:PV→List Nat
 | .fz _ a _ cs=>bif cs.isEmpty then []else match a with | .sl o _ _ _=>o::eads cs | _=>[]
 | .fp a cs=>bif cs.isEmpty then []else match a with | .ptr o _=>o::eads cs | _=>[]
 | .clo _ a b=>eads a++eads b
 | .agg cs=>eads cs
 | .tup cs=>eads cs
 | _=>[]
def eads:List PV→List Nat
 | []=>[]
 | c::cs=>ead c++eads cs
end
mutual
def rm (L:List (Nat×List PV)):PV→PV
 | .fz w a len cs=>bif cs.isEmpty then .fz w a len cs else
  match a with
  | .sl o off l cap=>
   match L.lookup o with
   | some ms=>bif w then .fz true (.sl o off l cap) len ms else .fp (.sl o off l cap) []
   | none=>.fz w (.sl o off l cap) len (rms L cs)
  | a=>.fz w a len cs
 | .fp a cs=>bif cs.isEmpty then .fp a cs else
  match a with
  | .ptr o i=>
   match L.lookup o with
   | some _=>.fp (.ptr o i) []
   | none=>.fp (.ptr o i) (rms L cs)
  | a=>.fp a cs
 | .clo f a b=>.clo f (rms L a) (rms L b)
 | .agg cs=>.agg (rms L cs)
 | .tup cs=>.tup (rms L cs)
 | v=>v
def rms (L:List (Nat×List PV)):List PV→List PV
 | []=>[]
 | c::cs=>rm L c::rms L cs
end
theorem qK:∀(as bs:List PV),eads (as++bs)=eads as++eads bs
 | [],_=>rfl
 | a::as,bs=>by simp only [List.cons_append,eads,qK as bs,List.append_assoc]
def flat:PV→Bool
 | .int _ _ | .str _=>true
 | _=>false
structure Upd (h:AHeap) (L:List (Nat×List PV)) (h':AHeap):Prop where
 next:h.next≤h'.next
 wf:HWF h'
 same:∀o,o<h.next→L.lookup o=none→h'.obj o=h.obj o
 new:∀o ms,L.lookup o=some ms→h'.obj o=some ⟨true,ers idz ms⟩∧ms.all flat=true∧ms≠[]∧∃ws,h.obj o=some ⟨true,ws⟩∧ws.length=ms.length
def PHeap.rmap (σ:PHeap) (L:List (Nat×List PV)):PHeap:=⟨σ.next,σ.top,fun s=>(σ.obj s).map (rms L)⟩
def zMl (P:Program) (f:FuncId) (args:List PV) (σ:PHeap) (L:List (Nat×List PV)) (k:IntKind) (r:Int):Prop:=
 ∀(ι:Nat→Nat) (Z:Nat→Prop) (h:AHeap),Rel ι Z σ h→VOKs Z h σ.next args→(∀o ms,L.lookup o=some ms→Z o)∧ql P f (ers ι args) h fun v h'=>v=.int k r∧Upd h L h'
inductive CallM (P:Program) (f:FuncId) (args:List IX):PEnv→PHeap→(PEnv→PV→PHeap→Prop)→Prop where
 | pure {e:PEnv} {σ:PHeap} {K:PEnv→PV→PHeap→Prop} (c:zA P f (args.map (·.pv e)) σ (K e)):CallM P f args e σ K
 | mark {e:PEnv} {σ:PHeap} {K:PEnv→PV→PHeap→Prop} {L:List (Nat×List PV)} {k:IntKind} {r:Int} (c:zMl P f (args.map (·.pv e)) σ L k r) (hk:K (fun t=>rm L (e t)) (.int k r) (σ.rmap L)):CallM P f args e σ K
 | top {e:PEnv} {σ:PHeap} {K:PEnv→PV→PHeap→Prop} (c:∀t,σ.top≤t→(∀i,∀o∈ead (e i),o<t)→CallM P f args e (σ.up t) K):CallM P f args e σ K
 | topH {e:PEnv} {σ:PHeap} {K:PEnv→PV→PHeap→Prop} (c:∀t,σ.top≤t→(∀i,∀o∈ead (e i),o<t)→(∀s cs,σ.obj s=some cs→∀o∈eads cs,o<t)→CallM P f args e (σ.up t) K):CallM P f args e σ K
def em (P:Program) (op:IOp) (e:PEnv) (σ:PHeap) (K:PEnv→PV→PHeap→Prop):Prop:=
 match op with
 | .call f args=>CallM P f args e σ K
 | op=>ep P op e σ (K e)
def gem (P:Program) (it:II) (e:PEnv) (σ:PHeap) (K:PEnv→PV→PHeap→Prop):Prop:=
 match it.guard with
 | none=>em P it.op e σ K
 | some (t,b)=>ZG (e t) b (em P it.op e σ K) (K e (.tup []) σ)
def RVm (P:Program):List II→PEnv→PHeap→(PEnv→PHeap→Prop)→Prop
 | [],e,h,K=>K e h
 | it::r,e,h,K=>match it.q with
  | true=>optK (gqp 0 0 it e h) fun v=>RVm P r (e.put it.dst v) h K
  | false=>gem P it e h fun e' v h'=>RVm P r (e'.put it.dst v) h' K
section
variable {Q:Exit→PEnv→PHeap→Prop} {e:PEnv} {hp:PHeap} {KE:PEnv→PHeap→Prop} {KM:PEnv→PV→PHeap→Prop}
@[congr] theorem zM6 {its:List II} {e e':PEnv} {h h':PHeap} (h1:nm e=e') (h2:h=h'):RVm P its e h KE=RVm P its e' h' KE:=by rw [nm_eq]at h1;rw [h1,h2]
@[congr] theorem zM2 {it:II} {e e':PEnv} {h h':PHeap} (h1:nm e=e') (h2:h=h'):gem P it e h KM=gem P it e' h' KM:=by rw [nm_eq]at h1;rw [h1,h2]
@[congr] theorem cg_em {op:IOp} {e e':PEnv} {h h':PHeap} (h1:nm e=e') (h2:h=h'):em P op e h KM=em P op e' h' KM:=by rw [nm_eq]at h1;rw [h1,h2]
@[congr] theorem zMz {f:FuncId} {args:List IX} {e e':PEnv} {h h':PHeap} (h1:nm e=e') (h2:h=h'):CallM P f args e h KM=CallM P f args e' h' KM:=by rw [nm_eq]at h1;rw [h1,h2]
end
end Go.Ab
