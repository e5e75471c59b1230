/- MARKS: what a law's function does to the memory that it holds: frozen values of which the numbers are written over. Only for a function that nobody calls. -/
import Derived.Test.YtjlpbpfaihhamaaGreatBAbPy
import Derived.Test.YtjlpbpfaihhamaaGreatBAbPt
set_option linter.unusedVariables false
set_option linter.unusedSimpArgs false
set_option linter.defProp false
namespace Go.Ab
variable {P:Program} {ι ι':Nat→Nat} {Z Z':Nat→Prop} {h h' h'':AHeap} {σ σ' σ0 σ1 σ2:PHeap} {n n':Nat} {K:PV→PHeap→Prop} {L L':List (Nat×List PV)}
mutual
def ead:PV→List Nat
 | .fz _ a _ cs=>bif cs.isEmpty then []else match a with | .sl o _ _ _=>o::eads cs | _=>[]
 | .fp a cs=>bif cs.isEmpty then []else match a with | .ptr o _=>o::eads cs | _=>[]
 | .clo _ a b=>eads a++eads b
 | .agg cs=>eads cs
 | .tup cs=>eads cs
 | _=>[]
def eads:List PV→List Nat
 | []=>[]
 | c::cs=>ead c++eads cs
end
mutual
def rm (L:List (Nat×List PV)):PV→PV
 | .fz w a len cs=>bif cs.isEmpty then .fz w a len cs else
  match a with
  | .sl o off l cap=>
   match L.lookup o with
   | some ms=>bif w then .fz true (.sl o off l cap) len ms else .fp (.sl o off l cap) []
   | none=>.fz w (.sl o off l cap) len (rms L cs)
  | a=>.fz w a len cs
 | .fp a cs=>bif cs.isEmpty then .fp a cs else
  match a with
  | .ptr o i=>
   match L.lookup o with
   | some _=>.fp (.ptr o i) []
   | none=>.fp (.ptr o i) (rms L cs)
  | a=>.fp a cs
 | .clo f a b=>.clo f (rms L a) (rms L b)
 | .agg cs=>.agg (rms L cs)
 | .tup cs=>.tup (rms L cs)
 | v=>v
def rms (L:List (Nat×List PV)):List PV→List PV
 | []=>[]
 | c::cs=>rm L c::rms L cs
end
theorem qX:∀(as bs:List PV),eads (as++bs)=eads as++eads bs
 | [],_=>rfl
 | a::as,bs=>by simp only [List.cons_append,eads,qX as bs,List.append_assoc]
theorem zEq:∀{cs:List PV} {o:Nat},o∈eads cs↔∃c∈cs,o∈ead c
 | [],o=>by simp [eads]
 | c::cs,o=>by simp [eads,zEq (cs:=cs)]
mutual
theorem er_rm (ι:Nat→Nat):∀v:PV,er ι (rm L v)=er ι v
 | .undef | .bool _ | .int _ _ | .str _ | .nilp | .nilf | .ptr _ _ | .mref _ | .sl _ _ _ _=>rfl
 | .fz w a len cs=>by
  unfold rm;cases cs.isEmpty
  ·simp only [cond_false]
   cases a<;>try rfl
   rename_i o off l cap
   simp only;cases L.lookup o
   ·rfl
   ·cases w<;>rfl
  ·rfl
 | .fp a cs=>by
  unfold rm;cases cs.isEmpty
  ·simp only [cond_false]
   cases a<;>try rfl
   rename_i o i
   simp only;cases L.lookup o<;>rfl
  ·rfl
 | .clo f a b=>by simp only [rm,er,Qf ι a,Qf ι b]
 | .agg cs=>by simp only [rm,er,Qf ι cs]
 | .tup cs=>by simp only [rm,er,Qf ι cs]
theorem Qf (ι:Nat→Nat):∀cs:List PV,ers ι (rms L cs)=ers ι cs
 | []=>rfl
 | c::cs=>by simp only [rms,ers,er_rm ι c,Qf ι cs]
end
mutual
theorem rm_id:∀{v:PV},(∀o∈ead v,L.lookup o=none)→rm L v=v
 | .undef,_ | .bool _,_ | .int _ _,_ | .str _,_ | .nilp,_ | .nilf,_ | .ptr _ _,_ | .mref _,_ | .sl _ _ _ _,_=>rfl
 | .fz w a len cs,h=>by
  unfold rm;cases he:cs.isEmpty
  ·simp only [cond_false]
   cases a<;>try rfl
   rename_i o off l cap
   simp only [ead,he,cond_false,List.mem_cons]at h
   have hc:=zBG (cs:=cs) fun o ho=>h o (.inr ho)
   simp only [hc,h o (.inl rfl)]
  ·rfl
 | .fp a cs,h=>by
  unfold rm;cases he:cs.isEmpty
  ·simp only [cond_false]
   cases a<;>try rfl
   rename_i o i
   simp only [ead,he,cond_false,List.mem_cons]at h
   have hc:=zBG (cs:=cs) fun o ho=>h o (.inr ho)
   simp only [hc,h o (.inl rfl)]
  ·rfl
 | .clo f a b,h=>by
  simp only [ead,List.mem_append]at h
  simp only [rm,zBG (cs:=a) fun o ho=>h o (.inl ho),zBG (cs:=b) fun o ho=>h o (.inr ho)]
 | .agg cs,h=>by simp only [rm,zBG (cs:=cs) h]
 | .tup cs,h=>by simp only [rm,zBG (cs:=cs) h]
theorem zBG:∀{cs:List PV},(∀o∈eads cs,L.lookup o=none)→rms L cs=cs
 | [],_=>rfl
 | c::cs,h=>by
  simp only [eads,List.mem_append]at h
  simp only [rms,rm_id (v:=c) fun o ho=>h o (.inl ho),zBG (cs:=cs) fun o ho=>h o (.inr ho)]
end
mutual
theorem ead_z:∀{n:Nat} {v:PV},VOK Z h n v→∀o∈ead v,Z o
 | n,.undef,_,o,ho | n,.bool _,_,o,ho | n,.int _ _,_,o,ho | n,.str _,_,o,ho | n,.nilp,_,o,ho | n,.nilf,_,o,ho=>by simp [ead]at ho
 | n,.ptr _ _,_,o,ho | n,.sl _ _ _ _,_,o,ho=>by simp [ead]at ho
 | n,.fz w a len cs,hv,o,ho=>by
  unfold ead at ho
  cases he:cs.isEmpty<;>simp only [he,cond_false,cond_true]at ho
  ·obtain⟨rfl,_⟩ | ⟨o',off,cap,rfl,h1,_⟩:=hv.1
   ·cases ho
   ·rcases List.mem_cons.1 ho with rfl | ho
    ·exact h1
    ·exact zAL hv.2 o ho
  ·simp at ho
 | n,.fp a cs,hv,o,ho=>by
  unfold ead at ho
  cases he:cs.isEmpty<;>simp only [he,cond_false,cond_true]at ho
  ·obtain⟨_,h1 | ⟨o2,i2,rfl,h2,_⟩⟩:=hv.1
   ·cases cs with
    | nil=>cases he
    | cons c cs=>simp [ers]at h1
   ·rcases List.mem_cons.1 ho with rfl | ho
    ·exact h2
    ·exact zAL hv.2 o ho
  ·simp at ho
 | n,.clo _ a b,hv,o,ho=>by
  simp only [ead,List.mem_append]at ho
  exact ho.elim (zAL hv.1 o) (zAL hv.2 o)
 | n,.agg cs,hv,o,ho=>zAL (cs:=cs) hv o (by simpa only [ead]using ho)
 | n,.tup cs,hv,o,ho=>zAL (cs:=cs) hv o (by simpa only [ead]using ho)
theorem zAL:∀{n:Nat} {cs:List PV},VOKs Z h n cs→∀o∈eads cs,Z o
 | n,[],_,o,ho=>by simp [eads]at ho
 | n,c::cs,hv,o,ho=>by
  simp only [eads,List.mem_append]at ho
  exact ho.elim (ead_z hv.1 o) (zAL hv.2 o)
end
def flat:PV→Bool
 | .int _ _ | .str _=>true
 | _=>false
theorem zOw {ms:List PV} (hm:ms.all flat=true):VOKs Z h n ms:=by
 rw [ZW];intro c hc
 have:=List.all_eq_true.1 hm c hc
 cases c<;>first | trivial | cases this
theorem zOM (xs:List Int):(pis xs).all flat=true:=by
 induction xs with
 | nil=>rfl
 | cons x xs ih=>simp only [zEm,List.all_cons,ih];rfl
structure Upd (h:AHeap) (L:List (Nat×List PV)) (h':AHeap):Prop where
 next:h.next≤h'.next
 wf:HWF h'
 same:∀o,o<h.next→L.lookup o=none→h'.obj o=h.obj o
 new:∀o ms,L.lookup o=some ms→h'.obj o=some ⟨true,ers idz ms⟩∧ms.all flat=true∧ms≠[]∧∃ws,h.obj o=some ⟨true,ws⟩∧ws.length=ms.length
theorem Upd.refl (hw:HWF h):Upd h [] h:=⟨Nat.le_refl _,hw,fun _ _ _=>rfl,fun o ms e=>by cases e⟩
theorem Ext.upd (e:Ext h h'):Upd h [] h':=⟨e.next,e.wf,fun o ho _=>e.obj o ho,fun o ms e=>by cases e⟩
theorem zAx (L L':List (Nat×List PV)) (o:Nat):(L++L').lookup o=(L.lookup o).or (L'.lookup o):=by
 induction L with
 | nil=>simp
 | cons p L ih=>
  obtain⟨a,b⟩:=p;simp only [List.cons_append,List.lookup_cons];cases hb:(o == a)with
  | true=>rfl
  | false=>exact ih
theorem qh {o:Nat}:L.lookup o=none↔o∉L.map Prod.fst:=by
 induction L with
 | nil=>simp
 | cons p L ih=>
  obtain⟨a,b⟩:=p;simp only [List.lookup_cons,List.map_cons,List.mem_cons]
  by_cases e:o=a
  ·subst e;simp
  ·rw [beq_eq_false_iff_ne.2 e]
   simp only [ih];exact⟨fun h1 h2=>h2.elim e h1,fun h1 h2=>h1 (.inr h2)⟩
theorem Upd.trans (a:Upd h L h') (b:Upd h' L' h'') (hd:∀o∈L.map Prod.fst,o∉L'.map Prod.fst) (hl:∀o∈L'.map Prod.fst,o<h.next):Upd h (L++L') h'':=by
 refine⟨Nat.le_trans a.next b.next,b.wf,fun o ho hn=>?_,fun o ms hm=>?_⟩
 ·rw [zAx,Option.or_eq_none_iff]at hn
  rw [b.same o (Nat.lt_of_lt_of_le ho a.next) hn.2,a.same o ho hn.1]
 ·rw [zAx]at hm
  cases h1:L.lookup o with
  | some ms'=>
   rw [h1,Option.some_or]at hm
   cases hm;obtain⟨q1,q2,q3,ws,q4,q5⟩:=a.new o _ h1;have hk:o∈L.map Prod.fst:=by
    by_cases hk:o∈L.map Prod.fst
    ·exact hk
    ·rw [qh.2 hk]at h1;cases h1
   have hn:L'.lookup o=none:=qh.2 (hd o hk);have hlt:o<h'.next:=a.wf.lt q1;exact⟨by rw [b.same o hlt hn];exact q1,q2,q3,ws,q4,q5⟩
  | none=>
   rw [h1,Option.none_or]at hm
   obtain⟨q1,q2,q3,ws,q4,q5⟩:=b.new o _ hm;refine⟨q1,q2,q3,ws,?_,q5⟩;have hk:o∈L'.map Prod.fst:=by
    by_cases hk:o∈L'.map Prod.fst
    ·exact hk
    ·rw [qh.2 hk]at hm;cases hm
   rw [←a.same o (hl o hk) h1];exact q4
mutual
theorem zAd (u:Upd h L h') (hz:∀o,Z o→o<h.next):∀{n:Nat} {v:PV},VOK Z h n v→VOK Z h' n (rm L v)
 | n,.undef,_ | n,.bool _,_ | n,.int _ _,_ | n,.str _,_ | n,.nilp,_ | n,.nilf,_=>trivial
 | n,.ptr _ _,hv | n,.mref _,hv | n,.sl _ _ _ _,hv=>hv
 | n,.fz w a len cs,hv=>by
  unfold rm;cases he:cs.isEmpty
  ·simp only [cond_false]
   obtain⟨rfl,_,h0⟩|⟨o,off,cap,rfl,h1,h2,h3,h4⟩:=hv.1
   ·cases cs with
    | nil=>cases he
    | cons c cs=>simp [ers]at h0
   ·simp only
    have h2':h.rd o off (ers idz cs).length=some (ers idz cs):=h2.resolve_left fun e=>by
     cases cs with
     | nil=>cases he
     | cons c cs=>simp [ers]at e
    cases hl:L.lookup o with
    | none=>
     have hs:=u.same o (hz o h1) hl;refine⟨.inr ⟨o,off,cap,rfl,h1,?_,h3,fun hw=>⟨(h4 hw).1,?_⟩⟩,Q3 u hz hv.2⟩
     ·right;rw [Qf,zCQ hs];exact h2'
     ·rw [Qf,hs];exact(h4 hw).2
    | some ms=>
     cases w with
     | false=>exact⟨⟨rfl,.inl rfl⟩,trivial⟩
     | true=>
      obtain⟨q1,q2,q3,ws,q4,q5⟩:=u.new o ms hl;obtain⟨rfl,ho⟩:=h4 rfl;exact⟨.inr ⟨o,0,cap,rfl,h1,.inr (Qw q1 rfl),h3,fun _=>⟨rfl,q1⟩⟩,zOw q2⟩
  ·simp only [cond_true]
   have hcs:cs=[]:=List.isEmpty_iff.1 he;subst hcs;obtain h0|⟨o,off,cap,rfl,h1,h2,h3,h4⟩:=hv.1
   ·exact⟨.inl h0,trivial⟩
   ·refine⟨.inr ⟨o,off,cap,rfl,h1,.inl rfl,h3,fun hw=>⟨(h4 hw).1,?_⟩⟩,trivial⟩
    have ho:=(h4 hw).2;cases hl:L.lookup o with
    | none=>rw [u.same o (hz o h1) hl];exact ho
    | some ms=>
     obtain⟨q1,q2,q3,ws,q4,q5⟩:=u.new o ms hl;rw [ho]at q4
     cases q4;exact absurd (List.eq_nil_of_length_eq_zero q5.symm) q3
 | n,.fp a cs,hv=>by
  unfold rm;cases he:cs.isEmpty
  ·simp only [cond_false]
   obtain⟨h0,h1|⟨o,i,rfl,h2,h3⟩⟩:=hv.1
   ·cases cs with
    | nil=>cases he
    | cons c cs=>simp [ers]at h1
   ·simp only
    cases hl:L.lookup o with
    | none=>
     refine⟨⟨rfl,.inr ⟨o,i,rfl,h2,?_⟩⟩,Q3 u hz hv.2⟩;rw [Qf,zCQ (u.same o (hz o h2) hl)];exact h3
    | some ms=>exact⟨⟨rfl,.inl rfl⟩,trivial⟩
  ·simp only [cond_true]
   have hcs:cs=[]:=List.isEmpty_iff.1 he;subst hcs;exact⟨⟨hv.1.1,.inl rfl⟩,trivial⟩
 | n,.clo f a b,hv=>⟨Q3 u hz hv.1,Q3 u hz hv.2⟩
 | n,.agg cs,hv=>Q3 (cs:=cs) u hz hv
 | n,.tup cs,hv=>Q3 (cs:=cs) u hz hv
theorem Q3 (u:Upd h L h') (hz:∀o,Z o→o<h.next):∀{n:Nat} {cs:List PV},VOKs Z h n cs→VOKs Z h' n (rms L cs)
 | n,[],_=>trivial
 | n,c::cs,hv=>⟨zAd u hz hv.1,Q3 u hz hv.2⟩
end
def PHeap.rmap (σ:PHeap) (L:List (Nat×List PV)):PHeap:=⟨σ.next,σ.top,fun s=>(σ.obj s).map (rms L)⟩
theorem Rel.rmap (r:Rel ι Z σ h) (u:Upd h L h') (hk:∀o ms,L.lookup o=some ms→Z o):Rel ι Z (σ.rmap L) h':=by
 have hs:∀{s:Nat} {ds:List PV},(σ.rmap L).obj s=some ds→∃cs,σ.obj s=some cs∧ds=rms L cs:=fun {s ds} hd=>by
  obtain⟨cs,h1,h2⟩:=Option.map_eq_some_iff.1 hd;exact⟨cs,h1,h2.symm⟩
 refine⟨u.wf,fun o ho=>Nat.lt_of_lt_of_le (r.zlt o ho) u.next,Nat.le_trans r.top u.next,fun s hs=>by simp only [PHeap.rmap,r.wf s hs,Option.map_none],fun s ds hd=>?_,fun s s' a b ha hb=>?_⟩
 ·obtain⟨cs,h1,rfl⟩:=hs hd
  obtain⟨q1,q2,q3⟩:=r.obj s cs h1;have hn:L.lookup (ι s)=none:=by
   cases hl:L.lookup (ι s)with
   | none=>rfl
   | some ms=>exact absurd (hk _ _ hl) q3
  refine⟨?_,Q3 u r.zlt q2,q3⟩;rw [Qf,u.same _ (r.hwf.lt q1) hn];exact q1
 ·obtain⟨cs,h1,_⟩:=hs ha
  obtain⟨cs',h2,_⟩:=hs hb;exact r.inj s s' cs cs' h1 h2
def Qr (P:Program) (f:FuncId) (args:List PV) (σ:PHeap) (L:List (Nat×List PV)) (k:IntKind) (r:Int):Prop:=
 ∀(ι:Nat→Nat) (Z:Nat→Prop) (h:AHeap),Rel ι Z σ h→VOKs Z h σ.next args→(∀o ms,L.lookup o=some ms→Z o)∧qj P f (ers ι args) h fun v h'=>v=.int k r∧Upd h L h'
inductive CallM (P:Program) (f:FuncId) (args:List IX):PEnv→PHeap→(PEnv→PV→PHeap→Prop)→Prop where
 | pure {e:PEnv} {σ:PHeap} {K:PEnv→PV→PHeap→Prop} (c:zA P f (args.map (·.pv e)) σ (K e)):CallM P f args e σ K
 | mark {e:PEnv} {σ:PHeap} {K:PEnv→PV→PHeap→Prop} {L:List (Nat×List PV)} {k:IntKind} {r:Int} (c:Qr P f (args.map (·.pv e)) σ L k r) (hk:K (fun t=>rm L (e t)) (.int k r) (σ.rmap L)):CallM P f args e σ K
 | top {e:PEnv} {σ:PHeap} {K:PEnv→PV→PHeap→Prop} (c:∀t,σ.top≤t→(∀i,∀o∈ead (e i),o<t)→CallM P f args e (σ.up t) K):CallM P f args e σ K
 | topH {e:PEnv} {σ:PHeap} {K:PEnv→PV→PHeap→Prop} (c:∀t,σ.top≤t→(∀i,∀o∈ead (e i),o<t)→(∀s cs,σ.obj s=some cs→∀o∈eads cs,o<t)→CallM P f args e (σ.up t) K):CallM P f args e σ K
theorem CallM.sound {f:FuncId} {args:List IX} {e:PEnv} {σ:PHeap} {K:PEnv→PV→PHeap→Prop} (c:CallM P f args e σ K):∀{ι:Nat→Nat} {Z:Nat→Prop} {h:AHeap} {K1:AV→AHeap→Prop},Rel ι Z σ h→EOK Z h σ.next e→
  (∀e' v σ' ι' Z' h',Rel ι' Z' σ' h'→EOK Z' h' σ'.next e'→VOK Z' h' σ'.next v→erE ι' e'=erE ι e→K e' v σ'→K1 (er ι' v) h')→qj P f (args.map (·.ev (erE ι e))) h K1:=by
 induction c with
 | pure c=>
  intro ι Z h K1 r he hr
  have:=c ι Z h r (he.pvs args)
  rw [zCB]at this
  refine this.mono ?_
  rintro _ h' ⟨pv,σ',ι',Z',r',a',hv,rfl,k⟩
  exact hr _ pv σ' ι' Z' h' r' (a'.eok he) hv (a'.erE he) k
 | @mark σ K L k r c hk=>
  intro ι Z h K1 rl he hr;obtain⟨h1,h2⟩:=c ι Z h rl (he.pvs args);rw [zCB]at h2
  refine h2.mono ?_
  rintro _ h' ⟨rfl,u⟩
  refine hr (fun t=>rm L (e t)) (.int k r) (σ.rmap L) ι Z h' (rl.rmap u h1) (fun t=>zAd u rl.zlt (he t)) trivial ?_ hk
  funext t
  simp only [erE,er_rm]
 | top c ih=>
  intro ι Z h K1 r he hr;refine ih h.next r.top (fun i o ho=>r.zlt o (ead_z (he i) o ho)) (ι:=ι) (Z:=Z) ⟨r.hwf,r.zlt,Nat.le_refl _,r.wf,r.obj,r.inj⟩ he hr
 | topH c ih=>
  intro ι Z h K1 r he hr;refine ih h.next r.top (fun i o ho=>r.zlt o (ead_z (he i) o ho)) (fun s cs hs o ho=>r.zlt o (zAL (r.obj s cs hs).2.1 o ho)) (ι:=ι) (Z:=Z) ⟨r.hwf,r.zlt,Nat.le_refl _,r.wf,r.obj,r.inj⟩ he hr
def em (P:Program) (op:IOp) (e:PEnv) (σ:PHeap) (K:PEnv→PV→PHeap→Prop):Prop:=
 match op with
 | .call f args=>CallM P f args e σ K
 | op=>ep P op e σ (K e)
def gem (P:Program) (it:II) (e:PEnv) (σ:PHeap) (K:PEnv→PV→PHeap→Prop):Prop:=
 match it.guard with
 | none=>em P it.op e σ K
 | some (t,b)=>Za (e t) b (em P it.op e σ K) (K e (.tup []) σ)
def RVm (P:Program):List II→PEnv→PHeap→(PEnv→PHeap→Prop)→Prop
 | [],e,h,K=>K e h
 | it::r,e,h,K=>match it.q with
  | true=>optK (gqp 0 0 it e h) fun v=>RVm P r (e.put it.dst v) h K
  | false=>gem P it e h fun e' v h'=>RVm P r (e'.put it.dst v) h' K
def vm (P:Program):IC→(Exit→PEnv→PHeap→Prop)→PEnv→PHeap→Prop
 | .region S its,Q,e,h=>RVm P its e h fun e' h'=>Q .normal (PEnv.mk S (S.map e')) h'
 | .seq a b,Q,e,h=>vm P a (fun x e' h'=>match x with | .normal=>vm P b Q e' h' | x=>Q x e' h') e h
 | .cond c a b,Q,e,h=>Zq (c.pv e) (vm P a Q e h) (vm P b Q e h)
 | .block id c,Q,e,h=>vm P c (fun x e' h'=>match x with | .exit id'=>if id'=id then Q .normal e' h' else Q (.exit id') e' h' | x=>Q x e' h') e h
 | c,Q,e,h=>vp P c Q e h
theorem zIc {op:IOp} {e:PEnv} {σ:PHeap} {K:PEnv→PV→PHeap→Prop} (c:em P op e σ K) {K1:AV→AHeap→Prop} (r:Rel ι Z σ h) (he:EOK Z h σ.next e)
  (hr:∀e' v σ' ι' Z' h',Rel ι' Z' σ' h'→EOK Z' h' σ'.next e'→VOK Z' h' σ'.next v→erE ι' e'=erE ι e→K e' v σ'→K1 (er ι' v) h'):eff P op (erE ι e) h K1:=by
 have base:ep P op e σ (K e)→eff P op (erE ι e) h K1:=fun hk=>by
  refine zE5 ?_ (zE3 r he hk)
  rintro _ h' ⟨pv,σ',ι',Z',r',a',hv,rfl,k⟩
  exact hr _ pv σ' ι' Z' h' r' (a'.eok he) hv (a'.erE he) k
 cases op<;>first | exact base c | skip
 exact CallM.sound c r he hr
theorem zM5 {it:II} {e:PEnv} {σ:PHeap} {K:PEnv→PV→PHeap→Prop} (c:gem P it e σ K) {K1:AV→AHeap→Prop} (r:Rel ι Z σ h) (he:EOK Z h σ.next e)
  (hr:∀e' v σ' ι' Z' h',Rel ι' Z' σ' h'→EOK Z' h' σ'.next e'→VOK Z' h' σ'.next v→erE ι' e'=erE ι e→K e' v σ'→K1 (er ι' v) h'):ge P it (erE ι e) h K1:=by
 obtain⟨dst,op,q,guard⟩:=it;cases guard with
 | none=>exact zIc c r he hr
 | some g=>
  obtain⟨t,b⟩:=g;simp only [gem,ge]at c ⊢
  cases ht:e t with
  | bool d=>
   rw [ht]at c
   simp only [Za]at c
   simp only [erE,ht,er]
   split at c
   ·rename_i hc;rw [if_pos hc];exact zIc c r he hr
   ·rename_i hc;rw [if_neg hc];exact hr e (.tup []) σ ι Z h r he trivial rfl c
  | tup cs=>
   rw [ht]at c
   cases cs with
   | nil=>simp only [erE,ht,er];exact hr e (.tup []) σ ι Z h r he trivial rfl c
   | cons x cs=>simp only [Za]at c
  | _=>rw [ht]at c;simp only [Za]at c
theorem zDg:∀(its:List II) {ι:Nat→Nat} {Z:Nat→Prop} {σ:PHeap} {h:AHeap} {E:PEnv} {K:PEnv→PHeap→Prop} {K1:Env→AHeap→Prop},Rel ι Z σ h→EOK Z h σ.next E→RVm P its E σ K→
  (∀E' σ' ι' Z' h',Rel ι' Z' σ' h'→EOK Z' h' σ'.next E'→K E' σ'→K1 (erE ι' E') h')→RV P its (erE ι E) h K1
 | [],ι,Z,σ,h,E,K,K1,r,he,hk,hr=>hr E σ ι Z h r he hk
 | it::its,ι,Z,σ,h,E,K,K1,r,he,hk,hr=>by
  simp only [RVm,RV]at hk ⊢
  split at hk
  ·rename_i hq
   simp only [hq];obtain⟨v,hv,hk⟩:=hk;obtain⟨h1,h2⟩:=zBm r he (nb1:=0) (fun k hk=>absurd hk (Nat.not_lt_zero _)) hv
   refine⟨_,h1,?_⟩
   have:=zDg its r (he.put h2 it.dst) hk hr
   rw [Q7]at this
   exact this
  ·rename_i hq
   simp only [hq];refine zM5 hk r he ?_;intro e' v σ' ι' Z' h' r' he' hv hee hk'
   have:=zDg its r' (he'.put hv it.dst) hk' hr
   rw [Q7,hee]at this
   exact this
theorem zAQ:∀(c:IC) {ι:Nat→Nat} {Z:Nat→Prop} {σ:PHeap} {h:AHeap} {E:PEnv} {Q:Exit→PEnv→PHeap→Prop} {Q1:Exit→Env→AHeap→Prop},Rel ι Z σ h→EOK Z h σ.next E→vm P c Q E σ→
  (∀x E' σ' ι' Z' h',Rel ι' Z' σ' h'→EOK Z' h' σ'.next E'→Q x E' σ'→Q1 x (erE ι' E') h')→vc P c Q1 (erE ι E) h
 | .skip,ι,Z,σ,h,E,Q,Q1,r,he,hk,hr=>ZZ (.skip) r he hk fun x E' σ' ι' Z' h' r' _ e' k'=>hr x E' σ' ι' Z' h' r' e' k'
 | .exit id,ι,Z,σ,h,E,Q,Q1,r,he,hk,hr=>ZZ (.exit id) r he hk fun x E' σ' ι' Z' h' r' _ e' k'=>hr x E' σ' ι' Z' h' r' e' k'
 | .ret,ι,Z,σ,h,E,Q,Q1,r,he,hk,hr=>ZZ (.ret) r he hk fun x E' σ' ι' Z' h' r' _ e' k'=>hr x E' σ' ι' Z' h' r' e' k'
 | .tree S t,ι,Z,σ,h,E,Q,Q1,r,he,hk,hr=>ZZ (.tree S t) r he hk fun x E' σ' ι' Z' h' r' _ e' k'=>hr x E' σ' ι' Z' h' r' e' k'
 | .draw S zs its,ι,Z,σ,h,E,Q,Q1,r,he,hk,hr=>ZZ (.draw S zs its) r he hk fun x E' σ' ι' Z' h' r' _ e' k'=>hr x E' σ' ι' Z' h' r' e' k'
 | .loop S c,ι,Z,σ,h,E,Q,Q1,r,he,hk,hr=>ZZ (.loop S c) r he hk fun x E' σ' ι' Z' h' r' _ e' k'=>hr x E' σ' ι' Z' h' r' e' k'
 | .region S its,ι,Z,σ,h,E,Q,Q1,r,he,hk,hr=>by
  refine zDg its r he hk ?_;intro E' σ' ι' Z' h' r' e' k'
  have:=hr .normal _ σ' ι' Z' h' r' (EOK.mk (e'.map S)) k'
  rw [zAm,zA8]at this
  exact this
 | .seq a b,ι,Z,σ,h,E,Q,Q1,r,he,hk,hr=>by
  refine zAQ a r he hk ?_;intro x E' σ' ι' Z' h' r' e' k';cases x with
  | normal=>exact zAQ b r' e' k' hr
  | exit id=>exact hr _ _ _ _ _ _ r' e' k'
  | goto l=>exact hr _ _ _ _ _ _ r' e' k'
  | ret=>exact hr _ _ _ _ _ _ r' e' k'
  | panic ch=>exact hr _ _ _ _ _ _ r' e' k'
  | outgrown=>exact hr _ _ _ _ _ _ r' e' k'
 | .cond c a b,ι,Z,σ,h,E,Q,Q1,r,he,hk,hr=>by
  simp only [vm,vc,←er_pv]at hk ⊢
  cases hc:c.pv E<;>rw [hc]at hk<;>simp only [Zq]at hk
  simp only [er]
  split at hk
  ·rename_i ht;rw [if_pos ht];exact zAQ a r he hk hr
  ·rename_i ht;rw [if_neg ht];exact zAQ b r he hk hr
 | .block id c,ι,Z,σ,h,E,Q,Q1,r,he,hk,hr=>by
  refine zAQ c r he hk ?_;intro x E' σ' ι' Z' h' r' e' k';cases x with
  | exit id'=>
   simp only at k' ⊢
   split at k'
   ·rename_i hc;rw [if_pos hc];exact hr _ _ _ _ _ _ r' e' k'
   ·rename_i hc;rw [if_neg hc];exact hr _ _ _ _ _ _ r' e' k'
  | normal=>exact hr _ _ _ _ _ _ r' e' k'
  | goto l=>exact hr _ _ _ _ _ _ r' e' k'
  | ret=>exact hr _ _ _ _ _ _ r' e' k'
  | panic ch=>exact hr _ _ _ _ _ _ r' e' k'
  | outgrown=>exact hr _ _ _ _ _ _ r' e' k'
def zDs (v:PV) (σ:PHeap):Prop:=v=.bool true
theorem zMm (hmix:P.follows .mixedOrders=true) {f:FuncId} {fn:Func} {ifn:IFn} (hf:P.funcs[f]? = some fn) (hc:cF P fn=some ifn) {args:List PV} (hl:args.length=ifn.params.length) (hw:HWF h) (hv:VOKs (zlt h) h 0 args)
  (hk:(∀o∈eads args,o<h.next)→vm P ifn.body (retP ifn.res zDs) (PEnv.mk ifn.params args) (PHeap.start h)):qj P f (ers idz args) h (fun v _=>v=.bool true):=by
 have hk:=hk fun o ho=>zAL hv o ho
 refine ZV hmix hf hc (by rw [qd];exact hl) ?_
 rw [←zAm];refine zAQ ifn.body (zLv hw) (EOK.mk hv) hk ?_;intro x E' σ' ι' Z' h' r' e' k';have fin:optK (Zi ifn.res E' σ') (fun vs=>zDs (packP vs) σ')→optK (rvals ifn.res (erE ι' E') h') fun vs=>packR vs=.bool true:=by
  rintro ⟨vs,hv,hk⟩
  obtain⟨h1,h2⟩:=zAA r' e' hv;obtain⟨h3,h4⟩:=zEM (ι:=ι') h2;unfold zDs at hk
  rw [hk]at h3
  exact⟨_,h1,h3⟩
 cases x with
 | normal=>exact fin k'
 | ret=>exact fin k'
 | exit id=>exact k'.elim
 | goto l=>exact k'.elim
 | panic ch=>exact k'.elim
 | outgrown=>exact k'.elim
section
variable {Q:Exit→PEnv→PHeap→Prop} {e:PEnv} {hp:PHeap} {KE:PEnv→PHeap→Prop} {KM:PEnv→PV→PHeap→Prop}
theorem zPg:vm P .skip Q e hp=Q .normal e hp:=rfl
theorem zLi (S:List Nat) (its:List II):vm P (.region S its) Q e hp=RVm P its e hp fun e' h'=>Q .normal (PEnv.mk S (S.map e')) h':=rfl
theorem zPi (S:List Nat) (zs:List (List AV)) (its:List DI):vm P (.draw S zs its) Q e hp=DVp P hp.next zs.length its [] e (hp.news zs) fun e' h'=>Q .normal (PEnv.mk S (S.map e')) h':=rfl
theorem zRD (a b:IC):vm P (.seq a b) Q e hp=vm P a (fun x e' h'=>match x with | .normal=>vm P b Q e' h' | x=>Q x e' h') e hp:=rfl
theorem zPj (c:IX) (a b:IC):vm P (.cond c a b) Q e hp=Zq (c.pv e) (vm P a Q e hp) (vm P b Q e hp):=rfl
theorem zPh (id:Nat):vm P (.exit id) Q e hp=Q (.exit id) e hp:=rfl
theorem zRE:vm P .ret Q e hp=Q .ret e hp:=rfl
theorem zQ2:RVm P [] e hp KE=KE e hp:=rfl
theorem RVm_q (d:Option Nat) (op:IOp) (g:Option (Nat×Bool)) (r:List II):RVm P (⟨d,op,true,g⟩::r) e hp KE=optK (gqp 0 0 ⟨d,op,true,g⟩ e hp) fun v=>RVm P r (e.put d v) hp KE:=rfl
theorem RVm_e (d:Option Nat) (op:IOp) (g:Option (Nat×Bool)) (r:List II):RVm P (⟨d,op,false,g⟩::r) e hp KE=gem P ⟨d,op,false,g⟩ e hp fun e' v h'=>RVm P r (e'.put d v) h' KE:=rfl
theorem zOv (d:Option Nat) (op:IOp) (q:Bool):gem P ⟨d,op,q,none⟩ e hp KM=em P op e hp KM:=rfl
theorem zOu (d:Option Nat) (op:IOp) (q:Bool) (t:Nat) (b:Bool):gem P ⟨d,op,q,some (t,b)⟩ e hp KM=Za (e t) b (em P op e hp KM) (KM e (.tup []) hp):=rfl
theorem zQo (f:FuncId) (args:List IX):em P (.call f args) e hp KM=CallM P f args e hp KM:=rfl
theorem zO6 (z:List AV):em P (.alloc z) e hp KM=ep P (.alloc z) e hp (KM e):=rfl
theorem zRs (x:IX):em P (.box x) e hp KM=ep P (.box x) e hp (KM e):=rfl
theorem zO5 (n:Nat) (x v:IX):em P (.store n x v) e hp KM=ep P (.store n x v) e hp (KM e):=rfl
theorem zLN (sz len:Nat) (z:List AV) (ps:List (Nat×Nat×IX)):em P (.buildSl sz len z ps) e hp KM=ep P (.buildSl sz len z ps) e hp (KM e):=rfl
@[congr] theorem cg_vm {c:IC} {e e':PEnv} {h h':PHeap} (h1:nm e=e') (h2:h=h'):vm P c Q e h=vm P c Q e' h':=by rw [nm_eq]at h1;rw [h1,h2]
@[congr] theorem zSQ {its:List II} {e e':PEnv} {h h':PHeap} (h1:nm e=e') (h2:h=h'):RVm P its e h KE=RVm P its e' h' KE:=by rw [nm_eq]at h1;rw [h1,h2]
@[congr] theorem zSM {it:II} {e e':PEnv} {h h':PHeap} (h1:nm e=e') (h2:h=h'):gem P it e h KM=gem P it e' h' KM:=by rw [nm_eq]at h1;rw [h1,h2]
@[congr] theorem cg_em {op:IOp} {e e':PEnv} {h h':PHeap} (h1:nm e=e') (h2:h=h'):em P op e h KM=em P op e' h' KM:=by rw [nm_eq]at h1;rw [h1,h2]
@[congr] theorem zSJ {f:FuncId} {args:List IX} {e e':PEnv} {h h':PHeap} (h1:nm e=e') (h2:h=h'):CallM P f args e h KM=CallM P f args e' h' KM:=by rw [nm_eq]at h1;rw [h1,h2]
theorem zRN (k:IntKind) (n:Int):rm L (.int k n)=.int k n:=rfl
theorem zPw (b:Bool):rm L (.bool b)=.bool b:=rfl
theorem zNu:rm L .undef=.undef:=rfl
theorem zRL (s:List UInt8):rm L (.str s)=.str s:=rfl
theorem zRM (s i:Nat):rm L (.ptr s i)=.ptr s i:=rfl
theorem zRO (cs:List PV):rm L (.agg cs)=.agg (rms L cs):=rfl
theorem zRK (cs:List PV):rm L (.tup cs)=.tup (rms L cs):=rfl
theorem zPv (w:Bool) (a:AV) (n:Nat):rm L (.fz w a n [])=.fz w a n []:=rfl
theorem zPt:rms L []=[]:=rfl
theorem zNr (c:PV) (cs:List PV):rms L (c::cs)=rm L c::rms L cs:=rfl
theorem zNt (cs:List PV):(hp.new cs).rmap L=(hp.rmap L).new (rms L cs):=by
 simp only [PHeap.rmap,PHeap.new]
 congr 1
 funext s
 by_cases x:s=hp.next<;>simp only [x,if_true,if_false,Option.map_some]
theorem zNs (s:Nat) (cs:List PV):(hp.set s cs).rmap L=(hp.rmap L).set s (rms L cs):=by
 simp only [PHeap.rmap,PHeap.set]
 congr 1
 funext t
 by_cases x:t=s<;>simp only [x,if_true,if_false,Option.map_some]
theorem zPu (t:Nat):(hp.up t).rmap L=(hp.rmap L).up t:=rfl
theorem zKW:(PHeap.start h).rmap L=PHeap.start h:=rfl
theorem up_up (t t':Nat):(hp.up t).up t'=hp.up t':=rfl
theorem zKh:(hp.rmap L).next=hp.next:=rfl
theorem zL5:(hp.rmap L).top=hp.top:=rfl
theorem zKe:(PHeap.start h).top=h.next:=rfl
end
def pm0:=And.intro @zPg <| And.intro @zLi <| And.intro @zPi <| And.intro @zRD <| And.intro @zPj <| And.intro @zPh <| And.intro @zRE <| And.intro @zQ2 <| And.intro @RVm_q <| And.intro @RVm_e <| And.intro @zOv <| And.intro @zOu <| And.intro @zQo <| And.intro @zO6 <| And.intro @zRs <| And.intro @zO5 <| And.intro @zLN <| And.intro @zRN <| And.intro @zPw <| And.intro @zNu <| And.intro @zRL <| And.intro @zRM <| And.intro @zRO <| And.intro @zRK <| And.intro @zPv <| And.intro @zPt <| And.intro @zNr <| And.intro @zNt <| And.intro @zNs <| And.intro @zPu <| And.intro @zKW <| And.intro @up_up <| And.intro @zKh <| @zL5
end Go.Ab
