/- WHOSE FROZEN VALUES ARE: results that are their own memory; what marks write, and how it reads behind them. -/
import Derived.Test.YtfoidnlodahfjaaGreatBAbPm
set_option linter.unusedVariables false
set_option linter.unusedSimpArgs false
namespace Go.Ab
variable {P:Program} {ι ι':Nat→Nat} {Z Z':Nat→Prop} {h h' h'':AHeap} {σ σ' σ0 σ1 σ2:PHeap} {n n' lo hi lo' hi' t t':Nat} {K:PV→PHeap→Prop} {L L':List (Nat×List PV)}
def isSl:AV→Bool
 | .sl _ _ _ _=>true
 | _=>false
mutual
def Wh:PV→Prop
 | .fz w a _ cs=>cs=[]∨(w=true∧isSl a=true∧Whs cs)
 | .fp _ cs=>cs=[]
 | .clo _ a b=>Whs a∧Whs b
 | .agg cs=>Whs cs
 | .tup cs=>Whs cs
 | _=>True
def Whs:List PV→Prop
 | []=>True
 | c::cs=>Wh c∧Whs cs
end
theorem Zd:∀{cs:List PV},Whs cs↔∀c∈cs,Wh c
 | []=>by simp [Whs]
 | c::cs=>by simp [Whs,Zd (cs:=cs)]
structure Own (lo hi:Nat) (v:PV):Prop where
 wh:Wh v
 nd:(ead v).Nodup
 lt:∀o∈ead v,lo≤o∧o<hi
structure Owns (lo hi:Nat) (cs:List PV):Prop where
 wh:Whs cs
 nd:(eads cs).Nodup
 lt:∀o∈eads cs,lo≤o∧o<hi
theorem Owns.mono {v:List PV} (h:Owns lo hi v) (h1:lo'≤lo) (h2:hi≤hi'):Owns lo' hi' v:=⟨h.wh,h.nd,fun o ho=>by have:=h.lt o ho;omega⟩
theorem Owns.nil (lo hi:Nat):Owns lo hi []:=⟨trivial,List.nodup_nil,fun o ho=>by cases ho⟩
theorem Owns.snoc {cs:List PV} {c:PV} (h:Owns lo t cs) (g:Own t hi c) (hl:lo≤t) (ht:t≤hi):Owns lo hi (cs++[c]):=by
 refine⟨Zd.2 fun x hx=>?_,?_,fun o ho=>?_⟩
 ·rcases List.mem_append.1 hx with hx | hx
  ·exact Zd.1 h.wh x hx
  ·rw [List.mem_singleton.1 hx];exact g.wh
 ·rw [qK,List.nodup_append]
  simp only [eads,List.append_nil];refine⟨h.nd,g.nd,fun a ha b hb e=>?_⟩
  have:=h.lt a ha
  have:=g.lt b hb
  omega
 ·rw [qK]at ho
  simp only [eads,List.append_nil,List.mem_append]at ho
  rcases ho with ho|ho
  ·have:=h.lt o ho;omega
  ·have:=g.lt o ho;omega
theorem Own.empty (lo hi:Nat) (w:Bool) (a:AV) (l:Nat):Own lo hi (.fz w a l []):=⟨.inl rfl,List.nodup_nil,fun o ho=>by cases ho⟩
theorem Owns.fz {cs:List PV} {o l:Nat} {cap:Cap} (h:Owns lo hi cs) (h1:lo≤o) (h2:o<hi) (hn:o∉eads cs):Own lo hi (.fz true (.sl o 0 l cap) l cs):=by
 refine⟨.inr ⟨rfl,rfl,h.wh⟩,?_,fun x hx=>?_⟩
 ·unfold ead
  cases cs.isEmpty
  ·simp only [cond_false,List.singleton_append]
   exact List.nodup_cons.2 ⟨hn,h.nd⟩
  ·exact List.nodup_nil
 ·unfold ead at hx
  cases he:cs.isEmpty<;>rw [he]at hx
  ·simp only [cond_false,List.singleton_append,List.mem_cons]at hx
   rcases hx with rfl|hx
   ·exact⟨h1,h2⟩
   ·exact h.lt x hx
  ·cases hx
theorem zFz (xs:List Int):eads (pis xs)=[]:=by
 induction xs with
 | nil=>rfl
 | cons x xs ih=>simp only [zKd,eads,ead,ih,List.append_nil]
theorem zMB (xs:List Int):Whs (pis xs):=by
 induction xs with
 | nil=>trivial
 | cons x xs ih=>exact⟨trivial,ih⟩
theorem Owns.pis (lo hi:Nat) (xs:List Int):Owns lo hi (pis xs):=⟨zMB xs,by rw [zFz];exact List.nodup_nil,fun o ho=>by rw [zFz]at ho;cases ho⟩
mutual
theorem zAi:∀{v:PV} {o:Nat},o∈ead v→o∈addrs v
 | .undef,o,ho | .bool _,o,ho | .int _ _,o,ho | .str _,o,ho | .nilp,o,ho | .nilf,o,ho | .ptr _ _,o,ho | .sl _ _ _ _,o,ho=>by simp [ead]at ho
 | .fz w a len cs,o,ho=>by
  unfold ead at ho
  cases he:cs.isEmpty<;>rw [he]at ho
  ·simp only [cond_false,List.mem_append]at ho
   have hc:o∈eads cs→o∈qU cs:=qd;cases a<;>simp only [addrs,List.mem_cons,List.not_mem_nil,false_or,or_false]at ho ⊢<;>first | exact ho.imp id hc | skip
  ·cases ho
 | .fp a cs,o,ho=>by
  unfold ead at ho
  cases he:cs.isEmpty<;>rw [he]at ho
  ·simp only [cond_false,List.mem_append]at ho
   have hc:o∈eads cs→o∈qU cs:=qd;cases a<;>simp only [addrs,he,Bool.false_eq_true,if_false,List.mem_append,List.mem_cons,List.not_mem_nil,false_or,or_false]at ho ⊢<;>first | exact ho.imp id hc | skip
  ·cases ho
 | .clo _ a b,o,ho=>by
  simp only [ead,addrs,List.mem_append]at ho ⊢
  exact ho.imp qd qd
 | .agg cs,o,ho=>qd (cs:=cs) ho
 | .tup cs,o,ho=>qd (cs:=cs) ho
theorem qd:∀{cs:List PV} {o:Nat},o∈eads cs→o∈qU cs
 | [],o,ho=>by cases ho
 | c::cs,o,ho=>by
  simp only [eads,qU,List.mem_append]at ho ⊢
  exact ho.imp zAi qd
end
theorem Gh.own {s l:Nat} {cap:Cap} {cs:List PV} (hk:Keep σ0 σ1) (hs:σ1.obj s=some cs) (h0:σ0.next≤s) (hb:Bels 0 cs) (hcap:capOK cap l=true) (ho:Owns σ0.top σ1.top cs)
  (k:∀o t,Own σ0.top t (.fz true (.sl o 0 l cap) l cs)→σ0.top≤t→K (.fz true (.sl o 0 l cap) l cs) (σ0.up t)):Gh σ0 K (.sl s 0 l cap) σ1:=
 Gh.finZ hk hs h0 hb hcap fun o h1 h2 t h3 h4=>k o t ((ho.mono (Nat.le_refl _) h4).fz h1 h3 fun hm=>h2 (qd hm)) (Nat.le_trans hk.top h4)
theorem zA.fzIT {f:FuncId} {args:List PV} {xs:List Int} (c:∀K':PV→PHeap→Prop,ResI σ K' xs→zA P f args σ K') (k:∀v t,FI v xs→Own σ.top t v→σ.top≤t→K v (σ.up t)):zA P f args σ K:=
 zA.gh (c _ ⟨fun h0=>by subst h0;exact Gh.ret (k _ σ.top ⟨true,.nils,rfl⟩ (Own.empty _ _ _ _ _) (Nat.le_refl _)),fun cap hc=>Gh.own (zB σ _) (by simp [PHeap.new]) (Nat.le_refl _) (zO _ _) hc.ok (Owns.pis _ _ _) fun o t h1 h2=>k _ t ⟨true,_,rfl⟩ h1 h2⟩)
theorem PAcc.own {e:Nat} {v:PV} {cs:List PV} (hk:Keep σ σ1) (a:PAcc σ.next e σ1 v n cs) (hb:Bels 0 cs) (ho:Owns σ.top σ1.top cs)
  (k:∀a t,Own σ.top t (.fz true a n cs)→σ.top≤t→K (.fz true a n cs) (σ.up t)):Gh σ K v σ1:=by
 rcases a with ⟨rfl,rfl,rfl⟩|⟨s,cap,rfl,hc,q2,q3,q4,q5⟩
 ·exact Gh.fin0T hk hk.top trivial fun _=>k _ σ.top (Own.empty _ _ _ _ _) (Nat.le_refl _)
 ·exact Gh.own hk q2 q4 hb hc.ok ho fun o t h1 h2=>k _ t h1 h2
theorem zIG {α:Type} {cs:List α} (h:cs≠[]):cs.isEmpty=false:=by cases cs;exact absurd rfl h;rfl
theorem zJp {w:Bool} {o off l n:Nat} {cap:Cap} {cs:List PV} (hne:cs≠[]):ead (.fz w (.sl o off l cap) n cs)=o::eads cs:=by
 rw [ead,zIG hne];rfl
variable {α:Type} {R:PV→α→Prop} {mk:Int→PV→α→List (Nat×List PV)} {len:α→Nat} {sq:Int→α→α}
end Go.Ab
