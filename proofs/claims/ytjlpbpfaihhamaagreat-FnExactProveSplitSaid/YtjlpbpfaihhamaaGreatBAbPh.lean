/- LISTS OF ROWS AND OF MATRICES THAT GROW IN SLOTS: what one step of a loop keeps. -/
import Derived.Test.YtjlpbpfaihhamaaGreatBAbPk
set_option linter.unusedVariables false
set_option linter.unusedSimpArgs false
namespace Go.Ab
variable {H hg hk h:PHeap} {K:PV×PHeap→Prop} {v:PV} {p d:Int}
structure RowsI (hg h:PHeap) (v:PV) (rows:List SR):Prop where
 keep:Keep hg h
 acc:PAcc hg.next 1 h v rows.length (rows.map SR.pv)
 ok:∀q∈rows,q.ok h hg.next
 nd:(zB0 rows).Nodup
 ne:∀r∈zB0 rows,∀off l c,v≠.sl r off l c
theorem RowsI.nil (hg:PHeap):RowsI hg hg (.fz true .nils 0 []) []:=⟨Keep.refl _,PAcc.nil _ _ _,fun q hq=>(by cases hq),List.nodup_nil,fun r hr=>(by cases hr)⟩
theorem RowsI.new (hg:PHeap):RowsI hg (hg.new []) (.sl hg.next 0 0 (.known 0)) []:=⟨zC _ _,(PSl.new _ 1 rfl (Nat.le_refl _)).acc,fun q hq=>(by cases hq),List.nodup_nil,fun r hr=>(by cases hr)⟩
theorem RowsI.push {rows:List SR} {t:Nat} {cap:Cap} {x:List Int} (a:RowsI hg hk v rows) (k1:Keep hk h) (ht:hk.next≤t) (ht2:t<h.next) (ho:h.obj t=some (pis x)) (hf:full 1 cap x.length) (hb:rows.length≤1000)
  (k:∀v' h2,RowsI hg h2 v' (rows++[⟨t,cap,x⟩])→Keep hg h2→h.next<h2.next→K (v',h2)):optK (qo 1 24 (h.new [.sl t 0 x.length cap]) v (.sl h.next 0 1 (.known 1))) K:=by
 have hkn:=a.keep.next;have hkp:=a.keep.trans k1;have vlt:∀u,hk.next≤u→∀off l c,v≠.sl u off l c:=fun u hu=>a.acc.ne hu
 refine PAcc.pushS (σb:=hg) (bytes:=24) hkp (a.acc.keep k1) rfl (by omega) (by omega) fun v' h2 k2 a2 o2 n2 l2=>?_
 have old:∀q∈rows,q.ok h2 hg.next∧q.s<hk.next:=fun q hq=>by
  obtain⟨h1,h2',h3,h4⟩:=a.ok q hq;have h5:=k1.next;refine⟨⟨h1,?_,h3,by omega⟩,h4⟩
  rw [o2 _ (by omega) (a.ne _ (List.mem_map.2 ⟨q,hq,rfl⟩)),k1.obj _ h4];exact h2'
 refine k v' h2 ⟨k2,?_,fun q hq=>?_,?_,fun r hr=>?_⟩ k2 l2
 ·have:=a2.acc
  simpa [SR.pv]using this
 ·rcases List.mem_append.1 hq with hq | hq
  ·exact(old q hq).1
  ·rw [List.mem_singleton.1 hq]
   exact⟨hf,by rw [o2 t ht2 (vlt t ht)];exact ho,by show hg.next≤t;omega,by show t<h2.next;omega⟩
 ·unfold zB0
  rw [List.map_append,List.nodup_append];refine⟨a.nd,by simp,fun y hy z hz e=>?_⟩
  obtain⟨q,hq,rfl⟩:=List.mem_map.1 hy;simp only [List.map_cons,List.map_nil,List.mem_singleton]at hz
  have:=(old q hq).2
  omega
 ·unfold zB0 at hr
  rw [List.map_append,List.mem_append]at hr
  rcases hr with hr|hr
  ·obtain⟨q,hq,rfl⟩:=List.mem_map.1 hr
   have h5:=k1.next
   have:=(old q hq).2
   exact n2 _ (by omega)
  ·simp only [List.map_cons,List.map_nil,List.mem_singleton]at hr
   subst hr;exact n2 _ ht2
end Go.Ab
