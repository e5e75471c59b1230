/- TREES OF SLOTS: a value whose parts lie in slots of their own is frozen at a function's end in one step; all of it is new memory. -/
import Derived.Test.YtjlpbpfaihhamaaGreatBAbPh
set_option linter.unusedVariables false
set_option linter.unusedSimpArgs false
namespace Go.Ab
variable {σ0 σ1 σ:PHeap} {K:PV→PHeap→Prop} {ι:Nat→Nat} {Z Z':Nat→Prop} {h:AHeap} {b lo hi:Nat} {a:Nat→Nat}
inductive TR where
 | leaf (v:PV)
 | nil
 | lst (s:Nat) (cap:Cap) (kids:List TR)
 | cut (s off l:Nat) (cap:Cap) (kids:List TR)
 | agg (kids:List TR)
 | tup (kids:List TR)
def leafy:PV→Prop
 | .int _ _ | .bool _ | .str _=>True
 | _=>False
mutual
def TR.pv:TR→PV
 | .leaf v=>v
 | .nil=>.fz true .nils 0 []
 | .lst s cap kids=>.sl s 0 kids.length cap
 | .cut s off l cap kids=>.sl s off l cap
 | .agg kids=>.agg (TR.pvs kids)
 | .tup kids=>.tup (TR.pvs kids)
def TR.pvs:List TR→List PV
 | []=>[]
 | t::ts=>TR.pv t::TR.pvs ts
end
mutual
def TR.fz (a:Nat→Nat):TR→PV
 | .leaf v=>v
 | .nil=>.fz true .nils 0 []
 | .lst s cap kids=>.fz true (.sl (a s) 0 kids.length cap) kids.length (TR.fzs a kids)
 | .cut s off l cap kids=>.fz false (.sl (a s) off l cap) l (((TR.fzs a kids).drop off).take l)
 | .agg kids=>.agg (TR.fzs a kids)
 | .tup kids=>.tup (TR.fzs a kids)
def TR.fzs (a:Nat→Nat):List TR→List PV
 | []=>[]
 | t::ts=>TR.fz a t::TR.fzs a ts
end
mutual
def TR.slots:TR→List Nat
 | .leaf _=>[]
 | .nil=>[]
 | .lst s _ kids=>s::TR.slotss kids
 | .cut s _ _ _ kids=>s::TR.slotss kids
 | .agg kids=>TR.slotss kids
 | .tup kids=>TR.slotss kids
def TR.slotss:List TR→List Nat
 | []=>[]
 | t::ts=>TR.slots t++TR.slotss ts
end
mutual
def TR.ok (σ:PHeap) (b:Nat):TR→Prop
 | .leaf v=>leafy v
 | .nil=>True
 | .lst s cap kids=>(full 1 cap kids.length∧σ.obj s=some (TR.pvs kids)∧b≤s∧s<σ.next)∧TR.oks σ b kids
 | .cut _ _ _ _ _=>False
 | .agg kids=>TR.oks σ b kids
 | .tup kids=>TR.oks σ b kids
def TR.oks (σ:PHeap) (b:Nat):List TR→Prop
 | []=>True
 | t::ts=>TR.ok σ b t∧TR.oks σ b ts
end
theorem zOh {v:PV} (h:leafy v) (ι ι':Nat→Nat):er ι v=er ι' v:=by
 cases v<;>simp only [leafy]at h<;>rfl
theorem zMk {v:PV} (hl:leafy v) (n:Nat):VOK Z h n v:=by
 cases v<;>simp only [leafy]at hl<;>trivial
mutual
theorem TR.er_fz (κ:Nat→Nat):∀{t:TR},t.ok σ b→er κ (t.fz ι)=er ι t.pv
 | .leaf v,ht=>zOh ht _ _
 | .nil,_=>rfl
 | .lst s cap kids,ht=>rfl
 | .cut _ _ _ _ _,ht=>ht.elim
 | .agg kids,ht=>by simp only [TR.fz,TR.pv,er];rw [TR.ers_fz κ (ts:=kids) ht]
 | .tup kids,ht=>by simp only [TR.fz,TR.pv,er];rw [TR.ers_fz κ (ts:=kids) ht]
theorem TR.ers_fz (κ:Nat→Nat):∀{ts:List TR},TR.oks σ b ts→ers κ (TR.fzs ι ts)=ers ι (TR.pvs ts)
 | [],_=>rfl
 | t::ts,ht=>by simp only [TR.fzs,TR.pvs,ers];rw [TR.er_fz κ ht.1,TR.ers_fz κ ht.2]
end
mutual
theorem TR.vok (r:Rel ι Z σ h):∀{t:TR},t.ok σ b→(∀s∈t.slots,Z' (ι s))→VOK Z' h 0 (t.fz ι)
 | .leaf v,ht,_=>zMk ht 0
 | .nil,_,_=>⟨.inl ⟨rfl,rfl,rfl⟩,trivial⟩
 | .lst s cap kids,⟨⟨h1,h2,h3,h4⟩,ht⟩,hz=>by
  obtain⟨q1,q2,q3⟩:=r.obj s _ h2;rw [←TR.ers_fz idz ht]at q1
  refine⟨.inr ⟨ι s,0,cap,rfl,hz s (List.mem_cons_self ..),.inr (Qw q1 rfl),fun c hc=>?_,fun _=>⟨rfl,q1⟩⟩,TR.voks r ht fun s' hs'=>hz s' (List.mem_cons_of_mem _ hs')⟩
  subst hc
  have:=h1.ok
  simpa [capOK]using this
 | .cut _ _ _ _ _,ht,_=>ht.elim
 | .agg kids,ht,hz=>TR.voks r (ts:=kids) ht hz
 | .tup kids,ht,hz=>TR.voks r (ts:=kids) ht hz
theorem TR.voks (r:Rel ι Z σ h):∀{ts:List TR},TR.oks σ b ts→(∀s∈TR.slotss ts,Z' (ι s))→VOKs Z' h 0 (TR.fzs ι ts)
 | [],_,_=>trivial
 | t::ts,ht,hz=>⟨TR.vok r ht.1 fun s hs=>hz s (List.mem_append.2 (.inl hs)),TR.voks r ht.2 fun s hs=>hz s (List.mem_append.2 (.inr hs))⟩
end
mutual
theorem TR.slot_obj:∀{t:TR},t.ok σ b→∀s∈t.slots,b≤s∧∃cs,σ.obj s=some cs
 | .leaf v,_,s,hs=>by cases hs
 | .nil,_,s,hs=>by cases hs
 | .lst s' cap kids,⟨⟨h1,h2,h3,h4⟩,ht⟩,s,hs=>by
  simp only [TR.slots,List.mem_cons]at hs
  rcases hs with rfl|hs
  ·exact⟨h3,_,h2⟩
  ·exact TR.slots_obj ht s hs
 | .cut _ _ _ _ _,ht,_,_=>ht.elim
 | .agg kids,ht,s,hs=>TR.slots_obj (ts:=kids) ht s hs
 | .tup kids,ht,s,hs=>TR.slots_obj (ts:=kids) ht s hs
theorem TR.slots_obj:∀{ts:List TR},TR.oks σ b ts→∀s∈TR.slotss ts,b≤s∧∃cs,σ.obj s=some cs
 | [],_,s,hs=>by cases hs
 | t::ts,ht,s,hs=>by
  simp only [TR.slotss,List.mem_append]at hs
  rcases hs with hs|hs
  ·exact TR.slot_obj ht.1 s hs
  ·exact TR.slots_obj ht.2 s hs
end
theorem Gh.tree {t:TR} (hk:Keep σ0 σ1) (ht:t.ok σ1 σ0.next)
  (k:∀a T,(∀s∈t.slots,σ0.top≤a s∧a s<T)→(∀s∈t.slots,∀s'∈t.slots,a s=a s'→s=s')→σ0.top≤T→K (t.fz a) (σ0.up T)):Gh σ0 K t.pv σ1:=by
 intro w ι Z h b r hv h1 h2 h3 h4;have hso:=TR.slot_obj ht;have hlt:∀{s:Nat} {cs:List PV},σ1.obj s=some cs→ι s<h.next:=fun hs=>r.hwf.lt (r.obj _ _ hs).1
 have hz1:∀o,Z o→(Z o∨∃s∈t.slots,o=ι s)∧h.obj o=h.obj o:=fun o ho=>⟨.inl ho,rfl⟩
 have hin:∀s∈t.slots,∀s'∈t.slots,ι s=ι s'→s=s':=fun s hs s' hs' e=>by
  obtain⟨_,cs,g⟩:=hso s hs;obtain⟨_,cs',g'⟩:=hso s' hs';exact r.inj s s' cs cs' g g' e
 refine⟨t.fz ι,σ0.up h.next,ι,fun o=>Z o∨∃s∈t.slots,o=ι s,⟨r.hwf,?_,Nat.le_refl _,w.wf,fun s cs hs=>?_,fun s s' cs cs' hs hs' he=>?_⟩,?_,Nat.le_refl _,fun _ _=>rfl,fun _ ho=>.inl ho,fun s cs hs hc=>?_,fun s hs hn=>hn,TR.er_fz ι ht,k ι h.next (fun s hs=>?_) hin (Nat.le_trans hk.top r.top)⟩
 ·rintro o (ho | ⟨s,hs,rfl⟩)
  ·exact r.zlt o ho
  ·obtain⟨_,cs,g⟩:=hso s hs
   exact hlt g
 ·have hl:=w.lt hs
  have hs1:σ1.obj s=some cs:=by rw [hk.obj s hl];exact hs
  obtain⟨q1,q2,q3⟩:=r.obj s cs hs1;refine⟨q1,(q2.of_bel (w.bel s cs hs)).mono hz1 (Nat.le_refl _),?_⟩
  rintro (hz | ⟨s',hs',e⟩)
  ·exact q3 hz
  ·obtain⟨g0,cs',g⟩:=hso s' hs'
   have:=r.inj s s' cs cs' hs1 g e
   omega
 ·exact r.inj s s' cs cs' (by rw [hk.obj s (w.lt hs)];exact hs) (by rw [hk.obj s' (w.lt hs')];exact hs') he
 ·exact(TR.vok r ht fun s hs=>.inr ⟨s,hs,rfl⟩).mono (fun o ho=>⟨ho,rfl⟩) (Nat.zero_le _)
 ·have:=w.lt hc
  omega
 ·obtain⟨g0,cs,g⟩:=hso s hs
  exact⟨Nat.le_trans h2 (h3 s cs g0 g),hlt g⟩
theorem zMl {v:PV} (h:leafy v):ead v=[]∧Wh v:=by
 cases v<;>simp only [leafy]at h<;>exact⟨rfl,trivial⟩
mutual
theorem TR.ead_sub:∀{t:TR},t.ok σ b→(ead (t.fz a)).Sublist (t.slots.map a)∧Wh (t.fz a)
 | .leaf v,ht=>by
  obtain⟨h1,h2⟩:=zMl ht;exact⟨by simp only [TR.fz,TR.slots,h1,List.map_nil];exact List.Sublist.refl _,h2⟩
 | .nil,_=>⟨List.Sublist.refl _,.inl rfl⟩
 | .lst s cap kids,⟨_,ht⟩=>by
  obtain⟨h1,h2⟩:=TR.eads_sub ht;simp only [TR.fz,TR.slots,List.map_cons]
  by_cases hn:TR.fzs a kids=[]
  ·rw [hn];exact⟨List.nil_sublist _,.inl rfl⟩
  ·rw [QB hn]
   exact⟨List.Sublist.cons_cons _ h1,.inr ⟨rfl,rfl,h2⟩⟩
 | .cut _ _ _ _ _,ht=>ht.elim
 | .agg kids,ht=>TR.eads_sub (ts:=kids) ht
 | .tup kids,ht=>TR.eads_sub (ts:=kids) ht
theorem TR.eads_sub:∀{ts:List TR},TR.oks σ b ts→(eads (TR.fzs a ts)).Sublist ((TR.slotss ts).map a)∧Whs (TR.fzs a ts)
 | [],_=>⟨List.Sublist.refl _,trivial⟩
 | t::ts,ht=>by
  obtain⟨h1,h2⟩:=TR.ead_sub ht.1;obtain⟨h3,h4⟩:=TR.eads_sub ht.2;simp only [TR.fzs,TR.slotss,eads,List.map_append];exact⟨h1.append h3,h2,h4⟩
end
theorem zG2 {xs:List Nat} (hn:xs.Nodup) (hi:∀s∈xs,∀s'∈xs,a s=a s'→s=s'):(xs.map a).Nodup:=by
 induction xs with
 | nil=>exact List.nodup_nil
 | cons x xs ih=>
  rw [List.nodup_cons]at hn
  rw [List.map_cons,List.nodup_cons];refine⟨fun hm=>?_,ih hn.2 fun s hs s' hs'=>hi s (List.mem_cons_of_mem _ hs) s' (List.mem_cons_of_mem _ hs')⟩
  obtain⟨y,hy,e⟩:=List.mem_map.1 hm
  have:=hi y (List.mem_cons_of_mem _ hy) x (List.mem_cons_self ..) e
  exact hn.1 (this ▸ hy)
theorem TR.own {t:TR} (ht:t.ok σ b) (hn:t.slots.Nodup) (hb:∀s∈t.slots,lo≤a s∧a s<hi) (hi_:∀s∈t.slots,∀s'∈t.slots,a s=a s'→s=s'):Own lo hi (t.fz a):=by
 obtain⟨h1,h2⟩:=TR.ead_sub (a:=a) ht;refine⟨h2,(zG2 hn hi_).sublist h1,fun o ho=>?_⟩
 obtain⟨s,hs,rfl⟩:=List.mem_map.1 (h1.subset ho);exact hb s hs
theorem Gh.treeO {t:TR} (hk:Keep σ0 σ1) (ht:t.ok σ1 σ0.next) (hn:t.slots.Nodup) (k:∀a T,Own σ0.top T (t.fz a)→σ0.top≤T→K (t.fz a) (σ0.up T)):Gh σ0 K t.pv σ1:=
 Gh.tree hk ht fun a T h1 h2 h3=>k a T (TR.own ht hn h1 h2) h3
def TR.row (s:Nat) (cap:Cap) (x:List Int):TR:=.lst s cap (x.map fun n=>.leaf (.int .i64 n))
theorem TR.ints_pvs:∀x:List Int,TR.pvs (x.map fun n=>.leaf (.int .i64 n))=pis x
 | []=>rfl
 | n::x=>by simp only [List.map_cons,TR.pvs,TR.pv,TR.ints_pvs x];rfl
theorem TR.ints_fzs:∀x:List Int,TR.fzs a (x.map fun n=>.leaf (.int .i64 n))=pis x
 | []=>rfl
 | n::x=>by simp only [List.map_cons,TR.fzs,TR.fz,TR.ints_fzs x];rfl
theorem TR.ints_oks:∀x:List Int,TR.oks σ b (x.map fun n=>.leaf (.int .i64 n))
 | []=>trivial
 | n::x=>⟨trivial,TR.ints_oks x⟩
theorem TR.ints_slots:∀x:List Int,TR.slotss (x.map fun n=>.leaf (.int .i64 n))=[]
 | []=>rfl
 | n::x=>by simp only [List.map_cons,TR.slotss,TR.slots,List.nil_append,TR.ints_slots x]
theorem TR.row_pv {s:Nat} {cap:Cap} {x:List Int}:(TR.row s cap x).pv=.sl s 0 x.length cap:=by simp [TR.row,TR.pv]
theorem TR.row_fz {s:Nat} {cap:Cap} {x:List Int}:(TR.row s cap x).fz a=.fz true (.sl (a s) 0 x.length cap) x.length (pis x):=by simp only [TR.row,TR.fz,TR.ints_fzs,List.length_map]
theorem TR.row_FI {s:Nat} {cap:Cap} {x:List Int}:FI ((TR.row s cap x).fz a) x:=⟨true,_,TR.row_fz⟩
theorem TR.row_ok {s:Nat} {cap:Cap} {x:List Int} (h1:full 1 cap x.length) (h2:σ.obj s=some (pis x)) (h3:b≤s) (h4:s<σ.next):(TR.row s cap x).ok σ b:=
 ⟨⟨by rw [List.length_map];exact h1,by rw [TR.ints_pvs];exact h2,h3,h4⟩,TR.ints_oks x⟩
theorem TR.row_slots {s:Nat} {cap:Cap} {x:List Int}:(TR.row s cap x).slots=[s]:=by simp only [TR.row,TR.slots,TR.ints_slots]
def SR.tr (q:SR):TR:=TR.row q.s q.cap q.x
theorem SR.ok.tr {q:SR} (h:q.ok σ b):q.tr.ok σ b:=TR.row_ok h.1 h.2.1 h.2.2.1 h.2.2.2
theorem TR.rows_pvs:∀rows:List SR,TR.pvs (rows.map SR.tr)=rows.map SR.pv
 | []=>rfl
 | q::rows=>by simp only [List.map_cons,TR.pvs,TR.rows_pvs rows];rw [show q.tr.pv=q.pv from TR.row_pv]
theorem TR.rows_oks:∀{rows:List SR},(∀q∈rows,q.ok σ b)→TR.oks σ b (rows.map SR.tr)
 | [],_=>trivial
 | q::rows,h=>⟨(h q (List.mem_cons_self ..)).tr,TR.rows_oks fun q' hq=>h q' (List.mem_cons_of_mem _ hq)⟩
theorem TR.rows_slots:∀rows:List SR,TR.slotss (rows.map SR.tr)=zB0 rows
 | []=>rfl
 | q::rows=>by
  simp only [List.map_cons,TR.slotss,TR.rows_slots rows];rw [show q.tr.slots=[q.s] from TR.row_slots];rfl
theorem TR.rows_all2:∀rows:List SR,All2 FI (TR.fzs a (rows.map SR.tr)) (rows.map SR.x)
 | []=>All2.nil _
 | q::rows=>by
  have h:=TR.rows_all2 rows;refine⟨by simp only [List.map_cons,TR.fzs,List.length_cons,h.1],fun k c x hc hx=>?_⟩
  cases k with
  | zero=>
   simp only [List.map_cons,TR.fzs,List.getElem?_cons_zero,Option.some.injEq]at hc hx
   rw [←hc,←hx];exact TR.row_FI
  | succ k=>
   simp only [List.map_cons,TR.fzs,List.getElem?_cons_succ]at hc hx
   exact h.2 k c x hc hx
def TR.rows (s:Nat) (cap:Cap) (rows:List SR):TR:=.lst s cap (rows.map SR.tr)
theorem TR.rows_FII {s:Nat} {cap:Cap} {rows:List SR}:FII ((TR.rows s cap rows).fz a) (rows.map SR.x):=
 ⟨true,.sl (a s) 0 rows.length cap,TR.fzs a (rows.map SR.tr),by simp only [TR.rows,TR.fz,List.length_map],TR.rows_all2 rows⟩
theorem TR.rows_ok {s:Nat} {cap:Cap} {rows:List SR} (h1:full 1 cap rows.length) (h2:σ.obj s=some (rows.map SR.pv)) (h3:b≤s) (h4:s<σ.next) (h5:∀q∈rows,q.ok σ b):(TR.rows s cap rows).ok σ b:=
 ⟨⟨by rw [List.length_map];exact h1,by rw [TR.rows_pvs];exact h2,h3,h4⟩,TR.rows_oks h5⟩
end Go.Ab
