/- TREES OF SLOTS: a value whose parts lie in slots of their own is frozen at a function's end in one step; all of it is new memory. -/
import Derived.Test.YtcbdjookdepkbaaGreatAAbPq
set_option linter.unusedVariables false
set_option linter.unusedSimpArgs false
namespace Go.Ab
variable {σ0 σ1 σ:PHeap} {K:PV→PHeap→Prop} {ι:Nat→Nat} {Z Z':Nat→Prop} {h:AHeap} {b lo hi:Nat} {a:Nat→Nat}
inductive TR where
 | leaf (v:PV)
 | nil
 | lst (s:Nat) (cap:Cap) (kids:List TR)
 | cut (s off l:Nat) (cap:Cap) (kids:List TR)
 | agg (kids:List TR)
 | tup (kids:List TR)
def leafy:PV→Prop
 | .int _ _ | .bool _ | .str _=>True
 | _=>False
mutual
def TR.pv:TR→PV
 | .leaf v=>v
 | .nil=>.fz true .nils 0 []
 | .lst s cap kids=>.sl s 0 kids.length cap
 | .cut s off l cap kids=>.sl s off l cap
 | .agg kids=>.agg (TR.pvs kids)
 | .tup kids=>.tup (TR.pvs kids)
def TR.pvs:List TR→List PV
 | []=>[]
 | t::ts=>TR.pv t::TR.pvs ts
end
mutual
def TR.fz (a:Nat→Nat):TR→PV
 | .leaf v=>v
 | .nil=>.fz true .nils 0 []
 | .lst s cap kids=>.fz true (.sl (a s) 0 kids.length cap) kids.length (TR.fzs a kids)
 | .cut s off l cap kids=>.fz false (.sl (a s) off l cap) l (((TR.fzs a kids).drop off).take l)
 | .agg kids=>.agg (TR.fzs a kids)
 | .tup kids=>.tup (TR.fzs a kids)
def TR.fzs (a:Nat→Nat):List TR→List PV
 | []=>[]
 | t::ts=>TR.fz a t::TR.fzs a ts
end
mutual
def TR.slots:TR→List Nat
 | .leaf _=>[]
 | .nil=>[]
 | .lst s _ kids=>s::TR.slotss kids
 | .cut s _ _ _ kids=>s::TR.slotss kids
 | .agg kids=>TR.slotss kids
 | .tup kids=>TR.slotss kids
def TR.slotss:List TR→List Nat
 | []=>[]
 | t::ts=>TR.slots t++TR.slotss ts
end
mutual
def TR.ok (σ:PHeap) (b:Nat):TR→Prop
 | .leaf v=>leafy v
 | .nil=>True
 | .lst s cap kids=>(full 1 cap kids.length∧σ.obj s=some (TR.pvs kids)∧b≤s∧s<σ.next)∧TR.oks σ b kids
 | .cut _ _ _ _ _=>False
 | .agg kids=>TR.oks σ b kids
 | .tup kids=>TR.oks σ b kids
def TR.oks (σ:PHeap) (b:Nat):List TR→Prop
 | []=>True
 | t::ts=>TR.ok σ b t∧TR.oks σ b ts
end
theorem TR.fzs_length:∀ts:List TR,(TR.fzs a ts).length=ts.length
 | []=>rfl
 | t::ts=>by simp only [TR.fzs,List.length_cons,TR.fzs_length ts]
mutual
theorem TR.slot_obj:∀{t:TR},t.ok σ b→∀s∈t.slots,b≤s∧∃cs,σ.obj s=some cs
 | .leaf v,_,s,hs=>by cases hs
 | .nil,_,s,hs=>by cases hs
 | .lst s' cap kids,⟨⟨h1,h2,h3,h4⟩,ht⟩,s,hs=>by
  simp only [TR.slots,List.mem_cons]at hs
  rcases hs with rfl|hs
  ·exact⟨h3,_,h2⟩
  ·exact TR.slots_obj ht s hs
 | .cut _ _ _ _ _,ht,_,_=>ht.elim
 | .agg kids,ht,s,hs=>TR.slots_obj (ts:=kids) ht s hs
 | .tup kids,ht,s,hs=>TR.slots_obj (ts:=kids) ht s hs
theorem TR.slots_obj:∀{ts:List TR},TR.oks σ b ts→∀s∈TR.slotss ts,b≤s∧∃cs,σ.obj s=some cs
 | [],_,s,hs=>by cases hs
 | t::ts,ht,s,hs=>by
  simp only [TR.slotss,List.mem_append]at hs
  rcases hs with hs|hs
  ·exact TR.slot_obj ht.1 s hs
  ·exact TR.slots_obj ht.2 s hs
end
mutual
def TR.okF (σ:PHeap) (b:Nat):TR→Prop
 | .leaf v=>Bel 0 v
 | .nil=>True
 | .lst s cap kids=>(full 1 cap kids.length∧σ.obj s=some (TR.pvs kids)∧b≤s∧s<σ.next)∧TR.okFs σ b kids
 | .cut s off l cap kids=>((∀c,cap=.known c→l≤c)∧σ.obj s=some (TR.pvs kids)∧b≤s∧s<σ.next∧off+l≤kids.length)∧TR.okFs σ b kids
 | .agg kids=>TR.okFs σ b kids
 | .tup kids=>TR.okFs σ b kids
def TR.okFs (σ:PHeap) (b:Nat):List TR→Prop
 | []=>True
 | t::ts=>TR.okF σ b t∧TR.okFs σ b ts
end
mutual
theorem TR.vokF (r:Rel ι Z σ h) (hzz:∀o,Z o→Z' o):∀{n:Nat} {t:TR},t.okF σ b→VOK Z h n t.pv→(∀s∈t.slots,Z' (ι s))→VOK Z' h 0 (t.fz ι)∧∀κ,er κ (t.fz ι)=er ι t.pv
 | n,.leaf v,ht,hv,_=>by
  have h0:VOK Z h 0 v:=VOK.of_bel hv ht;exact⟨h0.mono (fun o ho=>⟨hzz o ho,rfl⟩) (Nat.le_refl _),fun κ=>show er κ v=er ι v from(zBp h0).trans (zBp h0).symm⟩
 | n,.nil,_,_,_=>⟨⟨.inl ⟨rfl,rfl,rfl⟩,trivial⟩,fun _=>rfl⟩
 | n,.lst s cap kids,⟨⟨h1,h2,h3,h4⟩,ht⟩,hv,hz=>by
  obtain⟨q1,q2,q3⟩:=r.obj s _ h2;obtain⟨g1,g2⟩:=TR.voksF r hzz ht q2 fun s' hs'=>hz s' (List.mem_cons_of_mem _ hs')
  rw [←g2 idz]at q1
  refine⟨⟨.inr ⟨ι s,0,cap,rfl,hz s (List.mem_cons_self ..),.inr (zAG q1 rfl),fun c hc=>?_,fun _=>⟨rfl,q1⟩⟩,g1⟩,fun κ=>rfl⟩
  subst hc
  have:=h1.ok
  simpa [capOK]using this
 | n,.cut s off l cap kids,⟨⟨h1,h2,h3,h4,h5⟩,ht⟩,hv,hz=>by
  obtain⟨q1,q2,q3⟩:=r.obj s _ h2;obtain⟨g1,g2⟩:=TR.voksF r hzz ht q2 fun s' hs'=>hz s' (List.mem_cons_of_mem _ hs')
  rw [←g2 idz]at q1
  have hl:(((TR.fzs ι kids).drop off).take l).length=l:=by rw [List.length_take,List.length_drop,TR.fzs_length];omega
  refine⟨⟨.inr ⟨ι s,off,cap,rfl,hz s (List.mem_cons_self ..),.inr ?_,h1,fun e=>by cases e⟩,(g1.drop off).take l⟩,fun κ=>rfl⟩
  rw [ZT,ZU,List.length_take,List.length_drop,zR,TR.fzs_length,Nat.min_eq_left (by omega)]
  exact zAY q1 (by show off+l≤(ers idz (TR.fzs ι kids)).length;rw [zR,TR.fzs_length];exact h5)
 | n,.agg kids,ht,hv,hz=>by
  obtain⟨g1,g2⟩:=TR.voksF (ts:=kids) r hzz ht hv hz;exact⟨g1,fun κ=>by simp only [TR.fz,TR.pv,er];rw [g2 κ]⟩
 | n,.tup kids,ht,hv,hz=>by
  obtain⟨g1,g2⟩:=TR.voksF (ts:=kids) r hzz ht hv hz;exact⟨g1,fun κ=>by simp only [TR.fz,TR.pv,er];rw [g2 κ]⟩
theorem TR.voksF (r:Rel ι Z σ h) (hzz:∀o,Z o→Z' o):∀{n:Nat} {ts:List TR},TR.okFs σ b ts→VOKs Z h n (TR.pvs ts)→(∀s∈TR.slotss ts,Z' (ι s))→VOKs Z' h 0 (TR.fzs ι ts)∧∀κ,ers κ (TR.fzs ι ts)=ers ι (TR.pvs ts)
 | n,[],_,_,_=>⟨trivial,fun _=>rfl⟩
 | n,t::ts,ht,hv,hz=>by
  obtain⟨g1,g2⟩:=TR.vokF r hzz ht.1 hv.1 fun s hs=>hz s (List.mem_append.2 (.inl hs))
  obtain⟨g3,g4⟩:=TR.voksF r hzz ht.2 hv.2 fun s hs=>hz s (List.mem_append.2 (.inr hs))
  exact⟨⟨g1,g3⟩,fun κ=>by simp only [TR.fzs,TR.pvs,ers];rw [g2 κ,g4 κ]⟩
end
mutual
theorem TR.slot_objF:∀{t:TR},t.okF σ b→∀s∈t.slots,b≤s∧∃cs,σ.obj s=some cs
 | .leaf v,_,s,hs=>by cases hs
 | .nil,_,s,hs=>by cases hs
 | .lst s' cap kids,⟨⟨h1,h2,h3,h4⟩,ht⟩,s,hs=>by
  simp only [TR.slots,List.mem_cons]at hs
  rcases hs with rfl|hs
  ·exact⟨h3,_,h2⟩
  ·exact TR.slots_objF ht s hs
 | .cut s' off l cap kids,⟨⟨h1,h2,h3,h4,h5⟩,ht⟩,s,hs=>by
  simp only [TR.slots,List.mem_cons]at hs
  rcases hs with rfl|hs
  ·exact⟨h3,_,h2⟩
  ·exact TR.slots_objF ht s hs
 | .agg kids,ht,s,hs=>TR.slots_objF (ts:=kids) ht s hs
 | .tup kids,ht,s,hs=>TR.slots_objF (ts:=kids) ht s hs
theorem TR.slots_objF:∀{ts:List TR},TR.okFs σ b ts→∀s∈TR.slotss ts,b≤s∧∃cs,σ.obj s=some cs
 | [],_,s,hs=>by cases hs
 | t::ts,ht,s,hs=>by
  simp only [TR.slotss,List.mem_append]at hs
  rcases hs with hs|hs
  ·exact TR.slot_objF ht.1 s hs
  ·exact TR.slots_objF ht.2 s hs
end
theorem Gh.treeF {t:TR} (hk:Keep σ0 σ1) (ht:t.okF σ1 σ0.next) (k:∀a,K (t.fz a) σ0):Gh σ0 K t.pv σ1:=by
 intro w ι Z h b r hv h1 h2 h3 h4;have hso:=TR.slot_objF ht;have hlt:∀{s:Nat} {cs:List PV},σ1.obj s=some cs→ι s<h.next:=fun hs=>r.hwf.lt (r.obj _ _ hs).1
 have hz1:∀o,Z o→(Z o∨∃s∈t.slots,o=ι s)∧h.obj o=h.obj o:=fun o ho=>⟨.inl ho,rfl⟩
 obtain⟨v1,v2⟩:=TR.vokF (Z':=fun o=>Z o∨∃s∈t.slots,o=ι s) r (fun o ho=>.inl ho) ht hv fun s hs=>.inr ⟨s,hs,rfl⟩
 refine⟨t.fz ι,σ0,ι,fun o=>Z o∨∃s∈t.slots,o=ι s,⟨r.hwf,?_,Nat.le_trans hk.top r.top,w.wf,fun s cs hs=>?_,fun s s' cs cs' hs hs' he=>?_⟩,v1.mono (fun o ho=>⟨ho,rfl⟩) (Nat.zero_le _),Nat.le_refl _,fun _ _=>rfl,fun _ ho=>.inl ho,fun s cs hs hc=>?_,fun s hs hn=>hn,v2 ι,k ι⟩
 ·rintro o (ho | ⟨s,hs,rfl⟩)
  ·exact r.zlt o ho
  ·obtain⟨_,cs,g⟩:=hso s hs
   exact hlt g
 ·have hl:=w.lt hs
  have hs1:σ1.obj s=some cs:=by rw [hk.obj s hl];exact hs
  obtain⟨q1,q2,q3⟩:=r.obj s cs hs1;refine⟨q1,(q2.of_bel (w.bel s cs hs)).mono hz1 (Nat.le_refl _),?_⟩
  rintro (hz | ⟨s',hs',e⟩)
  ·exact q3 hz
  ·obtain⟨g0,cs',g⟩:=hso s' hs'
   have:=r.inj s s' cs cs' hs1 g e
   omega
 ·exact r.inj s s' cs cs' (by rw [hk.obj s (w.lt hs)];exact hs) (by rw [hk.obj s' (w.lt hs')];exact hs') he
 ·have:=w.lt hc
  omega
end Go.Ab
