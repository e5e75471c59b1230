/- . -/
import Derived.Test.YtnfnaniemocleaaGreatEAbCode
set_option linter.unusedVariables false
set_option linter.unusedSimpArgs false
namespace Go.Ab
variable{σ0 σ1 σ:PHeap}{K:PV->PHeap->Prop}{ι:Nat->Nat}{Z Z':Nat->Prop}{h:AHeap}{b lo hi:Nat}{a:Nat->Nat}
inductive TR where
 |leaf (v:PV)
 |nil
 |lst (s:Nat) (cap:Cap) (kids:List TR)
 |cut (s off l:Nat) (cap:Cap) (kids:List TR)
 |agg (kids:List TR)
 |tup (kids:List TR)
def leafy:PV->Prop
 | .int _ _ | .bool _ | .str _=>True
 |_=>False
mutual
def TR.pv:TR->PV
 | .leaf v=>v
 | .nil=>.fz true .nils 0 []
 | .lst s cap kids=>.sl s 0 kids.length cap
 | .cut s off l cap kids=>.sl s off l cap
 | .agg kids=>.agg (TR.pvs kids)
 | .tup kids=>.tup (TR.pvs kids)
def TR.pvs:List TR->List PV
 |[]=>[]
 |t::ts=>TR.pv t::TR.pvs ts
end
mutual
def TR.fz(a:Nat->Nat):TR->PV
 | .leaf v=>v
 | .nil=>.fz true .nils 0 []
 | .lst s cap kids=>.fz true (.sl (a s) 0 kids.length cap) kids.length (TR.fzs a kids)
 | .cut s off l cap kids=>.fz false (.sl (a s) off l cap) l (((TR.fzs a kids).drop off).take l)
 | .agg kids=>.agg (TR.fzs a kids)
 | .tup kids=>.tup (TR.fzs a kids)
def TR.fzs(a:Nat->Nat):List TR->List PV
 |[]=>[]
 |t::ts=>TR.fz a t::TR.fzs a ts
end
mutual
def TR.slots:TR->List Nat
 | .leaf _=>[]
 | .nil=>[]
 | .lst s _ kids=>s::TR.slotss kids
 | .cut s _ _ _ kids=>s::TR.slotss kids
 | .agg kids=>TR.slotss kids
 | .tup kids=>TR.slotss kids
def TR.slotss:List TR->List Nat
 |[]=>[]
 |t::ts=>TR.slots t++TR.slotss ts
end
mutual
def TR.ok(σ:PHeap)(b:Nat):TR->Prop
 | .leaf v=>leafy v
 | .nil=>True
 | .lst s cap kids=>(full 1 cap kids.length/\σ.obj s=some (TR.pvs kids)/\b<=s/\s<σ.next)/\TR.oks σ b kids
 | .cut _ _ _ _ _=>False
 | .agg kids=>TR.oks σ b kids
 | .tup kids=>TR.oks σ b kids
def TR.oks(σ:PHeap)(b:Nat):List TR->Prop
 |[]=>True
 |t::ts=>TR.ok σ b t/\TR.oks σ b ts
end
theorem TR.fzs_length:∀ts:List TR,(TR.fzs a ts).length=ts.length
 |[]=>rfl
 |t::ts=>by simp only[TR.fzs,YS,TR.fzs_length ts]
theorem zPE{v:PV}(h:leafy v)(ι ι':Nat->Nat):er ι v=er ι' v:=by
 cases v<;>simp only[leafy]at h<;>rfl
theorem zNZ{v:PV}(l:leafy v)(n:Nat):VOK Z h n v:=by
 cases v<;>simp only[leafy]at l<;>trivial
mutual
theorem TR.er_fz(κ:Nat->Nat):∀{t:TR},t.ok σ b->er κ (t.fz ι)=er ι t.pv
 | .leaf v,ht=>zPE ht _ _
 | .nil,_=>rfl
 | .lst s cap kids,ht=>rfl
 | .cut _ _ _ _ _,ht=>ht.elim
 | .agg kids,ht=>by simp only[TR.fz,TR.pv,er];rw[TR.ers_fz κ (ts:=kids) ht]
 | .tup kids,ht=>by simp only[TR.fz,TR.pv,er];rw[TR.ers_fz κ (ts:=kids) ht]
theorem TR.ers_fz(κ:Nat->Nat):∀{ts:List TR},TR.oks σ b ts->ers κ (TR.fzs ι ts)=ers ι (TR.pvs ts)
 |[],_=>rfl
 |t::ts,ht=>by simp only[TR.fzs,TR.pvs,ers];rw[TR.er_fz κ ht.1,TR.ers_fz κ ht.2]
end
mutual
theorem TR.vok(r:Rel ι Z σ h):∀{t:TR},t.ok σ b->(∀s∈t.slots,Z' (ι s))->VOK Z' h 0 (t.fz ι)
 | .leaf v,ht,_=>zNZ ht 0
 | .nil,_,_=>⟨.inl ⟨rfl,rfl,rfl⟩,trivial⟩
 | .lst s cap kids,⟨⟨h1,h2,h3,h4⟩,ht⟩,hz=>by
  obtain⟨l,C,D⟩:=r.obj s _ h2;rw[<-TR.ers_fz idz ht]at l;refine⟨.inr ⟨ι s,0,cap,rfl,hz s (UW ..),.inr (zCs l rfl),λc A=>?_,λ_=>⟨rfl,l⟩⟩,TR.voks r ht λB u=>hz B (Yl _ u)⟩;subst A
  have:=h1.ok
  simpa [capOK]using this
 | .cut _ _ _ _ _,ht,_=>ht.elim
 | .agg kids,ht,hz=>TR.voks r (ts:=kids) ht hz
 | .tup kids,ht,hz=>TR.voks r (ts:=kids) ht hz
theorem TR.voks(r:Rel ι Z σ h):∀{ts:List TR},TR.oks σ b ts->(∀s∈TR.slotss ts,Z' (ι s))->VOKs Z' h 0 (TR.fzs ι ts)
 |[],_,_=>trivial
 |t::ts,ht,hz=>⟨TR.vok r ht.1 λs hs=>hz s (YY.2 (.inl hs)),TR.voks r ht.2 λs hs=>hz s (YY.2 (.inr hs))⟩
end
mutual
theorem TR.slot_obj:∀{t:TR},t.ok σ b->∀s∈t.slots,b<=s/\∃cs,σ.obj s=some cs
 | .leaf v,_,s,hs=>by cases hs
 | .nil,_,s,hs=>by cases hs
 | .lst s' cap kids,⟨⟨h1,h2,h3,h4⟩,ht⟩,s,hs=>by
  simp only[TR.slots,YH]at hs;rcases hs with rfl|hs
  .exact⟨h3,_,h2⟩
  .exact TR.slots_obj ht s hs
 | .cut _ _ _ _ _,ht,_,_=>ht.elim
 | .agg kids,ht,s,hs=>TR.slots_obj (ts:=kids) ht s hs
 | .tup kids,ht,s,hs=>TR.slots_obj (ts:=kids) ht s hs
theorem TR.slots_obj:∀{ts:List TR},TR.oks σ b ts->∀s∈TR.slotss ts,b<=s/\∃cs,σ.obj s=some cs
 |[],_,s,hs=>by cases hs
 |t::ts,ht,s,hs=>by
  simp only[TR.slotss,YY]at hs;rcases hs with hs|hs
  .exact TR.slot_obj ht.1 s hs
  .exact TR.slots_obj ht.2 s hs
end
theorem Gh.tree{t:TR}(D:Keep σ0 σ1)(E:t.ok σ1 σ0.next)
  (k:∀a T,(∀s∈t.slots,σ0.top<=a s/\a s<T)->(∀s∈t.slots,∀l∈t.slots,a s=a l->s=l)->σ0.top<=T->K (t.fz a) (σ0.up T)):Gh σ0 K t.pv σ1:=by
 intro w ι Z h b r X V M N W;have C:=TR.slot_obj E;have G:∀{s:Nat} {cs:List PV},σ1.obj s=some cs->ι s<h.next:=λhs=>r.hwf.lt (r.obj _ _ hs).1;have J:∀o,Z o->(Z o\/∃s∈t.slots,o=ι s)/\h.obj o=h.obj o:=λo u=>⟨.inl u,rfl⟩
 have L:∀s∈t.slots,∀l∈t.slots,ι s=ι l->s=l:=λs hs l A e=>by
  obtain⟨_,cs,g⟩:=C s hs;obtain⟨_,B,g'⟩:=C l A;exact r.inj s l cs B g g' e
 refine⟨t.fz ι,σ0.up h.next,ι,λo=>Z o\/∃s∈t.slots,o=ι s,⟨r.hwf,?_,na _,w.wf,λs cs hs=>?_,λs l cs B hs A P=>?_⟩,?_,na _,λ_ _=>rfl,λ_ u=>.inl u,λs cs hs O=>?_,λs hs Q=>Q,TR.er_fz ι E,k ι h.next (λs hs=>?_) L (Y7 D.top r.top)⟩
 .rintro o (u|⟨s,hs,rfl⟩)
  .exact r.zlt o u
  .obtain⟨_,cs,g⟩:=C s hs;exact G g
 .have hl:=w.lt hs;have H:σ1.obj s=some cs:=by rw[D.obj s hl];exact hs
  obtain⟨R,S,U⟩:=r.obj s cs H;refine⟨R,(S.of_bel (w.bel s cs hs)).mono J (na _),?_⟩
  rintro(hz|⟨l,A,e⟩)
  .exact U hz
  .obtain⟨I,B,g⟩:=C l A
   have:=r.inj s l cs B H g e
   omega
 .exact r.inj s l cs B (by rw[D.obj s (w.lt hs)];exact hs) (by rw[D.obj l (w.lt A)];exact A) P
 .exact(TR.vok r E λs hs=>.inr ⟨s,hs,rfl⟩).mono (λo u=>⟨u,rfl⟩) (YW _)
 .have:=w.lt O
  omega
 .obtain⟨I,cs,g⟩:=C s hs;exact⟨Y7 M (N s cs I g),G g⟩
theorem zNa{v:PV}(h:leafy v):ead v=[]/\Wh v:=by
 cases v<;>simp only[leafy]at h<;>exact⟨rfl,trivial⟩
mutual
theorem TR.ead_sub:∀{t:TR},t.ok σ b->(ead (t.fz a)).Sublist (t.slots.map a)/\Wh (t.fz a)
 | .leaf v,ht=>by
  obtain⟨l,u⟩:=zNa ht;exact⟨by simp only[TR.fz,TR.slots,l,Y3];exact List.Sublist.refl _,u⟩
 | .nil,_=>⟨List.Sublist.refl _,.inl rfl⟩
 | .lst s cap kids,⟨_,ht⟩=>by
  obtain⟨l,u⟩:=TR.eads_sub ht;simp only[TR.fz,TR.slots,YO];by_cases A:TR.fzs a kids=[]
  .rw[A];exact⟨List.nil_sublist _,.inl rfl⟩
  .rw[zRR A];exact⟨List.Sublist.cons_cons _ l,.inr ⟨rfl,rfl,u⟩⟩
 | .cut _ _ _ _ _,ht=>ht.elim
 | .agg kids,ht=>TR.eads_sub (ts:=kids) ht
 | .tup kids,ht=>TR.eads_sub (ts:=kids) ht
theorem TR.eads_sub:∀{ts:List TR},TR.oks σ b ts->(eads (TR.fzs a ts)).Sublist ((TR.slotss ts).map a)/\Whs (TR.fzs a ts)
 |[],_=>⟨List.Sublist.refl _,trivial⟩
 |t::ts,ht=>by
  obtain⟨l,u⟩:=TR.ead_sub ht.1;obtain⟨A,B⟩:=TR.eads_sub ht.2;simp only[TR.fzs,TR.slotss,eads,Yh];exact⟨l.append A,u,B⟩
end
theorem zHT{xs:List Nat}(u:xs.Nodup)(hi:∀s∈xs,∀l∈xs,a s=a l->s=l):(xs.map a).Nodup:=by
 induction xs with
 |nil=>exact List.nodup_nil
 |cons x xs ih=>
  rw[List.nodup_cons]at u;rw[YO,List.nodup_cons];refine⟨λC=>?_,ih u.2 λs hs l B=>hi s (Yl _ hs) l (Yl _ B)⟩;obtain⟨y,A,e⟩:=Yj.1 C
  have:=hi y (Yl _ A) x (UW ..) e
  exact u.1 (this ▸ A)
theorem TR.own{t:TR}(E:t.ok σ b)(C:t.slots.Nodup)(B:∀s∈t.slots,lo<=a s/\a s<hi)(u:∀s∈t.slots,∀s'∈t.slots,a s=a s'->s=s'):Own lo hi (t.fz a):=by
 obtain⟨l,A⟩:=TR.ead_sub (a:=a) E;refine⟨A,(zHT C u).sublist l,λo D=>?_⟩;obtain⟨s,hs,rfl⟩:=Yj.1 (l.subset D);exact B s hs
theorem Gh.treeO{t:TR}(C:Keep σ0 σ1)(l:t.ok σ1 σ0.next)(D:t.slots.Nodup)(k:∀a T,Own σ0.top T (t.fz a)->σ0.top<=T->K (t.fz a) (σ0.up T)):Gh σ0 K t.pv σ1:=
 Gh.tree C l λa T u A B=>k a T (TR.own l D u A) B
def TR.row(s:Nat)(cap:Cap)(x:V1):TR:=.lst s cap (x.map λn=>.leaf (.int .i64 n))
theorem TR.ints_pvs:∀x:V1,TR.pvs (x.map λn=>.leaf (.int .i64 n))=pis x
 |[]=>rfl
 |n::x=>by simp only[YO,TR.pvs,TR.pv,TR.ints_pvs x];rfl
theorem TR.ints_fzs:∀x:V1,TR.fzs a (x.map λn=>.leaf (.int .i64 n))=pis x
 |[]=>rfl
 |n::x=>by simp only[YO,TR.fzs,TR.fz,TR.ints_fzs x];rfl
theorem TR.ints_oks:∀x:V1,TR.oks σ b (x.map λn=>.leaf (.int .i64 n))
 |[]=>trivial
 |n::x=>⟨trivial,TR.ints_oks x⟩
theorem TR.ints_slots:∀x:V1,TR.slotss (x.map λn=>.leaf (.int .i64 n))=[]
 |[]=>rfl
 |n::x=>by simp only[YO,TR.slotss,TR.slots,Ys,TR.ints_slots x]
theorem TR.row_pv{s:Nat}{cap:Cap}{x:V1}:(TR.row s cap x).pv=.sl s 0 x.length cap:=by simp[TR.row,TR.pv]
theorem TR.row_fz{s:Nat}{cap:Cap}{x:V1}:(TR.row s cap x).fz a=.fz true (.sl (a s) 0 x.length cap) x.length (pis x):=by simp only[TR.row,TR.fz,TR.ints_fzs,YL]
theorem TR.row_FI{s:Nat}{cap:Cap}{x:V1}:FI ((TR.row s cap x).fz a) x:=⟨true,_,TR.row_fz⟩
theorem TR.row_ok{s:Nat}{cap:Cap}{x:V1}(l:full 1 cap x.length)(u:σ.obj s=some (pis x))(A:b<=s)(B:s<σ.next):(TR.row s cap x).ok σ b:=
 ⟨⟨by rw[YL];exact l,by rw[TR.ints_pvs];exact u,A,B⟩,TR.ints_oks x⟩
theorem TR.row_slots{s:Nat}{cap:Cap}{x:V1}:(TR.row s cap x).slots=[s]:=by simp only[TR.row,TR.slots,TR.ints_slots]
def SR.tr(q:SR):TR:=TR.row q.s q.cap q.x
theorem SR.ok.tr{q:SR}(h:q.ok σ b):q.tr.ok σ b:=TR.row_ok h.1 h.2.1 h.2.2.1 h.2.2.2
theorem TR.rows_pvs:∀rows:List SR,TR.pvs (rows.map SR.tr)=rows.map SR.pv
 |[]=>rfl
 |q::rows=>by simp only[YO,TR.pvs,TR.rows_pvs rows];rw[show q.tr.pv=q.pv from TR.row_pv]
theorem TR.rows_oks:∀{rows:List SR},(∀q∈rows,q.ok σ b)->TR.oks σ b (rows.map SR.tr)
 |[],_=>trivial
 |q::rows,h=>⟨(h q (UW ..)).tr,TR.rows_oks λu l=>h u (Yl _ l)⟩
theorem TR.rows_slots:∀rows:List SR,TR.slotss (rows.map SR.tr)=qZ rows
 |[]=>rfl
 |q::rows=>by
  simp only[YO,TR.slotss,TR.rows_slots rows];rw[show q.tr.slots=[q.s] from TR.row_slots];rfl
theorem TR.rows_all2:∀rows:List SR,All2 FI (TR.fzs a (rows.map SR.tr)) (rows.map SR.x)
 |[]=>All2.nil _
 |q::rows=>by
  have h:=TR.rows_all2 rows;refine⟨by simp only[YO,TR.fzs,YS,h.1],λk c x l u=>?_⟩;cases k with
  |zero=>
   simp only[YO,TR.fzs,List.getElem?_cons_zero,YD]at l u;rw[<-l,<-u];exact TR.row_FI
  |succ k=>
   simp only[YO,TR.fzs,List.getElem?_cons_succ]at l u;exact h.2 k c x l u
def TR.rows(s:Nat)(cap:Cap)(rows:List SR):TR:=.lst s cap (rows.map SR.tr)
theorem TR.rows_FII{s:Nat}{cap:Cap}{rows:List SR}:FII ((TR.rows s cap rows).fz a) (rows.map SR.x):=
 ⟨true,.sl (a s) 0 rows.length cap,TR.fzs a (rows.map SR.tr),by simp only[TR.rows,TR.fz,YL],TR.rows_all2 rows⟩
theorem TR.rows_ok{s:Nat}{cap:Cap}{rows:List SR}(l:full 1 cap rows.length)(u:σ.obj s=some (rows.map SR.pv))(A:b<=s)(B:s<σ.next)(C:∀q∈rows,q.ok σ b):(TR.rows s cap rows).ok σ b:=
 ⟨⟨by rw[YL];exact l,by rw[TR.rows_pvs];exact u,A,B⟩,TR.rows_oks C⟩
mutual
def TR.okF(σ:PHeap)(b:Nat):TR->Prop
 | .leaf v=>Bel 0 v
 | .nil=>True
 | .lst s cap kids=>(full 1 cap kids.length/\σ.obj s=some (TR.pvs kids)/\b<=s/\s<σ.next)/\TR.okFs σ b kids
 | .cut s off l cap kids=>((∀c,cap=.known c->l<=c)/\σ.obj s=some (TR.pvs kids)/\b<=s/\s<σ.next/\off+l<=kids.length)/\TR.okFs σ b kids
 | .agg kids=>TR.okFs σ b kids
 | .tup kids=>TR.okFs σ b kids
def TR.okFs(σ:PHeap)(b:Nat):List TR->Prop
 |[]=>True
 |t::ts=>TR.okF σ b t/\TR.okFs σ b ts
end
mutual
theorem TR.vokF(r:Rel ι Z σ h)(C:∀o,Z o->Z' o):∀{n:Nat} {t:TR},t.okF σ b->VOK Z h n t.pv->(∀s∈t.slots,Z' (ι s))->VOK Z' h 0 (t.fz ι)/\∀κ,er κ (t.fz ι)=er ι t.pv
 |n,.leaf v,ht,hv,_=>by
  have E:VOK Z h 0 v:=VOK.of_bel hv ht;exact⟨E.mono (λo J=>⟨C o J,rfl⟩) (na _),λκ=>show er κ v=er ι v from(zDt E).trans (zDt E).symm⟩
 |n,.nil,_,_,_=>⟨⟨.inl ⟨rfl,rfl,rfl⟩,trivial⟩,λ_=>rfl⟩
 |n,.lst s cap kids,⟨⟨h1,h2,h3,h4⟩,ht⟩,hv,hz=>by
  obtain⟨B,G,L⟩:=r.obj s _ h2;obtain⟨u,A⟩:=TR.voksF r C ht G λH D=>hz H (Yl _ D);rw[<-A idz]at B;refine⟨⟨.inr ⟨ι s,0,cap,rfl,hz s (UW ..),.inr (zCs B rfl),λc I=>?_,λ_=>⟨rfl,B⟩⟩,u⟩,λκ=>rfl⟩;subst I
  have:=h1.ok
  simpa [capOK]using this
 |n,.cut s off l cap kids,⟨⟨h1,h2,h3,h4,h5⟩,ht⟩,hv,hz=>by
  obtain⟨B,G,L⟩:=r.obj s _ h2;obtain⟨u,A⟩:=TR.voksF r C ht G λH D=>hz H (Yl _ D);rw[<-A idz]at B;have M:(((TR.fzs ι kids).drop off).take l).length=l:=by rw[Yu,UK,TR.fzs_length];omega
  refine⟨⟨.inr ⟨ι s,off,cap,rfl,hz s (UW ..),.inr ?_,h1,λe=>by cases e⟩,(u.drop off).take l⟩,λκ=>rfl⟩;rw[Z7,Z8,Yu,UK,zm,TR.fzs_length,Nat.min_eq_left (by omega)];exact zBv B (by show off+l<=(ers idz (TR.fzs ι kids)).length;rw[zm,TR.fzs_length];exact h5)
 |n,.agg kids,ht,hv,hz=>by
  obtain⟨u,A⟩:=TR.voksF (ts:=kids) r C ht hv hz;exact⟨u,λκ=>by simp only[TR.fz,TR.pv,er];rw[A κ]⟩
 |n,.tup kids,ht,hv,hz=>by
  obtain⟨u,A⟩:=TR.voksF (ts:=kids) r C ht hv hz;exact⟨u,λκ=>by simp only[TR.fz,TR.pv,er];rw[A κ]⟩
theorem TR.voksF(r:Rel ι Z σ h)(l:∀o,Z o->Z' o):∀{n:Nat} {ts:List TR},TR.okFs σ b ts->VOKs Z h n (TR.pvs ts)->(∀s∈TR.slotss ts,Z' (ι s))->VOKs Z' h 0 (TR.fzs ι ts)/\∀κ,ers κ (TR.fzs ι ts)=ers ι (TR.pvs ts)
 |n,[],_,_,_=>⟨trivial,λ_=>rfl⟩
 |n,t::ts,ht,hv,hz=>by
  obtain⟨u,A⟩:=TR.vokF r l ht.1 hv.1 λs hs=>hz s (YY.2 (.inl hs));obtain⟨B,C⟩:=TR.voksF r l ht.2 hv.2 λs hs=>hz s (YY.2 (.inr hs));exact⟨⟨u,B⟩,λκ=>by simp only[TR.fzs,TR.pvs,ers];rw[A κ,C κ]⟩
end
mutual
theorem TR.slot_objF:∀{t:TR},t.okF σ b->∀s∈t.slots,b<=s/\∃cs,σ.obj s=some cs
 | .leaf v,_,s,hs=>by cases hs
 | .nil,_,s,hs=>by cases hs
 | .lst s' cap kids,⟨⟨h1,h2,h3,h4⟩,ht⟩,s,hs=>by
  simp only[TR.slots,YH]at hs;rcases hs with rfl|hs
  .exact⟨h3,_,h2⟩
  .exact TR.slots_objF ht s hs
 | .cut s' off l cap kids,⟨⟨h1,h2,h3,h4,h5⟩,ht⟩,s,hs=>by
  simp only[TR.slots,YH]at hs;rcases hs with rfl|hs
  .exact⟨h3,_,h2⟩
  .exact TR.slots_objF ht s hs
 | .agg kids,ht,s,hs=>TR.slots_objF (ts:=kids) ht s hs
 | .tup kids,ht,s,hs=>TR.slots_objF (ts:=kids) ht s hs
theorem TR.slots_objF:∀{ts:List TR},TR.okFs σ b ts->∀s∈TR.slotss ts,b<=s/\∃cs,σ.obj s=some cs
 |[],_,s,hs=>by cases hs
 |t::ts,ht,s,hs=>by
  simp only[TR.slotss,YY]at hs;rcases hs with hs|hs
  .exact TR.slot_objF ht.1 s hs
  .exact TR.slots_objF ht.2 s hs
end
theorem Gh.treeF{t:TR}(B:Keep σ0 σ1)(E:t.okF σ1 σ0.next)(k:∀a,K (t.fz a) σ0):Gh σ0 K t.pv σ1:=by
 intro w ι Z h b r N U V W X;have G:=TR.slot_objF E;have H:∀{s:Nat} {cs:List PV},σ1.obj s=some cs->ι s<h.next:=λhs=>r.hwf.lt (r.obj _ _ hs).1;have I:∀o,Z o->(Z o\/∃s∈t.slots,o=ι s)/\h.obj o=h.obj o:=λo l=>⟨.inl l,rfl⟩
 obtain⟨R,S⟩:=TR.vokF (Z':=λo=>Z o\/∃s∈t.slots,o=ι s) r (λo l=>.inl l) E N λs hs=>.inr ⟨s,hs,rfl⟩;refine⟨t.fz ι,σ0,ι,λo=>Z o\/∃s∈t.slots,o=ι s,⟨r.hwf,?_,Y7 B.top r.top,w.wf,λs cs hs=>?_,λs u cs C hs A L=>?_⟩,R.mono (λo l=>⟨l,rfl⟩) (YW _),na _,λ_ _=>rfl,λ_ l=>.inl l,λs cs hs J=>?_,λs hs M=>M,S ι,k ι⟩
 .rintro o (l|⟨s,hs,rfl⟩)
  .exact r.zlt o l
  .obtain⟨_,cs,g⟩:=G s hs;exact H g
 .have hl:=w.lt hs;have D:σ1.obj s=some cs:=by rw[B.obj s hl];exact hs
  obtain⟨O,P,Q⟩:=r.obj s cs D;refine⟨O,(P.of_bel (w.bel s cs hs)).mono I (na _),?_⟩
  rintro(hz|⟨u,A,e⟩)
  .exact Q hz
  .obtain⟨T,C,g⟩:=G u A
   have:=r.inj s u cs C D g e
   omega
 .exact r.inj s u cs C (by rw[B.obj s (w.lt hs)];exact hs) (by rw[B.obj u (w.lt A)];exact A) L
 .have:=w.lt J
  omega
end Go.Ab
