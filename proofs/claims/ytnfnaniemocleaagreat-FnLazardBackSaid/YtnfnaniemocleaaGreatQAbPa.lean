/- . -/
import Derived.Test.YtnfnaniemocleaaGreatQAbCode
set_option linter.all false
set_option linter.defProp false
open List renaming length->Lu
open Bool renaming true->DF
open List renaming getElem?_cons_succ->D3,getElem?_cons_zero->Hk,nodup_cons->He,nodup_nil->FK
open Nat renaming min_eq_left->Hl
open Option renaming some->Dc
open True renaming intro->DJ
namespace Go.Ab
variable{σ0 σ1 σ:cg}{K:PV->cg->Prop}{ι:Nat->Nat}{Z Z':Nat->Prop}{h:ct}{b lo hi:Nat}{a:Nat->Nat}
inductive TR where
 |leaf (v:PV)
 |nil
 |lst (s:Nat) (cap:jZ) (kids:List TR)
 |cut (s off l:Nat) (cap:jZ) (kids:List TR)
 |agg (kids:List TR)
 |tup (kids:List TR)
def Ap:PV->Prop
 | .int _ _ | .bool _ | .str _=>True
 |_=>False
mutual
def TR.pv:TR->PV
 | .leaf v=>v
 | .nil=>.fz DF .b8 0 []
 | .lst s cap kids=>.sl s 0 kids.length cap
 | .cut s off l cap kids=>.sl s off l cap
 | .agg kids=>.agg (TR.pvs kids)
 | .tup kids=>.tup (TR.pvs kids)
def TR.pvs:List TR->List PV
 |[]=>[]
 |t::ts=>TR.pv t::TR.pvs ts
end
mutual
def TR.fz(a:Nat->Nat):TR->PV
 | .leaf v=>v
 | .nil=>.fz DF .b8 0 []
 | .lst s cap kids=>.fz DF (.sl (a s) 0 kids.length cap) kids.length (TR.fzs a kids)
 | .cut s off l cap kids=>.fz false (.sl (a s) off l cap) l (((TR.fzs a kids).drop off).take l)
 | .agg kids=>.agg (TR.fzs a kids)
 | .tup kids=>.tup (TR.fzs a kids)
def TR.fzs(a:Nat->Nat):List TR->List PV
 |[]=>[]
 |t::ts=>TR.fz a t::TR.fzs a ts
end
mutual
def TR.ca:TR->List Nat
 | .leaf _=>[]
 | .nil=>[]
 | .lst s _ kids=>s::TR.slotss kids
 | .cut s _ _ _ kids=>s::TR.slotss kids
 | .agg kids=>TR.slotss kids
 | .tup kids=>TR.slotss kids
def TR.slotss:List TR->List Nat
 |[]=>[]
 |t::ts=>TR.ca t++TR.slotss ts
end
mutual
def TR.ok(σ:cg)(b:Nat):TR->Prop
 | .leaf v=>Ap v
 | .nil=>True
 | .lst s cap kids=>(full 1 cap kids.length/\σ.bt s=Dc (TR.pvs kids)/\b<=s/\s<σ.aM)/\TR.oks σ b kids
 | .cut _ _ _ _ _=>False
 | .agg kids=>TR.oks σ b kids
 | .tup kids=>TR.oks σ b kids
def TR.oks(σ:cg)(b:Nat):List TR->Prop
 |[]=>True
 |t::ts=>TR.ok σ b t/\TR.oks σ b ts
end
def TR.fzs_length:∀ts:List TR,(TR.fzs a ts).length=Lu ts
 |[]=>rfl
 |t::ts=>by simp only[TR.fzs,Yu,TR.fzs_length ts]
def zQw{v:PV}(h:Ap v)(ι ι':Nat->Nat):er ι v=er ι' v:=by
 cases v<;>simp only[Ap]at h<;>rfl
def zPC{v:PV}(l:Ap v)(n:Nat):kj Z h n v:=by
 cases v<;>simp only[Ap]at l<;>trivial
mutual
def TR.er_fz(κ:Nat->Nat):∀{t:TR},t.ok σ b->er κ (t.fz ι)=er ι t.pv
 | .leaf v,ht=>zQw ht _ _
 | .nil,_=>rfl
 | .lst s cap kids,ht=>rfl
 | .cut _ _ _ _ _,ht=>ht.elim
 | .agg kids,ht=>by simp only[TR.fz,TR.pv,er];rw[TR.ers_fz κ (ts:=kids) ht]
 | .tup kids,ht=>by simp only[TR.fz,TR.pv,er];rw[TR.ers_fz κ (ts:=kids) ht]
def TR.ers_fz(κ:Nat->Nat):∀{ts:List TR},TR.oks σ b ts->ju κ (TR.fzs ι ts)=ju ι (TR.pvs ts)
 |[],_=>rfl
 |t::ts,ht=>by simp only[TR.fzs,TR.pvs,ju];rw[TR.er_fz κ ht.1,TR.ers_fz κ ht.2]
end
mutual
def TR.vok(r:Rel ι Z σ h):∀{t:TR},t.ok σ b->(∀s∈t.ca,Z' (ι s))->kj Z' h 0 (t.fz ι)
 | .leaf v,ht,_=>zPC ht 0
 | .nil,_,_=>⟨.inl ⟨rfl,rfl,rfl⟩,DJ⟩
 | .lst s cap kids,⟨⟨h1,h2,h3,h4⟩,ht⟩,hz=>by
  obtain⟨l,C,D⟩:=r.bt s _ h2;rw[<-TR.ers_fz vq ht]at l;refine⟨.inr ⟨ι s,0,cap,rfl,hz s (UH ..),.inr (zDU l rfl),λc A=>?_,λ_=>⟨rfl,l⟩⟩,TR.voks r ht λB u=>hz B (Yt _ u)⟩;subst A
  have:=h1.ok
  simpa [gk]using this
 | .cut _ _ _ _ _,ht,_=>ht.elim
 | .agg kids,ht,hz=>TR.voks r (ts:=kids) ht hz
 | .tup kids,ht,hz=>TR.voks r (ts:=kids) ht hz
def TR.voks(r:Rel ι Z σ h):∀{ts:List TR},TR.oks σ b ts->(∀s∈TR.slotss ts,Z' (ι s))->dP Z' h 0 (TR.fzs ι ts)
 |[],_,_=>trivial
 |t::ts,ht,hz=>⟨TR.vok r ht.1 λs hs=>hz s (YY.2 (.inl hs)),TR.voks r ht.2 λs hs=>hz s (YY.2 (.inr hs))⟩
end
mutual
def TR.slot_obj:∀{t:TR},t.ok σ b->∀s∈t.ca,b<=s/\∃cs,σ.bt s=Dc cs
 | .leaf v,_,s,hs=>by cases hs
 | .nil,_,s,hs=>by cases hs
 | .lst s' cap kids,⟨⟨h1,h2,h3,h4⟩,ht⟩,s,hs=>by
  simp only[TR.ca,YH]at hs;rcases hs with rfl|hs
  .exact⟨h3,_,h2⟩
  .exact TR.slots_obj ht s hs
 | .cut _ _ _ _ _,ht,_,_=>ht.elim
 | .agg kids,ht,s,hs=>TR.slots_obj (ts:=kids) ht s hs
 | .tup kids,ht,s,hs=>TR.slots_obj (ts:=kids) ht s hs
def TR.slots_obj:∀{ts:List TR},TR.oks σ b ts->∀s∈TR.slotss ts,b<=s/\∃cs,σ.bt s=Dc cs
 |[],_,s,hs=>by cases hs
 |t::ts,ht,s,hs=>by
  simp only[TR.slotss,YY]at hs;rcases hs with hs|hs
  .exact TR.slot_obj ht.1 s hs
  .exact TR.slots_obj ht.2 s hs
end
def Gh.tree{t:TR}(D:cT σ0 σ1)(E:t.ok σ1 σ0.aM)
  (k:∀a T,(∀s∈t.ca,σ0.top<=a s/\a s<T)->(∀s∈t.ca,∀l∈t.ca,a s=a l->s=l)->σ0.top<=T->K (t.fz a) (σ0.up T)):Gh σ0 K t.pv σ1:=by
 intro w ι Z h b r X V M N W;have C:=TR.slot_obj E;have G:∀{s:Nat} {cs:List PV},σ1.bt s=Dc cs->ι s<h.aM:=λhs=>r.hwf.lt (r.bt _ _ hs).1;have L:∀o,Z o->(Z o\/∃s∈t.ca,o=ι s)/\h.bt o=h.bt o:=λo u=>⟨.inl u,rfl⟩
 have J:∀s∈t.ca,∀l∈t.ca,ι s=ι l->s=l:=λs hs l A e=>by
  obtain⟨_,cs,g⟩:=C s hs;obtain⟨_,B,g'⟩:=C l A;exact r.inj s l cs B g g' e
 refine⟨t.fz ι,σ0.up h.aM,ι,λo=>Z o\/∃s∈t.ca,o=ι s,⟨r.hwf,?_,na _,w.wf,λs cs hs=>?_,λs l cs B hs A P=>?_⟩,?_,na _,λ_ _=>rfl,λ_ u=>.inl u,λs cs hs O=>?_,λs hs Q=>Q,TR.er_fz ι E,k ι h.aM (λs hs=>?_) J (UJ D.top r.top)⟩
 .rintro o (u|⟨s,hs,rfl⟩)
  .exact r.Cz o u
  .obtain⟨_,cs,g⟩:=C s hs;exact G g
 .have hl:=w.lt hs;have H:σ1.bt s=Dc cs:=by rw[D.bt s hl];exact hs
  obtain⟨R,S,U⟩:=r.bt s cs H;refine⟨R,(S.of_bel (w.bel s cs hs)).mono L (na _),?_⟩
  rintro(hz|⟨l,A,e⟩)
  .exact U hz
  .obtain⟨I,B,g⟩:=C l A
   have:=r.inj s l cs B H g e
   omega
 .exact r.inj s l cs B (by rw[D.bt s (w.lt hs)];exact hs) (by rw[D.bt l (w.lt A)];exact A) P
 .exact(TR.vok r E λs hs=>.inr ⟨s,hs,rfl⟩).mono (λo u=>⟨u,rfl⟩) (YV _)
 .have:=w.lt O
  omega
 .obtain⟨I,cs,g⟩:=C s hs;exact⟨UJ M (N s cs I g),G g⟩
def zPD{v:PV}(h:Ap v):ead v=[]/\Wh v:=by
 cases v<;>simp only[Ap]at h<;>exact⟨rfl,DJ⟩
mutual
def TR.ead_sub:∀{t:TR},t.ok σ b->(ead (t.fz a)).Sublist (t.ca.map a)/\Wh (t.fz a)
 | .leaf v,ht=>by
  obtain⟨l,u⟩:=zPD ht;exact⟨by simp only[TR.fz,TR.ca,l,Ya];exact List.Sublist.refl _,u⟩
 | .nil,_=>⟨List.Sublist.refl _,.inl rfl⟩
 | .lst s cap kids,⟨_,ht⟩=>by
  obtain⟨l,u⟩:=TR.eads_sub ht;simp only[TR.fz,TR.ca,YE];by_cases A:TR.fzs a kids=[]
  .rw[A];exact⟨List.nil_sublist _,.inl rfl⟩
  .rw[zTE A];exact⟨List.Sublist.cons_cons _ l,.inr ⟨rfl,rfl,u⟩⟩
 | .cut _ _ _ _ _,ht=>ht.elim
 | .agg kids,ht=>TR.eads_sub (ts:=kids) ht
 | .tup kids,ht=>TR.eads_sub (ts:=kids) ht
def TR.eads_sub:∀{ts:List TR},TR.oks σ b ts->(n0 (TR.fzs a ts)).Sublist ((TR.slotss ts).map a)/\Whs (TR.fzs a ts)
 |[],_=>⟨List.Sublist.refl _,DJ⟩
 |t::ts,ht=>by
  obtain⟨l,u⟩:=TR.ead_sub ht.1;obtain⟨A,B⟩:=TR.eads_sub ht.2;simp only[TR.fzs,TR.slotss,n0,Yx];exact⟨l.append A,u,B⟩
end
def zIg{xs:List Nat}(u:xs.Nodup)(hi:∀s∈xs,∀l∈xs,a s=a l->s=l):(xs.map a).Nodup:=by
 induction xs with
 |nil=>exact FK
 |cons x xs ih=>
  rw[He]at u;rw[YE,He];refine⟨λC=>?_,ih u.2 λs hs l B=>hi s (Yt _ hs) l (Yt _ B)⟩;obtain⟨y,A,e⟩:=YI.1 C
  have:=hi y (Yt _ A) x (UH ..) e
  exact u.1 (this ▸ A)
def TR.own{t:TR}(E:t.ok σ b)(C:t.ca.Nodup)(B:∀s∈t.ca,lo<=a s/\a s<hi)(u:∀s∈t.ca,∀s'∈t.ca,a s=a s'->s=s'):Own lo hi (t.fz a):=by
 obtain⟨l,A⟩:=TR.ead_sub (a:=a) E;refine⟨A,(zIg C u).sublist l,λo D=>?_⟩;obtain⟨s,hs,rfl⟩:=YI.1 (l.subset D);exact B s hs
def Gh.treeO{t:TR}(C:cT σ0 σ1)(l:t.ok σ1 σ0.aM)(D:t.ca.Nodup)(k:∀a T,Own σ0.top T (t.fz a)->σ0.top<=T->K (t.fz a) (σ0.up T)):Gh σ0 K t.pv σ1:=
 Gh.tree C l λa T u A B=>k a T (TR.own l D u A) B
def TR.row(s:Nat)(cap:jZ)(x:V1):TR:=.lst s cap (x.map λn=>.leaf (.int .i64 n))
def TR.ints_pvs:∀x:V1,TR.pvs (x.map λn=>.leaf (.int .i64 n))=cS x
 |[]=>rfl
 |n::x=>by simp only[YE,TR.pvs,TR.pv,TR.ints_pvs x];rfl
def TR.ints_fzs:∀x:V1,TR.fzs a (x.map λn=>.leaf (.int .i64 n))=cS x
 |[]=>rfl
 |n::x=>by simp only[YE,TR.fzs,TR.fz,TR.ints_fzs x];rfl
def TR.ints_oks:∀x:V1,TR.oks σ b (x.map λn=>.leaf (.int .i64 n))
 |[]=>trivial
 |n::x=>⟨DJ,TR.ints_oks x⟩
def TR.ints_slots:∀x:V1,TR.slotss (x.map λn=>.leaf (.int .i64 n))=[]
 |[]=>rfl
 |n::x=>by simp only[YE,TR.slotss,TR.ca,Yl,TR.ints_slots x]
def TR.row_pv{s:Nat}{cap:jZ}{x:V1}:(TR.row s cap x).pv=.sl s 0 x.length cap:=by simp[TR.row,TR.pv]
def TR.row_fz{s:Nat}{cap:jZ}{x:V1}:(TR.row s cap x).fz a=.fz DF (.sl (a s) 0 x.length cap) x.length (cS x):=by simp only[TR.row,TR.fz,TR.ints_fzs,YF]
def TR.row_FI{s:Nat}{cap:jZ}{x:V1}:FI ((TR.row s cap x).fz a) x:=⟨DF,_,TR.row_fz⟩
def TR.row_ok{s:Nat}{cap:jZ}{x:V1}(l:full 1 cap x.length)(u:σ.bt s=Dc (cS x))(A:b<=s)(B:s<σ.aM):(TR.row s cap x).ok σ b:=
 ⟨⟨by rw[YF];exact l,by rw[TR.ints_pvs];exact u,A,B⟩,TR.ints_oks x⟩
def TR.row_slots{s:Nat}{cap:jZ}{x:V1}:(TR.row s cap x).ca=[s]:=by simp only[TR.row,TR.ca,TR.ints_slots]
def SR.tr(q:SR):TR:=TR.row q.s q.cap q.x
def SR.ok.tr{q:SR}(h:q.ok σ b):q.tr.ok σ b:=TR.row_ok h.1 h.2.1 h.2.2.1 h.2.2.2
def TR.rows_pvs:∀rows:List SR,TR.pvs (rows.map SR.tr)=rows.map SR.pv
 |[]=>rfl
 |q::rows=>by simp only[YE,TR.pvs,TR.rows_pvs rows];rw[show q.tr.pv=q.pv from TR.row_pv]
def TR.rows_oks:∀{rows:List SR},(∀q∈rows,q.ok σ b)->TR.oks σ b (rows.map SR.tr)
 |[],_=>trivial
 |q::rows,h=>⟨(h q (UH ..)).tr,TR.rows_oks λu l=>h u (Yt _ l)⟩
def TR.rows_slots:∀rows:List SR,TR.slotss (rows.map SR.tr)=qM rows
 |[]=>rfl
 |q::rows=>by
  simp only[YE,TR.slotss,TR.rows_slots rows];rw[show q.tr.ca=[q.s] from TR.row_slots];rfl
def TR.rows_all2:∀rows:List SR,dd FI (TR.fzs a (rows.map SR.tr)) (rows.map SR.x)
 |[]=>dd.nil _
 |q::rows=>by
  have h:=TR.rows_all2 rows;refine⟨by simp only[YE,TR.fzs,Yu,h.1],λk c x l u=>?_⟩;cases k with
  |zero=>
   simp only[YE,TR.fzs,Hk,YC]at l u;rw[<-l,<-u];exact TR.row_FI
  |succ k=>
   simp only[YE,TR.fzs,D3]at l u;exact h.2 k c x l u
def TR.rows(s:Nat)(cap:jZ)(rows:List SR):TR:=.lst s cap (rows.map SR.tr)
def TR.rows_FII{s:Nat}{cap:jZ}{rows:List SR}:jj ((TR.rows s cap rows).fz a) (rows.map SR.x):=
 ⟨DF,.sl (a s) 0 rows.length cap,TR.fzs a (rows.map SR.tr),by simp only[TR.rows,TR.fz,YF],TR.rows_all2 rows⟩
def TR.rows_ok{s:Nat}{cap:jZ}{rows:List SR}(l:full 1 cap rows.length)(u:σ.bt s=Dc (rows.map SR.pv))(A:b<=s)(B:s<σ.aM)(C:∀q∈rows,q.ok σ b):(TR.rows s cap rows).ok σ b:=
 ⟨⟨by rw[YF];exact l,by rw[TR.rows_pvs];exact u,A,B⟩,TR.rows_oks C⟩
mutual
def TR.okF(σ:cg)(b:Nat):TR->Prop
 | .leaf v=>Bel 0 v
 | .nil=>True
 | .lst s cap kids=>(full 1 cap kids.length/\σ.bt s=Dc (TR.pvs kids)/\b<=s/\s<σ.aM)/\TR.okFs σ b kids
 | .cut s off l cap kids=>((∀c,cap=.b6 c->l<=c)/\σ.bt s=Dc (TR.pvs kids)/\b<=s/\s<σ.aM/\off+l<=Lu kids)/\TR.okFs σ b kids
 | .agg kids=>TR.okFs σ b kids
 | .tup kids=>TR.okFs σ b kids
def TR.okFs(σ:cg)(b:Nat):List TR->Prop
 |[]=>True
 |t::ts=>TR.okF σ b t/\TR.okFs σ b ts
end
mutual
def TR.vokF(r:Rel ι Z σ h)(C:∀o,Z o->Z' o):∀{n:Nat} {t:TR},t.okF σ b->kj Z h n t.pv->(∀s∈t.ca,Z' (ι s))->kj Z' h 0 (t.fz ι)/\∀κ,er κ (t.fz ι)=er ι t.pv
 |n,.leaf v,ht,hv,_=>by
  have E:kj Z h 0 v:=kj.of_bel hv ht;exact⟨E.mono (λo J=>⟨C o J,rfl⟩) (na _),λκ=>show er κ v=er ι v from(zEe E).trans (zEe E).symm⟩
 |n,.nil,_,_,_=>⟨⟨.inl ⟨rfl,rfl,rfl⟩,DJ⟩,λ_=>rfl⟩
 |n,.lst s cap kids,⟨⟨h1,h2,h3,h4⟩,ht⟩,hv,hz=>by
  obtain⟨B,G,L⟩:=r.bt s _ h2;obtain⟨u,A⟩:=TR.voksF r C ht G λH D=>hz H (Yt _ D);rw[<-A vq]at B;refine⟨⟨.inr ⟨ι s,0,cap,rfl,hz s (UH ..),.inr (zDU B rfl),λc I=>?_,λ_=>⟨rfl,B⟩⟩,u⟩,λκ=>rfl⟩;subst I
  have:=h1.ok
  simpa [gk]using this
 |n,.cut s off l cap kids,⟨⟨h1,h2,h3,h4,h5⟩,ht⟩,hv,hz=>by
  obtain⟨B,G,L⟩:=r.bt s _ h2;obtain⟨u,A⟩:=TR.voksF r C ht G λH D=>hz H (Yt _ D);rw[<-A vq]at B;have M:(((TR.fzs ι kids).drop off).take l).length=l:=by rw[Yh,UQ,TR.fzs_length];omega
  refine⟨⟨.inr ⟨ι s,off,cap,rfl,hz s (UH ..),.inr ?_,h1,λe=>by cases e⟩,(u.drop off).take l⟩,λκ=>rfl⟩;rw[QT,QU,Yh,UQ,qA,TR.fzs_length,Hl af];exact zCU B (by show off+l<=(ju vq (TR.fzs ι kids)).length;rw[qA,TR.fzs_length];exact h5)
 |n,.agg kids,ht,hv,hz=>by
  obtain⟨u,A⟩:=TR.voksF (ts:=kids) r C ht hv hz;exact⟨u,λκ=>by simp only[TR.fz,TR.pv,er];rw[A κ]⟩
 |n,.tup kids,ht,hv,hz=>by
  obtain⟨u,A⟩:=TR.voksF (ts:=kids) r C ht hv hz;exact⟨u,λκ=>by simp only[TR.fz,TR.pv,er];rw[A κ]⟩
def TR.voksF(r:Rel ι Z σ h)(l:∀o,Z o->Z' o):∀{n:Nat} {ts:List TR},TR.okFs σ b ts->dP Z h n (TR.pvs ts)->(∀s∈TR.slotss ts,Z' (ι s))->dP Z' h 0 (TR.fzs ι ts)/\∀κ,ju κ (TR.fzs ι ts)=ju ι (TR.pvs ts)
 |n,[],_,_,_=>⟨DJ,λ_=>rfl⟩
 |n,t::ts,ht,hv,hz=>by
  obtain⟨u,A⟩:=TR.vokF r l ht.1 hv.1 λs hs=>hz s (YY.2 (.inl hs));obtain⟨B,C⟩:=TR.voksF r l ht.2 hv.2 λs hs=>hz s (YY.2 (.inr hs));exact⟨⟨u,B⟩,λκ=>by simp only[TR.fzs,TR.pvs,ju];rw[A κ,C κ]⟩
end
mutual
def TR.slot_objF:∀{t:TR},t.okF σ b->∀s∈t.ca,b<=s/\∃cs,σ.bt s=Dc cs
 | .leaf v,_,s,hs=>by cases hs
 | .nil,_,s,hs=>by cases hs
 | .lst s' cap kids,⟨⟨h1,h2,h3,h4⟩,ht⟩,s,hs=>by
  simp only[TR.ca,YH]at hs;rcases hs with rfl|hs
  .exact⟨h3,_,h2⟩
  .exact TR.slots_objF ht s hs
 | .cut s' off l cap kids,⟨⟨h1,h2,h3,h4,h5⟩,ht⟩,s,hs=>by
  simp only[TR.ca,YH]at hs;rcases hs with rfl|hs
  .exact⟨h3,_,h2⟩
  .exact TR.slots_objF ht s hs
 | .agg kids,ht,s,hs=>TR.slots_objF (ts:=kids) ht s hs
 | .tup kids,ht,s,hs=>TR.slots_objF (ts:=kids) ht s hs
def TR.slots_objF:∀{ts:List TR},TR.okFs σ b ts->∀s∈TR.slotss ts,b<=s/\∃cs,σ.bt s=Dc cs
 |[],_,s,hs=>by cases hs
 |t::ts,ht,s,hs=>by
  simp only[TR.slotss,YY]at hs;rcases hs with hs|hs
  .exact TR.slot_objF ht.1 s hs
  .exact TR.slots_objF ht.2 s hs
end
def Gh.treeF{t:TR}(B:cT σ0 σ1)(E:t.okF σ1 σ0.aM)(k:∀a,K (t.fz a) σ0):Gh σ0 K t.pv σ1:=by
 intro w ι Z h b r N U V W X;have G:=TR.slot_objF E;have H:∀{s:Nat} {cs:List PV},σ1.bt s=Dc cs->ι s<h.aM:=λhs=>r.hwf.lt (r.bt _ _ hs).1;have I:∀o,Z o->(Z o\/∃s∈t.ca,o=ι s)/\h.bt o=h.bt o:=λo l=>⟨.inl l,rfl⟩
 obtain⟨R,S⟩:=TR.vokF (Z':=λo=>Z o\/∃s∈t.ca,o=ι s) r (λo l=>.inl l) E N λs hs=>.inr ⟨s,hs,rfl⟩;refine⟨t.fz ι,σ0,ι,λo=>Z o\/∃s∈t.ca,o=ι s,⟨r.hwf,?_,UJ B.top r.top,w.wf,λs cs hs=>?_,λs u cs C hs A L=>?_⟩,R.mono (λo l=>⟨l,rfl⟩) (YV _),na _,λ_ _=>rfl,λ_ l=>.inl l,λs cs hs J=>?_,λs hs M=>M,S ι,k ι⟩
 .rintro o (l|⟨s,hs,rfl⟩)
  .exact r.Cz o l
  .obtain⟨_,cs,g⟩:=G s hs;exact H g
 .have hl:=w.lt hs;have D:σ1.bt s=Dc cs:=by rw[B.bt s hl];exact hs
  obtain⟨O,P,Q⟩:=r.bt s cs D;refine⟨O,(P.of_bel (w.bel s cs hs)).mono I (na _),?_⟩
  rintro(hz|⟨u,A,e⟩)
  .exact Q hz
  .obtain⟨T,C,g⟩:=G u A
   have:=r.inj s u cs C D g e
   omega
 .exact r.inj s u cs C (by rw[B.bt s (w.lt hs)];exact hs) (by rw[B.bt u (w.lt A)];exact A) L
 .have:=w.lt J
  omega
end Go.Ab
