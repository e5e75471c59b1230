/- . -/
import Derived.Test.YtjcghjopopohiaaGreatDoorQAbCode
set_option linter.all false
set_option linter.defProp false
open List renaming length->Tw
open Bool renaming true->Im
open List renaming getElem?_cons_succ->IU,getElem?_cons_zero->Og,nodup_append->LD,nodup_nil->LC
open Nat renaming min_eq_left->Oh
open Option renaming some->Ik
open True renaming intro->Is
namespace Go.Ab
variable{b hi lo:Nat}{h hg hk σ σ0 σ1:dj}{v:PV}{K:PV->dj->Prop}
section
variable{K:PV×dj->Prop}
structure tV(hg h:dj)(v:PV)(rows:List SR):Prop where
 c7:dq hg h
 acc:fB hg.bY 1 h v rows.length (rows.map SR.pv)
 ok:∀q∈rows,q.ok h hg.bY
 nd:(zBn rows).Nodup
 ne:∀r∈zBn rows,∀off l c,v≠.sl r off l c
def tV.cb(hg:dj):tV hg (hg.cb []) (.sl hg.bY 0 0 (.cm 0)) []:=⟨zB _ _,(ft.cb _ 1 rfl (sB _)).acc,λq m=>(by cases m),LC,λr u=>(by cases u)⟩
def tV.push{rows:List SR}{t:Nat}{cap:nK}{x:V1}(a:tV hg hk v rows)(A:dq hk h)(S:hk.bY<=t)(E:t<h.bY)(R:h.cd t=Ik (eh x))(Q:full 1 cap x.length)(hb:rows.length<=1000)
  (k:∀B m,tV hg m B (rows++[⟨t,cap,x⟩])->dq hg m->h.bY<m.bY->K (B,m)):iU (zW 1 24 (h.cb [.sl t 0 x.length cap]) v (.sl h.bY 0 1 (.cm 1))) K:=by
 have Y:=a.c7.bY;have L:=a.c7.trans A;have I:∀u,hk.bY<=u->∀off l c,v≠.sl u off l c:=λu T=>a.acc.ne T;refine fB.pushS (σb:=hg) (bytes:=24) L (a.acc.c7 A) rfl aH aH λB m D J H G X=>?_;have old:∀q∈rows,q.ok m hg.bY/\q.s<hk.bY:=λq hq=>by
  obtain⟨N,W,O,C⟩:=a.ok q hq;have P:=A.bY;refine⟨⟨N,?_,O,aH⟩,C⟩;rw[H _ aH (a.ne _ (YD.2 ⟨q,hq,rfl⟩)),A.cd _ C];exact W
 refine k B m ⟨D,?_,λq hq=>?_,?_,λr hr=>?_⟩ D X
 .have:=J.acc
  simpa [SR.pv]using this
 .rcases YZ.1 hq with hq|hq
  .exact(old q hq).1
  .rw[YW.1 hq];exact⟨Q,by rw[H t E (I t S)];exact R,by show hg.bY<=t;omega,by show t<m.bY;omega⟩
 .unfold zBn;rw[YI,LD];refine⟨a.nd,bj,λy U z V e=>?_⟩;obtain⟨q,hq,rfl⟩:=YD.1 U;simp only[Yw,UJ,YW]at V
  have:=(old q hq).2
  omega
 .unfold zBn at hr;rw[YI,YZ]at hr;rcases hr with hr|hr
  .obtain⟨q,hq,rfl⟩:=YD.1 hr;have P:=A.bY
   have:=(old q hq).2
   exact G _ aH
  .simp only[Yw,UJ,YW]at hr;subst hr;exact G _ E
end
section
variable{ι:Nat->Nat}{Z Z':Nat->Prop}{h:dN}{a:Nat->Nat}
inductive TR where
 |leaf (v:PV)
 |nil
 |lst (s:Nat) (cap:nK) (kids:List TR)
 |cut (s off l:Nat) (cap:nK) (kids:List TR)
 |agg (kids:List TR)
 |tup (kids:List TR)
def uV:PV->Prop
 | .int _ _ | .bool _ | .str _=>True
 |_=>False
mutual
def TR.pv:TR->PV
 | .leaf v=>v
 | .nil=>.fz Im .cU 0 []
 | .lst s cap kids=>.sl s 0 kids.length cap
 | .cut s off l cap kids=>.sl s off l cap
 | .agg kids=>.agg (TR.pvs kids)
 | .tup kids=>.tup (TR.pvs kids)
def TR.pvs:List TR->List PV
 |[]=>[]
 |t::ts=>TR.pv t::TR.pvs ts
end
mutual
def TR.fz(a:Nat->Nat):TR->PV
 | .leaf v=>v
 | .nil=>.fz Im .cU 0 []
 | .lst s cap kids=>.fz Im (.sl (a s) 0 kids.length cap) kids.length (TR.fzs a kids)
 | .cut s off l cap kids=>.fz false (.sl (a s) off l cap) l (((TR.fzs a kids).drop off).take l)
 | .agg kids=>.agg (TR.fzs a kids)
 | .tup kids=>.tup (TR.fzs a kids)
def TR.fzs(a:Nat->Nat):List TR->List PV
 |[]=>[]
 |t::ts=>TR.fz a t::TR.fzs a ts
end
mutual
def TR.cY:TR->List Nat
 | .leaf _=>[]
 | .nil=>[]
 | .lst s _ kids=>s::TR.slotss kids
 | .cut s _ _ _ kids=>s::TR.slotss kids
 | .agg kids=>TR.slotss kids
 | .tup kids=>TR.slotss kids
def TR.slotss:List TR->List Nat
 |[]=>[]
 |t::ts=>TR.cY t++TR.slotss ts
end
mutual
def TR.ok(σ:dj)(b:Nat):TR->Prop
 | .leaf v=>uV v
 | .nil=>True
 | .lst s cap kids=>(full 1 cap kids.length/\σ.cd s=Ik (TR.pvs kids)/\b<=s/\s<σ.bY)/\TR.oks σ b kids
 | .cut _ _ _ _ _=>False
 | .agg kids=>TR.oks σ b kids
 | .tup kids=>TR.oks σ b kids
def TR.oks(σ:dj)(b:Nat):List TR->Prop
 |[]=>True
 |t::ts=>TR.ok σ b t/\TR.oks σ b ts
end
def TR.fzs_length:∀ts:List TR,(TR.fzs a ts).length=Tw ts
 |[]=>rfl
 |t::ts=>by simp only[TR.fzs,YF,TR.fzs_length ts]
def zEe{v:PV}(h:uV v)(ι ι':Nat->Nat):er ι v=er ι' v:=by
 cases v<;>simp only[uV]at h<;>rfl
def zC1{v:PV}(m:uV v)(n:Nat):mA Z h n v:=by
 cases v<;>simp only[uV]at m<;>trivial
mutual
def TR.er_fz(κ:Nat->Nat):∀{t:TR},t.ok σ b->er κ (t.fz ι)=er ι t.pv
 | .leaf v,ht=>zEe ht _ _
 | .nil,_=>rfl
 | .lst s cap kids,ht=>rfl
 | .cut _ _ _ _ _,ht=>ht.elim
 | .agg kids,ht=>by simp only[TR.fz,TR.pv,er];rw[TR.ers_fz κ (ts:=kids) ht]
 | .tup kids,ht=>by simp only[TR.fz,TR.pv,er];rw[TR.ers_fz κ (ts:=kids) ht]
def TR.ers_fz(κ:Nat->Nat):∀{ts:List TR},TR.oks σ b ts->kA κ (TR.fzs ι ts)=kA ι (TR.pvs ts)
 |[],_=>rfl
 |t::ts,ht=>by simp only[TR.fzs,TR.pvs,kA];rw[TR.er_fz κ ht.1,TR.ers_fz κ ht.2]
end
mutual
def TR.vok(r:Rel ι Z σ h):∀{t:TR},t.ok σ b->(∀s∈t.cY,Z' (ι s))->mA Z' h 0 (t.fz ι)
 | .leaf v,ht,_=>zC1 ht 0
 | .nil,_,_=>⟨.inl ⟨rfl,rfl,rfl⟩,Is⟩
 | .lst s cap kids,⟨⟨h1,h2,h3,h4⟩,ht⟩,hz=>by
  obtain⟨m,C,D⟩:=r.cd s _ h2;rw[<-TR.ers_fz zj ht]at m;refine⟨.inr ⟨ι s,0,cap,rfl,hz s (Yp ..),.inr (QW m rfl),λc A=>?_,λ_=>⟨rfl,m⟩⟩,TR.voks r ht λB u=>hz B (Yc _ u)⟩;subst A
  have:=h1.ok
  simpa [kv]using this
 | .cut _ _ _ _ _,ht,_=>ht.elim
 | .agg kids,ht,hz=>TR.voks r (ts:=kids) ht hz
 | .tup kids,ht,hz=>TR.voks r (ts:=kids) ht hz
def TR.voks(r:Rel ι Z σ h):∀{ts:List TR},TR.oks σ b ts->(∀s∈TR.slotss ts,Z' (ι s))->fQ Z' h 0 (TR.fzs ι ts)
 |[],_,_=>trivial
 |t::ts,ht,hz=>⟨TR.vok r ht.1 λs hs=>hz s (YZ.2 (.inl hs)),TR.voks r ht.2 λs hs=>hz s (YZ.2 (.inr hs))⟩
end
mutual
def TR.slot_obj:∀{t:TR},t.ok σ b->∀s∈t.cY,b<=s/\∃cs,σ.cd s=Ik cs
 | .leaf v,_,s,hs=>by cases hs
 | .nil,_,s,hs=>by cases hs
 | .lst s' cap kids,⟨⟨h1,h2,h3,h4⟩,ht⟩,s,hs=>by
  simp only[TR.cY,Yq]at hs;rcases hs with rfl|hs
  .exact⟨h3,_,h2⟩
  .exact TR.slots_obj ht s hs
 | .cut _ _ _ _ _,ht,_,_=>ht.elim
 | .agg kids,ht,s,hs=>TR.slots_obj (ts:=kids) ht s hs
 | .tup kids,ht,s,hs=>TR.slots_obj (ts:=kids) ht s hs
def TR.slots_obj:∀{ts:List TR},TR.oks σ b ts->∀s∈TR.slotss ts,b<=s/\∃cs,σ.cd s=Ik cs
 |[],_,s,hs=>by cases hs
 |t::ts,ht,s,hs=>by
  simp only[TR.slotss,YZ]at hs;rcases hs with hs|hs
  .exact TR.slot_obj ht.1 s hs
  .exact TR.slots_obj ht.2 s hs
end
def Gh.tree{t:TR}(hk:dq σ0 σ1)(D:t.ok σ1 σ0.bY)
  (k:∀a T,(∀s∈t.cY,σ0.top<=a s/\a s<T)->(∀s∈t.cY,∀m∈t.cY,a s=a m->s=m)->σ0.top<=T->K (t.fz a) (σ0.up T)):Gh σ0 K t.pv σ1:=by
 intro w ι Z h b r Y U V W X;have C:=TR.slot_obj D;have G:∀{s:Nat} {cs:List PV},σ1.cd s=Ik cs->ι s<h.bY:=λhs=>r.hwf.lt (r.cd _ _ hs).1;have I:∀o,Z o->(Z o\/∃s∈t.cY,o=ι s)/\h.cd o=h.cd o:=λo u=>⟨.inl u,rfl⟩
 have H:∀s∈t.cY,∀m∈t.cY,ι s=ι m->s=m:=λs hs m A e=>by
  obtain⟨_,cs,g⟩:=C s hs;obtain⟨_,B,J⟩:=C m A;exact r.inj s m cs B g J e
 refine⟨t.fz ι,σ0.up h.bY,ι,λo=>Z o\/∃s∈t.cY,o=ι s,⟨r.hwf,?_,sB _,w.wf,λs cs hs=>?_,λs m cs B hs A N=>?_⟩,?_,sB _,λ_ _=>rfl,λ_ u=>.inl u,λs cs hs L=>?_,λs hs O=>O,TR.er_fz ι D,k ι h.bY (λs hs=>?_) H (Yv hk.top r.top)⟩
 .rintro o (u|⟨s,hs,rfl⟩)
  .exact r.Dy o u
  .obtain⟨_,cs,g⟩:=C s hs;exact G g
 .have hl:=w.lt hs;have E:σ1.cd s=Ik cs:=by rw[hk.cd s hl];exact hs
  obtain⟨P,Q,R⟩:=r.cd s cs E;refine⟨P,(Q.of_bel (w.bel s cs hs)).mono I (sB _),?_⟩
  rintro(hz|⟨m,A,e⟩)
  .exact R hz
  .obtain⟨S,B,g⟩:=C m A
   have:=r.inj s m cs B E g e
   omega
 .exact r.inj s m cs B (by rw[hk.cd s (w.lt hs)];exact hs) (by rw[hk.cd m (w.lt A)];exact A) N
 .exact(TR.vok r D λs hs=>.inr ⟨s,hs,rfl⟩).mono (λo u=>⟨u,rfl⟩) (YQ _)
 .have:=w.lt L
  omega
 grind
def zGf{v:PV}(h:uV v):F3 v=[]/\Wh v:=by
 cases v<;>simp only[uV]at h<;>exact⟨rfl,Is⟩
mutual
def TR.ead_sub:∀{t:TR},t.ok σ b->(F3 (t.fz a)).Sublist (t.cY.map a)/\Wh (t.fz a)
 | .leaf v,ht=>by
  obtain⟨m,u⟩:=zGf ht;exact⟨by simp only[TR.fz,TR.cY,m,UJ];exact List.Sublist.refl _,u⟩
 | .nil,_=>⟨List.Sublist.refl _,.inl rfl⟩
 | .lst s cap kids,⟨_,ht⟩=>by
  obtain⟨m,u⟩:=TR.eads_sub ht;simp only[TR.fz,TR.cY,Yw];by_cases A:TR.fzs a kids=[]
  .rw[A];exact⟨List.nil_sublist _,.inl rfl⟩
  .rw[zIz A];exact⟨List.Sublist.cons_cons _ m,.inr ⟨rfl,rfl,u⟩⟩
 | .cut _ _ _ _ _,ht=>ht.elim
 | .agg kids,ht=>TR.eads_sub (ts:=kids) ht
 | .tup kids,ht=>TR.eads_sub (ts:=kids) ht
def TR.eads_sub:∀{ts:List TR},TR.oks σ b ts->(lH (TR.fzs a ts)).Sublist ((TR.slotss ts).map a)/\Whs (TR.fzs a ts)
 |[],_=>⟨List.Sublist.refl _,Is⟩
 |t::ts,ht=>by
  obtain⟨m,u⟩:=TR.ead_sub ht.1;obtain⟨A,B⟩:=TR.eads_sub ht.2;simp only[TR.fzs,TR.slotss,lH,YI];exact⟨m.append A,u,B⟩
end
def zG7{xs:List Nat}(m:xs.Nodup)(hi:∀s∈xs,∀s'∈xs,a s=a s'->s=s'):(xs.map a).Nodup:=by
 induction xs with
 |nil=>exact LC
 |cons x xs ih=>
  grind
def TR.own{t:TR}(C:t.ok σ b)(B:t.cY.Nodup)(D:∀s∈t.cY,lo<=a s/\a s<hi)(m:∀s∈t.cY,∀s'∈t.cY,a s=a s'->s=s'):Own lo hi (t.fz a):=by
 obtain⟨u,A⟩:=TR.ead_sub (a:=a) C;refine⟨A,(zG7 B m).sublist u,λo E=>?_⟩;grind
def Gh.treeO{t:TR}(hk:dq σ0 σ1)(m:t.ok σ1 σ0.bY)(C:t.cY.Nodup)(k:∀a T,Own σ0.top T (t.fz a)->σ0.top<=T->K (t.fz a) (σ0.up T)):Gh σ0 K t.pv σ1:=
 Gh.tree hk m λa T u A B=>k a T (TR.own m C u A) B
def TR.row(s:Nat)(cap:nK)(x:V1):TR:=.lst s cap (x.map λn=>.leaf (.int .i64 n))
def TR.ints_pvs:∀x:V1,TR.pvs (x.map λn=>.leaf (.int .i64 n))=eh x
 |[]=>rfl
 |n::x=>by simp only[Yw,TR.pvs,TR.pv,TR.ints_pvs x];rfl
def TR.ints_fzs:∀x:V1,TR.fzs a (x.map λn=>.leaf (.int .i64 n))=eh x
 |[]=>rfl
 |n::x=>by simp only[Yw,TR.fzs,TR.fz,TR.ints_fzs x];rfl
def TR.ints_oks:∀x:V1,TR.oks σ b (x.map λn=>.leaf (.int .i64 n))
 |[]=>trivial
 |n::x=>⟨Is,TR.ints_oks x⟩
def TR.ints_slots:∀x:V1,TR.slotss (x.map λn=>.leaf (.int .i64 n))=[]
 |[]=>rfl
 |n::x=>by simp only[Yw,TR.slotss,TR.cY,Yn,TR.ints_slots x]
def TR.row_pv{s:Nat}{cap:nK}{x:V1}:(TR.row s cap x).pv=.sl s 0 x.length cap:=by simp[TR.row,TR.pv]
def TR.row_fz{s:Nat}{cap:nK}{x:V1}:(TR.row s cap x).fz a=.fz Im (.sl (a s) 0 x.length cap) x.length (eh x):=by simp only[TR.row,TR.fz,TR.ints_fzs,Yj]
def TR.row_FI{s:Nat}{cap:nK}{x:V1}:FI ((TR.row s cap x).fz a) x:=⟨Im,_,TR.row_fz⟩
def TR.row_ok{s:Nat}{cap:nK}{x:V1}(m:full 1 cap x.length)(u:σ.cd s=Ik (eh x))(A:b<=s)(B:s<σ.bY):(TR.row s cap x).ok σ b:=
 ⟨⟨by rw[Yj];exact m,by rw[TR.ints_pvs];exact u,A,B⟩,TR.ints_oks x⟩
def TR.row_slots{s:Nat}{cap:nK}{x:V1}:(TR.row s cap x).cY=[s]:=by simp only[TR.row,TR.cY,TR.ints_slots]
def SR.tr(q:SR):TR:=TR.row q.s q.cap q.x
def SR.ok.tr{q:SR}(h:q.ok σ b):q.tr.ok σ b:=TR.row_ok h.1 h.2.1 h.2.2.1 h.2.2.2
def TR.rows_pvs:∀rows:List SR,TR.pvs (rows.map SR.tr)=rows.map SR.pv
 |[]=>rfl
 |q::rows=>by simp only[Yw,TR.pvs,TR.rows_pvs rows];rw[show q.tr.pv=q.pv from TR.row_pv]
def TR.rows_oks:∀{rows:List SR},(∀q∈rows,q.ok σ b)->TR.oks σ b (rows.map SR.tr)
 |[],_=>trivial
 |q::rows,h=>⟨(h q (Yp ..)).tr,TR.rows_oks λu m=>h u (Yc _ m)⟩
def TR.rows_slots:∀rows:List SR,TR.slotss (rows.map SR.tr)=zBn rows
 |[]=>rfl
 |q::rows=>by
  simp only[Yw,TR.slotss,TR.rows_slots rows];rw[show q.tr.cY=[q.s] from TR.row_slots];rfl
def TR.rows_all2:∀rows:List SR,ez FI (TR.fzs a (rows.map SR.tr)) (rows.map SR.x)
 |[]=>ez.nil _
 |q::rows=>by
  have h:=TR.rows_all2 rows;refine⟨by simp only[Yw,TR.fzs,YF,h.1],λk c x m u=>?_⟩;cases k with
  |zero=>
   simp only[Yw,TR.fzs,Og,YR]at m u;rw[<-m,<-u];exact TR.row_FI
  |succ k=>
   simp only[Yw,TR.fzs,IU]at m u;exact h.2 k c x m u
def TR.rows(s:Nat)(cap:nK)(rows:List SR):TR:=.lst s cap (rows.map SR.tr)
def TR.rows_FII{s:Nat}{cap:nK}{rows:List SR}:hK ((TR.rows s cap rows).fz a) (rows.map SR.x):=
 ⟨Im,.sl (a s) 0 rows.length cap,TR.fzs a (rows.map SR.tr),by simp only[TR.rows,TR.fz,Yj],TR.rows_all2 rows⟩
def TR.rows_ok{s:Nat}{cap:nK}{rows:List SR}(m:full 1 cap rows.length)(u:σ.cd s=Ik (rows.map SR.pv))(A:b<=s)(B:s<σ.bY)(C:∀q∈rows,q.ok σ b):(TR.rows s cap rows).ok σ b:=
 ⟨⟨by rw[Yj];exact m,by rw[TR.rows_pvs];exact u,A,B⟩,TR.rows_oks C⟩
mutual
def TR.okF(σ:dj)(b:Nat):TR->Prop
 | .leaf v=>DA 0 v
 | .nil=>True
 | .lst s cap kids=>(full 1 cap kids.length/\σ.cd s=Ik (TR.pvs kids)/\b<=s/\s<σ.bY)/\TR.okFs σ b kids
 | .cut s off l cap kids=>((∀c,cap=.cm c->l<=c)/\σ.cd s=Ik (TR.pvs kids)/\b<=s/\s<σ.bY/\off+l<=Tw kids)/\TR.okFs σ b kids
 | .agg kids=>TR.okFs σ b kids
 | .tup kids=>TR.okFs σ b kids
def TR.okFs(σ:dj)(b:Nat):List TR->Prop
 |[]=>True
 |t::ts=>TR.okF σ b t/\TR.okFs σ b ts
end
mutual
def TR.vokF(r:Rel ι Z σ h)(B:∀o,Z o->Z' o):∀{n:Nat} {t:TR},t.okF σ b->mA Z h n t.pv->(∀s∈t.cY,Z' (ι s))->mA Z' h 0 (t.fz ι)/\∀κ,er κ (t.fz ι)=er ι t.pv
 |n,.leaf v,ht,hv,_=>by
  have D:mA Z h 0 v:=mA.of_bel hv ht;exact⟨D.mono (λo I=>⟨B o I,rfl⟩) (sB _),λκ=>show er κ v=er ι v from(zDN D).trans (zDN D).symm⟩
 |n,.nil,_,_,_=>⟨⟨.inl ⟨rfl,rfl,rfl⟩,Is⟩,λ_=>rfl⟩
 |n,.lst s cap kids,⟨⟨h1,h2,h3,h4⟩,ht⟩,hv,hz=>by
  obtain⟨A,E,J⟩:=r.cd s _ h2;obtain⟨m,u⟩:=TR.voksF r B ht E λG C=>hz G (Yc _ C);rw[<-u zj]at A;refine⟨⟨.inr ⟨ι s,0,cap,rfl,hz s (Yp ..),.inr (QW A rfl),λc H=>?_,λ_=>⟨rfl,A⟩⟩,m⟩,λκ=>rfl⟩;subst H
  have:=h1.ok
  simpa [kv]using this
 |n,.cut s off l cap kids,⟨⟨h1,h2,h3,h4,h5⟩,ht⟩,hv,hz=>by
  obtain⟨A,E,J⟩:=r.cd s _ h2;obtain⟨m,u⟩:=TR.voksF r B ht E λG C=>hz G (Yc _ C);rw[<-u zj]at A;have L:(((TR.fzs ι kids).drop off).take l).length=l:=by rw[Ym,Ys,TR.fzs_length];omega
  refine⟨⟨.inr ⟨ι s,off,cap,rfl,hz s (Yp ..),.inr ?_,h1,λe=>by cases e⟩,(m.drop off).take l⟩,λκ=>rfl⟩;rw[Zi,Zj,Ym,Ys,ze,TR.fzs_length,Oh aH];exact zBF A (by show off+l<=(kA zj (TR.fzs ι kids)).length;rw[ze,TR.fzs_length];exact h5)
 |n,.agg kids,ht,hv,hz=>by
  obtain⟨m,u⟩:=TR.voksF (ts:=kids) r B ht hv hz;exact⟨m,λκ=>by simp only[TR.fz,TR.pv,er];rw[u κ]⟩
 |n,.tup kids,ht,hv,hz=>by
  obtain⟨m,u⟩:=TR.voksF (ts:=kids) r B ht hv hz;exact⟨m,λκ=>by simp only[TR.fz,TR.pv,er];rw[u κ]⟩
def TR.voksF(r:Rel ι Z σ h)(m:∀o,Z o->Z' o):∀{n:Nat} {ts:List TR},TR.okFs σ b ts->fQ Z h n (TR.pvs ts)->(∀s∈TR.slotss ts,Z' (ι s))->fQ Z' h 0 (TR.fzs ι ts)/\∀κ,kA κ (TR.fzs ι ts)=kA ι (TR.pvs ts)
 |n,[],_,_,_=>⟨Is,λ_=>rfl⟩
 |n,t::ts,ht,hv,hz=>by
  obtain⟨u,A⟩:=TR.vokF r m ht.1 hv.1 λs hs=>hz s (YZ.2 (.inl hs));obtain⟨B,C⟩:=TR.voksF r m ht.2 hv.2 λs hs=>hz s (YZ.2 (.inr hs));exact⟨⟨u,B⟩,λκ=>by simp only[TR.fzs,TR.pvs,kA];rw[A κ,C κ]⟩
end
mutual
def TR.slot_objF:∀{t:TR},t.okF σ b->∀s∈t.cY,b<=s/\∃cs,σ.cd s=Ik cs
 | .leaf v,_,s,hs=>by cases hs
 | .nil,_,s,hs=>by cases hs
 | .lst s' cap kids,⟨⟨h1,h2,h3,h4⟩,ht⟩,s,hs=>by
  simp only[TR.cY,Yq]at hs;rcases hs with rfl|hs
  .exact⟨h3,_,h2⟩
  .exact TR.slots_objF ht s hs
 | .cut s' off l cap kids,⟨⟨h1,h2,h3,h4,h5⟩,ht⟩,s,hs=>by
  simp only[TR.cY,Yq]at hs;rcases hs with rfl|hs
  .exact⟨h3,_,h2⟩
  .exact TR.slots_objF ht s hs
 | .agg kids,ht,s,hs=>TR.slots_objF (ts:=kids) ht s hs
 | .tup kids,ht,s,hs=>TR.slots_objF (ts:=kids) ht s hs
def TR.slots_objF:∀{ts:List TR},TR.okFs σ b ts->∀s∈TR.slotss ts,b<=s/\∃cs,σ.cd s=Ik cs
 |[],_,s,hs=>by cases hs
 |t::ts,ht,s,hs=>by
  simp only[TR.slotss,YZ]at hs;rcases hs with hs|hs
  .exact TR.slot_objF ht.1 s hs
  .exact TR.slots_objF ht.2 s hs
end
def Gh.treeF{t:TR}(hk:dq σ0 σ1)(C:t.okF σ1 σ0.bY)(k:∀a,K (t.fz a) σ0):Gh σ0 K t.pv σ1:=by
 intro w ι Z h b r N U V W X;have E:=TR.slot_objF C;have G:∀{s:Nat} {cs:List PV},σ1.cd s=Ik cs->ι s<h.bY:=λhs=>r.hwf.lt (r.cd _ _ hs).1;have H:∀o,Z o->(Z o\/∃s∈t.cY,o=ι s)/\h.cd o=h.cd o:=λo m=>⟨.inl m,rfl⟩
 obtain⟨R,S⟩:=TR.vokF (Z':=λo=>Z o\/∃s∈t.cY,o=ι s) r (λo m=>.inl m) C N λs hs=>.inr ⟨s,hs,rfl⟩;refine⟨t.fz ι,σ0,ι,λo=>Z o\/∃s∈t.cY,o=ι s,⟨r.hwf,?_,Yv hk.top r.top,w.wf,λs cs hs=>?_,λs u cs B hs A J=>?_⟩,R.mono (λo m=>⟨m,rfl⟩) (YQ _),sB _,λ_ _=>rfl,λ_ m=>.inl m,λs cs hs I=>?_,λs hs L=>L,S ι,k ι⟩
 .rintro o (m|⟨s,hs,rfl⟩)
  .exact r.Dy o m
  .obtain⟨_,cs,g⟩:=E s hs;exact G g
 .have hl:=w.lt hs;have D:σ1.cd s=Ik cs:=by rw[hk.cd s hl];exact hs
  obtain⟨O,P,Q⟩:=r.cd s cs D;refine⟨O,(P.of_bel (w.bel s cs hs)).mono H (sB _),?_⟩
  rintro(hz|⟨u,A,e⟩)
  .exact Q hz
  .obtain⟨T,B,g⟩:=E u A
   have:=r.inj s u cs B D g e
   omega
 .exact r.inj s u cs B (by rw[hk.cd s (w.lt hs)];exact hs) (by rw[hk.cd u (w.lt A)];exact A) J
 .have:=w.lt I
  omega
end
end Go.Ab
