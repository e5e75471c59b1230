/- . -/
import Derived.Test.YtjcghjopopohiaaGreatDoorQP11
set_option linter.all false
set_option linter.defProp false
open Go.IntKind renaming wrap->Tu
open List renaming length->Tw
open Go.Proofs.Tryz renaming prog->Tp
open Bool renaming false_eq_true->JM,true->Im
open Int renaming toNat_natCast->KH
open List renaming ext_getElem?->Kr,getElem?_cons_succ->IU,getElem?_range->O6,getElem?_replicate->RR,getElem?_take_of_lt->R9,map_singleton->PG,nodup_append->LD,nodup_cons->Q1,nodup_nil->LC,range->Iw,range_succ->Om,replicate->Jf,replicate_succ->LN,replicate_zero->RP
open Nat renaming eq_zero_or_pos->MB,min_eq_left->Oh,mod_eq_of_lt->L0,strongRecOn->Ry
open Option renaming getD_some->NP,isSome_none->Kx,map_some->Kc,some->Ik
open True renaming intro->Is
open Int renaming reduceNatCast'->ae
set_option maxRecDepth 100000
namespace Go.Ab
variable{b hi:Nat}{σ σ0 σ1:dj}{K:PV->dj->Prop}
section
variable{P:Program}{a:Nat->Nat}
def zA.thawS{f:FuncId}{s:Nat}{cs:List PV}{cs2:(Nat->Nat)->List PV}(hs:σ.cd s=Ik cs)
  (V:∀{ι:Nat->Nat} {Z:Nat->Prop} {h:dN},Rel ι Z σ h->kA ι (cs2 ι)=kA ι cs)
  (hV:∀{ι:Nat->Nat} {Z B:Nat->Prop} {h:dN},Rel ι Z σ h->(∀o,Z o->B o)->(∀t m,t≠s->σ.cd t=Ik m->B (ι t))->fQ B h 0 (cs2 ι))
  (c:∀S,zA P f [.ptr s 0] (σ.bare.set s (cs2 S)) λv σ'=>σ'=σ.bare.set s (cs2 S)/\uV v/\K v σ):zA P f [.ptr s 0] σ K:=by
 intro ι Z h r va;have T:=r.none_lt hs;obtain⟨B,xf⟩:∃B:Nat->Prop,B=λo=>Z o\/∃t m,t≠s/\σ.cd t=Ik m/\o=ι t:=⟨_,rfl⟩
 have D:∀o,B o↔(Z o\/∃t m,t≠s/\σ.cd t=Ik m/\o=ι t):=λo=>by rw[xf]
 clear xf;have R:fQ B h 0 (cs2 ι):=hV r (λo A=>(D o).2 (.inl A)) λt m u J=>(D _).2 (.inr ⟨t,m,u,J,rfl⟩);have AO:¬B (ι s):=λN=>by
  rcases(D _).1 N with N|⟨t,m,u,J,e⟩
  .exact(r.cd s _ hs).2.2 N
  .exact u (r.inj t s m cs J hs e.symm)
 have conv:∀{t m},(σ.bare.set s (cs2 ι)).cd t=Ik m->t=s/\m=cs2 ι:=λ{t m} u=>by
  simp only[dj.set,dj.bare]at u;simp_all
 have r2:Rel ι B (σ.bare.set s (cs2 ι)) h:=by
  refine⟨r.hwf,λo A=>?_,r.top,λt u=>?_,λt m u=>?_,λt t' m om u U _=>(conv u).1.trans (conv U).1.symm⟩
  .rcases(D o).1 A with A|⟨t,m,_,u,rfl⟩
   .exact r.Dy o A
   .exact r.hwf.lt (r.cd t m u).1
  .have U:σ.bY<=t:=u;simp only[dj.set,dj.bare];rw[Iv aH]
  .obtain⟨rfl,rfl⟩:=conv u
   exact⟨by rw[V r];exact(r.cd t cs hs).1,R.mono (λo A=>⟨A,rfl⟩) (YQ _),AO⟩
 have:=c ι ι B h r2 ⟨T,Is⟩
 refine this.mono ?_
 rintro v h' ⟨pv,σ',ι',Z',Q,I,p3,rfl,rfl,X,hk⟩
 have es:ι' s=ι s:=I.inj s T;have kO:h'.cd (ι s)=h.cd (ι s):=by
  have q:=(Q.cd s (cs2 ι) (by simp[dj.set])).1;rw[es,ZR (Q.cd s (cs2 ι) (by simp[dj.set]) |>.2.1.of_bel (n':=0) ?_ ),<-ZR (ι:=ι) R,V r]at q
  .rw[q];exact(r.cd s cs hs).1.symm
  .exact fQ.bel R
 have ob:∀t m,σ.cd t=Ik m->h'.cd (ι t)=h.cd (ι t):=λt m u=>by
  by_cases e:t=s
  .rw[e];exact kO
  .exact(I.z _ ((D _).2 (.inr ⟨t,m,e,u,rfl⟩))).2
 have Y:∀o,Z o->Z o/\h'.cd o=h.cd o:=λo A=>⟨A,(I.z o ((D o).2 (.inl A))).2⟩
 exact⟨pv,σ,ι,Z,⟨Q.hwf,λo A=>YO (r.Dy o A) I.hnext,Yv r.top I.hnext,r.wf,λt m u=>⟨by rw[ob t m u];exact(r.cd t m u).1,(r.cd t m u).2.1.mono Y (sB _),(r.cd t m u).2.2⟩,r.inj⟩,⟨sB _,I.hnext,λ_ _=>rfl,Y,λ_ _ h=>h,λt m u J=>absurd (r.none_lt J) aH⟩,zC1 X _,zEe X _ _,hk⟩
mutual
def TR.lab:TR->List (Nat ⊕ Nat)
 | .leaf v=>(F3 v).map .inr
 | .nil=>[]
 | .lst s _ kids=>.inl s::TR.labs kids
 | .cut s _ _ _ kids=>.inl s::TR.labs kids
 | .agg kids=>TR.labs kids
 | .tup kids=>TR.labs kids
def TR.labs:List TR->List (Nat ⊕ Nat)
 |[]=>[]
 |t::ts=>TR.lab t++TR.labs ts
end
mutual
def TR.whF:TR->Prop
 | .leaf v=>Wh v
 | .nil=>True
 | .lst _ _ kids=>TR.whFs kids
 | .cut _ _ _ _ _=>False
 | .agg kids=>TR.whFs kids
 | .tup kids=>TR.whFs kids
def TR.whFs:List TR->Prop
 |[]=>True
 |t::ts=>TR.whF t/\TR.whFs ts
end
mutual
def TR.ead_subF:∀{t:TR},t.whF->(F3 (t.fz a)).Sublist (t.lab.map (Sum.elim a id))/\Wh (t.fz a)
 | .leaf v,ht=>by
  refine⟨?_,ht⟩;simp only[TR.fz,TR.lab,UR];simp_all
 | .nil,_=>⟨List.Sublist.refl _,.inl rfl⟩
 | .lst s cap kids,ht=>by
  obtain⟨u,A⟩:=TR.eads_subF ht;simp only[TR.fz,TR.lab,Yw,Sum.elim_inl];by_cases m:TR.fzs a kids=[]
  .rw[m];exact⟨List.nil_sublist _,.inl rfl⟩
  .rw[zIz m];exact⟨List.Sublist.cons_cons _ u,.inr ⟨rfl,rfl,A⟩⟩
 | .cut _ _ _ _ _,ht=>ht.elim
 | .agg kids,ht=>TR.eads_subF (ts:=kids) ht
 | .tup kids,ht=>TR.eads_subF (ts:=kids) ht
def TR.eads_subF:∀{ts:List TR},TR.whFs ts->(lH (TR.fzs a ts)).Sublist ((TR.labs ts).map (Sum.elim a id))/\Whs (TR.fzs a ts)
 |[],_=>⟨List.Sublist.refl _,Is⟩
 |t::ts,ht=>by
  obtain⟨m,u⟩:=TR.ead_subF ht.1;obtain⟨A,B⟩:=TR.eads_subF ht.2;simp only[TR.fzs,TR.labs,lH,YI];exact⟨m.append A,u,B⟩
end
mutual
def TR.lab_z{ι:Nat->Nat}{Z:Nat->Prop}{h:dN}(r:Rel ι Z σ h):∀{n:Nat} {t:TR},t.okF σ b->mA Z h n t.pv->∀o,.inr o∈t.lab->Z o
 |n,.leaf v,ht,hv,o,ho=>by
  simp only[TR.lab,YD,Sum.inr.injEq,exists_eq_right]at ho;exact zDt hv o (zAM ho)
 |n,.nil,_,_,o,ho=>by cases ho
 |n,.lst s cap kids,⟨⟨h1,h2,h3,h4⟩,ht⟩,hv,o,ho=>by
  simp only[TR.lab,Yq,reduceCtorEq,false_or]at ho;exact TR.labs_z r ht (r.cd s _ h2).2.1 o ho
 |n,.cut s off l cap kids,⟨⟨h1,h2,h3,h4,h5⟩,ht⟩,hv,o,ho=>by
  simp only[TR.lab,Yq,reduceCtorEq,false_or]at ho;exact TR.labs_z r ht (r.cd s _ h2).2.1 o ho
 |n,.agg kids,ht,hv,o,ho=>TR.labs_z (ts:=kids) r ht hv o ho
 |n,.tup kids,ht,hv,o,ho=>TR.labs_z (ts:=kids) r ht hv o ho
def TR.labs_z{ι:Nat->Nat}{Z:Nat->Prop}{h:dN}(r:Rel ι Z σ h):∀{n:Nat} {ts:List TR},TR.okFs σ b ts->fQ Z h n (TR.pvs ts)->∀o,.inr o∈TR.labs ts->Z o
 |n,[],_,_,o,ho=>by cases ho
 |n,t::ts,ht,hv,o,ho=>by
  simp only[TR.labs,YZ]at ho;rcases ho with ho|ho
  .exact TR.lab_z r ht.1 hv.1 o ho
  .exact TR.labs_z r ht.2 hv.2 o ho
end
mutual
def TR.lab_slot:∀{t:TR} {s:Nat},.inl s∈t.lab->s∈t.cY
 | .leaf v,s,ho=>by simp[TR.lab]at ho
 | .nil,s,ho=>by cases ho
 | .lst s' cap kids,s,ho=>by
  simp only[TR.lab,Yq,Sum.inl.injEq,TR.cY]at ho ⊢;exact ho.imp id TR.labs_slot
 | .cut s' off l cap kids,s,ho=>by
  simp only[TR.lab,Yq,Sum.inl.injEq,TR.cY]at ho ⊢;exact ho.imp id TR.labs_slot
 | .agg kids,s,ho=>TR.labs_slot (ts:=kids) ho
 | .tup kids,s,ho=>TR.labs_slot (ts:=kids) ho
def TR.labs_slot:∀{ts:List TR} {s:Nat},.inl s∈TR.labs ts->s∈TR.slotss ts
 |[],s,ho=>by cases ho
 |t::ts,s,ho=>by
  simp only[TR.labs,YZ,TR.slotss]at ho ⊢;exact ho.imp TR.lab_slot TR.labs_slot
end
def zGE{α:Type}{f:α->Nat}{xs:List α}(m:xs.Nodup)(hi:∀s∈xs,∀s'∈xs,f s=f s'->s=s'):(xs.map f).Nodup:=by
 induction xs with
 |nil=>exact LC
 |cons x xs ih=>
  grind
def Gh.treeFO{t:TR}(J:dq σ0 σ1)(S:t.okF σ1 σ0.bY)(hw:t.whF)(R:t.lab.Nodup)(Q:∀o,.inr o∈t.lab->σ0.top<=o/\o<σ1.top)
  (k:∀a T,Own σ0.top T (t.fz a)->σ0.top<=T->K (t.fz a) (σ0.up T)):Gh σ0 K t.pv σ1:=by
 intro w ι Z h b r hv h1 h2 h3 h4;have B:=TR.slot_objF S;have V:∀{s:Nat} {cs:List PV},σ1.cd s=Ik cs->ι s<h.bY:=λhs=>r.hwf.lt (r.cd _ _ hs).1;have eJ:∀o,Z o->(Z o\/∃s∈t.cY,o=ι s)/\h.cd o=h.cd o:=λo u=>⟨.inl u,rfl⟩
 obtain⟨v1,v2⟩:=TR.vokF (Z':=λo=>Z o\/∃s∈t.cY,o=ι s) r (λo u=>.inl u) S hv λs hs=>.inr ⟨s,hs,rfl⟩;have nQ:=TR.lab_z r S hv;have iA:Own σ0.top h.bY (t.fz ι):=by
  obtain⟨X,e2⟩:=TR.ead_subF (a:=ι) hw;refine⟨e2,(zGE R λx D y U e=>?_).sublist X,λo u=>?_⟩
  .cases x with
   |inl s=>
    obtain⟨_,cs,g⟩:=B s (TR.lab_slot D);cases y with
    |inl m=>
     obtain⟨_,A,N⟩:=B m (TR.lab_slot U);rw[r.inj s m cs A g N e]
    |inr o=>exact absurd (nQ o U) (by rw[<-show ι s=o from e];exact(r.cd s cs g).2.2)
   |inr o=>
    cases y with
    |inl m=>
     obtain⟨_,A,N⟩:=B m (TR.lab_slot U);exact absurd (nQ o D) (by rw[show o=ι m from e];exact(r.cd m A N).2.2)
    |inr o'=>rw[show o=o' from e]
  .obtain⟨x,D,rfl⟩:=YD.1 (X.subset u);cases x with
   |inl s=>
    obtain⟨Y,cs,g⟩:=B s (TR.lab_slot D);exact⟨Yv h2 (h3 s cs Y g),V g⟩
   |inr o=>
    have q:=Q o D
    have:=r.top
    exact⟨q.1,by show o<_;omega⟩
 refine⟨t.fz ι,σ0.up h.bY,ι,λo=>Z o\/∃s∈t.cY,o=ι s,⟨r.hwf,?_,sB _,w.wf,λs cs hs=>?_,λs m cs A hs I he=>?_⟩,v1.mono (λo u=>⟨u,rfl⟩) (YQ _),sB _,λ_ _=>rfl,λ_ u=>.inl u,λs cs hs hc=>?_,λs hs R=>R,v2 ι,k ι h.bY iA (Yv J.top r.top)⟩
 .rintro o (u|⟨s,hs,rfl⟩)
  .exact r.Dy o u
  .obtain⟨_,cs,g⟩:=B s hs;exact V g
 .have Q:=w.lt hs;have iI:σ1.cd s=Ik cs:=by rw[J.cd s Q];exact hs
  obtain⟨q1,q2,q3⟩:=r.cd s cs iI;refine⟨q1,(q2.of_bel (w.bel s cs hs)).mono eJ (sB _),?_⟩
  rintro(hz|⟨m,I,e⟩)
  .exact q3 hz
  .obtain⟨Y,A,g⟩:=B m I
   have:=r.inj s m cs A iI g e
   omega
 .exact r.inj s m cs A (by rw[J.cd s (w.lt hs)];exact hs) (by rw[J.cd m (w.lt I)];exact I) he
 .have:=w.lt hc
  omega
mutual
def TR.lab_ok:∀{t:TR},t.ok σ b->t.lab=t.cY.map .inl/\t.whF
 | .leaf v,ht=>by
  obtain⟨m,u⟩:=zGf ht;exact⟨by simp only[TR.lab,TR.cY,m,UJ],u⟩
 | .nil,_=>⟨rfl,Is⟩
 | .lst s cap kids,⟨_,ht⟩=>by
  obtain⟨m,u⟩:=TR.labs_ok ht;exact⟨by simp only[TR.lab,TR.cY,m,Yw],u⟩
 | .cut _ _ _ _ _,ht=>ht.elim
 | .agg kids,ht=>TR.labs_ok (ts:=kids) ht
 | .tup kids,ht=>TR.labs_ok (ts:=kids) ht
def TR.labs_ok:∀{ts:List TR},TR.oks σ b ts->TR.labs ts=(TR.slotss ts).map .inl/\TR.whFs ts
 |[],_=>⟨rfl,Is⟩
 |t::ts,ht=>by
  obtain⟨m,u⟩:=TR.lab_ok ht.1;obtain⟨A,B⟩:=TR.labs_ok ht.2;exact⟨by simp only[TR.labs,TR.slotss,m,A,YI],u,B⟩
end
end
end Go.Ab
namespace Go.Proofs
open Go.Ab Go.Lie Go.Grp
variable{k k':Int}{cs:List PV}{b i j n r t:Nat}{h h' σ:dj}{c v vC vO vP:PV}{K:PV->dj->Prop}{O x:V1}{L L' M P:V2}{C:V3}
section
variable{s:Nat}{L L':Nat->Nat}{E:Nat->Prop}
def MY(L:Nat->Nat)(h:dj)(b:Nat)(M:V2)(v:PV):Prop:=∃s cap cs,v=.sl s 0 (Tw M) cap/\full 1 cap (Tw M)/\h.cd s=Ik cs/\b<=s/\s<h.bY/\L s=1000/\A2i (λi c x=>Fb L h b (2000+i) x c) cs M
def Au(L:Nat->Nat)(h:dj)(b:Nat)(M:V2)(v:PV):Prop:=(M=[]/\v=Tt)\/MY L h b M v
def Au.one(a:Au L h b M v):v.one=Im:=by rcases a with ⟨_,rfl⟩|⟨s,cap,cs,rfl,_⟩<;>rfl
def Au.cells(a:Au L h b M v):v.cells=[v]:=by rcases a with ⟨_,rfl⟩|⟨s,cap,cs,rfl,_⟩<;>rfl
def Au.nil:Au L h b [] (Tt):=.inl ⟨rfl,rfl⟩
def Au.keepE(a:Au L h b M v)(J:∀m,1000<=m->¬E m)(T:h.bY<=h'.bY)(N:∀t,b<=t->t<h.bY->¬E (L t)->h'.cd t=h.cd t)(I:∀t,t<h.bY->¬E (L t)->L' t=L t):Au L' h' b M v:=by
 refine a.imp id ?_
 rintro⟨s,cap,cs,rfl,Q,R,A,B,D,S⟩
 have u:¬E (L s):=by rw[D];exact J _ aH
 exact⟨s,cap,cs,rfl,Q,by rw[N s A B u];exact R,A,aH,by rw[I s B u];exact D,qZ S λi c x hi r=>r.keepE (J _ aH) T N I⟩
def Au.keepL(a:Au L h b M v)(B:h.bY<=h'.bY)(D:∀t,b<=t->t<h.bY->h'.cd t=h.cd t)(u:∀t,t<h.bY->L' t=L t):Au L' h' b M v:=
 a.keepE (E:=λ_=>False) (λ_ _ h=>h) B (λt A m _=>D t A m) λt m _=>u t m
def Au.set(a:Au L h b M v)(hs:s<b)(m:List PV):Au L (h.set s m) b M v:=a.keepL (sB _) (λt u _=>by rw[zG,Iv aH]) λ_ _=>rfl
def Au.kill(a:Au L h b M v)(hs:s<b):Au L (h.kill s) b M v:=a.keepL (sB _) (λt m _=>by simp only[dj.kill];rw[Iv aH]) λ_ _=>rfl
def Au.up(a:Au L h b M v)(t:Nat):Au L (h.up t) b M v:=a.keepL (sB _) (λ_ _ _=>rfl) λ_ _=>rfl
def Au.treeN(a:Au L h b M v):∃t:TR,t.ok h b/\t.pv=v/\(∀u,hK (t.fz u) M)/\t.cY.Nodup:=by
 rcases a with ⟨rfl,rfl⟩|⟨s,cap,cs,rfl,T,U,V,X,h6,D⟩
 .exact⟨.nil,Is,rfl,λu=>⟨Im,.cU,[],rfl,ez.nil _⟩,LC⟩
 obtain⟨ts,I,B,J,N,Q⟩:=zCT (h:=h) (b:=b) (L:=L) (S:=FI) (R:=λi c x=>Fb L h b (2000+i) x c) (m:=λi=>2000+i) (λi=>Yb _) (λi c y a=>a.treeN) (cs:=cs) (xs:=M) 0 (qZ D λi c y _ r=>by rw[Y4];exact r);have A:(Tw ts)=Tw M:=by rw[<-D.1,<-B,Zf]
 refine⟨.lst s cap ts,⟨⟨by rw[A];exact T,by rw[B];exact U,V,X⟩,I⟩,by simp only[TR.pv,A],λu=>⟨Im,.sl (u s) 0 (Tw ts) cap,TR.fzs u ts,by simp only[TR.fz,A],J u⟩,?_⟩;rw[TR.cY,Q1];exact⟨λY=>by have:=(Q s Y).1;omega,N⟩
def Au.push{Q:PV×dj->Prop}(a:Au L h b M v)(hc:Fb L h b 8 x c)(hk:dq σ h)(hb:σ.bY<=b)(nZ:b<=h.bY)(hn:(Tw M)<=1048576)
  (kk:∀N h' L',dq σ h'->Au L' h' b (M++[x]) N->h.bY<h'.bY->(∀t,t<b->h'.cd t=h.cd t)->Q (N,h')):iU (zW 1 24 (h.cb [c]) v (.sl h.bY 0 1 (.cm 1))) Q:=by
 have acc:∃cs,fB b 1 h v (Tw M) cs/\A2i (λi c x=>Fb L h b (2000+i) x c) cs M/\∀t off l c,v=.sl t off l c->L t=1000:=by
  rcases a with ⟨rfl,rfl⟩|⟨s,cap,cs,rfl,h1,h2,h4,h5,h6,Y⟩
  .exact⟨[],fB.nil _ _ _,zB6,λt off l c e=>by cases e⟩
  .exact⟨cs,.inr ⟨s,cap,rfl,h1,h2,by have:=Y.1;omega,h4,h5⟩,Y,λt off l c e=>by simp only[PV.sl.injEq]at e;rw[<-e.1];exact h6⟩
 obtain⟨cs,acc,T,hL⟩:=acc;refine fB.pushS hk (acc.low hb) rfl aH aH λN h' k1 a1 o1 n1 l1=>?_;obtain⟨A,R,rfl,U,V,g3,g4,X⟩:=a1;have bW:h.bY<=A:=by
  grind
 have J:∀t,t<h.bY->L t≠1000->h'.cd t=h.cd t:=λt u B=>o1 t u λoff l c e=>B (hL t off l c e);have S:h.bY<=h'.bY:=aH
 have low:∀t,t<b->h'.cd t=h.cd t:=λt u=>by
  refine o1 t aH λoff l c e=>?_;rcases acc with ⟨rfl,_,_⟩|⟨s,cap,rfl,q1,q2,q3,q4,q5⟩
  .cases e
  .simp only[PV.sl.injEq]at e;omega
 have el:(M++[x]).length=Tw M+1:=bj
 rcases hc with ⟨rfl,rfl⟩|⟨D,jy,rfl,c1,c2,c3,c4,c5⟩
 .have I:∀t,t<h.bY->l6 L A 1000 t=L t:=zk bW;refine kk _ h' (l6 L A 1000) k1 (.inr ⟨A,R,_,by rw[el],by rw[el];exact U,V,aH,X,qG,zCU (qZ T λi c y hi r=>?_) (.inl ⟨rfl,rfl⟩)⟩) l1 low;exact r.keepE (E:=λm=>m=1000) aH S (λt _ u B=>J t u aH) λt u B=>I t u
 obtain⟨L',dX⟩:∃L':Nat->Nat,L'=l6 (l6 L A 1000) D (2000+Tw M):=⟨_,rfl⟩
 have e0:L' A=1000:=by rw[dX];unfold l6;rw[Iv aH,Iu rfl]
 have I:∀t,t<h.bY->L t≠8->L' t=L t:=λt u B=>by
  rw[dX];unfold l6;grind
 have e2:L' D=2000+Tw M:=by rw[dX];exact qG
 clear dX;refine kk _ h' L' k1 (.inr ⟨A,R,_,by rw[el],by rw[el];exact U,V,aH,X,e0,zCU (qZ T λi c y hi r=>?_) (.inr ⟨D,jy,rfl,c1,by rw[J D c4 (by rw[c5];omega)];exact c2,c3,aH,e2⟩)⟩) l1 low;exact r.keepE (E:=λm=>m=8\/m=1000) aH S (λt _ u B=>J t u aH) λt u B=>I t u aH
end
section
variable{L:Nat->Nat}{s:List UInt8}
set_option maxHeartbeats 3200000 in
def zCq(hs:(Tw s)<=1048576)(aj:(nG [59,32] s).getD 0 []=[49])(df:(∀O P C,E3 s=Ik (O,P,C)->zI O P C->u0 O P C≠s)->K (.tup [.agg [Tt,Tt,Tt],.bool false]) σ)
  (bm:∀S T R O P C t,E3 s=Ik (O,P,C)->zI O P C->u0 O P C=s->eQ S T R O P C->kz σ.top t [S,T,R]->σ.top<=t->K (.tup [.agg [S,T,R],.bool Im]) (σ.up t)):zA Tp 53 [.str s] σ K:=by
 have fin0:∀{g:dj},dq σ g->g.cd σ.bY=Ik [Tt,Tt,Tt]->(∀O P C,E3 s=Ik (O,P,C)->zI O P C->u0 O P C≠s)->
   g.wr σ.bY 0 [Tt,Tt,Tt]=Ik (g.set σ.bY [Tt,Tt,Tt])/\(g.set σ.bY [Tt,Tt,Tt]).rd σ.bY 0 3=Ik [Tt,Tt,Tt]/\
   Gh σ K (.tup [.agg [Tt,Tt,Tt],.bool false]) (g.set σ.bY [Tt,Tt,Tt]):=λ{g} I ho e=>
  ⟨by rw[zL ho,Iu ⟨bj,rfl⟩];rfl,by rw[zZ,Iu rfl];rfl,Gh.fin0 (I.set (sB _) _) ⟨⟨Is,Is,Is,Is⟩,Is,Is⟩ (df e)⟩
 have no:∀{A:Prop},E3 s=none->∀O P C,E3 s=Ik (O,P,C)->zI O P C->u0 O P C≠s:=λ{_} e O P C e'=>by rw[e]at e';cases e'
 refine To Tryz.func53 ?_;refine Tq ?_;refine zA9 (sep:=[59,32]) hs Tx ?_;have eS:E3 s=lpH (orI ((nG [59,32] s).getD 0 [])) ((nG [59,32] s).drop 1):=rfl;have sl:=Q0 (s:=s) (sep:=[59,32]) Tx;have jq:=zAD (s:=s) (sep:=[59,32]);have DJ:1<=(nG [59,32] s).length:=by rw[sl.1];omega
 have Bn:=sl.2;clear sl;generalize nG [59,32] s=l at *
 have z0:(0:Int)<(Tw l:Int):=aH
 have ma:0<Tw l:=aH
 rw[show l.getD 0 []=l[0] by simp_all]at eS aj;have lI:((σ.cb [Tt,Tt,Tt]).cb (nU l)).cd (σ.bY+1)=Ik (nU l):=by simp only[Z3,seval,-ae]
 have j8:((σ.cb [Tt,Tt,Tt]).cb (nU l)).cd σ.bY=Ik [Tt,Tt,Tt]:=by simp only[Z3,seval,-ae]
 have kk:dq σ ((σ.cb [Tt,Tt,Tt]).cb (nU l)):=(zB _ _).cb _;have AT:σ.bY+1<((σ.cb [Tt,Tt,Tt]).cb (nU l)).bY:=by show σ.bY+1<σ.bY+2;omega
 have dk:((σ.cb [Tt,Tt,Tt]).cb (nU l)).gv (σ.bY+1) 0=Ik (.str l[0]):=by rw[zH lI];exact qm ma
 rw[show(σ.cb [Tt,Tt,Tt]).bY=σ.bY+1 from rfl];generalize (σ.cb [Tt,Tt,Tt]).cb (nU l)=h at *
 have U:l[0]=[49]:=aj;have Am:E3 s=lpJ [] (l.drop 1):=by rw[eS,orI,Iu U];rfl
 clear eS;have beq:(l[0] == [49])=Im:=by simpa using U
 have Y:∀pc,foldI 0 (E5 0 0,Ed 0 0) (l.drop 1)=pc->E3 s=match pc with|none=>none|some pc=>Ik ([],pc.1,pc.2):=λpc e=>by rw[Am,lpJ,Iv bj];show(match foldI 0 (E5 0 0,Ed 0 0) (l.drop 1)with|none=>none|some pc=>Ik ([],pc.1,pc.2))=_;rw[e]
 clear Am;have yG:=AT;generalize N7:h=h9 at *
 have hl:nN (Tt)=Ik (.int .i64 ([]:V1).length):=rfl;simp only[Z3,seval,-ae,z0,ma,dk,beq];refine Q9 (O:=[]) hl bj (λ{g K'} I k'=>zKw (h:=h9) (b:=σ.bY) (O:=[]) (fB.nil _ _ _) bj I k') λL J vO vP vC N Q=>?_;have mw:=N.bY;have hq:=tr_sq [];have a:=An.start Q (r:=σ.bY) aH (by rw[N.cd _ aH];exact j8) N.bY;have o1:=Q.hO.one;have o2:=Q.hP.one;have o3:=Q.hC.one;have b1:1<=Tw l:=aH
 have Bd:(1:Int)<=(Tw l:Int):=aH
 have e1:((Tw l:Int)-1).toNat=Tw l-1:=aH
 obtain⟨of,pV⟩:∃of,of=if (Tw l)=1 then 0 else 1:=⟨_,rfl⟩
 have pU:1<Tw l->of=1:=λh=>by rw[pV,Iv aH]
 simp only[Z3,seval,-ae,o1,o2,o3,b1,Bd,<-pV,Option.isNone_none,Kx,JM,and_false,if_false,e1];clear pV;refine zF (λm vs g=>m=0/\vs=[.str s,.ptr σ.bY 0,.int .i64 0,.ptr J.bY 0,.sl (σ.bY+1) of (Tw l-1) (.cm (Tw l-1)),.int .i64 (Tw l-1:Nat),.int .i64 0]/\dq h9 g/\An h9.bY g [] (l6 L J.bY 7) (E5 0 0) (Ed 0 0) σ.bY J.bY vO vP vC) 0 ?_ ?_
 .exact⟨rfl,rfl,N.cb _,a⟩
 clear a Q N
 rintro m vs g ⟨rfl,rfl,I,a⟩
 have kσ:dq σ g:=kk.trans I;have v7:=I.bY;have Gv:g.cd (σ.bY+1)=Ik (nU l):=by rw[I.cd _ yG];exact lI
 refine Tq ?_;refine fi (λaf=>?_) λan=>?_
 .have ah:(0:Int)<((Tw l-1:Nat):Int):=aH
  have aX:0<Tw l-1:=aH
  have wE:1<Tw l:=aH
  have rq:g.gv (σ.bY+1) of=Ik (.str l[1]):=by rw[zH Gv,pU aH];exact qm wE
  have yq:=jq _ (ss wE);have eL:=Y none (by
   have g0:∀q,geF 0 q=none:=λq=>by
    cases e:geF 0 q with
    |none=>rfl
    |some j=>exact absurd (zDK e) aH
   have rp:F7 0 (E5 0 0) (Ed 0 0) l[1]=none:=by
    unfold F7;rw[g0];cases exF 0 (Lib.cut l[1] [61]).2.1<;>rfl
   rw[rX wE,foldI,rp])
  simp only[Z3,seval,-ae,aX,ah,rq];generalize l[1]=q at *
  refine zF2 (sep:=[61]) aH ?_;refine Tq ?_;have c1:=zFt q [61];refine zF2 (sep:=[94]) aH ?_;refine Tq ?_;have c2:=zFt (Lib.cut q [61]).1 [94];generalize (Lib.cut (Lib.cut q [61]).1 [94]).2.1=q3 at *
  generalize (Lib.cut (Lib.cut q [61]).1 [94]).1=q2 at *
  generalize (Lib.cut q [61]).2.1=q1 at *
  refine zBz (n:=0) aH aH (λee v h3 k3 v1=>?_) λys ee iq=>?_
  .have a3:=a.c7 k3;have uX:=kσ.trans k3;simp only[Z3,seval,-ae,v1];refine ZZ (n:=0) aH aH (λ_=>?_) λj ej=>absurd (zDK ej) aH;obtain⟨u,B,D⟩:=fin0 uX a3.res (no (A:=True) eL);simp only[Z3,seval,-ae,u,B];exact D
  .have a3:=a.c7 (zB g (eh ys));have uX:=kσ.cb (eh ys);generalize Kh:g.cb (eh ys)=g3 at *
   refine Tq ?_;refine ZZ (n:=0) aH aH (λeg=>?_) λj ej=>absurd (zDK ej) aH;obtain⟨u,B,D⟩:=fin0 uX a3.res (no (A:=True) eL);simp only[Z3,seval,-ae,u,B];exact D
 obtain⟨O,hO⟩:∃O:V1,O=[]:=⟨_,rfl⟩
 obtain⟨P,hP⟩:∃P,P=E5 0 0:=⟨_,rfl⟩
 obtain⟨C,hC⟩:∃C,C=Ed 0 0:=⟨_,rfl⟩
 have nR:Sq O P C:=by rw[hO,hP,hC];exact hq
 have tB:E3 s=Ik (O,P,C):=by rw[hO,hP,hC];exact Y (Ik _) (by rw[Yr aH,foldI])
 rw[<-hP,<-hC,<-hO]at a;have xh:(Tw O)<=6:=by rw[hO];simp
 clear Y hq hO hP hC;have un:∀{O' P' C'},E3 s=Ik (O',P',C')->O'=O/\P'=P/\C'=C:=λ{O' P' C'} e=>by rw[tB]at e;cases e;exact⟨rfl,rfl,rfl⟩
 obtain⟨t1,t2,t3,dJ,rfl,rfl,rfl,dH,Cu⟩:=a.pw.treeN;simp only[Z3,seval,-ae,a.r3];refine zA.thawV (ts:=[t1,t2,t3]) dJ λX=>QK (dH X) (nR.sz xh) λt ht=>⟨Is,?_⟩
 cases t
 .obtain⟨u,B,D⟩:=fin0 kσ a.res (λO' P' C' e hp=>by grind);simp only[Z3,seval,-ae,u,B];exact D
 refine Tq ?_;refine zA.thawP (ts:=[t1,t2,t3]) a.ob dJ λX=>Z4 (dH X) (ht.1 rfl) ⟨Is,?_⟩;by_cases V:u0 O P C=s
 .obtain⟨u,B,D⟩:=a.fin;have mG:(u0 O P C == s)=Im:=by rw[V];simp
  simp only[Z3,seval,-ae,mG,a.r3,u,B];exact D.finO2b (kσ.set (sB _) _) aH λS T R t U J h3=>bm S T R O P C t tB (ht.1 rfl) V U J h3
 .obtain⟨u,B,D⟩:=fin0 kσ a.res (λO' P' C' e hp=>by obtain⟨rfl,rfl,rfl⟩:=un e;exact V);have mG:(u0 O P C == s)=false:=by simpa using V
  simp only[Z3,seval,-ae,mG,u,B];exact D
def zCo(hs:(Tw s)<=1048576)(I:(∀O P C,E3 s=Ik (O,P,C)->zI O P C->u0 O P C≠s)->K (.tup [.agg [Tt,Tt,Tt],.bool false]) σ)
  (D:∀u A m O P C t,E3 s=Ik (O,P,C)->zI O P C->u0 O P C=s->eQ u A m O P C->kz σ.top t [u,A,m]->σ.top<=t->K (.tup [.agg [u,A,m],.bool Im]) (σ.up t)):zA Tp 53 [.str s] σ K:=by
 by_cases B:(nG [59,32] s).getD 0 []=[49]
 .exact zCq hs B I D
 .exact zCp hs B I D
end
def jn(sep:List UInt8):List UInt8->List (List UInt8)->List UInt8
 |a,[]=>a
 |a,b::r=>a++(sep++jn sep b r)
def zF5{c:Int}:∀(a cur s:List UInt8),(∀x∈a,((x.toNat:Nat):Int)≠c)->yf c cur (a++s)=yf c (cur++a) s
 |[],cur,s,_=>by simp
 |x::a,cur,s,h=>by
  rw[Yy,yf,Iv (h x bj),zF5 a (cur++[x]) s (λy m=>h y (by simp[m]))];simp
def zBm{d:UInt8}:∀(u:List (List UInt8)) (a cur:List UInt8),(∀x∈a,x≠d)->(∀r∈u,∀x∈r,x≠d)->yf ((d.toNat:Nat):Int) cur (jn [d] a u)=(cur++a)::u
 |[],a,cur,ha,_=>by
  have:=zF5 (c:=((d.toNat:Nat):Int)) a cur [] (λx m e=>ha x m (UInt8.toNat_inj.1 (by exact_mod_cast e)))
  rw[YL]at this;rw[jn,this,yf]
 |b::r,a,cur,ha,hr=>by
  rw[jn,zF5 a cur _ (λx m e=>ha x m (UInt8.toNat_inj.1 (by exact_mod_cast e))),UB,yf,Iu rfl,zBm r b [] (hr b bj) λq A=>hr q (by simp[A])];rfl
def zN1(c e:UInt8):∀(m:List (List UInt8)) (a:List UInt8),jn [c,e] a m=jn [c] a (m.map ([e]++·))
 |[],a=>rfl
 |b::r,a=>by
  rw[jn,zN1 c e r b];cases r with
  |nil=>simp[jn]
  |cons q r=>simp[jn]
def zO0(c:UInt8)(t l:List UInt8):(c::t).isPrefixOf ((c::t)++l)=Im:=by
 rw[List.isPrefixOf_iff_prefix];exact List.prefix_append _ _
def zM5{b c:UInt8}(h:b≠c)(t l:List UInt8):(c::t).isPrefixOf (b::l)=false:=by
 simp[List.isPrefixOf,Ne.symm h]
def FE{c:UInt8}{t rest:List UInt8}:∀x:List UInt8,(∀y∈x,y≠c)->Lib.index (x++((c::t)++rest)) (c::t)=(Tw x:Int)
 |[],_=>by
  rw[Yn,Yy,Lib.index,<-Yy,zO0];rfl
 |b::x,h=>by
  rw[Yy,Lib.index,zM5 (h b bj),FE x λy m=>h y (by simp[m])]
  have:(((Tw x:Int)) == -1)=false:=by rw[beq_eq_false_iff_ne];omega
  rw[this];simp
def zGt{c:UInt8}{t:List UInt8}:∀x:List UInt8,(∀y∈x,y≠c)->Lib.index x (c::t)=-1
 |[],_=>rfl
 |b::x,h=>by
  rw[Lib.index,zM5 (h b bj),zGt x λy m=>h y (by simp[m])];rfl
def zKQ(sep s:List UInt8):nG sep s=Lib.splitK sep 0 (Lib.count s sep) s:=by
 unfold nG;rw[Lib.splitB_data]
def zBl{c:UInt8}{t:List UInt8}:∀(m:List (List UInt8)) (a:List UInt8),(∀x∈a,x≠c)->(∀r∈m,∀x∈r,x≠c)->nG (c::t) (jn (c::t) a m)=a::m
 |[],a,ha,_=>by
  rw[zKQ,jn,Lib.count_miss (zGt a ha)];rfl
 |b::r,a,ha,hr=>by
  have A:=zBl (c:=c) (t:=t) r b (hr b bj) λq D=>hr q (by simp[D]);have hi:=FE (c:=c) (t:=t) (rest:=jn (c::t) b r) a ha;rw[zKQ]at A ⊢;have u:(a++((c::t)++jn (c::t) b r)).drop (Tw a+(c::t).length)=jn (c::t) b r:=by
   rw[<-YH,show (Tw a)+(c::t).length=(a++(c::t)).length by simp,List.drop_left]
  rw[jn,Lib.count_hit bj hi,u,UT 1,Lib.splitK,hi];have B:((Tw a:Int) == -1)=false:=by rw[beq_eq_false_iff_ne];omega
  rw[B];simp only[KH,Y6,JM,if_false];rw[u,A,List.take_left]
def zKu{c:UInt8}{x y:List UInt8}(h:∀z∈x,z≠c):Lib.cut (x++([c]++y)) [c]=(x,y,Im):=by
 unfold Lib.cut;rw[FE (t:=[]) x h,Iu aH];simp
def Zu{k:Nat}(h:k<10):(UInt8.ofNat (48+k)).toNat=48+k:=by
 rw[UInt8.toNat_ofNat'];exact L0 aH
def zRy{M:Nat}(m:1000000000<=M):∀(u:Nat),u<=100000000->∀r:List UInt8,Lib.parseUintM M 0 (Lib.decDigits u++r)=Lib.parseUintM M u r:=by
 intro u
 induction u using Ry with
 |_ u ih=>
  intro A r;by_cases h:u<10
  .rw[Lib.decDigits,dif_pos h,UB,Lib.parseUintM,Zu h,Iu aH,Iv aH,Iv aH];congr 1;omega
  .have d:=Zu (Nat.mod_lt u (by decide:0<10));rw[Lib.decDigits,dif_neg h,YH,ih (u / 10) aH aH,UB,Lib.parseUintM,d,Iu aH,Iv aH,Iv aH];congr 1;omega
def zA3(u:Nat):∃c r,Lib.decDigits u=c::r/\48<=c.toNat/\c.toNat<=57:=by
 induction u using Ry with
 |_ u ih=>
  rw[Lib.decDigits];split
  .rename_i h;exact⟨_,[],rfl,by rw[Zu h];omega,by rw[Zu h];omega⟩
  .obtain⟨c,r,e,m,A⟩:=ih (u / 10) aH;exact⟨c,_,by rw[e];rfl,m,A⟩
def zDr(u:Nat):∀c∈Lib.decDigits u,48<=c.toNat/\c.toNat<=57:=by
 induction u using Ry with
 |_ u ih=>
  intro c hc;rw[Lib.decDigits]at hc;split at hc
  .rename_i h;rw[YW.1 hc,Zu h];omega
  .rcases YZ.1 hc with hc|hc
   .exact ih (u / 10) aH c hc
   .rw[YW.1 hc,Zu (Nat.mod_lt u Tx)];omega
def zM3{u:Nat}(m:u<=100000000):Lib.parseUintB 64 (Lib.decDigits u)=.ok u:=by
 obtain⟨c,r,e,_⟩:=zA3 u;unfold Lib.parseUintB;rw[Iv (by rw[e];simp)]
 have:=zRy (M:=2 ^ 64-1) Tx u m []
 rw[YL]at this;rw[this];rfl
def zBs{z:Int}(B:-100000000<=z)(D:z<=100000000):Lib.parseIntB 64 (Lib.itoa z)=.ok z:=by
 unfold Lib.itoa;split
 .rename_i A;rw[Lib.parseIntB_minus,zM3 aH];simp only[Lib.signedC];rw[Iv aH];congr 1;omega
 .rename_i A;obtain⟨c,r,e,I,J⟩:=zA3 z.toNat;have m:=zM3 (u:=z.toNat) aH;rw[e]at m ⊢;rw[Lib.parseIntB_plain 64 c r aH aH,m];simp only[Lib.signlessC];rw[Iv aH];congr 1;omega
def zMh:∀(a:List UInt8) (y:Int) (r:List UInt8),(∀c∈a,48<=c.toNat/\c.toNat<=57)->vlL y (a++r)=vlL (vlL y a) r
 |[],y,r,_=>rfl
 |c::a,y,r,h=>by
  have:=h c bj
  rw[Yy,vlL,vlL,Iv aH,Iv aH];exact zMh a _ r λd m=>h d (by simp[m])
def zRb(u:Nat):vlL 0 (Lib.decDigits u)=u:=by
 induction u using Ry with
 |_ u ih=>
  rw[Lib.decDigits];split
  .rename_i h;rw[vlL,Zu h,Iv aH,vlL];omega
  .have d:=Zu (Nat.mod_lt u (by decide:0<10));rw[zMh _ _ _ (zDr _),ih (u / 10) aH,vlL,d,Iv aH,vlL];omega
def zP4(u:Nat)(h:0<u):∀c∈(Lib.decDigits u).head?,c≠48:=by
 induction u using Ry with
 |_ u ih=>
  intro c m e;rw[Lib.decDigits]at m;split at m
  .rename_i D;have A:UInt8.ofNat (48+u)=c:=by simpa using m
   have:=Zu D
   rw[A,e]at this
   have:(48:UInt8).toNat=48:=rfl
   omega
  .obtain⟨B,r,e',_⟩:=zA3 (u / 10);rw[e']at m;have A:B=c:=by simpa using m
   exact ih (u / 10) aH aH c (by rw[e',A];rfl) e
def zDc{u:Nat}(m:u<1000000):vlF (Lib.decDigits u)=u:=by
 have A:=Zv 5 u m;obtain⟨c,r,e,_⟩:=zA3 u;unfold vlF;rw[Iv,zRb]
 rintro(h|h|⟨h,h0⟩)
 .rw[e]at h;simp at h
 .omega
 .rcases MB u with rfl|hp
  .rw[Lib.decDigits,dif_pos Tx]at h;simp at h
  .exact zP4 u hp 48 (by rw[h0];rfl) rfl
def Qh(sep b:List UInt8):∀(m:List (List UInt8)) (a:List UInt8),jn sep a (m++[b])=jn sep a m++(sep++b)
 |[],a=>rfl
 |c::r,a=>by
  rw[Yy,jn,Qh sep b r c,jn];simp
def sc(i:Nat)(d:List UInt8)(x:V1):List UInt8:=[tj i]++([94]++(d++([61]++kx (Mx.nw x))))
def Cj(O:V1)(P:V2):Nat->List (List UInt8)
 |0=>[]
 |i+1=>if isZ (jt P i)then Cj O P i else Cj O P i++[sc i (Lib.decDigits (at_ O i).toNat) (jt P i)]
def Hn(n:Nat)(C:V3)(i:Nat):Nat->List (List UInt8)
 |0=>[]
 |k+1=>if iD C i (i+1+k)=iS n (i+1+k)then Hn n C i k else Hn n C i k++[sc (i+1+k) [tj i] (iD C i (i+1+k))]
def DU(n:Nat)(C:V3):Nat->List (List UInt8)
 |0=>[]
 |i+1=>DU n C i++Hn n C i (n-1-i)
def zKY(a:List UInt8)(m:List (List UInt8)):∀i,uc O P (jn [59,32] a m) i=jn [59,32] a (m++Cj O P i)
 |0=>by rw[uc,Cj,YL]
 |i+1=>by
  rw[uc,Cj,zKY a m i];split
  .rfl
  .rw[<-YH,Qh];simp only[sc,YH]
def zI4(a:List UInt8)(m:List (List UInt8))(i:Nat):∀k,tn n C (jn [59,32] a m) i k=jn [59,32] a (m++Hn n C i k)
 |0=>by rw[tn,Hn,YL]
 |k+1=>by
  rw[tn,Hn,zI4 a m i k];split
  .rfl
  .rw[<-YH,Qh];simp only[sc,YH]
def zKv(a:List UInt8)(m:List (List UInt8)):∀i,Ci n C (jn [59,32] a m) i=jn [59,32] a (m++DU n C i)
 |0=>by rw[Ci,DU,YL]
 |i+1=>by rw[Ci,DU,zKv a m i,zI4,YH]
def zHx(h:(Tw O)≠0):u0 O P C=jn [59,32] (pW O (Tw O)) (Cj O P (Tw O)++DU (Tw O) C (Tw O)):=by
 have e:pW O (Tw O)=jn [59,32] (pW O (Tw O)) []:=rfl;rw[u0,Iv h,e,zKY,zKv];rfl
def zGD:∀{i:Nat},i<Tw O->pW O (i+1)=jn [32] (Lib.decDigits (at_ O 0).toNat) ((Iw i).map λk=>Lib.decDigits (at_ O (k+1)).toNat)
 |0,_=>rfl
 |i+1,h=>by
  rw[pW,Iu aH,zGD (i:=i) aH,Om,YI,PG,Qh];simp
def zQw(h:(Tw O)≠0):Lib.decDigits (at_ O 0).toNat::((Iw (Tw O-1)).map λk=>Lib.decDigits (at_ O (k+1)).toNat)=O.map λo=>Lib.decDigits o.toNat:=by
 cases O with
 |nil=>simp at h
 |cons o r=>
  simp only[Yw,YF,Nat.add_sub_cancel];congr 1;apply UD bj;intro k m u;simp only[Yj,Ux]at m;simp only[UC,List.getElem_range];rw[gj (show k+1<(o::r).length by simpa using m)];rfl
def zAl{o:Int}(h:pR o):∃c:UInt8,Lib.decDigits o.toNat=[c]/\50<=c.toNat/\c.toNat<=57/\vlF [c]=o/\Lib.parseIntB 64 [c]=.ok o:=by
 have m:=h.bd;have e:Lib.decDigits o.toNat=[UInt8.ofNat (48+o.toNat)]:=by rw[Lib.decDigits,dif_pos aH]
 have d:=Zu (k:=o.toNat) aH;have v:=zDc (u:=o.toNat) aH;have p:=zBs (z:=o) aH aH;rw[Lib.itoa,Iv aH]at p;rw[e]at v p;exact⟨_,e,by rw[d];omega,by rw[d];omega,by rw[v];omega,p⟩
def zI3{o:Int}(h:pR o){d:UInt8}(u:d.toNat<48\/57<d.toNat):∀x∈Lib.decDigits o.toNat,x≠d:=λx m e=>by
 have:=zDr _ x m
 rw[e]at this;omega
def zDi(A:∀o∈O,pR o){d:UInt8}(u:d.toNat<48\/57<d.toNat)(m:d≠32):∀i,i<=Tw O->∀x∈pW O i,x≠d
 |0,_,x,hx=>by cases hx
 |i+1,hi,x,hx=>by
  have D:pR (at_ O i):=by rw[gj aH];exact A _ (ss _)
  have B:=zDi A u m i aH;rw[pW]at hx;rcases YZ.1 hx with hx|hx
  .split at hx
   .rcases YZ.1 hx with hx|hx
    .exact B x hx
    .rw[YW.1 hx];exact m.symm
   .exact B x hx
  .exact zI3 D u x hx
def zQx(m:∀o∈O,pR o):∀(acc:V1),(Tw acc)+Tw O<=6->iL (acc++O)<=729->orL acc (O.map λo=>Lib.decDigits o.toNat)=Ik (acc++O):=by
 induction O with
 |nil=>intro acc _ h;rw[YL]at h;rw[UJ,orL,Iu h,YL]
 |cons o r ih=>
  intro acc A u;obtain⟨c,e,_,_,B,_⟩:=zAl (m o bj);simp only[YF]at A;rw[Yw,orL,e,B,Iu ⟨m o bj,aH⟩,ih (λq u=>m q (by simp[u])) (acc++[o]) (by simp;omega) (by simpa using u)];simp
def zPT(m:∀o∈O,pR o):∀(acc:V1),zy acc (O.map λo=>Lib.decDigits o.toNat)=Ik (acc++O):=by
 induction O with
 |nil=>intro acc;rw[UJ,zy,YL]
 |cons o r ih=>
  intro acc;obtain⟨c,e,_,_,_,A⟩:=zAl (m o bj);rw[Yw,zy,e,A];simp only;rw[ih (λq u=>m q (by simp[u])) (acc++[o])];simp
def zKZ(D:∀o∈O,pR o)(h:(Tw O)≠0):pW O (Tw O)≠[49]:=λe=>by
 obtain⟨i,hi⟩:∃i,(Tw O)=i+1:=⟨(Tw O)-1,aH⟩
 have B:pR (at_ O 0):=by rw[gj aH];exact D _ (ss _)
 obtain⟨c,A,u,_⟩:=zAl B;rw[hi,zGD aH,A]at e;have m:∃t,([c]++t:List UInt8)=[49]:=by
  cases hm:(Iw i).map λk=>Lib.decDigits (at_ O (k+1)).toNat with
  |nil=>rw[hm]at e;exact⟨[],e⟩
  |cons b r=>rw[hm]at e;exact⟨_,e⟩
 obtain⟨t,m⟩:=m
 have:c=49:=by simpa using (List.cons.inj m).1
 rw[this]at u;exact absurd u Tx
def zH9(u:∀o∈O,pR o)(h:(Tw O)≠0):∃a m,pW O (Tw O)=jn [32] a m/\a::m=(O.map λo=>Lib.decDigits o.toNat):=by
 obtain⟨i,hi⟩:∃i,(Tw O)=i+1:=⟨(Tw O)-1,aH⟩
 refine⟨_,_,by rw[hi];exact zGD aH,?_⟩
 have:=zQw h
 rw[hi]at this;exact this
def zNg(u:∀o∈O,pR o):∀q∈O.map (λo=>Lib.decDigits o.toNat),∀x∈q,x≠32:=λq A x B=>by
 obtain⟨o,m,rfl⟩:=YD.1 A;exact zI3 (u o m) (.inl Tx) x B
def zPV(J:zI O P C)(h:(Tw O)≠0):orF (pW O (Tw O))=Ik O:=by
 obtain⟨D,_,_,m,I,_⟩:=J;obtain⟨a,Q,B,A⟩:=zH9 m h;have u:=zNg m;rw[<-A]at u
 have:=zBm (d:=32) Q a [] (u a bj) λr N=>u r (by simp[N])
 rw[orF,Iv (zKZ m h),B,show(32:Int)=(((32:UInt8).toNat:Nat):Int) from rfl,this,Yn,A,zQx m [] (by simpa using D) (by simpa using I)];rfl
def zPU(D:zI O P C)(h:(Tw O)≠0):orI (pW O (Tw O))=Ik O:=by
 obtain⟨N,_,_,m,Q,_⟩:=D;obtain⟨a,J,B,A⟩:=zH9 m h;have u:=zNg m;rw[<-A]at u
 have:=zBl (c:=32) (t:=[]) J a (u a bj) λr I=>u r (by simp[I])
 rw[orI,Iv (zKZ m h),B,this,A,zPT m []];rfl
def zDl{l:Int}(m:1<=l)(u:l<=26):(UInt8.ofNat (96+l).toNat).toNat=96+l.toNat:=by
 rw[UInt8.toNat_ofNat',L0 aH];omega
def Z6{i:Nat}(h:i<=20):(tj i).toNat=97+i:=by
 rw[tj,UInt8.toNat_ofNat',L0 aH]
def zHQ{w:V1}(B:∀l∈w,1<=l/\l<=6){d:UInt8}(D:d.toNat<97)(u:d≠49):∀x∈kx w,x≠d:=λx m e=>by
 unfold kx at m;split at m
 .rw[YW.1 m]at e;exact u e.symm
 .obtain⟨l,A,rfl⟩:=YD.1 m;have b:=B l A
  have:=zDl b.1 aH
  rw[e]at this;omega
def zD3{w:V1}(u:∀l∈w,1<=l/\l<=6):(w=[]/\kx w=[49])\/(kx w≠[49]/\kx w≠[]/\kx w=w.map λl=>UInt8.ofNat (96+l).toNat):=by
 cases w with
 |nil=>exact .inl ⟨rfl,rfl⟩
 |cons l r=>
  have e:kx (l::r)=(l::r).map λl=>UInt8.ofNat (96+l).toNat:=Iv bj;refine .inr ⟨λm=>?_,by rw[e];simp,e⟩;have b:=u l bj
  have:=zDl b.1 aH
  rw[e,Yw]at m;rw[(List.cons.inj m).1]at this
  have:(49:UInt8).toNat=49:=rfl
  omega
def zHP(m:n<=6):∀(w acc:V1),(∀l∈w,1<=l/\l<=(n:Int))->wpF n acc (w.map λl=>UInt8.ofNat (96+l).toNat)=Ik (acc++w)
 |[],acc,_=>by rw[UJ,wpF,YL]
 |l::w,acc,h=>by
  have b:=h l bj;have e:=zDl b.1 aH;rw[Yw,wpF,e,Iu ⟨aH,aH⟩,show(((96+l.toNat:Nat):Int)-97+1)=l by omega,zHP m w _ λq u=>h q (by simp[u])];simp
def zHi(m:n<=6):∀(w acc:V1),(∀l∈w,1<=l/\l<=(n:Int))->rwF n acc (w.map λl=>UInt8.ofNat (96+l).toNat)=Ik (acc++w)
 |[],acc,_=>by rw[UJ,rwF,YL]
 |l::w,acc,h=>by
  have b:=h l bj;have e:=zDl b.1 aH;have el:ltN (96+l.toNat)=l:=by unfold ltN;rw[Iv aH];omega
  rw[Yw,rwF,e,el,Iv (by rintro(h|h|h)<;>omega),zHi m w _ λq u=>h q (by simp[u])];simp
def zPe(B:n<=6){w:V1}(h:∀l∈w,1<=l/\l<=(n:Int)):lpF n (kx w)=Ik w:=by
 rcases zD3 (w:=w) λl A=>by have:=h l A;omega with ⟨rfl,e⟩|⟨m,u,e⟩
 .rw[e];rfl
 .rw[lpF,Iv m,Iv u,e,zHP B w [] h];rfl
def zOr(B:n<=6){w:V1}(h:∀l∈w,1<=l/\l<=(n:Int)):rdF n (kx w)=Ik w:=by
 rcases zD3 (w:=w) λl A=>by have:=h l A;omega with ⟨rfl,e⟩|⟨m,u,e⟩
 .rw[e];rfl
 .rw[rdF,Iv m,Iv u,e,zHi B w [] h];rfl
def zKM:∀(u acc:V1) (w:V1),Ei acc (u++w)=(Ei acc u).bind λa=>Ei a w
 |[],acc,w=>rfl
 |x::u,acc,w=>by
  rw[Yy,Ei,Ei];split
  .rfl
  .exact zKM u _ w
def zKK(i:Nat):∀(k:Nat) (acc:V1),i<Tw acc->Ei acc (Jf k ((i:Int)+1))=Ik (acc.set i (acc.getD i 0+k))
 |0,acc,h=>by
  rw[RP,Ei];congr 1;rw[YK,na h];simp
 |k+1,acc,h=>by
  rw[LN,Ei,Iv aH,show((i:Int)+1-1).toNat=i by omega,zKK i k _ (by simpa using h)];congr 1;rw[List.set_set];congr 1;rw[YK,List.getElem?_set_self h];simp only[NP];omega
def zGS{x:V1}(u:∀j,j<Tw x->0<=at_ x j):∀i,i<=Tw x->Ei (Jf (Tw x) 0) (Mx.gT x i)=Ik (x.take i++Jf (Tw x-i) 0)
 |0,_=>by rw[Mx.gT,Ei];simp
 |i+1,hi=>by
  have I:=u i aH;rw[Mx.gT,zKM,zGS u i aH,YG,zKK i _ _ (by simp;omega)];congr 1;have B:(x.take i++Jf (Tw x-i) (0:Int)).getD i 0=0:=by
   rw[YK,Yz (by simp;omega)];simp only[Ym,Oh (aH:i<=Tw x),Yh];rw[RR,Iu aH];rfl
  rw[B];have D:(0:Int)+(nx x i:Int)=x[i]:=by rw[gj aH]at I;unfold nx;rw[gj aH];omega
  rw[D];apply Kr ;intro j;rw[Yu,cO,Ym,YT];have J:min i (Tw x)=i:=aH
  have A:min (i+1) (Tw x)=i+1:=aH
  by_cases m:i=j
  .subst m;rw[Iu rfl,Iu aH,YC (by simp;omega),R9 aH,na aH]
  .rw[Iv m];rcases YY j i with h|h
   .rw[YC (by simp;omega),YC (by simp;omega),R9 h,R9 aH]
   .rw[Yz (by simp;omega),Yz (by simp;omega),Ym,Ym,J,A,RR,RR];rcases YY j (Tw x) with h2|h2
    .rw[Iu aH,Iu aH]
    .rw[Iv aH,Iv aH]
def zMi{x:V1}(m:∀j,j<Tw x->0<=at_ x j):Ei (Jf (Tw x) 0) (Mx.nw x)=Ik x:=by
 rw[Mx.nw,zGS m (Tw x) (sB _)];simp
def nw_le(u:n<=6){x:V1}(m:(Tw x)=n):∀l∈Mx.nw x,1<=l/\l<=(n:Int):=Mx.Bq (n:=n) aH
def zPt(u:n<=6){x:V1}(m:(Tw x)=n)(A:∀j,j<Tw x->0<=at_ x j):exF n (kx (Mx.nw x))=Ik x:=by
 have:=zMi A
 rw[m]at this;rw[exF,zOr u (nw_le u m)];exact this
def zKm{i:Nat}(h:i<n)(m:n<=6):geF n [tj i]=Ik i:=by
 have:=Z6 (i:=i) aH
 rw[geF,this,Iu aH];congr 1;omega
abbrev Tab:=V2×V3
def sp(f:Tab->List UInt8->Option Tab):Tab->List (List UInt8)->Option Tab
 |pc,[]=>Ik pc
 |pc,s::r=>match f pc s with|none=>none|some lz=>sp f lz r
def zKn:∀(l:List (List UInt8)) (pc:Tab),Em O pc l=sp (λpc s=>xI O pc.1 pc.2 s) pc l
 |[],pc=>rfl
 |s::r,pc=>by
  rw[Em,sp];cases xI O pc.1 pc.2 s with
  |none=>rfl
  |some lz=>exact zKn r lz
def zKo:∀(l:List (List UInt8)) (pc:Tab),foldI n pc l=sp (λpc s=>F7 n pc.1 pc.2 s) pc l
 |[],pc=>rfl
 |s::r,pc=>by
  rw[foldI,sp];cases F7 n pc.1 pc.2 s with
  |none=>rfl
  |some lz=>exact zKo r lz
def zAL(f:Tab->List UInt8->Option Tab):∀(a b:List (List UInt8)) (pc m:Tab),sp f pc a=Ik m->sp f pc (a++b)=sp f m b
 |[],b,pc,m,e=>by rw[sp]at e;rw[Yn,Option.some.inj e]
 |s::r,b,pc,m,e=>by
  rw[Yy,sp];rw[sp]at e;cases h:f pc s with
  |none=>rw[h]at e;cases e
  |some q=>rw[h]at e;exact zAL f r b q m e
structure Sets(f:Tab->List UInt8->Option Tab)(p:List UInt8->List UInt8)(O:V1)(P:V2)(C:V3):Prop where
 pow:∀(P':V2) (C':V3) i,i<Tw O->f (P',C') (p (sc i (Lib.decDigits (at_ O i).toNat) (jt P i)))=Ik (P'.set i (jt P i),C')
 con:∀(P':V2) (C':V3) i k,i+1+k<Tw O->f (P',C') (p (sc (i+1+k) [tj i] (iD C i (i+1+k))))=Ik (P',C'.set i ((C'.getD i []).set k (iD C i (i+1+k))))
def qy{α:Type}{l:List α}{d x:α}{i j:Nat}(h:i<Tw l):(l.set i x).getD j d=if i=j then x else l.getD j d:=by
 grind
def zIf:∀{x:V1},isZ x->x=Jf (Tw x) 0
 |[],_=>rfl
 |a::x,h=>by
  rw[YF,LN,<-zIf (x:=x) λb m=>h b (by simp[m]),h a bj]
def zIn{f:Tab->List UInt8->Option Tab}{p:List UInt8->List UInt8}(S:Sets f p O P C)(B:zI O P C)(C0:V3):
  ∀i,i<=Tw O->∃P',sp f (E5 (Tw O) (Tw O),C0) ((Cj O P i).map p)=Ik (P',C0)/\Tw P'=(Tw O)/\∀t,t<Tw O->P'.getD t []=if t<i then jt P t else Jf (Tw O) 0
 |0,_=>⟨_,rfl,by simp[E5],λt m=>by
   rw[Iv aH,YK,E5,RR,Iu m];rfl⟩
 |i+1,hi=>by
  obtain⟨P',e,A,I⟩:=zIn S B C0 i aH;have N:=B.shp;rw[Cj];split
  .rename_i J;refine⟨P',e,A,λt m=>?_⟩;rw[I t m];by_cases u:t<i
   .rw[Iu u,Iu aH]
   .by_cases D:t=i
    .subst D;rw[Iv aH,Iu aH,<-(N.pw t m).len];exact(zIf J).symm
    .rw[Iv u,Iv aH]
  .rw[YI,PG];refine⟨P'.set i (jt P i),?_,by simpa using A,λt m=>?_⟩
   .rw[zAL f _ _ _ _ e,sp,S.pow P' C0 i aH];rfl
   grind
def zIm{f:Tab->List UInt8->Option Tab}{p:List UInt8->List UInt8}(S:Sets f p O P C)(m:V2){i:Nat}(hi:i<Tw O)(C0:V3)(u:i<Tw C0)(A:(C0.getD i []).length=Tw O-1-i)(D:∀k,k<Tw O-1-i->(C0.getD i []).getD k []=iS (Tw O) (i+1+k)):
  ∀k,k<=Tw O-1-i->∃r,sp f (m,C0) ((Hn (Tw O) C i k).map p)=Ik (m,C0.set i r)/\Tw r=(Tw O)-1-i/\∀t,t<Tw O-1-i->r.getD t []=if t<k then iD C i (i+1+t)else iS (Tw O) (i+1+t)
 |0,_=>⟨C0.getD i [],by
   rw[YK,na u,NP,List.set_getElem_self];rfl,A,λt B=>by rw[Iv aH];exact D t B⟩
 |k+1,hk=>by
  obtain⟨r,e,I,J⟩:=zIm S m hi C0 u A D k aH;rw[Hn];split
  .grind
  .rw[YI,PG];refine⟨r.set k (iD C i (i+1+k)),?_,by simpa using I,λt B=>?_⟩
   .rw[zAL f _ _ _ _ e,sp,S.con m (C0.set i r) i k aH];simp only[sp];rw[qy u,Iu rfl,List.set_set]
   grind
def zQL{n i:Nat}(h:i<n):(Ed n n).getD i []=trJ n i (n-1-i):=by
 rw[YK,Ed,Yl,O6 h];rfl
def zIo{f:Tab->List UInt8->Option Tab}{p:List UInt8->List UInt8}(S:Sets f p O P C)(J:zI O P C)(m:V2):
  ∀i,i<=Tw O->∃C',sp f (m,Ed (Tw O) (Tw O)) ((DU (Tw O) C i).map p)=Ik (m,C')/\Tw C'=(Tw O)/\∀t,t<Tw O->C'.getD t []=if t<i then C.getD t []else trJ (Tw O) t (Tw O-1-t)
 |0,_=>⟨_,rfl,by simp[Ed],λt B=>by rw[Iv aH];exact zQL B⟩
 |i+1,hi=>by
  obtain⟨C',e,T,I⟩:=zIo S J m i aH;have V:=J.shp;have D:C'.getD i []=trJ (Tw O) i (Tw O-1-i):=by rw[I i aH,Iv aH]
  obtain⟨r,N,X,U⟩:=zIm S m (i:=i) aH C' aH (by rw[D,trJ];simp) (λk R=>by
   rw[D,YK,trJ,Yl,O6 R];rfl) (Tw O-1-i) (sB _)
  have er:r=C.getD i []:=by
   have hlen:=V.row i aH;apply UD aH;intro t u A
   have:=U t aH
   rw[Iu aH,YK,na u]at this;have Q:iD C i (i+1+t)=(C.getD i []).getD t []:=by unfold iD;rw[show i+1+t-i-1=t by omega]
   rw[Q,YK (l:=C.getD i []),na A]at this;exact this
  rw[DU,YI];refine⟨C'.set i r,by rw[zAL f _ _ _ _ e];exact N,by simpa using T,λt B=>?_⟩;rw[qy aH,I t B];by_cases A:i=t
  .subst A;rw[Iu rfl,Iu aH,er]
  .rw[Iv A];by_cases u:t<i
   .rw[Iu u,Iu aH]
   .rw[Iv u,Iv aH]
def ext_D{α:Type}{a b:List α}{d:α}(h:(Tw a)=Tw b)(e:∀t,t<Tw a->a.getD t d=b.getD t d):a=b:=by
 apply UD h;intro t m u
 have:=e t m
 rw[YK,na m,YK,na u]at this;exact this
def zIp{f:Tab->List UInt8->Option Tab}{p:List UInt8->List UInt8}(S:Sets f p O P C)(m:zI O P C):sp f (E5 (Tw O) (Tw O),Ed (Tw O) (Tw O)) ((Cj O P (Tw O)++DU (Tw O) C (Tw O)).map p)=Ik (P,C):=by
 have u:=m.shp;obtain⟨P',A,R,J⟩:=zIn S m (Ed (Tw O) (Tw O)) (Tw O) (sB _);obtain⟨C',B,T,N⟩:=zIo S m P' (Tw O) (sB _);have I:P'=P:=ext_D (d:=[]) (by rw[R,u.pl]) λt Q=>by rw[J t aH,Iu aH]
 have D:C'=C:=ext_D (d:=[]) (by rw[T,u.cl]) λt Q=>by rw[N t aH,Iu aH]
 rw[YI,zAL f _ _ _ _ A,B,I,D]
def zE5{k:Nat}{x:V1}(h:TT O k x):∀j,j<Tw x->0<=at_ x j:=λj m=>(h.bd j (by rw[<-h.len];exact m)).1
def zQV{i:Nat}{d:List UInt8}{x:V1}(pre:List UInt8):pre++sc i d x=jn [61] (pre++([tj i]++([94]++d))) [kx (Mx.nw x)]:=by
 rw[sc,jn,jn];simp only[YH]
def zRk{i:Nat}{c:UInt8}{x:V1}(hi:i<=20)(u:c≠61)(D:∀l∈Mx.nw x,1<=l/\l<=6):yf 61 [] ([32]++sc i [c] x)=[[32,tj i,94,c],kx (Mx.nw x)]:=by
 rw[zQV]
 have:=zBm (d:=61) [kx (Mx.nw x)] ([32]++([tj i]++([94]++[c]))) [] (λy m e=>by
  have A:=Z6 hi;simp only[Yy,Yn,Yq,Ya,or_false]at m;rcases m with h|h|h|h
  .rw[h]at e;exact absurd e Tx
  .rw[<-h,e]at A;have:(61:UInt8).toNat=61:=rfl;omega
  .rw[h]at e;exact absurd e Tx
  .exact u (h.symm.trans e)) (λr B y m=>by rw[YW.1 B]at m;exact zHQ D Tx Tx y m)
 exact this
def zKS{i:Nat}{c:UInt8}{x:V1}{P':V2}{C':V3}(u:(Tw O)<=6)(hi:i<=20)(B:c≠61)(m:(Tw x)=Tw O)(I:∀j,j<Tw x->0<=at_ x j):xI O P' C' ([32]++sc i [c] x)=relJ O P' C' [c] (i:Int) ((c.toNat:Int)-97) x:=by
 have A:=nw_le u m;have D:=zMi I;have J:=Z6 hi;rw[m]at D;rw[xI,zRk hi B λl h=>by have:=A l h;omega,relG,Iu (show([[32,tj i,94,c],kx (Mx.nw x)]:List (List UInt8)).length=2 from rfl)];show relH O P' C' [32,tj i,94,c] (kx (Mx.nw x))=_;rw[relH,Iu ⟨rfl,rfl,rfl⟩,zPe u A,relI];grind
def zRl(D:zI O P C):Sets (λpc s=>xI O pc.1 pc.2 s) ([32]++·) O P C:=by
 have I:=D.shp;have J:=I.le;refine⟨λP' C' i hi=>?_,λP' C' i k Q=>?_⟩
 .have B:pR (at_ O i):=by rw[gj aH];exact D.2.2.2.1 _ (ss _)
  have tt:=I.pw i hi;obtain⟨c,m,N,A,_⟩:=zAl B;show xI O P' C' ([32]++sc i (Lib.decDigits (at_ O i).toNat) (jt P i))=_;rw[m,zKS J aH (λe=>by rw[e]at A;exact absurd A Tx) tt.len (zE5 tt),relJ,Iv aH,KH,m,Iu rfl]
 .have tt:=I.cj i (i+1+k) aH Q;have B:pR (at_ O (i+1+k)):=by rw[gj aH];exact D.2.2.2.1 _ (ss _)
  obtain⟨c,m,N,A,_⟩:=zAl B;have u:=Z6 (i:=i) aH;show xI O P' C' ([32]++sc (i+1+k) [tj i] (iD C i (i+1+k)))=_;rw[zKS J aH (λe=>by rw[e]at u;have:(61:UInt8).toNat=61:=rfl;omega) tt.len (zE5 tt),relJ,Iv aH,KH,m,Iv (λe=>by
   rw[(List.cons.inj e).1]at u;omega),u,Iv aH]
  grind
def zKR{i:Nat}{d:List UInt8}{x:V1}{P':V2}{C':V3}(A:(Tw O)<=6)(hi:i<Tw O)(I:∀y∈d,y≠61)(J:(Tw x)=Tw O)(N:∀j,j<Tw x->0<=at_ x j):F7 (Tw O) P' C' (sc i d x)=Ik (relK (Tw O) P' C' x i (geF (Tw O) d)):=by
 have u:=Z6 (i:=i) aH;have B:Lib.cut (sc i d x) [61]=([tj i]++([94]++d),kx (Mx.nw x),Im):=by
  have:=zKu (c:=61) (x:=[tj i]++([94]++d)) (y:=kx (Mx.nw x)) (λz m e=>by
   simp only[Yy,Yn,Yq]at m;rcases m with h|h|h
   .rw[<-h,e]at u;have:(61:UInt8).toNat=61:=rfl;omega
   .rw[h]at e;exact absurd e Tx
   .exact I z h e)
  rw[<-this,sc];simp only[YH]
 have D:Lib.cut ([tj i]++([94]++d)) [94]=([tj i],d,Im):=zKu (c:=94) (x:=[tj i]) (y:=d) λz m e=>by
  rw[YW.1 m]at e;rw[e]at u
  have:(94:UInt8).toNat=94:=rfl
  omega
 rw[F7,B];simp only;rw[zPt A J N];simp only;rw[D];simp only;rw[zKm hi A]
def zRm(I:zI O P C):Sets (λpc s=>F7 (Tw O) pc.1 pc.2 s) id O P C:=by
 have A:=I.shp;have m:=A.le;refine⟨λP' C' i hi=>?_,λP' C' i k D=>?_⟩
 .have hP:pR (at_ O i):=by rw[gj aH];exact I.2.2.2.1 _ (ss _)
  have tt:=A.pw i hi;obtain⟨c,N,Q,B,_⟩:=zAl hP;show F7 (Tw O) P' C' (sc i (Lib.decDigits (at_ O i).toNat) (jt P i))=_;rw[N,zKR m hi (λy u e=>by rw[YW.1 u]at e;rw[e]at B;exact absurd B Tx) tt.len (zE5 tt),geF,Iv aH,relK]
 .have tt:=A.cj i (i+1+k) aH D;have J:=Z6 (i:=i) aH;show F7 (Tw O) P' C' (sc (i+1+k) [tj i] (iD C i (i+1+k)))=_;rw[zKR m D (λy u e=>by rw[YW.1 u]at e;rw[e]at J;have:(61:UInt8).toNat=61:=rfl;omega) tt.len (zE5 tt),zKm aH m,relK,Iu aH,show i+1+k-i-1=k by omega]
def zHj(B:zI O P C){d:UInt8}(I:d.toNat<97)(u:d.toNat<48\/57<d.toNat)(D:d≠94)(J:d≠61):∀q∈Cj O P (Tw O)++DU (Tw O) C (Tw O),∀x∈q,x≠d:=by
 have A:=B.shp;have N:=A.le;have key:∀i,i<=20->∀(e:List UInt8) (y:V1),(Tw y)=Tw O->(∀x∈e,x≠d)->∀x∈sc i e y,x≠d:=λi hi e y V U x m=>by
  have S:=Z6 hi;have X:=nw_le N V;rw[sc]at m;simp only[YZ,YW]at m;rcases m with h|h|h|h|h
  .intro e;rw[<-h,e]at S;omega
  .rw[h];exact D.symm
  .exact U x h
  .rw[h];exact J.symm
  .exact zHQ (λl h=>by have:=X l h;omega) I (λe=>by rw[e]at u;exact absurd u Tx) x h
 have pw:∀i,i<=Tw O->∀q∈Cj O P i,∀x∈q,x≠d:=λi=>by
  induction i with
  |zero=>intro _ q hq;cases hq
  |succ i ih=>
   intro hi q hq;have T:pR (at_ O i):=by rw[gj aH];exact B.2.2.2.1 _ (ss _)
   rw[Cj]at hq;split at hq
   .exact ih aH q hq
   .rcases YZ.1 hq with hq|hq
    .exact ih aH q hq
    .rw[YW.1 hq];exact key i aH _ _ (A.pw i aH).len (zI3 T u)
 have Q:∀i,i<Tw O->∀k,k<=Tw O-1-i->∀q∈Hn (Tw O) C i k,∀x∈q,x≠d:=λi hi k=>by
  induction k with
  |zero=>intro _ q hq;cases hq
  |succ k ih=>
   intro hk q hq;rw[Hn]at hq;split at hq
   .exact ih aH q hq
   .rcases YZ.1 hq with hq|hq
    .exact ih aH q hq
    .rw[YW.1 hq];refine key (i+1+k) aH _ _ (A.cj i (i+1+k) aH aH).len λx m e=>?_;have R:=Z6 (i:=i) aH;rw[YW.1 m]at e;rw[e]at R;omega
 have Y:∀i,i<=Tw O->∀q∈DU (Tw O) C i,∀x∈q,x≠d:=λi=>by
  induction i with
  |zero=>intro _ q hq;cases hq
  |succ i ih=>
   intro hi q hq;rw[DU]at hq;rcases YZ.1 hq with hq|hq
   .exact ih aH q hq
   .exact Q i aH _ (sB _) q hq
 grind
def zEX(u:zI O P C)(h:(Tw O)=0):O=[]/\P=[]/\C=[]:=by
 have m:=u.shp;exact⟨YM h,YM (by rw[m.pl,h]),YM (by rw[m.cl,h])⟩
def zIJ(m:zI O P C):EA (u0 O P C)=Ik (O,P,C):=by
 by_cases h:(Tw O)=0
 .obtain⟨rfl,rfl,rfl⟩:=zEX m h;rfl
 have u:=zDi m.2.2.2.1 (d:=59) (.inr Tx) Tx (Tw O) (sB _);have A:=zHj m (d:=59) Tx (.inr Tx) Tx Tx
 have:=zBm (d:=59) ((Cj O P (Tw O)++DU (Tw O) C (Tw O)).map ([32]++·)) (pW O (Tw O)) [] u λr D x B=>by
  grind
 rw[EA,zHx h,zN1,show(59:Int)=(((59:UInt8).toNat:Nat):Int) from rfl,this];show lpsL (orF (pW O (Tw O))) ((Cj O P (Tw O)++DU (Tw O) C (Tw O)).map ([32]++·))=_;rw[zPV m h,lpsL,zKn,zIp (zRl m) m]
def zKh(m:zI O P C):E3 (u0 O P C)=Ik (O,P,C):=by
 by_cases h:(Tw O)=0
 .obtain⟨rfl,rfl,rfl⟩:=zEX m h;decide +kernel
 have A:=zDi m.2.2.2.1 (d:=59) (.inr Tx) Tx (Tw O) (sB _);have B:=zHj m (d:=59) Tx (.inr Tx) Tx Tx
 have:=zBl (c:=59) (t:=[32]) (Cj O P (Tw O)++DU (Tw O) C (Tw O)) (pW O (Tw O)) A B
 have D:=m.1;rw[E3,zHx h,this];show lpH (orI (pW O (Tw O))) (Cj O P (Tw O)++DU (Tw O) C (Tw O))=_;have u:=zIp (zRm m) m;rw[List.map_id]at u;rw[zPU m h,lpH,lpJ,Iv aH,zKo,u]
section
variable{G G':List sg}{s:List UInt8}
abbrev prG(g:sg):List UInt8:=u0 g.1 g.2.1 g.2.2
def liL(x:V1):List UInt8:=jn [32] [58] (x.map Lib.itoa)
def lnT(k:Int)(G:List sg)(L:V2):List (List UInt8):=Lib.itoa k::(G.map prG++L.map liL)
def zAB{α:Type}{l:List α}{i:Nat}(h:i<Tw l):l.take (i+1)=l.take i++[l[i]]:=bj
def zN6(a:List UInt8)(m:List (List UInt8))(G:List sg):∀i,i<=Tw G->grT (jn [10] a m++[10]) G i=jn [10] a (m++(G.take i).map prG)++[10]
 |0,_=>by simp[grT]
 |i+1,h=>by
  rw[grT,zN6 a m G i aH,zAB aH,YI,<-YH m,PG,Qh];grind
def zON(q a:List UInt8)(x:V1):∀j,j<=Tw x->enT (q++a) x j=q++jn [32] a ((x.take j).map Lib.itoa)
 |0,_=>by simp[enT,jn]
 |j+1,h=>by
  rw[enT,zON q a x j aH,zAB aH,YI,PG,Qh,gj aH];simp only[YH]
def zNk(a:List UInt8)(m:List (List UInt8))(L:V2):∀i,i<=Tw L->F5 (jn [10] a m++[10]) L i=jn [10] a (m++(L.take i).map liL)++[10]
 |0,_=>by simp[F5]
 |i+1,h=>by
  have e:L.getD i []=L[i]:=by grind
  rw[F5,zNk a m L i aH,e,zON _ _ _ _ (sB _),YP,zAB aH,YI,<-YH m,PG,Qh];simp only[liL,YH]
def zI6:lV k G L=jn [10] (Lib.itoa k) ((G.map prG++L.map liL)++[[]]):=by
 have m:Lib.itoa k++[10]=jn [10] (Lib.itoa k) []++[10]:=rfl;rw[lV,m,zN6 _ _ _ _ (sB _),zNk _ _ _ _ (sB _),YP,YP,Qh];simp
def zII{sep:List UInt8}{x:UInt8}:∀{m:List (List UInt8)} {a:List UInt8},x∈jn sep a m->x∈sep\/x∈a\/∃r∈m,x∈r
 |[],a,h=>.inr (.inl h)
 |b::r,a,h=>by
  rw[jn,YZ,YZ]at h;rcases h with h|h|h
  .exact .inr (.inl h)
  .exact .inl h
  .rcases zII h with h|h|⟨q,u,h⟩
   .exact .inl h
   .exact .inr (.inr ⟨b,bj,h⟩)
   .exact .inr (.inr ⟨q,by simp[u],h⟩)
def zDm{z:Int}{d:UInt8}(u:d.toNat<45):∀x∈Lib.itoa z,x≠d:=λx m e=>by
 unfold Lib.itoa at m;split at m
 .rcases Yq.1 m with h|h
  .rw[<-e,h]at u;exact absurd u Tx
  .have:=zDr _ x h;rw[e]at this;omega
 .have:=zDr _ x m;rw[e]at this;omega
def zRx(u:zI O P C):∀x∈u0 O P C,x≠10:=by
 by_cases h:(Tw O)=0
 .obtain⟨rfl,rfl,rfl⟩:=zEX u h;intro x m;rw[YW.1 (show x∈[49] from m)];decide
 intro x m;rw[zHx h]at m;rcases zII m with h1|h1|⟨r,A,h1⟩
 .grind
 .exact zDi u.2.2.2.1 (d:=10) (.inl Tx) Tx _ (sB _) x h1
 .exact zHj u (d:=10) Tx (.inl Tx) Tx Tx r A x h1
def zR5(x:V1):∀y∈liL x,y≠10:=λy u=>by
 rcases zII u with h|h|⟨r,m,h⟩
 .rw[YW.1 h];decide
 .rw[YW.1 h];decide
 .obtain⟨z,_,rfl⟩:=YD.1 m;exact zDm Tx y h
def zIK(u:zm k G L):(∀x∈Lib.itoa k,x≠10)/\∀r∈(G.map prG++L.map liL)++[[]],∀x∈r,x≠10:=by
 refine⟨zDm Tx,λr hr x m=>?_⟩;rcases YZ.1 hr with hr|hr
 .rcases YZ.1 hr with hr|hr
  .obtain⟨g,A,rfl⟩:=YD.1 hr;exact zRx (u.2.2.1 g A) x m
  .obtain⟨y,B,rfl⟩:=YD.1 hr;exact zR5 y x m
 .rw[YW.1 hr]at m;cases m
def zI5(A:zm k G L):yf 10 [] (lV k G L)=lnT k G L++[[]]:=by
 obtain⟨m,u⟩:=zIK A
 have:=zBm (d:=10) _ _ [] m u
 rw[zI6];exact this
def zOR(A:zm k G L):nG [10] (lV k G L)=lnT k G L++[[]]:=by
 obtain⟨m,u⟩:=zIK A;rw[zI6,zBl (c:=10) (t:=[]) _ _ m u];rfl
def vaF(s:List UInt8):Option Int:=
 if s=[49,48,48,48,48,48,48]then Ik 1000000
 else if s=[45,49,48,48,48,48,48,48]then Ik (-1000000)
 else if s.head? = Ik 45 then(if 0<vlF (s.drop 1)then Ik (-vlF (s.drop 1))else none)
 else if 0<=vlF s then Ik (vlF s)else none
def zId{z:Int}(h:0<=z):Lib.itoa z=Lib.decDigits z.toNat:=Iv aH
def itoa_neg{z:Int}(h:z<0):Lib.itoa z=45::Lib.decDigits z.natAbs:=Iu h
def zOh{z:Int}(S:-1000000<=z)(T:z<=1000000):vaF (Lib.itoa z)=Ik z:=by
 have B:Lib.itoa 1000000=[49,48,48,48,48,48,48]:=by decide +kernel
 have D:Lib.itoa (-1000000)=[45,49,48,48,48,48,48,48]:=by decide +kernel
 by_cases m:z=1000000
 .rw[m,B,vaF,Iu rfl]
 by_cases A:z=-1000000
 .rw[A,D,vaF,Iv Tx,Iu rfl]
 have inj:∀w:Int,-1000000<=w->w<=1000000->Lib.itoa z=Lib.itoa w->z=w:=λw w1 w2 e=>by
  have I:=zBs (z:=z) aH aH;have R:=zBs (z:=w) aH aH;rw[e,R]at I;cases I;rfl
 have N:Lib.itoa z≠[49,48,48,48,48,48,48]:=λe=>m (inj _ Tx Tx (e.trans B.symm));have Q:Lib.itoa z≠[45,49,48,48,48,48,48,48]:=λe=>A (inj _ Tx Tx (e.trans D.symm));rw[vaF,Iv N,Iv Q];by_cases J:z<0
 .have v:=zDc (u:=z.natAbs) aH;rw[itoa_neg J,List.head?_cons,Iu rfl,List.drop_one,List.tail_cons,v,Iu aH];congr 1;omega
 .have v:=zDc (u:=z.toNat) aH;obtain⟨c,r,e,U,_⟩:=zA3 z.toNat;rw[zId aH,Iv,v,Iu aH]
  .congr 1;omega
  .rw[e,List.head?_cons];intro q;simp_all
def vasF:V1->List (List UInt8)->Option V1
 |acc,[]=>Ik acc
 |acc,q::r=>match vaF q with|none=>none|some z=>vasF (acc++[z]) r
def liF(s:List UInt8):Option V1:=if (yf 32 [] s).getD 0 []=[58]then vasF [] ((yf 32 [] s).drop 1)else none
def zHT:∀(x acc:V1),(∀z∈x,-1000000<=z/\z<=1000000)->vasF acc (x.map Lib.itoa)=Ik (acc++x)
 |[],acc,_=>by rw[UJ,vasF,YL]
 |z::x,acc,h=>by
  have b:=h z bj;rw[Yw,vasF,zOh b.1 b.2];simp only;rw[zHT x _ λq m=>h q (by simp[m])];simp
def zQ7(x:V1):yf 32 [] (liL x)=[58]::x.map Lib.itoa:=by
 have:=zBm (d:=32) (x.map Lib.itoa) [58] [] Tx λr m y u=>by
  obtain⟨z,_,rfl⟩:=YD.1 m;exact zDm Tx y u
 exact this
def zPf(x:V1):nG [32] (liL x)=[58]::x.map Lib.itoa:=
 zBl (c:=32) (t:=[]) (x.map Lib.itoa) [58] Tx λr m y u=>by
  obtain⟨z,_,rfl⟩:=YD.1 m;exact zDm Tx y u
def zKi{x:V1}(h:∀z∈x,-1000000<=z/\z<=1000000):liF (liL x)=Ik x:=by
 rw[liF,zQ7]
 show(if ([58]:List UInt8)=[58]then vasF [] (x.map Lib.itoa)else none)=_
 rw[Iu rfl,zHT x [] h];rfl
def zGa:∀(x acc:V1),(∀z∈x,-1000000<=z/\z<=1000000)->zy acc (x.map Lib.itoa)=Ik (acc++x)
 |[],acc,_=>by rw[UJ,zy,YL]
 |z::x,acc,h=>by
  have b:=h z bj;rw[Yw,zy,zBs aH aH];simp only;rw[zGa x _ λq m=>h q (by simp[m])];simp
def zEd(h:Bh k=(Tw G:Int)):1<=k/\k<=6:=by
 unfold Bh at h;by_cases u:k=5
 .omega
 .by_cases m:k=4
  .omega
  .rw[Iv u,Iv m]at h;split at h
   .assumption
   .omega
def zGq(h:1<=k/\k<=6):vlF (Lib.itoa k)=k:=by
 rw[zId aH,zDc aH];omega
def zQk{g m:sg}(u:zI g.1 g.2.1 g.2.2)(A:zI m.1 m.2.1 m.2.2)(e:prG g=prG m):g=m:=by
 have a:=zIJ u;have b:=zIJ A;have e':u0 g.1 g.2.1 g.2.2=u0 m.1 m.2.1 m.2.2:=e;rw[e',b]at a;exact(Option.some.inj a).symm
def zQ8{x y:V1}(m:∀z∈x,-1000000<=z/\z<=1000000)(u:∀z∈y,-1000000<=z/\z<=1000000)(e:liL x=liL y):x=y:=by
 have a:=zKi m;rw[e,zKi u]at a;exact(Option.some.inj a).symm
def zCO{α β:Type}{f:α->β}{p:α->Prop}(u:∀a b,p a->p b->f a=f b->a=b):∀{x y:List α},(∀a∈x,p a)->(∀a∈y,p a)->x.map f=y.map f->x=y
 |[],[],_,_,_=>rfl
 |[],b::y,_,_,e=>by simp at e
 |a::x,[],_,_,e=>by simp at e
 |a::x,b::y,h1,h2,e=>by
  rw[Yw,Yw]at e;obtain⟨A,B⟩:=List.cons.inj e;rw[u a b (h1 a bj) (h2 b bj) A,zCO u (λq m=>h1 q (by simp[m])) (λq m=>h2 q (by simp[m])) B]
def zKD(m:zm k G L)(u:zm k' G' L')(e:lV k G L=lV k' G' L'):k=k'/\G=G'/\L=L':=by
 have a:=zI5 m;rw[e,zI5 u]at a;have B:=List.append_cancel_right a;rw[lnT,lnT]at B;obtain⟨D,I⟩:=List.cons.inj B;have S:=zEd m.1;have T:=zEd u.1;have R:k=k':=by rw[<-zGq S,<-zGq T,D]
 subst R;have Q:(Tw G)=Tw G':=by have:=m.1;have:=u.1;omega
 obtain⟨J,N⟩:=List.append_inj I (by rw[Yj,Yj,Q]);exact⟨rfl,zCO (p:=λg=>zI g.1 g.2.1 g.2.2) (λa b=>zQk) m.2.2.1 u.2.2.1 J.symm,zCO (p:=λx=>∀z∈x,-1000000<=z/\z<=1000000) (λa b=>zQ8) (λx A=>(m.2.2.2 x A).2) (λx A=>(u.2.2.2 x A).2) N.symm⟩
end
abbrev Tri:=PV×PV×PV
end Go.Proofs
namespace Go.Ab
variable{b e n:Nat}{h σ:dj}{v:PV}
section
variable{cells:List PV}
def frz(a:Nat->Nat)(cells:List PV):PV->PV
 | .sl s off l cap=>.fz Im (.sl (a s) off l cap) l cells
 |v=>v
def zSC(ι:Nat->Nat)(cells:List PV)(v:PV):er ι (frz ι cells v)=er ι v:=by cases v<;>rfl
def fB.frz_eq(a:fB b e h v n cells)(m:Nat->Nat):∃w,frz m cells v=.fz Im w n cells:=by
 rcases a with ⟨rfl,rfl,rfl⟩|⟨s,cap,rfl,_⟩
 .exact⟨_,rfl⟩
 .exact⟨_,rfl⟩
def fB.frz_vok{ι:Nat->Nat}{Z m:Nat->Prop}{B:dN}(r:Rel ι Z σ B)(a:fB b e σ v n cells)(I:ko 0 cells)(R:∀o,Z o->m o)(Q:∀s off l c,v=.sl s off l c->m (ι s)):mA m B 0 (frz ι cells v):=by
 rcases a with ⟨rfl,rfl,rfl⟩|⟨s,cap,rfl,S,T,V,X,Y⟩
 .exact⟨.inl ⟨rfl,rfl,rfl⟩,Is⟩
 .obtain⟨u,D,U⟩:=r.cd s _ T;have A:=D.of_bel I;rw[ZR A]at u;refine⟨.inr ⟨ι s,0,cap,rfl,Q _ _ _ _ rfl,.inr (QW u rfl),λc J=>?_,λ_=>⟨rfl,u⟩⟩,A.mono (λo N=>⟨R o N,rfl⟩) (sB _)⟩;subst J
  have:=S.ok
  simpa [kv]using this
end
end Go.Ab
namespace Go.Proofs
open Go.Ab Go.Lie Go.Grp
variable{c k kd:Int}{b b' n:Nat}{h h' σ:dj}{uC uO uP v vC vG vL vO vP vS va vb wG:PV}{K:PV->dj->Prop}{O bs x:V1}{L Ls P:V2}{C Z:V3}
abbrev te:List PV:=[.int .i64 0,Tt,Tt]
def zQ6{k:Int}{G:List sg}{L:V2}:(lnT k G L++[[]]).length=Tw G+Tw L+2:=by simp[lnT];omega
def lnT_G{k:Int}{G:List sg}{L:V2}{i:Nat}(h:i<Tw G):(lnT k G L++[[]])[i+1]? = Ik (prG G[i]):=by
 rw[lnT,Yy,IU,YH,YC (by simpa using h),Yl,na h,Kc]
def lnT_L{k:Int}{G:List sg}{L:V2}{i:Nat}(h:i<Tw L):(lnT k G L++[[]])[(Tw G)+i+1]? = Ik (liL L[i]):=by
 rw[lnT,Yy,IU,YH,Yz bj,YC (by simp;omega),Yl];rw[show (Tw G)+i-(G.map prG).length=i by simp,na h,Kc]
section
variable{g:dj}{G:List sg}{L:Nat->Nat}{rows:List Tri}
def gN(k:Int):Nat:=if k=5 then 3 else if k=4 then 2 else 1
def gN_bd(k:Int):1<=gN k/\gN k<=3:=by
 unfold gN;split
 .omega
 .split<;>omega
def zQ2(h:Bh k=(n:Int)):gN k=n:=by
 unfold Bh at h;unfold gN;by_cases m:k=5
 .rw[Iu m]at h ⊢;omega
 by_cases u:k=4
 .rw[Iv m,Iu u]at h ⊢;omega
 rw[Iv m,Iv u]at h ⊢;split at h<;>omega
def zA1(m:K (.int .i64 (gN k)) σ):zA Tp 39 [.int .i64 k] σ K:=by
 unfold gN at m;refine Tn Tryz.func39 ?_;by_cases A:k=5
 .subst A;refine Tq ?_;exact m
 by_cases u:k=4
 .subst u;refine Tq ?_;exact m
 rw[Iv A,Iv u]at m;simp only[Z3,seval,-ae,u,A];exact m
def zQA(L:Nat->Nat)(a:fB b' 1 g v (Tw x) (eh x))(J:b<=b'):∃L':Nat->Nat,(∀t,t<b'->L' t=L t)/\Fb L' g b 8 x v:=by
 rcases a with ⟨rfl,m,_⟩|⟨s,cap,rfl,u,A,D,I,B⟩
 .exact⟨L,λ_ _=>rfl,.inl ⟨YM m,rfl⟩⟩
 .exact⟨l6 L s 8,λt N=>Iv aH,.inr ⟨s,cap,rfl,u,A,aH,B,qG⟩⟩
def zBK{α β:Type}{f:α->β}{xs:List α}(m:xs.Nodup)(hi:∀a c,f a=f c->a=c):(xs.map f).Nodup:=by
 induction xs with
 |nil=>exact LC
 |cons y ys ih=>
  rw[Q1]at m;rw[Yw,Q1];refine⟨λu=>?_,ih m.2⟩;obtain⟨z,A,e⟩:=YD.1 u;exact m.1 (hi _ _ e ▸ A)
mutual
def zHX(m:b'<=b):∀{t:TR},t.ok h b->t.okF h b'
 | .leaf v,a=>by cases v<;>first|trivial|cases a
 | .nil,_=>trivial
 | .lst s cap kids,a=>⟨⟨a.1.1,a.1.2.1,Yv m a.1.2.2.1,a.1.2.2.2⟩,zDd m a.2⟩
 | .cut s off l cap kids,a=>a.elim
 | .agg kids,a=>zDd (ts:=kids) m a
 | .tup kids,a=>zDd (ts:=kids) m a
def zDd(m:b'<=b):∀{ts:List TR},TR.oks h b ts->TR.okFs h b' ts
 |[],_=>trivial
 |t::ts,a=>⟨zHX m a.1,zDd m a.2⟩
end
def Au.sbN(a:Au L h b Ls v){s:Nat}(hs:s<b)(o:Nat)(cs:List PV):sb s o cs v=v:=by
 rcases a with ⟨_,rfl⟩|⟨t,cap,m,rfl,_,_,u,_⟩
 .rfl
 .simp only[sb];rw[Iv λq=>by omega]
def zOD(D:dq σ g)(Q:fB σ.bY 3 g vG (Tw G) (re rows))(B:ez FI3 rows G)(A:kz σ.top g.top (re rows))(hb:∀t off l c,vG=.sl t off l c->t<b)(jS:σ.bY<=b)(m:Au L g b Ls vL)
  (k:∀wG I T,FG wG G->hK I Ls->kz σ.top T [wG,I]->σ.top<=T->K (.tup [.agg [.int .i64 kd,wG,I],.bool Im]) (σ.up T)):Gh σ K (.tup [.agg [.int .i64 kd,vG,vL],.bool Im]) g:=by
 have key:∀{g:dj} {wG:PV},dq σ g->FG wG G->DA 0 wG->Own σ.top g.top wG->Au L g b Ls vL->Gh σ K (.tup [.agg [.int .i64 kd,wG,vL],.bool Im]) g:=λ{g wG} D B U A m=>by
  obtain⟨t,J,rfl,X,Y⟩:=m.treeN;have S:(TR.tup [TR.agg [.leaf (.int .i64 kd),.leaf wG,t],.leaf (.bool Im)]).pv=.tup [.agg [.int .i64 kd,wG,t.pv],.bool Im]:=by simp only[TR.pv,TR.pvs]
  rw[<-S];obtain⟨l1,l2⟩:=TR.lab_ok J;have el:(TR.tup [TR.agg [.leaf (.int .i64 kd),.leaf wG,t],.leaf (.bool Im)]).lab=(F3 wG).map .inr++t.cY.map .inl:=by
   simp only[TR.lab,TR.labs,F3,UJ,Yn,YL,l1]
  refine Gh.treeFO D (t:=TR.tup [TR.agg [.leaf (.int .i64 kd),.leaf wG,t],.leaf (.bool Im)]) ⟨⟨Is,U,zHX jS J,Is⟩,Is,Is⟩ ⟨⟨Is,A.wh,l2,Is⟩,Is,Is⟩ ?_ (λo hm=>?_) λR T u hT=>?_
  .rw[el,LD];refine⟨zBK A.nd λ_ _ e=>Sum.inr.inj e,zBK Y λ_ _ e=>Sum.inl.inj e,λx hx y hy e=>?_⟩;obtain⟨a,_,rfl⟩:=YD.1 hx;obtain⟨c,_,rfl⟩:=YD.1 hy;cases e
  .rw[el,YZ]at hm;rcases hm with hm|hm
   .obtain⟨a,ha,e⟩:=YD.1 hm;cases e;exact A.lt _ ha
   .obtain⟨a,_,e⟩:=YD.1 hm;cases e
  .simp only[TR.fz,TR.fzs]at u ⊢;refine k _ _ T B (X R) ⟨⟨u.wh.1.2.1,u.wh.1.2.2.1,Is⟩,?_,λo q=>u.lt o ?_⟩ hT
   .have:=u.nd
    simp only[F3,lH,YL,Yn]at this ⊢;exact this
   .simp only[F3,lH,YL,Yn]at q ⊢;exact q
 rcases Q with ⟨rfl,V,e0⟩|⟨s,cap,rfl,hc,q2,q3,N,q5⟩
 .have e1:G=[]:=YM V;subst e1;refine key D ⟨Im,.cU,[],rfl,ez.nil _⟩ trivial (Own.empty _ _ _ _ _) m
 .have hs:=hb s _ _ _ rfl;refine Gh.freeze (s:=s) (cs:=re rows) q2 N (zBy B) λo o1 o2 _=>?_;simp only[sb,nD,m.sbN hs];rw[Iu ⟨Is,Is,hc.ok⟩];exact key ((D.kill N).up (by simp only[dj.kill];omega)) ⟨Im,_,rows,rfl,B⟩ trivial ((A.mono (sB _) (Nat.le_max_left _ _)).fz o1 (by show o<max g.top (o+1);omega) λhm=>o2 (zf hm)) ((m.kill hs).up _)
end
section
variable{g:dj}{s:List UInt8}
set_option maxHeartbeats 3200000 in
def zCr(hs:(Tw s)<=1048576)(df:(∀k G L,zm k G L->lV k G L≠s)->K (.tup [.agg te,.bool false]) σ)
  (bm:∀k G L wG wL T,zm k G L->lV k G L=s->FG wG G->hK wL L->kz σ.top T [wG,wL]->σ.top<=T->K (.tup [.agg [.int .i64 k,wG,wL],.bool Im]) (σ.up T)):zA Tp 20 [.str s] σ K:=by
 have fail:(∀k G L,zm k G L->lV k G L≠s)->∀{h:dj},dq σ h->h.cd σ.bY=Ik te->
   h.wr σ.bY 0 te=Ik (h.set σ.bY te)/\(h.set σ.bY te).rd σ.bY 0 3=Ik te/\Gh σ K (.tup [.agg te,.bool false]) (h.set σ.bY te):=λe {h} kh ho=>
  ⟨by rw[zL ho,Iu ⟨bj,rfl⟩];rfl,by rw[zZ,Iu rfl];rfl,Gh.fin0 (kh.set (sB _) _) ⟨⟨Is,Is,Is,Is⟩,Is,Is⟩ (df e)⟩
 refine To Tryz.func20 ?_;refine Tq ?_;refine zA9 (sep:=[10]) hs Tx ?_;have sl:=Q0 (s:=s) (sep:=[10]) Tx;have jq:=zAD (s:=s) (sep:=[10]);have hC:∀k G L,zm k G L->lV k G L=s->nG [10] s=lnT k G L++[[]]:=λk G L u e=>by rw[<-e];exact zOR u
 have DJ:1<=(nG [10] s).length:=by rw[sl.1];omega
 have Bn:=sl.2;clear sl;generalize nG [10] s=l at *
 have z0:(0:Int)<(Tw l:Int):=aH
 have ma:0<Tw l:=aH
 have j9:l[0].length<=1048576:=by have:=jq _ (ss ma);omega
 have e0:∀k G L,zm k G L->lV k G L=s->Lib.parseIntB 64 l[0]=.ok k:=λk G L u e=>by
  have h2:=hC k G L u e
  have:l[0]=Lib.itoa k:=by
   have q:l[0]? = Ik (Lib.itoa k):=by rw[h2];rfl
   simp_all
  have b:=zEd u.1;rw[this,zBs aH aH]
 have lI:((σ.cb te).cb (nU l)).cd (σ.bY+1)=Ik (nU l):=by simp only[Z3,seval,-ae]
 have j8:((σ.cb te).cb (nU l)).cd σ.bY=Ik te:=by simp only[Z3,seval,-ae]
 have Q:dq σ ((σ.cb te).cb (nU l)):=(zB _ _).cb _;have AT:((σ.cb te).cb (nU l)).bY=σ.bY+2:=rfl;have dk:((σ.cb te).cb (nU l)).gv (σ.bY+1) 0=Ik (.str l[0]):=by rw[zH lI];exact qm ma
 rw[show(σ.cb te).bY=σ.bY+1 from rfl];generalize (σ.cb te).cb (nU l)=h at *
 simp only[Z3,seval,-ae,z0,ma,dk];refine zBf j9 (λhp n=>?_) λA hp=>?_
 .have Al:∀k G L,zm k G L->lV k G L≠s:=λk G L u e=>hp k (e0 k G L u e);obtain⟨V,X,_⟩:=fail Al Q j8;have n0:¬σ.bY=h.bY:=aH
  simp only[Z3,seval,-ae,n0,V,X];exact Gh.fin0 ((Q.set (sB _) _).cb _) ⟨⟨Is,Is,Is,Is⟩,Is,Is⟩ (df Al)
 have jN:∀k G L,zm k G L->lV k G L=s->k=A:=λk G L u e=>by
  have q:=e0 k G L u e;rw[hp]at q;cases q;rfl
 have jR:=gN_bd A;have xN:∀k G L,zm k G L->lV k G L=s->(Tw G)=gN A/\Tw l=gN A+Tw L+2:=λk G L u e=>by
  have ek:=jN k G L u e;subst ek
  have:=zQ2 u.1
  rw[this];exact⟨rfl,by rw[hC k G L u e,zQ6]⟩
 refine Tq ?_;refine zA1 ?_;obtain⟨c,tz⟩:∃c,gN A=c:=⟨_,rfl⟩
 rw[tz]at jR xN ⊢;have U:(h.cb [.int .i64 A,Tt,Tt]).cd σ.bY=Ik te:=by rw[zC,Iv aH];exact j8
 have cM:(h.cb [.int .i64 A,Tt,Tt]).cd (σ.bY+1)=Ik (nU l):=by rw[zC,Iv aH];exact lI
 have Y:(h.cb [.int .i64 A,Tt,Tt]).cd (σ.bY+2)=Ik [.int .i64 A,Tt,Tt]:=by rw[zC,Iu AT.symm]
 have kH:dq σ (h.cb [.int .i64 A,Tt,Tt]):=Q.cb _;have eG:(h.cb [.int .i64 A,Tt,Tt]).bY=σ.bY+3:=by show h.bY+1=_;omega
 rw[AT];generalize h.cb [.int .i64 A,Tt,Tt]=H at *
 clear dk lI j8 Q;have wc:Tu .i64 (2+(c:Int))=((c+2:Nat):Int):=WQ
 by_cases hlen:(Tw l)<c+2
 .have db:(Tw l:Int)<((c+2:Nat):Int):=aH
  obtain⟨V,X,f3⟩:=fail (λk G L h e=>by have:=xN k G L h e;omega) kH U;simp only[Z3,seval,-ae,wc,db,V,X];exact f3
 have db:¬(Tw l:Int)<((c+2:Nat):Int):=aH
 have wl:Tu .i64 ((Tw l:Int)-1)=((Tw l-1:Nat):Int):=WQ
 have b1:1<=Tw l-1:=aH
 have Bd:(1:Int)<=((Tw l-1:Nat):Int):=aH
 have D:(Tw l)-1<=Tw l:=aH
 have K6:((Tw l-1:Nat):Int)<=(Tw l:Int):=aH
 have n1:¬(Tw l)=1:=aH
 have e2:(Tw l)-1-1=Tw l-2:=rfl;simp only[Z3,seval,-ae,wc,db,wl,b1,Bd,D,K6,n1,e2,Option.isNone_some,Kx,JM,and_false,false_and,if_false];refine zF (λm vs g=>∃(i D:Nat) (Lm:Nat->Nat) (vG vL:PV) (rows:List Tri) (G:List sg) (L:V2),i<=Tw l-2/\m=Tw l-2-i/\vs=[.str s,.ptr σ.bY 0,.int .i64 A,.ptr (σ.bY+2) 0,.sl (σ.bY+1) 1 (Tw l-2) (.cm (Tw l-1)),.int .i64 (Tw l-2:Nat),.int .i64 i]/\
  dq σ g/\σ.bY+3<=g.bY/\g.cd σ.bY=Ik te/\g.cd (σ.bY+1)=Ik (nU l)/\g.cd (σ.bY+2)=Ik [.int .i64 A,vG,vL]/\fB (σ.bY+3) 3 g vG (Tw G) (re rows)/\ez FI3 rows G/\kz σ.top g.top (re rows)/\(∀t off l c,vG=.sl t off l c->t<D)/\σ.bY+3<=D/\D<=g.bY/\Au Lm g D L vL/\(i<=c->vL=Tt)/\
  (Tw G)=min i c/\Tw L=i-c/\(∀g∈G,zI g.1 g.2.1 g.2.2)/\(∀x∈L,(Tw x)<=1048576)/\(∀k' G' L',zm k' G' L'->lV k' G' L'=s->G=G'.take i/\L=L'.take (i-c))) (Tw l-2) ?_ ?_
 .exact⟨0,σ.bY+3,λ_=>0,_,_,[],[],[],YQ _,rfl,rfl,kH,aH,U,cM,Y,fB.nil _ _ _,ez.nil _,kz.nil _ _,(λt off l c e=>by cases e),sB _,aH,Au.nil,λ_=>rfl,bj,bj,(λg S=>by cases S),(λg S=>by cases S),λ_ _ _ _ _=>⟨rfl,bj⟩⟩
 clear kH U cM Y eG
 rintro m vs g ⟨i,D,Lm,vG,vL,rows,G,L,hi,rfl,rfl,Q,CH,U,cM,Y,aG,gZ,hO,B0,Oo,nZ,aL,ie,OQ,uy,hG,hL,hI⟩
 have o1:=aG.one;have o2:=aL.one;have r3:g.rd (σ.bY+2) 0 3=Ik [.int .i64 A,vG,vL]:=by rw[zN Y];rfl
 have rG:g.gv (σ.bY+2) 1=Ik vG:=by rw[zH Y];rfl
 have rL:g.gv (σ.bY+2) 2=Ik vL:=by rw[zH Y];rfl
 refine Tq ?_;refine Tr (λan=>?_) λaf=>?_
 .obtain rfl:i=Tw l-2:=aH
  refine Tq ?_;have jz:SzG G:=⟨aH,λg S=>zI.sz (hG g S)⟩
  have eu:CV L:=⟨aH,hL⟩
  have un:∀k' G' L',zm k' G' L'->lV k' G' L'=s->k'=A/\G'=G/\L'=L:=λk' G' L' u e=>by
   obtain⟨e1,e2⟩:=hI k' G' L' u e;obtain⟨e3,e4⟩:=xN k' G' L' u e;rw[YU aH]at e1 e2;exact⟨jN k' G' L' u e,e1.symm,e2.symm⟩
  obtain⟨tL,t1,t2,t3,t4⟩:=aL.treeN;have lend:∀{f:FuncId} {K':PV->dj->Prop},(∀B,zA Tp f [.ptr (σ.bY+2) 0] (g.bare.set (σ.bY+2) [.int .i64 A,frz B (re rows) vG,tL.fz B]) λv σ'=>σ'=g.bare.set (σ.bY+2) [.int .i64 A,frz B (re rows) vG,tL.fz B]/\uV v/\K' v g)->zA Tp f [.ptr (σ.bY+2) 0] g K':=λ{f K'} cc=>
   zA.thawS (cs2:=λB=>[.int .i64 A,frz B (re rows) vG,tL.fz B]) Y (λ{ι Z h} r=>by simp only[kA,er,zSC,TR.er_fz ι t1,t2]) (λ{ι Z Z2 h} r ig hz=>
    ⟨Is,aG.frz_vok r (zBy gZ) ig (λt off l' c' e=>by
     rcases aG with ⟨q0,_⟩|⟨t',cap,q0,_,q2,_,q4,_⟩
     .rw[q0]at e;cases e
     .rw[q0]at e;cases e;exact hz _ _ aH q2),TR.vok r t1 (λt I=>by
     obtain⟨q1,ds,q2⟩:=TR.slot_objF (zHX (sB _) t1) t I;exact hz _ _ aH q2),Is⟩) cc
  have KQ:∀B,FG (frz B (re rows) vG) G:=λB=>by
   obtain⟨w1,Du⟩:=aG.frz_eq B;exact⟨Im,w1,rows,Du,gZ⟩
  refine lend λB=>Qa (k:=A) (by rw[zG,Iu rfl]) (KQ B) jz (t3 B) eu λt I=>⟨rfl,Is,?_⟩
  cases t
  .obtain⟨V,X,f3⟩:=fail (λk' G' L' u e=>by
    grind) Q U
   simp only[Z3,seval,-ae,V,X];exact f3
  have wY:=I.1 rfl;refine Tq ?_;refine lend λB=>zAO (by rw[zG,Iu rfl]) (KQ B) (t3 B) wY ⟨rfl,Is,?_⟩;by_cases iH:lV A G L=s;rotate_left
  .obtain⟨V,X,f3⟩:=fail (λk' G' L' u e=>by
    grind) Q U
   have mG:(lV A G L == s)=false:=by simpa using iH
   simp only[Z3,seval,-ae,mG,V,X];exact f3
  have mG:(lV A G L == s)=Im:=by simpa using iH
  have w0:g.wr σ.bY 0 [.int .i64 A,vG,vL]=Ik (g.set σ.bY [.int .i64 A,vG,vL]):=by rw[zL U,Iu ⟨bj,by simp only[List.all_cons,List.all_nil,o1,o2,Bool.and_true];rfl⟩];rfl
  have w1:(g.set σ.bY [.int .i64 A,vG,vL]).rd σ.bY 0 3=Ik [.int .i64 A,vG,vL]:=by rw[zZ,Iu rfl];rfl
  simp only[Z3,seval,-ae,mG,r3,o1,o2,w0,w1];exact zOD (Q.set (sB _) _) ((aG.set aH _).low aH) gZ hO B0 aH (aL.set aH _) λwG wL T q1 q2 q3 q4=>bm A G L wG wL T wY iH q1 q2 q3 q4
 have aK:i+1<Tw l:=aH
 have ah:(i:Int)<((Tw l-2:Nat):Int):=aH
 have rq:g.gv (σ.bY+1) (1+i)=Ik (.str l[i+1]):=by rw[zH cM,UT 1 i];exact qm aK
 have vH:l[i+1].length<=1048576:=by have:=jq _ (ss aK);omega
 have wi:=WX af;simp only[Z3,seval,-ae,af,ah,rq];refine zA1 ?_;rw[tz];by_cases nW:i<c
 .have yT:(i:Int)<(c:Int):=aH
  obtain rfl:=ie aH;have Dh:L=[]:=YM aH;subst Dh;simp only[Z3,seval,-ae,nW,yT];refine zCo vH (λeN=>?_) λwO wP wC O P C t5 eP Si dL hR ho I=>?_
  .have Al:∀k G L,zm k G L->lV k G L≠s:=λk' G' L' u e=>by
    have N:i<Tw G':=by rw[(xN k' G' L' u e).1];exact nW
    have q:l[i+1]? = Ik (prG G'[i]):=(congrArg (λt=>t[i+1]?) (hC k' G' L' u e)).trans (lnT_G N);rw[na aK]at q;have q':=Option.some.inj q;have S:=u.2.2.1 _ (ss N);exact eN _ _ _ (by rw[q'];exact zKh S) S q'.symm
   obtain⟨V,X,_⟩:=fail Al Q U;have n0:¬σ.bY=g.bY:=aH
   simp only[Z3,seval,-ae,n0,V,X];exact Gh.fin0 ((Q.set (sB _) _).cb _) ⟨⟨Is,Is,Is,Is⟩,Is,Is⟩ (df Al)
  have p1:=hR.O.one;have p2:=hR.P.one;have p3:=hR.C.one;have n0:¬σ.bY+2=g.bY:=aH
  have z3:gH (jE [.cU,.cU,.cU] 1)=[Tt,Tt,Tt]:=rfl;have Mm:(g.up t5).gv (σ.bY+2) 1=Ik vG:=rG;have e5:(g.up t5).bY=g.bY:=rfl;simp only[Z3,seval,-ae,p1,p2,p3,rG,Mm,n0,o1,z3,e5];have J4:=dq.up (dq.refl g) I;have jr:dq σ ((g.up t5).cb [wO,wP,wC]):=(Q.trans J4).cb _;refine zEb (fB.pushS (σb:=σ) (bytes:=72) jr ((aG.c7 (J4.cb _)).low aH) rfl aH aH λv' J k' a' q1 q2 q3 pn=>?_);have nM:g.bY+1<J.bY:=q3;have aj:∀t,t<σ.bY+3->J.cd t=g.cd t:=λt I=>by
   rw[q1 t (by show t<g.bY+1;omega) λoff l c=>aG.ne' I off l c,zC,Iv (by show ¬t=g.bY;omega)];rfl
  have g0:J.cd σ.bY=Ik te:=by rw[aj _ aH];exact U
  have g1:J.cd (σ.bY+1)=Ik (nU l):=by rw[aj _ aH];exact cM
  have g2:J.cd (σ.bY+2)=Ik [.int .i64 A,vG,Tt]:=by rw[aj _ aH];exact Y
  have o3:=a'.one;have Fx:=a'.cells;have w0:J.wr (σ.bY+2) 1 [v']=Ik (J.set (σ.bY+2) [.int .i64 A,v',Tt]):=by rw[ZE g2 bj o3];rfl
  have aV:fB (σ.bY+3) 3 J v' (Tw G+1) (re rows++[wO,wP,wC]):=(a'.high λt I off l c=>q2 t (by show t<g.bY+1;omega) off l c).acc;simp only[Z3,seval,-ae,o3,Fx,w0,wi];have OR:(G++[(O,P,C)]).length=Tw G+1:=bj
  have JP:J.top=t5:=pn;refine⟨_,aH,i+1,J.bY,Lm,v',Tt,rows++[(wO,wP,wC)],G++[(O,P,C)],[],aH,rfl,rfl,k'.set aH _,by show _<=J.bY;omega,aH,aH,by first|rfl|rw[zG,Iu rfl],?_,gZ.snoc hR,?_,?_,aH,sB _,Au.nil,λ_=>rfl,aH,by simp;omega,?_,(λg S=>by cases S),λk' G' L' u e=>⟨?_,?_⟩⟩
  .rw[OR,zEq];exact aV.set aH _
  .rw[zEq];show kz σ.top J.top _;rw[JP];exact kz.append hO ho Q.top I
  .intro t off l' c' e;obtain⟨t',cap,e',_,_,_,_,af⟩:=a';rw[e']at e;cases e;exact af
  .grind
  .have N:i<Tw G':=by rw[(xN k' G' L' u e).1];exact nW
   have q:l[i+1]? = Ik (prG G'[i]):=(congrArg (λt=>t[i+1]?) (hC k' G' L' u e)).trans (lnT_G N);rw[na aK]at q;have q':=Option.some.inj q;have S:=u.2.2.1 _ (ss N);have e5:=eP;rw[q']at e5;have e6:Ik (O,P,C)=Ik G'[i]:=e5.symm.trans (zKh S);rw[Option.some.inj e6,(hI k' G' L' u e).1];exact(zAB aH).symm
  .have:i+1-c=0:=aH
   rw[this];rfl
 have yT:¬(i:Int)<(c:Int):=aH
 simp only[Z3,seval,-ae,nW,yT];refine zA9 (sep:=[32]) vH Tx ?_;have tl:=Q0 (s:=l[i+1]) (sep:=[32]) Tx;have EM:=zAD (s:=l[i+1]) (sep:=[32]);have LW:1<=(nG [32] l[i+1]).length:=by rw[tl.1];omega
 have LV:=tl.2;clear tl;have wE:i-c<Tw l:=aH
 have cL:∀k' G' L',zm k' G' L'->lV k' G' L'=s->∃N:i-c<Tw L',zy [] ((nG [32] l[i+1]).drop 1)=Ik L'[i-c]:=λk' G' L' u e=>by
  obtain⟨R,h4⟩:=xN k' G' L' u e;have N:i-c<Tw L':=aH
  refine⟨N,?_⟩;have ei:i+1=Tw G'+(i-c)+1:=aH
  have q:l[i+1]? = Ik (liL L'[i-c]):=by
   rw[ei];exact(congrArg (λt=>t[(Tw G')+(i-c)+1]?) (hC k' G' L' u e)).trans (lnT_L N)
  rw[na aK]at q;rw[Option.some.inj q,zPf];exact zGa _ [] (u.2.2.2 _ (ss N)).2
 generalize nG [32] l[i+1]=ws at *
 have mj:(g.cb (nU ws)).cd g.bY=Ik (nU ws):=by rw[zC,Iu rfl]
 have AE:dq g (g.cb (nU ws)):=zB _ _;have mw:(g.cb (nU ws)).bY=g.bY+1:=rfl;have Hp:g.bY<(g.cb (nU ws)).bY:=YB _;generalize g.cb (nU ws)=h0 at *
 have w1:1<=Tw ws:=LW;have LA:(1:Int)<=(Tw ws:Int):=aH
 obtain⟨of,pV⟩:∃of,of=if (Tw ws)=1 then 0 else 1:=⟨_,rfl⟩
 have pU:1<Tw ws->of=1:=λh=>by rw[pV,Iv aH]
 simp only[Z3,seval,-ae,w1,LA,<-pV,Option.isNone_none,Kx,JM,and_false,if_false];clear pV;refine zF (λm vs h'=>∃(j:Nat) (v:PV) (x:V1),j<=Tw ws-1/\m=Tw ws-1-j/\vs=[.str s,.ptr σ.bY 0,.int .i64 A,.ptr (σ.bY+2) 0,v,.sl (σ.bY+1) 1 (Tw l-2) (.cm (Tw l-1)),.int .i64 (Tw l-2:Nat),.int .i64 i,.sl g.bY of (Tw ws-1) (.cm (Tw ws-1)),.int .i64 (Tw ws-1:Nat),.int .i64 j]/\
  (Tw x)=j/\dq h0 h'/\fB h0.bY 1 h' v (Tw x) (eh x)/\zy x (ws.drop (j+1))=zy [] (ws.drop 1)) (Tw ws-1) ?_ ?_
 .exact⟨0,_,[],YQ _,rfl,rfl,rfl,dq.refl _,fB.nil _ _ _,rfl⟩
 rintro m vs h2 ⟨j,v,x,hj,rfl,rfl,du,kg,hv,eL⟩
 have mf:dq g h2:=AE.trans kg;have kσ:dq σ h2:=Q.trans mf;have p0:h2.cd σ.bY=Ik te:=by rw[mf.cd _ aH];exact U
 have bh:=hv.one;simp only[Z3,seval,-ae,bh];refine fi (λdU=>?_) λSw=>?_
 .have jP:(j:Int)<((Tw ws-1:Nat):Int):=aH
  have Hb:j+1<Tw ws:=aH
  have Mf:h2.gv g.bY (of+j)=Ik (.str ws[j+1]):=by rw[zH (by rw[kg.cd _ Hp];exact mj),pU aH,UT 1 j];exact qm Hb
  have Sh:=EM _ (ss Hb);have wj:=WX dU;rw[rX Hb,zy]at eL;simp only[Z3,seval,-ae,dU,jP,Mf,bh];refine zBf aH (λmq n=>?_) λn mq=>?_
  .have Al:∀k G L,zm k G L->lV k G L≠s:=λk' G' L' u e=>by
    grind
   obtain⟨V,X,f3⟩:=fail Al kσ p0;simp only[Z3,seval,-ae,V,X];exact f3
  rw[mq]at eL;simp only[Z3,seval,-ae,bh];refine fB.push (bytes:=8) kg hv aH aH λv' J k' a'=>?_;have mI:=a'.one;simp only[Z3,seval,-ae,mI,wj];have e:eh (x++[n])=eh x++[.int .i64 n]:=by simp[eh]
  exact⟨_,aH,j+1,v',x++[n],aH,rfl,rfl,by rw[cO,du];rfl,k',by rw[e,cO];exact .inr a',eL⟩
 rw[Yr aH,zy]at eL;have JL:=hv.cells;obtain⟨L2,lQ,rn⟩:=zQA Lm hv (show D<=h0.bY by omega);have Rk:Au L2 h2 D L vL:=aL.keepL mf.bY (λt _ I=>mf.cd t I) λt I=>lQ t aH;have Ml:h2.gv (σ.bY+2) 2=Ik vL:=by rw[zH (by rw[mf.cd _ aH];exact Y)];rfl
 have LH:(Tw v.cells)=1/\v.cells.all PV.one=Im:=by rw[JL];exact⟨rfl,by simp[bh]⟩
 have v7:=mf.bY;simp only[Z3,seval,-ae,bh,Ml,LH,JL,o2];refine zEb (Au.push (σ:=σ) Rk rn kσ aH aH aH λv' R L3 k3 a3 nx low pn=>?_);have JP:R.top=h2.top:=pn;have tM:∀t,t<D->R.cd t=g.cd t:=λt I=>by rw[low t I,mf.cd _ aH]
 have g0:R.cd σ.bY=Ik te:=by rw[tM _ aH];exact U
 have g1:R.cd (σ.bY+1)=Ik (nU l):=by rw[tM _ aH];exact cM
 have g2:R.cd (σ.bY+2)=Ik [.int .i64 A,vG,vL]:=by rw[tM _ aH];exact Y
 have o3:=a3.one;have Fx:=a3.cells;have w0:R.wr (σ.bY+2) 2 [v']=Ik (R.set (σ.bY+2) [.int .i64 A,vG,v']):=by rw[ZE g2 bj o3];rfl
 have Rl:fB (σ.bY+3) 3 R vG (Tw G) (re rows):=by
  rcases aG with ⟨e1,e2,e3⟩|⟨t,cap,e1,b1,D,b3,b4,b5⟩
  .exact .inl ⟨e1,e2,e3⟩
  .exact .inr ⟨t,cap,e1,b1,by rw[tM t (B0 _ _ _ _ e1)];exact D,b3,b4,aH⟩
 simp only[Z3,seval,-ae,o3,Fx,w0,wi];have Dk:(L++[x]).length=Tw L+1:=bj
 refine⟨_,aH,i+1,D,L3,vG,v',rows,G,L++[x],aH,rfl,rfl,k3.set aH _,by show _<=R.bY;omega,aH,aH,by first|rfl|rw[zG,Iu rfl],Rl.set aH _,gZ,hO.mono (sB _) (by show g.top<=R.top;have:=mf.top;omega),B0,Oo,by show D<=R.bY;omega,a3.set aH _,(λh=>aH),aH,by rw[Dk];omega,hG,λy hy=>?_,λk' G' L' u e=>⟨?_,?_⟩⟩
 .grind
 .have N:=(xN k' G' L' u e).1;rw[(hI k' G' L' u e).1,YU aH,YU aH]
 .obtain⟨N,e3⟩:=cL k' G' L' u e;rw[<-eL]at e3;rw[Option.some.inj e3,(hI k' G' L' u e).2,show i+1-c=(i-c)+1 by omega];exact(zAB N).symm
end
section
variable{s:List UInt8}{G:List sg}
def PRes(s:List UInt8)(k:Int)(G:List sg)(L:V2)(c:Int):Prop:=
 (zm k G L/\lV k G L=s/\c=0)\/((∀k G L,zm k G L->lV k G L≠s)/\k=0/\G=[]/\L=[]/\c=6)
def zDZ(hs:(Tw s)<=1048576)(S:∀k G L vG vL c t,PRes s k G L c->FG vG G->hK vL L->kz σ.top t [vG,vL]->σ.top<=t->K (.tup [.agg [.int .i64 k,vG,vL],.int .i64 c]) (σ.up t)):zA Tp 9 [.str s] σ K:=by
 refine To Tryz.func9 ?_;refine Tq ?_;generalize u:σ.cb [.int .i64 0,Tt,Tt]=H;have eG:H.bY=σ.bY+1:=by rw[<-u];rfl
 have X:H.top=σ.top:=by rw[<-u];rfl
 have U:dq σ H:=by rw[<-u];exact zB _ _
 have I:H.cd σ.bY=Ik te:=by rw[<-u];simp only[Z3,seval,-ae]
 clear u;refine zCr hs (λh=>?_) λk G L wG m T Y h2 A B Q R=>?_
 .have w0:H.wr σ.bY 0 te=Ik (H.set σ.bY te):=by rw[zL I,Iu ⟨bj,rfl⟩];rfl
  have w1:(H.set σ.bY te).rd σ.bY 0 3=Ik te:=by rw[zZ,Iu rfl];rfl
  have D:¬σ.bY=H.bY:=aH
  simp only[Z3,seval,-ae,D,w0,w1];refine Gh.fin0T ((U.set (sB _) _).cb _) (by show σ.top<=H.top;omega) ⟨⟨Is,Is,Is,Is⟩,Is,Is⟩ λ_=>S 0 [] [] _ _ 6 σ.top (.inr ⟨h,rfl,rfl,rfl,rfl⟩) zA2 ⟨Im,.cU,[],rfl,ez.nil _⟩ (((kz.nil σ.top σ.top).snoc (Own.empty _ _ Im .cU 0) (sB _) (sB _)).snoc (Own.empty _ _ Im .cU 0) (sB _) (sB _)) (sB _)
 .rw[X]at Q R;have J:=A.one;have N:=B.one;have D:¬σ.bY=H.bY:=aH
  have w0:H.wr σ.bY 0 [.int .i64 k,wG,m]=Ik (H.set σ.bY [.int .i64 k,wG,m]):=by rw[zL I,Iu ⟨bj,by simp only[List.all_cons,List.all_nil,J,N,Bool.and_true];rfl⟩];rfl
  have w1:(H.set σ.bY [.int .i64 k,wG,m]).rd σ.bY 0 3=Ik [.int .i64 k,wG,m]:=by rw[zZ,Iu rfl];rfl
  have V:((H.set σ.bY [.int .i64 k,wG,m]).cb [.int .i64 k,wG,m]).rd σ.bY 0 3=Ik [.int .i64 k,wG,m]:=by rw[ZC,Iv (by show ¬σ.bY=H.bY;omega)];exact w1
  simp only[Z3,seval,-ae,J,N,D,w0,w1,V];exact Gh.fin0T (t:=T) (((U.set (sB _) _).cb _).up (by show H.top<=T;omega)) (sB _) ⟨⟨Is,A.bel _,B.bel _,Is⟩,Is,Is⟩ λ_=>S k G L wG m 0 T (.inl ⟨Y,h2,rfl⟩) A B Q R
end
section
variable{g:dj}{G:List sg}
def zKs(u:∀(x:V1) z,x∈L->-1000000<=at_ x z/\at_ x z<=1000000){x:V1}(m:x∈L)(q:List UInt8):∀j,(enT q x j).length<=Tw q+9*j
 |0=>by simp[enT]
 |j+1=>by
  have A:=zKs u m q j;have B:=zEj (u x j m).1 (u x j m).2;rw[enT];simp only[cO,Yk];omega
def zOS(N:zm k G L):(lV k G L).length<=1048576:=by
 obtain⟨u,S,J,B⟩:=N;have T:(Tw G)<=3/\1<=k/\k<=6:=by
  unfold Bh at u;split at u
  .omega
  .split at u
   .omega
   .split at u<;>omega
 have Q:∀(x:V1) z,x∈L->-1000000<=at_ x z/\at_ x z<=1000000:=λx z A=>by
  rcases YY z (Tw x) with e|e
  .rw[gj e];exact(B x A).2 _ (ss e)
  .have:at_ x z=0:=by unfold at_;rw[YK,YN e];rfl
   omega
 have I:∀i,i<=Tw G->(grT (Lib.itoa k++[10]) G i).length<=9+3001*i:=λi=>by
  induction i with
  |zero=>
   intro _
   have:=zEj (z:=k) aH aH
   simp only[grT,cO,Yk];omega
  |succ i ih=>
   intro hi
   have:=ih aH
   have m:i<Tw G:=hi;have e:G.getD i ([],[],[])=G[i]:=by rw[YK,na m];rfl
   have:=zKX (J _ (ss m))
   rw[grT,e];simp only[cO,Yk];omega
 have R:∀q:List UInt8,∀i,i<=Tw L->(F5 q L i).length<=Tw q+1200*i:=λq i=>by
  induction i with
  |zero=>intro _;simp[F5]
  |succ i ih=>
   intro hi
   have:=ih aH
   have m:i<Tw L:=hi;have e:L.getD i []=L[i]:=by rw[YK,na m];rfl
   have A:=ss m;have D:=zKs Q A (F5 q L i++[58]) L[i].length
   have:=(B _ A).1
   rw[F5,e];simp only[cO,Yk]at D ⊢;omega
 have a:=I (Tw G) (sB _);have b:=R (grT (Lib.itoa k++[10]) G (Tw G)) (Tw L) (sB _);unfold lV;omega
def zC0(T:hK va L)(U:hK vb L)(sz:CV L)(V:K (.bool Im) σ):zA Tp 10 [va,vb] σ K:=by
 obtain⟨wx,N,Y,rfl,B⟩:=T;obtain⟨wy,Q,ry,rfl,tX⟩:=U;have hl:=sz.l;refine Tn Tryz.func10 ?_;refine Tq ?_;refine zF (λm A g=>∃i:Nat,i<=Tw L/\m=Tw L-i/\A=[.fz wx N (Tw L) Y,.fz wy Q (Tw L) ry,.int .i64 i]/\g=σ) (Tw L) ⟨0,aH,aH,rfl,rfl⟩ ?_
 rintro m A g ⟨i,hi,rfl,rfl,rfl⟩
 refine Tq ?_;refine Tr (λan=>?_) λu=>?_
 .exact V
 obtain⟨w1,D,R⟩:=B.rowI u;obtain⟨w2,I,S⟩:=tX.rowI u;have J:(i:Int)<(Tw L:Int):=aH
 have wi:Tu .i64 ((i:Int)+1)=((i+1:Nat):Int):=WQ
 simp only[Z3,seval,-ae,u,J,R,S];refine zEG ⟨w1,D,rfl⟩ ⟨w2,I,rfl⟩ (sz.r _ (ss u)) λt X=>?_;obtain rfl:=X.2 rfl;simp only[Z3,seval,-ae,wi];exact⟨_,aH,i+1,aH,rfl,rfl⟩
def zNj(T:DB va Z)(U:DB vb Z)(Jh:(Tw Z)<=1048576)(sz:∀q∈Z,CV q)(V:K (.bool Im) σ):zA Tp 22 [va,vb] σ K:=by
 obtain⟨wx,N,rx,rfl,B⟩:=T;obtain⟨wy,Q,ry,rfl,tX⟩:=U;refine Tn Tryz.func22 ?_;refine Tq ?_;refine zF (λm A g=>∃i:Nat,i<=Tw Z/\m=Tw Z-i/\A=[.fz wx N (Tw Z) rx,.fz wy Q (Tw Z) ry,.int .i64 i]/\g=σ) (Tw Z) ⟨0,aH,aH,rfl,rfl⟩ ?_
 rintro m A g ⟨i,hi,rfl,rfl,rfl⟩
 refine Tq ?_;refine Tr (λan=>?_) λu=>?_
 .exact V
 obtain⟨w1,D,r1,R,X⟩:=B.rowL u;obtain⟨w2,I,r2,S,Y⟩:=tX.rowL u;have J:(i:Int)<(Tw Z:Int):=aH
 have wi:Tu .i64 ((i:Int)+1)=((i+1:Nat):Int):=WQ
 simp only[Z3,seval,-ae,u,J,R,S];refine zC0 ⟨w1,D,r1,rfl,X⟩ ⟨w2,I,r2,rfl,Y⟩ (sz _ (ss u)) ?_;simp only[Z3,seval,-ae,wi];exact⟨_,aH,i+1,aH,rfl,rfl⟩
def zNi(u:eQ vO vP vC O P C)(A:eQ uO uP uC O P C)(sz:ti O P C)(Y:K (.bool Im) σ):zA Tp 11 [.agg [vO,vP,vC],.agg [uO,uP,uC]] σ K:=by
 have U:=u.O.one;have V:=u.P.one;have X:=u.C.one;have R:=A.O.one;have S:=A.P.one;have T:=A.C.one;refine To Tryz.func11 ?_;simp only[Z3,seval,-ae,U,V,X,R,S,T];generalize m:(σ.cb [vO,vP,vC]).cb [uO,uP,uC]=H;have kH:dq σ H:=by rw[<-m];exact(zB _ _).cb _
 have B:H.gv σ.bY 0=Ik vO:=by rw[<-m];simp only[Z3,seval,-ae]
 have D:H.gv σ.bY 1=Ik vP:=by rw[<-m];simp only[Z3,seval,-ae]
 have I:H.gv σ.bY 2=Ik vC:=by rw[<-m];simp only[Z3,seval,-ae]
 have J:H.gv (σ.bY+1) 0=Ik uO:=by rw[<-m];simp only[Z3,seval,-ae]
 have N:H.gv (σ.bY+1) 1=Ik uP:=by rw[<-m];simp only[Z3,seval,-ae]
 have Q:H.gv (σ.bY+1) 2=Ik uC:=by rw[<-m];simp only[Z3,seval,-ae]
 clear m;simp only[Z3,seval,-ae,B,D,I,J,N,Q];refine zEG u.O A.O sz.O λt ht=>?_;obtain rfl:=ht.2 rfl;simp only[Z3,seval,-ae,B,D,I,J,N,Q];refine zC0 u.P A.P sz.P ?_;simp only[Z3,seval,-ae,B,D,I,J,N,Q];refine zNj u.C A.C sz.C.l (λq hq=>sz.C.r q hq) ?_;refine Tq ?_;exact Gh.fin0 kH trivial Y
def zBg(X:FB vS bs)(hB:Byt bs)(hk:∀k G L vG vL,CtV G L->FG vG G->hK vL L->K (.agg [.int .i64 k,vG,vL]) σ):zA Tp 5 [vS] σ K:=by
 refine zA.gh ?_;generalize I:σ.cb tD=T;have A3:T.bY=σ.bY+1:=by rw[<-I];rfl
 have NT:dq σ T:=by rw[<-I];exact zB σ _
 have mL:T.cd σ.bY=Ik tD:=by rw[<-I,zC,Iu rfl]
 refine Tn Tryz.func5 ?_;simp only[Z3,seval,-ae,X.one];rw[I];refine zMI X hB λB Gf=>?_;have fC:So (T.cb (xr vS 0 B)) T.bY vS bs:=⟨0,B,by rw[zC,Iu rfl],YB _,X,hB,YQ _,Gf⟩
 have iR:KM (T.cb (xr vS 0 B)) T.bY (T.cb (xr vS 0 B)):=fC.km;have Nb:dq T (T.cb (xr vS 0 B)):=zB _ _;have Y:T.bY<(T.cb (xr vS 0 B)).bY:=YB _;generalize hU:T.cb (xr vS 0 B)=U at *
 have SK:U.bY=T.bY+1:=by rw[<-hU];rfl
 have fin:∀{m:dj} {k:Int} {G:List sg} {L:V2} {vG vL:PV},KM U T.bY m->CtV G L->FG vG G->hK vL L->
   m.wr σ.bY 0 [.int .i64 k,vG,vL]=Ik (m.set σ.bY [.int .i64 k,vG,vL])/\(m.set σ.bY [.int .i64 k,vG,vL]).rd σ.bY 0 3=Ik [.int .i64 k,vG,vL]/\Gh σ K (.agg [.int .i64 k,vG,vL]) (m.set σ.bY [.int .i64 k,vG,vL]):=λ{m k G L vG vL} D J u A=>by
  have Ku:dq T m:=D.keepOf Nb (sB _);have dG:m.cd σ.bY=Ik tD:=by rw[Ku.cd _ aH];exact mL
  refine⟨by rw[zL dG,Iu ⟨bj,by simp[u.one,A.one];rfl⟩];rfl,by rw[zZ,Iu rfl];rfl,?_⟩;exact Gh.fin0 ((NT.trans Ku).set (sB _) _) ⟨Is,u.bel _,A.bel _,Is⟩ (hk k G L vG vL J u A)
 refine Tq ?_;refine zLn fC λk G L vG vL m J u A m2 ca=>?_;have D:=iR.mv Y m2;have N:=u.one;have G2:=u.cells;have Q:=A.one;have L2:=A.cells;have fE:=D.cb [.int .i64 k,vG,vL];have cX:=ca.c7 (zB m [.int .i64 k,vG,vL]);have n2:=D.bY;have tI:(m.cb [.int .i64 k,vG,vL]).cd m.bY=Ik [.int .i64 k,vG,vL]:=by rw[zC,Iu rfl]
 have Az:m.bY<(m.cb [.int .i64 k,vG,vL]).bY:=YB _;simp only[Z3,seval,-ae,N,G2,Q,L2];generalize m.cb [.int .i64 k,vG,vL]=h3 at *
 generalize m.bY=t3 at *
 refine zQ (n:=4) cX Tx λy g hy m4 fK=>?_;have gE:=fE.mv Y m4;have xH:g.cd t3=Ik [.int .i64 k,vG,vL]:=by rw[m4.cd aH];exact tI
 have r4:g.rd t3 0 3=Ik [.int .i64 k,vG,vL]:=by rw[zN xH];rfl
 by_cases y0:y=0
 .simp only[Z3,seval,-ae,y0,r4,N,Q];refine zLp fK J u A λk' G' L' Bj uH g5 jw KT KS m5 j4=>?_;obtain⟨R,S,V⟩:=fin (k:=k') (gE.mv Y m5) jw KT KS;simp only[Z3,seval,-ae,KT.one,KS.one,R,S];exact V
 .obtain⟨R,S,V⟩:=fin (k:=k) gE J.big u A;simp only[Z3,seval,-ae,y0,r4,N,Q,R,S];exact V
end
end Go.Proofs
namespace Go.Proofs.YtjcghjopopohiaaGreatDoor
open Go.ChangeShapes Go.WideShapes Go.ChangeAt Go.RowKit Go.Ab Go.Joins Go.Lie Go.Proofs
section
variable{H:Type}{enc:TypeId×Value->H}{W w0:World}{j:jv}{h:dN}
def cell8:Tryz.prog.cellsOf 5=1:=by kernel_rfl
def lay8:Lay1 enc Tp W 5 (λpv (n:Int)=>pv=.int .u8 n/\0<=n/\n<=255):=by
 intro w0 j h held fuel v x m I;obtain⟨n,A,_,u⟩:=DataW.trod_int Tryz.underlying5 I;simp only[List.cons.injEq,and_true]at A;subst A;simp only[Lit.wf,Yt,decide_eq_true_eq]at u;have B:IntKind.u8.min=0:=by rfl
 have D:IntKind.u8.max=255:=by rfl
 rw[B,D]at u;exact⟨j,h,.int .u8 n,n,m,jv.le.refl _,Ext.refl m.wf,rfl,Is,rfl,rfl,u.1,u.2⟩
def FL.bytes{v:PV}{xs:V1}(h:FL (λpv (n:Int)=>pv=.int .u8 n/\0<=n/\n<=255) v xs):FB v xs:=by
 obtain⟨w,a,rows,rfl,m⟩:=h;refine⟨w,a,?_⟩;congr 1;apply Kr;intro k;rw[Yl];rcases YY k (Tw xs) with x|x
 .obtain⟨pv,u,A⟩:=m.get x;rw[u,gi x,A.1];rfl
 .rw[YN (by rw[m.1];exact x),YN x];rfl
def layB:Lay1 enc Tp W 22 (λv (xs:V1)=>FB v xs/\∀b∈xs,0<=b/\b<=255):=by
 intro w0 j h held fuel v x m Q;obtain⟨R,h',pv,a,A,B,D,I,J,N,u,S⟩:=zNm Tryz.underlying22 cell8 lay8 w0 j h held fuel v x m Q;exact⟨R,h',pv,a,A,B,D,I,J,N,FL.bytes u,u.all λ_ _ k=>k.2⟩
end
end Go.Proofs.YtjcghjopopohiaaGreatDoor
