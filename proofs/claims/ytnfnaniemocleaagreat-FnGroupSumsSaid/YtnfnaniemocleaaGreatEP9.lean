/- . -/
import Derived.Test.YtnfnaniemocleaaGreatEP8
open Int renaming reduceNatCast'->ae
set_option maxRecDepth 100000
set_option linter.unusedSimpArgs false
set_option linter.unusedVariables false
set_option linter.unusedSectionVars false
namespace Go.Grp
end Go.Grp
namespace Go.Proofs
open Go.Ab Go.Lie Go.Grp
variable{p:Int}{i j k n nC nP r s0 t:Nat}{h h' σ:PHeap}{c v vA vB vC vL vM vO vP vS vX vv:PV}{K:PV->PHeap->Prop}{O bs x xs:V1}{A B M P:V2}{C:V3}
section
variable{b s:Nat}{L L':Nat->Nat}{Q:Nat->Prop}{len:Nat->Nat}{cs:List PV}
theorem qa(hs:h.next<=s):∀t,t<h.next->mkM L s k t=L t:=λt l=>if_neg (by omega)
theorem QF:mkM L s k s=k:=if_pos rfl
theorem RowX.keepK{j:Nat}(a:RowX L h b j x v)(J:j≠k)(R:h.next<=h'.next)(N:∀t,b<=t->t<h.next->L t≠k->h'.obj t=h.obj t)(I:∀t,t<h.next->L t≠k->L' t=L t):RowX L' h' b j x v:=by
 obtain⟨s,cap,rfl,G,H,u,D,E⟩:=a;have l:L s≠k:=by rw[E];exact J
 exact⟨s,cap,rfl,G,by rw[N s u D l];exact H,u,by omega,by rw[I s D l];exact E⟩
theorem RowAt.keepK(a:RowAt L h b Q v)(D:1≠k)(E:h.next<=h'.next)(G:∀t,b<=t->t<h.next->L t≠k->h'.obj t=h.obj t)(u:∀t,t<h.next->L t≠k->L' t=L t):RowAt L' h' b Q v:=by
 obtain⟨x,l,a⟩:=a;exact⟨x,l,a.keepK D E G u⟩
theorem MatAt.keepK{j:Nat}(a:MatAt L h b Q j n v)(U:j≠k)(I:1≠k)(V:h.next<=h'.next)(H:∀t,b<=t->t<h.next->L t≠k->h'.obj t=h.obj t)(G:∀t,t<h.next->L t≠k->L' t=L t):MatAt L' h' b Q j n v:=by
 obtain⟨s,cap,cs,rfl,J,N,R,u,D,E,S⟩:=a;have l:L s≠k:=by rw[E];exact U
 exact⟨s,cap,cs,rfl,J,by rw[H s u D l];exact N,R,u,by omega,by rw[G s D l];exact E,λc T=>(S c T).keepK I V H G⟩
theorem TenAt.keepK(a:TenAt L h b Q n len v)(I:1≠k)(N:3≠k)(J:4≠k)(W:h.next<=h'.next)(H:∀t,b<=t->t<h.next->L t≠k->h'.obj t=h.obj t)(G:∀t,t<h.next->L t≠k->L' t=L t):TenAt L' h' b Q n len v:=by
 obtain⟨s,cap,cs,rfl,R,S,T,u,D,E,U⟩:=a;have l:L s≠k:=by rw[E];exact J
 exact⟨s,cap,cs,rfl,R,by rw[H s u D l];exact S,T,u,by omega,by rw[G s D l];exact E,λi c V=>(U i c V).keepK N I W H G⟩
theorem PW.keepK(a:PW L b h Q O nP nC len vO vP vC)(E:6<=k)(u:h.next<=h'.next)(D:∀t,b<=t->t<h.next->L t≠k->h'.obj t=h.obj t)(l:∀t,t<h.next->L t≠k->L' t=L t):PW L' b h' Q O nP nC len vO vP vC:=
 ⟨a.hO.keepK (by omega) u D l,a.hP.imp id λa=>a.keepK (by omega) (by omega) u D l,a.hC.imp id λa=>a.keepK (by omega) (by omega) (by omega) u D l⟩
def MatN(L:Nat->Nat)(h:PHeap)(b:Nat)(Q:Nat->Prop)(k n:Nat)(v:PV):Prop:=(n=0/\v=.fz true .nils 0 [])\/MatAt L h b Q k n v
theorem MatN.acc(a:MatN L h b Q k n v):∃cs,PAcc b 1 h v n cs/\(∀c∈cs,RowAt L h b Q c)/\∀t off l c,v=.sl t off l c->L t=k:=by
 rcases a with ⟨rfl,rfl⟩|⟨s,cap,cs,rfl,u,D,N,E,G,H,I⟩
 .exact⟨[],PAcc.nil _ _ _,λc J=>(by cases J),λt off l c e=>by cases e⟩
 .exact⟨cs,.inr ⟨s,cap,rfl,u,D,by omega,E,G⟩,I,λt off l c e=>by simp only[PV.sl.injEq]at e;rw[<-e.1];exact H⟩
theorem MatN.push{H:PV×PHeap->Prop}(a:MatN L h b Q k n v)(U:k≠1)(hc:RowAt L h b Q c)(hk:Keep σ h)(hb:σ.next<=b)(vJ:b<=h.next)(hn:n<=1048576)
  (kk:∀G h' L',Keep σ h'->MatAt L' h' b Q k (n+1) G->h.next<h'.next->(∀t,t<h.next->L' t=L t)->(∀t,t<h.next->L t≠k->h'.obj t=h.obj t)->(∀t,t<b->h'.obj t=h.obj t)->H (G,h')):optK (qB 1 24 (h.new [c]) v (.sl h.next 0 1 (.known 1))) H:=by
 obtain⟨cs,acc,W,hL⟩:=a.acc;refine PAcc.pushS hk (acc.low hb) rfl (by omega) (by omega) λG h' k1 T R n1 l1=>?_;obtain⟨D,I,rfl,X,Y,Z,g4,g5⟩:=T;have J:h.next<=D:=by
  rcases YG D h.next with q|q
  .exact absurd rfl (n1 D q 0 _ I)
  .exact q
 have S:∀t,t<h.next->L t≠k->h'.obj t=h.obj t:=λt u E=>R t u λoff l c e=>E (hL t off l c e);have V:h.next<=h'.next:=by omega
 have N:∀{d:PV},RowAt L h b Q d->RowAt (mkM L D k) h' b Q d:=λ{d} hd=>hd.keepK (k:=k) (Ne.symm U) V (λt _ u E=>S t u E) λt u _=>qa J t u;refine kk _ h' (mkM L D k) k1 ⟨D,I,cs++[c],rfl,X,Y,by simpa using Z,by omega,g5,QF,λd hd=>?_⟩ l1 (qa J) S λt u=>?_
 .rcases YY.1 hd with hd|hd
  .exact N (W d hd)
  .rw[YN.1 hd];exact N hc
 .refine R t (by omega) λoff l c e=>?_;rcases acc with ⟨rfl,_,_⟩|⟨s,cap,rfl,q1,q2,q3,q4,q5⟩
  .cases e
  .simp only[PV.sl.injEq]at e;omega
theorem PW.pushP{H:PV×PHeap->Prop}(a:PW L b h Q O nP nC len vO vP vC)(N:RowAt L h b Q c)(R:Keep σ h)(J:σ.next<=b)(X:b<=h.next)(S:nP<=1048576)
  (U:∀u h' L',Keep σ h'->PW L' b h' Q O (nP+1) nC len vO u vC->h.next<h'.next->(∀t,t<b->h'.obj t=h.obj t)->(∀t,t<h.next->7<=L t->h'.obj t=h.obj t/\L' t=L t)->H (u,h')):optK (qB 1 24 (h.new [c]) vP (.sl h.next 0 1 (.known 1))) H:=by
 refine MatN.push (k:=2) a.hP (by decide) N R J X S λu h' L' T W V E G I=>U u h' L' T ⟨?_,.inr W,?_⟩ V I λt l Y=>⟨G t l (by omega),E t l⟩
 .exact a.hO.keepK (k:=2) (by decide) (by omega) (λt _ l D=>G t l D) λt l _=>E t l
 .exact a.hC.imp id λa=>a.keepK (k:=2) (by decide) (by decide) (by decide) (by omega) (λt _ l D=>G t l D) λt l _=>E t l
theorem PW.pushC{V:PV×PHeap->Prop}{m:Nat}(a:PW L b h Q O nP nC len vO vP vC)(G:MatAt L h b Q 6 m c)(hm:len nC=m)(hk:Keep σ h)(hb:σ.next<=b)(vJ:b<=h.next)(hn:nC<=1048576)
  (kk:∀U h' L',Keep σ h'->PW L' b h' Q O nP (nC+1) len vO vP U->h.next<h'.next->(∀t,t<b->h'.obj t=h.obj t)->(∀t,t<h.next->7<=L t->h'.obj t=h.obj t/\L' t=L t)->V (U,h')):optK (qB 1 24 (h.new [c]) vC (.sl h.next 0 1 (.known 1))) V:=by
 obtain⟨s0,kV,GY,rfl,z1,z2,z3,z4,z5,z6,z7⟩:=G;have acc:∃cs,PAcc b 1 h vC nC cs/\(∀i c,cs[i]? = some c->MatAt L h b Q 3 (len i) c)/\∀t off l c,vC=.sl t off l c->L t=4:=by
  rcases a.hC with ⟨rfl,rfl⟩|⟨s,cap,cs,rfl,R,S,h3,h4,h5,h6,X⟩
  .exact⟨[],PAcc.nil _ _ _,λi c G=>(by simp at G),λt off l c e=>by cases e⟩
  .exact⟨cs,.inr ⟨s,cap,rfl,R,S,by omega,h4,h5⟩,X,λt off l c e=>by simp only[PV.sl.injEq]at e;rw[<-e.1];exact h6⟩
 obtain⟨cs,acc,eL,hL⟩:=acc;have csl:cs.length=nC:=by
  rcases acc with ⟨_,R,S⟩|⟨_,_,_,_,_,h,_⟩
  .rw[R,S];rfl
  .omega
 refine PAcc.pushS hk (acc.low hb) rfl (by omega) (by omega) λU h' k1 a1 o1 n1 l1=>?_;obtain⟨E,W,rfl,g1,g2,g3,g4,g5⟩:=a1;have cw:h.next<=E:=by
  rcases YG E h.next with q|q
  .exact absurd rfl (n1 E q 0 _ W)
  .exact q
 have I:∀t,t<h.next->L t≠4->h'.obj t=h.obj t:=λt D J=>o1 t D λoff l c e=>J (hL t off l c e);have cb:h.next<=h'.next:=by omega
 -- nV marks: nV D1 slot bears 4, nV new DT 3
 have N:∀t,t<h.next->L t≠6->mkM (mkM L E 4) s0 3 t=L t:=λt D J=>by
  unfold mkM;rw[if_neg (λe=>J (by rw[e];exact z6)),if_neg (by omega)]
 have Ry:∀t,b<=t->t<h.next->L t≠4->h'.obj t=h.obj t:=λt _ D J=>I t D J;have Z:∀{d:PV},RowAt L h b Q d->RowAt (mkM (mkM L E 4) s0 3) h' b Q d:=λ{d} ⟨x,q,s,cap,e,r1,r2,r3,H,u⟩=>
  ⟨x,q,s,cap,e,r1,by rw[I s H (by rw[u];decide)];exact r2,r3,by omega,by rw[N s H (by rw[u];decide)];exact u⟩
 have Y:∀{j m:Nat} {d:PV},j≠4->j≠6->MatAt L h b Q j m d->MatAt (mkM (mkM L E 4) s0 3) h' b Q j m d:=λ{j m d} Fv Cb ⟨s,cap,cs,e,r1,r2,r3,H,u,T,r7⟩=>
  ⟨s,cap,cs,e,r1,by rw[I s u (by rw[T];exact Fv)];exact r2,r3,H,by omega,by rw[N s u (by rw[T];exact Cb)];exact T,λc G=>Z (r7 c G)⟩
 refine kk _ h' (mkM (mkM L E 4) s0 3) k1 ⟨?_,a.hP.imp id (Y (by decide) (by decide)),.inr ⟨E,W,cs++[_],rfl,g1,g2,by simpa using g3,by omega,g5,?_,λi d hd=>?_⟩⟩ l1 (λt D=>?_) λt D X=>⟨I t D (by omega),N t D (by omega)⟩
 .obtain⟨s,cap,e,r1,r2,r3,H,u⟩:=a.hO;exact⟨s,cap,e,r1,by rw[I s H (by rw[u];decide)];exact r2,r3,by omega,by rw[N s H (by rw[u];decide)];exact u⟩
 .unfold mkM;rw[if_neg (by omega),if_pos rfl]
 .rcases YG i cs.length with hi|hi
  .rw[Yy hi]at hd;exact Y (by decide) (by decide) (eL i d hd)
  .rw[Yx hi]at hd;obtain rfl:i=cs.length:=by
    rcases YG (i-cs.length) 1 with q|q
    .omega
    .rw[Yq (by simpa using q)]at hd;cases hd
   rw[Yv,List.getElem?_cons_zero]at hd;cases hd;rw[csl,hm];exact⟨s0,kV,GY,rfl,z1,by rw[I s0 z5 (by rw[z6];decide)];exact z2,z3,z4,by omega,QF,λc G=>Z (z7 c G)⟩
 .refine o1 t (by omega) λoff l c e=>?_;rcases acc with ⟨rfl,_,_⟩|⟨s,cap,rfl,q1,q2,q3,q4,q5⟩
  .cases e
  .simp only[PV.sl.injEq]at e;omega
theorem PW.set7(a:PW L b h Q O nP nC len vO vP vC)(u:7<=L s)(cs:List PV):PW L b (h.set s cs) Q O nP nC len vO vP vC:=
 a.keepK (k:=L s) (by omega) (na _) (λt _ _ l=>by rw[zG,if_neg (λe=>l (by rw[e]))]) λ_ _ _=>rfl
theorem RowAt.fresh{cap:Cap}(l:b<=h.next)(D:Q x.length)(u:full 1 cap x.length):RowAt (mkM L h.next 1) (h.new (pis x)) b Q (.sl h.next 0 x.length cap):=
 ⟨x,D,h.next,cap,rfl,u,by rw[zH,if_pos rfl],l,YP _,QF⟩
theorem PW.fresh(a:PW L b h Q O nP nC len vO vP vC)(cs:List PV)(k:Nat):PW (mkM L h.next k) b (h.new cs) Q O nP nC len vO vP vC:=a.keepL (UQ _) (λt _ l=>by rw[zH,if_neg (by omega)]) (qa (na _))
theorem zHt{vS:PV}{bs:V1}{σ':PHeap}(q:Keep σ' h)(u:So h s vS bs)(hs:s<σ'.next):So σ' s vS bs:=by
 obtain⟨a,l,S⟩:=u;exact⟨a,l,by rw[<-q.obj s hs];exact S.obj,hs,S.fb,S.byt,S.le,S.sd⟩
theorem kmSo{vS:PV}{bs:V1}(km:KM σ s h)(l:So h s vS bs)(hs:s<σ.next):∃σ',Mv σ s σ'/\So σ' s vS bs/\Keep σ' h/\σ'.next=σ.next:=by
 obtain⟨σ',m,q⟩:=km;exact⟨σ',m,zHt q l (by rw[m.next];exact hs),q,m.next⟩
theorem QU{vS:PV}{bs:V1}{cap:Cap}(I:So σ s vS bs)(D:s≠t)(H:σ.obj t=some (pis xs))(J:0<xs.length/\xs.length<=1000)(G:∀x h,x∈xs->Mv σ s h->So h s vS bs->K (.int .i64 x) h):zA Tryz.prog 133 [.ptr s 0,.sl t 0 xs.length cap] σ K:=by
 refine zD mix Tryz.func133 ?_;simp only[Z3,seval,-ae];refine zV I (by omega) λx h u m E=>?_;obtain⟨i,rfl⟩:∃i:Nat,x=(i:Int):=⟨x.toNat,by have:=u.1;omega⟩
 have l:i<xs.length:=by have:=u.lt (by omega);omega
 have r1:h.rd1 t i=some (.int .i64 xs[i]):=by rw[zI (by rw[m.obj (Ne.symm D)];exact H),zK,gi l];rfl
 simp only[Z3,seval,-ae,l,r1];exact G _ h (YK l) m E
theorem zCd{cap:Cap}(G:σ.obj s=some (pis xs))(hs:s<σ.next)(I:xs.length<=1048576)(E:∀cap,full 1 cap xs.length->K (.sl σ.next 0 xs.length cap) (σ.new (pis xs))):zA Tryz.prog 206 [.sl s 0 xs.length cap] σ K:=by
 refine zA.gh ?_;have u:¬s=σ.next:=Nat.ne_of_lt hs;refine zD mix Tryz.func206 ?_;simp only[Z3,seval,-ae];refine PSl.app (b:=0) (news:=pis xs) (m:=xs.length) (zC σ _) (YW _) (PSl.new _ 1 rfl (na _)) rfl (λD=>?_) (by rw[zJ,Nat.mul_one]) (by omega) (by omega) λJ h' H l=>?_
 .rw[ZH];simp only[D,if_false,na,if_true,Nat.mul_one,zBO,u];rw[zZ G,if_pos (by rw[zJ];omega),List.drop_zero,YR (by rw[zJ];exact na _)]
 .simp only[Z3,seval,-ae]at l ⊢;exact l.out H (zL _ _) E
theorem zBD{n k:Nat}(D:n<=1048576)(l:k<n)(u:∀cap,full 1 cap n->K (.sl σ.next 0 n cap) (σ.new (pis (unitL n k)))):zA Tryz.prog 98 [.int .i64 n,.int .i64 k] σ K:=by
 refine zA.gh ?_;refine zD mix Tryz.func98 ?_;simp only[Z3,seval,-ae,l,zJ,YT,zf,mk8 (n:=n) (by omega),Go.Ab.mkL (n:=n) (by omega),UZ l];rw[zU (by simpa using l)];exact Gh.finS (s:=σ.next) (cs:=pis (unitL n k)) (zC σ _) (by simp only[Z3,seval,-ae];rfl) (na _) (zL _ _) (u _ (.inr rfl))
end
section
variable{b s:Nat}{L L':Nat->Nat}{Q:Nat->Prop}{len:Nat->Nat}{cs:List PV}
structure TvI(σ h:PHeap)(Q:Nat->Prop)(O:V1)(L:Nat->Nat)(nP nC:Nat)(len:Nat->Nat)(r s:Nat)(vO vP vC:PV):Prop where
 keep:Keep σ h
 res:h.obj r=some [.fz true .nils 0 [],.fz true .nils 0 [],.fz true .nils 0 []]
 ob:h.obj s=some [vO,vP,vC]
 pw:PW L σ.next h Q O nP nC len vO vP vC
 lr:L r=7
 ls:L s=7
 ne:r≠s
 nr:σ.next<=r/\r<h.next
 ns:σ.next<=s/\s<h.next
variable{r:Nat}
theorem TvI.r1(a:TvI σ h Q O L nP nC len r s vO vP vC):h.rd1 s 1=some vP:=by rw[zI a.ob];rfl
theorem TvI.r2(a:TvI σ h Q O L nP nC len r s vO vP vC):h.rd1 s 2=some vC:=by rw[zI a.ob];rfl
theorem TvI.r3(a:TvI σ h Q O L nP nC len r s vO vP vC):h.rd s 0 3=some [vO,vP,vC]:=by rw[zZ a.ob];rfl
theorem TvI.fin(a:TvI σ h Q O L nP nC len r s vO vP vC):h.wr r 0 [vO,vP,vC]=some (h.set r [vO,vP,vC])/\(h.set r [vO,vP,vC]).rd r 0 3=some [vO,vP,vC]/\Keep σ (h.set r [vO,vP,vC])/\PW L σ.next (h.set r [vO,vP,vC]) Q O nP nC len vO vP vC:=by
 refine⟨by rw[zT a.res,if_pos ⟨by simp,by simp[a.pw.hO.one,a.pw.hP.one,a.pw.hC.one]⟩];rfl,by rw[qH,if_pos rfl];rfl,a.keep.set a.nr.1 _,a.pw.set7 (by rw[a.lr];exact na _) _⟩
theorem TvI.keepL(a:TvI σ h Q O L nP nC len r s vO vP vC)(D:Keep σ h')(E:h.next<=h'.next)(u:∀t,σ.next<=t->t<h.next->h'.obj t=h.obj t)(l:∀t,t<h.next->L' t=L t):TvI σ h' Q O L' nP nC len r s vO vP vC:=
 ⟨D,by rw[u r a.nr.1 a.nr.2];exact a.res,by rw[u s a.ns.1 a.ns.2];exact a.ob,a.pw.keepL E u l,by rw[l r a.nr.2];exact a.lr,by rw[l s a.ns.2];exact a.ls,a.ne,⟨a.nr.1,by have:=a.nr.2;omega⟩,⟨a.ns.1,by have:=a.ns.2;omega⟩⟩
theorem TvI.fresh(a:TvI σ h Q O L nP nC len r s vO vP vC)(cs:List PV)(k:Nat):TvI σ (h.new cs) Q O (mkM L h.next k) nP nC len r s vO vP vC:=a.keepL (a.keep.new cs) (UQ _) (λt _ l=>by rw[zH,if_neg (by omega)]) (qa (na _))
theorem TvI.step(a:TvI σ h Q O L nP nC len r s vO vP vC){H I:Nat}{u D l:PV}(J:Keep σ h')(N:PW L' σ.next h' Q O H I len u D l)(R:h.next<=h'.next)(E:∀t,t<h.next->7<=L t->h'.obj t=h.obj t/\L' t=L t):TvI σ (h'.set s [u,D,l]) Q O L' H I len r s u D l:=by
 have hs:=E s a.ns.2 (by rw[a.ls];exact na _);have G:=E r a.nr.2 (by rw[a.lr];exact na _);have ls:L' s=7:=by rw[hs.2];exact a.ls
 have:=a.nr.2
 have:=a.ns.2
 exact⟨J.set a.ns.1 _,by rw[zG,if_neg a.ne,G.1];exact a.res,by rw[zG,if_pos rfl],N.set7 (by rw[ls];exact na _) _,by rw[G.2];exact a.lr,ls,a.ne,⟨a.nr.1,by show r<h'.next;omega⟩,⟨a.ns.1,by show s<h'.next;omega⟩⟩
theorem TvI.old(a:TvI σ h Q O L nP nC len r s vO vP vC)(l:∀t,t<h.next->7<=L t->h'.obj t=h.obj t/\L' t=L t):h'.obj s=some [vO,vP,vC]:=by
 rw[(l s a.ns.2 (by rw[a.ls];exact na _)).1];exact a.ob
theorem TvI.keepK(a:TvI σ h Q O L nP nC len r s vO vP vC)(H:6<=k)(E:k≠7)(J:Keep σ h')(I:h.next<=h'.next)(u:∀t,t<h.next->L t≠k->h'.obj t=h.obj t)(l:∀t,t<h.next->L' t=L t):TvI σ h' Q O L' nP nC len r s vO vP vC:=
 ⟨J,by rw[u r a.nr.2 (by rw[a.lr];exact Ne.symm E)];exact a.res,by rw[u s a.ns.2 (by rw[a.ls];exact Ne.symm E)];exact a.ob,a.pw.keepK H I (λt _ D G=>u t D G) λt D _=>l t D,by rw[l r a.nr.2];exact a.lr,by rw[l s a.ns.2];exact a.ls,a.ne,⟨a.nr.1,by have:=a.nr.2;omega⟩,⟨a.ns.1,by have:=a.ns.2;omega⟩⟩
theorem zDg(hlen:pLen vX=some (.int .i64 O.length))(hb:O.length<=1000)
  (bY:∀{g:PHeap} {K':PV->PHeap->Prop},Keep σ g->(∀cap,full 1 cap O.length->K' (.sl g.next 0 O.length cap) (g.new (pis O)))->zA Tryz.prog 206 [vX] g K')
  (hk:∀L h vO vP vC,Keep σ h->PW L σ.next h (λm=>m=O.length) O O.length O.length (λj=>O.length-1-j) vO vP vC->K (.agg [vO,vP,vC]) h):zA Tryz.prog 197 [vX] σ K:=by
 refine zD mix Tryz.func197 ?_;simp only[Z3,seval,-ae,hlen];refine bY (zC _ _) λcap T=>?_;simp only[Z3,seval,-ae];generalize hn:O.length=n at *
 refine zF (λm vs h=>∃(i:Nat) (L:Nat->Nat) (vO vP vC:PV),i<=n/\m=n-i/\vs=[.ptr σ.next 0,.int .i64 n,.ptr (σ.next+2) 0,.int .i64 i]/\TvI σ h (λm=>m=n) O L i i (λj=>n-1-j) σ.next (σ.next+2) vO vP vC) n ?_ ?_
 .refine⟨0,λt=>if t=σ.next+1 then 5 else 7,.sl (σ.next+1) 0 n cap,_,_,YW _,rfl,rfl,((zC _ _).new _).new _,by simp only[Z3,seval,-ae],by simp only[Z3,seval,-ae],⟨⟨σ.next+1,cap,by rw[hn],by rw[hn];exact T,by simp only[Z3,seval,-ae],by omega,by show σ.next+1<σ.next+3;omega,if_pos rfl⟩,.inl ⟨rfl,rfl⟩,.inl ⟨rfl,rfl⟩⟩,if_neg (by omega),if_neg (by omega),by omega,⟨na _,by show σ.next<σ.next+3;omega⟩,⟨by omega,by show σ.next+2<σ.next+3;omega⟩⟩
 rintro m vs h ⟨i,L,vO,vP,vC,hi,rfl,rfl,a⟩
 have ve:=a.ns.2;simp only[Z3,seval,-ae];refine iteI (λah=>?_) λaF=>?_;rotate_left
 .have e:i=n:=by omega
  subst e;obtain⟨e1,e2,e3,e4⟩:=a.fin;simp only[Z3,seval,-ae,a.r3,e1,e2];exact hk L _ vO vP vC e3 e4
 have n1:¬σ.next+2=h.next:=by omega
 have n2:¬σ.next+2=h.next+1:=by omega
 simp only[Z3,seval,-ae,a.r1,n1,n2,zf,mk8 (n:=n) (by omega),Go.Ab.mkL (n:=n) (by omega)];have l:=a.fresh (pis (List.replicate n 0)) 1;have J:RowAt (mkM L h.next 1) (h.new (pis (List.replicate n 0))) σ.next (λm=>m=n) (.sl h.next 0 n (.known n)):=by
  have:=RowAt.fresh (L:=L) (h:=h) (b:=σ.next) (Q:=λm=>m=n) (x:=List.replicate n 0) (cap:=.known n) (by omega) (by simp) (by simp[full])
  simpa using this
 refine PW.pushP l.pw J l.keep (na _) (by show σ.next<=h.next+1;omega) (by omega) λE D L1 k1 N V o1 X=>?_;have dx:=l.old X;have w1:D.wr (σ.next+2) 1 [E]=some (D.set (σ.next+2) [vO,E,vC]):=by rw[zT dx,if_pos ⟨by simp,by simp[N.hP.one]⟩];rfl
 have I:=l.step k1 N (Y8 V) X;simp only[Z3,seval,-ae,w1,N.hP.cells];have LB:h.next+1<D.next:=V;have wi:IntKind.i64.wrap ((i:Int)+1)=((i+1:Nat):Int):=WQ
 rw[wi];generalize Y:D.set (σ.next+2) [vO,E,vC]=g2 at *
 rw[show D.next=g2.next by rw[<-Y];rfl];have gM:σ.next+2<g2.next:=by rw[<-Y];show _<D.next;omega
 clear dx w1 X o1 N k1 J l a;have a3:=I.fresh [] 6;have u:MatAt (mkM L1 g2.next 6) (g2.new []) σ.next (λm=>m=n) 6 0 (.sl g2.next 0 0 (.known 0)):=⟨g2.next,.known 0,[],rfl,.inr rfl,by rw[zH,if_pos rfl],rfl,by omega,YP _,QF,λc T=>by cases T⟩
 refine zF (λm vs h=>∃(j:Nat) (L:Nat->Nat) (Z:PV),i+1<=j/\j<=n/\m=n-j/\vs=[.ptr σ.next 0,.int .i64 n,.ptr (σ.next+2) 0,.int .i64 i,Z,.int .i64 j]/\TvI σ h (λm=>m=n) O L (i+1) i (λj=>n-1-j) σ.next (σ.next+2) vO E vC/\MatAt L h σ.next (λm=>m=n) 6 (j-(i+1)) Z) (n-(i+1)) ?_ ?_
 .exact⟨i+1,_,_,na _,ah,rfl,rfl,a3,by rw[Yv];exact u⟩
 clear a3 u I Y V LB
 rintro m vs h ⟨j,L,Z,rh,hj,rfl,rfl,a,u⟩
 have ve:=a.ns.2;have n1:¬σ.next+2=h.next:=by omega
 simp only[Z3,seval,-ae];refine iteI (λtW=>?_) λaF=>?_;rotate_left
 .have e:j=n:=by omega
  subst e;simp only[Z3,seval,-ae,a.r2,u.one,u.cells];refine PW.pushC (m:=j-(i+1)) a.pw u (by omega) a.keep (na _) (by omega) (by omega) λH S R U G W o2 m2=>?_;have w2:S.wr (σ.next+2) 2 [H]=some (S.set (σ.next+2) [vO,E,H]):=by rw[zT (a.old m2),if_pos ⟨by simp,by simp[G.hC.one]⟩];rfl
  have I:=a.step U G (Y8 W) m2;simp only[Z3,seval,-ae,w2,G.hC.cells,wi];exact⟨_,by omega,i+1,R,vO,E,H,by omega,rfl,rfl,I⟩
 simp only[Z3,seval,-ae];refine zBD (by omega) tW λbE cY=>?_;have l:=a.fresh (pis (unitL n j)) 1;have J:RowAt (mkM L h.next 1) (h.new (pis (unitL n j))) σ.next (λm=>m=n) (.sl h.next 0 n bE):=by
  have:=RowAt.fresh (L:=L) (h:=h) (b:=σ.next) (Q:=λm=>m=n) (x:=unitL n j) (cap:=bE) (by omega) (zQ n j) (by rw[zQ];exact cY)
  rw[zQ]at this;exact this
 simp only[Z3,seval,-ae];refine MatN.push (k:=6) (.inr (u.keep (L':=mkM L h.next 1) (h':=h.new (pis (unitL n j))) (UQ _) (λt _ ht=>by rw[zH,if_neg (by omega)]) (qa (na _)))) (by decide) J l.keep (na _) (by show σ.next<=h.next+1;omega) (by omega) λH S R U G W ur yR _=>?_;have wj:IntKind.i64.wrap ((j:Int)+1)=((j+1:Nat):Int):=WQ
 simp only[Z3,seval,-ae,wj];refine⟨_,by omega,j+1,R,H,by omega,by omega,rfl,rfl,l.keepK (k:=6) (na _) (by decide) U (Y8 W) yR ur,?_⟩;rw[show j+1-(i+1)=j-(i+1)+1 by omega];exact G
end
section
variable{b s:Nat}{L L':Nat->Nat}{Q:Nat->Prop}{len:Nat->Nat}{cs:List PV}
structure TB(b:Nat)(h:PHeap)(Q:Nat->Prop)(O:V1)(L:Nat->Nat)(nP nC:Nat)(len:Nat->Nat)(r s:Nat)(vO vP vC:PV):Prop where
 res:h.obj r=some [.fz true .nils 0 [],.fz true .nils 0 [],.fz true .nils 0 []]
 hr:r<b
 ob:h.obj s=some [vO,vP,vC]
 pw:PW L b h Q O nP nC len vO vP vC
 ls:L s=7
 ns:b<=s/\s<h.next
theorem TB.r0(a:TB b h Q O L nP nC len r s vO vP vC):h.rd1 s 0=some vO:=by rw[zI a.ob];rfl
theorem TB.r1(a:TB b h Q O L nP nC len r s vO vP vC):h.rd1 s 1=some vP:=by rw[zI a.ob];rfl
theorem TB.r2(a:TB b h Q O L nP nC len r s vO vP vC):h.rd1 s 2=some vC:=by rw[zI a.ob];rfl
theorem TB.r3(a:TB b h Q O L nP nC len r s vO vP vC):h.rd s 0 3=some [vO,vP,vC]:=by rw[zZ a.ob];rfl
theorem TB.fin(a:TB b h Q O L nP nC len r s vO vP vC):h.wr r 0 [vO,vP,vC]=some (h.set r [vO,vP,vC])/\(h.set r [vO,vP,vC]).rd r 0 3=some [vO,vP,vC]/\PW L b (h.set r [vO,vP,vC]) Q O nP nC len vO vP vC:=
 ⟨by rw[zT a.res,if_pos ⟨by simp,by simp[a.pw.hO.one,a.pw.hP.one,a.pw.hC.one]⟩];rfl,by rw[qH,if_pos rfl];rfl,a.pw.set a.hr _⟩
theorem TB.start(a:PW L b h Q O nP nC len vO vP vC)(D:r<b)(l:h.obj r=some [.fz true .nils 0 [],.fz true .nils 0 [],.fz true .nils 0 []])(u:b<=h.next):TB b (h.new [vO,vP,vC]) Q O (mkM L h.next 7) nP nC len r h.next vO vP vC:=
 ⟨by rw[zH,if_neg (by omega)];exact l,D,by rw[zH,if_pos rfl],a.fresh _ _,QF,⟨u,YP _⟩⟩
theorem TB.keepL(a:TB b h Q O L nP nC len r s vO vP vC)(D:h.next<=h'.next)(E:h'.obj r=h.obj r)(u:∀t,b<=t->t<h.next->h'.obj t=h.obj t)(l:∀t,t<h.next->L' t=L t):TB b h' Q O L' nP nC len r s vO vP vC:=
 ⟨by rw[E];exact a.res,a.hr,by rw[u s a.ns.1 a.ns.2];exact a.ob,a.pw.keepL D u l,by rw[l s a.ns.2];exact a.ls,⟨a.ns.1,by have:=a.ns.2;omega⟩⟩
theorem TB.rlt(a:TB b h Q O L nP nC len r s vO vP vC):r<h.next:=by have:=a.hr;have:=a.ns;omega
theorem TB.keep(a:TB b h Q O L nP nC len r s vO vP vC)(l:Keep h h'):TB b h' Q O L nP nC len r s vO vP vC:=a.keepL l.next (l.obj r a.rlt) (λt _ u=>l.obj t u) λ_ _=>rfl
theorem TB.new(a:TB b h Q O L nP nC len r s vO vP vC)(xs:List PV):TB b (h.new xs) Q O L nP nC len r s vO vP vC:=a.keep (zC h xs)
theorem TB.fresh(a:TB b h Q O L nP nC len r s vO vP vC)(cs:List PV)(k:Nat):TB b (h.new cs) Q O (mkM L h.next k) nP nC len r s vO vP vC:=
 a.keepL (UQ _) (by rw[zH,if_neg (by have:=a.rlt;omega)]) (λt _ l=>by rw[zH,if_neg (by omega)]) (qa (na _))
theorem TB.mv(a:TB b h Q O L nP nC len r s vO vP vC)(hs:s0<b)(l:s0≠r)(m:Mv h s0 h'):TB b h' Q O L nP nC len r s vO vP vC:=
 a.keepL (by rw[m.next];exact na _) (m.obj (Ne.symm l)) (λt u _=>m.obj (by omega)) λ_ _=>rfl
theorem TB.wrote(a:TB b h Q O L nP nC len r s vO vP vC)(u:b<=t)(l:L t≠7){cs:List PV}(p:PW L b (h.set t cs) Q O nP nC len vO vP vC):TB b (h.set t cs) Q O L nP nC len r s vO vP vC:=
 ⟨by rw[zG,if_neg (by have:=a.hr;omega)];exact a.res,a.hr,by rw[zG,if_neg (λe=>l (by rw[<-e];exact a.ls))];exact a.ob,p,a.ls,a.ns⟩
theorem TB.putP(a:TB b h Q O L nP nC len r s vO vP vC)(N:i<nP)(I:RowAt L h b Q c):
  ∃l cap u,vP=.sl l 0 nP cap/\b<=l/\l<h.next/\h.wr l i [c]=some (h.set l u)/\TB b (h.set l u) Q O L nP nC len r s vO vP vC:=by
 obtain⟨l,cap,cs,e,E,J,G,D,H,_⟩:=a.pw.powers (by omega);obtain⟨w,p⟩:=a.pw.putRow (i:=i) E (by omega) (.inl G) I;exact⟨l,cap,_,e,D,H,w,a.wrote D (by omega) p⟩
theorem TB.putC(a:TB b h Q O L nP nC len r s vO vP vC)(T:i<nC)(V:j<len i)(S:RowAt L h b Q c):
  ∃l cap t u D,vC=.sl l 0 nC cap/\h.rd1 l i=some (.sl t 0 (len i) u)/\b<=l/\l<h.next/\b<=t/\t<h.next/\h.wr t j [c]=some (h.set t D)/\TB b (h.set t D) Q O L nP nC len r s vO vP vC:=by
 obtain⟨l,cap,t,u,e,G,H,I,cs,J,U,N,E,R,_⟩:=a.pw.conj T;obtain⟨w,p⟩:=a.pw.putRow (i:=j) J (by omega) (.inr N) S;exact⟨l,cap,t,u,_,e,G,H,I,E,R,w,a.wrote E (by omega) p⟩
theorem TB.setP(a:TB b h Q O L nP nC len r s vO vP vC)(Y:i<nP)(U:∀m,Q m->j<m):
  ∃l cap t m u,vP=.sl l 0 nP cap/\h.rd1 l i=some (.sl t 0 m u)/\Q m/\b<=l/\l<h.next/\b<=t/\t<h.next/\∀y,∃D,h.wr t j [.int .i64 y]=some (h.set t D)/\TB b (h.set t D) Q O L nP nC len r s vO vP vC:=by
 obtain⟨l,cap,cs,e,N,W,X,R,S,T⟩:=a.pw.powers (by omega);obtain⟨x,q,t,u,G,V,H,E,I,J⟩:=T _ (YK (by omega:i<cs.length));refine⟨l,cap,t,x.length,u,e,by rw[zI N,YQ (by omega),G],q,R,S,E,I,λy=>?_⟩;obtain⟨w,p⟩:=a.pw.setRow (y:=y) H (U _ q) J;exact⟨_,w,a.wrote E (by omega) p⟩
theorem TB.setC(a:TB b h Q O L nP nC len r s vO vP vC){l:Nat}(hi:i<nC)(hl:l<len i)(hj:∀m,Q m->j<m):
  ∃D cap u G t m E,vC=.sl D 0 nC cap/\h.rd1 D i=some (.sl u 0 (len i) G)/\h.rd1 u l=some (.sl t 0 m E)/\Q m/\b<=D/\D<h.next/\b<=u/\u<h.next/\b<=t/\t<h.next/\∀y,∃H,h.wr t j [.int .i64 y]=some (h.set t H)/\TB b (h.set t H) Q O L nP nC len r s vO vP vC:=by
 obtain⟨D,cap,u,G,e,T,U,V,cs,W,h5,h6,X,Y,Z⟩:=a.pw.conj hi;obtain⟨x,q,t,E,J,g1,N,I,R,S⟩:=Z _ (YK (by omega:l<cs.length));refine⟨D,cap,u,G,t,x.length,E,e,T,by rw[zI W,YQ (by omega),J],q,U,V,X,Y,I,R,λy=>?_⟩;obtain⟨w,p⟩:=a.pw.setRow (y:=y) N (hj _ q) S;exact⟨_,w,a.wrote I (by omega) p⟩
theorem RowX.rd(a:RowX L h b k x v)(u:i<x.length):∃s cap,v=.sl s 0 x.length cap/\h.rd1 s i=some (.int .i64 (at_ x i))/\b<=s/\s<h.next/\h.obj s=some (pis x):=by
 obtain⟨s,cap,e,G,l,D,E,H⟩:=a;exact⟨s,cap,e,by rw[zI l,zK,gi u,at_eq u];rfl,D,E,l⟩
theorem PW.finKM(a:PW L b h Q O nP nC len vO vP vC)(km:KM σ s0 h)(S:So h s0 vS bs)(H:s0<σ.next)(J:σ.next<=b)
  (k:∀u D l P C σ',IsPr u D l O P C->PQ3 Q P C nP nC len->Mv σ s0 σ'->So σ' s0 vS bs->K (.agg [u,D,l]) σ'):Gh σ K (.agg [vO,vP,vC]) h:=
 Gh.km km S H λσ' E G R=>a.fin R (by rw[E.next];exact J) λu D l P C I N=>k u D l P C σ' I N E G
theorem zDE(u:FI vX O)(D:O.length<=1000)(E:∀L h vO vP vC,Keep σ h->PW L σ.next h (λm=>m=O.length) O O.length O.length (λj=>O.length-1-j) vO vP vC->K (.agg [vO,vP,vC]) h):zA Tryz.prog 197 [vX] σ K:=by
 obtain⟨w,a,rfl⟩:=u;exact zDg rfl D (λ_ l=>qg rfl (by omega) l) E
theorem ZJ{cap:Cap}(G:σ.obj s=some (pis O))(hs:s<σ.next)(D:O.length<=1000)(E:∀L h vO vP vC,Keep σ h->PW L σ.next h (λm=>m=O.length) O O.length O.length (λj=>O.length-1-j) vO vP vC->K (.agg [vO,vP,vC]) h):zA Tryz.prog 197 [.sl s 0 O.length cap] σ K:=
 zDg rfl D (λl u=>zCd (by rw[l.obj s hs];exact G) (by have:=l.next;omega) (by omega) u) E
theorem zDh{cap:Cap}(I:σ.obj s=some (pis O))(hs:s<σ.next)(G:O.length<=1000)(H:∀u D l P C,IsPr u D l O P C->PQ3 (λm=>m=O.length) P C O.length O.length (λj=>O.length-1-j)->K (.agg [u,D,l]) σ):zA Tryz.prog 197 [.sl s 0 O.length cap] σ K:=
 zA.gh (ZJ I hs G λL h vO vP vC N a=>a.fin N (na _) λu D l P C E J=>H u D l P C E J)
end
section
variable{b s:Nat}{L L':Nat->Nat}{Q:Nat->Prop}{cs:List PV}
theorem RowAt.low(a:RowAt L h n Q v)(H:b<=n):RowAt L h b Q v:=by
 obtain⟨x,q,s,cap,e,l,u,G,D,E⟩:=a;exact⟨x,q,s,cap,e,l,u,by omega,D,E⟩
theorem MatAt.low{m:Nat}(a:MatAt L h m Q k n v)(I:b<=m):MatAt L h b Q k n v:=by
 obtain⟨s,cap,cs,e,l,u,D,N,E,G,H⟩:=a;exact⟨s,cap,cs,e,l,u,D,by omega,E,G,λc J=>(H c J).low I⟩
theorem zHC(V:FII vL M)(hm:M.length<=1000)(Y:∀r∈M,Q r.length)(Z:∀r∈M,r.length<=1048576)(S:k≠1)(W:b<=σ.next)
  (X:∀L' h v,Keep σ h->(∀t,t<σ.next->L' t=L t)->MatAt L' h b Q k M.length v->K v h):zA Tryz.prog 234 [vL] σ K:=by
 obtain⟨w,a,rows,rfl,R⟩:=V;refine zD mix Tryz.func234 ?_;simp only[Z3,seval,-ae];refine zF (λm vs h=>∃(i:Nat) (L':Nat->Nat) (v:PV),i<=M.length/\m=M.length-i/\vs=[.fz w a M.length rows,v,.int .i64 i]/\Keep σ h/\(∀t,t<σ.next->L' t=L t)/\MatAt L' h σ.next Q k i v) M.length ?_ ?_
 .exact⟨0,mkM L σ.next k,.sl σ.next 0 0 (.known 0),YW _,rfl,rfl,zC _ _,qa (na _),σ.next,.known 0,[],rfl,.inr rfl,by rw[zH,if_pos rfl],rfl,na _,YP _,QF,λc u=>by cases u⟩
 rintro m vs h ⟨i,L',v,hi,rfl,rfl,D,H,G⟩
 have cb:=D.next;simp only[Z3,seval,-ae];refine iteI (λl=>?_) λaF=>?_;rotate_left
 .have e:i=M.length:=by omega
  subst e;exact X L' h v D H (G.low W)
 obtain⟨w1,a1,T⟩:=R.rowI l;have J:(i:Int)<(M.length:Int):=by omega
 simp only[Z3,seval,-ae,l,J,T];refine qg rfl (by have:=Z _ (YK l);omega) λcap u=>?_;have N:RowAt (mkM L' h.next 1) (h.new (pis M[i])) σ.next Q (.sl h.next 0 M[i].length cap):=RowAt.fresh (by omega) (Y _ (YK l)) u;simp only[Z3,seval,-ae];refine MatN.push (σ:=σ) (b:=σ.next) (k:=k) (.inr (G.keep (L':=mkM L' h.next 1) (h':=h.new (pis M[i])) (UQ _) (λt _ E=>by rw[zH,if_neg (by omega)]) (qa (na _)))) S N (D.new _) (na _) (by show σ.next<=h.next+1;omega) (by omega) λv2 U I k2 p2 l2 ur yR _=>?_;have HP:h.next+1<U.next:=l2;simp only[Z3,seval,-ae,WX l];exact⟨_,by omega,i+1,I,v2,by omega,rfl,rfl,k2,λt E=>by rw[ur t (by show t<h.next+1;omega),qa (na _) t (by omega)];exact H t E,p2⟩
theorem zFI(hR:IsPr vO vP vC O P C)(hO:O.length<=1000)(hP:P.length<=1000)(hC:C.length<=1000)(uy:∀q∈C,q.length<=1000)(Ib:∀r∈P,Q r.length)(Ic:∀q∈C,∀r∈q,Q r.length)(hQ:∀m,Q m->m<=1048576)
  (hk:∀L h N wP wC,Keep σ h->PW L σ.next h Q O P.length C.length (λi=>(C.getD i []).length) N wP wC->K (.agg [N,wP,wC]) h):zA Tryz.prog 196 [.agg [vO,vP,vC]] σ K:=by
 have g0:=hR.O.one;have g1:=hR.P.one;obtain⟨⟨N,Z,rfl⟩,IM,IN⟩:=hR;obtain⟨w2,l,X,rfl,EO⟩:=IN;refine zD mix Tryz.func196 ?_;simp only[Z3,seval,-ae,g0,g1];refine qg rfl (by omega) λcap hc=>?_;simp only[Z3,seval,-ae,g0,g1];generalize I:(((((σ.new [PV.fz N Z O.length (pis O),vP,PV.fz w2 l C.length X]).new [PV.fz true AV.nils 0 [],PV.fz true AV.nils 0 [],PV.fz true AV.nils 0 []]).new [PV.fz true AV.nils 0 [],PV.fz true AV.nils 0 [],PV.fz true AV.nils 0 []]).new (pis O)))=H;have eX:H.next=σ.next+4:=by rw[<-I];rfl
 have kH:Keep σ H:=by rw[<-I];exact(((zC _ _).new _).new _).new _
 have dB:H.obj σ.next=some [PV.fz N Z O.length (pis O),vP,PV.fz w2 l C.length X]:=by rw[<-I];simp only[Z3,seval,-ae]
 have di:H.obj (σ.next+1)=some [PV.fz true AV.nils 0 [],PV.fz true AV.nils 0 [],PV.fz true AV.nils 0 []]:=by rw[<-I];simp only[Z3,seval,-ae]
 have jU:H.obj (σ.next+2)=some [PV.fz true AV.nils 0 [],PV.fz true AV.nils 0 [],PV.fz true AV.nils 0 []]:=by rw[<-I];simp only[Z3,seval,-ae]
 have oe:H.obj (σ.next+3)=some (pis O):=by rw[<-I];simp only[Z3,seval,-ae]
 clear I;obtain⟨R,Gj⟩:∃R:Nat->Nat,R=λt=>if t=σ.next+3 then 5 else 7:=⟨_,rfl⟩
 have l5:R (σ.next+3)=5:=by rw[Gj];simp
 have V:∀t,t≠σ.next+3->R t=7:=λt ht=>by rw[Gj];simp[ht]
 clear Gj;refine zHC (L:=R) (Q:=Q) (k:=2) (b:=σ.next) IM hP Ib (λr T=>hQ _ (Ib r T)) (by decide) (by omega) λY D J E u W=>?_;have dQ:=E.next;have r2:D.rd1 σ.next 1=some vP:=by rw[zI (by rw[E.obj _ (by omega)];exact dB)];rfl
 have o2:D.obj (σ.next+2)=some [PV.fz true AV.nils 0 [],PV.fz true AV.nils 0 [],PV.fz true AV.nils 0 []]:=by rw[E.obj _ (by omega)];exact jU
 have Ha:D.wr (σ.next+2) 0 [.sl (σ.next+3) 0 O.length cap,J,.fz true .nils 0 []]=some (D.set (σ.next+2) [.sl (σ.next+3) 0 O.length cap,J,.fz true .nils 0 []]):=by
  rw[zT o2,if_pos ⟨by simp,by simp[W.one];exact⟨rfl,rfl⟩⟩];rfl
 simp only[Z3,seval,-ae,W.one,W.cells,Ha];have pw1:PW Y σ.next D Q O P.length 0 (λi=>(C.getD i []).length) (.sl (σ.next+3) 0 O.length cap) J (.fz true .nils 0 []):=
  ⟨⟨σ.next+3,cap,rfl,hc,by rw[E.obj _ (by omega)];exact oe,by omega,by omega,by rw[u _ (by omega)];exact l5⟩,.inr W,.inl ⟨rfl,rfl⟩⟩
 have t1:TvI σ (D.set (σ.next+2) [.sl (σ.next+3) 0 O.length cap,J,.fz true .nils 0 []]) Q O Y P.length 0 (λi=>(C.getD i []).length) (σ.next+1) (σ.next+2) (.sl (σ.next+3) 0 O.length cap) J (.fz true .nils 0 []):=
  ⟨(kH.trans E).set (by omega) _,by rw[zG,if_neg (by omega),E.obj _ (by omega)];exact di,by rw[zG,if_pos rfl],pw1.set7 (by rw[u _ (by omega),V _ (by omega)];exact na _) _,by rw[u _ (by omega),V _ (by omega)],by rw[u _ (by omega),V _ (by omega)],by omega,⟨by omega,by show _<D.next;omega⟩,⟨by omega,by show _<D.next;omega⟩⟩
 refine zF (λm vs h=>∃(i:Nat) (L:Nat->Nat) (vC:PV),i<=C.length/\m=C.length-i/\vs=[.ptr σ.next 0,.ptr (σ.next+1) 0,.ptr (σ.next+2) 0,.int .i64 i]/\TvI σ h Q O L P.length i (λi=>(C.getD i []).length) (σ.next+1) (σ.next+2) (.sl (σ.next+3) 0 O.length cap) J vC/\
  h.obj σ.next=some [PV.fz N Z O.length (pis O),vP,PV.fz w2 l C.length X]/\L σ.next=7) C.length ?_ ?_
 .exact⟨0,Y,_,YW _,rfl,rfl,t1,by rw[zG,if_neg (by omega),E.obj _ (by omega)];exact dB,by rw[u _ (by omega),V _ (by omega)]⟩
 clear t1 pw1 Ha o2 r2 dQ W u E dB di jU oe kH eX l5 V
 rintro m vs h ⟨i,L,vC,hi,rfl,rfl,a,oB,lB⟩
 have ve:=a.ns.2;have rB:h.rd1 σ.next 2=some (.fz w2 l C.length X):=by rw[zI oB];rfl
 simp only[Z3,seval,-ae,rB];refine iteI (λG=>?_) λaF=>?_;rotate_left
 .have e:i=C.length:=by omega
  subst e;obtain⟨u,S,e3,e4⟩:=a.fin;simp only[Z3,seval,-ae,a.r3,u,S];exact hk L _ _ _ vC e3 e4
 have aD:(i:Int)<(C.length:Int):=by omega
 obtain⟨w4,a4,BA,T,dy⟩:=EO.rowL G;simp only[Z3,seval,-ae,G,aD,T,rB,a.r2];refine zHC (L:=L) (Q:=Q) (k:=6) (b:=σ.next) ⟨w4,a4,BA,rfl,dy⟩ (uy _ (YK G)) (Ic _ (YK G)) (λr T=>hQ _ (Ic _ (YK G) r T)) (by decide) (by omega) λL2 h2 v2 U S m2=>?_;have l:=a.keepL (a.keep.trans U) U.next (λt _ ht=>U.obj t ht) S;have MH:=l.ns.2;have n2:¬σ.next+2=h2.next:=by omega
 simp only[Z3,seval,-ae,l.r2,n2,m2.one,m2.cells];refine PW.pushC (m:=C[i].length) l.pw m2 (by show(C.getD i []).length=_;rw[YB,YQ G];rfl) l.keep (na _) (by omega) (by omega) λv3 h3 L3 k3 p3 l3 o3 m3=>?_;have w3:h3.wr (σ.next+2) 2 [v3]=some (h3.set (σ.next+2) [.sl (σ.next+3) 0 O.length cap,J,v3]):=by rw[zT (l.old m3),if_pos ⟨by simp,by simp[p3.hC.one]⟩];rfl
 have a3:=l.step k3 p3 (Y8 l3) m3;have q7:=m3 σ.next (by omega) (by rw[S _ (by omega),lB];exact na _);simp only[Z3,seval,-ae,w3,p3.hC.cells,WX G];refine⟨_,by omega,i+1,L3,v3,by omega,rfl,rfl,a3,?_,by rw[q7.2,S _ (by omega)];exact lB⟩
 first|(rw[zG,if_neg (by omega),q7.1,U.obj _ (by omega)];exact oB)|(rw[q7.1,U.obj _ (by omega)];exact oB)
end
section
variable{b s:Nat}{L L':Nat->Nat}{Q:Nat->Prop}{len:Nat->Nat}{cs:List PV}
theorem PW.lenE{l:Nat->Nat}(a:PW L b h Q O nP nC len vO vP vC)(D:∀i,i<nC->len i=l i):PW L b h Q O nP nC l vO vP vC:=by
 refine⟨a.hO,a.hP,a.hC.imp id λ⟨s,cap,cs,e,E,G,H,I,J,N,R⟩=>⟨s,cap,cs,e,E,G,H,I,J,N,λi c u=>?_⟩⟩;have S:=(Yn.1 u).1;rw[<-D i (by omega)];exact R i c u
theorem TB.putPx(a:TB b h Q O L nP nC len r s vO vP vC)(H:i<nP):∃l cap,vP=.sl l 0 nP cap/\b<=l/\l<h.next/\∀{xs:V1} {cp:Cap},Q xs.length->full 1 cp xs.length->
  ∃u L',(h.new (pis xs)).wr l i [.sl h.next 0 xs.length cp]=some ((h.new (pis xs)).set l u)/\TB b ((h.new (pis xs)).set l u) Q O L' nP nC len r s vO vP vC:=by
 obtain⟨l,cap,cs,e,T,U,V,D,E,_⟩:=a.pw.powers (by omega);refine⟨l,cap,e,D,E,λ{xs cp} I G=>?_⟩;obtain⟨J,N,u,e',R,S,w,a'⟩:=(a.fresh (pis xs) 1).putP H (RowAt.fresh (L:=L) (b:=b) (by have:=a.ns;omega) I G);rw[e]at e';simp only[PV.sl.injEq]at e';obtain⟨rfl,_⟩:=e';exact⟨u,_,w,a'⟩
theorem TB.putCx(a:TB b h Q O L nP nC len r s vO vP vC)(H:i<nC)(T:j<len i):∃l cap t u,vC=.sl l 0 nC cap/\h.rd1 l i=some (.sl t 0 (len i) u)/\b<=l/\l<h.next/\b<=t/\t<h.next/\∀{xs:V1} {cp:Cap},Q xs.length->full 1 cp xs.length->
  ∃D L',(h.new (pis xs)).rd1 l i=some (.sl t 0 (len i) u)/\(h.new (pis xs)).wr t j [.sl h.next 0 xs.length cp]=some ((h.new (pis xs)).set t D)/\TB b ((h.new (pis xs)).set t D) Q O L' nP nC len r s vO vP vC:=by
 obtain⟨l,cap,t,u,e,G,I,J,cs,h4,h5,h6,N,R,_⟩:=a.pw.conj H;refine⟨l,cap,t,u,e,G,I,J,N,R,λ{xs cp} U S=>?_⟩;obtain⟨W,X,t',V,D,e',E,Y,Z,g3,g4,w,a'⟩:=(a.fresh (pis xs) 1).putC H T (RowAt.fresh (L:=L) (b:=b) (by have:=a.ns;omega) U S);rw[e]at e';simp only[PV.sl.injEq]at e';obtain⟨rfl,_⟩:=e';have q:(h.new (pis xs)).rd1 l i=some (.sl t 0 (len i) u):=by rw[zFA,if_neg (by omega)];exact G
 rw[q]at E;simp only[YD,PV.sl.injEq]at E;obtain⟨rfl,_⟩:=E;exact⟨D,_,q,w,a'⟩
theorem TB.setPm(a:TB b h Q O L nP nC len r s vO vP vC)(hs:s0<b)(R:s0≠r)(H:i<nP)(I:∀m,Q m->j<m):
  ∃l cap t m u,vP=.sl l 0 nP cap/\h.rd1 l i=some (.sl t 0 m u)/\Q m/\∀h',Mv h s0 h'->h'.rd1 l i=some (.sl t 0 m u)/\∀y,∃D,h'.wr t j [.int .i64 y]=some (h'.set t D)/\b<=t/\TB b (h'.set t D) Q O L nP nC len r s vO vP vC:=by
 obtain⟨l,cap,t,m,u,e,G,q,h2,h3,S,h5,_⟩:=a.setP H I;refine⟨l,cap,t,m,u,e,G,q,λh' mv=>?_⟩;obtain⟨U,V,t',m',T,e',E,q',W,X,Y,Z,w⟩:=(a.mv hs R mv).setP H I;rw[e]at e';simp only[PV.sl.injEq]at e';obtain⟨rfl,_⟩:=e';have J:h'.rd1 l i=some (.sl t 0 m u):=by unfold PHeap.rd1 at G ⊢;rw[mv.obj (by omega)];exact G
 rw[J]at E;simp only[YD,PV.sl.injEq]at E;obtain⟨rfl,_⟩:=E;exact⟨J,λy=>by obtain⟨D,w1,N⟩:=w y;exact⟨D,w1,S,N⟩⟩
theorem TB.setCm(a:TB b h Q O L nP nC len r s vO vP vC){l:Nat}(hs:s0<b)(W:s0≠r)(S:i<nC)(U:l<len i)(T:∀m,Q m->j<m):
  ∃D cap u G t m E,vC=.sl D 0 nC cap/\h.rd1 D i=some (.sl u 0 (len i) G)/\h.rd1 u l=some (.sl t 0 m E)/\Q m/\∀h',Mv h s0 h'->h'.rd1 D i=some (.sl u 0 (len i) G)/\h'.rd1 u l=some (.sl t 0 m E)/\
   ∀y,∃H,h'.wr t j [.int .i64 y]=some (h'.set t H)/\b<=t/\TB b (h'.set t H) Q O L nP nC len r s vO vP vC:=by
 obtain⟨D,cap,u,G,t,m,E,e,N,R,q,f1,f2,f3,f4,X,f6,_⟩:=a.setC S U T;refine⟨D,cap,u,G,t,m,E,e,N,R,q,λh' mv=>?_⟩;obtain⟨Y,Z,u',c2,t',m',c3,e',I,J,q',k1,k2,k3,k4,k5,k6,w⟩:=(a.mv hs W mv).setC S U T;rw[e]at e';simp only[PV.sl.injEq]at e';obtain⟨rfl,_⟩:=e';have r1:h'.rd1 D i=some (.sl u 0 (len i) G):=by unfold PHeap.rd1 at N ⊢;rw[mv.obj (by omega)];exact N
 rw[r1]at I;simp only[YD,PV.sl.injEq]at I;obtain⟨rfl,_⟩:=I;have r2:h'.rd1 u l=some (.sl t 0 m E):=by unfold PHeap.rd1 at R ⊢;rw[mv.obj (by omega)];exact R
 rw[r2]at J;simp only[YD,PV.sl.injEq]at J;obtain⟨rfl,_⟩:=J;exact⟨r1,r2,λy=>by obtain⟨H,w1,V⟩:=w y;exact⟨H,w1,X,V⟩⟩
structure Shl(O:V1)(P:V2)(C:V3):Prop where
 le:O.length<=6
 pr:∀j,j<O.length->2<=at_ O j/\at_ O j<=7
 pl:P.length=O.length
 cl:C.length=O.length
 row:∀i,i<O.length->(C.getD i []).length=O.length-1-i
 pe:∀r∈P,r.length=O.length
 ce:∀q∈C,∀r∈q,r.length=O.length
theorem zQx(I:qE O P C):Shl O P C:=by
 have l:=I.shp;refine⟨l.le,l.pr,l.pl,l.cl,l.row,λr D=>?_,λq J r D=>?_⟩
 .obtain⟨i,u,rfl⟩:=YE.1 D
  have:=(l.pw i (by rw[<-l.pl];exact u)).len
  unfold pvec at this;rw[YB,YQ u]at this;exact this
 .obtain⟨i,u,rfl⟩:=YE.1 J;have N:i<O.length:=by rw[<-l.cl];exact u
  have E:C.getD i []=C[i]:=by rw[YB,YQ u];rfl
  have H:=l.row i N;rw[E]at H;obtain⟨k,G,rfl⟩:=YE.1 D
  have:=(l.cj i (i+1+k) (by omega) (by omega)).len
  unfold cvec at this;rw[E,show i+1+k-i-1=k by omega,YB,YQ G]at this;exact this
theorem zF5(so:So σ s0 vS bs)(hR:IsPr vO vP vC O P C)(hp:Shl O P C)
  (hk:∀wO wP wC P' C' σ',IsPr wO wP wC O P' C'->PQ3 (λm=>m=O.length) P' C' O.length O.length (λi=>O.length-1-i)->Mv σ s0 σ'->So σ' s0 vS bs->K (.agg [wO,wP,wC]) σ'):zA Tryz.prog 131 [.ptr s0 0,.agg [vO,vP,vC]] σ K:=by
 have N:=hp;have be:=N.le;have g0:=hR.O.one;have g1:=hR.P.one;have g2:=hR.C.one;have X:=so.lt;have AH:∀q∈C,q.length<=1000/\∀r∈q,r.length=O.length:=λq hq=>by
  obtain⟨i,hi,rfl⟩:=YE.1 hq;have iJ:i<O.length:=by rw[<-N.cl];exact hi
  have S:C.getD i []=C[i]:=by rw[YB,YQ hi];rfl
  have hl:=N.row i iJ;rw[S]at hl;exact⟨by omega,N.ce _ (YK hi)⟩
 have Gd:∀r∈P,r.length=O.length:=N.pe;refine zA.gh ?_;refine qG mix Tryz.func131 ?_;simp only[Z3,seval,-ae,g0,g1,g2];generalize hH:((σ.new [vO,vP,vC]).new [PV.fz true AV.nils 0 [],PV.fz true AV.nils 0 [],PV.fz true AV.nils 0 []])=H;have eX:H.next=σ.next+2:=by rw[<-hH];rfl
 have kH:Keep σ H:=by rw[<-hH];exact(zC _ _).new _
 have di:H.obj (σ.next+1)=some [PV.fz true AV.nils 0 [],PV.fz true AV.nils 0 [],PV.fz true AV.nils 0 []]:=by rw[<-hH];simp only[Z3,seval,-ae]
 clear hH;refine zFI (Q:=λm=>m=O.length) hR (by omega) (by rw[N.pl];omega) (by rw[N.cl];omega) (λq hq=>(AH q hq).1) Gd (λq hq=>(AH q hq).2) (λm hm=>by omega) λL h uO G E k1 p1=>?_;have dQ:=k1.next;have p2:PW L H.next h (λm=>m=O.length) O O.length O.length (λi=>O.length-1-i) uO G E:=by
  rw[N.pl,N.cl]at p1;exact p1.lenE λi hi=>N.row i hi
 have a:=TB.start p2 (r:=σ.next+1) (by omega) (by rw[k1.obj _ (by omega)];exact di) dQ;obtain⟨D,J,eO,Rr,Rq,Rp,Ro,Rn⟩:=p2.hO;subst eO;have eQ:KM σ s0 (h.new [.sl D 0 O.length J,G,E]):=so.kmK ((kH.trans k1).new _);have dh:So (h.new [.sl D 0 O.length J,G,E]) s0 vS bs:=so.keep ((kH.trans k1).new _);simp only[Z3,seval,-ae,p2.hP.one,p2.hC.one];have U:s0≠σ.next+1:=by omega
 have T:s0<H.next:=by omega
 have fin:∀{g:PHeap} {L':Nat->Nat},KM σ s0 g->So g s0 vS bs->TB H.next g (λm=>m=O.length) O L' O.length O.length (λi=>O.length-1-i) (σ.next+1) h.next (.sl D 0 O.length J) G E->
   g.wr (σ.next+1) 0 [.sl D 0 O.length J,G,E]=some (g.set (σ.next+1) [.sl D 0 O.length J,G,E])/\(g.set (σ.next+1) [.sl D 0 O.length J,G,E]).rd (σ.next+1) 0 3=some [.sl D 0 O.length J,G,E]/\Gh σ K (.agg [.sl D 0 O.length J,G,E]) (g.set (σ.next+1) [.sl D 0 O.length J,G,E]):=λ{g L'} km bW a=>by
  obtain⟨S,Z,e3⟩:=a.fin;exact⟨S,Z,e3.finKM (km.set (by omega) _) (bW.set (by omega) _) X (by omega) λwO wP wC P C σ' I x2 x3 R=>hk wO wP wC P C σ' I x2 x3 R⟩
 generalize h.new [PV.sl D 0 O.length J,G,E]=g at *
 have Ig:O.length<=6:=be;refine zV dh (by omega) λI g1 gD m1 bu=>?_;have a1:=a.mv T U m1;have bZ:=eQ.mv X m1;have JT:=gD.1;have bM:IntKind.i64.wrap ((O.length:Int)-1)=(O.length:Int)-1:=WE;have JS:I<=6:=by
  rcases Um 1 (O.length:Int)with q|q
  .have:=gD.2.2 q;omega
  .have:=gD.2.1 q;omega
 have wN:IntKind.i64.wrap ((O.length:Int)-1-I)=(O.length:Int)-1-I:=WE;have CO:IntKind.i64.wrap (I+1)=I+1:=WE;simp only[Z3,seval,-ae,bM,wN,CO];refine zV bu (by omega) λx2 g2 iD m2 cQ=>?_;have a2:=a1.mv T U m2;have c9:=bZ.mv X m2;have PL:=iD.1;have PK:x2<=6:=by
  rcases Um 1 ((O.length:Int)-1-I)with q|q
  .have:=iD.2.2 q;omega
  .have:=iD.2.1 q;omega
 have J2:IntKind.i64.wrap (I+1+x2)=I+1+x2:=WE;simp only[Z3,seval,-ae,J2];refine iteI (λaF=>?_) λar=>?_
 .obtain⟨S,Z,e3⟩:=fin c9 cQ a2;simp only[Z3,seval,-ae,a2.r3,S,Z];exact e3
 obtain⟨i,rfl⟩:∃i:Nat,I=i:=⟨I.toNat,by omega⟩
 obtain⟨j,hj⟩:∃j:Nat,(i:Int)+1+x2=j:=⟨((i:Int)+1+x2).toNat,by omega⟩
 rw[hj];have dr:i<O.length:=by omega
 have V:j<O.length:=by omega
 have oV:(i:Int)<(O.length:Int):=by omega
 have gk:(j:Int)<(O.length:Int):=by omega
 simp only[Z3,seval,-ae];refine zV cQ (by decide) λx3 g3 RK m3 dK=>?_;have a3:=a2.mv T U m3;have fW:=c9.mv X m3;have fU:∀{g:PHeap} {L':Nat->Nat},TB H.next g (λm=>m=O.length) O L' O.length O.length (λi=>O.length-1-i) (σ.next+1) h.next (.sl D 0 O.length J) G E->g.rd1 D j=some (.int .i64 (at_ O j)):=λ{g L'} a=>by
  obtain⟨s',c',e,q,_⟩:=a.pw.hO.rd V;simp only[PV.sl.injEq]at e;obtain⟨rfl,_⟩:=e;exact q
 have oj:=(N.pr j V);simp only[Z3,seval,-ae];refine iteI (λh0=>?_) λhJ=>?_
 .obtain⟨sP,capP,t,m,dH,rfl,q1,q2,q3⟩:=a3.setPm (j:=j) T U dr (λm hm=>by rw[hm];exact V);subst q2;simp only[Z3,seval,-ae,a3.r1,a3.r0,dr,oV,q1,V,gk,fU a3];refine zV dK (by omega) λy g4 hy m4 fR=>?_;obtain⟨q4,q5⟩:=q3 g4 m4;have W:=a3.mv T U m4;obtain⟨Y,w,IG,a5⟩:=q5 y;have pN:=(fW.mv X m4).set (t:=t) (by omega) Y;have pE:=fR.set (t:=t) (by omega) Y;generalize g4.set t Y=g5 at *
  simp only[Z3,seval,-ae,W.r1,q4,V,gk,w];obtain⟨S,Z,e3⟩:=fin pN pE a5;simp only[Z3,seval,-ae,a5.r3,S,Z];exact e3
 have J1:IntKind.i64.wrap ((O.length:Int)-1-(i:Int))=(O.length:Int)-1-(i:Int):=WE;simp only[Z3,seval,-ae,bM,CO,J1];refine zV dK (by omega) λR g4 BO m4 fR=>?_;have W:=a3.mv T U m4;have gA:=fW.mv X m4;have PJ:=BO.1;have PI:R<(O.length:Int)-1-(i:Int):=BO.lt (by omega);have J0:IntKind.i64.wrap ((i:Int)+1+R)=(i:Int)+1+R:=WE;have JZ:IntKind.i64.wrap ((i:Int)+1+R-(i:Int))=R+1:=WQ
 have JY:IntKind.i64.wrap (R+1-1)=R:=WQ
 obtain⟨l,rfl⟩:∃l:Nat,R=l:=⟨R.toNat,by omega⟩
 have hl:l<O.length-1-i:=by omega
 have nN:l<O.length-(1+i):=by omega
 have ij:(l:Int)<((O.length-1-i:Nat):Int):=by omega
 have bH:(l:Int)<((O.length-(1+i):Nat):Int):=by omega
 obtain⟨sC,capC,u,kU,t,m,dH,rfl,q1,uN,q2,q3⟩:=W.setCm (j:=j) T U dr hl (λm hm=>by rw[hm];exact V);subst q2;simp only[Z3,seval,-ae,CO,J0,JZ,JY,W.r2,W.r0,dr,oV,q1,uN,hl,nN,ij,bH,V,gk,fU W];refine zV fR (by omega) λy g5 hy m5 pE=>?_;obtain⟨q4,KP,q5⟩:=q3 g5 m5;have a5:=W.mv T U m5;obtain⟨Y,w,IG,a6⟩:=q5 y;have pN:=(gA.mv X m5).set (t:=t) (by omega) Y;have uL:=pE.set (t:=t) (by omega) Y;generalize g5.set t Y=g6 at *
 simp only[Z3,seval,-ae,a5.r2,q4,KP,hl,nN,ij,bH,V,gk,w];obtain⟨S,Z,e3⟩:=fin pN uL a6;simp only[Z3,seval,-ae,a6.r3,S,Z];exact e3
end
section
variable{b s:Nat}{L L':Nat->Nat}{Q Q':Nat->Prop}{len:Nat->Nat}{cs:List PV}
theorem zDj{k0:Nat}(Z:MatAt L σ b Q k0 n v)(hm:n<=1000)(hr:∀m,Q m->m<=1048576)(T:k≠1)(hb:b<=σ.next)
  (hk:∀L' h v,Keep σ h->(∀t,t<σ.next->L' t=L t)->MatAt L' h b Q k n v->K v h):zA Tryz.prog 234 [v] σ K:=by
 obtain⟨s,cap,cs,rfl,h1,u,h3,h4,X,h6,Y⟩:=Z;refine zD mix Tryz.func234 ?_;simp only[Z3,seval,-ae];refine zF (λm vs h=>∃(i:Nat) (L':Nat->Nat) (v:PV),i<=n/\m=n-i/\vs=[.sl s 0 n cap,v,.int .i64 i]/\Keep σ h/\(∀t,t<σ.next->L' t=L t)/\MatAt L' h σ.next Q k i v) n ?_ ?_
 .exact⟨0,mkM L σ.next k,.sl σ.next 0 0 (.known 0),YW _,rfl,rfl,zC _ _,qa (na _),σ.next,.known 0,[],rfl,.inr rfl,by rw[zH,if_pos rfl],rfl,na _,YP _,QF,λc D=>by cases D⟩
 rintro m vs h ⟨i,L',v,hi,rfl,rfl,l,I,H⟩
 have cb:=l.next;simp only[Z3,seval,-ae];refine iteI (λE=>?_) λaF=>?_;rotate_left
 .have e:i=n:=by omega
  subst e;exact hk L' h v l I (H.low hb)
 obtain⟨x,q,t,U,e,g1,V,g3,W,g5⟩:=Y _ (YK (by omega:i<cs.length));have N:(i:Int)<(n:Int):=by omega
 have rd:h.rd1 s i=some (.sl t 0 x.length U):=by unfold PHeap.rd1;rw[l.obj s X,u,<-e];exact YQ (by omega)
 simp only[Z3,seval,-ae,E,N,rd];refine zCd (by rw[l.obj t W];exact V) (by omega) (hr _ q) λS D=>?_;have R:RowAt (mkM L' h.next 1) (h.new (pis x)) σ.next Q (.sl h.next 0 x.length S):=RowAt.fresh (by omega) q D;simp only[Z3,seval,-ae];refine MatN.push (σ:=σ) (b:=σ.next) (k:=k) (.inr (H.keep (L':=mkM L' h.next 1) (h':=h.new (pis x)) (UQ _) (λt _ G=>by rw[zH,if_neg (by omega)]) (qa (na _)))) T R (l.new _) (na _) (by show σ.next<=h.next+1;omega) (by omega) λv2 u J k2 p2 l2 ur yR _=>?_;have HP:h.next+1<u.next:=l2;simp only[Z3,seval,-ae,WX E];exact⟨_,by omega,i+1,J,v2,by omega,rfl,rfl,k2,λt G=>by rw[ur t (by show t<h.next+1;omega),qa (na _) t (by omega)];exact I t G,p2⟩
theorem MatN.pushG{H:PV×PHeap->Prop}{x:PV}(a:MatN L h b Q k n v)(U:k≠1)(hc:RowAt L h b Q c)(hx:plen x=some 1)(hf:ZY 1 h x 1=some [c])(hk:Keep σ h)(hb:σ.next<=b)(vJ:b<=h.next)(hn:n<=1048576)
  (kk:∀G h' L',Keep σ h'->MatAt L' h' b Q k (n+1) G->h.next<h'.next->(∀t,t<h.next->L' t=L t)->(∀t,t<h.next->L t≠k->h'.obj t=h.obj t)->(∀t,t<b->h'.obj t=h.obj t)->H (G,h')):optK (qB 1 24 h v x) H:=by
 obtain⟨cs,acc,W,hL⟩:=a.acc;refine PAcc.appS (m:=1) (news:=[c]) hk (acc.low hb) hx (by decide) hf rfl (by omega) (by omega) λG h' k1 T R n1 l1=>?_;obtain⟨D,I,rfl,X,Y,Z,g4,g5⟩:=T;have J:h.next<=D:=by
  rcases YG D h.next with q|q
  .exact absurd rfl (n1 D q 0 _ I)
  .exact q
 have S:∀t,t<h.next->L t≠k->h'.obj t=h.obj t:=λt u E=>R t u λoff l c e=>E (hL t off l c e);have V:h.next<=h'.next:=by omega
 have N:∀{d:PV},RowAt L h b Q d->RowAt (mkM L D k) h' b Q d:=λ{d} hd=>hd.keepK (k:=k) (Ne.symm U) V (λt _ u E=>S t u E) λt u _=>qa J t u;refine kk _ h' (mkM L D k) k1 ⟨D,I,cs++[c],rfl,X,Y,by simpa using Z,by omega,g5,QF,λd hd=>?_⟩ l1 (qa J) S λt u=>?_
 .rcases YY.1 hd with hd|hd
  .exact N (W d hd)
  .rw[YN.1 hd];exact N hc
 .refine R t (by omega) λoff l c e=>?_;rcases acc with ⟨rfl,_,_⟩|⟨s,cap,rfl,q1,q2,q3,q4,q5⟩
  .cases e
  .simp only[PV.sl.injEq]at e;omega
theorem TB.keepK(a:TB b h Q O L nP nC len r s vO vP vC)(H:6<=k)(J:k≠7)(I:h.next<=h'.next)(G:∀t,t<b->h'.obj t=h.obj t)(D:∀t,t<h.next->L t≠k->h'.obj t=h.obj t)(u:∀t,t<h.next->L' t=L t):TB b h' Q O L' nP nC len r s vO vP vC:=
 ⟨by rw[G r a.hr];exact a.res,a.hr,by rw[D s a.ns.2 (by rw[a.ls];exact Ne.symm J)];exact a.ob,a.pw.keepK H I (λt _ l E=>D t l E) λt l _=>u t l,by rw[u s a.ns.2];exact a.ls,⟨a.ns.1,by have:=a.ns.2;omega⟩⟩
theorem zCx{u:Nat}{cap:Cap}(l:h.obj u=some [c]):ZY 1 h (.sl u 0 1 cap) 1=some [c]:=by
 rw[ZH,if_neg (by decide),if_pos (na _),zZ l];rfl
theorem PW.pushO{I:PV×PHeap->Prop}{y:Int}(a:PW L b h Q O nP nC len vO vP vC)(hk:Keep σ h)(hb:σ.next<=b)(vJ:b<=h.next)(hn:O.length<=1048576)
  (kk:∀H h' L',Keep σ h'->PW L' b h' Q (O++[y]) nP nC len H vP vC->h.next<h'.next->(∀t,t<b->h'.obj t=h.obj t)->(∀t,t<h.next->7<=L t->h'.obj t=h.obj t/\L' t=L t)->I (H,h')):optK (qB 1 8 (h.new [.int .i64 y]) vO (.sl h.next 0 1 (.known 1))) I:=by
 obtain⟨s,cap,rfl,Y,Z,h3,h4,h5⟩:=a.hO;have acc:PAcc b 1 h (.sl s 0 O.length cap) O.length (pis O):=.inr ⟨s,cap,rfl,Y,Z,by rw[zJ,Nat.mul_one],h3,h4⟩;refine PAcc.pushS hk (acc.low hb) rfl (by omega) (by omega) λH h' k1 T R n1 l1=>?_;obtain⟨D,J,rfl,V,W,g3,g4,X⟩:=T;have U:h.next<=D:=by
  rcases YG D h.next with q|q
  .exact absurd rfl (n1 D q 0 _ J)
  .exact q
 have S:∀t,t<h.next->L t≠5->h'.obj t=h.obj t:=λt u E=>R t u λoff l c e=>E (by simp only[PV.sl.injEq]at e;rw[<-e.1];exact h5);have N:∀t,b<=t->t<h.next->L t≠5->h'.obj t=h.obj t:=λt _ u E=>S t u E;have G:∀t,t<h.next->L t≠5->mkM L D 5 t=L t:=λt u _=>qa U t u;have hx:pis O++[.int .i64 y]=pis (O++[y]):=by simp[pis]
 refine kk _ h' (mkM L D 5) k1 ⟨⟨D,J,by simp,by simpa using V,by rw[W,hx],by omega,X,QF⟩,a.hP.imp id λa=>a.keepK (k:=5) (by decide) (by decide) (by omega) N G,a.hC.imp id λa=>a.keepK (k:=5) (by decide) (by decide) (by decide) (by omega) N G⟩ l1 (λt u=>?_) λt u h7=>⟨S t u (by omega),G t u (by omega)⟩
 exact R t (by omega) λoff l c e=>by simp only[PV.sl.injEq]at e;omega
theorem PW.setO{y:Int}(a:PW L b h Q O nP nC len vO vP vC)(N:i<O.length):∃l cap,vO=.sl l 0 O.length cap/\b<=l/\l<h.next/\L l=5/\h.wr l i [.int .i64 y]=some (h.set l (pis (O.set i y)))/\PW L b (h.set l (pis (O.set i y))) Q (O.set i y) nP nC len vO vP vC:=by
 obtain⟨s,cap,rfl,I,J,D,E,u⟩:=a.hO;have G:∀t,b<=t->t<h.next->L t≠5->(h.set s (pis (O.set i y))).obj t=h.obj t:=λt _ R H=>by rw[zG,if_neg λe=>H (by rw[e];exact u)]
 refine⟨s,cap,rfl,D,E,u,zDM J N,⟨s,cap,by rw[YC],by rw[YC];exact I,by rw[zG,if_pos rfl],D,E,u⟩,a.hP.imp id λa=>a.keepK (k:=5) (by decide) (by decide) (na _) G λ_ _ _=>rfl,a.hC.imp id λa=>a.keepK (k:=5) (by decide) (by decide) (by decide) (na _) G λ_ _ _=>rfl⟩
theorem PW.putMat{m:Nat}(a:PW L b h Q O nP nC len vO vP vC)(hi:i<nC)(E:MatAt L h b Q 6 m c):∃u cap T L' S,vC=.sl u 0 nC cap/\b<=u/\u<h.next/\L u=4/\h.wr u i [c]=some (h.set u T)/\
  PW L' b (h.set u T) Q O nP nC S vO vP vC/\(∀t,7<=L t->L' t=L t)/\∀j,S j=if j=i then m else len j:=by
 obtain⟨s0,I,GY,rfl,z1,z2,z3,z4,z5,Y,z7⟩:=E;rcases a.hC with ⟨e,_⟩|⟨s,cap,cs,rfl,h1,h2,h3,U,V,H,h7⟩
 .omega
 have D:∀t,L t≠6->mkM L s0 3 t=L t:=λt N=>if_neg λe=>N (by rw[e];exact Y);have J:∀t,L t≠4->(h.set s (cs.set i (.sl s0 0 m I))).obj t=h.obj t:=λt N=>by rw[zG,if_neg λe=>N (by rw[e];exact H)]
 have X:∀{d:PV},RowAt L h b Q d->RowAt (mkM L s0 3) (h.set s (cs.set i (.sl s0 0 m I))) b Q d:=λ{d} ⟨x,q,s,cap,e,r1,r2,r3,G,l⟩=>
  ⟨x,q,s,cap,e,r1,by rw[J s (by rw[l];decide)];exact r2,r3,G,by rw[D s (by rw[l];decide)];exact l⟩
 have W:∀{j m:Nat} {d:PV},j≠4->j≠6->MatAt L h b Q j m d->MatAt (mkM L s0 3) (h.set s (cs.set i (.sl s0 0 _ I))) b Q j m d:=λ{j m d} Fv Z ⟨s,cap,cs,e,r1,r2,r3,G,l,R,r7⟩=>
  ⟨s,cap,cs,e,r1,by rw[J s (by rw[R];exact Fv)];exact r2,r3,G,l,by rw[D s (by rw[R];exact Z)];exact R,λc E=>X (r7 c E)⟩
 refine⟨s,cap,_,mkM L s0 3,λj=>if j=i then m else len j,rfl,U,V,H,zCQ h2 (by omega) rfl,⟨?_,a.hP.imp id (W (by decide) (by decide)),.inr ⟨s,cap,_,rfl,h1,by rw[zG,if_pos rfl],by rw[YC];exact h3,U,V,by rw[D s (by rw[H];decide)];exact H,λj d hd=>?_⟩⟩,λt ht=>D t (by omega),λj=>rfl⟩
 .obtain⟨s,cap,e,r1,r2,r3,G,l⟩:=a.hO;exact⟨s,cap,e,r1,by rw[J s (by rw[l];decide)];exact r2,r3,G,by rw[D s (by rw[l];decide)];exact l⟩
 .rw[Yi]at hd;by_cases e:i=j
  .subst e;rw[if_pos rfl,if_pos (by omega)]at hd;cases hd;simp only[if_true];exact⟨s0,I,GY,rfl,z1,by rw[J s0 (by rw[Y];decide)];exact z2,z3,z4,z5,QF,λc E=>X (z7 c E)⟩
  .rw[if_neg e]at hd;simp only[if_neg (Ne.symm e)];exact W (by decide) (by decide) (h7 j d hd)
theorem RowAt.weak(a:RowAt L h b Q v)(l:∀m,Q m->Q' m):RowAt L h b Q' v:=by
 obtain⟨x,q,a⟩:=a;exact⟨x,l _ q,a⟩
theorem MatAt.weak(a:MatAt L h b Q k n v)(N:∀m,Q m->Q' m):MatAt L h b Q' k n v:=by
 obtain⟨s,cap,cs,e,l,u,D,E,G,H,I⟩:=a;exact⟨s,cap,cs,e,l,u,D,E,G,H,λc J=>(I c J).weak N⟩
theorem PW.weak(a:PW L b h Q O nP nC len vO vP vC)(l:∀m,Q m->Q' m):PW L b h Q' O nP nC len vO vP vC:=
 ⟨a.hO,a.hP.imp id λa=>a.weak l,a.hC.imp id λ⟨s,cap,cs,e,u,D,E,G,H,I,J⟩=>⟨s,cap,cs,e,u,D,E,G,H,I,λi c N=>(J i c N).weak l⟩⟩
theorem TB.weak(a:TB b h Q O L nP nC len r s vO vP vC)(l:∀m,Q m->Q' m):TB b h Q' O L nP nC len r s vO vP vC:=⟨a.res,a.hr,a.ob,a.pw.weak l,a.ls,a.ns⟩
theorem TB.wroteO{l:V1}{L':Nat->Nat}{D E:Nat}{u:Nat->Nat}(a:TB b h Q O L nP nC len r s vO vP vC)(I:b<=t)(G:L t≠7)(H:L' s=L s){cs:List PV}(p:PW L' b (h.set t cs) Q l D E u vO vP vC):TB b (h.set t cs) Q l L' D E u r s vO vP vC:=
 ⟨by rw[zG,if_neg (by have:=a.hr;omega)];exact a.res,a.hr,by rw[zG,if_neg (λe=>G (by rw[<-e];exact a.ls))];exact a.ob,p,by rw[H];exact a.ls,a.ns⟩
structure SmP(O:V1)(P:V2)(C:V3):Prop where
 o:O.length<=64
 ob:∀a∈O,-1000<=a/\a<=1000
 p:P.length<=64
 pr:∀r∈P,r.length<=64
 c:C.length<=64
 q:∀q∈C,q.length<=64
 r:∀q∈C,∀r∈q,r.length<=64
theorem PQ3.sm{N:Nat}(a:PQ3 (λm=>m<=N) P C nP nC len)(R:N<=64)(G:O.length<=64)(J:∀a∈O,-1000<=a/\a<=1000)(H:nP<=64)(E:nC<=64)(I:∀i,i<nC->len i<=64):SmP O P C:=
 ⟨G,J,by rw[a.pl];exact H,λr D=>by have:r.length<=N:=a.pq r D;omega,by rw[a.cl];exact E,λq u=>by
  obtain⟨i,l,rfl⟩:=YE.1 u
  have:=a.row i (by rw[<-a.cl];exact l)
  rw[YB,YQ l]at this;have e:C[i].length=len i:=this;rw[e];exact I i (by rw[<-a.cl];exact l),λq u r D=>by have:r.length<=N:=a.cq q u r D;omega⟩
end
section
variable{b s:Nat}{L L':Nat->Nat}{Q Q':Nat->Prop}{len:Nat->Nat}{cs:List PV}
theorem TB.step{I J:Nat}{G:Nat->Nat}{E:V1}{u D l:PV}(a:TB b h Q O L nP nC len r s vO vP vC)(S:PW L' b h' Q E I J G u D l)(U:h.next<=h'.next)(N:∀t,t<b->h'.obj t=h.obj t)(R:∀t,t<h.next->7<=L t->h'.obj t=h.obj t/\L' t=L t):
  h'.obj s=some [vO,vP,vC]/\TB b (h'.set s [u,D,l]) Q E L' I J G r s u D l:=by
 have hs:=R s a.ns.2 (by rw[a.ls];exact na _);have ls:L' s=7:=by rw[hs.2];exact a.ls
 have H:=a.hr;have T:=a.ns;exact⟨by rw[hs.1];exact a.ob,⟨by rw[zG,if_neg (by omega),N r H];exact a.res,H,by rw[zG,if_pos rfl],S.set7 (by rw[ls];exact na _) _,ls,⟨T.1,by show s<h'.next;omega⟩⟩⟩
theorem zG1(l:Shp O P C):(∀q∈C,q.length<=6/\∀r∈q,r.length=O.length)/\∀r∈P,r.length=O.length:=by
 have N:=l.le;refine⟨λq I=>?_,λr D=>?_⟩
 .obtain⟨i,u,rfl⟩:=YE.1 I;have J:i<O.length:=by rw[<-l.cl];exact u
  have E:C.getD i []=C[i]:=by rw[YB,YQ u];rfl
  have H:=l.row i J;rw[E]at H;refine⟨by omega,λr D=>?_⟩;obtain⟨k,G,rfl⟩:=YE.1 D
  have:=(l.cj i (i+1+k) (by omega) (by omega)).len
  unfold cvec at this;rw[E,show i+1+k-i-1=k by omega,YB,YQ G]at this;exact this
 .obtain⟨i,u,rfl⟩:=YE.1 D
  have:=(l.pw i (by rw[<-l.pl];exact u)).len
  unfold pvec at this;rw[YB,YQ u]at this;exact this
theorem zL4(so:So σ s0 vS bs)(hR:IsPr vO vP vC O P C)(hp:qE O P C)
  (hk:∀E G D O' P' C' σ',IsPr E G D O' P' C'->SmP O' P' C'->Mv σ s0 σ'->So σ' s0 vS bs->K (.agg [E,G,D]) σ'):zA Tryz.prog 195 [.ptr s0 0,.agg [vO,vP,vC]] σ K:=by
 have sh:=hp.shp;have be:=sh.le;have g0:=hR.O.one;have l:=hR.P.one;have g2:=hR.C.one;have ah:=so.lt;obtain⟨AH,Gd⟩:=zG1 sh;have fU:∀a∈O,-1000<=a/\a<=1000:=λa ha=>by
  have:=hp.2.2.2.1 a ha
  rcases this with h|h|h|h<;>omega
 refine zA.gh ?_;refine Zn mix Tryz.func195 cf195 rfl ?_;dsimp only[if195,eI,nI,qD,eD,mI0,lI0,LI0,fI0,cI0,sI0,C1,mD0,lD0,fD0,I0,G0,aI0,yI0,vI0,wD0,R0,S0];simp only[Z3,seval,-ae,g0,l,g2];generalize hH:((σ.new [vO,vP,vC]).new [PV.fz true AV.nils 0 [],PV.fz true AV.nils 0 [],PV.fz true AV.nils 0 []])=H;have eX:H.next=σ.next+2:=by rw[<-hH];rfl
 have kH:Keep σ H:=by rw[<-hH];exact(zC _ _).new _
 have di:H.obj (σ.next+1)=some [PV.fz true AV.nils 0 [],PV.fz true AV.nils 0 [],PV.fz true AV.nils 0 []]:=by rw[<-hH];simp only[Z3,seval,-ae]
 clear hH;refine zFI (Q:=λm=>m<=6) hR (by omega) (by rw[sh.pl];omega) (by rw[sh.cl];omega) (λq hq=>by have:=(AH q hq).1;omega) (λr hr=>by rw[Gd r hr];omega) (λq hq r hr=>by rw[(AH q hq).2 r hr];omega) (λm hm=>by omega) λL h uO uP uC k1 p1=>?_;have dQ:=k1.next;have p2:PW L H.next h (λm=>m<=6) O O.length O.length (λi=>O.length-1-i) uO uP uC:=by
  rw[sh.pl,sh.cl]at p1;exact p1.lenE λi hi=>sh.row i hi
 clear p1;obtain⟨fD,bw,eO,-⟩:=p2.hO;subst eO;have a:=TB.start p2 (r:=σ.next+1) (by omega) (by rw[k1.obj _ (by omega)];exact di) dQ;have eQ:KM σ s0 (h.new [.sl fD 0 O.length bw,uP,uC]):=so.kmK ((kH.trans k1).new _);have dh:So (h.new [.sl fD 0 O.length bw,uP,uC]) s0 vS bs:=so.keep ((kH.trans k1).new _);simp only[Z3,seval,-ae,p2.hP.one,p2.hC.one];have fF:s0≠σ.next+1:=by omega
 have cA:s0<H.next:=by omega
 have eH:h.next<(h.new [.sl fD 0 O.length bw,uP,uC]).next:=YP _;have fin:∀{g:PHeap} {L':Nat->Nat} {b':Nat} {Q':Nat->Prop} {O':V1} {nP nC:Nat} {len:Nat->Nat} {E G D:PV},σ.next+1<b'->KM σ s0 g->So g s0 vS bs->g.obj (σ.next+1)=some [PV.fz true AV.nils 0 [],PV.fz true AV.nils 0 [],PV.fz true AV.nils 0 []]->g.obj h.next=some [E,G,D]->
   PW L' b' g Q' O' nP nC len E G D->(∀P' C',PQ3 Q' P' C' nP nC len->SmP O' P' C')->g.rd h.next 0 3=some [E,G,D]/\g.wr (σ.next+1) 0 [E,G,D]=some (g.set (σ.next+1) [E,G,D])/\(g.set (σ.next+1) [E,G,D]).rd (σ.next+1) 0 3=some [E,G,D]/\Gh σ K (.agg [E,G,D]) (g.set (σ.next+1) [E,G,D]):=λ{g L' b' Q' O' nP nC len E G D} hb km bW hr hs p sm=>
  ⟨by rw[zZ hs];rfl,by rw[zT hr,if_pos ⟨by simp,by simp[p.hO.one,p.hP.one,p.hC.one]⟩];rfl,by rw[qH,if_pos rfl];rfl,(p.set (by omega) _).finKM (km.set (by omega) _) (bW.set (by omega) _) ah (by omega) λE G D P C σ' x1 x2 x3 x4=>hk E G D O' P C σ' x1 (sm P C x2) x3 x4⟩
 have fy:∀{g:PHeap} {L':Nat->Nat} {O':V1} {len:Nat->Nat} {E G D:PV},KM σ s0 g->So g s0 vS bs->TB H.next g (λm=>m<=7) O' L' O.length O.length len (σ.next+1) h.next E G D->O'.length<=64->(∀a∈O',-1000<=a/\a<=1000)->(∀i,i<O.length->len i<=64)->g.rd h.next 0 3=some [E,G,D]/\g.wr (σ.next+1) 0 [E,G,D]=some (g.set (σ.next+1) [E,G,D])/\(g.set (σ.next+1) [E,G,D]).rd (σ.next+1) 0 3=some [E,G,D]/\Gh σ K (.agg [E,G,D]) (g.set (σ.next+1) [E,G,D]):=λ{g L' O' len E G D} km bW a h1 u V=>
  fin (by omega) km bW a.res a.ob a.pw λP' C' q=>q.sm (by omega) h1 u (by omega) (by omega) V
 generalize h.new [PV.sl fD 0 O.length bw,uP,uC]=g at *
 generalize mkM L h.next 7=L1 at *
 refine zV dh (by decide) λx1 l gD m1 bu=>?_;have I:=a.mv cA fF m1;have bZ:=eQ.mv ah m1;have JT:=gD.1;have JS:x1<6:=gD.2.2 (by decide);have EA:h.next<l.next:=by rw[m1.next];exact eH
 clear a eQ dh m1 gD;have kq:∀m,m<=6->m<=7:=λm hm=>by omega
 obtain⟨σ',m',bW,kp,B2⟩:=kmSo bZ bu ah;have gO:∀i,i<O.length->(λi=>O.length-1-i) i<=64:=λi hi=>by show O.length-1-i<=64;omega
 by_cases e0:x1=0
 .subst e0;have n1:¬h.next=l.next:=by omega
  simp only[Z3,seval,-ae,I.r0,n1];refine PW.pushO (σ:=σ') (I.weak kq).pw kp (by omega) (by omega) (by omega) λv2 u L2 J sI l2 o2 q2=>?_;obtain⟨e1,a2⟩:=(I.weak kq).step sI (Y8 l2) o2 q2;have w:u.wr h.next 0 [v2]=some (u.set h.next [v2,uP,uC]):=by rw[zT e1,if_pos ⟨by simp,by simp[sI.hO.one]⟩];rfl
  have c9:KM σ s0 (u.set h.next [v2,uP,uC]):=KM.set ⟨σ',m',J⟩ (by omega) _;have cQ:So (u.set h.next [v2,uP,uC]) s0 vS bs:=(bW.keep J).set (by omega) _;generalize u.set h.next [v2,uP,uC]=g2 at *
  obtain⟨R,S,T,U⟩:=fy c9 cQ a2 (by simp;omega) (λa ha=>by
   rcases YY.1 ha with h|h
   .exact fU a h
   .rw[YN.1 h];decide) gO
  simp only[Z3,seval,-ae,w,sI.hO.cells,R,S,T];exact U
 by_cases e1:x1=1
 .subst e1;by_cases Y:0<O.length;rotate_left
  .have X:¬(0:Int)<(O.length:Int):=by omega
   obtain⟨R,S,T,U⟩:=fy bZ bu (I.weak kq) (by omega) fU gO;simp only[Z3,seval,-ae,I.r0,X,R,S,T];exact U
  have X:(0:Int)<(O.length:Int):=by omega
  have n1:¬h.next=l.next:=by omega
  simp only[Z3,seval,-ae,I.r0,X,Y,n1];refine QU (t:=l.next) (xs:=[4,1,11,0,-2]) (bu.keep (zC _ _)) (by omega) (by rw[zH,if_pos rfl];rfl) (by decide) λy g2 hy m2 cQ=>?_;have a2:=(I.new _).mv cA fF m2;have c9:=(bZ.new _).mv ah m2;obtain⟨bW,aG,e,hb,R1,L5,w,p⟩:=(a2.weak kq).pw.setO (y:=y) Y;simp only[PV.sl.injEq]at e;obtain⟨rfl,-,-,rfl⟩:=e;have a3:=(a2.weak kq).wroteO hb (by omega) rfl p;have fW:=c9.set (t:=fD) (by omega) (pis (O.set 0 y));have dK:=cQ.set (t:=fD) (by omega) (pis (O.set 0 y));generalize g2.set fD (pis (O.set 0 y))=g3 at *
  obtain⟨R,S,T,U⟩:=fy fW dK a3 (by simp;omega) (λa ha=>by
   rcases List.mem_or_eq_of_mem_set ha with h|rfl
   .exact fU a h
   .simp at hy;omega) gO
  have o0:g3.rd1 h.next 0=some (.sl fD 0 O.length bw):=a3.r0;simp only[Z3,seval,-ae,a2.r0,w,Y,X,R,S,T];exact U
 by_cases e2:x1=2
 .subst e2;by_cases Y:0<O.length;rotate_left
  .have X:¬(0:Int)<(O.length:Int):=by omega
   obtain⟨R,S,T,U⟩:=fy bZ bu (I.weak kq) (by omega) fU gO;simp only[Z3,seval,-ae,I.r1,I.pw.hP.pLen,X,R,S,T];exact U
  have X:(0:Int)<(O.length:Int):=by omega
  obtain⟨sP,capP,cs,eP,h1,u,V,h4,h5,h6⟩:=I.pw.powers Y;subst eP;obtain⟨x,q,t,dH,e,q1,q2,q3,q4,q5⟩:=h6 _ (YK (by omega:0<cs.length));have rd:l.rd1 sP 0=some (.sl t 0 x.length dH):=by rw[zI h1,YQ (by omega),e]
  have n1:¬h.next=l.next:=by omega
  have n2:¬sP=l.next:=by omega
  simp only[Z3,seval,-ae,I.r1,X,Y,n1,n2,rd];refine zCd (by rw[zH,if_neg (by omega)];exact q2) (by show t<l.next+1;omega) (by omega) λbE cY=>?_;have n3:¬h.next=l.next+1:=by omega
  simp only[Z3,seval,-ae,I.r1,n1,n3];have hf:ZY 1 ((l.new [PV.int IntKind.i64 0]).new (pis x)) (.sl l.next 0 1 (.known 1)) 1=some [PV.int IntKind.i64 0]:=by
   have:((l.new [PV.int IntKind.i64 0]).new (pis x)).obj l.next=some [PV.int IntKind.i64 0]:=by rw[zH,if_neg (show ¬l.next=(l.new [PV.int IntKind.i64 0]).next fromλe=>by have:l.next=l.next+1:=e;omega),zH,if_pos rfl]
   rw[ZH,if_neg (by decide),if_pos (na _),zZ this];rfl
  refine PAcc.app (σb:=l.new [.int .i64 0]) (b:=0) (n:=x.length) (m:=1) (cs:=pis x) (news:=[.int .i64 0]) (zC _ _) (YW _) (.inr ⟨l.next+1,bE,rfl,cY,by rw[zH];exact if_pos rfl,by rw[zJ];omega,na _,YP _⟩) rfl (λ_=>hf) rfl (by omega) (by omega) λv2 gw J _ aS=>?_;obtain⟨s',aG,rfl,z1,z2,z3,z4,z5⟩:=aS (by omega);have PF:l.next+1<=s':=z4;have kk:=(zC l [PV.int .i64 0]).trans J;have a2:TB H.next gw (λm=>m<=7) O (mkM L1 s' 1) O.length O.length (λi=>O.length-1-i) (σ.next+1) h.next (.sl fD 0 O.length bw) (.sl sP 0 O.length capP) uC:=(I.weak kq).keepL kk.next (kk.obj _ I.rlt) (λt _ ht=>kk.obj t ht) (qa (by omega));have aL:RowAt (mkM L1 s' 1) gw H.next (λm=>m<=7) (.sl s' 0 (x.length+1) aG):=⟨x++[0],by simp;omega,s',aG,by simp,by simpa using z1,by rw[z2];simp[pis],by omega,z5,QF⟩
  obtain⟨Ds,Bn,ds,e',b1,b2,w,a3⟩:=a2.putP Y aL;simp only[PV.sl.injEq]at e';obtain⟨rfl,-,-,rfl⟩:=e';have c9:KM σ s0 (gw.set sP ds):=KM.set (bZ.keep kk) (by omega) ds;have cQ:So (gw.set sP ds) s0 vS bs:=(bu.keep kk).set (by omega) ds;have BD:gw.rd1 h.next 1=some (.sl sP 0 O.length capP):=a2.r1;generalize gw.set sP ds=g3 at *
  obtain⟨R,S,T,U⟩:=fy c9 cQ a3 (by omega) fU gO;simp only[Z3,seval,-ae,BD,w,Y,X,R,S,T];exact U
 by_cases e3:x1=3
 .subst e3;by_cases Y:0<O.length;rotate_left
  .have X:¬(0:Int)<(O.length:Int):=by omega
   obtain⟨R,S,T,U⟩:=fy bZ bu (I.weak kq) (by omega) fU gO;simp only[Z3,seval,-ae,I.r1,I.pw.hP.pLen,X,R,S,T];exact U
  have X:(0:Int)<(O.length:Int):=by omega
  obtain⟨sP,capP,cs,eP,h1,u,V,h4,h5,h6⟩:=I.pw.powers Y;subst eP;obtain⟨x,q,t,dH,e,q1,q2,q3,q4,q5⟩:=h6 _ (YK (by omega:0<cs.length));have rd:l.rd1 sP 0=some (.sl t 0 x.length dH):=by rw[zI h1,YQ (by omega),e]
  by_cases eR:0<x.length;rotate_left
  .have s4:¬(0:Int)<(x.length:Int):=by omega
   obtain⟨R,S,T,U⟩:=fy bZ bu (I.weak kq) (by omega) fU gO;simp only[Z3,seval,-ae,I.r1,X,Y,rd,s4,R,S,T];exact U
  have s4:(0:Int)<(x.length:Int):=by omega
  obtain⟨w,p⟩:=(I.weak kq).pw.setRow (y:=1) q2 eR q5;have a3:=(I.weak kq).wrote q3 (by omega) p;have c9:=bZ.set (t:=t) (by omega) (pis (x.set 0 1));have cQ:=bu.set (t:=t) (by omega) (pis (x.set 0 1));generalize l.set t (pis (x.set 0 1))=g3 at *
  obtain⟨R,S,T,U⟩:=fy c9 cQ a3 (by omega) fU gO;simp only[Z3,seval,-ae,I.r1,X,Y,rd,s4,eR,w,R,S,T];exact U
 by_cases e4:x1=4
 .subst e4;by_cases Y:0<O.length;rotate_left
  .have X:¬(0:Int)<(O.length:Int):=by omega
   obtain⟨R,S,T,U⟩:=fy bZ bu (I.weak kq) (by omega) fU gO;simp only[Z3,seval,-ae,I.r2,I.pw.hC.pLen,X,R,S,T];exact U
  have X:(0:Int)<(O.length:Int):=by omega
  have aw:=I.weak kq;obtain⟨ee,-⟩|⟨sC,capC,ms,eC,z1,z2,z3,z4,z5,z6,z7⟩:=aw.pw.hC
  .omega
  subst eC;have ga:=z7 0 _ (YQ (by omega:0<ms.length));have q1:l.rd1 sC 0=some ms[0]:=by rw[zI z2,YQ (by omega)]
  obtain⟨t,dH,cs,et,y1,y2,y3,y4,y5,y6,y7⟩:=ga;rw[et]at q1;have ga:MatAt L1 l H.next (λm=>m<=7) 3 (O.length-1-0) (.sl t 0 (O.length-1-0) dH):=⟨t,dH,cs,rfl,y1,y2,y3,y4,y5,y6,y7⟩
  have Ok:H.next<=l.next:=by omega
  have n1:¬h.next=l.next:=by omega
  have n2:¬sC=l.next:=by omega
  have n3:¬h.next=l.next+1:=by omega
  have n4:¬sC=l.next+1:=by omega
  have aZ:=aw.fresh (pis (List.replicate O.length 0)) 1;have kZ:=zC l (pis (List.replicate O.length 0));have rZ:RowAt (mkM L1 l.next 1) (l.new (pis (List.replicate O.length 0))) H.next (λm=>m<=7) (.sl l.next 0 O.length (.known O.length)):=by
   have:=RowAt.fresh (L:=L1) (h:=l) (b:=H.next) (Q:=λm=>m<=7) (x:=List.replicate O.length 0) (cap:=.known O.length) Ok (by simp;omega) (by simp[full])
   simpa using this
  have mZ:=ga.keep (L':=mkM L1 l.next 1) (h':=l.new (pis (List.replicate O.length 0))) (UQ _) (λt _ ht=>by rw[zH,if_neg (by omega)]) (qa (na _));simp only[Z3,seval,-ae,I.r2,I.r0,X,Y,q1,n1,n2,n3,n4,zf,zGV,TVp_e,TVp_q,QB,QA,mk8 (n:=O.length) (by omega),Go.Ab.mkL (n:=O.length) (by omega)];have sQ:∀bT:Nat->Nat,(∀j,bT j=if j=0 then O.length-1-0+1 else O.length-1-j)->∀i,i<O.length->bT i<=64:=λbT hl i hi=>by rw[hl i];split<;>omega
  refine⟨?_,?_,?_⟩
  .refine zDj (L:=L1) (k:=6) ga (by omega) (λm hm=>by omega) (by decide) (by omega) λL2 u v2 J e2 m2=>?_;have vi:=J.next;have a2:=aw.keepL J.next (J.obj _ aw.rlt) (λt _ ht=>J.obj t ht) e2;have q2:u.rd1 sC 0=some (.sl t 0 (O.length-1-0) dH):=by unfold PHeap.rd1;rw[J.obj sC z5];exact q1
   have n5:¬h.next=u.next:=by omega
   have n6:¬sC=u.next:=by omega
   have n7:¬h.next=u.next+1:=by omega
   have n8:¬sC=u.next+1:=by omega
   have aY:=(a2.fresh (pis (List.replicate O.length 0)) 1).new [PV.sl u.next 0 O.length (.known O.length)];have rY:RowAt (mkM L2 u.next 1) (u.new (pis (List.replicate O.length 0))) H.next (λm=>m<=7) (.sl u.next 0 O.length (.known O.length)):=by
    have:=RowAt.fresh (L:=L2) (h:=u) (b:=H.next) (Q:=λm=>m<=7) (x:=List.replicate O.length 0) (cap:=.known O.length) (by omega) (by simp;omega) (by simp[full])
    simpa using this
   have kY:Keep l ((u.new (pis (List.replicate O.length 0))).new [PV.sl u.next 0 O.length (.known O.length)]):=(J.new _).new _;have mY:=m2.keep (L':=mkM L2 u.next 1) (h':=(u.new (pis (List.replicate O.length 0))).new [PV.sl u.next 0 O.length (.known O.length)]) (by show u.next<=u.next+1+1;omega) (λt _ ht=>by rw[zH,if_neg (by show ¬t=u.next+1;omega),zH,if_neg (by omega)]) (qa (na _));have xj:=rY.keep (L':=mkM L2 u.next 1) (h':=(u.new (pis (List.replicate O.length 0))).new [PV.sl u.next 0 O.length (.known O.length)]) (UQ _) (λt _ ht=>by rw[zH,if_neg (by show ¬t=u.next+1;have:t<u.next+1:=ht;omega)]) (λ_ _=>rfl);have oY:((u.new (pis (List.replicate O.length 0))).new [PV.sl u.next 0 O.length (.known O.length)]).obj (u.next+1)=some [PV.sl u.next 0 O.length (.known O.length)]:=by rw[zH];exact if_pos rfl
   simp only[Z3,seval,-ae,TVp_e,TVp_q,QB,QA,a2.r2,a2.r0,q2,n5,n6,n7,n8,X,Y,zf,mk8 (n:=O.length) (by omega),Go.Ab.mkL (n:=O.length) (by omega)];have N3:((u.new (pis (List.replicate O.length 0))).new [PV.sl u.next 0 O.length (.known O.length)]).next=u.next+2:=rfl;generalize ((u.new (pis (List.replicate O.length 0))).new [PV.sl u.next 0 O.length (.known O.length)])=gY at *
   refine MatN.pushG (σ:=σ') (.inr mY) (by decide) xj rfl (zCx oY) (kp.trans kY) (by omega) (by omega) (by omega) λv3 V L3 k3 m3 l3 AE oJ ml=>?_;have a3:=aY.keepK (k:=6) (na _) (by decide) (Y8 l3) ml oJ AE;obtain⟨Bz,si,ds,L4,bT,e',b1,b2,l4,w,p4,f7,nA⟩:=a3.pw.putMat Y m3;simp only[PV.sl.injEq]at e';obtain⟨rfl,-,-,rfl⟩:=e';have a4:=a3.wroteO b1 (by omega) (by rw[f7 _ (by rw[a3.ls];exact na _)]) p4;have c9:KM σ s0 (V.set sC ds):=KM.set ⟨σ',m',k3⟩ (by omega) _;have cQ:So (V.set sC ds) s0 vS bs:=(bW.keep k3).set (by omega) _;have sF:=a3.r2;generalize V.set sC ds=g3 at *
   obtain⟨R,S,T,U⟩:=fy c9 cQ a4 (by omega) fU (sQ bT nA);simp only[Z3,seval,-ae,TVp_e,TVp_q,QB,QA,sF,w,Y,X,m3.cells,R,S,T];exact U
  .generalize Au:l.new (pis (List.replicate O.length 0))=Z at *
   have IJ:Z.next=l.next+1:=by rw[<-Au];rfl
   refine zDj (L:=mkM L1 l.next 1) (k:=6) mZ (by omega) (λm hm=>by omega) (by decide) (by omega) λL2 u v2 J e2 m2=>?_;have vi:=J.next;have a2:=aZ.keepL J.next (J.obj _ aZ.rlt) (λt _ ht=>J.obj t ht) e2;have q2:u.rd1 sC 0=some (.sl t 0 (O.length-1-0) dH):=by unfold PHeap.rd1;rw[J.obj sC (by omega),<-Au,zH,if_neg n2];exact q1
   have n5:¬h.next=u.next:=by omega
   have n6:¬sC=u.next:=by omega
   have aY:=a2.new [PV.sl l.next 0 O.length (.known O.length)];have kY:Keep l (u.new [PV.sl l.next 0 O.length (.known O.length)]):=(kZ.trans J).new _;have mY:=m2.keep (L':=L2) (h':=u.new [PV.sl l.next 0 O.length (.known O.length)]) (UQ _) (λt _ ht=>by rw[zH,if_neg (by omega)]) (λ_ _=>rfl);have xj:=rZ.keep (L':=L2) (h':=u.new [PV.sl l.next 0 O.length (.known O.length)]) (by show Z.next<=u.next+1;omega) (λt _ ht=>by rw[zH,if_neg (by omega),J.obj t ht]) e2;have oY:(u.new [PV.sl l.next 0 O.length (.known O.length)]).obj u.next=some [PV.sl l.next 0 O.length (.known O.length)]:=by rw[zH,if_pos rfl]
   simp only[Z3,seval,-ae,TVp_e,TVp_q,QB,QA,a2.r2,a2.r0,q2,n5,n6,X,Y];have N3:(u.new [PV.sl l.next 0 O.length (.known O.length)]).next=u.next+1:=rfl;generalize (u.new [PV.sl l.next 0 O.length (.known O.length)])=gY at *
   refine MatN.pushG (σ:=σ') (.inr mY) (by decide) xj rfl (zCx oY) (kp.trans kY) (by omega) (by omega) (by omega) λv3 V L3 k3 m3 l3 AE oJ ml=>?_;have a3:=aY.keepK (k:=6) (na _) (by decide) (Y8 l3) ml oJ AE;obtain⟨Bz,si,ds,L4,bT,e',b1,b2,l4,w,p4,f7,nA⟩:=a3.pw.putMat Y m3;simp only[PV.sl.injEq]at e';obtain⟨rfl,-,-,rfl⟩:=e';have a4:=a3.wroteO b1 (by omega) (by rw[f7 _ (by rw[a3.ls];exact na _)]) p4;have c9:KM σ s0 (V.set sC ds):=KM.set ⟨σ',m',k3⟩ (by omega) _;have cQ:So (V.set sC ds) s0 vS bs:=(bW.keep k3).set (by omega) _;have sF:=a3.r2;generalize V.set sC ds=g3 at *
   obtain⟨R,S,T,U⟩:=fy c9 cQ a4 (by omega) fU (sQ bT nA);simp only[Z3,seval,-ae,TVp_e,TVp_q,QB,QA,sF,w,Y,X,m3.cells,R,S,T];exact U
  .generalize Au:l.new (pis (List.replicate O.length 0))=Z at *
   have IJ:Z.next=l.next+1:=by rw[<-Au];rfl
   have aW:=aZ.new [PV.sl l.next 0 O.length (.known O.length)];have kW:=zC Z [PV.sl l.next 0 O.length (.known O.length)];have mW:=mZ.keep (L':=mkM L1 l.next 1) (h':=Z.new [PV.sl l.next 0 O.length (.known O.length)]) (UQ _) (λt _ ht=>by rw[zH,if_neg (by omega)]) (λ_ _=>rfl);have rW:=rZ.keep (L':=mkM L1 l.next 1) (h':=Z.new [PV.sl l.next 0 O.length (.known O.length)]) (UQ _) (λt _ ht=>by rw[zH,if_neg (by omega)]) (λ_ _=>rfl);have oW:(Z.new [PV.sl l.next 0 O.length (.known O.length)]).obj (l.next+1)=some [PV.sl l.next 0 O.length (.known O.length)]:=by rw[zH,if_pos IJ.symm]
   have q0:(Z.new [PV.sl l.next 0 O.length (.known O.length)]).rd1 sC 0=some (.sl t 0 (O.length-1-0) dH):=by unfold PHeap.rd1;rw[zH,if_neg (by omega),<-Au,zH,if_neg n2];exact q1
   have rF:(Z.new [PV.sl l.next 0 O.length (.known O.length)]).next=l.next+2:=by show Z.next+1=_;omega
   generalize Z.new [PV.sl l.next 0 O.length (.known O.length)]=W at *
   have Mt:sC<W.next:=by omega
   refine zDj (L:=mkM L1 l.next 1) (k:=6) mW (by omega) (λm hm=>by omega) (by decide) (by omega) λL2 gY v2 J e2 mY=>?_;have vi:=J.next;have aY:=aW.keepL J.next (J.obj _ aW.rlt) (λt _ ht=>J.obj t ht) e2;have q2:gY.rd1 sC 0=some (.sl t 0 (O.length-1-0) dH):=by unfold PHeap.rd1 at q0 ⊢;rw[J.obj sC Mt];exact q0
   have kY:Keep l gY:=(kZ.trans kW).trans J;have xj:=rW.keep (L':=L2) J.next (λt _ ht=>J.obj t ht) e2;have oY:gY.obj (l.next+1)=some [PV.sl l.next 0 O.length (.known O.length)]:=by rw[J.obj _ (by omega)];exact oW
   simp only[Z3,seval,-ae,TVp_e,TVp_q,QB,QA,aY.r2,aY.r0,q2,X,Y];refine MatN.pushG (σ:=σ') (.inr mY) (by decide) xj rfl (zCx oY) (kp.trans kY) (by omega) (by omega) (by omega) λv3 V L3 k3 m3 l3 AE oJ ml=>?_;have a3:=aY.keepK (k:=6) (na _) (by decide) (Y8 l3) ml oJ AE;obtain⟨Bz,si,ds,L4,bT,e',b1,b2,l4,w,p4,f7,nA⟩:=a3.pw.putMat Y m3;simp only[PV.sl.injEq]at e';obtain⟨rfl,-,-,rfl⟩:=e';have a4:=a3.wroteO b1 (by omega) (by rw[f7 _ (by rw[a3.ls];exact na _)]) p4;have c9:KM σ s0 (V.set sC ds):=KM.set ⟨σ',m',k3⟩ (by omega) _;have cQ:So (V.set sC ds) s0 vS bs:=(bW.keep k3).set (by omega) _;have sF:=a3.r2;generalize V.set sC ds=g3 at *
   obtain⟨R,S,T,U⟩:=fy c9 cQ a4 (by omega) fU (sQ bT nA);simp only[Z3,seval,-ae,TVp_e,TVp_q,QB,QA,sF,w,Y,X,m3.cells,R,S,T];exact U
 have wi:x1=5:=by omega
 subst wi;clear e0 e1 e2 e3 e4;have DH:=I.res;have DJ:=I.ob;have pC:∀{n:Nat} {P':V2} {C':V3} {O':V1},n<=7->O'.length=n->(∀a∈O',-1000<=a/\a<=1000)->PQ3 (λm=>m=n) P' C' n n (λj=>n-1-j)->SmP O' P' C':=λ{n P' C' O'} hn hl hb q=>
  (PQ3.sm (N:=n) ⟨q.pl,q.cl,λr hr=>UH (q.pq r hr),q.row,λa ha r hr=>UH (q.cq a ha r hr)⟩ (by omega) (by omega) hb (by omega) (by omega) λi hi=>by omega)
 simp only[Z3,seval,-ae];refine ZJ (s:=l.next) (O:=[7,7,7,7]) (by rw[zH,if_pos rfl];rfl) (YP _) (by decide) λL3 V E G D k3 p3=>?_;have kD:=k3.next;have MM:l.next+1<=V.next:=kD;have kg:=(zC l (pis [7,7,7,7])).trans k3;have o3:V.obj h.next=some [.sl fD 0 O.length bw,uP,uC]:=by rw[kg.obj _ EA];exact DJ
 have w3:V.wr h.next 0 [E,G,D]=some (V.set h.next [E,G,D]):=by rw[zT o3,if_pos ⟨by simp,by simp[p3.hO.one,p3.hP.one,p3.hC.one]⟩];rfl
 have p4:=p3.set (s:=h.next) (by show h.next<l.next+1;omega) [E,G,D];have fW:KM σ s0 (V.set h.next [E,G,D]):=(bZ.keep kg).set (by omega) _;have dK:So (V.set h.next [E,G,D]) s0 vS bs:=(bu.keep kg).set (by omega) _;have r4:(V.set h.next [E,G,D]).obj (σ.next+1)=some [PV.fz true AV.nils 0 [],PV.fz true AV.nils 0 [],PV.fz true AV.nils 0 []]:=by rw[zG,if_neg (by omega),kg.obj _ (by omega)];exact DH
 have o4:(V.set h.next [E,G,D]).obj h.next=some [E,G,D]:=by rw[zG,if_pos rfl]
 have Iw:(V.set h.next [E,G,D]).next=V.next:=rfl;simp only[Z3,seval,-ae,p3.hO.one,p3.hP.one,p3.hC.one,w3];generalize V.set h.next [E,G,D]=g4 at *
 refine zV dK (by decide) λx2 g5 iD m5 fR=>?_;have p5:PW L3 (l.new (pis [7,7,7,7])).next g5 (λm=>m=4) [7,7,7,7] 4 4 (λj=>4-1-j) E G D:=p4.mv (by show s0<l.next+1;omega) m5;have gA:=fW.mv ah m5;have r5:g5.obj (σ.next+1)=some [PV.fz true AV.nils 0 [],PV.fz true AV.nils 0 [],PV.fz true AV.nils 0 []]:=by rw[m5.obj (Ne.symm fF)];exact r4
 have o5:g5.obj h.next=some [E,G,D]:=by rw[m5.obj (by omega)];exact o4
 have R5:g5.next=g4.next:=m5.next;by_cases e2:x2=0;rotate_left
 .obtain⟨R,S,T,U⟩:=fin (by show σ.next+1<l.next+1;omega) gA fR r5 o5 p5 λP' C' q=>pC (by decide) rfl (by decide) q;simp only[Z3,seval,-ae,e2,R,S,T];exact U
 subst e2;simp only[Z3,seval,-ae];refine ZJ (s:=g5.next) (O:=[2,2,2,2,2,2,2]) (by rw[zH,if_pos rfl];rfl) (YP _) (by decide) λL6 h6 yO yP yC k6 p6=>?_;have MK:g5.next+1<=h6.next:=k6.next;have BL:=(zC g5 (pis [2,2,2,2,2,2,2])).trans k6;have o6:h6.obj h.next=some [E,G,D]:=by rw[BL.obj _ (by omega)];exact o5
 have w6:h6.wr h.next 0 [yO,yP,yC]=some (h6.set h.next [yO,yP,yC]):=by rw[zT o6,if_pos ⟨by simp,by simp[p6.hO.one,p6.hP.one,p6.hC.one]⟩];rfl
 have p7:PW L6 (g5.new (pis [2,2,2,2,2,2,2])).next (h6.set h.next [yO,yP,yC]) (λm=>m=7) [2,2,2,2,2,2,2] 7 7 (λj=>7-1-j) yO yP yC:=p6.set (s:=h.next) (by show h.next<g5.next+1;omega) [yO,yP,yC];have BJ:KM σ s0 (h6.set h.next [yO,yP,yC]):=(gA.keep BL).set (by omega) _;have uL:So (h6.set h.next [yO,yP,yC]) s0 vS bs:=(fR.keep BL).set (by omega) _;have r7:(h6.set h.next [yO,yP,yC]).obj (σ.next+1)=some [PV.fz true AV.nils 0 [],PV.fz true AV.nils 0 [],PV.fz true AV.nils 0 []]:=by rw[zG,if_neg (by omega),BL.obj _ (by omega)];exact r5
 have o7:(h6.set h.next [yO,yP,yC]).obj h.next=some [yO,yP,yC]:=by rw[zG,if_pos rfl]
 simp only[Z3,seval,-ae,p6.hO.one,p6.hP.one,p6.hC.one,w6];generalize h6.set h.next [yO,yP,yC]=g7 at *
 obtain⟨R,S,T,U⟩:=fin (by show σ.next+1<g5.next+1;omega) BJ uL r7 o7 p7 λP' C' q=>pC (by decide) rfl (by decide) q;simp only[Z3,seval,-ae,R,S,T];exact U
end
section
variable{b s:Nat}{cs:List PV}
theorem zAM{n:Int}(X:1<=n/\n<=1000)(Z:∀v xs t,FI v xs->xs.length<=9->(∀x∈xs,isP x)->K (.tup [v,.bool t]) σ):zA Tryz.prog 265 [.int .i64 n] σ K:=by
 refine zA.gh ?_;refine zD mix Tryz.func265 ?_;simp only[Z3,seval,-ae];refine zF (λm vs h=>∃(d l:Int) (v:PV) (xs:V1),2<=d/\d<=8/\m=(8-d).toNat/\vs=[.int .i64 l,v,.int .i64 d]/\1<=l/\2 ^ xs.length*l<=1000/\(∀x∈xs,isP x)/\Keep σ h/\PSl σ.next 1 h v xs.length (pis xs)) 6 ?_ ?_
 .exact⟨2,n,.sl σ.next 0 0 (.known 0),[],by decide,by decide,rfl,rfl,X.1,by simpa using X.2,λx hx=>(by cases hx),zC _ _,σ.next,.known 0,rfl,.inr rfl,by rw[zH,if_pos rfl];rfl,rfl,na _,YP _⟩
 rintro m vs h ⟨d,l,v,xs,hd,Sd,rfl,rfl,D,u,G,E,H⟩
 have hlen:∀{xs:V1} {l:Int},1<=l->(2:Int) ^ xs.length*l<=1000->xs.length<=9:=λ{xs l} I R=>by
  rcases YG xs.length 10 with q|q
  .omega
  .exfalso;have e:(2:Int) ^ xs.length ≥ 1024:=by
    obtain⟨r,hr⟩:∃r,xs.length=10+r:=⟨xs.length-10,by omega⟩
    rw[hr,Int.pow_add];have R:(1:Int)<=2 ^ r:=Int.pow_pos (by decide)
    have:(2:Int) ^ 10=1024:=by decide
    rw[this];omega
   have:(1024:Int)*1<=2 ^ xs.length*l:=Int.mul_le_mul e I (by decide) (by omega)
   omega
 simp only[Z3,seval,-ae];refine iteI (λh7=>?_) λh8=>?_;rotate_left
 .have V:=hlen D u;obtain⟨s,cap,rfl,q1,q2,q3,q4,q5⟩:=H;have e:(TR.tup [TR.row s cap xs,.leaf (.bool (decide (l=1)))]).pv=.tup [.sl s 0 xs.length cap,.bool (decide (l=1))]:=by simp only[TR.pv,TR.pvs,TR.row_pv]
  rw[<-e];refine Gh.treeF E (tr_okF ⟨TR.row_ok q1 q2 q4 q5,trivial,trivial⟩) λa=>?_
  have:=Z ((TR.row s cap xs).fz a) xs (decide (l=1)) TR.row_FI V G
  simpa only[TR.fz,TR.fzs]using this
 refine zF (λm vs h=>∃(l:Int) (v:PV) (xs:V1),m=l.toNat/\vs=[.int .i64 l,v,.int .i64 d]/\1<=l/\2 ^ xs.length*l<=1000/\(∀x∈xs,isP x)/\Keep σ h/\PSl σ.next 1 h v xs.length (pis xs)) l.toNat ?_ ?_
 .exact⟨l,v,xs,rfl,rfl,D,u,G,E,H⟩
 clear D u G E H
 rintro m vs h ⟨l,v,xs,rfl,rfl,D,u,G,E,H⟩
 have V:=hlen D u;have T:¬d=0:=by omega
 have out:∃U,U<(8-d).toNat/\∃(N n₁:Int) (v₁:PV) (J:V1),2<=N/\N<=8/\U=(8-N).toNat/\[PV.int .i64 l,v,PV.int .i64 (IntKind.i64.wrap (d+1))]=[PV.int .i64 n₁,v₁,PV.int .i64 N]/\1<=n₁/\2 ^ J.length*n₁<=1000/\(∀x∈J,isP x)/\Keep σ h/\PSl σ.next 1 h v₁ J.length (pis J):=
  ⟨_,by rw[show(8-d).toNat=(8-(d+1)).toNat+1 by omega];exact YP _,d+1,l,v,xs,by omega,by omega,rfl,by rw[wrap64 (by omega) (by omega)],D,u,G,E,H⟩
 simp only[Z3,seval,-ae];refine zAt ?_;by_cases S:isP d;rotate_left
 .simp only[Z3,seval,-ae,S,decide_false];exact out
 by_cases W:l.tmod d=0;rotate_left
 .simp only[Z3,seval,-ae,S,decide_true,T,W,decide_false];exact out
 simp only[Z3,seval,-ae,S,decide_true,T,W];refine PSl.push (σb:=σ) (bytes:=8) E H (by omega) (by omega) λv2 R k2 Y=>?_;have hdiv:l=d*(l.tdiv d):=by
  have:=Int.tmod_add_mul_tdiv l d
  omega
 have iH:1<=l.tdiv d:=by
  rcases Um (l.tdiv d) 1 with q|q
  .exfalso
   have:d*(l.tdiv d)<=0:=Int.mul_nonpos_of_nonneg_of_nonpos (by omega) (by omega)
   omega
  .exact q
 have ah:l.tdiv d<l:=by
  have:2*(l.tdiv d)<=d*(l.tdiv d):=YA hd (by omega)
  omega
 have hb:l<=1000:=by
  have I:(1:Int)<=2 ^ xs.length:=Int.pow_pos (by decide)
  have:=YA I (show(0:Int)<=l by omega)
  omega
 have wi:IntKind.i64.wrap (l.tdiv d)=l.tdiv d:=WE;simp only[Z3,seval,-ae,T,wi];refine⟨_,by show(l.tdiv d).toNat<l.toNat;omega,l.tdiv d,v2,xs++[d],rfl,rfl,iH,?_,λx hx=>?_,k2,?_⟩
 .rw[YV,Yz,Int.pow_succ,UT];have I:(0:Int)<=2 ^ xs.length:=Int.le_of_lt (Int.pow_pos (by decide));have R:2*(l.tdiv d)<=l:=by
   have:2*(l.tdiv d)<=d*(l.tdiv d):=YA hd (by omega)
   omega
  exact Int.le_trans (Yw R I) u
 .rcases YY.1 hx with hx|hx
  .exact G x hx
  .rw[YN.1 hx];exact S
 .rw[YV,Yz];have e:pis (xs++[d])=pis xs++[.int .i64 d]:=by simp[pis]
  rw[e];exact Y
theorem zIc{x:Int}{n:Nat}{cap:Cap}{u:Nat}(G:σ.obj s=some (pis O))(hs:s<σ.next)(hO:O.length=n)(hn:n<=1000)(R:∀a∈O,1<=a/\a<=1000)(H:0<=x/\x<=1000000)
  (V:∀ys cap,ys.length=n->full 1 cap n->K (.sl σ.next 0 n cap) (σ.new (pis ys))):zA Tryz.prog 266 [.sl s 0 n cap,.int .i64 u,.int .i64 x] σ K:=by
 refine zA.gh ?_;refine zD mix Tryz.func266 ?_;simp only[Z3,seval,-ae,zf,mk8 (n:=n) (by omega),Go.Ab.mkL (n:=n) (by omega)];refine zF (λm vs h=>∃(i:Nat) (x:Int) (ys:V1),m=n-i/\vs=[.sl s 0 n cap,.int .i64 x,.sl σ.next 0 n (.known n),.int .i64 i]/\0<=x/\x<=1000000/\ys.length=n/\h=σ.new (pis ys)) (n-u) ?_ ?_
 .exact⟨u,x,List.replicate n 0,rfl,rfl,H.1,H.2,by simp,rfl⟩
 rintro m vs h ⟨i,x,ys,rfl,rfl,E,Z,I,rfl⟩
 simp only[Z3,seval,-ae];refine iteI (λD=>?_) λY=>?_;rotate_left
 .exact Gh.finS (s:=σ.next) (zC σ _) (by rw[zH,if_pos rfl]) (na _) (zL _ _) (V ys _ I (.inr rfl))
 have N:(i:Int)<(n:Int):=by omega
 have l:i<O.length:=by omega
 have ob:=R _ (YK l);have rd:(σ.new (pis ys)).rd1 s i=some (.int .i64 O[i]):=by
  unfold PHeap.rd1;rw[zH,if_neg (by omega),G];simp only[YM];rw[zK,gi l];rfl
 have T:¬O[i]=0:=by omega
 have w:(σ.new (pis ys)).wr σ.next i [.int .i64 (x.tmod O[i])]=some ((σ.new (pis ys)).set σ.next (pis (ys.set i (x.tmod O[i])))):=zDM (by rw[zH,if_pos rfl]) (by omega);have S:(σ.new (pis ys)).set σ.next (pis (ys.set i (x.tmod O[i])))=σ.new (pis (ys.set i (x.tmod O[i]))):=by
  unfold PHeap.set PHeap.new;congr 1;funext q;by_cases e:q=σ.next<;>simp[e]
 have J:(σ.new (pis (ys.set i (x.tmod O[i])))).rd1 s i=some (.int .i64 O[i]):=by
  unfold PHeap.rd1;rw[zH,if_neg (by omega),G];simp only[YM];rw[zK,gi l];rfl
 have W:0<=x.tdiv O[i]:=Int.tdiv_nonneg E (by omega);have tF:x.tdiv O[i]<=x:=Int.tdiv_le_self _ E;have X:IntKind.i64.wrap (x.tdiv O[i])=x.tdiv O[i]:=WE;rw[S]at w;generalize U:σ.new (pis (ys.set i (x.tmod O[i])))=g at *
 simp only[Z3,seval,-ae,D,N,rd,T,w,J,X,WX D];exact⟨_,by omega,i+1,_,ys.set i (x.tmod O[i]),rfl,rfl,W,by omega,by rw[YC];exact I,U.symm⟩
theorem zL7{base e m:Int}(J:0<=base/\base<=1000)(N:0<=e/\e<=1000)(hm:1<=m/\m<=1000)(V:∀y,0<=y/\y<=1000->K (.int .i64 y) σ):zA Tryz.prog 267 [.int .i64 base,.int .i64 e,.int .i64 m] σ K:=by
 have u:¬m=0:=by omega
 have D:∀z:Int,0<=z->0<=z.tmod m/\z.tmod m<=1000:=λz R=>by
  have I:=Int.tmod_nonneg m R;have Z:=Int.tmod_lt_of_pos z (show 0<m by omega);omega
 refine zD mix Tryz.func267 ?_;simp only[Z3,seval,-ae,u];refine zF (λk vs h=>∃(b e y:Int),k=e.toNat/\vs=[.int .i64 b,.int .i64 e,.int .i64 m,.int .i64 y]/\0<=b/\b<=1000/\0<=e/\e<=1000/\0<=y/\y<=1000/\σ=h) e.toNat ?_ ?_
 .have:=D 1 (by decide)
  exact⟨base,e,_,rfl,rfl,J.1,J.2,N.1,N.2,this.1,this.2,rfl⟩
 rintro k vs h ⟨b,e,y,rfl,rfl,l,b1,H,Y,E,G,rfl⟩
 simp only[Z3,seval,-ae];refine iteI (λX=>?_) λR=>?_;rotate_left
 .exact V y ⟨E,G⟩
 have U:y*b<=1000000/\0<=y*b:=⟨by have:=Int.mul_le_mul G b1 l (by decide:(0:Int)<=1000);omega,UY E l⟩
 have W:b*b<=1000000/\0<=b*b:=⟨by have:=Int.mul_le_mul b1 b1 l (by decide:(0:Int)<=1000);omega,UY l l⟩
 have w1:IntKind.i64.wrap (y*b)=y*b:=WE;have w2:IntKind.i64.wrap (b*b)=b*b:=WE;have S:0<=e.tdiv 2:=Int.tdiv_nonneg H (by decide);have tF:e.tdiv 2<e:=by rw[US H];omega
 have T:IntKind.i64.wrap (e.tdiv 2)=e.tdiv 2:=WE;have r1:=D _ U.2;have r2:=D _ W.2;simp only[Z3,seval,-ae];refine iteI (λI=>?_) λI=>?_
 .simp only[Z3,seval,-ae,w1,w2,T,u];exact⟨_,by show(e.tdiv 2).toNat<e.toNat;omega,_,e.tdiv 2,_,rfl,rfl,r2.1,r2.2,S,by omega,r1.1,r1.2⟩
 .simp only[Z3,seval,-ae,w1,w2,T,u];exact⟨_,by show(e.tdiv 2).toNat<e.toNat;omega,_,e.tdiv 2,_,rfl,rfl,r2.1,r2.2,S,by omega,E,G⟩
def MatX(h:PHeap)(v:PV)(M:V2):Prop:=∃s cap cs,v=.sl s 0 M.length cap/\h.obj s=some cs/\s<h.next/\All2 (λc x=>∃t cap,c=PV.sl t 0 x.length cap/\h.obj t=some (pis x)/\t<h.next) cs M
theorem MatX.keep(a:MatX h v M)(k:Keep h h'):MatX h' v M:=by
 obtain⟨s,cap,cs,e,D,E,G⟩:=a;have H:=k.next;exact⟨s,cap,cs,e,by rw[k.obj s E];exact D,by omega,G.imp λc x ⟨t,cap,e,l,u⟩=>⟨t,cap,e,by rw[k.obj t u];exact l,by omega⟩⟩
theorem MatX.pLen(a:MatX h v M):pLen v=some (.int .i64 M.length):=by obtain⟨s,cap,cs,rfl,_⟩:=a;rfl
theorem MatX.one(a:MatX h v M):v.one=true:=by obtain⟨s,cap,cs,rfl,_⟩:=a;rfl
theorem zNk(hM:MatX σ v M)(hm:M.length<=1000)(hr:∀r∈M,r.length<=1000)(hk:∀w,FII w M->K w σ):zA Tryz.prog 234 [v] σ K:=by
 obtain⟨s,cap,cs,rfl,h1,h2,R⟩:=hM;refine zA.gh ?_;refine zD mix Tryz.func234 ?_;simp only[Z3,seval,-ae];refine zF (λm vs h=>∃(i:Nat) (v:PV) (rows:List SR),i<=M.length/\m=M.length-i/\vs=[.sl s 0 M.length cap,v,.int .i64 i]/\Keep σ h/\PSl σ.next 1 h v i (rows.map SR.pv)/\(∀q∈rows,q.ok h σ.next)/\rows.map SR.x=M.take i/\∀q∈rows,∀off l c,v≠.sl q.s off l c) M.length ?_ ?_
 .exact⟨0,.sl σ.next 0 0 (.known 0),[],YW _,rfl,rfl,zC _ _,⟨σ.next,.known 0,rfl,.inr rfl,by rw[zH,if_pos rfl];rfl,rfl,na _,YP _⟩,λq u=>(by cases u),by simp,λq u=>by cases u⟩
 rintro m vs h ⟨i,v,rows,hi,rfl,rfl,E,J,u,G,X⟩
 have Z:=E.next;simp only[Z3,seval,-ae];refine iteI (λD=>?_) λaF=>?_;rotate_left
 .have e:i=M.length:=by omega
  subst e;obtain⟨N,H,rfl,q1,q2,q3,q4,q5⟩:=J;rw[Yg]at G;have S:rows.length=M.length:=by rw[<-YL (f:=SR.x),G]
  have e:(TR.rows N H rows).pv=.sl N 0 M.length H:=by simp only[TR.rows,TR.pv,YL,S]
  rw[<-e];refine Gh.treeF E (tr_okF (TR.rows_ok (by rw[S];exact q1) q2 q4 q5 u)) λa=>?_;have e2:FII ((TR.rows N H rows).fz a) M:=by rw[<-G];exact TR.rows_FII
  exact hk _ e2
 have bY:cs.length=M.length:=R.1;obtain⟨t,dH,e,g1,g2⟩:=R.2 i _ _ (YQ (by omega)) (YQ D);have W:(i:Int)<(M.length:Int):=by omega
 have rd:h.rd1 s i=some (.sl t 0 M[i].length dH):=by unfold PHeap.rd1;rw[E.obj s h2,h1,<-e];exact YQ (by omega)
 simp only[Z3,seval,-ae,D,W,rd];refine zCd (by rw[E.obj t g2];exact g1) (by omega) (by have:=hr _ (YK D);omega) λY hc=>?_;simp only[Z3,seval,-ae];refine PAcc.pushS (σb:=σ) (h:=h.new (pis M[i])) (e:=1) (E.new _) (PSl.acc (J.keep (zC _ _))) rfl (by omega) (by omega) λv2 I k2 V o2 T l2=>?_;have HP:h.next+1<I.next:=l2;have U:∀t,t<h.next+1->(∀off l c,v≠.sl t off l c)->I.obj t=(h.new (pis M[i])).obj t:=λt ht hv=>o2 t ht hv;obtain⟨sv,Pq,ev,_,_,_,_,Rh⟩:=J;simp only[Z3,seval,-ae,WX D];refine⟨_,by omega,i+1,v2,rows++[⟨h.next,Y,M[i]⟩],by omega,rfl,rfl,k2,by simpa [SR.pv]using V,λq aR=>?_,by rw[Yh,G,YU D];rfl,λq aR off l c e'=>?_⟩
 .rcases YY.1 aR with aR|aR
  .obtain⟨y1,y2,y3,y4⟩:=u q aR;exact⟨y1,by rw[U q.s (by omega) (X q aR),zH,if_neg (by omega)];exact y2,y3,by omega⟩
  .rw[YN.1 aR];exact⟨hc,by rw[U h.next (by omega) (λoff l c e'=>by rw[ev]at e';simp only[PV.sl.injEq]at e';omega),zH,if_pos rfl],Z,by show h.next<I.next;omega⟩
 .rcases YY.1 aR with aR|aR
  .exact T q.s (by have:=(u q aR).2.2.2;show q.s<h.next+1;omega) off l c e'
  .rw[YN.1 aR]at e';exact T h.next (YP _) off l c e'
theorem PSl.catO{σb h:PHeap}{n m:Nat}{v:PV}{xs:V1}{k:IntKind}{K:PV->PHeap->Prop}(D:Keep σb h)(a:PSl σb.next 1 h v n (pis xs))(H:n+m<=1000)(G:∀l h',Keep σb h'->PSl σb.next 1 h' l (n+m) (pis (xs++List.replicate m 0))->K l h'):zCc 1 8 [.int .i64 0] v (.int k m) h K:=by
 have A:=PSl.cat (bytes:=8) (w:=true) (av:=.nils) (m:=m) (news:=pis (List.replicate m 0)) (K:=λq=>K q.1 q.2) D a (by rw[zJ,YT]) (by omega) (by omega) λl h' E a'=>G l h' E (by rw[Qj]at a';exact a');obtain⟨s,cap,rfl,_⟩:=a;rw[zNM];refine⟨⟨by omega,by omega,by omega⟩,?_⟩;rw[ZM]at A;rw[Int.toNat_natCast];by_cases u:m=0
 .subst u;simp only[zCY,YM,if_true]at A;rw[if_neg (by omega)];exact A
 .simp only[zCY,YM,if_neg u,zBz,Nat.mul_one]at A;rw[if_pos ⟨na _,by rw[zJ,YT];exact na _,by omega⟩]at A;rw[if_pos (by omega)];have e:ofAVs (zeros [.int .i64 0] m)=pis (List.replicate m 0):=by
   rw[zDL];rw[zKq];exact zf m 0
  rw[e];simp only[YM]at A;rw[YR (by rw[zJ,YT];exact na _)]at A;exact A
theorem Qq{before behind:Nat}{v:PV}(H:FI v x)(U:before<=300)(N:behind<=300)(T:x.length<=300)(G:∀cap ys,ys.length=before+x.length+behind->full 1 cap ys.length->K (.sl σ.next 0 ys.length cap) (σ.new (pis ys))):zA Tryz.prog 258 [.int .i64 before,v,.int .i64 behind] σ K:=by
 obtain⟨w,a,rfl⟩:=H;refine zA.gh ?_;refine zD mix Tryz.func258 ?_;simp only[Z3,seval,-ae,zf,mk8 (n:=before) (by omega),Go.Ab.mkL (n:=before) (by omega)];refine PSl.cat (σb:=σ) (bytes:=8) (m:=x.length) (news:=pis x) (zC σ _) (PSl.own (n:=before) (.inr rfl) (by rw[zH,if_pos rfl]) (by rw[zJ,YT,Nat.mul_one]) (na _) (YP _)) (by rw[zJ]) (by omega) (by omega) λV R I u=>?_;rw[Qj]at u;simp only[Z3,seval,-ae];refine PSl.catO (σb:=σ) (m:=behind) I u (by omega) λW S J D=>?_;simp only[Z3,seval,-ae];have l:(List.replicate before (0:Int)++x++List.replicate behind 0).length=before+x.length+behind:=by simp[UG]
 refine D.out J (zL _ _) λcap E=>?_
 have:=G cap _ l (by rw[l];exact E)
 rw[l]at this;exact this
end
section
variable{b s:Nat}{L L':Nat->Nat}{Q:Nat->Prop}{len:Nat->Nat}
structure Fm(N:Nat)(O:V1)(P:V2)(C:V3):Prop where
 n:O.length<=N
 ob:∀a∈O,1<=a/\a<=1000
 q:PQ3 (λm=>m=O.length) P C O.length O.length (λi=>O.length-1-i)
theorem Fm.sm{N:Nat}(a:Fm N O P C)(D:N<=64):SmP O P C:=
 have q:=a.q;have n:=a.n
 PQ3.sm (N:=O.length) ⟨q.pl,q.cl,λr l=>UH (q.pq r l),q.row,λa u r l=>UH (q.cq a u r l)⟩ (by omega) (by omega) (λa h=>by have:=Fm.ob ‹_› a h;omega) (by omega) (by omega) λi E=>by omega
theorem Fm.mono{N N':Nat}(a:Fm N O P C)(h:N<=N'):Fm N' O P C:=⟨Y7 a.n h,a.ob,a.q⟩
theorem Fm.nil(N:Nat):Fm N [] [] []:=⟨YW _,λa h=>(by cases h),rfl,rfl,λr h=>(by cases h),λi h=>absurd h (Nat.not_lt_zero _),λq h=>by cases h⟩
theorem isP.b1{p:Int}(h:isP p):1<=p/\p<=1000:=by have:=h.bd;omega
theorem PW.fin2{e:Int}(a:PW L b h Q O nP nC len vO vP vC)(hk:Keep σ h)(Z:σ.next<=b)(k:∀I J H P C,IsPr I J H O P C->PQ3 Q P C nP nC len->K (.tup [.agg [I,J,H],.int .i64 e]) σ):Gh σ K (.tup [.agg [vO,vP,vC],.int .i64 e]) h:=by
 obtain⟨u,N,rfl,R⟩:=a.hO.tree;obtain⟨D,P,⟨b1,rfl,G⟩,S⟩:=a.hP.tree;obtain⟨E,C,⟨T,rfl,U⟩,V,W,X⟩:=a.hC.tree;have Y:(TR.tup [TR.agg [u,D,E],.leaf (.int .i64 e)]).pv=.tup [.agg [u.pv,D.pv,E.pv],.int .i64 e]:=by simp only[TR.pv,TR.pvs]
 rw[<-Y];refine Gh.treeF hk (zCU (b:=b) Z ⟨⟨tr_okF N,tr_okF b1,tr_okF T,trivial⟩,trivial,trivial⟩) λl=>?_
 have:=k (u.fz l) (D.fz l) (E.fz l) P C ⟨R l,(G l).1,U l⟩ ⟨S,V,(G l).2,W,X⟩
 simpa only[TR.fz,TR.fzs]using this
theorem Zg{n m a c:Int}(hn:1<=n/\n<=1000)(hm:1<=m/\m<=1000)(ha:0<=a/\a<=1000)(hc:0<=c/\c<=1000)
  (hk:∀wO wP wC O P C,IsPr wO wP wC O P C->Fm 18 O P C->K (.agg [wO,wP,wC]) σ):zA Tryz.prog 255 [.int .i64 n,.int .i64 m,.int .i64 a,.int .i64 c] σ K:=by
 refine zA.gh ?_;refine qG mix Tryz.func255 ?_;simp only[Z3,seval,-ae];refine zAM hn λv1 l t1 kz nN gZ=>?_;simp only[Z3,seval,-ae];refine zAM hm λv2 x2 t2 cH ij mc=>?_;simp only[Z3,seval,-ae];obtain⟨w1,a1,rfl⟩:=kz;refine qg rfl (by omega) λbJ iK=>?_;obtain⟨w2,a2,rfl⟩:=cH;simp only[Z3,seval,-ae];generalize hH:σ.new [PV.fz true AV.nils 0 [],PV.fz true AV.nils 0 [],PV.fz true AV.nils 0 []]=H;have eX:H.next=σ.next+1:=by rw[<-hH];rfl
 have kH:Keep σ H:=by rw[<-hH];exact zC _ _
 have di:H.obj σ.next=some [PV.fz true AV.nils 0 [],PV.fz true AV.nils 0 [],PV.fz true AV.nils 0 []]:=by rw[<-hH];simp only[Z3,seval,-ae]
 clear hH;rw[<-eX];refine PSl.cat (σb:=H) (bytes:=8) (m:=x2.length) (news:=pis x2) (zC H _) (PSl.own (n:=l.length) iK (by rw[zH,if_pos rfl]) (by rw[zJ,Nat.mul_one]) (na _) (YP _)) (by rw[zJ]) (by omega) (by omega) λv3 G k3 a3=>?_;rw[Qj,<-YV]at a3;obtain⟨O,hO⟩:∃O,O=l++x2:=⟨_,rfl⟩
 rw[<-hO]at a3;have Ay:O.length=l.length+x2.length:=by rw[hO,YV]
 have fU:∀a∈O,1<=a/\a<=1000:=λa h=>by
  rw[hO]at h;rcases YY.1 h with h|h
  .exact(gZ a h).b1
  .exact(mc a h).b1
 clear hO;obtain⟨X,Z,rfl,q1,q2,q3,q4,q5⟩:=a3;have kD:=k3.next;simp only[Z3,seval,-ae];refine ZJ q2 q5 (by omega) λL h vO vP vC k4 p4=>?_;have nM:=k4.next;have D:=TB.start (r:=σ.next) p4 (by omega) (by rw[k4.obj _ (by omega),k3.obj _ (by omega)];exact di) nM;have E:=k4.new [vO,vP,vC];simp only[Z3,seval,-ae,p4.hO.one,p4.hP.one,p4.hC.one];generalize h.next=s at *
 clear p4 k4;generalize hN:O.length=N at *
 refine zF (λI vs h=>∃(i:Nat) (L:Nat->Nat),i<=N/\I=N-i/\vs=[.int .i64 m,.int .i64 a,.int .i64 c,.ptr σ.next 0,.fz w1 a1 l.length (pis l),.sl X 0 N Z,.ptr s 0,.int .i64 l.length,.int .i64 i]/\Keep G h/\TB G.next h (λm=>m=N) O L N N (λj=>N-1-j) σ.next s vO vP vC) N ?_ ?_
 .exact⟨0,_,YW _,rfl,rfl,E,D⟩
 clear D E
 rintro I vs h ⟨i,L,hi,rfl,rfl,E,D⟩
 have fY:=E.next;have wi:IntKind.i64.wrap ((i:Int)+1)=((i+1:Nat):Int):=WQ
 simp only[Z3,seval,-ae,wi];refine iteI (λT=>?_) λaF=>?_
 .have aD:((i+1:Nat):Int)<(N:Int):=by omega
  refine iteI (λhe=>?_) λhe=>?_
  .exact⟨_,by omega,i+1,L,by omega,rfl,rfl,E,D⟩
  have V:i<N:=by omega
  have dc:(i:Int)<(N:Int):=by omega
  obtain⟨J,capP,rfl,vK,oN,put⟩:=D.putPx V;have pK:¬J=h.next:=by omega
  simp only[Z3,seval,-ae,D.r1,wi];refine zBD (by omega) T λY cY=>?_;obtain⟨U,L',w,S⟩:=put (xs:=unitL N (i+1)) (cp:=Y) (zQ ..) (by rw[zQ];exact cY);rw[zQ]at w;have W:Keep G ((h.new (pis (unitL N (i+1)))).set J U):=(E.new _).set (by omega) _;have r1:(h.new (pis (unitL N (i+1)))).rd1 s 1=some (.sl J 0 N capP):=(D.new _).r1;generalize h.new (pis (unitL N (i+1)))=g at *
  simp only[Z3,seval,-ae,r1,V,dc,w,wi];refine⟨_,by omega,i+1,L',by omega,rfl,rfl,W,S⟩
 clear wi aF hi;have JG:∀{g:PHeap} {K':PV->PHeap->Prop} {f:Nat} {y:Int},Keep G g->0<=y/\y<=1000000->(∀ys cap,ys.length=N->full 1 cap N->K' (.sl g.next 0 N cap) (g.new (pis ys)))->zA Tryz.prog 266 [.sl X 0 N Z,.int .i64 f,.int .i64 y] g K':=λ{g K' f y} kg hy bA=>
  zIc (O:=O) (n:=N) (by rw[kg.obj X q5];exact q2) (by have:=kg.next;omega) hN (by omega) fU hy bA
 have fin:∀{g:PHeap} {L:Nat->Nat},Keep G g->TB G.next g (λm=>m=N) O L N N (λj=>N-1-j) σ.next s vO vP vC->
   g.wr σ.next 0 [vO,vP,vC]=some (g.set σ.next [vO,vP,vC])/\(g.set σ.next [vO,vP,vC]).rd σ.next 0 3=some [vO,vP,vC]/\Gh σ K (.agg [vO,vP,vC]) (g.set σ.next [vO,vP,vC]):=λ{g L} kg a=>by
  obtain⟨e1,e2,e3⟩:=a.fin;refine⟨e1,e2,e3.fin (((kH.trans k3).trans kg).set (na _) _) (by omega) λwO wP wC P C r1 r2=>hk wO wP wC O P C r1 ⟨by omega,fU,?_⟩⟩;rw[hN];exact r2
 have ga:¬m=0:=by omega
 have eR:0<=a.tmod m:=Int.tmod_nonneg m ha.1;have gD:a.tmod m<=1000:=by have:=Int.tmod_lt_of_pos a (show 0<m by omega);omega
 simp only[Z3,seval,-ae];refine iteI (λaQ=>?_) λhz=>?_;rotate_left
 .have cR:l.length=0:=by omega
  simp only[Z3,seval,-ae,ga];refine zF (λI vs h'=>∃(x:Int),I=0/\vs=[.int .i64 m,.ptr σ.next 0,.fz w1 a1 l.length (pis l),.sl X 0 N Z,.ptr s 0,.int .i64 l.length,.int .i64 x,.int .i64 (0:Nat)]/\h'=h) 0 ?_ ?_
  .exact⟨_,rfl,rfl,rfl⟩
  rintro I vs h ⟨x,rfl,rfl,rfl⟩
  obtain⟨e1,e2,e3⟩:=fin E D;simp only[Z3,seval,-ae,cR,D.r3,e1,e2];exact e3
 have oQ:l.length-1<N:=by omega
 have zE:((l.length-1:Nat):Int)<(N:Int):=by omega
 have wl:IntKind.i64.wrap ((l.length:Int)-1)=((l.length-1:Nat):Int):=WQ
 obtain⟨J,capP,rfl,vK,oN,put⟩:=D.putPx oQ;have pK:¬J=h.next:=by omega
 simp only[Z3,seval,-ae,D.r1,wl,oQ,zE];refine JG (f:=l.length) E (by omega) λys Y R cY=>?_;obtain⟨U,L',w,S⟩:=put (xs:=ys) (cp:=Y) R (by rw[R];exact cY);rw[R]at w;have W:Keep G ((h.new (pis ys)).set J U):=(E.new _).set (by omega) _;have r1:(h.new (pis ys)).rd1 s 1=some (.sl J 0 N capP):=(D.new _).r1;generalize h.new (pis ys)=g at *
 simp only[Z3,seval,-ae,r1,oQ,zE,w,wl,ga];generalize g.set J U=g2 at *
 refine zF (λI vs h=>∃(i:Nat) (x:Int) (L:Nat->Nat),i<=l.length/\I=l.length-i/\vs=[.int .i64 m,.ptr σ.next 0,.fz w1 a1 l.length (pis l),.sl X 0 N Z,.ptr s 0,.int .i64 l.length,.int .i64 x,.int .i64 i]/\0<=x/\x<=1000/\Keep G h/\TB G.next h (λm=>m=N) O L N N (λj=>N-1-j) σ.next s vO (.sl J 0 N capP) vC) l.length ?_ ?_
 .exact⟨0,_,L',YW _,rfl,rfl,eR,gD,W,S⟩
 clear W S w put pK oN E D fY
 rintro I vs h ⟨i,x,L,hi,rfl,rfl,x0,JR,E,D⟩
 have fY:=E.next;simp only[Z3,seval,-ae];refine iteI (λT=>?_) λaF=>?_;rotate_left
 .obtain⟨e1,e2,e3⟩:=fin E D;simp only[Z3,seval,-ae,D.r3,e1,e2];exact e3
 refine zF (λI vs h=>∃(j:Nat) (L:Nat->Nat),l.length<=j/\j<=N/\I=N-j/\vs=[.int .i64 m,.ptr σ.next 0,.fz w1 a1 l.length (pis l),.sl X 0 N Z,.ptr s 0,.int .i64 l.length,.int .i64 x,.int .i64 i,.int .i64 j]/\Keep G h/\TB G.next h (λm=>m=N) O L N N (λj=>N-1-j) σ.next s vO (.sl J 0 N capP) vC) (N-l.length) ?_ ?_
 .exact⟨l.length,L,na _,by omega,rfl,rfl,E,D⟩
 clear E D fY
 rintro I vs h ⟨j,L,Is,hj,rfl,rfl,E,D⟩
 have fY:=E.next;have V:i<N:=by omega
 have dc:(i:Int)<(N:Int):=by omega
 have lj:(i:Int)<(l.length:Int):=by omega
 simp only[Z3,seval,-ae];refine iteI (λar=>?_) λaF=>?_;rotate_left
 .have xi:=(gZ _ (YK T)).b1;have gx:(pis l)[i]? = some (.int .i64 l[i]):=by rw[zK,gi T];rfl
  simp only[Z3,seval,-ae,T,lj,gx];refine zL7 ⟨x0,JR⟩ ⟨by omega,xi.2⟩ hm λy hy=>?_;simp only[Z3,seval,-ae,WX T];exact⟨_,by omega,i+1,y,L,by omega,rfl,rfl,hy.1,hy.2,E,D⟩
 have j7:j-i-1<N-1-i:=by omega
 have iq:((j-i-1:Nat):Int)<((N-1-i:Nat):Int):=by omega
 have wj:IntKind.i64.wrap ((j:Int)-(i:Int))=(j:Int)-(i:Int):=WE;have pB:IntKind.i64.wrap ((j:Int)-(i:Int)-1)=((j-i-1:Nat):Int):=WQ
 obtain⟨sC,capC,u,kU,rfl,q7,Cp,B4,Cl,y8,put⟩:=D.putCx V j7;have DR:¬sC=h.next:=by omega
 have uT:¬u=h.next:=by omega
 simp only[Z3,seval,-ae,D.r2,q7,V,dc,wj,pB];refine JG (f:=j) E (by omega) λys Y R cY=>?_;obtain⟨U,L',rC,w,S⟩:=put (xs:=ys) (cp:=Y) R (by rw[R];exact cY);rw[R]at w;have r2:(h.new (pis ys)).rd1 s 2=some (.sl sC 0 N capC):=(D.new _).r2;have W:Keep G ((h.new (pis ys)).set u U):=(E.new _).set (by omega) _;generalize h.new (pis ys)=g at *
 simp only[Z3,seval,-ae,r2,rC,V,dc,j7,iq,w,wj,pB,wrapS (by omega:j<N) (by omega:N<=4611686018427387904)];exact⟨_,by omega,j+1,L',by omega,by omega,rfl,rfl,W,S⟩
theorem zOI{n:Int}(hn:1<=n/\n<=1000)(X:∀e J R I O P C,IsPr J R I O P C->Fm 6 O P C->K (.tup [.agg [J,R,I],.int .i64 e]) σ):zA Tryz.prog 254 [.int .i64 n] σ K:=by
 have nil:∀e,K (.tup [.agg [.fz true .nils 0 [],.fz true .nils 0 [],.fz true .nils 0 []],.int .i64 e]) σ:=λe=>
  X e _ _ _ [] [] [] ⟨⟨true,.nils,rfl⟩,⟨true,.nils,[],rfl,All2.nil _⟩,⟨true,.nils,[],rfl,All2.nil _⟩⟩ (Fm.nil 6)
 have S:∀{h:PHeap} {e:Int},Keep σ h->Gh σ K (.tup [.agg [.fz true .nils 0 [],.fz true .nils 0 [],.fz true .nils 0 []],.int .i64 e]) h:=λ{h e} kh=>by
  have et:(TR.tup [TR.agg [.nil,.nil,.nil],.leaf (.int .i64 e)]).pv=.tup [.agg [.fz true .nils 0 [],.fz true .nils 0 [],.fz true .nils 0 []],.int .i64 e]:=by simp only[TR.pv,TR.pvs]
  rw[<-et];refine Gh.treeF kh ⟨⟨trivial,trivial,trivial,trivial⟩,trivial,trivial⟩ λaa=>?_;simpa only[TR.fz,TR.fzs]using nil e
 refine zA.gh ?_;refine zD mix Tryz.func254 ?_;simp only[Z3,seval,-ae];refine zBm ?_;simp only[Z3,seval,-ae];refine iteI (λdr=>?_) λeS=>?_;rotate_left
 .exact S (zC _ _)
 refine zAM hn λv1 O t1 kz nN gZ=>?_;obtain⟨w1,V,rfl⟩:=kz;cases t1
 .simp only[Z3,seval,-ae];exact S (zC _ _)
 simp only[Z3,seval,-ae];refine iteI (λh6=>?_) λh6=>?_
 .exact S (zC _ _)
 have Gf:O.length<=6:=by omega
 generalize E:σ.new [PV.fz true AV.nils 0 [],PV.fz true AV.nils 0 [],PV.fz true AV.nils 0 []]=H;have eX:H.next=σ.next+1:=by rw[<-E];rfl
 have kH:Keep σ H:=by rw[<-E];exact zC _ _
 have di:H.obj σ.next=some [PV.fz true AV.nils 0 [],PV.fz true AV.nils 0 [],PV.fz true AV.nils 0 []]:=by rw[<-E];simp only[Z3,seval,-ae]
 clear E;refine zDE ⟨w1,V,rfl⟩ (by omega) λL h vO vP vC G D=>?_;have nM:=G.next;have l:=TB.start (r:=σ.next) D (by omega) (by rw[G.obj _ (by omega)];exact di) nM;have u:=G.new [vO,vP,vC];simp only[Z3,seval,-ae,D.hO.one,D.hP.one,D.hC.one];generalize h.next=s at *
 clear D G;generalize hN:O.length=N at *
 refine zF (λY vs h=>∃(i:Nat) (L:Nat->Nat),i<=N/\Y=N-i/\vs=[.ptr σ.next 0,.fz w1 V N (pis O),.ptr s 0,.int .i64 i]/\Keep H h/\TB H.next h (λm=>m=N) O L N N (λj=>N-1-j) σ.next s vO vP vC) N ?_ ?_
 .exact⟨0,_,YW _,rfl,rfl,u,l⟩
 clear l u
 rintro Y vs h ⟨i,L,hi,rfl,rfl,u,l⟩
 have fY:=u.next;have U:IntKind.i64.wrap ((i:Int)+1)=((i+1:Nat):Int):=WQ
 simp only[Z3,seval,-ae,U];refine iteI (λah=>?_) λaF=>?_
 .have aD:((i+1:Nat):Int)<(N:Int):=by omega
  have W:i<N:=by omega
  have dc:(i:Int)<(N:Int):=by omega
  obtain⟨T,capP,rfl,vK,oN,put⟩:=l.putPx W;have pK:¬T=h.next:=by omega
  simp only[Z3,seval,-ae,l.r1,U];refine zBD (by omega) ah λbE cY=>?_;obtain⟨ds,L',w,Z⟩:=put (xs:=unitL N (i+1)) (cp:=bE) (zQ ..) (by rw[zQ];exact cY);rw[zQ]at w;have k6:Keep H ((h.new (pis (unitL N (i+1)))).set T ds):=(u.new _).set (by omega) _;have r1:(h.new (pis (unitL N (i+1)))).rd1 s 1=some (.sl T 0 N capP):=(l.new _).r1;generalize h.new (pis (unitL N (i+1)))=g at *
  simp only[Z3,seval,-ae,r1,W,dc,w,U];refine⟨_,by omega,i+1,L',by omega,rfl,rfl,k6,Z⟩
 obtain⟨e1,e2,e3⟩:=l.fin;simp only[Z3,seval,-ae,l.r3,e1,e2];refine e3.fin2 ((kH.trans u).set (na _) _) (by omega) λJ R I P C r1 r2=>X 0 J R I O P C r1 ⟨by omega,λa h=>(gZ a h).b1,?_⟩;rw[hN];exact r2
theorem zHu{g:PHeap}{t:Nat}{xs l:List PV}(u:¬t=g.next):(g.new xs).set t l=(g.set t l).new xs:=by simp only[Z3,seval,-ae,u]
theorem zHk{g:PHeap}{t i:Nat}{xs u v:List PV}(l:(g.new xs).wr t i v=some ((g.new xs).set t u))(D:¬t=g.next):∃g',g.wr t i v=some g'/\g'.new xs=(g.new xs).set t u:=by
 rw[zHu D]at l ⊢;simp only[Z3,seval,-ae,D]at l;exact YJ.1 l
theorem zBl{p:Int}(N:So σ s0 vS bs)(hp:2<=p/\p<=7)(hk:∀Z wP Y O P C σ',IsPr Z wP Y O P C->Fm 18 O P C->Mv σ s0 σ'->So σ' s0 vS bs->K (.agg [Z,wP,Y]) σ'):zA Tryz.prog 132 [.ptr s0 0,.int .i64 p] σ K:=by
 have U:=N.lt;refine zA.gh ?_;refine zD mix Tryz.func132 ?_;simp only[Z3,seval,-ae];generalize W:σ.new [PV.fz true AV.nils 0 [],PV.fz true AV.nils 0 [],PV.fz true AV.nils 0 []]=H;have eX:H.next=σ.next+1:=by rw[<-W];rfl
 have kH:Keep σ H:=by rw[<-W];exact zC _ _
 have di:H.obj σ.next=some [PV.fz true AV.nils 0 [],PV.fz true AV.nils 0 [],PV.fz true AV.nils 0 []]:=by rw[<-W];simp only[Z3,seval,-ae]
 clear W;rw[<-eX];obtain⟨O,hO⟩:∃O,O=[p,p,p]:=⟨_,rfl⟩
 have ko:O.length=3:=by rw[hO];rfl
 have ob:∀a∈O,1<=a/\a<=1000:=λa h=>by
  rw[hO]at h;simp only[YH,Yp,or_false,or_self]at h;omega
 have tr:∀{g:PHeap} {K':PV->PHeap->Prop},g.obj H.next=some (pis O)->H.next<g.next->(∀L h vO vP vC,Keep g h->PW L g.next h (λm=>m=3) O 3 3 (λj=>3-1-j) vO vP vC->K' (.agg [vO,vP,vC]) h)->zA Tryz.prog 197 [.sl H.next 0 3 (.known 3)] g K':=λ{g K'} h1 h2 h3=>by
  have:=ZJ (cap:=.known 3) h1 h2 (by omega) (K:=K') (by rw[ko];exact h3)
  rw[ko]at this;exact this
 refine tr (by rw[zH,if_pos rfl,hO];rfl) (YP _) λL h vO vP vC X J=>?_;clear tr;have nM:H.next+1<=h.next:=X.next;have R:Keep H h:=(zC H _).trans X;have a5:=TB.start (r:=σ.next) J (by show σ.next<H.next+1;omega) (by rw[R.obj _ (by omega)];exact di) X.next;have gA:KM σ s0 (h.new [vO,vP,vC]):=N.kmK ((kH.trans R).new _);have fR:So (h.new [vO,vP,vC]) s0 vS bs:=N.keep ((kH.trans R).new _);generalize hb:(H.new [PV.int IntKind.i64 p,PV.int IntKind.i64 p,PV.int IntKind.i64 p]).next=b at *
 have Sf:b=H.next+1:=hb.symm;simp only[Z3,seval,-ae,J.hO.one,J.hP.one,J.hC.one];clear hb J R;have Mr:h.next<(h.new [vO,vP,vC]).next:=YP _;generalize h.new [vO,vP,vC]=g at *
 generalize h.next=s at *
 clear X;have fin:∀{g:PHeap} {L':Nat->Nat},KM σ s0 g->So g s0 vS bs->TB b g (λm=>m=3) O L' 3 3 (λi=>3-1-i) σ.next s vO vP vC->
   g.wr σ.next 0 [vO,vP,vC]=some (g.set σ.next [vO,vP,vC])/\(g.set σ.next [vO,vP,vC]).rd σ.next 0 3=some [vO,vP,vC]/\Gh σ K (.agg [vO,vP,vC]) (g.set σ.next [vO,vP,vC]):=λ{g L'} km bW a=>by
  obtain⟨D,E,I⟩:=a.fin;refine⟨D,E,I.finKM (km.set (by omega) _) (bW.set (by omega) _) U (by omega) λZ wP Y P C σ' x1 x2 x3 x4=>hk Z wP Y O P C σ' x1 ⟨by omega,ob,?_⟩ x3 x4⟩;rw[ko];exact x2
 obtain⟨sC,capC,u,kU,rfl,q7,Cp,B4,Cl,y8,put⟩:=a5.putCx (i:=0) (j:=0) (by decide) (by decide);obtain⟨V,L',rC,w,a6⟩:=put (xs:=[0,1,1]) (cp:=.known 3) rfl (.inr rfl);have uT:¬u=g.next:=by omega
 have pN:KM σ s0 ((g.new (pis [0,1,1])).set u V):=(gA.keep (zC _ _)).set (by omega) _;have pE:So ((g.new (pis [0,1,1])).set u V) s0 vS bs:=(fR.keep (zC _ _)).set (by omega) _;have D:∀y:Int,pis [0,y,1]=[PV.int .i64 0,PV.int .i64 y,PV.int .i64 1]:=λ_=>rfl;have E:∀y:Int,pis [0,0,y]=[PV.int .i64 0,PV.int .i64 0,PV.int .i64 y]:=λ_=>rfl;have Cw:(0:Int)<((3:Nat):Int):=by decide
 have GA:(1:Int)<((3:Nat):Int):=by decide
 have I8:(0:Int)<((2:Nat):Int):=by decide
 have GB:(0:Int)<((3-1-0:Nat):Int):=by decide
 obtain⟨g',w1,w2⟩:=zHk w uT;rw[D]at w2 pN pE a6;generalize (g.new [PV.int .i64 0,PV.int .i64 1,PV.int .i64 1]).set u V=g6 at *
 have w1:g.wr u 0 [PV.sl g.next 0 3 (.known 3)]=some g':=w1;simp only[Z3,seval,-ae,a5.r2,q7,uT,w1,w2,Cw,I8,GB];have cA:s0<b:=by omega
 have fF:s0≠σ.next:=by omega
 refine zV (n:=2) pE (by decide) λx1 g7 gD m7 uL=>?_;have S:=a6.mv cA fF m7;have BJ:=pN.mv U m7;by_cases h0:x1=0;rotate_left
 .obtain⟨D,E,I⟩:=fin BJ uL S;simp only[Z3,seval,-ae,h0,S.r3,D,E];exact I
 have step:∀{g:PHeap} {L:Nat->Nat} (i:Nat) (y:Int),i<3->KM σ s0 g->So g s0 vS bs->TB b g (λm=>m=3) O L 3 3 (λj=>3-1-j) σ.next s vO vP (.sl sC 0 3 capC)->
   ∃l capP g' G L',vP=.sl l 0 3 capP/\¬l=g.next/\g.rd1 s 1=some (.sl l 0 3 capP)/\(g.new [PV.int .i64 0,PV.int .i64 0,PV.int .i64 y]).rd1 s 1=some (.sl l 0 3 capP)/\g.wr l i [.sl g.next 0 3 (.known 3)]=some g'/\g'.new [PV.int .i64 0,PV.int .i64 0,PV.int .i64 y]=G/\
    KM σ s0 G/\So G s0 vS bs/\TB b G (λm=>m=3) O L' 3 3 (λj=>3-1-j) σ.next s vO vP (.sl sC 0 3 capC):=λ{g L} i y hi km N a=>by
  obtain⟨l,capP,e,vK,oN,put⟩:=a.putPx (i:=i) hi;obtain⟨V,L',w,T⟩:=put (xs:=[0,0,y]) (cp:=.known 3) rfl (.inr rfl);obtain⟨g',w1,w2⟩:=zHk w (by omega);have r:=(a.new [PV.int .i64 0,PV.int .i64 0,PV.int .i64 y]).r1;have r':=a.r1;rw[e]at r r';exact⟨l,capP,g',_,L',e,by omega,r',r,w1,w2,(km.keep (zC _ _)).set (by omega) _,(N.keep (zC _ _)).set (by omega) _,T⟩
 simp only[Z3,seval,-ae,h0,S.r1];refine zV (n:=p) uL (by omega) λy1 g8 nJ m8 Dk=>?_;have a8:=S.mv cA fF m8;obtain⟨l,capP,g9,G,L9,rfl,n8,r8,KJ,w8,e8,LD,nX,T⟩:=step 0 y1 (by decide) (BJ.mv U m8) Dk a8;simp only[Z3,seval,-ae,r8,KJ,n8,w8,e8,Cw,T.r1];refine zV (n:=p) nX (by omega) λy2 SC uY xE Dq=>?_;have nD:=T.mv cA fF xE;obtain⟨Ds,Bn,SB,G2,Tc,e',DS,KL,DA,C7,Pp,D5,Dm,CF⟩:=step 1 y2 (by decide) (LD.mv U xE) Dq nD;simp only[PV.sl.injEq]at e';obtain⟨rfl,-,-,rfl⟩:=e';obtain⟨D,E,I⟩:=fin D5 Dm CF;simp only[Z3,seval,-ae,KL,DA,DS,C7,Pp,GA,CF.r3,D,E];exact I
end
section
open Go.Mx
variable{v:V1}
theorem zQs{α:Type}{a b:List α}{i:Nat}(D:a.length=b.length)(u:i<a.length):(a.take i++b.drop i).set i a[i]=a.take (i+1)++b.drop (i+1):=by
 have l:(a.take i).length=i:=by rw[Yu];omega
 rw[List.set_append_right _ _ (by omega),l,Yv,List.drop_eq_getElem_cons (by omega:i<b.length),List.set_cons_zero,YU u,Yb];rfl
theorem zQt{α:Type}{a b:List α}{i:Nat}(D:a.length=b.length)(u:i<b.length):(a.take i++b.drop i)[i]? = some b[i]:=by
 have l:(a.take i).length=i:=by rw[Yu];omega
 rw[Yx (by omega),l,Ye,Yv,UN,YQ u]
theorem zMX{x:Int}{r out:V1}(h:r.length=out.length){j:Nat}(l:j<out.length):(vstep p x r out)[j]'(by rw[zAF h];exact l)=(out[j] + x*r[j]) % p:=by
 simp[vstep]
theorem sm6{a b:Int}(u:0<=a/\a<=6)(l:0<=b/\b<=6):0<=a*b/\a*b<=36:=by
 have D:=UY u.1 l.1;have E:=Int.mul_le_mul u.2 l.2 l.1 (by decide);omega
theorem zQL{i:Nat}(l:i<A.length):(mm p n A B).take (i+1)=(mm p n A B).take i++[vt p n A[i] B]:=by
 rw[YU (by rw[zB1];exact l)];simp[mm]
theorem zKQ(hp:2<=p/\p<=7)(D:Ma p n A)(H:Ve p A.length v)(hn:n<=8)(cU:A.length<=8)(yi:FII vA A)(ky:FI vv v)(hk:∀z,FI z (vt p n v A)->K z σ):
  zA Tryz.prog 271 [.int .i64 p,vv,vA,.int .i64 n] σ K:=by
 have gE:=H.len;obtain⟨U,av,rfl⟩:=ky;obtain⟨T,J,S,rfl,yD⟩:=yi;have hl:=(vt_ve (by omega:0<p) D H.len).len;refine zA.gh ?_;refine qG mix Tryz.func271 ?_;simp only[Z3,seval,-ae,YT,zf,mk8 (n:=n) (by omega),mkL (n:=n) (by omega)];refine zF (λm vs h'=>∃i:Nat,i<=v.length/\m=v.length-i/\vs=[.int .i64 p,.fz U av v.length (pis v),.fz T J A.length S,.sl σ.next 0 n (.known n),.int .i64 i]/\h'=σ.new (pis (vmul p n v A i))) v.length ?_ ?_
 .exact⟨0,by omega,by omega,rfl,rfl⟩
 rintro m vs h' ⟨i,hi,rfl,rfl,rfl⟩
 by_cases l:i<v.length;rotate_left
 .have aU:i=v.length:=by omega
  subst aU;simp only[Z3,seval,-ae,Uk];exact Gh.finF (s:=σ.next) (zC σ _) (by simp only[Z3,seval,-ae];rfl) (na _) (zL _ _) (show capOK (.known n) n=true by simp[capOK]) λo=>hk _ ⟨true,.sl o 0 n (.known n),by rw[hl]⟩
 have u:i<A.length:=by omega
 obtain⟨w4,a4,hr⟩:=yD.rowI u;have G:=D.row u;rw[zMg u]at G;have bF:=G.len;have fZ:=QJ (v:=v) D (i:=i) (by omega);have X:=zKd (v:=v) (by omega:0<p) D (i:=i) (by omega);have Z:=H.bd i;rw[at_eq l]at Z;have ec:vmul p n v A (i+1)=vstep p v[i] A[i] (vmul p n v A i):=by rw[vmul,at_eq l,zMg u]
 generalize fv:vmul p n v A i=acc at *
 have V:(vstep p v[i] A[i] acc).length=acc.length:=zAF (by omega);simp only[Z3,seval,-ae,l,u];refine zF (λm vs h'=>∃j:Nat,j<=n/\m=n-j/\vs=[.int .i64 p,.fz U av v.length (pis v),.fz T J A.length S,.sl σ.next 0 n (.known n),.int .i64 i,.int .i64 j]/\h'=σ.new (pis ((vstep p v[i] A[i] acc).take j++acc.drop j))) n ?_ ?_
 .exact⟨0,by omega,by omega,rfl,by rw[UP,List.drop_zero,Ys]⟩
 rintro m vs h' ⟨j,hj,rfl,rfl,rfl⟩
 by_cases R:j<n;rotate_left
 .have iY:j=n:=by omega
  subst iY;simp only[Z3,seval,-ae,Uk,WX l];refine⟨_,by omega,i+1,by omega,rfl,rfl,?_⟩;rw[Uu (by omega),Y0,YR (by omega),ec]
 have I:j<A[i].length:=by omega
 have E:j<acc.length:=by omega
 have c1:=G.bd j;have c2:=X.bd j;rw[at_eq I]at c1;rw[at_eq E]at c2;have c3:=sm6 (a:=v[i]) (b:=A[i][j]) (by omega) (by omega);have e1:=zQt V E;have hlen:j+1<=((vstep p v[i] A[i] acc).take j++acc.drop j).length:=by simp;omega
 have uH:IntKind.i64.wrap (v[i] * A[i][j])=v[i] * A[i][j]:=WE;have nQ:IntKind.i64.wrap (acc[j] + v[i] * A[i][j])=acc[j] + v[i] * A[i][j]:=WE;have N:¬p=0:=by omega
 have et:(acc[j] + v[i] * A[i][j]).tmod p=(acc[j] + v[i] * A[i][j]) % p:=Yr (by omega);have Sc:=Ya (acc[j] + v[i] * A[i][j]) N;have No:=Y4 (acc[j] + v[i] * A[i][j]) (by omega:0<p);have Y:IntKind.i64.wrap ((acc[j] + v[i] * A[i][j]) % p)=(acc[j] + v[i] * A[i][j]) % p:=WE;simp only[Z3,seval,-ae,R,u,hr,I,l,zK,zJ,gi l,gi I,e1,hlen,uH,nQ,N,et,Y,WX R];refine⟨_,by omega,j+1,by omega,rfl,rfl,?_⟩;rw[zU (by simp;omega)];have W:j<(vstep p v[i] A[i] acc).length:=by omega
 rw[<-zQs V W,zMX (by omega) E]
theorem zHb(Z:2<=p/\p<=7)(V:Ma p B.length A)(W:Ma p n B)(Y:n<=8)(jm:B.length<=8)(cU:A.length<=8)(yi:FII vA A)(D:FII vB B)(X:∀v,FII v (mm p n A B)->K v σ):
  zA Tryz.prog 268 [.int .i64 p,vA,vB,.int .i64 n] σ K:=by
 have U:=D.one;have I:=D;obtain⟨wA,R,rA,rfl,yD⟩:=yi;refine zA.gh ?_;refine zD mix Tryz.func268 ?_;simp only[Z3,seval,-ae];refine zF (λm vs h'=>∃(i:Nat) (vC:PV) (rows:List PV),i<=A.length/\m=A.length-i/\vs=[.int .i64 p,.fz wA R A.length rA,vB,.int .i64 n,vC,.int .i64 i]/\Keep σ h'/\PSl σ.next 1 h' vC i rows/\All2 FI rows ((mm p n A B).take i)) A.length ?_ ?_
 .exact⟨0,_,[],by omega,by omega,rfl,zC σ _,PSl.new _ 1 rfl (na _),by rw[UP];exact All2.nil _⟩
 rintro m vs h' ⟨i,vC,rows,hi,rfl,rfl,E,G,u⟩
 simp only[Z3,seval,-ae];refine iteI (λl=>?_) λaF=>?_;rotate_left
 .have aU:i=A.length:=by omega
  subst aU;rw[YR (by rw[zB1];exact na _)]at u;exact G.fin E (u.bI 0) λo cap=>X _ ⟨true,_,rows,by rw[zB1],u⟩
 obtain⟨w4,N,hr⟩:=yD.rowI l;have S:=V _ (YK l);simp only[Z3,seval,-ae,l,hr];refine zKQ Z W S Y jm I ⟨w4,N,rfl⟩ λz H=>?_;have T:=H;obtain⟨wz,az,rfl⟩:=H;simp only[Z3,seval,-ae];refine PSl.push (bytes:=24) E G (by omega) (by omega) λv' U k2 J=>?_;simp only[Z3,seval,-ae,WX l];refine⟨_,by omega,i+1,v',_,by omega,rfl,rfl,k2,J,?_⟩;rw[zQL l];exact u.snoc T
end
section
open Go.Mx
variable{b s:Nat}{L L':Nat->Nat}{len:Nat->Nat}{cs:List PV}
theorem Zp{p m:Int}(hp:2<=p/\p<=7)(hm:1<=m/\m<=1000)(U:MatX σ vM M)(IV:Ma p M.length M)(hl:1<=M.length/\M.length<=8)
  (hk:∀wO wP wC O P C,IsPr wO wP wC O P C->Fm 18 O P C->K (.agg [wO,wP,wC]) σ):zA Tryz.prog 256 [.int .i64 p,vM,.int .i64 m] σ K:=by
 refine zA.gh ?_;refine qG mix Tryz.func256 ?_;simp only[Z3,seval,-ae,U.one];refine zAM hm λv1 l t1 kz nN gZ=>?_;simp only[Z3,seval,-ae,U.one];obtain⟨w1,V,rfl⟩:=kz;refine qg rfl (by omega) λbJ iK=>?_;generalize hH:σ.new [PV.fz true AV.nils 0 [],PV.fz true AV.nils 0 [],PV.fz true AV.nils 0 []]=H;have eX:H.next=σ.next+1:=by rw[<-hH];rfl
 have kH:Keep σ H:=by rw[<-hH];exact zC _ _
 have di:H.obj σ.next=some [PV.fz true AV.nils 0 [],PV.fz true AV.nils 0 [],PV.fz true AV.nils 0 []]:=by rw[<-hH];simp only[Z3,seval,-ae]
 clear hH;simp only[Z3,seval,-ae,U.one];have Oi:=U.keep kH;obtain⟨n,hn⟩:∃n,n=M.length:=⟨_,rfl⟩
 have hlen:=U.pLen;have I:=U.one;have wn:∀{i:Nat},i<n->IntKind.i64.wrap ((i:Int)+1)=((i+1:Nat):Int):=λ{i} hi=>by rw[wrap64 (by omega) (by omega)];omega
 rw[<-hn]at hlen hl;refine zF (λG vs h=>∃(i:Nat) (v:PV),i<=n/\G=n-i/\vs=[.int .i64 p,vM,.ptr σ.next 0,.fz w1 V l.length (pis l),v,.int .i64 i]/\Keep H h/\PSl H.next 1 h v (l.length+i) (pis (l++List.replicate i p))) n ?_ ?_
 .refine⟨0,.sl H.next 0 l.length bJ,YW _,rfl,rfl,zC H _,?_⟩
  have:=PSl.own (b:=H.next) (h:=H.new (pis l)) (s:=H.next) (n:=l.length) (e:=1) (cs:=pis l) iK (by rw[zH,if_pos rfl]) (by rw[zJ,Nat.mul_one]) (na _) (YP _)
  simpa using this
 rintro G vs h ⟨i,v,hi,rfl,rfl,W,Y⟩
 simp only[Z3,seval,-ae,hlen,I];refine iteI (λS=>?_) λZ=>?_
 .have aD:(i:Int)<(n:Int):=by omega
  refine PSl.push (σb:=H) (bytes:=8) W Y (by omega) (by omega) λv2 h2 k2 a2=>?_;simp only[Z3,seval,-ae,wn S,I];refine⟨_,by omega,i+1,v2,by omega,rfl,rfl,k2,?_⟩;have e:pis (l++List.replicate (i+1) p)=pis (l++List.replicate i p)++[.int .i64 p]:=by rw[List.replicate_succ',<-Yb];simp[pis]
  rw[e];exact a2
 have dr:i=n:=by omega
 subst dr;generalize ve:i=n at *
 obtain⟨O,hO⟩:∃O,O=l++List.replicate n p:=⟨_,rfl⟩
 rw[<-hO]at Y;have Ay:O.length=l.length+n:=by rw[hO,YV,YT]
 have fU:∀a∈O,1<=a/\a<=1000:=λa h=>by
  rw[hO]at h;rcases YY.1 h with h|h
  .exact(gZ a h).b1
  .rw[(List.mem_replicate.1 h).2];omega
 clear hO;rw[<-Ay]at Y;obtain⟨so,bw,rfl,q1,q2,q3,q4,q5⟩:=Y;have kD:=W.next;generalize h=h3 at *
 have Oj:=Oi.keep W;simp only[Z3,seval,-ae];refine ZJ q2 q5 (by omega) λL h vO vP vC k4 X=>?_;have nM:=k4.next;have D:=TB.start (r:=σ.next) X (by omega) (by rw[k4.obj _ (by omega),W.obj _ (by omega)];exact di) nM;have E:=k4.new [vO,vP,vC];simp only[Z3,seval,-ae,X.hO.one,X.hP.one,X.hC.one];generalize h.next=s at *
 clear X k4;generalize hN:O.length=N at *
 refine zF (λG vs h=>∃(i:Nat) (L:Nat->Nat),i<=l.length/\G=l.length-i/\vs=[.int .i64 p,vM,.ptr σ.next 0,.fz w1 V l.length (pis l),.sl so 0 N bw,.ptr s 0,.int .i64 l.length,.int .i64 i]/\Keep h3 h/\TB h3.next h (λm=>m=N) O L N N (λj=>N-1-j) σ.next s vO vP vC) l.length ?_ ?_
 .exact⟨0,_,YW _,rfl,rfl,E,D⟩
 clear D E
 rintro G vs h ⟨i,L,hi,rfl,rfl,E,D⟩
 have fY:=E.next;have wi:IntKind.i64.wrap ((i:Int)+1)=((i+1:Nat):Int):=WQ
 simp only[Z3,seval,-ae,wi,I];refine iteI (λS=>?_) λZ=>?_
 .have T:i<N:=by omega
  have dc:(i:Int)<(N:Int):=by omega
  obtain⟨sP,capP,rfl,vK,oN,put⟩:=D.putPx T;have pK:¬sP=h.next:=by omega
  simp only[Z3,seval,-ae,D.r1,wi];refine zBD (by omega) (by omega) λbE cY=>?_;obtain⟨ds,L',w,a6⟩:=put (xs:=unitL N (i+1)) (cp:=bE) (zQ ..) (by rw[zQ];exact cY);rw[zQ]at w;have k6:Keep h3 ((h.new (pis (unitL N (i+1)))).set sP ds):=(E.new _).set (by omega) _;have r1:(h.new (pis (unitL N (i+1)))).rd1 s 1=some (.sl sP 0 N capP):=(D.new _).r1;generalize h.new (pis (unitL N (i+1)))=g at *
  simp only[Z3,seval,-ae,r1,T,dc,w,wi,I];refine⟨_,by omega,i+1,L',by omega,rfl,rfl,k6,a6⟩
 clear wi Z hi;have fin:∀{g:PHeap} {L:Nat->Nat},Keep h3 g->TB h3.next g (λm=>m=N) O L N N (λj=>N-1-j) σ.next s vO vP vC->
   g.wr σ.next 0 [vO,vP,vC]=some (g.set σ.next [vO,vP,vC])/\(g.set σ.next [vO,vP,vC]).rd σ.next 0 3=some [vO,vP,vC]/\Gh σ K (.agg [vO,vP,vC]) (g.set σ.next [vO,vP,vC]):=λ{g L} kg a=>by
  obtain⟨e1,e2,e3⟩:=a.fin;refine⟨e1,e2,e3.fin (((kH.trans W).trans kg).set (na _) _) (by omega) λwO wP wC P C r1 r2=>hk wO wP wC O P C r1 ⟨by omega,fU,?_⟩⟩;rw[hN];exact r2
 refine zNk (Oj.keep E) (by omega) (λr hr=>by have:=(IV r hr).len;omega) λR J=>?_;simp only[Z3,seval,-ae,I];refine zF (λG vs h=>∃(i:Nat) (R:PV) (A:V2) (L:Nat->Nat),i<=l.length/\G=l.length-i/\vs=[.int .i64 p,vM,.ptr σ.next 0,.fz w1 V l.length (pis l),.ptr s 0,.int .i64 l.length,R,.int .i64 i]/\FII R A/\Ma p n A/\A.length=n/\Keep h3 h/\TB h3.next h (λm=>m=N) O L N N (λj=>N-1-j) σ.next s vO vP vC) l.length ?_ ?_
 .exact⟨0,R,M,L,YW _,rfl,rfl,J,by rw[hn];exact IV,hn.symm,E,D⟩
 clear E D fY J
 rintro G vs h ⟨i,R,A,L,hi,rfl,rfl,J,hA,Gu,E,D⟩
 have fY:=E.next;simp only[Z3,seval,-ae,I,J.one];refine iteI (λS=>?_) λZ=>?_;rotate_left
 .obtain⟨e1,e2,e3⟩:=fin E D;simp only[Z3,seval,-ae,D.r3,e1,e2];exact e3
 refine zF (λG vs h=>∃(j:Nat) (L:Nat->Nat),j<=n/\G=n-j/\vs=[.int .i64 p,vM,.ptr σ.next 0,.fz w1 V l.length (pis l),.ptr s 0,.int .i64 l.length,R,.int .i64 i,.int .i64 j]/\Keep h3 h/\TB h3.next h (λm=>m=N) O L N N (λj=>N-1-j) σ.next s vO vP vC) n ?_ ?_
 .exact⟨0,L,YW _,rfl,rfl,E,D⟩
 clear E D fY
 rintro G vs h ⟨j,L,hj,rfl,rfl,E,D⟩
 have fY:=E.next;have T:i<N:=by omega
 have dc:(i:Int)<(N:Int):=by omega
 have lj:(i:Int)<(l.length:Int):=by omega
 simp only[Z3,seval,-ae,hlen,I,J.one];refine iteI (λar=>?_) λZ=>?_;rotate_left
 .have xi:=(gZ _ (YK S)).b1;have gx:(pis l)[i]? = some (.int .i64 l[i]):=by rw[zK,gi S];rfl
  have JU:IntKind.i64.wrap ((i:Int)+1)=((i+1:Nat):Int):=WQ
  refine zF (λG vs h'=>∃(k:Nat) (wB:PV) (B:V2),1<=k/\k<=1000/\G=1000-k/\vs=[.int .i64 p,vM,.ptr σ.next 0,.fz w1 V l.length (pis l),.ptr s 0,.int .i64 l.length,wB,.int .i64 i,R,.int .i64 k]/\FII wB B/\Ma p n B/\B.length=n/\h'=h) 999 ?_ ?_
  .exact⟨1,R,A,na _,by decide,by decide,rfl,J,hA,Gu,rfl⟩
  rintro G vs h' ⟨k,wB,B,bQ,dq,rfl,rfl,hB,Gs,nO,rfl⟩
  simp only[Z3,seval,-ae,S,lj,gx,I,J.one,hB.one];refine iteI (λtR=>?_) λez=>?_;rotate_left
  .simp only[Z3,seval,-ae,JU,hB.one,I];exact⟨_,by omega,i+1,wB,B,L,by omega,rfl,rfl,hB,Gs,nO,E,D⟩
  have wk:IntKind.i64.wrap ((k:Int)+1)=((k+1:Nat):Int):=WQ
  simp only[Z3,seval,-ae,hlen];refine zHb hp (A:=B) (B:=A) (n:=n) (by rw[Gu];exact Gs) hA (by omega) (by omega) (by omega) hB J λz hz=>?_;have dE:=hz.one;simp only[Z3,seval,-ae,dE,wk,I,J.one];exact⟨_,by omega,k+1,z,mm p n B A,by omega,by omega,rfl,rfl,hz,mm_ma (by omega) (by rw[Gu];exact Gs) hA,by rw[zB1];exact nO⟩
 have j7:l.length+j-i-1<N-1-i:=by omega
 have iq:((l.length+j-i-1:Nat):Int)<((N-1-i:Nat):Int):=by omega
 have Fu:j<A.length:=by omega
 have Ft:(j:Int)<(A.length:Int):=by omega
 have G9:IntKind.i64.wrap ((l.length:Int)+(j:Int))=(l.length:Int)+(j:Int):=WE;have wj:IntKind.i64.wrap ((l.length:Int)+(j:Int)-(i:Int))=(l.length:Int)+(j:Int)-(i:Int):=WE;have pB:IntKind.i64.wrap ((l.length:Int)+(j:Int)-(i:Int)-1)=((l.length+j-i-1:Nat):Int):=WQ
 obtain⟨sC,capC,u,kU,rfl,q7,Cp,B4,Cl,y8,put⟩:=D.putCx T j7;have DR:¬sC=h.next:=by omega
 have uT:¬u=h.next:=by omega
 obtain⟨wA,aA,rA,rfl,yD⟩:=J;obtain⟨w4,a4,hr⟩:=yD.rowI Fu;have aL:=(hA _ (YK Fu)).len;simp only[Z3,seval,-ae,D.r2,q7,T,dc,G9,wj,pB,Fu,Ft,hr];refine Qq (before:=l.length) (behind:=0) ⟨w4,a4,rfl⟩ (by omega) (by omega) (by omega) λbE ys iP cY=>?_;have lL:ys.length=N:=by omega
 obtain⟨ds,L',rC,w,a6⟩:=put (xs:=ys) (cp:=bE) lL cY;have r2:(h.new (pis ys)).rd1 s 2=some (.sl sC 0 N capC):=(D.new _).r2;have k6:Keep h3 ((h.new (pis ys)).set u ds):=(E.new _).set (by omega) _;generalize h.new (pis ys)=g at *
 simp only[Z3,seval,-ae,r2,rC,T,dc,j7,iq,w,G9,wj,pB,wn ar,I];exact⟨_,by omega,j+1,L',by omega,rfl,rfl,k6,a6⟩
end
end Go.Proofs
