/- . -/
import Derived.Test.YtgkbfiilhocioaaGreatGP7
open Nat renaming le_refl→vH
open Int renaming reduceNatCast'->ae
set_option maxRecDepth 100000
namespace Go.Grp
end Go.Grp
set_option linter.unusedSimpArgs false
set_option linter.unusedVariables false
namespace Go.Proofs
open Go.Ab Go.Lie Go.Grp
variable{p:Int}{n c a:Nat}{W:L4}{B:L5}{x y:L3}{f:Vec}
noncomputable def lgP(p:Int)(n:Nat)(W:L4)(B:L5)(i:Nat):L3:=vcG p n W B (lmul p W p (unitL n i))
noncomputable def lgC(p:Int)(n:Nat)(W:L4)(B:L5)(i k:Nat):L3:=vcG p n W B (conj p n W B (unitL n (i+(1+k))) (unitL n i))
noncomputable def lgPs(p:Int)(n:Nat)(W:L4)(B:L5)(m:Nat):L4:=(List.range m).map (lgP p n W B)
noncomputable def lgR(p:Int)(n:Nat)(W:L4)(B:L5)(i m:Nat):L4:=(List.range m).map (lgC p n W B i)
noncomputable def lgCs(p:Int)(n:Nat)(W:L4)(B:L5)(m:Nat):L5:=(List.range m).map λi=>lgR p n W B i (n-1-i)
abbrev rO(p:Int)(n:Nat):L3:=List.replicate n p
theorem rO_at{j:Nat}(h:j<n):at_ (rO p n) j=p:=by rw[at_eq (by simpa using h)];simp
theorem getD_map{α:Type}(f:Nat->α)(d:α){m i:Nat}(h:i<m):((List.range m).map f).getD i d=f i:=by
 rw[List.getD_eq_getElem?_getD,List.getElem?_map,List.getElem?_range h];rfl
theorem zKK{j:Nat}(h:j<n):pvec (lgPs p n W B n) j=lgP p n W B j:=getD_map _ _ h
theorem zM6{i:Nat}(h:i<n):(lgCs p n W B n).getD i []=lgR p n W B i (n-1-i):=getD_map _ _ h
theorem zGA{i j:Nat}(h:i<j)(hj:j<n):cvec (lgCs p n W B n) i j=vcG p n W B (conj p n W B (unitL n j) (unitL n i)):=by
 show((lgCs p n W B n).getD i []).getD (j-i-1) []=_
 rw[zM6 (by omega)];unfold lgR;rw[getD_map _ _ (by omega)];unfold lgC;rw[show i+(1+(j-i-1))=j by omega]
theorem tt_el{t:Nat}(o:OkW p n W):TT (rO p n) t x↔El p n x/\∀j,j<t->at_ x j=0:=by
 constructor
 .intro h;have hl:x.length=n:=by rw[h.len];simp
  refine⟨⟨hl,λy hy=>?_⟩,h.zero⟩;obtain⟨i,hi,rfl⟩:=List.mem_iff_getElem.1 hy
  have:=h.bd i (by simp;omega)
  rw[rO_at (by omega),at_eq hi]at this;omega
 .rintro⟨h,h2⟩
  refine⟨by rw[h.1];simp,λj hj=>?_,h2⟩;rw[rO_at (by simpa using hj)]
  have:=h.at0 o j
  omega
noncomputable abbrev rPh (p:Int) (n:Nat) (W:L4) (B:L5) (x:L3) (t d:Nat):L3:=Grp.ph (bch p n W B) (List.replicate n 0) (unitL n) (nx x) t d
theorem Lz.pwu(z:Lz p n W B c){i:Nat}(hi:i<n)(k:Nat):Grp.pw (bch p n W B) (List.replicate n 0) (unitL n i) k=lmul p W k (unitL n i):=z.pw_eq (zW z.r.o.pr hi) k
theorem nx_eq(h:0<=at_ x a):((nx x a:Nat):Int)=at_ x a:=Int.toNat_of_nonneg h
theorem zBb(z:Lz p n W B c){x:L3}:∀{d t:Nat},t+d<=n->El p n (rPh p n W B x t d)/\(∀j,j<t->at_ (rPh p n W B x t d) j=0)/\(0<d->at_ (rPh p n W B x t d) t=(nx x t:Int) % p)
 |0,t,h=>⟨zAE z.r.o.pr,λj _=>ZB n j,λh=>by omega⟩
 |d+1,t,h=>by
  obtain⟨h1,h2,h3⟩:=zBb z (x:=x) (d:=d) (t:=t+1) (by omega);have e:rPh p n W B x t (d+1)=bch p n W B (lmul p W (nx x t) (unitL n t)) (rPh p n W B x (t+1) d):=by
   show bch p n W B (Grp.pw _ _ _ _) _=_;rw[z.pwu (by omega)]
  obtain⟨e1,e2,e3⟩:=zBs z.r.o (show t<n by omega) (nx x t:Int);obtain⟨k1,k2⟩:=z.headL e1 h1 (by omega) e2;rw[e];refine⟨zAS z.r.o z.r.q e1 h1,λj hj=>by rw[k1 j hj];exact h2 j (by omega),λ_=>?_⟩;rw[k2,e3,h2 t (by omega),Int.add_zero,Int.emod_emod_of_dvd _ (Int.dvd_refl p)]
theorem zMa(z:Lz p n W B c):∀{d t:Nat} {x y:L3},t+d<=n->(∀j,t<=j->j<t+d->(0<=at_ x j/\at_ x j<p)/\(0<=at_ y j/\at_ y j<p))->rPh p n W B x t d=rPh p n W B y t d->∀j,t<=j->j<t+d->at_ x j=at_ y j
 |0,t,x,y,h,hr,e,j,h1,h2=>by omega
 |d+1,t,x,y,h,hr,e,j,h1,h2=>by
  have a1:=(zBb z (x:=x) (d:=d+1) (t:=t) h).2.2 (by omega);have a2:=(zBb z (x:=y) (d:=d+1) (t:=t) h).2.2 (by omega);obtain⟨⟨r1,r2⟩,r3,r4⟩:=hr t (vH _) (by omega);have ht:at_ x t=at_ y t:=by
   rw[e,a2,nx_eq r1,nx_eq r3,Int.emod_eq_of_lt r1 r2,Int.emod_eq_of_lt r3 r4]at a1;exact a1.symm
  rcases Nat.lt_or_ge t j with hj|hj
  .have G:=z.gp;refine zMa z (d:=d) (t:=t+1) (by omega) (λj h1 h2=>hr j (by omega) (by omega)) ?_ j hj (by omega);have hu:=zW (n:=n) z.r.o.pr (show t<n by omega);refine G.cancel (G.pw hu (nx x t)) (zBb z (by omega)).1 (zBb z (by omega)).1 ?_
   have:nx x t=nx y t:=by unfold nx;rw[ht]
   show rPh p n W B x t (d+1)=_;rw[e,this];rfl
  .have:j=t:=by omega
   subst this;exact ht
theorem pt_ph(z:Lz p n W B c)(hx:El p n x):rPh p n W B x 0 n=ptG p n W B x n:=by
 have o:=z.r.o;have key:∀i,i<=n->bch p n W B (ptG p n W B x i) (rPh p n W B x i (n-i))=rPh p n W B x 0 n:=by
  intro i
  induction i with
  |zero=>intro _;exact z.one_l (zBb z (by omega)).1
  |succ i ih=>
   intro hi;rw[<-ih (by omega)];have hu:=zW (n:=n) o.pr (show i<n by omega);have hp:=zDC o z.r.q x (i:=i) (by omega);have e:rPh p n W B x i (n-i)=bch p n W B (lmul p W (nx x i) (unitL n i)) (rPh p n W B x (i+1) (n-(i+1))):=by
    rw[show n-i=(n-(i+1))+1 by omega];show bch p n W B (Grp.pw _ _ _ _) _=_;rw[z.pwu (by omega)]
   rw[e,<-z.assoc hp (zH o hu hu) (zBb z (by omega)).1,nx_eq (hx.at0 o i).1];rfl
 rw[<-key n (vH _),Nat.sub_self];exact z.one_r (zDC o z.r.q x (vH _))
theorem ph_vc(z:Lz p n W B c)(hx:El p n x){t:Nat}(ht:t<=n)(h:∀j,j<t->at_ x j=0):rPh p n W B (vcG p n W B x) t (n-t)=x:=by
 have e:=pt_ph z (vc_el z hx);rw[pt_vc z hx]at e;have k:=z.gp.toMon.ph_skip (h:=unitL n) (x:=nx (vcG p n W B x)) (d:=n-t) (k:=t) (t:=0) (λj _ hj=>by unfold nx;rw[(zFp z hx ht h).1 j (by omega)];rfl) (λj _ hj=>zW z.r.o.pr (by omega));rw[Nat.zero_add,show t+(n-t)=n by omega]at k;exact k.symm.trans e
theorem zNc(z:Lz p n W B c)(hx:El p n x)(hy:El p n y)(ha:a<n)(h:∀j,j<a->at_ x j=0):(∀j,j<a->at_ (conj p n W B x y) j=0)/\at_ (conj p n W B x y) a=at_ x a:=by
 have o:=z.r.o;have hc:=zKT o z.r.q hx hy;obtain⟨u,hu,e⟩:=z.conj_fil z.filD hx hy;obtain⟨v,h1,h2,h3⟩:=hu a (.inl (Dzv.of hx h));have e2:=e.trans ((Eqv.refl (at_ x)).add h3);obtain⟨k1,k,k2⟩:=QX o e2 ha (λj hj=>hc.at0 o j) (λj hj=>by rw[h2 j (by omega),h j hj];have:=o.pr.1;omega);refine⟨λj hj=>by rw[k1 j hj,h2 j (by omega),h j hj];rfl,?_⟩
 have:=zFJ k2 (hc.at0 o a)
 rw[this,h2 a (by omega),Int.add_zero,Int.emod_eq_of_lt (hx.at0 o a).1 (by have:=hx.at0 o a;omega)]
theorem vc_tt(z:Lz p n W B c)(hx:El p n x){t:Nat}(ht:t<=n)(h:∀j,j<t->at_ x j=0):TT (rO p n) t (vcG p n W B x):=(tt_el z.r.o).2 ⟨vc_el z hx,(zFp z hx ht h).1⟩
theorem zCp(z:Lz p n W B c){i j:Nat}(h:i<j)(hj:j<n):El p n (conj p n W B (unitL n j) (unitL n i))/\(∀k,k<j->at_ (conj p n W B (unitL n j) (unitL n i)) k=0)/\at_ (conj p n W B (unitL n j) (unitL n i)) j=1:=by
 have o:=z.r.o;have hi:=zW (n:=n) o.pr (show i<n by omega);have hu:=zW (n:=n) o.pr hj;obtain⟨h1,h2⟩:=zNc z hu hi hj (zAl hj).1;exact⟨zKT o z.r.q hu hi,h1,by rw[h2,(zAl hj).2]⟩
theorem zDF(z:Lz p n W B c){j:Nat}(hj:j<n):El p n (lmul p W p (unitL n j))/\∀k,k<j+1->at_ (lmul p W p (unitL n j)) k=0:=by
 obtain⟨e1,e2,e3⟩:=zBs z.r.o hj p;refine⟨e1,λk hk=>?_⟩;rcases Nat.lt_or_ge k j with h|h
 .exact e2 k h
 .have:k=j:=by omega
  subst this;rw[e3,Int.emod_self]
theorem zQP(z:Lz p n W B c){t j:Nat}(h:t<=j)(hj:j<n):rPh p n W B (unitL n j) t (n-t)=unitL n j:=by
 have o:=z.r.o;have hu:=zW (n:=n) o.pr hj;have k:=z.gp.toMon.ph_skip (h:=unitL n) (x:=nx (unitL n j)) (d:=n-j) (k:=j-t) (t:=t) (λk h1 h2=>by unfold nx;rw[Q5 hj,if_neg (by omega)];rfl) (λk h1 h2=>zW o.pr (by omega));rw[show j-t+(n-j)=n-t by omega,show t+(j-t)=j by omega]at k;refine k.trans ?_;have k2:=z.gp.toMon.ph_skip (h:=unitL n) (x:=nx (unitL n j)) (d:=0) (k:=n-(j+1)) (t:=j+1) (λk h1 h2=>by unfold nx;rw[Q5 hj,if_neg (by omega)];rfl) (λk h1 h2=>zW o.pr (by omega));simp only[Nat.add_zero]at k2;rw[show n-j=(n-(j+1))+1 by omega];show bch p n W B (Grp.pw _ _ _ _) (Grp.ph _ _ _ _ _ _)=_;rw[k2];have e1:nx (unitL n j) j=1:=by unfold nx;rw[(zAl hj).2];rfl
 rw[e1,z.gp.toMon.pw_one hu];exact z.one_r hu
theorem zM5(z:Lz p n W B c):Shp (rO p n) (lgPs p n W B n) (lgCs p n W B n) where
 le:=by simp;exact z.r.o.le
 pr:=λj hj=>by rw[rO_at (by simpa using hj)];exact z.r.o.pr
 pl:=by simp[lgPs]
 cl:=by simp[lgCs]
 pw:=λi hi=>by
  have gM:i<n:=by simpa using hi
  rw[zKK gM];exact vc_tt z (zDF z gM).1 (by omega) (zDF z gM).2
 row:=λi hi=>by
  have gM:i<n:=by simpa using hi
  rw[zM6 gM];simp[lgR]
 cj:=λi j jB hj=>by
  have fq:j<n:=by simpa using hj
  rw[zGA jB fq];obtain⟨h1,h2,h3⟩:=zCp z jB fq;exact vc_tt z h1 (by omega) λk hk=>h2 k (by omega)
theorem zRm(z:Lz p n W B c):Rel (rO p n) (lgPs p n W B n) (lgCs p n W B n) (El p n) (bch p n W B) (List.replicate n 0) (unitL n) 0 where
 mem:=λj _ hj=>zW z.r.o.pr (by simpa using hj)
 pow:=λj _ hj=>by
  have fq:j<n:=by simpa using hj
  obtain⟨h1,h2⟩:=zDF z fq;rw[zKK fq];have e:=ph_vc z h1 (show j+1<=n by omega) h2;have el:(rO p n).length=n:=by simp
  show _=Grp.ph _ _ _ _ ((rO p n).length-((rO p n).length-(j+1))) ((rO p n).length-(j+1));rw[el,show n-(n-(j+1))=j+1 by omega];refine Eq.trans ?_ e.symm;rw[z.pwu fq];unfold nx;rw[rO_at fq,Int.toNat_of_nonneg (by have:=z.r.o.pr.1;omega)]
 cj:=λj k _ nh hk=>by
  have cH:k<n:=by simpa using hk
  have o:=z.r.o;obtain⟨h1,h2,h3⟩:=zCp z nh cH;rw[zGA nh cH];have e:=ph_vc z h1 (show j+1<=n by omega) (λi hi=>h2 i (by omega));have el:(rO p n).length=n:=by simp
  show _=bch p n W B _ (Grp.ph _ _ _ _ ((rO p n).length-((rO p n).length-(j+1))) ((rO p n).length-(j+1)));rw[el,show n-(n-(j+1))=j+1 by omega];refine Eq.trans ?_ (congrArg (bch p n W B (unitL n j)) e.symm);exact(z.conj_move (zW o.pr cH) (zW o.pr (by omega))).symm
theorem zQj(z:Lz p n W B c):Cons (rO p n) (lgPs p n W B n) (lgCs p n W B n):=by
 have el:(rO p n).length=n:=by simp
 have o:=z.r.o;have fV:∀i x,Ph (rO p n) (bch p n W B) (List.replicate n 0) (unitL n) ((rO p n).length-(i+1)) x=Grp.ph (bch p n W B) (List.replicate n 0) (unitL n) (nx x) (n-(n-(i+1))) (n-(i+1)):=λi x=>by
  show Grp.ph _ _ _ _ ((rO p n).length-((rO p n).length-(i+1))) ((rO p n).length-(i+1))=_;rw[el]
 refine Cons.of_rel (zM5 z) z.gp (zRm z) (λi hi x y hx hy e=>?_) (λi j x jB hj hx=>?_) (λi j jB hj=>?_)
 .have gM:i<n:=by simpa using hi
  rw[show(rO p n).length-1-i=(rO p n).length-(i+1) by omega,fV,fV,show n-(n-(i+1))=i+1 by omega]at e;have hr:∀j,i+1<=j->j<i+1+(n-(i+1))->(0<=at_ x j/\at_ x j<p)/\(0<=at_ y j/\at_ y j<p):=λj h1 h2=>by
   have b1:=hx.bd j (by rw[el];omega);have b2:=hy.bd j (by rw[el];omega);rw[rO_at (by omega)]at b1 b2;exact⟨b1,b2⟩
  have:=zMa z (by omega) hr e
  exact hx.ext hy λj h1 h2=>this j h1 (by omega)
 .have fq:j<n:=by simpa using hj
  rw[show(rO p n).length-1-i=(rO p n).length-(i+1) by omega,fV,fV,show n-(n-(i+1))=i+1 by omega,show n-(n-(j+1))=j+1 by omega];have k:=z.gp.toMon.ph_skip (h:=unitL n) (x:=nx x) (d:=n-(j+1)) (k:=j-i) (t:=i+1) (λk h1 h2=>by unfold nx;rw[hx.zero k (by omega)];rfl) (λk h1 h2=>zW o.pr (by omega));rw[show j-i+(n-(j+1))=n-(i+1) by omega,show i+1+(j-i)=j+1 by omega]at k;exact k
 .have fq:j<n:=by simpa using hj
  rw[show(rO p n).length-1-i=(rO p n).length-(i+1) by omega,fV,show n-(n-(i+1))=i+1 by omega];have eu:Grp.unit (rO p n) j=unitL n j:=by show(List.replicate (rO p n).length 0).set j 1=_;rw[el];rfl
  rw[eu];exact zQP z (by omega) fq
end Go.Proofs
namespace Go.Proofs
open Go.Ab Go.Lie Go.Grp
variable{p:Int}{n c:Nat}{W:L4}{B:L5}{x:L3}
theorem zFr{O x:L3}{t:Nat}(h:TT O t x):zDO O t x:=by
 refine⟨⟨h.len,λj hj=>by have:=h.bd j (by rw[<-h.len];exact hj);omega⟩,λv hv=>?_⟩;rw[List.mem_take_iff_getElem]at hv;obtain⟨j,hj,rfl⟩:=hv;rw[<-at_eq];exact h.zero j (by omega)
theorem zHz(p:Int):∀n,ipow p n=p ^ n
 |0=>by simp[ipow]
 |n+1=>by rw[Int.pow_succ,<-zHz p n];simp only[ipow];try rw[Int.mul_comm]
theorem zQi(z:Lz p n W B c):zAs (rO p n) (lgPs p n W B n) (lgCs p n W B n):=by
 have s:=zM5 z;have el:(rO p n).length=n:=by simp
 refine⟨s.le,s.pl,s.cl,λo ho=>by rw[List.eq_of_mem_replicate ho];exact z.hp,?_,λi hi=>⟨zFr (s.pw i hi),s.row i hi,λk hk=>?_⟩⟩
 .rw[zGN λo ho=>List.eq_of_mem_replicate ho,el,<-zHz];exact z.pow
 .rw[s.row i hi]at hk
  have:=s.cj i (i+1+k) (by omega) (by omega)
  unfold cvec at this;rw[show i+1+k-i-1=k by omega]at this;exact zFr this
theorem zRn(z:Lz p n W B c):isCen (rO p n) (lgCs p n W B n):=by
 have el:(rO p n).length=n:=by simp
 intro i hi;rw[el]at hi;refine⟨by rw[rO_at hi,rO_at (by omega)],λq hq=>?_⟩;rw[el]at hq;obtain⟨h1,h2,h3⟩:=zCp z (i:=i) (j:=i+(1+q)) (by omega) hq;have e:=zGA (p:=p) (W:=W) (B:=B) (i:=i) (j:=i+(1+q)) (by omega) hq;obtain⟨k1,k2⟩:=zFp z h1 (Nat.le_of_lt hq) h2;refine⟨?_,?_⟩
 .rw[e,k2 hq,h3]
 .rw[e];exact(zFr (vc_tt z h1 (Nat.le_of_lt hq) h2)).2
theorem lg_LG(z:Lz p n W B c):LG (rO p n) (lgPs p n W B n) (lgCs p n W B n):=⟨zQi z,zQj z,zRn z⟩
theorem gS_el(z:Lz p n W B c):gS (rO p n) x↔El p n x:=by
 rw[show gS (rO p n) x=TT (rO p n) 0 x from rfl,tt_el z.r.o];exact⟨λh=>h.1,λh=>⟨h,λj hj=>by omega⟩⟩
end Go.Proofs
namespace Go.Proofs
open Go.Ab Go.Lie
variable{U H h:PHeap}{K:PV->PHeap->Prop}{n c:Nat}{p:Int}{W:L4}{B:L5}{vP vB:PV}{s:Nat}
theorem zLu{P:Program}{c:IC}{Q:Exit->PEnv->PHeap->Prop}{e:PEnv}{h:PHeap}(id:Nat)(J:PEnv->PHeap->Prop)(h1:∀Q':Exit->PEnv->PHeap->Prop,(∀e h,J e h->Q' (.exit id) e h)->vp P c Q' e h)(h2:∀e h,J e h->Q (.exit id) e h):vp P c Q e h:=h1 Q h2
theorem zGt(z:Lz p n W B c)(hs:PtrR U s p vP vB)(hR:IsR vP vB W B)
  (hk:∀vO vQ vC t,FI vO (List.replicate n p)->FII vQ (lgPs p n W B n)->FIII vC (lgCs p n W B n)->Own U.top t (.agg [vO,vQ,vC])->U.top<=t->K (.agg [vO,vQ,vC]) (U.up t)):
  zA Tryz.prog 94 [.ptr s 0] U K:=by
 have o:=z.r.o;have q:=z.r.q;have aX:=o.le;have fa:=o.len;have gA:=hs.lt;have iU:=z.hp.bd;have aM:=hR;obtain⟨⟨wp,ap,rp,rfl,ks⟩,hB⟩:=hR;have e1:U.rd1 s 1=some (.fz wp ap W.length rp):=by rw[zG hs.obj];rfl
 have e0:U.rd1 s 0=some (.int .i64 p):=by rw[zG hs.obj];rfl
 have iX:¬s=U.next:=by omega
 refine zA.gh ?_;refine zP mix Tryz.func94 cf94 rfl ?_;dsimp only[if94,eI,qD,eD,mI0,kI0,lI0,LI0,fI0,xI0,bI0,cI0,sI0,pI0,C1,C2,mD0,lD0,fD0,xD0,pD0,I0,vI0,wD0,R0,S0];simp only[Z3,seval,-ae,e0,e1,iX,fa];refine zA.frz (s:=U.next+1) (cs:=pis [p]) (by simp only[Z3,seval,-ae];rfl) (zN _ _) λo1=>?_;simp only[sbs,Go.Ab.sb,capOK,and_self,if_true,decide_true,vH];refine zNo rfl aX λvr hr=>?_;simp only[Z3,seval,-ae];have pL:∀{g:PHeap} {u0 u1 u2:PV},Keep (U.new [.fz true .nils 0 [],.fz true .nils 0 [],.fz true .nils 0 []]) g->u0.one=true->u1.one=true->u2.one=true->g.wr U.next 0 [u0,u1,u2]=some (g.set U.next [u0,u1,u2])/\(g.set U.next [u0,u1,u2]).rd U.next 0 3=some [u0,u1,u2]:=λ{g u0 u1 u2} k z0 z1 z2=>by
  have cb:g.obj U.next=some [.fz true .nils 0 [],.fz true .nils 0 [],.fz true .nils 0 []]:=by rw[k.obj _ (Nat.lt_succ_self _),qa,if_pos rfl]
  exact⟨by rw[QB cb,if_pos ⟨by simp,by simp only[List.all_cons,List.all_nil,z0,z1,z2];rfl⟩];rfl,by rw[zDn,if_pos rfl];rfl⟩
 generalize hS:((U.new [.fz true .nils 0 [],.fz true .nils 0 [],.fz true .nils 0 []]).new [.int .i64 p]).kill (U.next+1)=S;have u7:S.next=U.next+2:=by rw[<-hS];rfl
 have uv:Keep (U.new [.fz true .nils 0 [],.fz true .nils 0 [],.fz true .nils 0 []]) S:=by rw[<-hS];exact(zD _ _).kill (vH _)
 have dh:=zD U [.fz true .nils 0 [],.fz true .nils 0 [],.fz true .nils 0 []];rcases Nat.eq_zero_or_pos n with ud|aD
 .as_aux_lemma=>
  subst ud;refine zC3 hr (λh1 k1=>?_) λh1 cap hc k1 ho ag=>?_
  .have k2:=(uv.trans k1).new [.fz true .nils 0 [],.fz true .nils 0 [],.fz true .nils 0 []];obtain⟨g1,g2⟩:=pL k2 (u0:=.fz true .nils 0 []) (u1:=.fz true .nils 0 []) (u2:=.fz true .nils 0 []) rfl rfl rfl;have g3:(h1.new [.fz true .nils 0 [],.fz true .nils 0 [],.fz true .nils 0 []]).rd h1.next 0 3=some [.fz true .nils 0 [],.fz true .nils 0 [],.fz true .nils 0 []]:=by simp only[Z3,seval,-ae]
   simp only[Z3,seval,-ae];refine zF (λm us h'=>m=0/\us=[.ptr s 0,.ptr U.next 0,.int .i64 (0:Nat),.ptr h1.next 0,.int .i64 (0:Nat),.int .i64 (0:Nat)]/\h'=h1.new [.fz true .nils 0 [],.fz true .nils 0 [],.fz true .nils 0 []]) 0 ⟨rfl,rfl,rfl⟩ ?_
   rintro m us h' ⟨rfl,rfl,rfl⟩
   generalize hg:h1.new [.fz true .nils 0 [],.fz true .nils 0 [],.fz true .nils 0 []]=g at *
   simp only[Z3,seval,-ae,g1,g2,g3];exact Gh.treeO (t:=.agg [.nil,.nil,.nil]) ((dh.trans k2).set (vH _) _) ⟨trivial,trivial,trivial,trivial⟩ List.nodup_nil λa T h1 h2=>hk _ _ _ T ⟨true,.nils,rfl⟩ ⟨true,.nils,[],rfl,All2.nil _⟩ ⟨true,.nils,[],rfl,All2.nil _⟩ h1 h2
  .have k2:=(uv.trans k1).new [.sl (S.next+1) 0 0 cap,.fz true .nils 0 [],.fz true .nils 0 []];obtain⟨g1,g2⟩:=pL k2 (u0:=.sl (S.next+1) 0 0 cap) (u1:=.fz true .nils 0 []) (u2:=.fz true .nils 0 []) rfl rfl rfl;have g3:(h1.new [.sl (S.next+1) 0 0 cap,.fz true .nils 0 [],.fz true .nils 0 []]).rd h1.next 0 3=some [.sl (S.next+1) 0 0 cap,.fz true .nils 0 [],.fz true .nils 0 []]:=by simp only[Z3,seval,-ae]
   simp only[Z3,seval,-ae];refine zF (λm us h'=>m=0/\us=[.ptr s 0,.ptr U.next 0,.int .i64 (0:Nat),.ptr h1.next 0,.int .i64 (0:Nat),.int .i64 (0:Nat)]/\h'=h1.new [.sl (S.next+1) 0 0 cap,.fz true .nils 0 [],.fz true .nils 0 []]) 0 ⟨rfl,rfl,rfl⟩ ?_
   rintro m us h' ⟨rfl,rfl,rfl⟩
   generalize hg:h1.new [.sl (S.next+1) 0 0 cap,.fz true .nils 0 [],.fz true .nils 0 []]=g at *
   simp only[Z3,seval,-ae,g1,g2,g3];refine Gh.treeO (t:=.agg [TR.row (S.next+1) cap [],.nil,.nil]) ((dh.trans k2).set (vH _) _) ⟨TR.row_ok hc ?_ (by omega) ?_,trivial,trivial,trivial⟩ (by simp[TR.slots,TR.slotss,TR.row]) λa T h1 h2=>hk _ _ _ T TR.row_FI ⟨true,.nils,[],rfl,All2.nil _⟩ ⟨true,.nils,[],rfl,All2.nil _⟩ h1 h2
   .rw[zI,if_neg (by omega),<-hg,qa,if_neg (by omega)];exact ho
   .rw[<-hg];show S.next+1<h1.next+1;omega
 refine zC0 (n:=n) hr (by simp) aD aX λcapO vQ vC pc ls h1 np ti jY lD ga=>?_;obtain⟨sP,capP,rfl,cP,oP,lP,bP,xP⟩:=ti.accP.pos (by omega);obtain⟨sC,capC,rfl,cC,oC,lC,bC,xC⟩:=ti.accC.pos (by omega);rw[jY]at cP;rw[lD]at cC;have we:=ti.oO;have sF:=ti.sOb;have b:BF (U.new [.fz true .nils 0 [],.fz true .nils 0 [],.fz true .nils 0 []]) (h1.new [.sl (S.next+1) 0 n capO,.sl sP 0 n capP,.sl sC 0 n capC]) h1.next (S.next+1) sP sC ls:=by
  have hb:∀s,s∈[h1.next,S.next+1,sP,sC]++LS.slots ls->S.next<=s/\s<h1.next+1:=λs hs=>by
   simp only[List.cons_append,List.nil_append,List.mem_cons]at hs
   have:=ti.keep.next
   rcases hs with rfl|rfl|rfl|rfl|hs
   .omega
   .omega
   .omega
   .omega
   .have:=ti.lt hs;omega
  refine⟨λs hs=>⟨by have:=(hb s hs).1;show U.next+1<=s;omega,(hb s hs).2⟩,?_⟩;simp only[List.cons_append,List.nil_append,List.nodup_cons,List.mem_cons,not_or];refine⟨⟨by omega,by omega,by omega,λhm=>by have:=(ti.lt hm).2;omega⟩,⟨λe=>ti.neP (S.next+1) (.inr (.inr rfl)) 0 _ capP (by rw[<-e]),λe=>ti.neC (S.next+1) (.inr (.inr rfl)) 0 _ capC (by rw[<-e]),ti.neL.2⟩,⟨λe=>ti.nePC sP 0 _ capP rfl 0 _ capC (by rw[e]),λhm=>ti.neP sP (.inl hm) 0 _ capP rfl⟩,λhm=>ti.neC sC (.inl hm) 0 _ capC rfl,ti.nd⟩
 have li:LI (U.new [.fz true .nils 0 [],.fz true .nils 0 [],.fz true .nils 0 []]) (h1.new [.sl (S.next+1) 0 n capO,.sl sP 0 n capP,.sl sC 0 n capC]) (h1.new [.sl (S.next+1) 0 n capO,.sl sP 0 n capP,.sl sC 0 n capC]) h1.next (S.next+1) sP sC (.sl (S.next+1) 0 n capO) capP capC n (pis (List.replicate n p)) pc ls [] [] []:=by
  refine⟨(uv.trans ti.keep).new _,vH _,by rw[qa,if_pos rfl],by rw[qa,if_neg (by omega)];exact we,by rw[qa,if_neg (by omega)];simpa using oP,by rw[qa,if_neg (by omega)];exact oC,λj q hq=>?_,λq hq=>(by simp at hq),by simp[ZR]⟩
  have:=(ti.ok q (List.mem_of_getElem? hq))
  rw[qa,if_neg (by have:=this.2.2.2;omega),this.2.1];unfold cont;simp
 rw[jY,lD];simp only[Z3,seval,-ae];clear oP oC lP lC bP bC we sF;generalize h1.new [.sl (S.next+1) 0 n capO,.sl sP 0 n capP,.sl sC 0 n capC]=H at *
 generalize h1.next=tp at *
 refine zF (λm us h=>∃(i:Nat) (rows:List SR) (Rs:List (List SR)),i<=n/\m=n-i/\us=[.ptr s 0,.ptr U.next 0,.int .i64 n,.ptr tp 0,.int .i64 n,.int .i64 i]/\LI (U.new [.fz true .nils 0 [],.fz true .nils 0 [],.fz true .nils 0 []]) H h tp (S.next+1) sP sC (.sl (S.next+1) 0 n capO) capP capC n (pis (List.replicate n p)) pc ls rows Rs []/\rows.length=i/\Rs.length=i/\rows.map SR.x=lgPs p n W B i/\Rs.map (λR=>R.map SR.x)=lgCs p n W B i) n ⟨0,[],[],by omega,by omega,rfl,li,rfl,rfl,rfl,rfl⟩ ?_
 as_aux_lemma=>
 rintro m us h ⟨i,rows,Rs,hi,rfl,rfl,a,aT,lL,iH,r7⟩
 have rJ:PtrR (U.new [.fz true .nils 0 [],.fz true .nils 0 [],.fz true .nils 0 []]) s p (.fz wp ap W.length rp) vB:=hs.new _;have ko:=rJ.keep a.keep;have p0:h.rd1 s 0=some (.int .i64 p):=by rw[zG ko.obj];rfl
 have f1:h.rd1 tp 1=some (.sl sP 0 n capP):=by rw[zG a.tpo];rfl
 have f2:h.rd1 tp 2=some (.sl sC 0 n capC):=by rw[zG a.tpo];rfl
 have f3:h.rd tp 0 3=some [.sl (S.next+1) 0 n capO,.sl sP 0 n capP,.sl sC 0 n capC]:=by rw[ZT a.tpo];rfl
 simp only[Z3,seval,-ae];refine iteI (λag=>?_) λaG=>?_;rotate_left
 .as_aux_lemma=>
  have aI:i=n:=by omega
  rw[aI]at aT lL iH r7;obtain⟨g1,g2⟩:=pL a.keep (u0:=.sl (S.next+1) 0 n capO) (u1:=.sl sP 0 n capP) (u2:=.sl sC 0 n capC) rfl rfl rfl;simp only[Z3,seval,-ae,f3,g1,g2];have hf:Fits ls Rs:=by
   refine⟨by omega,λj o' R ho hR=>?_⟩;obtain⟨hj,iZ⟩:=List.getElem?_eq_some_iff.1 ho;obtain⟨Cz,Ag⟩:=List.getElem?_eq_some_iff.1 hR;have A7:R.length=n-1-j:=by
    have e:=congrArg (λL=>L[j]?) r7;simp only[List.getElem?_map,hR,Option.map_some]at e;unfold lgCs at e;rw[List.getElem?_map,List.getElem?_range (by omega)]at e;simp only[Option.map_some,Option.some.injEq]at e
    have:=congrArg List.length e
    simpa [lgR]using this
   obtain⟨s1,s2⟩:=ga j hj;rw[iZ]at s1 s2;by_cases e:j+1=n
   .rw[s1 e];exact List.eq_nil_of_length_eq_zero (by omega)
   .obtain⟨q,e1,e2⟩:=s2 (by omega);rw[e1];show R.length=_;omega
  have fin:=LI.fin (K:=K) (Y:=[.sl (S.next+1) 0 n capO,.sl sP 0 n capP,.sl sC 0 n capC]) (res:=U.next) (capO:=capO) (capP:=capP) (capC:=capC) dh ⟨vH _,Nat.lt_succ_self _⟩ (by rw[List.length_replicate];exact np) (by rw[aT];exact cP) (by rw[lL];exact cC) (by omega) (λq hq=>(ti.ok q hq).1) b a hf λvO vQ vC t h1 h2 h3 h4 h5=>hk vO vQ vC t h1 (by rw[<-iH];exact h2) (by rw[<-r7];exact h3) h4 h5;rw[List.length_replicate,aT,lL]at fin;exact fin
 have aF:i<n:=by omega
 have hu:=zW (n:=n) o.pr aF;have ai:¬tp=h.next:=by have:=(b.b tp (by simp)).2;have:=a.nx;omega
 simp only[Z3,seval,-ae];refine ZM (by omega) aF λa1=>?_;simp only[Z3,seval,-ae,f1,p0,fa];refine zB3 o ko aM.P hu ⟨true,a1,by rw[hu.1]⟩ (k:=p) (by omega) λv1 sh=>?_;have bD:=zH o (k:=p) (m:=0) hu hu;simp only[Z3,seval,-ae,f1];refine zA6 z ko aM (x:=lmul p W p (unitL n i)) bD sh λfM lK=>?_;have aV:(vcG p n W B (lmul p W p (unitL n i))).length=n:=Qg n;have tj:vcG p n W B (lmul p W p (unitL n i))=lgP p n W B i:=rfl;rw[tj]at aV ⊢;have a9:=a;obtain⟨u1,a2⟩:=LI.putP b a (x:=lgP p n W B i) (cap:=fM) (by rw[aV];exact lK) (by omega);rw[aT,aV]at u1;rw[aT]at a2;have xE:(h.new (pis (lgP p n W B i))).rd1 tp 1=some (.sl sP 0 n capP):=by rw[zG (a.keepI b (zD h _)).tpo];rfl
 generalize h.new (pis (lgP p n W B i))=hN at *
 have bX:(rows++[(⟨h.next,fM,lgP p n W B i⟩:SR)]).map SR.x=lgPs p n W B (i+1):=by
  rw[List.map_append,iH];unfold lgPs;rw[List.range_succ,List.map_append];rfl
 have oF:(rows++[(⟨h.next,fM,lgP p n W B i⟩:SR)]).length=i+1:=by rw[List.length_append,aT];rfl
 generalize rows++[(⟨h.next,fM,lgP p n W B i⟩:SR)]=fU at *
 clear f1 f2 f3 p0 iH aT a9;generalize hN.set sP (fU.map SR.pv++pc.drop (i+1))=h0 at *
 have lC:∀{g:PHeap} {cur:List SR},LI (U.new [.fz true .nils 0 [],.fz true .nils 0 [],.fz true .nils 0 []]) H g tp (S.next+1) sP sC (.sl (S.next+1) 0 n capO) capP capC n (pis (List.replicate n p)) pc ls fU Rs cur->g.rd1 tp 2=some (.sl sC 0 n capC)/\g.rd1 sC i=some (LS.pvo (ls[i]'(by omega)))/\g.rd1 s 0=some (.int .i64 p):=λ{g cur} l=>by
  refine⟨by rw[zG l.tpo];rfl,?_,by rw[zG (rJ.keep l.keep).obj];rfl⟩;rw[zG l.oC,List.getElem?_map,List.getElem?_eq_getElem (by omega)];rfl
 obtain⟨g2,gC,gp⟩:=lC a2;obtain⟨s1,s2⟩:=ga i (by omega);have jY:pLen (LS.pvo (ls[i]'(by omega)))=some (.int .i64 ((n-1-i:Nat):Int)):=by
  by_cases e:i+1=n
  .rw[s1 e,show n-1-i=0 by omega];rfl
  .obtain⟨q',e1,e2⟩:=s2 (by omega);rw[e1,<-e2];rfl
 simp only[Z3,seval,-ae,xE,aF,u1,g2,gC,jY];clear u1 xE;refine zLu 2 (λe h=>∃(cur:List SR) (b0:PV),e=PEnv.mk [0,2,3,4,5,6,21,22,46,47,48] [.ptr s 0,.ptr U.next 0,.int .i64 n,.ptr tp 0,.int .i64 i,.fz true a1 n (pis (unitL n i)),.int .i64 n,.int .i64 i,.int .i64 ((n-1-i:Nat):Int),.int .i64 ((n-1-i:Nat):Int),b0]/\LI (U.new [.fz true .nils 0 [],.fz true .nils 0 [],.fz true .nils 0 []]) H h tp (S.next+1) sP sC (.sl (S.next+1) 0 n capO) capP capC n (pis (List.replicate n p)) pc ls fU Rs cur/\cur.map SR.x=lgR p n W B i (n-1-i)) (λQ hQ=>?_) ?_;rotate_left
 .as_aux_lemma=>
  rintro e h9 ⟨cur,b0,rfl,l,bY⟩
  have di:cur.length=n-1-i:=by have:=congrArg List.length bY;simpa [lgR]using this
  have l2:=l.close (λq' cG=>by
   rw[lL]at cG;obtain⟨hj,iZ⟩:=List.getElem?_eq_some_iff.1 cG;by_cases e:i+1=n
   .rw[s1 e]at iZ;cases iZ
   .obtain⟨q2,e1,e2⟩:=s2 (by omega);rw[e1]at iZ;cases iZ;omega)
  simp only[Z3,seval,-ae,wrapS aF (by omega:n<=4611686018427387904)];refine⟨_,by omega,i+1,fU,Rs++[cur],by omega,rfl,rfl,l2,oF,by rw[List.length_append,lL];rfl,bX,?_⟩;rw[List.map_append,r7];unfold lgCs;rw[List.range_succ,List.map_append];simp only[List.map_cons,List.map_nil,bY]
 as_aux_lemma=>
 refine zF (λm us h=>∃(k:Nat) (cur:List SR),k<=n-1-i/\m=n-1-i-k/\us=[.ptr s 0,.ptr U.next 0,.int .i64 n,.ptr tp 0,.int .i64 i,.fz true a1 n (pis (unitL n i)),.int .i64 n,.int .i64 i,.int .i64 ((n-1-i:Nat):Int),.int .i64 k]/\LI (U.new [.fz true .nils 0 [],.fz true .nils 0 [],.fz true .nils 0 []]) H h tp (S.next+1) sP sC (.sl (S.next+1) 0 n capO) capP capC n (pis (List.replicate n p)) pc ls fU Rs cur/\cur.length=k/\cur.map SR.x=lgR p n W B i k) (n-1-i) ⟨0,[],by omega,by omega,rfl,a2,rfl,rfl⟩ ?_
 rintro m us h8 ⟨k,cur,xi,rfl,rfl,l,di,bY⟩
 obtain⟨g2,gC,gp⟩:=lC l;simp only[Z3,seval,-ae];refine iteI (λy8=>?_) λAu=>?_;rotate_left
 .have gg:k=n-1-i:=by omega
  rw[gg]at bY;exact hQ _ _ ⟨cur,_,by rw[gg],l,bY⟩
 have cu:k<n-1-i:=by omega
 obtain⟨q0,e1,e2⟩:=s2 (by omega);have hj:i+(1+k)<n:=by omega
 have oh:=zW (n:=n) o.pr hj;have xG:IntKind.i64.wrap ((i:Int)+1)=((i+1:Nat):Int):=by rw[wrap64 (by omega) (by omega)];omega
 have xF:IntKind.i64.wrap (((i+1:Nat):Int)+(k:Int))=((i+(1+k):Nat):Int):=by rw[wrap64 (by omega) (by omega)];omega
 rw[e1]at gC;have vE:h8.rd1 sC i=some (.sl q0.s 0 q0.cs.length q0.cap):=gC;simp only[Z3,seval,-ae,g2,vE,aF,xG,xF];have ot:=rJ.keep l.keep;refine zB3 o ot aM.P hu ⟨true,a1,by rw[hu.1]⟩ (k:=-1) (by omega) λv1 sh=>?_;have AA:El p n (lmul p W (-1) (unitL n i)):=zFI o hu;have vF:=sh;obtain⟨w1,x1,rfl⟩:=sh;simp only[Z3,seval,-ae,g2,vE,xG,xF];refine ZM (by omega) hj λa2=>?_;have yT:¬tp=h8.next:=by have:=(b.b tp (by simp)).2;have:=l.nx;omega
 have yX:¬sC=h8.next:=by have:=(b.b sC (by simp)).2;have:=l.nx;omega
 have Cn:¬s=h8.next:=by have:=ot.lt;omega
 simp only[Z3,seval,-ae,g2,vE,yT,yX];have aS:All2 FI [.fz w1 x1 (lmul p W (-1) (unitL n i)).length (pis (lmul p W (-1) (unitL n i))),.fz true a2 n (pis (unitL n (i+(1+k)))),.fz true a1 n (pis (unitL n i))] [lmul p W (-1) (unitL n i),unitL n (i+(1+k)),unitL n i]:=
  (((All2.nil _).snoc vF).snoc ⟨true,a2,by rw[oh.1]⟩).snoc ⟨true,a1,by rw[hu.1]⟩
 refine zA.frz (s:=h8.next) (by rw[qa,if_pos rfl]) (aS.bI 0) λo2=>?_;simp only[sbs,Go.Ab.sb,capOK,and_self,if_true,decide_true,vH];have lk:=l.keepI b (((Keep.refl h8).new [.fz w1 x1 (lmul p W (-1) (unitL n i)).length (pis (lmul p W (-1) (unitL n i))),.fz true a2 n (pis (unitL n (i+(1+k)))),.fz true a1 n (pis (unitL n i))]).kill (vH _));generalize (h8.new [.fz w1 x1 (lmul p W (-1) (unitL n i)).length (pis (lmul p W (-1) (unitL n i))),.fz true a2 n (pis (unitL n (i+(1+k)))),.fz true a1 n (pis (unitL n i))]).kill h8.next=h7 at *
 obtain⟨k2,kC,kp⟩:=lC lk;rw[e1]at kC;have yr:h7.rd1 sC i=some (.sl q0.s 0 q0.cs.length q0.cap):=kC;have ov:=rJ.keep lk.keep;have pn:Els p n [lmul p W (-1) (unitL n i),unitL n (i+(1+k)),unitL n i]:=λy hy=>by
  simp only[List.mem_cons,List.not_mem_nil,or_false]at hy;rcases hy with rfl|rfl|rfl<;>assumption
 refine zA.fzI (λK' h'=>zLh z ov aM ⟨true,_,_,rfl,aS⟩ pn (by simp) h') λa3=>?_;have uB:=zBK o q pn;simp only[Z3,seval,-ae,k2,yr];refine zA6 z ov aM (x:=conj p n W B (unitL n (i+(1+k))) (unitL n i)) uB ⟨true,a3,rfl⟩ λgU iD=>?_;have aV:(vcG p n W B (conj p n W B (unitL n (i+(1+k))) (unitL n i))).length=n:=Qg n;have tj:vcG p n W B (conj p n W B (unitL n (i+(1+k))) (unitL n i))=lgC p n W B i k:=rfl;rw[tj]at aV ⊢;have jo:ls[Rs.length]? = some (some q0):=by rw[lL,List.getElem?_eq_getElem (by omega),e1]
 obtain⟨u1,l2⟩:=LI.putC b lk (x:=lgC p n W B i k) (cap:=gU) (by rw[aV];exact iD) jo (by omega);rw[di,aV]at u1;rw[di]at l2;have lN:=lk.keepI b (zD h7 (pis (lgC p n W B i k)));obtain⟨j2,jC,jp⟩:=lC lN;rw[e1]at jC;have yu:(h7.new (pis (lgC p n W B i k))).rd1 sC i=some (.sl q0.s 0 q0.cs.length q0.cap):=jC;generalize h7.new (pis (lgC p n W B i k))=hN at *
 have uO:(cur++[(⟨h7.next,gU,lgC p n W B i k⟩:SR)]).map SR.x=lgR p n W B i (k+1):=by
  rw[List.map_append,bY];unfold lgR;rw[List.range_succ,List.map_append];rfl
 have uQ:(cur++[(⟨h7.next,gU,lgC p n W B i k⟩:SR)]).length=k+1:=by rw[List.length_append,di];rfl
 generalize cur++[(⟨h7.next,gU,lgC p n W B i k⟩:SR)]=pX at *
 generalize hN.set q0.s (pX.map SR.pv++q0.cs.drop (k+1))=hE at *
 have zE:k<q0.cs.length:=by omega
 simp only[Z3,seval,-ae,j2,yu,zE,u1,wrapS cu (by omega:n-1-i<=4611686018427387904)];exact⟨_,by omega,k+1,pX,by omega,rfl,rfl,l2,uQ,uO⟩
end Go.Proofs
namespace Go.Proofs
open Go.Ab Go.Lie
variable{U h:PHeap}{K:PV->PHeap->Prop}{n c:Nat}{p:Int}{W:L4}{B:L5}{vP vB:PV}{s:Nat}
theorem zLy{i j:Nat}(hi:i<n):at_ (unitL n i) j=if j=i then 1 else 0:=by
 unfold unitL;rw[at_set (by simp;exact hi),ZB]
theorem zRe(o:OkW p n W){i:Nat}(hi:i<n):lmul p W p (unitL n i)=W.getD i []:=by
 have hl:=o.len;have jZ:i<W.length:=by omega
 obtain⟨r1,r2,r3⟩:=o.row i jZ;rw[ZK jZ];obtain⟨e1,e2⟩:=QL o (zW (n:=n) o.pr hi) p;refine ZX o e1.1 r1 e1.2 r2 (e2.trans ?_);have h1:=((Eqv.rel (p:=p) (n:=n) (W:=W) hi).symm).add (Eqv.refl (λj=>p*at_ (unitL n i) j));refine((Eqv.of_eq λj=>by omega).trans h1).trans (Eqv.of_eq λj=>?_);rw[zLy hi];unfold rel w_;rw[ZK jZ];split<;>omega
structure ST(T h:PHeap)(p0:Nat)(fs:List (PV×List PV))(ls:List LS):Prop where
 keep:Keep T h
 obj:h.obj p0=some (fs.map Prod.fst)
 p0b:T.next<=p0/\p0<h.next
 acc:∀f,f∈fs->PSl T.next 1 h f.1 f.2.length f.2
 ne:∀f,f∈fs->∀off l c,f.1≠.sl p0 off l c
 dis:∀(i j:Nat) f g,fs[i]? = some f->fs[j]? = some g->i≠j->∀s off l c,f.1=.sl s off l c->∀off l c,g.1≠.sl s off l c
 lok:∀q,q∈ls->q.ok h T.next
 lne:∀q,q∈ls->q.s≠p0/\∀f,f∈fs->∀off l c,f.1≠.sl q.s off l c
variable{T:PHeap}{p0:Nat}{fs:List (PV×List PV)}{ls:List LS}
theorem zHS{b e m:Nat}{h h2:PHeap}{v:PV}{cs:List PV}(a:PSl b e h v m cs)(ho:∀s off l c,v=.sl s off l c->h2.obj s=h.obj s)(hn:h.next<=h2.next):PSl b e h2 v m cs:=by
 obtain⟨s,cap,rfl,h1,gr,h3,h4,h5⟩:=a;exact⟨s,cap,rfl,h1,by rw[ho s 0 _ cap rfl];exact gr,h3,h4,Nat.lt_of_lt_of_le h5 hn⟩
theorem zE9{b e m:Nat}{h:PHeap}{v:PV}{cs:List PV}(a:PSl b e h v m cs){s off l:Nat}{c:Cap}(hv:v=.sl s off l c):s<h.next:=zAc a.acc hv
theorem ST.keepI{h2:PHeap}(a:ST T h p0 fs ls)(k:Keep h h2):ST T h2 p0 fs ls:=
 ⟨a.keep.trans k,by rw[k.obj _ a.p0b.2];exact a.obj,⟨a.p0b.1,Nat.lt_of_lt_of_le a.p0b.2 k.next⟩,λf hf=>(a.acc f hf).keep k,a.ne,a.dis,λq hq=>(a.lok q hq).move (k.obj _ (a.lok q hq).2.2.2) k.next,a.lne⟩
theorem ST.more{q:LS}(a:ST T h p0 fs ls)(h1:q.ok h T.next)(h2:q.s≠p0/\∀f,f∈fs->∀off l c,f.1≠.sl q.s off l c):ST T h p0 fs (ls++[q]):=
 ⟨a.keep,a.obj,a.p0b,a.acc,a.ne,a.dis,λq' hq=>(List.mem_append.1 hq).elim (a.lok q') λe=>by rw[List.mem_singleton.1 e];exact h1,λq' hq=>(List.mem_append.1 hq).elim (a.lne q') λe=>by rw[List.mem_singleton.1 e];exact h2⟩
theorem ST.push{K:PV×PHeap->Prop}{bytes j:Nat}{v x:PV}{cs:List PV}(a:ST T h p0 fs ls)(hj:fs[j]? = some (v,cs))(hb:cs.length<=1000)(AP:bytes<=24)(aH:∀f,f∈fs->f.1.one=true)
    (k:∀v' h2,v'.one=true->v'.cells=[v']->h2.wr p0 j [v']=some (h2.set p0 ((fs.set j (v',cs++[x])).map Prod.fst))->ST T (h2.set p0 ((fs.set j (v',cs++[x])).map Prod.fst)) p0 (fs.set j (v',cs++[x])) ls->K (v',h2)):
    optK (ZZ 1 bytes (h.new [x]) v (.sl h.next 0 1 (.known 1))) K:=by
  have hm:(v,cs)∈fs:=List.mem_of_getElem? hj;obtain⟨fQ,iZ⟩:=List.getElem?_eq_some_iff.1 hj;have dk:(cs.length+1)*bytes<=1001*24:=Nat.mul_le_mul (by omega) AP;refine PAcc.pushS (σb:=T) (bytes:=bytes) a.keep (a.acc _ hm).acc rfl (by show(cs.length+1)*bytes<=_;omega) (by show cs.length+1<=_;omega) λv' h2 k2 a2 o2 n2 l2=>?_;have hp:=a.p0b;have iV:h2.obj p0=some (fs.map Prod.fst):=by rw[o2 _ hp.2 (a.ne _ hm)];exact a.obj
  have eQ:(fs.set j (v',cs++[x])).map Prod.fst=(fs.map Prod.fst).set j v':=by rw[List.map_set]
  have eF:∀f,f∈fs.set j (v',cs++[x])->f=(v',cs++[x])\/∃i,i≠j/\fs[i]? = some f:=λf hf=>by
    obtain⟨i,hi⟩:=List.getElem?_of_mem hf;rw[List.getElem?_set]at hi;split at hi
    . first
      |(cases hi;exact .inl rfl)
      | (split at hi
         .cases hi;exact .inl rfl
         .cases hi)
    .rename_i e;exact .inr ⟨i,λe2=>e e2.symm,hi⟩
  refine k v' h2 a2.one a2.cells ?_ ⟨k2.set hp.1 _,by rw[zI,if_pos rfl],⟨hp.1,by show p0<h2.next;omega⟩,λf hf=>?_,λf hf=>?_,λi1 i2 f g hf hg ai s off l c e=>?_,λq hq=>?_,λq hq=>⟨(a.lne q hq).1,λf hf=>?_⟩⟩
  . rw[QB iV,if_pos ⟨by rw[List.length_map,List.length_singleton];omega,by simp only[List.all_cons,List.all_nil,a2.one];rfl⟩,eQ]
    congr 2;rw[List.append_assoc,List.singleton_append,List.length_singleton,take_set _ (by rw[List.length_map];exact fQ)]
  . rcases eF f hf with rfl|⟨i,hi,he⟩
    . have a3:PSl T.next 1 (h2.set p0 ((fs.set j (v',cs++[x])).map Prod.fst)) v' (cs.length+1) (cs++[x]):=zHS a2 (λs off l c e=>by rw[zI,if_neg λe2=>n2 p0 hp.2 off l c (by rw[e,e2])]) (vH _)
      simpa using a3
    . have mG:=List.mem_of_getElem? he
      refine zHS (a.acc f mG) (λs off l c e=>?_) (Nat.le_of_lt l2);rw[zI,if_neg λe2=>a.ne f mG off l c (by rw[e,e2]),o2 s (zE9 (a.acc f mG) e) (a.dis i j f _ he hj hi s off l c e)]
  . rcases eF f hf with rfl|⟨i,hi,he⟩
    .exact n2 p0 hp.2
    .exact a.ne f (List.mem_of_getElem? he)
  . rw[List.getElem?_set]at hf hg
    by_cases e1:j=i1
    . rw[if_pos e1,if_pos fQ]at hf
      cases hf;rw[if_neg λe2=>ai (e1.symm.trans e2)]at hg;have o6:=List.mem_of_getElem? hg;intro c5 l' c' e';exact n2 s (zE9 (a.acc g o6) e') off l c e
    . rw[if_neg e1]at hf
      have mG:=List.mem_of_getElem? hf;by_cases e2:j=i2
      . rw[if_pos e2,if_pos fQ]at hg
        cases hg;exact n2 s (zE9 (a.acc f mG) e)
      . rw[if_neg e2]at hg
        exact a.dis i1 i2 f g hf hg ai s off l c e
  . have cG:=a.lok q hq
    refine cG.move ?_ (Nat.le_of_lt l2);rw[zI,if_neg (a.lne q hq).1,o2 _ cG.2.2.2 ((a.lne q hq).2 _ hm)]
  . rcases eF f hf with rfl|⟨i,hi,he⟩
    .exact n2 _ (a.lok q hq).2.2.2
    .exact(a.lne q hq).2 f (List.mem_of_getElem? he)
theorem zBt:∀cs:List PV,TR.pvs (cs.map TR.leaf)=cs
 |[]=>rfl
 |c::cs=>by simp only[List.map_cons,TR.pvs,TR.pv,zBt cs]
theorem zBv{a:Nat->Nat}:∀cs:List PV,TR.fzs a (cs.map TR.leaf)=cs
 |[]=>rfl
 |c::cs=>by simp only[List.map_cons,TR.fzs,TR.fz,zBv cs]
theorem zBu{b:Nat}:∀{cs:List PV},Bels 0 cs->TR.okFs h b (cs.map TR.leaf)
 |[],_=>trivial
 |c::cs,hb=>⟨hb.1,zBu hb.2⟩
def LS.tr(q:LS):TR:=.lst q.s q.cap (q.cs.map TR.leaf)
theorem LS.tr_pvs:∀ls:List LS,TR.pvs (ls.map LS.tr)=ls.map LS.pv
 |[]=>rfl
 |q::ls=>by simp only[List.map_cons,TR.pvs,LS.tr_pvs ls];simp only[LS.tr,TR.pv,List.length_map,LS.pv]
theorem LS.tr_okF{b:Nat}{q:LS}(h1:q.ok h b)(h2:Bels 0 q.cs):(LS.tr q).okF h b:=⟨⟨by rw[List.length_map];exact h1.1,by rw[zBt];exact h1.2.1,h1.2.2.1,h1.2.2.2⟩,zBu h2⟩
theorem LS.trs_okF{b:Nat}:∀{ls:List LS},(∀q,q∈ls->q.ok h b/\Bels 0 q.cs)->TR.okFs h b (ls.map LS.tr)
 |[],_=>trivial
 |q::ls,k=>⟨LS.tr_okF (k q (List.mem_cons_self ..)).1 (k q (List.mem_cons_self ..)).2,LS.trs_okF λq' hq=>k q' (List.mem_cons_of_mem _ hq)⟩
def zIf(ls:List LS)(Ms:L5):Prop:=All2 (λ(q:LS) (R:L4)=>All2 FI q.cs R) ls Ms
theorem zIq{a:Nat->Nat}{ls:List LS}{Ms:L5}(k:zIf ls Ms):All2 FII (TR.fzs a (ls.map LS.tr)) Ms:=by
 have hl:∀ls:List LS,(TR.fzs a (ls.map LS.tr)).length=ls.length:=λls=>by rw[TR.fzs_length,List.length_map]
 have hg:∀(ls:List LS) (i:Nat),(TR.fzs a (ls.map LS.tr))[i]? = ls[i]?.map λq=>(LS.tr q).fz a:=by
  intro ls
  induction ls with
  |nil=>intro i;simp[TR.fzs]
  |cons q ls ih=>
   intro i;cases i with
   |zero=>simp[TR.fzs]
   |succ i=>simpa [TR.fzs]using ih i
 refine⟨by rw[hl];exact k.1,λi c R hc hR=>?_⟩;rw[hg]at hc;obtain⟨q,hq,rfl⟩:=Option.map_eq_some_iff.1 hc;have h2:=k.2 i q R hq hR;exact⟨true,.sl (a q.s) 0 q.cs.length q.cap,q.cs,by simp only[LS.tr,TR.fz,zBv,List.length_map];rw[h2.1],h2⟩
theorem zJT(z:Lz p n W B c)(hR:IsR vP vB W B)(hk:∀vO vQ vC,FI vO (List.replicate n p)->FII vQ (lgPs p n W B n)->FIII vC (lgCs p n W B n)->K (.agg [vO,vQ,vC]) U):zA Tryz.prog 88 [.agg [.int .i64 p,vP,vB]] U K:=by
 have o:=z.r.o;have q:=z.r.q;have aX:=o.le;have fa:=o.len;have iU:=z.hp.bd;have aM:=hR;have Bn:=hR.B.one;obtain⟨⟨wp,ap,rp,rfl,ks⟩,hB⟩:=hR;refine zA.gh ?_;generalize hT:(U.new [.int .i64 p,.fz wp ap W.length rp,vB]).new [.fz true .nils 0 [],.fz true .nils 0 [],.fz true .nils 0 []]=T;have iR:T.next=U.next+2:=by rw[<-hT];rfl
 have Ac:Keep U T:=by rw[<-hT];exact(zD U _).new _
 have ld:∀{g:PHeap},Keep T g->g.rd U.next 0 3=some [.int .i64 p,.fz wp ap W.length rp,vB]/\g.rd1 U.next 0=some (.int .i64 p)/\g.rd1 U.next 1=some (.fz wp ap W.length rp):=λ{g} k=>by
  have ob:g.obj U.next=some [.int .i64 p,.fz wp ap W.length rp,vB]:=by rw[k.obj _ (by omega),<-hT];simp only[Z3,seval,-ae]
  exact⟨by rw[ZT ob];rfl,by rw[zG ob];rfl,by rw[zG ob];rfl⟩
 have pL:∀{g:PHeap} {u0 u1 u2:PV},Keep T g->u0.one=true->u1.one=true->u2.one=true->g.wr (U.next+1) 0 [u0,u1,u2]=some (g.set (U.next+1) [u0,u1,u2])/\(g.set (U.next+1) [u0,u1,u2]).rd (U.next+1) 0 3=some [u0,u1,u2]:=λ{g u0 u1 u2} k z0 z1 z2=>by
  have cb:g.obj (U.next+1)=some [.fz true .nils 0 [],.fz true .nils 0 [],.fz true .nils 0 []]:=by rw[k.obj _ (by omega),<-hT];simp only[Z3,seval,-ae]
  exact⟨by rw[QB cb,if_pos ⟨by simp,by simp only[List.all_cons,List.all_nil,z0,z1,z2];rfl⟩];rfl,by rw[zDn,if_pos rfl];rfl⟩
 obtain⟨l3,l0,l1⟩:=ld (Keep.refl T);refine zP mix Tryz.func88 cf88 rfl ?_;dsimp only[if88,qI,eI,qD,eD,mI0,kI0,lI0,LI0,fI0,bI0,cI0,sI0,mD0,lD0,fD0,xD0,vI0,wD0,R0,S0];simp only[Z3,seval,-ae,Bn];rw[hT];simp only[Z3,seval,-ae,l1,fa];refine zF (λm us h=>∃(i:Nat) (vO vP vC:PV) (cO cP cC:List PV) (ls:List LS),i<=n/\m=n-i/\us=[.ptr U.next 0,.ptr (U.next+1) 0,.int .i64 n,.ptr (U.next+5) 0,.int .i64 i]/\ST T h (U.next+5) [(vO,cO),(vP,cP),(vC,cC)] ls/\cO=pis (List.replicate i p)/\All2 FI cP (lgPs p n W B i)/\cC=ls.map LS.pv/\zIf ls (lgCs p n W B i)) n ?_ ?_
 .refine⟨0,.sl (U.next+2) 0 0 (.known 0),.sl (U.next+3) 0 0 (.known 0),.sl (U.next+4) 0 0 (.known 0),[],[],[],[],by omega,by omega,rfl,⟨(((zD T _).new _).new _).new _,by simp only[Z3,seval,-ae,iR],⟨by omega,by first|(simp only[Z3,seval,-ae,iR];done)|(simp only[Z3,seval,-ae,iR];omega)⟩,λf hf=>?_,λf hf off l c e=>?_,λi j f g hf hg ai s off l c e c5 l' c' e'=>?_,λq hq=>(by cases hq),λq hq=>(by cases hq)⟩,rfl,All2.nil _,rfl,All2.nil _⟩
  .simp only[List.mem_cons,List.not_mem_nil,or_false]at hf;rcases hf with rfl|rfl|rfl
   .exact PSl.own (.inr rfl) (by simp only[Z3,seval,-ae,iR]) rfl (by omega) (by first|(simp only[Z3,seval,-ae,iR];done)|(simp only[Z3,seval,-ae,iR];omega))
   .exact PSl.own (.inr rfl) (by simp only[Z3,seval,-ae,iR]) rfl (by omega) (by first|(simp only[Z3,seval,-ae,iR];done)|(simp only[Z3,seval,-ae,iR];omega))
   .exact PSl.own (.inr rfl) (by simp only[Z3,seval,-ae,iR]) rfl (by omega) (by first|(simp only[Z3,seval,-ae,iR];done)|(simp only[Z3,seval,-ae,iR];omega))
  .simp only[List.mem_cons,List.not_mem_nil,or_false]at hf;rcases hf with rfl|rfl|rfl<;>(simp only[PV.sl.injEq]at e;omega)
  .match i,j with
   |0,0=>exact ai rfl
   |1,1=>exact ai rfl
   |2,2=>exact ai rfl
   |0,1|0,2|1,0|1,2|2,0|2,1=>cases hf;cases hg;simp only[PV.sl.injEq]at e e';omega
   |i+3,_=>simp at hf
   |0,j+3|1,j+3|2,j+3=>simp at hg
 as_aux_lemma=>
 rintro m us h ⟨i,vO,vP,vC,cO,cP,cC,ls,hi,rfl,rfl,a,np,pB,pC,nl⟩
 obtain⟨l3,l0,l1⟩:=ld a.keep;have aO:=a.acc (vO,cO) (by simp);have aP:=a.acc (vP,cP) (by simp);have aC:=a.acc (vC,cC) (by simp);have f0:h.rd1 (U.next+5) 0=some vO:=by rw[zG a.obj];rfl
 have f3:h.rd (U.next+5) 0 3=some [vO,vP,vC]:=by rw[ZT a.obj];rfl
 simp only[Z3,seval,-ae];refine iteI (λag=>?_) λaG=>?_;rotate_left
 .as_aux_lemma=>
  have aI:i=n:=by omega
  subst aI;obtain⟨g1,g2⟩:=pL a.keep aO.one aP.one aC.one;simp only[Z3,seval,-ae,f3,g1,g2];obtain⟨sO,capO,e1,o1,o2,o3,o4,o5⟩:=aO;obtain⟨sP,capP,e2,q1,q2,q3,q4,q5⟩:=aP;obtain⟨sC,capC,e3,r1,r2,r3,r4,r5⟩:=aC;dsimp only at e1 o1 o2 o3 e2 q1 q2 q3 e3 r1 r2 r3;subst e1 e2 e3;have et:(TR.agg [.lst sO capO (cO.map TR.leaf),.lst sP capP (cP.map TR.leaf),.lst sC capC (ls.map LS.tr)]).pv=.agg [.sl sO 0 cO.length capO,.sl sP 0 cP.length capP,.sl sC 0 cC.length capC]:=by
   simp only[TR.pv,TR.pvs,List.length_map];rw[pC,List.length_map]
  rw[<-et];have ob:∀s,T.next<=s->(h.set (U.next+1) [.sl sO 0 cO.length capO,.sl sP 0 cP.length capP,.sl sC 0 cC.length capC]).obj s=h.obj s:=λs hs=>by rw[zI,if_neg (by omega)]
  refine Gh.treeF ((Ac.trans a.keep).set (by omega) _) ⟨⟨⟨by rw[List.length_map];exact o1,by rw[ob _ o4,zBt];exact o2,by omega,o5⟩,zBu (by rw[np];exact zN _ _)⟩,⟨⟨by rw[List.length_map];exact q1,by rw[ob _ q4,zBt];exact q2,by omega,q5⟩,zBu (pB.bI 0)⟩,⟨⟨by rw[List.length_map];rw[pC,List.length_map]at r1;exact r1,by rw[ob _ r4,LS.tr_pvs,<-pC];exact r2,by omega,r5⟩,LS.trs_okF λq hq=>?_⟩,trivial⟩ λaa=>hk _ _ _ ⟨true,.sl (aa sO) 0 cO.length capO,?_⟩ ⟨true,.sl (aa sP) 0 cP.length capP,cP,?_,pB⟩ ⟨true,.sl (aa sC) 0 ls.length capC,TR.fzs aa (ls.map LS.tr),?_,zIq nl⟩
  .obtain⟨g1,g2,g3,g4⟩:=a.lok q hq;refine⟨⟨g1,by rw[ob _ g3];exact g2,by omega,g4⟩,?_⟩;obtain⟨k,uw,rfl⟩:=List.mem_iff_getElem.1 hq;exact(nl.2 k _ _ (List.getElem?_eq_getElem uw) (List.getElem?_eq_getElem (by rw[<-nl.1];exact uw))).bI 0
  .simp only[TR.fz,zBv,List.length_map];rw[np];simp[zK]
  .simp only[TR.fz,zBv,List.length_map];rw[pB.1]
  .simp only[TR.fz,List.length_map];rw[nl.1]
 have aF:i<n:=by omega
 have jZ:i<W.length:=by omega
 have aH:∀f,f∈[(vO,cO),(vP,cP),(vC,cC)]->f.1.one=true:=λf hf=>(a.acc f hf).one;have AN:cO.length=i:=by rw[np];simp[zK]
 have AM:cP.length=i:=by rw[pB.1];simp[lgPs]
 have AO:cC.length=i:=by rw[pC,List.length_map,nl.1];simp[lgCs]
 simp only[Z3,seval,-ae,f0,l0];refine ST.push a (j:=0) (bytes:=8) rfl (by omega) (by omega) aH λv1 h1 z1 z2 z3 a1=>?_;simp only[List.set_cons_zero,List.map_cons,List.map_nil]at z3 a1;generalize h1.set (U.next+5) [v1,vP,vC]=h2 at *
 obtain⟨l3,l0,l1⟩:=ld a1.keep;have f1:h2.rd1 (U.next+5) 1=some vP:=by rw[zG a1.obj];rfl
 obtain⟨w4,a4,yO⟩:=ks.rowI jZ;simp only[Z3,seval,-ae,z1,z2,z3,l3,l1,f1,jZ,yO];obtain⟨xN,xM,BU⟩:=o.row i jZ;refine zBe z aM (x:=W[i]) ⟨xN,xM⟩ ⟨w4,a4,rfl⟩ λv2 bX=>?_;have l7:FI v2 (lgP p n W B i):=by unfold lgP;rw[zRe o aF,ZK jZ];exact bX
 have y1:=l7.one;have y2:=l7.cells;have yZ:¬U.next+5=h2.next:=by have:=a1.p0b.2;omega
 simp only[Z3,seval,-ae,y1,y2,f1,yZ];have oM:∀f,f∈[(v1,cO++[.int .i64 p]),(vP,cP),(vC,cC)]->f.1.one=true:=λf hf=>(a1.acc f hf).one;refine ST.push a1 (j:=1) (bytes:=24) rfl (by omega) (by omega) oM λv3 h3 z4 z5 z6 a3=>?_;simp only[List.set_cons_zero,List.set_cons_succ,List.map_cons,List.map_nil]at z6 a3;generalize h3.set (U.next+5) [v1,v3,vC]=h4 at *
 have kW:IntKind.i64.wrap ((i:Int)+1)=((i+1:Nat):Int):=wrapS aF (by omega);simp only[Z3,seval,-ae,z4,z5,z6,kW];clear z1 z2 z3 z4 z5 z6 f0 f1 f3 l3 l0 l1 y1 y2;refine zLu 2 (λe h=>∃(vR:PV) (cells:List PV) (b0:PV),e=PEnv.mk [1,2,3,4,5,6,7,44] [.ptr U.next 0,.ptr (U.next+1) 0,.int .i64 n,.ptr (U.next+5) 0,.int .i64 i,vR,.int .i64 n,b0]/\Keep h4 h/\PSl h4.next 1 h vR (n-1-i) cells/\All2 FI cells (lgR p n W B i (n-1-i))) (λQ hQ=>?_) ?_;rotate_left
 .as_aux_lemma=>
  rintro e h9 ⟨vR,cells,b0,rfl,k9,p9,di⟩
  have a9:=a3.keepI k9;obtain⟨t,cap,rfl,hf,q2,q3,q4,q5⟩:=p9;have f2:h9.rd1 (U.next+5) 2=some vC:=by rw[zG a9.obj];rfl
  have yY:¬U.next+5=h9.next:=by have:=a9.p0b.2;omega
  have oK:∀f,f∈[(v1,cO++[.int .i64 p]),(v3,cP++[v2]),(vC,cC)]->f.1.one=true:=λf hf=>(a9.acc f hf).one;have xp:cells.length=n-1-i:=by omega
  have BS:=ST.more (q:=⟨t,cap,cells⟩) a9 ⟨by rw[xp];exact hf,q2,by have:=a3.keep.next;show T.next<=t;omega,q5⟩ ⟨by have:=a3.p0b.2;show t≠U.next+5;omega,λf hf off l c e=>by
   have:=zE9 (a3.acc f hf) e
   have:t<h4.next:=this
   omega⟩
  simp only[Z3,seval,-ae,f2,yY];refine ST.push BS (j:=2) (bytes:=24) rfl (by omega) (by omega) oK λv5 h5 z1 z2 z3 a5=>?_;simp only[List.set_cons_zero,List.set_cons_succ,List.map_cons,List.map_nil]at z3 a5;generalize h5.set (U.next+5) [v1,v3,v5]=h6 at *
  simp only[Z3,seval,-ae,z1,z2,z3,wrapS aF (by omega:n<=4611686018427387904)];refine⟨_,by omega,i+1,v1,v3,v5,_,_,_,ls++[⟨t,cap,cells⟩],by omega,rfl,rfl,a5,?_,?_,?_,?_⟩
  .rw[np,List.replicate_succ',<-zFB];rfl
  .unfold lgPs;rw[List.range_succ,List.map_append];exact pB.snoc l7
  .rw[pC,List.map_append];simp only[List.map_cons,List.map_nil,LS.pv];rw[xp]
  .unfold lgCs;rw[List.range_succ,List.map_append];exact nl.snoc di
 as_aux_lemma=>
 refine zF (λm us h=>∃(k:Nat) (vR:PV) (cells:List PV),i+(1+k)<=n/\m=n-(i+(1+k))/\us=[.ptr U.next 0,.ptr (U.next+1) 0,.int .i64 n,.ptr (U.next+5) 0,.int .i64 i,vR,.int .i64 ((i+(1+k):Nat):Int)]/\Keep h4 h/\PSl h4.next 1 h vR k cells/\All2 FI cells (lgR p n W B i k)) (n-(i+1)) ⟨0,_,[],by omega,rfl,rfl,zD _ _,PSl.new _ 1 rfl (vH _),All2.nil _⟩ ?_
 rintro m us h7 ⟨k,vR,cells,Cv,rfl,rfl,k7,p7,di⟩
 obtain⟨l3,l0,l1⟩:=ld (a3.keepI k7).keep;simp only[Z3,seval,-ae];refine iteI (λy9=>?_) λAv=>?_;rotate_left
 .have gg:k=n-1-i:=by omega
  subst gg;exact hQ _ _ ⟨vR,cells,_,by rw[show((i+(1+(n-1-i)):Nat):Int)=(n:Int) by omega],k7,p7,di⟩
 have hj:i+(1+k)<n:=by omega
 have eB:=zW (n:=n) o.pr aF;have oh:=zW (n:=n) o.pr hj;simp only[Z3,seval,-ae,l3];refine Zn aM fa (by omega) hj λb1=>?_;simp only[Z3,seval,-ae,l3];refine Zn aM fa (by omega) aF λb2=>?_;simp only[Z3,seval,-ae,l3];refine zLI z aM oh eB ⟨true,b1,by rw[oh.1]⟩ ⟨true,b2,by rw[eB.1]⟩ λv6 nY=>?_;have uS:El p n (conj p n W B (unitL n (i+(1+k))) (unitL n i)):=zBK o q λy hy=>by
  simp only[List.mem_cons,List.not_mem_nil,or_false]at hy;rcases hy with rfl|rfl|rfl
  .exact zFI o eB
  .exact oh
  .exact eB
 simp only[Z3,seval,-ae,l3];refine zBe z aM uS nY λv8 tA=>?_;have y1:=tA.one;have y2:=tA.cells;have fm:k<=10:=by omega
 simp only[Z3,seval,-ae,y1,y2];refine PSl.push (bytes:=24) (σb:=h4) k7 p7 (by omega) (by omega) λv9 h8 k8 p8=>?_;have e5:IntKind.i64.wrap (((i+(1+k):Nat):Int)+1)=((i+(1+(k+1)):Nat):Int):=by rw[wrap64 (by omega) (by omega)];omega
 simp only[Z3,seval,-ae,e5];refine⟨_,by omega,k+1,v9,_,by omega,rfl,rfl,k8,p8,?_⟩;unfold lgR;rw[List.range_succ,List.map_append];exact di.snoc tA
end Go.Proofs
namespace Go.Proofs
open Go.Ab Go.Lie
variable{U:PHeap}{bs:L3}{a:Int}
def FB(v:PV)(bs:L3):Prop:=∃w a,v=.fz w a bs.length (bs.map (.int .u8))
theorem FB.one{v:PV}(h:FB v bs):v.one=true:=by obtain⟨w,a,rfl⟩:=h;rfl
theorem zL1(U:PHeap)(x y:List PV):(U.new x).set U.next y=U.new y:=by
 simp only[PHeap.new,PHeap.set];congr 1;funext t;split<;>rfl
end Go.Proofs
set_option linter.unusedSectionVars false
namespace Go.Proofs
open Go.Ab Go.Lie
variable{h:PHeap}{cs:List PV}
theorem zEv{h:PHeap}{t i:Nat}{cs:List PV}{v:PV}(ho:h.obj t=some cs)(hi:i<cs.length)(hv:v.one=true):h.wr t i [v]=some (h.set t (cs.set i v)):=by
 rw[QB ho,if_pos ⟨by simp;omega,by simp[hv]⟩];congr 2;rw[List.append_assoc];exact take_set cs hi v
end Go.Proofs
namespace Go.Proofs
open Go.Ab Go.Lie
variable{U:PHeap}{K:PV->PHeap->Prop}
theorem ownFI{v:PV}{xs:L3}(hv:FI v xs)(hb:xs.length<=4294967296)(hk:∀v',FI v' xs->K v' U):zA Tryz.prog 271 [v] U K:=by
 obtain⟨w,a,rfl⟩:=hv;exact zGU rfl hb λv=>hk _ ⟨_,_,rfl⟩
end Go.Proofs
namespace Go.Proofs
open Go.Ab Go.Lie Go.Grp
variable{U h h':PHeap}{K:PV->PHeap->Prop}{O x y:L3}{P:L4}{C:L5}{vO vP vC vx:PV}{D R:List (Option L3)}{rb:List PV}{d n sT:Nat}
def DRf(n:Nat)(c:PV)(r:Option L3):Prop:=(c=.fz true .nils 0 []/\r=none)\/∃w a y,c=.fz w a n (pis y)/\y.length=n/\r=some y
theorem DRf.get(h:All2 (DRf n) rb D){d:Nat}(hd:d<D.length):(rb[d]? = some (.fz true .nils 0 [])/\D[d]? = some none)\/∃w a y,rb[d]? = some (.fz w a n (pis y))/\y.length=n/\D[d]? = some (some y):=by
 have hb:d<rb.length:=by rw[h.1];exact hd
 rw[List.getElem?_eq_getElem hb,List.getElem?_eq_getElem hd];rcases h.2 d _ _ (List.getElem?_eq_getElem hb) (List.getElem?_eq_getElem hd)with ⟨e1,e2⟩|⟨w,a,y,e1,e3,e2⟩
 .exact .inl ⟨by rw[e1],by rw[e2]⟩
 .exact .inr ⟨w,a,y,by rw[e1],e3,by rw[e2]⟩
theorem DRf.put(h:All2 (DRf n) rb D){v:PV}(hv:FI v y)(hy:y.length=n):All2 (DRf n) (rb.set d v) (D.set d (some y)):=by
 obtain⟨w,a,rfl⟩:=hv;refine⟨by rw[List.length_set,List.length_set];exact h.1,λk c r hc hr=>?_⟩;rw[List.getElem?_set]at hc hr;by_cases e:d=k
 .rw[if_pos e]at hc hr;split at hc
  .split at hr
   .cases hc;cases hr;exact .inr ⟨w,a,y,by rw[hy],hy,rfl⟩
   .cases hr
  .cases hc
 .rw[if_neg e]at hc hr;exact h.2 k c r hc hr
theorem DRf.start(n m:Nat):All2 (DRf n) (List.replicate m (.fz true .nils 0 [])) (List.replicate m none):=by
 refine⟨by simp,λk c r hc hr=>?_⟩;rw[List.getElem?_replicate]at hc hr;split at hc
 .rename_i h;rw[if_pos h]at hr;cases hc;cases hr;exact .inl ⟨rfl,rfl⟩
 .cases hc
theorem zJa(g:LG O P C)(hR:IsPr vO vP vC O P C)(hT:U.obj sT=some rb)(u6:sT<U.next)(hD:OkD O D)(cU:All2 (DRf O.length) rb D)(hx:gS O x)(aW:FI vx x)
  (hk:∀v z,FI v z->gS O z->(dep z<O.length->D[dep z]? = some none)->Rdu O P C D x z->K (.tup [.int .i64 (dep z),v]) U):zA Tryz.prog 181 [.agg [vO,vP,vC],.sl sT 0 O.length (.known O.length),vx] U K:=by
 have h0:=hR.O.one;have h1:=hR.P.one;have h2:=hR.C.one;have s:=g.s;have F:=g.F;have G:=F.g;have aX:=s.le;have aV:=hx.len;refine zA.gh ?_;have ai:¬sT=U.next:=Nat.ne_of_lt u6;refine zB mix Tryz.func181 ?_
 conv=>arg 2;cbv
 refine zC rfl ?_;simp only[Z3,seval,-ae,h0,h1,h2];refine ownFI aW (by omega) λv0 ki=>?_;simp only[Z3,seval,-ae];refine zF (λm vs h'=>∃(d:Nat) (z:L3) (v:PV),d<=O.length/\m=O.length-d/\vs=[.sl sT 0 O.length (.known O.length),.ptr U.next 0,v,.int .i64 d]/\U.new [vO,vP,vC]=h'/\TT O d z/\FI v z/\Rdu O P C D x z) O.length ⟨0,x,v0,by omega,by omega,rfl,rfl,hx,ki,.refl _⟩ ?_
 rintro m vs h' ⟨d,z,v,hd,rfl,rfl,rfl,hz,hv,hr⟩
 have nO:gS O z:=hz.mono (Nat.zero_le _);have dT:=hz.len;simp only[Z3,seval,-ae];refine iteI (λag=>?_) λaG=>?_;rotate_left
 .have AE:d=O.length:=by omega
  subst AE;have eH:z=zv O:=hz.ext (s.zv _) λj h1 h2=>by omega
  have hdz:dep z=O.length:=by rw[eH];exact zLs s
  exact Gh.fin0 (zD U _) ⟨trivial,hv.bel _,trivial⟩ (by rw[<-hdz];exact hk v z hv nO (λh=>by omega) hr)
 have aF:d<O.length:=by omega
 have hdz:d<z.length:=by omega
 obtain⟨wz,az,rfl⟩:=hv;have m7:FI (.fz wz az z.length (pis z)) z:=⟨wz,az,rfl⟩;have w1:IntKind.i64.wrap ((d:Int)+1)=((d+1:Nat):Int):=by rw[wrap64 (by omega) (by omega)];omega
 have bz:=nO.bd d aF;have bO:=s.pr d aF;by_cases eH:at_ z d=0
 .simp only[Z3,seval,-ae,hdz,pisAt hdz,eH,w1];refine⟨_,by omega,d+1,z,_,by omega,rfl,rfl,⟨hz.len,hz.bd,λj hj=>?_⟩,m7,hr⟩;rcases Nat.lt_or_ge j d with h|h
  .exact hz.zero j h
  .rw[show j=d by omega];exact eH
 have bH:=zG hT d;rcases DRf.get cU (d:=d) (by rw[hD.len];exact aF)with ⟨e1,e2⟩|⟨w,a,y,e1,e3,e2⟩
 .rw[e1]at bH;have xo:dep z=d:=zBi (λj hj=>hz.zero j hj) eH;simp only[Z3,seval,-ae,hdz,pisAt hdz,eH,aF,ai,bH];exact Gh.fin0 (zD U _) ⟨trivial,m7.bel _,trivial⟩ (by rw[<-xo];exact hk _ z m7 nO (λ_=>by rw[xo];exact e2) hr)
 .rw[e1]at bH;obtain⟨y1,y2⟩:=hD.row _ _ e2;have yS:gS O y:=y1.mono (Nat.zero_le _);have rQ:¬((O.length:Int)=0):=by omega
  have bM:IntKind.i64.wrap (0-at_ z d)=-at_ z d:=by rw[wrap64 (by omega) (by omega)];omega
  simp only[Z3,seval,-ae,hdz,pisAt hdz,eH,aF,ai,bH,rQ,h0,h1,h2,bM];refine zFP g hR yS ⟨w,a,by rw[e3]⟩ (k:=-at_ z d) (by omega) λv1 f1=>?_;rw[Int.neg_neg]at f1;obtain⟨q1,q2,q3,q4⟩:=zE2 s F g.cent aF nO y1 y2;have q5:TT O (d+1) (gm O P C z (Grp.pw (gm O P C) (zv O) (ginv (gS O) (gm O P C) (zv O) y) (at_ z d).toNat)):=⟨q1.len,q1.bd,λj hj=>by
   rcases Nat.lt_or_ge j d with h|h
   .rw[q3 j h];exact hz.zero j h
   .rw[show j=d by omega];exact q4⟩
  have oF:=hr.trans (Rdu.stepR s F g.cent hD e2 aF hz eH q1 q2 q5);simp only[Z3,seval,-ae,h0,h1,h2];refine zAq s hR nO (G.pw (G.inv_in yS).1 _) m7 f1 λv2 f2=>?_;simp only[Z3,seval,-ae,w1];exact⟨_,by omega,d+1,_,v2,by omega,rfl,rfl,q5,f2,oF⟩
structure FullI(O:L3)(P:L4)(C:L5)(D R:List (Option L3))(k:Nat):Prop where
 len:R.length=O.length
 dom:∀d,k<=d->d<O.length->((∃y,R[d]? = some (some y))↔∃y,D[d]? = some (some y))
 row:∀(d:Nat) (y:L3),k<=d->R[d]? = some (some y)->TT O d y/\at_ y d=1
 red:∀(d e:Nat) (y z:L3),k<=d->k<=e->d≠e->R[d]? = some (some y)->R[e]? = some (some z)->at_ y e=0
 iff:∀N,gB O P C N->((∀(d:Nat) (y:L3),k<=d->R[d]? = some (some y)->N y)↔∀(d:Nat) (y:L3),k<=d->D[d]? = some (some y)->N y)
theorem FullI.start(n:Nat)(hn:O.length=n)(hD:D.length=n):FullI O P C D (List.replicate n none) n:=by
 have no:∀{E:List (Option L3)} {d y},E.length=n->n<=d->E[d]? = some (some y)->False:=λhE hd h=>by
  rw[List.getElem?_eq_none (by omega)]at h;cases h
 exact⟨by simp[hn],λd h1 h2=>by omega,λd y h1 h2=>(no (by simp) h1 h2).elim,λd e y z h1 _ _ h2=>(no (by simp) h1 h2).elim,λN _=>⟨λ_ d y h1 h2=>(no hD h1 h2).elim,λ_ d y h1 h2=>(no (by simp) h1 h2).elim⟩⟩
theorem FullI.skip{k:Nat}(f:FullI O P C D R (k+1))(hk:k<O.length)(h1:D[k]? = some none)(h2:R[k]? = some none):FullI O P C D R k:=by
 have up:∀{d:Nat} {y:L3},k<=d->(R[d]? = some (some y)\/D[d]? = some (some y))->k+1<=d:=λ{d y} hd h=>by
  rcases Nat.lt_or_ge k d with e|e
  .exact e
  .rw[show d=k by omega,h1,h2]at h;rcases h with h|h<;>cases h
 refine⟨f.len,λd a b=>?_,λd y a b=>f.row d y (up a (.inl b)) b,λd e y z a b c h h'=>f.red d e y z (up a (.inl h)) (up b (.inl h')) c h h',λN hN=>?_⟩
 .constructor
  .rintro⟨y,hy⟩;exact(f.dom d (up a (.inl hy)) b).1 ⟨y,hy⟩
  .rintro⟨y,hy⟩;exact(f.dom d (up a (.inr hy)) b).2 ⟨y,hy⟩
 .constructor
  .intro g d y a b;exact(f.iff N hN).1 (λd y a' b'=>g d y (by omega) b') d y (up a (.inr b)) b
  .intro g d y a b;exact(f.iff N hN).2 (λd y a' b'=>g d y (by omega) b') d y (up a (.inl b)) b
theorem FullI.put{k:Nat}{x y:L3}(f:FullI O P C D R (k+1))(hk:k<O.length)(h1:D[k]? = some (some y))(hx:TT O k x)(eJ:at_ x k=1)(hz:∀(e:Nat) (z:L3),k<e->R[e]? = some (some z)->at_ x e=0)
  (hN:∀N,gB O P C N->(∀(d:Nat) (y:L3),k+1<=d->R[d]? = some (some y)->N y)->(N y↔N x)):FullI O P C D (R.set k (some x)) k:=by
 have hl:k<R.length:=by rw[f.len];exact hk
 have ge:∀{d:Nat} {w:L3},(R.set k (some x))[d]? = some (some w)->(d=k/\w=x)\/(d≠k/\R[d]? = some (some w)):=λ{d w} h=>by
  rw[List.getElem?_set]at h;split at h
  .rename_i e;cases h;exact .inl ⟨e.symm,rfl⟩
  .rename_i e;exact .inr ⟨λh=>e h.symm,h⟩
 have qe:(R.set k (some x))[k]? = some (some x):=by rw[List.getElem?_set,if_pos rfl,if_pos hl]
 have p6:∀{d:Nat} {w:L3},d≠k->R[d]? = some (some w)->(R.set k (some x))[d]? = some (some w):=λ{d w} h e=>by rw[List.getElem?_set,if_neg (λh'=>h h'.symm)];exact e
 refine⟨by rw[List.length_set];exact f.len,λd a b=>?_,λd w a b=>?_,λd e w z a b c h h'=>?_,λN pM=>?_⟩
 .by_cases e:d=k
  .subst e;exact⟨λ_=>⟨y,h1⟩,λ_=>⟨x,qe⟩⟩
  .constructor
   .rintro⟨w,hw⟩
    rcases ge hw with ⟨e',_⟩|⟨_,hw⟩
    .exact absurd e' e
    .exact(f.dom d (by omega) b).1 ⟨w,hw⟩
   .rintro⟨w,hw⟩
    obtain⟨z,cq⟩:=(f.dom d (by omega) b).2 ⟨w,hw⟩;exact⟨z,p6 e cq⟩
 .rcases ge b with ⟨rfl,rfl⟩|⟨e,hw⟩
  .exact⟨hx,eJ⟩
  .exact f.row d w (by omega) hw
 .rcases ge h with ⟨e1,e2⟩|⟨e1,hw⟩
  .rcases ge h' with ⟨e3,_⟩|⟨e3,cq⟩
   .omega
   .rw[e2];exact hz e z (by omega) cq
  .rcases ge h' with ⟨e3,e4⟩|⟨e3,cq⟩
   .have:=(f.row d w (by omega) hw).1.zero
    rw[e3];exact this k (by omega)
   .exact f.red d e w z (by omega) (by omega) c hw cq
 .have key:((∀(d:Nat) (w:L3),k<=d->(R.set k (some x))[d]? = some (some w)->N w)↔(N x/\∀(d:Nat) (w:L3),k+1<=d->R[d]? = some (some w)->N w)):=by
   constructor
   .intro h;exact⟨h k x (vH _) qe,λd w a b=>h d w (by omega) (p6 (by omega) b)⟩
   .rintro⟨h2,h3⟩ d w a b
    rcases ge b with ⟨_,rfl⟩|⟨e,hw⟩
    .exact h2
    .exact h3 d w (by omega) hw
  have s9:((∀(d:Nat) (w:L3),k<=d->D[d]? = some (some w)->N w)↔(N y/\∀(d:Nat) (w:L3),k+1<=d->D[d]? = some (some w)->N w)):=by
   constructor
   .intro h;exact⟨h k y (vH _) h1,λd w a b=>h d w (by omega) b⟩
   .rintro⟨h2,h3⟩ d w a b
    by_cases e:d=k
    .subst e;rw[h1]at b;cases b;exact h2
    .exact h3 d w (by omega) b
  rw[key,s9,<-f.iff N pM];constructor
  .rintro⟨a,b⟩;exact⟨(hN N pM b).2 a,b⟩
  .rintro⟨a,b⟩;exact⟨(hN N pM b).1 a,b⟩
end Go.Proofs
namespace Go.Proofs
open Go.Ab Go.Lie Go.Grp
variable{U h h':PHeap}{K:PV->PHeap->Prop}{O x y:L3}{P:L4}{C:L5}{vO vP vC:PV}{D R:List (Option L3)}{rb rr:List PV}{d n sT:Nat}
def rowsD(R:List (Option L3))(k:Nat):L4:=(R.take k).filterMap id
theorem zCa{k:Nat}(h:R[k]? = some none):rowsD R (k+1)=rowsD R k:=by
 unfold rowsD;have hl:k<R.length:=by
  rcases Nat.lt_or_ge k R.length with e|e
  .exact e
  .rw[List.getElem?_eq_none e]at h;cases h
 rw[List.getElem?_eq_getElem hl]at h;rw[List.take_succ_eq_append_getElem hl,List.filterMap_append,Option.some.inj h];simp
theorem zCZ{k:Nat}(h:R[k]? = some (some y)):rowsD R (k+1)=rowsD R k++[y]:=by
 unfold rowsD;have hl:k<R.length:=by
  rcases Nat.lt_or_ge k R.length with e|e
  .exact e
  .rw[List.getElem?_eq_none e]at h;cases h
 rw[List.getElem?_eq_getElem hl]at h;rw[List.take_succ_eq_append_getElem hl,List.filterMap_append,Option.some.inj h];simp
theorem zGL(k:Nat):(rowsD R k).length<=k:=by
 unfold rowsD;refine Nat.le_trans (List.length_filterMap_le _ _) ?_;rw[List.length_take];omega
theorem zAp{v:L3}{k:Nat}:v∈rowsD R k↔∃d,d<k/\R[d]? = some (some v):=by
 unfold rowsD;rw[List.mem_filterMap];constructor
 .rintro⟨o,ho,rfl⟩
  obtain⟨d,hd,e⟩:=List.mem_iff_getElem.1 ho;rw[List.length_take]at hd;refine⟨d,by omega,?_⟩;rw[List.getElem_take]at e;rw[List.getElem?_eq_getElem (by omega),e]
 .rintro⟨d,hd,e⟩
  have hl:d<R.length:=by
   rcases Nat.lt_or_ge d R.length with e'|e'
   .exact e'
   .rw[List.getElem?_eq_none e']at e;cases e
  refine⟨some v,?_,rfl⟩;rw[List.mem_take_iff_getElem];rw[List.getElem?_eq_getElem hl]at e;exact⟨d,by omega,Option.some.inj e⟩
theorem zDk(hy:TT O d y)(h1:at_ y d=1):dep y=d:=zBi (λj hj=>hy.zero j hj) (by rw[h1];decide)
theorem zL7(f:FullI O P C D R 0)(hD:OkD O D):CanD O P C D (rowsD R O.length):=by
 have hR:∀{d:Nat} {y:L3},R[d]? = some (some y)->d<O.length:=λ{d y} h=>by
  rw[<-f.len];rcases Nat.lt_or_ge d R.length with e|e
  .exact e
  .rw[List.getElem?_eq_none e]at h;cases h
 have get:∀{v:L3},v∈rowsD R O.length->∃d,d<O.length/\R[d]? = some (some v)/\TT O d v/\at_ v d=1/\dep v=d:=λ{v} hv=>by
  obtain⟨d,hd,e⟩:=zAp.1 hv;obtain⟨h1,h2⟩:=f.row d v (Nat.zero_le _) e;exact⟨d,hd,e,h1,h2,zDk h1 h2⟩
 refine⟨λv hv=>?_,?_,λv hv w hw ai=>?_,λd y hy=>?_,zGL _,λN hN=>?_⟩
 .obtain⟨d,hd,e,h1,h2,h3⟩:=get hv;exact⟨h1.mono (Nat.zero_le _),by omega,by rw[h3];exact h2⟩
 .have:∀k,k<=O.length->(rowsD R k).Pairwise λa b=>dep a<dep b:=by
   intro k
   induction k with
   |zero=>intro _;simp[rowsD]
   |succ k ih=>
    intro hk;have hl:k<R.length:=by rw[f.len];omega
    rcases hc:R[k]? with _|_|y
    .rw[List.getElem?_eq_getElem hl]at hc;cases hc
    .rw[zCa hc];exact ih (by omega)
    .rw[zCZ hc,List.pairwise_append];obtain⟨h1,h2⟩:=f.row k y (Nat.zero_le _) hc;refine⟨ih (by omega),by simp,λa ha b hb=>?_⟩;rw[List.mem_singleton.1 hb,zDk h1 h2];obtain⟨d,hd,e⟩:=zAp.1 ha;obtain⟨h3,h4⟩:=f.row d a (Nat.zero_le _) e
     have:=zDk h3 h4;omega
  exact this _ (vH _)
 .obtain⟨d,hd,e,h1,h2,h3⟩:=get hv;obtain⟨d',iN,e',jR,gr,Bt⟩:=get hw;rw[Bt];exact f.red d d' v w (Nat.zero_le _) (Nat.zero_le _) (by omega) e e'
 .have hd:d<O.length:=by
   rw[<-hD.len];rcases Nat.lt_or_ge d D.length with e|e
   .exact e
   .rw[List.getElem?_eq_none e]at hy;cases hy
  obtain⟨z,hz⟩:=(f.dom d (Nat.zero_le _) hd).2 ⟨y,hy⟩;obtain⟨h1,h2⟩:=f.row d z (Nat.zero_le _) hz;exact⟨z,zAp.2 ⟨d,hd,hz⟩,zDk h1 h2⟩
 .constructor
  .intro h;exactλd y hy=>(f.iff N hN).1 (λd y _ hy=>h y (zAp.2 ⟨d,hR hy,hy⟩)) d y (Nat.zero_le _) hy
  .intro h v hv;obtain⟨d,hd,e⟩:=zAp.1 hv;exact(f.iff N hN).2 (λd y _ hy=>h d y hy) d v (Nat.zero_le _) e
theorem zLM(g:LG O P C)(hR:IsPr vO vP vC O P C)(hT:U.obj sT=some rb)(u6:sT<U.next)(hD:OkD O D)(cU:All2 (DRf O.length) rb D)
  (hk:∀v u,FII v u->CanD O P C D u->K v U):zA Tryz.prog 185 [.agg [vO,vP,vC],.sl sT 0 O.length (.known O.length)] U K:=by
 have h0:=hR.O.one;have h1:=hR.P.one;have h2:=hR.C.one;have s:=g.s;have F:=g.F;have G:=F.g;have aX:=s.le;refine zA.gh ?_;have ai:¬sT=U.next:=Nat.ne_of_lt u6;have nV:IntKind.i64.wrap ((O.length:Int)-1)=(O.length:Int)-1:=wrap64 (by omega) (by omega);refine zP mix Tryz.func185 cf185 rfl ?_;dsimp only[if185,eI,qD,eD,mI0,kI0,lI0,xI0,bI0,cI0,sI0,mD0,lD0,xD0,I0,G0,gm0,aI0,zI0,vI0,R0,S0];simp only[Z3,seval,-ae,h0,h1,h2,mk24 (n:=O.length) (by omega),mkL (n:=O.length) (by omega),nV];have fD:(U.new [vO,vP,vC]).rd U.next 0 3=some [vO,vP,vC]:=by simp only[Z3,seval,-ae]
 have A6:(U.new [vO,vP,vC]).obj sT=some rb:=by simp only[Z3,seval,-ae,ai];exact hT
 have oH:(U.new [vO,vP,vC]).next=U.next+1:=rfl;have kp:Keep U (U.new [vO,vP,vC]):=zD U _;generalize U.new [vO,vP,vC]=T at *
 rw[<-oH];have AW:Bel T.next vO/\Bel T.next vP/\Bel T.next vC:=⟨hR.O.bel _,hR.P.bel _,hR.C.bel _⟩;refine zF (λm vs h'=>∃(k:Nat) (R:List (Option L3)) (rr:List PV),m=k/\k<=O.length/\vs=[.sl sT 0 O.length (.known O.length),.ptr U.next 0,.sl T.next 0 O.length (.known O.length),.int .i64 ((k:Int)-1)]/\h'=T.new rr/\All2 (DRf O.length) rr R/\FullI O P C D R k/\(∀d,d<k->R[d]? = some none)) O.length ?_ ?_
 .exact⟨O.length,List.replicate O.length none,_,rfl,vH _,rfl,rfl,DRf.start _ _,FullI.start _ rfl hD.len,λd hd=>by rw[List.getElem?_replicate,if_pos hd]⟩
 rintro m vs h' ⟨k,R,rr,rfl,cu,rfl,rfl,mc,hf,dc⟩
 have kE:(T.new rr).obj T.next=some rr:=by rw[qa,if_pos rfl]
 have tZ:(T.new rr).obj sT=some rb:=by rw[qa,if_neg (by omega)];exact A6
 have gn:(T.new rr).rd U.next 0 3=some [vO,vP,vC]:=by rw[zAb,if_neg (by omega)];exact fD
 have xg:rr.length=O.length:=by rw[mc.1];exact hf.len
 rcases Nat.eq_zero_or_pos m with rfl|na
 .simp only[Z3,seval,-ae,show ¬((0:Int)<=((0:Nat):Int)-1) by omega];refine zF (λm vs h'=>∃(i:Nat) (v:PV) (cs:List PV),i<=O.length/\m=O.length-i/\vs=[.sl T.next 0 O.length (.known O.length),v,.int .i64 i]/\Keep (T.new rr) h'/\PSl (T.new rr).next 1 h' v (rowsD R i).length cs/\All2 FI cs (rowsD R i)) O.length ?_ ?_
  .exact⟨0,_,[],by omega,by omega,rfl,zD _ _,PSl.new (h:=T.new rr) (cs:=[]) (T.next+1) 1 rfl (vH _),All2.nil _⟩
  rintro m vs h' ⟨i,v,cs,hi,rfl,rfl,kk,ps,ah⟩
  have aT:=zGL (R:=R) i;have bH:=zG (h:=h') (by rw[kk.obj _ (by show T.next<T.next+1;omega)];exact kE) i;simp only[Z3,seval,-ae];refine iteI (λag=>?_) λaG=>?_;rotate_left
  .have aI:i=O.length:=by omega
   subst aI;have pz:=zL7 hf hD;have rj:=kk.keepOf2 kp;have iX:U.next<=(T.new rr).next:=by show U.next<=T.next+1;omega
   have wC:PSl U.next 1 h' v (rowsD R O.length).length cs:=by
    obtain⟨s1,fM,a1,a2,a3,a4,a5,a6⟩:=ps;exact⟨s1,fM,a1,a2,a3,a4,by omega,a6⟩
   exact wC.fin rj (ah.bI 0) λo cap=>hk _ _ ⟨_,_,_,rfl,ah⟩ pz
  have aF:i<O.length:=by omega
  rcases DRf.get mc (d:=i) (by rw[hf.len];exact aF)with ⟨e1,e2⟩|⟨w,a,y,e1,e3,e2⟩
  .rw[e1]at bH;simp only[Z3,seval,-ae,aF,bH,wrapS aF (by omega:O.length<=4611686018427387904)];exact⟨_,by omega,i+1,v,cs,by omega,rfl,rfl,kk,by rw[zCa e2];exact ps,by rw[zCa e2];exact ah⟩
  .rw[e1]at bH;have aD:(0:Int)<(O.length:Int):=by omega
   simp only[Z3,seval,-ae,aF,bH,aD];refine PSl.push (bytes:=24) (σb:=T.new rr) kk ps (by omega) (by omega) λv2 h2 k2 a2=>?_;simp only[Z3,seval,-ae,wrapS aF (by omega:O.length<=4611686018427387904)];refine⟨_,by omega,i+1,v2,cs++[.fz w a O.length (pis y)],by omega,rfl,rfl,k2,?_,?_⟩
   .rw[zCZ e2,List.length_append];exact a2
   .rw[zCZ e2];exact ah.snoc ⟨w,a,by rw[e3]⟩
 obtain⟨k,rfl⟩:∃k,m=k+1:=⟨m-1,by omega⟩
 have e:((k+1:Nat):Int)-1=(k:Int):=by omega
 have cQ:k<O.length:=cu;rw[e];have ku:=zG tZ k;have yL:=zG kE k;have gW:IntKind.i64.wrap ((k:Int)-1)=(k:Int)-1:=wrap64 (by omega) (by omega);rcases DRf.get cU (d:=k) (by rw[hD.len];exact cQ)with ⟨e1,e2⟩|⟨w,a,y,e1,e3,e2⟩
 .rw[e1]at ku;simp only[Z3,seval,-ae,cQ,ku,gW];exact⟨k,Nat.lt_succ_self k,k,R,rr,rfl,by omega,rfl,rfl,mc,hf.skip cQ e2 (dc k (Nat.lt_succ_self k)),λd hd=>dc d (by omega)⟩
 rw[e1]at ku;obtain⟨y1,y2⟩:=hD.row _ _ e2;have yS:gS O y:=y1.mono (Nat.zero_le _);have rQ:¬((O.length:Int)=0):=by omega
 have w1:IntKind.i64.wrap ((k:Int)+1)=((k+1:Nat):Int):=by rw[wrap64 (by omega) (by omega)];omega
 simp only[Z3,seval,-ae,cQ,ku,rQ,w1];refine zF (λm vs h'=>∃(e:Nat) (x:L3) (v:PV),k+1<=e/\e<=O.length/\m=O.length-e/\vs=[.sl sT 0 O.length (.known O.length),.ptr U.next 0,.sl T.next 0 O.length (.known O.length),.int .i64 k,v,.int .i64 e]/\h'=T.new rr/\FI v x/\TT O k x/\at_ x k=1/\(∀(j:Nat) (z:L3),k<j->j<e->R[j]? = some (some z)->at_ x j=0)/\(∀N,gB O P C N->(∀(d:Nat) (y:L3),k+1<=d->R[d]? = some (some y)->N y)->(N y↔N x))) (O.length-(k+1)) ?_ ?_
 .exact⟨k+1,y,.fz w a O.length (pis y),vH _,cu,by omega,rfl,rfl,⟨w,a,by rw[e3]⟩,y1,y2,λj z h1 h2=>by omega,λ_ _ _=>Iff.rfl⟩
 rintro m vs h' ⟨e,x,v,gg,CI,rfl,rfl,rfl,hv,hx,eJ,m5,hN⟩
 have xS:gS O x:=hx.mono (Nat.zero_le _);have aV:=hx.len;obtain⟨wx,ax,rfl⟩:=hv;have aW:FI (.fz wx ax x.length (pis x)) x:=⟨wx,ax,rfl⟩;simp only[Z3,seval,-ae];refine iteI (λag=>?_) λaG=>?_;rotate_left
 .have uH:e=O.length:=by omega
  subst uH;have jh:=zEv kE (i:=k) (v:=.fz wx ax x.length (pis x)) (by omega) aW.one;rw[aV]at jh aW;have yH:(T.new rr).set T.next (rr.set k (.fz wx ax O.length (pis x)))=T.new (rr.set k (.fz wx ax O.length (pis x))):=zL1 T rr _;rw[yH]at jh;simp only[Z3,seval,-ae,aV,cQ,jh,gW];refine⟨k,Nat.lt_succ_self k,k,R.set k (some x),rr.set k (.fz wx ax O.length (pis x)),rfl,by omega,rfl,rfl,DRf.put mc (by rw[<-aV];exact⟨wx,ax,rfl⟩) aV,hf.put cQ e2 hx eJ (λj z h1 h2=>?_) hN,λd hd=>?_⟩
  .have hj:j<O.length:=by
    rw[<-hf.len];rcases Nat.lt_or_ge j R.length with e|e
    .exact e
    .rw[List.getElem?_eq_none e]at h2;cases h2
   exact m5 j z h1 hj h2
  .rw[List.getElem?_set,if_neg (by omega)];exact dc d (by omega)
 have aF:e<O.length:=by omega
 have jm:=zG kE e;have hex:e<x.length:=by omega
 have w2:IntKind.i64.wrap ((e:Int)+1)=((e+1:Nat):Int):=by rw[wrap64 (by omega) (by omega)];omega
 rcases DRf.get mc (d:=e) (by rw[hf.len];exact aF)with ⟨f1,f2⟩|⟨w',a',r,f1,f3,f2⟩
 .rw[f1]at jm;have je:¬((0:Int)<((0:Nat):Int)):=by decide
  simp only[Z3,seval,-ae,aF,jm,w2,je,decide_false];refine⟨_,by omega,e+1,x,_,by omega,by omega,rfl,rfl,aW,hx,eJ,λj z h1 h2 h3=>?_,hN⟩;rcases Nat.lt_or_ge j e with h|h
  .exact m5 j z h1 h h3
  .rw[show j=e by omega,f2]at h3;cases h3
 rw[f1]at jm;obtain⟨r1,r2⟩:=hf.row e r (by omega) f2;have rS:gS O r:=r1.mono (Nat.zero_le _);have bx:=xS.bd e aF;have bO:=s.pr e aF;have aD:(0:Int)<(O.length:Int):=by omega
 by_cases hz:at_ x e=0
 .simp only[Z3,seval,-ae,aF,jm,aD,decide_true,hex,pisAt hex,hz,w2];refine⟨_,by omega,e+1,x,_,by omega,by omega,rfl,rfl,aW,hx,eJ,λj z h1 h2 h3=>?_,hN⟩;rcases Nat.lt_or_ge j e with h|h
  .exact m5 j z h1 h h3
  .rw[show j=e by omega];exact hz
 have bM:IntKind.i64.wrap (0-at_ x e)=-at_ x e:=by rw[wrap64 (by omega) (by omega)];omega
 obtain⟨q1,q2,q3,q4⟩:=zE2 s F g.cent aF xS r1 r2;simp only[Z3,seval,-ae,aF,jm,aD,decide_true,hex,pisAt hex,hz,gn,bM];refine zFP g hR rS ⟨w',a',by rw[f3]⟩ (k:=-at_ x e) (by omega) λv1 g1=>?_;rw[Int.neg_neg]at g1;simp only[Z3,seval,-ae,gn];refine zAq s hR xS (G.pw (G.inv_in rS).1 _) aW g1 λv2 g2=>?_;simp only[Z3,seval,-ae,w2];generalize gm O P C x (Grp.pw (gm O P C) (zv O) (ginv (gS O) (gm O P C) (zv O) r) (at_ x e).toNat)=x' at *
 refine⟨_,by omega,e+1,x',v2,by omega,by omega,rfl,rfl,g2,⟨q1.len,q1.bd,λj hj=>by rw[q3 j (by omega)];exact hx.zero j hj⟩,by rw[q3 k (by omega)];exact eJ,λj z h1 h2 h3=>?_,λN r9 r8=>(hN N r9 r8).trans ?_⟩
 .rcases Nat.lt_or_ge j e with h|h
  .rw[q3 j h];exact m5 j z h1 h h3
  .rw[show j=e by omega];exact q4
 .have hr:=r8 e r (by omega) f2;have hp:=r9.pw hr (at_ x e).toNat;constructor
  .intro h;rw[<-q2]at h;exact r9.quotR G hp q1 h
  .intro h;rw[<-q2];exact r9.cl h hp
end Go.Proofs
namespace Go.Proofs
open Go.Ab Go.Lie Go.Grp
variable{U h h':PHeap}{K:PV->PHeap->Prop}{O x y:L3}{P:L4}{C:L5}{vO vP vC vL:PV}{L:L4}{D R:List (Option L3)}{rb:List PV}{d n:Nat}
theorem All2.unsnoc{α β:Type}{R:α->β->Prop}{us:List α}{bs:List β}{b:β}(h:All2 R us (bs++[b])):∃vT a,us=vT++[a]/\All2 R vT bs/\R a b:=by
 have hl:=h.1;rw[List.length_append,List.length_singleton]at hl;have ai:us≠[]:=λe=>by rw[e]at hl;simp at hl
 refine⟨us.dropLast,us.getLast ai,(List.dropLast_concat_getLast ai).symm,⟨by rw[List.length_dropLast];omega,λk c r hc hr=>?_⟩,?_⟩
 .have hk:k<us.dropLast.length:=by
   rcases Nat.lt_or_ge k us.dropLast.length with e|e
   .exact e
   .rw[List.getElem?_eq_none e]at hc;cases hc
  rw[List.length_dropLast]at hk;refine h.2 k c r ?_ ?_
  .rw[List.getElem?_eq_getElem (by rw[List.length_dropLast];exact hk),List.getElem_dropLast]at hc;rw[List.getElem?_eq_getElem (by omega)];exact hc
  .rw[List.getElem?_append_left (by omega)];exact hr
 .refine h.2 bs.length _ _ ?_ ?_
  .rw[List.getLast_eq_getElem,List.getElem?_eq_getElem (by omega)];congr 2;omega
  .rw[List.getElem?_append_right (vH _),Nat.sub_self];rfl
theorem zM4{α:Type}(Q:List α):Q=[]\/∃Q' x,Q=Q'++[x]:=by
 rcases Q.eq_nil_or_concat with h|⟨l,b,h⟩
 .exact .inl h
 .exact .inr ⟨l,b,by rw[h,List.concat_eq_append]⟩
theorem zJb(g:LG O P C)(hR:IsPr vO vP vC O P C)(hL:FII vL L)(sz:SzL L)(hg:∀x∈L,gS O x)
  (hk:∀v u,FII v u->CanG O (GC O P C L) u->K v U):zA Tryz.prog 87 [.agg [vO,vP,vC],vL] U K:=by
 have h1:=hR.P.one;have h2:=hR.C.one;have s:=g.s;have F:=g.F;have G:=F.g;have hC:=g.cent;have aX:=s.le;have hp:=zAs.isp g.pr;have sf:=sz.l;have aM:=hR;obtain⟨⟨w0,a0,rfl⟩,CN,CO⟩:=hR;refine zA.gh ?_;refine zP mix Tryz.func87 cf87 rfl ?_;dsimp only[if87,qI,eI,qD,eD,mI0,kI0,lI0,LI0,fI0,xI0,bI0,cI0,sI0,eI0,C1,C2,C3,mD0,lD0,fD0,xD0,I0,G0,gm0,aI0,zI0,vI0,R0,S0];simp only[Z3,seval,-ae,h1,h2,mk24 (n:=O.length) (by omega),mkL (n:=O.length) (by omega),hL.sb];have AT:(U.new [.fz w0 a0 O.length (pis O),vP,vC]).obj U.next=some [.fz w0 a0 O.length (pis O),vP,vC]:=by simp only[Z3,seval,-ae]
 have oH:(U.new [.fz w0 a0 O.length (pis O),vP,vC]).next=U.next+1:=rfl;have kp:Keep U (U.new [.fz w0 a0 O.length (pis O),vP,vC]):=zD U _;generalize U.new [.fz w0 a0 O.length (pis O),vP,vC]=T at *
 rw[<-oH];refine zNF hL sz λvQ jR rq kq pq hJ=>?_;simp only[Z3,seval,-ae];have gV:∀{rb:List PV} {h:PHeap},Keep (T.new rb) h->h.rd U.next 0 3=some [.fz w0 a0 O.length (pis O),vP,vC]/\h.rd1 U.next 0=some (.fz w0 a0 O.length (pis O))/\h.obj T.next=some rb/\T.next<h.next:=λ{rb h} k=>by
  have e1:∀t,t<T.next->h.obj t=T.obj t:=λt ht=>by rw[k.obj t (by show t<T.next+1;omega),qa,if_neg (by omega)]
  have e2:=e1 U.next (by omega);rw[AT]at e2;refine⟨by rw[ZT e2];rfl,by rw[zG e2];rfl,?_,k.next⟩
  .rw[k.obj T.next (Nat.lt_succ_self _),qa,if_pos rfl]
 have s7:∀{rb rb':List PV} {h:PHeap},Keep (T.new rb) h->Keep (T.new rb') (h.set T.next rb'):=λ{rb rb' h} k=>⟨k.next,k.top,λt ht=>by
  rw[zI];split
  .rename_i e;rw[e,qa,if_pos rfl]
  .rename_i e;rw[k.obj t ht,qa,qa,if_neg e,if_neg e]⟩
 refine zF (λm vs h'=>∃(D:List (Option L3)) (rb:List PV) (Q:L4) (vQ:PV) (rq:List PV),m=10*free D+Q.length/\vs=[.ptr U.next 0,.int .i64 O.length,.sl T.next 0 O.length (.known O.length),vQ]/\Keep (T.new rb) h'/\PT (T.next+1) h' vQ Q.length rq/\All2 FI rq Q/\(∀x∈Q,gS O x)/\All2 (DRf O.length) rb D/\OkD O D/\QI O P C D Q/\(∀N,gB O P C N->((InD N D/\∀q∈Q,N q)↔∀q∈L,N q))/\Q.length+10*free D<=L.length+10*O.length) (10*free (List.replicate O.length none)+L.length) ?_ ?_
 .refine⟨List.replicate O.length none,_,L,vQ,rq,rfl,rfl,kq,pq,hJ,hg,DRf.start _ _,OkD.start _ rfl,QI.start _,λN _=>⟨λh=>h.2,λh=>⟨InD.start _,h⟩⟩,?_⟩
  have:=zBJ (List.replicate O.length none)
  rw[List.length_replicate]at this;omega
 clear kq pq hJ vQ rq jR
 rintro m vs h' ⟨D,rb,Q,vQ,rq,rfl,rfl,kk,pq,hJ,o8,cU,hD,pI,hS,AX⟩
 obtain⟨l3,l1,lT,wH⟩:=gV kk;have hlen:=pq.pLen;have uD:=zBJ D;rw[hD.len]at uD;rcases zM4 Q with rfl|⟨Q,x,rfl⟩
 .have je:¬((0:Int)<((0:Nat):Int)):=by decide
  simp only[List.length_nil]at hlen;simp only[Z3,seval,-ae,hlen,je,l3];refine zLM g aM lT wH hD cU λv u hv pz=>?_;simp only[Z3,seval,-ae];exact Gh.fin0 (kk.keepOf2 kp) (hv.bel _) (hk v u hv (pz.can s F hC hD pI λN hN=>⟨λh=>(hS N hN).1 ⟨h,λq hq=>(by cases hq)⟩,λh=>((hS N hN).2 h).1⟩))
 have lD:(Q++[x]).length=Q.length+1:=by simp
 rw[lD]at pq hlen AX;obtain⟨fx,c,rfl,gb,hc⟩:=All2.unsnoc hJ;obtain⟨sq,off,cap,mV,rfl,bH,gA,wE⟩:=pq.unsnoc;have hx:=o8 x (by simp);have jE:∀q∈Q,gS O q:=λq hq=>o8 q (by simp[hq]);have aD:(0:Int)<((Q.length+1:Nat):Int):=by omega
 have cN:IntKind.i64.wrap (((Q.length+1:Nat):Int)-1)=(Q.length:Int):=by rw[wrap64 (by omega) (by omega)];omega
 have vd:Q.length<Q.length+1:=Nat.lt_succ_self _;rw[lD];simp only[Z3,seval,-ae,hlen,aD,cN,vd,bH,gA,l3];refine zJa g aM lT wH hD cU hx hc λvz z fz gz eZ cM=>?_;have dT:=gz.len;by_cases hd:dep z<O.length;rotate_left
 .have dW:dep z=O.length:=by have:=Qd z;omega
  have eH:=zIL gz (by omega);simp only[Z3,seval,-ae,dW];refine⟨_,?_,D,rb,Q,mV,fx,rfl,rfl,kk,wE,gb,jE,cU,hD,(pI.mem (Q':=x::Q) (λq hq=>by
   rcases List.mem_append.1 hq with h|h
   .exact List.mem_cons_of_mem _ h
   .rw[List.mem_singleton.1 h];simp)).drop (by rw[<-eH];exact cM),λN hN=>?_,by omega⟩
  .omega
  .rw[<-hS N hN];refine⟨λ⟨h1,h2⟩=>⟨h1,λq hq=>?_⟩,λ⟨h1,h2⟩=>⟨h1,λq hq=>h2 q (by simp[hq])⟩⟩;rcases List.mem_append.1 hq with hq|hq
   .exact h2 q hq
   .rw[List.mem_singleton.1 hq,cM.iff F hN h1,eH];exact hN.one
 have hdz:dep z<z.length:=by omega
 have pK:=hp _ (List.getElem_mem hd);have bO:=pK.bd;have bz:=gz.bd _ hd;have nz:=Ze hdz;have eO:at_ O (dep z)=O[dep z]:=at_eq hd;rw[eO]at bz;have dW:((dep z:Int)=(O.length:Int))=False:=by simp;omega
 obtain⟨wz,az,rfl⟩:=fz;have fz:FI (.fz wz az z.length (pis z)) z:=⟨wz,az,rfl⟩;simp only[Z3,seval,-ae,dW,l3,l1,hdz,pisAt hdz,hd,pisAt hd];refine zGW (p:=at_ O (dep z)) (by rw[eO];exact pK) (by rw[eO];omega) λq q1 q2 q3=>?_;simp only[Z3,seval,-ae,dW,l3,l1];refine zGS g aM gz fz (k:=q) (by rw[eO]at q2;omega) λvy fy=>?_;obtain⟨y1,y2⟩:=zAZ s F hC hd (zCD gz) q.toNat;have jg:at_ (Grp.pw (gm O P C) (zv O) z q.toNat) (dep z)=1:=by
  rw[y2,Int.toNat_of_nonneg (by omega),Int.mul_comm];exact q3
 have vh:∀N,gB O P C N->N z->N (Grp.pw (gm O P C) (zv O) z q.toNat):=λN hN h=>hN.pw h _;generalize Grp.pw (gm O P C) (zv O) z q.toNat=y at *
 have yS:gS O y:=y1.mono (Nat.zero_le _);have e6:=yS.len;obtain⟨wy,ay,rfl⟩:=fy;have fy:FI (.fz wy ay y.length (pis y)) y:=⟨wy,ay,rfl⟩;have dU:D[dep z]? = some none:=eZ hd;have dc:=zEe (y:=y) dU;have kO:dep z<rb.length:=by rw[cU.1,hD.len];exact hd
 have jh:=zEv lT (i:=dep z) (v:=.fz wy ay y.length (pis y)) kO fy.one;have rj:=s7 (rb':=rb.set (dep z) (.fz wy ay y.length (pis y))) kk;have tO:=DRf.put (d:=dep z) cU fy e6;have Bk:=hD.put hd y1 jg;obtain⟨k3,k1,kT,Cb⟩:=gV rj;have x9:=wE.set (t:=T.next) (Nat.lt_succ_self _) (rb.set (dep z) (.fz wy ay y.length (pis y)));have fJ:(h'.set T.next (rb.set (dep z) (.fz wy ay y.length (pis y)))).next=h'.next:=rfl;simp only[Z3,seval,-ae,hd,jh];generalize h'.set T.next (rb.set (dep z) (.fz wy ay y.length (pis y)))=h2 at *
 rw[<-fJ];refine PT.push (bytes:=24) (σb:=T.new (rb.set (dep z) (.fz wy ay y.length (pis y)))) fz.one rj x9 (by omega) (by omega) λv3 h3 s8 wD=>?_;obtain⟨m3,m1,mT,wG⟩:=gV s8;simp only[Z3,seval,-ae,m3,m1,hd,pisAt hd];refine zGS g aM yS fy (k:=at_ O (dep z)) (by rw[eO];omega) λvo fo=>?_;have vD:gS O (Grp.pw (gm O P C) (zv O) y (at_ O (dep z)).toNat):=G.pw yS _;have BB:=fo.one;have BA:=fo.cells;simp only[Z3,seval,-ae,BB,BA,m3,m1,hd,pisAt hd];refine PT.push (bytes:=24) (σb:=T.new (rb.set (dep z) (.fz wy ay y.length (pis y)))) fo.one s8 wD (by omega) (by omega) λv4 h4 wI sK=>?_;have tJ:All2 FI ((fx++[.fz wz az z.length (pis z)])++[vo]) ((Q++[z])++[Grp.pw (gm O P C) (zv O) y (at_ O (dep z)).toNat]):=(gb.snoc fz).snoc fo;have mD:∀q∈(Q++[z])++[Grp.pw (gm O P C) (zv O) y (at_ O (dep z)).toNat],gS O q:=λq hq=>by
  rcases List.mem_append.1 hq with hq|hq
  .rcases List.mem_append.1 hq with hq|hq
   .exact jE q hq
   .rw[List.mem_singleton.1 hq];exact gz
  .rw[List.mem_singleton.1 hq];exact vD
 generalize jP:(Q++[z])++[Grp.pw (gm O P C) (zv O) y (at_ O (dep z)).toNat]=Q2 at *
 have mQ:Q2.length=Q.length+1+1:=by rw[<-jP];simp
 have ue:z∈Q2:=by rw[<-jP];simp
 have ug:∀q∈Q,q∈Q2:=λq hq=>by rw[<-jP];simp[hq]
 have na:Grp.pw (gm O P C) (zv O) y (at_ O (dep z)).toNat∈Q2:=by rw[<-jP];simp
 have jQ:∀N,gB O P C N->N y->((∀q∈Q2,N q)↔(∀q∈Q,N q)/\N z):=λN hN hy=>by
  rw[<-jP];refine⟨λh=>⟨λq hq=>h q (by simp[hq]),h z (by simp)⟩,λ⟨h3,h4⟩ q hq=>?_⟩;rcases List.mem_append.1 hq with hq|hq
  .rcases List.mem_append.1 hq with hq|hq
   .exact h3 q hq
   .rw[List.mem_singleton.1 hq];exact h4
  .rw[List.mem_singleton.1 hq];exact hN.pw hy _
 generalize (fx++[PV.fz wz az z.length (pis z)])++[vo]=x4 at *
 rw[<-mQ]at sK;simp only[Z3,seval,-ae];refine zF (λm us h3=>∃(i:Nat) (vQ:PV) (E:L4) (re:List PV),i<=O.length/\m=O.length-i/\us=[.ptr U.next 0,.int .i64 O.length,.sl T.next 0 O.length (.known O.length),vQ,.int .i64 (dep z),.fz wy ay y.length (pis y),.int .i64 i]/\Keep (T.new (rb.set (dep z) (.fz wy ay y.length (pis y)))) h3/\PT (T.next+1) h3 vQ (Q2++E).length re/\All2 FI re (Q2++E)/\(∀q∈E,gS O q)/\E.length<=i/\(∀(e:Nat) (b:L3),e<i->D[e]? = some (some b)->gcom O P C y b∈E)/\∀N,gB O P C N->InD N D->N y->∀q∈E,N q) O.length ?_ ?_
 .exact⟨0,v4,[],_,by omega,by omega,rfl,wI,by rw[List.append_nil];exact sK,by rw[List.append_nil];exact tJ,λq hq=>(by cases hq),vH _,λe b h=>(by omega),λN _ _ _ q hq=>(by cases hq)⟩
 clear wI sK v4 h4 s8 wD v3 h3 m3 m1 mT wG
 rintro m us h5 ⟨i,sE,E,re,hi,rfl,rfl,nM,rf,lh,lG,Bi,lJ,lM⟩
 obtain⟨m3,m1,mT,wG⟩:=gV nM;simp only[Z3,seval,-ae];refine iteI (λag=>?_) λaG=>?_;rotate_left
 .refine⟨10*free (D.set (dep z) (some y))+(Q2++E).length,?_,D.set (dep z) (some y),_,Q2++E,sE,re,rfl,rfl,nM,rf,lh,?_,tO,Bk,(pI.mem (Q':=x::Q) (λq hq=>by
   rcases List.mem_append.1 hq with h|h
   .exact List.mem_cons_of_mem _ h
   .rw[List.mem_singleton.1 h];simp)).put cM dU (by simp[ue]) (λq hq=>by simp[ug q hq]) (List.mem_append.2 (.inl na)) (λe b hb=>.inr (by
    have:=lJ e b (by
     rcases Nat.lt_or_ge e D.length with h|h
     .have:=hD.len;omega
     .rw[List.getElem?_eq_none h]at hb;cases hb) hb
    simp[this])),λN hN=>?_,?_⟩
  .simp only[List.length_append,List.length_singleton];omega
  .intro q hq;rcases List.mem_append.1 hq with hq|hq
   .exact mD q hq
   .exact lG q hq
  .rw[<-hS N hN,InD.put dU];constructor
   .rintro⟨⟨g1,g2⟩,g3⟩
    obtain⟨g4,g5⟩:=(jQ N hN g2).1 λq hq=>g3 q (by simp[hq]);refine⟨g1,λq hq=>?_⟩;rcases List.mem_append.1 hq with hq|hq
    .exact g4 q hq
    .rw[List.mem_singleton.1 hq];exact(cM.iff F hN g1).2 g5
   .rintro⟨g1,g2⟩
    have pT:=(cM.iff F hN g1).1 (g2 x (by simp));have gy:=vh N hN pT;refine⟨⟨g1,gy⟩,λq hq=>?_⟩;rcases List.mem_append.1 hq with hq|hq
    .exact(jQ N hN gy).2 ⟨λq hq=>g2 q (by simp[hq]),pT⟩ q hq
    .exact lM N hN g1 gy q hq
  .simp only[List.length_append];omega
 have aF:i<O.length:=by omega
 have w1:IntKind.i64.wrap ((i:Int)+1)=((i+1:Nat):Int):=by rw[wrap64 (by omega) (by omega)];omega
 have eC:=zG mT i;by_cases aI:i=dep z
 .subst aI;simp only[Z3,seval,-ae,w1];refine⟨_,by omega,dep z+1,sE,E,re,by omega,rfl,rfl,nM,rf,lh,lG,by omega,λe b h1 h2=>?_,lM⟩;rcases Nat.lt_or_ge e (dep z)with h|h
  .exact lJ e b h h2
  .rw[show e=dep z by omega,dU]at h2;cases h2
 have mB:¬((i:Int)=(dep z:Int)):=by omega
 have o7:(rb.set (dep z) (.fz wy ay y.length (pis y)))[i]? = rb[i]?:=by rw[List.getElem?_set,if_neg (by omega)]
 rw[o7]at eC;rcases DRf.get cU (d:=i) (by rw[hD.len];exact aF)with ⟨e1,e2⟩|⟨w,a,b,e1,e3,e2⟩
 .rw[e1]at eC;have je:¬((0:Int)<((0:Nat):Int)):=by decide
  simp only[Z3,seval,-ae,mB,aF,eC,je,decide_false,w1];refine⟨_,by omega,i+1,sE,E,re,by omega,rfl,rfl,nM,rf,lh,lG,by omega,λe b h1 h2=>?_,lM⟩;rcases Nat.lt_or_ge e i with h|h
  .exact lJ e b h h2
  .rw[show e=i by omega,e2]at h2;cases h2
 rw[e1]at eC;have bS:gS O b:=(hD.row _ _ e2).1.mono (Nat.zero_le _);have aD:(0:Int)<(O.length:Int):=by omega
 simp only[Z3,seval,-ae,mB,aF,eC,aD,decide_true,m3];refine zLN s g.co aM yS bS fy ⟨w,a,by rw[e3]⟩ λvc fc=>?_;have BE:=fc.one;have BD:=fc.cells;simp only[Z3,seval,-ae,mB,aF,eC,aD,decide_true,m3,BE,BD];refine PT.push (bytes:=24) (σb:=T.new (rb.set (dep z) (.fz wy ay y.length (pis y)))) fc.one nM rf (by rw[List.length_append];omega) (by rw[List.length_append];omega) λv6 h6 yq x8=>?_;simp only[Z3,seval,-ae,w1];refine⟨_,by omega,i+1,v6,E++[gcom O P C y b],re++[vc],by omega,rfl,rfl,yq,?_,?_,?_,?_,?_,?_⟩;rotate_left
 .rw[<-List.append_assoc];exact lh.snoc fc
 .intro q hq;rcases List.mem_append.1 hq with hq|hq
  .exact lG q hq
  .rw[List.mem_singleton.1 hq];exact G.com_in yS bS
 .simp;omega
 .intro e b' h1 h2;rcases Nat.lt_or_ge e i with h|h
  .simp[lJ e b' h h2]
  .rw[show e=i by omega,e2]at h2;cases h2;simp
 .intro N hN pQ hy q hq;rcases List.mem_append.1 hq with hq|hq
  .exact lM N hN pQ hy q hq
  .rw[List.mem_singleton.1 hq];exact hN.com_in hy (pQ _ _ e2)
 .rw[<-List.append_assoc,List.length_append,List.length_singleton];exact x8
end Go.Proofs
namespace Go.Proofs
open Go.Ab Go.Lie
variable{p:Int}{n:Nat}{W:L4}{B:L5}{id:Prop}
theorem zDy{u w:L4}{z:L3}:z∈brL p W B n u w↔∃x∈u,∃y∈w,z=br p W B n x y:=by
 constructor
 .intro h;obtain⟨x,hx,h⟩:=List.mem_flatMap.1 h;obtain⟨y,hy,rfl⟩:=List.mem_map.1 h;exact⟨x,hx,y,hy,rfl⟩
 .rintro⟨x,hx,y,hy,rfl⟩
  exact List.mem_flatMap.2 ⟨x,hx,List.mem_map.2 ⟨y,hy,rfl⟩⟩
def wl(n:Nat)(id:Prop)(w:L4):Prop:=(id/\w=units n)\/(¬id/\w=[])
end Go.Proofs
namespace Go.Proofs
open Go.Ab Go.Lie
variable{U:PHeap}{K:PV->PHeap->Prop}{p:Int}{n:Nat}{W:L4}{B:L5}{vP vB vU vX:PV}{s:Nat}{u v:L4}
def Qy(p:Int)(W:L4)(u:L4):Prop:=Els p W.length u/\Canon p W.length W u u
theorem zNI{xs:L3}(h:∀j,at_ xs j=0):isZ xs:=λx hx=>by
 obtain⟨j,hj,rfl⟩:=List.mem_iff_getElem.1 hx;rw[<-at_eq hj];exact h j
theorem zGJ{us:L5}{wL:Bool}{aL:AV}{rL:List PV}(hs:PtrR U s p vP vB)(hR:IsR vP vB W B)(fe:SzR W B)(hL:All2 FII rL us)(c7:us.length<=2)(ai:us≠[])(sz:∀u∈us,SzL u)
  (hk:∀t:Bool,(t=true↔isLie p W B/\∀u∈us,Qy p W u)->K (.bool t) U):zA Tryz.prog 91 [.ptr s 0,.fz wL aL us.length rL] U K:=by
 have fl:∀{A:Prop},¬A->((false=true)↔A):=λh=>⟨λx=>(by cases x),λx=>absurd x h⟩
 have j6:=hR.P;obtain⟨wp,ap,rp,rfl,ks⟩:=hR.P;refine zB mix Tryz.func91 ?_
 conv=>arg 2;cbv
 refine zC rfl ?_;simp only[Z3,seval,-ae];refine zF (λm vs h'=>∃i:Nat,i<=us.length/\m=us.length-i/\vs=[.ptr s 0,.fz wL aL us.length rL,.int .i64 us.length,.int .i64 i]/\U=h'/\∀j (h:j<us.length),j<i->isLie p W B/\Qy p W us[j]) us.length ⟨0,by omega,by omega,rfl,rfl,λj h hj=>by omega⟩ ?_
 rintro m vs h' ⟨i,hi,rfl,rfl,rfl,ah⟩
 simp only[Z3,seval,-ae];refine iteI (λag=>?_) λaG=>?_;rotate_left
 .have aI:i=us.length:=by omega
  have fh:U.rd s 0 3=some [.int .i64 p,.fz wp ap W.length rp,vB]:=by rw[ZT hs.obj];rfl
  simp only[Z3,seval,-ae,fh];refine zDg hR fe λt ht=>?_;simp only[Z3,seval,-ae];refine hk _ ⟨λe=>⟨ht.1 e,λx hx=>?_⟩,λx=>ht.2 x.1⟩;obtain⟨j,hj,rfl⟩:=List.mem_iff_getElem.1 hx;exact(ah j hj (by omega)).2
 obtain⟨w4,a4,rs,hr,e9⟩:=hL.rowL ag;have hF:FII (.fz w4 a4 us[i].length rs) us[i]:=⟨w4,a4,rs,rfl,e9⟩;have wg:=sz _ (List.getElem_mem ag);have r1:U.rd1 s 1=some (.fz wp ap W.length rp):=by rw[zG hs.obj];rfl
 have bad:¬(isLie p W B/\Qy p W us[i])->¬(isLie p W B/\∀u∈us,Qy p W u):=λh x=>h ⟨x.1,x.2 _ (List.getElem_mem ag)⟩;by_cases hg:W.length<us[i].length
 .have nj:(us[i].length:Int) > (W.length:Int):=by omega
  have mF:(W.length:Int)<(us[i].length:Int):=by omega
  simp only[Z3,seval,-ae,ag,hr,r1,nj,mF,decide_true];exact hk _ (fl (bad λx=>by have:=x.2.2.len;omega))
 have nj:¬(us[i].length:Int) > (W.length:Int):=by omega
 have mF:¬(W.length:Int)<(us[i].length:Int):=by omega
 simp only[Z3,seval,-ae,ag,hr,r1,nj,mF,decide_false];refine zF9 hs hR fe hF wg λt ht=>?_;cases t with
 |false=>
  simp only[Z3,seval,-ae];exact hk _ (fl (bad λx=>by have:=ht.2 ⟨x.1,x.2.1⟩;cases this))
 |true=>
 obtain⟨hl,he⟩:=ht.1 rfl;have o:=hl.1.w;simp only[Z3,seval,-ae];refine zFM hs j6 o hl.1.1 hF he wg.l λvO out c hO=>?_;simp only[Z3,seval,-ae];have aX:=o.le;have kA:=c.len;have jD:(out=us[i])↔Qy p W us[i]:=⟨λe=>by rw[e]at c;exact⟨he,c⟩,λx=>c.unique o x.2⟩
 refine zD7 hO hF (by omega) (λx hx=>by rw[(c.els x hx).1];omega) λt ht=>?_;cases t with
 |false=>
  simp only[Z3,seval,-ae];exact hk _ (fl (bad λx=>by have:=ht.2 (jD.2 x.2);cases this))
 |true=>
 simp only[Z3,seval,-ae,wrapS ag (by omega:us.length<=4611686018427387904)];refine⟨_,by omega,i+1,by omega,rfl,rfl,λj h hj=>?_⟩;by_cases e:j=i
 .subst e;exact⟨hl,jD.1 (ht.1 rfl)⟩
 .exact ah j h (by omega)
theorem zGz{x y:L4}{vY:PV}(hs:PtrR U s p vP vB)(hR:IsR vP vB W B)(o:OkW p n W)(q:OkB p n B)(hX:FII vX x)(hY:FII vY y)(hU:FII vU u)(ex:Els p n x)(ey:Els p n y)(aV:x.length<=6)(e6:y.length<=6)(hb:Base p n W u)
  (hk:∀t:Bool,(t=true↔∀a∈x,∀b∈y,Gen p n W u (at_ (br p W B n a b)))->K (.bool t) U):zA Tryz.prog 93 [.ptr s 0,vX,vY,vU] U K:=by
 have fl:∀{A:Prop},¬A->((false=true)↔A):=λh=>⟨λx=>(by cases x),λx=>absurd x h⟩
 have aX:=o.le;have c7:u.length<=n:=QE (λv hv=>(hb.led v hv).2.1) hb.asc;refine zB mix Tryz.func93 ?_
 conv=>arg 2;cbv
 refine zC rfl ?_;simp only[Z3,seval,-ae];refine zEN hs hR o q hX hY ex ey aV e6 λvZ hZ=>?_;have ez:=zCR o q x y;have Cs:(brL p W B n x y).length<=36:=by
  rw[zAR]
  have:x.length*y.length<=6*6:=Nat.mul_le_mul aV e6
  omega
 have jD:(∀a∈x,∀b∈y,Gen p n W u (at_ (br p W B n a b)))↔∀z∈brL p W B n x y,Gen p n W u (at_ z):=⟨λh z hz=>by
  obtain⟨a,ha,b,hb,rfl⟩:=zDy.1 hz;exact h a ha b hb,λh a ha b hb=>h _ (zDy.2 ⟨a,ha,b,hb,rfl⟩)⟩
 rw[jD]at hk;clear jD;generalize brL p W B n x y=Z at *
 obtain⟨wz,az,rz,rfl,lg⟩:=hZ;simp only[Z3,seval,-ae];refine zF (λm vs h'=>∃i:Nat,i<=Z.length/\m=Z.length-i/\vs=[.ptr s 0,vU,.fz wz az Z.length rz,.int .i64 Z.length,.int .i64 i]/\U=h'/\∀j (h:j<Z.length),j<i->Gen p n W u (at_ Z[j])) Z.length ⟨0,by omega,by omega,rfl,rfl,λj h hj=>by omega⟩ ?_
 rintro m vs h' ⟨i,hi,rfl,rfl,rfl,ah⟩
 simp only[Z3,seval,-ae];refine iteI (λag=>?_) λaG=>?_;rotate_left
 .have aI:i=Z.length:=by omega
  refine hk _ ⟨λ_ z hz=>?_,λ_=>rfl⟩;obtain⟨j,hj,rfl⟩:=List.mem_iff_getElem.1 hz;exact ah j hj (by omega)
 obtain⟨w4,a4,hr⟩:=lg.rowI ag;have tg:=ez _ (List.getElem_mem ag);simp only[Z3,seval,-ae,ag,hr];refine zC9 hs hR.P o hU (λv hv=>⟨(hb.led v hv).1,(hb.led v hv).2.1⟩) (by omega) tg rfl λv1=>?_;simp only[Z3,seval,-ae];have aT:=(QK o hb.els tg).1;have fR:=zKC o hb tg;refine zAr aT.symm (by omega) ?_;by_cases eH:isZ (redL p W u Z[i])
 .simp only[Z3,seval,-ae,eH,decide_true,wrapS ag (by omega:Z.length<=4611686018427387904)];refine⟨_,by omega,i+1,by omega,rfl,rfl,λj h hj=>?_⟩;by_cases e:j=i
  .subst e;exact fR.1 (Zu eH)
  .exact ah j h (by omega)
 .simp only[Z3,seval,-ae,eH,decide_false];refine hk _ (fl λx=>eH ?_)
  have:=fR.2 (x _ (List.getElem_mem ag))
  exact zNI λj=>this j
end Go.Proofs
namespace Go.Proofs
open Go.Ab Go.Lie
variable{U:PHeap}{K:PV->PHeap->Prop}{p:Int}{n:Nat}{W:L4}{B:L5}{vP vB vU vV vX:PV}{u v:L4}
theorem zJf{xs ys:L4}(hU:FII vU xs)(hV:FII vV ys)(hx:xs.length<=1048576)(aV:∀x∈xs,x.length<=1048576)(hk:∀t:Bool,(t=true↔xs=ys)->K (.bool t) U):zA Tryz.prog 173 [vU,vV] U K:=by
 have fl:∀{A:Prop},¬A->((false=true)↔A):=λh=>⟨λx=>(by cases x),λx=>absurd x h⟩
 obtain⟨wA,aA,rA,rfl,yN⟩:=hU;obtain⟨wB,aB,rB,rfl,yM⟩:=hV;refine zB mix Tryz.func173 ?_
 conv=>arg 2;cbv
 refine zC rfl ?_;by_cases hl:xs.length=ys.length;rotate_left
 .have aU:¬(xs.length:Int)=(ys.length:Int):=by omega
  simp only[Z3,seval,-ae,aU];exact hk _ (fl λh=>hl (by rw[h]))
 have aU:(xs.length:Int)=(ys.length:Int):=by omega
 simp only[Z3,seval,-ae,eq_true aU];refine zF (λm vs h'=>∃i:Nat,i<=xs.length/\m=xs.length-i/\vs=[.fz wA aA xs.length rA,.fz wB aB ys.length rB,.int .i64 i]/\U=h'/\xs.take i=ys.take i) xs.length ?_ ?_
 .exact⟨0,by omega,by omega,rfl,rfl,rfl⟩
 rintro m vs h' ⟨i,hi,rfl,rfl,rfl,heq⟩
 simp only[Z3,seval,-ae];refine iteI (λag=>?_) λaG=>?_;rotate_left
 .have aI:i=xs.length:=by omega
  subst aI;rw[List.take_length,hl,List.take_length]at heq;exact hk _ ⟨λ_=>heq,λ_=>rfl⟩
 have an:i<ys.length:=by omega
 obtain⟨w4,a4,hr⟩:=yN.rowI ag;obtain⟨w5,a5,oF⟩:=yM.rowI an;have hb:=aV _ (List.getElem_mem ag);simp only[Z3,seval,-ae,ag,an,hr,oF];refine zFR rfl rfl (by omega) ?_;by_cases he:xs[i]=ys[i]
 .simp only[Z3,seval,-ae,he,wrapS ag (by omega:xs.length<=4611686018427387904)];refine⟨_,by omega,i+1,by omega,rfl,rfl,?_⟩;rw[List.take_succ_eq_append_getElem ag,List.take_succ_eq_append_getElem an,heq,he]
 .simp only[Z3,seval,-ae,he];refine hk _ (fl λh=>he ?_);subst h;rfl
theorem zJ5(hR:IsR vP vB W B)(fe:SzR W B)(hU:FII vU u)(sz:SzL u)(hk:∀t:Bool,(t=true↔isLie p W B/\Qy p W u)->K (.bool t) U):zA Tryz.prog 82 [.agg [.int .i64 p,vP,vB],vU] U K:=by
 have fl:∀{A:Prop},¬A->((false=true)↔A):=λh=>⟨λx=>(by cases x),λx=>absurd x h⟩
 have h1:=hR.P.one;have h2:=hR.B.one;have pH:=hR;obtain⟨⟨wp,ap,rp,rfl,ks⟩,hB⟩:=hR;obtain⟨wu,au,ru,rfl,fP⟩:=hU;have hU:FII (.fz wu au u.length ru) u:=⟨wu,au,ru,rfl,fP⟩;refine zA.gh ?_;refine zB mix Tryz.func82 ?_
 conv=>arg 2;cbv
 refine zC rfl ?_;simp only[Z3,seval,-ae,h1,h2];have ar:Keep U (U.new [.int .i64 p,.fz wp ap W.length rp,vB]):=zD U _;have fh:(U.new [.int .i64 p,.fz wp ap W.length rp,vB]).rd U.next 0 3=some [.int .i64 p,.fz wp ap W.length rp,vB]:=by simp only[Z3,seval,-ae]
 have lj:(U.new [.int .i64 p,.fz wp ap W.length rp,vB]).rd1 U.next 1=some (.fz wp ap W.length rp):=by simp only[Z3,seval,-ae]
 generalize U.new [.int .i64 p,.fz wp ap W.length rp,vB]=H at *
 refine zLK pH fe λt ht=>?_;cases t with
 |false=>
  simp only[Z3,seval,-ae,fh,lj];exact Gh.fin0 ar trivial (hk _ (fl λx=>by have:=ht.2 x.1;cases this))
 |true=>
 have hl:=ht.1 rfl;have o:=hl.1.w;have aX:=o.le;by_cases hle:u.length<=W.length;rotate_left
 .have my:¬(u.length:Int)<=(W.length:Int):=by omega
  simp only[Z3,seval,-ae,fh,lj,my,hle,decide_false];exact Gh.fin0 ar trivial (hk _ (fl λx=>hle x.2.2.len))
 have my:(u.length:Int)<=(W.length:Int):=by omega
 simp only[Z3,seval,-ae,fh,lj,my,hle,decide_true];refine zGB pH hU sz o.pr λt jX=>?_;cases t with
 |false=>
  simp only[Z3,seval,-ae,fh];exact Gh.fin0 ar trivial (hk _ (fl λx=>by have:=jX.2 x.2.1;cases this))
 |true=>
 have he:=jX.1 rfl;simp only[Z3,seval,-ae,fh];refine zFO pH o hl.1.1 hU he sz.l λvO out c hO=>?_;simp only[Z3,seval,-ae];refine zJf hU hO sz.l sz.r λt rH=>?_;simp only[Z3,seval,-ae];refine Gh.fin0 ar trivial (hk _ (rH.trans ⟨λe=>⟨hl,he,by rw[<-e]at c;exact c⟩,λx=>x.2.2.unique o c⟩))
theorem zOu{x:L3}(hR:IsR vP vB W B)(o:OkW p n W)(hU:FII vU u)(hb:Base p n W u)(hx:FI vX x)(ex:El p n x)(hk:∀t:Bool,(t=true↔Gen p n W u (at_ x))->K (.bool t) U):zA Tryz.prog 175 [.agg [.int .i64 p,vP,vB],vU,vX] U K:=by
 have h1:=hR.P.one;have h2:=hR.B.one;have aX:=o.le;have c7:u.length<=n:=QE (λv hv=>(hb.led v hv).2.1) hb.asc;obtain⟨wx,ax,rfl⟩:=hx;refine zA.gh ?_;refine zB mix Tryz.func175 ?_
 conv=>arg 2;cbv
 refine zC rfl ?_;simp only[Z3,seval,-ae,h1,h2];have ar:Keep U (U.new [.int .i64 p,vP,vB]):=zD U _;generalize U.new [.int .i64 p,vP,vB]=H at *
 refine zAH hR o hU (λv hv=>⟨(hb.led v hv).1,(hb.led v hv).2.1⟩) (by omega) ex rfl λv1=>?_;have aT:=(QK o hb.els ex).1;have fR:=zKC o hb ex;simp only[Z3,seval,-ae];refine zAI aT.symm (by omega) ?_;simp only[Z3,seval,-ae];refine Gh.fin0 ar trivial (hk _ ?_);rw[decide_eq_true_eq,<-fR];exact⟨λh j=>Zu h j,λh=>zNI h⟩
end Go.Proofs
namespace Go.Proofs
open Go.Ab Go.Lie Go.Grp
variable{U:PHeap}{K:PV->PHeap->Prop}{O:L3}{P:L4}{C:L5}{vO vP vC vx vL vU:PV}{x y z a b:L3}{L u:L4}{rb:List PV}{D:List (Option L3)}{d j sp ss sb n:Nat}
theorem zBX(s:Shp O P C)(F:Full O P C O.length)(hC:Go.Grp.Cent O C)(hn:0<O.length)(hs:PtrG U sp vO vP vC)(hR:IsPr vO vP vC O P C)(hU:FII vU u)(hu:Ones O u)(fL:u.Pairwise λa b=>dep a<dep b)(c7:u.length<=1000)(hx:gS O x)(aW:FI vx x)
  (hk:∀a z t,gS O z->(∀t,(∀v∈u,t<dep v)->∀j,j<=t->at_ z j=at_ x j)->(∀v∈u,at_ z (dep v)=0)->(∀N,gB O P C N->(∀v∈u,N v)->(N x↔N z))->Own U.top t (.fz true a O.length (pis z))->U.top<=t->K (.fz true a O.length (pis z)) (U.up t)):
  zA Tryz.prog 209 [.ptr sp 0,vU,vx] U K:=by
 have aX:=s.le;have aV:=hx.len;have gA:=hs.lt;obtain⟨wx,ax,rfl⟩:=aW;have u5:=hU;obtain⟨wl,al,rl,rfl,aT⟩:=hU;refine zA.gh ?_;refine zB mix Tryz.func209 ?_
 conv=>arg 2;cbv
 refine zC rfl ?_;simp only[Z3,seval,-ae];refine Qa rfl (by omega) ⟨λh0=>absurd aV (by rw[h0];simp;omega),λcap hc=>?_⟩;rw[aV]at hc ⊢;simp only[Z3,seval,-ae];refine zGO u5 (λv hv=>⟨by rw[(hu v hv).1.len];exact(hu v hv).2.1,by rw[(hu v hv).1.len];omega⟩) (by omega) λvp=>?_;simp only[Z3,seval,-ae];refine zF (λm vs h'=>∃(i:Nat) (z:L3),i<=u.length/\m=u.length-i/\vs=[.ptr sp 0,.fz wl al u.length rl,.sl U.next 0 O.length cap,.fz true vp u.length (pis (deps u)),.int .i64 u.length,.int .i64 i]/\h'=U.new (pis z)/\gS O z/\(∀t,(∀v∈u,t<dep v)->∀j,j<=t->at_ z j=at_ x j)/\(∀k (hk:k<u.length),k<i->at_ z (dep u[k])=0)/\(∀N,gB O P C N->(∀v∈u,N v)->(N x↔N z))) u.length ⟨0,x,by omega,by omega,rfl,rfl,hx,λ_ _ _ _=>rfl,λk _ h=>by omega,λ_ _ _=>Iff.rfl⟩ ?_
 rintro m vs h' ⟨i,z,hi,rfl,rfl,rfl,hz,hj,h0,hN⟩
 simp only[Z3,seval,-ae];refine iteI (λag=>?_) λaG=>?_;rotate_left
 .exact Gh.own (zD U _) (by simp only[Z3,seval,-ae]) (vH _) (zN _ _) hc.ok (Owns.pis _ _ _) λo t ho ht=>hk _ z t hz hj (λv hv=>by
   obtain⟨k,fm,rfl⟩:=List.mem_iff_getElem.1 hv;exact h0 k fm (by omega)) hN ho ht
 obtain⟨w4,a4,hr⟩:=aT.rowI ag;obtain⟨u1,u2,u3⟩:=hu _ (List.getElem_mem ag);have eF:u[i]∈u:=List.getElem_mem ag;have tR:(deps u)[i]? = some (dep u[i]:Int):=by simp[deps,ag]
 simp only[Z3,seval,-ae,ag,zQ,tR];refine zF (λm vs h'=>∃(z:L3),m=((at_ O (dep u[i])-at_ z (dep u[i])) % at_ O (dep u[i])).toNat/\vs=[.ptr sp 0,.fz wl al u.length rl,.sl U.next 0 O.length cap,.int .i64 i,.int .i64 (dep u[i]),.fz true vp u.length (pis (deps u)),.int .i64 u.length,.int .i64 i]/\h'=U.new (pis z)/\gS O z/\(∀t,(∀v∈u,t<dep v)->∀j,j<=t->at_ z j=at_ x j)/\(∀k (hk:k<u.length),k<i->at_ z (dep u[k])=0)/\(∀N,gB O P C N->(∀v∈u,N v)->(N x↔N z))) _ ⟨z,rfl,rfl,rfl,hz,hj,h0,hN⟩ ?_;clear hz hj hN h0 z
 rintro m vs h' ⟨z,rfl,rfl,rfl,hz,hj,h0,hN⟩
 have dT:=hz.len;have hdz:dep u[i] < z.length:=by omega
 have bz:=hz.bd _ u2;have bO:=s.pr _ u2;simp only[Z3,seval,-ae,u2,pisAt hdz];refine iteI (λheq=>?_) λju=>?_
 .simp only[Z3,seval,-ae,wrapS ag (by omega:u.length<=4611686018427387904)];refine⟨_,by omega,i+1,z,by omega,rfl,rfl,rfl,hz,hj,λk fm hk=>?_,hN⟩;rcases Nat.lt_or_ge k i with h|h
  .exact h0 k fm h
  .have e:k=i:=by omega
   subst e;exact heq
 .obtain⟨g1,g2,g3⟩:=zN4 s F hC u2 hz (zCD u1) u3;simp only[Z3,seval,-ae,ag,hr];refine zAX s F (hs.new _) hR (x:=z) (by simp only[Z3,seval,-ae]) (by simp only[Z3,seval,-ae]) (by omega) hc (by rw[Nat.sub_self];exact hz) (by rw[Nat.sub_self];exact u1) ⟨w4,a4,rfl⟩ ?_;simp only[Z3,seval,-ae];refine⟨_,?_,_,rfl,rfl,g1,λt ht j Ae=>?_,λk fm hk=>?_,λN h1 h2=>(hN N h1 h2).trans ⟨λh=>h1.cl h (h2 _ eF),λh=>h1.quotR F.g (h2 _ eF) hz h⟩⟩
  .show((at_ O (dep u[i])-at_ (gm O P C z u[i]) (dep u[i])) % at_ O (dep u[i])).toNat<_
   rw[g3];exact zOm bO.1 bz ju
  .show at_ (gm O P C z u[i]) j=_;rw[g2 j (by have:=ht _ eF;omega)];exact hj t ht j Ae
  .show at_ (gm O P C z u[i]) (dep u[k])=0;rw[g2 _ (List.pairwise_iff_getElem.1 fL k i fm ag hk)];exact h0 k fm hk
theorem zES{m b:Nat}{rows:List PV}(s:Shp O P C)(F:Full O P C O.length)(hC:Go.Grp.Cent O C)(hn:0<O.length)(hs:PtrG U sp vO vP vC)(hR:IsPr vO vP vC O P C)(ha:PAcc b 1 U vU m rows)(wV:sp<b)(hr:All2 FI rows u)(hm:m=u.length)(hu:Ones O u)(fL:u.Pairwise λa b=>dep a<dep b)(c7:u.length<=1000)(hx:gS O x)(aW:FI vx x)
  (hk:∀a z t,gS O z->(∀t,(∀v∈u,t<dep v)->∀j,j<=t->at_ z j=at_ x j)->(∀v∈u,at_ z (dep v)=0)->(∀N,gB O P C N->(∀v∈u,N v)->(N x↔N z))->Own U.top t (.fz true a O.length (pis z))->U.top<=t->K (.fz true a O.length (pis z)) (U.up t)):
  zA Tryz.prog 209 [.ptr sp 0,vU,vx] U K:=by
 subst hm;rcases ha with ⟨rfl,h1,h2⟩|⟨t0,cap,rfl,mH,q2,q3,q4,q5⟩
 .obtain rfl:u=[]:=List.eq_nil_of_length_eq_zero h1;exact zBX s F hC hn hs hR ⟨true,.nils,[],rfl,All2.nil _⟩ hu fL c7 hx aW hk
 .refine zA.lendT q2 (hr.bI 0) λo1 t1 gX=>?_;have ai:sp≠t0:=by omega
  have gY:PtrG ((U.kill t0).up t1) sp vO vP vC:=⟨by show(if sp=t0 then none else U.obj sp)=_;rw[if_neg ai];exact hs.obj,hs.lt⟩
  obtain⟨wx,ax,rfl⟩:=aW;simp only[sbs,sb,mH.ok,and_self,if_true];refine zBX s F hC hn gY hR ⟨true,_,rows,rfl,hr⟩ hu fL c7 hx ⟨wx,ax,rfl⟩ λa z t zS z1 z0 z2 ho ht=>?_;have dT:=zS.len;exact⟨t,true,a,_,z,rfl,ht,rfl,λe=>by rw[e]at dT;simp at dT;omega,ho.ge,hk a z t zS z1 z0 z2 (ho.mono gX (vH _)) (Nat.le_trans gX ht)⟩
theorem zJx(s:Shp O P C)(F:Full O P C O.length)(hC:Go.Grp.Cent O C)(hq:SeqG U ss sb sp O.length rb vO vP vC)(hR:IsPr vO vP vC O P C)(hD:OkD O D)(cU:All2 (DRow O.length) rb D)
  (hk:∀v u t,FII v u->CanD O P C D u->Own U.top t v->U.top<=t->K v (U.up t)):zA Tryz.prog 195 [.ptr ss 0] U K:=by
 have aX:=s.le;have iU:sp<U.next:=hq.pg.lt;have r0:U.rd1 ss 0=some (.ptr sp 0):=by rw[zG hq.obj];rfl
 have r1:U.rd1 ss 1=some (.sl sb 0 O.length (.known O.length)):=by rw[zG hq.obj];rfl
 have hw:IntKind.i64.wrap ((O.length:Int)-1)=(O.length:Int)-1:=wrap64 (by omega) (by omega);refine zA.gh ?_;refine zB mix Tryz.func195 ?_
 conv=>arg 2;cbv
 refine zC rfl ?_;simp only[Z3,seval,-ae,r1,hw];refine zF (λm vs h2=>∃(k:Nat) (vO:PV) (u:L4) (rows:List PV),k<=O.length/\m=k/\vs=[.ptr ss 0,vO,.int .i64 ((k:Int)-1)]/\Keep U h2/\PAcc U.next 1 h2 vO u.length rows/\All2 FI rows u/\Owns U.top h2.top rows/\Ones O u/\u.length+k<=O.length/\(∀v∈u,k<=dep v)/\(u.Pairwise λa b=>dep a<dep b)/\(∀v∈u,∀w∈u,dep v≠dep w->at_ v (dep w)=0)/\(∀(d:Nat) (y:L3),k<=d->D[d]? = some (some y)->∃v∈u,dep v=d)/\(∀N,gB O P C N->((∀x∈u,N x)↔∀d y,k<=d->D[d]? = some (some y)->N y))) O.length ⟨O.length,_,[],[],vH _,rfl,rfl,Keep.refl U,PAcc.nil _ _ _,All2.nil _,Owns.nil _ _,λv hv=>(by cases hv),by simp,λv hv=>(by cases hv),List.Pairwise.nil,λv hv=>(by cases hv),λd y h1 h2=>?_,λN hN=>⟨λ_ d y h1 h2=>?_,λ_ x hx=>(by cases hx)⟩⟩ ?_
 .rw[List.getElem?_eq_none (by rw[hD.len];exact h1)]at h2;cases h2
 .rw[List.getElem?_eq_none (by rw[hD.len];exact h1)]at h2;cases h2
 rintro m vs h2 ⟨k,vU,u,rows,cu,rfl,rfl,cI,ha,aq,tT,hu,c7,oi,fL,mf,jL,hN⟩
 rcases Nat.eq_zero_or_pos m with rfl|na
 .have pF:=ha.one;simp only[Z3,seval,-ae,show ¬((0:Int)<=((0:Nat):Int)-1) by omega,pF];exact ha.own cI (aq.bI 0) tT λa t ho ht=>hk _ u t ⟨true,a,rows,rfl,aq⟩ ⟨hu,fL,mf,λd y hy=>jL d y (Nat.zero_le _) hy,by omega,λN h1=>(hN N h1).trans ⟨λh d y hy=>h d y (Nat.zero_le _) hy,λh d y _ hy=>h d y hy⟩⟩ ho ht
 obtain⟨k,rfl⟩:∃k,m=k+1:=⟨m-1,by omega⟩
 have e:((k+1:Nat):Int)-1=(k:Int):=by omega
 have cQ:k<O.length:=cu;have bH:=zG (hq.keep cI).bobj k;have x5:h2.rd1 ss 0=some (.ptr sp 0):=by rw[zG (hq.keep cI).obj];rfl
 have wm:h2.rd1 ss 1=some (.sl sb 0 O.length (.known O.length)):=by rw[zG (hq.keep cI).obj];rfl
 rw[e];have gW:IntKind.i64.wrap ((k:Int)-1)=(k:Int)-1:=wrap64 (by omega) (by omega);rcases DRow.get cU (d:=k) (by rw[hD.len];exact cQ)with ⟨e1,e2⟩|⟨oo,cap,y,e1,e2⟩
 .rw[e1]at bH;simp only[Z3,seval,-ae,cQ,wm,bH,gW];refine⟨_,Nat.lt_succ_self k,k,vU,u,rows,by omega,rfl,rfl,cI,ha,aq,tT,hu,by omega,λv hv=>by have:=oi v hv;omega,fL,mf,λd y hd hy=>?_,λN h1=>(hN N h1).trans ⟨λh d y hd hy=>?_,λh d y hd hy=>h d y (by omega) hy⟩⟩
  .rcases Nat.lt_or_ge k d with x|x
   .exact jL d y x hy
   .rw[show d=k by omega,e2]at hy;cases hy
  rcases Nat.lt_or_ge k d with x|x
  .exact h d y x hy
  .rw[show d=k by omega,e2]at hy;cases hy
 .rw[e1]at bH;obtain⟨y1,y2⟩:=hD.row _ _ e2;have yS:gS O y:=y1.mono (Nat.zero_le _);have pF:=ha.one;have uY:=ha.cells;simp only[Z3,seval,-ae,cQ,x5,wm,bH,gW,pF,uY];refine zES s F hC (by omega) (hq.keep cI).pg hR ha iU aq rfl hu fL (by omega) yS ⟨true,_,by rw[y1.len]⟩ λaz z t1 zS z1 z0 z2 ow gX=>?_;have za:∀j,j<=k->at_ z j=at_ y j:=z1 k λv hv=>oi v hv;have zt:TT O k z:=⟨zS.len,zS.bd,λj hj=>by rw[za j (by omega)];exact y1.zero j hj⟩
  have zk:at_ z k=1:=by rw[za k (vH _)];exact y2
  have dT:=zS.len;have zd:dep z=k:=by
   have h1:=zAO zt (by omega);rcases Nat.lt_or_ge k (dep z)with h|h
   .rw[qE h]at zk;omega
   .omega
  have fj:=Keep.up (Keep.refl h2) gX;have AY:=ha.keep fj;simp only[Z3,seval,-ae];refine PSl.app (bytes:=24) (b:=U.next) (σb:=h2.up t1) (n:=1) (m:=u.length) (cs:=[.fz true az O.length (pis z)]) (news:=rows) (zD _ _) cI.next (PSl.new _ 1 rfl (vH _)) ha.len (λh0=>(AY.keep (zD _ _)).first h0) ha.lenc (by omega) (by omega) λv3 h3 k3 a3=>?_;have ah:All2 FI ([.fz true az O.length (pis z)]++rows) (z::u):=(All2.nil FI |>.snoc (⟨true,_,by rw[dT]⟩:FI (.fz true az O.length (pis z)) z)).append aq;have z7:=cI.next;simp only[Z3,seval,-ae,gW];refine⟨k,Nat.lt_succ_self k,k,v3,z::u,[.fz true az O.length (pis z)]++rows,by omega,rfl,rfl,cI.trans (fj.trans k3),?_,ah,(tT.cons ow cI.top gX).mono (vH _) k3.top,?_,by simp;omega,?_,?_,?_,?_,λN h1=>?_⟩
  .rw[List.length_cons,Nat.add_comm u.length 1];obtain⟨s3,jT,rfl,mJ,ub,rR,kK,bJ⟩:=a3;exact .inr ⟨s3,jT,rfl,mJ,ub,rR,by simp only[PHeap.up]at kK;omega,bJ⟩
  .intro v hv;rcases List.mem_cons.1 hv with rfl|hv
   .exact⟨zS,by omega,by rw[zd];exact zk⟩
   .exact hu v hv
  .intro v hv;rcases List.mem_cons.1 hv with rfl|hv
   .omega
   .have:=oi v hv;omega
  .rw[List.pairwise_cons];exact⟨λv hv=>by have:=oi v hv;omega,fL⟩
  .intro v hv w hw ai;rcases List.mem_cons.1 hv with ev|bX
   .rcases List.mem_cons.1 hw with ew|gW
    .rw[ev,ew]at ai;exact absurd rfl ai
    .rw[ev];exact z0 w gW
   .rcases List.mem_cons.1 hw with ew|gW
    .rw[ew];exact qE (by have:=oi v bX;omega)
    .exact mf v bX w gW ai
  .intro d y' hd hy;rcases Nat.lt_or_ge k d with x|x
   .obtain⟨v,hv,e⟩:=jL d y' x hy;exact⟨v,List.mem_cons_of_mem _ hv,e⟩
   .exact⟨z,by simp,by omega⟩
  .have l8:(∀d y,k<=d->D[d]? = some (some y)->N y)↔(N y/\∀d y,k+1<=d->D[d]? = some (some y)->N y):=by
    refine⟨λh=>⟨h k y (vH _) e2,λd y hd hy=>h d y (by omega) hy⟩,λ⟨h3,h4⟩ d y' hd hy=>?_⟩;rcases Nat.lt_or_ge k d with x|x
    .exact h4 d y' x hy
    .rw[show d=k by omega,e2]at hy;cases hy;exact h3
   rw[l8,<-hN N h1,List.forall_mem_cons];refine⟨λ⟨h3,h4⟩=>⟨(z2 N h1 h4).2 h3,h4⟩,λ⟨h3,h4⟩=>⟨(z2 N h1 h4).1 h3,h4⟩⟩
theorem zJp(g:LG O P C)(hs:PtrG U sp vO vP vC)(hR:IsPr vO vP vC O P C)(hL:FII vL L)(hg:∀x∈L,gS O x)(sf:L.length<=1000000)
  (hk:∀v u t,FII v u->CanG O (GC O P C L) u->Own U.top t v->U.top<=t->K v (U.up t)):zA Tryz.prog 96 [.ptr sp 0,vL] U K:=by
 have s:=g.s;have F:=g.F;have hC:=g.cent;have hp:=zAs.isp g.pr;have vi:=hL;obtain⟨wl,al,rl,rfl,aT⟩:=hL;refine zA.gh ?_;refine zB mix Tryz.func96 ?_
 conv=>arg 2;cbv
 refine zC rfl ?_;simp only[Z3,seval,-ae];refine zF5 s hs hR λss sb h1 k1 n1 n2 q1=>?_;simp only[Z3,seval,-ae];refine zSB s F hC hp q1 hR (OkD.start O.length rfl) ⟨by simp,λk c r hc hr=>?_⟩ (QI.start _) vi hg sf λt rb' D' fH jb A8 pM hf c4=>?_
 .rw[List.getElem?_replicate]at hc hr;split at hc
  .rename_i h;rw[if_pos h]at hr;cases hc;cases hr;exact .inl ⟨rfl,rfl⟩
  .cases hc
 simp only[Z3,seval,-ae];refine zJx s F hC (q1.setB rb') hR jb fH λv u t f1 cd ho ht=>?_;have g1:=f1.one;simp only[Z3,seval,-ae,g1];have kk:=k1.set n2 rb';exact Gh.fin0T (Keep.up kk ht) (vH _) (f1.bel _) λ_=>(hk v u t f1 (cd.can s F hC jb A8 λN hN=>(pM N hN).trans ⟨λh=>h.2,λh=>⟨InD.start _,h⟩⟩) (ho.mono kk.top (vH _)) (Nat.le_trans kk.top ht))
end Go.Proofs
namespace Go.Proofs
open Go.Ab Go.Lie
variable{U:PHeap}{K:PV->PHeap->Prop}{p:Int}{n:Nat}{W:L4}{B:L5}{vP vB vL vU:PV}{u:L4}{x:L3}
theorem zHt{list:L4}(hR:IsR vP vB W B)(o:OkW p n W)(hU:FII vU u)(hb:Base p n W u)(hL:FII vL list)(eL:Els p n list)(lD:list.length<=1048576)
  (hk:∀t:Bool,(t=true↔∀x∈list,Gen p n W u (at_ x))->K (.bool t) U):zA Tryz.prog 84 [.agg [.int .i64 p,vP,vB],vU,vL] U K:=by
 have h1:=hR.P.one;have h2:=hR.B.one;obtain⟨wl,al,rl,rfl,aT⟩:=hL;refine zA.gh ?_;refine zB mix Tryz.func84 ?_
 conv=>arg 2;cbv
 refine zC rfl ?_;simp only[Z3,seval,-ae,h1,h2];have fh:(U.new [.int .i64 p,vP,vB]).rd U.next 0 3=some [.int .i64 p,vP,vB]:=by simp only[Z3,seval,-ae]
 have gP:Keep U (U.new [.int .i64 p,vP,vB]):=zD U _;generalize U.new [.int .i64 p,vP,vB]=H at *
 refine zF (λm us h=>∃i:Nat,i<=list.length/\m=list.length-i/\us=[vU,.fz wl al list.length rl,.ptr U.next 0,.int .i64 i]/\H=h/\∀j (hj:j<list.length),j<i->Gen p n W u (at_ list[j])) list.length ⟨0,by omega,by omega,rfl,rfl,λj hj h0=>by omega⟩ ?_
 rintro m us h ⟨i,hi,rfl,rfl,rfl,ah⟩
 simp only[Z3,seval,-ae];refine iteI (λag=>?_) λaG=>?_;rotate_left
 .refine Gh.fin0 gP trivial (hk _ ⟨λ_ x hx=>?_,λ_=>rfl⟩);obtain⟨j,hj,rfl⟩:=List.mem_iff_getElem.1 hx;exact ah j hj (by omega)
 obtain⟨w5,a5,kv⟩:=aT.rowI ag;simp only[Z3,seval,-ae,ag,kv,fh];refine zOu hR o hU hb (x:=list[i]) ⟨w5,a5,rfl⟩ (eL _ (List.getElem_mem ag)) λt ht=>?_;cases t with
 |false=>
  simp only[Z3,seval,-ae,ag,kv,fh];exact Gh.fin0 gP trivial (hk _ ⟨λe=>(by cases e),λh=>by have:=ht.2 (h _ (List.getElem_mem ag));cases this⟩)
 |true=>
  simp only[Z3,seval,-ae,ag,kv,fh,wrapS ag (by omega:list.length<=4611686018427387904)];refine⟨_,by omega,i+1,by omega,rfl,rfl,λj hj Cw=>?_⟩;by_cases e:j=i
  .subst e;exact ht.1 rfl
  .exact ah j hj (by omega)
end Go.Proofs
namespace Go.Proofs
open Go.Ab Go.Lie Go.Grp
variable{U h:PHeap}{K:PV->PHeap->Prop}{p:Int}{n c:Nat}{W:L4}{B:L5}{vP vB vU:PV}{u x:L4}{s:Nat}
def zCQ(p:Int)(W:L4)(B:L5)(u:L4):Prop:=∀x∈u,∀y∈u,Gen p W.length W u (at_ (br p W B W.length x y))
def SrR(p:Int)(W:L4)(B:L5)(u z:L4)(c:Int):Prop:=
 (¬(isLie p W B/\Qy p W u)/\z=[]/\c=1)\/((isLie p W B/\Qy p W u)/\¬(isLz p W.length W B/\zCQ p W B u)/\z=[]/\c=5)\/
 ((isLie p W B/\Qy p W u)/\(isLz p W.length W B/\zCQ p W B u)/\CanG (rO p W.length) (GC (rO p W.length) (lgPs p W.length W B W.length) (lgCs p W.length W B W.length) (u.map λe=>vcG p W.length W B e)) z/\c=0)
theorem zEw(lz:Lz p n W B c)(hu:Els p n u):∀x∈u.map (λe=>vcG p n W B e),gS (rO p n) x:=λx hx=>by
 obtain⟨e,he,rfl⟩:=List.mem_map.1 hx;exact(gS_el lz).2 (vc_el lz (hu e he))
theorem SrR.unique{z z':L4}{c c':Int}(h:SrR p W B u z c)(g:SrR p W B u z' c'):z=z'/\c=c':=by
 rcases h with ⟨h1,h2,h3⟩|⟨h1,h2,h3,h4⟩|⟨h1,h2,h3,h4⟩<;>rcases g with ⟨g1,g2,g3⟩|⟨g1,g2,g3,g4⟩|⟨g1,g2,g3,g4⟩
 .exact⟨by rw[h2,g2],by rw[h3,g3]⟩
 .exact absurd g1 h1
 .exact absurd g1 h1
 .exact absurd h1 g1
 .exact⟨by rw[h3,g3],by rw[h4,g4]⟩
 .exact absurd g2 h2
 .exact absurd h1 g1
 .exact absurd h2 g2
 .obtain⟨cc,lz⟩:=Lz.of h1.1 h2.1;exact⟨h3.unique (lg_LG lz).s (lg_LG lz).F (GC.sub (lg_LG lz).F (zEw lz h1.2.1)) g3,by rw[h4,g4]⟩
theorem SrR.bd{z:L4}{c:Int}(h:SrR p W B u z c):SzL z:=by
 rcases h with ⟨h1,rfl,h3⟩|⟨h1,h2,rfl,h4⟩|⟨h1,h2,h3,h4⟩
 .exact⟨by simp,λx hx=>by cases hx⟩
 .exact⟨by simp,λx hx=>by cases hx⟩
 .have o:=h1.1.1.w;have h5:=h3.len
  have:=o.le
  simp only[List.length_replicate]at h5;exact⟨by omega,λx hx=>by have:=(h3.one x hx).1.len;simp only[List.length_replicate]at this;omega⟩
theorem zPg(hR:IsR vP vB W B)(fe:SzR W B)(hU:FII vU u)(gu:SzL u)
  (hk:∀v z c,SrR p W B u z c->FII v z->K (.tup [v,.int .i64 c]) U):zA Tryz.prog 13 [.agg [.int .i64 p,vP,vB],vU] U K:=by
 have h1:=hR.P.one;have h2:=hR.B.one;refine zA.gh ?_;refine zP mix Tryz.func13 cf13 rfl ?_;dsimp only[if13,eI,qD,eD,mI0,kI0,LI0,bI0,cI0,nI0,sI0,C1,C2,mD0,lD0,xD0,G0,gm0,zI0,R0,S0];simp only[Z3,seval,-ae,h1,h2];have ar:Keep U (U.new [.int .i64 p,vP,vB]):=zD _ _;have gn:(U.new [.int .i64 p,vP,vB]).rd U.next 0 3=some [.int .i64 p,vP,vB]:=by simp only[Z3,seval,-ae]
 have uh:U.next<(U.new [.int .i64 p,vP,vB]).next:=Nat.lt_succ_self _;generalize U.new [.int .i64 p,vP,vB]=H at *
 have gw:∀{c:Int},SrR p W B u [] c->Gh U K (.tup [.fz true .nils 0 [],.int .i64 c]) H:=λ{c} h=>Gh.fin0 ar ⟨trivial,trivial,trivial⟩ (hk _ [] _ h ⟨true,.nils,[],rfl,All2.nil _⟩);refine zJ5 hR fe hU gu λt cg=>?_;cases t with
 |false=>
  simp only[Z3,seval,-ae];exact gw (.inl ⟨λe=>(by have:=cg.2 e;cases this),rfl,rfl⟩)
 |true=>
 have hl:=cg.1 rfl;have o:=hl.1.1.w;have q:=hl.1.1.b;have aX:=o.le;have c7:=hl.2.2.len;have hp:=hl.1.1.1;simp only[Z3,seval,-ae,gn];refine zOt hR o q hp λt ht=>?_;cases t with
 |false=>
  simp only[Z3,seval,-ae,gn,h1,h2];exact gw (.inr (.inl ⟨hl,λe=>(by have:=ht.2 e.1;cases this),rfl,rfl⟩))
 |true=>
 have hz:=ht.1 rfl;clear ht;simp only[Z3,seval,-ae,gn,h1,h2];refine zCI hR o q hp hU hU hl.2.1 hl.2.1 (by omega) (by omega) λvb y cy hY=>?_;have e6:=cy.len;simp only[Z3,seval,-ae,gn,h1,h2];refine zHt hR o hU hl.2.2.base hY cy.els (by omega) λt ht=>?_;replace ht:t=true↔zCQ p W B u:=ht.trans ⟨λh a ha b hb=>Z8 h ((cy.gen _).1 (qF (zDy.2 ⟨a,ha,b,hb,rfl⟩))),λh x hx=>by
  refine Z8 (λz hz=>?_) ((cy.gen _).2 (qF hx));obtain⟨a,ha,b,hb,rfl⟩:=zDy.1 hz;exact h a ha b hb⟩
 cases t with
 |false=>
  simp only[Z3,seval,-ae,gn,h1,h2];refine gw (.inr (.inl ⟨hl,λe=>?_,rfl,rfl⟩))
  have:=ht.2 e.2
  cases this
 |true=>
 have di:zCQ p W B u:=ht.1 rfl;obtain⟨cc,lz⟩:=Lz.of hl.1 hz;have g:=lg_LG lz;have bD:=hl.2.1;obtain⟨wu,au,ru,rfl,fP⟩:=hU;have ll:∀{h:PHeap},Keep H h->h.rd U.next 0 3=some [.int .i64 p,vP,vB]:=λ{h} k=>by rw[k.rd uh];exact gn
 simp only[Z3,seval,-ae,gn,h1,h2];refine zF (λm us h=>∃(i:Nat) (vL:PV) (rows:List PV),i<=u.length/\m=u.length-i/\us=[.fz wu au u.length ru,.ptr U.next 0,vL,.int .i64 i]/\Keep H h/\PSl H.next 1 h vL i rows/\All2 FI rows ((u.take i).map λe=>vcG p W.length W B e)) u.length ?_ ?_
 .exact⟨0,_,[],by omega,by omega,rfl,zD _ _,PSl.new _ 1 rfl (vH _),by simpa using All2.nil _⟩
 rintro m us h ⟨i,vL,rows,hi,rfl,rfl,gf,ha,aq⟩
 have l3:=ll gf;simp only[Z3,seval,-ae];refine iteI (λag=>?_) λaG=>?_;rotate_left
 .have aI:i=u.length:=by omega
  subst aI;rw[List.take_length]at aq;obtain⟨t,cap,rfl,mH,q2,q3,q4,q5⟩:=ha;simp only[Z3,seval,-ae,l3];refine zJT lz hR λvO vQ vC f1 f2 f3=>?_;have cZ:IsPr vO vQ vC (rO p W.length) (lgPs p W.length W B W.length) (lgCs p W.length W B W.length):=⟨f1,f2,f3⟩;simp only[Z3,seval,-ae,l3];refine zA.frz q2 (aq.bI 0) λo1=>?_;simp only[sbs,sb,mH.ok,and_self,if_true,cZ.O.sb,cZ.P.sb,cZ.C.sb];refine zJb g cZ ⟨true,_,rows,by rw[List.length_map],aq⟩ ⟨by rw[List.length_map];omega,λx hx=>by have:=(zEw lz bD x hx).len;simp only[List.length_replicate]at this;omega⟩ (zEw lz bD) λv' z dj cq=>?_;simp only[Z3,seval,-ae];exact Gh.fin0 (ar.trans (gf.kill q4)) ⟨dj.bel _,trivial,trivial⟩ (hk v' z 0 (.inr (.inr ⟨hl,⟨hz,di⟩,cq,rfl⟩)) dj)
 obtain⟨w4,a4,hr⟩:=fP.rowI ag;have uG:=bD _ (List.getElem_mem ag);simp only[Z3,seval,-ae,ag,hr,l3];refine zBe lz hR uG ⟨w4,a4,rfl⟩ λv2 f4=>?_;have y1:=f4.one;have y2:=f4.cells;simp only[Z3,seval,-ae,y1,y2,ag,hr,l3];refine PSl.push (bytes:=24) (σb:=H) gf ha (by omega) (by omega) λv' h3 k3 a3=>?_;simp only[Z3,seval,-ae,wrapS ag (by omega:u.length<=4611686018427387904)];refine⟨_,by omega,i+1,v',_,by omega,rfl,rfl,k3,a3,?_⟩;rw[List.take_succ_eq_append_getElem ag,List.map_append];exact aq.snoc f4
end Go.Proofs
namespace Go.Proofs
open Go.Ab Go.Lie Go.Grp
variable{U h:PHeap}{K:PV->PHeap->Prop}{p:Int}{c:Nat}{W:L4}{B:L5}{vP vB vU:PV}{u x:L4}{s:Nat}
theorem zIe(hR:IsR vP vB W B)(fe:SzR W B)(hU:FII vU u)(gu:SzL u)
  (hk:∀v z c t,SrR p W B u z c->FII v z->Own U.top t v->U.top<=t->K (.tup [v,.int .i64 c]) (U.up t)):zA Tryz.prog 16 [.agg [.int .i64 p,vP,vB],vU] U K:=by
 have h1:=hR.P.one;have h2:=hR.B.one;refine zA.gh ?_;refine zB mix Tryz.func16 ?_
 conv=>arg 2;cbv
 refine zC rfl ?_;simp only[Z3,seval,-ae,h1,h2,hU.one,hU.cells];refine zA.frz (s:=U.next+1) (cs:=[vU]) (by simp only[Z3,seval,-ae]) ⟨hU.bel 0,trivial⟩ λo1=>?_;have ar:Keep U (((U.new [.int .i64 p,vP,vB]).new [vU]).kill (U.next+1)):=((zD U _).new _).kill (by omega);have hs:PtrR (((U.new [.int .i64 p,vP,vB]).new [vU]).kill (U.next+1)) U.next p vP vB:=⟨by simp only[Z3,seval,-ae],by simp only[Z3,seval,-ae];omega⟩
 generalize ((U.new [.int .i64 p,vP,vB]).new [vU]).kill (U.next+1)=T at *
 simp only[sbs,Go.Ab.sb,capOK,and_self,if_true,decide_true,vH];have gw:∀{c:Int},SrR p W B u [] c->Gh U K (.tup [.fz true .nils 0 [],.int .i64 c]) T:=λ{c} h=>Gh.fin0T ar ar.top ⟨trivial,trivial,trivial⟩ λ_=>hk _ [] _ U.top h ⟨true,.nils,[],rfl,All2.nil _⟩ (Own.empty _ _ _ _ _) (vH _);refine zGJ (us:=[u]) hs hR fe ((All2.nil FII).snoc hU) (by simp) (by simp) (λx hx=>by rw[List.mem_singleton.1 hx];exact gu) λt ht=>?_;have cg:t=true↔isLie p W B/\Qy p W u:=by rw[ht];simp
 clear ht;cases t with
 |false=>
  simp only[Z3,seval,-ae];exact gw (.inl ⟨λe=>(by have:=cg.2 e;cases this),rfl,rfl⟩)
 |true=>
 have hl:=cg.1 rfl;have o:=hl.1.1.w;have q:=hl.1.1.b;have aX:=o.le;have c7:=hl.2.2.len;simp only[Z3,seval,-ae];refine zJj hs hR o q hl.1.1.1 λt ht=>?_;cases t with
 |false=>
  simp only[Z3,seval,-ae];exact gw (.inr (.inl ⟨hl,λe=>(by have:=ht.2 e.1;cases this),rfl,rfl⟩))
 |true=>
 have hz:=ht.1 rfl;clear ht;simp only[Z3,seval,-ae];refine zGz hs hR o q hU hU hU hl.2.1 hl.2.1 (by omega) (by omega) hl.2.2.base λt ht=>?_;cases t with
 |false=>
  simp only[Z3,seval,-ae];exact gw (.inr (.inl ⟨hl,λe=>(by have:=ht.2 e.2;cases this),rfl,rfl⟩))
 |true=>
 have di:zCQ p W B u:=ht.1 rfl;obtain⟨cc,lz⟩:=Lz.of hl.1 hz;have g:=lg_LG lz;have bD:=hl.2.1;simp only[Z3,seval,-ae];refine zGt lz hs hR λvO vQ vC t f1 f2 f3 ho ht=>?_;have cZ:IsPr vO vQ vC (rO p W.length) (lgPs p W.length W B W.length) (lgCs p W.length W B W.length):=⟨f1,f2,f3⟩;have k0:=cZ.O.one;have k1:=cZ.P.one;have k2:=cZ.C.one;obtain⟨wu,au,ru,rfl,fP⟩:=hU;simp only[Z3,seval,-ae,k0,k1,k2];have cI:Keep U ((T.new [vO,vQ,vC]).up t):=ar.trans ((zD T _).up ht);have gY:PtrR ((T.new [vO,vQ,vC]).up t) U.next p vP vB:=hs.keep ((zD T _).up ht);have mE:PtrG ((T.new [vO,vQ,vC]).up t) T.next vO vQ vC:=⟨by simp only[Z3,seval,-ae],Nat.lt_succ_self _⟩
 generalize (T.new [vO,vQ,vC]).up t=H at *
 refine zF (λm us h=>∃(i:Nat) (vL:PV) (rows:List PV),i<=u.length/\m=u.length-i/\us=[.ptr U.next 0,.ptr T.next 0,vL,.fz wu au u.length ru,.int .i64 u.length,.int .i64 i]/\Keep H h/\PAcc H.next 1 h vL i rows/\All2 FI rows ((u.take i).map λe=>vcG p W.length W B e)) u.length ?_ ?_
 .exact⟨0,_,[],by omega,by omega,rfl,Keep.refl _,PAcc.nil _ _ _,by simpa using All2.nil _⟩
 rintro m us h ⟨i,vL,rows,hi,rfl,rfl,gf,ha,aq⟩
 simp only[Z3,seval,-ae];refine iteI (λag=>?_) λaG=>?_;rotate_left
 .have aI:i=u.length:=by omega
  subst aI;rw[List.take_length]at aq;have fin:∀{g':PHeap} {v:PV} {Q:PV->PHeap->Prop},Keep H g'->FII v (u.map λe=>vcG p W.length W B e)->(∀w t,g'.top<=t->w.one=true->Gh U K (.tup [w,.int .i64 0]) (g'.up t)->Q w (g'.up t))->zA Tryz.prog 96 [.ptr T.next 0,v] g' Q:=λ{g' v Q} kg hv hQ=>
   zJp g (mE.keep kg) cZ hv (zEw lz bD) (by rw[List.length_map];omega) λv' z t dj cq ho ht=>hQ _ t ht dj.one (Gh.fin0T (Keep.up (cI.trans kg) ht) (vH _) ⟨dj.bel _,trivial,trivial⟩ λ_=>hk v' z 0 t (.inr (.inr ⟨hl,⟨hz,di⟩,cq,rfl⟩)) dj (ho.mono (cI.trans kg).top (vH _)) (Nat.le_trans (cI.trans kg).top ht))
  rcases ha with ⟨rfl,h1,h2⟩|⟨t,cap,rfl,mH,q2,q3,q4,q5⟩
  .have vi:u=[]:=List.eq_nil_of_length_eq_zero h1;subst vi;simp only[Z3,seval,-ae];refine fin gf ⟨true,.nils,[],rfl,All2.nil _⟩ λw t ht l6 hg=>?_;simp only[Z3,seval,-ae,l6];exact hg
  .have bZ:=mE.lt;have ai:T.next≠t:=by omega
   simp only[Z3,seval,-ae];refine zA.frz q2 (aq.bI 0) λo1=>?_;simp only[sbs,sb,mH.ok,and_self,if_true,ai,false_and,if_false];refine fin (gf.kill q4) ⟨true,_,rows,by rw[List.length_map],aq⟩ λw t ht l6 hg=>?_;simp only[Z3,seval,-ae,l6];exact hg
 obtain⟨w4,a4,hr⟩:=fP.rowI ag;have uG:=bD _ (List.getElem_mem ag);have fF:(vcG p W.length W B u[i]).length=W.length:=zG5;simp only[Z3,seval,-ae,ag,hr];refine zA.fz (e:=1) (λK'=>zA6 lz (gY.keep gf) hR uG ⟨w4,a4,rfl⟩) (zN _ _) λo cap=>?_;simp only[Z3,seval,-ae];refine PAcc.push (bytes:=24) gf ha (by omega) (by omega) λv' h3 k3 a3=>?_;simp only[Z3,seval,-ae,wrapS ag (by omega:u.length<=4611686018427387904)];refine⟨_,by omega,i+1,v',_,by omega,rfl,rfl,k3,a3.acc,?_⟩;rw[List.take_succ_eq_append_getElem ag,List.map_append];exact aq.snoc ⟨_,_,by rw[fF]⟩
end Go.Proofs
