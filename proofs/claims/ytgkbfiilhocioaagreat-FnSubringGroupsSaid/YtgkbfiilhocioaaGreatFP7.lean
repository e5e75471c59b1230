/- . -/
import Derived.Test.YtgkbfiilhocioaaGreatFP6
open Nat renaming le_refl→vM
open Int renaming reduceNatCast'->ae
set_option maxRecDepth 100000
namespace Go.Grp
end Go.Grp
set_option linter.unusedSimpArgs false
set_option linter.unusedVariables false
namespace Go.Proofs
open Go.Ab Go.Lie Go.Grp
variable{p:Int}{n c a:Nat}{W:V2}{B:V3}{x y:V1}{f:Vec}
noncomputable def lgP(p:Int)(n:Nat)(W:V2)(B:V3)(i:Nat):V1:=vcG p n W B (lmul p W p (unitL n i))
noncomputable def lgC(p:Int)(n:Nat)(W:V2)(B:V3)(i k:Nat):V1:=vcG p n W B (conj p n W B (unitL n (i+(1+k))) (unitL n i))
noncomputable def lgPs(p:Int)(n:Nat)(W:V2)(B:V3)(m:Nat):V2:=(List.range m).map (lgP p n W B)
noncomputable def lgR(p:Int)(n:Nat)(W:V2)(B:V3)(i m:Nat):V2:=(List.range m).map (lgC p n W B i)
noncomputable def lgCs(p:Int)(n:Nat)(W:V2)(B:V3)(m:Nat):V3:=(List.range m).map λi=>lgR p n W B i (n-1-i)
abbrev rO(p:Int)(n:Nat):V1:=List.replicate n p
theorem rO_at{j:Nat}(h:j<n):at_ (rO p n) j=p:=by rw[at_eq (by simpa using h)];simp
theorem getD_map{α:Type}(f:Nat->α)(d:α){m i:Nat}(h:i<m):((List.range m).map f).getD i d=f i:=by
 rw[List.getD_eq_getElem?_getD,List.getElem?_map,List.getElem?_range h];rfl
theorem zKU{j:Nat}(h:j<n):pvec (lgPs p n W B n) j=lgP p n W B j:=getD_map _ _ h
theorem zNA{i:Nat}(h:i<n):(lgCs p n W B n).getD i []=lgR p n W B i (n-1-i):=getD_map _ _ h
theorem zGJ{i j:Nat}(h:i<j)(hj:j<n):cvec (lgCs p n W B n) i j=vcG p n W B (conj p n W B (unitL n j) (unitL n i)):=by
 show((lgCs p n W B n).getD i []).getD (j-i-1) []=_
 rw[zNA (by omega)];unfold lgR;rw[getD_map _ _ (by omega)];unfold lgC;rw[show i+(1+(j-i-1))=j by omega]
theorem tt_el{t:Nat}(o:OkW p n W):TT (rO p n) t x↔El p n x/\∀j,j<t->at_ x j=0:=by
 constructor
 .intro h;have hl:x.length=n:=by rw[h.len];simp
  refine⟨⟨hl,λy hy=>?_⟩,h.zero⟩;obtain⟨i,hi,rfl⟩:=List.mem_iff_getElem.1 hy
  have:=h.bd i (by simp;omega)
  rw[rO_at (by omega),at_eq hi]at this;omega
 .rintro⟨h,h2⟩
  refine⟨by rw[h.1];simp,λj hj=>?_,h2⟩;rw[rO_at (by simpa using hj)]
  have:=h.at0 o j
  omega
noncomputable abbrev rPh (p:Int) (n:Nat) (W:V2) (B:V3) (x:V1) (t d:Nat):V1:=Grp.ph (bch p n W B) (List.replicate n 0) (unitL n) (nx x) t d
theorem Lz.pwu(z:Lz p n W B c){i:Nat}(hi:i<n)(k:Nat):Grp.pw (bch p n W B) (List.replicate n 0) (unitL n i) k=lmul p W k (unitL n i):=z.pw_eq (zV z.r.o.pr hi) k
theorem nx_eq(h:0<=at_ x a):((nx x a:Nat):Int)=at_ x a:=Int.toNat_of_nonneg h
theorem zBR(z:Lz p n W B c){x:V1}:∀{d t:Nat},t+d<=n->El p n (rPh p n W B x t d)/\(∀j,j<t->at_ (rPh p n W B x t d) j=0)/\(0<d->at_ (rPh p n W B x t d) t=(nx x t:Int) % p)
 |0,t,h=>⟨ZO z.r.o.pr,λj _=>zn n j,λh=>by omega⟩
 |d+1,t,h=>by
  obtain⟨h1,h2,h3⟩:=zBR z (x:=x) (d:=d) (t:=t+1) (by omega);have e:rPh p n W B x t (d+1)=bch p n W B (lmul p W (nx x t) (unitL n t)) (rPh p n W B x (t+1) d):=by
   show bch p n W B (Grp.pw _ _ _ _) _=_;rw[z.pwu (by omega)]
  obtain⟨e1,e2,e3⟩:=zBh z.r.o (show t<n by omega) (nx x t:Int);obtain⟨k1,k2⟩:=z.headL e1 h1 (by omega) e2;rw[e];refine⟨Z5 z.r.o z.r.q e1 h1,λj hj=>by rw[k1 j hj];exact h2 j (by omega),λ_=>?_⟩;rw[k2,e3,h2 t (by omega),Int.add_zero,Int.emod_emod_of_dvd _ (Int.dvd_refl p)]
theorem zHo(z:Lz p n W B c):∀{d t:Nat} {x y:V1},t+d<=n->(∀j,t<=j->j<t+d->(0<=at_ x j/\at_ x j<p)/\(0<=at_ y j/\at_ y j<p))->rPh p n W B x t d=rPh p n W B y t d->∀j,t<=j->j<t+d->at_ x j=at_ y j
 |0,t,x,y,h,hr,e,j,h1,h2=>by omega
 |d+1,t,x,y,h,hr,e,j,h1,h2=>by
  have a1:=(zBR z (x:=x) (d:=d+1) (t:=t) h).2.2 (by omega);have a2:=(zBR z (x:=y) (d:=d+1) (t:=t) h).2.2 (by omega);obtain⟨⟨r1,r2⟩,r3,r4⟩:=hr t (vM _) (by omega);have ht:at_ x t=at_ y t:=by
   rw[e,a2,nx_eq r1,nx_eq r3,Int.emod_eq_of_lt r1 r2,Int.emod_eq_of_lt r3 r4]at a1;exact a1.symm
  rcases Nat.lt_or_ge t j with hj|hj
  .have G:=z.gp;refine zHo z (d:=d) (t:=t+1) (by omega) (λj h1 h2=>hr j (by omega) (by omega)) ?_ j hj (by omega);have hu:=zV (n:=n) z.r.o.pr (show t<n by omega);refine G.cancel (G.pw hu (nx x t)) (zBR z (by omega)).1 (zBR z (by omega)).1 ?_
   have:nx x t=nx y t:=by unfold nx;rw[ht]
   show rPh p n W B x t (d+1)=_;rw[e,this];rfl
  .have:j=t:=by omega
   subst this;exact ht
theorem pt_ph(z:Lz p n W B c)(hx:El p n x):rPh p n W B x 0 n=ptG p n W B x n:=by
 have o:=z.r.o;have key:∀i,i<=n->bch p n W B (ptG p n W B x i) (rPh p n W B x i (n-i))=rPh p n W B x 0 n:=by
  intro i
  induction i with
  |zero=>intro _;exact z.one_l (zBR z (by omega)).1
  |succ i ih=>
   intro hi;rw[<-ih (by omega)];have hu:=zV (n:=n) o.pr (show i<n by omega);have hp:=Q8 o z.r.q x (i:=i) (by omega);have e:rPh p n W B x i (n-i)=bch p n W B (lmul p W (nx x i) (unitL n i)) (rPh p n W B x (i+1) (n-(i+1))):=by
    rw[show n-i=(n-(i+1))+1 by omega];show bch p n W B (Grp.pw _ _ _ _) _=_;rw[z.pwu (by omega)]
   rw[e,<-z.assoc hp (zK o hu hu) (zBR z (by omega)).1,nx_eq (hx.at0 o i).1];rfl
 rw[<-key n (vM _),Nat.sub_self];exact z.one_r (Q8 o z.r.q x (vM _))
theorem ph_vc(z:Lz p n W B c)(hx:El p n x){t:Nat}(ht:t<=n)(h:∀j,j<t->at_ x j=0):rPh p n W B (vcG p n W B x) t (n-t)=x:=by
 have e:=pt_ph z (vc_el z hx);rw[pt_vc z hx]at e;have k:=z.gp.toMon.ph_skip (h:=unitL n) (x:=nx (vcG p n W B x)) (d:=n-t) (k:=t) (t:=0) (λj _ hj=>by unfold nx;rw[(zDi z hx ht h).1 j (by omega)];rfl) (λj _ hj=>zV z.r.o.pr (by omega));rw[Nat.zero_add,show t+(n-t)=n by omega]at k;exact k.symm.trans e
theorem zNf(z:Lz p n W B c)(hx:El p n x)(hy:El p n y)(ha:a<n)(h:∀j,j<a->at_ x j=0):(∀j,j<a->at_ (conj p n W B x y) j=0)/\at_ (conj p n W B x y) a=at_ x a:=by
 have o:=z.r.o;have hc:=Qh o z.r.q hx hy;obtain⟨u,hu,e⟩:=z.conj_fil z.filD hx hy;obtain⟨v,h1,h2,h3⟩:=hu a (.inl (Dzv.of hx h));have e2:=e.trans ((Eqv.refl (at_ x)).add h3);obtain⟨k1,k,k2⟩:=QF o e2 ha (λj hj=>hc.at0 o j) (λj hj=>by rw[h2 j (by omega),h j hj];have:=o.pr.1;omega);refine⟨λj hj=>by rw[k1 j hj,h2 j (by omega),h j hj];rfl,?_⟩
 have:=zFS k2 (hc.at0 o a)
 rw[this,h2 a (by omega),Int.add_zero,Int.emod_eq_of_lt (hx.at0 o a).1 (by have:=hx.at0 o a;omega)]
theorem vc_tt(z:Lz p n W B c)(hx:El p n x){t:Nat}(ht:t<=n)(h:∀j,j<t->at_ x j=0):TT (rO p n) t (vcG p n W B x):=(tt_el z.r.o).2 ⟨vc_el z hx,(zDi z hx ht h).1⟩
theorem zCl(z:Lz p n W B c){i j:Nat}(h:i<j)(hj:j<n):El p n (conj p n W B (unitL n j) (unitL n i))/\(∀k,k<j->at_ (conj p n W B (unitL n j) (unitL n i)) k=0)/\at_ (conj p n W B (unitL n j) (unitL n i)) j=1:=by
 have o:=z.r.o;have hi:=zV (n:=n) o.pr (show i<n by omega);have hu:=zV (n:=n) o.pr hj;obtain⟨h1,h2⟩:=zNf z hu hi hj (zAf hj).1;exact⟨Qh o z.r.q hu hi,h1,by rw[h2,(zAf hj).2]⟩
theorem zDB(z:Lz p n W B c){j:Nat}(hj:j<n):El p n (lmul p W p (unitL n j))/\∀k,k<j+1->at_ (lmul p W p (unitL n j)) k=0:=by
 obtain⟨e1,e2,e3⟩:=zBh z.r.o hj p;refine⟨e1,λk hk=>?_⟩;rcases Nat.lt_or_ge k j with h|h
 .exact e2 k h
 .have:k=j:=by omega
  subst this;rw[e3,Int.emod_self]
theorem zPo(z:Lz p n W B c){t j:Nat}(h:t<=j)(hj:j<n):rPh p n W B (unitL n j) t (n-t)=unitL n j:=by
 have o:=z.r.o;have hu:=zV (n:=n) o.pr hj;have k:=z.gp.toMon.ph_skip (h:=unitL n) (x:=nx (unitL n j)) (d:=n-j) (k:=j-t) (t:=t) (λk h1 h2=>by unfold nx;rw[qR hj,if_neg (by omega)];rfl) (λk h1 h2=>zV o.pr (by omega));rw[show j-t+(n-j)=n-t by omega,show t+(j-t)=j by omega]at k;refine k.trans ?_;have k2:=z.gp.toMon.ph_skip (h:=unitL n) (x:=nx (unitL n j)) (d:=0) (k:=n-(j+1)) (t:=j+1) (λk h1 h2=>by unfold nx;rw[qR hj,if_neg (by omega)];rfl) (λk h1 h2=>zV o.pr (by omega));simp only[Nat.add_zero]at k2;rw[show n-j=(n-(j+1))+1 by omega];show bch p n W B (Grp.pw _ _ _ _) (Grp.ph _ _ _ _ _ _)=_;rw[k2];have e1:nx (unitL n j) j=1:=by unfold nx;rw[(zAf hj).2];rfl
 rw[e1,z.gp.toMon.pw_one hu];exact z.one_r hu
theorem zCD(z:Lz p n W B c):Shp (rO p n) (lgPs p n W B n) (lgCs p n W B n) where
 le:=by simp;exact z.r.o.le
 pr:=λj hj=>by rw[rO_at (by simpa using hj)];exact z.r.o.pr
 pl:=by simp[lgPs]
 cl:=by simp[lgCs]
 pw:=λi hi=>by
  have jt:i<n:=by simpa using hi
  rw[zKU jt];exact vc_tt z (zDB z jt).1 (by omega) (zDB z jt).2
 row:=λi hi=>by
  have jt:i<n:=by simpa using hi
  rw[zNA jt];simp[lgR]
 cj:=λi j kV hj=>by
  have eE:j<n:=by simpa using hj
  rw[zGJ kV eE];obtain⟨h1,h2,h3⟩:=zCl z kV eE;exact vc_tt z h1 (by omega) λk hk=>h2 k (by omega)
theorem zNB(z:Lz p n W B c):Rel (rO p n) (lgPs p n W B n) (lgCs p n W B n) (El p n) (bch p n W B) (List.replicate n 0) (unitL n) 0 where
 mem:=λj _ hj=>zV z.r.o.pr (by simpa using hj)
 pow:=λj _ hj=>by
  have eE:j<n:=by simpa using hj
  obtain⟨h1,h2⟩:=zDB z eE;rw[zKU eE];have e:=ph_vc z h1 (show j+1<=n by omega) h2;have el:(rO p n).length=n:=by simp
  show _=Grp.ph _ _ _ _ ((rO p n).length-((rO p n).length-(j+1))) ((rO p n).length-(j+1));rw[el,show n-(n-(j+1))=j+1 by omega];refine Eq.trans ?_ e.symm;rw[z.pwu eE];unfold nx;rw[rO_at eE,Int.toNat_of_nonneg (by have:=z.r.o.pr.1;omega)]
 cj:=λj k _ sS hk=>by
  have bZ:k<n:=by simpa using hk
  have o:=z.r.o;obtain⟨h1,h2,h3⟩:=zCl z sS bZ;rw[zGJ sS bZ];have e:=ph_vc z h1 (show j+1<=n by omega) (λi hi=>h2 i (by omega));have el:(rO p n).length=n:=by simp
  show _=bch p n W B _ (Grp.ph _ _ _ _ ((rO p n).length-((rO p n).length-(j+1))) ((rO p n).length-(j+1)));rw[el,show n-(n-(j+1))=j+1 by omega];refine Eq.trans ?_ (congrArg (bch p n W B (unitL n j)) e.symm);exact(z.conj_move (zV o.pr bZ) (zV o.pr (by omega))).symm
theorem zP9(z:Lz p n W B c):Cons (rO p n) (lgPs p n W B n) (lgCs p n W B n):=by
 have el:(rO p n).length=n:=by simp
 have o:=z.r.o;have gj:∀i x,Ph (rO p n) (bch p n W B) (List.replicate n 0) (unitL n) ((rO p n).length-(i+1)) x=Grp.ph (bch p n W B) (List.replicate n 0) (unitL n) (nx x) (n-(n-(i+1))) (n-(i+1)):=λi x=>by
  show Grp.ph _ _ _ _ ((rO p n).length-((rO p n).length-(i+1))) ((rO p n).length-(i+1))=_;rw[el]
 refine Cons.of_rel (zCD z) z.gp (zNB z) (λi hi x y hx hy e=>?_) (λi j x kV hj hx=>?_) (λi j kV hj=>?_)
 .have jt:i<n:=by simpa using hi
  rw[show(rO p n).length-1-i=(rO p n).length-(i+1) by omega,gj,gj,show n-(n-(i+1))=i+1 by omega]at e;have hr:∀j,i+1<=j->j<i+1+(n-(i+1))->(0<=at_ x j/\at_ x j<p)/\(0<=at_ y j/\at_ y j<p):=λj h1 h2=>by
   have b1:=hx.bd j (by rw[el];omega);have b2:=hy.bd j (by rw[el];omega);rw[rO_at (by omega)]at b1 b2;exact⟨b1,b2⟩
  have:=zHo z (by omega) hr e
  exact hx.ext hy λj h1 h2=>this j h1 (by omega)
 .have eE:j<n:=by simpa using hj
  rw[show(rO p n).length-1-i=(rO p n).length-(i+1) by omega,gj,gj,show n-(n-(i+1))=i+1 by omega,show n-(n-(j+1))=j+1 by omega];have k:=z.gp.toMon.ph_skip (h:=unitL n) (x:=nx x) (d:=n-(j+1)) (k:=j-i) (t:=i+1) (λk h1 h2=>by unfold nx;rw[hx.zero k (by omega)];rfl) (λk h1 h2=>zV o.pr (by omega));rw[show j-i+(n-(j+1))=n-(i+1) by omega,show i+1+(j-i)=j+1 by omega]at k;exact k
 .have eE:j<n:=by simpa using hj
  rw[show(rO p n).length-1-i=(rO p n).length-(i+1) by omega,gj,show n-(n-(i+1))=i+1 by omega];have eu:Grp.unit (rO p n) j=unitL n j:=by show(List.replicate (rO p n).length 0).set j 1=_;rw[el];rfl
  rw[eu];exact zPo z (by omega) eE
end Go.Proofs
namespace Go.Proofs
open Go.Ab Go.Lie Go.Grp
variable{p:Int}{n c:Nat}{W:V2}{B:V3}{x y:V1}{g:Vec}
theorem zF3{O x:V1}{t:Nat}(h:TT O t x):Zx O t x:=by
 refine⟨⟨h.len,λj hj=>by have:=h.bd j (by rw[<-h.len];exact hj);omega⟩,λv hv=>?_⟩;rw[List.mem_take_iff_getElem]at hv;obtain⟨j,hj,rfl⟩:=hv;rw[<-at_eq];exact h.zero j (by omega)
theorem zIL(p:Int):∀n,ipow p n=p ^ n
 |0=>by simp[ipow]
 |n+1=>by rw[Int.pow_succ,<-zIL p n];simp only[ipow];try rw[Int.mul_comm]
theorem zP8(z:Lz p n W B c):qx (rO p n) (lgPs p n W B n) (lgCs p n W B n):=by
 have s:=zCD z;have el:(rO p n).length=n:=by simp
 refine⟨s.le,s.pl,s.cl,λo ho=>by rw[List.eq_of_mem_replicate ho];exact z.hp,?_,λi hi=>⟨zF3 (s.pw i hi),s.row i hi,λk hk=>?_⟩⟩
 .rw[zGe λo ho=>List.eq_of_mem_replicate ho,el,<-zIL];exact z.pow
 .rw[s.row i hi]at hk
  have:=s.cj i (i+1+k) (by omega) (by omega)
  unfold cvec at this;rw[show i+1+k-i-1=k by omega]at this;exact zF3 this
theorem zQs(z:Lz p n W B c):isCen (rO p n) (lgCs p n W B n):=by
 have el:(rO p n).length=n:=by simp
 intro i hi;rw[el]at hi;refine⟨by rw[rO_at hi,rO_at (by omega)],λq hq=>?_⟩;rw[el]at hq;obtain⟨h1,h2,h3⟩:=zCl z (i:=i) (j:=i+(1+q)) (by omega) hq;have e:=zGJ (p:=p) (W:=W) (B:=B) (i:=i) (j:=i+(1+q)) (by omega) hq;obtain⟨k1,k2⟩:=zDi z h1 (Nat.le_of_lt hq) h2;refine⟨?_,?_⟩
 .rw[e,k2 hq,h3]
 .rw[e];exact(zF3 (vc_tt z h1 (Nat.le_of_lt hq) h2)).2
theorem lg_LG(z:Lz p n W B c):LG (rO p n) (lgPs p n W B n) (lgCs p n W B n):=⟨zP8 z,zP9 z,zQs z⟩
theorem gS_el(z:Lz p n W B c):gS (rO p n) x↔El p n x:=by
 rw[show gS (rO p n) x=TT (rO p n) 0 x from rfl,tt_el z.r.o];exact⟨λh=>h.1,λh=>⟨h,λj hj=>by omega⟩⟩
theorem vc_pt(z:Lz p n W B c)(hx:El p n x):vcG p n W B (ptG p n W B x n)=x:=by
 have o:=z.r.o;have hp:=Q8 o z.r.q x (vM n);have hv:=vc_el z hp;refine zNa hv hx λj hj=>?_;refine zHo z (d:=n) (t:=0) (x:=vcG p n W B (ptG p n W B x n)) (y:=x) (by omega) (λj _ _=>⟨by have:=hv.at0 o j;omega,by have:=hx.at0 o j;omega⟩) ?_ j (Nat.zero_le _) (by omega);rw[pt_ph z hv,pt_vc z hp,pt_ph z hx]
theorem zMU(z:Lz p n W B c)(hx:El p n x)(hy:El p n y)(h:ptG p n W B x n=ptG p n W B y n):x=y:=by rw[<-vc_pt z hx,h,vc_pt z hy]
theorem zL5(z:Lz p n W B c)(hx:El p n x)(hy:El p n y)(h:vcG p n W B x=vcG p n W B y):x=y:=by rw[<-pt_vc z hx,h,pt_vc z hy]
noncomputable abbrev rm (p:Int) (n:Nat) (W:V2) (B:V3):V1->V1->V1:=gm (rO p n) (lgPs p n W B n) (lgCs p n W B n)
theorem zHi(z:Lz p n W B c)(hx:El p n x)(hy:El p n y):El p n (rm p n W B x y)/\ptG p n W B (rm p n W B x y) n=bch p n W B (ptG p n W B x n) (ptG p n W B y n):=by
 have el:(rO p n).length=n:=by simp
 have G:=(lg_LG z).F.g;have hm:=(gS_el z).1 (G.cl ((gS_el z).2 hx) ((gS_el z).2 hy));refine⟨hm,?_⟩;have tt:∀{x},El p n x->TT (rO p n) ((rO p n).length-(rO p n).length) x:=λ{x} h=>by rw[Nat.sub_self];exact(gS_el z).2 h
 have d:=dyck (zCD z) z.gp.toMon (zNB z) (d:=(rO p n).length) (by omega) (tt hx) (tt hy);have e:∀x,Ph (rO p n) (bch p n W B) (List.replicate n 0) (unitL n) (rO p n).length x=rPh p n W B x 0 n:=λx=>by show Grp.ph _ _ _ _ ((rO p n).length-(rO p n).length) (rO p n).length=_;rw[el,Nat.sub_self]
 rw[e,e,e,pt_ph z hx,pt_ph z hy]at d;rw[<-d];exact(pt_ph z hm).symm
theorem zE4(z:Lz p n W B c)(hx:El p n x)(hy:El p n y):vcG p n W B (bch p n W B x y)=rm p n W B (vcG p n W B x) (vcG p n W B y):=by
 obtain⟨h1,h2⟩:=zHi z (vc_el z hx) (vc_el z hy);refine zMU z (vc_el z (Z5 z.r.o z.r.q hx hy)) h1 ?_;rw[h2,pt_vc z hx,pt_vc z hy,pt_vc z (Z5 z.r.o z.r.q hx hy)]
theorem pt_el(z:Lz p n W B c)(x:V1):El p n (ptG p n W B x n):=Q8 z.r.o z.r.q x (vM n)
theorem zv_rO:zv (rO p n)=List.replicate n 0:=by show List.replicate (rO p n).length 0=_;simp
theorem zDn(z:Lz p n W B c):ptG p n W B (zv (rO p n)) n=List.replicate n 0:=by
 have o:=z.r.o;rw[zv_rO,<-pt_ph z (ZO o.pr)]
 have:=z.gp.toMon.ph_skip (h:=unitL n) (x:=nx (List.replicate n (0:Int))) (d:=0) (k:=n) (t:=0) (λj _ hj=>by unfold nx;rw[zn];rfl) (λj h1 h2=>by omega)
 simp only[Nat.add_zero]at this;exact this
theorem zDh(z:Lz p n W B c):vcG p n W B (List.replicate n 0)=zv (rO p n):=by
 rw[<-zDn z,vc_pt z (by rw[zv_rO];exact ZO z.r.o.pr)]
end Go.Proofs
namespace Go.Proofs
open Go.Ab Go.Lie Go.Grp
variable{σ h h':PHeap}{K:PV->PHeap->Prop}{O:V1}{P:V2}{C:V3}{vO vP vC vx vL v c x:PV}{xs:V2}{b m t:Nat}{cs ds:List PV}
theorem _root_.Go.Ab.Keep.keepOf2{σ T h:PHeap}{rr:List PV}(k:Keep (T.new rr) h)(kp:Keep σ T):Keep σ h:=(kp.new rr).trans k
def PT(b:Nat)(h:PHeap)(v:PV)(m:Nat)(cs:List PV):Prop:=
 (v=.fz true .nils 0 []/\m=0/\cs=[])\/∃s off cap row,v=.sl s off m cap/\(cap=.grown 1\/∃c,cap=.known c/\m<=c/\off+c<=row.length)/\h.obj s=some row/\(row.drop off).take m=cs/\off+m<=row.length/\b<=s/\s<h.next
theorem PT.len(a:PT b h v m cs):cs.length=m:=by
 rcases a with ⟨_,rfl,rfl⟩|⟨s,off,cap,row,rfl,h1,h2,h3,h4,h5,h6⟩
 .rfl
 .rw[<-h3,List.length_take,List.length_drop];omega
theorem PT.of(a:PSl b 1 h v m cs):PT b h v m cs:=by
 obtain⟨s,cap,rfl,h1,h2,h3,h4,h5⟩:=a;refine .inr ⟨s,0,cap,cs,rfl,?_,h2,by rw[List.drop_zero,List.take_of_length_le (by omega)],by omega,h4,h5⟩;rcases h1 with rfl|rfl
 .exact .inl rfl
 .exact .inr ⟨m,rfl,vM _,by omega⟩
theorem PT.set(a:PT b h v m cs)(ht:t<b)(ds:List PV):PT b (h.set t ds) v m cs:=by
 rcases a with a|⟨s,off,cap,row,rfl,h1,h2,h3,h4,h5,h6⟩
 .exact .inl a
 .exact .inr ⟨s,off,cap,row,rfl,h1,by rw[zH,if_neg (by omega)];exact h2,h3,h4,h5,h6⟩
theorem PT.pLen(a:PT b h v m cs):pLen v=some (.int .i64 m):=by
 rcases a with ⟨rfl,rfl,_⟩|⟨s,off,cap,row,rfl,_⟩<;>rfl
theorem PT.unsnoc(a:PT b h v (m+1) (cs++[c])):∃s off cap v',v=.sl s off (m+1) cap/\h.rd1 s (off+m)=some c/\Zd 1 v none (some (.int .i64 m)) none=some v'/\PT b h v' m cs:=by
 have hl:=a.len;rcases a with ⟨_,e,_⟩|⟨s,off,cap,row,rfl,h1,h2,h3,h4,h5,h6⟩
 .cases e
 have hlen:cs.length=m:=by simpa using hl
 have e4:row[off+m]? = some c:=by
  have e:((row.drop off).take (m+1))[m]? = some c:=by
   rw[h3,List.getElem?_append_right (by omega),hlen,Nat.sub_self];rfl
  rw[List.getElem?_take_of_lt (by omega),List.getElem?_drop]at e;exact e
 have e3:(row.drop off).take m=cs:=by
  have e:((row.drop off).take (m+1)).take m=cs:=by rw[h3,List.take_append_of_le_length (by omega),List.take_of_length_le (by omega)]
  rw[List.take_take,Nat.min_eq_left (by omega)]at e;exact e
 have hz:(m:Int)<=((m+1:Nat):Int):=by omega
 rcases h1 with rfl|⟨k,rfl,fe,bV⟩
 .refine⟨s,off,_,.sl s off m (.grown 1),rfl,by rw[zI h2];exact e4,?_,.inr ⟨s,off,_,row,rfl,.inl rfl,h2,e3,by omega,h5,h6⟩⟩;simp only[Z3,seval,-ae,hz];rfl
 .have IL:(m:Int)<=(k:Int):=by omega
  refine⟨s,off,_,.sl s off m (.known k),rfl,by rw[zI h2];exact e4,?_,.inr ⟨s,off,_,row,rfl,.inr ⟨k,rfl,by omega,bV⟩,h2,e3,by omega,h5,h6⟩⟩;simp only[Z3,seval,-ae,hz,IL];rw[if_pos (show m<=k by omega)];simp
theorem PT.push{σb:PHeap}{bytes:Nat}{K:PV×PHeap->Prop}(gO:x.one=true)(hk:Keep σb h)(a:PT σb.next h v m cs)
  (h1:(m+1)*bytes<=140737488355328) (h2:m+1<=4611686018427387904) (k:∀v' h',Keep σb h'->PT σb.next h' v' (m+1) (cs++[x])->K (v',h')):optK (qU 1 bytes (h.new [x]) v (.sl h.next 0 1 (.known 1))) K:=by
 have hl:=a.len;rcases a with ⟨rfl,rfl,rfl⟩|⟨s,off,cap,row,rfl,q1,q2,q3,q4,q5,q6⟩
 .exact PAcc.push hk (PAcc.nil _ _ _) h1 h2 λv' h' k1 k2=>k v' h' k1 (.of k2)
 rw[Q9];have hp:Zu 1 (h.new [x]) (.sl h.next 0 1 (.known 1)) 1=some [x]:=by simp[Qv,zAT]
 have dH:(h.new [x]).obj s=some row:=by simp only[PHeap.new];rw[if_neg (by omega)];exact q2
 have hn:=hk.next;simp only[plen,Option.bind_some];rw[if_neg (by omega),hp];simp only[Option.bind_some];rcases q1 with rfl|⟨c,rfl,c1,c2⟩
 .rw[zAd,if_pos ⟨h1,h2,rfl⟩,dH];simp only[Option.bind_some];rw[if_pos (by omega),Nat.mul_one,q3];refine ZL rfl (k _ _ (((hk.new _).kill (by omega)).new _) (.inr ⟨(h.new [x]).next,0,_,cs++[x],rfl,.inl rfl,by simp[PHeap.new,PHeap.kill],?_,by simp[hl],by simp[PHeap.new];omega,by simp[PHeap.new,PHeap.kill]⟩));rw[List.drop_zero,List.take_of_length_le (by simp[hl])]
 .rw[zAc];by_cases hc:m+1<=c
  .rw[if_pos hc,Nat.mul_one,qC dH,if_pos ⟨by simp;omega,by simp[gO]⟩];simp only[Option.map_some,List.length_singleton];refine ZL rfl (k _ _ ((hk.new _).set q5 _) (.inr ⟨s,off,_,_,rfl,.inr ⟨c,rfl,hc,?_⟩,by rw[zH,if_pos rfl],?_,?_,q5,Nat.lt_succ_of_lt q6⟩))
   .simp;omega
   .have e1:(row.take (off+m)).length=off+m:=by simp;omega
    rw[List.append_assoc,List.drop_append_of_le_length (by omega),List.take_append,show((row.take (off+m)).drop off).length=m by simp;omega];have e2:(row.take (off+m)).drop off=cs:=by
     rw[<-q3,List.drop_take];congr 1;omega
    rw[e2,List.take_of_length_le (by omega),show m+1-m=1 by omega];simp
   .simp;omega
  .rw[if_neg hc,if_pos ⟨h1,h2⟩,ze dH,if_pos (by omega),Nat.mul_one,q3];simp only[Option.map_some];refine ZL rfl (k _ _ ((hk.new _).new _) (.inr ⟨(h.new [x]).next,0,_,cs++[x],rfl,.inl rfl,by simp[PHeap.new],?_,by simp[hl],by simp[PHeap.new];omega,by simp[PHeap.new]⟩));rw[List.drop_zero,List.take_of_length_le (by simp[hl])]
theorem zNL(hL:FII vL xs)(sz:SzL xs)(hk:∀v h' rows,Keep σ h'->PT σ.next h' v xs.length rows->All2 FI rows xs->K v h'):zA Tryz.prog 180 [vL] σ K:=by
 have hb:=sz.l;obtain⟨wl,al,rl,rfl,bp⟩:=hL;refine zD mix Tryz.func180 ?_
 conv=>arg 2;cbv
 refine zF rfl ?_;simp only[Z3,seval,-ae];refine zG (λm vs h'=>∃i v rows,i<=xs.length/\m=xs.length-i/\vs=[.fz wl al xs.length rl,v,.int .i64 (i:Nat)]/\Keep σ h'/\PSl σ.next 1 h' v i rows/\All2 FI rows (xs.take i)) xs.length ?_ ?_
 .exact⟨0,_,[],by omega,by omega,rfl,zC σ _,PSl.new σ.next 1 rfl (vM _),by simpa using All2.nil _⟩
 .rintro m vs h' ⟨i,v,rows,hi,rfl,rfl,aq,ha,aj⟩
  simp only[Z3,seval,-ae];refine iteI (λah=>?_) λaG=>?_
  .obtain⟨w4,a4,cw⟩:=bp.rowI ah;simp only[Z3,seval,-ae,ah,cw];refine zA.fz (e:=1) (λK'=>Z7 rfl (by have:=sz.r _ (List.getElem_mem ah);omega)) (zL _ _) λo cap=>?_;simp only[Z3,seval,-ae];refine PSl.push (bytes:=24) (σb:=σ) aq ha (by omega) (by omega) λv2 h2 k2 a2=>?_;simp only[Z3,seval,-ae,wrapS ah (by omega:xs.length<=4611686018427387904)];refine⟨_,by omega,i+1,v2,_,by omega,rfl,rfl,k2,a2,?_⟩;rw[List.take_succ_eq_append_getElem ah];exact aj.snoc ⟨_,_,rfl⟩
  .have aK:i=xs.length:=by omega
   subst aK;rw[List.take_length]at aj;exact hk _ _ rows aq (.of ha) aj
theorem zFa{x:V1}{vx:PV}(g:LG O P C)(hR:IsPr vO vP vC O P C)(hx:gS O x)(aX:FI vx x){k:Int}(eC:-1000<=k/\k<0)(hk:∀v,FI v (Grp.pw (gm O P C) (zv O) (ginv (gS O) (gm O P C) (zv O) x) (-k).toNat)->K v σ):
  zA Tryz.prog 182 [.agg [vO,vP,vC],vx,.int .i64 k] σ K:=by
 have h0:=hR.O.one;have h1:=hR.P.one;have h2:=hR.C.one;have M:=g.F.g.toMon;have fe:k<0:=eC.2;have sN:IntKind.i64.wrap (0-k)=-k:=by rw[wrap64 (by omega) (by omega)];omega
 refine zA.gh ?_;refine zD mix Tryz.func182 ?_
 conv=>arg 2;cbv
 refine zF rfl ?_;simp only[Z3,seval,-ae,h0,h1,h2,fe];refine zGl g.s g.co hR hx aX λv hv=>?_;simp only[Z3,seval,-ae,h0,h1,h2,sN];refine zBV g.s (d:=O.length) (i:=0) (by omega) (zAV g.s (by omega)) M hR (g.F.g.inv_in hx).1 hv (by omega) λv hv=>?_;simp only[Z3,seval,-ae];exact Gh.fin0 (zC σ _) (hv.bel _) (hk v hv)
end Go.Proofs
namespace Go.Proofs
open Go.Ab Go.Lie
variable{σ:PHeap}{K:PV->PHeap->Prop}{n:Nat}{p:Int}
theorem u64_and{n:Nat}(hn:n<=6):pbin .and .other (.int .u64 n) (.int .u64 4294967295)=some (.int .u64 n):=by
 have hc:n=0\/n=1\/n=2\/n=3\/n=4\/n=5\/n=6:=by omega
 rcases hc with rfl|rfl|rfl|rfl|rfl|rfl|rfl<;>rfl
theorem zPO{n:Nat}(hn:n<=6):pbin .shr .other (.int .u64 n) (.int .u64 32)=some (.int .u64 0):=by
 have hc:n=0\/n=1\/n=2\/n=3\/n=4\/n=5\/n=6:=by omega
 rcases hc with rfl|rfl|rfl|rfl|rfl|rfl|rfl<;>rfl
theorem zHS{n:Nat}(hn:n<=6):IntKind.u64.wrap (n:Int)=n:=by
 have hc:n=0\/n=1\/n=2\/n=3\/n=4\/n=5\/n=6:=by omega
 rcases hc with rfl|rfl|rfl|rfl|rfl|rfl|rfl<;>rfl
theorem zPG(hn:n<=6)(hk:K (.tup [.int .u64 0,.int .u64 n]) σ):zA Tryz.prog 318 [.int .u64 1,.int .u64 n] σ K:=by
 have a1:pbin .and .other (.int .u64 1) (.int .u64 4294967295)=some (.int .u64 1):=rfl;have a0:pbin .and .other (.int .u64 0) (.int .u64 4294967295)=some (.int .u64 0):=rfl;have s1:pbin .shr .other (.int .u64 1) (.int .u64 32)=some (.int .u64 0):=rfl;have s0:pbin .shr .other (.int .u64 0) (.int .u64 32)=some (.int .u64 0):=rfl;have w0:IntKind.u64.wrap 0=0:=rfl;refine zD mix Tryz.func318 ?_
 conv=>arg 2;cbv
 refine zF rfl ?_;simp only[Z3,seval,-ae,a1,a0,s1,s0,u64_and hn,zPO hn,zHS hn,w0,Int.one_mul,Int.zero_mul,Int.mul_zero,Int.add_zero];exact hk
theorem zRE(hn:n<=6)(hk:K (.tup [.int .u64 0,.int .u64 n]) σ):zA Tryz.prog 278 [.int .u64 1,.int .u64 n] σ K:=by
 refine zD mix Tryz.func278 ?_
 conv=>arg 2;cbv
 refine zF rfl ?_;simp only[Z3,seval,-ae];refine zPG hn ?_;simp only[Z3,seval,-ae];exact hk
def fillR(p:Int)(n d:Nat):V1:=List.replicate d p++List.replicate (n-d) 0
theorem zDL{d:Nat}(hd:d<=n):(fillR p n d).length=n:=by simp[fillR];omega
theorem zHt{h:PHeap}{o d m len:Nat}{c1:Cap}{x:PV}{cs:List PV}(hx:plen x=some m)(hm:min m len≠0)(hf:Zu 1 h x (min m len)=some cs){h':PHeap}(hw:h.wr o d cs=some h'):pcopy 1 h (.sl o d len c1) x=some (.int .i64 (min m len:Nat),h'):=by
 unfold pcopy;rw[show plen (.sl o d len c1)=some len from rfl,hx];simp only[Option.bind_some];rw[if_neg hm];simp only[hf,Option.bind_some,hw,Option.map_some]
theorem zNW{d m:Nat}(hd:d+m<=n)(hm:m<=d):(pis (fillR p n d)).take d++(pis (fillR p n d)).take m++(pis (fillR p n d)).drop (d+m)=pis (fillR p n (d+m)):=by
 unfold fillR pis;simp only[<-List.map_take,<-List.map_drop,<-List.map_append];congr 1;refine List.ext_getElem (by simp;omega) λi h1 h2=>?_;simp only[List.getElem_append,List.getElem_take,List.getElem_drop,List.getElem_replicate,List.length_append,List.length_take,List.length_replicate]
 repeat' split
 all_goals first|rfl|(exfalso;simp at *;omega)|omega
theorem zNs{w:Bool}{a:AV}{l:Nat}(hl:l=1)(hn:n<=6)(hk:∀v,FI v (List.replicate n p)->K v σ):zA Tryz.prog 190 [.fz w a l (pis [p]),.int .i64 n] σ K:=by
 subst hl;have c1:IntKind.u64.wrap ((1:Nat):Int)=1:=rfl;have cY:¬(n:Int)<0:=by omega
 have CU:¬(n:Int) > 9223372036854775807:=by omega
 refine zA.gh ?_;refine zD mix Tryz.func190 ?_
 conv=>arg 2;cbv
 refine zF rfl ?_;simp only[Z3,seval,-ae,cY,c1,zHS hn];refine zRE hn ?_;have Gq:IntKind.i64.wrap (n:Int)=n:=wrap64 (by omega) (by omega);simp only[Z3,seval,-ae,CU,Gq,mk8 (n:=n) (by omega),mkL (n:=n) (by omega)];have fin:∀{h:PHeap},h=σ.new (pis (List.replicate n p))->Gh σ K (.sl σ.next 0 n (.known n)) h:=λ{h} e=>by
  subst e;exact Gh.finF (cs:=pis (List.replicate n p)) (zC σ _) (by simp only[Z3,seval,-ae]) (vM _) (zL _ _) (by simp[capOK]) λo=>hk _ ⟨true,.sl o 0 n (.known n),by simp⟩
 rcases Nat.eq_zero_or_pos n with rfl|aF
 .have hc:pcopy 1 (σ.new []) (PV.sl σ.next 0 0 (Cap.known 0)) (PV.fz w a 1 (pis [p]))=some (.int .i64 0,σ.new []):=rfl;simp only[Z3,seval,-ae,hc];refine zG (λm us h'=>m=0/\us=[.sl σ.next 0 0 (.known 0),.int .i64 0]/\h'=σ.new []) 0 ⟨rfl,rfl,rfl⟩ ?_
  rintro m us h' ⟨rfl,rfl,rfl⟩
  simp only[Z3,seval,-ae];exact fin rfl
 have hc:pcopy 1 (σ.new (List.replicate n (PV.int IntKind.i64 0))) (PV.sl σ.next 0 n (Cap.known n)) (PV.fz w a 1 (pis [p]))=some (.int .i64 1,σ.new (pis (fillR p n 1))):=by
  refine(zHt (m:=1) (len:=n) rfl (by rw[Nat.min_eq_left aF];decide) (cs:=pis [p]) (by rw[Nat.min_eq_left aF];rfl) (h':=σ.new (pis (fillR p n 1))) ?_).trans (by rw[Nat.min_eq_left aF];rfl);have ho:(σ.new (List.replicate n (PV.int IntKind.i64 0))).obj σ.next=some (List.replicate n (PV.int IntKind.i64 0)):=by simp only[Z3,seval,-ae]
  rw[qC ho,if_pos ⟨by rw[List.length_replicate];show 0+1<=n;omega,rfl⟩];congr 1;simp only[PHeap.set,PHeap.new,PHeap.mk.injEq,true_and];funext t;split
  .simp[fillR,pis,aF]
  .rfl
 simp only[Z3,seval,-ae,hc];refine zG (λm us h'=>∃d:Nat,m=n-d/\us=[.sl σ.next 0 n (.known n),.int .i64 d]/\1<=d/\d<=n/\h'=σ.new (pis (fillR p n d))) (n-1) ⟨1,rfl,rfl,by omega,aF,rfl⟩ ?_
 rintro m us h' ⟨d,rfl,rfl,CM,dY,rfl⟩
 simp only[Z3,seval,-ae];refine iteI (λah=>?_) λaG=>?_;rotate_left
 .refine fin ?_;rw[show d=n by omega];simp[fillR]
 have aE:d<n:=by omega
 have LV:Zd 1 (.sl σ.next 0 n (.known n)) (some (.int .i64 d)) none none=some (.sl σ.next d (n-d) (.known (n-d))):=by
  have h1:(0:Int)<=(d:Int)/\(d:Int)<=(n:Int):=by omega
  have h2:¬n=d:=by omega
  have h3:d<=n:=by omega
  simp[Zd,zg,Ze,h1,h2,h3]
 have D3:Zd 1 (.sl σ.next 0 n (.known n)) none (some (.int .i64 d)) none=some (.sl σ.next 0 d (.known n)):=by
  have h1:(0:Int)<=(d:Int)/\(d:Int)<=(n:Int):=by omega
  have h2:d<=n:=by omega
  have h3:¬n=0:=by omega
  simp[Zd,zg,Ze,h1,h2,h3]
 have ho:(σ.new (pis (fillR p n d))).obj σ.next=some (pis (fillR p n d)):=by simp only[Z3,seval,-ae]
 have jv:pcopy 1 (σ.new (pis (fillR p n d))) (.sl σ.next d (n-d) (.known (n-d))) (.sl σ.next 0 d (.known n))=some (.int .i64 (min d (n-d):Nat),σ.new (pis (fillR p n (d+min d (n-d))))):=by
  refine zHt (m:=d) (len:=n-d) rfl (by rw[Nat.min_def];split<;>omega) (cs:=(pis (fillR p n d)).take (min d (n-d))) ?_ ?_
  .rw[Qv,if_neg (by omega),if_pos (by omega),ze ho,if_pos (by rw[zJ,zDL (by omega)];omega)];simp
  .rw[qC ho,if_pos ⟨by rw[List.length_take,zJ,zDL (by omega)];omega,by simp[List.all_eq_true,pis];intro x hx;obtain⟨y,_,rfl⟩:=List.mem_map.1 (List.mem_of_mem_take hx);rfl⟩];congr 1;have e:=zNW (p:=p) (n:=n) (d:=d) (m:=min d (n-d)) (by omega) (by omega);have hl:((pis (fillR p n d)).take (min d (n-d))).length=min d (n-d):=by rw[List.length_take,zJ,zDL (by omega)];omega
   rw[hl,e];simp only[PHeap.set,PHeap.new,PHeap.mk.injEq,true_and];funext t;split<;>rfl
 have ew:IntKind.i64.wrap ((d:Int)+((min d (n-d):Nat):Int))=((d+min d (n-d):Nat):Int):=by rw[wrap64 (by omega) (by omega)];omega
 have vT:d<=n:=by omega
 have jU:¬n=d:=by omega
 have oh:¬n=0:=by omega
 simp only[Z3,seval,-ae,vT,jU,oh,jv,ew,Nat.sub_zero,Option.isNone_none,Option.isSome_none,Option.isNone_some,Option.isSome_some,Bool.false_eq_true,and_false,false_and,if_false];have u6:1<=min d (n-d)/\min d (n-d)<=n-d:=by rw[Nat.min_def];split<;>omega
 exact⟨_,by omega,d+min d (n-d),rfl,rfl,by omega,by omega,rfl⟩
end Go.Proofs
namespace Go.Proofs
open Go.Ab Go.Lie
variable{σ:PHeap}{K:PV->PHeap->Prop}
structure LS where
 s:Nat
 cap:Cap
 cs:List PV
def LS.pv(q:LS):PV:=.sl q.s 0 q.cs.length q.cap
def LS.ok(h:PHeap)(b:Nat)(q:LS):Prop:=full 1 q.cap q.cs.length/\h.obj q.s=some q.cs/\b<=q.s/\q.s<h.next
def LS.pvo:Option LS->PV
 |none=>.fz true .nils 0 []
 |some q=>q.pv
def LS.slots:List (Option LS)->List Nat
 |[]=>[]
 |none::ls=>LS.slots ls
 |some q::ls=>q.s::LS.slots ls
theorem LS.slots_app:∀(a b:List (Option LS)),LS.slots (a++b)=LS.slots a++LS.slots b
 |[],b=>rfl
 |none::a,b=>by simp only[List.cons_append,LS.slots,LS.slots_app a b]
 |some q::a,b=>by simp only[List.cons_append,LS.slots,LS.slots_app a b]
theorem LS.mem_slots{s:Nat}:∀{ls:List (Option LS)},s∈LS.slots ls↔∃q,some q∈ls/\q.s=s
 |[]=>by simp[LS.slots]
 |none::ls=>by simp[LS.slots,LS.mem_slots (ls:=ls)]
 |some q::ls=>by
  simp only[LS.slots,List.mem_cons,LS.mem_slots (ls:=ls)];constructor
  .rintro(rfl|⟨q',h1,h2⟩)
   .exact⟨q,.inl rfl,rfl⟩
   .exact⟨q',.inr h1,h2⟩
  .rintro⟨q',h1|h1,h2⟩
   .cases h1;exact .inl h2.symm
   .exact .inr ⟨q',h1,h2⟩
theorem LS.ok.move{h h2:PHeap}{b:Nat}{q:LS}(a:q.ok h b)(ho:h2.obj q.s=h.obj q.s)(hn:h.next<=h2.next):q.ok h2 b:=⟨a.1,by rw[ho];exact a.2.1,a.2.2.1,Nat.lt_of_lt_of_le a.2.2.2 hn⟩
theorem zBf{b e m:Nat}{h h2:PHeap}{v:PV}{cs:List PV}(a:PAcc b e h v m cs)(ho:∀s off l c,v=.sl s off l c->h2.obj s=h.obj s)(hn:h.next<=h2.next):PAcc b e h2 v m cs:=by
 rcases a with a|⟨s,cap,rfl,h1,lM,h3,h4,h5⟩
 .exact .inl a
 .exact .inr ⟨s,cap,rfl,h1,by rw[ho s 0 _ cap rfl];exact lM,h3,h4,Nat.lt_of_lt_of_le h5 hn⟩
theorem zAU{b e m:Nat}{h:PHeap}{v:PV}{cs:List PV}(a:PAcc b e h v m cs){s off l:Nat}{c:Cap}(hv:v=.sl s off l c):s<h.next:=by
 rcases a with ⟨rfl,_⟩|⟨s',cap,rfl,h1,lM,h3,h4,h5⟩
 .cases hv
 .cases hv;exact h5
structure TI(σ h:PHeap)(p0 sO:Nat)(vO vP vC:PV)(cO pc:List PV)(ls:List (Option LS)):Prop where
 keep:Keep σ h
 obj:h.obj p0=some [vO,vP,vC]
 p0b:σ.next<=p0/\p0<h.next
 oO:h.obj sO=some cO
 sOb:σ.next<=sO/\sO<h.next
 pO:p0≠sO
 accP:PAcc σ.next 1 h vP pc.length pc
 accC:PAcc σ.next 1 h vC ls.length (ls.map LS.pvo)
 ok:∀q,some q∈ls->q.ok h σ.next
 nd:(LS.slots ls).Nodup
 neP:∀s,s∈LS.slots ls\/s=p0\/s=sO->∀off l c,vP≠.sl s off l c
 neC:∀s,s∈LS.slots ls\/s=p0\/s=sO->∀off l c,vC≠.sl s off l c
 neL:p0∉LS.slots ls/\sO∉LS.slots ls
 nePC:∀s off l c,vP=.sl s off l c->∀off l c,vC≠.sl s off l c
variable{h:PHeap}{p0 sO:Nat}{vO vP vC:PV}{cO pc:List PV}{ls:List (Option LS)}
theorem TI.lt(a:TI σ h p0 sO vO vP vC cO pc ls){s:Nat}(hs:s∈LS.slots ls):σ.next<=s/\s<h.next:=by
 obtain⟨q,hq,rfl⟩:=LS.mem_slots.1 hs
 have:=a.ok q hq
 exact⟨this.2.2.1,this.2.2.2⟩
theorem TI.keepI{h2:PHeap}(a:TI σ h p0 sO vO vP vC cO pc ls)(k:Keep h h2):TI σ h2 p0 sO vO vP vC cO pc ls:=
  ⟨a.keep.trans k,by rw[k.obj _ a.p0b.2];exact a.obj,⟨a.p0b.1,Nat.lt_of_lt_of_le a.p0b.2 k.next⟩,by rw[k.obj _ a.sOb.2];exact a.oO,⟨a.sOb.1,Nat.lt_of_lt_of_le a.sOb.2 k.next⟩,a.pO,a.accP.keep k,a.accC.keep k,
   λq hq=>(a.ok q hq).move (k.obj _ (a.ok q hq).2.2.2) k.next,a.nd,a.neP,a.neC,a.neL,a.nePC⟩
theorem TI.pushP{K:PV×PHeap->Prop}{row:PV}(a:TI σ h p0 sO vO vP vC cO pc ls)(aV:vO.one=true/\vC.one=true)(hb:pc.length<=1000)
  (k:∀v' h2,v'.one=true->v'.cells=[v']->h2.wr p0 1 [v']=some (h2.set p0 [vO,v',vC])->TI σ (h2.set p0 [vO,v',vC]) p0 sO vO v' vC cO (pc++[row]) ls->h.next<h2.next->K (v',h2)):
  optK (qU 1 24 (h.new [row]) vP (.sl h.next 0 1 (.known 1))) K:=by
 refine PAcc.pushS (σb:=σ) (bytes:=24) a.keep a.accP rfl (by omega) (by omega) λv' h2 k2 a2 o2 n2 l2=>?_;have hp:=a.p0b;have hs:=a.sOb;have eT:h2.obj p0=some [vO,vP,vC]:=by rw[o2 _ hp.2 (a.neP _ (.inr (.inl rfl)))];exact a.obj
 refine k v' h2 a2.one a2.cells (by rw[qC eT,if_pos ⟨by simp,by simp[a2.one]⟩];rfl) ⟨k2.set hp.1 _,by rw[zH,if_pos rfl],⟨hp.1,by show p0<h2.next;omega⟩,?_,⟨hs.1,by show sO<h2.next;omega⟩,a.pO,?_,?_,λq hq=>?_,a.nd,λs hs=>?_,a.neC,a.neL,λs off l c e=>?_⟩ l2
 .rw[zH,if_neg (Ne.symm a.pO),o2 _ hs.2 (a.neP _ (.inr (.inr rfl)))];exact a.oO
 .have a3:PAcc σ.next 1 (h2.set p0 [vO,v',vC]) v' (pc.length+1) (pc++[row]):=zBf a2.acc (λs off l c e=>by rw[zH,if_neg λe2=>n2 p0 hp.2 off l c (by rw[e,e2])]) (vM _);simpa using a3
 .refine zBf a.accC (λs off l c e=>?_) (Nat.le_of_lt l2);have mU:s≠p0:=λe2=>a.neC p0 (.inr (.inl rfl)) off l c (by rw[e,e2]);rw[zH,if_neg mU,o2 s (zAU a.accC e) λde l' c' e'=>a.nePC s de l' c' e' off l c e]
 .have bm:=a.ok q hq;have hm:q.s∈LS.slots ls:=LS.mem_slots.2 ⟨q,hq,rfl⟩;refine bm.move ?_ (Nat.le_of_lt l2);rw[zH,if_neg λe=>a.neL.1 (by rw[<-e];exact hm),o2 _ bm.2.2.2 (a.neP _ (.inl hm))]
 .have:s<h.next:=by
   rcases hs with hs|rfl|rfl
   .exact(a.lt hs).2
   .exact hp.2
   .omega
  exact n2 s this
 .intro de l' c' e';exact n2 s (zAU a.accC e') off l c e
theorem TI.pushC{K:PV×PHeap->Prop}{o:Option LS}(a:TI σ h p0 sO vO vP vC cO pc ls)(aV:vO.one=true/\vP.one=true)(hb:ls.length<=1000)
  (ho:∀q,o=some q->q.ok h σ.next/\q.s∉LS.slots ls/\q.s≠p0/\q.s≠sO/\(∀off l c,vP≠.sl q.s off l c)/\∀off l c,vC≠.sl q.s off l c)
  (k:∀v' h2,v'.one=true->v'.cells=[v']->h2.wr p0 2 [v']=some (h2.set p0 [vO,vP,v'])->TI σ (h2.set p0 [vO,vP,v']) p0 sO vO vP v' cO pc (ls++[o])->h.next<h2.next->K (v',h2)):
  optK (qU 1 24 (h.new [LS.pvo o]) vC (.sl h.next 0 1 (.known 1))) K:=by
 refine PAcc.pushS (σb:=σ) (bytes:=24) a.keep a.accC rfl (by omega) (by omega) λv' h2 k2 a2 o2 n2 l2=>?_;have hp:=a.p0b;have hs:=a.sOb;have eT:h2.obj p0=some [vO,vP,vC]:=by rw[o2 _ hp.2 (a.neC _ (.inr (.inl rfl)))];exact a.obj
 have mo:∀s,s∈LS.slots (ls++[o])->s∈LS.slots ls\/∃q,o=some q/\q.s=s:=λs hs=>by
  rw[LS.slots_app,List.mem_append]at hs;refine hs.imp id λhs=>?_;obtain⟨q,hq,e⟩:=LS.mem_slots.1 hs;exact⟨q,(List.mem_singleton.1 hq).symm,e⟩
 refine k v' h2 a2.one a2.cells (by rw[qC eT,if_pos ⟨by simp,by simp[a2.one]⟩];rfl) ⟨k2.set hp.1 _,by rw[zH,if_pos rfl],⟨hp.1,by show p0<h2.next;omega⟩,?_,⟨hs.1,by show sO<h2.next;omega⟩,a.pO,?_,?_,λq hq=>?_,?_,λs hs=>?_,λs hs=>?_,⟨λhm=>?_,λhm=>?_⟩,λs off l c e=>?_⟩ l2
 .rw[zH,if_neg (Ne.symm a.pO),o2 _ hs.2 (a.neC _ (.inr (.inr rfl)))];exact a.oO
 .refine zBf a.accP (λs off l c e=>?_) (Nat.le_of_lt l2);have mU:s≠p0:=λe2=>a.neP p0 (.inr (.inl rfl)) off l c (by rw[e,e2]);rw[zH,if_neg mU,o2 s (zAU a.accP e) (a.nePC s off l c e)]
 .have a3:PAcc σ.next 1 (h2.set p0 [vO,vP,v']) v' (ls.length+1) (ls.map LS.pvo++[LS.pvo o]):=zBf a2.acc (λs off l c e=>by rw[zH,if_neg λe2=>n2 p0 hp.2 off l c (by rw[e,e2])]) (vM _);simpa using a3
 .rcases List.mem_append.1 hq with hq|hq
  .have bm:=a.ok q hq;have hm:q.s∈LS.slots ls:=LS.mem_slots.2 ⟨q,hq,rfl⟩;refine bm.move ?_ (Nat.le_of_lt l2);rw[zH,if_neg λe=>a.neL.1 (by rw[<-e];exact hm),o2 _ bm.2.2.2 (a.neC _ (.inl hm))]
  .obtain⟨h1,h3,h4,h5,h6,h7⟩:=ho q (List.mem_singleton.1 hq).symm;refine h1.move ?_ (Nat.le_of_lt l2);rw[zH,if_neg h4,o2 _ h1.2.2.2 h7]
 .rw[LS.slots_app,List.nodup_append];refine⟨a.nd,?_,λx hx y hy e=>?_⟩
  .cases o<;>simp[LS.slots]
  .cases o with
   |none=>cases hy
   |some q=>
    simp only[LS.slots,List.mem_singleton]at hy;exact(ho q rfl).2.1 (by rw[<-hy,<-e];exact hx)
 .rcases hs with hs|hs
  .rcases mo s hs with hs|⟨q,e,rfl⟩
   .exact a.neP s (.inl hs)
   .exact(ho q e).2.2.2.2.1
  .exact a.neP s (.inr hs)
 .have:s<h.next:=by
   rcases hs with hs|rfl|rfl
   .rcases mo s hs with hs|⟨q,e,rfl⟩
    .exact(a.lt hs).2
    .exact(ho q e).1.2.2.2
   .exact hp.2
   .omega
  exact n2 s this
 .rcases mo _ hm with hm|⟨q,e,e2⟩
  .exact a.neL.1 hm
  .exact(ho q e).2.2.1 e2
 .rcases mo _ hm with hm|⟨q,e,e2⟩
  .exact a.neL.2 hm
  .exact(ho q e).2.2.2.1 e2
 .exact n2 s (zAU a.accP e)
end Go.Proofs
namespace Go.Proofs
open Go.Ab Go.Lie
variable{σ h:PHeap}{K:PV->PHeap->Prop}{n:Nat}{p0 sO:Nat}{vO vP vC:PV}{cO pc:List PV}{ls:List (Option LS)}{O:V1}
theorem TI.res{X Y:List PV}(a:TI (σ.new X) h p0 sO vO vP vC cO pc ls):TI σ (h.set σ.next Y) p0 sO vO vP vC cO pc ls:=by
 have hn:(σ.new X).next=σ.next+1:=rfl;have hp:=a.p0b;have hs:=a.sOb;refine⟨((zC σ X).trans a.keep).set (vM _) _,by rw[zH,if_neg (by omega)];exact a.obj,⟨by omega,hp.2⟩,by rw[zH,if_neg (by omega)];exact a.oO,⟨by omega,hs.2⟩,a.pO,?_,?_,λq hq=>?_,a.nd,a.neP,a.neC,a.neL,a.nePC⟩
 .rcases a.accP with g|⟨s,cap,e,h1,h2,h3,h4,h5⟩
  .exact .inl g
  .exact .inr ⟨s,cap,e,h1,by rw[zH,if_neg (by omega)];exact h2,h3,by omega,h5⟩
 .rcases a.accC with g|⟨s,cap,e,h1,h2,h3,h4,h5⟩
  .exact .inl g
  .exact .inr ⟨s,cap,e,h1,by rw[zH,if_neg (by omega)];exact h2,h3,by omega,h5⟩
 .obtain⟨h1,h2,h3,h4⟩:=a.ok q hq;exact⟨h1,by rw[zH,if_neg (by omega)];exact h2,by omega,h4⟩
def zDc(n:Nat)(ls:List (Option LS)):Prop:=∀j (h:j<ls.length),(j+1=n->ls[j]=none)/\(j+1<n->∃q,ls[j]=some q/\q.cs.length=n-1-j)
theorem zDc.snoc{o:Option LS}(h:zDc n ls)(h1:ls.length+1=n->o=none)(h2:ls.length+1<n->∃q,o=some q/\q.cs.length=n-1-ls.length):zDc n (ls++[o]):=by
 intro j hj;rw[List.length_append,List.length_singleton]at hj;rcases Nat.lt_or_ge j ls.length with x|x
 .rw[List.getElem_append_left x];exact h j x
 .have e:j=ls.length:=by omega
  subst e;rw[List.getElem_append_right (vM _)];simp only[Nat.sub_self,List.getElem_cons_zero];exact⟨h1,h2⟩
theorem zC3(hv:FI vO [])(hk:∀h,Keep σ h->K (.agg [.fz true .nils 0 [],.fz true .nils 0 [],.fz true .nils 0 []]) h)
  (bV:∀h cap,full 1 cap 0->Keep σ h->h.obj (σ.next+1)=some []->σ.next+1<h.next->K (.agg [.sl (σ.next+1) 0 0 cap,.fz true .nils 0 [],.fz true .nils 0 []]) h):zA Tryz.prog 189 [vO] σ K:=by
 obtain⟨w,a,rfl⟩:=hv;refine zD mix Tryz.func189 ?_
 conv=>arg 2;cbv
 refine zF rfl ?_;simp only[Z3,seval,-ae];refine Zh rfl (by simp) ⟨λh0=>?_,λcap hc=>?_⟩
 .simp only[Z3,seval,-ae];refine zG (λm us h'=>m=0/\us=[.ptr σ.next 0,.int .i64 (0:Nat),.ptr (σ.next+1) 0,.int .i64 (0:Nat),.int .i64 (0:Nat)]/\h'=(σ.new [.fz true .nils 0 [],.fz true .nils 0 [],.fz true .nils 0 []]).new [.fz true .nils 0 [],.fz true .nils 0 [],.fz true .nils 0 []]) 0 ⟨rfl,rfl,rfl⟩ ?_
  rintro m us h' ⟨rfl,rfl,rfl⟩
  simp only[Z3,seval,-ae];exact hk _ ((zC σ _).new _)
 .simp only[Z3,seval,-ae];refine zG (λm us h'=>m=0/\us=[.ptr σ.next 0,.int .i64 (0:Nat),.ptr (σ.next+2) 0,.int .i64 (0:Nat),.int .i64 (0:Nat)]/\h'=((σ.new [.fz true .nils 0 [],.fz true .nils 0 [],.fz true .nils 0 []]).new []).new [.sl (σ.next+1) 0 0 cap,.fz true .nils 0 [],.fz true .nils 0 []]) 0 ⟨rfl,rfl,rfl⟩ ?_
  rintro m us h' ⟨rfl,rfl,rfl⟩
  simp only[Z3,seval,-ae];refine bV _ cap hc (((zC σ _).new _).new _) ?_ ?_
  .simp only[Z3,seval,-ae]
  .simp only[Z3,seval,-ae];omega
theorem zCy(hv:FI vO O)(hn:O.length=n)(dX:1<=n)(aN:n<=6)
  (hk:∀cap vP vC pc ls h,full 1 cap n->TI σ h (σ.next+2) (σ.next+1) (.sl (σ.next+1) 0 n cap) vP vC (pis O) pc ls->pc.length=n->ls.length=n->zDc n ls->K (.agg [.sl (σ.next+1) 0 n cap,vP,vC]) h):
  zA Tryz.prog 189 [vO] σ K:=by
 obtain⟨w,a,rfl⟩:=hv;subst hn;refine zD mix Tryz.func189 ?_
 conv=>arg 2;cbv
 refine zF rfl ?_;simp only[Z3,seval,-ae];refine Zh rfl (by omega) ⟨λh0=>by rw[h0]at dX;simp at dX,λcap hc=>?_⟩;generalize hS:σ.new [.fz true .nils 0 [],.fz true .nils 0 [],.fz true .nils 0 []]=S;have C6:S.next=σ.next+1:=by rw[<-hS];rfl
 simp only[Z3,seval,-ae];refine zG (λm us h'=>∃(i:Nat) (vP vC:PV) (pc:List PV) (ls:List (Option LS)),i<=O.length/\m=O.length-i/\us=[.ptr σ.next 0,.int .i64 O.length,.ptr (S.next+1) 0,.int .i64 O.length,.int .i64 i]/\TI S h' (S.next+1) S.next (.sl S.next 0 O.length cap) vP vC (pis O) pc ls/\pc.length=i/\ls.length=i/\zDc O.length ls) O.length ?_ ?_
 .exact⟨0,_,_,[],[],by omega,by omega,rfl,⟨(zC S _).new _,by simp only[Z3,seval,-ae],⟨by omega,by simp only[Z3,seval,-ae]⟩,by simp only[Z3,seval,-ae],⟨vM _,by simp only[Z3,seval,-ae];omega⟩,by omega,PAcc.nil _ _ _,PAcc.nil _ _ _,λq hq=>(by cases hq),List.nodup_nil,λs hs off l c e=>(by cases e),λs hs off l c e=>(by cases e),⟨λh=>(by cases h),λh=>(by cases h)⟩,λs off l c e=>(by cases e)⟩,rfl,rfl,λj hj=>absurd hj (by simp)⟩
 as_aux_lemma=>
 rintro m us h' ⟨i,vP,vC,pc,ls,hi,rfl,rfl,a,mA,kL,eH⟩
 have aV:vP.one=true/\vC.one=true:=⟨a.accP.one,a.accC.one⟩;have q0:h'.rd1 (S.next+1) 1=some vP:=by rw[zI a.obj];rfl
 have q3:h'.rd (S.next+1) 0 3=some [.sl S.next 0 O.length cap,vP,vC]:=by rw[ze a.obj];rfl
 simp only[Z3,seval,-ae];refine iteI (λah=>?_) λaG=>?_;rotate_left
 .have aK:i=O.length:=by omega
  have aI:h'.obj σ.next=some [.fz true .nils 0 [],.fz true .nils 0 [],.fz true .nils 0 []]:=by rw[a.keep.obj _ (by omega),<-hS];simp only[Z3,seval,-ae]
  have jc:h'.wr σ.next 0 [.sl S.next 0 O.length cap,vP,vC]=some (h'.set σ.next [.sl S.next 0 O.length cap,vP,vC]):=by
   rw[qC aI,if_pos ⟨by simp,by simp only[List.all_cons,List.all_nil,aV.1,aV.2];rfl⟩];rfl
  have bM:(h'.set σ.next [.sl S.next 0 O.length cap,vP,vC]).rd σ.next 0 3=some [.sl S.next 0 O.length cap,vP,vC]:=by rw[qh,if_pos rfl];rfl
  rw[<-hS]at a;have a2:=a.res (Y:=[.sl S.next 0 O.length cap,vP,vC]);rw[hS]at a2;rw[C6]at a2
  have:=hk cap vP vC pc ls _ hc a2 (by omega) (by omega) eH
  simp only[Z3,seval,-ae,q3,jc,bM];rw[C6];exact this
 have aE:i<O.length:=by omega
 have mk:=mk8 (n:=O.length) (by omega);have ni:¬S.next+1=h'.next:=by have:=a.p0b.2;omega
 have jE:¬S.next=h'.next:=by have:=a.sOb.2;omega
 simp only[Z3,seval,-ae,q0,mk,mkL (n:=O.length) (by omega),List.length_replicate,ni,jE];refine TI.pushP (a.keepI (zC h' _)) ⟨rfl,aV.2⟩ (by omega) λv2 h2 u1 u2 u3 a2 l2=>?_;simp only[Z3,seval,-ae,u1,u2,u3];clear u1 u2 u3 q0 q3 ni jE;generalize h2.set (S.next+1) [.sl S.next 0 O.length cap,v2,vC]=hb at *
 have bB:IntKind.i64.wrap ((i:Int)+1)=((i+1:Nat):Int):=wrapS aE (by omega);simp only[Z3,seval,-ae,bB];refine zG (λm us h3=>∃(q:Nat) (vL:PV) (cells:List PV),i+(1+q)<=O.length/\m=O.length-(i+(1+q))/\us=[.ptr σ.next 0,.int .i64 O.length,.ptr (S.next+1) 0,vL,.int .i64 ((i+(1+q):Nat):Int),.int .i64 O.length,.int .i64 i]/\Keep hb h3/\PAcc hb.next 1 h3 vL q cells/\(q=0->vL=.fz true .nils 0 [])) (O.length-(i+1)) ⟨0,_,[],by omega,rfl,rfl,Keep.refl _,PAcc.nil _ _ _,λ_=>rfl⟩ ?_
 rintro m us h3 ⟨q,vL,cells,hq,rfl,rfl,k3,p3,iI⟩
 have b:=a2.keepI k3;have q2:h3.rd1 (S.next+1) 2=some vC:=by rw[zI b.obj];rfl
 simp only[Z3,seval,-ae];refine iteI (λjF=>?_) λrn=>?_
 .have bm:i+(1+q)<O.length:=by omega
  have e5:IntKind.i64.wrap (((i+(1+q):Nat):Int)+1)=((i+(1+(q+1)):Nat):Int):=by rw[wrap64 (by omega) (by omega)];omega
  simp only[Z3,seval,-ae];refine qB (by omega) bm λav=>?_;simp only[Z3,seval,-ae];refine PAcc.push (bytes:=24) (σb:=hb) k3 p3 (by omega) (by omega) λv' h4 k4 p4=>?_;simp only[Z3,seval,-ae,e5];exact⟨_,by omega,q+1,v',_,by omega,rfl,rfl,k4,p4.acc,λh=>by omega⟩
 have gR:q=O.length-1-i:=by omega
 have ar:¬S.next+1=h3.next:=by have:=b.p0b.2;omega
 have Kg:=p3.one;have Kf:=p3.cells;have yD:hb.next<=h3.next:=k3.next;obtain⟨o,ho,B5⟩:∃o:Option LS,LS.pvo o=vL/\((o=none/\q=0)\/∃s c,o=some ⟨s,c,cells⟩/\cells.length=q/\0<q/\full 1 c q/\h3.obj s=some cells/\hb.next<=s/\s<h3.next):=by
  rcases Nat.eq_zero_or_pos q with e|e
  .exact⟨none,(iI e).symm,.inl ⟨rfl,e⟩⟩
  .obtain⟨s,c,rfl,z1,z2,z3,z4,z5⟩:=p3.pos e;exact⟨some ⟨s,c,cells⟩,by simp only[LS.pvo,LS.pv];rw[show cells.length=q by omega],.inr ⟨s,c,rfl,by omega,e,z1,z2,z4,z5⟩⟩
 subst ho;simp only[Z3,seval,-ae,q2,Kg,Kf,ar];refine TI.pushC b ⟨rfl,b.accP.one⟩ (by omega) (λq' e=>?_) λv5 h5 u1 u2 u3 a5 l5=>?_
 .rcases B5 with ⟨e1,_⟩|⟨s,c,e1,z0,z1,z2,z3,z4,z5⟩
  .rw[e1]at e;cases e
  .rw[e1]at e;cases e;have oF:=a2.p0b;have eU:=a2.sOb;refine⟨⟨by rw[z0];exact z2,z3,by have:=a2.keep.next;show S.next<=s;omega,z5⟩,λhm=>?_,by show s≠_;omega,by show s≠_;omega,λoff l c' e2=>?_,λoff l c' e2=>?_⟩
   .have:=(a2.lt hm).2
    have:s<hb.next:=this
    omega
   .have:s<hb.next:=zAU a2.accP e2
    omega
   .have:s<hb.next:=zAU a2.accC e2
    omega
 simp only[Z3,seval,-ae,u1,u2,u3,wrapS aE (by omega:O.length<=4611686018427387904)];refine⟨_,by omega,i+1,v2,v5,_,ls++[o],by omega,rfl,rfl,a5,by rw[List.length_append];simp;omega,by rw[List.length_append];simp;omega,eH.snoc (λe=>?_) λe=>?_⟩
 .rcases B5 with ⟨e1,_⟩|⟨s,c,e1,z0,z1,z2,z3,z4,z5⟩
  .exact e1
  .omega
 .rcases B5 with ⟨e1,e2⟩|⟨s,c,e1,z0,z1,z2,z3,z4,z5⟩
  .omega
  .exact⟨_,e1,by rw[kL];show cells.length=_;omega⟩
end Go.Proofs
namespace Go.Proofs
open Go.Ab Go.Lie
variable{σ H h:PHeap}{n:Nat}{tp sO sP sC:Nat}{vO:PV}{pc cO:List PV}{ls:List (Option LS)}{x:V1}{capP capC cap:Cap}{rows cur:List SR}{Rs:List (List SR)}
structure BF(σ H:PHeap)(tp sO sP sC:Nat)(ls:List (Option LS)):Prop where
 b:∀s,s∈[tp,sO,sP,sC]++LS.slots ls->σ.next<=s/\s<H.next
 nd:([tp,sO,sP,sC]++LS.slots ls).Nodup
def cont(Rs:List (List SR))(cur:List SR)(j:Nat)(q:LS):List PV:=
 if j<Rs.length then(Rs.getD j []).map SR.pv else if j=Rs.length then cur.map SR.pv++q.cs.drop cur.length else q.cs
structure LI(σ H h:PHeap)(tp sO sP sC:Nat)(vO:PV)(capP capC:Cap)(n:Nat)(cO:List PV)(pc:List PV)(ls:List (Option LS))(rows:List SR)(Rs:List (List SR))(cur:List SR):Prop where
 keep:Keep σ h
 nx:H.next<=h.next
 tpo:h.obj tp=some [vO,.sl sP 0 n capP,.sl sC 0 n capC]
 oO:h.obj sO=some cO
 oP:h.obj sP=some (rows.map SR.pv++pc.drop rows.length)
 oC:h.obj sC=some (ls.map LS.pvo)
 oL:∀j q,ls[j]? = some (some q)->h.obj q.s=some (cont Rs cur j q)
 ok:∀q,q∈rows\/q∈Rs.flatten\/q∈cur->q.ok h H.next
 nd:(qf (rows++(Rs.flatten++cur))).Nodup
theorem LS.mem_of_get{j:Nat}{q:LS}(h:ls[j]? = some (some q)):q.s∈LS.slots ls:=LS.mem_slots.2 ⟨q,List.mem_of_getElem? h,rfl⟩
theorem LI.keepI{h2:PHeap}(b:BF σ H tp sO sP sC ls)(a:LI σ H h tp sO sP sC vO capP capC n cO pc ls rows Rs cur)(k:Keep h h2):LI σ H h2 tp sO sP sC vO capP capC n cO pc ls rows Rs cur:=by
 have hn:=a.nx;have o:∀s,s∈[tp,sO,sP,sC]++LS.slots ls->h2.obj s=h.obj s:=λs hs=>k.obj s (by have:=(b.b s hs).2;omega);refine⟨a.keep.trans k,Nat.le_trans a.nx k.next,by rw[o tp (by simp)];exact a.tpo,by rw[o sO (by simp)];exact a.oO,by rw[o sP (by simp)];exact a.oP,by rw[o sC (by simp)];exact a.oC,λj q hq=>?_,λq hq=>(a.ok q hq).keep k,a.nd⟩;rw[o q.s (List.mem_append.2 (.inr (LS.mem_of_get hq)))];exact a.oL j q hq
theorem LS.slots_inj:∀{ls:List (Option LS)} {i j:Nat} {q q':LS},(LS.slots ls).Nodup->ls[i]? = some (some q)->ls[j]? = some (some q')->q.s=q'.s->i=j
 |[],i,j,q,q',_,h,_,_=>by simp at h
 |o::ls,0,0,q,q',_,_,_,_=>rfl
 |none::ls,0,j+1,q,q',_,h,_,_=>by simp at h
 |none::ls,i+1,0,q,q',_,_,h,_=>by simp at h
 |some r::ls,0,j+1,q,q',hn,h,g,e=>by
  simp only[List.getElem?_cons_zero,Option.some.injEq,List.getElem?_cons_succ,LS.slots,List.nodup_cons]at h g hn;subst h;exact absurd (LS.mem_of_get g) (by rw[<-e];exact hn.1)
 |some r::ls,i+1,0,q,q',hn,h,g,e=>by
  simp only[List.getElem?_cons_zero,Option.some.injEq,List.getElem?_cons_succ,LS.slots,List.nodup_cons]at h g hn;subst g;exact absurd (LS.mem_of_get h) (by rw[e];exact hn.1)
 |none::ls,i+1,j+1,q,q',hn,h,g,e=>by have:=LS.slots_inj (ls:=ls) hn (by simpa using h) (by simpa using g) e;omega
 |some r::ls,i+1,j+1,q,q',hn,h,g,e=>by
  simp only[LS.slots,List.nodup_cons]at hn
  have:=LS.slots_inj (ls:=ls) hn.2 (by simpa using h) (by simpa using g) e
  omega
theorem zIc{a b:List PV}:(a++b).drop (a.length+1)=b.drop 1:=by
 rw[<-List.drop_drop,List.drop_left'];rfl
theorem zBH{q:SR}{s:Nat}{cs:List PV}(a:q.ok h H.next)(hs:s<H.next):q.ok (h.set s cs) H.next:=⟨a.1,by rw[zH,if_neg (by have:=a.2.2.1;omega)];exact a.2.1,a.2.2.1,a.2.2.2⟩
theorem zOk{q:SR}(hq:q∈rows++(Rs.flatten++cur)):q∈rows\/q∈Rs.flatten\/q∈cur:=by
 simpa only[List.mem_append]using hq
theorem LI.fresh(a:LI σ H h tp sO sP sC vO capP capC n cO pc ls rows Rs cur):h.next∉qf (rows++(Rs.flatten++cur)):=λhm=>by
 obtain⟨q,hq,e⟩:=List.mem_map.1 hm
 have:=(a.ok q (zOk hq)).2.2.2
 omega
theorem LI.putP(b:BF σ H tp sO sP sC ls)(a:LI σ H h tp sO sP sC vO capP capC n cO pc ls rows Rs cur)(hf:full 1 cap x.length)(hl:rows.length<pc.length):
  (h.new (pis x)).wr sP rows.length [.sl h.next 0 x.length cap]=some ((h.new (pis x)).set sP ((rows++[(⟨h.next,cap,x⟩:SR)]).map SR.pv++pc.drop (rows.length+1)))/\
  LI σ H ((h.new (pis x)).set sP ((rows++[(⟨h.next,cap,x⟩:SR)]).map SR.pv++pc.drop (rows.length+1))) tp sO sP sC vO capP capC n cO pc ls (rows++[(⟨h.next,cap,x⟩:SR)]) Rs cur:=by
 have a1:=a.keepI b (zC h (pis x));have dk:=a.nx;have bP:=b.b sP (by simp);have nd:=b.nd;simp only[List.cons_append,List.nil_append,List.nodup_cons,List.mem_cons,not_or]at nd;obtain⟨⟨n1,n2,n3,n4⟩,⟨n5,n6,n7⟩,⟨n8,n9⟩,_⟩:=nd;have ob:=a1.oP;refine⟨?_,a1.keep.set bP.1 _,a1.nx,by rw[zH,if_neg n2];exact a1.tpo,by rw[zH,if_neg n5];exact a1.oO,by rw[zH,if_pos rfl,List.length_append,List.length_singleton],by rw[zH,if_neg (Ne.symm n8)];exact a1.oC,λj q hq=>?_,λq hq=>?_,?_⟩
 .rw[qC ob,if_pos ⟨by simp only[List.length_append,List.length_map,List.length_drop,List.length_singleton];omega,rfl⟩];congr 2;have e1:(rows.map SR.pv++pc.drop rows.length).take rows.length=rows.map SR.pv:=by
   have:(rows.map SR.pv).length=rows.length:=List.length_map _
   rw[<-this,List.take_left'];rfl
  have e2:(rows.map SR.pv++pc.drop rows.length).drop (rows.length+1)=pc.drop (rows.length+1):=by
   have:=zIc (a:=rows.map SR.pv) (b:=pc.drop rows.length)
   rwa[List.length_map,List.drop_drop]at this
  rw[List.length_singleton,e1,e2,List.map_append];rfl
 .have hm:=LS.mem_of_get hq;rw[zH,if_neg λe=>n9 (by rw[<-e];exact hm)];exact a1.oL j q hq
 .have new:SR.ok (h.new (pis x)) H.next (⟨h.next,cap,x⟩:SR):=⟨hf,by rw[zP,if_pos rfl],dk,Nat.lt_succ_self _⟩
  rcases hq with hq|hq
  .rcases List.mem_append.1 hq with hq|hq
   .exact zBH (a1.ok q (.inl hq)) bP.2
   .rw[List.mem_singleton.1 hq];exact zBH new bP.2
  .exact zBH (a1.ok q (.inr hq)) bP.2
 .have hp:(qf ((rows++[(⟨h.next,cap,x⟩:SR)])++(Rs.flatten++cur))).Perm (h.next::qf (rows++(Rs.flatten++cur))):=by
   simp only[qf,List.append_assoc,List.map_append,List.map_cons,List.map_nil,List.cons_append,List.nil_append];exact List.perm_middle
  exact hp.nodup_iff.2 (List.nodup_cons.2 ⟨a.fresh,a.nd⟩)
theorem LI.putC{q0:LS}(b:BF σ H tp sO sP sC ls)(a:LI σ H h tp sO sP sC vO capP capC n cO pc ls rows Rs cur)(hf:full 1 cap x.length)(kG:ls[Rs.length]? = some (some q0))(hl:cur.length<q0.cs.length):
  (h.new (pis x)).wr q0.s cur.length [.sl h.next 0 x.length cap]=some ((h.new (pis x)).set q0.s ((cur++[(⟨h.next,cap,x⟩:SR)]).map SR.pv++q0.cs.drop (cur.length+1)))/\
  LI σ H ((h.new (pis x)).set q0.s ((cur++[(⟨h.next,cap,x⟩:SR)]).map SR.pv++q0.cs.drop (cur.length+1))) tp sO sP sC vO capP capC n cO pc ls rows Rs (cur++[(⟨h.next,cap,x⟩:SR)]):=by
 have a1:=a.keepI b (zC h (pis x));have dk:=a.nx;have qq:=LS.mem_of_get kG;have bP:=b.b q0.s (List.mem_append.2 (.inr qq));have nd:=b.nd;simp only[List.cons_append,List.nil_append,List.nodup_cons,List.mem_cons,not_or]at nd;obtain⟨⟨n1,n2,n3,n4⟩,⟨n5,n6,n7⟩,⟨n8,n9⟩,Hy,Hx⟩:=nd;have ob:=a1.oL _ _ kG;have hc:cont Rs cur Rs.length q0=cur.map SR.pv++q0.cs.drop cur.length:=by unfold cont;rw[if_neg (Nat.lt_irrefl _),if_pos rfl]
 rw[hc]at ob;refine⟨?_,a1.keep.set bP.1 _,a1.nx,by rw[zH,if_neg λe=>n4 (by rw[e];exact qq)];exact a1.tpo,by rw[zH,if_neg λe=>n7 (by rw[e];exact qq)];exact a1.oO,by rw[zH,if_neg λe=>n9 (by rw[e];exact qq)];exact a1.oP,by rw[zH,if_neg λe=>Hy (by rw[e];exact qq)];exact a1.oC,λj q hq=>?_,λq hq=>?_,?_⟩
 .rw[qC ob,if_pos ⟨by simp only[List.length_append,List.length_map,List.length_drop,List.length_singleton];omega,rfl⟩];congr 2;have e1:(cur.map SR.pv++q0.cs.drop cur.length).take cur.length=cur.map SR.pv:=by
   have:(cur.map SR.pv).length=cur.length:=List.length_map _
   rw[<-this,List.take_left'];rfl
  have e2:(cur.map SR.pv++q0.cs.drop cur.length).drop (cur.length+1)=q0.cs.drop (cur.length+1):=by
   have:=zIc (a:=cur.map SR.pv) (b:=q0.cs.drop cur.length)
   rwa[List.length_map,List.drop_drop]at this
  rw[List.length_singleton,e1,e2,List.map_append];rfl
 .by_cases e:j=Rs.length
  .subst e;rw[kG]at hq;cases hq;rw[zH,if_pos rfl];unfold cont;rw[if_neg (Nat.lt_irrefl _),if_pos rfl,List.length_append,List.length_singleton]
  .have ar:q.s≠q0.s:=λes=>by
    exact e (LS.slots_inj Hx hq kG es)
   rw[zH,if_neg ar,a1.oL j q hq];unfold cont;rw[if_neg (show ¬j=Rs.length from e),if_neg (show ¬j=Rs.length from e)]
 .have new:SR.ok (h.new (pis x)) H.next (⟨h.next,cap,x⟩:SR):=⟨hf,by rw[zP,if_pos rfl],dk,Nat.lt_succ_self _⟩
  rcases hq with hq|hq|hq
  .exact zBH (a1.ok q (.inl hq)) bP.2
  .exact zBH (a1.ok q (.inr (.inl hq))) bP.2
  .rcases List.mem_append.1 hq with hq|hq
   .exact zBH (a1.ok q (.inr (.inr hq))) bP.2
   .rw[List.mem_singleton.1 hq];exact zBH new bP.2
 .have hp:(qf (rows++(Rs.flatten++(cur++[(⟨h.next,cap,x⟩:SR)])))).Perm (h.next::qf (rows++(Rs.flatten++cur))):=by
   simp only[qf,List.map_append,List.map_cons,List.map_nil];rw[<-List.append_assoc,<-List.append_assoc,List.append_assoc (List.map SR.s rows)];exact List.perm_append_singleton _ _
  exact hp.nodup_iff.2 (List.nodup_cons.2 ⟨a.fresh,a.nd⟩)
theorem LI.close(a:LI σ H h tp sO sP sC vO capP capC n cO pc ls rows Rs cur)(hl:∀q,ls[Rs.length]? = some (some q)->cur.length=q.cs.length):LI σ H h tp sO sP sC vO capP capC n cO pc ls rows (Rs++[cur]) []:=by
 refine⟨a.keep,a.nx,a.tpo,a.oO,a.oP,a.oC,λj q hq=>?_,λq hq=>a.ok q ?_,?_⟩
 .rw[a.oL j q hq];unfold cont;rw[List.length_append,List.length_singleton];rcases Nat.lt_trichotomy j Rs.length with x|x|x
  .rw[if_pos x,if_pos (by omega)];simp[List.getD_eq_getElem?_getD,List.getElem?_append_left x]
  .subst x;rw[if_neg (Nat.lt_irrefl _),if_pos rfl,if_pos (by omega),List.drop_of_length_le (by rw[hl q hq];exact vM _)];simp[List.getD_eq_getElem?_getD]
  .rw[if_neg (by omega),if_neg (by omega),if_neg (by omega)];split<;>simp
 .rcases hq with hq|hq|hq
  .exact .inl hq
  .simp only[List.flatten_append,List.flatten_cons,List.flatten_nil,List.append_nil,List.mem_append]at hq;exact .inr hq
  .cases hq
 .have:=a.nd
  simpa [List.flatten_append]using this
end Go.Proofs
namespace Go.Proofs
open Go.Ab Go.Lie
variable{H h:PHeap}{K:PV->PHeap->Prop}{n:Nat}{a:Nat->Nat}{b:Nat}{tp sO sP sC:Nat}{vO:PV}{pc:List PV}{ls:List (Option LS)}{O x:V1}{capO capP capC cap:Cap}{rows:List SR}{Rs:List (List SR)}
def lrT:Option LS->List SR->TR
 |none,_=>.nil
 |some q,R=>TR.rows q.s q.cap R
def Fit1:Option LS->List SR->Prop
 |none,R=>R=[]
 |some q,R=>R.length=q.cs.length
def Fits(ls:List (Option LS))(Rs:List (List SR)):Prop:=All2 Fit1 ls Rs
theorem Fits.tl{o:Option LS}{R:List SR}(h:Fits (o::ls) (R::Rs)):Fit1 o R/\Fits ls Rs:=
 ⟨h.2 0 o R rfl rfl,by have:=h.1;simpa using this,λk a b ha hb=>h.2 (k+1) a b (by simpa using ha) (by simpa using hb)⟩
theorem zH3:∀{ls:List (Option LS)} {Rs:List (List SR)},Fits ls Rs->TR.pvs (List.zipWith lrT ls Rs)=ls.map LS.pvo
 |[],[],_=>rfl
 |[],R::Rs,h=>by have:=h.1;simp at this
 |o::ls,[],h=>by have:=h.1;simp at this
 |none::ls,R::Rs,h=>by
  simp only[List.zipWith_cons_cons,TR.pvs,List.map_cons,zH3 h.tl.2];rfl
 |some q::ls,R::Rs,h=>by
  have hl:R.length=q.cs.length:=h.tl.1;simp only[List.zipWith_cons_cons,TR.pvs,List.map_cons,zH3 h.tl.2];simp only[lrT,TR.rows,TR.pv,LS.pvo,LS.pv,List.length_map,hl]
theorem zEc:∀{ls:List (Option LS)} {Rs:List (List SR)},Fits ls Rs->(TR.slotss (List.zipWith lrT ls Rs)).Perm (LS.slots ls++qf Rs.flatten)
 |[],[],_=>List.Perm.refl _
 |[],R::Rs,h=>by have:=h.1;simp at this
 |o::ls,[],h=>by have:=h.1;simp at this
 |none::ls,R::Rs,h=>by
  have hR:R=[]:=h.tl.1;subst hR;simp only[List.zipWith_cons_cons,TR.slotss,lrT,TR.slots,List.nil_append,List.flatten_cons,LS.slots];exact zEc h.tl.2
 |some q::ls,R::Rs,h=>by
  have ih:=zEc h.tl.2;simp only[List.zipWith_cons_cons,TR.slotss,lrT,TR.rows,TR.slots,TR.rows_slots,List.flatten_cons,LS.slots,List.cons_append];refine List.Perm.cons _ ?_;have e:qf (R++Rs.flatten)=qf R++qf Rs.flatten:=by simp[qf]
  rw[e];refine((ih.append_left (qf R)).trans ?_);rw[<-List.append_assoc,<-List.append_assoc];exact List.perm_append_comm.append_right _
theorem zM7:∀{ls:List (Option LS)} {Rs:List (List SR)},(∀(j:Nat) (o:Option LS) (R:List SR),ls[j]? = some o->Rs[j]? = some R->(lrT o R).ok h b)->TR.oks h b (List.zipWith lrT ls Rs)
 |[],_,_=>trivial
 |o::ls,[],_=>trivial
 |o::ls,R::Rs,k=>⟨k 0 o R rfl rfl,zM7 λj o' R' h1 h2=>k (j+1) o' R' (by simpa using h1) (by simpa using h2)⟩
theorem zKT:∀{ls:List (Option LS)} {Rs:List (List SR)},Fits ls Rs->All2 FII (TR.fzs a (List.zipWith lrT ls Rs)) (Rs.map λR=>R.map SR.x)
 |[],[],_=>All2.nil _
 |[],R::Rs,h=>by have:=h.1;simp at this
 |o::ls,[],h=>by have:=h.1;simp at this
 |o::ls,R::Rs,h=>by
  have ih:=zKT h.tl.2;refine⟨by simp only[List.zipWith_cons_cons,TR.fzs,List.map_cons,List.length_cons,ih.1],λk c y hc hy=>?_⟩;cases k with
  |zero=>
   simp only[List.zipWith_cons_cons,TR.fzs,List.map_cons,List.getElem?_cons_zero,Option.some.injEq]at hc hy;rw[<-hc,<-hy];cases o with
   |none=>
    have hR:R=[]:=h.tl.1;subst hR;exact⟨true,.nils,[],rfl,All2.nil _⟩
   |some q=>exact TR.rows_FII
  |succ k=>
   simp only[List.zipWith_cons_cons,TR.fzs,List.map_cons,List.getElem?_cons_succ]at hc hy;exact ih.2 k c y hc hy
theorem LI.fin{σ0 T:PHeap}{Y:List PV}{res:Nat}(hT:Keep σ0 T)(aI:σ0.next<=res/\res<T.next)(Kb:full 1 capO O.length)(Ka:full 1 capP rows.length)(Kq:full 1 capC Rs.length)(Mg:pc.length=rows.length)
  (vF:∀q,some q∈ls->full 1 q.cap q.cs.length) (bf:BF T H tp sO sP sC ls) (l:LI T H h tp sO sP sC vO capP capC n (pis O) pc ls rows Rs []) (hf:Fits ls Rs)
  (hk:∀vO vQ vC t,FI vO O->FII vQ (rows.map SR.x)->FIII vC (Rs.map λR=>R.map SR.x)->Own σ0.top t (.agg [vO,vQ,vC])->σ0.top<=t->K (.agg [vO,vQ,vC]) (σ0.up t)):
  Gh σ0 K (.agg [.sl sO 0 O.length capO,.sl sP 0 rows.length capP,.sl sC 0 Rs.length capC]) (h.set res Y):=by
 have cJ:=hT.next;have bO:=bf.b sO (by simp);have bP:=bf.b sP (by simp);have bC:=bf.b sC (by simp);have gZ:=l.nx;have hlen:ls.length=Rs.length:=hf.1;have dQ:(List.zipWith lrT ls Rs).length=Rs.length:=by rw[List.length_zipWith];omega
 have e:(TR.agg [TR.row sO capO O,TR.rows sP capP rows,.lst sC capC (List.zipWith lrT ls Rs)]).pv=.agg [.sl sO 0 O.length capO,.sl sP 0 rows.length capP,.sl sC 0 Rs.length capC]:=by
  simp only[TR.pv,TR.pvs,TR.row_pv,TR.rows,List.length_map,dQ]
 rw[<-e];have ob:∀s,s≠res->(h.set res Y).obj s=h.obj s:=λs hs=>by rw[zH,if_neg hs]
 have rok:∀q:SR,q.ok h H.next->q.ok (h.set res Y) σ0.next:=λq ⟨g1,g2,g3,g4⟩=>⟨g1,by rw[ob _ (by have:=(bf.b sO (by simp));omega)];exact g2,by have:=(bf.b sO (by simp));omega,g4⟩
 have Hs:∀q∈rows,q.ok (h.set res Y) σ0.next:=λq hq=>rok q (l.ok q (.inl hq));refine Gh.treeO ((hT.trans l.keep).set aI.1 _) ⟨TR.row_ok Kb (by rw[ob _ (by omega)];exact l.oO) (by omega) (by show sO<h.next;omega),TR.rows_ok Ka (by rw[ob _ (by omega),l.oP,List.drop_of_length_le (by omega),List.append_nil]) (by omega) (by show sP<h.next;omega) Hs,⟨⟨by rw[dQ];exact Kq,by rw[ob _ (by omega),l.oC,zH3 hf],by omega,by show sC<h.next;omega⟩,zM7 λj o R ho hR=>?_⟩,trivial⟩ ?_ λa T' g1 g2=>?_
 .cases o with
  |none=>trivial
  |some q=>
   have hm:=LS.mem_of_get ho;have bq:=bf.b q.s (List.mem_append.2 (.inr hm));have oJ:R.length=q.cs.length:=hf.2 j _ _ ho hR;obtain⟨hj,iJ⟩:=List.getElem?_eq_some_iff.1 hR;refine TR.rows_ok (by rw[oJ];exact vF q (List.mem_of_getElem? ho)) ?_ (by omega) (by show q.s<h.next;omega) λq' bm=>rok q' (l.ok q' (.inr (.inl (List.mem_flatten.2 ⟨R,List.mem_of_getElem? hR,bm⟩))));rw[ob _ (by omega),l.oL j q ho];unfold cont;rw[if_pos hj,List.getD_eq_getElem?_getD,hR];rfl
 .have nd:=bf.nd;have nr:=l.nd;rw[List.append_nil]at nr;have hp:((TR.agg [TR.row sO capO O,TR.rows sP capP rows,.lst sC capC (List.zipWith lrT ls Rs)]).slots).Perm (([sO,sP,sC]++LS.slots ls)++qf (rows++Rs.flatten)):=by
   have e2:qf (rows++Rs.flatten)=qf rows++qf Rs.flatten:=by simp[qf]
   simp only[TR.slots,TR.slotss,TR.row_slots,TR.rows,TR.rows_slots,List.append_nil,List.cons_append,List.nil_append,e2];refine List.Perm.cons _ (List.Perm.cons _ ?_);have h3:=(zEc hf).cons sC |>.append_left (qf rows);refine h3.trans ?_;simp only[<-List.cons_append];rw[<-List.append_assoc,<-List.append_assoc];exact List.perm_append_comm.append_right _
  refine hp.nodup_iff.2 (List.nodup_append.2 ⟨?_,nr,λx hx y hy e=>?_⟩)
  .simp only[List.cons_append,List.nil_append,List.nodup_cons]at nd ⊢;exact nd.2
  .have h1:=(bf.b x (by simp only[List.cons_append,List.nil_append,List.mem_cons]at hx ⊢;exact .inr hx)).2;obtain⟨q,hq,e3⟩:=List.mem_map.1 hy;have h2:=(l.ok q (by rcases List.mem_append.1 hq with hq|hq;exact .inl hq;exact .inr (.inl hq))).2.2.1;omega
 .exact hk _ _ _ T' TR.row_FI TR.rows_FII ⟨true,.sl (a sC) 0 Rs.length capC,TR.fzs a (List.zipWith lrT ls Rs),by simp only[TR.fz,dQ,List.length_map],zKT hf⟩ g1 g2
end Go.Proofs
namespace Go.Proofs
open Go.Ab Go.Lie
variable{σ H h:PHeap}{K:PV->PHeap->Prop}{n c:Nat}{p:Int}{W:V2}{B:V3}{vP vB:PV}{s:Nat}
theorem zL4{P:Program}{c:IC}{Q:Exit->PEnv->PHeap->Prop}{e:PEnv}{h:PHeap}(id:Nat)(J:PEnv->PHeap->Prop)(h1:∀Q':Exit->PEnv->PHeap->Prop,(∀e h,J e h->Q' (.exit id) e h)->vp P c Q' e h)(h2:∀e h,J e h->Q (.exit id) e h):vp P c Q e h:=h1 Q h2
theorem zAy(z:Lz p n W B c)(hs:PtrR σ s p vP vB)(hR:IsR vP vB W B)
  (hk:∀vO vQ vC t,FI vO (List.replicate n p)->FII vQ (lgPs p n W B n)->FIII vC (lgCs p n W B n)->Own σ.top t (.agg [vO,vQ,vC])->σ.top<=t->K (.agg [vO,vQ,vC]) (σ.up t)):
  zA Tryz.prog 94 [.ptr s 0] σ K:=by
 have o:=z.r.o;have q:=z.r.q;have aN:=o.le;have eV:=o.len;have bK:=hs.lt;have dA:=z.hp.bd;have aJ:=hR;obtain⟨⟨wp,ap,rp,rfl,jf⟩,hB⟩:=hR;have e1:σ.rd1 s 1=some (.fz wp ap W.length rp):=by rw[zI hs.obj];rfl
 have e0:σ.rd1 s 0=some (.int .i64 p):=by rw[zI hs.obj];rfl
 have dX:¬s=σ.next:=by omega
 refine zA.gh ?_;refine zN mix Tryz.func94 cf94 rfl ?_;dsimp only[if94,eI,qD,eD,mI0,kI0,lI0,LI0,fI0,xI0,bI0,cI0,sI0,pI0,C1,C2,mD0,lD0,fD0,xD0,pD0,I0,vI0,wD0,R0,S0];simp only[Z3,seval,-ae,e0,e1,dX,eV];refine zA.frz (s:=σ.next+1) (cs:=pis [p]) (by simp only[Z3,seval,-ae];rfl) (zL _ _) λo1=>?_;simp only[sbs,Go.Ab.sb,capOK,and_self,if_true,decide_true,vM];refine zNs rfl aN λvr hr=>?_;simp only[Z3,seval,-ae];have lJ:∀{g:PHeap} {u0 u1 u2:PV},Keep (σ.new [.fz true .nils 0 [],.fz true .nils 0 [],.fz true .nils 0 []]) g->u0.one=true->u1.one=true->u2.one=true->g.wr σ.next 0 [u0,u1,u2]=some (g.set σ.next [u0,u1,u2])/\(g.set σ.next [u0,u1,u2]).rd σ.next 0 3=some [u0,u1,u2]:=λ{g u0 u1 u2} k z0 z1 z2=>by
  have aI:g.obj σ.next=some [.fz true .nils 0 [],.fz true .nils 0 [],.fz true .nils 0 []]:=by rw[k.obj _ (Nat.lt_succ_self _),zP,if_pos rfl]
  exact⟨by rw[qC aI,if_pos ⟨by simp,by simp only[List.all_cons,List.all_nil,z0,z1,z2];rfl⟩];rfl,by rw[qh,if_pos rfl];rfl⟩
 generalize hS:((σ.new [.fz true .nils 0 [],.fz true .nils 0 [],.fz true .nils 0 []]).new [.int .i64 p]).kill (σ.next+1)=S;have C6:S.next=σ.next+2:=by rw[<-hS];rfl
 have Ct:Keep (σ.new [.fz true .nils 0 [],.fz true .nils 0 [],.fz true .nils 0 []]) S:=by rw[<-hS];exact(zC _ _).kill (vM _)
 have eC:=zC σ [.fz true .nils 0 [],.fz true .nils 0 [],.fz true .nils 0 []];rcases Nat.eq_zero_or_pos n with oh|aF
 .as_aux_lemma=>
  subst oh;refine zC3 hr (λh1 k1=>?_) λh1 cap hc k1 ho ah=>?_
  .have k2:=(Ct.trans k1).new [.fz true .nils 0 [],.fz true .nils 0 [],.fz true .nils 0 []];obtain⟨g1,g2⟩:=lJ k2 (u0:=.fz true .nils 0 []) (u1:=.fz true .nils 0 []) (u2:=.fz true .nils 0 []) rfl rfl rfl;have g3:(h1.new [.fz true .nils 0 [],.fz true .nils 0 [],.fz true .nils 0 []]).rd h1.next 0 3=some [.fz true .nils 0 [],.fz true .nils 0 [],.fz true .nils 0 []]:=by simp only[Z3,seval,-ae]
   simp only[Z3,seval,-ae];refine zG (λm us h'=>m=0/\us=[.ptr s 0,.ptr σ.next 0,.int .i64 (0:Nat),.ptr h1.next 0,.int .i64 (0:Nat),.int .i64 (0:Nat)]/\h'=h1.new [.fz true .nils 0 [],.fz true .nils 0 [],.fz true .nils 0 []]) 0 ⟨rfl,rfl,rfl⟩ ?_
   rintro m us h' ⟨rfl,rfl,rfl⟩
   generalize hg:h1.new [.fz true .nils 0 [],.fz true .nils 0 [],.fz true .nils 0 []]=g at *
   simp only[Z3,seval,-ae,g1,g2,g3];exact Gh.treeO (t:=.agg [.nil,.nil,.nil]) ((eC.trans k2).set (vM _) _) ⟨trivial,trivial,trivial,trivial⟩ List.nodup_nil λa T h1 h2=>hk _ _ _ T ⟨true,.nils,rfl⟩ ⟨true,.nils,[],rfl,All2.nil _⟩ ⟨true,.nils,[],rfl,All2.nil _⟩ h1 h2
  .have k2:=(Ct.trans k1).new [.sl (S.next+1) 0 0 cap,.fz true .nils 0 [],.fz true .nils 0 []];obtain⟨g1,g2⟩:=lJ k2 (u0:=.sl (S.next+1) 0 0 cap) (u1:=.fz true .nils 0 []) (u2:=.fz true .nils 0 []) rfl rfl rfl;have g3:(h1.new [.sl (S.next+1) 0 0 cap,.fz true .nils 0 [],.fz true .nils 0 []]).rd h1.next 0 3=some [.sl (S.next+1) 0 0 cap,.fz true .nils 0 [],.fz true .nils 0 []]:=by simp only[Z3,seval,-ae]
   simp only[Z3,seval,-ae];refine zG (λm us h'=>m=0/\us=[.ptr s 0,.ptr σ.next 0,.int .i64 (0:Nat),.ptr h1.next 0,.int .i64 (0:Nat),.int .i64 (0:Nat)]/\h'=h1.new [.sl (S.next+1) 0 0 cap,.fz true .nils 0 [],.fz true .nils 0 []]) 0 ⟨rfl,rfl,rfl⟩ ?_
   rintro m us h' ⟨rfl,rfl,rfl⟩
   generalize hg:h1.new [.sl (S.next+1) 0 0 cap,.fz true .nils 0 [],.fz true .nils 0 []]=g at *
   simp only[Z3,seval,-ae,g1,g2,g3];refine Gh.treeO (t:=.agg [TR.row (S.next+1) cap [],.nil,.nil]) ((eC.trans k2).set (vM _) _) ⟨TR.row_ok hc ?_ (by omega) ?_,trivial,trivial,trivial⟩ (by simp[TR.slots,TR.slotss,TR.row]) λa T h1 h2=>hk _ _ _ T TR.row_FI ⟨true,.nils,[],rfl,All2.nil _⟩ ⟨true,.nils,[],rfl,All2.nil _⟩ h1 h2
   .rw[zH,if_neg (by omega),<-hg,zP,if_neg (by omega)];exact ho
   .rw[<-hg];show S.next+1<h1.next+1;omega
 refine zCy (n:=n) hr (by simp) aF aN λcapO vQ vC pc ls h1 sY ti mA kL eH=>?_;obtain⟨sP,capP,rfl,cP,oP,lP,bP,xP⟩:=ti.accP.pos (by omega);obtain⟨sC,capC,rfl,cC,oC,lC,bC,xC⟩:=ti.accC.pos (by omega);rw[mA]at cP;rw[kL]at cC;have DR:=ti.oO;have Al:=ti.sOb;have b:BF (σ.new [.fz true .nils 0 [],.fz true .nils 0 [],.fz true .nils 0 []]) (h1.new [.sl (S.next+1) 0 n capO,.sl sP 0 n capP,.sl sC 0 n capC]) h1.next (S.next+1) sP sC ls:=by
  have hb:∀s,s∈[h1.next,S.next+1,sP,sC]++LS.slots ls->S.next<=s/\s<h1.next+1:=λs hs=>by
   simp only[List.cons_append,List.nil_append,List.mem_cons]at hs
   have:=ti.keep.next
   rcases hs with rfl|rfl|rfl|rfl|hs
   .omega
   .omega
   .omega
   .omega
   .have:=ti.lt hs;omega
  refine⟨λs hs=>⟨by have:=(hb s hs).1;show σ.next+1<=s;omega,(hb s hs).2⟩,?_⟩;simp only[List.cons_append,List.nil_append,List.nodup_cons,List.mem_cons,not_or];refine⟨⟨by omega,by omega,by omega,λhm=>by have:=(ti.lt hm).2;omega⟩,⟨λe=>ti.neP (S.next+1) (.inr (.inr rfl)) 0 _ capP (by rw[<-e]),λe=>ti.neC (S.next+1) (.inr (.inr rfl)) 0 _ capC (by rw[<-e]),ti.neL.2⟩,⟨λe=>ti.nePC sP 0 _ capP rfl 0 _ capC (by rw[e]),λhm=>ti.neP sP (.inl hm) 0 _ capP rfl⟩,λhm=>ti.neC sC (.inl hm) 0 _ capC rfl,ti.nd⟩
 have li:LI (σ.new [.fz true .nils 0 [],.fz true .nils 0 [],.fz true .nils 0 []]) (h1.new [.sl (S.next+1) 0 n capO,.sl sP 0 n capP,.sl sC 0 n capC]) (h1.new [.sl (S.next+1) 0 n capO,.sl sP 0 n capP,.sl sC 0 n capC]) h1.next (S.next+1) sP sC (.sl (S.next+1) 0 n capO) capP capC n (pis (List.replicate n p)) pc ls [] [] []:=by
  refine⟨(Ct.trans ti.keep).new _,vM _,by rw[zP,if_pos rfl],by rw[zP,if_neg (by omega)];exact DR,by rw[zP,if_neg (by omega)];simpa using oP,by rw[zP,if_neg (by omega)];exact oC,λj q hq=>?_,λq hq=>(by simp at hq),by simp[qf]⟩
  have:=(ti.ok q (List.mem_of_getElem? hq))
  rw[zP,if_neg (by have:=this.2.2.2;omega),this.2.1];unfold cont;simp
 rw[mA,kL];simp only[Z3,seval,-ae];clear oP oC lP lC bP bC DR Al;generalize h1.new [.sl (S.next+1) 0 n capO,.sl sP 0 n capP,.sl sC 0 n capC]=H at *
 generalize h1.next=tp at *
 refine zG (λm us h=>∃(i:Nat) (rows:List SR) (Rs:List (List SR)),i<=n/\m=n-i/\us=[.ptr s 0,.ptr σ.next 0,.int .i64 n,.ptr tp 0,.int .i64 n,.int .i64 i]/\LI (σ.new [.fz true .nils 0 [],.fz true .nils 0 [],.fz true .nils 0 []]) H h tp (S.next+1) sP sC (.sl (S.next+1) 0 n capO) capP capC n (pis (List.replicate n p)) pc ls rows Rs []/\rows.length=i/\Rs.length=i/\rows.map SR.x=lgPs p n W B i/\Rs.map (λR=>R.map SR.x)=lgCs p n W B i) n ⟨0,[],[],by omega,by omega,rfl,li,rfl,rfl,rfl,rfl⟩ ?_
 as_aux_lemma=>
 rintro m us h ⟨i,rows,Rs,hi,rfl,rfl,a,bp,oJ,fW,yF⟩
 have bQ:PtrR (σ.new [.fz true .nils 0 [],.fz true .nils 0 [],.fz true .nils 0 []]) s p (.fz wp ap W.length rp) vB:=hs.new _;have mU:=bQ.keep a.keep;have p0:h.rd1 s 0=some (.int .i64 p):=by rw[zI mU.obj];rfl
 have f1:h.rd1 tp 1=some (.sl sP 0 n capP):=by rw[zI a.tpo];rfl
 have f2:h.rd1 tp 2=some (.sl sC 0 n capC):=by rw[zI a.tpo];rfl
 have f3:h.rd tp 0 3=some [.sl (S.next+1) 0 n capO,.sl sP 0 n capP,.sl sC 0 n capC]:=by rw[ze a.tpo];rfl
 simp only[Z3,seval,-ae];refine iteI (λah=>?_) λaG=>?_;rotate_left
 .as_aux_lemma=>
  have aK:i=n:=by omega
  rw[aK]at bp oJ fW yF;obtain⟨g1,g2⟩:=lJ a.keep (u0:=.sl (S.next+1) 0 n capO) (u1:=.sl sP 0 n capP) (u2:=.sl sC 0 n capC) rfl rfl rfl;simp only[Z3,seval,-ae,f3,g1,g2];have hf:Fits ls Rs:=by
   refine⟨by omega,λj o' R ho hR=>?_⟩;obtain⟨hj,iJ⟩:=List.getElem?_eq_some_iff.1 ho;obtain⟨Mw,I4⟩:=List.getElem?_eq_some_iff.1 hR;have J7:R.length=n-1-j:=by
    have e:=congrArg (λL=>L[j]?) yF;simp only[List.getElem?_map,hR,Option.map_some]at e;unfold lgCs at e;rw[List.getElem?_map,List.getElem?_range (by omega)]at e;simp only[Option.map_some,Option.some.injEq]at e
    have:=congrArg List.length e
    simpa [lgR]using this
   obtain⟨s1,s2⟩:=eH j hj;rw[iJ]at s1 s2;by_cases e:j+1=n
   .rw[s1 e];exact List.eq_nil_of_length_eq_zero (by omega)
   .obtain⟨q,e1,e2⟩:=s2 (by omega);rw[e1];show R.length=_;omega
  have fin:=LI.fin (K:=K) (Y:=[.sl (S.next+1) 0 n capO,.sl sP 0 n capP,.sl sC 0 n capC]) (res:=σ.next) (capO:=capO) (capP:=capP) (capC:=capC) eC ⟨vM _,Nat.lt_succ_self _⟩ (by rw[List.length_replicate];exact sY) (by rw[bp];exact cP) (by rw[oJ];exact cC) (by omega) (λq hq=>(ti.ok q hq).1) b a hf λvO vQ vC t h1 h2 h3 h4 h5=>hk vO vQ vC t h1 (by rw[<-fW];exact h2) (by rw[<-yF];exact h3) h4 h5;rw[List.length_replicate,bp,oJ]at fin;exact fin
 have aE:i<n:=by omega
 have hu:=zV (n:=n) o.pr aE;have ar:¬tp=h.next:=by have:=(b.b tp (by simp)).2;have:=a.nx;omega
 simp only[Z3,seval,-ae];refine qB (by omega) aE λa1=>?_;simp only[Z3,seval,-ae,f1,p0,eV];refine zAb o mU aJ.P hu ⟨true,a1,by rw[hu.1]⟩ (k:=p) (by omega) λv1 yN=>?_;have bg:=zK o (k:=p) (m:=0) hu hu;simp only[Z3,seval,-ae,f1];refine zAx z mU aJ (x:=lmul p W p (unitL n i)) bg yN λfS oE=>?_;have aW:(vcG p n W B (lmul p W p (unitL n i))).length=n:=Zi n;have Bm:vcG p n W B (lmul p W p (unitL n i))=lgP p n W B i:=rfl;rw[Bm]at aW ⊢;have a9:=a;obtain⟨u1,a2⟩:=LI.putP b a (x:=lgP p n W B i) (cap:=fS) (by rw[aW];exact oE) (by omega);rw[bp,aW]at u1;rw[bp]at a2;have FH:(h.new (pis (lgP p n W B i))).rd1 tp 1=some (.sl sP 0 n capP):=by rw[zI (a.keepI b (zC h _)).tpo];rfl
 generalize h.new (pis (lgP p n W B i))=hN at *
 have bW:(rows++[(⟨h.next,fS,lgP p n W B i⟩:SR)]).map SR.x=lgPs p n W B (i+1):=by
  rw[List.map_append,fW];unfold lgPs;rw[List.range_succ,List.map_append];rfl
 have my:(rows++[(⟨h.next,fS,lgP p n W B i⟩:SR)]).length=i+1:=by rw[List.length_append,bp];rfl
 generalize rows++[(⟨h.next,fS,lgP p n W B i⟩:SR)]=gg at *
 clear f1 f2 f3 p0 fW bp a9;generalize hN.set sP (gg.map SR.pv++pc.drop (i+1))=h0 at *
 have lC:∀{g:PHeap} {cur:List SR},LI (σ.new [.fz true .nils 0 [],.fz true .nils 0 [],.fz true .nils 0 []]) H g tp (S.next+1) sP sC (.sl (S.next+1) 0 n capO) capP capC n (pis (List.replicate n p)) pc ls gg Rs cur->g.rd1 tp 2=some (.sl sC 0 n capC)/\g.rd1 sC i=some (LS.pvo (ls[i]'(by omega)))/\g.rd1 s 0=some (.int .i64 p):=λ{g cur} l=>by
  refine⟨by rw[zI l.tpo];rfl,?_,by rw[zI (bQ.keep l.keep).obj];rfl⟩;rw[zI l.oC,List.getElem?_map,List.getElem?_eq_getElem (by omega)];rfl
 obtain⟨g2,gC,gp⟩:=lC a2;obtain⟨s1,s2⟩:=eH i (by omega);have mA:pLen (LS.pvo (ls[i]'(by omega)))=some (.int .i64 ((n-1-i:Nat):Int)):=by
  by_cases e:i+1=n
  .rw[s1 e,show n-1-i=0 by omega];rfl
  .obtain⟨q',e1,e2⟩:=s2 (by omega);rw[e1,<-e2];rfl
 simp only[Z3,seval,-ae,FH,aE,u1,g2,gC,mA];clear u1 FH;refine zL4 2 (λe h=>∃(cur:List SR) (b0:PV),e=PEnv.mk [0,2,3,4,5,6,21,22,46,47,48] [.ptr s 0,.ptr σ.next 0,.int .i64 n,.ptr tp 0,.int .i64 i,.fz true a1 n (pis (unitL n i)),.int .i64 n,.int .i64 i,.int .i64 ((n-1-i:Nat):Int),.int .i64 ((n-1-i:Nat):Int),b0]/\LI (σ.new [.fz true .nils 0 [],.fz true .nils 0 [],.fz true .nils 0 []]) H h tp (S.next+1) sP sC (.sl (S.next+1) 0 n capO) capP capC n (pis (List.replicate n p)) pc ls gg Rs cur/\cur.map SR.x=lgR p n W B i (n-1-i)) (λQ hQ=>?_) ?_;rotate_left
 .as_aux_lemma=>
  rintro e h9 ⟨cur,b0,rfl,l,bA⟩
  have cI:cur.length=n-1-i:=by have:=congrArg List.length bA;simpa [lgR]using this
  have l2:=l.close (λq' bm=>by
   rw[oJ]at bm;obtain⟨hj,iJ⟩:=List.getElem?_eq_some_iff.1 bm;by_cases e:i+1=n
   .rw[s1 e]at iJ;cases iJ
   .obtain⟨q2,e1,e2⟩:=s2 (by omega);rw[e1]at iJ;cases iJ;omega)
  simp only[Z3,seval,-ae,wrapS aE (by omega:n<=4611686018427387904)];refine⟨_,by omega,i+1,gg,Rs++[cur],by omega,rfl,rfl,l2,my,by rw[List.length_append,oJ];rfl,bW,?_⟩;rw[List.map_append,yF];unfold lgCs;rw[List.range_succ,List.map_append];simp only[List.map_cons,List.map_nil,bA]
 as_aux_lemma=>
 refine zG (λm us h=>∃(k:Nat) (cur:List SR),k<=n-1-i/\m=n-1-i-k/\us=[.ptr s 0,.ptr σ.next 0,.int .i64 n,.ptr tp 0,.int .i64 i,.fz true a1 n (pis (unitL n i)),.int .i64 n,.int .i64 i,.int .i64 ((n-1-i:Nat):Int),.int .i64 k]/\LI (σ.new [.fz true .nils 0 [],.fz true .nils 0 [],.fz true .nils 0 []]) H h tp (S.next+1) sP sC (.sl (S.next+1) 0 n capO) capP capC n (pis (List.replicate n p)) pc ls gg Rs cur/\cur.length=k/\cur.map SR.x=lgR p n W B i k) (n-1-i) ⟨0,[],by omega,by omega,rfl,a2,rfl,rfl⟩ ?_
 rintro m us h8 ⟨k,cur,EW,rfl,rfl,l,cI,bA⟩
 obtain⟨g2,gC,gp⟩:=lC l;simp only[Z3,seval,-ae];refine iteI (λIN=>?_) λJf=>?_;rotate_left
 .have dJ:k=n-1-i:=by omega
  rw[dJ]at bA;exact hQ _ _ ⟨cur,_,by rw[dJ],l,bA⟩
 have bF:k<n-1-i:=by omega
 obtain⟨q0,e1,e2⟩:=s2 (by omega);have hj:i+(1+k)<n:=by omega
 have uD:=zV (n:=n) o.pr hj;have F5:IntKind.i64.wrap ((i:Int)+1)=((i+1:Nat):Int):=by rw[wrap64 (by omega) (by omega)];omega
 have o7:IntKind.i64.wrap (((i+1:Nat):Int)+(k:Int))=((i+(1+k):Nat):Int):=by rw[wrap64 (by omega) (by omega)];omega
 rw[e1]at gC;have Dt:h8.rd1 sC i=some (.sl q0.s 0 q0.cs.length q0.cap):=gC;simp only[Z3,seval,-ae,g2,Dt,aE,F5,o7];have uH:=bQ.keep l.keep;refine zAb o uH aJ.P hu ⟨true,a1,by rw[hu.1]⟩ (k:=-1) (by omega) λv1 yN=>?_;have Jn:El p n (lmul p W (-1) (unitL n i)):=zAl o hu;have Du:=yN;obtain⟨w1,x1,rfl⟩:=yN;simp only[Z3,seval,-ae,g2,Dt,F5,o7];refine qB (by omega) hj λa2=>?_;have IE:¬tp=h8.next:=by have:=(b.b tp (by simp)).2;have:=l.nx;omega
 have IG:¬sC=h8.next:=by have:=(b.b sC (by simp)).2;have:=l.nx;omega
 have Mj:¬s=h8.next:=by have:=uH.lt;omega
 simp only[Z3,seval,-ae,g2,Dt,IE,IG];have aT:All2 FI [.fz w1 x1 (lmul p W (-1) (unitL n i)).length (pis (lmul p W (-1) (unitL n i))),.fz true a2 n (pis (unitL n (i+(1+k)))),.fz true a1 n (pis (unitL n i))] [lmul p W (-1) (unitL n i),unitL n (i+(1+k)),unitL n i]:=
  (((All2.nil _).snoc Du).snoc ⟨true,a2,by rw[uD.1]⟩).snoc ⟨true,a1,by rw[hu.1]⟩
 refine zA.frz (s:=h8.next) (by rw[zP,if_pos rfl]) (aT.bI 0) λo2=>?_;simp only[sbs,Go.Ab.sb,capOK,and_self,if_true,decide_true,vM];have lk:=l.keepI b (((Keep.refl h8).new [.fz w1 x1 (lmul p W (-1) (unitL n i)).length (pis (lmul p W (-1) (unitL n i))),.fz true a2 n (pis (unitL n (i+(1+k)))),.fz true a1 n (pis (unitL n i))]).kill (vM _));generalize (h8.new [.fz w1 x1 (lmul p W (-1) (unitL n i)).length (pis (lmul p W (-1) (unitL n i))),.fz true a2 n (pis (unitL n (i+(1+k)))),.fz true a1 n (pis (unitL n i))]).kill h8.next=h7 at *
 obtain⟨k2,kC,kp⟩:=lC lk;rw[e1]at kC;have HV:h7.rd1 sC i=some (.sl q0.s 0 q0.cs.length q0.cap):=kC;have uI:=bQ.keep lk.keep;have vJ:Els p n [lmul p W (-1) (unitL n i),unitL n (i+(1+k)),unitL n i]:=λy hy=>by
  simp only[List.mem_cons,List.not_mem_nil,or_false]at hy;rcases hy with rfl|rfl|rfl<;>assumption
 refine zA.fzI (λK' h'=>zLx z uI aJ ⟨true,_,_,rfl,aT⟩ vJ (by simp) h') λa3=>?_;have CE:=zAX o q vJ;simp only[Z3,seval,-ae,k2,HV];refine zAx z uI aJ (x:=conj p n W B (unitL n (i+(1+k))) (unitL n i)) CE ⟨true,a3,rfl⟩ λgL gY=>?_;have aW:(vcG p n W B (conj p n W B (unitL n (i+(1+k))) (unitL n i))).length=n:=Zi n;have Bm:vcG p n W B (conj p n W B (unitL n (i+(1+k))) (unitL n i))=lgC p n W B i k:=rfl;rw[Bm]at aW ⊢;have kG:ls[Rs.length]? = some (some q0):=by rw[oJ,List.getElem?_eq_getElem (by omega),e1]
 obtain⟨u1,l2⟩:=LI.putC b lk (x:=lgC p n W B i k) (cap:=gL) (by rw[aW];exact gY) kG (by omega);rw[cI,aW]at u1;rw[cI]at l2;have lN:=lk.keepI b (zC h7 (pis (lgC p n W B i k)));obtain⟨j2,jC,jp⟩:=lC lN;rw[e1]at jC;have HW:(h7.new (pis (lgC p n W B i k))).rd1 sC i=some (.sl q0.s 0 q0.cs.length q0.cap):=jC;generalize h7.new (pis (lgC p n W B i k))=hN at *
 have gG:(cur++[(⟨h7.next,gL,lgC p n W B i k⟩:SR)]).map SR.x=lgR p n W B i (k+1):=by
  rw[List.map_append,bA];unfold lgR;rw[List.range_succ,List.map_append];rfl
 have CO:(cur++[(⟨h7.next,gL,lgC p n W B i k⟩:SR)]).length=k+1:=by rw[List.length_append,cI];rfl
 generalize cur++[(⟨h7.next,gL,lgC p n W B i k⟩:SR)]=xI at *
 generalize hN.set q0.s (xI.map SR.pv++q0.cs.drop (k+1))=hE at *
 have IU:k<q0.cs.length:=by omega
 simp only[Z3,seval,-ae,j2,HW,IU,u1,wrapS bF (by omega:n-1-i<=4611686018427387904)];exact⟨_,by omega,k+1,xI,by omega,rfl,rfl,l2,CO,gG⟩
end Go.Proofs
namespace Go.Proofs
open Go.Ab Go.Lie
variable{σ h:PHeap}{K:PV->PHeap->Prop}{n c:Nat}{p:Int}{W:V2}{B:V3}{vP vB:PV}{s:Nat}
theorem zL7{i j:Nat}(hi:i<n):at_ (unitL n i) j=if j=i then 1 else 0:=by
 unfold unitL;rw[at_set (by simp;exact hi),zn]
theorem zQk(o:OkW p n W){i:Nat}(hi:i<n):lmul p W p (unitL n i)=W.getD i []:=by
 have hl:=o.len;have mD:i<W.length:=by omega
 obtain⟨r1,r2,r3⟩:=o.row i mD;rw[qL mD];obtain⟨e1,e2⟩:=Zw o (zV (n:=n) o.pr hi) p;refine qQ o e1.1 r1 e1.2 r2 (e2.trans ?_);have h1:=((Eqv.rel (p:=p) (n:=n) (W:=W) hi).symm).add (Eqv.refl (λj=>p*at_ (unitL n i) j));refine((Eqv.of_eq λj=>by omega).trans h1).trans (Eqv.of_eq λj=>?_);rw[zL7 hi];unfold rel w_;rw[qL mD];split<;>omega
structure ST(T h:PHeap)(p0:Nat)(fs:List (PV×List PV))(ls:List LS):Prop where
 keep:Keep T h
 obj:h.obj p0=some (fs.map Prod.fst)
 p0b:T.next<=p0/\p0<h.next
 acc:∀f,f∈fs->PSl T.next 1 h f.1 f.2.length f.2
 ne:∀f,f∈fs->∀off l c,f.1≠.sl p0 off l c
 dis:∀(i j:Nat) f g,fs[i]? = some f->fs[j]? = some g->i≠j->∀s off l c,f.1=.sl s off l c->∀off l c,g.1≠.sl s off l c
 lok:∀q,q∈ls->q.ok h T.next
 lne:∀q,q∈ls->q.s≠p0/\∀f,f∈fs->∀off l c,f.1≠.sl q.s off l c
variable{T:PHeap}{p0:Nat}{fs:List (PV×List PV)}{ls:List LS}
theorem Qq{b e m:Nat}{h h2:PHeap}{v:PV}{cs:List PV}(a:PSl b e h v m cs)(ho:∀s off l c,v=.sl s off l c->h2.obj s=h.obj s)(hn:h.next<=h2.next):PSl b e h2 v m cs:=by
 obtain⟨s,cap,rfl,h1,lM,h3,h4,h5⟩:=a;exact⟨s,cap,rfl,h1,by rw[ho s 0 _ cap rfl];exact lM,h3,h4,Nat.lt_of_lt_of_le h5 hn⟩
theorem QU{b e m:Nat}{h:PHeap}{v:PV}{cs:List PV}(a:PSl b e h v m cs){s off l:Nat}{c:Cap}(hv:v=.sl s off l c):s<h.next:=zAU a.acc hv
theorem ST.keepI{h2:PHeap}(a:ST T h p0 fs ls)(k:Keep h h2):ST T h2 p0 fs ls:=
 ⟨a.keep.trans k,by rw[k.obj _ a.p0b.2];exact a.obj,⟨a.p0b.1,Nat.lt_of_lt_of_le a.p0b.2 k.next⟩,λf hf=>(a.acc f hf).keep k,a.ne,a.dis,λq hq=>(a.lok q hq).move (k.obj _ (a.lok q hq).2.2.2) k.next,a.lne⟩
theorem ST.more{q:LS}(a:ST T h p0 fs ls)(h1:q.ok h T.next)(h2:q.s≠p0/\∀f,f∈fs->∀off l c,f.1≠.sl q.s off l c):ST T h p0 fs (ls++[q]):=
 ⟨a.keep,a.obj,a.p0b,a.acc,a.ne,a.dis,λq' hq=>(List.mem_append.1 hq).elim (a.lok q') λe=>by rw[List.mem_singleton.1 e];exact h1,λq' hq=>(List.mem_append.1 hq).elim (a.lne q') λe=>by rw[List.mem_singleton.1 e];exact h2⟩
theorem ST.push{K:PV×PHeap->Prop}{bytes j:Nat}{v x:PV}{cs:List PV}(a:ST T h p0 fs ls)(hj:fs[j]? = some (v,cs))(hb:cs.length<=1000)(CR:bytes<=24)(aV:∀f,f∈fs->f.1.one=true)
    (k:∀v' h2,v'.one=true->v'.cells=[v']->h2.wr p0 j [v']=some (h2.set p0 ((fs.set j (v',cs++[x])).map Prod.fst))->ST T (h2.set p0 ((fs.set j (v',cs++[x])).map Prod.fst)) p0 (fs.set j (v',cs++[x])) ls->K (v',h2)):
    optK (qU 1 bytes (h.new [x]) v (.sl h.next 0 1 (.known 1))) K:=by
  have hm:(v,cs)∈fs:=List.mem_of_getElem? hj;obtain⟨dK,iJ⟩:=List.getElem?_eq_some_iff.1 hj;have gd:(cs.length+1)*bytes<=1001*24:=Nat.mul_le_mul (by omega) CR;refine PAcc.pushS (σb:=T) (bytes:=bytes) a.keep (a.acc _ hm).acc rfl (by show(cs.length+1)*bytes<=_;omega) (by show cs.length+1<=_;omega) λv' h2 k2 a2 o2 n2 l2=>?_;have hp:=a.p0b;have eT:h2.obj p0=some (fs.map Prod.fst):=by rw[o2 _ hp.2 (a.ne _ hm)];exact a.obj
  have bY:(fs.set j (v',cs++[x])).map Prod.fst=(fs.map Prod.fst).set j v':=by rw[List.map_set]
  have aM:∀f,f∈fs.set j (v',cs++[x])->f=(v',cs++[x])\/∃i,i≠j/\fs[i]? = some f:=λf hf=>by
    obtain⟨i,hi⟩:=List.getElem?_of_mem hf;rw[List.getElem?_set]at hi;split at hi
    . first
      |(cases hi;exact .inl rfl)
      | (split at hi
         .cases hi;exact .inl rfl
         .cases hi)
    .rename_i e;exact .inr ⟨i,λe2=>e e2.symm,hi⟩
  refine k v' h2 a2.one a2.cells ?_ ⟨k2.set hp.1 _,by rw[zH,if_pos rfl],⟨hp.1,by show p0<h2.next;omega⟩,λf hf=>?_,λf hf=>?_,λi1 i2 f g hf hg ar s off l c e=>?_,λq hq=>?_,λq hq=>⟨(a.lne q hq).1,λf hf=>?_⟩⟩
  . rw[qC eT,if_pos ⟨by rw[List.length_map,List.length_singleton];omega,by simp only[List.all_cons,List.all_nil,a2.one];rfl⟩,bY]
    congr 2;rw[List.append_assoc,List.singleton_append,List.length_singleton,take_set _ (by rw[List.length_map];exact dK)]
  . rcases aM f hf with rfl|⟨i,hi,he⟩
    . have a3:PSl T.next 1 (h2.set p0 ((fs.set j (v',cs++[x])).map Prod.fst)) v' (cs.length+1) (cs++[x]):=Qq a2 (λs off l c e=>by rw[zH,if_neg λe2=>n2 p0 hp.2 off l c (by rw[e,e2])]) (vM _)
      simpa using a3
    . have jJ:=List.mem_of_getElem? he
      refine Qq (a.acc f jJ) (λs off l c e=>?_) (Nat.le_of_lt l2);rw[zH,if_neg λe2=>a.ne f jJ off l c (by rw[e,e2]),o2 s (QU (a.acc f jJ) e) (a.dis i j f _ he hj hi s off l c e)]
  . rcases aM f hf with rfl|⟨i,hi,he⟩
    .exact n2 p0 hp.2
    .exact a.ne f (List.mem_of_getElem? he)
  . rw[List.getElem?_set]at hf hg
    by_cases e1:j=i1
    . rw[if_pos e1,if_pos dK]at hf
      cases hf;rw[if_neg λe2=>ar (e1.symm.trans e2)]at hg;have CC:=List.mem_of_getElem? hg;intro de l' c' e';exact n2 s (QU (a.acc g CC) e') off l c e
    . rw[if_neg e1]at hf
      have jJ:=List.mem_of_getElem? hf;by_cases e2:j=i2
      . rw[if_pos e2,if_pos dK]at hg
        cases hg;exact n2 s (QU (a.acc f jJ) e)
      . rw[if_neg e2]at hg
        exact a.dis i1 i2 f g hf hg ar s off l c e
  . have bm:=a.lok q hq
    refine bm.move ?_ (Nat.le_of_lt l2);rw[zH,if_neg (a.lne q hq).1,o2 _ bm.2.2.2 ((a.lne q hq).2 _ hm)]
  . rcases aM f hf with rfl|⟨i,hi,he⟩
    .exact n2 _ (a.lok q hq).2.2.2
    .exact(a.lne q hq).2 f (List.mem_of_getElem? he)
theorem Qw:∀cs:List PV,TR.pvs (cs.map TR.leaf)=cs
 |[]=>rfl
 |c::cs=>by simp only[List.map_cons,TR.pvs,TR.pv,Qw cs]
theorem Qy{a:Nat->Nat}:∀cs:List PV,TR.fzs a (cs.map TR.leaf)=cs
 |[]=>rfl
 |c::cs=>by simp only[List.map_cons,TR.fzs,TR.fz,Qy cs]
theorem Qx{b:Nat}:∀{cs:List PV},Bels 0 cs->TR.okFs h b (cs.map TR.leaf)
 |[],_=>trivial
 |c::cs,hb=>⟨hb.1,Qx hb.2⟩
def LS.tr(q:LS):TR:=.lst q.s q.cap (q.cs.map TR.leaf)
theorem LS.tr_pvs:∀ls:List LS,TR.pvs (ls.map LS.tr)=ls.map LS.pv
 |[]=>rfl
 |q::ls=>by simp only[List.map_cons,TR.pvs,LS.tr_pvs ls];simp only[LS.tr,TR.pv,List.length_map,LS.pv]
theorem LS.tr_okF{b:Nat}{q:LS}(h1:q.ok h b)(h2:Bels 0 q.cs):(LS.tr q).okF h b:=⟨⟨by rw[List.length_map];exact h1.1,by rw[Qw];exact h1.2.1,h1.2.2.1,h1.2.2.2⟩,Qx h2⟩
theorem LS.trs_okF{b:Nat}:∀{ls:List LS},(∀q,q∈ls->q.ok h b/\Bels 0 q.cs)->TR.okFs h b (ls.map LS.tr)
 |[],_=>trivial
 |q::ls,k=>⟨LS.tr_okF (k q (List.mem_cons_self ..)).1 (k q (List.mem_cons_self ..)).2,LS.trs_okF λq' hq=>k q' (List.mem_cons_of_mem _ hq)⟩
def zIy(ls:List LS)(Ms:V3):Prop:=All2 (λ(q:LS) (R:V2)=>All2 FI q.cs R) ls Ms
theorem zBu{a:Nat->Nat}{ls:List LS}{Ms:V3}(k:zIy ls Ms):All2 FII (TR.fzs a (ls.map LS.tr)) Ms:=by
 have hl:∀ls:List LS,(TR.fzs a (ls.map LS.tr)).length=ls.length:=λls=>by rw[TR.fzs_length,List.length_map]
 have hg:∀(ls:List LS) (i:Nat),(TR.fzs a (ls.map LS.tr))[i]? = ls[i]?.map λq=>(LS.tr q).fz a:=by
  intro ls
  induction ls with
  |nil=>intro i;simp[TR.fzs]
  |cons q ls ih=>
   intro i;cases i with
   |zero=>simp[TR.fzs]
   |succ i=>simpa [TR.fzs]using ih i
 refine⟨by rw[hl];exact k.1,λi c R hc hR=>?_⟩;rw[hg]at hc;obtain⟨q,hq,rfl⟩:=Option.map_eq_some_iff.1 hc;have h2:=k.2 i q R hq hR;exact⟨true,.sl (a q.s) 0 q.cs.length q.cap,q.cs,by simp only[LS.tr,TR.fz,Qy,List.length_map];rw[h2.1],h2⟩
theorem zEE(z:Lz p n W B c)(hR:IsR vP vB W B)(hk:∀vO vQ vC,FI vO (List.replicate n p)->FII vQ (lgPs p n W B n)->FIII vC (lgCs p n W B n)->K (.agg [vO,vQ,vC]) σ):zA Tryz.prog 88 [.agg [.int .i64 p,vP,vB]] σ K:=by
 have o:=z.r.o;have q:=z.r.q;have aN:=o.le;have eV:=o.len;have dA:=z.hp.bd;have aJ:=hR;have Ks:=hR.B.one;obtain⟨⟨wp,ap,rp,rfl,jf⟩,hB⟩:=hR;refine zA.gh ?_;generalize hT:(σ.new [.int .i64 p,.fz wp ap W.length rp,vB]).new [.fz true .nils 0 [],.fz true .nils 0 [],.fz true .nils 0 []]=T;have cJ:T.next=σ.next+2:=by rw[<-hT];rfl
 have cg:Keep σ T:=by rw[<-hT];exact(zC σ _).new _
 have ld:∀{g:PHeap},Keep T g->g.rd σ.next 0 3=some [.int .i64 p,.fz wp ap W.length rp,vB]/\g.rd1 σ.next 0=some (.int .i64 p)/\g.rd1 σ.next 1=some (.fz wp ap W.length rp):=λ{g} k=>by
  have ob:g.obj σ.next=some [.int .i64 p,.fz wp ap W.length rp,vB]:=by rw[k.obj _ (by omega),<-hT];simp only[Z3,seval,-ae]
  exact⟨by rw[ze ob];rfl,by rw[zI ob];rfl,by rw[zI ob];rfl⟩
 have lJ:∀{g:PHeap} {u0 u1 u2:PV},Keep T g->u0.one=true->u1.one=true->u2.one=true->g.wr (σ.next+1) 0 [u0,u1,u2]=some (g.set (σ.next+1) [u0,u1,u2])/\(g.set (σ.next+1) [u0,u1,u2]).rd (σ.next+1) 0 3=some [u0,u1,u2]:=λ{g u0 u1 u2} k z0 z1 z2=>by
  have aI:g.obj (σ.next+1)=some [.fz true .nils 0 [],.fz true .nils 0 [],.fz true .nils 0 []]:=by rw[k.obj _ (by omega),<-hT];simp only[Z3,seval,-ae]
  exact⟨by rw[qC aI,if_pos ⟨by simp,by simp only[List.all_cons,List.all_nil,z0,z1,z2];rfl⟩];rfl,by rw[qh,if_pos rfl];rfl⟩
 obtain⟨l3,l0,l1⟩:=ld (Keep.refl T);refine zN mix Tryz.func88 cf88 rfl ?_;dsimp only[if88,qI,eI,qD,eD,mI0,kI0,lI0,LI0,fI0,bI0,cI0,sI0,mD0,lD0,fD0,xD0,vI0,wD0,R0,S0];simp only[Z3,seval,-ae,Ks];rw[hT];simp only[Z3,seval,-ae,l1,eV];refine zG (λm us h=>∃(i:Nat) (vO vP vC:PV) (cO cP cC:List PV) (ls:List LS),i<=n/\m=n-i/\us=[.ptr σ.next 0,.ptr (σ.next+1) 0,.int .i64 n,.ptr (σ.next+5) 0,.int .i64 i]/\ST T h (σ.next+5) [(vO,cO),(vP,cP),(vC,cC)] ls/\cO=pis (List.replicate i p)/\All2 FI cP (lgPs p n W B i)/\cC=ls.map LS.pv/\zIy ls (lgCs p n W B i)) n ?_ ?_
 .refine⟨0,.sl (σ.next+2) 0 0 (.known 0),.sl (σ.next+3) 0 0 (.known 0),.sl (σ.next+4) 0 0 (.known 0),[],[],[],[],by omega,by omega,rfl,⟨(((zC T _).new _).new _).new _,by simp only[Z3,seval,-ae,cJ],⟨by omega,by first|(simp only[Z3,seval,-ae,cJ];done)|(simp only[Z3,seval,-ae,cJ];omega)⟩,λf hf=>?_,λf hf off l c e=>?_,λi j f g hf hg ar s off l c e de l' c' e'=>?_,λq hq=>(by cases hq),λq hq=>(by cases hq)⟩,rfl,All2.nil _,rfl,All2.nil _⟩
  .simp only[List.mem_cons,List.not_mem_nil,or_false]at hf;rcases hf with rfl|rfl|rfl
   .exact PSl.own (.inr rfl) (by simp only[Z3,seval,-ae,cJ]) rfl (by omega) (by first|(simp only[Z3,seval,-ae,cJ];done)|(simp only[Z3,seval,-ae,cJ];omega))
   .exact PSl.own (.inr rfl) (by simp only[Z3,seval,-ae,cJ]) rfl (by omega) (by first|(simp only[Z3,seval,-ae,cJ];done)|(simp only[Z3,seval,-ae,cJ];omega))
   .exact PSl.own (.inr rfl) (by simp only[Z3,seval,-ae,cJ]) rfl (by omega) (by first|(simp only[Z3,seval,-ae,cJ];done)|(simp only[Z3,seval,-ae,cJ];omega))
  .simp only[List.mem_cons,List.not_mem_nil,or_false]at hf;rcases hf with rfl|rfl|rfl<;>(simp only[PV.sl.injEq]at e;omega)
  .match i,j with
   |0,0=>exact ar rfl
   |1,1=>exact ar rfl
   |2,2=>exact ar rfl
   |0,1|0,2|1,0|1,2|2,0|2,1=>cases hf;cases hg;simp only[PV.sl.injEq]at e e';omega
   |i+3,_=>simp at hf
   |0,j+3|1,j+3|2,j+3=>simp at hg
 as_aux_lemma=>
 rintro m us h ⟨i,vO,vP,vC,cO,cP,cC,ls,hi,rfl,rfl,a,sY,rM,iP,fZ⟩
 obtain⟨l3,l0,l1⟩:=ld a.keep;have aO:=a.acc (vO,cO) (by simp);have aP:=a.acc (vP,cP) (by simp);have aC:=a.acc (vC,cC) (by simp);have f0:h.rd1 (σ.next+5) 0=some vO:=by rw[zI a.obj];rfl
 have f3:h.rd (σ.next+5) 0 3=some [vO,vP,vC]:=by rw[ze a.obj];rfl
 simp only[Z3,seval,-ae];refine iteI (λah=>?_) λaG=>?_;rotate_left
 .as_aux_lemma=>
  have aK:i=n:=by omega
  subst aK;obtain⟨g1,g2⟩:=lJ a.keep aO.one aP.one aC.one;simp only[Z3,seval,-ae,f3,g1,g2];obtain⟨sO,capO,e1,o1,o2,o3,o4,o5⟩:=aO;obtain⟨sP,capP,e2,q1,q2,q3,q4,q5⟩:=aP;obtain⟨sC,capC,e3,r1,r2,r3,r4,r5⟩:=aC;dsimp only at e1 o1 o2 o3 e2 q1 q2 q3 e3 r1 r2 r3;subst e1 e2 e3;have et:(TR.agg [.lst sO capO (cO.map TR.leaf),.lst sP capP (cP.map TR.leaf),.lst sC capC (ls.map LS.tr)]).pv=.agg [.sl sO 0 cO.length capO,.sl sP 0 cP.length capP,.sl sC 0 cC.length capC]:=by
   simp only[TR.pv,TR.pvs,List.length_map];rw[iP,List.length_map]
  rw[<-et];have ob:∀s,T.next<=s->(h.set (σ.next+1) [.sl sO 0 cO.length capO,.sl sP 0 cP.length capP,.sl sC 0 cC.length capC]).obj s=h.obj s:=λs hs=>by rw[zH,if_neg (by omega)]
  refine Gh.treeF ((cg.trans a.keep).set (by omega) _) ⟨⟨⟨by rw[List.length_map];exact o1,by rw[ob _ o4,Qw];exact o2,by omega,o5⟩,Qx (by rw[sY];exact zL _ _)⟩,⟨⟨by rw[List.length_map];exact q1,by rw[ob _ q4,Qw];exact q2,by omega,q5⟩,Qx (rM.bI 0)⟩,⟨⟨by rw[List.length_map];rw[iP,List.length_map]at r1;exact r1,by rw[ob _ r4,LS.tr_pvs,<-iP];exact r2,by omega,r5⟩,LS.trs_okF λq hq=>?_⟩,trivial⟩ λaa=>hk _ _ _ ⟨true,.sl (aa sO) 0 cO.length capO,?_⟩ ⟨true,.sl (aa sP) 0 cP.length capP,cP,?_,rM⟩ ⟨true,.sl (aa sC) 0 ls.length capC,TR.fzs aa (ls.map LS.tr),?_,zBu fZ⟩
  .obtain⟨g1,g2,g3,g4⟩:=a.lok q hq;refine⟨⟨g1,by rw[ob _ g3];exact g2,by omega,g4⟩,?_⟩;obtain⟨k,fY,rfl⟩:=List.mem_iff_getElem.1 hq;exact(fZ.2 k _ _ (List.getElem?_eq_getElem fY) (List.getElem?_eq_getElem (by rw[<-fZ.1];exact fY))).bI 0
  .simp only[TR.fz,Qy,List.length_map];rw[sY];simp[zJ]
  .simp only[TR.fz,Qy,List.length_map];rw[rM.1]
  .simp only[TR.fz,List.length_map];rw[fZ.1]
 have aE:i<n:=by omega
 have mD:i<W.length:=by omega
 have aV:∀f,f∈[(vO,cO),(vP,cP),(vC,cC)]->f.1.one=true:=λf hf=>(a.acc f hf).one;have Jz:cO.length=i:=by rw[sY];simp[zJ]
 have Jy:cP.length=i:=by rw[rM.1];simp[lgPs]
 have JA:cC.length=i:=by rw[iP,List.length_map,fZ.1];simp[lgCs]
 simp only[Z3,seval,-ae,f0,l0];refine ST.push a (j:=0) (bytes:=8) rfl (by omega) (by omega) aV λv1 h1 z1 z2 z3 a1=>?_;simp only[List.set_cons_zero,List.map_cons,List.map_nil]at z3 a1;generalize h1.set (σ.next+5) [v1,vP,vC]=h2 at *
 obtain⟨l3,l0,l1⟩:=ld a1.keep;have f1:h2.rd1 (σ.next+5) 1=some vP:=by rw[zI a1.obj];rfl
 obtain⟨w4,a4,BR⟩:=jf.rowI mD;simp only[Z3,seval,-ae,z1,z2,z3,l3,l1,f1,mD,BR];obtain⟨Gg,Gf,Ly⟩:=o.row i mD;refine zBU z aJ (x:=W[i]) ⟨Gg,Gf⟩ ⟨w4,a4,rfl⟩ λv2 bW=>?_;have pM:FI v2 (lgP p n W B i):=by unfold lgP;rw[zQk o aE,qL mD];exact bW
 have y1:=pM.one;have y2:=pM.cells;have IH:¬σ.next+5=h2.next:=by have:=a1.p0b.2;omega
 simp only[Z3,seval,-ae,y1,y2,f1,IH];have jn:∀f,f∈[(v1,cO++[.int .i64 p]),(vP,cP),(vC,cC)]->f.1.one=true:=λf hf=>(a1.acc f hf).one;refine ST.push a1 (j:=1) (bytes:=24) rfl (by omega) (by omega) jn λv3 h3 z4 z5 z6 a3=>?_;simp only[List.set_cons_zero,List.set_cons_succ,List.map_cons,List.map_nil]at z6 a3;generalize h3.set (σ.next+5) [v1,v3,vC]=h4 at *
 have bB:IntKind.i64.wrap ((i:Int)+1)=((i+1:Nat):Int):=wrapS aE (by omega);simp only[Z3,seval,-ae,z4,z5,z6,bB];clear z1 z2 z3 z4 z5 z6 f0 f1 f3 l3 l0 l1 y1 y2;refine zL4 2 (λe h=>∃(vR:PV) (cells:List PV) (b0:PV),e=PEnv.mk [1,2,3,4,5,6,7,44] [.ptr σ.next 0,.ptr (σ.next+1) 0,.int .i64 n,.ptr (σ.next+5) 0,.int .i64 i,vR,.int .i64 n,b0]/\Keep h4 h/\PSl h4.next 1 h vR (n-1-i) cells/\All2 FI cells (lgR p n W B i (n-1-i))) (λQ hQ=>?_) ?_;rotate_left
 .as_aux_lemma=>
  rintro e h9 ⟨vR,cells,b0,rfl,k9,p9,cI⟩
  have a9:=a3.keepI k9;obtain⟨t,cap,rfl,hf,q2,q3,q4,q5⟩:=p9;have f2:h9.rd1 (σ.next+5) 2=some vC:=by rw[zI a9.obj];rfl
  have uZ:¬σ.next+5=h9.next:=by have:=a9.p0b.2;omega
  have gA:∀f,f∈[(v1,cO++[.int .i64 p]),(v3,cP++[v2]),(vC,cC)]->f.1.one=true:=λf hf=>(a9.acc f hf).one;have ox:cells.length=n-1-i:=by omega
  have sh:=ST.more (q:=⟨t,cap,cells⟩) a9 ⟨by rw[ox];exact hf,q2,by have:=a3.keep.next;show T.next<=t;omega,q5⟩ ⟨by have:=a3.p0b.2;show t≠σ.next+5;omega,λf hf off l c e=>by
   have:=QU (a3.acc f hf) e
   have:t<h4.next:=this
   omega⟩
  simp only[Z3,seval,-ae,f2,uZ];refine ST.push sh (j:=2) (bytes:=24) rfl (by omega) (by omega) gA λv5 h5 z1 z2 z3 a5=>?_;simp only[List.set_cons_zero,List.set_cons_succ,List.map_cons,List.map_nil]at z3 a5;generalize h5.set (σ.next+5) [v1,v3,v5]=h6 at *
  simp only[Z3,seval,-ae,z1,z2,z3,wrapS aE (by omega:n<=4611686018427387904)];refine⟨_,by omega,i+1,v1,v3,v5,_,_,_,ls++[⟨t,cap,cells⟩],by omega,rfl,rfl,a5,?_,?_,?_,?_⟩
  .rw[sY,List.replicate_succ',<-zA2];rfl
  .unfold lgPs;rw[List.range_succ,List.map_append];exact rM.snoc pM
  .rw[iP,List.map_append];simp only[List.map_cons,List.map_nil,LS.pv];rw[ox]
  .unfold lgCs;rw[List.range_succ,List.map_append];exact fZ.snoc cI
 as_aux_lemma=>
 refine zG (λm us h=>∃(k:Nat) (vR:PV) (cells:List PV),i+(1+k)<=n/\m=n-(i+(1+k))/\us=[.ptr σ.next 0,.ptr (σ.next+1) 0,.int .i64 n,.ptr (σ.next+5) 0,.int .i64 i,vR,.int .i64 ((i+(1+k):Nat):Int)]/\Keep h4 h/\PSl h4.next 1 h vR k cells/\All2 FI cells (lgR p n W B i k)) (n-(i+1)) ⟨0,_,[],by omega,rfl,rfl,zC _ _,PSl.new _ 1 rfl (vM _),All2.nil _⟩ ?_
 rintro m us h7 ⟨k,vR,cells,Mt,rfl,rfl,k7,p7,cI⟩
 obtain⟨l3,l0,l1⟩:=ld (a3.keepI k7).keep;simp only[Z3,seval,-ae];refine iteI (λIP=>?_) λJg=>?_;rotate_left
 .have dJ:k=n-1-i:=by omega
  subst dJ;exact hQ _ _ ⟨vR,cells,_,by rw[show((i+(1+(n-1-i)):Nat):Int)=(n:Int) by omega],k7,p7,cI⟩
 have hj:i+(1+k)<n:=by omega
 have dq:=zV (n:=n) o.pr aE;have uD:=zV (n:=n) o.pr hj;simp only[Z3,seval,-ae,l3];refine ZI aJ eV (by omega) hj λb1=>?_;simp only[Z3,seval,-ae,l3];refine ZI aJ eV (by omega) aE λb2=>?_;simp only[Z3,seval,-ae,l3];refine zLZ z aJ uD dq ⟨true,b1,by rw[uD.1]⟩ ⟨true,b2,by rw[dq.1]⟩ λv6 pK=>?_;have rK:El p n (conj p n W B (unitL n (i+(1+k))) (unitL n i)):=zAX o q λy hy=>by
  simp only[List.mem_cons,List.not_mem_nil,or_false]at hy;rcases hy with rfl|rfl|rfl
  .exact zAl o dq
  .exact uD
  .exact dq
 simp only[Z3,seval,-ae,l3];refine zBU z aJ rK pK λv8 uy=>?_;have y1:=uy.one;have y2:=uy.cells;have di:k<=10:=by omega
 simp only[Z3,seval,-ae,y1,y2];refine PSl.push (bytes:=24) (σb:=h4) k7 p7 (by omega) (by omega) λv9 h8 k8 p8=>?_;have e5:IntKind.i64.wrap (((i+(1+k):Nat):Int)+1)=((i+(1+(k+1)):Nat):Int):=by rw[wrap64 (by omega) (by omega)];omega
 simp only[Z3,seval,-ae,e5];refine⟨_,by omega,k+1,v9,_,by omega,rfl,rfl,k8,p8,?_⟩;unfold lgR;rw[List.range_succ,List.map_append];exact cI.snoc uy
end Go.Proofs
set_option linter.unusedSectionVars false
namespace Go.Grp
section
variable{α:Type}[Inhabited α]{S:α->Prop}{m:α->α->α}{e:α}
theorem Gp.inv_one(G:Gp S m e):ginv S m e e=e:=(G.inv_eq G.one G.one (G.l1 G.one)).symm
end
open Go.Lie Go.Ab
end Go.Grp
namespace Go.Proofs
open Go.Ab Go.Lie Go.Grp
end Go.Proofs
namespace Go.Proofs
open Go.Ab Go.Lie
section
variable{h:PHeap}{K:PV->PHeap->Prop}
structure SU(T h:PHeap)(p0:Nat)(v0:PV)(fs:List (PV×List PV))(ls:List LS):Prop where
 keep:Keep T h
 obj:h.obj p0=some (v0::fs.map Prod.fst)
 p0b:T.next<=p0/\p0<h.next
 acc:∀f,f∈fs->PSl T.next 1 h f.1 f.2.length f.2
 ne:∀f,f∈fs->∀off l c,f.1≠.sl p0 off l c
 dis:∀(i j:Nat) f g,fs[i]? = some f->fs[j]? = some g->i≠j->∀s off l c,f.1=.sl s off l c->∀off l c,g.1≠.sl s off l c
 lok:∀q,q∈ls->q.ok h T.next
 lne:∀q,q∈ls->q.s≠p0/\∀f,f∈fs->∀off l c,f.1≠.sl q.s off l c
variable{T:PHeap}{p0:Nat}{v0:PV}{fs:List (PV×List PV)}{ls:List LS}
theorem SU.keepI{h2:PHeap}(a:SU T h p0 v0 fs ls)(k:Keep h h2):SU T h2 p0 v0 fs ls:=
 ⟨a.keep.trans k,by rw[k.obj _ a.p0b.2];exact a.obj,⟨a.p0b.1,Nat.lt_of_lt_of_le a.p0b.2 k.next⟩,λf hf=>(a.acc f hf).keep k,a.ne,a.dis,λq hq=>(a.lok q hq).move (k.obj _ (a.lok q hq).2.2.2) k.next,a.lne⟩
theorem SU.more{q:LS}(a:SU T h p0 v0 fs ls)(h1:q.ok h T.next)(h2:q.s≠p0/\∀f,f∈fs->∀off l c,f.1≠.sl q.s off l c):SU T h p0 v0 fs (ls++[q]):=
 ⟨a.keep,a.obj,a.p0b,a.acc,a.ne,a.dis,λq' hq=>(List.mem_append.1 hq).elim (a.lok q') λe=>by rw[List.mem_singleton.1 e];exact h1,λq' hq=>(List.mem_append.1 hq).elim (a.lne q') λe=>by rw[List.mem_singleton.1 e];exact h2⟩
theorem SU.push{K:PV×PHeap->Prop}{bytes j:Nat}{v x:PV}{cs:List PV}(a:SU T h p0 v0 fs ls)(hj:fs[j]? = some (v,cs))(hb:cs.length<=1000)(CR:bytes<=24)(aV:∀f,f∈fs->f.1.one=true)
    (k:∀v' h2,v'.one=true->v'.cells=[v']->h2.wr p0 (j+1) [v']=some (h2.set p0 (v0::(fs.set j (v',cs++[x])).map Prod.fst))->SU T (h2.set p0 (v0::(fs.set j (v',cs++[x])).map Prod.fst)) p0 v0 (fs.set j (v',cs++[x])) ls->K (v',h2)):
    optK (qU 1 bytes (h.new [x]) v (.sl h.next 0 1 (.known 1))) K:=by
  have hm:(v,cs)∈fs:=List.mem_of_getElem? hj;obtain⟨dK,iJ⟩:=List.getElem?_eq_some_iff.1 hj;have gd:(cs.length+1)*bytes<=1001*24:=Nat.mul_le_mul (by omega) CR;refine PAcc.pushS (σb:=T) (bytes:=bytes) a.keep (a.acc _ hm).acc rfl (by show(cs.length+1)*bytes<=_;omega) (by show cs.length+1<=_;omega) λv' h2 k2 a2 o2 n2 l2=>?_;have hp:=a.p0b;have eT:h2.obj p0=some (v0::fs.map Prod.fst):=by rw[o2 _ hp.2 (a.ne _ hm)];exact a.obj
  have bY:(fs.set j (v',cs++[x])).map Prod.fst=(fs.map Prod.fst).set j v':=by rw[List.map_set]
  have aM:∀f,f∈fs.set j (v',cs++[x])->f=(v',cs++[x])\/∃i,i≠j/\fs[i]? = some f:=λf hf=>by
    obtain⟨i,hi⟩:=List.getElem?_of_mem hf;rw[List.getElem?_set]at hi;split at hi
    . first
      |(cases hi;exact .inl rfl)
      | (split at hi
         .cases hi;exact .inl rfl
         .cases hi)
    .rename_i e;exact .inr ⟨i,λe2=>e e2.symm,hi⟩
  refine k v' h2 a2.one a2.cells ?_ ⟨k2.set hp.1 _,by rw[zH,if_pos rfl],⟨hp.1,by show p0<h2.next;omega⟩,λf hf=>?_,λf hf=>?_,λi1 i2 f g hf hg ar s off l c e=>?_,λq hq=>?_,λq hq=>⟨(a.lne q hq).1,λf hf=>?_⟩⟩
  . rw[qC eT,if_pos ⟨by simp only[List.length_cons,List.length_map,List.length_nil];omega,by simp only[List.all_cons,List.all_nil,a2.one];rfl⟩,bY]
    congr 2;rw[List.append_assoc,List.singleton_append,List.length_singleton,take_set _ (by rw[List.length_cons,List.length_map];exact Nat.succ_lt_succ dK),List.set_cons_succ]
  . rcases aM f hf with rfl|⟨i,hi,he⟩
    . have a3:PSl T.next 1 (h2.set p0 (v0::(fs.set j (v',cs++[x])).map Prod.fst)) v' (cs.length+1) (cs++[x]):=Qq a2 (λs off l c e=>by rw[zH,if_neg λe2=>n2 p0 hp.2 off l c (by rw[e,e2])]) (vM _)
      simpa using a3
    . have jJ:=List.mem_of_getElem? he
      refine Qq (a.acc f jJ) (λs off l c e=>?_) (Nat.le_of_lt l2);rw[zH,if_neg λe2=>a.ne f jJ off l c (by rw[e,e2]),o2 s (QU (a.acc f jJ) e) (a.dis i j f _ he hj hi s off l c e)]
  . rcases aM f hf with rfl|⟨i,hi,he⟩
    .exact n2 p0 hp.2
    .exact a.ne f (List.mem_of_getElem? he)
  . rw[List.getElem?_set]at hf hg
    by_cases e1:j=i1
    . rw[if_pos e1,if_pos dK]at hf
      cases hf;rw[if_neg λe2=>ar (e1.symm.trans e2)]at hg;have CC:=List.mem_of_getElem? hg;intro de l' c' e';exact n2 s (QU (a.acc g CC) e') off l c e
    . rw[if_neg e1]at hf
      have jJ:=List.mem_of_getElem? hf;by_cases e2:j=i2
      . rw[if_pos e2,if_pos dK]at hg
        cases hg;exact n2 s (QU (a.acc f jJ) e)
      . rw[if_neg e2]at hg
        exact a.dis i1 i2 f g hf hg ar s off l c e
  . have bm:=a.lok q hq
    refine bm.move ?_ (Nat.le_of_lt l2);rw[zH,if_neg (a.lne q hq).1,o2 _ bm.2.2.2 ((a.lne q hq).2 _ hm)]
  . rcases aM f hf with rfl|⟨i,hi,he⟩
    .exact n2 _ (a.lok q hq).2.2.2
    .exact(a.lne q hq).2 f (List.mem_of_getElem? he)
end
end Go.Proofs
namespace Go.Grp
open Go.Lie Go.Ab
end Go.Grp
namespace Go.Proofs
open Go.Ab Go.Lie Go.Grp
end Go.Proofs
namespace Go.Proofs
open Go.Ab Go.Lie
variable{σ σ0 σ1:PHeap}{K:PV->PHeap->Prop}{vC:PV}{bs:V1}{s:Nat}{a sd:Int}
def FB(v:PV)(bs:V1):Prop:=∃w a,v=.fz w a bs.length (bs.map (.int .u8))
structure Byt(bs:V1):Prop where
 len:bs.length<=1048576
 bd:∀b∈bs,0<=b/\b<=255
abbrev srcC(vC:PV)(a:Nat)(sd:Int):List PV:=[vC,.int .i64 (a:Int),.int .i64 sd]
structure Src(σ:PHeap)(s:Nat)(vC:PV)(bs:V1)(a:Nat)(sd:Int):Prop where
 obj:σ.obj s=some (srcC vC a sd)
 lt:s<σ.next
 fb:FB vC bs
 byt:Byt bs
 le:a<=bs.length
 sd:0<=sd/\sd<2147483647
theorem FB.one{v:PV}(h:FB v bs):v.one=true:=by obtain⟨w,a,rfl⟩:=h;rfl
theorem FB.cells{v:PV}(h:FB v bs):v.cells=[v]:=by obtain⟨w,a,rfl⟩:=h;rfl
theorem FB.bel{v:PV}(h:FB v bs)(n:Nat):Bel n v:=by obtain⟨w,a,rfl⟩:=h;trivial
theorem FB.bels{v:PV}(h:FB v bs)(n a:Nat)(sd:Int):Bels n (srcC v a sd):=⟨h.bel n,trivial,trivial,trivial⟩
theorem Gh.setS{v:PV}{s:Nat}{c0 c1:List PV}(h0:σ0.obj s=some c0)(hb:Bels 0 c1)(k:Gh (σ0.set s c1) K v σ1):Gh σ0 K v σ1:=λw ι Z h b r hv h1 h2 h3 h4=>by
 have hs:s<σ0.next:=w.lt h0;have w':PWF (σ0.set s c1):=by
  refine⟨λt ht=>?_,λt cs ht=>?_⟩
  .have db:σ0.next<=t:=ht;rw[zH,if_neg (by omega)];exact w.wf t db
  .rw[zH]at ht;split at ht
   .cases ht;exact Bels.up (Nat.zero_le _) hb
   .exact w.bel t cs ht
 obtain⟨v2,σ2,ι2,Z2,g1,g2,g3,g4,g5,g6,g7,g8,g9⟩:=k w' ι Z h b r hv h1 h2 h3 (λt ht hn=>by
  rw[zH]at hn;split at hn
  .cases hn
  .exact h4 t ht hn)
 refine⟨v2,σ2,ι2,Z2,g1,g2,g3,g4,g5,g6,λt ht hn=>g7 t ht ?_,g8,g9⟩;rw[zH,if_neg (by rintro rfl;rw[h0]at hn;cases hn)];exact hn
theorem Src.set{σ:PHeap}{a a':Nat}{sd sd':Int}(h:Src σ s vC bs a sd)(ha:a'<=bs.length)(hs:0<=sd'/\sd'<2147483647):Src (σ.set s (srcC vC a' sd')) s vC bs a' sd':=
 ⟨by rw[zH,if_pos rfl],h.lt,h.fb,h.byt,ha,hs⟩
theorem Src.keep{σ σ':PHeap}{a:Nat}{sd:Int}(h:Src σ s vC bs a sd)(k:Keep σ σ'):Src σ' s vC bs a sd:=
 ⟨by rw[k.obj s h.lt];exact h.obj,Nat.lt_of_lt_of_le h.lt k.next,h.fb,h.byt,h.le,h.sd⟩
theorem Src.q{σ:PHeap}{a:Nat}{sd:Int}(h:Src σ s vC bs a sd):σ.rd1 s 0=some vC/\σ.rd1 s 1=some (.int .i64 a)/\σ.rd1 s 2=some (.int .i64 sd):=by
 refine⟨?_,?_,?_⟩<;>(rw[zI h.obj];rfl)
theorem Src.w1{σ:PHeap}{a:Nat}{sd x:Int}(h:Src σ s vC bs a sd):σ.wr s 1 [.int .i64 x]=some (σ.set s [vC,.int .i64 x,.int .i64 sd]):=by
 rw[qC h.obj,if_pos ⟨by simp,rfl⟩];rfl
theorem Src.w2{σ:PHeap}{a:Nat}{sd x:Int}(h:Src σ s vC bs a sd):σ.wr s 2 [.int .i64 x]=some (σ.set s (srcC vC a x)):=by
 rw[qC h.obj,if_pos ⟨by simp,rfl⟩];rfl
theorem zMD(σ:PHeap)(s:Nat)(x y:List PV):(σ.set s x).set s y=σ.set s y:=by
 simp only[PHeap.set];congr 1;funext t;split<;>rfl
theorem zME(σ:PHeap)(x y:List PV):(σ.new x).set σ.next y=σ.new y:=by
 simp only[PHeap.new,PHeap.set];congr 1;funext t;split<;>rfl
theorem zNk{j:Nat}(hB:Byt bs)(hj:j<bs.length):(bs.map (PV.int .u8))[j]? = some (.int .u8 (bs.getD j 0))/\0<=bs.getD j 0/\bs.getD j 0<=255:=by
 have e:bs.getD j 0=bs[j]:=by simp[List.getD_eq_getElem?_getD,List.getElem?_eq_getElem hj]
 rw[e];exact⟨by rw[List.getElem?_map,List.getElem?_eq_getElem hj];rfl,hB.bd _ (List.getElem_mem hj)⟩
def Nx(n x:Int):Prop:=0<=x/\(n<=1->x=0)/\(1<n->x<n)
theorem Nx.lt{n x:Int}(h:Nx n x)(hn:1<=n):x<n:=by
 obtain⟨h0,h1,h2⟩:=h;rcases Int.lt_or_le 1 n with g|g
 .exact h2 g
 .have:=h1 g;omega
theorem zM0{n x:Int}(hn:1<n)(hx:0<=x):Nx n (x.tmod n):=by
 rw[Int.tmod_eq_emod_of_nonneg hx];have h1:=Int.emod_nonneg x (show n≠0 by omega);have h2:=Int.emod_lt_of_pos x (show 0<n by omega);exact⟨h1,λh=>by omega,λ_=>h2⟩
theorem zLi(hb:FB vC bs)(hB:Byt bs)(hk:∀sd,0<=sd/\sd<2147483647->K (.ptr σ.next 0) (σ.new (srcC vC 0 sd))):zA Tryz.prog 110 [vC] σ K:=by
 obtain⟨w,av,rfl⟩:=hb;have hl:=hB.len;refine zN mix Tryz.func110 cf110 rfl ?_;dsimp only[if110,qI,eI,qD,mI0,kI0,bI0,cI0,sI0,mD0,lD0,fD0,xD0,pD0,I0,G0,gm0,aI0,wD0,R0,S0];simp only[Z3,seval,-ae];generalize hC:(PV.fz w av bs.length (bs.map (.int .u8)))=vC at *
 refine zG (λm vs h'=>∃(i:Nat) (sd:Int),i<=bs.length/\m=bs.length-i/\vs=[vC,.ptr σ.next 0,.int .i64 i]/\σ.new (srcC vC 0 sd)=h'/\0<=sd/\sd<2147483647) bs.length ?_ ?_
 .exact⟨0,76001,by omega,by omega,rfl,rfl,by omega,by omega⟩
 rintro m vs h' ⟨i,sd,hi,rfl,rfl,rfl,h0,h1⟩
 have hlen:pLen vC=some (.int .i64 bs.length):=by rw[<-hC];rfl
 have bB:IntKind.i64.wrap ((i:Int)+1)=((i+1:Nat):Int):=by rw[wrap64 (by omega) (by omega)];omega
 have out:K (.ptr σ.next 0) (σ.new (srcC vC 0 sd)):=hk sd ⟨h0,h1⟩;simp only[Z3,seval,-ae,hlen];by_cases ah:i<bs.length;rotate_left
 .simp only[Z3,seval,-ae,ah,decide_false];exact out
 obtain⟨b1,b2,b3⟩:=zNk hB ah;by_cases MU:i<64;rotate_left
 .have rW:¬(i:Int)<64:=by omega
  simp only[Z3,seval,-ae,ah,rW,decide_true,decide_false];exact out
 have rW:(i:Int)<64:=by omega
 generalize bs.getD i 0=b at b1 b2 b3;have e1:IntKind.i64.wrap (sd*71)=sd*71:=wrap64 (by omega) (by omega);have e2:IntKind.i64.wrap b=b:=wrap64 (by omega) (by omega);have e3:IntKind.i64.wrap (sd*71+b)=sd*71+b:=wrap64 (by omega) (by omega);have e4:(sd*71+b).tmod 2147483647=(sd*71+b) % 2147483647:=Int.tmod_eq_emod_of_nonneg (by omega);subst hC;simp only[Z3,seval,-ae,ah,rW,decide_true,b1,e1,e2,e3,e4,bB];exact⟨_,by omega,i+1,_,by omega,rfl,rfl,rfl,by omega,by omega⟩
theorem zLh{a:Nat}{sd n:Int}(S:Src σ s vC bs a sd)(hn:n<=4611686018427387904)(hk:∀x a' sd',Nx n x->a'<=bs.length->0<=sd'/\sd'<2147483647->K (.int .i64 x) (σ.set s (srcC vC a' sd'))):zA Tryz.prog 113 [.ptr s 0,.int .i64 n] σ K:=by
 have hl:=S.byt.len;have uJ:=S.sd;have ha:=S.le;obtain⟨w,av,rfl⟩:=S.fb;obtain⟨q0,q1,q2⟩:=S.q;have e1:IntKind.i64.wrap (sd*48271)=sd*48271:=wrap64 (by omega) (by omega);have e2:IntKind.i64.wrap (sd*48271+71)=sd*48271+71:=wrap64 (by omega) (by omega);have e4:(sd*48271+71).tmod 2147483647=(sd*48271+71) % 2147483647:=Int.tmod_eq_emod_of_nonneg (by omega);refine zN mix Tryz.func113 cf113 rfl ?_;dsimp only[if113,qD,mI0,kI0,lI0,fI0,bI0,cI0,pI0,mD0,lD0,fD0,xD0,pD0,I0,G0,gm0,aI0,vI0,R0,S0];simp only[Z3,seval,-ae,q2,e1,e2,e4,S.w2];refine iteI (λah=>?_) λaG=>?_
 .have:=hk 0 a sd ⟨Int.le_refl _,λ_=>rfl,λh=>by omega⟩ ha uJ
  rw[zAP S.obj]at this;exact this
 have mV:0<=(sd*48271+71) % 2147483647/\(sd*48271+71) % 2147483647<2147483647:=by omega
 generalize (sd*48271+71) % 2147483647=mf at *
 have S1:=S.set (sd':=mf) ha mV;obtain⟨p0,p1,p2⟩:=S1.q;obtain⟨x0,e5,fV⟩:∃x0,IntKind.i64.wrap (mf.tdiv 47)=x0/\0<=x0/\x0<=2147483647:=by
  have d1:mf.tdiv 47=mf / 47:=Int.tdiv_eq_ediv_of_nonneg (by omega);exact⟨mf / 47,by rw[d1];exact wrap64 (by omega) (by omega),by omega,by omega⟩
 have oh:n≠0:=by omega
 generalize dF:σ.set s (srcC (PV.fz w av bs.length (bs.map (.int .u8))) a mf)=σ1 at *
 have hT:∀(a':Nat) (sd':Int),σ1.set s (srcC (PV.fz w av bs.length (bs.map (.int .u8))) a' sd')=σ.set s (srcC (PV.fz w av bs.length (bs.map (.int .u8))) a' sd'):=λa' sd'=>by rw[<-dF];exact zMD _ _ _ _
 simp only[Z3,seval,-ae,p0,p1,p2,e5];by_cases aE:a<bs.length;rotate_left
 .simp only[Z3,seval,-ae,aE,decide_false]
  have:=hk _ a mf (zM0 (by omega) fV.1) ha mV
  rw[dF]at this;simp only[Z3,seval,-ae,oh,e5];exact this
 obtain⟨b1,b2,b3⟩:=zNk S.byt aE;generalize bs.getD a 0=b at b1 b2 b3;have e6:IntKind.i64.wrap b=b:=wrap64 (by omega) (by omega);have e7:IntKind.i64.wrap (x0+b)=x0+b:=wrap64 (by omega) (by omega);have bB:IntKind.i64.wrap ((a:Int)+1)=((a+1:Nat):Int):=by rw[wrap64 (by omega) (by omega)];omega
 simp only[Z3,seval,-ae,aE,decide_true,p0,p1,b1,e5,e6,e7,S1.w1,bB];have Sb:=S1.set (a':=a+1) (sd':=mf) (by omega) mV;obtain⟨r0,r1,r2⟩:=Sb.q;generalize fA:σ1.set s (srcC (PV.fz w av bs.length (bs.map (.int .u8))) (a+1) mf)=σ2 at *
 have tm:((a+1:Nat):Int).tmod 2=((a+1:Nat):Int) % 2:=Int.tmod_eq_emod_of_nonneg (by omega);have y6:IntKind.i64.wrap (((a+1:Nat):Int)-1)=(a:Int):=by rw[wrap64 (by omega) (by omega)];omega
 have fin:∀x:Int,0<=x->K (.int .i64 (x.tmod n)) σ2:=λx hx=>by
  have:=hk _ (a+1) mf (zM0 (by omega) hx) (by omega) mV
  rw[<-fA,hT];exact this
 by_cases kJ:n<=256;rotate_left
 .simp only[Z3,seval,-ae,kJ,decide_false,oh,e5,e6,e7];exact fin _ (by omega)
 by_cases sW:((a+1:Nat):Int) % 2=0;rotate_left
 .simp only[Z3,seval,-ae,kJ,decide_true,r1,tm,sW,decide_false,oh,e5,e6,e7];exact fin _ (by omega)
 simp only[Z3,seval,-ae,kJ,decide_true,r0,r1,tm,sW,y6,aE,b1,oh,e5,e6,e7];exact fin _ (by omega)
end Go.Proofs
namespace Go.Proofs
open Go.Ab Go.Lie
variable{σ h h':PHeap}{K:PV->PHeap->Prop}{vC:PV}{bs:V1}{s:Nat}
def So(σ:PHeap)(s:Nat)(vC:PV)(bs:V1):Prop:=∃a sd,Src σ s vC bs a sd
def Mv(σ:PHeap)(s:Nat)(σ':PHeap):Prop:=∃c0 c1,σ.obj s=some c0/\Bels 0 c1/\σ'=σ.set s c1
def KM(σ:PHeap)(s:Nat)(h:PHeap):Prop:=∃σ',Mv σ s σ'/\Keep σ' h
theorem Mv.next(m:Mv σ s h):h.next=σ.next:=by obtain⟨_,_,_,_,rfl⟩:=m;rfl
theorem Mv.obj(m:Mv σ s h){t:Nat}(ht:t≠s):h.obj t=σ.obj t:=by obtain⟨_,_,_,_,rfl⟩:=m;rw[zH,if_neg ht]
theorem So.lt(k:So σ s vC bs):s<σ.next:=by obtain⟨_,_,k⟩:=k;exact k.lt
theorem So.mv(k:So σ s vC bs){a:Nat}{sd:Int}(ha:a<=bs.length)(hs:0<=sd/\sd<2147483647):Mv σ s (σ.set s (srcC vC a sd))/\So (σ.set s (srcC vC a sd)) s vC bs:=by
 obtain⟨a0,nJ,k⟩:=k;exact⟨⟨_,_,k.obj,k.fb.bels _ _ _,rfl⟩,a,sd,k.set ha hs⟩
theorem So.mv0(k:So σ s vC bs):Mv σ s σ:=by
 obtain⟨a0,nJ,k⟩:=k;exact⟨_,_,k.obj,k.fb.bels _ _ _,(zAP k.obj).symm⟩
theorem So.keep(k:So σ s vC bs)(hk:Keep σ h):So h s vC bs:=by
 obtain⟨a0,nJ,k⟩:=k;exact⟨_,_,k.keep hk⟩
theorem So.set(k:So σ s vC bs){t:Nat}(ht:s≠t)(cs:List PV):So (σ.set t cs) s vC bs:=by
 obtain⟨a0,nJ,k⟩:=k;exact⟨a0,nJ,by rw[zH,if_neg ht];exact k.obj,k.lt,k.fb,k.byt,k.le,k.sd⟩
theorem KM.keep(k:KM σ s h)(hk:Keep h h'):KM σ s h':=by
 obtain⟨σ',m,q⟩:=k;exact⟨σ',m,q.trans hk⟩
theorem KM.next(k:KM σ s h):σ.next<=h.next:=by
 obtain⟨σ',m,q⟩:=k;rw[<-m.next];exact q.next
theorem KM.obj(k:KM σ s h){t:Nat}(ht:t<σ.next)(hn:t≠s):h.obj t=σ.obj t:=by
 obtain⟨σ',m,q⟩:=k;rw[q.obj t (by rw[m.next];exact ht),m.obj hn]
theorem So.km(k:So σ s vC bs):KM σ s σ:=⟨σ,k.mv0,Keep.refl _⟩
theorem So.kmK(k:So σ s vC bs)(hk:Keep σ h):KM σ s h:=⟨σ,k.mv0,hk⟩
theorem KM.new(k:KM σ s h)(cs:List PV):KM σ s (h.new cs):=k.keep (zC h cs)
theorem KM.set(k:KM σ s h){t:Nat}(ht:σ.next<=t)(cs:List PV):KM σ s (h.set t cs):=by
 obtain⟨σ',m,q⟩:=k;exact⟨σ',m,q.set (by rw[m.next];exact ht) cs⟩
theorem KM.mv(k:KM σ s h)(hs:s<σ.next)(m':Mv h s h'):KM σ s h':=by
 obtain⟨σ',⟨c0,c1,h0,h1,rfl⟩,q⟩:=k;obtain⟨d0,d1,g0,g1,rfl⟩:=m';refine⟨σ.set s d1,⟨c0,d1,h0,g1,rfl⟩,q.next,q.top,λt ht=>?_⟩;rw[zH,zH];split
 .rfl
 .rename_i e;rw[q.obj t ht,zH,if_neg e]
theorem KM.trans(k:KM σ s h)(hs:s<σ.next)(k':KM h s h'):KM σ s h':=by
 obtain⟨σ',m,q⟩:=k';exact(k.mv hs m).keep q
theorem Gh.km{v:PV}(k:KM σ s h)(so:So h s vC bs)(hs:s<σ.next)(c:∀σ',Mv σ s σ'->So σ' s vC bs->Keep σ' h->Gh σ' K v h):Gh σ K v h:=by
 obtain⟨σ',m,q⟩:=k;obtain⟨c0,c1,h0,h1,e⟩:=m;obtain⟨a,sd,S⟩:=so;have cu:s<σ'.next:=by rw[e];exact hs
 have cU:So σ' s vC bs:=⟨a,sd,by rw[<-q.obj s cu];exact S.obj,cu,S.fb,S.byt,S.le,S.sd⟩
 have:=c σ' ⟨c0,c1,h0,h1,e⟩ cU q
 rw[e]at this;exact Gh.setS h0 h1 this
theorem zw{n:Int}(so:So σ s vC bs)(hn:n<=4611686018427387904)(hk:∀x h,Nx n x->Mv σ s h->So h s vC bs->K (.int .i64 x) h):zA Tryz.prog 113 [.ptr s 0,.int .i64 n] σ K:=by
 obtain⟨a,sd,S⟩:=so;refine zLh S hn λx a' sd' hx ha hs=>?_;obtain⟨m1,m2⟩:=So.mv ⟨a,sd,S⟩ ha hs;exact hk x _ hx m1 m2
theorem zFX{p:Int}{n:Nat}{vP vB:PV}(g1:vP.one=true)(g2:vB.one=true)(gl:pLen vP=some (.int .i64 n))(hn:n<=1048576)(hk:∀cap,full 1 cap n->K (.sl σ.next 0 n cap) (σ.new (pis (List.replicate n 0)))):zA Tryz.prog 177 [.agg [.int .i64 p,vP,vB]] σ K:=by
 refine zA.gh ?_;refine zD mix Tryz.func177 ?_
 conv=>arg 2;cbv
 refine zF rfl ?_;simp only[Z3,seval,-ae,g1,g2,gl,qA,mk8 (n:=n) (by omega),mkL (n:=n) (by omega)];exact Gh.finS (s:=σ.next+1) ((zC σ _).new _) (by simp only[Z3,seval,-ae]) (by omega) (zL _ _) (hk _ (.inr rfl))
theorem Qe{p:Int}{n k:Nat}{vP vB:PV}(g1:vP.one=true)(g2:vB.one=true)(gl:pLen vP=some (.int .i64 n))(hn:n<=1048576)(bF:k<n)(hk:∀v,FI v (unitL n k)->K v σ):zA Tryz.prog 179 [.agg [.int .i64 p,vP,vB],.int .i64 k] σ K:=by
 refine zA.gh ?_;refine zD mix Tryz.func179 ?_
 conv=>arg 2;cbv
 refine zF rfl ?_;simp only[Z3,seval,-ae,g1,g2];refine zFX g1 g2 gl hn λcap hc=>?_;simp only[Z3,seval,-ae,bF,zJ,List.length_replicate,Nat.succ_le_of_lt bF];rw[zX (by simpa using bF)];exact Gh.finF (s:=σ.next+1) ((zC σ _).new _) (by simp only[Z3,seval,-ae];rfl) (by omega) (zL _ _) hc.ok λ_=>hk _ ⟨_,_,by rw[qH];rfl⟩
theorem zIB{n:Nat}(so:So σ s vC bs)(hn:n<=6)(hk:∀p h,isP p->ipow p n<=729->Mv σ s h->So h s vC bs->K (.int .i64 p) h):zA Tryz.prog 326 [.ptr s 0,.int .i64 n] σ K:=by
 have ah:=so.lt;refine zA.gh ?_;refine zD mix Tryz.func326 ?_
 conv=>arg 2;cbv
 refine zF rfl ?_;simp only[Z3,seval,-ae];refine zw (so.keep (zC _ _)) (by decide) λx h1 hx m1 dP=>?_;have aW:=hx.lt (by decide);have fV:=hx.1;have ob:h1.obj σ.next=some (pis [2,3,3,5,7,2]):=by rw[m1.obj (by omega)];simp only[Z3,seval,-ae];rfl
 obtain⟨k,rfl⟩:∃k:Nat,x=k:=⟨x.toNat,by omega⟩
 have IZ:k<6:=by omega
 obtain⟨p0,gU,hr⟩:∃p0,isP p0/\h1.rd1 σ.next k=some (.int .i64 p0):=by
  have e:k=0\/k=1\/k=2\/k=3\/k=4\/k=5:=by omega
  rcases e with rfl|rfl|rfl|rfl|rfl|rfl
  .exact⟨2,.inl rfl,by rw[zI ob];rfl⟩
  .exact⟨3,.inr (.inl rfl),by rw[zI ob];rfl⟩
  .exact⟨3,.inr (.inl rfl),by rw[zI ob];rfl⟩
  .exact⟨5,.inr (.inr (.inl rfl)),by rw[zI ob];rfl⟩
  .exact⟨7,.inr (.inr (.inr rfl)),by rw[zI ob];rfl⟩
  .exact⟨2,.inl rfl,by rw[zI ob];rfl⟩
 simp only[Z3,seval,-ae,hr,IZ];have uY:n=0\/n=1\/n=2\/n=3\/n=4\/n=5\/n=6:=by omega
 have big:∀q:Int,isP q->¬ipow q n<=729->q=5\/q=7:=λq hq hb=>by
  rcases hq with rfl|rfl|rfl|rfl
  .exact absurd (by rcases uY with rfl|rfl|rfl|rfl|rfl|rfl|rfl<;>decide) hb
  .exact absurd (by rcases uY with rfl|rfl|rfl|rfl|rfl|rfl|rfl<;>decide) hb
  .exact .inl rfl
  .exact .inr rfl
 refine zG (λm vs h=>∃q:Int,isP q/\m=q.toNat/\vs=[.int .i64 n,.int .i64 q]/\KM σ s h/\So h s vC bs) p0.toNat ?_ ?_
 .exact⟨p0,gU,rfl,rfl,(so.km.new _).mv ah m1,dP⟩
 rintro m vs h2 ⟨q,hq,rfl,rfl,km,dy⟩
 simp only[Z3,seval,-ae];refine zCd (p:=q) (n:=n) (by rcases hq with rfl|rfl|rfl|rfl<;>decide) hn λk k1 k2 k3 k4=>?_;by_cases fY:k<=729
 .have nq:¬k > 729:=by omega
  simp only[Z3,seval,-ae,nq,decide_false];exact Gh.km km dy ah λσ' m' cU kp=>Gh.fin0 kp trivial (hk q σ' hq (k1.1 fY) m' cU)
 .have nq:k > 729:=by omega
  rcases big q hq (λe=>fY (k1.2 e))with rfl|rfl
  .simp only[Z3,seval,-ae,nq,decide_true,show((5:Int)<((8:Nat):Int)) by decide];exact⟨_,by decide,3,.inr (.inl rfl),rfl,rfl,km.new _,dy.keep (zC _ _)⟩
  .simp only[Z3,seval,-ae,nq,decide_true,show((7:Int)<((8:Nat):Int)) by decide];exact⟨_,by decide,5,.inr (.inr (.inl rfl)),rfl,rfl,km.new _,dy.keep (zC _ _)⟩
structure TailI(σ h:PHeap)(s:Nat)(vC:PV)(bs:V1)(p:Int)(n k:Nat)(vP vB:PV)(x:V1):Prop where
 km:KM σ s h
 so:So h s vC bs
 o1:h.obj σ.next=some [.int .i64 p,vP,vB]
 o2:h.obj (σ.next+1)=some (pis x)
 lt:σ.next+1<h.next
 el:El p n x
 z:∀j,j<k->at_ x j=0
theorem zFY{n k:Nat}{p:Int}{vP vB:PV}(so:So σ s vC bs)(hp:2<=p/\p<=7)(g1:vP.one=true)(g2:vB.one=true)(gl:pLen vP=some (.int .i64 n))(hn:n<=1048576)(bF:k<=n)
  (hk:∀x h cap,El p n x->(∀j,j<k->at_ x j=0)->full 1 cap n->Mv σ s h->So h s vC bs->K (.sl σ.next 0 n cap) (h.new (pis x))):zA Tryz.prog 305 [.ptr s 0,.agg [.int .i64 p,vP,vB],.int .i64 k] σ K:=by
 have ah:=so.lt;refine zA.gh ?_;refine zD mix Tryz.func305 ?_
 conv=>arg 2;cbv
 refine zF rfl ?_;simp only[Z3,seval,-ae,g1,g2];refine zFX g1 g2 gl hn λcap hc=>?_;simp only[Z3,seval,-ae];generalize hH:(σ.new [.int .i64 p,vP,vB])=H;have EU:Keep σ H:=by rw[<-hH];exact zC _ _
 have gZ:H.next=σ.next+1:=by rw[<-hH];rfl
 have Hu:H.obj σ.next=some [.int .i64 p,vP,vB]:=by rw[<-hH];simp only[Z3,seval,-ae]
 refine zG (λm vs h=>∃(i:Nat) (x:V1),k<=i/\i<=n/\m=n-i/\vs=[.ptr s 0,.ptr σ.next 0,.sl (σ.next+1) 0 n cap,.int .i64 i]/\TailI σ h s vC bs p n k vP vB x) (n-k) ?_ ?_
 .refine⟨k,List.replicate n 0,vM _,bF,rfl,rfl,⟨(so.kmK EU).new _,(so.keep EU).keep (zC _ _),by rw[zP,if_neg (by omega)];exact Hu,by rw[zP,if_pos gZ.symm],by show _<H.next+1;omega,⟨by simp,λy hy=>by rw[List.eq_of_mem_replicate hy];omega⟩,λj _=>zn _ _⟩⟩
 rintro m vs h ⟨i,x,Mq,cA,rfl,rfl,⟨km,dy,o1,o2,jq,hx,hz⟩⟩
 have aW:=hx.1;simp only[Z3,seval,-ae];refine iteI (λI8=>?_) λJa=>?_;rotate_left
 .have e:i=n:=by omega
  refine Gh.km km dy ah λσ' m' cU kp=>?_;have dk:=m'.next;rw[<-dk];refine Gh.finS (s:=σ'.next+1) kp (by rw[dk];exact o2) (by omega) (zL _ _) ?_
  have:=hk x σ' cap hx hz hc m' cU
  rw[dk];exact this
 have r0:h.rd1 σ.next 0=some (.int .i64 p):=by rw[zI o1];rfl
 simp only[Z3,seval,-ae,r0];refine zw dy (by omega) λy h3 hy m3 dO=>?_;have dz:=hy.lt (by omega);have sF:=hy.1;have vu:i<n:=by omega
 have o3:h3.obj (σ.next+1)=some (pis x):=by rw[m3.obj (by omega)];exact o2
 have w3:h3.wr (σ.next+1) i [.int .i64 y]=some (h3.set (σ.next+1) (pis (x.set i y))):=by
  rw[qC o3,if_pos ⟨by rw[zJ,aW];simp;omega,rfl⟩];congr 2;exact zX (by omega)
 have wi:IntKind.i64.wrap ((i:Int)+1)=((i+1:Nat):Int):=by rw[wrap64 (by omega) (by omega)];omega
 simp only[Z3,seval,-ae,vu,w3,wi];refine⟨_,?_,i+1,x.set i y,by omega,by omega,rfl,rfl,⟨(km.mv ah m3).set (by omega) _,dO.set (by omega) _,by rw[zH,if_neg (by omega),m3.obj (by omega)];exact o1,by rw[zH,if_pos rfl],by show _<h3.next;rw[m3.next];exact jq,⟨by rw[List.length_set];exact aW,λz eS=>?_⟩,λj hj=>?_⟩⟩
 .omega
 .rcases List.mem_or_eq_of_mem_set eS with e|e
  .exact hx.2 z e
  .omega
 .rw[at_set (by omega),if_neg (by omega)];exact hz j hj
theorem zf{n k:Nat}{p:Int}{vP vB:PV}(so:So σ s vC bs)(hp:2<=p/\p<=7)(g1:vP.one=true)(g2:vB.one=true)(gl:pLen vP=some (.int .i64 n))(hn:n<=1048576)(bF:k<=n)
  (hk:∀v x h,El p n x->(∀j,j<k->at_ x j=0)->FI v x->Mv σ s h->So h s vC bs->K v h):zA Tryz.prog 305 [.ptr s 0,.agg [.int .i64 p,vP,vB],.int .i64 k] σ K:=by
 refine zA.gh (zFY so hp g1 g2 gl hn bF λx h cap hx hz hc m dy=>?_);refine Gh.km (so.km.mv so.lt m |>.new _) (dy.keep (zC _ _)) so.lt λσ' m' cU kp=>?_;have aW:=hx.1;subst aW;exact Gh.finF (s:=σ.next) kp (by rw[zP,if_pos m.next.symm]) (by rw[m'.next];exact vM _) (zL _ _) hc.ok λo=>hk _ x σ' hx hz ⟨_,_,rfl⟩ m' cU
end Go.Proofs
namespace Go.Proofs
open Go.Ab Go.Lie
variable{σ h h':PHeap}{K:PV->PHeap->Prop}{s b n:Nat}{p:Int}{RP R:PV->V1->Prop}{sP sB:Nat}{capP ai:Cap}{cs:List PV}{ls:List LS}{W:V2}{B:V3}
def RowsG(R:PV->V1->Prop)(ls:List LS)(B:V3):Prop:=All2 (λ(q:LS) (M:V2)=>All2 R q.cs M) ls B
structure RS(RP R:PV->V1->Prop)(b:Nat)(h:PHeap)(n sP:Nat)(capP:Cap)(cs:List PV)(sB:Nat)(ai:Cap)(ls:List LS)(W:V2)(B:V3):Prop where
 P:full 1 capP n/\h.obj sP=some cs/\b<=sP/\sP<h.next
 Q:full 1 ai n/\h.obj sB=some (ls.map LS.pv)/\b<=sB/\sB<h.next
 ne:sP≠sB
 lok:∀q∈ls,q.ok h b
 lne:∀q∈ls,q.s≠sP/\q.s≠sB
 nd:(ls.map LS.s).Nodup
 aP:All2 RP cs W
 aB:RowsG R ls B
 lW:W.length=n
 lB:B.length=n
theorem RS.move(a:RS RP R b h n sP capP cs sB ai ls W B)(ho:∀t,(t=sP\/t=sB\/∃q∈ls,q.s=t)->h'.obj t=h.obj t)(hn:h.next<=h'.next):RS RP R b h' n sP capP cs sB ai ls W B:=by
 obtain⟨p1,p2,p3,p4⟩:=a.P;obtain⟨q1,q2,q3,q4⟩:=a.Q;exact⟨⟨p1,by rw[ho _ (.inl rfl)];exact p2,p3,by omega⟩,⟨q1,by rw[ho _ (.inr (.inl rfl))];exact q2,q3,by omega⟩,a.ne,λq hq=>(a.lok q hq).move (ho _ (.inr (.inr ⟨q,hq,rfl⟩))) hn,a.lne,a.nd,a.aP,a.aB,a.lW,a.lB⟩
theorem RS.lt(a:RS RP R b h n sP capP cs sB ai ls W B){t:Nat}(ht:t=sP\/t=sB\/∃q∈ls,q.s=t):b<=t/\t<h.next:=by
 rcases ht with rfl|rfl|⟨q,hq,rfl⟩
 .exact a.P.2.2
 .exact a.Q.2.2
 .exact(a.lok q hq).2.2
theorem RS.keep(a:RS RP R b h n sP capP cs sB ai ls W B)(k:Keep h h'):RS RP R b h' n sP capP cs sB ai ls W B:=a.move (λt ht=>k.obj t (a.lt ht).2) k.next
theorem RS.new(a:RS RP R b h n sP capP cs sB ai ls W B)(xs:List PV):RS RP R b (h.new xs) n sP capP cs sB ai ls W B:=a.keep (zC h xs)
theorem RS.mv(a:RS RP R b h n sP capP cs sB ai ls W B)(hs:s<b)(m:Mv h s h'):RS RP R b h' n sP capP cs sB ai ls W B:=a.move (λt ht=>m.obj (by have:=(a.lt ht).1;omega)) (by rw[m.next];exact vM _)
theorem RS.low{b':Nat}(a:RS RP R b h n sP capP cs sB ai ls W B)(hb:b'<=b):RS RP R b' h n sP capP cs sB ai ls W B:=
 ⟨⟨a.P.1,a.P.2.1,by have:=a.P.2.2.1;omega,a.P.2.2.2⟩,⟨a.Q.1,a.Q.2.1,by have:=a.Q.2.2.1;omega,a.Q.2.2.2⟩,a.ne,λq hq=>⟨(a.lok q hq).1,(a.lok q hq).2.1,by have:=(a.lok q hq).2.2.1;omega,(a.lok q hq).2.2.2⟩,a.lne,a.nd,a.aP,a.aB,a.lW,a.lB⟩
theorem RS.csl(a:RS RP R b h n sP capP cs sB ai ls W B):cs.length=n:=a.aP.1.trans a.lW
theorem RS.lsl(a:RS RP R b h n sP capP cs sB ai ls W B):ls.length=n:=a.aB.1.trans a.lB
theorem RS.rdB(a:RS RP R b h n sP capP cs sB ai ls W B){i:Nat}(hi:i<n):∃q,ls[i]? = some q/\h.rd1 sB i=some q.pv/\q.cs.length=(B.getD i []).length:=by
 have hl:=a.lsl;refine⟨ls[i]'(by omega),List.getElem?_eq_getElem (by omega),?_,?_⟩
 .rw[zI a.Q.2.1,List.getElem?_map,List.getElem?_eq_getElem (by omega)];rfl
 .have hB:=a.lB
  have:=a.aB.2 i _ _ (List.getElem?_eq_getElem (by omega)) (List.getElem?_eq_getElem (by omega))
  rw[this.1,List.getD_eq_getElem?_getD,List.getElem?_eq_getElem (by omega)];rfl
theorem zEw{α β:Type}{R:α->β->Prop}{xs:List α}{ys:List β}(k:All2 R xs ys){i:Nat}{a:α}{b:β}(hr:R a b):All2 R (xs.set i a) (ys.set i b):=by
 refine⟨by rw[List.length_set,List.length_set];exact k.1,λj x y hx hy=>?_⟩;rw[List.getElem?_set]at hx hy;by_cases e:i=j
 .rw[if_pos e]at hx hy;split at hx
  .split at hy
   .cases hx;cases hy;exact hr
   .cases hy
  .cases hx
 .rw[if_neg e]at hx hy;exact k.2 j x y hx hy
theorem QS{h:PHeap}{t i:Nat}{cs:List PV}{v:PV}(ho:h.obj t=some cs)(hi:i<cs.length)(hv:v.one=true):h.wr t i [v]=some (h.set t (cs.set i v)):=by
 rw[qC ho,if_pos ⟨by simp;omega,by simp[hv]⟩];congr 2;rw[List.append_assoc];exact take_set cs hi v
theorem RS.putP(a:RS RP R b h n sP capP cs sB ai ls W B){i:Nat}{v:PV}{w:V1}(hi:i<n)(hv:RP v w)(ho:v.one=true):
  h.wr sP i [v]=some (h.set sP (cs.set i v))/\RS RP R b (h.set sP (cs.set i v)) n sP capP (cs.set i v) sB ai ls (W.set i w) B:=by
 obtain⟨p1,p2,p3,p4⟩:=a.P;obtain⟨q1,q2,q3,q4⟩:=a.Q;refine⟨QS p2 (by rw[a.csl];exact hi) ho,⟨p1,by rw[zH,if_pos rfl],p3,p4⟩,⟨q1,by rw[zH,if_neg (Ne.symm a.ne)];exact q2,q3,q4⟩,a.ne,λq hq=>(a.lok q hq).move (by rw[zH,if_neg (a.lne q hq).1]) (vM _),a.lne,a.nd,zEw a.aP hv,a.aB,by rw[List.length_set];exact a.lW,a.lB⟩
theorem zDG{α β:Type}(f:α->β){xs:List α}{i:Nat}{x y:α}(hx:xs[i]? = some x)(e:f y=f x):(xs.set i y).map f=xs.map f:=by
 rw[List.map_set,e];refine List.ext_getElem? λj=>?_;rw[List.getElem?_set];split
 .rename_i e2;subst e2;rw[List.getElem?_map,hx];split
  .rfl
  .rename_i e3
   have:=(List.getElem?_eq_some_iff.1 hx).1
   simp only[List.length_map]at e3;omega
 .rfl
theorem RS.putB(a:RS RP R b h n sP capP cs sB ai ls W B){i k:Nat}{q:LS}{v:PV}{w:V1}(hq:ls[i]? = some q)(hk:k<q.cs.length)(hv:R v w)(ho:v.one=true):
    h.wr q.s k [v]=some (h.set q.s (q.cs.set k v))/\RS RP R b (h.set q.s (q.cs.set k v)) n sP capP cs sB ai (ls.set i ⟨q.s,q.cap,q.cs.set k v⟩) W (B.set i ((B.getD i []).set k w)):=by
  obtain⟨p1,p2,p3,p4⟩:=a.P;obtain⟨q1,q2,q3,q4⟩:=a.Q;have hm:=List.mem_of_getElem? hq;obtain⟨g1,g2,g3,g4⟩:=a.lok q hm;obtain⟨aH,aK⟩:=List.getElem?_eq_some_iff.1 hq;have hn:=a.lne q hm;have Le:LS.pv ⟨q.s,q.cap,q.cs.set k v⟩=q.pv:=by simp[LS.pv]
  have aM:∀q',q'∈ls.set i ⟨q.s,q.cap,q.cs.set k v⟩->q'=⟨q.s,q.cap,q.cs.set k v⟩\/(q'∈ls/\q'.s≠q.s):=λq' bm=>by
    obtain⟨j,hj⟩:=List.getElem?_of_mem bm;rw[List.getElem?_set]at hj;split at hj
    . first
      |(cases hj;exact .inl rfl)
      | (split at hj
         .cases hj;exact .inl rfl
         .cases hj)
    . rename_i e
      refine .inr ⟨List.mem_of_getElem? hj,λe2=>e ?_⟩;obtain⟨dK,iJ⟩:=List.getElem?_eq_some_iff.1 hj
      have:=(List.getElem_inj (xs:=ls.map LS.s) (i:=i) (j:=j) (h₀:=by rw[List.length_map];exact aH) (h₁:=by rw[List.length_map];exact dK) a.nd).1 (by rw[List.getElem_map,List.getElem_map,aK,iJ,e2])
      exact this
  refine⟨QS g2 hk ho,⟨p1,by rw[zH,if_neg (Ne.symm hn.1)];exact p2,p3,p4⟩,⟨q1,by rw[zH,if_neg (Ne.symm hn.2),zDG LS.pv hq Le];exact q2,q3,q4⟩,a.ne,λq' bm=>?_,λq' bm=>?_,?_,a.aP,?_,a.lW,by rw[List.length_set];exact a.lB⟩
  . rcases aM q' bm with rfl|⟨h1,h2⟩
    .exact⟨by show full 1 q.cap (q.cs.set k v).length;rw[List.length_set];exact g1,by rw[zH,if_pos rfl],g3,g4⟩
    .exact(a.lok q' h1).move (by rw[zH,if_neg h2]) (vM _)
  . rcases aM q' bm with rfl|⟨h1,h2⟩
    .exact hn
    .exact a.lne q' h1
  . rw[zDG LS.s (y:=⟨q.s,q.cap,q.cs.set k v⟩) hq rfl]
    exact a.nd
  . have hB:=a.lB
    have hl:=a.lsl;refine zEw a.aB (zEw ?_ hv)
    have:=a.aB.2 i _ _ hq (List.getElem?_eq_getElem (by omega))
    rw[List.getD_eq_getElem?_getD,List.getElem?_eq_getElem (by omega)];exact this
theorem RS.imp{RP' R':PV->V1->Prop}(a:RS RP R b h n sP capP cs sB ai ls W B)(h1:All2 RP' cs W)(h2:RowsG R' ls B):RS RP' R' b h n sP capP cs sB ai ls W B:=⟨a.P,a.Q,a.ne,a.lok,a.lne,a.nd,h1,h2,a.lW,a.lB⟩
theorem zF9{t o:Nat}{xs:List PV}:∀vs:List PV,sbs t o xs vs=vs.map (sb t o xs)
 |[]=>rfl
 |v::vs=>by simp only[sbs,List.map_cons,zF9 vs]
theorem QK{t o u:Nat}{xs ds:List PV}(ar:u≠t)(ho:h.obj u=some ds):((h.kill t).sub t o xs).obj u=some (sbs t o xs ds):=by
 show(((h.kill t).obj u).map (sbs t o xs))=_
 rw[zGf,if_neg ar,ho];rfl
def LS.fr(t o:Nat)(xs:List PV)(q:LS):LS:=⟨q.s,q.cap,sbs t o xs q.cs⟩
theorem LS.fr_pv{t o:Nat}{xs:List PV}(q:LS):(LS.fr t o xs q).pv=q.pv:=by simp[LS.fr,LS.pv,ZT]
theorem LS.sbs_pv{t o:Nat}{xs:List PV}:∀{ls:List LS},(∀q∈ls,q.s≠t)->sbs t o xs (ls.map LS.pv)=ls.map LS.pv
 |[],_=>rfl
 |q::ls,hn=>by
  have:=hn q (List.mem_cons_self ..)
  simp only[List.map_cons,sbs,LS.sbs_pv λq' hq=>hn q' (List.mem_cons_of_mem _ hq)];simp only[LS.pv,sb,this,false_and,if_false]
theorem LS.fr_ok{t o:Nat}{xs:List PV}{q:LS}(a:q.ok h b)(hn:q.s≠t):(LS.fr t o xs q).ok ((h.kill t).sub t o xs) b:=by
 obtain⟨h1,h2,h3,h4⟩:=a;exact⟨by show full 1 q.cap (sbs t o xs q.cs).length;rw[ZT];exact h1,QK hn h2,h3,h4⟩
theorem LS.fr_same{t o:Nat}{xs:List PV}{ls:List LS}(hb:∀q∈ls,Bels 0 q.cs):ls.map (LS.fr t o xs)=ls:=by
 conv=>rhs;rw[<-List.map_id ls]
 refine List.map_congr_left λq hq=>?_
 show(⟨q.s,q.cap,sbs t o xs q.cs⟩:LS)=q
 rw[QL (Nat.zero_le _) (hb q hq)]
theorem RS.fzh{RP' R':PV->V1->Prop}{t o:Nat}{xs:List PV}(a:RS RP R b h n sP capP cs sB ai ls W B)(hn:t≠sP/\t≠sB/\∀q∈ls,q.s≠t)(hP:∀v w,RP v w->RP' (sb t o xs v) w)(hR:∀v w,R v w->R' (sb t o xs v) w):
  RS RP' R' b ((h.kill t).sub t o xs) n sP capP (sbs t o xs cs) sB ai (ls.map (LS.fr t o xs)) W B:=by
 obtain⟨p1,p2,p3,p4⟩:=a.P;obtain⟨q1,q2,q3,q4⟩:=a.Q;have e1:(ls.map (LS.fr t o xs)).map LS.pv=ls.map LS.pv:=by rw[List.map_map];exact List.map_congr_left λq _=>LS.fr_pv q
 have e2:(ls.map (LS.fr t o xs)).map LS.s=ls.map LS.s:=by rw[List.map_map];exact List.map_congr_left λq _=>rfl
 have a2:∀{S S':PV->V1->Prop} {vs:List PV} {ws:V2},(∀v w,S v w->S' (sb t o xs v) w)->All2 S vs ws->All2 S' (sbs t o xs vs) ws:=λhS k=>by
  refine⟨by rw[ZT];exact k.1,λj x y hx hy=>?_⟩;rw[zF9,List.getElem?_map]at hx;obtain⟨v,hv,rfl⟩:=Option.map_eq_some_iff.1 hx;exact hS _ _ (k.2 j v y hv hy)
 refine⟨⟨p1,QK (Ne.symm hn.1) p2,p3,p4⟩,⟨q1,by rw[e1,QK (Ne.symm hn.2.1) q2,LS.sbs_pv hn.2.2],q3,q4⟩,a.ne,λq hq=>?_,λq hq=>?_,by rw[e2];exact a.nd,a2 hP a.aP,⟨by rw[List.length_map];exact a.aB.1,λj x y hx hy=>?_⟩,a.lW,a.lB⟩
 .obtain⟨q',bm,rfl⟩:=List.mem_map.1 hq;exact LS.fr_ok (a.lok q' bm) (hn.2.2 q' bm)
 .obtain⟨q',bm,rfl⟩:=List.mem_map.1 hq;exact a.lne q' bm
 .rw[List.getElem?_map]at hx;obtain⟨q',bm,rfl⟩:=Option.map_eq_some_iff.1 hx;exact a2 hR (a.aB.2 j q' y bm hy)
theorem RS.fin(a:RS FI FI b h n sP capP cs sB ai ls W B)(hk:Keep σ h)(hb:σ.next<=b)(k:∀vP vB,IsR vP vB W B->K (.agg [.int .i64 p,vP,vB]) σ):Gh σ K (.agg [.int .i64 p,.sl sP 0 n capP,.sl sB 0 n ai]) h:=by
 obtain⟨p1,p2,p3,p4⟩:=a.P;obtain⟨q1,q2,q3,q4⟩:=a.Q;have e1:=a.csl;have e2:=a.lsl;have et:(TR.agg [.leaf (.int .i64 p),.lst sP capP (cs.map TR.leaf),.lst sB ai (ls.map LS.tr)]).pv=.agg [.int .i64 p,.sl sP 0 n capP,.sl sB 0 n ai]:=by
  simp only[TR.pv,TR.pvs,List.length_map];rw[e1,e2]
 rw[<-et];refine Gh.treeF hk ⟨trivial,⟨⟨by rw[List.length_map,e1];exact p1,by rw[Qw];exact p2,by omega,p4⟩,Qx (a.aP.bI 0)⟩,⟨⟨by rw[List.length_map,e2];exact q1,by rw[LS.tr_pvs];exact q2,by omega,q4⟩,LS.trs_okF λq hq=>?_⟩,trivial⟩ λaa=>k _ _ ⟨⟨true,.sl (aa sP) 0 cs.length capP,cs,?_,a.aP⟩,⟨true,.sl (aa sB) 0 ls.length ai,TR.fzs aa (ls.map LS.tr),?_,zBu a.aB⟩⟩
 .obtain⟨g1,g2,g3,g4⟩:=a.lok q hq;refine⟨⟨g1,g2,by omega,g4⟩,?_⟩;obtain⟨k,fY,rfl⟩:=List.mem_iff_getElem.1 hq;exact(a.aB.2 k _ _ (List.getElem?_eq_getElem fY) (List.getElem?_eq_getElem (by rw[<-a.aB.1];exact fY))).bI 0
 .simp only[TR.fz,Qy,List.length_map];rw[e1,a.lW]
 .simp only[TR.fz,List.length_map];rw[e2,a.lB]
theorem SU.fzh{T:PHeap}{p0 t o:Nat}{v0:PV}{fs:List (PV×List PV)}{xs:List PV}(w:PWF T)(a:SU T h p0 v0 fs ls)(ht:T.next<=t)(hp:t≠p0)(hv:sb t o xs v0=v0)(hf:∀f∈fs,∀off l c,f.1≠.sl t off l c)(hl:∀q∈ls,q.s≠t):
  SU T ((h.kill t).sub t o xs) p0 v0 (fs.map λf=>(f.1,sbs t o xs f.2)) (ls.map (LS.fr t o xs)):=by
 have dE:∀f∈fs,sb t o xs f.1=f.1:=λf hm=>by
  obtain⟨s,cap,e,_⟩:=a.acc f hm;rw[e]
  have:s≠t:=λe2=>hf f hm 0 f.2.length cap (by rw[e,e2])
  simp only[sb,this,false_and,if_false]
 have aM:∀{f:PV×List PV},f∈fs.map (λf=>(f.1,sbs t o xs f.2))->∃f',f'∈fs/\f=(f'.1,sbs t o xs f'.2):=λhm=>by
  obtain⟨f',h1,h2⟩:=List.mem_map.1 hm;exact⟨f',h1,h2.symm⟩
 have CD:(fs.map λf=>(f.1,sbs t o xs f.2)).map Prod.fst=fs.map Prod.fst:=by rw[List.map_map];exact List.map_congr_left λf _=>rfl
 refine⟨(a.keep.kill ht).sub w ht,?_,a.p0b,λf hm=>?_,λf hm=>?_,λi j f g hi hj ar s off l c e=>?_,λq hq=>?_,λq hq=>?_⟩
 .rw[CD,QK (Ne.symm hp) a.obj];simp only[sbs,hv];congr 2;rw[zF9,List.map_map];exact List.map_congr_left λf hm=>dE f hm
 .obtain⟨f',h1,rfl⟩:=aM hm;obtain⟨s,cap,e,g1,g2,g3,g4,g5⟩:=a.acc f' h1
  have:s≠t:=λe2=>hf f' h1 0 f'.2.length cap (by rw[e,e2])
  exact⟨s,cap,by show f'.1=_;rw[e,ZT],by show full 1 cap (sbs t o xs f'.2).length;rw[ZT];exact g1,QK this g2,by show(sbs t o xs f'.2).length=(sbs t o xs f'.2).length*1;rw[Nat.mul_one],g4,g5⟩
 .obtain⟨f',h1,rfl⟩:=aM hm;exact a.ne f' h1
 .rw[List.getElem?_map]at hi hj;obtain⟨f',h1,rfl⟩:=Option.map_eq_some_iff.1 hi;obtain⟨g',h2,rfl⟩:=Option.map_eq_some_iff.1 hj;exact a.dis i j f' g' h1 h2 ar s off l c e
 .obtain⟨q',h1,rfl⟩:=List.mem_map.1 hq;exact LS.fr_ok (a.lok q' h1) (hl q' h1)
 .obtain⟨q',h1,rfl⟩:=List.mem_map.1 hq;refine⟨(a.lne q' h1).1,λf hm=>?_⟩;obtain⟨f',h2,rfl⟩:=aM hm;exact(a.lne q' h1).2 f' h2
theorem SU.move{T h2:PHeap}{p0:Nat}{v0:PV}{fs:List (PV×List PV)}(a:SU T h p0 v0 fs ls)(kT:Keep T h2)(hn:h.next<=h2.next)(ho:∀t,(t=p0\/(∃f∈fs,∃off l c,f.1=.sl t off l c)\/∃q∈ls,q.s=t)->h2.obj t=h.obj t):SU T h2 p0 v0 fs ls:=
 ⟨kT,by rw[ho _ (.inl rfl)];exact a.obj,⟨a.p0b.1,by have:=a.p0b.2;omega⟩,λf hf=>Qq (a.acc f hf) (λs off l c e=>ho _ (.inr (.inl ⟨f,hf,off,l,c,e⟩))) hn,a.ne,a.dis,λq hq=>(a.lok q hq).move (ho _ (.inr (.inr ⟨q,hq,rfl⟩))) hn,a.lne⟩
theorem SU.rs{T:PHeap}{p0:Nat}{v0 vP vB:PV}{cC:List PV}(a:SU T h p0 v0 [(vP,cs),(vB,cC)] ls)(hC:cC=ls.map LS.pv)(nd:(ls.map LS.s).Nodup)(hP:All2 RP cs W)(hB:RowsG R ls B)(lW:W.length=n)(lB:B.length=n):
  ∃sP capP sB ai,vP=.sl sP 0 n capP/\vB=.sl sB 0 n ai/\RS RP R T.next h n sP capP cs sB ai ls W B:=by
 have cI:cs.length=n:=hP.1.trans lW;have kL:cC.length=n:=by rw[hC,List.length_map];exact hB.1.trans lB
 obtain⟨sP,capP,e1,p1,p2,p3,p4,p5⟩:=a.acc (vP,cs) (by simp);obtain⟨sB,ai,e2,q1,q2,q3,q4,q5⟩:=a.acc (vB,cC) (by simp);dsimp only at e1 p1 p2 p3 e2 q1 q2 q3;rw[cI]at e1 p1;rw[kL]at e2 q1;refine⟨sP,capP,sB,ai,e1,e2,⟨p1,p2,p4,p5⟩,⟨q1,by rw[<-hC];exact q2,q4,q5⟩,λe=>?_,a.lok,λq hq=>⟨λe=>?_,λe=>?_⟩,nd,hP,hB,lW,lB⟩
 .exact a.dis 0 1 (vP,cs) (vB,cC) rfl rfl (by omega) sP 0 n capP e1 0 n ai (by rw[e2,e])
 .exact(a.lne q hq).2 (vP,cs) (by simp) 0 n capP (by rw[e];exact e1)
 .exact(a.lne q hq).2 (vB,cC) (by simp) 0 n ai (by rw[e];exact e2)
end Go.Proofs
