/- What holds while a ring is drawn. -/
import Derived.Test.YtgkbfiilhocioaaGreatBP41
import Derived.Test.YtgkbfiilhocioaaGreatBP32
open Int renaming reduceNatCast'→iQ0
set_option maxRecDepth 100000
namespace Go.Grp
end Go.Grp
set_option linter.unusedSimpArgs false
set_option linter.unusedVariables false
namespace Go.Proofs
open Go.Ab Go.Lie Go.Grp
variable {p:Int} {n c a:Nat} {W:List (List Int)} {B:List (List (List Int))} {x y:List Int} {f g:Vec}
noncomputable def lgP (p:Int) (n:Nat) (W:List (List Int)) (B:List (List (List Int))) (i:Nat):List Int:=vcG p n W B (lmul p W p (unitL n i))
noncomputable def lgC (p:Int) (n:Nat) (W:List (List Int)) (B:List (List (List Int))) (i k:Nat):List Int:=vcG p n W B (conj p n W B (unitL n (i+(1+k))) (unitL n i))
noncomputable def lgPs (p:Int) (n:Nat) (W:List (List Int)) (B:List (List (List Int))) (m:Nat):List (List Int):=(List.range m).map (lgP p n W B)
noncomputable def lgR (p:Int) (n:Nat) (W:List (List Int)) (B:List (List (List Int))) (i m:Nat):List (List Int):=(List.range m).map (lgC p n W B i)
noncomputable def lgCs (p:Int) (n:Nat) (W:List (List Int)) (B:List (List (List Int))) (m:Nat):List (List (List Int)):=(List.range m).map fun i=>lgR p n W B i (n-1-i)
abbrev rO (p:Int) (n:Nat):List Int:=List.replicate n p
theorem rO_at {j:Nat} (h:j<n):at_ (rO p n) j=p:=by rw [at_eq (by simpa using h)];simp
theorem getD_map {α:Type} (f:Nat→α) (d:α) {m i:Nat} (h:i<m):((List.range m).map f).getD i d=f i:=by
 rw [List.getD_eq_getElem?_getD,List.getElem?_map,List.getElem?_range h];rfl
theorem zJO {j:Nat} (h:j<n):pvec (lgPs p n W B n) j=lgP p n W B j:=getD_map _ _ h
theorem zLs {i:Nat} (h:i<n):(lgCs p n W B n).getD i []=lgR p n W B i (n-1-i):=getD_map _ _ h
theorem zFY {i j:Nat} (h:i<j) (hj:j<n):cvec (lgCs p n W B n) i j=vcG p n W B (conj p n W B (unitL n j) (unitL n i)):=by
 show((lgCs p n W B n).getD i []).getD (j-i-1) []=_
 rw [zLs (by omega)]
 unfold lgR;rw [getD_map _ _ (by omega)]
 unfold lgC;rw [show i+(1+(j-i-1))=j by omega]
theorem tt_el {t:Nat} (o:OkW p n W):TT (rO p n) t x↔El p n x∧∀j,j<t→at_ x j=0:=by
 constructor
 ·intro h
  have hl:x.length=n:=by rw [h.len];simp
  refine⟨⟨hl,fun y hy=>?_⟩,h.zero⟩
  obtain⟨i,hi,rfl⟩:=List.mem_iff_getElem.1 hy
  have:=h.bd i (by simp;omega)
  rw [rO_at (by omega),at_eq hi]at this
  omega
 ·rintro ⟨h,h2⟩
  refine⟨by rw [h.1];simp,fun j hj=>?_,h2⟩
  rw [rO_at (by simpa using hj)]
  have:=h.at0 o j
  omega
noncomputable abbrev rPh (p:Int) (n:Nat) (W:List (List Int)) (B:List (List (List Int))) (x:List Int) (t d:Nat):List Int:=Grp.ph (bch p n W B) (List.replicate n 0) (unitL n) (nx x) t d
theorem Lz.pwu (z:Lz p n W B c) {i:Nat} (hi:i<n) (k:Nat):Grp.pw (bch p n W B) (List.replicate n 0) (unitL n i) k=lmul p W k (unitL n i):=z.pw_eq (zR z.r.o.pr hi) k
theorem nx_eq (h:0≤at_ x a):((nx x a:Nat):Int)=at_ x a:=Int.toNat_of_nonneg h
theorem zAw (z:Lz p n W B c) {x:List Int}:∀{d t:Nat},t+d≤n→El p n (rPh p n W B x t d)∧(∀j,j<t→at_ (rPh p n W B x t d) j=0)∧(0<d→at_ (rPh p n W B x t d) t=(nx x t:Int) % p)
 | 0,t,h=>⟨ZH z.r.o.pr,fun j _=>zm n j,fun h=>by omega⟩
 | d+1,t,h=>by
  obtain⟨h1,h2,h3⟩:=zAw z (x:=x) (d:=d) (t:=t+1) (by omega)
  have e:rPh p n W B x t (d+1)=bch p n W B (lmul p W (nx x t) (unitL n t)) (rPh p n W B x (t+1) d):=by
   show bch p n W B (Grp.pw _ _ _ _) _=_;rw [z.pwu (by omega)]
  obtain⟨e1,e2,e3⟩:=zBD z.r.o (show t<n by omega) (nx x t:Int)
  obtain⟨k1,k2⟩:=z.headL e1 h1 (by omega) e2
  rw [e];refine⟨ZP z.r.o z.r.q e1 h1,fun j hj=>by rw [k1 j hj];exact h2 j (by omega),fun _=>?_⟩
  rw [k2,e3,h2 t (by omega),Int.add_zero,Int.emod_emod_of_dvd _ (Int.dvd_refl p)]
theorem zGx (z:Lz p n W B c):∀{d t:Nat} {x y:List Int},t+d≤n→(∀j,t≤j→j<t+d→(0≤at_ x j∧at_ x j<p)∧(0≤at_ y j∧at_ y j<p))→rPh p n W B x t d=rPh p n W B y t d→∀j,t≤j→j<t+d→at_ x j=at_ y j
 | 0,t,x,y,h,hr,e,j,h1,h2=>by omega
 | d+1,t,x,y,h,hr,e,j,h1,h2=>by
  have a1:=(zAw z (x:=x) (d:=d+1) (t:=t) h).2.2 (by omega)
  have a2:=(zAw z (x:=y) (d:=d+1) (t:=t) h).2.2 (by omega)
  obtain⟨⟨r1,r2⟩,r3,r4⟩:=hr t (Nat.le_refl _) (by omega)
  have ht:at_ x t=at_ y t:=by
   rw [e,a2,nx_eq r1,nx_eq r3,Int.emod_eq_of_lt r1 r2,Int.emod_eq_of_lt r3 r4]at a1
   exact a1.symm
  rcases Nat.lt_or_ge t j with hj|hj
  ·have G:=z.gp
   refine zGx z (d:=d) (t:=t+1) (by omega) (fun j h1 h2=>hr j (by omega) (by omega)) ?_ j hj (by omega)
   have hu:=zR (n:=n) z.r.o.pr (show t<n by omega)
   refine G.cancel (G.pw hu (nx x t)) (zAw z (by omega)).1 (zAw z (by omega)).1 ?_
   have:nx x t=nx y t:=by unfold nx;rw [ht]
   show rPh p n W B x t (d+1)=_;rw [e,this];rfl
  ·have:j=t:=by omega
   subst this;exact ht
theorem pt_ph (z:Lz p n W B c) (hx:El p n x):rPh p n W B x 0 n=ptG p n W B x n:=by
 have G:=z.gp;have o:=z.r.o;have key:∀i,i≤n→bch p n W B (ptG p n W B x i) (rPh p n W B x i (n-i))=rPh p n W B x 0 n:=by
  intro i
  induction i with
  | zero=>intro _;exact z.one_l (zAw z (by omega)).1
  | succ i ih=>
   intro hi;rw [←ih (by omega)]
   have hu:=zR (n:=n) o.pr (show i<n by omega)
   have hp:=Ql o z.r.q x (i:=i) (by omega)
   have e:rPh p n W B x i (n-i)=bch p n W B (lmul p W (nx x i) (unitL n i)) (rPh p n W B x (i+1) (n-(i+1))):=by
    rw [show n-i=(n-(i+1))+1 by omega]
    show bch p n W B (Grp.pw _ _ _ _) _=_;rw [z.pwu (by omega)]
   rw [e,←z.assoc hp (zJ o hu hu) (zAw z (by omega)).1,nx_eq (hx.at0 o i).1]
   rfl
 rw [←key n (Nat.le_refl _),Nat.sub_self];exact z.one_r (Ql o z.r.q x (Nat.le_refl _))
theorem ph_vc (z:Lz p n W B c) (hx:El p n x) {t:Nat} (ht:t≤n) (h:∀j,j<t→at_ x j=0):rPh p n W B (vcG p n W B x) t (n-t)=x:=by
 have e:=pt_ph z (vc_el z hx);rw [pt_vc z hx]at e
 have k:=z.gp.toMon.ph_skip (h:=unitL n) (x:=nx (vcG p n W B x)) (d:=n-t) (k:=t) (t:=0) (fun j _ hj=>by unfold nx;rw [(zFB z hx ht h).1 j (by omega)];rfl) (fun j _ hj=>zR z.r.o.pr (by omega))
 rw [Nat.zero_add,show t+(n-t)=n by omega]at k
 exact k.symm.trans e
theorem zMO (z:Lz p n W B c) (hx:El p n x) (hy:El p n y) (ha:a<n) (h:∀j,j<a→at_ x j=0):(∀j,j<a→at_ (conj p n W B x y) j=0)∧at_ (conj p n W B x y) a=at_ x a:=by
 have o:=z.r.o;have hc:=zDI o z.r.q hx hy;obtain⟨u,hu,e⟩:=z.conj_fil z.filD hx hy;obtain⟨v,h1,h2,h3⟩:=hu a (.inl (Dzv.of hx h));have e2:=e.trans ((Eqv.refl (at_ x)).add h3);obtain⟨k1,k,k2⟩:=Zr o e2 ha (fun j hj=>hc.at0 o j) (fun j hj=>by rw [h2 j (by omega),h j hj];have:=o.pr.1;omega)
 refine⟨fun j hj=>by rw [k1 j hj,h2 j (by omega),h j hj];rfl,?_⟩
 have:=zEe k2 (hc.at0 o a)
 rw [this,h2 a (by omega),Int.add_zero,Int.emod_eq_of_lt (hx.at0 o a).1 (by have:=hx.at0 o a;omega)]
theorem vc_tt (z:Lz p n W B c) (hx:El p n x) {t:Nat} (ht:t≤n) (h:∀j,j<t→at_ x j=0):TT (rO p n) t (vcG p n W B x):=(tt_el z.r.o).2 ⟨vc_el z hx,(zFB z hx ht h).1⟩
theorem zB9 (z:Lz p n W B c) {i j:Nat} (h:i<j) (hj:j<n):El p n (conj p n W B (unitL n j) (unitL n i))∧(∀k,k<j→at_ (conj p n W B (unitL n j) (unitL n i)) k=0)∧at_ (conj p n W B (unitL n j) (unitL n i)) j=1:=by
 have o:=z.r.o;have hi:=zR (n:=n) o.pr (show i<n by omega)
 have hu:=zR (n:=n) o.pr hj;obtain⟨h1,h2⟩:=zMO z hu hi hj (zAH hj).1;exact⟨zDI o z.r.q hu hi,h1,by rw [h2,(zAH hj).2]⟩
theorem zCU (z:Lz p n W B c) {j:Nat} (hj:j<n):El p n (lmul p W p (unitL n j))∧∀k,k<j+1→at_ (lmul p W p (unitL n j)) k=0:=by
 obtain⟨e1,e2,e3⟩:=zBD z.r.o hj p;refine⟨e1,fun k hk=>?_⟩
 rcases Nat.lt_or_ge k j with h|h
 ·exact e2 k h
 ·have:k=j:=by omega
  subst this;rw [e3,Int.emod_self]
theorem zOF (z:Lz p n W B c) {t j:Nat} (h:t≤j) (hj:j<n):rPh p n W B (unitL n j) t (n-t)=unitL n j:=by
 have o:=z.r.o;have hu:=zR (n:=n) o.pr hj;have k:=z.gp.toMon.ph_skip (h:=unitL n) (x:=nx (unitL n j)) (d:=n-j) (k:=j-t) (t:=t) (fun k h1 h2=>by unfold nx;rw [qK hj,if_neg (by omega)];rfl) (fun k h1 h2=>zR o.pr (by omega))
 rw [show j-t+(n-j)=n-t by omega,show t+(j-t)=j by omega]at k
 refine k.trans ?_;have k2:=z.gp.toMon.ph_skip (h:=unitL n) (x:=nx (unitL n j)) (d:=0) (k:=n-(j+1)) (t:=j+1) (fun k h1 h2=>by unfold nx;rw [qK hj,if_neg (by omega)];rfl) (fun k h1 h2=>zR o.pr (by omega))
 simp only [Nat.add_zero]at k2
 rw [show n-j=(n-(j+1))+1 by omega]
 show bch p n W B (Grp.pw _ _ _ _) (Grp.ph _ _ _ _ _ _)=_;rw [k2];have e1:nx (unitL n j) j=1:=by unfold nx;rw [(zAH hj).2];rfl
 rw [e1,z.gp.toMon.pw_one hu];exact z.one_r hu
theorem zAz (z:Lz p n W B c):Shp (rO p n) (lgPs p n W B n) (lgCs p n W B n) where
 le:=by simp;exact z.r.o.le
 pr:=fun j hj=>by rw [rO_at (by simpa using hj)];exact z.r.o.pr
 pl:=by simp [lgPs]
 cl:=by simp [lgCs]
 pw:=fun i hi=>by
  have hi':i<n:=by simpa using hi
  rw [zJO hi'];exact vc_tt z (zCU z hi').1 (by omega) (zCU z hi').2
 row:=fun i hi=>by
  have hi':i<n:=by simpa using hi
  rw [zLs hi'];simp [lgR]
 cj:=fun i j hij hj=>by
  have hj':j<n:=by simpa using hj
  rw [zFY hij hj'];obtain⟨h1,h2,h3⟩:=zB9 z hij hj';exact vc_tt z h1 (by omega) fun k hk=>h2 k (by omega)
theorem zLt (z:Lz p n W B c):Rel (rO p n) (lgPs p n W B n) (lgCs p n W B n) (El p n) (bch p n W B) (List.replicate n 0) (unitL n) 0 where
 mem:=fun j _ hj=>zR z.r.o.pr (by simpa using hj)
 pow:=fun j _ hj=>by
  have hj':j<n:=by simpa using hj
  obtain⟨h1,h2⟩:=zCU z hj';rw [zJO hj'];have e:=ph_vc z h1 (show j+1≤n by omega) h2
  have el:(rO p n).length=n:=by simp
  show _=Grp.ph _ _ _ _ ((rO p n).length-((rO p n).length-(j+1))) ((rO p n).length-(j+1));rw [el,show n-(n-(j+1))=j+1 by omega]
  refine Eq.trans ?_ e.symm;rw [z.pwu hj'];unfold nx;rw [rO_at hj',Int.toNat_of_nonneg (by have:=z.r.o.pr.1;omega)]
 cj:=fun j k _ hjk hk=>by
  have hk':k<n:=by simpa using hk
  have o:=z.r.o;obtain⟨h1,h2,h3⟩:=zB9 z hjk hk';rw [zFY hjk hk'];have e:=ph_vc z h1 (show j+1≤n by omega) (fun i hi=>h2 i (by omega))
  have el:(rO p n).length=n:=by simp
  show _=bch p n W B _ (Grp.ph _ _ _ _ ((rO p n).length-((rO p n).length-(j+1))) ((rO p n).length-(j+1)));rw [el,show n-(n-(j+1))=j+1 by omega]
  refine Eq.trans ?_ (congrArg (bch p n W B (unitL n j)) e.symm);exact(z.conj_move (zR o.pr hk') (zR o.pr (by omega))).symm
theorem zJQ (z:Lz p n W B c):Cons (rO p n) (lgPs p n W B n) (lgCs p n W B n):=by
 have el:(rO p n).length=n:=by simp
 have o:=z.r.o;have ph_eq:∀i x,Ph (rO p n) (bch p n W B) (List.replicate n 0) (unitL n) ((rO p n).length-(i+1)) x=Grp.ph (bch p n W B) (List.replicate n 0) (unitL n) (nx x) (n-(n-(i+1))) (n-(i+1)):=fun i x=>by
  show Grp.ph _ _ _ _ ((rO p n).length-((rO p n).length-(i+1))) ((rO p n).length-(i+1))=_;rw [el]
 refine Cons.of_rel (zAz z) z.gp (zLt z) (fun i hi x y hx hy e=>?_) (fun i j x hij hj hx=>?_) (fun i j hij hj=>?_)
 ·have hi':i<n:=by simpa using hi
  rw [show(rO p n).length-1-i=(rO p n).length-(i+1) by omega,ph_eq,ph_eq,show n-(n-(i+1))=i+1 by omega]at e
  have hr:∀j,i+1≤j→j<i+1+(n-(i+1))→(0≤at_ x j∧at_ x j<p)∧(0≤at_ y j∧at_ y j<p):=fun j h1 h2=>by
   have b1:=hx.bd j (by rw [el];omega)
   have b2:=hy.bd j (by rw [el];omega)
   rw [rO_at (by omega)]at b1 b2
   exact⟨b1,b2⟩
  have:=zGx z (by omega) hr e
  exact hx.ext hy fun j h1 h2=>this j h1 (by omega)
 ·have hj':j<n:=by simpa using hj
  rw [show(rO p n).length-1-i=(rO p n).length-(i+1) by omega,ph_eq,ph_eq,show n-(n-(i+1))=i+1 by omega,show n-(n-(j+1))=j+1 by omega]
  have k:=z.gp.toMon.ph_skip (h:=unitL n) (x:=nx x) (d:=n-(j+1)) (k:=j-i) (t:=i+1) (fun k h1 h2=>by unfold nx;rw [hx.zero k (by omega)];rfl) (fun k h1 h2=>zR o.pr (by omega))
  rw [show j-i+(n-(j+1))=n-(i+1) by omega,show i+1+(j-i)=j+1 by omega]at k
  exact k
 ·have hj':j<n:=by simpa using hj
  rw [show(rO p n).length-1-i=(rO p n).length-(i+1) by omega,ph_eq,show n-(n-(i+1))=i+1 by omega]
  have eu:Grp.unit (rO p n) j=unitL n j:=by show(List.replicate (rO p n).length 0).set j 1=_;rw [el];rfl
  rw [eu];exact zOF z (by omega) hj'
end Go.Proofs
namespace Go.Grp
end Go.Grp
namespace Go.Proofs
open Go.Ab Go.Lie Go.Grp
variable {p:Int} {n c a:Nat} {W:List (List Int)} {B:List (List (List Int))} {x y:List Int} {f g:Vec}
theorem zFE {O x:List Int} {t:Nat} (h:TT O t x):Zi O t x:=by
 refine⟨⟨h.len,fun j hj=>by have:=h.bd j (by rw [←h.len];exact hj);omega⟩,fun v hv=>?_⟩
 rw [List.mem_take_iff_getElem]at hv
 obtain⟨j,hj,rfl⟩:=hv;rw [←at_eq];exact h.zero j (by omega)
theorem zD3 (p:Int):∀n,ipow p n=p ^ n
 | 0=>by simp [ipow]
 | n+1=>by rw [Int.pow_succ,←zD3 p n];simp only [ipow];try rw [Int.mul_comm]
theorem zJP (z:Lz p n W B c):qf (rO p n) (lgPs p n W B n) (lgCs p n W B n):=by
 have s:=zAz z;have el:(rO p n).length=n:=by simp
 refine⟨s.le,s.pl,s.cl,fun o ho=>by rw [List.eq_of_mem_replicate ho];exact z.hp,?_,fun i hi=>⟨zFE (s.pw i hi),s.row i hi,fun k hk=>?_⟩⟩
 ·rw [zCT fun o ho=>List.eq_of_mem_replicate ho,el,←zD3];exact z.pow
 ·rw [s.row i hi]at hk
  have:=s.cj i (i+1+k) (by omega) (by omega)
  unfold cvec at this
  rw [show i+1+k-i-1=k by omega]at this
  exact zFE this
theorem zLv (z:Lz p n W B c):isCen (rO p n) (lgCs p n W B n):=by
 have el:(rO p n).length=n:=by simp
 intro i hi;rw [el]at hi
 refine⟨by rw [rO_at hi,rO_at (by omega)],fun q hq=>?_⟩
 rw [el]at hq
 obtain⟨h1,h2,h3⟩:=zB9 z (i:=i) (j:=i+(1+q)) (by omega) hq
 have e:=zFY (p:=p) (W:=W) (B:=B) (i:=i) (j:=i+(1+q)) (by omega) hq
 obtain⟨k1,k2⟩:=zFB z h1 (Nat.le_of_lt hq) h2;refine⟨?_,?_⟩
 ·rw [e,k2 hq,h3]
 ·rw [e];exact(zFE (vc_tt z h1 (Nat.le_of_lt hq) h2)).2
theorem lg_LG (z:Lz p n W B c):LG (rO p n) (lgPs p n W B n) (lgCs p n W B n):=⟨zJP z,zJQ z,zLv z⟩
theorem gS_el (z:Lz p n W B c):gS (rO p n) x↔El p n x:=by
 rw [show gS (rO p n) x=TT (rO p n) 0 x from rfl,tt_el z.r.o]
 exact⟨fun h=>h.1,fun h=>⟨h,fun j hj=>by omega⟩⟩
theorem vc_pt (z:Lz p n W B c) (hx:El p n x):vcG p n W B (ptG p n W B x n)=x:=by
 have o:=z.r.o;have hp:=Ql o z.r.q x (Nat.le_refl n);have hv:=vc_el z hp;refine zMI hv hx fun j hj=>?_
 refine zGx z (d:=n) (t:=0) (x:=vcG p n W B (ptG p n W B x n)) (y:=x) (by omega) (fun j _ _=>⟨by have:=hv.at0 o j;omega,by have:=hx.at0 o j;omega⟩) ?_ j (Nat.zero_le _) (by omega)
 rw [pt_ph z hv,pt_vc z hp,pt_ph z hx]
theorem zGr (z:Lz p n W B c) (hx:El p n x) (hy:El p n y) (h:ptG p n W B x n=ptG p n W B y n):x=y:=by rw [←vc_pt z hx,h,vc_pt z hy]
noncomputable abbrev rm (p:Int) (n:Nat) (W:List (List Int)) (B:List (List (List Int))):List Int→List Int→List Int:=gm (rO p n) (lgPs p n W B n) (lgCs p n W B n)
theorem zBX (z:Lz p n W B c) (hx:El p n x) (hy:El p n y):El p n (rm p n W B x y)∧ptG p n W B (rm p n W B x y) n=bch p n W B (ptG p n W B x n) (ptG p n W B y n):=by
 have el:(rO p n).length=n:=by simp
 have G:=(lg_LG z).F.g;have hm:=(gS_el z).1 (G.cl ((gS_el z).2 hx) ((gS_el z).2 hy));refine⟨hm,?_⟩;have tt:∀{x},El p n x→TT (rO p n) ((rO p n).length-(rO p n).length) x:=fun {x} h=>by rw [Nat.sub_self];exact(gS_el z).2 h
 have d:=dyck (zAz z) z.gp.toMon (zLt z) (d:=(rO p n).length) (by omega) (tt hx) (tt hy)
 have e:∀x,Ph (rO p n) (bch p n W B) (List.replicate n 0) (unitL n) (rO p n).length x=rPh p n W B x 0 n:=fun x=>by show Grp.ph _ _ _ _ ((rO p n).length-(rO p n).length) (rO p n).length=_;rw [el,Nat.sub_self]
 rw [e,e,e,pt_ph z hx,pt_ph z hy]at d
 rw [←d];exact(pt_ph z hm).symm
theorem zOy (z:Lz p n W B c) (hx:El p n x) (hy:El p n y):vcG p n W B (bch p n W B x y)=rm p n W B (vcG p n W B x) (vcG p n W B y):=by
 obtain⟨h1,h2⟩:=zBX z (vc_el z hx) (vc_el z hy);refine zGr z (vc_el z (ZP z.r.o z.r.q hx hy)) h1 ?_;rw [h2,pt_vc z hx,pt_vc z hy,pt_vc z (ZP z.r.o z.r.q hx hy)]
theorem pt_el (z:Lz p n W B c) (x:List Int):El p n (ptG p n W B x n):=Ql z.r.o z.r.q x (Nat.le_refl n)
theorem zv_rO:zv (rO p n)=List.replicate n 0:=by show List.replicate (rO p n).length 0=_;simp
theorem zC7 (z:Lz p n W B c):ptG p n W B (zv (rO p n)) n=List.replicate n 0:=by
 have o:=z.r.o;rw [zv_rO,←pt_ph z (ZH o.pr)]
 have:=z.gp.toMon.ph_skip (h:=unitL n) (x:=nx (List.replicate n (0:Int))) (d:=0) (k:=n) (t:=0) (fun j _ hj=>by unfold nx;rw [zm];rfl) (fun j h1 h2=>by omega)
 simp only [Nat.add_zero]at this
 exact this
theorem Lz.comm_spec (z:Lz p n W B c) (hx:El p n x) (hy:El p n y):bch p n W B (bch p n W B y x) (Go.Proofs.comm p n W B x y)=bch p n W B x y:=by
 have o:=z.r.o;have q:=z.r.q;have hc:=zDI o q hx hy;have hn:=zAN o hx;rw [←z.conj_comm hx hy,z.assoc hy hx (ZP o q hn hc),←z.assoc hx hn hc,z.inv_r hx,z.one_l hc,z.conj_move hx hy]
theorem zO8 (z:Lz p n W B c) (hx:El p n x) (hy:El p n y):ptG p n W B (gcom (rO p n) (lgPs p n W B n) (lgCs p n W B n) x y) n=comm p n W B (ptG p n W B x n) (ptG p n W B y n):=by
 have G:=(lg_LG z).F.g;have o:=z.r.o;have q:=z.r.q;have gx:=(gS_el z).2 hx;have gy:=(gS_el z).2 hy;have hc:=(gS_el z).1 (G.com_in gx gy);have e:=G.com_spec gx gy;have e2:ptG p n W B (rm p n W B (rm p n W B y x) (gcom (rO p n) (lgPs p n W B n) (lgCs p n W B n) x y)) n=ptG p n W B (rm p n W B x y) n:=by
  have:rm p n W B (rm p n W B y x) (gcom (rO p n) (lgPs p n W B n) (lgCs p n W B n) x y)=rm p n W B x y:=e
  rw [this]
 rw [(zBX z (zBX z hy hx).1 hc).2,(zBX z hy hx).2,(zBX z hx hy).2,←z.comm_spec (pt_el z x) (pt_el z y)]at e2
 exact z.gp.cancel (ZP o q (pt_el z y) (pt_el z x)) (pt_el z _) (zOj z (pt_el z x) (pt_el z y)) e2
theorem zKe (z:Lz p n W B c) {i:Nat} (hi:i<(rO p n).length):El p n (Grp.unit (rO p n) i):=(gS_el z).1 ((zAz z).unit hi (Nat.zero_le _))
theorem zLu (z:Lz p n W B c):∀k,∀x∈Lc (rO p n) (lgPs p n W B n) (lgCs p n W B n) k,El p n x∧Lw p n W B k (at_ (ptG p n W B x n))
 | 0,x,hx=>by
  have h:=(Lc_ok (zAz z) (lg_LG z).F 0 x hx).1;exact⟨(gS_el z).1 h,z.r.all (pt_el z x)⟩
 | k+1,x,hx=>by
  have h:=(Lc_ok (zAz z) (lg_LG z).F (k+1) x hx).1;refine⟨(gS_el z).1 h,?_⟩;obtain⟨⟨y,i,hy,hi,rfl⟩,hne⟩:=zAy.1 hx;obtain⟨h1,h2⟩:=zLu z k y hy;rw [zO8 z h1 (zKe z hi)];exact z.comm_fil z.fil (pt_el z y) (pt_el z _) h2
theorem zPI (z:Lz p n W B c):clsOk (rO p n) (lgPs p n W B n) (lgCs p n W B n):=by
 rcases Nat.eq_zero_or_pos n with h0|h0
 ·left;subst h0;rfl
 ·right
  refine⟨c,by rw [rO_at h0];exact z.hc,?_⟩
  refine List.eq_nil_iff_forall_not_mem.2 fun x hx=>?_
  obtain⟨h1,h2⟩:=zLu z c x hx;have hz:=z.r.zero (Nat.le_refl _) (pt_el z x) h2;refine(Lc_ok (zAz z) (lg_LG z).F c x hx).2 (zGr z h1 (by rw [zv_rO];exact ZH z.r.o.pr) ?_)
  rw [zC7 z];refine List.ext_getElem (by rw [(pt_el z x).1];simp) fun i h1 h2=>?_
  rw [hz _ (List.getElem_mem h1)];simp
theorem zOW (z:Lz p n W B c):isLG (rO p n) (lgPs p n W B n) (lgCs p n W B n):=⟨⟨⟨zJP z,zJQ z⟩,zLv z⟩,zPI z⟩
end Go.Proofs
namespace Go.Proofs
open Go.Ab Go.Lie
variable {σ H h:PHeap} {K:PV→PHeap→Prop} {n c:Nat} {p:Int} {W:List (List Int)} {B:List (List (List Int))} {vP vB:PV} {s:Nat}
theorem zKu {P:Program} {c:IC} {Q:Exit→PEnv→PHeap→Prop} {e:PEnv} {h:PHeap} (id:Nat) (J:PEnv→PHeap→Prop) (h1:∀Q':Exit→PEnv→PHeap→Prop,(∀e h,J e h→Q' (.exit id) e h)→vp P c Q' e h) (h2:∀e h,J e h→Q (.exit id) e h):vp P c Q e h:=h1 Q h2
theorem zGI (z:Lz p n W B c) (hs:PtrR σ s p vP vB) (hR:IsR vP vB W B)
  (hk:∀vO vQ vC t,FI vO (List.replicate n p)→FII vQ (lgPs p n W B n)→FIII vC (lgCs p n W B n)→Own σ.top t (.agg [vO,vQ,vC])→σ.top≤t→K (.agg [vO,vQ,vC]) (σ.up t)):
  zA Tryz.prog 94 [.ptr s 0] σ K:=by
 have o:=z.r.o;have q:=z.r.q;have hn6:=o.le;have hWl:=o.len;have hsl:=hs.lt;have hpb:=z.hp.bd;have hR0:=hR;obtain⟨⟨wp,ap,rp,rfl,hrp⟩,hB⟩:=hR;have e1:σ.rd1 s 1=some (.fz wp ap W.length rp):=by rw [zI hs.obj];rfl
 have e0:σ.rd1 s 0=some (.int .i64 p):=by rw [zI hs.obj];rfl
 have hn1:¬s=σ.next:=by omega
 refine zA.gh ?_;refine zN mix Tryz.func94 cf94 rfl ?_;dsimp only [if94,eI,nI,qD,eD,mI0,kI0,lI0,LI0,fI0,xI0,bI0,cI0,sI0,pI0,C1,C2,mD0,lD0,fD0,xD0,pD0,R0,S0];simp only [pwA,seval,-iQ0,e0,e1,hn1,hWl];refine zA.frz (s:=σ.next+1) (cs:=pis [p]) (by simp only [pwA,seval,-iQ0];rfl) (zM _ _) fun o1=>?_
 simp only [sbs,Go.Ab.sb,capOK,and_self,if_true,decide_true,Nat.le_refl];refine zMW rfl hn6 fun vr hr=>?_
 simp only [pwA,seval,-iQ0];have hO3:∀{g:PHeap} {u0 u1 u2:PV},Keep (σ.new [.fz true .nils 0 [],.fz true .nils 0 [],.fz true .nils 0 []]) g→u0.one=true→u1.one=true→u2.one=true→g.wr σ.next 0 [u0,u1,u2]=some (g.set σ.next [u0,u1,u2])∧(g.set σ.next [u0,u1,u2]).rd σ.next 0 3=some [u0,u1,u2]:=fun {g u0 u1 u2} k z0 z1 z2=>by
  have hres:g.obj σ.next=some [.fz true .nils 0 [],.fz true .nils 0 [],.fz true .nils 0 []]:=by rw [k.obj _ (Nat.lt_succ_self _),zP,if_pos rfl]
  exact⟨by rw [zq hres,if_pos ⟨by simp,by simp only [List.all_cons,List.all_nil,z0,z1,z2];rfl⟩];rfl,by rw [qo,if_pos rfl];rfl⟩
 generalize hS:((σ.new [.fz true .nils 0 [],.fz true .nils 0 [],.fz true .nils 0 []]).new [.int .i64 p]).kill (σ.next+1)=S;have hSn:S.next=σ.next+2:=by rw [←hS];rfl
 have hkS:Keep (σ.new [.fz true .nils 0 [],.fz true .nils 0 [],.fz true .nils 0 []]) S:=by rw [←hS];exact(zD _ _).kill (Nat.le_refl _)
 have hk0:=zD σ [.fz true .nils 0 [],.fz true .nils 0 [],.fz true .nils 0 []];rcases Nat.eq_zero_or_pos n with hn0|hpos
 ·as_aux_lemma=>
  subst hn0;refine zCN hr (fun h1 k1=>?_) fun h1 cap hc k1 ho hlt=>?_
  ·have k2:=(hkS.trans k1).new [.fz true .nils 0 [],.fz true .nils 0 [],.fz true .nils 0 []]
   obtain⟨g1,g2⟩:=hO3 k2 (u0:=.fz true .nils 0 []) (u1:=.fz true .nils 0 []) (u2:=.fz true .nils 0 []) rfl rfl rfl;have g3:(h1.new [.fz true .nils 0 [],.fz true .nils 0 [],.fz true .nils 0 []]).rd h1.next 0 3=some [.fz true .nils 0 [],.fz true .nils 0 [],.fz true .nils 0 []]:=by simp only [pwA,seval,-iQ0]
   simp only [pwA,seval,-iQ0];refine zG (fun m us h'=>m=0∧us=[.ptr s 0,.ptr σ.next 0,.int .i64 (0:Nat),.ptr h1.next 0,.int .i64 (0:Nat),.int .i64 (0:Nat)]∧h'=h1.new [.fz true .nils 0 [],.fz true .nils 0 [],.fz true .nils 0 []]) 0 ⟨rfl,rfl,rfl⟩ ?_
   rintro m us h' ⟨rfl,rfl,rfl⟩
   generalize hg:h1.new [.fz true .nils 0 [],.fz true .nils 0 [],.fz true .nils 0 []]=g at *
   simp only [pwA,seval,-iQ0,g1,g2,g3];exact Gh.treeO (t:=.agg [.nil,.nil,.nil]) ((hk0.trans k2).set (Nat.le_refl _) _) ⟨trivial,trivial,trivial,trivial⟩ List.nodup_nil fun a T h1 h2=>hk _ _ _ T ⟨true,.nils,rfl⟩ ⟨true,.nils,[],rfl,All2.nil _⟩ ⟨true,.nils,[],rfl,All2.nil _⟩ h1 h2
  ·have k2:=(hkS.trans k1).new [.sl (S.next+1) 0 0 cap,.fz true .nils 0 [],.fz true .nils 0 []]
   obtain⟨g1,g2⟩:=hO3 k2 (u0:=.sl (S.next+1) 0 0 cap) (u1:=.fz true .nils 0 []) (u2:=.fz true .nils 0 []) rfl rfl rfl;have g3:(h1.new [.sl (S.next+1) 0 0 cap,.fz true .nils 0 [],.fz true .nils 0 []]).rd h1.next 0 3=some [.sl (S.next+1) 0 0 cap,.fz true .nils 0 [],.fz true .nils 0 []]:=by simp only [pwA,seval,-iQ0]
   simp only [pwA,seval,-iQ0];refine zG (fun m us h'=>m=0∧us=[.ptr s 0,.ptr σ.next 0,.int .i64 (0:Nat),.ptr h1.next 0,.int .i64 (0:Nat),.int .i64 (0:Nat)]∧h'=h1.new [.sl (S.next+1) 0 0 cap,.fz true .nils 0 [],.fz true .nils 0 []]) 0 ⟨rfl,rfl,rfl⟩ ?_
   rintro m us h' ⟨rfl,rfl,rfl⟩
   generalize hg:h1.new [.sl (S.next+1) 0 0 cap,.fz true .nils 0 [],.fz true .nils 0 []]=g at *
   simp only [pwA,seval,-iQ0,g1,g2,g3];refine Gh.treeO (t:=.agg [TR.row (S.next+1) cap [],.nil,.nil]) ((hk0.trans k2).set (Nat.le_refl _) _) ⟨TR.row_ok hc ?_ (by omega) ?_,trivial,trivial,trivial⟩ (by simp [TR.slots,TR.slotss,TR.row]) fun a T h1 h2=>hk _ _ _ T TR.row_FI ⟨true,.nils,[],rfl,All2.nil _⟩ ⟨true,.nils,[],rfl,All2.nil _⟩ h1 h2
   ·rw [zH,if_neg (by omega),←hg,zP,if_neg (by omega)];exact ho
   ·rw [←hg];show S.next+1<h1.next+1;omega
 refine zCJ (n:=n) hr (by simp) hpos hn6 fun capO vQ vC pc ls h1 hcO ti hpl hll hsh=>?_
 obtain⟨sP,capP,rfl,cP,oP,lP,bP,xP⟩:=ti.accP.pos (by omega)
 obtain⟨sC,capC,rfl,cC,oC,lC,bC,xC⟩:=ti.accC.pos (by omega)
 rw [hpl]at cP
 rw [hll]at cC
 have tiO:=ti.oO;have tiOb:=ti.sOb;have b:BF (σ.new [.fz true .nils 0 [],.fz true .nils 0 [],.fz true .nils 0 []]) (h1.new [.sl (S.next+1) 0 n capO,.sl sP 0 n capP,.sl sC 0 n capC]) h1.next (S.next+1) sP sC ls:=by
  have hb:∀s,s∈[h1.next,S.next+1,sP,sC]++LS.slots ls→S.next≤s∧s<h1.next+1:=fun s hs=>by
   simp only [List.cons_append,List.nil_append,List.mem_cons]at hs
   have:=ti.keep.next
   rcases hs with rfl|rfl|rfl|rfl|hs
   ·omega
   ·omega
   ·omega
   ·omega
   ·have:=ti.lt hs;omega
  refine⟨fun s hs=>⟨by have:=(hb s hs).1;show σ.next+1≤s;omega,(hb s hs).2⟩,?_⟩
  simp only [List.cons_append,List.nil_append,List.nodup_cons,List.mem_cons,not_or];refine⟨⟨by omega,by omega,by omega,fun hm=>by have:=(ti.lt hm).2;omega⟩,⟨fun e=>ti.neP (S.next+1) (.inr (.inr rfl)) 0 _ capP (by rw [←e]),fun e=>ti.neC (S.next+1) (.inr (.inr rfl)) 0 _ capC (by rw [←e]),ti.neL.2⟩,⟨fun e=>ti.nePC sP 0 _ capP rfl 0 _ capC (by rw [e]),fun hm=>ti.neP sP (.inl hm) 0 _ capP rfl⟩,fun hm=>ti.neC sC (.inl hm) 0 _ capC rfl,ti.nd⟩
 have li:LI (σ.new [.fz true .nils 0 [],.fz true .nils 0 [],.fz true .nils 0 []]) (h1.new [.sl (S.next+1) 0 n capO,.sl sP 0 n capP,.sl sC 0 n capC]) (h1.new [.sl (S.next+1) 0 n capO,.sl sP 0 n capP,.sl sC 0 n capC]) h1.next (S.next+1) sP sC (.sl (S.next+1) 0 n capO) capP capC n (pis (List.replicate n p)) pc ls [] [] []:=by
  refine⟨(hkS.trans ti.keep).new _,Nat.le_refl _,by rw [zP,if_pos rfl],by rw [zP,if_neg (by omega)];exact tiO,by rw [zP,if_neg (by omega)];simpa using oP,by rw [zP,if_neg (by omega)];exact oC,fun j q hq=>?_,fun q hq=>(by simp at hq),by simp [qW]⟩
  have:=(ti.ok q (List.mem_of_getElem? hq))
  rw [zP,if_neg (by have:=this.2.2.2;omega),this.2.1]
  unfold cont
  simp
 rw [hpl,hll];simp only [pwA,seval,-iQ0];clear oP oC lP lC bP bC tiO tiOb;generalize h1.new [.sl (S.next+1) 0 n capO,.sl sP 0 n capP,.sl sC 0 n capC]=H at *
 generalize h1.next=tp at *
 refine zG (fun m us h=>∃(i:Nat) (rows:List SR) (Rs:List (List SR)),i≤n∧m=n-i∧us=[.ptr s 0,.ptr σ.next 0,.int .i64 n,.ptr tp 0,.int .i64 n,.int .i64 i]∧LI (σ.new [.fz true .nils 0 [],.fz true .nils 0 [],.fz true .nils 0 []]) H h tp (S.next+1) sP sC (.sl (S.next+1) 0 n capO) capP capC n (pis (List.replicate n p)) pc ls rows Rs []∧rows.length=i∧Rs.length=i∧rows.map SR.x=lgPs p n W B i∧Rs.map (fun R=>R.map SR.x)=lgCs p n W B i) n ⟨0,[],[],by omega,by omega,rfl,li,rfl,rfl,rfl,rfl⟩ ?_
 as_aux_lemma=>
 rintro m us h ⟨i,rows,Rs,hi,rfl,rfl,a,hrl,hRl,hrv,hRv⟩
 have hsT:PtrR (σ.new [.fz true .nils 0 [],.fz true .nils 0 [],.fz true .nils 0 []]) s p (.fz wp ap W.length rp) vB:=hs.new _;have hsp:=hsT.keep a.keep;have p0:h.rd1 s 0=some (.int .i64 p):=by rw [zI hsp.obj];rfl
 have f1:h.rd1 tp 1=some (.sl sP 0 n capP):=by rw [zI a.tpo];rfl
 have f2:h.rd1 tp 2=some (.sl sC 0 n capC):=by rw [zI a.tpo];rfl
 have f3:h.rd tp 0 3=some [.sl (S.next+1) 0 n capO,.sl sP 0 n capP,.sl sC 0 n capC]:=by rw [zh a.tpo];rfl
 simp only [pwA,seval,-iQ0];refine iteI (fun hlt=>?_) fun hge=>?_
 rotate_left
 ·as_aux_lemma=>
  have hie:i=n:=by omega
  rw [hie]at hrl hRl hrv hRv
  obtain⟨g1,g2⟩:=hO3 a.keep (u0:=.sl (S.next+1) 0 n capO) (u1:=.sl sP 0 n capP) (u2:=.sl sC 0 n capC) rfl rfl rfl;simp only [pwA,seval,-iQ0,f3,g1,g2];have hf:Fits ls Rs:=by
   refine⟨by omega,fun j o' R ho hR=>?_⟩
   obtain⟨hj,hje⟩:=List.getElem?_eq_some_iff.1 ho;obtain⟨hj2,hje2⟩:=List.getElem?_eq_some_iff.1 hR;have hRl2:R.length=n-1-j:=by
    have e:=congrArg (fun L=>L[j]?) hRv
    simp only [List.getElem?_map,hR,Option.map_some]at e
    unfold lgCs at e
    rw [List.getElem?_map,List.getElem?_range (by omega)]at e
    simp only [Option.map_some,Option.some.injEq]at e
    have:=congrArg List.length e
    simpa [lgR]using this
   obtain⟨s1,s2⟩:=hsh j hj;rw [hje]at s1 s2
   by_cases e:j+1=n
   ·rw [s1 e];exact List.eq_nil_of_length_eq_zero (by omega)
   ·obtain⟨q,e1,e2⟩:=s2 (by omega)
    rw [e1];show R.length=_;omega
  have fin:=LI.fin (K:=K) (Y:=[.sl (S.next+1) 0 n capO,.sl sP 0 n capP,.sl sC 0 n capC]) (res:=σ.next) (capO:=capO) (capP:=capP) (capC:=capC) hk0 ⟨Nat.le_refl _,Nat.lt_succ_self _⟩ (by rw [List.length_replicate];exact hcO) (by rw [hrl];exact cP) (by rw [hRl];exact cC) (by omega) (fun q hq=>(ti.ok q hq).1) b a hf fun vO vQ vC t h1 h2 h3 h4 h5=>hk vO vQ vC t h1 (by rw [←hrv];exact h2) (by rw [←hRv];exact h3) h4 h5
  rw [List.length_replicate,hrl,hRl]at fin
  exact fin
 have hlt':i<n:=by omega
 have hu:=zR (n:=n) o.pr hlt';have hne:¬tp=h.next:=by have:=(b.b tp (by simp)).2;have:=a.nx;omega
 simp only [pwA,seval,-iQ0];refine zn (by omega) hlt' fun a1=>?_
 simp only [pwA,seval,-iQ0,f1,p0,hWl];refine QM o hsp hR0.P hu ⟨true,a1,by rw [hu.1]⟩ (k:=p) (by omega) fun v1 fv1=>?_
 have hel:=zJ o (k:=p) (m:=0) hu hu;simp only [pwA,seval,-iQ0,f1];refine zAW z hsp hR0 (x:=lmul p W p (unitL n i)) hel fv1 fun cap1 hc1=>?_
 have hxl:(vcG p n W B (lmul p W p (unitL n i))).length=n:=ZF n;have hxv:vcG p n W B (lmul p W p (unitL n i))=lgP p n W B i:=rfl;rw [hxv]at hxl ⊢
 have a9:=a;obtain⟨u1,a2⟩:=LI.putP b a (x:=lgP p n W B i) (cap:=cap1) (by rw [hxl];exact hc1) (by omega)
 rw [hrl,hxl]at u1
 rw [hrl]at a2
 have f1n:(h.new (pis (lgP p n W B i))).rd1 tp 1=some (.sl sP 0 n capP):=by rw [zI (a.keepI b (zD h _)).tpo];rfl
 generalize h.new (pis (lgP p n W B i))=hN at *
 have hv2:(rows++[(⟨h.next,cap1,lgP p n W B i⟩:SR)]).map SR.x=lgPs p n W B (i+1):=by
  rw [List.map_append,hrv];unfold lgPs;rw [List.range_succ,List.map_append];rfl
 have hr2:(rows++[(⟨h.next,cap1,lgP p n W B i⟩:SR)]).length=i+1:=by rw [List.length_append,hrl];rfl
 generalize rows++[(⟨h.next,cap1,lgP p n W B i⟩:SR)]=rows2 at *
 clear f1 f2 f3 p0 hrv hrl a9;generalize hN.set sP (rows2.map SR.pv++pc.drop (i+1))=h0 at *
 have lC:∀{g:PHeap} {cur:List SR},LI (σ.new [.fz true .nils 0 [],.fz true .nils 0 [],.fz true .nils 0 []]) H g tp (S.next+1) sP sC (.sl (S.next+1) 0 n capO) capP capC n (pis (List.replicate n p)) pc ls rows2 Rs cur→g.rd1 tp 2=some (.sl sC 0 n capC)∧g.rd1 sC i=some (LS.pvo (ls[i]'(by omega)))∧g.rd1 s 0=some (.int .i64 p):=fun {g cur} l=>by
  refine⟨by rw [zI l.tpo];rfl,?_,by rw [zI (hsT.keep l.keep).obj];rfl⟩
  rw [zI l.oC,List.getElem?_map,List.getElem?_eq_getElem (by omega)];rfl
 obtain⟨g2,gC,gp⟩:=lC a2;obtain⟨s1,s2⟩:=hsh i (by omega)
 have hpl:pLen (LS.pvo (ls[i]'(by omega)))=some (.int .i64 ((n-1-i:Nat):Int)):=by
  by_cases e:i+1=n
  ·rw [s1 e,show n-1-i=0 by omega];rfl
  ·obtain⟨q',e1,e2⟩:=s2 (by omega)
   rw [e1,←e2];rfl
 simp only [pwA,seval,-iQ0,f1n,hlt',u1,g2,gC,hpl];clear u1 f1n;refine zKu 2 (fun e h=>∃(cur:List SR) (b0:PV),e=PEnv.mk [0,2,3,4,5,6,21,22,46,47,48] [.ptr s 0,.ptr σ.next 0,.int .i64 n,.ptr tp 0,.int .i64 i,.fz true a1 n (pis (unitL n i)),.int .i64 n,.int .i64 i,.int .i64 ((n-1-i:Nat):Int),.int .i64 ((n-1-i:Nat):Int),b0]∧LI (σ.new [.fz true .nils 0 [],.fz true .nils 0 [],.fz true .nils 0 []]) H h tp (S.next+1) sP sC (.sl (S.next+1) 0 n capO) capP capC n (pis (List.replicate n p)) pc ls rows2 Rs cur∧cur.map SR.x=lgR p n W B i (n-1-i)) (fun Q hQ=>?_) ?_
 rotate_left
 ·as_aux_lemma=>
  rintro e h9 ⟨cur,b0,rfl,l,hcv⟩
  have hcl:cur.length=n-1-i:=by have:=congrArg List.length hcv;simpa [lgR]using this
  have l2:=l.close (fun q' hq'=>by
   rw [hRl]at hq'
   obtain⟨hj,hje⟩:=List.getElem?_eq_some_iff.1 hq'
   by_cases e:i+1=n
   ·rw [s1 e]at hje;cases hje
   ·obtain⟨q2,e1,e2⟩:=s2 (by omega)
    rw [e1]at hje;cases hje;omega)
  simp only [pwA,seval,-iQ0,wrapS hlt' (by omega:n≤4611686018427387904)]
  refine⟨_,by omega,i+1,rows2,Rs++[cur],by omega,rfl,rfl,l2,hr2,by rw [List.length_append,hRl];rfl,hv2,?_⟩
  rw [List.map_append,hRv];unfold lgCs;rw [List.range_succ,List.map_append];simp only [List.map_cons,List.map_nil,hcv]
 as_aux_lemma=>
 refine zG (fun m us h=>∃(k:Nat) (cur:List SR),k≤n-1-i∧m=n-1-i-k∧us=[.ptr s 0,.ptr σ.next 0,.int .i64 n,.ptr tp 0,.int .i64 i,.fz true a1 n (pis (unitL n i)),.int .i64 n,.int .i64 i,.int .i64 ((n-1-i:Nat):Int),.int .i64 k]∧LI (σ.new [.fz true .nils 0 [],.fz true .nils 0 [],.fz true .nils 0 []]) H h tp (S.next+1) sP sC (.sl (S.next+1) 0 n capO) capP capC n (pis (List.replicate n p)) pc ls rows2 Rs cur∧cur.length=k∧cur.map SR.x=lgR p n W B i k) (n-1-i) ⟨0,[],by omega,by omega,rfl,a2,rfl,rfl⟩ ?_
 rintro m us h8 ⟨k,cur,hk8,rfl,rfl,l,hcl,hcv⟩
 obtain⟨g2,gC,gp⟩:=lC l;simp only [pwA,seval,-iQ0];refine iteI (fun hltk=>?_) fun hgek=>?_
 rotate_left
 ·have hke:k=n-1-i:=by omega
  rw [hke]at hcv
  exact hQ _ _ ⟨cur,_,by rw [hke],l,hcv⟩
 have hkn:k<n-1-i:=by omega
 obtain⟨q0,e1,e2⟩:=s2 (by omega)
 have hj:i+(1+k)<n:=by omega
 have huj:=zR (n:=n) o.pr hj;have ew1:IntKind.i64.wrap ((i:Int)+1)=((i+1:Nat):Int):=by rw [wrap64 (by omega) (by omega)];omega
 have ew2:IntKind.i64.wrap (((i+1:Nat):Int)+(k:Int))=((i+(1+k):Nat):Int):=by rw [wrap64 (by omega) (by omega)];omega
 rw [e1]at gC
 have gC':h8.rd1 sC i=some (.sl q0.s 0 q0.cs.length q0.cap):=gC;simp only [pwA,seval,-iQ0,g2,gC',hlt',ew1,ew2];have hsp8:=hsT.keep l.keep;refine QM o hsp8 hR0.P hu ⟨true,a1,by rw [hu.1]⟩ (k:=-1) (by omega) fun v1 fv1=>?_
 have hel1:El p n (lmul p W (-1) (unitL n i)):=zAN o hu;have fv1':=fv1;obtain⟨w1,x1,rfl⟩:=fv1;simp only [pwA,seval,-iQ0,g2,gC',ew1,ew2];refine zn (by omega) hj fun a2=>?_
 have hnt:¬tp=h8.next:=by have:=(b.b tp (by simp)).2;have:=l.nx;omega
 have hnC:¬sC=h8.next:=by have:=(b.b sC (by simp)).2;have:=l.nx;omega
 have hn8:¬s=h8.next:=by have:=hsp8.lt;omega
 simp only [pwA,seval,-iQ0,g2,gC',hnt,hnC];have hrow:All2 FI [.fz w1 x1 (lmul p W (-1) (unitL n i)).length (pis (lmul p W (-1) (unitL n i))),.fz true a2 n (pis (unitL n (i+(1+k)))),.fz true a1 n (pis (unitL n i))] [lmul p W (-1) (unitL n i),unitL n (i+(1+k)),unitL n i]:=
  (((All2.nil _).snoc fv1').snoc ⟨true,a2,by rw [huj.1]⟩).snoc ⟨true,a1,by rw [hu.1]⟩
 refine zA.frz (s:=h8.next) (by rw [zP,if_pos rfl]) (hrow.bI 0) fun o2=>?_
 simp only [sbs,Go.Ab.sb,capOK,and_self,if_true,decide_true,Nat.le_refl];have lk:=l.keepI b (((Keep.refl h8).new [.fz w1 x1 (lmul p W (-1) (unitL n i)).length (pis (lmul p W (-1) (unitL n i))),.fz true a2 n (pis (unitL n (i+(1+k)))),.fz true a1 n (pis (unitL n i))]).kill (Nat.le_refl _));generalize (h8.new [.fz w1 x1 (lmul p W (-1) (unitL n i)).length (pis (lmul p W (-1) (unitL n i))),.fz true a2 n (pis (unitL n (i+(1+k)))),.fz true a1 n (pis (unitL n i))]).kill h8.next=h7 at *
 obtain⟨k2,kC,kp⟩:=lC lk;rw [e1]at kC
 have kC':h7.rd1 sC i=some (.sl q0.s 0 q0.cs.length q0.cap):=kC;have hsp7:=hsT.keep lk.keep;have hels:Els p n [lmul p W (-1) (unitL n i),unitL n (i+(1+k)),unitL n i]:=fun y hy=>by
  simp only [List.mem_cons,List.not_mem_nil,or_false]at hy
  rcases hy with rfl|rfl|rfl<;>assumption
 refine zA.fzI (fun K' h'=>zKm z hsp7 hR0 ⟨true,_,_,rfl,hrow⟩ hels (by simp) h') fun a3=>?_
 have hfe:=Q9 o q hels;simp only [pwA,seval,-iQ0,k2,kC'];refine zAW z hsp7 hR0 (x:=conj p n W B (unitL n (i+(1+k))) (unitL n i)) hfe ⟨true,a3,rfl⟩ fun cap2 hc2=>?_
 have hxl:(vcG p n W B (conj p n W B (unitL n (i+(1+k))) (unitL n i))).length=n:=ZF n;have hxv:vcG p n W B (conj p n W B (unitL n (i+(1+k))) (unitL n i))=lgC p n W B i k:=rfl;rw [hxv]at hxl ⊢
 have hq0:ls[Rs.length]? = some (some q0):=by rw [hRl,List.getElem?_eq_getElem (by omega),e1]
 obtain⟨u1,l2⟩:=LI.putC b lk (x:=lgC p n W B i k) (cap:=cap2) (by rw [hxl];exact hc2) hq0 (by omega)
 rw [hcl,hxl]at u1
 rw [hcl]at l2
 have lN:=lk.keepI b (zD h7 (pis (lgC p n W B i k)));obtain⟨j2,jC,jp⟩:=lC lN;rw [e1]at jC
 have jC':(h7.new (pis (lgC p n W B i k))).rd1 sC i=some (.sl q0.s 0 q0.cs.length q0.cap):=jC;generalize h7.new (pis (lgC p n W B i k))=hN at *
 have hcv2:(cur++[(⟨h7.next,cap2,lgC p n W B i k⟩:SR)]).map SR.x=lgR p n W B i (k+1):=by
  rw [List.map_append,hcv];unfold lgR;rw [List.range_succ,List.map_append];rfl
 have hcl2:(cur++[(⟨h7.next,cap2,lgC p n W B i k⟩:SR)]).length=k+1:=by rw [List.length_append,hcl];rfl
 generalize cur++[(⟨h7.next,cap2,lgC p n W B i k⟩:SR)]=cur2 at *
 generalize hN.set q0.s (cur2.map SR.pv++q0.cs.drop (k+1))=hE at *
 have hkq:k<q0.cs.length:=by omega
 simp only [pwA,seval,-iQ0,j2,jC',hkq,u1,wrapS hkn (by omega:n-1-i≤4611686018427387904)]
 exact⟨_,by omega,k+1,cur2,by omega,rfl,rfl,l2,hcl2,hcv2⟩
end Go.Proofs
namespace Go.Proofs
open Go.Ab Go.Lie
variable {σ H h:PHeap} {K:PV→PHeap→Prop} {n c:Nat} {p:Int} {W:List (List Int)} {B:List (List (List Int))} {vP vB:PV} {s:Nat}
theorem zKx {i j:Nat} (hi:i<n):at_ (unitL n i) j=if j=i then 1 else 0:=by
 unfold unitL;rw [at_set (by simp;exact hi),zm]
theorem zPA (o:OkW p n W) {i:Nat} (hi:i<n):lmul p W p (unitL n i)=W.getD i []:=by
 have hl:=o.len;have hiW:i<W.length:=by omega
 obtain⟨r1,r2,r3⟩:=o.row i hiW;rw [qB hiW];obtain⟨e1,e2⟩:=Zh o (zR (n:=n) o.pr hi) p;refine qJ o e1.1 r1 e1.2 r2 (e2.trans ?_);have h1:=((Eqv.rel (p:=p) (n:=n) (W:=W) hi).symm).add (Eqv.refl (fun j=>p*at_ (unitL n i) j))
 refine((Eqv.of_eq fun j=>by omega).trans h1).trans (Eqv.of_eq fun j=>?_)
 rw [zKx hi];unfold rel w_;rw [qB hiW]
 split<;>omega
structure ST (T h:PHeap) (p0:Nat) (fs:List (PV×List PV)) (ls:List LS):Prop where
 keep:Keep T h
 obj:h.obj p0=some (fs.map Prod.fst)
 p0b:T.next≤p0∧p0<h.next
 acc:∀f,f∈fs→PSl T.next 1 h f.1 f.2.length f.2
 ne:∀f,f∈fs→∀off l c,f.1≠.sl p0 off l c
 dis:∀(i j:Nat) f g,fs[i]? = some f→fs[j]? = some g→i≠j→∀s off l c,f.1=.sl s off l c→∀off l c,g.1≠.sl s off l c
 lok:∀q,q∈ls→q.ok h T.next
 lne:∀q,q∈ls→q.s≠p0∧∀f,f∈fs→∀off l c,f.1≠.sl q.s off l c
variable {T:PHeap} {p0:Nat} {fs:List (PV×List PV)} {ls:List LS}
theorem Q5 {b e m:Nat} {h h2:PHeap} {v:PV} {cs:List PV} (a:PSl b e h v m cs) (ho:∀s off l c,v=.sl s off l c→h2.obj s=h.obj s) (hn:h.next≤h2.next):PSl b e h2 v m cs:=by
 obtain⟨s,cap,rfl,h1,h2',h3,h4,h5⟩:=a;exact⟨s,cap,rfl,h1,by rw [ho s 0 _ cap rfl];exact h2',h3,h4,Nat.lt_of_lt_of_le h5 hn⟩
theorem Z8 {b e m:Nat} {h:PHeap} {v:PV} {cs:List PV} (a:PSl b e h v m cs) {s off l:Nat} {c:Cap} (hv:v=.sl s off l c):s<h.next:=Q7 a.acc hv
theorem ST.keepI {h2:PHeap} (a:ST T h p0 fs ls) (k:Keep h h2):ST T h2 p0 fs ls:=
 ⟨a.keep.trans k,by rw [k.obj _ a.p0b.2];exact a.obj,⟨a.p0b.1,Nat.lt_of_lt_of_le a.p0b.2 k.next⟩,fun f hf=>(a.acc f hf).keep k,a.ne,a.dis,fun q hq=>(a.lok q hq).move (k.obj _ (a.lok q hq).2.2.2) k.next,a.lne⟩
theorem ST.more {q:LS} (a:ST T h p0 fs ls) (h1:q.ok h T.next) (h2:q.s≠p0∧∀f,f∈fs→∀off l c,f.1≠.sl q.s off l c):ST T h p0 fs (ls++[q]):=
 ⟨a.keep,a.obj,a.p0b,a.acc,a.ne,a.dis,fun q' hq=>(List.mem_append.1 hq).elim (a.lok q') fun e=>by rw [List.mem_singleton.1 e];exact h1,fun q' hq=>(List.mem_append.1 hq).elim (a.lne q') fun e=>by rw [List.mem_singleton.1 e];exact h2⟩
theorem ST.push {K:PV×PHeap→Prop} {bytes j:Nat} {v x:PV} {cs:List PV} (a:ST T h p0 fs ls) (hj:fs[j]? = some (v,cs)) (hb:cs.length≤1000) (hby:bytes≤24) (hone:∀f,f∈fs→f.1.one=true)
    (k:∀v' h2,v'.one=true→v'.cells=[v']→h2.wr p0 j [v']=some (h2.set p0 ((fs.set j (v',cs++[x])).map Prod.fst))→ST T (h2.set p0 ((fs.set j (v',cs++[x])).map Prod.fst)) p0 (fs.set j (v',cs++[x])) ls→K (v',h2)):
    optK (qH 1 bytes (h.new [x]) v (.sl h.next 0 1 (.known 1))) K:=by
  have hm:(v,cs)∈fs:=List.mem_of_getElem? hj;obtain⟨hjl,hje⟩:=List.getElem?_eq_some_iff.1 hj;have hb2:(cs.length+1)*bytes≤1001*24:=Nat.mul_le_mul (by omega) hby
  refine PAcc.pushS (σb:=T) (bytes:=bytes) a.keep (a.acc _ hm).acc rfl (by show(cs.length+1)*bytes≤_;omega) (by show cs.length+1≤_;omega) fun v' h2 k2 a2 o2 n2 l2=>?_
  have hp:=a.p0b;have hob:h2.obj p0=some (fs.map Prod.fst):=by rw [o2 _ hp.2 (a.ne _ hm)];exact a.obj
  have hset:(fs.set j (v',cs++[x])).map Prod.fst=(fs.map Prod.fst).set j v':=by rw [List.map_set]
  have hmem:∀f,f∈fs.set j (v',cs++[x])→f=(v',cs++[x])∨∃i,i≠j∧fs[i]? = some f:=fun f hf=>by
    obtain⟨i,hi⟩:=List.getElem?_of_mem hf;rw [List.getElem?_set]at hi
    split at hi
    · first
      | (cases hi;exact .inl rfl)
      | (split at hi
         · cases hi;exact .inl rfl
         · cases hi)
    · rename_i e;exact .inr ⟨i,fun e2=>e e2.symm,hi⟩
  refine k v' h2 a2.one a2.cells ?_ ⟨k2.set hp.1 _,by rw [zH,if_pos rfl],⟨hp.1,by show p0<h2.next;omega⟩,fun f hf=>?_,fun f hf=>?_,fun i1 i2 f g hf hg hne s off l c e=>?_,fun q hq=>?_,fun q hq=>⟨(a.lne q hq).1,fun f hf=>?_⟩⟩
  · rw [zq hob,if_pos ⟨by rw [List.length_map,List.length_singleton];omega,by simp only [List.all_cons,List.all_nil,a2.one];rfl⟩,hset]
    congr 2
    rw [List.append_assoc,List.singleton_append,List.length_singleton,take_set _ (by rw [List.length_map];exact hjl)]
  · rcases hmem f hf with rfl | ⟨i,hi,he⟩
    · have a3:PSl T.next 1 (h2.set p0 ((fs.set j (v',cs++[x])).map Prod.fst)) v' (cs.length+1) (cs++[x]):=Q5 a2 (fun s off l c e=>by rw [zH,if_neg fun e2=>n2 p0 hp.2 off l c (by rw [e,e2])]) (Nat.le_refl _)
      simpa using a3
    · have hfm:=List.mem_of_getElem? he
      refine Q5 (a.acc f hfm) (fun s off l c e=>?_) (Nat.le_of_lt l2)
      rw [zH,if_neg fun e2=>a.ne f hfm off l c (by rw [e,e2]),o2 s (Z8 (a.acc f hfm) e) (a.dis i j f _ he hj hi s off l c e)]
  · rcases hmem f hf with rfl | ⟨i,hi,he⟩
    · exact n2 p0 hp.2
    · exact a.ne f (List.mem_of_getElem? he)
  · rw [List.getElem?_set]at hf hg
    by_cases e1:j=i1
    · rw [if_pos e1,if_pos hjl]at hf
      cases hf;rw [if_neg fun e2=>hne (e1.symm.trans e2)]at hg
      have hgm:=List.mem_of_getElem? hg;intro off' l' c' e';exact n2 s (Z8 (a.acc g hgm) e') off l c e
    · rw [if_neg e1]at hf
      have hfm:=List.mem_of_getElem? hf
      by_cases e2:j=i2
      · rw [if_pos e2,if_pos hjl]at hg
        cases hg;exact n2 s (Z8 (a.acc f hfm) e)
      · rw [if_neg e2]at hg
        exact a.dis i1 i2 f g hf hg hne s off l c e
  · have hq':=a.lok q hq
    refine hq'.move ?_ (Nat.le_of_lt l2);rw [zH,if_neg (a.lne q hq).1,o2 _ hq'.2.2.2 ((a.lne q hq).2 _ hm)]
  · rcases hmem f hf with rfl | ⟨i,hi,he⟩
    · exact n2 _ (a.lok q hq).2.2.2
    · exact(a.lne q hq).2 f (List.mem_of_getElem? he)
theorem Qb:∀cs:List PV,TR.pvs (cs.map TR.leaf)=cs
 | []=>rfl
 | c::cs=>by simp only [List.map_cons,TR.pvs,TR.pv,Qb cs]
theorem Qd {a:Nat→Nat}:∀cs:List PV,TR.fzs a (cs.map TR.leaf)=cs
 | []=>rfl
 | c::cs=>by simp only [List.map_cons,TR.fzs,TR.fz,Qd cs]
theorem Qc {b:Nat}:∀{cs:List PV},Bels 0 cs→TR.okFs h b (cs.map TR.leaf)
 | [],_=>trivial
 | c::cs,hb=>⟨hb.1,Qc hb.2⟩
def LS.tr (q:LS):TR:=.lst q.s q.cap (q.cs.map TR.leaf)
theorem LS.tr_pvs:∀ls:List LS,TR.pvs (ls.map LS.tr)=ls.map LS.pv
 | []=>rfl
 | q::ls=>by simp only [List.map_cons,TR.pvs,LS.tr_pvs ls];simp only [LS.tr,TR.pv,List.length_map,LS.pv]
theorem LS.tr_okF {b:Nat} {q:LS} (h1:q.ok h b) (h2:Bels 0 q.cs):(LS.tr q).okF h b:=⟨⟨by rw [List.length_map];exact h1.1,by rw [Qb];exact h1.2.1,h1.2.2.1,h1.2.2.2⟩,Qc h2⟩
theorem LS.trs_okF {b:Nat}:∀{ls:List LS},(∀q,q∈ls→q.ok h b∧Bels 0 q.cs)→TR.okFs h b (ls.map LS.tr)
 | [],_=>trivial
 | q::ls,k=>⟨LS.tr_okF (k q (List.mem_cons_self ..)).1 (k q (List.mem_cons_self ..)).2,LS.trs_okF fun q' hq=>k q' (List.mem_cons_of_mem _ hq)⟩
def zH2 (ls:List LS) (Ms:List (List (List Int))):Prop:=All2 (fun(q:LS) (R:List (List Int))=>All2 FI q.cs R) ls Ms
theorem zBM {a:Nat→Nat} {ls:List LS} {Ms:List (List (List Int))} (k:zH2 ls Ms):All2 FII (TR.fzs a (ls.map LS.tr)) Ms:=by
 have hl:∀ls:List LS,(TR.fzs a (ls.map LS.tr)).length=ls.length:=fun ls=>by rw [TR.fzs_length,List.length_map]
 have hg:∀(ls:List LS) (i:Nat),(TR.fzs a (ls.map LS.tr))[i]? = ls[i]?.map fun q=>(LS.tr q).fz a:=by
  intro ls
  induction ls with
  | nil=>intro i;simp [TR.fzs]
  | cons q ls ih=>
   intro i;cases i with
   | zero=>simp [TR.fzs]
   | succ i=>simpa [TR.fzs]using ih i
 refine⟨by rw [hl];exact k.1,fun i c R hc hR=>?_⟩
 rw [hg]at hc
 obtain⟨q,hq,rfl⟩:=Option.map_eq_some_iff.1 hc;have h2:=k.2 i q R hq hR;exact⟨true,.sl (a q.s) 0 q.cs.length q.cap,q.cs,by simp only [LS.tr,TR.fz,Qd,List.length_map];rw [h2.1],h2⟩
theorem zIk (z:Lz p n W B c) (hR:IsR vP vB W B) (hk:∀vO vQ vC,FI vO (List.replicate n p)→FII vQ (lgPs p n W B n)→FIII vC (lgCs p n W B n)→K (.agg [vO,vQ,vC]) σ):zA Tryz.prog 88 [.agg [.int .i64 p,vP,vB]] σ K:=by
 have o:=z.r.o;have q:=z.r.q;have hn6:=o.le;have hWl:=o.len;have hpb:=z.hp.bd;have hR0:=hR;have hB1:=hR.B.one;obtain⟨⟨wp,ap,rp,rfl,hrp⟩,hB⟩:=hR;refine zA.gh ?_;generalize hT:(σ.new [.int .i64 p,.fz wp ap W.length rp,vB]).new [.fz true .nils 0 [],.fz true .nils 0 [],.fz true .nils 0 []]=T;have hTn:T.next=σ.next+2:=by rw [←hT];rfl
 have hkT:Keep σ T:=by rw [←hT];exact(zD σ _).new _
 have ld:∀{g:PHeap},Keep T g→g.rd σ.next 0 3=some [.int .i64 p,.fz wp ap W.length rp,vB]∧g.rd1 σ.next 0=some (.int .i64 p)∧g.rd1 σ.next 1=some (.fz wp ap W.length rp):=fun {g} k=>by
  have ob:g.obj σ.next=some [.int .i64 p,.fz wp ap W.length rp,vB]:=by rw [k.obj _ (by omega),←hT];simp only [pwA,seval,-iQ0]
  exact⟨by rw [zh ob];rfl,by rw [zI ob];rfl,by rw [zI ob];rfl⟩
 have hO3:∀{g:PHeap} {u0 u1 u2:PV},Keep T g→u0.one=true→u1.one=true→u2.one=true→g.wr (σ.next+1) 0 [u0,u1,u2]=some (g.set (σ.next+1) [u0,u1,u2])∧(g.set (σ.next+1) [u0,u1,u2]).rd (σ.next+1) 0 3=some [u0,u1,u2]:=fun {g u0 u1 u2} k z0 z1 z2=>by
  have hres:g.obj (σ.next+1)=some [.fz true .nils 0 [],.fz true .nils 0 [],.fz true .nils 0 []]:=by rw [k.obj _ (by omega),←hT];simp only [pwA,seval,-iQ0]
  exact⟨by rw [zq hres,if_pos ⟨by simp,by simp only [List.all_cons,List.all_nil,z0,z1,z2];rfl⟩];rfl,by rw [qo,if_pos rfl];rfl⟩
 obtain⟨l3,l0,l1⟩:=ld (Keep.refl T);refine zN mix Tryz.func88 cf88 rfl ?_;dsimp only [if88,qI,eI,nI,qD,eD,mI0,kI0,lI0,LI0,fI0,bI0,cI0,sI0,mD0,lD0,fD0,xD0,R0,S0];simp only [pwA,seval,-iQ0,hB1];rw [hT];simp only [pwA,seval,-iQ0,l1,hWl];refine zG (fun m us h=>∃(i:Nat) (vO vP vC:PV) (cO cP cC:List PV) (ls:List LS),i≤n∧m=n-i∧us=[.ptr σ.next 0,.ptr (σ.next+1) 0,.int .i64 n,.ptr (σ.next+5) 0,.int .i64 i]∧ST T h (σ.next+5) [(vO,cO),(vP,cP),(vC,cC)] ls∧cO=pis (List.replicate i p)∧All2 FI cP (lgPs p n W B i)∧cC=ls.map LS.pv∧zH2 ls (lgCs p n W B i)) n ?_ ?_
 ·refine⟨0,.sl (σ.next+2) 0 0 (.known 0),.sl (σ.next+3) 0 0 (.known 0),.sl (σ.next+4) 0 0 (.known 0),[],[],[],[],by omega,by omega,rfl,⟨(((zD T _).new _).new _).new _,by simp only [pwA,seval,-iQ0,hTn],⟨by omega,by first | (simp only [pwA,seval,-iQ0,hTn];done) | (simp only [pwA,seval,-iQ0,hTn];omega)⟩,fun f hf=>?_,fun f hf off l c e=>?_,fun i j f g hf hg hne s off l c e off' l' c' e'=>?_,fun q hq=>(by cases hq),fun q hq=>(by cases hq)⟩,rfl,All2.nil _,rfl,All2.nil _⟩
  ·simp only [List.mem_cons,List.not_mem_nil,or_false]at hf
   rcases hf with rfl|rfl|rfl
   ·exact PSl.own (.inr rfl) (by simp only [pwA,seval,-iQ0,hTn]) rfl (by omega) (by first | (simp only [pwA,seval,-iQ0,hTn];done) | (simp only [pwA,seval,-iQ0,hTn];omega))
   ·exact PSl.own (.inr rfl) (by simp only [pwA,seval,-iQ0,hTn]) rfl (by omega) (by first | (simp only [pwA,seval,-iQ0,hTn];done) | (simp only [pwA,seval,-iQ0,hTn];omega))
   ·exact PSl.own (.inr rfl) (by simp only [pwA,seval,-iQ0,hTn]) rfl (by omega) (by first | (simp only [pwA,seval,-iQ0,hTn];done) | (simp only [pwA,seval,-iQ0,hTn];omega))
  ·simp only [List.mem_cons,List.not_mem_nil,or_false]at hf
   rcases hf with rfl|rfl|rfl<;>(simp only [PV.sl.injEq]at e;omega)
  ·match i,j with
   | 0,0=>exact hne rfl
   | 1,1=>exact hne rfl
   | 2,2=>exact hne rfl
   | 0,1 | 0,2 | 1,0 | 1,2 | 2,0 | 2,1=>cases hf;cases hg;simp only [PV.sl.injEq]at e e';omega
   | i+3,_=>simp at hf
   | 0,j+3 | 1,j+3 | 2,j+3=>simp at hg
 as_aux_lemma=>
 rintro m us h ⟨i,vO,vP,vC,cO,cP,cC,ls,hi,rfl,rfl,a,hcO,hcP,hcC,hcR⟩
 obtain⟨l3,l0,l1⟩:=ld a.keep;have aO:=a.acc (vO,cO) (by simp)
 have aP:=a.acc (vP,cP) (by simp)
 have aC:=a.acc (vC,cC) (by simp)
 have f0:h.rd1 (σ.next+5) 0=some vO:=by rw [zI a.obj];rfl
 have f3:h.rd (σ.next+5) 0 3=some [vO,vP,vC]:=by rw [zh a.obj];rfl
 simp only [pwA,seval,-iQ0];refine iteI (fun hlt=>?_) fun hge=>?_
 rotate_left
 ·as_aux_lemma=>
  have hie:i=n:=by omega
  subst hie;obtain⟨g1,g2⟩:=hO3 a.keep aO.one aP.one aC.one;simp only [pwA,seval,-iQ0,f3,g1,g2];obtain⟨sO,capO,e1,o1,o2,o3,o4,o5⟩:=aO;obtain⟨sP,capP,e2,q1,q2,q3,q4,q5⟩:=aP;obtain⟨sC,capC,e3,r1,r2,r3,r4,r5⟩:=aC;dsimp only at e1 o1 o2 o3 e2 q1 q2 q3 e3 r1 r2 r3
  subst e1 e2 e3;have et:(TR.agg [.lst sO capO (cO.map TR.leaf),.lst sP capP (cP.map TR.leaf),.lst sC capC (ls.map LS.tr)]).pv=.agg [.sl sO 0 cO.length capO,.sl sP 0 cP.length capP,.sl sC 0 cC.length capC]:=by
   simp only [TR.pv,TR.pvs,List.length_map];rw [hcC,List.length_map]
  rw [←et];have ob:∀s,T.next≤s→(h.set (σ.next+1) [.sl sO 0 cO.length capO,.sl sP 0 cP.length capP,.sl sC 0 cC.length capC]).obj s=h.obj s:=fun s hs=>by rw [zH,if_neg (by omega)]
  refine Gh.treeF ((hkT.trans a.keep).set (by omega) _) ⟨⟨⟨by rw [List.length_map];exact o1,by rw [ob _ o4,Qb];exact o2,by omega,o5⟩,Qc (by rw [hcO];exact zM _ _)⟩,⟨⟨by rw [List.length_map];exact q1,by rw [ob _ q4,Qb];exact q2,by omega,q5⟩,Qc (hcP.bI 0)⟩,⟨⟨by rw [List.length_map];rw [hcC,List.length_map]at r1;exact r1,by rw [ob _ r4,LS.tr_pvs,←hcC];exact r2,by omega,r5⟩,LS.trs_okF fun q hq=>?_⟩,trivial⟩ fun aa=>hk _ _ _ ⟨true,.sl (aa sO) 0 cO.length capO,?_⟩ ⟨true,.sl (aa sP) 0 cP.length capP,cP,?_,hcP⟩ ⟨true,.sl (aa sC) 0 ls.length capC,TR.fzs aa (ls.map LS.tr),?_,zBM hcR⟩
  ·obtain⟨g1,g2,g3,g4⟩:=a.lok q hq
   refine⟨⟨g1,by rw [ob _ g3];exact g2,by omega,g4⟩,?_⟩
   obtain⟨k,hk9,rfl⟩:=List.mem_iff_getElem.1 hq;exact(hcR.2 k _ _ (List.getElem?_eq_getElem hk9) (List.getElem?_eq_getElem (by rw [←hcR.1];exact hk9))).bI 0
  ·simp only [TR.fz,Qd,List.length_map];rw [hcO];simp [zK]
  ·simp only [TR.fz,Qd,List.length_map];rw [hcP.1]
  ·simp only [TR.fz,List.length_map];rw [hcR.1]
 have hlt':i<n:=by omega
 have hiW:i<W.length:=by omega
 have hone:∀f,f∈[(vO,cO),(vP,cP),(vC,cC)]→f.1.one=true:=fun f hf=>(a.acc f hf).one
 have hcOl:cO.length=i:=by rw [hcO];simp [zK]
 have hcPl:cP.length=i:=by rw [hcP.1];simp [lgPs]
 have hcCl:cC.length=i:=by rw [hcC,List.length_map,hcR.1];simp [lgCs]
 simp only [pwA,seval,-iQ0,f0,l0];refine ST.push a (j:=0) (bytes:=8) rfl (by omega) (by omega) hone fun v1 h1 z1 z2 z3 a1=>?_
 simp only [List.set_cons_zero,List.map_cons,List.map_nil]at z3 a1
 generalize h1.set (σ.next+5) [v1,vP,vC]=h2 at *
 obtain⟨l3,l0,l1⟩:=ld a1.keep;have f1:h2.rd1 (σ.next+5) 1=some vP:=by rw [zI a1.obj];rfl
 obtain⟨w4,a4,hr4⟩:=hrp.rowI hiW;simp only [pwA,seval,-iQ0,z1,z2,z3,l3,l1,f1,hiW,hr4];obtain⟨wr1,wr2,wr3⟩:=o.row i hiW;refine zA0 z hR0 (x:=W[i]) ⟨wr1,wr2⟩ ⟨w4,a4,rfl⟩ fun v2 hv2=>?_
 have hv2':FI v2 (lgP p n W B i):=by unfold lgP;rw [zPA o hlt',qB hiW];exact hv2
 have y1:=hv2'.one;have y2:=hv2'.cells;have hn5:¬σ.next+5=h2.next:=by have:=a1.p0b.2;omega
 simp only [pwA,seval,-iQ0,y1,y2,f1,hn5];have hone1:∀f,f∈[(v1,cO++[.int .i64 p]),(vP,cP),(vC,cC)]→f.1.one=true:=fun f hf=>(a1.acc f hf).one
 refine ST.push a1 (j:=1) (bytes:=24) rfl (by omega) (by omega) hone1 fun v3 h3 z4 z5 z6 a3=>?_
 simp only [List.set_cons_zero,List.set_cons_succ,List.map_cons,List.map_nil]at z6 a3
 generalize h3.set (σ.next+5) [v1,v3,vC]=h4 at *
 have wi1:IntKind.i64.wrap ((i:Int)+1)=((i+1:Nat):Int):=wrapS hlt' (by omega)
 simp only [pwA,seval,-iQ0,z4,z5,z6,wi1];clear z1 z2 z3 z4 z5 z6 f0 f1 f3 l3 l0 l1 y1 y2;refine zKu 2 (fun e h=>∃(vR:PV) (cells:List PV) (b0:PV),e=PEnv.mk [1,2,3,4,5,6,7,44] [.ptr σ.next 0,.ptr (σ.next+1) 0,.int .i64 n,.ptr (σ.next+5) 0,.int .i64 i,vR,.int .i64 n,b0]∧Keep h4 h∧PSl h4.next 1 h vR (n-1-i) cells∧All2 FI cells (lgR p n W B i (n-1-i))) (fun Q hQ=>?_) ?_
 rotate_left
 ·as_aux_lemma=>
  rintro e h9 ⟨vR,cells,b0,rfl,k9,p9,hcl⟩
  have a9:=a3.keepI k9;obtain⟨t,cap,rfl,hf,q2,q3,q4,q5⟩:=p9;have f2:h9.rd1 (σ.next+5) 2=some vC:=by rw [zI a9.obj];rfl
  have hn9:¬σ.next+5=h9.next:=by have:=a9.p0b.2;omega
  have hone3:∀f,f∈[(v1,cO++[.int .i64 p]),(v3,cP++[v2]),(vC,cC)]→f.1.one=true:=fun f hf=>(a9.acc f hf).one
  have hct:cells.length=n-1-i:=by omega
  have a10:=ST.more (q:=⟨t,cap,cells⟩) a9 ⟨by rw [hct];exact hf,q2,by have:=a3.keep.next;show T.next≤t;omega,q5⟩ ⟨by have:=a3.p0b.2;show t≠σ.next+5;omega,fun f hf off l c e=>by
   have:=Z8 (a3.acc f hf) e
   have:t<h4.next:=this
   omega⟩
  simp only [pwA,seval,-iQ0,f2,hn9];refine ST.push a10 (j:=2) (bytes:=24) rfl (by omega) (by omega) hone3 fun v5 h5 z1 z2 z3 a5=>?_
  simp only [List.set_cons_zero,List.set_cons_succ,List.map_cons,List.map_nil]at z3 a5
  generalize h5.set (σ.next+5) [v1,v3,v5]=h6 at *
  simp only [pwA,seval,-iQ0,z1,z2,z3,wrapS hlt' (by omega:n≤4611686018427387904)]
  refine⟨_,by omega,i+1,v1,v3,v5,_,_,_,ls++[⟨t,cap,cells⟩],by omega,rfl,rfl,a5,?_,?_,?_,?_⟩
  ·rw [hcO,List.replicate_succ',←Qm];rfl
  ·unfold lgPs;rw [List.range_succ,List.map_append];exact hcP.snoc hv2'
  ·rw [hcC,List.map_append];simp only [List.map_cons,List.map_nil,LS.pv];rw [hct]
  ·unfold lgCs;rw [List.range_succ,List.map_append];exact hcR.snoc hcl
 as_aux_lemma=>
 refine zG (fun m us h=>∃(k:Nat) (vR:PV) (cells:List PV),i+(1+k)≤n∧m=n-(i+(1+k))∧us=[.ptr σ.next 0,.ptr (σ.next+1) 0,.int .i64 n,.ptr (σ.next+5) 0,.int .i64 i,vR,.int .i64 ((i+(1+k):Nat):Int)]∧Keep h4 h∧PSl h4.next 1 h vR k cells∧All2 FI cells (lgR p n W B i k)) (n-(i+1)) ⟨0,_,[],by omega,rfl,rfl,zD _ _,PSl.new _ 1 rfl (Nat.le_refl _),All2.nil _⟩ ?_
 rintro m us h7 ⟨k,vR,cells,hk7,rfl,rfl,k7,p7,hcl⟩
 obtain⟨l3,l0,l1⟩:=ld (a3.keepI k7).keep;simp only [pwA,seval,-iQ0];refine iteI (fun hltj=>?_) fun hgej=>?_
 rotate_left
 ·have hke:k=n-1-i:=by omega
  subst hke;exact hQ _ _ ⟨vR,cells,_,by rw [show((i+(1+(n-1-i)):Nat):Int)=(n:Int) by omega],k7,p7,hcl⟩
 have hj:i+(1+k)<n:=by omega
 have hui:=zR (n:=n) o.pr hlt';have huj:=zR (n:=n) o.pr hj;simp only [pwA,seval,-iQ0,l3];refine ZA hR0 hWl (by omega) hj fun b1=>?_
 simp only [pwA,seval,-iQ0,l3];refine ZA hR0 hWl (by omega) hlt' fun b2=>?_
 simp only [pwA,seval,-iQ0,l3];refine zKP z hR0 huj hui ⟨true,b1,by rw [huj.1]⟩ ⟨true,b2,by rw [hui.1]⟩ fun v6 hv6=>?_
 have hce:El p n (conj p n W B (unitL n (i+(1+k))) (unitL n i)):=Q9 o q fun y hy=>by
  simp only [List.mem_cons,List.not_mem_nil,or_false]at hy
  rcases hy with rfl|rfl|rfl
  ·exact zAN o hui
  ·exact huj
  ·exact hui
 simp only [pwA,seval,-iQ0,l3];refine zA0 z hR0 hce hv6 fun v8 hv8=>?_
 have y1:=hv8.one;have y2:=hv8.cells;have hkl:k≤10:=by omega
 simp only [pwA,seval,-iQ0,y1,y2];refine PSl.push (bytes:=24) (σb:=h4) k7 p7 (by omega) (by omega) fun v9 h8 k8 p8=>?_
 have e5:IntKind.i64.wrap (((i+(1+k):Nat):Int)+1)=((i+(1+(k+1)):Nat):Int):=by rw [wrap64 (by omega) (by omega)];omega
 simp only [pwA,seval,-iQ0,e5];refine⟨_,by omega,k+1,v9,_,by omega,rfl,rfl,k8,p8,?_⟩
 unfold lgR;rw [List.range_succ,List.map_append];exact hcl.snoc hv8
end Go.Proofs
namespace Go.Grp
end Go.Grp
namespace Go.Proofs
open Go.Ab Go.Lie
section
variable {σ H h:PHeap} {K:PV→PHeap→Prop}
structure SU (T h:PHeap) (p0:Nat) (v0:PV) (fs:List (PV×List PV)) (ls:List LS):Prop where
 keep:Keep T h
 obj:h.obj p0=some (v0::fs.map Prod.fst)
 p0b:T.next≤p0∧p0<h.next
 acc:∀f,f∈fs→PSl T.next 1 h f.1 f.2.length f.2
 ne:∀f,f∈fs→∀off l c,f.1≠.sl p0 off l c
 dis:∀(i j:Nat) f g,fs[i]? = some f→fs[j]? = some g→i≠j→∀s off l c,f.1=.sl s off l c→∀off l c,g.1≠.sl s off l c
 lok:∀q,q∈ls→q.ok h T.next
 lne:∀q,q∈ls→q.s≠p0∧∀f,f∈fs→∀off l c,f.1≠.sl q.s off l c
variable {T:PHeap} {p0:Nat} {v0:PV} {fs:List (PV×List PV)} {ls:List LS}
theorem SU.keepI {h2:PHeap} (a:SU T h p0 v0 fs ls) (k:Keep h h2):SU T h2 p0 v0 fs ls:=
 ⟨a.keep.trans k,by rw [k.obj _ a.p0b.2];exact a.obj,⟨a.p0b.1,Nat.lt_of_lt_of_le a.p0b.2 k.next⟩,fun f hf=>(a.acc f hf).keep k,a.ne,a.dis,fun q hq=>(a.lok q hq).move (k.obj _ (a.lok q hq).2.2.2) k.next,a.lne⟩
theorem SU.more {q:LS} (a:SU T h p0 v0 fs ls) (h1:q.ok h T.next) (h2:q.s≠p0∧∀f,f∈fs→∀off l c,f.1≠.sl q.s off l c):SU T h p0 v0 fs (ls++[q]):=
 ⟨a.keep,a.obj,a.p0b,a.acc,a.ne,a.dis,fun q' hq=>(List.mem_append.1 hq).elim (a.lok q') fun e=>by rw [List.mem_singleton.1 e];exact h1,fun q' hq=>(List.mem_append.1 hq).elim (a.lne q') fun e=>by rw [List.mem_singleton.1 e];exact h2⟩
theorem SU.push {K:PV×PHeap→Prop} {bytes j:Nat} {v x:PV} {cs:List PV} (a:SU T h p0 v0 fs ls) (hj:fs[j]? = some (v,cs)) (hb:cs.length≤1000) (hby:bytes≤24) (hone:∀f,f∈fs→f.1.one=true)
    (k:∀v' h2,v'.one=true→v'.cells=[v']→h2.wr p0 (j+1) [v']=some (h2.set p0 (v0::(fs.set j (v',cs++[x])).map Prod.fst))→SU T (h2.set p0 (v0::(fs.set j (v',cs++[x])).map Prod.fst)) p0 v0 (fs.set j (v',cs++[x])) ls→K (v',h2)):
    optK (qH 1 bytes (h.new [x]) v (.sl h.next 0 1 (.known 1))) K:=by
  have hm:(v,cs)∈fs:=List.mem_of_getElem? hj;obtain⟨hjl,hje⟩:=List.getElem?_eq_some_iff.1 hj;have hb2:(cs.length+1)*bytes≤1001*24:=Nat.mul_le_mul (by omega) hby
  refine PAcc.pushS (σb:=T) (bytes:=bytes) a.keep (a.acc _ hm).acc rfl (by show(cs.length+1)*bytes≤_;omega) (by show cs.length+1≤_;omega) fun v' h2 k2 a2 o2 n2 l2=>?_
  have hp:=a.p0b;have hob:h2.obj p0=some (v0::fs.map Prod.fst):=by rw [o2 _ hp.2 (a.ne _ hm)];exact a.obj
  have hset:(fs.set j (v',cs++[x])).map Prod.fst=(fs.map Prod.fst).set j v':=by rw [List.map_set]
  have hmem:∀f,f∈fs.set j (v',cs++[x])→f=(v',cs++[x])∨∃i,i≠j∧fs[i]? = some f:=fun f hf=>by
    obtain⟨i,hi⟩:=List.getElem?_of_mem hf;rw [List.getElem?_set]at hi
    split at hi
    · first
      | (cases hi;exact .inl rfl)
      | (split at hi
         · cases hi;exact .inl rfl
         · cases hi)
    · rename_i e;exact .inr ⟨i,fun e2=>e e2.symm,hi⟩
  refine k v' h2 a2.one a2.cells ?_ ⟨k2.set hp.1 _,by rw [zH,if_pos rfl],⟨hp.1,by show p0<h2.next;omega⟩,fun f hf=>?_,fun f hf=>?_,fun i1 i2 f g hf hg hne s off l c e=>?_,fun q hq=>?_,fun q hq=>⟨(a.lne q hq).1,fun f hf=>?_⟩⟩
  · rw [zq hob,if_pos ⟨by simp only [List.length_cons,List.length_map,List.length_nil];omega,by simp only [List.all_cons,List.all_nil,a2.one];rfl⟩,hset]
    congr 2
    rw [List.append_assoc,List.singleton_append,List.length_singleton,take_set _ (by rw [List.length_cons,List.length_map];exact Nat.succ_lt_succ hjl),List.set_cons_succ]
  · rcases hmem f hf with rfl | ⟨i,hi,he⟩
    · have a3:PSl T.next 1 (h2.set p0 (v0::(fs.set j (v',cs++[x])).map Prod.fst)) v' (cs.length+1) (cs++[x]):=Q5 a2 (fun s off l c e=>by rw [zH,if_neg fun e2=>n2 p0 hp.2 off l c (by rw [e,e2])]) (Nat.le_refl _)
      simpa using a3
    · have hfm:=List.mem_of_getElem? he
      refine Q5 (a.acc f hfm) (fun s off l c e=>?_) (Nat.le_of_lt l2)
      rw [zH,if_neg fun e2=>a.ne f hfm off l c (by rw [e,e2]),o2 s (Z8 (a.acc f hfm) e) (a.dis i j f _ he hj hi s off l c e)]
  · rcases hmem f hf with rfl | ⟨i,hi,he⟩
    · exact n2 p0 hp.2
    · exact a.ne f (List.mem_of_getElem? he)
  · rw [List.getElem?_set]at hf hg
    by_cases e1:j=i1
    · rw [if_pos e1,if_pos hjl]at hf
      cases hf;rw [if_neg fun e2=>hne (e1.symm.trans e2)]at hg
      have hgm:=List.mem_of_getElem? hg;intro off' l' c' e';exact n2 s (Z8 (a.acc g hgm) e') off l c e
    · rw [if_neg e1]at hf
      have hfm:=List.mem_of_getElem? hf
      by_cases e2:j=i2
      · rw [if_pos e2,if_pos hjl]at hg
        cases hg;exact n2 s (Z8 (a.acc f hfm) e)
      · rw [if_neg e2]at hg
        exact a.dis i1 i2 f g hf hg hne s off l c e
  · have hq':=a.lok q hq
    refine hq'.move ?_ (Nat.le_of_lt l2);rw [zH,if_neg (a.lne q hq).1,o2 _ hq'.2.2.2 ((a.lne q hq).2 _ hm)]
  · rcases hmem f hf with rfl | ⟨i,hi,he⟩
    · exact n2 _ (a.lok q hq).2.2.2
    · exact(a.lne q hq).2 f (List.mem_of_getElem? he)
end
end Go.Proofs
namespace Go.Grp
open Go.Lie Go.Ab
variable {O:List Int} {P:List (List Int)} {C:List (List (List Int))}
end Go.Grp
namespace Go.Proofs
open Go.Ab Go.Lie Go.Grp
variable {σ H h:PHeap} {K:PV→PHeap→Prop} {n c:Nat} {p:Int} {O:List Int} {P:List (List Int)} {C:List (List (List Int))} {vO vP vC:PV} {s:Nat}
end Go.Proofs
namespace Go.Proofs
open Go.Ab Go.Lie
variable {σ σ0 σ1:PHeap} {K:PV→PHeap→Prop} {vC:PV} {bs:List Int} {s:Nat} {a sd:Int}
def FB (v:PV) (bs:List Int):Prop:=∃w a,v=.fz w a bs.length (bs.map (.int .u8))
structure Byt (bs:List Int):Prop where
 len:bs.length≤1048576
 bd:∀b∈bs,0≤b∧b≤255
abbrev srcC (vC:PV) (a:Nat) (sd:Int):List PV:=[vC,.int .i64 (a:Int),.int .i64 sd]
structure Src (σ:PHeap) (s:Nat) (vC:PV) (bs:List Int) (a:Nat) (sd:Int):Prop where
 obj:σ.obj s=some (srcC vC a sd)
 lt:s<σ.next
 fb:FB vC bs
 byt:Byt bs
 le:a≤bs.length
 sd:0≤sd∧sd<2147483647
theorem FB.one {v:PV} (h:FB v bs):v.one=true:=by obtain⟨w,a,rfl⟩:=h;rfl
theorem FB.cells {v:PV} (h:FB v bs):v.cells=[v]:=by obtain⟨w,a,rfl⟩:=h;rfl
theorem FB.bel {v:PV} (h:FB v bs) (n:Nat):Bel n v:=by obtain⟨w,a,rfl⟩:=h;trivial
theorem FB.bels {v:PV} (h:FB v bs) (n a:Nat) (sd:Int):Bels n (srcC v a sd):=⟨h.bel n,trivial,trivial,trivial⟩
theorem Gh.setS {v:PV} {s:Nat} {c0 c1:List PV} (h0:σ0.obj s=some c0) (hb:Bels 0 c1) (k:Gh (σ0.set s c1) K v σ1):Gh σ0 K v σ1:=fun w ι Z h b r hv h1 h2 h3 h4=>by
 have hs:s<σ0.next:=w.lt h0;have w':PWF (σ0.set s c1):=by
  refine⟨fun t ht=>?_,fun t cs ht=>?_⟩
  ·have ht':σ0.next≤t:=ht
   rw [zH,if_neg (by omega)]
   exact w.wf t ht'
  ·rw [zH]at ht
   split at ht
   ·cases ht
    exact Bels.up (Nat.zero_le _) hb
   ·exact w.bel t cs ht
 obtain⟨v2,σ2,ι2,Z2,g1,g2,g3,g4,g5,g6,g7,g8,g9⟩:=k w' ι Z h b r hv h1 h2 h3 (fun t ht hn=>by
  rw [zH]at hn
  split at hn
  ·cases hn
  ·exact h4 t ht hn)
 refine⟨v2,σ2,ι2,Z2,g1,g2,g3,g4,g5,g6,fun t ht hn=>g7 t ht ?_,g8,g9⟩
 rw [zH,if_neg (by rintro rfl;rw [h0]at hn;cases hn)]
 exact hn
theorem Src.set {σ:PHeap} {a a':Nat} {sd sd':Int} (h:Src σ s vC bs a sd) (ha:a'≤bs.length) (hs:0≤sd'∧sd'<2147483647):Src (σ.set s (srcC vC a' sd')) s vC bs a' sd':=
 ⟨by rw [zH,if_pos rfl],h.lt,h.fb,h.byt,ha,hs⟩
theorem Src.keep {σ σ':PHeap} {a:Nat} {sd:Int} (h:Src σ s vC bs a sd) (k:Keep σ σ'):Src σ' s vC bs a sd:=
 ⟨by rw [k.obj s h.lt];exact h.obj,Nat.lt_of_lt_of_le h.lt k.next,h.fb,h.byt,h.le,h.sd⟩
theorem Src.q {σ:PHeap} {a:Nat} {sd:Int} (h:Src σ s vC bs a sd):σ.rd1 s 0=some vC∧σ.rd1 s 1=some (.int .i64 a)∧σ.rd1 s 2=some (.int .i64 sd):=by
 refine⟨?_,?_,?_⟩<;>(rw [zI h.obj];rfl)
theorem Src.w1 {σ:PHeap} {a:Nat} {sd x:Int} (h:Src σ s vC bs a sd):σ.wr s 1 [.int .i64 x]=some (σ.set s [vC,.int .i64 x,.int .i64 sd]):=by
 rw [zq h.obj,if_pos ⟨by simp,rfl⟩];rfl
theorem Src.w2 {σ:PHeap} {a:Nat} {sd x:Int} (h:Src σ s vC bs a sd):σ.wr s 2 [.int .i64 x]=some (σ.set s (srcC vC a x)):=by
 rw [zq h.obj,if_pos ⟨by simp,rfl⟩];rfl
theorem zFo (σ:PHeap) (s:Nat) (x y:List PV):(σ.set s x).set s y=σ.set s y:=by
 simp only [PHeap.set]
 congr 1
 funext t
 split<;>rfl
theorem zE4 {j:Nat} (hB:Byt bs) (hj:j<bs.length):(bs.map (PV.int .u8))[j]? = some (.int .u8 (bs.getD j 0))∧0≤bs.getD j 0∧bs.getD j 0≤255:=by
 have e:bs.getD j 0=bs[j]:=by simp [List.getD_eq_getElem?_getD,List.getElem?_eq_getElem hj]
 rw [e];exact⟨by rw [List.getElem?_map,List.getElem?_eq_getElem hj];rfl,hB.bd _ (List.getElem_mem hj)⟩
def Nx (n x:Int):Prop:=0≤x∧(n≤1→x=0)∧(1<n→x<n)
theorem Nx.lt {n x:Int} (h:Nx n x) (hn:1≤n):x<n:=by
 obtain⟨h0,h1,h2⟩:=h;rcases Int.lt_or_le 1 n with g|g
 ·exact h2 g
 ·have:=h1 g;omega
theorem zLh {n x:Int} (hn:1<n) (hx:0≤x):Nx n (x.tmod n):=by
 rw [Int.tmod_eq_emod_of_nonneg hx];have h1:=Int.emod_nonneg x (show n≠0 by omega)
 have h2:=Int.emod_lt_of_pos x (show 0<n by omega)
 exact⟨h1,fun h=>by omega,fun _=>h2⟩
theorem zKX (hb:FB vC bs) (hB:Byt bs) (hk:∀sd,0≤sd∧sd<2147483647→K (.ptr σ.next 0) (σ.new (srcC vC 0 sd))):zA Tryz.prog 110 [vC] σ K:=by
 obtain⟨w,av,rfl⟩:=hb;have hl:=hB.len;refine zN mix Tryz.func110 cf110 rfl ?_;dsimp only [if110,qI,eI,nI,qD,mI0,kI0,bI0,cI0,sI0,mD0,lD0,fD0,xD0,pD0,R0,S0];simp only [pwA,seval,-iQ0];generalize hC:(PV.fz w av bs.length (bs.map (.int .u8)))=vC at *
 refine zG (fun m vs h'=>∃(i:Nat) (sd:Int),i≤bs.length∧m=bs.length-i∧vs=[vC,.ptr σ.next 0,.int .i64 i]∧σ.new (srcC vC 0 sd)=h'∧0≤sd∧sd<2147483647) bs.length ?_ ?_
 ·exact⟨0,76001,by omega,by omega,rfl,rfl,by omega,by omega⟩
 rintro m vs h' ⟨i,sd,hi,rfl,rfl,rfl,h0,h1⟩
 have hlen:pLen vC=some (.int .i64 bs.length):=by rw [←hC];rfl
 have wi1:IntKind.i64.wrap ((i:Int)+1)=((i+1:Nat):Int):=by rw [wrap64 (by omega) (by omega)];omega
 have out:K (.ptr σ.next 0) (σ.new (srcC vC 0 sd)):=hk sd ⟨h0,h1⟩;simp only [pwA,seval,-iQ0,hlen]
 by_cases hlt:i<bs.length
 rotate_left
 ·simp only [pwA,seval,-iQ0,hlt,decide_false]
  exact out
 obtain⟨b1,b2,b3⟩:=zE4 hB hlt
 by_cases h64:i<64
 rotate_left
 ·have h64':¬(i:Int)<64:=by omega
  simp only [pwA,seval,-iQ0,hlt,h64',decide_true,decide_false];exact out
 have h64':(i:Int)<64:=by omega
 generalize bs.getD i 0=b at b1 b2 b3
 have e1:IntKind.i64.wrap (sd*71)=sd*71:=wrap64 (by omega) (by omega)
 have e2:IntKind.i64.wrap b=b:=wrap64 (by omega) (by omega)
 have e3:IntKind.i64.wrap (sd*71+b)=sd*71+b:=wrap64 (by omega) (by omega)
 have e4:(sd*71+b).tmod 2147483647=(sd*71+b) % 2147483647:=Int.tmod_eq_emod_of_nonneg (by omega)
 subst hC;simp only [pwA,seval,-iQ0,hlt,h64',decide_true,b1,e1,e2,e3,e4,wi1];exact⟨_,by omega,i+1,_,by omega,rfl,rfl,rfl,by omega,by omega⟩
theorem zKW {a:Nat} {sd n:Int} (S:Src σ s vC bs a sd) (hn:n≤4611686018427387904) (hk:∀x a' sd',Nx n x→a'≤bs.length→0≤sd'∧sd'<2147483647→K (.int .i64 x) (σ.set s (srcC vC a' sd'))):zA Tryz.prog 113 [.ptr s 0,.int .i64 n] σ K:=by
 have hl:=S.byt.len;have hsd:=S.sd;have ha:=S.le;obtain⟨w,av,rfl⟩:=S.fb;obtain⟨q0,q1,q2⟩:=S.q;have e1:IntKind.i64.wrap (sd*48271)=sd*48271:=wrap64 (by omega) (by omega)
 have e2:IntKind.i64.wrap (sd*48271+71)=sd*48271+71:=wrap64 (by omega) (by omega)
 have e4:(sd*48271+71).tmod 2147483647=(sd*48271+71) % 2147483647:=Int.tmod_eq_emod_of_nonneg (by omega)
 refine zN mix Tryz.func113 cf113 rfl ?_;dsimp only [if113,qI,nI,qD,mI0,kI0,lI0,fI0,bI0,cI0,pI0,mD0,lD0,fD0,xD0,pD0,R0,S0];simp only [pwA,seval,-iQ0,q2,e1,e2,e4,S.w2];refine iteI (fun hlt=>?_) fun hge=>?_
 ·have:=hk 0 a sd ⟨Int.le_refl _,fun _=>rfl,fun h=>by omega⟩ ha hsd
  rw [Q4 S.obj]at this
  exact this
 have hsd1:0≤(sd*48271+71) % 2147483647∧(sd*48271+71) % 2147483647<2147483647:=by omega
 generalize (sd*48271+71) % 2147483647=sd1 at *
 have S1:=S.set (sd':=sd1) ha hsd1;obtain⟨p0,p1,p2⟩:=S1.q;obtain⟨x0,e5,hx0⟩:∃x0,IntKind.i64.wrap (sd1.tdiv 47)=x0∧0≤x0∧x0≤2147483647:=by
  have d1:sd1.tdiv 47=sd1 / 47:=Int.tdiv_eq_ediv_of_nonneg (by omega)
  exact⟨sd1 / 47,by rw [d1];exact wrap64 (by omega) (by omega),by omega,by omega⟩
 have hn0:n≠0:=by omega
 generalize hs1:σ.set s (srcC (PV.fz w av bs.length (bs.map (.int .u8))) a sd1)=σ1 at *
 have hT:∀(a':Nat) (sd':Int),σ1.set s (srcC (PV.fz w av bs.length (bs.map (.int .u8))) a' sd')=σ.set s (srcC (PV.fz w av bs.length (bs.map (.int .u8))) a' sd'):=fun a' sd'=>by rw [←hs1];exact zFo _ _ _ _
 simp only [pwA,seval,-iQ0,p0,p1,p2,e5]
 by_cases hlt':a<bs.length
 rotate_left
 ·simp only [pwA,seval,-iQ0,hlt',decide_false]
  have:=hk _ a sd1 (zLh (by omega) hx0.1) ha hsd1
  rw [hs1]at this
  simp only [pwA,seval,-iQ0,hn0,e5];exact this
 obtain⟨b1,b2,b3⟩:=zE4 S.byt hlt';generalize bs.getD a 0=b at b1 b2 b3
 have e6:IntKind.i64.wrap b=b:=wrap64 (by omega) (by omega)
 have e7:IntKind.i64.wrap (x0+b)=x0+b:=wrap64 (by omega) (by omega)
 have wi1:IntKind.i64.wrap ((a:Int)+1)=((a+1:Nat):Int):=by rw [wrap64 (by omega) (by omega)];omega
 simp only [pwA,seval,-iQ0,hlt',decide_true,p0,p1,b1,e5,e6,e7,S1.w1,wi1];have Sb:=S1.set (a':=a+1) (sd':=sd1) (by omega) hsd1
 obtain⟨r0,r1,r2⟩:=Sb.q;generalize hs2:σ1.set s (srcC (PV.fz w av bs.length (bs.map (.int .u8))) (a+1) sd1)=σ2 at *
 have tm:((a+1:Nat):Int).tmod 2=((a+1:Nat):Int) % 2:=Int.tmod_eq_emod_of_nonneg (by omega)
 have wi2:IntKind.i64.wrap (((a+1:Nat):Int)-1)=(a:Int):=by rw [wrap64 (by omega) (by omega)];omega
 have fin:∀x:Int,0≤x→K (.int .i64 (x.tmod n)) σ2:=fun x hx=>by
  have:=hk _ (a+1) sd1 (zLh (by omega) hx) (by omega) hsd1
  rw [←hs2,hT];exact this
 by_cases hn256:n≤256
 rotate_left
 ·simp only [pwA,seval,-iQ0,hn256,decide_false,hn0,e5,e6,e7]
  exact fin _ (by omega)
 by_cases hev:((a+1:Nat):Int) % 2=0
 rotate_left
 ·simp only [pwA,seval,-iQ0,hn256,decide_true,r1,tm,hev,decide_false,hn0,e5,e6,e7]
  exact fin _ (by omega)
 simp only [pwA,seval,-iQ0,hn256,decide_true,r0,r1,tm,hev,wi2,hlt',b1,hn0,e5,e6,e7];exact fin _ (by omega)
end Go.Proofs
namespace Go.Proofs
open Go.Ab Go.Lie
variable {σ σ0 σ1 h h':PHeap} {K:PV→PHeap→Prop} {vC:PV} {bs:List Int} {s:Nat}
def So (σ:PHeap) (s:Nat) (vC:PV) (bs:List Int):Prop:=∃a sd,Src σ s vC bs a sd
def Mv (σ:PHeap) (s:Nat) (σ':PHeap):Prop:=∃c0 c1,σ.obj s=some c0∧Bels 0 c1∧σ'=σ.set s c1
def KM (σ:PHeap) (s:Nat) (h:PHeap):Prop:=∃σ',Mv σ s σ'∧Keep σ' h
theorem Mv.next (m:Mv σ s h):h.next=σ.next:=by obtain⟨_,_,_,_,rfl⟩:=m;rfl
theorem Mv.obj (m:Mv σ s h) {t:Nat} (ht:t≠s):h.obj t=σ.obj t:=by obtain⟨_,_,_,_,rfl⟩:=m;rw [zH,if_neg ht]
theorem So.lt (k:So σ s vC bs):s<σ.next:=by obtain⟨_,_,k⟩:=k;exact k.lt
theorem So.mv (k:So σ s vC bs) {a:Nat} {sd:Int} (ha:a≤bs.length) (hs:0≤sd∧sd<2147483647):Mv σ s (σ.set s (srcC vC a sd))∧So (σ.set s (srcC vC a sd)) s vC bs:=by
 obtain⟨a0,sd0,k⟩:=k;exact⟨⟨_,_,k.obj,k.fb.bels _ _ _,rfl⟩,a,sd,k.set ha hs⟩
theorem So.mv0 (k:So σ s vC bs):Mv σ s σ:=by
 obtain⟨a0,sd0,k⟩:=k;exact⟨_,_,k.obj,k.fb.bels _ _ _,(Q4 k.obj).symm⟩
theorem So.keep (k:So σ s vC bs) (hk:Keep σ h):So h s vC bs:=by
 obtain⟨a0,sd0,k⟩:=k;exact⟨_,_,k.keep hk⟩
theorem So.set (k:So σ s vC bs) {t:Nat} (ht:s≠t) (cs:List PV):So (σ.set t cs) s vC bs:=by
 obtain⟨a0,sd0,k⟩:=k;exact⟨a0,sd0,by rw [zH,if_neg ht];exact k.obj,k.lt,k.fb,k.byt,k.le,k.sd⟩
theorem KM.keep (k:KM σ s h) (hk:Keep h h'):KM σ s h':=by
 obtain⟨σ',m,q⟩:=k;exact⟨σ',m,q.trans hk⟩
theorem KM.next (k:KM σ s h):σ.next≤h.next:=by
 obtain⟨σ',m,q⟩:=k;rw [←m.next];exact q.next
theorem KM.obj (k:KM σ s h) {t:Nat} (ht:t<σ.next) (hn:t≠s):h.obj t=σ.obj t:=by
 obtain⟨σ',m,q⟩:=k;rw [q.obj t (by rw [m.next];exact ht),m.obj hn]
theorem So.km (k:So σ s vC bs):KM σ s σ:=⟨σ,k.mv0,Keep.refl _⟩
theorem So.kmK (k:So σ s vC bs) (hk:Keep σ h):KM σ s h:=⟨σ,k.mv0,hk⟩
theorem KM.new (k:KM σ s h) (cs:List PV):KM σ s (h.new cs):=k.keep (zD h cs)
theorem KM.set (k:KM σ s h) {t:Nat} (ht:σ.next≤t) (cs:List PV):KM σ s (h.set t cs):=by
 obtain⟨σ',m,q⟩:=k;exact⟨σ',m,q.set (by rw [m.next];exact ht) cs⟩
theorem KM.kill (k:KM σ s h) {t:Nat} (ht:σ.next≤t):KM σ s (h.kill t):=by
 obtain⟨σ',m,q⟩:=k;exact⟨σ',m,q.kill (by rw [m.next];exact ht)⟩
theorem KM.mv (k:KM σ s h) (hs:s<σ.next) (m':Mv h s h'):KM σ s h':=by
 obtain⟨σ',⟨c0,c1,h0,h1,rfl⟩,q⟩:=k;obtain⟨d0,d1,g0,g1,rfl⟩:=m';refine⟨σ.set s d1,⟨c0,d1,h0,g1,rfl⟩,q.next,q.top,fun t ht=>?_⟩
 rw [zH,zH]
 split
 ·rfl
 ·rename_i e
  rw [q.obj t ht,zH,if_neg e]
theorem KM.trans (k:KM σ s h) (hs:s<σ.next) (k':KM h s h'):KM σ s h':=by
 obtain⟨σ',m,q⟩:=k';exact(k.mv hs m).keep q
theorem Gh.km {v:PV} (k:KM σ s h) (so:So h s vC bs) (hs:s<σ.next) (c:∀σ',Mv σ s σ'→So σ' s vC bs→Keep σ' h→Gh σ' K v h):Gh σ K v h:=by
 obtain⟨σ',m,q⟩:=k;obtain⟨c0,c1,h0,h1,e⟩:=m;obtain⟨a,sd,S⟩:=so;have hs':s<σ'.next:=by rw [e];exact hs
 have so':So σ' s vC bs:=⟨a,sd,by rw [←q.obj s hs'];exact S.obj,hs',S.fb,S.byt,S.le,S.sd⟩
 have:=c σ' ⟨c0,c1,h0,h1,e⟩ so' q
 rw [e]at this
 exact Gh.setS h0 h1 this
theorem qR {n:Int} (so:So σ s vC bs) (hn:n≤4611686018427387904) (hk:∀x h,Nx n x→Mv σ s h→So h s vC bs→K (.int .i64 x) h):zA Tryz.prog 113 [.ptr s 0,.int .i64 n] σ K:=by
 obtain⟨a,sd,S⟩:=so;refine zKW S hn fun x a' sd' hx ha hs=>?_
 obtain⟨m1,m2⟩:=So.mv ⟨a,sd,S⟩ ha hs;exact hk x _ hx m1 m2
theorem zEj {p:Int} {n:Nat} {vP vB:PV} (g1:vP.one=true) (g2:vB.one=true) (gl:pLen vP=some (.int .i64 n)) (hn:n≤1048576) (hk:∀cap,full 1 cap n→K (.sl σ.next 0 n cap) (σ.new (pis (List.replicate n 0)))):zA Tryz.prog 177 [.agg [.int .i64 p,vP,vB]] σ K:=by
 refine zA.gh ?_;refine zC mix Tryz.func177 ?_
 conv=>arg 2;cbv
 refine zF rfl ?_;simp only [pwA,seval,-iQ0,g1,g2,gl,qG,mk8 (n:=n) (by omega),mkL (n:=n) (by omega)]
 exact Gh.finS (s:=σ.next+1) ((zD σ _).new _) (by simp only [pwA,seval,-iQ0]) (by omega) (zM _ _) (hk _ (.inr rfl))
theorem QK {p:Int} {n k:Nat} {vP vB:PV} (g1:vP.one=true) (g2:vB.one=true) (gl:pLen vP=some (.int .i64 n)) (hn:n≤1048576) (hkn:k<n) (hk:∀v,FI v (unitL n k)→K v σ):zA Tryz.prog 179 [.agg [.int .i64 p,vP,vB],.int .i64 k] σ K:=by
 refine zA.gh ?_;refine zC mix Tryz.func179 ?_
 conv=>arg 2;cbv
 refine zF rfl ?_;simp only [pwA,seval,-iQ0,g1,g2];refine zEj g1 g2 gl hn fun cap hc=>?_
 simp only [pwA,seval,-iQ0,hkn,zK,List.length_replicate,Nat.succ_le_of_lt hkn];rw [zZ (by simpa using hkn)]
 exact Gh.finF (s:=σ.next+1) ((zD σ _).new _) (by simp only [pwA,seval,-iQ0];rfl) (by omega) (zM _ _) hc.ok fun _=>hk _ ⟨_,_,by rw [z8];rfl⟩
theorem zHH {n:Nat} (so:So σ s vC bs) (hn:n≤6) (hk:∀p h,isP p→ipow p n≤729→Mv σ s h→So h s vC bs→K (.int .i64 p) h):zA Tryz.prog 326 [.ptr s 0,.int .i64 n] σ K:=by
 have hlt:=so.lt;refine zA.gh ?_;refine zC mix Tryz.func326 ?_
 conv=>arg 2;cbv
 refine zF rfl ?_;simp only [pwA,seval,-iQ0];refine qR (so.keep (zD _ _)) (by decide) fun x h1 hx m1 so1=>?_
 have hxl:=hx.lt (by decide)
 have hx0:=hx.1;have ob:h1.obj σ.next=some (pis [2,3,3,5,7,2]):=by rw [m1.obj (by omega)];simp only [pwA,seval,-iQ0];rfl
 obtain⟨k,rfl⟩:∃k:Nat,x=k:=⟨x.toNat,by omega⟩
 have hk6:k<6:=by omega
 obtain⟨p0,hp0,hr⟩:∃p0,isP p0∧h1.rd1 σ.next k=some (.int .i64 p0):=by
  have e:k=0∨k=1∨k=2∨k=3∨k=4∨k=5:=by omega
  rcases e with rfl|rfl|rfl|rfl|rfl|rfl
  ·exact⟨2,.inl rfl,by rw [zI ob];rfl⟩
  ·exact⟨3,.inr (.inl rfl),by rw [zI ob];rfl⟩
  ·exact⟨3,.inr (.inl rfl),by rw [zI ob];rfl⟩
  ·exact⟨5,.inr (.inr (.inl rfl)),by rw [zI ob];rfl⟩
  ·exact⟨7,.inr (.inr (.inr rfl)),by rw [zI ob];rfl⟩
  ·exact⟨2,.inl rfl,by rw [zI ob];rfl⟩
 simp only [pwA,seval,-iQ0,hr,hk6];have hnc:n=0∨n=1∨n=2∨n=3∨n=4∨n=5∨n=6:=by omega
 have big:∀q:Int,isP q→¬ipow q n≤729→q=5∨q=7:=fun q hq hb=>by
  rcases hq with rfl|rfl|rfl|rfl
  ·exact absurd (by rcases hnc with rfl | rfl | rfl | rfl | rfl | rfl | rfl<;>decide) hb
  ·exact absurd (by rcases hnc with rfl | rfl | rfl | rfl | rfl | rfl | rfl<;>decide) hb
  ·exact .inl rfl
  ·exact .inr rfl
 refine zG (fun m vs h=>∃q:Int,isP q∧m=q.toNat∧vs=[.int .i64 n,.int .i64 q]∧KM σ s h∧So h s vC bs) p0.toNat ?_ ?_
 ·exact⟨p0,hp0,rfl,rfl,(so.km.new _).mv hlt m1,so1⟩
 rintro m vs h2 ⟨q,hq,rfl,rfl,km,so2⟩
 simp only [pwA,seval,-iQ0];refine zEl (p:=q) (n:=n) (by rcases hq with rfl | rfl | rfl | rfl<;>decide) hn fun k k1 k2 k3 k4=>?_
 by_cases hk9:k≤729
 ·have hk9':¬k > 729:=by omega
  simp only [pwA,seval,-iQ0,hk9',decide_false];exact Gh.km km so2 hlt fun σ' m' so' kp=>Gh.fin0 kp trivial (hk q σ' hq (k1.1 hk9) m' so')
 ·have hk9':k > 729:=by omega
  rcases big q hq (fun e=>hk9 (k1.2 e))with rfl|rfl
  ·simp only [pwA,seval,-iQ0,hk9',decide_true,show((5:Int)<((8:Nat):Int)) by decide]
   exact⟨_,by decide,3,.inr (.inl rfl),rfl,rfl,km.new _,so2.keep (zD _ _)⟩
  ·simp only [pwA,seval,-iQ0,hk9',decide_true,show((7:Int)<((8:Nat):Int)) by decide]
   exact⟨_,by decide,5,.inr (.inr (.inl rfl)),rfl,rfl,km.new _,so2.keep (zD _ _)⟩
structure TailI (σ h:PHeap) (s:Nat) (vC:PV) (bs:List Int) (p:Int) (n k:Nat) (vP vB:PV) (x:List Int):Prop where
 km:KM σ s h
 so:So h s vC bs
 o1:h.obj σ.next=some [.int .i64 p,vP,vB]
 o2:h.obj (σ.next+1)=some (pis x)
 lt:σ.next+1<h.next
 el:El p n x
 z:∀j,j<k→at_ x j=0
theorem zEk {n k:Nat} {p:Int} {vP vB:PV} (so:So σ s vC bs) (hp:2≤p∧p≤7) (g1:vP.one=true) (g2:vB.one=true) (gl:pLen vP=some (.int .i64 n)) (hn:n≤1048576) (hkn:k≤n)
  (hk:∀x h cap,El p n x→(∀j,j<k→at_ x j=0)→full 1 cap n→Mv σ s h→So h s vC bs→K (.sl σ.next 0 n cap) (h.new (pis x))):zA Tryz.prog 305 [.ptr s 0,.agg [.int .i64 p,vP,vB],.int .i64 k] σ K:=by
 have hlt:=so.lt;refine zA.gh ?_;refine zC mix Tryz.func305 ?_
 conv=>arg 2;cbv
 refine zF rfl ?_;simp only [pwA,seval,-iQ0,g1,g2];refine zEj g1 g2 gl hn fun cap hc=>?_
 simp only [pwA,seval,-iQ0];generalize hH:(σ.new [.int .i64 p,vP,vB])=H;have hkH:Keep σ H:=by rw [←hH];exact zD _ _
 have hHn:H.next=σ.next+1:=by rw [←hH];rfl
 have obR:H.obj σ.next=some [.int .i64 p,vP,vB]:=by rw [←hH];simp only [pwA,seval,-iQ0]
 refine zG (fun m vs h=>∃(i:Nat) (x:List Int),k≤i∧i≤n∧m=n-i∧vs=[.ptr s 0,.ptr σ.next 0,.sl (σ.next+1) 0 n cap,.int .i64 i]∧TailI σ h s vC bs p n k vP vB x) (n-k) ?_ ?_
 ·refine⟨k,List.replicate n 0,Nat.le_refl _,hkn,rfl,rfl,⟨(so.kmK hkH).new _,(so.keep hkH).keep (zD _ _),by rw [zP,if_neg (by omega)];exact obR,by rw [zP,if_pos hHn.symm],by show _<H.next+1;omega,⟨by simp,fun y hy=>by rw [List.eq_of_mem_replicate hy];omega⟩,fun j _=>zm _ _⟩⟩
 rintro m vs h ⟨i,x,hki,hin,rfl,rfl,⟨km,so2,o1,o2,hl2,hx,hz⟩⟩
 have hxl:=hx.1;simp only [pwA,seval,-iQ0];refine iteI (fun hilt=>?_) fun hige=>?_
 rotate_left
 ·have e:i=n:=by omega
  refine Gh.km km so2 hlt fun σ' m' so' kp=>?_
  have hnx:=m'.next;rw [←hnx];refine Gh.finS (s:=σ'.next+1) kp (by rw [hnx];exact o2) (by omega) (zM _ _) ?_
  have:=hk x σ' cap hx hz hc m' so'
  rw [hnx];exact this
 have r0:h.rd1 σ.next 0=some (.int .i64 p):=by rw [zI o1];rfl
 simp only [pwA,seval,-iQ0,r0];refine qR so2 (by omega) fun y h3 hy m3 so3=>?_
 have hyl:=hy.lt (by omega)
 have hy0:=hy.1;have hilt':i<n:=by omega
 have o3:h3.obj (σ.next+1)=some (pis x):=by rw [m3.obj (by omega)];exact o2
 have w3:h3.wr (σ.next+1) i [.int .i64 y]=some (h3.set (σ.next+1) (pis (x.set i y))):=by
  rw [zq o3,if_pos ⟨by rw [zK,hxl];simp;omega,rfl⟩]
  congr 2
  exact zZ (by omega)
 have wi:IntKind.i64.wrap ((i:Int)+1)=((i+1:Nat):Int):=by rw [wrap64 (by omega) (by omega)];omega
 simp only [pwA,seval,-iQ0,hilt',w3,wi];refine⟨_,?_,i+1,x.set i y,by omega,by omega,rfl,rfl,⟨(km.mv hlt m3).set (by omega) _,so3.set (by omega) _,by rw [zH,if_neg (by omega),m3.obj (by omega)];exact o1,by rw [zH,if_pos rfl],by show _<h3.next;rw [m3.next];exact hl2,⟨by rw [List.length_set];exact hxl,fun z hzz=>?_⟩,fun j hj=>?_⟩⟩
 ·omega
 ·rcases List.mem_or_eq_of_mem_set hzz with e | e
  ·exact hx.2 z e
  ·omega
 ·rw [at_set (by omega),if_neg (by omega)]
  exact hz j hj
theorem zX {n k:Nat} {p:Int} {vP vB:PV} (so:So σ s vC bs) (hp:2≤p∧p≤7) (g1:vP.one=true) (g2:vB.one=true) (gl:pLen vP=some (.int .i64 n)) (hn:n≤1048576) (hkn:k≤n)
  (hk:∀v x h,El p n x→(∀j,j<k→at_ x j=0)→FI v x→Mv σ s h→So h s vC bs→K v h):zA Tryz.prog 305 [.ptr s 0,.agg [.int .i64 p,vP,vB],.int .i64 k] σ K:=by
 refine zA.gh (zEk so hp g1 g2 gl hn hkn fun x h cap hx hz hc m so2=>?_)
 refine Gh.km (so.km.mv so.lt m |>.new _) (so2.keep (zD _ _)) so.lt fun σ' m' so' kp=>?_
 have hxl:=hx.1;subst hxl;exact Gh.finF (s:=σ.next) kp (by rw [zP,if_pos m.next.symm]) (by rw [m'.next];exact Nat.le_refl _) (zM _ _) hc.ok fun o=>hk _ x σ' hx hz ⟨_,_,rfl⟩ m' so'
end Go.Proofs
set_option linter.unusedSectionVars false
namespace Go.Proofs
open Go.Ab Go.Lie
variable {σ σ0 h h':PHeap} {K:PV→PHeap→Prop} {vC:PV} {bs:List Int} {s b n:Nat} {p:Int} {RP R:PV→List Int→Prop} {sP sB:Nat} {capP capB:Cap} {cs:List PV} {ls:List LS} {W:List (List Int)} {B:List (List (List Int))}
def RowsG (R:PV→List Int→Prop) (ls:List LS) (B:List (List (List Int))):Prop:=All2 (fun(q:LS) (M:List (List Int))=>All2 R q.cs M) ls B
structure RS (RP R:PV→List Int→Prop) (b:Nat) (h:PHeap) (n sP:Nat) (capP:Cap) (cs:List PV) (sB:Nat) (capB:Cap) (ls:List LS) (W:List (List Int)) (B:List (List (List Int))):Prop where
 P:full 1 capP n∧h.obj sP=some cs∧b≤sP∧sP<h.next
 Q:full 1 capB n∧h.obj sB=some (ls.map LS.pv)∧b≤sB∧sB<h.next
 ne:sP≠sB
 lok:∀q∈ls,q.ok h b
 lne:∀q∈ls,q.s≠sP∧q.s≠sB
 nd:(ls.map LS.s).Nodup
 aP:All2 RP cs W
 aB:RowsG R ls B
 lW:W.length=n
 lB:B.length=n
theorem RS.move (a:RS RP R b h n sP capP cs sB capB ls W B) (ho:∀t,(t=sP∨t=sB∨∃q∈ls,q.s=t)→h'.obj t=h.obj t) (hn:h.next≤h'.next):RS RP R b h' n sP capP cs sB capB ls W B:=by
 obtain⟨p1,p2,p3,p4⟩:=a.P;obtain⟨q1,q2,q3,q4⟩:=a.Q;exact⟨⟨p1,by rw [ho _ (.inl rfl)];exact p2,p3,by omega⟩,⟨q1,by rw [ho _ (.inr (.inl rfl))];exact q2,q3,by omega⟩,a.ne,fun q hq=>(a.lok q hq).move (ho _ (.inr (.inr ⟨q,hq,rfl⟩))) hn,a.lne,a.nd,a.aP,a.aB,a.lW,a.lB⟩
theorem RS.lt (a:RS RP R b h n sP capP cs sB capB ls W B) {t:Nat} (ht:t=sP∨t=sB∨∃q∈ls,q.s=t):b≤t∧t<h.next:=by
 rcases ht with rfl|rfl|⟨q,hq,rfl⟩
 ·exact a.P.2.2
 ·exact a.Q.2.2
 ·exact(a.lok q hq).2.2
theorem RS.keep (a:RS RP R b h n sP capP cs sB capB ls W B) (k:Keep h h'):RS RP R b h' n sP capP cs sB capB ls W B:=a.move (fun t ht=>k.obj t (a.lt ht).2) k.next
theorem RS.new (a:RS RP R b h n sP capP cs sB capB ls W B) (xs:List PV):RS RP R b (h.new xs) n sP capP cs sB capB ls W B:=a.keep (zD h xs)
theorem RS.mv (a:RS RP R b h n sP capP cs sB capB ls W B) (hs:s<b) (m:Mv h s h'):RS RP R b h' n sP capP cs sB capB ls W B:=a.move (fun t ht=>m.obj (by have:=(a.lt ht).1;omega)) (by rw [m.next];exact Nat.le_refl _)
theorem RS.low {b':Nat} (a:RS RP R b h n sP capP cs sB capB ls W B) (hb:b'≤b):RS RP R b' h n sP capP cs sB capB ls W B:=
 ⟨⟨a.P.1,a.P.2.1,by have:=a.P.2.2.1;omega,a.P.2.2.2⟩,⟨a.Q.1,a.Q.2.1,by have:=a.Q.2.2.1;omega,a.Q.2.2.2⟩,a.ne,fun q hq=>⟨(a.lok q hq).1,(a.lok q hq).2.1,by have:=(a.lok q hq).2.2.1;omega,(a.lok q hq).2.2.2⟩,a.lne,a.nd,a.aP,a.aB,a.lW,a.lB⟩
theorem RS.csl (a:RS RP R b h n sP capP cs sB capB ls W B):cs.length=n:=a.aP.1.trans a.lW
theorem RS.lsl (a:RS RP R b h n sP capP cs sB capB ls W B):ls.length=n:=a.aB.1.trans a.lB
theorem RS.rdB (a:RS RP R b h n sP capP cs sB capB ls W B) {i:Nat} (hi:i<n):∃q,ls[i]? = some q∧h.rd1 sB i=some q.pv∧q.cs.length=(B.getD i []).length:=by
 have hl:=a.lsl;refine⟨ls[i]'(by omega),List.getElem?_eq_getElem (by omega),?_,?_⟩
 ·rw [zI a.Q.2.1,List.getElem?_map,List.getElem?_eq_getElem (by omega)];rfl
 ·have hB:=a.lB
  have:=a.aB.2 i _ _ (List.getElem?_eq_getElem (by omega)) (List.getElem?_eq_getElem (by omega))
  rw [this.1,List.getD_eq_getElem?_getD,List.getElem?_eq_getElem (by omega)]
  rfl
theorem zED {α β:Type} {R:α→β→Prop} {xs:List α} {ys:List β} (k:All2 R xs ys) {i:Nat} {a:α} {b:β} (hr:R a b):All2 R (xs.set i a) (ys.set i b):=by
 refine⟨by rw [List.length_set,List.length_set];exact k.1,fun j x y hx hy=>?_⟩
 rw [List.getElem?_set]at hx hy
 by_cases e:i=j
 ·rw [if_pos e]at hx hy
  split at hx
  ·split at hy
   ·cases hx;cases hy;exact hr
   ·cases hy
  ·cases hx
 ·rw [if_neg e]at hx hy
  exact k.2 j x y hx hy
theorem zAG {h:PHeap} {t i:Nat} {cs:List PV} {v:PV} (ho:h.obj t=some cs) (hi:i<cs.length) (hv:v.one=true):h.wr t i [v]=some (h.set t (cs.set i v)):=by
 rw [zq ho,if_pos ⟨by simp;omega,by simp [hv]⟩]
 congr 2
 rw [List.append_assoc];exact take_set cs hi v
theorem RS.putP (a:RS RP R b h n sP capP cs sB capB ls W B) {i:Nat} {v:PV} {w:List Int} (hi:i<n) (hv:RP v w) (ho:v.one=true):
  h.wr sP i [v]=some (h.set sP (cs.set i v))∧RS RP R b (h.set sP (cs.set i v)) n sP capP (cs.set i v) sB capB ls (W.set i w) B:=by
 obtain⟨p1,p2,p3,p4⟩:=a.P;obtain⟨q1,q2,q3,q4⟩:=a.Q;refine⟨zAG p2 (by rw [a.csl];exact hi) ho,⟨p1,by rw [zH,if_pos rfl],p3,p4⟩,⟨q1,by rw [zH,if_neg (Ne.symm a.ne)];exact q2,q3,q4⟩,a.ne,fun q hq=>(a.lok q hq).move (by rw [zH,if_neg (a.lne q hq).1]) (Nat.le_refl _),a.lne,a.nd,zED a.aP hv,a.aB,by rw [List.length_set];exact a.lW,a.lB⟩
theorem zCc {α β:Type} (f:α→β) {xs:List α} {i:Nat} {x y:α} (hx:xs[i]? = some x) (e:f y=f x):(xs.set i y).map f=xs.map f:=by
 rw [List.map_set,e];refine List.ext_getElem? fun j=>?_
 rw [List.getElem?_set]
 split
 ·rename_i e2
  subst e2;rw [List.getElem?_map,hx]
  split
  ·rfl
  ·rename_i e3
   have:=(List.getElem?_eq_some_iff.1 hx).1
   simp only [List.length_map]at e3
   omega
 ·rfl
theorem RS.putB (a:RS RP R b h n sP capP cs sB capB ls W B) {i k:Nat} {q:LS} {v:PV} {w:List Int} (hq:ls[i]? = some q) (hk:k<q.cs.length) (hv:R v w) (ho:v.one=true):
    h.wr q.s k [v]=some (h.set q.s (q.cs.set k v))∧RS RP R b (h.set q.s (q.cs.set k v)) n sP capP cs sB capB (ls.set i ⟨q.s,q.cap,q.cs.set k v⟩) W (B.set i ((B.getD i []).set k w)):=by
  obtain⟨p1,p2,p3,p4⟩:=a.P;obtain⟨q1,q2,q3,q4⟩:=a.Q;have hm:=List.mem_of_getElem? hq;obtain⟨g1,g2,g3,g4⟩:=a.lok q hm;obtain⟨hil,hie⟩:=List.getElem?_eq_some_iff.1 hq;have hn:=a.lne q hm;have epv:LS.pv ⟨q.s,q.cap,q.cs.set k v⟩=q.pv:=by simp [LS.pv]
  have hmem:∀q',q'∈ls.set i ⟨q.s,q.cap,q.cs.set k v⟩→q'=⟨q.s,q.cap,q.cs.set k v⟩∨(q'∈ls∧q'.s≠q.s):=fun q' hq'=>by
    obtain⟨j,hj⟩:=List.getElem?_of_mem hq';rw [List.getElem?_set]at hj
    split at hj
    · first
      | (cases hj;exact .inl rfl)
      | (split at hj
         · cases hj;exact .inl rfl
         · cases hj)
    · rename_i e
      refine .inr ⟨List.mem_of_getElem? hj,fun e2=>e ?_⟩
      obtain⟨hjl,hje⟩:=List.getElem?_eq_some_iff.1 hj
      have:=(List.getElem_inj (xs:=ls.map LS.s) (i:=i) (j:=j) (h₀:=by rw [List.length_map];exact hil) (h₁:=by rw [List.length_map];exact hjl) a.nd).1 (by rw [List.getElem_map,List.getElem_map,hie,hje,e2])
      exact this
  refine⟨zAG g2 hk ho,⟨p1,by rw [zH,if_neg (Ne.symm hn.1)];exact p2,p3,p4⟩,⟨q1,by rw [zH,if_neg (Ne.symm hn.2),zCc LS.pv hq epv];exact q2,q3,q4⟩,a.ne,fun q' hq'=>?_,fun q' hq'=>?_,?_,a.aP,?_,a.lW,by rw [List.length_set];exact a.lB⟩
  · rcases hmem q' hq' with rfl | ⟨h1,h2⟩
    · exact⟨by show full 1 q.cap (q.cs.set k v).length;rw [List.length_set];exact g1,by rw [zH,if_pos rfl],g3,g4⟩
    · exact(a.lok q' h1).move (by rw [zH,if_neg h2]) (Nat.le_refl _)
  · rcases hmem q' hq' with rfl | ⟨h1,h2⟩
    · exact hn
    · exact a.lne q' h1
  · rw [zCc LS.s (y:=⟨q.s,q.cap,q.cs.set k v⟩) hq rfl]
    exact a.nd
  · have hB:=a.lB
    have hl:=a.lsl;refine zED a.aB (zED ?_ hv)
    have:=a.aB.2 i _ _ hq (List.getElem?_eq_getElem (by omega))
    rw [List.getD_eq_getElem?_getD,List.getElem?_eq_getElem (by omega)]
    exact this
theorem RS.imp {RP' R':PV→List Int→Prop} (a:RS RP R b h n sP capP cs sB capB ls W B) (h1:All2 RP' cs W) (h2:RowsG R' ls B):RS RP' R' b h n sP capP cs sB capB ls W B:=⟨a.P,a.Q,a.ne,a.lok,a.lne,a.nd,h1,h2,a.lW,a.lB⟩
theorem zFL {t o:Nat} {xs:List PV}:∀vs:List PV,sbs t o xs vs=vs.map (sb t o xs)
 | []=>rfl
 | v::vs=>by simp only [sbs,List.map_cons,zFL vs]
theorem QG {t o u:Nat} {xs ds:List PV} (hne:u≠t) (ho:h.obj u=some ds):((h.kill t).sub t o xs).obj u=some (sbs t o xs ds):=by
 show(((h.kill t).obj u).map (sbs t o xs))=_
 rw [zCV,if_neg hne,ho];rfl
def LS.fr (t o:Nat) (xs:List PV) (q:LS):LS:=⟨q.s,q.cap,sbs t o xs q.cs⟩
theorem LS.fr_pv {t o:Nat} {xs:List PV} (q:LS):(LS.fr t o xs q).pv=q.pv:=by simp [LS.fr,LS.pv,ZR]
theorem LS.sbs_pv {t o:Nat} {xs:List PV}:∀{ls:List LS},(∀q∈ls,q.s≠t)→sbs t o xs (ls.map LS.pv)=ls.map LS.pv
 | [],_=>rfl
 | q::ls,hn=>by
  have:=hn q (List.mem_cons_self ..)
  simp only [List.map_cons,sbs,LS.sbs_pv fun q' hq=>hn q' (List.mem_cons_of_mem _ hq)]
  simp only [LS.pv,sb,this,false_and,if_false]
theorem LS.fr_ok {t o:Nat} {xs:List PV} {q:LS} (a:q.ok h b) (hn:q.s≠t):(LS.fr t o xs q).ok ((h.kill t).sub t o xs) b:=by
 obtain⟨h1,h2,h3,h4⟩:=a;exact⟨by show full 1 q.cap (sbs t o xs q.cs).length;rw [ZR];exact h1,QG hn h2,h3,h4⟩
theorem LS.fr_same {t o:Nat} {xs:List PV} {ls:List LS} (hb:∀q∈ls,Bels 0 q.cs):ls.map (LS.fr t o xs)=ls:=by
 conv=>rhs;rw [←List.map_id ls]
 refine List.map_congr_left fun q hq=>?_
 show(⟨q.s,q.cap,sbs t o xs q.cs⟩:LS)=q
 rw [QH (Nat.zero_le _) (hb q hq)]
theorem RS.fzh {RP' R':PV→List Int→Prop} {t o:Nat} {xs:List PV} (a:RS RP R b h n sP capP cs sB capB ls W B) (hn:t≠sP∧t≠sB∧∀q∈ls,q.s≠t) (hP:∀v w,RP v w→RP' (sb t o xs v) w) (hR:∀v w,R v w→R' (sb t o xs v) w):
  RS RP' R' b ((h.kill t).sub t o xs) n sP capP (sbs t o xs cs) sB capB (ls.map (LS.fr t o xs)) W B:=by
 obtain⟨p1,p2,p3,p4⟩:=a.P;obtain⟨q1,q2,q3,q4⟩:=a.Q;have e1:(ls.map (LS.fr t o xs)).map LS.pv=ls.map LS.pv:=by rw [List.map_map];exact List.map_congr_left fun q _=>LS.fr_pv q
 have e2:(ls.map (LS.fr t o xs)).map LS.s=ls.map LS.s:=by rw [List.map_map];exact List.map_congr_left fun q _=>rfl
 have a2:∀{S S':PV→List Int→Prop} {vs:List PV} {ws:List (List Int)},(∀v w,S v w→S' (sb t o xs v) w)→All2 S vs ws→All2 S' (sbs t o xs vs) ws:=fun hS k=>by
  refine⟨by rw [ZR];exact k.1,fun j x y hx hy=>?_⟩
  rw [zFL,List.getElem?_map]at hx
  obtain⟨v,hv,rfl⟩:=Option.map_eq_some_iff.1 hx;exact hS _ _ (k.2 j v y hv hy)
 refine⟨⟨p1,QG (Ne.symm hn.1) p2,p3,p4⟩,⟨q1,by rw [e1,QG (Ne.symm hn.2.1) q2,LS.sbs_pv hn.2.2],q3,q4⟩,a.ne,fun q hq=>?_,fun q hq=>?_,by rw [e2];exact a.nd,a2 hP a.aP,⟨by rw [List.length_map];exact a.aB.1,fun j x y hx hy=>?_⟩,a.lW,a.lB⟩
 ·obtain⟨q',hq',rfl⟩:=List.mem_map.1 hq
  exact LS.fr_ok (a.lok q' hq') (hn.2.2 q' hq')
 ·obtain⟨q',hq',rfl⟩:=List.mem_map.1 hq
  exact a.lne q' hq'
 ·rw [List.getElem?_map]at hx
  obtain⟨q',hq',rfl⟩:=Option.map_eq_some_iff.1 hx;exact a2 hR (a.aB.2 j q' y hq' hy)
theorem RS.fin (a:RS FI FI b h n sP capP cs sB capB ls W B) (hk:Keep σ h) (hb:σ.next≤b) (k:∀vP vB,IsR vP vB W B→K (.agg [.int .i64 p,vP,vB]) σ):Gh σ K (.agg [.int .i64 p,.sl sP 0 n capP,.sl sB 0 n capB]) h:=by
 obtain⟨p1,p2,p3,p4⟩:=a.P;obtain⟨q1,q2,q3,q4⟩:=a.Q;have e1:=a.csl;have e2:=a.lsl;have et:(TR.agg [.leaf (.int .i64 p),.lst sP capP (cs.map TR.leaf),.lst sB capB (ls.map LS.tr)]).pv=.agg [.int .i64 p,.sl sP 0 n capP,.sl sB 0 n capB]:=by
  simp only [TR.pv,TR.pvs,List.length_map];rw [e1,e2]
 rw [←et];refine Gh.treeF hk ⟨trivial,⟨⟨by rw [List.length_map,e1];exact p1,by rw [Qb];exact p2,by omega,p4⟩,Qc (a.aP.bI 0)⟩,⟨⟨by rw [List.length_map,e2];exact q1,by rw [LS.tr_pvs];exact q2,by omega,q4⟩,LS.trs_okF fun q hq=>?_⟩,trivial⟩ fun aa=>k _ _ ⟨⟨true,.sl (aa sP) 0 cs.length capP,cs,?_,a.aP⟩,⟨true,.sl (aa sB) 0 ls.length capB,TR.fzs aa (ls.map LS.tr),?_,zBM a.aB⟩⟩
 ·obtain⟨g1,g2,g3,g4⟩:=a.lok q hq
  refine⟨⟨g1,g2,by omega,g4⟩,?_⟩
  obtain⟨k,hk9,rfl⟩:=List.mem_iff_getElem.1 hq;exact(a.aB.2 k _ _ (List.getElem?_eq_getElem hk9) (List.getElem?_eq_getElem (by rw [←a.aB.1];exact hk9))).bI 0
 ·simp only [TR.fz,Qd,List.length_map];rw [e1,a.lW]
 ·simp only [TR.fz,List.length_map];rw [e2,a.lB]
theorem SU.fzh {T:PHeap} {p0 t o:Nat} {v0:PV} {fs:List (PV×List PV)} {xs:List PV} (w:PWF T) (a:SU T h p0 v0 fs ls) (ht:T.next≤t) (hp:t≠p0) (hv:sb t o xs v0=v0) (hf:∀f∈fs,∀off l c,f.1≠.sl t off l c) (hl:∀q∈ls,q.s≠t):
  SU T ((h.kill t).sub t o xs) p0 v0 (fs.map fun f=>(f.1,sbs t o xs f.2)) (ls.map (LS.fr t o xs)):=by
 have hsame:∀f∈fs,sb t o xs f.1=f.1:=fun f hm=>by
  obtain⟨s,cap,e,_⟩:=a.acc f hm;rw [e]
  have:s≠t:=fun e2=>hf f hm 0 f.2.length cap (by rw [e,e2])
  simp only [sb,this,false_and,if_false]
 have hmem:∀{f:PV×List PV},f∈fs.map (fun f=>(f.1,sbs t o xs f.2))→∃f',f'∈fs∧f=(f'.1,sbs t o xs f'.2):=fun hm=>by
  obtain⟨f',h1,h2⟩:=List.mem_map.1 hm;exact⟨f',h1,h2.symm⟩
 have hfst:(fs.map fun f=>(f.1,sbs t o xs f.2)).map Prod.fst=fs.map Prod.fst:=by rw [List.map_map];exact List.map_congr_left fun f _=>rfl
 refine⟨(a.keep.kill ht).sub w ht,?_,a.p0b,fun f hm=>?_,fun f hm=>?_,fun i j f g hi hj hne s off l c e=>?_,fun q hq=>?_,fun q hq=>?_⟩
 ·rw [hfst,QG (Ne.symm hp) a.obj]
  simp only [sbs,hv]
  congr 2
  rw [zFL,List.map_map];exact List.map_congr_left fun f hm=>hsame f hm
 ·obtain⟨f',h1,rfl⟩:=hmem hm
  obtain⟨s,cap,e,g1,g2,g3,g4,g5⟩:=a.acc f' h1
  have:s≠t:=fun e2=>hf f' h1 0 f'.2.length cap (by rw [e,e2])
  exact⟨s,cap,by show f'.1=_;rw [e,ZR],by show full 1 cap (sbs t o xs f'.2).length;rw [ZR];exact g1,QG this g2,by show(sbs t o xs f'.2).length=(sbs t o xs f'.2).length*1;rw [Nat.mul_one],g4,g5⟩
 ·obtain⟨f',h1,rfl⟩:=hmem hm
  exact a.ne f' h1
 ·rw [List.getElem?_map]at hi hj
  obtain⟨f',h1,rfl⟩:=Option.map_eq_some_iff.1 hi;obtain⟨g',h2,rfl⟩:=Option.map_eq_some_iff.1 hj;exact a.dis i j f' g' h1 h2 hne s off l c e
 ·obtain⟨q',h1,rfl⟩:=List.mem_map.1 hq
  exact LS.fr_ok (a.lok q' h1) (hl q' h1)
 ·obtain⟨q',h1,rfl⟩:=List.mem_map.1 hq
  refine⟨(a.lne q' h1).1,fun f hm=>?_⟩
  obtain⟨f',h2,rfl⟩:=hmem hm;exact(a.lne q' h1).2 f' h2
theorem SU.move {T h2:PHeap} {p0:Nat} {v0:PV} {fs:List (PV×List PV)} (a:SU T h p0 v0 fs ls) (kT:Keep T h2) (hn:h.next≤h2.next) (ho:∀t,(t=p0∨(∃f∈fs,∃off l c,f.1=.sl t off l c)∨∃q∈ls,q.s=t)→h2.obj t=h.obj t):SU T h2 p0 v0 fs ls:=
 ⟨kT,by rw [ho _ (.inl rfl)];exact a.obj,⟨a.p0b.1,by have:=a.p0b.2;omega⟩,fun f hf=>Q5 (a.acc f hf) (fun s off l c e=>ho _ (.inr (.inl ⟨f,hf,off,l,c,e⟩))) hn,a.ne,a.dis,fun q hq=>(a.lok q hq).move (ho _ (.inr (.inr ⟨q,hq,rfl⟩))) hn,a.lne⟩
theorem SU.rs {T:PHeap} {p0:Nat} {v0 vP vB:PV} {cC:List PV} (a:SU T h p0 v0 [(vP,cs),(vB,cC)] ls) (hC:cC=ls.map LS.pv) (nd:(ls.map LS.s).Nodup) (hP:All2 RP cs W) (hB:RowsG R ls B) (lW:W.length=n) (lB:B.length=n):
  ∃sP capP sB capB,vP=.sl sP 0 n capP∧vB=.sl sB 0 n capB∧RS RP R T.next h n sP capP cs sB capB ls W B:=by
 have hcl:cs.length=n:=hP.1.trans lW;have hll:cC.length=n:=by rw [hC,List.length_map];exact hB.1.trans lB
 obtain⟨sP,capP,e1,p1,p2,p3,p4,p5⟩:=a.acc (vP,cs) (by simp)
 obtain⟨sB,capB,e2,q1,q2,q3,q4,q5⟩:=a.acc (vB,cC) (by simp)
 dsimp only at e1 p1 p2 p3 e2 q1 q2 q3
 rw [hcl]at e1 p1
 rw [hll]at e2 q1
 refine⟨sP,capP,sB,capB,e1,e2,⟨p1,p2,p4,p5⟩,⟨q1,by rw [←hC];exact q2,q4,q5⟩,fun e=>?_,a.lok,fun q hq=>⟨fun e=>?_,fun e=>?_⟩,nd,hP,hB,lW,lB⟩
 ·exact a.dis 0 1 (vP,cs) (vB,cC) rfl rfl (by omega) sP 0 n capP e1 0 n capB (by rw [e2,e])
 ·exact(a.lne q hq).2 (vP,cs) (by simp) 0 n capP (by rw [e];exact e1)
 ·exact(a.lne q hq).2 (vB,cC) (by simp) 0 n capB (by rw [e];exact e2)
end Go.Proofs
namespace Go.Proofs
open Go.Ab Go.Lie
variable {σ σ0 h h':PHeap} {K:PV→PHeap→Prop} {vC:PV} {bs:List Int} {s b n:Nat} {p:Int} {sP sB:Nat} {capP capB:Cap} {cs:List PV} {ls:List LS} {W:List (List Int)} {B:List (List (List Int))}
abbrev zrow (n:Nat):List Int:=List.replicate n 0
def zB (n i:Nat):List (List (List Int)):=(List.range i).map fun j=>List.replicate (n-1-j) (zrow n)
def Any (_:PV) (_:List Int):Prop:=True
theorem zI9 (n i:Nat):zB n (i+1)=zB n i++[List.replicate (n-1-i) (zrow n)]:=by unfold zB;rw [List.range_succ,List.map_append];rfl
theorem zA5 (n i:Nat):(zB n i).length=i:=by simp [zB]
theorem zNk {vs:List PV} {ws:List (List Int)} (e:vs.length=ws.length):All2 Any vs ws:=⟨e,fun _ _ _ _ _=>trivial⟩
theorem zHy {α β:Type} {R:α→β→Prop} {xs:List α} {y:β} {k:Nat} (a:All2 R xs (List.replicate k y)) {x:α} (hx:R x y):All2 R (xs++[x]) (List.replicate (k+1) y):=by
 rw [List.replicate_succ'];exact a.snoc hx
structure CycI (T h:PHeap) (m p0 n q:Nat) (p:Int) (v3 vB:PV) (cP cC:List PV) (ls:List LS) (vR:PV) (cells:List PV):Prop where
 su:SU T h p0 (.int .i64 p) [(v3,cP),(vB,cC)] ls
 row:PSl m 1 h vR q cells
 all:All2 FI cells (List.replicate q (zrow n))
 le:m≤h.next
 lo:∀t,(t=p0∨(∃f∈[(v3,cP),(vB,cC)],∃off l c,f.1=.sl t off l c)∨∃q∈ls,q.s=t)→t<m
theorem zHI (hn1:1≤n) (hn6:n≤6)
  (hk:∀sP capP cs sB capB ls h,Keep σ h→RS Any FI σ.next h n sP capP cs sB capB ls (List.replicate n []) (zB n n)→K (.agg [.int .i64 p,.sl sP 0 n capP,.sl sB 0 n capB]) h):
  zA Tryz.prog 282 [.int .i64 p,.int .i64 n] σ K:=by
 refine zA.pwf fun w=>?_
 generalize hT:σ.new [.int .i64 0,.fz true .nils 0 [],.fz true .nils 0 []]=T;have hTn:T.next=σ.next+1:=by rw [←hT];rfl
 have hkT:Keep σ T:=by rw [←hT];exact zD σ _
 have wT:PWF T:=by rw [←hT];exact w.newB ⟨trivial,trivial,trivial,trivial⟩
 have hres:∀{g:PHeap} {u0 u1 u2:PV},Keep T g→u0.one=true→u1.one=true→u2.one=true→g.wr σ.next 0 [u0,u1,u2]=some (g.set σ.next [u0,u1,u2])∧(g.set σ.next [u0,u1,u2]).rd σ.next 0 3=some [u0,u1,u2]:=fun {g u0 u1 u2} k z0 z1 z2=>by
  have hres:g.obj σ.next=some [.int .i64 0,.fz true .nils 0 [],.fz true .nils 0 []]:=by rw [k.obj _ (by omega),←hT];simp only [pwA,seval,-iQ0]
  exact⟨by rw [zq hres,if_pos ⟨by simp,by simp only [List.all_cons,List.all_nil,z0,z1,z2];rfl⟩];rfl,by rw [qo,if_pos rfl];rfl⟩
 refine zC mix Tryz.func282 ?_
 conv=>arg 2;cbv
 refine zF rfl ?_;simp only [pwA,seval,-iQ0];rw [hT];refine zG (fun m us h=>∃(i:Nat) (vQ vB:PV) (cP cC:List PV) (ls:List LS),i≤n∧m=n-i∧us=[.int .i64 n,.ptr σ.next 0,.ptr (σ.next+3) 0,.int .i64 i]∧SU T h (σ.next+3) (.int .i64 p) [(vQ,cP),(vB,cC)] ls∧cP.length=i∧cC=ls.map LS.pv∧(ls.map LS.s).Nodup∧RowsG FI ls (zB n i)) n ?_ ?_
 ·refine⟨0,.sl (σ.next+1) 0 0 (.known 0),.sl (σ.next+2) 0 0 (.known 0),[],[],[],by omega,by omega,rfl,⟨((zD T _).new _).new _,by simp only [pwA,seval,-iQ0,hTn],⟨by omega,by first | (simp only [pwA,seval,-iQ0,hTn];done) | (simp only [pwA,seval,-iQ0,hTn];omega)⟩,fun f hf=>?_,fun f hf off l c e=>?_,fun i j f g hf hg hne s off l c e off' l' c' e'=>?_,fun q hq=>(by cases hq),fun q hq=>(by cases hq)⟩,rfl,rfl,List.nodup_nil,All2.nil _⟩
  ·simp only [List.mem_cons,List.not_mem_nil,or_false]at hf
   rcases hf with rfl|rfl
   ·exact PSl.own (.inr rfl) (by simp only [pwA,seval,-iQ0,hTn]) rfl (by omega) (by first | (simp only [pwA,seval,-iQ0,hTn];done) | (simp only [pwA,seval,-iQ0,hTn];omega))
   ·exact PSl.own (.inr rfl) (by simp only [pwA,seval,-iQ0,hTn]) rfl (by omega) (by first | (simp only [pwA,seval,-iQ0,hTn];done) | (simp only [pwA,seval,-iQ0,hTn];omega))
  ·simp only [List.mem_cons,List.not_mem_nil,or_false]at hf
   rcases hf with rfl|rfl<;>(simp only [PV.sl.injEq]at e;omega)
  ·match i,j with
   | 0,0=>exact hne rfl
   | 1,1=>exact hne rfl
   | 0,1 | 1,0=>cases hf;cases hg;simp only [PV.sl.injEq]at e e';omega
   | i+2,_=>simp at hf
   | 0,j+2 | 1,j+2=>simp at hg
 as_aux_lemma=>
 rintro m us h ⟨i,vQ,vB,cP,cC,ls,hi,rfl,rfl,a,hcP,hcC,hnd,hcR⟩
 have aP:=a.acc (vQ,cP) (by simp)
 have aC:=a.acc (vB,cC) (by simp)
 have f3:h.rd (σ.next+3) 0 3=some [.int .i64 p,vQ,vB]:=by rw [zh a.obj];rfl
 have f1:h.rd1 (σ.next+3) 1=some vQ:=by rw [zI a.obj];rfl
 simp only [pwA,seval,-iQ0];refine iteI (fun hlt=>?_) fun hge=>?_
 rotate_left
 ·as_aux_lemma=>
  have hie:i=n:=by omega
  subst hie;obtain⟨g1,g2⟩:=hres a.keep (u0:=.int .i64 p) rfl aP.one aC.one;simp only [pwA,seval,-iQ0,f3,g1,g2];obtain⟨sP,capP,sB,capB,e1,e2,rs⟩:=a.rs (n:=i) (RP:=Any) (R:=FI) (W:=List.replicate i []) (B:=zB i i) hcC hnd (zNk (by rw [hcP];simp)) hcR (by simp) (zA5 i i)
  subst e1 e2;exact hk sP capP cP sB capB ls _ ((hkT.trans a.keep).set (Nat.le_refl _) _) ((rs.low (by omega)).move (fun t ht=>by
   have:=(rs.lt ht).1
   rw [zH,if_neg (by omega)]) (Nat.le_refl _))
 have hlt':i<n:=by omega
 have wi1:IntKind.i64.wrap ((i:Int)+1)=((i+1:Nat):Int):=wrapS hlt' (by omega)
 have hn3:¬σ.next+3=h.next:=by have:=a.p0b.2;omega
 have hone1:∀f,f∈[(vQ,cP),(vB,cC)]→f.1.one=true:=fun f hf=>(a.acc f hf).one
 simp only [pwA,seval,-iQ0,mk8 (n:=n) (by omega),mkL (n:=n) (by omega),qG,wi1]
 refine iteI (fun h1=>?_) fun h1=>?_
 rotate_left
 ·generalize hX:(List.replicate n (PV.int .i64 0))=X
  clear hX;simp only [pwA,seval,-iQ0,hn3,f1];refine SU.push (a.keepI (zD h X)) (j:=0) (bytes:=24) rfl (by omega) (by omega) hone1 fun v3 h3 z4 z5 z6 a3=>?_
  simp only [List.set_cons_zero,List.set_cons_succ,List.map_cons,List.map_nil]at z6 a3
  generalize h3.set (σ.next+3) [.int .i64 p,v3,vB]=h4 at *
  simp only [pwA,seval,-iQ0,z4,z5,z6,wi1];clear z4 z5 z6 f1 f3;have lo4:∀t,(t=σ.next+3∨(∃f∈[(v3,cP++[PV.sl h.next 0 n (.known n)]),(vB,cC)],∃off l c,f.1=.sl t off l c)∨∃q∈ls,q.s=t)→t<h4.next:=fun t ht=>by
   rcases ht with rfl|⟨f,hf,off,l,c,e⟩|⟨q,hq,rfl⟩
   ·exact a3.p0b.2
   ·exact Z8 (a3.acc f hf) e
   ·exact(a3.lok q hq).2.2.2
  refine Za (fun m us h=>∃(q:Nat) (vR:PV) (cP' cells:List PV),i+(1+q)≤n∧m=n-(i+(1+q))∧us=[.int .i64 n,.ptr σ.next 0,.ptr (σ.next+3) 0,.int .i64 i,vR,.int .i64 ((i+(1+q):Nat):Int)]∧CycI T h h4.next (σ.next+3) n q p v3 vB cP' cC ls vR cells∧cP'.length=i+1) (n-(i+1)) (.here ⟨0,.sl h4.next 0 0 (.known 0),_,[],by omega,rfl,rfl,⟨a3.keepI (zD _ _),PSl.new _ 1 rfl (Nat.le_refl _),All2.nil _,Nat.le_succ _,lo4⟩,by rw [List.length_append];simp;omega⟩) ?_
  rintro m us h7 ⟨q,vR,cP',cells,hq,rfl,rfl,c,hcP'⟩
  simp only [pwA,seval,-iQ0];refine iteI (fun hltq=>?_) fun hgeq=>?_
  rotate_left
  ·have hqe:q=n-1-i:=by omega
   subst hqe;obtain⟨su,row,all,le,lo⟩:=c;obtain⟨t,cap,rfl,hf,q2,q3,q4,q5⟩:=row;have f2:h7.rd1 (σ.next+3) 2=some vB:=by rw [zI su.obj];rfl
   have hn9:¬σ.next+3=h7.next:=by have:=su.p0b.2;omega
   have hone3:∀f,f∈[(v3,cP'),(vB,cC)]→f.1.one=true:=fun f hf=>(su.acc f hf).one
   have hct:cells.length=n-1-i:=by omega
   have hfr:∀u,(u=σ.next+3∨(∃f∈[(v3,cP'),(vB,cC)],∃off l c,f.1=.sl u off l c)∨∃q∈ls,q.s=u)→t≠u:=fun u hu e=>by have:=lo u hu;omega
   have a10:=SU.more (q:=⟨t,cap,cells⟩) su ⟨by rw [hct];exact hf,q2,by have:=a3.keep.next;show T.next≤t;omega,q5⟩ ⟨hfr _ (.inl rfl),fun f hf off l c e=>hfr t (.inr (.inl ⟨f,hf,off,l,c,e⟩)) rfl⟩
   simp only [pwA,seval,-iQ0,f2,hn9];refine SU.push a10 (j:=1) (bytes:=24) rfl (by rw [hcC,List.length_map,hcR.1,zA5];omega) (by omega) hone3 fun v5 h5 z1 z2 z3 a5=>?_
   simp only [List.set_cons_zero,List.set_cons_succ,List.map_cons,List.map_nil]at z3 a5
   generalize h5.set (σ.next+3) [.int .i64 p,v3,v5]=h6 at *
   simp only [pwA,seval,-iQ0,z1,z2,z3,wi1];refine⟨_,by omega,i+1,v3,v5,cP',_,ls++[⟨t,cap,cells⟩],by omega,rfl,rfl,a5,hcP',?_,?_,?_⟩
   ·rw [hcC,List.map_append];simp only [List.map_cons,List.map_nil,LS.pv];rw [hct]
   ·rw [List.map_append,List.nodup_append]
    refine⟨hnd,by simp,fun x hx y hy e=>?_⟩
    simp only [List.map_cons,List.map_nil,List.mem_singleton]at hy
    obtain⟨q',hq',rfl⟩:=List.mem_map.1 hx;exact hfr q'.s (.inr (.inr ⟨q',hq',rfl⟩)) (by rw [e,hy])
   ·rw [zI9]
    exact All2.snoc hcR all
  have hq':i+(1+q)<n:=by omega
  have e5:IntKind.i64.wrap (((i+(1+q):Nat):Int)+1)=((i+(1+(q+1)):Nat):Int):=by rw [wrap64 (by omega) (by omega)];omega
  obtain⟨su,row,all,le,lo⟩:=c;simp only [pwA,seval,-iQ0,mk8 (n:=n) (by omega),mkL (n:=n) (by omega),qG]
  refine PAcc.pushS (σb:=T) (bytes:=24) (su.keep.new _) ((row.acc.keep (zD _ _)).low (by have:=a3.keep.next;omega)) rfl (by omega) (by omega) fun v9 h8 k8 p8 o8 n8 l8=>?_
  have hnx:(h7.new (pis (List.replicate n 0))).next=h7.next+1:=rfl;rw [hnx]at o8 n8 l8
  simp only [pwA,seval,-iQ0,e5];have hrR:∀t,t<h4.next→∀off l c,vR≠.sl t off l c:=fun t ht off l c e=>by
   obtain⟨s',cap',e',_,_,_,g4,_⟩:=row;rw [e']at e
   cases e;omega
  have su8:SU T h8 (σ.next+3) (.int .i64 p) [(v3,cP'),(vB,cC)] ls:=su.move k8 (by omega) fun t ht=>by
   have:=lo t ht
   rw [o8 t (by omega) (hrR t this),zP,if_neg (by omega)]
  have hnew:h8.obj h7.next=some (pis (zrow n)):=by
   rw [o8 _ (by omega) (fun off l c e=>by have:=Z8 row e;omega),zP,if_pos rfl]
  have hT7:T.next≤h7.next:=su.keep.next;refine⟨n-(i+(1+(q+1))),by omega,.fzh h7.next (pis (zrow n)) hnew (zM _ _) fun o1=>.here ⟨q+1,v9,sbs h7.next o1 (pis (zrow n)) cP',cells++[.fz true (.sl o1 0 n (.known n)) n (pis (zrow n))],by omega,rfl,?_,?_,by rw [ZR];exact hcP'⟩⟩
  ·have:sb h7.next o1 (pis (zrow n)) v9=v9:=by
    obtain⟨s',cap',e',_,_,_,g4,_⟩:=p8
    have:s'≠h7.next:=fun e=>n8 h7.next (by omega) 0 (q+1) cap' (by rw [e',e])
    rw [e'];simp only [sb,this,false_and,if_false]
   simp only [sbs,sb,this]
  have hbel:∀q∈ls,Bels 0 q.cs:=fun q hq=>by
   obtain⟨k,hk9,rfl⟩:=List.mem_iff_getElem.1 hq;exact(hcR.2 k _ _ (List.getElem?_eq_getElem hk9) (List.getElem?_eq_getElem (by rw [←hcR.1];exact hk9))).bI 0
  have hls:∀q∈ls,q.s≠h7.next:=fun q hq e=>by have:=lo _ (.inr (.inr ⟨q,hq,e⟩));omega
  have su9:=SU.fzh (o:=o1) (xs:=pis (zrow n)) wT su8 hT7 (by have:=lo _ (.inl rfl);omega) rfl (fun f hf off l c e=>by have:=lo _ (.inr (.inl ⟨f,hf,off,l,c,e⟩));omega) hls
  rw [LS.fr_same hbel]at su9
  simp only [List.map_cons,List.map_nil]at su9
  rw [hcC,LS.sbs_pv hls,←hcC]at su9
  refine⟨su9,?_,?_,by show h4.next≤h8.next;omega,fun t ht=>lo t ?_⟩
  ·obtain⟨s',cap',e',g1,g2,g3,g4,g5⟩:=p8
   have hne:s'≠h7.next:=fun e=>n8 h7.next (by omega) 0 (q+1) cap' (by rw [e',e])
   refine⟨s',cap',e',g1,?_,?_,?_,g5⟩
   ·rw [QG hne g2,zJD (all.bI 0) (by simp [capOK])]
   ·rw [List.length_append]at g3 ⊢;exact g3
   ·rcases Nat.lt_or_ge s' h4.next with g | g
    ·exact absurd e' (n8 s' (by omega) 0 (q+1) cap')
    ·exact g
  ·exact zHy all ⟨true,_,by rw [List.length_replicate]⟩
  ·rcases ht with e | ⟨f,hf,off,l,c,e⟩ | e
   ·exact .inl e
   ·simp only [List.mem_cons,List.not_mem_nil,or_false]at hf
    rcases hf with rfl|rfl
    ·exact .inr (.inl ⟨(v3,cP'),by simp,off,l,c,e⟩)
    ·exact .inr (.inl ⟨(vB,cC),by simp,off,l,c,e⟩)
   ·exact .inr (.inr e)
 ·have h1':i+1<n:=by omega
  simp only [pwA,seval,-iQ0,h1',List.length_replicate,zK,Nat.succ_le_of_lt h1'];generalize hX:(List.take (i+1) (List.replicate n (PV.int .i64 0))++[PV.int IntKind.i64 1]++List.drop (i+2) (List.replicate n (PV.int .i64 0)))=X;clear hX;simp only [pwA,seval,-iQ0,hn3,f1];refine SU.push (a.keepI (zD h X)) (j:=0) (bytes:=24) rfl (by omega) (by omega) hone1 fun v3 h3 z4 z5 z6 a3=>?_
  simp only [List.set_cons_zero,List.set_cons_succ,List.map_cons,List.map_nil]at z6 a3
  generalize h3.set (σ.next+3) [.int .i64 p,v3,vB]=h4 at *
  simp only [pwA,seval,-iQ0,z4,z5,z6,wi1];clear z4 z5 z6 f1 f3;have lo4:∀t,(t=σ.next+3∨(∃f∈[(v3,cP++[PV.sl h.next 0 n (.known n)]),(vB,cC)],∃off l c,f.1=.sl t off l c)∨∃q∈ls,q.s=t)→t<h4.next:=fun t ht=>by
   rcases ht with rfl|⟨f,hf,off,l,c,e⟩|⟨q,hq,rfl⟩
   ·exact a3.p0b.2
   ·exact Z8 (a3.acc f hf) e
   ·exact(a3.lok q hq).2.2.2
  refine Za (fun m us h=>∃(q:Nat) (vR:PV) (cP' cells:List PV),i+(1+q)≤n∧m=n-(i+(1+q))∧us=[.int .i64 n,.ptr σ.next 0,.ptr (σ.next+3) 0,.int .i64 i,vR,.int .i64 ((i+(1+q):Nat):Int)]∧CycI T h h4.next (σ.next+3) n q p v3 vB cP' cC ls vR cells∧cP'.length=i+1) (n-(i+1)) (.here ⟨0,.sl h4.next 0 0 (.known 0),_,[],by omega,rfl,rfl,⟨a3.keepI (zD _ _),PSl.new _ 1 rfl (Nat.le_refl _),All2.nil _,Nat.le_succ _,lo4⟩,by rw [List.length_append];simp;omega⟩) ?_
  rintro m us h7 ⟨q,vR,cP',cells,hq,rfl,rfl,c,hcP'⟩
  simp only [pwA,seval,-iQ0];refine iteI (fun hltq=>?_) fun hgeq=>?_
  rotate_left
  ·have hqe:q=n-1-i:=by omega
   subst hqe;obtain⟨su,row,all,le,lo⟩:=c;obtain⟨t,cap,rfl,hf,q2,q3,q4,q5⟩:=row;have f2:h7.rd1 (σ.next+3) 2=some vB:=by rw [zI su.obj];rfl
   have hn9:¬σ.next+3=h7.next:=by have:=su.p0b.2;omega
   have hone3:∀f,f∈[(v3,cP'),(vB,cC)]→f.1.one=true:=fun f hf=>(su.acc f hf).one
   have hct:cells.length=n-1-i:=by omega
   have hfr:∀u,(u=σ.next+3∨(∃f∈[(v3,cP'),(vB,cC)],∃off l c,f.1=.sl u off l c)∨∃q∈ls,q.s=u)→t≠u:=fun u hu e=>by have:=lo u hu;omega
   have a10:=SU.more (q:=⟨t,cap,cells⟩) su ⟨by rw [hct];exact hf,q2,by have:=a3.keep.next;show T.next≤t;omega,q5⟩ ⟨hfr _ (.inl rfl),fun f hf off l c e=>hfr t (.inr (.inl ⟨f,hf,off,l,c,e⟩)) rfl⟩
   simp only [pwA,seval,-iQ0,f2,hn9];refine SU.push a10 (j:=1) (bytes:=24) rfl (by rw [hcC,List.length_map,hcR.1,zA5];omega) (by omega) hone3 fun v5 h5 z1 z2 z3 a5=>?_
   simp only [List.set_cons_zero,List.set_cons_succ,List.map_cons,List.map_nil]at z3 a5
   generalize h5.set (σ.next+3) [.int .i64 p,v3,v5]=h6 at *
   simp only [pwA,seval,-iQ0,z1,z2,z3,wi1];refine⟨_,by omega,i+1,v3,v5,cP',_,ls++[⟨t,cap,cells⟩],by omega,rfl,rfl,a5,hcP',?_,?_,?_⟩
   ·rw [hcC,List.map_append];simp only [List.map_cons,List.map_nil,LS.pv];rw [hct]
   ·rw [List.map_append,List.nodup_append]
    refine⟨hnd,by simp,fun x hx y hy e=>?_⟩
    simp only [List.map_cons,List.map_nil,List.mem_singleton]at hy
    obtain⟨q',hq',rfl⟩:=List.mem_map.1 hx;exact hfr q'.s (.inr (.inr ⟨q',hq',rfl⟩)) (by rw [e,hy])
   ·rw [zI9]
    exact All2.snoc hcR all
  have hq':i+(1+q)<n:=by omega
  have e5:IntKind.i64.wrap (((i+(1+q):Nat):Int)+1)=((i+(1+(q+1)):Nat):Int):=by rw [wrap64 (by omega) (by omega)];omega
  obtain⟨su,row,all,le,lo⟩:=c;simp only [pwA,seval,-iQ0,mk8 (n:=n) (by omega),mkL (n:=n) (by omega),qG]
  refine PAcc.pushS (σb:=T) (bytes:=24) (su.keep.new _) ((row.acc.keep (zD _ _)).low (by have:=a3.keep.next;omega)) rfl (by omega) (by omega) fun v9 h8 k8 p8 o8 n8 l8=>?_
  have hnx:(h7.new (pis (List.replicate n 0))).next=h7.next+1:=rfl;rw [hnx]at o8 n8 l8
  simp only [pwA,seval,-iQ0,e5];have hrR:∀t,t<h4.next→∀off l c,vR≠.sl t off l c:=fun t ht off l c e=>by
   obtain⟨s',cap',e',_,_,_,g4,_⟩:=row;rw [e']at e
   cases e;omega
  have su8:SU T h8 (σ.next+3) (.int .i64 p) [(v3,cP'),(vB,cC)] ls:=su.move k8 (by omega) fun t ht=>by
   have:=lo t ht
   rw [o8 t (by omega) (hrR t this),zP,if_neg (by omega)]
  have hnew:h8.obj h7.next=some (pis (zrow n)):=by
   rw [o8 _ (by omega) (fun off l c e=>by have:=Z8 row e;omega),zP,if_pos rfl]
  have hT7:T.next≤h7.next:=su.keep.next;refine⟨n-(i+(1+(q+1))),by omega,.fzh h7.next (pis (zrow n)) hnew (zM _ _) fun o1=>.here ⟨q+1,v9,sbs h7.next o1 (pis (zrow n)) cP',cells++[.fz true (.sl o1 0 n (.known n)) n (pis (zrow n))],by omega,rfl,?_,?_,by rw [ZR];exact hcP'⟩⟩
  ·have:sb h7.next o1 (pis (zrow n)) v9=v9:=by
    obtain⟨s',cap',e',_,_,_,g4,_⟩:=p8
    have:s'≠h7.next:=fun e=>n8 h7.next (by omega) 0 (q+1) cap' (by rw [e',e])
    rw [e'];simp only [sb,this,false_and,if_false]
   simp only [sbs,sb,this]
  have hbel:∀q∈ls,Bels 0 q.cs:=fun q hq=>by
   obtain⟨k,hk9,rfl⟩:=List.mem_iff_getElem.1 hq;exact(hcR.2 k _ _ (List.getElem?_eq_getElem hk9) (List.getElem?_eq_getElem (by rw [←hcR.1];exact hk9))).bI 0
  have hls:∀q∈ls,q.s≠h7.next:=fun q hq e=>by have:=lo _ (.inr (.inr ⟨q,hq,e⟩));omega
  have su9:=SU.fzh (o:=o1) (xs:=pis (zrow n)) wT su8 hT7 (by have:=lo _ (.inl rfl);omega) rfl (fun f hf off l c e=>by have:=lo _ (.inr (.inl ⟨f,hf,off,l,c,e⟩));omega) hls
  rw [LS.fr_same hbel]at su9
  simp only [List.map_cons,List.map_nil]at su9
  rw [hcC,LS.sbs_pv hls,←hcC]at su9
  refine⟨su9,?_,?_,by show h4.next≤h8.next;omega,fun t ht=>lo t ?_⟩
  ·obtain⟨s',cap',e',g1,g2,g3,g4,g5⟩:=p8
   have hne:s'≠h7.next:=fun e=>n8 h7.next (by omega) 0 (q+1) cap' (by rw [e',e])
   refine⟨s',cap',e',g1,?_,?_,?_,g5⟩
   ·rw [QG hne g2,zJD (all.bI 0) (by simp [capOK])]
   ·rw [List.length_append]at g3 ⊢;exact g3
   ·rcases Nat.lt_or_ge s' h4.next with g | g
    ·exact absurd e' (n8 s' (by omega) 0 (q+1) cap')
    ·exact g
  ·exact zHy all ⟨true,_,by rw [List.length_replicate]⟩
  ·rcases ht with e | ⟨f,hf,off,l,c,e⟩ | e
   ·exact .inl e
   ·simp only [List.mem_cons,List.not_mem_nil,or_false]at hf
    rcases hf with rfl|rfl
    ·exact .inr (.inl ⟨(v3,cP'),by simp,off,l,c,e⟩)
    ·exact .inr (.inl ⟨(vB,cC),by simp,off,l,c,e⟩)
   ·exact .inr (.inr e)
def FI0 (v:PV) (w:List Int):Prop:=w=[]∨FI v w
def FI1 (t n:Nat) (v:PV) (w:List Int):Prop:=w=[]∨FI v w∨(v=.sl t 0 n (.known n)∧w=zrow n)
def zW (n i:Nat):List (List Int):=List.replicate i (zrow n)++List.replicate (n-i) []
theorem zOu {i:Nat} (hi:i<n):(zW n i).set i (zrow n)=zW n (i+1):=by
 unfold zW;rw [List.set_append_right _ _ (by simp),List.length_replicate,Nat.sub_self,show n-i=(n-(i+1))+1 by omega,List.replicate_succ,List.set_cons_zero,List.replicate_succ',List.append_assoc]
 rfl
theorem zJK {t:Nat} (X Y:List PV) (ht:t≠h.next):(h.new X).set t Y=(h.set t Y).new X:=by
 have e:∀u,((h.new X).set t Y).obj u=((h.set t Y).new X).obj u:=fun u=>by
  rw [zH,zP,zP,zH]
  show(if u=t then some Y else if u=h.next then some X else h.obj u)=(if u=h.next then some X else if u=t then some Y else h.obj u)
  by_cases e1:u=t
  ·by_cases e2:u=h.next
   ·exact absurd (e1.symm.trans e2) ht
   ·simp [e1,ht]
  ·simp [e1]
 show(⟨h.next+1,h.top,((h.new X).set t Y).obj⟩:PHeap)=⟨h.next+1,h.top,((h.set t Y).new X).obj⟩
 rw [funext e]
structure FlatI (T h:PHeap) (p0 n i:Nat) (p:Int) (sP:Nat) (capP:Cap) (cs:List PV) (sB:Nat) (capB:Cap) (ls:List LS):Prop where
 keep:Keep T h
 obj:h.obj p0=some [.int .i64 p,.sl sP 0 n capP,.sl sB 0 n capB]
 lt:p0<h.next
 ge:T.next≤p0
 ne:∀t,(t=sP∨t=sB∨∃q∈ls,q.s=t)→p0≠t
 rs:RS FI0 FI T.next h n sP capP cs sB capB ls (zW n i) (zB n n)
theorem zEn (hn1:1≤n) (hn6:n≤6)
  (hk:∀sP capP cs sB capB ls h,Keep σ h→RS FI FI σ.next h n sP capP cs sB capB ls (List.replicate n (zrow n)) (zB n n)→K (.agg [.int .i64 p,.sl sP 0 n capP,.sl sB 0 n capB]) h):
  zA Tryz.prog 204 [.int .i64 p,.int .i64 n] σ K:=by
 refine zA.pwf fun w=>?_
 generalize hT:σ.new [.int .i64 0,.fz true .nils 0 [],.fz true .nils 0 []]=T;have hTn:T.next=σ.next+1:=by rw [←hT];rfl
 have hkT:Keep σ T:=by rw [←hT];exact zD σ _
 have wT:PWF T:=by rw [←hT];exact w.newB ⟨trivial,trivial,trivial,trivial⟩
 have hres:∀{g:PHeap} {u0 u1 u2:PV},Keep T g→u0.one=true→u1.one=true→u2.one=true→g.wr σ.next 0 [u0,u1,u2]=some (g.set σ.next [u0,u1,u2])∧(g.set σ.next [u0,u1,u2]).rd σ.next 0 3=some [u0,u1,u2]:=fun {g u0 u1 u2} k z0 z1 z2=>by
  have hres:g.obj σ.next=some [.int .i64 0,.fz true .nils 0 [],.fz true .nils 0 []]:=by rw [k.obj _ (by omega),←hT];simp only [pwA,seval,-iQ0]
  exact⟨by rw [zq hres,if_pos ⟨by simp,by simp only [List.all_cons,List.all_nil,z0,z1,z2];rfl⟩];rfl,by rw [qo,if_pos rfl];rfl⟩
 refine zC mix Tryz.func204 ?_
 conv=>arg 2;cbv
 refine zF rfl ?_;simp only [pwA,seval,-iQ0];rw [hT];refine zHI hn1 hn6 fun sP capP cs sB capB ls h1 k1 rs1=>?_
 have hn1':=k1.next;simp only [pwA,seval,-iQ0];refine Za (fun m us h=>∃(i:Nat) (cs:List PV) (ls:List LS),i≤n∧m=n-i∧us=[.int .i64 n,.ptr σ.next 0,.ptr h1.next 0,.int .i64 i]∧FlatI T h h1.next n i p sP capP cs sB capB ls) n (.here ⟨0,cs,ls,by omega,by omega,rfl,⟨k1.new _,by simp only [pwA,seval,-iQ0],by show _<h1.next+1;omega,hn1',fun t ht e=>by have:=(rs1.lt ht).2;omega,?_⟩⟩) ?_
 ·rw [show zW n 0=List.replicate n [] by simp [zW]]
  exact(rs1.imp (RP':=FI0) ⟨by rw [rs1.csl];simp,fun j x y hx hy=>.inl (List.eq_of_mem_replicate (List.mem_of_getElem? hy))⟩ rs1.aB).new _
 rintro m us h2 ⟨i,cs,ls,hi,rfl,rfl,⟨keep,obj,lt,ge,ne,rs⟩⟩
 have f3:h2.rd h1.next 0 3=some [.int .i64 p,.sl sP 0 n capP,.sl sB 0 n capB]:=by rw [zh obj];rfl
 have f1:h2.rd1 h1.next 1=some (.sl sP 0 n capP):=by rw [zI obj];rfl
 simp only [pwA,seval,-iQ0];refine iteI (fun hlt=>?_) fun hge=>?_
 rotate_left
 ·have hie:i=n:=by omega
  subst hie;obtain⟨g1,g2⟩:=hres (u0:=.int .i64 p) (u1:=.sl sP 0 i capP) (u2:=.sl sB 0 i capB) keep rfl rfl rfl;simp only [pwA,seval,-iQ0,f3,g1,g2];have e0:zW i i=List.replicate i (zrow i):=by simp [zW]
  rw [e0]at rs
  have rs':RS FI FI T.next h2 i sP capP cs sB capB ls (List.replicate i (zrow i)) (zB i i):=rs.imp ⟨rs.aP.1,fun j x y hx hy=>(rs.aP.2 j x y hx hy).resolve_left fun e=>by
   have:=List.eq_of_mem_replicate (List.mem_of_getElem? hy)
   rw [this]at e
   have:=congrArg List.length e
   simp at this
   omega⟩ rs.aB
  exact hk sP capP cs sB capB ls _ ((hkT.trans keep).set (Nat.le_refl _) _) ((rs'.low (by omega)).move (fun t ht=>by
   have:=(rs'.lt ht).1
   rw [zH,if_neg (by omega)]) (Nat.le_refl _))
 have hlt':i<n:=by omega
 have hT2:=keep.next;have hn3:¬h1.next=h2.next:=by omega
 have wi1:IntKind.i64.wrap ((i:Int)+1)=((i+1:Nat):Int):=wrapS hlt' (by omega)
 have hneP:¬sP=h2.next:=fun e=>by have:=(rs.lt (.inl e.symm)).2;omega
 have hslt:∀t,(t=sP∨t=sB∨∃q∈ls,q.s=t)→t<h2.next:=fun t ht=>(rs.lt ht).2
 have rs2:=(rs.imp (RP':=FI1 h2.next n) ⟨rs.aP.1,fun j x y hx hy=>(rs.aP.2 j x y hx hy).imp id .inl⟩ rs.aB).new (pis (zrow n))
 obtain⟨w1,rs3⟩:=rs2.putP (i:=i) (v:=.sl h2.next 0 n (.known n)) (w:=zrow n) hlt' (.inr (.inr ⟨rfl,rfl⟩)) rfl;rw [zOu hlt']at rs3
 simp only [pwA,seval,-iQ0,f1,mk8 (n:=n) (by omega),mkL (n:=n) (by omega),qG,hlt',w1,wi1,hn3,hneP]
 rw [zJK _ _ hneP]at rs3
 refine⟨n-(i+1),by omega,.fzh h2.next (pis (zrow n)) (by rw [zP];exact if_pos rfl) (zM _ _) fun o1=>.here ⟨i+1,sbs h2.next o1 (pis (zrow n)) (cs.set i (.sl h2.next 0 n (.known n))),ls.map (LS.fr h2.next o1 (pis (zrow n))),by omega,rfl,by simp only [sbs,sb],?_⟩⟩
 have hsne:∀t,(t=sP∨t=sB∨∃q∈ls,q.s=t)→t≠h2.next:=fun t ht e=>by have:=hslt t ht;omega
 have rs4:=rs3.fzh (RP':=FI0) (R':=FI) (t:=h2.next) (o:=o1) (xs:=pis (zrow n)) ⟨Ne.symm (hsne _ (.inl rfl)),Ne.symm (hsne _ (.inr (.inl rfl))),fun q hq=>hsne _ (.inr (.inr ⟨q,hq,rfl⟩))⟩ (fun v w hv=>?_) (fun v w hv=>by rw [hv.sb];exact hv)
 ·refine⟨((keep.set (by have:=rs.P.2.2.1;omega) _).new _ |>.kill (by omega)).sub wT (by omega),?_,?_,ge,fun t ht=>ne t ?_,rs4⟩
  ·rw [QG hn3 (by rw [zP,if_neg (by exact hn3),zH,if_neg (ne _ (.inl rfl))];exact obj)]
   simp only [sbs,sb,hneP,Ne.symm (hsne _ (.inr (.inl rfl))),hsne _ (.inr (.inl rfl)),false_and,if_false]
  ·show h1.next<h2.next+1;omega
  ·rcases ht with e | e | ⟨q,hq,e⟩
   ·exact .inl e
   ·exact .inr (.inl e)
   ·obtain⟨q',hq',rfl⟩:=List.mem_map.1 hq
    exact .inr (.inr ⟨q',hq',e⟩)
 ·rcases hv with e | e | ⟨e,e2⟩
  ·exact .inl e
  ·exact .inr (by rw [e.sb];exact e)
  ·refine .inr ?_
   rw [e,e2];simp only [sb,capOK,and_self,if_true,Nat.le_refl,decide_true];exact⟨true,_,by rw [List.length_replicate]⟩
end Go.Proofs
namespace Go.Proofs
open Go.Ab Go.Lie
variable {σ σ0 h h':PHeap} {K:PV→PHeap→Prop} {vC:PV} {bs:List Int} {s b n r0:Nat} {p:Int} {sP sB:Nat} {capP capB:Cap} {cs:List PV} {ls:List LS} {W:List (List Int)} {B:List (List (List Int))} {R:PV→List Int→Prop} {F F':List (List Int)→List (List (List Int))→Prop}
structure OkF (p:Int) (n:Nat) (W:List (List Int)) (B:List (List (List Int))):Prop where
 w:OkW p n W
 b:OkB p n B
theorem OkF.zero (hp:okp p) (hn:n≤6):OkF p n (List.replicate n (zrow n)) (zB n n):=by
 have hz:El p n (zrow n):=⟨by simp,fun y hy=>by rw [List.eq_of_mem_replicate hy];have:=hp.1;omega⟩
 refine⟨⟨hp,hn,by simp,fun i hi=>?_⟩,⟨zA5 n n,fun i hi=>by simp [zB],fun i hi k hk=>?_⟩⟩
 ·rw [List.getElem_replicate]
  exact⟨hz.1,hz.2,fun j _=>zm _ _⟩
 ·simp only [zB,List.getElem_map,List.getElem_range,List.getElem_replicate]
  exact⟨hz,fun j _=>zm _ _⟩
theorem OkF.setP (a:OkF p n W B) {i:Nat} {w:List Int} (hw:El p n w) (hz:∀j,j≤i→at_ w j=0):OkF p n (W.set i w) B:=by
 refine⟨⟨a.w.pr,a.w.le,by rw [List.length_set];exact a.w.len,fun j hj=>?_⟩,a.b⟩
 rw [List.getElem_set]
 split
 ·rename_i e;subst e;exact⟨hw.1,hw.2,hz⟩
 ·exact a.w.row j (by rw [List.length_set]at hj;exact hj)
theorem OkF.setB (a:OkF p n W B) {i k:Nat} {w:List Int} (hi:i<n) (hw:El p n w) (hz:∀j,j≤i+k+1→at_ w j=0):OkF p n W (B.set i ((B.getD i []).set k w)):=by
 have hiB:i<B.length:=by rw [a.b.len];exact hi
 refine⟨a.w,⟨by rw [List.length_set];exact a.b.len,fun j hj=>?_,fun j hj m hm=>?_⟩⟩
 ·rw [List.getElem_set]
  split
  ·rename_i e;subst e
   rw [List.length_set,zL hiB];exact a.b.row i hiB
  ·exact a.b.row j (by rw [List.length_set]at hj;exact hj)
 ·rw [List.length_set]at hj
  by_cases e:i=j
  ·subst e
   have e2:(B.set i ((B.getD i []).set k w))[i]'(by rw [List.length_set];exact hj)=(B.getD i []).set k w:=by simp
   simp only [e2]at hm ⊢
   rw [List.getElem_set];rw [List.length_set,zL hiB]at hm
   split
   ·rename_i e3;subst e3;exact⟨hw,hz⟩
   ·have:=a.b.ent i hj m hm
    simp only [zL hiB];exact this
  ·have e2:(B.set i ((B.getD i []).set k w))[j]'(by rw [List.length_set];exact hj)=B[j]:=by simp [e]
   simp only [e2]at hm ⊢
   exact a.b.ent j hj m hm
structure SmF (W:List (List Int)) (B:List (List (List Int))):Prop where
 w:∀r∈W,r.length≤6
 bl:∀q∈B,q.length≤6
 b:∀q∈B,∀r∈q,r.length≤6
theorem OkF.sm (a:OkF p n W B):SmF W B:=by
 have hn:=a.w.le;refine⟨fun r hr=>?_,fun q hq=>?_,fun q hq r hr=>?_⟩
 ·obtain⟨i,hi,rfl⟩:=List.mem_iff_getElem.1 hr
  rw [(a.w.row i hi).1];exact hn
 ·obtain⟨i,hi,rfl⟩:=List.mem_iff_getElem.1 hq
  rw [a.b.row i hi];omega
 ·obtain⟨i,hi,rfl⟩:=List.mem_iff_getElem.1 hq
  obtain⟨k,hk,rfl⟩:=List.mem_iff_getElem.1 hr;rw [(a.b.ent i hi k hk).1.1];exact hn
theorem SmF.setP (a:SmF W B) {i:Nat} {w:List Int} (hw:w.length≤6):SmF (W.set i w) B:=⟨fun r hr=>by
 rcases List.mem_or_eq_of_mem_set hr with e|e
 ·exact a.w r e
 ·rw [e];exact hw,a.bl,a.b⟩
theorem SmF.setB (a:SmF W B) {i k:Nat} {w:List Int} (hi:i<B.length) (hw:w.length≤6):SmF W (B.set i ((B.getD i []).set k w)):=by
 have hm:B.getD i []∈B:=by rw [zL hi];exact List.getElem_mem hi
 refine⟨a.w,fun q hq=>?_,fun q hq r hr=>?_⟩
 ·rcases List.mem_or_eq_of_mem_set hq with e | e
  ·exact a.bl q e
  ·rw [e,List.length_set];exact a.bl _ hm
 ·rcases List.mem_or_eq_of_mem_set hq with e | e
  ·exact a.b q e r hr
  ·rw [e]at hr
   rcases List.mem_or_eq_of_mem_set hr with e2|e2
   ·exact a.b _ hm r e2
   ·rw [e2];exact hw
structure GS (E:Nat→List Int→Prop) (R:PV→List Int→Prop) (F:List (List Int)→List (List (List Int))→Prop) (σ h:PHeap) (s:Nat) (vC:PV) (bs:List Int) (r0:Nat) (p:Int) (n sP:Nat) (capP:Cap) (sB:Nat) (capB:Cap):Prop where
 km:KM σ s h
 so:So h s vC bs
 sl:s<σ.next
 obj:h.obj r0=some [.int .i64 p,.sl sP 0 n capP,.sl sB 0 n capB]
 r0b:σ.next≤r0∧r0<h.next
 rs:∃cs ls W B,RS FI R σ.next h n sP capP cs sB capB ls W B∧F W B∧(∀t,(t=sP∨t=sB∨∃q∈ls,q.s=t)→r0≠t)∧∀u x,E u x→∀t,(t=sP∨t=sB∨∃q∈ls,q.s=t)→u≠t
 ex:∀u x,E u x→h.obj u=some (pis x)∧σ.next≤u∧u<h.next∧u≠r0
def E0 (_:Nat) (_:List Int):Prop:=False
variable {E:Nat→List Int→Prop}
theorem GS.rd (a:GS E R F σ h s vC bs r0 p n sP capP sB capB):h.rd r0 0 3=some [.int .i64 p,.sl sP 0 n capP,.sl sB 0 n capB]∧h.rd1 r0 0=some (.int .i64 p)∧h.rd1 r0 1=some (.sl sP 0 n capP)∧h.rd1 r0 2=some (.sl sB 0 n capB):=by
 refine⟨by rw [zh a.obj];rfl,?_,?_,?_⟩<;>(rw [zI a.obj];rfl)
theorem GS.mv (a:GS E R F σ h s vC bs r0 p n sP capP sB capB) (m:Mv h s h') (so:So h' s vC bs):GS E R F σ h' s vC bs r0 p n sP capP sB capB:=by
 have hs:=a.sl;obtain⟨cs,ls,W,B,rs,f,ne⟩:=a.rs;exact⟨a.km.mv hs m,so,hs,by rw [m.obj (by have:=a.r0b.1;omega)];exact a.obj,⟨a.r0b.1,by rw [m.next];exact a.r0b.2⟩,⟨cs,ls,W,B,rs.mv hs m,f,ne⟩,fun u x e=>by
  obtain⟨g1,g2,g3,g4⟩:=a.ex u x e;exact⟨by rw [m.obj (by omega)];exact g1,g2,by rw [m.next];exact g3,g4⟩⟩
theorem GS.keep (a:GS E R F σ h s vC bs r0 p n sP capP sB capB) (k:Keep h h'):GS E R F σ h' s vC bs r0 p n sP capP sB capB:=by
 obtain⟨cs,ls,W,B,rs,f,ne⟩:=a.rs;exact⟨a.km.keep k,a.so.keep k,a.sl,by rw [k.obj _ a.r0b.2];exact a.obj,⟨a.r0b.1,Nat.lt_of_lt_of_le a.r0b.2 k.next⟩,⟨cs,ls,W,B,rs.keep k,f,ne⟩,fun u x e=>by
  obtain⟨g1,g2,g3,g4⟩:=a.ex u x e;exact⟨by rw [k.obj _ g3];exact g1,g2,Nat.lt_of_lt_of_le g3 k.next,g4⟩⟩
theorem GS.new (a:GS E R F σ h s vC bs r0 p n sP capP sB capB) (xs:List PV):GS E R F σ (h.new xs) s vC bs r0 p n sP capP sB capB:=a.keep (zD h xs)
theorem GS.newE {t:Nat} {x:List Int} (a:GS E0 R F σ h s vC bs r0 p n sP capP sB capB) (ht:t=h.next):GS (fun u y=>u=t∧y=x) R F σ (h.new (pis x)) s vC bs r0 p n sP capP sB capB:=by
 subst ht;have b:=a.new (pis x);obtain⟨cs,ls,W,B,rs,f,ne,_⟩:=b.rs;obtain⟨cs',ls',W',B',rs',f',ne',_⟩:=a.rs;refine⟨b.km,b.so,b.sl,b.obj,b.r0b,⟨cs',ls',W',B',rs'.new _,f',ne',fun u y e t ht e2=>?_⟩,fun u y e=>?_⟩
 ·have:=(rs'.lt ht).2
  omega
 ·obtain⟨rfl,rfl⟩:=e
  exact⟨by rw [zP,if_pos rfl],by have:=a.km.next;omega,Nat.lt_succ_self _,by have:=a.r0b.2;omega⟩
theorem GS.setE {t i:Nat} {x:List Int} {y:Int} (a:GS (fun u y=>u=t∧y=x) R F σ h s vC bs r0 p n sP capP sB capB) (hi:i<x.length):
  ∃h',h.wr t i [.int .i64 y]=some h'∧GS (fun u z=>u=t∧z=x.set i y) R F σ h' s vC bs r0 p n sP capP sB capB:=by
 obtain⟨g1,g2,g3,g4⟩:=a.ex t x ⟨rfl,rfl⟩;obtain⟨cs,ls,W,B,rs,f,ne,nx⟩:=a.rs;have hw:=zAG (v:=.int .i64 y) g1 (by rw [zK];exact hi) rfl
 rw [zC8]at hw
 refine⟨_,hw,a.km.set g2 _,a.so.set (by have:=a.sl;omega) _,a.sl,by rw [zH,if_neg (Ne.symm g4)];exact a.obj,a.r0b,⟨cs,ls,W,B,rs.move (fun u hu=>by rw [zH,if_neg (Ne.symm (nx t x ⟨rfl,rfl⟩ u hu))]) (Nat.le_refl _),f,ne,fun u z e u' hu'=>?_⟩,fun u z e=>?_⟩
 ·obtain⟨rfl,rfl⟩:=e
  exact nx _ x ⟨rfl,rfl⟩ u' hu'
 ·obtain⟨rfl,rfl⟩:=e
  exact⟨by rw [zH,if_pos rfl],g2,g3,g4⟩
theorem GS.putP (a:GS E R F σ h s vC bs r0 p n sP capP sB capB) {i:Nat} {v:PV} {w:List Int} (hi:i<n) (hv:FI v w) (hF:∀W B,F W B→F' (W.set i w) B):
  ∃h',h.wr sP i [v]=some h'∧GS E R F' σ h' s vC bs r0 p n sP capP sB capB:=by
 obtain⟨cs,ls,W,B,rs,f,ne,nx⟩:=a.rs;obtain⟨w1,rs'⟩:=rs.putP hi hv hv.one;have h1:=rs.P.2.2.1;have h2:=ne _ (.inl rfl);refine⟨_,w1,a.km.set h1 _,a.so.set (by have:=a.sl;omega) _,a.sl,by rw [zH,if_neg h2];exact a.obj,a.r0b,⟨_,ls,_,B,rs',hF W B f,ne,nx⟩,fun u x e=>?_⟩
 obtain⟨g1,g2,g3,g4⟩:=a.ex u x e;exact⟨by rw [zH,if_neg (nx u x e _ (.inl rfl))];exact g1,g2,g3,g4⟩
theorem GS.rdB (a:GS E R F σ h s vC bs r0 p n sP capP sB capB) {i:Nat} (hi:i<n) (hF:∀W B,F W B→(B.getD i []).length=n-1-i):∃t cap,h.rd1 sB i=some (.sl t 0 (n-1-i) cap):=by
 obtain⟨cs,ls,W,B,rs,f,ne⟩:=a.rs;obtain⟨q,h1,h2,h3⟩:=rs.rdB hi;rw [hF W B f]at h3
 exact⟨q.s,q.cap,by rw [h2,LS.pv,h3]⟩
theorem GS.putB {R':PV→List Int→Prop} (a:GS E R F σ h s vC bs r0 p n sP capP sB capB) {i k t l:Nat} {cap:Cap} {v:PV} {w:List Int} (hi:i<n) (hr:h.rd1 sB i=some (.sl t 0 l cap)) (hk:k<l) (hR:∀v w,R v w→R' v w) (hv:R' v w) (ho:v.one=true) (hF:∀W B,i<B.length→F W B→F' W (B.set i ((B.getD i []).set k w))):
    ∃h',h.wr t k [v]=some h'∧GS E R' F' σ h' s vC bs r0 p n sP capP sB capB∧h'.rd1 sB i=some (.sl t 0 l cap)∧h'.rd1 t k=some v:=by
  obtain⟨cs,ls,W,B,rs,f,ne,nx⟩:=a.rs;obtain⟨q,h1,h2,h3⟩:=rs.rdB hi;rw [h2,LS.pv,Option.some.injEq,PV.sl.injEq]at hr
  obtain⟨rfl,_,rfl,rfl⟩:=hr;have rs2:RS FI R' σ.next h n sP capP cs sB capB ls W B:=rs.imp rs.aP ⟨rs.aB.1,fun j x y hx hy=>⟨(rs.aB.2 j x y hx hy).1,fun j' x' y' hx' hy'=>hR _ _ ((rs.aB.2 j x y hx hy).2 j' x' y' hx' hy')⟩⟩
  obtain⟨w1,rs'⟩:=rs2.putB h1 hk hv ho;have hm:=List.mem_of_getElem? h1;have g1:=(rs.lok q hm).2.2.1;have g2:=ne _ (.inr (.inr ⟨q,hm,rfl⟩));have g3:=rs.lne q hm;have hlB:i<B.length:=by rw [rs.lB];exact hi
  have cl:∀{X:Nat},(∀t,(t=sP∨t=sB∨∃q∈ls,q.s=t)→X≠t)→∀u,(u=sP∨u=sB∨∃q'∈ls.set i ⟨q.s,q.cap,q.cs.set k v⟩,q'.s=u)→X≠u:=fun ne u hu=>by
    rcases hu with e|e|⟨q',hq',e⟩
    · exact ne u (.inl e)
    · exact ne u (.inr (.inl e))
    · obtain⟨j,hj⟩:=List.getElem?_of_mem hq'
      rw [List.getElem?_set]at hj
      split at hj
      · first
        | (cases hj;exact ne u (.inr (.inr ⟨q,hm,e⟩)))
        | (split at hj
           · cases hj;exact ne u (.inr (.inr ⟨q,hm,e⟩))
           · cases hj)
      · exact ne u (.inr (.inr ⟨q',List.mem_of_getElem? hj,e⟩))
  refine⟨_,w1,⟨a.km.set g1 _,a.so.set (by have:=a.sl;omega) _,a.sl,by rw [zH,if_neg g2];exact a.obj,a.r0b,⟨cs,_,W,_,rs',hF W B hlB f,cl ne,fun u x e=>cl (nx u x e)⟩,fun u x e=>?_⟩,?_,?_⟩
  · obtain⟨y1,y2,y3,y4⟩:=a.ex u x e
    exact⟨by rw [zH,if_neg (nx u x e _ (.inr (.inr ⟨q,hm,rfl⟩)))];exact y1,y2,y3,y4⟩
  · rw [zDq,if_neg (Ne.symm g3.2)];exact h2
  · rw [zDq,if_pos rfl,List.getElem?_set,if_pos rfl,if_pos hk]
theorem GS.sBb {E:Nat→List Int→Prop} (a:GS E R F σ h s vC bs r0 p n sP capP sB capB):σ.next≤sB∧sB<h.next:=by
 obtain⟨cs,ls,W,B,rs,_⟩:=a.rs;exact rs.Q.2.2
theorem Mv.rd1 (m:Mv h s h') {u i:Nat} (hu:u≠s):h'.rd1 u i=h.rd1 u i:=by simp only [PHeap.rd1,m.obj hu]
theorem PWF.setS {c0 c1:List PV} (w:PWF σ) (h0:σ.obj s=some c0) (hb:Bels 0 c1):PWF (σ.set s c1):=by
 have hs:s<σ.next:=w.lt h0;refine⟨fun t ht=>?_,fun t cs ht=>?_⟩
 ·have ht':σ.next≤t:=ht
  rw [zH,if_neg (by omega)]
  exact w.wf t ht'
 ·rw [zH]at ht
  split at ht
  ·cases ht
   exact Bels.up (Nat.zero_le _) hb
  ·exact w.bel t cs ht
theorem KM.fr {t o u:Nat} {xs:List PV} (k:KM σ s h) (w:PWF σ) (ht:σ.next≤t) (hu:h.top≤u):KM σ s (((h.kill t).sub t o xs).up u):=by
 obtain⟨σ',⟨c0,c1,h0,h1,rfl⟩,q⟩:=k;have q2:Keep (σ.set s c1) ((h.kill t).sub t o xs):=(q.kill (s:=t) (by exact ht)).sub (PWF.setS w h0 h1) (by exact ht)
 exact⟨_,⟨c0,c1,h0,h1,rfl⟩,q2.next,Nat.le_trans q.top hu,q2.obj⟩
theorem So.fr {t o u:Nat} {xs:List PV} (k:So h s vC bs) (ht:s≠t):So (((h.kill t).sub t o xs).up u) s vC bs:=by
 obtain⟨a,sd,S⟩:=k;refine⟨a,sd,?_,S.lt,S.fb,S.byt,S.le,S.sd⟩
 have:=QG (o:=o) (xs:=xs) ht S.obj
 rw [QH (Nat.zero_le _) (S.fb.bels 0 _ _)]at this
 exact this
def FI2 (t n:Nat) (cap:Cap) (X:List Int) (v:PV) (w:List Int):Prop:=FI v w∨(v=.sl t 0 n cap∧w=X)
theorem GS.setp {E:Nat→List Int→Prop} (a:GS E R F σ h s vC bs r0 p n sP capP sB capB) (q:Int):
  ∃h',h.wr r0 0 [.int .i64 q]=some h'∧GS E R F σ h' s vC bs r0 q n sP capP sB capB:=by
 obtain⟨cs,ls,W,B,rs,f,ne,nx⟩:=a.rs;refine⟨_,zAG a.obj (by simp) rfl,a.km.set a.r0b.1 _,a.so.set (by have:=a.sl;have:=a.r0b.1;omega) _,a.sl,by rw [zH,if_pos rfl];rfl,a.r0b,⟨cs,ls,W,B,rs.move (fun t ht=>by rw [zH,if_neg (Ne.symm (ne t ht))]) (Nat.le_refl _),f,ne,nx⟩,fun u x e=>?_⟩
 obtain⟨g1,g2,g3,g4⟩:=a.ex u x e;exact⟨by rw [zH,if_neg g4];exact g1,g2,g3,g4⟩
theorem GS.imp {E:Nat→List Int→Prop} (a:GS E R F σ h s vC bs r0 p n sP capP sB capB) (hF:∀W B,F W B→F' W B):GS E R F' σ h s vC bs r0 p n sP capP sB capB:=by
 obtain⟨cs,ls,W,B,rs,f,ne⟩:=a.rs;exact⟨a.km,a.so,a.sl,a.obj,a.r0b,⟨cs,ls,W,B,rs,hF W B f,ne⟩,a.ex⟩
theorem natlt:((0:Int)<((1:Nat):Int))∧((0:Int)<((2:Nat):Int))∧((0:Int)<((3:Nat):Int))∧((0:Int)<((4:Nat):Int))∧((0:Int)<((5:Nat):Int))∧((0:Int)<((6:Nat):Int))∧((1:Int)<((2:Nat):Int))∧((1:Int)<((3:Nat):Int))∧((1:Int)<((4:Nat):Int))∧((1:Int)<((5:Nat):Int))∧((1:Int)<((6:Nat):Int))∧((2:Int)<((3:Nat):Int))∧((2:Int)<((4:Nat):Int))∧((2:Int)<((5:Nat):Int))∧((2:Int)<((6:Nat):Int))∧((3:Int)<((4:Nat):Int))∧((3:Int)<((5:Nat):Int))∧((3:Int)<((6:Nat):Int)):=by decide
theorem ownFI {v:PV} {xs:List Int} (hv:FI v xs) (hb:xs.length≤4294967296) (hk:∀v',FI v' xs→K v' σ):zA Tryz.prog 271 [v] σ K:=by
 obtain⟨w,a,rfl⟩:=hv;exact zFu rfl hb fun v=>hk _ ⟨_,_,rfl⟩
end Go.Proofs
