/- Sequences of the program: what is sifted. -/
import Derived.Test.YtgkbfiilhocioaaGreatCP29
import Derived.Test.YtgkbfiilhocioaaGreatCAbPz
import Derived.Test.YtgkbfiilhocioaaGreatCP27
import Derived.Test.YtgkbfiilhocioaaGreatCP28
open Int renaming reduceNatCast'→iQ0
set_option maxRecDepth 100000
namespace Go.Grp
end Go.Grp
set_option linter.unusedSimpArgs false
set_option linter.unusedVariables false
namespace Go.Proofs
open Go.Ab Go.Lie Go.Grp
variable {σ:PHeap} {K:PV→PHeap→Prop} {O:List Int} {P:List (List Int)} {C:List (List (List Int))} {vO vP vC vx vy vL:PV} {x y f a b:List Int} {L:List (List Int)} {rP rC:List PV} {d j sp:Nat}
theorem zPP (hx:x.length=O.length):isZ x↔x=zv O:=by
 constructor
 ·intro h
  refine ZY (by simp [hx]) fun j hj=>?_
  rw [at_eq hj,zo];exact h _ (List.getElem_mem hj)
 ·rintro rfl y hy
  exact List.eq_of_mem_replicate hy
end Go.Proofs
namespace Go.Lie
open Go.Ab
variable {p:Int} {n:Nat} {W:List (List Int)}
abbrev Vec:=Nat→Int
structure IsSub (p:Int) (n:Nat) (W:List (List Int)) (S:Vec→Prop):Prop where
 zero:S fun _=>0
 add:∀f g,S f→S g→S fun j=>f j+g j
 mul:∀k f,S f→S fun j=>k*f j
 eqv:∀f g,Eqv p n W f g→S g→S f
def comb (c:Nat→Int) (L:List (List Int)):Vec:=fun j=>sumN L.length fun k=>c k*at_ (L.getD k []) j
def Gen (p:Int) (n:Nat) (W:List (List Int)) (L:List (List Int)) (f:Vec):Prop:=∃c:Nat→Int,Eqv p n W f (comb c L)
theorem zNk (c d:Nat→Int) (L:List (List Int)) (j:Nat):comb (fun k=>c k+d k) L j=comb c L j+comb d L j:=by
 unfold comb;rw [←QD];exact qC fun i _=>Int.add_mul _ _ _
theorem zNj (m:Int) (c:Nat→Int) (L:List (List Int)) (j:Nat):comb (fun k=>m*c k) L j=m*comb c L j:=by
 unfold comb;rw [←ZO];exact qC fun i _=>Int.mul_assoc _ _ _
theorem zP (L:List (List Int)):IsSub p n W (Gen p n W L):=by
 refine⟨⟨fun _=>0,Eqv.of_eq fun j=>?_⟩,fun f g ⟨c,hc⟩ ⟨d,hd⟩=>⟨fun k=>c k+d k,(hc.add hd).trans (Eqv.of_eq fun j=>(zNk c d L j).symm)⟩,
  fun k f ⟨c,hc⟩=>⟨fun i=>k*c i,(hc.mul k).trans (Eqv.of_eq fun j=>(zNj k c L j).symm)⟩,fun f g h ⟨c,hc⟩=>⟨c,h.trans hc⟩⟩
 unfold comb;rw [qN _ (fun i _=>Int.zero_mul _)]
theorem zb {L:List (List Int)} {v:List Int} (h:v∈L):Gen p n W L (at_ v):=by
 obtain⟨k,hk,rfl⟩:=List.mem_iff_getElem.1 h;refine⟨fun i=>if i=k then 1 else 0,Eqv.of_eq fun j=>?_⟩
 unfold comb;rw [Qv hk (fun i _ hi=>by dsimp only;rw [if_neg hi,Int.zero_mul])]
 dsimp only
 rw [if_pos rfl,Int.one_mul];simp [List.getD_eq_getElem?_getD,List.getElem?_eq_getElem hk]
theorem IsSub.sum {S:Vec→Prop} (h:IsSub p n W S):∀{m:Nat} {F:Nat→Vec},(∀k,k<m→S (F k))→S fun j=>sumN m fun k=>F k j
 | 0,_,_=>h.zero
 | m+1,F,hF=>h.add _ _ (IsSub.sum h fun k hk=>hF k (by omega)) (hF m (by omega))
theorem IsSub.comb {S:Vec→Prop} (h:IsSub p n W S) {L:List (List Int)} (hL:∀v∈L,S (at_ v)) (c:Nat→Int):S (comb c L):=
 h.sum fun k hk=>h.mul (c k) _ (hL _ (by
  have:L.getD k []=L[k]:=by simp [List.getD_eq_getElem?_getD,List.getElem?_eq_getElem hk]
  rw [this];exact List.getElem_mem hk))
theorem zEw {S:Vec→Prop} (h:IsSub p n W S) {L:List (List Int)} (hL:∀v∈L,S (at_ v)) {f:Vec} (hf:Gen p n W L f):S f:=by
 obtain⟨c,hc⟩:=hf;exact h.eqv _ _ hc (h.comb hL c)
theorem Zv {L M:List (List Int)} (h:∀v∈L,Gen p n W M (at_ v)) {f:Vec} (hf:Gen p n W L f):Gen p n W M f:=zEw (zP M) h hf
theorem zw {L M:List (List Int)} (h:∀v∈L,v∈M) {f:Vec} (hf:Gen p n W L f):Gen p n W M f:=Zv (fun v hv=>zb (h v hv)) hf
theorem zOk {f:Vec} (hf:Gen p n W [] f):Eqv p n W f fun _=>0:=by
 obtain⟨c,hc⟩:=hf;exact hc
theorem IsSub.sub {S:Vec→Prop} (h:IsSub p n W S) {f g:Vec} (hf:S f) (hg:S g):S fun j=>f j-g j:=by
 have:=h.add _ _ hf (h.mul (-1) _ hg)
 exact h.eqv _ _ (Eqv.of_eq fun j=>by omega) this
def dep:List Int→Nat
 | []=>0
 | x::xs=>if x=0 then dep xs+1 else 0
theorem Zn:∀v:List Int,dep v≤v.length
 | []=>Nat.le_refl _
 | x::xs=>by simp only [dep,List.length_cons];have:=Zn xs;split<;>omega
theorem zV:∀{v:List Int} {j:Nat},j<dep v→at_ v j=0
 | [],j,h=>by simp [at_]
 | x::xs,j,h=>by
  simp only [dep]at h
  split at h
  ·rename_i hx
   cases j with
   | zero=>simp [at_,hx]
   | succ j=>
    have:=zV (v:=xs) (j:=j) (by omega)
    simpa [at_]using this
  ·omega
theorem qc:∀{v:List Int},dep v<v.length→at_ v (dep v)≠0
 | [],h=>by simp at h
 | x::xs,h=>by
  simp only [dep,List.length_cons]at h ⊢
  split at h
  ·rename_i hx
   rw [if_pos hx]
   have:=qc (v:=xs) (by omega)
   simpa [at_]using this
  ·rename_i hx
   rw [if_neg hx]
   simpa [at_]using hx
theorem zAR {v:List Int} {d:Nat} (h1:∀j,j<d→at_ v j=0) (h2:at_ v d≠0):dep v=d:=by
 rcases Nat.lt_trichotomy (dep v) d with x|x|x
 ·have hd:d<v.length:=by
   rcases Nat.lt_or_ge d v.length with y|y
   ·exact y
   ·exact absurd (at_ge y) h2
  exact absurd (h1 _ x) (qc (by omega))
 ·exact x
 ·exact absurd (zV x) h2
theorem dep_ge {v:List Int} {d:Nat} (hd:d≤v.length) (h1:∀j,j<d→at_ v j=0):d≤dep v:=by
 rcases Nat.lt_or_ge (dep v) d with x|x
 ·exact absurd (h1 _ x) (qc (by omega))
 ·exact x
theorem zNi {v:List Int} (h:dep v=v.length):∀x∈v,x=0:=fun x hx=>by
 obtain⟨j,hj,rfl⟩:=List.mem_iff_getElem.1 hx;rw [←at_eq hj];exact zV (by omega)
theorem Zy (o:OkW p n W) {f g:Vec} (h:Eqv p n W f g) {d:Nat} (hd:d<n) (hf:∀j,j<d→0≤f j∧f j≤p-1) (hg:∀j,j<d→0≤g j∧g j≤p-1):(∀j,j<d→f j=g j)∧∃k:Int,f d=g d-k*p:=by
 obtain⟨c,hc⟩:=h;have hp:=o.pr;unfold okp at hp
 have val:∀i,i≤d→(∀k,k<i→c k=0)→f i=g i-c i*p:=by
  intro i hi hk;have h1:=hc i;rw [Qv (k:=i) (by omega) (fun k hkn hne=>by
   rcases Nat.lt_or_ge k i with x|x
   ·rw [hk k x,Int.zero_mul]
   ·rw [rel,o.zero x,if_neg (fun e=>hne e.symm)];simp)]at h1
  rw [rel,o.zero (Nat.le_refl _),if_pos rfl,Int.zero_sub,Int.mul_neg]at h1
  omega
 have key:∀m,m≤d→∀i,i<m→c i=0:=by
  intro m
  induction m with
  | zero=>intro _ i hi;omega
  | succ m ih=>
   intro hm i hi
   by_cases e:i=m
   ·subst e
    have h1:=val i (by omega) (ih (by omega))
    have h2:=hf i (by omega)
    have h3:=hg i (by omega)
    rcases Int.lt_trichotomy (c i) 0 with x|x|x
    ·have:=Int.mul_le_mul_of_nonneg_right (show c i≤-1 by omega) (show 0≤p by omega)
     omega
    ·exact x
    ·have:=Int.mul_le_mul_of_nonneg_right (show 1≤c i by omega) (show 0≤p by omega)
     omega
   ·exact ih (by omega) i (by omega)
 refine⟨fun j hj=>?_,c d,val d (Nat.le_refl _) (key d (Nat.le_refl _))⟩
 have:=val j (by omega) (fun k hk=>key d (Nat.le_refl _) k (by omega))
 rw [key d (Nat.le_refl _) j hj]at this
 omega
theorem zAK (o:OkW p n W) {v:List Int} (hv:v.length=n) {d:Nat} (hd:d≤n) (h:∀j,j<d→at_ v j=0):∀j,j<d→at_ (norm p W v) j=0:=by
 have hp:=o.pr;unfold okp at hp
 have hb:=Zu o hv;intro j hj
 have:=(Zy o (qO o hv) (d:=j) (by omega) (fun i _=>hb.at (by omega) i) (fun i hi=>by rw [h i (by omega)];omega)).1
 obtain⟨k,hk⟩:=(Zy o (qO o hv) (d:=j) (by omega) (fun i _=>hb.at (by omega) i) (fun i hi=>by rw [h i (by omega)];omega)).2
 rw [h j hj]at hk
 have h2:=hb.at (by omega) j
 rcases Int.lt_trichotomy k 0 with x|x|x
 ·have:=Int.mul_le_mul_of_nonneg_right (show k≤-1 by omega) (show 0≤p by omega)
  omega
 ·rw [x]at hk;omega
 ·have:=Int.mul_le_mul_of_nonneg_right (show 1≤k by omega) (show 0≤p by omega)
  omega
theorem zCl (o:OkW p n W) {v:List Int} (hv:v.length=n) {d:Nat} (hd:d<n) (h:∀j,j<d→at_ v j=0):at_ (norm p W v) d=at_ v d % p:=by
 have hp:=o.pr;unfold okp at hp
 have hb:=Zu o hv;obtain⟨k,hk⟩:=(Zy o (qO o hv) hd (fun i _=>hb.at (by omega) i) (fun i hi=>by rw [h i hi];omega)).2
 have h2:=hb.at (by omega) d
 have:at_ v d=at_ (norm p W v) d+p*k:=by rw [Int.mul_comm p k];omega
 rw [this,Int.add_mul_emod_self_left];exact(Int.emod_eq_of_lt h2.1 (by omega)).symm
theorem push (o:OkW p n W) {d:Nat} (hd:d<n) {f:Vec} (h:∀j,j<d→f j=0) (hn:∀j,n≤j→f j=0):∃g:Vec,Eqv p n W (fun j=>p*f j) g∧(∀j,j≤d→g j=0)∧∀j,n≤j→g j=0:=by
 have h1:=(Eqv.rel (p:=p) (W:=W) hd).mul (f d);refine⟨fun j=>p*f j+f d*rel p W d j,?_,fun j hj=>?_,fun j hj=>?_⟩
 ·have h2:=(Eqv.refl (p:=p) (n:=n) (W:=W) (fun j=>p*f j)).add h1.symm
  refine(Eqv.of_eq fun j=>?_).trans h2
  omega
 ·dsimp only
  rcases Nat.lt_or_ge j d with x|x
  ·rw [h j x,rel,o.zero (by omega:j≤d),if_neg (by omega)];simp
  ·have:j=d:=by omega
   subst this;rw [rel,o.zero (Nat.le_refl _),if_pos rfl,Int.zero_sub,Int.mul_neg,Int.mul_comm p];omega
 ·dsimp only
  rw [hn j hj,rel,if_neg (by omega)]
  have:w_ W d j=0:=by
   rw [w_];exact at_ge (by rw [o.rowlen hd];exact hj)
  rw [this];simp
def pw_ (p:Int):Nat→Int
 | 0=>1
 | k+1=>p*pw_ p k
theorem kill (o:OkW p n W):∀(k:Nat) {f:Vec},k≤n→(∀j,j<n-k→f j=0)→(∀j,n≤j→f j=0)→Eqv p n W (fun j=>pw_ p k*f j) fun _=>0
 | 0,f,_,h,hn=>Eqv.of_eq fun j=>by
  rcases Nat.lt_or_ge j n with x|x
  ·rw [h j (by omega)];simp
  ·rw [hn j x];simp
 | k+1,f,hk,h,hn=>by
  obtain⟨g,h1,h2,h3⟩:=push o (d:=n-(k+1)) (by omega) h hn
  have ih:=kill o k (f:=g) (by omega) (fun j hj=>h2 j (by omega)) h3
  have h4:=h1.mul (pw_ p k);refine(Eqv.of_eq fun j=>?_).trans (h4.trans ih)
  rw [pw_,Int.mul_comm p,Int.mul_assoc]
theorem Qa (o:OkW p n W) {f:Vec} (hn:∀j,n≤j→f j=0):Eqv p n W (fun j=>pw_ p n*f j) fun _=>0:=kill o n (Nat.le_refl _) (fun j hj=>by omega) hn
theorem zFb (t:Int):∀m:Nat,0<m→∃e s:Int,e*(1+p*t)=1+pw_ p m*s
 | 0,h=>by omega
 | 1,_=>⟨1,t,by simp [pw_]⟩
 | m+2,_=>by
  obtain⟨e,s,h⟩:=zFb t (m+1) (by omega)
  refine⟨e*(1-pw_ p (m+1)*s),-(pw_ p m*s*s),?_⟩;have h1:e*(1-pw_ p (m+1)*s)*(1+p*t)=(e*(1+p*t))*(1-pw_ p (m+1)*s):=by
   rw [Int.mul_assoc,Int.mul_comm (1-pw_ p (m+1)*s),←Int.mul_assoc]
  rw [h1,h];have h2:pw_ p (m+2) * -(pw_ p m*s*s)=-(pw_ p (m+1)*s*(pw_ p (m+1)*s)):=by
   simp only [pw_];rw [Int.mul_neg]
   congr 1
   simp only [Int.mul_assoc,Int.mul_left_comm,Int.mul_comm]
  rw [h2,Int.add_mul,Int.one_mul,Int.mul_sub,Int.mul_one];omega
end Go.Lie
namespace Go.Lie
open Go.Ab
variable {p:Int} {n:Nat} {W:List (List Int)}
theorem El.at0 {v:List Int} (h:El p n v) (o:OkW p n W) (j:Nat):0≤at_ v j∧at_ v j≤p-1:=h.2.at (by have:=o.pr.1;omega) j
theorem El.beyond {v:List Int} (h:El p n v) {j:Nat} (hj:n≤j):at_ v j=0:=at_ge (by rw [h.1];exact hj)
theorem zAi (o:OkW p n W) {v:List Int} (hv:v.length=n):El p n (norm p W v):=⟨ZA o hv,Zu o hv⟩
theorem zMN {a b:List Int} (ha:El p n a) (hb:El p n b) (h:∀j,j<n→at_ a j=at_ b j):a=b:=ZY (ha.1.trans hb.1.symm) fun j hj=>h j (by rw [←ha.1];exact hj)
theorem zLu (o:OkW p n W) {v:List Int} (hv:v.length=n) {m:Nat} (hm:m≤n) (h:∀j,j<m→0≤at_ v j∧at_ v j≤p-1) {j:Nat} (hj:j<m):at_ (norm p W v) j=at_ v j:=by
 have hp:=o.pr;unfold okp at hp
 have hb:=Zu o hv;obtain⟨k,hk⟩:=(Zy o (qO o hv) (d:=j) (by omega) (fun i _=>hb.at (by omega) i) (fun i hi=>h i (by omega))).2
 have h1:=hb.at (by omega) j
 have h2:=h j hj;rcases Int.lt_trichotomy k 0 with x|x|x
 ·have:=Int.mul_le_mul_of_nonneg_right (show k≤-1 by omega) (show 0≤p by omega)
  omega
 ·rw [x]at hk;omega
 ·have:=Int.mul_le_mul_of_nonneg_right (show 1≤k by omega) (show 0≤p by omega)
  omega
abbrev red1 (p:Int) (W:List (List Int)) (x v:List Int):List Int:=norm p W (lmix 1 x (-(at_ x (dep v))) v)
def redL (p:Int) (W:List (List Int)):List (List Int)→List Int→List Int
 | [],x=>x
 | v::u,x=>redL p W u (red1 p W x v)
def Led (p:Int) (n:Nat) (v:List Int):Prop:=El p n v∧dep v<n∧at_ v (dep v)=1
theorem zBe (o:OkW p n W) {x v:List Int} (hx:El p n x) (hv:El p n v):El p n (red1 p W x v):=zAi o (by rw [zQ (hx.1.trans hv.1.symm)];exact hx.1)
theorem zDr (o:OkW p n W) {x v:List Int} (hx:El p n x) (hv:El p n v):Eqv p n W (at_ (red1 p W x v)) (fun j=>at_ x j-at_ x (dep v)*at_ v j):=
 (qO o (by rw [zQ (hx.1.trans hv.1.symm)];exact hx.1)).trans (Eqv.of_eq fun j=>by rw [zm (hx.1.trans hv.1.symm),Int.neg_mul];omega)
theorem zDH (o:OkW p n W) {x v:List Int} (hx:El p n x) (hv:Led p n v) {j:Nat} (hj:j≤dep v):at_ (red1 p W x v) j=if j=dep v then 0 else at_ x j:=by
 have hl:=hx.1.trans hv.1.1.symm;have hp:=o.pr;unfold okp at hp
 have e:∀i,i≤dep v→at_ (lmix 1 x (-(at_ x (dep v))) v) i=if i=dep v then 0 else at_ x i:=fun i hi=>by
  rw [zm hl]
  split
  ·rename_i h;subst h;rw [hv.2.2];omega
  ·rw [zV (by omega:i<dep v)];omega
 rw [zLu o (m:=dep v+1) (by rw [zQ hl];exact hx.1) (by have:=hv.2.1;omega) (fun i hi=>by
  rw [e i (by omega)]
  have:=hx.at0 o i
  split<;>omega) (by omega),e j hj]
theorem zLB (o:OkW p n W) {x v:List Int} (hx:El p n x) (hv:El p n v) (h:at_ x (dep v)=0):red1 p W x v=x:=by
 have hl:=hx.1.trans hv.1.symm
 have:lmix 1 x (-(at_ x (dep v))) v=x:=ZY (zQ hl) fun j _=>by rw [zm hl,h];omega
 rw [red1,this,zLt o hx.1 hx.2]
theorem Zh (o:OkW p n W):∀{u:List (List Int)} {x:List Int},(∀v∈u,El p n v)→El p n x→El p n (redL p W u x)
 | [],x,_,hx=>hx
 | v::u,x,hu,hx=>by rw [redL];exact Zh o (fun w hw=>hu w (by simp [hw])) (zBe o hx (hu v (by simp)))
theorem zBw (o:OkW p n W):∀{u:List (List Int)} {x:List Int},(∀v∈u,El p n v)→El p n x→Gen p n W u (fun j=>at_ x j-at_ (redL p W u x) j)
 | [],x,_,hx=>(zP []).eqv _ _ (Eqv.of_eq fun j=>Int.sub_self _) (zP []).zero
 | v::u,x,hu,hx=>by
  have hv:=hu v (by simp)
  have h1:=zBw o (u:=u) (fun w hw=>hu w (by simp [hw])) (zBe o hx hv)
  have h2:Gen p n W (v::u) (fun j=>at_ (red1 p W x v) j-at_ (redL p W u (red1 p W x v)) j):=zw (fun w hw=>by simp [hw]) h1
  have h3:=(zP (v::u)).mul (at_ x (dep v)) _ (zb (p:=p) (n:=n) (W:=W) (show v∈v::u by simp))
  have h4:=(zP (v::u)).add _ _ h3 h2;refine(zP (v::u)).eqv _ _ ?_ h4;have e1:=(zDr o hx hv).symm.add (Eqv.refl (p:=p) (n:=n) (W:=W) fun j=>at_ x (dep v)*at_ v j-at_ (redL p W u (red1 p W x v)) j)
  refine(Eqv.of_eq fun j=>?_).trans (e1.trans (Eqv.of_eq fun j=>?_))
  ·rw [redL];omega
  ·omega
abbrev Asc (u:List (List Int)):Prop:=u.Pairwise fun a b=>dep a<dep b
theorem zAh (o:OkW p n W):∀{u:List (List Int)} {x:List Int},(∀v∈u,Led p n v)→Asc u→El p n x→
  (∀v∈u,at_ (redL p W u x) (dep v)=0)∧∀j,(∀v∈u,j<dep v)→at_ (redL p W u x) j=at_ x j
 | [],x,_,_,hx=>⟨fun v hv=>(by cases hv),fun j _=>rfl⟩
 | v::u,x,hu,ha,hx=>by
  have hv:=hu v (by simp)
  obtain⟨ha1,ha2⟩:=List.pairwise_cons.1 ha;obtain⟨h1,h2⟩:=zAh o (fun w hw=>hu w (by simp [hw])) ha2 (zBe o hx hv.1)
  refine⟨fun w hw=>?_,fun j hj=>?_⟩
  ·rcases List.mem_cons.1 hw with rfl | hw
   ·rw [redL,h2 _ (fun z hz=>ha1 z hz),zDH o hx hv (Nat.le_refl _),if_pos rfl]
   ·exact h1 w hw
  ·have:=hj v (by simp)
   rw [redL,h2 j (fun z hz=>hj z (by simp [hz])),zDH o hx hv (by omega),if_neg (by omega)]
theorem zCC (o:OkW p n W) {u:List (List Int)} (hu:∀v∈u,El p n v) {m:Nat} (hm:m≤n) (h:∀v∈u,∀j,j<m→at_ v j=0) {z:List Int} (hz:El p n z) (hg:Gen p n W u (at_ z)):∀j,j<m→at_ z j=0:=by
 obtain⟨c,hc⟩:=hg;have hcomb:∀j,j<m→comb c u j=0:=fun j hj=>qN _ fun k hk=>by
  have:u.getD k []=u[k]:=by simp [List.getD_eq_getElem?_getD,List.getElem?_eq_getElem hk]
  rw [this,h _ (List.getElem_mem hk) j hj,Int.mul_zero]
 intro j hj;have hp:=o.pr;unfold okp at hp
 obtain⟨k,hk⟩:=(Zy o hc (d:=j) (by omega) (fun i _=>hz.at0 o i) (fun i hi=>by rw [hcomb i (by omega)];omega)).2
 rw [hcomb j hj]at hk
 have h1:=hz.at0 o j;rcases Int.lt_trichotomy k 0 with x|x|x
 ·have:=Int.mul_le_mul_of_nonneg_right (show k≤-1 by omega) (show 0≤p by omega)
  omega
 ·rw [x]at hk;omega
 ·have:=Int.mul_le_mul_of_nonneg_right (show 1≤k by omega) (show 0≤p by omega)
  omega
def tab (n:Nat) (f:Vec):List Int:=(List.range n).map f
theorem Ql (f:Vec):(tab n f).length=n:=by simp [tab]
theorem zGe (f:Vec) (hf:∀j,n≤j→f j=0) (j:Nat):at_ (tab n f) j=f j:=by
 rcases Nat.lt_or_ge j n with x|x
 ·rw [at_eq (by rw [Ql];exact x)];simp [tab]
 ·rw [at_ge (by rw [Ql];exact x),hf j x]
theorem zI3 {u:List (List Int)} (hu:∀v∈u,El p n v) (c:Nat→Int) {j:Nat} (hj:n≤j):comb c u j=0:=qN _ fun k hk=>by
 have:u.getD k []=u[k]:=by simp [List.getD_eq_getElem?_getD,List.getElem?_eq_getElem hk]
 rw [this,(hu _ (List.getElem_mem hk)).beyond hj,Int.mul_zero]
theorem zJV (o:OkW p n W) {u:List (List Int)} (hu:∀v∈u,El p n v) {f:Vec} (hg:Gen p n W u f):∃z,El p n z∧Eqv p n W f (at_ z)∧Gen p n W u (at_ z):=by
 obtain⟨c,hc⟩:=hg;have h1:=qO o (Ql (comb c u));have h2:at_ (tab n (comb c u))=comb c u:=funext fun j=>zGe _ (fun j hj=>zI3 hu c hj) j
 rw [h2]at h1
 exact⟨_,zAi o (Ql _),hc.trans h1.symm,c,h1⟩
theorem zMT (c:Nat→Int) (v:List Int) (u:List (List Int)) (j:Nat):comb c (v::u) j=c 0*at_ v j+comb (fun k=>c (k+1)) u j:=by
 unfold comb
 have:∀(m:Nat) (f:Nat→Int),sumN (m+1) f=f 0+sumN m fun k=>f (k+1):=by
  intro m f
  induction m with
  | zero=>simp [sumN]
  | succ m ih=>rw [sumN,ih,sumN];omega
 rw [List.length_cons,this]
 rfl
theorem zNb {v:List Int} {u:List (List Int)} {f:Vec} (hg:Gen p n W (v::u) f):∃(k:Int) (g:Vec),Gen p n W u g∧Eqv p n W f fun j=>k*at_ v j+g j:=by
 obtain⟨c,hc⟩:=hg;exact⟨c 0,comb (fun k=>c (k+1)) u,⟨_,Eqv.refl _⟩,hc.trans (Eqv.of_eq fun j=>zMT c v u j)⟩
inductive Base (p:Int) (n:Nat) (W:List (List Int)):List (List Int)→Prop where
 | nil:Base p n W []
 | cons {v:List Int} {u:List (List Int)} (hv:Led p n v) (ha:∀w∈u,dep v<dep w) (hc:Gen p n W u fun j=>p*at_ v j) (h:Base p n W u):Base p n W (v::u)
theorem Base.led:∀{u:List (List Int)},Base p n W u→∀v∈u,Led p n v
 | _,.nil,v,h=>(by cases h)
 | _,.cons hv _ _ hb,w,h=>(List.mem_cons.1 h).elim (fun e=>e ▸ hv) (fun h=>hb.led w h)
theorem Base.asc:∀{u:List (List Int)},Base p n W u→Asc u
 | _,.nil=>List.Pairwise.nil
 | _,.cons _ ha _ hb=>List.pairwise_cons.2 ⟨ha,hb.asc⟩
theorem Base.els {u:List (List Int)} (h:Base p n W u):∀v∈u,El p n v:=fun v hv=>(h.led v hv).1
theorem Q5 (o:OkW p n W):∀{u:List (List Int)},Base p n W u→∀{z:List Int},El p n z→Gen p n W u (at_ z)→dep z<n→∃v∈u,dep v=dep z
 | _,.nil,z,hz,hg,hd=>by
  have h1:=zCC o (u:=[]) (by simp) (Nat.le_refl n) (by simp) hz hg
  exact absurd (h1 _ hd) (qc (by rw [hz.1];exact hd))
 | _,.cons (v:=v) (u:=u) hv ha hc hb,z,hz,hg,hd=>by
  have hp:=o.pr;unfold okp at hp
  obtain⟨k,g,hg1,he⟩:=zNb hg;have h1:Gen p n W u fun j=>(k / p)*(p*at_ v j)+g j:=(zP u).add _ _ ((zP u).mul (k / p) _ hc) hg1
  obtain⟨y,hy,hye,hyg⟩:=zJV o hb.els h1;have hmod:=Int.emod_add_mul_ediv k p;have h2:Eqv p n W (at_ z) fun j=>k % p*at_ v j+at_ y j:=by
   refine he.trans ?_
   have:=(Eqv.refl (p:=p) (n:=n) (W:=W) fun j=>k % p*at_ v j).add hye
   refine(Eqv.of_eq fun j=>?_).trans this
   have e1:k*at_ v j=(k % p+p*(k / p))*at_ v j:=by rw [hmod]
   rw [e1,Int.add_mul,Int.mul_comm p (k / p),Int.mul_assoc];omega
  by_cases h0:k % p=0
  ·obtain⟨w,hw,e⟩:=Q5 o hb hz ((zP u).eqv _ _ (h2.trans (Eqv.of_eq fun j=>by rw [h0];omega)) hyg) hd
   exact⟨w,by simp [hw],e⟩
  ·refine⟨v,by simp,?_⟩
   have hyz:=zCC o hb.els (m:=dep v+1) (by have:=hv.2.1;omega) (fun w hw j hj=>zV (by have:=ha w hw;omega)) hy hyg
   have hkb:=Int.emod_nonneg k (show p≠0 by omega)
   have hkl:=Int.emod_lt_of_pos k (show 0<p by omega)
   have hval:∀j,j≤dep v→k % p*at_ v j+at_ y j=if j=dep v then k % p else 0:=fun j hj=>by
    rw [hyz j (by omega)]
    split
    ·rename_i e;subst e;rw [hv.2.2];omega
    ·rw [zV (by omega:j<dep v)];simp
   have key:=fun d (hd:d≤dep v)=>Zy o h2 (d:=d) (by have:=hv.2.1;omega) (fun i _=>hz.at0 o i) (fun i hi=>by rw [hval i (by omega),if_neg (by omega)];omega)
   refine(zAR (fun j hj=>?_) ?_).symm
   ·rw [(key (dep v) (Nat.le_refl _)).1 j hj,hval j (by omega),if_neg (by omega)]
   ·obtain⟨t,ht⟩:=(key (dep v) (Nat.le_refl _)).2
    rw [hval _ (Nat.le_refl _),if_pos rfl]at ht
    intro h;rw [h]at ht
    rcases Int.lt_trichotomy t 0 with x|x|x
    ·have:=Int.mul_le_mul_of_nonneg_right (show t≤-1 by omega) (show 0≤p by omega)
     omega
    ·rw [x]at ht;omega
    ·have:=Int.mul_le_mul_of_nonneg_right (show 1≤t by omega) (show 0≤p by omega)
     omega
end Go.Lie
namespace Go.Lie
open Go.Ab
variable {p:Int} {n:Nat} {W:List (List Int)}
theorem zAz {α:Type} {R:α→α→Prop}:∀{l:List α},l.Pairwise R→∀{a b:α},a∈l→b∈l→a=b∨R a b∨R b a
 | [],_,a,b,ha,_=>by cases ha
 | x::l,h,a,b,ha,hb=>by
  obtain⟨h1,h2⟩:=List.pairwise_cons.1 h;rcases List.mem_cons.1 ha with ea|ha'
  ·rcases List.mem_cons.1 hb with eb | hb'
   ·exact .inl (ea.trans eb.symm)
   ·rw [ea];exact .inr (.inl (h1 b hb'))
  ·rcases List.mem_cons.1 hb with eb | hb'
   ·rw [eb];exact .inr (.inr (h1 a ha'))
   ·exact zAz h2 ha' hb'
theorem zJk:∀{u w:List (List Int)},Asc u→Asc w→(∀v,v∈u↔v∈w)→u=w
 | [],[],_,_,_=>rfl
 | [],x::w,_,_,h=>by have:=(h x).2 (by simp);cases this
 | x::u,[],_,_,h=>by have:=(h x).1 (by simp);cases this
 | x::u,y::w,hu,hw,h=>by
  obtain⟨h1,h2⟩:=List.pairwise_cons.1 hu;obtain⟨h3,h4⟩:=List.pairwise_cons.1 hw;have e:x=y:=by
   rcases List.mem_cons.1 ((h x).1 (by simp))with e|e
   ·exact e
   ·rcases List.mem_cons.1 ((h y).2 (by simp))with e' | e'
    ·exact e'.symm
    ·have:=h3 x e;have:=h1 y e';omega
  subst e
  congr 1
  refine zJk h2 h4 fun v=>⟨fun hv=>?_,fun hv=>?_⟩
  ·rcases List.mem_cons.1 ((h v).1 (by simp [hv]))with e | e
   ·subst e;have:=h1 v hv;omega
   ·exact e
  ·rcases List.mem_cons.1 ((h v).2 (by simp [hv]))with e | e
   ·subst e;have:=h3 v hv;omega
   ·exact e
abbrev Red (u:List (List Int)):Prop:=u.Pairwise fun a b=>at_ a (dep b)=0
theorem zLA {u:List (List Int)} (ha:Asc u) (hr:Red u) {v x:List Int} (hv:v∈u) (hx:x∈u) (h:dep v<dep x):at_ v (dep x)=0:=by
 have:=zAz (R:=fun a b:List Int=>dep a<dep b∧at_ a (dep b)=0) (List.Pairwise.and ha hr) hv hx
 rcases this with e|e|e
 ·subst e;omega
 ·exact e.2
 ·omega
theorem zGB (o:OkW p n W) {u w:List (List Int)} (hu:Base p n W u) (ru:Red u) (hw:Base p n W w) (rw_:Red w) (h:∀f,Gen p n W u f→Gen p n W w f) (h':∀f,Gen p n W w f→Gen p n W u f) {v x:List Int} (hv:v∈u) (hx:x∈w) (e:dep x=dep v):v=x:=by
 have lv:=hu.led v hv;have lx:=hw.led x hx;have hl:=lv.1.1.trans lx.1.1.symm;have hp:=o.pr;unfold okp at hp
 have hyl:(lmix 1 v (-1) x).length=n:=by rw [zQ hl];exact lv.1.1
 rcases Nat.lt_or_ge (dep (lmix 1 v (-1) x)) n with hd|hd
 rotate_left
 ·refine zMN lv.1 lx.1 fun j hj=>?_
  have:=zV (v:=lmix 1 v (-1) x) (j:=j) (by omega)
  rw [zm hl]at this
  omega
 have hz:∀j,j<dep (lmix 1 v (-1) x)→at_ (norm p W (lmix 1 v (-1) x)) j=0:=zAK o hyl (by omega) fun j hj=>zV hj
 have hne:at_ (norm p W (lmix 1 v (-1) x)) (dep (lmix 1 v (-1) x))≠0:=by
  rw [zCl o hyl hd fun j hj=>zV hj]
  have h1:=qc (v:=lmix 1 v (-1) x) (by rw [hyl];exact hd)
  rw [zm hl]at h1 ⊢
  have b1:=lv.1.at0 o (dep (lmix 1 v (-1) x));have b2:=lx.1.at0 o (dep (lmix 1 v (-1) x));intro h0
  have:=Int.emod_add_mul_ediv (1*at_ v (dep (lmix 1 v (-1) x)) + -1*at_ x (dep (lmix 1 v (-1) x))) p
  rw [h0,Int.zero_add]at this
  generalize (1*at_ v (dep (lmix 1 v (-1) x)) + -1*at_ x (dep (lmix 1 v (-1) x))) / p=q at this
  rcases Int.lt_trichotomy q 0 with y|y|y
  ·have:=Int.mul_le_mul_of_nonneg_left (show q≤-1 by omega) (show 0≤p by omega)
   omega
  ·rw [y]at this;omega
  ·have:=Int.mul_le_mul_of_nonneg_left (show 1≤q by omega) (show 0≤p by omega)
   omega
 have hdep:=zAR hz hne;have hg:Gen p n W u (at_ (norm p W (lmix 1 v (-1) x))):=by
  refine(zP u).eqv _ _ ((qO o hyl).trans (Eqv.of_eq fun j=>?_)) ((zP u).sub (zb hv) (h' _ (zb hx)))
  rw [zm hl];omega
 obtain⟨t,ht,et⟩:=Q5 o hu (zAi o hyl) hg (by omega)
 obtain⟨s,hs,es⟩:=Q5 o hw (zAi o hyl) (h _ hg) (by omega)
 have hdn:=qc (v:=lmix 1 v (-1) x) (by rw [hyl];exact hd)
 rw [zm hl]at hdn
 exfalso
 rcases Nat.lt_trichotomy (dep v) (dep t)with y|y|y
 ·have q1:=zLA hu.asc ru hv ht y
  have q2:=zLA hw.asc rw_ hx hs (by omega)
  rw [et,hdep]at q1
  rw [es,hdep]at q2
  rw [q1,q2]at hdn
  omega
 ·have e2:dep (lmix 1 v (-1) x)=dep v:=by omega
  rw [e2,lv.2.2,←e,lx.2.2]at hdn
  omega
 ·have e2:dep (lmix 1 v (-1) x)<dep v:=by omega
  rw [zV e2,zV (by omega)]at hdn
  omega
theorem zHl (o:OkW p n W) {u w:List (List Int)} (hu:Base p n W u) (ru:Red u) (hw:Base p n W w) (rw_:Red w) (h:∀f,Gen p n W u f→Gen p n W w f) (h':∀f,Gen p n W w f→Gen p n W u f):u=w:=by
 refine zJk hu.asc hw.asc fun v=>⟨fun hv=>?_,fun hv=>?_⟩
 ·have lv:=hu.led v hv
  obtain⟨x,hx,e⟩:=Q5 o hw lv.1 (h _ (zb hv)) lv.2.1;rw [zGB o hu ru hw rw_ h h' hv hx e];exact hx
 ·have lv:=hw.led v hv
  obtain⟨x,hx,e⟩:=Q5 o hu lv.1 (h' _ (zb hv)) lv.2.1;rw [zGB o hw rw_ hu ru h' h hv hx e];exact hx
theorem zHX (o:OkW p n W) {v:List Int} {t t' s:List (List Int)} (hb:Base p n W (v::t)) (hb':Base p n W t') (hr':Red t') (hg:∀f,Gen p n W t f↔Gen p n W t' f) (hs:Base p n W s) (hsd:∀x∈t',∃y∈s,dep y=dep x) (hsl:∀y∈s,dep v<dep y) (hst:∀f,Gen p n W s f→Gen p n W t' f) (htd:∀x∈t',dep v<dep x):
  Base p n W (redL p W s v::t')∧Red (redL p W s v::t')∧(∀f,Gen p n W (v::t) f↔Gen p n W (redL p W s v::t') f)∧dep (redL p W s v)=dep v:=by
 cases hb with
 | cons hv ha hc hbt=>
 have hel:=Zh o hs.els hv.1;obtain⟨h1,h2⟩:=zAh o hs.led hs.asc hv.1;have hg1:=zBw o hs.els hv.1;have hsame:∀j,j≤dep v→at_ (redL p W s v) j=at_ v j:=fun j hj=>h2 j fun y hy=>by have:=hsl y hy;omega
 have hdep:dep (redL p W s v)=dep v:=zAR (fun j hj=>by rw [hsame j (by omega)];exact zV hj) (by rw [hsame _ (Nat.le_refl _),hv.2.2];decide)
 refine⟨.cons ⟨hel,by rw [hdep];exact hv.2.1,by rw [hdep,hsame _ (Nat.le_refl _)];exact hv.2.2⟩ (fun x hx=>by rw [hdep];exact htd x hx) ?_ hb',List.pairwise_cons.2 ⟨fun x hx=>?_,hr'⟩,fun f=>⟨fun hf=>?_,fun hf=>?_⟩,hdep⟩
 ·have q1:=(zP t').mul p _ (hst _ hg1)
  have q2:=(zP t').sub ((hg _).1 hc) q1;exact(zP t').eqv _ _ (Eqv.of_eq fun j=>by rw [Int.mul_sub];omega) q2
 ·obtain⟨y,hy,e⟩:=hsd x hx
  rw [←e];exact h1 y hy
 ·refine Zv (fun x hx=>?_) hf
  rcases List.mem_cons.1 hx with rfl|hx
  ·have q1:Gen p n W (redL p W s x::t') fun j=>at_ x j-at_ (redL p W s x) j:=zw (fun y hy=>by simp [hy]) (hst _ hg1)
   have q2:=(zP (redL p W s x::t')).add _ _ q1 (zb (v:=redL p W s x) (by simp))
   exact(zP _).eqv _ _ (Eqv.of_eq fun j=>by omega) q2
  ·exact zw (fun y hy=>by simp [hy]) ((hg _).1 (zb hx))
 ·refine Zv (fun x hx=>?_) hf
  rcases List.mem_cons.1 hx with rfl|hx
  ·have q1:Gen p n W (v::t) fun j=>at_ v j-at_ (redL p W s v) j:=zw (fun y hy=>by simp [hy]) ((hg _).2 (hst _ hg1))
   have q2:=(zP (v::t)).sub (zb (v:=v) (by simp)) q1
   exact(zP _).eqv _ _ (Eqv.of_eq fun j=>by omega) q2
  ·exact zw (fun y hy=>by simp [hy]) ((hg _).2 (zb hx))
def finS (p:Int) (W:List (List Int)):List (List Int)→List (List Int)
 | []=>[]
 | v::t=>redL p W t v::finS p W t
def finI (p:Int) (W:List (List Int)):List (List Int)→List (List Int)
 | []=>[]
 | v::t=>redL p W (finI p W t) v::finI p W t
structure Canon (p:Int) (n:Nat) (W:List (List Int)) (gens out:List (List Int)):Prop where
 base:Base p n W out
 red:Red out
 gen:∀f,Gen p n W gens f↔Gen p n W out f
theorem zJX (o:OkW p n W):∀{u:List (List Int)},Base p n W u→Canon p n W u (finS p W u)∧(finS p W u).map dep=u.map dep
 | _,.nil=>⟨⟨.nil,List.Pairwise.nil,fun _=>Iff.rfl⟩,rfl⟩
 | _,.cons (v:=v) (u:=t) hv ha hc hb=>by
  obtain⟨c,hd⟩:=zJX o hb;have dd:∀x∈finS p W t,∃y∈t,dep y=dep x:=fun x hx=>by
   have:dep x∈t.map dep:=by rw [←hd];exact List.mem_map_of_mem hx
   obtain⟨y,hy,e⟩:=List.mem_map.1 this;exact⟨y,hy,e⟩
  obtain⟨q1,q2,q3,q4⟩:=zHX o (.cons hv ha hc hb) c.base c.red c.gen hb dd ha (fun f hf=>(c.gen f).1 hf) fun x hx=>by
   obtain⟨y,hy,e⟩:=dd x hx;have:=ha y hy;omega
  exact⟨⟨q1,q2,q3⟩,by simp only [finS,List.map_cons,q4,hd]⟩
theorem zFd (o:OkW p n W):∀{u:List (List Int)},Base p n W u→Canon p n W u (finI p W u)∧(finI p W u).map dep=u.map dep
 | _,.nil=>⟨⟨.nil,List.Pairwise.nil,fun _=>Iff.rfl⟩,rfl⟩
 | _,.cons (v:=v) (u:=t) hv ha hc hb=>by
  obtain⟨c,hd⟩:=zFd o hb;have dd:∀x∈finI p W t,dep v<dep x:=fun x hx=>by
   have:dep x∈t.map dep:=by rw [←hd];exact List.mem_map_of_mem hx
   obtain⟨y,hy,e⟩:=List.mem_map.1 this
   have:=ha y hy;omega
  obtain⟨q1,q2,q3,q4⟩:=zHX o (.cons hv ha hc hb) c.base c.red c.gen c.base (fun x hx=>⟨x,hx,rfl⟩) dd (fun f hf=>hf) dd
  exact⟨⟨q1,q2,q3⟩,by simp only [finI,List.map_cons,q4,hd]⟩
theorem Canon.unique (o:OkW p n W) {gens a b:List (List Int)} (ha:Canon p n W gens a) (hb:Canon p n W gens b):a=b:=
 zHl o ha.base ha.red hb.base hb.red (fun f hf=>(hb.gen f).1 ((ha.gen f).2 hf)) fun f hf=>(ha.gen f).1 ((hb.gen f).2 hf)
theorem Canon.trans {gens u out:List (List Int)} (h:Canon p n W u out) (hg:∀f,Gen p n W gens f↔Gen p n W u f):Canon p n W gens out:=⟨h.base,h.red,fun f=>(hg f).trans (h.gen f)⟩
abbrev Dp (u:List (List Int)) (d:Nat):List (List Int):=u.filter fun v=>decide (d<dep v)
abbrev Fp (u:List (List Int)) (d:Nat):List (List Int):=u.filter fun v=>decide (d≤dep v)
structure Grow (p:Int) (n:Nat) (W gens u Q:List (List Int)):Prop where
 led:∀v∈u,Led p n v
 asc:Asc u
 els:∀x∈Q,El p n x
 clo:∀v∈u,Gen p n W (Dp u (dep v)) (fun j=>p*at_ v j)∨∃x∈Q,dep v<dep x∧Gen p n W (Dp u (dep v)) fun j=>p*at_ v j-at_ x j
 gen:∀f,Gen p n W gens f↔Gen p n W (u++Q) f
theorem Grow.perm {gens u Q Q':List (List Int)} (g:Grow p n W gens u Q) (h:∀x,x∈Q↔x∈Q'):Grow p n W gens u Q':=
 ⟨g.led,g.asc,fun x hx=>g.els x ((h x).2 hx),fun v hv=>(g.clo v hv).imp id fun⟨x,hx,r⟩=>⟨x,(h x).1 hx,r⟩,
  fun f=>(g.gen f).trans ⟨zw fun v hv=>by simp only [List.mem_append]at hv ⊢;exact hv.imp id (h v).1,zw fun v hv=>by simp only [List.mem_append]at hv ⊢;exact hv.imp id (h v).2⟩⟩
theorem Grow.start {gens:List (List Int)} (h:∀v∈gens,El p n v):Grow p n W gens [] gens:=⟨fun v hv=>(by cases hv),List.Pairwise.nil,h,fun v hv=>(by cases hv),fun f=>Iff.rfl⟩
theorem Grow.replace {gens u Q:List (List Int)} {g x:List Int} (h:Grow p n W gens u (g::Q)) (hx:El p n x) (hd:dep g≤dep x) (hg:Gen p n W (Fp u (dep g)) fun j=>at_ g j-at_ x j):Grow p n W gens u (x::Q):=by
 have hg':∀M:List (List Int),(∀v∈u,v∈M)→Gen p n W M fun j=>at_ g j-at_ x j:=fun M hM=>zw (fun v hv=>hM v (List.mem_filter.1 hv).1) hg
 refine⟨h.led,h.asc,fun y hy=>(List.mem_cons.1 hy).elim (fun e=>e ▸ hx) fun hy=>h.els y (by simp [hy]),fun v hv=>?_,fun f=>(h.gen f).trans ⟨Zv fun y hy=>?_,Zv fun y hy=>?_⟩⟩
 ·rcases h.clo v hv with h1 | ⟨y,hy,h1,h2⟩
  ·exact .inl h1
  ·rcases List.mem_cons.1 hy with rfl | hy
   ·refine .inr ⟨x,by simp,by omega,?_⟩
    have q1:Gen p n W (Dp u (dep v)) fun j=>at_ y j-at_ x j:=zw (fun w hw=>by
     simp only [List.mem_filter,decide_eq_true_eq]at hw ⊢
     exact⟨hw.1,by omega⟩) hg
    have q2:=(zP _).add _ _ h2 q1;exact(zP _).eqv _ _ (Eqv.of_eq fun j=>by omega) q2
   ·exact .inr ⟨y,by simp [hy],h1,h2⟩
 ·simp only [List.mem_append,List.mem_cons]at hy
  rcases hy with hy|rfl|hy
  ·exact zb (by simp [hy])
  ·have q1:=(zP (p:=p) (n:=n) (W:=W) (u++x::Q)).add _ _ (hg' _ fun v hv=>by simp [hv]) (zb (v:=x) (by simp))
   exact(zP _).eqv _ _ (Eqv.of_eq fun j=>by omega) q1
  ·exact zb (by simp [hy])
 ·simp only [List.mem_append,List.mem_cons]at hy
  rcases hy with hy|rfl|hy
  ·exact zb (by simp [hy])
  ·have q1:=(zP (p:=p) (n:=n) (W:=W) (u++g::Q)).sub (zb (v:=g) (by simp)) (hg' _ fun v hv=>by simp [hv])
   exact(zP _).eqv _ _ (Eqv.of_eq fun j=>by omega) q1
  ·exact zb (by simp [hy])
theorem Grow.drop {gens u Q:List (List Int)} {x:List Int} (h:Grow p n W gens u (x::Q)) (h0:∀j,at_ x j=0):Grow p n W gens u Q:=by
 have hz:∀M:List (List Int),Gen p n W M (at_ x):=fun M=>(zP M).eqv _ _ (Eqv.of_eq h0) (zP M).zero
 refine⟨h.led,h.asc,fun y hy=>h.els y (by simp [hy]),fun v hv=>?_,fun f=>(h.gen f).trans ⟨Zv fun y hy=>?_,zw fun y hy=>by simp only [List.mem_append,List.mem_cons]at hy ⊢;exact hy.imp id .inr⟩⟩
 ·rcases h.clo v hv with h1 | ⟨y,hy,h1,h2⟩
  ·exact .inl h1
  ·rcases List.mem_cons.1 hy with rfl | hy
   ·exact .inl ((zP _).eqv _ _ (Eqv.of_eq fun j=>by rw [h0 j];omega) h2)
   ·exact .inr ⟨y,hy,h1,h2⟩
 ·simp only [List.mem_append,List.mem_cons]at hy
  rcases hy with hy|rfl|hy
  ·exact zb (by simp [hy])
  ·exact hz _
  ·exact zb (by simp [hy])
def insD:List (List Int)→List Int→List (List Int)
 | [],x=>[x]
 | v::u,x=>if dep v<dep x then v::insD u x else x::v::u
theorem ZG:∀{u:List (List Int)} {x v:List Int},v∈insD u x↔v=x∨v∈u
 | [],x,v=>by simp [insD]
 | w::u,x,v=>by
  simp only [insD]
  split
  ·rw [List.mem_cons,ZG,List.mem_cons]
   constructor
   ·rintro (h | h | h);exact .inr (.inl h);exact .inl h;exact .inr (.inr h)
   ·rintro (h | h | h);exact .inr (.inl h);exact .inl h;exact .inr (.inr h)
  ·simp
theorem zHR:∀{u:List (List Int)} {x:List Int},Asc u→(∀v∈u,dep v≠dep x)→Asc (insD u x)
 | [],x,_,_=>List.pairwise_singleton _ _
 | w::u,x,hu,hx=>by
  obtain⟨h1,h2⟩:=List.pairwise_cons.1 hu;simp only [insD]
  split
  ·rename_i hlt
   refine List.pairwise_cons.2 ⟨fun v hv=>?_,zHR h2 fun v hv=>hx v (by simp [hv])⟩
   rcases ZG.1 hv with rfl|hv
   ·exact hlt
   ·exact h1 v hv
  ·rename_i hge
   have:=hx w (by simp)
   refine List.pairwise_cons.2 ⟨fun v hv=>?_,hu⟩
   rcases List.mem_cons.1 hv with rfl|hv
   ·omega
   ·have:=h1 v hv;omega
theorem Z9:∀(u:List (List Int)) (x:List Int),(insD u x).length=u.length+1
 | [],x=>rfl
 | w::u,x=>by simp only [insD];split<;>simp [Z9 u x]
theorem Grow.insert {gens u Q:List (List Int)} {x y z:List Int} (h:Grow p n W gens u (x::Q)) (hy:Led p n y) (hd:dep y=dep x) (hnew:∀v∈u,dep v≠dep x) (hxy:Gen p n W [y] (at_ x)) (hyx:Gen p n W [x] (at_ y)) (hz:El p n z) (hzd:dep y<dep z) (hzp:Eqv p n W (at_ z) fun j=>p*at_ y j):Grow p n W gens (insD u y) (z::Q):=by
 have sub:∀d,∀v∈Dp u d,v∈Dp (insD u y) d:=fun d v hv=>by
  simp only [List.mem_filter,decide_eq_true_eq]at hv ⊢
  exact⟨ZG.2 (.inr hv.1),hv.2⟩
 have ymem:∀d,d<dep y→y∈Dp (insD u y) d:=fun d hd=>by
  simp only [List.mem_filter,decide_eq_true_eq];exact⟨ZG.2 (.inl rfl),hd⟩
 refine⟨fun v hv=>?_,zHR h.asc fun v hv=>by rw [hd];exact hnew v hv,fun v hv=>?_,fun v hv=>?_,fun f=>(h.gen f).trans ⟨Zv fun v hv=>?_,Zv fun v hv=>?_⟩⟩
 ·rcases ZG.1 hv with rfl | hv
  ·exact hy
  ·exact h.led v hv
 ·rcases List.mem_cons.1 hv with rfl | hv
  ·exact hz
  ·exact h.els v (by simp [hv])
 ·rcases ZG.1 hv with rfl | hv
  ·refine .inr ⟨z,by simp,hzd,?_⟩
   have:=hzp.symm.add (Eqv.refl (p:=p) (n:=n) (W:=W) fun j=>- at_ z j)
   refine(zP _).eqv _ _ ((Eqv.of_eq fun j=>?_).trans (this.trans (Eqv.of_eq fun j=>?_))) (zP _).zero
   ·omega
   ·omega
  ·rcases h.clo v hv with h1 | ⟨t,ht,h1,h2⟩
   ·exact .inl (zw (sub _) h1)
   ·rcases List.mem_cons.1 ht with rfl | ht
    ·have q1:Gen p n W (Dp (insD u y) (dep v)) (at_ t):=zw (fun w hw=>by rw [List.mem_singleton.1 hw];exact ymem _ (by omega)) hxy
     have q2:=(zP _).add _ _ (zw (sub (dep v)) h2) q1;exact .inl ((zP _).eqv _ _ (Eqv.of_eq fun j=>by omega) q2)
    ·exact .inr ⟨t,by simp [ht],h1,zw (sub _) h2⟩
 ·simp only [List.mem_append,List.mem_cons]at hv
  rcases hv with hv|rfl|hv
  ·exact zb (by simp [ZG,hv])
  ·exact zw (fun w hw=>by rw [List.mem_singleton.1 hw];simp [ZG]) hxy
  ·exact zb (by simp [hv])
 ·simp only [List.mem_append,List.mem_cons,ZG]at hv
  have hyg:Gen p n W (u++x::Q) (at_ y):=zw (fun w hw=>by rw [List.mem_singleton.1 hw];simp) hyx
  rcases hv with (rfl|hv)|rfl|hv
  ·exact hyg
  ·exact zb (by simp [hv])
  ·exact(zP _).eqv _ _ hzp ((zP _).mul p _ hyg)
  ·exact zb (by simp [hv])
theorem zI0 {v:List Int} {t:List (List Int)} (h:∀w∈t,dep v<dep w):Dp (v::t) (dep v)=t:=by
 rw [Dp,List.filter_cons,if_neg (by simp)]
 exact List.filter_eq_self.2 fun w hw=>by simpa using h w hw
theorem Grow.base {gens:List (List Int)}:∀{u:List (List Int)},Grow p n W gens u []→Base p n W u:=by
 have key:∀(u:List (List Int)),(∀v∈u,Led p n v)→Asc u→(∀v∈u,Gen p n W (Dp u (dep v)) fun j=>p*at_ v j)→Base p n W u:=by
  intro u
  induction u with
  | nil=>intro _ _ _;exact .nil
  | cons v t ih=>
   intro hl ha hc;obtain⟨h1,h2⟩:=List.pairwise_cons.1 ha;have hv:=hc v (by simp)
   rw [zI0 h1]at hv
   refine .cons (hl v (by simp)) h1 hv (ih (fun w hw=>hl w (by simp [hw])) h2 fun w hw=>?_)
   have hw':=hc w (by simp [hw])
   have:Dp (v::t) (dep w)=Dp t (dep w):=by
    rw [Dp,List.filter_cons,if_neg (by have:=h1 w hw;simp;omega)]
   rwa [this]at hw'
 intro u h;exact key u h.led h.asc fun v hv=>(h.clo v hv).elim id fun⟨x,hx,_⟩=>by cases hx
theorem Grow.done {gens u out:List (List Int)} (h:Grow p n W gens u []) (c:Canon p n W u out):Canon p n W gens out:=c.trans fun f=>by
 have:=h.gen f
 rwa [List.append_nil]at this
theorem Z5 {u:List (List Int)} (hl:∀v∈u,dep v<n) (ha:Asc u):u.length≤n:=by
 have:∀(u:List (List Int)) (m:Nat),(∀v∈u,m≤dep v∧dep v<n)→Asc u→m+u.length≤max m n:=by
  intro u
  induction u with
  | nil=>intro m _ _;simp;omega
  | cons v t ih=>
   intro m hm ha;obtain⟨h1,h2⟩:=List.pairwise_cons.1 ha;have q:=hm v (by simp)
   have:=ih (dep v+1) (fun w hw=>⟨h1 w hw,(hm w (by simp [hw])).2⟩) h2
   rw [List.length_cons];omega
 have:=this u 0 (fun v hv=>⟨Nat.zero_le _,hl v hv⟩) ha
 omega
end Go.Lie
namespace Go.Lie
open Go.Ab
variable {p:Int} {n:Nat} {W:List (List Int)}
theorem zJs (hp:0<p) {a k:Int} (h:0≤a∧a≤p-1) (e:a=0-k*p):a=0:=by
 rcases Int.lt_trichotomy k 0 with x|x|x
 ·have:=Int.mul_le_mul_of_nonneg_right (show k≤-1 by omega) (show 0≤p by omega)
  omega
 ·rw [x]at e;omega
 ·have:=Int.mul_le_mul_of_nonneg_right (show 1≤k by omega) (show 0≤p by omega)
  omega
theorem zD8 (o:OkW p n W) {z:List Int} {g:Vec} (hz:El p n z) (h:Eqv p n W (at_ z) g) {m:Nat} (hm:m≤n) (hg:∀j,j<m→g j=0):∀j,j<m→at_ z j=0:=by
 intro j hj;have hp:=o.pr;unfold okp at hp
 obtain⟨k,hk⟩:=(Zy o h (d:=j) (by omega) (fun i _=>hz.at0 o i) (fun i hi=>by rw [hg i (by omega)];omega)).2
 rw [hg j hj]at hk
 exact zJs (by omega) (hz.at0 o j) hk
theorem zDB {u:List (List Int)} {d:Nat} (h:∀v∈u,d≤dep v):Fp u d=u:=List.filter_eq_self.2 fun v hv=>by simpa using h v hv
theorem zFO (o:OkW p n W):∀{u:List (List Int)} {g:List Int},(∀v∈u,El p n v)→Asc u→El p n g→redL p W u g=redL p W (Fp u (dep g)) g
 | [],g,_,_,_=>rfl
 | v::u,g,hu,ha,hg=>by
  obtain⟨h1,h2⟩:=List.pairwise_cons.1 ha
  by_cases hd:dep g≤dep v
  ·rw [zDB]
   intro w hw;rcases List.mem_cons.1 hw with rfl|hw
   ·exact hd
   ·have:=h1 w hw;omega
  ·have e:Fp (v::u) (dep g)=Fp u (dep g):=by rw [Fp,List.filter_cons,if_neg (by simpa using hd)]
   rw [e,redL,zLB o hg (hu v (by simp)) (zV (by omega))]
   exact zFO o (fun w hw=>hu w (by simp [hw])) h2 hg
theorem zFE {u:List (List Int)} {d:Nat} {v:List Int}:v∈Fp u d↔v∈u∧d≤dep v:=by simp [Fp]
theorem zMm (o:OkW p n W) {u:List (List Int)} {g:List Int} (hu:∀v∈u,Led p n v) (ha:Asc u) (hg:El p n g):dep g≤dep (redL p W u g):=by
 have hel:=Zh o (fun v hv=>(hu v hv).1) hg
 refine dep_ge (by rw [hel.1,←hg.1];exact Zn g) fun j hj=>?_
 rw [zFO o (fun v hv=>(hu v hv).1) ha hg]
 have:=(zAh o (u:=Fp u (dep g)) (fun v hv=>hu v (zFE.1 hv).1) (ha.sublist List.filter_sublist) hg).2 j fun v hv=>by have:=(zFE.1 hv).2;omega
 rw [this];exact zV hj
theorem Grow.reduce (o:OkW p n W) {gens u Q:List (List Int)} {g:List Int} (h:Grow p n W gens u (g::Q)):Grow p n W gens u (redL p W u g::Q):=by
 have hg:=h.els g (by simp)
 have he:∀v∈u,El p n v:=fun v hv=>(h.led v hv).1
 refine h.replace (Zh o he hg) (zMm o h.led h.asc hg) ?_;rw [zFO o he h.asc hg];exact zBw o (fun v hv=>he v (zFE.1 hv).1) hg
theorem Grow.reduce1 (o:OkW p n W) {gens u Q:List (List Int)} {g v:List Int} (h:Grow p n W gens u (g::Q)) (hv:v∈u) (hd:dep v=dep g):Grow p n W gens u (red1 p W g v::Q)∧dep g<dep (red1 p W g v):=by
 have hg:=h.els g (by simp)
 have lv:=h.led v hv;have hel:=zBe o hg lv.1;have hdd:dep g<dep (red1 p W g v):=dep_ge (by rw [hel.1];have:=lv.2.1;omega) fun j hj=>by
  rw [zDH o hg lv (by omega)]
  split
  ·rfl
  ·exact zV (by omega)
 refine⟨h.replace hel (by omega) ?_,hdd⟩
 have q1:=(zP (p:=p) (n:=n) (W:=W) (Fp u (dep g))).mul (at_ g (dep v)) _ (zb (zFE.2 ⟨hv,by omega⟩))
 refine(zP _).eqv _ _ ?_ q1
 have:=(zDr o hg lv.1).symm.add (Eqv.refl (p:=p) (n:=n) (W:=W) fun j=>at_ g (dep v)*at_ v j-at_ (red1 p W g v) j)
 refine(Eqv.of_eq fun j=>?_).trans (this.trans (Eqv.of_eq fun j=>?_))
 ·omega
 ·omega
theorem Zl (o:OkW p n W) {x:List Int} (hx:El p n x) (k:Int):El p n (norm p W (lmix k x 0 x))∧Eqv p n W (at_ (norm p W (lmix k x 0 x))) fun j=>k*at_ x j:=by
 have hl:(lmix k x 0 x).length=n:=by rw [zQ rfl];exact hx.1
 exact⟨zAi o hl,(qO o hl).trans (Eqv.of_eq fun j=>by rw [zm rfl];omega)⟩
theorem zA8 (o:OkW p n W) {x:List Int} (hx:El p n x) (hd:dep x<n) {k:Int} (hk:at_ x (dep x)*k % p=1):
  Led p n (norm p W (lmix k x 0 x))∧dep (norm p W (lmix k x 0 x))=dep x∧Gen p n W [norm p W (lmix k x 0 x)] (at_ x)∧Gen p n W [x] (at_ (norm p W (lmix k x 0 x))):=by
 have hp:=o.pr;unfold okp at hp
 have hl:(lmix k x 0 x).length=n:=by rw [zQ rfl];exact hx.1
 obtain⟨hel,heq⟩:=Zl o hx k;have hz:∀j,j<dep x→at_ (lmix k x 0 x) j=0:=fun j hj=>by rw [zm rfl,zV hj];simp
 have h1:=zAK o hl (by omega) hz
 have h2:=zCl o hl hd hz;have e:at_ (lmix k x 0 x) (dep x)=at_ x (dep x)*k:=by rw [zm rfl,Int.mul_comm k];omega
 rw [e,hk]at h2
 have hdep:dep (norm p W (lmix k x 0 x))=dep x:=zAR h1 (by rw [h2];decide)
 refine⟨⟨hel,by rw [hdep];exact hd,by rw [hdep];exact h2⟩,hdep,?_,?_⟩
 ·obtain⟨t,ht⟩:∃t,at_ x (dep x)*k=1+p*t:=⟨at_ x (dep x)*k / p,by have:=Int.emod_add_mul_ediv (at_ x (dep x)*k) p;omega⟩
  obtain⟨e,s,hes⟩:=zFb (p:=p) t n (by omega)
  have g1:=(zP (p:=p) (n:=n) (W:=W) [norm p W (lmix k x 0 x)]).mul (e*at_ x (dep x)) _ (zb (List.mem_singleton.2 rfl));have k1:=(Qa o (f:=at_ x) fun j hj=>hx.beyond hj).mul (-s)
  refine(zP _).eqv _ _ ?_ g1;have h3:=heq.symm.mul (e*at_ x (dep x));have h4:=h3.add k1;refine(Eqv.of_eq fun j=>?_).trans (h4.trans (Eqv.of_eq fun j=>by simp))
  have:e*at_ x (dep x)*(k*at_ x j)=(e*(at_ x (dep x)*k))*at_ x j:=by simp only [Int.mul_assoc]
  rw [this,ht,hes,Int.add_mul,Int.one_mul]
  have:-s*(pw_ p n*at_ x j)=-(pw_ p n*s*at_ x j):=by rw [Int.neg_mul,Int.mul_left_comm,Int.mul_assoc]
  rw [this];omega
 ·refine(zP _).eqv _ _ heq ((zP _).mul k _ (zb (List.mem_singleton.2 rfl)))
theorem zGt (o:OkW p n W) {y:List Int} (hy:El p n y) (hd:dep y<n):dep y<dep (norm p W (lmix p y 0 y)):=by
 obtain⟨hel,heq⟩:=Zl o hy p;obtain⟨g,h1,h2,h3⟩:=push o hd (f:=at_ y) (fun j hj=>zV hj) fun j hj=>hy.beyond hj
 have:=zD8 o hel (heq.trans h1) (m:=dep y+1) (by omega) fun j hj=>h2 j (by omega)
 exact dep_ge (by rw [hel.1];omega) this
theorem Grow.take (o:OkW p n W) {gens u Q:List (List Int)} {x:List Int} {k:Int} (h:Grow p n W gens u (x::Q)) (hd:dep x<n) (hnew:∀v∈u,dep v≠dep x) (hk:at_ x (dep x)*k % p=1):
  Grow p n W gens (insD u (norm p W (lmix k x 0 x))) (norm p W (lmix p (norm p W (lmix k x 0 x)) 0 (norm p W (lmix k x 0 x)))::Q):=by
 have hx:=h.els x (by simp)
 obtain⟨h1,h2,h3,h4⟩:=zA8 o hx hd hk;obtain⟨h5,h6⟩:=Zl o h1.1 p;exact h.insert h1 h2 hnew h3 h4 h5 (zGt o h1.1 h1.2.1) h6
theorem zPR {p a:Int} (hp:p=2∨p=3∨p=5∨p=7) (h1:0<a) (h2:a<p):∃x,1≤x∧x<p∧a*x % p=1:=by
 rcases hp with rfl|rfl|rfl|rfl
 ·exact⟨1,by omega,by omega,by
   have:a=1:=by omega
   subst this;decide⟩
 ·obtain rfl | rfl:a=1∨a=2:=by omega
  ·exact⟨1,by decide,by decide,by decide⟩
  ·exact⟨2,by decide,by decide,by decide⟩
 ·obtain rfl | rfl | rfl | rfl:a=1∨a=2∨a=3∨a=4:=by omega
  ·exact⟨1,by decide,by decide,by decide⟩
  ·exact⟨3,by decide,by decide,by decide⟩
  ·exact⟨2,by decide,by decide,by decide⟩
  ·exact⟨4,by decide,by decide,by decide⟩
 ·obtain rfl | rfl | rfl | rfl | rfl | rfl:a=1∨a=2∨a=3∨a=4∨a=5∨a=6:=by omega
  ·exact⟨1,by decide,by decide,by decide⟩
  ·exact⟨4,by decide,by decide,by decide⟩
  ·exact⟨5,by decide,by decide,by decide⟩
  ·exact⟨2,by decide,by decide,by decide⟩
  ·exact⟨3,by decide,by decide,by decide⟩
  ·exact⟨6,by decide,by decide,by decide⟩
end Go.Lie
namespace Go.Proofs
open Go.Ab Go.Lie
variable {σ:PHeap} {K:PV→PHeap→Prop} {p p':Int} {n:Nat} {W:List (List Int)} {B:List (List (List Int))} {vP vB vL vU:PV}
theorem zF1 {a p:Int} (hp:isP p) (ha:0<a∧a<p) (hk:∀x,1≤x→x<p→a*x % p=1→K (.int .i64 x) σ):zA Tryz.prog 183 [.int .i64 a,.int .i64 p] σ K:=by
 have hpb:=hp.bd;obtain⟨y,hy1,hy2,hy3⟩:=zPR hp ha.1 ha.2;refine zD mix Tryz.func183 ?_
 conv=>arg 2;cbv
 refine zF rfl ?_;simp only [pwA,seval,-iQ0];refine zG (fun m vs h'=>∃i:Int,1≤i∧i≤y∧m=(y-i).toNat∧vs=[.int .i64 a,.int .i64 p,.int .i64 i]∧σ=h') (y-1).toNat ?_ ?_
 ·exact⟨1,by omega,hy1,rfl,rfl,rfl⟩
 rintro m vs h' ⟨i,hi,hiy,rfl,rfl,rfl⟩
 have hip:i<p:=by omega
 simp only [pwA,seval,-iQ0,hip];refine zF0 (by omega) (by omega) ?_
 have hap:a % p=a:=Int.emod_eq_of_lt (by omega) (by omega)
 have hm:a*i≤49∧0≤a*i:=by
  have h1:=Int.mul_le_mul_of_nonneg_left (show i≤7 by omega) (show 0≤a by omega)
  have h2:=Int.mul_nonneg (show 0≤a by omega) (show 0≤i by omega)
  omega
 have hp0:p≠0:=by omega
 rw [hap];simp only [pwA,seval,-iQ0,wrap64 (n:=a*i) (by omega) (by omega),hp0]
 have e:(a*i).tmod p=a*i % p:=Int.tmod_eq_emod_of_nonneg hm.2;rw [e]
 by_cases h1:a*i % p=1
 ·simp only [pwA,seval,-iQ0,h1]
  exact hk i hi hip h1
 ·have hne:i≠y:=fun e=>h1 (by rw [e];exact hy3)
  simp only [pwA,seval,-iQ0,h1,wrap64 (n:=i+1) (by omega) (by omega)]
  exact⟨_,by omega,i+1,by omega,by omega,rfl,rfl⟩
theorem zIs {l:Nat} {w:Bool} {a:AV} {xs:List Int} (hl:l=xs.length) (hb:xs.length≤1048576) (hk:K (.int .i64 (dep xs)) σ):zA Tryz.prog 280 [.fz w a l (pis xs)] σ K:=by
 subst hl;refine zD mix Tryz.func280 ?_
 conv=>arg 2;cbv
 refine zF rfl ?_;simp only [pwA,seval,-iQ0];refine zG (fun m vs h'=>∃i:Nat,i≤dep xs∧m=dep xs-i∧vs=[.fz w a xs.length (pis xs),.int .i64 i]∧σ=h') (dep xs) ?_ ?_
 ·exact⟨0,by omega,by omega,rfl,rfl⟩
 rintro m vs h' ⟨i,hi,rfl,rfl,rfl⟩
 have hdl:=Zn xs
 by_cases hlt:i<xs.length
 ·simp only [pwA,seval,-iQ0,hlt,zU,gi hlt]
  refine iteI (fun h0=>?_) fun h0=>?_
  ·have hid:i<dep xs:=by
    rcases Nat.lt_or_ge i (dep xs)with x|x
    ·exact x
    ·have:i=dep xs:=by omega
     subst this;exact absurd (by rw [at_eq hlt];exact h0) (qc hlt)
   simp only [pwA,seval,-iQ0,wrapS hlt (by omega:xs.length≤4611686018427387904)]
   exact⟨_,by omega,i+1,by omega,rfl,rfl⟩
  ·have hid:i=dep xs:=by
    rcases Nat.lt_or_ge i (dep xs)with x|x
    ·exact absurd (by rw [←at_eq hlt];exact zV x) h0
    ·omega
   subst hid;exact hk
 ·have hid:i=dep xs:=by omega
  subst hid;simp only [pwA,seval,-iQ0,hlt];exact hk
theorem zAE {l:Nat} {w:Bool} {a:AV} {xs:List Int} (hl:l=xs.length) (hb:xs.length≤1048576) (hk:K (.int .i64 (dep xs)) σ):zA Tryz.prog 199 [.fz w a l (pis xs)] σ K:=by
 refine zD mix Tryz.func199 ?_
 conv=>arg 2;cbv
 refine zF rfl ?_;simp only [pwA,seval,-iQ0];refine zIs hl hb ?_;simp only [pwA,seval,-iQ0];exact hk
theorem zFz {l:Nat} {w:Bool} {a:AV} {xs:List Int} (hl:l=xs.length) (hb:xs.length≤4294967296) (hk:∀v,K (.fz true v xs.length (pis xs)) σ):zA Tryz.prog 271 [.fz w a l (pis xs)] σ K:=
 zA.fz (fun K'=>Zr hl hb) (zN _ _) fun o cap=>hk _
theorem zFs (u:List (List Int)) (v x:List Int):redL p W (u++[v]) x=red1 p W (redL p W u x) v:=by
 induction u generalizing x with
 | nil=>rfl
 | cons w u ih=>rw [List.cons_append,redL,ih,redL]
theorem zA1 {l:Nat} {w:Bool} {a:AV} {u:List (List Int)} {x:List Int} (hR:IsR vP vB W B) (o:OkW p n W) (hL:FII vU u) (hu:∀v∈u,El p n v∧dep v<n) (hul:u.length≤1048576) (hx:El p n x) (hl:l=x.length)
  (hk:∀v,K (.fz true v n (pis (redL p W u x))) σ):zA Tryz.prog 197 [.agg [.int .i64 p,vP,vB],vU,.fz w a l (pis x)] σ K:=by
 have h1:=hR.P.one;have h2:=hR.B.one;have hn6:=o.le;have hp:=o.pr;unfold okp at hp
 obtain⟨wl,al,rl,rfl,hrl⟩:=hL;refine zA.gh ?_;refine zL mix Tryz.func197 cf197 rfl ?_;dsimp only [if197,qI,eI,qD,eD,mI0,kI0,bI0,cI0,sI0,C1,mD0,lD0,xD0,R0,S0];simp only [pwA,seval,-iQ0,h1,h2];refine zFz hl (by rw [hx.1];omega) fun v0=>?_
 rw [hx.1];simp only [pwA,seval,-iQ0];refine zG (fun m vs h'=>∃i:Nat,i≤u.length∧m=u.length-i∧∃v,vs=[.fz wl al u.length rl,.ptr σ.next 0,.fz true v n (pis (redL p W (u.take i) x)),.int .i64 i]∧σ.new [.int .i64 p,vP,vB]=h') u.length ?_ ?_
 ·exact⟨0,by omega,by omega,v0,by rw [List.take_zero,redL];rfl,rfl⟩
 rintro m vs h' ⟨i,hi,rfl,v,rfl,rfl⟩
 simp only [pwA,seval,-iQ0];have hel:El p n (redL p W (u.take i) x):=Zh o (fun v hv=>(hu v (List.mem_of_mem_take hv)).1) hx
 refine iteI (fun hlt=>?_) fun hge=>?_
 ·obtain⟨w4,a4,hr⟩:=hrl.rowI hlt
  have hui:=hu _ (List.getElem_mem hlt);have hstep:redL p W (u.take (i+1)) x=red1 p W (redL p W (u.take i) x) u[i]:=by rw [List.take_succ_eq_append_getElem hlt,zFs]
  generalize hy:redL p W (u.take i) x=y at *
  have hdl:dep u[i] < y.length:=by rw [hel.1];exact hui.2
  have hya:=hel.at o.pr (dep u[i]);rw [at_eq hdl]at hya
  simp only [pwA,seval,-iQ0,hlt,hr];refine zAE rfl (by rw [hui.1.1];omega) ?_
  have hneg:IntKind.i64.wrap (0-y[dep u[i]])=-y[dep u[i]]:=by rw [wrap64 (by omega) (by omega)];omega
  simp only [pwA,seval,-iQ0,hlt,hr,hui.2,zU,gi hdl,hneg];refine qG hR o hel hui.1 hel.1.symm rfl (by decide) (by omega) fun v'=>?_
  simp only [pwA,seval,-iQ0,wrapS hlt (by omega:u.length≤4611686018427387904)]
  refine⟨_,by omega,i+1,by omega,rfl,v',?_⟩
  rw [hstep,red1,at_eq hdl]
 ·have hie:i=u.length:=by omega
  subst hie;rw [List.take_length];exact Gh.fin0 (zC σ _) trivial (hk v)
theorem zF4:∀(u:List (List Int)) (x:List Int) (k:Nat),k≤u.length→(∀j (h:j<u.length),j<k→dep u[j] < dep x)→(∀h:k<u.length,¬dep u[k] < dep x)→insD u x=u.take k++[x]++u.drop k
 | [],x,k,hk,_,_=>by
  have:k=0:=by simpa using hk
  subst this;rfl
 | v::u,x,0,_,_,h2=>by
  have:=h2 (by simp)
  simp only [List.getElem_cons_zero]at this
  rw [insD,if_neg this];rfl
 | v::u,x,k+1,hk,h1,h2=>by
  have:=h1 0 (by simp) (by omega)
  simp only [List.getElem_cons_zero]at this
  rw [insD,if_pos this,zF4 u x k (by simpa using hk) (fun j h hj=>by have:=h1 (j+1) (by simpa using h) (by omega);simpa using this) (fun h=>by have:=h2 (by simpa using h);simpa using this)]
  rfl
theorem zHF {l:Nat} {w:Bool} {a:AV} {u:List (List Int)} {x:List Int} (hL:FII vU u) (hu:∀v∈u,v.length≤1048576) (hul:u.length≤1048576) (hxl:x.length≤1048576) (hl:l=x.length)
  (hk:∀v,FII v (insD u x)→K v σ):zA Tryz.prog 200 [vU,.fz w a l (pis x)] σ K:=by
 subst hl;obtain⟨wl,al,rl,rfl,hrl⟩:=hL;refine zA.gh ?_;refine zD mix Tryz.func200 ?_
 conv=>arg 2;cbv
 refine zF rfl ?_;simp only [pwA,seval,-iQ0];refine zG (fun m vs h'=>∃i:Nat,i≤u.length∧m=u.length-i∧vs=[.fz wl al u.length rl,.fz w a x.length (pis x),.int .i64 i]∧σ=h'∧∀j (h:j<u.length),j<i→dep u[j] < dep x) u.length ?_ ?_
 ·exact⟨0,by omega,by omega,rfl,rfl,fun j h hj=>by omega⟩
 rintro m vs h' ⟨i,hi,rfl,rfl,rfl,hall⟩
 have fin:(∀h:i<u.length,¬dep u[i] < dep x)→insD u x=u.take i++[x]++u.drop i:=zF4 u x i hi hall
 have tail:(∀h:i<u.length,¬dep u[i] < dep x)→∀v' h',Keep σ h'→PSl σ.next 1 h' v' (u.length+1) (rl.take i++[PV.fz w a x.length (pis x)]++rl.drop i)→Gh σ K v' h':=fun hs v' h' hk' ha=>by
  have hall2:All2 FI (rl.take i++[PV.fz w a x.length (pis x)]++rl.drop i) (insD u x):=by
   rw [fin hs];exact((hrl.take i).append (All2.nil FI |>.snoc ⟨w,a,rfl⟩)).append (hrl.drop i)
  exact ha.fin hk' (hall2.bI 0) fun o cap=>hk _ ⟨true,.sl o 0 (u.length+1) cap,_,by rw [Z9],hall2⟩
 have hrll:=hrl.1;have hz':i≤u.length:=hi;have hdrop:(rl.drop i).take (u.length-i)=rl.drop i:=List.take_of_length_le (by rw [List.length_drop];omega)
 by_cases hlt:i<u.length
 ·obtain⟨w4,a4,hr⟩:=hrl.rowI hlt
  simp only [pwA,seval,-iQ0,hlt,hr];refine zAE rfl (hu _ (List.getElem_mem hlt)) ?_;simp only [pwA,seval,-iQ0,hlt,hr];refine zAE rfl hxl ?_;simp only [pwA,seval,-iQ0];refine iteI (fun hd=>?_) fun hd=>?_
  ·simp only [pwA,seval,-iQ0,wrapS hlt (by omega:u.length≤4611686018427387904)]
   refine⟨_,by omega,i+1,by omega,rfl,rfl,fun j h hj=>?_⟩
   by_cases e:j=i
   ·subst e;exact hd
   ·exact hall j h (by omega)
  ·simp only [pwA,seval,-iQ0,hz',Nat.sub_zero]
   refine PSl.cat (bytes:=24) (σb:=σ) (n:=0) (cs:=[]) (zC σ _) (PSl.new _ 1 rfl (Nat.le_refl _)) (by rw [List.length_take];omega) (by omega) (by omega) fun v1 h1 k1 a1=>?_
   rw [List.nil_append,Nat.zero_add]at a1
   simp only [pwA,seval,-iQ0];refine PSl.push (bytes:=24) k1 a1 (by omega) (by omega) fun v2 h2 k2 a2=>?_
   simp only [pwA,seval,-iQ0,hz',hdrop];refine PSl.cat (bytes:=24) k2 a2 (by rw [List.length_drop];omega) (by omega) (by omega) fun v3 h3 k3 a3=>?_
   simp only [pwA,seval,-iQ0];refine tail ?_ v3 h3 k3 ?_
   ·exact fun _=>hd
   ·have:i+1+(u.length-i)=u.length+1:=by omega
    rw [this]at a3
    exact a3
 ·simp only [pwA,seval,-iQ0,hlt]
  simp only [pwA,seval,-iQ0,hlt,Int.ofNat_le,hz',Nat.sub_zero];refine PSl.cat (bytes:=24) (σb:=σ) (n:=0) (cs:=[]) (zC σ _) (PSl.new _ 1 rfl (Nat.le_refl _)) (by rw [List.length_take];omega) (by omega) (by omega) fun v1 h1 k1 a1=>?_
  rw [List.nil_append,Nat.zero_add]at a1
  simp only [pwA,seval,-iQ0];refine PSl.push (bytes:=24) k1 a1 (by omega) (by omega) fun v2 h2 k2 a2=>?_
  simp only [pwA,seval,-iQ0,hz',hdrop];refine PSl.cat (bytes:=24) k2 a2 (by rw [List.length_drop];omega) (by omega) (by omega) fun v3 h3 k3 a3=>?_
  simp only [pwA,seval,-iQ0];refine tail ?_ v3 h3 k3 ?_
  ·exact fun h=>absurd h hlt
  ·have:i+1+(u.length-i)=u.length+1:=by omega
   rw [this]at a3
   exact a3
end Go.Proofs
namespace Go.Proofs
open Go.Ab Go.Lie
variable {σ:PHeap} {K:PV→PHeap→Prop} {p p':Int} {n:Nat} {W:List (List Int)} {B:List (List (List Int))} {vP vB vL vU:PV}
theorem QS:∀u:List (List Int),(finS p W u).length=u.length
 | []=>rfl
 | v::t=>by simp [finS,QS t]
theorem zHY:∀(u:List (List Int)) (k:Nat) (h:k<u.length),(finS p W u)[k]? = some (redL p W (u.drop (k+1)) u[k])
 | [],k,h=>by simp at h
 | v::t,0,h=>by simp [finS]
 | v::t,k+1,h=>by
  have:=zHY t k (by simpa using h)
  simp only [finS,List.getElem?_cons_succ,List.drop_succ_cons,List.getElem_cons_succ];exact this
theorem ZH {xs:List Int} (h:isZ xs) (j:Nat):at_ xs j=0:=by
 rcases Nat.lt_or_ge j xs.length with x|x
 ·rw [at_eq x];exact h _ (List.getElem_mem x)
 ·exact at_ge x
theorem zBU {xs:List Int} (h:¬isZ xs):dep xs<xs.length:=by
 rcases Nat.lt_or_ge (dep xs) xs.length with x|x
 ·exact x
 ·exact absurd (zNi (by have:=Zn xs;omega)) h
theorem zPO {u:List (List Int)} {x:List Int} (hz:∀v∈u,at_ x (dep v)=0) (hx:dep x<x.length):∀v∈u,dep v≠dep x:=fun v hv e=>qc hx (by rw [←e];exact hz v hv)
theorem zL7 {gens:List (List Int)} (hR:IsR vP vB W B) (o:OkW p n W) (hp:isP p) (hL:FII vL gens) (he:Els p n gens) (hgl:gens.length≤1048576) (hk:∀out rows cap,Canon p n W gens out→All2 FI rows out→full 1 cap out.length→K (.sl σ.next 0 out.length cap) (σ.new rows)):
  zA Tryz.prog 105 [.agg [.int .i64 p,vP,vB],vL] σ K:=by
 have h1:=hR.P.one;have h2:=hR.B.one;have hn6:=o.le;have hpb:=hp.bd;have hpk:-1000000000≤p∧p≤1000000000:=by omega
 obtain⟨wl,al,rl,rfl,hrl⟩:=hL;refine zA.gh ?_;refine zL mix Tryz.func105 cf105 rfl ?_;dsimp only [if105,qI,eI,qD,eD,mI0,kI0,bI0,cI0,nI0,sI0,C1,C2,mD0,lD0,fD0,xD0,R0,S0];simp only [pwA,seval,-iQ0,h1,h2];generalize hH:((σ.new [.int .i64 p,vP,vB]).new []).kill (σ.next+1)=H;have hHn:H.next=σ.next+2:=by rw [←hH];simp only [pwA,seval,-iQ0]
 have hHk:Keep σ H:=by rw [←hH];exact((zC σ _).new _).kill (by omega)
 have hb3:H.rd σ.next 0 3=some [.int .i64 p,vP,vB]:=by rw [←hH];simp only [pwA,seval,-iQ0]
 have hb1:H.rd1 σ.next 0=some (.int .i64 p):=by rw [←hH];simp only [pwA,seval,-iQ0]
 have elU:∀{u Q:List (List Int)},Grow p n W gens u Q→(∀v∈u,El p n v∧dep v<n)∧u.length≤n:=fun g=>⟨fun v hv=>⟨(g.led v hv).1,(g.led v hv).2.1⟩,Z5 (fun v hv=>(g.led v hv).2.1) g.asc⟩
 refine Zc (fun m vs h'=>∃i:Nat,i≤gens.length∧m=gens.length-i∧∃vU u,vs=[.fz wl al gens.length rl,.ptr σ.next 0,vU,.int .i64 i]∧H=h'∧FII vU u∧Grow p n W gens u (gens.drop i)) gens.length ?_ ?_
 ·refine .fz (σ.next+1) [] (by simp only [pwA,seval,-iQ0]) trivial fun o1=>.here ?_
  rw [hH];refine⟨0,by omega,by omega,.fz true (.sl o1 0 0 (.known 0)) 0 [],[],?_,rfl,⟨_,_,_,rfl,All2.nil _⟩,by rw [List.drop_zero];exact Grow.start he⟩
  simp only [pwA,seval,-iQ0];simp only [sbs,sb,capOK,Nat.le_refl,decide_true,and_self,if_true]
  rfl
 rintro m vs h' ⟨i,hi,rfl,vU,u,rfl,rfl,hU,hg⟩
 simp only [pwA,seval,-iQ0];refine iteI (fun hlt=>?_) fun hge=>?_
 ·obtain⟨w4,a4,hr⟩:=hrl.rowI hlt
  have hge:=he _ (List.getElem_mem hlt);have hd:gens.drop i=gens[i]::gens.drop (i+1):=List.drop_eq_getElem_cons hlt;rw [hd]at hg
  simp only [pwA,seval,-iQ0,hlt,hr,hb3,hb1];refine zA1 hR o hU (elU hg).1 (by have:=(elU hg).2;omega) hge rfl fun v0=>?_
  simp only [pwA,seval,-iQ0];refine zG (fun m vs h'=>∃vU u vX x,m=n-u.length∧vs=[.fz wl al gens.length rl,.ptr σ.next 0,vU,.int .i64 i,.fz true vX n (pis x)]∧H=h'∧FII vU u∧Grow p n W gens u (x::gens.drop (i+1))∧∀v∈u,at_ x (dep v)=0) (n-u.length) ?_ ?_
  ·exact⟨vU,u,v0,_,rfl,rfl,rfl,hU,hg.reduce o,(zAh o hg.led hg.asc hge).1⟩
  rintro m vs h' ⟨vU,u,vX,x,rfl,rfl,rfl,hU,hg,hz⟩
  have hx:=hg.els x (by simp)
  have hxl:=hx.1;simp only [pwA,seval,-iQ0];refine zAa hxl.symm (by omega) ?_
  by_cases h0:isZ x
  ·simp only [pwA,seval,-iQ0,h0,wrapS hlt (by omega:gens.length≤4611686018427387904)]
   exact⟨_,by omega,.here ⟨i+1,by omega,rfl,vU,u,rfl,rfl,hU,hg.drop (ZH h0)⟩⟩
  ·have hdx:dep x<x.length:=zBU h0
   have hdn:dep x<n:=by omega
   have hxd:=hx.at0 o (dep x);have hne:=qc hdx;rw [at_eq hdx]at hxd hne
   simp only [pwA,seval,-iQ0,h0,hb3,hb1];refine zAE hxl.symm (by omega) ?_
   simp only [pwA,seval,-iQ0,hdn,hdx,gi hdx,zU,hb3,hb1];refine zF1 hp (by omega) fun k hk1 hk2 hk3=>?_
   simp only [pwA,seval,-iQ0,hdn,hdx,gi hdx,zU,hb3,hb1];refine qG hR o hx hx hxl.symm hxl.symm (by omega) (by decide) fun v1=>?_
   have hT:=hg.take o hdn (zPO hz hdx) (k:=k) (by rw [at_eq hdx];exact hk3)
   obtain⟨y1,y2,y3,y4⟩:=zA8 o hx hdn (k:=k) (by rw [at_eq hdx];exact hk3)
   generalize norm p W (lmix k x 0 x)=y at *
   simp only [pwA,seval,-iQ0];refine zHF hU (fun v hv=>by rw [((elU hg).1 v hv).1.1];omega) (by have:=(elU hg).2;omega) (by rw [y1.1.1];omega) y1.1.1.symm fun vU' hU'=>?_
   simp only [pwA,seval,-iQ0,hb3,hb1];refine qG hR o y1.1 y1.1 y1.1.1.symm y1.1.1.symm hpk (by decide) fun v2=>?_
   obtain⟨z1,z2⟩:=Zl o y1.1 p;generalize norm p W (lmix p y 0 y)=z at *
   simp only [pwA,seval,-iQ0,hb3,hb1];refine zA1 hR o hU' (elU hT).1 (by have:=(elU hT).2;omega) z1 z1.1.symm fun v3=>?_
   simp only [pwA,seval,-iQ0];have hlen:=(elU hT).2;rw [Z9]at hlen
   exact⟨_,by rw [Z9];omega,vU',insD u y,v3,_,rfl,rfl,hU',hT.reduce o,(zAh o hT.led hT.asc z1).1⟩
 ·have hie:i=gens.length:=by omega
  subst hie;rw [List.drop_length]at hg
  have hbase:=hg.base;have hlu:=(elU hg).2;obtain⟨hcan,_⟩:=zJX o hbase;obtain⟨wu,au,ru,rfl,hru⟩:=hU;have hrul:=hru.1;refine zG (fun m vs h'=>∃k:Nat,k≤u.length∧m=u.length-k∧∃vO rows,vs=[.ptr σ.next 0,.fz wu au u.length ru,vO,.int .i64 k]∧Keep H h'∧PSl H.next 1 h' vO k rows∧All2 FI rows ((finS p W u).take k)) u.length ?_ ?_
  ·exact⟨0,by omega,by omega,_,[],rfl,zC H _,PSl.new _ 1 rfl (Nat.le_refl _),by simpa using All2.nil _⟩
  rintro m vs h' ⟨k,hk',rfl,vO,rows,rfl,hkp,ha,hrows⟩
  simp only [pwA,seval,-iQ0];refine iteI (fun hlt=>?_) fun hge=>?_
  ·obtain⟨w5,a5,hrk⟩:=hru.rowI hlt
   have hle:k+1≤u.length:=hlt;have hdrop:(ru.drop (k+1)).take (u.length-(k+1))=ru.drop (k+1):=List.take_of_length_le (by rw [List.length_drop];omega)
   have hb3':h'.rd σ.next 0 3=some [.int .i64 p,vP,vB]:=by rw [hkp.rd (by omega)];exact hb3
   simp only [pwA,seval,-iQ0,hlt,hrk,hb3',hle,hdrop,wrapS hlt (by omega:u.length≤4611686018427387904)]
   refine zA1 hR o (u:=u.drop (k+1)) ⟨false,pslA 1 au (k+1) u.length,_,by rw [List.length_drop],hru.drop _⟩ (fun v hv=>(elU hg).1 v (List.mem_of_mem_drop hv)) (by rw [List.length_drop];omega) (hbase.led _ (List.getElem_mem hlt)).1 rfl fun v1=>?_
   simp only [pwA,seval,-iQ0];refine PSl.push (bytes:=24) hkp ha (by omega) (by omega) fun vO' h2 k2 a2=>?_
   simp only [pwA,seval,-iQ0,wrapS hlt (by omega:u.length≤4611686018427387904)]
   refine⟨_,by omega,k+1,by omega,rfl,vO',_,rfl,k2,a2,?_⟩
   have hg2:=zHY (p:=p) (W:=W) u k hlt;have hl2:k<(finS p W u).length:=by rw [QS];exact hlt
   rw [List.take_succ_eq_append_getElem hl2];rw [List.getElem?_eq_getElem hl2]at hg2
   rw [Option.some.inj hg2];have hrl2:=(Zh o (u:=u.drop (k+1)) (fun v hv=>((elU hg).1 v (List.mem_of_mem_drop hv)).1) (hbase.led _ (List.getElem_mem hlt)).1).1
   exact hrows.snoc ⟨true,v1,by rw [hrl2]⟩
  ·have hie:k=u.length:=by omega
   subst hie;rw [List.take_of_length_le (by rw [QS];exact Nat.le_refl _)]at hrows
   obtain⟨s,cap,rfl,hc,q2,q3,q4,q5⟩:=ha;have hkk:=hk (finS p W u) rows cap (hg.done hcan) hrows (by rw [QS];exact hc)
   rw [QS]at hkk
   exact Gh.finS (hHk.trans hkp) q2 (by omega) (hrows.bI _) hkk
theorem zEk {gens:List (List Int)} (hR:IsR vP vB W B) (o:OkW p n W) (hp:isP p) (hL:FII vL gens) (he:Els p n gens) (hgl:gens.length≤1048576) (hk:∀v out,Canon p n W gens out→FII v out→K v σ):
  zA Tryz.prog 105 [.agg [.int .i64 p,vP,vB],vL] σ K:=by
 refine zA.gh (zL7 hR o hp hL he hgl fun out rows cap hc hr hcap=>?_)
 exact Gh.finF (s:=σ.next) (zC σ _) (by rw [zM,if_pos rfl]) (Nat.le_refl _) (hr.bI 0) hcap.ok fun o1=>hk _ out hc ⟨true,.sl o1 0 out.length cap,rows,rfl,hr⟩
end Go.Proofs
namespace Go.Proofs
open Go.Ab Go.Lie
variable {σ:PHeap} {K:PV→PHeap→Prop} {p p':Int} {n:Nat} {W:List (List Int)} {B:List (List (List Int))} {vP vB vL vU:PV} {s:Nat}
def euc (p a:Int):Nat→Int×Int×Int×Int
 | 0=>(p,a,0,1)
 | k+1=>let t:=euc p a k
  if t.2.1=0 then t else(t.2.1,t.1-t.1.tdiv t.2.1*t.2.1,t.2.2.2,t.2.2.1-t.1.tdiv t.2.1*t.2.2.2)
def eucOK (p a:Int) (k:Nat):Bool:=
 let t:=euc p a k
 decide (-7≤t.1∧t.1≤7∧-7≤t.2.1∧t.2.1≤7∧-7≤t.2.2.1∧t.2.2.1≤7∧-7≤t.2.2.2∧t.2.2.2≤7∧-7≤t.1.tdiv t.2.1∧t.1.tdiv t.2.1≤7∧-49≤t.1.tdiv t.2.1*t.2.1∧t.1.tdiv t.2.1*t.2.1≤49∧-49≤t.1.tdiv t.2.1*t.2.2.2∧t.1.tdiv t.2.1*t.2.2.2≤49∧(k=8→t.2.1=0)∧(t.2.1=0→a*(t.2.2.1 % p) % p=1 % p))
theorem zOn:∀p∈[2,3,5,7],∀a∈[1,2,3,4,5,6],(a:Int)<p→∀k∈[0,1,2,3,4,5,6,7,8],eucOK p a k=true:=by decide +kernel
theorem zPV {a:Int} (hp:isP p) (ha:0<a∧a<p) {k:Nat} (hk:k≤8):eucOK p a k=true:=by
 have hpb:=hp.bd;refine zOn p ?_ a ?_ ha.2 k ?_
 ·rcases hp with h | h | h | h<;>simp [h]
 ·have:a=1∨a=2∨a=3∨a=4∨a=5∨a=6:=by omega
  rcases this with h|h|h|h|h|h<;>simp [h]
 ·have:k=0∨k=1∨k=2∨k=3∨k=4∨k=5∨k=6∨k=7∨k=8:=by omega
  rcases this with h|h|h|h|h|h|h|h|h<;>simp [h]
theorem zCO {a:Int} (hp:isP p) (ha:0<a∧a<p) (hk:∀(x:Int) (b:Bool),0≤x→x<p→a*x % p=1→K (.tup [.int .i64 x,.bool b]) σ):zA Tryz.prog 203 [.int .i64 a,.int .i64 p] σ K:=by
 have hpb:=hp.bd;refine zD mix Tryz.func203 ?_
 conv=>arg 2;cbv
 refine zF rfl ?_;simp only [pwA,seval,-iQ0];refine zG (fun m vs h'=>∃k:Nat,k≤8∧m=8-k∧vs=[.int .i64 p,.int .i64 (euc p a k).1,.int .i64 (euc p a k).2.1,.int .i64 (euc p a k).2.2.1,.int .i64 (euc p a k).2.2.2]∧σ=h') 8 ?_ ?_
 ·exact⟨0,by omega,by omega,rfl,rfl⟩
 rintro m vs h' ⟨k,hk8,rfl,rfl,rfl⟩
 have hok:=zPV hp ha hk8;unfold eucOK at hok
 have hst:euc p a (k+1)=if (euc p a k).2.1=0 then euc p a k else((euc p a k).2.1,(euc p a k).1-(euc p a k).1.tdiv (euc p a k).2.1*(euc p a k).2.1,(euc p a k).2.2.2,(euc p a k).2.2.1-(euc p a k).1.tdiv (euc p a k).2.1*(euc p a k).2.2.2):=rfl
 generalize hT:euc p a k=T at *
 obtain⟨r,nx,x,y⟩:=T;dsimp only at hok hst ⊢
 simp only [decide_eq_true_eq]at hok
 obtain⟨b1,b2,b3,b4,b5,b6,b7,b8,b9,b10,b11,b12,b13,b14,b15,b16⟩:=hok
 by_cases h0:nx=0
 ·subst h0
  simp only [pwA,seval,-iQ0];refine zBv (by omega) (by omega) ?_
  simp only [pwA,seval,-iQ0];refine hk _ _ (Int.emod_nonneg _ (by omega)) (Int.emod_lt_of_pos _ (by omega)) ?_
  rw [b16 rfl];exact Int.emod_eq_of_lt (by omega) (by omega)
 ·rw [if_neg h0]at hst
  have hk9:k≠8:=fun e=>h0 (b15 e)
  simp only [pwA,seval,-iQ0,h0,wrap64 (n:=r.tdiv nx) (by omega) (by omega),wrap64 (n:=r.tdiv nx*nx) (by omega) (by omega),wrap64 (n:=r.tdiv nx*y) (by omega) (by omega),wrap64 (n:=r-r.tdiv nx*nx) (by omega) (by omega),wrap64 (n:=x-r.tdiv nx*y) (by omega) (by omega)]
  refine⟨_,by omega,k+1,by omega,rfl,?_⟩
  rw [hst]
theorem Qq {l:Nat} {w:Bool} {a:AV} {xs:List Int} (hl:l=xs.length) (hb:xs.length≤1048576) (hk:K (.int .i64 (dep xs)) σ):zA Tryz.prog 202 [.fz w a l (pis xs)] σ K:=by
 subst hl;refine zD mix Tryz.func202 ?_
 conv=>arg 2;cbv
 refine zF rfl ?_;simp only [pwA,seval,-iQ0];refine zG (fun m vs h'=>∃i:Nat,i≤dep xs∧m=dep xs-i∧vs=[.fz w a xs.length (pis xs),.fz w a xs.length (pis xs),.int .i64 xs.length,.int .i64 i]∧σ=h') (dep xs) ?_ ?_
 ·exact⟨0,by omega,by omega,rfl,rfl⟩
 rintro m vs h' ⟨i,hi,rfl,rfl,rfl⟩
 have hdl:=Zn xs
 by_cases hlt:i<xs.length
 ·by_cases h0:xs[i]=0
  ·have hid:i<dep xs:=by
    rcases Nat.lt_or_ge i (dep xs)with x|x
    ·exact x
    ·have:i=dep xs:=by omega
     subst this;exact absurd (by rw [at_eq hlt];exact h0) (qc hlt)
   simp only [pwA,seval,-iQ0,hlt,zU,gi hlt,h0,wrapS hlt (by omega:xs.length≤4611686018427387904)]
   exact⟨_,by omega,i+1,by omega,rfl,rfl⟩
  ·have hid:i=dep xs:=by
    rcases Nat.lt_or_ge i (dep xs)with x|x
    ·exact absurd (by rw [←at_eq hlt];exact zV x) h0
    ·omega
   subst hid;simp only [pwA,seval,-iQ0,hlt,zU,gi hlt,h0];exact hk
 ·have hid:i=dep xs:=by omega
  subst hid;simp only [pwA,seval,-iQ0,hlt];have hd:dep xs=xs.length:=by omega
  rw [hd]at hk
  exact hk
theorem zOM {x:Int} (hk:K (.bool (!decide (x=0))) σ):zA Tryz.prog 284 [.int .i64 x] σ K:=by
 refine zD mix Tryz.func284 ?_
 conv=>arg 2;cbv
 refine zF rfl ?_;simp only [pwA,seval,-iQ0];exact hk
theorem zPG:okF Tryz.prog 284=true:=by kernel_rfl
theorem zH2 {l:Nat} {w:Bool} {a:AV} {xs:List Int} (hl:l=xs.length) (hb:xs.length≤1048576) (hd:dep xs<xs.length) (hk:K (.int .i64 (dep xs)) σ):
  zA Tryz.prog 283 [.fz w a l (pis xs),.clo 284 [] []] σ K:=by
 subst hl;refine zD mix Tryz.func283 ?_
 conv=>arg 2;cbv
 refine zF rfl ?_;simp only [pwA,seval,-iQ0];refine zG (fun m vs h'=>∃i:Nat,i≤dep xs∧m=dep xs-i∧vs=[.fz w a xs.length (pis xs),.clo 284 [] [],.int .i64 xs.length,.int .i64 i]∧σ=h') (dep xs) ?_ ?_
 ·exact⟨0,by omega,by omega,rfl,rfl⟩
 rintro m vs h' ⟨i,hi,rfl,rfl,rfl⟩
 have hlt:i<xs.length:=by omega
 simp only [pwA,seval,-iQ0,hlt,zU,gi hlt];refine⟨zPG,zOM ?_⟩
 by_cases h0:xs[i]=0
 ·have hid:i<dep xs:=by
   rcases Nat.lt_or_ge i (dep xs)with x|x
   ·exact x
   ·have:i=dep xs:=by omega
    subst this;exact absurd (by rw [at_eq hlt];exact h0) (qc hlt)
  simp only [pwA,seval,-iQ0,h0,ne_eq,not_true,decide_false,wrapS hlt (by omega:xs.length≤4611686018427387904)]
  exact⟨_,by omega,i+1,by omega,rfl,rfl⟩
 ·have hid:i=dep xs:=by
   rcases Nat.lt_or_ge i (dep xs)with x|x
   ·exact absurd (by rw [←at_eq hlt];exact zV x) h0
   ·omega
  subst hid;simp only [pwA,seval,-iQ0,h0,ne_eq,not_false_iff,decide_true];exact hk
abbrev deps (u:List (List Int)):List Int:=u.map fun v=>(dep v:Int)
theorem zBD {u:List (List Int)} (hL:FII vU u) (hu:∀v∈u,dep v<v.length∧v.length≤1048576) (hul:u.length≤1048576) (hk:∀v,K (.fz true v u.length (pis (deps u))) σ):zA Tryz.prog 207 [vU] σ K:=by
 obtain⟨wl,al,rl,rfl,hrl⟩:=hL;refine zA.gh ?_;refine zD mix Tryz.func207 ?_
 conv=>arg 2;cbv
 refine zF rfl ?_;simp only [pwA,seval,-iQ0];refine zG (fun m vs h'=>∃(i:Nat) (v:PV),i≤u.length∧m=u.length-i∧vs=[v,.fz wl al u.length rl,.int .i64 u.length,.int .i64 i]∧Keep σ h'∧PAcc σ.next 1 h' v i (pis (deps (u.take i)))) u.length ?_ ?_
 ·exact⟨0,_,by omega,by omega,rfl,Keep.refl σ,PAcc.nil _ _ _⟩
 rintro m vs h' ⟨i,v,hi,rfl,rfl,hkp,ha⟩
 simp only [pwA,seval,-iQ0];refine iteI (fun hlt=>?_) fun hge=>?_
 ·obtain⟨w4,a4,hr⟩:=hrl.rowI hlt
  have hui:=hu _ (List.getElem_mem hlt);simp only [pwA,seval,-iQ0,hlt,hr];refine zH2 rfl hui.2 hui.1 ?_;simp only [pwA,seval,-iQ0];refine PAcc.push (bytes:=8) hkp ha (by omega) (by omega) fun v' h2 k2 a2=>?_
  simp only [pwA,seval,-iQ0,wrapS hlt (by omega:u.length≤4611686018427387904)]
  refine⟨_,by omega,i+1,v',by omega,rfl,rfl,k2,?_⟩
  have e:pis (deps (u.take (i+1)))=pis (deps (u.take i))++[.int .i64 (dep u[i])]:=by rw [List.take_succ_eq_append_getElem hlt,deps,List.map_append,←zB1];rfl
  rw [e];exact a2.acc
 ·have hie:i=u.length:=by omega
  subst hie;rw [List.take_length]at ha
  exact ha.fin hkp (zN _ _) hk
theorem zJl (o:OkW p n W) {y v:List Int} (hy:El p n y) (hv:El p n v) (c:Int):ladd p W y (lmul p W c v)=norm p W (lmix 1 y c v):=by
 have hm:(lmix c v 0 v).length=n:=by rw [zQ rfl];exact hv.1
 have hz:El p n (lmul p W c v):=zAi o hm;refine zEe o (by rw [zQ (hy.1.trans hz.1.symm)];exact hy.1) (by rw [zQ (hy.1.trans hv.1.symm)];exact hy.1) ?_
 have h1:Eqv p n W (fun j=>at_ y j+at_ (lmul p W c v) j) (fun j=>at_ y j+at_ (lmix c v 0 v) j):=(Eqv.refl _).add (qO o hm)
 refine((Eqv.of_eq fun j=>?_).trans h1).trans (Eqv.of_eq fun j=>?_)
 ·rw [zm (hy.1.trans hz.1.symm)];omega
 ·rw [zm (hy.1.trans hv.1.symm),zm rfl];omega
theorem zAs {l:Nat} {w:Bool} {a:AV} {u:List (List Int)} {x:List Int} (hs:PtrR σ s p vP vB) (hP:FII vP W) (o:OkW p n W) (hL:FII vU u) (hu:∀v∈u,El p n v∧dep v<n) (hul:u.length≤1048576) (hx:El p n x) (hl:l=x.length)
  (hk:∀v,K (.fz true v n (pis (redL p W u x))) σ):zA Tryz.prog 118 [.ptr s 0,vU,.fz w a l (pis x)] σ K:=by
 have hn6:=o.le;have hp:=o.pr;unfold okp at hp
 refine zD mix Tryz.func118 ?_
 conv=>arg 2;cbv
 refine zF rfl ?_;simp only [pwA,seval,-iQ0];refine zA.fzN hx.1 (fun K'=>Zf hl (by rw [hx.1];omega)) fun v0=>?_
 simp only [pwA,seval,-iQ0];refine zBD hL (fun v hv=>⟨by rw [(hu v hv).1.1];exact(hu v hv).2,by rw [(hu v hv).1.1];omega⟩) hul fun vp=>?_
 obtain⟨wl,al,rl,rfl,hrl⟩:=hL;simp only [pwA,seval,-iQ0];refine zG (fun m vs h'=>∃i:Nat,i≤u.length∧m=u.length-i∧∃v,vs=[.ptr s 0,.fz wl al u.length rl,.fz true v n (pis (redL p W (u.take i) x)),.fz true vp u.length (pis (deps u)),.int .i64 u.length,.int .i64 i]∧σ=h') u.length ?_ ?_
 ·exact⟨0,by omega,by omega,v0,by rw [List.take_zero,redL];rfl,rfl⟩
 rintro m vs h' ⟨i,hi,rfl,v,rfl,rfl⟩
 simp only [pwA,seval,-iQ0];have hel:El p n (redL p W (u.take i) x):=Zh o (fun v hv=>(hu v (List.mem_of_mem_take hv)).1) hx
 refine iteI (fun hlt=>?_) fun hge=>?_
 ·obtain⟨w4,a4,hr⟩:=hrl.rowI hlt
  have hui:=hu _ (List.getElem_mem hlt);have hstep:redL p W (u.take (i+1)) x=red1 p W (redL p W (u.take i) x) u[i]:=by rw [List.take_succ_eq_append_getElem hlt,zFs]
  generalize hy:redL p W (u.take i) x=y at *
  have hdl:dep u[i] < y.length:=by rw [hel.1];exact hui.2
  have hya:=hel.at o.pr (dep u[i]);rw [at_eq hdl]at hya
  have hneg:IntKind.i64.wrap (0-y[dep u[i]])=-y[dep u[i]]:=by rw [wrap64 (by omega) (by omega)];omega
  have hpd:(deps u)[i]? = some (dep u[i]:Int):=by simp [deps,hlt]
  simp only [pwA,seval,-iQ0,hlt,hr,hui.2,zU,hpd,gi hdl,hneg];refine Z8 hs hP o hui.1 rfl (by omega) fun v1=>?_
  simp only [pwA,seval,-iQ0];refine Qk hs hP o hel (zJ o hui.1 hui.1) hel.1.symm (zJ o hui.1 hui.1).1.symm fun v2=>?_
  simp only [pwA,seval,-iQ0,wrapS hlt (by omega:u.length≤4611686018427387904)]
  refine⟨_,by omega,i+1,by omega,rfl,v2,?_⟩
  rw [hstep,red1,at_eq hdl,←zJl o hel hui.1]
 ·have hie:i=u.length:=by omega
  subst hie;rw [List.take_length];exact hk v
end Go.Proofs
namespace Go.Proofs
open Go.Ab Go.Lie
variable {σ:PHeap} {K:PV→PHeap→Prop} {p p':Int} {n:Nat} {W:List (List Int)} {B:List (List (List Int))} {vP vB vL vU:PV} {s:Nat}
def PQ (b:Nat) (h:PHeap) (v:PV) (m:Nat) (cs:List PV):Prop:=
 (v=.fz true .nils 0 []∧m=0∧cs=[])∨∃s off cap row,v=.sl s off m cap∧full 1 cap m∧h.obj s=some row∧(row.drop off).take m=cs∧off+m≤row.length∧b≤s∧s<h.next
theorem PQ.of {b m:Nat} {h:PHeap} {v:PV} {cs:List PV} (a:PAcc b 1 h v m cs):PQ b h v m cs:=by
 rcases a with a|⟨s,cap,rfl,h1,h2,h3,h4,h5⟩
 ·exact .inl a
 ·exact .inr ⟨s,0,cap,cs,rfl,h1,h2,by rw [List.drop_zero,List.take_of_length_le (by omega)],by omega,h4,h5⟩
theorem PQ.set {b m t:Nat} {h:PHeap} {v:PV} {cs:List PV} (a:PQ b h v m cs) (ht:t<b) (ds:List PV):PQ b (h.set t ds) v m cs:=by
 rcases a with a|⟨s,off,cap,row,rfl,h1,h2,h3,h4,h5,h6⟩
 ·exact .inl a
 ·exact .inr ⟨s,off,cap,row,rfl,h1,by rw [zH,if_neg (by omega)];exact h2,h3,h4,h5,h6⟩
theorem PQ.pLen {b m:Nat} {h:PHeap} {v:PV} {cs:List PV} (a:PQ b h v m cs):pLen v=some (.int .i64 m):=by
 rcases a with ⟨rfl,rfl,_⟩|⟨s,off,cap,row,rfl,_⟩<;>rfl
theorem PQ.uncons {b m:Nat} {h:PHeap} {v c:PV} {cs:List PV} (a:PQ b h v m (c::cs)):∃s off cap v',v=.sl s off m cap∧h.rd1 s off=some c∧0<m∧ZQ 1 v (some (.int .i64 1)) none none=some v'∧PQ b h v' (m-1) cs:=by
 rcases a with ⟨_,_,e⟩|⟨s,off,cap,row,rfl,h1,h2,h3,h4,h5,h6⟩
 ·cases e
 ·have hm:0<m:=by
   rcases Nat.eq_zero_or_pos m with x|x
   ·subst x;cases h3
   ·exact x
  have e2:row.drop off=c::row.drop (off+1):=by
   have hlt:off<row.length:=by omega
   rw [List.drop_eq_getElem_cons hlt]at h3 ⊢
   obtain⟨m',rfl⟩:∃m',m=m'+1:=⟨m-1,by omega⟩
   rw [List.take_succ_cons]at h3
   cases h3;rfl
  have e3:(row.drop (off+1)).take (m-1)=cs:=by
   rw [e2]at h3
   obtain⟨m',rfl⟩:∃m',m=m'+1:=⟨m-1,by omega⟩
   rw [List.take_succ_cons]at h3
   cases h3;rfl
  have e4:row[off]? = some c:=by
   have hlt:off<row.length:=by omega
   rw [List.drop_eq_getElem_cons hlt]at e2
   rw [List.getElem?_eq_getElem hlt];cases e2;rfl
  have hz:(1:Int)≤(m:Int):=by omega
  rcases h1 with rfl|rfl
  ·refine⟨s,off,_,.sl s (off+1) (m-1) (.grown 1),rfl,by rw [zI h2];exact e4,hm,?_,.inr ⟨s,off+1,_,row,rfl,.inl rfl,h2,e3,by omega,h5,h6⟩⟩
   simp only [pwA,seval,-iQ0,hm,hz]
  ·by_cases h10:m=1
   ·subst h10
    refine⟨s,off,_,.sl s off 0 (.known 0),rfl,by rw [zI h2];exact e4,hm,?_,.inr ⟨s,off,_,row,rfl,.inr rfl,h2,by simpa using e3,by omega,h5,h6⟩⟩
    rfl
   ·refine⟨s,off,_,.sl s (off+1) (m-1) (.known (m-1)),rfl,by rw [zI h2];exact e4,hm,?_,.inr ⟨s,off+1,_,row,rfl,.inr rfl,h2,e3,by omega,h5,h6⟩⟩
    simp only [pwA,seval,-iQ0,hm,hz,h10]
    rfl
theorem PQ.push {σb h:PHeap} {bytes m:Nat} {v x:PV} {cs:List PV} {K:PV×PHeap→Prop} (hk:Keep σb h) (a:PQ σb.next h v m cs)
  (h1:(m+1)*bytes≤140737488355328) (h2:m+1≤4611686018427387904) (k:∀v' h',Keep σb h'→PQ σb.next h' v' (m+1) (cs++[x])→K (v',h')):optK (qW 1 bytes (h.new [x]) v (.sl h.next 0 1 (.known 1))) K:=by
 rcases a with ⟨rfl,rfl,rfl⟩|⟨s,off,cap,row,rfl,q1,q2,q3,q4,q5,q6⟩
 ·exact PAcc.push hk (PAcc.nil _ _ _) h1 h2 fun v' h' k1 k2=>k v' h' k1 (.of k2.acc)
 ·rw [Qn]
  have hp:Zj 1 (h.new [x]) (.sl h.next 0 1 (.known 1)) 1=some [x]:=by simp [Qd,Qz]
  have hobj:(h.new [x]).obj s=some row:=by simp only [PHeap.new];rw [if_neg (by omega)];exact q2
  have hn:=hk.next;simp only [plen,Option.bind_some];rw [if_neg (by omega),hp]
  simp only [Option.bind_some];have hl:cs.length=m:=by rw [←q3,List.length_take,List.length_drop];omega
  rcases q1 with rfl|rfl
  ·rw [zAD,if_pos ⟨h1,h2,rfl⟩,hobj]
   simp only [Option.bind_some];rw [if_pos (by omega),Nat.mul_one,q3]
   refine ZF rfl (k _ _ (((hk.new _).kill (by omega)).new _) (.inr ⟨(h.new [x]).next,0,_,cs++[x],rfl,.inl rfl,by simp [PHeap.new,PHeap.kill],?_,by simp [hl],by simp [PHeap.new];omega,by simp [PHeap.new,PHeap.kill]⟩))
   rw [List.drop_zero,List.take_of_length_le (by simp [hl])]
  ·rw [zAC,if_neg (by omega),if_pos ⟨h1,h2⟩,zi hobj,if_pos (by omega),Nat.mul_one,q3]
   simp only [Option.map_some];refine ZF rfl (k _ _ ((hk.new _).new _) (.inr ⟨(h.new [x]).next,0,_,cs++[x],rfl,.inl rfl,by simp [PHeap.new],?_,by simp [hl],by simp [PHeap.new];omega,by simp [PHeap.new]⟩))
   rw [List.drop_zero,List.take_of_length_le (by simp [hl])]
theorem zMb {w:Bool} {a:AV} {m:Nat} {rows:List PV} (hl:rows.length=m) (hb:Bels 0 rows) (hm:m≤1048576) (hk0:rows=[]→K (.fz true .nils 0 []) σ) (hk1:∀cap,full 1 cap m→K (.sl σ.next 0 m cap) (σ.new rows)):
  zA Tryz.prog 201 [.fz w a m rows] σ K:=by
 refine zA.nil0 fun hnil=>zA.gh ?_
 refine zD mix Tryz.func201 ?_
 conv=>arg 2;cbv
 refine zF rfl ?_;simp only [pwA,seval,-iQ0];cases hn:ZJ a
 ·simp only [pwA,seval,-iQ0]
  refine PSl.cat (bytes:=24) (σb:=σ) (n:=0) (cs:=[]) (zC σ _) (PSl.new _ 1 rfl (Nat.le_refl _)) hl (by omega) (by omega) fun v' h' hk' ha=>?_
  simp only [pwA,seval,-iQ0]at ha ⊢
  exact ha.out hk' (hb.up (Nat.zero_le _)) hk1
 ·simp only [pwA,seval,-iQ0]
  exact Gh.ret (hk0 (hnil hn).2)
theorem zH4 {w:Bool} {a:AV} {m:Nat} {rows:List PV} (hl:rows.length=m) (hb:Bels 0 rows) (hm:m≤1048576) (hk:∀v h',Keep σ h'→PQ σ.next h' v m rows→K v h'):
  zA Tryz.prog 201 [.fz w a m rows] σ K:=
 zMb hl hb hm (fun h0=>hk _ _ (Keep.refl _) (.inl ⟨rfl,by rw [←hl,h0];rfl,h0⟩)) fun cap hc=>hk _ _ (zC _ _) (.of (.inr (PSl.own hc (by simp [PHeap.new]) (by omega) (Nat.le_refl _) (by simp [PHeap.new]))))
theorem zH5 {l:Nat} {w:Bool} {av:AV} {k:Int} {a:List Int} (hs:PtrR σ s p vP vB) (hP:FII vP W) (o:OkW p n W) (ha:El p n a) (hl:l=a.length) (hkb:-1000000000≤k∧k≤1000000000) (hn:0<n)
  (hk:∀o cap,K (.fz true (.sl o 0 n cap) n (pis (lmul p W k a))) σ):zA Tryz.prog 191 [.ptr s 0,.int .i64 k,.fz w av l (pis a)] σ K:=by
 have hlen:=(zJ o ha ha (k:=k) (m:=0)).1;refine zA.gh (zBP hs hP o ha hl hkb ⟨fun h0=>?_,fun cap hc=>?_⟩)
 ·exact absurd hlen (by rw [h0];simp;omega)
 ·rw [hlen]at hc ⊢
  exact Gh.finF (zC σ _) (by simp [PHeap.new]) (Nat.le_refl _) (zN _ _) hc.ok fun o=>hk o cap
theorem PtrR.keep {h:PHeap} (hs:PtrR σ s p vP vB) (hk:Keep σ h):PtrR h s p vP vB:=⟨by rw [hk.obj s hs.lt];exact hs.obj,Nat.lt_of_lt_of_le hs.lt hk.next⟩
def BRow (n:Nat) (u:List (List Int)) (d:Nat) (v:PV):Prop:=
 (v=.fz true .nils 0 []∧∀y∈u,dep y≠d)∨∃o cap y,v=.fz true (.sl o 0 n cap) n (pis y)∧y∈u∧dep y=d
def BRows (n:Nat) (u:List (List Int)) (rb:List PV):Prop:=rb.length=n∧∀d (h:d<rb.length),BRow n u d rb[d]
theorem BRows.take {u:List (List Int)} {rb:List PV} {o d:Nat} {cap:Cap} {y:List Int} (h:BRows n u rb) (hd:d<n) (hy:dep y=d):BRows n (insD u y) (rb.set d (.fz true (.sl o 0 n cap) n (pis y))):=by
 refine⟨by rw [List.length_set];exact h.1,fun e he=>?_⟩
 rw [List.length_set]at he
 rw [List.getElem_set]
 by_cases x:d=e
 ·subst x
  rw [if_pos rfl];exact .inr ⟨o,cap,y,rfl,ZG.2 (.inl rfl),hy⟩
 ·rw [if_neg x]
  rcases h.2 e he with ⟨h1,h2⟩|⟨o',c',y',h1,h2,h3⟩
  ·exact .inl ⟨h1,fun v hv=>by
    rcases ZG.1 hv with rfl|hv
    ·omega
    ·exact h2 v hv⟩
  ·exact .inr ⟨o',c',y',h1,ZG.2 (.inr h2),h3⟩
theorem Fp_le {u:List (List Int)} {k:Nat} (ha:Asc u):(∃y∈u,dep y=k)→∃y∈u,dep y=k∧Fp u k=y::Fp u (k+1):=by
 induction u with
 | nil=>rintro ⟨y,hy,_⟩;cases hy
 | cons v t ih=>
  have ht:∀w∈t,dep v<dep w:=fun w hw=>List.rel_of_pairwise_cons ha hw
  have hta:Asc t:=(List.pairwise_cons.1 ha).2
  rintro ⟨y,hy,rfl⟩
  rcases List.mem_cons.1 hy with rfl|hy
  ·refine⟨y,by simp,rfl,?_⟩
   have e1:Fp t (dep y)=t:=zDB fun w hw=>Nat.le_of_lt (ht w hw)
   have e2:Fp t (dep y+1)=t:=zDB fun w hw=>ht w hw
   rw [Fp,List.filter_cons,if_pos (by simp)]
   rw [show(List.filter (fun v=>decide (dep y≤dep v)) t)=t from e1]
   rw [Fp,List.filter_cons,if_neg (by simp)]
   rw [show(List.filter (fun v=>decide (dep y+1≤dep v)) t)=t from e2]
  ·obtain⟨y',h1,h2,h3⟩:=ih hta ⟨y,hy,rfl⟩
   have:=ht y hy
   refine⟨y',List.mem_cons_of_mem _ h1,h2,?_⟩;rw [Fp,List.filter_cons,if_neg (by simp;omega)]
   rw [Fp,List.filter_cons,if_neg (by simp;omega)]
   exact h3
theorem zOx {u:List (List Int)} {k:Nat} (h:∀y∈u,dep y≠k):Fp u k=Fp u (k+1):=List.filter_congr fun v hv=>by
 have:=h v hv
 simp only [decide_eq_decide];omega
theorem zJh:∀{u:List (List Int)} {k:Nat},Base p n W u→Base p n W (Fp u k)
 | [],k,h=>h
 | v::t,k,h=>by
  by_cases x:k≤dep v
  ·have e:Fp (v::t) k=v::t:=zDB fun w hw=>by
    rcases List.mem_cons.1 hw with rfl|hw
    ·exact x
    ·have:=List.rel_of_pairwise_cons h.asc hw
     omega
   rw [e];exact h
  ·rw [Fp,List.filter_cons,if_neg (by simpa using x)]
   cases h with
   | cons _ _ _ h4=>exact zJh (by assumption)
theorem _root_.Go.Lie.Base.fp' {u:List (List Int)} {k:Nat} (h:Base p n W u):Base p n W (Fp u k):=zJh h
end Go.Proofs
namespace Go.Proofs
open Go.Ab Go.Lie
variable {σ:PHeap} {K:PV→PHeap→Prop} {p p':Int} {n:Nat} {W:List (List Int)} {B:List (List (List Int))} {vP vB vL vU:PV} {s:Nat}
theorem zB7 {gens:List (List Int)} (hs:PtrR σ s p vP vB) (hP:FII vP W) (o:OkW p n W) (hp:isP p) (hL:FII vL gens) (he:Els p n gens) (hgl:gens.length≤1048576) (hk:∀v out,Canon p n W gens out→FII v out→K v σ):
  zA Tryz.prog 109 [.ptr s 0,vL] σ K:=by
 have hn6:=o.le;have hpb:=hp.bd;have hpk:-1000000000≤p∧p≤1000000000:=by omega
 have hWn:=o.len;obtain⟨wl,al,rl,rfl,hrl⟩:=hL;have hP':=hP;obtain⟨wp,ap,rp,rfl,hrp⟩:=hP;have hsl:=hs.lt;have hP1:σ.rd1 s 1=some (.fz wp ap W.length rp):=by rw [zI hs.obj];rfl
 refine zA.gh ?_;refine zL mix Tryz.func109 cf109 rfl ?_;dsimp only [if109,qI,eI,nI,qD,eD,mI0,lI0,fI0,xI0,bI0,cI0,sI0,pI0,C1,C3,mD0,lD0,fD0,xD0,pD0,R0,S0];simp only [pwA,seval,-iQ0,hP1,hWn,mk24 (n:=n) (by omega),mkL (n:=n) (by omega)]
 have elU:∀{u Q:List (List Int)},Grow p n W gens u Q→(∀v∈u,El p n v∧dep v<n)∧u.length≤n:=fun g=>⟨fun v hv=>⟨(g.led v hv).1,(g.led v hv).2.1⟩,Z5 (fun v hv=>(g.led v hv).2.1) g.asc⟩
 refine zH4 hrl.1 (hrl.bI 0) hgl fun vQ h1 k1 q1=>?_
 simp only [pwA,seval,-iQ0];refine zG (fun m vs h'=>∃u Q vQ rb rq,m=2*(n-u.length)+Q.length∧vs=[.ptr s 0,.sl σ.next 0 n (.known n),vQ]∧Keep (σ.new rb) h'∧PQ (σ.next+1) h' vQ Q.length rq∧All2 FI rq Q∧Grow p n W gens u Q∧BRows n u rb∧Q.length≤gens.length) (2*n+gens.length) ?_ ?_
 ·refine⟨[],gens,vQ,_,rl,rfl,rfl,k1,q1,hrl,Grow.start he,⟨by simp,fun d hd=>.inl ⟨by simp,fun y hy=>by cases hy⟩⟩,Nat.le_refl _⟩
 rintro m vs h' ⟨u,Q,vQ,rb,rq,rfl,rfl,hkp,hq,hrq,hg,hb,hQl⟩
 have hk0:Keep σ h':=hkp.of;have hs':=hs.keep hk0;have hp0:h'.rd1 s 0=some (.int .i64 p):=by rw [zI hs'.obj];rfl
 have hobj:h'.obj σ.next=some rb:=by rw [hkp.obj _ (by simp [PHeap.new])];simp [PHeap.new]
 cases Q with
 | nil=>
  have hlen:pLen vQ=some (.int .i64 0):=hq.pLen;have hw:IntKind.i64.wrap ((n:Int)-1)=(n:Int)-1:=wrap64 (by omega) (by omega)
  have hbase:=hg.base;have hFn:Fp u n=[]:=List.filter_eq_nil_iff.2 fun v hv=>by have:=((elU hg).1 v hv).2;simp;omega
  simp only [pwA,seval,-iQ0,hlen,hw];refine Zc (fun m vs h2=>∃(k:Nat) (vO:PV),k≤n∧m=k∧vs=[.ptr s 0,.sl σ.next 0 n (.known n),vO,.int .i64 ((k:Int)-1)]∧Keep (σ.new rb) h2∧FII vO (finI p W (Fp u k))) n (.here ⟨n,_,Nat.le_refl _,rfl,rfl,hkp,by rw [hFn];exact⟨_,_,_,rfl,All2.nil _⟩⟩) ?_
  rintro m vs h2 ⟨k,vO,hkn,rfl,rfl,hk2,hO⟩
  have hk02:Keep σ h2:=hk2.of;have hs2:=hs.keep hk02;have hobj2:h2.obj σ.next=some rb:=by rw [hk2.obj _ (by simp [PHeap.new])];simp [PHeap.new]
  rcases Nat.eq_zero_or_pos m with rfl|hmp
  ·simp only [pwA,seval,-iQ0,show ¬((0:Int)≤((0:Nat):Int)-1) by omega]
   have hF0:Fp u 0=u:=zDB fun v hv=>Nat.zero_le _
   rw [hF0]at hO
   exact Gh.fin0 hk02 (hO.bel _) (hk vO _ (hg.done (zFd o hbase).1) hO)
  ·obtain⟨k,rfl⟩:∃k,m=k+1:=⟨m-1,by omega⟩
   have e:((k+1:Nat):Int)-1=(k:Int):=by omega
   have hkn':k<n:=hkn;have hkl:k<rb.length:=by rw [hb.1];exact hkn'
   have hrd:=zI hobj2 k;rw [List.getElem?_eq_getElem hkl]at hrd
   have hbs:=hbase.fp' (k:=k+1);rw [e];have hw2:IntKind.i64.wrap ((k:Int)-1)=(k:Int)-1:=wrap64 (by omega) (by omega)
   rcases hb.2 k hkl with ⟨e1,e2⟩|⟨oo,cap,y,e1,e2,e3⟩
   ·rw [e1]at hrd
    simp only [pwA,seval,-iQ0,hkn',hrd,hw2];refine⟨_,Nat.lt_succ_self k,.here ⟨k,vO,by omega,rfl,rfl,hk2,?_⟩⟩
    rw [zOx e2];exact hO
   ·rw [e1]at hrd
    obtain⟨y',y1,y2,y3⟩:=Fp_le hg.asc ⟨y,e2,e3⟩;obtain rfl:y'=y:=by
     rcases zAz hg.asc y1 e2 with x|x|x
     ·exact x
     ·omega
     ·omega
    simp only [pwA,seval,-iQ0,hkn',hrd,hw2];have hF:=(zFd o hbs).1;have hLl:(finI p W (Fp u (k+1))).length≤n:=Z5 (fun v hv=>(hF.base.led v hv).2.1) hF.base.asc
    have hy:=((elU hg).1 y' e2).1;refine zAs hs2 hP' o hO (fun v hv=>⟨(hF.base.led v hv).1,(hF.base.led v hv).2.1⟩) (by omega) hy hy.1.symm fun v1=>?_
    have hrl:=(Zh o (u:=finI p W (Fp u (k+1))) (fun v hv=>(hF.base.led v hv).1) hy).1
    have hFk:finI p W (Fp u k)=redL p W (finI p W (Fp u (k+1))) y'::finI p W (Fp u (k+1)):=by rw [y3];rfl
    generalize finI p W (Fp u (k+1))=L at *
    generalize redL p W L y'=z at *
    obtain⟨wO,aO,rO,rfl,hrO⟩:=hO;simp only [pwA,seval,-iQ0];refine PSl.cat (bytes:=24) (σb:=h2) (n:=1) (cs:=[.fz true v1 n (pis z)]) (zC h2 _) (PSl.new _ 1 rfl (Nat.le_refl _)) hrO.1 (by omega) (by omega) fun v3 h3 k3 a3=>?_
    obtain⟨s3,cap3,rfl,hc3,ho3,hl3,hge3,hlt3⟩:=a3;have hall:All2 FI ([.fz true v1 n (pis z)]++rO) (z::L):=(All2.nil FI |>.snoc (⟨true,v1,by rw [hrl]⟩:FI (.fz true v1 n (pis z)) z)).append hrO
    have hne:σ.next≠s3:=by
     have:=hk2.next
     simp only [PHeap.new]at this
     omega
    simp only [pwA,seval,-iQ0,hw2];refine⟨k,Nat.lt_succ_self k,.fz s3 _ ho3 (hall.bI 0) fun o1=>.here ⟨k,.fz true (.sl o1 0 (1+L.length) cap3) (1+L.length) ([.fz true v1 n (pis z)]++rO),by omega,rfl,?_,(hk2.trans k3).kill (by have:=hk2.next;simp only [PHeap.new]at this ⊢;omega),by rw [hFk];exact⟨true,_,_,by rw [List.length_cons,Nat.add_comm],hall⟩⟩⟩
    simp only [pwA,seval,-iQ0];simp only [sbs,sb,hne,hc3.ok,false_and,and_self,if_true,if_false]
 | cons x Q=>
  have hlen:=hq.pLen;obtain⟨c,rq',rfl,hc,hrq'⟩:∃c rq',rq=c::rq'∧FI c x∧All2 FI rq' Q:=by
   cases rq with
   | nil=>exact absurd hrq.1 (by simp)
   | cons c rq'=>exact⟨c,rq',rfl,hrq.2 0 c x rfl rfl,⟨by simpa using hrq.1,fun k a b ha hb=>hrq.2 (k+1) a b (by simpa using ha) (by simpa using hb)⟩⟩
  obtain⟨sq,off,cap,vQ',rfl,hrd,hpos,hsl',hq'⟩:=hq.uncons;obtain⟨w4,a4,rfl⟩:=hc;generalize hkl:(x::Q).length=k at *
  have hQk:Q.length=k-1:=by rw [←hkl];simp
  have hposI:(0:Int)<(k:Int):=by omega
  have hx:=hg.els x (by simp)
  simp only [pwA,seval,-iQ0,hlen,hposI,hpos,hrd,hsl'];refine Qq rfl (by rw [hx.1];omega) ?_
  simp only [pwA,seval,-iQ0];refine zG (fun m vs h2=>∃x wX vX,m=n-dep x∧vs=[.ptr s 0,.sl σ.next 0 n (.known n),vQ',.fz wX vX n (pis x),.int .i64 (dep x)]∧h'=h2∧Grow p n W gens u (x::Q)) (n-dep x) ?_ ?_
  ·exact⟨x,_,_,rfl,by rw [hx.1];rfl,rfl,hg⟩
  clear hg hx hlen hkl
  rintro m vs h2 ⟨x,wX,vX,rfl,rfl,rfl,hg⟩
  have hx:=hg.els x (by simp)
  have hxl:=hx.1;have hdle:=Zn x
  by_cases hd:dep x<n
  ·have hdx:dep x<x.length:=by omega
   have hxd:=hx.at0 o (dep x);have hne:=qc hdx;rw [at_eq hdx]at hxd hne
   have hdb:dep x<rb.length:=by rw [hb.1];exact hd
   have hrd2:=zI hobj (dep x);rw [List.getElem?_eq_getElem hdb]at hrd2
   rcases hb.2 _ hdb with ⟨e1,e2⟩|⟨oo,cap2,y,e1,e2,e3⟩
   ·rw [e1]at hrd2
    have hdn:((dep x:Int)=(n:Int))=False:=by simp;omega
    simp only [pwA,seval,-iQ0,hd,hrd2,hdn,hp0,zU,gi hdx];refine zCO hp (by omega) fun q qb hq1 hq2 hq3=>?_
    simp only [pwA,seval,-iQ0,hd,hrd2,hp0,zU,gi hdx];refine zH5 hs' hP' o hx hxl.symm (by omega) (by omega) fun oz capz=>?_
    have hT:Grow p n W gens (insD u (lmul p W q x)) (lmul p W p (lmul p W q x)::Q):=hg.take o hd e2 (k:=q) (by rw [at_eq hdx];exact hq3)
    obtain⟨y1,y2⟩:Led p n (lmul p W q x)∧dep (lmul p W q x)=dep x:=⟨(zA8 o hx hd (k:=q) (by rw [at_eq hdx];exact hq3)).1,(zA8 o hx hd (k:=q) (by rw [at_eq hdx];exact hq3)).2.1⟩
    have hb2:=hb.take (o:=oz) (cap:=capz) hd y2;generalize lmul p W q x=y at *
    have hy:=y1.1;have hwr:h'.wr σ.next (dep x) [.fz true (.sl oz 0 n capz) n (pis y)]=some (h'.set σ.next (rb.set (dep x) (.fz true (.sl oz 0 n capz) n (pis y)))):=by
     rw [zn hobj,if_pos ⟨by rw [List.length_singleton];omega,rfl⟩]
     rw [List.append_assoc,List.singleton_append,List.length_singleton,take_set _ hdb]
    have hk3:Keep (σ.new (rb.set (dep x) (.fz true (.sl oz 0 n capz) n (pis y)))) (h'.set σ.next (rb.set (dep x) (.fz true (.sl oz 0 n capz) n (pis y)))):=hkp.setN _;have hq3':=hq'.set (Nat.lt_succ_self _) (rb.set (dep x) (.fz true (.sl oz 0 n capz) n (pis y)));have hrd3:(h'.set σ.next (rb.set (dep x) (.fz true (.sl oz 0 n capz) n (pis y)))).rd1 σ.next (dep x)=some (.fz true (.sl oz 0 n capz) n (pis y)):=by
     rw [zI (by rw [zH,if_pos rfl]),List.getElem?_set_self hdb]
    have hs3:=hs'.set (by omega) (rb.set (dep x) (.fz true (.sl oz 0 n capz) n (pis y))) (t:=σ.next)
    have hp3:(h'.set σ.next (rb.set (dep x) (.fz true (.sl oz 0 n capz) n (pis y)))).rd1 s 0=some (.int .i64 p):=by rw [zI hs3.obj];rfl
    have hset:(rb.set (dep x) (.fz true (.sl oz 0 n capz) n (pis y)))[dep x]? = some (.fz true (.sl oz 0 n capz) n (pis y)):=List.getElem?_set_self hdb;simp only [pwA,seval,-iQ0,hd,hwr,Nat.ne_of_lt hsl,hp0,hset];generalize h'.set σ.next (rb.set (dep x) (.fz true (.sl oz 0 n capz) n (pis y)))=h3 at *
    generalize rb.set (dep x) (.fz true (.sl oz 0 n capz) n (pis y))=rb' at *
    refine Z8 hs3 hP' o hy hy.1.symm (by omega) fun v2=>?_
    have hz:El p n (lmul p W p y):=(Zl o hy p).1;generalize lmul p W p y=z at *
    simp only [pwA,seval,-iQ0];refine PQ.push (bytes:=24) (σb:=σ.new rb') hk3 hq3' (by omega) (by omega) fun v4 h4 k4 q4=>?_
    simp only [pwA,seval,-iQ0];have hul:=(elU hT).2;rw [Z9]at hul
    refine⟨_,?_,insD u y,Q++[z],v4,rb',rq'++[.fz true v2 n (pis z)],rfl,rfl,k4,?_,hrq'.append (All2.nil FI |>.snoc ⟨true,v2,by rw [hz.1]⟩),hT.perm fun v=>by simp [or_comm],hb2,by rw [List.length_append,List.length_singleton];omega⟩
    ·rw [Z9,List.length_append,List.length_singleton];omega
    ·rw [List.length_append,List.length_singleton,hQk]
     exact q4
   ·rw [e1]at hrd2
    have hy:=((elU hg).1 y e2).1;have hneg:IntKind.i64.wrap (0-x[dep x])=-x[dep x]:=by rw [wrap64 (by omega) (by omega)];omega
    simp only [pwA,seval,-iQ0,hd,hrd2,zU,gi hdx,hneg];refine Z8 hs' hP' o hy hy.1.symm (by omega) fun v1=>?_
    simp only [pwA,seval,-iQ0];refine Qk hs' hP' o hx (zJ o hy hy) hxl.symm (zJ o hy hy).1.symm fun v2=>?_
    obtain⟨g2,g3⟩:=hg.reduce1 o e2 e3;have hr1:ladd p W x (lmul p W (-x[dep x]) y)=red1 p W x y:=by rw [zJl o hx hy,red1,e3,at_eq hdx]
    have hz:=g2.els _ (List.mem_cons_self ..);rw [hr1];simp only [pwA,seval,-iQ0];refine Qq hz.1.symm (by rw [hz.1];omega) ?_
    simp only [pwA,seval,-iQ0];exact⟨_,by omega,_,_,_,rfl,rfl,g2⟩
  ·have hdn:dep x=n:=by omega
   simp only [pwA,seval,-iQ0,hdn,Nat.lt_irrefl];refine⟨_,?_,u,Q,vQ',rb,rq',rfl,rfl,hkp,by rw [hQk];exact hq',hrq',hg.drop fun j=>?_,hb,by omega⟩
   ·omega
   ·rcases Nat.lt_or_ge j n with h | h
    ·exact zV (by omega)
    ·exact hx.beyond h
end Go.Proofs
set_option linter.unusedSectionVars false
namespace Go.Grp
open Go.Ab Go.Lie
variable {O:List Int} {P:List (List Int)} {C:List (List (List Int))} {x y z a b c g:List Int} {D:List (Option (List Int))} {t i k d:Nat} {N:List Int→Prop}
theorem zAH (hx:gS O x):TT O (dep x) x:=⟨hx.len,hx.bd,fun j hj=>zV hj⟩
theorem dep_ge (hx:TT O t x) (ht:t≤O.length):t≤dep x:=by
 rcases Nat.lt_or_ge (dep x) t with h|h
 ·have hl:=hx.len
  exact absurd (hx.zero _ h) (qc (by omega))
 ·exact h
theorem zCx (hx:gS O x) (h:O.length≤dep x):x=zv O:=by
 refine ZY (by rw [hx.len];simp) fun j hj=>?_
 rw [zo];exact zV (by have:=hx.len;omega)
theorem zGT (s:Shp O P C):dep (zv O)=O.length:=by
 have h1:=dep_ge (t:=O.length) (s.zv _) (Nat.le_refl _);have h2:=Zn (zv O);rw [(s.zv 0).len]at h2
 omega
theorem zCI {o a b:Int} (ha:0≤a∧a<o) (hb:0≤b∧b<o):addm o a b=(a+b) % o:=by
 unfold addm
 split
 ·have:(a+b) % o=(a+b-o) % o:=by rw [Int.sub_emod_right]
  rw [this,Int.emod_eq_of_lt (by omega) (by omega)]
 ·rw [Int.emod_eq_of_lt (by omega) (by omega)]
section
variable (s:Shp O P C) (F:Full O P C O.length) (hC:Cent O C)
include s F hC
theorem Qw (ht:t<O.length) (hx:TT O t x):∀k:Nat,TT O t (pw (gm O P C) (zv O) x k)∧at_ (pw (gm O P C) (zv O) x k) t=((k:Int)*at_ x t) % at_ O t
 | 0=>⟨s.zv _,by show at_ (zv O) t=_;rw [zo];simp⟩
 | k+1=>by
  obtain⟨h1,h2⟩:=Qw ht hx k;have hN:=zDF s F hC (Nat.le_of_lt ht);have hO:=s.pr t ht;obtain⟨_,g2⟩:=ZR s (d:=O.length) (b:=pw (gm O P C) (zv O) x k) (a:=x) (t:=t) (Nat.le_refl _) (by omega) ht (by rw [Nat.sub_self];exact h1.mono (Nat.zero_le _)) hx
  refine⟨hN.cl h1 hx,?_⟩;show at_ (mu O P C O.length (pw (gm O P C) (zv O) x k) x) t=_;rw [g2,zCI (h1.bd t ht) (hx.bd t ht),h2,Int.emod_add_emod]
  congr 1
  grind
theorem zFp (ht:t<O.length) (hx:TT O t x) (hb:TT O t b) (hb1:at_ b t=1):TT O (t+1) (gm O P C (pw (gm O P C) (zv O) b (at_ O t-at_ x t).toNat) x):=by
 obtain⟨h1,h2⟩:=Qw s F hC ht hb (at_ O t-at_ x t).toNat;have hN:=zDF s F hC (Nat.le_of_lt ht);have bx:=hx.bd t ht;obtain⟨_,g2⟩:=ZR s (d:=O.length) (b:=pw (gm O P C) (zv O) b (at_ O t-at_ x t).toNat) (a:=x) (t:=t) (Nat.le_refl _) (by omega) ht (by rw [Nat.sub_self];exact h1.mono (Nat.zero_le _)) hx
 have h0:=hN.cl h1 hx;have hz:at_ (gm O P C (pw (gm O P C) (zv O) b (at_ O t-at_ x t).toNat) x) t=0:=by
  show at_ (mu O P C O.length _ _) t=0;rw [g2,zCI (h1.bd t ht) bx,h2,hb1,Int.mul_one,Int.emod_add_emod,Int.toNat_of_nonneg (by omega),show at_ O t-at_ x t+at_ x t=at_ O t by omega,Int.emod_self]
 refine⟨h0.len,h0.bd,fun j hj=>?_⟩
 rcases Nat.lt_or_ge j t with h|h
 ·exact h0.zero j h
 ·rw [show j=t by omega];exact hz
theorem zMl (ht:t<O.length) (hx:gS O x) (hb:TT O t b) (hb1:at_ b t=1):gS O (gm O P C x b)∧Upto O t (gm O P C x b) x∧at_ (gm O P C x b) t=(at_ x t+1) % at_ O t:=by
 obtain⟨g1,g2⟩:=ZR s (d:=O.length) (b:=x) (a:=b) (t:=t) (Nat.le_refl _) (by omega) ht (by rw [Nat.sub_self];exact hx) hb
 refine⟨F.g.cl hx (hb.mono (Nat.zero_le _)),g1,?_⟩;show at_ (mu O P C O.length x b) t=_;rw [g2,zCI (hx.bd t ht) (hb.bd t ht),hb1]
end
structure OkD (O:List Int) (D:List (Option (List Int))):Prop where
 len:D.length=O.length
 row:∀(d:Nat) (y:List Int),D[d]? = some (some y)→TT O d y∧at_ y d=1
def InD (N:List Int→Prop) (D:List (Option (List Int))):Prop:=∀(d:Nat) (y:List Int),D[d]? = some (some y)→N y
def free:List (Option (List Int))→Nat
 | []=>0
 | none::D=>free D+1
 | some _::D=>free D
theorem zAk:∀D,free D≤D.length
 | []=>Nat.le_refl _
 | none::D=>by have:=zAk D;simp only [free,List.length_cons];omega
 | some _::D=>by have:=zAk D;simp only [free,List.length_cons];omega
theorem zD4 {y:List Int}:∀{D:List (Option (List Int))} {d:Nat},D[d]? = some none→free (D.set d (some y))+1=free D
 | [],d,h=>by simp at h
 | v::D,0,h=>by
  simp only [List.getElem?_cons_zero,Option.some.injEq]at h
  subst h;rfl
 | v::D,d+1,h=>by
  have:=zD4 (y:=y) (D:=D) (d:=d) (by simpa using h)
  cases v<;>simp only [List.set_cons_succ,free]<;>omega
theorem OkD.put (h:OkD O D) (hd:d<O.length) (hy:TT O d y) (h1:at_ y d=1):OkD O (D.set d (some y)):=by
 refine⟨by rw [List.length_set];exact h.len,fun e v hv=>?_⟩
 rw [List.getElem?_set]at hv
 split at hv
 ·rename_i he;subst he
  split at hv
  ·cases hv;exact⟨hy,h1⟩
  ·cases hv
 ·exact h.row e v hv
theorem InD.put (hd:D[d]? = some none):InD N (D.set d (some y))↔InD N D∧N y:=by
  have hl:d<D.length:=by
    rcases Nat.lt_or_ge d D.length with h|h
    · exact h
    · rw [List.getElem?_eq_none h]at hd;cases hd
  constructor
  · intro h
    refine⟨fun e v hv=>h e v ?_,h d y ?_⟩
    · rw [List.getElem?_set,if_neg fun he=>by subst he;rw [hd]at hv;cases hv];exact hv
    · rw [List.getElem?_set,if_pos rfl,if_pos hl]
  · rintro ⟨h1,h2⟩ e v hv
    rw [List.getElem?_set]at hv
    split at hv
    · rename_i he;subst he
      first
      | (cases hv;exact h2)
      | (split at hv
         · cases hv;exact h2
         · cases hv)
    · exact h1 e v hv
theorem OkD.start (n:Nat) (hn:n=O.length):OkD O (List.replicate n none):=⟨by simp [hn],fun d y h=>by
 rw [List.getElem?_replicate]at h
 split at h<;>cases h⟩
theorem InD.start (n:Nat):InD N (List.replicate n none):=fun d y h=>by
 rw [List.getElem?_replicate]at h
 split at h<;>cases h
end Go.Grp
namespace Go.Grp
open Go.Ab Go.Lie
variable {O:List Int} {P:List (List Int)} {C:List (List (List Int))} {x y z a b c g w w':List Int} {t i k d:Nat} {N:List Int→Prop}
section
variable {α:Type} {S:α→Prop} {m:α→α→α} {e:α}
theorem Mon.pw_e (M:Mon S m e):∀k,Grp.pw m e e k=e
 | 0=>rfl
 | k+1=>by
  show m (Grp.pw m e e k) e=e;rw [M.pw_e k];exact M.l1 M.one
theorem Mon.pw_mul (M:Mon S m e) {x:α} (hx:S x) (a:Nat):∀b,Grp.pw m e x (a*b)=Grp.pw m e (Grp.pw m e x a) b
 | 0=>rfl
 | b+1=>by
  rw [Nat.mul_succ,M.pw_add hx,M.pw_mul hx a b];rfl
end
section
variable (s:Shp O P C) (F:Full O P C O.length) (hC:Cent O C)
include s F hC
theorem zJH (ht:t<O.length) (hx:TT O t x):TT O (t+1) (Grp.pw (gm O P C) (zv O) x (at_ O t).toNat):=by
 obtain⟨h1,h2⟩:=Qw s F hC ht hx (at_ O t).toNat;refine⟨h1.len,h1.bd,fun j hj=>?_⟩
 rcases Nat.lt_or_ge j t with h|h
 ·exact h1.zero j h
 ·rw [show j=t by omega,h2,Int.toNat_of_nonneg (by have:=s.pr t ht;omega),Int.mul_emod_right]
omit hC in
end
end Go.Grp
namespace Go.Grp
open Go.Ab Go.Lie
section
variable {α:Type} [Inhabited α] {S:α→Prop} {m:α→α→α} {e:α} {x y a:α} {N:α→Prop}
structure GSub (S:α→Prop) (m:α→α→α) (e:α) (N:α→Prop):Prop where
 inS:∀{x},N x→S x
 one:N e
 cl:∀{x y},N x→N y→N (m x y)
 inv:∀{x},N x→N (ginv S m e x)
theorem Gp.wholeB (G:Gp S m e):GSub S m e S:=⟨id,G.one,fun a b=>G.cl a b,fun a=>(G.inv_in a).1⟩
theorem GSub.com_in (h:GSub S m e N) (hx:N x) (hy:N y):N (com S m e x y):=h.cl (h.inv hx) (h.cl (h.inv hy) (h.cl hx hy))
theorem GSub.quot (G:Gp S m e) (h:GSub S m e N) (ha:N a) (hx:S x) (hn:N (m a x)):N x:=by
 have h1:=h.cl (h.inv ha) hn
 rwa [←G.as (h.inS (h.inv ha)) (h.inS ha) hx,G.inv_l (h.inS ha),G.l1 hx]at h1
theorem GSub.quotR (G:Gp S m e) (h:GSub S m e N) (ha:N a) (hx:S x) (hn:N (m x a)):N x:=by
 have h1:=h.cl hn (h.inv ha)
 rwa [G.as hx (h.inS ha) (h.inS (h.inv ha)),G.inv_r (h.inS ha),G.r1 hx]at h1
theorem GSub.pw (h:GSub S m e N) (hx:N x):∀k,N (Grp.pw m e x k)
 | 0=>h.one
 | k+1=>h.cl (h.pw hx k) hx
theorem Gp.com_swap' (G:Gp S m e) (hx:S x) (hy:S y):com S m e y x=ginv S m e (com S m e x y):=by
 have h1:=G.com_spec hx hy;have h2:=G.com_spec hy hx;have c1:=G.com_in hx hy;have c2:=G.com_in hy hx;refine G.inv_eq c1 c2 ?_;refine G.cancel (G.cl hy hx) (G.cl c1 c2) G.one ?_;rw [←G.as (G.cl hy hx) c1 c2,h1,h2,G.r1 (G.cl hy hx)]
end
variable {O:List Int} {P:List (List Int)} {C:List (List (List Int))} {x y z a b c g:List Int} {D D':List (Option (List Int))} {t i k d:Nat} {N H:List Int→Prop} {L u u' Q:List (List Int)}
abbrev gB (O:List Int) (P:List (List Int)) (C:List (List (List Int))) (N:List Int→Prop):Prop:=GSub (gS O) (gm O P C) (zv O) N
inductive Rdu (O:List Int) (P:List (List Int)) (C:List (List (List Int))) (D:List (Option (List Int))):List Int→List Int→Prop where
 | refl (x:List Int):Rdu O P C D x x
 | left {d j:Nat} {b x x' z:List Int} (hd:d<O.length) (hb:D[d]? = some (some b)) (hx:TT O d x) (h0:at_ x d≠0) (hx':TT O (d+1) x') (e:x=gm O P C (pw (gm O P C) (zv O) b j) x') (r:Rdu O P C D x' z):Rdu O P C D x z
 | right {d j:Nat} {b x x' z:List Int} (hd:d<O.length) (hb:D[d]? = some (some b)) (hx:TT O d x) (h0:at_ x d≠0) (hx':TT O (d+1) x') (e:x=gm O P C x' (pw (gm O P C) (zv O) b j)) (r:Rdu O P C D x' z):Rdu O P C D x z
theorem Rdu.trans (h:Rdu O P C D x y) (g:Rdu O P C D y z):Rdu O P C D x z:=by
 induction h with
 | refl x=>exact g
 | left hd hb hx h0 hx' e r ih=>exact .left hd hb hx h0 hx' e (ih g)
 | right hd hb hx h0 hx' e r ih=>exact .right hd hb hx h0 hx' e (ih g)
def Sup (D D':List (Option (List Int))):Prop:=∀(d:Nat) (b:List Int),D[d]? = some (some b)→D'[d]? = some (some b)
theorem Rdu.mono (h:Rdu O P C D x z) (s:Sup D D'):Rdu O P C D' x z:=by
 induction h with
 | refl x=>exact .refl x
 | left hd hb hx h0 hx' e r ih=>exact .left hd (s _ _ hb) hx h0 hx' e ih
 | right hd hb hx h0 hx' e r ih=>exact .right hd (s _ _ hb) hx h0 hx' e ih
theorem Rdu.iff (F:Full O P C O.length) (hN:gB O P C N) (hD:InD N D) (h:Rdu O P C D x z):N x↔N z:=by
 have G:=F.g
 induction h with
 | refl x=>exact Iff.rfl
 | left hd hb hx h0 hx' e r ih=>
  refine Iff.trans ?_ ih;rw [e];exact⟨fun h=>hN.quot G (hN.pw (hD _ _ hb) _) (hx'.mono (Nat.zero_le _)) h,fun h=>hN.cl (hN.pw (hD _ _ hb) _) h⟩
 | right hd hb hx h0 hx' e r ih=>
  refine Iff.trans ?_ ih;rw [e];exact⟨fun h=>hN.quotR G (hN.pw (hD _ _ hb) _) (hx'.mono (Nat.zero_le _)) h,fun h=>hN.cl h (hN.pw (hD _ _ hb) _)⟩
theorem Sup.put (hd:D[d]? = some none):Sup D (D.set d (some y)):=fun e b hb=>by
 rw [List.getElem?_set]
 split
 ·rename_i h;rw [←h,hd]at hb;cases hb
 ·exact hb
def RQ (O:List Int) (P:List (List Int)) (C:List (List (List Int))) (D:List (Option (List Int))) (Q:List (List Int)) (x:List Int):Prop:=∃z,Rdu O P C D x z∧(z=zv O∨z∈Q)
structure QI (O:List Int) (P:List (List Int)) (C:List (List (List Int))) (D:List (Option (List Int))) (Q:List (List Int)):Prop where
 pow:∀(d:Nat) (b:List Int),D[d]? = some (some b)→RQ O P C D Q (pw (gm O P C) (zv O) b (at_ O d).toNat)
 com:∀(d e:Nat) (b c:List Int),d≠e→D[d]? = some (some b)→D[e]? = some (some c)→RQ O P C D Q (gcom O P C b c)∨RQ O P C D Q (gcom O P C c b)
theorem RQ.step {Q':List (List Int)} (h:RQ O P C D (x::Q) y) (s:Sup D D') (hx:Rdu O P C D x z) (hz:z=zv O∨z∈Q') (hQ:∀q∈Q,q∈Q'):RQ O P C D' Q' y:=by
 obtain⟨w,h1,h2⟩:=h;rcases h2 with rfl|h2
 ·exact⟨_,h1.mono s,.inl rfl⟩
 ·rcases List.mem_cons.1 h2 with rfl | h2
  ·exact⟨z,(h1.trans hx).mono s,hz⟩
  ·exact⟨w,h1.mono s,.inr (hQ w h2)⟩
theorem zG7 {n d:Nat} {b:List Int} (h:(List.replicate n (none:Option (List Int)))[d]? = some (some b)):False:=by
 rw [List.getElem?_replicate]at h
 split at h<;>cases h
theorem QI.start (n:Nat):QI O P C (List.replicate n none) Q:=⟨fun d b h=>(zG7 h).elim,fun d e b c _ h _=>(zG7 h).elim⟩
theorem QI.mem {Q':List (List Int)} (h:QI O P C D Q) (hQ:∀q∈Q,q∈Q'):QI O P C D Q':=
 have r:∀{x},RQ O P C D Q x→RQ O P C D Q' x:=fun⟨z,h1,h2⟩=>⟨z,h1,h2.imp id (hQ z)⟩
 ⟨fun d b hb=>r (h.pow d b hb),fun d e b c hne hb hc=>(h.com d e b c hne hb hc).imp r r⟩
theorem QI.drop (h:QI O P C D (x::Q)) (hx:Rdu O P C D x (zv O)):QI O P C D Q:=
 have r:∀{y},RQ O P C D (x::Q) y→RQ O P C D Q y:=fun h=>h.step (fun d b hb=>hb) hx (.inl rfl) fun q hq=>hq
 ⟨fun d b hb=>r (h.pow d b hb),fun d e b c hne hb hc=>(h.com d e b c hne hb hc).imp r r⟩
theorem QI.put {Q':List (List Int)} (h:QI O P C D (x::Q)) (hx:Rdu O P C D x z) (hd:D[d]? = some none) (hz:z∈Q') (hQ:∀q∈Q,q∈Q') (hp:pw (gm O P C) (zv O) y (at_ O d).toNat∈Q') (hc:∀(e:Nat) (b:List Int),D[e]? = some (some b)→gcom O P C b y∈Q'∨gcom O P C y b∈Q'):QI O P C (D.set d (some y)) Q':=by
  have hl:d<D.length:=by
    rcases Nat.lt_or_ge d D.length with h|h
    · exact h
    · rw [List.getElem?_eq_none h]at hd;cases hd
  have s:Sup D (D.set d (some y)):=Sup.put hd;have r:∀{w},RQ O P C D (x::Q) w→RQ O P C (D.set d (some y)) Q' w:=fun h=>h.step s hx (.inr hz) hQ
  have ge:∀(e:Nat) (b:List Int),(D.set d (some y))[e]? = some (some b)→(e=d∧b=y)∨(e≠d∧D[e]? = some (some b)):=fun e b hb=>by
    rw [List.getElem?_set]at hb
    split at hb
    · rename_i he
      subst he
      first
      | (cases hb;exact .inl ⟨rfl,rfl⟩)
      | (split at hb
         · cases hb;exact .inl ⟨rfl,rfl⟩
         · cases hb)
    · rename_i he;exact .inr ⟨fun h=>he h.symm,hb⟩
  refine⟨fun e b hb=>?_,fun e e' b c hne hb hc'=>?_⟩
  · rcases ge e b hb with ⟨k1,k2⟩ | ⟨_,hb2⟩
    · rw [k1,k2];exact⟨_,.refl _,.inr hp⟩
    · exact r (h.pow e b hb2)
  · rcases ge e b hb with ⟨k1,k2⟩ | ⟨h1,hb2⟩
    · rcases ge e' c hc' with ⟨l1,l2⟩ | ⟨h2,hc2⟩
      · omega
      · rw [k2]
        rcases hc e' c hc2 with h3|h3
        · exact .inr ⟨_,.refl _,.inr h3⟩
        · exact .inl ⟨_,.refl _,.inr h3⟩
    · rcases ge e' c hc' with ⟨l1,l2⟩ | ⟨h2,hc2⟩
      · rw [l2]
        rcases hc e b hb2 with h3|h3
        · exact .inl ⟨_,.refl _,.inr h3⟩
        · exact .inr ⟨_,.refl _,.inr h3⟩
      · exact(h.com e e' b c hne hb2 hc2).imp r r
section
variable (s:Shp O P C) (F:Full O P C O.length) (hC:Cent O C)
include s F hC
theorem zJB (hx:gS O x):∃E:Nat,0<E∧pw (gm O P C) (zv O) x E=zv O:=by
 have M:=F.g.toMon
 have:∀t,t≤O.length→∃E:Nat,0<E∧TT O t (pw (gm O P C) (zv O) x E):=by
  intro t
  induction t with
  | zero=>intro _;exact⟨1,by omega,by rw [M.pw_one hx];exact hx⟩
  | succ t ih=>
   intro ht;obtain⟨E,h1,h2⟩:=ih (by omega)
   have hO:=s.pr t (by omega)
   refine⟨E*(at_ O t).toNat,Nat.mul_pos h1 (by omega),?_⟩
   rw [M.pw_mul hx];exact zJH s F hC (by omega) h2
 obtain⟨E,h1,h2⟩:=this O.length (Nat.le_refl _);exact⟨E,h1,h2.ext (s.zv _) fun j h1 h2=>by omega⟩
theorem zBq (inS:∀x,N x→gS O x) (one:N (zv O)) (cl:∀x y,N x→N y→N (gm O P C x y)):gB O P C N:=by
 have G:=F.g;have pwN:∀{x},N x→∀k,N (pw (gm O P C) (zv O) x k):=fun {x} hx k=>by
  induction k with
  | zero=>exact one
  | succ k ih=>exact cl _ _ ih hx
 refine⟨fun h=>inS _ h,one,fun h g=>cl _ _ h g,fun {x} hx=>?_⟩
 obtain⟨E,h1,h2⟩:=zJB s F hC (inS x hx);have e:pw (gm O P C) (zv O) x (E-1)=ginv (gS O) (gm O P C) (zv O) x:=by
  refine G.inv_eq (inS x hx) (inS _ (pwN hx _)) ?_
  have:=G.pw_comm (inS x hx) (E-1)
  rw [←this];rw [show E=(E-1)+1 by omega]at h2
  exact h2
 rw [←e];exact pwN hx _
def HD (O:List Int) (P:List (List Int)) (C:List (List (List Int))) (D:List (Option (List Int))) (t:Nat) (x:List Int):Prop:=TT O t x∧Rdu O P C D x (zv O)
omit hC in
theorem HD.row (ok:OkD O D) (hb:D[d]? = some (some b)) (hd:d<O.length):HD O P C D d b:=by
 have M:=F.g.toMon;obtain⟨h1,h2⟩:=ok.row d b hb;have hb0:gS O b:=h1.mono (Nat.zero_le _);refine⟨h1,.left (j:=1) hd hb h1 (by rw [h2];decide) (s.zv _) ?_ (.refl _)⟩
 rw [M.pw_one hb0];exact(M.r1 hb0).symm
theorem HD.nn (hn:D[t]? = some none) (h:HD O P C D t x):HD O P C D (t+1) x:=by
 obtain⟨h1,h2⟩:=h;refine⟨?_,h2⟩;have key:∀{d:Nat} {b:List Int},D[d]? = some (some b)→TT O d x→at_ x d≠0→TT O (t+1) x:=fun {d b} hb hx h0=>by
  rcases Nat.lt_trichotomy d t with h|h|h
  ·exact absurd (h1.zero d h) h0
  ·rw [h,hn]at hb;cases hb
  ·exact hx.mono h
 cases h2 with
 | refl=>exact s.zv _
 | left hd hb hx h0 hx' e r=>exact key hb hx h0
 | right hd hb hx h0 hx' e r=>exact key hb hx h0
theorem HD.cnjb (ok:OkD O D) (q:QI O P C D []) (ht:t<O.length) (hb:D[t]? = some (some b)) (hs:gB O P C (HD O P C D (t+1))):∀{x z:List Int},Rdu O P C D x z→z=zv O→TT O (t+1) x→HD O P C D (t+1) (cnj (gS O) (gm O P C) (zv O) x b):=by
 have G:=F.g;have bS:gS O b:=(ok.row t b hb).1.mono (Nat.zero_le _);have cm:∀{x y:List Int},gS O x→gS O y→cnj (gS O) (gm O P C) (zv O) (gm O P C x y) b=gm O P C (cnj (gS O) (gm O P C) (zv O) x b) (cnj (gS O) (gm O P C) (zv O) y b):=fun {x y} hx hy=>by
  have c1:=G.cnj_in hx bS;have c2:=G.cnj_in hy bS;refine(G.cnj_eq (G.cl hx hy) bS (G.cl c1 c2) ?_).symm;rw [←G.as bS c1 c2,G.cnj_spec hx bS,G.as hx bS c2,G.cnj_spec hy bS,←G.as hx hy bS]
 have cone:cnj (gS O) (gm O P C) (zv O) (zv O) b=zv O:=G.cnj_one bS;have cpw:∀{c:List Int},gS O c→HD O P C D (t+1) (cnj (gS O) (gm O P C) (zv O) c b)→∀j,HD O P C D (t+1) (cnj (gS O) (gm O P C) (zv O) (pw (gm O P C) (zv O) c j) b):=fun {c} hc h j=>by
  induction j with
  | zero=>show HD O P C D (t+1) (cnj _ _ _ (zv O) b);rw [cone];exact hs.one
  | succ j ih=>
   show HD O P C D (t+1) (cnj _ _ _ (gm O P C _ c) b);rw [cm (G.pw hc j) hc];exact hs.cl ih h
 have row:∀{d:Nat} {c:List Int},t+1≤d→d<O.length→D[d]? = some (some c)→gS O c∧HD O P C D (t+1) (cnj (gS O) (gm O P C) (zv O) c b):=fun {d c} h1 h2 hc=>by
  have cT:=(ok.row d c hc).1;have cS:gS O c:=cT.mono (Nat.zero_le _);refine⟨cS,?_⟩;rw [←G.cnj_com cS bS];have hcr:=HD.row s F ok hc h2;have hcH:HD O P C D (t+1) c:=⟨hcr.1.mono h1,hcr.2⟩;refine hs.cl hcH ?_;have hN:=zDF s F hC (t:=t+1) (by omega)
  have T1:TT O (t+1) (gcom O P C c b):=NSub.com_in G hN hcH.1 bS;have e0:∀{w},RQ O P C D [] w→Rdu O P C D w (zv O):=fun⟨z,h1,h2⟩=>by
   rcases h2 with rfl|h2
   ·exact h1
   ·cases h2
  rcases q.com t d b c (by omega) hb hc with h3|h3
  ·have sw1:gcom O P C b c=ginv (gS O) (gm O P C) (zv O) (gcom O P C c b):=G.com_swap' cS bS
   have sw2:gcom O P C c b=ginv (gS O) (gm O P C) (zv O) (gcom O P C b c):=G.com_swap' bS cS;have T2:TT O (t+1) (gcom O P C b c):=by rw [sw1];exact hN.inv T1
   have T3:HD O P C D (t+1) (gcom O P C c b):=by rw [sw2];exact hs.inv ⟨T2,e0 h3⟩
   exact T3
  ·exact⟨T1,e0 h3⟩
 intro x z h
 induction h with
 | refl x=>rintro rfl hx;rw [cone];exact hs.one
 | @left d j c x x' z hd hc hx h0 hx' e r ih=>
  intro hz hT;have hdt:t+1≤d:=by
   rcases Nat.lt_or_ge d (t+1)with h|h
   ·exact absurd (hT.zero d h) h0
   ·exact h
  obtain⟨r1,r2⟩:=row hdt hd hc;have hx'S:gS O x':=hx'.mono (Nat.zero_le _);rw [e,cm (G.pw r1 j) hx'S];exact hs.cl (cpw r1 r2 j) (ih hz (hx'.mono (by omega)))
 | @right d j c x x' z hd hc hx h0 hx' e r ih=>
  intro hz hT;have hdt:t+1≤d:=by
   rcases Nat.lt_or_ge d (t+1)with h|h
   ·exact absurd (hT.zero d h) h0
   ·exact h
  obtain⟨r1,r2⟩:=row hdt hd hc;have hx'S:gS O x':=hx'.mono (Nat.zero_le _);rw [e,cm hx'S (G.pw r1 j)];exact hs.cl (ih hz (hx'.mono (by omega))) (cpw r1 r2 j)
theorem HD.sub (ok:OkD O D) (q:QI O P C D []):∀k t,t+k=O.length→gB O P C (HD O P C D t)
 | 0,t,ht=>by
  have hz:∀x,HD O P C D t x→x=zv O:=fun x hx=>hx.1.ext (s.zv _) fun j h1 h2=>by omega
  have h0:HD O P C D t (zv O):=⟨s.zv _,.refl _⟩;refine zBq s F hC (fun x hx=>hx.1.mono (Nat.zero_le _)) h0 fun x y hx hy=>?_
  rw [hz x hx,hz y hy,F.g.l1 F.g.one];exact h0
 | k+1,t,ht=>by
  have ih:=HD.sub ok q k (t+1) (by omega)
  have G:=F.g;have htl:t<O.length:=by omega
  have hDl:t<D.length:=by rw [ok.len];exact htl
  rcases hD:D[t]? with _|_|b
  ·rw [List.getElem?_eq_getElem hDl]at hD;cases hD
  ·refine zBq s F hC (fun x hx=>hx.1.mono (Nat.zero_le _)) ⟨s.zv _,.refl _⟩ fun x y hx hy=>?_
   have:=ih.cl (HD.nn s F hC hD hx) (HD.nn s F hC hD hy)
   exact⟨this.1.mono (by omega),this.2⟩
  ·obtain⟨bT,b1⟩:=ok.row t b hD
   have bS:gS O b:=bT.mono (Nat.zero_le _);have inS:∀{x},HD O P C D (t+1) x→gS O x:=fun h=>h.1.mono (Nat.zero_le _)
   -- products of a power of b and a member behind
   have mk:∀(j:Nat) {h:List Int},HD O P C D (t+1) h→HD O P C D t (gm O P C (pw (gm O P C) (zv O) b j) h):=fun j {h} hh=>by
    obtain⟨p1,p2⟩:=Qw s F hC htl bT j;have hN:=zDF s F hC (t:=t) (by omega)
    have hhS:=inS hh;have T:=hN.cl p1 (hh.1.mono (Nat.le_succ _));refine⟨T,?_⟩;obtain⟨_,g2⟩:=ZR s (d:=O.length) (b:=pw (gm O P C) (zv O) b j) (a:=h) (t:=t) (Nat.le_refl _) (by omega) htl (by rw [Nat.sub_self];exact p1.mono (Nat.zero_le _)) (hh.1.mono (Nat.le_succ _))
    have hO:=s.pr t htl;have e2:at_ (gm O P C (pw (gm O P C) (zv O) b j) h) t=(j:Int) % at_ O t:=by
     show at_ (mu O P C O.length _ _) t=_;rw [g2,zCI (p1.bd t htl) (hh.1.bd t htl),hh.1.zero t (Nat.lt_succ_self _),p2,b1,Int.mul_one,Int.add_zero,Int.emod_emod_of_dvd _ (Int.dvd_refl _)]
    by_cases h0:(j:Int) % at_ O t=0
    ·obtain⟨r,hr⟩:=Int.dvd_of_emod_eq_zero h0
     have hr0:0≤r:=by
      rcases Int.lt_or_le r 0 with h|h
      ·have:=Int.mul_neg_of_pos_of_neg (show 0<at_ O t by omega) h;omega
      ·exact h
     have ej:j=(at_ O t).toNat*r.toNat:=by
      have:((j:Nat):Int)=(((at_ O t).toNat*r.toNat:Nat):Int):=by rw [Int.natCast_mul,Int.toNat_of_nonneg hr0,Int.toNat_of_nonneg (by omega),hr]
      omega
     have hp:HD O P C D (t+1) (pw (gm O P C) (zv O) b (at_ O t).toNat):=by
      refine⟨zJH s F hC htl bT,?_⟩;obtain⟨z,h1,h2⟩:=q.pow t b hD;rcases h2 with rfl|h2
      ·exact h1
      ·cases h2
     rw [ej,G.pw_mul bS];exact(ih.cl (ih.pw hp r.toNat) hh).2
    ·exact .left htl hD T (by rw [e2];exact h0) hh.1 rfl hh.2
   have mv:∀(j:Nat) {h:List Int},HD O P C D (t+1) h→∃h',HD O P C D (t+1) h'∧gm O P C h (pw (gm O P C) (zv O) b j)=gm O P C (pw (gm O P C) (zv O) b j) h':=fun j=>by
    induction j with
    | zero=>exact fun {h} hh=>⟨h,hh,by show gm O P C h (zv O)=gm O P C (zv O) h;rw [G.r1 (inS hh),G.l1 (inS hh)]⟩
    | succ j ij=>
     intro h hh;obtain⟨h1,a1,a2⟩:=ij hh;have a3:=HD.cnjb s F hC ok q htl hD ih a1.2 rfl a1.1;refine⟨_,a3,?_⟩;have hpS:=G.pw bS j;show gm O P C h (gm O P C (pw (gm O P C) (zv O) b j) b)=gm O P C (gm O P C (pw (gm O P C) (zv O) b j) b) _;rw [←G.as (inS hh) hpS bS,a2,G.as hpS (inS a1) bS,G.as hpS bS (inS a3),G.cnj_spec (inS a1) bS]
   have split:∀{x},HD O P C D t x→∃j h,HD O P C D (t+1) h∧x=gm O P C (pw (gm O P C) (zv O) b j) h:=fun {x} hx=>by
    obtain⟨hT,hr⟩:=hx;have deep:∀{d},TT O d x→at_ x d≠0→d≠t→TT O (t+1) x:=fun {d} h1 h0 hne=>by
     rcases Nat.lt_trichotomy d t with h|h|h
     ·exact absurd (hT.zero d h) h0
     ·exact absurd h hne
     ·exact h1.mono h
    have triv:TT O (t+1) x→Rdu O P C D x (zv O)→∃j h,HD O P C D (t+1) h∧x=gm O P C (pw (gm O P C) (zv O) b j) h:=fun h1 h2=>⟨0,x,⟨h1,h2⟩,(G.l1 (h1.mono (Nat.zero_le _))).symm⟩
    have hr0:=hr;cases hr with
    | refl=>exact triv (s.zv _) (.refl _)
    | @left d j c _ x' _ hd hc h1 h0 hx' e r=>
     by_cases hdt:d=t
     ·subst hdt
      rw [hD]at hc;cases hc
      exact⟨j,x',⟨hx',r⟩,e⟩
     ·exact triv (deep h1 h0 hdt) hr0
    | @right d j c _ x' _ hd hc h1 h0 hx' e r=>
     by_cases hdt:d=t
     ·subst hdt
      rw [hD]at hc;cases hc
      obtain⟨h',a1,a2⟩:=mv j (show HD O P C D (d+1) x' from⟨hx',r⟩)
      exact⟨j,h',a1,by rw [e,a2]⟩
     ·exact triv (deep h1 h0 hdt) hr0
   refine zBq s F hC (fun x hx=>hx.1.mono (Nat.zero_le _)) ⟨s.zv _,.refl _⟩ fun x y hx hy=>?_
   obtain⟨j,h,a1,rfl⟩:=split hx;obtain⟨j',h',a2,rfl⟩:=split hy;obtain⟨h2,a3,a4⟩:=mv j' a1;have p1:=G.pw bS j;have p2:=G.pw bS j';have e:gm O P C (gm O P C (pw (gm O P C) (zv O) b j) h) (gm O P C (pw (gm O P C) (zv O) b j') h')=gm O P C (pw (gm O P C) (zv O) b (j+j')) (gm O P C h2 h'):=by
    rw [G.as p1 (inS a1) (G.cl p2 (inS a2)),←G.as (inS a1) p2 (inS a2),a4,G.as p2 (inS a3) (inS a2),←G.as p1 p2 (G.cl (inS a3) (inS a2)),G.pw_add bS]
   rw [e];exact mk _ (ih.cl a3 a2)
omit hC in
theorem HD.fil (h:HD O P C D t x) (hd:dep x<O.length):∃b,D[dep x]? = some (some b):=by
 obtain⟨h1,h2⟩:=h;have key:∀{d:Nat} {b:List Int},D[d]? = some (some b)→TT O d x→at_ x d≠0→∃b,D[dep x]? = some (some b):=fun {d b} hb hx h0=>by
  have:dep x=d:=zAR (fun j hj=>hx.zero j hj) h0
  rw [this];exact⟨b,hb⟩
 cases h2 with
 | refl=>rw [zGT s]at hd;omega
 | left hd hb hx h0 hx' e r=>exact key hb hx h0
 | right hd hb hx h0 hx' e r=>exact key hb hx h0
end
def GC (O:List Int) (P:List (List Int)) (C:List (List (List Int))) (L:List (List Int)) (x:List Int):Prop:=∀N,gB O P C N→(∀l∈L,N l)→N x
theorem GC.sub (F:Full O P C O.length) (hL:∀l∈L,gS O l):gB O P C (GC O P C L):=
 ⟨fun h=>h _ F.g.wholeB hL,fun N hN _=>hN.one,fun h g N hN hl=>hN.cl (h N hN hl) (g N hN hl),fun h N hN hl=>hN.inv (h N hN hl)⟩
theorem GC.mem (h:x∈L):GC O P C L x:=fun N _ hl=>hl x h
structure CanG (O:List Int) (H:List Int→Prop) (u:List (List Int)):Prop where
 asc:u.Pairwise fun a b=>dep a<dep b
 mem:∀v∈u,H v
 one:∀v∈u,gS O v∧dep v<O.length∧at_ v (dep v)=1
 red:∀v∈u,∀w∈u,dep v≠dep w→at_ v (dep w)=0
 all:∀x,H x→dep x<O.length→∃v∈u,dep v=dep x
theorem zHu:∀{u u':List (List Int)},(u.Pairwise fun a b=>dep a<dep b)→(u'.Pairwise fun a b=>dep a<dep b)→(∀v,v∈u↔v∈u')→u=u'
 | [],[],_,_,_=>rfl
 | [],v::u',_,_,h=>by have:=(h v).2 (by simp);cases this
 | v::u,[],_,_,h=>by have:=(h v).1 (by simp);cases this
 | v::u,w::u',h1,h2,h=>by
  rw [List.pairwise_cons]at h1 h2
  have e:v=w:=by
   rcases List.mem_cons.1 ((h v).1 (by simp))with e|e
   ·exact e
   ·rcases List.mem_cons.1 ((h w).2 (by simp))with e' | e'
    ·exact e'.symm
    ·have:=h2.1 v e;have:=h1.1 w e';omega
  subst e;rw [zHu h1.2 h2.2 fun x=>?_]
  constructor
  ·intro hx
   rcases List.mem_cons.1 ((h x).1 (by simp [hx]))with e|e
   ·subst e;have:=h1.1 x hx;omega
   ·exact e
  ·intro hx
   rcases List.mem_cons.1 ((h x).2 (by simp [hx]))with e|e
   ·subst e;have:=h2.1 x hx;omega
   ·exact e
theorem CanG.row_eq (s:Shp O P C) (F:Full O P C O.length) (hH:gB O P C H) (h:CanG O H u) (h':CanG O H u') {v v':List Int} (hv:v∈u) (hv':v'∈u') (hd:dep v=dep v'):v=v':=by
 have G:=F.g;obtain⟨a1,a2,a3⟩:=h.one v hv;obtain⟨b1,b2,b3⟩:=h'.one v' hv';have iv:=G.inv_in a1;have hz:H (gm O P C (ginv (gS O) (gm O P C) (zv O) v) v'):=hH.cl (hH.inv (h.mem v hv)) (h'.mem v' hv');have e:gm O P C v (gm O P C (ginv (gS O) (gm O P C) (zv O) v) v')=v':=by rw [←G.as a1 iv.1 b1,iv.2,G.l1 b1]
 generalize gm O P C (ginv (gS O) (gm O P C) (zv O) v) v'=z at *
 have zS:=hH.inS hz;rcases Nat.lt_or_ge (dep z) O.length with hdz|hdz
 ·exfalso
  obtain⟨g1,g2⟩:=ZR s (d:=O.length) (b:=v) (a:=z) (t:=dep z) (Nat.le_refl _) (by omega) hdz (by rw [Nat.sub_self];exact a1) (zAH zS)
  have e':mu O P C O.length v z=v':=e;rw [e']at g1 g2
  have hz0:at_ z (dep z)≠0:=qc (by rw [zS.len];exact hdz)
  have hvv:at_ v' (dep z)=at_ v (dep z):=by
   rcases Nat.lt_trichotomy (dep z) (dep v)with h1|h1|h1
   ·rw [zV h1,zV (by omega)]
   ·rw [h1,a3,hd,b3]
   ·obtain⟨w,hw,ew⟩:=h.all z hz hdz
    obtain⟨w',hw',ew'⟩:=h'.all z hz hdz;rw [←ew,h.red v hv w hw (by omega),ew,←ew',h'.red v' hv' w' hw' (by omega)]
  have:=zEF (a1.bd _ hdz) (zS.bd _ hdz) (g2.symm.trans hvv)
  exact hz0 this
 ·rw [zCx zS hdz,G.r1 a1]at e
  exact e
theorem CanG.unique (s:Shp O P C) (F:Full O P C O.length) (hH:gB O P C H) (h:CanG O H u) (h':CanG O H u'):u=u':=by
 refine zHu h.asc h'.asc fun v=>⟨fun hv=>?_,fun hv=>?_⟩
 ·obtain⟨w,hw,e⟩:=h'.all v (h.mem v hv) (h.one v hv).2.1
  rw [h.row_eq s F hH h' hv hw e.symm];exact hw
 ·obtain⟨w,hw,e⟩:=h.all v (h'.mem v hv) (h'.one v hv).2.1
  rw [h'.row_eq s F hH h hv hw e.symm];exact hw
theorem CanG.len (h:CanG O H u):u.length≤O.length:=by
 have:(u.map dep).Pairwise (· < ·):=by rw [List.pairwise_map];exact h.asc
 have key:∀(l:List Nat) (m:Nat),l.Pairwise (· < ·)→(∀x∈l,m≤x∧x<O.length)→l.length+m≤O.length∨l=[]:=by
  intro l
  induction l with
  | nil=>intro m _ _;exact .inr rfl
  | cons a l ih=>
   intro m h1 h2;rw [List.pairwise_cons]at h1
   have ha:=h2 a (by simp)
   rcases ih (a+1) h1.2 (fun x hx=>⟨h1.1 x hx,(h2 x (by simp [hx])).2⟩)with h3|h3
   ·left;simp only [List.length_cons];omega
   ·subst h3;left;simp;omega
 rcases key _ 0 this (fun x hx=>by
  obtain⟨v,hv,rfl⟩:=List.mem_map.1 hx;exact⟨Nat.zero_le _,(h.one v hv).2.1⟩)with h1 | h1
 ·simpa using h1
 ·rw [List.map_eq_nil_iff]at h1;subst h1;simp
theorem GC.table (s:Shp O P C) (F:Full O P C O.length) (hC:Cent O C) (ok:OkD O D) (q:QI O P C D []) (h:∀N,gB O P C N→(InD N D↔∀l∈L,N l)):∀x,GC O P C L x↔HD O P C D 0 x:=by
 have hs:=HD.sub s F hC ok q O.length 0 (by omega)
 intro x;constructor
 ·intro hx
  refine hx _ hs ((h _ hs).1 fun d b hb=>?_)
  have hd:d<O.length:=by
   rw [←ok.len];rcases Nat.lt_or_ge d D.length with h|h
   ·exact h
   ·rw [List.getElem?_eq_none h]at hb;cases hb
  have:=HD.row s F ok hb hd
  exact⟨this.1.mono (Nat.zero_le _),this.2⟩
 ·intro hx N hN hl
  exact(hx.2.iff F hN ((h N hN).2 hl)).2 hN.one
structure CanD (O:List Int) (P:List (List Int)) (C:List (List (List Int))) (D:List (Option (List Int))) (u:List (List Int)):Prop where
 one:∀v∈u,gS O v∧dep v<O.length∧at_ v (dep v)=1
 asc:u.Pairwise fun a b=>dep a<dep b
 red:∀v∈u,∀w∈u,dep v≠dep w→at_ v (dep w)=0
 all:∀(d:Nat) (y:List Int),D[d]? = some (some y)→∃v∈u,dep v=d
 len:u.length≤O.length
 iff:∀N,gB O P C N→((∀x∈u,N x)↔InD N D)
theorem CanD.can (s:Shp O P C) (F:Full O P C O.length) (hC:Cent O C) (ok:OkD O D) (q:QI O P C D []) (cd:CanD O P C D u) (h:∀N,gB O P C N→(InD N D↔∀l∈L,N l)):CanG O (GC O P C L) u:=
 ⟨cd.asc,fun v hv N hN hl=>(cd.iff N hN).2 ((h N hN).2 hl) v hv,cd.one,cd.red,fun x hx hd=>by
  obtain⟨b,hb⟩:=HD.fil s F ((GC.table s F hC ok q h x).1 hx) hd;exact cd.all _ b hb⟩
section
variable (s:Shp O P C) (F:Full O P C O.length) (hC:Cent O C)
include s F hC
theorem zPQ (hb:gS O b) (k:Nat):∃j,gm O P C (pw (gm O P C) (zv O) b j) (pw (gm O P C) (zv O) b k)=zv O∧gm O P C (pw (gm O P C) (zv O) b k) (pw (gm O P C) (zv O) b j)=zv O:=by
 have M:=F.g.toMon;obtain⟨E,h1,h2⟩:=zJB s F hC hb;have e:pw (gm O P C) (zv O) b (E*k)=zv O:=by rw [M.pw_mul hb,h2,M.pw_e]
 have hle:k≤E*k:=Nat.le_mul_of_pos_left k h1;refine⟨E*k-k,?_,?_⟩
 ·rw [←M.pw_add hb,show E*k-k+k=E*k by omega,e]
 ·rw [←M.pw_add hb,show k+(E*k-k)=E*k by omega,e]
theorem Rdu.stepL (ok:OkD O D) (hb:D[d]? = some (some b)) (hd:d<O.length) (hz:TT O d z) (h0:at_ z d≠0) (hz':TT O (d+1) (gm O P C (pw (gm O P C) (zv O) b k) z)):Rdu O P C D z (gm O P C (pw (gm O P C) (zv O) b k) z):=by
 have G:=F.g;have bS:gS O b:=(ok.row d b hb).1.mono (Nat.zero_le _);have zS:gS O z:=hz.mono (Nat.zero_le _);obtain⟨j,h1,h2⟩:=zPQ s F hC bS k;refine .left (j:=j) hd hb hz h0 hz' ?_ (.refl _);rw [←G.as (G.pw bS j) (G.pw bS k) zS,h1,G.l1 zS]
theorem Rdu.stepR (ok:OkD O D) (hb:D[d]? = some (some b)) (hd:d<O.length) (hz:TT O d z) (h0:at_ z d≠0) (hw:gS O x) (hx:gm O P C x (pw (gm O P C) (zv O) b k)=z) (hx':TT O (d+1) x):Rdu O P C D z x:=
 .right (j:=k) hd hb hz h0 hx' hx.symm (.refl _)
end
end Go.Grp
namespace Go.Grp
end Go.Grp
namespace Go.Proofs
open Go.Ab Go.Lie Go.Grp
variable {σ:PHeap} {K:PV→PHeap→Prop} {O:List Int} {P:List (List Int)} {C:List (List (List Int))} {vO vP vC vx vy vL va vb:PV} {x y f a b:List Int} {L:List (List Int)} {rP rC rb:List PV} {D:List (Option (List Int))} {d j sp ss sb n:Nat}
structure SeqG (σ:PHeap) (ss sb sp:Nat) (n:Nat) (rb:List PV) (vO vP vC:PV):Prop where
 obj:σ.obj ss=some [.ptr sp 0,.sl sb 0 n (.known n)]
 lt:ss<σ.next
 bobj:σ.obj sb=some rb
 blt:sb<σ.next
 pg:PtrG σ sp vO vP vC
 ne1:ss≠sb
 ne2:sp≠sb
theorem SeqG.keep {h:PHeap} (q:SeqG σ ss sb sp n rb vO vP vC) (hk:Keep σ h):SeqG h ss sb sp n rb vO vP vC:=
 ⟨by rw [hk.obj _ q.lt];exact q.obj,Nat.lt_of_lt_of_le q.lt hk.next,by rw [hk.obj _ q.blt];exact q.bobj,Nat.lt_of_lt_of_le q.blt hk.next,q.pg.keep hk,q.ne1,q.ne2⟩
theorem SeqG.setB (q:SeqG σ ss sb sp n rb vO vP vC) (rb':List PV):SeqG (σ.set sb rb') ss sb sp n rb' vO vP vC:=
 ⟨by rw [zH,if_neg q.ne1];exact q.obj,q.lt,by rw [zH,if_pos rfl],q.blt,q.pg.set q.ne2 _,q.ne1,q.ne2⟩
def DRow (n:Nat) (c:PV) (r:Option (List Int)):Prop:=(c=.fz true .nils 0 []∧r=none)∨∃o cap y,c=.fz true (.sl o 0 n cap) n (pis y)∧r=some y
theorem DRow.bel {c:PV} {r:Option (List Int)} (h:DRow n c r):Bel 0 c:=by
 rcases h with ⟨rfl,_⟩|⟨_,_,_,rfl,_⟩<;>trivial
theorem DRow.bels {rb:List PV} {D:List (Option (List Int))} (h:All2 (DRow n) rb D) (m:Nat):Bels m rb:=by
 refine zEJ.2 fun c hc=>?_
 obtain⟨k,hk,rfl⟩:=List.mem_iff_getElem.1 hc;exact(DRow.bel (h.2 k _ _ (List.getElem?_eq_getElem hk) (List.getElem?_eq_getElem (by rw [←h.1];exact hk)))).up (Nat.zero_le _)
theorem DRow.get {rb:List PV} {D:List (Option (List Int))} (h:All2 (DRow n) rb D) {d:Nat} (hd:d<D.length):(rb[d]? = some (.fz true .nils 0 [])∧D[d]? = some none)∨∃o cap y,rb[d]? = some (.fz true (.sl o 0 n cap) n (pis y))∧D[d]? = some (some y):=by
 have hb:d<rb.length:=by rw [h.1];exact hd
 rw [List.getElem?_eq_getElem hb,List.getElem?_eq_getElem hd];rcases h.2 d _ _ (List.getElem?_eq_getElem hb) (List.getElem?_eq_getElem hd)with ⟨e1,e2⟩|⟨o,cap,y,e1,e2⟩
 ·exact .inl ⟨by rw [e1],by rw [e2]⟩
 ·exact .inr ⟨o,cap,y,by rw [e1],by rw [e2]⟩
theorem DRow.put {rb:List PV} {D:List (Option (List Int))} (h:All2 (DRow n) rb D) {o d:Nat} {cap:Cap}:All2 (DRow n) (rb.set d (.fz true (.sl o 0 n cap) n (pis y))) (D.set d (some y)):=by
 refine⟨by rw [List.length_set,List.length_set];exact h.1,fun k c r hc hr=>?_⟩
 rw [List.getElem?_set]at hc hr
 by_cases e:d=k
 ·rw [if_pos e]at hc hr
  split at hc
  ·split at hr
   ·cases hc;cases hr;exact .inr ⟨o,cap,y,rfl,rfl⟩
   ·cases hr
  ·cases hc
 ·rw [if_neg e]at hc hr
  exact h.2 k c r hc hr
theorem zMu (s:Shp O P C) (F:Full O P C O.length) (hn:0<O.length) (hs:PtrG σ sp vO vP vC) (hR:IsPr vO vP vC O P C) (ha:gS O a) (hva:FI va a) {k:Int} (hk0:0≤k∧k≤1000000) (hk:∀o cap,K (.fz true (.sl o 0 O.length cap) O.length (pis (Grp.pw (gm O P C) (zv O) a k.toNat))) σ):
  zA Tryz.prog 158 [.ptr sp 0,va,.int .i64 k] σ K:=by
 have hlen:=(F.g.pw ha k.toNat).len;refine zA.gh (zGs s F hs hR (by rw [Nat.sub_self];exact ha) hva hk0 ⟨fun h0=>?_,fun cap hc=>?_⟩)
 ·rw [h0]at hlen;simp at hlen;omega
 ·rw [hlen]at hc ⊢
  exact Gh.finF (zC σ _) (by simp [PHeap.new]) (Nat.le_refl _) (zN _ _) hc.ok fun o=>hk o cap
theorem zN3 (s:Shp O P C) (F:Full O P C O.length) (hC:Cent O C) (hq:SeqG σ ss sb sp O.length rb vO vP vC) (hR:IsPr vO vP vC O P C) (hD:OkD O D) (hrb:All2 (DRow O.length) rb D) (hx:gS O x) (hvx:FI vx x)
  (hk:∀v z,FI v z→gS O z→(dep z<O.length→D[dep z]? = some none)→Rdu O P C D x z→K v σ):zA Tryz.prog 279 [.ptr ss 0,vx] σ K:=by
 have hn6:=s.le;obtain⟨wx,ax,rfl⟩:=hvx;have hxl:=hx.len;have r0:σ.rd1 ss 0=some (.ptr sp 0):=by rw [zI hq.obj];rfl
 have r1:σ.rd1 ss 1=some (.sl sb 0 O.length (.known O.length)):=by rw [zI hq.obj];rfl
 have hR0:=hR;obtain⟨⟨w0,a0,rfl⟩,_,_⟩:=hR;have e0:σ.rd1 sp 0=some (.fz w0 a0 O.length (pis O)):=by rw [zI hq.pg.obj];rfl
 refine zL mix Tryz.func279 cf279 rfl ?_;dsimp only [if279,qI,qD,eD,mI0,lI0,xI0,bI0,cI0,sI0,C1,mD0,lD0,fD0,xD0,pD0,R0,S0];simp only [pwA,seval,-iQ0];refine Qq rfl (by omega) ?_
 simp only [pwA,seval,-iQ0];refine zG (fun m vs h'=>∃z w a,m=O.length-dep z∧vs=[.ptr ss 0,.fz w a O.length (pis z),.int .i64 (dep z)]∧σ=h'∧gS O z∧Rdu O P C D x z) _ ⟨x,wx,ax,rfl,by rw [hxl];rfl,rfl,hx,.refl _⟩ ?_
 rintro m vs h' ⟨z,w,a,rfl,rfl,rfl,hz,hN⟩
 have hzl:=hz.len
 by_cases hd:dep z<O.length
 ·have hrd:=zI hq.bobj (dep z)
  have hdz:dep z<z.length:=by omega
  have bz:=hz.bd _ hd;have bO:=s.pr _ hd;rw [at_eq hdz]at bz
  rw [at_eq hd]at bz bO
  rcases DRow.get hrb (d:=dep z) (by rw [hD.len];exact hd)with ⟨e1,e2⟩|⟨o,cap,y,e1,e2⟩
  ·rw [e1]at hrd
   simp only [pwA,seval,-iQ0,hd,r1,hrd];exact hk _ z ⟨w,a,by rw [hzl]⟩ hz (fun _=>e2) hN
  ·rw [e1]at hrd
   obtain⟨y1,y2⟩:=hD.row _ _ e2;have ew:IntKind.i64.wrap (O[dep z] - z[dep z])=O[dep z] - z[dep z]:=wrap64 (by omega) (by omega)
   simp only [pwA,seval,-iQ0,hd,r0,r1,hrd,e0,zU,gi hd,gi hdz,ew];refine zDv s F hq.pg hR0 (by rw [Nat.sub_self];exact y1.mono (Nat.zero_le _)) ⟨true,_,by rw [y1.len]⟩ (by omega) fun v1 f1=>?_
   simp only [pwA,seval,-iQ0,hd,r0,r1,hrd,e0];have g1:gS O (Grp.pw (gm O P C) (zv O) y (O[dep z] - z[dep z]).toNat):=F.g.pw (y1.mono (Nat.zero_le _)) _;refine zBV s F hq.pg hR0 (by rw [Nat.sub_self];exact g1) (by rw [Nat.sub_self];exact hz) f1 ⟨w,a,by rw [hzl]⟩ fun v2 f2=>?_
   have hst:=zFp s F hC hd (zAH hz) y1 y2;rw [at_eq hd,at_eq hdz]at hst
   have hz2:gS O (mu O P C O.length (Grp.pw (mu O P C O.length) (zv O) y (O[dep z] - z[dep z]).toNat) z):=F.g.cl g1 hz;have hz0:at_ z (dep z)≠0:=qc (by omega)
   have hN2:Rdu O P C D x (mu O P C O.length (Grp.pw (mu O P C O.length) (zv O) y (O[dep z] - z[dep z]).toNat) z):=hN.trans (Rdu.stepL s F hC hD e2 hd (zAH hz) hz0 hst);have hst2:TT O (dep z+1) (mu O P C O.length (Grp.pw (mu O P C O.length) (zv O) y (O[dep z] - z[dep z]).toNat) z):=hst;generalize mu O P C O.length (Grp.pw (mu O P C O.length) (zv O) y (O[dep z] - z[dep z]).toNat) z=z' at *
   have hge:=dep_ge hst2 (by omega)
   have hl':=hz2.len;have h0:z'[dep z]'(by omega)=0:=by
    have:=hst2.zero (dep z) (Nat.lt_succ_self _)
    rwa [at_eq (by omega)]at this
   obtain⟨w2,a2,rfl⟩:=f2;simp only [pwA,seval,-iQ0,hl',hd,zU,gi (show dep z<z'.length by omega),h0]
   refine Qq hl'.symm (by omega) ?_
   simp only [pwA,seval,-iQ0];exact⟨_,by omega,z',w2,a2,rfl,rfl,hz2,hN2⟩
 ·have hdn:dep z=O.length:=by have:=Zn z;omega
  simp only [pwA,seval,-iQ0,hdn,Nat.lt_irrefl];exact hk _ z ⟨w,a,by rw [hzl]⟩ hz (fun h=>by omega) hN
end Go.Proofs
