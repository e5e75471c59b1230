/- Plain law: a subgroup inside of another has a list that is no longer, and is the other if the lists are equally long. -/
import Derived.Test.YtcbdjookdepkbaaGreatAP29
open Int renaming reduceNatCast'→iQ0
set_option maxRecDepth 100000
set_option linter.unusedVariables false
set_option linter.unusedSimpArgs false
namespace Go.Lie
open Go.Ab
variable {p:Int} {n:Nat} {W:List (List Int)}
abbrev Vec:=Nat→Int
structure IsSub (p:Int) (n:Nat) (W:List (List Int)) (S:Vec→Prop):Prop where
 zero:S fun _=>0
 add:∀f g,S f→S g→S fun j=>f j+g j
 mul:∀k f,S f→S fun j=>k*f j
 eqv:∀f g,Eqv p n W f g→S g→S f
def comb (c:Nat→Int) (L:List (List Int)):Vec:=fun j=>sumN L.length fun k=>c k*at_ (L.getD k []) j
def Gen (p:Int) (n:Nat) (W:List (List Int)) (L:List (List Int)) (f:Vec):Prop:=∃c:Nat→Int,Eqv p n W f (comb c L)
theorem Qf (c d:Nat→Int) (L:List (List Int)) (j:Nat):comb (fun k=>c k+d k) L j=comb c L j+comb d L j:=by
 unfold comb;rw [←QY];exact zQ fun i _=>Int.add_mul _ _ _
theorem ZV (m:Int) (c:Nat→Int) (L:List (List Int)) (j:Nat):comb (fun k=>m*c k) L j=m*comb c L j:=by
 unfold comb;rw [←qa];exact zQ fun i _=>Int.mul_assoc _ _ _
theorem zK (L:List (List Int)):IsSub p n W (Gen p n W L):=by
 refine⟨⟨fun _=>0,Eqv.of_eq fun j=>?_⟩,fun f g ⟨c,hc⟩ ⟨d,hd⟩=>⟨fun k=>c k+d k,(hc.add hd).trans (Eqv.of_eq fun j=>(Qf c d L j).symm)⟩,
  fun k f ⟨c,hc⟩=>⟨fun i=>k*c i,(hc.mul k).trans (Eqv.of_eq fun j=>(ZV k c L j).symm)⟩,fun f g h ⟨c,hc⟩=>⟨c,h.trans hc⟩⟩
 unfold comb;rw [qG _ (fun i _=>Int.zero_mul _)]
theorem zM {L:List (List Int)} {v:List Int} (h:v∈L):Gen p n W L (at_ v):=by
 obtain⟨k,hk,rfl⟩:=List.mem_iff_getElem.1 h;refine⟨fun i=>if i=k then 1 else 0,Eqv.of_eq fun j=>?_⟩
 unfold comb;rw [ZG hk (fun i _ hi=>by dsimp only;rw [if_neg hi,Int.zero_mul])]
 dsimp only
 rw [if_pos rfl,Int.one_mul];simp [List.getD_eq_getElem?_getD,List.getElem?_eq_getElem hk]
theorem IsSub.sum {S:Vec→Prop} (h:IsSub p n W S):∀{m:Nat} {F:Nat→Vec},(∀k,k<m→S (F k))→S fun j=>sumN m fun k=>F k j
 | 0,_,_=>h.zero
 | m+1,F,hF=>h.add _ _ (IsSub.sum h fun k hk=>hF k (by omega)) (hF m (by omega))
theorem IsSub.comb {S:Vec→Prop} (h:IsSub p n W S) {L:List (List Int)} (hL:∀v∈L,S (at_ v)) (c:Nat→Int):S (comb c L):=
 h.sum fun k hk=>h.mul (c k) _ (hL _ (by
  have:L.getD k []=L[k]:=by simp [List.getD_eq_getElem?_getD,List.getElem?_eq_getElem hk]
  rw [this];exact List.getElem_mem hk))
theorem zBo {S:Vec→Prop} (h:IsSub p n W S) {L:List (List Int)} (hL:∀v∈L,S (at_ v)) {f:Vec} (hf:Gen p n W L f):S f:=by
 obtain⟨c,hc⟩:=hf;exact h.eqv _ _ hc (h.comb hL c)
theorem qy {L M:List (List Int)} (h:∀v∈L,Gen p n W M (at_ v)) {f:Vec} (hf:Gen p n W L f):Gen p n W M f:=zBo (zK M) h hf
theorem zX {L M:List (List Int)} (h:∀v∈L,v∈M) {f:Vec} (hf:Gen p n W L f):Gen p n W M f:=qy (fun v hv=>zM (h v hv)) hf
theorem zHj {f:Vec} (hf:Gen p n W [] f):Eqv p n W f fun _=>0:=by
 obtain⟨c,hc⟩:=hf;exact hc
theorem IsSub.sub {S:Vec→Prop} (h:IsSub p n W S) {f g:Vec} (hf:S f) (hg:S g):S fun j=>f j-g j:=by
 have:=h.add _ _ hf (h.mul (-1) _ hg)
 exact h.eqv _ _ (Eqv.of_eq fun j=>by omega) this
def dep:List Int→Nat
 | []=>0
 | x::xs=>if x=0 then dep xs+1 else 0
theorem zAN:∀v:List Int,dep v≤v.length
 | []=>Nat.le_refl _
 | x::xs=>by simp only [dep,List.length_cons];have:=zAN xs;split<;>omega
theorem za:∀{v:List Int} {j:Nat},j<dep v→at_ v j=0
 | [],j,h=>by simp [at_]
 | x::xs,j,h=>by
  simp only [dep]at h
  split at h
  ·rename_i hx
   cases j with
   | zero=>simp [at_,hx]
   | succ j=>
    have:=za (v:=xs) (j:=j) (by omega)
    simpa [at_]using this
  ·omega
theorem ZF:∀{v:List Int},dep v<v.length→at_ v (dep v)≠0
 | [],h=>by simp at h
 | x::xs,h=>by
  simp only [dep,List.length_cons]at h ⊢
  split at h
  ·rename_i hx
   rw [if_pos hx]
   have:=ZF (v:=xs) (by omega)
   simpa [at_]using this
  ·rename_i hx
   rw [if_neg hx]
   simpa [at_]using hx
theorem zDr {v:List Int} {d:Nat} (h1:∀j,j<d→at_ v j=0) (h2:at_ v d≠0):dep v=d:=by
 rcases Nat.lt_trichotomy (dep v) d with x|x|x
 ·have hd:d<v.length:=by
   rcases Nat.lt_or_ge d v.length with y|y
   ·exact y
   ·exact absurd (at_ge y) h2
  exact absurd (h1 _ x) (ZF (by omega))
 ·exact x
 ·exact absurd (za x) h2
theorem zDq {v:List Int} {d:Nat} (hd:d≤v.length) (h1:∀j,j<d→at_ v j=0):d≤dep v:=by
 rcases Nat.lt_or_ge (dep v) d with x|x
 ·exact absurd (h1 _ x) (ZF (by omega))
 ·exact x
theorem zLX {v:List Int} (h:dep v=v.length):∀x∈v,x=0:=fun x hx=>by
 obtain⟨j,hj,rfl⟩:=List.mem_iff_getElem.1 hx;rw [←at_eq hj];exact za (by omega)
theorem Zz (o:OkW p n W) {f g:Vec} (h:Eqv p n W f g) {d:Nat} (hd:d<n) (hf:∀j,j<d→0≤f j∧f j≤p-1) (hg:∀j,j<d→0≤g j∧g j≤p-1):(∀j,j<d→f j=g j)∧∃k:Int,f d=g d-k*p:=by
 obtain⟨c,hc⟩:=h;have hp:=o.pr;unfold okp at hp
 have val:∀i,i≤d→(∀k,k<i→c k=0)→f i=g i-c i*p:=by
  intro i hi hk;have h1:=hc i;rw [ZG (k:=i) (by omega) (fun k hkn hne=>by
   rcases Nat.lt_or_ge k i with x|x
   ·rw [hk k x,Int.zero_mul]
   ·rw [rel,o.zero x,if_neg (fun e=>hne e.symm)];simp)]at h1
  rw [rel,o.zero (Nat.le_refl _),if_pos rfl,Int.zero_sub,Int.mul_neg]at h1
  omega
 have key:∀m,m≤d→∀i,i<m→c i=0:=by
  intro m
  induction m with
  | zero=>intro _ i hi;omega
  | succ m ih=>
   intro hm i hi
   by_cases e:i=m
   ·subst e
    have h1:=val i (by omega) (ih (by omega))
    have h2:=hf i (by omega)
    have h3:=hg i (by omega)
    rcases Int.lt_trichotomy (c i) 0 with x|x|x
    ·have:=Int.mul_le_mul_of_nonneg_right (show c i≤-1 by omega) (show 0≤p by omega)
     omega
    ·exact x
    ·have:=Int.mul_le_mul_of_nonneg_right (show 1≤c i by omega) (show 0≤p by omega)
     omega
   ·exact ih (by omega) i (by omega)
 refine⟨fun j hj=>?_,c d,val d (Nat.le_refl _) (key d (Nat.le_refl _))⟩
 have:=val j (by omega) (fun k hk=>key d (Nat.le_refl _) k (by omega))
 rw [key d (Nat.le_refl _) j hj]at this
 omega
theorem zBj (o:OkW p n W) {v:List Int} (hv:v.length=n) {d:Nat} (hd:d≤n) (h:∀j,j<d→at_ v j=0):∀j,j<d→at_ (norm p W v) j=0:=by
 have hp:=o.pr;unfold okp at hp
 have hb:=ZH o hv;intro j hj
 have:=(Zz o (zh o hv) (d:=j) (by omega) (fun i _=>hb.at (by omega) i) (fun i hi=>by rw [h i (by omega)];omega)).1
 obtain⟨k,hk⟩:=(Zz o (zh o hv) (d:=j) (by omega) (fun i _=>hb.at (by omega) i) (fun i hi=>by rw [h i (by omega)];omega)).2
 rw [h j hj]at hk
 have h2:=hb.at (by omega) j
 rcases Int.lt_trichotomy k 0 with x|x|x
 ·have:=Int.mul_le_mul_of_nonneg_right (show k≤-1 by omega) (show 0≤p by omega)
  omega
 ·rw [x]at hk;omega
 ·have:=Int.mul_le_mul_of_nonneg_right (show 1≤k by omega) (show 0≤p by omega)
  omega
theorem zEb (o:OkW p n W) {v:List Int} (hv:v.length=n) {d:Nat} (hd:d<n) (h:∀j,j<d→at_ v j=0):at_ (norm p W v) d=at_ v d % p:=by
 have hp:=o.pr;unfold okp at hp
 have hb:=ZH o hv;obtain⟨k,hk⟩:=(Zz o (zh o hv) hd (fun i _=>hb.at (by omega) i) (fun i hi=>by rw [h i hi];omega)).2
 have h2:=hb.at (by omega) d
 have:at_ v d=at_ (norm p W v) d+p*k:=by rw [Int.mul_comm p k];omega
 rw [this,Int.add_mul_emod_self_left];exact(Int.emod_eq_of_lt h2.1 (by omega)).symm
theorem push (o:OkW p n W) {d:Nat} (hd:d<n) {f:Vec} (h:∀j,j<d→f j=0) (hn:∀j,n≤j→f j=0):∃g:Vec,Eqv p n W (fun j=>p*f j) g∧(∀j,j≤d→g j=0)∧∀j,n≤j→g j=0:=by
 have h1:=(Eqv.rel (p:=p) (W:=W) hd).mul (f d);refine⟨fun j=>p*f j+f d*rel p W d j,?_,fun j hj=>?_,fun j hj=>?_⟩
 ·have h2:=(Eqv.refl (p:=p) (n:=n) (W:=W) (fun j=>p*f j)).add h1.symm
  refine(Eqv.of_eq fun j=>?_).trans h2
  omega
 ·dsimp only
  rcases Nat.lt_or_ge j d with x|x
  ·rw [h j x,rel,o.zero (by omega:j≤d),if_neg (by omega)];simp
  ·have:j=d:=by omega
   subst this;rw [rel,o.zero (Nat.le_refl _),if_pos rfl,Int.zero_sub,Int.mul_neg,Int.mul_comm p];omega
 ·dsimp only
  rw [hn j hj,rel,if_neg (by omega)]
  have:w_ W d j=0:=by
   rw [w_];exact at_ge (by rw [o.rowlen hd];exact hj)
  rw [this];simp
def pw_ (p:Int):Nat→Int
 | 0=>1
 | k+1=>p*pw_ p k
theorem kill (o:OkW p n W):∀(k:Nat) {f:Vec},k≤n→(∀j,j<n-k→f j=0)→(∀j,n≤j→f j=0)→Eqv p n W (fun j=>pw_ p k*f j) fun _=>0
 | 0,f,_,h,hn=>Eqv.of_eq fun j=>by
  rcases Nat.lt_or_ge j n with x|x
  ·rw [h j (by omega)];simp
  ·rw [hn j x];simp
 | k+1,f,hk,h,hn=>by
  obtain⟨g,h1,h2,h3⟩:=push o (d:=n-(k+1)) (by omega) h hn
  have ih:=kill o k (f:=g) (by omega) (fun j hj=>h2 j (by omega)) h3
  have h4:=h1.mul (pw_ p k);refine(Eqv.of_eq fun j=>?_).trans (h4.trans ih)
  rw [pw_,Int.mul_comm p,Int.mul_assoc]
theorem zF0 (o:OkW p n W) {f:Vec} (hn:∀j,n≤j→f j=0):Eqv p n W (fun j=>pw_ p n*f j) fun _=>0:=kill o n (Nat.le_refl _) (fun j hj=>by omega) hn
theorem zHg (t:Int):∀m:Nat,0<m→∃e s:Int,e*(1+p*t)=1+pw_ p m*s
 | 0,h=>by omega
 | 1,_=>⟨1,t,by simp [pw_]⟩
 | m+2,_=>by
  obtain⟨e,s,h⟩:=zHg t (m+1) (by omega)
  refine⟨e*(1-pw_ p (m+1)*s),-(pw_ p m*s*s),?_⟩;have h1:e*(1-pw_ p (m+1)*s)*(1+p*t)=(e*(1+p*t))*(1-pw_ p (m+1)*s):=by
   rw [Int.mul_assoc,Int.mul_comm (1-pw_ p (m+1)*s),←Int.mul_assoc]
  rw [h1,h];have h2:pw_ p (m+2) * -(pw_ p m*s*s)=-(pw_ p (m+1)*s*(pw_ p (m+1)*s)):=by
   simp only [pw_];rw [Int.mul_neg]
   congr 1
   simp only [Int.mul_assoc,Int.mul_left_comm,Int.mul_comm]
  rw [h2,Int.add_mul,Int.one_mul,Int.mul_sub,Int.mul_one];omega
end Go.Lie
namespace Go.Lie
open Go.Ab
variable {p:Int} {n:Nat} {W:List (List Int)}
theorem El.at0 {v:List Int} (h:El p n v) (o:OkW p n W) (j:Nat):0≤at_ v j∧at_ v j≤p-1:=h.2.at (by have:=o.pr.1;omega) j
theorem El.beyond {v:List Int} (h:El p n v) {j:Nat} (hj:n≤j):at_ v j=0:=at_ge (by rw [h.1];exact hj)
theorem QA (o:OkW p n W) {v:List Int} (hv:v.length=n):El p n (norm p W v):=⟨zw o hv,ZH o hv⟩
theorem zM6 {a b:List Int} (ha:El p n a) (hb:El p n b) (h:∀j,j<n→at_ a j=at_ b j):a=b:=zAy (ha.1.trans hb.1.symm) fun j hj=>h j (by rw [←ha.1];exact hj)
theorem zJr (o:OkW p n W) {v:List Int} (hv:v.length=n) {m:Nat} (hm:m≤n) (h:∀j,j<m→0≤at_ v j∧at_ v j≤p-1) {j:Nat} (hj:j<m):at_ (norm p W v) j=at_ v j:=by
 have hp:=o.pr;unfold okp at hp
 have hb:=ZH o hv;obtain⟨k,hk⟩:=(Zz o (zh o hv) (d:=j) (by omega) (fun i _=>hb.at (by omega) i) (fun i hi=>h i (by omega))).2
 have h1:=hb.at (by omega) j
 have h2:=h j hj;rcases Int.lt_trichotomy k 0 with x|x|x
 ·have:=Int.mul_le_mul_of_nonneg_right (show k≤-1 by omega) (show 0≤p by omega)
  omega
 ·rw [x]at hk;omega
 ·have:=Int.mul_le_mul_of_nonneg_right (show 1≤k by omega) (show 0≤p by omega)
  omega
abbrev red1 (p:Int) (W:List (List Int)) (x v:List Int):List Int:=norm p W (lmix 1 x (-(at_ x (dep v))) v)
def redL (p:Int) (W:List (List Int)):List (List Int)→List Int→List Int
 | [],x=>x
 | v::u,x=>redL p W u (red1 p W x v)
def Led (p:Int) (n:Nat) (v:List Int):Prop:=El p n v∧dep v<n∧at_ v (dep v)=1
theorem zB4 (o:OkW p n W) {x v:List Int} (hx:El p n x) (hv:El p n v):El p n (red1 p W x v):=QA o (by rw [zL (hx.1.trans hv.1.symm)];exact hx.1)
theorem zFT (o:OkW p n W) {x v:List Int} (hx:El p n x) (hv:El p n v):Eqv p n W (at_ (red1 p W x v)) (fun j=>at_ x j-at_ x (dep v)*at_ v j):=
 (zh o (by rw [zL (hx.1.trans hv.1.symm)];exact hx.1)).trans (Eqv.of_eq fun j=>by rw [zq (hx.1.trans hv.1.symm),Int.neg_mul];omega)
theorem zEB (o:OkW p n W) {x v:List Int} (hx:El p n x) (hv:Led p n v) {j:Nat} (hj:j≤dep v):at_ (red1 p W x v) j=if j=dep v then 0 else at_ x j:=by
 have hl:=hx.1.trans hv.1.1.symm;have hp:=o.pr;unfold okp at hp
 have e:∀i,i≤dep v→at_ (lmix 1 x (-(at_ x (dep v))) v) i=if i=dep v then 0 else at_ x i:=fun i hi=>by
  rw [zq hl]
  split
  ·rename_i h;subst h;rw [hv.2.2];omega
  ·rw [za (by omega:i<dep v)];omega
 rw [zJr o (m:=dep v+1) (by rw [zL hl];exact hx.1) (by have:=hv.2.1;omega) (fun i hi=>by
  rw [e i (by omega)]
  have:=hx.at0 o i
  split<;>omega) (by omega),e j hj]
theorem zI7 (o:OkW p n W) {x v:List Int} (hx:El p n x) (hv:El p n v) (h:at_ x (dep v)=0):red1 p W x v=x:=by
 have hl:=hx.1.trans hv.1.symm
 have:lmix 1 x (-(at_ x (dep v))) v=x:=zAy (zL hl) fun j _=>by rw [zq hl,h];omega
 rw [red1,this,zJq o hx.1 hx.2]
theorem ZA (o:OkW p n W):∀{u:List (List Int)} {x:List Int},(∀v∈u,El p n v)→El p n x→El p n (redL p W u x)
 | [],x,_,hx=>hx
 | v::u,x,hu,hx=>by rw [redL];exact ZA o (fun w hw=>hu w (by simp [hw])) (zB4 o hx (hu v (by simp)))
theorem zA7 (o:OkW p n W):∀{u:List (List Int)} {x:List Int},(∀v∈u,El p n v)→El p n x→Gen p n W u (fun j=>at_ x j-at_ (redL p W u x) j)
 | [],x,_,hx=>(zK []).eqv _ _ (Eqv.of_eq fun j=>Int.sub_self _) (zK []).zero
 | v::u,x,hu,hx=>by
  have hv:=hu v (by simp)
  have h1:=zA7 o (u:=u) (fun w hw=>hu w (by simp [hw])) (zB4 o hx hv)
  have h2:Gen p n W (v::u) (fun j=>at_ (red1 p W x v) j-at_ (redL p W u (red1 p W x v)) j):=zX (fun w hw=>by simp [hw]) h1
  have h3:=(zK (v::u)).mul (at_ x (dep v)) _ (zM (p:=p) (n:=n) (W:=W) (show v∈v::u by simp))
  have h4:=(zK (v::u)).add _ _ h3 h2;refine(zK (v::u)).eqv _ _ ?_ h4;have e1:=(zFT o hx hv).symm.add (Eqv.refl (p:=p) (n:=n) (W:=W) fun j=>at_ x (dep v)*at_ v j-at_ (redL p W u (red1 p W x v)) j)
  refine(Eqv.of_eq fun j=>?_).trans (e1.trans (Eqv.of_eq fun j=>?_))
  ·rw [redL];omega
  ·omega
abbrev Asc (u:List (List Int)):Prop:=u.Pairwise fun a b=>dep a<dep b
theorem QZ (o:OkW p n W):∀{u:List (List Int)} {x:List Int},(∀v∈u,Led p n v)→Asc u→El p n x→
  (∀v∈u,at_ (redL p W u x) (dep v)=0)∧∀j,(∀v∈u,j<dep v)→at_ (redL p W u x) j=at_ x j
 | [],x,_,_,hx=>⟨fun v hv=>(by cases hv),fun j _=>rfl⟩
 | v::u,x,hu,ha,hx=>by
  have hv:=hu v (by simp)
  obtain⟨ha1,ha2⟩:=List.pairwise_cons.1 ha;obtain⟨h1,h2⟩:=QZ o (fun w hw=>hu w (by simp [hw])) ha2 (zB4 o hx hv.1)
  refine⟨fun w hw=>?_,fun j hj=>?_⟩
  ·rcases List.mem_cons.1 hw with rfl | hw
   ·rw [redL,h2 _ (fun z hz=>ha1 z hz),zEB o hx hv (Nat.le_refl _),if_pos rfl]
   ·exact h1 w hw
  ·have:=hj v (by simp)
   rw [redL,h2 j (fun z hz=>hj z (by simp [hz])),zEB o hx hv (by omega),if_neg (by omega)]
theorem zC4 (o:OkW p n W) {u:List (List Int)} (hu:∀v∈u,El p n v) {m:Nat} (hm:m≤n) (h:∀v∈u,∀j,j<m→at_ v j=0) {z:List Int} (hz:El p n z) (hg:Gen p n W u (at_ z)):∀j,j<m→at_ z j=0:=by
 obtain⟨c,hc⟩:=hg;have hcomb:∀j,j<m→comb c u j=0:=fun j hj=>qG _ fun k hk=>by
  have:u.getD k []=u[k]:=by simp [List.getD_eq_getElem?_getD,List.getElem?_eq_getElem hk]
  rw [this,h _ (List.getElem_mem hk) j hj,Int.mul_zero]
 intro j hj;have hp:=o.pr;unfold okp at hp
 obtain⟨k,hk⟩:=(Zz o hc (d:=j) (by omega) (fun i _=>hz.at0 o i) (fun i hi=>by rw [hcomb i (by omega)];omega)).2
 rw [hcomb j hj]at hk
 have h1:=hz.at0 o j;rcases Int.lt_trichotomy k 0 with x|x|x
 ·have:=Int.mul_le_mul_of_nonneg_right (show k≤-1 by omega) (show 0≤p by omega)
  omega
 ·rw [x]at hk;omega
 ·have:=Int.mul_le_mul_of_nonneg_right (show 1≤k by omega) (show 0≤p by omega)
  omega
def tab (n:Nat) (f:Vec):List Int:=(List.range n).map f
theorem ZO (f:Vec):(tab n f).length=n:=by simp [tab]
theorem zMi (f:Vec) (hf:∀j,n≤j→f j=0) (j:Nat):at_ (tab n f) j=f j:=by
 rcases Nat.lt_or_ge j n with x|x
 ·rw [at_eq (by rw [ZO];exact x)];simp [tab]
 ·rw [at_ge (by rw [ZO];exact x),hf j x]
theorem zHM {u:List (List Int)} (hu:∀v∈u,El p n v) (c:Nat→Int) {j:Nat} (hj:n≤j):comb c u j=0:=qG _ fun k hk=>by
 have:u.getD k []=u[k]:=by simp [List.getD_eq_getElem?_getD,List.getElem?_eq_getElem hk]
 rw [this,(hu _ (List.getElem_mem hk)).beyond hj,Int.mul_zero]
theorem zHi (o:OkW p n W) {u:List (List Int)} (hu:∀v∈u,El p n v) {f:Vec} (hg:Gen p n W u f):∃z,El p n z∧Eqv p n W f (at_ z)∧Gen p n W u (at_ z):=by
 obtain⟨c,hc⟩:=hg;have h1:=zh o (ZO (comb c u));have h2:at_ (tab n (comb c u))=comb c u:=funext fun j=>zMi _ (fun j hj=>zHM hu c hj) j
 rw [h2]at h1
 exact⟨_,QA o (ZO _),hc.trans h1.symm,c,h1⟩
theorem zKC (c:Nat→Int) (v:List Int) (u:List (List Int)) (j:Nat):comb c (v::u) j=c 0*at_ v j+comb (fun k=>c (k+1)) u j:=by
 unfold comb
 have:∀(m:Nat) (f:Nat→Int),sumN (m+1) f=f 0+sumN m fun k=>f (k+1):=by
  intro m f
  induction m with
  | zero=>simp [sumN]
  | succ m ih=>rw [sumN,ih,sumN];omega
 rw [List.length_cons,this]
 rfl
theorem zLQ {v:List Int} {u:List (List Int)} {f:Vec} (hg:Gen p n W (v::u) f):∃(k:Int) (g:Vec),Gen p n W u g∧Eqv p n W f fun j=>k*at_ v j+g j:=by
 obtain⟨c,hc⟩:=hg;exact⟨c 0,comb (fun k=>c (k+1)) u,⟨_,Eqv.refl _⟩,hc.trans (Eqv.of_eq fun j=>zKC c v u j)⟩
inductive Base (p:Int) (n:Nat) (W:List (List Int)):List (List Int)→Prop where
 | nil:Base p n W []
 | cons {v:List Int} {u:List (List Int)} (hv:Led p n v) (ha:∀w∈u,dep v<dep w) (hc:Gen p n W u fun j=>p*at_ v j) (h:Base p n W u):Base p n W (v::u)
theorem Base.led:∀{u:List (List Int)},Base p n W u→∀v∈u,Led p n v
 | _,.nil,v,h=>(by cases h)
 | _,.cons hv _ _ hb,w,h=>(List.mem_cons.1 h).elim (fun e=>e ▸ hv) (fun h=>hb.led w h)
theorem Base.asc:∀{u:List (List Int)},Base p n W u→Asc u
 | _,.nil=>List.Pairwise.nil
 | _,.cons _ ha _ hb=>List.pairwise_cons.2 ⟨ha,hb.asc⟩
theorem Base.els {u:List (List Int)} (h:Base p n W u):∀v∈u,El p n v:=fun v hv=>(h.led v hv).1
theorem zAB (o:OkW p n W):∀{u:List (List Int)},Base p n W u→∀{z:List Int},El p n z→Gen p n W u (at_ z)→dep z<n→∃v∈u,dep v=dep z
 | _,.nil,z,hz,hg,hd=>by
  have h1:=zC4 o (u:=[]) (by simp) (Nat.le_refl n) (by simp) hz hg
  exact absurd (h1 _ hd) (ZF (by rw [hz.1];exact hd))
 | _,.cons (v:=v) (u:=u) hv ha hc hb,z,hz,hg,hd=>by
  have hp:=o.pr;unfold okp at hp
  obtain⟨k,g,hg1,he⟩:=zLQ hg;have h1:Gen p n W u fun j=>(k / p)*(p*at_ v j)+g j:=(zK u).add _ _ ((zK u).mul (k / p) _ hc) hg1
  obtain⟨y,hy,hye,hyg⟩:=zHi o hb.els h1;have hmod:=Int.emod_add_mul_ediv k p;have h2:Eqv p n W (at_ z) fun j=>k % p*at_ v j+at_ y j:=by
   refine he.trans ?_
   have:=(Eqv.refl (p:=p) (n:=n) (W:=W) fun j=>k % p*at_ v j).add hye
   refine(Eqv.of_eq fun j=>?_).trans this
   have e1:k*at_ v j=(k % p+p*(k / p))*at_ v j:=by rw [hmod]
   rw [e1,Int.add_mul,Int.mul_comm p (k / p),Int.mul_assoc];omega
  by_cases h0:k % p=0
  ·obtain⟨w,hw,e⟩:=zAB o hb hz ((zK u).eqv _ _ (h2.trans (Eqv.of_eq fun j=>by rw [h0];omega)) hyg) hd
   exact⟨w,by simp [hw],e⟩
  ·refine⟨v,by simp,?_⟩
   have hyz:=zC4 o hb.els (m:=dep v+1) (by have:=hv.2.1;omega) (fun w hw j hj=>za (by have:=ha w hw;omega)) hy hyg
   have hkb:=Int.emod_nonneg k (show p≠0 by omega)
   have hkl:=Int.emod_lt_of_pos k (show 0<p by omega)
   have hval:∀j,j≤dep v→k % p*at_ v j+at_ y j=if j=dep v then k % p else 0:=fun j hj=>by
    rw [hyz j (by omega)]
    split
    ·rename_i e;subst e;rw [hv.2.2];omega
    ·rw [za (by omega:j<dep v)];simp
   have key:=fun d (hd:d≤dep v)=>Zz o h2 (d:=d) (by have:=hv.2.1;omega) (fun i _=>hz.at0 o i) (fun i hi=>by rw [hval i (by omega),if_neg (by omega)];omega)
   refine(zDr (fun j hj=>?_) ?_).symm
   ·rw [(key (dep v) (Nat.le_refl _)).1 j hj,hval j (by omega),if_neg (by omega)]
   ·obtain⟨t,ht⟩:=(key (dep v) (Nat.le_refl _)).2
    rw [hval _ (Nat.le_refl _),if_pos rfl]at ht
    intro h;rw [h]at ht
    rcases Int.lt_trichotomy t 0 with x|x|x
    ·have:=Int.mul_le_mul_of_nonneg_right (show t≤-1 by omega) (show 0≤p by omega)
     omega
    ·rw [x]at ht;omega
    ·have:=Int.mul_le_mul_of_nonneg_right (show 1≤t by omega) (show 0≤p by omega)
     omega
end Go.Lie
namespace Go.Lie
open Go.Ab
variable {p:Int} {n:Nat} {W:List (List Int)}
theorem QI {α:Type} {R:α→α→Prop}:∀{l:List α},l.Pairwise R→∀{a b:α},a∈l→b∈l→a=b∨R a b∨R b a
 | [],_,a,b,ha,_=>by cases ha
 | x::l,h,a,b,ha,hb=>by
  obtain⟨h1,h2⟩:=List.pairwise_cons.1 h;rcases List.mem_cons.1 ha with ea|ha'
  ·rcases List.mem_cons.1 hb with eb | hb'
   ·exact .inl (ea.trans eb.symm)
   ·rw [ea];exact .inr (.inl (h1 b hb'))
  ·rcases List.mem_cons.1 hb with eb | hb'
   ·rw [eb];exact .inr (.inr (h1 a ha'))
   ·exact QI h2 ha' hb'
theorem zHr:∀{u w:List (List Int)},Asc u→Asc w→(∀v,v∈u↔v∈w)→u=w
 | [],[],_,_,_=>rfl
 | [],x::w,_,_,h=>by have:=(h x).2 (by simp);cases this
 | x::u,[],_,_,h=>by have:=(h x).1 (by simp);cases this
 | x::u,y::w,hu,hw,h=>by
  obtain⟨h1,h2⟩:=List.pairwise_cons.1 hu;obtain⟨h3,h4⟩:=List.pairwise_cons.1 hw;have e:x=y:=by
   rcases List.mem_cons.1 ((h x).1 (by simp))with e|e
   ·exact e
   ·rcases List.mem_cons.1 ((h y).2 (by simp))with e' | e'
    ·exact e'.symm
    ·have:=h3 x e;have:=h1 y e';omega
  subst e
  congr 1
  refine zHr h2 h4 fun v=>⟨fun hv=>?_,fun hv=>?_⟩
  ·rcases List.mem_cons.1 ((h v).1 (by simp [hv]))with e | e
   ·subst e;have:=h1 v hv;omega
   ·exact e
  ·rcases List.mem_cons.1 ((h v).2 (by simp [hv]))with e | e
   ·subst e;have:=h3 v hv;omega
   ·exact e
abbrev Red (u:List (List Int)):Prop:=u.Pairwise fun a b=>at_ a (dep b)=0
theorem zI6 {u:List (List Int)} (ha:Asc u) (hr:Red u) {v x:List Int} (hv:v∈u) (hx:x∈u) (h:dep v<dep x):at_ v (dep x)=0:=by
 have:=QI (R:=fun a b:List Int=>dep a<dep b∧at_ a (dep b)=0) (List.Pairwise.and ha hr) hv hx
 rcases this with e|e|e
 ·subst e;omega
 ·exact e.2
 ·omega
theorem zEp (o:OkW p n W) {u w:List (List Int)} (hu:Base p n W u) (ru:Red u) (hw:Base p n W w) (rw_:Red w) (h:∀f,Gen p n W u f→Gen p n W w f) (h':∀f,Gen p n W w f→Gen p n W u f) {v x:List Int} (hv:v∈u) (hx:x∈w) (e:dep x=dep v):v=x:=by
 have lv:=hu.led v hv;have lx:=hw.led x hx;have hl:=lv.1.1.trans lx.1.1.symm;have hp:=o.pr;unfold okp at hp
 have hyl:(lmix 1 v (-1) x).length=n:=by rw [zL hl];exact lv.1.1
 rcases Nat.lt_or_ge (dep (lmix 1 v (-1) x)) n with hd|hd
 rotate_left
 ·refine zM6 lv.1 lx.1 fun j hj=>?_
  have:=za (v:=lmix 1 v (-1) x) (j:=j) (by omega)
  rw [zq hl]at this
  omega
 have hz:∀j,j<dep (lmix 1 v (-1) x)→at_ (norm p W (lmix 1 v (-1) x)) j=0:=zBj o hyl (by omega) fun j hj=>za hj
 have hne:at_ (norm p W (lmix 1 v (-1) x)) (dep (lmix 1 v (-1) x))≠0:=by
  rw [zEb o hyl hd fun j hj=>za hj]
  have h1:=ZF (v:=lmix 1 v (-1) x) (by rw [hyl];exact hd)
  rw [zq hl]at h1 ⊢
  have b1:=lv.1.at0 o (dep (lmix 1 v (-1) x));have b2:=lx.1.at0 o (dep (lmix 1 v (-1) x));intro h0
  have:=Int.emod_add_mul_ediv (1*at_ v (dep (lmix 1 v (-1) x)) + -1*at_ x (dep (lmix 1 v (-1) x))) p
  rw [h0,Int.zero_add]at this
  generalize (1*at_ v (dep (lmix 1 v (-1) x)) + -1*at_ x (dep (lmix 1 v (-1) x))) / p=q at this
  rcases Int.lt_trichotomy q 0 with y|y|y
  ·have:=Int.mul_le_mul_of_nonneg_left (show q≤-1 by omega) (show 0≤p by omega)
   omega
  ·rw [y]at this;omega
  ·have:=Int.mul_le_mul_of_nonneg_left (show 1≤q by omega) (show 0≤p by omega)
   omega
 have hdep:=zDr hz hne;have hg:Gen p n W u (at_ (norm p W (lmix 1 v (-1) x))):=by
  refine(zK u).eqv _ _ ((zh o hyl).trans (Eqv.of_eq fun j=>?_)) ((zK u).sub (zM hv) (h' _ (zM hx)))
  rw [zq hl];omega
 obtain⟨t,ht,et⟩:=zAB o hu (QA o hyl) hg (by omega)
 obtain⟨s,hs,es⟩:=zAB o hw (QA o hyl) (h _ hg) (by omega)
 have hdn:=ZF (v:=lmix 1 v (-1) x) (by rw [hyl];exact hd)
 rw [zq hl]at hdn
 exfalso
 rcases Nat.lt_trichotomy (dep v) (dep t)with y|y|y
 ·have q1:=zI6 hu.asc ru hv ht y
  have q2:=zI6 hw.asc rw_ hx hs (by omega)
  rw [et,hdep]at q1
  rw [es,hdep]at q2
  rw [q1,q2]at hdn
  omega
 ·have e2:dep (lmix 1 v (-1) x)=dep v:=by omega
  rw [e2,lv.2.2,←e,lx.2.2]at hdn
  omega
 ·have e2:dep (lmix 1 v (-1) x)<dep v:=by omega
  rw [za e2,za (by omega)]at hdn
  omega
theorem zGG (o:OkW p n W) {u w:List (List Int)} (hu:Base p n W u) (ru:Red u) (hw:Base p n W w) (rw_:Red w) (h:∀f,Gen p n W u f→Gen p n W w f) (h':∀f,Gen p n W w f→Gen p n W u f):u=w:=by
 refine zHr hu.asc hw.asc fun v=>⟨fun hv=>?_,fun hv=>?_⟩
 ·have lv:=hu.led v hv
  obtain⟨x,hx,e⟩:=zAB o hw lv.1 (h _ (zM hv)) lv.2.1;rw [zEp o hu ru hw rw_ h h' hv hx e];exact hx
 ·have lv:=hw.led v hv
  obtain⟨x,hx,e⟩:=zAB o hu lv.1 (h' _ (zM hv)) lv.2.1;rw [zEp o hw rw_ hu ru h' h hv hx e];exact hx
theorem zF5 (o:OkW p n W) {v:List Int} {t t' s:List (List Int)} (hb:Base p n W (v::t)) (hb':Base p n W t') (hr':Red t') (hg:∀f,Gen p n W t f↔Gen p n W t' f) (hs:Base p n W s) (hsd:∀x∈t',∃y∈s,dep y=dep x) (hsl:∀y∈s,dep v<dep y) (hst:∀f,Gen p n W s f→Gen p n W t' f) (htd:∀x∈t',dep v<dep x):
  Base p n W (redL p W s v::t')∧Red (redL p W s v::t')∧(∀f,Gen p n W (v::t) f↔Gen p n W (redL p W s v::t') f)∧dep (redL p W s v)=dep v:=by
 cases hb with
 | cons hv ha hc hbt=>
 have hel:=ZA o hs.els hv.1;obtain⟨h1,h2⟩:=QZ o hs.led hs.asc hv.1;have hg1:=zA7 o hs.els hv.1;have hsame:∀j,j≤dep v→at_ (redL p W s v) j=at_ v j:=fun j hj=>h2 j fun y hy=>by have:=hsl y hy;omega
 have hdep:dep (redL p W s v)=dep v:=zDr (fun j hj=>by rw [hsame j (by omega)];exact za hj) (by rw [hsame _ (Nat.le_refl _),hv.2.2];decide)
 refine⟨.cons ⟨hel,by rw [hdep];exact hv.2.1,by rw [hdep,hsame _ (Nat.le_refl _)];exact hv.2.2⟩ (fun x hx=>by rw [hdep];exact htd x hx) ?_ hb',List.pairwise_cons.2 ⟨fun x hx=>?_,hr'⟩,fun f=>⟨fun hf=>?_,fun hf=>?_⟩,hdep⟩
 ·have q1:=(zK t').mul p _ (hst _ hg1)
  have q2:=(zK t').sub ((hg _).1 hc) q1;exact(zK t').eqv _ _ (Eqv.of_eq fun j=>by rw [Int.mul_sub];omega) q2
 ·obtain⟨y,hy,e⟩:=hsd x hx
  rw [←e];exact h1 y hy
 ·refine qy (fun x hx=>?_) hf
  rcases List.mem_cons.1 hx with rfl|hx
  ·have q1:Gen p n W (redL p W s x::t') fun j=>at_ x j-at_ (redL p W s x) j:=zX (fun y hy=>by simp [hy]) (hst _ hg1)
   have q2:=(zK (redL p W s x::t')).add _ _ q1 (zM (v:=redL p W s x) (by simp))
   exact(zK _).eqv _ _ (Eqv.of_eq fun j=>by omega) q2
  ·exact zX (fun y hy=>by simp [hy]) ((hg _).1 (zM hx))
 ·refine qy (fun x hx=>?_) hf
  rcases List.mem_cons.1 hx with rfl|hx
  ·have q1:Gen p n W (v::t) fun j=>at_ v j-at_ (redL p W s v) j:=zX (fun y hy=>by simp [hy]) ((hg _).2 (hst _ hg1))
   have q2:=(zK (v::t)).sub (zM (v:=v) (by simp)) q1
   exact(zK _).eqv _ _ (Eqv.of_eq fun j=>by omega) q2
  ·exact zX (fun y hy=>by simp [hy]) ((hg _).2 (zM hx))
def finS (p:Int) (W:List (List Int)):List (List Int)→List (List Int)
 | []=>[]
 | v::t=>redL p W t v::finS p W t
def finI (p:Int) (W:List (List Int)):List (List Int)→List (List Int)
 | []=>[]
 | v::t=>redL p W (finI p W t) v::finI p W t
structure Canon (p:Int) (n:Nat) (W:List (List Int)) (gens out:List (List Int)):Prop where
 base:Base p n W out
 red:Red out
 gen:∀f,Gen p n W gens f↔Gen p n W out f
theorem zHl (o:OkW p n W):∀{u:List (List Int)},Base p n W u→Canon p n W u (finS p W u)∧(finS p W u).map dep=u.map dep
 | _,.nil=>⟨⟨.nil,List.Pairwise.nil,fun _=>Iff.rfl⟩,rfl⟩
 | _,.cons (v:=v) (u:=t) hv ha hc hb=>by
  obtain⟨c,hd⟩:=zHl o hb;have dd:∀x∈finS p W t,∃y∈t,dep y=dep x:=fun x hx=>by
   have:dep x∈t.map dep:=by rw [←hd];exact List.mem_map_of_mem hx
   obtain⟨y,hy,e⟩:=List.mem_map.1 this;exact⟨y,hy,e⟩
  obtain⟨q1,q2,q3,q4⟩:=zF5 o (.cons hv ha hc hb) c.base c.red c.gen hb dd ha (fun f hf=>(c.gen f).1 hf) fun x hx=>by
   obtain⟨y,hy,e⟩:=dd x hx;have:=ha y hy;omega
  exact⟨⟨q1,q2,q3⟩,by simp only [finS,List.map_cons,q4,hd]⟩
theorem zEJ (o:OkW p n W):∀{u:List (List Int)},Base p n W u→Canon p n W u (finI p W u)∧(finI p W u).map dep=u.map dep
 | _,.nil=>⟨⟨.nil,List.Pairwise.nil,fun _=>Iff.rfl⟩,rfl⟩
 | _,.cons (v:=v) (u:=t) hv ha hc hb=>by
  obtain⟨c,hd⟩:=zEJ o hb;have dd:∀x∈finI p W t,dep v<dep x:=fun x hx=>by
   have:dep x∈t.map dep:=by rw [←hd];exact List.mem_map_of_mem hx
   obtain⟨y,hy,e⟩:=List.mem_map.1 this
   have:=ha y hy;omega
  obtain⟨q1,q2,q3,q4⟩:=zF5 o (.cons hv ha hc hb) c.base c.red c.gen c.base (fun x hx=>⟨x,hx,rfl⟩) dd (fun f hf=>hf) dd
  exact⟨⟨q1,q2,q3⟩,by simp only [finI,List.map_cons,q4,hd]⟩
theorem Canon.unique (o:OkW p n W) {gens a b:List (List Int)} (ha:Canon p n W gens a) (hb:Canon p n W gens b):a=b:=
 zGG o ha.base ha.red hb.base hb.red (fun f hf=>(hb.gen f).1 ((ha.gen f).2 hf)) fun f hf=>(ha.gen f).1 ((hb.gen f).2 hf)
theorem Canon.trans {gens u out:List (List Int)} (h:Canon p n W u out) (hg:∀f,Gen p n W gens f↔Gen p n W u f):Canon p n W gens out:=⟨h.base,h.red,fun f=>(hg f).trans (h.gen f)⟩
abbrev Dp (u:List (List Int)) (d:Nat):List (List Int):=u.filter fun v=>decide (d<dep v)
abbrev Fp (u:List (List Int)) (d:Nat):List (List Int):=u.filter fun v=>decide (d≤dep v)
structure Grow (p:Int) (n:Nat) (W gens u Q:List (List Int)):Prop where
 led:∀v∈u,Led p n v
 asc:Asc u
 els:∀x∈Q,El p n x
 clo:∀v∈u,Gen p n W (Dp u (dep v)) (fun j=>p*at_ v j)∨∃x∈Q,dep v<dep x∧Gen p n W (Dp u (dep v)) fun j=>p*at_ v j-at_ x j
 gen:∀f,Gen p n W gens f↔Gen p n W (u++Q) f
theorem Grow.perm {gens u Q Q':List (List Int)} (g:Grow p n W gens u Q) (h:∀x,x∈Q↔x∈Q'):Grow p n W gens u Q':=
 ⟨g.led,g.asc,fun x hx=>g.els x ((h x).2 hx),fun v hv=>(g.clo v hv).imp id fun⟨x,hx,r⟩=>⟨x,(h x).1 hx,r⟩,
  fun f=>(g.gen f).trans ⟨zX fun v hv=>by simp only [List.mem_append]at hv ⊢;exact hv.imp id (h v).1,zX fun v hv=>by simp only [List.mem_append]at hv ⊢;exact hv.imp id (h v).2⟩⟩
theorem Grow.start {gens:List (List Int)} (h:∀v∈gens,El p n v):Grow p n W gens [] gens:=⟨fun v hv=>(by cases hv),List.Pairwise.nil,h,fun v hv=>(by cases hv),fun f=>Iff.rfl⟩
theorem Grow.replace {gens u Q:List (List Int)} {g x:List Int} (h:Grow p n W gens u (g::Q)) (hx:El p n x) (hd:dep g≤dep x) (hg:Gen p n W (Fp u (dep g)) fun j=>at_ g j-at_ x j):Grow p n W gens u (x::Q):=by
 have hg':∀M:List (List Int),(∀v∈u,v∈M)→Gen p n W M fun j=>at_ g j-at_ x j:=fun M hM=>zX (fun v hv=>hM v (List.mem_filter.1 hv).1) hg
 refine⟨h.led,h.asc,fun y hy=>(List.mem_cons.1 hy).elim (fun e=>e ▸ hx) fun hy=>h.els y (by simp [hy]),fun v hv=>?_,fun f=>(h.gen f).trans ⟨qy fun y hy=>?_,qy fun y hy=>?_⟩⟩
 ·rcases h.clo v hv with h1 | ⟨y,hy,h1,h2⟩
  ·exact .inl h1
  ·rcases List.mem_cons.1 hy with rfl | hy
   ·refine .inr ⟨x,by simp,by omega,?_⟩
    have q1:Gen p n W (Dp u (dep v)) fun j=>at_ y j-at_ x j:=zX (fun w hw=>by
     simp only [List.mem_filter,decide_eq_true_eq]at hw ⊢
     exact⟨hw.1,by omega⟩) hg
    have q2:=(zK _).add _ _ h2 q1;exact(zK _).eqv _ _ (Eqv.of_eq fun j=>by omega) q2
   ·exact .inr ⟨y,by simp [hy],h1,h2⟩
 ·simp only [List.mem_append,List.mem_cons]at hy
  rcases hy with hy|rfl|hy
  ·exact zM (by simp [hy])
  ·have q1:=(zK (p:=p) (n:=n) (W:=W) (u++x::Q)).add _ _ (hg' _ fun v hv=>by simp [hv]) (zM (v:=x) (by simp))
   exact(zK _).eqv _ _ (Eqv.of_eq fun j=>by omega) q1
  ·exact zM (by simp [hy])
 ·simp only [List.mem_append,List.mem_cons]at hy
  rcases hy with hy|rfl|hy
  ·exact zM (by simp [hy])
  ·have q1:=(zK (p:=p) (n:=n) (W:=W) (u++g::Q)).sub (zM (v:=g) (by simp)) (hg' _ fun v hv=>by simp [hv])
   exact(zK _).eqv _ _ (Eqv.of_eq fun j=>by omega) q1
  ·exact zM (by simp [hy])
theorem Grow.drop {gens u Q:List (List Int)} {x:List Int} (h:Grow p n W gens u (x::Q)) (h0:∀j,at_ x j=0):Grow p n W gens u Q:=by
 have hz:∀M:List (List Int),Gen p n W M (at_ x):=fun M=>(zK M).eqv _ _ (Eqv.of_eq h0) (zK M).zero
 refine⟨h.led,h.asc,fun y hy=>h.els y (by simp [hy]),fun v hv=>?_,fun f=>(h.gen f).trans ⟨qy fun y hy=>?_,zX fun y hy=>by simp only [List.mem_append,List.mem_cons]at hy ⊢;exact hy.imp id .inr⟩⟩
 ·rcases h.clo v hv with h1 | ⟨y,hy,h1,h2⟩
  ·exact .inl h1
  ·rcases List.mem_cons.1 hy with rfl | hy
   ·exact .inl ((zK _).eqv _ _ (Eqv.of_eq fun j=>by rw [h0 j];omega) h2)
   ·exact .inr ⟨y,hy,h1,h2⟩
 ·simp only [List.mem_append,List.mem_cons]at hy
  rcases hy with hy|rfl|hy
  ·exact zM (by simp [hy])
  ·exact hz _
  ·exact zM (by simp [hy])
def insD:List (List Int)→List Int→List (List Int)
 | [],x=>[x]
 | v::u,x=>if dep v<dep x then v::insD u x else x::v::u
theorem qc:∀{u:List (List Int)} {x v:List Int},v∈insD u x↔v=x∨v∈u
 | [],x,v=>by simp [insD]
 | w::u,x,v=>by
  simp only [insD]
  split
  ·rw [List.mem_cons,qc,List.mem_cons]
   constructor
   ·rintro (h | h | h);exact .inr (.inl h);exact .inl h;exact .inr (.inr h)
   ·rintro (h | h | h);exact .inr (.inl h);exact .inl h;exact .inr (.inr h)
  ·simp
theorem zF3:∀{u:List (List Int)} {x:List Int},Asc u→(∀v∈u,dep v≠dep x)→Asc (insD u x)
 | [],x,_,_=>List.pairwise_singleton _ _
 | w::u,x,hu,hx=>by
  obtain⟨h1,h2⟩:=List.pairwise_cons.1 hu;simp only [insD]
  split
  ·rename_i hlt
   refine List.pairwise_cons.2 ⟨fun v hv=>?_,zF3 h2 fun v hv=>hx v (by simp [hv])⟩
   rcases qc.1 hv with rfl|hv
   ·exact hlt
   ·exact h1 v hv
  ·rename_i hge
   have:=hx w (by simp)
   refine List.pairwise_cons.2 ⟨fun v hv=>?_,hu⟩
   rcases List.mem_cons.1 hv with rfl|hv
   ·omega
   ·have:=h1 v hv;omega
theorem Zf:∀(u:List (List Int)) (x:List Int),(insD u x).length=u.length+1
 | [],x=>rfl
 | w::u,x=>by simp only [insD];split<;>simp [Zf u x]
theorem Grow.insert {gens u Q:List (List Int)} {x y z:List Int} (h:Grow p n W gens u (x::Q)) (hy:Led p n y) (hd:dep y=dep x) (hnew:∀v∈u,dep v≠dep x) (hxy:Gen p n W [y] (at_ x)) (hyx:Gen p n W [x] (at_ y)) (hz:El p n z) (hzd:dep y<dep z) (hzp:Eqv p n W (at_ z) fun j=>p*at_ y j):Grow p n W gens (insD u y) (z::Q):=by
 have sub:∀d,∀v∈Dp u d,v∈Dp (insD u y) d:=fun d v hv=>by
  simp only [List.mem_filter,decide_eq_true_eq]at hv ⊢
  exact⟨qc.2 (.inr hv.1),hv.2⟩
 have ymem:∀d,d<dep y→y∈Dp (insD u y) d:=fun d hd=>by
  simp only [List.mem_filter,decide_eq_true_eq];exact⟨qc.2 (.inl rfl),hd⟩
 refine⟨fun v hv=>?_,zF3 h.asc fun v hv=>by rw [hd];exact hnew v hv,fun v hv=>?_,fun v hv=>?_,fun f=>(h.gen f).trans ⟨qy fun v hv=>?_,qy fun v hv=>?_⟩⟩
 ·rcases qc.1 hv with rfl | hv
  ·exact hy
  ·exact h.led v hv
 ·rcases List.mem_cons.1 hv with rfl | hv
  ·exact hz
  ·exact h.els v (by simp [hv])
 ·rcases qc.1 hv with rfl | hv
  ·refine .inr ⟨z,by simp,hzd,?_⟩
   have:=hzp.symm.add (Eqv.refl (p:=p) (n:=n) (W:=W) fun j=>- at_ z j)
   refine(zK _).eqv _ _ ((Eqv.of_eq fun j=>?_).trans (this.trans (Eqv.of_eq fun j=>?_))) (zK _).zero
   ·omega
   ·omega
  ·rcases h.clo v hv with h1 | ⟨t,ht,h1,h2⟩
   ·exact .inl (zX (sub _) h1)
   ·rcases List.mem_cons.1 ht with rfl | ht
    ·have q1:Gen p n W (Dp (insD u y) (dep v)) (at_ t):=zX (fun w hw=>by rw [List.mem_singleton.1 hw];exact ymem _ (by omega)) hxy
     have q2:=(zK _).add _ _ (zX (sub (dep v)) h2) q1;exact .inl ((zK _).eqv _ _ (Eqv.of_eq fun j=>by omega) q2)
    ·exact .inr ⟨t,by simp [ht],h1,zX (sub _) h2⟩
 ·simp only [List.mem_append,List.mem_cons]at hv
  rcases hv with hv|rfl|hv
  ·exact zM (by simp [qc,hv])
  ·exact zX (fun w hw=>by rw [List.mem_singleton.1 hw];simp [qc]) hxy
  ·exact zM (by simp [hv])
 ·simp only [List.mem_append,List.mem_cons,qc]at hv
  have hyg:Gen p n W (u++x::Q) (at_ y):=zX (fun w hw=>by rw [List.mem_singleton.1 hw];simp) hyx
  rcases hv with (rfl|hv)|rfl|hv
  ·exact hyg
  ·exact zM (by simp [hv])
  ·exact(zK _).eqv _ _ hzp ((zK _).mul p _ hyg)
  ·exact zM (by simp [hv])
theorem zHJ {v:List Int} {t:List (List Int)} (h:∀w∈t,dep v<dep w):Dp (v::t) (dep v)=t:=by
 rw [Dp,List.filter_cons,if_neg (by simp)]
 exact List.filter_eq_self.2 fun w hw=>by simpa using h w hw
theorem Grow.base {gens:List (List Int)}:∀{u:List (List Int)},Grow p n W gens u []→Base p n W u:=by
 have key:∀(u:List (List Int)),(∀v∈u,Led p n v)→Asc u→(∀v∈u,Gen p n W (Dp u (dep v)) fun j=>p*at_ v j)→Base p n W u:=by
  intro u
  induction u with
  | nil=>intro _ _ _;exact .nil
  | cons v t ih=>
   intro hl ha hc;obtain⟨h1,h2⟩:=List.pairwise_cons.1 ha;have hv:=hc v (by simp)
   rw [zHJ h1]at hv
   refine .cons (hl v (by simp)) h1 hv (ih (fun w hw=>hl w (by simp [hw])) h2 fun w hw=>?_)
   have hw':=hc w (by simp [hw])
   have:Dp (v::t) (dep w)=Dp t (dep w):=by
    rw [Dp,List.filter_cons,if_neg (by have:=h1 w hw;simp;omega)]
   rwa [this]at hw'
 intro u h;exact key u h.led h.asc fun v hv=>(h.clo v hv).elim id fun⟨x,hx,_⟩=>by cases hx
theorem Grow.done {gens u out:List (List Int)} (h:Grow p n W gens u []) (c:Canon p n W u out):Canon p n W gens out:=c.trans fun f=>by
 have:=h.gen f
 rwa [List.append_nil]at this
theorem qj {u:List (List Int)} (hl:∀v∈u,dep v<n) (ha:Asc u):u.length≤n:=by
 have:∀(u:List (List Int)) (m:Nat),(∀v∈u,m≤dep v∧dep v<n)→Asc u→m+u.length≤max m n:=by
  intro u
  induction u with
  | nil=>intro m _ _;simp;omega
  | cons v t ih=>
   intro m hm ha;obtain⟨h1,h2⟩:=List.pairwise_cons.1 ha;have q:=hm v (by simp)
   have:=ih (dep v+1) (fun w hw=>⟨h1 w hw,(hm w (by simp [hw])).2⟩) h2
   rw [List.length_cons];omega
 have:=this u 0 (fun v hv=>⟨Nat.zero_le _,hl v hv⟩) ha
 omega
end Go.Lie
namespace Go.Lie
open Go.Ab
variable {p:Int} {n:Nat} {W:List (List Int)}
theorem zHz (hp:0<p) {a k:Int} (h:0≤a∧a≤p-1) (e:a=0-k*p):a=0:=by
 rcases Int.lt_trichotomy k 0 with x|x|x
 ·have:=Int.mul_le_mul_of_nonneg_right (show k≤-1 by omega) (show 0≤p by omega)
  omega
 ·rw [x]at e;omega
 ·have:=Int.mul_le_mul_of_nonneg_right (show 1≤k by omega) (show 0≤p by omega)
  omega
theorem zLR (o:OkW p n W) {z:List Int} {g:Vec} (hz:El p n z) (h:Eqv p n W (at_ z) g) {m:Nat} (hm:m≤n) (hg:∀j,j<m→g j=0):∀j,j<m→at_ z j=0:=by
 intro j hj;have hp:=o.pr;unfold okp at hp
 obtain⟨k,hk⟩:=(Zz o h (d:=j) (by omega) (fun i _=>hz.at0 o i) (fun i hi=>by rw [hg i (by omega)];omega)).2
 rw [hg j hj]at hk
 exact zHz (by omega) (hz.at0 o j) hk
theorem zB1 {u:List (List Int)} {d:Nat} (h:∀v∈u,d≤dep v):Fp u d=u:=List.filter_eq_self.2 fun v hv=>by simpa using h v hv
theorem zEA (o:OkW p n W):∀{u:List (List Int)} {g:List Int},(∀v∈u,El p n v)→Asc u→El p n g→redL p W u g=redL p W (Fp u (dep g)) g
 | [],g,_,_,_=>rfl
 | v::u,g,hu,ha,hg=>by
  obtain⟨h1,h2⟩:=List.pairwise_cons.1 ha
  by_cases hd:dep g≤dep v
  ·rw [zB1]
   intro w hw;rcases List.mem_cons.1 hw with rfl|hw
   ·exact hd
   ·have:=h1 w hw;omega
  ·have e:Fp (v::u) (dep g)=Fp u (dep g):=by rw [Fp,List.filter_cons,if_neg (by simpa using hd)]
   rw [e,redL,zI7 o hg (hu v (by simp)) (za (by omega))]
   exact zEA o (fun w hw=>hu w (by simp [hw])) h2 hg
theorem zD1 {u:List (List Int)} {d:Nat} {v:List Int}:v∈Fp u d↔v∈u∧d≤dep v:=by simp [Fp]
theorem zKZ (o:OkW p n W) {u:List (List Int)} {g:List Int} (hu:∀v∈u,Led p n v) (ha:Asc u) (hg:El p n g):dep g≤dep (redL p W u g):=by
 have hel:=ZA o (fun v hv=>(hu v hv).1) hg
 refine zDq (by rw [hel.1,←hg.1];exact zAN g) fun j hj=>?_
 rw [zEA o (fun v hv=>(hu v hv).1) ha hg]
 have:=(QZ o (u:=Fp u (dep g)) (fun v hv=>hu v (zD1.1 hv).1) (ha.sublist List.filter_sublist) hg).2 j fun v hv=>by have:=(zD1.1 hv).2;omega
 rw [this];exact za hj
theorem Grow.reduce (o:OkW p n W) {gens u Q:List (List Int)} {g:List Int} (h:Grow p n W gens u (g::Q)):Grow p n W gens u (redL p W u g::Q):=by
 have hg:=h.els g (by simp)
 have he:∀v∈u,El p n v:=fun v hv=>(h.led v hv).1
 refine h.replace (ZA o he hg) (zKZ o h.led h.asc hg) ?_;rw [zEA o he h.asc hg];exact zA7 o (fun v hv=>he v (zD1.1 hv).1) hg
theorem Grow.reduce1 (o:OkW p n W) {gens u Q:List (List Int)} {g v:List Int} (h:Grow p n W gens u (g::Q)) (hv:v∈u) (hd:dep v=dep g):Grow p n W gens u (red1 p W g v::Q)∧dep g<dep (red1 p W g v):=by
 have hg:=h.els g (by simp)
 have lv:=h.led v hv;have hel:=zB4 o hg lv.1;have hdd:dep g<dep (red1 p W g v):=zDq (by rw [hel.1];have:=lv.2.1;omega) fun j hj=>by
  rw [zEB o hg lv (by omega)]
  split
  ·rfl
  ·exact za (by omega)
 refine⟨h.replace hel (by omega) ?_,hdd⟩
 have q1:=(zK (p:=p) (n:=n) (W:=W) (Fp u (dep g))).mul (at_ g (dep v)) _ (zM (zD1.2 ⟨hv,by omega⟩))
 refine(zK _).eqv _ _ ?_ q1
 have:=(zFT o hg lv.1).symm.add (Eqv.refl (p:=p) (n:=n) (W:=W) fun j=>at_ g (dep v)*at_ v j-at_ (red1 p W g v) j)
 refine(Eqv.of_eq fun j=>?_).trans (this.trans (Eqv.of_eq fun j=>?_))
 ·omega
 ·omega
theorem ZL (o:OkW p n W) {x:List Int} (hx:El p n x) (k:Int):El p n (norm p W (lmix k x 0 x))∧Eqv p n W (at_ (norm p W (lmix k x 0 x))) fun j=>k*at_ x j:=by
 have hl:(lmix k x 0 x).length=n:=by rw [zL rfl];exact hx.1
 exact⟨QA o hl,(zh o hl).trans (Eqv.of_eq fun j=>by rw [zq rfl];omega)⟩
theorem zAW (o:OkW p n W) {x:List Int} (hx:El p n x) (hd:dep x<n) {k:Int} (hk:at_ x (dep x)*k % p=1):
  Led p n (norm p W (lmix k x 0 x))∧dep (norm p W (lmix k x 0 x))=dep x∧Gen p n W [norm p W (lmix k x 0 x)] (at_ x)∧Gen p n W [x] (at_ (norm p W (lmix k x 0 x))):=by
 have hp:=o.pr;unfold okp at hp
 have hl:(lmix k x 0 x).length=n:=by rw [zL rfl];exact hx.1
 obtain⟨hel,heq⟩:=ZL o hx k;have hz:∀j,j<dep x→at_ (lmix k x 0 x) j=0:=fun j hj=>by rw [zq rfl,za hj];simp
 have h1:=zBj o hl (by omega) hz
 have h2:=zEb o hl hd hz;have e:at_ (lmix k x 0 x) (dep x)=at_ x (dep x)*k:=by rw [zq rfl,Int.mul_comm k];omega
 rw [e,hk]at h2
 have hdep:dep (norm p W (lmix k x 0 x))=dep x:=zDr h1 (by rw [h2];decide)
 refine⟨⟨hel,by rw [hdep];exact hd,by rw [hdep];exact h2⟩,hdep,?_,?_⟩
 ·obtain⟨t,ht⟩:∃t,at_ x (dep x)*k=1+p*t:=⟨at_ x (dep x)*k / p,by have:=Int.emod_add_mul_ediv (at_ x (dep x)*k) p;omega⟩
  obtain⟨e,s,hes⟩:=zHg (p:=p) t n (by omega)
  have g1:=(zK (p:=p) (n:=n) (W:=W) [norm p W (lmix k x 0 x)]).mul (e*at_ x (dep x)) _ (zM (List.mem_singleton.2 rfl));have k1:=(zF0 o (f:=at_ x) fun j hj=>hx.beyond hj).mul (-s)
  refine(zK _).eqv _ _ ?_ g1;have h3:=heq.symm.mul (e*at_ x (dep x));have h4:=h3.add k1;refine(Eqv.of_eq fun j=>?_).trans (h4.trans (Eqv.of_eq fun j=>by simp))
  have:e*at_ x (dep x)*(k*at_ x j)=(e*(at_ x (dep x)*k))*at_ x j:=by simp only [Int.mul_assoc]
  rw [this,ht,hes,Int.add_mul,Int.one_mul]
  have:-s*(pw_ p n*at_ x j)=-(pw_ p n*s*at_ x j):=by rw [Int.neg_mul,Int.mul_left_comm,Int.mul_assoc]
  rw [this];omega
 ·refine(zK _).eqv _ _ heq ((zK _).mul k _ (zM (List.mem_singleton.2 rfl)))
theorem zKp (o:OkW p n W) {y:List Int} (hy:El p n y) (hd:dep y<n):dep y<dep (norm p W (lmix p y 0 y)):=by
 obtain⟨hel,heq⟩:=ZL o hy p;obtain⟨g,h1,h2,h3⟩:=push o hd (f:=at_ y) (fun j hj=>za hj) fun j hj=>hy.beyond hj
 have:=zLR o hel (heq.trans h1) (m:=dep y+1) (by omega) fun j hj=>h2 j (by omega)
 exact zDq (by rw [hel.1];omega) this
theorem Grow.take (o:OkW p n W) {gens u Q:List (List Int)} {x:List Int} {k:Int} (h:Grow p n W gens u (x::Q)) (hd:dep x<n) (hnew:∀v∈u,dep v≠dep x) (hk:at_ x (dep x)*k % p=1):
  Grow p n W gens (insD u (norm p W (lmix k x 0 x))) (norm p W (lmix p (norm p W (lmix k x 0 x)) 0 (norm p W (lmix k x 0 x)))::Q):=by
 have hx:=h.els x (by simp)
 obtain⟨h1,h2,h3,h4⟩:=zAW o hx hd hk;obtain⟨h5,h6⟩:=ZL o h1.1 p;exact h.insert h1 h2 hnew h3 h4 h5 (zKp o h1.1 h1.2.1) h6
theorem zM1 {p a:Int} (hp:p=2∨p=3∨p=5∨p=7) (h1:0<a) (h2:a<p):∃x,1≤x∧x<p∧a*x % p=1:=by
 rcases hp with rfl|rfl|rfl|rfl
 ·exact⟨1,by omega,by omega,by
   have:a=1:=by omega
   subst this;decide⟩
 ·obtain rfl | rfl:a=1∨a=2:=by omega
  ·exact⟨1,by decide,by decide,by decide⟩
  ·exact⟨2,by decide,by decide,by decide⟩
 ·obtain rfl | rfl | rfl | rfl:a=1∨a=2∨a=3∨a=4:=by omega
  ·exact⟨1,by decide,by decide,by decide⟩
  ·exact⟨3,by decide,by decide,by decide⟩
  ·exact⟨2,by decide,by decide,by decide⟩
  ·exact⟨4,by decide,by decide,by decide⟩
 ·obtain rfl | rfl | rfl | rfl | rfl | rfl:a=1∨a=2∨a=3∨a=4∨a=5∨a=6:=by omega
  ·exact⟨1,by decide,by decide,by decide⟩
  ·exact⟨4,by decide,by decide,by decide⟩
  ·exact⟨5,by decide,by decide,by decide⟩
  ·exact⟨2,by decide,by decide,by decide⟩
  ·exact⟨3,by decide,by decide,by decide⟩
  ·exact⟨6,by decide,by decide,by decide⟩
end Go.Lie
namespace Go.Proofs
open Go.Ab Go.Lie
variable {σ:PHeap} {K:PV→PHeap→Prop} {p p':Int} {n:Nat} {W:List (List Int)} {B:List (List (List Int))} {vP vB vL vU:PV}
theorem zJy {a p:Int} (hp:isP p) (ha:0<a∧a<p) (hk:∀x,1≤x→x<p→a*x % p=1→K (.int .i64 x) σ):zA Tryz.prog 58 [.int .i64 a,.int .i64 p] σ K:=by
 have hpb:=hp.bd;obtain⟨y,hy1,hy2,hy3⟩:=zM1 hp ha.1 ha.2;refine zD mix Tryz.func58 ?_;simp only [pwA,seval,-iQ0];refine zF (fun m vs h'=>∃i:Int,1≤i∧i≤y∧m=(y-i).toNat∧vs=[.int .i64 a,.int .i64 p,.int .i64 i]∧σ=h') (y-1).toNat ?_ ?_
 ·exact⟨1,by omega,hy1,rfl,rfl,rfl⟩
 rintro m vs h' ⟨i,hi,hiy,rfl,rfl,rfl⟩
 have hip:i<p:=by omega
 simp only [pwA,seval,-iQ0,hip];refine zJx (by omega) (by omega) ?_
 have hap:a % p=a:=Int.emod_eq_of_lt (by omega) (by omega)
 have hm:a*i≤49∧0≤a*i:=by
  have h1:=Int.mul_le_mul_of_nonneg_left (show i≤7 by omega) (show 0≤a by omega)
  have h2:=Int.mul_nonneg (show 0≤a by omega) (show 0≤i by omega)
  omega
 have hp0:p≠0:=by omega
 rw [hap];simp only [pwA,seval,-iQ0,wrap64 (n:=a*i) (by omega) (by omega),hp0]
 have e:(a*i).tmod p=a*i % p:=Int.tmod_eq_emod_of_nonneg hm.2;rw [e]
 by_cases h1:a*i % p=1
 ·simp only [pwA,seval,-iQ0,h1]
  exact hk i hi hip h1
 ·have hne:i≠y:=fun e=>h1 (by rw [e];exact hy3)
  simp only [pwA,seval,-iQ0,h1,wrap64 (n:=i+1) (by omega) (by omega)]
  exact⟨_,by omega,i+1,by omega,by omega,rfl,rfl⟩
theorem zHE {l:Nat} {w:Bool} {a:AV} {xs:List Int} (hl:l=xs.length) (hb:xs.length≤1048576) (hk:K (.int .i64 (dep xs)) σ):zA Tryz.prog 93 [.fz w a l (pis xs)] σ K:=by
 subst hl;refine zD mix Tryz.func93 ?_;simp only [pwA,seval,-iQ0];refine zF (fun m vs h'=>∃i:Nat,i≤dep xs∧m=dep xs-i∧vs=[.fz w a xs.length (pis xs),.int .i64 i]∧σ=h') (dep xs) ?_ ?_
 ·exact⟨0,by omega,by omega,rfl,rfl⟩
 rintro m vs h' ⟨i,hi,rfl,rfl,rfl⟩
 have hdl:=zAN xs
 by_cases hlt:i<xs.length
 ·simp only [pwA,seval,-iQ0,hlt,zN,gi hlt]
  refine iteI (fun h0=>?_) fun h0=>?_
  ·have hid:i<dep xs:=by
    rcases Nat.lt_or_ge i (dep xs)with x|x
    ·exact x
    ·have:i=dep xs:=by omega
     subst this;exact absurd (by rw [at_eq hlt];exact h0) (ZF hlt)
   simp only [pwA,seval,-iQ0,wrapS hlt (by omega:xs.length≤4611686018427387904)]
   exact⟨_,by omega,i+1,by omega,rfl,rfl⟩
  ·have hid:i=dep xs:=by
    rcases Nat.lt_or_ge i (dep xs)with x|x
    ·exact absurd (by rw [←at_eq hlt];exact za x) h0
    ·omega
   subst hid;exact hk
 ·have hid:i=dep xs:=by omega
  subst hid;simp only [pwA,seval,-iQ0,hlt];exact hk
theorem Qg {l:Nat} {w:Bool} {a:AV} {xs:List Int} (hl:l=xs.length) (hb:xs.length≤1048576) (hk:K (.int .i64 (dep xs)) σ):zA Tryz.prog 59 [.fz w a l (pis xs)] σ K:=by
 refine zD mix Tryz.func59 ?_;simp only [pwA,seval,-iQ0];refine zHE hl hb ?_;simp only [pwA,seval,-iQ0];exact hk
theorem zEi {l:Nat} {w:Bool} {a:AV} {xs:List Int} (hl:l=xs.length) (hb:xs.length≤4294967296) (hk:∀v,K (.fz true v xs.length (pis xs)) σ):zA Tryz.prog 91 [.fz w a l (pis xs)] σ K:=
 zA.fz (fun K'=>zEh hl hb) (zZ _ _) fun o cap=>hk _
theorem zEV (u:List (List Int)) (v x:List Int):redL p W (u++[v]) x=red1 p W (redL p W u x) v:=by
 induction u generalizing x with
 | nil=>rfl
 | cons w u ih=>rw [List.cons_append,redL,ih,redL]
theorem QK {l:Nat} {w:Bool} {a:AV} {u:List (List Int)} {x:List Int} (hR:IsR vP vB W B) (o:OkW p n W) (hL:FII vU u) (hu:∀v∈u,El p n v∧dep v<n) (hul:u.length≤1048576) (hx:El p n x) (hl:l=x.length)
  (hk:∀v,K (.fz true v n (pis (redL p W u x))) σ):zA Tryz.prog 56 [.agg [.int .i64 p,vP,vB],vU,.fz w a l (pis x)] σ K:=by
 have h1:=hR.P.one;have h2:=hR.B.one;have hn6:=o.le;have hp:=o.pr;unfold okp at hp
 obtain⟨wl,al,rl,rfl,hrl⟩:=hL;refine zA.gh ?_;refine zD mix Tryz.func56 ?_;simp only [pwA,seval,-iQ0,h1,h2];refine zEi hl (by rw [hx.1];omega) fun v0=>?_
 rw [hx.1];simp only [pwA,seval,-iQ0];refine zF (fun m vs h'=>∃i:Nat,i≤u.length∧m=u.length-i∧∃v,vs=[.fz wl al u.length rl,.ptr σ.next 0,.fz true v n (pis (redL p W (u.take i) x)),.int .i64 i]∧σ.new [.int .i64 p,vP,vB]=h') u.length ?_ ?_
 ·exact⟨0,by omega,by omega,v0,by rw [List.take_zero,redL];rfl,rfl⟩
 rintro m vs h' ⟨i,hi,rfl,v,rfl,rfl⟩
 simp only [pwA,seval,-iQ0];have hel:El p n (redL p W (u.take i) x):=ZA o (fun v hv=>(hu v (List.mem_of_mem_take hv)).1) hx
 refine iteI (fun hlt=>?_) fun hge=>?_
 ·obtain⟨w4,a4,hr⟩:=hrl.rowI hlt
  have hui:=hu _ (List.getElem_mem hlt);have hstep:redL p W (u.take (i+1)) x=red1 p W (redL p W (u.take i) x) u[i]:=by rw [List.take_succ_eq_append_getElem hlt,zEV]
  generalize hy:redL p W (u.take i) x=y at *
  have hdl:dep u[i] < y.length:=by rw [hel.1];exact hui.2
  have hya:=hel.at o.pr (dep u[i]);rw [at_eq hdl]at hya
  simp only [pwA,seval,-iQ0,hlt,hr];refine Qg rfl (by rw [hui.1.1];omega) ?_
  have hneg:IntKind.i64.wrap (0-y[dep u[i]])=-y[dep u[i]]:=by rw [wrap64 (by omega) (by omega)];omega
  simp only [pwA,seval,-iQ0,hlt,hr,hui.2,zN,gi hdl,hneg];refine qm hR o hel hui.1 hel.1.symm rfl (by decide) (by omega) fun v'=>?_
  simp only [pwA,seval,-iQ0,wrapS hlt (by omega:u.length≤4611686018427387904)]
  refine⟨_,by omega,i+1,by omega,rfl,v',?_⟩
  rw [hstep,red1,at_eq hdl]
 ·have hie:i=u.length:=by omega
  subst hie;rw [List.take_length];exact Gh.fin0 (zC σ _) trivial (hk v)
theorem zEk:∀(u:List (List Int)) (x:List Int) (k:Nat),k≤u.length→(∀j (h:j<u.length),j<k→dep u[j] < dep x)→(∀h:k<u.length,¬dep u[k] < dep x)→insD u x=u.take k++[x]++u.drop k
 | [],x,k,hk,_,_=>by
  have:k=0:=by simpa using hk
  subst this;rfl
 | v::u,x,0,_,_,h2=>by
  have:=h2 (by simp)
  simp only [List.getElem_cons_zero]at this
  rw [insD,if_neg this];rfl
 | v::u,x,k+1,hk,h1,h2=>by
  have:=h1 0 (by simp) (by omega)
  simp only [List.getElem_cons_zero]at this
  rw [insD,if_pos this,zEk u x k (by simpa using hk) (fun j h hj=>by have:=h1 (j+1) (by simpa using h) (by omega);simpa using this) (fun h=>by have:=h2 (by simpa using h);simpa using this)]
  rfl
theorem zFw {l:Nat} {w:Bool} {a:AV} {u:List (List Int)} {x:List Int} (hL:FII vU u) (hu:∀v∈u,v.length≤1048576) (hul:u.length≤1048576) (hxl:x.length≤1048576) (hl:l=x.length)
  (hk:∀v,FII v (insD u x)→K v σ):zA Tryz.prog 60 [vU,.fz w a l (pis x)] σ K:=by
 subst hl;obtain⟨wl,al,rl,rfl,hrl⟩:=hL;refine zA.gh ?_;refine zD mix Tryz.func60 ?_;simp only [pwA,seval,-iQ0];refine zF (fun m vs h'=>∃i:Nat,i≤u.length∧m=u.length-i∧vs=[.fz wl al u.length rl,.fz w a x.length (pis x),.int .i64 i]∧σ=h'∧∀j (h:j<u.length),j<i→dep u[j] < dep x) u.length ?_ ?_
 ·exact⟨0,by omega,by omega,rfl,rfl,fun j h hj=>by omega⟩
 rintro m vs h' ⟨i,hi,rfl,rfl,rfl,hall⟩
 have fin:(∀h:i<u.length,¬dep u[i] < dep x)→insD u x=u.take i++[x]++u.drop i:=zEk u x i hi hall
 have tail:(∀h:i<u.length,¬dep u[i] < dep x)→∀v' h',Keep σ h'→PSl σ.next 1 h' v' (u.length+1) (rl.take i++[PV.fz w a x.length (pis x)]++rl.drop i)→Gh σ K v' h':=fun hs v' h' hk' ha=>by
  have hall2:All2 FI (rl.take i++[PV.fz w a x.length (pis x)]++rl.drop i) (insD u x):=by
   rw [fin hs];exact((hrl.take i).append (All2.nil FI |>.snoc ⟨w,a,rfl⟩)).append (hrl.drop i)
  exact ha.fin hk' (hall2.bI 0) fun o cap=>hk _ ⟨true,.sl o 0 (u.length+1) cap,_,by rw [Zf],hall2⟩
 have hrll:=hrl.1;have hz':i≤u.length:=hi;have hdrop:(rl.drop i).take (u.length-i)=rl.drop i:=List.take_of_length_le (by rw [List.length_drop];omega)
 by_cases hlt:i<u.length
 ·obtain⟨w4,a4,hr⟩:=hrl.rowI hlt
  simp only [pwA,seval,-iQ0,hlt,hr];refine Qg rfl (hu _ (List.getElem_mem hlt)) ?_;simp only [pwA,seval,-iQ0,hlt,hr];refine Qg rfl hxl ?_;simp only [pwA,seval,-iQ0];refine iteI (fun hd=>?_) fun hd=>?_
  ·simp only [pwA,seval,-iQ0,wrapS hlt (by omega:u.length≤4611686018427387904)]
   refine⟨_,by omega,i+1,by omega,rfl,rfl,fun j h hj=>?_⟩
   by_cases e:j=i
   ·subst e;exact hd
   ·exact hall j h (by omega)
  ·simp only [pwA,seval,-iQ0,hz',Nat.sub_zero]
   refine PSl.cat (bytes:=24) (σb:=σ) (n:=0) (cs:=[]) (zC σ _) (PSl.new _ 1 rfl (Nat.le_refl _)) (by rw [List.length_take];omega) (by omega) (by omega) fun v1 h1 k1 a1=>?_
   rw [List.nil_append,Nat.zero_add]at a1
   simp only [pwA,seval,-iQ0];refine PSl.push (bytes:=24) k1 a1 (by omega) (by omega) fun v2 h2 k2 a2=>?_
   simp only [pwA,seval,-iQ0,hz',hdrop];refine PSl.cat (bytes:=24) k2 a2 (by rw [List.length_drop];omega) (by omega) (by omega) fun v3 h3 k3 a3=>?_
   simp only [pwA,seval,-iQ0];refine tail ?_ v3 h3 k3 ?_
   ·exact fun _=>hd
   ·have:i+1+(u.length-i)=u.length+1:=by omega
    rw [this]at a3
    exact a3
 ·simp only [pwA,seval,-iQ0,hlt]
  simp only [pwA,seval,-iQ0,hlt,Int.ofNat_le,hz',Nat.sub_zero];refine PSl.cat (bytes:=24) (σb:=σ) (n:=0) (cs:=[]) (zC σ _) (PSl.new _ 1 rfl (Nat.le_refl _)) (by rw [List.length_take];omega) (by omega) (by omega) fun v1 h1 k1 a1=>?_
  rw [List.nil_append,Nat.zero_add]at a1
  simp only [pwA,seval,-iQ0];refine PSl.push (bytes:=24) k1 a1 (by omega) (by omega) fun v2 h2 k2 a2=>?_
  simp only [pwA,seval,-iQ0,hz',hdrop];refine PSl.cat (bytes:=24) k2 a2 (by rw [List.length_drop];omega) (by omega) (by omega) fun v3 h3 k3 a3=>?_
  simp only [pwA,seval,-iQ0];refine tail ?_ v3 h3 k3 ?_
  ·exact fun h=>absurd h hlt
  ·have:i+1+(u.length-i)=u.length+1:=by omega
   rw [this]at a3
   exact a3
end Go.Proofs
namespace Go.Proofs
open Go.Ab Go.Lie
variable {σ:PHeap} {K:PV→PHeap→Prop} {p p':Int} {n:Nat} {W:List (List Int)} {B:List (List (List Int))} {vP vB vL vU:PV}
theorem Zu:∀u:List (List Int),(finS p W u).length=u.length
 | []=>rfl
 | v::t=>by simp [finS,Zu t]
theorem zF6:∀(u:List (List Int)) (k:Nat) (h:k<u.length),(finS p W u)[k]? = some (redL p W (u.drop (k+1)) u[k])
 | [],k,h=>by simp at h
 | v::t,0,h=>by simp [finS]
 | v::t,k+1,h=>by
  have:=zF6 t k (by simpa using h)
  simp only [finS,List.getElem?_cons_succ,List.drop_succ_cons,List.getElem_cons_succ];exact this
theorem zF1 {xs:List Int} (h:isZ xs) (j:Nat):at_ xs j=0:=by
 rcases Nat.lt_or_ge j xs.length with x|x
 ·rw [at_eq x];exact h _ (List.getElem_mem x)
 ·exact at_ge x
theorem zG3 {xs:List Int} (h:¬isZ xs):dep xs<xs.length:=by
 rcases Nat.lt_or_ge (dep xs) xs.length with x|x
 ·exact x
 ·exact absurd (zLX (by have:=zAN xs;omega)) h
theorem zM0 {u:List (List Int)} {x:List Int} (hz:∀v∈u,at_ x (dep v)=0) (hx:dep x<x.length):∀v∈u,dep v≠dep x:=fun v hv e=>ZF hx (by rw [←e];exact hz v hv)
theorem zEg {gens:List (List Int)} (hR:IsR vP vB W B) (o:OkW p n W) (hp:isP p) (hL:FII vL gens) (he:Els p n gens) (hgl:gens.length≤1048576) (hk:∀out rows cap,Canon p n W gens out→All2 FI rows out→full 1 cap out.length→K (.sl σ.next 0 out.length cap) (σ.new rows)):
  zA Tryz.prog 23 [.agg [.int .i64 p,vP,vB],vL] σ K:=by
 have h1:=hR.P.one;have h2:=hR.B.one;have hn6:=o.le;have hpb:=hp.bd;have hpk:-1000000000≤p∧p≤1000000000:=by omega
 obtain⟨wl,al,rl,rfl,hrl⟩:=hL;refine zA.gh ?_;refine zD mix Tryz.func23 ?_;simp only [pwA,seval,-iQ0,h1,h2];generalize hH:((σ.new [.int .i64 p,vP,vB]).new []).kill (σ.next+1)=H;have hHn:H.next=σ.next+2:=by rw [←hH];simp only [pwA,seval,-iQ0]
 have hHk:Keep σ H:=by rw [←hH];exact((zC σ _).new _).kill (by omega)
 have hb3:H.rd σ.next 0 3=some [.int .i64 p,vP,vB]:=by rw [←hH];simp only [pwA,seval,-iQ0]
 have hb1:H.rd1 σ.next 0=some (.int .i64 p):=by rw [←hH];simp only [pwA,seval,-iQ0]
 have elU:∀{u Q:List (List Int)},Grow p n W gens u Q→(∀v∈u,El p n v∧dep v<n)∧u.length≤n:=fun g=>⟨fun v hv=>⟨(g.led v hv).1,(g.led v hv).2.1⟩,qj (fun v hv=>(g.led v hv).2.1) g.asc⟩
 refine Zx (fun m vs h'=>∃i:Nat,i≤gens.length∧m=gens.length-i∧∃vU u,vs=[.fz wl al gens.length rl,.ptr σ.next 0,vU,.int .i64 i]∧H=h'∧FII vU u∧Grow p n W gens u (gens.drop i)) gens.length ?_ ?_
 ·refine .fz (σ.next+1) [] (by simp only [pwA,seval,-iQ0]) trivial fun o1=>.here ?_
  rw [hH];refine⟨0,by omega,by omega,.fz true (.sl o1 0 0 (.known 0)) 0 [],[],?_,rfl,⟨_,_,_,rfl,All2.nil _⟩,by rw [List.drop_zero];exact Grow.start he⟩
  simp only [pwA,seval,-iQ0];simp only [sbs,sb,capOK,Nat.le_refl,decide_true,and_self,if_true]
  rfl
 rintro m vs h' ⟨i,hi,rfl,vU,u,rfl,rfl,hU,hg⟩
 simp only [pwA,seval,-iQ0];refine iteI (fun hlt=>?_) fun hge=>?_
 ·obtain⟨w4,a4,hr⟩:=hrl.rowI hlt
  have hge:=he _ (List.getElem_mem hlt);have hd:gens.drop i=gens[i]::gens.drop (i+1):=List.drop_eq_getElem_cons hlt;rw [hd]at hg
  simp only [pwA,seval,-iQ0,hlt,hr,hb3,hb1];refine QK hR o hU (elU hg).1 (by have:=(elU hg).2;omega) hge rfl fun v0=>?_
  simp only [pwA,seval,-iQ0];refine zF (fun m vs h'=>∃vU u vX x,m=n-u.length∧vs=[.fz wl al gens.length rl,.ptr σ.next 0,vU,.int .i64 i,.fz true vX n (pis x)]∧H=h'∧FII vU u∧Grow p n W gens u (x::gens.drop (i+1))∧∀v∈u,at_ x (dep v)=0) (n-u.length) ?_ ?_
  ·exact⟨vU,u,v0,_,rfl,rfl,rfl,hU,hg.reduce o,(QZ o hg.led hg.asc hge).1⟩
  rintro m vs h' ⟨vU,u,vX,x,rfl,rfl,rfl,hU,hg,hz⟩
  have hx:=hg.els x (by simp)
  have hxl:=hx.1;simp only [pwA,seval,-iQ0];refine zBI hxl.symm (by omega) ?_
  by_cases h0:isZ x
  ·simp only [pwA,seval,-iQ0,h0,wrapS hlt (by omega:gens.length≤4611686018427387904)]
   exact⟨_,by omega,.here ⟨i+1,by omega,rfl,vU,u,rfl,rfl,hU,hg.drop (zF1 h0)⟩⟩
  ·have hdx:dep x<x.length:=zG3 h0
   have hdn:dep x<n:=by omega
   have hxd:=hx.at0 o (dep x);have hne:=ZF hdx;rw [at_eq hdx]at hxd hne
   simp only [pwA,seval,-iQ0,h0,hb3,hb1];refine Qg hxl.symm (by omega) ?_
   simp only [pwA,seval,-iQ0,hdn,hdx,gi hdx,zN,hb3,hb1];refine zJy hp (by omega) fun k hk1 hk2 hk3=>?_
   simp only [pwA,seval,-iQ0,hdn,hdx,gi hdx,zN,hb3,hb1];refine qm hR o hx hx hxl.symm hxl.symm (by omega) (by decide) fun v1=>?_
   have hT:=hg.take o hdn (zM0 hz hdx) (k:=k) (by rw [at_eq hdx];exact hk3)
   obtain⟨y1,y2,y3,y4⟩:=zAW o hx hdn (k:=k) (by rw [at_eq hdx];exact hk3)
   generalize norm p W (lmix k x 0 x)=y at *
   simp only [pwA,seval,-iQ0];refine zFw hU (fun v hv=>by rw [((elU hg).1 v hv).1.1];omega) (by have:=(elU hg).2;omega) (by rw [y1.1.1];omega) y1.1.1.symm fun vU' hU'=>?_
   simp only [pwA,seval,-iQ0,hb3,hb1];refine qm hR o y1.1 y1.1 y1.1.1.symm y1.1.1.symm hpk (by decide) fun v2=>?_
   obtain⟨z1,z2⟩:=ZL o y1.1 p;generalize norm p W (lmix p y 0 y)=z at *
   simp only [pwA,seval,-iQ0,hb3,hb1];refine QK hR o hU' (elU hT).1 (by have:=(elU hT).2;omega) z1 z1.1.symm fun v3=>?_
   simp only [pwA,seval,-iQ0];have hlen:=(elU hT).2;rw [Zf]at hlen
   exact⟨_,by rw [Zf];omega,vU',insD u y,v3,_,rfl,rfl,hU',hT.reduce o,(QZ o hT.led hT.asc z1).1⟩
 ·have hie:i=gens.length:=by omega
  subst hie;rw [List.drop_length]at hg
  have hbase:=hg.base;have hlu:=(elU hg).2;obtain⟨hcan,_⟩:=zHl o hbase;obtain⟨wu,au,ru,rfl,hru⟩:=hU;have hrul:=hru.1;refine zF (fun m vs h'=>∃k:Nat,k≤u.length∧m=u.length-k∧∃vO rows,vs=[.ptr σ.next 0,.fz wu au u.length ru,vO,.int .i64 k]∧Keep H h'∧PSl H.next 1 h' vO k rows∧All2 FI rows ((finS p W u).take k)) u.length ?_ ?_
  ·exact⟨0,by omega,by omega,_,[],rfl,zC H _,PSl.new _ 1 rfl (Nat.le_refl _),by simpa using All2.nil _⟩
  rintro m vs h' ⟨k,hk',rfl,vO,rows,rfl,hkp,ha,hrows⟩
  simp only [pwA,seval,-iQ0];refine iteI (fun hlt=>?_) fun hge=>?_
  ·obtain⟨w5,a5,hrk⟩:=hru.rowI hlt
   have hle:k+1≤u.length:=hlt;have hdrop:(ru.drop (k+1)).take (u.length-(k+1))=ru.drop (k+1):=List.take_of_length_le (by rw [List.length_drop];omega)
   have hb3':h'.rd σ.next 0 3=some [.int .i64 p,vP,vB]:=by rw [hkp.rd (by omega)];exact hb3
   simp only [pwA,seval,-iQ0,hlt,hrk,hb3',hle,hdrop,wrapS hlt (by omega:u.length≤4611686018427387904)]
   refine QK hR o (u:=u.drop (k+1)) ⟨false,pslA 1 au (k+1) u.length,_,by rw [List.length_drop],hru.drop _⟩ (fun v hv=>(elU hg).1 v (List.mem_of_mem_drop hv)) (by rw [List.length_drop];omega) (hbase.led _ (List.getElem_mem hlt)).1 rfl fun v1=>?_
   simp only [pwA,seval,-iQ0];refine PSl.push (bytes:=24) hkp ha (by omega) (by omega) fun vO' h2 k2 a2=>?_
   simp only [pwA,seval,-iQ0,wrapS hlt (by omega:u.length≤4611686018427387904)]
   refine⟨_,by omega,k+1,by omega,rfl,vO',_,rfl,k2,a2,?_⟩
   have hg2:=zF6 (p:=p) (W:=W) u k hlt;have hl2:k<(finS p W u).length:=by rw [Zu];exact hlt
   rw [List.take_succ_eq_append_getElem hl2];rw [List.getElem?_eq_getElem hl2]at hg2
   rw [Option.some.inj hg2];have hrl2:=(ZA o (u:=u.drop (k+1)) (fun v hv=>((elU hg).1 v (List.mem_of_mem_drop hv)).1) (hbase.led _ (List.getElem_mem hlt)).1).1
   exact hrows.snoc ⟨true,v1,by rw [hrl2]⟩
  ·have hie:k=u.length:=by omega
   subst hie;rw [List.take_of_length_le (by rw [Zu];exact Nat.le_refl _)]at hrows
   obtain⟨s,cap,rfl,hc,q2,q3,q4,q5⟩:=ha;have hkk:=hk (finS p W u) rows cap (hg.done hcan) hrows (by rw [Zu];exact hc)
   rw [Zu]at hkk
   exact Gh.finS (hHk.trans hkp) q2 (by omega) (hrows.bI _) hkk
theorem zBF {gens:List (List Int)} (hR:IsR vP vB W B) (o:OkW p n W) (hp:isP p) (hL:FII vL gens) (he:Els p n gens) (hgl:gens.length≤1048576) (hk:∀v out,Canon p n W gens out→FII v out→K v σ):
  zA Tryz.prog 23 [.agg [.int .i64 p,vP,vB],vL] σ K:=by
 refine zA.gh (zEg hR o hp hL he hgl fun out rows cap hc hr hcap=>?_)
 exact Gh.finF (s:=σ.next) (zC σ _) (by rw [zP,if_pos rfl]) (Nat.le_refl _) (hr.bI 0) hcap.ok fun o1=>hk _ out hc ⟨true,.sl o1 0 out.length cap,rows,rfl,hr⟩
end Go.Proofs
namespace Go.Proofs
open Go.Ab Go.Lie
variable {σ:PHeap} {K:PV→PHeap→Prop} {p p':Int} {n:Nat} {W:List (List Int)} {B:List (List (List Int))} {vP vB vL vU:PV} {s:Nat}
def euc (p a:Int):Nat→Int×Int×Int×Int
 | 0=>(p,a,0,1)
 | k+1=>let t:=euc p a k
  if t.2.1=0 then t else(t.2.1,t.1-t.1.tdiv t.2.1*t.2.1,t.2.2.2,t.2.2.1-t.1.tdiv t.2.1*t.2.2.2)
def eucOK (p a:Int) (k:Nat):Bool:=
 let t:=euc p a k
 decide (-7≤t.1∧t.1≤7∧-7≤t.2.1∧t.2.1≤7∧-7≤t.2.2.1∧t.2.2.1≤7∧-7≤t.2.2.2∧t.2.2.2≤7∧-7≤t.1.tdiv t.2.1∧t.1.tdiv t.2.1≤7∧-49≤t.1.tdiv t.2.1*t.2.1∧t.1.tdiv t.2.1*t.2.1≤49∧-49≤t.1.tdiv t.2.1*t.2.2.2∧t.1.tdiv t.2.1*t.2.2.2≤49∧(k=8→t.2.1=0)∧(t.2.1=0→a*(t.2.2.1 % p) % p=1 % p))
theorem zMT:∀p∈[2,3,5,7],∀a∈[1,2,3,4,5,6],(a:Int)<p→∀k∈[0,1,2,3,4,5,6,7,8],eucOK p a k=true:=by decide +kernel
theorem zM2 {a:Int} (hp:isP p) (ha:0<a∧a<p) {k:Nat} (hk:k≤8):eucOK p a k=true:=by
 have hpb:=hp.bd;refine zMT p ?_ a ?_ ha.2 k ?_
 ·rcases hp with h | h | h | h<;>simp [h]
 ·have:a=1∨a=2∨a=3∨a=4∨a=5∨a=6:=by omega
  rcases this with h|h|h|h|h|h<;>simp [h]
 ·have:k=0∨k=1∨k=2∨k=3∨k=4∨k=5∨k=6∨k=7∨k=8:=by omega
  rcases this with h|h|h|h|h|h|h|h|h<;>simp [h]
theorem zFB {a:Int} (hp:isP p) (ha:0<a∧a<p) (hk:∀(x:Int) (b:Bool),0≤x→x<p→a*x % p=1→K (.tup [.int .i64 x,.bool b]) σ):zA Tryz.prog 48 [.int .i64 a,.int .i64 p] σ K:=by
 have hpb:=hp.bd;refine zD mix Tryz.func48 ?_;simp only [pwA,seval,-iQ0];refine zF (fun m vs h'=>∃k:Nat,k≤8∧m=8-k∧vs=[.int .i64 p,.int .i64 (euc p a k).1,.int .i64 (euc p a k).2.1,.int .i64 (euc p a k).2.2.1,.int .i64 (euc p a k).2.2.2]∧σ=h') 8 ?_ ?_
 ·exact⟨0,by omega,by omega,rfl,rfl⟩
 rintro m vs h' ⟨k,hk8,rfl,rfl,rfl⟩
 have hok:=zM2 hp ha hk8;unfold eucOK at hok
 have hst:euc p a (k+1)=if (euc p a k).2.1=0 then euc p a k else((euc p a k).2.1,(euc p a k).1-(euc p a k).1.tdiv (euc p a k).2.1*(euc p a k).2.1,(euc p a k).2.2.2,(euc p a k).2.2.1-(euc p a k).1.tdiv (euc p a k).2.1*(euc p a k).2.2.2):=rfl
 generalize hT:euc p a k=T at *
 obtain⟨r,nx,x,y⟩:=T;dsimp only at hok hst ⊢
 simp only [decide_eq_true_eq]at hok
 obtain⟨b1,b2,b3,b4,b5,b6,b7,b8,b9,b10,b11,b12,b13,b14,b15,b16⟩:=hok
 by_cases h0:nx=0
 ·subst h0
  simp only [pwA,seval,-iQ0];refine zH3 (by omega) (by omega) ?_
  simp only [pwA,seval,-iQ0];refine hk _ _ (Int.emod_nonneg _ (by omega)) (Int.emod_lt_of_pos _ (by omega)) ?_
  rw [b16 rfl];exact Int.emod_eq_of_lt (by omega) (by omega)
 ·rw [if_neg h0]at hst
  have hk9:k≠8:=fun e=>h0 (b15 e)
  simp only [pwA,seval,-iQ0,h0,wrap64 (n:=r.tdiv nx) (by omega) (by omega),wrap64 (n:=r.tdiv nx*nx) (by omega) (by omega),wrap64 (n:=r.tdiv nx*y) (by omega) (by omega),wrap64 (n:=r-r.tdiv nx*nx) (by omega) (by omega),wrap64 (n:=x-r.tdiv nx*y) (by omega) (by omega)]
  refine⟨_,by omega,k+1,by omega,rfl,?_⟩
  rw [hst]
theorem zDp {l:Nat} {w:Bool} {a:AV} {xs:List Int} (hl:l=xs.length) (hb:xs.length≤1048576) (hk:K (.int .i64 (dep xs)) σ):zA Tryz.prog 45 [.fz w a l (pis xs)] σ K:=by
 subst hl;refine zD mix Tryz.func45 ?_;simp only [pwA,seval,-iQ0];refine zF (fun m vs h'=>∃i:Nat,i≤dep xs∧m=dep xs-i∧vs=[.fz w a xs.length (pis xs),.fz w a xs.length (pis xs),.int .i64 xs.length,.int .i64 i]∧σ=h') (dep xs) ?_ ?_
 ·exact⟨0,by omega,by omega,rfl,rfl⟩
 rintro m vs h' ⟨i,hi,rfl,rfl,rfl⟩
 have hdl:=zAN xs
 by_cases hlt:i<xs.length
 ·by_cases h0:xs[i]=0
  ·have hid:i<dep xs:=by
    rcases Nat.lt_or_ge i (dep xs)with x|x
    ·exact x
    ·have:i=dep xs:=by omega
     subst this;exact absurd (by rw [at_eq hlt];exact h0) (ZF hlt)
   simp only [pwA,seval,-iQ0,hlt,zN,gi hlt,h0,wrapS hlt (by omega:xs.length≤4611686018427387904)]
   exact⟨_,by omega,i+1,by omega,rfl,rfl⟩
  ·have hid:i=dep xs:=by
    rcases Nat.lt_or_ge i (dep xs)with x|x
    ·exact absurd (by rw [←at_eq hlt];exact za x) h0
    ·omega
   subst hid;simp only [pwA,seval,-iQ0,hlt,zN,gi hlt,h0];exact hk
 ·have hid:i=dep xs:=by omega
  subst hid;simp only [pwA,seval,-iQ0,hlt];have hd:dep xs=xs.length:=by omega
  rw [hd]at hk
  exact hk
theorem zL7 {x:Int} (hk:K (.bool (!decide (x=0))) σ):zA Tryz.prog 107 [.int .i64 x] σ K:=by
 refine zD mix Tryz.func107 ?_;simp only [pwA,seval,-iQ0];exact hk
theorem zMs:okF Tryz.prog 107=true:=by kernel_rfl
theorem zGW {l:Nat} {w:Bool} {a:AV} {xs:List Int} (hl:l=xs.length) (hb:xs.length≤1048576) (hd:dep xs<xs.length) (hk:K (.int .i64 (dep xs)) σ):
  zA Tryz.prog 106 [.fz w a l (pis xs),.clo 107 [] []] σ K:=by
 subst hl;refine zD mix Tryz.func106 ?_;simp only [pwA,seval,-iQ0];refine zF (fun m vs h'=>∃i:Nat,i≤dep xs∧m=dep xs-i∧vs=[.fz w a xs.length (pis xs),.clo 107 [] [],.int .i64 xs.length,.int .i64 i]∧σ=h') (dep xs) ?_ ?_
 ·exact⟨0,by omega,by omega,rfl,rfl⟩
 rintro m vs h' ⟨i,hi,rfl,rfl,rfl⟩
 have hlt:i<xs.length:=by omega
 simp only [pwA,seval,-iQ0,hlt,zN,gi hlt];refine⟨zMs,zL7 ?_⟩
 by_cases h0:xs[i]=0
 ·have hid:i<dep xs:=by
   rcases Nat.lt_or_ge i (dep xs)with x|x
   ·exact x
   ·have:i=dep xs:=by omega
    subst this;exact absurd (by rw [at_eq hlt];exact h0) (ZF hlt)
  simp only [pwA,seval,-iQ0,h0,ne_eq,not_true,decide_false,wrapS hlt (by omega:xs.length≤4611686018427387904)]
  exact⟨_,by omega,i+1,by omega,rfl,rfl⟩
 ·have hid:i=dep xs:=by
   rcases Nat.lt_or_ge i (dep xs)with x|x
   ·exact absurd (by rw [←at_eq hlt];exact za x) h0
   ·omega
  subst hid;simp only [pwA,seval,-iQ0,h0,ne_eq,not_false_iff,decide_true];exact hk
abbrev deps (u:List (List Int)):List Int:=u.map fun v=>(dep v:Int)
theorem zJR {u:List (List Int)} (hL:FII vU u) (hu:∀v∈u,dep v<v.length∧v.length≤1048576) (hul:u.length≤1048576) (hk:∀v,K (.fz true v u.length (pis (deps u))) σ):zA Tryz.prog 87 [vU] σ K:=by
 obtain⟨wl,al,rl,rfl,hrl⟩:=hL;refine zA.gh ?_;refine zD mix Tryz.func87 ?_;simp only [pwA,seval,-iQ0];refine zF (fun m vs h'=>∃(i:Nat) (v:PV),i≤u.length∧m=u.length-i∧vs=[v,.fz wl al u.length rl,.int .i64 u.length,.int .i64 i]∧Keep σ h'∧PAcc σ.next 1 h' v i (pis (deps (u.take i)))) u.length ?_ ?_
 ·exact⟨0,_,by omega,by omega,rfl,Keep.refl σ,PAcc.nil _ _ _⟩
 rintro m vs h' ⟨i,v,hi,rfl,rfl,hkp,ha⟩
 simp only [pwA,seval,-iQ0];refine iteI (fun hlt=>?_) fun hge=>?_
 ·obtain⟨w4,a4,hr⟩:=hrl.rowI hlt
  have hui:=hu _ (List.getElem_mem hlt);simp only [pwA,seval,-iQ0,hlt,hr];refine zGW rfl hui.2 hui.1 ?_;simp only [pwA,seval,-iQ0];refine PAcc.push (bytes:=8) hkp ha (by omega) (by omega) fun v' h2 k2 a2=>?_
  simp only [pwA,seval,-iQ0,wrapS hlt (by omega:u.length≤4611686018427387904)]
  refine⟨_,by omega,i+1,v',by omega,rfl,rfl,k2,?_⟩
  have e:pis (deps (u.take (i+1)))=pis (deps (u.take i))++[.int .i64 (dep u[i])]:=by rw [List.take_succ_eq_append_getElem hlt,deps,List.map_append,←zBA];rfl
  rw [e];exact a2.acc
 ·have hie:i=u.length:=by omega
  subst hie;rw [List.take_length]at ha
  exact ha.fin hkp (zZ _ _) hk
theorem zHs (o:OkW p n W) {y v:List Int} (hy:El p n y) (hv:El p n v) (c:Int):ladd p W y (lmul p W c v)=norm p W (lmix 1 y c v):=by
 have hm:(lmix c v 0 v).length=n:=by rw [zL rfl];exact hv.1
 have hz:El p n (lmul p W c v):=QA o hm;refine zIV o (by rw [zL (hy.1.trans hz.1.symm)];exact hy.1) (by rw [zL (hy.1.trans hv.1.symm)];exact hy.1) ?_
 have h1:Eqv p n W (fun j=>at_ y j+at_ (lmul p W c v) j) (fun j=>at_ y j+at_ (lmix c v 0 v) j):=(Eqv.refl _).add (zh o hm)
 refine((Eqv.of_eq fun j=>?_).trans h1).trans (Eqv.of_eq fun j=>?_)
 ·rw [zq (hy.1.trans hz.1.symm)];omega
 ·rw [zq (hy.1.trans hv.1.symm),zq rfl];omega
theorem zBZ {l:Nat} {w:Bool} {a:AV} {u:List (List Int)} {x:List Int} (hs:PtrR σ s p vP vB) (hP:FII vP W) (o:OkW p n W) (hL:FII vU u) (hu:∀v∈u,El p n v∧dep v<n) (hul:u.length≤1048576) (hx:El p n x) (hl:l=x.length)
  (hk:∀v,K (.fz true v n (pis (redL p W u x))) σ):zA Tryz.prog 49 [.ptr s 0,vU,.fz w a l (pis x)] σ K:=by
 have hn6:=o.le;have hp:=o.pr;unfold okp at hp
 refine zD mix Tryz.func49 ?_;simp only [pwA,seval,-iQ0];refine zA.fzN hx.1 (fun K'=>zBO hl (by rw [hx.1];omega)) fun v0=>?_
 simp only [pwA,seval,-iQ0];refine zJR hL (fun v hv=>⟨by rw [(hu v hv).1.1];exact(hu v hv).2,by rw [(hu v hv).1.1];omega⟩) hul fun vp=>?_
 obtain⟨wl,al,rl,rfl,hrl⟩:=hL;simp only [pwA,seval,-iQ0];refine zF (fun m vs h'=>∃i:Nat,i≤u.length∧m=u.length-i∧∃v,vs=[.ptr s 0,.fz wl al u.length rl,.fz true v n (pis (redL p W (u.take i) x)),.fz true vp u.length (pis (deps u)),.int .i64 u.length,.int .i64 i]∧σ=h') u.length ?_ ?_
 ·exact⟨0,by omega,by omega,v0,by rw [List.take_zero,redL];rfl,rfl⟩
 rintro m vs h' ⟨i,hi,rfl,v,rfl,rfl⟩
 simp only [pwA,seval,-iQ0];have hel:El p n (redL p W (u.take i) x):=ZA o (fun v hv=>(hu v (List.mem_of_mem_take hv)).1) hx
 refine iteI (fun hlt=>?_) fun hge=>?_
 ·obtain⟨w4,a4,hr⟩:=hrl.rowI hlt
  have hui:=hu _ (List.getElem_mem hlt);have hstep:redL p W (u.take (i+1)) x=red1 p W (redL p W (u.take i) x) u[i]:=by rw [List.take_succ_eq_append_getElem hlt,zEV]
  generalize hy:redL p W (u.take i) x=y at *
  have hdl:dep u[i] < y.length:=by rw [hel.1];exact hui.2
  have hya:=hel.at o.pr (dep u[i]);rw [at_eq hdl]at hya
  have hneg:IntKind.i64.wrap (0-y[dep u[i]])=-y[dep u[i]]:=by rw [wrap64 (by omega) (by omega)];omega
  have hpd:(deps u)[i]? = some (dep u[i]:Int):=by simp [deps,hlt]
  simp only [pwA,seval,-iQ0,hlt,hr,hui.2,zN,hpd,gi hdl,hneg];refine Zc hs hP o hui.1 rfl (by omega) fun v1=>?_
  simp only [pwA,seval,-iQ0];refine zAj hs hP o hel (zO o hui.1 hui.1) hel.1.symm (zO o hui.1 hui.1).1.symm fun v2=>?_
  simp only [pwA,seval,-iQ0,wrapS hlt (by omega:u.length≤4611686018427387904)]
  refine⟨_,by omega,i+1,by omega,rfl,v2,?_⟩
  rw [hstep,red1,at_eq hdl,←zHs o hel hui.1]
 ·have hie:i=u.length:=by omega
  subst hie;rw [List.take_length];exact hk v
end Go.Proofs
namespace Go.Proofs
open Go.Ab Go.Lie
variable {σ:PHeap} {K:PV→PHeap→Prop} {p p':Int} {n:Nat} {W:List (List Int)} {B:List (List (List Int))} {vP vB vL vU:PV} {s:Nat}
def PQ (b:Nat) (h:PHeap) (v:PV) (m:Nat) (cs:List PV):Prop:=
 (v=.fz true .nils 0 []∧m=0∧cs=[])∨∃s off cap row,v=.sl s off m cap∧full 1 cap m∧h.obj s=some row∧(row.drop off).take m=cs∧off+m≤row.length∧b≤s∧s<h.next
theorem PQ.of {b m:Nat} {h:PHeap} {v:PV} {cs:List PV} (a:PAcc b 1 h v m cs):PQ b h v m cs:=by
 rcases a with a|⟨s,cap,rfl,h1,h2,h3,h4,h5⟩
 ·exact .inl a
 ·exact .inr ⟨s,0,cap,cs,rfl,h1,h2,by rw [List.drop_zero,List.take_of_length_le (by omega)],by omega,h4,h5⟩
theorem PQ.set {b m t:Nat} {h:PHeap} {v:PV} {cs:List PV} (a:PQ b h v m cs) (ht:t<b) (ds:List PV):PQ b (h.set t ds) v m cs:=by
 rcases a with a|⟨s,off,cap,row,rfl,h1,h2,h3,h4,h5,h6⟩
 ·exact .inl a
 ·exact .inr ⟨s,off,cap,row,rfl,h1,by rw [zH,if_neg (by omega)];exact h2,h3,h4,h5,h6⟩
theorem PQ.pLen {b m:Nat} {h:PHeap} {v:PV} {cs:List PV} (a:PQ b h v m cs):pLen v=some (.int .i64 m):=by
 rcases a with ⟨rfl,rfl,_⟩|⟨s,off,cap,row,rfl,_⟩<;>rfl
theorem PQ.uncons {b m:Nat} {h:PHeap} {v c:PV} {cs:List PV} (a:PQ b h v m (c::cs)):∃s off cap v',v=.sl s off m cap∧h.rd1 s off=some c∧0<m∧QH 1 v (some (.int .i64 1)) none none=some v'∧PQ b h v' (m-1) cs:=by
 rcases a with ⟨_,_,e⟩|⟨s,off,cap,row,rfl,h1,h2,h3,h4,h5,h6⟩
 ·cases e
 ·have hm:0<m:=by
   rcases Nat.eq_zero_or_pos m with x|x
   ·subst x;cases h3
   ·exact x
  have e2:row.drop off=c::row.drop (off+1):=by
   have hlt:off<row.length:=by omega
   rw [List.drop_eq_getElem_cons hlt]at h3 ⊢
   obtain⟨m',rfl⟩:∃m',m=m'+1:=⟨m-1,by omega⟩
   rw [List.take_succ_cons]at h3
   cases h3;rfl
  have e3:(row.drop (off+1)).take (m-1)=cs:=by
   rw [e2]at h3
   obtain⟨m',rfl⟩:∃m',m=m'+1:=⟨m-1,by omega⟩
   rw [List.take_succ_cons]at h3
   cases h3;rfl
  have e4:row[off]? = some c:=by
   have hlt:off<row.length:=by omega
   rw [List.drop_eq_getElem_cons hlt]at e2
   rw [List.getElem?_eq_getElem hlt];cases e2;rfl
  have hz:(1:Int)≤(m:Int):=by omega
  rcases h1 with rfl|rfl
  ·refine⟨s,off,_,.sl s (off+1) (m-1) (.grown 1),rfl,by rw [zG h2];exact e4,hm,?_,.inr ⟨s,off+1,_,row,rfl,.inl rfl,h2,e3,by omega,h5,h6⟩⟩
   simp only [pwA,seval,-iQ0,hm,hz]
  ·by_cases h10:m=1
   ·subst h10
    refine⟨s,off,_,.sl s off 0 (.known 0),rfl,by rw [zG h2];exact e4,hm,?_,.inr ⟨s,off,_,row,rfl,.inr rfl,h2,by simpa using e3,by omega,h5,h6⟩⟩
    rfl
   ·refine⟨s,off,_,.sl s (off+1) (m-1) (.known (m-1)),rfl,by rw [zG h2];exact e4,hm,?_,.inr ⟨s,off+1,_,row,rfl,.inr rfl,h2,e3,by omega,h5,h6⟩⟩
    simp only [pwA,seval,-iQ0,hm,hz,h10]
    rfl
theorem PQ.push {σb h:PHeap} {bytes m:Nat} {v x:PV} {cs:List PV} {K:PV×PHeap→Prop} (hk:Keep σb h) (a:PQ σb.next h v m cs)
  (h1:(m+1)*bytes≤140737488355328) (h2:m+1≤4611686018427387904) (k:∀v' h',Keep σb h'→PQ σb.next h' v' (m+1) (cs++[x])→K (v',h')):optK (qP 1 bytes (h.new [x]) v (.sl h.next 0 1 (.known 1))) K:=by
 rcases a with ⟨rfl,rfl,rfl⟩|⟨s,off,cap,row,rfl,q1,q2,q3,q4,q5,q6⟩
 ·exact PAcc.push hk (PAcc.nil _ _ _) h1 h2 fun v' h' k1 k2=>k v' h' k1 (.of k2.acc)
 ·rw [Qx]
  have hp:ZY 1 (h.new [x]) (.sl h.next 0 1 (.known 1)) 1=some [x]:=by simp [zBe,Q8]
  have hobj:(h.new [x]).obj s=some row:=by simp only [PHeap.new];rw [if_neg (by omega)];exact q2
  have hn:=hk.next;simp only [plen,Option.bind_some];rw [if_neg (by omega),hp]
  simp only [Option.bind_some];have hl:cs.length=m:=by rw [←q3,List.length_take,List.length_drop];omega
  rcases q1 with rfl|rfl
  ·rw [zAm,if_pos ⟨h1,h2,rfl⟩,hobj]
   simp only [Option.bind_some];rw [if_pos (by omega),Nat.mul_one,q3]
   refine ZK rfl (k _ _ (((hk.new _).kill (by omega)).new _) (.inr ⟨(h.new [x]).next,0,_,cs++[x],rfl,.inl rfl,by simp [PHeap.new,PHeap.kill],?_,by simp [hl],by simp [PHeap.new];omega,by simp [PHeap.new,PHeap.kill]⟩))
   rw [List.drop_zero,List.take_of_length_le (by simp [hl])]
  ·rw [zAl,if_neg (by omega),if_pos ⟨h1,h2⟩,zf hobj,if_pos (by omega),Nat.mul_one,q3]
   simp only [Option.map_some];refine ZK rfl (k _ _ ((hk.new _).new _) (.inr ⟨(h.new [x]).next,0,_,cs++[x],rfl,.inl rfl,by simp [PHeap.new],?_,by simp [hl],by simp [PHeap.new];omega,by simp [PHeap.new]⟩))
   rw [List.drop_zero,List.take_of_length_le (by simp [hl])]
theorem zKR {w:Bool} {a:AV} {m:Nat} {rows:List PV} (hl:rows.length=m) (hb:Bels 0 rows) (hm:m≤1048576) (hk0:rows=[]→K (.fz true .nils 0 []) σ) (hk1:∀cap,full 1 cap m→K (.sl σ.next 0 m cap) (σ.new rows)):
  zA Tryz.prog 44 [.fz w a m rows] σ K:=by
 refine zA.nil0 fun hnil=>zA.gh ?_
 refine zD mix Tryz.func44 ?_;simp only [pwA,seval,-iQ0];cases hn:qf a
 ·simp only [pwA,seval,-iQ0]
  refine PSl.cat (bytes:=24) (σb:=σ) (n:=0) (cs:=[]) (zC σ _) (PSl.new _ 1 rfl (Nat.le_refl _)) hl (by omega) (by omega) fun v' h' hk' ha=>?_
  simp only [pwA,seval,-iQ0]at ha ⊢
  exact ha.out hk' (hb.up (Nat.zero_le _)) hk1
 ·simp only [pwA,seval,-iQ0]
  exact Gh.ret (hk0 (hnil hn).2)
theorem zLh {w:Bool} {a:AV} {m:Nat} {rows:List PV} (hl:rows.length=m) (hb:Bels 0 rows) (hm:m≤1048576) (hk:∀v h',Keep σ h'→PQ σ.next h' v m rows→K v h'):
  zA Tryz.prog 44 [.fz w a m rows] σ K:=
 zKR hl hb hm (fun h0=>hk _ _ (Keep.refl _) (.inl ⟨rfl,by rw [←hl,h0];rfl,h0⟩)) fun cap hc=>hk _ _ (zC _ _) (.of (.inr (PSl.own hc (by simp [PHeap.new]) (by omega) (Nat.le_refl _) (by simp [PHeap.new]))))
theorem zGa {l:Nat} {w:Bool} {av:AV} {k:Int} {a:List Int} (hs:PtrR σ s p vP vB) (hP:FII vP W) (o:OkW p n W) (ha:El p n a) (hl:l=a.length) (hkb:-1000000000≤k∧k≤1000000000) (hn:0<n)
  (hk:∀o cap,K (.fz true (.sl o 0 n cap) n (pis (lmul p W k a))) σ):zA Tryz.prog 47 [.ptr s 0,.int .i64 k,.fz w av l (pis a)] σ K:=by
 have hlen:=(zO o ha ha (k:=k) (m:=0)).1;refine zA.gh (zCL hs hP o ha hl hkb ⟨fun h0=>?_,fun cap hc=>?_⟩)
 ·exact absurd hlen (by rw [h0];simp;omega)
 ·rw [hlen]at hc ⊢
  exact Gh.finF (zC σ _) (by simp [PHeap.new]) (Nat.le_refl _) (zZ _ _) hc.ok fun o=>hk o cap
theorem PtrR.keep {h:PHeap} (hs:PtrR σ s p vP vB) (hk:Keep σ h):PtrR h s p vP vB:=⟨by rw [hk.obj s hs.lt];exact hs.obj,Nat.lt_of_lt_of_le hs.lt hk.next⟩
def BRow (n:Nat) (u:List (List Int)) (d:Nat) (v:PV):Prop:=
 (v=.fz true .nils 0 []∧∀y∈u,dep y≠d)∨∃o cap y,v=.fz true (.sl o 0 n cap) n (pis y)∧y∈u∧dep y=d
def BRows (n:Nat) (u:List (List Int)) (rb:List PV):Prop:=rb.length=n∧∀d (h:d<rb.length),BRow n u d rb[d]
theorem BRows.take {u:List (List Int)} {rb:List PV} {o d:Nat} {cap:Cap} {y:List Int} (h:BRows n u rb) (hd:d<n) (hy:dep y=d):BRows n (insD u y) (rb.set d (.fz true (.sl o 0 n cap) n (pis y))):=by
 refine⟨by rw [List.length_set];exact h.1,fun e he=>?_⟩
 rw [List.length_set]at he
 rw [List.getElem_set]
 by_cases x:d=e
 ·subst x
  rw [if_pos rfl];exact .inr ⟨o,cap,y,rfl,qc.2 (.inl rfl),hy⟩
 ·rw [if_neg x]
  rcases h.2 e he with ⟨h1,h2⟩|⟨o',c',y',h1,h2,h3⟩
  ·exact .inl ⟨h1,fun v hv=>by
    rcases qc.1 hv with rfl|hv
    ·omega
    ·exact h2 v hv⟩
  ·exact .inr ⟨o',c',y',h1,qc.2 (.inr h2),h3⟩
theorem Fp_le {u:List (List Int)} {k:Nat} (ha:Asc u):(∃y∈u,dep y=k)→∃y∈u,dep y=k∧Fp u k=y::Fp u (k+1):=by
 induction u with
 | nil=>rintro ⟨y,hy,_⟩;cases hy
 | cons v t ih=>
  have ht:∀w∈t,dep v<dep w:=fun w hw=>List.rel_of_pairwise_cons ha hw
  have hta:Asc t:=(List.pairwise_cons.1 ha).2
  rintro ⟨y,hy,rfl⟩
  rcases List.mem_cons.1 hy with rfl|hy
  ·refine⟨y,by simp,rfl,?_⟩
   have e1:Fp t (dep y)=t:=zB1 fun w hw=>Nat.le_of_lt (ht w hw)
   have e2:Fp t (dep y+1)=t:=zB1 fun w hw=>ht w hw
   rw [Fp,List.filter_cons,if_pos (by simp)]
   rw [show(List.filter (fun v=>decide (dep y≤dep v)) t)=t from e1]
   rw [Fp,List.filter_cons,if_neg (by simp)]
   rw [show(List.filter (fun v=>decide (dep y+1≤dep v)) t)=t from e2]
  ·obtain⟨y',h1,h2,h3⟩:=ih hta ⟨y,hy,rfl⟩
   have:=ht y hy
   refine⟨y',List.mem_cons_of_mem _ h1,h2,?_⟩;rw [Fp,List.filter_cons,if_neg (by simp;omega)]
   rw [Fp,List.filter_cons,if_neg (by simp;omega)]
   exact h3
theorem zMb {u:List (List Int)} {k:Nat} (h:∀y∈u,dep y≠k):Fp u k=Fp u (k+1):=List.filter_congr fun v hv=>by
 have:=h v hv
 simp only [decide_eq_decide];omega
theorem zHq:∀{u:List (List Int)} {k:Nat},Base p n W u→Base p n W (Fp u k)
 | [],k,h=>h
 | v::t,k,h=>by
  by_cases x:k≤dep v
  ·have e:Fp (v::t) k=v::t:=zB1 fun w hw=>by
    rcases List.mem_cons.1 hw with rfl|hw
    ·exact x
    ·have:=List.rel_of_pairwise_cons h.asc hw
     omega
   rw [e];exact h
  ·rw [Fp,List.filter_cons,if_neg (by simpa using x)]
   cases h with
   | cons _ _ _ h4=>exact zHq (by assumption)
theorem _root_.Go.Lie.Base.fp' {u:List (List Int)} {k:Nat} (h:Base p n W u):Base p n W (Fp u k):=zHq h
end Go.Proofs
namespace Go.Proofs
open Go.Ab Go.Lie
variable {σ:PHeap} {K:PV→PHeap→Prop} {p p':Int} {n:Nat} {W:List (List Int)} {B:List (List (List Int))} {vP vB vL vU:PV} {s:Nat}
theorem Q0 {gens:List (List Int)} (hs:PtrR σ s p vP vB) (hP:FII vP W) (o:OkW p n W) (hp:isP p) (hL:FII vL gens) (he:Els p n gens) (hgl:gens.length≤1048576) (hk:∀v out,Canon p n W gens out→FII v out→K v σ):
  zA Tryz.prog 19 [.ptr s 0,vL] σ K:=by
 have hn6:=o.le;have hpb:=hp.bd;have hpk:-1000000000≤p∧p≤1000000000:=by omega
 have hWn:=o.len;obtain⟨wl,al,rl,rfl,hrl⟩:=hL;have hP':=hP;obtain⟨wp,ap,rp,rfl,hrp⟩:=hP;have hsl:=hs.lt;have hP1:σ.rd1 s 1=some (.fz wp ap W.length rp):=by rw [zG hs.obj];rfl
 refine zA.gh ?_;refine zD mix Tryz.func19 ?_;simp only [pwA,seval,-iQ0,hP1,hWn,mk24 (n:=n) (by omega),mkL (n:=n) (by omega)]
 have elU:∀{u Q:List (List Int)},Grow p n W gens u Q→(∀v∈u,El p n v∧dep v<n)∧u.length≤n:=fun g=>⟨fun v hv=>⟨(g.led v hv).1,(g.led v hv).2.1⟩,qj (fun v hv=>(g.led v hv).2.1) g.asc⟩
 refine zLh hrl.1 (hrl.bI 0) hgl fun vQ h1 k1 q1=>?_
 simp only [pwA,seval,-iQ0];refine zF (fun m vs h'=>∃u Q vQ rb rq,m=2*(n-u.length)+Q.length∧vs=[.ptr s 0,.sl σ.next 0 n (.known n),vQ]∧Keep (σ.new rb) h'∧PQ (σ.next+1) h' vQ Q.length rq∧All2 FI rq Q∧Grow p n W gens u Q∧BRows n u rb∧Q.length≤gens.length) (2*n+gens.length) ?_ ?_
 ·refine⟨[],gens,vQ,_,rl,rfl,rfl,k1,q1,hrl,Grow.start he,⟨by simp,fun d hd=>.inl ⟨by simp,fun y hy=>by cases hy⟩⟩,Nat.le_refl _⟩
 rintro m vs h' ⟨u,Q,vQ,rb,rq,rfl,rfl,hkp,hq,hrq,hg,hb,hQl⟩
 have hk0:Keep σ h':=hkp.of;have hs':=hs.keep hk0;have hp0:h'.rd1 s 0=some (.int .i64 p):=by rw [zG hs'.obj];rfl
 have hobj:h'.obj σ.next=some rb:=by rw [hkp.obj _ (by simp [PHeap.new])];simp [PHeap.new]
 cases Q with
 | nil=>
  have hlen:pLen vQ=some (.int .i64 0):=hq.pLen;have hw:IntKind.i64.wrap ((n:Int)-1)=(n:Int)-1:=wrap64 (by omega) (by omega)
  have hbase:=hg.base;have hFn:Fp u n=[]:=List.filter_eq_nil_iff.2 fun v hv=>by have:=((elU hg).1 v hv).2;simp;omega
  simp only [pwA,seval,-iQ0,hlen,hw];refine Zx (fun m vs h2=>∃(k:Nat) (vO:PV),k≤n∧m=k∧vs=[.ptr s 0,.sl σ.next 0 n (.known n),vO,.int .i64 ((k:Int)-1)]∧Keep (σ.new rb) h2∧FII vO (finI p W (Fp u k))) n (.here ⟨n,_,Nat.le_refl _,rfl,rfl,hkp,by rw [hFn];exact⟨_,_,_,rfl,All2.nil _⟩⟩) ?_
  rintro m vs h2 ⟨k,vO,hkn,rfl,rfl,hk2,hO⟩
  have hk02:Keep σ h2:=hk2.of;have hs2:=hs.keep hk02;have hobj2:h2.obj σ.next=some rb:=by rw [hk2.obj _ (by simp [PHeap.new])];simp [PHeap.new]
  rcases Nat.eq_zero_or_pos m with rfl|hmp
  ·simp only [pwA,seval,-iQ0,show ¬((0:Int)≤((0:Nat):Int)-1) by omega]
   have hF0:Fp u 0=u:=zB1 fun v hv=>Nat.zero_le _
   rw [hF0]at hO
   exact Gh.fin0 hk02 (hO.bel _) (hk vO _ (hg.done (zEJ o hbase).1) hO)
  ·obtain⟨k,rfl⟩:∃k,m=k+1:=⟨m-1,by omega⟩
   have e:((k+1:Nat):Int)-1=(k:Int):=by omega
   have hkn':k<n:=hkn;have hkl:k<rb.length:=by rw [hb.1];exact hkn'
   have hrd:=zG hobj2 k;rw [List.getElem?_eq_getElem hkl]at hrd
   have hbs:=hbase.fp' (k:=k+1);rw [e];have hw2:IntKind.i64.wrap ((k:Int)-1)=(k:Int)-1:=wrap64 (by omega) (by omega)
   rcases hb.2 k hkl with ⟨e1,e2⟩|⟨oo,cap,y,e1,e2,e3⟩
   ·rw [e1]at hrd
    simp only [pwA,seval,-iQ0,hkn',hrd,hw2];refine⟨_,Nat.lt_succ_self k,.here ⟨k,vO,by omega,rfl,rfl,hk2,?_⟩⟩
    rw [zMb e2];exact hO
   ·rw [e1]at hrd
    obtain⟨y',y1,y2,y3⟩:=Fp_le hg.asc ⟨y,e2,e3⟩;obtain rfl:y'=y:=by
     rcases QI hg.asc y1 e2 with x|x|x
     ·exact x
     ·omega
     ·omega
    simp only [pwA,seval,-iQ0,hkn',hrd,hw2];have hF:=(zEJ o hbs).1;have hLl:(finI p W (Fp u (k+1))).length≤n:=qj (fun v hv=>(hF.base.led v hv).2.1) hF.base.asc
    have hy:=((elU hg).1 y' e2).1;refine zBZ hs2 hP' o hO (fun v hv=>⟨(hF.base.led v hv).1,(hF.base.led v hv).2.1⟩) (by omega) hy hy.1.symm fun v1=>?_
    have hrl:=(ZA o (u:=finI p W (Fp u (k+1))) (fun v hv=>(hF.base.led v hv).1) hy).1
    have hFk:finI p W (Fp u k)=redL p W (finI p W (Fp u (k+1))) y'::finI p W (Fp u (k+1)):=by rw [y3];rfl
    generalize finI p W (Fp u (k+1))=L at *
    generalize redL p W L y'=z at *
    obtain⟨wO,aO,rO,rfl,hrO⟩:=hO;simp only [pwA,seval,-iQ0];refine PSl.cat (bytes:=24) (σb:=h2) (n:=1) (cs:=[.fz true v1 n (pis z)]) (zC h2 _) (PSl.new _ 1 rfl (Nat.le_refl _)) hrO.1 (by omega) (by omega) fun v3 h3 k3 a3=>?_
    obtain⟨s3,cap3,rfl,hc3,ho3,hl3,hge3,hlt3⟩:=a3;have hall:All2 FI ([.fz true v1 n (pis z)]++rO) (z::L):=(All2.nil FI |>.snoc (⟨true,v1,by rw [hrl]⟩:FI (.fz true v1 n (pis z)) z)).append hrO
    have hne:σ.next≠s3:=by
     have:=hk2.next
     simp only [PHeap.new]at this
     omega
    simp only [pwA,seval,-iQ0,hw2];refine⟨k,Nat.lt_succ_self k,.fz s3 _ ho3 (hall.bI 0) fun o1=>.here ⟨k,.fz true (.sl o1 0 (1+L.length) cap3) (1+L.length) ([.fz true v1 n (pis z)]++rO),by omega,rfl,?_,(hk2.trans k3).kill (by have:=hk2.next;simp only [PHeap.new]at this ⊢;omega),by rw [hFk];exact⟨true,_,_,by rw [List.length_cons,Nat.add_comm],hall⟩⟩⟩
    simp only [pwA,seval,-iQ0];simp only [sbs,sb,hne,hc3.ok,false_and,and_self,if_true,if_false]
 | cons x Q=>
  have hlen:=hq.pLen;obtain⟨c,rq',rfl,hc,hrq'⟩:∃c rq',rq=c::rq'∧FI c x∧All2 FI rq' Q:=by
   cases rq with
   | nil=>exact absurd hrq.1 (by simp)
   | cons c rq'=>exact⟨c,rq',rfl,hrq.2 0 c x rfl rfl,⟨by simpa using hrq.1,fun k a b ha hb=>hrq.2 (k+1) a b (by simpa using ha) (by simpa using hb)⟩⟩
  obtain⟨sq,off,cap,vQ',rfl,hrd,hpos,hsl',hq'⟩:=hq.uncons;obtain⟨w4,a4,rfl⟩:=hc;generalize hkl:(x::Q).length=k at *
  have hQk:Q.length=k-1:=by rw [←hkl];simp
  have hposI:(0:Int)<(k:Int):=by omega
  have hx:=hg.els x (by simp)
  simp only [pwA,seval,-iQ0,hlen,hposI,hpos,hrd,hsl'];refine zDp rfl (by rw [hx.1];omega) ?_
  simp only [pwA,seval,-iQ0];refine zF (fun m vs h2=>∃x wX vX,m=n-dep x∧vs=[.ptr s 0,.sl σ.next 0 n (.known n),vQ',.fz wX vX n (pis x),.int .i64 (dep x)]∧h'=h2∧Grow p n W gens u (x::Q)) (n-dep x) ?_ ?_
  ·exact⟨x,_,_,rfl,by rw [hx.1];rfl,rfl,hg⟩
  clear hg hx hlen hkl
  rintro m vs h2 ⟨x,wX,vX,rfl,rfl,rfl,hg⟩
  have hx:=hg.els x (by simp)
  have hxl:=hx.1;have hdle:=zAN x
  by_cases hd:dep x<n
  ·have hdx:dep x<x.length:=by omega
   have hxd:=hx.at0 o (dep x);have hne:=ZF hdx;rw [at_eq hdx]at hxd hne
   have hdb:dep x<rb.length:=by rw [hb.1];exact hd
   have hrd2:=zG hobj (dep x);rw [List.getElem?_eq_getElem hdb]at hrd2
   rcases hb.2 _ hdb with ⟨e1,e2⟩|⟨oo,cap2,y,e1,e2,e3⟩
   ·rw [e1]at hrd2
    have hdn:((dep x:Int)=(n:Int))=False:=by simp;omega
    simp only [pwA,seval,-iQ0,hd,hrd2,hdn,hp0,zN,gi hdx];refine zFB hp (by omega) fun q qb hq1 hq2 hq3=>?_
    simp only [pwA,seval,-iQ0,hd,hrd2,hp0,zN,gi hdx];refine zGa hs' hP' o hx hxl.symm (by omega) (by omega) fun oz capz=>?_
    have hT:Grow p n W gens (insD u (lmul p W q x)) (lmul p W p (lmul p W q x)::Q):=hg.take o hd e2 (k:=q) (by rw [at_eq hdx];exact hq3)
    obtain⟨y1,y2⟩:Led p n (lmul p W q x)∧dep (lmul p W q x)=dep x:=⟨(zAW o hx hd (k:=q) (by rw [at_eq hdx];exact hq3)).1,(zAW o hx hd (k:=q) (by rw [at_eq hdx];exact hq3)).2.1⟩
    have hb2:=hb.take (o:=oz) (cap:=capz) hd y2;generalize lmul p W q x=y at *
    have hy:=y1.1;have hwr:h'.wr σ.next (dep x) [.fz true (.sl oz 0 n capz) n (pis y)]=some (h'.set σ.next (rb.set (dep x) (.fz true (.sl oz 0 n capz) n (pis y)))):=by
     rw [qH hobj,if_pos ⟨by rw [List.length_singleton];omega,rfl⟩]
     rw [List.append_assoc,List.singleton_append,List.length_singleton,take_set _ hdb]
    have hk3:Keep (σ.new (rb.set (dep x) (.fz true (.sl oz 0 n capz) n (pis y)))) (h'.set σ.next (rb.set (dep x) (.fz true (.sl oz 0 n capz) n (pis y)))):=hkp.setN _;have hq3':=hq'.set (Nat.lt_succ_self _) (rb.set (dep x) (.fz true (.sl oz 0 n capz) n (pis y)));have hrd3:(h'.set σ.next (rb.set (dep x) (.fz true (.sl oz 0 n capz) n (pis y)))).rd1 σ.next (dep x)=some (.fz true (.sl oz 0 n capz) n (pis y)):=by
     rw [zG (by rw [zH,if_pos rfl]),List.getElem?_set_self hdb]
    have hs3:=hs'.set (by omega) (rb.set (dep x) (.fz true (.sl oz 0 n capz) n (pis y))) (t:=σ.next)
    have hp3:(h'.set σ.next (rb.set (dep x) (.fz true (.sl oz 0 n capz) n (pis y)))).rd1 s 0=some (.int .i64 p):=by rw [zG hs3.obj];rfl
    have hset:(rb.set (dep x) (.fz true (.sl oz 0 n capz) n (pis y)))[dep x]? = some (.fz true (.sl oz 0 n capz) n (pis y)):=List.getElem?_set_self hdb;simp only [pwA,seval,-iQ0,hd,hwr,Nat.ne_of_lt hsl,hp0,hset];generalize h'.set σ.next (rb.set (dep x) (.fz true (.sl oz 0 n capz) n (pis y)))=h3 at *
    generalize rb.set (dep x) (.fz true (.sl oz 0 n capz) n (pis y))=rb' at *
    refine Zc hs3 hP' o hy hy.1.symm (by omega) fun v2=>?_
    have hz:El p n (lmul p W p y):=(ZL o hy p).1;generalize lmul p W p y=z at *
    simp only [pwA,seval,-iQ0];refine PQ.push (bytes:=24) (σb:=σ.new rb') hk3 hq3' (by omega) (by omega) fun v4 h4 k4 q4=>?_
    simp only [pwA,seval,-iQ0];have hul:=(elU hT).2;rw [Zf]at hul
    refine⟨_,?_,insD u y,Q++[z],v4,rb',rq'++[.fz true v2 n (pis z)],rfl,rfl,k4,?_,hrq'.append (All2.nil FI |>.snoc ⟨true,v2,by rw [hz.1]⟩),hT.perm fun v=>by simp [or_comm],hb2,by rw [List.length_append,List.length_singleton];omega⟩
    ·rw [Zf,List.length_append,List.length_singleton];omega
    ·rw [List.length_append,List.length_singleton,hQk]
     exact q4
   ·rw [e1]at hrd2
    have hy:=((elU hg).1 y e2).1;have hneg:IntKind.i64.wrap (0-x[dep x])=-x[dep x]:=by rw [wrap64 (by omega) (by omega)];omega
    simp only [pwA,seval,-iQ0,hd,hrd2,zN,gi hdx,hneg];refine Zc hs' hP' o hy hy.1.symm (by omega) fun v1=>?_
    simp only [pwA,seval,-iQ0];refine zAj hs' hP' o hx (zO o hy hy) hxl.symm (zO o hy hy).1.symm fun v2=>?_
    obtain⟨g2,g3⟩:=hg.reduce1 o e2 e3;have hr1:ladd p W x (lmul p W (-x[dep x]) y)=red1 p W x y:=by rw [zHs o hx hy,red1,e3,at_eq hdx]
    have hz:=g2.els _ (List.mem_cons_self ..);rw [hr1];simp only [pwA,seval,-iQ0];refine zDp hz.1.symm (by rw [hz.1];omega) ?_
    simp only [pwA,seval,-iQ0];exact⟨_,by omega,_,_,_,rfl,rfl,g2⟩
  ·have hdn:dep x=n:=by omega
   simp only [pwA,seval,-iQ0,hdn,Nat.lt_irrefl];refine⟨_,?_,u,Q,vQ',rb,rq',rfl,rfl,hkp,by rw [hQk];exact hq',hrq',hg.drop fun j=>?_,hb,by omega⟩
   ·omega
   ·rcases Nat.lt_or_ge j n with h | h
    ·exact za (by omega)
    ·exact hx.beyond h
end Go.Proofs
namespace Go.Proofs
open Go.Ab Go.Lie
variable {σ:PHeap} {K:PV→PHeap→Prop} {p p':Int} {n:Nat} {W W':List (List Int)} {B B':List (List (List Int))} {vP vB vP' vB' vL:PV} {im:List (List Int)}
def isIso (p:Int) (W:List (List Int)) (B:List (List (List Int))) (p':Int) (W':List (List Int)) (B':List (List (List Int))) (im:List (List Int)):Prop:=
 isMap p W B p' W' B' im∧W.length=W'.length∧∃out,Canon p' W'.length W' im out∧out.length=W'.length
theorem zB9 {out:List (List Int)} (h:isMap p W B p' W' B' im) (hl:W.length=W'.length) (hc:Canon p' W'.length W' im out):isIso p W B p' W' B' im↔out.length=W'.length:=
 ⟨fun⟨_,_,out',h1,h2⟩=>by rw [hc.unique h.2.1.1.w h1];exact h2,fun e=>⟨h,hl,out,hc,e⟩⟩
theorem zBV (hR:IsR vP vB W B) (hR':IsR vP' vB' W' B') (sz:SzR W B) (sz':SzR W' B') (hL:FII vL im) (szl:SzL im)
  (hk:∀t:Bool,(t=true↔isIso p W B p' W' B' im)→K (.bool t) σ):zA Tryz.prog 7 [.agg [.int .i64 p,vP,vB],.agg [.int .i64 p',vP',vB'],vL] σ K:=by
 have fl:∀{A:Prop},¬A→((false=true)↔A):=fun h=>⟨fun x=>(by cases x),fun x=>absurd x h⟩
 have h1:=hR.P.one;have h2:=hR.B.one;have h1':=hR'.P.one;have h2':=hR'.B.one;have hRR:=hR;have hRR':=hR';obtain⟨⟨w1,a1,rP,rfl,hP⟩,hB⟩:=hR;obtain⟨⟨w2,a2,rP',rfl,hP'⟩,hB'⟩:=hR';have hkp:Keep σ ((σ.new [.int .i64 p,.fz w1 a1 W.length rP,vB]).new [.int .i64 p',.fz w2 a2 W'.length rP',vB']):=(zC σ _).new _;refine zA.gh ?_;refine zD mix Tryz.func7 ?_;simp only [pwA,seval,-iQ0,h1,h2,h1',h2'];refine zCe (p:=p) (p':=p') ⟨by simp only [pwA,seval,-iQ0],by simp only [pwA,seval,-iQ0];omega⟩ ⟨by simp only [pwA,seval,-iQ0],by simp only [pwA,seval,-iQ0]⟩ hRR hRR' sz sz' hL szl fun t ht=>?_
 cases t
 ·simp only [pwA,seval,-iQ0]
  exact Gh.fin0 ((zC σ _).new _) trivial (hk _ (fl fun x=>absurd (ht.2 x.1) (by simp)))
 ·have hm:=ht.1 rfl
  by_cases hl:W.length=W'.length
  ·have o':=hm.2.1.1.w
   simp only [pwA,seval,-iQ0,hl];refine Q0 (p:=p') (n:=W'.length) (vB:=vB') ⟨by simp only [pwA,seval,-iQ0],by simp only [pwA,seval,-iQ0]⟩ hRR'.P o' hm.2.1.1.1 hL hm.2.2.2.2.1 szl.l fun v out hc hv=>?_
   have hi:=zB9 hm hl hc;obtain⟨wo,ao,ro,rfl,hro⟩:=hv;simp only [pwA,seval,-iQ0];refine Gh.fin0 ((zC σ _).new _) trivial (hk _ ?_);rw [hi,decide_eq_true_eq];omega
  ·have hlI:((W.length:Int)=(W'.length:Int))=False:=by simp;omega
   simp only [pwA,seval,-iQ0,hlI];exact Gh.fin0 ((zC σ _).new _) trivial (hk _ (fl fun x=>hl x.2.1))
theorem zEf (hR:IsR vP vB W B) (hR':IsR vP' vB' W' B') (sz:SzR W B) (sz':SzR W' B') (hL:FII vL im) (szl:SzL im)
  (hk:∀t:Bool,(t=true↔isIso p W B p' W' B' im)→K (.bool t) σ):zA Tryz.prog 9 [.agg [.int .i64 p,vP,vB],.agg [.int .i64 p',vP',vB'],vL] σ K:=by
 have fl:∀{A:Prop},¬A→((false=true)↔A):=fun h=>⟨fun x=>(by cases x),fun x=>absurd x h⟩
 have h1:=hR.P.one;have h2:=hR.B.one;have h1':=hR'.P.one;have h2':=hR'.B.one;have hRR:=hR;have hRR':=hR';obtain⟨⟨w1,a1,rP,rfl,hP⟩,hB⟩:=hR;obtain⟨⟨w2,a2,rP',rfl,hP'⟩,hB'⟩:=hR';have hkp:Keep σ ((σ.new [.int .i64 p,.fz w1 a1 W.length rP,vB]).new [.int .i64 p',.fz w2 a2 W'.length rP',vB']):=(zC σ _).new _;refine zA.gh ?_;refine zD mix Tryz.func9 ?_;simp only [pwA,seval,-iQ0,h1,h2,h1',h2'];refine zEe (p:=p) (p':=p') hRR hRR' sz sz' hL szl fun t ht=>?_
 cases t
 ·simp only [pwA,seval,-iQ0]
  exact Gh.fin0 ((zC σ _).new _) trivial (hk _ (fl fun x=>absurd (ht.2 x.1) (by simp)))
 ·have hm:=ht.1 rfl
  by_cases hl:W.length=W'.length
  ·have o':=hm.2.1.1.w
   simp only [pwA,seval,-iQ0,hl,ne_eq,not_true,decide_false];refine zBF (p:=p') (n:=W'.length) hRR' o' hm.2.1.1.1 hL hm.2.2.2.2.1 szl.l fun v out hc hv=>?_
   have hi:=zB9 hm hl hc;obtain⟨wo,ao,ro,rfl,hro⟩:=hv;simp only [pwA,seval,-iQ0];refine Gh.fin0 ((zC σ _).new _) trivial (hk _ ?_);rw [hi,decide_eq_true_eq];omega
  ·have hlI:((W.length:Int)=(W'.length:Int))=False:=by simp;omega
   simp only [pwA,seval,-iQ0,hlI];exact Gh.fin0 ((zC σ _).new _) trivial (hk _ (fl fun x=>hl x.2.1))
end Go.Proofs
namespace Go.Proofs
open Go.Ab Go.Lie
variable {σ:PHeap} {K:PV→PHeap→Prop} {p p':Int} {n:Nat} {W:List (List Int)} {B:List (List (List Int))} {vP vB vL vU vV:PV} {s:Nat}
def units (n:Nat):List (List Int):=(List.range n).map (unitL n)
theorem zt:(units n).length=n:=by simp [units]
theorem Z6 {i:Nat} (h:i<n):(units n)[i]? = some (unitL n i):=by simp [units,h]
theorem Z7 (hp:okp p):Els p n (units n):=fun v hv=>by
 obtain⟨i,hi,rfl⟩:=List.mem_map.1 hv;exact qV hp (List.mem_range.1 hi)
theorem zDH {i:Nat} (h:i<n):(units n).take (i+1)=(units n).take i++[unitL n i]:=by
 have hl:i<(units n).length:=by rw [zt];exact h
 have e:=Z6 h;rw [List.getElem?_eq_getElem hl]at e
 rw [List.take_succ_eq_append_getElem hl,Option.some.inj e]
def brL (p:Int) (W:List (List Int)) (B:List (List (List Int))) (n:Nat) (u v:List (List Int)):List (List Int):=u.flatMap fun x=>v.map fun y=>br p W B n x y
theorem QU (u v:List (List Int)):(brL p W B n u v).length=u.length*v.length:=by
 induction u with
 | nil=>simp [brL]
 | cons x u ih=>
  have:(brL p W B n (x::u) v)=v.map (fun y=>br p W B n x y)++brL p W B n u v:=rfl
  rw [this,List.length_append,List.length_map,ih,List.length_cons,Nat.add_mul,Nat.one_mul,Nat.add_comm]
theorem zGM (u v:List (List Int)) (x:List Int):brL p W B n (u++[x]) v=brL p W B n u v++v.map fun y=>br p W B n x y:=by
 simp [brL,List.flatMap_append]
theorem zCF (o:OkW p n W) (q:OkB p n B) (u v:List (List Int)):Els p n (brL p W B n u v):=fun z hz=>by
 obtain⟨x,hx,h⟩:=List.mem_flatMap.1 hz;obtain⟨y,hy,rfl⟩:=List.mem_map.1 h;exact br_el o q
theorem zCK (hs:PtrR σ s p vP vB) (hP:FII vP W) (hWn:W.length=n) (hn:n≤1048576) (hk:∀v,FII v (units n)→K v σ):zA Tryz.prog 73 [.ptr s 0] σ K:=by
 obtain⟨wp,ap,rp,rfl,hrp⟩:=hP;have hP1:σ.rd1 s 1=some (.fz wp ap W.length rp):=by rw [zG hs.obj];rfl
 refine zA.gh ?_;refine zD mix Tryz.func73 ?_;simp only [pwA,seval,-iQ0,hP1,hWn];refine zF (fun m vs h'=>∃(i:Nat) (v:PV) (rows:List PV),i≤n∧m=n-i∧vs=[.ptr s 0,v,.int .i64 n,.int .i64 i]∧Keep σ h'∧PAcc σ.next 1 h' v i rows∧All2 FI rows ((units n).take i)) n ?_ ?_
 ·exact⟨0,_,[],by omega,by omega,rfl,Keep.refl σ,PAcc.nil _ _ _,by rw [List.take_zero];exact All2.nil _⟩
 rintro m vs h' ⟨i,v,rows,hi,rfl,rfl,hkp,ha,hrows⟩
 simp only [pwA,seval,-iQ0];have hs':=hs.keep hkp;have hP2:h'.rd1 s 1=some (.fz wp ap W.length rp):=by rw [zG hs'.obj];rfl
 refine iteI (fun hlt=>?_) fun hge=>?_
 ·simp only [pwA,seval,-iQ0,hP2,hWn]
  refine q9 hn hlt fun a1=>?_
  simp only [pwA,seval,-iQ0];refine PAcc.push (bytes:=24) hkp ha (by omega) (by omega) fun v' h2 k2 a2=>?_
  simp only [pwA,seval,-iQ0,wrapS hlt (by omega:n≤4611686018427387904)]
  refine⟨_,by omega,i+1,v',_,by omega,rfl,rfl,k2,a2.acc,?_⟩
  rw [zDH hlt];exact hrows.snoc ⟨true,a1,by rw [zk]⟩
 ·have hie:i=n:=by omega
  subst hie;rw [List.take_of_length_le (by rw [zt];exact Nat.le_refl _)]at hrows
  exact ha.fin hkp (hrows.bI 0) fun a=>hk _ ⟨true,a,rows,by rw [zt],hrows⟩
theorem zGL {u v:List (List Int)} (hs:PtrR σ s p vP vB) (hR:IsR vP vB W B) (o:OkW p n W) (q:OkB p n B) (hU:FII vU u) (hV:FII vV v) (eu:Els p n u) (ev:Els p n v) (hul:u.length≤6) (hvl:v.length≤12)
  (hk:∀z,FII z (brL p W B n u v)→K z σ):zA Tryz.prog 63 [.ptr s 0,vU,vV] σ K:=by
 obtain⟨wu,au,ru,rfl,hru⟩:=hU;obtain⟨wv,av,rv,rfl,hrv⟩:=hV;have bnd:∀(i j:Nat),i<u.length→j≤v.length→(brL p W B n (u.take i) v++(v.take j).map fun y=>br p W B n (u.getD i []) y).length≤84:=fun i j hi hj=>by
  rw [List.length_append,QU,List.length_map,List.length_take,List.length_take]
  have:min i u.length*v.length≤6*12:=Nat.mul_le_mul (by omega) hvl
  omega
 refine zA.gh ?_;refine zD mix Tryz.func63 ?_;simp only [pwA,seval,-iQ0];refine zF (fun m vs h'=>∃(i:Nat) (z:PV) (rows:List PV),i≤u.length∧m=u.length-i∧vs=[.ptr s 0,.fz wv av v.length rv,z,.fz wu au u.length ru,.int .i64 u.length,.int .i64 i]∧Keep σ h'∧PAcc σ.next 1 h' z (brL p W B n (u.take i) v).length rows∧All2 FI rows (brL p W B n (u.take i) v)) u.length ?_ ?_
 ·exact⟨0,_,[],by omega,by omega,rfl,Keep.refl σ,PAcc.nil _ _ _,by rw [List.take_zero];exact All2.nil _⟩
 rintro m vs h' ⟨i,z,rows,hi,rfl,rfl,hkp,ha,hrows⟩
 simp only [pwA,seval,-iQ0];refine iteI (fun hlt=>?_) fun hge=>?_
 ·obtain⟨w4,a4,hr⟩:=hru.rowI hlt
  have hui:=eu _ (List.getElem_mem hlt);have hgd:u.getD i []=u[i]:=by simp [List.getD_eq_getElem?_getD,hlt]
  simp only [pwA,seval,-iQ0,hlt,hr];refine zF (fun m vs h'=>∃(j:Nat) (z:PV) (rows:List PV),j≤v.length∧m=v.length-j∧vs=[.ptr s 0,.fz wv av v.length rv,z,.fz w4 a4 u[i].length (pis u[i]),.fz wu au u.length ru,.int .i64 u.length,.int .i64 i,.fz wv av v.length rv,.int .i64 v.length,.int .i64 j]∧Keep σ h'∧
   PAcc σ.next 1 h' z (brL p W B n (u.take i) v++(v.take j).map fun y=>br p W B n (u.getD i []) y).length rows∧All2 FI rows (brL p W B n (u.take i) v++(v.take j).map fun y=>br p W B n (u.getD i []) y)) v.length ?_ ?_
  ·exact⟨0,z,rows,by omega,by omega,rfl,hkp,by simpa using ha,by simpa using hrows⟩
  clear hkp ha hrows z rows
  rintro m vs h' ⟨j,z,rows,hj,rfl,rfl,hkp,ha,hrows⟩
  simp only [pwA,seval,-iQ0];refine iteI (fun hlj=>?_) fun hgj=>?_
  ·obtain⟨w5,a5,hr5⟩:=hrv.rowI hlj
   have hvj:=ev _ (List.getElem_mem hlj);simp only [pwA,seval,-iQ0,hlj,hr5];refine qY (hs.keep hkp) hR o q hui hvj rfl rfl fun a6=>?_
   have hb:=bnd i j hlt hj;simp only [pwA,seval,-iQ0];refine PAcc.push (bytes:=24) hkp ha (by omega) (by omega) fun v' h2 k2 a2=>?_
   simp only [pwA,seval,-iQ0,wrapS hlj (by omega:v.length≤4611686018427387904)]
   have e:(brL p W B n (u.take i) v++(v.take (j+1)).map fun y=>br p W B n (u.getD i []) y)=(brL p W B n (u.take i) v++(v.take j).map fun y=>br p W B n (u.getD i []) y)++[br p W B n u[i] v[j]]:=by
    rw [List.take_succ_eq_append_getElem hlj,List.map_append,List.append_assoc,hgd];rfl
   refine⟨_,by omega,j+1,v',rows++[.fz true a6 n (pis (br p W B n u[i] v[j]))],by omega,rfl,rfl,k2,?_,?_⟩
   ·rw [e,List.length_append]
    exact a2.acc
   ·rw [e]
    exact hrows.snoc ⟨true,a6,by rw [(br_el o q).1]⟩
  ·have hje:j=v.length:=by omega
   subst hje;have e:(brL p W B n (u.take i) v++(v.take v.length).map fun y=>br p W B n (u.getD i []) y)=brL p W B n (u.take (i+1)) v:=by
    rw [List.take_length,List.take_succ_eq_append_getElem hlt,zGM,hgd]
   rw [e]at ha hrows
   simp only [pwA,seval,-iQ0,wrapS hlt (by omega:u.length≤4611686018427387904)]
   exact⟨_,by omega,i+1,z,rows,by omega,rfl,rfl,hkp,ha,hrows⟩
 ·have hie:i=u.length:=by omega
  subst hie;rw [List.take_length]at ha hrows
  exact ha.fin hkp (hrows.bI 0) fun a=>hk _ ⟨true,a,rows,rfl,hrows⟩
theorem zCk {u v:List (List Int)} (hs:PtrR σ s p vP vB) (hR:IsR vP vB W B) (o:OkW p n W) (q:OkB p n B) (hU:FII vU u) (hV:FII vV v) (eu:Els p n u) (ev:Els p n v) (hul:u.length≤6) (hvl:v.length≤6)
  (hk:∀z,FII z (brL p W B n u v)→K z σ):zA Tryz.prog 63 [.ptr s 0,vU,vV] σ K:=zGL hs hR o q hU hV eu ev hul (by omega) hk
end Go.Proofs
namespace Go.Proofs
open Go.Ab Go.Lie
variable {σ:PHeap} {K:PV→PHeap→Prop} {p p':Int} {n:Nat} {W:List (List Int)} {B:List (List (List Int))} {vP vB vL vU vV:PV} {s:Nat}
theorem zAo (hR:IsR vP vB W B) (hWn:W.length=n) (hn:n≤1048576) (hk:∀v,FII v (units n)→K v σ):zA Tryz.prog 38 [.agg [.int .i64 p,vP,vB]] σ K:=by
 have h1:=hR.P.one;have h2:=hR.B.one;have hRR:=hR;obtain⟨⟨wp,ap,rp,rfl,hrp⟩,hB⟩:=hR;refine zA.gh ?_;refine zD mix Tryz.func38 ?_;simp only [pwA,seval,-iQ0,h1,h2];generalize hH:σ.new [.int .i64 p,.fz wp ap W.length rp,vB]=H;have hHn:H.next=σ.next+1:=by rw [←hH];simp only [pwA,seval,-iQ0]
 have hHk:Keep σ H:=by rw [←hH];exact zC σ _
 have hob:H.obj σ.next=some [.int .i64 p,.fz wp ap W.length rp,vB]:=by rw [←hH];simp only [pwA,seval,-iQ0]
 refine zF (fun m vs h'=>∃(i:Nat) (v:PV) (rows:List PV),i≤n∧m=n-i∧vs=[.ptr σ.next 0,v,.int .i64 i]∧Keep H h'∧PSl H.next 1 h' v i rows∧All2 FI rows ((units n).take i)) n ?_ ?_
 ·refine⟨0,_,[],by omega,by omega,rfl,zC H _,?_,by rw [List.take_zero];exact All2.nil _⟩
  rw [←hHn];exact PSl.new H.next 1 rfl (Nat.le_refl _)
 rintro m vs h' ⟨i,v,rows,hi,rfl,rfl,hkp,ha,hrows⟩
 have hob':h'.obj σ.next=some [.int .i64 p,.fz wp ap W.length rp,vB]:=by rw [hkp.obj _ (by omega)];exact hob
 have hr1:h'.rd1 σ.next 1=some (.fz wp ap W.length rp):=by rw [zG hob'];rfl
 have hr3:h'.rd σ.next 0 3=some [.int .i64 p,.fz wp ap W.length rp,vB]:=by rw [zf hob'];rfl
 simp only [pwA,seval,-iQ0,hr1,hWn];refine iteI (fun hlt=>?_) fun hge=>?_
 ·simp only [pwA,seval,-iQ0,hr3]
  refine ZC hRR hWn hn hlt fun a1=>?_
  simp only [pwA,seval,-iQ0];refine PSl.push (bytes:=24) hkp ha (by omega) (by omega) fun v' h2 k2 a2=>?_
  simp only [pwA,seval,-iQ0,wrapS hlt (by omega:n≤4611686018427387904)]
  refine⟨_,by omega,i+1,v',_,by omega,rfl,rfl,k2,a2,?_⟩
  rw [zDH hlt];exact hrows.snoc ⟨true,a1,by rw [zk]⟩
 ·have hie:i=n:=by omega
  subst hie;rw [List.take_of_length_le (by rw [zt];exact Nat.le_refl _)]at hrows
  obtain⟨s',cap,rfl,hc,q2,q3,q4,q5⟩:=ha;exact Gh.finF (hHk.trans hkp) q2 (by omega) (hrows.bI 0) hc.ok fun o1=>hk _ ⟨true,.sl o1 0 i cap,rows,by rw [zt],hrows⟩
theorem zMK {b:Nat} {u:List (List Int)} (hb:σ.rd1 b 0=some (.ptr s 0)) (hs:PtrR σ s p vP vB) (hR:IsR vP vB W B) (o:OkW p n W) (q:OkB p n B) (hp:isP p) (hU:FII vU u) (eu:Els p n u) (hul:u.length≤6)
  (hk:∀v out,Canon p n W (brL p W B n u (units n)) out→FII v out→K v σ):zA Tryz.prog 74 [vU,.ptr b 0] σ K:=by
 have hn6:=o.le;have hUU:=hU;obtain⟨wu,au,ru,rfl,hru⟩:=hU;refine zD mix Tryz.func74 ?_;simp only [pwA,seval,-iQ0,hb];refine zCK hs hR.P o.len (by omega) fun vV hV=>?_
 have hVV:=hV;obtain⟨wv,av,rv,rfl,hrv⟩:=hV;simp only [pwA,seval,-iQ0,hb];refine zCk hs hR o q hUU hVV eu (Z7 o.pr) hul (by rw [zt];exact hn6) fun vZ hZ=>?_
 have hZZ:=hZ;obtain⟨wz,az,rz,rfl,hrz⟩:=hZ;have hzl:(brL p W B n u (units n)).length≤1048576:=by
  rw [QU,zt]
  have:u.length*n≤6*6:=Nat.mul_le_mul hul hn6
  omega
 simp only [pwA,seval,-iQ0,hb];refine Q0 hs hR.P o hp hZZ (zCF o q _ _) hzl fun v out hc hv=>?_
 simp only [pwA,seval,-iQ0];exact hk v out hc hv
end Go.Proofs
namespace Go.Proofs
open Go.Ab Go.Lie
variable {σ:PHeap} {K:PV→PHeap→Prop} {p p':Int} {n:Nat} {W:List (List Int)} {B:List (List (List Int))} {vP vB vL vU vV:PV} {s:Nat}
theorem zMY (o:OkW p n W) (q:OkB p n B) {a b:List Int} {k:Nat} (ha:∀j,j<k→at_ a j=0):∀j,j<k+1→at_ (br p W B n a b) j=0:=by
 have hs:∀t,t<k+1→at_ (bsum B a b n) t=0:=fun t ht=>by
  rw [bsum,bi_at q t (Nat.le_refl _)];refine qG _ fun i hi=>qG _ fun j hj=>?_
  rcases Nat.lt_or_ge (i+1+j) k with x|x
  ·rw [coef,ha i (by omega),ha _ x,Int.zero_mul,Int.zero_mul,Int.sub_zero,Int.zero_mul]
  ·rw [(q.get hi hj).2 t (by omega),Int.mul_zero]
 intro j hj;rcases Nat.lt_or_ge j n with x|x
 ·exact zBj o (qL q) (d:=min (k+1) n) (Nat.min_le_right _ _) (fun j hj=>hs j (by omega)) j (by omega)
 ·exact at_ge (by rw [(br_el o q).1];exact x)
theorem zCq (o:OkW p n W) (q:OkB p n B) {u out:List (List Int)} (hc:Canon p n W (brL p W B n u (units n)) out) {m:Nat} (hu:∀x∈u,m≤dep x):∀y∈out,m+1≤dep y:=fun y hy=>by
 have hl:=hc.base.led y hy;have hg:Gen p n W (brL p W B n u (units n)) (at_ y):=(hc.gen _).2 (zM hy);have hz:=zC4 o (m:=min (m+1) n) (zCF o q _ _) (Nat.min_le_right _ _) (fun v hv j hj=>by
  obtain⟨x,hx,h⟩:=List.mem_flatMap.1 hv;obtain⟨e,he,rfl⟩:=List.mem_map.1 h;exact zMY o q (k:=m) (fun j hj=>za (by have:=hu x hx;omega)) j (by omega)) hl.1 hg
 have hd:=zDq (v:=y) (d:=min (m+1) n) (by rw [hl.1.1];exact Nat.min_le_right _ _) hz
 have:=hl.2.1
 omega
theorem zKV (o:OkW p n W) (q:OkB p n B) {u:List (List Int)} (hc:Canon p n W (brL p W B n u (units n)) u):u=[]:=by
 have h:∀m:Nat,∀x∈u,m≤dep x:=fun m=>by
  induction m with
  | zero=>exact fun x hx=>Nat.zero_le _
  | succ m ih=>exact zCq o q hc ih
 cases u with
 | nil=>rfl
 | cons x t=>
  have h1:=h n x (by simp)
  have h2:=(hc.base.led x (by simp)).2.1
  omega
theorem zMJ (o:OkW p n W) (q:OkB p n B) {out:List (List Int)} (hc:Canon p n W (brL p W B n [] (units n)) out):out=[]:=by
 cases out with
 | nil=>rfl
 | cons y t=>
  have h1:=zCq o q hc (m:=n) (fun x hx=>by cases hx) y (by simp)
  have h2:=(hc.base.led y (by simp)).2.1
  omega
inductive Low (p:Int) (n:Nat) (W:List (List Int)) (B:List (List (List Int))):Nat→List (List Int)→Prop where
 | zero:Low p n W B 0 (units n)
 | succ {k:Nat} {u out:List (List Int)} (h:Low p n W B k u) (hc:Canon p n W (brL p W B n u (units n)) out):Low p n W B (k+1) out
theorem Low.unique (o:OkW p n W):∀{k:Nat} {u v:List (List Int)},Low p n W B k u→Low p n W B k v→u=v
 | _,_,_,.zero,.zero=>rfl
 | _,_,_,.succ h hc,.succ h' hc'=>by
  have:=Low.unique o h h'
  subst this;exact hc.unique o hc'
theorem Low.els (o:OkW p n W):∀{k:Nat} {u:List (List Int)},Low p n W B k u→Els p n u∧u.length≤n
 | _,_,.zero=>⟨Z7 o.pr,by rw [zt];exact Nat.le_refl _⟩
 | _,_,.succ _ hc=>⟨hc.base.els,qj (fun v hv=>(hc.base.led v hv).2.1) hc.base.asc⟩
theorem Low.dep (o:OkW p n W) (q:OkB p n B):∀{k:Nat} {u:List (List Int)},Low p n W B k u→∀x∈u,k≤Go.Lie.dep x
 | _,_,.zero=>fun x hx=>Nat.zero_le _
 | _,_,.succ h hc=>zCq o q hc (Low.dep o q h)
theorem Low.le (o:OkW p n W) (q:OkB p n B) {k:Nat} {u:List (List Int)} (h:Low p n W B k u) (hu:u≠[]):k≤n:=by
 cases u with
 | nil=>exact absurd rfl hu
 | cons x t=>
  have h1:=h.dep o q x (by simp)
  have h2:=zAN x;have h3:=((h.els o).1 x (by simp)).1
  omega
def Cls (p:Int) (n:Nat) (W:List (List Int)) (B:List (List (List Int))) (c:Nat):Prop:=Low p n W B c []∧∀k u,k<c→Low p n W B k u→u≠[]
theorem Cls.unique {c d:Nat} (h:Cls p n W B c) (g:Cls p n W B d):c=d:=by
 rcases Nat.lt_trichotomy c d with x|x|x
 ·exact absurd rfl (g.2 c _ x h.1)
 ·exact x
 ·exact absurd rfl (h.2 d _ x g.1)
theorem zMu:okF Tryz.prog 81=true:=by kernel_rfl
theorem zGY {xs ys:List (List Int)} (hU:FII vU xs) (hV:FII vV ys) (hx:xs.length≤1048576) (hxl:∀x∈xs,x.length≤1048576) (hk:∀t:Bool,(t=true↔xs=ys)→K (.bool t) σ):
  zA Tryz.prog 95 [vU,vV,.clo 81 [] []] σ K:=by
 have fl:∀{A:Prop},¬A→((false=true)↔A):=fun h=>⟨fun x=>(by cases x),fun x=>absurd x h⟩
 obtain⟨wu,au,ru,rfl,hru⟩:=hU;obtain⟨wv,av,rv,rfl,hrv⟩:=hV;refine zD mix Tryz.func95 ?_
 by_cases hl:xs.length=ys.length
 ·simp only [pwA,seval,-iQ0,hl]
  refine zF (fun m vs h'=>∃i:Nat,i≤ys.length∧m=ys.length-i∧vs=[.fz wv av ys.length rv,.clo 81 [] [],.fz wu au ys.length ru,.int .i64 ys.length,.int .i64 i]∧σ=h'∧xs.take i=ys.take i) ys.length ?_ ?_
  ·exact⟨0,by omega,by omega,rfl,rfl,by simp⟩
  rintro m vs h' ⟨i,hi,rfl,rfl,rfl,heq⟩
  simp only [pwA,seval,-iQ0];refine iteI (fun hlt=>?_) fun hge=>?_
  ·have hlx:i<xs.length:=by omega
   obtain⟨w4,a4,hr⟩:=hru.rowI hlx;obtain⟨w5,a5,hr5⟩:=hrv.rowI hlt;simp only [pwA,seval,-iQ0,hlt,hr,hr5];refine⟨zMu,zBN rfl rfl (by have:=hxl _ (List.getElem_mem hlx);omega) ?_⟩
   by_cases he:xs[i]=ys[i]
   ·simp only [pwA,seval,-iQ0,he,wrapS hlt (by omega:ys.length≤4611686018427387904)]
    exact⟨_,by omega,i+1,by omega,rfl,rfl,zM4 hl hlx heq he⟩
   ·simp only [pwA,seval,-iQ0,he]
    refine hk _ (fl fun e=>?_)
    subst e;exact he rfl
  ·have hie:i=ys.length:=by omega
   subst hie;refine hk _ ⟨fun _=>?_,fun _=>rfl⟩
   rw [List.take_of_length_le (by omega),List.take_of_length_le (Nat.le_refl _)]at heq
   exact heq
 ·have hlI:((xs.length:Int)=(ys.length:Int))=False:=by simp;omega
  simp only [pwA,seval,-iQ0,hlI];exact hk _ (fl fun e=>hl (by rw [e]))
theorem zCP {xs ys:List (List Int)} (hU:FII vU xs) (hV:FII vV ys) (hx:xs.length≤1048576) (hxl:∀x∈xs,x.length≤1048576) (hk:∀t:Bool,(t=true↔xs=ys)→K (.bool t) σ):
  zA Tryz.prog 62 [vU,vV] σ K:=by
 refine zD mix Tryz.func62 ?_;simp only [pwA,seval,-iQ0];refine zGY hU hV hx hxl fun t ht=>?_
 simp only [pwA,seval,-iQ0];exact hk t ht
end Go.Proofs
namespace Go.Proofs
open Go.Ab Go.Lie
variable {σ:PHeap} {K:PV→PHeap→Prop} {p p':Int} {n:Nat} {W:List (List Int)} {B:List (List (List Int))} {vP vB vL vU vV:PV} {s:Nat}
theorem zMt:okF Tryz.prog 74=true:=by kernel_rfl
theorem zI3 {b:Nat} (hb:σ.obj b=some [.ptr s 0]) (hbl:b<σ.next) (hs:PtrR σ s p vP vB) (hR:IsR vP vB W B) (o:OkW p n W) (q:OkB p n B) (hp:isP p) (hU:FII vU (units n))
  (hk:∀c a rows,Cls p n W B c→K (.fz true a (c+1) rows) σ):zA Tryz.prog 72 [vU,.clo 74 [] [.ptr b 0]] σ K:=by
 have hn6:=o.le;have h1:=hU.one;have h1c:=hU.cells;refine zA.gh ?_;refine zD mix Tryz.func72 ?_;simp only [pwA,seval,-iQ0,h1,h1c];refine zF (fun m vs h'=>∃k u us rows v,m=n+1-k∧k≤n+1∧vs=[.clo 74 [] [.ptr b 0],v]∧Keep σ h'∧PSl σ.next 1 h' v (k+1) rows∧All2 FII rows us∧us.length=k+1∧us[k]? = some u∧Low p n W B k u∧∀j u',j<k→Low p n W B j u'→u'≠[]) (n+1) ?_ ?_
 ·exact⟨0,units n,[units n],[vU],_,by omega,by omega,rfl,zC σ _,PSl.new _ 1 rfl (Nat.le_refl _),All2.nil _ |>.snoc hU,rfl,rfl,.zero,fun j u' hj=>by omega⟩
 rintro m vs h' ⟨k,u,us,rows,v,rfl,hkn,rfl,hkp,ha,hall,hul,huk,hlow,hbef⟩
 obtain⟨s',cap,rfl,hc,q2,q3,q4,q5⟩:=ha;have hku:k<us.length:=by omega
 obtain⟨vk,hvk,hFk⟩:=hall.get hku;have huk':us[k]=u:=by rw [List.getElem?_eq_getElem hku]at huk;exact Option.some.inj huk
 rw [huk']at hFk
 have hrd:h'.rd1 s' k=some vk:=by rw [zG q2];exact hvk
 have hw:IntKind.i64.wrap (((k+1:Nat):Int)-1)=(k:Int):=by rw [wrap64 (by omega) (by omega)];omega
 have hkk:k<k+1:=Nat.lt_succ_self k;obtain⟨e1,e2⟩:=hlow.els o;have hb':h'.rd1 b 0=some (.ptr s 0):=by rw [zG (by rw [hkp.obj b hbl];exact hb)];rfl
 have hFF:=hFk;obtain⟨wk,ak,rk,rfl,hrk⟩:=hFk;simp only [pwA,seval,-iQ0,hw,hkk,hrd];refine⟨zMt,zMK hb' (hs.keep hkp) hR o q hp hFF e1 (by omega) fun vo out hcan hFo=>?_⟩
 have hFFo:=hFo;obtain⟨wo,ao,ro,rfl,hro⟩:=hFo;have hol:out.length≤n:=qj (fun v hv=>(hcan.base.led v hv).2.1) hcan.base.asc
 simp only [pwA,seval,-iQ0,hw,hkk,hrd];refine zCP hFFo hFF (by omega) (fun x hx=>by rw [(hcan.base.els x hx).1];omega) fun t ht=>?_
 cases t
 ·have hne:out≠u:=fun e=>by have:=ht.2 e;cases this
  have hune:u≠[]:=fun e=>by
   subst e;exact hne (zMJ o q hcan)
  have hkn':=hlow.le o q hune;simp only [pwA,seval,-iQ0];refine PSl.push (bytes:=24) (σb:=σ) hkp ⟨s',cap,rfl,hc,q2,q3,q4,q5⟩ (by omega) (by omega) fun v2 h2 k2 a2=>?_
  simp only [pwA,seval,-iQ0];refine⟨_,?_,k+1,out,us++[out],_,v2,rfl,by omega,rfl,k2,a2,hall.snoc hFFo,by rw [List.length_append,hul];rfl,?_,.succ hlow hcan,fun j u' hj hl=>?_⟩
  ·omega
  ·rw [List.getElem?_append_right (by omega),hul,Nat.sub_self];rfl
  ·by_cases x:j=k
   ·subst x
    rw [hl.unique o hlow];exact hune
   ·exact hbef j u' (by omega) hl
 ·obtain rfl:out=u:=ht.1 rfl
  obtain rfl:out=[]:=zKV o q hcan;simp only [pwA,seval,-iQ0];exact Gh.finF hkp q2 q4 (hall.bL 0) hc.ok fun o1=>hk k _ _ ⟨hlow,hbef⟩
theorem zG5 (hs:PtrR σ s p vP vB) (hR:IsR vP vB W B) (o:OkW p n W) (q:OkB p n B) (hp:isP p) (hk:∀c a rows,Cls p n W B c→K (.fz true a (c+1) rows) σ):zA Tryz.prog 33 [.ptr s 0] σ K:=by
 have hn6:=o.le;refine zA.gh ?_;refine zD mix Tryz.func33 ?_;simp only [pwA,seval,-iQ0];have hs1:=hs.new [.ptr s 0];refine zCK hs1 hR.P o.len (by omega) fun vV hV=>?_
 have hVV:=hV;obtain⟨wv,av,rv,rfl,hrv⟩:=hV;simp only [pwA,seval,-iQ0];refine zI3 (b:=σ.next) (by simp only [pwA,seval,-iQ0]) (by simp only [pwA,seval,-iQ0]) hs1 hR o q hp hVV fun c a rows hc=>?_
 simp only [pwA,seval,-iQ0];exact Gh.fin0 (zC σ _) trivial (hk c a rows hc)
def isLz (p:Int) (n:Nat) (W:List (List Int)) (B:List (List (List Int))):Prop:=∃c,Cls p n W B c∧(c:Int)<p
theorem zMz {c:Nat} (h:Cls p n W B c):isLz p n W B↔(c:Int)<p:=⟨fun⟨d,h1,h2⟩=>by rw [h.unique h1];exact h2,fun e=>⟨c,h,e⟩⟩
end Go.Proofs
namespace Go.Proofs
open Go.Ab Go.Lie
variable {σ:PHeap} {K:PV→PHeap→Prop} {p p':Int} {n:Nat} {W:List (List Int)} {B:List (List (List Int))} {vP vB vL vU vV:PV} {s:Nat}
theorem zEH {u v:List (List Int)} (hR:IsR vP vB W B) (o:OkW p n W) (q:OkB p n B) (hp:isP p) (hU:FII vU u) (hV:FII vV v) (eu:Els p n u) (ev:Els p n v) (hul:u.length≤6) (hvl:v.length≤6)
  (hk:∀z out,Canon p n W (brL p W B n u v) out→FII z out→K z σ):zA Tryz.prog 134 [.agg [.int .i64 p,vP,vB],vU,vV] σ K:=by
 have h1:=hR.P.one;have h2:=hR.B.one;obtain⟨wu,au,ru,rfl,hru⟩:=hU;obtain⟨wv,av,rv,rfl,hrv⟩:=hV;have bnd:∀(i j:Nat),i<u.length→j≤v.length→(brL p W B n (u.take i) v++(v.take j).map fun y=>br p W B n (u.getD i []) y).length≤42:=fun i j hi hj=>by
  rw [List.length_append,QU,List.length_map,List.length_take,List.length_take]
  have:min i u.length*v.length≤6*6:=Nat.mul_le_mul (by omega) hvl
  omega
 refine zA.gh ?_;refine zD mix Tryz.func134 ?_;simp only [pwA,seval,-iQ0,h1,h2];generalize hH:σ.new [.int .i64 p,vP,vB]=H;have hHn:H.next=σ.next+1:=by rw [←hH];simp only [pwA,seval,-iQ0]
 have hHk:Keep σ H:=by rw [←hH];exact zC σ _
 have hob:H.obj σ.next=some [.int .i64 p,vP,vB]:=by rw [←hH];simp only [pwA,seval,-iQ0]
 refine zF (fun m vs h'=>∃(i:Nat) (z:PV) (rows:List PV),i≤u.length∧m=u.length-i∧vs=[.fz wu au u.length ru,.fz wv av v.length rv,.ptr σ.next 0,z,.int .i64 i]∧Keep H h'∧PSl H.next 1 h' z (brL p W B n (u.take i) v).length rows∧All2 FI rows (brL p W B n (u.take i) v)) u.length ?_ ?_
 ·refine⟨0,_,[],by omega,by omega,rfl,zC H _,?_,by rw [List.take_zero];exact All2.nil _⟩
  rw [←hHn];exact PSl.new H.next 1 rfl (Nat.le_refl _)
 rintro m vs h' ⟨i,z,rows,hi,rfl,rfl,hkp,ha,hrows⟩
 simp only [pwA,seval,-iQ0];refine iteI (fun hlt=>?_) fun hge=>?_
 ·obtain⟨w4,a4,hr⟩:=hru.rowI hlt
  have hui:=eu _ (List.getElem_mem hlt);have hgd:u.getD i []=u[i]:=by simp [List.getD_eq_getElem?_getD,hlt]
  refine zF (fun m vs h'=>∃(j:Nat) (z:PV) (rows:List PV),j≤v.length∧m=v.length-j∧vs=[.fz wu au u.length ru,.fz wv av v.length rv,.ptr σ.next 0,z,.int .i64 i,.int .i64 j]∧Keep H h'∧
   PSl H.next 1 h' z (brL p W B n (u.take i) v++(v.take j).map fun y=>br p W B n (u.getD i []) y).length rows∧All2 FI rows (brL p W B n (u.take i) v++(v.take j).map fun y=>br p W B n (u.getD i []) y)) v.length ?_ ?_
  ·exact⟨0,z,rows,by omega,by omega,rfl,hkp,by simpa using ha,by simpa using hrows⟩
  clear hkp ha hrows z rows
  rintro m vs h' ⟨j,z,rows,hj,rfl,rfl,hkp,ha,hrows⟩
  have hob':h'.obj σ.next=some [.int .i64 p,vP,vB]:=by rw [hkp.obj _ (by omega)];exact hob
  have hr3:h'.rd σ.next 0 3=some [.int .i64 p,vP,vB]:=by rw [zf hob'];rfl
  simp only [pwA,seval,-iQ0];refine iteI (fun hlj=>?_) fun hgj=>?_
  ·obtain⟨w5,a5,hr5⟩:=hrv.rowI hlj
   have hvj:=ev _ (List.getElem_mem hlj);simp only [pwA,seval,-iQ0,hlj,hr5,hlt,hr,hr3];refine zl hR o q hui hvj rfl rfl fun a6=>?_
   have hb:=bnd i j hlt hj;simp only [pwA,seval,-iQ0];refine PSl.push (bytes:=24) hkp ha (by omega) (by omega) fun v' h2 k2 a2=>?_
   simp only [pwA,seval,-iQ0,wrapS hlj (by omega:v.length≤4611686018427387904)]
   have e:(brL p W B n (u.take i) v++(v.take (j+1)).map fun y=>br p W B n (u.getD i []) y)=(brL p W B n (u.take i) v++(v.take j).map fun y=>br p W B n (u.getD i []) y)++[br p W B n u[i] v[j]]:=by
    rw [List.take_succ_eq_append_getElem hlj,List.map_append,List.append_assoc,hgd];rfl
   refine⟨_,by omega,j+1,v',rows++[.fz true a6 n (pis (br p W B n u[i] v[j]))],by omega,rfl,rfl,k2,?_,?_⟩
   ·rw [e,List.length_append]
    exact a2
   ·rw [e]
    exact hrows.snoc ⟨true,a6,by rw [(br_el o q).1]⟩
  ·have hje:j=v.length:=by omega
   subst hje;have e:(brL p W B n (u.take i) v++(v.take v.length).map fun y=>br p W B n (u.getD i []) y)=brL p W B n (u.take (i+1)) v:=by
    rw [List.take_length,List.take_succ_eq_append_getElem hlt,zGM,hgd]
   rw [e]at ha hrows
   simp only [pwA,seval,-iQ0,wrapS hlt (by omega:u.length≤4611686018427387904)]
   exact⟨_,by omega,i+1,z,rows,by omega,rfl,rfl,hkp,ha,hrows⟩
 ·have hie:i=u.length:=by omega
  subst hie;rw [List.take_length]at ha hrows
  obtain⟨s',cap,rfl,hc,q2,q3,q4,q5⟩:=ha;have hob':h'.obj σ.next=some [.int .i64 p,vP,vB]:=by rw [hkp.obj _ (by omega)];exact hob
  have hr3:h'.rd σ.next 0 3=some [.int .i64 p,vP,vB]:=by rw [zf hob'];rfl
  simp only [pwA,seval,-iQ0,hr3];refine zA.frz q2 (hrows.bI 0) fun o1=>?_
  have hl:(brL p W B n u v).length≤1048576:=by
   rw [QU]
   have:u.length*v.length≤6*6:=Nat.mul_le_mul hul hvl
   omega
  obtain⟨⟨wp,ap,rp,rfl,hrp⟩,wb,ab,rb,rfl,hrb⟩:=hR;simp only [sbs,sb,hc.ok,and_self,if_true];refine zBF ⟨⟨wp,ap,rp,rfl,hrp⟩,wb,ab,rb,rfl,hrb⟩ o hp ⟨true,_,rows,rfl,hrows⟩ (zCF o q _ _) hl fun z out hcan hz=>?_
  obtain⟨wz,az,rz,rfl,hrz⟩:=hz;simp only [pwA,seval,-iQ0];exact Gh.fin0 ((hHk.trans hkp).kill (by omega)) trivial (hk _ out hcan ⟨wz,az,rz,rfl,hrz⟩)
theorem zG8 (hR:IsR vP vB W B) (o:OkW p n W) (q:OkB p n B) (hp:isP p) (hk:∀c a rows,Cls p n W B c→K (.fz true a (c+1) rows) σ):zA Tryz.prog 133 [.agg [.int .i64 p,vP,vB]] σ K:=by
 have hn6:=o.le;have h1:=hR.P.one;have h2:=hR.B.one;refine zA.gh ?_;refine zD mix Tryz.func133 ?_;simp only [pwA,seval,-iQ0,h1,h2];generalize hH:σ.new [.int .i64 p,vP,vB]=H;have hHn:H.next=σ.next+1:=by rw [←hH];simp only [pwA,seval,-iQ0]
 have hHk:Keep σ H:=by rw [←hH];exact zC σ _
 have hob:H.obj σ.next=some [.int .i64 p,vP,vB]:=by rw [←hH];simp only [pwA,seval,-iQ0]
 refine zAo hR o.len (by omega) fun vV hV=>?_
 have hVV:=hV;obtain⟨wv,av,rv,rfl,hrv⟩:=hV;simp only [pwA,seval,-iQ0];refine zF (fun m vs h'=>∃k u us rows v vU,m=n+1-k∧k≤n+1∧vs=[.ptr σ.next 0,vU,v]∧Keep H h'∧PSl H.next 1 h' v (k+1) rows∧All2 FII rows us∧us.length=k+1∧FII vU u∧Low p n W B k u∧∀j u',j<k→Low p n W B j u'→u'≠[]) (n+1) ?_ ?_
 ·refine⟨0,units n,[units n],[_],_,_,by omega,by omega,rfl,zC H _,PSl.new _ 1 rfl (Nat.le_refl _),All2.nil _ |>.snoc hVV,rfl,hVV,.zero,fun j u' hj=>by omega⟩
 rintro m vs h' ⟨k,u,us,rows,v,vU,rfl,hkn,rfl,hkp,ha,hall,hul,hFU,hlow,hbef⟩
 have hob':h'.obj σ.next=some [.int .i64 p,vP,vB]:=by rw [hkp.obj _ (by omega)];exact hob
 have hr3:h'.rd σ.next 0 3=some [.int .i64 p,vP,vB]:=by rw [zf hob'];rfl
 obtain⟨e1,e2⟩:=hlow.els o;have hFF:=hFU;obtain⟨wk,ak,rk,rfl,hrk⟩:=hFU
 by_cases hu:u=[]
 ·subst hu
  obtain⟨s',cap,rfl,hc,q2,q3,q4,q5⟩:=ha;simp only [pwA,seval,-iQ0,List.length_nil];exact Gh.finF (hHk.trans hkp) q2 (by omega) (hall.bL 0) hc.ok fun o1=>hk k _ _ ⟨hlow,hbef⟩
 ·have hkn':=hlow.le o q hu
  have hpos:(0:Int)<(u.length:Int):=by
   have:0<u.length:=List.length_pos_iff.2 hu
   omega
  simp only [pwA,seval,-iQ0,hpos,hr3];refine zAo hR o.len (by omega) fun vW hW=>?_
  have hWW:=hW;obtain⟨ww,aw,rw',rfl,hrw⟩:=hW;simp only [pwA,seval,-iQ0,hr3];refine zEH hR o q hp hFF hWW e1 (Z7 o.pr) (by omega) (by rw [zt];omega) fun z out hcan hz=>?_
  have hzz:=hz;obtain⟨wz,az,rz,rfl,hrz⟩:=hz;simp only [pwA,seval,-iQ0,hr3];refine PSl.push (bytes:=24) hkp ha (by omega) (by omega) fun v2 h2 k2 a2=>?_
  simp only [pwA,seval,-iQ0];refine⟨_,?_,k+1,out,us++[out],_,v2,_,rfl,by omega,rfl,k2,a2,hall.snoc hzz,by rw [List.length_append,hul];rfl,hzz,.succ hlow hcan,fun j u' hj hl=>?_⟩
  ·omega
  ·by_cases x:j=k
   ·subst x
    rw [hl.unique o hlow];exact hu
   ·exact hbef j u' (by omega) hl
end Go.Proofs
namespace Go.Proofs
open Go.Ab Go.Lie
variable {σ:PHeap} {K:PV→PHeap→Prop} {p p':Int} {n:Nat} {W:List (List Int)} {B:List (List (List Int))} {vP vB vL vU vV:PV} {s:Nat}
theorem Cls.le (o:OkW p n W) (q:OkB p n B) {c:Nat} (hc:Cls p n W B c):c≤n+1:=by
 rcases Nat.lt_or_ge n c with x|x
 ·obtain⟨c',rfl⟩:∃c',c=c'+1:=⟨c-1,by omega⟩
  obtain⟨h1,h2⟩:=hc;cases h1 with
  | succ h hcan=>exact Nat.succ_le_succ (h.le o q (h2 _ _ (Nat.lt_succ_self _) h))
 ·omega
theorem zG9 (hR:IsR vP vB W B) (o:OkW p n W) (q:OkB p n B) (hp:isP p) (hk:∀c:Nat,Cls p n W B c→K (.int .i64 c) σ):zA Tryz.prog 131 [.agg [.int .i64 p,vP,vB]] σ K:=by
 have hn6:=o.le;have h1:=hR.P.one;have h2:=hR.B.one;refine zA.gh ?_;refine Z8 mix Tryz.func131 ?_;simp only [pwA,seval,-iQ0,h1,h2];refine zG8 hR o q hp fun c a rows hc=>?_
 have hcn:=hc.le o q;have hw:IntKind.i64.wrap (((c+1:Nat):Int)-1)=(c:Int):=by rw [wrap64 (by omega) (by omega)];omega
 simp only [pwA,seval,-iQ0,hw];exact Gh.fin0 (zC σ _) trivial (hk c hc)
theorem zLG (hR:IsR vP vB W B) (o:OkW p n W) (q:OkB p n B) (hp:isP p) (hk:∀t:Bool,(t=true↔isLz p n W B)→K (.bool t) σ):zA Tryz.prog 123 [.agg [.int .i64 p,vP,vB]] σ K:=by
 have h1:=hR.P.one;have h2:=hR.B.one;refine zA.gh ?_;refine zD mix Tryz.func123 ?_;simp only [pwA,seval,-iQ0,h1,h2];refine zG9 hR o q hp fun c hc=>?_
 simp only [pwA,seval,-iQ0,h1,h2];refine Gh.fin0 (zC σ _) trivial (hk _ ?_);rw [zMz hc,decide_eq_true_eq]
end Go.Proofs
namespace Go.Proofs
open Go.Ab Go.Lie
variable {p:Int} {n:Nat} {W:List (List Int)} {B:List (List (List Int))}
def brv (B:List (List (List Int))) (n:Nat) (f g:Vec):Vec:=fun t=>sumN n fun i=>sumN (n-1-i) fun j=>(f i*g (i+1+j)-f (i+1+j)*g i)*at_ ((B.getD i []).getD j []) t
theorem zDB (q:OkB p n B) (a b:List Int) (t:Nat):at_ (bsum B a b n) t=brv B n (at_ a) (at_ b) t:=bi_at q t (Nat.le_refl _)
theorem zA2 (f f' g:Vec) (t:Nat):brv B n (fun j=>f j+f' j) g t=brv B n f g t+brv B n f' g t:=by
 simp only [brv];rw [←QY];refine zQ fun i _=>?_
 rw [←QY];refine zQ fun j _=>?_
 grind
theorem Zh (k:Int) (f g:Vec) (t:Nat):brv B n (fun j=>k*f j) g t=k*brv B n f g t:=by
 simp only [brv];rw [←qa];refine zQ fun i _=>?_
 rw [←qa];refine zQ fun j _=>?_
 grind
theorem zi (f g:Vec) (t:Nat):brv B n f g t=-1*brv B n g f t:=by
 simp only [brv];rw [←qa];refine zQ fun i _=>?_
 rw [←qa];refine zQ fun j _=>?_
 grind
theorem Qq {f f' g g':Vec} (h:∀j,j<n→f j=f' j) (h':∀j,j<n→g j=g' j) (t:Nat):brv B n f g t=brv B n f' g' t:=by
 simp only [brv];refine zQ fun i hi=>zQ fun j hj=>?_
 rw [h i hi,h _ (by omega:i+1+j<n),h' i hi,h' _ (by omega:i+1+j<n)]
theorem zAD (g:Vec) (t:Nat):∀(m:Nat) (F:Nat→Vec),brv B n (fun j=>sumN m fun k=>F k j) g t=sumN m fun k=>brv B n (F k) g t
 | 0,F=>by
  simp only [sumN]
  have:=Zh (B:=B) (n:=n) 0 (fun _=>0) g t
  simpa using this
 | m+1,F=>by
  simp only [sumN];rw [zA2,zAD g t m F]
end Go.Proofs
namespace Go.Proofs
open Go.Ab Go.Lie
variable {p:Int} {n:Nat} {W:List (List Int)} {B:List (List (List Int))}
theorem zC8:∀(m:Nat) (F:Nat→Vec),(∀k,k<m→Eqv p n W (F k) fun _=>0)→Eqv p n W (fun j=>sumN m fun k=>F k j) fun _=>0
 | 0,F,_=>Eqv.of_eq fun j=>rfl
 | m+1,F,h=>((zC8 m F fun k hk=>h k (by omega)).add (h m (by omega))).trans (Eqv.of_eq fun j=>rfl)
theorem zy {j i:Nat} (hj:j<n):at_ (unitL n j) i=if i=j then 1 else 0:=by
 rw [unitL,at_set (by simpa using hj),qR]
theorem zHS (g:Vec) {i:Nat} (hi:i<n):g i=sumN n fun k=>g k*at_ (unitL n k) i:=by
 rw [ZG hi fun k hk hne=>by rw [zy hk,if_neg (fun e=>hne e.symm),Int.mul_zero]]
 rw [zy hi,if_pos rfl,Int.mul_one]
theorem zMX (o:OkW p n W) (q:OkB p n B) (nf:Zj p W B n) {i:Nat} (hi:i<n) (g:Vec):Eqv p n W (brv B n (rel p W i) g) fun _=>0:=by
 have one:∀j,j<n→Eqv p n W (brv B n (rel p W i) (at_ (unitL n j))) fun _=>0:=fun j hj=>by
  have hF:=nf.1 i j hi hj;unfold F1 at hF
  have ha:=(ZL o (br_el o q (a:=unitL n i) (b:=unitL n j)) p).2;have hb:Eqv p n W (at_ (br p W B n (unitL n i) (unitL n j))) (at_ (bsum B (unitL n i) (unitL n j) n)):=zh o (qL q);have hc:Eqv p n W (at_ (br p W B n (W.getD i []) (unitL n j))) (at_ (bsum B (W.getD i []) (unitL n j) n)):=zh o (qL q);rw [←hF]at hc
  have hd:Eqv p n W (fun t=>p*at_ (bsum B (unitL n i) (unitL n j) n) t) (at_ (bsum B (W.getD i []) (unitL n j) n)):=((hb.mul p).symm.trans ha.symm).trans hc
  have he:=hd.symm.add (Eqv.refl (p:=p) (n:=n) (W:=W) fun t=>-1*(p*at_ (bsum B (unitL n i) (unitL n j) n) t))
  refine(Eqv.of_eq fun t=>?_).trans (he.trans (Eqv.of_eq fun t=>by grind))
  rw [zDB q,zDB q,←Zh,←Zh,←zA2];refine Qq (fun k hk=>?_) (fun _ _=>rfl) t
  rw [zy hi,rel]
  by_cases e:k=i
  ·rw [if_pos e,if_pos e];grind
  ·rw [if_neg e,if_neg e];grind
 refine(Eqv.of_eq fun t=>?_).trans (zC8 n (fun k t=>g k*brv B n (rel p W i) (at_ (unitL n k)) t) fun k hk=>((one k hk).mul (g k)).trans (Eqv.of_eq fun t=>by grind))
 rw [zi,Qq (f':=fun j=>sumN n fun k=>g k*at_ (unitL n k) j) (g':=rel p W i) (fun j hj=>zHS g hj) (fun _ _=>rfl),zAD (t:=t) (g:=rel p W i) n (fun k j=>g k*at_ (unitL n k) j),←qa]
 refine zQ fun k hk=>?_
 rw [Zh,zi (f:=at_ (unitL n k))]
 grind
theorem zCD (o:OkW p n W) (q:OkB p n B) (nf:Zj p W B n) {f f':Vec} (g:Vec) (h:Eqv p n W f f'):Eqv p n W (brv B n f g) (brv B n f' g):=by
 obtain⟨c,hc⟩:=h;have h0:=zC8 n (fun i t=>c i*brv B n (rel p W i) g t) fun k hk=>((zMX o q nf hk g).mul (c k)).trans (Eqv.of_eq fun t=>by grind)
 refine(Eqv.of_eq fun t=>?_).trans (((Eqv.refl (brv B n f' g)).add h0).trans (Eqv.of_eq fun t=>by grind))
 rw [Qq (f':=fun j=>f' j+sumN n fun i=>c i*rel p W i j) (g':=g) (fun j _=>hc j) (fun _ _=>rfl),zA2,zAD (t:=t) (g:=g) n (fun i j=>c i*rel p W i j)]
 congr 1
 exact zQ fun k hk=>by rw [Zh]
theorem zDC (o:OkW p n W) (q:OkB p n B) (nf:Zj p W B n) {g g':Vec} (f:Vec) (h:Eqv p n W g g'):Eqv p n W (brv B n f g) (brv B n f g'):=
 ((Eqv.of_eq fun t=>zi f g t).trans ((zCD o q nf f h).mul (-1))).trans (Eqv.of_eq fun t=>(zi f g' t).symm)
end Go.Proofs
namespace Go.Proofs
open Go.Ab Go.Lie
variable {p:Int} {n:Nat} {W:List (List Int)} {B:List (List (List Int))}
theorem zBw (o:OkW p n W) (q:OkB p n B) (a b:List Int):Eqv p n W (at_ (br p W B n a b)) (brv B n (at_ a) (at_ b)):=
 (zh o (qL q)).trans (Eqv.of_eq fun t=>zDB q a b t)
theorem Qa (o:OkW p n W) {x:List Int} (hx:El p n x) (k:Int):Eqv p n W (at_ (lmul p W k x)) fun j=>k*at_ x j:=(ZL o hx k).2
theorem zGK (k:Int) (f g:Vec) (t:Nat):brv B n f (fun j=>k*g j) t=k*brv B n f g t:=by
 rw [zi,Zh,zi g f];grind
end Go.Proofs
namespace Go.Proofs
open Go.Ab Go.Lie
variable {p:Int} {n:Nat} {W:List (List Int)} {B:List (List (List Int))}
theorem zEq (g f:Vec) (t:Nat):brv B n f g t=sumN n fun k=>g k*brv B n f (at_ (unitL n k)) t:=by
 rw [zi,Qq (f':=fun j=>sumN n fun k=>g k*at_ (unitL n k) j) (g':=f) (fun j hj=>zHS g hj) (fun _ _=>rfl),zAD (t:=t) (g:=f) n (fun k j=>g k*at_ (unitL n k) j),←qa]
 refine zQ fun k hk=>?_
 rw [Zh,zi (f:=at_ (unitL n k))]
 grind
end Go.Proofs
namespace Go.Lie
open Go.Ab
variable {p:Int} {n:Nat} {W:List (List Int)}
theorem zD9 (o:OkW p n W) {u:List (List Int)} {x:List Int} (hu:Base p n W u) (hx:El p n x):(∀j,at_ (redL p W u x) j=0)↔Gen p n W u (at_ x):=by
 have h1:=zA7 o hu.els hx;have hel:=ZA o hu.els hx;constructor
 ·intro h
  refine(zK _).eqv _ _ (Eqv.of_eq fun j=>?_) h1
  rw [h j];omega
 ·intro h
  have h2:Gen p n W u (at_ (redL p W u x)):=(zK _).eqv _ _ (Eqv.of_eq fun j=>by omega) ((zK _).sub h h1)
  rcases Nat.lt_or_ge (dep (redL p W u x)) n with hd|hd
  ·obtain⟨v,hv,e⟩:=zAB o hu hel h2 hd
   have:=(QZ o hu.led hu.asc hx).1 v hv
   rw [e]at this
   exact absurd this (ZF (by rw [hel.1];exact hd))
  ·intro j
   rcases Nat.lt_or_ge j n with g|g
   ·exact za (by omega)
   ·exact hel.beyond g
end Go.Lie
namespace Go.Lie
open Go.Ab
def digs (P:Nat):Nat→Nat→List Int
 | 0,_=>[]
 | m+1,k=>digs P m (k / P)++[((k % P:Nat):Int)]
theorem qo (P:Nat):∀(m k:Nat),(digs P m k).length=m
 | 0,k=>rfl
 | m+1,k=>by rw [digs,List.length_append,qo P m];rfl
theorem zEM {P:Nat} (hP:0<P):∀(m k:Nat),El (P:Int) m (digs P m k)
 | 0,k=>⟨rfl,fun x hx=>by cases hx⟩
 | m+1,k=>by
  refine⟨qo P _ k,fun x hx=>?_⟩
  rw [digs,List.mem_append,List.mem_singleton]at hx
  rcases hx with hx|rfl
  ·exact(zEM hP m (k / P)).2 x hx
  ·have:=Nat.mod_lt k hP
   omega
theorem zEn {P q r:Nat} (hr:r<P) (m:Nat):digs P (m+1) (q*P+r)=digs P m q++[(r:Int)]:=by
 have h1:(q*P+r) / P=q:=by rw [Nat.mul_comm,Nat.mul_add_div (by omega),Nat.div_eq_of_lt hr,Nat.add_zero]
 have h2:(q*P+r) % P=r:=by rw [Nat.mul_comm,Nat.mul_add_mod,Nat.mod_eq_of_lt hr]
 rw [digs,h1,h2]
def allE (P m:Nat):List (List Int):=(List.range (P ^ m)).map (digs P m)
theorem qZ (P m:Nat):(allE P m).length=P ^ m:=by simp [allE]
theorem zGQ {P m k:Nat} (h:k<(allE P m).length):(allE P m)[k]=digs P m k:=by simp [allE]
end Go.Lie
namespace Go.Lie
open Go.Ab
variable {p:Int} {n:Nat} {W:List (List Int)}
theorem zER:∀{b a:List Nat},a.Pairwise (· < ·)→b.Pairwise (· < ·)→(∀x∈a,x∈b)→a.length≤b.length∧(b.length≤a.length→a=b)
 | [],[],_,_,_=>⟨Nat.le_refl _,fun _=>rfl⟩
 | [],x::a,_,_,h=>by cases h x (by simp)
 | y::b,[],_,_,_=>⟨by simp,fun h=>by simp at h⟩
 | y::b,x::a,ha,hb,h=>by
  have ha':=List.pairwise_cons.1 ha;have hb':=List.pairwise_cons.1 hb
  by_cases e:x=y
  ·subst e
   have ih:=zER (b:=b) (a:=a) ha'.2 hb'.2 fun z hz=>by
    rcases List.mem_cons.1 (h z (by simp [hz]))with e|e
    ·have:=ha'.1 z hz;omega
    ·exact e
   refine⟨by simp only [List.length_cons];omega,fun hl=>?_⟩
   rw [ih.2 (by simp only [List.length_cons]at hl;omega)]
  ·have hx:x∈b:=by
    rcases List.mem_cons.1 (h x (by simp))with e2|e2
    ·exact absurd e2 e
    ·exact e2
   have hyx:=hb'.1 x hx;have ih:=zER (b:=b) (a:=x::a) ha hb'.2 fun z hz=>by
    rcases List.mem_cons.1 (h z hz)with e2|e2
    ·rcases List.mem_cons.1 hz with e3 | e3
     ·omega
     ·have:=ha'.1 z e3;omega
    ·exact e2
   exact⟨by have:=ih.1;simp only [List.length_cons]at this ⊢;omega,fun hl=>by have:=ih.1;simp only [List.length_cons]at this hl;omega⟩
theorem Base.deps {u:List (List Int)} (h:Base p n W u):(u.map dep).Pairwise (· < ·):=by
 have:=h.asc
 unfold Asc at this
 rw [List.pairwise_map];exact this
theorem zHn {P:Nat} (hP:0<P):∀{m:Nat} {x:List Int},El (P:Int) m x→∃k,k<P ^ m∧x=digs P m k
 | 0,x,h=>⟨0,by simp,by rw [List.length_eq_zero_iff.1 h.1];rfl⟩
 | m+1,x,h=>by
  have hl:=h.1;have hne:x≠[]:=fun e=>by rw [e]at hl;simp at hl
  have hx:=List.dropLast_concat_getLast hne;have hd:El (P:Int) m x.dropLast:=⟨by rw [List.length_dropLast,hl];rfl,fun y hy=>h.2 y ((List.dropLast_sublist x).subset hy)⟩
  obtain⟨q,hq,e⟩:=zHn hP hd;have hb:=h.2 _ (List.getLast_mem hne);obtain⟨r,hr⟩:=Int.eq_ofNat_of_zero_le hb.1;have hrP:r<P:=by omega
  refine⟨q*P+r,?_,?_⟩
  ·rw [Nat.pow_succ]
   have:=Nat.mul_le_mul_right P (show q+1≤P ^ m by omega)
   rw [Nat.add_mul]at this;omega
  ·rw [zEn hrP,←e,←hr,hx]
theorem zGA {P n:Nat} (hP:0<P) {x:List Int} (h:El (P:Int) n x):x∈allE P n:=by
 obtain⟨k,hk,e⟩:=zHn hP h;exact List.mem_map.2 ⟨k,List.mem_range.2 hk,e.symm⟩
theorem zBy {P n:Nat} (hP:0<P) {x:List Int} (h:x∈allE P n):El (P:Int) n x:=by
 obtain⟨k,hk,rfl⟩:=List.mem_map.1 h;exact zEM hP _ _
theorem Canon.self {L u:List (List Int)} (c:Canon p n W L u):Canon p n W u u:=⟨c.base,c.red,fun f=>Iff.rfl⟩
theorem Canon.els {L u:List (List Int)} (c:Canon p n W L u):∀v∈u,El p n v:=c.base.els
theorem Canon.len {L u:List (List Int)} (c:Canon p n W L u):u.length≤n:=qj (fun v hv=>(c.base.led v hv).2.1) c.base.asc
end Go.Lie
