/- What a law is handed, laid as frozen values: Lie rings, lists of elements. -/
import Derived.Test.YtgkbfiilhocioaaGreatCP32
import Derived.Test.YtgkbfiilhocioaaGreatCP31
import Derived.Test.YtgkbfiilhocioaaGreatCP28
import Derived.Test.YtgkbfiilhocioaaGreatCAbPz
import Derived.Test.YtgkbfiilhocioaaGreatCP27
import Derived.Test.YtgkbfiilhocioaaGreatCAbPt
import Derived.Test.YtgkbfiilhocioaaGreatChecked
import Derived.Test.YtgkbfiilhocioaaGreatRows
import Derived.Lib.SmallJoins
import Derived.WalkKit
import Derived.ProofKit
open Int renaming reduceNatCast'→iQ0
set_option maxRecDepth 100000
set_option linter.unusedSimpArgs false
set_option linter.unusedVariables false
namespace Go.Proofs
open Go.Ab Go.Lie
variable {σ:PHeap} {K:PV→PHeap→Prop} {p p':Int} {n:Nat} {W:List (List Int)} {B:List (List (List Int))} {vP vB vL vU vV:PV} {s:Nat}
theorem zBj:∀n:Nat,ipow p n=pw_ p n
 | 0=>rfl
 | n+1=>by rw [ipow,pw_,zBj n,Int.mul_comm]
def Cop (p k:Int):Prop:=∃e t:Int,k*e=1+p*t
structure DivL (p:Int) (n:Nat) (W:List (List Int)) (k:Int) (x z:List Int):Prop where
 el:El p n z
 nil:isZ x→z=x
 eqv:Cop p k→Eqv p n W (fun j=>k*at_ z j) (at_ x)
theorem Q7 {k:Int} (h:Cop p k) (hn:0<n):∃z w:Int,k*z=1+w*pw_ p n:=by
 obtain⟨e,t,h⟩:=h;obtain⟨f,s,g⟩:=zFb (p:=p) t n hn;exact⟨e*f,s,by grind⟩
theorem DivL.unique (o:OkW p n W) {k:Int} {x z z':List Int} (hx:El p n x) (h:DivL p n W k x z) (h':DivL p n W k x z') (hk:isZ x∨Cop p k):z=z':=by
 rcases hk with hk|hk
 ·rw [h.nil hk,h'.nil hk]
 ·rcases Nat.eq_zero_or_pos n with hn | hn
  ·have e1:=h.el.1
   have e2:=h'.el.1;rw [List.eq_nil_of_length_eq_zero (e1.trans hn),List.eq_nil_of_length_eq_zero (e2.trans hn)]
  ·obtain⟨a,w,ha⟩:=Q7 (p:=p) hk hn
   have e:Eqv p n W (fun j=>k*at_ z j) (fun j=>k*at_ z' j):=(h.eqv hk).trans (h'.eqv hk).symm
   have e2:=e.mul a;have one:∀{v:List Int},El p n v→Eqv p n W (fun j=>a*(k*at_ v j)) (at_ v):=fun {v} hv=>by
    have k1:=(Qa o (f:=at_ v) (fun j hj=>hv.beyond hj)).mul w
    have k2:=(Eqv.refl (p:=p) (n:=n) (W:=W) (at_ v)).add k1;exact((Eqv.of_eq fun j=>by grind).trans k2).trans (Eqv.of_eq fun j=>by omega)
   exact qR o h.el.1 h'.el.1 h.el.2 h'.el.2 (((one h.el).symm.trans e2).trans (one h'.el))
theorem DivL.mk' (o:OkW p n W) {k y m:Int} {x:List Int} (hx:El p n x) (hz:¬isZ x) (hm:Eqv p n W (fun j=>m*at_ x j) fun _=>0) (hy:Cop p k→∃t,k*y=1+t*m):DivL p n W k x (lmul p W y x) where
 el:=(Zl o hx y).1
 nil:=fun h=>absurd h hz
 eqv:=fun hk=>by
  obtain⟨t,ht⟩:=hy hk;have k1:=(Zl o hx y).2.mul k;have k2:=(Eqv.refl (p:=p) (n:=n) (W:=W) (at_ x)).add (hm.mul t);exact(k1.trans (Eqv.of_eq fun j=>by grind)).trans (k2.trans (Eqv.of_eq fun j=>by omega))
end Go.Proofs
namespace Go.Proofs
open Go.Ab Go.Lie
variable {σ:PHeap} {K:PV→PHeap→Prop} {p p':Int} {n:Nat} {W:List (List Int)} {B:List (List (List Int))} {vP vB vL vU vV:PV} {s:Nat}
theorem zGn (hp:okp p):∀k:Nat,1≤pw_ p k
 | 0=>by simp [pw_]
 | k+1=>by
  have h:=zGn hp k
  have:=Int.mul_le_mul_of_nonneg_right (show(1:Int)≤p by have:=hp.1;omega) (show 0≤pw_ p k by omega)
  rw [pw_];omega
theorem zDI (hp:okp p) {j:Nat}:∀{k:Nat},j≤k→pw_ p j≤pw_ p k
 | 0,h=>by
   have:j=0:=by omega
   subst this;exact Int.le_refl _
 | k+1,h=>by
  by_cases e:j=k+1
  ·subst e;exact Int.le_refl _
  ·have h1:=zDI hp (j:=j) (k:=k) (by omega)
   have h2:=zGn hp k
   have:=Int.mul_le_mul_of_nonneg_right (show(1:Int)≤p by have:=hp.1;omega) (show 0≤pw_ p k by omega)
   have e2:pw_ p (k+1)=p*pw_ p k:=rfl;omega
theorem zIo {l:Nat} {w:Bool} {av:AV} {x:List Int} (hR:IsR vP vB W B) (o:OkW p n W) (hpow:ipow p n≤729) (hx:El p n x) (hl:l=x.length)
  (hk:∀j,j≤n→Eqv p n W (fun i=>pw_ p j*at_ x i) (fun _=>0)→K (.int .i64 (pw_ p j)) σ):zA Tryz.prog 320 [.agg [.int .i64 p,vP,vB],.fz w av l (pis x)] σ K:=by
 have h1:=hR.P.one;have h2:=hR.B.one;have hn6:=o.le;have hpr:=o.pr;have hpb:=hpr;unfold okp at hpb
 have hxl:=hx.1;subst hl;refine zA.gh ?_;refine zD mix Tryz.func320 ?_
 conv=>arg 2;cbv
 refine zF rfl ?_;simp only [pwA,seval,-iQ0,h1,h2];generalize hH:σ.new [.int .i64 p,vP,vB]=H;have hHk:Keep σ H:=by rw [←hH];exact zC σ _
 have hb3:H.rd σ.next 0 3=some [.int .i64 p,vP,vB]:=by rw [←hH];simp only [pwA,seval,-iQ0]
 have hb1:H.rd1 σ.next 0=some (.int .i64 p):=by rw [←hH];simp only [pwA,seval,-iQ0]
 refine zG (fun m vs h'=>∃(j:Nat) (y:List Int) (wy:Bool) (vy:AV),m=n-dep y∧j≤dep y∧vs=[.fz wy vy n (pis y),.ptr σ.next 0,.int .i64 (pw_ p j)]∧H=h'∧El p n y∧Eqv p n W (at_ y) fun i=>pw_ p j*at_ x i) (n-dep x) ?_ ?_
 ·exact⟨0,x,w,av,rfl,by omega,by rw [hxl];rfl,rfl,hx,Eqv.of_eq fun i=>by simp [pw_]⟩
 rintro m vs h' ⟨j,y,wy,vy,rfl,hj,rfl,rfl,hy,he⟩
 have hyl:=hy.1;have hdl:=Zn y;simp only [pwA,seval,-iQ0];refine zAa hyl.symm (by omega) ?_
 by_cases hz:isZ y
 ·simp only [pwA,seval,-iQ0,hz,decide_true]
  refine Gh.fin0 hHk trivial (hk j (by omega) (he.symm.trans (Eqv.of_eq fun i=>ZH hz i)))
 ·have hd:dep y<n:=by have:=zBU hz;omega
  have hj1:pw_ p (j+1)≤pw_ p n:=zDI hpr (by omega)
  have hj0:=zGn hpr (j+1);rw [zBj]at hpow
  have hc:pw_ p j*p=pw_ p (j+1):=by rw [pw_,Int.mul_comm]
  have hw:IntKind.i64.wrap (pw_ p j*p)=pw_ p (j+1):=by rw [hc];exact wrap64 (by omega) (by omega)
  simp only [pwA,seval,-iQ0,hz,decide_false,hb3,hb1];refine qG hR o hy hy hyl.symm hyl.symm (by omega) (by decide) fun v1=>?_
  have hdep:=zGt o hy hd;obtain⟨z1,z2⟩:=Zl o hy p;simp only [pwA,seval,-iQ0,hb1,hw];refine⟨_,?_,j+1,_,true,v1,rfl,by omega,rfl,z1,(z2.trans (he.mul p)).trans (Eqv.of_eq fun i=>by rw [←hc];grind)⟩
  omega
end Go.Proofs
namespace Go.Proofs
open Go.Ab Go.Lie
variable {σ:PHeap} {K:PV→PHeap→Prop} {p p':Int} {n:Nat} {W:List (List Int)} {B:List (List (List Int))} {vP vB vL vU vV:PV} {s:Nat}
theorem zEj {l:Nat} {w:Bool} {av:AV} {k:Int} {x:List Int} (hR:IsR vP vB W B) (o:OkW p n W) (hpow:ipow p n≤729) (hx:El p n x) (hl:l=x.length)
  (hk:∀w v z,DivL p n W k x z→K (.fz w v n (pis z)) σ):zA Tryz.prog 293 [.agg [.int .i64 p,vP,vB],.fz w av l (pis x),.int .i64 k] σ K:=by
 have h1:=hR.P.one;have h2:=hR.B.one;have hn6:=o.le;have hpr:=o.pr;have hxl:=hx.1;subst hl;refine zA.gh ?_;refine zD mix Tryz.func293 ?_
 conv=>arg 2;cbv
 refine zF rfl ?_;simp only [pwA,seval,-iQ0,h1,h2];generalize hH:σ.new [.int .i64 p,vP,vB]=H;have hHk:Keep σ H:=by rw [←hH];exact zC σ _
 have hb3:H.rd σ.next 0 3=some [.int .i64 p,vP,vB]:=by rw [←hH];simp only [pwA,seval,-iQ0]
 refine zAa rfl (by omega) ?_
 by_cases hz:isZ x
 ·simp only [pwA,seval,-iQ0,hz,decide_true]
  refine Gh.fin0 hHk trivial ?_;rw [hxl];exact hk _ _ x ⟨hx,fun _=>rfl,fun _=>Eqv.of_eq fun j=>by rw [ZH hz,Int.mul_zero]⟩
 ·have hdx:dep x<n:=by have:=zBU hz;omega
  simp only [pwA,seval,-iQ0,hz,decide_false,hb3];refine zIo hR o hpow hx rfl fun j hj he=>?_
  have hj0:j≠0:=fun e=>by
   subst e;have e0:Eqv p n W (at_ x) fun _=>0:=(Eqv.of_eq fun i=>by simp [pw_]).trans he
   have:=zD8 o hx e0 (Nat.le_refl n) (fun _ _=>rfl) (dep x) hdx
   exact qc (by omega) this
  have hm1:pw_ p j≤pw_ p n:=zDI hpr hj;have hm2:pw_ p 1≤pw_ p j:=zDI hpr (by omega)
  have hm3:pw_ p 1=p:=by simp [pw_]
  rw [zBj]at hpow
  have hp2:=hpr.1;generalize hm:pw_ p j=m at *
  simp only [pwA,seval,-iQ0];refine zG (fun q vs h'=>∃y:Int,q=(m-y).toNat∧1≤y∧y≤m∧vs=[.fz w av x.length (pis x),.int .i64 k,.ptr σ.next 0,.int .i64 m,.int .i64 y]∧H=h'∧∀y',1≤y'→y'<y→k % m*y' % m≠1) (m-1).toNat ?_ ?_
  ·exact⟨1,rfl,by omega,by omega,rfl,rfl,fun y' _ _=>by omega⟩
  rintro q vs h' ⟨y,rfl,hy1,hym,rfl,rfl,hall⟩
  have em1:=Int.emod_nonneg k (show m≠0 by omega)
  have em2:=Int.emod_lt_of_pos k (show 0<m by omega)
  have em:=Int.mul_ediv_add_emod k m;have fin:(Cop p k→∃t,k*y=1+t*m)→∀v,Gh σ K (.fz true v n (pis (lmul p W y x))) H:=fun h v=>Gh.fin0 hHk trivial (hk _ v _ (DivL.mk' o hx hz he h))
  by_cases hlt:y<m
  ·have hb:0≤k % m*y∧k % m*y≤531441:=by
    have a1:=Int.mul_le_mul (show k % m≤729 by omega) (show y≤729 by omega) (by omega) (by omega)
    have a2:=Int.mul_nonneg em1 (show 0≤y by omega)
    omega
   simp only [pwA,seval,-iQ0,hlt,decide_true];refine zF0 (by omega) (by omega) ?_
   have hmne:m≠0:=by omega
   have ht:(k % m*y).tmod m=k % m*y % m:=Int.tmod_eq_emod_of_nonneg hb.1
   by_cases h1:k % m*y % m=1
   ·simp only [pwA,seval,-iQ0,hlt,hmne,wrap64 (n:=k % m*y) (by omega) (by omega),ht,h1,hb3]
    refine qG hR o hx hx rfl rfl (by omega) (by decide) fun v1=>?_
    simp only [pwA,seval,-iQ0];refine fin (fun _=>?_) v1
    have e:=Int.mul_ediv_add_emod (k % m*y) m;exact⟨k % m*y / m+k / m*y,by grind⟩
   ·simp only [pwA,seval,-iQ0,hlt,hmne,wrap64 (n:=k % m*y) (by omega) (by omega),ht,h1,wrap64 (n:=y+1) (by omega) (by omega)]
    refine⟨_,?_,y+1,rfl,by omega,by omega,rfl,fun y' h2 h3=>?_⟩
    ·omega
    ·by_cases e:y'=y
     ·subst e;exact h1
     ·exact hall y' h2 (by omega)
  ·have hye:y=m:=by omega
   simp only [pwA,seval,-iQ0,hlt,decide_false,hb3];refine qG hR o hx hx rfl rfl (by omega) (by decide) fun v1=>?_
   simp only [pwA,seval,-iQ0];refine fin (fun hc=>?_) v1
   exfalso
   obtain⟨z,w',hzw⟩:=Q7 (p:=p) hc (show 0<j by omega)
   rw [hm]at hzw
   have f1:=Int.emod_nonneg z (show m≠0 by omega)
   have f2:=Int.emod_lt_of_pos z (show 0<m by omega)
   have f3:=Int.mul_ediv_add_emod z m;have hone:k % m*(z % m) % m=1:=by
    have e1:k % m*(z % m)=1+(w'-k / m*z-k % m*(z / m))*m:=by grind
    rw [e1,Int.add_mul_emod_self_right];exact Int.emod_eq_of_lt (by omega) (by omega)
   have hz0:z % m≠0:=fun e=>by
    rw [e,Int.mul_zero,Int.zero_emod]at hone
    omega
   exact hall (z % m) (by omega) (by omega) hone
end Go.Proofs
namespace Go.Proofs
open Go.Ab Go.Lie
variable {σ:PHeap} {K:PV→PHeap→Prop} {p p':Int} {n:Nat} {W:List (List Int)} {B:List (List (List Int))} {vP vB vL vU vV:PV} {s:Nat}
def CodeL (p:Int) (W:List (List Int)) (B:List (List (List Int))) (xs:List (List Int)) (c:Int):Prop:=
 (¬(isLie p W B∧Els p W.length xs)∧c=1)∨((isLie p W B∧Els p W.length xs)∧¬isLz p W.length W B∧c=5)∨((isLie p W B∧Els p W.length xs)∧isLz p W.length W B∧c=0)
theorem CodeL.unique {xs:List (List Int)} {c d:Int} (h:CodeL p W B xs c) (g:CodeL p W B xs d):c=d:=by
 rcases h with ⟨h1,h2⟩|⟨h1,h2,h3⟩|⟨h1,h2,h3⟩<;>rcases g with ⟨g1,g2⟩|⟨g1,g2,g3⟩|⟨g1,g2,g3⟩<;>first|omega|exact absurd g1 h1|exact absurd h1 g1|exact absurd g2 h2|exact absurd h2 g2
theorem zCN {xs:List (List Int)} (hs:PtrR σ s p vP vB) (hR:IsR vP vB W B) (szr:SzR W B) (hL:FII vL xs) (sz:SzL xs) (hk:∀c:Int,CodeL p W B xs c→K (.int .i64 c) σ):zA Tryz.prog 106 [.ptr s 0,vL] σ K:=by
 have hLL:=hL;obtain⟨wl,al,rl,rfl,hrl⟩:=hL;refine zD mix Tryz.func106 ?_
 conv=>arg 2;cbv
 refine zF rfl ?_;simp only [pwA,seval,-iQ0];refine zBh hs hR szr hLL sz fun t ht=>?_
 cases t
 ·simp only [pwA,seval,-iQ0]
  exact hk 1 (.inl ⟨fun h=>(by have:=ht.2 h;simp at this),rfl⟩)
 ·have hl:=ht.1 rfl
  simp only [pwA,seval,-iQ0];refine zDk hs hR hl.1.1.w hl.1.1.b hl.1.1.1 fun t ht=>?_
  cases t
  ·simp only [pwA,seval,-iQ0]
   exact hk 5 (.inr (.inl ⟨hl,fun h=>(by have:=ht.2 h;simp at this),rfl⟩))
  ·simp only [pwA,seval,-iQ0]
   exact hk 0 (.inr (.inr ⟨hl,ht.1 rfl,rfl⟩))
theorem zB8 {xs:List (List Int)} (hR:IsR vP vB W B) (szr:SzR W B) (hL:FII vL xs) (sz:SzL xs) (hk:∀c:Int,CodeL p W B xs c→K (.int .i64 c) σ):zA Tryz.prog 102 [.agg [.int .i64 p,vP,vB],vL] σ K:=by
 have h1:=hR.P.one;have h2:=hR.B.one;have hLL:=hL;obtain⟨wl,al,rl,rfl,hrl⟩:=hL;refine zA.gh ?_;refine zD mix Tryz.func102 ?_
 conv=>arg 2;cbv
 refine zF rfl ?_;simp only [pwA,seval,-iQ0,h1,h2];refine zEn hR szr fun t ht=>?_
 cases t
 ·simp only [pwA,seval,-iQ0]
  exact Gh.fin0 (zC σ _) trivial (hk 1 (.inl ⟨fun h=>(by have:=ht.2 h.1;simp at this),rfl⟩))
 ·have hl:=ht.1 rfl
  simp only [pwA,seval,-iQ0,h1,h2];refine zFY hR hLL sz hl.1.1.bd fun t ht=>?_
  cases t
  ·simp only [pwA,seval,-iQ0]
   exact Gh.fin0 (zC σ _) trivial (hk 1 (.inl ⟨fun h=>(by have:=ht.2 h.2;simp at this),rfl⟩))
  ·have he:=ht.1 rfl
   simp only [pwA,seval,-iQ0,h1,h2];refine zD0 hR hl.1.w hl.1.b hl.1.1 fun t ht=>?_
   cases t
   ·simp only [pwA,seval,-iQ0]
    exact Gh.fin0 (zC σ _) trivial (hk 5 (.inr (.inl ⟨⟨hl,he⟩,fun h=>(by have:=ht.2 h;simp at this),rfl⟩)))
   ·simp only [pwA,seval,-iQ0]
    exact Gh.fin0 (zC σ _) trivial (hk 0 (.inr (.inr ⟨⟨hl,he⟩,ht.1 rfl,rfl⟩)))
end Go.Proofs
namespace Go.Proofs
open Go.Ab Go.Lie
variable {p:Int} {n:Nat} {W:List (List Int)} {B:List (List (List Int))}
def brv (B:List (List (List Int))) (n:Nat) (f g:Vec):Vec:=fun t=>sumN n fun i=>sumN (n-1-i) fun j=>(f i*g (i+1+j)-f (i+1+j)*g i)*at_ ((B.getD i []).getD j []) t
theorem zEA (q:OkB p n B) (a b:List Int) (t:Nat):at_ (bsum B a b n) t=brv B n (at_ a) (at_ b) t:=bi_at q t (Nat.le_refl _)
theorem Zo (f f' g:Vec) (t:Nat):brv B n (fun j=>f j+f' j) g t=brv B n f g t+brv B n f' g t:=by
 simp only [brv];rw [←QD];refine qC fun i _=>?_
 rw [←QD];refine qC fun j _=>?_
 grind
theorem qM (k:Int) (f g:Vec) (t:Nat):brv B n (fun j=>k*f j) g t=k*brv B n f g t:=by
 simp only [brv];rw [←ZO];refine qC fun i _=>?_
 rw [←ZO];refine qC fun j _=>?_
 grind
theorem zX (f g:Vec) (t:Nat):brv B n f g t=-1*brv B n g f t:=by
 simp only [brv];rw [←ZO];refine qC fun i _=>?_
 rw [←ZO];refine qC fun j _=>?_
 grind
theorem zAT {f f' g g':Vec} (h:∀j,j<n→f j=f' j) (h':∀j,j<n→g j=g' j) (t:Nat):brv B n f g t=brv B n f' g' t:=by
 simp only [brv];refine qC fun i hi=>qC fun j hj=>?_
 rw [h i hi,h _ (by omega:i+1+j<n),h' i hi,h' _ (by omega:i+1+j<n)]
theorem zAm (g:Vec) (t:Nat):∀(m:Nat) (F:Nat→Vec),brv B n (fun j=>sumN m fun k=>F k j) g t=sumN m fun k=>brv B n (F k) g t
 | 0,F=>by
  simp only [sumN]
  have:=qM (B:=B) (n:=n) 0 (fun _=>0) g t
  simpa using this
 | m+1,F=>by
  simp only [sumN];rw [Zo,zAm g t m F]
end Go.Proofs
namespace Go.Proofs
open Go.Ab Go.Lie
variable {p:Int} {n:Nat} {W:List (List Int)} {B:List (List (List Int))}
theorem zCD:∀(m:Nat) (F:Nat→Vec),(∀k,k<m→Eqv p n W (F k) fun _=>0)→Eqv p n W (fun j=>sumN m fun k=>F k j) fun _=>0
 | 0,F,_=>Eqv.of_eq fun j=>rfl
 | m+1,F,h=>((zCD m F fun k hk=>h k (by omega)).add (h m (by omega))).trans (Eqv.of_eq fun j=>rfl)
theorem qL {j i:Nat} (hj:j<n):at_ (unitL n j) i=if i=j then 1 else 0:=by
 rw [unitL,at_set (by simpa using hj),zo]
theorem zFF (g:Vec) {i:Nat} (hi:i<n):g i=sumN n fun k=>g k*at_ (unitL n k) i:=by
 rw [Qv hi fun k hk hne=>by rw [qL hk,if_neg (fun e=>hne e.symm),Int.mul_zero]]
 rw [qL hi,if_pos rfl,Int.mul_one]
theorem zOs (o:OkW p n W) (q:OkB p n B) (nf:qz p W B n) {i:Nat} (hi:i<n) (g:Vec):Eqv p n W (brv B n (rel p W i) g) fun _=>0:=by
 have one:∀j,j<n→Eqv p n W (brv B n (rel p W i) (at_ (unitL n j))) fun _=>0:=fun j hj=>by
  have hF:=nf.1 i j hi hj;unfold F1 at hF
  have ha:=(Zl o (br_el o q (a:=unitL n i) (b:=unitL n j)) p).2;have hb:Eqv p n W (at_ (br p W B n (unitL n i) (unitL n j))) (at_ (bsum B (unitL n i) (unitL n j) n)):=qO o (qd q);have hc:Eqv p n W (at_ (br p W B n (W.getD i []) (unitL n j))) (at_ (bsum B (W.getD i []) (unitL n j) n)):=qO o (qd q);rw [←hF]at hc
  have hd:Eqv p n W (fun t=>p*at_ (bsum B (unitL n i) (unitL n j) n) t) (at_ (bsum B (W.getD i []) (unitL n j) n)):=((hb.mul p).symm.trans ha.symm).trans hc
  have he:=hd.symm.add (Eqv.refl (p:=p) (n:=n) (W:=W) fun t=>-1*(p*at_ (bsum B (unitL n i) (unitL n j) n) t))
  refine(Eqv.of_eq fun t=>?_).trans (he.trans (Eqv.of_eq fun t=>by grind))
  rw [zEA q,zEA q,←qM,←qM,←Zo];refine zAT (fun k hk=>?_) (fun _ _=>rfl) t
  rw [qL hi,rel]
  by_cases e:k=i
  ·rw [if_pos e,if_pos e];grind
  ·rw [if_neg e,if_neg e];grind
 refine(Eqv.of_eq fun t=>?_).trans (zCD n (fun k t=>g k*brv B n (rel p W i) (at_ (unitL n k)) t) fun k hk=>((one k hk).mul (g k)).trans (Eqv.of_eq fun t=>by grind))
 rw [zX,zAT (f':=fun j=>sumN n fun k=>g k*at_ (unitL n k) j) (g':=rel p W i) (fun j hj=>zFF g hj) (fun _ _=>rfl),zAm (t:=t) (g:=rel p W i) n (fun k j=>g k*at_ (unitL n k) j),←ZO]
 refine qC fun k hk=>?_
 rw [qM,zX (f:=at_ (unitL n k))]
 grind
theorem zAn (o:OkW p n W) (q:OkB p n B) (nf:qz p W B n) {f f':Vec} (g:Vec) (h:Eqv p n W f f'):Eqv p n W (brv B n f g) (brv B n f' g):=by
 obtain⟨c,hc⟩:=h;have h0:=zCD n (fun i t=>c i*brv B n (rel p W i) g t) fun k hk=>((zOs o q nf hk g).mul (c k)).trans (Eqv.of_eq fun t=>by grind)
 refine(Eqv.of_eq fun t=>?_).trans (((Eqv.refl (brv B n f' g)).add h0).trans (Eqv.of_eq fun t=>by grind))
 rw [zAT (f':=fun j=>f' j+sumN n fun i=>c i*rel p W i j) (g':=g) (fun j _=>hc j) (fun _ _=>rfl),Zo,zAm (t:=t) (g:=g) n (fun i j=>c i*rel p W i j)]
 congr 1
 exact qC fun k hk=>by rw [qM]
theorem zHp (o:OkW p n W) (q:OkB p n B) (nf:qz p W B n) {g g':Vec} (f:Vec) (h:Eqv p n W g g'):Eqv p n W (brv B n f g) (brv B n f g'):=
 ((Eqv.of_eq fun t=>zX f g t).trans ((zAn o q nf f h).mul (-1))).trans (Eqv.of_eq fun t=>(zX f g' t).symm)
end Go.Proofs
namespace Go.Proofs
open Go.Ab Go.Lie
variable {p:Int} {n:Nat} {W:List (List Int)} {B:List (List (List Int))}
theorem Zp (o:OkW p n W) (q:OkB p n B) (a b:List Int):Eqv p n W (at_ (br p W B n a b)) (brv B n (at_ a) (at_ b)):=
 (qO o (qd q)).trans (Eqv.of_eq fun t=>zEA q a b t)
theorem qP (o:OkW p n W) {x:List Int} (hx:El p n x) (k:Int):Eqv p n W (at_ (lmul p W k x)) fun j=>k*at_ x j:=(Zl o hx k).2
theorem qh (o:OkW p n W) {x y:List Int} (hx:El p n x) (hy:El p n y):Eqv p n W (at_ (ladd p W x y)) fun j=>at_ x j+at_ y j:=
 (qO o (by rw [zQ (hx.1.trans hy.1.symm)];exact hx.1)).trans (Eqv.of_eq fun j=>by rw [zm (hx.1.trans hy.1.symm)];omega)
theorem Zz (k:Int) (f g:Vec) (t:Nat):brv B n f (fun j=>k*g j) t=k*brv B n f g t:=by
 rw [zX,qM,zX g f];grind
theorem third (o:OkW p n W) (q:OkB p n B) (nf:qz p W B n) {x y b:List Int} (hb:El p n b):
  ladd p W (br p W B n x b) (br p W B n y (lmul p W (-1) b))=norm p W (lmix 1 (br p W B n x b) (-1) (br p W B n y b)):=by
 have e1:El p n (br p W B n x b):=br_el o q;have e2:El p n (br p W B n y b):=br_el o q;have e3:El p n (br p W B n y (lmul p W (-1) b)):=br_el o q;have k1:Eqv p n W (at_ (br p W B n y (lmul p W (-1) b))) fun j=>-1*at_ (br p W B n y b) j:=
  (Zp o q _ _).trans (((zHp o q nf (at_ y) (qP o hb (-1))).trans (Eqv.of_eq fun t=>Zz (-1) _ _ t)).trans ((Zp o q y b).symm.mul (-1)))
 refine zEe o (by rw [zQ (e1.1.trans e3.1.symm)];exact e1.1) (by rw [zQ (e1.1.trans e2.1.symm)];exact e1.1) ?_
 refine(Eqv.of_eq fun j=>?_).trans (((Eqv.refl (at_ (br p W B n x b))).add k1).trans (Eqv.of_eq fun j=>?_))
 ·rw [zm (e1.1.trans e3.1.symm)];omega
 ·rw [zm (e1.1.trans e2.1.symm)];omega
end Go.Proofs
namespace Go.Proofs
open Go.Ab Go.Lie
variable {p:Int} {n:Nat} {W:List (List Int)} {B:List (List (List Int))}
theorem zBK (g f:Vec) (t:Nat):brv B n f g t=sumN n fun k=>g k*brv B n f (at_ (unitL n k)) t:=by
 rw [zX,zAT (f':=fun j=>sumN n fun k=>g k*at_ (unitL n k) j) (g':=f) (fun j hj=>zFF g hj) (fun _ _=>rfl),zAm (t:=t) (g:=f) n (fun k j=>g k*at_ (unitL n k) j),←ZO]
 refine qC fun k hk=>?_
 rw [qM,zX (f:=at_ (unitL n k))]
 grind
theorem zPS (o:OkW p n W) (q:OkB p n B) (nf:qz p W B n) {u:List (List Int)} {f:Vec} (hf:Gen p n W u f):∀g:Vec,Gen p n W (brL p W B n u (units n)) (brv B n f g):=by
 have hS:=zP (p:=p) (n:=n) (W:=W) (brL p W B n u (units n));refine zEw (S:=fun f=>∀g:Vec,Gen p n W (brL p W B n u (units n)) (brv B n f g)) ⟨fun g=>?_,fun f f' h h' g=>?_,fun k f h g=>?_,fun f f' h h' g=>?_⟩ (fun v hv g=>?_) hf
 ·refine hS.eqv _ _ (Eqv.of_eq fun t=>?_) hS.zero
  have:=qM (B:=B) (n:=n) 0 (fun _=>0) g t
  simpa using this
 ·exact hS.eqv _ _ (Eqv.of_eq fun t=>Zo f f' g t) (hS.add _ _ (h g) (h' g))
 ·exact hS.eqv _ _ (Eqv.of_eq fun t=>qM k f g t) (hS.mul k _ (h g))
 ·exact hS.eqv _ _ (zAn o q nf g h) (h' g)
 ·refine hS.eqv _ _ (Eqv.of_eq fun t=>zBK g (at_ v) t) (hS.sum fun k hk=>hS.mul (g k) _ ?_)
  refine hS.eqv _ _ (Zp o q v (unitL n k)).symm (zb (List.mem_flatMap.2 ⟨v,hv,List.mem_map.2 ⟨unitL n k,?_,rfl⟩⟩));exact List.mem_map.2 ⟨k,List.mem_range.2 hk,rfl⟩
theorem zF7 (o:OkW p n W) {x:List Int} (hx:El p n x):Gen p n W (units n) (at_ x):=by
 have hS:=zP (p:=p) (n:=n) (W:=W) (units n);refine hS.eqv _ _ (Eqv.of_eq fun t=>?_) (hS.sum (m:=n) (F:=fun k j=>at_ x k*at_ (unitL n k) j) fun k hk=>hS.mul (at_ x k) _ (zb (List.mem_map.2 ⟨k,List.mem_range.2 hk,rfl⟩)))
 rcases Nat.lt_or_ge t n with h|h
 ·exact zFF (at_ x) h
 ·rw [hx.beyond h,qN]
  intro k hk;rw [qL hk,if_neg (by omega),Int.mul_zero]
end Go.Proofs
namespace Go.Proofs
open Go.Ab Go.Lie
variable {p:Int} {n:Nat} {W:List (List Int)} {B:List (List (List Int))}
theorem zOc (o:OkW p n W) (q:OkB p n B) (nf:qz p W B n) {u out:List (List Int)} (hc:Canon p n W (brL p W B n u (units n)) out) {f:Vec} (hf:Gen p n W u f) (g:Vec):Gen p n W out (brv B n f g):=
 (hc.gen _).1 (zPS o q nf hf g)
theorem zJd (o:OkW p n W) (q:OkB p n B) {c:Nat} (h:Cls p n W B c):∀k,∃u,Low p n W B k u∧(c≤k→u=[])∨k<c:=fun k=>by
 rcases Nat.lt_or_ge k c with x|x
 ·exact⟨[],.inr x⟩
 ·obtain⟨d,rfl⟩:∃d,k=c+d:=⟨k-c,by omega⟩
  have:Low p n W B (c+d) []:=by
   clear x
   induction d with
   | zero=>exact h.1
   | succ d ih=>
    refine .succ ih ?_;have hb:brL p W B n [] (units n)=[]:=rfl;rw [hb];exact⟨.nil,List.Pairwise.nil,fun f=>Iff.rfl⟩
  exact⟨[],.inl ⟨this,fun _=>rfl⟩⟩
theorem Zb (o:OkW p n W) {z:List Int} (hz:El p n z) (h:Eqv p n W (at_ z) fun _=>0):isZ z:=by
 have h1:=zD8 o hz h (Nat.le_refl n) fun _ _=>rfl
 intro x hx;obtain⟨j,hj,rfl⟩:=List.mem_iff_getElem.1 hx;rw [←at_eq hj];exact h1 j (by rw [←hz.1];exact hj)
end Go.Proofs
set_option linter.unusedSectionVars false
namespace Go.Grp
open Go.Ab Go.Lie
variable {O:List Int} {P:List (List Int)} {C:List (List (List Int))} {x y z a b c g:List Int} {D:List (Option (List Int))} {t i k d:Nat} {N:List Int→Prop}
theorem Gp.pw_inv' {α:Type} [Inhabited α] {S:α→Prop} {m:α→α→α} {e z:α} (G:Gp S m e) (hz:S z) (k:Nat):Grp.pw m e (ginv S m e z) k=ginv S m e (Grp.pw m e z k):=by
 have iz:=(G.inv_in hz).1;refine G.inv_eq (G.pw hz k) (G.pw iz k) ?_
 induction k with
 | zero=>exact G.l1 G.one
 | succ k ih=>
  show m (m (Grp.pw m e z k) z) (m (Grp.pw m e (ginv S m e z) k) (ginv S m e z))=e;rw [G.pw_comm iz k,←G.as (G.cl (G.pw hz k) hz) iz (G.pw iz k),G.as (G.pw hz k) hz iz,G.inv_r hz,G.r1 (G.pw hz k),ih]
section
variable (s:Shp O P C) (F:Full O P C O.length) (hC:Cent O C)
include s F hC
theorem zEP (ht:t<O.length) (hx:gS O x) (hb:TT O t b) (hb1:at_ b t=1):
  gS O (gm O P C x (pw (gm O P C) (zv O) (ginv (gS O) (gm O P C) (zv O) b) (at_ x t).toNat))∧gm O P C (gm O P C x (pw (gm O P C) (zv O) (ginv (gS O) (gm O P C) (zv O) b) (at_ x t).toNat)) (pw (gm O P C) (zv O) b (at_ x t).toNat)=x∧
  Upto O t (gm O P C x (pw (gm O P C) (zv O) (ginv (gS O) (gm O P C) (zv O) b) (at_ x t).toNat)) x∧at_ (gm O P C x (pw (gm O P C) (zv O) (ginv (gS O) (gm O P C) (zv O) b) (at_ x t).toNat)) t=0:=by
 have G:=F.g;have bS:gS O b:=hb.mono (Nat.zero_le _);have ib:=(G.inv_in bS).1;have bx:=hx.bd t ht;have pS:=G.pw bS (at_ x t).toNat;have qS:=G.pw ib (at_ x t).toNat;have hw:=G.cl hx qS;have e:gm O P C (gm O P C x (pw (gm O P C) (zv O) (ginv (gS O) (gm O P C) (zv O) b) (at_ x t).toNat)) (pw (gm O P C) (zv O) b (at_ x t).toNat)=x:=by
  rw [G.as hx qS pS,G.pw_inv' bS,G.inv_l pS,G.r1 hx]
 obtain⟨p1,p2⟩:=Qw s F hC ht hb (at_ x t).toNat;refine⟨hw,e,?_,?_⟩<;>generalize gm O P C x (pw (gm O P C) (zv O) (ginv (gS O) (gm O P C) (zv O) b) (at_ x t).toNat)=w at *
 ·obtain⟨g1,g2⟩:=ZR s (d:=O.length) (b:=w) (a:=pw (gm O P C) (zv O) b (at_ x t).toNat) (t:=t) (Nat.le_refl _) (by omega) ht (by rw [Nat.sub_self];exact hw) p1
  have e':mu O P C O.length w (pw (gm O P C) (zv O) b (at_ x t).toNat)=x:=e;rw [e']at g1
  exact fun j hj=>(g1 j hj).symm
 ·obtain⟨g1,g2⟩:=ZR s (d:=O.length) (b:=w) (a:=pw (gm O P C) (zv O) b (at_ x t).toNat) (t:=t) (Nat.le_refl _) (by omega) ht (by rw [Nat.sub_self];exact hw) p1
  have e':mu O P C O.length w (pw (gm O P C) (zv O) b (at_ x t).toNat)=x:=e;rw [e',p2,hb1,Int.mul_one,Int.toNat_of_nonneg bx.1,Int.emod_eq_of_lt bx.1 bx.2,zMV]at g2
  exact zEF bx (hw.bd t ht) g2.symm
end
end Go.Grp
namespace Go.Grp
end Go.Grp
namespace Go.Proofs
open Go.Ab Go.Lie Go.Grp
variable {σ:PHeap} {K:PV→PHeap→Prop} {O:List Int} {P:List (List Int)} {C:List (List (List Int))} {vO vP vC vx vy vz vL:PV} {x y z:List Int} {xs:List (List Int)} {d j sp n:Nat}
theorem isExp.gS (h:isExp O x):gS O x:=⟨h.1,fun j hj=>by have:=h.2 j (by rw [h.1];exact hj);omega,fun j hj=>by omega⟩
end Go.Proofs
namespace Go.Grp
open Go.Ab Go.Lie
variable {α:Type} {O:List Int} {P:List (List Int)} {C:List (List (List Int))} {S:α→Prop} {m:α→α→α} {e:α} {h:Nat→α} {t0 d i:Nat}
theorem zEv (s:Shp O P C) (M:Mon S m e) (r:Rel O P C S m e h 0) (hi:i<O.length) {x:List Int} (hx:TT O (i+1) x):
  TT O (i+1) (img O C (mu O P C (O.length-1-i)) i x)∧m (Ph O m e h (O.length-1-i) x) (h i)=m (h i) (Ph O m e h (O.length-1-i) (img O C (mu O P C (O.length-1-i)) i x)):=by
 have e1:O.length-(O.length-1-i)=i+1:=by omega
 have e3:O.length-(i+1)=O.length-1-i:=by omega
 have hS:=r.mem i (Nat.zero_le _) hi;have ih:∀{a b:List Int},TT O (i+1) a→TT O (i+1) b→Ph O m e h (O.length-1-i) (mu O P C (O.length-1-i) a b)=m (Ph O m e h (O.length-1-i) a) (Ph O m e h (O.length-1-i) b):=fun h1 h2=>dyck s M r (by omega) (by rw [e1];exact h1) (by rw [e1];exact h2)
 have cl:∀{a b:List Int},TT O (i+1) a→TT O (i+1) b→TT O (i+1) (mu O P C (O.length-1-i) a b):=fun h1 h2=>by have:=mu_tt s (d:=O.length-1-i) (by omega) (a:=_) (b:=_) (by rw [e1];exact h1) (by rw [e1];exact h2);rw [e1]at this;exact this
 have pin:∀x,S (Ph O m e h (O.length-1-i) x):=fun x=>Ph_in M r (by omega) x
 have hc:∀j,i+1≤j→j<i+1+(O.length-1-i)→TT O (i+1) (cvec C i j):=fun j h1 h2=>s.cj i j (by omega) (by omega)
 have hzz:TT O (i+1) (zv O):=s.zv _;obtain⟨f1,f2⟩:=Ph_fo M (T:=TT O (i+1)) (mm:=mu O P C (O.length-1-i)) (F:=Ph O m e h (O.length-1-i)) (fun a b h1 h2=>⟨cl h1 h2,ih h1 h2⟩) (c:=cvec C i) (x:=nx x) hc hzz
 refine⟨f1,?_⟩;unfold img;rw [f2,Ph_zv M,M.fo_eq (fun j _ _=>pin _) M.one,M.l1 (M.ph fun j _ _=>pin _)]
 show m (ph m e h (nx x) (O.length-(O.length-1-i)) (O.length-1-i)) (h i)=_;rw [e1];refine M.past_ph hS fun j h1 h2=>⟨r.mem j (by omega) (by omega),pin _,?_⟩
 have:=r.cj i j (Nat.zero_le _) (by omega) (by omega)
 rw [e3]at this
 exact this
theorem zOh (s:Shp O P C) (M:Mon S m e) (r:Rel O P C S m e h 0) (hi:i<O.length):∀(k:Nat) {x:List Int},TT O (i+1) x→
  TT O (i+1) (iter (img O C (mu O P C (O.length-1-i)) i) k x)∧m (Ph O m e h (O.length-1-i) x) (pw m e (h i) k)=m (pw m e (h i) k) (Ph O m e h (O.length-1-i) (iter (img O C (mu O P C (O.length-1-i)) i) k x)):=by
 have hS:=r.mem i (Nat.zero_le _) hi;have pin:∀x,S (Ph O m e h (O.length-1-i) x):=fun x=>Ph_in M r (by omega) x
 intro k
 induction k with
 | zero=>exact fun {x} hx=>⟨hx,by show m _ e=m e _;rw [M.r1 (pin x)];exact(M.l1 (pin x)).symm⟩
 | succ k ik=>
  intro x hx;obtain⟨g1,g2⟩:=zEv s M r hi hx;obtain⟨g3,g4⟩:=ik g1;refine⟨g3,?_⟩;show m _ (m (pw m e (h i) k) (h i))=m (m (pw m e (h i) k) (h i)) (Ph O m e h _ (iter _ k (img O C _ i x)));rw [M.pw_comm hS,←M.as (pin _) hS (M.pw hS k),g2,M.as hS (pin _) (M.pw hS k),g4,←M.as hS (M.pw hS k) (pin _)]
theorem Cons.of_rel (s:Shp O P C) (G:Gp S m e) (r:Rel O P C S m e h 0) (inj:∀i,i<O.length→∀x y,TT O (i+1) x→TT O (i+1) y→Ph O m e h (O.length-1-i) x=Ph O m e h (O.length-1-i) y→x=y) (low:∀i j x,i<j→j<O.length→TT O (j+1) x→Ph O m e h (O.length-1-i) x=Ph O m e h (O.length-(j+1)) x) (un:∀i j,i<j→j<O.length→Ph O m e h (O.length-1-i) (unit O j)=h j):Cons O P C:=by
 have M:=G.toMon;intro i hi;have e1:O.length-(O.length-1-i)=i+1:=by omega
 have e3:O.length-(i+1)=O.length-1-i:=by omega
 have hS:=r.mem i (Nat.zero_le _) hi;have pin:∀x,S (Ph O m e h (O.length-1-i) x):=fun x=>Ph_in M r (by omega) x
 have ih:∀{a b:List Int},TT O (i+1) a→TT O (i+1) b→Ph O m e h (O.length-1-i) (mu O P C (O.length-1-i) a b)=m (Ph O m e h (O.length-1-i) a) (Ph O m e h (O.length-1-i) b):=fun h1 h2=>dyck s M r (by omega) (by rw [e1];exact h1) (by rw [e1];exact h2)
 have cl:∀{a b:List Int},TT O (i+1) a→TT O (i+1) b→TT O (i+1) (mu O P C (O.length-1-i) a b):=fun h1 h2=>by have:=mu_tt s (d:=O.length-1-i) (by omega) (a:=_) (b:=_) (by rw [e1];exact h1) (by rw [e1];exact h2);rw [e1]at this;exact this
 have pcj:∀j,i<j→j<O.length→m (h j) (h i)=m (h i) (Ph O m e h (O.length-1-i) (cvec C i j)):=fun j h1 h2=>by have:=r.cj i j (Nat.zero_le _) h1 h2;rw [e3]at this;exact this
 have powh:∀{a:List Int},TT O (i+1) a→∀k,TT O (i+1) (pw (mu O P C (O.length-1-i)) (zv O) a k)∧Ph O m e h (O.length-1-i) (pw (mu O P C (O.length-1-i)) (zv O) a k)=pw m e (Ph O m e h (O.length-1-i) a) k:=fun {a} ha k=>by
  induction k with
  | zero=>exact⟨s.zv _,Ph_zv M _⟩
  | succ k ik=>exact⟨cl ik.1 ha,by show Ph O m e h _ (mu O P C _ (pw _ _ a k) a)=m _ _;rw [ih ik.1 ha,ik.2]⟩
 have cpow:∀j,i<j→j<O.length→∀k,m (pw m e (h j) k) (h i)=m (h i) (pw m e (Ph O m e h (O.length-1-i) (cvec C i j)) k):=fun j h1 h2 k=>by
  have hj:=r.mem j (Nat.zero_le _) h2
  induction k with
  | zero=>show m e (h i)=m (h i) e;rw [M.l1 hS,M.r1 hS]
  | succ k ik=>
   show m (m (pw m e (h j) k) (h j)) (h i)=m (h i) (m (pw m e _ k) _);rw [M.as (M.pw hj k) hj hS,pcj j h1 h2,←M.as (M.pw hj k) hS (pin _),ik,M.as hS (M.pw (pin _) k) (pin _)]
 have ti:∀j,i<j→j<O.length→TT O (i+1) (cvec C i j):=fun j h1 h2=>s.cj i j h1 h2
 have tp:∀j,i≤j→j<O.length→TT O (i+1) (pvec P j):=fun j h1 h2=>(s.pw j h2).mono (by omega)
 refine⟨fun j h1 h2=>?_,fun j k h1 h2 h3=>?_,?_,fun j h1 h2=>?_⟩
 ·obtain⟨a1,a2⟩:=powh (ti j h1 h2) (nx O j)
  obtain⟨b1,b2⟩:=zEv s M r hi (tp j (by omega) h2)
  refine inj i hi _ _ a1 b1 (G.cancel hS (pin _) (pin _) ?_);rw [a2,←cpow j h1 h2,←b2,low i j _ h1 h2 (s.pw j h2),r.pow j (Nat.zero_le _) h2]
 ·have tc:TT O (i+1) (cvec C j k):=(s.cj j k h2 h3).mono (by omega)
  obtain⟨b1,b2⟩:=zEv s M r hi tc;have hj:=r.mem j (Nat.zero_le _) (by omega)
  have hk:=r.mem k (Nat.zero_le _) h3;refine inj i hi _ _ (cl (ti k (by omega) h3) (ti j h1 (by omega))) (cl (ti j h1 (by omega)) b1) (G.cancel hS (pin _) (pin _) ?_)
  rw [ih (ti k (by omega) h3) (ti j h1 (by omega)),ih (ti j h1 (by omega)) b1,←M.as hS (pin _) (pin _),←pcj k (by omega) h3,M.as hk hS (pin _),←pcj j h1 (by omega),←M.as hk hj hS,←M.as hS (pin _) (pin _),←pcj j h1 (by omega),M.as hj hS (pin _),←b2,←M.as hj (pin _) hS,r.cj j k (Nat.zero_le _) h2 h3,low i j _ h1 (by omega) (s.cj j k h2 h3)]
 ·obtain⟨b1,b2⟩:=zEv s M r hi (tp i (Nat.le_refl _) hi)
  have hp:=r.pow i (Nat.zero_le _) hi;rw [e3]at hp
  refine inj i hi _ _ b1 (tp i (Nat.le_refl _) hi) (G.cancel hS (pin _) (pin _) ?_);rw [←b2,←hp,M.pw_comm hS]
 ·obtain⟨b1,b2⟩:=zOh s M r hi (nx O i) (s.unit h2 (by omega):TT O (i+1) (unit O j))
  have hp:=r.pow i (Nat.zero_le _) hi;rw [e3]at hp
  refine inj i hi _ _ (cl (tp i (Nat.le_refl _) hi) b1) (cl (s.unit h2 (by omega)) (tp i (Nat.le_refl _) hi)) ?_
  rw [ih (tp i (Nat.le_refl _) hi) b1,ih (s.unit h2 (by omega)) (tp i (Nat.le_refl _) hi),←hp,b2]
end Go.Grp
namespace Go.Lie
open Go.Ab
variable {p:Int} {n:Nat} {W:List (List Int)}
theorem zJG (o:OkW p n W) {u:List (List Int)} {x:List Int} (hu:Base p n W u) (hx:El p n x):(∀j,at_ (redL p W u x) j=0)↔Gen p n W u (at_ x):=by
 have h1:=zBw o hu.els hx;have hel:=Zh o hu.els hx;constructor
 ·intro h
  refine(zP _).eqv _ _ (Eqv.of_eq fun j=>?_) h1
  rw [h j];omega
 ·intro h
  have h2:Gen p n W u (at_ (redL p W u x)):=(zP _).eqv _ _ (Eqv.of_eq fun j=>by omega) ((zP _).sub h h1)
  rcases Nat.lt_or_ge (dep (redL p W u x)) n with hd|hd
  ·obtain⟨v,hv,e⟩:=Q5 o hu hel h2 hd
   have:=(zAh o hu.led hu.asc hx).1 v hv
   rw [e]at this
   exact absurd this (qc (by rw [hel.1];exact hd))
  ·intro j
   rcases Nat.lt_or_ge j n with g|g
   ·exact zV (by omega)
   ·exact hel.beyond g
end Go.Lie
namespace Go.Lie
open Go.Ab
def digs (P:Nat):Nat→Nat→List Int
 | 0,_=>[]
 | m+1,k=>digs P m (k / P)++[((k % P:Nat):Int)]
theorem zDm (P:Nat):∀(m k:Nat),(digs P m k).length=m
 | 0,k=>rfl
 | m+1,k=>by rw [digs,List.length_append,zDm P m];rfl
theorem zJa {P:Nat} (hP:0<P):∀(m k:Nat),El (P:Int) m (digs P m k)
 | 0,k=>⟨rfl,fun x hx=>by cases hx⟩
 | m+1,k=>by
  refine⟨zDm P _ k,fun x hx=>?_⟩
  rw [digs,List.mem_append,List.mem_singleton]at hx
  rcases hx with hx|rfl
  ·exact(zJa hP m (k / P)).2 x hx
  ·have:=Nat.mod_lt k hP
   omega
end Go.Lie
namespace Go.Lie
open Go.Ab
variable {p:Int} {n:Nat} {W:List (List Int)}
theorem Canon.self {L u:List (List Int)} (c:Canon p n W L u):Canon p n W u u:=⟨c.base,c.red,fun f=>Iff.rfl⟩
theorem Canon.els {L u:List (List Int)} (c:Canon p n W L u):∀v∈u,El p n v:=c.base.els
theorem Canon.len {L u:List (List Int)} (c:Canon p n W L u):u.length≤n:=Z5 (fun v hv=>(c.base.led v hv).2.1) c.base.asc
end Go.Lie
namespace Go.Proofs
open Go.Ab Go.Lie
variable {σ:PHeap} {K:PV→PHeap→Prop} {p p':Int} {n:Nat} {W W':List (List Int)} {B B':List (List (List Int))} {vP vB vP' vB' vL:PV} {s s' j0:Nat} {im:List (List Int)}
theorem zNT {P k0:Nat} (hR:IsR vP vB W B) (hW:W.length=n) (hn:n≤6) (hp:p=(P:Int)) (hP2:2≤P∧P≤7) (hk0:k0≤1000000) (hk:∀v,FI v (digs P n k0)→K v σ):zA Tryz.prog 114 [.agg [.int .i64 p,vP,vB],.int .i64 k0] σ K:=by
 subst hp;have h1:=hR.P.one;have h2:=hR.B.one;refine zA.gh ?_;refine zD mix Tryz.func114 ?_
 conv=>arg 2;cbv
 refine zF rfl ?_;simp only [pwA,seval,-iQ0,h1,h2];refine zBX hR hW (by omega) fun cap hc=>?_
 have ew:IntKind.i64.wrap ((n:Int)-1)=(n:Int)-1:=wrap64 (by omega) (by omega)
 simp only [pwA,seval,-iQ0,ew];refine zG (fun m vs h'=>∃(c kk:Nat) (out:List Int),c≤n∧m=c∧vs=[.int .i64 kk,.ptr σ.next 0,.sl (σ.next+1) 0 n cap,.int .i64 ((c:Int)-1)]∧h'=(σ.new [.int .i64 P,vP,vB]).new (pis out)∧out.length=n∧kk≤k0∧digs P c kk++out.drop c=digs P n k0) n ?_ ?_
 ·refine⟨n,k0,List.replicate n 0,Nat.le_refl _,rfl,rfl,rfl,by simp,Nat.le_refl _,?_⟩
  rw [List.drop_of_length_le (by simp),List.append_nil]
 rintro m vs h' ⟨c,kk,out,hcn,rfl,rfl,rfl,hol,hkk,hd⟩
 rcases Nat.eq_zero_or_pos m with rfl|hpos
 ·simp only [pwA,seval,-iQ0,show ¬((0:Int)≤((0:Nat):Int)-1) by omega]
  have he:out=digs P n k0:=by simpa [digs]using hd
  rw [←he]at hk
  clear he hd;rw [←hol]at hc ⊢
  exact Gh.finF (s:=σ.next+1) ((zC σ _).new _) (by simp only [pwA,seval,-iQ0]) (by omega) (zN _ _) hc.ok fun o1=>hk _ ⟨_,_,rfl⟩
 ·obtain⟨c,rfl⟩:∃c,m=c+1:=⟨m-1,by omega⟩
  have e:((c+1:Nat):Int)-1=(c:Int):=by omega
  have hco:c<out.length:=by omega
  have hcn':c<n:=by omega
  have ew2:IntKind.i64.wrap ((c:Int)-1)=(c:Int)-1:=wrap64 (by omega) (by omega)
  rw [e];have hP0:¬(P:Int)=0:=by omega
  have et:(kk:Int).tmod (P:Int)=((kk % P:Nat):Int):=rfl;have ed:(kk:Int).tdiv (P:Int)=((kk / P:Nat):Int):=rfl;have hdl:kk / P≤kk:=Nat.div_le_self _ _;have ewq:∀q:Nat,q≤kk→IntKind.i64.wrap (q:Int)=(q:Int):=fun q hq=>wrap64 (by omega) (by omega)
  have ewq:=ewq _ hdl;have hco1:c+1≤out.length:=hco;have hset:=zY hco (x:=((kk % P:Nat):Int));simp only [pwA,seval,-iQ0,hP0,et,ed,ewq,hcn',hco1,zK,hset,ew2];refine⟨c,Nat.lt_succ_self c,c,kk / P,out.set c ((kk % P:Nat):Int),by omega,rfl,rfl,rfl,by rw [List.length_set];exact hol,Nat.le_trans hdl hkk,?_⟩
  rw [←hd,digs,List.append_assoc]
  congr 1
  rw [List.drop_eq_getElem_cons (by rw [List.length_set];exact hco),List.getElem_set_self,List.drop_set_of_lt (by omega)]
  rfl
end Go.Proofs
namespace Go.Proofs
open Go.Ab
def if5:IFn:=⟨[0],[(.tmp 2)],(S0 (R0 [0] [tI0 2 false])
 (S0 (.seq (R0 [0,28] [mI0 27 0,C1 28 24 27])
 (.cond (.t 28) (S0 (R0 [2] [tI0 2 true])
 .ret) .skip))
 (S0 (R0 [0,3,4] [mI0 30 0,C1 31 25 30,mI0 29 31,eI0 32 29 0,eI0 33 29 1,eI 3 (.alloc [(.int .i64 0),.nils,.nils]),nI (.store 3 (.t 3) (.t 32)),mI0 4 33])
 (S0 (R0 [0,3,4,5,6] [LI0 35 3,mI0 36 4,C2 37 23 35 36,mI0 34 37,eI0 38 34 0,eI0 39 34 1,mI0 5 38,mI0 6 39])
 (S0 (R0 [0,3,4,5,6,7,8] [LI0 41 3,mI0 42 4,C2 43 22 41 42,mI0 40 43,eI0 44 40 0,eI0 45 40 1,mI0 7 44,mI0 8 45])
 (S0 (.seq (R0 [0,3,4,6,7,54] [mI0 46 6,mI0 47 8,bI0 48 .neq 46 47,mI0 49 48,⟨(some 50),.mv (.t 5),true,(some (49,false))⟩,⟨(some 51),.mv (.t 7),true,(some (49,false))⟩,⟨(some 52),.call 26 [(.t 50),(.t 51)],false,(some (49,false))⟩,⟨(some 53),.un .not (.t 52),true,(some (49,false))⟩,qI 54 (.pick (.t 49) (.c (.bool true)) (.t 53))])
 (.cond (.t 54) (S0 (R0 [2] [tI0 2 false])
 .ret) .skip))
 (S0 (.seq (R0 [0,3,4,7,56] [mI0 55 6,cI0 56 .neq 55 0])
 (.cond (.t 56) (S0 (R0 [2] [tI0 2 true])
 .ret) .skip))
 (S0 (R0 [0,3,4,7,9,10] [LI0 58 3,mI0 59 7,C2 60 27 58 59,mI0 57 60,eI0 61 57 0,eI0 62 57 1,mI0 9 61,mI0 10 62])
 (S0 (R0 [0,3,4,7,9,10,11,12] [LI0 64 3,mI0 65 7,C2 66 16 64 65,mI0 63 66,eI0 67 63 0,eI0 68 63 1,mI0 11 67,mI0 12 68])
 (S0 (.seq (R0 [0,3,4,7,91] [mI0 69 10,cI0 70 .neq 69 0,mI0 71 70,⟨(some 72),.mv (.t 9),true,(some (71,false))⟩,⟨(some 73),.un .not (.t 72),true,(some (71,false))⟩,qI 74 (.pick (.t 71) (.c (.bool true)) (.t 73)),mI0 75 74,⟨(some 76),.mv (.t 12),true,(some (75,false))⟩,⟨(some 77),.bin .neq .other (.t 76) (.c (.int .i64 0)),true,(some (75,false))⟩,qI 78 (.pick (.t 75) (.c (.bool true)) (.t 77)),mI0 79 78,⟨(some 80),.mv (.t 11),true,(some (79,false))⟩,⟨(some 81),.mv (.t 4),true,(some (79,false))⟩,⟨(some 82),.call 26 [(.t 80),(.t 81)],false,(some (79,false))⟩,⟨(some 83),.un .not (.t 82),true,(some (79,false))⟩,qI 84 (.pick (.t 79) (.c (.bool true)) (.t 83)),mI0 85 84,⟨(some 86),.mv (.t 7),true,(some (85,false))⟩,⟨(some 87),.len (.t 86),true,(some (85,false))⟩,⟨(some 88),.mv (.t 4),true,(some (85,false))⟩,⟨(some 89),.len (.t 88),true,(some (85,false))⟩,⟨(some 90),.bin .neq .other (.t 87) (.t 89),true,(some (85,false))⟩,qI 91 (.pick (.t 85) (.c (.bool true)) (.t 90))])
 (.cond (.t 91) (S0 (R0 [2] [tI0 2 false])
 .ret) .skip))
 (S0 (R0 [0,3,4,7,13] [LI0 93 3,C1 94 28 93,mI0 92 94,eI0 95 92 0,eI0 96 92 1,eI 13 (.alloc [.nils,.nils,.nils]),nI (.store 3 (.t 13) (.t 95)),mI0 14 96])
 (S0 (R0 [3,4,7,13,15] [mI0 97 0,eI 98 (.call 29 [(.t 97),(.c (.int .u64 3402))]),mI0 15 98])
 (S0 (.seq (R0 [3,4,7,13,15,16] [kI0 16 0])
 (.block 0 (.loop [3,4,7,13,15,16] (S0 (.seq (R0 [3,4,7,13,15,16,100] [mI0 99 16,cI0 100 .lss 99 6])
 (.cond (.t 100) .skip (.exit 0)))
 (S0 (.block 1 (S0 (R0 [3,4,7,13,15,16,17] [eI 103 (.buildSl 1 0 [(.int .i64 0)] []),mI0 17 103])
 (S0 (.seq (R0 [3,4,7,13,15,16,17,18] [kI0 18 0])
 (.block 2 (.loop [3,4,7,13,15,16,17,18] (S0 (.seq (R0 [3,4,7,13,15,16,17,18,108] [mI0 104 18,fI0 105 1 3,lI0 106 105,sI0 107 106,bI0 108 .lss 104 107])
 (.cond (.t 108) .skip (.exit 2)))
 (S0 (.block 3 (R0 [3,4,7,13,15,16,17,18] [mI0 111 17,mI0 112 15,fI0 113 0 3,lI0 114 113,C2 115 30 112 114,eI 116 (.buildSl 1 1 [(.int .i64 0)] [(0,1,(.t 115))]),eI 117 (.append 1 8 (.t 111) (.t 116)),mI0 17 117]))
 (R0 [3,4,7,13,15,16,17,18] [mI0 109 18,cI0 110 .add 109 1,mI0 18 110]))))))
 (S0 (R0 [3,4,7,13,15,16,17,19,20] [LI0 119 3,mI0 120 17,C2 121 31 119 120,mI0 118 121,eI0 122 118 0,eI0 123 118 1,mI0 19 122,mI0 20 123])
 (S0 (R0 [3,4,7,13,15,16,17,19,20,21] [LI0 125 3,mI0 126 17,C2 127 32 125 126,mI0 124 127,eI0 128 124 0,eI0 129 124 1,mI0 21 128,mI0 22 129])
 (S0 (R0 [3,4,7,13,15,16,19,20,21,23,24] [LI0 131 3,mI0 132 7,mI0 133 17,C3 134 33 131 132 133,mI0 130 134,eI0 135 130 0,eI0 136 130 1,mI0 23 135,mI0 24 136])
 (S0 (R0 [3,4,7,13,15,16,19,20,21,23,24,25,26] [LI0 138 13,mI0 139 4,mI0 140 21,C3 141 34 138 139 140,mI0 137 141,eI0 142 137 0,eI0 143 137 1,mI0 25 142,mI0 26 143])
 (S0 (R0 [3,4,7,13,15,16,164] [mI0 144 20,cI0 145 .neq 144 0,mI0 146 145,⟨(some 147),.mv (.t 19),true,(some (146,false))⟩,⟨(some 148),.mv (.t 21),true,(some (146,false))⟩,⟨(some 149),.call 35 [(.t 147),(.t 148)],false,(some (146,false))⟩,⟨(some 150),.un .not (.t 149),true,(some (146,false))⟩,qI 151 (.pick (.t 146) (.c (.bool true)) (.t 150)),mI0 152 151,⟨(some 153),.mv (.t 24),true,(some (152,false))⟩,⟨(some 154),.bin .neq .other (.t 153) (.c (.int .i64 0)),true,(some (152,false))⟩,qI 155 (.pick (.t 152) (.c (.bool true)) (.t 154)),mI0 156 155,⟨(some 157),.mv (.t 26),true,(some (156,false))⟩,⟨(some 158),.bin .neq .other (.t 157) (.c (.int .i64 0)),true,(some (156,false))⟩,qI 159 (.pick (.t 156) (.c (.bool true)) (.t 158)),mI0 160 159,⟨(some 161),.mv (.t 23),true,(some (160,false))⟩,⟨(some 162),.mv (.t 25),true,(some (160,false))⟩,⟨(some 163),.bin .neq .bool (.t 161) (.t 162),true,(some (160,false))⟩,qI 164 (.pick (.t 160) (.c (.bool true)) (.t 163))])
 (.cond (.t 164) (S0 (R0 [2] [tI0 2 false])
 .ret) .skip)))))))))
 (R0 [3,4,7,13,15,16] [mI0 101 16,cI0 102 .add 101 1,mI0 16 102]))))))
 (S0 (R0 [2] [tI0 2 true])
 .ret))))))))))))))⟩
theorem cf5:cF Tryz.prog Tryz.f5=some if5:=by kernel_rfl
end Go.Proofs
namespace Go.Proofs.YtgkbfiilhocioaaGreat
open Go.ChangeShapes Go.WideShapes Go.ChangeAt Go.RowKit Go.Ab Go.Joins Go.Lie Go.Proofs
theorem own:ownKnob Tryz.prog.godebug=none:=by kernel_rfl
theorem laidOut:laidOutB Tryz.prog=true:=by kernel_rfl
variable {H:Type} {enc:TypeId×Value→H} {W w0:World} {j:Inj} {h:AHeap}
end Go.Proofs.YtgkbfiilhocioaaGreat
