/- What a law is handed, laid as frozen values: Lie rings, lists of elements. -/
import Derived.Test.YtgkbfiilhocioaaGreatBP32
import Derived.Test.YtgkbfiilhocioaaGreatBP28
import Derived.Test.YtgkbfiilhocioaaGreatBP27
import Derived.Test.YtgkbfiilhocioaaGreatBAbPt
import Derived.Test.YtgkbfiilhocioaaGreatChecked
import Derived.Test.YtgkbfiilhocioaaGreatRows
import Derived.Lib.SmallJoins
import Derived.WalkKit
import Derived.ProofKit
open Int renaming reduceNatCast'→iQ0
set_option maxRecDepth 100000
set_option linter.unusedSimpArgs false
set_option linter.unusedVariables false
namespace Go.Proofs
open Go.Ab Go.Lie
variable {σ:PHeap} {K:PV→PHeap→Prop} {p p':Int} {n:Nat} {W:List (List Int)} {B:List (List (List Int))} {vP vB vL vU vV:PV} {s:Nat}
theorem zBe:∀n:Nat,ipow p n=pw_ p n
 | 0=>rfl
 | n+1=>by rw [ipow,pw_,zBe n,Int.mul_comm]
def Cop (p k:Int):Prop:=∃e t:Int,k*e=1+p*t
structure DivL (p:Int) (n:Nat) (W:List (List Int)) (k:Int) (x z:List Int):Prop where
 el:El p n z
 nil:isZ x→z=x
 eqv:Cop p k→Eqv p n W (fun j=>k*at_ z j) (at_ x)
theorem zAk {k:Int} (h:Cop p k) (hn:0<n):∃z w:Int,k*z=1+w*pw_ p n:=by
 obtain⟨e,t,h⟩:=h;obtain⟨f,s,g⟩:=zFb (p:=p) t n hn;exact⟨e*f,s,by grind⟩
theorem DivL.unique (o:OkW p n W) {k:Int} {x z z':List Int} (hx:El p n x) (h:DivL p n W k x z) (h':DivL p n W k x z') (hk:isZ x∨Cop p k):z=z':=by
 rcases hk with hk|hk
 ·rw [h.nil hk,h'.nil hk]
 ·rcases Nat.eq_zero_or_pos n with hn | hn
  ·have e1:=h.el.1
   have e2:=h'.el.1;rw [List.eq_nil_of_length_eq_zero (e1.trans hn),List.eq_nil_of_length_eq_zero (e2.trans hn)]
  ·obtain⟨a,w,ha⟩:=zAk (p:=p) hk hn
   have e:Eqv p n W (fun j=>k*at_ z j) (fun j=>k*at_ z' j):=(h.eqv hk).trans (h'.eqv hk).symm
   have e2:=e.mul a;have one:∀{v:List Int},El p n v→Eqv p n W (fun j=>a*(k*at_ v j)) (at_ v):=fun {v} hv=>by
    have k1:=(QX o (f:=at_ v) (fun j hj=>hv.beyond hj)).mul w
    have k2:=(Eqv.refl (p:=p) (n:=n) (W:=W) (at_ v)).add k1;exact((Eqv.of_eq fun j=>by grind).trans k2).trans (Eqv.of_eq fun j=>by omega)
   exact qJ o h.el.1 h'.el.1 h.el.2 h'.el.2 (((one h.el).symm.trans e2).trans (one h'.el))
theorem DivL.mk' (o:OkW p n W) {k y m:Int} {x:List Int} (hx:El p n x) (hz:¬isZ x) (hm:Eqv p n W (fun j=>m*at_ x j) fun _=>0) (hy:Cop p k→∃t,k*y=1+t*m):DivL p n W k x (lmul p W y x) where
 el:=(Zh o hx y).1
 nil:=fun h=>absurd h hz
 eqv:=fun hk=>by
  obtain⟨t,ht⟩:=hy hk;have k1:=(Zh o hx y).2.mul k;have k2:=(Eqv.refl (p:=p) (n:=n) (W:=W) (at_ x)).add (hm.mul t);exact(k1.trans (Eqv.of_eq fun j=>by grind)).trans (k2.trans (Eqv.of_eq fun j=>by omega))
end Go.Proofs
namespace Go.Proofs
open Go.Ab Go.Lie
variable {σ:PHeap} {K:PV→PHeap→Prop} {p p':Int} {n:Nat} {W:List (List Int)} {B:List (List (List Int))} {vP vB vL vU vV:PV} {s:Nat}
theorem zGp (hp:okp p):∀k:Nat,1≤pw_ p k
 | 0=>by simp [pw_]
 | k+1=>by
  have h:=zGp hp k
  have:=Int.mul_le_mul_of_nonneg_right (show(1:Int)≤p by have:=hp.1;omega) (show 0≤pw_ p k by omega)
  rw [pw_];omega
theorem zC5 (hp:okp p) {j:Nat}:∀{k:Nat},j≤k→pw_ p j≤pw_ p k
 | 0,h=>by
   have:j=0:=by omega
   subst this;exact Int.le_refl _
 | k+1,h=>by
  by_cases e:j=k+1
  ·subst e;exact Int.le_refl _
  ·have h1:=zC5 hp (j:=j) (k:=k) (by omega)
   have h2:=zGp hp k
   have:=Int.mul_le_mul_of_nonneg_right (show(1:Int)≤p by have:=hp.1;omega) (show 0≤pw_ p k by omega)
   have e2:pw_ p (k+1)=p*pw_ p k:=rfl;omega
theorem zIp {l:Nat} {w:Bool} {av:AV} {x:List Int} (hR:IsR vP vB W B) (o:OkW p n W) (hpow:ipow p n≤729) (hx:El p n x) (hl:l=x.length)
  (hk:∀j,j≤n→Eqv p n W (fun i=>pw_ p j*at_ x i) (fun _=>0)→K (.int .i64 (pw_ p j)) σ):zA Tryz.prog 320 [.agg [.int .i64 p,vP,vB],.fz w av l (pis x)] σ K:=by
 have h1:=hR.P.one;have h2:=hR.B.one;have hn6:=o.le;have hpr:=o.pr;have hpb:=hpr;unfold okp at hpb
 have hxl:=hx.1;subst hl;refine zA.gh ?_;refine zC mix Tryz.func320 ?_
 conv=>arg 2;cbv
 refine zF rfl ?_;simp only [pwA,seval,-iQ0,h1,h2];generalize hH:σ.new [.int .i64 p,vP,vB]=H;have hHk:Keep σ H:=by rw [←hH];exact zD σ _
 have hb3:H.rd σ.next 0 3=some [.int .i64 p,vP,vB]:=by rw [←hH];simp only [pwA,seval,-iQ0]
 have hb1:H.rd1 σ.next 0=some (.int .i64 p):=by rw [←hH];simp only [pwA,seval,-iQ0]
 refine zG (fun m vs h'=>∃(j:Nat) (y:List Int) (wy:Bool) (vy:AV),m=n-dep y∧j≤dep y∧vs=[.fz wy vy n (pis y),.ptr σ.next 0,.int .i64 (pw_ p j)]∧H=h'∧El p n y∧Eqv p n W (at_ y) fun i=>pw_ p j*at_ x i) (n-dep x) ?_ ?_
 ·exact⟨0,x,w,av,rfl,by omega,by rw [hxl];rfl,rfl,hx,Eqv.of_eq fun i=>by simp [pw_]⟩
 rintro m vs h' ⟨j,y,wy,vy,rfl,hj,rfl,rfl,hy,he⟩
 have hyl:=hy.1;have hdl:=QB y;simp only [pwA,seval,-iQ0];refine zAZ hyl.symm (by omega) ?_
 by_cases hz:isZ y
 ·simp only [pwA,seval,-iQ0,hz,decide_true]
  refine Gh.fin0 hHk trivial (hk j (by omega) (he.symm.trans (Eqv.of_eq fun i=>ZW hz i)))
 ·have hd:dep y<n:=by have:=zBQ hz;omega
  have hj1:pw_ p (j+1)≤pw_ p n:=zC5 hpr (by omega)
  have hj0:=zGp hpr (j+1);rw [zBe]at hpow
  have hc:pw_ p j*p=pw_ p (j+1):=by rw [pw_,Int.mul_comm]
  have hw:IntKind.i64.wrap (pw_ p j*p)=pw_ p (j+1):=by rw [hc];exact wrap64 (by omega) (by omega)
  simp only [pwA,seval,-iQ0,hz,decide_false,hb3,hb1];refine qN hR o hy hy hyl.symm hyl.symm (by omega) (by decide) fun v1=>?_
  have hdep:=zGv o hy hd;obtain⟨z1,z2⟩:=Zh o hy p;simp only [pwA,seval,-iQ0,hb1,hw];refine⟨_,?_,j+1,_,true,v1,rfl,by omega,rfl,z1,(z2.trans (he.mul p)).trans (Eqv.of_eq fun i=>by rw [←hc];grind)⟩
  omega
end Go.Proofs
namespace Go.Proofs
open Go.Ab Go.Lie
variable {σ:PHeap} {K:PV→PHeap→Prop} {p p':Int} {n:Nat} {W:List (List Int)} {B:List (List (List Int))} {vP vB vL vU vV:PV} {s:Nat}
theorem zEi {l:Nat} {w:Bool} {av:AV} {k:Int} {x:List Int} (hR:IsR vP vB W B) (o:OkW p n W) (hpow:ipow p n≤729) (hx:El p n x) (hl:l=x.length)
  (hk:∀w v z,DivL p n W k x z→K (.fz w v n (pis z)) σ):zA Tryz.prog 293 [.agg [.int .i64 p,vP,vB],.fz w av l (pis x),.int .i64 k] σ K:=by
 have h1:=hR.P.one;have h2:=hR.B.one;have hn6:=o.le;have hpr:=o.pr;have hxl:=hx.1;subst hl;refine zA.gh ?_;refine zC mix Tryz.func293 ?_
 conv=>arg 2;cbv
 refine zF rfl ?_;simp only [pwA,seval,-iQ0,h1,h2];generalize hH:σ.new [.int .i64 p,vP,vB]=H;have hHk:Keep σ H:=by rw [←hH];exact zD σ _
 have hb3:H.rd σ.next 0 3=some [.int .i64 p,vP,vB]:=by rw [←hH];simp only [pwA,seval,-iQ0]
 refine zAZ rfl (by omega) ?_
 by_cases hz:isZ x
 ·simp only [pwA,seval,-iQ0,hz,decide_true]
  refine Gh.fin0 hHk trivial ?_;rw [hxl];exact hk _ _ x ⟨hx,fun _=>rfl,fun _=>Eqv.of_eq fun j=>by rw [ZW hz,Int.mul_zero]⟩
 ·have hdx:dep x<n:=by have:=zBQ hz;omega
  simp only [pwA,seval,-iQ0,hz,decide_false,hb3];refine zIp hR o hpow hx rfl fun j hj he=>?_
  have hj0:j≠0:=fun e=>by
   subst e;have e0:Eqv p n W (at_ x) fun _=>0:=(Eqv.of_eq fun i=>by simp [pw_]).trans he
   have:=zD8 o hx e0 (Nat.le_refl n) (fun _ _=>rfl) (dep x) hdx
   exact ZJ (by omega) this
  have hm1:pw_ p j≤pw_ p n:=zC5 hpr hj;have hm2:pw_ p 1≤pw_ p j:=zC5 hpr (by omega)
  have hm3:pw_ p 1=p:=by simp [pw_]
  rw [zBe]at hpow
  have hp2:=hpr.1;generalize hm:pw_ p j=m at *
  simp only [pwA,seval,-iQ0];refine zG (fun q vs h'=>∃y:Int,q=(m-y).toNat∧1≤y∧y≤m∧vs=[.fz w av x.length (pis x),.int .i64 k,.ptr σ.next 0,.int .i64 m,.int .i64 y]∧H=h'∧∀y',1≤y'→y'<y→k % m*y' % m≠1) (m-1).toNat ?_ ?_
  ·exact⟨1,rfl,by omega,by omega,rfl,rfl,fun y' _ _=>by omega⟩
  rintro q vs h' ⟨y,rfl,hy1,hym,rfl,rfl,hall⟩
  have em1:=Int.emod_nonneg k (show m≠0 by omega)
  have em2:=Int.emod_lt_of_pos k (show 0<m by omega)
  have em:=Int.mul_ediv_add_emod k m;have fin:(Cop p k→∃t,k*y=1+t*m)→∀v,Gh σ K (.fz true v n (pis (lmul p W y x))) H:=fun h v=>Gh.fin0 hHk trivial (hk _ v _ (DivL.mk' o hx hz he h))
  by_cases hlt:y<m
  ·have hb:0≤k % m*y∧k % m*y≤531441:=by
    have a1:=Int.mul_le_mul (show k % m≤729 by omega) (show y≤729 by omega) (by omega) (by omega)
    have a2:=Int.mul_nonneg em1 (show 0≤y by omega)
    omega
   simp only [pwA,seval,-iQ0,hlt,decide_true];refine zFv (by omega) (by omega) ?_
   have hmne:m≠0:=by omega
   have ht:(k % m*y).tmod m=k % m*y % m:=Int.tmod_eq_emod_of_nonneg hb.1
   by_cases h1:k % m*y % m=1
   ·simp only [pwA,seval,-iQ0,hlt,hmne,wrap64 (n:=k % m*y) (by omega) (by omega),ht,h1,hb3]
    refine qN hR o hx hx rfl rfl (by omega) (by decide) fun v1=>?_
    simp only [pwA,seval,-iQ0];refine fin (fun _=>?_) v1
    have e:=Int.mul_ediv_add_emod (k % m*y) m;exact⟨k % m*y / m+k / m*y,by grind⟩
   ·simp only [pwA,seval,-iQ0,hlt,hmne,wrap64 (n:=k % m*y) (by omega) (by omega),ht,h1,wrap64 (n:=y+1) (by omega) (by omega)]
    refine⟨_,?_,y+1,rfl,by omega,by omega,rfl,fun y' h2 h3=>?_⟩
    ·omega
    ·by_cases e:y'=y
     ·subst e;exact h1
     ·exact hall y' h2 (by omega)
  ·have hye:y=m:=by omega
   simp only [pwA,seval,-iQ0,hlt,decide_false,hb3];refine qN hR o hx hx rfl rfl (by omega) (by decide) fun v1=>?_
   simp only [pwA,seval,-iQ0];refine fin (fun hc=>?_) v1
   exfalso
   obtain⟨z,w',hzw⟩:=zAk (p:=p) hc (show 0<j by omega)
   rw [hm]at hzw
   have f1:=Int.emod_nonneg z (show m≠0 by omega)
   have f2:=Int.emod_lt_of_pos z (show 0<m by omega)
   have f3:=Int.mul_ediv_add_emod z m;have hone:k % m*(z % m) % m=1:=by
    have e1:k % m*(z % m)=1+(w'-k / m*z-k % m*(z / m))*m:=by grind
    rw [e1,Int.add_mul_emod_self_right];exact Int.emod_eq_of_lt (by omega) (by omega)
   have hz0:z % m≠0:=fun e=>by
    rw [e,Int.mul_zero,Int.zero_emod]at hone
    omega
   exact hall (z % m) (by omega) (by omega) hone
end Go.Proofs
namespace Go.Proofs
open Go.Ab Go.Lie
variable {σ:PHeap} {K:PV→PHeap→Prop} {p p':Int} {n:Nat} {W:List (List Int)} {B:List (List (List Int))} {vP vB vL vU vV:PV} {s:Nat}
def CodeL (p:Int) (W:List (List Int)) (B:List (List (List Int))) (xs:List (List Int)) (c:Int):Prop:=
 (¬(isLie p W B∧Els p W.length xs)∧c=1)∨((isLie p W B∧Els p W.length xs)∧¬isLz p W.length W B∧c=5)∨((isLie p W B∧Els p W.length xs)∧isLz p W.length W B∧c=0)
theorem CodeL.unique {xs:List (List Int)} {c d:Int} (h:CodeL p W B xs c) (g:CodeL p W B xs d):c=d:=by
 rcases h with ⟨h1,h2⟩|⟨h1,h2,h3⟩|⟨h1,h2,h3⟩<;>rcases g with ⟨g1,g2⟩|⟨g1,g2,g3⟩|⟨g1,g2,g3⟩<;>first|omega|exact absurd g1 h1|exact absurd h1 g1|exact absurd g2 h2|exact absurd h2 g2
theorem QT {xs:List (List Int)} (hs:PtrR σ s p vP vB) (hR:IsR vP vB W B) (szr:SzR W B) (hL:FII vL xs) (sz:SzL xs) (hk:∀c:Int,CodeL p W B xs c→K (.int .i64 c) σ):zA Tryz.prog 106 [.ptr s 0,vL] σ K:=by
 have hLL:=hL;obtain⟨wl,al,rl,rfl,hrl⟩:=hL;refine zC mix Tryz.func106 ?_
 conv=>arg 2;cbv
 refine zF rfl ?_;simp only [pwA,seval,-iQ0];refine zBb hs hR szr hLL sz fun t ht=>?_
 cases t
 ·simp only [pwA,seval,-iQ0]
  exact hk 1 (.inl ⟨fun h=>(by have:=ht.2 h;simp at this),rfl⟩)
 ·have hl:=ht.1 rfl
  simp only [pwA,seval,-iQ0];refine zIy hs hR hl.1.1.w hl.1.1.b hl.1.1.1 fun t ht=>?_
  cases t
  ·simp only [pwA,seval,-iQ0]
   exact hk 5 (.inr (.inl ⟨hl,fun h=>(by have:=ht.2 h;simp at this),rfl⟩))
  ·simp only [pwA,seval,-iQ0]
   exact hk 0 (.inr (.inr ⟨hl,ht.1 rfl,rfl⟩))
theorem zB1 {xs:List (List Int)} (hR:IsR vP vB W B) (szr:SzR W B) (hL:FII vL xs) (sz:SzL xs) (hk:∀c:Int,CodeL p W B xs c→K (.int .i64 c) σ):zA Tryz.prog 102 [.agg [.int .i64 p,vP,vB],vL] σ K:=by
 have h1:=hR.P.one;have h2:=hR.B.one;have hLL:=hL;obtain⟨wl,al,rl,rfl,hrl⟩:=hL;refine zA.gh ?_;refine zC mix Tryz.func102 ?_
 conv=>arg 2;cbv
 refine zF rfl ?_;simp only [pwA,seval,-iQ0,h1,h2];refine zKR hR szr fun t ht=>?_
 cases t
 ·simp only [pwA,seval,-iQ0]
  exact Gh.fin0 (zD σ _) trivial (hk 1 (.inl ⟨fun h=>(by have:=ht.2 h.1;simp at this),rfl⟩))
 ·have hl:=ht.1 rfl
  simp only [pwA,seval,-iQ0,h1,h2];refine zFZ hR hLL sz hl.1.1.bd fun t ht=>?_
  cases t
  ·simp only [pwA,seval,-iQ0]
   exact Gh.fin0 (zD σ _) trivial (hk 1 (.inl ⟨fun h=>(by have:=ht.2 h.2;simp at this),rfl⟩))
  ·have he:=ht.1 rfl
   simp only [pwA,seval,-iQ0,h1,h2];refine zHF hR hl.1.w hl.1.b hl.1.1 fun t ht=>?_
   cases t
   ·simp only [pwA,seval,-iQ0]
    exact Gh.fin0 (zD σ _) trivial (hk 5 (.inr (.inl ⟨⟨hl,he⟩,fun h=>(by have:=ht.2 h;simp at this),rfl⟩)))
   ·simp only [pwA,seval,-iQ0]
    exact Gh.fin0 (zD σ _) trivial (hk 0 (.inr (.inr ⟨⟨hl,he⟩,ht.1 rfl,rfl⟩)))
end Go.Proofs
namespace Go.Proofs
open Go.Ab Go.Lie
variable {p:Int} {n:Nat} {W:List (List Int)} {B:List (List (List Int))}
def brv (B:List (List (List Int))) (n:Nat) (f g:Vec):Vec:=fun t=>sumN n fun i=>sumN (n-1-i) fun j=>(f i*g (i+1+j)-f (i+1+j)*g i)*at_ ((B.getD i []).getD j []) t
theorem zEA (q:OkB p n B) (a b:List Int) (t:Nat):at_ (bsum B a b n) t=brv B n (at_ a) (at_ b) t:=bi_at q t (Nat.le_refl _)
theorem Zk (f f' g:Vec) (t:Nat):brv B n (fun j=>f j+f' j) g t=brv B n f g t+brv B n f' g t:=by
 simp only [brv];rw [←Z7];refine qE fun i _=>?_
 rw [←Z7];refine qE fun j _=>?_
 grind
theorem qL (k:Int) (f g:Vec) (t:Nat):brv B n (fun j=>k*f j) g t=k*brv B n f g t:=by
 simp only [brv];rw [←ZN];refine qE fun i _=>?_
 rw [←ZN];refine qE fun j _=>?_
 grind
theorem zV (f g:Vec) (t:Nat):brv B n f g t=-1*brv B n g f t:=by
 simp only [brv];rw [←ZN];refine qE fun i _=>?_
 rw [←ZN];refine qE fun j _=>?_
 grind
theorem zAS {f f' g g':Vec} (h:∀j,j<n→f j=f' j) (h':∀j,j<n→g j=g' j) (t:Nat):brv B n f g t=brv B n f' g' t:=by
 simp only [brv];refine qE fun i hi=>qE fun j hj=>?_
 rw [h i hi,h _ (by omega:i+1+j<n),h' i hi,h' _ (by omega:i+1+j<n)]
theorem zAl (g:Vec) (t:Nat):∀(m:Nat) (F:Nat→Vec),brv B n (fun j=>sumN m fun k=>F k j) g t=sumN m fun k=>brv B n (F k) g t
 | 0,F=>by
  simp only [sumN]
  have:=qL (B:=B) (n:=n) 0 (fun _=>0) g t
  simpa using this
 | m+1,F=>by
  simp only [sumN];rw [Zk,zAl g t m F]
end Go.Proofs
namespace Go.Proofs
open Go.Ab Go.Lie
variable {p:Int} {n:Nat} {W:List (List Int)} {B:List (List (List Int))}
theorem zB6:∀(m:Nat) (F:Nat→Vec),(∀k,k<m→Eqv p n W (F k) fun _=>0)→Eqv p n W (fun j=>sumN m fun k=>F k j) fun _=>0
 | 0,F,_=>Eqv.of_eq fun j=>rfl
 | m+1,F,h=>((zB6 m F fun k hk=>h k (by omega)).add (h m (by omega))).trans (Eqv.of_eq fun j=>rfl)
theorem qK {j i:Nat} (hj:j<n):at_ (unitL n j) i=if i=j then 1 else 0:=by
 rw [unitL,at_set (by simpa using hj),zm]
theorem zFA (g:Vec) {i:Nat} (hi:i<n):g i=sumN n fun k=>g k*at_ (unitL n k) i:=by
 rw [Q3 hi fun k hk hne=>by rw [qK hk,if_neg (fun e=>hne e.symm),Int.mul_zero]]
 rw [qK hi,if_pos rfl,Int.mul_one]
theorem zOl (o:OkW p n W) (q:OkB p n B) (nf:qx p W B n) {i:Nat} (hi:i<n) (g:Vec):Eqv p n W (brv B n (rel p W i) g) fun _=>0:=by
 have one:∀j,j<n→Eqv p n W (brv B n (rel p W i) (at_ (unitL n j))) fun _=>0:=fun j hj=>by
  have hF:=nf.1 i j hi hj;unfold F1 at hF
  have ha:=(Zh o (br_el o q (a:=unitL n i) (b:=unitL n j)) p).2;have hb:Eqv p n W (at_ (br p W B n (unitL n i) (unitL n j))) (at_ (bsum B (unitL n i) (unitL n j) n)):=qO o (qa q);have hc:Eqv p n W (at_ (br p W B n (W.getD i []) (unitL n j))) (at_ (bsum B (W.getD i []) (unitL n j) n)):=qO o (qa q);rw [←hF]at hc
  have hd:Eqv p n W (fun t=>p*at_ (bsum B (unitL n i) (unitL n j) n) t) (at_ (bsum B (W.getD i []) (unitL n j) n)):=((hb.mul p).symm.trans ha.symm).trans hc
  have he:=hd.symm.add (Eqv.refl (p:=p) (n:=n) (W:=W) fun t=>-1*(p*at_ (bsum B (unitL n i) (unitL n j) n) t))
  refine(Eqv.of_eq fun t=>?_).trans (he.trans (Eqv.of_eq fun t=>by grind))
  rw [zEA q,zEA q,←qL,←qL,←Zk];refine zAS (fun k hk=>?_) (fun _ _=>rfl) t
  rw [qK hi,rel]
  by_cases e:k=i
  ·rw [if_pos e,if_pos e];grind
  ·rw [if_neg e,if_neg e];grind
 refine(Eqv.of_eq fun t=>?_).trans (zB6 n (fun k t=>g k*brv B n (rel p W i) (at_ (unitL n k)) t) fun k hk=>((one k hk).mul (g k)).trans (Eqv.of_eq fun t=>by grind))
 rw [zV,zAS (f':=fun j=>sumN n fun k=>g k*at_ (unitL n k) j) (g':=rel p W i) (fun j hj=>zFA g hj) (fun _ _=>rfl),zAl (t:=t) (g:=rel p W i) n (fun k j=>g k*at_ (unitL n k) j),←ZN]
 refine qE fun k hk=>?_
 rw [qL,zV (f:=at_ (unitL n k))]
 grind
theorem zAm (o:OkW p n W) (q:OkB p n B) (nf:qx p W B n) {f f':Vec} (g:Vec) (h:Eqv p n W f f'):Eqv p n W (brv B n f g) (brv B n f' g):=by
 obtain⟨c,hc⟩:=h;have h0:=zB6 n (fun i t=>c i*brv B n (rel p W i) g t) fun k hk=>((zOl o q nf hk g).mul (c k)).trans (Eqv.of_eq fun t=>by grind)
 refine(Eqv.of_eq fun t=>?_).trans (((Eqv.refl (brv B n f' g)).add h0).trans (Eqv.of_eq fun t=>by grind))
 rw [zAS (f':=fun j=>f' j+sumN n fun i=>c i*rel p W i j) (g':=g) (fun j _=>hc j) (fun _ _=>rfl),Zk,zAl (t:=t) (g:=g) n (fun i j=>c i*rel p W i j)]
 congr 1
 exact qE fun k hk=>by rw [qL]
theorem zHq (o:OkW p n W) (q:OkB p n B) (nf:qx p W B n) {g g':Vec} (f:Vec) (h:Eqv p n W g g'):Eqv p n W (brv B n f g) (brv B n f g'):=
 ((Eqv.of_eq fun t=>zV f g t).trans ((zAm o q nf f h).mul (-1))).trans (Eqv.of_eq fun t=>(zV f g' t).symm)
end Go.Proofs
namespace Go.Proofs
open Go.Ab Go.Lie
variable {p:Int} {n:Nat} {W:List (List Int)} {B:List (List (List Int))}
theorem Zl (o:OkW p n W) (q:OkB p n B) (a b:List Int):Eqv p n W (at_ (br p W B n a b)) (brv B n (at_ a) (at_ b)):=
 (qO o (qa q)).trans (Eqv.of_eq fun t=>zEA q a b t)
theorem qP (o:OkW p n W) {x:List Int} (hx:El p n x) (k:Int):Eqv p n W (at_ (lmul p W k x)) fun j=>k*at_ x j:=(Zh o hx k).2
theorem ql (o:OkW p n W) {x y:List Int} (hx:El p n x) (hy:El p n y):Eqv p n W (at_ (ladd p W x y)) fun j=>at_ x j+at_ y j:=
 (qO o (by rw [zQ (hx.1.trans hy.1.symm)];exact hx.1)).trans (Eqv.of_eq fun j=>by rw [zl (hx.1.trans hy.1.symm)];omega)
theorem Zt (k:Int) (f g:Vec) (t:Nat):brv B n f (fun j=>k*g j) t=k*brv B n f g t:=by
 rw [zV,qL,zV g f];grind
theorem third (o:OkW p n W) (q:OkB p n B) (nf:qx p W B n) {x y b:List Int} (hb:El p n b):
  ladd p W (br p W B n x b) (br p W B n y (lmul p W (-1) b))=norm p W (lmix 1 (br p W B n x b) (-1) (br p W B n y b)):=by
 have e1:El p n (br p W B n x b):=br_el o q;have e2:El p n (br p W B n y b):=br_el o q;have e3:El p n (br p W B n y (lmul p W (-1) b)):=br_el o q;have k1:Eqv p n W (at_ (br p W B n y (lmul p W (-1) b))) fun j=>-1*at_ (br p W B n y b) j:=
  (Zl o q _ _).trans (((zHq o q nf (at_ y) (qP o hb (-1))).trans (Eqv.of_eq fun t=>Zt (-1) _ _ t)).trans ((Zl o q y b).symm.mul (-1)))
 refine zEd o (by rw [zQ (e1.1.trans e3.1.symm)];exact e1.1) (by rw [zQ (e1.1.trans e2.1.symm)];exact e1.1) ?_
 refine(Eqv.of_eq fun j=>?_).trans (((Eqv.refl (at_ (br p W B n x b))).add k1).trans (Eqv.of_eq fun j=>?_))
 ·rw [zl (e1.1.trans e3.1.symm)];omega
 ·rw [zl (e1.1.trans e2.1.symm)];omega
end Go.Proofs
namespace Go.Proofs
open Go.Ab Go.Lie
variable {p:Int} {n:Nat} {W:List (List Int)} {B:List (List (List Int))}
theorem zBH (g f:Vec) (t:Nat):brv B n f g t=sumN n fun k=>g k*brv B n f (at_ (unitL n k)) t:=by
 rw [zV,zAS (f':=fun j=>sumN n fun k=>g k*at_ (unitL n k) j) (g':=f) (fun j hj=>zFA g hj) (fun _ _=>rfl),zAl (t:=t) (g:=f) n (fun k j=>g k*at_ (unitL n k) j),←ZN]
 refine qE fun k hk=>?_
 rw [qL,zV (f:=at_ (unitL n k))]
 grind
theorem zPN (o:OkW p n W) (q:OkB p n B) (nf:qx p W B n) {u:List (List Int)} {f:Vec} (hf:Gen p n W u f):∀g:Vec,Gen p n W (brL p W B n u (units n)) (brv B n f g):=by
 have hS:=zU (p:=p) (n:=n) (W:=W) (brL p W B n u (units n));refine zHV (S:=fun f=>∀g:Vec,Gen p n W (brL p W B n u (units n)) (brv B n f g)) ⟨fun g=>?_,fun f f' h h' g=>?_,fun k f h g=>?_,fun f f' h h' g=>?_⟩ (fun v hv g=>?_) hf
 ·refine hS.eqv _ _ (Eqv.of_eq fun t=>?_) hS.zero
  have:=qL (B:=B) (n:=n) 0 (fun _=>0) g t
  simpa using this
 ·exact hS.eqv _ _ (Eqv.of_eq fun t=>Zk f f' g t) (hS.add _ _ (h g) (h' g))
 ·exact hS.eqv _ _ (Eqv.of_eq fun t=>qL k f g t) (hS.mul k _ (h g))
 ·exact hS.eqv _ _ (zAm o q nf g h) (h' g)
 ·refine hS.eqv _ _ (Eqv.of_eq fun t=>zBH g (at_ v) t) (hS.sum fun k hk=>hS.mul (g k) _ ?_)
  refine hS.eqv _ _ (Zl o q v (unitL n k)).symm (ze (List.mem_flatMap.2 ⟨v,hv,List.mem_map.2 ⟨unitL n k,?_,rfl⟩⟩));exact List.mem_map.2 ⟨k,List.mem_range.2 hk,rfl⟩
theorem zF1 (o:OkW p n W) {x:List Int} (hx:El p n x):Gen p n W (units n) (at_ x):=by
 have hS:=zU (p:=p) (n:=n) (W:=W) (units n);refine hS.eqv _ _ (Eqv.of_eq fun t=>?_) (hS.sum (m:=n) (F:=fun k j=>at_ x k*at_ (unitL n k) j) fun k hk=>hS.mul (at_ x k) _ (ze (List.mem_map.2 ⟨k,List.mem_range.2 hk,rfl⟩)))
 rcases Nat.lt_or_ge t n with h|h
 ·exact zFA (at_ x) h
 ·rw [hx.beyond h,qM]
  intro k hk;rw [qK hk,if_neg (by omega),Int.mul_zero]
end Go.Proofs
namespace Go.Proofs
open Go.Ab Go.Lie
variable {p:Int} {n:Nat} {W:List (List Int)} {B:List (List (List Int))}
theorem zOU (o:OkW p n W) (q:OkB p n B) (nf:qx p W B n) {u out:List (List Int)} (hc:Canon p n W (brL p W B n u (units n)) out) {f:Vec} (hf:Gen p n W u f) (g:Vec):Gen p n W out (brv B n f g):=
 (hc.gen _).1 (zPN o q nf hf g)
theorem zJa (o:OkW p n W) (q:OkB p n B) {c:Nat} (h:Cls p n W B c):∀k,∃u,Low p n W B k u∧(c≤k→u=[])∨k<c:=fun k=>by
 rcases Nat.lt_or_ge k c with x|x
 ·exact⟨[],.inr x⟩
 ·obtain⟨d,rfl⟩:∃d,k=c+d:=⟨k-c,by omega⟩
  have:Low p n W B (c+d) []:=by
   clear x
   induction d with
   | zero=>exact h.1
   | succ d ih=>
    refine .succ ih ?_;have hb:brL p W B n [] (units n)=[]:=rfl;rw [hb];exact⟨.nil,List.Pairwise.nil,fun f=>Iff.rfl⟩
  exact⟨[],.inl ⟨this,fun _=>rfl⟩⟩
theorem ZZ (o:OkW p n W) {z:List Int} (hz:El p n z) (h:Eqv p n W (at_ z) fun _=>0):isZ z:=by
 have h1:=zD8 o hz h (Nat.le_refl n) fun _ _=>rfl
 intro x hx;obtain⟨j,hj,rfl⟩:=List.mem_iff_getElem.1 hx;rw [←at_eq hj];exact h1 j (by rw [←hz.1];exact hj)
end Go.Proofs
namespace Go.Grp
open Go.Ab Go.Lie
variable {α:Type} {O:List Int} {P:List (List Int)} {C:List (List (List Int))} {S:α→Prop} {m:α→α→α} {e:α} {h:Nat→α} {t0 d i:Nat}
theorem zEr (s:Shp O P C) (M:Mon S m e) (r:Rel O P C S m e h 0) (hi:i<O.length) {x:List Int} (hx:TT O (i+1) x):
  TT O (i+1) (img O C (mu O P C (O.length-1-i)) i x)∧m (Ph O m e h (O.length-1-i) x) (h i)=m (h i) (Ph O m e h (O.length-1-i) (img O C (mu O P C (O.length-1-i)) i x)):=by
 have e1:O.length-(O.length-1-i)=i+1:=by omega
 have e3:O.length-(i+1)=O.length-1-i:=by omega
 have hS:=r.mem i (Nat.zero_le _) hi;have ih:∀{a b:List Int},TT O (i+1) a→TT O (i+1) b→Ph O m e h (O.length-1-i) (mu O P C (O.length-1-i) a b)=m (Ph O m e h (O.length-1-i) a) (Ph O m e h (O.length-1-i) b):=fun h1 h2=>dyck s M r (by omega) (by rw [e1];exact h1) (by rw [e1];exact h2)
 have cl:∀{a b:List Int},TT O (i+1) a→TT O (i+1) b→TT O (i+1) (mu O P C (O.length-1-i) a b):=fun h1 h2=>by have:=mu_tt s (d:=O.length-1-i) (by omega) (a:=_) (b:=_) (by rw [e1];exact h1) (by rw [e1];exact h2);rw [e1]at this;exact this
 have pin:∀x,S (Ph O m e h (O.length-1-i) x):=fun x=>Ph_in M r (by omega) x
 have hc:∀j,i+1≤j→j<i+1+(O.length-1-i)→TT O (i+1) (cvec C i j):=fun j h1 h2=>s.cj i j (by omega) (by omega)
 have hzz:TT O (i+1) (zv O):=s.zv _;obtain⟨f1,f2⟩:=Ph_fo M (T:=TT O (i+1)) (mm:=mu O P C (O.length-1-i)) (F:=Ph O m e h (O.length-1-i)) (fun a b h1 h2=>⟨cl h1 h2,ih h1 h2⟩) (c:=cvec C i) (x:=nx x) hc hzz
 refine⟨f1,?_⟩;unfold img;rw [f2,Ph_zv M,M.fo_eq (fun j _ _=>pin _) M.one,M.l1 (M.ph fun j _ _=>pin _)]
 show m (ph m e h (nx x) (O.length-(O.length-1-i)) (O.length-1-i)) (h i)=_;rw [e1];refine M.past_ph hS fun j h1 h2=>⟨r.mem j (by omega) (by omega),pin _,?_⟩
 have:=r.cj i j (Nat.zero_le _) (by omega) (by omega)
 rw [e3]at this
 exact this
theorem zOY (s:Shp O P C) (M:Mon S m e) (r:Rel O P C S m e h 0) (hi:i<O.length):∀(k:Nat) {x:List Int},TT O (i+1) x→
  TT O (i+1) (iter (img O C (mu O P C (O.length-1-i)) i) k x)∧m (Ph O m e h (O.length-1-i) x) (pw m e (h i) k)=m (pw m e (h i) k) (Ph O m e h (O.length-1-i) (iter (img O C (mu O P C (O.length-1-i)) i) k x)):=by
 have hS:=r.mem i (Nat.zero_le _) hi;have pin:∀x,S (Ph O m e h (O.length-1-i) x):=fun x=>Ph_in M r (by omega) x
 intro k
 induction k with
 | zero=>exact fun {x} hx=>⟨hx,by show m _ e=m e _;rw [M.r1 (pin x)];exact(M.l1 (pin x)).symm⟩
 | succ k ik=>
  intro x hx;obtain⟨g1,g2⟩:=zEr s M r hi hx;obtain⟨g3,g4⟩:=ik g1;refine⟨g3,?_⟩;show m _ (m (pw m e (h i) k) (h i))=m (m (pw m e (h i) k) (h i)) (Ph O m e h _ (iter _ k (img O C _ i x)));rw [M.pw_comm hS,←M.as (pin _) hS (M.pw hS k),g2,M.as hS (pin _) (M.pw hS k),g4,←M.as hS (M.pw hS k) (pin _)]
theorem Cons.of_rel (s:Shp O P C) (G:Gp S m e) (r:Rel O P C S m e h 0) (inj:∀i,i<O.length→∀x y,TT O (i+1) x→TT O (i+1) y→Ph O m e h (O.length-1-i) x=Ph O m e h (O.length-1-i) y→x=y) (low:∀i j x,i<j→j<O.length→TT O (j+1) x→Ph O m e h (O.length-1-i) x=Ph O m e h (O.length-(j+1)) x) (un:∀i j,i<j→j<O.length→Ph O m e h (O.length-1-i) (unit O j)=h j):Cons O P C:=by
 have M:=G.toMon;intro i hi;have e1:O.length-(O.length-1-i)=i+1:=by omega
 have e3:O.length-(i+1)=O.length-1-i:=by omega
 have hS:=r.mem i (Nat.zero_le _) hi;have pin:∀x,S (Ph O m e h (O.length-1-i) x):=fun x=>Ph_in M r (by omega) x
 have ih:∀{a b:List Int},TT O (i+1) a→TT O (i+1) b→Ph O m e h (O.length-1-i) (mu O P C (O.length-1-i) a b)=m (Ph O m e h (O.length-1-i) a) (Ph O m e h (O.length-1-i) b):=fun h1 h2=>dyck s M r (by omega) (by rw [e1];exact h1) (by rw [e1];exact h2)
 have cl:∀{a b:List Int},TT O (i+1) a→TT O (i+1) b→TT O (i+1) (mu O P C (O.length-1-i) a b):=fun h1 h2=>by have:=mu_tt s (d:=O.length-1-i) (by omega) (a:=_) (b:=_) (by rw [e1];exact h1) (by rw [e1];exact h2);rw [e1]at this;exact this
 have pcj:∀j,i<j→j<O.length→m (h j) (h i)=m (h i) (Ph O m e h (O.length-1-i) (cvec C i j)):=fun j h1 h2=>by have:=r.cj i j (Nat.zero_le _) h1 h2;rw [e3]at this;exact this
 have powh:∀{a:List Int},TT O (i+1) a→∀k,TT O (i+1) (pw (mu O P C (O.length-1-i)) (zv O) a k)∧Ph O m e h (O.length-1-i) (pw (mu O P C (O.length-1-i)) (zv O) a k)=pw m e (Ph O m e h (O.length-1-i) a) k:=fun {a} ha k=>by
  induction k with
  | zero=>exact⟨s.zv _,Ph_zv M _⟩
  | succ k ik=>exact⟨cl ik.1 ha,by show Ph O m e h _ (mu O P C _ (pw _ _ a k) a)=m _ _;rw [ih ik.1 ha,ik.2]⟩
 have cpow:∀j,i<j→j<O.length→∀k,m (pw m e (h j) k) (h i)=m (h i) (pw m e (Ph O m e h (O.length-1-i) (cvec C i j)) k):=fun j h1 h2 k=>by
  have hj:=r.mem j (Nat.zero_le _) h2
  induction k with
  | zero=>show m e (h i)=m (h i) e;rw [M.l1 hS,M.r1 hS]
  | succ k ik=>
   show m (m (pw m e (h j) k) (h j)) (h i)=m (h i) (m (pw m e _ k) _);rw [M.as (M.pw hj k) hj hS,pcj j h1 h2,←M.as (M.pw hj k) hS (pin _),ik,M.as hS (M.pw (pin _) k) (pin _)]
 have ti:∀j,i<j→j<O.length→TT O (i+1) (cvec C i j):=fun j h1 h2=>s.cj i j h1 h2
 have tp:∀j,i≤j→j<O.length→TT O (i+1) (pvec P j):=fun j h1 h2=>(s.pw j h2).mono (by omega)
 refine⟨fun j h1 h2=>?_,fun j k h1 h2 h3=>?_,?_,fun j h1 h2=>?_⟩
 ·obtain⟨a1,a2⟩:=powh (ti j h1 h2) (nx O j)
  obtain⟨b1,b2⟩:=zEr s M r hi (tp j (by omega) h2)
  refine inj i hi _ _ a1 b1 (G.cancel hS (pin _) (pin _) ?_);rw [a2,←cpow j h1 h2,←b2,low i j _ h1 h2 (s.pw j h2),r.pow j (Nat.zero_le _) h2]
 ·have tc:TT O (i+1) (cvec C j k):=(s.cj j k h2 h3).mono (by omega)
  obtain⟨b1,b2⟩:=zEr s M r hi tc;have hj:=r.mem j (Nat.zero_le _) (by omega)
  have hk:=r.mem k (Nat.zero_le _) h3;refine inj i hi _ _ (cl (ti k (by omega) h3) (ti j h1 (by omega))) (cl (ti j h1 (by omega)) b1) (G.cancel hS (pin _) (pin _) ?_)
  rw [ih (ti k (by omega) h3) (ti j h1 (by omega)),ih (ti j h1 (by omega)) b1,←M.as hS (pin _) (pin _),←pcj k (by omega) h3,M.as hk hS (pin _),←pcj j h1 (by omega),←M.as hk hj hS,←M.as hS (pin _) (pin _),←pcj j h1 (by omega),M.as hj hS (pin _),←b2,←M.as hj (pin _) hS,r.cj j k (Nat.zero_le _) h2 h3,low i j _ h1 (by omega) (s.cj j k h2 h3)]
 ·obtain⟨b1,b2⟩:=zEr s M r hi (tp i (Nat.le_refl _) hi)
  have hp:=r.pow i (Nat.zero_le _) hi;rw [e3]at hp
  refine inj i hi _ _ b1 (tp i (Nat.le_refl _) hi) (G.cancel hS (pin _) (pin _) ?_);rw [←b2,←hp,M.pw_comm hS]
 ·obtain⟨b1,b2⟩:=zOY s M r hi (nx O i) (s.unit h2 (by omega):TT O (i+1) (unit O j))
  have hp:=r.pow i (Nat.zero_le _) hi;rw [e3]at hp
  refine inj i hi _ _ (cl (tp i (Nat.le_refl _) hi) b1) (cl (s.unit h2 (by omega)) (tp i (Nat.le_refl _) hi)) ?_
  rw [ih (tp i (Nat.le_refl _) hi) b1,ih (s.unit h2 (by omega)) (tp i (Nat.le_refl _) hi),←hp,b2]
end Go.Grp
namespace Go.Proofs
open Go.Ab
def if6:IFn:=⟨[0],[(.tmp 2)],(S0 (R0 [0] [tI0 2 false])
 (S0 (.seq (R0 [0,37] [mI0 36 0,C1 37 24 36])
 (.cond (.t 37) (S0 (R0 [2] [tI0 2 true])
 .ret) .skip))
 (S0 (R0 [0,3,4] [mI0 39 0,C1 40 36 39,mI0 38 40,eI0 41 38 0,eI0 42 38 1,eI 3 (.alloc [(.int .i64 0),.nils,.nils]),nI (.store 3 (.t 3) (.t 41)),mI0 4 42])
 (S0 (R0 [0,3,4,5,6] [LI0 44 3,mI0 45 4,C2 46 31 44 45,mI0 43 46,eI0 47 43 0,eI0 48 43 1,mI0 5 47,mI0 6 48])
 (S0 (R0 [0,3,4,5,6,7,8] [LI0 50 3,mI0 51 4,C2 52 32 50 51,mI0 49 52,eI0 53 49 0,eI0 54 49 1,mI0 7 53,mI0 8 54])
 (S0 (.seq (R0 [0,3,4,6,7,63] [mI0 55 6,mI0 56 8,bI0 57 .neq 55 56,mI0 58 57,⟨(some 59),.mv (.t 5),true,(some (58,false))⟩,⟨(some 60),.mv (.t 7),true,(some (58,false))⟩,⟨(some 61),.call 35 [(.t 59),(.t 60)],false,(some (58,false))⟩,⟨(some 62),.un .not (.t 61),true,(some (58,false))⟩,qI 63 (.pick (.t 58) (.c (.bool true)) (.t 62))])
 (.cond (.t 63) (S0 (R0 [2] [tI0 2 false])
 .ret) .skip))
 (S0 (.seq (R0 [0,3,4,7,65] [mI0 64 6,cI0 65 .neq 64 0])
 (.cond (.t 65) (S0 (R0 [2] [tI0 2 true])
 .ret) .skip))
 (S0 (R0 [0,3,4,7,9,10] [LI0 67 3,C1 68 37 67,mI0 66 68,eI0 69 66 0,eI0 70 66 1,eI 9 (.alloc [.nils,.nils,.nils]),nI (.store 3 (.t 9) (.t 69)),mI0 10 70])
 (S0 (R0 [0,3,4,7,9,10,11,12] [LI0 72 3,C1 73 28 72,mI0 71 73,eI0 74 71 0,eI0 75 71 1,eI 11 (.alloc [.nils,.nils,.nils]),nI (.store 3 (.t 11) (.t 74)),mI0 12 75])
 (S0 (R0 [0,3,4,7,9,10,11,12,13,14] [LI0 77 3,mI0 78 7,C2 79 38 77 78,mI0 76 79,eI0 80 76 0,eI0 81 76 1,mI0 13 80,mI0 14 81])
 (S0 (.seq (R0 [0,3,4,7,11,110] [mI0 82 10,mI0 83 12,bI0 84 .neq 82 83,mI0 85 84,⟨(some 86),.load true 3 (.t 9),true,(some (85,false))⟩,⟨(some 87),.load true 3 (.t 11),true,(some (85,false))⟩,⟨(some 88),.call 39 [(.t 86),(.t 87)],false,(some (85,false))⟩,⟨(some 89),.un .not (.t 88),true,(some (85,false))⟩,qI 90 (.pick (.t 85) (.c (.bool true)) (.t 89)),mI0 91 90,⟨(some 92),.load true 3 (.t 11),true,(some (91,false))⟩,⟨(some 93),.call 40 [(.t 92)],false,(some (91,false))⟩,⟨(some 94),.un .not (.t 93),true,(some (91,false))⟩,qI 95 (.pick (.t 91) (.c (.bool true)) (.t 94)),mI0 96 95,⟨(some 97),.load true 3 (.t 11),true,(some (96,false))⟩,⟨(some 98),.call 41 [(.t 97)],false,(some (96,false))⟩,⟨(some 99),.un .not (.t 98),true,(some (96,false))⟩,qI 100 (.pick (.t 96) (.c (.bool true)) (.t 99)),mI0 101 100,⟨(some 102),.mv (.t 14),true,(some (101,false))⟩,⟨(some 103),.bin .neq .other (.t 102) (.c (.int .i64 0)),true,(some (101,false))⟩,qI 104 (.pick (.t 101) (.c (.bool true)) (.t 103)),mI0 105 104,⟨(some 106),.mv (.t 13),true,(some (105,false))⟩,⟨(some 107),.mv (.t 4),true,(some (105,false))⟩,⟨(some 108),.call 35 [(.t 106),(.t 107)],false,(some (105,false))⟩,⟨(some 109),.un .not (.t 108),true,(some (105,false))⟩,qI 110 (.pick (.t 105) (.c (.bool true)) (.t 109))])
 (.cond (.t 110) (S0 (R0 [2] [tI0 2 false])
 .ret) .skip))
 (S0 (R0 [3,4,7,11,15] [mI0 111 0,eI 112 (.call 29 [(.t 111),(.c (.int .u64 3401))]),mI0 15 112])
 (S0 (R0 [3,4,7,11,15,16] [eI 113 (.buildSl 1 0 [(.int .i64 0)] []),mI0 16 113])
 (S0 (.seq (R0 [3,4,7,11,15,16,17] [kI0 17 0])
 (.block 0 (.loop [3,4,7,11,15,16,17] (S0 (.seq (R0 [3,4,7,11,15,16,17,117] [mI0 114 17,mI0 115 4,sI0 116 115,bI0 117 .lss 114 116])
 (.cond (.t 117) .skip (.exit 0)))
 (S0 (.block 1 (R0 [3,4,7,11,15,16,17] [mI0 120 16,mI0 121 15,fI0 122 0 3,lI0 123 122,C2 124 30 121 123,eI 125 (.buildSl 1 1 [(.int .i64 0)] [(0,1,(.t 124))]),eI 126 (.append 1 8 (.t 120) (.t 125)),mI0 16 126]))
 (R0 [3,4,7,11,15,16,17] [mI0 118 17,cI0 119 .add 118 1,mI0 17 119]))))))
 (S0 (R0 [3,4,7,11,16,18,19] [LI0 128 3,mI0 129 16,C2 130 31 128 129,mI0 127 130,eI0 131 127 0,eI0 132 127 1,mI0 18 131,mI0 19 132])
 (S0 (R0 [3,4,7,11,16,18,19,20] [LI0 134 3,mI0 135 16,C2 136 32 134 135,mI0 133 136,eI0 137 133 0,eI0 138 133 1,mI0 20 137,mI0 21 138])
 (S0 (R0 [3,4,7,11,16,18,19,20,22,23] [LI0 140 11,mI0 141 7,mI0 142 20,C3 143 42 140 141 142,mI0 139 143,eI0 144 139 0,eI0 145 139 1,mI0 22 144,mI0 23 145])
 (S0 (R0 [3,4,7,11,16,18,19,20,22,23,24] [LI0 147 11,mI0 148 7,mI0 149 20,C3 150 43 147 148 149,mI0 146 150,eI0 151 146 0,eI0 152 146 1,mI0 24 151,mI0 25 152])
 (S0 (R0 [3,4,7,11,16,18,19,20,22,23,24,26,27] [LI0 154 3,mI0 155 4,mI0 156 16,C3 157 44 154 155 156,mI0 153 157,eI0 158 153 0,eI0 159 153 1,mI0 26 158,mI0 27 159])
 (S0 (R0 [3,4,7,11,18,19,20,22,23,24,26,27,28] [LI0 161 3,mI0 162 4,mI0 163 16,C3 164 45 161 162 163,mI0 160 164,eI0 165 160 0,eI0 166 160 1,mI0 28 165,mI0 29 166])
 (S0 (.seq (R0 [3,4,7,11,24,28,194] [mI0 167 19,cI0 168 .neq 167 0,mI0 169 168,⟨(some 170),.mv (.t 23),true,(some (169,false))⟩,⟨(some 171),.bin .neq .other (.t 170) (.c (.int .i64 0)),true,(some (169,false))⟩,qI 172 (.pick (.t 169) (.c (.bool true)) (.t 171)),mI0 173 172,⟨(some 174),.mv (.t 27),true,(some (173,false))⟩,⟨(some 175),.bin .neq .other (.t 174) (.c (.int .i64 0)),true,(some (173,false))⟩,qI 176 (.pick (.t 173) (.c (.bool true)) (.t 175)),mI0 177 176,⟨(some 178),.mv (.t 18),true,(some (177,false))⟩,⟨(some 179),.mv (.t 20),true,(some (177,false))⟩,⟨(some 180),.call 35 [(.t 178),(.t 179)],false,(some (177,false))⟩,⟨(some 181),.un .not (.t 180),true,(some (177,false))⟩,qI 182 (.pick (.t 177) (.c (.bool true)) (.t 181)),mI0 183 182,⟨(some 184),.mv (.t 22),true,(some (183,false))⟩,⟨(some 185),.mv (.t 24),true,(some (183,false))⟩,⟨(some 186),.call 35 [(.t 184),(.t 185)],false,(some (183,false))⟩,⟨(some 187),.un .not (.t 186),true,(some (183,false))⟩,qI 188 (.pick (.t 183) (.c (.bool true)) (.t 187)),mI0 189 188,⟨(some 190),.mv (.t 26),true,(some (189,false))⟩,⟨(some 191),.mv (.t 28),true,(some (189,false))⟩,⟨(some 192),.call 35 [(.t 190),(.t 191)],false,(some (189,false))⟩,⟨(some 193),.un .not (.t 192),true,(some (189,false))⟩,qI 194 (.pick (.t 189) (.c (.bool true)) (.t 193))])
 (.cond (.t 194) (S0 (R0 [2] [tI0 2 false])
 .ret) .skip))
 (S0 (R0 [3,4,7,11,24,30,31] [LI0 196 3,mI0 197 28,C2 198 31 196 197,mI0 195 198,eI0 199 195 0,eI0 200 195 1,mI0 30 199,mI0 31 200])
 (S0 (R0 [7,11,24,30,31,32,33] [LI0 202 3,mI0 203 4,C2 204 46 202 203,mI0 201 204,eI0 205 201 0,eI0 206 201 1,mI0 32 205,mI0 33 206])
 (S0 (R0 [24,30,31,32,33,34,35] [LI0 208 11,mI0 209 7,C2 210 47 208 209,mI0 207 210,eI0 211 207 0,eI0 212 207 1,mI0 34 211,mI0 35 212])
 (S0 (R0 [2] [mI0 213 31,cI0 214 .eql 213 0,mI0 215 214,⟨(some 216),.mv (.t 30),true,(some (215,true))⟩,⟨(some 217),.mv (.t 24),true,(some (215,true))⟩,⟨(some 218),.call 35 [(.t 216),(.t 217)],false,(some (215,true))⟩,qI 219 (.pick (.t 215) (.t 218) (.c (.bool false))),mI0 220 219,⟨(some 221),.mv (.t 33),true,(some (220,true))⟩,⟨(some 222),.bin .eql .other (.t 221) (.c (.int .i64 0)),true,(some (220,true))⟩,qI 223 (.pick (.t 220) (.t 222) (.c (.bool false))),mI0 224 223,⟨(some 225),.mv (.t 35),true,(some (224,true))⟩,⟨(some 226),.bin .eql .other (.t 225) (.c (.int .i64 0)),true,(some (224,true))⟩,qI 227 (.pick (.t 224) (.t 226) (.c (.bool false))),mI0 228 227,⟨(some 229),.mv (.t 32),true,(some (228,true))⟩,⟨(some 230),.mv (.t 34),true,(some (228,true))⟩,⟨(some 231),.bin .eql .other (.t 229) (.t 230),true,(some (228,true))⟩,qI 232 (.pick (.t 228) (.t 231) (.c (.bool false))),mI0 2 232])
 .ret)))))))))))))))))))))))))⟩
theorem cf6:cF Tryz.prog Tryz.f6=some if6:=by kernel_rfl
end Go.Proofs
namespace Go.Proofs.YtgkbfiilhocioaaGreat
open Go.ChangeShapes Go.WideShapes Go.ChangeAt Go.RowKit Go.Ab Go.Joins Go.Lie Go.Proofs
theorem own:ownKnob Tryz.prog.godebug=none:=by kernel_rfl
theorem laidOut:laidOutB Tryz.prog=true:=by kernel_rfl
variable {H:Type} {enc:TypeId×Value→H} {W w0:World} {j:Inj} {h:AHeap}
end Go.Proofs.YtgkbfiilhocioaaGreat
