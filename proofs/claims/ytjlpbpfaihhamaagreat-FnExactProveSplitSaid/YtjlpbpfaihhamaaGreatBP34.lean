/- The compiled forms of the functions, each held against the program by the kernel. Written by program. -/
import Derived.Test.YtjlpbpfaihhamaaGreatBP29
import Derived.Test.YtjlpbpfaihhamaaGreatBP30
import Derived.Test.YtjlpbpfaihhamaaGreatBAbPz
import Derived.Test.YtjlpbpfaihhamaaGreatBAbPt
import Derived.Test.YtjlpbpfaihhamaaGreatBAbPy
import Derived.Test.YtjlpbpfaihhamaaGreatRows
import Derived.Lib.SmallJoins
import Derived.WalkKit
import Derived.ProofKit
import Derived.Test.YtjlpbpfaihhamaaGreatChecked
open Int renaming reduceNatCast'→iQ0
set_option maxRecDepth 100000
set_option linter.unusedVariables false
set_option linter.unusedSectionVars false
set_option linter.unusedSimpArgs false
namespace Go.Grp
open Go.Ab Go.Lie
variable {α:Type} {S:α→Prop} {m:α→α→α} {e:α} {a b c x y z g:α}
noncomputable def ginv [Inhabited α] (S:α→Prop) (m:α→α→α) (e a:α):α:=Classical.epsilon fun b=>S b∧m a b=e
section
variable [Inhabited α]
theorem Gp.inv_in (G:Gp S m e) (ha:S a):S (ginv S m e a)∧m a (ginv S m e a)=e:=by
 obtain⟨b,h1,h2,h3⟩:=G.inv ha;exact Classical.epsilon_spec (p:=fun b=>S b∧m a b=e) ⟨b,h1,h2⟩
theorem Gp.inv_eq (G:Gp S m e) (ha:S a) (hb:S b) (h:m a b=e):b=ginv S m e a:=G.cancel ha hb (G.inv_in ha).1 (h.trans (G.inv_in ha).2.symm)
theorem Gp.inv_l (G:Gp S m e) (ha:S a):m (ginv S m e a) a=e:=by
 obtain⟨b,h1,h2,h3⟩:=G.inv ha;rw [←G.inv_eq ha h1 h2];exact h3
theorem Gp.inv_r (G:Gp S m e) (ha:S a):m a (ginv S m e a)=e:=(G.inv_in ha).2
noncomputable def com (S:α→Prop) (m:α→α→α) (e x y:α):α:=m (ginv S m e x) (m (ginv S m e y) (m x y))
noncomputable def cnj (S:α→Prop) (m:α→α→α) (e x g:α):α:=m (ginv S m e g) (m x g)
theorem Gp.com_in (G:Gp S m e) (hx:S x) (hy:S y):S (com S m e x y):=G.cl (G.inv_in hx).1 (G.cl (G.inv_in hy).1 (G.cl hx hy))
theorem Gp.cnj_in (G:Gp S m e) (hx:S x) (hg:S g):S (cnj S m e x g):=G.cl (G.inv_in hg).1 (G.cl hx hg)
theorem Gp.com_spec (G:Gp S m e) (hx:S x) (hy:S y):m (m y x) (com S m e x y)=m x y:=by
 have ix:=(G.inv_in hx).1;have iy:=(G.inv_in hy).1;have xy:=G.cl hx hy;unfold com;rw [G.as hy hx (G.cl ix (G.cl iy xy)),←G.as hx ix (G.cl iy xy),G.inv_r hx,G.l1 (G.cl iy xy),←G.as hy iy xy,G.inv_r hy,G.l1 xy]
theorem Gp.com_eq (G:Gp S m e) (hx:S x) (hy:S y) (hz:S z) (h:m (m y x) z=m x y):z=com S m e x y:=
 G.cancel (G.cl hy hx) hz (G.com_in hx hy) (h.trans (G.com_spec hx hy).symm)
theorem Gp.cnj_spec (G:Gp S m e) (hx:S x) (hg:S g):m g (cnj S m e x g)=m x g:=by
 unfold cnj;rw [←G.as hg (G.inv_in hg).1 (G.cl hx hg),G.inv_r hg,G.l1 (G.cl hx hg)]
theorem Gp.cnj_eq (G:Gp S m e) (hx:S x) (hg:S g) (hz:S z) (h:m g z=m x g):z=cnj S m e x g:=
 G.cancel hg hz (G.cnj_in hx hg) (h.trans (G.cnj_spec hx hg).symm)
theorem Gp.cnj_one (G:Gp S m e) (hg:S g):cnj S m e e g=e:=(G.cnj_eq G.one hg G.one (by rw [G.r1 hg,G.l1 hg])).symm
theorem Gp.cnj_com (G:Gp S m e) (hx:S x) (hy:S y):m x (com S m e x y)=cnj S m e x y:=by
 have c1:=G.com_in hx hy;exact G.cnj_eq hx hy (G.cl hx c1) (by rw [←G.as hy hx c1];exact G.com_spec hx hy)
end
end Go.Grp
namespace Go.Grp
open Go.Ab Go.Lie
variable {O:List Int} {P:List (List Int)} {C:List (List (List Int))} {x y z:List Int} {A B:List Int→Prop}
abbrev gS (O:List Int):List Int→Prop:=TT O 0
abbrev gm (O:List Int) (P:List (List Int)) (C:List (List (List Int))):List Int→List Int→List Int:=mu O P C O.length
theorem Full.g (F:Full O P C O.length):Gp (gS O) (gm O P C) (zv O):=by
 have:=F.gp
 rwa [Nat.sub_self]at this
noncomputable abbrev gcom (O:List Int) (P:List (List Int)) (C:List (List (List Int))) (x y:List Int):List Int:=com (gS O) (gm O P C) (zv O) x y
end Go.Grp
namespace Go.Grp
open Go.Ab Go.Lie
variable {O:List Int} {P:List (List Int)} {C:List (List (List Int))} {x y z a b c:List Int} {A B:List Int→Prop} {d t i:Nat}
def Cent (O:List Int) (C:List (List (List Int))):Prop:=True
def addm (o a b:Int):Int:=if a+b ≥ o then a+b-o else a+b
theorem zNZ (o a b:Int):addm o a b=addm o b a:=by unfold addm;rw [Int.add_comm]
theorem zBY {o a b:Int} (ha:0≤a∧a<o) (hb:0≤b∧b<o) (h:addm o a b=a):b=0:=by
 unfold addm at h;split at h<;>omega
def Upto (O:List Int) (t:Nat) (x y:List Int):Prop:=∀j,j<t→at_ x j=at_ y j
theorem zQT (s:Shp O P C) (hd:d+1≤O.length) (hi:i=O.length-(d+1)) (h0:at_ b i=0) (ha:TT O i a) (hb:TT O i b):mu O P C (d+1) a b=(mu O P C d (a.set i 0) (b.set i 0)).set i (at_ a i):=by
 have ba:=ha.bd i (by omega)
 subst hi;simp only [mu];rw [h0,if_neg (by omega),show nx b (O.length-(d+1))=0 by show(at_ b _).toNat=0;rw [h0];rfl,Int.add_zero]
 rfl
theorem ZR (s:Shp O P C):∀{d:Nat} {b:List Int},d≤O.length→O.length-d≤t→t<O.length→TT O (O.length-d) b→TT O t a→Upto O t (mu O P C d b a) b∧at_ (mu O P C d b a) t=addm (at_ O t) (at_ b t) (at_ a t)
 | 0,b,hd,h1,h2,hb,ha=>by omega
 | d+1,b,hd,h1,h2,hb,ha=>by
  have hi:O.length-(d+1)<O.length:=by omega
  have e:O.length-d=O.length-(d+1)+1:=by omega
  have hpos:=s.pos hi;have bl:O.length-(d+1)<b.length:=by rw [hb.len];exact hi
  have hbs:=hb.set0 hi hpos;rw [←e]at hbs
  by_cases ht:O.length-(d+1)=t
  ·have hr:=mu_tt s hd hb (ha.mono (by omega):TT O (O.length-(d+1)) a)
   refine⟨fun j hj=>by rw [hr.zero j (by omega),hb.zero j (by omega)],?_⟩
   have hm:∀a b,TT O (O.length-d) a→TT O (O.length-d) b→TT O (O.length-d) (mu O P C d a b):=fun a b h1 h2=>mu_tt s (by omega) h1 h2
   have has:=(ha.mono (by omega):TT O (O.length-(d+1)) a).set0 hi hpos
   rw [←e]at has
   have ir:=hm _ _ (zB7 (fun x _=>by rw [e];exact zAH s (by rw [←e];exact hm) x) (nx a (O.length-(d+1))) hbs) has
   have hw:TT O (O.length-d) (pvec P (O.length-(d+1))):=by rw [e];exact s.pw _ hi
   have ir2:=hm _ _ hw ir;rw [←ht];simp only [mu,addm]
   split
   ·rw [at_set (by rw [ir2.len];exact hi),if_pos rfl]
   ·rw [at_set (by rw [ir.len];exact hi),if_pos rfl]
  ·have ha0:at_ a (O.length-(d+1))=0:=ha.zero _ (by omega)
   rw [zQT s hd rfl ha0 hb (ha.mono (by omega)),ZA ha0 (by rw [ha.len];exact hi)]
   obtain⟨i1,i2⟩:=ZR s (d:=d) (by omega) (by omega) h2 hbs ha
   have hml:=(mu_tt s (by omega:d≤O.length) hbs (ha.mono (by omega):TT O (O.length-d) a)).len
   refine⟨fun j hj=>?_,?_⟩
   ·rw [at_set (by rw [hml];exact hi)]
    split
    ·rename_i h;rw [h]
    ·rename_i h;rw [i1 j hj,at_set bl,if_neg h]
   ·rw [at_set (by rw [hml];exact hi),if_neg (by omega),i2,at_set bl,if_neg (by omega)]
end Go.Grp
namespace Go.Grp
open Go.Ab Go.Lie
variable {O:List Int} {P:List (List Int)} {C:List (List (List Int))} {x y z a b c g:List Int} {A B:List Int→Prop} {t i:Nat}
section
variable (s:Shp O P C) (F:Full O P C O.length) (hC:Cent O C)
include s F hC
theorem behind (hz:gS O z) (hc:gS O c) (h:Upto O t (gm O P C z c) z) (ht:t≤O.length):TT O t c:=by
 have:∀k,k≤t→TT O k c:=by
  intro k
  induction k with
  | zero=>intro _;exact hc
  | succ k ih=>
   intro hk;have hck:=ih (by omega)
   obtain⟨r1,r2⟩:=ZR s (d:=O.length) (t:=k) (a:=c) (b:=z) (Nat.le_refl _) (by omega) (by omega) (by rw [Nat.sub_self];exact hz) hck
   have e:=h k (by omega)
   show TT O (k+1) c;have e2:addm (at_ O k) (at_ z k) (at_ c k)=at_ z k:=by rw [←r2];exact e
   have:=zBY (hz.bd k (by omega)) (hc.bd k (by omega)) e2
   refine⟨hc.len,hc.bd,fun j hj=>?_⟩
   by_cases g:j=k
   ·subst g;exact this
   ·exact hck.zero j (by omega)
 exact this t (Nat.le_refl _)
theorem tt_cl (ht:t≤O.length) (hx:TT O t x) (hy:TT O t y):TT O t (gm O P C x y):=by
 have G:=F.g;have h0:=G.cl (hx.mono (Nat.zero_le _)) (hy.mono (Nat.zero_le _));rcases Nat.lt_or_ge t O.length with h|h
 ·obtain⟨r1,_⟩:=ZR s (d:=O.length) (t:=t) (a:=y) (b:=x) (Nat.le_refl _) (by omega) h (by rw [Nat.sub_self];exact hx.mono (Nat.zero_le _)) hy
  exact⟨h0.len,h0.bd,fun j hj=>(r1 j hj).trans (hx.zero j hj)⟩
 ·have hx0:x=zv O:=hx.ext (s.zv _) fun j h1 h2=>by omega
  rw [hx0,G.l1 (hy.mono (Nat.zero_le _))];exact hy
theorem zHW (ht:t≤O.length) (hx:TT O t x):TT O t (ginv (gS O) (gm O P C) (zv O) x):=by
 have G:=F.g;have hx0:gS O x:=hx.mono (Nat.zero_le _);obtain⟨i1,i2⟩:=G.inv_in hx0;refine behind s F hC hx0 i1 (fun j hj=>?_) ht
 rw [show gm O P C x (ginv (gS O) (gm O P C) (zv O) x)=zv O from i2,hx.zero j hj]
 exact Zu _ j
theorem zRI (ht:t<O.length) (hx:TT O (t+1) x) (hb:TT O t b):TT O (t+1) (cnj (gS O) (gm O P C) (zv O) x b):=by
 have G:=F.g;have hx0:gS O x:=hx.mono (Nat.zero_le _);have hb0:gS O b:=hb.mono (Nat.zero_le _);refine behind s F hC hb0 (G.cnj_in hx0 hb0) (fun j hj=>?_) ht
 have e:gm O P C b (cnj (gS O) (gm O P C) (zv O) x b)=gm O P C x b:=G.cnj_spec hx0 hb0;rw [e];obtain⟨r1,r2⟩:=ZR s (d:=O.length) (t:=t) (a:=b) (b:=x) (Nat.le_refl _) (by omega) ht (by rw [Nat.sub_self];exact hx0) hb
 by_cases g:j=t
 ·subst g
  refine r2.trans ?_;have hbb:=hb.bd j ht;rw [hx.zero j (Nat.lt_succ_self _)];unfold addm;rw [if_neg (by omega),Int.zero_add]
 ·exact(r1 j (by omega)).trans ((hx.zero j hj).trans (hb.zero j (by omega)).symm)
theorem zRH (ht:t<O.length) (hx:TT O (t+1) x) (hb:TT O t b):TT O (t+1) (gcom O P C x b):=by
 have G:=F.g;have hx0:gS O x:=hx.mono (Nat.zero_le _);have hb0:gS O b:=hb.mono (Nat.zero_le _);have h1:=tt_cl s F hC (t:=t+1) ht (zHW s F hC ht hx) (zRI s F hC ht hx hb);have e:gcom O P C x b=gm O P C (ginv (gS O) (gm O P C) (zv O) x) (cnj (gS O) (gm O P C) (zv O) x b):=by
  refine G.cancel hx0 (G.com_in hx0 hb0) (G.cl (G.inv_in hx0).1 (G.cnj_in hx0 hb0)) ?_;rw [show gm O P C x (gcom O P C x b)=cnj (gS O) (gm O P C) (zv O) x b from G.cnj_com hx0 hb0,←G.as hx0 (G.inv_in hx0).1 (G.cnj_in hx0 hb0),(G.inv_in hx0).2,G.l1 (G.cnj_in hx0 hb0)]
 rw [e];exact h1
end
end Go.Grp
namespace Go.Grp
open Go.Ab Go.Lie
variable {O:List Int} {P:List (List Int)} {C:List (List (List Int))} {x y z a b c g:List Int} {u v L:List (List Int)} {t i k:Nat}
def Z7 (O:List Int):List (List Int):=(List.range O.length).map (unit O)
section
variable (s:Shp O P C) (F:Full O P C O.length)
include s F
end
end Go.Grp
namespace Go.Grp
end Go.Grp
namespace Go.Proofs
open Go.Ab Go.Lie Go.Grp
variable {σ:PHeap} {K:PV→PHeap→Prop} {O:List Int} {P:List (List Int)} {C:List (List (List Int))} {vO vP vC vx vf va vb:PV} {x y f a b:List Int} {rP rC:List PV} {d j sp:Nat}
theorem zPq {i:Nat} (xl:i<x.length):(x.set i 0).set i (at_ x i)=x:=zLn xl
theorem zIQ (s:Shp O P C) {d i:Nat} (hi:O.length=(d+1)+i) (F:Full O P C d) (F1:Full O P C (d+1)) {y1 y2:List Int} (hx:TT O i x) (h1:TT O (i+1) y1) (h2:TT O (i+1) y2) (e1:mu O P C d (x.set i 0) y1=zv O) (e2:mu O P C d (pvec P i) y2=zv O):
  (at_ x i=0→mu O P C (d+1) x y1=zv O)∧(at_ x i≠0→mu O P C (d+1) x (mu O P C (d+1) (mu O P C (d+1) y1 ((zv O).set i (at_ O i-at_ x i))) y2)=zv O):=by
 have hil:i<O.length:=by omega
 have hn:O.length-d=i+1:=by omega
 have hn1:O.length-(d+1)=i:=by omega
 have hpos:=s.pos hil;have bx:=hx.bd i hil;have xl:i<x.length:=by rw [hx.len];exact hil
 have M:=F.gp.toMon;have G1:=F1.gp;rw [hn1]at G1
 have hr:TT O (O.length-d) (x.set i 0):=by rw [hn];exact hx.set0 hil hpos
 have h1':TT O (O.length-d) y1:=by rw [hn];exact h1
 have h2':TT O (O.length-d) y2:=by rw [hn];exact h2
 have hz:TT O (O.length-d) (zv O):=s.zv _;have hw:TT O (O.length-d) (pvec P i):=by rw [hn];exact s.pw i hil
 have sub:∀{u v:List Int},TT O (O.length-d) u→TT O (O.length-d) v→mu O P C (d+1) u v=mu O P C d u v:=fun hu hv=>zGJ s (by omega) hu hv
 constructor
 ·intro h0
  rw [ZA h0 xl]at e1 hr
  rw [sub hr h1'];exact e1
 ·intro h0
  have z0:(zv O).set i 0=zv O:=ZA (Zu _ i) (by simp;exact hil)
  have ia:∀k,iter (al O P C d i) k (zv O)=zv O:=fun k=>zDN (al_zv s F.toBeh hn) k
  have hg:TT O i ((zv O).set i (at_ x i)):=(s.zv i).set hil (Nat.le_refl _) bx;have ht:TT O i ((zv O).set i (at_ O i-at_ x i)):=(s.zv i).set hil (Nat.le_refl _) ⟨by omega,by omega⟩
  have hrl:i<(x.set i 0).length:=by rw [List.length_set];exact xl
  have r0:(x.set i 0).set i 0=x.set i 0:=by rw [List.set_set]
  have up:∀{u:List Int},TT O (O.length-d) u→TT O i u:=fun h=>h.mono (by omega)
  have ex:mu O P C (d+1) ((zv O).set i (at_ x i)) (x.set i 0)=x:=by
   have:=zDp s F.toBeh hn (a:=at_ x i) (b:=0) hz hr
   rw [r0,if_neg (by omega),ia,M.l1 hr,Int.add_zero,zPq xl]at this
   exact this
  have et:mu O P C (d+1) ((zv O).set i (at_ x i)) ((zv O).set i (at_ O i-at_ x i))=pvec P i:=by
   have:=zDp s F.toBeh hn (a:=at_ x i) (b:=at_ O i-at_ x i) hz hz
   rw [if_pos (by omega),ia,M.l1 hz,M.r1 hw,show at_ x i+(at_ O i-at_ x i)-at_ O i=0 by omega,ZA (hw.zero i (by omega)) (by rw [hw.len];exact hil)]at this
   exact this
  have key:∀Y,mu O P C (d+1) x Y=mu O P C (d+1) (mu O P C (d+1) ((zv O).set i (at_ x i)) (x.set i 0)) Y:=fun Y=>by rw [ex]
  rw [key];have k1:=up h1';have k2:=up h2';have kr:=up hr;rw [G1.as hg kr (G1.cl (G1.cl k1 ht) k2),←G1.as kr (G1.cl k1 ht) k2,←G1.as kr k1 ht,sub hr h1',e1,G1.l1 ht,←G1.as hg ht k2,et,sub hw h2',e2]
end Go.Proofs
namespace Go.Grp
end Go.Grp
namespace Go.Proofs
open Go.Ab Go.Lie Go.Grp
variable {σ:PHeap} {K:PV→PHeap→Prop} {O:List Int} {P:List (List Int)} {C:List (List (List Int))} {vO vP vC vx vf va vb:PV} {x y f a b:List Int} {rP rC:List PV} {d j sp:Nat}
def zNh (O:List Int) (P:List (List Int)) (C:List (List (List Int))) (d i:Nat):Prop:=
 ∀(σ:PHeap) (K:PV→PHeap→Prop) (x:List Int) (vx vO vP vC:PV),IsPr vO vP vC O P C→TT O i x→FI vx x→(∀v y,FI v y→TT O i y→mu O P C d x y=zv O→K v σ)→zA Tryz.prog 158 [.agg [vO,vP,vC],.int .i64 i,vx] σ K
theorem zFh (s:Shp O P C) (hc:Cons O P C):∀{d i:Nat},O.length=d+i→zNh O P C d i
 | 0,i,hi=>by
  intro σ K x vx vO vP vC hR hx hvx hk;have hn6:=s.le;obtain⟨⟨w0,a0,rfl⟩,⟨w1,a1,rP,rfl,hP⟩,⟨w3,a3,rC,rfl,hC⟩⟩:=hR;refine zA.gh ?_;have hge:(O.length:Int)≤(i:Int):=by omega
  refine zB mix Tryz.func158 ?_;simp only [pwA,seval,-iQ0,hge,List.length_replicate,ZJ,mk8 (n:=O.length) (by omega),mkL (n:=O.length) (by omega)]
  exact Gh.finF (s:=σ.next+1) ((zC σ _).new _) (by simp only [pwA,seval,-iQ0]) (by omega) (zo _ _) (by simp [capOK]) fun o1=>hk _ (zv O) (FI.mk (by simp)) (s.zv _) rfl
 | d+1,i,hi=>by
  intro σ K x vx vO vP vC hR hx hvx hk;have hFr:zNh O P C d (i+1):=zFh s hc (by omega)
  have F:Full O P C d:=full_of s (by omega) fun j h1 h2=>hc j h2
  have F1:Full O P C (d+1):=full_of s (by omega) fun j h1 h2=>hc j h2
  have hAt:AtOK O P C (d+1) i:=zAW s (by omega)
  have hn6:=s.le;have hR0:=hR;have hil:i<O.length:=by omega
  have hO:=s.pr i hil;have hpos:=s.pos hil;have hxl:=hx.len;have bx:=hx.bd i hil;have hn1:O.length-(d+1)=i:=by omega
  have G1:=F1.gp;rw [hn1]at G1
  obtain⟨⟨w0,a0,rfl⟩,⟨w1,a1,rP,rfl,hP⟩,⟨w3,a3,rC,rfl,hC⟩⟩:=hR;obtain⟨w5,a5,hpr⟩:=pvRow s hP hil;have hiP:i<P.length:=by rw [s.pl];exact hil
  have hpv:=s.pw i hil;obtain⟨wx,ax,rfl⟩:=hvx;have hilx:i<x.length:=by omega
  have hge:¬(O.length:Int)≤(i:Int):=by omega
  have sx:=hx.set0 hil hpos;have wi1:IntKind.i64.wrap ((i:Int)+1)=((i+1:Nat):Int):=wrapS hil (by omega)
  have hilx1:i+1≤x.length:=hilx;refine zA.gh ?_;refine zB mix Tryz.func158 ?_;simp only [pwA,seval,-iQ0,hge];refine Zx rfl (by omega) fun cap1 hc1=>?_
  simp only [pwA,seval,-iQ0,hilx,hilx1,qK,qm hilx,wi1];refine zA.frz (s:=σ.next+1) (cs:=pis (x.set i 0)) (by simp only [pwA,seval,-iQ0]) (zo _ _) fun o1=>?_
  have hcok:=hc1.ok;simp only [sbs,sb,hcok,and_self,if_true,hR0.O.sb,hR0.P.sb,hR0.C.sb];refine hFr _ _ (x.set i 0) _ _ _ _ hR0 sx (FI.mk (by simp)) fun v1 y1 hv1 hy1 e1=>?_
  have hkp:Keep σ (((σ.new [.fz w0 a0 O.length (pis O),.fz w1 a1 P.length rP,.fz w3 a3 C.length rC]).new (pis (x.set i 0))).kill (σ.next+1)):=((zC σ _).new _).kill (by omega)
  simp only [pwA,seval,-iQ0,hilx,pisAt hilx];refine iteI (fun h0=>?_) fun h0=>?_
  ·have hr:=hFr
   -- the inverse of the power is not asked for; any will do
   obtain⟨y2,h2a,h2b,_⟩:=F.gp.inv (a:=pvec P i) (by rw [show O.length-d=i+1 by omega];exact hpv)
   rw [show O.length-d=i+1 by omega]at h2a
   have:=(zIQ s (by omega) F F1 hx hy1 h2a e1 h2b).1 h0
   exact Gh.fin0 hkp (hv1.bel _) (hk v1 y1 hv1 (hy1.mono (by omega)) this)
  have hol:i<(zv O).length:=by simp;exact hil
  have hol1:i+1≤O.length:=hil;have hsub:IntKind.i64.wrap (at_ O i-at_ x i)=at_ O i-at_ x i:=wrap64 (by omega) (by omega)
  have hset:=qm hol (x:=at_ O i-at_ x i);have ht:TT O i ((zv O).set i (at_ O i-at_ x i)):=(s.zv i).set hil (Nat.le_refl _) ⟨by omega,by omega⟩
  simp only [pwA,seval,-iQ0,List.length_replicate,ZJ,mk8 (n:=O.length) (by omega),mkL (n:=O.length) (by omega),hilx,pisAt hilx,hil,hol1,pisAt hil,hsub,qK,hset,wi1,hiP,hpr]
  refine zA.frz (s:=σ.next+2) (cs:=pis ((zv O).set i (at_ O i-at_ x i))) (by simp only [pwA,seval,-iQ0]) (zo _ _) fun o2=>?_
  simp only [sbs,sb,capOK,Nat.le_refl,decide_true,and_self,if_true,hR0.O.sb,hR0.P.sb,hR0.C.sb,hv1.sb];have hy1':TT O i y1:=hy1.mono (by omega)
  refine hAt hR0 hy1' ht hv1 (FI.mk (by simp)) fun v3 hv3=>?_
  simp only [pwA,seval,-iQ0,wi1,hiP,hpr];refine hFr _ _ (pvec P i) _ _ _ _ hR0 hpv (FI.mk hpv.len) fun v2 y2 hv2 hy2 e2=>?_
  have hy2':TT O i y2:=hy2.mono (by omega)
  have h12:=G1.cl hy1' ht;simp only [pwA,seval,-iQ0,wi1,hiP,hpr];refine hAt hR0 h12 hy2' hv3 hv2 fun v4 hv4=>?_
  simp only [pwA,seval,-iQ0]
  have:=(zIQ s (by omega) F F1 hx hy1 hy2 e1 e2).2 h0
  exact Gh.fin0 (((((zC σ _).new _).kill (by omega)).new _).kill (by omega)) (hv4.bel _) (hk v4 _ hv4 (G1.cl h12 hy2') this)
theorem zDL (s:Shp O P C) (hc:Cons O P C) (hR:IsPr vO vP vC O P C) (hx:gS O x) (hvx:FI vx x) (hk:∀v,FI v (ginv (gS O) (gm O P C) (zv O) x)→K v σ):zA Tryz.prog 109 [.agg [vO,vP,vC],vx] σ K:=by
 have h0:=hR.O.one;have h1:=hR.P.one;have h2:=hR.C.one;have G:=(full_of s (Nat.le_refl _) fun j _ h=>hc j h).g
 refine zA.gh ?_;refine zB mix Tryz.func109 ?_;simp only [pwA,seval,-iQ0,h0,h1,h2];refine zFh s hc (d:=O.length) (i:=0) (by omega) _ _ x _ _ _ _ hR hx hvx fun v y hv hy e=>?_
 simp only [pwA,seval,-iQ0]
 have:=G.inv_eq hx hy e
 rw [←this]at hk
 exact Gh.fin0 (zC σ _) (hv.bel _) (hk v hv)
end Go.Proofs
namespace Go.Grp
end Go.Grp
namespace Go.Proofs
open Go.Ab Go.Lie Go.Grp
variable {σ:PHeap} {K:PV→PHeap→Prop} {O:List Int} {P:List (List Int)} {C:List (List (List Int))} {vO vP vC vx vy vf va vb:PV} {x y f a b:List Int} {rP rC:List PV} {d j sp:Nat}
theorem Zn (s:Shp O P C) (hR:IsPr vO vP vC O P C) (ha:gS O a) (hb:gS O b) (hva:FI va a) (hvb:FI vb b) (hk:∀v,FI v (gm O P C a b)→K v σ):zA Tryz.prog 108 [.agg [vO,vP,vC],va,vb] σ K:=by
 have h0:=hR.O.one;have h1:=hR.P.one;have h2:=hR.C.one;refine zA.gh ?_;refine zB mix Tryz.func108 ?_;simp only [pwA,seval,-iQ0,h0,h1,h2];refine zAW s (d:=O.length) (i:=0) (by omega) hR ha hb hva hvb fun v hv=>?_
 simp only [pwA,seval,-iQ0];exact Gh.fin0 (zC σ _) (hv.bel _) (hk v hv)
theorem zLD (s:Shp O P C) (hc:Cons O P C) (hR:IsPr vO vP vC O P C) (hx:gS O x) (hy:gS O y) (hvx:FI vx x) (hvy:FI vy y) (hk:∀v,FI v (gcom O P C x y)→K v σ):zA Tryz.prog 117 [.agg [vO,vP,vC],vx,vy] σ K:=by
 have h0:=hR.O.one;have h1:=hR.P.one;have h2:=hR.C.one;have G:=(full_of s (Nat.le_refl _) fun j _ h=>hc j h).g
 have hyx:=G.cl hy hx;have hxy:=G.cl hx hy;have hi:=(G.inv_in hyx).1;refine zA.gh ?_;refine zB mix Tryz.func117 ?_;simp only [pwA,seval,-iQ0,h0,h1,h2];refine Zn s hR hy hx hvy hvx fun v1 f1=>?_
 simp only [pwA,seval,-iQ0,h0,h1,h2];refine zDL s hc hR hyx f1 fun v2 f2=>?_
 simp only [pwA,seval,-iQ0,h0,h1,h2];refine Zn s hR hx hy hvx hvy fun v3 f3=>?_
 simp only [pwA,seval,-iQ0,h0,h1,h2];refine Zn s hR hi hxy f2 f3 fun v4 f4=>?_
 simp only [pwA,seval,-iQ0];have e:gm O P C (ginv (gS O) (gm O P C) (zv O) (gm O P C y x)) (gm O P C x y)=gcom O P C x y:=
  G.com_eq hx hy (G.cl hi hxy) (by rw [←G.as hyx hi hxy,G.inv_r hyx,G.l1 hxy])
 rw [e]at f4
 exact Gh.fin0 (zC σ _) (f4.bel _) (hk v4 f4)
end Go.Proofs
namespace Go.Grp
end Go.Grp
namespace Go.Proofs
open Go.Ab Go.Lie Go.Grp
variable {σ:PHeap} {K:PV→PHeap→Prop} {O:List Int} {P:List (List Int)} {C:List (List (List Int))} {vO vP vC vx vy vL:PV} {x y f a b:List Int} {L:List (List Int)} {rP rC:List PV} {d j sp:Nat}
theorem zRj (hx:x.length=O.length):isZ x↔x=zv O:=by
 constructor
 ·intro h
  refine zCA (by simp [hx]) fun j hj=>?_
  rw [at_eq hj,Zu];exact h _ (List.getElem_mem hj)
 ·rintro rfl y hy
  exact List.eq_of_mem_replicate hy
end Go.Proofs
namespace Go.Grp
open Go.Ab Go.Lie
variable {O:List Int} {P:List (List Int)} {C:List (List (List Int))} {x y z a b c g:List Int} {D:List (Option (List Int))} {t i k d:Nat} {N:List Int→Prop}
theorem Ze (hx:gS O x):TT O (dep x) x:=⟨hx.len,hx.bd,fun j hj=>qw hj⟩
theorem dep_ge (hx:TT O t x) (ht:t≤O.length):t≤dep x:=by
 rcases Nat.lt_or_ge (dep x) t with h|h
 ·have hl:=hx.len
  exact absurd (hx.zero _ h) (Z4 (by omega))
 ·exact h
theorem Zz (hx:gS O x) (h:O.length≤dep x):x=zv O:=by
 refine zCA (by rw [hx.len];simp) fun j hj=>?_
 rw [Zu];exact qw (by have:=hx.len;omega)
theorem zFC (s:Shp O P C):dep (zv O)=O.length:=by
 have h1:=dep_ge (t:=O.length) (s.zv _) (Nat.le_refl _);have h2:=zBT (zv O);rw [(s.zv 0).len]at h2
 omega
theorem zBX {o a b:Int} (ha:0≤a∧a<o) (hb:0≤b∧b<o):addm o a b=(a+b) % o:=by
 unfold addm
 split
 ·have:(a+b) % o=(a+b-o) % o:=by rw [Int.sub_emod_right]
  rw [this,Int.emod_eq_of_lt (by omega) (by omega)]
 ·rw [Int.emod_eq_of_lt (by omega) (by omega)]
section
variable (s:Shp O P C) (F:Full O P C O.length) (hC:Cent O C)
include s F hC
theorem Z9 (ht:t<O.length) (hx:TT O t x):∀k:Nat,TT O t (pw (gm O P C) (zv O) x k)∧at_ (pw (gm O P C) (zv O) x k) t=((k:Int)*at_ x t) % at_ O t
 | 0=>⟨s.zv _,by show at_ (zv O) t=_;rw [Zu];simp⟩
 | k+1=>by
  obtain⟨h1,h2⟩:=Z9 ht hx k;have hO:=s.pr t ht;obtain⟨_,g2⟩:=ZR s (d:=O.length) (b:=pw (gm O P C) (zv O) x k) (a:=x) (t:=t) (Nat.le_refl _) (by omega) ht (by rw [Nat.sub_self];exact h1.mono (Nat.zero_le _)) hx
  refine⟨tt_cl s F hC (Nat.le_of_lt ht) h1 hx,?_⟩;show at_ (mu O P C O.length (pw (gm O P C) (zv O) x k) x) t=_;rw [g2,zBX (h1.bd t ht) (hx.bd t ht),h2,Int.emod_add_emod]
  congr 1
  grind
theorem zLl (ht:t<O.length) (hx:TT O t x) (hb:TT O t b) (hb1:at_ b t=1):TT O (t+1) (gm O P C (pw (gm O P C) (zv O) b (at_ O t-at_ x t).toNat) x):=by
 obtain⟨h1,h2⟩:=Z9 s F hC ht hb (at_ O t-at_ x t).toNat;have bx:=hx.bd t ht;obtain⟨_,g2⟩:=ZR s (d:=O.length) (b:=pw (gm O P C) (zv O) b (at_ O t-at_ x t).toNat) (a:=x) (t:=t) (Nat.le_refl _) (by omega) ht (by rw [Nat.sub_self];exact h1.mono (Nat.zero_le _)) hx
 have h0:=tt_cl s F hC (Nat.le_of_lt ht) h1 hx;have hz:at_ (gm O P C (pw (gm O P C) (zv O) b (at_ O t-at_ x t).toNat) x) t=0:=by
  show at_ (mu O P C O.length _ _) t=0;rw [g2,zBX (h1.bd t ht) bx,h2,hb1,Int.mul_one,Int.emod_add_emod,Int.toNat_of_nonneg (by omega),show at_ O t-at_ x t+at_ x t=at_ O t by omega,Int.emod_self]
 refine⟨h0.len,h0.bd,fun j hj=>?_⟩
 rcases Nat.lt_or_ge j t with h|h
 ·exact h0.zero j h
 ·rw [show j=t by omega];exact hz
theorem zHe (ht:t<O.length) (hx:gS O x) (hb:TT O t b) (hb1:at_ b t=1):gS O (gm O P C x b)∧Upto O t (gm O P C x b) x∧at_ (gm O P C x b) t=(at_ x t+1) % at_ O t:=by
 obtain⟨g1,g2⟩:=ZR s (d:=O.length) (b:=x) (a:=b) (t:=t) (Nat.le_refl _) (by omega) ht (by rw [Nat.sub_self];exact hx) hb
 refine⟨F.g.cl hx (hb.mono (Nat.zero_le _)),g1,?_⟩;show at_ (mu O P C O.length x b) t=_;rw [g2,zBX (hx.bd t ht) (hb.bd t ht),hb1]
end
structure OkD (O:List Int) (D:List (Option (List Int))):Prop where
 len:D.length=O.length
 row:∀(d:Nat) (y:List Int),D[d]? = some (some y)→TT O d y∧at_ y d=1
def InD (N:List Int→Prop) (D:List (Option (List Int))):Prop:=∀(d:Nat) (y:List Int),D[d]? = some (some y)→N y
def free:List (Option (List Int))→Nat
 | []=>0
 | none::D=>free D+1
 | some _::D=>free D
theorem zA6:∀D,free D≤D.length
 | []=>Nat.le_refl _
 | none::D=>by have:=zA6 D;simp only [free,List.length_cons];omega
 | some _::D=>by have:=zA6 D;simp only [free,List.length_cons];omega
theorem zEy {y:List Int}:∀{D:List (Option (List Int))} {d:Nat},D[d]? = some none→free (D.set d (some y))+1=free D
 | [],d,h=>by simp at h
 | v::D,0,h=>by
  simp only [List.getElem?_cons_zero,Option.some.injEq]at h
  subst h;rfl
 | v::D,d+1,h=>by
  have:=zEy (y:=y) (D:=D) (d:=d) (by simpa using h)
  cases v<;>simp only [List.set_cons_succ,free]<;>omega
theorem OkD.put (h:OkD O D) (hd:d<O.length) (hy:TT O d y) (h1:at_ y d=1):OkD O (D.set d (some y)):=by
 refine⟨by rw [List.length_set];exact h.len,fun e v hv=>?_⟩
 rw [List.getElem?_set]at hv
 split at hv
 ·rename_i he;subst he
  split at hv
  ·cases hv;exact⟨hy,h1⟩
  ·cases hv
 ·exact h.row e v hv
theorem InD.put (hd:D[d]? = some none):InD N (D.set d (some y))↔InD N D∧N y:=by
  have hl:d<D.length:=by
    rcases Nat.lt_or_ge d D.length with h|h
    · exact h
    · rw [List.getElem?_eq_none h]at hd;cases hd
  constructor
  · intro h
    refine⟨fun e v hv=>h e v ?_,h d y ?_⟩
    · rw [List.getElem?_set,if_neg fun he=>by subst he;rw [hd]at hv;cases hv];exact hv
    · rw [List.getElem?_set,if_pos rfl,if_pos hl]
  · rintro ⟨h1,h2⟩ e v hv
    rw [List.getElem?_set]at hv
    split at hv
    · rename_i he;subst he
      first
      | (cases hv;exact h2)
      | (split at hv
         · cases hv;exact h2
         · cases hv)
    · exact h1 e v hv
theorem OkD.start (n:Nat) (hn:n=O.length):OkD O (List.replicate n none):=⟨by simp [hn],fun d y h=>by
 rw [List.getElem?_replicate]at h
 split at h<;>cases h⟩
theorem InD.start (n:Nat):InD N (List.replicate n none):=fun d y h=>by
 rw [List.getElem?_replicate]at h
 split at h<;>cases h
end Go.Grp
namespace Go.Grp
open Go.Ab Go.Lie
variable {O:List Int} {P:List (List Int)} {C:List (List (List Int))} {x y z a b c g w w':List Int} {t i k d:Nat} {N:List Int→Prop}
section
variable {α:Type} {S:α→Prop} {m:α→α→α} {e:α}
theorem Mon.pw_e (M:Mon S m e):∀k,Grp.pw m e e k=e
 | 0=>rfl
 | k+1=>by
  show m (Grp.pw m e e k) e=e;rw [M.pw_e k];exact M.l1 M.one
theorem Mon.pw_mul (M:Mon S m e) {x:α} (hx:S x) (a:Nat):∀b,Grp.pw m e x (a*b)=Grp.pw m e (Grp.pw m e x a) b
 | 0=>rfl
 | b+1=>by
  rw [Nat.mul_succ,M.pw_add hx,M.pw_mul hx a b];rfl
end
section
variable (s:Shp O P C) (F:Full O P C O.length) (hC:Cent O C)
include s F hC
theorem zJ6 (ht:t<O.length) (hx:TT O t x):TT O (t+1) (Grp.pw (gm O P C) (zv O) x (at_ O t).toNat):=by
 obtain⟨h1,h2⟩:=Z9 s F hC ht hx (at_ O t).toNat;refine⟨h1.len,h1.bd,fun j hj=>?_⟩
 rcases Nat.lt_or_ge j t with h|h
 ·exact h1.zero j h
 ·rw [show j=t by omega,h2,Int.toNat_of_nonneg (by have:=s.pr t ht;omega),Int.mul_emod_right]
omit hC in
end
end Go.Grp
namespace Go.Grp
open Go.Ab Go.Lie
section
variable {α:Type} [Inhabited α] {S:α→Prop} {m:α→α→α} {e:α} {x y a:α} {N:α→Prop}
structure GSub (S:α→Prop) (m:α→α→α) (e:α) (N:α→Prop):Prop where
 inS:∀{x},N x→S x
 one:N e
 cl:∀{x y},N x→N y→N (m x y)
 inv:∀{x},N x→N (ginv S m e x)
theorem Gp.wholeB (G:Gp S m e):GSub S m e S:=⟨id,G.one,fun a b=>G.cl a b,fun a=>(G.inv_in a).1⟩
theorem GSub.com_in (h:GSub S m e N) (hx:N x) (hy:N y):N (com S m e x y):=h.cl (h.inv hx) (h.cl (h.inv hy) (h.cl hx hy))
theorem GSub.quot (G:Gp S m e) (h:GSub S m e N) (ha:N a) (hx:S x) (hn:N (m a x)):N x:=by
 have h1:=h.cl (h.inv ha) hn
 rwa [←G.as (h.inS (h.inv ha)) (h.inS ha) hx,G.inv_l (h.inS ha),G.l1 hx]at h1
theorem GSub.quotR (G:Gp S m e) (h:GSub S m e N) (ha:N a) (hx:S x) (hn:N (m x a)):N x:=by
 have h1:=h.cl hn (h.inv ha)
 rwa [G.as hx (h.inS ha) (h.inS (h.inv ha)),G.inv_r (h.inS ha),G.r1 hx]at h1
theorem GSub.pw (h:GSub S m e N) (hx:N x):∀k,N (Grp.pw m e x k)
 | 0=>h.one
 | k+1=>h.cl (h.pw hx k) hx
theorem Gp.com_swap' (G:Gp S m e) (hx:S x) (hy:S y):com S m e y x=ginv S m e (com S m e x y):=by
 have h1:=G.com_spec hx hy;have h2:=G.com_spec hy hx;have c1:=G.com_in hx hy;have c2:=G.com_in hy hx;refine G.inv_eq c1 c2 ?_;refine G.cancel (G.cl hy hx) (G.cl c1 c2) G.one ?_;rw [←G.as (G.cl hy hx) c1 c2,h1,h2,G.r1 (G.cl hy hx)]
end
variable {O:List Int} {P:List (List Int)} {C:List (List (List Int))} {x y z a b c g:List Int} {D D':List (Option (List Int))} {t i k d:Nat} {N H:List Int→Prop} {L u u' Q:List (List Int)}
abbrev gB (O:List Int) (P:List (List Int)) (C:List (List (List Int))) (N:List Int→Prop):Prop:=GSub (gS O) (gm O P C) (zv O) N
inductive Rdu (O:List Int) (P:List (List Int)) (C:List (List (List Int))) (D:List (Option (List Int))):List Int→List Int→Prop where
 | refl (x:List Int):Rdu O P C D x x
 | left {d j:Nat} {b x x' z:List Int} (hd:d<O.length) (hb:D[d]? = some (some b)) (hx:TT O d x) (h0:at_ x d≠0) (hx':TT O (d+1) x') (e:x=gm O P C (pw (gm O P C) (zv O) b j) x') (r:Rdu O P C D x' z):Rdu O P C D x z
 | right {d j:Nat} {b x x' z:List Int} (hd:d<O.length) (hb:D[d]? = some (some b)) (hx:TT O d x) (h0:at_ x d≠0) (hx':TT O (d+1) x') (e:x=gm O P C x' (pw (gm O P C) (zv O) b j)) (r:Rdu O P C D x' z):Rdu O P C D x z
theorem Rdu.trans (h:Rdu O P C D x y) (g:Rdu O P C D y z):Rdu O P C D x z:=by
 induction h with
 | refl x=>exact g
 | left hd hb hx h0 hx' e r ih=>exact .left hd hb hx h0 hx' e (ih g)
 | right hd hb hx h0 hx' e r ih=>exact .right hd hb hx h0 hx' e (ih g)
def Sup (D D':List (Option (List Int))):Prop:=∀(d:Nat) (b:List Int),D[d]? = some (some b)→D'[d]? = some (some b)
theorem Rdu.mono (h:Rdu O P C D x z) (s:Sup D D'):Rdu O P C D' x z:=by
 induction h with
 | refl x=>exact .refl x
 | left hd hb hx h0 hx' e r ih=>exact .left hd (s _ _ hb) hx h0 hx' e ih
 | right hd hb hx h0 hx' e r ih=>exact .right hd (s _ _ hb) hx h0 hx' e ih
theorem Rdu.iff (F:Full O P C O.length) (hN:gB O P C N) (hD:InD N D) (h:Rdu O P C D x z):N x↔N z:=by
 have G:=F.g
 induction h with
 | refl x=>exact Iff.rfl
 | left hd hb hx h0 hx' e r ih=>
  refine Iff.trans ?_ ih;rw [e];exact⟨fun h=>hN.quot G (hN.pw (hD _ _ hb) _) (hx'.mono (Nat.zero_le _)) h,fun h=>hN.cl (hN.pw (hD _ _ hb) _) h⟩
 | right hd hb hx h0 hx' e r ih=>
  refine Iff.trans ?_ ih;rw [e];exact⟨fun h=>hN.quotR G (hN.pw (hD _ _ hb) _) (hx'.mono (Nat.zero_le _)) h,fun h=>hN.cl h (hN.pw (hD _ _ hb) _)⟩
theorem Sup.put (hd:D[d]? = some none):Sup D (D.set d (some y)):=fun e b hb=>by
 rw [List.getElem?_set]
 split
 ·rename_i h;rw [←h,hd]at hb;cases hb
 ·exact hb
def RQ (O:List Int) (P:List (List Int)) (C:List (List (List Int))) (D:List (Option (List Int))) (Q:List (List Int)) (x:List Int):Prop:=∃z,Rdu O P C D x z∧(z=zv O∨z∈Q)
structure QI (O:List Int) (P:List (List Int)) (C:List (List (List Int))) (D:List (Option (List Int))) (Q:List (List Int)):Prop where
 pow:∀(d:Nat) (b:List Int),D[d]? = some (some b)→RQ O P C D Q (pw (gm O P C) (zv O) b (at_ O d).toNat)
 com:∀(d e:Nat) (b c:List Int),d≠e→D[d]? = some (some b)→D[e]? = some (some c)→RQ O P C D Q (gcom O P C b c)∨RQ O P C D Q (gcom O P C c b)
theorem RQ.step {Q':List (List Int)} (h:RQ O P C D (x::Q) y) (s:Sup D D') (hx:Rdu O P C D x z) (hz:z=zv O∨z∈Q') (hQ:∀q∈Q,q∈Q'):RQ O P C D' Q' y:=by
 obtain⟨w,h1,h2⟩:=h;rcases h2 with rfl|h2
 ·exact⟨_,h1.mono s,.inl rfl⟩
 ·rcases List.mem_cons.1 h2 with rfl | h2
  ·exact⟨z,(h1.trans hx).mono s,hz⟩
  ·exact⟨w,h1.mono s,.inr (hQ w h2)⟩
theorem zEo {n d:Nat} {b:List Int} (h:(List.replicate n (none:Option (List Int)))[d]? = some (some b)):False:=by
 rw [List.getElem?_replicate]at h
 split at h<;>cases h
theorem QI.start (n:Nat):QI O P C (List.replicate n none) Q:=⟨fun d b h=>(zEo h).elim,fun d e b c _ h _=>(zEo h).elim⟩
theorem QI.mem {Q':List (List Int)} (h:QI O P C D Q) (hQ:∀q∈Q,q∈Q'):QI O P C D Q':=
 have r:∀{x},RQ O P C D Q x→RQ O P C D Q' x:=fun⟨z,h1,h2⟩=>⟨z,h1,h2.imp id (hQ z)⟩
 ⟨fun d b hb=>r (h.pow d b hb),fun d e b c hne hb hc=>(h.com d e b c hne hb hc).imp r r⟩
theorem QI.drop (h:QI O P C D (x::Q)) (hx:Rdu O P C D x (zv O)):QI O P C D Q:=
 have r:∀{y},RQ O P C D (x::Q) y→RQ O P C D Q y:=fun h=>h.step (fun d b hb=>hb) hx (.inl rfl) fun q hq=>hq
 ⟨fun d b hb=>r (h.pow d b hb),fun d e b c hne hb hc=>(h.com d e b c hne hb hc).imp r r⟩
theorem QI.put {Q':List (List Int)} (h:QI O P C D (x::Q)) (hx:Rdu O P C D x z) (hd:D[d]? = some none) (hz:z∈Q') (hQ:∀q∈Q,q∈Q') (hp:pw (gm O P C) (zv O) y (at_ O d).toNat∈Q') (hc:∀(e:Nat) (b:List Int),D[e]? = some (some b)→gcom O P C b y∈Q'∨gcom O P C y b∈Q'):QI O P C (D.set d (some y)) Q':=by
  have hl:d<D.length:=by
    rcases Nat.lt_or_ge d D.length with h|h
    · exact h
    · rw [List.getElem?_eq_none h]at hd;cases hd
  have s:Sup D (D.set d (some y)):=Sup.put hd;have r:∀{w},RQ O P C D (x::Q) w→RQ O P C (D.set d (some y)) Q' w:=fun h=>h.step s hx (.inr hz) hQ
  have ge:∀(e:Nat) (b:List Int),(D.set d (some y))[e]? = some (some b)→(e=d∧b=y)∨(e≠d∧D[e]? = some (some b)):=fun e b hb=>by
    rw [List.getElem?_set]at hb
    split at hb
    · rename_i he
      subst he
      first
      | (cases hb;exact .inl ⟨rfl,rfl⟩)
      | (split at hb
         · cases hb;exact .inl ⟨rfl,rfl⟩
         · cases hb)
    · rename_i he;exact .inr ⟨fun h=>he h.symm,hb⟩
  refine⟨fun e b hb=>?_,fun e e' b c hne hb hc'=>?_⟩
  · rcases ge e b hb with ⟨k1,k2⟩ | ⟨_,hb2⟩
    · rw [k1,k2];exact⟨_,.refl _,.inr hp⟩
    · exact r (h.pow e b hb2)
  · rcases ge e b hb with ⟨k1,k2⟩ | ⟨h1,hb2⟩
    · rcases ge e' c hc' with ⟨l1,l2⟩ | ⟨h2,hc2⟩
      · omega
      · rw [k2]
        rcases hc e' c hc2 with h3|h3
        · exact .inr ⟨_,.refl _,.inr h3⟩
        · exact .inl ⟨_,.refl _,.inr h3⟩
    · rcases ge e' c hc' with ⟨l1,l2⟩ | ⟨h2,hc2⟩
      · rw [l2]
        rcases hc e b hb2 with h3|h3
        · exact .inl ⟨_,.refl _,.inr h3⟩
        · exact .inr ⟨_,.refl _,.inr h3⟩
      · exact(h.com e e' b c hne hb2 hc2).imp r r
section
variable (s:Shp O P C) (F:Full O P C O.length) (hC:Cent O C)
include s F hC
theorem zJ1 (hx:gS O x):∃E:Nat,0<E∧pw (gm O P C) (zv O) x E=zv O:=by
 have M:=F.g.toMon
 have:∀t,t≤O.length→∃E:Nat,0<E∧TT O t (pw (gm O P C) (zv O) x E):=by
  intro t
  induction t with
  | zero=>intro _;exact⟨1,by omega,by rw [M.pw_one hx];exact hx⟩
  | succ t ih=>
   intro ht;obtain⟨E,h1,h2⟩:=ih (by omega)
   have hO:=s.pr t (by omega)
   refine⟨E*(at_ O t).toNat,Nat.mul_pos h1 (by omega),?_⟩
   rw [M.pw_mul hx];exact zJ6 s F hC (by omega) h2
 obtain⟨E,h1,h2⟩:=this O.length (Nat.le_refl _);exact⟨E,h1,h2.ext (s.zv _) fun j h1 h2=>by omega⟩
theorem zCF (inS:∀x,N x→gS O x) (one:N (zv O)) (cl:∀x y,N x→N y→N (gm O P C x y)):gB O P C N:=by
 have G:=F.g;have pwN:∀{x},N x→∀k,N (pw (gm O P C) (zv O) x k):=fun {x} hx k=>by
  induction k with
  | zero=>exact one
  | succ k ih=>exact cl _ _ ih hx
 refine⟨fun h=>inS _ h,one,fun h g=>cl _ _ h g,fun {x} hx=>?_⟩
 obtain⟨E,h1,h2⟩:=zJ1 s F hC (inS x hx);have e:pw (gm O P C) (zv O) x (E-1)=ginv (gS O) (gm O P C) (zv O) x:=by
  refine G.inv_eq (inS x hx) (inS _ (pwN hx _)) ?_
  have:=G.pw_comm (inS x hx) (E-1)
  rw [←this];rw [show E=(E-1)+1 by omega]at h2
  exact h2
 rw [←e];exact pwN hx _
def HD (O:List Int) (P:List (List Int)) (C:List (List (List Int))) (D:List (Option (List Int))) (t:Nat) (x:List Int):Prop:=TT O t x∧Rdu O P C D x (zv O)
omit hC in
theorem HD.row (ok:OkD O D) (hb:D[d]? = some (some b)) (hd:d<O.length):HD O P C D d b:=by
 have M:=F.g.toMon;obtain⟨h1,h2⟩:=ok.row d b hb;have hb0:gS O b:=h1.mono (Nat.zero_le _);refine⟨h1,.left (j:=1) hd hb h1 (by rw [h2];decide) (s.zv _) ?_ (.refl _)⟩
 rw [M.pw_one hb0];exact(M.r1 hb0).symm
theorem HD.nn (hn:D[t]? = some none) (h:HD O P C D t x):HD O P C D (t+1) x:=by
 obtain⟨h1,h2⟩:=h;refine⟨?_,h2⟩;have key:∀{d:Nat} {b:List Int},D[d]? = some (some b)→TT O d x→at_ x d≠0→TT O (t+1) x:=fun {d b} hb hx h0=>by
  rcases Nat.lt_trichotomy d t with h|h|h
  ·exact absurd (h1.zero d h) h0
  ·rw [h,hn]at hb;cases hb
  ·exact hx.mono h
 cases h2 with
 | refl=>exact s.zv _
 | left hd hb hx h0 hx' e r=>exact key hb hx h0
 | right hd hb hx h0 hx' e r=>exact key hb hx h0
theorem HD.cnjb (ok:OkD O D) (q:QI O P C D []) (ht:t<O.length) (hb:D[t]? = some (some b)) (hs:gB O P C (HD O P C D (t+1))):∀{x z:List Int},Rdu O P C D x z→z=zv O→TT O (t+1) x→HD O P C D (t+1) (cnj (gS O) (gm O P C) (zv O) x b):=by
 have G:=F.g;have bS:gS O b:=(ok.row t b hb).1.mono (Nat.zero_le _);have cm:∀{x y:List Int},gS O x→gS O y→cnj (gS O) (gm O P C) (zv O) (gm O P C x y) b=gm O P C (cnj (gS O) (gm O P C) (zv O) x b) (cnj (gS O) (gm O P C) (zv O) y b):=fun {x y} hx hy=>by
  have c1:=G.cnj_in hx bS;have c2:=G.cnj_in hy bS;refine(G.cnj_eq (G.cl hx hy) bS (G.cl c1 c2) ?_).symm;rw [←G.as bS c1 c2,G.cnj_spec hx bS,G.as hx bS c2,G.cnj_spec hy bS,←G.as hx hy bS]
 have cone:cnj (gS O) (gm O P C) (zv O) (zv O) b=zv O:=G.cnj_one bS;have cpw:∀{c:List Int},gS O c→HD O P C D (t+1) (cnj (gS O) (gm O P C) (zv O) c b)→∀j,HD O P C D (t+1) (cnj (gS O) (gm O P C) (zv O) (pw (gm O P C) (zv O) c j) b):=fun {c} hc h j=>by
  induction j with
  | zero=>show HD O P C D (t+1) (cnj _ _ _ (zv O) b);rw [cone];exact hs.one
  | succ j ih=>
   show HD O P C D (t+1) (cnj _ _ _ (gm O P C _ c) b);rw [cm (G.pw hc j) hc];exact hs.cl ih h
 have row:∀{d:Nat} {c:List Int},t+1≤d→d<O.length→D[d]? = some (some c)→gS O c∧HD O P C D (t+1) (cnj (gS O) (gm O P C) (zv O) c b):=fun {d c} h1 h2 hc=>by
  have cT:=(ok.row d c hc).1;have cS:gS O c:=cT.mono (Nat.zero_le _);refine⟨cS,?_⟩;rw [←G.cnj_com cS bS];have hcr:=HD.row s F ok hc h2;have hcH:HD O P C D (t+1) c:=⟨hcr.1.mono h1,hcr.2⟩;refine hs.cl hcH ?_;have T1:TT O (t+1) (gcom O P C c b):=zRH s F hC ht hcH.1 (ok.row t b hb).1;have e0:∀{w},RQ O P C D [] w→Rdu O P C D w (zv O):=fun⟨z,h1,h2⟩=>by
   rcases h2 with rfl|h2
   ·exact h1
   ·cases h2
  rcases q.com t d b c (by omega) hb hc with h3|h3
  ·have sw1:gcom O P C b c=ginv (gS O) (gm O P C) (zv O) (gcom O P C c b):=G.com_swap' cS bS
   have sw2:gcom O P C c b=ginv (gS O) (gm O P C) (zv O) (gcom O P C b c):=G.com_swap' bS cS;have T2:TT O (t+1) (gcom O P C b c):=by rw [sw1];exact zHW s F hC ht T1
   have T3:HD O P C D (t+1) (gcom O P C c b):=by rw [sw2];exact hs.inv ⟨T2,e0 h3⟩
   exact T3
  ·exact⟨T1,e0 h3⟩
 intro x z h
 induction h with
 | refl x=>rintro rfl hx;rw [cone];exact hs.one
 | @left d j c x x' z hd hc hx h0 hx' e r ih=>
  intro hz hT;have hdt:t+1≤d:=by
   rcases Nat.lt_or_ge d (t+1)with h|h
   ·exact absurd (hT.zero d h) h0
   ·exact h
  obtain⟨r1,r2⟩:=row hdt hd hc;have hx'S:gS O x':=hx'.mono (Nat.zero_le _);rw [e,cm (G.pw r1 j) hx'S];exact hs.cl (cpw r1 r2 j) (ih hz (hx'.mono (by omega)))
 | @right d j c x x' z hd hc hx h0 hx' e r ih=>
  intro hz hT;have hdt:t+1≤d:=by
   rcases Nat.lt_or_ge d (t+1)with h|h
   ·exact absurd (hT.zero d h) h0
   ·exact h
  obtain⟨r1,r2⟩:=row hdt hd hc;have hx'S:gS O x':=hx'.mono (Nat.zero_le _);rw [e,cm hx'S (G.pw r1 j)];exact hs.cl (ih hz (hx'.mono (by omega))) (cpw r1 r2 j)
theorem HD.sub (ok:OkD O D) (q:QI O P C D []):∀k t,t+k=O.length→gB O P C (HD O P C D t)
 | 0,t,ht=>by
  have hz:∀x,HD O P C D t x→x=zv O:=fun x hx=>hx.1.ext (s.zv _) fun j h1 h2=>by omega
  have h0:HD O P C D t (zv O):=⟨s.zv _,.refl _⟩;refine zCF s F hC (fun x hx=>hx.1.mono (Nat.zero_le _)) h0 fun x y hx hy=>?_
  rw [hz x hx,hz y hy,F.g.l1 F.g.one];exact h0
 | k+1,t,ht=>by
  have ih:=HD.sub ok q k (t+1) (by omega)
  have G:=F.g;have htl:t<O.length:=by omega
  have hDl:t<D.length:=by rw [ok.len];exact htl
  rcases hD:D[t]? with _|_|b
  ·rw [List.getElem?_eq_getElem hDl]at hD;cases hD
  ·refine zCF s F hC (fun x hx=>hx.1.mono (Nat.zero_le _)) ⟨s.zv _,.refl _⟩ fun x y hx hy=>?_
   have:=ih.cl (HD.nn s F hC hD hx) (HD.nn s F hC hD hy)
   exact⟨this.1.mono (by omega),this.2⟩
  ·obtain⟨bT,b1⟩:=ok.row t b hD
   have bS:gS O b:=bT.mono (Nat.zero_le _);have inS:∀{x},HD O P C D (t+1) x→gS O x:=fun h=>h.1.mono (Nat.zero_le _)
   -- products of a power of b and a member behind
   have mk:∀(j:Nat) {h:List Int},HD O P C D (t+1) h→HD O P C D t (gm O P C (pw (gm O P C) (zv O) b j) h):=fun j {h} hh=>by
    obtain⟨p1,p2⟩:=Z9 s F hC htl bT j;have hhS:=inS hh;have T:=tt_cl s F hC (Nat.le_of_lt htl) p1 (hh.1.mono (Nat.le_succ _));refine⟨T,?_⟩;obtain⟨_,g2⟩:=ZR s (d:=O.length) (b:=pw (gm O P C) (zv O) b j) (a:=h) (t:=t) (Nat.le_refl _) (by omega) htl (by rw [Nat.sub_self];exact p1.mono (Nat.zero_le _)) (hh.1.mono (Nat.le_succ _))
    have hO:=s.pr t htl;have e2:at_ (gm O P C (pw (gm O P C) (zv O) b j) h) t=(j:Int) % at_ O t:=by
     show at_ (mu O P C O.length _ _) t=_;rw [g2,zBX (p1.bd t htl) (hh.1.bd t htl),hh.1.zero t (Nat.lt_succ_self _),p2,b1,Int.mul_one,Int.add_zero,Int.emod_emod_of_dvd _ (Int.dvd_refl _)]
    by_cases h0:(j:Int) % at_ O t=0
    ·obtain⟨r,hr⟩:=Int.dvd_of_emod_eq_zero h0
     have hr0:0≤r:=by
      rcases Int.lt_or_le r 0 with h|h
      ·have:=Int.mul_neg_of_pos_of_neg (show 0<at_ O t by omega) h;omega
      ·exact h
     have ej:j=(at_ O t).toNat*r.toNat:=by
      have:((j:Nat):Int)=(((at_ O t).toNat*r.toNat:Nat):Int):=by rw [Int.natCast_mul,Int.toNat_of_nonneg hr0,Int.toNat_of_nonneg (by omega),hr]
      omega
     have hp:HD O P C D (t+1) (pw (gm O P C) (zv O) b (at_ O t).toNat):=by
      refine⟨zJ6 s F hC htl bT,?_⟩;obtain⟨z,h1,h2⟩:=q.pow t b hD;rcases h2 with rfl|h2
      ·exact h1
      ·cases h2
     rw [ej,G.pw_mul bS];exact(ih.cl (ih.pw hp r.toNat) hh).2
    ·exact .left htl hD T (by rw [e2];exact h0) hh.1 rfl hh.2
   have mv:∀(j:Nat) {h:List Int},HD O P C D (t+1) h→∃h',HD O P C D (t+1) h'∧gm O P C h (pw (gm O P C) (zv O) b j)=gm O P C (pw (gm O P C) (zv O) b j) h':=fun j=>by
    induction j with
    | zero=>exact fun {h} hh=>⟨h,hh,by show gm O P C h (zv O)=gm O P C (zv O) h;rw [G.r1 (inS hh),G.l1 (inS hh)]⟩
    | succ j ij=>
     intro h hh;obtain⟨h1,a1,a2⟩:=ij hh;have a3:=HD.cnjb s F hC ok q htl hD ih a1.2 rfl a1.1;refine⟨_,a3,?_⟩;have hpS:=G.pw bS j;show gm O P C h (gm O P C (pw (gm O P C) (zv O) b j) b)=gm O P C (gm O P C (pw (gm O P C) (zv O) b j) b) _;rw [←G.as (inS hh) hpS bS,a2,G.as hpS (inS a1) bS,G.as hpS bS (inS a3),G.cnj_spec (inS a1) bS]
   have split:∀{x},HD O P C D t x→∃j h,HD O P C D (t+1) h∧x=gm O P C (pw (gm O P C) (zv O) b j) h:=fun {x} hx=>by
    obtain⟨hT,hr⟩:=hx;have deep:∀{d},TT O d x→at_ x d≠0→d≠t→TT O (t+1) x:=fun {d} h1 h0 hne=>by
     rcases Nat.lt_trichotomy d t with h|h|h
     ·exact absurd (hT.zero d h) h0
     ·exact absurd h hne
     ·exact h1.mono h
    have triv:TT O (t+1) x→Rdu O P C D x (zv O)→∃j h,HD O P C D (t+1) h∧x=gm O P C (pw (gm O P C) (zv O) b j) h:=fun h1 h2=>⟨0,x,⟨h1,h2⟩,(G.l1 (h1.mono (Nat.zero_le _))).symm⟩
    have hr0:=hr;cases hr with
    | refl=>exact triv (s.zv _) (.refl _)
    | @left d j c _ x' _ hd hc h1 h0 hx' e r=>
     by_cases hdt:d=t
     ·subst hdt
      rw [hD]at hc;cases hc
      exact⟨j,x',⟨hx',r⟩,e⟩
     ·exact triv (deep h1 h0 hdt) hr0
    | @right d j c _ x' _ hd hc h1 h0 hx' e r=>
     by_cases hdt:d=t
     ·subst hdt
      rw [hD]at hc;cases hc
      obtain⟨h',a1,a2⟩:=mv j (show HD O P C D (d+1) x' from⟨hx',r⟩)
      exact⟨j,h',a1,by rw [e,a2]⟩
     ·exact triv (deep h1 h0 hdt) hr0
   refine zCF s F hC (fun x hx=>hx.1.mono (Nat.zero_le _)) ⟨s.zv _,.refl _⟩ fun x y hx hy=>?_
   obtain⟨j,h,a1,rfl⟩:=split hx;obtain⟨j',h',a2,rfl⟩:=split hy;obtain⟨h2,a3,a4⟩:=mv j' a1;have p1:=G.pw bS j;have p2:=G.pw bS j';have e:gm O P C (gm O P C (pw (gm O P C) (zv O) b j) h) (gm O P C (pw (gm O P C) (zv O) b j') h')=gm O P C (pw (gm O P C) (zv O) b (j+j')) (gm O P C h2 h'):=by
    rw [G.as p1 (inS a1) (G.cl p2 (inS a2)),←G.as (inS a1) p2 (inS a2),a4,G.as p2 (inS a3) (inS a2),←G.as p1 p2 (G.cl (inS a3) (inS a2)),G.pw_add bS]
   rw [e];exact mk _ (ih.cl a3 a2)
omit hC in
theorem HD.fil (h:HD O P C D t x) (hd:dep x<O.length):∃b,D[dep x]? = some (some b):=by
 obtain⟨h1,h2⟩:=h;have key:∀{d:Nat} {b:List Int},D[d]? = some (some b)→TT O d x→at_ x d≠0→∃b,D[dep x]? = some (some b):=fun {d b} hb hx h0=>by
  have:dep x=d:=zIh (fun j hj=>hx.zero j hj) h0
  rw [this];exact⟨b,hb⟩
 cases h2 with
 | refl=>rw [zFC s]at hd;omega
 | left hd hb hx h0 hx' e r=>exact key hb hx h0
 | right hd hb hx h0 hx' e r=>exact key hb hx h0
end
def GC (O:List Int) (P:List (List Int)) (C:List (List (List Int))) (L:List (List Int)) (x:List Int):Prop:=∀N,gB O P C N→(∀l∈L,N l)→N x
theorem GC.sub (F:Full O P C O.length) (hL:∀l∈L,gS O l):gB O P C (GC O P C L):=
 ⟨fun h=>h _ F.g.wholeB hL,fun N hN _=>hN.one,fun h g N hN hl=>hN.cl (h N hN hl) (g N hN hl),fun h N hN hl=>hN.inv (h N hN hl)⟩
theorem GC.mem (h:x∈L):GC O P C L x:=fun N _ hl=>hl x h
structure CanG (O:List Int) (H:List Int→Prop) (u:List (List Int)):Prop where
 asc:u.Pairwise fun a b=>dep a<dep b
 mem:∀v∈u,H v
 one:∀v∈u,gS O v∧dep v<O.length∧at_ v (dep v)=1
 red:∀v∈u,∀w∈u,dep v≠dep w→at_ v (dep w)=0
 all:∀x,H x→dep x<O.length→∃v∈u,dep v=dep x
theorem zIp:∀{u u':List (List Int)},(u.Pairwise fun a b=>dep a<dep b)→(u'.Pairwise fun a b=>dep a<dep b)→(∀v,v∈u↔v∈u')→u=u'
 | [],[],_,_,_=>rfl
 | [],v::u',_,_,h=>by have:=(h v).2 (by simp);cases this
 | v::u,[],_,_,h=>by have:=(h v).1 (by simp);cases this
 | v::u,w::u',h1,h2,h=>by
  rw [List.pairwise_cons]at h1 h2
  have e:v=w:=by
   rcases List.mem_cons.1 ((h v).1 (by simp))with e|e
   ·exact e
   ·rcases List.mem_cons.1 ((h w).2 (by simp))with e' | e'
    ·exact e'.symm
    ·have:=h2.1 v e;have:=h1.1 w e';omega
  subst e;rw [zIp h1.2 h2.2 fun x=>?_]
  constructor
  ·intro hx
   rcases List.mem_cons.1 ((h x).1 (by simp [hx]))with e|e
   ·subst e;have:=h1.1 x hx;omega
   ·exact e
  ·intro hx
   rcases List.mem_cons.1 ((h x).2 (by simp [hx]))with e|e
   ·subst e;have:=h2.1 x hx;omega
   ·exact e
theorem CanG.row_eq (s:Shp O P C) (F:Full O P C O.length) (hH:gB O P C H) (h:CanG O H u) (h':CanG O H u') {v v':List Int} (hv:v∈u) (hv':v'∈u') (hd:dep v=dep v'):v=v':=by
 have G:=F.g;obtain⟨a1,a2,a3⟩:=h.one v hv;obtain⟨b1,b2,b3⟩:=h'.one v' hv';have iv:=G.inv_in a1;have hz:H (gm O P C (ginv (gS O) (gm O P C) (zv O) v) v'):=hH.cl (hH.inv (h.mem v hv)) (h'.mem v' hv');have e:gm O P C v (gm O P C (ginv (gS O) (gm O P C) (zv O) v) v')=v':=by rw [←G.as a1 iv.1 b1,iv.2,G.l1 b1]
 generalize gm O P C (ginv (gS O) (gm O P C) (zv O) v) v'=z at *
 have zS:=hH.inS hz;rcases Nat.lt_or_ge (dep z) O.length with hdz|hdz
 ·exfalso
  obtain⟨g1,g2⟩:=ZR s (d:=O.length) (b:=v) (a:=z) (t:=dep z) (Nat.le_refl _) (by omega) hdz (by rw [Nat.sub_self];exact a1) (Ze zS)
  have e':mu O P C O.length v z=v':=e;rw [e']at g1 g2
  have hz0:at_ z (dep z)≠0:=Z4 (by rw [zS.len];exact hdz)
  have hvv:at_ v' (dep z)=at_ v (dep z):=by
   rcases Nat.lt_trichotomy (dep z) (dep v)with h1|h1|h1
   ·rw [qw h1,qw (by omega)]
   ·rw [h1,a3,hd,b3]
   ·obtain⟨w,hw,ew⟩:=h.all z hz hdz
    obtain⟨w',hw',ew'⟩:=h'.all z hz hdz;rw [←ew,h.red v hv w hw (by omega),ew,←ew',h'.red v' hv' w' hw' (by omega)]
  have:=zBY (a1.bd _ hdz) (zS.bd _ hdz) (g2.symm.trans hvv)
  exact hz0 this
 ·rw [Zz zS hdz,G.r1 a1]at e
  exact e
theorem CanG.unique (s:Shp O P C) (F:Full O P C O.length) (hH:gB O P C H) (h:CanG O H u) (h':CanG O H u'):u=u':=by
 refine zIp h.asc h'.asc fun v=>⟨fun hv=>?_,fun hv=>?_⟩
 ·obtain⟨w,hw,e⟩:=h'.all v (h.mem v hv) (h.one v hv).2.1
  rw [h.row_eq s F hH h' hv hw e.symm];exact hw
 ·obtain⟨w,hw,e⟩:=h.all v (h'.mem v hv) (h'.one v hv).2.1
  rw [h'.row_eq s F hH h hv hw e.symm];exact hw
theorem CanG.congr {H':List Int→Prop} (h:CanG O H u) (e:∀x,H x↔H' x):CanG O H' u:=⟨h.asc,fun v hv=>(e v).1 (h.mem v hv),h.one,h.red,fun x hx=>h.all x ((e x).2 hx)⟩
theorem CanG.len (h:CanG O H u):u.length≤O.length:=by
 have:(u.map dep).Pairwise (· < ·):=by rw [List.pairwise_map];exact h.asc
 have key:∀(l:List Nat) (m:Nat),l.Pairwise (· < ·)→(∀x∈l,m≤x∧x<O.length)→l.length+m≤O.length∨l=[]:=by
  intro l
  induction l with
  | nil=>intro m _ _;exact .inr rfl
  | cons a l ih=>
   intro m h1 h2;rw [List.pairwise_cons]at h1
   have ha:=h2 a (by simp)
   rcases ih (a+1) h1.2 (fun x hx=>⟨h1.1 x hx,(h2 x (by simp [hx])).2⟩)with h3|h3
   ·left;simp only [List.length_cons];omega
   ·subst h3;left;simp;omega
 rcases key _ 0 this (fun x hx=>by
  obtain⟨v,hv,rfl⟩:=List.mem_map.1 hx;exact⟨Nat.zero_le _,(h.one v hv).2.1⟩)with h1 | h1
 ·simpa using h1
 ·rw [List.map_eq_nil_iff]at h1;subst h1;simp
theorem GC.table (s:Shp O P C) (F:Full O P C O.length) (hC:Cent O C) (ok:OkD O D) (q:QI O P C D []) (h:∀N,gB O P C N→(InD N D↔∀l∈L,N l)):∀x,GC O P C L x↔HD O P C D 0 x:=by
 have hs:=HD.sub s F hC ok q O.length 0 (by omega)
 intro x;constructor
 ·intro hx
  refine hx _ hs ((h _ hs).1 fun d b hb=>?_)
  have hd:d<O.length:=by
   rw [←ok.len];rcases Nat.lt_or_ge d D.length with h|h
   ·exact h
   ·rw [List.getElem?_eq_none h]at hb;cases hb
  have:=HD.row s F ok hb hd
  exact⟨this.1.mono (Nat.zero_le _),this.2⟩
 ·intro hx N hN hl
  exact(hx.2.iff F hN ((h N hN).2 hl)).2 hN.one
structure CanD (O:List Int) (P:List (List Int)) (C:List (List (List Int))) (D:List (Option (List Int))) (u:List (List Int)):Prop where
 one:∀v∈u,gS O v∧dep v<O.length∧at_ v (dep v)=1
 asc:u.Pairwise fun a b=>dep a<dep b
 red:∀v∈u,∀w∈u,dep v≠dep w→at_ v (dep w)=0
 all:∀(d:Nat) (y:List Int),D[d]? = some (some y)→∃v∈u,dep v=d
 len:u.length≤O.length
 iff:∀N,gB O P C N→((∀x∈u,N x)↔InD N D)
theorem CanD.can (s:Shp O P C) (F:Full O P C O.length) (hC:Cent O C) (ok:OkD O D) (q:QI O P C D []) (cd:CanD O P C D u) (h:∀N,gB O P C N→(InD N D↔∀l∈L,N l)):CanG O (GC O P C L) u:=
 ⟨cd.asc,fun v hv N hN hl=>(cd.iff N hN).2 ((h N hN).2 hl) v hv,cd.one,cd.red,fun x hx hd=>by
  obtain⟨b,hb⟩:=HD.fil s F ((GC.table s F hC ok q h x).1 hx) hd;exact cd.all _ b hb⟩
section
variable (s:Shp O P C) (F:Full O P C O.length) (hC:Cent O C)
include s F hC
theorem zRl (hb:gS O b) (k:Nat):∃j,gm O P C (pw (gm O P C) (zv O) b j) (pw (gm O P C) (zv O) b k)=zv O∧gm O P C (pw (gm O P C) (zv O) b k) (pw (gm O P C) (zv O) b j)=zv O:=by
 have M:=F.g.toMon;obtain⟨E,h1,h2⟩:=zJ1 s F hC hb;have e:pw (gm O P C) (zv O) b (E*k)=zv O:=by rw [M.pw_mul hb,h2,M.pw_e]
 have hle:k≤E*k:=Nat.le_mul_of_pos_left k h1;refine⟨E*k-k,?_,?_⟩
 ·rw [←M.pw_add hb,show E*k-k+k=E*k by omega,e]
 ·rw [←M.pw_add hb,show k+(E*k-k)=E*k by omega,e]
theorem Rdu.stepL (ok:OkD O D) (hb:D[d]? = some (some b)) (hd:d<O.length) (hz:TT O d z) (h0:at_ z d≠0) (hz':TT O (d+1) (gm O P C (pw (gm O P C) (zv O) b k) z)):Rdu O P C D z (gm O P C (pw (gm O P C) (zv O) b k) z):=by
 have G:=F.g;have bS:gS O b:=(ok.row d b hb).1.mono (Nat.zero_le _);have zS:gS O z:=hz.mono (Nat.zero_le _);obtain⟨j,h1,h2⟩:=zRl s F hC bS k;refine .left (j:=j) hd hb hz h0 hz' ?_ (.refl _);rw [←G.as (G.pw bS j) (G.pw bS k) zS,h1,G.l1 zS]
theorem Rdu.stepR (ok:OkD O D) (hb:D[d]? = some (some b)) (hd:d<O.length) (hz:TT O d z) (h0:at_ z d≠0) (hw:gS O x) (hx:gm O P C x (pw (gm O P C) (zv O) b k)=z) (hx':TT O (d+1) x):Rdu O P C D z x:=
 .right (j:=k) hd hb hz h0 hx' hx.symm (.refl _)
end
end Go.Grp
namespace Go.Grp
end Go.Grp
namespace Go.Proofs
open Go.Ab Go.Lie Go.Grp
variable {σ:PHeap} {K:PV→PHeap→Prop} {O:List Int} {P:List (List Int)} {C:List (List (List Int))} {vO vP vC vx vy vL va vb:PV} {x y f a b:List Int} {L:List (List Int)} {rP rC rb:List PV} {D:List (Option (List Int))} {d j sp ss sb n:Nat}
structure SeqG (σ:PHeap) (ss sb sp:Nat) (n:Nat) (rb:List PV) (vO vP vC:PV):Prop where
 obj:σ.obj ss=some [.ptr sp 0,.sl sb 0 n (.known n)]
 lt:ss<σ.next
 bobj:σ.obj sb=some rb
 blt:sb<σ.next
 pg:PtrG σ sp vO vP vC
 ne1:ss≠sb
 ne2:sp≠sb
theorem SeqG.keep {h:PHeap} (q:SeqG σ ss sb sp n rb vO vP vC) (hk:Keep σ h):SeqG h ss sb sp n rb vO vP vC:=
 ⟨by rw [hk.obj _ q.lt];exact q.obj,Nat.lt_of_lt_of_le q.lt hk.next,by rw [hk.obj _ q.blt];exact q.bobj,Nat.lt_of_lt_of_le q.blt hk.next,q.pg.keep hk,q.ne1,q.ne2⟩
theorem SeqG.setB (q:SeqG σ ss sb sp n rb vO vP vC) (rb':List PV):SeqG (σ.set sb rb') ss sb sp n rb' vO vP vC:=
 ⟨by rw [zn,if_neg q.ne1];exact q.obj,q.lt,by rw [zn,if_pos rfl],q.blt,q.pg.set q.ne2 _,q.ne1,q.ne2⟩
def DRow (n:Nat) (c:PV) (r:Option (List Int)):Prop:=(c=.fz true .nils 0 []∧r=none)∨∃o cap y,c=.fz true (.sl o 0 n cap) n (pis y)∧r=some y
theorem DRow.bel {c:PV} {r:Option (List Int)} (h:DRow n c r):Bel 0 c:=by
 rcases h with ⟨rfl,_⟩|⟨_,_,_,rfl,_⟩<;>trivial
theorem DRow.bels {rb:List PV} {D:List (Option (List Int))} (h:All2 (DRow n) rb D) (m:Nat):Bels m rb:=by
 refine zBc.2 fun c hc=>?_
 obtain⟨k,hk,rfl⟩:=List.mem_iff_getElem.1 hc;exact(DRow.bel (h.2 k _ _ (List.getElem?_eq_getElem hk) (List.getElem?_eq_getElem (by rw [←h.1];exact hk)))).up (Nat.zero_le _)
theorem DRow.get {rb:List PV} {D:List (Option (List Int))} (h:All2 (DRow n) rb D) {d:Nat} (hd:d<D.length):(rb[d]? = some (.fz true .nils 0 [])∧D[d]? = some none)∨∃o cap y,rb[d]? = some (.fz true (.sl o 0 n cap) n (pis y))∧D[d]? = some (some y):=by
 have hb:d<rb.length:=by rw [h.1];exact hd
 rw [List.getElem?_eq_getElem hb,List.getElem?_eq_getElem hd];rcases h.2 d _ _ (List.getElem?_eq_getElem hb) (List.getElem?_eq_getElem hd)with ⟨e1,e2⟩|⟨o,cap,y,e1,e2⟩
 ·exact .inl ⟨by rw [e1],by rw [e2]⟩
 ·exact .inr ⟨o,cap,y,by rw [e1],by rw [e2]⟩
theorem DRow.put {rb:List PV} {D:List (Option (List Int))} (h:All2 (DRow n) rb D) {o d:Nat} {cap:Cap}:All2 (DRow n) (rb.set d (.fz true (.sl o 0 n cap) n (pis y))) (D.set d (some y)):=by
 refine⟨by rw [List.length_set,List.length_set];exact h.1,fun k c r hc hr=>?_⟩
 rw [List.getElem?_set]at hc hr
 by_cases e:d=k
 ·rw [if_pos e]at hc hr
  split at hc
  ·split at hr
   ·cases hc;cases hr;exact .inr ⟨o,cap,y,rfl,rfl⟩
   ·cases hr
  ·cases hc
 ·rw [if_neg e]at hc hr
  exact h.2 k c r hc hr
theorem zOC (s:Shp O P C) (F:Full O P C O.length) (hn:0<O.length) (hs:PtrG σ sp vO vP vC) (hR:IsPr vO vP vC O P C) (ha:gS O a) (hva:FI va a) {k:Int} (hk0:0≤k∧k≤1000000) (hk:∀o cap,K (.fz true (.sl o 0 O.length cap) O.length (pis (Grp.pw (gm O P C) (zv O) a k.toNat))) σ):
  zA Tryz.prog 195 [.ptr sp 0,va,.int .i64 k] σ K:=by
 have hlen:=(F.g.pw ha k.toNat).len;refine zA.gh (zHq s F hs hR (by rw [Nat.sub_self];exact ha) hva hk0 ⟨fun h0=>?_,fun cap hc=>?_⟩)
 ·rw [h0]at hlen;simp at hlen;omega
 ·rw [hlen]at hc ⊢
  exact Gh.finF (zC σ _) (by simp [PHeap.new]) (Nat.le_refl _) (zo _ _) hc.ok fun o=>hk o cap
theorem zPp (s:Shp O P C) (F:Full O P C O.length) (hC:Cent O C) (hq:SeqG σ ss sb sp O.length rb vO vP vC) (hR:IsPr vO vP vC O P C) (hD:OkD O D) (hrb:All2 (DRow O.length) rb D) (hx:gS O x) (hvx:FI vx x)
  (hk:∀v z,FI v z→gS O z→(dep z<O.length→D[dep z]? = some none)→Rdu O P C D x z→K v σ):zA Tryz.prog 192 [.ptr ss 0,vx] σ K:=by
 have hn6:=s.le;obtain⟨wx,ax,rfl⟩:=hvx;have hxl:=hx.len;have r0:σ.rd1 ss 0=some (.ptr sp 0):=by rw [zF hq.obj];rfl
 have r1:σ.rd1 ss 1=some (.sl sb 0 O.length (.known O.length)):=by rw [zF hq.obj];rfl
 have hR0:=hR;obtain⟨⟨w0,a0,rfl⟩,_,_⟩:=hR;have e0:σ.rd1 sp 0=some (.fz w0 a0 O.length (pis O)):=by rw [zF hq.pg.obj];rfl
 refine QA mix Tryz.func192 ?_;simp only [pwA,seval,-iQ0];refine zCg rfl (by omega) ?_
 simp only [pwA,seval,-iQ0];refine zD (fun m vs h'=>∃z w a,m=O.length-dep z∧vs=[.ptr ss 0,.fz w a O.length (pis z),.int .i64 (dep z)]∧σ=h'∧gS O z∧Rdu O P C D x z) _ ⟨x,wx,ax,rfl,by rw [hxl];rfl,rfl,hx,.refl _⟩ ?_
 rintro m vs h' ⟨z,w,a,rfl,rfl,rfl,hz,hN⟩
 have hzl:=hz.len
 by_cases hd:dep z<O.length
 ·have hrd:=zF hq.bobj (dep z)
  have hdz:dep z<z.length:=by omega
  have bz:=hz.bd _ hd;have bO:=s.pr _ hd;rw [at_eq hdz]at bz
  rw [at_eq hd]at bz bO
  rcases DRow.get hrb (d:=dep z) (by rw [hD.len];exact hd)with ⟨e1,e2⟩|⟨o,cap,y,e1,e2⟩
  ·rw [e1]at hrd
   simp only [pwA,seval,-iQ0,hd,r1,hrd];exact hk _ z ⟨w,a,by rw [hzl]⟩ hz (fun _=>e2) hN
  ·rw [e1]at hrd
   obtain⟨y1,y2⟩:=hD.row _ _ e2;have ew:IntKind.i64.wrap (O[dep z] - z[dep z])=O[dep z] - z[dep z]:=wrap64 (by omega) (by omega)
   simp only [pwA,seval,-iQ0,hd,r0,r1,hrd,e0,zL,gi hd,gi hdz,ew];refine zEl s F hq.pg hR0 (by rw [Nat.sub_self];exact y1.mono (Nat.zero_le _)) ⟨true,_,by rw [y1.len]⟩ (by omega) fun v1 f1=>?_
   simp only [pwA,seval,-iQ0,hd,r0,r1,hrd,e0];have g1:gS O (Grp.pw (gm O P C) (zv O) y (O[dep z] - z[dep z]).toNat):=F.g.pw (y1.mono (Nat.zero_le _)) _;refine Ql s F hq.pg hR0 (by rw [Nat.sub_self];exact g1) (by rw [Nat.sub_self];exact hz) f1 ⟨w,a,by rw [hzl]⟩ fun v2 f2=>?_
   have hst:=zLl s F hC hd (Ze hz) y1 y2;rw [at_eq hd,at_eq hdz]at hst
   have hz2:gS O (mu O P C O.length (Grp.pw (mu O P C O.length) (zv O) y (O[dep z] - z[dep z]).toNat) z):=F.g.cl g1 hz;have hz0:at_ z (dep z)≠0:=Z4 (by omega)
   have hN2:Rdu O P C D x (mu O P C O.length (Grp.pw (mu O P C O.length) (zv O) y (O[dep z] - z[dep z]).toNat) z):=hN.trans (Rdu.stepL s F hC hD e2 hd (Ze hz) hz0 hst);have hst2:TT O (dep z+1) (mu O P C O.length (Grp.pw (mu O P C O.length) (zv O) y (O[dep z] - z[dep z]).toNat) z):=hst;generalize mu O P C O.length (Grp.pw (mu O P C O.length) (zv O) y (O[dep z] - z[dep z]).toNat) z=z' at *
   have hge:=dep_ge hst2 (by omega)
   have hl':=hz2.len;have h0:z'[dep z]'(by omega)=0:=by
    have:=hst2.zero (dep z) (Nat.lt_succ_self _)
    rwa [at_eq (by omega)]at this
   obtain⟨w2,a2,rfl⟩:=f2;simp only [pwA,seval,-iQ0,hl',hd,zL,gi (show dep z<z'.length by omega),h0]
   refine zCg hl'.symm (by omega) ?_
   simp only [pwA,seval,-iQ0];exact⟨_,by omega,z',w2,a2,rfl,rfl,hz2,hN2⟩
 ·have hdn:dep z=O.length:=by have:=zBT z;omega
  simp only [pwA,seval,-iQ0,hdn,Nat.lt_irrefl];exact hk _ z ⟨w,a,by rw [hzl]⟩ hz (fun h=>by omega) hN
end Go.Proofs
namespace Go.Grp
end Go.Grp
namespace Go.Proofs
open Go.Ab Go.Lie Go.Grp
variable {σ:PHeap} {K:PV→PHeap→Prop} {O:List Int} {P:List (List Int)} {C:List (List (List Int))} {vO vP vC vx vy vL:PV} {x y f a b:List Int} {L:List (List Int)} {rP rC rb:List PV} {D:List (Option (List Int))} {d j sp ss sb n:Nat}
theorem Keep.self {rb:List PV} {h:PHeap} (hb:σ.obj sb=some rb) (k:Keep σ h):Keep (σ.set sb rb) h:=⟨k.next,k.top,fun t ht=>by
 rw [k.obj t ht,zn]
 split
 ·rename_i e;rw [e];exact hb
 ·rfl⟩
theorem Gh.finB {σ0 σ1:PHeap} {rb:List PV} {v:PV} (hsb:sb<σ0.next) (hk:Keep (σ0.set sb rb) σ1) (hb:Bels 0 rb) (hv:Bel σ0.next v) (k:K v (σ0.set sb rb)):Gh σ0 K v σ1:=fun w=>
 Gh.cut (σ2:=σ0.set sb rb) rfl hk.top (fun t cs ht=>by
  have hlt:t<σ0.next:=by
   rw [zn]at ht
   split at ht
   ·rename_i e;rw [e];exact hsb
   ·exact w.lt ht
  refine⟨hlt,by rw [hk.obj t hlt];exact ht,?_⟩
  rw [zn]at ht
  split at ht
  ·cases ht;exact .inr (hb.up (Nat.zero_le _))
  ·exact .inl ht) hv k w
theorem zHK (s:Shp O P C) (F:Full O P C O.length) (hs:PtrG σ sp vO vP vC) (hR:IsPr vO vP vC O P C) (hx:gS O x) (hy:gS O y) (hvx:FI vx x) (hvy:FI vy y) (hk:∀v,FI v (gcom O P C x y)→K v σ):
  zA Tryz.prog 196 [.ptr sp 0,vx,vy] σ K:=by
 have G:=F.g;have up:∀{z:List Int},gS O z→TT O (O.length-O.length) z:=fun h=>by rw [Nat.sub_self];exact h
 have dn:∀{z:List Int},TT O (O.length-O.length) z→gS O z:=fun h=>by rw [Nat.sub_self]at h;exact h
 refine zB mix Tryz.func196 ?_;simp only [pwA,seval,-iQ0];refine zGk s F hs hR (up hx) hvx fun v1 z1 h1 e1 f1=>?_
 simp only [pwA,seval,-iQ0];refine zAM s F hs hR (up hx) (up hy) hvx hvy fun v2 z2 h2 e2 f2=>?_
 simp only [pwA,seval,-iQ0];refine Ql s F hs hR h1 h2 f1 f2 fun v3 f3=>?_
 simp only [pwA,seval,-iQ0];have e:mu O P C O.length z1 z2=gcom O P C x y:=by
  refine G.com_eq hx hy (G.cl (dn h1) (dn h2)) ?_;have i1:z1=ginv (gS O) (gm O P C) (zv O) x:=G.inv_eq hx (dn h1) e1;show gm O P C (gm O P C y x) (gm O P C z1 z2)=gm O P C x y;have hxz:gm O P C x (gm O P C z1 z2)=z2:=by rw [←G.as hx (dn h1) (dn h2),show gm O P C x z1=zv O from e1,G.l1 (dn h2)]
  rw [G.as hy hx (G.cl (dn h1) (dn h2)),hxz];exact e2
 rw [e]at f3
 exact hk v3 f3
theorem zIs (s:Shp O P C) (F:Full O P C O.length) (hC:Cent O C) (hp:∀o∈O,isP o) (hq:SeqG σ ss sb sp O.length rb vO vP vC) (hR:IsPr vO vP vC O P C) (hD:OkD O D) (hrb:All2 (DRow O.length) rb D) (hQI:QI O P C D []) (hL:FII vL L) (hg:∀x∈L,gS O x) (hLl:L.length≤1000000)
  (hk:∀(t:Bool) rb' D',All2 (DRow O.length) rb' D'→OkD O D'→QI O P C D' []→(∀N,gB O P C N→(InD N D'↔(InD N D∧∀q∈L,N q)))→free D'≤free D→(t=true→free D'<free D)→K (.bool t) (σ.set sb rb')):
  zA Tryz.prog 148 [.ptr ss 0,vL] σ K:=by
 have hn6:=s.le;have hf6:=zA6 D;rw [hD.len]at hf6
 have G:=F.g;have up:∀{z:List Int},gS O z→TT O (O.length-O.length) z:=fun h=>by rw [Nat.sub_self];exact h
 obtain⟨wl,al,rl,rfl,hrl⟩:=hL;have hR0:=hR;obtain⟨⟨w0,a0,rfl⟩,_,_⟩:=hR;refine zA.gh ?_;refine QA mix Tryz.func148 ?_;simp only [pwA,seval,-iQ0];refine zPb hrl.1 (hrl.bI 0) (by omega) fun vQ h1 k1 q1=>?_
 simp only [pwA,seval,-iQ0];refine zD (fun m vs h'=>∃g Q vQ rb' D' rq,m=10*free D'+Q.length∧vs=[.ptr ss 0,.bool g,vQ]∧Keep (σ.set sb rb') h'∧PQ σ.next h' vQ Q.length rq∧All2 FI rq Q∧(∀x∈Q,gS O x)∧All2 (DRow O.length) rb' D'∧OkD O D'∧QI O P C D' Q∧(∀N,gB O P C N→((InD N D'∧∀q∈Q,N q)↔(InD N D∧∀q∈L,N q)))∧free D'≤free D∧(g=true→free D'<free D)∧Q.length+10*free D'≤L.length+10*free D) (10*free D+L.length) ?_ ?_
 ·exact⟨false,L,vQ,rb,D,rl,rfl,rfl,Keep.self hq.bobj k1,q1,hrl,hg,hrb,hD,hQI.mem (fun q hq=>by cases hq),fun N _=>Iff.rfl,Nat.le_refl _,by simp,Nat.le_refl _⟩
 clear k1 q1 vQ h1
 as_aux_lemma=>
 rintro m vs h' ⟨g,Q,vQ,rb',D',rq,rfl,rfl,hkp,hqq,hrq,hgQ,hrb',hD',hQq,hS,hf1,hf2,hb⟩
 have hq':=(hq.setB rb').keep hkp;cases Q with
 | nil=>
  have hlen:pLen vQ=some (.int .i64 0):=hqq.pLen;simp only [pwA,seval,-iQ0,hlen];exact Gh.finB hq.blt hkp (DRow.bels hrb' 0) trivial (hk g rb' D' hrb' hD' hQq (fun N hN=>⟨fun h=>(hS N hN).1 ⟨h,fun q hq=>(by cases hq)⟩,fun h=>((hS N hN).2 h).1⟩) hf1 hf2)
 | cons x Q=>
  have hlen:=hqq.pLen;obtain⟨c,rq',rfl,hc,hrq'⟩:∃c rq',rq=c::rq'∧FI c x∧All2 FI rq' Q:=by
   cases rq with
   | nil=>exact absurd hrq.1 (by simp)
   | cons c rq'=>exact⟨c,rq',rfl,hrq.2 0 c x rfl rfl,⟨by simpa using hrq.1,fun k a b ha hb=>hrq.2 (k+1) a b (by simpa using ha) (by simpa using hb)⟩⟩
  obtain⟨sq,off,cap,vQ',rfl,hrd,hpos,hsl',hqq'⟩:=hqq.uncons;have hcc:=hc;obtain⟨w4,a4,rfl⟩:=hc;have hx:=hgQ x (by simp)
  have hgQ':∀q∈Q,gS O q:=fun q hq=>hgQ q (List.mem_cons_of_mem _ hq)
  have hf6':=zA6 D';rw [hD'.len]at hf6'
  simp only [List.length_cons]at hlen hsl' hqq' hpos hb ⊢
  have hposI:(0:Int)<((Q.length+1:Nat):Int):=by omega
  rw [Nat.add_sub_cancel]at hqq'
  simp only [pwA,seval,-iQ0,hlen,hposI,hpos,hrd,hsl'];refine zPp s F hC hq' hR0 hD' hrb' hx hcc fun vz z fz gz hz1 hz2=>?_
  obtain⟨wz,az,rfl⟩:=fz;have hzl:=gz.len;simp only [pwA,seval,-iQ0,hlen,hposI,hpos,hrd,hsl'];refine zCg rfl (by omega) ?_
  by_cases hd:dep z<O.length
  rotate_left
  ·have hdn:dep z=O.length:=by have:=zBT z;omega
   have hz0:=Zz gz (by omega)
   simp only [pwA,seval,-iQ0,hzl,hdn];refine⟨_,?_,g,Q,vQ',rb',D',rq',rfl,rfl,hkp,hqq',hrq',hgQ',hrb',hD',hQq.drop (by rw [←hz0];exact hz2),fun N hN=>?_,hf1,hf2,by omega⟩
   ·omega
   ·rw [←hS N hN]
    refine⟨fun⟨h1,h2⟩=>⟨h1,fun q hq=>?_⟩,fun⟨h1,h2⟩=>⟨h1,fun q hq=>h2 q (List.mem_cons_of_mem _ hq)⟩⟩
    rcases List.mem_cons.1 hq with rfl|hq
    ·rw [hz2.iff F hN h1,hz0];exact hN.one
    ·exact h2 q hq
  have hdz:dep z<z.length:=by omega
  have hOd:=hp _ (List.getElem_mem hd);have bO:=hOd.bd;have bz:=gz.bd _ hd;have nz:=Z4 hdz;rw [at_eq hdz]at bz nz
  rw [at_eq hd]at bz
  have hdn:((dep z:Int)=(z.length:Int))=False:=by simp;omega
  have rr:∀{h:PHeap},SeqG h ss sb sp O.length rb' (.fz w0 a0 O.length (pis O)) vP vC→h.rd1 ss 0=some (.ptr sp 0)∧h.rd1 ss 1=some (.sl sb 0 O.length (.known O.length))∧h.rd1 sp 0=some (.fz w0 a0 O.length (pis O)):=fun q=>⟨by rw [zF q.obj];rfl,by rw [zF q.obj];rfl,by rw [zF q.pg.obj];rfl⟩
  obtain⟨r0,r1,e0⟩:=rr hq';simp only [pwA,seval,-iQ0,hd,hdn,r0,e0,zL,gi hdz,gi hd,hdz];refine zHB hOd ⟨by omega,bz.2⟩ fun q qb q1 q2 q3=>?_
  simp only [pwA,seval,-iQ0,hd,hdn,r0,e0,zL,gi hdz,gi hd,hdz];refine PQ.push (bytes:=24) (σb:=σ.set sb rb') hkp hqq' (by omega) (by omega) fun v1 h1 k1 p1=>?_
  have hq1:=(hq.setB rb').keep k1;obtain⟨s0,s1,f0⟩:=rr hq1;simp only [pwA,seval,-iQ0,s0,s1,f0];refine zOC s F (by omega) hq1.pg hR0 gz ⟨wz,az,rfl⟩ (k:=q) (by omega) fun oy capy=>?_
  obtain⟨y1,y2⟩:=Z9 s F hC hd (Ze gz) q.toNat;have hy1:at_ (Grp.pw (gm O P C) (zv O) z q.toNat) (dep z)=1:=by
   rw [y2,at_eq hdz,at_eq hd,Int.toNat_of_nonneg q1,Int.mul_comm];exact q3
  have hNy:∀N,gB O P C N→N z→N (Grp.pw (gm O P C) (zv O) z q.toNat):=fun N hN h=>hN.pw h _
  generalize Grp.pw (gm O P C) (zv O) z q.toNat=y at *
  have yS:gS O y:=y1.mono (Nat.zero_le _);have hyl:=yS.len;simp only [pwA,seval,-iQ0,s0,s1,f0,zL,gi hd,hd];refine zEl s F hq1.pg hR0 (up yS) ⟨true,.sl oy 0 O.length capy,by rw [hyl]⟩ (k:=O[dep z]) (by omega) fun vo fo=>?_
  have fo':=fo;obtain⟨wo,ao,rfl⟩:=fo;simp only [pwA,seval,-iQ0,s0,s1,f0,zL,gi hd,hd];refine PQ.push (bytes:=24) (σb:=σ.set sb rb') k1 p1 (by omega) (by omega) fun v2 h2 k2 p2=>?_
  have hq2:=(hq.setB rb').keep k2;obtain⟨t0,t1,g0⟩:=rr hq2;have gpo:gS O (Grp.pw (gm O P C) (zv O) y O[dep z].toNat):=G.pw yS _;have fz':FI (.fz wz az z.length (pis z)) z:=⟨wz,az,rfl⟩;have hrq2:All2 FI ((rq'++[.fz wz az z.length (pis z)])++[.fz wo ao _ (pis (Grp.pw (gm O P C) (zv O) y O[dep z].toNat))]) ((Q++[z])++[Grp.pw (gm O P C) (zv O) y O[dep z].toNat]):=(hrq'.snoc fz').snoc fo';have hgQ2:∀q∈(Q++[z])++[Grp.pw (gm O P C) (zv O) y O[dep z].toNat],gS O q:=fun q hq=>by
   rcases List.mem_append.1 hq with hq|hq
   ·rcases List.mem_append.1 hq with hq | hq
    ·exact hgQ' q hq
    ·rw [List.mem_singleton.1 hq];exact gz
   ·rw [List.mem_singleton.1 hq];exact gpo
  simp only [pwA,seval,-iQ0,t0,t1,g0];generalize hQ2:(Q++[z])++[Grp.pw (gm O P C) (zv O) y O[dep z].toNat]=Q2 at *
  have hQ2l:Q2.length=Q.length+1+1:=by rw [←hQ2];simp
  have hmz:z∈Q2:=by rw [←hQ2];simp
  have hmQ:∀q∈Q,q∈Q2:=fun q hq=>by rw [←hQ2];simp [hq]
  have hmp:Grp.pw (gm O P C) (zv O) y O[dep z].toNat∈Q2:=by rw [←hQ2];simp
  have hNQ2:∀N,gB O P C N→N y→((∀q∈Q2,N q)↔(∀q∈Q,N q)∧N z):=fun N hN hy=>by
   rw [←hQ2];refine⟨fun h=>⟨fun q hq=>h q (by simp [hq]),h z (by simp)⟩,fun⟨h3,h4⟩ q hq=>?_⟩
   rcases List.mem_append.1 hq with hq|hq
   ·rcases List.mem_append.1 hq with hq | hq
    ·exact h3 q hq
    ·rw [List.mem_singleton.1 hq];exact h4
   ·rw [List.mem_singleton.1 hq];exact hN.pw hy _
  generalize (rq'++[PV.fz wz az z.length (pis z)])++[.fz wo ao _ (pis (Grp.pw (gm O P C) (zv O) y O[dep z].toNat))]=rq2 at *
  rw [←hQ2l]at p2
  refine zD (fun m us h3=>∃(i:Nat) (vQ:PV) (E:List (List Int)) (re:List PV),i≤O.length∧m=O.length-i∧us=[.ptr ss 0,.bool true,vQ,.fz true (.sl oy 0 O.length capy) O.length (pis y),.int .i64 (dep z),.sl sb 0 O.length (.known O.length),.int .i64 O.length,.int .i64 i]∧Keep (σ.set sb rb') h3∧PQ σ.next h3 vQ (Q2++E).length re∧All2 FI re (Q2++E)∧(∀q∈E,gS O q)∧E.length≤i∧(∀(e:Nat) (b:List Int),e<i→D'[e]? = some (some b)→gcom O P C b y∈E)∧∀N,gB O P C N→InD N D'→N y→∀q∈E,N q) O.length ?_ ?_
  ·exact⟨0,v2,[],_,by omega,by omega,rfl,k2,by rw [List.append_nil];exact p2,by rw [List.append_nil];exact hrq2,fun q hq=>(by cases hq),Nat.le_refl _,fun e b h=>(by omega),fun N _ _ _ q hq=>(by cases hq)⟩
  clear k2 p2 v2 h2 hq2 t0 t1 g0
  as_aux_lemma=>
  rintro m us h3 ⟨i,vQ,E,re,hi,rfl,rfl,k3,p3,hre,hgE,hEl,hcE,hNE⟩
  have hq3:=(hq.setB rb').keep k3;obtain⟨t0,t1,g0⟩:=rr hq3;simp only [pwA,seval,-iQ0];refine iteI (fun hlt=>?_) fun hge=>?_
  rotate_left
  ·have hdb:dep z<rb'.length:=by rw [hrb'.1,hD'.len];exact hd
   have hwr:h3.wr sb (dep z) [.fz true (.sl oy 0 O.length capy) O.length (pis y)]=some (h3.set sb (rb'.set (dep z) (.fz true (.sl oy 0 O.length capy) O.length (pis y)))):=by
    rw [Zr hq3.bobj,if_pos ⟨by rw [List.length_singleton];omega,rfl⟩,List.append_assoc,List.singleton_append,List.length_singleton,take_set _ hdb]
   simp only [pwA,seval,-iQ0,t1,hd,hwr];have hnone:D'[dep z]? = some none:=hz1 hd;have hfree:=zEy (y:=y) hnone;refine⟨_,?_,true,Q2++E,vQ,_,D'.set (dep z) (some y),re,rfl,rfl,?_,?_,hre,?_,DRow.put (o:=oy) (cap:=capy) hrb',hD'.put hd y1 hy1,hQq.put hz2 hnone (by simp [hmz]) (fun q hq=>by simp [hmQ q hq]) (by rw [at_eq hd];simp [hmp]) (fun e b hb=>.inl (by
    have:=hcE e b (by
     rcases Nat.lt_or_ge e D'.length with h|h
     ·have:=hD'.len;omega
     ·rw [List.getElem?_eq_none h]at hb;cases hb) hb
    simp [this])),fun N hN=>?_,by omega,fun _=>by omega,?_⟩
   ·simp only [List.length_append];omega
   ·exact⟨k3.next,k3.top,fun t ht=>by
     rw [zn,zn]
     split
     ·rfl
     ·rename_i e
      have:=k3.obj t ht
      rw [zn,if_neg e]at this
      exact this⟩
   ·exact p3.set hq.blt _
   ·intro q hq
    rcases List.mem_append.1 hq with hq|hq
    ·exact hgQ2 q hq
    ·exact hgE q hq
   ·rw [←hS N hN,InD.put hnone]
    constructor
    ·rintro ⟨⟨g1,g2⟩,g3⟩
     obtain⟨g4,g5⟩:=(hNQ2 N hN g2).1 fun q hq=>g3 q (by simp [hq])
     refine⟨g1,fun q hq=>?_⟩
     rcases List.mem_cons.1 hq with rfl|hq
     ·exact(hz2.iff F hN g1).2 g5
     ·exact g4 q hq
    ·rintro ⟨g1,g2⟩
     have gz':=(hz2.iff F hN g1).1 (g2 x (by simp))
     have gy:=hNy N hN gz';refine⟨⟨g1,gy⟩,fun q hq=>?_⟩
     rcases List.mem_append.1 hq with hq|hq
     ·exact(hNQ2 N hN gy).2 ⟨fun q hq=>g2 q (List.mem_cons_of_mem _ hq),gz'⟩ q hq
     ·exact hNE N hN g1 gy q hq
   ·simp only [List.length_append];omega
  have hlt':i<O.length:=by omega
  have hrd3:=zF hq3.bobj i;rcases DRow.get hrb' (d:=i) (by rw [hD'.len];exact hlt')with ⟨e1,e2⟩|⟨oo,cap,b,e1,e2⟩
  ·rw [e1]at hrd3
   simp only [pwA,seval,-iQ0,hlt',hrd3,wrapS hlt' (by omega:O.length≤4611686018427387904)]
   refine⟨_,by omega,i+1,vQ,E,re,by omega,rfl,rfl,k3,p3,hre,hgE,by omega,fun e b h1 h2=>?_,hNE⟩
   rcases Nat.lt_or_ge e i with h|h
   ·exact hcE e b h h2
   ·rw [show e=i by omega,e2]at h2;cases h2
  ·rw [e1]at hrd3
   have bS:gS O b:=(hD'.row _ _ e2).1.mono (Nat.zero_le _);simp only [pwA,seval,-iQ0,hlt',hrd3,t0];refine zHK s F hq3.pg hR0 bS yS ⟨true,_,by rw [bS.len]⟩ ⟨true,_,by rw [hyl]⟩ fun vc fc=>?_
   have fc':=fc;obtain⟨wc,ac,rfl⟩:=fc;simp only [pwA,seval,-iQ0];refine PQ.push (bytes:=24) (σb:=σ.set sb rb') k3 p3 (by rw [List.length_append];omega) (by rw [List.length_append];omega) fun v4 h4 k4 p4=>?_
   simp only [pwA,seval,-iQ0,wrapS hlt' (by omega:O.length≤4611686018427387904)]
   refine⟨_,by omega,i+1,v4,E++[gcom O P C b y],re++[.fz wc ac (gcom O P C b y).length (pis (gcom O P C b y))],by omega,rfl,rfl,k4,?_,?_,?_,?_,?_,?_⟩
   rotate_left
   ·rw [←List.append_assoc];exact hre.snoc fc'
   ·intro q hq
    rcases List.mem_append.1 hq with hq|hq
    ·exact hgE q hq
    ·rw [List.mem_singleton.1 hq];exact G.com_in bS yS
   ·simp;omega
   ·intro e b' h1 h2
    rcases Nat.lt_or_ge e i with h|h
    ·simp [hcE e b' h h2]
    ·rw [show e=i by omega,e2]at h2;cases h2;simp
   ·intro N hN hD1 hy q hq
    rcases List.mem_append.1 hq with hq|hq
    ·exact hNE N hN hD1 hy q hq
    ·rw [List.mem_singleton.1 hq];exact hN.com_in (hD1 _ _ e2) hy
   ·rw [←List.append_assoc,List.length_append,List.length_singleton];exact p4
end Go.Proofs
namespace Go.Grp
end Go.Grp
namespace Go.Proofs
open Go.Ab Go.Lie Go.Grp
variable {σ:PHeap} {K:PV→PHeap→Prop} {O:List Int} {P:List (List Int)} {C:List (List (List Int))} {vO vP vC vx vy vL vU:PV} {x y z f a b:List Int} {L u:List (List Int)} {rP rC rb:List PV} {D:List (Option (List Int))} {d j sp ss sb n:Nat}
def Ones (O:List Int) (u:List (List Int)):Prop:=∀v∈u,gS O v∧dep v<O.length∧at_ v (dep v)=1
theorem zH6 {o z:Int} (ho:2≤o) (hz:0≤z∧z<o) (h0:z≠0):((o-(z+1) % o) % o).toNat<((o-z) % o).toNat:=by
 have e:(o-z) % o=o-z:=Int.emod_eq_of_lt (by omega) (by omega)
 rw [e]
 by_cases h:z+1=o
 ·rw [h,Int.emod_self,Int.sub_zero,Int.emod_self];omega
 ·rw [Int.emod_eq_of_lt (a:=z+1) (by omega) (by omega),Int.emod_eq_of_lt (by omega) (by omega)];omega
theorem zAs (s:Shp O P C) (F:Full O P C O.length) (hC:Cent O C) (hn:0<O.length) (hs:PtrG σ sp vO vP vC) (hR:IsPr vO vP vC O P C) (hU:FII vU u) (hu:Ones O u) (hasc:u.Pairwise fun a b=>dep a<dep b) (hul:u.length≤1000) (hx:gS O x) (hvx:FI vx x)
  (hk:∀o cap z,gS O z→(∀t,(∀v∈u,t<dep v)→∀j,j≤t→at_ z j=at_ x j)→(∀v∈u,at_ z (dep v)=0)→(∀N,gB O P C N→(∀v∈u,N v)→(N x↔N z))→K (.fz true (.sl o 0 O.length cap) O.length (pis z)) σ):
  zA Tryz.prog 179 [.ptr sp 0,vU,vx] σ K:=by
 have hn6:=s.le;have hxl:=hx.len;have hsl:=hs.lt;obtain⟨wx,ax,rfl⟩:=hvx;have hUU:=hU;obtain⟨wl,al,rl,rfl,hrl⟩:=hU;refine zA.gh ?_;refine zB mix Tryz.func179 ?_;simp only [pwA,seval,-iQ0];refine Qy rfl (by omega) ⟨fun h0=>absurd hxl (by rw [h0];simp;omega),fun cap hc=>?_⟩
 rw [hxl]at hc ⊢
 simp only [pwA,seval,-iQ0];refine QX hUU (fun v hv=>⟨by rw [(hu v hv).1.len];exact(hu v hv).2.1,by rw [(hu v hv).1.len];omega⟩) (by omega) fun vp=>?_
 simp only [pwA,seval,-iQ0];refine zD (fun m vs h'=>∃(i:Nat) (z:List Int),i≤u.length∧m=u.length-i∧vs=[.ptr sp 0,.fz wl al u.length rl,.sl σ.next 0 O.length cap,.fz true vp u.length (pis (deps u)),.int .i64 u.length,.int .i64 i]∧h'=σ.new (pis z)∧gS O z∧(∀t,(∀v∈u,t<dep v)→∀j,j≤t→at_ z j=at_ x j)∧(∀k (hk:k<u.length),k<i→at_ z (dep u[k])=0)∧(∀N,gB O P C N→(∀v∈u,N v)→(N x↔N z))) u.length ⟨0,x,by omega,by omega,rfl,rfl,hx,fun _ _ _ _=>rfl,fun k _ h=>by omega,fun _ _ _=>Iff.rfl⟩ ?_
 rintro m vs h' ⟨i,z,hi,rfl,rfl,rfl,hz,hj,h0,hN⟩
 simp only [pwA,seval,-iQ0];refine iteI (fun hlt=>?_) fun hge=>?_
 rotate_left
 ·exact Gh.finF (zC σ _) (by simp only [pwA,seval,-iQ0]) (Nat.le_refl _) (zo _ _) hc.ok fun o=>hk o cap z hz hj (fun v hv=>by
   obtain⟨k,hkl,rfl⟩:=List.mem_iff_getElem.1 hv;exact h0 k hkl (by omega)) hN
 obtain⟨w4,a4,hr⟩:=hrl.rowI hlt;obtain⟨u1,u2,u3⟩:=hu _ (List.getElem_mem hlt);have hmem:u[i]∈u:=List.getElem_mem hlt;have hpd:(deps u)[i]? = some (dep u[i]:Int):=by simp [deps,hlt]
 simp only [pwA,seval,-iQ0,hlt,zL,hpd];refine zD (fun m vs h'=>∃(z:List Int),m=((at_ O (dep u[i])-at_ z (dep u[i])) % at_ O (dep u[i])).toNat∧vs=[.ptr sp 0,.fz wl al u.length rl,.sl σ.next 0 O.length cap,.int .i64 i,.int .i64 (dep u[i]),.fz true vp u.length (pis (deps u)),.int .i64 u.length,.int .i64 i]∧h'=σ.new (pis z)∧gS O z∧(∀t,(∀v∈u,t<dep v)→∀j,j≤t→at_ z j=at_ x j)∧(∀k (hk:k<u.length),k<i→at_ z (dep u[k])=0)∧(∀N,gB O P C N→(∀v∈u,N v)→(N x↔N z))) _ ⟨z,rfl,rfl,rfl,hz,hj,h0,hN⟩ ?_
 clear hz hj hN h0 z
 rintro m vs h' ⟨z,rfl,rfl,rfl,hz,hj,h0,hN⟩
 have hzl:=hz.len;have hdz:dep u[i] < z.length:=by omega
 have bz:=hz.bd _ u2;have bO:=s.pr _ u2;simp only [pwA,seval,-iQ0,u2,pisAt hdz];refine iteI (fun heq=>?_) fun hneq=>?_
 ·simp only [pwA,seval,-iQ0,wrapS hlt (by omega:u.length≤4611686018427387904)]
  refine⟨_,by omega,i+1,z,by omega,rfl,rfl,rfl,hz,hj,fun k hkl hk=>?_,hN⟩
  rcases Nat.lt_or_ge k i with h|h
  ·exact h0 k hkl h
  ·have e:k=i:=by omega
   subst e;exact heq
 ·obtain⟨g1,g2,g3⟩:=zHe s F hC u2 hz (Ze u1) u3
  simp only [pwA,seval,-iQ0,hlt,hr];refine Z8 s F (hs.new _) hR (x:=z) (by simp only [pwA,seval,-iQ0]) (by simp only [pwA,seval,-iQ0]) (by omega) hc (by rw [Nat.sub_self];exact hz) (by rw [Nat.sub_self];exact u1) ⟨w4,a4,rfl⟩ ?_
  simp only [pwA,seval,-iQ0];refine⟨_,?_,_,rfl,rfl,g1,fun t ht j hjt=>?_,fun k hkl hk=>?_,fun N h1 h2=>(hN N h1 h2).trans ⟨fun h=>h1.cl h (h2 _ hmem),fun h=>h1.quotR F.g (h2 _ hmem) hz h⟩⟩
  ·show((at_ O (dep u[i])-at_ (gm O P C z u[i]) (dep u[i])) % at_ O (dep u[i])).toNat<_
   rw [g3];exact zH6 bO.1 bz hneq
  ·show at_ (gm O P C z u[i]) j=_
   rw [g2 j (by have:=ht _ hmem;omega)]
   exact hj t ht j hjt
  ·show at_ (gm O P C z u[i]) (dep u[k])=0
   rw [g2 _ (List.pairwise_iff_getElem.1 hasc k i hkl hlt hk)];exact h0 k hkl hk
end Go.Proofs
namespace Go.Grp
end Go.Grp
namespace Go.Proofs
open Go.Ab Go.Lie Go.Grp
variable {σ:PHeap} {K:PV→PHeap→Prop} {O:List Int} {P:List (List Int)} {C:List (List (List Int))} {vO vP vC vx vy vL vU vB vg:PV} {x y z f a b g:List Int} {L u by_:List (List Int)} {rP rC rb:List PV} {D:List (Option (List Int))} {d j sp ss sb n:Nat}
theorem zAV (s:Shp O P C) (hs:PtrG σ sp vO vP vC) (hR:IsPr vO vP vC O P C) (hk:∀ss sb h',Keep σ h'→σ.next≤ss→σ.next≤sb→SeqG h' ss sb sp O.length (List.replicate O.length (.fz true .nils 0 [])) vO vP vC→K (.ptr ss 0) h'):
  zA Tryz.prog 147 [.ptr sp 0] σ K:=by
 have hn6:=s.le;have hsl:=hs.lt;obtain⟨⟨w0,a0,rfl⟩,_,_⟩:=hR;have e0:σ.rd1 sp 0=some (.fz w0 a0 O.length (pis O)):=by rw [zF hs.obj];rfl
 refine zB mix Tryz.func147 ?_;simp only [pwA,seval,-iQ0,e0,mk24 (n:=O.length) (by omega),mkL (n:=O.length) (by omega)]
 exact hk (σ.next+1) σ.next _ ((zC σ _).new _) (by omega) (Nat.le_refl _) ⟨by simp only [pwA,seval,-iQ0],by simp only [pwA,seval,-iQ0],by simp only [pwA,seval,-iQ0],by simp only [pwA,seval,-iQ0];omega,(hs.new _).new _,by omega,by omega⟩
theorem zDc (s:Shp O P C) (F:Full O P C O.length) (hC:Cent O C) (hq:SeqG σ ss sb sp O.length rb vO vP vC) (hR:IsPr vO vP vC O P C) (hD:OkD O D) (hrb:All2 (DRow O.length) rb D)
  (hk:∀v u,FII v u→CanD O P C D u→K v σ):zA Tryz.prog 150 [.ptr ss 0] σ K:=by
 have hn6:=s.le;have r0:σ.rd1 ss 0=some (.ptr sp 0):=by rw [zF hq.obj];rfl
 have r1:σ.rd1 ss 1=some (.sl sb 0 O.length (.known O.length)):=by rw [zF hq.obj];rfl
 have hw:IntKind.i64.wrap ((O.length:Int)-1)=(O.length:Int)-1:=wrap64 (by omega) (by omega)
 refine zA.gh ?_;refine zB mix Tryz.func150 ?_;simp only [pwA,seval,-iQ0,r1,hw];refine Qt (fun m vs h2=>∃(k:Nat) (vO:PV) (u:List (List Int)),k≤O.length∧m=k∧vs=[.ptr ss 0,vO,.int .i64 ((k:Int)-1)]∧Keep σ h2∧FII vO u∧Ones O u∧u.length+k≤O.length∧(∀v∈u,k≤dep v)∧(u.Pairwise fun a b=>dep a<dep b)∧(∀v∈u,∀w∈u,dep v≠dep w→at_ v (dep w)=0)∧(∀(d:Nat) (y:List Int),k≤d→D[d]? = some (some y)→∃v∈u,dep v=d)∧(∀N,gB O P C N→((∀x∈u,N x)↔∀d y,k≤d→D[d]? = some (some y)→N y))) O.length (.here ⟨O.length,_,[],Nat.le_refl _,rfl,rfl,Keep.refl σ,⟨_,_,_,rfl,All2.nil _⟩,fun v hv=>(by cases hv),by simp,fun v hv=>(by cases hv),List.Pairwise.nil,fun v hv=>(by cases hv),fun d y h1 h2=>?_,fun N hN=>⟨fun _ d y h1 h2=>?_,fun _ x hx=>(by cases hx)⟩⟩) ?_
 ·rw [List.getElem?_eq_none (by rw [hD.len];exact h1)]at h2;cases h2
 ·rw [List.getElem?_eq_none (by rw [hD.len];exact h1)]at h2;cases h2
 rintro m vs h2 ⟨k,vU,u,hkn,rfl,rfl,hk2,hU,hu,hul,hud,hasc,hred,hall0,hN⟩
 rcases Nat.eq_zero_or_pos m with rfl|hmp
 ·simp only [pwA,seval,-iQ0,show ¬((0:Int)≤((0:Nat):Int)-1) by omega]
  exact Gh.fin0 hk2 (hU.bel _) (hk vU u hU ⟨hu,hasc,hred,fun d y hy=>hall0 d y (Nat.zero_le _) hy,by omega,fun N h1=>(hN N h1).trans ⟨fun h d y hy=>h d y (Nat.zero_le _) hy,fun h d y _ hy=>h d y hy⟩⟩)
 obtain⟨k,rfl⟩:∃k,m=k+1:=⟨m-1,by omega⟩
 have e:((k+1:Nat):Int)-1=(k:Int):=by omega
 have hkn':k<O.length:=hkn;have hrd:=zF (hq.keep hk2).bobj k;have r0':h2.rd1 ss 0=some (.ptr sp 0):=by rw [zF (hq.keep hk2).obj];rfl
 have r1':h2.rd1 ss 1=some (.sl sb 0 O.length (.known O.length)):=by rw [zF (hq.keep hk2).obj];rfl
 rw [e];have hw2:IntKind.i64.wrap ((k:Int)-1)=(k:Int)-1:=wrap64 (by omega) (by omega)
 rcases DRow.get hrb (d:=k) (by rw [hD.len];exact hkn')with ⟨e1,e2⟩|⟨oo,cap,y,e1,e2⟩
 ·rw [e1]at hrd
  simp only [pwA,seval,-iQ0,hkn',r1',hrd,hw2];refine⟨_,Nat.lt_succ_self k,.here ⟨k,vU,u,by omega,rfl,rfl,hk2,hU,hu,by omega,fun v hv=>by have:=hud v hv;omega,hasc,hred,fun d y hd hy=>?_,fun N h1=>(hN N h1).trans ⟨fun h d y hd hy=>?_,fun h d y hd hy=>h d y (by omega) hy⟩⟩⟩
  ·rcases Nat.lt_or_ge k d with x | x
   ·exact hall0 d y x hy
   ·rw [show d=k by omega,e2]at hy;cases hy
  rcases Nat.lt_or_ge k d with x|x
  ·exact h d y x hy
  ·rw [show d=k by omega,e2]at hy;cases hy
 ·rw [e1]at hrd
  obtain⟨y1,y2⟩:=hD.row _ _ e2;have yS:gS O y:=y1.mono (Nat.zero_le _);simp only [pwA,seval,-iQ0,hkn',r0',r1',hrd,hw2];refine zAs s F hC (by omega) (hq.keep hk2).pg hR hU hu hasc (by omega) yS ⟨true,_,by rw [y1.len]⟩ fun oz capz z zS z1 z0 z2=>?_
  have za:∀j,j≤k→at_ z j=at_ y j:=z1 k fun v hv=>hud v hv
  have zt:TT O k z:=⟨zS.len,zS.bd,fun j hj=>by rw [za j (by omega)];exact y1.zero j hj⟩
  have zk:at_ z k=1:=by rw [za k (Nat.le_refl _)];exact y2
  have hzl:=zS.len;have zd:dep z=k:=by
   have h1:=dep_ge zt (by omega)
   rcases Nat.lt_or_ge k (dep z)with h|h
   ·rw [qw h]at zk;omega
   ·omega
  obtain⟨wO,aO,rO,rfl,hrO⟩:=hU;simp only [pwA,seval,-iQ0];refine PSl.cat (bytes:=24) (σb:=h2) (n:=1) (cs:=[.fz true (.sl oz 0 O.length capz) O.length (pis z)]) (zC h2 _) (PSl.new _ 1 rfl (Nat.le_refl _)) hrO.1 (by omega) (by omega) fun v3 h3 k3 a3=>?_
  obtain⟨s3,cap3,rfl,hc3,ho3,hl3,hge3,hlt3⟩:=a3;have hall:All2 FI ([.fz true (.sl oz 0 O.length capz) O.length (pis z)]++rO) (z::u):=(All2.nil FI |>.snoc (⟨true,_,by rw [hzl]⟩:FI (.fz true (.sl oz 0 O.length capz) O.length (pis z)) z)).append hrO
  have hkn2:=hk2.next;simp only [pwA,seval,-iQ0,hw2];refine⟨k,Nat.lt_succ_self k,.fz s3 _ ho3 (hall.bI 0) fun o1=>.here ⟨k,.fz true (.sl o1 0 (1+u.length) cap3) (1+u.length) ([.fz true (.sl oz 0 O.length capz) O.length (pis z)]++rO),z::u,by omega,rfl,?_,(hk2.trans k3).kill (by omega),⟨true,_,_,by rw [List.length_cons,Nat.add_comm],hall⟩,?_,by simp;omega,?_,?_,?_,?_,fun N h1=>?_⟩⟩
  ·simp [sbs,Go.Ab.sb,hc3.ok]
  ·intro v hv
   rcases List.mem_cons.1 hv with rfl|hv
   ·exact⟨zS,by omega,by rw [zd];exact zk⟩
   ·exact hu v hv
  ·intro v hv
   rcases List.mem_cons.1 hv with rfl|hv
   ·omega
   ·have:=hud v hv;omega
  ·rw [List.pairwise_cons]
   exact⟨fun v hv=>by have:=hud v hv;omega,hasc⟩
  ·intro v hv w hw hne
   rcases List.mem_cons.1 hv with ev|hv2
   ·rcases List.mem_cons.1 hw with ew | hw2
    ·rw [ev,ew]at hne;exact absurd rfl hne
    ·rw [ev];exact z0 w hw2
   ·rcases List.mem_cons.1 hw with ew | hw2
    ·rw [ew];exact qw (by have:=hud v hv2;omega)
    ·exact hred v hv2 w hw2 hne
  ·intro d y' hd hy
   rcases Nat.lt_or_ge k d with x|x
   ·obtain⟨v,hv,e⟩:=hall0 d y' x hy
    exact⟨v,List.mem_cons_of_mem _ hv,e⟩
   ·exact⟨z,by simp,by omega⟩
  ·have hsplit:(∀d y,k≤d→D[d]? = some (some y)→N y)↔(N y∧∀d y,k+1≤d→D[d]? = some (some y)→N y):=by
    refine⟨fun h=>⟨h k y (Nat.le_refl _) e2,fun d y hd hy=>h d y (by omega) hy⟩,fun⟨h3,h4⟩ d y' hd hy=>?_⟩
    rcases Nat.lt_or_ge k d with x|x
    ·exact h4 d y' x hy
    ·rw [show d=k by omega,e2]at hy;cases hy;exact h3
   rw [hsplit,←hN N h1,List.forall_mem_cons];refine⟨fun⟨h3,h4⟩=>⟨(z2 N h1 h4).2 h3,h4⟩,fun⟨h3,h4⟩=>⟨(z2 N h1 h4).1 h3,h4⟩⟩
noncomputable abbrev gcnj (O:List Int) (P:List (List Int)) (C:List (List (List Int))) (x g:List Int):List Int:=cnj (gS O) (gm O P C) (zv O) x g
end Go.Proofs
namespace Go.Grp
end Go.Grp
namespace Go.Proofs
open Go.Ab Go.Lie Go.Grp
variable {σ:PHeap} {K:PV→PHeap→Prop} {O:List Int} {P:List (List Int)} {C:List (List (List Int))} {vO vP vC vx vy vL vU vV vB vg:PV} {x y z f a b g:List Int} {L u v z':List (List Int)} {rP rC rb:List PV} {D:List (Option (List Int))} {d j sp ss sb n:Nat}
theorem zEA (i:Nat):((List.range (i+1)).map (Grp.unit O))=((List.range i).map (Grp.unit O))++[Grp.unit O i]:=by
 rw [List.range_succ,List.map_append];rfl
theorem zHE (s:Shp O P C) (hs:PtrG σ sp vO vP vC) (hR:IsPr vO vP vC O P C) (hk:∀v,FII v (Z7 O)→K v σ):zA Tryz.prog 182 [.ptr sp 0] σ K:=by
 have hn6:=s.le;obtain⟨⟨w0,a0,rfl⟩,_,_⟩:=hR;have e0:∀{h:PHeap},Keep σ h→h.rd1 sp 0=some (.fz w0 a0 O.length (pis O)):=fun k=>by rw [zF (hs.keep k).obj];rfl
 refine zA.gh ?_;refine zB mix Tryz.func182 ?_;simp only [pwA,seval,-iQ0,e0 (Keep.refl σ)];refine zD (fun m vs h'=>∃(i:Nat) (v:PV) (rows:List PV),i≤O.length∧m=O.length-i∧vs=[.ptr sp 0,v,.int .i64 O.length,.int .i64 i]∧Keep σ h'∧PAcc σ.next 1 h' v i rows∧All2 FI rows ((List.range i).map (Grp.unit O))) O.length ?_ ?_
 ·exact⟨0,_,[],by omega,by omega,rfl,Keep.refl σ,PAcc.nil _ _ _,All2.nil _⟩
 rintro m vs h' ⟨i,v,rows,hi,rfl,rfl,hkp,ha,hall⟩
 simp only [pwA,seval,-iQ0];refine iteI (fun hlt=>?_) fun hge=>?_
 rotate_left
 ·have hie:i=O.length:=by omega
  subst hie;exact ha.fin hkp (hall.bI 0) fun a=>hk _ ⟨true,a,rows,by unfold Z7;rw [List.length_map,List.length_range],hall⟩
 have hlt':i<O.length:=by omega
 simp only [pwA,seval,-iQ0,e0 hkp];refine zAq (by omega) hlt' fun a1=>?_
 simp only [pwA,seval,-iQ0];refine PAcc.push (bytes:=24) hkp ha (by omega) (by omega) fun v' h2 k2 a2=>?_
 simp only [pwA,seval,-iQ0,wrapS hlt' (by omega:O.length≤4611686018427387904)]
 refine⟨_,by omega,i+1,v',_,by omega,rfl,rfl,k2,a2.acc,?_⟩
 rw [zEA];exact hall.snoc ⟨true,a1,by simp;rfl⟩
end Go.Proofs
namespace Go.Grp
end Go.Grp
namespace Go.Proofs
open Go.Ab Go.Lie Go.Grp
variable {σ:PHeap} {K:PV→PHeap→Prop} {O:List Int} {P:List (List Int)} {C:List (List (List Int))} {vO vP vC vx vy vL vU vV vB vg:PV} {x y z f a b g:List Int} {L u v z':List (List Int)} {rP rC rb:List PV} {d j sp ss sb n:Nat}
theorem Cons.full (s:Shp O P C) (hc:Cons O P C):Full O P C O.length:=full_of s (Nat.le_refl _) fun j _ h=>hc j h
theorem qi.isp (h:qi O P C):∀o∈O,isP o:=h.2.2.2.1
end Go.Proofs
namespace Go.Grp
end Go.Grp
namespace Go.Proofs
open Go.Ab Go.Lie Go.Grp
variable {σ:PHeap} {K:PV→PHeap→Prop} {O:List Int} {P:List (List Int)} {C:List (List (List Int))} {vO vP vC vx vy vz:PV} {x y z:List Int} {d j sp n:Nat}
structure LG (O:List Int) (P:List (List Int)) (C:List (List (List Int))):Prop where
 pr:qi O P C
 co:Cons O P C
theorem LG.s (g:LG O P C):Shp O P C:=g.pr.shp
theorem LG.F (g:LG O P C):Full O P C O.length:=Cons.full g.s g.co
theorem LG.cent (g:LG O P C):Cent O C:=trivial
theorem zDK (g:LG O P C) (hR:IsPr vO vP vC O P C) (hx:gS O x) (hvx:FI vx x) {k:Int} (hk0:0≤k∧k≤1000) (hk:∀v,FI v (Grp.pw (gm O P C) (zv O) x k.toNat)→K v σ):
  zA Tryz.prog 115 [.agg [vO,vP,vC],vx,.int .i64 k] σ K:=by
 have h0:=hR.O.one;have h1:=hR.P.one;have h2:=hR.C.one;have M:=g.F.g.toMon;have hk1:¬k<0:=by omega
 refine zA.gh ?_;refine zB mix Tryz.func115 ?_;simp only [pwA,seval,-iQ0,h0,h1,h2,hk1];refine zBR g.s (d:=O.length) (i:=0) (by omega) (zAW g.s (by omega)) M hR hx hvx hk0 fun v hv=>?_
 simp only [pwA,seval,-iQ0];exact Gh.fin0 (zC σ _) (hv.bel _) (hk v hv)
end Go.Proofs
namespace Go.Grp
end Go.Grp
namespace Go.Proofs
open Go.Ab Go.Lie Go.Grp
variable {σ:PHeap} {K:PV→PHeap→Prop} {O:List Int} {P:List (List Int)} {C:List (List (List Int))} {vO vP vC vx vy vz vL:PV} {x y z:List Int} {xs:List (List Int)} {d j sp n:Nat}
theorem isExp.gS (h:isExp O x):gS O x:=⟨h.1,fun j hj=>by have:=h.2 j (by rw [h.1];exact hj);omega,fun j hj=>by omega⟩
end Go.Proofs
namespace Go.Proofs.YtjlpbpfaihhamaaGreat
open Go.ChangeShapes Go.WideShapes Go.ChangeAt Go.RowKit Go.Ab Go.Joins Go.Lie Go.Proofs
theorem own:ownKnob Tryz.prog.godebug=none:=by kernel_rfl
theorem laidOut:laidOutB Tryz.prog=true:=by kernel_rfl
theorem zR0:Tryz.prog.cellsOf 23=1:=by kernel_rfl
theorem cell2:Tryz.prog.cellsOf 2=1:=by kernel_rfl
theorem zRz:Tryz.prog.cellsOf 35=1:=by kernel_rfl
variable {H:Type} {enc:TypeId×Value→H} {W w0:World} {j:Inj} {h:AHeap}
def LII (v:PV) (xs:List (List Int)):Prop:=FII v xs∧xs.length≤9223372036854775807∧∀x∈xs,x.length≤9223372036854775807
def LIII (v:PV) (xs:List (List (List Int))):Prop:=FIII v xs∧xs.length≤9223372036854775807∧∀q∈xs,q.length≤9223372036854775807∧∀x∈q,x.length≤9223372036854775807
theorem layI:Lay1 enc Tryz.prog W 35 (fun v (xs:List Int)=>FI v xs∧xs.length≤9223372036854775807):=zOi (e:=2) Tryz.underlying35 cell2 Tryz.underlying2
theorem layII:Lay1 enc Tryz.prog W 23 LII:=by
 intro w0 j h held fuel v x m hx;obtain⟨j',h',pv,a,g1,g2,g3,g4,g5,g6,g7,g8⟩:=zDJ Tryz.underlying23 zRz layI w0 j h held fuel v x m hx;exact⟨j',h',pv,a,g1,g2,g3,g4,g5,g6,g7.imp fun _ _ k=>k.1,g8,g7.all fun _ _ k=>k.2⟩
theorem zRh:Lay1 enc Tryz.prog W 36 LIII:=by
 intro w0 j h held fuel v x m hx;obtain⟨j',h',pv,a,g1,g2,g3,g4,g5,g6,g7,g8⟩:=zDJ Tryz.underlying36 zR0 layII w0 j h held fuel v x m hx;exact⟨j',h',pv,a,g1,g2,g3,g4,g5,g6,g7.imp fun _ _ k=>k.1,g8,g7.all fun _ _ k=>k.2⟩
end Go.Proofs.YtjlpbpfaihhamaaGreat
namespace Go.Proofs.YtjlpbpfaihhamaaGreat
open Go.ChangeShapes Go.WideShapes Go.ChangeAt Go.RowKit Go.Ab Go.Joins Go.Lie Go.Proofs
theorem zRy:Tryz.prog.cellsOf 38=3:=by kernel_rfl
variable {H:Type} {enc:TypeId×Value→H} {W w0:World} {j:Inj} {h:AHeap}
set_option maxRecDepth 100000 in
theorem layPr {b0:Nat} {v:Value} {d:DataW H} {q:List MemPlace} (m:MR W.heap.size w0 j h W) (hv:Value.okWide Tryz.prog W .any b0 38 v) (ht:DataW.Trod enc Tryz.prog W 0 (fun _=>true) true 38 v d q):
  ∃(j':Inj) (h':AHeap) (vO vP vC:PV) (Os:List Int) (Ps:List (List Int)) (Cs:List (List (List Int))),MR W.heap.size w0 j' h' W∧j.le j'∧Ext h h'∧VI j' (er idz (.agg [vO,vP,vC])) v∧VOK (zlt h') h' 0 (.agg [vO,vP,vC])∧IsPr vO vP vC Os Ps Cs∧MxP Os Ps Cs:=by
 obtain⟨v0,v1,v2,y0,y1,y2,n,rfl,rfl,rfl,t0,t1,t2⟩:=open_agg3 Tryz.underlying38 (by kernel_rfl) zRy hv ht
 obtain⟨j0,h0,vO,Os,m0,l0,e0,i0,o0,_,r1,r2⟩:=layI w0 j h true n v0 _ m t0;obtain⟨j1,h1,vP,Ws,m1,l1,e1,i1,o1,_,p1,p2,p3⟩:=layII w0 j0 h0 true n v1 _ m0 t1;obtain⟨j2,h2,vB,Bs,m2,l2,e2,i2,o2,_,q1,q2,q3⟩:=zRh w0 j1 h1 true n v2 _ m1 t2;exact⟨j2,h2,vO,vP,vB,Os,Ws,Bs,m2,(l0.trans l1).trans l2,(e0.trans e1).trans e2,⟨_,⟨_,_,rfl,VI.mono (l1.trans l2) _ _ i0,_,_,rfl,VI.mono l2 _ _ i1,_,_,rfl,i2,rfl⟩,rfl⟩,⟨(e1.trans e2).vok o0,e2.vok o1,o2,trivial⟩,⟨r1,p1,q1⟩,⟨r2,p2,p3,q2,q3⟩⟩
end Go.Proofs.YtjlpbpfaihhamaaGreat
namespace Go.Grp
end Go.Grp
namespace Go.Proofs
open Go.Ab Go.Lie Go.Grp
theorem zBV {a b:List Int} (j:Nat):at_ (a++b) j=if j<a.length then at_ a j else at_ b (j-a.length):=by
 by_cases h:j<a.length
 ·rw [if_pos h,at_eq h,at_eq (by rw [List.length_append];omega),List.getElem_append_left h]
 ·rw [if_neg h]
  by_cases h2:j-a.length<b.length
  ·rw [at_eq h2,at_eq (by rw [List.length_append];omega),List.getElem_append_right (by omega)]
  ·rw [at_ge (v:=a++b) (by rw [List.length_append];omega),at_ge (v:=b) (by omega)]
def ordF (O:List Int):Nat→Int
 | 0=>1
 | i+1=>ordF O i*at_ O i
def numF (O x:List Int):Nat→Int
 | 0=>0
 | i+1=>numF O x i*at_ O i+at_ x i
def dgs (O:List Int):Nat→Nat→List Int
 | 0,_=>[]
 | c+1,k=>dgs O c (k / (at_ O c).toNat)++[((k % (at_ O c).toNat:Nat):Int)]
theorem Zl (O:List Int):∀c k,(dgs O c k).length=c
 | 0,_=>rfl
 | c+1,k=>by simp [dgs,Zl O c]
theorem zFy {O:List Int} (h:∀j,j<O.length→2≤at_ O j∧at_ O j≤7):∀{c k:Nat},c≤O.length→∀j,j<c→0≤at_ (dgs O c k) j∧at_ (dgs O c k) j<at_ O j
 | 0,k,hc,j,hj=>by omega
 | c+1,k,hc,j,hj=>by
  have hb:=h c (by omega)
  rw [dgs,zBV,Zl]
  by_cases e:j<c
  ·rw [if_pos e];exact zFy h (by omega) j e
  ·obtain rfl:j=c:=by omega
   rw [if_neg e,Nat.sub_self];show 0≤((k % (at_ O j).toNat:Nat):Int)∧((k % (at_ O j).toNat:Nat):Int)<at_ O j
   have:=Nat.mod_lt k (show 0<(at_ O j).toNat by omega)
   omega
theorem Qa {O:List Int} {P:List (List Int)} {C:List (List (List Int))} (s:Shp O P C) (k:Nat):gS O (dgs O O.length k):=
 ⟨Zl _ _ _,fun j hj=>zFy s.pr (Nat.le_refl _) j hj,fun j hj=>by omega⟩
theorem Qe {O:List Int} (h:∀j,j<O.length→2≤at_ O j∧at_ O j≤7):∀{i:Nat},i≤O.length→1≤ordF O i∧ordF O i≤7 ^ i
 | 0,_=>by simp [ordF]
 | i+1,hi=>by
  obtain⟨h1,h2⟩:=Qe h (i:=i) (by omega)
  obtain⟨h3,h4⟩:=h i (by omega)
  have e1:=Int.mul_le_mul_of_nonneg_left (a:=1) (b:=at_ O i) (c:=ordF O i) (by omega) (by omega)
  have e2:=Int.mul_le_mul h2 h4 (by omega) (by omega)
  rw [ordF,Int.pow_succ];omega
theorem pow7 {i:Nat} (h:i≤6):(7:Int) ^ i≤117649:=by
 match i,h with
 | 0,_=>decide
 | 1,_=>decide
 | 2,_=>decide
 | 3,_=>decide
 | 4,_=>decide
 | 5,_=>decide
 | 6,_=>decide
theorem Q6 {O x:List Int} (h:∀j,j<O.length→2≤at_ O j∧at_ O j≤7) (hx:∀j,j<O.length→0≤at_ x j∧at_ x j<at_ O j):∀{i:Nat},i≤O.length→0≤numF O x i∧numF O x i<ordF O i
 | 0,_=>by simp [ordF,numF]
 | i+1,hi=>by
  obtain⟨h1,h2⟩:=Q6 h hx (i:=i) (by omega)
  obtain⟨h3,h4⟩:=h i (by omega)
  obtain⟨h5,h6⟩:=hx i (by omega)
  have e1:=Int.mul_nonneg h1 (show 0≤at_ O i by omega)
  have e2:=Int.mul_le_mul_of_nonneg_right (a:=numF O x i+1) (b:=ordF O i) (c:=at_ O i) (by omega) (by omega)
  rw [Int.add_mul,Int.one_mul]at e2
  rw [ordF,numF];omega
variable {σ:PHeap} {K:PV→PHeap→Prop} {O:List Int} {P:List (List Int)} {C:List (List (List Int))} {vO vP vC vx:PV} {x:List Int} {sp:Nat}
theorem zDC (s:Shp O P C) (hs:PtrG σ sp vO vP vC) (hO:FI vO O) (hk:K (.int .i64 (ordF O O.length)) σ):zA Tryz.prog 125 [.ptr sp 0] σ K:=by
 have hn6:=s.le;obtain⟨w0,a0,rfl⟩:=hO;have e0:σ.rd1 sp 0=some (.fz w0 a0 O.length (pis O)):=by rw [zF hs.obj];rfl
 refine zB mix Tryz.func125 ?_;simp only [pwA,seval,-iQ0,e0];refine zD (fun m vs h'=>∃i:Nat,i≤O.length∧m=O.length-i∧vs=[.int .i64 (ordF O i),.fz w0 a0 O.length (pis O),.int .i64 O.length,.int .i64 i]∧σ=h') O.length ⟨0,by omega,by omega,rfl,rfl⟩ ?_
 rintro m vs h' ⟨i,hi,rfl,rfl,rfl⟩
 simp only [pwA,seval,-iQ0];refine iteI (fun hlt=>?_) fun hge=>?_
 rotate_left
 ·have hie:i=O.length:=by omega
  subst hie;exact hk
 have hb:=Qe s.pr (i:=i+1) hlt;have h7:=pow7 (i:=i+1) (by omega)
 have ha:=at_eq hlt;have hm:ordF O i*O[i]=ordF O (i+1):=by rw [ordF,ha]
 have hw:IntKind.i64.wrap (ordF O i*O[i])=ordF O (i+1):=by rw [hm,wrap64 (by omega) (by omega)]
 simp only [pwA,seval,-iQ0,hlt,gi hlt,zL,hw,wrapS hlt (by omega:O.length≤4611686018427387904)]
 exact⟨_,by omega,i+1,by omega,rfl,rfl⟩
theorem QH (s:Shp O P C) (hR:IsPr vO vP vC O P C) (hk:K (.int .i64 (ordF O O.length)) σ):zA Tryz.prog 24 [.agg [vO,vP,vC]] σ K:=by
 have hn6:=s.le;have h0:=hR.O.one;have h1:=hR.P.one;have h2:=hR.C.one;obtain⟨⟨w0,a0,rfl⟩,hRP,hRC⟩:=hR;refine zA.gh ?_;refine zB mix Tryz.func24 ?_;simp only [pwA,seval,-iQ0,h1,h2];have e0:(σ.new [.fz w0 a0 O.length (pis O),vP,vC]).rd1 σ.next 0=some (.fz w0 a0 O.length (pis O)):=by simp only [pwA,seval,-iQ0]
 refine zD (fun m vs h'=>∃i:Nat,i≤O.length∧m=O.length-i∧vs=[.ptr σ.next 0,.int .i64 (ordF O i),.int .i64 i]∧h'=σ.new [.fz w0 a0 O.length (pis O),vP,vC]) O.length ⟨0,by omega,by omega,rfl,rfl⟩ ?_
 rintro m vs h' ⟨i,hi,rfl,rfl,rfl⟩
 simp only [pwA,seval,-iQ0,e0];refine iteI (fun hlt=>?_) fun hge=>?_
 rotate_left
 ·have hie:i=O.length:=by omega
  subst hie;exact Gh.fin0 (zC σ _) trivial hk
 have hb:=Qe s.pr (i:=i+1) hlt;have h7:=pow7 (i:=i+1) (by omega)
 have ha:=at_eq hlt;have hm:ordF O i*O[i]=ordF O (i+1):=by rw [ordF,ha]
 have hw:IntKind.i64.wrap (ordF O i*O[i])=ordF O (i+1):=by rw [hm,wrap64 (by omega) (by omega)]
 simp only [pwA,seval,-iQ0,e0,hlt,gi hlt,zL,hw,wrapS hlt (by omega:O.length≤4611686018427387904)]
 exact⟨_,by omega,i+1,by omega,rfl,rfl⟩
theorem zK1 (s:Shp O P C) (hs:PtrG σ sp vO vP vC) (hO:FI vO O) (hx:gS O x) (hvx:FI vx x) (hk:K (.int .i64 (numF O x O.length)) σ):zA Tryz.prog 190 [.ptr sp 0,vx] σ K:=by
 have hn6:=s.le;have hxl:=hx.len;obtain⟨w0,a0,rfl⟩:=hO;obtain⟨wx,ax,rfl⟩:=hvx;have e0:σ.rd1 sp 0=some (.fz w0 a0 O.length (pis O)):=by rw [zF hs.obj];rfl
 refine zB mix Tryz.func190 ?_;simp only [pwA,seval,-iQ0,e0];refine zD (fun m vs h'=>∃i:Nat,i≤O.length∧m=O.length-i∧vs=[.ptr sp 0,.int .i64 (numF O x i),.fz wx ax x.length (pis x),.int .i64 x.length,.int .i64 i]∧σ=h') O.length ⟨0,by omega,by omega,rfl,rfl⟩ ?_
 rintro m vs h' ⟨i,hi,rfl,rfl,rfl⟩
 simp only [pwA,seval,-iQ0];refine iteI (fun hlt=>?_) fun hge=>?_
 rotate_left
 ·have hie:i=O.length:=by omega
  subst hie;exact hk
 have hltO:i<O.length:=by omega
 have hb:=Qe s.pr (i:=i+1) hltO;have h7:=pow7 (i:=i+1) (by omega)
 have hnb:=Q6 s.pr hx.bd (i:=i+1) hltO;have hb1:=Qe s.pr (i:=i) hi;have h71:=pow7 (i:=i) (by omega)
 have hnb1:=Q6 s.pr hx.bd (i:=i) hi;have bx:=hx.bd i hltO;have ha:=at_eq hltO;have hax:=at_eq hlt;have hm:numF O x i*O[i] + x[i]=numF O x (i+1):=by rw [numF,ha,hax]
 rw [hax]at bx
 rw [ha]at bx
 have hm0:0≤numF O x i*O[i]:=by
  have:=(s.pr i hltO).1
  rw [ha]at this
  exact Int.mul_nonneg hnb1.1 (by omega)
 have hw0:IntKind.i64.wrap (numF O x i*O[i])=numF O x i*O[i]:=wrap64 (by omega) (by omega)
 have hw:IntKind.i64.wrap (numF O x i*O[i] + x[i])=numF O x (i+1):=by rw [hm,wrap64 (by omega) (by omega)]
 simp only [pwA,seval,-iQ0,e0,hlt,hltO,gi hlt,gi hltO,zL,hw0,hw,wrapS hltO (by omega:O.length≤4611686018427387904)]
 exact⟨_,by omega,i+1,by omega,rfl,rfl⟩
theorem zBv (s:Shp O P C) (hR:IsPr vO vP vC O P C) (hx:gS O x) (hvx:FI vx x) (hk:K (.int .i64 (numF O x O.length)) σ):zA Tryz.prog 207 [.agg [vO,vP,vC],vx] σ K:=by
 have hn6:=s.le;have hxl:=hx.len;have h0:=hR.O.one;have h1:=hR.P.one;have h2:=hR.C.one;obtain⟨⟨w0,a0,rfl⟩,hRP,hRC⟩:=hR;obtain⟨wx,ax,rfl⟩:=hvx;refine zA.gh ?_;refine zB mix Tryz.func207 ?_;simp only [pwA,seval,-iQ0,h1,h2];have e0:(σ.new [.fz w0 a0 O.length (pis O),vP,vC]).rd1 σ.next 0=some (.fz w0 a0 O.length (pis O)):=by simp only [pwA,seval,-iQ0]
 refine zD (fun m vs h'=>∃i:Nat,i≤O.length∧m=O.length-i∧vs=[.fz wx ax x.length (pis x),.ptr σ.next 0,.int .i64 (numF O x i),.int .i64 i]∧h'=σ.new [.fz w0 a0 O.length (pis O),vP,vC]) O.length ⟨0,by omega,by omega,rfl,rfl⟩ ?_
 rintro m vs h' ⟨i,hi,rfl,rfl,rfl⟩
 simp only [pwA,seval,-iQ0,e0];refine iteI (fun hlt=>?_) fun hge=>?_
 rotate_left
 ·have hie:i=O.length:=by omega
  subst hie;exact Gh.fin0 (zC σ _) trivial hk
 have hltO:i<O.length:=by omega
 have hb:=Qe s.pr (i:=i+1) hltO;have h7:=pow7 (i:=i+1) (by omega)
 have hnb:=Q6 s.pr hx.bd (i:=i+1) hltO;have hb1:=Qe s.pr (i:=i) hi;have h71:=pow7 (i:=i) (by omega)
 have hnb1:=Q6 s.pr hx.bd (i:=i) hi;have bx:=hx.bd i hltO;have ha:=at_eq hltO;have hax:=at_eq hlt;have hm:numF O x i*O[i] + x[i]=numF O x (i+1):=by rw [numF,ha,hax]
 rw [hax]at bx
 rw [ha]at bx
 have hm0:0≤numF O x i*O[i]:=by
  have:=(s.pr i hltO).1
  rw [ha]at this
  exact Int.mul_nonneg hnb1.1 (by omega)
 have hw0:IntKind.i64.wrap (numF O x i*O[i])=numF O x i*O[i]:=wrap64 (by omega) (by omega)
 have hw:IntKind.i64.wrap (numF O x i*O[i] + x[i])=numF O x (i+1):=by rw [hm,wrap64 (by omega) (by omega)]
 simp only [pwA,seval,-iQ0,e0,hlt,hltO,gi hlt,gi hltO,zL,hw0,hw,wrapS hltO (by omega:O.length≤4611686018427387904)]
 exact⟨_,by omega,i+1,by omega,rfl,rfl⟩
end Go.Proofs
namespace Go.Grp
end Go.Grp
namespace Go.Proofs
open Go.Ab Go.Lie Go.Grp
variable {O x y:List Int} {P:List (List Int)} {C:List (List (List Int))} {L:List (List Int)}
theorem zOe (s:Shp O P C) (hx:gS O x) (hy:gS O y) (h:numF O x O.length=numF O y O.length):x=y:=by
 have key:∀i,i≤O.length→numF O x i=numF O y i→∀j,j<i→at_ x j=at_ y j:=by
  intro i
  induction i with
  | zero=>intro _ _ j hj;omega
  | succ i ih=>
   intro hi he j hj;have bx:=hx.bd i hi;have bY:=hy.bd i hi;simp only [numF]at he
   have e1:at_ x i=at_ y i:=by
    have h1:(numF O x i*at_ O i+at_ x i) % at_ O i=at_ x i:=by
     rw [Int.add_comm,Int.add_mul_emod_self_right,Int.emod_eq_of_lt bx.1 bx.2]
    have h2:(numF O y i*at_ O i+at_ y i) % at_ O i=at_ y i:=by
     rw [Int.add_comm,Int.add_mul_emod_self_right,Int.emod_eq_of_lt bY.1 bY.2]
    rw [←h1,←h2,he]
   rcases Nat.lt_or_ge j i with h|h
   ·refine ih (by omega) ?_ j h
    rw [e1]at he
    have h3:numF O x i*at_ O i=numF O y i*at_ O i:=by omega
    exact Int.eq_of_mul_eq_mul_right (by omega) h3
   ·have:j=i:=by omega
    rw [this];exact e1
 exact hx.ext hy fun j h1 h2=>key _ (Nat.le_refl _) h j h2
abbrev BS:=List (List Int)×List (List Int)
end Go.Proofs
namespace Go.Mx
end Go.Mx
namespace Go.Grp
end Go.Grp
namespace Go.Proofs
open Go.Ab Go.Lie Go.Grp Go.Mx
variable {σ:PHeap} {K:PV→PHeap→Prop} {p d:Int} {n na:Nat} {v w x xs ys:List Int} {A B M vals:List (List Int)} {As:List (List (List Int))} {vA vB vM vv vx vw vV v0:PV} {O:List Int} {P:List (List Int)} {C:List (List (List Int))} {vO vP vC:PV} {s sp:Nat}
def Room (σ h:PHeap) (v:PV):Prop:=∃s cs,v=.sl s 0 0 (.grown 1)∧h.obj s=some cs∧σ.next≤s∧s<h.next
theorem zQ5 {c:Nat} (hc:c≤1048576) (h0:∀v h,Keep σ h→(PAcc σ.next 1 h v 0 []∨(0<c∧Room σ h v))→K v h):zA Tryz.prog 230 [.fz true .nils 0 [],.int .i64 c] σ K:=by
 have hcn:¬(c:Int)<0:=by omega
 have z0:IntKind.i64.wrap ((0:Int)-((0:Nat):Int))=0:=rfl;have z1:IntKind.i64.wrap ((c:Int)-0)=(c:Int):=by rw [wrap64 (by omega) (by omega)];omega
 have z2:pslA 1 .nils 0 0=.nils:=rfl;refine zB mix Tryz.func230 ?_;simp only [pwA,seval,-iQ0,hcn,z0,z1]
 by_cases hz:c=0
 ·subst hz
  simp only [pwA,seval,-iQ0];exact h0 _ _ (Keep.refl σ) (.inl (PAcc.nil _ _ _))
 ·have hpos:(0:Int)<(c:Int):=by omega
  have hb:(c:Int)*((8:Nat):Int)≤140737488355328:=by omega
  have hb2:(c:Int)≤4611686018427387904:=by omega
  simp only [pwA,seval,-iQ0,hpos,hb,hb2,z2,ZJ,Nat.zero_le];exact h0 _ _ (zC σ _) (.inr ⟨by omega,_,_,rfl,by rw [zH,if_pos rfl],Nat.le_refl _,Nat.lt_succ_self _⟩)
theorem zAl {M:List (List Int)} {i:Nat} (hi:i<M.length):(M.take (i+1)).flatten=(M.take i).flatten++M[i]:=by
 rw [List.take_succ_eq_append_getElem hi,List.flatten_append];simp
theorem zDv (M:List (List Int)) (i:Nat):(M.take i).flatten.length≤M.flatten.length:=by
 have:M.flatten.length=(M.take i).flatten.length+(M.drop i).flatten.length:=by
  rw [←List.length_append,←List.flatten_append,List.take_append_drop]
 omega
theorem zGr (hM:FII vM M) (hml:M.length≤1048576) (hb:M.flatten.length≤1048576) (hk:∀z,FI z M.flatten→K z σ):zA Tryz.prog 202 [vM] σ K:=by
 obtain⟨wM,aM,rM,rfl,hrM⟩:=hM;refine zA.gh ?_;refine zB mix Tryz.func202 ?_;simp only [pwA,seval,-iQ0];refine zD (fun m us h'=>∃i:Nat,i≤M.length∧m=M.length-i∧us=[.fz wM aM M.length rM,.int .i64 (M.take i).flatten.length,.fz wM aM M.length rM,.int .i64 M.length,.int .i64 i]∧σ=h') M.length ?_ ?_
 ·exact⟨0,by omega,by omega,rfl,rfl⟩
 rintro m us h' ⟨i,hi,rfl,rfl,rfl⟩
 have hfl:=zDv M i;simp only [pwA,seval,-iQ0];refine iteI (fun hlt=>?_) fun hge=>?_
 ·obtain⟨w4,a4,hr⟩:=hrM.rowI hlt
  have hfl2:=zDv M (i+1);have e:=congrArg List.length (zAl hlt);rw [List.length_append]at e
  have ew:IntKind.i64.wrap (((M.take i).flatten.length:Int)+(M[i].length:Int))=(((M.take i).flatten.length+M[i].length:Nat):Int):=by rw [wrap64 (by omega) (by omega)];omega
  have hnn:¬(((M.take i).flatten.length+M[i].length:Nat):Int)<0:=by omega
  simp only [pwA,seval,-iQ0,hlt,hr,ew,hnn,wrapS hlt (by omega:M.length≤4611686018427387904)]
  refine⟨_,by omega,i+1,by omega,rfl,?_⟩
  rw [e]
 have hie:i=M.length:=by omega
 subst hie;rw [List.take_length];simp only [pwA,seval,-iQ0];refine zQ5 (by omega) fun v0 h0 hk0 hv0=>?_
 simp only [pwA,seval,-iQ0];refine zD (fun m us h'=>∃(i:Nat) (vX:PV),i≤M.length∧m=M.length-i∧us=[vX,.fz wM aM M.length rM,.int .i64 M.length,.int .i64 i]∧Keep σ h'∧(PAcc σ.next 1 h' vX (M.take i).flatten.length (pis (M.take i).flatten)∨((M.take i).flatten=[]∧0<M.flatten.length∧Room σ h' vX))) M.length ?_ ?_
 ·exact⟨0,v0,by omega,by omega,rfl,hk0,hv0.imp (fun h=>h) fun h=>⟨rfl,h⟩⟩
 clear hi hge hfl hk0 hv0 v0 h0
 rintro m us h' ⟨i,vX,hi,rfl,rfl,hkp,ha⟩
 have hfl:=zDv M i;simp only [pwA,seval,-iQ0];refine iteI (fun hlt=>?_) fun hge=>?_
 rotate_left
 ·have hie:i=M.length:=by omega
  subst hie;rw [List.take_length]at ha
  rcases ha with ha|⟨h1,h2,_⟩
  ·exact ha.fin hkp (zo _ _) fun a=>hk _ ⟨true,a,rfl⟩
  ·rw [h1]at h2;cases h2
 obtain⟨w4,a4,hr⟩:=hrM.rowI hlt;have hfl2:=zDv M (i+1);have e:=congrArg List.length (zAl hlt);rw [List.length_append]at e
 simp only [pwA,seval,-iQ0,hlt,hr];have hnx:∀v' h2,Keep σ h2→(PAcc σ.next 1 h2 v' ((M.take i).flatten.length+M[i].length) (pis (M.take i).flatten++pis M[i])∨((M.take (i+1)).flatten=[]∧0<M.flatten.length∧Room σ h2 v'))→(PAcc σ.next 1 h2 v' (M.take (i+1)).flatten.length (pis (M.take (i+1)).flatten)∨((M.take (i+1)).flatten=[]∧0<M.flatten.length∧Room σ h2 v')):=fun v' h2 k h=>h.imp (fun h=>by rwa [e,zAl hlt,←Qd]) fun h=>h
 rcases ha with ha|⟨h1,h2,s,cs,rfl,ho,hs1,hs2⟩
 ·refine PAcc.cat (σb:=σ) (bytes:=8) hkp ha (qK _) (by omega) (by omega) fun v' h2 k2 a2=>?_
  simp only [pwA,seval,-iQ0,wrapS hlt (by omega:M.length≤4611686018427387904)]
  exact⟨_,by omega,i+1,v',by omega,rfl,rfl,k2,hnx _ _ k2 (.inl a2)⟩
 ·by_cases hz:M[i].length=0
  ·have hnil:M[i]=[]:=List.eq_nil_of_length_eq_zero hz
   have hap:qo 1 8 h' (.sl s 0 0 (.grown 1)) (.fz w4 a4 M[i].length (pis M[i]))=some (.sl s 0 0 (.grown 1),h'):=by
    rw [Zw,zGF,Option.bind_some,if_pos hz];rfl
   simp only [pwA,seval,-iQ0,hap,wrapS hlt (by omega:M.length≤4611686018427387904)]
   refine⟨_,by omega,i+1,_,by omega,rfl,rfl,hkp,.inr ⟨by rw [zAl hlt,h1,hnil];rfl,h2,s,cs,rfl,ho,hs1,hs2⟩⟩
  ·have hap:qo 1 8 h' (.sl s 0 0 (.grown 1)) (.fz w4 a4 M[i].length (pis M[i]))=some (.sl h'.next 0 M[i].length (.grown 1),(h'.kill s).new (pis M[i])):=by
    rw [Zw,zGF,Option.bind_some,if_neg hz,zBj,if_neg hz,if_pos ⟨Nat.le_refl _,by rw [qK];omega,by omega⟩,Option.bind_some,Qj,if_pos ⟨by omega,by omega,rfl⟩,ho,Option.bind_some,if_pos (by omega)]
    rw [List.drop_zero,Nat.zero_mul,List.take_zero,List.nil_append,Nat.mul_one,List.take_of_length_le (by rw [qK];exact Nat.le_refl _),Nat.zero_add]
   simp only [pwA,seval,-iQ0,hap,wrapS hlt (by omega:M.length≤4611686018427387904)]
   refine⟨_,by omega,i+1,_,by omega,rfl,rfl,(hkp.kill hs1).new _,.inl ?_⟩
   rw [zAl hlt,h1,List.nil_append];exact(PSl.own (.inl rfl) (by rw [zH];exact if_pos rfl) (by rw [qK];omega) hkp.next (Nat.lt_succ_self _)).acc
end Go.Proofs
namespace Go.Grp
open Go.Ab Go.Lie
variable {O:List Int} {P:List (List Int)} {C:List (List (List Int))} {x y z a b c g:List Int} {D:List (Option (List Int))} {t i k d:Nat} {N:List Int→Prop}
theorem Gp.pw_inv' {α:Type} [Inhabited α] {S:α→Prop} {m:α→α→α} {e z:α} (G:Gp S m e) (hz:S z) (k:Nat):Grp.pw m e (ginv S m e z) k=ginv S m e (Grp.pw m e z k):=by
 have iz:=(G.inv_in hz).1;refine G.inv_eq (G.pw hz k) (G.pw iz k) ?_
 induction k with
 | zero=>exact G.l1 G.one
 | succ k ih=>
  show m (m (Grp.pw m e z k) z) (m (Grp.pw m e (ginv S m e z) k) (ginv S m e z))=e;rw [G.pw_comm iz k,←G.as (G.cl (G.pw hz k) hz) iz (G.pw iz k),G.as (G.pw hz k) hz iz,G.inv_r hz,G.r1 (G.pw hz k),ih]
section
variable (s:Shp O P C) (F:Full O P C O.length) (hC:Cent O C)
include s F hC
theorem zCG (ht:t<O.length) (hx:gS O x) (hb:TT O t b) (hb1:at_ b t=1):
  gS O (gm O P C x (pw (gm O P C) (zv O) (ginv (gS O) (gm O P C) (zv O) b) (at_ x t).toNat))∧gm O P C (gm O P C x (pw (gm O P C) (zv O) (ginv (gS O) (gm O P C) (zv O) b) (at_ x t).toNat)) (pw (gm O P C) (zv O) b (at_ x t).toNat)=x∧
  Upto O t (gm O P C x (pw (gm O P C) (zv O) (ginv (gS O) (gm O P C) (zv O) b) (at_ x t).toNat)) x∧at_ (gm O P C x (pw (gm O P C) (zv O) (ginv (gS O) (gm O P C) (zv O) b) (at_ x t).toNat)) t=0:=by
 have G:=F.g;have bS:gS O b:=hb.mono (Nat.zero_le _);have ib:=(G.inv_in bS).1;have bx:=hx.bd t ht;have pS:=G.pw bS (at_ x t).toNat;have qS:=G.pw ib (at_ x t).toNat;have hw:=G.cl hx qS;have e:gm O P C (gm O P C x (pw (gm O P C) (zv O) (ginv (gS O) (gm O P C) (zv O) b) (at_ x t).toNat)) (pw (gm O P C) (zv O) b (at_ x t).toNat)=x:=by
  rw [G.as hx qS pS,G.pw_inv' bS,G.inv_l pS,G.r1 hx]
 obtain⟨p1,p2⟩:=Z9 s F hC ht hb (at_ x t).toNat;refine⟨hw,e,?_,?_⟩<;>generalize gm O P C x (pw (gm O P C) (zv O) (ginv (gS O) (gm O P C) (zv O) b) (at_ x t).toNat)=w at *
 ·obtain⟨g1,g2⟩:=ZR s (d:=O.length) (b:=w) (a:=pw (gm O P C) (zv O) b (at_ x t).toNat) (t:=t) (Nat.le_refl _) (by omega) ht (by rw [Nat.sub_self];exact hw) p1
  have e':mu O P C O.length w (pw (gm O P C) (zv O) b (at_ x t).toNat)=x:=e;rw [e']at g1
  exact fun j hj=>(g1 j hj).symm
 ·obtain⟨g1,g2⟩:=ZR s (d:=O.length) (b:=w) (a:=pw (gm O P C) (zv O) b (at_ x t).toNat) (t:=t) (Nat.le_refl _) (by omega) ht (by rw [Nat.sub_self];exact hw) p1
  have e':mu O P C O.length w (pw (gm O P C) (zv O) b (at_ x t).toNat)=x:=e;rw [e',p2,hb1,Int.mul_one,Int.toNat_of_nonneg bx.1,Int.emod_eq_of_lt bx.1 bx.2,zNZ]at g2
  exact zBY bx (hw.bd t ht) g2.symm
end
end Go.Grp
namespace Go.Lat
structure Tb (N:Nat) (T:Nat→Nat→Nat):Prop where
 pos:0<N
 lt:∀{a b},a<N→b<N→T a b<N
 assoc:∀{a b c},a<N→b<N→c<N→T (T a b) c=T a (T b c)
 one:∀{a},a<N→T 0 a=a
 oner:∀{a},a<N→T a 0=a
variable {N:Nat} {T:Nat→Nat→Nat} {S S':Nat→Prop}
inductive Cl (T:Nat→Nat→Nat) (S:Nat→Prop):Nat→Prop
 | one:Cl T S 0
 | mul {a b:Nat}:Cl T S a→S b→Cl T S (T a b)
theorem Cl.lt (t:Tb N T) (hS:∀i,S i→i<N) {a:Nat} (h:Cl T S a):a<N:=by
 induction h with
 | one=>exact t.pos
 | mul _ hb ih=>exact t.lt ih (hS _ hb)
theorem Cl.mulC (t:Tb N T) (hS:∀i,S i→i<N) {a b:Nat} (ha:Cl T S a) (hb:Cl T S b):Cl T S (T a b):=by
 induction hb with
 | one=>rw [t.oner (ha.lt t hS)];exact ha
 | mul h1 h2 ih=>rw [←t.assoc (ha.lt t hS) (h1.lt t hS) (hS _ h2)];exact .mul ih h2
theorem Cl.of (t:Tb N T) (hS:∀i,S i→i<N) {a:Nat} (h:S a):Cl T S a:=by
 rw [←t.one (hS _ h)];exact .mul .one h
theorem Cl.mono (h:∀i,S i→S' i) {a:Nat} (ha:Cl T S a):Cl T S' a:=by
 induction ha with
 | one=>exact .one
 | mul _ hb ih=>exact .mul ih (h _ hb)
theorem Cl.twice (t:Tb N T) (hS:∀i,S i→i<N) {a:Nat} (h:Cl T (Cl T S) a):Cl T S a:=by
 induction h with
 | one=>exact .one
 | mul _ hb ih=>exact ih.mulC t hS hb
theorem Cl.sub (t:Tb N T) (hS:∀i,S i→i<N) (h:∀i,S' i→Cl T S i) {a:Nat} (ha:Cl T S' a):Cl T S a:=(ha.mono h).twice t hS
theorem Cl.closed (h0:S 0) (hm:∀a b,S a→S b→S (T a b)) {a:Nat} (h:Cl T S a):S a:=by
 induction h with
 | one=>exact h0
 | mul _ hb ih=>exact hm _ _ ih hb
def mset (p:Nat→Bool):Nat→Nat
 | 0=>0
 | n+1=>mset p n ||| (if p n=true then 2 ^ n else 0)
theorem zH5 (p:Nat→Bool):∀n i,(mset p n).testBit i=(decide (i<n) && p i)
 | 0,i=>by simp [mset]
 | n+1,i=>by
  rw [mset,Nat.testBit_or,zH5 p n i]
  by_cases hi:i=n
  ·subst hi
   by_cases hp:p i=true
   ·simp [hp,Nat.testBit_two_pow_self]
   ·simp [hp]
  ·have h2:(if p n=true then 2 ^ n else 0).testBit i=false:=by
    split
    ·rw [Nat.testBit_two_pow];simp;omega
    ·simp
   rw [h2,Bool.or_false]
   congr 1
   simp only [decide_eq_decide];omega
theorem zGK (p:Nat→Bool):∀n,mset p n<2 ^ n
 | 0=>by simp [mset]
 | n+1=>by
  have:=zGK p n
  rw [mset];refine Nat.or_lt_two_pow (by rw [Nat.pow_succ];omega) ?_
  split
  ·rw [Nat.pow_succ];have:=Nat.two_pow_pos n;omega
  ·exact Nat.two_pow_pos _
theorem zE7 {a b:Nat} (h:∀i,a.testBit i=true↔b.testBit i=true):a=b:=
 Nat.eq_of_testBit_eq fun i=>by rw [Bool.eq_iff_iff];exact h i
theorem zK3 {a b:Nat} (h:∀i,a.testBit i=true→b.testBit i=true):a≤b:=by
 have e:a ||| b=b:=zE7 fun i=>by
  rw [Nat.testBit_or,Bool.or_eq_true];exact⟨fun x=>x.elim (h i) id,.inr⟩
 rw [←e];exact Nat.left_le_or
theorem Zt {m N i:Nat} (hm:m<2 ^ N) (h:m.testBit i=true):i<N:=by
 rcases Nat.lt_or_ge i N with q|q
 ·exact q
 ·rw [Nat.testBit_lt_two_pow (Nat.lt_of_lt_of_le hm (Nat.pow_le_pow_right (by omega) q))]at h
  cases h
structure SubM (N:Nat) (T:Nat→Nat→Nat) (m:Nat):Prop where
 lt:m<2 ^ N
 zero:m.testBit 0=true
 mul:∀a b,m.testBit a=true→m.testBit b=true→m.testBit (T a b)=true
def GenM (N:Nat) (T:Nat→Nat→Nat) (S:Nat→Prop) (m:Nat):Prop:=m<2 ^ N∧∀i,m.testBit i=true↔Cl T S i
theorem GenM.sub (t:Tb N T) (hS:∀i,S i→i<N) {m:Nat} (g:GenM N T S m):SubM N T m:=
 ⟨g.1,(g.2 0).2 .one,fun a b ha hb=>(g.2 _).2 (((g.2 a).1 ha).mulC t hS ((g.2 b).1 hb))⟩
theorem GenM.unique {m m':Nat} (g:GenM N T S m) (g':GenM N T S m'):m=m':=zE7 fun i=>(g.2 i).trans (g'.2 i).symm
theorem GenM.congr {m:Nat} (g:GenM N T S m) (h:∀i,Cl T S i↔Cl T S' i):GenM N T S' m:=⟨g.1,fun i=>(g.2 i).trans (h i)⟩
open Classical in
noncomputable def ext (N:Nat) (T:Nat→Nat→Nat) (m x:Nat):Nat:=mset (fun i=>decide (Cl T (fun j=>m.testBit j=true∨j=x) i)) N
theorem zGR (t:Tb N T) {m x:Nat} (hm:m<2 ^ N) (hx:x<N):GenM N T (fun j=>m.testBit j=true∨j=x) (ext N T m x):=by
 refine⟨zGK _ _,fun i=>?_⟩
 unfold ext;rw [zH5];simp only [Bool.and_eq_true,decide_eq_true_eq];refine⟨fun h=>h.2,fun h=>⟨h.lt t fun j hj=>?_,h⟩⟩
 rcases hj with hj|rfl
 ·exact Zt hm hj
 ·exact hx
theorem zND (m x:Nat):ext N T m x<2 ^ N:=zGK _ _
noncomputable def ins (N:Nat) (T:Nat→Nat→Nat) (m:Nat) (L:List Nat) (x:Nat):List Nat:=
 if m.testBit x=true then L else if ext N T m x∈L then L else L++[ext N T m x]
noncomputable def inner (N:Nat) (T:Nat→Nat→Nat) (m:Nat):Nat→Nat→List Nat→List Nat
 | 0,_,L=>L
 | k+1,x,L=>inner N T m k (x+1) (ins N T m L x)
noncomputable def outer (N:Nat) (T:Nat→Nat→Nat):Nat→Nat→List Nat→List Nat
 | 0,_,L=>L
 | f+1,i,L=>match L[i]? with
  | none=>L
  | some m=>outer N T f (i+1) (inner N T m N 0 L)
noncomputable def allM (N:Nat) (T:Nat→Nat→Nat):List Nat:=outer N T (2 ^ N) 0 [1]
structure LOK (N:Nat) (T:Nat→Nat→Nat) (L:List Nat):Prop where
 nd:L.Nodup
 sub:∀m∈L,SubM N T m
theorem zDE:∀(n:Nat) (L:List Nat),L.Nodup→(∀m∈L,m<n)→L.length≤n
 | 0,L,_,h=>by
  cases L with
  | nil=>exact Nat.le_refl _
  | cons a r=>exact absurd (h a (by simp)) (by omega)
 | n+1,L,hn,h=>by
  have h1:=zDE n (L.erase n) (hn.erase n) fun m hm=>by
   have h2:=h m (List.mem_of_mem_erase hm);have h3:m≠n:=((List.Nodup.mem_erase_iff hn).1 hm).1;omega
  by_cases hm:n∈L
  ·rw [List.length_erase_of_mem hm]at h1;omega
  ·rw [List.erase_of_not_mem hm]at h1;omega
theorem LOK.len {L:List Nat} (h:LOK N T L):L.length≤2 ^ N:=zDE _ _ h.nd fun m hm=>(h.sub m hm).lt
theorem zQj (t:Tb N T) {m x:Nat} (hm:m<2 ^ N) (hx:x<N):SubM N T (ext N T m x):=(zGR t hm hx).sub t fun j hj=>by
 rcases hj with hj|rfl
 ·exact Zt hm hj
 ·exact hx
theorem LOK.ins (t:Tb N T) {L:List Nat} (h:LOK N T L) {m x:Nat} (hm:m<2 ^ N) (hx:x<N):LOK N T (ins N T m L x):=by
 unfold Lat.ins
 split
 ·exact h
 ·split
  ·exact h
  ·rename_i hn
   refine⟨List.nodup_append.2 ⟨h.nd,by simp,fun a ha b hb=>?_⟩,fun a ha=>?_⟩
   ·simp only [List.mem_singleton]at hb
    subst hb;exact fun e=>hn (e ▸ ha)
   ·simp only [List.mem_append,List.mem_singleton]at ha
    rcases ha with ha|rfl
    ·exact h.sub a ha
    ·exact zQj t hm hx
theorem zQc (m:Nat) (L:List Nat) (x:Nat):L <+:ins N T m L x:=by
 unfold ins
 split
 ·exact List.prefix_refl _
 ·split
  ·exact List.prefix_refl _
  ·exact List.prefix_append _ _
theorem zGl (m:Nat):∀k x L,L <+:inner N T m k x L
 | 0,_,L=>List.prefix_refl _
 | k+1,x,L=>(zQc m L x).trans (zGl m k (x+1) _)
theorem LOK.inner (t:Tb N T) {m:Nat} (hm:m<2 ^ N):∀(k x:Nat) {L:List Nat},x+k≤N→LOK N T L→LOK N T (inner N T m k x L)
 | 0,_,_,_,h=>h
 | k+1,x,L,hx,h=>LOK.inner t hm k (x+1) (by omega) (h.ins t hm (by omega))
theorem LOK.outer (t:Tb N T):∀(f i:Nat) {L:List Nat},LOK N T L→LOK N T (outer N T f i L)
 | 0,_,_,h=>h
 | f+1,i,L,h=>by
  unfold Lat.outer
  split
  ·exact h
  ·rename_i m hm
   exact LOK.outer t f (i+1) (LOK.inner t (h.sub m (List.mem_of_getElem? hm)).lt N 0 (by omega) h)
theorem zGH (t:Tb N T):LOK N T [1]:=by
 refine⟨by simp,fun m hm=>?_⟩
 simp only [List.mem_singleton]at hm
 subst hm;have h1:∀i,Nat.testBit 1 i=true↔i=0:=fun i=>by simp [Nat.testBit_one_eq_true_iff_self_eq_zero]
 refine⟨?_,rfl,fun a b ha hb=>?_⟩
 ·have:=Nat.pow_lt_pow_right (show 1<2 by omega) t.pos
  simpa using this
 ·rw [h1]at ha hb ⊢
  rw [ha,hb];exact t.one t.pos
theorem zIr (t:Tb N T):LOK N T (allM N T):=LOK.outer t _ _ (zGH t)
theorem zFX {L:List Nat} (f:Nat) {i:Nat} (h:L.length≤i):outer N T f i L=L:=by
 cases f with
 | zero=>rfl
 | succ f=>rw [outer,List.getElem?_eq_none h]
theorem zFW {L:List Nat} {i f m:Nat} (hm:L[i]? = some m) (hf:0<f):outer N T f i L=outer N T (f-1) (i+1) (inner N T m N 0 L):=by
 obtain⟨f,rfl⟩:∃g,f=g+1:=⟨f-1,by omega⟩
 rw [outer,hm];rfl
end Go.Lat
namespace Go.Proofs
open Go.Ab
def if4:IFn:=⟨[0,1],[(.tmp 4)],(S0 (R0 [1,2] [eI 2 (.box (.t 0)),tI0 4 false])
 (S0 (R0 [1,2,5] [kI0 5 1048576])
 (S0 (R0 [1,2,5] [LI0 17 2,mI0 18 5,C2 19 10 17 18,mI0 5 19])
 (S0 (.seq (R0 [1,2,5,21] [mI0 20 5,cI0 21 .lss 20 0])
 (.cond (.t 21) (S0 (R0 [4] [tI0 4 true])
 .ret) .skip))
 (S0 (R0 [1,2,5] [mI0 22 1,mI0 23 5,C2 24 11 22 23,mI0 5 24])
 (S0 (.seq (R0 [1,2,26] [mI0 25 5,cI0 26 .lss 25 0])
 (.cond (.t 26) (S0 (R0 [4] [tI0 4 true])
 .ret) .skip))
 (S0 (R0 [1,2,6,7] [LI0 28 2,C1 29 13 28,mI0 30 1,C1 31 14 30,C2 32 12 29 31,mI0 27 32,eI0 33 27 0,eI0 34 27 1,eI 6 (.alloc [(.int .i64 0),.nils,.nils]),vI0 3 6 33,mI0 7 34])
 (S0 (R0 [1,2,6,7,8] [LI0 35 2,C1 36 13 35,eI 8 (.alloc [.nils,.nils,.nils]),vI0 3 8 36])
 (S0 (R0 [1,2,6,7,8,9] [mI0 37 1,C1 38 14 37,mI0 9 38])
 (S0 (R0 [1,2,6,7,8,9,10,11] [LI0 40 8,mI0 41 9,C2 42 15 40 41,mI0 39 42,eI0 43 39 0,eI0 44 39 1,eI 10 (.alloc [(.int .i64 0),.nils,.nils]),vI0 3 10 43,mI0 11 44])
 (S0 (.seq (R0 [1,2,6,7,8,9,10,11,53] [LI0 45 10,LI0 46 6,C2 47 9 45 46,nI0 48 47,mI0 49 48,gm0 50 11 49 false,gm0 51 7 49 false,G0 52 (.bin .neq .other (.t 50) (.t 51)) true 49 false,oI0 53 49 52])
 (.cond (.t 53) (S0 (R0 [4] [tI0 4 false])
 .ret) .skip))
 (S0 (.seq (.draw [1,2,6,7,8,9,10,11,58] [] [qD 54 (.load true 3 (.t 8)) 0,qD 55 (.load true 3 (.t 2)) 1,eD 56 (.call 13 [(.t 55)]) 2 [0],eD 57 (.call 16 [(.t 54),(.t 56)]) 3 [],qD 58 (.un .not (.t 57)) 4])
 (.cond (.t 58) (S0 (R0 [4] [tI0 4 false])
 .ret) .skip))
 (S0 (.seq (R0 [1,2,6,7,8,9,10,11,63] [mI0 59 9,mI0 60 1,C1 61 14 60,C2 62 17 59 61,nI0 63 62])
 (.cond (.t 63) (S0 (R0 [4] [tI0 4 false])
 .ret) .skip))
 (S0 (R0 [1,2,6,7,8,9,10,11,12] [kI0 12 1])
 (S0 (R0 [1,2,6,7,9,10,11,12] [LI0 64 8,mI0 65 12,C2 66 18 64 65,mI0 12 66])
 (S0 (R0 [1,2,6,7,10,11,12] [mI0 67 9,mI0 68 12,C2 69 19 67 68,mI0 12 69])
 (S0 (.seq (R0 [1,2,6,7,10,82] [mI0 70 12,cI0 71 .lss 70 0,mI0 72 71,G0 73 (.load true 3 (.t 10)) true 72 false,G0 74 (.load true 3 (.t 6)) true 72 false,G0 75 (.call 9 [(.t 73),(.t 74)]) false 72 false,G0 76 (.un .not (.t 75)) true 72 false,oI0 77 72 76,mI0 78 77,gm0 79 11 78 false,gm0 80 7 78 false,G0 81 (.bin .neq .other (.t 79) (.t 80)) true 78 false,oI0 82 78 81])
 (.cond (.t 82) (S0 (R0 [4] [tI0 4 false])
 .ret) .skip))
 (S0 (R0 [1,2,6,7,10,13] [kI0 13 1])
 (S0 (R0 [1,2,6,7,10,13] [LI0 83 10,mI0 84 13,C2 85 20 83 84,mI0 13 85])
 (S0 (R0 [1,2,6,7,10,13,14] [kI0 14 1])
 (S0 (R0 [1,2,6,7,10,13,14] [LI0 86 10,mI0 87 14,C2 88 21 86 87,mI0 14 88])
 (S0 (.seq (R0 [1,2,6,7,10,13,14,90] [mI0 89 14,cI0 90 .lss 89 0])
 (.cond (.t 90) (S0 (R0 [4] [tI0 4 false])
 .ret) .skip))
 (S0 (.seq (R0 [1,2,6,7,10,13,93] [mI0 91 14,mI0 92 13,bI0 93 .neq 91 92])
 (.cond (.t 93) (S0 (R0 [4] [tI0 4 false])
 .ret) .skip))
 (S0 (R0 [6,7,10,13,15,16] [LI0 95 2,C1 96 13 95,mI0 97 1,C1 98 14 97,C2 99 15 96 98,mI0 94 99,eI0 100 94 0,eI0 101 94 1,eI 15 (.alloc [(.int .i64 0),.nils,.nils]),vI0 3 15 100,mI0 16 101])
 (S0 (.seq (R0 [10,13,110] [LI0 102 15,LI0 103 6,C2 104 9 102 103,nI0 105 104,mI0 106 105,gm0 107 16 106 false,gm0 108 7 106 false,G0 109 (.bin .neq .other (.t 107) (.t 108)) true 106 false,oI0 110 106 109])
 (.cond (.t 110) (S0 (R0 [4] [tI0 4 false])
 .ret) .skip))
 (S0 (R0 [10,13,14] [kI0 14 1])
 (S0 (R0 [13,14] [LI0 111 10,mI0 112 14,C2 113 21 111 112,mI0 14 113])
 (S0 (.seq (R0 [13,14,115] [mI0 114 14,cI0 115 .lss 114 0])
 (.cond (.t 115) (S0 (R0 [4] [tI0 4 false])
 .ret) .skip))
 (S0 (.seq (R0 [118] [mI0 116 14,mI0 117 13,bI0 118 .neq 116 117])
 (.cond (.t 118) (S0 (R0 [4] [tI0 4 false])
 .ret) .skip))
 (S0 (R0 [4] [tI0 4 true])
 .ret))))))))))))))))))))))))))))))⟩
theorem cf4:cF Tryz.prog Tryz.f4=some if4:=by kernel_rfl
end Go.Proofs
