/- The compiled forms of the functions, each held against the program by the kernel. Written by program. -/
import Derived.Test.YtkhbdmlhjnijaaaDP28
import Derived.Test.YtkhbdmlhjnijaaaDP29
import Derived.Test.YtkhbdmlhjnijaaaDAbPz
import Derived.Test.YtkhbdmlhjnijaaaDAbPt
import Derived.Test.YtkhbdmlhjnijaaaRows
import Derived.Lib.SmallJoins
import Derived.WalkKit
import Derived.ProofKit
import Derived.Test.YtkhbdmlhjnijaaaChecked
open Int renaming reduceNatCast'→iQ0
set_option maxRecDepth 100000
set_option linter.unusedVariables false
set_option linter.unusedSectionVars false
set_option linter.unusedSimpArgs false
namespace Go.Grp
open Go.Ab Go.Lie
variable {α:Type} {S:α→Prop} {m:α→α→α} {e:α} {a b c x y z g:α}
noncomputable def ginv [Inhabited α] (S:α→Prop) (m:α→α→α) (e a:α):α:=Classical.epsilon fun b=>S b∧m a b=e
section
variable [Inhabited α]
theorem Gp.inv_in (G:Gp S m e) (ha:S a):S (ginv S m e a)∧m a (ginv S m e a)=e:=by
 obtain⟨b,h1,h2,h3⟩:=G.inv ha;exact Classical.epsilon_spec (p:=fun b=>S b∧m a b=e) ⟨b,h1,h2⟩
theorem Gp.inv_eq (G:Gp S m e) (ha:S a) (hb:S b) (h:m a b=e):b=ginv S m e a:=G.cancel ha hb (G.inv_in ha).1 (h.trans (G.inv_in ha).2.symm)
theorem Gp.inv_l (G:Gp S m e) (ha:S a):m (ginv S m e a) a=e:=by
 obtain⟨b,h1,h2,h3⟩:=G.inv ha;rw [←G.inv_eq ha h1 h2];exact h3
theorem Gp.inv_r (G:Gp S m e) (ha:S a):m a (ginv S m e a)=e:=(G.inv_in ha).2
noncomputable def com (S:α→Prop) (m:α→α→α) (e x y:α):α:=m (ginv S m e x) (m (ginv S m e y) (m x y))
noncomputable def cnj (S:α→Prop) (m:α→α→α) (e x g:α):α:=m (ginv S m e g) (m x g)
theorem Gp.com_in (G:Gp S m e) (hx:S x) (hy:S y):S (com S m e x y):=G.cl (G.inv_in hx).1 (G.cl (G.inv_in hy).1 (G.cl hx hy))
theorem Gp.cnj_in (G:Gp S m e) (hx:S x) (hg:S g):S (cnj S m e x g):=G.cl (G.inv_in hg).1 (G.cl hx hg)
theorem Gp.com_spec (G:Gp S m e) (hx:S x) (hy:S y):m (m y x) (com S m e x y)=m x y:=by
 have ix:=(G.inv_in hx).1;have iy:=(G.inv_in hy).1;have xy:=G.cl hx hy;unfold com;rw [G.as hy hx (G.cl ix (G.cl iy xy)),←G.as hx ix (G.cl iy xy),G.inv_r hx,G.l1 (G.cl iy xy),←G.as hy iy xy,G.inv_r hy,G.l1 xy]
theorem Gp.com_eq (G:Gp S m e) (hx:S x) (hy:S y) (hz:S z) (h:m (m y x) z=m x y):z=com S m e x y:=
 G.cancel (G.cl hy hx) hz (G.com_in hx hy) (h.trans (G.com_spec hx hy).symm)
theorem Gp.cnj_spec (G:Gp S m e) (hx:S x) (hg:S g):m g (cnj S m e x g)=m x g:=by
 unfold cnj;rw [←G.as hg (G.inv_in hg).1 (G.cl hx hg),G.inv_r hg,G.l1 (G.cl hx hg)]
theorem Gp.cnj_eq (G:Gp S m e) (hx:S x) (hg:S g) (hz:S z) (h:m g z=m x g):z=cnj S m e x g:=
 G.cancel hg hz (G.cnj_in hx hg) (h.trans (G.cnj_spec hx hg).symm)
structure NSub (S:α→Prop) (m:α→α→α) (e:α) (N:α→Prop):Prop where
 inS:∀{x},N x→S x
 one:N e
 cl:∀{x y},N x→N y→N (m x y)
 inv:∀{x},N x→N (ginv S m e x)
 nor:∀{x g},N x→S g→N (cnj S m e x g)
theorem Gp.cnj_one (G:Gp S m e) (hg:S g):cnj S m e e g=e:=(G.cnj_eq G.one hg G.one (by rw [G.r1 hg,G.l1 hg])).symm
theorem Gp.cnj_com (G:Gp S m e) (hx:S x) (hy:S y):m x (com S m e x y)=cnj S m e x y:=by
 have c1:=G.com_in hx hy;exact G.cnj_eq hx hy (G.cl hx c1) (by rw [←G.as hy hx c1];exact G.com_spec hx hy)
end
end Go.Grp
namespace Go.Grp
open Go.Ab Go.Lie
variable {O:List Int} {P:List (List Int)} {C:List (List (List Int))} {x y z:List Int} {A B:List Int→Prop}
abbrev gS (O:List Int):List Int→Prop:=TT O 0
abbrev gm (O:List Int) (P:List (List Int)) (C:List (List (List Int))):List Int→List Int→List Int:=mu O P C O.length
theorem Full.g (F:Full O P C O.length):Gp (gS O) (gm O P C) (zv O):=by
 have:=F.gp
 rwa [Nat.sub_self]at this
noncomputable abbrev gcom (O:List Int) (P:List (List Int)) (C:List (List (List Int))) (x y:List Int):List Int:=com (gS O) (gm O P C) (zv O) x y
abbrev gN (O:List Int) (P:List (List Int)) (C:List (List (List Int))) (N:List Int→Prop):Prop:=NSub (gS O) (gm O P C) (zv O) N
end Go.Grp
namespace Go.Grp
open Go.Ab Go.Lie
variable {O:List Int} {P:List (List Int)} {C:List (List (List Int))} {x y z a b c:List Int} {A B:List Int→Prop} {d t i:Nat}
def Cent (O:List Int) (C:List (List (List Int))):Prop:=True
def addm (o a b:Int):Int:=if a+b ≥ o then a+b-o else a+b
theorem zJy (o a b:Int):addm o a b=addm o b a:=by unfold addm;rw [Int.add_comm]
theorem zF3 {o a b:Int} (ha:0≤a∧a<o) (hb:0≤b∧b<o) (h:addm o a b=a):b=0:=by
 unfold addm at h;split at h<;>omega
def Upto (O:List Int) (t:Nat) (x y:List Int):Prop:=∀j,j<t→at_ x j=at_ y j
theorem zMU (s:Shp O P C) (hd:d+1≤O.length) (hi:i=O.length-(d+1)) (h0:at_ b i=0) (ha:TT O i a) (hb:TT O i b):mu O P C (d+1) a b=(mu O P C d (a.set i 0) (b.set i 0)).set i (at_ a i):=by
 have ba:=ha.bd i (by omega)
 subst hi;simp only [mu];rw [h0,if_neg (by omega),show nx b (O.length-(d+1))=0 by show(at_ b _).toNat=0;rw [h0];rfl,Int.add_zero]
 rfl
theorem Zw (s:Shp O P C):∀{d:Nat} {b:List Int},d≤O.length→O.length-d≤t→t<O.length→TT O (O.length-d) b→TT O t a→Upto O t (mu O P C d b a) b∧at_ (mu O P C d b a) t=addm (at_ O t) (at_ b t) (at_ a t)
 | 0,b,hd,h1,h2,hb,ha=>by omega
 | d+1,b,hd,h1,h2,hb,ha=>by
  have hi:O.length-(d+1)<O.length:=by omega
  have e:O.length-d=O.length-(d+1)+1:=by omega
  have hpos:=s.pos hi;have bl:O.length-(d+1)<b.length:=by rw [hb.len];exact hi
  have hbs:=hb.set0 hi hpos;rw [←e]at hbs
  by_cases ht:O.length-(d+1)=t
  ·have hr:=mu_tt s hd hb (ha.mono (by omega):TT O (O.length-(d+1)) a)
   refine⟨fun j hj=>by rw [hr.zero j (by omega),hb.zero j (by omega)],?_⟩
   have hm:∀a b,TT O (O.length-d) a→TT O (O.length-d) b→TT O (O.length-d) (mu O P C d a b):=fun a b h1 h2=>mu_tt s (by omega) h1 h2
   have has:=(ha.mono (by omega):TT O (O.length-(d+1)) a).set0 hi hpos
   rw [←e]at has
   have ir:=hm _ _ (zBB (fun x _=>by rw [e];exact Qd s (by rw [←e];exact hm) x) (nx a (O.length-(d+1))) hbs) has
   have hw:TT O (O.length-d) (pvec P (O.length-(d+1))):=by rw [e];exact s.pw _ hi
   have ir2:=hm _ _ hw ir;rw [←ht];simp only [mu,addm]
   split
   ·rw [at_set (by rw [ir2.len];exact hi),if_pos rfl]
   ·rw [at_set (by rw [ir.len];exact hi),if_pos rfl]
  ·have ha0:at_ a (O.length-(d+1))=0:=ha.zero _ (by omega)
   rw [zMU s hd rfl ha0 hb (ha.mono (by omega)),qd ha0 (by rw [ha.len];exact hi)]
   obtain⟨i1,i2⟩:=Zw s (d:=d) (by omega) (by omega) h2 hbs ha
   have hml:=(mu_tt s (by omega:d≤O.length) hbs (ha.mono (by omega):TT O (O.length-d) a)).len
   refine⟨fun j hj=>?_,?_⟩
   ·rw [at_set (by rw [hml];exact hi)]
    split
    ·rename_i h;rw [h]
    ·rename_i h;rw [i1 j hj,at_set bl,if_neg h]
   ·rw [at_set (by rw [hml];exact hi),if_neg (by omega),i2,at_set bl,if_neg (by omega)]
end Go.Grp
namespace Go.Grp
open Go.Ab Go.Lie
variable {O:List Int} {P:List (List Int)} {C:List (List (List Int))} {x y z a b c g:List Int} {A B:List Int→Prop} {t i:Nat}
section
variable (s:Shp O P C) (F:Full O P C O.length) (hC:Cent O C)
include s F hC
theorem behind (hz:gS O z) (hc:gS O c) (h:Upto O t (gm O P C z c) z) (ht:t≤O.length):TT O t c:=by
 have:∀k,k≤t→TT O k c:=by
  intro k
  induction k with
  | zero=>intro _;exact hc
  | succ k ih=>
   intro hk;have hck:=ih (by omega)
   obtain⟨r1,r2⟩:=Zw s (d:=O.length) (t:=k) (a:=c) (b:=z) (Nat.le_refl _) (by omega) (by omega) (by rw [Nat.sub_self];exact hz) hck
   have e:=h k (by omega)
   show TT O (k+1) c;have e2:addm (at_ O k) (at_ z k) (at_ c k)=at_ z k:=by rw [←r2];exact e
   have:=zF3 (hz.bd k (by omega)) (hc.bd k (by omega)) e2
   refine⟨hc.len,hc.bd,fun j hj=>?_⟩
   by_cases g:j=k
   ·subst g;exact this
   ·exact hck.zero j (by omega)
 exact this t (Nat.le_refl _)
theorem tt_cl (ht:t≤O.length) (hx:TT O t x) (hy:TT O t y):TT O t (gm O P C x y):=by
 have G:=F.g;have h0:=G.cl (hx.mono (Nat.zero_le _)) (hy.mono (Nat.zero_le _));rcases Nat.lt_or_ge t O.length with h|h
 ·obtain⟨r1,_⟩:=Zw s (d:=O.length) (t:=t) (a:=y) (b:=x) (Nat.le_refl _) (by omega) h (by rw [Nat.sub_self];exact hx.mono (Nat.zero_le _)) hy
  exact⟨h0.len,h0.bd,fun j hj=>(r1 j hj).trans (hx.zero j hj)⟩
 ·have hx0:x=zv O:=hx.ext (s.zv _) fun j h1 h2=>by omega
  rw [hx0,G.l1 (hy.mono (Nat.zero_le _))];exact hy
theorem zIS (ht:t≤O.length) (hx:TT O t x):TT O t (ginv (gS O) (gm O P C) (zv O) x):=by
 have G:=F.g;have hx0:gS O x:=hx.mono (Nat.zero_le _);obtain⟨i1,i2⟩:=G.inv_in hx0;refine behind s F hC hx0 i1 (fun j hj=>?_) ht
 rw [show gm O P C x (ginv (gS O) (gm O P C) (zv O) x)=zv O from i2,hx.zero j hj]
 exact Zb _ j
theorem zM4 (ht:t<O.length) (hx:TT O (t+1) x) (hb:TT O t b):TT O (t+1) (cnj (gS O) (gm O P C) (zv O) x b):=by
 have G:=F.g;have hx0:gS O x:=hx.mono (Nat.zero_le _);have hb0:gS O b:=hb.mono (Nat.zero_le _);refine behind s F hC hb0 (G.cnj_in hx0 hb0) (fun j hj=>?_) ht
 have e:gm O P C b (cnj (gS O) (gm O P C) (zv O) x b)=gm O P C x b:=G.cnj_spec hx0 hb0;rw [e];obtain⟨r1,r2⟩:=Zw s (d:=O.length) (t:=t) (a:=b) (b:=x) (Nat.le_refl _) (by omega) ht (by rw [Nat.sub_self];exact hx0) hb
 by_cases g:j=t
 ·subst g
  refine r2.trans ?_;have hbb:=hb.bd j ht;rw [hx.zero j (Nat.lt_succ_self _)];unfold addm;rw [if_neg (by omega),Int.zero_add]
 ·exact(r1 j (by omega)).trans ((hx.zero j hj).trans (hb.zero j (by omega)).symm)
theorem zM3 (ht:t<O.length) (hx:TT O (t+1) x) (hb:TT O t b):TT O (t+1) (gcom O P C x b):=by
 have G:=F.g;have hx0:gS O x:=hx.mono (Nat.zero_le _);have hb0:gS O b:=hb.mono (Nat.zero_le _);have h1:=tt_cl s F hC (t:=t+1) ht (zIS s F hC ht hx) (zM4 s F hC ht hx hb);have e:gcom O P C x b=gm O P C (ginv (gS O) (gm O P C) (zv O) x) (cnj (gS O) (gm O P C) (zv O) x b):=by
  refine G.cancel hx0 (G.com_in hx0 hb0) (G.cl (G.inv_in hx0).1 (G.cnj_in hx0 hb0)) ?_;rw [show gm O P C x (gcom O P C x b)=cnj (gS O) (gm O P C) (zv O) x b from G.cnj_com hx0 hb0,←G.as hx0 (G.inv_in hx0).1 (G.cnj_in hx0 hb0),(G.inv_in hx0).2,G.l1 (G.cnj_in hx0 hb0)]
 rw [e];exact h1
end
end Go.Grp
namespace Go.Grp
open Go.Ab Go.Lie
variable {O:List Int} {P:List (List Int)} {C:List (List (List Int))} {x y z a b c g:List Int} {u v L:List (List Int)} {t i k:Nat}
section
variable (s:Shp O P C) (F:Full O P C O.length)
include s F
theorem triv:gN O P C (fun x=>x=zv O):=by
 have G:=F.g;refine⟨fun h=>by rw [h];exact G.one,rfl,fun h1 h2=>by rw [h1,h2];exact G.l1 G.one,fun h=>?_,fun h hg=>by rw [h];exact G.cnj_one hg⟩
 rw [h];exact(G.inv_eq G.one G.one (G.l1 G.one)).symm
end
end Go.Grp
namespace Go.Grp
end Go.Grp
namespace Go.Proofs
open Go.Ab Go.Lie Go.Grp
variable {σ:PHeap} {K:PV→PHeap→Prop} {O:List Int} {P:List (List Int)} {C:List (List (List Int))} {vO vP vC vx vf va vb:PV} {x y f a b:List Int} {rP rC:List PV} {d j sp:Nat}
theorem zLu {i:Nat} (xl:i<x.length):(x.set i 0).set i (at_ x i)=x:=zIV xl
theorem zFh (s:Shp O P C) {d i:Nat} (hi:O.length=(d+1)+i) (F:Full O P C d) (F1:Full O P C (d+1)) {y1 y2:List Int} (hx:TT O i x) (h1:TT O (i+1) y1) (h2:TT O (i+1) y2) (e1:mu O P C d (x.set i 0) y1=zv O) (e2:mu O P C d (pvec P i) y2=zv O):
  (at_ x i=0→mu O P C (d+1) x y1=zv O)∧(at_ x i≠0→mu O P C (d+1) x (mu O P C (d+1) (mu O P C (d+1) y1 ((zv O).set i (at_ O i-at_ x i))) y2)=zv O):=by
 have hil:i<O.length:=by omega
 have hn:O.length-d=i+1:=by omega
 have hn1:O.length-(d+1)=i:=by omega
 have hpos:=s.pos hil;have bx:=hx.bd i hil;have xl:i<x.length:=by rw [hx.len];exact hil
 have M:=F.gp.toMon;have G1:=F1.gp;rw [hn1]at G1
 have hr:TT O (O.length-d) (x.set i 0):=by rw [hn];exact hx.set0 hil hpos
 have h1':TT O (O.length-d) y1:=by rw [hn];exact h1
 have h2':TT O (O.length-d) y2:=by rw [hn];exact h2
 have hz:TT O (O.length-d) (zv O):=s.zv _;have hw:TT O (O.length-d) (pvec P i):=by rw [hn];exact s.pw i hil
 have sub:∀{u v:List Int},TT O (O.length-d) u→TT O (O.length-d) v→mu O P C (d+1) u v=mu O P C d u v:=fun hu hv=>zEH s (by omega) hu hv
 constructor
 ·intro h0
  rw [qd h0 xl]at e1 hr
  rw [sub hr h1'];exact e1
 ·intro h0
  have z0:(zv O).set i 0=zv O:=qd (Zb _ i) (by simp;exact hil)
  have ia:∀k,iter (al O P C d i) k (zv O)=zv O:=fun k=>zB8 (al_zv s F.toBeh hn) k
  have hg:TT O i ((zv O).set i (at_ x i)):=(s.zv i).set hil (Nat.le_refl _) bx;have ht:TT O i ((zv O).set i (at_ O i-at_ x i)):=(s.zv i).set hil (Nat.le_refl _) ⟨by omega,by omega⟩
  have hrl:i<(x.set i 0).length:=by rw [List.length_set];exact xl
  have r0:(x.set i 0).set i 0=x.set i 0:=by rw [List.set_set]
  have up:∀{u:List Int},TT O (O.length-d) u→TT O i u:=fun h=>h.mono (by omega)
  have ex:mu O P C (d+1) ((zv O).set i (at_ x i)) (x.set i 0)=x:=by
   have:=zCT s F.toBeh hn (a:=at_ x i) (b:=0) hz hr
   rw [r0,if_neg (by omega),ia,M.l1 hr,Int.add_zero,zLu xl]at this
   exact this
  have et:mu O P C (d+1) ((zv O).set i (at_ x i)) ((zv O).set i (at_ O i-at_ x i))=pvec P i:=by
   have:=zCT s F.toBeh hn (a:=at_ x i) (b:=at_ O i-at_ x i) hz hz
   rw [if_pos (by omega),ia,M.l1 hz,M.r1 hw,show at_ x i+(at_ O i-at_ x i)-at_ O i=0 by omega,qd (hw.zero i (by omega)) (by rw [hw.len];exact hil)]at this
   exact this
  have key:∀Y,mu O P C (d+1) x Y=mu O P C (d+1) (mu O P C (d+1) ((zv O).set i (at_ x i)) (x.set i 0)) Y:=fun Y=>by rw [ex]
  rw [key];have k1:=up h1';have k2:=up h2';have kr:=up hr;rw [G1.as hg kr (G1.cl (G1.cl k1 ht) k2),←G1.as kr (G1.cl k1 ht) k2,←G1.as kr k1 ht,sub hr h1',e1,G1.l1 ht,←G1.as hg ht k2,et,sub hw h2',e2]
end Go.Proofs
namespace Go.Grp
end Go.Grp
namespace Go.Proofs
open Go.Ab Go.Lie Go.Grp
variable {σ:PHeap} {K:PV→PHeap→Prop} {O:List Int} {P:List (List Int)} {C:List (List (List Int))} {vO vP vC vx vf va vb:PV} {x y f a b:List Int} {rP rC:List PV} {d j sp:Nat}
def zJ5 (O:List Int) (P:List (List Int)) (C:List (List (List Int))) (d i:Nat):Prop:=
 ∀(σ:PHeap) (K:PV→PHeap→Prop) (x:List Int) (vx vO vP vC:PV),IsPr vO vP vC O P C→TT O i x→FI vx x→(∀v y,FI v y→TT O i y→mu O P C d x y=zv O→K v σ)→zA Try.prog 114 [.agg [vO,vP,vC],.int .i64 i,vx] σ K
theorem zDp (s:Shp O P C) (hc:Cons O P C):∀{d i:Nat},O.length=d+i→zJ5 O P C d i
 | 0,i,hi=>by
  intro σ K x vx vO vP vC hR hx hvx hk;have hn6:=s.le;obtain⟨⟨w0,a0,rfl⟩,⟨w1,a1,rP,rfl,hP⟩,⟨w3,a3,rC,rfl,hC⟩⟩:=hR;refine zA.gh ?_;have hge:(O.length:Int)≤(i:Int):=by omega
  refine zB mix Try.func114 ?_
  conv=>arg 2;cbv
  refine zC rfl ?_;simp only [pwA,seval,-iQ0,hge,List.length_replicate,ZM,mk8 (n:=O.length) (by omega),mkL (n:=O.length) (by omega)]
  exact Gh.finF (s:=σ.next+1) ((zD σ _).new _) (by simp only [pwA,seval,-iQ0]) (by omega) (qH _ _) (by simp [capOK]) fun o1=>hk _ (zv O) (FI.mk (by simp)) (s.zv _) rfl
 | d+1,i,hi=>by
  intro σ K x vx vO vP vC hR hx hvx hk;have hFr:zJ5 O P C d (i+1):=zDp s hc (by omega)
  have F:Full O P C d:=full_of s (by omega) fun j h1 h2=>hc j h2
  have F1:Full O P C (d+1):=full_of s (by omega) fun j h1 h2=>hc j h2
  have hAt:AtOK O P C (d+1) i:=Qp s (by omega)
  have hn6:=s.le;have hR0:=hR;have hil:i<O.length:=by omega
  have hO:=s.pr i hil;have hpos:=s.pos hil;have hxl:=hx.len;have bx:=hx.bd i hil;have hn1:O.length-(d+1)=i:=by omega
  have G1:=F1.gp;rw [hn1]at G1
  obtain⟨⟨w0,a0,rfl⟩,⟨w1,a1,rP,rfl,hP⟩,⟨w3,a3,rC,rfl,hC⟩⟩:=hR;obtain⟨w5,a5,hpr⟩:=pvRow s hP hil;have hiP:i<P.length:=by rw [s.pl];exact hil
  have hpv:=s.pw i hil;obtain⟨wx,ax,rfl⟩:=hvx;have hilx:i<x.length:=by omega
  have hge:¬(O.length:Int)≤(i:Int):=by omega
  have sx:=hx.set0 hil hpos;have wi1:IntKind.i64.wrap ((i:Int)+1)=((i+1:Nat):Int):=wrapS hil (by omega)
  have hilx1:i+1≤x.length:=hilx;refine zA.gh ?_;refine zB mix Try.func114 ?_
  conv=>arg 2;cbv
  refine zC rfl ?_;simp only [pwA,seval,-iQ0,hge];refine ZV rfl (by omega) fun cap1 hc1=>?_
  simp only [pwA,seval,-iQ0,hilx,hilx1,qG,qm hilx,wi1];refine zA.frz (s:=σ.next+1) (cs:=pis (x.set i 0)) (by simp only [pwA,seval,-iQ0]) (qH _ _) fun o1=>?_
  have hcok:=hc1.ok;simp only [sbs,sb,hcok,and_self,if_true,hR0.O.sb,hR0.P.sb,hR0.C.sb];refine hFr _ _ (x.set i 0) _ _ _ _ hR0 sx (FI.mk (by simp)) fun v1 y1 hv1 hy1 e1=>?_
  have hkp:Keep σ (((σ.new [.fz w0 a0 O.length (pis O),.fz w1 a1 P.length rP,.fz w3 a3 C.length rC]).new (pis (x.set i 0))).kill (σ.next+1)):=((zD σ _).new _).kill (by omega)
  simp only [pwA,seval,-iQ0,hilx,pisAt hilx];refine iteI (fun h0=>?_) fun h0=>?_
  ·have hr:=hFr
   -- the inverse of the power is not asked for; any will do
   obtain⟨y2,h2a,h2b,_⟩:=F.gp.inv (a:=pvec P i) (by rw [show O.length-d=i+1 by omega];exact hpv)
   rw [show O.length-d=i+1 by omega]at h2a
   have:=(zFh s (by omega) F F1 hx hy1 h2a e1 h2b).1 h0
   exact Gh.fin0 hkp (hv1.bel _) (hk v1 y1 hv1 (hy1.mono (by omega)) this)
  have hol:i<(zv O).length:=by simp;exact hil
  have hol1:i+1≤O.length:=hil;have hsub:IntKind.i64.wrap (at_ O i-at_ x i)=at_ O i-at_ x i:=wrap64 (by omega) (by omega)
  have hset:=qm hol (x:=at_ O i-at_ x i);have ht:TT O i ((zv O).set i (at_ O i-at_ x i)):=(s.zv i).set hil (Nat.le_refl _) ⟨by omega,by omega⟩
  simp only [pwA,seval,-iQ0,List.length_replicate,ZM,mk8 (n:=O.length) (by omega),mkL (n:=O.length) (by omega),hilx,pisAt hilx,hil,hol1,pisAt hil,hsub,qG,hset,wi1,hiP,hpr]
  refine zA.frz (s:=σ.next+2) (cs:=pis ((zv O).set i (at_ O i-at_ x i))) (by simp only [pwA,seval,-iQ0]) (qH _ _) fun o2=>?_
  simp only [sbs,sb,capOK,Nat.le_refl,decide_true,and_self,if_true,hR0.O.sb,hR0.P.sb,hR0.C.sb,hv1.sb];have hy1':TT O i y1:=hy1.mono (by omega)
  refine hAt hR0 hy1' ht hv1 (FI.mk (by simp)) fun v3 hv3=>?_
  simp only [pwA,seval,-iQ0,wi1,hiP,hpr];refine hFr _ _ (pvec P i) _ _ _ _ hR0 hpv (FI.mk hpv.len) fun v2 y2 hv2 hy2 e2=>?_
  have hy2':TT O i y2:=hy2.mono (by omega)
  have h12:=G1.cl hy1' ht;simp only [pwA,seval,-iQ0,wi1,hiP,hpr];refine hAt hR0 h12 hy2' hv3 hv2 fun v4 hv4=>?_
  simp only [pwA,seval,-iQ0]
  have:=(zFh s (by omega) F F1 hx hy1 hy2 e1 e2).2 h0
  exact Gh.fin0 (((((zD σ _).new _).kill (by omega)).new _).kill (by omega)) (hv4.bel _) (hk v4 _ hv4 (G1.cl h12 hy2') this)
theorem zEa (s:Shp O P C) (hc:Cons O P C) (hR:IsPr vO vP vC O P C) (hx:gS O x) (hvx:FI vx x) (hk:∀v,FI v (ginv (gS O) (gm O P C) (zv O) x)→K v σ):zA Try.prog 106 [.agg [vO,vP,vC],vx] σ K:=by
 have h0:=hR.O.one;have h1:=hR.P.one;have h2:=hR.C.one;have G:=(full_of s (Nat.le_refl _) fun j _ h=>hc j h).g
 refine zA.gh ?_;refine zB mix Try.func106 ?_
 conv=>arg 2;cbv
 refine zC rfl ?_;simp only [pwA,seval,-iQ0,h0,h1,h2];refine zDp s hc (d:=O.length) (i:=0) (by omega) _ _ x _ _ _ _ hR hx hvx fun v y hv hy e=>?_
 simp only [pwA,seval,-iQ0]
 have:=G.inv_eq hx hy e
 rw [←this]at hk
 exact Gh.fin0 (zD σ _) (hv.bel _) (hk v hv)
end Go.Proofs
namespace Go.Grp
end Go.Grp
namespace Go.Proofs
open Go.Ab Go.Lie Go.Grp
variable {σ:PHeap} {K:PV→PHeap→Prop} {O:List Int} {P:List (List Int)} {C:List (List (List Int))} {vO vP vC vx vy vf va vb:PV} {x y f a b:List Int} {rP rC:List PV} {d j sp:Nat}
theorem Zx (s:Shp O P C) (hR:IsPr vO vP vC O P C) (ha:gS O a) (hb:gS O b) (hva:FI va a) (hvb:FI vb b) (hk:∀v,FI v (gm O P C a b)→K v σ):zA Try.prog 71 [.agg [vO,vP,vC],va,vb] σ K:=by
 have h0:=hR.O.one;have h1:=hR.P.one;have h2:=hR.C.one;refine zA.gh ?_;refine zB mix Try.func71 ?_
 conv=>arg 2;cbv
 refine zC rfl ?_;simp only [pwA,seval,-iQ0,h0,h1,h2];refine Qp s (d:=O.length) (i:=0) (by omega) hR ha hb hva hvb fun v hv=>?_
 simp only [pwA,seval,-iQ0];exact Gh.fin0 (zD σ _) (hv.bel _) (hk v hv)
theorem zHt (s:Shp O P C) (hc:Cons O P C) (hR:IsPr vO vP vC O P C) (hx:gS O x) (hy:gS O y) (hvx:FI vx x) (hvy:FI vy y) (hk:∀v,FI v (gcom O P C x y)→K v σ):zA Try.prog 88 [.agg [vO,vP,vC],vx,vy] σ K:=by
 have h0:=hR.O.one;have h1:=hR.P.one;have h2:=hR.C.one;have G:=(full_of s (Nat.le_refl _) fun j _ h=>hc j h).g
 have hyx:=G.cl hy hx;have hxy:=G.cl hx hy;have hi:=(G.inv_in hyx).1;refine zA.gh ?_;refine zB mix Try.func88 ?_
 conv=>arg 2;cbv
 refine zC rfl ?_;simp only [pwA,seval,-iQ0,h0,h1,h2];refine Zx s hR hy hx hvy hvx fun v1 f1=>?_
 simp only [pwA,seval,-iQ0,h0,h1,h2];refine zEa s hc hR hyx f1 fun v2 f2=>?_
 simp only [pwA,seval,-iQ0,h0,h1,h2];refine Zx s hR hx hy hvx hvy fun v3 f3=>?_
 simp only [pwA,seval,-iQ0,h0,h1,h2];refine Zx s hR hi hxy f2 f3 fun v4 f4=>?_
 simp only [pwA,seval,-iQ0];have e:gm O P C (ginv (gS O) (gm O P C) (zv O) (gm O P C y x)) (gm O P C x y)=gcom O P C x y:=
  G.com_eq hx hy (G.cl hi hxy) (by rw [←G.as hyx hi hxy,G.inv_r hyx,G.l1 hxy])
 rw [e]at f4
 exact Gh.fin0 (zD σ _) (f4.bel _) (hk v4 f4)
end Go.Proofs
namespace Go.Grp
open Go.Ab Go.Lie
variable {O:List Int} {P:List (List Int)} {C:List (List (List Int))} {x y z a b c g:List Int} {D:List (Option (List Int))} {t i k d:Nat} {N:List Int→Prop}
theorem zIT (hx:gS O x):TT O (dep x) x:=⟨hx.len,hx.bd,fun j hj=>zAb hj⟩
theorem zNX (hx:TT O t x) (ht:t≤O.length):t≤dep x:=by
 rcases Nat.lt_or_ge (dep x) t with h|h
 ·have hl:=hx.len
  exact absurd (hx.zero _ h) (zBF (by omega))
 ·exact h
theorem zJs (hx:gS O x) (h:O.length≤dep x):x=zv O:=by
 refine zCB (by rw [hx.len];simp) fun j hj=>?_
 rw [Zb];exact zAb (by have:=hx.len;omega)
theorem zIN (s:Shp O P C):dep (zv O)=O.length:=by
 have h1:=zNX (t:=O.length) (s.zv _) (Nat.le_refl _);have h2:=zD0 (zv O);rw [(s.zv 0).len]at h2
 omega
theorem zF2 {o a b:Int} (ha:0≤a∧a<o) (hb:0≤b∧b<o):addm o a b=(a+b) % o:=by
 unfold addm
 split
 ·have:(a+b) % o=(a+b-o) % o:=by rw [Int.sub_emod_right]
  rw [this,Int.emod_eq_of_lt (by omega) (by omega)]
 ·rw [Int.emod_eq_of_lt (by omega) (by omega)]
section
variable (s:Shp O P C) (F:Full O P C O.length) (hC:Cent O C)
include s F hC
theorem zA4 (ht:t<O.length) (hx:TT O t x):∀k:Nat,TT O t (pw (gm O P C) (zv O) x k)∧at_ (pw (gm O P C) (zv O) x k) t=((k:Int)*at_ x t) % at_ O t
 | 0=>⟨s.zv _,by show at_ (zv O) t=_;rw [Zb];simp⟩
 | k+1=>by
  obtain⟨h1,h2⟩:=zA4 ht hx k;have hO:=s.pr t ht;obtain⟨_,g2⟩:=Zw s (d:=O.length) (b:=pw (gm O P C) (zv O) x k) (a:=x) (t:=t) (Nat.le_refl _) (by omega) ht (by rw [Nat.sub_self];exact h1.mono (Nat.zero_le _)) hx
  refine⟨tt_cl s F hC (Nat.le_of_lt ht) h1 hx,?_⟩;show at_ (mu O P C O.length (pw (gm O P C) (zv O) x k) x) t=_;rw [g2,zF2 (h1.bd t ht) (hx.bd t ht),h2,Int.emod_add_emod]
  congr 1
  grind
end
structure OkD (O:List Int) (D:List (Option (List Int))):Prop where
 len:D.length=O.length
 row:∀(d:Nat) (y:List Int),D[d]? = some (some y)→TT O d y∧at_ y d=1
def InD (N:List Int→Prop) (D:List (Option (List Int))):Prop:=∀(d:Nat) (y:List Int),D[d]? = some (some y)→N y
def free:List (Option (List Int))→Nat
 | []=>0
 | none::D=>free D+1
 | some _::D=>free D
theorem zCX:∀D,free D≤D.length
 | []=>Nat.le_refl _
 | none::D=>by have:=zCX D;simp only [free,List.length_cons];omega
 | some _::D=>by have:=zCX D;simp only [free,List.length_cons];omega
theorem zFl {y:List Int}:∀{D:List (Option (List Int))} {d:Nat},D[d]? = some none→free (D.set d (some y))+1=free D
 | [],d,h=>by simp at h
 | v::D,0,h=>by
  simp only [List.getElem?_cons_zero,Option.some.injEq]at h
  subst h;rfl
 | v::D,d+1,h=>by
  have:=zFl (y:=y) (D:=D) (d:=d) (by simpa using h)
  cases v<;>simp only [List.set_cons_succ,free]<;>omega
theorem OkD.put (h:OkD O D) (hd:d<O.length) (hy:TT O d y) (h1:at_ y d=1):OkD O (D.set d (some y)):=by
 refine⟨by rw [List.length_set];exact h.len,fun e v hv=>?_⟩
 rw [List.getElem?_set]at hv
 split at hv
 ·rename_i he;subst he
  split at hv
  ·cases hv;exact⟨hy,h1⟩
  ·cases hv
 ·exact h.row e v hv
theorem InD.put (hd:D[d]? = some none):InD N (D.set d (some y))↔InD N D∧N y:=by
  have hl:d<D.length:=by
    rcases Nat.lt_or_ge d D.length with h|h
    · exact h
    · rw [List.getElem?_eq_none h]at hd;cases hd
  constructor
  · intro h
    refine⟨fun e v hv=>h e v ?_,h d y ?_⟩
    · rw [List.getElem?_set,if_neg fun he=>by subst he;rw [hd]at hv;cases hv];exact hv
    · rw [List.getElem?_set,if_pos rfl,if_pos hl]
  · rintro ⟨h1,h2⟩ e v hv
    rw [List.getElem?_set]at hv
    split at hv
    · rename_i he;subst he
      first
      | (cases hv;exact h2)
      | (split at hv
         · cases hv;exact h2
         · cases hv)
    · exact h1 e v hv
theorem OkD.start (n:Nat) (hn:n=O.length):OkD O (List.replicate n none):=⟨by simp [hn],fun d y h=>by
 rw [List.getElem?_replicate]at h
 split at h<;>cases h⟩
theorem InD.start (n:Nat):InD N (List.replicate n none):=fun d y h=>by
 rw [List.getElem?_replicate]at h
 split at h<;>cases h
end Go.Grp
namespace Go.Grp
open Go.Ab Go.Lie
variable {O:List Int} {P:List (List Int)} {C:List (List (List Int))} {x y z a b c g w w':List Int} {t i k d:Nat} {N:List Int→Prop}
section
variable {α:Type} {S:α→Prop} {m:α→α→α} {e:α}
theorem Mon.pw_mul (M:Mon S m e) {x:α} (hx:S x) (a:Nat):∀b,Grp.pw m e x (a*b)=Grp.pw m e (Grp.pw m e x a) b
 | 0=>rfl
 | b+1=>by
  rw [Nat.mul_succ,M.pw_add hx,M.pw_mul hx a b];rfl
end
section
variable (s:Shp O P C) (F:Full O P C O.length) (hC:Cent O C)
include s F hC
theorem zG4 (ht:t<O.length) (hx:TT O t x):TT O (t+1) (Grp.pw (gm O P C) (zv O) x (at_ O t).toNat):=by
 obtain⟨h1,h2⟩:=zA4 s F hC ht hx (at_ O t).toNat;refine⟨h1.len,h1.bd,fun j hj=>?_⟩
 rcases Nat.lt_or_ge j t with h|h
 ·exact h1.zero j h
 ·rw [show j=t by omega,h2,Int.toNat_of_nonneg (by have:=s.pr t ht;omega),Int.mul_emod_right]
omit hC in
end
end Go.Grp
namespace Go.Grp
open Go.Ab Go.Lie
section
variable {α:Type} [Inhabited α] {S:α→Prop} {m:α→α→α} {e:α} {x y a:α} {N:α→Prop}
structure GSub (S:α→Prop) (m:α→α→α) (e:α) (N:α→Prop):Prop where
 inS:∀{x},N x→S x
 one:N e
 cl:∀{x y},N x→N y→N (m x y)
 inv:∀{x},N x→N (ginv S m e x)
theorem Gp.wholeB (G:Gp S m e):GSub S m e S:=⟨id,G.one,fun a b=>G.cl a b,fun a=>(G.inv_in a).1⟩
theorem GSub.com_in (h:GSub S m e N) (hx:N x) (hy:N y):N (com S m e x y):=h.cl (h.inv hx) (h.cl (h.inv hy) (h.cl hx hy))
theorem GSub.quot (G:Gp S m e) (h:GSub S m e N) (ha:N a) (hx:S x) (hn:N (m a x)):N x:=by
 have h1:=h.cl (h.inv ha) hn
 rwa [←G.as (h.inS (h.inv ha)) (h.inS ha) hx,G.inv_l (h.inS ha),G.l1 hx]at h1
theorem GSub.quotR (G:Gp S m e) (h:GSub S m e N) (ha:N a) (hx:S x) (hn:N (m x a)):N x:=by
 have h1:=h.cl hn (h.inv ha)
 rwa [G.as hx (h.inS ha) (h.inS (h.inv ha)),G.inv_r (h.inS ha),G.r1 hx]at h1
theorem GSub.pw (h:GSub S m e N) (hx:N x):∀k,N (Grp.pw m e x k)
 | 0=>h.one
 | k+1=>h.cl (h.pw hx k) hx
theorem Gp.com_swap' (G:Gp S m e) (hx:S x) (hy:S y):com S m e y x=ginv S m e (com S m e x y):=by
 have h1:=G.com_spec hx hy;have h2:=G.com_spec hy hx;have c1:=G.com_in hx hy;have c2:=G.com_in hy hx;refine G.inv_eq c1 c2 ?_;refine G.cancel (G.cl hy hx) (G.cl c1 c2) G.one ?_;rw [←G.as (G.cl hy hx) c1 c2,h1,h2,G.r1 (G.cl hy hx)]
end
variable {O:List Int} {P:List (List Int)} {C:List (List (List Int))} {x y z a b c g:List Int} {D D':List (Option (List Int))} {t i k d:Nat} {N H:List Int→Prop} {L u u' Q:List (List Int)}
abbrev gB (O:List Int) (P:List (List Int)) (C:List (List (List Int))) (N:List Int→Prop):Prop:=GSub (gS O) (gm O P C) (zv O) N
inductive Rdu (O:List Int) (P:List (List Int)) (C:List (List (List Int))) (D:List (Option (List Int))):List Int→List Int→Prop where
 | refl (x:List Int):Rdu O P C D x x
 | left {d j:Nat} {b x x' z:List Int} (hd:d<O.length) (hb:D[d]? = some (some b)) (hx:TT O d x) (h0:at_ x d≠0) (hx':TT O (d+1) x') (e:x=gm O P C (pw (gm O P C) (zv O) b j) x') (r:Rdu O P C D x' z):Rdu O P C D x z
 | right {d j:Nat} {b x x' z:List Int} (hd:d<O.length) (hb:D[d]? = some (some b)) (hx:TT O d x) (h0:at_ x d≠0) (hx':TT O (d+1) x') (e:x=gm O P C x' (pw (gm O P C) (zv O) b j)) (r:Rdu O P C D x' z):Rdu O P C D x z
theorem Rdu.trans (h:Rdu O P C D x y) (g:Rdu O P C D y z):Rdu O P C D x z:=by
 induction h with
 | refl x=>exact g
 | left hd hb hx h0 hx' e r ih=>exact .left hd hb hx h0 hx' e (ih g)
 | right hd hb hx h0 hx' e r ih=>exact .right hd hb hx h0 hx' e (ih g)
def Sup (D D':List (Option (List Int))):Prop:=∀(d:Nat) (b:List Int),D[d]? = some (some b)→D'[d]? = some (some b)
theorem Rdu.mono (h:Rdu O P C D x z) (s:Sup D D'):Rdu O P C D' x z:=by
 induction h with
 | refl x=>exact .refl x
 | left hd hb hx h0 hx' e r ih=>exact .left hd (s _ _ hb) hx h0 hx' e ih
 | right hd hb hx h0 hx' e r ih=>exact .right hd (s _ _ hb) hx h0 hx' e ih
theorem Rdu.iff (F:Full O P C O.length) (hN:gB O P C N) (hD:InD N D) (h:Rdu O P C D x z):N x↔N z:=by
 have G:=F.g
 induction h with
 | refl x=>exact Iff.rfl
 | left hd hb hx h0 hx' e r ih=>
  refine Iff.trans ?_ ih;rw [e];exact⟨fun h=>hN.quot G (hN.pw (hD _ _ hb) _) (hx'.mono (Nat.zero_le _)) h,fun h=>hN.cl (hN.pw (hD _ _ hb) _) h⟩
 | right hd hb hx h0 hx' e r ih=>
  refine Iff.trans ?_ ih;rw [e];exact⟨fun h=>hN.quotR G (hN.pw (hD _ _ hb) _) (hx'.mono (Nat.zero_le _)) h,fun h=>hN.cl h (hN.pw (hD _ _ hb) _)⟩
theorem Sup.put (hd:D[d]? = some none):Sup D (D.set d (some y)):=fun e b hb=>by
 rw [List.getElem?_set]
 split
 ·rename_i h;rw [←h,hd]at hb;cases hb
 ·exact hb
def RQ (O:List Int) (P:List (List Int)) (C:List (List (List Int))) (D:List (Option (List Int))) (Q:List (List Int)) (x:List Int):Prop:=∃z,Rdu O P C D x z∧(z=zv O∨z∈Q)
structure QI (O:List Int) (P:List (List Int)) (C:List (List (List Int))) (D:List (Option (List Int))) (Q:List (List Int)):Prop where
 pow:∀(d:Nat) (b:List Int),D[d]? = some (some b)→RQ O P C D Q (pw (gm O P C) (zv O) b (at_ O d).toNat)
 com:∀(d e:Nat) (b c:List Int),d≠e→D[d]? = some (some b)→D[e]? = some (some c)→RQ O P C D Q (gcom O P C b c)∨RQ O P C D Q (gcom O P C c b)
theorem RQ.step {Q':List (List Int)} (h:RQ O P C D (x::Q) y) (s:Sup D D') (hx:Rdu O P C D x z) (hz:z=zv O∨z∈Q') (hQ:∀q∈Q,q∈Q'):RQ O P C D' Q' y:=by
 obtain⟨w,h1,h2⟩:=h;rcases h2 with rfl|h2
 ·exact⟨_,h1.mono s,.inl rfl⟩
 ·rcases List.mem_cons.1 h2 with rfl | h2
  ·exact⟨z,(h1.trans hx).mono s,hz⟩
  ·exact⟨w,h1.mono s,.inr (hQ w h2)⟩
theorem zDF {n d:Nat} {b:List Int} (h:(List.replicate n (none:Option (List Int)))[d]? = some (some b)):False:=by
 rw [List.getElem?_replicate]at h
 split at h<;>cases h
theorem QI.start (n:Nat):QI O P C (List.replicate n none) Q:=⟨fun d b h=>(zDF h).elim,fun d e b c _ h _=>(zDF h).elim⟩
theorem QI.mem {Q':List (List Int)} (h:QI O P C D Q) (hQ:∀q∈Q,q∈Q'):QI O P C D Q':=
 have r:∀{x},RQ O P C D Q x→RQ O P C D Q' x:=fun⟨z,h1,h2⟩=>⟨z,h1,h2.imp id (hQ z)⟩
 ⟨fun d b hb=>r (h.pow d b hb),fun d e b c hne hb hc=>(h.com d e b c hne hb hc).imp r r⟩
theorem QI.drop (h:QI O P C D (x::Q)) (hx:Rdu O P C D x (zv O)):QI O P C D Q:=
 have r:∀{y},RQ O P C D (x::Q) y→RQ O P C D Q y:=fun h=>h.step (fun d b hb=>hb) hx (.inl rfl) fun q hq=>hq
 ⟨fun d b hb=>r (h.pow d b hb),fun d e b c hne hb hc=>(h.com d e b c hne hb hc).imp r r⟩
theorem QI.put {Q':List (List Int)} (h:QI O P C D (x::Q)) (hx:Rdu O P C D x z) (hd:D[d]? = some none) (hz:z∈Q') (hQ:∀q∈Q,q∈Q') (hp:pw (gm O P C) (zv O) y (at_ O d).toNat∈Q') (hc:∀(e:Nat) (b:List Int),D[e]? = some (some b)→gcom O P C b y∈Q'∨gcom O P C y b∈Q'):QI O P C (D.set d (some y)) Q':=by
  have hl:d<D.length:=by
    rcases Nat.lt_or_ge d D.length with h|h
    · exact h
    · rw [List.getElem?_eq_none h]at hd;cases hd
  have s:Sup D (D.set d (some y)):=Sup.put hd;have r:∀{w},RQ O P C D (x::Q) w→RQ O P C (D.set d (some y)) Q' w:=fun h=>h.step s hx (.inr hz) hQ
  have ge:∀(e:Nat) (b:List Int),(D.set d (some y))[e]? = some (some b)→(e=d∧b=y)∨(e≠d∧D[e]? = some (some b)):=fun e b hb=>by
    rw [List.getElem?_set]at hb
    split at hb
    · rename_i he
      subst he
      first
      | (cases hb;exact .inl ⟨rfl,rfl⟩)
      | (split at hb
         · cases hb;exact .inl ⟨rfl,rfl⟩
         · cases hb)
    · rename_i he;exact .inr ⟨fun h=>he h.symm,hb⟩
  refine⟨fun e b hb=>?_,fun e e' b c hne hb hc'=>?_⟩
  · rcases ge e b hb with ⟨k1,k2⟩ | ⟨_,hb2⟩
    · rw [k1,k2];exact⟨_,.refl _,.inr hp⟩
    · exact r (h.pow e b hb2)
  · rcases ge e b hb with ⟨k1,k2⟩ | ⟨h1,hb2⟩
    · rcases ge e' c hc' with ⟨l1,l2⟩ | ⟨h2,hc2⟩
      · omega
      · rw [k2]
        rcases hc e' c hc2 with h3|h3
        · exact .inr ⟨_,.refl _,.inr h3⟩
        · exact .inl ⟨_,.refl _,.inr h3⟩
    · rcases ge e' c hc' with ⟨l1,l2⟩ | ⟨h2,hc2⟩
      · rw [l2]
        rcases hc e b hb2 with h3|h3
        · exact .inl ⟨_,.refl _,.inr h3⟩
        · exact .inr ⟨_,.refl _,.inr h3⟩
      · exact(h.com e e' b c hne hb2 hc2).imp r r
section
variable (s:Shp O P C) (F:Full O P C O.length) (hC:Cent O C)
include s F hC
theorem zLs (hx:gS O x):∃E:Nat,0<E∧pw (gm O P C) (zv O) x E=zv O:=by
 have M:=F.g.toMon
 have:∀t,t≤O.length→∃E:Nat,0<E∧TT O t (pw (gm O P C) (zv O) x E):=by
  intro t
  induction t with
  | zero=>intro _;exact⟨1,by omega,by rw [M.pw_one hx];exact hx⟩
  | succ t ih=>
   intro ht;obtain⟨E,h1,h2⟩:=ih (by omega)
   have hO:=s.pr t (by omega)
   refine⟨E*(at_ O t).toNat,Nat.mul_pos h1 (by omega),?_⟩
   rw [M.pw_mul hx];exact zG4 s F hC (by omega) h2
 obtain⟨E,h1,h2⟩:=this O.length (Nat.le_refl _);exact⟨E,h1,h2.ext (s.zv _) fun j h1 h2=>by omega⟩
theorem zAC (inS:∀x,N x→gS O x) (one:N (zv O)) (cl:∀x y,N x→N y→N (gm O P C x y)):gB O P C N:=by
 have G:=F.g;have pwN:∀{x},N x→∀k,N (pw (gm O P C) (zv O) x k):=fun {x} hx k=>by
  induction k with
  | zero=>exact one
  | succ k ih=>exact cl _ _ ih hx
 refine⟨fun h=>inS _ h,one,fun h g=>cl _ _ h g,fun {x} hx=>?_⟩
 obtain⟨E,h1,h2⟩:=zLs s F hC (inS x hx);have e:pw (gm O P C) (zv O) x (E-1)=ginv (gS O) (gm O P C) (zv O) x:=by
  refine G.inv_eq (inS x hx) (inS _ (pwN hx _)) ?_
  have:=G.pw_comm (inS x hx) (E-1)
  rw [←this];rw [show E=(E-1)+1 by omega]at h2
  exact h2
 rw [←e];exact pwN hx _
def HD (O:List Int) (P:List (List Int)) (C:List (List (List Int))) (D:List (Option (List Int))) (t:Nat) (x:List Int):Prop:=TT O t x∧Rdu O P C D x (zv O)
omit hC in
theorem HD.row (ok:OkD O D) (hb:D[d]? = some (some b)) (hd:d<O.length):HD O P C D d b:=by
 have M:=F.g.toMon;obtain⟨h1,h2⟩:=ok.row d b hb;have hb0:gS O b:=h1.mono (Nat.zero_le _);refine⟨h1,.left (j:=1) hd hb h1 (by rw [h2];decide) (s.zv _) ?_ (.refl _)⟩
 rw [M.pw_one hb0];exact(M.r1 hb0).symm
theorem HD.nn (hn:D[t]? = some none) (h:HD O P C D t x):HD O P C D (t+1) x:=by
 obtain⟨h1,h2⟩:=h;refine⟨?_,h2⟩;have key:∀{d:Nat} {b:List Int},D[d]? = some (some b)→TT O d x→at_ x d≠0→TT O (t+1) x:=fun {d b} hb hx h0=>by
  rcases Nat.lt_trichotomy d t with h|h|h
  ·exact absurd (h1.zero d h) h0
  ·rw [h,hn]at hb;cases hb
  ·exact hx.mono h
 cases h2 with
 | refl=>exact s.zv _
 | left hd hb hx h0 hx' e r=>exact key hb hx h0
 | right hd hb hx h0 hx' e r=>exact key hb hx h0
theorem HD.cnjb (ok:OkD O D) (q:QI O P C D []) (ht:t<O.length) (hb:D[t]? = some (some b)) (hs:gB O P C (HD O P C D (t+1))):∀{x z:List Int},Rdu O P C D x z→z=zv O→TT O (t+1) x→HD O P C D (t+1) (cnj (gS O) (gm O P C) (zv O) x b):=by
 have G:=F.g;have bS:gS O b:=(ok.row t b hb).1.mono (Nat.zero_le _);have cm:∀{x y:List Int},gS O x→gS O y→cnj (gS O) (gm O P C) (zv O) (gm O P C x y) b=gm O P C (cnj (gS O) (gm O P C) (zv O) x b) (cnj (gS O) (gm O P C) (zv O) y b):=fun {x y} hx hy=>by
  have c1:=G.cnj_in hx bS;have c2:=G.cnj_in hy bS;refine(G.cnj_eq (G.cl hx hy) bS (G.cl c1 c2) ?_).symm;rw [←G.as bS c1 c2,G.cnj_spec hx bS,G.as hx bS c2,G.cnj_spec hy bS,←G.as hx hy bS]
 have cone:cnj (gS O) (gm O P C) (zv O) (zv O) b=zv O:=G.cnj_one bS;have cpw:∀{c:List Int},gS O c→HD O P C D (t+1) (cnj (gS O) (gm O P C) (zv O) c b)→∀j,HD O P C D (t+1) (cnj (gS O) (gm O P C) (zv O) (pw (gm O P C) (zv O) c j) b):=fun {c} hc h j=>by
  induction j with
  | zero=>show HD O P C D (t+1) (cnj _ _ _ (zv O) b);rw [cone];exact hs.one
  | succ j ih=>
   show HD O P C D (t+1) (cnj _ _ _ (gm O P C _ c) b);rw [cm (G.pw hc j) hc];exact hs.cl ih h
 have row:∀{d:Nat} {c:List Int},t+1≤d→d<O.length→D[d]? = some (some c)→gS O c∧HD O P C D (t+1) (cnj (gS O) (gm O P C) (zv O) c b):=fun {d c} h1 h2 hc=>by
  have cT:=(ok.row d c hc).1;have cS:gS O c:=cT.mono (Nat.zero_le _);refine⟨cS,?_⟩;rw [←G.cnj_com cS bS];have hcr:=HD.row s F ok hc h2;have hcH:HD O P C D (t+1) c:=⟨hcr.1.mono h1,hcr.2⟩;refine hs.cl hcH ?_;have T1:TT O (t+1) (gcom O P C c b):=zM3 s F hC ht hcH.1 (ok.row t b hb).1;have e0:∀{w},RQ O P C D [] w→Rdu O P C D w (zv O):=fun⟨z,h1,h2⟩=>by
   rcases h2 with rfl|h2
   ·exact h1
   ·cases h2
  rcases q.com t d b c (by omega) hb hc with h3|h3
  ·have sw1:gcom O P C b c=ginv (gS O) (gm O P C) (zv O) (gcom O P C c b):=G.com_swap' cS bS
   have sw2:gcom O P C c b=ginv (gS O) (gm O P C) (zv O) (gcom O P C b c):=G.com_swap' bS cS;have T2:TT O (t+1) (gcom O P C b c):=by rw [sw1];exact zIS s F hC ht T1
   have T3:HD O P C D (t+1) (gcom O P C c b):=by rw [sw2];exact hs.inv ⟨T2,e0 h3⟩
   exact T3
  ·exact⟨T1,e0 h3⟩
 intro x z h
 induction h with
 | refl x=>rintro rfl hx;rw [cone];exact hs.one
 | @left d j c x x' z hd hc hx h0 hx' e r ih=>
  intro hz hT;have hdt:t+1≤d:=by
   rcases Nat.lt_or_ge d (t+1)with h|h
   ·exact absurd (hT.zero d h) h0
   ·exact h
  obtain⟨r1,r2⟩:=row hdt hd hc;have hx'S:gS O x':=hx'.mono (Nat.zero_le _);rw [e,cm (G.pw r1 j) hx'S];exact hs.cl (cpw r1 r2 j) (ih hz (hx'.mono (by omega)))
 | @right d j c x x' z hd hc hx h0 hx' e r ih=>
  intro hz hT;have hdt:t+1≤d:=by
   rcases Nat.lt_or_ge d (t+1)with h|h
   ·exact absurd (hT.zero d h) h0
   ·exact h
  obtain⟨r1,r2⟩:=row hdt hd hc;have hx'S:gS O x':=hx'.mono (Nat.zero_le _);rw [e,cm hx'S (G.pw r1 j)];exact hs.cl (ih hz (hx'.mono (by omega))) (cpw r1 r2 j)
theorem HD.sub (ok:OkD O D) (q:QI O P C D []):∀k t,t+k=O.length→gB O P C (HD O P C D t)
 | 0,t,ht=>by
  have hz:∀x,HD O P C D t x→x=zv O:=fun x hx=>hx.1.ext (s.zv _) fun j h1 h2=>by omega
  have h0:HD O P C D t (zv O):=⟨s.zv _,.refl _⟩;refine zAC s F hC (fun x hx=>hx.1.mono (Nat.zero_le _)) h0 fun x y hx hy=>?_
  rw [hz x hx,hz y hy,F.g.l1 F.g.one];exact h0
 | k+1,t,ht=>by
  have ih:=HD.sub ok q k (t+1) (by omega)
  have G:=F.g;have htl:t<O.length:=by omega
  have hDl:t<D.length:=by rw [ok.len];exact htl
  rcases hD:D[t]? with _|_|b
  ·rw [List.getElem?_eq_getElem hDl]at hD;cases hD
  ·refine zAC s F hC (fun x hx=>hx.1.mono (Nat.zero_le _)) ⟨s.zv _,.refl _⟩ fun x y hx hy=>?_
   have:=ih.cl (HD.nn s F hC hD hx) (HD.nn s F hC hD hy)
   exact⟨this.1.mono (by omega),this.2⟩
  ·obtain⟨bT,b1⟩:=ok.row t b hD
   have bS:gS O b:=bT.mono (Nat.zero_le _);have inS:∀{x},HD O P C D (t+1) x→gS O x:=fun h=>h.1.mono (Nat.zero_le _)
   -- products of a power of b and a member behind
   have mk:∀(j:Nat) {h:List Int},HD O P C D (t+1) h→HD O P C D t (gm O P C (pw (gm O P C) (zv O) b j) h):=fun j {h} hh=>by
    obtain⟨p1,p2⟩:=zA4 s F hC htl bT j;have hhS:=inS hh;have T:=tt_cl s F hC (Nat.le_of_lt htl) p1 (hh.1.mono (Nat.le_succ _));refine⟨T,?_⟩;obtain⟨_,g2⟩:=Zw s (d:=O.length) (b:=pw (gm O P C) (zv O) b j) (a:=h) (t:=t) (Nat.le_refl _) (by omega) htl (by rw [Nat.sub_self];exact p1.mono (Nat.zero_le _)) (hh.1.mono (Nat.le_succ _))
    have hO:=s.pr t htl;have e2:at_ (gm O P C (pw (gm O P C) (zv O) b j) h) t=(j:Int) % at_ O t:=by
     show at_ (mu O P C O.length _ _) t=_;rw [g2,zF2 (p1.bd t htl) (hh.1.bd t htl),hh.1.zero t (Nat.lt_succ_self _),p2,b1,Int.mul_one,Int.add_zero,Int.emod_emod_of_dvd _ (Int.dvd_refl _)]
    by_cases h0:(j:Int) % at_ O t=0
    ·obtain⟨r,hr⟩:=Int.dvd_of_emod_eq_zero h0
     have hr0:0≤r:=by
      rcases Int.lt_or_le r 0 with h|h
      ·have:=Int.mul_neg_of_pos_of_neg (show 0<at_ O t by omega) h;omega
      ·exact h
     have ej:j=(at_ O t).toNat*r.toNat:=by
      have:((j:Nat):Int)=(((at_ O t).toNat*r.toNat:Nat):Int):=by rw [Int.natCast_mul,Int.toNat_of_nonneg hr0,Int.toNat_of_nonneg (by omega),hr]
      omega
     have hp:HD O P C D (t+1) (pw (gm O P C) (zv O) b (at_ O t).toNat):=by
      refine⟨zG4 s F hC htl bT,?_⟩;obtain⟨z,h1,h2⟩:=q.pow t b hD;rcases h2 with rfl|h2
      ·exact h1
      ·cases h2
     rw [ej,G.pw_mul bS];exact(ih.cl (ih.pw hp r.toNat) hh).2
    ·exact .left htl hD T (by rw [e2];exact h0) hh.1 rfl hh.2
   have mv:∀(j:Nat) {h:List Int},HD O P C D (t+1) h→∃h',HD O P C D (t+1) h'∧gm O P C h (pw (gm O P C) (zv O) b j)=gm O P C (pw (gm O P C) (zv O) b j) h':=fun j=>by
    induction j with
    | zero=>exact fun {h} hh=>⟨h,hh,by show gm O P C h (zv O)=gm O P C (zv O) h;rw [G.r1 (inS hh),G.l1 (inS hh)]⟩
    | succ j ij=>
     intro h hh;obtain⟨h1,a1,a2⟩:=ij hh;have a3:=HD.cnjb s F hC ok q htl hD ih a1.2 rfl a1.1;refine⟨_,a3,?_⟩;have hpS:=G.pw bS j;show gm O P C h (gm O P C (pw (gm O P C) (zv O) b j) b)=gm O P C (gm O P C (pw (gm O P C) (zv O) b j) b) _;rw [←G.as (inS hh) hpS bS,a2,G.as hpS (inS a1) bS,G.as hpS bS (inS a3),G.cnj_spec (inS a1) bS]
   have split:∀{x},HD O P C D t x→∃j h,HD O P C D (t+1) h∧x=gm O P C (pw (gm O P C) (zv O) b j) h:=fun {x} hx=>by
    obtain⟨hT,hr⟩:=hx;have deep:∀{d},TT O d x→at_ x d≠0→d≠t→TT O (t+1) x:=fun {d} h1 h0 hne=>by
     rcases Nat.lt_trichotomy d t with h|h|h
     ·exact absurd (hT.zero d h) h0
     ·exact absurd h hne
     ·exact h1.mono h
    have triv:TT O (t+1) x→Rdu O P C D x (zv O)→∃j h,HD O P C D (t+1) h∧x=gm O P C (pw (gm O P C) (zv O) b j) h:=fun h1 h2=>⟨0,x,⟨h1,h2⟩,(G.l1 (h1.mono (Nat.zero_le _))).symm⟩
    have hr0:=hr;cases hr with
    | refl=>exact triv (s.zv _) (.refl _)
    | @left d j c _ x' _ hd hc h1 h0 hx' e r=>
     by_cases hdt:d=t
     ·subst hdt
      rw [hD]at hc;cases hc
      exact⟨j,x',⟨hx',r⟩,e⟩
     ·exact triv (deep h1 h0 hdt) hr0
    | @right d j c _ x' _ hd hc h1 h0 hx' e r=>
     by_cases hdt:d=t
     ·subst hdt
      rw [hD]at hc;cases hc
      obtain⟨h',a1,a2⟩:=mv j (show HD O P C D (d+1) x' from⟨hx',r⟩)
      exact⟨j,h',a1,by rw [e,a2]⟩
     ·exact triv (deep h1 h0 hdt) hr0
   refine zAC s F hC (fun x hx=>hx.1.mono (Nat.zero_le _)) ⟨s.zv _,.refl _⟩ fun x y hx hy=>?_
   obtain⟨j,h,a1,rfl⟩:=split hx;obtain⟨j',h',a2,rfl⟩:=split hy;obtain⟨h2,a3,a4⟩:=mv j' a1;have p1:=G.pw bS j;have p2:=G.pw bS j';have e:gm O P C (gm O P C (pw (gm O P C) (zv O) b j) h) (gm O P C (pw (gm O P C) (zv O) b j') h')=gm O P C (pw (gm O P C) (zv O) b (j+j')) (gm O P C h2 h'):=by
    rw [G.as p1 (inS a1) (G.cl p2 (inS a2)),←G.as (inS a1) p2 (inS a2),a4,G.as p2 (inS a3) (inS a2),←G.as p1 p2 (G.cl (inS a3) (inS a2)),G.pw_add bS]
   rw [e];exact mk _ (ih.cl a3 a2)
omit hC in
theorem HD.fil (h:HD O P C D t x) (hd:dep x<O.length):∃b,D[dep x]? = some (some b):=by
 obtain⟨h1,h2⟩:=h;have key:∀{d:Nat} {b:List Int},D[d]? = some (some b)→TT O d x→at_ x d≠0→∃b,D[dep x]? = some (some b):=fun {d b} hb hx h0=>by
  have:dep x=d:=zFt (fun j hj=>hx.zero j hj) h0
  rw [this];exact⟨b,hb⟩
 cases h2 with
 | refl=>rw [zIN s]at hd;omega
 | left hd hb hx h0 hx' e r=>exact key hb hx h0
 | right hd hb hx h0 hx' e r=>exact key hb hx h0
end
def GC (O:List Int) (P:List (List Int)) (C:List (List (List Int))) (L:List (List Int)) (x:List Int):Prop:=∀N,gB O P C N→(∀l∈L,N l)→N x
theorem GC.sub (F:Full O P C O.length) (hL:∀l∈L,gS O l):gB O P C (GC O P C L):=
 ⟨fun h=>h _ F.g.wholeB hL,fun N hN _=>hN.one,fun h g N hN hl=>hN.cl (h N hN hl) (g N hN hl),fun h N hN hl=>hN.inv (h N hN hl)⟩
theorem GC.mem (h:x∈L):GC O P C L x:=fun N _ hl=>hl x h
structure CanG (O:List Int) (H:List Int→Prop) (u:List (List Int)):Prop where
 asc:u.Pairwise fun a b=>dep a<dep b
 mem:∀v∈u,H v
 one:∀v∈u,gS O v∧dep v<O.length∧at_ v (dep v)=1
 red:∀v∈u,∀w∈u,dep v≠dep w→at_ v (dep w)=0
 all:∀x,H x→dep x<O.length→∃v∈u,dep v=dep x
theorem CanG.len (h:CanG O H u):u.length≤O.length:=by
 have:(u.map dep).Pairwise (· < ·):=by rw [List.pairwise_map];exact h.asc
 have key:∀(l:List Nat) (m:Nat),l.Pairwise (· < ·)→(∀x∈l,m≤x∧x<O.length)→l.length+m≤O.length∨l=[]:=by
  intro l
  induction l with
  | nil=>intro m _ _;exact .inr rfl
  | cons a l ih=>
   intro m h1 h2;rw [List.pairwise_cons]at h1
   have ha:=h2 a (by simp)
   rcases ih (a+1) h1.2 (fun x hx=>⟨h1.1 x hx,(h2 x (by simp [hx])).2⟩)with h3|h3
   ·left;simp only [List.length_cons];omega
   ·subst h3;left;simp;omega
 rcases key _ 0 this (fun x hx=>by
  obtain⟨v,hv,rfl⟩:=List.mem_map.1 hx;exact⟨Nat.zero_le _,(h.one v hv).2.1⟩)with h1 | h1
 ·simpa using h1
 ·rw [List.map_eq_nil_iff]at h1;subst h1;simp
theorem GC.table (s:Shp O P C) (F:Full O P C O.length) (hC:Cent O C) (ok:OkD O D) (q:QI O P C D []) (h:∀N,gB O P C N→(InD N D↔∀l∈L,N l)):∀x,GC O P C L x↔HD O P C D 0 x:=by
 have hs:=HD.sub s F hC ok q O.length 0 (by omega)
 intro x;constructor
 ·intro hx
  refine hx _ hs ((h _ hs).1 fun d b hb=>?_)
  have hd:d<O.length:=by
   rw [←ok.len];rcases Nat.lt_or_ge d D.length with h|h
   ·exact h
   ·rw [List.getElem?_eq_none h]at hb;cases hb
  have:=HD.row s F ok hb hd
  exact⟨this.1.mono (Nat.zero_le _),this.2⟩
 ·intro hx N hN hl
  exact(hx.2.iff F hN ((h N hN).2 hl)).2 hN.one
structure CanD (O:List Int) (P:List (List Int)) (C:List (List (List Int))) (D:List (Option (List Int))) (u:List (List Int)):Prop where
 one:∀v∈u,gS O v∧dep v<O.length∧at_ v (dep v)=1
 asc:u.Pairwise fun a b=>dep a<dep b
 red:∀v∈u,∀w∈u,dep v≠dep w→at_ v (dep w)=0
 all:∀(d:Nat) (y:List Int),D[d]? = some (some y)→∃v∈u,dep v=d
 len:u.length≤O.length
 iff:∀N,gB O P C N→((∀x∈u,N x)↔InD N D)
theorem CanD.can (s:Shp O P C) (F:Full O P C O.length) (hC:Cent O C) (ok:OkD O D) (q:QI O P C D []) (cd:CanD O P C D u) (h:∀N,gB O P C N→(InD N D↔∀l∈L,N l)):CanG O (GC O P C L) u:=
 ⟨cd.asc,fun v hv N hN hl=>(cd.iff N hN).2 ((h N hN).2 hl) v hv,cd.one,cd.red,fun x hx hd=>by
  obtain⟨b,hb⟩:=HD.fil s F ((GC.table s F hC ok q h x).1 hx) hd;exact cd.all _ b hb⟩
section
variable (s:Shp O P C) (F:Full O P C O.length) (hC:Cent O C)
include s F hC
theorem Rdu.stepR (ok:OkD O D) (hb:D[d]? = some (some b)) (hd:d<O.length) (hz:TT O d z) (h0:at_ z d≠0) (hw:gS O x) (hx:gm O P C x (pw (gm O P C) (zv O) b k)=z) (hx':TT O (d+1) x):Rdu O P C D z x:=
 .right (j:=k) hd hb hz h0 hx' hx.symm (.refl _)
end
end Go.Grp
namespace Go.Grp
end Go.Grp
namespace Go.Proofs
open Go.Ab Go.Lie Go.Grp
variable {σ:PHeap} {K:PV→PHeap→Prop} {O:List Int} {P:List (List Int)} {C:List (List (List Int))} {vO vP vC vx vy vL vU vV vB vg:PV} {x y z f a b g:List Int} {L u v z':List (List Int)} {rP rC rb:List PV} {d j sp ss sb n:Nat}
theorem Cons.full (s:Shp O P C) (hc:Cons O P C):Full O P C O.length:=full_of s (Nat.le_refl _) fun j _ h=>hc j h
theorem ZF.isp (h:ZF O P C):∀o∈O,isP o:=h.2.2.2.1
end Go.Proofs
namespace Go.Grp
end Go.Grp
namespace Go.Proofs
open Go.Ab Go.Lie Go.Grp
variable {σ:PHeap} {K:PV→PHeap→Prop} {O:List Int} {P:List (List Int)} {C:List (List (List Int))} {vO vP vC vx vy vz:PV} {x y z:List Int} {d j sp n:Nat}
structure LG (O:List Int) (P:List (List Int)) (C:List (List (List Int))):Prop where
 pr:ZF O P C
 co:Cons O P C
theorem LG.s (g:LG O P C):Shp O P C:=g.pr.shp
theorem LG.F (g:LG O P C):Full O P C O.length:=Cons.full g.s g.co
theorem LG.cent (g:LG O P C):Cent O C:=trivial
theorem zEZ (g:LG O P C) (hR:IsPr vO vP vC O P C) (hx:gS O x) (hvx:FI vx x) {k:Int} (hk0:0≤k∧k≤1000) (hk:∀v,FI v (Grp.pw (gm O P C) (zv O) x k.toNat)→K v σ):
  zA Try.prog 86 [.agg [vO,vP,vC],vx,.int .i64 k] σ K:=by
 have h0:=hR.O.one;have h1:=hR.P.one;have h2:=hR.C.one;have M:=g.F.g.toMon;have hk1:¬k<0:=by omega
 refine zA.gh ?_;refine zB mix Try.func86 ?_
 conv=>arg 2;cbv
 refine zC rfl ?_;simp only [pwA,seval,-iQ0,h0,h1,h2,hk1];refine zAa g.s (d:=O.length) (i:=0) (by omega) (Qp g.s (by omega)) M hR hx hvx hk0 fun v hv=>?_
 simp only [pwA,seval,-iQ0];exact Gh.fin0 (zD σ _) (hv.bel _) (hk v hv)
end Go.Proofs
namespace Go.Grp
end Go.Grp
namespace Go.Proofs
open Go.Ab Go.Lie Go.Grp
variable {σ:PHeap} {K:PV→PHeap→Prop} {O:List Int} {P:List (List Int)} {C:List (List (List Int))} {vO vP vC vx vy vz vL:PV} {x y z:List Int} {xs:List (List Int)} {d j sp n:Nat}
theorem isExp.gS (h:isExp O x):gS O x:=⟨h.1,fun j hj=>by have:=h.2 j (by rw [h.1];exact hj);omega,fun j hj=>by omega⟩
theorem zEN (hs:PtrG σ sp vO vP vC) (hR:IsPr vO vP vC O P C) (sz:SzP O P C) (hL:FII vL xs) (szL:SzL xs) (hk:∀t:Bool,(t=true↔(ZF O P C∧Cons O P C)∧∀x∈xs,isExp O x)→K (.bool t) σ):zA Try.prog 60 [.ptr sp 0,vL] σ K:=by
 have fl:∀{A:Prop},¬A→((false=true)↔A):=fun h=>⟨fun x=>(by cases x),fun x=>absurd x h⟩
 have r3:σ.rd sp 0 3=some [vO,vP,vC]:=by rw [QC hs.obj];rfl
 have hxl:=szL.l;obtain⟨wl,al,rl,rfl,hrl⟩:=hL;refine zB mix Try.func60 ?_
 conv=>arg 2;cbv
 refine zC rfl ?_;simp only [pwA,seval,-iQ0,r3];refine zD9 hR sz fun t ht=>?_
 cases t with
 | false=>
  simp only [pwA,seval,-iQ0];exact hk _ (fl fun h=>by cases ht.2 h.1)
 | true=>
 have hp:=ht.1 rfl;simp only [pwA,seval,-iQ0];refine zF (fun m us h'=>∃i:Nat,i≤xs.length∧m=xs.length-i∧us=[.ptr sp 0,.fz wl al xs.length rl,.int .i64 xs.length,.int .i64 i]∧σ=h'∧∀x∈xs.take i,isExp O x) xs.length ⟨0,by omega,by omega,rfl,rfl,by simp⟩ ?_
 rintro m us h' ⟨i,hi,rfl,rfl,rfl,hall⟩
 simp only [pwA,seval,-iQ0];refine iteI (fun hlt=>?_) fun hge=>?_
 rotate_left
 ·have hie:i=xs.length:=by omega
  subst hie;rw [List.take_length]at hall
  exact hk _ ⟨fun _=>⟨hp,hall⟩,fun _=>rfl⟩
 obtain⟨w4,a4,hr⟩:=hrl.rowI hlt;have hxi:=szL.r _ (List.getElem_mem hlt);simp only [pwA,seval,-iQ0,hlt,hr];refine Qq hs hR.O (by have:=hp.1.1;omega) hp.1.isp ⟨w4,a4,rfl⟩ hxi fun t ht=>?_
 cases t with
 | false=>
  simp only [pwA,seval,-iQ0];exact hk _ (fl fun h=>by cases ht.2 (h.2 _ (List.getElem_mem hlt)))
 | true=>
 have h1:=ht.1 rfl;simp only [pwA,seval,-iQ0,wrapS hlt (by omega:xs.length≤4611686018427387904)]
 refine⟨_,by omega,i+1,by omega,rfl,rfl,fun x hx=>?_⟩
 rw [List.take_succ_eq_append_getElem hlt,List.mem_append,List.mem_singleton]at hx
 rcases hx with hx|hx
 ·exact hall x hx
 ·rw [hx];exact h1
end Go.Proofs
namespace Go.Proofs.Ytkhbdmlhjnijaaa
open Go.ChangeShapes Go.WideShapes Go.ChangeAt Go.RowKit Go.Ab Go.Joins Go.Lie Go.Proofs
theorem own:ownKnob Try.prog.godebug=none:=by kernel_rfl
theorem laidOut:laidOutB Try.prog=true:=by kernel_rfl
theorem zNZ:Try.prog.cellsOf 23=1:=by kernel_rfl
theorem cell2:Try.prog.cellsOf 2=1:=by kernel_rfl
theorem zNa:Try.prog.cellsOf 22=1:=by kernel_rfl
variable {H:Type} {enc:TypeId×Value→H} {W w0:World} {j:Inj} {h:AHeap}
def LII (v:PV) (xs:List (List Int)):Prop:=FII v xs∧xs.length≤9223372036854775807∧∀x∈xs,x.length≤9223372036854775807
def LIII (v:PV) (xs:List (List (List Int))):Prop:=FIII v xs∧xs.length≤9223372036854775807∧∀q∈xs,q.length≤9223372036854775807∧∀x∈q,x.length≤9223372036854775807
theorem layI:Lay1 enc Try.prog W 22 (fun v (xs:List Int)=>FI v xs∧xs.length≤9223372036854775807):=zKz (e:=2) Try.underlying22 cell2 Try.underlying2
theorem layII:Lay1 enc Try.prog W 23 LII:=by
 intro w0 j h held fuel v x m hx;obtain⟨j',h',pv,a,g1,g2,g3,g4,g5,g6,g7,g8⟩:=zB6 Try.underlying23 zNa layI w0 j h held fuel v x m hx;exact⟨j',h',pv,a,g1,g2,g3,g4,g5,g6,g7.imp fun _ _ k=>k.1,g8,g7.all fun _ _ k=>k.2⟩
theorem zNQ:Lay1 enc Try.prog W 24 LIII:=by
 intro w0 j h held fuel v x m hx;obtain⟨j',h',pv,a,g1,g2,g3,g4,g5,g6,g7,g8⟩:=zB6 Try.underlying24 zNZ layII w0 j h held fuel v x m hx;exact⟨j',h',pv,a,g1,g2,g3,g4,g5,g6,g7.imp fun _ _ k=>k.1,g8,g7.all fun _ _ k=>k.2⟩
end Go.Proofs.Ytkhbdmlhjnijaaa
namespace Go.Proofs.Ytkhbdmlhjnijaaa
open Go.ChangeShapes Go.WideShapes Go.ChangeAt Go.RowKit Go.Ab Go.Joins Go.Lie Go.Proofs
theorem zNY:Try.prog.cellsOf 26=3:=by kernel_rfl
variable {H:Type} {enc:TypeId×Value→H} {W w0:World} {j:Inj} {h:AHeap}
set_option maxRecDepth 100000 in
theorem layPr {b0:Nat} {v:Value} {d:DataW H} {q:List MemPlace} (m:MR W.heap.size w0 j h W) (hv:Value.okWide Try.prog W .any b0 26 v) (ht:DataW.Trod enc Try.prog W 0 (fun _=>true) true 26 v d q):
  ∃(j':Inj) (h':AHeap) (vO vP vC:PV) (Os:List Int) (Ps:List (List Int)) (Cs:List (List (List Int))),MR W.heap.size w0 j' h' W∧j.le j'∧Ext h h'∧VI j' (er idz (.agg [vO,vP,vC])) v∧VOK (zlt h') h' 0 (.agg [vO,vP,vC])∧IsPr vO vP vC Os Ps Cs∧MxP Os Ps Cs:=by
 obtain⟨v0,v1,v2,y0,y1,y2,n,rfl,rfl,rfl,t0,t1,t2⟩:=open_agg3 Try.underlying26 (by kernel_rfl) zNY hv ht
 obtain⟨j0,h0,vO,Os,m0,l0,e0,i0,o0,_,r1,r2⟩:=layI w0 j h true n v0 _ m t0;obtain⟨j1,h1,vP,Ws,m1,l1,e1,i1,o1,_,p1,p2,p3⟩:=layII w0 j0 h0 true n v1 _ m0 t1;obtain⟨j2,h2,vB,Bs,m2,l2,e2,i2,o2,_,q1,q2,q3⟩:=zNQ w0 j1 h1 true n v2 _ m1 t2;exact⟨j2,h2,vO,vP,vB,Os,Ws,Bs,m2,(l0.trans l1).trans l2,(e0.trans e1).trans e2,⟨_,⟨_,_,rfl,VI.mono (l1.trans l2) _ _ i0,_,_,rfl,VI.mono l2 _ _ i1,_,_,rfl,i2,rfl⟩,rfl⟩,⟨(e1.trans e2).vok o0,e2.vok o1,o2,trivial⟩,⟨r1,p1,q1⟩,⟨r2,p2,p3,q2,q3⟩⟩
end Go.Proofs.Ytkhbdmlhjnijaaa
namespace Go.Grp
end Go.Grp
namespace Go.Proofs
open Go.Ab Go.Lie Go.Grp
def ordF (O:List Int):Nat→Int
 | 0=>1
 | i+1=>ordF O i*at_ O i
def numF (O x:List Int):Nat→Int
 | 0=>0
 | i+1=>numF O x i*at_ O i+at_ x i
theorem Zp {O:List Int} (h:∀j,j<O.length→2≤at_ O j∧at_ O j≤7):∀{i:Nat},i≤O.length→1≤ordF O i∧ordF O i≤7 ^ i
 | 0,_=>by simp [ordF]
 | i+1,hi=>by
  obtain⟨h1,h2⟩:=Zp h (i:=i) (by omega)
  obtain⟨h3,h4⟩:=h i (by omega)
  have e1:=Int.mul_le_mul_of_nonneg_left (a:=1) (b:=at_ O i) (c:=ordF O i) (by omega) (by omega)
  have e2:=Int.mul_le_mul h2 h4 (by omega) (by omega)
  rw [ordF,Int.pow_succ];omega
theorem pow7 {i:Nat} (h:i≤6):(7:Int) ^ i≤117649:=by
 match i,h with
 | 0,_=>decide
 | 1,_=>decide
 | 2,_=>decide
 | 3,_=>decide
 | 4,_=>decide
 | 5,_=>decide
 | 6,_=>decide
theorem ZU {O x:List Int} (h:∀j,j<O.length→2≤at_ O j∧at_ O j≤7) (hx:∀j,j<O.length→0≤at_ x j∧at_ x j<at_ O j):∀{i:Nat},i≤O.length→0≤numF O x i∧numF O x i<ordF O i
 | 0,_=>by simp [ordF,numF]
 | i+1,hi=>by
  obtain⟨h1,h2⟩:=ZU h hx (i:=i) (by omega)
  obtain⟨h3,h4⟩:=h i (by omega)
  obtain⟨h5,h6⟩:=hx i (by omega)
  have e1:=Int.mul_nonneg h1 (show 0≤at_ O i by omega)
  have e2:=Int.mul_le_mul_of_nonneg_right (a:=numF O x i+1) (b:=ordF O i) (c:=at_ O i) (by omega) (by omega)
  rw [Int.add_mul,Int.one_mul]at e2
  rw [ordF,numF];omega
variable {σ:PHeap} {K:PV→PHeap→Prop} {O:List Int} {P:List (List Int)} {C:List (List (List Int))} {vO vP vC vx:PV} {x:List Int} {sp:Nat}
theorem zHs (s:Shp O P C) (hR:IsPr vO vP vC O P C) (hk:K (.int .i64 (ordF O O.length)) σ):zA Try.prog 32 [.agg [vO,vP,vC]] σ K:=by
 have hn6:=s.le;have h0:=hR.O.one;have h1:=hR.P.one;have h2:=hR.C.one;obtain⟨⟨w0,a0,rfl⟩,hRP,hRC⟩:=hR;refine zA.gh ?_;refine zB mix Try.func32 ?_
 conv=>arg 2;cbv
 refine zC rfl ?_;simp only [pwA,seval,-iQ0,h1,h2];have e0:(σ.new [.fz w0 a0 O.length (pis O),vP,vC]).rd1 σ.next 0=some (.fz w0 a0 O.length (pis O)):=by simp only [pwA,seval,-iQ0]
 refine zF (fun m vs h'=>∃i:Nat,i≤O.length∧m=O.length-i∧vs=[.ptr σ.next 0,.int .i64 (ordF O i),.int .i64 i]∧h'=σ.new [.fz w0 a0 O.length (pis O),vP,vC]) O.length ⟨0,by omega,by omega,rfl,rfl⟩ ?_
 rintro m vs h' ⟨i,hi,rfl,rfl,rfl⟩
 simp only [pwA,seval,-iQ0,e0];refine iteI (fun hlt=>?_) fun hge=>?_
 rotate_left
 ·have hie:i=O.length:=by omega
  subst hie;exact Gh.fin0 (zD σ _) trivial hk
 have hb:=Zp s.pr (i:=i+1) hlt;have h7:=pow7 (i:=i+1) (by omega)
 have ha:=at_eq hlt;have hm:ordF O i*O[i]=ordF O (i+1):=by rw [ordF,ha]
 have hw:IntKind.i64.wrap (ordF O i*O[i])=ordF O (i+1):=by rw [hm,wrap64 (by omega) (by omega)]
 simp only [pwA,seval,-iQ0,e0,hlt,gi hlt,qa,hw,wrapS hlt (by omega:O.length≤4611686018427387904)]
 exact⟨_,by omega,i+1,by omega,rfl,rfl⟩
theorem zHo (s:Shp O P C) (hs:PtrG σ sp vO vP vC) (hO:FI vO O) (hx:gS O x) (hvx:FI vx x) (hk:K (.int .i64 (numF O x O.length)) σ):zA Try.prog 77 [.ptr sp 0,vx] σ K:=by
 have hn6:=s.le;have hxl:=hx.len;obtain⟨w0,a0,rfl⟩:=hO;obtain⟨wx,ax,rfl⟩:=hvx;have e0:σ.rd1 sp 0=some (.fz w0 a0 O.length (pis O)):=by rw [qW hs.obj];rfl
 refine zB mix Try.func77 ?_
 conv=>arg 2;cbv
 refine zC rfl ?_;simp only [pwA,seval,-iQ0,e0];refine zF (fun m vs h'=>∃i:Nat,i≤O.length∧m=O.length-i∧vs=[.ptr sp 0,.int .i64 (numF O x i),.fz wx ax x.length (pis x),.int .i64 x.length,.int .i64 i]∧σ=h') O.length ⟨0,by omega,by omega,rfl,rfl⟩ ?_
 rintro m vs h' ⟨i,hi,rfl,rfl,rfl⟩
 simp only [pwA,seval,-iQ0];refine iteI (fun hlt=>?_) fun hge=>?_
 rotate_left
 ·have hie:i=O.length:=by omega
  subst hie;exact hk
 have hltO:i<O.length:=by omega
 have hb:=Zp s.pr (i:=i+1) hltO;have h7:=pow7 (i:=i+1) (by omega)
 have hnb:=ZU s.pr hx.bd (i:=i+1) hltO;have hb1:=Zp s.pr (i:=i) hi;have h71:=pow7 (i:=i) (by omega)
 have hnb1:=ZU s.pr hx.bd (i:=i) hi;have bx:=hx.bd i hltO;have ha:=at_eq hltO;have hax:=at_eq hlt;have hm:numF O x i*O[i] + x[i]=numF O x (i+1):=by rw [numF,ha,hax]
 rw [hax]at bx
 rw [ha]at bx
 have hm0:0≤numF O x i*O[i]:=by
  have:=(s.pr i hltO).1
  rw [ha]at this
  exact Int.mul_nonneg hnb1.1 (by omega)
 have hw0:IntKind.i64.wrap (numF O x i*O[i])=numF O x i*O[i]:=wrap64 (by omega) (by omega)
 have hw:IntKind.i64.wrap (numF O x i*O[i] + x[i])=numF O x (i+1):=by rw [hm,wrap64 (by omega) (by omega)]
 simp only [pwA,seval,-iQ0,e0,hlt,hltO,gi hlt,gi hltO,qa,hw0,hw,wrapS hltO (by omega:O.length≤4611686018427387904)]
 exact⟨_,by omega,i+1,by omega,rfl,rfl⟩
theorem zCy (s:Shp O P C) (hR:IsPr vO vP vC O P C) (hx:gS O x) (hvx:FI vx x) (hk:K (.int .i64 (numF O x O.length)) σ):zA Try.prog 70 [.agg [vO,vP,vC],vx] σ K:=by
 have hn6:=s.le;have hxl:=hx.len;have h0:=hR.O.one;have h1:=hR.P.one;have h2:=hR.C.one;obtain⟨⟨w0,a0,rfl⟩,hRP,hRC⟩:=hR;obtain⟨wx,ax,rfl⟩:=hvx;refine zA.gh ?_;refine zB mix Try.func70 ?_
 conv=>arg 2;cbv
 refine zC rfl ?_;simp only [pwA,seval,-iQ0,h1,h2];have e0:(σ.new [.fz w0 a0 O.length (pis O),vP,vC]).rd1 σ.next 0=some (.fz w0 a0 O.length (pis O)):=by simp only [pwA,seval,-iQ0]
 refine zF (fun m vs h'=>∃i:Nat,i≤O.length∧m=O.length-i∧vs=[.fz wx ax x.length (pis x),.ptr σ.next 0,.int .i64 (numF O x i),.int .i64 i]∧h'=σ.new [.fz w0 a0 O.length (pis O),vP,vC]) O.length ⟨0,by omega,by omega,rfl,rfl⟩ ?_
 rintro m vs h' ⟨i,hi,rfl,rfl,rfl⟩
 simp only [pwA,seval,-iQ0,e0];refine iteI (fun hlt=>?_) fun hge=>?_
 rotate_left
 ·have hie:i=O.length:=by omega
  subst hie;exact Gh.fin0 (zD σ _) trivial hk
 have hltO:i<O.length:=by omega
 have hb:=Zp s.pr (i:=i+1) hltO;have h7:=pow7 (i:=i+1) (by omega)
 have hnb:=ZU s.pr hx.bd (i:=i+1) hltO;have hb1:=Zp s.pr (i:=i) hi;have h71:=pow7 (i:=i) (by omega)
 have hnb1:=ZU s.pr hx.bd (i:=i) hi;have bx:=hx.bd i hltO;have ha:=at_eq hltO;have hax:=at_eq hlt;have hm:numF O x i*O[i] + x[i]=numF O x (i+1):=by rw [numF,ha,hax]
 rw [hax]at bx
 rw [ha]at bx
 have hm0:0≤numF O x i*O[i]:=by
  have:=(s.pr i hltO).1
  rw [ha]at this
  exact Int.mul_nonneg hnb1.1 (by omega)
 have hw0:IntKind.i64.wrap (numF O x i*O[i])=numF O x i*O[i]:=wrap64 (by omega) (by omega)
 have hw:IntKind.i64.wrap (numF O x i*O[i] + x[i])=numF O x (i+1):=by rw [hm,wrap64 (by omega) (by omega)]
 simp only [pwA,seval,-iQ0,e0,hlt,hltO,gi hlt,gi hltO,qa,hw0,hw,wrapS hltO (by omega:O.length≤4611686018427387904)]
 exact⟨_,by omega,i+1,by omega,rfl,rfl⟩
end Go.Proofs
namespace Go.Grp
end Go.Grp
namespace Go.Proofs
open Go.Ab Go.Lie Go.Grp
variable {O x y:List Int} {P:List (List Int)} {C:List (List (List Int))} {L:List (List Int)}
theorem zBY (s:Shp O P C) (hx:gS O x) (hy:gS O y) (h:numF O x O.length=numF O y O.length):x=y:=by
 have key:∀i,i≤O.length→numF O x i=numF O y i→∀j,j<i→at_ x j=at_ y j:=by
  intro i
  induction i with
  | zero=>intro _ _ j hj;omega
  | succ i ih=>
   intro hi he j hj;have bx:=hx.bd i hi;have bY:=hy.bd i hi;simp only [numF]at he
   have e1:at_ x i=at_ y i:=by
    have h1:(numF O x i*at_ O i+at_ x i) % at_ O i=at_ x i:=by
     rw [Int.add_comm,Int.add_mul_emod_self_right,Int.emod_eq_of_lt bx.1 bx.2]
    have h2:(numF O y i*at_ O i+at_ y i) % at_ O i=at_ y i:=by
     rw [Int.add_comm,Int.add_mul_emod_self_right,Int.emod_eq_of_lt bY.1 bY.2]
    rw [←h1,←h2,he]
   rcases Nat.lt_or_ge j i with h|h
   ·refine ih (by omega) ?_ j h
    rw [e1]at he
    have h3:numF O x i*at_ O i=numF O y i*at_ O i:=by omega
    exact Int.eq_of_mul_eq_mul_right (by omega) h3
   ·have:j=i:=by omega
    rw [this];exact e1
 exact hx.ext hy fun j h1 h2=>key _ (Nat.le_refl _) h j h2
abbrev BS:=List (List Int)×List (List Int)
def vst (s:BS) (y w:List Int):BS:=if y∈s.1 then s else(s.1++[y],s.2++[w])
def nxt (O:List Int) (P:List (List Int)) (C:List (List (List Int))) (L:List (List Int)) (a w:List Int):Nat→BS→BS
 | 0,s=>s
 | j+1,s=>vst (nxt O P C L a w j s) (gm O P C a (L.getD j [])) (w++[(j:Int)+1])
def stt (O:List Int) (P:List (List Int)) (C:List (List (List Int))) (L:List (List Int)):Nat→BS
 | 0=>([zv O],[[]])
 | k+1=>nxt O P C L ((stt O P C L k).1.getD k []) ((stt O P C L k).2.getD k []) L.length (stt O P C L k)
structure OkS (O:List Int) (P:List (List Int)) (C:List (List (List Int))) (L:List (List Int)) (s:BS):Prop where
 len:s.2.length=s.1.length
 nd:s.1.Nodup
 mem:∀y∈s.1,GC O P C L y
 one:zv O∈s.1
 ws:∀i (h:i<s.2.length),s.2[i].length≤i
def PrS (s t:BS):Prop:=s.1 <+:t.1∧s.2 <+:t.2
theorem PrS.refl (s:BS):PrS s s:=⟨List.prefix_refl _,List.prefix_refl _⟩
theorem PrS.trans {s t u:BS} (a:PrS s t) (b:PrS t u):PrS s u:=⟨a.1.trans b.1,a.2.trans b.2⟩
theorem zIO (s:BS) (y w:List Int):PrS s (vst s y w):=by
 unfold vst;split
 ·exact PrS.refl s
 ·exact⟨List.prefix_append _ _,List.prefix_append _ _⟩
theorem zLf (s:BS) (y w:List Int):y∈(vst s y w).1:=by
 unfold vst;split
 ·assumption
 ·simp
theorem zB2 (a w:List Int) (s:BS):∀j,PrS s (nxt O P C L a w j s)
 | 0=>PrS.refl s
 | j+1=>(zB2 a w s j).trans (zIO _ _ _)
theorem zDZ:∀{k m:Nat},k≤m→PrS (stt O P C L k) (stt O P C L m)
 | k,0,h=>by
  have:k=0:=by omega
  subst this;exact PrS.refl _
 | k,m+1,h=>by
  rcases Nat.lt_or_ge k (m+1)with x|x
  ·exact(zDZ (by omega:k≤m)).trans (zB2 _ _ _ _)
  ·have:k=m+1:=by omega
   subst this;exact PrS.refl _
theorem zAM {α:Type} {a b:List α} (h:a <+:b) {i:Nat} {v:α} (hi:a[i]? = some v):b[i]? = some v:=by
 obtain⟨t,rfl⟩:=h;have hlt:i<a.length:=by
  rcases Nat.lt_or_ge i a.length with x|x
  ·exact x
  ·rw [List.getElem?_eq_none x]at hi;cases hi
 rw [List.getElem?_append_left hlt];exact hi
theorem OkS.vst {s:BS} (o:OkS O P C L s) {y w:List Int} (hy:GC O P C L y) (hw:w.length≤s.1.length):OkS O P C L (vst s y w):=by
 unfold Go.Proofs.vst
 split
 ·exact o
 ·rename_i hn
  refine⟨by simp [o.len],?_,fun z hz=>?_,List.mem_append_left _ o.one,fun i h=>?_⟩
  ·rw [List.nodup_append]
   exact⟨o.nd,by simp,fun a ha b hb e=>hn (by rw [←List.mem_singleton.1 hb,←e];exact ha)⟩
  ·rcases List.mem_append.1 hz with hz | hz
   ·exact o.mem z hz
   ·rw [List.mem_singleton.1 hz];exact hy
  ·simp only [List.length_append,List.length_cons,List.length_nil]at h
   rw [List.getElem_append]
   split
   ·exact o.ws i _
   ·have:i=s.2.length:=by omega
    subst this;simp only [Nat.sub_self,List.getElem_cons_zero,o.len];exact hw
theorem OkS.nxt {s:BS} (F:Full O P C O.length) (o:OkS O P C L s) (hL:∀l∈L,gS O l) {a w:List Int} (ha:GC O P C L a) (hw:w.length+1≤s.1.length):∀{j},j≤L.length→OkS O P C L (nxt O P C L a w j s)
 | 0,_=>o
 | j+1,hj=>by
  have hlt:j<L.length:=hj;refine(OkS.nxt F o hL ha hw (by omega:j≤L.length)).vst ?_ ?_
  ·have hl:L.getD j []∈L:=by
    rw [List.getD_eq_getElem?_getD,List.getElem?_eq_getElem hlt];exact List.getElem_mem hlt
   exact(GC.sub F hL).cl ha (GC.mem hl)
  ·rw [List.length_append,List.length_singleton]
   have:=(zB2 (O:=O) (P:=P) (C:=C) (L:=L) a w s j).1.length_le
   omega
theorem OkS.stt (s:Shp O P C) (F:Full O P C O.length) (hL:∀l∈L,gS O l):∀{k:Nat},(∀i,i<k→i<(stt O P C L i).1.length)→OkS O P C L (stt O P C L k)
 | 0,_=>⟨rfl,by simp [Go.Proofs.stt],fun y hy=>by rw [List.mem_singleton.1 hy];exact(GC.sub F hL).one,by simp [Go.Proofs.stt],fun i h=>by
   simp only [Go.Proofs.stt,List.length_cons,List.length_nil]at h
   have:i=0:=by omega
   subst this;simp [Go.Proofs.stt]⟩
 | k+1,hk=>by
  have o:=OkS.stt s F hL (k:=k) fun i hi=>hk i (by omega)
  have hlt:=hk k (by omega)
  have hl2:k<(Go.Proofs.stt O P C L k).2.length:=by rw [o.len];exact hlt
  refine o.nxt F hL ?_ ?_ (Nat.le_refl _)
  ·rw [List.getD_eq_getElem?_getD,List.getElem?_eq_getElem hlt];exact o.mem _ (List.getElem_mem hlt)
  ·rw [List.getD_eq_getElem?_getD,List.getElem?_eq_getElem hl2]
   have:=o.ws k hl2
   simp only [Option.getD_some];omega
theorem OkS.bound (s:Shp O P C) (F:Full O P C O.length) (hL:∀l∈L,gS O l) {t:BS} (o:OkS O P C L t):(t.1.length:Int)≤ordF O O.length:=by
 have inS:∀y∈t.1,gS O y:=fun y hy=>(GC.sub F hL).inS (o.mem y hy)
 have hb:∀y∈t.1,0≤numF O y O.length∧numF O y O.length<ordF O O.length:=fun y hy=>ZU s.pr (fun j hj=>(inS y hy).bd j hj) (Nat.le_refl _)
 have h1:(t.1.map fun y=>(numF O y O.length).toNat).Nodup:=by
  rw [List.Nodup,List.pairwise_map];refine o.nd.imp_of_mem fun {a b} ha hb' hne he=>hne (zBY s (inS a ha) (inS b hb') ?_)
  have:=hb a ha
  have:=hb b hb'
  omega
 have h2:(t.1.map fun y=>(numF O y O.length).toNat)⊆List.range (ordF O O.length).toNat:=fun k hk=>by
  obtain⟨y,hy,rfl⟩:=List.mem_map.1 hk
  have:=hb y hy
  exact List.mem_range.2 (by omega)
 have h3:=List.Nodup.length_le_of_subset h1 h2;rw [List.length_map,List.length_range]at h3
 have:=(Zp s.pr (Nat.le_refl _)).1
 omega
end Go.Proofs
namespace Go.Grp
end Go.Grp
namespace Go.Proofs
open Go.Ab Go.Lie Go.Grp
variable {O x y:List Int} {P:List (List Int)} {C:List (List (List Int))} {L:List (List Int)}
theorem zG5 (a w:List Int) (s:BS):∀{j m:Nat},m<j→gm O P C a (L.getD m [])∈(nxt O P C L a w j s).1
 | j+1,m,h=>by
  rcases Nat.lt_or_ge m j with x|x
  ·exact(zIO _ _ _).1.subset (zG5 a w s x)
  ·have:m=j:=by omega
   subst this;exact zLf _ _ _
theorem zKA {k:Nat} (hk:∀i,i<k→i<(stt O P C L i).1.length) (he:(stt O P C L k).1.length≤k) {y g:List Int} (hy:y∈(stt O P C L k).1) (hg:g∈L):gm O P C y g∈(stt O P C L k).1:=by
 obtain⟨i,hi,rfl⟩:=List.mem_iff_getElem.1 hy;obtain⟨j,hj,rfl⟩:=List.mem_iff_getElem.1 hg;have hik:i<k:=by omega
 have hlt:=hk i hik;have e:(stt O P C L i).1.getD i []=(stt O P C L k).1[i]:=by
  have:=zAM (zDZ (O:=O) (P:=P) (C:=C) (L:=L) (Nat.le_of_lt hik)).1 (List.getElem?_eq_getElem hlt)
  rw [List.getElem?_eq_getElem hi]at this
  rw [List.getD_eq_getElem?_getD,List.getElem?_eq_getElem hlt,Option.getD_some];exact(Option.some.inj this).symm
 have h1:gm O P C ((stt O P C L i).1.getD i []) (L.getD j [])∈(stt O P C L (i+1)).1:=zG5 _ _ _ hj;have h2:=(zDZ (O:=O) (P:=P) (C:=C) (L:=L) (show i+1≤k by omega)).1.subset h1
 rw [e,List.getD_eq_getElem?_getD,List.getElem?_eq_getElem hj]at h2
 exact h2
theorem zLt (s:Shp O P C) (F:Full O P C O.length) (hC:Cent O C) (hL:∀l∈L,gS O l) {k:Nat} (hk:∀i,i<k→i<(stt O P C L i).1.length) (he:(stt O P C L k).1.length≤k) (hx:GC O P C L x):x∈(stt O P C L k).1:=by
 have o:=OkS.stt s F hL hk;have G:=F.g;have inS:∀y∈(stt O P C L k).1,gS O y:=fun y hy=>(GC.sub F hL).inS (o.mem y hy)
 have hN:=zAC (O:=O) (P:=P) (C:=C) s F hC (N:=fun y=>gS O y∧∀z∈(stt O P C L k).1,gm O P C z y∈(stt O P C L k).1) (fun y hy=>hy.1) ⟨s.zv _,fun z hz=>by rw [G.r1 (inS z hz)];exact hz⟩ (fun a b ha hb=>⟨G.cl ha.1 hb.1,fun z hz=>by
  rw [←G.as (inS z hz) ha.1 hb.1];exact hb.2 _ (ha.2 z hz)⟩)
 have:=(hx _ hN fun l hl=>⟨hL l hl,fun z hz=>zKA hk he hz hl⟩).2 _ o.one
 rwa [G.l1 ((GC.sub F hL).inS hx)]at this
structure Fnd (O:List Int) (P:List (List Int)) (C:List (List (List Int))) (L:List (List Int)) (x:List Int) (k:Nat):Prop where
 hit:(stt O P C L k).1[k]? = some x
 miss:∀i,i<k→(stt O P C L i).1[i]?≠some x
 lt:∀i,i<k→i<(stt O P C L i).1.length
theorem Fnd.unique {k m:Nat} (a:Fnd O P C L x k) (b:Fnd O P C L x m):k=m:=by
 rcases Nat.lt_trichotomy k m with h|h|h
 ·exact absurd a.hit (b.miss k h)
 ·exact h
 ·exact absurd b.hit (a.miss m h)
theorem Fnd.mem (s:Shp O P C) (F:Full O P C O.length) (hL:∀l∈L,gS O l) {k:Nat} (a:Fnd O P C L x k):GC O P C L x:=by
 have h:=a.hit;have hlt:k<(stt O P C L k).1.length:=by
  rcases Nat.lt_or_ge k (stt O P C L k).1.length with x|x
  ·exact x
  ·rw [List.getElem?_eq_none x]at h;cases h
 rw [List.getElem?_eq_getElem hlt]at h
 cases h;exact(OkS.stt s F hL a.lt).mem _ (List.getElem_mem hlt)
theorem zEW (s:Shp O P C) (F:Full O P C O.length) (hC:Cent O C) (hL:∀l∈L,gS O l) {k:Nat} (hk:∀i,i<k→i<(stt O P C L i).1.length) (hm:∀i,i<k→(stt O P C L i).1[i]?≠some x) (he:(stt O P C L k).1.length≤k):¬GC O P C L x:=fun hx=>by
 have h:=zLt s F hC hL hk he hx;obtain⟨i,hi,rfl⟩:=List.mem_iff_getElem.1 h;have hik:i<k:=by omega
 refine hm i hik ?_;have hlt:=hk i hik
 have:=zAM (zDZ (O:=O) (P:=P) (C:=C) (L:=L) (Nat.le_of_lt hik)).1 (List.getElem?_eq_getElem hlt)
 rw [List.getElem?_eq_getElem hi]at this
 rw [List.getElem?_eq_getElem hlt,this]
end Go.Proofs
namespace Go.Grp
open Go.Ab Go.Lie
variable {O:List Int} {P:List (List Int)} {C:List (List (List Int))} {x y z a b c g:List Int} {D:List (Option (List Int))} {t i k d:Nat} {N:List Int→Prop}
theorem Gp.pw_inv' {α:Type} [Inhabited α] {S:α→Prop} {m:α→α→α} {e z:α} (G:Gp S m e) (hz:S z) (k:Nat):Grp.pw m e (ginv S m e z) k=ginv S m e (Grp.pw m e z k):=by
 have iz:=(G.inv_in hz).1;refine G.inv_eq (G.pw hz k) (G.pw iz k) ?_
 induction k with
 | zero=>exact G.l1 G.one
 | succ k ih=>
  show m (m (Grp.pw m e z k) z) (m (Grp.pw m e (ginv S m e z) k) (ginv S m e z))=e;rw [G.pw_comm iz k,←G.as (G.cl (G.pw hz k) hz) iz (G.pw iz k),G.as (G.pw hz k) hz iz,G.inv_r hz,G.r1 (G.pw hz k),ih]
section
variable (s:Shp O P C) (F:Full O P C O.length) (hC:Cent O C)
include s F hC
theorem zBK (ht:t<O.length) (hx:gS O x) (hb:TT O t b) (hb1:at_ b t=1):
  gS O (gm O P C x (pw (gm O P C) (zv O) (ginv (gS O) (gm O P C) (zv O) b) (at_ x t).toNat))∧gm O P C (gm O P C x (pw (gm O P C) (zv O) (ginv (gS O) (gm O P C) (zv O) b) (at_ x t).toNat)) (pw (gm O P C) (zv O) b (at_ x t).toNat)=x∧
  Upto O t (gm O P C x (pw (gm O P C) (zv O) (ginv (gS O) (gm O P C) (zv O) b) (at_ x t).toNat)) x∧at_ (gm O P C x (pw (gm O P C) (zv O) (ginv (gS O) (gm O P C) (zv O) b) (at_ x t).toNat)) t=0:=by
 have G:=F.g;have bS:gS O b:=hb.mono (Nat.zero_le _);have ib:=(G.inv_in bS).1;have bx:=hx.bd t ht;have pS:=G.pw bS (at_ x t).toNat;have qS:=G.pw ib (at_ x t).toNat;have hw:=G.cl hx qS;have e:gm O P C (gm O P C x (pw (gm O P C) (zv O) (ginv (gS O) (gm O P C) (zv O) b) (at_ x t).toNat)) (pw (gm O P C) (zv O) b (at_ x t).toNat)=x:=by
  rw [G.as hx qS pS,G.pw_inv' bS,G.inv_l pS,G.r1 hx]
 obtain⟨p1,p2⟩:=zA4 s F hC ht hb (at_ x t).toNat;refine⟨hw,e,?_,?_⟩<;>generalize gm O P C x (pw (gm O P C) (zv O) (ginv (gS O) (gm O P C) (zv O) b) (at_ x t).toNat)=w at *
 ·obtain⟨g1,g2⟩:=Zw s (d:=O.length) (b:=w) (a:=pw (gm O P C) (zv O) b (at_ x t).toNat) (t:=t) (Nat.le_refl _) (by omega) ht (by rw [Nat.sub_self];exact hw) p1
  have e':mu O P C O.length w (pw (gm O P C) (zv O) b (at_ x t).toNat)=x:=e;rw [e']at g1
  exact fun j hj=>(g1 j hj).symm
 ·obtain⟨g1,g2⟩:=Zw s (d:=O.length) (b:=w) (a:=pw (gm O P C) (zv O) b (at_ x t).toNat) (t:=t) (Nat.le_refl _) (by omega) ht (by rw [Nat.sub_self];exact hw) p1
  have e':mu O P C O.length w (pw (gm O P C) (zv O) b (at_ x t).toNat)=x:=e;rw [e',p2,hb1,Int.mul_one,Int.toNat_of_nonneg bx.1,Int.emod_eq_of_lt bx.1 bx.2,zJy]at g2
  exact zF3 bx (hw.bd t ht) g2.symm
end
end Go.Grp
namespace Go.Proofs
open Go.Ab
def if5:IFn:=⟨[0,1,2],[(.tmp 6)],(S0 (R0 [1,2,3] [eI 3 (.box (.t 0)),tI0 6 false])
 (S0 (.seq (R0 [1,2,3,22] [mI0 20 2,sI0 21 20,cI0 22 .gtr 21 1048576])
 (.cond (.t 22) (S0 (R0 [6] [tI0 6 true])
 .ret) .skip))
 (S0 (R0 [1,2,3,7] [kI0 7 1048576])
 (S0 (R0 [1,2,3,7] [LI0 23 3,mI0 24 7,C2 25 6 23 24,mI0 7 25])
 (S0 (.seq (R0 [1,2,3,7,27] [mI0 26 7,cI0 27 .lss 26 0])
 (.cond (.t 27) (S0 (R0 [6] [tI0 6 true])
 .ret) .skip))
 (S0 (R0 [1,2,3,7] [mI0 28 1,mI0 29 7,C2 30 20 28 29,mI0 7 30])
 (S0 (.seq (R0 [1,2,3,32] [mI0 31 7,cI0 32 .lss 31 0])
 (.cond (.t 32) (S0 (R0 [6] [tI0 6 true])
 .ret) .skip))
 (S0 (R0 [1,2,3,8,9] [LI0 34 3,C1 35 8 34,mI0 36 1,C1 37 22 36,mI0 38 2,C1 39 23 38,C3 40 21 35 37 39,mI0 33 40,eI0 41 33 0,eI0 42 33 1,eI 8 (.alloc [(.int .i64 0),.nils,.nils]),vI0 3 8 41,mI0 9 42])
 (S0 (R0 [1,2,3,8,9,10] [LI0 43 3,C1 44 8 43,eI 10 (.alloc [.nils,.nils,.nils]),vI0 3 10 44])
 (S0 (R0 [1,2,3,8,9,10,11] [mI0 45 1,C1 46 22 45,mI0 11 46])
 (S0 (R0 [1,2,3,8,9,10,11,12] [mI0 47 2,C1 48 23 47,mI0 12 48])
 (S0 (R0 [1,2,3,8,9,10,11,12,13,14] [LI0 50 10,mI0 51 11,mI0 52 12,C3 53 24 50 51 52,mI0 49 53,eI0 54 49 0,eI0 55 49 1,eI 13 (.alloc [(.int .i64 0),.nils,.nils]),vI0 3 13 54,mI0 14 55])
 (S0 (.seq (R0 [1,2,3,8,9,10,11,12,13,14,64] [LI0 56 13,LI0 57 8,C2 58 10 56 57,nI0 59 58,mI0 60 59,gm0 61 14 60 false,gm0 62 9 60 false,G0 63 (.bin .neq .other (.t 61) (.t 62)) true 60 false,oI0 64 60 63])
 (.cond (.t 64) (S0 (R0 [6] [tI0 6 false])
 .ret) .skip))
 (S0 (.seq (.draw [1,2,3,8,9,10,11,12,13,14,69] [] [qD 65 (.load true 3 (.t 10)) 0,qD 66 (.load true 3 (.t 3)) 1,eD 67 (.call 8 [(.t 66)]) 2 [0],eD 68 (.call 11 [(.t 65),(.t 67)]) 3 [],qD 69 (.un .not (.t 68)) 4])
 (.cond (.t 69) (S0 (R0 [6] [tI0 6 false])
 .ret) .skip))
 (S0 (.seq (R0 [1,2,3,8,9,10,11,12,13,14,74] [mI0 70 11,mI0 71 1,C1 72 22 71,C2 73 25 70 72,nI0 74 73])
 (.cond (.t 74) (S0 (R0 [6] [tI0 6 false])
 .ret) .skip))
 (S0 (.seq (R0 [1,2,3,8,9,10,11,12,13,14,79] [mI0 75 12,mI0 76 2,C1 77 23 76,C2 78 26 75 77,nI0 79 78])
 (.cond (.t 79) (S0 (R0 [6] [tI0 6 false])
 .ret) .skip))
 (S0 (R0 [1,2,3,8,9,10,11,12,13,14,15] [kI0 15 1])
 (S0 (R0 [1,2,3,8,9,11,12,13,14,15] [LI0 80 10,mI0 81 15,C2 82 12 80 81,mI0 15 82])
 (S0 (R0 [1,2,3,8,9,12,13,14,15] [mI0 83 11,mI0 84 15,C2 85 27 83 84,mI0 15 85])
 (S0 (R0 [1,2,3,8,9,13,14,15] [mI0 86 12,mI0 87 15,C2 88 28 86 87,mI0 15 88])
 (S0 (.seq (R0 [1,2,3,8,9,13,101] [mI0 89 15,cI0 90 .lss 89 0,mI0 91 90,G0 92 (.load true 3 (.t 13)) true 91 false,G0 93 (.load true 3 (.t 8)) true 91 false,G0 94 (.call 10 [(.t 92),(.t 93)]) false 91 false,G0 95 (.un .not (.t 94)) true 91 false,oI0 96 91 95,mI0 97 96,gm0 98 14 97 false,gm0 99 9 97 false,G0 100 (.bin .neq .other (.t 98) (.t 99)) true 97 false,oI0 101 97 100])
 (.cond (.t 101) (S0 (R0 [6] [tI0 6 false])
 .ret) .skip))
 (S0 (R0 [1,2,3,8,9,13,16] [kI0 16 1])
 (S0 (R0 [1,2,3,8,9,13,16] [LI0 102 13,mI0 103 16,C2 104 13 102 103,mI0 16 104])
 (S0 (R0 [1,2,3,8,9,13,16,17] [kI0 17 1])
 (S0 (R0 [1,2,3,8,9,13,16,17] [LI0 105 13,mI0 106 17,C2 107 14 105 106,mI0 17 107])
 (S0 (.seq (R0 [1,2,3,8,9,13,16,17,109] [mI0 108 17,cI0 109 .lss 108 0])
 (.cond (.t 109) (S0 (R0 [6] [tI0 6 false])
 .ret) .skip))
 (S0 (.seq (R0 [1,2,3,8,9,13,16,112] [mI0 110 17,mI0 111 16,bI0 112 .neq 110 111])
 (.cond (.t 112) (S0 (R0 [6] [tI0 6 false])
 .ret) .skip))
 (S0 (R0 [8,9,13,16,18,19] [LI0 114 3,C1 115 8 114,mI0 116 1,C1 117 22 116,mI0 118 2,C1 119 23 118,C3 120 24 115 117 119,mI0 113 120,eI0 121 113 0,eI0 122 113 1,eI 18 (.alloc [(.int .i64 0),.nils,.nils]),vI0 3 18 121,mI0 19 122])
 (S0 (.seq (R0 [13,16,131] [LI0 123 18,LI0 124 8,C2 125 10 123 124,nI0 126 125,mI0 127 126,gm0 128 19 127 false,gm0 129 9 127 false,G0 130 (.bin .neq .other (.t 128) (.t 129)) true 127 false,oI0 131 127 130])
 (.cond (.t 131) (S0 (R0 [6] [tI0 6 false])
 .ret) .skip))
 (S0 (R0 [13,16,17] [kI0 17 1])
 (S0 (R0 [16,17] [LI0 132 13,mI0 133 17,C2 134 14 132 133,mI0 17 134])
 (S0 (.seq (R0 [16,17,136] [mI0 135 17,cI0 136 .lss 135 0])
 (.cond (.t 136) (S0 (R0 [6] [tI0 6 false])
 .ret) .skip))
 (S0 (.seq (R0 [139] [mI0 137 17,mI0 138 16,bI0 139 .neq 137 138])
 (.cond (.t 139) (S0 (R0 [6] [tI0 6 false])
 .ret) .skip))
 (S0 (R0 [6] [tI0 6 true])
 .ret))))))))))))))))))))))))))))))))))⟩
theorem cf5:cF Try.prog Try.f5=some if5:=by kernel_rfl
end Go.Proofs
