/- What a law is handed, laid as frozen values: Lie rings, lists of elements. -/
import Derived.Test.YtfoidnlodahfjaaGreatAP29
import Derived.Test.YtfoidnlodahfjaaGreatAAbPz
import Derived.Test.YtfoidnlodahfjaaGreatAP31
import Derived.Test.YtfoidnlodahfjaaGreatAP28
import Derived.Test.YtfoidnlodahfjaaGreatAAbPt
import Derived.Test.YtfoidnlodahfjaaGreatChecked
import Derived.Test.YtfoidnlodahfjaaGreatRows
import Derived.Lib.SmallJoins
import Derived.WalkKit
import Derived.ProofKit
open Int renaming reduceNatCast'→iQ0
set_option maxRecDepth 100000
namespace Go.Grp
end Go.Grp
set_option linter.unusedSimpArgs false
set_option linter.unusedVariables false
namespace Go.Proofs
open Go.Ab Go.Lie Go.Grp
variable {σ:PHeap} {K:PV→PHeap→Prop} {O:List Int} {P:List (List Int)} {C:List (List (List Int))} {vO vP vC vx vy vL:PV} {x y f a b:List Int} {L:List (List Int)} {rP rC:List PV} {d j sp:Nat}
theorem zLp (hx:x.length=O.length):isZ x↔x=zv O:=by
 constructor
 ·intro h
  refine zAq (by simp [hx]) fun j hj=>?_
  rw [at_eq hj,qo];exact h _ (List.getElem_mem hj)
 ·rintro rfl y hy
  exact List.eq_of_mem_replicate hy
end Go.Proofs
set_option linter.unusedSectionVars false
namespace Go.Grp
open Go.Ab Go.Lie
variable {O:List Int} {P:List (List Int)} {C:List (List (List Int))} {x y z a b c g:List Int} {D:List (Option (List Int))} {t i k d:Nat} {N:List Int→Prop}
theorem Zn (hx:gS O x):TT O (dep x) x:=⟨hx.len,hx.bd,fun j hj=>qU hj⟩
theorem dep_ge (hx:TT O t x) (ht:t≤O.length):t≤dep x:=by
 rcases Nat.lt_or_ge (dep x) t with h|h
 ·have hl:=hx.len
  exact absurd (hx.zero _ h) (Zd (by omega))
 ·exact h
theorem zBw (hx:gS O x) (h:O.length≤dep x):x=zv O:=by
 refine zAq (by rw [hx.len];simp) fun j hj=>?_
 rw [qo];exact qU (by have:=hx.len;omega)
theorem zH3 (s:Shp O P C):dep (zv O)=O.length:=by
 have h1:=dep_ge (t:=O.length) (s.zv _) (Nat.le_refl _);have h2:=Q9 (zv O);rw [(s.zv 0).len]at h2
 omega
theorem zBG {o a b:Int} (ha:0≤a∧a<o) (hb:0≤b∧b<o):addm o a b=(a+b) % o:=by
 unfold addm
 split
 ·have:(a+b) % o=(a+b-o) % o:=by rw [Int.sub_emod_right]
  rw [this,Int.emod_eq_of_lt (by omega) (by omega)]
 ·rw [Int.emod_eq_of_lt (by omega) (by omega)]
section
variable (s:Shp O P C) (F:Full O P C O.length) (hC:Cent O C)
include s F hC
theorem QG (ht:t<O.length) (hx:TT O t x):∀k:Nat,TT O t (pw (gm O P C) (zv O) x k)∧at_ (pw (gm O P C) (zv O) x k) t=((k:Int)*at_ x t) % at_ O t
 | 0=>⟨s.zv _,by show at_ (zv O) t=_;rw [qo];simp⟩
 | k+1=>by
  obtain⟨h1,h2⟩:=QG ht hx k;have hO:=s.pr t ht;obtain⟨_,g2⟩:=qm s (d:=O.length) (b:=pw (gm O P C) (zv O) x k) (a:=x) (t:=t) (Nat.le_refl _) (by omega) ht (by rw [Nat.sub_self];exact h1.mono (Nat.zero_le _)) hx
  refine⟨tt_cl s F hC (Nat.le_of_lt ht) h1 hx,?_⟩;show at_ (mu O P C O.length (pw (gm O P C) (zv O) x k) x) t=_;rw [g2,zBG (h1.bd t ht) (hx.bd t ht),h2,Int.emod_add_emod]
  congr 1
  grind
theorem zDz (ht:t<O.length) (hx:TT O t x) (hb:TT O t b) (hb1:at_ b t=1):TT O (t+1) (gm O P C (pw (gm O P C) (zv O) b (at_ O t-at_ x t).toNat) x):=by
 obtain⟨h1,h2⟩:=QG s F hC ht hb (at_ O t-at_ x t).toNat;have bx:=hx.bd t ht;obtain⟨_,g2⟩:=qm s (d:=O.length) (b:=pw (gm O P C) (zv O) b (at_ O t-at_ x t).toNat) (a:=x) (t:=t) (Nat.le_refl _) (by omega) ht (by rw [Nat.sub_self];exact h1.mono (Nat.zero_le _)) hx
 have h0:=tt_cl s F hC (Nat.le_of_lt ht) h1 hx;have hz:at_ (gm O P C (pw (gm O P C) (zv O) b (at_ O t-at_ x t).toNat) x) t=0:=by
  show at_ (mu O P C O.length _ _) t=0;rw [g2,zBG (h1.bd t ht) bx,h2,hb1,Int.mul_one,Int.emod_add_emod,Int.toNat_of_nonneg (by omega),show at_ O t-at_ x t+at_ x t=at_ O t by omega,Int.emod_self]
 refine⟨h0.len,h0.bd,fun j hj=>?_⟩
 rcases Nat.lt_or_ge j t with h|h
 ·exact h0.zero j h
 ·rw [show j=t by omega];exact hz
theorem zEj (ht:t<O.length) (hx:gS O x) (hb:TT O t b) (hb1:at_ b t=1):gS O (gm O P C x b)∧Upto O t (gm O P C x b) x∧at_ (gm O P C x b) t=(at_ x t+1) % at_ O t:=by
 obtain⟨g1,g2⟩:=qm s (d:=O.length) (b:=x) (a:=b) (t:=t) (Nat.le_refl _) (by omega) ht (by rw [Nat.sub_self];exact hx) hb
 refine⟨F.g.cl hx (hb.mono (Nat.zero_le _)),g1,?_⟩;show at_ (mu O P C O.length x b) t=_;rw [g2,zBG (hx.bd t ht) (hb.bd t ht),hb1]
end
structure OkD (O:List Int) (D:List (Option (List Int))):Prop where
 len:D.length=O.length
 row:∀(d:Nat) (y:List Int),D[d]? = some (some y)→TT O d y∧at_ y d=1
def InD (N:List Int→Prop) (D:List (Option (List Int))):Prop:=∀(d:Nat) (y:List Int),D[d]? = some (some y)→N y
def free:List (Option (List Int))→Nat
 | []=>0
 | none::D=>free D+1
 | some _::D=>free D
theorem Qu:∀D,free D≤D.length
 | []=>Nat.le_refl _
 | none::D=>by have:=Qu D;simp only [free,List.length_cons];omega
 | some _::D=>by have:=Qu D;simp only [free,List.length_cons];omega
theorem zCt {y:List Int}:∀{D:List (Option (List Int))} {d:Nat},D[d]? = some none→free (D.set d (some y))+1=free D
 | [],d,h=>by simp at h
 | v::D,0,h=>by
  simp only [List.getElem?_cons_zero,Option.some.injEq]at h
  subst h;rfl
 | v::D,d+1,h=>by
  have:=zCt (y:=y) (D:=D) (d:=d) (by simpa using h)
  cases v<;>simp only [List.set_cons_succ,free]<;>omega
theorem OkD.put (h:OkD O D) (hd:d<O.length) (hy:TT O d y) (h1:at_ y d=1):OkD O (D.set d (some y)):=by
 refine⟨by rw [List.length_set];exact h.len,fun e v hv=>?_⟩
 rw [List.getElem?_set]at hv
 split at hv
 ·rename_i he;subst he
  split at hv
  ·cases hv;exact⟨hy,h1⟩
  ·cases hv
 ·exact h.row e v hv
theorem InD.put (hd:D[d]? = some none):InD N (D.set d (some y))↔InD N D∧N y:=by
  have hl:d<D.length:=by
    rcases Nat.lt_or_ge d D.length with h|h
    · exact h
    · rw [List.getElem?_eq_none h]at hd;cases hd
  constructor
  · intro h
    refine⟨fun e v hv=>h e v ?_,h d y ?_⟩
    · rw [List.getElem?_set,if_neg fun he=>by subst he;rw [hd]at hv;cases hv];exact hv
    · rw [List.getElem?_set,if_pos rfl,if_pos hl]
  · rintro ⟨h1,h2⟩ e v hv
    rw [List.getElem?_set]at hv
    split at hv
    · rename_i he;subst he
      first
      | (cases hv;exact h2)
      | (split at hv
         · cases hv;exact h2
         · cases hv)
    · exact h1 e v hv
theorem OkD.start (n:Nat) (hn:n=O.length):OkD O (List.replicate n none):=⟨by simp [hn],fun d y h=>by
 rw [List.getElem?_replicate]at h
 split at h<;>cases h⟩
theorem InD.start (n:Nat):InD N (List.replicate n none):=fun d y h=>by
 rw [List.getElem?_replicate]at h
 split at h<;>cases h
end Go.Grp
namespace Go.Grp
open Go.Ab Go.Lie
variable {O:List Int} {P:List (List Int)} {C:List (List (List Int))} {x y z a b c g w w':List Int} {t i k d:Nat} {N:List Int→Prop}
section
variable {α:Type} {S:α→Prop} {m:α→α→α} {e:α}
theorem Mon.pw_e (M:Mon S m e):∀k,Grp.pw m e e k=e
 | 0=>rfl
 | k+1=>by
  show m (Grp.pw m e e k) e=e;rw [M.pw_e k];exact M.l1 M.one
theorem Mon.pw_mul (M:Mon S m e) {x:α} (hx:S x) (a:Nat):∀b,Grp.pw m e x (a*b)=Grp.pw m e (Grp.pw m e x a) b
 | 0=>rfl
 | b+1=>by
  rw [Nat.mul_succ,M.pw_add hx,M.pw_mul hx a b];rfl
end
def Rt (O:List Int) (P:List (List Int)) (C:List (List (List Int))) (z:List Int) (c:Int) (w:List Int):Prop:=
 (z=zv O∧w=zv O)∨(z≠zv O∧∃j y n:Nat,(n:Int)=at_ O 0 ^ j∧Grp.pw (gm O P C) (zv O) z n=zv O∧(c*y) % n=1 % n∧w=Grp.pw (gm O P C) (zv O) z y)
section
variable (s:Shp O P C) (F:Full O P C O.length) (hC:Cent O C)
include s F hC
theorem zGk (ht:t<O.length) (hx:TT O t x):TT O (t+1) (Grp.pw (gm O P C) (zv O) x (at_ O t).toNat):=by
 obtain⟨h1,h2⟩:=QG s F hC ht hx (at_ O t).toNat;refine⟨h1.len,h1.bd,fun j hj=>?_⟩
 rcases Nat.lt_or_ge j t with h|h
 ·exact h1.zero j h
 ·rw [show j=t by omega,h2,Int.toNat_of_nonneg (by have:=s.pr t ht;omega),Int.mul_emod_right]
omit hC in
end
end Go.Grp
namespace Go.Grp
open Go.Ab Go.Lie
section
variable {α:Type} [Inhabited α] {S:α→Prop} {m:α→α→α} {e:α} {x y a:α} {N:α→Prop}
structure GSub (S:α→Prop) (m:α→α→α) (e:α) (N:α→Prop):Prop where
 inS:∀{x},N x→S x
 one:N e
 cl:∀{x y},N x→N y→N (m x y)
 inv:∀{x},N x→N (ginv S m e x)
theorem Gp.wholeB (G:Gp S m e):GSub S m e S:=⟨id,G.one,fun a b=>G.cl a b,fun a=>(G.inv_in a).1⟩
theorem GSub.com_in (h:GSub S m e N) (hx:N x) (hy:N y):N (com S m e x y):=h.cl (h.inv hx) (h.cl (h.inv hy) (h.cl hx hy))
theorem GSub.quot (G:Gp S m e) (h:GSub S m e N) (ha:N a) (hx:S x) (hn:N (m a x)):N x:=by
 have h1:=h.cl (h.inv ha) hn
 rwa [←G.as (h.inS (h.inv ha)) (h.inS ha) hx,G.inv_l (h.inS ha),G.l1 hx]at h1
theorem GSub.quotR (G:Gp S m e) (h:GSub S m e N) (ha:N a) (hx:S x) (hn:N (m x a)):N x:=by
 have h1:=h.cl hn (h.inv ha)
 rwa [G.as hx (h.inS ha) (h.inS (h.inv ha)),G.inv_r (h.inS ha),G.r1 hx]at h1
theorem GSub.pw (h:GSub S m e N) (hx:N x):∀k,N (Grp.pw m e x k)
 | 0=>h.one
 | k+1=>h.cl (h.pw hx k) hx
theorem Gp.com_swap' (G:Gp S m e) (hx:S x) (hy:S y):com S m e y x=ginv S m e (com S m e x y):=by
 have h1:=G.com_spec hx hy;have h2:=G.com_spec hy hx;have c1:=G.com_in hx hy;have c2:=G.com_in hy hx;refine G.inv_eq c1 c2 ?_;refine G.cancel (G.cl hy hx) (G.cl c1 c2) G.one ?_;rw [←G.as (G.cl hy hx) c1 c2,h1,h2,G.r1 (G.cl hy hx)]
end
variable {O:List Int} {P:List (List Int)} {C:List (List (List Int))} {x y z a b c g:List Int} {D D':List (Option (List Int))} {t i k d:Nat} {N H:List Int→Prop} {L u u' Q:List (List Int)}
abbrev gB (O:List Int) (P:List (List Int)) (C:List (List (List Int))) (N:List Int→Prop):Prop:=GSub (gS O) (gm O P C) (zv O) N
inductive Rdu (O:List Int) (P:List (List Int)) (C:List (List (List Int))) (D:List (Option (List Int))):List Int→List Int→Prop where
 | refl (x:List Int):Rdu O P C D x x
 | left {d j:Nat} {b x x' z:List Int} (hd:d<O.length) (hb:D[d]? = some (some b)) (hx:TT O d x) (h0:at_ x d≠0) (hx':TT O (d+1) x') (e:x=gm O P C (pw (gm O P C) (zv O) b j) x') (r:Rdu O P C D x' z):Rdu O P C D x z
 | right {d j:Nat} {b x x' z:List Int} (hd:d<O.length) (hb:D[d]? = some (some b)) (hx:TT O d x) (h0:at_ x d≠0) (hx':TT O (d+1) x') (e:x=gm O P C x' (pw (gm O P C) (zv O) b j)) (r:Rdu O P C D x' z):Rdu O P C D x z
theorem Rdu.trans (h:Rdu O P C D x y) (g:Rdu O P C D y z):Rdu O P C D x z:=by
 induction h with
 | refl x=>exact g
 | left hd hb hx h0 hx' e r ih=>exact .left hd hb hx h0 hx' e (ih g)
 | right hd hb hx h0 hx' e r ih=>exact .right hd hb hx h0 hx' e (ih g)
def Sup (D D':List (Option (List Int))):Prop:=∀(d:Nat) (b:List Int),D[d]? = some (some b)→D'[d]? = some (some b)
theorem Rdu.mono (h:Rdu O P C D x z) (s:Sup D D'):Rdu O P C D' x z:=by
 induction h with
 | refl x=>exact .refl x
 | left hd hb hx h0 hx' e r ih=>exact .left hd (s _ _ hb) hx h0 hx' e ih
 | right hd hb hx h0 hx' e r ih=>exact .right hd (s _ _ hb) hx h0 hx' e ih
theorem Rdu.iff (F:Full O P C O.length) (hN:gB O P C N) (hD:InD N D) (h:Rdu O P C D x z):N x↔N z:=by
 have G:=F.g
 induction h with
 | refl x=>exact Iff.rfl
 | left hd hb hx h0 hx' e r ih=>
  refine Iff.trans ?_ ih;rw [e];exact⟨fun h=>hN.quot G (hN.pw (hD _ _ hb) _) (hx'.mono (Nat.zero_le _)) h,fun h=>hN.cl (hN.pw (hD _ _ hb) _) h⟩
 | right hd hb hx h0 hx' e r ih=>
  refine Iff.trans ?_ ih;rw [e];exact⟨fun h=>hN.quotR G (hN.pw (hD _ _ hb) _) (hx'.mono (Nat.zero_le _)) h,fun h=>hN.cl h (hN.pw (hD _ _ hb) _)⟩
theorem Sup.put (hd:D[d]? = some none):Sup D (D.set d (some y)):=fun e b hb=>by
 rw [List.getElem?_set]
 split
 ·rename_i h;rw [←h,hd]at hb;cases hb
 ·exact hb
def RQ (O:List Int) (P:List (List Int)) (C:List (List (List Int))) (D:List (Option (List Int))) (Q:List (List Int)) (x:List Int):Prop:=∃z,Rdu O P C D x z∧(z=zv O∨z∈Q)
structure QI (O:List Int) (P:List (List Int)) (C:List (List (List Int))) (D:List (Option (List Int))) (Q:List (List Int)):Prop where
 pow:∀(d:Nat) (b:List Int),D[d]? = some (some b)→RQ O P C D Q (pw (gm O P C) (zv O) b (at_ O d).toNat)
 com:∀(d e:Nat) (b c:List Int),d≠e→D[d]? = some (some b)→D[e]? = some (some c)→RQ O P C D Q (gcom O P C b c)∨RQ O P C D Q (gcom O P C c b)
theorem RQ.step {Q':List (List Int)} (h:RQ O P C D (x::Q) y) (s:Sup D D') (hx:Rdu O P C D x z) (hz:z=zv O∨z∈Q') (hQ:∀q∈Q,q∈Q'):RQ O P C D' Q' y:=by
 obtain⟨w,h1,h2⟩:=h;rcases h2 with rfl|h2
 ·exact⟨_,h1.mono s,.inl rfl⟩
 ·rcases List.mem_cons.1 h2 with rfl | h2
  ·exact⟨z,(h1.trans hx).mono s,hz⟩
  ·exact⟨w,h1.mono s,.inr (hQ w h2)⟩
theorem zCm {n d:Nat} {b:List Int} (h:(List.replicate n (none:Option (List Int)))[d]? = some (some b)):False:=by
 rw [List.getElem?_replicate]at h
 split at h<;>cases h
theorem QI.start (n:Nat):QI O P C (List.replicate n none) Q:=⟨fun d b h=>(zCm h).elim,fun d e b c _ h _=>(zCm h).elim⟩
theorem QI.mem {Q':List (List Int)} (h:QI O P C D Q) (hQ:∀q∈Q,q∈Q'):QI O P C D Q':=
 have r:∀{x},RQ O P C D Q x→RQ O P C D Q' x:=fun⟨z,h1,h2⟩=>⟨z,h1,h2.imp id (hQ z)⟩
 ⟨fun d b hb=>r (h.pow d b hb),fun d e b c hne hb hc=>(h.com d e b c hne hb hc).imp r r⟩
theorem QI.drop (h:QI O P C D (x::Q)) (hx:Rdu O P C D x (zv O)):QI O P C D Q:=
 have r:∀{y},RQ O P C D (x::Q) y→RQ O P C D Q y:=fun h=>h.step (fun d b hb=>hb) hx (.inl rfl) fun q hq=>hq
 ⟨fun d b hb=>r (h.pow d b hb),fun d e b c hne hb hc=>(h.com d e b c hne hb hc).imp r r⟩
theorem QI.put {Q':List (List Int)} (h:QI O P C D (x::Q)) (hx:Rdu O P C D x z) (hd:D[d]? = some none) (hz:z∈Q') (hQ:∀q∈Q,q∈Q') (hp:pw (gm O P C) (zv O) y (at_ O d).toNat∈Q') (hc:∀(e:Nat) (b:List Int),D[e]? = some (some b)→gcom O P C b y∈Q'∨gcom O P C y b∈Q'):QI O P C (D.set d (some y)) Q':=by
  have hl:d<D.length:=by
    rcases Nat.lt_or_ge d D.length with h|h
    · exact h
    · rw [List.getElem?_eq_none h]at hd;cases hd
  have s:Sup D (D.set d (some y)):=Sup.put hd;have r:∀{w},RQ O P C D (x::Q) w→RQ O P C (D.set d (some y)) Q' w:=fun h=>h.step s hx (.inr hz) hQ
  have ge:∀(e:Nat) (b:List Int),(D.set d (some y))[e]? = some (some b)→(e=d∧b=y)∨(e≠d∧D[e]? = some (some b)):=fun e b hb=>by
    rw [List.getElem?_set]at hb
    split at hb
    · rename_i he
      subst he
      first
      | (cases hb;exact .inl ⟨rfl,rfl⟩)
      | (split at hb
         · cases hb;exact .inl ⟨rfl,rfl⟩
         · cases hb)
    · rename_i he;exact .inr ⟨fun h=>he h.symm,hb⟩
  refine⟨fun e b hb=>?_,fun e e' b c hne hb hc'=>?_⟩
  · rcases ge e b hb with ⟨k1,k2⟩ | ⟨_,hb2⟩
    · rw [k1,k2];exact⟨_,.refl _,.inr hp⟩
    · exact r (h.pow e b hb2)
  · rcases ge e b hb with ⟨k1,k2⟩ | ⟨h1,hb2⟩
    · rcases ge e' c hc' with ⟨l1,l2⟩ | ⟨h2,hc2⟩
      · omega
      · rw [k2]
        rcases hc e' c hc2 with h3|h3
        · exact .inr ⟨_,.refl _,.inr h3⟩
        · exact .inl ⟨_,.refl _,.inr h3⟩
    · rcases ge e' c hc' with ⟨l1,l2⟩ | ⟨h2,hc2⟩
      · rw [l2]
        rcases hc e b hb2 with h3|h3
        · exact .inl ⟨_,.refl _,.inr h3⟩
        · exact .inr ⟨_,.refl _,.inr h3⟩
      · exact(h.com e e' b c hne hb2 hc2).imp r r
section
variable (s:Shp O P C) (F:Full O P C O.length) (hC:Cent O C)
include s F hC
theorem zGi (hx:gS O x):∃E:Nat,0<E∧pw (gm O P C) (zv O) x E=zv O:=by
 have M:=F.g.toMon
 have:∀t,t≤O.length→∃E:Nat,0<E∧TT O t (pw (gm O P C) (zv O) x E):=by
  intro t
  induction t with
  | zero=>intro _;exact⟨1,by omega,by rw [M.pw_one hx];exact hx⟩
  | succ t ih=>
   intro ht;obtain⟨E,h1,h2⟩:=ih (by omega)
   have hO:=s.pr t (by omega)
   refine⟨E*(at_ O t).toNat,Nat.mul_pos h1 (by omega),?_⟩
   rw [M.pw_mul hx];exact zGk s F hC (by omega) h2
 obtain⟨E,h1,h2⟩:=this O.length (Nat.le_refl _);exact⟨E,h1,h2.ext (s.zv _) fun j h1 h2=>by omega⟩
theorem Qh (inS:∀x,N x→gS O x) (one:N (zv O)) (cl:∀x y,N x→N y→N (gm O P C x y)):gB O P C N:=by
 have G:=F.g;have pwN:∀{x},N x→∀k,N (pw (gm O P C) (zv O) x k):=fun {x} hx k=>by
  induction k with
  | zero=>exact one
  | succ k ih=>exact cl _ _ ih hx
 refine⟨fun h=>inS _ h,one,fun h g=>cl _ _ h g,fun {x} hx=>?_⟩
 obtain⟨E,h1,h2⟩:=zGi s F hC (inS x hx);have e:pw (gm O P C) (zv O) x (E-1)=ginv (gS O) (gm O P C) (zv O) x:=by
  refine G.inv_eq (inS x hx) (inS _ (pwN hx _)) ?_
  have:=G.pw_comm (inS x hx) (E-1)
  rw [←this];rw [show E=(E-1)+1 by omega]at h2
  exact h2
 rw [←e];exact pwN hx _
def HD (O:List Int) (P:List (List Int)) (C:List (List (List Int))) (D:List (Option (List Int))) (t:Nat) (x:List Int):Prop:=TT O t x∧Rdu O P C D x (zv O)
omit hC in
theorem HD.row (ok:OkD O D) (hb:D[d]? = some (some b)) (hd:d<O.length):HD O P C D d b:=by
 have M:=F.g.toMon;obtain⟨h1,h2⟩:=ok.row d b hb;have hb0:gS O b:=h1.mono (Nat.zero_le _);refine⟨h1,.left (j:=1) hd hb h1 (by rw [h2];decide) (s.zv _) ?_ (.refl _)⟩
 rw [M.pw_one hb0];exact(M.r1 hb0).symm
theorem HD.nn (hn:D[t]? = some none) (h:HD O P C D t x):HD O P C D (t+1) x:=by
 obtain⟨h1,h2⟩:=h;refine⟨?_,h2⟩;have key:∀{d:Nat} {b:List Int},D[d]? = some (some b)→TT O d x→at_ x d≠0→TT O (t+1) x:=fun {d b} hb hx h0=>by
  rcases Nat.lt_trichotomy d t with h|h|h
  ·exact absurd (h1.zero d h) h0
  ·rw [h,hn]at hb;cases hb
  ·exact hx.mono h
 cases h2 with
 | refl=>exact s.zv _
 | left hd hb hx h0 hx' e r=>exact key hb hx h0
 | right hd hb hx h0 hx' e r=>exact key hb hx h0
theorem HD.cnjb (ok:OkD O D) (q:QI O P C D []) (ht:t<O.length) (hb:D[t]? = some (some b)) (hs:gB O P C (HD O P C D (t+1))):∀{x z:List Int},Rdu O P C D x z→z=zv O→TT O (t+1) x→HD O P C D (t+1) (cnj (gS O) (gm O P C) (zv O) x b):=by
 have G:=F.g;have bS:gS O b:=(ok.row t b hb).1.mono (Nat.zero_le _);have cm:∀{x y:List Int},gS O x→gS O y→cnj (gS O) (gm O P C) (zv O) (gm O P C x y) b=gm O P C (cnj (gS O) (gm O P C) (zv O) x b) (cnj (gS O) (gm O P C) (zv O) y b):=fun {x y} hx hy=>by
  have c1:=G.cnj_in hx bS;have c2:=G.cnj_in hy bS;refine(G.cnj_eq (G.cl hx hy) bS (G.cl c1 c2) ?_).symm;rw [←G.as bS c1 c2,G.cnj_spec hx bS,G.as hx bS c2,G.cnj_spec hy bS,←G.as hx hy bS]
 have cone:cnj (gS O) (gm O P C) (zv O) (zv O) b=zv O:=G.cnj_one bS;have cpw:∀{c:List Int},gS O c→HD O P C D (t+1) (cnj (gS O) (gm O P C) (zv O) c b)→∀j,HD O P C D (t+1) (cnj (gS O) (gm O P C) (zv O) (pw (gm O P C) (zv O) c j) b):=fun {c} hc h j=>by
  induction j with
  | zero=>show HD O P C D (t+1) (cnj _ _ _ (zv O) b);rw [cone];exact hs.one
  | succ j ih=>
   show HD O P C D (t+1) (cnj _ _ _ (gm O P C _ c) b);rw [cm (G.pw hc j) hc];exact hs.cl ih h
 have row:∀{d:Nat} {c:List Int},t+1≤d→d<O.length→D[d]? = some (some c)→gS O c∧HD O P C D (t+1) (cnj (gS O) (gm O P C) (zv O) c b):=fun {d c} h1 h2 hc=>by
  have cT:=(ok.row d c hc).1;have cS:gS O c:=cT.mono (Nat.zero_le _);refine⟨cS,?_⟩;rw [←G.cnj_com cS bS];have hcr:=HD.row s F ok hc h2;have hcH:HD O P C D (t+1) c:=⟨hcr.1.mono h1,hcr.2⟩;refine hs.cl hcH ?_;have T1:TT O (t+1) (gcom O P C c b):=zLV s F hC ht hcH.1 (ok.row t b hb).1;have e0:∀{w},RQ O P C D [] w→Rdu O P C D w (zv O):=fun⟨z,h1,h2⟩=>by
   rcases h2 with rfl|h2
   ·exact h1
   ·cases h2
  rcases q.com t d b c (by omega) hb hc with h3|h3
  ·have sw1:gcom O P C b c=ginv (gS O) (gm O P C) (zv O) (gcom O P C c b):=G.com_swap' cS bS
   have sw2:gcom O P C c b=ginv (gS O) (gm O P C) (zv O) (gcom O P C b c):=G.com_swap' bS cS;have T2:TT O (t+1) (gcom O P C b c):=by rw [sw1];exact zH7 s F hC ht T1
   have T3:HD O P C D (t+1) (gcom O P C c b):=by rw [sw2];exact hs.inv ⟨T2,e0 h3⟩
   exact T3
  ·exact⟨T1,e0 h3⟩
 intro x z h
 induction h with
 | refl x=>rintro rfl hx;rw [cone];exact hs.one
 | @left d j c x x' z hd hc hx h0 hx' e r ih=>
  intro hz hT;have hdt:t+1≤d:=by
   rcases Nat.lt_or_ge d (t+1)with h|h
   ·exact absurd (hT.zero d h) h0
   ·exact h
  obtain⟨r1,r2⟩:=row hdt hd hc;have hx'S:gS O x':=hx'.mono (Nat.zero_le _);rw [e,cm (G.pw r1 j) hx'S];exact hs.cl (cpw r1 r2 j) (ih hz (hx'.mono (by omega)))
 | @right d j c x x' z hd hc hx h0 hx' e r ih=>
  intro hz hT;have hdt:t+1≤d:=by
   rcases Nat.lt_or_ge d (t+1)with h|h
   ·exact absurd (hT.zero d h) h0
   ·exact h
  obtain⟨r1,r2⟩:=row hdt hd hc;have hx'S:gS O x':=hx'.mono (Nat.zero_le _);rw [e,cm hx'S (G.pw r1 j)];exact hs.cl (ih hz (hx'.mono (by omega))) (cpw r1 r2 j)
theorem HD.sub (ok:OkD O D) (q:QI O P C D []):∀k t,t+k=O.length→gB O P C (HD O P C D t)
 | 0,t,ht=>by
  have hz:∀x,HD O P C D t x→x=zv O:=fun x hx=>hx.1.ext (s.zv _) fun j h1 h2=>by omega
  have h0:HD O P C D t (zv O):=⟨s.zv _,.refl _⟩;refine Qh s F hC (fun x hx=>hx.1.mono (Nat.zero_le _)) h0 fun x y hx hy=>?_
  rw [hz x hx,hz y hy,F.g.l1 F.g.one];exact h0
 | k+1,t,ht=>by
  have ih:=HD.sub ok q k (t+1) (by omega)
  have G:=F.g;have htl:t<O.length:=by omega
  have hDl:t<D.length:=by rw [ok.len];exact htl
  rcases hD:D[t]? with _|_|b
  ·rw [List.getElem?_eq_getElem hDl]at hD;cases hD
  ·refine Qh s F hC (fun x hx=>hx.1.mono (Nat.zero_le _)) ⟨s.zv _,.refl _⟩ fun x y hx hy=>?_
   have:=ih.cl (HD.nn s F hC hD hx) (HD.nn s F hC hD hy)
   exact⟨this.1.mono (by omega),this.2⟩
  ·obtain⟨bT,b1⟩:=ok.row t b hD
   have bS:gS O b:=bT.mono (Nat.zero_le _);have inS:∀{x},HD O P C D (t+1) x→gS O x:=fun h=>h.1.mono (Nat.zero_le _)
   -- products of a power of b and a member behind
   have mk:∀(j:Nat) {h:List Int},HD O P C D (t+1) h→HD O P C D t (gm O P C (pw (gm O P C) (zv O) b j) h):=fun j {h} hh=>by
    obtain⟨p1,p2⟩:=QG s F hC htl bT j;have hhS:=inS hh;have T:=tt_cl s F hC (Nat.le_of_lt htl) p1 (hh.1.mono (Nat.le_succ _));refine⟨T,?_⟩;obtain⟨_,g2⟩:=qm s (d:=O.length) (b:=pw (gm O P C) (zv O) b j) (a:=h) (t:=t) (Nat.le_refl _) (by omega) htl (by rw [Nat.sub_self];exact p1.mono (Nat.zero_le _)) (hh.1.mono (Nat.le_succ _))
    have hO:=s.pr t htl;have e2:at_ (gm O P C (pw (gm O P C) (zv O) b j) h) t=(j:Int) % at_ O t:=by
     show at_ (mu O P C O.length _ _) t=_;rw [g2,zBG (p1.bd t htl) (hh.1.bd t htl),hh.1.zero t (Nat.lt_succ_self _),p2,b1,Int.mul_one,Int.add_zero,Int.emod_emod_of_dvd _ (Int.dvd_refl _)]
    by_cases h0:(j:Int) % at_ O t=0
    ·obtain⟨r,hr⟩:=Int.dvd_of_emod_eq_zero h0
     have hr0:0≤r:=by
      rcases Int.lt_or_le r 0 with h|h
      ·have:=Int.mul_neg_of_pos_of_neg (show 0<at_ O t by omega) h;omega
      ·exact h
     have ej:j=(at_ O t).toNat*r.toNat:=by
      have:((j:Nat):Int)=(((at_ O t).toNat*r.toNat:Nat):Int):=by rw [Int.natCast_mul,Int.toNat_of_nonneg hr0,Int.toNat_of_nonneg (by omega),hr]
      omega
     have hp:HD O P C D (t+1) (pw (gm O P C) (zv O) b (at_ O t).toNat):=by
      refine⟨zGk s F hC htl bT,?_⟩;obtain⟨z,h1,h2⟩:=q.pow t b hD;rcases h2 with rfl|h2
      ·exact h1
      ·cases h2
     rw [ej,G.pw_mul bS];exact(ih.cl (ih.pw hp r.toNat) hh).2
    ·exact .left htl hD T (by rw [e2];exact h0) hh.1 rfl hh.2
   have mv:∀(j:Nat) {h:List Int},HD O P C D (t+1) h→∃h',HD O P C D (t+1) h'∧gm O P C h (pw (gm O P C) (zv O) b j)=gm O P C (pw (gm O P C) (zv O) b j) h':=fun j=>by
    induction j with
    | zero=>exact fun {h} hh=>⟨h,hh,by show gm O P C h (zv O)=gm O P C (zv O) h;rw [G.r1 (inS hh),G.l1 (inS hh)]⟩
    | succ j ij=>
     intro h hh;obtain⟨h1,a1,a2⟩:=ij hh;have a3:=HD.cnjb s F hC ok q htl hD ih a1.2 rfl a1.1;refine⟨_,a3,?_⟩;have hpS:=G.pw bS j;show gm O P C h (gm O P C (pw (gm O P C) (zv O) b j) b)=gm O P C (gm O P C (pw (gm O P C) (zv O) b j) b) _;rw [←G.as (inS hh) hpS bS,a2,G.as hpS (inS a1) bS,G.as hpS bS (inS a3),G.cnj_spec (inS a1) bS]
   have split:∀{x},HD O P C D t x→∃j h,HD O P C D (t+1) h∧x=gm O P C (pw (gm O P C) (zv O) b j) h:=fun {x} hx=>by
    obtain⟨hT,hr⟩:=hx;have deep:∀{d},TT O d x→at_ x d≠0→d≠t→TT O (t+1) x:=fun {d} h1 h0 hne=>by
     rcases Nat.lt_trichotomy d t with h|h|h
     ·exact absurd (hT.zero d h) h0
     ·exact absurd h hne
     ·exact h1.mono h
    have triv:TT O (t+1) x→Rdu O P C D x (zv O)→∃j h,HD O P C D (t+1) h∧x=gm O P C (pw (gm O P C) (zv O) b j) h:=fun h1 h2=>⟨0,x,⟨h1,h2⟩,(G.l1 (h1.mono (Nat.zero_le _))).symm⟩
    have hr0:=hr;cases hr with
    | refl=>exact triv (s.zv _) (.refl _)
    | @left d j c _ x' _ hd hc h1 h0 hx' e r=>
     by_cases hdt:d=t
     ·subst hdt
      rw [hD]at hc;cases hc
      exact⟨j,x',⟨hx',r⟩,e⟩
     ·exact triv (deep h1 h0 hdt) hr0
    | @right d j c _ x' _ hd hc h1 h0 hx' e r=>
     by_cases hdt:d=t
     ·subst hdt
      rw [hD]at hc;cases hc
      obtain⟨h',a1,a2⟩:=mv j (show HD O P C D (d+1) x' from⟨hx',r⟩)
      exact⟨j,h',a1,by rw [e,a2]⟩
     ·exact triv (deep h1 h0 hdt) hr0
   refine Qh s F hC (fun x hx=>hx.1.mono (Nat.zero_le _)) ⟨s.zv _,.refl _⟩ fun x y hx hy=>?_
   obtain⟨j,h,a1,rfl⟩:=split hx;obtain⟨j',h',a2,rfl⟩:=split hy;obtain⟨h2,a3,a4⟩:=mv j' a1;have p1:=G.pw bS j;have p2:=G.pw bS j';have e:gm O P C (gm O P C (pw (gm O P C) (zv O) b j) h) (gm O P C (pw (gm O P C) (zv O) b j') h')=gm O P C (pw (gm O P C) (zv O) b (j+j')) (gm O P C h2 h'):=by
    rw [G.as p1 (inS a1) (G.cl p2 (inS a2)),←G.as (inS a1) p2 (inS a2),a4,G.as p2 (inS a3) (inS a2),←G.as p1 p2 (G.cl (inS a3) (inS a2)),G.pw_add bS]
   rw [e];exact mk _ (ih.cl a3 a2)
omit hC in
theorem HD.fil (h:HD O P C D t x) (hd:dep x<O.length):∃b,D[dep x]? = some (some b):=by
 obtain⟨h1,h2⟩:=h;have key:∀{d:Nat} {b:List Int},D[d]? = some (some b)→TT O d x→at_ x d≠0→∃b,D[dep x]? = some (some b):=fun {d b} hb hx h0=>by
  have:dep x=d:=zFT (fun j hj=>hx.zero j hj) h0
  rw [this];exact⟨b,hb⟩
 cases h2 with
 | refl=>rw [zH3 s]at hd;omega
 | left hd hb hx h0 hx' e r=>exact key hb hx h0
 | right hd hb hx h0 hx' e r=>exact key hb hx h0
end
def GC (O:List Int) (P:List (List Int)) (C:List (List (List Int))) (L:List (List Int)) (x:List Int):Prop:=∀N,gB O P C N→(∀l∈L,N l)→N x
theorem GC.sub (F:Full O P C O.length) (hL:∀l∈L,gS O l):gB O P C (GC O P C L):=
 ⟨fun h=>h _ F.g.wholeB hL,fun N hN _=>hN.one,fun h g N hN hl=>hN.cl (h N hN hl) (g N hN hl),fun h N hN hl=>hN.inv (h N hN hl)⟩
theorem GC.mem (h:x∈L):GC O P C L x:=fun N _ hl=>hl x h
structure CanG (O:List Int) (H:List Int→Prop) (u:List (List Int)):Prop where
 asc:u.Pairwise fun a b=>dep a<dep b
 mem:∀v∈u,H v
 one:∀v∈u,gS O v∧dep v<O.length∧at_ v (dep v)=1
 red:∀v∈u,∀w∈u,dep v≠dep w→at_ v (dep w)=0
 all:∀x,H x→dep x<O.length→∃v∈u,dep v=dep x
theorem zFd:∀{u u':List (List Int)},(u.Pairwise fun a b=>dep a<dep b)→(u'.Pairwise fun a b=>dep a<dep b)→(∀v,v∈u↔v∈u')→u=u'
 | [],[],_,_,_=>rfl
 | [],v::u',_,_,h=>by have:=(h v).2 (by simp);cases this
 | v::u,[],_,_,h=>by have:=(h v).1 (by simp);cases this
 | v::u,w::u',h1,h2,h=>by
  rw [List.pairwise_cons]at h1 h2
  have e:v=w:=by
   rcases List.mem_cons.1 ((h v).1 (by simp))with e|e
   ·exact e
   ·rcases List.mem_cons.1 ((h w).2 (by simp))with e' | e'
    ·exact e'.symm
    ·have:=h2.1 v e;have:=h1.1 w e';omega
  subst e;rw [zFd h1.2 h2.2 fun x=>?_]
  constructor
  ·intro hx
   rcases List.mem_cons.1 ((h x).1 (by simp [hx]))with e|e
   ·subst e;have:=h1.1 x hx;omega
   ·exact e
  ·intro hx
   rcases List.mem_cons.1 ((h x).2 (by simp [hx]))with e|e
   ·subst e;have:=h2.1 x hx;omega
   ·exact e
theorem CanG.row_eq (s:Shp O P C) (F:Full O P C O.length) (hH:gB O P C H) (h:CanG O H u) (h':CanG O H u') {v v':List Int} (hv:v∈u) (hv':v'∈u') (hd:dep v=dep v'):v=v':=by
 have G:=F.g;obtain⟨a1,a2,a3⟩:=h.one v hv;obtain⟨b1,b2,b3⟩:=h'.one v' hv';have iv:=G.inv_in a1;have hz:H (gm O P C (ginv (gS O) (gm O P C) (zv O) v) v'):=hH.cl (hH.inv (h.mem v hv)) (h'.mem v' hv');have e:gm O P C v (gm O P C (ginv (gS O) (gm O P C) (zv O) v) v')=v':=by rw [←G.as a1 iv.1 b1,iv.2,G.l1 b1]
 generalize gm O P C (ginv (gS O) (gm O P C) (zv O) v) v'=z at *
 have zS:=hH.inS hz;rcases Nat.lt_or_ge (dep z) O.length with hdz|hdz
 ·exfalso
  obtain⟨g1,g2⟩:=qm s (d:=O.length) (b:=v) (a:=z) (t:=dep z) (Nat.le_refl _) (by omega) hdz (by rw [Nat.sub_self];exact a1) (Zn zS)
  have e':mu O P C O.length v z=v':=e;rw [e']at g1 g2
  have hz0:at_ z (dep z)≠0:=Zd (by rw [zS.len];exact hdz)
  have hvv:at_ v' (dep z)=at_ v (dep z):=by
   rcases Nat.lt_trichotomy (dep z) (dep v)with h1|h1|h1
   ·rw [qU h1,qU (by omega)]
   ·rw [h1,a3,hd,b3]
   ·obtain⟨w,hw,ew⟩:=h.all z hz hdz
    obtain⟨w',hw',ew'⟩:=h'.all z hz hdz;rw [←ew,h.red v hv w hw (by omega),ew,←ew',h'.red v' hv' w' hw' (by omega)]
  have:=zCy (a1.bd _ hdz) (zS.bd _ hdz) (g2.symm.trans hvv)
  exact hz0 this
 ·rw [zBw zS hdz,G.r1 a1]at e
  exact e
theorem CanG.unique (s:Shp O P C) (F:Full O P C O.length) (hH:gB O P C H) (h:CanG O H u) (h':CanG O H u'):u=u':=by
 refine zFd h.asc h'.asc fun v=>⟨fun hv=>?_,fun hv=>?_⟩
 ·obtain⟨w,hw,e⟩:=h'.all v (h.mem v hv) (h.one v hv).2.1
  rw [h.row_eq s F hH h' hv hw e.symm];exact hw
 ·obtain⟨w,hw,e⟩:=h.all v (h'.mem v hv) (h'.one v hv).2.1
  rw [h'.row_eq s F hH h hv hw e.symm];exact hw
theorem CanG.len (h:CanG O H u):u.length≤O.length:=by
 have:(u.map dep).Pairwise (· < ·):=by rw [List.pairwise_map];exact h.asc
 have key:∀(l:List Nat) (m:Nat),l.Pairwise (· < ·)→(∀x∈l,m≤x∧x<O.length)→l.length+m≤O.length∨l=[]:=by
  intro l
  induction l with
  | nil=>intro m _ _;exact .inr rfl
  | cons a l ih=>
   intro m h1 h2;rw [List.pairwise_cons]at h1
   have ha:=h2 a (by simp)
   rcases ih (a+1) h1.2 (fun x hx=>⟨h1.1 x hx,(h2 x (by simp [hx])).2⟩)with h3|h3
   ·left;simp only [List.length_cons];omega
   ·subst h3;left;simp;omega
 rcases key _ 0 this (fun x hx=>by
  obtain⟨v,hv,rfl⟩:=List.mem_map.1 hx;exact⟨Nat.zero_le _,(h.one v hv).2.1⟩)with h1 | h1
 ·simpa using h1
 ·rw [List.map_eq_nil_iff]at h1;subst h1;simp
theorem GC.table (s:Shp O P C) (F:Full O P C O.length) (hC:Cent O C) (ok:OkD O D) (q:QI O P C D []) (h:∀N,gB O P C N→(InD N D↔∀l∈L,N l)):∀x,GC O P C L x↔HD O P C D 0 x:=by
 have hs:=HD.sub s F hC ok q O.length 0 (by omega)
 intro x;constructor
 ·intro hx
  refine hx _ hs ((h _ hs).1 fun d b hb=>?_)
  have hd:d<O.length:=by
   rw [←ok.len];rcases Nat.lt_or_ge d D.length with h|h
   ·exact h
   ·rw [List.getElem?_eq_none h]at hb;cases hb
  have:=HD.row s F ok hb hd
  exact⟨this.1.mono (Nat.zero_le _),this.2⟩
 ·intro hx N hN hl
  exact(hx.2.iff F hN ((h N hN).2 hl)).2 hN.one
structure CanD (O:List Int) (P:List (List Int)) (C:List (List (List Int))) (D:List (Option (List Int))) (u:List (List Int)):Prop where
 one:∀v∈u,gS O v∧dep v<O.length∧at_ v (dep v)=1
 asc:u.Pairwise fun a b=>dep a<dep b
 red:∀v∈u,∀w∈u,dep v≠dep w→at_ v (dep w)=0
 all:∀(d:Nat) (y:List Int),D[d]? = some (some y)→∃v∈u,dep v=d
 len:u.length≤O.length
 iff:∀N,gB O P C N→((∀x∈u,N x)↔InD N D)
theorem CanD.can (s:Shp O P C) (F:Full O P C O.length) (hC:Cent O C) (ok:OkD O D) (q:QI O P C D []) (cd:CanD O P C D u) (h:∀N,gB O P C N→(InD N D↔∀l∈L,N l)):CanG O (GC O P C L) u:=
 ⟨cd.asc,fun v hv N hN hl=>(cd.iff N hN).2 ((h N hN).2 hl) v hv,cd.one,cd.red,fun x hx hd=>by
  obtain⟨b,hb⟩:=HD.fil s F ((GC.table s F hC ok q h x).1 hx) hd;exact cd.all _ b hb⟩
section
variable (s:Shp O P C) (F:Full O P C O.length) (hC:Cent O C)
include s F hC
theorem zLr (hb:gS O b) (k:Nat):∃j,gm O P C (pw (gm O P C) (zv O) b j) (pw (gm O P C) (zv O) b k)=zv O∧gm O P C (pw (gm O P C) (zv O) b k) (pw (gm O P C) (zv O) b j)=zv O:=by
 have M:=F.g.toMon;obtain⟨E,h1,h2⟩:=zGi s F hC hb;have e:pw (gm O P C) (zv O) b (E*k)=zv O:=by rw [M.pw_mul hb,h2,M.pw_e]
 have hle:k≤E*k:=Nat.le_mul_of_pos_left k h1;refine⟨E*k-k,?_,?_⟩
 ·rw [←M.pw_add hb,show E*k-k+k=E*k by omega,e]
 ·rw [←M.pw_add hb,show k+(E*k-k)=E*k by omega,e]
theorem Rdu.stepL (ok:OkD O D) (hb:D[d]? = some (some b)) (hd:d<O.length) (hz:TT O d z) (h0:at_ z d≠0) (hz':TT O (d+1) (gm O P C (pw (gm O P C) (zv O) b k) z)):Rdu O P C D z (gm O P C (pw (gm O P C) (zv O) b k) z):=by
 have G:=F.g;have bS:gS O b:=(ok.row d b hb).1.mono (Nat.zero_le _);have zS:gS O z:=hz.mono (Nat.zero_le _);obtain⟨j,h1,h2⟩:=zLr s F hC bS k;refine .left (j:=j) hd hb hz h0 hz' ?_ (.refl _);rw [←G.as (G.pw bS j) (G.pw bS k) zS,h1,G.l1 zS]
theorem Rdu.stepR (ok:OkD O D) (hb:D[d]? = some (some b)) (hd:d<O.length) (hz:TT O d z) (h0:at_ z d≠0) (hw:gS O x) (hx:gm O P C x (pw (gm O P C) (zv O) b k)=z) (hx':TT O (d+1) x):Rdu O P C D z x:=
 .right (j:=k) hd hb hz h0 hx' hx.symm (.refl _)
end
end Go.Grp
namespace Go.Grp
end Go.Grp
namespace Go.Proofs
open Go.Ab Go.Lie Go.Grp
variable {σ:PHeap} {K:PV→PHeap→Prop} {O:List Int} {P:List (List Int)} {C:List (List (List Int))} {vO vP vC vx vy vL va vb:PV} {x y f a b:List Int} {L:List (List Int)} {rP rC rb:List PV} {D:List (Option (List Int))} {d j sp ss sb n:Nat}
structure SeqG (σ:PHeap) (ss sb sp:Nat) (n:Nat) (rb:List PV) (vO vP vC:PV):Prop where
 obj:σ.obj ss=some [.ptr sp 0,.sl sb 0 n (.known n)]
 lt:ss<σ.next
 bobj:σ.obj sb=some rb
 blt:sb<σ.next
 pg:PtrG σ sp vO vP vC
 ne1:ss≠sb
 ne2:sp≠sb
theorem SeqG.keep {h:PHeap} (q:SeqG σ ss sb sp n rb vO vP vC) (hk:Keep σ h):SeqG h ss sb sp n rb vO vP vC:=
 ⟨by rw [hk.obj _ q.lt];exact q.obj,Nat.lt_of_lt_of_le q.lt hk.next,by rw [hk.obj _ q.blt];exact q.bobj,Nat.lt_of_lt_of_le q.blt hk.next,q.pg.keep hk,q.ne1,q.ne2⟩
theorem SeqG.setB (q:SeqG σ ss sb sp n rb vO vP vC) (rb':List PV):SeqG (σ.set sb rb') ss sb sp n rb' vO vP vC:=
 ⟨by rw [zI,if_neg q.ne1];exact q.obj,q.lt,by rw [zI,if_pos rfl],q.blt,q.pg.set q.ne2 _,q.ne1,q.ne2⟩
def DRow (n:Nat) (c:PV) (r:Option (List Int)):Prop:=(c=.fz true .nils 0 []∧r=none)∨∃o cap y,c=.fz true (.sl o 0 n cap) n (pis y)∧r=some y
theorem DRow.bel {c:PV} {r:Option (List Int)} (h:DRow n c r):Bel 0 c:=by
 rcases h with ⟨rfl,_⟩|⟨_,_,_,rfl,_⟩<;>trivial
theorem DRow.bels {rb:List PV} {D:List (Option (List Int))} (h:All2 (DRow n) rb D) (m:Nat):Bels m rb:=by
 refine ZQ.2 fun c hc=>?_
 obtain⟨k,hk,rfl⟩:=List.mem_iff_getElem.1 hc;exact(DRow.bel (h.2 k _ _ (List.getElem?_eq_getElem hk) (List.getElem?_eq_getElem (by rw [←h.1];exact hk)))).up (Nat.zero_le _)
theorem DRow.get {rb:List PV} {D:List (Option (List Int))} (h:All2 (DRow n) rb D) {d:Nat} (hd:d<D.length):(rb[d]? = some (.fz true .nils 0 [])∧D[d]? = some none)∨∃o cap y,rb[d]? = some (.fz true (.sl o 0 n cap) n (pis y))∧D[d]? = some (some y):=by
 have hb:d<rb.length:=by rw [h.1];exact hd
 rw [List.getElem?_eq_getElem hb,List.getElem?_eq_getElem hd];rcases h.2 d _ _ (List.getElem?_eq_getElem hb) (List.getElem?_eq_getElem hd)with ⟨e1,e2⟩|⟨o,cap,y,e1,e2⟩
 ·exact .inl ⟨by rw [e1],by rw [e2]⟩
 ·exact .inr ⟨o,cap,y,by rw [e1],by rw [e2]⟩
theorem DRow.put {rb:List PV} {D:List (Option (List Int))} (h:All2 (DRow n) rb D) {o d:Nat} {cap:Cap}:All2 (DRow n) (rb.set d (.fz true (.sl o 0 n cap) n (pis y))) (D.set d (some y)):=by
 refine⟨by rw [List.length_set,List.length_set];exact h.1,fun k c r hc hr=>?_⟩
 rw [List.getElem?_set]at hc hr
 by_cases e:d=k
 ·rw [if_pos e]at hc hr
  split at hc
  ·split at hr
   ·cases hc;cases hr;exact .inr ⟨o,cap,y,rfl,rfl⟩
   ·cases hr
  ·cases hc
 ·rw [if_neg e]at hc hr
  exact h.2 k c r hc hr
theorem zJs (s:Shp O P C) (F:Full O P C O.length) (hn:0<O.length) (hs:PtrG σ sp vO vP vC) (hR:IsPr vO vP vC O P C) (ha:gS O a) (hva:FI va a) {k:Int} (hk0:0≤k∧k≤1000000) (hk:∀o cap,K (.fz true (.sl o 0 O.length cap) O.length (pis (Grp.pw (gm O P C) (zv O) a k.toNat))) σ):
  zA Tryz.prog 153 [.ptr sp 0,va,.int .i64 k] σ K:=by
 have hlen:=(F.g.pw ha k.toNat).len;refine zA.gh (zEx s F hs hR (by rw [Nat.sub_self];exact ha) hva hk0 ⟨fun h0=>?_,fun cap hc=>?_⟩)
 ·rw [h0]at hlen;simp at hlen;omega
 ·rw [hlen]at hc ⊢
  exact Gh.finF (zB σ _) (by simp [PHeap.new]) (Nat.le_refl _) (zM _ _) hc.ok fun o=>hk o cap
theorem zKk (s:Shp O P C) (F:Full O P C O.length) (hC:Cent O C) (hq:SeqG σ ss sb sp O.length rb vO vP vC) (hR:IsPr vO vP vC O P C) (hD:OkD O D) (hrb:All2 (DRow O.length) rb D) (hx:gS O x) (hvx:FI vx x)
  (hk:∀v z,FI v z→gS O z→(dep z<O.length→D[dep z]? = some none)→Rdu O P C D x z→K v σ):zA Tryz.prog 182 [.ptr ss 0,vx] σ K:=by
 have hn6:=s.le;obtain⟨wx,ax,rfl⟩:=hvx;have hxl:=hx.len;have r0:σ.rd1 ss 0=some (.ptr sp 0):=by rw [zH hq.obj];rfl
 have r1:σ.rd1 ss 1=some (.sl sb 0 O.length (.known O.length)):=by rw [zH hq.obj];rfl
 have hR0:=hR;obtain⟨⟨w0,a0,rfl⟩,_,_⟩:=hR;have e0:σ.rd1 sp 0=some (.fz w0 a0 O.length (pis O)):=by rw [zH hq.pg.obj];rfl
 refine zN mix Tryz.func182 cf182 rfl ?_;dsimp only [if182,qD,eD,mI0,lI0,xI0,bI0,cI0,sI0,C1,mD0,lD0,fD0,xD0,pD0,G0,gm0,aI0,zI0,R0,S0];simp only [pwA,seval,-iQ0];refine zBF rfl (by omega) ?_
 simp only [pwA,seval,-iQ0];refine zF (fun m vs h'=>∃z w a,m=O.length-dep z∧vs=[.ptr ss 0,.fz w a O.length (pis z),.int .i64 (dep z)]∧σ=h'∧gS O z∧Rdu O P C D x z) _ ⟨x,wx,ax,rfl,by rw [hxl];rfl,rfl,hx,.refl _⟩ ?_
 rintro m vs h' ⟨z,w,a,rfl,rfl,rfl,hz,hN⟩
 have hzl:=hz.len
 by_cases hd:dep z<O.length
 ·have hrd:=zH hq.bobj (dep z)
  have hdz:dep z<z.length:=by omega
  have bz:=hz.bd _ hd;have bO:=s.pr _ hd;rw [at_eq hdz]at bz
  rw [at_eq hd]at bz bO
  rcases DRow.get hrb (d:=dep z) (by rw [hD.len];exact hd)with ⟨e1,e2⟩|⟨o,cap,y,e1,e2⟩
  ·rw [e1]at hrd
   simp only [pwA,seval,-iQ0,hd,r1,hrd];exact hk _ z ⟨w,a,by rw [hzl]⟩ hz (fun _=>e2) hN
  ·rw [e1]at hrd
   obtain⟨y1,y2⟩:=hD.row _ _ e2;have ew:IntKind.i64.wrap (O[dep z] - z[dep z])=O[dep z] - z[dep z]:=wrap64 (by omega) (by omega)
   simp only [pwA,seval,-iQ0,hd,r0,r1,hrd,e0,zL,gi hd,gi hdz,ew];refine zCj s F hq.pg hR0 (by rw [Nat.sub_self];exact y1.mono (Nat.zero_le _)) ⟨true,_,by rw [y1.len]⟩ (by omega) fun v1 f1=>?_
   simp only [pwA,seval,-iQ0,hd,r0,r1,hrd,e0];have g1:gS O (Grp.pw (gm O P C) (zv O) y (O[dep z] - z[dep z]).toNat):=F.g.pw (y1.mono (Nat.zero_le _)) _;refine QQ s F hq.pg hR0 (by rw [Nat.sub_self];exact g1) (by rw [Nat.sub_self];exact hz) f1 ⟨w,a,by rw [hzl]⟩ fun v2 f2=>?_
   have hst:=zDz s F hC hd (Zn hz) y1 y2;rw [at_eq hd,at_eq hdz]at hst
   have hz2:gS O (mu O P C O.length (Grp.pw (mu O P C O.length) (zv O) y (O[dep z] - z[dep z]).toNat) z):=F.g.cl g1 hz;have hz0:at_ z (dep z)≠0:=Zd (by omega)
   have hN2:Rdu O P C D x (mu O P C O.length (Grp.pw (mu O P C O.length) (zv O) y (O[dep z] - z[dep z]).toNat) z):=hN.trans (Rdu.stepL s F hC hD e2 hd (Zn hz) hz0 hst);have hst2:TT O (dep z+1) (mu O P C O.length (Grp.pw (mu O P C O.length) (zv O) y (O[dep z] - z[dep z]).toNat) z):=hst;generalize mu O P C O.length (Grp.pw (mu O P C O.length) (zv O) y (O[dep z] - z[dep z]).toNat) z=z' at *
   have hge:=dep_ge hst2 (by omega)
   have hl':=hz2.len;have h0:z'[dep z]'(by omega)=0:=by
    have:=hst2.zero (dep z) (Nat.lt_succ_self _)
    rwa [at_eq (by omega)]at this
   obtain⟨w2,a2,rfl⟩:=f2;simp only [pwA,seval,-iQ0,hl',hd,zL,gi (show dep z<z'.length by omega),h0]
   refine zBF hl'.symm (by omega) ?_
   simp only [pwA,seval,-iQ0];exact⟨_,by omega,z',w2,a2,rfl,rfl,hz2,hN2⟩
 ·have hdn:dep z=O.length:=by have:=Q9 z;omega
  simp only [pwA,seval,-iQ0,hdn,Nat.lt_irrefl];exact hk _ z ⟨w,a,by rw [hzl]⟩ hz (fun h=>by omega) hN
end Go.Proofs
namespace Go.Grp
end Go.Grp
namespace Go.Proofs
open Go.Ab Go.Lie Go.Grp
variable {σ:PHeap} {K:PV→PHeap→Prop} {O:List Int} {P:List (List Int)} {C:List (List (List Int))} {vO vP vC vx vy vL:PV} {x y f a b:List Int} {L:List (List Int)} {rP rC rb:List PV} {D:List (Option (List Int))} {d j sp ss sb n:Nat}
theorem Keep.self {rb:List PV} {h:PHeap} (hb:σ.obj sb=some rb) (k:Keep σ h):Keep (σ.set sb rb) h:=⟨k.next,k.top,fun t ht=>by
 rw [k.obj t ht,zI]
 split
 ·rename_i e;rw [e];exact hb
 ·rfl⟩
theorem Gh.finB {σ0 σ1:PHeap} {rb:List PV} {v:PV} (hsb:sb<σ0.next) (hk:Keep (σ0.set sb rb) σ1) (hb:Bels 0 rb) (hv:Bel σ0.next v) (k:K v (σ0.set sb rb)):Gh σ0 K v σ1:=fun w=>
 Gh.cut (σ2:=σ0.set sb rb) rfl hk.top (fun t cs ht=>by
  have hlt:t<σ0.next:=by
   rw [zI]at ht
   split at ht
   ·rename_i e;rw [e];exact hsb
   ·exact w.lt ht
  refine⟨hlt,by rw [hk.obj t hlt];exact ht,?_⟩
  rw [zI]at ht
  split at ht
  ·cases ht;exact .inr (hb.up (Nat.zero_le _))
  ·exact .inl ht) hv k w
theorem zEZ (s:Shp O P C) (F:Full O P C O.length) (hs:PtrG σ sp vO vP vC) (hR:IsPr vO vP vC O P C) (hx:gS O x) (hy:gS O y) (hvx:FI vx x) (hvy:FI vy y) (hk:∀v,FI v (gcom O P C x y)→K v σ):
  zA Tryz.prog 185 [.ptr sp 0,vx,vy] σ K:=by
 have G:=F.g;have up:∀{z:List Int},gS O z→TT O (O.length-O.length) z:=fun h=>by rw [Nat.sub_self];exact h
 have dn:∀{z:List Int},TT O (O.length-O.length) z→gS O z:=fun h=>by rw [Nat.sub_self]at h;exact h
 refine zC mix Tryz.func185 ?_
 conv=>arg 2;cbv
 refine zD rfl ?_;simp only [pwA,seval,-iQ0];refine zEE s F hs hR (up hx) hvx fun v1 z1 h1 e1 f1=>?_
 simp only [pwA,seval,-iQ0];refine zAA s F hs hR (up hx) (up hy) hvx hvy fun v2 z2 h2 e2 f2=>?_
 simp only [pwA,seval,-iQ0];refine QQ s F hs hR h1 h2 f1 f2 fun v3 f3=>?_
 simp only [pwA,seval,-iQ0];have e:mu O P C O.length z1 z2=gcom O P C x y:=by
  refine G.com_eq hx hy (G.cl (dn h1) (dn h2)) ?_;have i1:z1=ginv (gS O) (gm O P C) (zv O) x:=G.inv_eq hx (dn h1) e1;show gm O P C (gm O P C y x) (gm O P C z1 z2)=gm O P C x y;have hxz:gm O P C x (gm O P C z1 z2)=z2:=by rw [←G.as hx (dn h1) (dn h2),show gm O P C x z1=zv O from e1,G.l1 (dn h2)]
  rw [G.as hy hx (G.cl (dn h1) (dn h2)),hxz];exact e2
 rw [e]at f3
 exact hk v3 f3
theorem zJX (s:Shp O P C) (F:Full O P C O.length) (hC:Cent O C) (hp:∀o∈O,isP o) (hq:SeqG σ ss sb sp O.length rb vO vP vC) (hR:IsPr vO vP vC O P C) (hD:OkD O D) (hrb:All2 (DRow O.length) rb D) (hQI:QI O P C D []) (hL:FII vL L) (hg:∀x∈L,gS O x) (hLl:L.length≤1000000)
  (hk:∀(t:Bool) rb' D',All2 (DRow O.length) rb' D'→OkD O D'→QI O P C D' []→(∀N,gB O P C N→(InD N D'↔(InD N D∧∀q∈L,N q)))→free D'≤free D→(t=true→free D'<free D)→K (.bool t) (σ.set sb rb')):
  zA Tryz.prog 125 [.ptr ss 0,vL] σ K:=by
 have hn6:=s.le;have hf6:=Qu D;rw [hD.len]at hf6
 have G:=F.g;have up:∀{z:List Int},gS O z→TT O (O.length-O.length) z:=fun h=>by rw [Nat.sub_self];exact h
 obtain⟨wl,al,rl,rfl,hrl⟩:=hL;have hR0:=hR;obtain⟨⟨w0,a0,rfl⟩,_,_⟩:=hR;refine zA.gh ?_;refine zN mix Tryz.func125 cf125 rfl ?_;dsimp only [if125,qI,eI,qD,eD,mI0,kI0,tI0,lI0,fI0,xI0,bI0,cI0,sI0,pI0,C1,C2,C3,mD0,lD0,fD0,xD0,pD0,I0,yI0,vI0,R0,S0];simp only [pwA,seval,-iQ0];refine zC2 hrl.1 (hrl.bI 0) (by omega) fun vQ h1 k1 q1=>?_
 simp only [pwA,seval,-iQ0];refine zF (fun m vs h'=>∃g Q vQ rb' D' rq,m=10*free D'+Q.length∧vs=[.ptr ss 0,.bool g,vQ]∧Keep (σ.set sb rb') h'∧PQ σ.next h' vQ Q.length rq∧All2 FI rq Q∧(∀x∈Q,gS O x)∧All2 (DRow O.length) rb' D'∧OkD O D'∧QI O P C D' Q∧(∀N,gB O P C N→((InD N D'∧∀q∈Q,N q)↔(InD N D∧∀q∈L,N q)))∧free D'≤free D∧(g=true→free D'<free D)∧Q.length+10*free D'≤L.length+10*free D) (10*free D+L.length) ?_ ?_
 ·exact⟨false,L,vQ,rb,D,rl,rfl,rfl,Keep.self hq.bobj k1,q1,hrl,hg,hrb,hD,hQI.mem (fun q hq=>by cases hq),fun N _=>Iff.rfl,Nat.le_refl _,by simp,Nat.le_refl _⟩
 clear k1 q1 vQ h1
 as_aux_lemma=>
 rintro m vs h' ⟨g,Q,vQ,rb',D',rq,rfl,rfl,hkp,hqq,hrq,hgQ,hrb',hD',hQq,hS,hf1,hf2,hb⟩
 have hq':=(hq.setB rb').keep hkp;cases Q with
 | nil=>
  have hlen:pLen vQ=some (.int .i64 0):=hqq.pLen;simp only [pwA,seval,-iQ0,hlen];exact Gh.finB hq.blt hkp (DRow.bels hrb' 0) trivial (hk g rb' D' hrb' hD' hQq (fun N hN=>⟨fun h=>(hS N hN).1 ⟨h,fun q hq=>(by cases hq)⟩,fun h=>((hS N hN).2 h).1⟩) hf1 hf2)
 | cons x Q=>
  have hlen:=hqq.pLen;obtain⟨c,rq',rfl,hc,hrq'⟩:∃c rq',rq=c::rq'∧FI c x∧All2 FI rq' Q:=by
   cases rq with
   | nil=>exact absurd hrq.1 (by simp)
   | cons c rq'=>exact⟨c,rq',rfl,hrq.2 0 c x rfl rfl,⟨by simpa using hrq.1,fun k a b ha hb=>hrq.2 (k+1) a b (by simpa using ha) (by simpa using hb)⟩⟩
  obtain⟨sq,off,cap,vQ',rfl,hrd,hpos,hsl',hqq'⟩:=hqq.uncons;have hcc:=hc;obtain⟨w4,a4,rfl⟩:=hc;have hx:=hgQ x (by simp)
  have hgQ':∀q∈Q,gS O q:=fun q hq=>hgQ q (List.mem_cons_of_mem _ hq)
  have hf6':=Qu D';rw [hD'.len]at hf6'
  simp only [List.length_cons]at hlen hsl' hqq' hpos hb ⊢
  have hposI:(0:Int)<((Q.length+1:Nat):Int):=by omega
  rw [Nat.add_sub_cancel]at hqq'
  simp only [pwA,seval,-iQ0,hlen,hposI,hpos,hrd,hsl'];refine zKk s F hC hq' hR0 hD' hrb' hx hcc fun vz z fz gz hz1 hz2=>?_
  obtain⟨wz,az,rfl⟩:=fz;have hzl:=gz.len;simp only [pwA,seval,-iQ0,hlen,hposI,hpos,hrd,hsl'];refine zBF rfl (by omega) ?_
  by_cases hd:dep z<O.length
  rotate_left
  ·have hdn:dep z=O.length:=by have:=Q9 z;omega
   have hz0:=zBw gz (by omega)
   simp only [pwA,seval,-iQ0,hzl,hdn];refine⟨_,?_,g,Q,vQ',rb',D',rq',rfl,rfl,hkp,hqq',hrq',hgQ',hrb',hD',hQq.drop (by rw [←hz0];exact hz2),fun N hN=>?_,hf1,hf2,by omega⟩
   ·omega
   ·rw [←hS N hN]
    refine⟨fun⟨h1,h2⟩=>⟨h1,fun q hq=>?_⟩,fun⟨h1,h2⟩=>⟨h1,fun q hq=>h2 q (List.mem_cons_of_mem _ hq)⟩⟩
    rcases List.mem_cons.1 hq with rfl|hq
    ·rw [hz2.iff F hN h1,hz0];exact hN.one
    ·exact h2 q hq
  have hdz:dep z<z.length:=by omega
  have hOd:=hp _ (List.getElem_mem hd);have bO:=hOd.bd;have bz:=gz.bd _ hd;have nz:=Zd hdz;rw [at_eq hdz]at bz nz
  rw [at_eq hd]at bz
  have hdn:((dep z:Int)=(z.length:Int))=False:=by simp;omega
  have rr:∀{h:PHeap},SeqG h ss sb sp O.length rb' (.fz w0 a0 O.length (pis O)) vP vC→h.rd1 ss 0=some (.ptr sp 0)∧h.rd1 ss 1=some (.sl sb 0 O.length (.known O.length))∧h.rd1 sp 0=some (.fz w0 a0 O.length (pis O)):=fun q=>⟨by rw [zH q.obj];rfl,by rw [zH q.obj];rfl,by rw [zH q.pg.obj];rfl⟩
  obtain⟨r0,r1,e0⟩:=rr hq';simp only [pwA,seval,-iQ0,hd,hdn,r0,e0,zL,gi hdz,gi hd,hdz];refine zEW hOd ⟨by omega,bz.2⟩ fun q qb q1 q2 q3=>?_
  simp only [pwA,seval,-iQ0,hd,hdn,r0,e0,zL,gi hdz,gi hd,hdz];refine PQ.push (bytes:=24) (σb:=σ.set sb rb') hkp hqq' (by omega) (by omega) fun v1 h1 k1 p1=>?_
  have hq1:=(hq.setB rb').keep k1;obtain⟨s0,s1,f0⟩:=rr hq1;simp only [pwA,seval,-iQ0,s0,s1,f0];refine zJs s F (by omega) hq1.pg hR0 gz ⟨wz,az,rfl⟩ (k:=q) (by omega) fun oy capy=>?_
  obtain⟨y1,y2⟩:=QG s F hC hd (Zn gz) q.toNat;have hy1:at_ (Grp.pw (gm O P C) (zv O) z q.toNat) (dep z)=1:=by
   rw [y2,at_eq hdz,at_eq hd,Int.toNat_of_nonneg q1,Int.mul_comm];exact q3
  have hNy:∀N,gB O P C N→N z→N (Grp.pw (gm O P C) (zv O) z q.toNat):=fun N hN h=>hN.pw h _
  generalize Grp.pw (gm O P C) (zv O) z q.toNat=y at *
  have yS:gS O y:=y1.mono (Nat.zero_le _);have hyl:=yS.len;simp only [pwA,seval,-iQ0,s0,s1,f0,zL,gi hd,hd];refine zCj s F hq1.pg hR0 (up yS) ⟨true,.sl oy 0 O.length capy,by rw [hyl]⟩ (k:=O[dep z]) (by omega) fun vo fo=>?_
  have fo':=fo;obtain⟨wo,ao,rfl⟩:=fo;simp only [pwA,seval,-iQ0,s0,s1,f0,zL,gi hd,hd];refine PQ.push (bytes:=24) (σb:=σ.set sb rb') k1 p1 (by omega) (by omega) fun v2 h2 k2 p2=>?_
  have hq2:=(hq.setB rb').keep k2;obtain⟨t0,t1,g0⟩:=rr hq2;have gpo:gS O (Grp.pw (gm O P C) (zv O) y O[dep z].toNat):=G.pw yS _;have fz':FI (.fz wz az z.length (pis z)) z:=⟨wz,az,rfl⟩;have hrq2:All2 FI ((rq'++[.fz wz az z.length (pis z)])++[.fz wo ao _ (pis (Grp.pw (gm O P C) (zv O) y O[dep z].toNat))]) ((Q++[z])++[Grp.pw (gm O P C) (zv O) y O[dep z].toNat]):=(hrq'.snoc fz').snoc fo';have hgQ2:∀q∈(Q++[z])++[Grp.pw (gm O P C) (zv O) y O[dep z].toNat],gS O q:=fun q hq=>by
   rcases List.mem_append.1 hq with hq|hq
   ·rcases List.mem_append.1 hq with hq | hq
    ·exact hgQ' q hq
    ·rw [List.mem_singleton.1 hq];exact gz
   ·rw [List.mem_singleton.1 hq];exact gpo
  simp only [pwA,seval,-iQ0,t0,t1,g0];generalize hQ2:(Q++[z])++[Grp.pw (gm O P C) (zv O) y O[dep z].toNat]=Q2 at *
  have hQ2l:Q2.length=Q.length+1+1:=by rw [←hQ2];simp
  have hmz:z∈Q2:=by rw [←hQ2];simp
  have hmQ:∀q∈Q,q∈Q2:=fun q hq=>by rw [←hQ2];simp [hq]
  have hmp:Grp.pw (gm O P C) (zv O) y O[dep z].toNat∈Q2:=by rw [←hQ2];simp
  have hNQ2:∀N,gB O P C N→N y→((∀q∈Q2,N q)↔(∀q∈Q,N q)∧N z):=fun N hN hy=>by
   rw [←hQ2];refine⟨fun h=>⟨fun q hq=>h q (by simp [hq]),h z (by simp)⟩,fun⟨h3,h4⟩ q hq=>?_⟩
   rcases List.mem_append.1 hq with hq|hq
   ·rcases List.mem_append.1 hq with hq | hq
    ·exact h3 q hq
    ·rw [List.mem_singleton.1 hq];exact h4
   ·rw [List.mem_singleton.1 hq];exact hN.pw hy _
  generalize (rq'++[PV.fz wz az z.length (pis z)])++[.fz wo ao _ (pis (Grp.pw (gm O P C) (zv O) y O[dep z].toNat))]=rq2 at *
  rw [←hQ2l]at p2
  refine zF (fun m us h3=>∃(i:Nat) (vQ:PV) (E:List (List Int)) (re:List PV),i≤O.length∧m=O.length-i∧us=[.ptr ss 0,.bool true,vQ,.fz true (.sl oy 0 O.length capy) O.length (pis y),.int .i64 (dep z),.sl sb 0 O.length (.known O.length),.int .i64 O.length,.int .i64 i]∧Keep (σ.set sb rb') h3∧PQ σ.next h3 vQ (Q2++E).length re∧All2 FI re (Q2++E)∧(∀q∈E,gS O q)∧E.length≤i∧(∀(e:Nat) (b:List Int),e<i→D'[e]? = some (some b)→gcom O P C b y∈E)∧∀N,gB O P C N→InD N D'→N y→∀q∈E,N q) O.length ?_ ?_
  ·exact⟨0,v2,[],_,by omega,by omega,rfl,k2,by rw [List.append_nil];exact p2,by rw [List.append_nil];exact hrq2,fun q hq=>(by cases hq),Nat.le_refl _,fun e b h=>(by omega),fun N _ _ _ q hq=>(by cases hq)⟩
  clear k2 p2 v2 h2 hq2 t0 t1 g0
  as_aux_lemma=>
  rintro m us h3 ⟨i,vQ,E,re,hi,rfl,rfl,k3,p3,hre,hgE,hEl,hcE,hNE⟩
  have hq3:=(hq.setB rb').keep k3;obtain⟨t0,t1,g0⟩:=rr hq3;simp only [pwA,seval,-iQ0];refine iteI (fun hlt=>?_) fun hge=>?_
  rotate_left
  ·have hdb:dep z<rb'.length:=by rw [hrb'.1,hD'.len];exact hd
   have hwr:h3.wr sb (dep z) [.fz true (.sl oy 0 O.length capy) O.length (pis y)]=some (h3.set sb (rb'.set (dep z) (.fz true (.sl oy 0 O.length capy) O.length (pis y)))):=by
    rw [zR hq3.bobj,if_pos ⟨by rw [List.length_singleton];omega,rfl⟩,List.append_assoc,List.singleton_append,List.length_singleton,take_set _ hdb]
   simp only [pwA,seval,-iQ0,t1,hd,hwr];have hnone:D'[dep z]? = some none:=hz1 hd;have hfree:=zCt (y:=y) hnone;refine⟨_,?_,true,Q2++E,vQ,_,D'.set (dep z) (some y),re,rfl,rfl,?_,?_,hre,?_,DRow.put (o:=oy) (cap:=capy) hrb',hD'.put hd y1 hy1,hQq.put hz2 hnone (by simp [hmz]) (fun q hq=>by simp [hmQ q hq]) (by rw [at_eq hd];simp [hmp]) (fun e b hb=>.inl (by
    have:=hcE e b (by
     rcases Nat.lt_or_ge e D'.length with h|h
     ·have:=hD'.len;omega
     ·rw [List.getElem?_eq_none h]at hb;cases hb) hb
    simp [this])),fun N hN=>?_,by omega,fun _=>by omega,?_⟩
   ·simp only [List.length_append];omega
   ·exact⟨k3.next,k3.top,fun t ht=>by
     rw [zI,zI]
     split
     ·rfl
     ·rename_i e
      have:=k3.obj t ht
      rw [zI,if_neg e]at this
      exact this⟩
   ·exact p3.set hq.blt _
   ·intro q hq
    rcases List.mem_append.1 hq with hq|hq
    ·exact hgQ2 q hq
    ·exact hgE q hq
   ·rw [←hS N hN,InD.put hnone]
    constructor
    ·rintro ⟨⟨g1,g2⟩,g3⟩
     obtain⟨g4,g5⟩:=(hNQ2 N hN g2).1 fun q hq=>g3 q (by simp [hq])
     refine⟨g1,fun q hq=>?_⟩
     rcases List.mem_cons.1 hq with rfl|hq
     ·exact(hz2.iff F hN g1).2 g5
     ·exact g4 q hq
    ·rintro ⟨g1,g2⟩
     have gz':=(hz2.iff F hN g1).1 (g2 x (by simp))
     have gy:=hNy N hN gz';refine⟨⟨g1,gy⟩,fun q hq=>?_⟩
     rcases List.mem_append.1 hq with hq|hq
     ·exact(hNQ2 N hN gy).2 ⟨fun q hq=>g2 q (List.mem_cons_of_mem _ hq),gz'⟩ q hq
     ·exact hNE N hN g1 gy q hq
   ·simp only [List.length_append];omega
  have hlt':i<O.length:=by omega
  have hrd3:=zH hq3.bobj i;rcases DRow.get hrb' (d:=i) (by rw [hD'.len];exact hlt')with ⟨e1,e2⟩|⟨oo,cap,b,e1,e2⟩
  ·rw [e1]at hrd3
   simp only [pwA,seval,-iQ0,hlt',hrd3,wrapS hlt' (by omega:O.length≤4611686018427387904)]
   refine⟨_,by omega,i+1,vQ,E,re,by omega,rfl,rfl,k3,p3,hre,hgE,by omega,fun e b h1 h2=>?_,hNE⟩
   rcases Nat.lt_or_ge e i with h|h
   ·exact hcE e b h h2
   ·rw [show e=i by omega,e2]at h2;cases h2
  ·rw [e1]at hrd3
   have bS:gS O b:=(hD'.row _ _ e2).1.mono (Nat.zero_le _);simp only [pwA,seval,-iQ0,hlt',hrd3,t0];refine zEZ s F hq3.pg hR0 bS yS ⟨true,_,by rw [bS.len]⟩ ⟨true,_,by rw [hyl]⟩ fun vc fc=>?_
   have fc':=fc;obtain⟨wc,ac,rfl⟩:=fc;simp only [pwA,seval,-iQ0];refine PQ.push (bytes:=24) (σb:=σ.set sb rb') k3 p3 (by rw [List.length_append];omega) (by rw [List.length_append];omega) fun v4 h4 k4 p4=>?_
   simp only [pwA,seval,-iQ0,wrapS hlt' (by omega:O.length≤4611686018427387904)]
   refine⟨_,by omega,i+1,v4,E++[gcom O P C b y],re++[.fz wc ac (gcom O P C b y).length (pis (gcom O P C b y))],by omega,rfl,rfl,k4,?_,?_,?_,?_,?_,?_⟩
   rotate_left
   ·rw [←List.append_assoc];exact hre.snoc fc'
   ·intro q hq
    rcases List.mem_append.1 hq with hq|hq
    ·exact hgE q hq
    ·rw [List.mem_singleton.1 hq];exact G.com_in bS yS
   ·simp;omega
   ·intro e b' h1 h2
    rcases Nat.lt_or_ge e i with h|h
    ·simp [hcE e b' h h2]
    ·rw [show e=i by omega,e2]at h2;cases h2;simp
   ·intro N hN hD1 hy q hq
    rcases List.mem_append.1 hq with hq|hq
    ·exact hNE N hN hD1 hy q hq
    ·rw [List.mem_singleton.1 hq];exact hN.com_in (hD1 _ _ e2) hy
   ·rw [←List.append_assoc,List.length_append,List.length_singleton];exact p4
end Go.Proofs
namespace Go.Grp
end Go.Grp
namespace Go.Proofs
open Go.Ab Go.Lie Go.Grp
variable {σ:PHeap} {K:PV→PHeap→Prop} {O:List Int} {P:List (List Int)} {C:List (List (List Int))} {vO vP vC vx vy vL vU:PV} {x y z f a b:List Int} {L u:List (List Int)} {rP rC rb:List PV} {D:List (Option (List Int))} {d j sp ss sb n:Nat}
def Ones (O:List Int) (u:List (List Int)):Prop:=∀v∈u,gS O v∧dep v<O.length∧at_ v (dep v)=1
theorem zE8 {o z:Int} (ho:2≤o) (hz:0≤z∧z<o) (h0:z≠0):((o-(z+1) % o) % o).toNat<((o-z) % o).toNat:=by
 have e:(o-z) % o=o-z:=Int.emod_eq_of_lt (by omega) (by omega)
 rw [e]
 by_cases h:z+1=o
 ·rw [h,Int.emod_self,Int.sub_zero,Int.emod_self];omega
 ·rw [Int.emod_eq_of_lt (a:=z+1) (by omega) (by omega),Int.emod_eq_of_lt (by omega) (by omega)];omega
theorem Qf (s:Shp O P C) (F:Full O P C O.length) (hC:Cent O C) (hn:0<O.length) (hs:PtrG σ sp vO vP vC) (hR:IsPr vO vP vC O P C) (hU:FII vU u) (hu:Ones O u) (hasc:u.Pairwise fun a b=>dep a<dep b) (hul:u.length≤1000) (hx:gS O x) (hvx:FI vx x)
  (hk:∀o cap z,gS O z→(∀t,(∀v∈u,t<dep v)→∀j,j≤t→at_ z j=at_ x j)→(∀v∈u,at_ z (dep v)=0)→(∀N,gB O P C N→(∀v∈u,N v)→(N x↔N z))→K (.fz true (.sl o 0 O.length cap) O.length (pis z)) σ):
  zA Tryz.prog 128 [.ptr sp 0,vU,vx] σ K:=by
 have hn6:=s.le;have hxl:=hx.len;have hsl:=hs.lt;obtain⟨wx,ax,rfl⟩:=hvx;have hUU:=hU;obtain⟨wl,al,rl,rfl,hrl⟩:=hU;refine zA.gh ?_;refine zC mix Tryz.func128 ?_
 conv=>arg 2;cbv
 refine zD rfl ?_;simp only [pwA,seval,-iQ0];refine ZP rfl (by omega) ⟨fun h0=>absurd hxl (by rw [h0];simp;omega),fun cap hc=>?_⟩
 rw [hxl]at hc ⊢
 simp only [pwA,seval,-iQ0];refine zAJ hUU (fun v hv=>⟨by rw [(hu v hv).1.len];exact(hu v hv).2.1,by rw [(hu v hv).1.len];omega⟩) (by omega) fun vp=>?_
 simp only [pwA,seval,-iQ0];refine zF (fun m vs h'=>∃(i:Nat) (z:List Int),i≤u.length∧m=u.length-i∧vs=[.ptr sp 0,.fz wl al u.length rl,.sl σ.next 0 O.length cap,.fz true vp u.length (pis (deps u)),.int .i64 u.length,.int .i64 i]∧h'=σ.new (pis z)∧gS O z∧(∀t,(∀v∈u,t<dep v)→∀j,j≤t→at_ z j=at_ x j)∧(∀k (hk:k<u.length),k<i→at_ z (dep u[k])=0)∧(∀N,gB O P C N→(∀v∈u,N v)→(N x↔N z))) u.length ⟨0,x,by omega,by omega,rfl,rfl,hx,fun _ _ _ _=>rfl,fun k _ h=>by omega,fun _ _ _=>Iff.rfl⟩ ?_
 rintro m vs h' ⟨i,z,hi,rfl,rfl,rfl,hz,hj,h0,hN⟩
 simp only [pwA,seval,-iQ0];refine iteI (fun hlt=>?_) fun hge=>?_
 rotate_left
 ·exact Gh.finF (zB σ _) (by simp only [pwA,seval,-iQ0]) (Nat.le_refl _) (zM _ _) hc.ok fun o=>hk o cap z hz hj (fun v hv=>by
   obtain⟨k,hkl,rfl⟩:=List.mem_iff_getElem.1 hv;exact h0 k hkl (by omega)) hN
 obtain⟨w4,a4,hr⟩:=hrl.rowI hlt;obtain⟨u1,u2,u3⟩:=hu _ (List.getElem_mem hlt);have hmem:u[i]∈u:=List.getElem_mem hlt;have hpd:(deps u)[i]? = some (dep u[i]:Int):=by simp [deps,hlt]
 simp only [pwA,seval,-iQ0,hlt,zL,hpd];refine zF (fun m vs h'=>∃(z:List Int),m=((at_ O (dep u[i])-at_ z (dep u[i])) % at_ O (dep u[i])).toNat∧vs=[.ptr sp 0,.fz wl al u.length rl,.sl σ.next 0 O.length cap,.int .i64 i,.int .i64 (dep u[i]),.fz true vp u.length (pis (deps u)),.int .i64 u.length,.int .i64 i]∧h'=σ.new (pis z)∧gS O z∧(∀t,(∀v∈u,t<dep v)→∀j,j≤t→at_ z j=at_ x j)∧(∀k (hk:k<u.length),k<i→at_ z (dep u[k])=0)∧(∀N,gB O P C N→(∀v∈u,N v)→(N x↔N z))) _ ⟨z,rfl,rfl,rfl,hz,hj,h0,hN⟩ ?_
 clear hz hj hN h0 z
 rintro m vs h' ⟨z,rfl,rfl,rfl,hz,hj,h0,hN⟩
 have hzl:=hz.len;have hdz:dep u[i] < z.length:=by omega
 have bz:=hz.bd _ u2;have bO:=s.pr _ u2;simp only [pwA,seval,-iQ0,u2,pisAt hdz];refine iteI (fun heq=>?_) fun hneq=>?_
 ·simp only [pwA,seval,-iQ0,wrapS hlt (by omega:u.length≤4611686018427387904)]
  refine⟨_,by omega,i+1,z,by omega,rfl,rfl,rfl,hz,hj,fun k hkl hk=>?_,hN⟩
  rcases Nat.lt_or_ge k i with h|h
  ·exact h0 k hkl h
  ·have e:k=i:=by omega
   subst e;exact heq
 ·obtain⟨g1,g2,g3⟩:=zEj s F hC u2 hz (Zn u1) u3
  simp only [pwA,seval,-iQ0,hlt,hr];refine qh s F (hs.new _) hR (x:=z) (by simp only [pwA,seval,-iQ0]) (by simp only [pwA,seval,-iQ0]) (by omega) hc (by rw [Nat.sub_self];exact hz) (by rw [Nat.sub_self];exact u1) ⟨w4,a4,rfl⟩ ?_
  simp only [pwA,seval,-iQ0];refine⟨_,?_,_,rfl,rfl,g1,fun t ht j hjt=>?_,fun k hkl hk=>?_,fun N h1 h2=>(hN N h1 h2).trans ⟨fun h=>h1.cl h (h2 _ hmem),fun h=>h1.quotR F.g (h2 _ hmem) hz h⟩⟩
  ·show((at_ O (dep u[i])-at_ (gm O P C z u[i]) (dep u[i])) % at_ O (dep u[i])).toNat<_
   rw [g3];exact zE8 bO.1 bz hneq
  ·show at_ (gm O P C z u[i]) j=_
   rw [g2 j (by have:=ht _ hmem;omega)]
   exact hj t ht j hjt
  ·show at_ (gm O P C z u[i]) (dep u[k])=0
   rw [g2 _ (List.pairwise_iff_getElem.1 hasc k i hkl hlt hk)];exact h0 k hkl hk
end Go.Proofs
namespace Go.Grp
end Go.Grp
namespace Go.Proofs
open Go.Ab Go.Lie Go.Grp
variable {σ:PHeap} {K:PV→PHeap→Prop} {O:List Int} {P:List (List Int)} {C:List (List (List Int))} {vO vP vC vx vy vL vU vB vg:PV} {x y z f a b g:List Int} {L u by_:List (List Int)} {rP rC rb:List PV} {D:List (Option (List Int))} {d j sp ss sb n:Nat}
theorem zAm (s:Shp O P C) (hs:PtrG σ sp vO vP vC) (hR:IsPr vO vP vC O P C) (hk:∀ss sb h',Keep σ h'→σ.next≤ss→σ.next≤sb→SeqG h' ss sb sp O.length (List.replicate O.length (.fz true .nils 0 [])) vO vP vC→K (.ptr ss 0) h'):
  zA Tryz.prog 124 [.ptr sp 0] σ K:=by
 have hn6:=s.le;have hsl:=hs.lt;obtain⟨⟨w0,a0,rfl⟩,_,_⟩:=hR;have e0:σ.rd1 sp 0=some (.fz w0 a0 O.length (pis O)):=by rw [zH hs.obj];rfl
 refine zC mix Tryz.func124 ?_
 conv=>arg 2;cbv
 refine zD rfl ?_;simp only [pwA,seval,-iQ0,e0,mk24 (n:=O.length) (by omega),mkL (n:=O.length) (by omega)]
 exact hk (σ.next+1) σ.next _ ((zB σ _).new _) (by omega) (Nat.le_refl _) ⟨by simp only [pwA,seval,-iQ0],by simp only [pwA,seval,-iQ0],by simp only [pwA,seval,-iQ0],by simp only [pwA,seval,-iQ0];omega,(hs.new _).new _,by omega,by omega⟩
theorem zFW (s:Shp O P C) (F:Full O P C O.length) (hC:Cent O C) (hq:SeqG σ ss sb sp O.length rb vO vP vC) (hR:IsPr vO vP vC O P C) (hD:OkD O D) (hrb:All2 (DRow O.length) rb D)
  (hk:∀v u,FII v u→CanD O P C D u→K v σ):zA Tryz.prog 126 [.ptr ss 0] σ K:=by
 have hn6:=s.le;have r0:σ.rd1 ss 0=some (.ptr sp 0):=by rw [zH hq.obj];rfl
 have r1:σ.rd1 ss 1=some (.sl sb 0 O.length (.known O.length)):=by rw [zH hq.obj];rfl
 have hw:IntKind.i64.wrap ((O.length:Int)-1)=(O.length:Int)-1:=wrap64 (by omega) (by omega)
 refine zA.gh ?_;refine zC mix Tryz.func126 ?_
 conv=>arg 2;cbv
 refine zD rfl ?_;simp only [pwA,seval,-iQ0,r1,hw];refine ZG (fun m vs h2=>∃(k:Nat) (vO:PV) (u:List (List Int)),k≤O.length∧m=k∧vs=[.ptr ss 0,vO,.int .i64 ((k:Int)-1)]∧Keep σ h2∧FII vO u∧Ones O u∧u.length+k≤O.length∧(∀v∈u,k≤dep v)∧(u.Pairwise fun a b=>dep a<dep b)∧(∀v∈u,∀w∈u,dep v≠dep w→at_ v (dep w)=0)∧(∀(d:Nat) (y:List Int),k≤d→D[d]? = some (some y)→∃v∈u,dep v=d)∧(∀N,gB O P C N→((∀x∈u,N x)↔∀d y,k≤d→D[d]? = some (some y)→N y))) O.length (.here ⟨O.length,_,[],Nat.le_refl _,rfl,rfl,Keep.refl σ,⟨_,_,_,rfl,All2.nil _⟩,fun v hv=>(by cases hv),by simp,fun v hv=>(by cases hv),List.Pairwise.nil,fun v hv=>(by cases hv),fun d y h1 h2=>?_,fun N hN=>⟨fun _ d y h1 h2=>?_,fun _ x hx=>(by cases hx)⟩⟩) ?_
 ·rw [List.getElem?_eq_none (by rw [hD.len];exact h1)]at h2;cases h2
 ·rw [List.getElem?_eq_none (by rw [hD.len];exact h1)]at h2;cases h2
 rintro m vs h2 ⟨k,vU,u,hkn,rfl,rfl,hk2,hU,hu,hul,hud,hasc,hred,hall0,hN⟩
 rcases Nat.eq_zero_or_pos m with rfl|hmp
 ·simp only [pwA,seval,-iQ0,show ¬((0:Int)≤((0:Nat):Int)-1) by omega]
  exact Gh.fin0 hk2 (hU.bel _) (hk vU u hU ⟨hu,hasc,hred,fun d y hy=>hall0 d y (Nat.zero_le _) hy,by omega,fun N h1=>(hN N h1).trans ⟨fun h d y hy=>h d y (Nat.zero_le _) hy,fun h d y _ hy=>h d y hy⟩⟩)
 obtain⟨k,rfl⟩:∃k,m=k+1:=⟨m-1,by omega⟩
 have e:((k+1:Nat):Int)-1=(k:Int):=by omega
 have hkn':k<O.length:=hkn;have hrd:=zH (hq.keep hk2).bobj k;have r0':h2.rd1 ss 0=some (.ptr sp 0):=by rw [zH (hq.keep hk2).obj];rfl
 have r1':h2.rd1 ss 1=some (.sl sb 0 O.length (.known O.length)):=by rw [zH (hq.keep hk2).obj];rfl
 rw [e];have hw2:IntKind.i64.wrap ((k:Int)-1)=(k:Int)-1:=wrap64 (by omega) (by omega)
 rcases DRow.get hrb (d:=k) (by rw [hD.len];exact hkn')with ⟨e1,e2⟩|⟨oo,cap,y,e1,e2⟩
 ·rw [e1]at hrd
  simp only [pwA,seval,-iQ0,hkn',r1',hrd,hw2];refine⟨_,Nat.lt_succ_self k,.here ⟨k,vU,u,by omega,rfl,rfl,hk2,hU,hu,by omega,fun v hv=>by have:=hud v hv;omega,hasc,hred,fun d y hd hy=>?_,fun N h1=>(hN N h1).trans ⟨fun h d y hd hy=>?_,fun h d y hd hy=>h d y (by omega) hy⟩⟩⟩
  ·rcases Nat.lt_or_ge k d with x | x
   ·exact hall0 d y x hy
   ·rw [show d=k by omega,e2]at hy;cases hy
  rcases Nat.lt_or_ge k d with x|x
  ·exact h d y x hy
  ·rw [show d=k by omega,e2]at hy;cases hy
 ·rw [e1]at hrd
  obtain⟨y1,y2⟩:=hD.row _ _ e2;have yS:gS O y:=y1.mono (Nat.zero_le _);simp only [pwA,seval,-iQ0,hkn',r0',r1',hrd,hw2];refine Qf s F hC (by omega) (hq.keep hk2).pg hR hU hu hasc (by omega) yS ⟨true,_,by rw [y1.len]⟩ fun oz capz z zS z1 z0 z2=>?_
  have za:∀j,j≤k→at_ z j=at_ y j:=z1 k fun v hv=>hud v hv
  have zt:TT O k z:=⟨zS.len,zS.bd,fun j hj=>by rw [za j (by omega)];exact y1.zero j hj⟩
  have zk:at_ z k=1:=by rw [za k (Nat.le_refl _)];exact y2
  have hzl:=zS.len;have zd:dep z=k:=by
   have h1:=dep_ge zt (by omega)
   rcases Nat.lt_or_ge k (dep z)with h|h
   ·rw [qU h]at zk;omega
   ·omega
  obtain⟨wO,aO,rO,rfl,hrO⟩:=hU;simp only [pwA,seval,-iQ0];refine PSl.cat (bytes:=24) (σb:=h2) (n:=1) (cs:=[.fz true (.sl oz 0 O.length capz) O.length (pis z)]) (zB h2 _) (PSl.new _ 1 rfl (Nat.le_refl _)) hrO.1 (by omega) (by omega) fun v3 h3 k3 a3=>?_
  obtain⟨s3,cap3,rfl,hc3,ho3,hl3,hge3,hlt3⟩:=a3;have hall:All2 FI ([.fz true (.sl oz 0 O.length capz) O.length (pis z)]++rO) (z::u):=(All2.nil FI |>.snoc (⟨true,_,by rw [hzl]⟩:FI (.fz true (.sl oz 0 O.length capz) O.length (pis z)) z)).append hrO
  have hkn2:=hk2.next;simp only [pwA,seval,-iQ0,hw2];refine⟨k,Nat.lt_succ_self k,.fz s3 _ ho3 (hall.bI 0) fun o1=>.here ⟨k,.fz true (.sl o1 0 (1+u.length) cap3) (1+u.length) ([.fz true (.sl oz 0 O.length capz) O.length (pis z)]++rO),z::u,by omega,rfl,?_,(hk2.trans k3).kill (by omega),⟨true,_,_,by rw [List.length_cons,Nat.add_comm],hall⟩,?_,by simp;omega,?_,?_,?_,?_,fun N h1=>?_⟩⟩
  ·simp [sbs,Go.Ab.sb,hc3.ok]
  ·intro v hv
   rcases List.mem_cons.1 hv with rfl|hv
   ·exact⟨zS,by omega,by rw [zd];exact zk⟩
   ·exact hu v hv
  ·intro v hv
   rcases List.mem_cons.1 hv with rfl|hv
   ·omega
   ·have:=hud v hv;omega
  ·rw [List.pairwise_cons]
   exact⟨fun v hv=>by have:=hud v hv;omega,hasc⟩
  ·intro v hv w hw hne
   rcases List.mem_cons.1 hv with ev|hv2
   ·rcases List.mem_cons.1 hw with ew | hw2
    ·rw [ev,ew]at hne;exact absurd rfl hne
    ·rw [ev];exact z0 w hw2
   ·rcases List.mem_cons.1 hw with ew | hw2
    ·rw [ew];exact qU (by have:=hud v hv2;omega)
    ·exact hred v hv2 w hw2 hne
  ·intro d y' hd hy
   rcases Nat.lt_or_ge k d with x|x
   ·obtain⟨v,hv,e⟩:=hall0 d y' x hy
    exact⟨v,List.mem_cons_of_mem _ hv,e⟩
   ·exact⟨z,by simp,by omega⟩
  ·have hsplit:(∀d y,k≤d→D[d]? = some (some y)→N y)↔(N y∧∀d y,k+1≤d→D[d]? = some (some y)→N y):=by
    refine⟨fun h=>⟨h k y (Nat.le_refl _) e2,fun d y hd hy=>h d y (by omega) hy⟩,fun⟨h3,h4⟩ d y' hd hy=>?_⟩
    rcases Nat.lt_or_ge k d with x|x
    ·exact h4 d y' x hy
    ·rw [show d=k by omega,e2]at hy;cases hy;exact h3
   rw [hsplit,←hN N h1,List.forall_mem_cons];refine⟨fun⟨h3,h4⟩=>⟨(z2 N h1 h4).2 h3,h4⟩,fun⟨h3,h4⟩=>⟨(z2 N h1 h4).1 h3,h4⟩⟩
end Go.Proofs
namespace Go.Grp
end Go.Grp
namespace Go.Proofs
open Go.Ab Go.Lie Go.Grp
variable {σ:PHeap} {K:PV→PHeap→Prop} {O:List Int} {P:List (List Int)} {C:List (List (List Int))} {vO vP vC vx vy vL vU vV vB vg:PV} {x y z f a b g:List Int} {L u v z':List (List Int)} {rP rC rb:List PV} {d j sp ss sb n:Nat}
theorem Cons.full (s:Shp O P C) (hc:Cons O P C):Full O P C O.length:=full_of s (Nat.le_refl _) fun j _ h=>hc j h
theorem zW.isp (h:zW O P C):∀o∈O,isP o:=h.2.2.2.1
end Go.Proofs
namespace Go.Grp
end Go.Grp
namespace Go.Proofs
open Go.Ab Go.Lie Go.Grp
variable {σ:PHeap} {K:PV→PHeap→Prop} {O:List Int} {P:List (List Int)} {C:List (List (List Int))} {vO vP vC vx vy vz:PV} {x y z:List Int} {d j sp n:Nat}
structure LG (O:List Int) (P:List (List Int)) (C:List (List (List Int))):Prop where
 pr:zW O P C
 co:Cons O P C
theorem LG.s (g:LG O P C):Shp O P C:=g.pr.shp
theorem LG.F (g:LG O P C):Full O P C O.length:=Cons.full g.s g.co
theorem LG.cent (g:LG O P C):Cent O C:=trivial
theorem zD8 (g:LG O P C) (hR:IsPr vO vP vC O P C) (hx:gS O x) (hvx:FI vx x) {k:Int} (hk0:0≤k∧k≤1000) (hk:∀v,FI v (Grp.pw (gm O P C) (zv O) x k.toNat)→K v σ):
  zA Tryz.prog 117 [.agg [vO,vP,vC],vx,.int .i64 k] σ K:=by
 have h0:=hR.O.one;have h1:=hR.P.one;have h2:=hR.C.one;have M:=g.F.g.toMon;have hk1:¬k<0:=by omega
 refine zA.gh ?_;refine zC mix Tryz.func117 ?_
 conv=>arg 2;cbv
 refine zD rfl ?_;simp only [pwA,seval,-iQ0,h0,h1,h2,hk1];refine Q8 g.s (d:=O.length) (i:=0) (by omega) (QJ g.s (by omega)) M hR hx hvx hk0 fun v hv=>?_
 simp only [pwA,seval,-iQ0];exact Gh.fin0 (zB σ _) (hv.bel _) (hk v hv)
end Go.Proofs
namespace Go.Grp
end Go.Grp
namespace Go.Proofs
open Go.Ab Go.Lie Go.Grp
variable {σ:PHeap} {K:PV→PHeap→Prop} {O:List Int} {P:List (List Int)} {C:List (List (List Int))} {vO vP vC vx vy vz vL:PV} {x y z:List Int} {xs:List (List Int)} {d j sp n:Nat}
theorem isExp.gS (h:isExp O x):gS O x:=⟨h.1,fun j hj=>by have:=h.2 j (by rw [h.1];exact hj);omega,fun j hj=>by omega⟩
theorem zAu (hs:PtrG σ sp vO vP vC) (hR:IsPr vO vP vC O P C) (sz:SzP O P C) (hL:FII vL xs) (szL:SzL xs) (hk:∀t:Bool,(t=true↔(zW O P C∧Cons O P C)∧∀x∈xs,isExp O x)→K (.bool t) σ):zA Tryz.prog 54 [.ptr sp 0,vL] σ K:=by
 have fl:∀{A:Prop},¬A→((false=true)↔A):=fun h=>⟨fun x=>(by cases x),fun x=>absurd x h⟩
 have r3:σ.rd sp 0 3=some [vO,vP,vC]:=by rw [zT hs.obj];rfl
 have hxl:=szL.l;obtain⟨wl,al,rl,rfl,hrl⟩:=hL;refine zC mix Tryz.func54 ?_
 conv=>arg 2;cbv
 refine zD rfl ?_;simp only [pwA,seval,-iQ0,r3];refine QE hR sz fun t ht=>?_
 cases t with
 | false=>
  simp only [pwA,seval,-iQ0];exact hk _ (fl fun h=>by cases ht.2 h.1)
 | true=>
 have hp:=ht.1 rfl;simp only [pwA,seval,-iQ0];refine zF (fun m us h'=>∃i:Nat,i≤xs.length∧m=xs.length-i∧us=[.ptr sp 0,.fz wl al xs.length rl,.int .i64 xs.length,.int .i64 i]∧σ=h'∧∀x∈xs.take i,isExp O x) xs.length ⟨0,by omega,by omega,rfl,rfl,by simp⟩ ?_
 rintro m us h' ⟨i,hi,rfl,rfl,rfl,hall⟩
 simp only [pwA,seval,-iQ0];refine iteI (fun hlt=>?_) fun hge=>?_
 rotate_left
 ·have hie:i=xs.length:=by omega
  subst hie;rw [List.take_length]at hall
  exact hk _ ⟨fun _=>⟨hp,hall⟩,fun _=>rfl⟩
 obtain⟨w4,a4,hr⟩:=hrl.rowI hlt;have hxi:=szL.r _ (List.getElem_mem hlt);simp only [pwA,seval,-iQ0,hlt,hr];refine qj hs hR.O (by have:=hp.1.1;omega) hp.1.isp ⟨w4,a4,rfl⟩ hxi fun t ht=>?_
 cases t with
 | false=>
  simp only [pwA,seval,-iQ0];exact hk _ (fl fun h=>by cases ht.2 (h.2 _ (List.getElem_mem hlt)))
 | true=>
 have h1:=ht.1 rfl;simp only [pwA,seval,-iQ0,wrapS hlt (by omega:xs.length≤4611686018427387904)]
 refine⟨_,by omega,i+1,by omega,rfl,rfl,fun x hx=>?_⟩
 rw [List.take_succ_eq_append_getElem hlt,List.mem_append,List.mem_singleton]at hx
 rcases hx with hx|hx
 ·exact hall x hx
 ·rw [hx];exact h1
end Go.Proofs
namespace Go.Grp
end Go.Grp
namespace Go.Proofs
open Go.Ab Go.Lie Go.Grp
variable {σ:PHeap} {K:PV→PHeap→Prop} {O:List Int} {P:List (List Int)} {C:List (List (List Int))} {vO vP vC vx vy vz vL:PV} {x y z w w':List Int} {xs:List (List Int)} {d j sp n:Nat}
noncomputable def rt (O:List Int) (P:List (List Int)) (C:List (List (List Int))) (z:List Int) (c:Int):List Int:=Classical.epsilon fun w=>Rt O P C z c w
end Go.Proofs
namespace Go.Grp
end Go.Grp
namespace Go.Mx
open Go.Ab Go.Lie Go.Grp
variable {p:Int} {n m d:Nat} {v w:List Int} {A B C:List (List Int)}
structure Ve (p:Int) (n:Nat) (v:List Int):Prop where
 len:v.length=n
 bd:∀j,0≤at_ v j∧at_ v j<p
def Ma (p:Int) (n:Nat) (A:List (List Int)):Prop:=∀r∈A,Ve p n r
def row (A:List (List Int)) (i:Nat):List Int:=A.getD i []
def vstep (p:Int) (x:Int) (r out:List Int):List Int:=List.zipWith (fun o b=>(o+x*b) % p) out r
def vmul (p:Int) (n:Nat) (v:List Int) (A:List (List Int)):Nat→List Int
 | 0=>List.replicate n 0
 | i+1=>vstep p (at_ v i) (row A i) (vmul p n v A i)
abbrev vt (p:Int) (n:Nat) (v:List Int) (A:List (List Int)):List Int:=vmul p n v A v.length
def mm (p:Int) (n:Nat) (A B:List (List Int)):List (List Int):=A.map fun r=>vt p n r B
theorem Ma.row (h:Ma p n A) {i:Nat} (hi:i<A.length):Ve p n (Mx.row A i):=by
 have:Mx.row A i=A[i]:=by simp [Mx.row,List.getD_eq_getElem?_getD,List.getElem?_eq_getElem hi]
 rw [this];exact h _ (List.getElem_mem hi)
theorem row_eq {i:Nat} (hi:i<A.length):Mx.row A i=A[i]:=by simp [Mx.row,List.getD_eq_getElem?_getD,List.getElem?_eq_getElem hi]
theorem Zy {x:Int} {r out:List Int} (h:r.length=out.length):(vstep p x r out).length=out.length:=by simp [vstep,h]
theorem zJd {x:Int} {r out:List Int} (h:r.length=out.length) {j:Nat} (hj:j<out.length):at_ (vstep p x r out) j=(at_ out j+x*at_ r j) % p:=by
 have h1:j<(vstep p x r out).length:=by rw [Zy h];exact hj
 rw [at_eq h1,at_eq hj,at_eq (by omega:j<r.length)]
 simp [vstep]
theorem ZV (hA:Ma p n A):∀{i:Nat},i≤A.length→(vmul p n v A i).length=n
 | 0,_=>by simp [vmul]
 | i+1,hi=>by
  rw [vmul,Zy]
  ·exact ZV hA (by omega)
  ·rw [ZV hA (by omega)];exact(hA.row (by omega)).len
theorem zGh (hp:0<p) (hA:Ma p n A) {j:Nat} (hj:j<n):∀{i:Nat},i≤A.length→at_ (vmul p n v A i) j=(sumN i fun k=>at_ v k*at_ (Mx.row A k) j) % p
 | 0,_=>by rw [vmul,qo,sumN,Int.zero_emod]
 | i+1,hi=>by
  have hl:=ZV (v:=v) hA (i:=i) (by omega)
  rw [vmul,zJd (by rw [hl];exact(hA.row (by omega)).len) (by rw [hl];exact hj),zGh hp hA hj (by omega),sumN,Int.emod_add_emod]
theorem zGg (hp:0<p) (hA:Ma p n A) {i:Nat} (hi:i≤A.length):Ve p n (vmul p n v A i):=by
 refine⟨ZV hA hi,fun j=>?_⟩
 rcases Nat.lt_or_ge j n with h|h
 ·rw [zGh hp hA h hi]
  exact⟨Int.emod_nonneg _ (by omega),Int.emod_lt_of_pos _ hp⟩
 ·rw [at_ge (by rw [ZV hA hi];exact h)];omega
theorem vt_ve (hp:0<p) (hA:Ma p n A) (hv:v.length=A.length):Ve p n (vt p n v A):=zGg hp hA (by omega)
theorem zAL:(mm p n A B).length=A.length:=by simp [mm]
theorem mm_ma (hp:0<p) (hA:Ma p B.length A) (hB:Ma p n B):Ma p n (mm p n A B):=by
 intro r hr;simp only [mm,List.mem_map]at hr
 obtain⟨a,ha,rfl⟩:=hr;exact vt_ve hp hB (hA a ha).len
end Go.Mx
namespace Go.Grp
end Go.Grp
namespace Go.Mx
open Go.Ab Go.Lie Go.Grp
variable {p:Int} {n d:Nat} {As:List (List (List Int))} {X:List (List Int)}
abbrev mat (As:List (List (List Int))) (i:Nat):List (List Int):=As.getD i []
variable {O:List Int} {P:List (List Int)} {C:List (List (List Int))}
def vadd (p c:Int) (v w:List Int):List Int:=vstep p c w v
abbrev vs (p:Int) (n:Nat) (As:List (List (List Int))) (vals:List (List Int)) (v:List Int) (i:Nat):List Int:=vadd p 1 (vt p n v (mat As i)) (vals.getD i [])
end Go.Mx
namespace Go.Grp
end Go.Grp
namespace Go.Proofs
open Go.Ab Go.Lie Go.Grp
variable {O x y:List Int} {P:List (List Int)} {C:List (List (List Int))} {L:List (List Int)}
theorem zA9 (s:Shp O P C) (hx:gS O x) (hy:gS O y) (h:numF O x O.length=numF O y O.length):x=y:=by
 have key:∀i,i≤O.length→numF O x i=numF O y i→∀j,j<i→at_ x j=at_ y j:=by
  intro i
  induction i with
  | zero=>intro _ _ j hj;omega
  | succ i ih=>
   intro hi he j hj;have bx:=hx.bd i hi;have bY:=hy.bd i hi;simp only [numF]at he
   have e1:at_ x i=at_ y i:=by
    have h1:(numF O x i*at_ O i+at_ x i) % at_ O i=at_ x i:=by
     rw [Int.add_comm,Int.add_mul_emod_self_right,Int.emod_eq_of_lt bx.1 bx.2]
    have h2:(numF O y i*at_ O i+at_ y i) % at_ O i=at_ y i:=by
     rw [Int.add_comm,Int.add_mul_emod_self_right,Int.emod_eq_of_lt bY.1 bY.2]
    rw [←h1,←h2,he]
   rcases Nat.lt_or_ge j i with h|h
   ·refine ih (by omega) ?_ j h
    rw [e1]at he
    have h3:numF O x i*at_ O i=numF O y i*at_ O i:=by omega
    exact Int.eq_of_mul_eq_mul_right (by omega) h3
   ·have:j=i:=by omega
    rw [this];exact e1
 exact hx.ext hy fun j h1 h2=>key _ (Nat.le_refl _) h j h2
abbrev BS:=List (List Int)×List (List Int)
def vst (s:BS) (y w:List Int):BS:=if y∈s.1 then s else(s.1++[y],s.2++[w])
def nxt (O:List Int) (P:List (List Int)) (C:List (List (List Int))) (L:List (List Int)) (a w:List Int):Nat→BS→BS
 | 0,s=>s
 | j+1,s=>vst (nxt O P C L a w j s) (gm O P C a (L.getD j [])) (w++[(j:Int)+1])
def stt (O:List Int) (P:List (List Int)) (C:List (List (List Int))) (L:List (List Int)):Nat→BS
 | 0=>([zv O],[[]])
 | k+1=>nxt O P C L ((stt O P C L k).1.getD k []) ((stt O P C L k).2.getD k []) L.length (stt O P C L k)
structure OkS (O:List Int) (P:List (List Int)) (C:List (List (List Int))) (L:List (List Int)) (s:BS):Prop where
 len:s.2.length=s.1.length
 nd:s.1.Nodup
 mem:∀y∈s.1,GC O P C L y
 one:zv O∈s.1
 ws:∀i (h:i<s.2.length),s.2[i].length≤i
def PrS (s t:BS):Prop:=s.1 <+:t.1∧s.2 <+:t.2
theorem PrS.refl (s:BS):PrS s s:=⟨List.prefix_refl _,List.prefix_refl _⟩
theorem PrS.trans {s t u:BS} (a:PrS s t) (b:PrS t u):PrS s u:=⟨a.1.trans b.1,a.2.trans b.2⟩
theorem zH5 (s:BS) (y w:List Int):PrS s (vst s y w):=by
 unfold vst;split
 ·exact PrS.refl s
 ·exact⟨List.prefix_append _ _,List.prefix_append _ _⟩
theorem zKe (s:BS) (y w:List Int):y∈(vst s y w).1:=by
 unfold vst;split
 ·assumption
 ·simp
theorem zBg (a w:List Int) (s:BS):∀j,PrS s (nxt O P C L a w j s)
 | 0=>PrS.refl s
 | j+1=>(zBg a w s j).trans (zH5 _ _ _)
theorem zC6:∀{k m:Nat},k≤m→PrS (stt O P C L k) (stt O P C L m)
 | k,0,h=>by
  have:k=0:=by omega
  subst this;exact PrS.refl _
 | k,m+1,h=>by
  rcases Nat.lt_or_ge k (m+1)with x|x
  ·exact(zC6 (by omega:k≤m)).trans (zBg _ _ _ _)
  ·have:k=m+1:=by omega
   subst this;exact PrS.refl _
theorem Qt {α:Type} {a b:List α} (h:a <+:b) {i:Nat} {v:α} (hi:a[i]? = some v):b[i]? = some v:=by
 obtain⟨t,rfl⟩:=h;have hlt:i<a.length:=by
  rcases Nat.lt_or_ge i a.length with x|x
  ·exact x
  ·rw [List.getElem?_eq_none x]at hi;cases hi
 rw [List.getElem?_append_left hlt];exact hi
theorem OkS.vst {s:BS} (o:OkS O P C L s) {y w:List Int} (hy:GC O P C L y) (hw:w.length≤s.1.length):OkS O P C L (vst s y w):=by
 unfold Go.Proofs.vst
 split
 ·exact o
 ·rename_i hn
  refine⟨by simp [o.len],?_,fun z hz=>?_,List.mem_append_left _ o.one,fun i h=>?_⟩
  ·rw [List.nodup_append]
   exact⟨o.nd,by simp,fun a ha b hb e=>hn (by rw [←List.mem_singleton.1 hb,←e];exact ha)⟩
  ·rcases List.mem_append.1 hz with hz | hz
   ·exact o.mem z hz
   ·rw [List.mem_singleton.1 hz];exact hy
  ·simp only [List.length_append,List.length_cons,List.length_nil]at h
   rw [List.getElem_append]
   split
   ·exact o.ws i _
   ·have:i=s.2.length:=by omega
    subst this;simp only [Nat.sub_self,List.getElem_cons_zero,o.len];exact hw
theorem OkS.nxt {s:BS} (F:Full O P C O.length) (o:OkS O P C L s) (hL:∀l∈L,gS O l) {a w:List Int} (ha:GC O P C L a) (hw:w.length+1≤s.1.length):∀{j},j≤L.length→OkS O P C L (nxt O P C L a w j s)
 | 0,_=>o
 | j+1,hj=>by
  have hlt:j<L.length:=hj;refine(OkS.nxt F o hL ha hw (by omega:j≤L.length)).vst ?_ ?_
  ·have hl:L.getD j []∈L:=by
    rw [List.getD_eq_getElem?_getD,List.getElem?_eq_getElem hlt];exact List.getElem_mem hlt
   exact(GC.sub F hL).cl ha (GC.mem hl)
  ·rw [List.length_append,List.length_singleton]
   have:=(zBg (O:=O) (P:=P) (C:=C) (L:=L) a w s j).1.length_le
   omega
theorem OkS.stt (s:Shp O P C) (F:Full O P C O.length) (hL:∀l∈L,gS O l):∀{k:Nat},(∀i,i<k→i<(stt O P C L i).1.length)→OkS O P C L (stt O P C L k)
 | 0,_=>⟨rfl,by simp [Go.Proofs.stt],fun y hy=>by rw [List.mem_singleton.1 hy];exact(GC.sub F hL).one,by simp [Go.Proofs.stt],fun i h=>by
   simp only [Go.Proofs.stt,List.length_cons,List.length_nil]at h
   have:i=0:=by omega
   subst this;simp [Go.Proofs.stt]⟩
 | k+1,hk=>by
  have o:=OkS.stt s F hL (k:=k) fun i hi=>hk i (by omega)
  have hlt:=hk k (by omega)
  have hl2:k<(Go.Proofs.stt O P C L k).2.length:=by rw [o.len];exact hlt
  refine o.nxt F hL ?_ ?_ (Nat.le_refl _)
  ·rw [List.getD_eq_getElem?_getD,List.getElem?_eq_getElem hlt];exact o.mem _ (List.getElem_mem hlt)
  ·rw [List.getD_eq_getElem?_getD,List.getElem?_eq_getElem hl2]
   have:=o.ws k hl2
   simp only [Option.getD_some];omega
theorem OkS.bound (s:Shp O P C) (F:Full O P C O.length) (hL:∀l∈L,gS O l) {t:BS} (o:OkS O P C L t):(t.1.length:Int)≤ordF O O.length:=by
 have inS:∀y∈t.1,gS O y:=fun y hy=>(GC.sub F hL).inS (o.mem y hy)
 have hb:∀y∈t.1,0≤numF O y O.length∧numF O y O.length<ordF O O.length:=fun y hy=>qx s.pr (fun j hj=>(inS y hy).bd j hj) (Nat.le_refl _)
 have h1:(t.1.map fun y=>(numF O y O.length).toNat).Nodup:=by
  rw [List.Nodup,List.pairwise_map];refine o.nd.imp_of_mem fun {a b} ha hb' hne he=>hne (zA9 s (inS a ha) (inS b hb') ?_)
  have:=hb a ha
  have:=hb b hb'
  omega
 have h2:(t.1.map fun y=>(numF O y O.length).toNat)⊆List.range (ordF O O.length).toNat:=fun k hk=>by
  obtain⟨y,hy,rfl⟩:=List.mem_map.1 hk
  have:=hb y hy
  exact List.mem_range.2 (by omega)
 have h3:=List.Nodup.length_le_of_subset h1 h2;rw [List.length_map,List.length_range]at h3
 have:=(ZX s.pr (Nat.le_refl _)).1
 omega
end Go.Proofs
namespace Go.Grp
end Go.Grp
namespace Go.Proofs
open Go.Ab Go.Lie Go.Grp
variable {O x y:List Int} {P:List (List Int)} {C:List (List (List Int))} {L:List (List Int)}
theorem zGn (a w:List Int) (s:BS):∀{j m:Nat},m<j→gm O P C a (L.getD m [])∈(nxt O P C L a w j s).1
 | j+1,m,h=>by
  rcases Nat.lt_or_ge m j with x|x
  ·exact(zH5 _ _ _).1.subset (zGn a w s x)
  ·have:m=j:=by omega
   subst this;exact zKe _ _ _
theorem zJh {k:Nat} (hk:∀i,i<k→i<(stt O P C L i).1.length) (he:(stt O P C L k).1.length≤k) {y g:List Int} (hy:y∈(stt O P C L k).1) (hg:g∈L):gm O P C y g∈(stt O P C L k).1:=by
 obtain⟨i,hi,rfl⟩:=List.mem_iff_getElem.1 hy;obtain⟨j,hj,rfl⟩:=List.mem_iff_getElem.1 hg;have hik:i<k:=by omega
 have hlt:=hk i hik;have e:(stt O P C L i).1.getD i []=(stt O P C L k).1[i]:=by
  have:=Qt (zC6 (O:=O) (P:=P) (C:=C) (L:=L) (Nat.le_of_lt hik)).1 (List.getElem?_eq_getElem hlt)
  rw [List.getElem?_eq_getElem hi]at this
  rw [List.getD_eq_getElem?_getD,List.getElem?_eq_getElem hlt,Option.getD_some];exact(Option.some.inj this).symm
 have h1:gm O P C ((stt O P C L i).1.getD i []) (L.getD j [])∈(stt O P C L (i+1)).1:=zGn _ _ _ hj;have h2:=(zC6 (O:=O) (P:=P) (C:=C) (L:=L) (show i+1≤k by omega)).1.subset h1
 rw [e,List.getD_eq_getElem?_getD,List.getElem?_eq_getElem hj]at h2
 exact h2
theorem zKj (s:Shp O P C) (F:Full O P C O.length) (hC:Cent O C) (hL:∀l∈L,gS O l) {k:Nat} (hk:∀i,i<k→i<(stt O P C L i).1.length) (he:(stt O P C L k).1.length≤k) (hx:GC O P C L x):x∈(stt O P C L k).1:=by
 have o:=OkS.stt s F hL hk;have G:=F.g;have inS:∀y∈(stt O P C L k).1,gS O y:=fun y hy=>(GC.sub F hL).inS (o.mem y hy)
 have hN:=Qh (O:=O) (P:=P) (C:=C) s F hC (N:=fun y=>gS O y∧∀z∈(stt O P C L k).1,gm O P C z y∈(stt O P C L k).1) (fun y hy=>hy.1) ⟨s.zv _,fun z hz=>by rw [G.r1 (inS z hz)];exact hz⟩ (fun a b ha hb=>⟨G.cl ha.1 hb.1,fun z hz=>by
  rw [←G.as (inS z hz) ha.1 hb.1];exact hb.2 _ (ha.2 z hz)⟩)
 have:=(hx _ hN fun l hl=>⟨hL l hl,fun z hz=>zJh hk he hz hl⟩).2 _ o.one
 rwa [G.l1 ((GC.sub F hL).inS hx)]at this
structure Fnd (O:List Int) (P:List (List Int)) (C:List (List (List Int))) (L:List (List Int)) (x:List Int) (k:Nat):Prop where
 hit:(stt O P C L k).1[k]? = some x
 miss:∀i,i<k→(stt O P C L i).1[i]?≠some x
 lt:∀i,i<k→i<(stt O P C L i).1.length
theorem Fnd.unique {k m:Nat} (a:Fnd O P C L x k) (b:Fnd O P C L x m):k=m:=by
 rcases Nat.lt_trichotomy k m with h|h|h
 ·exact absurd a.hit (b.miss k h)
 ·exact h
 ·exact absurd b.hit (a.miss m h)
theorem Fnd.mem (s:Shp O P C) (F:Full O P C O.length) (hL:∀l∈L,gS O l) {k:Nat} (a:Fnd O P C L x k):GC O P C L x:=by
 have h:=a.hit;have hlt:k<(stt O P C L k).1.length:=by
  rcases Nat.lt_or_ge k (stt O P C L k).1.length with x|x
  ·exact x
  ·rw [List.getElem?_eq_none x]at h;cases h
 rw [List.getElem?_eq_getElem hlt]at h
 cases h;exact(OkS.stt s F hL a.lt).mem _ (List.getElem_mem hlt)
theorem zD5 (s:Shp O P C) (F:Full O P C O.length) (hC:Cent O C) (hL:∀l∈L,gS O l) {k:Nat} (hk:∀i,i<k→i<(stt O P C L i).1.length) (hm:∀i,i<k→(stt O P C L i).1[i]?≠some x) (he:(stt O P C L k).1.length≤k):¬GC O P C L x:=fun hx=>by
 have h:=zKj s F hC hL hk he hx;obtain⟨i,hi,rfl⟩:=List.mem_iff_getElem.1 h;have hik:i<k:=by omega
 refine hm i hik ?_;have hlt:=hk i hik
 have:=Qt (zC6 (O:=O) (P:=P) (C:=C) (L:=L) (Nat.le_of_lt hik)).1 (List.getElem?_eq_getElem hlt)
 rw [List.getElem?_eq_getElem hi]at this
 rw [List.getElem?_eq_getElem hlt,this]
end Go.Proofs
namespace Go.Grp
open Go.Ab Go.Lie
variable {O:List Int} {P:List (List Int)} {C:List (List (List Int))} {x y z a b c g:List Int} {D:List (Option (List Int))} {t i k d:Nat} {N:List Int→Prop}
theorem Gp.pw_inv' {α:Type} [Inhabited α] {S:α→Prop} {m:α→α→α} {e z:α} (G:Gp S m e) (hz:S z) (k:Nat):Grp.pw m e (ginv S m e z) k=ginv S m e (Grp.pw m e z k):=by
 have iz:=(G.inv_in hz).1;refine G.inv_eq (G.pw hz k) (G.pw iz k) ?_
 induction k with
 | zero=>exact G.l1 G.one
 | succ k ih=>
  show m (m (Grp.pw m e z k) z) (m (Grp.pw m e (ginv S m e z) k) (ginv S m e z))=e;rw [G.pw_comm iz k,←G.as (G.cl (G.pw hz k) hz) iz (G.pw iz k),G.as (G.pw hz k) hz iz,G.inv_r hz,G.r1 (G.pw hz k),ih]
section
variable (s:Shp O P C) (F:Full O P C O.length) (hC:Cent O C)
include s F hC
theorem zAw (ht:t<O.length) (hx:gS O x) (hb:TT O t b) (hb1:at_ b t=1):
  gS O (gm O P C x (pw (gm O P C) (zv O) (ginv (gS O) (gm O P C) (zv O) b) (at_ x t).toNat))∧gm O P C (gm O P C x (pw (gm O P C) (zv O) (ginv (gS O) (gm O P C) (zv O) b) (at_ x t).toNat)) (pw (gm O P C) (zv O) b (at_ x t).toNat)=x∧
  Upto O t (gm O P C x (pw (gm O P C) (zv O) (ginv (gS O) (gm O P C) (zv O) b) (at_ x t).toNat)) x∧at_ (gm O P C x (pw (gm O P C) (zv O) (ginv (gS O) (gm O P C) (zv O) b) (at_ x t).toNat)) t=0:=by
 have G:=F.g;have bS:gS O b:=hb.mono (Nat.zero_le _);have ib:=(G.inv_in bS).1;have bx:=hx.bd t ht;have pS:=G.pw bS (at_ x t).toNat;have qS:=G.pw ib (at_ x t).toNat;have hw:=G.cl hx qS;have e:gm O P C (gm O P C x (pw (gm O P C) (zv O) (ginv (gS O) (gm O P C) (zv O) b) (at_ x t).toNat)) (pw (gm O P C) (zv O) b (at_ x t).toNat)=x:=by
  rw [G.as hx qS pS,G.pw_inv' bS,G.inv_l pS,G.r1 hx]
 obtain⟨p1,p2⟩:=QG s F hC ht hb (at_ x t).toNat;refine⟨hw,e,?_,?_⟩<;>generalize gm O P C x (pw (gm O P C) (zv O) (ginv (gS O) (gm O P C) (zv O) b) (at_ x t).toNat)=w at *
 ·obtain⟨g1,g2⟩:=qm s (d:=O.length) (b:=w) (a:=pw (gm O P C) (zv O) b (at_ x t).toNat) (t:=t) (Nat.le_refl _) (by omega) ht (by rw [Nat.sub_self];exact hw) p1
  have e':mu O P C O.length w (pw (gm O P C) (zv O) b (at_ x t).toNat)=x:=e;rw [e']at g1
  exact fun j hj=>(g1 j hj).symm
 ·obtain⟨g1,g2⟩:=qm s (d:=O.length) (b:=w) (a:=pw (gm O P C) (zv O) b (at_ x t).toNat) (t:=t) (Nat.le_refl _) (by omega) ht (by rw [Nat.sub_self];exact hw) p1
  have e':mu O P C O.length w (pw (gm O P C) (zv O) b (at_ x t).toNat)=x:=e;rw [e',p2,hb1,Int.mul_one,Int.toNat_of_nonneg bx.1,Int.emod_eq_of_lt bx.1 bx.2,zJW]at g2
  exact zCy bx (hw.bd t ht) g2.symm
end
end Go.Grp
namespace Go.Grp
end Go.Grp
namespace Go.Proofs
open Go.Ab Go.Lie Go.Grp Go.Mx
variable {σ:PHeap} {K:PV→PHeap→Prop} {p:Int} {n na:Nat} {v w x xs ys:List Int} {A B M:List (List Int)} {vA vB vM vv vx v0:PV} {O:List Int} {P:List (List Int)} {C:List (List (List Int))} {vO vP vC:PV} {s:Nat}
def rl (l:Int) (c k:Nat):List Int:=List.replicate k l++List.replicate (c-k) 0
end Go.Proofs
namespace Go.Grp
end Go.Grp
namespace Go.Proofs
open Go.Ab Go.Lie Go.Grp Go.Mx
abbrev Pre:=List Int×List (List Int)×List (List (List Int))
def fl3:List (PV×PV×PV)→List PV
 | []=>[]
 | q::r=>q.1::q.2.1::q.2.2::fl3 r
def FI3 (q:PV×PV×PV) (g:Pre):Prop:=IsPr q.1 q.2.1 q.2.2 g.1 g.2.1 g.2.2
def FG (v:PV) (G:List Pre):Prop:=∃w a rows,v=.fz w a G.length (fl3 rows)∧All2 FI3 rows G
theorem FG.one {v:PV} {G:List Pre} (h:FG v G):v.one=true:=by obtain⟨w,a,r,rfl,_⟩:=h;rfl
theorem FG.cells {v:PV} {G:List Pre} (h:FG v G):v.cells=[v]:=by obtain⟨w,a,r,rfl,_⟩:=h;rfl
theorem FG.bel {v:PV} {G:List Pre} (h:FG v G) (n:Nat):Bel n v:=by obtain⟨w,a,r,rfl,_⟩:=h;trivial
def need (k:Int):Int:=if k=5 then 3 else if k=4 then 2 else if 1≤k∧k≤6 then 1 else -1
variable {σ:PHeap} {K:PV→PHeap→Prop} {k k':Int} {G G':List Pre} {L L':List (List Int)} {vG vL vG' vL':PV} {s:Nat}
theorem zDS (hin:1≤k∧k≤6) (hk:K (.int .i64 (need k)) σ):zA Tryz.prog 98 [.int .i64 k] σ K:=by
 unfold need at hk
 refine zC mix Tryz.func98 ?_
 conv=>arg 2;cbv
 refine zD rfl ?_
 by_cases h5:k=5
 ·subst h5;simp only [pwA,seval,-iQ0];exact hk
 by_cases h4:k=4
 ·subst h4;simp only [pwA,seval,-iQ0];exact hk
 rw [if_neg h5,if_neg h4,if_pos hin]at hk
 simp only [pwA,seval,-iQ0,h4,h5];exact hk
end Go.Proofs
namespace Go.Proofs
open Go.Ab
def if4:IFn:=⟨[0],[(.tmp 2)],(S0 (R0 [0] [tI0 2 false])
 (S0 (.seq (R0 [0,17] [mI0 16 0,C1 17 6 16])
 (.cond (.t 17) (S0 (R0 [2] [tI0 2 true])
 .ret) .skip))
 (S0 (R0 [3,4,5] [mI0 19 0,C1 20 21 19,mI0 18 20,eI0 21 18 0,eI0 22 18 1,eI0 23 18 2,eI 3 (.alloc [.nils,.nils,.nils]),vI0 3 3 21,mI0 4 22,mI0 5 23])
 (S0 (R0 [3,4,5,6,7] [LI0 25 3,mI0 26 4,mI0 27 5,C3 28 22 25 26 27,mI0 24 28,eI0 29 24 0,eI0 30 24 1,eI 6 (.alloc [(.int .i64 0),.nils,.nils]),vI0 3 6 29,mI0 7 30])
 (S0 (R0 [3,4,5,6,7,8,9] [LI0 32 3,mI0 33 4,mI0 34 5,C3 35 23 32 33 34,mI0 31 35,eI0 36 31 0,eI0 37 31 1,eI 8 (.alloc [(.int .i64 0),.nils,.nils]),vI0 3 8 36,mI0 9 37])
 (S0 (.seq (R0 [3,4,5,6,7,55] [mI0 38 7,mI0 39 9,bI0 40 .neq 38 39,mI0 41 40,G0 42 (.fieldAddr 0 (.t 6)) true 41 false,G0 43 (.load false 1 (.t 42)) true 41 false,G0 44 (.fieldAddr 0 (.t 8)) true 41 false,G0 45 (.load false 1 (.t 44)) true 41 false,G0 46 (.bin .neq .other (.t 43) (.t 45)) true 41 false,oI0 47 41 46,mI0 48 47,G0 49 (.fieldAddr 2 (.t 6)) true 48 false,G0 50 (.load false 1 (.t 49)) true 48 false,G0 51 (.fieldAddr 2 (.t 8)) true 48 false,G0 52 (.load false 1 (.t 51)) true 48 false,G0 53 (.call 24 [(.t 50),(.t 52)]) false 48 false,G0 54 (.un .not (.t 53)) true 48 false,oI0 55 48 54])
 (.cond (.t 55) (S0 (R0 [2] [tI0 2 false])
 .ret) .skip))
 (S0 (R0 [6,7,10,11] [LI0 57 3,mI0 58 4,mI0 59 5,C3 60 25 57 58 59,mI0 56 60,eI0 61 56 0,eI0 62 56 1,eI 10 (.alloc [(.int .i64 0),.nils,.nils]),vI0 3 10 61,mI0 11 62])
 (S0 (.seq (R0 [6,7,10,11,64] [mI0 63 7,cI0 64 .eql 63 1])
 (.cond (.t 64) (S0 (R0 [2] [mI0 65 11,cI0 66 .eql 65 1,mI0 2 66])
 .ret) .skip))
 (S0 (.seq (R0 [6,7,10,11,71] [mI0 67 11,cI0 68 .eql 67 0,mI0 69 7,cI0 70 .eql 69 4,qI 71 (.bin .neq .bool (.t 68) (.t 70))])
 (.cond (.t 71) (S0 (R0 [2] [tI0 2 false])
 .ret) .skip))
 (S0 (.seq (R0 [6,7,10,11,73] [mI0 72 7,cI0 73 .eql 72 0])
 (.cond (.t 73) (S0 (R0 [12,13] [LI0 75 6,C1 76 14 75,mI0 74 76,eI0 77 74 0,eI0 78 74 1,mI0 12 77,mI0 13 78])
 (S0 (R0 [2] [mI0 79 13,cI0 80 .eql 79 0,mI0 81 80,gm0 82 12 81 true,aI0 83 81 82,mI0 2 83])
 .ret)) .skip))
 (S0 (.seq (R0 [7,10,85] [mI0 84 11,cI0 85 .neq 84 0])
 (.cond (.t 85) (S0 (R0 [2] [mI0 86 7,cI0 87 .eql 86 3,mI0 2 87])
 .ret) .skip))
 (S0 (R0 [14,15] [LI0 89 10,C1 90 14 89,mI0 88 90,eI0 91 88 0,eI0 92 88 1,mI0 14 91,mI0 15 92])
 (S0 (R0 [2] [mI0 93 15,cI0 94 .eql 93 0,mI0 95 94,gm0 96 14 95 true,aI0 97 95 96,mI0 2 97])
 .ret)))))))))))))⟩
theorem cf4:cF Tryz.prog Tryz.f4=some if4:=by kernel_rfl
end Go.Proofs
namespace Go.Proofs.YtfoidnlodahfjaaGreat
open Go.ChangeShapes Go.WideShapes Go.ChangeAt Go.RowKit Go.Ab Go.Joins Go.Lie Go.Proofs
theorem own:ownKnob Tryz.prog.godebug=none:=by kernel_rfl
theorem laidOut:laidOutB Tryz.prog=true:=by kernel_rfl
variable {H:Type} {enc:TypeId×Value→H} {W w0:World} {j:Inj} {h:AHeap}
end Go.Proofs.YtfoidnlodahfjaaGreat
