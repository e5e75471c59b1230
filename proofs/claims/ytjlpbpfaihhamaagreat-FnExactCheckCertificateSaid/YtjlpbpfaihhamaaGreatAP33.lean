/- . -/
import Derived.Test.YtjlpbpfaihhamaaGreatAAbPz
import Derived.Test.YtjlpbpfaihhamaaGreatAP31
import Derived.Test.YtjlpbpfaihhamaaGreatAAbPt
import Derived.Test.YtjlpbpfaihhamaaGreatRows
import Derived.Lib.SmallJoins
import Derived.WalkKit
import Derived.ProofKit
open List renaming getElem?_eq_getElem→vX
open Nat renaming le_refl→vM
open Int renaming reduceNatCast'->ah
set_option maxRecDepth 100000
namespace Go.Grp
end Go.Grp
set_option linter.unusedSimpArgs false
set_option linter.unusedVariables false
namespace Go.Proofs
open Go.Ab Go.Lie Go.Grp
variable{O:List Int}{x y:List Int}{j:Nat}
theorem zNS(hx:x.length=O.length):isZ x↔x=zv O:=by
 constructor
 ·intro h
  refine zBI (by simp[hx]) fun j hj=>?_
  rw[at_eq hj,qz];exact h _ (List.getElem_mem hj)
 ·rintro rfl y hy
  exact List.eq_of_mem_replicate hy
end Go.Proofs
set_option linter.unusedSectionVars false
namespace Go.Grp
open Go.Ab Go.Lie
variable{O:List Int}{P:List (List Int)}{C:List (List (List Int))}{x y a b g:List Int}{D:List (Option (List Int))}{t k d:Nat}{N:List Int->Prop}
theorem ZM(hx:gS O x):TT O (dep x) x:=⟨hx.len,hx.bd,fun j hj=>qW hj⟩
theorem dep_ge(hx:TT O t x)(ht:t<=O.length):t<=dep x:=by
 rcases Nat.lt_or_ge (dep x) t with h|h
 ·have hl:=hx.len
  exact absurd (hx.zero _ h) (Zd (by omega))
 ·exact h
theorem Zx(hx:gS O x)(h:O.length<=dep x):x=zv O:=by
 refine zBI (by rw[hx.len];simp) fun j hj=>?_
 rw[qz];exact qW (by have:=hx.len;omega)
theorem zJP(s:Shp O P C):dep (zv O)=O.length:=by
 have h1:=dep_ge (t:=O.length) (s.zv _) (vM _);have h2:=zAa (zv O);rw[(s.zv 0).len]at h2
 omega
theorem zBk{o a b:Int}(ha:0<=a∧a<o)(hb:0<=b∧b<o):addm o a b=(a+b) % o:=by
 unfold addm
 split
 ·have:(a+b) % o=(a+b-o) % o:=by rw[Int.sub_emod_right]
  rw[this,Int.emod_eq_of_lt (by omega) (by omega)]
 ·rw[Int.emod_eq_of_lt (by omega) (by omega)]
section
variable(s:Shp O P C)(F:Full O P C O.length)(hC:Cent O C)
include s F hC
theorem Z9(ht:t<O.length)(hx:TT O t x):∀k:Nat,TT O t (pw (gm O P C) (zv O) x k)∧at_ (pw (gm O P C) (zv O) x k) t=((k:Int)*at_ x t) % at_ O t
 |0=>⟨s.zv _,by show at_ (zv O) t=_;rw[qz];simp⟩
 |k+1=>by
  obtain⟨h1,h2⟩:=Z9 ht hx k;have hO:=s.pr t ht;obtain⟨_,g2⟩:=qV s (d:=O.length) (b:=pw (gm O P C) (zv O) x k) (a:=x) (t:=t) (vM _) (by omega) ht (by rw[Nat.sub_self];exact h1.mono (Nat.zero_le _)) hx
  refine⟨tt_cl s F hC (Nat.le_of_lt ht) h1 hx,?_⟩;show at_ (mu O P C O.length (pw (gm O P C) (zv O) x k) x) t=_;rw[g2,zBk (h1.bd t ht) (hx.bd t ht),h2,Int.emod_add_emod]
  congr 1
  grind
theorem zJS(ht:t<O.length)(hx:TT O t x)(hb:TT O t b)(jX:at_ b t=1):TT O (t+1) (gm O P C (pw (gm O P C) (zv O) b (at_ O t-at_ x t).toNat) x):=by
 obtain⟨h1,h2⟩:=Z9 s F hC ht hb (at_ O t-at_ x t).toNat;have bx:=hx.bd t ht;obtain⟨_,g2⟩:=qV s (d:=O.length) (b:=pw (gm O P C) (zv O) b (at_ O t-at_ x t).toNat) (a:=x) (t:=t) (vM _) (by omega) ht (by rw[Nat.sub_self];exact h1.mono (Nat.zero_le _)) hx
 have h0:=tt_cl s F hC (Nat.le_of_lt ht) h1 hx;have hz:at_ (gm O P C (pw (gm O P C) (zv O) b (at_ O t-at_ x t).toNat) x) t=0:=by
  show at_ (mu O P C O.length _ _) t=0;rw[g2,zBk (h1.bd t ht) bx,h2,jX,Int.mul_one,Int.emod_add_emod,Int.toNat_of_nonneg (by omega),show at_ O t-at_ x t+at_ x t=at_ O t by omega,Int.emod_self]
 refine⟨h0.len,h0.bd,fun j hj=>?_⟩
 rcases Nat.lt_or_ge j t with h|h
 ·exact h0.zero j h
 ·rw[show j=t by omega];exact hz
theorem zK1(ht:t<O.length)(hx:gS O x)(hb:TT O t b)(jX:at_ b t=1):gS O (gm O P C x b)∧Upto O t (gm O P C x b) x∧at_ (gm O P C x b) t=(at_ x t+1) % at_ O t:=by
 obtain⟨g1,g2⟩:=qV s (d:=O.length) (b:=x) (a:=b) (t:=t) (vM _) (by omega) ht (by rw[Nat.sub_self];exact hx) hb
 refine⟨F.g.cl hx (hb.mono (Nat.zero_le _)),g1,?_⟩;show at_ (mu O P C O.length x b) t=_;rw[g2,zBk (hx.bd t ht) (hb.bd t ht),jX]
end
structure OkD(O:List Int)(D:List (Option (List Int))):Prop where
 len:D.length=O.length
 row:∀(d:Nat) (y:List Int),D[d]? = some (some y)->TT O d y∧at_ y d=1
def InD(N:List Int->Prop)(D:List (Option (List Int))):Prop:=∀(d:Nat) (y:List Int),D[d]? = some (some y)->N y
def free:List (Option (List Int))->Nat
 |[]=>0
 |none::D=>free D+1
 |some _::D=>free D
theorem zAB:∀D,free D<=D.length
 |[]=>vM _
 |none::D=>by have:=zAB D;simp only[free,List.length_cons];omega
 |some _::D=>by have:=zAB D;simp only[free,List.length_cons];omega
theorem zDd{y:List Int}:∀{D:List (Option (List Int))} {d:Nat},D[d]? = some none->free (D.set d (some y))+1=free D
 |[],d,h=>by simp at h
 |v::D,0,h=>by
  simp only[List.getElem?_cons_zero,Option.some.injEq]at h
  subst h;rfl
 |v::D,d+1,h=>by
  have:=zDd (y:=y) (D:=D) (d:=d) (by simpa using h)
  cases v<;>simp only[List.set_cons_succ,free]<;>omega
theorem OkD.put(h:OkD O D)(hd:d<O.length)(hy:TT O d y)(h1:at_ y d=1):OkD O (D.set d (some y)):=by
 refine⟨by rw[List.length_set];exact h.len,fun e v hv=>?_⟩
 rw[List.getElem?_set]at hv
 split at hv
 ·rename_i he;subst he
  split at hv
  ·cases hv;exact⟨hy,h1⟩
  ·cases hv
 ·exact h.row e v hv
theorem InD.put(hd:D[d]? = some none):InD N (D.set d (some y))↔InD N D∧N y:=by
  have hl:d<D.length:=by
    rcases Nat.lt_or_ge d D.length with h|h
    · exact h
    · rw[List.getElem?_eq_none h]at hd;cases hd
  constructor
  · intro h
    refine⟨fun e v hv=>h e v ?_,h d y ?_⟩
    · rw[List.getElem?_set,if_neg fun he=>by subst he;rw[hd]at hv;cases hv];exact hv
    · rw[List.getElem?_set,if_pos rfl,if_pos hl]
  · rintro⟨h1,h2⟩ e v hv
    rw[List.getElem?_set]at hv
    split at hv
    · rename_i he;subst he
      first
      |(cases hv;exact h2)
      | (split at hv
         · cases hv;exact h2
         · cases hv)
    · exact h1 e v hv
theorem OkD.start(n:Nat)(hn:n=O.length):OkD O (List.replicate n none):=⟨by simp[hn],fun d y h=>by
 rw[List.getElem?_replicate]at h
 split at h<;>cases h⟩
theorem InD.start(n:Nat):InD N (List.replicate n none):=fun d y h=>by
 rw[List.getElem?_replicate]at h
 split at h<;>cases h
end Go.Grp
namespace Go.Grp
open Go.Ab Go.Lie
variable{O:List Int}{P:List (List Int)}{C:List (List (List Int))}{x y z a b c w:List Int}{t k:Nat}
section
variable{α:Type}{S:α->Prop}{m:α->α->α}{e:α}
theorem Mon.pw_e(M:Mon S m e):∀k,Grp.pw m e e k=e
 |0=>rfl
 |k+1=>by
  show m (Grp.pw m e e k) e=e;rw[M.pw_e k];exact M.l1 M.one
theorem Mon.pw_mul(M:Mon S m e){x:α}(hx:S x)(a:Nat):∀b,Grp.pw m e x (a*b)=Grp.pw m e (Grp.pw m e x a) b
 |0=>rfl
 |b+1=>by
  rw[Nat.mul_succ,M.pw_add hx,M.pw_mul hx a b];rfl
end
def Rt(O:List Int)(P:List (List Int))(C:List (List (List Int)))(z:List Int)(c:Int)(w:List Int):Prop:=
 (z=zv O∧w=zv O)∨(z≠zv O∧∃j y n:Nat,(n:Int)=at_ O 0 ^ j∧Grp.pw (gm O P C) (zv O) z n=zv O∧(c*y) % n=1 % n∧w=Grp.pw (gm O P C) (zv O) z y)
section
variable(s:Shp O P C)(F:Full O P C O.length)(hC:Cent O C)
include s F hC
theorem zH0(ht:t<O.length)(hx:TT O t x):TT O (t+1) (Grp.pw (gm O P C) (zv O) x (at_ O t).toNat):=by
 obtain⟨h1,h2⟩:=Z9 s F hC ht hx (at_ O t).toNat;refine⟨h1.len,h1.bd,fun j hj=>?_⟩
 rcases Nat.lt_or_ge j t with h|h
 ·exact h1.zero j h
 ·rw[show j=t by omega,h2,Int.toNat_of_nonneg (by have:=s.pr t ht;omega),Int.mul_emod_right]
omit hC in
end
end Go.Grp
namespace Go.Grp
open Go.Ab Go.Lie
section
variable{α:Type}[Inhabited α]{S:α->Prop}{m:α->α->α}{e:α}{x y a:α}{N:α->Prop}
structure GSub(S:α->Prop)(m:α->α->α)(e:α)(N:α->Prop):Prop where
 inS:∀{x},N x->S x
 one:N e
 cl:∀{x y},N x->N y->N (m x y)
 inv:∀{x},N x->N (ginv S m e x)
theorem Gp.wholeB(G:Gp S m e):GSub S m e S:=⟨id,G.one,fun a b=>G.cl a b,fun a=>(G.inv_in a).1⟩
theorem GSub.com_in(h:GSub S m e N)(hx:N x)(hy:N y):N (com S m e x y):=h.cl (h.inv hx) (h.cl (h.inv hy) (h.cl hx hy))
theorem GSub.quot(G:Gp S m e)(h:GSub S m e N)(ha:N a)(hx:S x)(hn:N (m a x)):N x:=by
 have h1:=h.cl (h.inv ha) hn
 rwa[<-G.as (h.inS (h.inv ha)) (h.inS ha) hx,G.inv_l (h.inS ha),G.l1 hx]at h1
theorem GSub.quotR(G:Gp S m e)(h:GSub S m e N)(ha:N a)(hx:S x)(hn:N (m x a)):N x:=by
 have h1:=h.cl hn (h.inv ha)
 rwa[G.as hx (h.inS ha) (h.inS (h.inv ha)),G.inv_r (h.inS ha),G.r1 hx]at h1
theorem GSub.pw(h:GSub S m e N)(hx:N x):∀k,N (Grp.pw m e x k)
 |0=>h.one
 |k+1=>h.cl (h.pw hx k) hx
theorem Gp.com_swap'(G:Gp S m e)(hx:S x)(hy:S y):com S m e y x=ginv S m e (com S m e x y):=by
 have h1:=G.com_spec hx hy;have h2:=G.com_spec hy hx;have c1:=G.com_in hx hy;have c2:=G.com_in hy hx;refine G.inv_eq c1 c2 ?_;refine G.cancel (G.cl hy hx) (G.cl c1 c2) G.one ?_;rw[<-G.as (G.cl hy hx) c1 c2,h1,h2,G.r1 (G.cl hy hx)]
end
variable{O:List Int}{P:List (List Int)}{C:List (List (List Int))}{x y z a b c g:List Int}{D D':List (Option (List Int))}{t k d:Nat}{N H:List Int->Prop}{L u u' Q:List (List Int)}
abbrev gB(O:List Int)(P:List (List Int))(C:List (List (List Int)))(N:List Int->Prop):Prop:=GSub (gS O) (gm O P C) (zv O) N
inductive Rdu(O:List Int)(P:List (List Int))(C:List (List (List Int)))(D:List (Option (List Int))):List Int->List Int->Prop where
 |refl (x:List Int):Rdu O P C D x x
 |left {d j:Nat} {b x x' z:List Int} (hd:d<O.length) (hb:D[d]? = some (some b)) (hx:TT O d x) (h0:at_ x d≠0) (dM:TT O (d+1) x') (e:x=gm O P C (pw (gm O P C) (zv O) b j) x') (r:Rdu O P C D x' z):Rdu O P C D x z
 |right {d j:Nat} {b x x' z:List Int} (hd:d<O.length) (hb:D[d]? = some (some b)) (hx:TT O d x) (h0:at_ x d≠0) (dM:TT O (d+1) x') (e:x=gm O P C x' (pw (gm O P C) (zv O) b j)) (r:Rdu O P C D x' z):Rdu O P C D x z
theorem Rdu.trans(h:Rdu O P C D x y)(g:Rdu O P C D y z):Rdu O P C D x z:=by
 induction h with
 |refl x=>exact g
 |left hd hb hx h0 dM e r ih=>exact .left hd hb hx h0 dM e (ih g)
 |right hd hb hx h0 dM e r ih=>exact .right hd hb hx h0 dM e (ih g)
def Sup(D D':List (Option (List Int))):Prop:=∀(d:Nat) (b:List Int),D[d]? = some (some b)->D'[d]? = some (some b)
theorem Rdu.mono(h:Rdu O P C D x z)(s:Sup D D'):Rdu O P C D' x z:=by
 induction h with
 |refl x=>exact .refl x
 |left hd hb hx h0 dM e r ih=>exact .left hd (s _ _ hb) hx h0 dM e ih
 |right hd hb hx h0 dM e r ih=>exact .right hd (s _ _ hb) hx h0 dM e ih
theorem Rdu.iff(F:Full O P C O.length)(hN:gB O P C N)(hD:InD N D)(h:Rdu O P C D x z):N x↔N z:=by
 have G:=F.g
 induction h with
 |refl x=>exact Iff.rfl
 |left hd hb hx h0 dM e r ih=>
  refine Iff.trans ?_ ih;rw[e];exact⟨fun h=>hN.quot G (hN.pw (hD _ _ hb) _) (dM.mono (Nat.zero_le _)) h,fun h=>hN.cl (hN.pw (hD _ _ hb) _) h⟩
 |right hd hb hx h0 dM e r ih=>
  refine Iff.trans ?_ ih;rw[e];exact⟨fun h=>hN.quotR G (hN.pw (hD _ _ hb) _) (dM.mono (Nat.zero_le _)) h,fun h=>hN.cl h (hN.pw (hD _ _ hb) _)⟩
theorem Sup.put(hd:D[d]? = some none):Sup D (D.set d (some y)):=fun e b hb=>by
 rw[List.getElem?_set]
 split
 ·rename_i h;rw[<-h,hd]at hb;cases hb
 ·exact hb
def RQ(O:List Int)(P:List (List Int))(C:List (List (List Int)))(D:List (Option (List Int)))(Q:List (List Int))(x:List Int):Prop:=∃z,Rdu O P C D x z∧(z=zv O∨z∈Q)
structure QI(O:List Int)(P:List (List Int))(C:List (List (List Int)))(D:List (Option (List Int)))(Q:List (List Int)):Prop where
 pow:∀(d:Nat) (b:List Int),D[d]? = some (some b)->RQ O P C D Q (pw (gm O P C) (zv O) b (at_ O d).toNat)
 com:∀(d e:Nat) (b c:List Int),d≠e->D[d]? = some (some b)->D[e]? = some (some c)->RQ O P C D Q (gcom O P C b c)∨RQ O P C D Q (gcom O P C c b)
theorem RQ.step{Q':List (List Int)}(h:RQ O P C D (x::Q) y)(s:Sup D D')(hx:Rdu O P C D x z)(hz:z=zv O∨z∈Q')(hQ:∀q∈Q,q∈Q'):RQ O P C D' Q' y:=by
 obtain⟨w,h1,h2⟩:=h;rcases h2 with rfl|h2
 ·exact⟨_,h1.mono s,.inl rfl⟩
 ·rcases List.mem_cons.1 h2 with rfl|h2
  ·exact⟨z,(h1.trans hx).mono s,hz⟩
  ·exact⟨w,h1.mono s,.inr (hQ w h2)⟩
theorem zDU{n d:Nat}{b:List Int}(h:(List.replicate n (none:Option (List Int)))[d]? = some (some b)):False:=by
 rw[List.getElem?_replicate]at h
 split at h<;>cases h
theorem QI.start(n:Nat):QI O P C (List.replicate n none) Q:=⟨fun d b h=>(zDU h).elim,fun d e b c _ h _=>(zDU h).elim⟩
theorem QI.mem{Q':List (List Int)}(h:QI O P C D Q)(hQ:∀q∈Q,q∈Q'):QI O P C D Q':=
 have r:∀{x},RQ O P C D Q x->RQ O P C D Q' x:=fun⟨z,h1,h2⟩=>⟨z,h1,h2.imp id (hQ z)⟩
 ⟨fun d b hb=>r (h.pow d b hb),fun d e b c aC hb hc=>(h.com d e b c aC hb hc).imp r r⟩
theorem QI.drop(h:QI O P C D (x::Q))(hx:Rdu O P C D x (zv O)):QI O P C D Q:=
 have r:∀{y},RQ O P C D (x::Q) y->RQ O P C D Q y:=fun h=>h.step (fun d b hb=>hb) hx (.inl rfl) fun q hq=>hq
 ⟨fun d b hb=>r (h.pow d b hb),fun d e b c aC hb hc=>(h.com d e b c aC hb hc).imp r r⟩
theorem QI.put{Q':List (List Int)}(h:QI O P C D (x::Q))(hx:Rdu O P C D x z)(hd:D[d]? = some none)(hz:z∈Q')(hQ:∀q∈Q,q∈Q')(hp:pw (gm O P C) (zv O) y (at_ O d).toNat∈Q')(hc:∀(e:Nat) (b:List Int),D[e]? = some (some b)->gcom O P C b y∈Q'∨gcom O P C y b∈Q'):QI O P C (D.set d (some y)) Q':=by
  have hl:d<D.length:=by
    rcases Nat.lt_or_ge d D.length with h|h
    · exact h
    · rw[List.getElem?_eq_none h]at hd;cases hd
  have s:Sup D (D.set d (some y)):=Sup.put hd;have r:∀{w},RQ O P C D (x::Q) w->RQ O P C (D.set d (some y)) Q' w:=fun h=>h.step s hx (.inr hz) hQ
  have ge:∀(e:Nat) (b:List Int),(D.set d (some y))[e]? = some (some b)->(e=d∧b=y)∨(e≠d∧D[e]? = some (some b)):=fun e b hb=>by
    rw[List.getElem?_set]at hb
    split at hb
    · rename_i he
      subst he
      first
      |(cases hb;exact .inl ⟨rfl,rfl⟩)
      | (split at hb
         · cases hb;exact .inl ⟨rfl,rfl⟩
         · cases hb)
    · rename_i he;exact .inr ⟨fun h=>he h.symm,hb⟩
  refine⟨fun e b hb=>?_,fun e e' b c aC hb fg=>?_⟩
  · rcases ge e b hb with ⟨k1,k2⟩|⟨_,fO⟩
    · rw[k1,k2];exact⟨_,.refl _,.inr hp⟩
    · exact r (h.pow e b fO)
  · rcases ge e b hb with ⟨k1,k2⟩|⟨h1,fO⟩
    · rcases ge e' c fg with ⟨l1,l2⟩|⟨h2,eE⟩
      · omega
      · rw[k2]
        rcases hc e' c eE with h3|h3
        · exact .inr ⟨_,.refl _,.inr h3⟩
        · exact .inl ⟨_,.refl _,.inr h3⟩
    · rcases ge e' c fg with ⟨l1,l2⟩|⟨h2,eE⟩
      · rw[l2]
        rcases hc e b fO with h3|h3
        · exact .inl ⟨_,.refl _,.inr h3⟩
        · exact .inr ⟨_,.refl _,.inr h3⟩
      · exact(h.com e e' b c aC fO eE).imp r r
section
variable(s:Shp O P C)(F:Full O P C O.length)(hC:Cent O C)
include s F hC
theorem zHx(hx:gS O x):∃E:Nat,0<E∧pw (gm O P C) (zv O) x E=zv O:=by
 have M:=F.g.toMon
 have:∀t,t<=O.length->∃E:Nat,0<E∧TT O t (pw (gm O P C) (zv O) x E):=by
  intro t
  induction t with
  |zero=>intro _;exact⟨1,by omega,by rw[M.pw_one hx];exact hx⟩
  |succ t ih=>
   intro ht;obtain⟨E,h1,h2⟩:=ih (by omega)
   have hO:=s.pr t (by omega)
   refine⟨E*(at_ O t).toNat,Nat.mul_pos h1 (by omega),?_⟩
   rw[M.pw_mul hx];exact zH0 s F hC (by omega) h2
 obtain⟨E,h1,h2⟩:=this O.length (vM _);exact⟨E,h1,h2.ext (s.zv _) fun j h1 h2=>by omega⟩
theorem zBO(inS:∀x,N x->gS O x)(one:N (zv O))(cl:∀x y,N x->N y->N (gm O P C x y)):gB O P C N:=by
 have G:=F.g;have Am:∀{x},N x->∀k,N (pw (gm O P C) (zv O) x k):=fun {x} hx k=>by
  induction k with
  |zero=>exact one
  |succ k ih=>exact cl _ _ ih hx
 refine⟨fun h=>inS _ h,one,fun h g=>cl _ _ h g,fun {x} hx=>?_⟩
 obtain⟨E,h1,h2⟩:=zHx s F hC (inS x hx);have e:pw (gm O P C) (zv O) x (E-1)=ginv (gS O) (gm O P C) (zv O) x:=by
  refine G.inv_eq (inS x hx) (inS _ (Am hx _)) ?_
  have:=G.pw_comm (inS x hx) (E-1)
  rw[<-this];rw[show E=(E-1)+1 by omega]at h2
  exact h2
 rw[<-e];exact Am hx _
def HD(O:List Int)(P:List (List Int))(C:List (List (List Int)))(D:List (Option (List Int)))(t:Nat)(x:List Int):Prop:=TT O t x∧Rdu O P C D x (zv O)
omit hC in
theorem HD.row(ok:OkD O D)(hb:D[d]? = some (some b))(hd:d<O.length):HD O P C D d b:=by
 have M:=F.g.toMon;obtain⟨h1,h2⟩:=ok.row d b hb;have hM:gS O b:=h1.mono (Nat.zero_le _);refine⟨h1,.left (j:=1) hd hb h1 (by rw[h2];decide) (s.zv _) ?_ (.refl _)⟩
 rw[M.pw_one hM];exact(M.r1 hM).symm
theorem HD.nn(hn:D[t]? = some none)(h:HD O P C D t x):HD O P C D (t+1) x:=by
 obtain⟨h1,h2⟩:=h;refine⟨?_,h2⟩;have key:∀{d:Nat} {b:List Int},D[d]? = some (some b)->TT O d x->at_ x d≠0->TT O (t+1) x:=fun {d b} hb hx h0=>by
  rcases Nat.lt_trichotomy d t with h|h|h
  ·exact absurd (h1.zero d h) h0
  ·rw[h,hn]at hb;cases hb
  ·exact hx.mono h
 cases h2 with
 |refl=>exact s.zv _
 |left hd hb hx h0 dM e r=>exact key hb hx h0
 |right hd hb hx h0 dM e r=>exact key hb hx h0
theorem HD.cnjb(ok:OkD O D)(q:QI O P C D [])(ht:t<O.length)(hb:D[t]? = some (some b))(hs:gB O P C (HD O P C D (t+1))):∀{x z:List Int},Rdu O P C D x z->z=zv O->TT O (t+1) x->HD O P C D (t+1) (cnj (gS O) (gm O P C) (zv O) x b):=by
 have G:=F.g;have bS:gS O b:=(ok.row t b hb).1.mono (Nat.zero_le _);have cm:∀{x y:List Int},gS O x->gS O y->cnj (gS O) (gm O P C) (zv O) (gm O P C x y) b=gm O P C (cnj (gS O) (gm O P C) (zv O) x b) (cnj (gS O) (gm O P C) (zv O) y b):=fun {x y} hx hy=>by
  have c1:=G.cnj_in hx bS;have c2:=G.cnj_in hy bS;refine(G.cnj_eq (G.cl hx hy) bS (G.cl c1 c2) ?_).symm;rw[<-G.as bS c1 c2,G.cnj_spec hx bS,G.as hx bS c2,G.cnj_spec hy bS,<-G.as hx hy bS]
 have tU:cnj (gS O) (gm O P C) (zv O) (zv O) b=zv O:=G.cnj_one bS;have Bz:∀{c:List Int},gS O c->HD O P C D (t+1) (cnj (gS O) (gm O P C) (zv O) c b)->∀j,HD O P C D (t+1) (cnj (gS O) (gm O P C) (zv O) (pw (gm O P C) (zv O) c j) b):=fun {c} hc h j=>by
  induction j with
  |zero=>show HD O P C D (t+1) (cnj _ _ _ (zv O) b);rw[tU];exact hs.one
  |succ j ih=>
   show HD O P C D (t+1) (cnj _ _ _ (gm O P C _ c) b);rw[cm (G.pw hc j) hc];exact hs.cl ih h
 have row:∀{d:Nat} {c:List Int},t+1<=d->d<O.length->D[d]? = some (some c)->gS O c∧HD O P C D (t+1) (cnj (gS O) (gm O P C) (zv O) c b):=fun {d c} h1 h2 hc=>by
  have cT:=(ok.row d c hc).1;have cS:gS O c:=cT.mono (Nat.zero_le _);refine⟨cS,?_⟩;rw[<-G.cnj_com cS bS];have Bf:=HD.row s F ok hc h2;have Bi:HD O P C D (t+1) c:=⟨Bf.1.mono h1,Bf.2⟩;refine hs.cl Bi ?_;have T1:TT O (t+1) (gcom O P C c b):=zM8 s F hC ht Bi.1 (ok.row t b hb).1;have e0:∀{w},RQ O P C D [] w->Rdu O P C D w (zv O):=fun⟨z,h1,h2⟩=>by
   rcases h2 with rfl|h2
   ·exact h1
   ·cases h2
  rcases q.com t d b c (by omega) hb hc with h3|h3
  ·have B4:gcom O P C b c=ginv (gS O) (gm O P C) (zv O) (gcom O P C c b):=G.com_swap' cS bS
   have B3:gcom O P C c b=ginv (gS O) (gm O P C) (zv O) (gcom O P C b c):=G.com_swap' bS cS;have T2:TT O (t+1) (gcom O P C b c):=by rw[B4];exact zFj s F hC ht T1
   have T3:HD O P C D (t+1) (gcom O P C c b):=by rw[B3];exact hs.inv ⟨T2,e0 h3⟩
   exact T3
  ·exact⟨T1,e0 h3⟩
 intro x z h
 induction h with
 |refl x=>rintro rfl hx;rw[tU];exact hs.one
 | @left d j c x x' z hd hc hx h0 dM e r ih=>
  intro hz hT;have mi:t+1<=d:=by
   rcases Nat.lt_or_ge d (t+1)with h|h
   ·exact absurd (hT.zero d h) h0
   ·exact h
  obtain⟨r1,r2⟩:=row mi hd hc;have nC:gS O x':=dM.mono (Nat.zero_le _);rw[e,cm (G.pw r1 j) nC];exact hs.cl (Bz r1 r2 j) (ih hz (dM.mono (by omega)))
 | @right d j c x x' z hd hc hx h0 dM e r ih=>
  intro hz hT;have mi:t+1<=d:=by
   rcases Nat.lt_or_ge d (t+1)with h|h
   ·exact absurd (hT.zero d h) h0
   ·exact h
  obtain⟨r1,r2⟩:=row mi hd hc;have nC:gS O x':=dM.mono (Nat.zero_le _);rw[e,cm nC (G.pw r1 j)];exact hs.cl (ih hz (dM.mono (by omega))) (Bz r1 r2 j)
theorem HD.sub(ok:OkD O D)(q:QI O P C D []):∀k t,t+k=O.length->gB O P C (HD O P C D t)
 |0,t,ht=>by
  have hz:∀x,HD O P C D t x->x=zv O:=fun x hx=>hx.1.ext (s.zv _) fun j h1 h2=>by omega
  have h0:HD O P C D t (zv O):=⟨s.zv _,.refl _⟩;refine zBO s F hC (fun x hx=>hx.1.mono (Nat.zero_le _)) h0 fun x y hx hy=>?_
  rw[hz x hx,hz y hy,F.g.l1 F.g.one];exact h0
 |k+1,t,ht=>by
  have ih:=HD.sub ok q k (t+1) (by omega)
  have G:=F.g;have iD:t<O.length:=by omega
  have m8:t<D.length:=by rw[ok.len];exact iD
  rcases hD:D[t]? with _|_|b
  ·rw[vX m8]at hD;cases hD
  ·refine zBO s F hC (fun x hx=>hx.1.mono (Nat.zero_le _)) ⟨s.zv _,.refl _⟩ fun x y hx hy=>?_
   have:=ih.cl (HD.nn s F hC hD hx) (HD.nn s F hC hD hy)
   exact⟨this.1.mono (by omega),this.2⟩
  ·obtain⟨bT,b1⟩:=ok.row t b hD
   have bS:gS O b:=bT.mono (Nat.zero_le _);have inS:∀{x},HD O P C D (t+1) x->gS O x:=fun h=>h.1.mono (Nat.zero_le _)
   -- rI of a mE of b and a wE behind
   have mk:∀(j:Nat) {h:List Int},HD O P C D (t+1) h->HD O P C D t (gm O P C (pw (gm O P C) (zv O) b j) h):=fun j {h} hh=>by
    obtain⟨p1,p2⟩:=Z9 s F hC iD bT j;have EP:=inS hh;have T:=tt_cl s F hC (Nat.le_of_lt iD) p1 (hh.1.mono (Nat.le_succ _));refine⟨T,?_⟩;obtain⟨_,g2⟩:=qV s (d:=O.length) (b:=pw (gm O P C) (zv O) b j) (a:=h) (t:=t) (vM _) (by omega) iD (by rw[Nat.sub_self];exact p1.mono (Nat.zero_le _)) (hh.1.mono (Nat.le_succ _))
    have hO:=s.pr t iD;have e2:at_ (gm O P C (pw (gm O P C) (zv O) b j) h) t=(j:Int) % at_ O t:=by
     show at_ (mu O P C O.length _ _) t=_;rw[g2,zBk (p1.bd t iD) (hh.1.bd t iD),hh.1.zero t (Nat.lt_succ_self _),p2,b1,Int.mul_one,Int.add_zero,Int.emod_emod_of_dvd _ (Int.dvd_refl _)]
    by_cases h0:(j:Int) % at_ O t=0
    ·obtain⟨r,hr⟩:=Int.dvd_of_emod_eq_zero h0
     have pT:0<=r:=by
      rcases Int.lt_or_le r 0 with h|h
      ·have:=Int.mul_neg_of_pos_of_neg (show 0<at_ O t by omega) h;omega
      ·exact h
     have ej:j=(at_ O t).toNat*r.toNat:=by
      have:((j:Nat):Int)=(((at_ O t).toNat*r.toNat:Nat):Int):=by rw[Int.natCast_mul,Int.toNat_of_nonneg pT,Int.toNat_of_nonneg (by omega),hr]
      omega
     have hp:HD O P C D (t+1) (pw (gm O P C) (zv O) b (at_ O t).toNat):=by
      refine⟨zH0 s F hC iD bT,?_⟩;obtain⟨z,h1,h2⟩:=q.pow t b hD;rcases h2 with rfl|h2
      ·exact h1
      ·cases h2
     rw[ej,G.pw_mul bS];exact(ih.cl (ih.pw hp r.toNat) hh).2
    ·exact .left iD hD T (by rw[e2];exact h0) hh.1 rfl hh.2
   have mv:∀(j:Nat) {h:List Int},HD O P C D (t+1) h->∃h',HD O P C D (t+1) h'∧gm O P C h (pw (gm O P C) (zv O) b j)=gm O P C (pw (gm O P C) (zv O) b j) h':=fun j=>by
    induction j with
    |zero=>exact fun {h} hh=>⟨h,hh,by show gm O P C h (zv O)=gm O P C (zv O) h;rw[G.r1 (inS hh),G.l1 (inS hh)]⟩
    |succ j ij=>
     intro h hh;obtain⟨h1,a1,a2⟩:=ij hh;have a3:=HD.cnjb s F hC ok q iD hD ih a1.2 rfl a1.1;refine⟨_,a3,?_⟩;have xD:=G.pw bS j;show gm O P C h (gm O P C (pw (gm O P C) (zv O) b j) b)=gm O P C (gm O P C (pw (gm O P C) (zv O) b j) b) _;rw[<-G.as (inS hh) xD bS,a2,G.as xD (inS a1) bS,G.as xD bS (inS a3),G.cnj_spec (inS a1) bS]
   have split:∀{x},HD O P C D t x->∃j h,HD O P C D (t+1) h∧x=gm O P C (pw (gm O P C) (zv O) b j) h:=fun {x} hx=>by
    obtain⟨hT,hr⟩:=hx;have deep:∀{d},TT O d x->at_ x d≠0->d≠t->TT O (t+1) x:=fun {d} h1 h0 aC=>by
     rcases Nat.lt_trichotomy d t with h|h|h
     ·exact absurd (hT.zero d h) h0
     ·exact absurd h aC
     ·exact h1.mono h
    have triv:TT O (t+1) x->Rdu O P C D x (zv O)->∃j h,HD O P C D (t+1) h∧x=gm O P C (pw (gm O P C) (zv O) b j) h:=fun h1 h2=>⟨0,x,⟨h1,h2⟩,(G.l1 (h1.mono (Nat.zero_le _))).symm⟩
    have pT:=hr;cases hr with
    |refl=>exact triv (s.zv _) (.refl _)
    | @left d j c _ x' _ hd hc h1 h0 dM e r=>
     by_cases mi:d=t
     ·subst mi
      rw[hD]at hc;cases hc
      exact⟨j,x',⟨dM,r⟩,e⟩
     ·exact triv (deep h1 h0 mi) pT
    | @right d j c _ x' _ hd hc h1 h0 dM e r=>
     by_cases mi:d=t
     ·subst mi
      rw[hD]at hc;cases hc
      obtain⟨h',a1,a2⟩:=mv j (show HD O P C D (d+1) x' from⟨dM,r⟩)
      exact⟨j,h',a1,by rw[e,a2]⟩
     ·exact triv (deep h1 h0 mi) pT
   refine zBO s F hC (fun x hx=>hx.1.mono (Nat.zero_le _)) ⟨s.zv _,.refl _⟩ fun x y hx hy=>?_
   obtain⟨j,h,a1,rfl⟩:=split hx;obtain⟨j',h',a2,rfl⟩:=split hy;obtain⟨h2,a3,a4⟩:=mv j' a1;have p1:=G.pw bS j;have p2:=G.pw bS j';have e:gm O P C (gm O P C (pw (gm O P C) (zv O) b j) h) (gm O P C (pw (gm O P C) (zv O) b j') h')=gm O P C (pw (gm O P C) (zv O) b (j+j')) (gm O P C h2 h'):=by
    rw[G.as p1 (inS a1) (G.cl p2 (inS a2)),<-G.as (inS a1) p2 (inS a2),a4,G.as p2 (inS a3) (inS a2),<-G.as p1 p2 (G.cl (inS a3) (inS a2)),G.pw_add bS]
   rw[e];exact mk _ (ih.cl a3 a2)
omit hC in
theorem HD.fil(h:HD O P C D t x)(hd:dep x<O.length):∃b,D[dep x]? = some (some b):=by
 obtain⟨h1,h2⟩:=h;have key:∀{d:Nat} {b:List Int},D[d]? = some (some b)->TT O d x->at_ x d≠0->∃b,D[dep x]? = some (some b):=fun {d b} hb hx h0=>by
  have:dep x=d:=zGh (fun j hj=>hx.zero j hj) h0
  rw[this];exact⟨b,hb⟩
 cases h2 with
 |refl=>rw[zJP s]at hd;omega
 |left hd hb hx h0 dM e r=>exact key hb hx h0
 |right hd hb hx h0 dM e r=>exact key hb hx h0
end
def GC(O:List Int)(P:List (List Int))(C:List (List (List Int)))(L:List (List Int))(x:List Int):Prop:=∀N,gB O P C N->(∀l∈L,N l)->N x
theorem GC.sub(F:Full O P C O.length)(hL:∀l∈L,gS O l):gB O P C (GC O P C L):=
 ⟨fun h=>h _ F.g.wholeB hL,fun N hN _=>hN.one,fun h g N hN hl=>hN.cl (h N hN hl) (g N hN hl),fun h N hN hl=>hN.inv (h N hN hl)⟩
theorem GC.mem(h:x∈L):GC O P C L x:=fun N _ hl=>hl x h
structure CanG(O:List Int)(H:List Int->Prop)(u:List (List Int)):Prop where
 asc:u.Pairwise fun a b=>dep a<dep b
 mem:∀v∈u,H v
 one:∀v∈u,gS O v∧dep v<O.length∧at_ v (dep v)=1
 red:∀v∈u,∀w∈u,dep v≠dep w->at_ v (dep w)=0
 all:∀x,H x->dep x<O.length->∃v∈u,dep v=dep x
theorem zGt:∀{u u':List (List Int)},(u.Pairwise fun a b=>dep a<dep b)->(u'.Pairwise fun a b=>dep a<dep b)->(∀v,v∈u↔v∈u')->u=u'
 |[],[],_,_,_=>rfl
 |[],v::u',_,_,h=>by have:=(h v).2 (by simp);cases this
 |v::u,[],_,_,h=>by have:=(h v).1 (by simp);cases this
 |v::u,w::u',h1,h2,h=>by
  rw[List.pairwise_cons]at h1 h2
  have e:v=w:=by
   rcases List.mem_cons.1 ((h v).1 (by simp))with e|e
   ·exact e
   ·rcases List.mem_cons.1 ((h w).2 (by simp))with e'|e'
    ·exact e'.symm
    ·have:=h2.1 v e;have:=h1.1 w e';omega
  subst e;rw[zGt h1.2 h2.2 fun x=>?_]
  constructor
  ·intro hx
   rcases List.mem_cons.1 ((h x).1 (by simp[hx]))with e|e
   ·subst e;have:=h1.1 x hx;omega
   ·exact e
  ·intro hx
   rcases List.mem_cons.1 ((h x).2 (by simp[hx]))with e|e
   ·subst e;have:=h2.1 x hx;omega
   ·exact e
theorem CanG.row_eq(s:Shp O P C)(F:Full O P C O.length)(hH:gB O P C H)(h:CanG O H u)(h':CanG O H u'){v v':List Int}(hv:v∈u)(gk:v'∈u')(hd:dep v=dep v'):v=v':=by
 have G:=F.g;obtain⟨a1,a2,a3⟩:=h.one v hv;obtain⟨b1,b2,b3⟩:=h'.one v' gk;have iv:=G.inv_in a1;have hz:H (gm O P C (ginv (gS O) (gm O P C) (zv O) v) v'):=hH.cl (hH.inv (h.mem v hv)) (h'.mem v' gk);have e:gm O P C v (gm O P C (ginv (gS O) (gm O P C) (zv O) v) v')=v':=by rw[<-G.as a1 iv.1 b1,iv.2,G.l1 b1]
 generalize gm O P C (ginv (gS O) (gm O P C) (zv O) v) v'=z at *
 have zS:=hH.inS hz;rcases Nat.lt_or_ge (dep z) O.length with hdz|hdz
 ·exfalso
  obtain⟨g1,g2⟩:=qV s (d:=O.length) (b:=v) (a:=z) (t:=dep z) (vM _) (by omega) hdz (by rw[Nat.sub_self];exact a1) (ZM zS)
  have e':mu O P C O.length v z=v':=e;rw[e']at g1 g2
  have eM:at_ z (dep z)≠0:=Zd (by rw[zS.len];exact hdz)
  have fC:at_ v' (dep z)=at_ v (dep z):=by
   rcases Nat.lt_trichotomy (dep z) (dep v)with h1|h1|h1
   ·rw[qW h1,qW (by omega)]
   ·rw[h1,a3,hd,b3]
   ·obtain⟨w,hw,ew⟩:=h.all z hz hdz
    obtain⟨w',lS,Ee⟩:=h'.all z hz hdz;rw[<-ew,h.red v hv w hw (by omega),ew,<-Ee,h'.red v' gk w' lS (by omega)]
  have:=zBl (a1.bd _ hdz) (zS.bd _ hdz) (g2.symm.trans fC)
  exact eM this
 ·rw[Zx zS hdz,G.r1 a1]at e
  exact e
theorem CanG.unique(s:Shp O P C)(F:Full O P C O.length)(hH:gB O P C H)(h:CanG O H u)(h':CanG O H u'):u=u':=by
 refine zGt h.asc h'.asc fun v=>⟨fun hv=>?_,fun hv=>?_⟩
 ·obtain⟨w,hw,e⟩:=h'.all v (h.mem v hv) (h.one v hv).2.1
  rw[h.row_eq s F hH h' hv hw e.symm];exact hw
 ·obtain⟨w,hw,e⟩:=h.all v (h'.mem v hv) (h'.one v hv).2.1
  rw[h'.row_eq s F hH h hv hw e.symm];exact hw
theorem CanG.congr{H':List Int->Prop}(h:CanG O H u)(e:∀x,H x↔H' x):CanG O H' u:=⟨h.asc,fun v hv=>(e v).1 (h.mem v hv),h.one,h.red,fun x hx=>h.all x ((e x).2 hx)⟩
theorem CanG.len(h:CanG O H u):u.length<=O.length:=by
 have:(u.map dep).Pairwise (· < ·):=by rw[List.pairwise_map];exact h.asc
 have key:∀(l:List Nat) (m:Nat),l.Pairwise (· < ·)->(∀x∈l,m<=x∧x<O.length)->l.length+m<=O.length∨l=[]:=by
  intro l
  induction l with
  |nil=>intro m _ _;exact .inr rfl
  |cons a l ih=>
   intro m h1 h2;rw[List.pairwise_cons]at h1
   have ha:=h2 a (by simp)
   rcases ih (a+1) h1.2 (fun x hx=>⟨h1.1 x hx,(h2 x (by simp[hx])).2⟩)with h3|h3
   ·left;simp only[List.length_cons];omega
   ·subst h3;left;simp;omega
 rcases key _ 0 this (fun x hx=>by
  obtain⟨v,hv,rfl⟩:=List.mem_map.1 hx;exact⟨Nat.zero_le _,(h.one v hv).2.1⟩)with h1|h1
 ·simpa using h1
 ·rw[List.map_eq_nil_iff]at h1;subst h1;simp
theorem GC.table(s:Shp O P C)(F:Full O P C O.length)(hC:Cent O C)(ok:OkD O D)(q:QI O P C D [])(h:∀N,gB O P C N->(InD N D↔∀l∈L,N l)):∀x,GC O P C L x↔HD O P C D 0 x:=by
 have hs:=HD.sub s F hC ok q O.length 0 (by omega)
 intro x;constructor
 ·intro hx
  refine hx _ hs ((h _ hs).1 fun d b hb=>?_)
  have hd:d<O.length:=by
   rw[<-ok.len];rcases Nat.lt_or_ge d D.length with h|h
   ·exact h
   ·rw[List.getElem?_eq_none h]at hb;cases hb
  have:=HD.row s F ok hb hd
  exact⟨this.1.mono (Nat.zero_le _),this.2⟩
 ·intro hx N hN hl
  exact(hx.2.iff F hN ((h N hN).2 hl)).2 hN.one
structure CanD(O:List Int)(P:List (List Int))(C:List (List (List Int)))(D:List (Option (List Int)))(u:List (List Int)):Prop where
 one:∀v∈u,gS O v∧dep v<O.length∧at_ v (dep v)=1
 asc:u.Pairwise fun a b=>dep a<dep b
 red:∀v∈u,∀w∈u,dep v≠dep w->at_ v (dep w)=0
 all:∀(d:Nat) (y:List Int),D[d]? = some (some y)->∃v∈u,dep v=d
 len:u.length<=O.length
 iff:∀N,gB O P C N->((∀x∈u,N x)↔InD N D)
theorem CanD.can(s:Shp O P C)(F:Full O P C O.length)(hC:Cent O C)(ok:OkD O D)(q:QI O P C D [])(cd:CanD O P C D u)(h:∀N,gB O P C N->(InD N D↔∀l∈L,N l)):CanG O (GC O P C L) u:=
 ⟨cd.asc,fun v hv N hN hl=>(cd.iff N hN).2 ((h N hN).2 hl) v hv,cd.one,cd.red,fun x hx hd=>by
  obtain⟨b,hb⟩:=HD.fil s F ((GC.table s F hC ok q h x).1 hx) hd;exact cd.all _ b hb⟩
section
variable(s:Shp O P C)(F:Full O P C O.length)(hC:Cent O C)
include s F hC
theorem zNU(hb:gS O b)(k:Nat):∃j,gm O P C (pw (gm O P C) (zv O) b j) (pw (gm O P C) (zv O) b k)=zv O∧gm O P C (pw (gm O P C) (zv O) b k) (pw (gm O P C) (zv O) b j)=zv O:=by
 have M:=F.g.toMon;obtain⟨E,h1,h2⟩:=zHx s F hC hb;have e:pw (gm O P C) (zv O) b (E*k)=zv O:=by rw[M.pw_mul hb,h2,M.pw_e]
 have hle:k<=E*k:=Nat.le_mul_of_pos_left k h1;refine⟨E*k-k,?_,?_⟩
 ·rw[<-M.pw_add hb,show E*k-k+k=E*k by omega,e]
 ·rw[<-M.pw_add hb,show k+(E*k-k)=E*k by omega,e]
theorem Rdu.stepL(ok:OkD O D)(hb:D[d]? = some (some b))(hd:d<O.length)(hz:TT O d z)(h0:at_ z d≠0)(dU:TT O (d+1) (gm O P C (pw (gm O P C) (zv O) b k) z)):Rdu O P C D z (gm O P C (pw (gm O P C) (zv O) b k) z):=by
 have G:=F.g;have bS:gS O b:=(ok.row d b hb).1.mono (Nat.zero_le _);have zS:gS O z:=hz.mono (Nat.zero_le _);obtain⟨j,h1,h2⟩:=zNU s F hC bS k;refine .left (j:=j) hd hb hz h0 dU ?_ (.refl _);rw[<-G.as (G.pw bS j) (G.pw bS k) zS,h1,G.l1 zS]
theorem Rdu.stepR(ok:OkD O D)(hb:D[d]? = some (some b))(hd:d<O.length)(hz:TT O d z)(h0:at_ z d≠0)(hw:gS O x)(hx:gm O P C x (pw (gm O P C) (zv O) b k)=z)(dM:TT O (d+1) x):Rdu O P C D z x:=
 .right (j:=k) hd hb hz h0 dM hx.symm (.refl _)
end
end Go.Grp
namespace Go.Proofs
open Go.Ab Go.Lie Go.Grp
variable{σ:PHeap}{K:PV->PHeap->Prop}{O:List Int}{P:List (List Int)}{C:List (List (List Int))}{vO vP vC vx va:PV}{x y a:List Int}{rb:List PV}{D:List (Option (List Int))}{d sp ss sb n:Nat}
structure SeqG(σ:PHeap)(ss sb sp:Nat)(n:Nat)(rb:List PV)(vO vP vC:PV):Prop where
 obj:σ.obj ss=some [.ptr sp 0,.sl sb 0 n (.known n)]
 lt:ss<σ.next
 bobj:σ.obj sb=some rb
 blt:sb<σ.next
 pg:PtrG σ sp vO vP vC
 ne1:ss≠sb
 ne2:sp≠sb
theorem SeqG.keep{h:PHeap}(q:SeqG σ ss sb sp n rb vO vP vC)(hk:Keep σ h):SeqG h ss sb sp n rb vO vP vC:=
 ⟨by rw[hk.obj _ q.lt];exact q.obj,Nat.lt_of_lt_of_le q.lt hk.next,by rw[hk.obj _ q.blt];exact q.bobj,Nat.lt_of_lt_of_le q.blt hk.next,q.pg.keep hk,q.ne1,q.ne2⟩
theorem SeqG.setB(q:SeqG σ ss sb sp n rb vO vP vC)(rb':List PV):SeqG (σ.set sb rb') ss sb sp n rb' vO vP vC:=
 ⟨by rw[zg,if_neg q.ne1];exact q.obj,q.lt,by rw[zg,if_pos rfl],q.blt,q.pg.set q.ne2 _,q.ne1,q.ne2⟩
def DRow(n:Nat)(c:PV)(r:Option (List Int)):Prop:=(c=.fz true .nils 0 []∧r=none)∨∃o cap y,c=.fz true (.sl o 0 n cap) n (pis y)∧r=some y
theorem DRow.bel{c:PV}{r:Option (List Int)}(h:DRow n c r):Bel 0 c:=by
 rcases h with ⟨rfl,_⟩|⟨_,_,_,rfl,_⟩<;>trivial
theorem DRow.bels{rb:List PV}{D:List (Option (List Int))}(h:All2 (DRow n) rb D)(m:Nat):Bels m rb:=by
 refine Zj.2 fun c hc=>?_
 obtain⟨k,hk,rfl⟩:=List.mem_iff_getElem.1 hc;exact(DRow.bel (h.2 k _ _ (vX hk) (vX (by rw[<-h.1];exact hk)))).up (Nat.zero_le _)
theorem DRow.get{rb:List PV}{D:List (Option (List Int))}(h:All2 (DRow n) rb D){d:Nat}(hd:d<D.length):(rb[d]? = some (.fz true .nils 0 [])∧D[d]? = some none)∨∃o cap y,rb[d]? = some (.fz true (.sl o 0 n cap) n (pis y))∧D[d]? = some (some y):=by
 have hb:d<rb.length:=by rw[h.1];exact hd
 rw[vX hb,vX hd];rcases h.2 d _ _ (vX hb) (vX hd)with ⟨e1,e2⟩|⟨o,cap,y,e1,e2⟩
 ·exact .inl ⟨by rw[e1],by rw[e2]⟩
 ·exact .inr ⟨o,cap,y,by rw[e1],by rw[e2]⟩
theorem DRow.put{rb:List PV}{D:List (Option (List Int))}(h:All2 (DRow n) rb D){o d:Nat}{cap:Cap}:All2 (DRow n) (rb.set d (.fz true (.sl o 0 n cap) n (pis y))) (D.set d (some y)):=by
 refine⟨by rw[List.length_set,List.length_set];exact h.1,fun k c r hc hr=>?_⟩
 rw[List.getElem?_set]at hc hr
 by_cases e:d=k
 ·rw[if_pos e]at hc hr
  split at hc
  ·split at hr
   ·cases hc;cases hr;exact .inr ⟨o,cap,y,rfl,rfl⟩
   ·cases hr
  ·cases hc
 ·rw[if_neg e]at hc hr
  exact h.2 k c r hc hr
theorem zLC(s:Shp O P C)(F:Full O P C O.length)(hn:0<O.length)(hs:PtrG σ sp vO vP vC)(hR:IsPr vO vP vC O P C)(ha:gS O a)(dN:FI va a){k:Int}(dh:0<=k∧k<=1000000)(hk:∀o cap,K (.fz true (.sl o 0 O.length cap) O.length (pis (Grp.pw (gm O P C) (zv O) a k.toNat))) σ):
  zA Tryz.prog 195 [.ptr sp 0,va,.int .i64 k] σ K:=by
 have hlen:=(F.g.pw ha k.toNat).len;refine zA.gh (zF2 s F hs hR (by rw[Nat.sub_self];exact ha) dN dh ⟨fun h0=>?_,fun cap hc=>?_⟩)
 ·rw[h0]at hlen;simp at hlen;omega
 ·rw[hlen]at hc ⊢
  exact Gh.finF (zD σ _) (by simp[PHeap.new]) (vM _) (zK _ _) hc.ok fun o=>hk o cap
theorem zMC(s:Shp O P C)(F:Full O P C O.length)(hC:Cent O C)(hq:SeqG σ ss sb sp O.length rb vO vP vC)(hR:IsPr vO vP vC O P C)(hD:OkD O D)(bB:All2 (DRow O.length) rb D)(hx:gS O x)(bq:FI vx x)
  (hk:∀v z,FI v z->gS O z->(dep z<O.length->D[dep z]? = some none)->Rdu O P C D x z->K v σ):zA Tryz.prog 192 [.ptr ss 0,vx] σ K:=by
 have bJ:=s.le;obtain⟨wx,ax,rfl⟩:=bq;have dz:=hx.len;have r0:σ.rd1 ss 0=some (.ptr sp 0):=by rw[zF hq.obj];rfl
 have r1:σ.rd1 ss 1=some (.sl sb 0 O.length (.known O.length)):=by rw[zF hq.obj];rfl
 have aV:=hR;obtain⟨⟨w0,a0,rfl⟩,_,_⟩:=hR;have e0:σ.rd1 sp 0=some (.fz w0 a0 O.length (pis O)):=by rw[zF hq.pg.obj];rfl
 refine qB mix Tryz.func192 ?_;simp only[Z3,seval,-ah];refine zBi rfl (by omega) ?_
 simp only[Z3,seval,-ah];refine zC (fun m vs h'=>∃z w a,m=O.length-dep z∧vs=[.ptr ss 0,.fz w a O.length (pis z),.int .i64 (dep z)]∧σ=h'∧gS O z∧Rdu O P C D x z) _ ⟨x,wx,ax,rfl,by rw[dz];rfl,rfl,hx,.refl _⟩ ?_
 rintro m vs h' ⟨z,w,a,rfl,rfl,rfl,hz,hN⟩
 have di:=hz.len
 by_cases hd:dep z<O.length
 ·have cH:=zF hq.bobj (dep z)
  have hdz:dep z<z.length:=by omega
  have bz:=hz.bd _ hd;have bO:=s.pr _ hd;rw[at_eq hdz]at bz
  rw[at_eq hd]at bz bO
  rcases DRow.get bB (d:=dep z) (by rw[hD.len];exact hd)with ⟨e1,e2⟩|⟨o,cap,y,e1,e2⟩
  ·rw[e1]at cH
   simp only[Z3,seval,-ah,hd,r1,cH];exact hk _ z ⟨w,a,by rw[di]⟩ hz (fun _=>e2) hN
  ·rw[e1]at cH
   obtain⟨y1,y2⟩:=hD.row _ _ e2;have ew:IntKind.i64.wrap (O[dep z] - z[dep z])=O[dep z] - z[dep z]:=wrap64 (by omega) (by omega)
   simp only[Z3,seval,-ah,hd,r0,r1,cH,e0,zG,gi hd,gi hdz,ew];refine zDR s F hq.pg aV (by rw[Nat.sub_self];exact y1.mono (Nat.zero_le _)) ⟨true,_,by rw[y1.len]⟩ (by omega) fun v1 f1=>?_
   simp only[Z3,seval,-ah,hd,r0,r1,cH,e0];have g1:gS O (Grp.pw (gm O P C) (zv O) y (O[dep z] - z[dep z]).toNat):=F.g.pw (y1.mono (Nat.zero_le _)) _;refine Qe s F hq.pg aV (by rw[Nat.sub_self];exact g1) (by rw[Nat.sub_self];exact hz) f1 ⟨w,a,by rw[di]⟩ fun v2 f2=>?_
   have du:=zJS s F hC hd (ZM hz) y1 y2;rw[at_eq hd,at_eq hdz]at du
   have eJ:gS O (mu O P C O.length (Grp.pw (mu O P C O.length) (zv O) y (O[dep z] - z[dep z]).toNat) z):=F.g.cl g1 hz;have eM:at_ z (dep z)≠0:=Zd (by omega)
   have ld:Rdu O P C D x (mu O P C O.length (Grp.pw (mu O P C O.length) (zv O) y (O[dep z] - z[dep z]).toNat) z):=hN.trans (Rdu.stepL s F hC hD e2 hd (ZM hz) eM du);have sy:TT O (dep z+1) (mu O P C O.length (Grp.pw (mu O P C O.length) (zv O) y (O[dep z] - z[dep z]).toNat) z):=du;generalize mu O P C O.length (Grp.pw (mu O P C O.length) (zv O) y (O[dep z] - z[dep z]).toNat) z=z' at *
   have aE:=dep_ge sy (by omega)
   have aY:=eJ.len;have h0:z'[dep z]'(by omega)=0:=by
    have:=sy.zero (dep z) (Nat.lt_succ_self _)
    rwa[at_eq (by omega)]at this
   obtain⟨w2,a2,rfl⟩:=f2;simp only[Z3,seval,-ah,aY,hd,zG,gi (show dep z<z'.length by omega),h0]
   refine zBi aY.symm (by omega) ?_
   simp only[Z3,seval,-ah];exact⟨_,by omega,z',w2,a2,rfl,rfl,eJ,ld⟩
 ·have kU:dep z=O.length:=by have:=zAa z;omega
  simp only[Z3,seval,-ah,kU,Nat.lt_irrefl];exact hk _ z ⟨w,a,by rw[di]⟩ hz (fun h=>by omega) hN
end Go.Proofs
namespace Go.Proofs
open Go.Ab Go.Lie Go.Grp
variable{σ:PHeap}{K:PV->PHeap->Prop}{O:List Int}{P:List (List Int)}{C:List (List (List Int))}{vO vP vC vx vy vL:PV}{x y a b:List Int}{L:List (List Int)}{rb:List PV}{D:List (Option (List Int))}{d sp ss sb:Nat}
theorem Keep.self{rb:List PV}{h:PHeap}(hb:σ.obj sb=some rb)(k:Keep σ h):Keep (σ.set sb rb) h:=⟨k.next,k.top,fun t ht=>by
 rw[k.obj t ht,zg]
 split
 ·rename_i e;rw[e];exact hb
 ·rfl⟩
theorem Gh.finB{σ0 σ1:PHeap}{rb:List PV}{v:PV}(CG:sb<σ0.next)(hk:Keep (σ0.set sb rb) σ1)(hb:Bels 0 rb)(hv:Bel σ0.next v)(k:K v (σ0.set sb rb)):Gh σ0 K v σ1:=fun w=>
 Gh.cut (σ2:=σ0.set sb rb) rfl hk.top (fun t cs ht=>by
  have ai:t<σ0.next:=by
   rw[zg]at ht
   split at ht
   ·rename_i e;rw[e];exact CG
   ·exact w.lt ht
  refine⟨ai,by rw[hk.obj t ai];exact ht,?_⟩
  rw[zg]at ht
  split at ht
  ·cases ht;exact .inr (hb.up (Nat.zero_le _))
  ·exact .inl ht) hv k w
theorem zFa(s:Shp O P C)(F:Full O P C O.length)(hs:PtrG σ sp vO vP vC)(hR:IsPr vO vP vC O P C)(hx:gS O x)(hy:gS O y)(bq:FI vx x)(mG:FI vy y)(hk:∀v,FI v (gcom O P C x y)->K v σ):
  zA Tryz.prog 196 [.ptr sp 0,vx,vy] σ K:=by
 have G:=F.g;have up:∀{z:List Int},gS O z->TT O (O.length-O.length) z:=fun h=>by rw[Nat.sub_self];exact h
 have dn:∀{z:List Int},TT O (O.length-O.length) z->gS O z:=fun h=>by rw[Nat.sub_self]at h;exact h
 refine zB mix Tryz.func196 ?_;simp only[Z3,seval,-ah];refine zCP s F hs hR (up hx) bq fun v1 z1 h1 e1 f1=>?_
 simp only[Z3,seval,-ah];refine QO s F hs hR (up hx) (up hy) bq mG fun v2 z2 h2 e2 f2=>?_
 simp only[Z3,seval,-ah];refine Qe s F hs hR h1 h2 f1 f2 fun v3 f3=>?_
 simp only[Z3,seval,-ah];have e:mu O P C O.length z1 z2=gcom O P C x y:=by
  refine G.com_eq hx hy (G.cl (dn h1) (dn h2)) ?_;have i1:z1=ginv (gS O) (gm O P C) (zv O) x:=G.inv_eq hx (dn h1) e1;show gm O P C (gm O P C y x) (gm O P C z1 z2)=gm O P C x y;have Cv:gm O P C x (gm O P C z1 z2)=z2:=by rw[<-G.as hx (dn h1) (dn h2),show gm O P C x z1=zv O from e1,G.l1 (dn h2)]
  rw[G.as hy hx (G.cl (dn h1) (dn h2)),Cv];exact e2
 rw[e]at f3
 exact hk v3 f3
theorem zKm(s:Shp O P C)(F:Full O P C O.length)(hC:Cent O C)(hp:∀o∈O,isP o)(hq:SeqG σ ss sb sp O.length rb vO vP vC)(hR:IsPr vO vP vC O P C)(hD:OkD O D)(bB:All2 (DRow O.length) rb D)(tG:QI O P C D [])(hL:FII vL L)(hg:∀x∈L,gS O x)(yO:L.length<=1000000)
  (hk:∀(t:Bool) rb' D',All2 (DRow O.length) rb' D'->OkD O D'->QI O P C D' []->(∀N,gB O P C N->(InD N D'↔(InD N D∧∀q∈L,N q)))->free D'<=free D->(t=true->free D'<free D)->K (.bool t) (σ.set sb rb')):
  zA Tryz.prog 148 [.ptr ss 0,vL] σ K:=by
 have bJ:=s.le;have yu:=zAB D;rw[hD.len]at yu
 have G:=F.g;have up:∀{z:List Int},gS O z->TT O (O.length-O.length) z:=fun h=>by rw[Nat.sub_self];exact h
 obtain⟨wl,al,rl,rfl,bK⟩:=hL;have aV:=hR;obtain⟨⟨w0,a0,rfl⟩,_,_⟩:=hR;refine zA.gh ?_;refine qB mix Tryz.func148 ?_;simp only[Z3,seval,-ah];refine zDn bK.1 (bK.bI 0) (by omega) fun vQ h1 k1 q1=>?_
 simp only[Z3,seval,-ah];refine zC (fun m vs h'=>∃g Q vQ rb' D' rq,m=10*free D'+Q.length∧vs=[.ptr ss 0,.bool g,vQ]∧Keep (σ.set sb rb') h'∧PQ σ.next h' vQ Q.length rq∧All2 FI rq Q∧(∀x∈Q,gS O x)∧All2 (DRow O.length) rb' D'∧OkD O D'∧QI O P C D' Q∧(∀N,gB O P C N->((InD N D'∧∀q∈Q,N q)↔(InD N D∧∀q∈L,N q)))∧free D'<=free D∧(g=true->free D'<free D)∧Q.length+10*free D'<=L.length+10*free D) (10*free D+L.length) ?_ ?_
 ·exact⟨false,L,vQ,rb,D,rl,rfl,rfl,Keep.self hq.bobj k1,q1,bK,hg,bB,hD,tG.mem (fun q hq=>by cases hq),fun N _=>Iff.rfl,vM _,by simp,vM _⟩
 clear k1 q1 vQ h1
 as_aux_lemma=>
 rintro m vs h' ⟨g,Q,vQ,rb',D',rq,rfl,rfl,aq,pU,lY,th,dZ,ig,yJ,hS,A8,A7,hb⟩
 have dg:=(hq.setB rb').keep aq;cases Q with
 |nil=>
  have hlen:pLen vQ=some (.int .i64 0):=pU.pLen;simp only[Z3,seval,-ah,hlen];exact Gh.finB hq.blt aq (DRow.bels dZ 0) trivial (hk g rb' D' dZ ig yJ (fun N hN=>⟨fun h=>(hS N hN).1 ⟨h,fun q hq=>(by cases hq)⟩,fun h=>((hS N hN).2 h).1⟩) A8 A7)
 |cons x Q=>
  have hlen:=pU.pLen;obtain⟨c,jP,rfl,hc,ku⟩:∃c jP,rq=c::jP∧FI c x∧All2 FI jP Q:=by
   cases rq with
   |nil=>exact absurd lY.1 (by simp)
   |cons c jP=>exact⟨c,jP,rfl,lY.2 0 c x rfl rfl,⟨by simpa using lY.1,fun k a b ha hb=>lY.2 (k+1) a b (by simpa using ha) (by simpa using hb)⟩⟩
  obtain⟨sq,off,cap,vh,rfl,cH,aF,nL,l6⟩:=pU.uncons;have cL:=hc;obtain⟨w4,a4,rfl⟩:=hc;have hx:=th x (by simp)
  have kP:∀q∈Q,gS O q:=fun q hq=>th q (List.mem_cons_of_mem _ hq)
  have yr:=zAB D';rw[ig.len]at yr
  simp only[List.length_cons]at hlen nL l6 aF hb ⊢
  have mO:(0:Int)<((Q.length+1:Nat):Int):=by omega
  rw[Nat.add_sub_cancel]at l6
  simp only[Z3,seval,-ah,hlen,mO,aF,cH,nL];refine zMC s F hC dg aV ig dZ hx cL fun vz z fz gz fR eJ=>?_
  obtain⟨wz,az,rfl⟩:=fz;have di:=gz.len;simp only[Z3,seval,-ah,hlen,mO,aF,cH,nL];refine zBi rfl (by omega) ?_
  by_cases hd:dep z<O.length
  rotate_left
  ·have kU:dep z=O.length:=by have:=zAa z;omega
   have eM:=Zx gz (by omega)
   simp only[Z3,seval,-ah,di,kU];refine⟨_,?_,g,Q,vh,rb',D',jP,rfl,rfl,aq,l6,ku,kP,dZ,ig,yJ.drop (by rw[<-eM];exact eJ),fun N hN=>?_,A8,A7,by omega⟩
   ·omega
   ·rw[<-hS N hN]
    refine⟨fun⟨h1,h2⟩=>⟨h1,fun q hq=>?_⟩,fun⟨h1,h2⟩=>⟨h1,fun q hq=>h2 q (List.mem_cons_of_mem _ hq)⟩⟩
    rcases List.mem_cons.1 hq with rfl|hq
    ·rw[eJ.iff F hN h1,eM];exact hN.one
    ·exact h2 q hq
  have hdz:dep z<z.length:=by omega
  have tK:=hp _ (List.getElem_mem hd);have bO:=tK.bd;have bz:=gz.bd _ hd;have nz:=Zd hdz;rw[at_eq hdz]at bz nz
  rw[at_eq hd]at bz
  have kU:((dep z:Int)=(z.length:Int))=False:=by simp;omega
  have rr:∀{h:PHeap},SeqG h ss sb sp O.length rb' (.fz w0 a0 O.length (pis O)) vP vC->h.rd1 ss 0=some (.ptr sp 0)∧h.rd1 ss 1=some (.sl sb 0 O.length (.known O.length))∧h.rd1 sp 0=some (.fz w0 a0 O.length (pis O)):=fun q=>⟨by rw[zF q.obj];rfl,by rw[zF q.obj];rfl,by rw[zF q.pg.obj];rfl⟩
  obtain⟨r0,r1,e0⟩:=rr dg;simp only[Z3,seval,-ah,hd,kU,r0,e0,zG,gi hdz,gi hd,hdz];refine zFT tK ⟨by omega,bz.2⟩ fun q qb q1 q2 q3=>?_
  simp only[Z3,seval,-ah,hd,kU,r0,e0,zG,gi hdz,gi hd,hdz];refine PQ.push (bytes:=24) (σb:=σ.set sb rb') aq l6 (by omega) (by omega) fun v1 h1 k1 p1=>?_
  have xB:=(hq.setB rb').keep k1;obtain⟨s0,s1,f0⟩:=rr xB;simp only[Z3,seval,-ah,s0,s1,f0];refine zLC s F (by omega) xB.pg aV gz ⟨wz,az,rfl⟩ (k:=q) (by omega) fun oy lk=>?_
  obtain⟨y1,y2⟩:=Z9 s F hC hd (ZM gz) q.toNat;have ly:at_ (Grp.pw (gm O P C) (zv O) z q.toNat) (dep z)=1:=by
   rw[y2,at_eq hdz,at_eq hd,Int.toNat_of_nonneg q1,Int.mul_comm];exact q3
  have yM:∀N,gB O P C N->N z->N (Grp.pw (gm O P C) (zv O) z q.toNat):=fun N hN h=>hN.pw h _
  generalize Grp.pw (gm O P C) (zv O) z q.toNat=y at *
  have yS:gS O y:=y1.mono (Nat.zero_le _);have nB:=yS.len;simp only[Z3,seval,-ah,s0,s1,f0,zG,gi hd,hd];refine zDR s F xB.pg aV (up yS) ⟨true,.sl oy 0 O.length lk,by rw[nB]⟩ (k:=O[dep z]) (by omega) fun vo fo=>?_
  have D6:=fo;obtain⟨wo,ao,rfl⟩:=fo;simp only[Z3,seval,-ah,s0,s1,f0,zG,gi hd,hd];refine PQ.push (bytes:=24) (σb:=σ.set sb rb') k1 p1 (by omega) (by omega) fun v2 h2 k2 p2=>?_
  have uC:=(hq.setB rb').keep k2;obtain⟨t0,t1,g0⟩:=rr uC;have yZ:gS O (Grp.pw (gm O P C) (zv O) y O[dep z].toNat):=G.pw yS _;have rf:FI (.fz wz az z.length (pis z)) z:=⟨wz,az,rfl⟩;have xq:All2 FI ((jP++[.fz wz az z.length (pis z)])++[.fz wo ao _ (pis (Grp.pw (gm O P C) (zv O) y O[dep z].toNat))]) ((Q++[z])++[Grp.pw (gm O P C) (zv O) y O[dep z].toNat]):=(ku.snoc rf).snoc D6;have oN:∀q∈(Q++[z])++[Grp.pw (gm O P C) (zv O) y O[dep z].toNat],gS O q:=fun q hq=>by
   rcases List.mem_append.1 hq with hq|hq
   ·rcases List.mem_append.1 hq with hq|hq
    ·exact kP q hq
    ·rw[List.mem_singleton.1 hq];exact gz
   ·rw[List.mem_singleton.1 hq];exact yZ
  simp only[Z3,seval,-ah,t0,t1,g0];generalize jK:(Q++[z])++[Grp.pw (gm O P C) (zv O) y O[dep z].toNat]=Q2 at *
  have o6:Q2.length=Q.length+1+1:=by rw[<-jK];simp
  have xU:z∈Q2:=by rw[<-jK];simp
  have xX:∀q∈Q,q∈Q2:=fun q hq=>by rw[<-jK];simp[hq]
  have bj:Grp.pw (gm O P C) (zv O) y O[dep z].toNat∈Q2:=by rw[<-jK];simp
  have lb:∀N,gB O P C N->N y->((∀q∈Q2,N q)↔(∀q∈Q,N q)∧N z):=fun N hN hy=>by
   rw[<-jK];refine⟨fun h=>⟨fun q hq=>h q (by simp[hq]),h z (by simp)⟩,fun⟨h3,h4⟩ q hq=>?_⟩
   rcases List.mem_append.1 hq with hq|hq
   ·rcases List.mem_append.1 hq with hq|hq
    ·exact h3 q hq
    ·rw[List.mem_singleton.1 hq];exact h4
   ·rw[List.mem_singleton.1 hq];exact hN.pw hy _
  generalize (jP++[PV.fz wz az z.length (pis z)])++[.fz wo ao _ (pis (Grp.pw (gm O P C) (zv O) y O[dep z].toNat))]=B7 at *
  rw[<-o6]at p2
  refine zC (fun m us h3=>∃(i:Nat) (vQ:PV) (E:List (List Int)) (re:List PV),i<=O.length∧m=O.length-i∧us=[.ptr ss 0,.bool true,vQ,.fz true (.sl oy 0 O.length lk) O.length (pis y),.int .i64 (dep z),.sl sb 0 O.length (.known O.length),.int .i64 O.length,.int .i64 i]∧Keep (σ.set sb rb') h3∧PQ σ.next h3 vQ (Q2++E).length re∧All2 FI re (Q2++E)∧(∀q∈E,gS O q)∧E.length<=i∧(∀(e:Nat) (b:List Int),e<i->D'[e]? = some (some b)->gcom O P C b y∈E)∧∀N,gB O P C N->InD N D'->N y->∀q∈E,N q) O.length ?_ ?_
  ·exact⟨0,v2,[],_,by omega,by omega,rfl,k2,by rw[List.append_nil];exact p2,by rw[List.append_nil];exact xq,fun q hq=>(by cases hq),vM _,fun e b h=>(by omega),fun N _ _ _ q hq=>(by cases hq)⟩
  clear k2 p2 v2 h2 uC t0 t1 g0
  as_aux_lemma=>
  rintro m us h3 ⟨i,vQ,E,re,hi,rfl,rfl,k3,p3,jT,mX,DK,m6,m7⟩
  have uB:=(hq.setB rb').keep k3;obtain⟨t0,t1,g0⟩:=rr uB;simp only[Z3,seval,-ah];refine iteI (fun ai=>?_) fun aE=>?_
  rotate_left
  ·have tx:dep z<rb'.length:=by rw[dZ.1,ig.len];exact hd
   have lz:h3.wr sb (dep z) [.fz true (.sl oy 0 O.length lk) O.length (pis y)]=some (h3.set sb (rb'.set (dep z) (.fz true (.sl oy 0 O.length lk) O.length (pis y)))):=by
    rw[ZZ uB.bobj,if_pos ⟨by rw[List.length_singleton];omega,rfl⟩,List.append_assoc,List.singleton_append,List.length_singleton,take_set _ tx]
   simp only[Z3,seval,-ah,t1,hd,lz];have eA:D'[dep z]? = some none:=fR hd;have de:=zDd (y:=y) eA;refine⟨_,?_,true,Q2++E,vQ,_,D'.set (dep z) (some y),re,rfl,rfl,?_,?_,jT,?_,DRow.put (o:=oy) (cap:=lk) dZ,ig.put hd y1 ly,yJ.put eJ eA (by simp[xU]) (fun q hq=>by simp[xX q hq]) (by rw[at_eq hd];simp[bj]) (fun e b hb=>.inl (by
    have:=m6 e b (by
     rcases Nat.lt_or_ge e D'.length with h|h
     ·have:=ig.len;omega
     ·rw[List.getElem?_eq_none h]at hb;cases hb) hb
    simp[this])),fun N hN=>?_,by omega,fun _=>by omega,?_⟩
   ·simp only[List.length_append];omega
   ·exact⟨k3.next,k3.top,fun t ht=>by
     rw[zg,zg]
     split
     ·rfl
     ·rename_i e
      have:=k3.obj t ht
      rw[zg,if_neg e]at this
      exact this⟩
   ·exact p3.set hq.blt _
   ·intro q hq
    rcases List.mem_append.1 hq with hq|hq
    ·exact oN q hq
    ·exact mX q hq
   ·rw[<-hS N hN,InD.put eA]
    constructor
    ·rintro⟨⟨g1,g2⟩,g3⟩
     obtain⟨g4,g5⟩:=(lb N hN g2).1 fun q hq=>g3 q (by simp[hq])
     refine⟨g1,fun q hq=>?_⟩
     rcases List.mem_cons.1 hq with rfl|hq
     ·exact(eJ.iff F hN g1).2 g5
     ·exact g4 q hq
    ·rintro⟨g1,g2⟩
     have tS:=(eJ.iff F hN g1).1 (g2 x (by simp))
     have gy:=yM N hN tS;refine⟨⟨g1,gy⟩,fun q hq=>?_⟩
     rcases List.mem_append.1 hq with hq|hq
     ·exact(lb N hN gy).2 ⟨fun q hq=>g2 q (List.mem_cons_of_mem _ hq),tS⟩ q hq
     ·exact m7 N hN g1 gy q hq
   ·simp only[List.length_append];omega
  have ak:i<O.length:=by omega
  have dY:=zF uB.bobj i;rcases DRow.get dZ (d:=i) (by rw[ig.len];exact ak)with ⟨e1,e2⟩|⟨oo,cap,b,e1,e2⟩
  ·rw[e1]at dY
   simp only[Z3,seval,-ah,ak,dY,wrapS ak (by omega:O.length<=4611686018427387904)]
   refine⟨_,by omega,i+1,vQ,E,re,by omega,rfl,rfl,k3,p3,jT,mX,by omega,fun e b h1 h2=>?_,m7⟩
   rcases Nat.lt_or_ge e i with h|h
   ·exact m6 e b h h2
   ·rw[show e=i by omega,e2]at h2;cases h2
  ·rw[e1]at dY
   have bS:gS O b:=(ig.row _ _ e2).1.mono (Nat.zero_le _);simp only[Z3,seval,-ah,ak,dY,t0];refine zFa s F uB.pg aV bS yS ⟨true,_,by rw[bS.len]⟩ ⟨true,_,by rw[nB]⟩ fun vc fc=>?_
   have Ea:=fc;obtain⟨wc,ac,rfl⟩:=fc;simp only[Z3,seval,-ah];refine PQ.push (bytes:=24) (σb:=σ.set sb rb') k3 p3 (by rw[List.length_append];omega) (by rw[List.length_append];omega) fun v4 h4 k4 p4=>?_
   simp only[Z3,seval,-ah,wrapS ak (by omega:O.length<=4611686018427387904)]
   refine⟨_,by omega,i+1,v4,E++[gcom O P C b y],re++[.fz wc ac (gcom O P C b y).length (pis (gcom O P C b y))],by omega,rfl,rfl,k4,?_,?_,?_,?_,?_,?_⟩
   rotate_left
   ·rw[<-List.append_assoc];exact jT.snoc Ea
   ·intro q hq
    rcases List.mem_append.1 hq with hq|hq
    ·exact mX q hq
    ·rw[List.mem_singleton.1 hq];exact G.com_in bS yS
   ·simp;omega
   ·intro e b' h1 h2
    rcases Nat.lt_or_ge e i with h|h
    ·simp[m6 e b' h h2]
    ·rw[show e=i by omega,e2]at h2;cases h2;simp
   ·intro N hN dG hy q hq
    rcases List.mem_append.1 hq with hq|hq
    ·exact m7 N hN dG hy q hq
    ·rw[List.mem_singleton.1 hq];exact hN.com_in (dG _ _ e2) hy
   ·rw[<-List.append_assoc,List.length_append,List.length_singleton];exact p4
end Go.Proofs
namespace Go.Proofs
open Go.Ab Go.Lie Go.Grp
variable{σ:PHeap}{K:PV->PHeap->Prop}{O:List Int}{P:List (List Int)}{C:List (List (List Int))}{vO vP vC vx vU:PV}{x z a b:List Int}{u:List (List Int)}{j sp:Nat}
def Ones(O:List Int)(u:List (List Int)):Prop:=∀v∈u,gS O v∧dep v<O.length∧at_ v (dep v)=1
theorem zLf{o z:Int}(ho:2<=o)(hz:0<=z∧z<o)(h0:z≠0):((o-(z+1) % o) % o).toNat<((o-z) % o).toNat:=by
 have e:(o-z) % o=o-z:=Int.emod_eq_of_lt (by omega) (by omega)
 rw[e]
 by_cases h:z+1=o
 ·rw[h,Int.emod_self,Int.sub_zero,Int.emod_self];omega
 ·rw[Int.emod_eq_of_lt (a:=z+1) (by omega) (by omega),Int.emod_eq_of_lt (by omega) (by omega)];omega
theorem Qx(s:Shp O P C)(F:Full O P C O.length)(hC:Cent O C)(hn:0<O.length)(hs:PtrG σ sp vO vP vC)(hR:IsPr vO vP vC O P C)(hU:FII vU u)(hu:Ones O u)(jG:u.Pairwise fun a b=>dep a<dep b)(eU:u.length<=1000)(hx:gS O x)(bq:FI vx x)
  (hk:∀o cap z,gS O z->(∀t,(∀v∈u,t<dep v)->∀j,j<=t->at_ z j=at_ x j)->(∀v∈u,at_ z (dep v)=0)->(∀N,gB O P C N->(∀v∈u,N v)->(N x↔N z))->K (.fz true (.sl o 0 O.length cap) O.length (pis z)) σ):
  zA Tryz.prog 179 [.ptr sp 0,vU,vx] σ K:=by
 have bJ:=s.le;have dz:=hx.len;have dw:=hs.lt;obtain⟨wx,ax,rfl⟩:=bq;have qn:=hU;obtain⟨wl,al,rl,rfl,bK⟩:=hU;refine zA.gh ?_;refine zB mix Tryz.func179 ?_;simp only[Z3,seval,-ah];refine zBn rfl (by omega) ⟨fun h0=>absurd dz (by rw[h0];simp;omega),fun cap hc=>?_⟩
 rw[dz]at hc ⊢
 simp only[Z3,seval,-ah];refine Qk qn (fun v hv=>⟨by rw[(hu v hv).1.len];exact(hu v hv).2.1,by rw[(hu v hv).1.len];omega⟩) (by omega) fun vp=>?_
 simp only[Z3,seval,-ah];refine zC (fun m vs h'=>∃(i:Nat) (z:List Int),i<=u.length∧m=u.length-i∧vs=[.ptr sp 0,.fz wl al u.length rl,.sl σ.next 0 O.length cap,.fz true vp u.length (pis (deps u)),.int .i64 u.length,.int .i64 i]∧h'=σ.new (pis z)∧gS O z∧(∀t,(∀v∈u,t<dep v)->∀j,j<=t->at_ z j=at_ x j)∧(∀k (hk:k<u.length),k<i->at_ z (dep u[k])=0)∧(∀N,gB O P C N->(∀v∈u,N v)->(N x↔N z))) u.length ⟨0,x,by omega,by omega,rfl,rfl,hx,fun _ _ _ _=>rfl,fun k _ h=>by omega,fun _ _ _=>Iff.rfl⟩ ?_
 rintro m vs h' ⟨i,z,hi,rfl,rfl,rfl,hz,hj,h0,hN⟩
 simp only[Z3,seval,-ah];refine iteI (fun ai=>?_) fun aE=>?_
 rotate_left
 ·exact Gh.finF (zD σ _) (by simp only[Z3,seval,-ah]) (vM _) (zK _ _) hc.ok fun o=>hk o cap z hz hj (fun v hv=>by
   obtain⟨k,hJ,rfl⟩:=List.mem_iff_getElem.1 hv;exact h0 k hJ (by omega)) hN
 obtain⟨w4,a4,hr⟩:=bK.rowI ai;obtain⟨u1,u2,u3⟩:=hu _ (List.getElem_mem ai);have gY:u[i]∈u:=List.getElem_mem ai;have CP:(deps u)[i]? = some (dep u[i]:Int):=by simp[deps,ai]
 simp only[Z3,seval,-ah,ai,zG,CP];refine zC (fun m vs h'=>∃(z:List Int),m=((at_ O (dep u[i])-at_ z (dep u[i])) % at_ O (dep u[i])).toNat∧vs=[.ptr sp 0,.fz wl al u.length rl,.sl σ.next 0 O.length cap,.int .i64 i,.int .i64 (dep u[i]),.fz true vp u.length (pis (deps u)),.int .i64 u.length,.int .i64 i]∧h'=σ.new (pis z)∧gS O z∧(∀t,(∀v∈u,t<dep v)->∀j,j<=t->at_ z j=at_ x j)∧(∀k (hk:k<u.length),k<i->at_ z (dep u[k])=0)∧(∀N,gB O P C N->(∀v∈u,N v)->(N x↔N z))) _ ⟨z,rfl,rfl,rfl,hz,hj,h0,hN⟩ ?_
 clear hz hj hN h0 z
 rintro m vs h' ⟨z,rfl,rfl,rfl,hz,hj,h0,hN⟩
 have di:=hz.len;have hdz:dep u[i] < z.length:=by omega
 have bz:=hz.bd _ u2;have bO:=s.pr _ u2;simp only[Z3,seval,-ah,u2,pisAt hdz];refine iteI (fun heq=>?_) fun kE=>?_
 ·simp only[Z3,seval,-ah,wrapS ai (by omega:u.length<=4611686018427387904)]
  refine⟨_,by omega,i+1,z,by omega,rfl,rfl,rfl,hz,hj,fun k hJ hk=>?_,hN⟩
  rcases Nat.lt_or_ge k i with h|h
  ·exact h0 k hJ h
  ·have e:k=i:=by omega
   subst e;exact heq
 ·obtain⟨g1,g2,g3⟩:=zK1 s F hC u2 hz (ZM u1) u3
  simp only[Z3,seval,-ah,ai,hr];refine qh s F (hs.new _) hR (x:=z) (by simp only[Z3,seval,-ah]) (by simp only[Z3,seval,-ah]) (by omega) hc (by rw[Nat.sub_self];exact hz) (by rw[Nat.sub_self];exact u1) ⟨w4,a4,rfl⟩ ?_
  simp only[Z3,seval,-ah];refine⟨_,?_,_,rfl,rfl,g1,fun t ht j yd=>?_,fun k hJ hk=>?_,fun N h1 h2=>(hN N h1 h2).trans ⟨fun h=>h1.cl h (h2 _ gY),fun h=>h1.quotR F.g (h2 _ gY) hz h⟩⟩
  ·show((at_ O (dep u[i])-at_ (gm O P C z u[i]) (dep u[i])) % at_ O (dep u[i])).toNat<_
   rw[g3];exact zLf bO.1 bz kE
  ·show at_ (gm O P C z u[i]) j=_
   rw[g2 j (by have:=ht _ gY;omega)]
   exact hj t ht j yd
  ·show at_ (gm O P C z u[i]) (dep u[k])=0
   rw[g2 _ (List.pairwise_iff_getElem.1 jG k i hJ ai hk)];exact h0 k hJ hk
end Go.Proofs
namespace Go.Proofs
open Go.Ab Go.Lie Go.Grp
variable{σ:PHeap}{K:PV->PHeap->Prop}{O:List Int}{P:List (List Int)}{C:List (List (List Int))}{vO vP vC vU:PV}{x y z a b g:List Int}{u:List (List Int)}{rb:List PV}{D:List (Option (List Int))}{d j sp ss sb n:Nat}
theorem zBD(s:Shp O P C)(hs:PtrG σ sp vO vP vC)(hR:IsPr vO vP vC O P C)(hk:∀ss sb h',Keep σ h'->σ.next<=ss->σ.next<=sb->SeqG h' ss sb sp O.length (List.replicate O.length (.fz true .nils 0 [])) vO vP vC->K (.ptr ss 0) h'):
  zA Tryz.prog 147 [.ptr sp 0] σ K:=by
 have bJ:=s.le;have dw:=hs.lt;obtain⟨⟨w0,a0,rfl⟩,_,_⟩:=hR;have e0:σ.rd1 sp 0=some (.fz w0 a0 O.length (pis O)):=by rw[zF hs.obj];rfl
 refine zB mix Tryz.func147 ?_;simp only[Z3,seval,-ah,e0,mk24 (n:=O.length) (by omega),mkL (n:=O.length) (by omega)]
 exact hk (σ.next+1) σ.next _ ((zD σ _).new _) (by omega) (vM _) ⟨by simp only[Z3,seval,-ah],by simp only[Z3,seval,-ah],by simp only[Z3,seval,-ah],by simp only[Z3,seval,-ah];omega,(hs.new _).new _,by omega,by omega⟩
theorem zCX(s:Shp O P C)(F:Full O P C O.length)(hC:Cent O C)(hq:SeqG σ ss sb sp O.length rb vO vP vC)(hR:IsPr vO vP vC O P C)(hD:OkD O D)(bB:All2 (DRow O.length) rb D)
  (hk:∀v u,FII v u->CanD O P C D u->K v σ):zA Tryz.prog 150 [.ptr ss 0] σ K:=by
 have bJ:=s.le;have r0:σ.rd1 ss 0=some (.ptr sp 0):=by rw[zF hq.obj];rfl
 have r1:σ.rd1 ss 1=some (.sl sb 0 O.length (.known O.length)):=by rw[zF hq.obj];rfl
 have hw:IntKind.i64.wrap ((O.length:Int)-1)=(O.length:Int)-1:=wrap64 (by omega) (by omega)
 refine zA.gh ?_;refine zB mix Tryz.func150 ?_;simp only[Z3,seval,-ah,r1,hw];refine qK (fun m vs h2=>∃(k:Nat) (vO:PV) (u:List (List Int)),k<=O.length∧m=k∧vs=[.ptr ss 0,vO,.int .i64 ((k:Int)-1)]∧Keep σ h2∧FII vO u∧Ones O u∧u.length+k<=O.length∧(∀v∈u,k<=dep v)∧(u.Pairwise fun a b=>dep a<dep b)∧(∀v∈u,∀w∈u,dep v≠dep w->at_ v (dep w)=0)∧(∀(d:Nat) (y:List Int),k<=d->D[d]? = some (some y)->∃v∈u,dep v=d)∧(∀N,gB O P C N->((∀x∈u,N x)↔∀d y,k<=d->D[d]? = some (some y)->N y))) O.length (.here ⟨O.length,_,[],vM _,rfl,rfl,Keep.refl σ,⟨_,_,_,rfl,All2.nil _⟩,fun v hv=>(by cases hv),by simp,fun v hv=>(by cases hv),List.Pairwise.nil,fun v hv=>(by cases hv),fun d y h1 h2=>?_,fun N hN=>⟨fun _ d y h1 h2=>?_,fun _ x hx=>(by cases hx)⟩⟩) ?_
 ·rw[List.getElem?_eq_none (by rw[hD.len];exact h1)]at h2;cases h2
 ·rw[List.getElem?_eq_none (by rw[hD.len];exact h1)]at h2;cases h2
 rintro m vs h2 ⟨k,vU,u,eC,rfl,rfl,dC,hU,hu,eU,sv,jG,nS,k9,hN⟩
 rcases Nat.eq_zero_or_pos m with rfl|bj
 ·simp only[Z3,seval,-ah,show ¬((0:Int)<=((0:Nat):Int)-1) by omega]
  exact Gh.fin0 dC (hU.bel _) (hk vU u hU ⟨hu,jG,nS,fun d y hy=>k9 d y (Nat.zero_le _) hy,by omega,fun N h1=>(hN N h1).trans ⟨fun h d y hy=>h d y (Nat.zero_le _) hy,fun h d y _ hy=>h d y hy⟩⟩)
 obtain⟨k,rfl⟩:∃k,m=k+1:=⟨m-1,by omega⟩
 have e:((k+1:Nat):Int)-1=(k:Int):=by omega
 have fK:k<O.length:=eC;have cH:=zF (hq.keep dC).bobj k;have B8:h2.rd1 ss 0=some (.ptr sp 0):=by rw[zF (hq.keep dC).obj];rfl
 have uc:h2.rd1 ss 1=some (.sl sb 0 O.length (.known O.length)):=by rw[zF (hq.keep dC).obj];rfl
 rw[e];have jS:IntKind.i64.wrap ((k:Int)-1)=(k:Int)-1:=wrap64 (by omega) (by omega)
 rcases DRow.get bB (d:=k) (by rw[hD.len];exact fK)with ⟨e1,e2⟩|⟨oo,cap,y,e1,e2⟩
 ·rw[e1]at cH
  simp only[Z3,seval,-ah,fK,uc,cH,jS];refine⟨_,Nat.lt_succ_self k,.here ⟨k,vU,u,by omega,rfl,rfl,dC,hU,hu,by omega,fun v hv=>by have:=sv v hv;omega,jG,nS,fun d y hd hy=>?_,fun N h1=>(hN N h1).trans ⟨fun h d y hd hy=>?_,fun h d y hd hy=>h d y (by omega) hy⟩⟩⟩
  ·rcases Nat.lt_or_ge k d with x|x
   ·exact k9 d y x hy
   ·rw[show d=k by omega,e2]at hy;cases hy
  rcases Nat.lt_or_ge k d with x|x
  ·exact h d y x hy
  ·rw[show d=k by omega,e2]at hy;cases hy
 ·rw[e1]at cH
  obtain⟨y1,y2⟩:=hD.row _ _ e2;have yS:gS O y:=y1.mono (Nat.zero_le _);simp only[Z3,seval,-ah,fK,B8,uc,cH,jS];refine Qx s F hC (by omega) (hq.keep dC).pg hR hU hu jG (by omega) yS ⟨true,_,by rw[y1.len]⟩ fun oz mB z zS z1 z0 z2=>?_
  have za:∀j,j<=k->at_ z j=at_ y j:=z1 k fun v hv=>sv v hv
  have zt:TT O k z:=⟨zS.len,zS.bd,fun j hj=>by rw[za j (by omega)];exact y1.zero j hj⟩
  have zk:at_ z k=1:=by rw[za k (vM _)];exact y2
  have di:=zS.len;have zd:dep z=k:=by
   have h1:=dep_ge zt (by omega)
   rcases Nat.lt_or_ge k (dep z)with h|h
   ·rw[qW h]at zk;omega
   ·omega
  obtain⟨wO,aO,rO,rfl,AM⟩:=hU;simp only[Z3,seval,-ah];refine PSl.cat (bytes:=24) (σb:=h2) (n:=1) (cs:=[.fz true (.sl oz 0 O.length mB) O.length (pis z)]) (zD h2 _) (PSl.new _ 1 rfl (vM _)) AM.1 (by omega) (by omega) fun v3 h3 k3 a3=>?_
  obtain⟨s3,px,rfl,k8,CT,mb,te,cP⟩:=a3;have aj:All2 FI ([.fz true (.sl oz 0 O.length mB) O.length (pis z)]++rO) (z::u):=(All2.nil FI |>.snoc (⟨true,_,by rw[di]⟩:FI (.fz true (.sl oz 0 O.length mB) O.length (pis z)) z)).append AM
  have C7:=dC.next;simp only[Z3,seval,-ah,jS];refine⟨k,Nat.lt_succ_self k,.fz s3 _ CT (aj.bI 0) fun o1=>.here ⟨k,.fz true (.sl o1 0 (1+u.length) px) (1+u.length) ([.fz true (.sl oz 0 O.length mB) O.length (pis z)]++rO),z::u,by omega,rfl,?_,(dC.trans k3).kill (by omega),⟨true,_,_,by rw[List.length_cons,Nat.add_comm],aj⟩,?_,by simp;omega,?_,?_,?_,?_,fun N h1=>?_⟩⟩
  ·simp[sbs,Go.Ab.sb,k8.ok]
  ·intro v hv
   rcases List.mem_cons.1 hv with rfl|hv
   ·exact⟨zS,by omega,by rw[zd];exact zk⟩
   ·exact hu v hv
  ·intro v hv
   rcases List.mem_cons.1 hv with rfl|hv
   ·omega
   ·have:=sv v hv;omega
  ·rw[List.pairwise_cons]
   exact⟨fun v hv=>by have:=sv v hv;omega,jG⟩
  ·intro v hv w hw aC
   rcases List.mem_cons.1 hv with ev|bu
   ·rcases List.mem_cons.1 hw with ew|jS
    ·rw[ev,ew]at aC;exact absurd rfl aC
    ·rw[ev];exact z0 w jS
   ·rcases List.mem_cons.1 hw with ew|jS
    ·rw[ew];exact qW (by have:=sv v bu;omega)
    ·exact nS v bu w jS aC
  ·intro d y' hd hy
   rcases Nat.lt_or_ge k d with x|x
   ·obtain⟨v,hv,e⟩:=k9 d y' x hy
    exact⟨v,List.mem_cons_of_mem _ hv,e⟩
   ·exact⟨z,by simp,by omega⟩
  ·have nJ:(∀d y,k<=d->D[d]? = some (some y)->N y)↔(N y∧∀d y,k+1<=d->D[d]? = some (some y)->N y):=by
    refine⟨fun h=>⟨h k y (vM _) e2,fun d y hd hy=>h d y (by omega) hy⟩,fun⟨h3,h4⟩ d y' hd hy=>?_⟩
    rcases Nat.lt_or_ge k d with x|x
    ·exact h4 d y' x hy
    ·rw[show d=k by omega,e2]at hy;cases hy;exact h3
   rw[nJ,<-hN N h1,List.forall_mem_cons];refine⟨fun⟨h3,h4⟩=>⟨(z2 N h1 h4).2 h3,h4⟩,fun⟨h3,h4⟩=>⟨(z2 N h1 h4).1 h3,h4⟩⟩
noncomputable abbrev gcnj (O:List Int) (P:List (List Int)) (C:List (List (List Int))) (x g:List Int):List Int:=cnj (gS O) (gm O P C) (zv O) x g
end Go.Proofs
namespace Go.Proofs
open Go.Ab Go.Lie Go.Grp
variable{σ:PHeap}{K:PV->PHeap->Prop}{O:List Int}{P:List (List Int)}{C:List (List (List Int))}{vO vP vC:PV}{a:List Int}{v:List (List Int)}{sp:Nat}
theorem zCx(i:Nat):((List.range (i+1)).map (Grp.unit O))=((List.range i).map (Grp.unit O))++[Grp.unit O i]:=by
 rw[List.range_succ,List.map_append];rfl
theorem zFU(s:Shp O P C)(hs:PtrG σ sp vO vP vC)(hR:IsPr vO vP vC O P C)(hk:∀v,FII v (ZB O)->K v σ):zA Tryz.prog 182 [.ptr sp 0] σ K:=by
 have bJ:=s.le;obtain⟨⟨w0,a0,rfl⟩,_,_⟩:=hR;have e0:∀{h:PHeap},Keep σ h->h.rd1 sp 0=some (.fz w0 a0 O.length (pis O)):=fun k=>by rw[zF (hs.keep k).obj];rfl
 refine zA.gh ?_;refine zB mix Tryz.func182 ?_;simp only[Z3,seval,-ah,e0 (Keep.refl σ)];refine zC (fun m vs h'=>∃(i:Nat) (v:PV) (rows:List PV),i<=O.length∧m=O.length-i∧vs=[.ptr sp 0,v,.int .i64 O.length,.int .i64 i]∧Keep σ h'∧PAcc σ.next 1 h' v i rows∧All2 FI rows ((List.range i).map (Grp.unit O))) O.length ?_ ?_
 ·exact⟨0,_,[],by omega,by omega,rfl,Keep.refl σ,PAcc.nil _ _ _,All2.nil _⟩
 rintro m vs h' ⟨i,v,rows,hi,rfl,rfl,aq,ha,aj⟩
 simp only[Z3,seval,-ah];refine iteI (fun ai=>?_) fun aE=>?_
 rotate_left
 ·have bn:i=O.length:=by omega
  subst bn;exact ha.fin aq (aj.bI 0) fun a=>hk _ ⟨true,a,rows,by unfold ZB;rw[List.length_map,List.length_range],aj⟩
 have ak:i<O.length:=by omega
 simp only[Z3,seval,-ah,e0 aq];refine Qu (by omega) ak fun a1=>?_
 simp only[Z3,seval,-ah];refine PAcc.push (bytes:=24) aq ha (by omega) (by omega) fun v' h2 k2 a2=>?_
 simp only[Z3,seval,-ah,wrapS ak (by omega:O.length<=4611686018427387904)]
 refine⟨_,by omega,i+1,v',_,by omega,rfl,rfl,k2,a2.acc,?_⟩
 rw[zCx];exact aj.snoc ⟨true,a1,by simp;rfl⟩
end Go.Proofs
namespace Go.Proofs
open Go.Ab Go.Lie Go.Grp
variable{O:List Int}{P:List (List Int)}{C:List (List (List Int))}{j:Nat}
theorem Cons.full(s:Shp O P C)(hc:Cons O P C):Full O P C O.length:=full_of s (vM _) fun j _ h=>hc j h
theorem zM.isp(h:zM O P C):∀o∈O,isP o:=h.2.2.2.1
end Go.Proofs
namespace Go.Proofs
open Go.Ab Go.Lie Go.Grp
variable{O x y:List Int}{P:List (List Int)}{C:List (List (List Int))}{L:List (List Int)}
theorem zLe(s:Shp O P C)(hx:gS O x)(hy:gS O y)(h:numF O x O.length=numF O y O.length):x=y:=by
 have key:∀i,i<=O.length->numF O x i=numF O y i->∀j,j<i->at_ x j=at_ y j:=by
  intro i
  induction i with
  |zero=>intro _ _ j hj;omega
  |succ i ih=>
   intro hi he j hj;have bx:=hx.bd i hi;have bY:=hy.bd i hi;simp only[numF]at he
   have e1:at_ x i=at_ y i:=by
    have h1:(numF O x i*at_ O i+at_ x i) % at_ O i=at_ x i:=by
     rw[Int.add_comm,Int.add_mul_emod_self_right,Int.emod_eq_of_lt bx.1 bx.2]
    have h2:(numF O y i*at_ O i+at_ y i) % at_ O i=at_ y i:=by
     rw[Int.add_comm,Int.add_mul_emod_self_right,Int.emod_eq_of_lt bY.1 bY.2]
    rw[<-h1,<-h2,he]
   rcases Nat.lt_or_ge j i with h|h
   ·refine ih (by omega) ?_ j h
    rw[e1]at he
    have h3:numF O x i*at_ O i=numF O y i*at_ O i:=by omega
    exact Int.eq_of_mul_eq_mul_right (by omega) h3
   ·have:j=i:=by omega
    rw[this];exact e1
 exact hx.ext hy fun j h1 h2=>key _ (vM _) h j h2
abbrev BS:=List (List Int)×List (List Int)
def vst(s:BS)(y w:List Int):BS:=if y∈s.1 then s else(s.1++[y],s.2++[w])
def nxt(O:List Int)(P:List (List Int))(C:List (List (List Int)))(L:List (List Int))(a w:List Int):Nat->BS->BS
 |0,s=>s
 |j+1,s=>vst (nxt O P C L a w j s) (gm O P C a (L.getD j [])) (w++[(j:Int)+1])
end Go.Proofs
namespace Go.Mx
open Go.Ab Go.Lie Go.Grp
variable{p:Int}{n:Nat}{v:List Int}{A B:List (List Int)}
def row(A:List (List Int))(i:Nat):List Int:=A.getD i []
def vstep(p:Int)(x:Int)(r out:List Int):List Int:=List.zipWith (fun o b=>(o+x*b) % p) out r
def vmul(p:Int)(n:Nat)(v:List Int)(A:List (List Int)):Nat->List Int
 |0=>List.replicate n 0
 |i+1=>vstep p (at_ v i) (row A i) (vmul p n v A i)
abbrev vt(p:Int)(n:Nat)(v:List Int)(A:List (List Int)):List Int:=vmul p n v A v.length
def mm(p:Int)(n:Nat)(A B:List (List Int)):List (List Int):=A.map fun r=>vt p n r B
end Go.Mx
namespace Go.Mx
open Go.Ab Go.Lie Go.Grp
variable{n:Nat}
def nword(x:List Int):Nat->List Int
 |0=>[]
 |i+1=>nword x i++List.replicate (nx x i) ((i:Int)+1)
abbrev nw(x:List Int):List Int:=nword x x.length
theorem zDT{x:List Int}{n:Nat}:∀{i:Nat},i<=n->∀l∈nword x i,1<=l∧l<=(n:Int)
 |0,_,l,hl=>by cases hl
 |i+1,hi,l,hl=>by
  rw[nword,List.mem_append]at hl
  rcases hl with hl|hl
  ·exact zDT (by omega) l hl
  ·have:=List.eq_of_mem_replicate hl;omega
theorem nword_length{x:List Int}{b:Nat}(hb:∀j,nx x j<=b):∀(i:Nat),(nword x i).length<=i*b
 |0=>by simp[nword]
 |i+1=>by
  have:=nword_length hb i
  have:=hb i
  rw[nword,List.length_append,List.length_replicate,Nat.add_mul];omega
end Go.Mx
namespace Go.Grp
open Go.Ab Go.Lie
variable{O:List Int}{P:List (List Int)}{C:List (List (List Int))}{d i t j k:Nat}{w:List Nat}{x:List Int}
def wf(x:List Int):Nat->Nat->List Nat
 |t,0=>[]
 |t,d+1=>List.replicate (nx x t) t++wf x (t+1) d
def nword(O x:List Int):List Nat:=wf x 0 O.length
def In(O:List Int)(i:Nat)(w:List Nat):Prop:=∀a∈w,i<=a∧a<O.length
def vl(O:List Int)(P:List (List Int))(C:List (List (List Int)))(d:Nat)(x:List Int)(w:List Nat):List Int:=w.foldl (fun x a=>mu O P C d x (unit O a)) x
section T
variable(s:Shp O P C)(B:Full O P C d)
include s B
end T
theorem zL5(h:∀j,t<=j->j<t+k->nx x j=0):∀{c},wf x t (k+c)=wf x (t+k) c:=by
 induction k generalizing t with
 |zero=>intro c;rw[Nat.zero_add,Nat.add_zero]
 |succ k ih=>
  intro c;rw[show k+1+c=(k+c)+1 by omega,wf,h t (vM _) (by omega),List.replicate_zero,List.nil_append,ih (fun j a b=>h j (by omega) (by omega)),show t+1+k=t+(k+1) by omega]
theorem zLd(hx:TT O t x)(ht:t<=O.length):nword O x=wf x t (O.length-t):=by
 unfold nword
 have:=zL5 (x:=x) (t:=0) (k:=t) (fun j _ h2=>by show(at_ x j).toNat=0;rw[hx.zero j (by omega)];rfl) (c:=O.length-t)
 rw[show t+(O.length-t)=O.length by omega,Nat.zero_add]at this
 exact this
theorem wf_in:∀{c t:Nat},∀a∈wf x t c,t<=a∧a<t+c
 |0,t,a,ha=>by cases ha
 |c+1,t,a,ha=>by
  rw[wf,List.mem_append]at ha
  rcases ha with ha|ha
  ·rw[List.eq_of_mem_replicate ha];omega
  ·have:=wf_in (c:=c) (t:=t+1) a ha;omega
theorem zDT(hx:TT O t x)(ht:t<=O.length):In O t (nword O x):=by
 rw[zLd hx ht];intro a ha
 have:=wf_in a ha
 omega
end Go.Grp
set_option linter.unusedSimpArgs false
set_option linter.unusedVariables false
namespace Go.Proofs
open Go.Ab Go.Lie Go.Grp Go.Mx
variable{σ:PHeap}{K:PV->PHeap->Prop}{xs ys:List Int}{A:List (List Int)}{vA vB:PV}
theorem zDD{xs ys:List (List Int)}(hU:FII vA xs)(hV:FII vB ys)(hx:xs.length<=1048576)(dz:∀x∈xs,x.length<=1048576)(hk:∀t:Bool,(t=true↔xs=ys)->K (.bool t) σ):zA Tryz.prog 110 [vA,vB] σ K:=by
 have fl:∀{A:Prop},¬A->((false=true)↔A):=fun h=>⟨fun x=>(by cases x),fun x=>absurd x h⟩
 obtain⟨wA,aA,rA,rfl,xA⟩:=hU;obtain⟨wB,aB,rB,rfl,xz⟩:=hV;refine zB mix Tryz.func110 ?_
 by_cases hl:xs.length=ys.length
 rotate_left
 ·have aY:¬(xs.length:Int)=(ys.length:Int):=by omega
  simp only[Z3,seval,-ah,aY];exact hk _ (fl fun h=>hl (by rw[h]))
 have aY:(xs.length:Int)=(ys.length:Int):=by omega
 simp only[Z3,seval,-ah,eq_true aY];refine zC (fun m vs h'=>∃i:Nat,i<=xs.length∧m=xs.length-i∧vs=[.fz wA aA xs.length rA,.fz wB aB ys.length rB,.int .i64 i]∧σ=h'∧xs.take i=ys.take i) xs.length ?_ ?_
 ·exact⟨0,by omega,by omega,rfl,rfl,rfl⟩
 rintro m vs h' ⟨i,hi,rfl,rfl,rfl,heq⟩
 simp only[Z3,seval,-ah];refine iteI (fun ai=>?_) fun aE=>?_
 rotate_left
 ·have bn:i=xs.length:=by omega
  subst bn;rw[List.take_length,hl,List.take_length]at heq
  exact hk _ ⟨fun _=>heq,fun _=>rfl⟩
 have aI:i<ys.length:=by omega
 obtain⟨w4,a4,hr⟩:=xA.rowI ai;obtain⟨w5,a5,nV⟩:=xz.rowI aI;have hb:=dz _ (List.getElem_mem ai);simp only[Z3,seval,-ah,ai,aI,hr,nV];refine qw rfl rfl (by omega) ?_
 by_cases he:xs[i]=ys[i]
 ·simp only[Z3,seval,-ah,he,wrapS ai (by omega:xs.length<=4611686018427387904)]
  refine⟨_,by omega,i+1,by omega,rfl,rfl,?_⟩
  rw[List.take_succ_eq_append_getElem ai,List.take_succ_eq_append_getElem aI,heq,he]
 ·simp only[Z3,seval,-ah,he]
  refine hk _ (fl fun h=>he ?_)
  subst h;rfl
end Go.Proofs
set_option linter.unusedSimpArgs false
set_option linter.unusedVariables false
namespace Go.Proofs
open Go.Ab Go.Lie Go.Grp Go.Mx
variable{σ:PHeap}{K:PV->PHeap->Prop}{w x:List Int}{vx:PV}{vC:PV}
theorem zIt(i k:Nat):nword x i++List.replicate (k+1) ((i:Int)+1)=(nword x i++List.replicate k ((i:Int)+1))++[(i:Int)+1]:=by
 rw[List.replicate_succ',List.append_assoc]
theorem zFN(hx:∀j,0<=at_ x j∧at_ x j<=7)(hl:x.length<=6)(bq:FI vx x)(hk:ResI σ K (nw x)):zA Tryz.prog 171 [vx] σ K:=by
 obtain⟨wx,ax,rfl⟩:=bq;have fH:∀i,i<=x.length->(nword x i).length<=42:=fun i hi=>by
  have:=nword_length (x:=x) (b:=7) (fun j=>by have:=hx j;unfold nx;omega) i
  omega
 refine zA.gh ?_;refine zB mix Tryz.func171 ?_;simp only[Z3,seval,-ah];refine zC (fun m vs h'=>∃(i:Nat) (vC:PV),i<=x.length∧m=x.length-i∧vs=[vC,.fz wx ax x.length (pis x),.int .i64 x.length,.int .i64 i]∧Keep σ h'∧PAcc σ.next 1 h' vC (nword x i).length (pis (nword x i))) x.length ?_ ?_
 ·exact⟨0,_,by omega,by omega,rfl,Keep.refl σ,PAcc.nil _ _ _⟩
 rintro m vs h' ⟨i,vC,hi,rfl,rfl,aq,ha⟩
 simp only[Z3,seval,-ah];refine iteI (fun ai=>?_) fun aE=>?_
 rotate_left
 ·have bn:i=x.length:=by omega
  subst bn;exact ha.res aq rfl hk
 have bx:=hx i;have cA:((nx x i:Nat):Int)=x[i]:=by
  unfold nx;rw[Int.toNat_of_nonneg bx.1,at_eq ai]
 have EH:nx x i<=7:=by unfold nx;omega
 simp only[Z3,seval,-ah,ai,gi ai,zG];refine zC (fun m vs h'=>∃(k:Nat) (vC:PV),k<=nx x i∧m=nx x i-k∧vs=[vC,.int .i64 i,.fz wx ax x.length (pis x),.int .i64 x.length,.int .i64 i,.int .i64 x[i],.int .i64 k]∧Keep σ h'∧PAcc σ.next 1 h' vC (nword x i++List.replicate k ((i:Int)+1)).length (pis (nword x i++List.replicate k ((i:Int)+1)))) (nx x i) ?_ ?_
 ·exact⟨0,vC,by omega,by omega,rfl,aq,by simpa using ha⟩
 clear ha aq vC
 rintro m vs h' ⟨k,vC,bU,rfl,rfl,aq,ha⟩
 rw[<-cA];simp only[Z3,seval,-ah];refine iteI (fun s4=>?_) fun A5=>?_
 ·have x6:k<nx x i:=by omega
  have hb:=fH i (by omega)
  have hlen:(nword x i++List.replicate k ((i:Int)+1)).length<=60:=by simp;omega
  have ew:IntKind.i64.wrap ((i:Int)+1)=(i:Int)+1:=wrap64 (by omega) (by omega)
  have jo:IntKind.i64.wrap ((k:Int)+1)=((k+1:Nat):Int):=wrapS x6 (by omega)
  simp only[Z3,seval,-ah,ew];refine PAcc.push (bytes:=8) (σb:=σ) aq ha (by omega) (by omega) fun v' h2 k2 a2=>?_
  simp only[Z3,seval,-ah,jo];refine⟨nx x i-(k+1),by omega,k+1,v',by omega,rfl,by rw[cA],k2,?_⟩
  rw[zIt]
  have:=a2.acc
  simpa [pis,Nat.add_assoc]using this
 ·have eP:k=nx x i:=by omega
  subst eP;simp only[Z3,seval,-ah,wrapS ai (by omega:x.length<=4611686018427387904)]
  exact⟨_,by omega,i+1,vC,by omega,rfl,rfl,aq,ha⟩
theorem ZX{h:PHeap}{a b:List PV}:(h.new a).set h.next b=h.new b:=by
 show PHeap.mk _ _ _=PHeap.mk _ _ _
 congr 1
 funext t
 show(if t=h.next then some b else if t=h.next then some a else h.obj t)=if t=h.next then some b else h.obj t
 by_cases e:t=h.next
 ·rw[if_pos e,if_pos e]
 ·rw[if_neg e,if_neg e,if_neg e]
def rl(l:Int)(c k:Nat):List Int:=List.replicate k l++List.replicate (c-k) 0
theorem zB5{l:Int}{c k:Nat}(h:k<=c):(rl l c k).length=c:=by simp[rl];omega
theorem zHy{l:Int}{c k m:Nat}(h:k+m<=c):(pis (rl l c k)).take k++pis (List.replicate m l)++(pis (rl l c k)).drop (k+m)=pis (rl l c (k+m)):=by
 have e1:(pis (rl l c k)).take k=pis (List.replicate k l):=by
  unfold rl pis;rw[List.map_append,List.take_append_of_le_length (by simp),List.take_of_length_le (by simp)]
 have e2:(pis (rl l c k)).drop (k+m)=pis (List.replicate (c-(k+m)) 0):=by
  unfold rl pis;rw[List.map_append,List.drop_append,List.drop_of_length_le (by simp),List.nil_append]
  simp
  omega
 rw[e1,e2];unfold rl pis;rw[<-List.map_append,List.replicate_append_replicate,<-List.map_append]
theorem zJD{l:Int}{c:Nat}{w:Bool}{a:AV}:pcopy 1 (σ.new (pis (rl l c 0))) (.sl σ.next 0 c (.known c)) (.fz w a 1 (pis [l]))=some (.int .i64 ((min 1 c:Nat):Int),σ.new (pis (rl l c (min 1 c)))):=by
 rw[zF8];simp only[plen,Option.bind_some];rcases Nat.eq_zero_or_pos c with rfl|hc
 ·rfl
 have e:min 1 c=1:=by omega
 rw[e,if_neg (by omega),zCC,if_neg (by omega),if_pos (by simp[pis])]
 simp only[Option.bind_some];rw[ZZ (cs:=pis (rl l c 0)) (by rw[zH,if_pos rfl]),if_pos ⟨by rw[zJ,zB5 (Nat.zero_le _)];simp[pis];omega,by simp[pis,PV.one]⟩,ZX]
 have:=zHy (l:=l) (c:=c) (k:=0) (m:=1) (by omega)
 simp only[Option.map_some];rw[Nat.zero_add]at this
 rw[<-this];simp[pis]
theorem zKb{l:Int}{c k:Nat}(h0:0<k)(hk:k<c):pcopy 1 (σ.new (pis (rl l c k))) (.sl σ.next k (c-k) (.known (c-k))) (.sl σ.next 0 k (.known c))=some (.int .i64 ((min k (c-k):Nat):Int),σ.new (pis (rl l c (k+min k (c-k))))):=by
 rw[zF8];simp only[plen,Option.bind_some];have hm:min k (c-k)≠0:=by omega
 have uE:min k (c-k)<=k:=by omega
 have AY:k+min k (c-k)<=c:=by omega
 generalize min k (c-k)=m at *
 have hf:qX 1 (σ.new (pis (rl l c k))) (.sl σ.next 0 k (.known c)) m=some (pis (List.replicate m l)):=by
  rw[ZY,if_neg hm,if_pos uE,zb (cs:=pis (rl l c k)) (by rw[zH,if_pos rfl]),if_pos (by rw[zJ,zB5 (by omega)];omega),List.drop_zero,Nat.mul_one]
  congr 1
  unfold rl pis;rw[List.map_append,List.take_append_of_le_length (by simp;omega),List.map_replicate,List.take_replicate,List.map_replicate,Nat.min_eq_left uE]
 rw[if_neg hm,hf];simp only[Option.bind_some];rw[ZZ (cs:=pis (rl l c k)) (by rw[zH,if_pos rfl]),if_pos ⟨by rw[zJ,zJ,zB5 (by omega),List.length_replicate];omega,by simp[pis,PV.one]⟩,ZX,zJ,List.length_replicate,zHy AY]
 rfl
end Go.Proofs
set_option linter.unusedSimpArgs false
set_option linter.unusedVariables false
namespace Go.Proofs
open Go.Ab Go.Lie Go.Grp Go.Mx
variable{σ:PHeap}{K:PV->PHeap->Prop}{v x:List Int}{vx:PV}
theorem zBr(hx:∀j,0<=at_ x j∧at_ x j<=7)(hl:x.length<=6)(bq:FI vx x)(hk:∀v,FI v (nw x)->K v σ):zA Tryz.prog 171 [vx] σ K:=
 zA.fzI (fun K'=>zFN hx hl bq) fun a=>hk _ ⟨_,_,rfl⟩
end Go.Proofs
set_option linter.unusedSimpArgs false
set_option linter.unusedVariables false
namespace Go.Proofs
open Go.Ab Go.Lie Go.Grp
variable{σ:PHeap}{K:PV->PHeap->Prop}{O:List Int}{P:List (List Int)}{C:List (List (List Int))}{vO vP vC vx:PV}{x:List Int}{d:Nat}
structure LG(O:List Int)(P:List (List Int))(C:List (List (List Int))):Prop where
 pr:zM O P C
 co:Cons O P C
theorem LG.s(g:LG O P C):Shp O P C:=g.pr.shp
theorem LG.F(g:LG O P C):Full O P C O.length:=Cons.full g.s g.co
theorem LG.cent(g:LG O P C):Cent O C:=trivial
theorem zCL(g:LG O P C)(hR:IsPr vO vP vC O P C)(hx:gS O x)(bq:FI vx x){k:Int}(dh:0<=k∧k<=1000)(hk:∀v,FI v (Grp.pw (gm O P C) (zv O) x k.toNat)->K v σ):
  zA Tryz.prog 115 [.agg [vO,vP,vC],vx,.int .i64 k] σ K:=by
 have h0:=hR.O.one;have h1:=hR.P.one;have h2:=hR.C.one;have M:=g.F.g.toMon;have dI:¬k<0:=by omega
 refine zA.gh ?_;refine zB mix Tryz.func115 ?_;simp only[Z3,seval,-ah,h0,h1,h2,dI];refine zAT g.s (d:=O.length) (i:=0) (by omega) (QX g.s (by omega)) M hR hx bq dh fun v hv=>?_
 simp only[Z3,seval,-ah];exact Gh.fin0 (zD σ _) (hv.bel _) (hk v hv)
end Go.Proofs
set_option linter.unusedVariables false
set_option linter.unusedSimpArgs false
set_option linter.unusedSectionVars false
namespace Go.Grp
open Go.Ab Go.Lie
variable{O:List Int}{P:List (List Int)}{C:List (List (List Int))}{x z a b g:List Int}{t k d:Nat}
theorem Gp.pw_inv'{α:Type}[Inhabited α]{S:α->Prop}{m:α->α->α}{e z:α}(G:Gp S m e)(hz:S z)(k:Nat):Grp.pw m e (ginv S m e z) k=ginv S m e (Grp.pw m e z k):=by
 have iz:=(G.inv_in hz).1;refine G.inv_eq (G.pw hz k) (G.pw iz k) ?_
 induction k with
 |zero=>exact G.l1 G.one
 |succ k ih=>
  show m (m (Grp.pw m e z k) z) (m (Grp.pw m e (ginv S m e z) k) (ginv S m e z))=e;rw[G.pw_comm iz k,<-G.as (G.cl (G.pw hz k) hz) iz (G.pw iz k),G.as (G.pw hz k) hz iz,G.inv_r hz,G.r1 (G.pw hz k),ih]
section
variable(s:Shp O P C)(F:Full O P C O.length)(hC:Cent O C)
include s F hC
theorem zBP(ht:t<O.length)(hx:gS O x)(hb:TT O t b)(jX:at_ b t=1):
  gS O (gm O P C x (pw (gm O P C) (zv O) (ginv (gS O) (gm O P C) (zv O) b) (at_ x t).toNat))∧gm O P C (gm O P C x (pw (gm O P C) (zv O) (ginv (gS O) (gm O P C) (zv O) b) (at_ x t).toNat)) (pw (gm O P C) (zv O) b (at_ x t).toNat)=x∧
  Upto O t (gm O P C x (pw (gm O P C) (zv O) (ginv (gS O) (gm O P C) (zv O) b) (at_ x t).toNat)) x∧at_ (gm O P C x (pw (gm O P C) (zv O) (ginv (gS O) (gm O P C) (zv O) b) (at_ x t).toNat)) t=0:=by
 have G:=F.g;have bS:gS O b:=hb.mono (Nat.zero_le _);have ib:=(G.inv_in bS).1;have bx:=hx.bd t ht;have pS:=G.pw bS (at_ x t).toNat;have qS:=G.pw ib (at_ x t).toNat;have hw:=G.cl hx qS;have e:gm O P C (gm O P C x (pw (gm O P C) (zv O) (ginv (gS O) (gm O P C) (zv O) b) (at_ x t).toNat)) (pw (gm O P C) (zv O) b (at_ x t).toNat)=x:=by
  rw[G.as hx qS pS,G.pw_inv' bS,G.inv_l pS,G.r1 hx]
 obtain⟨p1,p2⟩:=Z9 s F hC ht hb (at_ x t).toNat;refine⟨hw,e,?_,?_⟩<;>generalize gm O P C x (pw (gm O P C) (zv O) (ginv (gS O) (gm O P C) (zv O) b) (at_ x t).toNat)=w at *
 ·obtain⟨g1,g2⟩:=qV s (d:=O.length) (b:=w) (a:=pw (gm O P C) (zv O) b (at_ x t).toNat) (t:=t) (vM _) (by omega) ht (by rw[Nat.sub_self];exact hw) p1
  have e':mu O P C O.length w (pw (gm O P C) (zv O) b (at_ x t).toNat)=x:=e;rw[e']at g1
  exact fun j hj=>(g1 j hj).symm
 ·obtain⟨g1,g2⟩:=qV s (d:=O.length) (b:=w) (a:=pw (gm O P C) (zv O) b (at_ x t).toNat) (t:=t) (vM _) (by omega) ht (by rw[Nat.sub_self];exact hw) p1
  have e':mu O P C O.length w (pw (gm O P C) (zv O) b (at_ x t).toNat)=x:=e;rw[e',p2,jX,Int.mul_one,Int.toNat_of_nonneg bx.1,Int.emod_eq_of_lt bx.1 bx.2,zKl]at g2
  exact zBl bx (hw.bd t ht) g2.symm
end
end Go.Grp
set_option linter.unusedSimpArgs false
set_option linter.unusedVariables false
namespace Go.Proofs
open Go.Ab Go.Lie Go.Grp
variable{σ:PHeap}{K:PV->PHeap->Prop}{O:List Int}{P:List (List Int)}{C:List (List (List Int))}{vO vP vC vL:PV}{x:List Int}{xs:List (List Int)}{j sp:Nat}
theorem isExp.gS(h:isExp O x):gS O x:=⟨h.1,fun j hj=>by have:=h.2 j (by rw[h.1];exact hj);omega,fun j hj=>by omega⟩
theorem zEy(hs:PtrG σ sp vO vP vC)(hR:IsPr vO vP vC O P C)(sz:SzP O P C)(hL:FII vL xs)(bF:SzL xs)(hk:∀t:Bool,(t=true↔(zM O P C∧Cons O P C)∧∀x∈xs,isExp O x)->K (.bool t) σ):zA Tryz.prog 130 [.ptr sp 0,vL] σ K:=by
 have fl:∀{A:Prop},¬A->((false=true)↔A):=fun h=>⟨fun x=>(by cases x),fun x=>absurd x h⟩
 have r3:σ.rd sp 0 3=some [vO,vP,vC]:=by rw[zb hs.obj];rfl
 have dz:=bF.l;obtain⟨wl,al,rl,rfl,bK⟩:=hL;refine zB mix Tryz.func130 ?_;simp only[Z3,seval,-ah,r3];refine zq hR sz fun t ht=>?_
 cases t with
 |false=>
  simp only[Z3,seval,-ah];exact hk _ (fl fun h=>by cases ht.2 h.1)
 |true=>
 have hp:=ht.1 rfl;simp only[Z3,seval,-ah];refine zC (fun m us h'=>∃i:Nat,i<=xs.length∧m=xs.length-i∧us=[.ptr sp 0,.fz wl al xs.length rl,.int .i64 xs.length,.int .i64 i]∧σ=h'∧∀x∈xs.take i,isExp O x) xs.length ⟨0,by omega,by omega,rfl,rfl,by simp⟩ ?_
 rintro m us h' ⟨i,hi,rfl,rfl,rfl,aj⟩
 simp only[Z3,seval,-ah];refine iteI (fun ai=>?_) fun aE=>?_
 rotate_left
 ·have bn:i=xs.length:=by omega
  subst bn;rw[List.take_length]at aj
  exact hk _ ⟨fun _=>⟨hp,aj⟩,fun _=>rfl⟩
 obtain⟨w4,a4,hr⟩:=bK.rowI ai;have jR:=bF.r _ (List.getElem_mem ai);simp only[Z3,seval,-ah,ai,hr];refine ZE hs hR.O (by have:=hp.1.1;omega) hp.1.isp ⟨w4,a4,rfl⟩ jR fun t ht=>?_
 cases t with
 |false=>
  simp only[Z3,seval,-ah];exact hk _ (fl fun h=>by cases ht.2 (h.2 _ (List.getElem_mem ai)))
 |true=>
 have h1:=ht.1 rfl;simp only[Z3,seval,-ah,wrapS ai (by omega:xs.length<=4611686018427387904)]
 refine⟨_,by omega,i+1,by omega,rfl,rfl,fun x hx=>?_⟩
 rw[List.take_succ_eq_append_getElem ai,List.mem_append,List.mem_singleton]at hx
 rcases hx with hx|hx
 ·exact aj x hx
 ·rw[hx];exact h1
end Go.Proofs
set_option linter.unusedSimpArgs false
set_option linter.unusedVariables false
namespace Go.Proofs
open Go.Ab Go.Lie Go.Grp
variable{O:List Int}{P:List (List Int)}{C:List (List (List Int))}{z w:List Int}
noncomputable def rt(O:List Int)(P:List (List Int))(C:List (List (List Int)))(z:List Int)(c:Int):List Int:=Classical.epsilon fun w=>Rt O P C z c w
end Go.Proofs
set_option linter.unusedSimpArgs false
set_option linter.unusedVariables false
namespace Go.Proofs
open Go.Ab Go.Lie Go.Grp Go.Mx
abbrev Pre:=List Int×List (List Int)×List (List (List Int))
def fl3:List (PV×PV×PV)->List PV
 |[]=>[]
 |q::r=>q.1::q.2.1::q.2.2::fl3 r
theorem qO:∀rows:List (PV×PV×PV),(fl3 rows).length=3*rows.length
 |[]=>rfl
 |q::r=>by simp only[fl3,List.length_cons,qO r];omega
theorem Q4:∀a b:List (PV×PV×PV),fl3 (a++b)=fl3 a++fl3 b
 |[],b=>rfl
 |q::a,b=>by simp only[List.cons_append,fl3,Q4 a b]
theorem QD:∀{rows:List (PV×PV×PV)} {k:Nat} (hk:k<rows.length),((fl3 rows).drop (k*3)).take 3=[rows[k].1,rows[k].2.1,rows[k].2.2]
 |q::r,0,_=>rfl
 |q::r,k+1,hk=>by
  rw[show(k+1)*3=k*3+1+1+1 by omega]
  simp only[fl3,List.drop_succ_cons,List.getElem_cons_succ];exact QD (rows:=r) (by simpa using hk)
def FI3(q:PV×PV×PV)(g:Pre):Prop:=IsPr q.1 q.2.1 q.2.2 g.1 g.2.1 g.2.2
def FG(v:PV)(G:List Pre):Prop:=∃w a rows,v=.fz w a G.length (fl3 rows)∧All2 FI3 rows G
theorem FG.one{v:PV}{G:List Pre}(h:FG v G):v.one=true:=by obtain⟨w,a,r,rfl,_⟩:=h;rfl
theorem FG.cells{v:PV}{G:List Pre}(h:FG v G):v.cells=[v]:=by obtain⟨w,a,r,rfl,_⟩:=h;rfl
theorem FG.bel{v:PV}{G:List Pre}(h:FG v G)(n:Nat):Bel n v:=by obtain⟨w,a,r,rfl,_⟩:=h;trivial
theorem zIA{rows:List (PV×PV×PV)}{G:List Pre}(h:All2 FI3 rows G):Bels 0 (fl3 rows):=by
 rw[Zj];intro c hc
 have:∀{rows:List (PV×PV×PV)},c∈fl3 rows->∃q∈rows,c=q.1∨c=q.2.1∨c=q.2.2:=by
  intro rows
  induction rows with
  |nil=>intro h;cases h
  |cons q r ih=>
   intro h;simp only[fl3,List.mem_cons]at h
   rcases h with h|h|h|h
   ·exact⟨q,by simp,.inl h⟩
   ·exact⟨q,by simp,.inr (.inl h)⟩
   ·exact⟨q,by simp,.inr (.inr h)⟩
   ·obtain⟨q',h1,h2⟩:=ih h;exact⟨q',by simp[h1],h2⟩
 obtain⟨q,hq,he⟩:=this hc;obtain⟨k,hk,rfl⟩:=List.mem_iff_getElem.1 hq;have hi:IsPr rows[k].1 rows[k].2.1 rows[k].2.2 _ _ _:=h.2 k _ _ (vX hk) (vX (by rw[<-h.1];exact hk))
 rcases he with rfl|rfl|rfl
 ·exact hi.O.bel 0
 ·exact hi.P.bel 0
 ·exact hi.C.bel 0
structure SzG(G:List Pre):Prop where
 l:G.length<=1048576
 r:∀g∈G,SzP g.1 g.2.1 g.2.2
def need(k:Int):Int:=if k=5 then 3 else if k=4 then 2 else if 1<=k∧k<=6 then 1 else -1
def ZF(k:Int)(G:List Pre)(L:List (List Int)):Prop:=
 need k=G.length∧L.length<=32∧(∀g∈G,zM g.1 g.2.1 g.2.2)∧∀l∈L,l.length<=128∧∀x∈l,-1000000<=x∧x<=1000000
variable{σ:PHeap}{K:PV->PHeap->Prop}{k:Int}{G:List Pre}{L:List (List Int)}{vG vL:PV}{s:Nat}
theorem zGJ(hk:K (.int .i64 (need k)) σ):zA Tryz.prog 52 [.int .i64 k] σ K:=by
 unfold need at hk
 refine zB mix Tryz.func52 ?_
 by_cases h5:k=5
 ·subst h5;simp only[Z3,seval,-ah];exact hk
 by_cases h4:k=4
 ·subst h4;simp only[Z3,seval,-ah];exact hk
 rw[if_neg h5,if_neg h4]at hk
 by_cases h1:k=1
 ·subst h1;simp only[Z3,seval,-ah];exact hk
 by_cases h2:k=2
 ·subst h2;simp only[Z3,seval,-ah];exact hk
 by_cases h3:k=3
 ·subst h3;simp only[Z3,seval,-ah];exact hk
 by_cases h6:k=6
 ·subst h6;simp only[Z3,seval,-ah];exact hk
 rw[if_neg (by omega)]at hk
 simp only[Z3,seval,-ah,h1,h2,h3,h4,h5,h6];exact hk
theorem zAt(aW:1<=k∧k<=6)(hk:K (.int .i64 (need k)) σ):zA Tryz.prog 77 [.int .i64 k] σ K:=by
 unfold need at hk
 refine zB mix Tryz.func77 ?_
 by_cases h5:k=5
 ·subst h5;simp only[Z3,seval,-ah];exact hk
 by_cases h4:k=4
 ·subst h4;simp only[Z3,seval,-ah];exact hk
 rw[if_neg h5,if_neg h4,if_pos aW]at hk
 simp only[Z3,seval,-ah,h4,h5];exact hk
theorem zDb(hs:σ.obj s=some [.int .i64 k,vG,vL])(hG:FG vG G)(cY:SzG G)(hL:FII vL L)(bF:SzL L)(hk:∀t:Bool,(t=true↔ZF k G L)->K (.bool t) σ):zA Tryz.prog 32 [.ptr s 0] σ K:=by
 have fl:∀{A:Prop},¬A->((false=true)↔A):=fun h=>⟨fun x=>(by cases x),fun x=>absurd x h⟩
 obtain⟨wG,aG,rG,rfl,jU⟩:=hG;obtain⟨wL,aL,rL,rfl,eW⟩:=hL;have e0:σ.rd1 s 0=some (.int .i64 k):=by rw[zF hs];rfl
 have e1:σ.rd1 s 1=some (.fz wG aG G.length (fl3 rG)):=by rw[zF hs];rfl
 have e2:σ.rd1 s 2=some (.fz wL aL L.length rL):=by rw[zF hs];rfl
 have B2:=cY.l;have Ai:=bF.l;refine zA.pwf fun wf=>zA.gh ?_
 have dw:s<σ.next:=wf.lt hs;have no:∀{σ':PHeap},¬ZF k G L->Keep σ σ'->Gh σ K (.bool false) σ':=fun h kk=>Gh.fin0 kk trivial (hk _ (fl h))
 refine qB mix Tryz.func32 ?_;simp only[Z3,seval,-ah,e0];refine qx ?_
 by_cases aW:1<=k∧k<=6
 rotate_left
 ·simp only[Z3,seval,-ah,aW,e0,e1,e2]
  refine no (fun h=>aW ?_) (Keep.refl σ)
  have:=h.1
  unfold need at this
  by_cases h5:k=5
  ·omega
  by_cases h4:k=4
  ·omega
  rw[if_neg h5,if_neg h4,if_neg aW]at this
  omega
 simp only[Z3,seval,-ah,aW,e0,e1,e2];refine zAt aW ?_
 by_cases hg:(G.length:Int)=need k
 rotate_left
 ·simp only[Z3,seval,-ah,e0,e1,e2,hg]
  exact no (fun h=>hg h.1.symm) (Keep.refl σ)
 by_cases hl:L.length<=32
 rotate_left
 ·have aY:(32:Int)<(L.length:Int):=by omega
  simp only[Z3,seval,-ah,e0,e1,e2,eq_true hg,aY];exact no (fun h=>hl h.2.1) (Keep.refl σ)
 have aY:¬(32:Int)<(L.length:Int):=by omega
 simp only[Z3,seval,-ah,e0,e1,e2,eq_true hg,aY];refine zC (fun m us h'=>∃i:Nat,i<=G.length∧m=G.length-i∧us=[.ptr s 0,.fz wG aG G.length (fl3 rG),.int .i64 G.length,.int .i64 i]∧Keep σ h'∧∀g∈G.take i,zM g.1 g.2.1 g.2.2) G.length ?_ ?_
 ·exact⟨0,by omega,by omega,rfl,Keep.refl σ,by simp⟩
 rintro m us h' ⟨i,hi,rfl,rfl,aq,aj⟩
 have y8:h'.rd1 s 2=some (.fz wL aL L.length rL):=by rw[zF ((aq.obj _ dw).trans hs)];rfl
 simp only[Z3,seval,-ah];refine iteI (fun ai=>?_) fun aE=>?_
 ·have ee:i<rG.length:=by rw[jU.1];exact ai
  have dF:=QD ee;have h3:3<=(fl3 rG).length-i*3:=by have:=qO rG;omega
  have hp:IsPr rG[i].1 rG[i].2.1 rG[i].2.2 G[i].1 G[i].2.1 G[i].2.2:=jU.2 i _ _ (vX ee) (vX ai);simp only[Z3,seval,-ah,ai,dF,h3,hp.O.one,hp.P.one,hp.C.one,List.length_drop];refine qZ hp (cY.r _ (List.getElem_mem ai)) fun t ht=>?_
  cases t with
  |false=>
   simp only[Z3,seval,-ah];exact no (fun h=>by cases ht.2 (h.2.2.1 _ (List.getElem_mem ai))) (aq.new _)
  |true=>
   simp only[Z3,seval,-ah,wrapS ai (by omega:G.length<=4611686018427387904)]
   refine⟨_,by omega,i+1,by omega,rfl,rfl,aq.new _,fun g hg=>?_⟩
   rw[List.take_succ_eq_append_getElem ai,List.mem_append,List.mem_singleton]at hg
   rcases hg with hg|rfl
   ·exact aj g hg
   ·exact ht.1 rfl
 have kA:∀g∈G,zM g.1 g.2.1 g.2.2:=fun g hg=>aj g (by rwa[List.take_of_length_le (by omega)])
 simp only[Z3,seval,-ah,y8];refine zC (fun m us h2=>∃i:Nat,i<=L.length∧m=L.length-i∧us=[.fz wL aL L.length rL,.int .i64 L.length,.int .i64 i]∧h'=h2∧∀l∈L.take i,l.length<=128∧∀x∈l,-1000000<=x∧x<=1000000) L.length ?_ ?_
 ·exact⟨0,by omega,by omega,rfl,rfl,by simp⟩
 clear hi aE aj i
 rintro m us h2 ⟨i,hi,rfl,rfl,rfl,aj⟩
 simp only[Z3,seval,-ah];refine iteI (fun ai=>?_) fun aE=>?_
 rotate_left
 ·exact Gh.fin0 aq trivial (hk _ ⟨fun _=>⟨hg.symm,hl,kA,fun l hl=>aj l (by rwa[List.take_of_length_le (by omega)])⟩,fun _=>rfl⟩)
 obtain⟨w4,a4,hr⟩:=eW.rowI ai;have hb:=bF.r _ (List.getElem_mem ai)
 by_cases fh:L[i].length<=128
 rotate_left
 ·have h':(128:Int)<(L[i].length:Int):=by omega
  simp only[Z3,seval,-ah,ai,hr,h'];exact no (fun h=>fh (h.2.2.2 _ (List.getElem_mem ai)).1) aq
 have iq:¬(128:Int)<(L[i].length:Int):=by omega
 simp only[Z3,seval,-ah,ai,hr,iq];refine zC (fun m us h2=>∃q:Nat,q<=L[i].length∧m=L[i].length-q∧us=[.fz wL aL L.length rL,.int .i64 L.length,.int .i64 i,.fz w4 a4 L[i].length (pis L[i]),.int .i64 L[i].length,.int .i64 q]∧h'=h2∧∀x∈L[i].take q,-1000000<=x∧x<=1000000) L[i].length ?_ ?_
 ·exact⟨0,by omega,by omega,rfl,rfl,by simp⟩
 rintro m us h2 ⟨q,hq,rfl,rfl,rfl,eH⟩
 simp only[Z3,seval,-ah];refine iteI (fun eB=>?_) fun yp=>?_
 rotate_left
 ·simp only[Z3,seval,-ah,wrapS ai (by omega:L.length<=4611686018427387904)]
  refine⟨_,by omega,i+1,by omega,rfl,rfl,fun l hl=>?_⟩
  rw[List.take_succ_eq_append_getElem ai,List.mem_append,List.mem_singleton]at hl
  rcases hl with hl|rfl
  ·exact aj l hl
  ·exact⟨fh,fun x hx=>eH x (by rwa[List.take_of_length_le (by omega)])⟩
 simp only[Z3,seval,-ah,eB,gi eB,zG];refine qx ?_
 by_cases hv:-1000000<=L[i][q]∧L[i][q]<=1000000
 ·simp only[Z3,seval,-ah,hv,wrapS eB (by omega:L[i].length<=4611686018427387904)]
  exact⟨_,by omega,q+1,by omega,rfl,rfl,Zv eB eH hv⟩
 ·simp only[Z3,seval,-ah,hv]
  exact no (fun h=>hv ((h.2.2.2 _ (List.getElem_mem ai)).2 _ (List.getElem_mem eB))) aq
theorem zCp(hG:FG vG G)(cY:SzG G)(hL:FII vL L)(bF:SzL L)(hk:∀t:Bool,(t=true↔ZF k G L)->K (.bool t) σ):zA Tryz.prog 23 [.agg [.int .i64 k,vG,vL]] σ K:=by
 have fl:∀{A:Prop},¬A->((false=true)↔A):=fun h=>⟨fun x=>(by cases x),fun x=>absurd x h⟩
 obtain⟨wG,aG,rG,rfl,jU⟩:=hG;obtain⟨wL,aL,rL,rfl,eW⟩:=hL;refine zA.gh ?_;generalize hH:σ.new [.int .i64 k,.fz wG aG G.length (fl3 rG),.fz wL aL L.length rL]=H;have aq:Keep σ H:=by rw[<-hH];exact zD σ _
 have hs:H.obj σ.next=some [.int .i64 k,.fz wG aG G.length (fl3 rG),.fz wL aL L.length rL]:=by rw[<-hH];simp only[Z3,seval,-ah]
 have e0:H.rd1 σ.next 0=some (.int .i64 k):=by rw[zF hs];rfl
 have e1:H.rd1 σ.next 1=some (.fz wG aG G.length (fl3 rG)):=by rw[zF hs];rfl
 have e2:H.rd1 σ.next 2=some (.fz wL aL L.length rL):=by rw[zF hs];rfl
 have B2:=cY.l;have Ai:=bF.l;have no:¬ZF k G L->Gh σ K (.bool false) H:=fun h=>Gh.fin0 aq trivial (hk _ (fl h))
 refine zB mix Tryz.func23 ?_;simp only[Z3,seval,-ah];rw[hH];simp only[Z3,seval,-ah,e0,e1];refine zGJ ?_
 by_cases hg:need k=(G.length:Int)
 rotate_left
 ·simp only[Z3,seval,-ah,e0,e1,e2,hg]
  exact no (fun h=>hg h.1)
 by_cases hl:L.length<=32
 rotate_left
 ·have aY:(32:Int)<(L.length:Int):=by omega
  simp only[Z3,seval,-ah,e0,e1,e2,eq_true hg,aY];exact no (fun h=>hl h.2.1)
 have aY:¬(32:Int)<(L.length:Int):=by omega
 simp only[Z3,seval,-ah,e0,e1,e2,eq_true hg,aY];refine zC (fun m us h'=>∃i:Nat,i<=G.length∧m=G.length-i∧us=[.ptr σ.next 0,.int .i64 i]∧H=h'∧∀g∈G.take i,zM g.1 g.2.1 g.2.2) G.length ?_ ?_
 ·exact⟨0,by omega,by omega,rfl,rfl,by simp⟩
 rintro m us h' ⟨i,hi,rfl,rfl,rfl,aj⟩
 simp only[Z3,seval,-ah,e1];refine iteI (fun ai=>?_) fun aE=>?_
 ·have ee:i<rG.length:=by rw[jU.1];exact ai
  have dF:=QD ee;have h3:3<=(fl3 rG).length-i*3:=by have:=qO rG;omega
  have hp:IsPr rG[i].1 rG[i].2.1 rG[i].2.2 G[i].1 G[i].2.1 G[i].2.2:=jU.2 i _ _ (vX ee) (vX ai);simp only[Z3,seval,-ah,e1,ai,dF,h3,hp.O.one,hp.P.one,hp.C.one,List.length_drop];refine QJ hp (cY.r _ (List.getElem_mem ai)) fun t ht=>?_
  cases t with
  |false=>
   simp only[Z3,seval,-ah];exact no (fun h=>by cases ht.2 (h.2.2.1 _ (List.getElem_mem ai)))
  |true=>
   simp only[Z3,seval,-ah,wrapS ai (by omega:G.length<=4611686018427387904)]
   refine⟨_,by omega,i+1,by omega,rfl,rfl,fun g hg=>?_⟩
   rw[List.take_succ_eq_append_getElem ai,List.mem_append,List.mem_singleton]at hg
   rcases hg with hg|rfl
   ·exact aj g hg
   ·exact ht.1 rfl
 have kA:∀g∈G,zM g.1 g.2.1 g.2.2:=fun g hg=>aj g (by rwa[List.take_of_length_le (by omega)])
 simp only[Z3,seval,-ah];refine zC (fun m us h2=>∃i:Nat,i<=L.length∧m=L.length-i∧us=[.ptr σ.next 0,.int .i64 i]∧H=h2∧∀l∈L.take i,l.length<=128∧∀x∈l,-1000000<=x∧x<=1000000) L.length ?_ ?_
 ·exact⟨0,by omega,by omega,rfl,rfl,by simp⟩
 clear hi aE aj i
 rintro m us h2 ⟨i,hi,rfl,rfl,rfl,aj⟩
 simp only[Z3,seval,-ah,e2];refine iteI (fun ai=>?_) fun aE=>?_
 rotate_left
 ·exact Gh.fin0 aq trivial (hk _ ⟨fun _=>⟨hg,hl,kA,fun l hl=>aj l (by rwa[List.take_of_length_le (by omega)])⟩,fun _=>rfl⟩)
 obtain⟨w4,a4,hr⟩:=eW.rowI ai;have hb:=bF.r _ (List.getElem_mem ai)
 by_cases fh:L[i].length<=128
 rotate_left
 ·have h':(128:Int)<(L[i].length:Int):=by omega
  simp only[Z3,seval,-ah,e2,ai,hr,h'];exact no (fun h=>fh (h.2.2.2 _ (List.getElem_mem ai)).1)
 have iq:¬(128:Int)<(L[i].length:Int):=by omega
 simp only[Z3,seval,-ah,e2,ai,hr,iq];refine zC (fun m us h2=>∃q:Nat,q<=L[i].length∧m=L[i].length-q∧us=[.ptr σ.next 0,.int .i64 i,.int .i64 q]∧H=h2∧∀x∈L[i].take q,-1000000<=x∧x<=1000000) L[i].length ?_ ?_
 ·exact⟨0,by omega,by omega,rfl,rfl,by simp⟩
 rintro m us h2 ⟨q,hq,rfl,rfl,rfl,eH⟩
 simp only[Z3,seval,-ah,e2,ai,hr];refine iteI (fun eB=>?_) fun yp=>?_
 rotate_left
 ·simp only[Z3,seval,-ah,wrapS ai (by omega:L.length<=4611686018427387904)]
  refine⟨_,by omega,i+1,by omega,rfl,rfl,fun l hl=>?_⟩
  rw[List.take_succ_eq_append_getElem ai,List.mem_append,List.mem_singleton]at hl
  rcases hl with hl|rfl
  ·exact aj l hl
  ·exact⟨fh,fun x hx=>eH x (by rwa[List.take_of_length_le (by omega)])⟩
 simp only[Z3,seval,-ah,e2,ai,hr,eB,gi eB,zG];refine QY ?_
 by_cases hv:-1000000<=L[i][q]∧L[i][q]<=1000000
 ·simp only[Z3,seval,-ah,hv,wrapS eB (by omega:L[i].length<=4611686018427387904)]
  exact⟨_,by omega,q+1,by omega,rfl,rfl,Zv eB eH hv⟩
 ·simp only[Z3,seval,-ah,hv]
  exact no (fun h=>hv ((h.2.2.2 _ (List.getElem_mem ai)).2 _ (List.getElem_mem eB)))
end Go.Proofs
set_option linter.unusedSimpArgs false
set_option linter.unusedVariables false
namespace Go.Proofs
open Go.Ab Go.Lie Go.Grp Go.Mx
variable{σ:PHeap}{K:PV->PHeap->Prop}{k k':Int}{G G':List Pre}{L L':List (List Int)}{vG vL pF rj:PV}
structure MxG(G:List Pre):Prop where
 l:G.length<=9223372036854775807
 r:∀g∈G,MxP g.1 g.2.1 g.2.2
theorem zB2{l:Int}(hG:FG vG G)(mx:MxG G)(hl:left_ l)(hk:∀r:Int,(r=-1∨(left_ r∧SzG G))->K (.int .i64 r) σ):zA Tryz.prog 22 [vG,.int .i64 l] σ K:=by
 obtain⟨w,a,rs,rfl,hr⟩:=hG;have hb:=mx.l;have aY:=hl;unfold left_ at hl
 refine zB mix Tryz.func22 ?_;simp only[Z3,seval,-ah,wrap64 (n:=l-(G.length:Int)) (by omega) (by omega)]
 refine iteI (fun h=>?_) fun h=>?_
 ·exact hk _ (.inl rfl)
 refine zC (fun m vs h'=>∃i:Nat,i<=G.length∧m=G.length-i∧∃r:Int,left_ r∧vs=[.fz w a G.length (fl3 rs),.int .i64 r,.int .i64 i]∧σ=h'∧∀g∈G.take i,SzP g.1 g.2.1 g.2.2) G.length ?_ ?_
 ·exact⟨0,by omega,by omega,_,(by unfold left_;omega),rfl,rfl,by simp⟩
 rintro m vs h' ⟨i,hi,rfl,r,ck,rfl,rfl,aj⟩
 simp only[Z3,seval,-ah];refine iteI (fun ai=>?_) fun aE=>?_
 rotate_left
 ·exact hk _ (.inr ⟨ck,by omega,fun g hg=>aj g (by rwa[List.take_of_length_le (by omega)])⟩)
 have ee:i<rs.length:=by rw[hr.1];exact ai
 have dF:=QD ee;have h3:3<=(fl3 rs).length-i*3:=by have:=qO rs;omega
 have hp:IsPr rs[i].1 rs[i].2.1 rs[i].2.2 G[i].1 G[i].2.1 G[i].2.2:=hr.2 i _ _ (vX ee) (vX ai);simp only[Z3,seval,-ah,ai,dF,h3,List.length_drop];refine zCo hp (mx.r _ (List.getElem_mem ai)) ck fun r' h=>?_
 rcases h with rfl|⟨h1,h2⟩
 ·simp only[Z3,seval,-ah]
  exact hk _ (.inl rfl)
 ·have:¬r'<0:=by unfold left_ at h1;omega
  simp only[Z3,seval,-ah,this,wrapS ai (by omega:G.length<=4611686018427387904)]
  refine⟨_,by omega,i+1,by omega,rfl,_,h1,rfl,fun g hg=>?_⟩
  rw[List.take_succ_eq_append_getElem ai,List.mem_append,List.mem_singleton]at hg
  rcases hg with hg|rfl
  ·exact aj g hg
  ·exact h2
theorem zCT(hG:FG vG G)(uU:FG pF G')(sz:SzG G)(hk:∀t:Bool,(t=true↔G=G')->K (.bool t) σ):zA Tryz.prog 34 [vG,pF] σ K:=by
 obtain⟨w,a,rs,rfl,hr⟩:=hG;obtain⟨w',a',j3,rfl,ck⟩:=uU;have hb:=sz.l;have fl:∀{A:Prop},¬A->((false=true)↔A):=fun h=>⟨fun x=>(by cases x),fun x=>absurd x h⟩
 refine zB mix Tryz.func34 ?_;simp only[Z3,seval,-ah];refine iteI (fun hl=>?_) fun hl=>?_
 rotate_left
 ·exact hk _ (fl fun hv=>hl (by rw[hv]))
 have hl:G.length=G'.length:=by omega
 refine zC (fun m vs h'=>∃i:Nat,i<=G.length∧m=G.length-i∧vs=[.fz w a G.length (fl3 rs),.fz w' a' G'.length (fl3 j3),.int .i64 i]∧σ=h'∧G.take i=G'.take i) G.length ?_ ?_
 ·exact⟨0,by omega,by omega,rfl,rfl,by simp⟩
 rintro m vs h' ⟨i,hi,rfl,rfl,rfl,aj⟩
 simp only[Z3,seval,-ah];refine iteI (fun ai=>?_) fun aE=>?_
 ·have aI:i<G'.length:=by omega
  have ee:i<rs.length:=by rw[hr.1];exact ai
  have dF:=QD ee;have h3:3<=(fl3 rs).length-i*3:=by have:=qO rs;omega
  have hp:IsPr rs[i].1 rs[i].2.1 rs[i].2.2 G[i].1 G[i].2.1 G[i].2.2:=hr.2 i _ _ (vX ee) (vX ai);have s5:i<j3.length:=by rw[ck.1];exact aI
  have td:=QD s5;have yX:3<=(fl3 j3).length-i*3:=by have:=qO j3;omega
  have eN:IsPr j3[i].1 j3[i].2.1 j3[i].2.2 G'[i].1 G'[i].2.1 G'[i].2.2:=ck.2 i _ _ (vX s5) (vX aI);simp only[Z3,seval,-ah,ai,aI,dF,h3,td,yX,List.length_drop];refine zCv hp eN (sz.r _ (List.getElem_mem ai)) fun t ht=>?_
  cases t with
  |true=>
   obtain⟨q1,q2,q3⟩:=ht.1 rfl;simp only[Z3,seval,-ah,wrapS ai (by omega:G.length<=4611686018427387904)]
   exact⟨_,by omega,i+1,by omega,rfl,rfl,zEX hl ai aj (Prod.ext q1 (Prod.ext q2 q3))⟩
  |false=>
   simp only[Z3,seval,-ah];exact hk _ (fl fun hv=>by subst hv;cases ht.2 ⟨rfl,rfl,rfl⟩)
 ·refine hk _ ⟨fun _=>?_,fun _=>rfl⟩
  rwa[List.take_of_length_le (by omega),List.take_of_length_le (by omega)]at aj
abbrev nil3C:PV×PV×PV:=(.fz true .nils 0 [],.fz true .nils 0 [],.fz true .nils 0 [])
theorem zHu:∀n:Nat,ofAVs (zeros [.nils,.nils,.nils] n)=fl3 (List.replicate n nil3C)
 |0=>rfl
 |n+1=>by
  have:=zHu n
  unfold zeros at this ⊢
  rw[List.replicate_succ,List.replicate_succ,List.flatten_cons];simp only[List.cons_append,List.nil_append,ofAVs,fl3];rw[this]
  rfl
theorem zMq{rows:List (PV×PV×PV)}{i n:Nat}{a b c:PV}(hl:rows.length=i)(hi:i<n):(fl3 (rows++List.replicate (n-i) nil3C)).take (i*3)++[a,b,c]++(fl3 (rows++List.replicate (n-i) nil3C)).drop (i*3+3)=fl3 ((rows++[(a,b,c)])++List.replicate (n-(i+1)) nil3C):=by
 obtain⟨m,hm⟩:∃m,n-i=m+1:=⟨n-i-1,by omega⟩
 rw[hm,show n-(i+1)=m by omega,List.replicate_succ]
 have h3:=qO rows;rw[Q4,Q4,Q4,List.take_append_of_le_length (by omega),List.take_of_length_le (by omega),List.drop_append,List.drop_of_length_le (by omega),show i*3+3-(fl3 rows).length=3 by omega]
 rfl
theorem Qi(hG:FG vG G)(sz:SzG G)(hk:∀rows:List (PV×PV×PV),All2 FI3 rows G->K (.sl σ.next 0 G.length (.known G.length)) (σ.new (fl3 rows))):zA Tryz.prog 31 [vG] σ K:=by
 obtain⟨w,a,rs,rfl,hr⟩:=hG;have hb:=sz.l;have m1:(G.length:Int)*((72:Nat):Int)<=140737488355328:=by omega
 refine zA.gh ?_;refine zB mix Tryz.func31 ?_;simp only[Z3,seval,-ah,m1,mkL (n:=G.length) (by omega),zHu]
 refine zC (fun m vs h'=>∃i:Nat,i<=G.length∧m=G.length-i∧vs=[.fz w a G.length (fl3 rs),.sl σ.next 0 G.length (.known G.length),.int .i64 i]∧∃rows:List (PV×PV×PV),rows.length=i∧All2 FI3 rows (G.take i)∧h'=σ.new (fl3 (rows++List.replicate (G.length-i) nil3C))) G.length ?_ ?_
 ·exact⟨0,by omega,by omega,rfl,[],rfl,by simpa using All2.nil _,by simp⟩
 rintro m vs h' ⟨i,hi,rfl,rfl,rows,bK,eV,rfl⟩
 simp only[Z3,seval,-ah];refine iteI (fun ai=>?_) fun aE=>?_
 ·have ee:i<rs.length:=by rw[hr.1];exact ai
  have dF:=QD ee;have h3:3<=(fl3 rs).length-i*3:=by have:=qO rs;omega
  have hp:IsPr rs[i].1 rs[i].2.1 rs[i].2.2 G[i].1 G[i].2.1 G[i].2.2:=hr.2 i _ _ (vX ee) (vX ai);simp only[Z3,seval,-ah,ai,dF,h3,List.length_drop];refine zCn hp (sz.r _ (List.getElem_mem ai)) fun v0 v1 v2 hv=>?_
  have hlen:i*3+3<=(fl3 (rows++List.replicate (G.length-i) nil3C)).length:=by rw[qO];simp;omega
  simp only[Z3,seval,-ah,ai,hlen,hv.O.one,hv.P.one,hv.C.one,wrapS ai (by omega:G.length<=4611686018427387904),List.length_cons,List.length_nil]
  refine⟨_,by omega,i+1,by omega,rfl,rfl,rows++[(v0,v1,v2)],by simp[bK],?_,?_⟩
  ·rw[List.take_succ_eq_append_getElem ai];exact eV.snoc hv
  ·rw[zMq bK ai]
 ·have bn:i=G.length:=by omega
  subst bn;rw[List.take_length]at eV
  rw[Nat.sub_self,List.replicate_zero,List.append_nil];exact Gh.finS (zD σ _) (by simp only[Z3,seval,-ah]) (vM _) (Zj.2 fun c hc=>(Zj.1 (zIA eV) c hc).up (Nat.zero_le _)) (hk rows eV)
theorem zB1(hG:FG vG G)(sz:SzG G)(hk:∀v,FG v G->K v σ):zA Tryz.prog 31 [vG] σ K:=
 zA.gh (Qi hG sz fun rows eV=>Gh.finF (zD σ _) (by rw[zH,if_pos rfl]) (vM _) (zIA eV) (by simp[capOK]) fun o=>hk _ ⟨_,_,_,rfl,eV⟩)
theorem zDM{l:Int}(hG:FG vG G)(mx:MxG G)(hL:FII vL L)(mL:L.length<=9223372036854775807)(wF:∀x∈L,x.length<=9223372036854775807)(hl:left_ l)(hk:∀r:Int,(r=-1∨(left_ r∧SzG G∧SzL L))->K (.int .i64 r) σ):zA Tryz.prog 5 [.agg [.int .i64 k,vG,vL],.int .i64 l] σ K:=by
 have h0:=hG.one;have h1:=hL.one;refine zA.gh ?_;have aq:=zD σ [.int .i64 k,vG,vL];refine zB mix Tryz.func5 ?_;simp only[Z3,seval,-ah,h0,h1];refine zB2 hG mx hl fun r h=>?_
 rcases h with rfl|⟨f1,f2⟩
 ·simp only[Z3,seval,-ah]
  exact Gh.fin0 aq trivial (hk _ (.inl rfl))
 have:¬r<0:=by unfold left_ at f1;omega
 simp only[Z3,seval,-ah,this,h0,h1];refine zAH hL mL wF f1 fun r h=>?_
 rcases h with rfl|⟨g1,g2⟩
 ·simp only[Z3,seval,-ah]
  exact Gh.fin0 aq trivial (hk _ (.inl rfl))
 have:¬r<0:=by unfold left_ at g1;omega
 simp only[Z3,seval,-ah,this];exact Gh.fin0 aq trivial (hk _ (.inr ⟨g1,f2,g2⟩))
theorem ZH(hG:FG vG G)(cY:SzG G)(hL:FII vL L)(bF:SzL L)(hk:∀vG vL,FG vG G->FII vL L->K (.agg [.int .i64 k,vG,vL]) σ):zA Tryz.prog 7 [.agg [.int .i64 k,vG,vL]] σ K:=by
 have h0:=hG.one;have h1:=hL.one;refine zA.gh ?_;refine zB mix Tryz.func7 ?_;simp only[Z3,seval,-ah,h0,h1];refine zB1 hG cY fun v1 iC=>?_
 simp only[Z3,seval,-ah,iC.cells,iC.one];refine QE hL bF fun v2 bu=>?_
 simp only[Z3,seval,-ah,bu.cells,bu.one,iC.one];exact Gh.fin0 (v:=.agg [.int .i64 k,v1,v2]) (((zD σ _).new _).new _) ⟨trivial,iC.bel _,bu.bel _,trivial⟩ (hk v1 v2 iC bu)
theorem zAZ(hG:FG vG G)(hL:FII vL L)(uU:FG pF G')(qt:FII rj L')(cY:SzG G)(bF:SzL L)(hk:∀t:Bool,(t=true↔k=k'∧G=G'∧L=L')->K (.bool t) σ):zA Tryz.prog 9 [.agg [.int .i64 k,vG,vL],.agg [.int .i64 k',pF,rj]] σ K:=by
 have fl:∀{A:Prop},¬A->((false=true)↔A):=fun h=>⟨fun x=>(by cases x),fun x=>absurd x h⟩
 have h0:=hG.one;have h1:=hL.one;have h2:=uU.one;have h3:=qt.one;refine zA.gh ?_;have aq:Keep σ ((σ.new [.int .i64 k,vG,vL]).new [.int .i64 k',pF,rj]):=(zD σ _).new _;refine zB mix Tryz.func9 ?_
 by_cases dh:k=k'
 rotate_left
 ·simp only[Z3,seval,-ah,h0,h1,h2,h3,dh]
  exact Gh.fin0 aq trivial (hk _ (fl fun h=>dh h.1))
 simp only[Z3,seval,-ah,h0,h1,h2,h3,eq_true dh];refine zCT hG uU cY fun t ht=>?_
 cases t with
 |false=>
  simp only[Z3,seval,-ah];exact Gh.fin0 aq trivial (hk _ (fl fun h=>by cases ht.2 h.2.1))
 |true=>
  simp only[Z3,seval,-ah,h0,h1,h2,h3];refine zAY hL qt bF fun t2 AJ=>?_
  cases t2 with
  |false=>
   simp only[Z3,seval,-ah];exact Gh.fin0 aq trivial (hk _ (fl fun h=>by cases AJ.2 h.2.2))
  |true=>
   simp only[Z3,seval,-ah];exact Gh.fin0 aq trivial (hk _ ⟨fun _=>⟨dh,ht.1 rfl,AJ.1 rfl⟩,fun _=>rfl⟩)
end Go.Proofs
namespace Go.Proofs.YtjlpbpfaihhamaaGreat
open Go.ChangeShapes Go.WideShapes Go.ChangeAt Go.RowKit Go.Ab Go.Joins Go.Lie Go.Proofs
set_option linter.unusedVariables false
theorem own:ownKnob Tryz.prog.godebug=none:=by kernel_rfl
theorem laidOut:laidOutB Tryz.prog=true:=by kernel_rfl
theorem zNf:Tryz.prog.cellsOf 23=1:=by kernel_rfl
theorem cell2:Tryz.prog.cellsOf 2=1:=by kernel_rfl
theorem zNd:Tryz.prog.cellsOf 35=1:=by kernel_rfl
variable{H:Type}{enc:TypeId×Value->H}{W w0:World}{j:Inj}{h:AHeap}
def LII(v:PV)(xs:List (List Int)):Prop:=FII v xs∧xs.length<=9223372036854775807∧∀x∈xs,x.length<=9223372036854775807
def LIII(v:PV)(xs:List (List (List Int))):Prop:=FIII v xs∧xs.length<=9223372036854775807∧∀q∈xs,q.length<=9223372036854775807∧∀x∈q,x.length<=9223372036854775807
theorem layI:Lay1 enc Tryz.prog W 35 (fun v (xs:List Int)=>FI v xs∧xs.length<=9223372036854775807):=zLg (e:=2) Tryz.underlying35 cell2 Tryz.underlying2
theorem layII:Lay1 enc Tryz.prog W 23 LII:=by
 intro w0 j h held fuel v x m hx;obtain⟨j',h',pv,a,g1,g2,g3,g4,g5,g6,g7,g8⟩:=zCJ Tryz.underlying23 zNd layI w0 j h held fuel v x m hx;exact⟨j',h',pv,a,g1,g2,g3,g4,g5,g6,g7.imp fun _ _ k=>k.1,g8,g7.all fun _ _ k=>k.2⟩
theorem zNR:Lay1 enc Tryz.prog W 36 LIII:=by
 intro w0 j h held fuel v x m hx;obtain⟨j',h',pv,a,g1,g2,g3,g4,g5,g6,g7,g8⟩:=zCJ Tryz.underlying36 zNf layII w0 j h held fuel v x m hx;exact⟨j',h',pv,a,g1,g2,g3,g4,g5,g6,g7.imp fun _ _ k=>k.1,g8,g7.all fun _ _ k=>k.2⟩
end Go.Proofs.YtjlpbpfaihhamaaGreat
namespace Go.Proofs.YtjlpbpfaihhamaaGreat
open Go.ChangeShapes Go.WideShapes Go.ChangeAt Go.RowKit Go.Ab Go.Joins Go.Lie Go.Proofs
set_option linter.unusedVariables false
theorem zNc:Tryz.prog.cellsOf 38=3:=by kernel_rfl
end Go.Proofs.YtjlpbpfaihhamaaGreat
