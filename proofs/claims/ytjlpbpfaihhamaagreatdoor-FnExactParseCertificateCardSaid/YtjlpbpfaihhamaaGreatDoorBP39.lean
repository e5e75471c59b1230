/- The trivial presentation and a copy of a presentation, in slots, with the contents. -/
import Derived.Test.YtjlpbpfaihhamaaGreatDoorBP30
import Derived.Test.YtjlpbpfaihhamaaGreatDoorBAbPa
import Derived.Test.YtjlpbpfaihhamaaGreatDoorBP36
import Derived.Test.YtjlpbpfaihhamaaGreatDoorBAbPz
import Derived.Test.YtjlpbpfaihhamaaGreatDoorBAbPn
import Derived.Test.YtjlpbpfaihhamaaGreatDoorBAbPj
import Derived.Test.YtjlpbpfaihhamaaGreatDoorBP33
import Derived.Test.YtjlpbpfaihhamaaGreatDoorBP19
import Derived.Test.YtjlpbpfaihhamaaGreatDoorBAbQu
import Derived.Lib.ItoaNum
import Derived.IntWalk
import Derived.Lib.AppendIntMem
import Derived.WalkKit
import Derived.BigCall
import Derived.LoopTactic
import Derived.Outline
import Derived.WalkSmall
import Derived.Lib.Hide
open Int renaming reduceNatCast'→iQ0
set_option maxRecDepth 100000
set_option linter.unusedSimpArgs false
set_option linter.unusedVariables false
namespace Go.Proofs
open Go.Ab Go.Lie
variable {σ:PHeap} {K:PV→PHeap→Prop} {n:Nat} {p:Int}
structure LS where
 s:Nat
 cap:Cap
 cs:List PV
variable {h:PHeap} {p0 sO:Nat} {vO vP vC:PV} {cO pc:List PV} {ls:List (Option LS)}
end Go.Proofs
namespace Go.Proofs
open Go.Ab Go.Lie
variable {σ σ0 σ1:PHeap} {K:PV→PHeap→Prop} {vC:PV} {bs:List Int} {s:Nat} {a sd:Int}
def FB (v:PV) (bs:List Int):Prop:=∃w a,v=.fz w a bs.length (bs.map (.int .u8))
theorem FB.one {v:PV} (h:FB v bs):v.one=true:=by obtain⟨w,a,rfl⟩:=h;rfl
end Go.Proofs
set_option linter.unusedSectionVars false
namespace Go.Proofs
open Go.Ab Go.Lie
variable {σ σ0 h h':PHeap} {K:PV→PHeap→Prop} {vC:PV} {bs:List Int} {s b n:Nat} {p:Int} {RP R:PV→List Int→Prop} {sP sB:Nat} {capP capB:Cap} {cs:List PV} {ls:List LS} {W:List (List Int)} {B:List (List (List Int))}
theorem Qo {h:PHeap} {t i:Nat} {cs:List PV} {v:PV} (ho:h.obj t=some cs) (hi:i<cs.length) (hv:v.one=true):h.wr t i [v]=some (h.set t (cs.set i v)):=by
 rw [qg ho,if_pos ⟨by simp;omega,by simp [hv]⟩]
 congr 2
 rw [List.append_assoc];exact take_set cs hi v
end Go.Proofs
namespace Go.Grp
end Go.Grp
namespace Go.Proofs
open Go.Ab Go.Lie Go.Grp
variable {σ σ0 h h':PHeap} {K:PV→PHeap→Prop} {b s t n k:Nat} {L L':Nat→Nat} {Q Q':Nat→Prop} {len:Nat→Nat} {v vO vP vC c:PV} {x O:List Int} {cs:List PV}
theorem zKY {v:PV} (h:leafy v) (n:Nat):Bel n v:=by
 cases v<;>simp only [leafy]at h<;>trivial
mutual
theorem zDf:∀{t:TR},t.ok h b→t.okF h b
 | .leaf v,a=>zKY a 0
 | .nil,_=>trivial
 | .lst s cap kids,a=>⟨a.1,zCT a.2⟩
 | .cut _ _ _ _ _,a=>a.elim
 | .agg kids,a=>zCT (ts:=kids) a
 | .tup kids,a=>zCT (ts:=kids) a
theorem zCT:∀{ts:List TR},TR.oks h b ts→TR.okFs h b ts
 | [],_=>trivial
 | t::ts,a=>⟨zDf a.1,zCT a.2⟩
end
mutual
theorem zFS {b':Nat} (hb:b'≤b):∀{t:TR},t.okF h b→t.okF h b'
 | .leaf v,a=>a
 | .nil,_=>trivial
 | .lst s cap kids,a=>⟨⟨a.1.1,a.1.2.1,Nat.le_trans hb a.1.2.2.1,a.1.2.2.2⟩,zBA hb a.2⟩
 | .cut s off l cap kids,a=>⟨⟨a.1.1,a.1.2.1,Nat.le_trans hb a.1.2.2.1,a.1.2.2.2⟩,zBA hb a.2⟩
 | .agg kids,a=>zBA (ts:=kids) hb a
 | .tup kids,a=>zBA (ts:=kids) hb a
theorem zBA {b':Nat} (hb:b'≤b):∀{ts:List TR},TR.okFs h b ts→TR.okFs h b' ts
 | [],_=>trivial
 | t::ts,a=>⟨zFS hb a.1,zBA hb a.2⟩
end
def RowX (L:Nat→Nat) (h:PHeap) (b k:Nat) (x:List Int) (v:PV):Prop:=∃s cap,v=.sl s 0 x.length cap∧full 1 cap x.length∧h.obj s=some (pis x)∧b≤s∧s<h.next∧L s=k
theorem RowX.one (a:RowX L h b k x v):v.one=true:=by obtain⟨s,cap,rfl,_⟩:=a;rfl
variable {nP nC:Nat}
theorem Q9:∀ts:List TR,(TR.pvs ts).length=ts.length
 | []=>rfl
 | t::ts=>by simp only [TR.pvs,List.length_cons,Q9 ts]
structure PQ3 (Q:Nat→Prop) (P:List (List Int)) (C:List (List (List Int))) (nP nC:Nat) (len:Nat→Nat):Prop where
 pl:P.length=nP
 cl:C.length=nC
 pq:∀r∈P,Q r.length
 row:∀i,i<nC→(C.getD i []).length=len i
 cq:∀q∈C,∀r∈q,Q r.length
def mkM (L:Nat→Nat) (s k:Nat):Nat→Nat:=fun t=>if t=s then k else L t
theorem zJT {i:Nat} {y:Int} (ho:h.obj s=some (pis x)) (hi:i<x.length):h.wr s i [.int .i64 y]=some (h.set s (pis (x.set i y))):=by
 rw [qg ho,if_pos ⟨by rw [qi];simp;omega,rfl⟩]
 congr 2
 exact zAB hi
end Go.Proofs
namespace Go.Grp
end Go.Grp
set_option linter.unusedSimpArgs false
set_option linter.unusedVariables false
set_option linter.unusedSectionVars false
namespace Go.Proofs
open Go.Ab Go.Lie Go.Grp
variable {σ σ0 h h':PHeap} {K:PV→PHeap→Prop} {b s t n k nP nC:Nat} {L L':Nat→Nat} {Q Q':Nat→Prop} {len:Nat→Nat} {v vO vP vC c vX:PV} {x O xs:List Int} {P M:List (List Int)} {C:List (List (List Int))} {cs:List PV}
theorem Z4 (hs:h.next≤s):∀t,t<h.next→mkM L s k t=L t:=fun t ht=>if_neg (by omega)
theorem Zt:mkM L s k s=k:=if_pos rfl
theorem zIs {n k:Nat} (hn:n≤1048576) (hkn:k<n) (hk:∀cap,full 1 cap n→K (.sl σ.next 0 n cap) (σ.new (pis (unitL n k)))):zA Tryz.prog 78 [.int .i64 n,.int .i64 k] σ K:=by
 refine zA.gh ?_;refine zS mix Tryz.func78 ?_;simp only [pwA,seval,-iQ0,hkn,qi,List.length_replicate,Qi,mk8 (n:=n) (by omega),Go.Ab.mkL (n:=n) (by omega),Nat.succ_le_of_lt hkn]
 rw [zAB (by simpa using hkn)]
 exact Gh.finS (s:=σ.next) (cs:=pis (unitL n k)) (zD σ _) (by simp only [pwA,seval,-iQ0];rfl) (Nat.le_refl _) (Zy _ _) (hk _ (.inr rfl))
end Go.Proofs
namespace Go.Grp
end Go.Grp
set_option linter.unusedSimpArgs false
set_option linter.unusedVariables false
set_option linter.unusedSectionVars false
namespace Go.Proofs
open Go.Ab Go.Lie Go.Grp
variable {σ σ0 h h':PHeap} {K:PV→PHeap→Prop} {b s t n k nP nC r s0 i j:Nat} {L L':Nat→Nat} {Q Q':Nat→Prop} {len:Nat→Nat} {v vO vP vC c vX vS vL:PV} {x O xs bs:List Int} {P M:List (List Int)} {C:List (List (List Int))} {cs:List PV}
structure Shl (O:List Int) (P:List (List Int)) (C:List (List (List Int))):Prop where
 le:O.length≤6
 pr:∀j,j<O.length→2≤at_ O j∧at_ O j≤7
 pl:P.length=O.length
 cl:C.length=O.length
 row:∀i,i<O.length→(C.getD i []).length=O.length-1-i
 pe:∀r∈P,r.length=O.length
 ce:∀q∈C,∀r∈q,r.length=O.length
theorem zOQ (hp:zK O P C):Shl O P C:=by
 have sh:=hp.shp;refine⟨sh.le,sh.pr,sh.pl,sh.cl,sh.row,fun r hr=>?_,fun q hq r hr=>?_⟩
 ·obtain⟨i,hi,rfl⟩:=List.mem_iff_getElem.1 hr
  have:=(sh.pw i (by rw [←sh.pl];exact hi)).len
  unfold pvec at this
  rw [List.getD_eq_getElem?_getD,List.getElem?_eq_getElem hi]at this
  exact this
 ·obtain⟨i,hi,rfl⟩:=List.mem_iff_getElem.1 hq
  have hi':i<O.length:=by rw [←sh.cl];exact hi
  have e1:C.getD i []=C[i]:=by rw [List.getD_eq_getElem?_getD,List.getElem?_eq_getElem hi];rfl
  have hl:=sh.row i hi';rw [e1]at hl
  obtain⟨k,hk',rfl⟩:=List.mem_iff_getElem.1 hr
  have:=(sh.cj i (i+1+k) (by omega) (by omega)).len
  unfold cvec at this
  rw [e1,show i+1+k-i-1=k by omega,List.getD_eq_getElem?_getD,List.getElem?_eq_getElem hk']at this
  exact this
end Go.Proofs
namespace Go.Grp
end Go.Grp
set_option linter.unusedSimpArgs false
set_option linter.unusedVariables false
set_option linter.unusedSectionVars false
namespace Go.Proofs
open Go.Ab Go.Lie Go.Grp
variable {σ σ0 h h':PHeap} {K:PV→PHeap→Prop} {b s t k nP nC r s0 i j:Nat} {L L':Nat→Nat} {Q Q':Nat→Prop} {len:Nat→Nat} {v vO vP vC c vX vS vL:PV} {x O xs bs:List Int} {P M:List (List Int)} {C:List (List (List Int))} {cs:List PV}
structure Fm (N:Nat) (O:List Int) (P:List (List Int)) (C:List (List (List Int))):Prop where
 n:O.length≤N
 ob:∀a∈O,1≤a∧a≤1000
 q:PQ3 (fun m=>m=O.length) P C O.length O.length (fun i=>O.length-1-i)
theorem isP.b1 {p:Int} (h:isP p):1≤p∧p≤1000:=by have:=h.bd;omega
end Go.Proofs
namespace Go.Grp
end Go.Grp
set_option linter.unusedSimpArgs false
set_option linter.unusedVariables false
set_option linter.unusedSectionVars false
namespace Go.Proofs
open Go.Ab Go.Lie Go.Grp
variable {σ σ0 h h':PHeap} {K:PV→PHeap→Prop} {b s t k nP nC r s0 i j:Nat} {L L':Nat→Nat} {Q Q':Nat→Prop} {len:Nat→Nat} {v vO vP vC yO yP yC c vX vS vL vM:PV} {x O xs bs O1 O2:List Int} {P M P1 P2:List (List Int)} {C C1 C2:List (List (List Int))} {cs:List PV}
theorem RowX.mark {b':Nat} (a:RowX L h b k x v) (hb:b'≤b) (hL:∀t,b≤t→L' t=L t):RowX L' h b' k x v:=by
 obtain⟨s,cap,rfl,h1,h2,h3,h4,h5⟩:=a;exact⟨s,cap,rfl,h1,h2,by omega,h4,by rw [hL s h3];exact h5⟩
end Go.Proofs
namespace Go.Grp
end Go.Grp
set_option linter.unusedSimpArgs false
set_option linter.unusedVariables false
set_option linter.unusedSectionVars false
namespace Go.Proofs
open Go.Ab Go.Lie Go.Grp
variable {σ σ0 h h':PHeap} {K:PV→PHeap→Prop} {b k nP nC r s0 i j n:Nat} {v vO vP vC c vX vS vL vM:PV} {x O xs bs:List Int} {P M:List (List Int)} {C:List (List (List Int))} {cs:List PV} {s t:List UInt8}
theorem zAQ {z:Int} (h0:0≤z) (h1:z<256):IntKind.u8.wrap z=z:=by
 unfold IntKind.wrap;have e:z % (2 ^ IntKind.u8.bits:Int)=z:=by
  have:(2 ^ IntKind.u8.bits:Int)=256:=by decide
  rw [this];omega
 have e2:IntKind.u8.signed=false:=rfl;simp only [e,e2,Bool.false_and,Bool.false_eq_true,if_false]
end Go.Proofs
namespace Go.Grp
end Go.Grp
set_option linter.unusedSimpArgs false
set_option linter.unusedVariables false
set_option linter.unusedSectionVars false
namespace Go.Proofs
open Go.Ab Go.Lie Go.Grp
variable {σ σ0 h h':PHeap} {K:PV→PHeap→Prop} {b k nP nC r s0 i j n:Nat} {v vO vP vC c vX vS vL vM:PV} {x O xs bs:List Int} {P M:List (List Int)} {C:List (List (List Int))} {cs:List PV} {s t:List UInt8}
theorem zDh {g:PHeap} {z:Int}:QP (g.new [.int .u8 z]) (.sl g.next 0 1 (.known 1))=some [UInt8.ofNat z.toNat]:=by
 simp only [pwA,seval,-iQ0,QP];rw [Qr];simp only [pwA,seval,-iQ0]
 rfl
end Go.Proofs
namespace Go.Grp
end Go.Grp
set_option linter.unusedSimpArgs false
set_option linter.unusedVariables false
set_option linter.unusedSectionVars false
namespace Go.Proofs
open Go.Ab Go.Lie Go.Grp
variable {σ σ0 h h':PHeap} {K:PV→PHeap→Prop} {b k r s0 i j n:Nat} {v vO vP vC c vX vS vL vM:PV} {x O xs bs:List Int} {P M:List (List Int)} {C:List (List (List Int))} {cs:List PV} {s t:List UInt8}
theorem zEx {n:Int} (h0:0≤n) (h:n<10):Lib.decDigits n.toNat=[UInt8.ofNat (48+n).toNat]:=by
 rw [Lib.decDigits,dif_pos (by omega),show(48+n).toNat=48+n.toNat by omega]
theorem zN2 {n:Int} (h0:0≤n) (h:¬n<10):Lib.decDigits n.toNat=Lib.decDigits (n.tdiv 10).toNat++[UInt8.ofNat (48+n.tmod 10).toNat]:=by
 rw [Lib.decDigits,dif_neg (by omega),Int.tdiv_eq_ediv_of_nonneg h0,Int.tmod_eq_emod_of_nonneg h0]
 rw [show(n / 10).toNat=n.toNat / 10 by omega,show(48+n % 10).toNat=48+n.toNat % 10 by omega]
theorem Zi:∀(k n:Nat),n<10 ^ (k+1)→(Lib.decDigits n).length≤k+1
 | 0,n,h=>by rw [Lib.decDigits,dif_pos (by simpa using h)];simp
 | k+1,n,h=>by
  by_cases h10:n<10
  ·rw [Lib.decDigits,dif_pos h10];simp
  ·rw [Lib.decDigits,dif_neg h10,List.length_append,List.length_singleton]
   have:=Zi k (n / 10) (by rw [Nat.pow_succ]at h;omega)
   omega
theorem zMB {n:Int} (k:Nat) (hn:0≤n∧n≤1000000∧n<10 ^ (k+1)) (hkk:k≤100) (hk:K (.str (Lib.decDigits n.toNat)) σ):zA Tryz.prog 81 [.int .i64 n] σ K:=by
 induction k generalizing n σ K with
 | zero=>
  have h10:n<10:=by have:=hn.2.2;simpa using this
  have w1:IntKind.i64.wrap (48+n)=48+n:=wrap64 (by omega) (by omega)
  have w2:IntKind.u8.wrap (48+n)=48+n:=zAQ (by omega) (by omega)
  rw [zEx hn.1 h10]at hk
  refine zA.gh ?_;refine zt mix Tryz.func81 cf81 rfl ?_;dsimp only [if81,qI,eI,qD,eD,mI0,cI0,mD0,I0,R0,S0];simp only [pwA,seval,-iQ0,h10,w1,w2,Qm,zDh];exact Gh.fin0 (zD _ _) trivial hk
 | succ k ih=>
  by_cases h10:n<10
  ·have w1:IntKind.i64.wrap (48+n)=48+n:=wrap64 (by omega) (by omega)
   have w2:IntKind.u8.wrap (48+n)=48+n:=zAQ (by omega) (by omega)
   rw [zEx hn.1 h10]at hk
   refine zA.gh ?_;refine zt mix Tryz.func81 cf81 rfl ?_;dsimp only [if81,qI,eI,qD,eD,mI0,cI0,mD0,I0,R0,S0];simp only [pwA,seval,-iQ0,h10,w1,w2,Qm,zDh];exact Gh.fin0 (zD _ _) trivial hk
  have q0:0≤n.tdiv 10:=Int.tdiv_nonneg hn.1 (by decide)
  have q1:n.tdiv 10≤1000000∧n.tdiv 10<10 ^ (k+1):=by
   have e:n.tdiv 10=n / 10:=Int.tdiv_eq_ediv_of_nonneg hn.1
   have:=hn.2.2
   rw [Int.pow_succ]at this
   rw [e];omega
  have r0:0≤n.tmod 10∧n.tmod 10<10:=⟨Int.tmod_nonneg _ hn.1,Int.tmod_lt_of_pos _ (by decide)⟩
  have w0:IntKind.i64.wrap (n.tdiv 10)=n.tdiv 10:=wrap64 (by omega) (by omega)
  have w3:IntKind.i64.wrap (n.tmod 10)=n.tmod 10:=wrap64 (by omega) (by omega)
  have w1:IntKind.i64.wrap (48+n.tmod 10)=48+n.tmod 10:=wrap64 (by omega) (by omega)
  have w2:IntKind.u8.wrap (48+n.tmod 10)=48+n.tmod 10:=zAQ (by omega) (by omega)
  rw [zN2 hn.1 h10]at hk
  have hl:(Lib.decDigits (n.tdiv 10).toNat).length+1≤9223372036854775807:=by
   have:=Zi k (n.tdiv 10).toNat (by
    have h2:((n.tdiv 10).toNat:Int)<((10 ^ (k+1):Nat):Int):=by rw [Int.toNat_of_nonneg q0];exact_mod_cast q1.2
    exact_mod_cast h2)
   omega
  have ihc:∀{g:PHeap} {K':PV→PHeap→Prop},K' (.str (Lib.decDigits (n.tdiv 10).toNat)) g→zA Tryz.prog 81 [.int .i64 (n.tdiv 10)] g K':=fun hk'=>ih ⟨q0,q1.1,q1.2⟩ (by omega) hk'
  generalize Lib.decDigits (n.tdiv 10).toNat=q at *
  refine zA.gh ?_;refine zt mix Tryz.func81 cf81 rfl ?_;dsimp only [if81,qI,eI,qD,eD,mI0,cI0,mD0,I0,R0,S0];simp only [pwA,seval,-iQ0,h10,w0,w1,w2,w3,Qm,zDh,zHd,TVp_e,TVp_q,zGi,zGh];refine⟨?_,?_,?_⟩
  all_goals
   refine ihc ?_;simp only [pwA,seval,-iQ0,h10,w0,w1,w2,w3,Qm,zDh,zHd,TVp_e,TVp_q,zGi,zGh,hl];exact Gh.fin0 (zD _ _) trivial hk
def wordB (w:List Int):List UInt8:=if w=[]then [49]else w.map fun l=>UInt8.ofNat (96+l).toNat
theorem zBV (f:Int→Int):∀w:List Int,zAZ (w.map fun l=>PV.int .u8 (f l))=some (w.map fun l=>UInt8.ofNat (f l).toNat)
 | []=>rfl
 | l::w=>by simp only [List.map_cons,zAZ,zBV f w,Option.map_some]
theorem PSl.bytesX {cells:List PV} {q:List UInt8} (a:PSl b 1 h v cells.length cells) (e1:zAZ cells=some q):QP h v=some q:=by
 obtain⟨s,cap,rfl,h1,h2,h3,h4,h5⟩:=a;unfold QP;rw [zHr];simp only [Option.bind_some];rw [Qr]
 by_cases h0:cells.length=0
 ·have:cells=[]:=List.length_eq_zero_iff.1 h0
  subst this;rw [if_pos h0];exact e1
 ·rw [if_neg h0,if_pos (Nat.le_refl _),Nat.mul_one,Z9 h2,if_pos (by omega),List.drop_zero,List.take_length]
  exact e1
theorem zEr {w:Bool} {aa:AV} (hn:x.length≤1000) (hx:∀l∈x,1≤l∧l≤26) (hk:K (.str (wordB x)) σ):zA Tryz.prog 84 [.fz w aa x.length (pis x)] σ K:=by
 unfold wordB at hk
 refine zA.gh ?_;refine zt mix Tryz.func84 cf84 rfl ?_;dsimp only [if84,qI,eI,mI0,kI0,lI0,xI0,bI0,cI0,sI0,I0,R0,S0]
 by_cases h0:x.length=0
 ·have d0:((x.length:Nat):Int)=0:=by omega
  rw [if_pos (List.length_eq_zero_iff.1 h0)]at hk
  simp only [pwA,seval,-iQ0,d0];exact Gh.fin0 (Keep.refl _) trivial hk
 have d0:¬((x.length:Nat):Int)=0:=by omega
 rw [if_neg (fun e=>h0 (by rw [e];rfl))]at hk
 simp only [pwA,seval,-iQ0,d0];refine zB (fun m vs h=>∃(i:Nat) (v:PV),i≤x.length∧m=x.length-i∧vs=[.fz w aa x.length (pis x),v,.int .i64 i]∧Keep σ h∧PSl σ.next 1 h v i ((x.take i).map fun l=>PV.int .u8 (96+l))) x.length ?_ ?_
 ·exact⟨0,_,Nat.zero_le _,rfl,rfl,zD _ _,PSl.new _ 1 rfl (Nat.le_refl _)⟩
 rintro m vs h ⟨i,v,hi,rfl,rfl,kk,pa⟩
 have h1:=pa.one;simp only [pwA,seval,-iQ0,h1];refine iteI (fun hlt=>?_) fun hge=>?_
 ·have hlt':(i:Int)<(x.length:Int):=by omega
  have gx:(pis x)[i]? = some (.int .i64 x[i]):=by rw [qM,gi hlt];rfl
  have b1:=hx _ (List.getElem_mem hlt);have hp:(0:Int)<x[i]:=by omega
  have w1:IntKind.i64.wrap (97+x[i])=97+x[i]:=wrap64 (by omega) (by omega)
  have w2:IntKind.i64.wrap (97+x[i] - 1)=96+x[i]:=by rw [wrap64 (by omega) (by omega)];omega
  have w3:IntKind.u8.wrap (96+x[i])=96+x[i]:=zAQ (by omega) (by omega)
  simp only [pwA,seval,-iQ0,h1,hlt,hlt',gx,hp,w1,w2,w3];refine PSl.push (σb:=σ) (bytes:=1) kk pa (by omega) (by omega) fun v2 h2 k2 a2=>?_
  have h3:=a2.one;simp only [pwA,seval,-iQ0,h3,wrapS hlt (by omega:x.length≤4611686018427387904)]
  exact⟨_,by omega,i+1,v2,by omega,rfl,rfl,k2,by rw [List.take_succ_eq_append_getElem hlt,List.map_append];exact a2⟩
 have hie:i=x.length:=by omega
 subst hie;rw [List.take_length]at pa
 have e1:=zBV (fun l=>96+l) x
 have e2:QP h v=some (x.map fun l=>UInt8.ofNat (96+l).toNat):=PSl.bytesX (by rw [List.length_map];exact pa) e1
 simp only [pwA,seval,-iQ0,h1,Qm,e2];exact Gh.fin0 kk trivial hk
end Go.Proofs
namespace Go.Grp
end Go.Grp
set_option linter.unusedSimpArgs false
set_option linter.unusedVariables false
set_option linter.unusedSectionVars false
namespace Go.Proofs
open Go.Ab Go.Lie Go.Grp
variable {σ σ0 h h':PHeap} {K:PV→PHeap→Prop} {b k nP nC r s0 i j n:Nat} {v vO vP vC c vX vS vL vM:PV} {x O xs bs:List Int} {P M:List (List Int)} {C:List (List (List Int))} {cs:List PV} {s t:List UInt8}
theorem zL4 {α:Type} {c:Prop} [Decidable c] {a:α} {K:α→Prop} (hc:c) (hk:K a):optK (if c then some a else none) K:=by rw [if_pos hc];exact⟨a,rfl,hk⟩
theorem qZ {α:Type} {c:Prop} [Decidable c] {a:α} {K:α→Prop} (hk:K a) (hc:c:=by first | omega | (simp only [List.length_append,List.length_cons,List.length_nil];omega)):optK (if c then some a else none) K:=zL4 hc hk
end Go.Proofs
namespace Go.Grp
end Go.Grp
set_option linter.unusedSimpArgs false
set_option linter.unusedVariables false
set_option linter.unusedSectionVars false
namespace Go.Proofs
open Go.Ab Go.Lie Go.Grp
variable {σ σ0 h h':PHeap} {K:PV→PHeap→Prop} {b k nP nC r s0 i j n:Nat} {v vO vP vC c vX vS vL vM:PV} {x O xs bs:List Int} {P M:List (List Int)} {C:List (List (List Int))} {cs:List PV} {s t:List UInt8}
def letB (i:Nat):UInt8:=UInt8.ofNat (97+i)
def ordT (O:List Int):Nat→List UInt8
 | 0=>[]
 | i+1=>(if 0<i then ordT O i++[32]else ordT O i)++Lib.decDigits (at_ O i).toNat
def powT (O:List Int) (P:List (List Int)) (q:List UInt8):Nat→List UInt8
 | 0=>q
 | i+1=>if isZ (pvec P i)then powT O P q i else powT O P q i++[59,32]++[letB i]++[94]++Lib.decDigits (at_ O i).toNat++[61]++wordB (Mx.nw (pvec P i))
def conTr (n:Nat) (C:List (List (List Int))) (q:List UInt8) (i:Nat):Nat→List UInt8
 | 0=>q
 | k+1=>if cvec C i (i+1+k)=unitL n (i+1+k)then conTr n C q i k else conTr n C q i k++[59,32]++[letB (i+1+k)]++[94]++[letB i]++[61]++wordB (Mx.nw (cvec C i (i+1+k)))
def conT (n:Nat) (C:List (List (List Int))) (q:List UInt8):Nat→List UInt8
 | 0=>q
 | i+1=>conTr n C (conT n C q i) i (n-1-i)
def prT (O:List Int) (P:List (List Int)) (C:List (List (List Int))):List UInt8:=
 if O.length=0 then [49]else conT O.length C (powT O P (ordT O O.length) O.length) O.length
theorem zGD {n:Int} (k:Nat) (hn:0≤n∧n≤1000000∧n<10 ^ (k+1)) (hkk:k≤100) (hk:∀q:List UInt8,q=Lib.decDigits n.toNat→q.length≤k+1→K (.str q) σ):zA Tryz.prog 81 [.int .i64 n] σ K:=
 zMB k hn hkk (hk _ rfl (Zi k _ (by
  have h2:(n.toNat:Int)<((10 ^ (k+1):Nat):Int):=by rw [Int.toNat_of_nonneg hn.1];exact_mod_cast hn.2.2
  exact_mod_cast h2)))
theorem zEq {w:Bool} {aa:AV} (hn:x.length≤42) (hx:∀l∈x,1≤l∧l≤26) (hk:∀q:List UInt8,q=wordB x→q.length≤43→K (.str q) σ):zA Tryz.prog 84 [.fz w aa x.length (pis x)] σ K:=
 zEr (by omega) hx (hk _ rfl (by
  unfold wordB
  split
  ·simp
  ·rw [List.length_map];omega))
theorem zIu {z:Int} (hz:1≤z∧z≤26) (ho:σ.obj s0=some [.int .i64 z]) (hk:K (.str (wordB [z])) (σ.kill s0)):zA Tryz.prog 84 [.sl s0 0 1 (.known 1)] σ K:=by
 refine zA.frz ho ⟨trivial,trivial⟩ fun o=>?_
 have e:sbs s0 o [.int .i64 z] [.sl s0 0 1 (.known 1)]=[.fz true (.sl o 0 1 (.known 1)) 1 [.int .i64 z]]:=by simp [sbs,sb,capOK]
 rw [e];exact zEr (x:=[z]) (by simp) (fun l hl=>by rw [List.mem_singleton.1 hl];exact hz) hk
theorem zA5 {i:Nat} (hi:i≤20) (hk:∀q:List UInt8,q=[letB i]→q.length≤1→K (.str q) σ):zA Tryz.prog 83 [.int .i64 i] σ K:=by
 have w1:IntKind.i64.wrap ((i:Int)+1)=(i:Int)+1:=wrap64 (by omega) (by omega)
 refine zA.gh ?_;refine zt mix Tryz.func83 cf83 rfl ?_;dsimp only [if83,qI,eI,mI0,cI0,C1,R0,S0];simp only [pwA,seval,-iQ0,w1];refine zIu (z:=(i:Int)+1) (by omega) (by rw [zT,if_pos rfl]) ?_
 simp only [pwA,seval,-iQ0];refine Gh.fin0 ((zD _ _).kill (Nat.le_refl _)) trivial (hk _ ?_ (by simp [wordB]))
 simp only [wordB,letB,List.map_cons,List.map_nil,reduceCtorEq,if_false];rw [show(96+((i:Int)+1)).toNat=97+i by omega]
theorem ZX {x:List Int} (hn:x.length≤6) (hx:∀a∈x,0≤a∧a≤7):(Mx.nw x).length≤42∧∀l∈Mx.nw x,1≤l∧l≤26:=by
 have hb:∀j,nx x j≤7:=fun j=>by
  unfold nx;rcases Nat.lt_or_ge j x.length with h|h
  ·rw [at_eq h];have:=hx _ (List.getElem_mem h);omega
  ·unfold at_;rw [List.getD_eq_getElem?_getD,List.getElem?_eq_none h];simp
 refine⟨?_,fun l hl=>by have:=Mx.nword_in (x:=x) (n:=x.length) (Nat.le_refl _) l hl;omega⟩
 have h1:=Mx.nword_length (x:=x) (b:=7) hb x.length
 have:x.length*7≤42:=by omega
 show(Mx.nword x x.length).length≤42
 omega
theorem zEp (hv:FI v x) (hn:x.length≤6) (hx:∀a∈x,0≤a∧a≤7) (hk:∀u,FI u (Mx.nw x)→K u σ):zA Tryz.prog 85 [v] σ K:=by
 obtain⟨w,a,rfl⟩:=hv;have hnl:∀i,i≤x.length→(Mx.nword x i).length≤7*i:=fun i=>by
  induction i with
  | zero=>intro _;exact Nat.le_refl _
  | succ i ih=>
   intro hi
   have:=ih (by omega)
   have b:=hx _ (List.getElem_mem (show i<x.length by omega))
   rw [Mx.nword,List.length_append,List.length_replicate];have e:nx x i=(x[i]'(by omega)).toNat:=by unfold nx;rw [at_eq (by omega)]
   rw [e];omega
 refine zA.gh ?_;refine zS mix Tryz.func85 ?_;simp only [pwA,seval,-iQ0];refine zB (fun m vs h=>∃(i:Nat) (v:PV),i≤x.length∧m=x.length-i∧vs=[.fz w a x.length (pis x),v,.int .i64 i]∧Keep σ h∧PSl σ.next 1 h v (Mx.nword x i).length (pis (Mx.nword x i))) x.length ?_ ?_
 ·exact⟨0,_,Nat.zero_le _,rfl,rfl,zD _ _,PSl.new _ 1 rfl (Nat.le_refl _)⟩
 rintro m vs h ⟨i,v,hi,rfl,rfl,kk,pa⟩
 have h1:=pa.one;have hul:=hnl i hi;simp only [pwA,seval,-iQ0,h1];refine iteI (fun hlt=>?_) fun hge=>?_
 rotate_left
 ·obtain rfl:i=x.length:=by omega
  exact pa.fin kk (Zy _ _) fun o cap=>hk _ ⟨true,_,rfl⟩
 have hlt':(i:Int)<(x.length:Int):=by omega
 have gx:(pis x)[i]? = some (.int .i64 x[i]):=by rw [qM,gi hlt];rfl
 have xb:=hx _ (List.getElem_mem hlt);refine zB (fun m vs h=>∃(j:Nat) (v:PV),(j:Int)≤x[i]∧m=7-j∧vs=[.fz w a x.length (pis x),v,.int .i64 i,.int .i64 j]∧Keep σ h∧PSl σ.next 1 h v (Mx.nword x i++List.replicate j ((i:Int)+1)).length (pis (Mx.nword x i++List.replicate j ((i:Int)+1)))) 7 ?_ ?_
 ·exact⟨0,v,by omega,rfl,rfl,kk,by rw [List.replicate_zero,List.append_nil];exact pa⟩
 clear pa kk h1
 rintro m vs h ⟨j,v,hj,rfl,rfl,kk,pa⟩
 have h1:=pa.one;have hll:(Mx.nword x i++List.replicate j ((i:Int)+1)).length=(Mx.nword x i).length+j:=by rw [List.length_append,List.length_replicate]
 simp only [pwA,seval,-iQ0,h1,hlt,hlt',gx];refine iteI (fun hjt=>?_) fun hge=>?_
 rotate_left
 ·have e:Mx.nword x i++List.replicate j ((i:Int)+1)=Mx.nword x (i+1):=by
   rw [Mx.nword]
   have:nx x i=j:=by unfold nx;rw [at_eq hlt];omega
   rw [this]
  rw [e]at pa
  simp only [pwA,seval,-iQ0,h1,wrapS hlt (by omega:x.length≤4611686018427387904)]
  exact⟨_,by omega,i+1,v,by omega,rfl,rfl,kk,pa⟩
 have wi:IntKind.i64.wrap ((i:Int)+1)=(i:Int)+1:=wrap64 (by omega) (by omega)
 have wj:IntKind.i64.wrap ((j:Int)+1)=((j+1:Nat):Int):=by rw [wrap64 (by omega) (by omega)];omega
 simp only [pwA,seval,-iQ0,h1,wi];refine PSl.push (σb:=σ) (bytes:=8) kk pa (by omega) (by omega) fun v2 h2 k2 a2=>?_
 have h3:=a2.one;simp only [pwA,seval,-iQ0,h3,wj];have e:Mx.nword x i++List.replicate (j+1) ((i:Int)+1)=(Mx.nword x i++List.replicate j ((i:Int)+1))++[(i:Int)+1]:=by rw [List.replicate_succ',List.append_assoc]
 have e2:∀z:List Int,pis (z++[(i:Int)+1])=pis z++[.int .i64 ((i:Int)+1)]:=fun z=>by simp [pis]
 have fin:∀{z:List Int},PSl σ.next 1 h2 v2 (z.length+1) (pis z++[.int .i64 ((i:Int)+1)])→PSl σ.next 1 h2 v2 (z++[(i:Int)+1]).length (pis (z++[(i:Int)+1])):=fun h=>by rw [e2,List.length_append];exact h
 exact⟨_,by omega,j+1,v2,by omega,rfl,rfl,k2,by rw [e];exact fin a2⟩
theorem zKb (hR:IsPr vO vP vC O P C) (hp:zK O P C) (hk:∀q:List UInt8,q=prT O P C→q.length≤3000→K (.str q) σ):zA Tryz.prog 52 [.agg [vO,vP,vC]] σ K:=by
 have sh:=hp.shp;have hn6:=sh.le;have o1:=hR.O.one;have p1:=hR.P.one;have c1:=hR.C.one;obtain⟨⟨wO,aO,rfl⟩,⟨wP,aP,rP,rfl,hrP⟩,⟨wC,aC,rC,rfl,hrC⟩⟩:=hR;have hpl:=sh.pl;have hcl:=sh.cl;refine zA.gh ?_;refine zt mix Tryz.func52 cf52 rfl ?_;dsimp only [if52,qI,eI,qD,eD,mI0,kI0,lI0,fI0,xI0,bI0,cI0,nI0,sI0,C1,mD0,lD0,fD0,xD0,I0,R0,S0];simp only [pwA,seval,-iQ0,o1,p1,c1];generalize hH:σ.new [PV.fz wO aO O.length (pis O),PV.fz wP aP P.length rP,PV.fz wC aC C.length rC]=H;have kH:Keep σ H:=by rw [←hH];exact zD _ _
 have r0:H.rd1 σ.next 0=some (.fz wO aO O.length (pis O)):=by rw [←hH];simp only [pwA,seval,-iQ0]
 have r1:H.rd1 σ.next 1=some (.fz wP aP P.length rP):=by rw [←hH];simp only [pwA,seval,-iQ0]
 have r2:H.rd1 σ.next 2=some (.fz wC aC C.length rC):=by rw [←hH];simp only [pwA,seval,-iQ0]
 clear hH;have fin:∀{q:List UInt8},q=prT O P C→q.length≤3000→Gh σ K (.str q) H:=fun e l=>Gh.fin0 kH trivial (hk _ e l)
 have hO:∀i (hi:i<O.length),2≤O[i]∧O[i]≤7:=fun i hi=>by have:=sh.pr i hi;rw [at_eq hi]at this;exact this
 have ent:∀{k:Nat} {y:List Int},TT O k y→∀a∈y,0≤a∧a≤7:=fun {k y} h a ha=>by
  obtain⟨j,hj,rfl⟩:=List.mem_iff_getElem.1 ha;have b:=h.bd j (by have:=h.len;omega)
  rw [at_eq hj]at b
  have o:=sh.pr j (by have:=h.len;omega)
  omega
 have PR:∀i (hi:i<P.length),P[i].length=O.length∧∀a∈P[i],0≤a∧a≤7:=fun i hi=>by
  have h:=sh.pw i (by omega)
  have e:pvec P i=P[i]:=by unfold pvec;rw [List.getD_eq_getElem?_getD,List.getElem?_eq_getElem hi];rfl
  rw [e]at h
  exact⟨h.len,ent h⟩
 have CL:∀i (hi:i<C.length),C[i].length=O.length-1-i:=fun i hi=>by
  have h:=sh.row i (by omega)
  rw [List.getD_eq_getElem?_getD,List.getElem?_eq_getElem hi]at h
  exact h
 have CR:∀i (hi:i<C.length) k (hk:k<C[i].length),C[i][k].length=O.length∧∀a∈C[i][k],0≤a∧a≤7:=fun i hi k hk'=>by
  have hl:=CL i hi;have h:=sh.cj i (i+1+k) (by omega) (by omega)
  have e:cvec C i (i+1+k)=C[i][k]:=by
   unfold cvec;rw [show i+1+k-i-1=k by omega,List.getD_eq_getElem?_getD,List.getD_eq_getElem?_getD,List.getElem?_eq_getElem hi]
   simp only [Option.getD_some];rw [List.getElem?_eq_getElem hk'];rfl
  rw [e]at h
  exact⟨h.len,ent h⟩
 have dec:∀{g:PHeap} {K':PV→PHeap→Prop} {a:Int},2≤a∧a≤7→(∀d:List UInt8,d=Lib.decDigits a.toNat→d.length≤6→K' (.str d) g)→zA Tryz.prog 81 [.int .i64 a] g K':=fun {g K' a} ha hk'=>
  zGD 5 ⟨by omega,by omega,Int.lt_of_lt_of_le (show a<1000000 by omega) (by decide)⟩ (by decide) hk'
 refine iteI (fun e0=>fin (if_pos (by omega)).symm (by simp)) fun hO0=>?_
 refine zB (fun m vs h=>∃(i:Nat) (q:List UInt8),i≤O.length∧m=O.length-i∧vs=[.ptr σ.next 0,.int .i64 O.length,.str q,.int .i64 i]∧q=ordT O i∧q.length≤9*i∧h=H) O.length ?_ ?_
 ·exact⟨0,[],Nat.zero_le _,rfl,rfl,rfl,Nat.le_refl _,rfl⟩
 rintro m vs h ⟨i,q,hi,rfl,rfl,eq,hq,rfl⟩
 simp only [pwA,seval,-iQ0];refine iteI (fun hlt=>?_) fun hge=>?_
 ·have hlt':(i:Int)<(O.length:Int):=by omega
  have gx:(pis O)[i]? = some (.int .i64 O[i]):=by rw [qM,gi hlt];rfl
  have ob:=hO i hlt;refine iteI (fun hp=>qZ ?_) fun hp=>?_
  all_goals
   simp only [pwA,seval,-iQ0,r0,hlt,hlt',gx];refine dec ob fun d ed hd=>?_
   simp only [pwA,seval,-iQ0];refine qZ ?_;simp only [pwA,seval,-iQ0,wrapS hlt (by omega:O.length≤4611686018427387904)]
   exact⟨_,by omega,i+1,_,by omega,rfl,rfl,by rw [ordT,ed,eq,at_eq hlt];first | rw [if_pos (by omega)] | rw [if_neg (by omega)],by simp only [List.length_append,List.length_cons,List.length_nil];omega⟩
 refine zB (fun m vs h'=>∃(i:Nat) (q:List UInt8),i≤O.length∧m=O.length-i∧vs=[.ptr σ.next 0,.int .i64 O.length,.str q,.int .i64 i]∧q=powT O P (ordT O O.length) i∧q.length≤60+60*i∧h'=h) O.length ?_ ?_
 ·exact⟨0,q,Nat.zero_le _,rfl,rfl,by rw [eq,powT,show i=O.length by omega],by omega,rfl⟩
 clear hq hge hi eq
 rintro m vs h ⟨i,q,hi,rfl,rfl,eq,hq,rfl⟩
 simp only [pwA,seval,-iQ0];refine iteI (fun hlt=>?_) fun hge=>?_
 ·have hltP:i<P.length:=by omega
  have hltP':(i:Int)<(P.length:Int):=by omega
  have hlt':(i:Int)<(O.length:Int):=by omega
  have gx:(pis O)[i]? = some (.int .i64 O[i]):=by rw [qM,gi hlt];rfl
  have ob:=hO i hlt;obtain⟨w4,a4,hr⟩:=hrP.rowI hltP;obtain⟨pl,pe⟩:=PR i hltP;have wi:=wrapS hlt (by omega:O.length≤4611686018427387904)
  simp only [pwA,seval,-iQ0,r0,r1,hltP,hltP',hr];refine zIw rfl (by omega) ?_
  simp only [pwA,seval,-iQ0];have ep:pvec P i=P[i]:=by unfold pvec;rw [List.getD_eq_getElem?_getD,List.getElem?_eq_getElem hltP];rfl
  by_cases hz:isZ P[i]
  ·simp only [pwA,seval,-iQ0,hz,wi]
   exact⟨_,by omega,i+1,_,by omega,rfl,rfl,by rw [powT,ep,if_pos hz,eq],by omega⟩
  simp only [pwA,seval,-iQ0,hz,r0,r1,hltP,hltP',hr,hlt,hlt',gx];refine qZ ?_;simp only [pwA,seval,-iQ0,hz,r0,r1,hltP,hltP',hr,hlt,hlt',gx];refine zA5 (by omega) fun d1 e1 hd1=>?_
  simp only [pwA,seval,-iQ0,r0,r1,hltP,hltP',hr,hlt,hlt',gx];refine qZ ?_;simp only [pwA,seval,-iQ0,r0,r1,hltP,hltP',hr,hlt,hlt',gx,wi];refine qZ ?_;simp only [pwA,seval,-iQ0,r0,r1,hltP,hltP',hr,hlt,hlt',gx,wi];refine dec ob fun d2 e2 hd2=>?_
  simp only [pwA,seval,-iQ0,r0,r1,hltP,hltP',hr,hlt,hlt',gx,wi];refine qZ ?_;simp only [pwA,seval,-iQ0,r0,r1,hltP,hltP',hr,hlt,hlt',gx,wi];refine qZ ?_;simp only [pwA,seval,-iQ0,r0,r1,hltP,hltP',hr,hlt,hlt',gx,wi];have nl:=ZX (by omega) pe
  refine zEp ⟨w4,a4,rfl⟩ (by omega) pe fun u hu=>?_
  obtain⟨w5,a5,rfl⟩:=hu;simp only [pwA,seval,-iQ0,r0,r1,hltP,hltP',hr,hlt,hlt',gx,wi];refine zEq (by omega) nl.2 fun d3 e3 hd3=>?_
  simp only [pwA,seval,-iQ0,r0,r1,hltP,hltP',hr,hlt,hlt',gx,wi];refine qZ ?_;simp only [pwA,seval,-iQ0,r0,r1,hltP,hltP',hr,hlt,hlt',gx,wi];exact⟨_,by omega,i+1,_,by omega,rfl,rfl,by rw [powT,ep,if_neg hz,eq,e1,e2,e3,at_eq hlt],by simp only [List.length_append,List.length_cons,List.length_nil];omega⟩
 refine zB (fun m vs h'=>∃(i:Nat) (q:List UInt8),i≤O.length∧m=O.length-i∧vs=[.ptr σ.next 0,.int .i64 O.length,.str q,.int .i64 i]∧q=conT O.length C (powT O P (ordT O O.length) O.length) i∧q.length≤420+420*i∧h'=h) O.length ?_ ?_
 ·exact⟨0,q,Nat.zero_le _,rfl,rfl,by rw [eq,conT,show i=O.length by omega],by omega,rfl⟩
 clear hq hge hi eq
 rintro m vs h ⟨i,q,hi,rfl,rfl,eq,hq,rfl⟩
 simp only [pwA,seval,-iQ0];refine iteI (fun hlt=>?_) fun hge=>?_
 rotate_left
 ·exact fin (by rw [eq,prT,if_neg (by omega),show i=O.length by omega]) (by omega)
 have hlt':(i:Int)<(O.length:Int):=by omega
 have hltC:i<C.length:=by omega
 have hltC':(i:Int)<(C.length:Int):=by omega
 have wi:=wrapS hlt (by omega:O.length≤4611686018427387904)
 obtain⟨w4,a4,rs4,hr,hrs⟩:=hrC.rowL hltC;have cl:=CL i hltC;simp only [pwA,seval,-iQ0,wi];refine zB (fun m vs h'=>∃(j:Nat) (q:List UInt8),i+1≤j∧j≤O.length∧m=O.length-j∧vs=[.ptr σ.next 0,.int .i64 O.length,.str q,.int .i64 i,.int .i64 j]∧q=conTr O.length C (conT O.length C (powT O P (ordT O O.length) O.length) i) i (j-(i+1))∧q.length≤420+420*i+60*j∧h'=h) (O.length-(i+1)) ?_ ?_
 ·exact⟨i+1,q,Nat.le_refl _,by omega,rfl,rfl,by rw [eq,Nat.sub_self,conTr],by omega,rfl⟩
 clear hq eq
 rintro m vs h ⟨j,q,hij,hj,rfl,rfl,eq,hq,rfl⟩
 simp only [pwA,seval,-iQ0];refine iteI (fun hjt=>?_) fun hge=>?_
 rotate_left
 ·simp only [pwA,seval,-iQ0,wi]
  exact⟨_,by omega,i+1,q,by omega,rfl,rfl,by rw [conT,eq,show j-(i+1)=O.length-1-i by omega],by omega⟩
 have hk1:j-i-1<C[i].length:=by omega
 have hk1':((j-i-1:Nat):Int)<(C[i].length:Int):=by omega
 have wj:=wrapS hjt (by omega:O.length≤4611686018427387904)
 have wk:IntKind.i64.wrap ((j:Int)-(i:Int))=(j:Int)-(i:Int):=wrap64 (by omega) (by omega)
 have wk1:IntKind.i64.wrap ((j:Int)-(i:Int)-1)=((j-i-1:Nat):Int):=by rw [wrap64 (by omega) (by omega)];omega
 obtain⟨w6,a6,hr6⟩:=hrs.rowI hk1;obtain⟨pl,pe⟩:=CR i hltC _ hk1;simp only [pwA,seval,-iQ0,r2,hltC,hltC',hr,wk,wk1,hk1,hk1',hr6];refine zIt (by omega) hjt fun wu hu=>?_
 obtain⟨w7,a7,rfl⟩:=hu;simp only [pwA,seval,-iQ0,r2,hltC,hltC',hr,wk,wk1,hk1,hk1',hr6];refine zIx rfl rfl (by omega) ?_
 have ec:cvec C i j=C[i][j-i-1]:=by
  unfold cvec;rw [List.getD_eq_getElem?_getD,List.getD_eq_getElem?_getD,List.getElem?_eq_getElem hltC];simp only [Option.getD_some];rw [List.getElem?_eq_getElem hk1];rfl
 have ej:i+1+(j-(i+1))=j:=by omega
 have es:j+1-(i+1)=j-(i+1)+1:=by omega
 by_cases hz:C[i][j-i-1]=unitL O.length j
 ·simp only [pwA,seval,-iQ0,hz,wj]
  exact⟨_,by omega,j+1,q,by omega,by omega,rfl,rfl,by rw [es,conTr,ej,ec,if_pos hz,eq],by omega⟩
 simp only [pwA,seval,-iQ0,hz,r2,hltC,hltC',hr,wk,wk1,hk1,hk1',hr6,wj];refine qZ ?_;simp only [pwA,seval,-iQ0,hz,r2,hltC,hltC',hr,wk,wk1,hk1,hk1',hr6,wj];refine zA5 (by omega) fun d1 e1 hd1=>?_
 simp only [pwA,seval,-iQ0,hz,r2,hltC,hltC',hr,wk,wk1,hk1,hk1',hr6,wj];refine qZ ?_;simp only [pwA,seval,-iQ0,hz,r2,hltC,hltC',hr,wk,wk1,hk1,hk1',hr6,wj];refine qZ ?_;simp only [pwA,seval,-iQ0,hz,r2,hltC,hltC',hr,wk,wk1,hk1,hk1',hr6,wj];refine zA5 (by omega) fun d2 e2 hd2=>?_
 simp only [pwA,seval,-iQ0,hz,r2,hltC,hltC',hr,wk,wk1,hk1,hk1',hr6,wj];refine qZ ?_;simp only [pwA,seval,-iQ0,hz,r2,hltC,hltC',hr,wk,wk1,hk1,hk1',hr6,wj];refine qZ ?_;simp only [pwA,seval,-iQ0,hz,r2,hltC,hltC',hr,wk,wk1,hk1,hk1',hr6,wj];have nl:=ZX (by omega) pe
 refine zEp ⟨w6,a6,rfl⟩ (by omega) pe fun u hu=>?_
 obtain⟨w5,a5,rfl⟩:=hu;simp only [pwA,seval,-iQ0,hz,r2,hltC,hltC',hr,wk,wk1,hk1,hk1',hr6,wj];refine zEq (by omega) nl.2 fun d3 e3 hd3=>?_
 simp only [pwA,seval,-iQ0,hz,r2,hltC,hltC',hr,wk,wk1,hk1,hk1',hr6,wj];refine qZ ?_;simp only [pwA,seval,-iQ0,hz,r2,hltC,hltC',hr,wk,wk1,hk1,hk1',hr6,wj];exact⟨_,by omega,j+1,_,by omega,by omega,rfl,rfl,by rw [es,conTr,ej,ec,if_neg hz,eq,e1,e2,e3],by simp only [List.length_append,List.length_cons,List.length_nil];omega⟩
end Go.Proofs
namespace Go.Grp
end Go.Grp
set_option linter.unusedSimpArgs false
set_option linter.unusedVariables false
set_option linter.unusedSectionVars false
namespace Go.Proofs
open Go.Ab Go.Lie Go.Grp
variable {σ h:PHeap} {K:PV→PHeap→Prop} {k:Int} {G:List Pre} {L:List (List Int)} {vG vL:PV}
def grT (q:List UInt8) (G:List Pre):Nat→List UInt8
 | 0=>q
 | i+1=>grT q G i++prT (G.getD i ([],[],[])).1 (G.getD i ([],[],[])).2.1 (G.getD i ([],[],[])).2.2++[10]
def enT (q:List UInt8) (x:List Int):Nat→List UInt8
 | 0=>q
 | j+1=>enT q x j++[32]++Lib.itoa (at_ x j)
def liT (q:List UInt8) (L:List (List Int)):Nat→List UInt8
 | 0=>q
 | i+1=>enT (liT q L i++[58]) (L.getD i []) (L.getD i []).length++[10]
def certT (k:Int) (G:List Pre) (L:List (List Int)):List UInt8:=liT (grT (Lib.itoa k++[10]) G G.length) L L.length
end Go.Proofs
namespace Go.Grp
end Go.Grp
set_option linter.unusedSimpArgs false
set_option linter.unusedVariables false
set_option linter.unusedSectionVars false
namespace Go.Proofs
open Go.RowKit in
theorem zIq (i:Nat) (hi:i≤20) (w:World):Calls Tryz.prog 125 #[.int .i64 i] w fun e w'=>e=.returned (.string ⟨#[UInt8.ofNat (97+i)]⟩)∧w'=w:=by
 have he:∀i:Fin 21,Utf8.encode (97+(i.val:Int))=⟨#[UInt8.ofNat (97+i.val)]⟩:=by decide +kernel
 have he':=he ⟨i,by omega⟩
 go_enter Tryz.func125,Tryz.ntmps125
 go_wp2
 go_ret
 exact⟨rfl,rfl⟩
open Go.RowKit Go.Ab Go.Lie Go.Grp
variable {σ h:PHeap} {K:PV→PHeap→Prop} {b s n i:Nat} {v:PV} {x:List Int} {B:Nat} {w0 w:World} {j:Inj} {hh:AHeap}
theorem zJc (m : MR B w0 j hh w) : Lib.TabIs Tryz.prog w "internal/strconv.uint64pow10" .u64 Lib.pow10Tab := by
 obtain⟨ty,fz,g2⟩:=m.gd.tab;have hg : Program.globalNamed Tryz.prog "internal/strconv.uint64pow10" = some gdB := by kernel_rfl
 unfold Lib.TabIs World.var?;rw [hg];simp only [Option.bind_some];rw [m.below.block gdB m.gd.lt,g2]
 rfl
theorem zGj {n:Int} (h0:-9223372036854775808≤n) (h1:n≤9223372036854775807) (hk:K (.str (Lib.itoa n)) σ):zA Tryz.prog 108 [.int .i64 n,.int .i64 10] σ K:=by
 refine zA.quietS (q:=Lib.itoa n) (fun ι Z h r va B w0 j w cargs m vi=>?_) hk
 obtain⟨_,_,rfl,rfl,_,_,rfl,rfl,rfl⟩:=vi;exact(Tryz.strconv_FormatInt_10 n h0 h1 w (zJc m)).mono fun e w' ⟨he,k,os,hw⟩=>⟨he,hw ▸ Go.Lib.below_grow _ w (Nat.le_refl _) k os⟩
theorem zA4 (hi:i≤20) (hk:K (.str [letB i]) σ):zA Tryz.prog 125 [.int .i64 i] σ K:=by
 refine zA.quietS (q:=[letB i]) (fun ι Z h r va B w0 j w cargs m vi=>?_) hk
 obtain⟨_,_,rfl,rfl,rfl⟩:=vi;exact(zIq i hi w).mono fun e w' ⟨he,hw⟩=>⟨he,hw ▸ Below.refl _ _⟩
def pst (l:List (List UInt8)):List PV:=l.map PV.str
theorem zM9 {ι:Nat→Nat} {l:List (List UInt8)} (i:Nat) (x:List UInt8) (hx:l[i]? = some x):(ers ι (pst l))[i]? = some (AV.str x):=by
 rw [qf,pst,List.getElem?_map,List.getElem?_map,hx];rfl
theorem zEH {l:List (List UInt8)} {sep:List UInt8} {cap:Cap} (ho:σ.obj s=some (pst l)) (hn:n=l.length) (hc:capOK cap n=true) (h0:0<n) (hl:n≤1000) (hlen:(Lib.join l sep).length≤140737488355328)
  (hk:K (.str (Lib.join l sep)) σ):zA Tryz.prog 124 [.sl s 0 n cap,.str sep] σ K:=by
 refine zA.quietS (q:=Lib.join l sep) (fun ι Z h r va B w0 j w cargs m vi=>?_) hk
 obtain⟨cv,_,rfl,v1,_,_,rfl,rfl,rfl⟩:=vi;obtain⟨q1,q2,q3⟩:=r.obj s _ ho;have v1':VI j (.sl (ι s) 0 n cap) cv:=v1;obtain⟨lo,c,hj,rfl,hcap⟩:∃lo c,j (ι s)=some lo∧cv=.slice (some ⟨lo.blk,lo.base,none⟩) n c∧n≤c:=by
  cases cap with
  | known c=>
   obtain⟨lo,a,hj,e,ha⟩:=v1';rcases ha with rfl|⟨_,e0⟩
   ·exact⟨lo,c,hj,e,by simpa [capOK]using hc⟩
   ·omega
  | grown e=>
   obtain⟨lo,c,f,hj,e1,hle,hf,_⟩:=v1';rcases hf with rfl|⟨e0,_⟩
   ·exact⟨lo,c,hj,e1,hle⟩
   ·omega
 obtain⟨cur,ty,fz,r1,r2,r3,r4⟩:=(m.obj _ _ _ q1 hj).row;have hcell:∀(k:Nat) (x:ByteArray),(l.map fun y=>(⟨y.toArray⟩:ByteArray))[k]? = some x→w.cell? ⟨lo.blk,lo.base+k,none⟩=some (.string x):=fun k x hx=>by
  rw [List.getElem?_map,Option.map_eq_some_iff]at hx
  obtain⟨y,hy,rfl⟩:=hx;obtain⟨cv,c1,c2⟩:=r2 k _ (zM9 k y hy);rw [Lib.cell_of_heap r1,c1,show cv=_ from c2]
 have hblk:lo.blk<w.heap.size:=(Array.getElem?_eq_some_iff.1 r1).1;have e1:(l.map fun y=>(⟨y.toArray⟩:ByteArray)).map (·.data.toList)=l:=by rw [List.map_map];simp [Function.comp_def]
 have hlen':(l.map fun y=>(⟨y.toArray⟩:ByteArray)).length=n:=by rw [List.length_map,hn]
 have:=Tryz.strings_Join lo.blk lo.base c (l.map fun y=>⟨y.toArray⟩) ⟨sep.toArray⟩ w hcell hblk (by rw [hlen'];omega) (by rw [hlen'];exact hcap) (by rw [e1];exact hlen)
 rw [hlen',e1]at this
 exact this
theorem zDc {w:Bool} {aa:AV} (hn:x.length≤42) (hx:∀l∈x,1≤l∧l≤26) (hk:∀q:List UInt8,q=wordB x→q.length≤43→K (.str q) σ):zA Tryz.prog 126 [.fz w aa x.length (pis x)] σ K:=by
 have hk:=hk _ rfl (by
  unfold wordB
  split
  ·simp
  ·rw [List.length_map];omega)
 unfold wordB at hk
 refine zA.gh ?_;refine zt mix Tryz.func126 cf126 rfl ?_;dsimp only [if126,qI,eI,mI0,kI0,lI0,xI0,bI0,cI0,sI0,I0,zI0,R0,S0]
 by_cases h0:x.length=0
 ·have d0:((x.length:Nat):Int)=0:=by omega
  rw [if_pos (List.length_eq_zero_iff.1 h0)]at hk
  simp only [pwA,seval,-iQ0,d0];exact Gh.fin0 (Keep.refl _) trivial hk
 have d0:¬((x.length:Nat):Int)=0:=by omega
 rw [if_neg (fun e=>h0 (by rw [e];rfl))]at hk
 simp only [pwA,seval,-iQ0,d0];refine zB (fun m vs h=>∃(i:Nat) (v:PV),i≤x.length∧m=x.length-i∧vs=[v,.fz w aa x.length (pis x),.int .i64 x.length,.int .i64 i]∧Keep σ h∧PAcc σ.next 1 h v i ((x.take i).map fun l=>PV.int .u8 (96+l))) x.length ?_ ?_
 ·exact⟨0,_,Nat.zero_le _,rfl,rfl,Keep.refl _,PAcc.nil _ _ _⟩
 rintro m vs h ⟨i,v,hi,rfl,rfl,kk,pa⟩
 have h1:=pa.one;simp only [pwA,seval,-iQ0,h1];refine iteI (fun hlt=>?_) fun hge=>?_
 ·have hlt':(i:Int)<(x.length:Int):=by omega
  have gx:(pis x)[i]? = some (.int .i64 x[i]):=by rw [qM,gi hlt];rfl
  have b1:=hx _ (List.getElem_mem hlt);have hp:(0:Int)<x[i]:=by omega
  have w1:IntKind.i64.wrap (97+x[i])=97+x[i]:=wrap64 (by omega) (by omega)
  have w2:IntKind.i64.wrap (97+x[i] - 1)=96+x[i]:=by rw [wrap64 (by omega) (by omega)];omega
  have w3:IntKind.u8.wrap (96+x[i])=96+x[i]:=zAQ (by omega) (by omega)
  simp only [pwA,seval,-iQ0,h1,hlt,hlt',gx,hp,w1,w2,w3];refine PAcc.push (σb:=σ) (bytes:=1) kk pa (by omega) (by omega) fun v2 h2 k2 a2=>?_
  have h3:=a2.one;simp only [pwA,seval,-iQ0,h3,wrapS hlt (by omega:x.length≤4611686018427387904)]
  exact⟨_,by omega,i+1,v2,by omega,rfl,rfl,k2,by rw [List.take_succ_eq_append_getElem hlt,List.map_append];exact .inr a2⟩
 have hie:i=x.length:=by omega
 subst hie;rw [List.take_length]at pa
 have e1:=zBV (fun l=>96+l) x
 have e2:QP h v=some (x.map fun l=>UInt8.ofNat (96+l).toNat):=PSl.bytesX (by rw [List.length_map];exact pa.pos (by omega)) e1
 simp only [pwA,seval,-iQ0,h1,Qm,e2];exact Gh.fin0 kk trivial hk
end Go.Proofs
namespace Go.Grp
end Go.Grp
set_option linter.unusedSimpArgs false
set_option linter.unusedVariables false
set_option linter.unusedSectionVars false
namespace Go.Proofs
open Go.Ab Go.Lie Go.Grp
variable {σ h:PHeap} {K:PV→PHeap→Prop} {b s n i:Nat} {v vO vP vC:PV} {x O:List Int} {P:List (List Int)} {C:List (List (List Int))}
theorem zB8 {l:List (List UInt8)} (h:l≠[]) (p sep:List UInt8):Lib.join (l++[p]) sep=Lib.join l sep++sep++p:=by
 cases l with
 | nil=>exact absurd rfl h
 | cons x r=>rw [List.cons_append,Lib.join_cons,Lib.join_cons];simp [Lib.joinTail]
def strO (O:List Int) (i:Nat):List (List UInt8):=(O.take i).map Lib.itoa
theorem zEi (hi:i<O.length):strO O (i+1)=strO O i++[Lib.itoa O[i]]:=by
 unfold strO;rw [List.take_succ_eq_append_getElem hi,List.map_append];rfl
theorem zFY (hi:i≤O.length):(strO O i).length=i:=by unfold strO;rw [List.length_map,List.length_take];omega
theorem zGE (h0:∀i (hi:i<O.length),0≤O[i]):∀i,i≤O.length→Lib.join (strO O i) [32]=ordT O i
 | 0,_=>rfl
 | i+1,hi=>by
  have e:Lib.itoa O[i]=Lib.decDigits (at_ O i).toNat:=by rw [Lib.itoa,if_neg (by have:=h0 i (by omega);omega),at_eq (show i<O.length by omega)]
  rw [zEi (by omega),ordT,e]
  by_cases hz:i=0
  ·subst hz;rw [if_neg (by omega)];simp [strO,Lib.join_one,ordT]
  ·rw [if_pos (by omega),zB8 (fun z=>by have:=zFY (O:=O) (i:=i) (by omega);rw [z]at this;simp at this;omega),zGE h0 i (by omega)]
theorem Zk (hx:x.length≤42):(wordB x).length≤43:=by
 unfold wordB
 split
 ·simp
 ·rw [List.length_map];omega
theorem zDI (hd:∀i,(Lib.decDigits (at_ O i).toNat).length≤6):∀i,(ordT O i).length≤7*i
 | 0=>Nat.le_refl _
 | i+1=>by
  have:=zDI hd i
  have:=hd i
  rw [ordT];split<;>simp only [List.length_append,List.length_cons,List.length_nil]<;>omega
theorem zDG {q:List UInt8} (hd:∀i,(Lib.decDigits (at_ O i).toNat).length≤6) (hw:∀i,(wordB (Mx.nw (pvec P i))).length≤43):∀i,(powT O P q i).length≤q.length+60*i
 | 0=>Nat.le_refl _
 | i+1=>by
  have:=zDG (q:=q) hd hw i
  have:=hd i
  have:=hw i
  rw [powT];split
  ·omega
  ·simp only [List.length_append,List.length_cons,List.length_nil];omega
theorem zEy {q:List UInt8} (hw:∀i j,(wordB (Mx.nw (cvec C i j))).length≤43) (i:Nat):∀k,(conTr n C q i k).length≤q.length+60*k
 | 0=>Nat.le_refl _
 | k+1=>by
  have:=zEy (q:=q) hw i k
  have:=hw i (i+1+k)
  rw [conTr];split
  ·omega
  ·simp only [List.length_append,List.length_cons,List.length_nil];omega
theorem zDU {q:List UInt8} (hn:n≤6) (hw:∀i j,(wordB (Mx.nw (cvec C i j))).length≤43):∀i,(conT n C q i).length≤q.length+360*i
 | 0=>Nat.le_refl _
 | i+1=>by
  have h1:=zDU (q:=q) hn hw i;have h2:=zEy (n:=n) (q:=conT n C q i) hw i (n-1-i);have h3:60*(n-1-i)≤360:=by omega
  rw [conT];omega
set_option maxHeartbeats 3200000 in
theorem Zq {a:AV} {rest:List PV} (hR:IsPr vO vP vC O P C) (hp:zK O P C) (hk:K (.str (prT O P C)) σ):zA Tryz.prog 98 [.fp a (vO::vP::vC::rest)] σ K:=by
 have sh:=hp.shp;have hn6:=sh.le;have o1:=hR.O.one;have p1:=hR.P.one;have c1:=hR.C.one;obtain⟨⟨wO,aO,rfl⟩,⟨wP,aP,rP,rfl,hrP⟩,⟨wC,aC,rC,rfl,hrC⟩⟩:=hR;have hpl:=sh.pl;have hcl:=sh.cl;have hO:∀i (hi:i<O.length),2≤O[i]∧O[i]≤7:=fun i hi=>by have:=sh.pr i hi;rw [at_eq hi]at this;exact this
 have ent:∀{k:Nat} {y:List Int},TT O k y→∀a∈y,0≤a∧a≤7:=fun {k y} h a ha=>by
  obtain⟨j,hj,rfl⟩:=List.mem_iff_getElem.1 ha;have b:=h.bd j (by have:=h.len;omega)
  rw [at_eq hj]at b
  have o:=sh.pr j (by have:=h.len;omega)
  omega
 have PR:∀i (hi:i<P.length),P[i].length=O.length∧∀a∈P[i],0≤a∧a≤7:=fun i hi=>by
  have h:=sh.pw i (by omega)
  have e:pvec P i=P[i]:=by unfold pvec;rw [List.getD_eq_getElem?_getD,List.getElem?_eq_getElem hi];rfl
  rw [e]at h
  exact⟨h.len,ent h⟩
 have CL:∀i (hi:i<C.length),C[i].length=O.length-1-i:=fun i hi=>by
  have h:=sh.row i (by omega)
  rw [List.getD_eq_getElem?_getD,List.getElem?_eq_getElem hi]at h
  exact h
 have CR:∀i (hi:i<C.length) k (hk:k<C[i].length),C[i][k].length=O.length∧∀a∈C[i][k],0≤a∧a≤7:=fun i hi k hk'=>by
  have hl:=CL i hi;have h:=sh.cj i (i+1+k) (by omega) (by omega)
  have e:cvec C i (i+1+k)=C[i][k]:=by
   unfold cvec;rw [show i+1+k-i-1=k by omega,List.getD_eq_getElem?_getD,List.getD_eq_getElem?_getD,List.getElem?_eq_getElem hi]
   simp only [Option.getD_some];rw [List.getElem?_eq_getElem hk'];rfl
  rw [e]at h
  exact⟨h.len,ent h⟩
 refine zA.gh ?_;refine zt mix Tryz.func98 cf98 rfl ?_;dsimp only [if98,qI,eI,qD,eD,mI0,kI0,lI0,fI0,xI0,bI0,cI0,nI0,sI0,pI0,C1,C2,mD0,lD0,xD0,I0,zI0,R0,S0];simp only [pwA,seval,-iQ0];refine zB (fun m vs h=>∃(i:Nat) (v:PV),i≤O.length∧m=O.length-i∧vs=[.fp a (.fz wO aO O.length (pis O)::.fz wP aP P.length rP::.fz wC aC C.length rC::rest),v,.fz wO aO O.length (pis O),.int .i64 O.length,.int .i64 i]∧Keep σ h∧PAcc σ.next 1 h v i (pst (strO O i))) O.length ?_ ?_
 ·exact⟨0,_,Nat.zero_le _,rfl,rfl,Keep.refl _,PAcc.nil _ _ _⟩
 rintro m vs h ⟨i,v,hi,rfl,rfl,kk,pa⟩
 have h1:=pa.one;simp only [pwA,seval,-iQ0,h1];refine iteI (fun hlt=>?_) fun hge=>?_
 ·have hlt':(i:Int)<(O.length:Int):=by omega
  have gx:(pis O)[i]? = some (.int .i64 O[i]):=by rw [qM,gi hlt];rfl
  have ob:=hO i hlt;simp only [pwA,seval,-iQ0,h1,hlt,hlt',gx];refine zGj (by omega) (by omega) ?_
  simp only [pwA,seval,-iQ0,h1];refine PAcc.push (σb:=σ) (bytes:=16) kk pa (by omega) (by omega) fun v2 h2 k2 a2=>?_
  have h3:=a2.one;simp only [pwA,seval,-iQ0,h3,wrapS hlt (by omega:O.length≤4611686018427387904)]
  exact⟨_,by omega,i+1,v2,by omega,rfl,rfl,k2,by rw [zEi hlt];refine .inr ?_;rw [pst,List.map_append];exact a2⟩
 obtain rfl:i=O.length:=by omega
 have hdig:∀i,(Lib.decDigits (at_ O i).toNat).length≤6:=fun i=>by
  rcases Nat.lt_or_ge i O.length with h|h
  ·have:=hO i h
   exact Nat.le_trans (Zi 0 _ (by rw [at_eq h];omega)) (by omega)
  ·unfold at_
   rw [List.getD_eq_getElem?_getD,List.getElem?_eq_none h];exact Nat.le_trans (Zi 0 _ (by simp)) (by omega)
 by_cases hz0:O.length=0
 ·have d0:((O.length:Nat):Int)=0:=by omega
  have l1:=pa.pLen;have np:¬(0:Int)<(P.length:Int):=by omega
  have no:¬(0:Int)<(O.length:Int):=by omega
  simp only [pwA,seval,-iQ0,l1,d0];refine zEH (l:=[[49]]) (by rw [zT,if_pos rfl];rfl) rfl rfl (by omega) (by omega) (by simp [Lib.join_one]) ?_
  rw [Lib.join_one];simp only [pwA,seval,-iQ0];generalize hH:(h.new [PV.str [49]]).new [PV.str [49]]=H;have kH:Keep σ H:=by rw [←hH];exact(kk.new _).new _
  have oH:H.obj (h.next+1)=some [.str [49]]:=by rw [←hH];exact if_pos rfl
  refine zB (fun m vs g=>m=0∧vs=[.fp a (.fz wO aO O.length (pis O)::.fz wP aP P.length rP::.fz wC aC C.length rC::rest),.sl h.next 0 1 (.known 1),.sl (h.next+1) 0 1 (.known 1),.fz wP aP P.length rP,.int .i64 P.length,.int .i64 0]∧g=H) 0 ⟨rfl,rfl,rfl⟩ ?_
  rintro m vs g ⟨rfl,rfl,rfl⟩
  simp only [pwA,seval,-iQ0,np];refine zB (fun m vs g'=>m=0∧vs=[.fp a (.fz wO aO O.length (pis O)::.fz wP aP P.length rP::.fz wC aC C.length rC::rest),.sl (h.next+1) 0 1 (.known 1),.int .i64 O.length,.int .i64 0]∧g'=g) 0 ⟨rfl,rfl,rfl⟩ ?_
  rintro m vs g' ⟨rfl,rfl,rfl⟩
  simp only [pwA,seval,-iQ0,no];refine zEH (l:=[[49]]) oH rfl rfl (by omega) (by omega) (by simp [Lib.join_one]) ?_
  rw [Lib.join_one];simp only [pwA,seval,-iQ0];refine Gh.fin0 kH trivial ?_
  rwa [prT,if_pos hz0]at hk
 have d0:¬((O.length:Nat):Int)=0:=by omega
 have l1:=pa.pLen;obtain⟨t,cap,rfl,q1,q2,q3,q4,q5⟩:=pa.pos (by omega)
 have hjo:=zGE (O:=O) (fun i hi=>by have:=hO i hi;omega) O.length (Nat.le_refl _)
 have hol:=zDI hdig O.length;simp only [pwA,seval,-iQ0,l1,d0];refine zEH q2 (zFY (Nat.le_refl _)).symm q1.ok (by omega) (by omega) (by rw [hjo];omega) ?_
 rw [hjo];simp only [pwA,seval,-iQ0];have tlt:t<h.next:=q5;refine zB (fun m vs g=>∃(i:Nat) (v:PV) (parts:List (List UInt8)),i≤P.length∧m=P.length-i∧vs=[.fp a (.fz wO aO O.length (pis O)::.fz wP aP P.length rP::.fz wC aC C.length rC::rest),.sl t 0 O.length cap,v,.fz wP aP P.length rP,.int .i64 P.length,.int .i64 i]∧Keep h g∧PSl h.next 1 g v parts.length (pst parts)∧parts≠[]∧parts.length≤1+i∧Lib.join parts [59,32]=powT O P (ordT O O.length) i) P.length ?_ ?_
 ·exact⟨0,_,[ordT O O.length],Nat.zero_le _,rfl,rfl,zD _ _,PSl.own (n:=1) (.inr rfl) (by rw [zT,if_pos rfl];rfl) rfl (Nat.le_refl _) (Nat.lt_succ_self _),by simp,by simp,by rw [Lib.join_one,powT]⟩
 rintro m vs g ⟨i,v,parts,hi,rfl,rfl,kg,ps,pne,pl,pj⟩
 have v1:=ps.one;simp only [pwA,seval,-iQ0,v1];refine iteI (fun hlt=>?_) fun hge=>?_
 ·have hlt':(i:Int)<(P.length:Int):=by omega
  have hltO:i<O.length:=by omega
  have hltO':(i:Int)<(O.length:Int):=by omega
  have ob:=hO i hltO;obtain⟨w4,a4,hr⟩:=hrP.rowI hlt;obtain⟨pln,pe⟩:=PR i hlt;have wi:=wrapS hlt (by omega:P.length≤4611686018427387904)
  have ep:pvec P i=P[i]:=by unfold pvec;rw [List.getD_eq_getElem?_getD,List.getElem?_eq_getElem hlt];rfl
  have rO:g.rd1 t i=some (.str (Lib.itoa O[i])):=by
   rw [qF (by rw [kg.obj _ tlt];exact q2),pst,strO,List.take_length,List.getElem?_map,List.getElem?_map,List.getElem?_eq_getElem hltO];rfl
  have eI:Lib.itoa O[i]=Lib.decDigits (at_ O i).toNat:=by rw [Lib.itoa,if_neg (by omega),at_eq hltO]
  have dl:=hdig i;rw [←eI]at dl
  have nl:=ZX (by omega) pe
  have wl:=Zk nl.1;simp only [pwA,seval,-iQ0,v1,hlt,hlt',hr];refine zEs rfl (by omega) ?_
  by_cases hz:isZ P[i]
  ·simp only [pwA,seval,-iQ0,v1,hz,wi]
   exact⟨_,by omega,i+1,v,parts,by omega,rfl,rfl,kg,ps,pne,by omega,by rw [powT,ep,if_pos hz];exact pj⟩
  simp only [pwA,seval,-iQ0,v1,hz,wi,rO,hltO,hltO',hlt,hlt'];refine zA4 (by omega) ?_
  simp only [pwA,seval,-iQ0,v1,hz,wi,rO,hltO,hltO',hlt,hlt'];refine qZ ?_;simp only [pwA,seval,-iQ0,v1,hz,wi,rO,hltO,hltO',hlt,hlt'];refine qZ ?_;simp only [pwA,seval,-iQ0,v1,hz,wi,rO,hltO,hltO',hlt,hlt'];refine zBn (fun j=>?_) (by omega) ⟨w4,a4,rfl⟩ fun u hu=>?_
  ·rcases Nat.lt_or_ge j P[i].length with hj | hj
   ·rw [at_eq hj];exact pe _ (List.getElem_mem hj)
   ·unfold at_;rw [List.getD_eq_getElem?_getD,List.getElem?_eq_none hj];simp
  obtain⟨w5,a5,rfl⟩:=hu;simp only [pwA,seval,-iQ0,v1,hz,wi,rO,hltO,hltO',hlt,hlt'];refine zDc nl.1 nl.2 fun d3 e3 hd3=>?_
  simp only [pwA,seval,-iQ0,v1,hz,wi,rO,hltO,hltO',hlt,hlt'];refine qZ ?_;simp only [pwA,seval,-iQ0,v1,hz,wi,rO,hltO,hltO',hlt,hlt'];refine PSl.push (σb:=h) (bytes:=16) kg ps (by omega) (by omega) fun v2 g2 k2 a2=>?_
  have v3:=a2.one;simp only [pwA,seval,-iQ0,v3,wi];refine⟨_,by omega,i+1,v2,parts++[_],by omega,rfl,rfl,k2,by rw [List.length_append,pst,List.map_append];exact a2,by simp,by rw [List.length_append,List.length_singleton];omega,?_⟩
  rw [zB8 pne,pj,powT,ep,if_neg hz,←eI,e3];simp only [List.append_assoc,List.cons_append,List.nil_append]
 have hiP:i=O.length:=by omega
 have hwP:∀i,(wordB (Mx.nw (pvec P i))).length≤43:=fun i=>by
  unfold pvec;rw [List.getD_eq_getElem?_getD];rcases Nat.lt_or_ge i P.length with hi|hi
  ·rw [List.getElem?_eq_getElem hi]
   have:=PR i hi
   exact Zk (ZX (x:=P[i]) (by omega) this.2).1
  ·rw [List.getElem?_eq_none hi];exact Zk (x:=Mx.nw []) (by simp [Mx.nw,Mx.nword])
 have hpw:=zDG (q:=ordT O O.length) hdig hwP O.length;have hwC:∀i j,(wordB (Mx.nw (cvec C i j))).length≤43:=fun i j=>by
  have e0:(wordB (Mx.nw ([]:List Int))).length≤43:=Zk (x:=Mx.nw []) (by simp [Mx.nw,Mx.nword])
  unfold cvec;rw [List.getD_eq_getElem?_getD,List.getD_eq_getElem?_getD];rcases Nat.lt_or_ge i C.length with hi|hi
  ·rw [List.getElem?_eq_getElem hi]
   simp only [Option.getD_some];rcases Nat.lt_or_ge (j-i-1) C[i].length with hj|hj
   ·rw [List.getElem?_eq_getElem hj]
    have:=CR i hi _ hj
    exact Zk (ZX (x:=C[i][j-i-1]) (by omega) this.2).1
   ·rw [List.getElem?_eq_none hj];exact e0
  ·rw [List.getElem?_eq_none hi];exact e0
 clear v1 hge;refine zB (fun m vs g=>∃(i:Nat) (v:PV) (parts:List (List UInt8)),i≤O.length∧m=O.length-i∧vs=[.fp a (.fz wO aO O.length (pis O)::.fz wP aP P.length rP::.fz wC aC C.length rC::rest),v,.int .i64 O.length,.int .i64 i]∧Keep h g∧PSl h.next 1 g v parts.length (pst parts)∧parts≠[]∧parts.length≤7+6*i∧Lib.join parts [59,32]=conT O.length C (powT O P (ordT O O.length) O.length) i) O.length ?_ ?_
 ·exact⟨0,v,parts,Nat.zero_le _,rfl,rfl,kg,ps,pne,by omega,by rw [pj,conT,hiP]⟩
 clear pj pl hi hiP pne ps kg
 rintro m vs g ⟨i,v,parts,hi,rfl,rfl,kg,ps,pne,pl,pj⟩
 have v1:=ps.one;simp only [pwA,seval,-iQ0,v1];refine iteI (fun hlt=>?_) fun hge=>?_
 rotate_left
 ·obtain rfl:i=O.length:=by omega
  obtain⟨t6,cap6,rfl,y1,y2,y3,y4,y5⟩:=ps;have hcl:=zDU (n:=O.length) (q:=powT O P (ordT O O.length) O.length) hn6 hwC O.length;refine zEH y2 rfl y1.ok (List.length_pos_iff.2 pne) (by omega) (by rw [pj];omega) ?_
  rw [pj];simp only [pwA,seval,-iQ0];refine Gh.fin0 (kk.trans kg) trivial ?_
  rwa [prT,if_neg hz0]at hk
 have hltC:i<C.length:=by omega
 have hltC':(i:Int)<(C.length:Int):=by omega
 obtain⟨w4,a4,rs4,hr,hrs⟩:=hrC.rowL hltC;have cl:=CL i hltC;have wi:=wrapS hlt (by omega:O.length≤4611686018427387904)
 simp only [pwA,seval,-iQ0,v1,hltC,hltC',hr];refine zB (fun m vs g=>∃(k:Nat) (v:PV) (parts:List (List UInt8)),k≤C[i].length∧m=C[i].length-k∧vs=[.fp a (.fz wO aO O.length (pis O)::.fz wP aP P.length rP::.fz wC aC C.length rC::rest),v,.int .i64 i,.int .i64 O.length,.int .i64 i,.fz w4 a4 C[i].length rs4,.int .i64 C[i].length,.int .i64 k]∧Keep h g∧PSl h.next 1 g v parts.length (pst parts)∧parts≠[]∧parts.length≤7+6*i+k∧Lib.join parts [59,32]=conTr O.length C (conT O.length C (powT O P (ordT O O.length) O.length) i) i k) C[i].length ?_ ?_
 ·exact⟨0,v,parts,Nat.zero_le _,rfl,rfl,kg,ps,pne,by omega,by rw [pj,conTr]⟩
 clear pj pl pne ps kg v1
 rintro m vs g ⟨k,v,parts,hkl,rfl,rfl,kg,ps,pne,pl,pj⟩
 have v1:=ps.one;simp only [pwA,seval,-iQ0,v1];refine iteI (fun hkt=>?_) fun hge=>?_
 rotate_left
 ·simp only [pwA,seval,-iQ0,v1,wi]
  exact⟨_,by omega,i+1,v,parts,by omega,rfl,rfl,kg,ps,pne,by omega,by rw [conT,pj,show k=O.length-1-i by omega]⟩
 have hkt':(k:Int)<(C[i].length:Int):=by omega
 obtain⟨w6,a6,hr6⟩:=hrs.rowI hkt;obtain⟨pln,pe⟩:=CR i hltC _ hkt;have wk:=wrapS hkt (by omega:C[i].length≤4611686018427387904)
 have w1:IntKind.i64.wrap ((i:Int)+1)=(i:Int)+1:=wrap64 (by omega) (by omega)
 obtain⟨jj,ejj⟩:∃jj,jj=i+1+k:=⟨_,rfl⟩
 have w2:IntKind.i64.wrap ((i:Int)+1+(k:Int))=(jj:Int):=by rw [wrap64 (by omega) (by omega)];omega
 have ec:cvec C i (i+1+k)=C[i][k]:=by
  unfold cvec;rw [show i+1+k-i-1=k by omega,List.getD_eq_getElem?_getD,List.getD_eq_getElem?_getD,List.getElem?_eq_getElem hltC]
  simp only [Option.getD_some];rw [List.getElem?_eq_getElem hkt];rfl
 have nl:=ZX (by omega) pe
 simp only [pwA,seval,-iQ0,v1,hkt,hkt',hr6,w1,w2];rw [pln];refine zE1 (by omega) (by omega) fun au=>?_
 simp only [pwA,seval,-iQ0,v1,hkt,hkt',hr6,w1,w2];refine zMt pln.symm (Zl ..).symm (by omega) ?_
 by_cases hz:C[i][k]=unitL O.length jj
 ·simp only [pwA,seval,-iQ0,v1,hz,wk]
  exact⟨_,by omega,k+1,v,parts,by omega,rfl,rfl,kg,ps,pne,by omega,by rw [conTr,ec,if_pos (by rw [←ejj];exact hz),pj]⟩
 simp only [pwA,seval,-iQ0,v1,hz,wk];refine zA4 (i:=jj) (by omega) ?_
 simp only [pwA,seval,-iQ0,v1,hz,wk];refine zA4 (i:=i) (by omega) ?_
 simp only [pwA,seval,-iQ0,v1,hz,wk];refine zBn (x:=C[i][k]) (fun j=>?_) (by omega) ⟨w6,a6,by rw [pln]⟩ fun u hu=>?_
 ·rcases Nat.lt_or_ge j C[i][k].length with hj | hj
  ·rw [at_eq hj];exact pe _ (List.getElem_mem hj)
  ·unfold at_;rw [List.getD_eq_getElem?_getD,List.getElem?_eq_none hj];simp
 obtain⟨w5,a5,rfl⟩:=hu;simp only [pwA,seval,-iQ0,v1,hz,wk];refine zDc nl.1 nl.2 fun d3 e3 hd3=>?_
 simp only [pwA,seval,-iQ0,v1,hz,wk];refine qZ ?_;simp only [pwA,seval,-iQ0,v1,hz,wk];refine PSl.push (σb:=h) (bytes:=16) kg ps (by omega) (by omega) fun v2 g2 k2 a2=>?_
 have v3:=a2.one;simp only [pwA,seval,-iQ0,v3,wk];refine⟨_,by omega,k+1,v2,parts++[_],by omega,rfl,rfl,k2,by rw [List.length_append,pst,List.map_append];exact a2,by simp,by rw [List.length_append,List.length_singleton];omega,?_⟩
 rw [zB8 pne,pj,conTr,ec,if_neg (by rw [←ejj];exact hz),e3,←ejj]
 simp only [List.append_assoc,List.cons_append,List.nil_append]
end Go.Proofs
namespace Go.Grp
end Go.Grp
set_option linter.unusedSimpArgs false
set_option linter.unusedVariables false
set_option linter.unusedSectionVars false
namespace Go.Proofs
section
open Go.RowKit Go.Lie Go.Grp
theorem Tryz.WriteString_f (B b:Nat) (bs:List Value) (s:ByteArray) (w:World) (h:Lib.IsBuilderF 129 5 B b bs w) (hlen:bs.length+s.size≤140737488355328) (hBw:B≤w.heap.size):
  Calls Tryz.prog 107 #[.pointer (some ⟨b,0,none⟩),.string s] w fun e w'=>e=.returned (.tuple #[.int .i64 s.size,.nilIface])∧(Lib.BuilderAtF 129 5 B b (.pointer (some ⟨b,0,none⟩)) (bs++Lib.strCells s) w'∧Below B w w'):=Any.Builder_WriteString_f { Tryz.lays156 with } Tryz.Builder_Extra_156 B b bs s w h hlen hBw
theorem Tryz.String_f (B b:Nat) (l:List UInt8) (w:World) (h:Lib.IsBuilderF 129 5 B b (Lib.byteCells l) w) (hBw:B≤w.heap.size):
  Calls Tryz.prog 109 #[.pointer (some ⟨b,0,none⟩)] w fun e w'=>e=.returned (.string ⟨l.toArray⟩)∧(Lib.IsBuilderF 129 5 B b (Lib.byteCells l) w'∧Below B w w'):=Any.Builder_String_any_f { Tryz.lays156 with } Tryz.Builder_Extra_156 B b l w h hBw
def Says (P:Program) (f:FuncId) (args:Array Value) (w:World) (q:List UInt8):Prop:=Calls P f args w fun e w'=>e=.returned (.string ⟨q.toArray⟩)∧Below w.heap.size w w'
def Bld (B:Nat) (q:List UInt8) (w:World):Prop:=Lib.IsBuilderF 129 5 B B (Lib.byteCells q) w
theorem zCL {w w':World} (hb:Below w.heap.size w w') {b:Nat} {o:Obj} (h:w.heap[b]? = some o):w'.heap[b]? = some o:=by
 rw [hb.block _ (Array.getElem?_eq_some_iff.1 h).1];exact h
theorem zCx {w w':World} {B e n:Nat} {v:Value} {xs:List Value} (hb:Below w.heap.size w w') (h:w.ownsRowF B e 1 v n xs):w'.ownsRowF B e 1 v n xs:=by
 refine⟨h.1,?_⟩;rcases h.2 with q|⟨g,cap,cur,fz,h1,h2,h3,rest⟩
 ·exact .inl q
 ·exact .inr ⟨g,cap,cur,fz,h1,h2,zCL hb h3,rest⟩
theorem Bld.below {B:Nat} {q:List UInt8} {w w':World} (h:Bld B q w) (hb:Below w.heap.size w w'):Bld B q w':=by
 rcases h with ⟨h1,v,h2,h3,h4⟩|⟨h1,v,h2,h3,h4⟩
 ·exact .inl ⟨h1,v,zCL hb h2,zCx hb h3,h4⟩
 ·exact .inr ⟨h1,v,zCL hb h2,zCx hb h3,h4⟩
theorem ws {B:Nat} (q t:List UInt8) (W:World) (h:Bld B q W) (hB:B≤W.heap.size) (hl:q.length+t.length≤1000000):
  Calls Tryz.prog 107 #[.pointer (some ⟨B,0,none⟩),.string ⟨t.toArray⟩] W fun e W'=>e=.returned (.tuple #[.int .i64 t.length,.nilIface])∧Bld B (q++t) W'∧Below B W W':=by
 have e1:(⟨t.toArray⟩:ByteArray).size=t.length:=by simp [ByteArray.size]
 refine(Tryz.WriteString_f B B (Lib.byteCells q) ⟨t.toArray⟩ W h (by rw [Lib.byteCells_length,e1];omega) hB).mono ?_
 rintro e W' ⟨rfl,h1,b1⟩
 refine⟨by rw [e1],?_,b1⟩
 rw [Lib.strCells_eq,←Lib.byteCells_append]at h1
 exact .inr h1
theorem zF4 (a b:List UInt8):(⟨a.toArray⟩:ByteArray)++⟨b.toArray⟩=⟨(a++b).toArray⟩:=by
 apply ByteArray.ext;simp [ByteArray.data_append]
set_option maxHeartbeats 1600000
set_option maxRecDepth 100000
def LiAt (w:World) (v:Value) (L:List (List Int)):Prop:=
 ∃p c,v=.slice p L.length c∧∀i,i<L.length→∃b o,p=some ⟨b,o,none⟩∧∃xp xc,w.cell? ⟨b,o+i,none⟩=some (.slice xp (L.getD i []).length xc)∧b<w.heap.size∧
  ∀j,j<(L.getD i []).length→∃b1 o1,xp=some ⟨b1,o1,none⟩∧b1<w.heap.size∧w.cell? ⟨b1,o1+j,none⟩=some (.int .i64 (at_ (L.getD i []) j))
theorem zJG (k:Int) (n pb po gb g0 gc:Nat) (vL:Value) (w:World) (T gT:Nat→List UInt8) (L:List (List Int))
  (c0:w.cell? ⟨pb,po,none⟩=some (.int .i64 k)) (c1:w.cell? ⟨pb,po+1,none⟩=some (.slice (some ⟨gb,g0,none⟩) n gc)) (c2:w.cell? ⟨pb,po+2,none⟩=some vL) (hn:n≤3)
  (hF:∀z:Int,-1000000≤z→z≤1000000→∀W,Below w.heap.size w W→Says Tryz.prog 108 #[.int .i64 z,.int .i64 10] W (Lib.itoa z)) (hFl:∀z:Int,-1000000≤z→z≤1000000→(Lib.itoa z).length≤8) (hk:-1000000≤k) (hk':k≤1000000)
  (hT:∀q,q<n→∀W,Below w.heap.size w W→Says Tryz.prog 98 #[.pointer (some ⟨gb,g0+q*3,none⟩)] W (T q)) (hTl:∀q,q<n→(T q).length≤3000)
  (g_0:gT 0=Lib.itoa k++[10]) (g_s:∀q,gT (q+1)=gT q++(T q++[10]))
  (hL:LiAt w vL L) (hLl:L.length≤32) (hLe:∀i,(L.getD i []).length≤128) (hLv:∀i j,-1000000≤at_ (L.getD i []) j∧at_ (L.getD i []) j≤1000000):
  Calls Tryz.prog 73 #[.pointer (some ⟨pb,po,none⟩)] w fun e w'=>e=.returned (.string ⟨(liT (gT n) L L.length).toArray⟩)∧Below w.heap.size w w':=by
 obtain⟨lp,lc,rfl,hL⟩:=hL;have ktl:=hFl k hk hk';obtain⟨kt,hkt⟩:∃kt,kt=Lib.itoa k:=⟨_,rfl⟩
 rw [←hkt]at g_0 ktl
 have hlt:pb<w.heap.size:=World.block_lt_of_cell? _ _ c0;have gl:∀q,q≤n→(gT q).length≤101+3001*q:=fun q=>by
  induction q with
  | zero=>intro _;rw [g_0];simp;omega
  | succ q ih=>intro hq;have:=ih (by omega);have:=hTl q (by omega);rw [g_s];simp;omega
 have h0:Bld w.heap.size [] (w.alloc (.cells #[.pointer none,.slice none 0 0] 129)):=Lib.IsBuilderF.of (Lib.fresh_isBuilder 129 5 w);have b0:Below w.heap.size w (w.alloc (.cells #[.pointer none,.slice none 0 0] 129)):=(Below.refl _ w).alloc (Nat.le_refl _) _;have f0:=hF k hk hk' _ b0;unfold Says at f0
 rw [←hkt]at f0
 clear hkt
 go_enter Tryz.func73,Tryz.ntmps73
 go_wp2_with (go_at_call 108;refine f0.mono ?_)
 rintro e W1 ⟨rfl,b1⟩
 have h1:Bld w.heap.size [] W1:=h0.below b1;have b01:Below w.heap.size w W1:=b0.trans (b1.mono b0.size);clear f0 h0 b0 b1;have cw:=ws [] (kt++[10]) W1 h1 b01.size (by simp;omega)
 go_wp2_with fail
 rw [show(⟨kt.toArray⟩:ByteArray)++⟨#[10]⟩=⟨(kt++[10]).toArray⟩ from zF4 kt [10]]
 refine cw.mono ?_
 rintro e W2 ⟨rfl,h2,b2⟩
 have b02:Below w.heap.size w W2:=b01.trans b2;rw [List.nil_append,←g_0]at h2
 clear cw b2 b01 h1;have c1':W2.cell? ⟨pb,po+1,none⟩=some (.slice (some ⟨gb,g0,none⟩) n gc):=(b02.cell (p:=⟨pb,po+1,none⟩) hlt).trans c1
 go_wp2
 go_loopw [21] (fun i wr=>∃q:Nat,q≤n∧i=.int .i64 q∧Bld w.heap.size (gT q) wr∧Below w.heap.size w wr) (fun i _=>n-(intOf i).toNat)
 case atStart=>exact⟨0,Nat.zero_le _,rfl,h2,b02⟩
 case round=>
  obtain⟨q,hq,rfl,hB,hb⟩:=hrel;clear c1' h2 b02
  by_cases hqn:q<n
  ·have c1r:wr.cell? ⟨pb,po+1,none⟩=some (.slice (some ⟨gb,g0,none⟩) n gc):=(hb.cell (p:=⟨pb,po+1,none⟩) hlt).trans c1
   have fT:=hT q hqn wr hb;unfold Says at fT
   go_wp2_with fail
   refine fT.mono ?_
   rintro e W3 ⟨rfl,b3⟩
   have h3:Bld w.heap.size (gT q) W3:=hB.below b3;have b03:Below w.heap.size w W3:=hb.trans (b3.mono hb.size);have gq:=gl q (by omega)
   have tq:=hTl q hqn;have cw:=ws (gT q) (T q++[10]) W3 h3 b03.size (by simp;omega)
   clear fT b3 hB hb
   go_wp2_with fail
   rw [show(⟨(T q).toArray⟩:ByteArray)++⟨#[10]⟩=⟨(T q++[10]).toArray⟩ from zF4 (T q) [10]]
   refine cw.mono ?_
   rintro e W4 ⟨rfl,h4,b4⟩
   rw [←g_s]at h4
   have b04:=b03.trans b4;clear cw b4 b03 h3
   go_wp2
   go_roundw
   case rel=>exact⟨q+1,by omega,by go_num,h4,b04⟩
   case measure=>simp [intOf];omega
  ·obtain rfl:q=n:=by omega
   have c2r:wr.cell? ⟨pb,po+2,none⟩=some (.slice lp L.length lc):=(hb.cell (p:=⟨pb,po+2,none⟩) hlt).trans c2;have gq:=gl q (Nat.le_refl _);have liL:∀i,i≤32→(liT (gT q) L i).length≤(gT q).length+1200*i∧∀j,j≤128→(enT (liT (gT q) L i++[58]) (L.getD i []) j).length≤(gT q).length+1200*i+1+9*j:=by
    have en:∀q x j,(∀z,-1000000≤at_ x z∧at_ x z≤1000000)→(enT q x j).length≤q.length+9*j:=fun q x j hx=>by
     induction j with
     | zero=>simp [enT]
     | succ j ih=>have:=hFl _ (hx j).1 (hx j).2;rw [enT];simp only [List.length_append,List.length_singleton];omega
    have li:∀i,i≤32→(liT (gT q) L i).length≤(gT q).length+1200*i:=fun i=>by
     induction i with
     | zero=>intro _;simp [liT]
     | succ i ih=>
      intro hi
      have:=ih (by omega)
      have e2:=en (liT (gT q) L i++[58]) (L.getD i []) (L.getD i []).length (hLv i)
      have:=hLe i
      rw [liT];simp only [List.length_append,List.length_singleton]at e2 ⊢
      omega
    intro i hi;refine⟨li i hi,fun j hj=>?_⟩
    have e1:=li i hi;have e2:=en (liT (gT q) L i++[58]) (L.getD i []) j (hLv i);simp only [List.length_append,List.length_singleton]at e2
    omega
   go_wp2_with fail
   clear c2r c2 c1 c0 hT;have hll:(intOf (.int .i64 (L.length:Int))).toNat=L.length:=by simp [intOf]
   go_loopw [39] (fun i wr=>∃q2:Nat,q2≤L.length∧i=.int .i64 q2∧Bld w.heap.size (liT (gT q) L q2) wr∧Below w.heap.size w wr) (fun i _=>L.length-(intOf i).toNat)
   case atStart=>exact⟨0,Nat.zero_le _,rfl,hB,hb⟩
   case round=>
    clear hB hb;obtain⟨i,hi,rfl,hB,hb⟩:=hrel
    by_cases hil:i<L.length
    ·obtain⟨lb,l0,rfl,xp,xc,cx,hlb,hx⟩:=hL i hil
     have cx':wr.cell? ⟨lb,l0+i,none⟩=some (.slice xp (L.getD i []).length xc):=(hb.cell (p:=⟨lb,l0+i,none⟩) hlb).trans cx;have li0:=(liL i (by omega)).1
     have liJ:=(liL i (by omega)).2
     have le:=hLe i;have hLvi:=hLv i;have hAt:∀j,∃z,z=at_ (L.getD i []) j:=fun j=>⟨_,rfl⟩
     obtain⟨X,hX⟩:∃X,X=L.getD i []:=⟨_,rfl⟩
     rw [←hX]at cx' hx le hLvi liJ
     have HX:Hid (X=L.getD i []):=Lib.hid hX;clear hX hAt cx hL hLe hLv;have cw:=ws (liT (gT q) L i) [58] wr hB hb.size (by simp;omega)
     go_wp2_with fail
     refine cw.mono ?_
     rintro e W5 ⟨rfl,h5,b5⟩
     have b05:Below w.heap.size w W5:=hb.trans b5;clear cw b5 hb hB cx'
     go_wp2_with fail
     go_loopw [46] (fun v wr=>∃j:Nat,j≤X.length∧v=.int .i64 j∧Bld w.heap.size (enT (liT (gT q) L i++[58]) X j) wr∧Below w.heap.size w wr) (fun v _=>X.length-(intOf v).toNat)
     case atStart=>exact⟨0,Nat.zero_le _,rfl,h5,b05⟩
     case round=>
      clear h5 b05;obtain⟨j,hj,rfl,hB,hb⟩:=hrel;have ll:=liJ j (by omega)
      by_cases hjl:j<X.length
      ·obtain⟨xb,x0,rfl,hxb,cy⟩:=hx j hjl
       have cy':wr.cell? ⟨xb,x0+j,none⟩=some (.int .i64 (at_ X j)):=(hb.cell (p:=⟨xb,x0+j,none⟩) hxb).trans cy;have lv:=hLvi j;obtain⟨z,hz⟩:∃z,z=at_ X j:=⟨_,rfl⟩
       rw [←hz]at cy' lv
       have HZ:Hid (z=at_ X j):=Lib.hid hz;clear hz cy;have fz:=hF _ lv.1 lv.2 wr hb;have fl:=hFl _ lv.1 lv.2;unfold Says at fz
       obtain⟨kt2,hkt2⟩:∃kt2,kt2=Lib.itoa z:=⟨_,rfl⟩
       rw [←hkt2]at fz fl
       have HK:Hid (kt2=Lib.itoa z):=Lib.hid hkt2;clear hkt2
       go_wp2_with fail
       refine fz.mono ?_
       rintro e W6 ⟨rfl,b6⟩
       have h6:=hB.below b6;have b06:Below w.heap.size w W6:=hb.trans (b6.mono hb.size);clear fz b6 hb hB cy';have cw:=ws (enT (liT (gT q) L i++[58]) X j) ([32]++kt2) W6 h6 b06.size (by simp only [List.length_append,List.length_singleton];omega)
       go_wp2_with fail
       rw [show(⟨#[32]⟩:ByteArray)++⟨kt2.toArray⟩=⟨([32]++kt2).toArray⟩ from zF4 [32] kt2]
       refine cw.mono ?_
       rintro e W7 ⟨rfl,h7,b7⟩
       have b07:Below w.heap.size w W7:=b06.trans b7;rw [←List.append_assoc,(show kt2=_ from HK),(show z=_ from HZ)]at h7
       clear cw b7 b06 h6
       go_wp2
       go_roundw
       case rel=>exact⟨j+1,by omega,by go_num,h7,b07⟩
       case measure=>simp [intOf];omega
      ·obtain rfl:j=X.length:=by omega
       have cw:=ws _ [10] wr hB hb.size (by simp only [List.length_append,List.length_singleton];omega)
       go_wp2_with fail
       refine cw.mono ?_
       rintro e W7 ⟨rfl,h7,b7⟩
       have b07:Below w.heap.size w W7:=hb.trans b7;clear cw b7 hb hB
       go_wp2
       go_roundw
       case rel=>exact⟨i+1,by omega,by go_num,by rw [liT,←(show X=_ from HX)];exact h7,b07⟩
       case measure=>simp [intOf];omega
    ·obtain rfl:i=L.length:=by omega
     have sw:=Tryz.String_f w.heap.size w.heap.size (liT (gT q) L L.length) wr hB hb.size
     go_wp2_with fail
     refine sw.mono ?_
     rintro e W5 ⟨rfl,h5,b5⟩
     have b05:Below w.heap.size w W5:=hb.trans b5;clear sw b5 hb hB
     go_wp2_with fail
     go_ret
     exact⟨rfl,b05⟩
end
section
open Go.Ab Go.Lie Go.Grp
variable {σ:PHeap} {K:PV→PHeap→Prop} {B s:Nat} {w0 w:World} {j:Inj} {h:AHeap} {ι:Nat→Nat} {Z:Nat→Prop} {vO vP vC v vG vL:PV} {O:List Int} {P:List (List Int)} {C:List (List (List Int))}
theorem zNV (hp:zK O P C):(prT O P C).length≤3000:=by
 have sh:=hp.shp;have hn6:=sh.le;have hpl:=sh.pl;have hcl:=sh.cl;have ent:∀{k:Nat} {y:List Int},TT O k y→∀a∈y,0≤a∧a≤7:=fun {k y} h a ha=>by
  obtain⟨j,hj,rfl⟩:=List.mem_iff_getElem.1 ha;have b:=h.bd j (by have:=h.len;omega)
  rw [at_eq hj]at b
  have o:=sh.pr j (by have:=h.len;omega)
  omega
 have one:∀{k:Nat} {y:List Int},TT O k y→(wordB (Mx.nw y)).length≤43:=fun h=>Zk (ZX (by have:=h.len;omega) (ent h)).1
 have nil:(wordB (Mx.nw [])).length≤43:=Zk (ZX (x:=[]) (by simp) (by simp)).1
 have hp:∀i,(wordB (Mx.nw (pvec P i))).length≤43:=fun i=>by
  rcases Nat.lt_or_ge i P.length with h|h
  ·exact one (sh.pw i (by omega))
  ·rw [show pvec P i=[] by unfold pvec;rw [List.getD_eq_getElem?_getD,List.getElem?_eq_none h];rfl];exact nil
 have hc:∀i j,(wordB (Mx.nw (cvec C i j))).length≤43:=fun i j=>by
  rcases Nat.lt_or_ge i C.length with h|h
  ·have hl:=sh.row i (by omega)
   rcases Nat.lt_or_ge (j-i-1) (C.getD i []).length with h2|h2
   ·have e:cvec C i j=cvec C i (i+1+(j-i-1)):=by unfold cvec;rw [show i+1+(j-i-1)-i-1=j-i-1 by omega]
    rw [e];exact one (sh.cj i (i+1+(j-i-1)) (by omega) (by omega))
   ·rw [show cvec C i j=[] by unfold cvec;rw [List.getD_eq_getElem?_getD,List.getElem?_eq_none h2];rfl];exact nil
  ·rw [show cvec C i j=[] by unfold cvec;rw [show C.getD i []=[] by rw [List.getD_eq_getElem?_getD,List.getElem?_eq_none h];rfl];rfl];exact nil
 have hdig:∀i,(Lib.decDigits (at_ O i).toNat).length≤6:=fun i=>by
  rcases Nat.lt_or_ge i O.length with h|h
  ·have:=sh.pr i h
   exact Nat.le_trans (Zi 0 _ (by omega)) (by omega)
  ·unfold at_
   rw [List.getD_eq_getElem?_getD,List.getElem?_eq_none h];exact Nat.le_trans (Zi 0 _ (by simp)) (by omega)
 unfold prT
 split
 ·simp
 ·have a1:=zDI hdig O.length
  have a2:=zDG (q:=ordT O O.length) hdig hp O.length;have a3:=zDU (q:=powT O P (ordT O O.length) O.length) hn6 hc O.length;omega
theorem zGL {b:Bool} {a:AV} {cv:Value} {len:Nat} {ws:List AV} (m:MR B w0 j h w) (v:VI j a cv) (f:FzAt Z h b a len ws):
  ∃p c,cv=.slice p len c∧(0<len→ws≠[]→∃blk o,p=some ⟨blk,o,none⟩∧blk<w.heap.size∧(∀i x,ws[i]? = some x→∃cx,w.cell? ⟨blk,o+i,none⟩=some cx∧VI j x cx)∧
   ∀i,i≤ws.length→∃a',VI j a' (.pointer (some ⟨blk,o+i,none⟩))∧FpAt Z h a' (ws.drop i)):=by
 rcases f with ⟨rfl,rfl,rfl⟩|⟨o,off,cap,rfl,hz,hr,hcap,_⟩
 ·exact⟨none,0,v,fun h=>absurd h (by omega)⟩
 ·obtain⟨lo,p,c,hj,e,hp⟩:∃lo p c,j o=some lo∧cv=.slice p len c∧(0<len→p=some ⟨lo.blk,lo.base+off,none⟩):=by
   cases cap with
   | known c=>
    obtain⟨lo,a,hj,e,ha⟩:=v;refine⟨lo,_,_,hj,e,fun h=>?_⟩
    rcases ha with rfl|⟨_,e0⟩
    ·rfl
    ·omega
   | grown e=>
    obtain⟨lo,c,f,hj,e1,hle,hf,_⟩:=v;refine⟨lo,_,_,hj,e1,fun h=>?_⟩
    rcases hf with rfl|⟨e0,_⟩
    ·rfl
    ·omega
  refine⟨p,c,e,fun hl hne=>⟨lo.blk,lo.base+off,hp hl,?_⟩⟩
  have hr:=hr.resolve_left hne;obtain⟨ob,ho,hle,hws⟩:=AHeap.rd_some hr;obtain⟨cur,ty,fz,r1,r2,r3,r4⟩:=(m.obj _ _ _ ho hj).row;refine⟨(Array.getElem?_eq_some_iff.1 r1).1,fun i x hx=>?_,fun i hi=>⟨.ptr o (off+i),⟨lo,hj,by rw [Nat.add_assoc]⟩,rfl,.inr ⟨o,off+i,rfl,hz,?_⟩⟩⟩
  ·have hil:i<ws.length:=(List.getElem?_eq_some_iff.1 hx).1
   have:ob.cells[off+i]? = some x:=by
    rw [hws,List.getElem?_take,if_pos (by omega),List.getElem?_drop]at hx
    exact hx
   obtain⟨cx,c1,c2⟩:=r2 _ _ this;exact⟨cx,by rw [Lib.cell_of_heap r1,Nat.add_assoc];exact c1,c2⟩
  ·rw [List.length_drop,zBE hr (a:=i) (b:=ws.length-i) (by omega),List.take_of_length_le (by rw [List.length_drop];omega)]
theorem zDt (cs:List PV):looses cs=cs.map loose:=by
 induction cs with
 | nil=>rfl
 | cons c cs ih=>rw [looses,ih];rfl
theorem zIp (l:List Int):looses (pis l)=pis l:=by
 induction l with
 | nil=>rfl
 | cons c cs ih=>exact congrArg (PV.int .i64 c::·) ih
theorem zDa {v:PV} {xs:List Int} (h:FI v xs):FI (Ab.loose v) xs:=by
 obtain⟨w,a,rfl⟩:=h;exact⟨false,a,by rw [Ab.loose,zIp]⟩
theorem zDZ {α:Type} {R:PV→α→Prop} (hR:∀v x,R v x→R (Ab.loose v) x) {v:PV} {xs:List α} (h:FL R v xs):FL R (Ab.loose v) xs:=by
 obtain⟨w,a,rows,rfl,h1,h2⟩:=h;refine⟨false,a,looses rows,rfl,by rw [zDt,List.length_map,h1],fun k x y hx hy=>?_⟩
 rw [zDt,List.getElem?_map,Option.map_eq_some_iff]at hx
 obtain⟨x0,hx0,rfl⟩:=hx;exact hR _ _ (h2 k _ _ hx0 hy)
theorem zJS (h:IsPr vO vP vC O P C):IsPr (Ab.loose vO) (Ab.loose vP) (Ab.loose vC) O P C:=
 ⟨zDa h.O,zDZ (fun _ _ h=>zDa h) h.P,zDZ (fun _ _ h=>zDZ (fun _ _ h=>zDa h) h) h.C⟩
theorem zMC {z:Int} (h1:-1000000≤z) (h2:z≤1000000):(Lib.itoa z).length≤8:=by
 unfold Lib.itoa
 split
 ·have:=Zi 6 z.natAbs (by omega)
  simp only [List.length_cons];omega
 ·have:=Zi 6 z.toNat (by omega)
  omega
theorem zKj:∀{rows:List (PV×PV×PV)} {k:Nat} (hk:k<rows.length),∃rest,(fl3 rows).drop (k*3)=rows[k].1::rows[k].2.1::rows[k].2.2::rest
 | q::r,0,_=>⟨_,rfl⟩
 | q::r,k+1,hk=>by
  rw [show(k+1)*3=k*3+1+1+1 by omega]
  simp only [fl3,List.drop_succ_cons,List.getElem_cons_succ];exact zKj (rows:=r) (by simpa using hk)
theorem grT_s (q:List UInt8) (G:List Pre) (i:Nat):grT q G (i+1)=grT q G i++(prT (G.getD i ([],[],[])).1 (G.getD i ([],[],[])).2.1 (G.getD i ([],[],[])).2.2++[10]):=by rw [grT,List.append_assoc]
theorem zCI {k:Int} {G:List Pre} {L:List (List Int)} (ho:σ.obj s=some [.int .i64 k,vG,vL]) (hG:FG vG G) (hL:FII vL L) (hc:qR k G L) (hk:K (.str (certT k G L)) σ):zA Tryz.prog 73 [.ptr s 0] σ K:=by
 obtain⟨wG,aG,rG,rfl,hrG⟩:=hG;obtain⟨wL,aL,rL,rfl,hrL⟩:=hL;obtain⟨c1,c2,c3,c4⟩:=hc;have hk6:1≤k∧k≤6:=by
  unfold need at c1
  by_cases h5:k=5
  ·omega
  by_cases h4:k=4
  ·omega
  rw [if_neg h5,if_neg h4]at c1
  split at c1<;>omega
 have hG3:G.length≤3∧0<G.length:=by
  unfold need at c1
  by_cases h5:k=5
  ·rw [if_pos h5]at c1;omega
  by_cases h4:k=4
  ·rw [if_neg h5,if_pos h4]at c1;omega
  ·rw [if_neg h5,if_neg h4,if_pos hk6]at c1;omega
 refine zA.quietS (q:=certT k G L) (fun ι Z h r va B w0 j w cargs m vi=>?_) hk
 obtain⟨cv,_,rfl,⟨lo,hj,rfl⟩,rfl⟩:=vi;obtain⟨q1,⟨_,⟨q2,q2s⟩,⟨q3,q3s⟩,_⟩,q4⟩:=r.obj s _ ho;obtain⟨cur,ty,fz,r1,r2,r3,r4⟩:=(m.obj _ _ _ q1 hj).row;obtain⟨_,e0,rfl⟩:=r2 0 _ rfl;obtain⟨cG,e1,vG⟩:=r2 1 _ rfl;obtain⟨cL,e2,vL⟩:=r2 2 _ rfl;obtain⟨pG,gc,rfl,gM⟩:=zGL m vG q2;have hrl:rG.length=G.length:=hrG.1;obtain⟨gb,g0,rfl,gbl,gM,gP⟩:=gM hG3.2 (fun e=>by
  have:=congrArg List.length e
  rw [qf,List.length_map,ZZ]at this
  simp at this;omega)
 have LL:LiAt w cL L:=by
  obtain⟨pL,lc,rfl,lM⟩:=zGL m vL q3;refine⟨pL,lc,rfl,fun i hi=>?_⟩
  have hir:i<rL.length:=by rw [hrL.1];exact hi
  obtain⟨lb,l0,rfl,lbl,lM,_⟩:=lM (by omega) (fun e=>by
   have:=congrArg List.length e
   simp only [qf,List.length_map,List.length_nil]at this
   omega)
  obtain⟨wx,ax,ex⟩:FI rL[i] L[i]:=hrL.2 i _ _ (List.getElem?_eq_getElem hir) (List.getElem?_eq_getElem hi);obtain⟨cx,c1,c2⟩:=lM i ax (by rw [qf,List.getElem?_map,List.getElem?_eq_getElem hir,ex];rfl)
  have hv:VOK Z h 0 rL[i]:=ZH.1 q3s _ (List.getElem_mem hir);rw [ex]at hv
  obtain⟨px,xc,rfl,xM⟩:=zGL m c2 hv.1;have ge:L.getD i []=L[i]:=by rw [List.getD_eq_getElem?_getD,List.getElem?_eq_getElem hi];rfl
  rw [ge];refine⟨lb,l0,rfl,px,xc,c1,lbl,fun j hj=>?_⟩
  obtain⟨xb,x0,rfl,xbl,xM,_⟩:=xM (by omega) (fun e=>by
   have:=congrArg List.length e
   simp only [qf,List.length_map,pis,List.length_nil]at this
   omega)
  obtain⟨cy,y1,rfl⟩:=xM j (.int .i64 (at_ L[i] j)) (by rw [qf,List.getElem?_map,qM,gi hj,at_eq hj];rfl)
  exact⟨xb,x0,rfl,xbl,y1⟩
 have bd:∀x,x∈L→∀j,-1000000≤at_ x j∧at_ x j≤1000000:=fun x hx j=>by
  rcases Nat.lt_or_ge j x.length with h|h
  ·rw [at_eq h];exact(c4 x hx).2 _ (List.getElem_mem h)
  ·unfold at_;rw [List.getD_eq_getElem?_getD,List.getElem?_eq_none h];simp
 have:=zJG k G.length lo.blk lo.base gb g0 gc cL w (fun i=>prT (G.getD i ([],[],[])).1 (G.getD i ([],[],[])).2.1 (G.getD i ([],[],[])).2.2) (grT (Lib.itoa k++[10]) G) L
  (by rw [Lib.cell_of_heap r1];exact e0) (by rw [Lib.cell_of_heap r1];exact e1) (by rw [Lib.cell_of_heap r1];exact e2) hG3.1
  (fun z z1 z2 W hb=>(Tryz.strconv_FormatInt_10 z (by omega) (by omega) W (zJc (m.quiet hb))).mono fun e w' ⟨he,k,os,hw⟩=>⟨he,hw ▸ Go.Lib.below_grow _ W (Nat.le_refl _) k os⟩)
  (fun z z1 z2=>zMC z1 z2) (by omega) (by omega) (fun i hi W hb=>?_) (fun i hi=>?_) rfl (grT_s _ _) LL c2 (fun i=>?_) (fun i j=>?_)
 ·exact this
 ·have hkr:i<rG.length:=by omega
  obtain⟨rest,er⟩:=zKj hkr;obtain⟨a',va',fa'⟩:=gP (i*3) (by rw [qf,List.length_map,ZZ];omega)
  have hp:IsPr rG[i].1 rG[i].2.1 rG[i].2.2 G[i].1 G[i].2.1 G[i].2.2:=hrG.2 i _ _ (List.getElem?_eq_getElem hkr) (List.getElem?_eq_getElem hi);have ge:G.getD i ([],[],[])=G[i]:=by rw [List.getD_eq_getElem?_getD,List.getElem?_eq_getElem hi];rfl
  rw [ge];rw [qf,←List.map_drop,er,←qf]at fa'
  have vv:VOKs Z h 0 ((fl3 rG).drop (i*3)):=ZH.2 fun c hc=>ZH.1 q2s c (List.mem_of_mem_drop hc)
  rw [er]at vv
  refine zA.quietC (args:=[.fp a' (rG[i].1::rG[i].2.1::rG[i].2.2::rest)]) (Zq (zJS hp) (c3 _ (List.getElem_mem hi)) rfl) r ⟨⟨fa',vv⟩,trivial⟩ (m.quiet hb) ⟨_,_,rfl,va',rfl⟩
 ·have ge:G.getD i ([],[],[])=G[i]:=by rw [List.getD_eq_getElem?_getD,List.getElem?_eq_getElem hi];rfl
  rw [ge];exact zNV (c3 _ (List.getElem_mem hi))
 ·rcases Nat.lt_or_ge i L.length with h | h
  ·rw [List.getD_eq_getElem?_getD,List.getElem?_eq_getElem h];exact(c4 _ (List.getElem_mem h)).1
  ·rw [List.getD_eq_getElem?_getD,List.getElem?_eq_none h];simp
 ·rcases Nat.lt_or_ge i L.length with h | h
  ·rw [List.getD_eq_getElem?_getD,List.getElem?_eq_getElem h];exact bd _ (List.getElem_mem h) j
  ·rw [List.getD_eq_getElem?_getD,List.getElem?_eq_none h];unfold at_;simp
end
end Go.Proofs
namespace Go.Grp
end Go.Grp
set_option linter.unusedSimpArgs false
set_option linter.unusedVariables false
set_option linter.unusedSectionVars false
namespace Go.Proofs
open Go.Ab Go.Lie Go.Grp
variable {σ σ0 h h':PHeap} {K:PV→PHeap→Prop} {b k nP nC r s0 i j n:Nat} {v vO vP vC c vX vS vL vM:PV} {x O xs bs:List Int} {P M:List (List Int)} {C:List (List (List Int))} {cs:List PV} {s t:List UInt8}
theorem PSl.fin_tf {t:Bool} (kk:Keep σ h) (pa:PSl σ.next 1 h v x.length (pis x)) (hk:∀u,FI u x→K (.tup [u,.bool t]) σ):Gh σ K (.tup [v,.bool t]) h:=by
 obtain⟨s,cap,rfl,q1,q2,q3,q4,q5⟩:=pa;have e:(TR.tup [TR.row s cap x,.leaf (.bool t)]).pv=.tup [.sl s 0 x.length cap,.bool t]:=by simp only [TR.pv,TR.pvs,TR.row_pv]
 rw [←e];refine Gh.treeF kk (zDf ⟨TR.row_ok q1 q2 q4 q5,trivial,trivial⟩) fun a=>?_
 have:=hk ((TR.row s cap x).fz a) TR.row_FI
 simpa only [TR.fz,TR.fzs]using this
theorem zOr (kk:Keep σ h) (hk:∀u,FI u []→K (.tup [u,.bool false]) σ):Gh σ K (.tup [.fz true .nils 0 [],.bool false]) h:=by
 have e:(TR.tup [TR.nil,.leaf (.bool false)]).pv=.tup [.fz true .nils 0 [],.bool false]:=by simp only [TR.pv,TR.pvs]
 rw [←e];refine Gh.treeF kk ⟨trivial,trivial,trivial⟩ fun a=>?_
 have:=hk (.fz true .nils 0 []) ⟨true,.nils,rfl⟩
 simpa only [TR.fz,TR.fzs]using this
end Go.Proofs
namespace Go.Grp
end Go.Grp
set_option linter.unusedSimpArgs false
set_option linter.unusedVariables false
set_option linter.unusedSectionVars false
namespace Go.Proofs
open Go.Ab Go.Lie Go.Grp
variable {σ σ0 h h':PHeap} {K:PV→PHeap→Prop} {b k nP nC r s0 i j n:Nat} {L L':Nat→Nat} {Q Q':Nat→Prop} {len:Nat→Nat} {v vO vP vC c vX vS vL vM:PV} {x O xs bs:List Int} {P M:List (List Int)} {C:List (List (List Int))} {cs:List PV} {s t:List UInt8}
theorem Fm.sz {N:Nat} (a:Fm N O P C) (hN:N≤1000):SzP O P C:=by
 have n:=a.n;have q:=a.q;refine⟨by omega,⟨by rw [q.pl];omega,fun r hr=>by have:=q.pq r hr;omega⟩,⟨by rw [q.cl];omega,fun w hw=>⟨?_,fun r hr=>by have:=q.cq w hw r hr;omega⟩⟩⟩
 obtain⟨i,hi,rfl⟩:=List.mem_iff_getElem.1 hw
 have:=q.row i (by rw [←q.cl];exact hi)
 rw [List.getD_eq_getElem?_getD,List.getElem?_eq_getElem hi]at this
 have e:C[i].length=O.length-1-i:=this;omega
end Go.Proofs
namespace Go.Grp
end Go.Grp
set_option linter.unusedSimpArgs false
set_option linter.unusedVariables false
set_option linter.unusedSectionVars false
namespace Go.Proofs
open Go.Ab Go.Lie Go.Grp
variable {σ σ0 h h':PHeap} {K:PV→PHeap→Prop} {b k nP nC r s0 i j n:Nat} {v vO vP vC c vX vS vL vM:PV} {x O xs bs:List Int} {P M:List (List Int)} {C:List (List (List Int))} {cs:List PV} {s t:List UInt8}
def vlL:Int→List UInt8→Int
 | y,[]=>y
 | y,c::r=>if c.toNat<48∨57<c.toNat then -1 else vlL (10*y+((c.toNat:Int)-48)) r
def vlF (s:List UInt8):Int:=if s.length=0∨6<s.length∨(1<s.length∧s.head? = some 48)then -1 else vlL 0 s
theorem drop_at {α:Type} {l:List α} {i:Nat} (h:i<l.length):l.drop i=l[i]::l.drop (i+1):=by simp
theorem QU (hs:s.length≤1048576) (hk:K (.int .i64 (vlF s)) σ):zA Tryz.prog 42 [.str s] σ K:=by
 have bad:vlF s=-1→K (.int .i64 (-1)) σ:=fun e=>by rw [←e];exact hk
 refine zS mix Tryz.func42 ?_
 by_cases h0:s.length=0
 ·have d1:((s.length:Nat):Int)=0:=by omega
  simp only [pwA,seval,-iQ0,d1];exact bad (if_pos (.inl h0))
 have d1:¬((s.length:Nat):Int)=0:=by omega
 by_cases h6:6<s.length
 ·have d2:(6:Int)<((s.length:Nat):Int):=by omega
  simp only [pwA,seval,-iQ0,d1,d2];exact bad (if_pos (.inr (.inl h6)))
 have d2:¬(6:Int)<((s.length:Nat):Int):=by omega
 have hl:0<s.length:=by omega
 have hd:s.head? = some s[0]:=by rw [List.head?_eq_getElem?,List.getElem?_eq_getElem hl]
 by_cases h1:1<s.length∧s[0].toNat=48
 ·have d3:(1:Int)<((s.length:Nat):Int):=by omega
  have d4:((s[0].toNat:Nat):Int)=48:=by omega
  simp only [pwA,seval,-iQ0,d1,d2,d3,Int.toNat_zero,List.getElem?_eq_getElem hl,d4];exact bad (if_pos (.inr (.inr ⟨h1.1,by rw [hd];exact congrArg some (UInt8.toNat_inj.1 h1.2)⟩)))
 have ev:vlF s=vlL 0 s:=if_neg (by
  rintro (e | e | ⟨e1,e2⟩)
  ·exact h0 e
  ·exact h6 e
  ·rw [hd]at e2;exact h1 ⟨e1,by rw [Option.some.inj e2];rfl⟩)
 rw [ev]at hk bad
 by_cases h3:1<s.length
 case' pos=>
  have d3:(1:Int)<((s.length:Nat):Int):=by omega
  have d4:¬((s[0].toNat:Nat):Int)=48:=by omega
  simp only [pwA,seval,-iQ0,d1,d2,d3,Int.toNat_zero,List.getElem?_eq_getElem hl,d4]
 case' neg=>
  have d3:¬(1:Int)<((s.length:Nat):Int):=by omega
  simp only [pwA,seval,-iQ0,d1,d2,d3]
 all_goals
  refine zB (fun m vs h=>∃(i:Nat) (y:Int),i≤s.length∧m=s.length-i∧vs=[.str s,.int .i64 y,.int .i64 i]∧0≤y∧y<10 ^ i∧vlL y (s.drop i)=vlL 0 s∧h=σ) s.length ?_ ?_
  ·exact⟨0,0,Nat.zero_le _,rfl,rfl,by decide,by decide,rfl,rfl⟩
  rintro m vs h ⟨i,y,hi,rfl,rfl,y0,y1,ey,rfl⟩
  have hp:∀k:Nat,k≤6→(10:Int) ^ k≤1000000:=fun k hk'=>by
   have:k=0∨k=1∨k=2∨k=3∨k=4∨k=5∨k=6:=by omega
   rcases this with rfl|rfl|rfl|rfl|rfl|rfl|rfl<;>decide
  have hpi:=hp i (by omega)
  simp only [pwA,seval,-iQ0];refine iteI (fun hlt=>?_) fun hge=>?_
  rotate_left
  ·rw [List.drop_of_length_le (by omega)]at ey
   rw [show y=vlL 0 s from ey];exact hk
  rw [drop_at hlt,vlL]at ey
  have gs:s[i]? = some s[i]:=List.getElem?_eq_getElem hlt
  by_cases c1:s[i].toNat<48
  ·have d5:((s[i].toNat:Nat):Int)<48:=by omega
   simp only [pwA,seval,-iQ0,Int.toNat_natCast,gs,d5];rw [if_pos (.inl c1)]at ey
   exact bad ey.symm
  have d5:¬((s[i].toNat:Nat):Int)<48:=by omega
  by_cases c2:57<s[i].toNat
  ·have d6:(57:Int)<((s[i].toNat:Nat):Int):=by omega
   simp only [pwA,seval,-iQ0,Int.toNat_natCast,gs,d5,d6];rw [if_pos (.inr c2)]at ey
   exact bad ey.symm
  have d6:¬(57:Int)<((s[i].toNat:Nat):Int):=by omega
  rw [if_neg (by omega)]at ey
  have w1:IntKind.u8.wrap ((s[i].toNat:Int)-48)=(s[i].toNat:Int)-48:=by
   exact zAQ (by omega) (by omega)
  have w2:IntKind.i64.wrap ((s[i].toNat:Int)-48)=(s[i].toNat:Int)-48:=wrap64 (by omega) (by omega)
  have w3:IntKind.i64.wrap (10*y)=10*y:=wrap64 (by omega) (by omega)
  have w4:IntKind.i64.wrap (10*y+((s[i].toNat:Int)-48))=10*y+((s[i].toNat:Int)-48):=wrap64 (by omega) (by omega)
  simp only [pwA,seval,-iQ0,Int.toNat_natCast,gs,d5,d6,w1,w2,w3,w4,wrapS hlt (by omega:s.length≤4611686018427387904)]
  exact⟨_,by omega,i+1,_,by omega,rfl,rfl,by omega,by rw [Int.pow_succ];omega,ey⟩
def spF (c:Int):List UInt8→List UInt8→List (List UInt8)
 | cur,[]=>[cur]
 | cur,x::r=>if ((x.toNat:Nat):Int)=c then cur::spF c [] r else spF c (cur++[x]) r
theorem zAJ (c:Int):∀(s cur:List UInt8),1≤(spF c cur s).length∧(spF c cur s).length≤s.length+1
 | [],cur=>⟨Nat.le_refl _,Nat.le_refl _⟩
 | x::r,cur=>by
  unfold spF
  split
  ·have:=zAJ c r [];simp only [List.length_cons];omega
  ·have:=zAJ c r (cur++[x]);simp only [List.length_cons];omega
theorem zNT (l:List (List UInt8)) (b:Nat):Bels b (pst l):=zBi.2 fun c hc=>by obtain⟨q,_,rfl⟩:=List.mem_map.1 hc;trivial
theorem qw {l:List (List UInt8)} {i:Nat} (h:i<l.length):(pst l)[i]? = some (.str l[i]):=by rw [pst,List.getElem?_map,List.getElem?_eq_getElem h];rfl
theorem zFl (l:List (List UInt8)) (q:List UInt8):pst (l++[q])=pst l++[.str q]:=by simp [pst]
theorem QW {c:Int} (hs:s.length≤1048576) (hk:∀a,K (.fz true a (spF c [] s).length (pst (spF c [] s))) σ):zA Tryz.prog 41 [.str s,.int .u8 c] σ K:=by
 refine zA.gh ?_;refine zt mix Tryz.func41 cf41 rfl ?_;dsimp only [if41,qI,eI,mI0,kI0,bI0,cI0,zI0,R0,S0];simp only [pwA,seval,-iQ0];refine zB (fun m vs h=>∃(i st:Nat) (v:PV) (l:List (List UInt8)),i≤s.length∧st≤i∧m=s.length-i∧vs=[.str s,.int .u8 c,v,.int .i64 st,.int .i64 i]∧l.length≤i∧l++spF c ((s.take i).drop st) (s.drop i)=spF c [] s∧Keep σ h∧PSl σ.next 1 h v l.length (pst l)) s.length ?_ ?_
 ·exact⟨0,0,_,[],Nat.zero_le _,Nat.le_refl _,rfl,rfl,Nat.zero_le _,rfl,zD _ _,PSl.new _ 1 rfl (Nat.le_refl _)⟩
 rintro m vs h ⟨i,st,v,l,hi,hst,rfl,rfl,hcl,el,kk,pa⟩
 have h1:=pa.one;simp only [pwA,seval,-iQ0,h1];refine iteI (fun hlt=>?_) fun hge=>?_
 ·have gs:s[i]? = some s[i]:=List.getElem?_eq_getElem hlt
  have wi:IntKind.i64.wrap ((i:Int)+1)=((i+1:Nat):Int):=by rw [wrap64 (by omega) (by omega)];omega
  simp only [pwA,seval,-iQ0,gs,h1];rw [drop_at hlt,spF]at el
  by_cases he:((s[i].toNat:Nat):Int)=c
  ·have b1:((i:Int)≤(s.length:Int))=True:=by simp;omega
   have b2:((st:Int)≤(i:Int))=True:=by simp;omega
   simp only [pwA,seval,-iQ0,he,b1,b2,h1,hi,hst];refine PSl.push (σb:=σ) (bytes:=16) kk pa (by omega) (by omega) fun v2 h2 k2 a2=>?_
   have h3:=a2.one;simp only [pwA,seval,-iQ0,wi,h3];rw [if_pos he]at el
   refine⟨_,by omega,i+1,i+1,v2,l++[List.drop st (List.take i s)],by omega,Nat.le_refl _,rfl,rfl,by simp;omega,?_,k2,by rw [List.length_append,zFl];exact a2⟩
   rw [show List.drop (i+1) (List.take (i+1) s)=[] from List.drop_of_length_le (by rw [List.length_take];omega),List.append_assoc];exact el
  ·simp only [pwA,seval,-iQ0,he,wi,h1]
   rw [if_neg he]at el
   refine⟨_,by omega,i+1,st,v,l,by omega,by omega,rfl,rfl,by omega,?_,kk,pa⟩
   rw [List.take_succ_eq_append_getElem hlt,List.drop_append_of_le_length (by rw [List.length_take];omega)];exact el
 have b1:st≤s.length:=by omega
 simp only [pwA,seval,-iQ0,h1,b1,List.take_length];refine PSl.push (σb:=σ) (bytes:=16) kk pa (by omega) (by omega) fun v2 h2 k2 a2=>?_
 have h3:=a2.one;simp only [pwA,seval,-iQ0,h3];rw [List.take_of_length_le (by omega),List.drop_of_length_le (by omega:s.length≤i),spF]at el
 have e1:l.length+1=(spF c [] s).length:=by rw [←el];simp
 have e2:pst l++[.str (List.drop st s)]=pst (spF c [] s):=by rw [←el,zFl]
 rw [e1,e2]at a2
 exact a2.fin k2 (zNT _ 0) fun o cap=>hk _
end Go.Proofs
namespace Go.Grp
end Go.Grp
set_option linter.unusedSimpArgs false
set_option linter.unusedVariables false
set_option linter.unusedSectionVars false
namespace Go.Proofs
open Go.Ab Go.Lie Go.Grp
variable {σ σ0 h h':PHeap} {K:PV→PHeap→Prop} {b s t n k r s0 i j:Nat} {L L':Nat→Nat} {E:Nat→Prop} {v vO vP vC c:PV} {x O:List Int} {P M:List (List Int)} {C:List (List (List Int))} {cs:List PV}
section
variable {α:Type} {R R':Nat→PV→α→Prop} {xs:List α} {y:α}
def A2i (R:Nat→PV→α→Prop) (cs:List PV) (xs:List α):Prop:=cs.length=xs.length∧∀i c y,cs[i]? = some c→xs[i]? = some y→R i c y
theorem zBM:A2i R [] []:=⟨rfl,fun i c y hc=>by simp at hc⟩
theorem q8 (a:A2i R cs xs) (h:∀i c y,i<xs.length→R i c y→R' i c y):A2i R' cs xs:=⟨a.1,fun i c y hc hy=>h i c y (List.getElem?_eq_some_iff.1 hy).1 (a.2 i c y hc hy)⟩
theorem zBg (a:A2i R cs xs) (h:R xs.length c y):A2i R (cs++[c]) (xs++[y]):=by
 refine⟨by simp [a.1],fun i v z hv hy=>?_⟩
 rcases Nat.lt_or_ge i cs.length with hi|hi
 ·rw [List.getElem?_append_left hi]at hv
  rw [List.getElem?_append_left (by rw [←a.1];exact hi)]at hy
  exact a.2 i v z hv hy
 ·rw [List.getElem?_append_right hi]at hv
  rw [List.getElem?_append_right (by rw [←a.1];exact hi),←a.1]at hy
  rcases Nat.eq_zero_or_pos (i-cs.length)with e|e
  ·rw [e]at hv hy
   simp only [List.getElem?_cons_zero,Option.some.injEq]at hv hy
   rw [←hv,←hy,show i=xs.length by rw [←a.1];omega];exact h
  ·rw [List.getElem?_eq_none (by simp;omega)]at hv;cases hv
theorem zH8 (a:A2i R cs xs) (h:R i c y):A2i R (cs.set i c) (xs.set i y):=by
 refine⟨by simp [a.1],fun j v z hv hy=>?_⟩
 rw [List.getElem?_set]at hv hy
 by_cases e:i=j
 ·subst e
  have l:=a.1
  by_cases hl:i<cs.length
  ·rw [if_pos rfl,if_pos hl]at hv
   rw [if_pos rfl,if_pos (by omega)]at hy
   rw [←Option.some.inj hv,←Option.some.inj hy];exact h
  ·rw [if_pos rfl,if_neg hl]at hv;cases hv
 ·rw [if_neg e]at hv hy
  exact a.2 j v z hv hy
theorem zBf {S:PV→α→Prop} {m:Nat→Nat} (hm:∀i,m i≤m (i+1)) (hR:∀i c y,R i c y→∃t:TR,t.ok h b∧t.pv=c∧(∀aa,S (t.fz aa) y)∧t.slots.Nodup∧∀s∈t.slots,m i≤L s∧L s<m (i+1)):
  ∀{cs:List PV} {xs:List α} (k:Nat),A2i (fun i=>R (k+i)) cs xs→∃ts:List TR,TR.oks h b ts∧TR.pvs ts=cs∧(∀aa,All2 S (TR.fzs aa ts) xs)∧(TR.slotss ts).Nodup∧∀s∈TR.slotss ts,m k≤L s∧L s<m (k+xs.length)
 | [],xs,k,a=>by
  have:xs=[]:=List.length_eq_zero_iff.1 (by rw [←a.1];rfl)
  subst this;exact⟨[],trivial,rfl,fun _=>All2.nil _,List.nodup_nil,fun s hs=>by cases hs⟩
 | c::cs,[],k,a=>by have:=a.1;simp at this
 | c::cs,x::xs,k,a=>by
  obtain⟨t,h1,h2,h3,h4,h5⟩:=hR k c x (a.2 0 c x rfl rfl);obtain⟨ts,g1,g2,g3,g4,g5⟩:=zBf hm hR (cs:=cs) (xs:=xs) (k+1) ⟨by have:=a.1;simpa using this,fun i v y hv hy=>by
   have:=a.2 (i+1) v y (by simpa using hv) (by simpa using hy)
   show R (k+1+i) v y;rw [show k+1+i=k+(i+1) by omega];exact this⟩
  have mono:∀d i,m i≤m (i+d):=fun d i=>by
   induction d with
   | zero=>exact Nat.le_refl _
   | succ d ih=>exact Nat.le_trans ih (hm _)
  refine⟨t::ts,⟨h1,g1⟩,by simp only [TR.pvs,h2,g2],fun aa=>⟨by simp only [TR.fzs,List.length_cons,(g3 aa).1],fun i v y hv hy=>?_⟩,?_,fun s hs=>?_⟩
  ·cases i with
   | zero=>simp only [TR.fzs,List.getElem?_cons_zero,Option.some.injEq]at hv hy;rw [←hv,←hy];exact h3 aa
   | succ i=>simp only [TR.fzs,List.getElem?_cons_succ]at hv hy;exact(g3 aa).2 i v y hv hy
  ·rw [TR.slotss,List.nodup_append]
   exact⟨h4,g4,fun s hs s' hs' e=>by have q1:=h5 s hs;have q2:=g5 s' hs';rw [←e]at q2;omega⟩
  ·rw [TR.slotss,List.mem_append]at hs
   have e:k+(x::xs).length=k+1+xs.length:=by simp only [List.length_cons];omega
   rw [e];rcases hs with hs|hs
   ·have q1:=h5 s hs;have:=mono xs.length (k+1);omega
   ·have q1:=g5 s hs;have:=hm k;omega
end
def MX (L:Nat→Nat) (h:PHeap) (b k:Nat) (M:List (List Int)) (v:PV):Prop:=∃s cap cs,v=.sl s 0 M.length cap∧full 1 cap M.length∧h.obj s=some cs∧b≤s∧s<h.next∧L s=1000*k∧M.length≤999∧A2i (fun i c x=>RowX L h b (1000*k+1+i) x c) cs M
def MXN (L:Nat→Nat) (h:PHeap) (b k:Nat) (M:List (List Int)) (v:PV):Prop:=(M=[]∧v=.fz true .nils 0 [])∨MX L h b k M v
def TX (L:Nat→Nat) (h:PHeap) (b:Nat) (C:List (List (List Int))) (v:PV):Prop:=∃s cap cs,v=.sl s 0 C.length cap∧full 1 cap C.length∧h.obj s=some cs∧b≤s∧s<h.next∧L s=4∧A2i (fun i c M=>MXN L h b (10+i) M c) cs C
def TXN (L:Nat→Nat) (h:PHeap) (b:Nat) (C:List (List (List Int))) (v:PV):Prop:=(C=[]∧v=.fz true .nils 0 [])∨TX L h b C v
theorem MX.one (a:MX L h b k M v):v.one=true:=by obtain⟨s,cap,cs,rfl,_⟩:=a;rfl
theorem MX.cells (a:MX L h b k M v):v.cells=[v]:=by obtain⟨s,cap,cs,rfl,_⟩:=a;rfl
theorem MXN.one (a:MXN L h b k M v):v.one=true:=by rcases a with ⟨_,rfl⟩ | a;rfl;exact a.one
theorem MXN.cells (a:MXN L h b k M v):v.cells=[v]:=by rcases a with ⟨_,rfl⟩ | a;rfl;exact a.cells
theorem TXN.one (a:TXN L h b C v):v.one=true:=by rcases a with ⟨_,rfl⟩ | ⟨s,cap,cs,rfl,_⟩<;>rfl
theorem TXN.cells (a:TXN L h b C v):v.cells=[v]:=by rcases a with ⟨_,rfl⟩ | ⟨s,cap,cs,rfl,_⟩<;>rfl
theorem RowX.keepE (a:RowX L h b j x v) (hj:¬E j) (hn:h.next≤h'.next) (ho:∀t,b≤t→t<h.next→¬E (L t)→h'.obj t=h.obj t) (hL:∀t,t<h.next→¬E (L t)→L' t=L t):RowX L' h' b j x v:=by
 obtain⟨s,cap,rfl,h1,h2,h3,h4,h5⟩:=a;have hne:¬E (L s):=by rw [h5];exact hj
 exact⟨s,cap,rfl,h1,by rw [ho s h3 h4 hne];exact h2,h3,by omega,by rw [hL s h4 hne];exact h5⟩
theorem MX.keepE (a:MX L h b k M v) (hj:∀m,1000*k≤m→m<1000*(k+1)→¬E m) (hn:h.next≤h'.next) (ho:∀t,b≤t→t<h.next→¬E (L t)→h'.obj t=h.obj t) (hL:∀t,t<h.next→¬E (L t)→L' t=L t):MX L' h' b k M v:=by
 obtain⟨s,cap,cs,rfl,h1,h2,h4,h5,h6,h8,h7⟩:=a;have hne:¬E (L s):=by rw [h6];exact hj _ (by omega) (by omega)
 exact⟨s,cap,cs,rfl,h1,by rw [ho s h4 h5 hne];exact h2,h4,by omega,by rw [hL s h5 hne];exact h6,h8,q8 h7 fun i c x hi r=>r.keepE (hj _ (by omega) (by omega)) hn ho hL⟩
theorem MXN.keepE (a:MXN L h b k M v) (hj:∀m,1000*k≤m→m<1000*(k+1)→¬E m) (hn:h.next≤h'.next) (ho:∀t,b≤t→t<h.next→¬E (L t)→h'.obj t=h.obj t) (hL:∀t,t<h.next→¬E (L t)→L' t=L t):MXN L' h' b k M v:=a.imp id fun a=>a.keepE hj hn ho hL
theorem TX.keepE (a:TX L h b C v) (h4k:¬E 4) (hck:∀m,10000≤m→¬E m) (hn:h.next≤h'.next) (ho:∀t,b≤t→t<h.next→¬E (L t)→h'.obj t=h.obj t) (hL:∀t,t<h.next→¬E (L t)→L' t=L t):TX L' h' b C v:=by
 obtain⟨s,cap,cs,rfl,h1,h2,h4,h5,h6,h7⟩:=a;have hne:¬E (L s):=by rw [h6];exact h4k
 exact⟨s,cap,cs,rfl,h1,by rw [ho s h4 h5 hne];exact h2,h4,by omega,by rw [hL s h5 hne];exact h6,q8 h7 fun i c M hi a=>a.keepE (fun m h1 h2=>hck m (by omega)) hn ho hL⟩
def RowN (L:Nat→Nat) (h:PHeap) (b k:Nat) (x:List Int) (v:PV):Prop:=(x=[]∧v=.fz true .nils 0 [])∨RowX L h b k x v
theorem RowN.one (a:RowN L h b k x v):v.one=true:=by rcases a with ⟨_,rfl⟩ | a;rfl;exact a.one
theorem RowN.keepE (a:RowN L h b j x v) (hj:¬E j) (hn:h.next≤h'.next) (ho:∀t,b≤t→t<h.next→¬E (L t)→h'.obj t=h.obj t) (hL:∀t,t<h.next→¬E (L t)→L' t=L t):RowN L' h' b j x v:=a.imp id fun a=>a.keepE hj hn ho hL
structure PX (L:Nat→Nat) (b:Nat) (h:PHeap) (O:List Int) (P:List (List Int)) (C:List (List (List Int))) (vO vP vC:PV):Prop where
 hO:RowN L h b 5 O vO
 hP:MXN L h b 2 P vP
 hC:TXN L h b C vC
theorem PX.keepE (a:PX L b h O P C vO vP vC) (h5:¬E 5) (h4:¬E 4) (hm:∀m,2000≤m→¬E m) (hn:h.next≤h'.next) (ho:∀t,b≤t→t<h.next→¬E (L t)→h'.obj t=h.obj t) (hL:∀t,t<h.next→¬E (L t)→L' t=L t):PX L' b h' O P C vO vP vC:=
 ⟨a.hO.keepE h5 hn ho hL,a.hP.keepE (fun m h1 _=>hm m (by omega)) hn ho hL,a.hC.imp id fun a=>a.keepE h4 (fun m h=>hm m (by omega)) hn ho hL⟩
theorem PX.keepK (a:PX L b h O P C vO vP vC) (hk:6≤k) (hk9:k<10) (hn:h.next≤h'.next) (ho:∀t,b≤t→t<h.next→L t≠k→h'.obj t=h.obj t) (hL:∀t,t<h.next→L t≠k→L' t=L t):PX L' b h' O P C vO vP vC:=
 a.keepE (E:=fun m=>m=k) (by omega) (by omega) (fun m h=>by omega) hn ho hL
theorem PX.keepL (a:PX L b h O P C vO vP vC) (hn:h.next≤h'.next) (ho:∀t,b≤t→t<h.next→h'.obj t=h.obj t) (hL:∀t,t<h.next→L' t=L t):PX L' b h' O P C vO vP vC:=
 a.keepK (k:=9) (by decide) (by decide) hn (fun t hb ht _=>ho t hb ht) fun t ht _=>hL t ht
theorem PX.set (a:PX L b h O P C vO vP vC) (hs:s<b) (ds:List PV):PX L b (h.set s ds) O P C vO vP vC:=a.keepL (Nat.le_refl _) (fun t hb _=>by rw [zg,if_neg (by omega)]) fun _ _=>rfl
theorem PX.fresh (a:PX L b h O P C vO vP vC) (cs:List PV) (k:Nat):PX (mkM L h.next k) b (h.new cs) O P C vO vP vC:=a.keepL (Nat.le_succ _) (fun t _ ht=>by rw [zT,if_neg (by omega)]) (Z4 (Nat.le_refl _))
theorem PX.set7 (a:PX L b h O P C vO vP vC) (hL:L s=7) (cs:List PV):PX L b (h.set s cs) O P C vO vP vC:=
 a.keepK (k:=7) (by decide) (by decide) (Nat.le_refl _) (fun t _ _ hne=>by rw [zg,if_neg (fun e=>hne (by rw [e];exact hL))]) fun _ _ _=>rfl
theorem RowX.treeN (a:RowX L h b k x v):∃t:TR,t.ok h b∧t.pv=v∧(∀aa,FI (t.fz aa) x)∧t.slots.Nodup∧∀s∈t.slots,k≤L s∧L s<k+1:=by
 obtain⟨s,cap,rfl,h1,h2,h3,h4,h5⟩:=a;exact⟨TR.row s cap x,TR.row_ok h1 h2 h3 h4,TR.row_pv,fun aa=>TR.row_FI,by rw [TR.row_slots];simp,fun s' hs'=>by rw [TR.row_slots,List.mem_singleton]at hs';rw [hs',h5];omega⟩
theorem RowN.treeN (a:RowN L h b k x v):∃t:TR,t.ok h b∧t.pv=v∧(∀aa,FI (t.fz aa) x)∧t.slots.Nodup∧∀s∈t.slots,k≤L s∧L s<k+1:=by
 rcases a with ⟨rfl,rfl⟩|a
 ·exact⟨.nil,trivial,rfl,fun aa=>⟨true,.nils,rfl⟩,List.nodup_nil,fun s hs=>by cases hs⟩
 ·exact a.treeN
theorem MXN.treeN (a:MXN L h b k M v):∃t:TR,t.ok h b∧t.pv=v∧(∀aa,FII (t.fz aa) M)∧t.slots.Nodup∧∀s∈t.slots,1000*k≤L s∧L s<1000*(k+1):=by
 rcases a with ⟨rfl,rfl⟩|a
 ·exact⟨.nil,trivial,rfl,fun aa=>⟨true,.nils,[],rfl,All2.nil _⟩,List.nodup_nil,fun s hs=>by cases hs⟩
 obtain⟨s,cap,cs,rfl,h1,h2,h4,h5,h6,h8,h7⟩:=a;obtain⟨ts,g1,g2,g3,g4,g5⟩:=zBf (h:=h) (b:=b) (L:=L) (S:=FI) (R:=fun i c x=>RowX L h b (1000*k+1+i) x c) (m:=fun i=>1000*k+1+i) (fun i=>Nat.le_succ _) (fun i c y a=>a.treeN) (cs:=cs) (xs:=M) 0 (q8 h7 fun i c y _ r=>by rw [Nat.zero_add];exact r)
 have e1:ts.length=M.length:=by rw [←h7.1,←g2,Q9]
 refine⟨.lst s cap ts,⟨⟨by rw [e1];exact h1,by rw [g2];exact h2,h4,h5⟩,g1⟩,by simp only [TR.pv,e1],fun aa=>⟨true,.sl (aa s) 0 ts.length cap,TR.fzs aa ts,by simp only [TR.fz,e1],g3 aa⟩,?_,fun s' hs'=>?_⟩
 ·rw [TR.slots,List.nodup_cons]
  exact⟨fun hm=>by have:=(g5 s hm).1;omega,g4⟩
 ·rw [TR.slots,List.mem_cons]at hs'
  rcases hs' with rfl|hs'
  ·omega
  ·have:=g5 s' hs';omega
theorem TXN.treeN (a:TXN L h b C v):∃t:TR,t.ok h b∧t.pv=v∧(∀aa,FIII (t.fz aa) C)∧t.slots.Nodup∧∀s∈t.slots,L s=4∨10000≤L s:=by
 rcases a with ⟨rfl,rfl⟩|⟨s,cap,cs,rfl,h1,h2,h4,h5,h6,h7⟩
 ·exact⟨.nil,trivial,rfl,fun aa=>⟨true,.nils,[],rfl,All2.nil _⟩,List.nodup_nil,fun s hs=>by cases hs⟩
 obtain⟨ts,g1,g2,g3,g4,g5⟩:=zBf (h:=h) (b:=b) (L:=L) (S:=FII) (R:=fun i c M=>MXN L h b (10+i) M c) (m:=fun i=>1000*(10+i)) (fun i=>by omega) (fun i c y a=>a.treeN) (cs:=cs) (xs:=C) 0 (q8 h7 fun i c y _ r=>by rw [Nat.zero_add];exact r)
 have e1:ts.length=C.length:=by rw [←h7.1,←g2,Q9]
 refine⟨.lst s cap ts,⟨⟨by rw [e1];exact h1,by rw [g2];exact h2,h4,h5⟩,g1⟩,by simp only [TR.pv,e1],fun aa=>⟨true,.sl (aa s) 0 ts.length cap,TR.fzs aa ts,by simp only [TR.fz,e1],g3 aa⟩,?_,fun s' hs'=>?_⟩
 ·rw [TR.slots,List.nodup_cons]
  exact⟨fun hm=>by have:=(g5 s hm).1;omega,g4⟩
 ·rw [TR.slots,List.mem_cons]at hs'
  rcases hs' with rfl|hs'
  ·exact .inl h6
  ·have:=g5 s' hs';right;omega
theorem PX.treeN (a:PX L b h O P C vO vP vC):∃t1 t2 t3:TR,TR.oks h b [t1,t2,t3]∧t1.pv=vO∧t2.pv=vP∧t3.pv=vC∧(∀aa,IsPr (t1.fz aa) (t2.fz aa) (t3.fz aa) O P C)∧(TR.slotss [t1,t2,t3]).Nodup:=by
 obtain⟨t1,a1,a2,a3,a4,a5⟩:=a.hO.treeN;obtain⟨t2,b1,b2,b3,b4,b5⟩:=a.hP.treeN;obtain⟨t3,c1,c2,c3,c4,c5⟩:=a.hC.treeN;refine⟨t1,t2,t3,⟨a1,b1,c1,trivial⟩,a2,b2,c2,fun aa=>⟨a3 aa,b3 aa,c3 aa⟩,?_⟩
 simp only [TR.slotss,List.append_nil,List.nodup_append,List.mem_append];refine⟨a4,⟨b4,c4,fun s hs s' hs' e=>?_⟩,fun s hs s' hs' e=>?_⟩
 ·have:=b5 s hs;have:=c5 s' hs';rw [←e]at this;omega
 ·have:=a5 s hs
  rcases hs' with hs' | hs'
  ·have:=b5 s' hs';rw [←e]at this;omega
  ·have:=c5 s' hs';rw [←e]at this;omega
theorem PX.fin (a:PX L b h O P C vO vP vC) (hk:Keep σ h) (hb:σ.next≤b) (k:∀wO wP wC,IsPr wO wP wC O P C→K (.agg [wO,wP,wC]) σ):Gh σ K (.agg [vO,vP,vC]) h:=by
 obtain⟨t1,t2,t3,h1,rfl,rfl,rfl,h3,h4⟩:=a.treeN;have et:(TR.agg [t1,t2,t3]).pv=.agg [t1.pv,t2.pv,t3.pv]:=by simp only [TR.pv,TR.pvs]
 rw [←et];refine Gh.treeF hk (zFS (t:=TR.agg [t1,t2,t3]) hb (zDf (t:=TR.agg [t1,t2,t3]) h1)) fun aa=>?_
 have:=k (t1.fz aa) (t2.fz aa) (t3.fz aa) (h3 aa)
 simpa only [TR.fz,TR.fzs]using this
theorem PX.fin2b {e:Bool} (a:PX L b h O P C vO vP vC) (hk:Keep σ h) (hb:σ.next≤b) (k:∀wO wP wC,IsPr wO wP wC O P C→K (.tup [.agg [wO,wP,wC],.bool e]) σ):Gh σ K (.tup [.agg [vO,vP,vC],.bool e]) h:=by
 obtain⟨t1,t2,t3,h1,rfl,rfl,rfl,h3,h4⟩:=a.treeN;have et:(TR.tup [TR.agg [t1,t2,t3],.leaf (.bool e)]).pv=.tup [.agg [t1.pv,t2.pv,t3.pv],.bool e]:=by simp only [TR.pv,TR.pvs]
 rw [←et];refine Gh.treeF hk (zFS (b:=b) hb ⟨zDf (t:=TR.agg [t1,t2,t3]) h1,trivial,trivial⟩) fun aa=>?_
 have:=k (t1.fz aa) (t2.fz aa) (t3.fz aa) (h3 aa)
 simpa only [TR.fz,TR.fzs]using this
theorem MXN.acc (a:MXN L h b k M v):∃cs,PAcc b 1 h v M.length cs∧A2i (fun i c x=>RowX L h b (1000*k+1+i) x c) cs M∧∀t off l c,v=.sl t off l c→L t=1000*k:=by
 rcases a with ⟨rfl,rfl⟩|⟨s,cap,cs,rfl,h1,h2,h4,h5,h6,h8,h7⟩
 ·exact⟨[],PAcc.nil _ _ _,zBM,fun t off l c e=>by cases e⟩
 ·exact⟨cs,.inr ⟨s,cap,rfl,h1,h2,by have:=h7.1;omega,h4,h5⟩,h7,fun t off l c e=>by simp only [PV.sl.injEq]at e;rw [←e.1];exact h6⟩
theorem MXN.push {KA:PV×PHeap→Prop} (a:MXN L h b k M v) (hk1:1≤k) (hc:RowX L h b 8 x c) (hk:Keep σ h) (hb:σ.next≤b) (hbn:b≤h.next) (hn:M.length<999)
  (kk:∀v' h' L',Keep σ h'→MX L' h' b k (M++[x]) v'→h.next<h'.next→(∀t,t<h.next→L t≠8→L' t=L t)→(∀t,t<h.next→L t≠1000*k→h'.obj t=h.obj t)→(∀t,t<b→h'.obj t=h.obj t)→KA (v',h')):optK (qd 1 24 (h.new [c]) v (.sl h.next 0 1 (.known 1))) KA:=by
 obtain⟨cs,acc,hcs,hL⟩:=a.acc;refine PAcc.pushS hk (acc.low hb) rfl (by omega) (by omega) fun v' h' k1 a1 o1 n1 l1=>?_
 obtain⟨s',cap',rfl,g1,g2,g3,g4,g5⟩:=a1;have hs':h.next≤s':=by
  rcases Nat.lt_or_ge s' h.next with q|q
  ·exact absurd rfl (n1 s' q 0 _ cap')
  ·exact q
 have ob:∀t,t<h.next→L t≠1000*k→h'.obj t=h.obj t:=fun t ht hne=>o1 t ht fun off l c e=>hne (hL t off l c e)
 have hnx:h.next≤h'.next:=by omega
 obtain⟨sc,capc,rfl,c1,c2,c3,c4,c5⟩:=hc;obtain⟨L',hL'⟩:∃L':Nat→Nat,L'=mkM (mkM L s' (1000*k)) sc (1000*k+1+M.length):=⟨_,rfl⟩
 have e0:L' s'=1000*k:=by rw [hL'];unfold mkM;rw [if_neg (by omega),if_pos rfl]
 have e1:∀t,t<h.next→L t≠8→L' t=L t:=fun t ht hne=>by
  rw [hL'];unfold mkM;rw [if_neg (fun e=>hne (by rw [e];exact c5)),if_neg (by omega)]
 have e2:L' sc=1000*k+1+M.length:=by rw [hL'];exact Zt
 clear hL';have el:(M++[x]).length=M.length+1:=by simp
 refine kk _ h' L' k1 ⟨s',cap',_,by rw [el],by rw [el];exact g1,g2,by omega,g5,e0,by omega,zBg (q8 hcs fun i c y hi r=>?_) ⟨sc,capc,rfl,c1,by rw [ob sc c4 (by rw [c5];omega)];exact c2,c3,by omega,e2⟩⟩ l1 e1 ob fun t ht=>?_
 ·exact r.keepE (E:=fun m=>m=8∨m=1000*k) (by omega) hnx (fun t _ ht hne=>ob t ht (by omega)) fun t ht hne=>e1 t ht (by omega)
 ·refine o1 t (by omega) fun off l c e=>?_
  rcases acc with ⟨rfl,_,_⟩|⟨s,cap,rfl,q1,q2,q3,q4,q5⟩
  ·cases e
  ·simp only [PV.sl.injEq]at e;omega
theorem PX.pushP {KA:PV×PHeap→Prop} (a:PX L b h O P C vO vP vC) (hc:RowX L h b 8 x c) (hk:Keep σ h) (hb:σ.next≤b) (hbn:b≤h.next) (hn:P.length<999)
  (kk:∀v' h' L',Keep σ h'→PX L' b h' O (P++[x]) C vO v' vC→h.next<h'.next→(∀t,t<b→h'.obj t=h.obj t)→(∀t,t<h.next→L t=7→h'.obj t=h.obj t∧L' t=L t)→KA (v',h')):optK (qd 1 24 (h.new [c]) vP (.sl h.next 0 1 (.known 1))) KA:=by
 refine MXN.push (k:=2) a.hP (by decide) hc hk hb hbn hn fun v' h' L' k1 m1 l1 hL ho hlo=>kk v' h' L' k1 ⟨?_,.inr m1,?_⟩ l1 hlo fun t ht h7=>⟨ho t ht (by omega),hL t ht (by omega)⟩
 ·exact a.hO.keepE (E:=fun m=>m=8∨m=2000) (by decide) (by omega) (fun t _ ht hne=>ho t ht (by omega)) fun t ht hne=>hL t ht (by omega)
 ·exact a.hC.imp id fun a=>a.keepE (E:=fun m=>m=8∨m=2000) (by decide) (fun m _=>by omega) (by omega) (fun t _ ht hne=>ho t ht (by omega)) fun t ht hne=>hL t ht (by omega)
theorem PX.pushC {KA:PV×PHeap→Prop} (a:PX L b h O P C vO vP vC) (hc:MXN L h b (10+C.length) M c) (hk:Keep σ h) (hb:σ.next≤b) (hbn:b≤h.next) (hn:C.length≤1048576)
  (kk:∀v' h' L',Keep σ h'→PX L' b h' O P (C++[M]) vO vP v'→h.next<h'.next→(∀t,t<b→h'.obj t=h.obj t)→(∀t,t<h.next→L t=7→h'.obj t=h.obj t∧L' t=L t)→KA (v',h')):optK (qd 1 24 (h.new [c]) vC (.sl h.next 0 1 (.known 1))) KA:=by
 have cone:=hc.one;have acc:∃cs,PAcc b 1 h vC C.length cs∧A2i (fun i c M=>MXN L h b (10+i) M c) cs C∧∀t off l c,vC=.sl t off l c→L t=4:=by
  rcases a.hC with ⟨rfl,rfl⟩|⟨s,cap,cs,rfl,h1,h2,h4,h5,h6,h7⟩
  ·exact⟨[],PAcc.nil _ _ _,zBM,fun t off l c e=>by cases e⟩
  ·exact⟨cs,.inr ⟨s,cap,rfl,h1,h2,by have:=h7.1;omega,h4,h5⟩,h7,fun t off l c e=>by simp only [PV.sl.injEq]at e;rw [←e.1];exact h6⟩
 obtain⟨cs,acc,hcs,hL⟩:=acc;refine PAcc.pushS hk (acc.low hb) rfl (by omega) (by omega) fun v' h' k1 a1 o1 n1 l1=>?_
 obtain⟨s',cap',rfl,g1,g2,g3,g4,g5⟩:=a1;have hs':h.next≤s':=by
  rcases Nat.lt_or_ge s' h.next with q|q
  ·exact absurd rfl (n1 s' q 0 _ cap')
  ·exact q
 have ob:∀t,t<h.next→L t≠4→h'.obj t=h.obj t:=fun t ht hne=>o1 t ht fun off l c e=>hne (hL t off l c e)
 have hnx:h.next≤h'.next:=by omega
 have e1:∀t,t<h.next→mkM L s' 4 t=L t:=Z4 hs'
 have ob4:∀t,b≤t→t<h.next→¬(L t=4)→h'.obj t=h.obj t:=fun t _ ht hne=>ob t ht hne
 have kM:∀{j:Nat} {N:List (List Int)} {d:PV},1≤j→MXN L h b j N d→MXN (mkM L s' 4) h' b j N d:=fun {j N d} hj a=>a.keepE (E:=fun m=>m=4) (fun m _ _=>by omega) hnx ob4 fun t ht _=>e1 t ht
 have el:(C++[M]).length=C.length+1:=by simp
 refine kk _ h' (mkM L s' 4) k1 ⟨a.hO.keepE (E:=fun m=>m=4) (by decide) hnx ob4 fun t ht _=>e1 t ht,kM (by decide) a.hP,.inr ⟨s',cap',cs++[c],by rw [el],by rw [el];exact g1,g2,by omega,g5,Zt,zBg (q8 hcs fun i c M _ a=>kM (by omega) a) (kM (by omega) hc)⟩⟩ l1 (fun t ht=>?_) fun t ht h7=>⟨ob t ht (by omega),e1 t ht⟩
 refine o1 t (by omega) fun off l c e=>?_
 rcases acc with ⟨rfl,_,_⟩|⟨s,cap,rfl,q1,q2,q3,q4,q5⟩
 ·cases e
 ·simp only [PV.sl.injEq]at e;omega
theorem PX.putP (a:PX L b h O P C vO vP vC) (hi:i<P.length) (hc:RowX L h b 8 x c):∃sP cap ds L',vP=.sl sP 0 P.length cap∧b≤sP∧sP<h.next∧L sP≠7∧h.wr sP i [c]=some (h.set sP ds)∧(∀t,L t≠8→L' t=L t)∧PX L' b (h.set sP ds) O (P.set i x) C vO vP vC:=by
 rcases a.hP with ⟨rfl,_⟩|⟨s,cap,cs,rfl,h1,h2,h4,h5,h6,h8,h7⟩
 ·exact absurd hi (Nat.not_lt_zero _)
 have el:(P.set i x).length=P.length:=List.length_set ..;have c1:=hc.one;obtain⟨sc,capc,rfl,d1,d2,d3,d4,d5⟩:=hc;have eL:∀t,L t≠8→mkM L sc (1000*2+1+i) t=L t:=fun t hne=>by unfold mkM;rw [if_neg (fun e=>hne (by rw [e];exact d5))]
 have ho:∀t,b≤t→t<h.next→¬(L t=8∨L t=2000)→(h.set s (cs.set i (.sl sc 0 x.length capc))).obj t=h.obj t:=fun t _ _ hne=>by rw [zg,if_neg (fun e=>hne (.inr (by rw [e,h6])))]
 have hL:∀t,t<h.next→¬(L t=8∨L t=2000)→mkM L sc (1000*2+1+i) t=L t:=fun t _ hne=>eL t (by omega)
 refine⟨s,cap,_,mkM L sc (1000*2+1+i),rfl,h4,h5,by omega,Qo h2 (by rw [h7.1];exact hi) c1,eL,a.hO.keepE (E:=fun m=>m=8∨m=2000) (by decide) (Nat.le_refl _) ho hL,.inr ⟨s,cap,_,by rw [el],by rw [el];exact h1,by rw [zg,if_pos rfl],h4,h5,by rw [eL s (by omega)];exact h6,by rw [el];exact h8,zH8 (q8 h7 fun j c y hj r=>r.keepE (E:=fun m=>m=8∨m=2000) (by omega) (Nat.le_refl _) ho hL) ?_⟩,a.hC.imp id fun a=>a.keepE (E:=fun m=>m=8∨m=2000) (by decide) (fun m _=>by omega) (Nat.le_refl _) ho hL⟩
 exact⟨sc,capc,rfl,d1,by rw [zg,if_neg (fun e=>by rw [e]at d5;omega)];exact d2,d3,d4,Zt⟩
theorem PX.putC (a:PX L b h O P C vO vP vC) (hi:i<C.length) (hj:j<(C.getD i []).length) (hc:RowX L h b 8 x c):∃sC cap t cap' ds L',vC=.sl sC 0 C.length cap∧h.rd1 sC i=some (.sl t 0 (C.getD i []).length cap')∧b≤sC∧sC<h.next∧b≤t∧t<h.next∧L t≠7∧h.wr t j [c]=some (h.set t ds)∧(∀t,L t≠8→L' t=L t)∧PX L' b (h.set t ds) O P (C.set i ((C.getD i []).set j x)) vO vP vC:=by
 rcases a.hC with ⟨rfl,_⟩|⟨s,cap,cs,rfl,h1,h2,h4,h5,h6,h7⟩
 ·exact absurd hi (Nat.not_lt_zero _)
 have hic:i<cs.length:=by rw [h7.1];exact hi
 have gC:C[i]? = some (C.getD i []):=by rw [List.getD_eq_getElem?_getD,List.getElem?_eq_getElem hi];rfl
 rcases h7.2 i _ _ (List.getElem?_eq_getElem hic) gC with ⟨e,_⟩|⟨t,cap',ds,e,g1,g2,g4,g5,g6,g8,g7⟩
 ·rw [e]at hj;exact absurd hj (Nat.not_lt_zero _)
 generalize hM:C.getD i []=M at *
 have el:(C.set i (M.set j x)).length=C.length:=List.length_set ..;have lM:(M.set j x).length=M.length:=List.length_set ..;have hst:s≠t:=fun e=>by rw [e]at h6;omega
 have c1:=hc.one;obtain⟨sc,capc,rfl,d1,d2,d3,d4,d5⟩:=hc;obtain⟨L',hL'⟩:∃L',L'=mkM L sc (1000*(10+i)+1+j):=⟨_,rfl⟩
 have eL:∀t,L t≠8→L' t=L t:=fun t hne=>by rw [hL'];unfold mkM;rw [if_neg (fun e=>hne (by rw [e];exact d5))]
 have eS:L' sc=1000*(10+i)+1+j:=by rw [hL'];exact Zt
 clear hL';have ho:∀u,b≤u→u<h.next→¬(L u=8∨L u=1000*(10+i))→(h.set t (ds.set j (.sl sc 0 x.length capc))).obj u=h.obj u:=fun u _ _ hne=>by rw [zg,if_neg (fun e=>hne (.inr (by rw [e,g6])))]
 have hL:∀u,u<h.next→¬(L u=8∨L u=1000*(10+i))→L' u=L u:=fun u _ hne=>eL u (by omega)
 have row:∀{q:Nat} {y:List Int} {d:PV},q≠8→q≠1000*(10+i)→RowX L h b q y d→RowX L' (h.set t (ds.set j (.sl sc 0 x.length capc))) b q y d:=fun {q y d} q1 q2 r=>r.keepE (E:=fun m=>m=8∨m=1000*(10+i)) (by omega) (Nat.le_refl _) ho hL
 refine⟨s,cap,t,cap',_,L',rfl,by rw [qF h2,List.getElem?_eq_getElem hic,e],h4,h5,g4,g5,by omega,Qo g2 (by rw [g7.1];exact hj) c1,eL,a.hO.imp id fun a=>row (by decide) (by omega) a,a.hP.imp id fun a=>a.keepE (E:=fun m=>m=8∨m=1000*(10+i)) (fun m _ _=>by omega) (Nat.le_refl _) ho hL,.inr ⟨s,cap,cs,by rw [el],by rw [el];exact h1,by rw [zg,if_neg hst];exact h2,h4,h5,by rw [eL s (by omega)];exact h6,by rw [el];exact h7.1,fun i' d N hd hN=>?_⟩⟩
 rw [List.getElem?_set]at hN
 by_cases q:i=i'
 ·subst q
  rw [if_pos rfl,if_pos hi]at hN
  cases hN;rw [List.getElem?_eq_getElem hic,e]at hd
  cases hd;refine .inr ⟨t,cap',_,by rw [lM],by rw [lM];exact g1,by rw [zg,if_pos rfl],g4,g5,by rw [eL t (by omega)];exact g6,by rw [lM];exact g8,zH8 (q8 g7 fun k c y hk r=>row (by omega) (by omega) r) ?_⟩
  exact⟨sc,capc,rfl,d1,by rw [zg,if_neg (fun e=>by rw [e]at d5;omega)];exact d2,d3,d4,eS⟩
 ·rw [if_neg q]at hN
  exact(h7.2 i' d N hd hN).keepE (E:=fun m=>m=8∨m=1000*(10+i)) (fun m _ _=>by omega) (Nat.le_refl _) ho hL
end Go.Proofs
namespace Go.Grp
end Go.Grp
set_option linter.unusedSimpArgs false
set_option linter.unusedVariables false
set_option linter.unusedSectionVars false
namespace Go.Proofs
open Go.Ab Go.Lie Go.Grp
variable {σ σ0 h h':PHeap} {K:PV→PHeap→Prop} {b s t n k r s0 i j:Nat} {L L':Nat→Nat} {v vO vP vC c vX vL:PV} {x O:List Int} {P M:List (List Int)} {C:List (List (List Int))} {cs:List PV}
structure TvX (σ h:PHeap) (O:List Int) (L:Nat→Nat) (P:List (List Int)) (C:List (List (List Int))) (r s:Nat) (vO vP vC:PV):Prop where
 keep:Keep σ h
 res:h.obj r=some [.fz true .nils 0 [],.fz true .nils 0 [],.fz true .nils 0 []]
 ob:h.obj s=some [vO,vP,vC]
 pw:PX L σ.next h O P C vO vP vC
 lr:L r=7
 ls:L s=7
 ne:r≠s
 nr:σ.next≤r∧r<h.next
 ns:σ.next≤s∧s<h.next
theorem TvX.r1 (a:TvX σ h O L P C r s vO vP vC):h.rd1 s 1=some vP:=by rw [qF a.ob];rfl
theorem TvX.r2 (a:TvX σ h O L P C r s vO vP vC):h.rd1 s 2=some vC:=by rw [qF a.ob];rfl
theorem TvX.r3 (a:TvX σ h O L P C r s vO vP vC):h.rd s 0 3=some [vO,vP,vC]:=by rw [Z9 a.ob];rfl
theorem TvX.fin (a:TvX σ h O L P C r s vO vP vC):h.wr r 0 [vO,vP,vC]=some (h.set r [vO,vP,vC])∧(h.set r [vO,vP,vC]).rd r 0 3=some [vO,vP,vC]∧Keep σ (h.set r [vO,vP,vC])∧PX L σ.next (h.set r [vO,vP,vC]) O P C vO vP vC:=by
 refine⟨by rw [qg a.res,if_pos ⟨by simp,by simp [a.pw.hO.one,a.pw.hP.one,a.pw.hC.one]⟩];rfl,by rw [ZG,if_pos rfl];rfl,a.keep.set a.nr.1 _,a.pw.set7 a.lr _⟩
theorem TvX.keepL (a:TvX σ h O L P C r s vO vP vC) (hk:Keep σ h') (hn:h.next≤h'.next) (ho:∀t,σ.next≤t→t<h.next→h'.obj t=h.obj t) (hL:∀t,t<h.next→L' t=L t):TvX σ h' O L' P C r s vO vP vC:=
 ⟨hk,by rw [ho r a.nr.1 a.nr.2];exact a.res,by rw [ho s a.ns.1 a.ns.2];exact a.ob,a.pw.keepL hn ho hL,by rw [hL r a.nr.2];exact a.lr,by rw [hL s a.ns.2];exact a.ls,a.ne,⟨a.nr.1,by have:=a.nr.2;omega⟩,⟨a.ns.1,by have:=a.ns.2;omega⟩⟩
theorem TvX.fresh (a:TvX σ h O L P C r s vO vP vC) (cs:List PV) (k:Nat):TvX σ (h.new cs) O (mkM L h.next k) P C r s vO vP vC:=a.keepL (a.keep.new cs) (Nat.le_succ _) (fun t _ ht=>by rw [zT,if_neg (by omega)]) (Z4 (Nat.le_refl _))
theorem TvX.step (a:TvX σ h O L P C r s vO vP vC) {P':List (List Int)} {C':List (List (List Int))} {uO uP uC:PV} (hk:Keep σ h') (hp:PX L' σ.next h' O P' C' uO uP uC) (hn:h.next≤h'.next) (h7:∀t,t<h.next→L t=7→h'.obj t=h.obj t∧L' t=L t):TvX σ (h'.set s [uO,uP,uC]) O L' P' C' r s uO uP uC:=by
 have hs:=h7 s a.ns.2 a.ls;have hr:=h7 r a.nr.2 a.lr;have ls:L' s=7:=by rw [hs.2];exact a.ls
 have:=a.nr.2
 have:=a.ns.2
 exact⟨hk.set a.ns.1 _,by rw [zg,if_neg a.ne,hr.1];exact a.res,by rw [zg,if_pos rfl],hp.set7 ls _,by rw [hr.2];exact a.lr,ls,a.ne,⟨a.nr.1,by show r<h'.next;omega⟩,⟨a.ns.1,by show s<h'.next;omega⟩⟩
theorem TvX.old (a:TvX σ h O L P C r s vO vP vC) (h7:∀t,t<h.next→L t=7→h'.obj t=h.obj t∧L' t=L t):h'.obj s=some [vO,vP,vC]:=by
 rw [(h7 s a.ns.2 a.ls).1];exact a.ob
theorem TvX.keepM (a:TvX σ h O L P C r s vO vP vC) (kp:Keep σ h') (hn:h.next≤h'.next) {i:Nat} (ho:∀t,t<h.next→L t≠1000*(10+i)→h'.obj t=h.obj t) (hL:∀t,t<h.next→L t≠8→L' t=L t) (hi:C.length≤i):TvX σ h' O L' P C r s vO vP vC:=by
 have h1:=a.lr;have h2:=a.ls;have nr:=a.nr;have ns:=a.ns;have ho':∀t,σ.next≤t→t<h.next→¬(L t=8∨L t=1000*(10+i))→h'.obj t=h.obj t:=fun t _ ht hne=>ho t ht (by omega)
 have hL':∀t,t<h.next→¬(L t=8∨L t=1000*(10+i))→L' t=L t:=fun t ht hne=>hL t ht (by omega)
 refine⟨kp,by rw [ho r nr.2 (by omega)];exact a.res,by rw [ho s ns.2 (by omega)];exact a.ob,⟨a.pw.hO.keepE (E:=fun m=>m=8∨m=1000*(10+i)) (by omega) hn ho' hL',a.pw.hP.keepE (E:=fun m=>m=8∨m=1000*(10+i)) (fun m _ _=>by omega) hn ho' hL',a.pw.hC.imp id fun⟨s,cap,cs,e,h1,h2,h4,h5,h6,h7⟩=>?_⟩,by rw [hL r nr.2 (by omega)];exact h1,by rw [hL s ns.2 (by omega)];exact h2,a.ne,⟨nr.1,by omega⟩,⟨ns.1,by omega⟩⟩
 have hne:¬(L s=8∨L s=1000*(10+i)):=by omega
 exact⟨s,cap,cs,e,h1,by rw [ho' s h4 h5 hne];exact h2,h4,by omega,by rw [hL' s h5 hne];exact h6,q8 h7 fun k c M hk a=>a.keepE (E:=fun m=>m=8∨m=1000*(10+i)) (fun m _ _=>by omega) hn ho' hL'⟩
def trP (n i:Nat):List (List Int):=List.replicate i (List.replicate n 0)
def trJ (n i m:Nat):List (List Int):=(List.range m).map fun k=>unitL n (i+1+k)
def trC (n i:Nat):List (List (List Int)):=(List.range i).map fun i=>trJ n i (n-1-i)
theorem zFT (n i:Nat):trP n i++[List.replicate n 0]=trP n (i+1):=by unfold trP;rw [List.replicate_succ']
theorem zFU (n i m:Nat):trJ n i m++[unitL n (i+1+m)]=trJ n i (m+1):=by unfold trJ;rw [List.range_succ,List.map_append];rfl
theorem zFV (n i:Nat):trC n i++[trJ n i (n-1-i)]=trC n (i+1):=by unfold trC;rw [List.range_succ,List.map_append];rfl
theorem zEK (n i:Nat):(trP n i).length=i:=by simp [trP]
theorem zEL (n i m:Nat):(trJ n i m).length=m:=by simp [trJ]
theorem Qf (n i:Nat):(trC n i).length=i:=by simp [trC]
theorem RowX.fresh {cap:Cap} (hb:b≤h.next) (hc:full 1 cap x.length):RowX (mkM L h.next k) (h.new (pis x)) b k x (.sl h.next 0 x.length cap):=
 ⟨h.next,cap,rfl,hc,by rw [zT,if_pos rfl],hb,Nat.lt_succ_self _,Zt⟩
theorem RowX.freshN {cap:Cap} {n:Nat} (hn:x.length=n) (hb:b≤h.next) (hc:full 1 cap n):RowX (mkM L h.next k) (h.new (pis x)) b k x (.sl h.next 0 n cap):=by
 subst hn;exact RowX.fresh hb hc
theorem RowX.low {m:Nat} (a:RowX L h m k x v) (hb:b≤m):RowX L h b k x v:=by
 obtain⟨s,cap,e,h1,h2,h3,h4,h5⟩:=a;exact⟨s,cap,e,h1,h2,by omega,h4,h5⟩
theorem MXN.keepF (a:MXN L h b k M v) (cs:List PV) (j:Nat):MXN (mkM L h.next j) (h.new cs) b k M v:=
 a.keepE (E:=fun _=>False) (fun _ _ _ h=>h) (Nat.le_succ _) (fun t _ ht _=>by rw [zT,if_neg (by omega)]) fun t ht _=>Z4 (Nat.le_refl _) t ht
theorem MX.low {m:Nat} (a:MX L h m k M v) (hb:b≤m):MX L h b k M v:=by
 obtain⟨s,cap,cs,e,h1,h2,h4,h5,h6,h8,h7⟩:=a;exact⟨s,cap,cs,e,h1,h2,by omega,h5,h6,h8,q8 h7 fun _ _ _ _ r=>r.low hb⟩
theorem zGB (hlen:pLen vX=some (.int .i64 O.length)) (hb:O.length≤900)
  (hcl:∀{g:PHeap} {K':PV→PHeap→Prop},Keep σ g→(∀cap,full 1 cap O.length→K' (.sl g.next 0 O.length cap) (g.new (pis O)))→zA Tryz.prog 57 [vX] g K')
  (hk:∀L h vO vP vC,Keep σ h→PX L σ.next h O (trP O.length O.length) (trC O.length O.length) vO vP vC→K (.agg [vO,vP,vC]) h):zA Tryz.prog 50 [vX] σ K:=by
 refine zS mix Tryz.func50 ?_;simp only [pwA,seval,-iQ0,hlen];refine hcl (zD _ _) fun cap hc=>?_
 simp only [pwA,seval,-iQ0];generalize hn:O.length=n at *
 refine zB (fun m vs h=>∃(i:Nat) (L:Nat→Nat) (vO vP vC:PV),i≤n∧m=n-i∧vs=[.ptr σ.next 0,.int .i64 n,.ptr (σ.next+2) 0,.int .i64 i]∧TvX σ h O L (trP n i) (trC n i) σ.next (σ.next+2) vO vP vC) n ?_ ?_
 ·refine⟨0,fun t=>if t=σ.next+1 then 5 else 7,.sl (σ.next+1) 0 n cap,_,_,Nat.zero_le _,rfl,rfl,((zD _ _).new _).new _,by simp only [pwA,seval,-iQ0],by simp only [pwA,seval,-iQ0],⟨.inr ⟨σ.next+1,cap,by rw [hn],by rw [hn];exact hc,by simp only [pwA,seval,-iQ0],by omega,by show σ.next+1<σ.next+3;omega,if_pos rfl⟩,.inl ⟨rfl,rfl⟩,.inl ⟨rfl,rfl⟩⟩,if_neg (by omega),if_neg (by omega),by omega,⟨Nat.le_refl _,by show σ.next<σ.next+3;omega⟩,⟨by omega,by show σ.next+2<σ.next+3;omega⟩⟩
 rintro m vs h ⟨i,L,vO,vP,vC,hi,rfl,rfl,a⟩
 have hnn:=a.ns.2;simp only [pwA,seval,-iQ0];refine iteI (fun hlt=>?_) fun hge=>?_
 rotate_left
 ·have e:i=n:=by omega
  subst e;obtain⟨e1,e2,e3,e4⟩:=a.fin;simp only [pwA,seval,-iQ0,a.r3,e1,e2];exact hk L _ _ _ vC e3 e4
 have n1:¬σ.next+2=h.next:=by omega
 have n2:¬σ.next+2=h.next+1:=by omega
 simp only [pwA,seval,-iQ0,a.r1,n1,n2,Qi,mk8 (n:=n) (by omega),Go.Ab.mkL (n:=n) (by omega)]
 have a1:=a.fresh (pis (List.replicate n 0)) 8;have hrow:RowX (mkM L h.next 8) (h.new (pis (List.replicate n 0))) σ.next 8 (List.replicate n 0) (.sl h.next 0 n (.known n)):=RowX.freshN (by simp) (by omega) (by simp [full])
 refine PX.pushP a1.pw hrow a1.keep (Nat.le_refl _) (by show σ.next≤h.next+1;omega) (by rw [zEK];omega) fun v1 h1 L1 k1 p1 l1 o1 m1=>?_
 rw [zFT]at p1
 have hs1:=a1.old m1;have w1:h1.wr (σ.next+2) 1 [v1]=some (h1.set (σ.next+2) [vO,v1,vC]):=by rw [qg hs1,if_pos ⟨by simp,by simp [p1.hP.one]⟩];rfl
 have a2:=a1.step k1 p1 (Nat.le_of_lt l1) m1;simp only [pwA,seval,-iQ0,w1,p1.hP.cells];have l1':h.next+1<h1.next:=l1;have wi:IntKind.i64.wrap ((i:Int)+1)=((i+1:Nat):Int):=by rw [wrap64 (by omega) (by omega)];omega
 rw [wi];generalize hg2:h1.set (σ.next+2) [vO,v1,vC]=g2 at *
 rw [show h1.next=g2.next by rw [←hg2];rfl]
 have hb2:σ.next+2<g2.next:=by rw [←hg2];show _<h1.next;omega
 clear hs1 w1 m1 o1 p1 k1 hrow a1 a;have a3:=a2.fresh [] (1000*(10+i));have mR:MXN (mkM L1 g2.next (1000*(10+i))) (g2.new []) σ.next (10+i) (trJ n i 0) (.sl g2.next 0 0 (.known 0)):=.inr ⟨g2.next,.known 0,[],rfl,.inr rfl,by rw [zT,if_pos rfl],by omega,Nat.lt_succ_self _,Zt,Nat.zero_le _,zBM⟩
 refine zB (fun m vs h=>∃(j:Nat) (L:Nat→Nat) (vR:PV),i+1≤j∧j≤n∧m=n-j∧vs=[.ptr σ.next 0,.int .i64 n,.ptr (σ.next+2) 0,.int .i64 i,vR,.int .i64 j]∧TvX σ h O L (trP n (i+1)) (trC n i) σ.next (σ.next+2) vO v1 vC∧MXN L h σ.next (10+i) (trJ n i (j-(i+1))) vR) (n-(i+1)) ?_ ?_
 ·exact⟨i+1,_,_,Nat.le_refl _,hlt,rfl,rfl,a3,by rw [Nat.sub_self];exact mR⟩
 clear a3 mR a2 hg2 l1 l1'
 rintro m vs h ⟨j,L,vR,hij,hj,rfl,rfl,a,mR⟩
 have hnn:=a.ns.2;have n1:¬σ.next+2=h.next:=by omega
 simp only [pwA,seval,-iQ0];refine iteI (fun hjt=>?_) fun hge=>?_
 rotate_left
 ·have e:j=n:=by omega
  subst e;simp only [pwA,seval,-iQ0,a.r2,mR.one,mR.cells];refine PX.pushC a.pw (by rw [Qf];exact mR) a.keep (Nat.le_refl _) (by omega) (by rw [Qf];omega) fun v2 h2 L2 k2 p2 l2 o2 m2=>?_
  rw [show j-(i+1)=j-1-i by omega,zFV]at p2
  have w2:h2.wr (σ.next+2) 2 [v2]=some (h2.set (σ.next+2) [vO,v1,v2]):=by rw [qg (a.old m2),if_pos ⟨by simp,by simp [p2.hC.one]⟩];rfl
  have a2:=a.step k2 p2 (Nat.le_of_lt l2) m2;simp only [pwA,seval,-iQ0,w2,p2.hC.cells,wi];exact⟨_,by omega,i+1,L2,vO,v1,v2,by omega,rfl,rfl,a2⟩
 simp only [pwA,seval,-iQ0];refine zIs (by omega) hjt fun cap2 hc2=>?_
 have a1:=a.fresh (pis (unitL n j)) 8;have hrow:RowX (mkM L h.next 8) (h.new (pis (unitL n j))) σ.next 8 (unitL n j) (.sl h.next 0 n cap2):=RowX.freshN (Zl n j) (by omega) hc2
 simp only [pwA,seval,-iQ0];refine MXN.push (k:=10+i) (mR.keepF _ 8) (by omega) hrow a1.keep (Nat.le_refl _) (by show σ.next≤h.next+1;omega) (by rw [zEL];omega) fun v2 h2 L2 k2 p2 l2 hL2 ho2 _=>?_
 have e:unitL n j=unitL n (i+1+(j-(i+1))):=by rw [show i+1+(j-(i+1))=j by omega]
 rw [e,zFU]at p2
 have wj:IntKind.i64.wrap ((j:Int)+1)=((j+1:Nat):Int):=by rw [wrap64 (by omega) (by omega)];omega
 simp only [pwA,seval,-iQ0,wj];refine⟨_,by omega,j+1,L2,v2,by omega,by omega,rfl,rfl,a1.keepM k2 (Nat.le_of_lt l2) (i:=i) ho2 hL2 (by rw [Qf];exact Nat.le_refl _),?_⟩
 rw [show j+1-(i+1)=j-(i+1)+1 by omega];exact .inr p2
theorem zFB (hX:FI vX O) (hb:O.length≤900) (hk:∀wO wP wC,IsPr wO wP wC O (trP O.length O.length) (trC O.length O.length)→K (.agg [wO,wP,wC]) σ):zA Tryz.prog 50 [vX] σ K:=by
 obtain⟨w,a,rfl⟩:=hX;exact zA.gh (zGB rfl hb (fun _ hk'=>zB6 rfl (by omega) hk') fun L h vO vP vC kk a=>a.fin kk (Nat.le_refl _) hk)
theorem zDv (hL:FII vL M) (hm:M.length≤900) (hr:∀r∈M,r.length≤1048576) (hk1:1≤k) (hb:b≤σ.next)
  (hk:∀L' h v,Keep σ h→(∀t,t<σ.next→L t≠8→L' t=L t)→MX L' h b k M v→K v h):zA Tryz.prog 58 [vL] σ K:=by
 obtain⟨w,a,rows,rfl,hall⟩:=hL;refine zS mix Tryz.func58 ?_;simp only [pwA,seval,-iQ0];refine zB (fun m vs h=>∃(i:Nat) (L':Nat→Nat) (v:PV),i≤M.length∧m=M.length-i∧vs=[.fz w a M.length rows,v,.int .i64 i]∧Keep σ h∧(∀t,t<σ.next→L t≠8→L' t=L t)∧MX L' h σ.next k (M.take i) v) M.length ?_ ?_
 ·exact⟨0,mkM L σ.next (1000*k),.sl σ.next 0 0 (.known 0),Nat.zero_le _,rfl,rfl,zD _ _,fun t ht _=>Z4 (Nat.le_refl _) t ht,σ.next,.known 0,[],rfl,.inr rfl,by rw [zT,if_pos rfl],Nat.le_refl _,Nat.lt_succ_self _,Zt,Nat.zero_le _,zBM⟩
 rintro m vs h ⟨i,L',v,hi,rfl,rfl,kk,hL',mR⟩
 have hnx:=kk.next;simp only [pwA,seval,-iQ0];refine iteI (fun hlt=>?_) fun hge=>?_
 rotate_left
 ·have e:i=M.length:=by omega
  rw [e,List.take_length]at mR
  exact hk L' h v kk hL' (mR.low hb)
 obtain⟨w1,a1,hr1⟩:=hall.rowI hlt;have hlt':(i:Int)<(M.length:Int):=by omega
 simp only [pwA,seval,-iQ0,hlt,hlt',hr1];refine zB6 rfl (by have:=hr _ (List.getElem_mem hlt);omega) fun cap hc=>?_
 have hrow:RowX (mkM L' h.next 8) (h.new (pis M[i])) σ.next 8 M[i] (.sl h.next 0 M[i].length cap):=RowX.fresh (by omega) hc
 simp only [pwA,seval,-iQ0];refine MXN.push (σ:=σ) (b:=σ.next) (k:=k) (MXN.keepF (.inr mR) _ 8) hk1 hrow (kk.new _) (Nat.le_refl _) (by show σ.next≤h.next+1;omega) (by rw [List.length_take];omega) fun v2 h2 L2 k2 p2 l2 hL2 ho2 _=>?_
 have l2':h.next+1<h2.next:=l2;rw [←List.take_succ_eq_append_getElem hlt]at p2
 simp only [pwA,seval,-iQ0,wrapS hlt (by omega:M.length≤4611686018427387904)]
 exact⟨_,by omega,i+1,L2,v2,by omega,rfl,rfl,k2,fun t ht hne=>by rw [hL2 t (by show t<h.next+1;omega) (by rw [Z4 (Nat.le_refl _) t (by omega),hL' t ht hne];exact hne),Z4 (Nat.le_refl _) t (by omega)];exact hL' t ht hne,p2⟩
theorem zMA (hR:IsPr vO vP vC O P C) (hO:O.length≤1000) (hP:P.length≤900) (hC:C.length≤900) (hCl:∀q∈C,q.length≤900) (hqP:∀r∈P,r.length≤1048576) (hqC:∀q∈C,∀r∈q,r.length≤1048576)
  (hk:∀L h wO wP wC,Keep σ h→PX L σ.next h O P C wO wP wC→K (.agg [wO,wP,wC]) h):zA Tryz.prog 23 [.agg [vO,vP,vC]] σ K:=by
 have g0:=hR.O.one;have g1:=hR.P.one;have g2:=hR.C.one;obtain⟨⟨wO,aO,rfl⟩,hRP,hRC⟩:=hR;obtain⟨w2,a2,rC,rfl,hrC⟩:=hRC;refine zS mix Tryz.func23 ?_;simp only [pwA,seval,-iQ0,g0,g1];refine zB6 rfl (by omega) fun cap hc=>?_
 simp only [pwA,seval,-iQ0,g0,g1];generalize hH:(((((σ.new [PV.fz wO aO O.length (pis O),vP,PV.fz w2 a2 C.length rC]).new [PV.fz true AV.nils 0 [],PV.fz true AV.nils 0 [],PV.fz true AV.nils 0 []]).new [PV.fz true AV.nils 0 [],PV.fz true AV.nils 0 [],PV.fz true AV.nils 0 []]).new (pis O)))=H;have hHn:H.next=σ.next+4:=by rw [←hH];rfl
 have kH:Keep σ H:=by rw [←hH];exact(((zD _ _).new _).new _).new _
 have ob0:H.obj σ.next=some [PV.fz wO aO O.length (pis O),vP,PV.fz w2 a2 C.length rC]:=by rw [←hH];simp only [pwA,seval,-iQ0]
 have ob1:H.obj (σ.next+1)=some [PV.fz true AV.nils 0 [],PV.fz true AV.nils 0 [],PV.fz true AV.nils 0 []]:=by rw [←hH];simp only [pwA,seval,-iQ0]
 have ob2:H.obj (σ.next+2)=some [PV.fz true AV.nils 0 [],PV.fz true AV.nils 0 [],PV.fz true AV.nils 0 []]:=by rw [←hH];simp only [pwA,seval,-iQ0]
 have ob3:H.obj (σ.next+3)=some (pis O):=by rw [←hH];simp only [pwA,seval,-iQ0]
 clear hH;obtain⟨L0,hL0⟩:∃L0:Nat→Nat,L0=fun t=>if t=σ.next+3 then 5 else 7:=⟨_,rfl⟩
 have l5:L0 (σ.next+3)=5:=by rw [hL0];simp
 have l7:∀t,t≠σ.next+3→L0 t=7:=fun t ht=>by rw [hL0];simp [ht]
 clear hL0;refine zDv (L:=L0) (k:=2) (b:=σ.next) hRP hP hqP (by decide) (by omega) fun L1 h1 v1 k1 e1 m1=>?_
 have hn1:=k1.next;have r2:h1.rd1 σ.next 1=some vP:=by rw [qF (by rw [k1.obj _ (by omega)];exact ob0)];rfl
 have o2:h1.obj (σ.next+2)=some [PV.fz true AV.nils 0 [],PV.fz true AV.nils 0 [],PV.fz true AV.nils 0 []]:=by rw [k1.obj _ (by omega)];exact ob2
 have w2':h1.wr (σ.next+2) 0 [.sl (σ.next+3) 0 O.length cap,v1,.fz true .nils 0 []]=some (h1.set (σ.next+2) [.sl (σ.next+3) 0 O.length cap,v1,.fz true .nils 0 []]):=by
  rw [qg o2,if_pos ⟨by simp,by simp [m1.one];exact⟨rfl,rfl⟩⟩];rfl
 simp only [pwA,seval,-iQ0,m1.one,m1.cells,w2'];have pw1:PX L1 σ.next h1 O P [] (.sl (σ.next+3) 0 O.length cap) v1 (.fz true .nils 0 []):=
  ⟨.inr ⟨σ.next+3,cap,rfl,hc,by rw [k1.obj _ (by omega)];exact ob3,by omega,by omega,by rw [e1 _ (by omega) (by omega)];exact l5⟩,.inr m1,.inl ⟨rfl,rfl⟩⟩
 have t1:TvX σ (h1.set (σ.next+2) [.sl (σ.next+3) 0 O.length cap,v1,.fz true .nils 0 []]) O L1 P [] (σ.next+1) (σ.next+2) (.sl (σ.next+3) 0 O.length cap) v1 (.fz true .nils 0 []):=
  ⟨(kH.trans k1).set (by omega) _,by rw [zg,if_neg (by omega),k1.obj _ (by omega)];exact ob1,by rw [zg,if_pos rfl],pw1.set7 (by rw [e1 _ (by omega) (by rw [l7 _ (by omega)];decide),l7 _ (by omega)]) _,by rw [e1 _ (by omega) (by rw [l7 _ (by omega)];decide),l7 _ (by omega)],by rw [e1 _ (by omega) (by rw [l7 _ (by omega)];decide),l7 _ (by omega)],by omega,⟨by omega,by show _<h1.next;omega⟩,⟨by omega,by show _<h1.next;omega⟩⟩
 refine zB (fun m vs h=>∃(i:Nat) (L:Nat→Nat) (vC:PV),i≤C.length∧m=C.length-i∧vs=[.ptr σ.next 0,.ptr (σ.next+1) 0,.ptr (σ.next+2) 0,.int .i64 i]∧TvX σ h O L P (C.take i) (σ.next+1) (σ.next+2) (.sl (σ.next+3) 0 O.length cap) v1 vC∧
  h.obj σ.next=some [PV.fz wO aO O.length (pis O),vP,PV.fz w2 a2 C.length rC]∧L σ.next=7) C.length ?_ ?_
 ·exact⟨0,L1,_,Nat.zero_le _,rfl,rfl,t1,by rw [zg,if_neg (by omega),k1.obj _ (by omega)];exact ob0,by rw [e1 _ (by omega) (by rw [l7 _ (by omega)];decide),l7 _ (by omega)]⟩
 clear t1 pw1 w2' o2 r2 hn1 m1 e1 k1 ob0 ob1 ob2 ob3 kH hHn l5 l7
 rintro m vs h ⟨i,L,vC,hi,rfl,rfl,a,oB,lB⟩
 have hnn:=a.ns.2;have rB:h.rd1 σ.next 2=some (.fz w2 a2 C.length rC):=by rw [qF oB];rfl
 simp only [pwA,seval,-iQ0,rB];refine iteI (fun hlt=>?_) fun hge=>?_
 rotate_left
 ·have e:i=C.length:=by omega
  rw [e,List.take_length]at a
  obtain⟨e1,e2,e3,e4⟩:=a.fin;simp only [pwA,seval,-iQ0,a.r3,e1,e2];exact hk L _ _ _ vC e3 e4
 have hlt':(i:Int)<(C.length:Int):=by omega
 obtain⟨w4,a4,rs4,hr,hrs⟩:=hrC.rowL hlt;simp only [pwA,seval,-iQ0,hlt,hlt',hr,rB,a.r2];refine zDv (L:=L) (k:=10+i) (b:=σ.next) ⟨w4,a4,rs4,rfl,hrs⟩ (hCl _ (List.getElem_mem hlt)) (hqC _ (List.getElem_mem hlt)) (by omega) (by omega) fun L2 h2 v2 k2 e2 m2=>?_
 have a2:=a.keepM (a.keep.trans k2) k2.next (i:=i) (fun t ht _=>k2.obj t ht) e2 (by rw [List.length_take];omega)
 have hnn2:=a2.ns.2;have n2:¬σ.next+2=h2.next:=by omega
 simp only [pwA,seval,-iQ0,a2.r2,n2,m2.one,m2.cells];refine PX.pushC a2.pw (by rw [List.length_take,Nat.min_eq_left (Nat.le_of_lt hlt)];exact .inr m2) a2.keep (Nat.le_refl _) (by omega) (by rw [List.length_take];omega) fun v3 h3 L3 k3 p3 l3 o3 m3=>?_
 rw [←List.take_succ_eq_append_getElem hlt]at p3
 have w3:h3.wr (σ.next+2) 2 [v3]=some (h3.set (σ.next+2) [.sl (σ.next+3) 0 O.length cap,v1,v3]):=by rw [qg (a2.old m3),if_pos ⟨by simp,by simp [p3.hC.one]⟩];rfl
 have a3:=a2.step k3 p3 (Nat.le_of_lt l3) m3;have q7:=m3 σ.next (by omega) (by rw [e2 _ (by omega) (by omega),lB])
 simp only [pwA,seval,-iQ0,w3,p3.hC.cells,wrapS hlt (by omega:C.length≤4611686018427387904)]
 refine⟨_,by omega,i+1,L3,v3,by omega,rfl,rfl,a3,?_,by rw [q7.2,e2 _ (by omega) (by omega)];exact lB⟩
 first | (rw [zg,if_neg (by omega),q7.1,k2.obj _ (by omega)];exact oB) | (rw [q7.1,k2.obj _ (by omega)];exact oB)
end Go.Proofs
