/- impl.CertificateText, and the law of certificates' texts: its function answers true. -/
import Derived.Test.YtmiobhfjmhgplaaDoorAP30
import Derived.Test.YtmiobhfjmhgplaaDoorAAbPm
import Derived.Test.YtmiobhfjmhgplaaDoorAAbPz
import Derived.Test.YtmiobhfjmhgplaaDoorAP33
import Derived.Test.YtmiobhfjmhgplaaDoorAP19
import Derived.Test.YtmiobhfjmhgplaaDoorAAbQu
import Derived.Test.YtmiobhfjmhgplaaDoorAP35
import Derived.Lib.ItoaNum
import Derived.IntWalk
import Derived.Lib.AppendIntMem
import Derived.WalkKit
import Derived.BigCall
import Derived.LoopTactic
import Derived.Outline
import Derived.WalkSmall
import Derived.Lib.Hide
open Int renaming reduceNatCast'→iQ0
set_option maxRecDepth 100000
set_option linter.unusedSimpArgs false
set_option linter.unusedVariables false
namespace Go.Proofs
open Go.Ab Go.Lie
variable {σ σ0 σ1:PHeap} {K:PV→PHeap→Prop} {vC:PV} {bs:List Int} {s:Nat} {a sd:Int}
def FB (v:PV) (bs:List Int):Prop:=∃w a,v=.fz w a bs.length (bs.map (.int .u8))
theorem FB.one {v:PV} (h:FB v bs):v.one=true:=by obtain⟨w,a,rfl⟩:=h;rfl
end Go.Proofs
namespace Go.Grp
end Go.Grp
set_option linter.unusedSectionVars false
namespace Go.Proofs
open Go.Ab Go.Lie Go.Grp
variable {σ σ0 h h':PHeap} {K:PV→PHeap→Prop} {b k nP nC r s0 i j n:Nat} {v vO vP vC c vX vS vL vM:PV} {x O xs bs:List Int} {P M:List (List Int)} {C:List (List (List Int))} {cs:List PV} {s t:List UInt8}
theorem Qf {z:Int} (h0:0≤z) (h1:z<256):IntKind.u8.wrap z=z:=by
 unfold IntKind.wrap;have e:z % (2 ^ IntKind.u8.bits:Int)=z:=by
  have:(2 ^ IntKind.u8.bits:Int)=256:=by decide
  rw [this];omega
 have e2:IntKind.u8.signed=false:=rfl;simp only [e,e2,Bool.false_and,Bool.false_eq_true,if_false]
end Go.Proofs
namespace Go.Grp
end Go.Grp
namespace Go.Proofs
open Go.Ab Go.Lie Go.Grp
variable {σ σ0 h h':PHeap} {K:PV→PHeap→Prop} {b k nP nC r s0 i j n:Nat} {v vO vP vC c vX vS vL vM:PV} {x O xs bs:List Int} {P M:List (List Int)} {C:List (List (List Int))} {cs:List PV} {s t:List UInt8}
theorem zA2 {g:PHeap} {z:Int}:qi (g.new [.int .u8 z]) (.sl g.next 0 1 (.known 1))=some [UInt8.ofNat z.toNat]:=by
 simp only [pwA,seval,-iQ0,qi];rw [Qp];simp only [pwA,seval,-iQ0]
 rfl
end Go.Proofs
namespace Go.Grp
end Go.Grp
namespace Go.Proofs
open Go.Ab Go.Lie Go.Grp
variable {σ σ0 h h':PHeap} {K:PV→PHeap→Prop} {b k r s0 i j n:Nat} {v vO vP vC c vX vS vL vM:PV} {x O xs bs:List Int} {P M:List (List Int)} {C:List (List (List Int))} {cs:List PV} {s t:List UInt8}
theorem zBt {n:Int} (h0:0≤n) (h:n<10):Lib.decDigits n.toNat=[UInt8.ofNat (48+n).toNat]:=by
 rw [Lib.decDigits,dif_pos (by omega),show(48+n).toNat=48+n.toNat by omega]
theorem zHS {n:Int} (h0:0≤n) (h:¬n<10):Lib.decDigits n.toNat=Lib.decDigits (n.tdiv 10).toNat++[UInt8.ofNat (48+n.tmod 10).toNat]:=by
 rw [Lib.decDigits,dif_neg (by omega),Int.tdiv_eq_ediv_of_nonneg h0,Int.tmod_eq_emod_of_nonneg h0]
 rw [show(n / 10).toNat=n.toNat / 10 by omega,show(48+n % 10).toNat=48+n.toNat % 10 by omega]
theorem qX:∀(k n:Nat),n<10 ^ (k+1)→(Lib.decDigits n).length≤k+1
 | 0,n,h=>by rw [Lib.decDigits,dif_pos (by simpa using h)];simp
 | k+1,n,h=>by
  by_cases h10:n<10
  ·rw [Lib.decDigits,dif_pos h10];simp
  ·rw [Lib.decDigits,dif_neg h10,List.length_append,List.length_singleton]
   have:=qX k (n / 10) (by rw [Nat.pow_succ]at h;omega)
   omega
theorem zGY {n:Int} (k:Nat) (hn:0≤n∧n≤1000000∧n<10 ^ (k+1)) (hkk:k≤100) (hk:K (.str (Lib.decDigits n.toNat)) σ):zA Tryd.prog 24 [.int .i64 n] σ K:=by
 induction k generalizing n σ K with
 | zero=>
  have h10:n<10:=by have:=hn.2.2;simpa using this
  have w1:IntKind.i64.wrap (48+n)=48+n:=wrap64 (by omega) (by omega)
  have w2:IntKind.u8.wrap (48+n)=48+n:=Qf (by omega) (by omega)
  rw [zBt hn.1 h10]at hk
  refine zA.gh ?_;refine zR mix Tryd.func24 cf24 rfl ?_;dsimp only [if24,qI,eI,qD,eD,mI0,cI0,mD0,I0,R0,S0];simp only [pwA,seval,-iQ0,h10,w1,w2,ZB,zA2];exact Gh.fin0 (zF _ _) trivial hk
 | succ k ih=>
  by_cases h10:n<10
  ·have w1:IntKind.i64.wrap (48+n)=48+n:=wrap64 (by omega) (by omega)
   have w2:IntKind.u8.wrap (48+n)=48+n:=Qf (by omega) (by omega)
   rw [zBt hn.1 h10]at hk
   refine zA.gh ?_;refine zR mix Tryd.func24 cf24 rfl ?_;dsimp only [if24,qI,eI,qD,eD,mI0,cI0,mD0,I0,R0,S0];simp only [pwA,seval,-iQ0,h10,w1,w2,ZB,zA2];exact Gh.fin0 (zF _ _) trivial hk
  have q0:0≤n.tdiv 10:=Int.tdiv_nonneg hn.1 (by decide)
  have q1:n.tdiv 10≤1000000∧n.tdiv 10<10 ^ (k+1):=by
   have e:n.tdiv 10=n / 10:=Int.tdiv_eq_ediv_of_nonneg hn.1
   have:=hn.2.2
   rw [Int.pow_succ]at this
   rw [e];omega
  have r0:0≤n.tmod 10∧n.tmod 10<10:=⟨Int.tmod_nonneg _ hn.1,Int.tmod_lt_of_pos _ (by decide)⟩
  have w0:IntKind.i64.wrap (n.tdiv 10)=n.tdiv 10:=wrap64 (by omega) (by omega)
  have w3:IntKind.i64.wrap (n.tmod 10)=n.tmod 10:=wrap64 (by omega) (by omega)
  have w1:IntKind.i64.wrap (48+n.tmod 10)=48+n.tmod 10:=wrap64 (by omega) (by omega)
  have w2:IntKind.u8.wrap (48+n.tmod 10)=48+n.tmod 10:=Qf (by omega) (by omega)
  rw [zHS hn.1 h10]at hk
  have hl:(Lib.decDigits (n.tdiv 10).toNat).length+1≤9223372036854775807:=by
   have:=qX k (n.tdiv 10).toNat (by
    have h2:((n.tdiv 10).toNat:Int)<((10 ^ (k+1):Nat):Int):=by rw [Int.toNat_of_nonneg q0];exact_mod_cast q1.2
    exact_mod_cast h2)
   omega
  have ihc:∀{g:PHeap} {K':PV→PHeap→Prop},K' (.str (Lib.decDigits (n.tdiv 10).toNat)) g→zA Tryd.prog 24 [.int .i64 (n.tdiv 10)] g K':=fun hk'=>ih ⟨q0,q1.1,q1.2⟩ (by omega) hk'
  generalize Lib.decDigits (n.tdiv 10).toNat=q at *
  refine zA.gh ?_;refine zR mix Tryd.func24 cf24 rfl ?_;dsimp only [if24,qI,eI,qD,eD,mI0,cI0,mD0,I0,R0,S0];simp only [pwA,seval,-iQ0,h10,w0,w1,w2,w3,ZB,zA2,zDl,TVp_e,TVp_q,zC3,zC2];refine⟨?_,?_,?_⟩
  all_goals
   refine ihc ?_;simp only [pwA,seval,-iQ0,h10,w0,w1,w2,w3,ZB,zA2,zDl,TVp_e,TVp_q,zC3,zC2,hl];exact Gh.fin0 (zF _ _) trivial hk
def wordB (w:List Int):List UInt8:=if w=[]then [49]else w.map fun l=>UInt8.ofNat (96+l).toNat
theorem QQ (f:Int→Int):∀w:List Int,Zl (w.map fun l=>PV.int .u8 (f l))=some (w.map fun l=>UInt8.ofNat (f l).toNat)
 | []=>rfl
 | l::w=>by simp only [List.map_cons,Zl,QQ f w,Option.map_some]
theorem PSl.bytesX {cells:List PV} {q:List UInt8} (a:PSl b 1 h v cells.length cells) (e1:Zl cells=some q):qi h v=some q:=by
 obtain⟨s,cap,rfl,h1,h2,h3,h4,h5⟩:=a;unfold qi;rw [zDo];simp only [Option.bind_some];rw [Qp]
 by_cases h0:cells.length=0
 ·have:cells=[]:=List.length_eq_zero_iff.1 h0
  subst this;rw [if_pos h0];exact e1
 ·rw [if_neg h0,if_pos (Nat.le_refl _),Nat.mul_one,zFZ h2,if_pos (by omega),List.drop_zero,List.take_length]
  exact e1
theorem zBq {w:Bool} {aa:AV} (hn:x.length≤1000) (hx:∀l∈x,1≤l∧l≤26) (hk:K (.str (wordB x)) σ):zA Tryd.prog 44 [.fz w aa x.length (pis x)] σ K:=by
 unfold wordB at hk
 refine zA.gh ?_;refine zR mix Tryd.func44 cf44 rfl ?_;dsimp only [if44,qI,eI,mI0,kI0,lI0,xI0,bI0,cI0,sI0,I0,R0,S0]
 by_cases h0:x.length=0
 ·have d0:((x.length:Nat):Int)=0:=by omega
  rw [if_pos (List.length_eq_zero_iff.1 h0)]at hk
  simp only [pwA,seval,-iQ0,d0];exact Gh.fin0 (Keep.refl _) trivial hk
 have d0:¬((x.length:Nat):Int)=0:=by omega
 rw [if_neg (fun e=>h0 (by rw [e];rfl))]at hk
 simp only [pwA,seval,-iQ0,d0];refine zC (fun m vs h=>∃(i:Nat) (v:PV),i≤x.length∧m=x.length-i∧vs=[.fz w aa x.length (pis x),v,.int .i64 i]∧Keep σ h∧PSl σ.next 1 h v i ((x.take i).map fun l=>PV.int .u8 (96+l))) x.length ?_ ?_
 ·exact⟨0,_,Nat.zero_le _,rfl,rfl,zF _ _,PSl.new _ 1 rfl (Nat.le_refl _)⟩
 rintro m vs h ⟨i,v,hi,rfl,rfl,kk,pa⟩
 have h1:=pa.one;simp only [pwA,seval,-iQ0,h1];refine iteI (fun hlt=>?_) fun hge=>?_
 ·have hlt':(i:Int)<(x.length:Int):=by omega
  have gx:(pis x)[i]? = some (.int .i64 x[i]):=by rw [zN,gi hlt];rfl
  have b1:=hx _ (List.getElem_mem hlt);have hp:(0:Int)<x[i]:=by omega
  have w1:IntKind.i64.wrap (97+x[i])=97+x[i]:=wrap64 (by omega) (by omega)
  have w2:IntKind.i64.wrap (97+x[i] - 1)=96+x[i]:=by rw [wrap64 (by omega) (by omega)];omega
  have w3:IntKind.u8.wrap (96+x[i])=96+x[i]:=Qf (by omega) (by omega)
  simp only [pwA,seval,-iQ0,h1,hlt,hlt',gx,hp,w1,w2,w3];refine PSl.push (σb:=σ) (bytes:=1) kk pa (by omega) (by omega) fun v2 h2 k2 a2=>?_
  have h3:=a2.one;simp only [pwA,seval,-iQ0,h3,wrapS hlt (by omega:x.length≤4611686018427387904)]
  exact⟨_,by omega,i+1,v2,by omega,rfl,rfl,k2,by rw [List.take_succ_eq_append_getElem hlt,List.map_append];exact a2⟩
 have hie:i=x.length:=by omega
 subst hie;rw [List.take_length]at pa
 have e1:=QQ (fun l=>96+l) x
 have e2:qi h v=some (x.map fun l=>UInt8.ofNat (96+l).toNat):=PSl.bytesX (by rw [List.length_map];exact pa) e1
 simp only [pwA,seval,-iQ0,h1,ZB,e2];exact Gh.fin0 kk trivial hk
end Go.Proofs
namespace Go.Grp
end Go.Grp
namespace Go.Proofs
open Go.Ab Go.Lie Go.Grp
variable {σ σ0 h h':PHeap} {K:PV→PHeap→Prop} {b k nP nC r s0 i j n:Nat} {v vO vP vC c vX vS vL vM:PV} {x O xs bs:List Int} {P M:List (List Int)} {C:List (List (List Int))} {cs:List PV} {s t:List UInt8}
theorem zGS {α:Type} {c:Prop} [Decidable c] {a:α} {K:α→Prop} (hc:c) (hk:K a):optK (if c then some a else none) K:=by rw [if_pos hc];exact⟨a,rfl,hk⟩
theorem zJ {α:Type} {c:Prop} [Decidable c] {a:α} {K:α→Prop} (hk:K a) (hc:c:=by first | omega | (simp only [List.length_append,List.length_cons,List.length_nil];omega)):optK (if c then some a else none) K:=zGS hc hk
end Go.Proofs
namespace Go.Grp
end Go.Grp
namespace Go.Proofs
open Go.Ab Go.Lie Go.Grp
variable {σ σ0 h h':PHeap} {K:PV→PHeap→Prop} {b k nP nC r s0 i j n:Nat} {v vO vP vC c vX vS vL vM:PV} {x O xs bs:List Int} {P M:List (List Int)} {C:List (List (List Int))} {cs:List PV} {s t:List UInt8}
def letB (i:Nat):UInt8:=UInt8.ofNat (97+i)
def ordT (O:List Int):Nat→List UInt8
 | 0=>[]
 | i+1=>(if 0<i then ordT O i++[32]else ordT O i)++Lib.decDigits (at_ O i).toNat
def powT (O:List Int) (P:List (List Int)) (q:List UInt8):Nat→List UInt8
 | 0=>q
 | i+1=>if isZ (pvec P i)then powT O P q i else powT O P q i++[59,32]++[letB i]++[94]++Lib.decDigits (at_ O i).toNat++[61]++wordB (Mx.nw (pvec P i))
def conTr (n:Nat) (C:List (List (List Int))) (q:List UInt8) (i:Nat):Nat→List UInt8
 | 0=>q
 | k+1=>if cvec C i (i+1+k)=unitL n (i+1+k)then conTr n C q i k else conTr n C q i k++[59,32]++[letB (i+1+k)]++[94]++[letB i]++[61]++wordB (Mx.nw (cvec C i (i+1+k)))
def conT (n:Nat) (C:List (List (List Int))) (q:List UInt8):Nat→List UInt8
 | 0=>q
 | i+1=>conTr n C (conT n C q i) i (n-1-i)
def prT (O:List Int) (P:List (List Int)) (C:List (List (List Int))):List UInt8:=
 if O.length=0 then [49]else conT O.length C (powT O P (ordT O O.length) O.length) O.length
theorem QU {n:Int} (k:Nat) (hn:0≤n∧n≤1000000∧n<10 ^ (k+1)) (hkk:k≤100) (hk:∀q:List UInt8,q=Lib.decDigits n.toNat→q.length≤k+1→K (.str q) σ):zA Tryd.prog 24 [.int .i64 n] σ K:=
 zGY k hn hkk (hk _ rfl (qX k _ (by
  have h2:(n.toNat:Int)<((10 ^ (k+1):Nat):Int):=by rw [Int.toNat_of_nonneg hn.1];exact_mod_cast hn.2.2
  exact_mod_cast h2)))
theorem zBp {w:Bool} {aa:AV} (hn:x.length≤42) (hx:∀l∈x,1≤l∧l≤26) (hk:∀q:List UInt8,q=wordB x→q.length≤43→K (.str q) σ):zA Tryd.prog 44 [.fz w aa x.length (pis x)] σ K:=
 zBq (by omega) hx (hk _ rfl (by
  unfold wordB
  split
  ·simp
  ·rw [List.length_map];omega))
theorem zEa {z:Int} (hz:1≤z∧z≤26) (ho:σ.obj s0=some [.int .i64 z]) (hk:K (.str (wordB [z])) (σ.kill s0)):zA Tryd.prog 44 [.sl s0 0 1 (.known 1)] σ K:=by
 refine zA.frz ho ⟨trivial,trivial⟩ fun o=>?_
 have e:sbs s0 o [.int .i64 z] [.sl s0 0 1 (.known 1)]=[.fz true (.sl o 0 1 (.known 1)) 1 [.int .i64 z]]:=by simp [sbs,sb,capOK]
 rw [e];exact zBq (x:=[z]) (by simp) (fun l hl=>by rw [List.mem_singleton.1 hl];exact hz) hk
theorem QA {i:Nat} (hi:i≤20) (hk:∀q:List UInt8,q=[letB i]→q.length≤1→K (.str q) σ):zA Tryd.prog 43 [.int .i64 i] σ K:=by
 have w1:IntKind.i64.wrap ((i:Int)+1)=(i:Int)+1:=wrap64 (by omega) (by omega)
 refine zA.gh ?_;refine zD mix Tryd.func43 ?_;simp only [pwA,seval,-iQ0,w1];refine zEa (z:=(i:Int)+1) (by omega) (by rw [Zj,if_pos rfl]) ?_
 simp only [pwA,seval,-iQ0];refine Gh.fin0 ((zF _ _).kill (Nat.le_refl _)) trivial (hk _ ?_ (by simp [wordB]))
 simp only [wordB,letB,List.map_cons,List.map_nil,reduceCtorEq,if_false];rw [show(96+((i:Int)+1)).toNat=97+i by omega]
theorem zy {x:List Int} (hn:x.length≤6) (hx:∀a∈x,0≤a∧a≤7):(Mx.nw x).length≤42∧∀l∈Mx.nw x,1≤l∧l≤26:=by
 have hb:∀j,nx x j≤7:=fun j=>by
  unfold nx;rcases Nat.lt_or_ge j x.length with h|h
  ·rw [at_eq h];have:=hx _ (List.getElem_mem h);omega
  ·unfold at_;rw [List.getD_eq_getElem?_getD,List.getElem?_eq_none h];simp
 refine⟨?_,fun l hl=>by have:=Mx.nword_in (x:=x) (n:=x.length) (Nat.le_refl _) l hl;omega⟩
 have h1:=Mx.nword_length (x:=x) (b:=7) hb x.length
 have:x.length*7≤42:=by omega
 show(Mx.nword x x.length).length≤42
 omega
theorem zBo (hv:FI v x) (hn:x.length≤6) (hx:∀a∈x,0≤a∧a≤7) (hk:∀u,FI u (Mx.nw x)→K u σ):zA Tryd.prog 45 [v] σ K:=by
 obtain⟨w,a,rfl⟩:=hv;have hnl:∀i,i≤x.length→(Mx.nword x i).length≤7*i:=fun i=>by
  induction i with
  | zero=>intro _;exact Nat.le_refl _
  | succ i ih=>
   intro hi
   have:=ih (by omega)
   have b:=hx _ (List.getElem_mem (show i<x.length by omega))
   rw [Mx.nword,List.length_append,List.length_replicate];have e:nx x i=(x[i]'(by omega)).toNat:=by unfold nx;rw [at_eq (by omega)]
   rw [e];omega
 refine zA.gh ?_;refine zD mix Tryd.func45 ?_;simp only [pwA,seval,-iQ0];refine zC (fun m vs h=>∃(i:Nat) (v:PV),i≤x.length∧m=x.length-i∧vs=[.fz w a x.length (pis x),v,.int .i64 i]∧Keep σ h∧PSl σ.next 1 h v (Mx.nword x i).length (pis (Mx.nword x i))) x.length ?_ ?_
 ·exact⟨0,_,Nat.zero_le _,rfl,rfl,zF _ _,PSl.new _ 1 rfl (Nat.le_refl _)⟩
 rintro m vs h ⟨i,v,hi,rfl,rfl,kk,pa⟩
 have h1:=pa.one;have hul:=hnl i hi;simp only [pwA,seval,-iQ0,h1];refine iteI (fun hlt=>?_) fun hge=>?_
 rotate_left
 ·obtain rfl:i=x.length:=by omega
  exact pa.fin kk (ZZ _ _) fun o cap=>hk _ ⟨true,_,rfl⟩
 have hlt':(i:Int)<(x.length:Int):=by omega
 have gx:(pis x)[i]? = some (.int .i64 x[i]):=by rw [zN,gi hlt];rfl
 have xb:=hx _ (List.getElem_mem hlt);refine zC (fun m vs h=>∃(j:Nat) (v:PV),(j:Int)≤x[i]∧m=7-j∧vs=[.fz w a x.length (pis x),v,.int .i64 i,.int .i64 j]∧Keep σ h∧PSl σ.next 1 h v (Mx.nword x i++List.replicate j ((i:Int)+1)).length (pis (Mx.nword x i++List.replicate j ((i:Int)+1)))) 7 ?_ ?_
 ·exact⟨0,v,by omega,rfl,rfl,kk,by rw [List.replicate_zero,List.append_nil];exact pa⟩
 clear pa kk h1
 rintro m vs h ⟨j,v,hj,rfl,rfl,kk,pa⟩
 have h1:=pa.one;have hll:(Mx.nword x i++List.replicate j ((i:Int)+1)).length=(Mx.nword x i).length+j:=by rw [List.length_append,List.length_replicate]
 simp only [pwA,seval,-iQ0,h1,hlt,hlt',gx];refine iteI (fun hjt=>?_) fun hge=>?_
 rotate_left
 ·have e:Mx.nword x i++List.replicate j ((i:Int)+1)=Mx.nword x (i+1):=by
   rw [Mx.nword]
   have:nx x i=j:=by unfold nx;rw [at_eq hlt];omega
   rw [this]
  rw [e]at pa
  simp only [pwA,seval,-iQ0,h1,wrapS hlt (by omega:x.length≤4611686018427387904)]
  exact⟨_,by omega,i+1,v,by omega,rfl,rfl,kk,pa⟩
 have wi:IntKind.i64.wrap ((i:Int)+1)=(i:Int)+1:=wrap64 (by omega) (by omega)
 have wj:IntKind.i64.wrap ((j:Int)+1)=((j+1:Nat):Int):=by rw [wrap64 (by omega) (by omega)];omega
 simp only [pwA,seval,-iQ0,h1,wi];refine PSl.push (σb:=σ) (bytes:=8) kk pa (by omega) (by omega) fun v2 h2 k2 a2=>?_
 have h3:=a2.one;simp only [pwA,seval,-iQ0,h3,wj];have e:Mx.nword x i++List.replicate (j+1) ((i:Int)+1)=(Mx.nword x i++List.replicate j ((i:Int)+1))++[(i:Int)+1]:=by rw [List.replicate_succ',List.append_assoc]
 have e2:∀z:List Int,pis (z++[(i:Int)+1])=pis z++[.int .i64 ((i:Int)+1)]:=fun z=>by simp [pis]
 have fin:∀{z:List Int},PSl σ.next 1 h2 v2 (z.length+1) (pis z++[.int .i64 ((i:Int)+1)])→PSl σ.next 1 h2 v2 (z++[(i:Int)+1]).length (pis (z++[(i:Int)+1])):=fun h=>by rw [e2,List.length_append];exact h
 exact⟨_,by omega,j+1,v2,by omega,rfl,rfl,k2,by rw [e];exact fin a2⟩
theorem zFc (hR:IsPr vO vP vC O P C) (hp:zg O P C) (hk:∀q:List UInt8,q=prT O P C→q.length≤3000→K (.str q) σ):zA Tryd.prog 25 [.agg [vO,vP,vC]] σ K:=by
 have sh:=hp.shp;have hn6:=sh.le;have o1:=hR.O.one;have p1:=hR.P.one;have c1:=hR.C.one;obtain⟨⟨wO,aO,rfl⟩,⟨wP,aP,rP,rfl,hrP⟩,⟨wC,aC,rC,rfl,hrC⟩⟩:=hR;have hpl:=sh.pl;have hcl:=sh.cl;refine zA.gh ?_;refine zR mix Tryd.func25 cf25 rfl ?_;dsimp only [if25,qI,eI,qD,eD,mI0,kI0,lI0,fI0,xI0,bI0,cI0,nI0,sI0,C1,mD0,lD0,fD0,xD0,I0,R0,S0];simp only [pwA,seval,-iQ0,o1,p1,c1];generalize hH:σ.new [PV.fz wO aO O.length (pis O),PV.fz wP aP P.length rP,PV.fz wC aC C.length rC]=H;have kH:Keep σ H:=by rw [←hH];exact zF _ _
 have r0:H.rd1 σ.next 0=some (.fz wO aO O.length (pis O)):=by rw [←hH];simp only [pwA,seval,-iQ0]
 have r1:H.rd1 σ.next 1=some (.fz wP aP P.length rP):=by rw [←hH];simp only [pwA,seval,-iQ0]
 have r2:H.rd1 σ.next 2=some (.fz wC aC C.length rC):=by rw [←hH];simp only [pwA,seval,-iQ0]
 clear hH;have fin:∀{q:List UInt8},q=prT O P C→q.length≤3000→Gh σ K (.str q) H:=fun e l=>Gh.fin0 kH trivial (hk _ e l)
 have hO:∀i (hi:i<O.length),2≤O[i]∧O[i]≤7:=fun i hi=>by have:=sh.pr i hi;rw [at_eq hi]at this;exact this
 have ent:∀{k:Nat} {y:List Int},TT O k y→∀a∈y,0≤a∧a≤7:=fun {k y} h a ha=>by
  obtain⟨j,hj,rfl⟩:=List.mem_iff_getElem.1 ha;have b:=h.bd j (by have:=h.len;omega)
  rw [at_eq hj]at b
  have o:=sh.pr j (by have:=h.len;omega)
  omega
 have PR:∀i (hi:i<P.length),P[i].length=O.length∧∀a∈P[i],0≤a∧a≤7:=fun i hi=>by
  have h:=sh.pw i (by omega)
  have e:pvec P i=P[i]:=by unfold pvec;rw [List.getD_eq_getElem?_getD,List.getElem?_eq_getElem hi];rfl
  rw [e]at h
  exact⟨h.len,ent h⟩
 have CL:∀i (hi:i<C.length),C[i].length=O.length-1-i:=fun i hi=>by
  have h:=sh.row i (by omega)
  rw [List.getD_eq_getElem?_getD,List.getElem?_eq_getElem hi]at h
  exact h
 have CR:∀i (hi:i<C.length) k (hk:k<C[i].length),C[i][k].length=O.length∧∀a∈C[i][k],0≤a∧a≤7:=fun i hi k hk'=>by
  have hl:=CL i hi;have h:=sh.cj i (i+1+k) (by omega) (by omega)
  have e:cvec C i (i+1+k)=C[i][k]:=by
   unfold cvec;rw [show i+1+k-i-1=k by omega,List.getD_eq_getElem?_getD,List.getD_eq_getElem?_getD,List.getElem?_eq_getElem hi]
   simp only [Option.getD_some];rw [List.getElem?_eq_getElem hk'];rfl
  rw [e]at h
  exact⟨h.len,ent h⟩
 have dec:∀{g:PHeap} {K':PV→PHeap→Prop} {a:Int},2≤a∧a≤7→(∀d:List UInt8,d=Lib.decDigits a.toNat→d.length≤6→K' (.str d) g)→zA Tryd.prog 24 [.int .i64 a] g K':=fun {g K' a} ha hk'=>
  QU 5 ⟨by omega,by omega,Int.lt_of_lt_of_le (show a<1000000 by omega) (by decide)⟩ (by decide) hk'
 refine iteI (fun e0=>fin (if_pos (by omega)).symm (by simp)) fun hO0=>?_
 refine zC (fun m vs h=>∃(i:Nat) (q:List UInt8),i≤O.length∧m=O.length-i∧vs=[.ptr σ.next 0,.int .i64 O.length,.str q,.int .i64 i]∧q=ordT O i∧q.length≤9*i∧h=H) O.length ?_ ?_
 ·exact⟨0,[],Nat.zero_le _,rfl,rfl,rfl,Nat.le_refl _,rfl⟩
 rintro m vs h ⟨i,q,hi,rfl,rfl,eq,hq,rfl⟩
 simp only [pwA,seval,-iQ0];refine iteI (fun hlt=>?_) fun hge=>?_
 ·have hlt':(i:Int)<(O.length:Int):=by omega
  have gx:(pis O)[i]? = some (.int .i64 O[i]):=by rw [zN,gi hlt];rfl
  have ob:=hO i hlt;refine iteI (fun hp=>zJ ?_) fun hp=>?_
  all_goals
   simp only [pwA,seval,-iQ0,r0,hlt,hlt',gx];refine dec ob fun d ed hd=>?_
   simp only [pwA,seval,-iQ0];refine zJ ?_;simp only [pwA,seval,-iQ0,wrapS hlt (by omega:O.length≤4611686018427387904)]
   exact⟨_,by omega,i+1,_,by omega,rfl,rfl,by rw [ordT,ed,eq,at_eq hlt];first | rw [if_pos (by omega)] | rw [if_neg (by omega)],by simp only [List.length_append,List.length_cons,List.length_nil];omega⟩
 refine zC (fun m vs h'=>∃(i:Nat) (q:List UInt8),i≤O.length∧m=O.length-i∧vs=[.ptr σ.next 0,.int .i64 O.length,.str q,.int .i64 i]∧q=powT O P (ordT O O.length) i∧q.length≤60+60*i∧h'=h) O.length ?_ ?_
 ·exact⟨0,q,Nat.zero_le _,rfl,rfl,by rw [eq,powT,show i=O.length by omega],by omega,rfl⟩
 clear hq hge hi eq
 rintro m vs h ⟨i,q,hi,rfl,rfl,eq,hq,rfl⟩
 simp only [pwA,seval,-iQ0];refine iteI (fun hlt=>?_) fun hge=>?_
 ·have hltP:i<P.length:=by omega
  have hltP':(i:Int)<(P.length:Int):=by omega
  have hlt':(i:Int)<(O.length:Int):=by omega
  have gx:(pis O)[i]? = some (.int .i64 O[i]):=by rw [zN,gi hlt];rfl
  have ob:=hO i hlt;obtain⟨w4,a4,hr⟩:=hrP.rowI hltP;obtain⟨pl,pe⟩:=PR i hltP;have wi:=wrapS hlt (by omega:O.length≤4611686018427387904)
  simp only [pwA,seval,-iQ0,r0,r1,hltP,hltP',hr];refine zEb rfl (by omega) ?_
  simp only [pwA,seval,-iQ0];have ep:pvec P i=P[i]:=by unfold pvec;rw [List.getD_eq_getElem?_getD,List.getElem?_eq_getElem hltP];rfl
  by_cases hz:isZ P[i]
  ·simp only [pwA,seval,-iQ0,hz,wi]
   exact⟨_,by omega,i+1,_,by omega,rfl,rfl,by rw [powT,ep,if_pos hz,eq],by omega⟩
  simp only [pwA,seval,-iQ0,hz,r0,r1,hltP,hltP',hr,hlt,hlt',gx];refine zJ ?_;simp only [pwA,seval,-iQ0,hz,r0,r1,hltP,hltP',hr,hlt,hlt',gx];refine QA (by omega) fun d1 e1 hd1=>?_
  simp only [pwA,seval,-iQ0,r0,r1,hltP,hltP',hr,hlt,hlt',gx];refine zJ ?_;simp only [pwA,seval,-iQ0,r0,r1,hltP,hltP',hr,hlt,hlt',gx,wi];refine zJ ?_;simp only [pwA,seval,-iQ0,r0,r1,hltP,hltP',hr,hlt,hlt',gx,wi];refine dec ob fun d2 e2 hd2=>?_
  simp only [pwA,seval,-iQ0,r0,r1,hltP,hltP',hr,hlt,hlt',gx,wi];refine zJ ?_;simp only [pwA,seval,-iQ0,r0,r1,hltP,hltP',hr,hlt,hlt',gx,wi];refine zJ ?_;simp only [pwA,seval,-iQ0,r0,r1,hltP,hltP',hr,hlt,hlt',gx,wi];have nl:=zy (by omega) pe
  refine zBo ⟨w4,a4,rfl⟩ (by omega) pe fun u hu=>?_
  obtain⟨w5,a5,rfl⟩:=hu;simp only [pwA,seval,-iQ0,r0,r1,hltP,hltP',hr,hlt,hlt',gx,wi];refine zBp (by omega) nl.2 fun d3 e3 hd3=>?_
  simp only [pwA,seval,-iQ0,r0,r1,hltP,hltP',hr,hlt,hlt',gx,wi];refine zJ ?_;simp only [pwA,seval,-iQ0,r0,r1,hltP,hltP',hr,hlt,hlt',gx,wi];exact⟨_,by omega,i+1,_,by omega,rfl,rfl,by rw [powT,ep,if_neg hz,eq,e1,e2,e3,at_eq hlt],by simp only [List.length_append,List.length_cons,List.length_nil];omega⟩
 refine zC (fun m vs h'=>∃(i:Nat) (q:List UInt8),i≤O.length∧m=O.length-i∧vs=[.ptr σ.next 0,.int .i64 O.length,.str q,.int .i64 i]∧q=conT O.length C (powT O P (ordT O O.length) O.length) i∧q.length≤420+420*i∧h'=h) O.length ?_ ?_
 ·exact⟨0,q,Nat.zero_le _,rfl,rfl,by rw [eq,conT,show i=O.length by omega],by omega,rfl⟩
 clear hq hge hi eq
 rintro m vs h ⟨i,q,hi,rfl,rfl,eq,hq,rfl⟩
 simp only [pwA,seval,-iQ0];refine iteI (fun hlt=>?_) fun hge=>?_
 rotate_left
 ·exact fin (by rw [eq,prT,if_neg (by omega),show i=O.length by omega]) (by omega)
 have hlt':(i:Int)<(O.length:Int):=by omega
 have hltC:i<C.length:=by omega
 have hltC':(i:Int)<(C.length:Int):=by omega
 have wi:=wrapS hlt (by omega:O.length≤4611686018427387904)
 obtain⟨w4,a4,rs4,hr,hrs⟩:=hrC.rowL hltC;have cl:=CL i hltC;simp only [pwA,seval,-iQ0,wi];refine zC (fun m vs h'=>∃(j:Nat) (q:List UInt8),i+1≤j∧j≤O.length∧m=O.length-j∧vs=[.ptr σ.next 0,.int .i64 O.length,.str q,.int .i64 i,.int .i64 j]∧q=conTr O.length C (conT O.length C (powT O P (ordT O O.length) O.length) i) i (j-(i+1))∧q.length≤420+420*i+60*j∧h'=h) (O.length-(i+1)) ?_ ?_
 ·exact⟨i+1,q,Nat.le_refl _,by omega,rfl,rfl,by rw [eq,Nat.sub_self,conTr],by omega,rfl⟩
 clear hq eq
 rintro m vs h ⟨j,q,hij,hj,rfl,rfl,eq,hq,rfl⟩
 simp only [pwA,seval,-iQ0];refine iteI (fun hjt=>?_) fun hge=>?_
 rotate_left
 ·simp only [pwA,seval,-iQ0,wi]
  exact⟨_,by omega,i+1,q,by omega,rfl,rfl,by rw [conT,eq,show j-(i+1)=O.length-1-i by omega],by omega⟩
 have hk1:j-i-1<C[i].length:=by omega
 have hk1':((j-i-1:Nat):Int)<(C[i].length:Int):=by omega
 have wj:=wrapS hjt (by omega:O.length≤4611686018427387904)
 have wk:IntKind.i64.wrap ((j:Int)-(i:Int))=(j:Int)-(i:Int):=wrap64 (by omega) (by omega)
 have wk1:IntKind.i64.wrap ((j:Int)-(i:Int)-1)=((j-i-1:Nat):Int):=by rw [wrap64 (by omega) (by omega)];omega
 obtain⟨w6,a6,hr6⟩:=hrs.rowI hk1;obtain⟨pl,pe⟩:=CR i hltC _ hk1;simp only [pwA,seval,-iQ0,r2,hltC,hltC',hr,wk,wk1,hk1,hk1',hr6];refine zEZ (by omega) hjt fun wu hu=>?_
 obtain⟨w7,a7,rfl⟩:=hu;simp only [pwA,seval,-iQ0,r2,hltC,hltC',hr,wk,wk1,hk1,hk1',hr6];refine zEc rfl rfl (by omega) ?_
 have ec:cvec C i j=C[i][j-i-1]:=by
  unfold cvec;rw [List.getD_eq_getElem?_getD,List.getD_eq_getElem?_getD,List.getElem?_eq_getElem hltC];simp only [Option.getD_some];rw [List.getElem?_eq_getElem hk1];rfl
 have ej:i+1+(j-(i+1))=j:=by omega
 have es:j+1-(i+1)=j-(i+1)+1:=by omega
 by_cases hz:C[i][j-i-1]=unitL O.length j
 ·simp only [pwA,seval,-iQ0,hz,wj]
  exact⟨_,by omega,j+1,q,by omega,by omega,rfl,rfl,by rw [es,conTr,ej,ec,if_pos hz,eq],by omega⟩
 simp only [pwA,seval,-iQ0,hz,r2,hltC,hltC',hr,wk,wk1,hk1,hk1',hr6,wj];refine zJ ?_;simp only [pwA,seval,-iQ0,hz,r2,hltC,hltC',hr,wk,wk1,hk1,hk1',hr6,wj];refine QA (by omega) fun d1 e1 hd1=>?_
 simp only [pwA,seval,-iQ0,hz,r2,hltC,hltC',hr,wk,wk1,hk1,hk1',hr6,wj];refine zJ ?_;simp only [pwA,seval,-iQ0,hz,r2,hltC,hltC',hr,wk,wk1,hk1,hk1',hr6,wj];refine zJ ?_;simp only [pwA,seval,-iQ0,hz,r2,hltC,hltC',hr,wk,wk1,hk1,hk1',hr6,wj];refine QA (by omega) fun d2 e2 hd2=>?_
 simp only [pwA,seval,-iQ0,hz,r2,hltC,hltC',hr,wk,wk1,hk1,hk1',hr6,wj];refine zJ ?_;simp only [pwA,seval,-iQ0,hz,r2,hltC,hltC',hr,wk,wk1,hk1,hk1',hr6,wj];refine zJ ?_;simp only [pwA,seval,-iQ0,hz,r2,hltC,hltC',hr,wk,wk1,hk1,hk1',hr6,wj];have nl:=zy (by omega) pe
 refine zBo ⟨w6,a6,rfl⟩ (by omega) pe fun u hu=>?_
 obtain⟨w5,a5,rfl⟩:=hu;simp only [pwA,seval,-iQ0,hz,r2,hltC,hltC',hr,wk,wk1,hk1,hk1',hr6,wj];refine zBp (by omega) nl.2 fun d3 e3 hd3=>?_
 simp only [pwA,seval,-iQ0,hz,r2,hltC,hltC',hr,wk,wk1,hk1,hk1',hr6,wj];refine zJ ?_;simp only [pwA,seval,-iQ0,hz,r2,hltC,hltC',hr,wk,wk1,hk1,hk1',hr6,wj];exact⟨_,by omega,j+1,_,by omega,by omega,rfl,rfl,by rw [es,conTr,ej,ec,if_neg hz,eq,e1,e2,e3],by simp only [List.length_append,List.length_cons,List.length_nil];omega⟩
end Go.Proofs
namespace Go.Grp
end Go.Grp
namespace Go.Proofs
open Go.Ab Go.Lie Go.Grp
variable {σ h:PHeap} {K:PV→PHeap→Prop} {k:Int} {G:List Pre} {L:List (List Int)} {vG vL:PV}
def grT (q:List UInt8) (G:List Pre):Nat→List UInt8
 | 0=>q
 | i+1=>grT q G i++prT (G.getD i ([],[],[])).1 (G.getD i ([],[],[])).2.1 (G.getD i ([],[],[])).2.2++[10]
def enT (q:List UInt8) (x:List Int):Nat→List UInt8
 | 0=>q
 | j+1=>enT q x j++[32]++Lib.itoa (at_ x j)
def liT (q:List UInt8) (L:List (List Int)):Nat→List UInt8
 | 0=>q
 | i+1=>enT (liT q L i++[58]) (L.getD i []) (L.getD i []).length++[10]
def certT (k:Int) (G:List Pre) (L:List (List Int)):List UInt8:=liT (grT (Lib.itoa k++[10]) G G.length) L L.length
theorem zEY {n:Int} (hn:-1000000≤n∧n≤1000000) (hk:∀q:List UInt8,q=Lib.itoa n→q.length≤8→K (.str q) σ):zA Tryd.prog 26 [.int .i64 n] σ K:=by
 refine zA.gh ?_;refine zR mix Tryd.func26 cf26 rfl ?_;dsimp only [if26,qI,mI0,cI0,C1,R0,S0]
 by_cases h0:n<0
 ·have w1:IntKind.i64.wrap (0-n)=-n:=by rw [wrap64 (by omega) (by omega)];omega
  simp only [pwA,seval,-iQ0,h0,w1];refine QU 6 ⟨by omega,by omega,by omega⟩ (by decide) fun q e hq=>?_
  simp only [pwA,seval,-iQ0];refine zJ ?_;simp only [pwA,seval,-iQ0];refine Gh.fin0 (Keep.refl _) trivial (hk _ ?_ (by simp only [List.length_append,List.length_cons,List.length_nil];omega))
  rw [Lib.itoa,if_pos h0,e,show(-n).toNat=n.natAbs by omega]
 ·simp only [pwA,seval,-iQ0,h0]
  refine QU 6 ⟨by omega,by omega,by omega⟩ (by decide) fun q e hq=>?_
  simp only [pwA,seval,-iQ0];refine Gh.fin0 (Keep.refl _) trivial (hk _ ?_ (by omega))
  rw [Lib.itoa,if_neg h0,e]
set_option maxHeartbeats 1600000 in
theorem zFb (hG:FG vG G) (hL:FII vL L) (hc:zx k G L) (hk:∀q:List UInt8,q=certT k G L→K (.str q) σ):zA Tryd.prog 12 [.agg [.int .i64 k,vG,vL]] σ K:=by
 obtain⟨wG,aG,rG,rfl,hrG⟩:=hG;obtain⟨wL,aL,rL,rfl,hrL⟩:=hL;obtain⟨c1,c2,c3,c4⟩:=hc;have hk6:1≤k∧k≤6:=by
  unfold need at c1
  by_cases h5:k=5
  ·omega
  by_cases h4:k=4
  ·omega
  rw [if_neg h5,if_neg h4]at c1
  split at c1<;>omega
 have hG3:G.length≤3:=by
  unfold need at c1
  by_cases h5:k=5
  ·rw [if_pos h5]at c1;omega
  by_cases h4:k=4
  ·rw [if_neg h5,if_pos h4]at c1;omega
  ·rw [if_neg h5,if_neg h4,if_pos hk6]at c1;omega
 refine zA.gh ?_;refine zR mix Tryd.func12 cf12 rfl ?_;dsimp only [if12,qI,eI,mI0,kI0,lI0,LI0,fI0,xI0,bI0,cI0,sI0,C1,R0,S0];simp only [pwA,seval,-iQ0];generalize hH:σ.new [.int .i64 k,.fz wG aG G.length (fl3 rG),.fz wL aL L.length rL]=H;have kH:Keep σ H:=by rw [←hH];exact zF _ _
 have hs:H.obj σ.next=some [.int .i64 k,.fz wG aG G.length (fl3 rG),.fz wL aL L.length rL]:=by rw [←hH];simp only [pwA,seval,-iQ0]
 have e0:H.rd1 σ.next 0=some (.int .i64 k):=by rw [zq hs];rfl
 have e1:H.rd1 σ.next 1=some (.fz wG aG G.length (fl3 rG)):=by rw [zq hs];rfl
 have e2:H.rd1 σ.next 2=some (.fz wL aL L.length rL):=by rw [zq hs];rfl
 clear hH;simp only [pwA,seval,-iQ0,e0];refine QU 6 ⟨by omega,by omega,by omega⟩ (by decide) fun q0 eq0 hq0=>?_
 simp only [pwA,seval,-iQ0];refine zJ ?_;have eK:q0=Lib.itoa k:=by rw [Lib.itoa,if_neg (by omega),eq0]
 simp only [pwA,seval,-iQ0];refine zC (fun m us h'=>∃(i:Nat) (q:List UInt8),i≤G.length∧m=G.length-i∧us=[.ptr σ.next 0,.str q,.int .i64 i]∧q=grT (Lib.itoa k++[10]) G i∧q.length≤8+3001*i∧H=h') G.length ?_ ?_
 ·exact⟨0,_,by omega,by omega,rfl,by rw [eK];rfl,by simp only [List.length_append,List.length_cons,List.length_nil];omega,rfl⟩
 rintro m us h' ⟨i,q,hi,rfl,rfl,eq,hq,rfl⟩
 simp only [pwA,seval,-iQ0,e1];refine iteI (fun hlt=>?_) fun hge=>?_
 ·have hkr:i<rG.length:=by rw [hrG.1];exact hlt
  have hget:=qf hkr;have h3:3≤(fl3 rG).length-i*3:=by have:=zY rG;omega
  have hp:IsPr rG[i].1 rG[i].2.1 rG[i].2.2 G[i].1 G[i].2.1 G[i].2.2:=hrG.2 i _ _ (List.getElem?_eq_getElem hkr) (List.getElem?_eq_getElem hlt);simp only [pwA,seval,-iQ0,e1,hlt,hget,h3,hp.O.one,hp.P.one,hp.C.one,List.length_drop];refine zFc hp (c3 _ (List.getElem_mem hlt)) fun q1 eq1 hq1=>?_
  have ge:G.getD i ([],[],[])=G[i]:=by rw [List.getD_eq_getElem?_getD,List.getElem?_eq_getElem hlt];rfl
  simp only [pwA,seval,-iQ0,e1];refine zJ ?_;simp only [pwA,seval,-iQ0];refine zJ ?_;simp only [pwA,seval,-iQ0,wrapS hlt (by omega:G.length≤4611686018427387904)]
  exact⟨_,by omega,i+1,_,by omega,rfl,rfl,by rw [grT,ge,eq,eq1],by simp only [List.length_append,List.length_cons,List.length_nil];omega⟩
 have iG:i=G.length:=by omega
 simp only [pwA,seval,-iQ0];refine zC (fun m us h2=>∃(i:Nat) (q:List UInt8),i≤L.length∧m=L.length-i∧us=[.ptr σ.next 0,.str q,.int .i64 i]∧q=liT (grT (Lib.itoa k++[10]) G G.length) L i∧q.length≤10000+2000*i∧H=h2) L.length ?_ ?_
 ·exact⟨0,q,by omega,by omega,rfl,by rw [eq,iG];rfl,by omega,rfl⟩
 clear hi hge eq hq iG
 rintro m us h2 ⟨i,q,hi,rfl,rfl,eq,hq,rfl⟩
 simp only [pwA,seval,-iQ0,e2];refine iteI (fun hlt=>?_) fun hge=>?_
 rotate_left
 ·exact Gh.fin0 kH trivial (hk _ (by rw [eq,show i=L.length by omega];rfl))
 obtain⟨w4,a4,hr⟩:=hrL.rowI hlt;obtain⟨h128,hent⟩:=c4 _ (List.getElem_mem hlt);have ge:L.getD i []=L[i]:=by rw [List.getD_eq_getElem?_getD,List.getElem?_eq_getElem hlt];rfl
 simp only [pwA,seval,-iQ0];refine zJ ?_;simp only [pwA,seval,-iQ0];refine zC (fun m us h2=>∃(j:Nat) (q':List UInt8),j≤L[i].length∧m=L[i].length-j∧us=[.ptr σ.next 0,.str q',.int .i64 i,.int .i64 j]∧q'=enT (q++[58]) L[i] j∧q'.length≤10001+2000*i+9*j∧H=h2) L[i].length ?_ ?_
 ·exact⟨0,_,by omega,by omega,rfl,rfl,by simp only [List.length_append,List.length_cons,List.length_nil];omega,rfl⟩
 rintro m us h2 ⟨j,q',hj,rfl,rfl,eq',hq',rfl⟩
 simp only [pwA,seval,-iQ0,e2,hlt,hr];refine iteI (fun hlj=>?_) fun hgj=>?_
 rotate_left
 ·simp only [pwA,seval,-iQ0]
  refine zJ ?_;simp only [pwA,seval,-iQ0,wrapS hlt (by omega:L.length≤4611686018427387904)]
  exact⟨_,by omega,i+1,_,by omega,rfl,rfl,by rw [liT,ge,eq',eq,show j=L[i].length by omega],by simp only [List.length_append,List.length_cons,List.length_nil];omega⟩
 have hv:=hent _ (List.getElem_mem hlj);simp only [pwA,seval,-iQ0];refine zJ ?_;simp only [pwA,seval,-iQ0,e2,hlt,hr,hlj,gi hlj,zN];refine zEY hv fun q2 eq2 hq2=>?_
 simp only [pwA,seval,-iQ0,e2,hlt,hr,hlj,gi hlj,zN];refine zJ ?_;simp only [pwA,seval,-iQ0,wrapS hlj (by omega:L[i].length≤4611686018427387904)]
 exact⟨_,by omega,j+1,_,by omega,rfl,rfl,by rw [enT,eq',eq2,at_eq hlj],by simp only [List.length_append,List.length_cons,List.length_nil];omega⟩
theorem Z7 (hG:FG vG G) (szG:SzG G) (hL:FII vL L) (szL:SzL L)
  (hk0:¬zx k G L→K (.tup [.str [],.int .i64 1]) σ) (hk1:zx k G L→K (.tup [.str (certT k G L),.int .i64 0]) σ):zA Tryd.prog 5 [.agg [.int .i64 k,vG,vL]] σ K:=by
 have h1:=hG.one;have h2:=hL.one;refine zA.gh ?_;have kH:=zF σ [.int .i64 k,vG,vL];refine zD mix Tryd.func5 ?_;simp only [pwA,seval,-iQ0,h1,h2];refine zAH hG szG hL szL fun t ht=>?_
 cases t with
 | false=>
  simp only [pwA,seval,-iQ0,h1,h2];exact Gh.fin0 kH ⟨trivial,trivial,trivial⟩ (hk0 fun h=>by cases ht.2 h)
 | true=>
  have hc:=ht.1 rfl;simp only [pwA,seval,-iQ0,h1,h2];refine zFb hG hL hc fun q eq=>?_
  subst eq;simp only [pwA,seval,-iQ0];exact Gh.fin0 kH ⟨trivial,trivial,trivial⟩ (hk1 hc)
end Go.Proofs
namespace Go.Grp
end Go.Grp
namespace Go.Proofs
open Go.RowKit in
theorem zEW (i:Nat) (hi:i≤20) (w:World):Calls Tryd.prog 55 #[.int .i64 i] w fun e w'=>e=.returned (.string ⟨#[UInt8.ofNat (97+i)]⟩)∧w'=w:=by
 have he:∀i:Fin 21,Utf8.encode (97+(i.val:Int))=⟨#[UInt8.ofNat (97+i.val)]⟩:=by decide +kernel
 have he':=he ⟨i,by omega⟩
 go_enter Tryd.func55,Tryd.ntmps55
 go_wp2
 go_ret
 exact⟨rfl,rfl⟩
open Go.RowKit Go.Ab Go.Lie Go.Grp
variable {σ h:PHeap} {K:PV→PHeap→Prop} {b s n i:Nat} {v:PV} {x:List Int} {B:Nat} {w0 w:World} {j:Inj} {hh:AHeap}
theorem zEv (m : MR B w0 j hh w) : Lib.TabIs Tryd.prog w "internal/strconv.uint64pow10" .u64 Lib.pow10Tab := by
 obtain⟨g1,ty,fz,g2⟩:=m.gd;have hg : Program.globalNamed Tryd.prog "internal/strconv.uint64pow10" = some gdB := by kernel_rfl
 unfold Lib.TabIs World.var?;rw [hg];simp only [Option.bind_some];rw [m.below.block _ g1,g2]
 rfl
theorem zC4 {n:Int} (h0:-9223372036854775808≤n) (h1:n≤9223372036854775807) (hk:K (.str (Lib.itoa n)) σ):zA Tryd.prog 33 [.int .i64 n,.int .i64 10] σ K:=by
 refine zA.quietS (q:=Lib.itoa n) (fun ι Z h r va B w0 j w cargs m vi=>?_) hk
 obtain⟨_,_,rfl,rfl,_,_,rfl,rfl,rfl⟩:=vi;exact(Tryd.strconv_FormatInt_10 n h0 h1 w (zEv m)).mono fun e w' ⟨he,k,os,hw⟩=>⟨he,hw ▸ Go.Lib.below_grow _ w (Nat.le_refl _) k os⟩
theorem Z9 (hi:i≤20) (hk:K (.str [letB i]) σ):zA Tryd.prog 55 [.int .i64 i] σ K:=by
 refine zA.quietS (q:=[letB i]) (fun ι Z h r va B w0 j w cargs m vi=>?_) hk
 obtain⟨_,_,rfl,rfl,rfl⟩:=vi;exact(zEW i hi w).mono fun e w' ⟨he,hw⟩=>⟨he,hw ▸ Below.refl _ _⟩
def pst (l:List (List UInt8)):List PV:=l.map PV.str
theorem zGs {ι:Nat→Nat} {l:List (List UInt8)} (i:Nat) (x:List UInt8) (hx:l[i]? = some x):(ers ι (pst l))[i]? = some (AV.str x):=by
 rw [zZ,pst,List.getElem?_map,List.getElem?_map,hx];rfl
theorem zBX {l:List (List UInt8)} {sep:List UInt8} {cap:Cap} (ho:σ.obj s=some (pst l)) (hn:n=l.length) (hc:capOK cap n=true) (h0:0<n) (hl:n≤1000) (hlen:(Lib.join l sep).length≤140737488355328)
  (hk:K (.str (Lib.join l sep)) σ):zA Tryd.prog 53 [.sl s 0 n cap,.str sep] σ K:=by
 refine zA.quietS (q:=Lib.join l sep) (fun ι Z h r va B w0 j w cargs m vi=>?_) hk
 obtain⟨cv,_,rfl,v1,_,_,rfl,rfl,rfl⟩:=vi;obtain⟨q1,q2,q3⟩:=r.obj s _ ho;have v1':VI j (.sl (ι s) 0 n cap) cv:=v1;obtain⟨lo,c,hj,rfl,hcap⟩:∃lo c,j (ι s)=some lo∧cv=.slice (some ⟨lo.blk,lo.base,none⟩) n c∧n≤c:=by
  cases cap with
  | known c=>
   obtain⟨lo,a,hj,e,ha⟩:=v1';rcases ha with rfl|⟨_,e0⟩
   ·exact⟨lo,c,hj,e,by simpa [capOK]using hc⟩
   ·omega
  | grown e=>
   obtain⟨lo,c,f,hj,e1,hle,hf,_⟩:=v1';rcases hf with rfl|⟨e0,_⟩
   ·exact⟨lo,c,hj,e1,hle⟩
   ·omega
 obtain⟨cur,ty,fz,r1,r2,r3,r4⟩:=(m.obj _ _ _ q1 hj).row;have hcell:∀(k:Nat) (x:ByteArray),(l.map fun y=>(⟨y.toArray⟩:ByteArray))[k]? = some x→w.cell? ⟨lo.blk,lo.base+k,none⟩=some (.string x):=fun k x hx=>by
  rw [List.getElem?_map,Option.map_eq_some_iff]at hx
  obtain⟨y,hy,rfl⟩:=hx;obtain⟨cv,c1,c2⟩:=r2 k _ (zGs k y hy);rw [Lib.cell_of_heap r1,c1,show cv=_ from c2]
 have hblk:lo.blk<w.heap.size:=(Array.getElem?_eq_some_iff.1 r1).1;have e1:(l.map fun y=>(⟨y.toArray⟩:ByteArray)).map (·.data.toList)=l:=by rw [List.map_map];simp [Function.comp_def]
 have hlen':(l.map fun y=>(⟨y.toArray⟩:ByteArray)).length=n:=by rw [List.length_map,hn]
 have:=Tryd.strings_Join lo.blk lo.base c (l.map fun y=>⟨y.toArray⟩) ⟨sep.toArray⟩ w hcell hblk (by rw [hlen'];omega) (by rw [hlen'];exact hcap) (by rw [e1];exact hlen)
 rw [hlen',e1]at this
 exact this
theorem zA0 {w:Bool} {aa:AV} (hn:x.length≤42) (hx:∀l∈x,1≤l∧l≤26) (hk:∀q:List UInt8,q=wordB x→q.length≤43→K (.str q) σ):zA Tryd.prog 56 [.fz w aa x.length (pis x)] σ K:=by
 have hk:=hk _ rfl (by
  unfold wordB
  split
  ·simp
  ·rw [List.length_map];omega)
 unfold wordB at hk
 refine zA.gh ?_;refine zR mix Tryd.func56 cf56 rfl ?_;dsimp only [if56,qI,eI,mI0,kI0,lI0,xI0,bI0,cI0,sI0,I0,zI0,R0,S0]
 by_cases h0:x.length=0
 ·have d0:((x.length:Nat):Int)=0:=by omega
  rw [if_pos (List.length_eq_zero_iff.1 h0)]at hk
  simp only [pwA,seval,-iQ0,d0];exact Gh.fin0 (Keep.refl _) trivial hk
 have d0:¬((x.length:Nat):Int)=0:=by omega
 rw [if_neg (fun e=>h0 (by rw [e];rfl))]at hk
 simp only [pwA,seval,-iQ0,d0];refine zC (fun m vs h=>∃(i:Nat) (v:PV),i≤x.length∧m=x.length-i∧vs=[v,.fz w aa x.length (pis x),.int .i64 x.length,.int .i64 i]∧Keep σ h∧PAcc σ.next 1 h v i ((x.take i).map fun l=>PV.int .u8 (96+l))) x.length ?_ ?_
 ·exact⟨0,_,Nat.zero_le _,rfl,rfl,Keep.refl _,PAcc.nil _ _ _⟩
 rintro m vs h ⟨i,v,hi,rfl,rfl,kk,pa⟩
 have h1:=pa.one;simp only [pwA,seval,-iQ0,h1];refine iteI (fun hlt=>?_) fun hge=>?_
 ·have hlt':(i:Int)<(x.length:Int):=by omega
  have gx:(pis x)[i]? = some (.int .i64 x[i]):=by rw [zN,gi hlt];rfl
  have b1:=hx _ (List.getElem_mem hlt);have hp:(0:Int)<x[i]:=by omega
  have w1:IntKind.i64.wrap (97+x[i])=97+x[i]:=wrap64 (by omega) (by omega)
  have w2:IntKind.i64.wrap (97+x[i] - 1)=96+x[i]:=by rw [wrap64 (by omega) (by omega)];omega
  have w3:IntKind.u8.wrap (96+x[i])=96+x[i]:=Qf (by omega) (by omega)
  simp only [pwA,seval,-iQ0,h1,hlt,hlt',gx,hp,w1,w2,w3];refine PAcc.push (σb:=σ) (bytes:=1) kk pa (by omega) (by omega) fun v2 h2 k2 a2=>?_
  have h3:=a2.one;simp only [pwA,seval,-iQ0,h3,wrapS hlt (by omega:x.length≤4611686018427387904)]
  exact⟨_,by omega,i+1,v2,by omega,rfl,rfl,k2,by rw [List.take_succ_eq_append_getElem hlt,List.map_append];exact .inr a2⟩
 have hie:i=x.length:=by omega
 subst hie;rw [List.take_length]at pa
 have e1:=QQ (fun l=>96+l) x
 have e2:qi h v=some (x.map fun l=>UInt8.ofNat (96+l).toNat):=PSl.bytesX (by rw [List.length_map];exact pa.pos (by omega)) e1
 simp only [pwA,seval,-iQ0,h1,ZB,e2];exact Gh.fin0 kk trivial hk
end Go.Proofs
namespace Go.Grp
end Go.Grp
namespace Go.Proofs
open Go.Ab Go.Lie Go.Grp
variable {σ h:PHeap} {K:PV→PHeap→Prop} {b s n i:Nat} {v vO vP vC:PV} {x O:List Int} {P:List (List Int)} {C:List (List (List Int))}
theorem Qt {l:List (List UInt8)} (h:l≠[]) (p sep:List UInt8):Lib.join (l++[p]) sep=Lib.join l sep++sep++p:=by
 cases l with
 | nil=>exact absurd rfl h
 | cons x r=>rw [List.cons_append,Lib.join_cons,Lib.join_cons];simp [Lib.joinTail]
def strO (O:List Int) (i:Nat):List (List UInt8):=(O.take i).map Lib.itoa
theorem zBk (hi:i<O.length):strO O (i+1)=strO O i++[Lib.itoa O[i]]:=by
 unfold strO;rw [List.take_succ_eq_append_getElem hi,List.map_append];rfl
theorem zCI (hi:i≤O.length):(strO O i).length=i:=by unfold strO;rw [List.length_map,List.length_take];omega
theorem zCk (h0:∀i (hi:i<O.length),0≤O[i]):∀i,i≤O.length→Lib.join (strO O i) [32]=ordT O i
 | 0,_=>rfl
 | i+1,hi=>by
  have e:Lib.itoa O[i]=Lib.decDigits (at_ O i).toNat:=by rw [Lib.itoa,if_neg (by have:=h0 i (by omega);omega),at_eq (show i<O.length by omega)]
  rw [zBk (by omega),ordT,e]
  by_cases hz:i=0
  ·subst hz;rw [if_neg (by omega)];simp [strO,Lib.join_one,ordT]
  ·rw [if_pos (by omega),Qt (fun z=>by have:=zCI (O:=O) (i:=i) (by omega);rw [z]at this;simp at this;omega),zCk h0 i (by omega)]
theorem qK (hx:x.length≤42):(wordB x).length≤43:=by
 unfold wordB
 split
 ·simp
 ·rw [List.length_map];omega
theorem zAm (hd:∀i,(Lib.decDigits (at_ O i).toNat).length≤6):∀i,(ordT O i).length≤7*i
 | 0=>Nat.le_refl _
 | i+1=>by
  have:=zAm hd i
  have:=hd i
  rw [ordT];split<;>simp only [List.length_append,List.length_cons,List.length_nil]<;>omega
theorem zAk {q:List UInt8} (hd:∀i,(Lib.decDigits (at_ O i).toNat).length≤6) (hw:∀i,(wordB (Mx.nw (pvec P i))).length≤43):∀i,(powT O P q i).length≤q.length+60*i
 | 0=>Nat.le_refl _
 | i+1=>by
  have:=zAk (q:=q) hd hw i
  have:=hd i
  have:=hw i
  rw [powT];split
  ·omega
  ·simp only [List.length_append,List.length_cons,List.length_nil];omega
theorem zBu {q:List UInt8} (hw:∀i j,(wordB (Mx.nw (cvec C i j))).length≤43) (i:Nat):∀k,(conTr n C q i k).length≤q.length+60*k
 | 0=>Nat.le_refl _
 | k+1=>by
  have:=zBu (q:=q) hw i k
  have:=hw i (i+1+k)
  rw [conTr];split
  ·omega
  ·simp only [List.length_append,List.length_cons,List.length_nil];omega
theorem zAu {q:List UInt8} (hn:n≤6) (hw:∀i j,(wordB (Mx.nw (cvec C i j))).length≤43):∀i,(conT n C q i).length≤q.length+360*i
 | 0=>Nat.le_refl _
 | i+1=>by
  have h1:=zAu (q:=q) hn hw i;have h2:=zBu (n:=n) (q:=conT n C q i) hw i (n-1-i);have h3:60*(n-1-i)≤360:=by omega
  rw [conT];omega
set_option maxHeartbeats 3200000 in
theorem Qo {a:AV} {rest:List PV} (hR:IsPr vO vP vC O P C) (hp:zg O P C) (hk:K (.str (prT O P C)) σ):zA Tryd.prog 34 [.fp a (vO::vP::vC::rest)] σ K:=by
 have sh:=hp.shp;have hn6:=sh.le;have o1:=hR.O.one;have p1:=hR.P.one;have c1:=hR.C.one;obtain⟨⟨wO,aO,rfl⟩,⟨wP,aP,rP,rfl,hrP⟩,⟨wC,aC,rC,rfl,hrC⟩⟩:=hR;have hpl:=sh.pl;have hcl:=sh.cl;have hO:∀i (hi:i<O.length),2≤O[i]∧O[i]≤7:=fun i hi=>by have:=sh.pr i hi;rw [at_eq hi]at this;exact this
 have ent:∀{k:Nat} {y:List Int},TT O k y→∀a∈y,0≤a∧a≤7:=fun {k y} h a ha=>by
  obtain⟨j,hj,rfl⟩:=List.mem_iff_getElem.1 ha;have b:=h.bd j (by have:=h.len;omega)
  rw [at_eq hj]at b
  have o:=sh.pr j (by have:=h.len;omega)
  omega
 have PR:∀i (hi:i<P.length),P[i].length=O.length∧∀a∈P[i],0≤a∧a≤7:=fun i hi=>by
  have h:=sh.pw i (by omega)
  have e:pvec P i=P[i]:=by unfold pvec;rw [List.getD_eq_getElem?_getD,List.getElem?_eq_getElem hi];rfl
  rw [e]at h
  exact⟨h.len,ent h⟩
 have CL:∀i (hi:i<C.length),C[i].length=O.length-1-i:=fun i hi=>by
  have h:=sh.row i (by omega)
  rw [List.getD_eq_getElem?_getD,List.getElem?_eq_getElem hi]at h
  exact h
 have CR:∀i (hi:i<C.length) k (hk:k<C[i].length),C[i][k].length=O.length∧∀a∈C[i][k],0≤a∧a≤7:=fun i hi k hk'=>by
  have hl:=CL i hi;have h:=sh.cj i (i+1+k) (by omega) (by omega)
  have e:cvec C i (i+1+k)=C[i][k]:=by
   unfold cvec;rw [show i+1+k-i-1=k by omega,List.getD_eq_getElem?_getD,List.getD_eq_getElem?_getD,List.getElem?_eq_getElem hi]
   simp only [Option.getD_some];rw [List.getElem?_eq_getElem hk'];rfl
  rw [e]at h
  exact⟨h.len,ent h⟩
 refine zA.gh ?_;refine zR mix Tryd.func34 cf34 rfl ?_;dsimp only [if34,qI,eI,qD,eD,mI0,kI0,lI0,fI0,xI0,bI0,cI0,nI0,sI0,pI0,C1,C2,mD0,lD0,xD0,I0,zI0,R0,S0];simp only [pwA,seval,-iQ0];refine zC (fun m vs h=>∃(i:Nat) (v:PV),i≤O.length∧m=O.length-i∧vs=[.fp a (.fz wO aO O.length (pis O)::.fz wP aP P.length rP::.fz wC aC C.length rC::rest),v,.fz wO aO O.length (pis O),.int .i64 O.length,.int .i64 i]∧Keep σ h∧PAcc σ.next 1 h v i (pst (strO O i))) O.length ?_ ?_
 ·exact⟨0,_,Nat.zero_le _,rfl,rfl,Keep.refl _,PAcc.nil _ _ _⟩
 rintro m vs h ⟨i,v,hi,rfl,rfl,kk,pa⟩
 have h1:=pa.one;simp only [pwA,seval,-iQ0,h1];refine iteI (fun hlt=>?_) fun hge=>?_
 ·have hlt':(i:Int)<(O.length:Int):=by omega
  have gx:(pis O)[i]? = some (.int .i64 O[i]):=by rw [zN,gi hlt];rfl
  have ob:=hO i hlt;simp only [pwA,seval,-iQ0,h1,hlt,hlt',gx];refine zC4 (by omega) (by omega) ?_
  simp only [pwA,seval,-iQ0,h1];refine PAcc.push (σb:=σ) (bytes:=16) kk pa (by omega) (by omega) fun v2 h2 k2 a2=>?_
  have h3:=a2.one;simp only [pwA,seval,-iQ0,h3,wrapS hlt (by omega:O.length≤4611686018427387904)]
  exact⟨_,by omega,i+1,v2,by omega,rfl,rfl,k2,by rw [zBk hlt];refine .inr ?_;rw [pst,List.map_append];exact a2⟩
 obtain rfl:i=O.length:=by omega
 have hdig:∀i,(Lib.decDigits (at_ O i).toNat).length≤6:=fun i=>by
  rcases Nat.lt_or_ge i O.length with h|h
  ·have:=hO i h
   exact Nat.le_trans (qX 0 _ (by rw [at_eq h];omega)) (by omega)
  ·unfold at_
   rw [List.getD_eq_getElem?_getD,List.getElem?_eq_none h];exact Nat.le_trans (qX 0 _ (by simp)) (by omega)
 by_cases hz0:O.length=0
 ·have d0:((O.length:Nat):Int)=0:=by omega
  have l1:=pa.pLen;have np:¬(0:Int)<(P.length:Int):=by omega
  have no:¬(0:Int)<(O.length:Int):=by omega
  simp only [pwA,seval,-iQ0,l1,d0];refine zBX (l:=[[49]]) (by rw [Zj,if_pos rfl];rfl) rfl rfl (by omega) (by omega) (by simp [Lib.join_one]) ?_
  rw [Lib.join_one];simp only [pwA,seval,-iQ0];generalize hH:(h.new [PV.str [49]]).new [PV.str [49]]=H;have kH:Keep σ H:=by rw [←hH];exact(kk.new _).new _
  have oH:H.obj (h.next+1)=some [.str [49]]:=by rw [←hH];exact if_pos rfl
  refine zC (fun m vs g=>m=0∧vs=[.fp a (.fz wO aO O.length (pis O)::.fz wP aP P.length rP::.fz wC aC C.length rC::rest),.sl h.next 0 1 (.known 1),.sl (h.next+1) 0 1 (.known 1),.fz wP aP P.length rP,.int .i64 P.length,.int .i64 0]∧g=H) 0 ⟨rfl,rfl,rfl⟩ ?_
  rintro m vs g ⟨rfl,rfl,rfl⟩
  simp only [pwA,seval,-iQ0,np];refine zC (fun m vs g'=>m=0∧vs=[.fp a (.fz wO aO O.length (pis O)::.fz wP aP P.length rP::.fz wC aC C.length rC::rest),.sl (h.next+1) 0 1 (.known 1),.int .i64 O.length,.int .i64 0]∧g'=g) 0 ⟨rfl,rfl,rfl⟩ ?_
  rintro m vs g' ⟨rfl,rfl,rfl⟩
  simp only [pwA,seval,-iQ0,no];refine zBX (l:=[[49]]) oH rfl rfl (by omega) (by omega) (by simp [Lib.join_one]) ?_
  rw [Lib.join_one];simp only [pwA,seval,-iQ0];refine Gh.fin0 kH trivial ?_
  rwa [prT,if_pos hz0]at hk
 have d0:¬((O.length:Nat):Int)=0:=by omega
 have l1:=pa.pLen;obtain⟨t,cap,rfl,q1,q2,q3,q4,q5⟩:=pa.pos (by omega)
 have hjo:=zCk (O:=O) (fun i hi=>by have:=hO i hi;omega) O.length (Nat.le_refl _)
 have hol:=zAm hdig O.length;simp only [pwA,seval,-iQ0,l1,d0];refine zBX q2 (zCI (Nat.le_refl _)).symm q1.ok (by omega) (by omega) (by rw [hjo];omega) ?_
 rw [hjo];simp only [pwA,seval,-iQ0];have tlt:t<h.next:=q5;refine zC (fun m vs g=>∃(i:Nat) (v:PV) (parts:List (List UInt8)),i≤P.length∧m=P.length-i∧vs=[.fp a (.fz wO aO O.length (pis O)::.fz wP aP P.length rP::.fz wC aC C.length rC::rest),.sl t 0 O.length cap,v,.fz wP aP P.length rP,.int .i64 P.length,.int .i64 i]∧Keep h g∧PSl h.next 1 g v parts.length (pst parts)∧parts≠[]∧parts.length≤1+i∧Lib.join parts [59,32]=powT O P (ordT O O.length) i) P.length ?_ ?_
 ·exact⟨0,_,[ordT O O.length],Nat.zero_le _,rfl,rfl,zF _ _,PSl.own (n:=1) (.inr rfl) (by rw [Zj,if_pos rfl];rfl) rfl (Nat.le_refl _) (Nat.lt_succ_self _),by simp,by simp,by rw [Lib.join_one,powT]⟩
 rintro m vs g ⟨i,v,parts,hi,rfl,rfl,kg,ps,pne,pl,pj⟩
 have v1:=ps.one;simp only [pwA,seval,-iQ0,v1];refine iteI (fun hlt=>?_) fun hge=>?_
 ·have hlt':(i:Int)<(P.length:Int):=by omega
  have hltO:i<O.length:=by omega
  have hltO':(i:Int)<(O.length:Int):=by omega
  have ob:=hO i hltO;obtain⟨w4,a4,hr⟩:=hrP.rowI hlt;obtain⟨pln,pe⟩:=PR i hlt;have wi:=wrapS hlt (by omega:P.length≤4611686018427387904)
  have ep:pvec P i=P[i]:=by unfold pvec;rw [List.getD_eq_getElem?_getD,List.getElem?_eq_getElem hlt];rfl
  have rO:g.rd1 t i=some (.str (Lib.itoa O[i])):=by
   rw [zq (by rw [kg.obj _ tlt];exact q2),pst,strO,List.take_length,List.getElem?_map,List.getElem?_map,List.getElem?_eq_getElem hltO];rfl
  have eI:Lib.itoa O[i]=Lib.decDigits (at_ O i).toNat:=by rw [Lib.itoa,if_neg (by omega),at_eq hltO]
  have dl:=hdig i;rw [←eI]at dl
  have nl:=zy (by omega) pe
  have wl:=qK nl.1;simp only [pwA,seval,-iQ0,v1,hlt,hlt',hr];refine zBr rfl (by omega) ?_
  by_cases hz:isZ P[i]
  ·simp only [pwA,seval,-iQ0,v1,hz,wi]
   exact⟨_,by omega,i+1,v,parts,by omega,rfl,rfl,kg,ps,pne,by omega,by rw [powT,ep,if_pos hz];exact pj⟩
  simp only [pwA,seval,-iQ0,v1,hz,wi,rO,hltO,hltO',hlt,hlt'];refine Z9 (by omega) ?_
  simp only [pwA,seval,-iQ0,v1,hz,wi,rO,hltO,hltO',hlt,hlt'];refine zJ ?_;simp only [pwA,seval,-iQ0,v1,hz,wi,rO,hltO,hltO',hlt,hlt'];refine zJ ?_;simp only [pwA,seval,-iQ0,v1,hz,wi,rO,hltO,hltO',hlt,hlt'];refine Qc (fun j=>?_) (by omega) ⟨w4,a4,rfl⟩ fun u hu=>?_
  ·rcases Nat.lt_or_ge j P[i].length with hj | hj
   ·rw [at_eq hj];exact pe _ (List.getElem_mem hj)
   ·unfold at_;rw [List.getD_eq_getElem?_getD,List.getElem?_eq_none hj];simp
  obtain⟨w5,a5,rfl⟩:=hu;simp only [pwA,seval,-iQ0,v1,hz,wi,rO,hltO,hltO',hlt,hlt'];refine zA0 nl.1 nl.2 fun d3 e3 hd3=>?_
  simp only [pwA,seval,-iQ0,v1,hz,wi,rO,hltO,hltO',hlt,hlt'];refine zJ ?_;simp only [pwA,seval,-iQ0,v1,hz,wi,rO,hltO,hltO',hlt,hlt'];refine PSl.push (σb:=h) (bytes:=16) kg ps (by omega) (by omega) fun v2 g2 k2 a2=>?_
  have v3:=a2.one;simp only [pwA,seval,-iQ0,v3,wi];refine⟨_,by omega,i+1,v2,parts++[_],by omega,rfl,rfl,k2,by rw [List.length_append,pst,List.map_append];exact a2,by simp,by rw [List.length_append,List.length_singleton];omega,?_⟩
  rw [Qt pne,pj,powT,ep,if_neg hz,←eI,e3];simp only [List.append_assoc,List.cons_append,List.nil_append]
 have hiP:i=O.length:=by omega
 have hwP:∀i,(wordB (Mx.nw (pvec P i))).length≤43:=fun i=>by
  unfold pvec;rw [List.getD_eq_getElem?_getD];rcases Nat.lt_or_ge i P.length with hi|hi
  ·rw [List.getElem?_eq_getElem hi]
   have:=PR i hi
   exact qK (zy (x:=P[i]) (by omega) this.2).1
  ·rw [List.getElem?_eq_none hi];exact qK (x:=Mx.nw []) (by simp [Mx.nw,Mx.nword])
 have hpw:=zAk (q:=ordT O O.length) hdig hwP O.length;have hwC:∀i j,(wordB (Mx.nw (cvec C i j))).length≤43:=fun i j=>by
  have e0:(wordB (Mx.nw ([]:List Int))).length≤43:=qK (x:=Mx.nw []) (by simp [Mx.nw,Mx.nword])
  unfold cvec;rw [List.getD_eq_getElem?_getD,List.getD_eq_getElem?_getD];rcases Nat.lt_or_ge i C.length with hi|hi
  ·rw [List.getElem?_eq_getElem hi]
   simp only [Option.getD_some];rcases Nat.lt_or_ge (j-i-1) C[i].length with hj|hj
   ·rw [List.getElem?_eq_getElem hj]
    have:=CR i hi _ hj
    exact qK (zy (x:=C[i][j-i-1]) (by omega) this.2).1
   ·rw [List.getElem?_eq_none hj];exact e0
  ·rw [List.getElem?_eq_none hi];exact e0
 clear v1 hge;refine zC (fun m vs g=>∃(i:Nat) (v:PV) (parts:List (List UInt8)),i≤O.length∧m=O.length-i∧vs=[.fp a (.fz wO aO O.length (pis O)::.fz wP aP P.length rP::.fz wC aC C.length rC::rest),v,.int .i64 O.length,.int .i64 i]∧Keep h g∧PSl h.next 1 g v parts.length (pst parts)∧parts≠[]∧parts.length≤7+6*i∧Lib.join parts [59,32]=conT O.length C (powT O P (ordT O O.length) O.length) i) O.length ?_ ?_
 ·exact⟨0,v,parts,Nat.zero_le _,rfl,rfl,kg,ps,pne,by omega,by rw [pj,conT,hiP]⟩
 clear pj pl hi hiP pne ps kg
 rintro m vs g ⟨i,v,parts,hi,rfl,rfl,kg,ps,pne,pl,pj⟩
 have v1:=ps.one;simp only [pwA,seval,-iQ0,v1];refine iteI (fun hlt=>?_) fun hge=>?_
 rotate_left
 ·obtain rfl:i=O.length:=by omega
  obtain⟨t6,cap6,rfl,y1,y2,y3,y4,y5⟩:=ps;have hcl:=zAu (n:=O.length) (q:=powT O P (ordT O O.length) O.length) hn6 hwC O.length;refine zBX y2 rfl y1.ok (List.length_pos_iff.2 pne) (by omega) (by rw [pj];omega) ?_
  rw [pj];simp only [pwA,seval,-iQ0];refine Gh.fin0 (kk.trans kg) trivial ?_
  rwa [prT,if_neg hz0]at hk
 have hltC:i<C.length:=by omega
 have hltC':(i:Int)<(C.length:Int):=by omega
 obtain⟨w4,a4,rs4,hr,hrs⟩:=hrC.rowL hltC;have cl:=CL i hltC;have wi:=wrapS hlt (by omega:O.length≤4611686018427387904)
 simp only [pwA,seval,-iQ0,v1,hltC,hltC',hr];refine zC (fun m vs g=>∃(k:Nat) (v:PV) (parts:List (List UInt8)),k≤C[i].length∧m=C[i].length-k∧vs=[.fp a (.fz wO aO O.length (pis O)::.fz wP aP P.length rP::.fz wC aC C.length rC::rest),v,.int .i64 i,.int .i64 O.length,.int .i64 i,.fz w4 a4 C[i].length rs4,.int .i64 C[i].length,.int .i64 k]∧Keep h g∧PSl h.next 1 g v parts.length (pst parts)∧parts≠[]∧parts.length≤7+6*i+k∧Lib.join parts [59,32]=conTr O.length C (conT O.length C (powT O P (ordT O O.length) O.length) i) i k) C[i].length ?_ ?_
 ·exact⟨0,v,parts,Nat.zero_le _,rfl,rfl,kg,ps,pne,by omega,by rw [pj,conTr]⟩
 clear pj pl pne ps kg v1
 rintro m vs g ⟨k,v,parts,hkl,rfl,rfl,kg,ps,pne,pl,pj⟩
 have v1:=ps.one;simp only [pwA,seval,-iQ0,v1];refine iteI (fun hkt=>?_) fun hge=>?_
 rotate_left
 ·simp only [pwA,seval,-iQ0,v1,wi]
  exact⟨_,by omega,i+1,v,parts,by omega,rfl,rfl,kg,ps,pne,by omega,by rw [conT,pj,show k=O.length-1-i by omega]⟩
 have hkt':(k:Int)<(C[i].length:Int):=by omega
 obtain⟨w6,a6,hr6⟩:=hrs.rowI hkt;obtain⟨pln,pe⟩:=CR i hltC _ hkt;have wk:=wrapS hkt (by omega:C[i].length≤4611686018427387904)
 have w1:IntKind.i64.wrap ((i:Int)+1)=(i:Int)+1:=wrap64 (by omega) (by omega)
 obtain⟨jj,ejj⟩:∃jj,jj=i+1+k:=⟨_,rfl⟩
 have w2:IntKind.i64.wrap ((i:Int)+1+(k:Int))=(jj:Int):=by rw [wrap64 (by omega) (by omega)];omega
 have ec:cvec C i (i+1+k)=C[i][k]:=by
  unfold cvec;rw [show i+1+k-i-1=k by omega,List.getD_eq_getElem?_getD,List.getD_eq_getElem?_getD,List.getElem?_eq_getElem hltC]
  simp only [Option.getD_some];rw [List.getElem?_eq_getElem hkt];rfl
 have nl:=zy (by omega) pe
 simp only [pwA,seval,-iQ0,v1,hkt,hkt',hr6,w1,w2];rw [pln];refine zBx (by omega) (by omega) fun au=>?_
 simp only [pwA,seval,-iQ0,v1,hkt,hkt',hr6,w1,w2];refine zGn pln.symm (Qh ..).symm (by omega) ?_
 by_cases hz:C[i][k]=unitL O.length jj
 ·simp only [pwA,seval,-iQ0,v1,hz,wk]
  exact⟨_,by omega,k+1,v,parts,by omega,rfl,rfl,kg,ps,pne,by omega,by rw [conTr,ec,if_pos (by rw [←ejj];exact hz),pj]⟩
 simp only [pwA,seval,-iQ0,v1,hz,wk];refine Z9 (i:=jj) (by omega) ?_
 simp only [pwA,seval,-iQ0,v1,hz,wk];refine Z9 (i:=i) (by omega) ?_
 simp only [pwA,seval,-iQ0,v1,hz,wk];refine Qc (x:=C[i][k]) (fun j=>?_) (by omega) ⟨w6,a6,by rw [pln]⟩ fun u hu=>?_
 ·rcases Nat.lt_or_ge j C[i][k].length with hj | hj
  ·rw [at_eq hj];exact pe _ (List.getElem_mem hj)
  ·unfold at_;rw [List.getD_eq_getElem?_getD,List.getElem?_eq_none hj];simp
 obtain⟨w5,a5,rfl⟩:=hu;simp only [pwA,seval,-iQ0,v1,hz,wk];refine zA0 nl.1 nl.2 fun d3 e3 hd3=>?_
 simp only [pwA,seval,-iQ0,v1,hz,wk];refine zJ ?_;simp only [pwA,seval,-iQ0,v1,hz,wk];refine PSl.push (σb:=h) (bytes:=16) kg ps (by omega) (by omega) fun v2 g2 k2 a2=>?_
 have v3:=a2.one;simp only [pwA,seval,-iQ0,v3,wk];refine⟨_,by omega,k+1,v2,parts++[_],by omega,rfl,rfl,k2,by rw [List.length_append,pst,List.map_append];exact a2,by simp,by rw [List.length_append,List.length_singleton];omega,?_⟩
 rw [Qt pne,pj,conTr,ec,if_neg (by rw [←ejj];exact hz),e3,←ejj]
 simp only [List.append_assoc,List.cons_append,List.nil_append]
end Go.Proofs
namespace Go.Grp
end Go.Grp
namespace Go.Proofs
section
open Go.RowKit Go.Lie Go.Grp
def Says (P:Program) (f:FuncId) (args:Array Value) (w:World) (q:List UInt8):Prop:=Calls P f args w fun e w'=>e=.returned (.string ⟨q.toArray⟩)∧Below w.heap.size w w'
def Bld (B:Nat) (q:List UInt8) (w:World):Prop:=Lib.IsBuilderF 63 5 B B (Lib.byteCells q) w
theorem Q6 {w w':World} (hb:Below w.heap.size w w') {b:Nat} {o:Obj} (h:w.heap[b]? = some o):w'.heap[b]? = some o:=by
 rw [hb.block _ (Array.getElem?_eq_some_iff.1 h).1];exact h
theorem zAV {w w':World} {B e n:Nat} {v:Value} {xs:List Value} (hb:Below w.heap.size w w') (h:w.ownsRowF B e 1 v n xs):w'.ownsRowF B e 1 v n xs:=by
 refine⟨h.1,?_⟩;rcases h.2 with q|⟨g,cap,cur,fz,h1,h2,h3,rest⟩
 ·exact .inl q
 ·exact .inr ⟨g,cap,cur,fz,h1,h2,Q6 hb h3,rest⟩
theorem Bld.below {B:Nat} {q:List UInt8} {w w':World} (h:Bld B q w) (hb:Below w.heap.size w w'):Bld B q w':=by
 rcases h with ⟨h1,v,h2,h3,h4⟩|⟨h1,v,h2,h3,h4⟩
 ·exact .inl ⟨h1,v,Q6 hb h2,zAV hb h3,h4⟩
 ·exact .inr ⟨h1,v,Q6 hb h2,zAV hb h3,h4⟩
theorem ws {B:Nat} (q t:List UInt8) (W:World) (h:Bld B q W) (hB:B≤W.heap.size) (hl:q.length+t.length≤1000000):
  Calls Tryd.prog 32 #[.pointer (some ⟨B,0,none⟩),.string ⟨t.toArray⟩] W fun e W'=>e=.returned (.tuple #[.int .i64 t.length,.nilIface])∧Bld B (q++t) W'∧Below B W W':=by
 have e1:(⟨t.toArray⟩:ByteArray).size=t.length:=by simp [ByteArray.size]
 refine(Tryd.WriteString_f B B (Lib.byteCells q) ⟨t.toArray⟩ W h (by rw [Lib.byteCells_length,e1];omega) hB).mono ?_
 rintro e W' ⟨rfl,h1,b1⟩
 refine⟨by rw [e1],?_,b1⟩
 rw [Lib.strCells_eq,←Lib.byteCells_append]at h1
 exact .inr h1
theorem zCh (a b:List UInt8):(⟨a.toArray⟩:ByteArray)++⟨b.toArray⟩=⟨(a++b).toArray⟩:=by
 apply ByteArray.ext;simp [ByteArray.data_append]
set_option maxHeartbeats 1600000
set_option maxRecDepth 100000
def LiAt (w:World) (v:Value) (L:List (List Int)):Prop:=
 ∃p c,v=.slice p L.length c∧∀i,i<L.length→∃b o,p=some ⟨b,o,none⟩∧∃xp xc,w.cell? ⟨b,o+i,none⟩=some (.slice xp (L.getD i []).length xc)∧b<w.heap.size∧
  ∀j,j<(L.getD i []).length→∃b1 o1,xp=some ⟨b1,o1,none⟩∧b1<w.heap.size∧w.cell? ⟨b1,o1+j,none⟩=some (.int .i64 (at_ (L.getD i []) j))
theorem zEn (k:Int) (n pb po gb g0 gc:Nat) (vL:Value) (w:World) (T gT:Nat→List UInt8) (L:List (List Int))
  (c0:w.cell? ⟨pb,po,none⟩=some (.int .i64 k)) (c1:w.cell? ⟨pb,po+1,none⟩=some (.slice (some ⟨gb,g0,none⟩) n gc)) (c2:w.cell? ⟨pb,po+2,none⟩=some vL) (hn:n≤3)
  (hF:∀z:Int,-1000000≤z→z≤1000000→∀W,Below w.heap.size w W→Says Tryd.prog 33 #[.int .i64 z,.int .i64 10] W (Lib.itoa z)) (hFl:∀z:Int,-1000000≤z→z≤1000000→(Lib.itoa z).length≤8) (hk:-1000000≤k) (hk':k≤1000000)
  (hT:∀q,q<n→∀W,Below w.heap.size w W→Says Tryd.prog 34 #[.pointer (some ⟨gb,g0+q*3,none⟩)] W (T q)) (hTl:∀q,q<n→(T q).length≤3000)
  (g_0:gT 0=Lib.itoa k++[10]) (g_s:∀q,gT (q+1)=gT q++(T q++[10]))
  (hL:LiAt w vL L) (hLl:L.length≤32) (hLe:∀i,(L.getD i []).length≤128) (hLv:∀i j,-1000000≤at_ (L.getD i []) j∧at_ (L.getD i []) j≤1000000):
  Calls Tryd.prog 16 #[.pointer (some ⟨pb,po,none⟩)] w fun e w'=>e=.returned (.string ⟨(liT (gT n) L L.length).toArray⟩)∧Below w.heap.size w w':=by
 obtain⟨lp,lc,rfl,hL⟩:=hL;have ktl:=hFl k hk hk';obtain⟨kt,hkt⟩:∃kt,kt=Lib.itoa k:=⟨_,rfl⟩
 rw [←hkt]at g_0 ktl
 have hlt:pb<w.heap.size:=World.block_lt_of_cell? _ _ c0;have gl:∀q,q≤n→(gT q).length≤101+3001*q:=fun q=>by
  induction q with
  | zero=>intro _;rw [g_0];simp;omega
  | succ q ih=>intro hq;have:=ih (by omega);have:=hTl q (by omega);rw [g_s];simp;omega
 have h0:Bld w.heap.size [] (w.alloc (.cells #[.pointer none,.slice none 0 0] 63)):=Lib.IsBuilderF.of (Lib.fresh_isBuilder 63 5 w);have b0:Below w.heap.size w (w.alloc (.cells #[.pointer none,.slice none 0 0] 63)):=(Below.refl _ w).alloc (Nat.le_refl _) _;have f0:=hF k hk hk' _ b0;unfold Says at f0
 rw [←hkt]at f0
 clear hkt
 go_enter Tryd.func16,Tryd.ntmps16
 go_wp2_with (go_at_call 33;refine f0.mono ?_)
 rintro e W1 ⟨rfl,b1⟩
 have h1:Bld w.heap.size [] W1:=h0.below b1;have b01:Below w.heap.size w W1:=b0.trans (b1.mono b0.size);clear f0 h0 b0 b1;have cw:=ws [] (kt++[10]) W1 h1 b01.size (by simp;omega)
 go_wp2_with fail
 rw [show(⟨kt.toArray⟩:ByteArray)++⟨#[10]⟩=⟨(kt++[10]).toArray⟩ from zCh kt [10]]
 refine cw.mono ?_
 rintro e W2 ⟨rfl,h2,b2⟩
 have b02:Below w.heap.size w W2:=b01.trans b2;rw [List.nil_append,←g_0]at h2
 clear cw b2 b01 h1;have c1':W2.cell? ⟨pb,po+1,none⟩=some (.slice (some ⟨gb,g0,none⟩) n gc):=(b02.cell (p:=⟨pb,po+1,none⟩) hlt).trans c1
 go_wp2
 go_loopw [21] (fun i wr=>∃q:Nat,q≤n∧i=.int .i64 q∧Bld w.heap.size (gT q) wr∧Below w.heap.size w wr) (fun i _=>n-(intOf i).toNat)
 case atStart=>exact⟨0,Nat.zero_le _,rfl,h2,b02⟩
 case round=>
  obtain⟨q,hq,rfl,hB,hb⟩:=hrel;clear c1' h2 b02
  by_cases hqn:q<n
  ·have c1r:wr.cell? ⟨pb,po+1,none⟩=some (.slice (some ⟨gb,g0,none⟩) n gc):=(hb.cell (p:=⟨pb,po+1,none⟩) hlt).trans c1
   have fT:=hT q hqn wr hb;unfold Says at fT
   go_wp2_with fail
   refine fT.mono ?_
   rintro e W3 ⟨rfl,b3⟩
   have h3:Bld w.heap.size (gT q) W3:=hB.below b3;have b03:Below w.heap.size w W3:=hb.trans (b3.mono hb.size);have gq:=gl q (by omega)
   have tq:=hTl q hqn;have cw:=ws (gT q) (T q++[10]) W3 h3 b03.size (by simp;omega)
   clear fT b3 hB hb
   go_wp2_with fail
   rw [show(⟨(T q).toArray⟩:ByteArray)++⟨#[10]⟩=⟨(T q++[10]).toArray⟩ from zCh (T q) [10]]
   refine cw.mono ?_
   rintro e W4 ⟨rfl,h4,b4⟩
   rw [←g_s]at h4
   have b04:=b03.trans b4;clear cw b4 b03 h3
   go_wp2
   go_roundw
   case rel=>exact⟨q+1,by omega,by go_num,h4,b04⟩
   case measure=>simp [intOf];omega
  ·obtain rfl:q=n:=by omega
   have c2r:wr.cell? ⟨pb,po+2,none⟩=some (.slice lp L.length lc):=(hb.cell (p:=⟨pb,po+2,none⟩) hlt).trans c2;have gq:=gl q (Nat.le_refl _);have liL:∀i,i≤32→(liT (gT q) L i).length≤(gT q).length+1200*i∧∀j,j≤128→(enT (liT (gT q) L i++[58]) (L.getD i []) j).length≤(gT q).length+1200*i+1+9*j:=by
    have en:∀q x j,(∀z,-1000000≤at_ x z∧at_ x z≤1000000)→(enT q x j).length≤q.length+9*j:=fun q x j hx=>by
     induction j with
     | zero=>simp [enT]
     | succ j ih=>have:=hFl _ (hx j).1 (hx j).2;rw [enT];simp only [List.length_append,List.length_singleton];omega
    have li:∀i,i≤32→(liT (gT q) L i).length≤(gT q).length+1200*i:=fun i=>by
     induction i with
     | zero=>intro _;simp [liT]
     | succ i ih=>
      intro hi
      have:=ih (by omega)
      have e2:=en (liT (gT q) L i++[58]) (L.getD i []) (L.getD i []).length (hLv i)
      have:=hLe i
      rw [liT];simp only [List.length_append,List.length_singleton]at e2 ⊢
      omega
    intro i hi;refine⟨li i hi,fun j hj=>?_⟩
    have e1:=li i hi;have e2:=en (liT (gT q) L i++[58]) (L.getD i []) j (hLv i);simp only [List.length_append,List.length_singleton]at e2
    omega
   go_wp2_with fail
   clear c2r c2 c1 c0 hT;have hll:(intOf (.int .i64 (L.length:Int))).toNat=L.length:=by simp [intOf]
   go_loopw [39] (fun i wr=>∃q2:Nat,q2≤L.length∧i=.int .i64 q2∧Bld w.heap.size (liT (gT q) L q2) wr∧Below w.heap.size w wr) (fun i _=>L.length-(intOf i).toNat)
   case atStart=>exact⟨0,Nat.zero_le _,rfl,hB,hb⟩
   case round=>
    clear hB hb;obtain⟨i,hi,rfl,hB,hb⟩:=hrel
    by_cases hil:i<L.length
    ·obtain⟨lb,l0,rfl,xp,xc,cx,hlb,hx⟩:=hL i hil
     have cx':wr.cell? ⟨lb,l0+i,none⟩=some (.slice xp (L.getD i []).length xc):=(hb.cell (p:=⟨lb,l0+i,none⟩) hlb).trans cx;have li0:=(liL i (by omega)).1
     have liJ:=(liL i (by omega)).2
     have le:=hLe i;have hLvi:=hLv i;have hAt:∀j,∃z,z=at_ (L.getD i []) j:=fun j=>⟨_,rfl⟩
     obtain⟨X,hX⟩:∃X,X=L.getD i []:=⟨_,rfl⟩
     rw [←hX]at cx' hx le hLvi liJ
     have HX:Hid (X=L.getD i []):=Lib.hid hX;clear hX hAt cx hL hLe hLv;have cw:=ws (liT (gT q) L i) [58] wr hB hb.size (by simp;omega)
     go_wp2_with fail
     refine cw.mono ?_
     rintro e W5 ⟨rfl,h5,b5⟩
     have b05:Below w.heap.size w W5:=hb.trans b5;clear cw b5 hb hB cx'
     go_wp2_with fail
     go_loopw [46] (fun v wr=>∃j:Nat,j≤X.length∧v=.int .i64 j∧Bld w.heap.size (enT (liT (gT q) L i++[58]) X j) wr∧Below w.heap.size w wr) (fun v _=>X.length-(intOf v).toNat)
     case atStart=>exact⟨0,Nat.zero_le _,rfl,h5,b05⟩
     case round=>
      clear h5 b05;obtain⟨j,hj,rfl,hB,hb⟩:=hrel;have ll:=liJ j (by omega)
      by_cases hjl:j<X.length
      ·obtain⟨xb,x0,rfl,hxb,cy⟩:=hx j hjl
       have cy':wr.cell? ⟨xb,x0+j,none⟩=some (.int .i64 (at_ X j)):=(hb.cell (p:=⟨xb,x0+j,none⟩) hxb).trans cy;have lv:=hLvi j;obtain⟨z,hz⟩:∃z,z=at_ X j:=⟨_,rfl⟩
       rw [←hz]at cy' lv
       have HZ:Hid (z=at_ X j):=Lib.hid hz;clear hz cy;have fz:=hF _ lv.1 lv.2 wr hb;have fl:=hFl _ lv.1 lv.2;unfold Says at fz
       obtain⟨kt2,hkt2⟩:∃kt2,kt2=Lib.itoa z:=⟨_,rfl⟩
       rw [←hkt2]at fz fl
       have HK:Hid (kt2=Lib.itoa z):=Lib.hid hkt2;clear hkt2
       go_wp2_with fail
       refine fz.mono ?_
       rintro e W6 ⟨rfl,b6⟩
       have h6:=hB.below b6;have b06:Below w.heap.size w W6:=hb.trans (b6.mono hb.size);clear fz b6 hb hB cy';have cw:=ws (enT (liT (gT q) L i++[58]) X j) ([32]++kt2) W6 h6 b06.size (by simp only [List.length_append,List.length_singleton];omega)
       go_wp2_with fail
       rw [show(⟨#[32]⟩:ByteArray)++⟨kt2.toArray⟩=⟨([32]++kt2).toArray⟩ from zCh [32] kt2]
       refine cw.mono ?_
       rintro e W7 ⟨rfl,h7,b7⟩
       have b07:Below w.heap.size w W7:=b06.trans b7;rw [←List.append_assoc,(show kt2=_ from HK),(show z=_ from HZ)]at h7
       clear cw b7 b06 h6
       go_wp2
       go_roundw
       case rel=>exact⟨j+1,by omega,by go_num,h7,b07⟩
       case measure=>simp [intOf];omega
      ·obtain rfl:j=X.length:=by omega
       have cw:=ws _ [10] wr hB hb.size (by simp only [List.length_append,List.length_singleton];omega)
       go_wp2_with fail
       refine cw.mono ?_
       rintro e W7 ⟨rfl,h7,b7⟩
       have b07:Below w.heap.size w W7:=hb.trans b7;clear cw b7 hb hB
       go_wp2
       go_roundw
       case rel=>exact⟨i+1,by omega,by go_num,by rw [liT,←(show X=_ from HX)];exact h7,b07⟩
       case measure=>simp [intOf];omega
    ·obtain rfl:i=L.length:=by omega
     have sw:=Tryd.String_f w.heap.size w.heap.size (liT (gT q) L L.length) wr hB hb.size
     go_wp2_with fail
     refine sw.mono ?_
     rintro e W5 ⟨rfl,h5,b5⟩
     have b05:Below w.heap.size w W5:=hb.trans b5;clear sw b5 hb hB
     go_wp2_with fail
     go_ret
     exact⟨rfl,b05⟩
end
section
open Go.Ab Go.Lie Go.Grp
variable {σ:PHeap} {K:PV→PHeap→Prop} {B s:Nat} {w0 w:World} {j:Inj} {h:AHeap} {ι:Nat→Nat} {Z:Nat→Prop} {vO vP vC v vG vL:PV} {O:List Int} {P:List (List Int)} {C:List (List (List Int))}
theorem zG5 (hp:zg O P C):(prT O P C).length≤3000:=by
 have sh:=hp.shp;have hn6:=sh.le;have hpl:=sh.pl;have hcl:=sh.cl;have ent:∀{k:Nat} {y:List Int},TT O k y→∀a∈y,0≤a∧a≤7:=fun {k y} h a ha=>by
  obtain⟨j,hj,rfl⟩:=List.mem_iff_getElem.1 ha;have b:=h.bd j (by have:=h.len;omega)
  rw [at_eq hj]at b
  have o:=sh.pr j (by have:=h.len;omega)
  omega
 have one:∀{k:Nat} {y:List Int},TT O k y→(wordB (Mx.nw y)).length≤43:=fun h=>qK (zy (by have:=h.len;omega) (ent h)).1
 have nil:(wordB (Mx.nw [])).length≤43:=qK (zy (x:=[]) (by simp) (by simp)).1
 have hp:∀i,(wordB (Mx.nw (pvec P i))).length≤43:=fun i=>by
  rcases Nat.lt_or_ge i P.length with h|h
  ·exact one (sh.pw i (by omega))
  ·rw [show pvec P i=[] by unfold pvec;rw [List.getD_eq_getElem?_getD,List.getElem?_eq_none h];rfl];exact nil
 have hc:∀i j,(wordB (Mx.nw (cvec C i j))).length≤43:=fun i j=>by
  rcases Nat.lt_or_ge i C.length with h|h
  ·have hl:=sh.row i (by omega)
   rcases Nat.lt_or_ge (j-i-1) (C.getD i []).length with h2|h2
   ·have e:cvec C i j=cvec C i (i+1+(j-i-1)):=by unfold cvec;rw [show i+1+(j-i-1)-i-1=j-i-1 by omega]
    rw [e];exact one (sh.cj i (i+1+(j-i-1)) (by omega) (by omega))
   ·rw [show cvec C i j=[] by unfold cvec;rw [List.getD_eq_getElem?_getD,List.getElem?_eq_none h2];rfl];exact nil
  ·rw [show cvec C i j=[] by unfold cvec;rw [show C.getD i []=[] by rw [List.getD_eq_getElem?_getD,List.getElem?_eq_none h];rfl];rfl];exact nil
 have hdig:∀i,(Lib.decDigits (at_ O i).toNat).length≤6:=fun i=>by
  rcases Nat.lt_or_ge i O.length with h|h
  ·have:=sh.pr i h
   exact Nat.le_trans (qX 0 _ (by omega)) (by omega)
  ·unfold at_
   rw [List.getD_eq_getElem?_getD,List.getElem?_eq_none h];exact Nat.le_trans (qX 0 _ (by simp)) (by omega)
 unfold prT
 split
 ·simp
 ·have a1:=zAm hdig O.length
  have a2:=zAk (q:=ordT O O.length) hdig hp O.length;have a3:=zAu (q:=powT O P (ordT O O.length) O.length) hn6 hc O.length;omega
theorem zCm {b:Bool} {a:AV} {cv:Value} {len:Nat} {ws:List AV} (m:MR B w0 j h w) (v:VI j a cv) (f:FzAt Z h b a len ws):
  ∃p c,cv=.slice p len c∧(0<len→ws≠[]→∃blk o,p=some ⟨blk,o,none⟩∧blk<w.heap.size∧(∀i x,ws[i]? = some x→∃cx,w.cell? ⟨blk,o+i,none⟩=some cx∧VI j x cx)∧
   ∀i,i≤ws.length→∃a',VI j a' (.pointer (some ⟨blk,o+i,none⟩))∧FpAt Z h a' (ws.drop i)):=by
 rcases f with ⟨rfl,rfl,rfl⟩|⟨o,off,cap,rfl,hz,hr,hcap,_⟩
 ·exact⟨none,0,v,fun h=>absurd h (by omega)⟩
 ·obtain⟨lo,p,c,hj,e,hp⟩:∃lo p c,j o=some lo∧cv=.slice p len c∧(0<len→p=some ⟨lo.blk,lo.base+off,none⟩):=by
   cases cap with
   | known c=>
    obtain⟨lo,a,hj,e,ha⟩:=v;refine⟨lo,_,_,hj,e,fun h=>?_⟩
    rcases ha with rfl|⟨_,e0⟩
    ·rfl
    ·omega
   | grown e=>
    obtain⟨lo,c,f,hj,e1,hle,hf,_⟩:=v;refine⟨lo,_,_,hj,e1,fun h=>?_⟩
    rcases hf with rfl|⟨e0,_⟩
    ·rfl
    ·omega
  refine⟨p,c,e,fun hl hne=>⟨lo.blk,lo.base+off,hp hl,?_⟩⟩
  have hr:=hr.resolve_left hne;obtain⟨ob,ho,hle,hws⟩:=AHeap.rd_some hr;obtain⟨cur,ty,fz,r1,r2,r3,r4⟩:=(m.obj _ _ _ ho hj).row;refine⟨(Array.getElem?_eq_some_iff.1 r1).1,fun i x hx=>?_,fun i hi=>⟨.ptr o (off+i),⟨lo,hj,by rw [Nat.add_assoc]⟩,rfl,.inr ⟨o,off+i,rfl,hz,?_⟩⟩⟩
  ·have hil:i<ws.length:=(List.getElem?_eq_some_iff.1 hx).1
   have:ob.cells[off+i]? = some x:=by
    rw [hws,List.getElem?_take,if_pos (by omega),List.getElem?_drop]at hx
    exact hx
   obtain⟨cx,c1,c2⟩:=r2 _ _ this;exact⟨cx,by rw [Lib.cell_of_heap r1,Nat.add_assoc];exact c1,c2⟩
  ·rw [List.length_drop,QE hr (a:=i) (b:=ws.length-i) (by omega),List.take_of_length_le (by rw [List.length_drop];omega)]
theorem zBH (cs:List PV):looses cs=cs.map loose:=by
 induction cs with
 | nil=>rfl
 | cons c cs ih=>rw [looses,ih];rfl
theorem zEV (l:List Int):looses (pis l)=pis l:=by
 induction l with
 | nil=>rfl
 | cons c cs ih=>exact congrArg (PV.int .i64 c::·) ih
theorem zAy {v:PV} {xs:List Int} (h:FI v xs):FI (Ab.loose v) xs:=by
 obtain⟨w,a,rfl⟩:=h;exact⟨false,a,by rw [Ab.loose,zEV]⟩
theorem zAx {α:Type} {R:PV→α→Prop} (hR:∀v x,R v x→R (Ab.loose v) x) {v:PV} {xs:List α} (h:FL R v xs):FL R (Ab.loose v) xs:=by
 obtain⟨w,a,rows,rfl,h1,h2⟩:=h;refine⟨false,a,looses rows,rfl,by rw [zBH,List.length_map,h1],fun k x y hx hy=>?_⟩
 rw [zBH,List.getElem?_map,Option.map_eq_some_iff]at hx
 obtain⟨x0,hx0,rfl⟩:=hx;exact hR _ _ (h2 k _ _ hx0 hy)
theorem zEt (h:IsPr vO vP vC O P C):IsPr (Ab.loose vO) (Ab.loose vP) (Ab.loose vC) O P C:=
 ⟨zAy h.O,zAx (fun _ _ h=>zAy h) h.P,zAx (fun _ _ h=>zAx (fun _ _ h=>zAy h) h) h.C⟩
theorem zGZ {z:Int} (h1:-1000000≤z) (h2:z≤1000000):(Lib.itoa z).length≤8:=by
 unfold Lib.itoa
 split
 ·have:=qX 6 z.natAbs (by omega)
  simp only [List.length_cons];omega
 ·have:=qX 6 z.toNat (by omega)
  omega
theorem zCn:∀{rows:List (PV×PV×PV)} {k:Nat} (hk:k<rows.length),∃rest,(fl3 rows).drop (k*3)=rows[k].1::rows[k].2.1::rows[k].2.2::rest
 | q::r,0,_=>⟨_,rfl⟩
 | q::r,k+1,hk=>by
  rw [show(k+1)*3=k*3+1+1+1 by omega]
  simp only [fl3,List.drop_succ_cons,List.getElem_cons_succ];exact zCn (rows:=r) (by simpa using hk)
theorem grT_s (q:List UInt8) (G:List Pre) (i:Nat):grT q G (i+1)=grT q G i++(prT (G.getD i ([],[],[])).1 (G.getD i ([],[],[])).2.1 (G.getD i ([],[],[])).2.2++[10]):=by rw [grT,List.append_assoc]
theorem Q3 {k:Int} {G:List Pre} {L:List (List Int)} (ho:σ.obj s=some [.int .i64 k,vG,vL]) (hG:FG vG G) (hL:FII vL L) (hc:zx k G L) (hk:K (.str (certT k G L)) σ):zA Tryd.prog 16 [.ptr s 0] σ K:=by
 obtain⟨wG,aG,rG,rfl,hrG⟩:=hG;obtain⟨wL,aL,rL,rfl,hrL⟩:=hL;obtain⟨c1,c2,c3,c4⟩:=hc;have hk6:1≤k∧k≤6:=by
  unfold need at c1
  by_cases h5:k=5
  ·omega
  by_cases h4:k=4
  ·omega
  rw [if_neg h5,if_neg h4]at c1
  split at c1<;>omega
 have hG3:G.length≤3∧0<G.length:=by
  unfold need at c1
  by_cases h5:k=5
  ·rw [if_pos h5]at c1;omega
  by_cases h4:k=4
  ·rw [if_neg h5,if_pos h4]at c1;omega
  ·rw [if_neg h5,if_neg h4,if_pos hk6]at c1;omega
 refine zA.quietS (q:=certT k G L) (fun ι Z h r va B w0 j w cargs m vi=>?_) hk
 obtain⟨cv,_,rfl,⟨lo,hj,rfl⟩,rfl⟩:=vi;obtain⟨q1,⟨_,⟨q2,q2s⟩,⟨q3,q3s⟩,_⟩,q4⟩:=r.obj s _ ho;obtain⟨cur,ty,fz,r1,r2,r3,r4⟩:=(m.obj _ _ _ q1 hj).row;obtain⟨_,e0,rfl⟩:=r2 0 _ rfl;obtain⟨cG,e1,vG⟩:=r2 1 _ rfl;obtain⟨cL,e2,vL⟩:=r2 2 _ rfl;obtain⟨pG,gc,rfl,gM⟩:=zCm m vG q2;have hrl:rG.length=G.length:=hrG.1;obtain⟨gb,g0,rfl,gbl,gM,gP⟩:=gM hG3.2 (fun e=>by
  have:=congrArg List.length e
  rw [zZ,List.length_map,zY]at this
  simp at this;omega)
 have LL:LiAt w cL L:=by
  obtain⟨pL,lc,rfl,lM⟩:=zCm m vL q3;refine⟨pL,lc,rfl,fun i hi=>?_⟩
  have hir:i<rL.length:=by rw [hrL.1];exact hi
  obtain⟨lb,l0,rfl,lbl,lM,_⟩:=lM (by omega) (fun e=>by
   have:=congrArg List.length e
   simp only [zZ,List.length_map,List.length_nil]at this
   omega)
  obtain⟨wx,ax,ex⟩:FI rL[i] L[i]:=hrL.2 i _ _ (List.getElem?_eq_getElem hir) (List.getElem?_eq_getElem hi);obtain⟨cx,c1,c2⟩:=lM i ax (by rw [zZ,List.getElem?_map,List.getElem?_eq_getElem hir,ex];rfl)
  have hv:VOK Z h 0 rL[i]:=zw.1 q3s _ (List.getElem_mem hir);rw [ex]at hv
  obtain⟨px,xc,rfl,xM⟩:=zCm m c2 hv.1;have ge:L.getD i []=L[i]:=by rw [List.getD_eq_getElem?_getD,List.getElem?_eq_getElem hi];rfl
  rw [ge];refine⟨lb,l0,rfl,px,xc,c1,lbl,fun j hj=>?_⟩
  obtain⟨xb,x0,rfl,xbl,xM,_⟩:=xM (by omega) (fun e=>by
   have:=congrArg List.length e
   simp only [zZ,List.length_map,pis,List.length_nil]at this
   omega)
  obtain⟨cy,y1,rfl⟩:=xM j (.int .i64 (at_ L[i] j)) (by rw [zZ,List.getElem?_map,zN,gi hj,at_eq hj];rfl)
  exact⟨xb,x0,rfl,xbl,y1⟩
 have bd:∀x,x∈L→∀j,-1000000≤at_ x j∧at_ x j≤1000000:=fun x hx j=>by
  rcases Nat.lt_or_ge j x.length with h|h
  ·rw [at_eq h];exact(c4 x hx).2 _ (List.getElem_mem h)
  ·unfold at_;rw [List.getD_eq_getElem?_getD,List.getElem?_eq_none h];simp
 have:=zEn k G.length lo.blk lo.base gb g0 gc cL w (fun i=>prT (G.getD i ([],[],[])).1 (G.getD i ([],[],[])).2.1 (G.getD i ([],[],[])).2.2) (grT (Lib.itoa k++[10]) G) L
  (by rw [Lib.cell_of_heap r1];exact e0) (by rw [Lib.cell_of_heap r1];exact e1) (by rw [Lib.cell_of_heap r1];exact e2) hG3.1
  (fun z z1 z2 W hb=>(Tryd.strconv_FormatInt_10 z (by omega) (by omega) W (zEv (m.quiet hb))).mono fun e w' ⟨he,k,os,hw⟩=>⟨he,hw ▸ Go.Lib.below_grow _ W (Nat.le_refl _) k os⟩)
  (fun z z1 z2=>zGZ z1 z2) (by omega) (by omega) (fun i hi W hb=>?_) (fun i hi=>?_) rfl (grT_s _ _) LL c2 (fun i=>?_) (fun i j=>?_)
 ·exact this
 ·have hkr:i<rG.length:=by omega
  obtain⟨rest,er⟩:=zCn hkr;obtain⟨a',va',fa'⟩:=gP (i*3) (by rw [zZ,List.length_map,zY];omega)
  have hp:IsPr rG[i].1 rG[i].2.1 rG[i].2.2 G[i].1 G[i].2.1 G[i].2.2:=hrG.2 i _ _ (List.getElem?_eq_getElem hkr) (List.getElem?_eq_getElem hi);have ge:G.getD i ([],[],[])=G[i]:=by rw [List.getD_eq_getElem?_getD,List.getElem?_eq_getElem hi];rfl
  rw [ge];rw [zZ,←List.map_drop,er,←zZ]at fa'
  have vv:VOKs Z h 0 ((fl3 rG).drop (i*3)):=zw.2 fun c hc=>zw.1 q2s c (List.mem_of_mem_drop hc)
  rw [er]at vv
  refine zA.quietC (args:=[.fp a' (rG[i].1::rG[i].2.1::rG[i].2.2::rest)]) (Qo (zEt hp) (c3 _ (List.getElem_mem hi)) rfl) r ⟨⟨fa',vv⟩,trivial⟩ (m.quiet hb) ⟨_,_,rfl,va',rfl⟩
 ·have ge:G.getD i ([],[],[])=G[i]:=by rw [List.getD_eq_getElem?_getD,List.getElem?_eq_getElem hi];rfl
  rw [ge];exact zG5 (c3 _ (List.getElem_mem hi))
 ·rcases Nat.lt_or_ge i L.length with h | h
  ·rw [List.getD_eq_getElem?_getD,List.getElem?_eq_getElem h];exact(c4 _ (List.getElem_mem h)).1
  ·rw [List.getD_eq_getElem?_getD,List.getElem?_eq_none h];simp
 ·rcases Nat.lt_or_ge i L.length with h | h
  ·rw [List.getD_eq_getElem?_getD,List.getElem?_eq_getElem h];exact bd _ (List.getElem_mem h) j
  ·rw [List.getD_eq_getElem?_getD,List.getElem?_eq_none h];unfold at_;simp
end
end Go.Proofs
namespace Go.Grp
end Go.Grp
namespace Go.Proofs
open Go.Ab Go.Lie Go.Grp
variable {σ:PHeap} {K:PV→PHeap→Prop} {k:Int} {G:List Pre} {L:List (List Int)} {vG vL:PV}
theorem zAA (hG:FG vG G) (szG:SzG G) (hL:FII vL L) (szL:SzL L)
  (hk0:¬zx k G L→K (.tup [.str [],.int .i64 1]) σ) (hk1:zx k G L→K (.tup [.str (certT k G L),.int .i64 0]) σ):zA Tryd.prog 7 [.agg [.int .i64 k,vG,vL]] σ K:=by
 have h1:=hG.one;have h2:=hL.one;refine zA.gh ?_;have kH:=zF σ [.int .i64 k,vG,vL];refine zD mix Tryd.func7 ?_;simp only [pwA,seval,-iQ0,h1,h2];refine zAn (k:=k) (by simp only [pwA,seval,-iQ0]) hG szG hL szL fun t ht=>?_
 cases t with
 | false=>
  simp only [pwA,seval,-iQ0,h1,h2];exact Gh.fin0 kH ⟨trivial,trivial,trivial⟩ (hk0 fun h=>by cases ht.2 h)
 | true=>
  have hc:=ht.1 rfl;simp only [pwA,seval,-iQ0,h1,h2];refine Q3 (k:=k) (by simp only [pwA,seval,-iQ0]) hG hL hc ?_
  simp only [pwA,seval,-iQ0];exact Gh.fin0 kH ⟨trivial,trivial,trivial⟩ (hk1 hc)
end Go.Proofs
