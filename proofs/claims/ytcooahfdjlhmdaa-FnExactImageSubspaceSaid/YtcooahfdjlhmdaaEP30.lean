/- What a law is handed, laid as frozen values: modules and matrices. -/
import Derived.Test.YtcooahfdjlhmdaaEP28
import Derived.Test.YtcooahfdjlhmdaaEP26
import Derived.Test.YtcooahfdjlhmdaaEAbPz
import Derived.Test.YtcooahfdjlhmdaaEAbPt
import Derived.Test.YtcooahfdjlhmdaaChecked
import Derived.Test.YtcooahfdjlhmdaaRows
import Derived.Lib.SmallJoins
import Derived.WalkKit
import Derived.ProofKit
open Int renaming reduceNatCast'→iQ0
set_option maxRecDepth 100000
set_option linter.unusedVariables false
set_option linter.unusedSimpArgs false
namespace Go.Lie
open Go.Ab Go.Mx
variable {p:Int} {n m:Nat} {L M A u w:List (List Int)} {x y v:List Int}
abbrev pr7 (p:Int):Prop:=p=2∨p=3∨p=5∨p=7
theorem pr7.ok (h:pr7 p):okp p:=by unfold okp;omega
theorem zEw (hq:pr7 p) (hL:∀v∈L,El p n v):∀k,k≤L.length→∃u,Canon p n (W0 n) (L.take k) u∧u.length≤k
 | 0,_=>⟨[],by rw [List.take_zero];exact zAL,Nat.le_refl _⟩
 | k+1,hk=>by
  obtain⟨u,c,hu⟩:=zEw hq hL k (by omega)
  have hx:=hL _ (List.getElem_mem (show k<L.length by omega))
  rw [List.take_succ_eq_append_getElem (by omega)]
  have hr:=zAA (W0_ok hq.ok n) c.base.els hx
  by_cases h:dep (redL p (W0 n) u L[k])=n
  ·exact⟨u,c.skip0 hq.ok hx h,by omega⟩
  ·have hd:dep (redL p (W0 n) u L[k])<n:=by have:=zCf (redL p (W0 n) u L[k]);rw [hr.1]at this;omega
   have h0:=hr.at0 (W0_ok hq.ok n) (dep (redL p (W0 n) u L[k]));have h1:at_ (redL p (W0 n) u L[k]) (dep (redL p (W0 n) u L[k]))≠0:=QC (by rw [hr.1];exact hd)
   obtain⟨q,_,_,hq'⟩:=zIh hq (a:=at_ (redL p (W0 n) u L[k]) (dep (redL p (W0 n) u L[k]))) (by omega) (by omega)
   refine⟨_,(c.put hq.ok hx hd hq').1,?_⟩;rw [Q3,List.length_map];omega
theorem zIw (hq:pr7 p) (hL:∀v∈L,El p n v):∃u,Canon p n (W0 n) L u∧u.length≤L.length:=by
 have:=zEw hq hL L.length (Nat.le_refl _)
 rwa [List.take_length]at this
theorem zCz (hq:pr7 p) (hL:∀v∈L,El p n v) (c:Canon p n (W0 n) L u):u.length≤L.length:=by
 obtain⟨u',c',h⟩:=zIw hq hL;rw [c.unique (W0_ok hq.ok n) c'];exact h
theorem ma_el (hA:Ma p n A):∀v∈A,El p n v:=fun v hv=>ve_el (hA v hv)
end Go.Lie
namespace Go.Lie
open Go.Ab Go.Mx
variable {p:Int} {n:Nat} {A B C E F L:List (List Int)} {x:List Int} {φ:List (List Int)→Int}
theorem zBN {i:Nat} (hi:i<A.length) (j:Nat):row (A.set i x) j=if j=i then x else row A j:=by
 unfold row;rw [List.getD_eq_getElem?_getD,List.getElem?_set,List.getD_eq_getElem?_getD]
 by_cases h:i=j
 ·rw [if_pos h,if_pos hi,if_pos h.symm];rfl
 ·rw [if_neg h,if_neg (Ne.symm h)]
def clrM (p:Int) (c d:Nat) (R:List (List Int)):Nat→List (List Int)
 | 0=>R
 | m+1=>if m=d then clrM p c d R m else(clrM p c d R m).set m (vstep p (-(at_ (row R m) c)) (row R d) (row R m))
theorem QM {c d:Nat} {R:List (List Int)}:∀m,(clrM p c d R m).length=R.length
 | 0=>rfl
 | m+1=>by
  unfold clrM
  split
  ·exact QM m
  ·rw [List.length_set];exact QM m
theorem zEu {c d:Nat} {R:List (List Int)}:∀m,m≤R.length→∀i,row (clrM p c d R m) i=if i<m∧i≠d then vstep p (-(at_ (row R i) c)) (row R d) (row R i)else row R i
 | 0,_,i=>by rw [if_neg (by omega)];rfl
 | m+1,hm,i=>by
  unfold clrM;have ih:=zEu (c:=c) (d:=d) (R:=R) m (by omega) i
  split
  ·rename_i h
   rw [ih]
   by_cases h1:i<m∧i≠d
   ·rw [if_pos h1,if_pos (by omega)]
   ·rw [if_neg h1,if_neg (by omega)]
  ·rename_i h
   rw [zBN (by rw [QM];omega),ih]
   by_cases h1:i=m
   ·rw [if_pos h1,if_pos (by omega),h1]
   ·rw [if_neg h1]
    by_cases h2:i<m∧i≠d
    ·rw [if_pos h2,if_pos (by omega)]
    ·rw [if_neg h2,if_neg (by omega)]
end Go.Lie
namespace Go.Proofs
open Go.Ab Go.Lie
variable {σ σ0 σ1:PHeap} {K:PV→PHeap→Prop} {vC:PV} {bs:List Int} {s:Nat} {a sd:Int}
def FB (v:PV) (bs:List Int):Prop:=∃w a,v=.fz w a bs.length (bs.map (.int .u8))
theorem FB.one {v:PV} (h:FB v bs):v.one=true:=by obtain⟨w,a,rfl⟩:=h;rfl
theorem zHc (σ:PHeap) (s:Nat) (x y:List PV):(σ.set s x).set s y=σ.set s y:=by
 simp only [PHeap.set]
 congr 1
 funext t
 split<;>rfl
end Go.Proofs
namespace Go.Lie
open Go.Ab Go.Mx
variable {p:Int} {n c t:Nat} {A M R R' u w:List (List Int)} {x:List Int}
theorem zLk (ha:Asc u) {i:Nat} (hi:i<u.length):i≤dep (row u i):=by
 induction i with
 | zero=>omega
 | succ i ih=>
  have h1:=ih (by omega)
  have h2:=(List.pairwise_iff_getElem.1 ha) i (i+1) (by omega) hi (by omega)
  rw [qC (by omega)]at h1
  rw [qC hi];omega
end Go.Lie
namespace Go.Grp
end Go.Grp
namespace Go.Proofs
open Go.Ab Go.Lie Go.Grp Go.Mx
variable {σ:PHeap} {K:PV→PHeap→Prop} {p d p' d' c:Int} {n n':Nat} {As Bs:List (List (List Int))} {F F':List (List Int)} {vA vB vF vF':PV} {O:List Int} {P:List (List Int)} {C:List (List (List Int))} {vO vP vC:PV} {s s':Nat}
def isMx (p c:Int) (F:List (List Int)):Prop:=isP p∧(0≤c∧c≤8)∧F.length≤8∧Ma p c.toNat F
theorem zBL (sz:SzL F) (hF:FII vF F) (hk:∀t:Bool,(t=true↔isMx p c F)→K (.bool t) σ):zA Try.prog 37 [.agg [.int .i64 p,.int .i64 c,vF]] σ K:=by
 have fl:∀{A:Prop},¬A→((false=true)↔A):=fun h=>⟨fun x=>(by cases x),fun x=>absurd x h⟩
 have h1:=hF.one;have szl:=sz.l
 by_cases hm:isP p∧(0≤c∧c≤8)∧F.length≤8
 ·obtain⟨hp,hc,hl⟩:=hm
  obtain⟨n,rfl⟩:∃n:Nat,c=(n:Int):=⟨c.toNat,by omega⟩
  exact zF8 hp (by omega) hl (fun r hr=>sz.r r hr) hF fun t ht=>hk t ⟨fun h=>⟨hp,hc,hl,ht.1 h⟩,fun h=>ht.2 h.2.2.2⟩
 obtain⟨wA,aA,rA,rfl,hrA⟩:=hF;have no:¬isMx p c F:=fun h=>hm ⟨h.1,h.2.1,h.2.2.1⟩
 refine zA.gh ?_;refine zB mix Try.func37 ?_
 conv=>arg 2;cbv
 refine zC rfl ?_;simp only [pwA,seval,-iQ0,h1];refine Qy ?_
 by_cases hp:isP p
 rotate_left
 ·simp only [pwA,seval,-iQ0,hp]
  exact Gh.fin0 (zG σ _) trivial (hk _ (fl no))
 simp only [pwA,seval,-iQ0,hp];refine zA6 ?_
 by_cases hc:0≤c∧c≤8
 rotate_left
 ·simp only [pwA,seval,-iQ0,hc]
  exact Gh.fin0 (zG σ _) trivial (hk _ (fl no))
 have hl:(8:Int)<(F.length:Int):=by
  have:¬F.length≤8:=fun h=>hm ⟨hp,hc,h⟩
  omega
 simp only [pwA,seval,-iQ0,hc,hl];exact Gh.fin0 (zG σ _) trivial (hk _ (fl no))
theorem zA4 (sz:SzL F) (hF:FII vF F) (hk:∀t:Bool,(t=true↔isMx p c F)→K (.bool t) σ):zA Try.prog 36 [.agg [.int .i64 p,.int .i64 c,vF]] σ K:=by
 have fl:∀{A:Prop},¬A→((false=true)↔A):=fun h=>⟨fun x=>(by cases x),fun x=>absurd x h⟩
 have h1:=hF.one;have szl:=sz.l;obtain⟨wA,aA,rA,rfl,hrA⟩:=hF;refine zA.gh ?_;have hkp:=zG σ [.int .i64 p,.int .i64 c,.fz wA aA F.length rA];have no:¬isMx p c F→Gh σ K (.bool false) (σ.new [.int .i64 p,.int .i64 c,.fz wA aA F.length rA]):=fun h=>Gh.fin0 hkp trivial (hk _ (fl h))
 refine zB mix Try.func36 ?_
 conv=>arg 2;cbv
 refine zC rfl ?_;simp only [pwA,seval,-iQ0,h1];refine zFo ?_
 by_cases hp:isP p
 rotate_left
 ·simp only [pwA,seval,-iQ0,hp]
  exact no fun h=>hp h.1
 have hpb:=hp.bd;simp only [pwA,seval,-iQ0,hp];refine zEZ ?_
 by_cases hc:0≤c∧c≤8
 rotate_left
 ·simp only [pwA,seval,-iQ0,hc]
  exact no fun h=>hc h.2.1
 by_cases hl:F.length≤8
 rotate_left
 ·have hl':(8:Int)<(F.length:Int):=by omega
  simp only [pwA,seval,-iQ0,hc,hl'];exact no fun h=>hl h.2.2.1
 have hl':¬(8:Int)<(F.length:Int):=by omega
 obtain⟨n,hn⟩:∃n:Nat,c=(n:Int):=⟨c.toNat,by omega⟩
 subst hn;have hcn:((n:Int)).toNat=n:=rfl;simp only [pwA,seval,-iQ0,hc,hl'];refine zM (fun m vs h'=>∃i:Nat,i≤F.length∧m=F.length-i∧vs=[.ptr σ.next 0,.int .i64 i]∧σ.new [.int .i64 p,.int .i64 n,.fz wA aA F.length rA]=h'∧∀r∈F.take i,Ve p n r) F.length ?_ ?_
 ·exact⟨0,by omega,by omega,rfl,rfl,by simp⟩
 rintro m vs h' ⟨i,hi,rfl,rfl,rfl,hall⟩
 simp only [pwA,seval,-iQ0];refine iteI (fun hlt=>?_) fun hge=>?_
 rotate_left
 ·exact Gh.fin0 hkp trivial (hk _ ⟨fun _=>⟨hp,hc,hl,fun r hr=>hall r (by rwa [List.take_of_length_le (by omega)])⟩,fun _=>rfl⟩)
 obtain⟨w4,a4,hr⟩:=hrA.rowI hlt;have hb:=sz.r _ (List.getElem_mem hlt);simp only [pwA,seval,-iQ0,hlt,hr];refine zEY rfl (by omega) (by omega) (by omega) ?_
 by_cases hv:isVec F[i] p (n:Int)
 ·simp only [pwA,seval,-iQ0,hv,wrapS hlt (by omega:F.length≤4611686018427387904)]
  refine⟨_,by omega,i+1,by omega,rfl,rfl,fun r hr=>?_⟩
  rw [List.take_succ_eq_append_getElem hlt,List.mem_append,List.mem_singleton]at hr
  rcases hr with hr|rfl
  ·exact hall r hr
  ·exact(zCF (by omega)).1 hv
 ·simp only [pwA,seval,-iQ0,hv]
  exact no fun h=>hv ((zCF (by omega)).2 (h.2.2.2 _ (List.getElem_mem hlt)))
theorem zBe {l:Int} (hF:FII vF F) (mx:F.length≤9223372036854775807) (my:∀x∈F,x.length≤9223372036854775807) (hl:left_ l) (hk:∀r:Int,(r=-1∨(left_ r∧SzL F))→K (.int .i64 r) σ):zA Try.prog 15 [.agg [.int .i64 p,.int .i64 c,vF],.int .i64 l] σ K:=by
 have h1:=hF.one;refine zA.gh ?_;have hkp:=zG σ [.int .i64 p,.int .i64 c,vF];refine zB mix Try.func15 ?_
 conv=>arg 2;cbv
 refine zC rfl ?_;simp only [pwA,seval,-iQ0,h1];refine zDp hF mx my hl fun r h=>?_
 rcases h with rfl|⟨g1,g2⟩
 ·simp only [pwA,seval,-iQ0]
  exact Gh.fin0 hkp trivial (hk _ (.inl rfl))
 have:¬r<0:=by unfold left_ at g1;omega
 simp only [pwA,seval,-iQ0,this];exact Gh.fin0 hkp trivial (hk _ (.inr ⟨g1,g2⟩))
theorem Zc (hF:FII vF F) (sz:SzL F) (hk:∀v,FII v F→K (.agg [.int .i64 p,.int .i64 c,v]) σ):zA Try.prog 17 [.agg [.int .i64 p,.int .i64 c,vF]] σ K:=by
 have h1:=hF.one;refine zA.gh ?_;refine zB mix Try.func17 ?_
 conv=>arg 2;cbv
 refine zC rfl ?_;simp only [pwA,seval,-iQ0,h1];refine zDn hF sz fun v1 hv1=>?_
 simp only [pwA,seval,-iQ0,hv1.cells,hv1.one];exact Gh.fin0 (v:=.agg [.int .i64 p,.int .i64 c,v1]) (((zG σ _).new _).new _) ⟨trivial,trivial,hv1.bel _,trivial⟩ (hk v1 hv1)
theorem Zt {c':Int} (hF:FII vF F) (hF':FII vF' F') (sz:SzL F) (hk:∀t:Bool,(t=true↔p=p'∧c=c'∧F=F')→K (.bool t) σ):zA Try.prog 19 [.agg [.int .i64 p,.int .i64 c,vF],.agg [.int .i64 p',.int .i64 c',vF']] σ K:=by
 have h1:=hF.one;have h2:=hF'.one;refine zA.gh ?_;have hkp:Keep σ ((σ.new [.int .i64 p,.int .i64 c,vF]).new [.int .i64 p',.int .i64 c',vF']):=(zG σ _).new _;have fin:∀{t:Bool},(t=true↔p=p'∧c=c'∧F=F')→Gh σ K (.bool t) ((σ.new [.int .i64 p,.int .i64 c,vF]).new [.int .i64 p',.int .i64 c',vF']):=fun h=>Gh.fin0 hkp trivial (hk _ h)
 have fl:∀{A:Prop},¬A→((false=true)↔A):=fun h=>⟨fun x=>(by cases x),fun x=>absurd x h⟩
 refine zB mix Try.func19 ?_
 conv=>arg 2;cbv
 refine zC rfl ?_
 by_cases e1:p=p'
 rotate_left
 ·simp only [pwA,seval,-iQ0,h1,h2,e1]
  exact fin (fl fun h=>e1 h.1)
 by_cases e2:c=c'
 rotate_left
 ·simp only [pwA,seval,-iQ0,h1,h2,eq_true e1,e2]
  exact fin (fl fun h=>e2 h.2.1)
 simp only [pwA,seval,-iQ0,h1,h2,eq_true e1,eq_true e2];refine zEp hF hF' sz fun t ht'=>?_
 have:=fin (t:=t) ⟨fun h=>⟨e1,e2,ht'.1 h⟩,fun h=>ht'.2 h.2.2⟩
 cases t with
 | false=>
  simp only [pwA,seval,-iQ0];exact this
 | true=>
  simp only [pwA,seval,-iQ0];exact this
end Go.Proofs
namespace Go.Proofs
open Go.Ab
def if4:IFn:=⟨[0,1],[(.tmp 4)],(S0 (R0 [2,3] [eI 2 (.box (.t 0)),eI 3 (.box (.t 1)),tI0 4 false])
 (S0 (R0 [2,3,5] [kI0 5 1048576])
 (S0 (R0 [2,3,5] [LI0 17 2,mI0 18 5,C2 19 15 17 18,mI0 5 19])
 (S0 (.seq (R0 [2,3,5,21] [mI0 20 5,cI0 21 .lss 20 0])
 (.cond (.t 21) (S0 (R0 [4] [tI0 4 true])
 .ret) .skip))
 (S0 (R0 [2,3,5] [LI0 22 3,mI0 23 5,C2 24 15 22 23,mI0 5 24])
 (S0 (.seq (R0 [2,3,26] [mI0 25 5,cI0 26 .lss 25 0])
 (.cond (.t 26) (S0 (R0 [4] [tI0 4 true])
 .ret) .skip))
 (S0 (.draw [2,3,6,7] [[(.int .i64 0),(.int .i64 0),.nils]] [qD 28 (.load true 3 (.t 2)) 0,qD 30 (.load true 3 (.t 3)) 2,qD 6 (.rev 0) 8,eD 29 (.call 17 [(.t 28)]) 1 [2],eD 31 (.call 17 [(.t 30)]) 3 [],eD 32 (.call 16 [(.t 29),(.t 31)]) 4 [],mD0 27 32 5,qD 33 (.extract (.t 27) 0) 6,qD 34 (.extract (.t 27) 1) 7,wD0 3 6 33 9,mD0 7 34 10])
 (S0 (R0 [2,3,6,7,8] [LI0 35 2,C1 36 17 35,eI 8 (.alloc [(.int .i64 0),(.int .i64 0),.nils]),vI0 3 8 36])
 (S0 (R0 [2,3,6,7,8,9] [LI0 37 3,C1 38 17 37,eI 9 (.alloc [(.int .i64 0),(.int .i64 0),.nils]),vI0 3 9 38])
 (S0 (R0 [2,3,6,7,8,9,10,11] [LI0 40 8,LI0 41 9,C2 42 18 40 41,mI0 39 42,eI0 43 39 0,eI0 44 39 1,eI 10 (.alloc [(.int .i64 0),(.int .i64 0),.nils]),vI0 3 10 43,mI0 11 44])
 (S0 (.seq (R0 [2,3,6,7,8,9,10,11,53] [LI0 45 10,LI0 46 6,C2 47 19 45 46,nI0 48 47,mI0 49 48,gm0 50 11 49 false,gm0 51 7 49 false,G0 52 (.bin .neq .other (.t 50) (.t 51)) true 49 false,oI0 53 49 52])
 (.cond (.t 53) (S0 (R0 [4] [tI0 4 false])
 .ret) .skip))
 (S0 (.seq (.draw [2,3,6,7,8,9,10,11,58] [] [qD 54 (.load true 3 (.t 8)) 0,qD 55 (.load true 3 (.t 2)) 1,eD 56 (.call 17 [(.t 55)]) 2 [0],eD 57 (.call 19 [(.t 54),(.t 56)]) 3 [],qD 58 (.un .not (.t 57)) 4])
 (.cond (.t 58) (S0 (R0 [4] [tI0 4 false])
 .ret) .skip))
 (S0 (.seq (.draw [2,3,6,7,8,9,10,11,63] [] [qD 59 (.load true 3 (.t 9)) 0,qD 60 (.load true 3 (.t 3)) 1,eD 61 (.call 17 [(.t 60)]) 2 [0],eD 62 (.call 19 [(.t 59),(.t 61)]) 3 [],qD 63 (.un .not (.t 62)) 4])
 (.cond (.t 63) (S0 (R0 [4] [tI0 4 false])
 .ret) .skip))
 (S0 (R0 [2,3,6,7,8,9,10,11,12] [kI0 12 1])
 (S0 (R0 [2,3,6,7,9,10,11,12] [LI0 64 8,mI0 65 12,C2 66 20 64 65,mI0 12 66])
 (S0 (R0 [2,3,6,7,10,11,12] [LI0 67 9,mI0 68 12,C2 69 20 67 68,mI0 12 69])
 (S0 (.seq (R0 [2,3,6,7,10,82] [mI0 70 12,cI0 71 .lss 70 0,mI0 72 71,G0 73 (.load true 3 (.t 10)) true 72 false,G0 74 (.load true 3 (.t 6)) true 72 false,G0 75 (.call 19 [(.t 73),(.t 74)]) false 72 false,G0 76 (.un .not (.t 75)) true 72 false,oI0 77 72 76,mI0 78 77,gm0 79 11 78 false,gm0 80 7 78 false,G0 81 (.bin .neq .other (.t 79) (.t 80)) true 78 false,oI0 82 78 81])
 (.cond (.t 82) (S0 (R0 [4] [tI0 4 false])
 .ret) .skip))
 (S0 (R0 [2,3,6,7,10,13] [kI0 13 1])
 (S0 (R0 [2,3,6,7,10,13] [LI0 83 10,mI0 84 13,C2 85 20 83 84,mI0 13 85])
 (S0 (R0 [2,3,6,7,10,13,14] [kI0 14 1])
 (S0 (R0 [2,3,6,7,10,13,14] [LI0 86 10,mI0 87 14,C2 88 21 86 87,mI0 14 88])
 (S0 (.seq (R0 [2,3,6,7,10,13,14,90] [mI0 89 14,cI0 90 .lss 89 0])
 (.cond (.t 90) (S0 (R0 [4] [tI0 4 false])
 .ret) .skip))
 (S0 (.seq (R0 [2,3,6,7,10,13,93] [mI0 91 14,mI0 92 13,bI0 93 .neq 91 92])
 (.cond (.t 93) (S0 (R0 [4] [tI0 4 false])
 .ret) .skip))
 (S0 (.draw [6,7,10,13,15,16] [[(.int .i64 0),(.int .i64 0),.nils]] [qD 95 (.load true 3 (.t 2)) 0,qD 97 (.load true 3 (.t 3)) 2,qD 15 (.rev 0) 8,eD 96 (.call 17 [(.t 95)]) 1 [2],eD 98 (.call 17 [(.t 97)]) 3 [],eD 99 (.call 18 [(.t 96),(.t 98)]) 4 [],mD0 94 99 5,qD 100 (.extract (.t 94) 0) 6,qD 101 (.extract (.t 94) 1) 7,wD0 3 15 100 9,mD0 16 101 10])
 (S0 (.seq (R0 [10,13,110] [LI0 102 15,LI0 103 6,C2 104 19 102 103,nI0 105 104,mI0 106 105,gm0 107 16 106 false,gm0 108 7 106 false,G0 109 (.bin .neq .other (.t 107) (.t 108)) true 106 false,oI0 110 106 109])
 (.cond (.t 110) (S0 (R0 [4] [tI0 4 false])
 .ret) .skip))
 (S0 (R0 [10,13,14] [kI0 14 1])
 (S0 (R0 [13,14] [LI0 111 10,mI0 112 14,C2 113 21 111 112,mI0 14 113])
 (S0 (.seq (R0 [13,14,115] [mI0 114 14,cI0 115 .lss 114 0])
 (.cond (.t 115) (S0 (R0 [4] [tI0 4 false])
 .ret) .skip))
 (S0 (.seq (R0 [118] [mI0 116 14,mI0 117 13,bI0 118 .neq 116 117])
 (.cond (.t 118) (S0 (R0 [4] [tI0 4 false])
 .ret) .skip))
 (S0 (R0 [4] [tI0 4 true])
 .ret))))))))))))))))))))))))))))))⟩
theorem cf4:cF Try.prog Try.f4=some if4:=by kernel_rfl
end Go.Proofs
namespace Go.Proofs.Ytcooahfdjlhmdaa
open Go.ChangeShapes Go.WideShapes Go.ChangeAt Go.RowKit Go.Ab Go.Joins Go.Lie Go.Proofs
theorem own:ownKnob Try.prog.godebug=none:=by kernel_rfl
theorem laidOut:laidOutB Try.prog=true:=by kernel_rfl
theorem cell2:Try.prog.cellsOf 2=1:=by kernel_rfl
theorem zMU:Try.prog.cellsOf 42=1:=by kernel_rfl
variable {H:Type} {enc:TypeId×Value→H} {W w0:World} {j:Inj} {h:AHeap}
def LII (v:PV) (xs:List (List Int)):Prop:=FII v xs∧xs.length≤9223372036854775807∧∀x∈xs,x.length≤9223372036854775807
theorem layI:Lay1 enc Try.prog W 42 (fun v (xs:List Int)=>FI v xs∧xs.length≤9223372036854775807):=zJ1 (e:=2) Try.underlying42 cell2 Try.underlying2
theorem layII:Lay1 enc Try.prog W 24 LII:=by
 intro w0 j h held fuel v x m hx;obtain⟨j',h',pv,a,g1,g2,g3,g4,g5,g6,g7,g8⟩:=zDI Try.underlying24 zMU layI w0 j h held fuel v x m hx;exact⟨j',h',pv,a,g1,g2,g3,g4,g5,g6,g7.imp fun _ _ k=>k.1,g8,g7.all fun _ _ k=>k.2⟩
end Go.Proofs.Ytcooahfdjlhmdaa
namespace Go.Proofs.Ytcooahfdjlhmdaa
open Go.ChangeShapes Go.WideShapes Go.ChangeAt Go.RowKit Go.Ab Go.Joins Go.Lie Go.Proofs
theorem zMV:Try.prog.cellsOf 33=3:=by kernel_rfl
variable {H:Type} {enc:TypeId×Value→H} {W w0:World} {j:Inj} {h:AHeap}
set_option maxRecDepth 100000 in
theorem layMx {b0:Nat} {v:Value} {d:DataW H} {q:List MemPlace} (m:MR W.heap.size w0 j h W) (hv:Value.okWide Try.prog W .any b0 33 v) (ht:DataW.Trod enc Try.prog W 0 (fun _=>true) true 33 v d q):
  ∃(j':Inj) (h':AHeap) (p dd:Int) (vA:PV) (As:List (List Int)),MR W.heap.size w0 j' h' W∧j.le j'∧Ext h h'∧VI j' (er idz (.agg [.int .i64 p,.int .i64 dd,vA])) v∧VOK (zlt h') h' 0 (.agg [.int .i64 p,.int .i64 dd,vA])∧FII vA As∧As.length≤9223372036854775807∧∀x∈As,x.length≤9223372036854775807:=by
 obtain⟨v0,v1,v2,y0,y1,y2,n,rfl,rfl,rfl,t0,t1,t2⟩:=open_agg3 Try.underlying33 (by kernel_rfl) zMV hv ht
 obtain⟨a,ha,_,_⟩:=DataW.trod_int Try.underlying2 t0;simp only [List.cons.injEq,and_true]at ha
 subst ha;obtain⟨b,hb,_,_⟩:=DataW.trod_int Try.underlying2 t1;simp only [List.cons.injEq,and_true]at hb
 subst hb;obtain⟨j2,h2,vB,Bs,m2,l2,e2,i2,o2,_,q1,q2,q3⟩:=layII w0 j h true n v2 _ m t2;exact⟨j2,h2,a,b,vB,Bs,m2,l2,e2,⟨_,⟨_,_,rfl,rfl,_,_,rfl,rfl,_,_,rfl,i2,rfl⟩,rfl⟩,⟨trivial,trivial,o2,trivial⟩,q1,q2,q3⟩
end Go.Proofs.Ytcooahfdjlhmdaa
