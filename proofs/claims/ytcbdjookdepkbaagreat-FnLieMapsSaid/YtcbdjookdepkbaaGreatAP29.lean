/- What a law does with its arguments: sizes, copies, comparisons. -/
import Derived.Test.YtcbdjookdepkbaaGreatAAbPy
import Derived.Test.YtcbdjookdepkbaaGreatChecked
open Int renaming reduceNatCast'→iQ0
set_option maxRecDepth 100000
namespace Go.Proofs
open Go.Ab
def mI0 (d s:Nat):II:=⟨some d,.mv (.t s),true,none⟩
def kI0 (d:Nat) (k:Int):II:=⟨some d,.mv (.c (.int .i64 k)),true,none⟩
def tI0 (d:Nat) (k:Bool):II:=⟨some d,.mv (.c (.bool k)),true,none⟩
def lI0 (d s:Nat):II:=⟨some d,.load false 1 (.t s),true,none⟩
def LI0 (d s:Nat):II:=⟨some d,.load true 3 (.t s),true,none⟩
def fI0 (d o s:Nat):II:=⟨some d,.fieldAddr o (.t s),true,none⟩
def xI0 (d a i:Nat):II:=⟨some d,.indexAddr 1 (.t a) (.t i),true,none⟩
def bI0 (d:Nat) (o:BinOp) (a b:Nat):II:=⟨some d,.bin o .other (.t a) (.t b),true,none⟩
def cI0 (d:Nat) (o:BinOp) (a:Nat) (k:Int):II:=⟨some d,.bin o .other (.t a) (.c (.int .i64 k)),true,none⟩
def nI0 (d s:Nat):II:=⟨some d,.un .not (.t s),true,none⟩
def sI0 (d s:Nat):II:=⟨some d,.len (.t s),true,none⟩
def pI0 (d s:Nat):II:=⟨some d,.nilCheck (.t s),true,none⟩
def eI0 (d s i:Nat):II:=⟨some d,.extract (.t s) i,true,none⟩
def C0 (d f:Nat):II:=⟨some d,.call f [],false,none⟩
def C1 (d f a:Nat):II:=⟨some d,.call f [.t a],false,none⟩
def C2 (d f a b:Nat):II:=⟨some d,.call f [.t a,.t b],false,none⟩
def C3 (d f a b c:Nat):II:=⟨some d,.call f [.t a,.t b,.t c],false,none⟩
def mD0 (d s n:Nat):DI:=⟨⟨some d,.mv (.t s),true,none⟩,n,[]⟩
def lD0 (d s n:Nat):DI:=⟨⟨some d,.load false 1 (.t s),true,none⟩,n,[]⟩
def fD0 (d o s n:Nat):DI:=⟨⟨some d,.fieldAddr o (.t s),true,none⟩,n,[]⟩
def xD0 (d a i n:Nat):DI:=⟨⟨some d,.indexAddr 1 (.t a) (.t i),true,none⟩,n,[]⟩
def pD0 (d s n:Nat):DI:=⟨⟨some d,.nilCheck (.t s),true,none⟩,n,[]⟩
def I0 (k:Int):IX:=.c (.int .i64 k)
def G0 (d:Nat) (o:IOp) (q:Bool) (t:Nat) (b:Bool):II:=⟨some d,o,q,some (t,b)⟩
def gm0 (d s t:Nat) (b:Bool):II:=⟨some d,.mv (.t s),true,some (t,b)⟩
def oI0 (d a b:Nat):II:=⟨some d,.pick (.t a) (.c (.bool true)) (.t b),true,none⟩
def aI0 (d a b:Nat):II:=⟨some d,.pick (.t a) (.t b) (.c (.bool false)),true,none⟩
def zI0 (d:Nat):II:=⟨some d,.mv (.c .nils),true,none⟩
def yI0 (d a:Nat) (k:Int):II:=⟨some d,.indexAddr 1 (.t a) (.c (.int .i64 k)),true,none⟩
def vI0 (n a b:Nat):II:=⟨none,.store n (.t a) (.t b),false,none⟩
def wD0 (n a b i:Nat):DI:=⟨⟨none,.store n (.t a) (.t b),false,none⟩,i,[]⟩
def R0 (l:List Nat) (i:List II):IC:=.region l i
def S0 (a b:IC):IC:=.seq a b
open Tryz
theorem mix:Tryz.prog.follows .mixedOrders=true:=by kernel_rfl
def if17:IFn:=⟨[0],[(.cell 2 true 3),(.cell 3 true 3),(.tmp 4)],(S0 (R0 [0,2,3] [eI 2 (.alloc [(.int .i64 0),.nils,.nils]),eI 3 (.alloc [(.int .i64 0),.nils,.nils]),zI0 4])
 (S0 (R0 [2,3,5] [mI0 13 0,C1 14 34 13,mI0 5 14])
 (S0 (R0 [2,3,5,6] [mI0 15 5,eI 16 (.call 35 [(.t 15),(I0 128)]),eI 6 (.alloc [(.int .i64 0),.nils,.nils]),vI0 3 6 16])
 (S0 (R0 [2,3,5,6,7] [LI0 17 6,eI 7 (.alloc [(.int .i64 0),.nils,.nils]),vI0 3 7 17])
 (S0 (.seq (R0 [2,3,5,6,7,20] [mI0 18 5,eI 19 (.call 36 [(.t 18),(I0 3)]),cI0 20 .eql 19 0])
 (.cond (.t 20) (R0 [2,3,5,6,7] [mI0 21 5,eI 22 (.call 35 [(.t 21),(I0 128)]),vI0 3 7 22]) .skip))
 (S0 (R0 [2,3,5,6,7,8] [eI 23 (.buildSl 1 0 [.nils] []),mI0 8 23])
 (S0 (.seq (R0 [2,3,5,6,7,8,37] [LI0 24 7,C1 25 20 24,nI0 26 25,mI0 27 26,G0 28 (.load true 3 (.t 6)) true 27 false,G0 29 (.call 20 [(.t 28)]) false 27 false,G0 30 (.un .not (.t 29)) true 27 false,oI0 31 27 30,mI0 32 31,G0 33 (.fieldAddr 1 (.t 7)) true 32 false,G0 34 (.load false 1 (.t 33)) true 32 false,G0 35 (.len (.t 34)) true 32 false,G0 36 (.bin .eql .other (.t 35) (I0 0)) true 32 false,oI0 37 32 36])
 (.cond (.t 37) (S0 (.draw [2,3,4] [] [qD 38 (.load true 3 (.t 6)) 0,qD 39 (.load true 3 (.t 7)) 1,mD0 40 8 2,⟨vI0 3 2 38,3,[1]⟩,wD0 3 3 39 4,mD0 4 40 5])
 .ret) .skip))
 (S0 (.draw [2,3,5,6,7,8,9] [[]] [qD 41 (.load true 3 (.t 7)) 0,qD 42 (.load true 3 (.t 7)) 1,qD 44 (.revS 0 0) 3,eD 43 (.call 38 [(.t 42)]) 2 [0],eD 45 (.call 37 [(.t 41),(.t 43),(.t 44)]) 4 [],mD0 9 45 5])
 (S0 (.seq (R0 [2,3,5,6,7,8,9,10] [kI0 10 0])
 (.block 0 (.loop [2,3,5,6,7,8,9,10] (S0 (.seq (R0 [2,3,5,6,7,8,9,10,50] [mI0 46 10,fI0 47 1 6,lI0 48 47,sI0 49 48,bI0 50 .lss 46 49])
 (.cond (.t 50) .skip (.exit 0)))
 (S0 (.block 1 (S0 (R0 [2,3,5,6,7,8,9,10,11] [LI0 53 7,C1 54 39 53,mI0 11 54])
 (S0 (.seq (R0 [2,3,5,6,7,8,9,10,11,59] [mI0 55 10,fI0 56 1 7,lI0 57 56,sI0 58 57,bI0 59 .lss 55 58])
 (.cond (.t 59) (R0 [2,3,5,6,7,8,9,10,11] [LI0 60 7,mI0 61 10,C2 62 40 60 61,mI0 11 62]) .skip))
 (S0 (.seq (R0 [2,3,5,6,7,8,9,10,11,70] [mI0 63 5,eI 64 (.call 36 [(.t 63),(I0 2)]),cI0 65 .eql 64 0,mI0 66 65,gm0 67 9 66 true,G0 68 (.len (.t 67)) true 66 true,G0 69 (.bin .gtr .other (.t 68) (I0 0)) true 66 true,aI0 70 66 69])
 (.cond (.t 70) (.draw [2,3,5,6,7,8,9,10,11] [] [qD 71 (.load true 3 (.t 7)) 0,mD0 72 11 1,mD0 73 5 2,fD0 74 0 7 3,lD0 75 74 4,mD0 77 9 6,mD0 78 9 7,qD 79 (.len (.t 78)) 8,qD 80 (.bin .sub .other (.t 79) (I0 1)) 9,xD0 81 77 80 10,lD0 82 81 11,eD 76 (.call 36 [(.t 73),(.t 75)]) 5 [0,11],eD 83 (.call 41 [(.t 71),(I0 1),(.t 72),(.t 76),(.t 82)]) 12 [],mD0 11 83 13]) .skip))
 (S0 (.seq (R0 [2,3,5,6,7,8,9,10,11,86] [mI0 84 5,eI 85 (.call 36 [(.t 84),(I0 8)]),cI0 86 .eql 85 0])
 (.cond (.t 86) (R0 [2,3,5,6,7,8,9,10,11] [mI0 87 5,LI0 88 7,C2 89 42 87 88,mI0 11 89]) .skip))
 (R0 [2,3,5,6,7,8,9,10] [mI0 90 8,mI0 91 11,eI 92 (.buildSl 1 1 [.nils] [(0,1,(.t 91))]),eI 93 (.append 1 24 (.t 90) (.t 92)),mI0 8 93]))))))
 (R0 [2,3,5,6,7,8,9,10] [mI0 51 10,cI0 52 .add 51 1,mI0 10 52]))))))
 (S0 (.seq (R0 [2,3,6,7,8,96] [mI0 94 5,eI 95 (.call 36 [(.t 94),(I0 6)]),cI0 96 .eql 95 0])
 (.cond (.t 96) (S0 (R0 [2,3,6,7,8,12] [kI0 12 0])
 (.block 2 (.loop [2,3,6,7,8,12] (S0 (.seq (R0 [2,3,6,7,8,12,100] [mI0 97 12,mI0 98 8,sI0 99 98,bI0 100 .lss 97 99])
 (.cond (.t 100) .skip (.exit 2)))
 (S0 (.block 3 (R0 [2,3,6,7,8,12] [mI0 103 8,mI0 104 12,LI0 105 7,C1 106 39 105,xI0 107 103 104,vI0 1 107 106]))
 (R0 [2,3,6,7,8,12] [mI0 101 12,cI0 102 .add 101 1,mI0 12 102])))))) .skip))
 (S0 (.draw [2,3,4] [] [qD 108 (.load true 3 (.t 6)) 0,qD 109 (.load true 3 (.t 7)) 1,mD0 110 8 2,⟨vI0 3 2 108,3,[1]⟩,wD0 3 3 109 4,mD0 4 110 5])
 .ret)))))))))))⟩
theorem cf17:cF prog f17=some if17:=by kernel_rfl
end Go.Proofs
set_option linter.unusedSimpArgs false
set_option linter.unusedVariables false
namespace Go.Proofs
open Go.Ab
variable {σ:PHeap} {K:PV→PHeap→Prop}
theorem zEj {n lo hi:Int} (hk:K (.bool (decide (lo≤n∧n≤hi))) σ):zA Tryz.prog 109 [.int .i64 n,.int .i64 lo,.int .i64 hi] σ K:=by
 refine zD mix Tryz.func109 ?_
 by_cases h1:lo≤n
 ·simp only [pwA,seval,-iQ0,h1];exact pke hk ⟨fun x=>x.2,fun x=>⟨h1,x⟩⟩
 ·simp only [pwA,seval,-iQ0,h1];exact pkf hk (by omega)
theorem zLI {n lo hi:Int} (hk:K (.bool (decide (lo≤n∧n≤hi))) σ):zA Tryz.prog 108 [.int .i64 n,.int .i64 lo,.int .i64 hi] σ K:=by
 refine zD mix Tryz.func108 ?_
 by_cases h1:lo≤n
 ·simp only [pwA,seval,-iQ0,h1];exact pke hk ⟨fun x=>x.2,fun x=>⟨h1,x⟩⟩
 ·simp only [pwA,seval,-iQ0,h1];exact pkf hk (by omega)
def isVec (xs:List Int) (p n:Int):Prop:=(xs.length:Int)=n∧∀x∈xs,0≤x∧x≤p-1
instance (xs:List Int) (p n:Int):Decidable (isVec xs p n):=by unfold isVec;infer_instance
theorem zHH {w:Bool} {a:AV} {xs:List Int} {p n:Int} {l:Nat} (hl:l=xs.length) (hb:xs.length≤4611686018427387904) (hp:0<p) (hp2:p<4611686018427387904) (hk:K (.bool (decide (isVec xs p n))) σ):
  zA Tryz.prog 94 [.fz w a l (pis xs),.int .i64 p,.int .i64 n] σ K:=by
 subst hl;refine zD mix Tryz.func94 ?_;simp only [pwA,seval,-iQ0]
 split
 ·refine zF (fun m vs h'=>∃i:Nat,i≤xs.length∧m=xs.length-i∧vs=[.int .i64 p,.fz w a xs.length (pis xs),.int .i64 xs.length,.int .i64 i]∧h'=σ∧∀x∈xs.take i,0≤x∧x≤p-1) xs.length ?_ ?_
  ·exact⟨0,by omega,by omega,rfl,rfl,by simp⟩
  ·rintro m vs h' ⟨i,hi,rfl,rfl,rfl,hall⟩
   simp only [pwA,seval,-iQ0]
   split
   ·rename_i hlt
    have hw1:IntKind.i64.wrap (p-1)=p-1:=wrap64 (by omega) (by omega)
    simp only [pwA,seval,-iQ0,hlt,zN,gi hlt,wrapS hlt hb,hw1];refine zEj ?_;simp only [pwA,seval,-iQ0,wrapS hlt hb]
    split
    ·exact⟨_,by omega,i+1,by omega,rfl,rfl,Zt hlt hall (by assumption)⟩
    ·rename_i hn
     exact pkf hk fun hv=>hn (hv.2 _ (List.getElem_mem hlt))
   ·refine pkt hk ⟨by assumption,Q3 (by omega) hall⟩
 ·rename_i hne
  exact pkf hk fun hv=>hne hv.1
theorem zC0 {w:Bool} {a:AV} {xs:List Int} {p:Int} {n:Nat} {l:Nat} (hl:l=xs.length) (hb:xs.length≤4611686018427387904) (hp:0<p) (hp2:p<4611686018427387904) (hk:K (.bool (decide (isVec xs p n))) σ):
  zA Tryz.prog 89 [.fz w a l (pis xs),.int .i64 p,.int .i64 n] σ K:=by
 subst hl;refine zD mix Tryz.func89 ?_;simp only [pwA,seval,-iQ0]
 split
 ·rename_i hl
  have hl:xs.length=n:=by omega
  subst hl;refine zF (fun m vs h'=>∃i:Nat,i≤xs.length∧m=xs.length-i∧vs=[.fz w a xs.length (pis xs),.int .i64 p,.int .i64 xs.length,.int .i64 i]∧h'=σ∧∀x∈xs.take i,0≤x∧x≤p-1) xs.length ?_ ?_
  ·exact⟨0,by omega,by omega,rfl,rfl,by simp⟩
  ·rintro m vs h' ⟨i,hi,rfl,rfl,rfl,hall⟩
   simp only [pwA,seval,-iQ0]
   split
   ·rename_i hlt
    have hw1:IntKind.i64.wrap (p-1)=p-1:=wrap64 (by omega) (by omega)
    simp only [pwA,seval,-iQ0,hlt,zN,gi hlt,wrapS hlt hb,hw1];refine zLI ?_;simp only [pwA,seval,-iQ0,wrapS hlt hb]
    split
    ·exact⟨_,by omega,i+1,by omega,rfl,rfl,Zt hlt hall (by assumption)⟩
    ·rename_i hn
     exact pkf hk fun hv=>hn (hv.2 _ (List.getElem_mem hlt))
   ·refine pkt hk ⟨rfl,Q3 (by omega) hall⟩
 ·rename_i hne
  exact pkf hk fun hv=>hne hv.1
def isZ (xs:List Int):Prop:=∀x∈xs,x=0
instance (xs:List Int):Decidable (isZ xs):=by unfold isZ;infer_instance
theorem Qk {w:Bool} {a:AV} {xs:List Int} {l:Nat} (hl:l=xs.length) (hb:xs.length≤4611686018427387904) (hk:K (.bool (decide (isZ xs))) σ):zA Tryz.prog 64 [.fz w a l (pis xs)] σ K:=by
 subst hl;refine zD mix Tryz.func64 ?_;simp only [pwA,seval,-iQ0];refine zF (fun m vs h'=>∃i:Nat,i≤xs.length∧m=xs.length-i∧vs=[.fz w a xs.length (pis xs),.int .i64 xs.length,.int .i64 i]∧h'=σ∧∀x∈xs.take i,x=0) xs.length ?_ ?_
 ·exact⟨0,by omega,by omega,rfl,rfl,by simp⟩
 ·rintro m vs h' ⟨i,hi,rfl,rfl,rfl,hall⟩
  simp only [pwA,seval,-iQ0]
  split
  ·rename_i hlt
   simp only [pwA,seval,-iQ0,hlt,zN,gi hlt]
   split
   ·rename_i h0
    simp only [pwA,seval,-iQ0,wrapS hlt hb];exact⟨_,by omega,i+1,by omega,rfl,rfl,Zt hlt hall h0⟩
   ·rename_i hn
    exact pkf hk fun hv=>hn (hv _ (List.getElem_mem hlt))
  ·refine pkt hk (Q3 (by omega) hall)
theorem zBI {w:Bool} {a:AV} {xs:List Int} {l:Nat} (hl:l=xs.length) (hb:xs.length≤4611686018427387904) (hk:K (.bool (decide (isZ xs))) σ):zA Tryz.prog 57 [.fz w a l (pis xs)] σ K:=by
 subst hl;refine zD mix Tryz.func57 ?_;simp only [pwA,seval,-iQ0];refine zF (fun m vs h'=>∃i:Nat,i≤xs.length∧m=xs.length-i∧vs=[.fz w a xs.length (pis xs),.int .i64 i]∧h'=σ∧∀x∈xs.take i,x=0) xs.length ?_ ?_
 ·exact⟨0,by omega,by omega,rfl,rfl,by simp⟩
 ·rintro m vs h' ⟨i,hi,rfl,rfl,rfl,hall⟩
  simp only [pwA,seval,-iQ0]
  split
  ·rename_i hlt
   simp only [pwA,seval,-iQ0,hlt,zN,gi hlt]
   split
   ·rename_i h0
    simp only [pwA,seval,-iQ0,wrapS hlt hb];exact⟨_,by omega,i+1,by omega,rfl,rfl,Zt hlt hall h0⟩
   ·rename_i hn
    exact pkf hk fun hv=>hn (hv _ (List.getElem_mem hlt))
  ·refine pkt hk (Q3 (by omega) hall)
theorem zCc {w:Bool} {a:AV} {xs:List Int} {k:Nat} {l:Nat} (hl:l=xs.length) (hb:xs.length≤4611686018427387904) (hkl:k<xs.length) (hk:K (.bool (decide (isZ (xs.take (k+1))))) σ):zA Tryz.prog 90 [.fz w a l (pis xs),.int .i64 k] σ K:=by
 subst hl;refine zD mix Tryz.func90 ?_;simp only [pwA,seval,-iQ0];refine zF (fun m vs h'=>∃i:Nat,i≤k+1∧m=k+1-i∧vs=[.fz w a xs.length (pis xs),.int .i64 k,.int .i64 i]∧h'=σ∧∀x∈xs.take i,x=0) (k+1) ?_ ?_
 ·exact⟨0,by omega,by omega,rfl,rfl,by simp⟩
 ·rintro m vs h' ⟨i,hi,rfl,rfl,rfl,hall⟩
  simp only [pwA,seval,-iQ0]
  split
  ·rename_i hlt
   have hlt:i<xs.length:=by omega
   simp only [pwA,seval,-iQ0,hlt,zN,gi hlt]
   split
   ·rename_i h0
    simp only [pwA,seval,-iQ0,wrapS hlt hb];exact⟨_,by omega,i+1,by omega,rfl,rfl,Zt hlt hall h0⟩
   ·rename_i hn
    refine pkf hk fun hv=>hn (hv _ ?_)
    rw [List.mem_take_iff_getElem];exact⟨i,by omega,rfl⟩
  ·have:i=k+1:=by omega
   subst this;exact pkt hk hall
theorem zJ7 {xs ys:List Int} (hl:xs.length=ys.length) {i:Nat} (hi:i<xs.length) (h:xs.take i=ys.take i) (he:xs[i]=ys[i]'(by omega)):xs.take (i+1)=ys.take (i+1):=by
 rw [List.take_succ_eq_append_getElem hi,List.take_succ_eq_append_getElem (by omega:i<ys.length),h,he]
theorem zBJ {w w':Bool} {a a':AV} {xs ys:List Int} {l:Nat} {l':Nat} (hl:l=xs.length) (hl':l'=ys.length) (hb:xs.length≤4611686018427387904) (hk:K (.bool (decide (xs=ys))) σ):zA Tryz.prog 53 [.fz w a l (pis xs),.fz w' a' l' (pis ys)] σ K:=by
 subst hl;subst hl';refine zD mix Tryz.func53 ?_;simp only [pwA,seval,-iQ0]
 split
 ·rename_i hl
  have hl:xs.length=ys.length:=by omega
  refine zF (fun m vs h'=>∃i:Nat,i≤xs.length∧m=xs.length-i∧vs=[.fz w a xs.length (pis xs),.fz w' a' ys.length (pis ys),.int .i64 i]∧h'=σ∧xs.take i=ys.take i) xs.length ?_ ?_
  ·exact⟨0,by omega,by omega,rfl,rfl,by simp⟩
  ·rintro m vs h' ⟨i,hi,rfl,rfl,rfl,hall⟩
   simp only [pwA,seval,-iQ0]
   split
   ·rename_i hlt
    have hlt2:i<ys.length:=by omega
    simp only [pwA,seval,-iQ0,hlt,hlt2,zN,gi hlt,gi hlt2]
    split
    ·rename_i h0
     simp only [pwA,seval,-iQ0,wrapS hlt hb];exact⟨_,by omega,i+1,by omega,rfl,rfl,zJ7 hl hlt hall h0⟩
    ·rename_i hn
     refine pkf hk fun hv=>hn (by subst hv;rfl)
   ·refine pkt hk ?_
    rwa [List.take_of_length_le (by omega),List.take_of_length_le (by omega)]at hall
 ·rename_i hl
  exact pkf hk fun hv=>hl (by rw [hv])
theorem zBN {w w':Bool} {a a':AV} {xs ys:List Int} {l:Nat} {l':Nat} (hl:l=xs.length) (hl':l'=ys.length) (hb:xs.length≤4611686018427387904) (hk:K (.bool (decide (xs=ys))) σ):zA Tryz.prog 81 [.fz w a l (pis xs),.fz w' a' l' (pis ys)] σ K:=by
 subst hl;subst hl';refine zD mix Tryz.func81 ?_;simp only [pwA,seval,-iQ0]
 split
 ·rename_i hl
  have hl:xs.length=ys.length:=by omega
  refine zF (fun m vs h'=>∃i:Nat,i≤xs.length∧m=xs.length-i∧vs=[.fz w a xs.length (pis xs),.fz w' a' ys.length (pis ys),.int .i64 xs.length,.int .i64 i]∧h'=σ∧xs.take i=ys.take i) xs.length ?_ ?_
  ·exact⟨0,by omega,by omega,rfl,rfl,by simp⟩
  ·rintro m vs h' ⟨i,hi,rfl,rfl,rfl,hall⟩
   simp only [pwA,seval,-iQ0]
   split
   ·rename_i hlt
    have hlt2:i<ys.length:=by omega
    simp only [pwA,seval,-iQ0,hlt,hlt2,zN,gi hlt,gi hlt2]
    split
    ·rename_i h0
     simp only [pwA,seval,-iQ0,wrapS hlt hb];exact⟨_,by omega,i+1,by omega,rfl,rfl,zJ7 hl hlt hall h0⟩
    ·rename_i hn
     refine pkf hk fun hv=>hn (by subst hv;rfl)
   ·refine pkt hk ?_
    rwa [List.take_of_length_le (by omega),List.take_of_length_le (by omega)]at hall
 ·rename_i hl
  exact pkf hk fun hv=>hl (by rw [hv])
def isP (n:Int):Prop:=n=2∨n=3∨n=5∨n=7
instance (n:Int):Decidable (isP n):=by unfold isP;infer_instance
theorem isP.bd {n:Int} (hp:isP n):2≤n∧n≤7:=by unfold isP at hp;omega
theorem zHG {n:Int} (hk:K (.bool (decide (isP n))) σ):zA Tryz.prog 88 [.int .i64 n] σ K:=by
 refine zD mix Tryz.func88 ?_
 by_cases h2:n=2
 ·simp only [pwA,seval,-iQ0,h2];exact pkt hk (by unfold isP;omega)
 by_cases h3:n=3
 ·simp only [pwA,seval,-iQ0,h3];exact pkt hk (by unfold isP;omega)
 by_cases h5:n=5
 ·simp only [pwA,seval,-iQ0,h5];exact pkt hk (by unfold isP;omega)
 by_cases h7:n=7
 ·simp only [pwA,seval,-iQ0,h7];exact pkt hk (by unfold isP;omega)
 simp only [pwA,seval,-iQ0,h2,h3,h5,h7];exact pkf hk (by unfold isP;omega)
theorem zD0 {n:Int} (hk:K (.bool (decide (isP n))) σ):zA Tryz.prog 96 [.int .i64 n] σ K:=by
 refine zD mix Tryz.func96 ?_
 by_cases h2:n=2
 ·simp only [pwA,seval,-iQ0,h2];exact pkt hk (by unfold isP;omega)
 by_cases h3:n=3
 ·simp only [pwA,seval,-iQ0,h3];exact pkt hk (by unfold isP;omega)
 by_cases h5:n=5
 ·simp only [pwA,seval,-iQ0,h5];exact pkt hk (by unfold isP;omega)
 by_cases h7:n=7
 ·simp only [pwA,seval,-iQ0,h7];exact pkt hk (by unfold isP;omega)
 simp only [pwA,seval,-iQ0,h2,h3,h5,h7];exact pkf hk (by unfold isP;omega)
theorem zDJ (a b:Int) (hb:0<b):(if a.tmod b<0 then a.tdiv b-1 else a.tdiv b)=a / b:=by
 have h1:=Int.tmod_add_mul_tdiv a b;have h2:=Int.emod_add_mul_ediv a b;have h3:=Int.emod_nonneg a (by omega:b≠0)
 have h4:=Int.emod_lt_of_pos a hb;have h5:=Int.tmod_lt_of_pos a hb;have h6:=Int.lt_tmod_of_pos a hb
 split
 ·have e1:b*(a / b-a.tdiv b+1)=a.tmod b-a % b+b:=by rw [Int.mul_add,Int.mul_sub];omega
  have:a / b-a.tdiv b+1=0:=by
   rcases Int.lt_trichotomy (a / b-a.tdiv b+1) 0 with x|x|x
   ·have:=Int.mul_le_mul_of_nonneg_left (show a / b-a.tdiv b+1≤-1 by omega) (show 0≤b by omega)
    rw [e1]at this;omega
   ·exact x
   ·have:=Int.mul_le_mul_of_nonneg_left (show 1≤a / b-a.tdiv b+1 by omega) (show 0≤b by omega)
    rw [e1]at this;omega
  omega
 ·have e1:b*(a / b-a.tdiv b)=a.tmod b-a % b:=by rw [Int.mul_sub];omega
  have:a / b-a.tdiv b=0:=by
   rcases Int.lt_trichotomy (a / b-a.tdiv b) 0 with x|x|x
   ·have:=Int.mul_le_mul_of_nonneg_left (show a / b-a.tdiv b≤-1 by omega) (show 0≤b by omega)
    rw [e1]at this;omega
   ·exact x
   ·have:=Int.mul_le_mul_of_nonneg_left (show 1≤a / b-a.tdiv b by omega) (show 0≤b by omega)
    rw [e1]at this;omega
  omega
theorem zHT {a b:Int} (hb:0<b) (ha:sm a):sm (a.tdiv b):=by
 have h1:(a.tdiv b).natAbs=a.natAbs / b.natAbs:=Int.natAbs_tdiv a b;have h2:a.natAbs / b.natAbs≤a.natAbs:=Nat.div_le_self _ _;unfold sm at *
 omega
theorem zC5 {a b:Int} (hb:0<b) (ha:sm a) (hk:K (.int .i64 (a / b)) σ):zA Tryz.prog 105 [.int .i64 a,.int .i64 b] σ K:=by
 refine zD mix Tryz.func105 ?_;have h0:b≠0:=by omega
 have hf:=zDJ a b hb;have hs:=zHT hb ha;unfold sm at hs
 rw [←hf]at hk
 simp only [pwA,seval,-iQ0,h0,wrap64 (n:=a.tdiv b) (by omega) (by omega)]
 split
 ·rename_i hc
  rw [if_pos hc]at hk
  simp only [pwA,seval,-iQ0,wrap64 (n:=a.tdiv b-1) (by omega) (by omega)]
  exact hk
 ·rename_i hc
  rw [if_neg hc]at hk
  exact hk
theorem zHF {a b:Int} (hb:0<b) (ha:sm a) (hk:K (.int .i64 (a / b)) σ):zA Tryz.prog 104 [.int .i64 a,.int .i64 b] σ K:=by
 refine zD mix Tryz.func104 ?_;have h0:b≠0:=by omega
 have hf:=zDJ a b hb;have hs:=zHT hb ha;unfold sm at hs
 rw [←hf]at hk
 simp only [pwA,seval,-iQ0,h0,wrap64 (n:=a.tdiv b) (by omega) (by omega)]
 split
 ·rename_i hc
  rw [if_pos hc]at hk
  simp only [pwA,seval,-iQ0,wrap64 (n:=a.tdiv b-1) (by omega) (by omega)]
  exact hk
 ·rename_i hc
  rw [if_neg hc]at hk
  exact hk
theorem zEm (x p:Int) (hp:0<p):(x.tmod p+p).tmod p=x % p:=by
 have h1:=Int.tmod_lt_of_pos x hp;have h2:=Int.lt_tmod_of_pos x hp;rw [Int.tmod_eq_emod_of_nonneg (by omega),Int.add_emod_right]
 rcases Int.le_total 0 x with h0|h0
 ·rw [Int.tmod_eq_emod_of_nonneg h0,Int.emod_emod_of_dvd _ (Int.dvd_refl p)]
 ·obtain⟨y,rfl⟩:∃y,x=-y:=⟨-x,by omega⟩
  rw [Int.neg_tmod,Int.tmod_eq_emod_of_nonneg (by omega)]
  have e:=Int.emod_add_mul_ediv y p
  have:-y=-(y % p)+p*(-(y / p)):=by rw [Int.mul_neg];omega
  rw [this,Int.add_mul_emod_self_left]
theorem zH3 {x p:Int} (hp:0<p) (hp2:p<4611686018427387904) (hk:K (.int .i64 (x % p)) σ):zA Tryz.prog 86 [.int .i64 x,.int .i64 p] σ K:=by
 refine zD mix Tryz.func86 ?_;have hp0:p≠0:=by omega
 have h1:=Int.tmod_lt_of_pos x hp;have h2:=Int.lt_tmod_of_pos x hp;have hw:IntKind.i64.wrap (x.tmod p+p)=x.tmod p+p:=wrap64 (by omega) (by omega)
 have he:=zEm x p hp;simp only [pwA,seval,-iQ0,hp0,hw,he];exact hk
theorem zJx {x p:Int} (hp:0<p) (hp2:p<4611686018427387904) (hk:K (.int .i64 (x % p)) σ):zA Tryz.prog 92 [.int .i64 x,.int .i64 p] σ K:=by
 refine zD mix Tryz.func92 ?_;have hp0:p≠0:=by omega
 have h1:=Int.tmod_lt_of_pos x hp;have h2:=Int.lt_tmod_of_pos x hp;have he:=zEm x p hp;simp only [pwA,seval,-iQ0,hp0]
 split
 ·rw [Int.tmod_eq_emod_of_nonneg (by omega),Int.emod_eq_of_lt (by omega) (by omega)]at he
  simp only [pwA,seval,-iQ0,he,wrap64 (n:=x % p) (by omega) (by omega)]
  exact hk
 ·rw [Int.tmod_eq_emod_of_nonneg (by omega),Int.add_emod_right,Int.emod_eq_of_lt (by omega) (by omega)]at he
  rw [he];exact hk
def ipow (p:Int):Nat→Int
 | 0=>1
 | n+1=>ipow p n*p
theorem zHf {p:Int} (hp:2≤p∧p≤7):∀{n:Nat},n≤6→1≤ipow p n∧ipow p n≤7 ^ n
 | 0,_=>by simp [ipow]
 | n+1,hn=>by
  obtain⟨h1,h2⟩:=zHf hp (n:=n) (by omega)
  simp only [ipow];have a1:=Int.mul_le_mul_of_nonneg_left hp.1 (show 0≤ipow p n by omega)
  have a2:=Int.mul_le_mul_of_nonneg_left hp.2 (show 0≤ipow p n by omega)
  rw [Int.pow_succ];omega
theorem zCA {p:Int} (hp:2≤p∧p≤7) {n:Nat} (hn:n≤6):1≤ipow p n∧ipow p n≤117649:=by
 obtain⟨h1,h2⟩:=zHf hp hn;refine⟨h1,?_⟩
 have:(7:Int) ^ n≤7 ^ 6:=by
  obtain rfl|rfl|rfl|rfl|rfl|rfl|rfl:n=0∨n=1∨n=2∨n=3∨n=4∨n=5∨n=6:=by omega
  all_goals decide
 have e:(7:Int) ^ 6=117649:=by decide
 omega
theorem QQ {p:Int} {n:Nat} (hp:2≤p∧p≤7) (hn:n≤6) (hk:K (.int .i64 (ipow p n)) σ):zA Tryz.prog 31 [.int .i64 p,.int .i64 n] σ K:=by
 refine zD mix Tryz.func31 ?_;simp only [pwA,seval,-iQ0];refine zF (fun m vs h'=>∃i:Nat,i≤n∧m=n-i∧vs=[.int .i64 p,.int .i64 (ipow p i),.int .i64 n,.int .i64 i]∧h'=σ) n ?_ ?_
 ·exact⟨0,by omega,by omega,rfl,rfl⟩
 ·rintro m vs h' ⟨i,hi,rfl,rfl,rfl⟩
  simp only [pwA,seval,-iQ0]
  split
  ·rename_i hlt
   have:=zCA hp (n:=i+1) (by omega)
   simp only [ipow]at this
   simp only [pwA,seval,-iQ0,wrapS (n:=n) (by omega) (by omega),wrap64 (n:=ipow p i*p) (by omega) (by omega)]
   exact⟨_,by omega,i+1,by omega,rfl,rfl⟩
  ·have:i=n:=by omega
   subst this;exact hk
theorem zBG {p:Int} {n:Nat} (hp:2≤p∧p≤7) (hn:n≤6) (hk:∀k,(k≤729↔ipow p n≤729)→(k≤729→k=ipow p n)→1≤k→k≤117649→K (.int .i64 k) σ):zA Tryz.prog 76 [.int .i64 p,.int .i64 n] σ K:=by
 refine zD mix Tryz.func76 ?_;simp only [pwA,seval,-iQ0];refine zF (fun m vs h'=>∃i:Nat,i≤n∧m=n-i∧vs=[.int .i64 p,.int .i64 n,.int .i64 (ipow p i),.int .i64 i]∧h'=σ) n ?_ ?_
 ·exact⟨0,by omega,by omega,rfl,rfl⟩
 ·rintro m vs h' ⟨i,hi,rfl,rfl,rfl⟩
  have hbi:=zCA hp (n:=i) (by omega)
  have mono:∀j,i≤j→j≤6→ipow p i≤ipow p j:=by
   intro j hj hj6
   induction j with
   | zero=>
     have:i=0:=by omega
     subst this;exact Int.le_refl _
   | succ j ih=>
    rcases Nat.lt_or_ge i (j+1)with x|x
    ·have:=ih (by omega) (by omega)
     have hbj:=zCA hp (n:=j) (by omega)
     have:=Int.mul_le_mul_of_nonneg_left hp.1 (show 0≤ipow p j by omega)
     simp only [ipow];omega
    ·have:i=j+1:=by omega
     subst this;exact Int.le_refl _
  by_cases hlt:i<n
  ·by_cases hle:ipow p i≤729
   ·have:=zCA hp (n:=i+1) (by omega)
    simp only [ipow]at this
    simp only [pwA,seval,-iQ0,hlt,hle,wrapS (n:=n) hlt (by omega),wrap64 (n:=ipow p i*p) (by omega) (by omega)]
    exact⟨_,by omega,i+1,by omega,rfl,rfl⟩
   ·simp only [pwA,seval,-iQ0,hlt,hle]
    have:=mono n (by omega) hn
    exact hk _ ⟨fun x=>by omega,fun x=>by omega⟩ (fun x=>by omega) hbi.1 hbi.2
  ·have:i=n:=by omega
   subst this;simp only [pwA,seval,-iQ0,hlt];exact hk _ Iff.rfl (fun _=>rfl) hbi.1 hbi.2
theorem zEh {w:Bool} {a:AV} {xs:List Int} {l:Nat} (hl:l=xs.length) (hb:xs.length≤4294967296) (hk:∀cap,full 1 cap xs.length→K (.sl σ.next 0 xs.length cap) (σ.new (pis xs))):zA Tryz.prog 91 [.fz w a l (pis xs)] σ K:=by
 subst hl;refine zA.gh ?_;refine zD mix Tryz.func91 ?_;simp only [pwA,seval,-iQ0];refine PSl.cat (bytes:=8) (σb:=σ) (n:=0) (cs:=[]) (zC σ _) (PSl.new _ 1 rfl (Nat.le_refl _)) (zY xs) (by omega) (by omega) fun v' h' hk' ha=>?_
 simp only [pwA,seval,-iQ0]at ha ⊢
 exact ha.out hk' (zZ _ _) hk
theorem zBO {w:Bool} {a:AV} {xs:List Int} {l:Nat} (hl:l=xs.length) (hb:xs.length≤4294967296) (hk:ResI σ K xs):zA Tryz.prog 67 [.fz w a l (pis xs)] σ K:=by
 subst hl;refine zA.nil0 fun hnil=>zA.gh ?_
 refine zD mix Tryz.func67 ?_;simp only [pwA,seval,-iQ0];cases hn:qf a
 ·simp only [pwA,seval,-iQ0]
  refine PSl.cat (bytes:=8) (σb:=σ) (n:=0) (cs:=[]) (zC σ _) (PSl.new _ 1 rfl (Nat.le_refl _)) (zY xs) (by omega) (by omega) fun v' h' hk' ha=>?_
  simp only [pwA,seval,-iQ0]at ha ⊢
  exact ha.out hk' (zZ _ _) hk.2
 ·simp only [pwA,seval,-iQ0]
  exact Gh.ret (hk.1 (List.eq_nil_of_length_eq_zero (hnil hn).1))
def unitL (n k:Nat):List Int:=(List.replicate n 0).set k 1
theorem zk (n k:Nat):(unitL n k).length=n:=by simp [unitL]
theorem zEy {n k:Nat} (hn:n≤1048576) (hkn:k<n) (hk:∀cap,full 1 cap n→K (.sl σ.next 0 n cap) (σ.new (pis (unitL n k)))):zA Tryz.prog 97 [.int .i64 n,.int .i64 k] σ K:=by
 refine zD mix Tryz.func97 ?_;simp only [pwA,seval,-iQ0,hkn,List.length_replicate,ZB,zY,mk8 (n:=n) (by omega),mkL (n:=n) (by omega),Nat.succ_le_of_lt hkn]
 rw [qM (by simpa using hkn)]
 exact hk _ (.inr rfl)
theorem QX {s:Nat} {cap:Cap} {w:Bool} {a:AV} {xs ys:List Int} {k:Int} {l':Nat} (hl':l'=ys.length) (hs:σ.obj s=some (pis xs)) (hl:xs.length≤ys.length) (hb:xs.length≤4294967296)
  (hsm:∀i (h1:i<xs.length) (h2:i<ys.length),sm (k*ys[i])∧sm (xs[i] - k*ys[i])) (hk:K (.tup []) (σ.set s (pis (subm k xs ys)))):
  zA Tryz.prog 84 [.sl s 0 xs.length cap,.fz w a l' (pis ys),.int .i64 k] σ K:=by
 subst hl';refine zD mix Tryz.func84 ?_;simp only [pwA,seval,-iQ0];refine zF (fun m vs h'=>∃i:Nat,i≤xs.length∧m=xs.length-i∧vs=[.sl s 0 xs.length cap,.fz w a ys.length (pis ys),.int .i64 k,.int .i64 xs.length,.int .i64 i]∧h'=σ.set s (pis ((subm k xs ys).take i++xs.drop i))) xs.length ?_ ?_
 ·exact⟨0,by omega,by omega,rfl,by rw [List.take_zero,List.drop_zero,List.nil_append,zCs hs]⟩
 ·rintro m vs h' ⟨i,hi,rfl,rfl,rfl⟩
  simp only [pwA,seval,-iQ0]
  split
  ·rename_i hlt
   have hlt2:i<ys.length:=by omega
   have hsl:=zCN (k:=k) hl;have e1:((subm k xs ys).take i++xs.drop i)[i]? = some xs[i]:=by
    rw [List.getElem?_append_right (by rw [List.length_take];omega),List.length_take,List.getElem?_drop]
    have:i+(i-min i (subm k xs ys).length)=i:=by omega
    rw [this,gi hlt]
   obtain⟨b1,b2⟩:=hsm i hlt hlt2;have hlen:i+1≤((subm k xs ys).take i++xs.drop i).length:=by simp;omega
   simp only [pwA,seval,-iQ0,hlt,hlt2,zN,zY,gi hlt2,e1,hlen,wrapS hlt (by omega:xs.length≤4611686018427387904),b1.w,b2.w]
   refine⟨_,by omega,i+1,by omega,rfl,rfl,?_⟩
   rw [qM (by simp;omega)]
   congr 2
   apply List.ext_getElem?;intro j;rcases Nat.lt_trichotomy j i with x|x|x
   ·rw [List.getElem?_set_ne (by omega),List.getElem?_append_left (by simp;omega),List.getElem?_append_left (by simp;omega),List.getElem?_take,List.getElem?_take,if_pos x,if_pos (by omega)]
   ·subst x
    rw [List.getElem?_set_self (by omega),List.getElem?_append_left (by simp;omega),List.getElem?_take,if_pos (by omega),zKU hlt hlt2]
   ·rw [List.getElem?_set_ne (by omega),List.getElem?_append_right (by simp;omega),List.getElem?_append_right (by simp;omega),List.getElem?_drop,List.getElem?_drop,List.length_take,List.length_take]
    congr 1;omega
  ·have:i=xs.length:=by omega
   subst this;rw [List.drop_length,List.append_nil,List.take_of_length_le (by rw [zCN hl];exact Nat.le_refl _)]
   exact hk
theorem ZP {s l l':Nat} {cap:Cap} {w:Bool} {a:AV} {xs ys:List Int} {k:Int} (hl:l=xs.length) (hl':l'=ys.length) (hs:σ.obj s=some (pis xs)) (hle:xs.length≤ys.length) (hb:xs.length≤4294967296)
  (hsm:∀i (h1:i<xs.length) (h2:i<ys.length),sm (k*ys[i])∧sm (xs[i] - k*ys[i])) (hk:K (.tup []) (σ.set s (pis (subm k xs ys)))):
  zA Tryz.prog 84 [.sl s 0 l cap,.fz w a l' (pis ys),.int .i64 k] σ K:=by
 subst hl;exact QX hl' hs hle hb hsm hk
theorem zA5 {w w':Bool} {a:AV} {cs:List PV} {n:Nat} {k:Int} (hk:K (.tup []) σ):
  zA Tryz.prog 84 [.fz w' .nils 0 [],.fz w a n cs,.int .i64 k] σ K:=by
 refine zD mix Tryz.func84 ?_;simp only [pwA,seval,-iQ0];refine zF (fun m vs h'=>m=0∧vs=[.fz w' .nils 0 [],.fz w a n cs,.int .i64 k,.int .i64 (0:Nat),.int .i64 (0:Nat)]∧h'=σ) 0 ?_ ?_
 ·exact⟨rfl,rfl,rfl⟩
 ·rintro m vs h' ⟨rfl,rfl,rfl⟩
  simp only [pwA,seval,-iQ0];exact hk
end Go.Proofs
namespace Go.Lie
open Go.Ab
def okp (p:Int):Prop:=2≤p∧p≤7
abbrev at_ (v:List Int) (j:Nat):Int:=v.getD j 0
theorem at_eq {v:List Int} {j:Nat} (h:j<v.length):at_ v j=v[j]:=by simp [at_,List.getD_eq_getElem?_getD,List.getElem?_eq_getElem h]
theorem at_ge {v:List Int} {j:Nat} (h:v.length≤j):at_ v j=0:=by simp [at_,List.getD_eq_getElem?_getD,List.getElem?_eq_none h]
theorem zAy {a b:List Int} (hl:a.length=b.length) (h:∀j,j<a.length→at_ a j=at_ b j):a=b:=by
 apply List.ext_getElem hl;intro j h1 h2
 have:=h j h1
 rwa [at_eq h1,at_eq h2]at this
theorem at_set {v:List Int} {i:Nat} (hi:i<v.length) (x:Int) (j:Nat):at_ (v.set i x) j=if j=i then x else at_ v j:=by
 simp only [at_,List.getD_eq_getElem?_getD,List.getElem?_set]
 by_cases h:i=j
 ·subst h;simp [hi]
 ·rw [if_neg h,if_neg (fun e=>h e.symm)]
theorem qR (n:Nat) (j:Nat):at_ (List.replicate n 0) j=0:=by
 simp only [at_,List.getD_eq_getElem?_getD,List.getElem?_replicate]
 split<;>rfl
def addm (q:Int) (xs ys:List Int):List Int:=List.zipWith (fun x y=>x+q*y) xs ys
theorem zx {q:Int} {xs ys:List Int} (h:xs.length≤ys.length):(addm q xs ys).length=xs.length:=by simp [addm];omega
theorem zBL {q:Int} {xs ys:List Int} {i:Nat} (h1:i<xs.length) (h2:i<ys.length):(addm q xs ys)[i]? = some (xs[i] + q*ys[i]):=by
 simp [addm,List.getElem?_zipWith,List.getElem?_eq_getElem h1,List.getElem?_eq_getElem h2]
theorem Zr {q:Int} {xs ys:List Int} (h:xs.length=ys.length) (i:Nat):at_ (addm q xs ys) i=at_ xs i+q*at_ ys i:=by
 rcases Nat.lt_or_ge i xs.length with x|x
 ·have:=zBL (q:=q) x (h ▸ x)
  simp only [at_,List.getD_eq_getElem?_getD];rw [this,List.getElem?_eq_getElem x,List.getElem?_eq_getElem (h ▸ x)]
  rfl
 ·rw [at_ge (by rw [zx (by omega)];exact x),at_ge x,at_ge (h ▸ x)]
  simp
theorem zD3 (k:Int) (xs ys:List Int):subm k xs ys=addm (-k) xs ys:=by
 simp only [subm,addm]
 congr 1
 funext x y
 rw [Int.neg_mul];omega
def lmix (k:Int) (a:List Int) (m:Int) (b:List Int):List Int:=List.zipWith (fun x y=>k*x+m*y) a b
theorem zL {k m:Int} {a b:List Int} (h:a.length=b.length):(lmix k a m b).length=a.length:=by simp [lmix];omega
theorem zFs {k m:Int} {a b:List Int} {i:Nat} (h1:i<a.length) (h2:i<b.length):(lmix k a m b)[i]? = some (k*a[i] + m*b[i]):=by
 simp [lmix,List.getElem?_zipWith,List.getElem?_eq_getElem h1,List.getElem?_eq_getElem h2]
theorem zq {k m:Int} {a b:List Int} (h:a.length=b.length) (i:Nat):at_ (lmix k a m b) i=k*at_ a i+m*at_ b i:=by
 rcases Nat.lt_or_ge i a.length with x|x
 ·rw [at_eq (by rw [zL h];exact x),at_eq x,at_eq (by omega:i<b.length)]
  have:=zFs (k:=k) (m:=m) x (by omega:i<b.length)
  rw [List.getElem?_eq_getElem (by rw [zL h];exact x)]at this
  exact Option.some.inj this
 ·rw [at_ge (by rw [zL h];exact x),at_ge x,at_ge (by omega:b.length≤i)]
  simp
def bd (M:Int) (v:List Int):Prop:=∀j,-M≤at_ v j∧at_ v j≤M
theorem bd.mono {M N:Int} {v:List Int} (h:bd M v) (hn:M≤N):bd N v:=fun j=>by have:=h j;omega
def box (p:Int) (v:List Int):Prop:=∀x∈v,0≤x∧x≤p-1
def El (p:Int) (n:Nat) (a:List Int):Prop:=a.length=n∧box p a
theorem box.at {p:Int} {v:List Int} (hp:0<p) (h:box p v) (j:Nat):0≤at_ v j∧at_ v j≤p-1:=by
 rcases Nat.lt_or_ge j v.length with x|x
 ·rw [at_eq x];exact h _ (List.getElem_mem x)
 ·rw [at_ge x];omega
structure OkW (p:Int) (n:Nat) (W:List (List Int)):Prop where
 pr:okp p
 le:n≤6
 len:W.length=n
 row:∀(i:Nat) (h:i<W.length),W[i].length=n∧box p W[i]∧∀j,j≤i→at_ W[i] j=0
variable {p:Int} {n:Nat} {W:List (List Int)}
def nstep (p:Int) (W:List (List Int)) (i:Nat) (v:List Int):List Int:=addm (at_ v i / p) (v.set i (at_ v i-at_ v i / p*p)) (W.getD i [])
def nrm (p:Int) (W:List (List Int)):Nat→List Int→List Int
 | 0,v=>v
 | k+1,v=>nstep p W k (nrm p W k v)
def norm (p:Int) (W:List (List Int)) (v:List Int):List Int:=nrm p W W.length v
abbrev w_ (W:List (List Int)) (i j:Nat):Int:=at_ (W.getD i []) j
theorem qW {i:Nat} (h:i<W.length):W.getD i []=W[i]:=by simp [List.getD_eq_getElem?_getD,List.getElem?_eq_getElem h]
theorem OkW.zero (o:OkW p n W) {i j:Nat} (h:j≤i):w_ W i j=0:=by
 rcases Nat.lt_or_ge i W.length with x|x
 ·rw [w_,qW x];exact(o.row i x).2.2 j h
 ·simp [w_,List.getD_eq_getElem?_getD,List.getElem?_eq_none x]
theorem OkW.bds (o:OkW p n W) (i j:Nat):0≤w_ W i j∧w_ W i j≤p-1:=by
 have:=o.pr.1
 rcases Nat.lt_or_ge i W.length with x|x
 ·rw [w_,qW x];exact(o.row i x).2.1.at (by omega) j
 ·simp [w_,List.getD_eq_getElem?_getD,List.getElem?_eq_none x];omega
theorem OkW.rowlen (o:OkW p n W) {i:Nat} (h:i<n):(W.getD i []).length=n:=by
 rw [qW (o.len ▸ h)];exact(o.row i (o.len ▸ h)).1
theorem zFp (o:OkW p n W) {i:Nat} (hi:i<n) {v:List Int} (hv:v.length=n):(nstep p W i v).length=n:=by
 rw [nstep,zx (by rw [List.length_set,o.rowlen hi];omega),List.length_set,hv]
theorem zCy (o:OkW p n W) {i:Nat} (hi:i<n) {v:List Int} (hv:v.length=n) (j:Nat):at_ (nstep p W i v) j=at_ v j+at_ v i / p*(w_ W i j-if j=i then p else 0):=by
 rw [nstep,Zr (by rw [List.length_set,o.rowlen hi,hv]),at_set (by omega)]
 split
 ·rename_i e;subst e;simp only [w_];rw [Int.mul_sub];omega
 ·rw [Int.sub_zero]
theorem ZQ (o:OkW p n W) {v:List Int} (hv:v.length=n):∀{k:Nat},k≤n→(nrm p W k v).length=n
 | 0,_=>hv
 | k+1,hk=>zFp o (by omega) (ZQ o hv (by omega))
theorem zw (o:OkW p n W) {v:List Int} (hv:v.length=n):(norm p W v).length=n:=ZQ o hv (Nat.le_of_eq o.len)
theorem Qo (a:Int) (hp:0<p):a / p*p≤a∧a<a / p*p+p:=by
 have h1:=Int.emod_add_mul_ediv a p;have h2:=Int.emod_nonneg a (by omega:p≠0)
 have h3:=Int.emod_lt_of_pos a hp;rw [Int.mul_comm]at h1
 omega
theorem zMM {q w:Int} (hp:0<p) (hw:0≤w∧w≤p-1) {A:Int} (hA:0≤A) (hq:-A≤q*p∧q*p≤A):-A≤q*w∧q*w≤A:=by
 rcases Int.le_total 0 q with h|h
 ·have h1:=Int.mul_nonneg h hw.1
  have h2:=Int.mul_le_mul_of_nonneg_left (show w≤p by omega) h
  omega
 ·have h1:=Int.mul_le_mul_of_nonneg_left (show w≤p by omega) (show 0≤-q by omega)
  have h2:=Int.mul_nonneg (show 0≤-q by omega) hw.1
  rw [Int.neg_mul]at h2
  rw [Int.neg_mul,Int.neg_mul]at h1
  omega
theorem zCr (o:OkW p n W) {M:Int} {v:List Int} (h:bd M v) (i j:Nat):
  (-(M+7)≤at_ v i / p*p∧at_ v i / p*p≤M+7)∧(-(M+7)≤at_ v i / p*w_ W i j∧at_ v i / p*w_ W i j≤M+7):=by
 have hp:=o.pr;unfold okp at hp
 have h1:=Qo (p:=p) (at_ v i) (by omega)
 have h2:=h i;have h3:-(M+7)≤at_ v i / p*p∧at_ v i / p*p≤M+7:=by omega
 exact⟨h3,zMM (by omega) (o.bds i j) (by omega) h3⟩
theorem zLB (o:OkW p n W) {M:Int} {i:Nat} (hi:i<n) {v:List Int} (hv:v.length=n) (h:bd M v):bd (2*M+14) (nstep p W i v):=fun j=>by
 rw [zCy o hi hv,Int.mul_sub];have hp:=o.pr;unfold okp at hp
 have h1:=Qo (p:=p) (at_ v i) (by omega)
 have h2:=h i;have h3:=h j;obtain⟨h4,h5⟩:=zCr o h i j
 split
 ·rename_i e
  subst e;rw [o.zero (Nat.le_refl _),Int.mul_zero];omega
 ·rw [Int.mul_zero];omega
def grow (M:Int):Nat→Int
 | 0=>M
 | k+1=>2*grow M k+14
theorem zMR {M:Int} (hM:0≤M) {k:Nat} (hk:k≤6):0≤grow M k∧grow M k≤64*M+882:=by
 obtain rfl|rfl|rfl|rfl|rfl|rfl|rfl:k=0∨k=1∨k=2∨k=3∨k=4∨k=5∨k=6:=by omega
 all_goals simp only [grow];omega
theorem zJp (o:OkW p n W) {M:Int} {v:List Int} (hv:v.length=n) (h:bd M v):∀{k:Nat},k≤n→bd (grow M k) (nrm p W k v)
 | 0,_=>h
 | k+1,hk=>zLB o (by omega) (ZQ o hv (by omega)) (zJp o hv h (by omega))
theorem zHb (o:OkW p n W) {M:Int} (hM:0≤M) {v:List Int} (hv:v.length=n) (h:bd M v) {k:Nat} (hk:k≤n):bd (64*M+882) (nrm p W k v):=
 (zJp o hv h hk).mono (zMR hM (by have:=o.le;omega)).2
def sumN:Nat→(Nat→Int)→Int
 | 0,_=>0
 | n+1,f=>sumN n f+f n
theorem zQ:∀{n:Nat} {f g:Nat→Int},(∀i,i<n→f i=g i)→sumN n f=sumN n g
 | 0,_,_,_=>rfl
 | n+1,f,g,h=>by simp only [sumN];rw [zQ (fun i hi=>h i (by omega)),h n (by omega)]
theorem QY:∀(n:Nat) (f g:Nat→Int),sumN n (fun i=>f i+g i)=sumN n f+sumN n g
 | 0,_,_=>rfl
 | n+1,f,g=>by simp only [sumN];rw [QY n f g];omega
theorem qa (k:Int):∀(n:Nat) (f:Nat→Int),sumN n (fun i=>k*f i)=k*sumN n f
 | 0,_=>by simp [sumN]
 | n+1,f=>by simp only [sumN];rw [qa k n f,Int.mul_add]
theorem qG:∀(n:Nat) {f:Nat→Int},(∀i,i<n→f i=0)→sumN n f=0
 | 0,_,_=>rfl
 | n+1,f,h=>by simp only [sumN];rw [qG n (fun i hi=>h i (by omega)),h n (by omega)];rfl
theorem ZG {n k:Nat} (hk:k<n) {f:Nat→Int} (h:∀i,i<n→i≠k→f i=0):sumN n f=f k:=by
 induction n with
 | zero=>omega
 | succ n ih=>
  simp only [sumN]
  by_cases e:k=n
  ·subst e
   rw [qG k (fun i hi=>h i (by omega) (by omega))]
   omega
  ·rw [ih (by omega) (fun i hi hne=>h i (by omega) hne),h n (by omega) (fun e'=>e e'.symm)]
   omega
abbrev rel (p:Int) (W:List (List Int)) (i j:Nat):Int:=w_ W i j-if j=i then p else 0
def Eqv (p:Int) (n:Nat) (W:List (List Int)) (f g:Nat→Int):Prop:=∃c:Nat→Int,∀j,f j=g j+sumN n (fun i=>c i*rel p W i j)
theorem Eqv.refl (f:Nat→Int):Eqv p n W f f:=⟨fun _=>0,fun j=>by rw [qG];omega;intro i _;exact Int.zero_mul _⟩
theorem Eqv.symm {f g:Nat→Int} (h:Eqv p n W f g):Eqv p n W g f:=by
 obtain⟨c,hc⟩:=h;refine⟨fun i=>-1*c i,fun j=>?_⟩
 have:(fun i=>-1*c i*rel p W i j)=fun i=>-1*(c i*rel p W i j):=by funext i;rw [Int.mul_assoc]
 rw [this,qa,hc j];omega
theorem Eqv.trans {f g k:Nat→Int} (h:Eqv p n W f g) (h':Eqv p n W g k):Eqv p n W f k:=by
 obtain⟨c,hc⟩:=h;obtain⟨d,hd⟩:=h';refine⟨fun i=>c i+d i,fun j=>?_⟩
 have:(fun i=>(c i+d i)*rel p W i j)=fun i=>c i*rel p W i j+d i*rel p W i j:=by funext i;rw [Int.add_mul]
 rw [this,QY,hc j,hd j];omega
theorem Eqv.add {f g f' g':Nat→Int} (h:Eqv p n W f g) (h':Eqv p n W f' g'):Eqv p n W (fun j=>f j+f' j) (fun j=>g j+g' j):=by
 obtain⟨c,hc⟩:=h;obtain⟨d,hd⟩:=h';refine⟨fun i=>c i+d i,fun j=>?_⟩
 have:(fun i=>(c i+d i)*rel p W i j)=fun i=>c i*rel p W i j+d i*rel p W i j:=by funext i;rw [Int.add_mul]
 dsimp only
 rw [this,QY,hc j,hd j];omega
theorem Eqv.mul (k:Int) {f g:Nat→Int} (h:Eqv p n W f g):Eqv p n W (fun j=>k*f j) (fun j=>k*g j):=by
 obtain⟨c,hc⟩:=h;refine⟨fun i=>k*c i,fun j=>?_⟩
 have:(fun i=>k*c i*rel p W i j)=fun i=>k*(c i*rel p W i j):=by funext i;rw [Int.mul_assoc]
 dsimp only
 rw [this,qa,hc j,Int.mul_add]
theorem Eqv.of_eq {f g:Nat→Int} (h:∀j,f j=g j):Eqv p n W f g:=by
 have:f=g:=funext h
 subst this;exact Eqv.refl f
theorem Eqv.rel {i:Nat} (hi:i<n):Eqv p n W (fun j=>rel p W i j) (fun _=>0):=
 ⟨fun k=>if k=i then 1 else 0,fun j=>by
  rw [ZG hi (fun k _ hk=>by dsimp only;rw [if_neg hk,Int.zero_mul])];dsimp only;rw [if_pos rfl];omega⟩
theorem zJo (o:OkW p n W) {i:Nat} (hi:i<n) {v:List Int} (hv:v.length=n):Eqv p n W (at_ (nstep p W i v)) (at_ v):=by
 refine⟨fun k=>if k=i then at_ v i / p else 0,fun j=>?_⟩
 rw [ZG hi (fun k _ hk=>by dsimp only;rw [if_neg hk,Int.zero_mul]),zCy o hi hv]
 dsimp only;rw [if_pos rfl]
theorem zHZ (o:OkW p n W) {v:List Int} (hv:v.length=n):∀{k:Nat},k≤n→Eqv p n W (at_ (nrm p W k v)) (at_ v)
 | 0,_=>Eqv.refl _
 | k+1,hk=>(zJo o (by omega) (ZQ o hv (by omega))).trans (zHZ o hv (by omega))
theorem zh (o:OkW p n W) {v:List Int} (hv:v.length=n):Eqv p n W (at_ (norm p W v)) (at_ v):=zHZ o hv (Nat.le_of_eq o.len)
theorem zHa (o:OkW p n W) {v:List Int} (hv:v.length=n):∀{k:Nat},k≤n→∀j,j<k→0≤at_ (nrm p W k v) j∧at_ (nrm p W k v) j≤p-1
 | 0,_,j,hj=>by omega
 | k+1,hk,j,hj=>by
  have hp:=o.pr;unfold okp at hp
  simp only [nrm];rw [zCy o (by omega) (ZQ o hv (by omega)),o.zero (by omega:j≤k)]
  by_cases e:j=k
  ·subst e
   rw [if_pos rfl,Int.zero_sub,Int.mul_neg]
   have:=Qo (p:=p) (at_ (nrm p W j v) j) (by omega)
   omega
  ·rw [if_neg e,Int.sub_zero,Int.mul_zero,Int.add_zero]
   exact zHa o hv (by omega) j (by omega)
theorem ZH (o:OkW p n W) {v:List Int} (hv:v.length=n):box p (norm p W v):=by
 intro x hx;obtain⟨j,hj,rfl⟩:=List.mem_iff_getElem.1 hx
 have:=zHa o hv (Nat.le_of_eq o.len) j (by rw [zw o hv]at hj;rw [o.len];exact hj)
 rwa [←at_eq hj]
theorem qi (o:OkW p n W) {a b:List Int} (ha:a.length=n) (hb:b.length=n) (ba:box p a) (bb:box p b) (h:Eqv p n W (at_ a) (at_ b)):a=b:=by
 obtain⟨c,hc⟩:=h;have hp:=o.pr;unfold okp at hp
 have key:∀m,m≤n→∀i,i<m→c i=0:=by
  intro m
  induction m with
  | zero=>intro _ i hi;omega
  | succ m ih=>
   intro hm i hi
   by_cases e:i=m
   ·subst e
    have h1:=hc i;rw [ZG (k:=i) (by omega) (fun k hk hne=>by
     rcases Nat.lt_or_ge k i with x|x
     ·rw [ih (by omega) k x,Int.zero_mul]
     ·rw [rel,o.zero x,if_neg (fun e=>hne e.symm)];simp)]at h1
    rw [rel,o.zero (Nat.le_refl _),if_pos rfl]at h1
    have h2:=ba.at (by omega) i
    have h3:=bb.at (by omega) i
    rw [Int.zero_sub,Int.mul_neg]at h1
    rcases Int.lt_trichotomy (c i) 0 with x|x|x
    ·have:=Int.mul_le_mul_of_nonneg_right (show c i≤-1 by omega) (show 0≤p by omega)
     omega
    ·exact x
    ·have:=Int.mul_le_mul_of_nonneg_right (show 1≤c i by omega) (show 0≤p by omega)
     omega
   ·exact ih (by omega) i (by omega)
 refine zAy (by omega) fun j hj=>?_
 rw [hc j,qG n (fun i hi=>by rw [key n (Nat.le_refl _) i hi,Int.zero_mul])]
 omega
theorem zIV (o:OkW p n W) {a b:List Int} (ha:a.length=n) (hb:b.length=n) (h:Eqv p n W (at_ a) (at_ b)):norm p W a=norm p W b:=
 qi o (zw o ha) (zw o hb) (ZH o ha) (ZH o hb) ((zh o ha).trans (h.trans (zh o hb).symm))
theorem zJq (o:OkW p n W) {a:List Int} (ha:a.length=n) (ba:box p a):norm p W a=a:=
 qi o (zw o ha) ha (ZH o ha) ba (zh o ha)
end Go.Lie
namespace Go.Proofs
open Go.Ab Go.Lie
variable {σ:PHeap} {K:PV→PHeap→Prop}
theorem zEs {q:Int} {u r:List Int} {k:Nat} (hl:u.length=r.length) (hk:k<u.length):
  ((addm q u r).take k++u.drop k).set k (u[k] + q*r[k]'(hl ▸ hk))=(addm q u r).take (k+1)++u.drop (k+1):=by
 have hal:=zx (q:=q) (Nat.le_of_eq hl);apply List.ext_getElem?;intro j;rcases Nat.lt_trichotomy j k with x|x|x
 ·rw [List.getElem?_set_ne (by omega),List.getElem?_append_left (by simp;omega),List.getElem?_append_left (by simp;omega),List.getElem?_take,List.getElem?_take,if_pos x,if_pos (by omega)]
 ·subst x
  rw [List.getElem?_set_self (by simp;omega),List.getElem?_append_left (by simp;omega),List.getElem?_take,if_pos (by omega),zBL hk (hl ▸ hk)]
 ·rw [List.getElem?_set_ne (by omega),List.getElem?_append_right (by simp;omega),List.getElem?_append_right (by simp;omega),List.getElem?_drop,List.getElem?_drop,List.length_take,List.length_take]
  congr 1;omega
theorem zGS {q:Int} {u r:List Int} {k:Nat} (hl:u.length=r.length) (hk:k<u.length):((addm q u r).take k++u.drop k)[k]? = some u[k]:=by
 have hal:=zx (q:=q) (Nat.le_of_eq hl);rw [List.getElem?_append_right (by rw [List.length_take];omega),List.length_take,List.getElem?_drop]
 have:k+(k-min k (addm q u r).length)=k:=by omega
 rw [this,List.getElem?_eq_getElem hk]
theorem zCl {q:Int} {u r:List Int} {k:Nat} (hl:u.length=r.length) (hk:k≤u.length):((addm q u r).take k++u.drop k).length=u.length:=by
 have hal:=zx (q:=q) (Nat.le_of_eq hl)
 simp;omega
theorem zGT {q:Int} {u r:List Int} (hl:u.length=r.length):(addm q u r).take u.length++u.drop u.length=addm q u r:=by
 rw [List.drop_length,List.append_nil,List.take_of_length_le (by rw [zx (Nat.le_of_eq hl)];exact Nat.le_refl _)]
abbrev big:Int:=1125899906842624
theorem zBi {s l:Nat} {w1 w:Bool} {a1 a:AV} {rP:List PV} {vB:PV} {p:Int} {n:Nat} {W:List (List Int)} {c:List Int} (hs:σ.obj s=some [.int .i64 p,.fz w1 a1 W.length rP,vB]) (hP:All2 FI rP W) (o:OkW p n W) (hc:c.length=n) (hb:bd big c)
  (hl:l=c.length) (hk:ResI σ K (norm p W c)):zA Tryz.prog 85 [.ptr s 0,.fz w a l (pis c)] σ K:=by
 subst hl;refine zA.pwf fun hw=>?_
 have hsn:=hw.lt hs;have hne:¬s=σ.next:=by omega
 have hW:=o.len;have hn6:=o.le;have hbg:big=1125899906842624:=rfl;have hp:=o.pr;unfold okp at hp
 refine zD mix Tryz.func85 ?_;simp only [pwA,seval,-iQ0];refine zBO rfl (by omega) ⟨fun h0=>?_,fun cap hcap=>?_⟩
 ·subst h0
  obtain rfl:n=0:=by simpa using hc.symm
  obtain rfl:W=[]:=List.eq_nil_of_length_eq_zero hW;simp only [pwA,seval,-iQ0,zG hs,zf hs];refine zF (fun m vs h'=>m=0∧vs=[.ptr s 0,.fz true .nils 0 [],.fz w1 a1 0 rP,.int .i64 (0:Nat),.int .i64 (0:Nat)]∧h'=σ) 0 ?_ ?_
  ·exact⟨rfl,rfl,rfl⟩
  ·rintro m vs h' ⟨rfl,rfl,rfl⟩
   simp only [pwA,seval,-iQ0];exact hk.1 rfl
 ·simp only [pwA,seval,-iQ0,zG hs,zf hs,hne]
  refine zF (fun m vs h'=>∃i:Nat,i≤n∧m=n-i∧vs=[.ptr s 0,.sl σ.next 0 c.length cap,.fz w1 a1 W.length rP,.int .i64 W.length,.int .i64 i]∧h'=σ.new (pis (nrm p W i c))) n ?_ ?_
  ·exact⟨0,by omega,by omega,rfl,rfl⟩
  ·rintro m vs h' ⟨i,hi,rfl,rfl,rfl⟩
   simp only [pwA,seval,-iQ0];refine iteI (fun hlt=>?_) fun hge=>?_
   ·have hin:i<n:=by omega
    have hvl:=ZQ o hc hi;have hvb:=zHb o (by decide) hc hb hi
    obtain⟨w2,a2,hr⟩:=hP.rowI (k:=i) (by omega)
    obtain⟨hrl,hrb,hrz⟩:=o.row i (by omega)
    have hgd:=qW (W:=W) (i:=i) (by omega)
    have hst:=fun j=>zCr o hvb i j
    have hfm:=Qo (p:=p) (at_ (nrm p W i c) i) (by omega)
    have hal:=at_eq (v:=nrm p W i c) (j:=i) (by omega)
    have hgi:=gi (xs:=nrm p W i c) (i:=i) (by omega)
    rw [←hal]at hgi
    clear hal;generalize hv:nrm p W i c=v at *
    have hib:i<c.length:=by omega
    have hii:=hvb i;have hsmi:sm (at_ v i):=by unfold sm;omega
    simp only [pwA,seval,-iQ0,hlt,hib,zN,hr,hgi,hne,zG hs,zf hs];refine zC5 (by omega) hsmi ?_
    have hs1:sm (at_ v i / p*p):=by have:=(hst 0).1;unfold sm;omega
    have hs2:sm (at_ v i-at_ v i / p*p):=by unfold sm;omega
    have hlv:i+1≤v.length:=by omega
    simp only [pwA,seval,-iQ0,hlt,hib,zN,zY,hr,hgi,hne,zG hs,zf hs,hs1.w,hs2.w,hlv];rw [qM (by omega)]
    have hu:(v.set i (at_ v i-at_ v i / p*p)).length=n:=by rw [List.length_set,hvl]
    have hstep:nrm p W (i+1) c=addm (at_ v i / p) (v.set i (at_ v i-at_ v i / p*p)) W[i]:=by rw [nrm,hv,nstep,hgd]
    have hub:∀j,sm (at_ (v.set i (at_ v i-at_ v i / p*p)) j)∧sm (at_ v i / p*at_ W[i] j)∧sm (at_ (v.set i (at_ v i-at_ v i / p*p)) j+at_ v i / p*at_ W[i] j):=fun j=>by
     have h1:=(hst j).2;have h2:=hvb j;rw [w_,hgd]at h1
     rw [at_set (by omega)]
     unfold sm
     split<;>omega
    generalize hq:at_ v i / p=q at *
    generalize hue:v.set i (at_ v i-q*p)=u at *
    refine zF (fun m vs h'=>∃k:Nat,k≤n∧m=n-k∧vs=[.ptr s 0,.sl σ.next 0 c.length cap,.int .i64 q,.fz w1 a1 W.length rP,.int .i64 W.length,.int .i64 i,.fz w2 a2 W[i].length (pis W[i]),.int .i64 W[i].length,.int .i64 k]∧h'=σ.new (pis ((addm q u W[i]).take k++u.drop k))) n ?_ ?_
    ·exact⟨0,by omega,by omega,rfl,rfl⟩
    ·rintro m vs h' ⟨k,hk',rfl,rfl,rfl⟩
     simp only [pwA,seval,-iQ0];refine iteI (fun hlt2=>?_) fun hge=>?_
     ·have hkc:k<c.length:=by omega
      have hku:k<u.length:=by omega
      obtain⟨b1,b2,b3⟩:=hub k;rw [at_eq hku,at_eq hlt2]at b3
      rw [at_eq hlt2]at b2
      have hlen:k+1≤((addm q u W[i]).take k++u.drop k).length:=by rw [zCl (by omega) (by omega)];omega
      simp only [pwA,seval,-iQ0,hlt2,hkc,zN,zY,gi hlt2,zGS (q:=q) (hu.trans hrl.symm) hku,b2.w,b3.w,hlen,wrapS hlt2 (by omega:W[i].length≤4611686018427387904)]
      refine⟨_,by omega,k+1,by omega,rfl,rfl,?_⟩
      rw [qM (by omega),zEs (by omega) hku]
     ·have hkn:k=u.length:=by omega
      subst hkn;rw [zGT (by omega)]
      simp only [pwA,seval,-iQ0,wrapS (n:=W.length) hlt (by omega)]
      refine⟨_,by omega,i+1,by omega,rfl,rfl,?_⟩
      rw [hstep]
   ·have hie:i=W.length:=by omega
    subst hie
    have:=hk.2 cap (by rw [zw o hc,←hc];exact hcap)
    rw [zw o hc,←hc]at this
    exact this
structure IsR (vP vB:PV) (W:List (List Int)) (B:List (List (List Int))):Prop where
 P:FII vP W
 B:FIII vB B
theorem zLf {q:Int} {u r:List Int} {i:Nat} (hl:u.length=r.length) (hz:∀j,j≤i→at_ r j=0) (hi:i<u.length):(addm q u r).take (i+1)++u.drop (i+1)=u:=by
 have hal:=zx (q:=q) (Nat.le_of_eq hl)
 have:(addm q u r).take (i+1)=u.take (i+1):=by
  apply List.ext_getElem?;intro j;rw [List.getElem?_take,List.getElem?_take]
  split
  ·rename_i hj
   have:=hz j (by omega)
   rw [at_eq (by omega)]at this
   rw [zBL (by omega) (by omega),this,gi (by omega)]
   congr 1;omega
  ·rfl
 rw [this,List.take_append_drop]
theorem zIc {vP vB:PV} {l:Nat} {w:Bool} {a:AV} {p:Int} {n:Nat} {W:List (List Int)} {B:List (List (List Int))} {c:List Int} (hR:IsR vP vB W B) (o:OkW p n W) (hc:c.length=n) (hb:bd big c)
  (hl:l=c.length) (hk:∀a,K (.fz true a n (pis (norm p W c))) σ):zA Tryz.prog 80 [.agg [.int .i64 p,vP,vB],.fz w a l (pis c)] σ K:=by
 subst hl;obtain⟨⟨w1,a1,rP,rfl,hP⟩,⟨w3,a3,rB,rfl,hB⟩⟩:=hR;refine zA.gh ?_;have hW:=o.len;have hn6:=o.le;have hbg:big=1125899906842624:=rfl;have hp:=o.pr;unfold okp at hp
 refine zD mix Tryz.func80 ?_;simp only [pwA,seval,-iQ0];refine zEh rfl (by omega) fun cap hcap=>?_
 simp only [pwA,seval,-iQ0];refine zF (fun m vs h'=>∃i:Nat,i≤n∧m=n-i∧vs=[.ptr σ.next 0,.sl (σ.next+1) 0 c.length cap,.int .i64 i]∧h'=(σ.new [.int .i64 p,.fz w1 a1 W.length rP,.fz w3 a3 B.length rB]).new (pis (nrm p W i c))) n ?_ ?_
 ·exact⟨0,by omega,by omega,rfl,rfl⟩
 ·rintro m vs h' ⟨i,hi,rfl,rfl,rfl⟩
  simp only [pwA,seval,-iQ0];refine iteI (fun hlt=>?_) fun hge=>?_
  ·have hin:i<n:=by omega
   have hiW:i<W.length:=by omega
   have hvl:=ZQ o hc hi;have hvb:=zHb o (by decide) hc hb hi
   obtain⟨w2,a2,hr⟩:=hP.rowI (k:=i) (by omega)
   obtain⟨hrl,hrb,hrz⟩:=o.row i (by omega)
   have hgd:=qW (W:=W) (i:=i) (by omega)
   have hst:=fun j=>zCr o hvb i j
   have hfm:=Qo (p:=p) (at_ (nrm p W i c) i) (by omega)
   have hal:=at_eq (v:=nrm p W i c) (j:=i) (by omega)
   have hgi:=gi (xs:=nrm p W i c) (i:=i) (by omega)
   rw [←hal]at hgi
   clear hal;generalize hv:nrm p W i c=v at *
   have hii:=hvb i;have hsmi:sm (at_ v i):=by unfold sm;omega
   simp only [pwA,seval,-iQ0,hlt,zN,hgi];refine zHF (by omega) hsmi ?_
   have hs1:sm (at_ v i / p*p):=by have:=(hst 0).1;unfold sm;omega
   have hs2:sm (at_ v i-at_ v i / p*p):=by unfold sm;omega
   have hlv:i+1≤v.length:=by omega
   simp only [pwA,seval,-iQ0,hlt,zN,zY,hgi,hs1.w,hs2.w,hlv,wrapS hlt (by omega:c.length≤4611686018427387904)]
   rw [qM (by omega)]
   have hu:(v.set i (at_ v i-at_ v i / p*p)).length=n:=by rw [List.length_set,hvl]
   have hstep:nrm p W (i+1) c=addm (at_ v i / p) (v.set i (at_ v i-at_ v i / p*p)) W[i]:=by rw [nrm,hv,nstep,hgd]
   have hub:∀j,sm (at_ (v.set i (at_ v i-at_ v i / p*p)) j)∧sm (at_ v i / p*at_ W[i] j)∧sm (at_ (v.set i (at_ v i-at_ v i / p*p)) j+at_ v i / p*at_ W[i] j):=fun j=>by
    have h1:=(hst j).2;have h2:=hvb j;rw [w_,hgd]at h1
    rw [at_set (by omega)]
    unfold sm
    split<;>omega
   generalize hq:at_ v i / p=q at *
   generalize hue:v.set i (at_ v i-q*p)=u at *
   refine zF (fun m vs h'=>∃k:Nat,i+1≤k∧k≤n∧m=n-k∧vs=[.ptr σ.next 0,.sl (σ.next+1) 0 c.length cap,.int .i64 i,.int .i64 q,.int .i64 k]∧h'=(σ.new [.int .i64 p,.fz w1 a1 W.length rP,.fz w3 a3 B.length rB]).new (pis ((addm q u W[i]).take k++u.drop k))) (n-(i+1)) ?_ ?_
   ·exact⟨i+1,by omega,by omega,by omega,rfl,by rw [zLf (by omega) hrz (by omega)]⟩
   ·rintro m vs h' ⟨k,hik,hk',rfl,rfl,rfl⟩
    simp only [pwA,seval,-iQ0];refine iteI (fun hlt2=>?_) fun hge=>?_
    ·have hku:k<u.length:=by omega
     have hkw:k<W[i].length:=by omega
     obtain⟨b1,b2,b3⟩:=hub k;rw [at_eq hku,at_eq hkw]at b3
     rw [at_eq hkw]at b2
     have hlen:k+1≤((addm q u W[i]).take k++u.drop k).length:=by rw [zCl (by omega) (by omega)];omega
     simp only [pwA,seval,-iQ0,hlt2,hiW,hkw,hr,zN,zY,gi hkw,zGS (q:=q) (hu.trans hrl.symm) hku,b2.w,b3.w,hlen,wrapS hlt2 (by omega:c.length≤4611686018427387904)]
     refine⟨_,by omega,k+1,by omega,by omega,rfl,rfl,?_⟩
     rw [qM (by omega),zEs (by omega) hku]
    ·have hkn:k=u.length:=by omega
     subst hkn;rw [zGT (by omega)]
     simp only [pwA,seval,-iQ0,wrapS (n:=c.length) hlt (by omega)]
     refine⟨_,by omega,i+1,by omega,rfl,rfl,?_⟩
     rw [hstep]
  ·have hie:i=W.length:=by omega
   subst hie;rw [hc];exact Gh.finF (s:=σ.next+1) ((zC σ _).new _) (by simp only [pwA,seval,-iQ0];rfl) (by omega) (zZ _ _) (by rw [←hc];exact hcap.ok) fun _=>hk _
theorem zFQ {xs:List Int} (z:Int) {i:Nat} (hi:i≤xs.length):(xs.take i++List.replicate (xs.length-i) z).length=xs.length:=by simp;omega
theorem bd_sm {M:Int} (hM:M≤4611686018427387904) {a:List Int} (h:bd M a) (j:Nat):sm (at_ a j):=by have:=h j;unfold sm;omega
theorem zJv {vP vB:PV} {l l':Nat} {w w':Bool} {av bv:AV} {p:Int} {n:Nat} {W:List (List Int)} {B:List (List (List Int))} {k m:Int} {a b:List Int} (hR:IsR vP vB W B) (o:OkW p n W) (ha:a.length=n) (hb:b.length=n)
  (hka:∀j,sm (k*at_ a j)∧sm (m*at_ b j)) (hm:bd big (lmix k a m b))
  (hl:l=a.length) (hl':l'=b.length) (hk:∀v,K (.fz true v n (pis (norm p W (lmix k a m b)))) σ):zA Tryz.prog 41 [.agg [.int .i64 p,vP,vB],.int .i64 k,.fz w av l (pis a),.int .i64 m,.fz w' bv l' (pis b)] σ K:=by
 subst hl;subst hl';refine zA.gh ?_;have h1:=hR.P.one;have h2:=hR.B.one;have hn6:=o.le;have hml:=zL (k:=k) (m:=m) (ha.trans hb.symm);refine zD mix Tryz.func41 ?_;simp only [pwA,seval,-iQ0,h1,h2,List.length_replicate,ZB,mk8 (n:=a.length) (by omega),mkL (n:=a.length) (by omega)]
 generalize hx:lmix k a m b=x at *
 refine zF (fun q vs h'=>∃i:Nat,i≤n∧q=n-i∧vs=[.int .i64 k,.fz w av a.length (pis a),.int .i64 m,.fz w' bv b.length (pis b),.ptr σ.next 0,.sl (σ.next+1) 0 a.length (.known a.length),.int .i64 i]∧
  h'=(σ.new [.int .i64 p,vP,vB]).new (pis (x.take i++List.replicate (x.length-i) 0))) n ?_ ?_
 ·exact⟨0,by omega,by omega,rfl,by rw [List.take_zero,List.nil_append,Nat.sub_zero,hml]⟩
 ·rintro q vs h' ⟨i,hi,rfl,rfl,rfl⟩
  simp only [pwA,seval,-iQ0];refine iteI (fun hlt=>?_) fun hge=>?_
  ·have hib:i<b.length:=by omega
   have hix:i<x.length:=by omega
   obtain⟨b1,b2⟩:=hka i;have b3:=bd_sm (by decide) hm i
   have e1:x[i]=k*a[i] + m*b[i]:=by
    have:=zFs (k:=k) (m:=m) hlt hib
    rw [hx,gi hix]at this
    exact Option.some.inj this
   rw [at_eq hlt]at b1
   rw [at_eq hib]at b2
   rw [at_eq hix,e1]at b3
   have hlen:i+1≤(x.take i++List.replicate (x.length-i) 0).length:=by rw [zFQ 0 (by omega)];omega
   simp only [pwA,seval,-iQ0,hlt,hib,gi hlt,gi hib,zN,zY,b1.w,b2.w,b3.w,hlen,wrapS hlt (by omega:a.length≤4611686018427387904)]
   refine⟨_,by omega,i+1,by omega,rfl,rfl,?_⟩
   rw [qM (by omega),←e1,zFO x 0 hix]
  ·have hie:i=x.length:=by omega
   subst hie;rw [List.take_length,Nat.sub_self,List.replicate_zero,List.append_nil];simp only [pwA,seval,-iQ0];refine zA.frz (s:=σ.next+1) (cs:=pis x) (by simp only [pwA,seval,-iQ0]) (zZ _ _) fun o1=>?_
   have hcap:capOK (.known a.length) a.length=true:=by simp [capOK]
   simp only [sbs,sb,hcap,and_self,if_true,hR.P.sb,hR.B.sb];refine zIc hR o (hml.trans ha) hm hml.symm fun v=>?_
   simp only [pwA,seval,-iQ0];exact Gh.fin0 (((zC σ _).new _).kill (by omega)) trivial (hk _)
end Go.Proofs
namespace Go.Proofs
open Go.Ab Go.Lie
variable {σ:PHeap} {K:PV→PHeap→Prop} {p:Int} {n:Nat} {W:List (List Int)} {B:List (List (List Int))} {vP vB:PV} {s:Nat}
structure PtrR (σ:PHeap) (s:Nat) (p:Int) (vP vB:PV):Prop where
 obj:σ.obj s=some [.int .i64 p,vP,vB]
 lt:s<σ.next
theorem PtrR.new (h:PtrR σ s p vP vB) (cs:List PV):PtrR (σ.new cs) s p vP vB:=⟨by have:=h.lt;simp only [pwA,seval,-iQ0,Nat.ne_of_lt this];exact h.obj,by have:=h.lt;simp only [pwA,seval,-iQ0];omega⟩
theorem PtrR.kill (h:PtrR σ s p vP vB) {t:Nat} (ht:s≠t):PtrR (σ.kill t) s p vP vB:=⟨by simp only [pwA,seval,-iQ0,ht];exact h.obj,h.lt⟩
theorem PtrR.set (h:PtrR σ s p vP vB) {t:Nat} (ht:s≠t) (cs:List PV):PtrR (σ.set t cs) s p vP vB:=⟨by simp only [pwA,seval,-iQ0,ht];exact h.obj,h.lt⟩
theorem Qz {l:Nat} {cap:Cap} {c:List Int} (hs:PtrR σ s p vP vB) (hP:FII vP W) (o:OkW p n W) (hc:c.length=n) (hb:bd big c)
  (hl:l=c.length) (hcap:capOK cap l=true) (hk:ResI σ K (norm p W c)):zA Tryz.prog 85 [.ptr s 0,.sl σ.next 0 l cap] (σ.new (pis c)) (Gh σ K):=by
 subst hl;obtain⟨w1,a1,rP,rfl,hP⟩:=hP;have hlt:=hs.lt;refine zA.frz (s:=σ.next) (cs:=pis c) (by simp only [pwA,seval,-iQ0]) (zZ _ _) fun o1=>?_
 simp only [sbs,sb,hcap,and_self,if_true];refine zBi ((hs.new _).kill (by omega)).obj hP o hc hb rfl ⟨fun h0=>?_,fun cap' hc'=>?_⟩
 ·exact Gh.fin0 ((zC σ _).kill (Nat.le_refl _)) trivial (hk.1 h0)
 ·exact Gh.finS (((zC σ _).kill (Nat.le_refl _)).new _) (by simp only [pwA,seval,-iQ0]) (by simp only [pwA,seval,-iQ0];omega) (zZ _ _) (hk.2 cap' hc')
theorem zIU {w:Bool} {a:AV} (hs:PtrR σ s p vP vB) (hP:FII vP W) (o:OkW p 0 W) (hk:ResI σ K (norm p W [])):zA Tryz.prog 85 [.ptr s 0,.fz w a 0 []] σ K:=by
 obtain⟨w1,a1,rP,rfl,hP⟩:=hP;exact zBi (c:=[]) hs.obj hP o rfl (fun j=>by simp [at_]) rfl hk
theorem lmix1 {a b:List Int} (h:a.length=b.length):subm (-1) a b=lmix 1 a 1 b:=by
 rw [zD3];refine zAy (by rw [zx (by omega),zL h]) fun j hj=>?_
 rw [Zr h,zq h];omega
theorem lmixk {k:Int} {a:List Int}:subm (-k) (List.replicate a.length 0) a=lmix k a 0 a:=by
 rw [zD3];refine zAy (by rw [zx (by simp),zL rfl];simp) fun j hj=>?_
 rw [Zr (by simp),zq rfl,qR];simp
theorem zLE {k:Int} {a b:List Int} (h:a.length=b.length):lmix k a 0 b=lmix k a 0 a:=by
 refine zAy (by rw [zL h,zL rfl]) fun j hj=>?_
 rw [zq h,zq rfl];omega
theorem zMN {k m A C:Int} {a b:List Int} (h:a.length=b.length) (ha:∀j,-A≤k*at_ a j∧k*at_ a j≤A) (hb:∀j,-C≤m*at_ b j∧m*at_ b j≤C):bd (A+C) (lmix k a m b):=fun j=>by
 rw [zq h]
 have:=ha j
 have:=hb j
 omega
theorem Q9 (o:OkW p n W) {c:List Int} (hc:c.length=n):El p n (norm p W c):=⟨zw o hc,ZH o hc⟩
theorem mul6 {k x:Int} (hk:-1000000000≤k∧k≤1000000000) (hx:0≤x∧x≤6):-6000000000≤k*x∧k*x≤6000000000:=by
 obtain rfl|rfl|rfl|rfl|rfl|rfl|rfl:x=0∨x=1∨x=2∨x=3∨x=4∨x=5∨x=6:=by omega
 all_goals omega
theorem _root_.Go.Lie.El.at {a:List Int} (h:El p n a) (hp:okp p) (j:Nat):0≤at_ a j∧at_ a j≤6:=by
 have:=h.2.at (by have:=hp.1;omega) j
 have:=hp.2
 omega
theorem _root_.Go.Lie.El.mul {a:List Int} (h:El p n a) (hp:okp p) {k:Int} (hk:-1000000000≤k∧k≤1000000000) (j:Nat):-6000000000≤k*at_ a j∧k*at_ a j≤6000000000:=mul6 hk (h.at hp j)
theorem _root_.Go.Lie.El.mulsm {a:List Int} (h:El p n a) (hp:okp p) {k:Int} (hk:-1000000000≤k∧k≤1000000000) (j:Nat):sm (k*at_ a j):=by have:=h.mul hp hk j;unfold sm;omega
theorem _root_.Go.Lie.El.mixbd {a b:List Int} (ha:El p n a) (hb:El p n b) (hp:okp p) {k m:Int} (hk:-1000000000≤k∧k≤1000000000) (hm:-1000000000≤m∧m≤1000000000):Go.Lie.bd big (lmix k a m b):=
 (zMN (ha.1.trans hb.1.symm) (fun j=>ha.mul hp hk j) fun j=>hb.mul hp hm j).mono (by decide)
theorem qm {l l':Nat} {w w':Bool} {av bv:AV} {k m:Int} {a b:List Int} (hR:IsR vP vB W B) (o:OkW p n W) (ha:El p n a) (hb:El p n b) (hl:l=a.length) (hl':l'=b.length)
  (hkb:-1000000000≤k∧k≤1000000000) (hmb:-1000000000≤m∧m≤1000000000)
  (hk:∀v,K (.fz true v n (pis (norm p W (lmix k a m b)))) σ):zA Tryz.prog 41 [.agg [.int .i64 p,vP,vB],.int .i64 k,.fz w av l (pis a),.int .i64 m,.fz w' bv l' (pis b)] σ K:=
 zJv hR o ha.1 hb.1 (fun j=>⟨ha.mulsm o.pr hkb j,hb.mulsm o.pr hmb j⟩) (ha.mixbd hb o.pr hkb hmb) hl hl' hk
theorem zKJ {l l':Nat} {w w':Bool} {av bv:AV} {a b:List Int} (hs:PtrR σ s p vP vB) (hP:FII vP W) (o:OkW p n W) (ha:El p n a) (hb:El p n b) (hl:l=a.length) (hl':l'=b.length)
  (hk:ResI σ K (norm p W (lmix 1 a 1 b))):zA Tryz.prog 46 [.ptr s 0,.fz w av l (pis a),.fz w' bv l' (pis b)] σ K:=by
 subst hl;subst hl';have hn6:=o.le;have hal:=ha.1;have hbl:=hb.1;refine zA.gh ?_;refine zD mix Tryz.func46 ?_;simp only [pwA,seval,-iQ0];refine zBO rfl (by omega) ⟨fun h0=>?_,fun cap hcap=>?_⟩
 ·simp only [pwA,seval,-iQ0]
  refine zA5 ?_;subst h0;obtain rfl:n=0:=by simpa using hal.symm
  obtain rfl:b=[]:=List.eq_nil_of_length_eq_zero hbl;simp only [pwA,seval,-iQ0];refine zIU hs hP o ⟨fun h0=>?_,fun cap hc=>?_⟩
  ·simp only [pwA,seval,-iQ0]
   exact Gh.ret (hk.1 h0)
  ·simp only [pwA,seval,-iQ0]
   exact Gh.ret (hk.2 cap hc)
 ·simp only [pwA,seval,-iQ0]
  have hab:a.length=b.length:=hal.trans hbl.symm;refine QX rfl (by simp only [pwA,seval,-iQ0]) (by omega) (by omega) (fun i h1 h2=>?_) ?_
  ·have b1:=ha.at o.pr i
   have b2:=hb.at o.pr i;rw [at_eq h1]at b1
   rw [at_eq h2]at b2
   unfold sm;omega
  ·simp only [pwA,seval,-iQ0]
   rw [lmix1 hab];exact(Qz hs hP o (by rw [zL hab,hal]) (ha.mixbd hb o.pr (by decide) (by decide)) (zL hab).symm hcap.ok hk).mono fun v σ' hg=>by simp only [pwA,seval,-iQ0];exact hg
theorem zCL {l:Nat} {w:Bool} {av:AV} {k:Int} {a:List Int} (hs:PtrR σ s p vP vB) (hP:FII vP W) (o:OkW p n W) (ha:El p n a) (hl:l=a.length) (hkb:-1000000000≤k∧k≤1000000000)
  (hk:ResI σ K (norm p W (lmix k a 0 a))):zA Tryz.prog 47 [.ptr s 0,.int .i64 k,.fz w av l (pis a)] σ K:=by
 subst hl;have hn6:=o.le;have hal:=ha.1;refine zA.gh ?_;refine zD mix Tryz.func47 ?_;have hneg:IntKind.i64.wrap (0-k)=-k:=by rw [wrap64 (by omega) (by omega)];omega
 simp only [pwA,seval,-iQ0,List.length_replicate,ZB,mk8 (n:=a.length) (by omega),mkL (n:=a.length) (by omega),hneg]
 refine ZP (xs:=List.replicate a.length 0) (by simp) rfl (by simp only [pwA,seval,-iQ0]) (by simp) (by simp;omega) (fun i h1 h2=>?_) ?_
 ·have b1:=ha.mul o.pr (k:=-k) (by omega) i
  rw [at_eq h2]at b1
  rw [List.getElem_replicate];unfold sm;omega
 ·simp only [pwA,seval,-iQ0]
  rw [lmixk];exact(Qz hs hP o (by rw [zL rfl,hal]) (ha.mixbd ha o.pr hkb (by decide)) (zL rfl).symm (by simp [capOK]) hk).mono fun v σ' hg=>by simp only [pwA,seval,-iQ0];exact hg
theorem QL (hR:IsR vP vB W B) (hW:W.length=n) (hn:n≤1048576) (hk:∀v,K (.fz true v n (pis (List.replicate n 0))) σ):zA Tryz.prog 39 [.agg [.int .i64 p,vP,vB]] σ K:=by
 have h1:=hR.P.one;have h2:=hR.B.one;obtain⟨⟨w1,a1,rP,rfl,hP⟩,hB⟩:=hR;subst hW;refine zA.gh ?_;refine zD mix Tryz.func39 ?_;simp only [pwA,seval,-iQ0,h2,ZB,mk8 (n:=W.length) (by omega),mkL (n:=W.length) (by omega)]
 exact Gh.finF (s:=σ.next+1) ((zC σ _).new _) (by simp only [pwA,seval,-iQ0]) (by omega) (zZ _ _) (by simp [capOK]) fun _=>hk _
theorem zCb (hR:IsR vP vB W B) (hW:W.length=n) (hn:n≤1048576) (hk:∀cap,full 1 cap n→K (.sl σ.next 0 n cap) (σ.new (pis (List.replicate n 0)))):zA Tryz.prog 39 [.agg [.int .i64 p,vP,vB]] σ K:=by
 have h1:=hR.P.one;have h2:=hR.B.one;obtain⟨⟨w1,a1,rP,rfl,hP⟩,hB⟩:=hR;subst hW;refine zA.gh ?_;refine zD mix Tryz.func39 ?_;simp only [pwA,seval,-iQ0,h2,ZB,mk8 (n:=W.length) (by omega),mkL (n:=W.length) (by omega)]
 exact Gh.finS (s:=σ.next+1) ((zC σ _).new _) (by simp only [pwA,seval,-iQ0]) (by omega) (zZ _ _) (hk _ (.inr rfl))
theorem ZC {k:Nat} (hR:IsR vP vB W B) (hW:W.length=n) (hn:n≤1048576) (hkn:k<n) (hk:∀v,K (.fz true v n (pis (unitL n k))) σ):zA Tryz.prog 40 [.agg [.int .i64 p,vP,vB],.int .i64 k] σ K:=by
 have h1:=hR.P.one;have h2:=hR.B.one;refine zA.gh ?_;refine zD mix Tryz.func40 ?_;simp only [pwA,seval,-iQ0,h1,h2];refine zCb hR hW hn fun cap hc=>?_
 simp only [pwA,seval,-iQ0,hkn,zY,List.length_replicate,Nat.succ_le_of_lt hkn];rw [qM (by simpa using hkn)]
 exact Gh.finF (s:=σ.next+1) ((zC σ _).new _) (by simp only [pwA,seval,-iQ0];rfl) (by omega) (zZ _ _) hc.ok fun _=>hk _
def coef (a b:List Int) (i j:Nat):Int:=at_ a i*at_ b j-at_ a j*at_ b i
def bk (row:List (List Int)) (a b:List Int) (i:Nat):Nat→List Int→List Int
 | 0,acc=>acc
 | k+1,acc=>addm (coef a b i (i+1+k)) (bk row a b i k acc) (row.getD k [])
def bi (B:List (List (List Int))) (a b:List Int) (n:Nat):Nat→List Int
 | 0=>List.replicate n 0
 | i+1=>bk (B.getD i []) a b i (n-1-i) (bi B a b n i)
def bsum (B:List (List (List Int))) (a b:List Int) (n:Nat):List Int:=bi B a b n n
structure OkB (p:Int) (n:Nat) (B:List (List (List Int))):Prop where
 len:B.length=n
 row:∀(i:Nat) (h:i<B.length),B[i].length=n-1-i
 ent:∀(i:Nat) (h:i<B.length) (k:Nat) (hk:k<B[i].length),El p n B[i][k]∧∀j,j≤i+k+1→at_ B[i][k] j=0
theorem zI {α:Type} {B:List (List α)} {i:Nat} (h:i<B.length):B.getD i []=B[i]:=by simp [List.getD_eq_getElem?_getD,List.getElem?_eq_getElem h]
theorem OkB.get (q:OkB p n B) {i k:Nat} (hi:i<n) (hk:k<n-1-i):El p n ((B.getD i []).getD k [])∧∀j,j≤i+k+1→at_ ((B.getD i []).getD k []) j=0:=by
 have h1:i<B.length:=by rw [q.len];exact hi
 have h2:k<B[i].length:=by rw [q.row i h1];exact hk
 rw [zI h1,zI h2];exact q.ent i h1 k h2
theorem QD (q:OkB p n B) {a b acc:List Int} {i:Nat} (hi:i<n) (hacc:acc.length=n):∀{k:Nat},k≤n-1-i→(bk (B.getD i []) a b i k acc).length=n
 | 0,_=>hacc
 | k+1,hk=>by
  have ih:=QD q hi hacc (k:=k) (a:=a) (b:=b) (by omega)
  rw [bk,zx (by rw [ih,(q.get hi (by omega:k<n-1-i)).1.1];omega),ih]
theorem QE (q:OkB p n B) {a b:List Int}:∀{i:Nat},i≤n→(bi B a b n i).length=n
 | 0,_=>by simp [bi]
 | i+1,hi=>QD q (by omega) (QE q (by omega)) (Nat.le_refl _)
theorem zHo {a b:List Int} (hp:okp p) (ha:El p n a) (hb:El p n b) (i j:Nat):-36≤coef a b i j∧coef a b i j≤36:=by
 have m:∀{x y:Int},0≤x∧x≤6→0≤y∧y≤6→0≤x*y∧x*y≤36:=fun {x y} hx hy=>by
  obtain rfl|rfl|rfl|rfl|rfl|rfl|rfl:x=0∨x=1∨x=2∨x=3∨x=4∨x=5∨x=6:=by omega
  all_goals omega
 have h1:=m (ha.at hp i) (hb.at hp j);have h2:=m (ha.at hp j) (hb.at hp i);unfold coef;omega
theorem zGE {a b c:List Int} (hp:okp p) (ha:El p n a) (hb:El p n b) (hc:El p n c) (i j t:Nat):-216≤coef a b i j*at_ c t∧coef a b i j*at_ c t≤216:=by
 have h1:=zHo hp ha hb i j;have h2:=hc.at hp t;obtain e|e|e|e|e|e|e:at_ c t=0∨at_ c t=1∨at_ c t=2∨at_ c t=3∨at_ c t=4∨at_ c t=5∨at_ c t=6:=by omega
 all_goals rw [e];omega
theorem bk_at (q:OkB p n B) {a b acc:List Int} {i:Nat} (hi:i<n) (hacc:acc.length=n) (t:Nat):∀{k:Nat},k≤n-1-i→
  at_ (bk (B.getD i []) a b i k acc) t=at_ acc t+sumN k fun j=>coef a b i (i+1+j)*at_ ((B.getD i []).getD j []) t
 | 0,_=>by simp [bk,sumN]
 | k+1,hk=>by
  have h1:=QD q hi hacc (k:=k) (a:=a) (b:=b) (by omega)
  rw [bk,Zr (by rw [h1,(q.get hi (by omega:k<n-1-i)).1.1]),bk_at q hi hacc t (by omega),sumN];omega
theorem bi_at (q:OkB p n B) {a b:List Int} (t:Nat):∀{i:Nat},i≤n→
  at_ (bi B a b n i) t=sumN i fun i=>sumN (n-1-i) fun j=>coef a b i (i+1+j)*at_ ((B.getD i []).getD j []) t
 | 0,_=>by rw [bi,qR];rfl
 | i+1,hi=>by rw [bi,bk_at q (by omega) (QE q (by omega)) t (Nat.le_refl _),bi_at q t (by omega)];rfl
theorem bk_bd (q:OkB p n B) {a b acc:List Int} (hp:okp p) (ha:El p n a) (hb:El p n b) {M:Int} {i:Nat} (hi:i<n) (hacc:acc.length=n) (hM:bd M acc):∀{k:Nat},k≤n-1-i→bd (M+216*k) (bk (B.getD i []) a b i k acc)
 | 0,_=>by simpa [bk]using hM
 | k+1,hk=>fun t=>by
  have h1:=QD q hi hacc (k:=k) (a:=a) (b:=b) (by omega)
  have h2:=bk_bd q hp ha hb hi hacc hM (k:=k) (by omega) t
  have h3:=zGE hp ha hb (q.get hi (by omega:k<n-1-i)).1 i (i+1+k) t
  rw [bk,Zr (by rw [h1,(q.get hi (by omega:k<n-1-i)).1.1])]
  omega
theorem bi_bd (q:OkB p n B) {a b:List Int} (hp:okp p) (hn:n≤6) (ha:El p n a) (hb:El p n b):∀{i:Nat},i≤n→bd (1296*i) (bi B a b n i)
 | 0,_=>fun t=>by rw [bi,qR];omega
 | i+1,hi=>(bk_bd q hp ha hb (by omega) (QE q (by omega)) (bi_bd q hp hn ha hb (by omega)) (Nat.le_refl _)).mono (by omega)
theorem qL (q:OkB p n B) {a b:List Int}:(bsum B a b n).length=n:=QE q (Nat.le_refl _)
theorem zMW (q:OkB p n B) {a b:List Int} (hp:okp p) (hn:n≤6) (ha:El p n a) (hb:El p n b):bd big (bsum B a b n):=(bi_bd q hp hn ha hb (Nat.le_refl _)).mono (by have:big=1125899906842624:=rfl;omega)
theorem zFS (k:Int) (xs ys:List Int):subm (-k) xs ys=addm k xs ys:=by rw [zD3,Int.neg_neg]
end Go.Proofs
namespace Go.Proofs
open Go.Ab Go.Lie
variable {σ:PHeap} {K:PV→PHeap→Prop} {p:Int} {n:Nat} {W:List (List Int)} {B:List (List (List Int))} {vP vB:PV} {s:Nat}
theorem mul36 {x y:Int} (hx:0≤x∧x≤6) (hy:0≤y∧y≤6):0≤x*y∧x*y≤36:=by
 obtain rfl|rfl|rfl|rfl|rfl|rfl|rfl:x=0∨x=1∨x=2∨x=3∨x=4∨x=5∨x=6:=by omega
 all_goals omega
theorem zDs {a b:List Int} (hp:okp p) (ha:El p n a) (hb:El p n b) {i j:Nat} (hi:i<n) (hj:j<n) (h1:i<a.length) (h2:j<a.length) (h3:i<b.length) (h4:j<b.length):
  sm (a[j] * b[i])∧sm (a[i] * b[j])∧sm (a[j] * b[i] - a[i] * b[j])∧sm (a[i] * b[j] - a[j] * b[i])∧a[j] * b[i] - a[i] * b[j]=-(coef a b i j)∧a[i] * b[j] - a[j] * b[i]=coef a b i j:=by
 have b1:=mul36 (ha.at hp j) (hb.at hp i);have b2:=mul36 (ha.at hp i) (hb.at hp j);unfold coef;rw [at_eq h2,at_eq h3]at b1
 rw [at_eq h1,at_eq h4]at b2
 rw [at_eq h1,at_eq h4,at_eq h2,at_eq h3];unfold sm;omega
theorem zIt {l l':Nat} {w w':Bool} {av bv:AV} {a b:List Int} (hs:PtrR σ s p vP vB) (hR:IsR vP vB W B) (o:OkW p n W) (q:OkB p n B) (ha:El p n a) (hb:El p n b) (hl:l=a.length) (hl':l'=b.length)
  (hk:ResI σ K (norm p W (bsum B a b n))):zA Tryz.prog 83 [.ptr s 0,.fz w av l (pis a),.fz w' bv l' (pis b)] σ K:=by
 subst hl;subst hl';have hn6:=o.le;have hal:=ha.1;have hbl:=hb.1;have hWl:=o.len;have hBl:=q.len;have hPP:=hR.P;obtain⟨⟨w1,a1,rP,rfl,hP⟩,⟨w3,a3,rB,rfl,hB⟩⟩:=hR;refine zA.gh ?_;have hne:¬s=σ.next:=Nat.ne_of_lt hs.lt;refine zD mix Tryz.func83 ?_;simp only [pwA,seval,-iQ0,zG hs.obj,hne,List.length_replicate,ZB,mk8 (n:=W.length) (by omega),mkL (n:=W.length) (by omega)]
 refine zF (fun m vs h'=>∃i:Nat,i≤n∧m=n-i∧vs=[.ptr s 0,.fz w av a.length (pis a),.fz w' bv b.length (pis b),.sl σ.next 0 W.length (.known W.length),.fz w3 a3 B.length rB,.int .i64 B.length,.int .i64 i]∧h'=σ.new (pis (bi B a b n i))) n ?_ ?_
 ·exact⟨0,by omega,by omega,rfl,by rw [bi,hWl]⟩
 ·rintro m vs h' ⟨i,hi,rfl,rfl,rfl⟩
  simp only [pwA,seval,-iQ0];refine iteI (fun hlt=>?_) fun hge=>?_
  ·obtain⟨w4,a4,rs,hr,hrs⟩:=hB.rowL hlt
   have hrow:=q.row i hlt;simp only [pwA,seval,-iQ0,hlt,hr];have hbil:=QE q (a:=a) (b:=b) hi;have hbib:=bi_bd q o.pr hn6 ha hb hi;have hgd:=zI hlt;refine zF (fun m vs h'=>∃k:Nat,k≤n-1-i∧m=n-1-i-k∧vs=[.ptr s 0,.fz w av a.length (pis a),.fz w' bv b.length (pis b),.sl σ.next 0 W.length (.known W.length),.int .i64 i,.fz w3 a3 B.length rB,.int .i64 B.length,.int .i64 i,
    .fz w4 a4 B[i].length rs,.int .i64 B[i].length,.int .i64 k]∧h'=σ.new (pis (bk (B.getD i []) a b i k (bi B a b n i)))) (n-1-i) ?_ ?_
   ·exact⟨0,by omega,by omega,rfl,rfl⟩
   ·rintro m vs h' ⟨k,hk',rfl,rfl,rfl⟩
    simp only [pwA,seval,-iQ0];refine iteI (fun hlt2=>?_) fun hge=>?_
    ·obtain⟨w5,a5,hrk⟩:=hrs.rowI hlt2
     have hj:i+(1+k)<a.length:=by omega
     have hj':i+(1+k)<b.length:=by omega
     have hia:i<a.length:=by omega
     have hib:i<b.length:=by omega
     obtain⟨f1,f2,f3,_,f4,_⟩:=zDs o.pr ha hb (i:=i) (j:=i+(1+k)) (by omega) (by omega) hia hj hib hj'
     have hent:=(q.ent i hlt k hlt2).1;have hacc:=QD q (a:=a) (b:=b) (by omega:i<n) hbil (k:=k) (by omega)
     have haccb:=bk_bd q o.pr ha hb (by omega:i<n) hbil hbib (k:=k) (by omega)
     simp only [pwA,seval,-iQ0,hlt2,hrk,hj,hj',hia,hib,gi hj,gi hj',gi hia,gi hib,zN,wrapS (n:=n) (i:=i) (by omega) (by omega),wrapA (a:=i+1) (b:=k) (by omega),f1.w,f2.w,f3.w]
     refine ZP (xs:=bk (B.getD i []) a b i k (bi B a b n i)) (by omega) rfl (by simp only [pwA,seval,-iQ0]) (by rw [hent.1];omega) (by omega) (fun t h1 h2=>?_) ?_
     ·have c1:=zGE o.pr ha hb hent i (i+(1+k)) t
      have c2:=haccb t;rw [at_eq h2]at c1
      rw [at_eq h1]at c2
      rw [f4,Int.neg_mul];unfold sm;omega
     ·simp only [pwA,seval,-iQ0,wrapS hlt2 (by omega:B[i].length≤4611686018427387904)]
      refine⟨_,by omega,k+1,by omega,rfl,rfl,?_⟩
      rw [f4,zFS,bk,zI (B:=B) hlt,zI (B:=B[i]) hlt2,Nat.add_assoc]
    ·have hkn:k=n-1-i:=by omega
     subst hkn;simp only [pwA,seval,-iQ0,wrapS hlt (by omega:B.length≤4611686018427387904)]
     exact⟨_,by omega,i+1,by omega,rfl,rfl,rfl⟩
  ·have hie:i=n:=by omega
   subst hie;exact(Qz hs hPP o (qL q) (zMW q o.pr hn6 ha hb) (by rw [qL q];exact hWl) (by simp [capOK]) hk).mono fun v σ' hg=>by simp only [pwA,seval,-iQ0];exact hg
theorem zAF (hp:okp p):El p n (List.replicate n 0):=⟨by simp,fun x hx=>by rw [List.eq_of_mem_replicate hx];have:=hp.1;omega⟩
theorem zl {l l':Nat} {w w':Bool} {av bv:AV} {a b:List Int} (hR:IsR vP vB W B) (o:OkW p n W) (q:OkB p n B) (ha:El p n a) (hb:El p n b) (hl:l=a.length) (hl':l'=b.length)
  (hk:∀v,K (.fz true v n (pis (norm p W (bsum B a b n)))) σ):zA Tryz.prog 55 [.agg [.int .i64 p,vP,vB],.fz w av l (pis a),.fz w' bv l' (pis b)] σ K:=by
 subst hl;subst hl';have hn6:=o.le;have hal:=ha.1;have hbl:=hb.1;have hWl:=o.len;have hBl:=q.len;have hR0:=hR;obtain⟨⟨w1,a1,rP,rfl,hP⟩,⟨w3,a3,rB,rfl,hB⟩⟩:=hR;refine zA.gh ?_;refine Z8 mix Tryz.func55 ?_;simp only [pwA,seval,-iQ0];refine QL hR0 hWl (by omega) fun v0=>?_
 simp only [pwA,seval,-iQ0];refine zF (fun m vs h'=>∃i:Nat,i≤n∧m=n-i∧∃v out,vs=[.fz w av a.length (pis a),.fz w' bv b.length (pis b),.ptr σ.next 0,.fz true v n (pis out),.int .i64 i]∧h'=σ.new [.int .i64 p,.fz w1 a1 W.length rP,.fz w3 a3 B.length rB]∧
  El p n out∧Eqv p n W (at_ out) (at_ (bi B a b n i))) n ?_ ?_
 ·exact⟨0,by omega,by omega,v0,_,rfl,rfl,zAF o.pr,Eqv.refl _⟩
 ·rintro m vs h' ⟨i,hi,rfl,v,out,rfl,rfl,hout,heqv⟩
  simp only [pwA,seval,-iQ0];refine iteI (fun hlt=>?_) fun hge=>?_
  ·have hiB:i<B.length:=by omega
   obtain⟨w4,a4,rs,hr,hrs⟩:=hB.rowL hiB;have hrow:=q.row i hiB;have hbil:=QE q (a:=a) (b:=b) hi;simp only [pwA,seval,-iQ0,wrapS (n:=n) (i:=i) (by omega) (by omega)]
   refine zF (fun m vs h'=>∃k:Nat,k≤n-1-i∧m=n-1-i-k∧∃v out,vs=[.fz w av a.length (pis a),.fz w' bv b.length (pis b),.ptr σ.next 0,.fz true v n (pis out),.int .i64 i,.int .i64 ((i+(1+k):Nat):Int)]∧h'=σ.new [.int .i64 p,.fz w1 a1 W.length rP,.fz w3 a3 B.length rB]∧
    El p n out∧Eqv p n W (at_ out) (at_ (bk (B.getD i []) a b i k (bi B a b n i)))) (n-1-i) ?_ ?_
   ·exact⟨0,by omega,by omega,v,out,rfl,rfl,hout,heqv⟩
   ·rintro m vs h' ⟨k,hk',rfl,v,out,rfl,rfl,hout,heqv⟩
    simp only [pwA,seval,-iQ0];refine iteI (fun hj=>?_) fun hge=>?_
    ·have hkB:k<B[i].length:=by omega
     obtain⟨w5,a5,hrk⟩:=hrs.rowI hkB;have hj':i+(1+k)<b.length:=by omega
     have hia:i<a.length:=by omega
     have hib:i<b.length:=by omega
     obtain⟨f1,f2,_,f3,_,f4⟩:=zDs o.pr ha hb (i:=i) (j:=i+(1+k)) (by omega) (by omega) hia hj hib hj'
     have hent:=(q.ent i hiB k hkB).1;have hcb:=zHo o.pr ha hb i (i+(1+k));have e1:IntKind.i64.wrap (((i+(1+k):Nat):Int)-(i:Int))=((1+k:Nat):Int):=by rw [wrap64 (by omega) (by omega)];omega
     have e2:IntKind.i64.wrap (((1+k:Nat):Int)-1)=(k:Int):=by rw [wrap64 (by omega) (by omega)];omega
     simp only [pwA,seval,-iQ0,hiB,hr,hkB,hrk,hj,hj',hia,hib,gi hj,gi hj',gi hia,gi hib,zN,f1.w,f2.w,f3.w,e1,e2];refine qm hR0 o hout hent hout.1.symm rfl (by decide) (by rw [f4];omega) fun v'=>?_
     have e3:IntKind.i64.wrap (((i+(1+k):Nat):Int)+1)=((i+(1+(k+1)):Nat):Int):=by rw [wrap64 (by omega) (by omega)];omega
     simp only [pwA,seval,-iQ0,e3];refine⟨_,by omega,k+1,by omega,rfl,v',_,rfl,Q9 o (by rw [zL (hout.1.trans hent.1.symm),hout.1]),?_⟩
     refine(zh o (by rw [zL (hout.1.trans hent.1.symm),hout.1])).trans ?_
     have hacc:=QD q (a:=a) (b:=b) (by omega:i<n) hbil (k:=k) (by omega)
     have hg:(B.getD i []).getD k []=B[i][k]:=by rw [zI (B:=B) hiB,zI (B:=B[i]) hkB]
     have h1:=heqv.add (Eqv.refl (p:=p) (n:=n) (W:=W) (fun j=>coef a b i (i+(1+k))*at_ B[i][k] j))
     refine(Eqv.of_eq fun j=>?_).trans (h1.trans (Eqv.of_eq fun j=>?_))
     ·rw [zq (hout.1.trans hent.1.symm),f4];omega
     ·rw [bk,Zr (by rw [hacc,hg,hent.1]),hg,Nat.add_assoc]
    ·have hkn:k=n-1-i:=by omega
     subst hkn;simp only [pwA,seval,-iQ0,wrapS hlt (by omega:a.length≤4611686018427387904)]
     exact⟨_,by omega,i+1,by omega,rfl,v,out,rfl,hout,heqv⟩
  ·have hie:i=n:=by omega
   subst hie
   have:out=norm p W (bsum B a b i):=qi o hout.1 (zw o (qL q)) hout.2 (ZH o (qL q)) (heqv.trans (zh o (qL q)).symm)
   rw [this];exact Gh.fin0 (zC σ _) trivial (hk v)
end Go.Proofs
namespace Go.Proofs
open Go.Ab Go.Lie
variable {σ:PHeap} {K:PV→PHeap→Prop} {p:Int} {n:Nat} {W:List (List Int)} {B:List (List (List Int))} {vP vB:PV} {s:Nat}
structure SzR (W:List (List Int)) (B:List (List (List Int))):Prop where
 Wl:W.length≤1048576
 w:∀r∈W,r.length≤1048576
 Bl:B.length≤1048576
 b:∀q∈B,q.length≤1048576
 c:∀q∈B,∀r∈q,r.length≤1048576
def entOK (p:Int) (n k:Nat) (v:List Int):Prop:=isVec v p n∧isZ (v.take k)
def rowOK (p:Int) (n:Nat) (W:List (List Int)) (B:List (List (List Int))) (i:Nat):Prop:=
 entOK p n (i+1) (W.getD i [])∧(B.getD i []).length=n-1-i∧∀k,k<n-1-i→entOK p n (i+k+2) ((B.getD i []).getD k [])
def qx (p:Int) (W:List (List Int)) (B:List (List (List Int))):Prop:=
 isP p∧W.length≤6∧B.length=W.length∧ipow p W.length≤729∧∀i,i<W.length→rowOK p W.length W B i
theorem entOK.el {k:Nat} {v:List Int} (h:entOK p n k v):El p n v∧∀j,j<k→at_ v j=0:=by
 refine⟨⟨by have:=h.1.1;omega,h.1.2⟩,fun j hj=>?_⟩
 rcases Nat.lt_or_ge j v.length with x|x
 ·rw [at_eq x]
  exact h.2 _ (by rw [List.mem_take_iff_getElem];exact⟨j,by omega,rfl⟩)
 ·exact at_ge x
theorem qx.w (h:qx p W B):OkW p W.length W:=by
 obtain⟨h1,h2,h3,h4,h5⟩:=h;refine⟨h1.bd,h2,rfl,fun i hi=>?_⟩
 obtain⟨a,b⟩:=(h5 i hi).1.el;rw [qW hi]at a b
 exact⟨a.1,a.2,fun j hj=>b j (by omega)⟩
theorem qx.b (h:qx p W B):OkB p W.length B:=by
 obtain⟨h1,h2,h3,h4,h5⟩:=h;have hr:∀i (h:i<B.length),B[i].length=W.length-1-i:=fun i hi=>by have:=(h5 i (by omega)).2.1;rwa [zI hi]at this
 refine⟨h3,hr,fun i hi k hk=>?_⟩
 obtain⟨a,b⟩:=((h5 i (by omega)).2.2 k (by rw [←hr i hi];exact hk)).el
 rw [zI hi,zI hk]at a b
 exact⟨a,fun j hj=>b j (by omega)⟩
theorem QP {l:Nat} {w:Bool} {a:AV} {xs:List Int} (hs:PtrR σ s p vP vB) (hP:FII vP W) (hl:l=xs.length) (hb:xs.length≤1048576) (hp:isP p) (hk:K (.bool (decide (isVec xs p W.length))) σ):
  zA Tryz.prog 61 [.ptr s 0,.fz w a l (pis xs)] σ K:=by
 have hpb:=hp.bd;obtain⟨w1,a1,rP,rfl,hP⟩:=hP;refine zD mix Tryz.func61 ?_;simp only [pwA,seval,-iQ0,zG hs.obj];refine zHH hl (by omega) (by omega) (by omega) ?_
 simp only [pwA,seval,-iQ0];exact hk
theorem zFI (hR:IsR vP vB W B) (sz:SzR W B) (hk:∀t:Bool,(t=true↔qx p W B)→K (.bool t) σ):zA Tryz.prog 65 [.agg [.int .i64 p,vP,vB]] σ K:=by
 have hFP:=hR.P;have hFB:=hR.B;obtain⟨⟨w1,a1,rP,rfl,hP⟩,⟨w3,a3,rB,rfl,hB⟩⟩:=hR;refine zA.gh ?_;have fin:∀{t:Bool} {σ':PHeap},(t=true↔qx p W B)→Keep σ σ'→Gh σ K (.bool t) σ':=fun h k=>Gh.fin0 k trivial (hk _ h)
 have no:∀{σ':PHeap},¬qx p W B→Keep σ σ'→Gh σ K (.bool false) σ':=fun h k=>fin ⟨fun x=>(by cases x),fun x=>absurd x h⟩ k
 have hkp:=zC σ [.int .i64 p,.fz w1 a1 W.length rP,.fz w3 a3 B.length rB];have hpt:PtrR (σ.new [.int .i64 p,.fz w1 a1 W.length rP,.fz w3 a3 B.length rB]) σ.next p (.fz w1 a1 W.length rP) (.fz w3 a3 B.length rB):=⟨by simp only [pwA,seval,-iQ0],by simp only [pwA,seval,-iQ0]⟩
 refine zD mix Tryz.func65 ?_
 by_cases h6:W.length≤6
 ·have h6':¬(6:Int)<(W.length:Int):=by omega
  by_cases hBl:B.length=W.length
  ·have hBl':(B.length:Int)=(W.length:Int):=by omega
   simp only [pwA,seval,-iQ0,h6',hBl'];refine zD0 ?_
   by_cases hp:isP p
   ·simp only [pwA,seval,-iQ0,hp]
    refine QQ hp.bd h6 ?_
    by_cases ho:ipow p W.length≤729
    ·have ho':¬(729:Int)<ipow p W.length:=by omega
     simp only [pwA,seval,-iQ0,ho'];refine zF (fun m vs h'=>∃i:Nat,i≤W.length∧m=W.length-i∧vs=[.ptr σ.next 0,.int .i64 W.length,.fz w1 a1 W.length rP,.int .i64 W.length,.int .i64 i]∧h'=σ.new [.int .i64 p,.fz w1 a1 W.length rP,.fz w3 a3 B.length rB]∧∀j,j<i→rowOK p W.length W B j) W.length ?_ ?_
     ·exact⟨0,by omega,by omega,rfl,rfl,fun j hj=>by omega⟩
     ·rintro m vs h' ⟨i,hi,rfl,rfl,rfl,hall⟩
      simp only [pwA,seval,-iQ0];refine iteI (fun hlt=>?_) fun hge=>?_
      ·obtain⟨w4,a4,hr⟩:=hP.rowI hlt
       have hiB:i<B.length:=by omega
       obtain⟨w5,a5,rs,hrb,hrs⟩:=hB.rowL hiB;have hwl:=sz.w _ (List.getElem_mem hlt);have hbl:=sz.b _ (List.getElem_mem hiB);have bad:(isVec W[i] p W.length→isZ (W[i].take (i+1))→B[i].length=W.length-1-i→(∀k (h:k<B[i].length),entOK p W.length (i+k+2) B[i][k])→False)→¬qx p W B:=fun hb hsh=>by
        obtain⟨⟨q1,q2⟩,q3,q4⟩:=hsh.2.2.2.2 i hlt;rw [qW hlt]at q1 q2
        rw [zI hiB]at q3
        refine hb q1 q2 q3 fun k h=>?_
        have:=q4 k (by omega)
        rwa [zI hiB,zI h]at this
       simp only [pwA,seval,-iQ0,hlt,hr];refine QP hpt hFP rfl hwl hp ?_
       by_cases hv:isVec W[i] p W.length
       ·have hle:((i:Int)+1≤(W[i].length:Int)):=by have:=hv.1;omega
        have hnn:(0:Int)≤((i+1:Nat):Int):=by omega
        have hle2:((i+1:Nat):Int)≤(W[i].length:Int):=by omega
        simp only [pwA,seval,-iQ0,hv,wrapS hlt (by omega:W.length≤4611686018427387904),hle2,zFg,Nat.sub_zero]
        refine Qk (by simp;omega) (by simp;omega) ?_
        by_cases hz:isZ (W[i].take (i+1))
        ·have e1:IntKind.i64.wrap ((W.length:Int)-1)=(W.length:Int)-1:=wrap64 (by omega) (by omega)
         have e2:IntKind.i64.wrap ((W.length:Int)-1-(i:Int))=(W.length:Int)-1-(i:Int):=wrap64 (by omega) (by omega)
         by_cases hlen:B[i].length=W.length-1-i
         ·have hlen':(B[i].length:Int)=(W.length:Int)-1-(i:Int):=by omega
          simp only [pwA,seval,-iQ0,hz,hlt,hiB,hrb,e1,e2,eq_true hlen'];refine zF (fun m vs h'=>∃k:Nat,k≤B[i].length∧m=B[i].length-k∧vs=[.ptr σ.next 0,.int .i64 W.length,.int .i64 i,.fz w1 a1 W.length rP,.int .i64 W.length,.int .i64 i,.fz w5 a5 B[i].length rs,.int .i64 B[i].length,.int .i64 k]∧
           h'=σ.new [.int .i64 p,.fz w1 a1 W.length rP,.fz w3 a3 B.length rB]∧∀j (h:j<B[i].length),j<k→entOK p W.length (i+j+2) B[i][j]) B[i].length ?_ ?_
          ·exact⟨0,by omega,by omega,rfl,rfl,fun j h hj=>by omega⟩
          ·rintro m vs h' ⟨k,hk',rfl,rfl,rfl,hall2⟩
           simp only [pwA,seval,-iQ0];refine iteI (fun hlt2=>?_) fun hge=>?_
           ·obtain⟨w6,a6,hrk⟩:=hrs.rowI hlt2
            have hcl:=sz.c _ (List.getElem_mem hiB) _ (List.getElem_mem hlt2);simp only [pwA,seval,-iQ0,hlt2,hrk];refine QP hpt hFP rfl hcl hp ?_
            by_cases hv2:isVec B[i][k] p W.length
            ·have e3:IntKind.i64.wrap ((i:Int)+(k:Int))=((i+k:Nat):Int):=wrapA (by omega)
             have e4:IntKind.i64.wrap (((i+k:Nat):Int)+2)=((i+k+2:Nat):Int):=wrap64 (by omega) (by omega)
             have hle3:((i+(k+2):Nat):Int)≤(B[i][k].length:Int):=by have:=hv2.1;omega
             simp only [pwA,seval,-iQ0,hv2,e3,e4,hle3,zFg,Nat.sub_zero];refine Qk (by simp;omega) (by simp;omega) ?_
             by_cases hz2:isZ (B[i][k].take (i+(k+2)))
             ·simp only [pwA,seval,-iQ0,hz2,wrapS hlt2 (by omega:B[i].length≤4611686018427387904)]
              refine⟨_,by omega,k+1,by omega,rfl,rfl,fun j h hj=>?_⟩
              by_cases e:j=k
              ·subst e;exact⟨hv2,hz2⟩
              ·exact hall2 j h (by omega)
             ·simp only [pwA,seval,-iQ0,hz2]
              exact no (bad fun _ _ _ q=>hz2 (q k hlt2).2) hkp
            ·simp only [pwA,seval,-iQ0,hv2]
             exact no (bad fun _ _ _ q=>hv2 (q k hlt2).1) hkp
           ·simp only [pwA,seval,-iQ0,wrapS hlt (by omega:W.length≤4611686018427387904)]
            refine⟨_,by omega,i+1,by omega,rfl,rfl,fun j hj=>?_⟩
            by_cases e:j=i
            ·subst e
             refine⟨by rw [qW hlt];exact⟨hv,hz⟩,by rw [zI hiB];exact hlen,fun t ht=>?_⟩
             rw [zI hiB,zI (by omega:t<B[j].length)]
             exact hall2 t (by omega) (by omega)
            ·exact hall j (by omega)
         ·have hlen':¬(B[i].length:Int)=(W.length:Int)-1-(i:Int):=by omega
          simp only [pwA,seval,-iQ0,hz,hlt,hiB,hrb,e1,e2,hlen'];exact no (bad fun _ _ q _=>hlen q) hkp
        ·simp only [pwA,seval,-iQ0,hz]
         exact no (bad fun _ q _ _=>hz q) hkp
       ·simp only [pwA,seval,-iQ0,hv]
        exact no (bad fun q _ _ _=>hv q) hkp
      ·exact fin ⟨fun _=>⟨hp,h6,hBl,ho,fun j hj=>hall j (by omega)⟩,fun _=>rfl⟩ hkp
    ·have ho':(729:Int)<ipow p W.length:=by omega
     simp only [pwA,seval,-iQ0,ho'];exact no (fun h=>ho h.2.2.2.1) hkp
   ·simp only [pwA,seval,-iQ0,hp]
    exact no (fun h=>hp h.1) hkp
  ·have hBl':¬(B.length:Int)=(W.length:Int):=by omega
   simp only [pwA,seval,-iQ0,h6',hBl'];exact no (fun h=>hBl h.2.2.1) hkp
 ·have h6':(6:Int)<(W.length:Int):=by omega
  simp only [pwA,seval,-iQ0,h6'];exact no (fun h=>h6 h.2.1) hkp
end Go.Proofs
namespace Go.Proofs
open Go.Ab Go.Lie
variable {σ:PHeap} {K:PV→PHeap→Prop} {p:Int} {n:Nat} {W:List (List Int)} {B:List (List (List Int))} {vP vB:PV} {s:Nat}
theorem zHC (hR:IsR vP vB W B) (sz:SzR W B) (hk:∀t:Bool,(t=true↔qx p W B)→K (.bool t) σ):zA Tryz.prog 50 [.agg [.int .i64 p,vP,vB]] σ K:=by
 obtain⟨⟨w1,a1,rP,rfl,hP⟩,⟨w3,a3,rB,rfl,hB⟩⟩:=hR;refine zA.gh ?_;have fin:∀{t:Bool} {σ':PHeap},(t=true↔qx p W B)→Keep σ σ'→Gh σ K (.bool t) σ':=fun h k=>Gh.fin0 k trivial (hk _ h)
 have no:∀{σ':PHeap},¬qx p W B→Keep σ σ'→Gh σ K (.bool false) σ':=fun h k=>fin ⟨fun x=>(by cases x),fun x=>absurd x h⟩ k
 have hkp:=zC σ [.int .i64 p,.fz w1 a1 W.length rP,.fz w3 a3 B.length rB];refine Z8 mix Tryz.func50 ?_;simp only [pwA,seval,-iQ0];refine zHG ?_
 by_cases hp:isP p
 rotate_left
 ·simp only [pwA,seval,-iQ0,hp]
  exact no (fun h=>hp h.1) hkp
 by_cases h6:W.length≤6
 rotate_left
 ·have h6':(6:Int)<(W.length:Int):=by omega
  simp only [pwA,seval,-iQ0,hp,h6'];exact no (fun h=>h6 h.2.1) hkp
 have h6':¬(6:Int)<(W.length:Int):=by omega
 by_cases hBl:B.length=W.length
 rotate_left
 ·have hBl':¬(B.length:Int)=(W.length:Int):=by omega
  simp only [pwA,seval,-iQ0,hp,h6',hBl'];exact no (fun h=>hBl h.2.2.1) hkp
 have hBl':(B.length:Int)=(W.length:Int):=by omega
 have hpb:=hp.bd;simp only [pwA,seval,-iQ0,hp,h6',eq_true hBl'];refine zBG hp.bd h6 fun o k1 k2 k3 k4=>?_
 by_cases ho:ipow p W.length≤729
 rotate_left
 ·have ho':(729:Int)<o:=by rcases Int.lt_or_le 729 o with x | x;exact x;exact absurd (k1.1 x) ho
  simp only [pwA,seval,-iQ0,ho'];exact no (fun h=>ho h.2.2.2.1) hkp
 have ho':¬(729:Int)<o:=by have:=k1.2 ho;omega
 simp only [pwA,seval,-iQ0,ho'];refine zF (fun m vs h'=>∃i:Nat,i≤W.length∧m=W.length-i∧vs=[.ptr σ.next 0,.int .i64 W.length,.int .i64 i]∧h'=σ.new [.int .i64 p,.fz w1 a1 W.length rP,.fz w3 a3 B.length rB]∧∀j,j<i→rowOK p W.length W B j) W.length ?_ ?_
 ·exact⟨0,by omega,by omega,rfl,rfl,fun j hj=>by omega⟩
 ·rintro m vs h' ⟨i,hi,rfl,rfl,rfl,hall⟩
  simp only [pwA,seval,-iQ0];refine iteI (fun hlt=>?_) fun hge=>?_
  rotate_left
  ·exact fin ⟨fun _=>⟨hp,h6,hBl,ho,fun j hj=>hall j (by omega)⟩,fun _=>rfl⟩ hkp
  obtain⟨w4,a4,hr⟩:=hP.rowI hlt;have hiB:i<B.length:=by omega
  obtain⟨w5,a5,rs,hrb,hrs⟩:=hB.rowL hiB;have hwl:=sz.w _ (List.getElem_mem hlt);have hbl:=sz.b _ (List.getElem_mem hiB);have bad:(isVec W[i] p W.length→isZ (W[i].take (i+1))→B[i].length=W.length-1-i→(∀k (h:k<B[i].length),entOK p W.length (i+k+2) B[i][k])→False)→¬qx p W B:=fun hb hsh=>by
   obtain⟨⟨q1,q2⟩,q3,q4⟩:=hsh.2.2.2.2 i hlt;rw [qW hlt]at q1 q2
   rw [zI hiB]at q3
   refine hb q1 q2 q3 fun k h=>?_
   have:=q4 k (by omega)
   rwa [zI hiB,zI h]at this
  simp only [pwA,seval,-iQ0,hlt,hr];refine zC0 rfl (by omega) (by omega) (by omega) ?_
  by_cases hv:isVec W[i] p W.length
  rotate_left
  ·simp only [pwA,seval,-iQ0,hv]
   exact no (bad fun q _ _ _=>hv q) hkp
  have hvl:W[i].length=W.length:=by have:=hv.1;omega
  simp only [pwA,seval,-iQ0,hv,hlt,hr];refine zCc rfl (by omega) (by omega) ?_
  by_cases hz:isZ (W[i].take (i+1))
  rotate_left
  ·simp only [pwA,seval,-iQ0,hz]
   exact no (bad fun _ q _ _=>hz q) hkp
  have e1:IntKind.i64.wrap ((W.length:Int)-1)=(W.length:Int)-1:=wrap64 (by omega) (by omega)
  have e2:IntKind.i64.wrap ((W.length:Int)-1-(i:Int))=(W.length:Int)-1-(i:Int):=wrap64 (by omega) (by omega)
  by_cases hlen:B[i].length=W.length-1-i
  rotate_left
  ·have hlen':¬(B[i].length:Int)=(W.length:Int)-1-(i:Int):=by omega
   simp only [pwA,seval,-iQ0,hz,hlt,hiB,hrb,e1,e2,hlen'];exact no (bad fun _ _ q _=>hlen q) hkp
  have hlen':(B[i].length:Int)=(W.length:Int)-1-(i:Int):=by omega
  simp only [pwA,seval,-iQ0,hz,hlt,hiB,hrb,e1,e2,eq_true hlen',wrapS hlt (by omega:W.length≤4611686018427387904)]
  refine zF (fun m vs h'=>∃k:Nat,k≤B[i].length∧m=B[i].length-k∧vs=[.ptr σ.next 0,.int .i64 W.length,.int .i64 i,.int .i64 ((i+(1+k):Nat):Int)]∧
   h'=σ.new [.int .i64 p,.fz w1 a1 W.length rP,.fz w3 a3 B.length rB]∧∀j (h:j<B[i].length),j<k→entOK p W.length (i+j+2) B[i][j]) B[i].length ?_ ?_
  ·exact⟨0,by omega,by omega,rfl,rfl,fun j h hj=>by omega⟩
  ·rintro m vs h' ⟨k,hk',rfl,rfl,rfl,hall2⟩
   simp only [pwA,seval,-iQ0];refine iteI (fun hj=>?_) fun hge=>?_
   rotate_left
   ·simp only [pwA,seval,-iQ0,wrapS hlt (by omega:W.length≤4611686018427387904)]
    refine⟨_,by omega,i+1,by omega,rfl,rfl,fun j hj=>?_⟩
    by_cases e:j=i
    ·subst e
     refine⟨by rw [qW hlt];exact⟨hv,hz⟩,by rw [zI hiB];exact hlen,fun t ht=>?_⟩
     rw [zI hiB,zI (by omega:t<B[j].length)]
     exact hall2 t (by omega) (by omega)
    ·exact hall j (by omega)
   have hlt2:k<B[i].length:=by omega
   obtain⟨w6,a6,hrk⟩:=hrs.rowI hlt2;have hcl:=sz.c _ (List.getElem_mem hiB) _ (List.getElem_mem hlt2);have e3:IntKind.i64.wrap (((i+(1+k):Nat):Int)-(i:Int))=((1+k:Nat):Int):=by rw [wrap64 (by omega) (by omega)];omega
   have e4:IntKind.i64.wrap (((1+k:Nat):Int)-1)=(k:Int):=by rw [wrap64 (by omega) (by omega)];omega
   simp only [pwA,seval,-iQ0,hiB,hrb,e3,e4,hlt2,hrk];refine zC0 rfl (by omega) (by omega) (by omega) ?_
   by_cases hv2:isVec B[i][k] p W.length
   rotate_left
   ·simp only [pwA,seval,-iQ0,hv2]
    exact no (bad fun _ _ _ q=>hv2 (q k hlt2).1) hkp
   have hvl2:B[i][k].length=W.length:=by have:=hv2.1;omega
   simp only [pwA,seval,-iQ0,hv2];refine zCc rfl (by omega) (by omega) ?_
   have ek:i+(1+k)+1=i+(k+2):=by omega
   rw [ek]
   by_cases hz2:isZ (B[i][k].take (i+(k+2)))
   rotate_left
   ·simp only [pwA,seval,-iQ0,hz2]
    exact no (bad fun _ _ _ q=>hz2 (q k hlt2).2) hkp
   have e5:IntKind.i64.wrap (((i+(1+k):Nat):Int)+1)=((i+(1+(k+1)):Nat):Int):=by rw [wrap64 (by omega) (by omega)];omega
   simp only [pwA,seval,-iQ0,hz2,e5];refine⟨_,by omega,k+1,by omega,rfl,rfl,fun j h hj=>?_⟩
   by_cases e:j=k
   ·subst e;exact⟨hv2,hz2⟩
   ·exact hall2 j h (by omega)
end Go.Proofs
namespace Go.Proofs
open Go.Ab Go.Lie
variable {σ:PHeap} {K:PV→PHeap→Prop} {p:Int} {n:Nat} {W:List (List Int)} {B:List (List (List Int))} {vP vB:PV} {s:Nat}
abbrev br (p:Int) (W:List (List Int)) (B:List (List (List Int))) (n:Nat) (a b:List Int):List Int:=norm p W (bsum B a b n)
abbrev ladd (p:Int) (W:List (List Int)) (a b:List Int):List Int:=norm p W (lmix 1 a 1 b)
abbrev lmul (p:Int) (W:List (List Int)) (k:Int) (a:List Int):List Int:=norm p W (lmix k a 0 a)
theorem br_el (o:OkW p n W) (q:OkB p n B) {a b:List Int}:El p n (br p W B n a b):=Q9 o (qL q)
theorem zO (o:OkW p n W) {k m:Int} {a b:List Int} (ha:El p n a) (hb:El p n b):El p n (norm p W (lmix k a m b)):=Q9 o (by rw [zL (ha.1.trans hb.1.symm)];exact ha.1)
theorem qV (hp:okp p) {k:Nat} (hk:k<n):El p n (unitL n k):=⟨zk n k,fun x hx=>by
 have:=hp.1
 rcases List.mem_or_eq_of_mem_set hx with h|h
 ·rw [List.eq_of_mem_replicate h];omega
 ·omega⟩
def F1 (p:Int) (W:List (List Int)) (B:List (List (List Int))) (n i j:Nat):Prop:=lmul p W p (br p W B n (unitL n i) (unitL n j))=br p W B n (W.getD i []) (unitL n j)
def F2 (p:Int) (W:List (List Int)) (B:List (List (List Int))) (n i j k:Nat):Prop:=
 isZ (ladd p W (ladd p W (br p W B n (br p W B n (unitL n i) (unitL n j)) (unitL n k)) (br p W B n (br p W B n (unitL n j) (unitL n k)) (unitL n i))) (br p W B n (br p W B n (unitL n k) (unitL n i)) (unitL n j)))
def Zj (p:Int) (W:List (List Int)) (B:List (List (List Int))) (n:Nat):Prop:=(∀i j,i<n→j<n→F1 p W B n i j)∧∀i j k,i<j→j<k→k<n→F2 p W B n i j k
theorem q9 {k:Nat} (hn:n≤1048576) (hkn:k<n) (hk:∀a,K (.fz true a n (pis (unitL n k))) σ):zA Tryz.prog 97 [.int .i64 n,.int .i64 k] σ K:=
 zA.fz (fun K'=>zEy hn hkn) (zZ _ _) fun o cap=>hk _
theorem qY {l l':Nat} {w w':Bool} {av bv:AV} {a b:List Int} (hs:PtrR σ s p vP vB) (hR:IsR vP vB W B) (o:OkW p n W) (q:OkB p n B) (ha:El p n a) (hb:El p n b) (hl:l=a.length) (hl':l'=b.length)
  (hk:∀v,K (.fz true v n (pis (br p W B n a b))) σ):zA Tryz.prog 83 [.ptr s 0,.fz w av l (pis a),.fz w' bv l' (pis b)] σ K:=
 zA.fzN (br_el o q).1 (fun K'=>zIt hs hR o q ha hb hl hl') hk
theorem zAj {l l':Nat} {w w':Bool} {av bv:AV} {a b:List Int} (hs:PtrR σ s p vP vB) (hP:FII vP W) (o:OkW p n W) (ha:El p n a) (hb:El p n b) (hl:l=a.length) (hl':l'=b.length)
  (hk:∀v,K (.fz true v n (pis (ladd p W a b))) σ):zA Tryz.prog 46 [.ptr s 0,.fz w av l (pis a),.fz w' bv l' (pis b)] σ K:=
 zA.fzN (zO o ha hb).1 (fun K'=>zKJ hs hP o ha hb hl hl') hk
theorem Zc {l:Nat} {w:Bool} {av:AV} {k:Int} {a:List Int} (hs:PtrR σ s p vP vB) (hP:FII vP W) (o:OkW p n W) (ha:El p n a) (hl:l=a.length) (hkb:-1000000000≤k∧k≤1000000000)
  (hk:∀v,K (.fz true v n (pis (lmul p W k a))) σ):zA Tryz.prog 47 [.ptr s 0,.int .i64 k,.fz w av l (pis a)] σ K:=
 zA.fzN (zO o ha ha).1 (fun K'=>zCL hs hP o ha hl hkb) hk
theorem zBY (o:OkW p n W) {i:Nat} (hi:i<W.length):El p n W[i]:=⟨(o.row i hi).1,(o.row i hi).2.1⟩
theorem zG6 (hs:PtrR σ s p vP vB) (hR:IsR vP vB W B) (o:OkW p n W) (q:OkB p n B) (hk:∀kind i j k:Int,(kind=0↔Zj p W B n)→K (.tup [.int .i64 kind,.int .i64 i,.int .i64 j,.int .i64 k]) σ):zA Tryz.prog 66 [.ptr s 0] σ K:=by
 have hn6:=o.le;have hWl:=o.len;have hp:=o.pr;have hR0:=hR;have hPP:=hR.P;obtain⟨⟨w1,a1,rP,rfl,hP⟩,⟨w3,a3,rB,rfl,hB⟩⟩:=hR;have hpk:-1000000000≤p∧p≤1000000000:=by unfold okp at hp;omega
 subst hWl;refine zD mix Tryz.func66 ?_;simp only [pwA,seval,-iQ0,zG hs.obj];refine zF (fun m vs h'=>∃i:Nat,i≤W.length∧m=W.length-i∧vs=[.ptr s 0,.int .i64 W.length,.int .i64 W.length,.int .i64 i]∧σ=h'∧∀i' j',i'<i→j'<W.length→F1 p W B W.length i' j') W.length ?_ ?_
 ·exact⟨0,by omega,by omega,rfl,rfl,fun i' j' h=>by omega⟩
 rintro m vs h' ⟨i,hi,rfl,rfl,rfl,hall⟩
 simp only [pwA,seval,-iQ0];refine iteI (fun hlt=>?_) fun hge=>?_
 ·refine zF (fun m vs h'=>∃j:Nat,j≤W.length∧m=W.length-j∧vs=[.ptr s 0,.int .i64 W.length,.int .i64 i,.int .i64 W.length,.int .i64 i,.int .i64 W.length,.int .i64 j]∧σ=h'∧∀j',j'<j→F1 p W B W.length i j') W.length ?_ ?_
  ·exact⟨0,by omega,by omega,rfl,rfl,fun j' h=>by omega⟩
  rintro m vs h' ⟨j,hj,rfl,rfl,rfl,hall2⟩
  simp only [pwA,seval,-iQ0];refine iteI (fun hlt2=>?_) fun hge=>?_
  ·have ei:=qV hp hlt
   have ej:=qV hp hlt2;have eb:=br_el o q (a:=unitL W.length i) (b:=unitL W.length j);obtain⟨w4,a4,hr⟩:=hP.rowI hlt;have er:=zBY o hlt;refine q9 (by omega) hlt fun v1=>?_
   simp only [pwA,seval,-iQ0];refine q9 (by omega) hlt2 fun v2=>?_
   simp only [pwA,seval,-iQ0,zG hs.obj,hlt,hr];refine qY hs hR0 o q ei ej (zk _ _).symm (zk _ _).symm fun v3=>?_
   simp only [pwA,seval,-iQ0,zG hs.obj,hlt,hr];refine Zc hs hPP o eb eb.1.symm hpk fun v4=>?_
   simp only [pwA,seval,-iQ0,zG hs.obj,hlt,hr];refine qY hs hR0 o q er ej rfl (zk _ _).symm fun v5=>?_
   simp only [pwA,seval,-iQ0];refine zBN (zO o eb eb).1.symm (br_el o q).1.symm (by rw [(zO o eb eb).1];omega) ?_
   have hF:(lmul p W p (br p W B W.length (unitL W.length i) (unitL W.length j))=br p W B W.length W[i] (unitL W.length j))↔F1 p W B W.length i j:=by unfold F1;rw [qW hlt]
   by_cases hf:lmul p W p (br p W B W.length (unitL W.length i) (unitL W.length j))=br p W B W.length W[i] (unitL W.length j)
   ·simp only [pwA,seval,-iQ0,eq_true hf,wrapS hlt2 (by omega:W.length≤4611686018427387904)]
    refine⟨_,by omega,j+1,by omega,rfl,rfl,fun j' h=>?_⟩
    by_cases e:j'=j
    ·subst e;exact hF.1 hf
    ·exact hall2 j' (by omega)
   ·simp only [pwA,seval,-iQ0,hf]
    exact hk _ _ _ _ ⟨fun x=>by omega,fun x=>absurd (hF.2 (x.1 i j hlt hlt2)) hf⟩
  ·simp only [pwA,seval,-iQ0,wrapS hlt (by omega:W.length≤4611686018427387904)]
   refine⟨_,by omega,i+1,by omega,rfl,rfl,fun i' j' h h'=>?_⟩
   by_cases e:i'=i
   ·subst e;exact hall2 j' (by omega)
   ·exact hall i' j' (by omega) h'
 have hall:∀i j,i<W.length→j<W.length→F1 p W B W.length i j:=fun i' j' h h'=>hall i' j' (by omega) h'
 clear hge hi;refine zF (fun m vs h'=>∃i:Nat,i≤W.length∧m=W.length-i∧vs=[.ptr s 0,.int .i64 W.length,.int .i64 W.length,.int .i64 i]∧σ=h'∧∀i' j k,i'<i→i'<j→j<k→k<W.length→F2 p W B W.length i' j k) W.length ?_ ?_
 ·exact⟨0,by omega,by omega,rfl,rfl,fun i' j k h=>by omega⟩
 rintro m vs h' ⟨i,hi,rfl,rfl,rfl,hal1⟩
 simp only [pwA,seval,-iQ0];refine iteI (fun hlt=>?_) fun hge=>?_
 rotate_left
 ·exact hk _ _ _ _ ⟨fun _=>⟨hall,fun i j k h1 h2 h3=>hal1 i j k (by omega) h1 h2 h3⟩,fun _=>rfl⟩
 simp only [pwA,seval,-iQ0,wrapS hlt (by omega:W.length≤4611686018427387904)]
 refine zF (fun m vs h'=>∃j:Nat,i+1≤j∧j≤W.length∧m=W.length-j∧vs=[.ptr s 0,.int .i64 W.length,.int .i64 i,.int .i64 j,.int .i64 W.length,.int .i64 i]∧σ=h'∧∀j' k,i<j'→j'<j→j'<k→k<W.length→F2 p W B W.length i j' k) (W.length-(i+1)) ?_ ?_
 ·exact⟨i+1,by omega,by omega,by omega,rfl,rfl,fun j' k h1 h2=>by omega⟩
 rintro m vs h' ⟨j,hij,hj,rfl,rfl,rfl,hal2⟩
 simp only [pwA,seval,-iQ0];refine iteI (fun hlt2=>?_) fun hge=>?_
 rotate_left
 ·simp only [pwA,seval,-iQ0,wrapS hlt (by omega:W.length≤4611686018427387904)]
  refine⟨_,by omega,i+1,by omega,rfl,rfl,fun i' j' k h1 h2 h3 h4=>?_⟩
  by_cases e:i'=i
  ·subst e;exact hal2 j' k h2 (by omega) h3 h4
  ·exact hal1 i' j' k (by omega) h2 h3 h4
 simp only [pwA,seval,-iQ0,wrapS hlt2 (by omega:W.length≤4611686018427387904)]
 refine zF (fun m vs h'=>∃k:Nat,j+1≤k∧k≤W.length∧m=W.length-k∧vs=[.ptr s 0,.int .i64 W.length,.int .i64 i,.int .i64 j,.int .i64 k,.int .i64 W.length,.int .i64 i]∧σ=h'∧∀k',j<k'→k'<k→F2 p W B W.length i j k') (W.length-(j+1)) ?_ ?_
 ·exact⟨j+1,by omega,by omega,by omega,rfl,rfl,fun k' h1 h2=>by omega⟩
 rintro m vs h' ⟨k,hjk,hk',rfl,rfl,rfl,hal3⟩
 simp only [pwA,seval,-iQ0];refine iteI (fun hlt3=>?_) fun hge=>?_
 rotate_left
 ·simp only [pwA,seval,-iQ0,wrapS hlt2 (by omega:W.length≤4611686018427387904)]
  refine⟨_,by omega,j+1,by omega,by omega,rfl,rfl,fun j' k' h1 h2 h3 h4=>?_⟩
  by_cases e:j'=j
  ·subst e;exact hal3 k' h3 (by omega)
  ·exact hal2 j' k' h1 (by omega) h3 h4
 have ei:=qV hp hlt;have ej:=qV hp hlt2;have ek:=qV hp hlt3;have bb:∀a b,El p W.length (br p W B W.length a b):=fun a b=>br_el o q
 refine q9 (by omega) hlt fun v1=>?_
 simp only [pwA,seval,-iQ0];refine q9 (by omega) hlt2 fun v2=>?_
 simp only [pwA,seval,-iQ0];refine q9 (by omega) hlt3 fun v3=>?_
 simp only [pwA,seval,-iQ0];refine qY hs hR0 o q ei ej ei.1.symm ej.1.symm fun v4=>?_
 simp only [pwA,seval,-iQ0];refine qY hs hR0 o q (bb _ _) ek (bb _ _).1.symm ek.1.symm fun v5=>?_
 simp only [pwA,seval,-iQ0];refine qY hs hR0 o q ej ek ej.1.symm ek.1.symm fun v6=>?_
 simp only [pwA,seval,-iQ0];refine qY hs hR0 o q (bb _ _) ei (bb _ _).1.symm ei.1.symm fun v7=>?_
 simp only [pwA,seval,-iQ0];refine zAj hs hPP o (bb _ _) (bb _ _) (bb _ _).1.symm (bb _ _).1.symm fun v8=>?_
 have e8:=zO o (k:=1) (m:=1) (bb (br p W B W.length (unitL W.length i) (unitL W.length j)) (unitL W.length k)) (bb (br p W B W.length (unitL W.length j) (unitL W.length k)) (unitL W.length i));simp only [pwA,seval,-iQ0];refine qY hs hR0 o q ek ei ek.1.symm ei.1.symm fun v9=>?_
 simp only [pwA,seval,-iQ0];refine qY hs hR0 o q (bb _ _) ej (bb _ _).1.symm ej.1.symm fun v10=>?_
 simp only [pwA,seval,-iQ0];refine zAj hs hPP o e8 (bb _ _) e8.1.symm (bb _ _).1.symm fun v11=>?_
 have e11:=zO o (k:=1) (m:=1) e8 (bb (br p W B W.length (unitL W.length k) (unitL W.length i)) (unitL W.length j));simp only [pwA,seval,-iQ0];refine Qk e11.1.symm (by rw [e11.1];omega) ?_
 have hF:isZ (norm p W (lmix 1 (ladd p W (br p W B W.length (br p W B W.length (unitL W.length i) (unitL W.length j)) (unitL W.length k)) (br p W B W.length (br p W B W.length (unitL W.length j) (unitL W.length k)) (unitL W.length i))) 1 (br p W B W.length (br p W B W.length (unitL W.length k) (unitL W.length i)) (unitL W.length j))))↔F2 p W B W.length i j k:=Iff.rfl
 by_cases hf:isZ (norm p W (lmix 1 (ladd p W (br p W B W.length (br p W B W.length (unitL W.length i) (unitL W.length j)) (unitL W.length k)) (br p W B W.length (br p W B W.length (unitL W.length j) (unitL W.length k)) (unitL W.length i))) 1 (br p W B W.length (br p W B W.length (unitL W.length k) (unitL W.length i)) (unitL W.length j))))
 ·simp only [pwA,seval,-iQ0,eq_true hf,wrapS hlt3 (by omega:W.length≤4611686018427387904)]
  refine⟨_,by omega,k+1,by omega,by omega,rfl,rfl,fun k' h1 h2=>?_⟩
  by_cases e:k'=k
  ·subst e;exact hF.1 hf
  ·exact hal3 k' h1 (by omega)
 ·simp only [pwA,seval,-iQ0,hf]
  exact hk _ _ _ _ ⟨fun x=>by omega,fun x=>absurd (hF.2 (x.2 i j k (by omega) (by omega) hlt3)) hf⟩
end Go.Proofs
namespace Go.Proofs
open Go.Ab Go.Lie
variable {σ:PHeap} {K:PV→PHeap→Prop} {p:Int} {n:Nat} {W:List (List Int)} {B:List (List (List Int))} {vP vB:PV} {s:Nat}
theorem zHD (hR:IsR vP vB W B) (o:OkW p n W) (q:OkB p n B) (hk:∀kind i j k:Int,(kind=0↔Zj p W B n)→K (.tup [.int .i64 kind,.int .i64 i,.int .i64 j,.int .i64 k]) σ):zA Tryz.prog 51 [.agg [.int .i64 p,vP,vB]] σ K:=by
 have hn6:=o.le;have hWl:=o.len;have hp:=o.pr;have hR0:=hR;have hPP:=hR.P;obtain⟨⟨w1,a1,rP,rfl,hP⟩,⟨w3,a3,rB,rfl,hB⟩⟩:=hR;have hpk:-1000000000≤p∧p≤1000000000:=by unfold okp at hp;omega
 subst hWl;refine zA.gh ?_;have hkp:=zC σ [.int .i64 p,.fz w1 a1 W.length rP,.fz w3 a3 B.length rB];have fin:∀kind i j k:Int,(kind=0↔Zj p W B W.length)→Gh σ K (.tup [.int .i64 kind,.int .i64 i,.int .i64 j,.int .i64 k]) (σ.new [.int .i64 p,.fz w1 a1 W.length rP,.fz w3 a3 B.length rB]):=fun kind i j k h=>Gh.fin0 hkp ⟨trivial,trivial,trivial,trivial,trivial⟩ (hk kind i j k h)
 refine Z8 mix Tryz.func51 ?_;simp only [pwA,seval,-iQ0];refine zF (fun m vs h'=>∃i:Nat,i≤W.length∧m=W.length-i∧vs=[.ptr σ.next 0,.int .i64 W.length,.int .i64 i]∧σ.new [.int .i64 p,.fz w1 a1 W.length rP,.fz w3 a3 B.length rB]=h'∧∀i' j',i'<i→j'<W.length→F1 p W B W.length i' j') W.length ?_ ?_
 ·exact⟨0,by omega,by omega,rfl,rfl,fun i' j' h=>by omega⟩
 rintro m vs h' ⟨i,hi,rfl,rfl,rfl,hall⟩
 simp only [pwA,seval,-iQ0];refine iteI (fun hlt=>?_) fun hge=>?_
 ·refine zF (fun m vs h'=>∃j:Nat,j≤W.length∧m=W.length-j∧vs=[.ptr σ.next 0,.int .i64 W.length,.int .i64 i,.int .i64 j]∧σ.new [.int .i64 p,.fz w1 a1 W.length rP,.fz w3 a3 B.length rB]=h'∧∀j',j'<j→F1 p W B W.length i j') W.length ?_ ?_
  ·exact⟨0,by omega,by omega,rfl,rfl,fun j' h=>by omega⟩
  rintro m vs h' ⟨j,hj,rfl,rfl,rfl,hall2⟩
  simp only [pwA,seval,-iQ0];refine iteI (fun hlt2=>?_) fun hge=>?_
  ·have ei:=qV hp hlt
   have ej:=qV hp hlt2;have eb:=br_el o q (a:=unitL W.length i) (b:=unitL W.length j);obtain⟨w4,a4,hr⟩:=hP.rowI hlt;have er:=zBY o hlt;refine ZC hR0 rfl (by omega) hlt fun v1=>?_
   simp only [pwA,seval,-iQ0];refine ZC hR0 rfl (by omega) hlt2 fun v2=>?_
   simp only [pwA,seval,-iQ0,hlt,hr];refine zl hR0 o q ei ej (zk _ _).symm (zk _ _).symm fun v3=>?_
   simp only [pwA,seval,-iQ0,hlt,hr];refine QL hR0 rfl (by omega) fun vz=>?_
   simp only [pwA,seval,-iQ0];refine qm hR0 o eb (zAF hp) eb.1.symm (by simp) hpk (by decide) fun v4=>?_
   rw [zLE (eb.1.trans (by simp))]
   simp only [pwA,seval,-iQ0,hlt,hr];refine ZC hR0 rfl (by omega) hlt2 fun v6=>?_
   simp only [pwA,seval,-iQ0,hlt,hr];refine zl hR0 o q er ej rfl (zk _ _).symm fun v5=>?_
   simp only [pwA,seval,-iQ0];refine zBJ (zO o eb eb).1.symm (br_el o q).1.symm (by rw [(zO o eb eb).1];omega) ?_
   have hF:(lmul p W p (br p W B W.length (unitL W.length i) (unitL W.length j))=br p W B W.length W[i] (unitL W.length j))↔F1 p W B W.length i j:=by unfold F1;rw [qW hlt]
   by_cases hf:lmul p W p (br p W B W.length (unitL W.length i) (unitL W.length j))=br p W B W.length W[i] (unitL W.length j)
   ·simp only [pwA,seval,-iQ0,eq_true hf,wrapS hlt2 (by omega:W.length≤4611686018427387904)]
    refine⟨_,by omega,j+1,by omega,rfl,rfl,fun j' h=>?_⟩
    by_cases e:j'=j
    ·subst e;exact hF.1 hf
    ·exact hall2 j' (by omega)
   ·simp only [pwA,seval,-iQ0,hf]
    exact fin _ _ _ _ ⟨fun x=>by omega,fun x=>absurd (hF.2 (x.1 i j hlt hlt2)) hf⟩
  ·simp only [pwA,seval,-iQ0,wrapS hlt (by omega:W.length≤4611686018427387904)]
   refine⟨_,by omega,i+1,by omega,rfl,rfl,fun i' j' h h'=>?_⟩
   by_cases e:i'=i
   ·subst e;exact hall2 j' (by omega)
   ·exact hall i' j' (by omega) h'
 have hall:∀i j,i<W.length→j<W.length→F1 p W B W.length i j:=fun i' j' h h'=>hall i' j' (by omega) h'
 clear hge hi;refine zF (fun m vs h'=>∃i:Nat,i≤W.length∧m=W.length-i∧vs=[.ptr σ.next 0,.int .i64 W.length,.int .i64 i]∧σ.new [.int .i64 p,.fz w1 a1 W.length rP,.fz w3 a3 B.length rB]=h'∧∀i' j k,i'<i→i'<j→j<k→k<W.length→F2 p W B W.length i' j k) W.length ?_ ?_
 ·exact⟨0,by omega,by omega,rfl,rfl,fun i' j k h=>by omega⟩
 rintro m vs h' ⟨i,hi,rfl,rfl,rfl,hal1⟩
 simp only [pwA,seval,-iQ0];refine iteI (fun hlt=>?_) fun hge=>?_
 rotate_left
 ·exact fin _ _ _ _ ⟨fun _=>⟨hall,fun i j k h1 h2 h3=>hal1 i j k (by omega) h1 h2 h3⟩,fun _=>rfl⟩
 simp only [pwA,seval,-iQ0,wrapS hlt (by omega:W.length≤4611686018427387904)]
 refine zF (fun m vs h'=>∃j:Nat,i+1≤j∧j≤W.length∧m=W.length-j∧vs=[.ptr σ.next 0,.int .i64 W.length,.int .i64 i,.int .i64 j]∧σ.new [.int .i64 p,.fz w1 a1 W.length rP,.fz w3 a3 B.length rB]=h'∧∀j' k,i<j'→j'<j→j'<k→k<W.length→F2 p W B W.length i j' k) (W.length-(i+1)) ?_ ?_
 ·exact⟨i+1,by omega,by omega,by omega,rfl,rfl,fun j' k h1 h2=>by omega⟩
 rintro m vs h' ⟨j,hij,hj,rfl,rfl,rfl,hal2⟩
 simp only [pwA,seval,-iQ0];refine iteI (fun hlt2=>?_) fun hge=>?_
 rotate_left
 ·simp only [pwA,seval,-iQ0,wrapS hlt (by omega:W.length≤4611686018427387904)]
  refine⟨_,by omega,i+1,by omega,rfl,rfl,fun i' j' k h1 h2 h3 h4=>?_⟩
  by_cases e:i'=i
  ·subst e;exact hal2 j' k h2 (by omega) h3 h4
  ·exact hal1 i' j' k (by omega) h2 h3 h4
 simp only [pwA,seval,-iQ0,wrapS hlt2 (by omega:W.length≤4611686018427387904)]
 refine zF (fun m vs h'=>∃k:Nat,j+1≤k∧k≤W.length∧m=W.length-k∧vs=[.ptr σ.next 0,.int .i64 W.length,.int .i64 i,.int .i64 j,.int .i64 k]∧σ.new [.int .i64 p,.fz w1 a1 W.length rP,.fz w3 a3 B.length rB]=h'∧∀k',j<k'→k'<k→F2 p W B W.length i j k') (W.length-(j+1)) ?_ ?_
 ·exact⟨j+1,by omega,by omega,by omega,rfl,rfl,fun k' h1 h2=>by omega⟩
 rintro m vs h' ⟨k,hjk,hk',rfl,rfl,rfl,hal3⟩
 simp only [pwA,seval,-iQ0];refine iteI (fun hlt3=>?_) fun hge=>?_
 rotate_left
 ·simp only [pwA,seval,-iQ0,wrapS hlt2 (by omega:W.length≤4611686018427387904)]
  refine⟨_,by omega,j+1,by omega,by omega,rfl,rfl,fun j' k' h1 h2 h3 h4=>?_⟩
  by_cases e:j'=j
  ·subst e;exact hal3 k' h3 (by omega)
  ·exact hal2 j' k' h1 (by omega) h3 h4
 have ei:=qV hp hlt;have ej:=qV hp hlt2;have ek:=qV hp hlt3;have bb:∀a b,El p W.length (br p W B W.length a b):=fun a b=>br_el o q
 refine ZC hR0 rfl (by omega) hlt fun v1=>?_
 simp only [pwA,seval,-iQ0];refine ZC hR0 rfl (by omega) hlt2 fun v2=>?_
 simp only [pwA,seval,-iQ0];refine ZC hR0 rfl (by omega) hlt3 fun v3=>?_
 simp only [pwA,seval,-iQ0];refine zl hR0 o q ei ej ei.1.symm ej.1.symm fun v4=>?_
 simp only [pwA,seval,-iQ0];refine zl hR0 o q (bb _ _) ek (bb _ _).1.symm ek.1.symm fun v5=>?_
 simp only [pwA,seval,-iQ0];refine zl hR0 o q ej ek ej.1.symm ek.1.symm fun v6=>?_
 simp only [pwA,seval,-iQ0];refine zl hR0 o q (bb _ _) ei (bb _ _).1.symm ei.1.symm fun v7=>?_
 simp only [pwA,seval,-iQ0];refine qm hR0 o (bb _ _) (bb _ _) (bb _ _).1.symm (bb _ _).1.symm (by decide) (by decide) fun v8=>?_
 have e8:=zO o (k:=1) (m:=1) (bb (br p W B W.length (unitL W.length i) (unitL W.length j)) (unitL W.length k)) (bb (br p W B W.length (unitL W.length j) (unitL W.length k)) (unitL W.length i));simp only [pwA,seval,-iQ0];refine zl hR0 o q ek ei ek.1.symm ei.1.symm fun v9=>?_
 simp only [pwA,seval,-iQ0];refine zl hR0 o q (bb _ _) ej (bb _ _).1.symm ej.1.symm fun v10=>?_
 simp only [pwA,seval,-iQ0];refine qm hR0 o e8 (bb _ _) e8.1.symm (bb _ _).1.symm (by decide) (by decide) fun v11=>?_
 have e11:=zO o (k:=1) (m:=1) e8 (bb (br p W B W.length (unitL W.length k) (unitL W.length i)) (unitL W.length j));simp only [pwA,seval,-iQ0];refine zBI e11.1.symm (by rw [e11.1];omega) ?_
 have hF:isZ (norm p W (lmix 1 (ladd p W (br p W B W.length (br p W B W.length (unitL W.length i) (unitL W.length j)) (unitL W.length k)) (br p W B W.length (br p W B W.length (unitL W.length j) (unitL W.length k)) (unitL W.length i))) 1 (br p W B W.length (br p W B W.length (unitL W.length k) (unitL W.length i)) (unitL W.length j))))↔F2 p W B W.length i j k:=Iff.rfl
 by_cases hf:isZ (norm p W (lmix 1 (ladd p W (br p W B W.length (br p W B W.length (unitL W.length i) (unitL W.length j)) (unitL W.length k)) (br p W B W.length (br p W B W.length (unitL W.length j) (unitL W.length k)) (unitL W.length i))) 1 (br p W B W.length (br p W B W.length (unitL W.length k) (unitL W.length i)) (unitL W.length j))))
 ·simp only [pwA,seval,-iQ0,eq_true hf,wrapS hlt3 (by omega:W.length≤4611686018427387904)]
  refine⟨_,by omega,k+1,by omega,by omega,rfl,rfl,fun k' h1 h2=>?_⟩
  by_cases e:k'=k
  ·subst e;exact hF.1 hf
  ·exact hal3 k' h1 (by omega)
 ·simp only [pwA,seval,-iQ0,hf]
  exact fin _ _ _ _ ⟨fun x=>by omega,fun x=>absurd (hF.2 (x.2 i j k (by omega) (by omega) hlt3)) hf⟩
def isLie (p:Int) (W:List (List Int)) (B:List (List (List Int))):Prop:=qx p W B∧Zj p W B W.length
theorem Zn (hR:IsR vP vB W B) (sz:SzR W B) (hk:∀t:Bool,(t=true↔isLie p W B)→K (.bool t) σ):zA Tryz.prog 28 [.agg [.int .i64 p,vP,vB]] σ K:=by
 have h1:=hR.P.one;have h2:=hR.B.one;refine zA.gh ?_;have hkp:=zC σ [.int .i64 p,vP,vB];refine zD mix Tryz.func28 ?_;simp only [pwA,seval,-iQ0,h1,h2];refine zFI hR sz fun t ht=>?_
 cases t with
 | false=>
  simp only [pwA,seval,-iQ0];exact Gh.fin0 hkp trivial (hk _ ⟨fun x=>(by cases x),fun x=>ht.2 x.1⟩)
 | true=>
  have hsh:=ht.1 rfl;simp only [pwA,seval,-iQ0];refine zG6 ⟨by simp only [pwA,seval,-iQ0],by simp only [pwA,seval,-iQ0]⟩ hR hsh.w hsh.b fun kind i j k h=>?_
  simp only [pwA,seval,-iQ0];exact Gh.fin0 hkp trivial (hk _ ⟨fun x=>⟨hsh,h.1 (by simpa using x)⟩,fun x=>by simpa using h.2 x.2⟩)
theorem QM (hR:IsR vP vB W B) (sz:SzR W B) (hk:∀t:Bool,(t=true↔isLie p W B)→K (.bool t) σ):zA Tryz.prog 20 [.agg [.int .i64 p,vP,vB]] σ K:=by
 have h1:=hR.P.one;have h2:=hR.B.one;refine zA.gh ?_;have hkp:=zC σ [.int .i64 p,vP,vB];refine zD mix Tryz.func20 ?_;simp only [pwA,seval,-iQ0,h1,h2];refine zHC hR sz fun t ht=>?_
 cases t with
 | false=>
  simp only [pwA,seval,-iQ0];exact Gh.fin0 hkp trivial (hk _ ⟨fun x=>(by cases x),fun x=>ht.2 x.1⟩)
 | true=>
  have hsh:=ht.1 rfl;simp only [pwA,seval,-iQ0];refine zHD hR hsh.w hsh.b fun kind i j k h=>?_
  simp only [pwA,seval,-iQ0];exact Gh.fin0 hkp trivial (hk _ ⟨fun x=>⟨hsh,h.1 (by simpa using x)⟩,fun x=>by simpa using h.2 x.2⟩)
end Go.Proofs
namespace Go.Proofs
open Go.Ab Go.Lie
variable {σ:PHeap} {K:PV→PHeap→Prop} {p:Int} {n:Nat} {W:List (List Int)} {B:List (List (List Int))} {vP vB vL:PV} {s:Nat}
theorem zC1 {xs:List Int}:isVec xs p n↔El p n xs:=⟨fun h=>⟨by have:=h.1;omega,h.2⟩,fun h=>⟨by have:=h.1;omega,h.2⟩⟩
theorem zJw {l:Nat} {w:Bool} {a:AV} {xs:List Int} (hR:IsR vP vB W B) (hl:l=xs.length) (hb:xs.length≤1048576) (hp:okp p) (hk:∀t:Bool,(t=true↔El p W.length xs)→K (.bool t) σ):
  zA Tryz.prog 52 [.agg [.int .i64 p,vP,vB],.fz w a l (pis xs)] σ K:=by
 have h2:=hR.B.one;unfold okp at hp
 obtain⟨⟨w1,a1,rP,rfl,hP⟩,hB⟩:=hR;refine zA.gh ?_;have hkp:=zC σ [.int .i64 p,.fz w1 a1 W.length rP,vB];refine zD mix Tryz.func52 ?_;simp only [pwA,seval,-iQ0,h2];refine zC0 hl (by omega) (by omega) (by omega) ?_
 simp only [pwA,seval,-iQ0];exact Gh.fin0 hkp trivial (hk _ (by rw [decide_eq_true_iff];exact zC1))
def Els (p:Int) (n:Nat) (xs:List (List Int)):Prop:=∀x∈xs,El p n x
structure SzL (xs:List (List Int)):Prop where
 l:xs.length≤1048576
 r:∀x∈xs,x.length≤1048576
theorem zAx {xs:List (List Int)} (hR:IsR vP vB W B) (hL:FII vL xs) (sz:SzL xs) (hp:okp p) (hk:∀t:Bool,(t=true↔Els p W.length xs)→K (.bool t) σ):
  zA Tryz.prog 21 [.agg [.int .i64 p,vP,vB],vL] σ K:=by
 have h1:=hR.P.one;have h2:=hR.B.one;have hxl:=sz.l;obtain⟨wl,al,rl,rfl,hrl⟩:=hL;refine zA.gh ?_;have hkp:=zC σ [.int .i64 p,vP,vB];refine zD mix Tryz.func21 ?_;simp only [pwA,seval,-iQ0,h1,h2];refine zF (fun m vs h'=>∃i:Nat,i≤xs.length∧m=xs.length-i∧vs=[.fz wl al xs.length rl,.ptr σ.next 0,.int .i64 i]∧σ.new [.int .i64 p,vP,vB]=h'∧∀j (h:j<xs.length),j<i→El p W.length xs[j]) xs.length ?_ ?_
 ·exact⟨0,by omega,by omega,rfl,rfl,fun j h hj=>by omega⟩
 rintro m vs h' ⟨i,hi,rfl,rfl,rfl,hall⟩
 simp only [pwA,seval,-iQ0];refine iteI (fun hlt=>?_) fun hge=>?_
 ·obtain⟨w4,a4,hr⟩:=hrl.rowI hlt
  simp only [pwA,seval,-iQ0,hlt,hr];refine zJw hR rfl (sz.r _ (List.getElem_mem hlt)) hp fun t ht=>?_
  cases t with
  | false=>
   simp only [pwA,seval,-iQ0];exact Gh.fin0 hkp trivial (hk _ ⟨fun x=>(by cases x),fun x=>ht.2 (x _ (List.getElem_mem hlt))⟩)
  | true=>
   simp only [pwA,seval,-iQ0,wrapS hlt (by omega:xs.length≤4611686018427387904)]
   refine⟨_,by omega,i+1,by omega,rfl,rfl,fun j h hj=>?_⟩
   by_cases e:j=i
   ·subst e;exact ht.1 rfl
   ·exact hall j h (by omega)
 ·refine Gh.fin0 hkp trivial (hk _ ⟨fun _ x hx=>?_,fun _=>rfl⟩)
  obtain⟨j,hj,rfl⟩:=List.mem_iff_getElem.1 hx;exact hall j hj (by omega)
theorem Qb {xs:List (List Int)} (hs:PtrR σ s p vP vB) (hR:IsR vP vB W B) (szr:SzR W B) (hL:FII vL xs) (sz:SzL xs) (hk:∀t:Bool,(t=true↔isLie p W B∧Els p W.length xs)→K (.bool t) σ):
  zA Tryz.prog 24 [.ptr s 0,vL] σ K:=by
 have hPP:=hR.P;have hxl:=sz.l;obtain⟨wl,al,rl,rfl,hrl⟩:=hL;refine zD mix Tryz.func24 ?_;simp only [pwA,seval,-iQ0,zG hs.obj,zf hs.obj];refine Zn hR szr fun t ht=>?_
 cases t with
 | false=>
  simp only [pwA,seval,-iQ0];exact hk _ ⟨fun x=>(by cases x),fun x=>ht.2 x.1⟩
 | true=>
 have hlie:=ht.1 rfl;simp only [pwA,seval,-iQ0];refine zF (fun m vs h'=>∃i:Nat,i≤xs.length∧m=xs.length-i∧vs=[.ptr s 0,.fz wl al xs.length rl,.int .i64 xs.length,.int .i64 i]∧σ=h'∧∀j (h:j<xs.length),j<i→El p W.length xs[j]) xs.length ?_ ?_
 ·exact⟨0,by omega,by omega,rfl,rfl,fun j h hj=>by omega⟩
 rintro m vs h' ⟨i,hi,rfl,rfl,rfl,hall⟩
 simp only [pwA,seval,-iQ0];refine iteI (fun hlt=>?_) fun hge=>?_
 ·obtain⟨w4,a4,hr⟩:=hrl.rowI hlt
  simp only [pwA,seval,-iQ0,hlt,hr];refine QP hs hPP rfl (sz.r _ (List.getElem_mem hlt)) hlie.1.1 ?_
  by_cases hv:isVec xs[i] p W.length
  ·simp only [pwA,seval,-iQ0,hv,wrapS hlt (by omega:xs.length≤4611686018427387904)]
   refine⟨_,by omega,i+1,by omega,rfl,rfl,fun j h hj=>?_⟩
   by_cases e:j=i
   ·subst e;exact zC1.1 hv
   ·exact hall j h (by omega)
  ·simp only [pwA,seval,-iQ0,hv]
   exact hk _ ⟨fun x=>(by cases x),fun x=>absurd (zC1.2 (x.2 _ (List.getElem_mem hlt))) hv⟩
 ·refine hk _ ⟨fun _=>⟨hlie,fun x hx=>?_⟩,fun _=>rfl⟩
  obtain⟨j,hj,rfl⟩:=List.mem_iff_getElem.1 hx;exact hall j hj (by omega)
def csum (im:List (List Int)) (c:List Int) (n:Nat):Nat→List Int
 | 0=>List.replicate n 0
 | i+1=>addm (at_ c i) (csum im c n i) (im.getD i [])
theorem zKI {xs ys:List Int} (h:xs.length≤ys.length):addm 0 xs ys=xs:=by
 apply List.ext_getElem?;intro i;rcases Nat.lt_or_ge i xs.length with x|x
 ·rw [zBL x (by omega),gi x];congr 1;omega
 ·rw [List.getElem?_eq_none (by rw [zx h];exact x),List.getElem?_eq_none x]
theorem im_el {im:List (List Int)} (he:Els p n im) {i:Nat} (hi:i<im.length):El p n (im.getD i []):=by rw [zI hi];exact he _ (List.getElem_mem hi)
theorem zm {im:List (List Int)} {c:List Int} (he:Els p n im):∀{i:Nat},i≤im.length→(csum im c n i).length=n
 | 0,_=>by simp [csum]
 | i+1,hi=>by rw [csum,zx (by rw [zm he (by omega),(im_el he (by omega)).1];omega),zm he (by omega)]
theorem cmul {x y:Int} (hx:0≤x∧x≤6) (hy:0≤y∧y≤6):-36≤x*y∧x*y≤36:=by have:=mul36 hx hy;omega
theorem zEN {im:List (List Int)} {c:List Int} (hp:okp p) (he:Els p n im) (hc:∀j,0≤at_ c j∧at_ c j≤6):∀{i:Nat},i≤im.length→bd (36*i) (csum im c n i)
 | 0,_=>fun t=>by rw [csum,qR];omega
 | i+1,hi=>fun t=>by
  have h1:=zEN hp he hc (i:=i) (by omega) t
  have h2:=cmul (hc i) ((im_el he (by omega:i<im.length)).at hp t)
  rw [csum,Zr (by rw [zm he (by omega),(im_el he (by omega:i<im.length)).1])]
  omega
theorem zEO {l:Nat} {w:Bool} {a:AV} {im:List (List Int)} {c:List Int} (hs:PtrR σ s p vP vB) (hP:FII vP W) (o:OkW p n W) (hL:FII vL im) (he:Els p n im) (hc:∀j,0≤at_ c j∧at_ c j≤6) (hle:c.length≤im.length) (hl:l=c.length) (hb:c.length≤1048576)
  (hk:ResI σ K (norm p W (csum im c n c.length))):zA Tryz.prog 82 [.ptr s 0,vL,.fz w a l (pis c)] σ K:=by
 subst hl;have hn6:=o.le;have hWl:=o.len;have hPP:=hP;obtain⟨wl,al,rl,rfl,hrl⟩:=hL;obtain⟨w1,a1,rP,rfl,hP⟩:=hP;refine zA.gh ?_;have hne:¬s=σ.next:=Nat.ne_of_lt hs.lt;refine zD mix Tryz.func82 ?_;simp only [pwA,seval,-iQ0,zG hs.obj,hne,ZB,mk8 (n:=W.length) (by omega),mkL (n:=W.length) (by omega)]
 refine zF (fun m vs h'=>∃i:Nat,i≤c.length∧m=c.length-i∧vs=[.ptr s 0,.fz wl al im.length rl,.sl σ.next 0 W.length (.known W.length),.fz w a c.length (pis c),.int .i64 c.length,.int .i64 i]∧h'=σ.new (pis (csum im c n i))) c.length ?_ ?_
 ·exact⟨0,by omega,by omega,rfl,by rw [csum,hWl]⟩
 rintro m vs h' ⟨i,hi,rfl,rfl,rfl⟩
 simp only [pwA,seval,-iQ0];refine iteI (fun hlt=>?_) fun hge=>?_
 ·have hic:i<im.length:=by omega
  obtain⟨w4,a4,hr⟩:=hrl.rowI hic;have hce:=hc i;have hcl:=zm (c:=c) he (by omega:i≤im.length)
  have hcb:=zEN o.pr he hc (by omega:i≤im.length)
  have hie:=he _ (List.getElem_mem hic);have hgd:im.getD i []=im[i]:=zI hic;rw [at_eq hlt]at hce
  have hneg:IntKind.i64.wrap (0-c[i])=-c[i]:=by rw [wrap64 (by omega) (by omega)];omega
  simp only [pwA,seval,-iQ0,hlt,gi hlt,zN];refine iteI (fun h0=>?_) fun h0=>?_
  ·simp only [pwA,seval,-iQ0,wrapS hlt (by omega:c.length≤4611686018427387904)]
   refine⟨_,by omega,i+1,by omega,rfl,rfl,?_⟩
   rw [csum,at_eq hlt,h0,zKI (by rw [hcl,hgd,hie.1];exact Nat.le_refl _)]
  ·simp only [pwA,seval,-iQ0,hic,hr,hneg]
   refine ZP (xs:=csum im c n i) (by omega) rfl (by simp only [pwA,seval,-iQ0]) (by rw [hie.1];omega) (by omega) (fun t h1 h2=>?_) ?_
   ·have c1:=cmul hce (hie.at o.pr t)
    have c2:=hcb t;rw [at_eq h2]at c1
    rw [at_eq h1]at c2
    rw [Int.neg_mul];unfold sm;omega
   ·simp only [pwA,seval,-iQ0,wrapS hlt (by omega:c.length≤4611686018427387904)]
    refine⟨_,by omega,i+1,by omega,rfl,rfl,?_⟩
    rw [zFS,csum,at_eq hlt,hgd]
 ·have hie:i=c.length:=by omega
  subst hie;have hcl:=zm (c:=c) he hle;exact(Qz hs hPP o hcl ((zEN o.pr he hc hle).mono (by have:big=1125899906842624:=rfl;omega)) (by rw [hcl];exact hWl) (by simp [capOK]) hk).mono fun v σ' hg=>by simp only [pwA,seval,-iQ0];exact hg
theorem zCa {l:Nat} {w:Bool} {a:AV} {im:List (List Int)} {c:List Int} (hR:IsR vP vB W B) (o:OkW p n W) (hL:FII vL im) (he:Els p n im) (hc:∀j,0≤at_ c j∧at_ c j≤6) (hle:c.length≤im.length) (hl:l=c.length) (hb:c.length≤1048576)
  (hk:∀v,K (.fz true v n (pis (norm p W (csum im c n c.length)))) σ):zA Tryz.prog 54 [.agg [.int .i64 p,vP,vB],vL,.fz w a l (pis c)] σ K:=by
 subst hl;have hn6:=o.le;have hWl:=o.len;have h1:=hR.P.one;have h2:=hR.B.one;obtain⟨wl,al,rl,rfl,hrl⟩:=hL;refine zA.gh ?_;refine zD mix Tryz.func54 ?_;simp only [pwA,seval,-iQ0,h1,h2];refine QL hR hWl (by omega) fun v0=>?_
 simp only [pwA,seval,-iQ0];refine zF (fun m vs h'=>∃i:Nat,i≤c.length∧m=c.length-i∧∃v out,vs=[.fz wl al im.length rl,.fz w a c.length (pis c),.ptr σ.next 0,.fz true v n (pis out),.int .i64 i]∧σ.new [.int .i64 p,vP,vB]=h'∧El p n out∧Eqv p n W (at_ out) (at_ (csum im c n i))) c.length ?_ ?_
 ·exact⟨0,by omega,by omega,v0,_,rfl,rfl,zAF o.pr,Eqv.refl _⟩
 rintro m vs h' ⟨i,hi,rfl,v,out,rfl,rfl,hout,heqv⟩
 simp only [pwA,seval,-iQ0];refine iteI (fun hlt=>?_) fun hge=>?_
 ·have hic:i<im.length:=by omega
  obtain⟨w4,a4,hr⟩:=hrl.rowI hic;have hce:=hc i;have hcl:=zm (c:=c) he (by omega:i≤im.length)
  have hie:=he _ (List.getElem_mem hic);have hgd:im.getD i []=im[i]:=zI hic;rw [at_eq hlt]at hce
  simp only [pwA,seval,-iQ0,hlt,gi hlt,zN,hic,hr];refine qm hR o hout hie hout.1.symm rfl (by decide) (by omega) fun v'=>?_
  have hml:(lmix 1 out c[i] im[i]).length=n:=by rw [zL (hout.1.trans hie.1.symm),hout.1]
  simp only [pwA,seval,-iQ0,wrapS hlt (by omega:c.length≤4611686018427387904)]
  refine⟨_,by omega,i+1,by omega,rfl,v',_,rfl,Q9 o hml,?_⟩
  refine(zh o hml).trans ?_;have h1:=heqv.add (Eqv.refl (p:=p) (n:=n) (W:=W) (fun j=>c[i] * at_ im[i] j))
  refine(Eqv.of_eq fun j=>?_).trans (h1.trans (Eqv.of_eq fun j=>?_))
  ·rw [zq (hout.1.trans hie.1.symm)];omega
  ·rw [csum,Zr (by rw [hcl,hgd,hie.1]),hgd,at_eq hlt]
 ·have hie:i=c.length:=by omega
  subst hie;have hcl:=zm (c:=c) he hle
  have:out=norm p W (csum im c n c.length):=qi o hout.1 (zw o hcl) hout.2 (ZH o hcl) (heqv.trans (zh o hcl).symm)
  rw [this];exact Gh.fin0 (zC σ _) trivial (hk v)
end Go.Proofs
namespace Go.Proofs
open Go.Ab Go.Lie
variable {σ:PHeap} {K:PV→PHeap→Prop} {p p':Int} {n:Nat} {W W':List (List Int)} {B B':List (List (List Int))} {vP vB vP' vB' vL:PV} {s s':Nat} {im:List (List Int)}
abbrev img (p:Int) (W':List (List Int)) (im:List (List Int)) (c:List Int):List Int:=norm p W' (csum im c W'.length c.length)
def fits (p:Int) (W:List (List Int)) (B:List (List (List Int))) (W':List (List Int)) (B':List (List (List Int))) (im:List (List Int)) (i:Nat):Prop:=
 lmul p W' p (im.getD i [])=img p W' im (W.getD i [])∧
 ∀k,k<W.length-1-i→br p W' B' W'.length (im.getD i []) (im.getD (i+(1+k)) [])=img p W' im ((B.getD i []).getD k [])
def isMap (p:Int) (W:List (List Int)) (B:List (List (List Int))) (p':Int) (W':List (List Int)) (B':List (List (List Int))) (im:List (List Int)):Prop:=
 isLie p W B∧isLie p' W' B'∧p=p'∧im.length=W.length∧Els p' W'.length im∧∀i,i<im.length→fits p W B W' B' im i
theorem zA1 {l:Nat} {w:Bool} {a:AV} {c:List Int} (hs:PtrR σ s p vP vB) (hP:FII vP W) (o:OkW p n W) (hL:FII vL im) (he:Els p n im) (hc:∀j,0≤at_ c j∧at_ c j≤6) (hle:c.length≤im.length) (hl:l=c.length) (hb:c.length≤1048576)
  (hk:∀v,K (.fz true v n (pis (norm p W (csum im c n c.length)))) σ):zA Tryz.prog 82 [.ptr s 0,vL,.fz w a l (pis c)] σ K:=
 zA.fzN (zw o (zm he hle)) (fun K'=>zEO hs hP o hL he hc hle hl hb) hk
theorem zIX {i:Nat} (hs:PtrR σ s p vP vB) (hs':PtrR σ s' p vP' vB') (hR:IsR vP vB W B) (hR':IsR vP' vB' W' B') (o:OkW p W.length W) (q:OkB p W.length B) (o':OkW p W'.length W') (q':OkB p W'.length B')
  (hL:FII vL im) (he:Els p W'.length im) (hil:im.length=W.length) (hi:i<im.length) (hk:∀t:Bool,(t=true↔fits p W B W' B' im i)→K (.bool t) σ):zA Tryz.prog 43 [.ptr s 0,.ptr s' 0,vL,.int .i64 i] σ K:=by
 have hn6:=o.le;have hn6':=o'.le;have hp:=o.pr;have hpk:-1000000000≤p∧p≤1000000000:=by unfold okp at hp;omega
 have hPP':=hR'.P;have hLL:=hL;obtain⟨⟨w1,a1,rP,rfl,hP⟩,⟨w3,a3,rB,rfl,hB⟩⟩:=hR;obtain⟨wl,al,rl,rfl,hrl⟩:=hL;obtain⟨w4,a4,hr⟩:=hrl.rowI hi;have hiW:i<W.length:=by omega
 have hiB:i<B.length:=by rw [q.len];exact hiW
 obtain⟨w5,a5,hrw⟩:=hP.rowI hiW;obtain⟨w6,a6,rs,hrb,hrs⟩:=hB.rowL hiB;have hie:=he _ (List.getElem_mem hi);have hwe:=zBY o hiW;have g1:im.getD i []=im[i]:=zI hi;have g2:W.getD i []=W[i]:=zI hiW;have g3:B.getD i []=B[i]:=zI hiB;have hbl:=q.row i hiB;have fl:∀{A:Prop},¬A→((false=true)↔A):=fun h=>⟨fun x=>(by cases x),fun x=>absurd x h⟩
 refine zD mix Tryz.func43 ?_;simp only [pwA,seval,-iQ0,zG hs.obj,zG hs'.obj,hi,hiW,hr,hrw];refine Zc hs' hPP' o' hie rfl hpk fun v1=>?_
 simp only [pwA,seval,-iQ0,zG hs.obj,zG hs'.obj,hi,hiW,hr,hrw];refine zA1 hs' hPP' o' hLL he (fun j=>hwe.at hp j) (by rw [hwe.1];omega) rfl (by rw [hwe.1];omega) fun v2=>?_
 simp only [pwA,seval,-iQ0];have hce:∀c:List Int,c.length=W.length→El p W'.length (img p W' im c):=fun c hc=>Q9 o' (zm he (by omega))
 refine zBN (zO o' hie hie).1.symm (hce _ hwe.1).1.symm (by rw [(zO o' hie hie).1];omega) ?_
 by_cases hf:lmul p W' p im[i]=img p W' im W[i]
 rotate_left
 ·simp only [pwA,seval,-iQ0,hf]
  exact hk _ (fl fun x=>hf (by have:=x.1;rwa [g1,g2]at this))
 simp only [pwA,seval,-iQ0,eq_true hf,zG hs.obj,hiB,hrb];refine zF (fun m vs h'=>∃k:Nat,k≤B[i].length∧m=B[i].length-k∧vs=[.ptr s' 0,.fz wl al im.length rl,.int .i64 i,.fz w6 a6 B[i].length rs,.int .i64 B[i].length,.int .i64 k]∧σ=h'∧
  ∀j,j<k→br p W' B' W'.length (im.getD i []) (im.getD (i+(1+j)) [])=img p W' im ((B.getD i []).getD j [])) B[i].length ?_ ?_
 ·exact⟨0,by omega,by omega,rfl,rfl,fun j hj=>by omega⟩
 rintro m vs h' ⟨k,hk',rfl,rfl,rfl,hall⟩
 simp only [pwA,seval,-iQ0];refine iteI (fun hlt=>?_) fun hge=>?_
 rotate_left
 ·exact hk _ ⟨fun _=>⟨by rw [g1,g2];exact hf,fun j hj=>hall j (by omega)⟩,fun _=>rfl⟩
 obtain⟨w7,a7,hrk⟩:=hrs.rowI hlt;have hj:i+(1+k)<im.length:=by omega
 obtain⟨w8,a8,hrj⟩:=hrl.rowI hj;have hje:=he _ (List.getElem_mem hj);have hbe:=(q.ent i hiB k hlt).1;simp only [pwA,seval,-iQ0,hi,hr,hlt,hrk,hj,hrj,wrapS (n:=W.length) (i:=i) hiW (by omega),wrapA (a:=i+1) (b:=k) (by omega)]
 refine qY hs' hR' o' q' hie hje rfl rfl fun v3=>?_
 simp only [pwA,seval,-iQ0];refine zA1 hs' hPP' o' hLL he (fun j=>hbe.at hp j) (by rw [hbe.1];omega) rfl (by rw [hbe.1];omega) fun v4=>?_
 simp only [pwA,seval,-iQ0];refine zBN (br_el o' q').1.symm (hce _ hbe.1).1.symm (by rw [(br_el o' q').1];omega) ?_
 have hF:(br p W' B' W'.length im[i] im[i+(1+k)]=img p W' im B[i][k])↔(br p W' B' W'.length (im.getD i []) (im.getD (i+(1+k)) [])=img p W' im ((B.getD i []).getD k [])):=by
  rw [g1,g3,zI hlt,zI hj]
 by_cases hf2:br p W' B' W'.length im[i] im[i+(1+k)]=img p W' im B[i][k]
 ·simp only [pwA,seval,-iQ0,eq_true hf2,wrapS hlt (by omega:B[i].length≤4611686018427387904)]
  refine⟨_,by omega,k+1,by omega,rfl,rfl,fun j hj=>?_⟩
  by_cases e:j=k
  ·subst e;exact hF.1 hf2
  ·exact hall j (by omega)
 ·simp only [pwA,seval,-iQ0,hf2]
  exact hk _ (fl fun x=>hf2 (hF.2 (x.2 k (by omega))))
theorem zG7 {i:Nat} (hR:IsR vP vB W B) (hR':IsR vP' vB' W' B') (o:OkW p W.length W) (q:OkB p W.length B) (o':OkW p W'.length W') (q':OkB p W'.length B')
  (hL:FII vL im) (he:Els p W'.length im) (hil:im.length=W.length) (hi:i<im.length) (hk:∀t:Bool,(t=true↔fits p W B W' B' im i)→K (.bool t) σ):
  zA Tryz.prog 22 [.agg [.int .i64 p,vP,vB],.agg [.int .i64 p,vP',vB'],vL,.int .i64 i] σ K:=by
 have hn6:=o.le;have hn6':=o'.le;have hp:=o.pr;have hpk:-1000000000≤p∧p≤1000000000:=by unfold okp at hp;omega
 have hLL:=hL;have h1':=hR'.P.one;have h2':=hR'.B.one;obtain⟨⟨w1,a1,rP,rfl,hP⟩,⟨w3,a3,rB,rfl,hB⟩⟩:=hR;obtain⟨wl,al,rl,rfl,hrl⟩:=hL;obtain⟨w4,a4,hr⟩:=hrl.rowI hi;have hiW:i<W.length:=by omega
 have hiB:i<B.length:=by rw [q.len];exact hiW
 obtain⟨w5,a5,hrw⟩:=hP.rowI hiW;obtain⟨w6,a6,rs,hrb,hrs⟩:=hB.rowL hiB;have hie:=he _ (List.getElem_mem hi);have hwe:=zBY o hiW;have g1:im.getD i []=im[i]:=zI hi;have g2:W.getD i []=W[i]:=zI hiW;have g3:B.getD i []=B[i]:=zI hiB;have hbl:=q.row i hiB;refine zA.gh ?_;have hkp:Keep σ ((σ.new [.int .i64 p,.fz w1 a1 W.length rP,.fz w3 a3 B.length rB]).new [.int .i64 p,vP',vB']):=(zC σ _).new _;have no:¬fits p W B W' B' im i→Gh σ K (.bool false) ((σ.new [.int .i64 p,.fz w1 a1 W.length rP,.fz w3 a3 B.length rB]).new [.int .i64 p,vP',vB']):=fun h=>Gh.fin0 hkp trivial (hk _ ⟨fun x=>(by cases x),fun x=>absurd x h⟩)
 refine Z8 mix Tryz.func22 ?_;simp only [pwA,seval,-iQ0,h1',h2',hi,hiW,hr,hrw];refine qm hR' o' hie hie rfl rfl hpk (by decide) fun v1=>?_
 simp only [pwA,seval,-iQ0,h1',h2',hi,hiW,hr,hrw];refine zCa hR' o' hLL he (fun j=>hwe.at hp j) (by rw [hwe.1];omega) rfl (by rw [hwe.1];omega) fun v2=>?_
 simp only [pwA,seval,-iQ0];have hce:∀c:List Int,c.length=W.length→El p W'.length (img p W' im c):=fun c hc=>Q9 o' (zm he (by omega))
 refine zBJ (zO o' hie hie).1.symm (hce _ hwe.1).1.symm (by rw [(zO o' hie hie).1];omega) ?_
 by_cases hf:lmul p W' p im[i]=img p W' im W[i]
 rotate_left
 ·simp only [pwA,seval,-iQ0,hf]
  exact no fun x=>hf (by have:=x.1;rwa [g1,g2]at this)
 simp only [pwA,seval,-iQ0,eq_true hf,wrapS hi (by omega:im.length≤4611686018427387904)]
 refine zF (fun m vs h'=>∃k:Nat,k≤B[i].length∧m=B[i].length-k∧vs=[.fz wl al im.length rl,.int .i64 i,.ptr σ.next 0,.ptr (σ.next+1) 0,.int .i64 ((i+(1+k):Nat):Int)]∧(σ.new [.int .i64 p,.fz w1 a1 W.length rP,.fz w3 a3 B.length rB]).new [.int .i64 p,vP',vB']=h'∧
  ∀j,j<k→br p W' B' W'.length (im.getD i []) (im.getD (i+(1+j)) [])=img p W' im ((B.getD i []).getD j [])) B[i].length ?_ ?_
 ·exact⟨0,by omega,by omega,rfl,rfl,fun j hj=>by omega⟩
 rintro m vs h' ⟨k,hk',rfl,rfl,rfl,hall⟩
 simp only [pwA,seval,-iQ0];refine iteI (fun hj=>?_) fun hge=>?_
 rotate_left
 ·exact Gh.fin0 hkp trivial (hk _ ⟨fun _=>⟨by rw [g1,g2];exact hf,fun j hj=>hall j (by omega)⟩,fun _=>rfl⟩)
 have hlt:k<B[i].length:=by omega
 obtain⟨w7,a7,hrk⟩:=hrs.rowI hlt;obtain⟨w8,a8,hrj⟩:=hrl.rowI hj;have hje:=he _ (List.getElem_mem hj);have hbe:=(q.ent i hiB k hlt).1;have e1:IntKind.i64.wrap (((i+(1+k):Nat):Int)-(i:Int))=((1+k:Nat):Int):=by rw [wrap64 (by omega) (by omega)];omega
 have e2:IntKind.i64.wrap (((1+k:Nat):Int)-1)=(k:Int):=by rw [wrap64 (by omega) (by omega)];omega
 have e3:IntKind.i64.wrap (((i+(1+k):Nat):Int)+1)=((i+(1+(k+1)):Nat):Int):=by rw [wrap64 (by omega) (by omega)];omega
 simp only [pwA,seval,-iQ0,hi,hr,hiB,hrb,hlt,hrk,hj,hrj,e1,e2];refine zl hR' o' q' hie hje rfl rfl fun v3=>?_
 simp only [pwA,seval,-iQ0,hi,hr,hiB,hrb,hlt,hrk,hj,hrj,e1,e2];refine zCa hR' o' hLL he (fun j=>hbe.at hp j) (by rw [hbe.1];omega) rfl (by rw [hbe.1];omega) fun v4=>?_
 simp only [pwA,seval,-iQ0];refine zBJ (br_el o' q').1.symm (hce _ hbe.1).1.symm (by rw [(br_el o' q').1];omega) ?_
 have hF:(br p W' B' W'.length im[i] im[i+(1+k)]=img p W' im B[i][k])↔(br p W' B' W'.length (im.getD i []) (im.getD (i+(1+k)) [])=img p W' im ((B.getD i []).getD k [])):=by
  rw [g1,g3,zI hlt,zI hj]
 by_cases hf2:br p W' B' W'.length im[i] im[i+(1+k)]=img p W' im B[i][k]
 ·simp only [pwA,seval,-iQ0,eq_true hf2,e3]
  refine⟨_,by omega,k+1,by omega,rfl,rfl,fun j hj=>?_⟩
  by_cases e:j=k
  ·subst e;exact hF.1 hf2
  ·exact hall j (by omega)
 ·simp only [pwA,seval,-iQ0,hf2]
  exact no fun x=>hf2 (hF.2 (x.2 k (by omega)))
theorem zCe (hs:PtrR σ s p vP vB) (hs':PtrR σ s' p' vP' vB') (hR:IsR vP vB W B) (hR':IsR vP' vB' W' B') (sz:SzR W B) (sz':SzR W' B') (hL:FII vL im) (szl:SzL im)
  (hk:∀t:Bool,(t=true↔isMap p W B p' W' B' im)→K (.bool t) σ):zA Tryz.prog 18 [.ptr s 0,.ptr s' 0,vL] σ K:=by
 have fl:∀{A:Prop},¬A→((false=true)↔A):=fun h=>⟨fun x=>(by cases x),fun x=>absurd x h⟩
 have hRR:=hR;have hLL:=hL;obtain⟨⟨w1,a1,rP,rfl,hP⟩,hB⟩:=hR;obtain⟨wl,al,rl,rfl,hrl⟩:=hL;have hxl:=szl.l;refine Z8 mix Tryz.func18 ?_;simp only [pwA,seval,-iQ0,zG hs.obj,zf hs.obj,zG hs'.obj,zf hs'.obj];refine Zn hRR sz fun t ht=>?_
 cases t with
 | false=>
  simp only [pwA,seval,-iQ0];exact hk _ (fl fun x=>by cases ht.2 x.1)
 | true=>
 have l1:=ht.1 rfl;simp only [pwA,seval,-iQ0];refine Qb hs' hR' sz' hLL szl fun t ht=>?_
 cases t with
 | false=>
  simp only [pwA,seval,-iQ0];exact hk _ (fl fun x=>by cases ht.2 ⟨x.2.1,x.2.2.2.2.1⟩)
 | true=>
 obtain⟨l2,he⟩:=ht.1 rfl
 by_cases hpp:p=p'
 rotate_left
 ·simp only [pwA,seval,-iQ0,zG hs.obj,zf hs.obj,zG hs'.obj,zf hs'.obj,hpp]
  exact hk _ (fl fun x=>hpp x.2.2.1)
 subst hpp
 by_cases hll:im.length=W.length
 rotate_left
 ·have hll':¬(im.length:Int)=(W.length:Int):=by omega
  simp only [pwA,seval,-iQ0,zG hs.obj,zf hs.obj,zG hs'.obj,zf hs'.obj,hll'];exact hk _ (fl fun x=>hll x.2.2.2.1)
 have hll':(im.length:Int)=(W.length:Int):=by omega
 simp only [pwA,seval,-iQ0,zG hs.obj,zf hs.obj,zG hs'.obj,zf hs'.obj,eq_true hll'];refine zF (fun m vs h'=>∃i:Nat,i≤im.length∧m=im.length-i∧vs=[.ptr s 0,.ptr s' 0,.fz wl al im.length rl,.int .i64 im.length,.int .i64 i]∧σ=h'∧∀j,j<i→fits p W B W' B' im j) im.length ?_ ?_
 ·exact⟨0,by omega,by omega,rfl,rfl,fun j hj=>by omega⟩
 rintro m vs h' ⟨i,hi,rfl,rfl,rfl,hall⟩
 simp only [pwA,seval,-iQ0];refine iteI (fun hlt=>?_) fun hge=>?_
 rotate_left
 ·exact hk _ ⟨fun _=>⟨l1,l2,rfl,hll,he,fun j hj=>hall j (by omega)⟩,fun _=>rfl⟩
 refine zIX hs hs' hRR hR' l1.1.w l1.1.b l2.1.w l2.1.b hLL he hll hlt fun t ht=>?_
 cases t with
 | false=>
  simp only [pwA,seval,-iQ0];exact hk _ (fl fun x=>by cases ht.2 (x.2.2.2.2.2 i hlt))
 | true=>
  simp only [pwA,seval,-iQ0,wrapS hlt (by omega:im.length≤4611686018427387904)]
  refine⟨_,by omega,i+1,by omega,rfl,rfl,fun j hj=>?_⟩
  by_cases e:j=i
  ·subst e;exact ht.1 rfl
  ·exact hall j (by omega)
theorem zHQ (hR:IsR vP vB W B) (hR':IsR vP' vB' W' B') (sz:SzR W B) (sz':SzR W' B') (hL:FII vL im) (szl:SzL im)
  (hk:∀t:Bool,(t=true↔isMap p W B p' W' B' im)→K (.bool t) σ):zA Tryz.prog 6 [.agg [.int .i64 p,vP,vB],.agg [.int .i64 p',vP',vB'],vL] σ K:=by
 have h1:=hR.P.one;have h2:=hR.B.one;have h1':=hR'.P.one;have h2':=hR'.B.one;refine zA.gh ?_;refine zD mix Tryz.func6 ?_;simp only [pwA,seval,-iQ0,h1,h2,h1',h2'];refine zCe (p:=p) (p':=p') ⟨by simp only [pwA,seval,-iQ0],by simp only [pwA,seval,-iQ0];omega⟩ ⟨by simp only [pwA,seval,-iQ0],by simp only [pwA,seval,-iQ0]⟩ hR hR' sz sz' hL szl fun t ht=>?_
 simp only [pwA,seval,-iQ0];exact Gh.fin0 ((zC σ _).new _) trivial (hk _ ht)
theorem zEe (hR:IsR vP vB W B) (hR':IsR vP' vB' W' B') (sz:SzR W B) (sz':SzR W' B') (hL:FII vL im) (szl:SzL im)
  (hk:∀t:Bool,(t=true↔isMap p W B p' W' B' im)→K (.bool t) σ):zA Tryz.prog 8 [.agg [.int .i64 p,vP,vB],.agg [.int .i64 p',vP',vB'],vL] σ K:=by
 have h1:=hR.P.one;have h2:=hR.B.one;have h1':=hR'.P.one;have h2':=hR'.B.one;have hRR:=hR;have hLL:=hL;obtain⟨⟨w1,a1,rP,rfl,hP⟩,hB⟩:=hR;obtain⟨wl,al,rl,rfl,hrl⟩:=hL;have hxl:=szl.l;refine zA.gh ?_;have hkp:Keep σ ((σ.new [.int .i64 p,.fz w1 a1 W.length rP,vB]).new [.int .i64 p',vP',vB']):=(zC σ _).new _;have no:¬isMap p W B p' W' B' im→Gh σ K (.bool false) ((σ.new [.int .i64 p,.fz w1 a1 W.length rP,vB]).new [.int .i64 p',vP',vB']):=fun h=>Gh.fin0 hkp trivial (hk _ ⟨fun x=>(by cases x),fun x=>absurd x h⟩)
 refine zD mix Tryz.func8 ?_;simp only [pwA,seval,-iQ0,h2,h1',h2'];refine QM hRR sz fun t ht=>?_
 cases t with
 | false=>
  simp only [pwA,seval,-iQ0];exact no fun x=>by cases ht.2 x.1
 | true=>
 have l1:=ht.1 rfl;simp only [pwA,seval,-iQ0];refine QM hR' sz' fun t ht=>?_
 cases t with
 | false=>
  simp only [pwA,seval,-iQ0];exact no fun x=>by cases ht.2 x.2.1
 | true=>
 have l2:=ht.1 rfl
 by_cases hpp:p=p'
 rotate_left
 ·simp only [pwA,seval,-iQ0,hpp]
  exact no fun x=>hpp x.2.2.1
 subst hpp
 by_cases hll:im.length=W.length
 rotate_left
 ·have hll':¬(im.length:Int)=(W.length:Int):=by omega
  simp only [pwA,seval,-iQ0,hll'];exact no fun x=>hll x.2.2.2.1
 have hll':(im.length:Int)=(W.length:Int):=by omega
 simp only [pwA,seval,-iQ0,eq_true hll'];refine zAx hR' hLL szl l2.1.1.bd fun t ht=>?_
 cases t with
 | false=>
  simp only [pwA,seval,-iQ0];exact no fun x=>by cases ht.2 x.2.2.2.2.1
 | true=>
 have he:=ht.1 rfl;simp only [pwA,seval,-iQ0];refine zF (fun m vs h'=>∃i:Nat,i≤im.length∧m=im.length-i∧vs=[.fz wl al im.length rl,.ptr σ.next 0,.ptr (σ.next+1) 0,.int .i64 i]∧(σ.new [.int .i64 p,.fz w1 a1 W.length rP,vB]).new [.int .i64 p,vP',vB']=h'∧∀j,j<i→fits p W B W' B' im j) im.length ?_ ?_
 ·exact⟨0,by omega,by omega,rfl,rfl,fun j hj=>by omega⟩
 rintro m vs h' ⟨i,hi,rfl,rfl,rfl,hall⟩
 simp only [pwA,seval,-iQ0];refine iteI (fun hlt=>?_) fun hge=>?_
 rotate_left
 ·exact Gh.fin0 hkp trivial (hk _ ⟨fun _=>⟨l1,l2,rfl,hll,he,fun j hj=>hall j (by omega)⟩,fun _=>rfl⟩)
 refine zG7 hRR hR' l1.1.w l1.1.b l2.1.w l2.1.b hLL he hll hlt fun t ht=>?_
 cases t with
 | false=>
  simp only [pwA,seval,-iQ0];exact no fun x=>by cases ht.2 (x.2.2.2.2.2 i hlt)
 | true=>
  simp only [pwA,seval,-iQ0,wrapS hlt (by omega:im.length≤4611686018427387904)]
  refine⟨_,by omega,i+1,by omega,rfl,rfl,fun j hj=>?_⟩
  by_cases e:j=i
  ·subst e;exact ht.1 rfl
  ·exact hall j (by omega)
end Go.Proofs
namespace Go.Proofs
open Go.Ab Go.Lie
variable {σ:PHeap} {K:PV→PHeap→Prop} {p p':Int} {n:Nat} {W W':List (List Int)} {B B':List (List (List Int))} {vP vB vP' vB' vL vL':PV}
theorem zM4 {α:Type} {xs ys:List α} (hl:xs.length=ys.length) {i:Nat} (hi:i<xs.length) (h:xs.take i=ys.take i) (he:xs[i]=ys[i]'(by omega)):xs.take (i+1)=ys.take (i+1):=by
 rw [List.take_succ_eq_append_getElem hi,List.take_succ_eq_append_getElem (by omega:i<ys.length),h,he]
end Go.Proofs
