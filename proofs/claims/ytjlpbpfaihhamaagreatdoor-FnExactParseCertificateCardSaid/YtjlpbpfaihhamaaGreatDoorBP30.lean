/- Plain law: commutators with generators; two ways to the lower central series. -/
import Derived.Test.YtjlpbpfaihhamaaGreatDoorBAbPy
import Derived.Test.YtjlpbpfaihhamaaGreatDoorChecked
open Int renaming reduceNatCast'→iQ0
set_option maxRecDepth 100000
namespace Go.Proofs
open Go.Ab
def mI0 (d s:Nat):II:=⟨some d,.mv (.t s),true,none⟩
def kI0 (d:Nat) (k:Int):II:=⟨some d,.mv (.c (.int .i64 k)),true,none⟩
def tI0 (d:Nat) (k:Bool):II:=⟨some d,.mv (.c (.bool k)),true,none⟩
def lI0 (d s:Nat):II:=⟨some d,.load false 1 (.t s),true,none⟩
def LI0 (d s:Nat):II:=⟨some d,.load true 3 (.t s),true,none⟩
def fI0 (d o s:Nat):II:=⟨some d,.fieldAddr o (.t s),true,none⟩
def xI0 (d a i:Nat):II:=⟨some d,.indexAddr 1 (.t a) (.t i),true,none⟩
def bI0 (d:Nat) (o:BinOp) (a b:Nat):II:=⟨some d,.bin o .other (.t a) (.t b),true,none⟩
def cI0 (d:Nat) (o:BinOp) (a:Nat) (k:Int):II:=⟨some d,.bin o .other (.t a) (.c (.int .i64 k)),true,none⟩
def nI0 (d s:Nat):II:=⟨some d,.un .not (.t s),true,none⟩
def sI0 (d s:Nat):II:=⟨some d,.len (.t s),true,none⟩
def pI0 (d s:Nat):II:=⟨some d,.nilCheck (.t s),true,none⟩
def eI0 (d s i:Nat):II:=⟨some d,.extract (.t s) i,true,none⟩
def C0 (d f:Nat):II:=⟨some d,.call f [],false,none⟩
def C1 (d f a:Nat):II:=⟨some d,.call f [.t a],false,none⟩
def C2 (d f a b:Nat):II:=⟨some d,.call f [.t a,.t b],false,none⟩
def C3 (d f a b c:Nat):II:=⟨some d,.call f [.t a,.t b,.t c],false,none⟩
def mD0 (d s n:Nat):DI:=⟨⟨some d,.mv (.t s),true,none⟩,n,[]⟩
def lD0 (d s n:Nat):DI:=⟨⟨some d,.load false 1 (.t s),true,none⟩,n,[]⟩
def fD0 (d o s n:Nat):DI:=⟨⟨some d,.fieldAddr o (.t s),true,none⟩,n,[]⟩
def xD0 (d a i n:Nat):DI:=⟨⟨some d,.indexAddr 1 (.t a) (.t i),true,none⟩,n,[]⟩
def pD0 (d s n:Nat):DI:=⟨⟨some d,.nilCheck (.t s),true,none⟩,n,[]⟩
def I0 (k:Int):IX:=.c (.int .i64 k)
def G0 (d:Nat) (o:IOp) (q:Bool) (t:Nat) (b:Bool):II:=⟨some d,o,q,some (t,b)⟩
def gm0 (d s t:Nat) (b:Bool):II:=⟨some d,.mv (.t s),true,some (t,b)⟩
def oI0 (d a b:Nat):II:=⟨some d,.pick (.t a) (.c (.bool true)) (.t b),true,none⟩
def aI0 (d a b:Nat):II:=⟨some d,.pick (.t a) (.t b) (.c (.bool false)),true,none⟩
def zI0 (d:Nat):II:=⟨some d,.mv (.c .nils),true,none⟩
def yI0 (d a:Nat) (k:Int):II:=⟨some d,.indexAddr 1 (.t a) (.c (.int .i64 k)),true,none⟩
def vI0 (n a b:Nat):II:=⟨none,.store n (.t a) (.t b),false,none⟩
def wD0 (n a b i:Nat):DI:=⟨⟨none,.store n (.t a) (.t b),false,none⟩,i,[]⟩
def R0 (l:List Nat) (i:List II):IC:=.region l i
def S0 (a b:IC):IC:=.seq a b
open Tryz
theorem mix:Tryz.prog.follows .mixedOrders=true:=by kernel_rfl
def if12:IFn:=⟨[0,1],[(.tmp 4)],(S0 (R0 [1,2] [eI 2 (.box (.t 0)),kI0 4 0])
 (S0 (R0 [1,2] [fI0 5 1 2,lI0 6 5,mI0 7 1,C2 8 38 6 7,mI0 1 8])
 (S0 (R0 [1] [fI0 9 2 2,lI0 10 9,mI0 11 1,C2 12 36 10 11,mI0 1 12])
 (S0 (R0 [4] [mI0 13 1,mI0 4 13])
 .ret))))⟩
theorem cf12:cF prog f12=some if12:=by kernel_rfl
def if14:IFn:=⟨[0],[(.cell 2 true 3),(.tmp 3)],(S0 (R0 [0,2] [eI 2 (.alloc [(.int .i64 0),.nils,.nils]),kI0 3 0])
 (S0 (R0 [2,4] [mI0 12 0,eI 13 (.call 41 [(.t 12),(.c (.int .u8 10))]),mI0 4 13])
 (S0 (R0 [2,4,5] [mI0 14 4,yI0 15 14 0,lI0 16 15,C1 17 42 16,qI 18 (.build [(.int .i64 0),.nils,.nils] [(0,1,(.t 17))]),eI 5 (.alloc [(.int .i64 0),.nils,.nils]),vI0 3 5 18])
 (S0 (R0 [2,4,5,6] [fI0 19 0 5,lI0 20 19,C1 21 43 20,mI0 6 21])
 (S0 (.seq (R0 [2,4,5,6,39] [mI0 22 6,cI0 23 .lss 22 0,mI0 24 23,gm0 25 4 24 false,G0 26 (.len (.t 25)) true 24 false,gm0 27 6 24 false,G0 28 (.bin .add .other (.t 27) (I0 2)) true 24 false,G0 29 (.bin .lss .other (.t 26) (.t 28)) true 24 false,oI0 30 24 29,mI0 31 30,gm0 32 4 31 false,gm0 33 4 31 false,G0 34 (.len (.t 33)) true 31 false,G0 35 (.bin .sub .other (.t 34) (I0 1)) true 31 false,G0 36 (.indexAddr 1 (.t 32) (.t 35)) true 31 false,G0 37 (.load false 1 (.t 36)) true 31 false,G0 38 (.bin .neq .other (.t 37) (.c (.str []))) true 31 false,oI0 39 31 38])
 (.cond (.t 39) (S0 (R0 [2,3] [qI 40 (.build [(.int .i64 0),.nils,.nils] []),vI0 3 2 40,kI0 3 6])
 .ret) .skip))
 (S0 (.seq (R0 [2,4,5,6,7] [kI0 7 1])
 (.block 0 (.loop [2,4,5,6,7] (S0 (.seq (R0 [2,4,5,6,7,45] [mI0 41 7,mI0 42 4,sI0 43 42,cI0 44 .sub 43 1,bI0 45 .lss 41 44])
 (.cond (.t 45) .skip (.exit 0)))
 (S0 (.block 1 (S0 (.seq (R0 [2,4,5,6,7,50] [mI0 48 7,mI0 49 6,bI0 50 .leq 48 49])
 (.cond (.t 50) (S0 (R0 [2,4,5,6,7,8,9] [mI0 52 4,mI0 53 7,xI0 54 52 53,lI0 55 54,C1 56 21 55,mI0 51 56,eI0 57 51 0,eI0 58 51 1,eI 8 (.alloc [.nils,.nils,.nils]),vI0 3 8 57,mI0 9 58])
 (S0 (.seq (R0 [2,4,5,6,7,8,60] [mI0 59 9,cI0 60 .neq 59 0])
 (.cond (.t 60) (S0 (R0 [2,3] [qI 61 (.build [(.int .i64 0),.nils,.nils] []),vI0 3 2 61,kI0 3 6])
 .ret) .skip))
 (S0 (R0 [2,4,5,6,7] [fI0 62 1 5,lI0 63 62,LI0 64 8,eI 65 (.buildSl 3 1 [.nils,.nils,.nils] [(0,3,(.t 64))]),eI 66 (.append 3 72 (.t 63) (.t 65)),fI0 67 1 5,vI0 1 67 66])
 (.exit 1)))) .skip))
 (S0 (R0 [2,4,5,6,7,10,11] [mI0 69 4,mI0 70 7,xI0 71 69 70,lI0 72 71,C1 73 44 72,mI0 68 73,eI0 74 68 0,eI0 75 68 1,mI0 10 74,mI0 11 75])
 (S0 (.seq (R0 [2,4,5,6,7,10,77] [mI0 76 11,nI0 77 76])
 (.cond (.t 77) (S0 (R0 [2,3] [qI 78 (.build [(.int .i64 0),.nils,.nils] []),vI0 3 2 78,kI0 3 6])
 .ret) .skip))
 (R0 [2,4,5,6,7] [fI0 79 2 5,lI0 80 79,mI0 81 10,eI 82 (.buildSl 1 1 [.nils] [(0,1,(.t 81))]),eI 83 (.append 1 24 (.t 80) (.t 82)),fI0 84 2 5,vI0 1 84 83])))))
 (R0 [2,4,5,6,7] [mI0 46 7,cI0 47 .add 46 1,mI0 7 47]))))))
 (S0 (.seq (R0 [2,5,87] [LI0 85 5,C1 86 45 85,nI0 87 86])
 (.cond (.t 87) (S0 (R0 [2,3] [qI 88 (.build [(.int .i64 0),.nils,.nils] []),vI0 3 2 88,kI0 3 6])
 .ret) .skip))
 (S0 (R0 [2,3] [LI0 89 5,vI0 3 2 89,kI0 3 0])
 .ret))))))))⟩
theorem cf14:cF prog f14=some if14:=by kernel_rfl
def if35:IFn:=⟨[0,1],[(.tmp 4)],(S0 (R0 [0,1] [kI0 4 0])
 (S0 (.seq (R0 [0,1,5] [kI0 5 0])
 (.block 0 (.loop [0,1,5] (S0 (.seq (R0 [0,1,5,9] [mI0 6 5,mI0 7 0,sI0 8 7,bI0 9 .lss 6 8])
 (.cond (.t 9) .skip (.exit 0)))
 (S0 (.block 1 (S0 (R0 [0,1,5] [mI0 12 0,mI0 13 5,mI0 14 1,xI0 15 12 13,vI0 1 15 14])
 (R0 [0,1,5] [mI0 16 1,cI0 17 .add 16 1,mI0 1 17])))
 (R0 [0,1,5] [mI0 10 5,cI0 11 .add 10 1,mI0 5 11]))))))
 (S0 (R0 [4] [mI0 18 1,mI0 4 18])
 .ret)))⟩
theorem cf35:cF prog f35=some if35:=by kernel_rfl
def if36:IFn:=⟨[0,1],[(.tmp 4)],(S0 (R0 [0,1] [kI0 4 0])
 (S0 (.seq (R0 [0,1,5] [kI0 5 0])
 (.block 0 (.loop [0,1,5] (S0 (.seq (R0 [0,1,5,9] [mI0 6 5,mI0 7 0,sI0 8 7,bI0 9 .lss 6 8])
 (.cond (.t 9) .skip (.exit 0)))
 (S0 (.block 1 (R0 [0,1,5] [mI0 12 0,mI0 13 5,xI0 14 12 13,lI0 15 14,mI0 16 1,C2 17 35 15 16,mI0 1 17]))
 (R0 [0,1,5] [mI0 10 5,cI0 11 .add 10 1,mI0 5 11]))))))
 (S0 (R0 [4] [mI0 18 1,mI0 4 18])
 .ret)))⟩
theorem cf36:cF prog f36=some if36:=by kernel_rfl
def if37:IFn:=⟨[0,1],[(.tmp 4)],(S0 (R0 [0,1] [kI0 4 0])
 (S0 (.seq (R0 [0,1,5] [kI0 5 0])
 (.block 0 (.loop [0,1,5] (S0 (.seq (R0 [0,1,5,9] [mI0 6 5,mI0 7 0,sI0 8 7,bI0 9 .lss 6 8])
 (.cond (.t 9) .skip (.exit 0)))
 (S0 (.block 1 (R0 [0,1,5] [mI0 12 0,mI0 13 5,xI0 14 12 13,lI0 15 14,mI0 16 1,C2 17 36 15 16,mI0 1 17]))
 (R0 [0,1,5] [mI0 10 5,cI0 11 .add 10 1,mI0 5 11]))))))
 (S0 (R0 [4] [mI0 18 1,mI0 4 18])
 .ret)))⟩
theorem cf37:cF prog f37=some if37:=by kernel_rfl
def if38:IFn:=⟨[0,1],[(.tmp 4)],(S0 (R0 [0,1] [kI0 4 0])
 (S0 (.seq (R0 [0,1,5] [kI0 5 0])
 (.block 0 (.loop [0,1,5] (S0 (.seq (R0 [0,1,5,9] [mI0 6 5,mI0 7 0,sI0 8 7,bI0 9 .lss 6 8])
 (.cond (.t 9) .skip (.exit 0)))
 (S0 (.block 1 (S0 (R0 [0,1,5] [mI0 12 0,mI0 13 5,qI 14 (.indexAddr 3 (.t 12) (.t 13)),fI0 15 0 14,lI0 16 15,mI0 17 1,C2 18 35 16 17,mI0 1 18])
 (S0 (R0 [0,1,5] [mI0 19 0,mI0 20 5,qI 21 (.indexAddr 3 (.t 19) (.t 20)),fI0 22 1 21,lI0 23 22,mI0 24 1,C2 25 36 23 24,mI0 1 25])
 (R0 [0,1,5] [mI0 26 0,mI0 27 5,qI 28 (.indexAddr 3 (.t 26) (.t 27)),fI0 29 2 28,lI0 30 29,mI0 31 1,C2 32 37 30 31,mI0 1 32]))))
 (R0 [0,1,5] [mI0 10 5,cI0 11 .add 10 1,mI0 5 11]))))))
 (S0 (R0 [4] [mI0 33 1,mI0 4 33])
 .ret)))⟩
theorem cf38:cF prog f38=some if38:=by kernel_rfl
def if41:IFn:=⟨[0,1],[(.tmp 4)],(S0 (R0 [0,1] [zI0 4])
 (S0 (R0 [0,1,5,6] [eI 8 (.buildSl 1 0 [(.str [])] []),mI0 5 8,kI0 6 0])
 (S0 (.seq (R0 [0,1,5,6,7] [kI0 7 0])
 (.block 0 (.loop [0,1,5,6,7] (S0 (.seq (R0 [0,1,5,6,7,12] [mI0 9 7,mI0 10 0,qI 11 (.lenStr (.t 10)),bI0 12 .lss 9 11])
 (.cond (.t 12) .skip (.exit 0)))
 (S0 (.block 1 (S0 (R0 [0,1,5,6,7,19] [mI0 15 0,mI0 16 7,qI 17 (.indexStr (.t 15) (.t 16)),mI0 18 1,bI0 19 .eql 17 18])
 (.cond (.t 19) (S0 (R0 [0,1,5,7] [mI0 20 5,mI0 21 0,mI0 22 6,mI0 23 7,qI 24 (.sliceStr (.t 21) (some (.t 22)) (some (.t 23))),eI 25 (.buildSl 1 1 [(.str [])] [(0,1,(.t 24))]),eI 26 (.append 1 16 (.t 20) (.t 25)),mI0 5 26])
 (R0 [0,1,5,6,7] [mI0 27 7,cI0 28 .add 27 1,mI0 6 28])) .skip)))
 (R0 [0,1,5,6,7] [mI0 13 7,cI0 14 .add 13 1,mI0 7 14]))))))
 (S0 (R0 [4] [mI0 29 5,mI0 30 0,mI0 31 6,qI 32 (.sliceStr (.t 30) (some (.t 31)) none),eI 33 (.buildSl 1 1 [(.str [])] [(0,1,(.t 32))]),eI 34 (.append 1 16 (.t 29) (.t 33)),mI0 4 34])
 .ret))))⟩
theorem cf41:cF prog f41=some if41:=by kernel_rfl
def if44:IFn:=⟨[0],[(.tmp 2),(.tmp 3)],(S0 (R0 [0] [zI0 2,tI0 3 false])
 (S0 (R0 [4] [mI0 9 0,eI 10 (.call 41 [(.t 9),(.c (.int .u8 32))]),mI0 4 10])
 (S0 (.seq (R0 [4,14] [mI0 11 4,yI0 12 11 0,lI0 13 12,qI 14 (.bin .neq .other (.t 13) (.c (.str [58])))])
 (.cond (.t 14) (S0 (R0 [2,3] [zI0 2,tI0 3 false])
 .ret) .skip))
 (S0 (R0 [4,5] [eI 15 (.buildSl 1 0 [(.int .i64 0)] []),mI0 5 15])
 (S0 (.seq (R0 [4,5,6] [kI0 6 1])
 (.block 0 (.loop [4,5,6] (S0 (.seq (R0 [4,5,6,19] [mI0 16 6,mI0 17 4,sI0 18 17,bI0 19 .lss 16 18])
 (.cond (.t 19) .skip (.exit 0)))
 (S0 (.block 1 (S0 (R0 [4,5,6,7,8] [mI0 23 4,mI0 24 6,xI0 25 23 24,lI0 26 25,C1 27 67 26,mI0 22 27,eI0 28 22 0,eI0 29 22 1,mI0 7 28,mI0 8 29])
 (S0 (.seq (R0 [4,5,6,7,31] [mI0 30 8,nI0 31 30])
 (.cond (.t 31) (S0 (R0 [2,3] [zI0 2,tI0 3 false])
 .ret) .skip))
 (R0 [4,5,6] [mI0 32 5,mI0 33 7,eI 34 (.buildSl 1 1 [(.int .i64 0)] [(0,1,(.t 33))]),eI 35 (.append 1 8 (.t 32) (.t 34)),mI0 5 35]))))
 (R0 [4,5,6] [mI0 20 6,cI0 21 .add 20 1,mI0 6 21]))))))
 (S0 (R0 [2,3] [mI0 36 5,mI0 2 36,tI0 3 true])
 .ret))))))⟩
theorem cf44:cF prog f44=some if44:=by kernel_rfl
def if46:IFn:=⟨[0],[(.cell 2 true 3),(.tmp 3)],(S0 (R0 [0,2] [eI 2 (.alloc [(.int .i64 0),.nils,.nils]),tI0 3 false])
 (S0 (R0 [0,2,4] [mI0 17 0,eI 18 (.call 69 [(.t 17),(.c (.str [10]))]),mI0 4 18])
 (S0 (R0 [0,2,4,5,6] [mI0 20 4,yI0 21 20 0,lI0 22 21,eI 23 (.call 70 [(.t 22),(I0 10),(I0 64)]),mI0 19 23,eI0 24 19 0,eI0 25 19 1,mI0 5 24,mI0 6 25])
 (S0 (R0 [0,2,4,5,6,7] [mI0 26 5,qI 27 (.build [(.int .i64 0),.nils,.nils] [(0,1,(.t 26))]),eI 7 (.alloc [(.int .i64 0),.nils,.nils]),vI0 3 7 27])
 (S0 (.seq (R0 [0,2,4,5,7,37] [mI0 28 6,qI 29 (.errB .neq (.t 28)),mI0 30 29,gm0 31 4 30 false,G0 32 (.len (.t 31)) true 30 false,gm0 33 5 30 false,G0 34 (.call 71 [(.t 33)]) false 30 false,G0 35 (.bin .add .other (I0 2) (.t 34)) true 30 false,G0 36 (.bin .lss .other (.t 32) (.t 35)) true 30 false,oI0 37 30 36])
 (.cond (.t 37) (S0 (R0 [2,3] [qI 38 (.build [(.int .i64 0),.nils,.nils] []),vI0 3 2 38,tI0 3 false])
 .ret) .skip))
 (S0 (.seq (R0 [0,2,5,7,43,44,45] [mI0 39 4,mI0 40 4,sI0 41 40,cI0 42 .sub 41 1,qI 43 (.slice 1 (.t 39) (some (I0 1)) (some (.t 42)) none),sI0 44 43,kI0 45 0])
 (.block 0 (.loop [0,2,5,7,43,44,45] (S0 (R0 [0,2,5,7,43,44,45,46] [bI0 46 .lss 45 44])
 (S0 (.cond (.t 46) .skip (.exit 0))
 (S0 (.block 1 (S0 (R0 [0,2,5,7,8,9,43,44,45] [mI0 47 45,xI0 48 43 45,lI0 49 48,mI0 8 47,mI0 9 49])
 (S0 (.seq (R0 [0,2,5,7,9,43,44,45,53] [mI0 50 8,mI0 51 5,C1 52 71 51,bI0 53 .lss 50 52])
 (.cond (.t 53) (S0 (R0 [0,2,5,7,10,11,43,44,45] [mI0 55 9,C1 56 61 55,mI0 54 56,eI0 57 54 0,eI0 58 54 1,eI 10 (.alloc [.nils,.nils,.nils]),vI0 3 10 57,mI0 11 58])
 (S0 (.seq (R0 [0,2,5,7,10,43,44,45,60] [mI0 59 11,nI0 60 59])
 (.cond (.t 60) (S0 (R0 [2,3] [qI 61 (.build [(.int .i64 0),.nils,.nils] []),vI0 3 2 61,tI0 3 false])
 .ret) .skip))
 (S0 (R0 [0,2,5,7,43,44,45] [fI0 62 1 7,lI0 63 62,LI0 64 10,eI 65 (.buildSl 3 1 [.nils,.nils,.nils] [(0,3,(.t 64))]),eI 66 (.append 3 72 (.t 63) (.t 65)),fI0 67 1 7,vI0 1 67 66])
 (.exit 1)))) .skip))
 (S0 (R0 [0,2,5,7,9,12,43,44,45] [zI0 12])
 (S0 (.seq (R0 [0,2,5,7,12,43,44,45,70,71,72] [mI0 68 9,eI 69 (.call 69 [(.t 68),(.c (.str [32]))]),qI 70 (.slice 1 (.t 69) (some (I0 1)) none none),sI0 71 70,kI0 72 0])
 (.block 2 (.loop [0,2,5,7,12,43,44,45,70,71,72] (S0 (R0 [0,2,5,7,12,43,44,45,70,71,72,73] [bI0 73 .lss 72 71])
 (S0 (.cond (.t 73) .skip (.exit 2))
 (S0 (.block 3 (S0 (R0 [0,2,5,7,12,14,43,44,45,70,71,72] [xI0 74 70 72,lI0 75 74,mI0 14 75])
 (S0 (R0 [0,2,5,7,12,15,16,43,44,45,70,71,72] [mI0 77 14,eI 78 (.call 70 [(.t 77),(I0 10),(I0 64)]),mI0 76 78,eI0 79 76 0,eI0 80 76 1,mI0 15 79,mI0 16 80])
 (S0 (.seq (R0 [0,2,5,7,12,15,43,44,45,70,71,72,82] [mI0 81 16,qI 82 (.errB .neq (.t 81))])
 (.cond (.t 82) (S0 (R0 [2,3] [qI 83 (.build [(.int .i64 0),.nils,.nils] []),vI0 3 2 83,tI0 3 false])
 .ret) .skip))
 (R0 [0,2,5,7,12,43,44,45,70,71,72] [mI0 84 12,mI0 85 15,eI 86 (.buildSl 1 1 [(.int .i64 0)] [(0,1,(.t 85))]),eI 87 (.append 1 8 (.t 84) (.t 86)),mI0 12 87])))))
 (R0 [0,2,5,7,12,43,44,45,70,71,72] [cI0 88 .add 72 1,mI0 72 88])))))))
 (R0 [0,2,5,7,43,44,45] [fI0 89 2 7,lI0 90 89,mI0 91 12,eI 92 (.buildSl 1 1 [.nils] [(0,1,(.t 91))]),eI 93 (.append 1 24 (.t 90) (.t 92)),fI0 94 2 7,vI0 1 94 93]))))))
 (R0 [0,2,5,7,43,44,45] [cI0 95 .add 45 1,mI0 45 95])))))))
 (S0 (.seq (R0 [2,7,102] [C1 96 72 7,nI0 97 96,mI0 98 97,G0 99 (.call 73 [(.t 7)]) false 98 false,gm0 100 0 98 false,G0 101 (.bin .neq .other (.t 99) (.t 100)) true 98 false,oI0 102 98 101])
 (.cond (.t 102) (S0 (R0 [2,3] [qI 103 (.build [(.int .i64 0),.nils,.nils] []),vI0 3 2 103,tI0 3 false])
 .ret) .skip))
 (S0 (R0 [2,3] [LI0 104 7,vI0 3 2 104,tI0 3 true])
 .ret))))))))⟩
theorem cf46:cF prog f46=some if46:=by kernel_rfl
def if49:IFn:=⟨[0],[(.tmp 2),(.tmp 3)],(S0 (R0 [0] [zI0 2,tI0 3 false])
 (S0 (R0 [0,4] [eI 8 (.buildSl 1 0 [(.int .i64 0)] []),mI0 4 8])
 (S0 (.seq (R0 [0,4,10] [mI0 9 0,qI 10 (.bin .eql .other (.t 9) (.c (.str [49])))])
 (.cond (.t 10) (S0 (R0 [2,3] [mI0 11 4,mI0 2 11,tI0 3 true])
 .ret) .skip))
 (S0 (R0 [4,5] [mI0 12 0,eI 13 (.call 41 [(.t 12),(.c (.int .u8 32))]),mI0 5 13])
 (S0 (.seq (R0 [4,5,6] [kI0 6 0])
 (.block 0 (.loop [4,5,6] (S0 (.seq (R0 [4,5,6,17] [mI0 14 6,mI0 15 5,sI0 16 15,bI0 17 .lss 14 16])
 (.cond (.t 17) .skip (.exit 0)))
 (S0 (.block 1 (S0 (R0 [4,5,6,7] [mI0 20 5,mI0 21 6,xI0 22 20 21,lI0 23 22,C1 24 42 23,mI0 7 24])
 (S0 (.seq (R0 [4,5,6,7,31] [mI0 25 7,C1 26 74 25,nI0 27 26,mI0 28 27,gm0 29 6 28 false,G0 30 (.bin .geq .other (.t 29) (I0 6)) true 28 false,oI0 31 28 30])
 (.cond (.t 31) (S0 (R0 [2,3] [zI0 2,tI0 3 false])
 .ret) .skip))
 (R0 [4,5,6] [mI0 32 4,mI0 33 7,eI 34 (.buildSl 1 1 [(.int .i64 0)] [(0,1,(.t 33))]),eI 35 (.append 1 8 (.t 32) (.t 34)),mI0 4 35]))))
 (R0 [4,5,6] [mI0 18 6,cI0 19 .add 18 1,mI0 6 19]))))))
 (S0 (R0 [2,3] [mI0 36 4,mI0 37 4,C1 38 75 37,cI0 39 .leq 38 729,mI0 2 36,mI0 3 39])
 .ret))))))⟩
theorem cf49:cF prog f49=some if49:=by kernel_rfl
def if52:IFn:=⟨[0],[(.tmp 2)],(S0 (R0 [1] [eI 1 (.box (.t 0)),qI 2 (.mv (.c (.str [])))])
 (S0 (R0 [1,3] [fI0 9 0 1,lI0 10 9,sI0 11 10,mI0 3 11])
 (S0 (R0 [1,3,4] [qI 4 (.mv (.c (.str [])))])
 (S0 (.seq (R0 [1,3,4,13] [mI0 12 3,cI0 13 .eql 12 0])
 (.cond (.t 13) (S0 (R0 [2] [qI 2 (.mv (.c (.str [49])))])
 .ret) .skip))
 (S0 (.seq (R0 [1,3,4,5] [kI0 5 0])
 (.block 0 (.loop [1,3,4,5] (S0 (.seq (R0 [1,3,4,5,16] [mI0 14 5,mI0 15 3,bI0 16 .lss 14 15])
 (.cond (.t 16) .skip (.exit 0)))
 (S0 (.block 1 (S0 (.seq (R0 [1,3,4,5,20] [mI0 19 5,cI0 20 .gtr 19 0])
 (.cond (.t 20) (R0 [1,3,4,5] [mI0 21 4,qI 22 (.bin .add .other (.t 21) (.c (.str [32]))),mI0 4 22]) .skip))
 (R0 [1,3,4,5] [mI0 23 4,fI0 24 0 1,lI0 25 24,mI0 26 5,xI0 27 25 26,lI0 28 27,C1 29 81 28,bI0 30 .add 23 29,mI0 4 30])))
 (R0 [1,3,4,5] [mI0 17 5,cI0 18 .add 17 1,mI0 5 18]))))))
 (S0 (.seq (R0 [1,3,4,6] [kI0 6 0])
 (.block 2 (.loop [1,3,4,6] (S0 (.seq (R0 [1,3,4,6,33] [mI0 31 6,mI0 32 3,bI0 33 .lss 31 32])
 (.cond (.t 33) .skip (.exit 2)))
 (S0 (.block 3 (S0 (R0 [1,3,4,6,42] [fI0 36 1 1,lI0 37 36,mI0 38 6,xI0 39 37 38,lI0 40 39,C1 41 82 40,nI0 42 41])
 (.cond (.t 42) (.draw [1,3,4,6] [] [mD0 43 4 0,qD 44 (.bin .add .other (.t 43) (.c (.str [59,32]))) 1,mD0 45 6 2,fD0 49 0 1 6,lD0 50 49 7,mD0 51 6 8,xD0 52 50 51 9,lD0 53 52 10,fD0 57 1 1 14,lD0 58 57 15,mD0 59 6 16,xD0 60 58 59 17,lD0 61 60 18,eD 46 (.call 83 [(.t 45)]) 3 [7,10,15,18],qD 47 (.bin .add .other (.t 44) (.t 46)) 4,qD 48 (.bin .add .other (.t 47) (.c (.str [94]))) 5,eD 54 (.call 81 [(.t 53)]) 11 [15,18],qD 55 (.bin .add .other (.t 48) (.t 54)) 12,qD 56 (.bin .add .other (.t 55) (.c (.str [61]))) 13,eD 62 (.call 85 [(.t 61)]) 19 [],eD 63 (.call 84 [(.t 62)]) 20 [],qD 64 (.bin .add .other (.t 56) (.t 63)) 21,mD0 4 64 22]) .skip)))
 (R0 [1,3,4,6] [mI0 34 6,cI0 35 .add 34 1,mI0 6 35]))))))
 (S0 (.seq (R0 [1,3,4,7] [kI0 7 0])
 (.block 4 (.loop [1,3,4,7] (S0 (.seq (R0 [1,3,4,7,67] [mI0 65 7,mI0 66 3,bI0 67 .lss 65 66])
 (.cond (.t 67) .skip (.exit 4)))
 (S0 (.block 5 (S0 (R0 [1,3,4,7,8] [mI0 70 7,cI0 71 .add 70 1,mI0 8 71])
 (.block 6 (.loop [1,3,4,7,8] (S0 (.seq (R0 [1,3,4,7,8,74] [mI0 72 8,mI0 73 3,bI0 74 .lss 72 73])
 (.cond (.t 74) .skip (.exit 6)))
 (S0 (.block 7 (S0 (.draw [1,3,4,7,8,92] [] [fD0 77 2 1 0,lD0 78 77 1,mD0 79 7 2,xD0 80 78 79 3,lD0 81 80 4,mD0 82 8 5,mD0 83 7 6,qD 84 (.bin .sub .other (.t 82) (.t 83)) 7,qD 85 (.bin .sub .other (.t 84) (I0 1)) 8,xD0 86 81 85 9,lD0 87 86 10,mD0 88 3 11,mD0 89 8 12,eD 90 (.call 78 [(.t 88),(.t 89)]) 13 [1,4,10],eD 91 (.call 86 [(.t 87),(.t 90)]) 14 [],qD 92 (.un .not (.t 91)) 15])
 (.cond (.t 92) (.draw [1,3,4,7,8] [] [mD0 93 4 0,qD 94 (.bin .add .other (.t 93) (.c (.str [59,32]))) 1,mD0 95 8 2,mD0 99 7 6,fD0 103 2 1 10,lD0 104 103 11,mD0 105 7 12,xD0 106 104 105 13,lD0 107 106 14,mD0 108 8 15,mD0 109 7 16,qD 110 (.bin .sub .other (.t 108) (.t 109)) 17,qD 111 (.bin .sub .other (.t 110) (I0 1)) 18,xD0 112 107 111 19,lD0 113 112 20,eD 96 (.call 83 [(.t 95)]) 3 [11,14,20],qD 97 (.bin .add .other (.t 94) (.t 96)) 4,qD 98 (.bin .add .other (.t 97) (.c (.str [94]))) 5,eD 100 (.call 83 [(.t 99)]) 7 [11,14,20],qD 101 (.bin .add .other (.t 98) (.t 100)) 8,qD 102 (.bin .add .other (.t 101) (.c (.str [61]))) 9,eD 114 (.call 85 [(.t 113)]) 21 [],eD 115 (.call 84 [(.t 114)]) 22 [],qD 116 (.bin .add .other (.t 102) (.t 115)) 23,mD0 4 116 24]) .skip)))
 (R0 [1,3,4,7,8] [mI0 75 8,cI0 76 .add 75 1,mI0 8 76])))))))
 (R0 [1,3,4,7] [mI0 68 7,cI0 69 .add 68 1,mI0 7 69]))))))
 (S0 (R0 [2] [mI0 117 4,mI0 2 117])
 .ret))))))))⟩
theorem cf52:cF prog f52=some if52:=by kernel_rfl
def if61:IFn:=⟨[0],[(.cell 2 true 3),(.tmp 3)],(S0 (R0 [0,2] [eI 2 (.alloc [.nils,.nils,.nils]),tI0 3 false])
 (S0 (R0 [0,2,4] [mI0 26 0,eI 27 (.call 69 [(.t 26),(.c (.str [59,32]))]),mI0 4 27])
 (S0 (R0 [0,2,4,5] [zI0 5])
 (S0 (.seq (R0 [0,2,4,5,31] [mI0 28 4,yI0 29 28 0,lI0 30 29,qI 31 (.bin .neq .other (.t 30) (.c (.str [49])))])
 (.cond (.t 31) (S0 (R0 [0,2,4,5,35,36,37] [mI0 32 4,yI0 33 32 0,lI0 34 33,eI 35 (.call 69 [(.t 34),(.c (.str [32]))]),sI0 36 35,kI0 37 0])
 (.block 0 (.loop [0,2,4,5,35,36,37] (S0 (R0 [0,2,4,5,35,36,37,38] [bI0 38 .lss 37 36])
 (S0 (.cond (.t 38) .skip (.exit 0))
 (S0 (.block 1 (S0 (R0 [0,2,4,5,7,35,36,37] [xI0 39 35 37,lI0 40 39,mI0 7 40])
 (S0 (R0 [0,2,4,5,8,9,35,36,37] [mI0 42 7,eI 43 (.call 70 [(.t 42),(I0 10),(I0 64)]),mI0 41 43,eI0 44 41 0,eI0 45 41 1,mI0 8 44,mI0 9 45])
 (S0 (.seq (R0 [0,2,4,5,8,35,36,37,47] [mI0 46 9,qI 47 (.errB .neq (.t 46))])
 (.cond (.t 47) (S0 (R0 [2,3] [qI 48 (.build [.nils,.nils,.nils] []),vI0 3 2 48,tI0 3 false])
 .ret) .skip))
 (R0 [0,2,4,5,35,36,37] [mI0 49 5,mI0 50 8,eI 51 (.buildSl 1 1 [(.int .i64 0)] [(0,1,(.t 50))]),eI 52 (.append 1 8 (.t 49) (.t 51)),mI0 5 52])))))
 (R0 [0,2,4,5,35,36,37] [cI0 53 .add 37 1,mI0 37 53]))))))) .skip))
 (S0 (R0 [0,2,4,5,10] [mI0 54 5,sI0 55 54,mI0 10 55])
 (S0 (.seq (R0 [0,2,4,5,10,57] [mI0 56 10,cI0 57 .gtr 56 6])
 (.cond (.t 57) (S0 (R0 [2,3] [qI 58 (.build [.nils,.nils,.nils] []),vI0 3 2 58,tI0 3 false])
 .ret) .skip))
 (S0 (R0 [0,2,4,10,11] [mI0 59 5,C1 60 94 59,eI 11 (.alloc [.nils,.nils,.nils]),vI0 3 11 60])
 (S0 (.seq (R0 [0,2,10,11,62,63,64] [mI0 61 4,qI 62 (.slice 1 (.t 61) (some (I0 1)) none none),sI0 63 62,kI0 64 0])
 (.block 2 (.loop [0,2,10,11,62,63,64] (S0 (R0 [0,2,10,11,62,63,64,65] [bI0 65 .lss 64 63])
 (S0 (.cond (.t 65) .skip (.exit 2))
 (S0 (.block 3 (S0 (R0 [0,2,10,11,13,62,63,64] [xI0 66 62 64,lI0 67 66,mI0 13 67])
 (S0 (R0 [0,2,10,11,14,15,62,63,64] [mI0 69 13,eI 70 (.call 95 [(.t 69),(.c (.str [61]))]),mI0 68 70,eI0 71 68 0,eI0 72 68 1,eI0 73 68 2,mI0 14 71,mI0 15 72,mI0 16 73])
 (S0 (R0 [0,2,10,11,15,17,18,62,63,64] [mI0 75 14,eI 76 (.call 95 [(.t 75),(.c (.str [94]))]),mI0 74 76,eI0 77 74 0,eI0 78 74 1,eI0 79 74 2,mI0 17 77,mI0 18 78,mI0 19 79])
 (S0 (R0 [0,2,10,11,17,18,20,21,62,63,64] [mI0 81 10,mI0 82 15,C2 83 96 81 82,mI0 80 83,eI0 84 80 0,eI0 85 80 1,mI0 20 84,mI0 21 85])
 (S0 (R0 [0,2,10,11,18,20,21,22,23,62,63,64] [mI0 87 10,mI0 88 17,C2 89 97 87 88,mI0 86 89,eI0 90 86 0,eI0 91 86 1,mI0 22 90,mI0 23 91])
 (S0 (.seq (R0 [0,2,10,11,18,20,22,62,63,64,97] [mI0 92 21,nI0 93 92,mI0 94 93,gm0 95 23 94 false,G0 96 (.un .not (.t 95)) true 94 false,oI0 97 94 96])
 (.cond (.t 97) (S0 (R0 [2,3] [qI 98 (.build [.nils,.nils,.nils] []),vI0 3 2 98,tI0 3 false])
 .ret) .skip))
 (S0 (R0 [0,2,10,11,20,22,24,25,62,63,64] [mI0 100 10,mI0 101 18,C2 102 97 100 101,mI0 99 102,eI0 103 99 0,eI0 104 99 1,mI0 24 103,mI0 25 104])
 (S0 (R0 [0,2,10,11,20,22,24,62,63,64,106] [mI0 105 25,nI0 106 105])
 (.cond (.t 106) (R0 [0,2,10,11,62,63,64] [fI0 107 1 11,lI0 108 107,mI0 109 22,mI0 110 20,xI0 111 108 109,vI0 1 111 110]) (S0 (R0 [0,2,10,11,20,22,24,62,63,64,114] [mI0 112 24,mI0 113 22,bI0 114 .lss 112 113])
 (.cond (.t 114) (R0 [0,2,10,11,62,63,64] [fI0 115 2 11,lI0 116 115,mI0 117 24,xI0 118 116 117,lI0 119 118,mI0 120 22,mI0 121 24,bI0 122 .sub 120 121,cI0 123 .sub 122 1,mI0 124 20,xI0 125 119 123,vI0 1 125 124]) .skip))))))))))))
 (R0 [0,2,10,11,62,63,64] [cI0 126 .add 64 1,mI0 64 126])))))))
 (S0 (.seq (R0 [2,11,134] [LI0 127 11,C1 128 59 127,nI0 129 128,mI0 130 129,G0 131 (.call 98 [(.t 11)]) false 130 false,gm0 132 0 130 false,G0 133 (.bin .neq .other (.t 131) (.t 132)) true 130 false,oI0 134 130 133])
 (.cond (.t 134) (S0 (R0 [2,3] [qI 135 (.build [.nils,.nils,.nils] []),vI0 3 2 135,tI0 3 false])
 .ret) .skip))
 (S0 (R0 [2,3] [LI0 136 11,vI0 3 2 136,tI0 3 true])
 .ret))))))))))⟩
theorem cf61:cF prog f61=some if61:=by kernel_rfl
def if66:IFn:=⟨[0,1],[(.tmp 4)],(S0 (R0 [0,1] [kI0 4 0])
 (S0 (.seq (R0 [0,1,5] [kI0 5 0])
 (.block 0 (.loop [0,1,5] (S0 (.seq (R0 [0,1,5,9] [mI0 6 5,mI0 7 0,sI0 8 7,bI0 9 .lss 6 8])
 (.cond (.t 9) .skip (.exit 0)))
 (S0 (.block 1 (S0 (R0 [0,1,5] [mI0 12 0,mI0 13 5,xI0 14 12 13,lI0 15 14,mI0 16 1,C2 17 40 15 16,mI0 1 17])
 (S0 (R0 [0,1,5,19] [mI0 18 1,cI0 19 .lss 18 0])
 (.cond (.t 19) (S0 (R0 [4] [kI0 4 (-1)])
 .ret) .skip))))
 (R0 [0,1,5] [mI0 10 5,cI0 11 .add 10 1,mI0 5 11]))))))
 (S0 (R0 [4] [mI0 20 1,mI0 4 20])
 .ret)))⟩
theorem cf66:cF prog f66=some if66:=by kernel_rfl
def if67:IFn:=⟨[0],[(.tmp 2),(.tmp 3)],(S0 (R0 [0] [kI0 2 0,tI0 3 false])
 (S0 (.seq (R0 [0,7] [mI0 6 0,qI 7 (.bin .eql .other (.t 6) (.c (.str [49,48,48,48,48,48,48])))])
 (.cond (.t 7) (S0 (R0 [2,3] [kI0 2 1000000,tI0 3 true])
 .ret) .skip))
 (S0 (.seq (R0 [0,9] [mI0 8 0,qI 9 (.bin .eql .other (.t 8) (.c (.str [45,49,48,48,48,48,48,48])))])
 (.cond (.t 9) (S0 (R0 [2,3] [kI0 2 (-1000000),tI0 3 true])
 .ret) .skip))
 (S0 (.seq (R0 [0,17] [mI0 10 0,qI 11 (.lenStr (.t 10)),cI0 12 .gtr 11 0,mI0 13 12,gm0 14 0 13 true,G0 15 (.indexStr (.t 14) (I0 0)) true 13 true,G0 16 (.bin .eql .other (.t 15) (.c (.int .u8 45))) true 13 true,aI0 17 13 16])
 (.cond (.t 17) (S0 (R0 [4] [mI0 18 0,qI 19 (.sliceStr (.t 18) (some (I0 1)) none),C1 20 42 19,mI0 4 20])
 (S0 (R0 [2,3] [mI0 21 4,qI 22 (.un .neg (.t 21)),mI0 23 4,cI0 24 .gtr 23 0,mI0 2 22,mI0 3 24])
 .ret)) .skip))
 (S0 (R0 [5] [mI0 25 0,C1 26 42 25,mI0 5 26])
 (S0 (R0 [2,3] [mI0 27 5,mI0 28 5,cI0 29 .geq 28 0,mI0 2 27,mI0 3 29])
 .ret))))))⟩
theorem cf67:cF prog f67=some if67:=by kernel_rfl
def if79:IFn:=⟨[0,1],[(.tmp 4),(.tmp 5)],(S0 (R0 [0,1] [zI0 4,tI0 5 false])
 (S0 (.seq (R0 [0,1,11] [mI0 10 1,qI 11 (.bin .eql .other (.t 10) (.c (.str [49])))])
 (.cond (.t 11) (S0 (R0 [4,5] [eI 12 (.buildSl 1 0 [(.int .i64 0)] []),mI0 4 12,tI0 5 true])
 .ret) .skip))
 (S0 (R0 [0,1,6] [eI 13 (.buildSl 1 0 [(.int .i64 0)] []),mI0 6 13])
 (S0 (.seq (R0 [0,1,6,7] [kI0 7 0])
 (.block 0 (.loop [0,1,6,7] (S0 (.seq (R0 [0,1,6,7,17] [mI0 14 7,mI0 15 1,qI 16 (.lenStr (.t 15)),bI0 17 .lss 14 16])
 (.cond (.t 17) .skip (.exit 0)))
 (S0 (.block 1 (S0 (.draw [0,1,6,7,8,9] [] [mD0 20 1 0,mD0 21 7 1,qD 22 (.indexStr (.t 20) (.t 21)) 2,qD 23 (.conv .i64 (.t 22)) 3,qD 24 (.bin .sub .other (.t 23) (I0 97)) 4,qD 25 (.bin .add .other (.t 24) (I0 1)) 5,mD0 26 1 6,mD0 27 7 7,qD 28 (.indexStr (.t 26) (.t 27)) 8,qD 29 (.conv .i64 (.t 28)) 9,qD 30 (.bin .sub .other (.t 29) (I0 65)) 10,qD 31 (.bin .add .other (.t 30) (I0 1)) 11,mD0 8 25 12,mD0 9 31 13])
 (.block 2 (S0 (R0 [0,1,6,7,8,9,32] [mI0 33 8,mI0 34 0,eI 35 (.call 68 [(.t 33),(I0 1),(.t 34)]),mI0 32 35])
 (.cond (.t 32) (R0 [0,1,6,7] [mI0 36 6,mI0 37 8,eI 38 (.buildSl 1 1 [(.int .i64 0)] [(0,1,(.t 37))]),eI 39 (.append 1 8 (.t 36) (.t 38)),mI0 6 39]) (S0 (R0 [0,1,6,7,9,40] [mI0 41 9,mI0 42 0,eI 43 (.call 68 [(.t 41),(I0 1),(.t 42)]),mI0 40 43])
 (.cond (.t 40) (R0 [0,1,6,7] [mI0 44 6,mI0 45 9,qI 46 (.un .neg (.t 45)),eI 47 (.buildSl 1 1 [(.int .i64 0)] [(0,1,(.t 46))]),eI 48 (.append 1 8 (.t 44) (.t 47)),mI0 6 48]) (S0 (R0 [4,5] [zI0 4,tI0 5 false])
 .ret))))))))
 (R0 [0,1,6,7] [mI0 18 7,cI0 19 .add 18 1,mI0 7 19]))))))
 (S0 (R0 [4,5] [mI0 49 6,mI0 50 6,sI0 51 50,cI0 52 .gtr 51 0,mI0 4 49,mI0 5 52])
 .ret)))))⟩
theorem cf79:cF prog f79=some if79:=by kernel_rfl
def if81:IFn:=⟨[0],[(.tmp 2)],(S0 (R0 [0] [qI 2 (.mv (.c (.str [])))])
 (S0 (.seq (R0 [0,4] [mI0 3 0,cI0 4 .lss 3 10])
 (.cond (.t 4) (S0 (R0 [2] [mI0 5 0,qI 6 (.bin .add .other (I0 48) (.t 5)),qI 7 (.conv .u8 (.t 6)),eI 8 (.buildSl 1 1 [(.int .u8 0)] [(0,1,(.t 7))]),eI 9 (.strOf (.t 8)),mI0 2 9])
 .ret) .skip))
 (S0 (.tree [2] (.q (mD0 10 0 0) (.q (qD 11 (.bin .quo .other (.t 10) (I0 10)) 1) (.q (mD0 13 0 3) (.q (qD 14 (.bin .rem .other (.t 13) (I0 10)) 4) (.q (qD 15 (.bin .add .other (I0 48) (.t 14)) 5) (.q (qD 16 (.conv .u8 (.t 15)) 6) (.e (eD 12 (.call 81 [(.t 11)]) 2 []) (.e (eD 17 (.buildSl 1 1 [(.int .u8 0)] [(0,1,(.t 16))]) 7 []) (.e (eD 18 (.strOf (.t 17)) 8 []) (.q (qD 19 (.bin .add .other (.t 12) (.t 18)) 9) (.q (mD0 2 19 10) .done)) .none) .none) (.e (eD 17 (.buildSl 1 1 [(.int .u8 0)] [(0,1,(.t 16))]) 7 []) (.e (eD 12 (.call 81 [(.t 11)]) 2 []) (.e (eD 18 (.strOf (.t 17)) 8 []) (.q (qD 19 (.bin .add .other (.t 12) (.t 18)) 9) (.q (mD0 2 19 10) .done)) .none) (.e (eD 18 (.strOf (.t 17)) 8 []) (.e (eD 12 (.call 81 [(.t 11)]) 2 []) (.q (qD 19 (.bin .add .other (.t 12) (.t 18)) 9) (.q (mD0 2 19 10) .done)) .none) .none)) .none)))))))))
 .ret)))⟩
theorem cf81:cF prog f81=some if81:=by kernel_rfl
def if83:IFn:=⟨[0],[(.tmp 2)],(S0 (R0 [0] [qI 2 (.mv (.c (.str [])))])
 (S0 (R0 [2] [mI0 3 0,cI0 4 .add 3 1,eI 5 (.buildSl 1 1 [(.int .i64 0)] [(0,1,(.t 4))]),C1 6 84 5,mI0 2 6])
 .ret))⟩
theorem cf83:cF prog f83=some if83:=by kernel_rfl
def if84:IFn:=⟨[0],[(.tmp 2)],(S0 (R0 [0] [qI 2 (.mv (.c (.str [])))])
 (S0 (.seq (R0 [0,7] [mI0 5 0,sI0 6 5,cI0 7 .eql 6 0])
 (.cond (.t 7) (S0 (R0 [2] [qI 2 (.mv (.c (.str [49])))])
 .ret) .skip))
 (S0 (R0 [0,3] [eI 8 (.buildSl 1 0 [(.int .u8 0)] []),mI0 3 8])
 (S0 (.seq (R0 [0,3,4] [kI0 4 0])
 (.block 0 (.loop [0,3,4] (S0 (.seq (R0 [0,3,4,12] [mI0 9 4,mI0 10 0,sI0 11 10,bI0 12 .lss 9 11])
 (.cond (.t 12) .skip (.exit 0)))
 (S0 (.block 1 (S0 (R0 [0,3,4,19] [mI0 15 0,mI0 16 4,xI0 17 15 16,lI0 18 17,cI0 19 .gtr 18 0])
 (.cond (.t 19) (R0 [0,3,4] [mI0 20 3,mI0 21 0,mI0 22 4,xI0 23 21 22,lI0 24 23,qI 25 (.bin .add .other (I0 97) (.t 24)),cI0 26 .sub 25 1,qI 27 (.conv .u8 (.t 26)),eI 28 (.buildSl 1 1 [(.int .u8 0)] [(0,1,(.t 27))]),eI 29 (.append 1 1 (.t 20) (.t 28)),mI0 3 29]) (R0 [0,3,4] [mI0 30 3,mI0 31 0,mI0 32 4,xI0 33 31 32,lI0 34 33,qI 35 (.bin .sub .other (I0 65) (.t 34)),cI0 36 .sub 35 1,qI 37 (.conv .u8 (.t 36)),eI 38 (.buildSl 1 1 [(.int .u8 0)] [(0,1,(.t 37))]),eI 39 (.append 1 1 (.t 30) (.t 38)),mI0 3 39]))))
 (R0 [0,3,4] [mI0 13 4,cI0 14 .add 13 1,mI0 4 14]))))))
 (S0 (R0 [2] [mI0 40 3,eI 41 (.strOf (.t 40)),mI0 2 41])
 .ret)))))⟩
theorem cf84:cF prog f84=some if84:=by kernel_rfl
def if98:IFn:=⟨[0],[(.tmp 2)],(S0 (R0 [0] [qI 2 (.mv (.c (.str [])))])
 (S0 (R0 [0,3] [zI0 3])
 (S0 (.seq (R0 [0,3,16,17,18] [mI0 13 0,pI0 14 13,fI0 15 0 14,lI0 16 15,sI0 17 16,kI0 18 0])
 (.block 0 (.loop [0,3,16,17,18] (S0 (R0 [0,3,16,17,18,19] [bI0 19 .lss 18 17])
 (S0 (.cond (.t 19) .skip (.exit 0))
 (S0 (.block 1 (S0 (R0 [0,3,5,16,17,18] [xI0 20 16 18,lI0 21 20,mI0 5 21])
 (R0 [0,3,16,17,18] [mI0 22 3,mI0 23 5,eI 24 (.call 108 [(.t 23),(I0 10)]),eI 25 (.buildSl 1 1 [(.str [])] [(0,1,(.t 24))]),eI 26 (.append 1 16 (.t 22) (.t 25)),mI0 3 26])))
 (R0 [0,3,16,17,18] [cI0 27 .add 18 1,mI0 18 27])))))))
 (S0 (.seq (R0 [0,3,30] [mI0 28 3,sI0 29 28,cI0 30 .eql 29 0])
 (.cond (.t 30) (R0 [0,3] [eI 31 (.buildSl 1 1 [(.str [])] [(0,1,(.c (.str [49])))]),mI0 3 31]) .skip))
 (S0 (R0 [0,3,6] [mI0 32 3,eI 33 (.call 124 [(.t 32),(.c (.str [32]))]),eI 34 (.buildSl 1 1 [(.str [])] [(0,1,(.t 33))]),mI0 6 34])
 (S0 (.seq (R0 [0,3,6,38,39,40] [mI0 35 0,pI0 36 35,fI0 37 1 36,lI0 38 37,sI0 39 38,kI0 40 0])
 (.block 2 (.loop [0,3,6,38,39,40] (S0 (R0 [0,3,6,38,39,40,41] [bI0 41 .lss 40 39])
 (S0 (.cond (.t 41) .skip (.exit 2))
 (S0 (.block 3 (S0 (R0 [0,3,6,7,8,38,39,40] [mI0 42 40,xI0 43 38 40,lI0 44 43,mI0 7 42,mI0 8 44])
 (S0 (R0 [0,3,6,7,8,38,39,40,47] [mI0 45 8,C1 46 116 45,nI0 47 46])
 (.cond (.t 47) (.draw [0,3,6,38,39,40] [] [mD0 48 6 0,mD0 49 7 1,mD0 52 3 4,mD0 53 7 5,xD0 54 52 53 6,lD0 55 54 7,mD0 58 8 10,eD 50 (.call 125 [(.t 49)]) 2 [7],qD 51 (.bin .add .other (.t 50) (.c (.str [94]))) 3,qD 56 (.bin .add .other (.t 51) (.t 55)) 8,qD 57 (.bin .add .other (.t 56) (.c (.str [61]))) 9,eD 59 (.call 127 [(.t 58)]) 11 [7],eD 60 (.call 126 [(.t 59)]) 12 [7],qD 61 (.bin .add .other (.t 57) (.t 60)) 13,eD 62 (.buildSl 1 1 [(.str [])] [(0,1,(.t 61))]) 14 [],eD 63 (.append 1 16 (.t 48) (.t 62)) 15 [],mD0 6 63 16]) .skip))))
 (R0 [0,3,6,38,39,40] [cI0 64 .add 40 1,mI0 40 64])))))))
 (S0 (.seq (R0 [0,6,69,70] [mI0 65 0,pI0 66 65,fI0 67 0 66,lI0 68 67,sI0 69 68,kI0 70 0])
 (.block 4 (.loop [0,6,69,70] (S0 (R0 [0,6,69,70,71] [bI0 71 .lss 70 69])
 (S0 (.cond (.t 71) .skip (.exit 4))
 (S0 (.block 5 (S0 (R0 [0,6,9,69,70] [mI0 72 70,mI0 9 72])
 (S0 (R0 [0,6,9,69,70,79,80,81] [mI0 73 0,pI0 74 73,fI0 75 2 74,lI0 76 75,mI0 77 9,xI0 78 76 77,lI0 79 78,sI0 80 79,kI0 81 0])
 (.block 6 (.loop [0,6,9,69,70,79,80,81] (S0 (R0 [0,6,9,69,70,79,80,81,82] [bI0 82 .lss 81 80])
 (S0 (.cond (.t 82) .skip (.exit 6))
 (S0 (.block 7 (S0 (R0 [0,6,9,10,11,69,70,79,80,81] [mI0 83 81,xI0 84 79 81,lI0 85 84,mI0 10 83,mI0 11 85])
 (S0 (R0 [0,6,9,11,12,69,70,79,80,81] [mI0 86 9,cI0 87 .add 86 1,mI0 88 10,bI0 89 .add 87 88,mI0 12 89])
 (S0 (R0 [0,6,9,11,12,69,70,79,80,81,96] [mI0 90 11,mI0 91 11,sI0 92 91,mI0 93 12,C2 94 121 92 93,C2 95 117 90 94,nI0 96 95])
 (.cond (.t 96) (R0 [0,6,9,69,70,79,80,81] [mI0 97 6,mI0 98 12,C1 99 125 98,qI 100 (.bin .add .other (.t 99) (.c (.str [94]))),mI0 101 9,C1 102 125 101,bI0 103 .add 100 102,qI 104 (.bin .add .other (.t 103) (.c (.str [61]))),mI0 105 11,C1 106 127 105,C1 107 126 106,bI0 108 .add 104 107,eI 109 (.buildSl 1 1 [(.str [])] [(0,1,(.t 108))]),eI 110 (.append 1 16 (.t 97) (.t 109)),mI0 6 110]) .skip)))))
 (R0 [0,6,9,69,70,79,80,81] [cI0 111 .add 81 1,mI0 81 111])))))))))
 (R0 [0,6,69,70] [cI0 112 .add 70 1,mI0 70 112])))))))
 (S0 (R0 [2] [mI0 113 6,eI 114 (.call 124 [(.t 113),(.c (.str [59,32]))]),mI0 2 114])
 .ret))))))))⟩
theorem cf98:cF prog f98=some if98:=by kernel_rfl
def if126:IFn:=⟨[0],[(.tmp 2)],(S0 (R0 [0] [qI 2 (.mv (.c (.str [])))])
 (S0 (.seq (R0 [0,8] [mI0 6 0,sI0 7 6,cI0 8 .eql 7 0])
 (.cond (.t 8) (S0 (R0 [2] [qI 2 (.mv (.c (.str [49])))])
 .ret) .skip))
 (S0 (R0 [0,3] [zI0 3])
 (S0 (.seq (R0 [3,9,10,11] [mI0 9 0,sI0 10 9,kI0 11 0])
 (.block 0 (.loop [3,9,10,11] (S0 (R0 [3,9,10,11,12] [bI0 12 .lss 11 10])
 (S0 (.cond (.t 12) .skip (.exit 0))
 (S0 (.block 1 (S0 (R0 [3,5,9,10,11] [xI0 13 9 11,lI0 14 13,mI0 5 14])
 (S0 (R0 [3,5,9,10,11,16] [mI0 15 5,cI0 16 .gtr 15 0])
 (.cond (.t 16) (R0 [3,9,10,11] [mI0 17 3,mI0 18 5,qI 19 (.bin .add .other (I0 97) (.t 18)),cI0 20 .sub 19 1,qI 21 (.conv .u8 (.t 20)),eI 22 (.buildSl 1 1 [(.int .u8 0)] [(0,1,(.t 21))]),eI 23 (.append 1 1 (.t 17) (.t 22)),mI0 3 23]) (R0 [3,9,10,11] [mI0 24 3,mI0 25 5,qI 26 (.bin .sub .other (I0 65) (.t 25)),cI0 27 .sub 26 1,qI 28 (.conv .u8 (.t 27)),eI 29 (.buildSl 1 1 [(.int .u8 0)] [(0,1,(.t 28))]),eI 30 (.append 1 1 (.t 24) (.t 29)),mI0 3 30])))))
 (R0 [3,9,10,11] [cI0 31 .add 11 1,mI0 11 31])))))))
 (S0 (R0 [2] [mI0 32 3,eI 33 (.strOf (.t 32)),mI0 2 33])
 .ret)))))⟩
theorem cf126:cF prog f126=some if126:=by kernel_rfl
end Go.Proofs
set_option linter.unusedSimpArgs false
set_option linter.unusedVariables false
namespace Go.Proofs
open Go.Ab
variable {σ:PHeap} {K:PV→PHeap→Prop}
theorem zB9 {n lo hi:Int} (hk:K (.bool (decide (lo≤n∧n≤hi))) σ):zA Tryz.prog 106 [.int .i64 n,.int .i64 lo,.int .i64 hi] σ K:=by
 refine zS mix Tryz.func106 ?_
 by_cases h1:lo≤n
 ·simp only [pwA,seval,-iQ0,h1];exact pke hk ⟨fun x=>x.2,fun x=>⟨h1,x⟩⟩
 ·simp only [pwA,seval,-iQ0,h1];exact pkf hk (by omega)
theorem zBa {n lo hi:Int} (hk:K (.bool (decide (lo≤n∧n≤hi))) σ):zA Tryz.prog 68 [.int .i64 n,.int .i64 lo,.int .i64 hi] σ K:=by
 refine zS mix Tryz.func68 ?_
 by_cases h1:lo≤n
 ·simp only [pwA,seval,-iQ0,h1];exact pke hk ⟨fun x=>x.2,fun x=>⟨h1,x⟩⟩
 ·simp only [pwA,seval,-iQ0,h1];exact pkf hk (by omega)
def isVec (xs:List Int) (p n:Int):Prop:=(xs.length:Int)=n∧∀x∈xs,0≤x∧x≤p-1
instance (xs:List Int) (p n:Int):Decidable (isVec xs p n):=by unfold isVec;infer_instance
def isZ (xs:List Int):Prop:=∀x∈xs,x=0
instance (xs:List Int):Decidable (isZ xs):=by unfold isZ;infer_instance
theorem zEs {w:Bool} {a:AV} {xs:List Int} {l:Nat} (hl:l=xs.length) (hb:xs.length≤4611686018427387904) (hk:K (.bool (decide (isZ xs))) σ):zA Tryz.prog 116 [.fz w a l (pis xs)] σ K:=by
 subst hl;refine zS mix Tryz.func116 ?_;simp only [pwA,seval,-iQ0];refine zB (fun m vs h'=>∃i:Nat,i≤xs.length∧m=xs.length-i∧vs=[.fz w a xs.length (pis xs),.int .i64 xs.length,.int .i64 i]∧h'=σ∧∀x∈xs.take i,x=0) xs.length ?_ ?_
 ·exact⟨0,by omega,by omega,rfl,rfl,by simp⟩
 ·rintro m vs h' ⟨i,hi,rfl,rfl,rfl,hall⟩
  simp only [pwA,seval,-iQ0]
  split
  ·rename_i hlt
   simp only [pwA,seval,-iQ0,hlt,qM,gi hlt]
   split
   ·rename_i h0
    simp only [pwA,seval,-iQ0,wrapS hlt hb];exact⟨_,by omega,i+1,by omega,rfl,rfl,Qn hlt hall h0⟩
   ·rename_i hn
    exact pkf hk fun hv=>hn (hv _ (List.getElem_mem hlt))
  ·refine pkt hk (zD1 (by omega) hall)
theorem zIw {w:Bool} {a:AV} {xs:List Int} {l:Nat} (hl:l=xs.length) (hb:xs.length≤4611686018427387904) (hk:K (.bool (decide (isZ xs))) σ):zA Tryz.prog 82 [.fz w a l (pis xs)] σ K:=by
 subst hl;refine zS mix Tryz.func82 ?_;simp only [pwA,seval,-iQ0];refine zB (fun m vs h'=>∃i:Nat,i≤xs.length∧m=xs.length-i∧vs=[.fz w a xs.length (pis xs),.int .i64 i]∧h'=σ∧∀x∈xs.take i,x=0) xs.length ?_ ?_
 ·exact⟨0,by omega,by omega,rfl,rfl,by simp⟩
 ·rintro m vs h' ⟨i,hi,rfl,rfl,rfl,hall⟩
  simp only [pwA,seval,-iQ0]
  split
  ·rename_i hlt
   simp only [pwA,seval,-iQ0,hlt,qM,gi hlt]
   split
   ·rename_i h0
    simp only [pwA,seval,-iQ0,wrapS hlt hb];exact⟨_,by omega,i+1,by omega,rfl,rfl,Qn hlt hall h0⟩
   ·rename_i hn
    exact pkf hk fun hv=>hn (hv _ (List.getElem_mem hlt))
  ·refine pkt hk (zD1 (by omega) hall)
theorem zGW {xs ys:List Int} (hl:xs.length=ys.length) {i:Nat} (hi:i<xs.length) (h:xs.take i=ys.take i) (he:xs[i]=ys[i]'(by omega)):xs.take (i+1)=ys.take (i+1):=by
 rw [List.take_succ_eq_append_getElem hi,List.take_succ_eq_append_getElem (by omega:i<ys.length),h,he]
theorem zIx {w w':Bool} {a a':AV} {xs ys:List Int} {l:Nat} {l':Nat} (hl:l=xs.length) (hl':l'=ys.length) (hb:xs.length≤4611686018427387904) (hk:K (.bool (decide (xs=ys))) σ):zA Tryz.prog 86 [.fz w a l (pis xs),.fz w' a' l' (pis ys)] σ K:=by
 subst hl;subst hl';refine zS mix Tryz.func86 ?_;simp only [pwA,seval,-iQ0]
 split
 ·rename_i hl
  have hl:xs.length=ys.length:=by omega
  refine zB (fun m vs h'=>∃i:Nat,i≤xs.length∧m=xs.length-i∧vs=[.fz w a xs.length (pis xs),.fz w' a' ys.length (pis ys),.int .i64 i]∧h'=σ∧xs.take i=ys.take i) xs.length ?_ ?_
  ·exact⟨0,by omega,by omega,rfl,rfl,by simp⟩
  ·rintro m vs h' ⟨i,hi,rfl,rfl,rfl,hall⟩
   simp only [pwA,seval,-iQ0]
   split
   ·rename_i hlt
    have hlt2:i<ys.length:=by omega
    simp only [pwA,seval,-iQ0,hlt,hlt2,qM,gi hlt,gi hlt2]
    split
    ·rename_i h0
     simp only [pwA,seval,-iQ0,wrapS hlt hb];exact⟨_,by omega,i+1,by omega,rfl,rfl,zGW hl hlt hall h0⟩
    ·rename_i hn
     refine pkf hk fun hv=>hn (by subst hv;rfl)
   ·refine pkt hk ?_
    rwa [List.take_of_length_le (by omega),List.take_of_length_le (by omega)]at hall
 ·rename_i hl
  exact pkf hk fun hv=>hl (by rw [hv])
theorem zMt {w w':Bool} {a a':AV} {xs ys:List Int} {l:Nat} {l':Nat} (hl:l=xs.length) (hl':l'=ys.length) (hb:xs.length≤4611686018427387904) (hk:K (.bool (decide (xs=ys))) σ):zA Tryz.prog 117 [.fz w a l (pis xs),.fz w' a' l' (pis ys)] σ K:=by
 subst hl;subst hl';refine zS mix Tryz.func117 ?_;simp only [pwA,seval,-iQ0]
 split
 ·rename_i hl
  have hl:xs.length=ys.length:=by omega
  refine zB (fun m vs h'=>∃i:Nat,i≤xs.length∧m=xs.length-i∧vs=[.fz w a xs.length (pis xs),.fz w' a' ys.length (pis ys),.int .i64 xs.length,.int .i64 i]∧h'=σ∧xs.take i=ys.take i) xs.length ?_ ?_
  ·exact⟨0,by omega,by omega,rfl,rfl,by simp⟩
  ·rintro m vs h' ⟨i,hi,rfl,rfl,rfl,hall⟩
   simp only [pwA,seval,-iQ0]
   split
   ·rename_i hlt
    have hlt2:i<ys.length:=by omega
    simp only [pwA,seval,-iQ0,hlt,hlt2,qM,gi hlt,gi hlt2]
    split
    ·rename_i h0
     simp only [pwA,seval,-iQ0,wrapS hlt hb];exact⟨_,by omega,i+1,by omega,rfl,rfl,zGW hl hlt hall h0⟩
    ·rename_i hn
     refine pkf hk fun hv=>hn (by subst hv;rfl)
   ·refine pkt hk ?_
    rwa [List.take_of_length_le (by omega),List.take_of_length_le (by omega)]at hall
 ·rename_i hl
  exact pkf hk fun hv=>hl (by rw [hv])
def isP (n:Int):Prop:=n=2∨n=3∨n=5∨n=7
instance (n:Int):Decidable (isP n):=by unfold isP;infer_instance
theorem isP.bd {n:Int} (hp:isP n):2≤n∧n≤7:=by unfold isP at hp;omega
theorem zC0 {n:Int} (hk:K (.bool (decide (isP n))) σ):zA Tryz.prog 74 [.int .i64 n] σ K:=by
 refine zS mix Tryz.func74 ?_
 by_cases h2:n=2
 ·simp only [pwA,seval,-iQ0,h2];exact pkt hk (by unfold isP;omega)
 by_cases h3:n=3
 ·simp only [pwA,seval,-iQ0,h3];exact pkt hk (by unfold isP;omega)
 by_cases h5:n=5
 ·simp only [pwA,seval,-iQ0,h5];exact pkt hk (by unfold isP;omega)
 by_cases h7:n=7
 ·simp only [pwA,seval,-iQ0,h7];exact pkt hk (by unfold isP;omega)
 simp only [pwA,seval,-iQ0,h2,h3,h5,h7];exact pkf hk (by unfold isP;omega)
theorem zEI {n:Int} (hk:K (.bool (decide (isP n))) σ):zA Tryz.prog 91 [.int .i64 n] σ K:=by
 refine zS mix Tryz.func91 ?_
 by_cases h2:n=2
 ·simp only [pwA,seval,-iQ0,h2];exact pkt hk (by unfold isP;omega)
 by_cases h3:n=3
 ·simp only [pwA,seval,-iQ0,h3];exact pkt hk (by unfold isP;omega)
 by_cases h5:n=5
 ·simp only [pwA,seval,-iQ0,h5];exact pkt hk (by unfold isP;omega)
 by_cases h7:n=7
 ·simp only [pwA,seval,-iQ0,h7];exact pkt hk (by unfold isP;omega)
 simp only [pwA,seval,-iQ0,h2,h3,h5,h7];exact pkf hk (by unfold isP;omega)
theorem zB6 {w:Bool} {a:AV} {xs:List Int} {l:Nat} (hl:l=xs.length) (hb:xs.length≤4294967296) (hk:∀cap,full 1 cap xs.length→K (.sl σ.next 0 xs.length cap) (σ.new (pis xs))):zA Tryz.prog 57 [.fz w a l (pis xs)] σ K:=by
 subst hl;refine zA.gh ?_;refine zS mix Tryz.func57 ?_;simp only [pwA,seval,-iQ0];refine PSl.cat (bytes:=8) (σb:=σ) (n:=0) (cs:=[]) (zD σ _) (PSl.new _ 1 rfl (Nat.le_refl _)) (qi xs) (by omega) (by omega) fun v' h' hk' ha=>?_
 simp only [pwA,seval,-iQ0]at ha ⊢
 exact ha.out hk' (Zy _ _) hk
theorem zMv {w:Bool} {a:AV} {xs:List Int} {l:Nat} (hl:l=xs.length) (hb:xs.length≤4294967296) (hk:ResI σ K xs):zA Tryz.prog 63 [.fz w a l (pis xs)] σ K:=by
 subst hl;refine zA.nil0 fun hnil=>zA.gh ?_
 refine zS mix Tryz.func63 ?_;simp only [pwA,seval,-iQ0];cases hn:ZN a
 ·simp only [pwA,seval,-iQ0]
  refine PSl.cat (bytes:=8) (σb:=σ) (n:=0) (cs:=[]) (zD σ _) (PSl.new _ 1 rfl (Nat.le_refl _)) (qi xs) (by omega) (by omega) fun v' h' hk' ha=>?_
  simp only [pwA,seval,-iQ0]at ha ⊢
  exact ha.out hk' (Zy _ _) hk.2
 ·simp only [pwA,seval,-iQ0]
  exact Gh.ret (hk.1 (List.eq_nil_of_length_eq_zero (hnil hn).1))
def unitL (n k:Nat):List Int:=(List.replicate n 0).set k 1
theorem Zl (n k:Nat):(unitL n k).length=n:=by simp [unitL]
theorem zBj {n k:Nat} (hn:n≤1048576) (hkn:k<n) (hk:∀cap,full 1 cap n→K (.sl σ.next 0 n cap) (σ.new (pis (unitL n k)))):zA Tryz.prog 121 [.int .i64 n,.int .i64 k] σ K:=by
 refine zS mix Tryz.func121 ?_;simp only [pwA,seval,-iQ0,hkn,List.length_replicate,Qi,qi,mk8 (n:=n) (by omega),mkL (n:=n) (by omega),Nat.succ_le_of_lt hkn]
 rw [zAB (by simpa using hkn)]
 exact hk _ (.inr rfl)
end Go.Proofs
namespace Go.Lie
open Go.Ab
abbrev at_ (v:List Int) (j:Nat):Int:=v.getD j 0
theorem at_eq {v:List Int} {j:Nat} (h:j<v.length):at_ v j=v[j]:=by simp [at_,List.getD_eq_getElem?_getD,List.getElem?_eq_getElem h]
theorem at_ge {v:List Int} {j:Nat} (h:v.length≤j):at_ v j=0:=by simp [at_,List.getD_eq_getElem?_getD,List.getElem?_eq_none h]
variable {p:Int} {n:Nat} {W:List (List Int)}
theorem zBd {i:Nat} (h:i<W.length):W.getD i []=W[i]:=by simp [List.getD_eq_getElem?_getD,List.getElem?_eq_getElem h]
end Go.Lie
namespace Go.Proofs
open Go.Ab Go.Lie
variable {σ:PHeap} {K:PV→PHeap→Prop} {p:Int} {n:Nat} {W:List (List Int)} {B:List (List (List Int))} {vP vB:PV} {s:Nat}
theorem qo {α:Type} {B:List (List α)} {i:Nat} (h:i<B.length):B.getD i []=B[i]:=by simp [List.getD_eq_getElem?_getD,List.getElem?_eq_getElem h]
end Go.Proofs
namespace Go.Proofs
open Go.Ab Go.Lie
variable {σ:PHeap} {K:PV→PHeap→Prop} {p:Int} {n:Nat} {W:List (List Int)} {B:List (List (List Int))} {vP vB:PV} {s:Nat}
theorem zE1 {k:Nat} (hn:n≤1048576) (hkn:k<n) (hk:∀a,K (.fz true a n (pis (unitL n k))) σ):zA Tryz.prog 121 [.int .i64 n,.int .i64 k] σ K:=
 zA.fz (fun K'=>zBj hn hkn) (Zy _ _) fun o cap=>hk _
end Go.Proofs
namespace Go.Proofs
open Go.Ab Go.Lie
variable {σ:PHeap} {K:PV→PHeap→Prop} {p:Int} {n:Nat} {W:List (List Int)} {B:List (List (List Int))} {vP vB vL:PV} {s:Nat}
structure SzL (xs:List (List Int)):Prop where
 l:xs.length≤1048576
 r:∀x∈xs,x.length≤1048576
end Go.Proofs
namespace Go.Proofs
open Go.Ab Go.Lie
variable {σ:PHeap} {K:PV→PHeap→Prop} {p p':Int} {n:Nat} {W W':List (List Int)} {B B':List (List (List Int))} {vP vB vP' vB' vL vL':PV}
structure SzM (B:List (List (List Int))):Prop where
 l:B.length≤1048576
 r:∀q∈B,SzL q
theorem zC5 {v v':PV} {xs ys:List Int} (hI:FI v xs) (hI':FI v' ys) (hb:xs.length≤4611686018427387904) (hk:K (.bool (decide (xs=ys))) σ):zA Tryz.prog 33 [v,v'] σ K:=by
 obtain⟨w,a,rfl⟩:=hI;obtain⟨w',a',rfl⟩:=hI';refine zS mix Tryz.func33 ?_;simp only [pwA,seval,-iQ0];refine iteI (fun hl=>?_) fun hl=>?_
 rotate_left
 ·exact pkf hk fun hv=>hl (by rw [hv])
 have hl:xs.length=ys.length:=by omega
 refine zB (fun m vs h'=>∃i:Nat,i≤xs.length∧m=xs.length-i∧vs=[.fz w a xs.length (pis xs),.fz w' a' ys.length (pis ys),.int .i64 i]∧σ=h'∧xs.take i=ys.take i) xs.length ?_ ?_
 ·exact⟨0,by omega,by omega,rfl,rfl,by simp⟩
 rintro m vs h' ⟨i,hi,rfl,rfl,rfl,hall⟩
 simp only [pwA,seval,-iQ0];refine iteI (fun hlt=>?_) fun hge=>?_
 ·have hlt2:i<ys.length:=by omega
  simp only [pwA,seval,-iQ0,hlt,hlt2,qM,gi hlt,gi hlt2];refine iteI (fun h0=>?_) fun hn=>?_
  ·simp only [pwA,seval,-iQ0,wrapS hlt hb]
   exact⟨_,by omega,i+1,by omega,rfl,rfl,zGW hl hlt hall h0⟩
  ·exact pkf hk fun hv=>hn (by subst hv;rfl)
 ·refine pkt hk ?_
  rwa [List.take_of_length_le (by omega),List.take_of_length_le (by omega)]at hall
theorem zGV {α:Type} {xs ys:List α} (hl:xs.length=ys.length) {i:Nat} (hi:i<xs.length) (h:xs.take i=ys.take i) (he:xs[i]=ys[i]'(by omega)):xs.take (i+1)=ys.take (i+1):=by
 rw [List.take_succ_eq_append_getElem hi,List.take_succ_eq_append_getElem (by omega:i<ys.length),h,he]
theorem zAe {v v':PV} {xs ys:List (List Int)} (hI:FII v xs) (hI':FII v' ys) (sz:SzL xs) (hk:∀t:Bool,(t=true↔xs=ys)→K (.bool t) σ):zA Tryz.prog 32 [v,v'] σ K:=by
 obtain⟨w,a,rs,rfl,hr⟩:=hI;obtain⟨w',a',rs',rfl,hr'⟩:=hI';have hb:=sz.l;have fl:∀{A:Prop},¬A→((false=true)↔A):=fun h=>⟨fun x=>(by cases x),fun x=>absurd x h⟩
 refine zS mix Tryz.func32 ?_;simp only [pwA,seval,-iQ0];refine iteI (fun hl=>?_) fun hl=>?_
 rotate_left
 ·exact hk _ (fl fun hv=>hl (by rw [hv]))
 have hl:xs.length=ys.length:=by omega
 refine zB (fun m vs h'=>∃i:Nat,i≤xs.length∧m=xs.length-i∧vs=[.fz w a xs.length rs,.fz w' a' ys.length rs',.int .i64 i]∧σ=h'∧xs.take i=ys.take i) xs.length ?_ ?_
 ·exact⟨0,by omega,by omega,rfl,rfl,by simp⟩
 rintro m vs h' ⟨i,hi,rfl,rfl,rfl,hall⟩
 simp only [pwA,seval,-iQ0];refine iteI (fun hlt=>?_) fun hge=>?_
 ·have hlt2:i<ys.length:=by omega
  obtain⟨w4,a4,h4⟩:=hr.rowI hlt;obtain⟨w5,a5,h5⟩:=hr'.rowI hlt2;simp only [pwA,seval,-iQ0,hlt,hlt2,h4,h5];refine zC5 ⟨_,_,rfl⟩ ⟨_,_,rfl⟩ (by have:=sz.r _ (List.getElem_mem hlt);omega) ?_
  by_cases he:xs[i]=ys[i]
  ·simp only [pwA,seval,-iQ0,eq_true he,wrapS hlt (by omega:xs.length≤4611686018427387904)]
   exact⟨_,by omega,i+1,by omega,rfl,rfl,zGV hl hlt hall he⟩
  ·simp only [pwA,seval,-iQ0,he]
   exact hk _ (fl fun hv=>he (by subst hv;rfl))
 ·refine hk _ ⟨fun _=>?_,fun _=>rfl⟩
  rwa [List.take_of_length_le (by omega),List.take_of_length_le (by omega)]at hall
theorem zFF {v v':PV} {xs ys:List (List (List Int))} (hI:FIII v xs) (hI':FIII v' ys) (sz:SzM xs) (hk:∀t:Bool,(t=true↔xs=ys)→K (.bool t) σ):zA Tryz.prog 34 [v,v'] σ K:=by
 obtain⟨w,a,rs,rfl,hr⟩:=hI;obtain⟨w',a',rs',rfl,hr'⟩:=hI';have hb:=sz.l;have fl:∀{A:Prop},¬A→((false=true)↔A):=fun h=>⟨fun x=>(by cases x),fun x=>absurd x h⟩
 refine zS mix Tryz.func34 ?_;simp only [pwA,seval,-iQ0];refine iteI (fun hl=>?_) fun hl=>?_
 rotate_left
 ·exact hk _ (fl fun hv=>hl (by rw [hv]))
 have hl:xs.length=ys.length:=by omega
 refine zB (fun m vs h'=>∃i:Nat,i≤xs.length∧m=xs.length-i∧vs=[.fz w a xs.length rs,.fz w' a' ys.length rs',.int .i64 i]∧σ=h'∧xs.take i=ys.take i) xs.length ?_ ?_
 ·exact⟨0,by omega,by omega,rfl,rfl,by simp⟩
 rintro m vs h' ⟨i,hi,rfl,rfl,rfl,hall⟩
 simp only [pwA,seval,-iQ0];refine iteI (fun hlt=>?_) fun hge=>?_
 ·have hlt2:i<ys.length:=by omega
  obtain⟨w4,a4,r4,h4,g4⟩:=hr.rowL hlt;obtain⟨w5,a5,r5,h5,g5⟩:=hr'.rowL hlt2;simp only [pwA,seval,-iQ0,hlt,hlt2,h4,h5];refine zAe ⟨_,_,_,rfl,g4⟩ ⟨_,_,_,rfl,g5⟩ (sz.r _ (List.getElem_mem hlt)) fun t ht=>?_
  cases t with
  | true=>
   simp only [pwA,seval,-iQ0,wrapS hlt (by omega:xs.length≤4611686018427387904)]
   exact⟨_,by omega,i+1,by omega,rfl,rfl,zGV hl hlt hall (ht.1 rfl)⟩
  | false=>
   simp only [pwA,seval,-iQ0];exact hk _ (fl fun hv=>by subst hv;cases ht.2 rfl)
 ·refine hk _ ⟨fun _=>?_,fun _=>rfl⟩
  rwa [List.take_of_length_le (by omega),List.take_of_length_le (by omega)]at hall
end Go.Proofs
namespace Go.Grp
open Go.Ab Go.Lie
section
variable {α:Type} {S:α→Prop} {m:α→α→α} {e:α}
def pw (m:α→α→α) (e x:α):Nat→α
 | 0=>e
 | k+1=>m (pw m e x k) x
def rep (m:α→α→α) (x:α):Nat→α→α
 | 0,a=>a
 | k+1,a=>rep m x k (m a x)
def fo (m:α→α→α) (h:Nat→α) (x:Nat→Nat):Nat→Nat→α→α
 | t,0,a=>a
 | t,d+1,a=>fo m h x (t+1) d (rep m (h t) (x t) a)
end
variable {O:List Int} {P:List (List Int)} {C:List (List (List Int))}
structure TT (O:List Int) (t:Nat) (x:List Int):Prop where
 len:x.length=O.length
 bd:∀j,j<O.length→0≤at_ x j∧at_ x j<at_ O j
 zero:∀j,j<t→at_ x j=0
abbrev nx (x:List Int) (j:Nat):Nat:=(at_ x j).toNat
abbrev cvec (C:List (List (List Int))) (i j:Nat):List Int:=(C.getD i []).getD (j-i-1) []
abbrev pvec (P:List (List Int)) (i:Nat):List Int:=P.getD i []
abbrev zv (O:List Int):List Int:=List.replicate O.length 0
structure Shp (O:List Int) (P:List (List Int)) (C:List (List (List Int))):Prop where
 le:O.length≤6
 pr:∀j,j<O.length→2≤at_ O j∧at_ O j≤7
 pl:P.length=O.length
 cl:C.length=O.length
 pw:∀i,i<O.length→TT O (i+1) (pvec P i)
 row:∀i,i<O.length→(C.getD i []).length=O.length-1-i
 cj:∀i j,i<j→j<O.length→TT O (i+1) (cvec C i j)
def img (O:List Int) (C:List (List (List Int))) (m:List Int→List Int→List Int) (i:Nat) (x:List Int):List Int:=fo m (cvec C i) (nx x) (i+1) (O.length-1-i) (zv O)
def iter {α:Type} (f:α→α):Nat→α→α
 | 0,a=>a
 | k+1,a=>iter f k (f a)
def mu (O:List Int) (P:List (List Int)) (C:List (List (List Int))):Nat→List Int→List Int→List Int
 | 0,_,_=>zv O
 | d+1,a,b=>
  let i:=O.length-(d+1)
  let r:=mu O P C d (iter (img O C (mu O P C d) i) (nx b i) (a.set i 0)) (b.set i 0)
  if at_ a i+at_ b i ≥ at_ O i then(mu O P C d (pvec P i) r).set i (at_ a i+at_ b i-at_ O i)else r.set i (at_ a i+at_ b i)
end Go.Grp
namespace Go.Grp
end Go.Grp
namespace Go.Proofs
open Go.Ab Go.Lie Go.Grp
variable {σ:PHeap} {K:PV→PHeap→Prop} {O:List Int} {P:List (List Int)} {C:List (List (List Int))} {vO vP vC vx:PV} {s:Nat} {x:List Int}
structure IsPr (vO vP vC:PV) (O:List Int) (P:List (List Int)) (C:List (List (List Int))):Prop where
 O:FI vO O
 P:FII vP P
 C:FIII vC C
structure SzP (O:List Int) (P:List (List Int)) (C:List (List (List Int))):Prop where
 O:O.length≤1048576
 P:SzL P
 C:SzM C
structure PtrG (σ:PHeap) (s:Nat) (vO vP vC:PV):Prop where
 obj:σ.obj s=some [vO,vP,vC]
 lt:s<σ.next
def isExp (O x:List Int):Prop:=x.length=O.length∧∀j,j<x.length→0≤at_ x j∧at_ x j≤at_ O j-1
def ZP (O:List Int) (t:Nat) (x:List Int):Prop:=isExp O x∧isZ (x.take t)
def prodL:List Int→Int
 | []=>1
 | o::O=>o*prodL O
def rowPr (O:List Int) (P:List (List Int)) (C:List (List (List Int))) (i:Nat):Prop:=ZP O (i+1) (P.getD i [])∧(C.getD i []).length=O.length-1-i∧∀k,k<(C.getD i []).length→ZP O (i+1) ((C.getD i []).getD k [])
def zK (O:List Int) (P:List (List Int)) (C:List (List (List Int))):Prop:=
 O.length≤6∧P.length=O.length∧C.length=O.length∧(∀o∈O,isP o)∧prodL O≤729∧∀i,i<O.length→rowPr O P C i
theorem ZP.tt {t:Nat} (h:ZP O t x):TT O t x:=by
 refine⟨h.1.1,fun j hj=>by have:=h.1.2 j (by rw [h.1.1];exact hj);omega,fun j hj=>?_⟩
 rcases Nat.lt_or_ge j x.length with e|e
 ·rw [at_eq e]
  exact h.2 _ (by rw [List.mem_take_iff_getElem];exact⟨j,by omega,rfl⟩)
 ·exact at_ge e
theorem zK.shp (h:zK O P C):Shp O P C:=by
 obtain⟨h1,h2,h3,h4,h5,h6⟩:=h;refine⟨h1,fun j hj=>?_,h2,h3,fun i hi=>(h6 i hi).1.tt,fun i hi=>(h6 i hi).2.1,fun i j hij hj=>?_⟩
 ·rw [at_eq hj];exact(h4 _ (List.getElem_mem hj)).bd
 ·have:=(h6 i (by omega)).2.2 (j-i-1) (by rw [(h6 i (by omega)).2.1];omega)
  exact this.tt
theorem zEZ (hs:PtrG σ s vO vP vC) (hO:FI vO O) (szO:O.length≤1048576) (bO:∀o∈O,isP o) (hx:FI vx x) (hb:x.length≤1048576) (hk:∀t:Bool,(t=true↔isExp O x)→K (.bool t) σ):zA Tryz.prog 115 [.ptr s 0,vx] σ K:=by
 have fl:∀{A:Prop},¬A→((false=true)↔A):=fun h=>⟨fun x=>(by cases x),fun x=>absurd x h⟩
 obtain⟨wo,ao,rfl⟩:=hO;obtain⟨wx,ax,rfl⟩:=hx;have e0:σ.rd1 s 0=some (.fz wo ao O.length (pis O)):=by rw [qF hs.obj];rfl
 refine zS mix Tryz.func115 ?_;simp only [pwA,seval,-iQ0,e0];refine iteI (fun hl=>?_) fun hl=>?_
 rotate_left
 ·exact hk _ (fl fun h=>hl (by rw [h.1]))
 have hl:x.length=O.length:=by omega
 refine zB (fun m vs h'=>∃i:Nat,i≤x.length∧m=x.length-i∧vs=[.ptr s 0,.fz wx ax x.length (pis x),.int .i64 x.length,.int .i64 i]∧σ=h'∧∀j,j<i→0≤at_ x j∧at_ x j≤at_ O j-1) x.length ?_ ?_
 ·exact⟨0,by omega,by omega,rfl,rfl,fun j hj=>by omega⟩
 rintro m vs h' ⟨i,hi,rfl,rfl,rfl,hall⟩
 simp only [pwA,seval,-iQ0];refine iteI (fun hlt=>?_) fun hge=>?_
 ·have hO':i<O.length:=by omega
  have bo:=(bO _ (List.getElem_mem hO')).bd;simp only [pwA,seval,-iQ0,hlt,hO',e0,gi hlt,gi hO',qM,wrap64 (n:=O[i] - 1) (by omega) (by omega)]
  refine zB9 ?_
  by_cases hin:0≤x[i]∧x[i]≤O[i] - 1
  ·simp only [pwA,seval,-iQ0,hin,wrapS hlt (by omega:x.length≤4611686018427387904)]
   refine⟨_,by omega,i+1,by omega,rfl,rfl,fun j hj=>?_⟩
   by_cases e:j=i
   ·subst e;rw [at_eq hlt,at_eq hO'];exact hin
   ·exact hall j (by omega)
  ·simp only [pwA,seval,-iQ0,hin]
   exact hk _ (fl fun h=>hin (by have:=h.2 i hlt;rwa [at_eq hlt,at_eq hO']at this))
 ·exact hk _ ⟨fun _=>⟨hl,fun j hj=>hall j (by omega)⟩,fun _=>rfl⟩
theorem zBl {i:Nat} (hs:PtrG σ s vO vP vC) (hO:FI vO O) (szO:O.length≤1048576) (bO:∀o∈O,isP o) (hx:FI vx x) (hb:x.length≤1048576) (hi:i<O.length) (hk:∀t:Bool,(t=true↔ZP O (i+1) x)→K (.bool t) σ):zA Tryz.prog 92 [.ptr s 0,.int .i64 i,vx] σ K:=by
 have fl:∀{A:Prop},¬A→((false=true)↔A):=fun h=>⟨fun x=>(by cases x),fun x=>absurd x h⟩
 refine zS mix Tryz.func92 ?_;simp only [pwA,seval,-iQ0];refine zEZ hs hO szO bO hx hb fun t ht=>?_
 cases t with
 | false=>
  simp only [pwA,seval,-iQ0];exact hk _ (fl fun h=>by cases ht.2 h.1)
 | true=>
  have he:=ht.1 rfl;have hl:=he.1;obtain⟨wx,ax,rfl⟩:=hx;have hle2:((i+1:Nat):Int)≤(x.length:Int):=by omega
  have hle3:i+1≤x.length:=by omega
  simp only [pwA,seval,-iQ0,wrapS hi (by omega:O.length≤4611686018427387904),hle2,hle3,zLj,Nat.sub_zero]
  refine zEs (by simp;omega) (by simp;omega) ?_
  by_cases hz:isZ (x.take (i+1))
  ·simp only [pwA,seval,-iQ0,hz]
   exact hk _ ⟨fun _=>⟨he,hz⟩,fun _=>rfl⟩
  ·simp only [pwA,seval,-iQ0,hz]
   exact hk _ (fl fun h=>hz h.2)
theorem zAW:∀(a b:List Int),prodL (a++b)=prodL a*prodL b
 | [],b=>by simp [prodL]
 | x::a,b=>by simp [prodL,zAW a b,Int.mul_assoc]
theorem QO {i:Nat} (hi:i<O.length):prodL (O.take (i+1))=prodL (O.take i)*O[i]:=by
 rw [List.take_succ_eq_append_getElem hi,zAW];simp [prodL]
theorem QF:∀{O:List Int},(∀o∈O,isP o)→1≤prodL O
 | [],_=>by simp [prodL]
 | o::O,h=>by
  have h1:=(h o (by simp)).bd
  have h2:=QF (O:=O) fun q hq=>h q (by simp [hq])
  simp only [prodL]
  have:=Int.mul_le_mul h1.1 h2 (by omega) (by omega)
  omega
theorem zIQ (h:∀o∈O,isP o) (i:Nat):prodL (O.take i)≤prodL O:=by
 have h1:=QF fun o ho=>h o (List.mem_of_mem_take (i:=i) ho)
 have h2:=QF fun o ho=>h o (List.mem_of_mem_drop (i:=i) ho)
 have:prodL O=prodL (O.take i)*prodL (O.drop i):=by rw [←zAW,List.take_append_drop]
 have h3:=Int.mul_le_mul (Int.le_refl (prodL (O.take i))) h2 (by omega) (by omega)
 omega
theorem Z7 (hR:IsPr vO vP vC O P C) (sz:SzP O P C) (hk:∀t:Bool,(t=true↔zK O P C)→K (.bool t) σ):zA Tryz.prog 59 [.agg [vO,vP,vC]] σ K:=by
 have hFO:=hR.O;have ho1:=hR.O.one;have szP:=sz.P;have szC:=sz.C;obtain⟨⟨w0,a0,rfl⟩,⟨w1,a1,rP,rfl,hP⟩,⟨w3,a3,rC,rfl,hC⟩⟩:=hR;refine zA.gh ?_;have fin:∀{t:Bool} {σ':PHeap},(t=true↔zK O P C)→Keep σ σ'→Gh σ K (.bool t) σ':=fun h k=>Gh.fin0 k trivial (hk _ h)
 have no:∀{σ':PHeap},¬zK O P C→Keep σ σ'→Gh σ K (.bool false) σ':=fun h k=>fin ⟨fun x=>(by cases x),fun x=>absurd x h⟩ k
 have hkp:=zD σ [.fz w0 a0 O.length (pis O),.fz w1 a1 P.length rP,.fz w3 a3 C.length rC];have hpt:PtrG (σ.new [.fz w0 a0 O.length (pis O),.fz w1 a1 P.length rP,.fz w3 a3 C.length rC]) σ.next (.fz w0 a0 O.length (pis O)) (.fz w1 a1 P.length rP) (.fz w3 a3 C.length rC):=⟨by simp only [pwA,seval,-iQ0],by simp only [pwA,seval,-iQ0]⟩
 refine zS mix Tryz.func59 ?_;simp only [pwA,seval,-iQ0]
 by_cases h6:O.length≤6
 rotate_left
 ·have h6':(6:Int)<(O.length:Int):=by omega
  simp only [pwA,seval,-iQ0,h6'];exact no (fun h=>h6 h.1) hkp
 have h6':¬(6:Int)<(O.length:Int):=by omega
 by_cases hPl:P.length=O.length
 rotate_left
 ·have hPl':¬(P.length:Int)=(O.length:Int):=by omega
  simp only [pwA,seval,-iQ0,h6',hPl'];exact no (fun h=>hPl h.2.1) hkp
 have hPl':(P.length:Int)=(O.length:Int):=by omega
 by_cases hCl:C.length=O.length
 rotate_left
 ·have hCl':¬(C.length:Int)=(O.length:Int):=by omega
  simp only [pwA,seval,-iQ0,h6',eq_true hPl',hCl'];exact no (fun h=>hCl h.2.2.1) hkp
 have hCl':(C.length:Int)=(O.length:Int):=by omega
 simp only [pwA,seval,-iQ0,h6',eq_true hPl',eq_true hCl'];refine zB (fun m vs h'=>∃i:Nat,i≤O.length∧m=O.length-i∧vs=[.ptr σ.next 0,.int .i64 O.length,.int .i64 (prodL (O.take i)),.fz w0 a0 O.length (pis O),.int .i64 O.length,.int .i64 i]∧h'=σ.new [.fz w0 a0 O.length (pis O),.fz w1 a1 P.length rP,.fz w3 a3 C.length rC]∧(∀o∈O.take i,isP o)∧prodL (O.take i)≤729) O.length ?_ ?_
 ·exact⟨0,by omega,by omega,rfl,rfl,by simp,by simp [prodL]⟩
 rintro m vs h' ⟨i,hi,rfl,rfl,rfl,hall,hpr⟩
 simp only [pwA,seval,-iQ0];refine iteI (fun hlt=>?_) fun hge=>?_
 ·simp only [pwA,seval,-iQ0,hlt,gi hlt,qM]
  refine zEI ?_
  by_cases hp:isP O[i]
  rotate_left
  ·simp only [pwA,seval,-iQ0,hp]
   exact no (fun h=>hp (h.2.2.2.1 _ (List.getElem_mem hlt))) hkp
  have hpb:=hp.bd;have h1:=QF hall;have hm1:0≤prodL (O.take i)*O[i]:=Int.mul_nonneg (by omega) (by omega)
  have hm2:=Int.mul_le_mul hpr hpb.2 (by omega) (by omega)
  have hw:IntKind.i64.wrap (prodL (O.take i)*O[i])=prodL (O.take i)*O[i]:=wrap64 (by omega) (by omega)
  by_cases ho:prodL (O.take i)*O[i]≤729
  ·have ho':¬(729:Int)<prodL (O.take i)*O[i]:=by omega
   simp only [pwA,seval,-iQ0,hp,hw,ho',hlt,gi hlt,qM,wrapS hlt (by omega:O.length≤4611686018427387904)]
   refine⟨_,by omega,i+1,by omega,rfl,?_,zCD hlt hall hp,?_⟩
   ·rw [QO hlt]
   ·rw [QO hlt];exact ho
  ·have ho':(729:Int)<prodL (O.take i)*O[i]:=by omega
   simp only [pwA,seval,-iQ0,hp,hw,ho'];refine no (fun h=>?_) hkp
   have:=zIQ h.2.2.2.1 (i+1)
   rw [QO hlt]at this
   have:=h.2.2.2.2.1
   omega
 have hie:i=O.length:=by omega
 subst hie;rw [List.take_length]at hall hpr
 refine zB (fun m vs h'=>∃i:Nat,i≤O.length∧m=O.length-i∧vs=[.ptr σ.next 0,.int .i64 O.length,.int .i64 O.length,.int .i64 i]∧h'=σ.new [.fz w0 a0 O.length (pis O),.fz w1 a1 P.length rP,.fz w3 a3 C.length rC]∧∀j,j<i→rowPr O P C j) O.length ?_ ?_
 ·exact⟨0,by omega,by omega,rfl,rfl,fun j hj=>by omega⟩
 rintro m vs h' ⟨i,hi,rfl,rfl,rfl,hrow⟩
 simp only [pwA,seval,-iQ0];refine iteI (fun hlt=>?_) fun hge=>?_
 rotate_left
 ·exact fin ⟨fun _=>⟨h6,hPl,hCl,hall,hpr,fun j hj=>hrow j (by omega)⟩,fun _=>rfl⟩ hkp
 have hiP:i<P.length:=by omega
 have hiC:i<C.length:=by omega
 obtain⟨w4,a4,hr⟩:=hP.rowI hiP;obtain⟨w5,a5,rs,hrb,hrs⟩:=hC.rowL hiC;have hwl:=szP.r _ (List.getElem_mem hiP);have hbl:=(szC.r _ (List.getElem_mem hiC)).l;have bad:(ZP O (i+1) P[i]→C[i].length=O.length-1-i→(∀k (h:k<C[i].length),ZP O (i+1) C[i][k])→False)→¬zK O P C:=fun hb hsh=>by
  obtain⟨q1,q3,q4⟩:=hsh.2.2.2.2.2 i hlt;rw [zBd hiP]at q1
  rw [qo hiC]at q3
  refine hb q1 q3 fun k h=>?_
  have:=q4 k (by rw [qo hiC];exact h)
  rwa [qo hiC,qo h]at this
 simp only [pwA,seval,-iQ0,hiP,hr];refine zBl hpt hFO sz.O hall ⟨_,_,rfl⟩ hwl hlt fun t ht=>?_
 cases t with
 | false=>
  simp only [pwA,seval,-iQ0];exact no (bad fun q _ _=>by cases ht.2 q) hkp
 | true=>
 have hv:=ht.1 rfl;have e1:IntKind.i64.wrap ((O.length:Int)-1)=(O.length:Int)-1:=wrap64 (by omega) (by omega)
 have e2:IntKind.i64.wrap ((O.length:Int)-1-(i:Int))=(O.length:Int)-1-(i:Int):=wrap64 (by omega) (by omega)
 by_cases hlen:C[i].length=O.length-1-i
 rotate_left
 ·have hlen':¬(C[i].length:Int)=(O.length:Int)-1-(i:Int):=by omega
  simp only [pwA,seval,-iQ0,hlt,hiC,hrb,e1,e2,hlen'];exact no (bad fun _ q _=>hlen q) hkp
 have hlen':(C[i].length:Int)=(O.length:Int)-1-(i:Int):=by omega
 simp only [pwA,seval,-iQ0,hlt,hiC,hrb,e1,e2,eq_true hlen'];refine zB (fun m vs h'=>∃k:Nat,k≤C[i].length∧m=C[i].length-k∧vs=[.ptr σ.next 0,.int .i64 O.length,.int .i64 i,.int .i64 O.length,.int .i64 i,.fz w5 a5 C[i].length rs,.int .i64 C[i].length,.int .i64 k]∧
  h'=σ.new [.fz w0 a0 O.length (pis O),.fz w1 a1 P.length rP,.fz w3 a3 C.length rC]∧∀j (h:j<C[i].length),j<k→ZP O (i+1) C[i][j]) C[i].length ?_ ?_
 ·exact⟨0,by omega,by omega,rfl,rfl,fun j h hj=>by omega⟩
 rintro m vs h' ⟨k,hk',rfl,rfl,rfl,hall2⟩
 simp only [pwA,seval,-iQ0];refine iteI (fun hlt2=>?_) fun hge=>?_
 ·obtain⟨w6,a6,hrk⟩:=hrs.rowI hlt2
  have hcl:=(szC.r _ (List.getElem_mem hiC)).r _ (List.getElem_mem hlt2);simp only [pwA,seval,-iQ0,hlt2,hrk];refine zBl hpt hFO sz.O hall ⟨_,_,rfl⟩ hcl hlt fun t ht=>?_
  cases t with
  | false=>
   simp only [pwA,seval,-iQ0];exact no (bad fun _ _ q=>by cases ht.2 (q k hlt2)) hkp
  | true=>
   simp only [pwA,seval,-iQ0,wrapS hlt2 (by omega:C[i].length≤4611686018427387904)]
   refine⟨_,by omega,k+1,by omega,rfl,rfl,fun j h hj=>?_⟩
   by_cases e:j=k
   ·subst e;exact ht.1 rfl
   ·exact hall2 j h (by omega)
 ·simp only [pwA,seval,-iQ0,wrapS hlt (by omega:O.length≤4611686018427387904)]
  refine⟨_,by omega,i+1,by omega,rfl,rfl,fun j hj=>?_⟩
  by_cases e:j=i
  ·subst e
   refine⟨by rw [zBd hiP];exact hv,by rw [qo hiC];exact hlen,fun t ht=>?_⟩
   rw [qo hiC]at ht ⊢
   rw [qo ht];exact hall2 t ht (by omega)
  ·exact hrow j (by omega)
end Go.Proofs
namespace Go.Grp
end Go.Grp
namespace Go.Proofs
open Go.Ab Go.Lie Go.Grp
variable {σ:PHeap} {K:PV→PHeap→Prop} {O:List Int} {P:List (List Int)} {C:List (List (List Int))} {vO vP vC vx:PV} {s:Nat} {x:List Int}
theorem zAu {t:Nat} {z:Int} (hz:z=(t:Int)-1) (ht:t≤O.length) (hO:FI vO O) (szO:O.length≤1048576) (bO:∀o∈O,isP o) (hx:FI vx x) (hb:x.length≤1048576) (hk:∀b:Bool,(b=true↔ZP O t x)→K (.bool b) σ):zA Tryz.prog 76 [vO,vx,.int .i64 z] σ K:=by
 have fl:∀{A:Prop},¬A→((false=true)↔A):=fun h=>⟨fun x=>(by cases x),fun x=>absurd x h⟩
 obtain⟨wo,ao,rfl⟩:=hO;obtain⟨wx,ax,rfl⟩:=hx;subst hz;refine zS mix Tryz.func76 ?_;simp only [pwA,seval,-iQ0];refine iteI (fun hl=>?_) fun hl=>?_
 rotate_left
 ·exact hk _ (fl fun h=>hl (by rw [h.1.1]))
 have hl:x.length=O.length:=by omega
 refine zB (fun m vs h'=>∃i:Nat,i≤x.length∧m=x.length-i∧vs=[.fz wo ao O.length (pis O),.fz wx ax x.length (pis x),.int .i64 ((t:Int)-1),.int .i64 i]∧σ=h'∧∀j,j<i→(0≤at_ x j∧at_ x j≤at_ O j-1)∧(j<t→at_ x j=0)) x.length ?_ ?_
 ·exact⟨0,by omega,by omega,rfl,rfl,fun j hj=>by omega⟩
 rintro m vs h' ⟨i,hi,rfl,rfl,rfl,hall⟩
 simp only [pwA,seval,-iQ0];refine iteI (fun hlt=>?_) fun hge=>?_
 rotate_left
 ·refine hk _ ⟨fun _=>⟨⟨hl,fun j hj=>(hall j (by omega)).1⟩,fun y hy=>?_⟩,fun _=>rfl⟩
  rw [List.mem_take_iff_getElem]at hy
  obtain⟨j,hj,rfl⟩:=hy
  have:=(hall j (by omega)).2 (by omega)
  rwa [at_eq (by omega)]at this
 have hO':i<O.length:=by omega
 have bo:=(bO _ (List.getElem_mem hO')).bd;simp only [pwA,seval,-iQ0,hlt,hO',gi hlt,gi hO',qM,wrap64 (n:=O[i] - 1) (by omega) (by omega)]
 refine zBa ?_
 by_cases hin:0≤x[i]∧x[i]≤O[i] - 1
 rotate_left
 ·simp only [pwA,seval,-iQ0,hin]
  exact hk _ (fl fun h=>hin (by have:=h.1.2 i hlt;rwa [at_eq hlt,at_eq hO']at this))
 have next:(i<t→x[i]=0)→∃n',n'<x.length-i∧∃i':Nat,i'≤x.length∧n'=x.length-i'∧[PV.fz wo ao O.length (pis O),.fz wx ax x.length (pis x),.int .i64 ((t:Int)-1),.int .i64 ((i+1:Nat):Int)]=[.fz wo ao O.length (pis O),.fz wx ax x.length (pis x),.int .i64 ((t:Int)-1),.int .i64 i']∧∀j,j<i'→(0≤at_ x j∧at_ x j≤at_ O j-1)∧(j<t→at_ x j=0):=fun h0=>by
  refine⟨_,by omega,i+1,by omega,rfl,rfl,fun j hj=>?_⟩
  by_cases e:j=i
  ·subst e;rw [at_eq hlt,at_eq hO'];exact⟨hin,h0⟩
  ·exact hall j (by omega)
 by_cases hle:(i:Int)≤(t:Int)-1
 ·simp only [pwA,seval,-iQ0,hin,hle,hlt,gi hlt,qM]
  refine iteI (fun h0=>?_) fun h0=>?_
  ·simp only [pwA,seval,-iQ0,wrapS hlt (by omega:x.length≤4611686018427387904)]
   exact next fun _=>h0
  ·refine hk _ (fl fun h=>h0 ?_)
   exact h.2 _ (by rw [List.mem_take_iff_getElem];exact⟨i,by omega,rfl⟩)
 ·simp only [pwA,seval,-iQ0,hin,hle,hlt,wrapS hlt (by omega:x.length≤4611686018427387904)]
  exact next fun h=>absurd h (by omega)
theorem zFD (hO:FI vO O) (szO:O.length≤6) (bO:∀o∈O,isP o) (hk:∀r:Int,(r≤729↔prodL O≤729)→K (.int .i64 r) σ):zA Tryz.prog 75 [vO] σ K:=by
 obtain⟨wo,ao,rfl⟩:=hO;refine zS mix Tryz.func75 ?_;simp only [pwA,seval,-iQ0];refine zB (fun m vs h'=>∃(i:Nat) (r:Int),i≤O.length∧m=O.length-i∧vs=[.fz wo ao O.length (pis O),.int .i64 r,.int .i64 i]∧σ=h'∧(r=prodL (O.take i)∨(729<r∧729<prodL (O.take i)))) O.length ?_ ?_
 ·exact⟨0,1,by omega,by omega,rfl,rfl,.inl (by simp [prodL])⟩
 rintro m vs h' ⟨i,r,hi,rfl,rfl,rfl,hr⟩
 simp only [pwA,seval,-iQ0];refine iteI (fun hlt=>?_) fun hge=>?_
 rotate_left
 ·have hie:i=O.length:=by omega
  subst hie;rw [List.take_length]at hr
  exact hk _ (by omega)
 have bt:∀o∈O.take i,isP o:=fun o ho=>bO o (List.mem_of_mem_take ho)
 have h1:=QF bt;have hp:=bO _ (List.getElem_mem hlt);have hpb:=hp.bd;have hs:=QO hlt;refine iteI (fun hle=>?_) fun hgt=>?_
 ·have hre:r=prodL (O.take i):=by omega
  subst hre;have hm1:0≤prodL (O.take i)*O[i]:=Int.mul_nonneg (by omega) (by omega)
  have hm2:=Int.mul_le_mul hle hpb.2 (by omega) (by omega)
  simp only [pwA,seval,-iQ0,hlt,gi hlt,qM,wrap64 (n:=prodL (O.take i)*O[i]) (by omega) (by omega),wrapS hlt (by omega:O.length≤4611686018427387904)]
  exact⟨_,by omega,i+1,_,by omega,rfl,rfl,.inl hs.symm⟩
 ·simp only [pwA,seval,-iQ0,wrapS hlt (by omega:O.length≤4611686018427387904)]
  refine⟨_,by omega,i+1,_,by omega,rfl,rfl,.inr ⟨by omega,?_⟩⟩
  have hm2:=Int.mul_le_mul (Int.le_refl (prodL (O.take i))) hpb.1 (by omega) (by omega)
  omega
theorem QT (hR:IsPr vO vP vC O P C) (sz:SzP O P C) (hk:∀t:Bool,(t=true↔zK O P C)→K (.bool t) σ):zA Tryz.prog 47 [.agg [vO,vP,vC]] σ K:=by
 have hFO:=hR.O;have szP:=sz.P;have szC:=sz.C;obtain⟨⟨w0,a0,rfl⟩,⟨w1,a1,rP,rfl,hP⟩,⟨w3,a3,rC,rfl,hC⟩⟩:=hR;refine zA.gh ?_;have fin:∀{t:Bool} {σ':PHeap},(t=true↔zK O P C)→Keep σ σ'→Gh σ K (.bool t) σ':=fun h k=>Gh.fin0 k trivial (hk _ h)
 have no:∀{σ':PHeap},¬zK O P C→Keep σ σ'→Gh σ K (.bool false) σ':=fun h k=>fin ⟨fun x=>(by cases x),fun x=>absurd x h⟩ k
 have hkp:=zD σ [.fz w0 a0 O.length (pis O),.fz w1 a1 P.length rP,.fz w3 a3 C.length rC];refine zHo mix Tryz.func47 ?_;simp only [pwA,seval,-iQ0]
 by_cases h6:O.length≤6
 rotate_left
 ·have h6':(6:Int)<(O.length:Int):=by omega
  simp only [pwA,seval,-iQ0,h6'];exact no (fun h=>h6 h.1) hkp
 have h6':¬(6:Int)<(O.length:Int):=by omega
 by_cases hPl:P.length=O.length
 rotate_left
 ·have hPl':¬(P.length:Int)=(O.length:Int):=by omega
  simp only [pwA,seval,-iQ0,h6',hPl'];exact no (fun h=>hPl h.2.1) hkp
 have hPl':(P.length:Int)=(O.length:Int):=by omega
 by_cases hCl:C.length=O.length
 rotate_left
 ·have hCl':¬(C.length:Int)=(O.length:Int):=by omega
  simp only [pwA,seval,-iQ0,h6',eq_true hPl',hCl'];exact no (fun h=>hCl h.2.2.1) hkp
 have hCl':(C.length:Int)=(O.length:Int):=by omega
 simp only [pwA,seval,-iQ0,h6',eq_true hPl',eq_true hCl'];refine zB (fun m vs h'=>∃i:Nat,i≤O.length∧m=O.length-i∧vs=[.ptr σ.next 0,.int .i64 O.length,.int .i64 i]∧h'=σ.new [.fz w0 a0 O.length (pis O),.fz w1 a1 P.length rP,.fz w3 a3 C.length rC]∧(∀o∈O.take i,isP o)) O.length ?_ ?_
 ·exact⟨0,by omega,by omega,rfl,rfl,by simp⟩
 rintro m vs h' ⟨i,hi,rfl,rfl,rfl,hall⟩
 simp only [pwA,seval,-iQ0];refine iteI (fun hlt=>?_) fun hge=>?_
 ·simp only [pwA,seval,-iQ0,hlt,gi hlt,qM]
  refine zC0 ?_
  by_cases hp:isP O[i]
  rotate_left
  ·simp only [pwA,seval,-iQ0,hp]
   exact no (fun h=>hp (h.2.2.2.1 _ (List.getElem_mem hlt))) hkp
  simp only [pwA,seval,-iQ0,hp,wrapS hlt (by omega:O.length≤4611686018427387904)]
  exact⟨_,by omega,i+1,by omega,rfl,rfl,zCD hlt hall hp⟩
 have hie:i=O.length:=by omega
 subst hie;rw [List.take_length]at hall
 simp only [pwA,seval,-iQ0];refine zFD hFO h6 hall fun r hr=>?_
 by_cases hpr:prodL O≤729
 rotate_left
 ·have:(729:Int)<r:=by omega
  simp only [pwA,seval,-iQ0,this];exact no (fun h=>hpr h.2.2.2.2.1) hkp
 have:¬(729:Int)<r:=by omega
 simp only [pwA,seval,-iQ0,this];refine zB (fun m vs h'=>∃i:Nat,i≤O.length∧m=O.length-i∧vs=[.ptr σ.next 0,.int .i64 O.length,.int .i64 i]∧h'=σ.new [.fz w0 a0 O.length (pis O),.fz w1 a1 P.length rP,.fz w3 a3 C.length rC]∧∀j,j<i→rowPr O P C j) O.length ?_ ?_
 ·exact⟨0,by omega,by omega,rfl,rfl,fun j hj=>by omega⟩
 rintro m vs h' ⟨i,hi,rfl,rfl,rfl,hrow⟩
 simp only [pwA,seval,-iQ0];refine iteI (fun hlt=>?_) fun hge=>?_
 rotate_left
 ·exact fin ⟨fun _=>⟨h6,hPl,hCl,hall,hpr,fun j hj=>hrow j (by omega)⟩,fun _=>rfl⟩ hkp
 have hiP:i<P.length:=by omega
 have hiC:i<C.length:=by omega
 obtain⟨w4,a4,hr⟩:=hP.rowI hiP;obtain⟨w5,a5,rs,hrb,hrs⟩:=hC.rowL hiC;have hwl:=szP.r _ (List.getElem_mem hiP);have hbl:=(szC.r _ (List.getElem_mem hiC)).l;have bad:(ZP O (i+1) P[i]→C[i].length=O.length-1-i→(∀k (h:k<C[i].length),ZP O (i+1) C[i][k])→False)→¬zK O P C:=fun hb hsh=>by
  obtain⟨q1,q3,q4⟩:=hsh.2.2.2.2.2 i hlt;rw [zBd hiP]at q1
  rw [qo hiC]at q3
  refine hb q1 q3 fun k h=>?_
  have:=q4 k (by rw [qo hiC];exact h)
  rwa [qo hiC,qo h]at this
 simp only [pwA,seval,-iQ0,hiP,hr];refine zAu (t:=i+1) (by omega) (by omega) hFO sz.O hall ⟨_,_,rfl⟩ hwl fun t ht=>?_
 cases t with
 | false=>
  simp only [pwA,seval,-iQ0];exact no (bad fun q _ _=>by cases ht.2 q) hkp
 | true=>
 have hv:=ht.1 rfl;have e1:IntKind.i64.wrap ((O.length:Int)-1)=(O.length:Int)-1:=wrap64 (by omega) (by omega)
 have e2:IntKind.i64.wrap ((O.length:Int)-1-(i:Int))=(O.length:Int)-1-(i:Int):=wrap64 (by omega) (by omega)
 by_cases hlen:C[i].length=O.length-1-i
 rotate_left
 ·have hlen':¬(C[i].length:Int)=(O.length:Int)-1-(i:Int):=by omega
  simp only [pwA,seval,-iQ0,hlt,hiC,hrb,e1,e2,hlen'];exact no (bad fun _ q _=>hlen q) hkp
 have hlen':(C[i].length:Int)=(O.length:Int)-1-(i:Int):=by omega
 simp only [pwA,seval,-iQ0,hlt,hiC,hrb,e1,e2,eq_true hlen'];refine zB (fun m vs h'=>∃k:Nat,k≤C[i].length∧m=C[i].length-k∧vs=[.ptr σ.next 0,.int .i64 O.length,.int .i64 i,.int .i64 k]∧
  h'=σ.new [.fz w0 a0 O.length (pis O),.fz w1 a1 P.length rP,.fz w3 a3 C.length rC]∧∀j (h:j<C[i].length),j<k→ZP O (i+1) C[i][j]) C[i].length ?_ ?_
 ·exact⟨0,by omega,by omega,rfl,rfl,fun j h hj=>by omega⟩
 rintro m vs h' ⟨k,hk',rfl,rfl,rfl,hall2⟩
 simp only [pwA,seval,-iQ0,hiC,hrb];refine iteI (fun hlt2=>?_) fun hge=>?_
 ·obtain⟨w6,a6,hrk⟩:=hrs.rowI hlt2
  have hcl:=(szC.r _ (List.getElem_mem hiC)).r _ (List.getElem_mem hlt2);simp only [pwA,seval,-iQ0,hiC,hrb,hlt2,hrk];refine zAu (t:=i+1) (by omega) (by omega) hFO sz.O hall ⟨_,_,rfl⟩ hcl fun t ht=>?_
  cases t with
  | false=>
   simp only [pwA,seval,-iQ0];exact no (bad fun _ _ q=>by cases ht.2 (q k hlt2)) hkp
  | true=>
   simp only [pwA,seval,-iQ0,wrapS hlt2 (by omega:C[i].length≤4611686018427387904)]
   refine⟨_,by omega,k+1,by omega,rfl,rfl,fun j h hj=>?_⟩
   by_cases e:j=k
   ·subst e;exact ht.1 rfl
   ·exact hall2 j h (by omega)
 ·simp only [pwA,seval,-iQ0,wrapS hlt (by omega:O.length≤4611686018427387904)]
  refine⟨_,by omega,i+1,by omega,rfl,rfl,fun j hj=>?_⟩
  by_cases e:j=i
  ·subst e
   refine⟨by rw [zBd hiP];exact hv,by rw [qo hiC];exact hlen,fun t ht=>?_⟩
   rw [qo hiC]at ht ⊢
   rw [qo ht];exact hall2 t ht (by omega)
  ·exact hrow j (by omega)
end Go.Proofs
namespace Go.Grp
end Go.Grp
namespace Go.Proofs
open Go.Ab Go.Lie Go.Grp
variable {σ:PHeap} {K:PV→PHeap→Prop} {O O':List Int} {P P':List (List Int)} {C C':List (List (List Int))} {vO vP vC vO' vP' vC':PV}
theorem zCl (hR:IsPr vO vP vC O P C) (hR':IsPr vO' vP' vC' O' P' C') (sz:SzP O P C) (hk:∀t:Bool,(t=true↔O=O'∧P=P'∧C=C')→K (.bool t) σ):zA Tryz.prog 10 [.agg [vO,vP,vC],.agg [vO',vP',vC']] σ K:=by
 have h0:=hR.O.one;have h1:=hR.P.one;have h2:=hR.C.one;have h0':=hR'.O.one;have h1':=hR'.P.one;have h2':=hR'.C.one;refine zA.gh ?_;have hkp:Keep σ ((σ.new [vO,vP,vC]).new [vO',vP',vC']):=(zD σ _).new _;have fin:∀{t:Bool},(t=true↔O=O'∧P=P'∧C=C')→Gh σ K (.bool t) ((σ.new [vO,vP,vC]).new [vO',vP',vC']):=fun h=>Gh.fin0 hkp trivial (hk _ h)
 have fl:∀{A:Prop},¬A→((false=true)↔A):=fun h=>⟨fun x=>(by cases x),fun x=>absurd x h⟩
 refine zS mix Tryz.func10 ?_;simp only [pwA,seval,-iQ0,h0,h1,h2,h0',h1',h2'];refine zC5 hR.O hR'.O (by have:=sz.O;omega) ?_
 by_cases ho:O=O'
 rotate_left
 ·simp only [pwA,seval,-iQ0,ho]
  exact fin (fl fun h=>ho h.1)
 simp only [pwA,seval,-iQ0,eq_true ho,h0,h1,h2,h0',h1',h2'];refine zAe hR.P hR'.P sz.P fun t ht=>?_
 cases t with
 | false=>
  simp only [pwA,seval,-iQ0];exact fin (fl fun h=>by cases ht.2 h.2.1)
 | true=>
 simp only [pwA,seval,-iQ0,h0,h1,h2,h0',h1',h2'];refine zFF hR.C hR'.C sz.C fun t ht'=>?_
 have:=fin (t:=t) ⟨fun h=>⟨ho,ht.1 rfl,ht'.1 h⟩,fun h=>ht'.2 h.2.2⟩
 cases t with
 | false=>
  simp only [pwA,seval,-iQ0];exact this
 | true=>
  simp only [pwA,seval,-iQ0];exact this
end Go.Proofs
namespace Go.Grp
end Go.Grp
namespace Go.Proofs
open Go.Ab Go.Lie Go.Grp
variable {σ:PHeap} {K:PV→PHeap→Prop} {O:List Int} {P:List (List Int)} {C:List (List (List Int))} {vO vP vC vx:PV} {s:Nat} {x:List Int} {rP rC:List PV}
theorem FI.mk {w:Bool} {a:AV} {n:Nat} (h:x.length=n):FI (.fz w a n (pis x)) x:=⟨w,a,by rw [h]⟩
end Go.Proofs
namespace Go.Grp
end Go.Grp
namespace Go.Proofs
open Go.Ab Go.Lie Go.Grp
variable {σ:PHeap} {K:PV→PHeap→Prop} {O:List Int} {P:List (List Int)} {C:List (List (List Int))} {vO vP vC vx:PV} {s:Nat} {x:List Int} {rP rC:List PV}
theorem zIt {n k:Nat} (hn:n≤1048576) (hkn:k<n) (hk:∀v,FI v (unitL n k)→K v σ):zA Tryz.prog 78 [.int .i64 n,.int .i64 k] σ K:=by
 refine zA.gh ?_;refine zS mix Tryz.func78 ?_;simp only [pwA,seval,-iQ0,List.length_replicate,Qi,mk8 (n:=n) (by omega),mkL (n:=n) (by omega),hkn,Nat.succ_le_of_lt hkn,qi]
 rw [zAB (by simpa using hkn)]
 exact Gh.finF (s:=σ.next) (zD σ _) (by simp only [pwA,seval,-iQ0];rfl) (Nat.le_refl _) (Zy _ _) (by simp [capOK]) fun o1=>hk _ (FI.mk (Zl n k))
end Go.Proofs
set_option linter.unusedSectionVars false
namespace Go.Grp
open Go.Ab Go.Lie
variable {α:Type} {S:α→Prop} {m:α→α→α} {e:α} {a b c x y z g:α}
noncomputable def ginv [Inhabited α] (S:α→Prop) (m:α→α→α) (e a:α):α:=Classical.epsilon fun b=>S b∧m a b=e
section
variable [Inhabited α]
noncomputable def cnj (S:α→Prop) (m:α→α→α) (e x g:α):α:=m (ginv S m e g) (m x g)
structure NSub (S:α→Prop) (m:α→α→α) (e:α) (N:α→Prop):Prop where
 inS:∀{x},N x→S x
 one:N e
 cl:∀{x y},N x→N y→N (m x y)
 inv:∀{x},N x→N (ginv S m e x)
 nor:∀{x g},N x→S g→N (cnj S m e x g)
end
end Go.Grp
namespace Go.Grp
open Go.Ab Go.Lie
variable {O:List Int} {P:List (List Int)} {C:List (List (List Int))} {x y z:List Int} {A B:List Int→Prop}
abbrev gS (O:List Int):List Int→Prop:=TT O 0
abbrev gm (O:List Int) (P:List (List Int)) (C:List (List (List Int))):List Int→List Int→List Int:=mu O P C O.length
abbrev gN (O:List Int) (P:List (List Int)) (C:List (List (List Int))) (N:List Int→Prop):Prop:=NSub (gS O) (gm O P C) (zv O) N
end Go.Grp
