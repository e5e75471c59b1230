/- . -/
import Derived.Test.YtgkbfiilhocioaaGreatHAbHeap
import Derived.Test.YtgkbfiilhocioaaGreatChecked
open Nat renaming le_refl→vM
open Int renaming reduceNatCast'->ae
set_option maxRecDepth 100000
namespace Go.Proofs
open Go.Ab
def mI0(d s:Nat):II:=⟨some d,.mv (.t s),true,none⟩
def kI0(d:Nat)(k:Int):II:=⟨some d,.mv (.c (.int .i64 k)),true,none⟩
def tI0(d:Nat)(k:Bool):II:=⟨some d,.mv (.c (.bool k)),true,none⟩
def lI0(d s:Nat):II:=⟨some d,.load false 1 (.t s),true,none⟩
def LI0(d s:Nat):II:=⟨some d,.load true 3 (.t s),true,none⟩
def fI0(d o s:Nat):II:=⟨some d,.fieldAddr o (.t s),true,none⟩
def xI0(d a i:Nat):II:=⟨some d,.indexAddr 1 (.t a) (.t i),true,none⟩
def bI0(d:Nat)(o:BinOp)(a b:Nat):II:=⟨some d,.bin o .other (.t a) (.t b),true,none⟩
def cI0(d:Nat)(o:BinOp)(a:Nat)(k:Int):II:=⟨some d,.bin o .other (.t a) (.c (.int .i64 k)),true,none⟩
def nI0(d s:Nat):II:=⟨some d,.un .not (.t s),true,none⟩
def sI0(d s:Nat):II:=⟨some d,.len (.t s),true,none⟩
def pI0(d s:Nat):II:=⟨some d,.nilCheck (.t s),true,none⟩
def eI0(d s i:Nat):II:=⟨some d,.extract (.t s) i,true,none⟩
def C0(d f:Nat):II:=⟨some d,.call f [],false,none⟩
def C1(d f a:Nat):II:=⟨some d,.call f [.t a],false,none⟩
def C2(d f a b:Nat):II:=⟨some d,.call f [.t a,.t b],false,none⟩
def C3(d f a b c:Nat):II:=⟨some d,.call f [.t a,.t b,.t c],false,none⟩
def mD0(d s n:Nat):DI:=⟨⟨some d,.mv (.t s),true,none⟩,n,[]⟩
def lD0(d s n:Nat):DI:=⟨⟨some d,.load false 1 (.t s),true,none⟩,n,[]⟩
def fD0(d o s n:Nat):DI:=⟨⟨some d,.fieldAddr o (.t s),true,none⟩,n,[]⟩
def xD0(d a i n:Nat):DI:=⟨⟨some d,.indexAddr 1 (.t a) (.t i),true,none⟩,n,[]⟩
def pD0(d s n:Nat):DI:=⟨⟨some d,.nilCheck (.t s),true,none⟩,n,[]⟩
def I0(k:Int):IX:=.c (.int .i64 k)
def G0(d:Nat)(o:IOp)(q:Bool)(t:Nat)(b:Bool):II:=⟨some d,o,q,some (t,b)⟩
def gm0(d s t:Nat)(b:Bool):II:=⟨some d,.mv (.t s),true,some (t,b)⟩
def oI0(d a b:Nat):II:=⟨some d,.pick (.t a) (.c (.bool true)) (.t b),true,none⟩
def aI0(d a b:Nat):II:=⟨some d,.pick (.t a) (.t b) (.c (.bool false)),true,none⟩
def zI0(d:Nat):II:=⟨some d,.mv (.c .nils),true,none⟩
def yI0(d a:Nat)(k:Int):II:=⟨some d,.indexAddr 1 (.t a) (.c (.int .i64 k)),true,none⟩
def vI0(n a b:Nat):II:=⟨none,.store n (.t a) (.t b),false,none⟩
def wD0(n a b i:Nat):DI:=⟨⟨none,.store n (.t a) (.t b),false,none⟩,i,[]⟩
def R0(l:List Nat)(i:List II):IC:=.region l i
def S0(a b:IC):IC:=.seq a b
open Tryz
theorem mix:Tryz.prog.follows .mixedOrders=true:=by kernel_rfl
def if19:IFn:=⟨[0,1],[(.tmp 4)],(S0 (R0 [1,2] [eI 2 (.box (.t 0)),kI0 4 0])
 (S0 (R0 [1,2] [fI0 5 1 2,lI0 6 5,mI0 7 1,C2 8 20 6 7,mI0 1 8])
 (S0 (R0 [1] [fI0 9 2 2,lI0 10 9,mI0 11 1,C2 12 99 10 11,mI0 1 12])
 (S0 (R0 [4] [mI0 13 1,mI0 4 13])
 .ret))))⟩
theorem cf19:cF prog f19=some if19:=by kernel_rfl
def if20:IFn:=⟨[0,1],[(.tmp 4)],(S0 (R0 [0,1] [kI0 4 0])
 (S0 (.seq (R0 [0,1,5] [kI0 5 0])
 (.block 0 (.loop [0,1,5] (S0 (.seq (R0 [0,1,5,9] [mI0 6 5,mI0 7 0,sI0 8 7,bI0 9 .lss 6 8])
 (.cond (.t 9) .skip (.exit 0)))
 (S0 (.block 1 (R0 [0,1,5] [mI0 12 0,mI0 13 5,xI0 14 12 13,lI0 15 14,mI0 16 1,C2 17 100 15 16,mI0 1 17]))
 (R0 [0,1,5] [mI0 10 5,cI0 11 .add 10 1,mI0 5 11]))))))
 (S0 (R0 [4] [mI0 18 1,mI0 4 18])
 .ret)))⟩
theorem cf20:cF prog f20=some if20:=by kernel_rfl
def if87:IFn:=⟨[0,1],[(.tmp 4)],(S0 (R0 [1,2] [eI 2 (.box (.t 0)),zI0 4])
 (S0 (R0 [1,2,5] [fI0 13 0 2,lI0 14 13,sI0 15 14,mI0 5 15])
 (S0 (R0 [1,2,5,6] [mI0 16 5,eI 17 (.makeSl 1 24 [.nils] (.t 16) (.t 16)),mI0 6 17])
 (S0 (R0 [2,5,6,7] [mI0 18 1,C1 19 180 18,mI0 7 19])
 (S0 (.block 0 (.loop [2,5,6,7] (S0 (.seq (R0 [2,5,6,7,22] [mI0 20 7,sI0 21 20,cI0 22 .gtr 21 0])
 (.cond (.t 22) .skip (.exit 0)))
 (.block 1 (S0 (R0 [2,5,6,7,8] [mI0 23 7,mI0 24 7,sI0 25 24,cI0 26 .sub 25 1,xI0 27 23 26,lI0 28 27,mI0 8 28])
 (S0 (R0 [2,5,6,7,8] [mI0 29 7,mI0 30 7,sI0 31 30,cI0 32 .sub 31 1,qI 33 (.slice 1 (.t 29) none (some (.t 32)) none),mI0 7 33])
 (S0 (R0 [2,5,6,7,9,10] [LI0 35 2,mI0 36 6,mI0 37 8,C3 38 181 35 36 37,mI0 34 38,eI0 39 34 0,eI0 40 34 1,mI0 9 39,mI0 10 40])
 (S0 (.seq (R0 [2,5,6,7,9,10,43] [mI0 41 9,mI0 42 5,bI0 43 .eql 41 42])
 (.cond (.t 43) (.exit 1) .skip))
 (S0 (.draw [2,5,6,7,9,10,11] [] [qD 44 (.load true 3 (.t 2)) 0,mD0 45 10 1,mD0 46 10 2,mD0 47 9 3,xD0 48 46 47 4,lD0 49 48 5,fD0 50 0 2 6,lD0 51 50 7,mD0 52 9 8,xD0 53 51 52 9,lD0 54 53 10,eD 55 (.call 183 [(.t 49),(.t 54)]) 11 [0],eD 56 (.call 182 [(.t 44),(.t 45),(.t 55)]) 12 [],mD0 11 56 13])
 (S0 (R0 [2,5,6,7,9,10,11] [mI0 57 6,mI0 58 9,mI0 59 11,xI0 60 57 58,vI0 1 60 59])
 (S0 (R0 [2,5,6,7,9,11] [mI0 61 7,mI0 62 10,eI 63 (.buildSl 1 1 [.nils] [(0,1,(.t 62))]),eI 64 (.append 1 24 (.t 61) (.t 63)),mI0 7 64])
 (S0 (.draw [2,5,6,7,9,11] [] [mD0 65 7 0,qD 66 (.load true 3 (.t 2)) 1,mD0 67 11 2,fD0 68 0 2 3,lD0 69 68 4,mD0 70 9 5,xD0 71 69 70 6,lD0 72 71 7,eD 73 (.call 182 [(.t 66),(.t 67),(.t 72)]) 8 [],eD 74 (.buildSl 1 1 [.nils] [(0,1,(.t 73))]) 9 [],eD 75 (.append 1 24 (.t 65) (.t 74)) 10 [],mD0 7 75 11])
 (S0 (R0 [2,5,6,7,9,11,12] [kI0 12 0])
 (.block 2 (.loop [2,5,6,7,9,11,12] (S0 (.seq (R0 [2,5,6,7,9,11,12,78] [mI0 76 12,mI0 77 5,bI0 78 .lss 76 77])
 (.cond (.t 78) .skip (.exit 2)))
 (S0 (.block 3 (S0 (R0 [2,5,6,7,9,11,12,91] [mI0 81 12,mI0 82 9,bI0 83 .neq 81 82,mI0 84 83,gm0 85 6 84 true,gm0 86 12 84 true,G0 87 (.indexAddr 1 (.t 85) (.t 86)) true 84 true,G0 88 (.load false 1 (.t 87)) true 84 true,G0 89 (.len (.t 88)) true 84 true,G0 90 (.bin .gtr .other (.t 89) (I0 0)) true 84 true,aI0 91 84 90])
 (.cond (.t 91) (.draw [2,5,6,7,9,11,12] [] [mD0 92 7 0,qD 93 (.load true 3 (.t 2)) 1,mD0 94 11 2,mD0 95 6 3,mD0 96 12 4,xD0 97 95 96 5,lD0 98 97 6,eD 99 (.call 184 [(.t 93),(.t 94),(.t 98)]) 7 [],eD 100 (.buildSl 1 1 [.nils] [(0,1,(.t 99))]) 8 [],eD 101 (.append 1 24 (.t 92) (.t 100)) 9 [],mD0 7 101 10]) .skip)))
 (R0 [2,5,6,7,9,11,12] [mI0 79 12,cI0 80 .add 79 1,mI0 12 80]))))))))))))))))))
 (S0 (R0 [4] [LI0 102 2,mI0 103 6,C2 104 185 102 103,mI0 4 104])
 .ret))))))⟩
theorem cf87:cF prog f87=some if87:=by kernel_rfl
def if88:IFn:=⟨[0],[(.cell 2 true 3)],(S0 (R0 [1,2] [eI 1 (.box (.t 0)),eI 2 (.alloc [.nils,.nils,.nils])])
 (S0 (R0 [1,2,3] [fI0 8 1 1,lI0 9 8,sI0 10 9,mI0 3 10])
 (S0 (R0 [1,2,3,4] [eI 11 (.buildSl 1 0 [(.int .i64 0)] []),eI 12 (.buildSl 1 0 [.nils] []),eI 13 (.buildSl 1 0 [.nils] []),qI 14 (.build [.nils,.nils,.nils] [(0,1,(.t 11)),(1,1,(.t 12)),(2,1,(.t 13))]),eI 4 (.alloc [.nils,.nils,.nils]),vI0 3 4 14])
 (S0 (.seq (R0 [1,2,3,4,5] [kI0 5 0])
 (.block 0 (.loop [1,2,3,4,5] (S0 (.seq (R0 [1,2,3,4,5,17] [mI0 15 5,mI0 16 3,bI0 17 .lss 15 16])
 (.cond (.t 17) .skip (.exit 0)))
 (S0 (.block 1 (S0 (R0 [1,2,3,4,5] [fI0 20 0 4,lI0 21 20,fI0 22 0 1,lI0 23 22,eI 24 (.buildSl 1 1 [(.int .i64 0)] [(0,1,(.t 23))]),eI 25 (.append 1 8 (.t 21) (.t 24)),fI0 26 0 4,vI0 1 26 25])
 (S0 (.draw [1,2,3,4,5] [] [fD0 27 1 4 0,lD0 28 27 1,qD 29 (.load true 3 (.t 1)) 2,fD0 30 1 1 3,lD0 31 30 4,mD0 32 5 5,xD0 33 31 32 6,lD0 34 33 7,eD 35 (.call 86 [(.t 29),(.t 34)]) 8 [1],eD 36 (.buildSl 1 1 [.nils] [(0,1,(.t 35))]) 9 [1],eD 37 (.append 1 24 (.t 28) (.t 36)) 10 [],fD0 38 1 4 11,wD0 1 38 37 12])
 (S0 (R0 [1,2,3,4,5,6] [eI 39 (.buildSl 1 0 [.nils] []),mI0 6 39])
 (S0 (.seq (R0 [1,2,3,4,5,6,7] [mI0 40 5,cI0 41 .add 40 1,mI0 7 41])
 (.block 2 (.loop [1,2,3,4,5,6,7] (S0 (.seq (R0 [1,2,3,4,5,6,7,44] [mI0 42 7,mI0 43 3,bI0 44 .lss 42 43])
 (.cond (.t 44) .skip (.exit 2)))
 (S0 (.block 3 (.draw [1,2,3,4,5,6,7] [] [mD0 47 6 0,qD 48 (.load true 3 (.t 1)) 1,qD 49 (.load true 3 (.t 1)) 2,qD 50 (.load true 3 (.t 1)) 3,mD0 51 7 4,qD 53 (.load true 3 (.t 1)) 6,mD0 54 5 7,eD 52 (.call 179 [(.t 50),(.t 51)]) 5 [1,2,6],eD 55 (.call 179 [(.t 53),(.t 54)]) 8 [1,2],eD 56 (.call 186 [(.t 49),(.t 52),(.t 55)]) 9 [1],eD 57 (.call 86 [(.t 48),(.t 56)]) 10 [],eD 58 (.buildSl 1 1 [.nils] [(0,1,(.t 57))]) 11 [],eD 59 (.append 1 24 (.t 47) (.t 58)) 12 [],mD0 6 59 13]))
 (R0 [1,2,3,4,5,6,7] [mI0 45 7,cI0 46 .add 45 1,mI0 7 46]))))))
 (R0 [1,2,3,4,5] [fI0 60 2 4,lI0 61 60,mI0 62 6,eI 63 (.buildSl 1 1 [.nils] [(0,1,(.t 62))]),eI 64 (.append 1 24 (.t 61) (.t 63)),fI0 65 2 4,vI0 1 65 64]))))))
 (R0 [1,2,3,4,5] [mI0 18 5,cI0 19 .add 18 1,mI0 5 19]))))))
 (S0 (R0 [2] [LI0 66 4,vI0 3 2 66])
 .ret)))))⟩
theorem cf88:cF prog f88=some if88:=by kernel_rfl
def if94:IFn:=⟨[0],[(.cell 2 true 3)],(S0 (R0 [0,2] [eI 2 (.alloc [.nils,.nils,.nils])])
 (S0 (R0 [0,2,3] [mI0 8 0,pI0 9 8,fI0 10 1 9,lI0 11 10,sI0 12 11,mI0 3 12])
 (S0 (R0 [0,2,3,4] [mI0 13 0,pI0 14 13,fI0 15 0 14,lI0 16 15,eI 17 (.buildSl 1 1 [(.int .i64 0)] [(0,1,(.t 16))]),mI0 18 3,C2 19 190 17 18,C1 20 189 19,eI 4 (.alloc [.nils,.nils,.nils]),vI0 3 4 20])
 (S0 (.seq (R0 [0,2,3,4,21,22] [mI0 21 3,kI0 22 0])
 (.block 0 (.loop [0,2,3,4,21,22] (S0 (R0 [0,2,3,4,21,22,23] [bI0 23 .lss 22 21])
 (S0 (.cond (.t 23) .skip (.exit 0))
 (S0 (.block 1 (S0 (R0 [0,2,3,4,5,21,22] [mI0 24 22,mI0 5 24])
 (S0 (R0 [0,2,3,4,5,6,21,22] [mI0 25 3,mI0 26 5,C2 27 159 25 26,mI0 6 27])
 (S0 (.draw [0,2,3,4,5,6,21,22] [] [fD0 28 1 4 0,lD0 29 28 1,mD0 30 5 2,mD0 31 0 3,mD0 32 0 4,mD0 33 0 5,pD0 34 33 6,fD0 35 0 34 7,lD0 36 35 8,mD0 37 6 9,eD 38 (.call 191 [(.t 32),(.t 36),(.t 37)]) 10 [1],eD 39 (.call 95 [(.t 31),(.t 38)]) 11 [1],xD0 40 29 30 12,wD0 1 40 39 13])
 (S0 (R0 [0,2,3,4,5,6,21,22,46,47] [fI0 41 2 4,lI0 42 41,mI0 43 5,xI0 44 42 43,lI0 45 44,sI0 46 45,kI0 47 0])
 (.block 2 (.loop [0,2,3,4,5,6,21,22,46,47] (S0 (R0 [0,2,3,4,5,6,21,22,46,47,48] [bI0 48 .lss 47 46])
 (S0 (.cond (.t 48) .skip (.exit 2))
 (S0 (.block 3 (S0 (R0 [0,2,3,4,5,6,7,21,22,46,47] [mI0 49 47,mI0 7 49])
 (.draw [0,2,3,4,5,6,21,22,46,47] [] [fD0 50 2 4 0,lD0 51 50 1,mD0 52 5 2,xD0 53 51 52 3,lD0 54 53 4,mD0 55 7 5,mD0 56 0 6,mD0 57 0 7,mD0 58 0 8,mD0 59 6 9,mD0 61 3 11,mD0 62 5 12,qD 63 (.bin .add .other (.t 62) (I0 1)) 13,mD0 64 7 14,qD 65 (.bin .add .other (.t 63) (.t 64)) 15,mD0 67 6 17,eD 60 (.call 191 [(.t 58),(I0 (-1)),(.t 59)]) 10 [1,4],eD 66 (.call 159 [(.t 61),(.t 65)]) 16 [1,4],eD 68 (.buildSl 1 3 [.nils] [(0,1,(.t 60)),(1,1,(.t 66)),(2,1,(.t 67))]) 18 [1,4],eD 69 (.call 192 [(.t 57),(.t 68)]) 19 [1,4],eD 70 (.call 95 [(.t 56),(.t 69)]) 20 [1,4],xD0 71 54 55 21,wD0 1 71 70 22])))
 (R0 [0,2,3,4,5,6,21,22,46,47] [cI0 72 .add 47 1,mI0 47 72])))))))))))
 (R0 [0,2,3,4,21,22] [cI0 73 .add 22 1,mI0 22 73])))))))
 (S0 (R0 [2] [LI0 74 4,vI0 3 2 74])
 .ret)))))⟩
theorem cf94:cF prog f94=some if94:=by kernel_rfl
def if99:IFn:=⟨[0,1],[(.tmp 4)],(S0 (R0 [0,1] [kI0 4 0])
 (S0 (.seq (R0 [0,1,5] [kI0 5 0])
 (.block 0 (.loop [0,1,5] (S0 (.seq (R0 [0,1,5,9] [mI0 6 5,mI0 7 0,sI0 8 7,bI0 9 .lss 6 8])
 (.cond (.t 9) .skip (.exit 0)))
 (S0 (.block 1 (R0 [0,1,5] [mI0 12 0,mI0 13 5,xI0 14 12 13,lI0 15 14,mI0 16 1,C2 17 20 15 16,mI0 1 17]))
 (R0 [0,1,5] [mI0 10 5,cI0 11 .add 10 1,mI0 5 11]))))))
 (S0 (R0 [4] [mI0 18 1,mI0 4 18])
 .ret)))⟩
theorem cf99:cF prog f99=some if99:=by kernel_rfl
def if100:IFn:=⟨[0,1],[(.tmp 4)],(S0 (R0 [0,1] [kI0 4 0])
 (S0 (.seq (R0 [0,1,5] [kI0 5 0])
 (.block 0 (.loop [0,1,5] (S0 (.seq (R0 [0,1,5,9] [mI0 6 5,mI0 7 0,sI0 8 7,bI0 9 .lss 6 8])
 (.cond (.t 9) .skip (.exit 0)))
 (S0 (.block 1 (S0 (R0 [0,1,5] [mI0 12 0,mI0 13 5,mI0 14 1,xI0 15 12 13,vI0 1 15 14])
 (R0 [0,1,5] [mI0 16 1,cI0 17 .add 16 1,mI0 1 17])))
 (R0 [0,1,5] [mI0 10 5,cI0 11 .add 10 1,mI0 5 11]))))))
 (S0 (R0 [4] [mI0 18 1,mI0 4 18])
 .ret)))⟩
theorem cf100:cF prog f100=some if100:=by kernel_rfl
def if105:IFn:=⟨[0,1],[(.tmp 4)],(S0 (R0 [1,2] [eI 2 (.box (.t 0)),zI0 4])
 (S0 (R0 [1,2,5] [eI 10 (.buildSl 1 0 [.nils] []),mI0 5 10])
 (S0 (.seq (R0 [1,2,5,6] [kI0 6 0])
 (.block 0 (.loop [1,2,5,6] (S0 (.seq (R0 [1,2,5,6,14] [mI0 11 6,mI0 12 1,sI0 13 12,bI0 14 .lss 11 13])
 (.cond (.t 14) .skip (.exit 0)))
 (S0 (.block 1 (S0 (.draw [1,2,5,6,7] [] [qD 17 (.load true 3 (.t 2)) 0,mD0 18 5 1,mD0 19 1 2,mD0 20 6 3,xD0 21 19 20 4,lD0 22 21 5,eD 23 (.call 197 [(.t 17),(.t 18),(.t 22)]) 6 [],mD0 7 23 7])
 (.block 2 (.loop [1,2,5,6,7] (S0 (.seq (R0 [1,2,5,6,7,26] [mI0 24 7,C1 25 198 24,nI0 26 25])
 (.cond (.t 26) .skip (.exit 2)))
 (.block 3 (S0 (.draw [1,2,5,6,7] [] [qD 27 (.load true 3 (.t 2)) 0,mD0 28 7 1,mD0 29 7 2,fD0 33 0 2 6,lD0 34 33 7,mD0 36 7 9,mD0 37 7 10,eD 30 (.call 199 [(.t 29)]) 3 [0,7],xD0 31 28 30 4,lD0 32 31 5,eD 35 (.call 183 [(.t 32),(.t 34)]) 8 [0],eD 38 (.call 178 [(.t 27),(.t 35),(.t 36),(I0 0),(.t 37)]) 11 [],mD0 7 38 12])
 (S0 (R0 [1,2,5,6,7] [mI0 39 5,mI0 40 7,C2 41 200 39 40,mI0 5 41])
 (.draw [1,2,5,6,7] [] [qD 42 (.load true 3 (.t 2)) 0,mD0 43 5 1,qD 44 (.load true 3 (.t 2)) 2,fD0 45 0 2 3,lD0 46 45 4,mD0 47 7 5,mD0 48 7 6,eD 49 (.call 178 [(.t 44),(.t 46),(.t 47),(I0 0),(.t 48)]) 7 [0],eD 50 (.call 197 [(.t 42),(.t 43),(.t 49)]) 8 [],mD0 7 50 9])))))))))
 (R0 [1,2,5,6] [mI0 15 6,cI0 16 .add 15 1,mI0 6 16]))))))
 (S0 (R0 [2,5,8] [eI 51 (.buildSl 1 0 [.nils] []),mI0 8 51])
 (S0 (.seq (R0 [2,5,8,9] [kI0 9 0])
 (.block 4 (.loop [2,5,8,9] (S0 (.seq (R0 [2,5,8,9,55] [mI0 52 9,mI0 53 5,sI0 54 53,bI0 55 .lss 52 54])
 (.cond (.t 55) .skip (.exit 4)))
 (S0 (.block 5 (.draw [2,5,8,9] [] [mD0 58 8 0,qD 59 (.load true 3 (.t 2)) 1,mD0 60 5 2,mD0 61 9 3,qD 62 (.bin .add .other (.t 61) (I0 1)) 4,qD 63 (.slice 1 (.t 60) (some (.t 62)) none none) 5,mD0 64 5 6,mD0 65 9 7,xD0 66 64 65 8,lD0 67 66 9,eD 68 (.call 197 [(.t 59),(.t 63),(.t 67)]) 10 [],eD 69 (.buildSl 1 1 [.nils] [(0,1,(.t 68))]) 11 [],eD 70 (.append 1 24 (.t 58) (.t 69)) 12 [],mD0 8 70 13]))
 (R0 [2,5,8,9] [mI0 56 9,cI0 57 .add 56 1,mI0 9 57]))))))
 (S0 (R0 [4] [mI0 71 8,mI0 4 71])
 .ret))))))⟩
theorem cf105:cF prog f105=some if105:=by kernel_rfl
def if109:IFn:=⟨[0,1],[(.tmp 4)],(S0 (R0 [0,1] [zI0 4])
 (S0 (R0 [0,1,5] [mI0 13 0,pI0 14 13,fI0 15 1 14,lI0 16 15,sI0 17 16,eI 18 (.makeSl 1 24 [.nils] (.t 17) (.t 17)),mI0 5 18])
 (S0 (R0 [0,5,6] [mI0 19 1,C1 20 201 19,mI0 6 20])
 (S0 (.block 0 (.loop [0,5,6] (S0 (.seq (R0 [0,5,6,23] [mI0 21 6,sI0 22 21,cI0 23 .gtr 22 0])
 (.cond (.t 23) .skip (.exit 0)))
 (.block 1 (S0 (R0 [0,5,6,7] [mI0 24 6,yI0 25 24 0,lI0 26 25,mI0 7 26])
 (S0 (R0 [0,5,6,7] [mI0 27 6,qI 28 (.slice 1 (.t 27) (some (I0 1)) none none),mI0 6 28])
 (S0 (R0 [0,5,6,7,8] [mI0 29 7,C1 30 202 29,mI0 8 30])
 (S0 (.block 2 (.loop [0,5,6,7,8] (S0 (.seq (R0 [0,5,6,7,8,41] [mI0 31 8,mI0 32 7,sI0 33 32,bI0 34 .lss 31 33,mI0 35 34,gm0 36 5 35 true,gm0 37 8 35 true,G0 38 (.indexAddr 1 (.t 36) (.t 37)) true 35 true,G0 39 (.load false 1 (.t 38)) true 35 true,G0 40 (.bin .neq .slice (.t 39) (.c .nils)) true 35 true,aI0 41 35 40])
 (.cond (.t 41) .skip (.exit 2)))
 (.block 3 (S0 (.draw [0,5,6,7] [] [mD0 42 0 0,mD0 43 7 1,mD0 44 0 2,mD0 45 7 3,mD0 46 8 4,xD0 47 45 46 5,lD0 48 47 6,qD 49 (.un .neg (.t 48)) 7,mD0 50 5 8,mD0 51 8 9,xD0 52 50 51 10,lD0 53 52 11,eD 54 (.call 191 [(.t 44),(.t 49),(.t 53)]) 12 [],eD 55 (.call 161 [(.t 42),(.t 43),(.t 54)]) 13 [],mD0 7 55 14])
 (R0 [0,5,6,7,8] [mI0 56 7,C1 57 202 56,mI0 8 57]))))))
 (S0 (.seq (R0 [0,5,6,7,8,61] [mI0 58 8,mI0 59 7,sI0 60 59,bI0 61 .eql 58 60])
 (.cond (.t 61) (.exit 1) .skip))
 (S0 (.draw [0,5,6,7,8,9] [] [mD0 63 7 0,mD0 64 8 1,xD0 65 63 64 2,lD0 66 65 3,mD0 67 0 4,pD0 68 67 5,fD0 69 0 68 6,lD0 70 69 7,eD 71 (.call 203 [(.t 66),(.t 70)]) 8 [],mD0 62 71 9,qD 72 (.extract (.t 62) 0) 10,qD 73 (.extract (.t 62) 1) 11,mD0 9 72 12,mD0 10 73 13])
 (S0 (R0 [0,5,6,8] [mI0 74 5,mI0 75 8,mI0 76 0,mI0 77 9,mI0 78 7,C3 79 191 76 77 78,xI0 80 74 75,vI0 1 80 79])
 (.draw [0,5,6] [] [mD0 81 6 0,mD0 82 0 1,mD0 83 0 2,pD0 84 83 3,fD0 85 0 84 4,lD0 86 85 5,mD0 87 5 6,mD0 88 8 7,xD0 89 87 88 8,lD0 90 89 9,eD 91 (.call 191 [(.t 82),(.t 86),(.t 90)]) 10 [],eD 92 (.buildSl 1 1 [.nils] [(0,1,(.t 91))]) 11 [],eD 93 (.append 1 24 (.t 81) (.t 92)) 12 [],mD0 6 93 13]))))))))))))
 (S0 (R0 [0,5,11] [zI0 11])
 (S0 (.seq (R0 [0,5,11,12] [mI0 94 5,sI0 95 94,cI0 96 .sub 95 1,mI0 12 96])
 (.block 4 (.loop [0,5,11,12] (S0 (.seq (R0 [0,5,11,12,98] [mI0 97 12,cI0 98 .geq 97 0])
 (.cond (.t 98) .skip (.exit 4)))
 (S0 (.block 5 (S0 (R0 [0,5,11,12,105] [mI0 101 5,mI0 102 12,xI0 103 101 102,lI0 104 103,qI 105 (.bin .neq .slice (.t 104) (.c .nils))])
 (.cond (.t 105) (R0 [0,5,11,12] [mI0 106 0,mI0 107 11,mI0 108 5,mI0 109 12,xI0 110 108 109,lI0 111 110,C3 112 118 106 107 111,eI 113 (.buildSl 1 1 [.nils] [(0,1,(.t 112))]),mI0 114 11,eI 115 (.append 1 24 (.t 113) (.t 114)),mI0 11 115]) .skip)))
 (R0 [0,5,11,12] [mI0 99 12,cI0 100 .sub 99 1,mI0 12 100]))))))
 (S0 (R0 [4] [mI0 116 11,mI0 4 116])
 .ret)))))))⟩
theorem cf109:cF prog f109=some if109:=by kernel_rfl
def if162:IFn:=⟨[0,1,2],[(.tmp 6)],(S0 (R0 [0,1,2] [zI0 6])
 (S0 (R0 [0,1,2,7] [mI0 13 0,pI0 14 13,fI0 15 1 14,lI0 16 15,sI0 17 16,eI 18 (.makeSl 1 8 [(.int .i64 0)] (.t 17) (.t 17)),mI0 7 18])
 (S0 (.seq (R0 [0,1,2,7,22,23,24] [mI0 19 0,pI0 20 19,fI0 21 2 20,lI0 22 21,sI0 23 22,kI0 24 0])
 (.block 0 (.loop [0,1,2,7,22,23,24] (S0 (R0 [0,1,2,7,22,23,24,25] [bI0 25 .lss 24 23])
 (S0 (.cond (.t 25) .skip (.exit 0))
 (S0 (.block 1 (S0 (R0 [0,1,2,7,8,9,22,23,24] [mI0 26 24,xI0 27 22 24,lI0 28 27,mI0 8 26,mI0 9 28])
 (S0 (R0 [0,1,2,7,8,22,23,24,29,30,31] [mI0 29 9,sI0 30 29,kI0 31 0])
 (.block 2 (.loop [0,1,2,7,8,22,23,24,29,30,31] (S0 (R0 [0,1,2,7,8,22,23,24,29,30,31,32] [bI0 32 .lss 31 30])
 (S0 (.cond (.t 32) .skip (.exit 2))
 (S0 (.block 3 (S0 (R0 [0,1,2,7,8,10,11,22,23,24,29,30,31] [mI0 33 31,xI0 34 29 31,lI0 35 34,mI0 10 33,mI0 11 35])
 (S0 (R0 [0,1,2,7,8,11,12,22,23,24,29,30,31] [mI0 36 8,cI0 37 .add 36 1,mI0 38 10,bI0 39 .add 37 38,mI0 12 39])
 (.draw [0,1,2,7,8,22,23,24,29,30,31] [] [mD0 40 7 0,mD0 41 11 1,mD0 42 1 2,mD0 43 12 3,xD0 44 42 43 4,lD0 45 44 5,mD0 46 2 6,mD0 47 8 7,xD0 48 46 47 8,lD0 49 48 9,qD 50 (.bin .mul .other (.t 45) (.t 49)) 10,mD0 51 1 11,mD0 52 8 12,xD0 53 51 52 13,lD0 54 53 14,mD0 55 2 15,mD0 56 12 16,xD0 57 55 56 17,lD0 58 57 18,qD 59 (.bin .mul .other (.t 54) (.t 58)) 19,qD 60 (.bin .sub .other (.t 50) (.t 59)) 20,eD 61 (.call 249 [(.t 40),(.t 41),(.t 60)]) 21 []]))))
 (R0 [0,1,2,7,8,22,23,24,29,30,31] [cI0 62 .add 31 1,mI0 31 62])))))))))
 (R0 [0,1,2,7,22,23,24] [cI0 63 .add 24 1,mI0 24 63])))))))
 (S0 (R0 [6] [mI0 64 0,mI0 65 7,C2 66 250 64 65,mI0 6 66])
 .ret))))⟩
theorem cf162:cF prog f162=some if162:=by kernel_rfl
def if176:IFn:=⟨[0,1,2],[(.tmp 6)],(S0 (R0 [1,2,3] [eI 3 (.box (.t 0)),zI0 6])
 (S0 (R0 [1,2,3,7] [LI0 10 3,C1 11 177 10,mI0 7 11])
 (S0 (.seq (R0 [1,2,3,7,8] [kI0 8 0])
 (.block 0 (.loop [1,2,3,7,8] (S0 (.seq (R0 [1,2,3,7,8,15] [mI0 12 8,mI0 13 1,sI0 14 13,bI0 15 .lss 12 14])
 (.cond (.t 15) .skip (.exit 0)))
 (S0 (.block 1 (S0 (R0 [1,2,3,7,8,9] [mI0 18 8,cI0 19 .add 18 1,mI0 9 19])
 (.block 2 (.loop [1,2,3,7,8,9] (S0 (.seq (R0 [1,2,3,7,8,9,23] [mI0 20 9,mI0 21 1,sI0 22 21,bI0 23 .lss 20 22])
 (.cond (.t 23) .skip (.exit 2)))
 (S0 (.block 3 (.draw [1,2,3,7,8,9] [] [qD 26 (.load true 3 (.t 3)) 0,mD0 27 7 1,mD0 28 1 2,mD0 29 8 3,xD0 30 28 29 4,lD0 31 30 5,mD0 32 2 6,mD0 33 9 7,xD0 34 32 33 8,lD0 35 34 9,qD 36 (.bin .mul .other (.t 31) (.t 35)) 10,mD0 37 1 11,mD0 38 9 12,xD0 39 37 38 13,lD0 40 39 14,mD0 41 2 15,mD0 42 8 16,xD0 43 41 42 17,lD0 44 43 18,qD 45 (.bin .mul .other (.t 40) (.t 44)) 19,qD 46 (.bin .sub .other (.t 36) (.t 45)) 20,fD0 47 2 3 21,lD0 48 47 22,mD0 49 8 23,xD0 50 48 49 24,lD0 51 50 25,mD0 52 9 26,mD0 53 8 27,qD 54 (.bin .sub .other (.t 52) (.t 53)) 28,qD 55 (.bin .sub .other (.t 54) (I0 1)) 29,xD0 56 51 55 30,lD0 57 56 31,eD 58 (.call 178 [(.t 26),(I0 1),(.t 27),(.t 46),(.t 57)]) 32 [],mD0 7 58 33]))
 (R0 [1,2,3,7,8,9] [mI0 24 9,cI0 25 .add 24 1,mI0 9 25])))))))
 (R0 [1,2,3,7,8] [mI0 16 8,cI0 17 .add 16 1,mI0 8 17]))))))
 (S0 (R0 [6] [mI0 59 7,mI0 6 59])
 .ret))))⟩
theorem cf176:cF prog f176=some if176:=by kernel_rfl
def if178:IFn:=⟨[0,1,2,3,4],[(.tmp 10)],(S0 (R0 [1,2,3,4,5] [eI 5 (.box (.t 0)),zI0 10])
 (S0 (R0 [1,2,3,4,5,11] [mI0 13 2,sI0 14 13,eI 15 (.makeSl 1 8 [(.int .i64 0)] (.t 14) (.t 14)),mI0 11 15])
 (S0 (.seq (R0 [1,2,3,4,5,11,12] [kI0 12 0])
 (.block 0 (.loop [1,2,3,4,5,11,12] (S0 (.seq (R0 [1,2,3,4,5,11,12,19] [mI0 16 12,mI0 17 2,sI0 18 17,bI0 19 .lss 16 18])
 (.cond (.t 19) .skip (.exit 0)))
 (S0 (.block 1 (.draw [1,2,3,4,5,11,12] [] [mD0 22 11 0,mD0 23 12 1,mD0 24 1 2,mD0 25 2 3,mD0 26 12 4,xD0 27 25 26 5,lD0 28 27 6,qD 29 (.bin .mul .other (.t 24) (.t 28)) 7,mD0 30 3 8,mD0 31 4 9,mD0 32 12 10,xD0 33 31 32 11,lD0 34 33 12,qD 35 (.bin .mul .other (.t 30) (.t 34)) 13,qD 36 (.bin .add .other (.t 29) (.t 35)) 14,xD0 37 22 23 15,wD0 1 37 36 16]))
 (R0 [1,2,3,4,5,11,12] [mI0 20 12,cI0 21 .add 20 1,mI0 12 21]))))))
 (S0 (R0 [10] [LI0 38 5,mI0 39 11,C2 40 270 38 39,mI0 10 40])
 .ret))))⟩
theorem cf178:cF prog f178=some if178:=by kernel_rfl
def if185:IFn:=⟨[0,1],[(.tmp 4)],(S0 (R0 [1,2] [eI 2 (.box (.t 0)),zI0 4])
 (S0 (R0 [1,2,5] [mI0 11 1,sI0 12 11,eI 13 (.makeSl 1 24 [.nils] (.t 12) (.t 12)),mI0 5 13])
 (S0 (.seq (R0 [1,2,5,6] [mI0 14 1,sI0 15 14,cI0 16 .sub 15 1,mI0 6 16])
 (.block 0 (.loop [1,2,5,6] (S0 (.seq (R0 [1,2,5,6,18] [mI0 17 6,cI0 18 .geq 17 0])
 (.cond (.t 18) .skip (.exit 0)))
 (S0 (.block 1 (S0 (.seq (R0 [1,2,5,6,26] [mI0 21 1,mI0 22 6,xI0 23 21 22,lI0 24 23,sI0 25 24,cI0 26 .eql 25 0])
 (.cond (.t 26) (.exit 1) .skip))
 (S0 (R0 [1,2,5,6,7] [mI0 27 1,mI0 28 6,xI0 29 27 28,lI0 30 29,mI0 7 30])
 (S0 (.seq (R0 [1,2,5,6,7,8] [mI0 31 6,cI0 32 .add 31 1,mI0 8 32])
 (.block 2 (.loop [1,2,5,6,7,8] (S0 (.seq (R0 [1,2,5,6,7,8,36] [mI0 33 8,mI0 34 1,sI0 35 34,bI0 36 .lss 33 35])
 (.cond (.t 36) .skip (.exit 2)))
 (S0 (.block 3 (S0 (R0 [1,2,5,6,7,8,51] [mI0 39 5,mI0 40 8,xI0 41 39 40,lI0 42 41,sI0 43 42,cI0 44 .gtr 43 0,mI0 45 44,gm0 46 7 45 true,gm0 47 8 45 true,G0 48 (.indexAddr 1 (.t 46) (.t 47)) true 45 true,G0 49 (.load false 1 (.t 48)) true 45 true,G0 50 (.bin .neq .other (.t 49) (I0 0)) true 45 true,aI0 51 45 50])
 (.cond (.t 51) (.draw [1,2,5,6,7,8] [] [qD 52 (.load true 3 (.t 2)) 0,mD0 53 7 1,qD 54 (.load true 3 (.t 2)) 2,mD0 55 5 3,mD0 56 8 4,xD0 57 55 56 5,lD0 58 57 6,mD0 59 7 7,mD0 60 8 8,xD0 61 59 60 9,lD0 62 61 10,qD 63 (.un .neg (.t 62)) 11,eD 64 (.call 182 [(.t 54),(.t 58),(.t 63)]) 12 [0],eD 65 (.call 130 [(.t 52),(.t 53),(.t 64)]) 13 [],mD0 7 65 14]) .skip)))
 (R0 [1,2,5,6,7,8] [mI0 37 8,cI0 38 .add 37 1,mI0 8 38]))))))
 (R0 [1,2,5,6] [mI0 66 5,mI0 67 6,mI0 68 7,xI0 69 66 67,vI0 1 69 68])))))
 (R0 [1,2,5,6] [mI0 19 6,cI0 20 .sub 19 1,mI0 6 20]))))))
 (S0 (R0 [5,9] [eI 70 (.buildSl 1 0 [.nils] []),mI0 9 70])
 (S0 (.seq (R0 [5,9,10] [kI0 10 0])
 (.block 4 (.loop [5,9,10] (S0 (.seq (R0 [5,9,10,74] [mI0 71 10,mI0 72 5,sI0 73 72,bI0 74 .lss 71 73])
 (.cond (.t 74) .skip (.exit 4)))
 (S0 (.block 5 (S0 (R0 [5,9,10,82] [mI0 77 5,mI0 78 10,xI0 79 77 78,lI0 80 79,sI0 81 80,cI0 82 .gtr 81 0])
 (.cond (.t 82) (R0 [5,9,10] [mI0 83 9,mI0 84 5,mI0 85 10,xI0 86 84 85,lI0 87 86,eI 88 (.buildSl 1 1 [.nils] [(0,1,(.t 87))]),eI 89 (.append 1 24 (.t 83) (.t 88)),mI0 9 89]) .skip)))
 (R0 [5,9,10] [mI0 75 10,cI0 76 .add 75 1,mI0 10 76]))))))
 (S0 (R0 [4] [mI0 90 9,mI0 4 90])
 .ret))))))⟩
theorem cf185:cF prog f185=some if185:=by kernel_rfl
def if194:IFn:=⟨[0,1],[(.tmp 4)],(S0 (R0 [0,1] [tI0 4 false])
 (S0 (R0 [0,1,5] [tI0 5 false])
 (S0 (R0 [0,5,6] [mI0 13 1,C1 14 201 13,mI0 6 14])
 (S0 (.block 0 (.loop [0,5,6] (S0 (.seq (R0 [0,5,6,17] [mI0 15 6,sI0 16 15,cI0 17 .gtr 16 0])
 (.cond (.t 17) .skip (.exit 0)))
 (.block 1 (S0 (R0 [0,5,6,7] [mI0 18 0,mI0 19 6,yI0 20 19 0,lI0 21 20,C2 22 279 18 21,mI0 7 22])
 (S0 (R0 [0,5,6,7] [mI0 23 6,qI 24 (.slice 1 (.t 23) (some (I0 1)) none none),mI0 6 24])
 (S0 (R0 [0,5,6,7,8] [mI0 25 7,C1 26 202 25,mI0 8 26])
 (S0 (.seq (R0 [0,5,6,7,8,30] [mI0 27 8,mI0 28 7,sI0 29 28,bI0 30 .eql 27 29])
 (.cond (.t 30) (.exit 1) .skip))
 (S0 (R0 [0,5,6,7,8] [tI0 5 true])
 (S0 (.draw [0,5,6,7,8,9] [] [mD0 32 7 0,mD0 33 8 1,xD0 34 32 33 2,lD0 35 34 3,mD0 36 0 4,pD0 37 36 5,fD0 38 0 37 6,lD0 39 38 7,pD0 40 39 8,fD0 41 0 40 9,lD0 42 41 10,mD0 43 8 11,xD0 44 42 43 12,lD0 45 44 13,eD 46 (.call 203 [(.t 35),(.t 45)]) 14 [],mD0 31 46 15,qD 47 (.extract (.t 31) 0) 16,qD 48 (.extract (.t 31) 1) 17,mD0 9 47 18,mD0 10 48 19])
 (S0 (R0 [0,5,6,7,8,9] [mI0 49 6,mI0 50 7,eI 51 (.buildSl 1 1 [.nils] [(0,1,(.t 50))]),eI 52 (.append 1 24 (.t 49) (.t 51)),mI0 6 52])
 (S0 (R0 [0,5,6,7,8] [mI0 53 0,pI0 54 53,fI0 55 0 54,lI0 56 55,mI0 57 7,mI0 58 9,C3 59 158 56 57 58,mI0 7 59])
 (S0 (.draw [0,5,6,7,8] [] [mD0 60 6 0,mD0 61 0 1,pD0 62 61 2,fD0 63 0 62 3,lD0 64 63 4,mD0 65 7 5,mD0 66 0 6,pD0 67 66 7,fD0 68 0 67 8,lD0 69 68 9,pD0 70 69 10,fD0 71 0 70 11,lD0 72 71 12,mD0 73 8 13,xD0 74 72 73 14,lD0 75 74 15,eD 76 (.call 158 [(.t 64),(.t 65),(.t 75)]) 16 [],eD 77 (.buildSl 1 1 [.nils] [(0,1,(.t 76))]) 17 [],eD 78 (.append 1 24 (.t 60) (.t 77)) 18 [],mD0 6 78 19])
 (S0 (.seq (R0 [0,5,6,7,8,82,83,84] [mI0 79 0,pI0 80 79,fI0 81 1 80,lI0 82 81,sI0 83 82,kI0 84 0])
 (.block 2 (.loop [0,5,6,7,8,82,83,84] (S0 (R0 [0,5,6,7,8,82,83,84,85] [bI0 85 .lss 84 83])
 (S0 (.cond (.t 85) .skip (.exit 2))
 (S0 (.block 3 (S0 (R0 [0,5,6,7,8,12,82,83,84] [xI0 86 82 84,lI0 87 86,mI0 12 87])
 (S0 (R0 [0,5,6,7,8,12,82,83,84,89] [mI0 88 12,qI 89 (.bin .neq .slice (.t 88) (.c .nils))])
 (.cond (.t 89) (R0 [0,5,6,7,8,82,83,84] [mI0 90 6,mI0 91 0,pI0 92 91,fI0 93 0 92,lI0 94 93,mI0 95 12,mI0 96 7,C3 97 235 94 95 96,eI 98 (.buildSl 1 1 [.nils] [(0,1,(.t 97))]),eI 99 (.append 1 24 (.t 90) (.t 98)),mI0 6 99]) .skip))))
 (R0 [0,5,6,7,8,82,83,84] [cI0 100 .add 84 1,mI0 84 100])))))))
 (R0 [0,5,6] [mI0 101 0,pI0 102 101,fI0 103 1 102,lI0 104 103,mI0 105 8,mI0 106 7,xI0 107 104 105,vI0 1 107 106])))))))))))))))
 (S0 (R0 [4] [mI0 108 5,mI0 4 108])
 .ret)))))⟩
theorem cf194:cF prog f194=some if194:=by kernel_rfl
def if197:IFn:=⟨[0,1,2],[(.tmp 6)],(S0 (R0 [1,2,3] [eI 3 (.box (.t 0)),zI0 6])
 (S0 (R0 [1,3,7] [mI0 9 2,C1 10 271 9,mI0 7 10])
 (S0 (.seq (R0 [1,3,7,8] [kI0 8 0])
 (.block 0 (.loop [1,3,7,8] (S0 (.seq (R0 [1,3,7,8,14] [mI0 11 8,mI0 12 1,sI0 13 12,bI0 14 .lss 11 13])
 (.cond (.t 14) .skip (.exit 0)))
 (S0 (.block 1 (.draw [1,3,7,8] [] [qD 17 (.load true 3 (.t 3)) 0,mD0 18 7 1,mD0 19 7 2,mD0 20 1 3,mD0 21 8 4,xD0 22 20 21 5,lD0 23 22 6,mD0 28 1 11,mD0 29 8 12,xD0 30 28 29 13,lD0 31 30 14,eD 24 (.call 199 [(.t 23)]) 7 [0,14],xD0 25 19 24 8,lD0 26 25 9,qD 27 (.un .neg (.t 26)) 10,eD 32 (.call 178 [(.t 17),(I0 1),(.t 18),(.t 27),(.t 31)]) 15 [],mD0 7 32 16]))
 (R0 [1,3,7,8] [mI0 15 8,cI0 16 .add 15 1,mI0 8 16]))))))
 (S0 (R0 [6] [mI0 33 7,mI0 6 33])
 .ret))))⟩
theorem cf197:cF prog f197=some if197:=by kernel_rfl
def if213:IFn:=⟨[0,1],[(.cell 4 true 4)],(S0 (R0 [0,1,4] [eI 4 (.alloc [(.int .i64 0),(.int .i64 0),(.int .i64 0),(.int .i64 0)])])
 (S0 (R0 [0,1,4,5] [mI0 13 0,pI0 14 13,fI0 15 0 14,lI0 16 15,sI0 17 16,mI0 5 17])
 (S0 (R0 [0,1,4,5,6] [mI0 18 1,mI0 6 18])
 (S0 (.seq (R0 [0,1,4,5,6,7] [mI0 19 1,cI0 20 .add 19 1,mI0 7 20])
 (.block 0 (.loop [0,1,4,5,6,7] (S0 (.seq (R0 [0,1,4,5,6,7,23] [mI0 21 7,mI0 22 5,bI0 23 .lss 21 22])
 (.cond (.t 23) .skip (.exit 0)))
 (S0 (.block 1 (S0 (.draw [0,1,4,5,6,7,59] [] [mD0 26 0 0,mD0 27 0 1,pD0 28 27 2,fD0 29 2 28 3,lD0 30 29 4,mD0 31 1 5,xD0 32 30 31 6,lD0 33 32 7,mD0 34 7 8,mD0 35 1 9,qD 36 (.bin .sub .other (.t 34) (.t 35)) 10,qD 37 (.bin .sub .other (.t 36) (I0 1)) 11,xD0 38 33 37 12,lD0 39 38 13,mD0 40 0 14,pD0 41 40 15,fD0 42 0 41 16,lD0 43 42 17,mD0 44 7 18,xD0 45 43 44 19,lD0 46 45 20,mD0 48 0 22,mD0 49 1 23,mD0 50 0 24,pD0 51 50 25,fD0 52 1 51 26,lD0 53 52 27,mD0 54 7 28,xD0 55 53 54 29,lD0 56 55 30,eD 47 (.call 158 [(.t 26),(.t 39),(.t 46)]) 21 [27,30],eD 57 (.call 285 [(.t 48),(.t 49),(.t 56)]) 31 [],eD 58 (.call 277 [(.t 47),(.t 57)]) 32 [],qD 59 (.un .not (.t 58)) 33])
 (.cond (.t 59) (S0 (R0 [4] [mI0 60 6,mI0 61 7,qI 62 (.build [(.int .i64 0),(.int .i64 0),(.int .i64 0),(.int .i64 0)] [(0,1,(I0 1)),(1,1,(.t 60)),(2,1,(.t 61)),(3,1,(I0 0))]),vI0 4 4 62])
 .ret) .skip)))
 (R0 [0,1,4,5,6,7] [mI0 24 7,cI0 25 .add 24 1,mI0 7 25]))))))
 (S0 (.seq (R0 [0,1,4,5,6,8] [mI0 63 1,cI0 64 .add 63 1,mI0 8 64])
 (.block 2 (.loop [0,1,4,5,6,8] (S0 (.seq (R0 [0,1,4,5,6,8,67] [mI0 65 8,mI0 66 5,bI0 67 .lss 65 66])
 (.cond (.t 67) .skip (.exit 2)))
 (S0 (.block 3 (S0 (R0 [0,1,4,5,6,8,9] [mI0 70 8,cI0 71 .add 70 1,mI0 9 71])
 (.block 4 (.loop [0,1,4,5,6,8,9] (S0 (.seq (R0 [0,1,4,5,6,8,9,74] [mI0 72 9,mI0 73 5,bI0 74 .lss 72 73])
 (.cond (.t 74) .skip (.exit 4)))
 (S0 (.block 5 (S0 (.draw [0,1,4,5,6,8,9,122] [] [mD0 77 0 0,mD0 78 0 1,pD0 79 78 2,fD0 80 2 79 3,lD0 81 80 4,mD0 82 1 5,xD0 83 81 82 6,lD0 84 83 7,mD0 85 9 8,mD0 86 1 9,qD 87 (.bin .sub .other (.t 85) (.t 86)) 10,qD 88 (.bin .sub .other (.t 87) (I0 1)) 11,xD0 89 84 88 12,lD0 90 89 13,mD0 91 0 14,pD0 92 91 15,fD0 93 2 92 16,lD0 94 93 17,mD0 95 1 18,xD0 96 94 95 19,lD0 97 96 20,mD0 98 8 21,mD0 99 1 22,qD 100 (.bin .sub .other (.t 98) (.t 99)) 23,qD 101 (.bin .sub .other (.t 100) (I0 1)) 24,xD0 102 97 101 25,lD0 103 102 26,mD0 105 0 28,mD0 106 1 29,mD0 107 0 30,pD0 108 107 31,fD0 109 2 108 32,lD0 110 109 33,mD0 111 8 34,xD0 112 110 111 35,lD0 113 112 36,mD0 114 9 37,mD0 115 8 38,qD 116 (.bin .sub .other (.t 114) (.t 115)) 39,qD 117 (.bin .sub .other (.t 116) (I0 1)) 40,xD0 118 113 117 41,lD0 119 118 42,eD 104 (.call 228 [(.t 77),(.t 90),(.t 103)]) 27 [33,36,42],eD 120 (.call 285 [(.t 105),(.t 106),(.t 119)]) 43 [],eD 121 (.call 277 [(.t 104),(.t 120)]) 44 [],qD 122 (.un .not (.t 121)) 45])
 (.cond (.t 122) (S0 (R0 [4] [mI0 123 6,mI0 124 8,mI0 125 9,qI 126 (.build [(.int .i64 0),(.int .i64 0),(.int .i64 0),(.int .i64 0)] [(0,1,(I0 2)),(1,1,(.t 123)),(2,1,(.t 124)),(3,1,(.t 125))]),vI0 4 4 126])
 .ret) .skip)))
 (R0 [0,1,4,5,6,8,9] [mI0 75 9,cI0 76 .add 75 1,mI0 9 76])))))))
 (R0 [0,1,4,5,6,8] [mI0 68 8,cI0 69 .add 68 1,mI0 8 69]))))))
 (S0 (R0 [0,1,4,5,6,10] [mI0 127 0,pI0 128 127,fI0 129 1 128,lI0 130 129,mI0 131 1,xI0 132 130 131,lI0 133 132,mI0 10 133])
 (S0 (.seq (R0 [0,1,4,5,6,10,140] [mI0 134 0,mI0 135 1,mI0 136 10,C3 137 285 134 135 136,mI0 138 10,C2 139 277 137 138,nI0 140 139])
 (.cond (.t 140) (S0 (R0 [4] [mI0 141 6,qI 142 (.build [(.int .i64 0),(.int .i64 0),(.int .i64 0),(.int .i64 0)] [(0,1,(I0 3)),(1,1,(.t 141)),(2,1,(I0 0)),(3,1,(I0 0))]),vI0 4 4 142])
 .ret) .skip))
 (S0 (.seq (R0 [0,1,4,5,6,10,11] [mI0 143 1,cI0 144 .add 143 1,mI0 11 144])
 (.block 6 (.loop [0,1,4,5,6,10,11] (S0 (.seq (R0 [0,1,4,5,6,10,11,147] [mI0 145 11,mI0 146 5,bI0 147 .lss 145 146])
 (.cond (.t 147) .skip (.exit 6)))
 (S0 (.block 7 (S0 (R0 [0,1,4,5,6,10,11,12] [mI0 150 5,mI0 151 11,C2 152 159 150 151,mI0 12 152])
 (S0 (.seq (R0 [0,1,4,5,6,10,11,12,159,160] [mI0 153 0,pI0 154 153,fI0 155 0 154,lI0 156 155,mI0 157 1,xI0 158 156 157,lI0 159 158,kI0 160 0])
 (.block 8 (.loop [0,1,4,5,6,10,11,12,159,160] (S0 (R0 [0,1,4,5,6,10,11,12,159,160,161] [bI0 161 .lss 160 159])
 (S0 (.cond (.t 161) .skip (.exit 8))
 (S0 (.block 9 (R0 [0,1,4,5,6,10,11,12,159,160] [mI0 162 0,mI0 163 1,mI0 164 12,C3 165 285 162 163 164,mI0 12 165]))
 (R0 [0,1,4,5,6,10,11,12,159,160] [cI0 166 .add 160 1,mI0 160 166])))))))
 (S0 (R0 [0,1,4,5,6,10,11,175] [mI0 167 12,mI0 168 0,mI0 169 5,mI0 170 11,C2 171 159 169 170,mI0 172 10,C3 173 228 168 171 172,C2 174 277 167 173,nI0 175 174])
 (.cond (.t 175) (S0 (R0 [4] [mI0 176 6,mI0 177 11,qI 178 (.build [(.int .i64 0),(.int .i64 0),(.int .i64 0),(.int .i64 0)] [(0,1,(I0 4)),(1,1,(.t 176)),(2,1,(.t 177)),(3,1,(I0 0))]),vI0 4 4 178])
 .ret) .skip)))))
 (R0 [0,1,4,5,6,10,11] [mI0 148 11,cI0 149 .add 148 1,mI0 11 149]))))))
 (S0 (R0 [4] [qI 179 (.build [(.int .i64 0),(.int .i64 0),(.int .i64 0),(.int .i64 0)] []),vI0 4 4 179])
 .ret)))))))))⟩
theorem cf213:cF prog f213=some if213:=by kernel_rfl
def if218:IFn:=⟨[0,1,2],[(.tmp 6)],(S0 (R0 [0,1,2] [tI0 6 false])
 (S0 (.seq (R0 [0,1,2,12] [mI0 8 1,sI0 9 8,mI0 10 0,sI0 11 10,bI0 12 .neq 9 11])
 (.cond (.t 12) (S0 (R0 [6] [tI0 6 false])
 .ret) .skip))
 (S0 (.seq (R0 [0,1,2,7] [kI0 7 0])
 (.block 0 (.loop [0,1,2,7] (S0 (.seq (R0 [0,1,2,7,16] [mI0 13 7,mI0 14 1,sI0 15 14,bI0 16 .lss 13 15])
 (.cond (.t 16) .skip (.exit 0)))
 (S0 (.block 1 (S0 (.draw [0,1,2,7,41] [] [mD0 19 1 0,mD0 20 7 1,xD0 21 19 20 2,lD0 22 21 3,mD0 23 0 4,mD0 24 7 5,xD0 25 23 24 6,lD0 26 25 7,qD 27 (.bin .sub .other (.t 26) (I0 1)) 8,eD 28 (.call 290 [(.t 22),(I0 0),(.t 27)]) 9 [],qD 29 (.un .not (.t 28)) 10,mD0 30 29 11,⟨gm0 31 7 30 false,12,[]⟩,⟨gm0 32 2 30 false,13,[]⟩,⟨G0 33 (.bin .leq .other (.t 31) (.t 32)) true 30 false,14,[]⟩,⟨gm0 34 33 30 false,15,[]⟩,⟨gm0 35 1 34 true,16,[]⟩,⟨gm0 36 7 34 true,17,[]⟩,⟨G0 37 (.indexAddr 1 (.t 35) (.t 36)) true 34 true,18,[]⟩,⟨G0 38 (.load false 1 (.t 37)) true 34 true,19,[]⟩,⟨G0 39 (.bin .neq .other (.t 38) (I0 0)) true 34 true,20,[]⟩,⟨G0 40 (.pick (.t 34) (.t 39) (.c (.bool false))) true 30 false,21,[]⟩,qD 41 (.pick (.t 30) (.c (.bool true)) (.t 40)) 22])
 (.cond (.t 41) (S0 (R0 [6] [tI0 6 false])
 .ret) .skip)))
 (R0 [0,1,2,7] [mI0 17 7,cI0 18 .add 17 1,mI0 7 18]))))))
 (S0 (R0 [6] [tI0 6 true])
 .ret))))⟩
theorem cf218:cF prog f218=some if218:=by kernel_rfl
def if219:IFn:=⟨[0,1,2,3],[(.tmp 8)],(S0 (R0 [1,2,3,4] [eI 4 (.box (.t 0)),zI0 8])
 (S0 (R0 [1,2,3,4,9] [fI0 16 0 4,lI0 17 16,sI0 18 17,mI0 9 18])
 (S0 (.seq (R0 [1,2,3,4,9,21] [mI0 19 1,mI0 20 9,bI0 21 .geq 19 20])
 (.cond (.t 21) (S0 (R0 [8] [mI0 22 9,eI 23 (.makeSl 1 8 [(.int .i64 0)] (.t 22) (.t 22)),mI0 8 23])
 .ret) .skip))
 (S0 (R0 [1,2,3,4,10,11] [mI0 24 2,C1 25 271 24,mI0 26 3,C1 27 271 26,mI0 10 25,mI0 11 27])
 (S0 (R0 [1,2,3,4,10,11] [mI0 28 10,mI0 29 1,xI0 30 28 29,nI (.store 1 (.t 30) (I0 0))])
 (S0 (R0 [1,2,3,4,10,11] [mI0 31 11,mI0 32 1,xI0 33 31 32,nI (.store 1 (.t 33) (I0 0))])
 (S0 (.seq (R0 [1,2,3,4,10,11,12] [kI0 12 0])
 (.block 0 (.loop [1,2,3,4,10,11,12] (S0 (.seq (R0 [1,2,3,4,10,11,12,39] [mI0 34 12,mI0 35 3,mI0 36 1,xI0 37 35 36,lI0 38 37,bI0 39 .lss 34 38])
 (.cond (.t 39) .skip (.exit 0)))
 (S0 (.block 1 (R0 [1,2,3,4,10,11,12] [LI0 42 4,mI0 43 1,mI0 44 10,C3 45 291 42 43 44,mI0 10 45]))
 (R0 [1,2,3,4,10,11,12] [mI0 40 12,cI0 41 .add 40 1,mI0 12 41]))))))
 (S0 (R0 [1,2,3,4,13] [LI0 46 4,mI0 47 1,cI0 48 .add 47 1,mI0 49 10,mI0 50 11,eI 51 (.call 219 [(.t 46),(.t 48),(.t 49),(.t 50)]),mI0 13 51])
 (S0 (.draw [1,4,13,14] [] [mD0 52 2 0,mD0 53 1 1,xD0 54 52 53 2,lD0 55 54 3,mD0 56 3 4,mD0 57 1 5,xD0 58 56 57 6,lD0 59 58 7,qD 60 (.bin .add .other (.t 55) (.t 59)) 8,mD0 14 60 9])
 (S0 (.seq (R0 [1,4,13,14,67] [mI0 61 14,fI0 62 0 4,lI0 63 62,mI0 64 1,xI0 65 63 64,lI0 66 65,bI0 67 .geq 61 66])
 (.cond (.t 67) (S0 (R0 [1,4,13,14] [mI0 68 14,fI0 69 0 4,lI0 70 69,mI0 71 1,xI0 72 70 71,lI0 73 72,bI0 74 .sub 68 73,mI0 14 74])
 (.draw [1,13,14] [] [qD 75 (.load true 3 (.t 4)) 0,mD0 76 1 1,qD 77 (.bin .add .other (.t 76) (I0 1)) 2,fD0 78 1 4 3,lD0 79 78 4,mD0 80 1 5,xD0 81 79 80 6,lD0 82 81 7,mD0 83 13 8,eD 84 (.call 219 [(.t 75),(.t 77),(.t 82),(.t 83)]) 9 [],mD0 13 84 10])) .skip))
 (S0 (R0 [1,14,15] [mI0 85 13,C1 86 271 85,mI0 15 86])
 (S0 (R0 [15] [mI0 87 15,mI0 88 1,mI0 89 14,xI0 90 87 88,vI0 1 90 89])
 (S0 (R0 [8] [mI0 91 15,mI0 8 91])
 .ret)))))))))))))⟩
theorem cf219:cF prog f219=some if219:=by kernel_rfl
def if222:IFn:=⟨[0],[(.tmp 2)],(S0 (R0 [1] [eI 1 (.box (.t 0)),tI0 2 false])
 (S0 (R0 [1,3] [fI0 7 1 1,lI0 8 7,sI0 9 8,mI0 3 9])
 (S0 (.seq (R0 [1,3,31] [fI0 10 0 1,lI0 11 10,C1 12 287 11,nI0 13 12,mI0 14 13,gm0 15 3 14 false,G0 16 (.bin .gtr .other (.t 15) (I0 6)) true 14 false,oI0 17 14 16,mI0 18 17,G0 19 (.fieldAddr 2 (.t 1)) true 18 false,G0 20 (.load false 1 (.t 19)) true 18 false,G0 21 (.len (.t 20)) true 18 false,gm0 22 3 18 false,G0 23 (.bin .neq .other (.t 21) (.t 22)) true 18 false,oI0 24 18 23,mI0 25 24,G0 26 (.fieldAddr 0 (.t 1)) true 25 false,G0 27 (.load false 1 (.t 26)) true 25 false,gm0 28 3 25 false,G0 29 (.call 115 [(.t 27),(.t 28)]) false 25 false,G0 30 (.bin .gtr .other (.t 29) (I0 729)) true 25 false,oI0 31 25 30])
 (.cond (.t 31) (S0 (R0 [2] [tI0 2 false])
 .ret) .skip))
 (S0 (.seq (R0 [1,3,4] [kI0 4 0])
 (.block 0 (.loop [1,3,4] (S0 (.seq (R0 [1,3,4,34] [mI0 32 4,mI0 33 3,bI0 34 .lss 32 33])
 (.cond (.t 34) .skip (.exit 0)))
 (S0 (.block 1 (S0 (.seq (.draw [1,3,4,69] [] [fD0 37 1 1 0,lD0 38 37 1,mD0 39 4 2,xD0 40 38 39 3,lD0 41 40 4,fD0 42 0 1 5,lD0 43 42 6,mD0 44 3 7,eD 45 (.call 294 [(.t 41),(.t 43),(.t 44)]) 8 [],qD 46 (.un .not (.t 45)) 9,mD0 47 46 10,⟨G0 48 (.fieldAddr 1 (.t 1)) true 47 false,11,[]⟩,⟨G0 49 (.load false 1 (.t 48)) true 47 false,12,[]⟩,⟨gm0 50 4 47 false,13,[]⟩,⟨G0 51 (.indexAddr 1 (.t 49) (.t 50)) true 47 false,14,[]⟩,⟨G0 52 (.load false 1 (.t 51)) true 47 false,15,[]⟩,⟨gm0 53 4 47 false,16,[]⟩,⟨G0 54 (.call 295 [(.t 52),(.t 53)]) false 47 false,17,[]⟩,⟨G0 55 (.un .not (.t 54)) true 47 false,18,[]⟩,qD 56 (.pick (.t 47) (.c (.bool true)) (.t 55)) 19,mD0 57 56 20,⟨G0 58 (.fieldAddr 2 (.t 1)) true 57 false,21,[]⟩,⟨G0 59 (.load false 1 (.t 58)) true 57 false,22,[]⟩,⟨gm0 60 4 57 false,23,[]⟩,⟨G0 61 (.indexAddr 1 (.t 59) (.t 60)) true 57 false,24,[]⟩,⟨G0 62 (.load false 1 (.t 61)) true 57 false,25,[]⟩,⟨G0 63 (.len (.t 62)) true 57 false,26,[]⟩,⟨gm0 64 3 57 false,27,[]⟩,⟨G0 65 (.bin .sub .other (.t 64) (I0 1)) true 57 false,28,[]⟩,⟨gm0 66 4 57 false,29,[]⟩,⟨G0 67 (.bin .sub .other (.t 65) (.t 66)) true 57 false,30,[]⟩,⟨G0 68 (.bin .neq .other (.t 63) (.t 67)) true 57 false,31,[]⟩,qD 69 (.pick (.t 57) (.c (.bool true)) (.t 68)) 32])
 (.cond (.t 69) (S0 (R0 [2] [tI0 2 false])
 .ret) .skip))
 (S0 (R0 [1,3,4,5] [mI0 70 4,cI0 71 .add 70 1,mI0 5 71])
 (.block 2 (.loop [1,3,4,5] (S0 (.seq (R0 [1,3,4,5,74] [mI0 72 5,mI0 73 3,bI0 74 .lss 72 73])
 (.cond (.t 74) .skip (.exit 2)))
 (S0 (.block 3 (S0 (R0 [1,3,4,5,6] [fI0 77 2 1,lI0 78 77,mI0 79 4,xI0 80 78 79,lI0 81 80,mI0 82 5,mI0 83 4,bI0 84 .sub 82 83,cI0 85 .sub 84 1,xI0 86 81 85,lI0 87 86,mI0 6 87])
 (S0 (R0 [1,3,4,5,99] [mI0 88 6,fI0 89 0 1,lI0 90 89,mI0 91 3,C3 92 294 88 90 91,nI0 93 92,mI0 94 93,gm0 95 6 94 false,gm0 96 5 94 false,G0 97 (.call 295 [(.t 95),(.t 96)]) false 94 false,G0 98 (.un .not (.t 97)) true 94 false,oI0 99 94 98])
 (.cond (.t 99) (S0 (R0 [2] [tI0 2 false])
 .ret) .skip))))
 (R0 [1,3,4,5] [mI0 75 5,cI0 76 .add 75 1,mI0 5 76]))))))))
 (R0 [1,3,4] [mI0 35 4,cI0 36 .add 35 1,mI0 4 36]))))))
 (S0 (R0 [2] [tI0 2 true])
 .ret)))))⟩
theorem cf222:cF prog f222=some if222:=by kernel_rfl
def if223:IFn:=⟨[0],[(.tmp 2),(.tmp 3),(.tmp 4),(.tmp 5)],(S0 (R0 [1] [eI 1 (.box (.t 0)),kI0 2 0,kI0 3 0,kI0 4 0,kI0 5 0])
 (S0 (R0 [1,6] [fI0 17 1 1,lI0 18 17,sI0 19 18,mI0 6 19])
 (S0 (.seq (R0 [1,6,7] [kI0 7 0])
 (.block 0 (.loop [1,6,7] (S0 (.seq (R0 [1,6,7,22] [mI0 20 7,mI0 21 6,bI0 22 .lss 20 21])
 (.cond (.t 22) .skip (.exit 0)))
 (S0 (.block 1 (S0 (R0 [1,6,7,8] [kI0 8 0])
 (.block 2 (.loop [1,6,7,8] (S0 (.seq (R0 [1,6,7,8,27] [mI0 25 8,mI0 26 6,bI0 27 .lss 25 26])
 (.cond (.t 27) .skip (.exit 2)))
 (S0 (.block 3 (S0 (.draw [1,6,7,8,9] [] [qD 30 (.load true 3 (.t 1)) 0,fD0 31 0 1 1,lD0 32 31 2,qD 33 (.load true 3 (.t 1)) 3,qD 34 (.load true 3 (.t 1)) 4,mD0 35 7 5,qD 37 (.load true 3 (.t 1)) 7,mD0 38 8 8,qD 41 (.load true 3 (.t 1)) 11,eD 36 (.call 179 [(.t 34),(.t 35)]) 6 [0,2,3,7,11],eD 39 (.call 179 [(.t 37),(.t 38)]) 9 [0,2,3,11],eD 40 (.call 176 [(.t 33),(.t 36),(.t 39)]) 10 [0,2,11],eD 42 (.call 177 [(.t 41)]) 12 [0,2],eD 43 (.call 178 [(.t 30),(.t 32),(.t 40),(I0 0),(.t 42)]) 13 [],mD0 9 43 14])
 (S0 (.draw [1,6,7,8,56] [] [mD0 44 9 0,qD 45 (.load true 3 (.t 1)) 1,fD0 46 1 1 2,lD0 47 46 3,mD0 48 7 4,xD0 49 47 48 5,lD0 50 49 6,qD 51 (.load true 3 (.t 1)) 7,mD0 52 8 8,eD 53 (.call 179 [(.t 51),(.t 52)]) 9 [1,3,6],eD 54 (.call 176 [(.t 45),(.t 50),(.t 53)]) 10 [],eD 55 (.call 263 [(.t 44),(.t 54)]) 11 [],qD 56 (.un .not (.t 55)) 12])
 (.cond (.t 56) (S0 (R0 [2,3,4,5] [mI0 57 7,mI0 58 8,kI0 2 1,mI0 3 57,mI0 4 58,kI0 5 0])
 .ret) .skip))))
 (R0 [1,6,7,8] [mI0 28 8,cI0 29 .add 28 1,mI0 8 29])))))))
 (R0 [1,6,7] [mI0 23 7,cI0 24 .add 23 1,mI0 7 24]))))))
 (S0 (.seq (R0 [1,6,10] [kI0 10 0])
 (.block 4 (.loop [1,6,10] (S0 (.seq (R0 [1,6,10,61] [mI0 59 10,mI0 60 6,bI0 61 .lss 59 60])
 (.cond (.t 61) .skip (.exit 4)))
 (S0 (.block 5 (S0 (R0 [1,6,10,11] [mI0 64 10,cI0 65 .add 64 1,mI0 11 65])
 (.block 6 (.loop [1,6,10,11] (S0 (.seq (R0 [1,6,10,11,68] [mI0 66 11,mI0 67 6,bI0 68 .lss 66 67])
 (.cond (.t 68) .skip (.exit 6)))
 (S0 (.block 7 (S0 (R0 [1,6,10,11,12] [mI0 71 11,cI0 72 .add 71 1,mI0 12 72])
 (.block 8 (.loop [1,6,10,11,12] (S0 (.seq (R0 [1,6,10,11,12,75] [mI0 73 12,mI0 74 6,bI0 75 .lss 73 74])
 (.cond (.t 75) .skip (.exit 8)))
 (S0 (.block 9 (S0 (.draw [1,6,10,11,12,13,14,15] [] [qD 78 (.load true 3 (.t 1)) 0,mD0 79 10 1,qD 81 (.load true 3 (.t 1)) 3,mD0 82 11 4,qD 84 (.load true 3 (.t 1)) 6,mD0 85 12 7,eD 80 (.call 179 [(.t 78),(.t 79)]) 2 [3,6],eD 83 (.call 179 [(.t 81),(.t 82)]) 5 [6],eD 86 (.call 179 [(.t 84),(.t 85)]) 8 [],mD0 13 80 9,mD0 14 83 10,mD0 15 86 11])
 (S0 (.draw [1,6,10,11,12,13,14,15,16] [] [qD 87 (.load true 3 (.t 1)) 0,qD 88 (.load true 3 (.t 1)) 1,qD 89 (.load true 3 (.t 1)) 2,mD0 90 13 3,mD0 91 14 4,mD0 93 15 6,qD 95 (.load true 3 (.t 1)) 8,qD 96 (.load true 3 (.t 1)) 9,mD0 97 14 10,mD0 98 15 11,mD0 100 13 13,eD 92 (.call 176 [(.t 89),(.t 90),(.t 91)]) 5 [0,1,8,9],eD 94 (.call 176 [(.t 88),(.t 92),(.t 93)]) 7 [0,8,9],eD 99 (.call 176 [(.t 96),(.t 97),(.t 98)]) 12 [0,8],eD 101 (.call 176 [(.t 95),(.t 99),(.t 100)]) 14 [0],eD 102 (.call 178 [(.t 87),(I0 1),(.t 94),(I0 1),(.t 101)]) 15 [],mD0 16 102 16])
 (S0 (.draw [1,6,10,11,12,114] [] [qD 103 (.load true 3 (.t 1)) 0,mD0 104 16 1,qD 105 (.load true 3 (.t 1)) 2,qD 106 (.load true 3 (.t 1)) 3,mD0 107 15 4,mD0 108 13 5,mD0 110 14 7,eD 109 (.call 176 [(.t 106),(.t 107),(.t 108)]) 6 [0,2],eD 111 (.call 176 [(.t 105),(.t 109),(.t 110)]) 8 [0],eD 112 (.call 178 [(.t 103),(I0 1),(.t 104),(I0 1),(.t 111)]) 9 [],eD 113 (.call 198 [(.t 112)]) 10 [],qD 114 (.un .not (.t 113)) 11])
 (.cond (.t 114) (S0 (R0 [2,3,4,5] [mI0 115 10,mI0 116 11,mI0 117 12,kI0 2 2,mI0 3 115,mI0 4 116,mI0 5 117])
 .ret) .skip)))))
 (R0 [1,6,10,11,12] [mI0 76 12,cI0 77 .add 76 1,mI0 12 77])))))))
 (R0 [1,6,10,11] [mI0 69 11,cI0 70 .add 69 1,mI0 11 70])))))))
 (R0 [1,6,10] [mI0 62 10,cI0 63 .add 62 1,mI0 10 63]))))))
 (S0 (R0 [2,3,4,5] [kI0 2 0,kI0 3 0,kI0 4 0,kI0 5 0])
 .ret)))))⟩
theorem cf223:cF prog f223=some if223:=by kernel_rfl
def if230:IFn:=⟨[0],[(.tmp 2),(.tmp 3),(.tmp 4),(.tmp 5)],(S0 (R0 [0] [kI0 2 0,kI0 3 0,kI0 4 0,kI0 5 0])
 (S0 (R0 [0,6] [mI0 18 0,pI0 19 18,fI0 20 1 19,lI0 21 20,sI0 22 21,mI0 6 22])
 (S0 (.seq (R0 [0,6,23,24] [mI0 23 6,kI0 24 0])
 (.block 0 (.loop [0,6,23,24] (S0 (R0 [0,6,23,24,25] [bI0 25 .lss 24 23])
 (S0 (.cond (.t 25) .skip (.exit 0))
 (S0 (.block 1 (S0 (R0 [0,6,7,23,24] [mI0 26 24,mI0 7 26])
 (S0 (R0 [0,6,7,23,24,27,28] [mI0 27 6,kI0 28 0])
 (.block 2 (.loop [0,6,7,23,24,27,28] (S0 (R0 [0,6,7,23,24,27,28,29] [bI0 29 .lss 28 27])
 (S0 (.cond (.t 29) .skip (.exit 2))
 (S0 (.block 3 (S0 (R0 [0,6,7,8,23,24,27,28] [mI0 30 28,mI0 8 30])
 (S0 (R0 [0,6,7,8,9,10,23,24,27,28] [mI0 31 6,mI0 32 7,C2 33 159 31 32,mI0 34 6,mI0 35 8,C2 36 159 34 35,mI0 9 33,mI0 10 36])
 (S0 (.draw [0,6,7,8,23,24,27,28,58] [] [mD0 37 0 0,mD0 38 0 1,pD0 39 38 2,fD0 40 0 39 3,lD0 41 40 4,mD0 42 0 5,mD0 43 9 6,mD0 44 10 7,mD0 47 0 10,mD0 48 0 11,pD0 49 48 12,fD0 50 1 49 13,lD0 51 50 14,mD0 52 7 15,xD0 53 51 52 16,lD0 54 53 17,mD0 55 10 18,eD 45 (.call 162 [(.t 42),(.t 43),(.t 44)]) 8 [4,14,17],eD 46 (.call 191 [(.t 37),(.t 41),(.t 45)]) 9 [14,17],eD 56 (.call 162 [(.t 47),(.t 54),(.t 55)]) 19 [],eD 57 (.call 277 [(.t 46),(.t 56)]) 20 [],qD 58 (.un .not (.t 57)) 21])
 (.cond (.t 58) (S0 (R0 [2,3,4,5] [mI0 59 7,mI0 60 8,kI0 2 1,mI0 3 59,mI0 4 60,kI0 5 0])
 .ret) .skip)))))
 (R0 [0,6,7,23,24,27,28] [cI0 61 .add 28 1,mI0 28 61])))))))))
 (R0 [0,6,23,24] [cI0 62 .add 24 1,mI0 24 62])))))))
 (S0 (.seq (R0 [0,6,63,64] [mI0 63 6,kI0 64 0])
 (.block 4 (.loop [0,6,63,64] (S0 (R0 [0,6,63,64,65] [bI0 65 .lss 64 63])
 (S0 (.cond (.t 65) .skip (.exit 4))
 (S0 (.block 5 (S0 (R0 [0,6,11,63,64] [mI0 66 64,mI0 11 66])
 (S0 (R0 [0,6,11,12,63,64] [mI0 67 11,cI0 68 .add 67 1,mI0 12 68])
 (.block 6 (.loop [0,6,11,12,63,64] (S0 (.seq (R0 [0,6,11,12,63,64,71] [mI0 69 12,mI0 70 6,bI0 71 .lss 69 70])
 (.cond (.t 71) .skip (.exit 6)))
 (S0 (.block 7 (S0 (R0 [0,6,11,12,13,63,64] [mI0 74 12,cI0 75 .add 74 1,mI0 13 75])
 (.block 8 (.loop [0,6,11,12,13,63,64] (S0 (.seq (R0 [0,6,11,12,13,63,64,78] [mI0 76 13,mI0 77 6,bI0 78 .lss 76 77])
 (.cond (.t 78) .skip (.exit 8)))
 (S0 (.block 9 (S0 (R0 [0,6,11,12,13,14,15,16,63,64] [mI0 81 6,mI0 82 11,C2 83 159 81 82,mI0 84 6,mI0 85 12,C2 86 159 84 85,mI0 87 6,mI0 88 13,C2 89 159 87 88,mI0 14 83,mI0 15 86,mI0 16 89])
 (S0 (R0 [0,6,11,12,13,14,15,16,17,63,64] [mI0 90 0,mI0 91 0,mI0 92 0,mI0 93 14,mI0 94 15,C3 95 162 92 93 94,mI0 96 16,C3 97 162 91 95 96,mI0 98 0,mI0 99 0,mI0 100 15,mI0 101 16,C3 102 162 99 100 101,mI0 103 14,C3 104 162 98 102 103,C3 105 161 90 97 104,mI0 17 105])
 (S0 (R0 [0,6,11,12,13,63,64,117] [mI0 106 0,mI0 107 17,mI0 108 0,mI0 109 0,mI0 110 16,mI0 111 14,C3 112 162 109 110 111,mI0 113 15,C3 114 162 108 112 113,C3 115 161 106 107 114,C1 116 117 115,nI0 117 116])
 (.cond (.t 117) (S0 (R0 [2,3,4,5] [mI0 118 11,mI0 119 12,mI0 120 13,kI0 2 2,mI0 3 118,mI0 4 119,mI0 5 120])
 .ret) .skip)))))
 (R0 [0,6,11,12,13,63,64] [mI0 79 13,cI0 80 .add 79 1,mI0 13 80])))))))
 (R0 [0,6,11,12,63,64] [mI0 72 12,cI0 73 .add 72 1,mI0 12 73]))))))))
 (R0 [0,6,63,64] [cI0 121 .add 64 1,mI0 64 121])))))))
 (S0 (R0 [2,3,4,5] [kI0 2 0,kI0 3 0,kI0 4 0,kI0 5 0])
 .ret)))))⟩
theorem cf230:cF prog f230=some if230:=by kernel_rfl
def if250:IFn:=⟨[0,1],[(.tmp 4)],(S0 (R0 [0,1] [zI0 4])
 (S0 (R0 [0,5] [mI0 11 1,C1 12 206 11,mI0 5 12])
 (S0 (.seq (R0 [0,5,16,17,18] [mI0 13 0,pI0 14 13,fI0 15 1 14,lI0 16 15,sI0 17 16,kI0 18 0])
 (.block 0 (.loop [0,5,16,17,18] (S0 (R0 [0,5,16,17,18,19] [bI0 19 .lss 18 17])
 (S0 (.cond (.t 19) .skip (.exit 0))
 (S0 (.block 1 (S0 (R0 [0,5,6,7,16,17,18] [mI0 20 18,xI0 21 16 18,lI0 22 21,mI0 6 20,mI0 7 22])
 (S0 (.draw [0,5,6,7,8,16,17,18] [] [mD0 23 5 0,mD0 24 6 1,xD0 25 23 24 2,lD0 26 25 3,mD0 27 0 4,pD0 28 27 5,fD0 29 0 28 6,lD0 30 29 7,eD 31 (.call 303 [(.t 26),(.t 30)]) 8 [],mD0 8 31 9])
 (S0 (.draw [0,5,7,8,16,17,18] [] [mD0 32 5 0,mD0 33 6 1,xD0 34 32 33 2,lD0 35 34 3,mD0 36 8 4,mD0 37 0 5,pD0 38 37 6,fD0 39 0 38 7,lD0 40 39 8,qD 41 (.bin .mul .other (.t 36) (.t 40)) 9,qD 42 (.bin .sub .other (.t 35) (.t 41)) 10,xD0 43 32 33 11,wD0 1 43 42 12])
 (S0 (R0 [0,5,8,16,17,18,44,45,46] [mI0 44 7,sI0 45 44,kI0 46 0])
 (.block 2 (.loop [0,5,8,16,17,18,44,45,46] (S0 (R0 [0,5,8,16,17,18,44,45,46,47] [bI0 47 .lss 46 45])
 (S0 (.cond (.t 47) .skip (.exit 2))
 (S0 (.block 3 (S0 (R0 [0,5,8,9,10,16,17,18,44,45,46] [mI0 48 46,xI0 49 44 46,lI0 50 49,mI0 9 48,mI0 10 50])
 (R0 [0,5,8,16,17,18,44,45,46] [mI0 51 5,mI0 52 9,xI0 53 51 52,lI0 54 53,mI0 55 8,mI0 56 10,bI0 57 .mul 55 56,bI0 58 .add 54 57,xI0 59 51 52,vI0 1 59 58])))
 (R0 [0,5,8,16,17,18,44,45,46] [cI0 60 .add 46 1,mI0 46 60])))))))))))
 (R0 [0,5,16,17,18] [cI0 61 .add 18 1,mI0 18 61])))))))
 (S0 (R0 [4] [mI0 62 5,mI0 4 62])
 .ret))))⟩
theorem cf250:cF prog f250=some if250:=by kernel_rfl
def if270:IFn:=⟨[0,1],[(.tmp 4)],(S0 (R0 [1,2] [eI 2 (.box (.t 0)),zI0 4])
 (S0 (R0 [2,5] [mI0 9 1,C1 10 271 9,mI0 5 10])
 (S0 (.seq (R0 [2,5,6] [kI0 6 0])
 (.block 0 (.loop [2,5,6] (S0 (.seq (R0 [2,5,6,14] [mI0 11 6,mI0 12 5,sI0 13 12,bI0 14 .lss 11 13])
 (.cond (.t 14) .skip (.exit 0)))
 (S0 (.block 1 (S0 (.draw [2,5,6,7] [] [mD0 17 5 0,mD0 18 6 1,xD0 19 17 18 2,lD0 20 19 3,fD0 21 0 2 4,lD0 22 21 5,eD 23 (.call 316 [(.t 20),(.t 22)]) 6 [],mD0 7 23 7])
 (S0 (.draw [2,5,6,7] [] [mD0 24 5 0,mD0 25 6 1,mD0 26 5 2,mD0 27 6 3,xD0 28 26 27 4,lD0 29 28 5,mD0 30 7 6,fD0 31 0 2 7,lD0 32 31 8,qD 33 (.bin .mul .other (.t 30) (.t 32)) 9,qD 34 (.bin .sub .other (.t 29) (.t 33)) 10,xD0 35 24 25 11,wD0 1 35 34 12])
 (S0 (R0 [2,5,6,7,8] [mI0 36 6,cI0 37 .add 36 1,mI0 8 37])
 (.block 2 (.loop [2,5,6,7,8] (S0 (.seq (R0 [2,5,6,7,8,41] [mI0 38 8,mI0 39 5,sI0 40 39,bI0 41 .lss 38 40])
 (.cond (.t 41) .skip (.exit 2)))
 (S0 (.block 3 (.draw [2,5,6,7,8] [] [mD0 44 5 0,mD0 45 8 1,mD0 46 5 2,mD0 47 8 3,xD0 48 46 47 4,lD0 49 48 5,mD0 50 7 6,fD0 51 1 2 7,lD0 52 51 8,mD0 53 6 9,xD0 54 52 53 10,lD0 55 54 11,mD0 56 8 12,xD0 57 55 56 13,lD0 58 57 14,qD 59 (.bin .mul .other (.t 50) (.t 58)) 15,qD 60 (.bin .add .other (.t 49) (.t 59)) 16,xD0 61 44 45 17,wD0 1 61 60 18]))
 (R0 [2,5,6,7,8] [mI0 42 8,cI0 43 .add 42 1,mI0 8 43])))))))))
 (R0 [2,5,6] [mI0 15 6,cI0 16 .add 15 1,mI0 6 16]))))))
 (S0 (R0 [4] [mI0 62 5,mI0 4 62])
 .ret))))⟩
theorem cf270:cF prog f270=some if270:=by kernel_rfl
def if279:IFn:=⟨[0,1],[(.tmp 4)],(S0 (R0 [0,1] [zI0 4])
 (S0 (.seq (R0 [0,1,5] [mI0 6 1,C1 7 202 6,mI0 5 7])
 (.block 0 (.loop [0,1,5] (S0 (.seq (R0 [0,1,5,21] [mI0 8 5,mI0 9 1,sI0 10 9,bI0 11 .lss 8 10,mI0 12 11,gm0 13 0 12 true,G0 14 (.nilCheck (.t 13)) true 12 true,G0 15 (.fieldAddr 1 (.t 14)) true 12 true,G0 16 (.load false 1 (.t 15)) true 12 true,gm0 17 5 12 true,G0 18 (.indexAddr 1 (.t 16) (.t 17)) true 12 true,G0 19 (.load false 1 (.t 18)) true 12 true,G0 20 (.bin .neq .slice (.t 19) (.c .nils)) true 12 true,aI0 21 12 20])
 (.cond (.t 21) .skip (.exit 0)))
 (S0 (.block 1 (S0 (.draw [0,1,5] [] [mD0 24 0 0,pD0 25 24 1,fD0 26 0 25 2,lD0 27 26 3,mD0 28 0 4,pD0 29 28 5,fD0 30 0 29 6,lD0 31 30 7,mD0 32 0 8,pD0 33 32 9,fD0 34 1 33 10,lD0 35 34 11,mD0 36 5 12,xD0 37 35 36 13,lD0 38 37 14,mD0 39 0 15,pD0 40 39 16,fD0 41 0 40 17,lD0 42 41 18,pD0 43 42 19,fD0 44 0 43 20,lD0 45 44 21,mD0 46 5 22,xD0 47 45 46 23,lD0 48 47 24,mD0 49 1 25,mD0 50 5 26,xD0 51 49 50 27,lD0 52 51 28,qD 53 (.bin .sub .other (.t 48) (.t 52)) 29,mD0 55 1 31,eD 54 (.call 158 [(.t 31),(.t 38),(.t 53)]) 30 [3],eD 56 (.call 127 [(.t 27),(.t 54),(.t 55)]) 32 [],mD0 1 56 33])
 (S0 (R0 [0,1,5,61] [mI0 57 1,mI0 58 5,xI0 59 57 58,lI0 60 59,cI0 61 .neq 60 0])
 (.cond (.t 61) (.draw [0,1] [] [mD0 62 0 0,pD0 63 62 1,fD0 64 0 63 2,lD0 65 64 3,mD0 66 0 4,pD0 67 66 5,fD0 68 0 67 6,lD0 69 68 7,mD0 70 0 8,pD0 71 70 9,fD0 72 1 71 10,lD0 73 72 11,mD0 74 5 12,xD0 75 73 74 13,lD0 76 75 14,mD0 77 0 15,pD0 78 77 16,fD0 79 0 78 17,lD0 80 79 18,pD0 81 80 19,fD0 82 0 81 20,lD0 83 82 21,mD0 84 5 22,xD0 85 83 84 23,lD0 86 85 24,mD0 87 1 25,mD0 88 5 26,xD0 89 87 88 27,lD0 90 89 28,qD 91 (.bin .sub .other (.t 86) (.t 90)) 29,mD0 93 1 31,eD 92 (.call 158 [(.t 69),(.t 76),(.t 91)]) 30 [3],eD 94 (.call 127 [(.t 65),(.t 92),(.t 93)]) 32 [],mD0 1 94 33]) .skip))))
 (R0 [0,1,5] [mI0 22 1,C1 23 202 22,mI0 5 23]))))))
 (S0 (R0 [4] [mI0 95 1,mI0 4 95])
 .ret)))⟩
theorem cf279:cF prog f279=some if279:=by kernel_rfl
def if291:IFn:=⟨[0,1,2],[(.tmp 6)],(S0 (R0 [1,2,3] [eI 3 (.box (.t 0)),zI0 6])
 (S0 (R0 [1,2,3,7] [fI0 11 0 3,lI0 12 11,sI0 13 12,mI0 7 13])
 (S0 (R0 [1,2,3,7,8] [mI0 14 7,eI 15 (.makeSl 1 8 [(.int .i64 0)] (.t 14) (.t 14)),mI0 8 15])
 (S0 (.seq (R0 [1,2,3,7,8,9] [mI0 16 1,cI0 17 .add 16 1,mI0 9 17])
 (.block 0 (.loop [1,2,3,7,8,9] (S0 (.seq (R0 [1,2,3,7,8,9,20] [mI0 18 9,mI0 19 7,bI0 20 .lss 18 19])
 (.cond (.t 20) .skip (.exit 0)))
 (S0 (.block 1 (S0 (R0 [1,2,3,7,8,9,10] [kI0 10 0])
 (.block 2 (.loop [1,2,3,7,8,9,10] (S0 (.seq (R0 [1,2,3,7,8,9,10,28] [mI0 23 10,mI0 24 2,mI0 25 9,xI0 26 24 25,lI0 27 26,bI0 28 .lss 23 27])
 (.cond (.t 28) .skip (.exit 2)))
 (S0 (.block 3 (.draw [1,2,3,7,8,9,10] [] [qD 31 (.load true 3 (.t 3)) 0,mD0 32 1 1,qD 33 (.bin .add .other (.t 32) (I0 1)) 2,mD0 34 8 3,fD0 35 2 3 4,lD0 36 35 5,mD0 37 1 6,xD0 38 36 37 7,lD0 39 38 8,mD0 40 9 9,mD0 41 1 10,qD 42 (.bin .sub .other (.t 40) (.t 41)) 11,qD 43 (.bin .sub .other (.t 42) (I0 1)) 12,xD0 44 39 43 13,lD0 45 44 14,eD 46 (.call 219 [(.t 31),(.t 33),(.t 34),(.t 45)]) 15 [],mD0 8 46 16]))
 (R0 [1,2,3,7,8,9,10] [mI0 29 10,cI0 30 .add 29 1,mI0 10 30])))))))
 (R0 [1,2,3,7,8,9] [mI0 21 9,cI0 22 .add 21 1,mI0 9 22]))))))
 (S0 (R0 [6] [mI0 47 8,mI0 6 47])
 .ret)))))⟩
theorem cf291:cF prog f291=some if291:=by kernel_rfl
def if302:IFn:=⟨[0,1,2],[(.tmp 6)],(S0 (R0 [1,2,3] [eI 3 (.box (.t 0)),zI0 6])
 (S0 (R0 [1,2,3,7] [fI0 11 0 3,lI0 12 11,sI0 13 12,mI0 7 13])
 (S0 (.seq (R0 [1,2,3,7,16] [mI0 14 1,mI0 15 7,bI0 16 .geq 14 15])
 (.cond (.t 16) (S0 (R0 [6] [mI0 17 7,eI 18 (.makeSl 1 8 [(.int .i64 0)] (.t 17) (.t 17)),mI0 6 18])
 .ret) .skip))
 (S0 (R0 [1,2,3,7,8] [mI0 19 2,C1 20 271 19,mI0 8 20])
 (S0 (R0 [1,2,3,7,8] [mI0 21 8,mI0 22 1,xI0 23 21 22,nI (.store 1 (.t 23) (I0 0))])
 (S0 (R0 [1,2,3,7,9] [LI0 24 3,mI0 25 1,cI0 26 .add 25 1,mI0 27 8,C3 28 302 24 26 27,mI0 9 28])
 (S0 (.seq (R0 [1,2,3,7,9,33] [mI0 29 2,mI0 30 1,xI0 31 29 30,lI0 32 31,cI0 33 .eql 32 0])
 (.cond (.t 33) (S0 (R0 [6] [mI0 34 9,mI0 6 34])
 .ret) .skip))
 (S0 (R0 [1,2,3,9,10] [mI0 35 7,eI 36 (.makeSl 1 8 [(.int .i64 0)] (.t 35) (.t 35)),mI0 10 36])
 (S0 (.draw [1,3,9,10] [] [mD0 37 10 0,mD0 38 1 1,fD0 39 0 3 2,lD0 40 39 3,mD0 41 1 4,xD0 42 40 41 5,lD0 43 42 6,mD0 44 2 7,mD0 45 1 8,xD0 46 44 45 9,lD0 47 46 10,qD 48 (.bin .sub .other (.t 43) (.t 47)) 11,xD0 49 37 38 12,wD0 1 49 48 13])
 (S0 (.draw [6] [] [qD 50 (.load true 3 (.t 3)) 0,mD0 51 1 1,qD 52 (.load true 3 (.t 3)) 2,mD0 53 1 3,mD0 54 9 4,mD0 55 10 5,qD 57 (.load true 3 (.t 3)) 7,mD0 58 1 8,qD 59 (.bin .add .other (.t 58) (I0 1)) 9,fD0 60 1 3 10,lD0 61 60 11,mD0 62 1 12,xD0 63 61 62 13,lD0 64 63 14,eD 56 (.call 219 [(.t 52),(.t 53),(.t 54),(.t 55)]) 6 [0,7,11,14],eD 65 (.call 302 [(.t 57),(.t 59),(.t 64)]) 15 [0],eD 66 (.call 219 [(.t 50),(.t 51),(.t 56),(.t 65)]) 16 [],mD0 6 66 17])
 .ret))))))))))⟩
theorem cf302:cF prog f302=some if302:=by kernel_rfl
end Go.Proofs
set_option linter.unusedSimpArgs false
set_option linter.unusedVariables false
namespace Go.Proofs
open Go.Ab
variable{U:PHeap}{K:PV->PHeap->Prop}
theorem zGm{n lo hi:Int}(hk:K (.bool (decide (lo<=n/\n<=hi))) U):zA Tryz.prog 208 [.int .i64 n,.int .i64 lo,.int .i64 hi] U K:=by
 refine zB mix Tryz.func208 ?_
 conv=>arg 2;cbv
 refine zC rfl ?_;by_cases h1:lo<=n
 .simp only[Z3,seval,-ae,h1];exact pke hk ⟨λx=>x.2,λx=>⟨h1,x⟩⟩
 .simp only[Z3,seval,-ae,h1];exact pkf hk (by omega)
theorem zIA{n lo hi:Int}(hk:K (.bool (decide (lo<=n/\n<=hi))) U):zA Tryz.prog 290 [.int .i64 n,.int .i64 lo,.int .i64 hi] U K:=by
 refine zB mix Tryz.func290 ?_
 conv=>arg 2;cbv
 refine zC rfl ?_;by_cases h1:lo<=n
 .simp only[Z3,seval,-ae,h1];exact pke hk ⟨λx=>x.2,λx=>⟨h1,x⟩⟩
 .simp only[Z3,seval,-ae,h1];exact pkf hk (by omega)
def isVec(xs:L3)(p n:Int):Prop:=(xs.length:Int)=n/\∀x∈xs,0<=x/\x<=p-1
instance (xs:L3) (p n:Int):Decidable (isVec xs p n):=by unfold isVec;infer_instance
theorem zJx{w:Bool}{a:AV}{xs:L3}{p n:Int}{l:Nat}(hl:l=xs.length)(hb:xs.length<=4611686018427387904)(hp:0<p)(kZ:p<4611686018427387904)(hk:K (.bool (decide (isVec xs p n))) U):
  zA Tryz.prog 205 [.fz w a l (pis xs),.int .i64 p,.int .i64 n] U K:=by
 subst hl;refine zB mix Tryz.func205 ?_
 conv=>arg 2;cbv
 refine zC rfl ?_;simp only[Z3,seval,-ae];split
 .refine zF (λm vs h'=>∃i:Nat,i<=xs.length/\m=xs.length-i/\vs=[.int .i64 p,.fz w a xs.length (pis xs),.int .i64 xs.length,.int .i64 i]/\h'=U/\∀x∈xs.take i,0<=x/\x<=p-1) xs.length ?_ ?_
  .exact⟨0,by omega,by omega,rfl,rfl,by simp⟩
  .rintro m vs h' ⟨i,hi,rfl,rfl,rfl,ah⟩
   simp only[Z3,seval,-ae];split
   .rename_i ag;have mF:IntKind.i64.wrap (p-1)=p-1:=wrap64 (by omega) (by omega);simp only[Z3,seval,-ae,ag,zL,gi ag,wrapS ag hb,mF];refine zGm ?_;simp only[Z3,seval,-ae,wrapS ag hb];split
    .exact⟨_,by omega,i+1,by omega,rfl,rfl,Q5 ag ah (by assumption)⟩
    .rename_i hn;exact pkf hk λhv=>hn (hv.2 _ (List.getElem_mem ag))
   .refine pkt hk ⟨by assumption,Q0 (by omega) ah⟩
 .rename_i ai;exact pkf hk λhv=>ai hv.1
theorem zEn{w:Bool}{a:AV}{xs:L3}{p:Int}{n:Nat}{l:Nat}(hl:l=xs.length)(hb:xs.length<=4611686018427387904)(hp:0<p)(kZ:p<4611686018427387904)(hk:K (.bool (decide (isVec xs p n))) U):
  zA Tryz.prog 294 [.fz w a l (pis xs),.int .i64 p,.int .i64 n] U K:=by
 subst hl;refine zB mix Tryz.func294 ?_
 conv=>arg 2;cbv
 refine zC rfl ?_;simp only[Z3,seval,-ae];split
 .rename_i hl;have hl:xs.length=n:=by omega
  subst hl;refine zF (λm vs h'=>∃i:Nat,i<=xs.length/\m=xs.length-i/\vs=[.fz w a xs.length (pis xs),.int .i64 p,.int .i64 xs.length,.int .i64 i]/\h'=U/\∀x∈xs.take i,0<=x/\x<=p-1) xs.length ?_ ?_
  .exact⟨0,by omega,by omega,rfl,rfl,by simp⟩
  .rintro m vs h' ⟨i,hi,rfl,rfl,rfl,ah⟩
   simp only[Z3,seval,-ae];split
   .rename_i ag;have mF:IntKind.i64.wrap (p-1)=p-1:=wrap64 (by omega) (by omega);simp only[Z3,seval,-ae,ag,zL,gi ag,wrapS ag hb,mF];refine zIA ?_;simp only[Z3,seval,-ae,wrapS ag hb];split
    .exact⟨_,by omega,i+1,by omega,rfl,rfl,Q5 ag ah (by assumption)⟩
    .rename_i hn;exact pkf hk λhv=>hn (hv.2 _ (List.getElem_mem ag))
   .refine pkt hk ⟨rfl,Q0 (by omega) ah⟩
 .rename_i ai;exact pkf hk λhv=>ai hv.1
def isZ(xs:L3):Prop:=∀x∈xs,x=0
instance (xs:L3):Decidable (isZ xs):=by unfold isZ;infer_instance
theorem zAv{w:Bool}{a:AV}{xs:L3}{l:Nat}(hl:l=xs.length)(hb:xs.length<=4611686018427387904)(hk:K (.bool (decide (isZ xs))) U):zA Tryz.prog 117 [.fz w a l (pis xs)] U K:=by
 subst hl;refine zB mix Tryz.func117 ?_
 conv=>arg 2;cbv
 refine zC rfl ?_;simp only[Z3,seval,-ae];refine zF (λm vs h'=>∃i:Nat,i<=xs.length/\m=xs.length-i/\vs=[.fz w a xs.length (pis xs),.int .i64 xs.length,.int .i64 i]/\h'=U/\∀x∈xs.take i,x=0) xs.length ?_ ?_
 .exact⟨0,by omega,by omega,rfl,rfl,by simp⟩
 .rintro m vs h' ⟨i,hi,rfl,rfl,rfl,ah⟩
  simp only[Z3,seval,-ae];split
  .rename_i ag;simp only[Z3,seval,-ae,ag,zL,gi ag];split
   .rename_i h0;simp only[Z3,seval,-ae,wrapS ag hb];exact⟨_,by omega,i+1,by omega,rfl,rfl,Q5 ag ah h0⟩
   .rename_i hn;exact pkf hk λhv=>hn (hv _ (List.getElem_mem ag))
  .refine pkt hk (Q0 (by omega) ah)
theorem zBF{w:Bool}{a:AV}{xs:L3}{l:Nat}(hl:l=xs.length)(hb:xs.length<=4611686018427387904)(hk:K (.bool (decide (isZ xs))) U):zA Tryz.prog 198 [.fz w a l (pis xs)] U K:=by
 subst hl;refine zB mix Tryz.func198 ?_
 conv=>arg 2;cbv
 refine zC rfl ?_;simp only[Z3,seval,-ae];refine zF (λm vs h'=>∃i:Nat,i<=xs.length/\m=xs.length-i/\vs=[.fz w a xs.length (pis xs),.int .i64 i]/\h'=U/\∀x∈xs.take i,x=0) xs.length ?_ ?_
 .exact⟨0,by omega,by omega,rfl,rfl,by simp⟩
 .rintro m vs h' ⟨i,hi,rfl,rfl,rfl,ah⟩
  simp only[Z3,seval,-ae];split
  .rename_i ag;simp only[Z3,seval,-ae,ag,zL,gi ag];split
   .rename_i h0;simp only[Z3,seval,-ae,wrapS ag hb];exact⟨_,by omega,i+1,by omega,rfl,rfl,Q5 ag ah h0⟩
   .rename_i hn;exact pkf hk λhv=>hn (hv _ (List.getElem_mem ag))
  .refine pkt hk (Q0 (by omega) ah)
theorem zES{w:Bool}{a:AV}{xs:L3}{k:Nat}{l:Nat}(hl:l=xs.length)(hb:xs.length<=4611686018427387904)(dE:k<xs.length)(hk:K (.bool (decide (isZ (xs.take (k+1))))) U):zA Tryz.prog 295 [.fz w a l (pis xs),.int .i64 k] U K:=by
 subst hl;refine zB mix Tryz.func295 ?_
 conv=>arg 2;cbv
 refine zC rfl ?_;simp only[Z3,seval,-ae];refine zF (λm vs h'=>∃i:Nat,i<=k+1/\m=k+1-i/\vs=[.fz w a xs.length (pis xs),.int .i64 k,.int .i64 i]/\h'=U/\∀x∈xs.take i,x=0) (k+1) ?_ ?_
 .exact⟨0,by omega,by omega,rfl,rfl,by simp⟩
 .rintro m vs h' ⟨i,hi,rfl,rfl,rfl,ah⟩
  simp only[Z3,seval,-ae];split
  .rename_i ag;have ag:i<xs.length:=by omega
   simp only[Z3,seval,-ae,ag,zL,gi ag];split
   .rename_i h0;simp only[Z3,seval,-ae,wrapS ag hb];exact⟨_,by omega,i+1,by omega,rfl,rfl,Q5 ag ah h0⟩
   .rename_i hn;refine pkf hk λhv=>hn (hv _ ?_);rw[List.mem_take_iff_getElem];exact⟨i,by omega,rfl⟩
  .have:i=k+1:=by omega
   subst this;exact pkt hk ah
theorem zIV{xs ys:L3}(hl:xs.length=ys.length){i:Nat}(hi:i<xs.length)(h:xs.take i=ys.take i)(he:xs[i]=ys[i]'(by omega)):xs.take (i+1)=ys.take (i+1):=by
 rw[List.take_succ_eq_append_getElem hi,List.take_succ_eq_append_getElem (by omega:i<ys.length),h,he]
theorem zFe{w w':Bool}{a a':AV}{xs ys:L3}{l:Nat}{l':Nat}(hl:l=xs.length)(aX:l'=ys.length)(hb:xs.length<=4611686018427387904)(hk:K (.bool (decide (xs=ys))) U):zA Tryz.prog 263 [.fz w a l (pis xs),.fz w' a' l' (pis ys)] U K:=by
 subst hl;subst aX;refine zB mix Tryz.func263 ?_
 conv=>arg 2;cbv
 refine zC rfl ?_;simp only[Z3,seval,-ae];split
 .rename_i hl;have hl:xs.length=ys.length:=by omega
  refine zF (λm vs h'=>∃i:Nat,i<=xs.length/\m=xs.length-i/\vs=[.fz w a xs.length (pis xs),.fz w' a' ys.length (pis ys),.int .i64 i]/\h'=U/\xs.take i=ys.take i) xs.length ?_ ?_
  .exact⟨0,by omega,by omega,rfl,rfl,by simp⟩
  .rintro m vs h' ⟨i,hi,rfl,rfl,rfl,ah⟩
   simp only[Z3,seval,-ae];split
   .rename_i ag;have an:i<ys.length:=by omega
    simp only[Z3,seval,-ae,ag,an,zL,gi ag,gi an];split
    .rename_i h0;simp only[Z3,seval,-ae,wrapS ag hb];exact⟨_,by omega,i+1,by omega,rfl,rfl,zIV hl ag ah h0⟩
    .rename_i hn;refine pkf hk λhv=>hn (by subst hv;rfl)
   .refine pkt hk ?_;rwa[List.take_of_length_le (by omega),List.take_of_length_le (by omega)]at ah
 .rename_i hl;exact pkf hk λhv=>hl (by rw[hv])
theorem zAj{w w':Bool}{a a':AV}{xs ys:L3}{l:Nat}{l':Nat}(hl:l=xs.length)(aX:l'=ys.length)(hb:xs.length<=4611686018427387904)(hk:K (.bool (decide (xs=ys))) U):zA Tryz.prog 277 [.fz w a l (pis xs),.fz w' a' l' (pis ys)] U K:=by
 subst hl;subst aX;refine zB mix Tryz.func277 ?_
 conv=>arg 2;cbv
 refine zC rfl ?_;simp only[Z3,seval,-ae];split
 .rename_i hl;have hl:xs.length=ys.length:=by omega
  refine zF (λm vs h'=>∃i:Nat,i<=xs.length/\m=xs.length-i/\vs=[.fz w a xs.length (pis xs),.fz w' a' ys.length (pis ys),.int .i64 xs.length,.int .i64 i]/\h'=U/\xs.take i=ys.take i) xs.length ?_ ?_
  .exact⟨0,by omega,by omega,rfl,rfl,by simp⟩
  .rintro m vs h' ⟨i,hi,rfl,rfl,rfl,ah⟩
   simp only[Z3,seval,-ae];split
   .rename_i ag;have an:i<ys.length:=by omega
    simp only[Z3,seval,-ae,ag,an,zL,gi ag,gi an];split
    .rename_i h0;simp only[Z3,seval,-ae,wrapS ag hb];exact⟨_,by omega,i+1,by omega,rfl,rfl,zIV hl ag ah h0⟩
    .rename_i hn;refine pkf hk λhv=>hn (by subst hv;rfl)
   .refine pkt hk ?_;rwa[List.take_of_length_le (by omega),List.take_of_length_le (by omega)]at ah
 .rename_i hl;exact pkf hk λhv=>hl (by rw[hv])
def isP(n:Int):Prop:=n=2\/n=3\/n=5\/n=7
instance (n:Int):Decidable (isP n):=by unfold isP;infer_instance
theorem isP.bd{n:Int}(hp:isP n):2<=n/\n<=7:=by unfold isP at hp;omega
theorem zJw{n:Int}(hk:K (.bool (decide (isP n))) U):zA Tryz.prog 287 [.int .i64 n] U K:=by
 refine zB mix Tryz.func287 ?_
 conv=>arg 2;cbv
 refine zC rfl ?_;by_cases h2:n=2
 .simp only[Z3,seval,-ae,h2];exact pkt hk (by unfold isP;omega)
 by_cases h3:n=3
 .simp only[Z3,seval,-ae,h3];exact pkt hk (by unfold isP;omega)
 by_cases h5:n=5
 .simp only[Z3,seval,-ae,h5];exact pkt hk (by unfold isP;omega)
 by_cases h7:n=7
 .simp only[Z3,seval,-ae,h7];exact pkt hk (by unfold isP;omega)
 simp only[Z3,seval,-ae,h2,h3,h5,h7];exact pkf hk (by unfold isP;omega)
theorem zB9{n:Int}(hk:K (.bool (decide (isP n))) U):zA Tryz.prog 211 [.int .i64 n] U K:=by
 refine zB mix Tryz.func211 ?_
 conv=>arg 2;cbv
 refine zC rfl ?_;by_cases h2:n=2
 .simp only[Z3,seval,-ae,h2];exact pkt hk (by unfold isP;omega)
 by_cases h3:n=3
 .simp only[Z3,seval,-ae,h3];exact pkt hk (by unfold isP;omega)
 by_cases h5:n=5
 .simp only[Z3,seval,-ae,h5];exact pkt hk (by unfold isP;omega)
 by_cases h7:n=7
 .simp only[Z3,seval,-ae,h7];exact pkt hk (by unfold isP;omega)
 simp only[Z3,seval,-ae,h2,h3,h5,h7];exact pkf hk (by unfold isP;omega)
theorem zFE(a b:Int)(hb:0<b):(if a.tmod b<0 then a.tdiv b-1 else a.tdiv b)=a / b:=by
 have h1:=Int.tmod_add_mul_tdiv a b;have h2:=Int.emod_add_mul_ediv a b;have h3:=Int.emod_nonneg a (by omega:b≠0);have h4:=Int.emod_lt_of_pos a hb;have h5:=Int.tmod_lt_of_pos a hb;have h6:=Int.lt_tmod_of_pos a hb;split
 .have e1:b*(a / b-a.tdiv b+1)=a.tmod b-a % b+b:=by rw[Int.mul_add,Int.mul_sub];omega
  have:a / b-a.tdiv b+1=0:=by
   rcases Int.lt_trichotomy (a / b-a.tdiv b+1) 0 with x|x|x
   .have:=Int.mul_le_mul_of_nonneg_left (show a / b-a.tdiv b+1<=-1 by omega) (show 0<=b by omega)
    rw[e1]at this;omega
   .exact x
   .have:=Int.mul_le_mul_of_nonneg_left (show 1<=a / b-a.tdiv b+1 by omega) (show 0<=b by omega)
    rw[e1]at this;omega
  omega
 .have e1:b*(a / b-a.tdiv b)=a.tmod b-a % b:=by rw[Int.mul_sub];omega
  have:a / b-a.tdiv b=0:=by
   rcases Int.lt_trichotomy (a / b-a.tdiv b) 0 with x|x|x
   .have:=Int.mul_le_mul_of_nonneg_left (show a / b-a.tdiv b<=-1 by omega) (show 0<=b by omega)
    rw[e1]at this;omega
   .exact x
   .have:=Int.mul_le_mul_of_nonneg_left (show 1<=a / b-a.tdiv b by omega) (show 0<=b by omega)
    rw[e1]at this;omega
  omega
theorem zKM{a b:Int}(hb:0<b)(ha:sm a):sm (a.tdiv b):=by
 have h1:(a.tdiv b).natAbs=a.natAbs / b.natAbs:=Int.natAbs_tdiv a b;have h2:a.natAbs / b.natAbs<=a.natAbs:=Nat.div_le_self _ _;unfold sm at *
 omega
theorem zEs{a b:Int}(hb:0<b)(ha:sm a)(hk:K (.int .i64 (a / b)) U):zA Tryz.prog 303 [.int .i64 a,.int .i64 b] U K:=by
 refine zB mix Tryz.func303 ?_
 conv=>arg 2;cbv
 refine zC rfl ?_;have h0:b≠0:=by omega
 have hf:=zFE a b hb;have hs:=zKM hb ha;unfold sm at hs;rw[<-hf]at hk;simp only[Z3,seval,-ae,h0,wrap64 (n:=a.tdiv b) (by omega) (by omega)];split
 .rename_i hc;rw[if_pos hc]at hk;simp only[Z3,seval,-ae,wrap64 (n:=a.tdiv b-1) (by omega) (by omega)];exact hk
 .rename_i hc;rw[if_neg hc]at hk;exact hk
theorem zJu{a b:Int}(hb:0<b)(ha:sm a)(hk:K (.int .i64 (a / b)) U):zA Tryz.prog 316 [.int .i64 a,.int .i64 b] U K:=by
 refine zB mix Tryz.func316 ?_
 conv=>arg 2;cbv
 refine zC rfl ?_;have h0:b≠0:=by omega
 have hf:=zFE a b hb;have hs:=zKM hb ha;unfold sm at hs;rw[<-hf]at hk;simp only[Z3,seval,-ae,h0,wrap64 (n:=a.tdiv b) (by omega) (by omega)];split
 .rename_i hc;rw[if_pos hc]at hk;simp only[Z3,seval,-ae,wrap64 (n:=a.tdiv b-1) (by omega) (by omega)];exact hk
 .rename_i hc;rw[if_neg hc]at hk;exact hk
theorem zGs(x p:Int)(hp:0<p):(x.tmod p+p).tmod p=x % p:=by
 have h1:=Int.tmod_lt_of_pos x hp;have h2:=Int.lt_tmod_of_pos x hp;rw[Int.tmod_eq_emod_of_nonneg (by omega),Int.add_emod_right];rcases Int.le_total 0 x with h0|h0
 .rw[Int.tmod_eq_emod_of_nonneg h0,Int.emod_emod_of_dvd _ (Int.dvd_refl p)]
 .obtain⟨y,rfl⟩:∃y,x=-y:=⟨-x,by omega⟩
  rw[Int.neg_tmod,Int.tmod_eq_emod_of_nonneg (by omega)];have e:=Int.emod_add_mul_ediv y p
  have:-y=-(y % p)+p*(-(y / p)):=by rw[Int.mul_neg];omega
  rw[this,Int.add_mul_emod_self_left]
theorem zCk{x p:Int}(hp:0<p)(kZ:p<4611686018427387904)(hk:K (.int .i64 (x % p)) U):zA Tryz.prog 281 [.int .i64 x,.int .i64 p] U K:=by
 refine zB mix Tryz.func281 ?_
 conv=>arg 2;cbv
 refine zC rfl ?_;have gr:p≠0:=by omega
 have h1:=Int.tmod_lt_of_pos x hp;have h2:=Int.lt_tmod_of_pos x hp;have hw:IntKind.i64.wrap (x.tmod p+p)=x.tmod p+p:=wrap64 (by omega) (by omega);have he:=zGs x p hp;simp only[Z3,seval,-ae,gr,hw,he];exact hk
theorem zGj{x p:Int}(hp:0<p)(kZ:p<4611686018427387904)(hk:K (.int .i64 (x % p)) U):zA Tryz.prog 273 [.int .i64 x,.int .i64 p] U K:=by
 refine zB mix Tryz.func273 ?_
 conv=>arg 2;cbv
 refine zC rfl ?_;have gr:p≠0:=by omega
 have h1:=Int.tmod_lt_of_pos x hp;have h2:=Int.lt_tmod_of_pos x hp;have he:=zGs x p hp;simp only[Z3,seval,-ae,gr];split
 .rw[Int.tmod_eq_emod_of_nonneg (by omega),Int.emod_eq_of_lt (by omega) (by omega)]at he;simp only[Z3,seval,-ae,he,wrap64 (n:=x % p) (by omega) (by omega)];exact hk
 .rw[Int.tmod_eq_emod_of_nonneg (by omega),Int.add_emod_right,Int.emod_eq_of_lt (by omega) (by omega)]at he;rw[he];exact hk
def ipow(p:Int):Nat->Int
 |0=>1
 |n+1=>ipow p n*p
theorem zKZ{p:Int}(hp:2<=p/\p<=7):∀{n:Nat},n<=6->1<=ipow p n/\ipow p n<=7 ^ n
 |0,_=>by simp[ipow]
 |n+1,hn=>by
  obtain⟨h1,h2⟩:=zKZ hp (n:=n) (by omega);simp only[ipow];have a1:=Int.mul_le_mul_of_nonneg_left hp.1 (show 0<=ipow p n by omega);have a2:=Int.mul_le_mul_of_nonneg_left hp.2 (show 0<=ipow p n by omega);rw[Int.pow_succ];omega
theorem zDz{p:Int}(hp:2<=p/\p<=7){n:Nat}(hn:n<=6):1<=ipow p n/\ipow p n<=117649:=by
 obtain⟨h1,h2⟩:=zKZ hp hn;refine⟨h1,?_⟩
 have:(7:Int) ^ n<=7 ^ 6:=by
  obtain rfl|rfl|rfl|rfl|rfl|rfl|rfl:n=0\/n=1\/n=2\/n=3\/n=4\/n=5\/n=6:=by omega
  all_goals decide
 have e:(7:Int) ^ 6=117649:=by decide
 omega
theorem zB4{p:Int}{n:Nat}(hp:2<=p/\p<=7)(hn:n<=6)(hk:K (.int .i64 (ipow p n)) U):zA Tryz.prog 171 [.int .i64 p,.int .i64 n] U K:=by
 refine zB mix Tryz.func171 ?_
 conv=>arg 2;cbv
 refine zC rfl ?_;simp only[Z3,seval,-ae];refine zF (λm vs h'=>∃i:Nat,i<=n/\m=n-i/\vs=[.int .i64 p,.int .i64 (ipow p i),.int .i64 n,.int .i64 i]/\h'=U) n ?_ ?_
 .exact⟨0,by omega,by omega,rfl,rfl⟩
 .rintro m vs h' ⟨i,hi,rfl,rfl,rfl⟩
  simp only[Z3,seval,-ae];split
  .rename_i ag
   have:=zDz hp (n:=i+1) (by omega)
   simp only[ipow]at this;simp only[Z3,seval,-ae,wrapS (n:=n) (by omega) (by omega),wrap64 (n:=ipow p i*p) (by omega) (by omega)];exact⟨_,by omega,i+1,by omega,rfl,rfl⟩
  .have:i=n:=by omega
   subst this;exact hk
theorem zLY{p:Int}{n:Nat}(hp:2<=p/\p<=7)(hn:n<=6)(hk:∀k,(k<=729↔ipow p n<=729)->(k<=729->k=ipow p n)->1<=k->k<=117649->K (.int .i64 k) U):zA Tryz.prog 115 [.int .i64 p,.int .i64 n] U K:=by
 refine zB mix Tryz.func115 ?_
 conv=>arg 2;cbv
 refine zC rfl ?_;simp only[Z3,seval,-ae];refine zF (λm vs h'=>∃i:Nat,i<=n/\m=n-i/\vs=[.int .i64 p,.int .i64 n,.int .i64 (ipow p i),.int .i64 i]/\h'=U) n ?_ ?_
 .exact⟨0,by omega,by omega,rfl,rfl⟩
 .rintro m vs h' ⟨i,hi,rfl,rfl,rfl⟩
  have iS:=zDz hp (n:=i) (by omega);have mono:∀j,i<=j->j<=6->ipow p i<=ipow p j:=by
   intro j hj Dj
   induction j with
   |zero=>
     have:i=0:=by omega
     subst this;exact Int.le_refl _
   |succ j ih=>
    rcases Nat.lt_or_ge i (j+1)with x|x
    .have:=ih (by omega) (by omega)
     have Dx:=zDz hp (n:=j) (by omega)
     have:=Int.mul_le_mul_of_nonneg_left hp.1 (show 0<=ipow p j by omega)
     simp only[ipow];omega
    .have:i=j+1:=by omega
     subst this;exact Int.le_refl _
  by_cases ag:i<n
  .by_cases hle:ipow p i<=729
   .have:=zDz hp (n:=i+1) (by omega)
    simp only[ipow]at this;simp only[Z3,seval,-ae,ag,hle,wrapS (n:=n) ag (by omega),wrap64 (n:=ipow p i*p) (by omega) (by omega)];exact⟨_,by omega,i+1,by omega,rfl,rfl⟩
   .simp only[Z3,seval,-ae,ag,hle]
    have:=mono n (by omega) hn
    exact hk _ ⟨λx=>by omega,λx=>by omega⟩ (λx=>by omega) iS.1 iS.2
  .have:i=n:=by omega
   subst this;simp only[Z3,seval,-ae,ag];exact hk _ Iff.rfl (λ_=>rfl) iS.1 iS.2
theorem QW{w:Bool}{a:AV}{xs:L3}{l:Nat}(hl:l=xs.length)(hb:xs.length<=4294967296)(hk:∀cap,full 1 cap xs.length->K (.sl U.next 0 xs.length cap) (U.new (pis xs))):zA Tryz.prog 271 [.fz w a l (pis xs)] U K:=by
 subst hl;refine zA.gh ?_;refine zB mix Tryz.func271 ?_
 conv=>arg 2;cbv
 refine zC rfl ?_;simp only[Z3,seval,-ae];refine PSl.cat (bytes:=8) (σb:=U) (n:=0) (cs:=[]) (zD U _) (PSl.new _ 1 rfl (vM _)) (zJ xs) (by omega) (by omega) λv' h' cL ha=>?_;simp only[Z3,seval,-ae]at ha ⊢;exact ha.out cL (zO _ _) hk
theorem QO{w:Bool}{a:AV}{xs:L3}{l:Nat}(hl:l=xs.length)(hb:xs.length<=4294967296)(hk:ResI U K xs):zA Tryz.prog 206 [.fz w a l (pis xs)] U K:=by
 subst hl;refine zA.nil0 λgZ=>zA.gh ?_;refine zB mix Tryz.func206 ?_
 conv=>arg 2;cbv
 refine zC rfl ?_;simp only[Z3,seval,-ae];cases hn:Zv a
 .simp only[Z3,seval,-ae];refine PSl.cat (bytes:=8) (σb:=U) (n:=0) (cs:=[]) (zD U _) (PSl.new _ 1 rfl (vM _)) (zJ xs) (by omega) (by omega) λv' h' cL ha=>?_;simp only[Z3,seval,-ae]at ha ⊢;exact ha.out cL (zO _ _) hk.2
 .simp only[Z3,seval,-ae];exact Gh.ret (hk.1 (List.eq_nil_of_length_eq_zero (gZ hn).1))
def unitL(n k:Nat):L3:=(List.replicate n 0).set k 1
theorem ZM(n k:Nat):(unitL n k).length=n:=by simp[unitL]
theorem zGw{n k:Nat}(hn:n<=1048576)(cw:k<n)(hk:∀cap,full 1 cap n->K (.sl U.next 0 n cap) (U.new (pis (unitL n k)))):zA Tryz.prog 159 [.int .i64 n,.int .i64 k] U K:=by
 refine zB mix Tryz.func159 ?_
 conv=>arg 2;cbv
 refine zC rfl ?_;simp only[Z3,seval,-ae,cw,List.length_replicate,ZV,zJ,mk8 (n:=n) (by omega),mkL (n:=n) (by omega),Nat.succ_le_of_lt cw];rw[qM (by simpa using cw)];exact hk _ (.inr rfl)
theorem zAW{s:Nat}{cap:Cap}{w:Bool}{a:AV}{xs ys:L3}{k:Int}{l':Nat}(aX:l'=ys.length)(hs:U.obj s=some (pis xs))(hl:xs.length<=ys.length)(hb:xs.length<=4294967296)
  (uz:∀i (h1:i<xs.length) (h2:i<ys.length),sm (k*ys[i])/\sm (xs[i] - k*ys[i])) (hk:K (.tup []) (U.set s (pis (subm k xs ys)))):
  zA Tryz.prog 249 [.sl s 0 xs.length cap,.fz w a l' (pis ys),.int .i64 k] U K:=by
 subst aX;refine zB mix Tryz.func249 ?_
 conv=>arg 2;cbv
 refine zC rfl ?_;simp only[Z3,seval,-ae];refine zF (λm vs h'=>∃i:Nat,i<=xs.length/\m=xs.length-i/\vs=[.sl s 0 xs.length cap,.fz w a ys.length (pis ys),.int .i64 k,.int .i64 xs.length,.int .i64 i]/\h'=U.set s (pis ((subm k xs ys).take i++xs.drop i))) xs.length ?_ ?_
 .exact⟨0,by omega,by omega,rfl,by rw[List.take_zero,List.drop_zero,List.nil_append,zEc hs]⟩
 .rintro m vs h' ⟨i,hi,rfl,rfl,rfl⟩
  simp only[Z3,seval,-ae];split
  .rename_i ag;have an:i<ys.length:=by omega
   have gF:=zEG (k:=k) hl;have e1:((subm k xs ys).take i++xs.drop i)[i]? = some xs[i]:=by
    rw[List.getElem?_append_right (by rw[List.length_take];omega),List.length_take,List.getElem?_drop]
    have:i+(i-min i (subm k xs ys).length)=i:=by omega
    rw[this,gi ag]
   obtain⟨b1,b2⟩:=uz i ag an;have hlen:i+1<=((subm k xs ys).take i++xs.drop i).length:=by simp;omega
   simp only[Z3,seval,-ae,ag,an,zL,zJ,gi an,e1,hlen,wrapS ag (by omega:xs.length<=4611686018427387904),b1.w,b2.w];refine⟨_,by omega,i+1,by omega,rfl,rfl,?_⟩;rw[qM (by simp;omega)];congr 2;apply List.ext_getElem?;intro j;rcases Nat.lt_trichotomy j i with x|x|x
   .rw[List.getElem?_set_ne (by omega),List.getElem?_append_left (by simp;omega),List.getElem?_append_left (by simp;omega),List.getElem?_take,List.getElem?_take,if_pos x,if_pos (by omega)]
   .subst x;rw[List.getElem?_set_self (by omega),List.getElem?_append_left (by simp;omega),List.getElem?_take,if_pos (by omega),zOA ag an]
   .rw[List.getElem?_set_ne (by omega),List.getElem?_append_right (by simp;omega),List.getElem?_append_right (by simp;omega),List.getElem?_drop,List.getElem?_drop,List.length_take,List.length_take];congr 1;omega
  .have:i=xs.length:=by omega
   subst this;rw[List.drop_length,List.append_nil,List.take_of_length_le (by rw[zEG hl];exact vM _)];exact hk
theorem zAH{s l l':Nat}{cap:Cap}{w:Bool}{a:AV}{xs ys:L3}{k:Int}(hl:l=xs.length)(aX:l'=ys.length)(hs:U.obj s=some (pis xs))(hle:xs.length<=ys.length)(hb:xs.length<=4294967296)
  (uz:∀i (h1:i<xs.length) (h2:i<ys.length),sm (k*ys[i])/\sm (xs[i] - k*ys[i])) (hk:K (.tup []) (U.set s (pis (subm k xs ys)))):
  zA Tryz.prog 249 [.sl s 0 l cap,.fz w a l' (pis ys),.int .i64 k] U K:=by
 subst hl;exact zAW aX hs hle hb uz hk
theorem zCc{w w':Bool}{a:AV}{cs:List PV}{n:Nat}{k:Int}(hk:K (.tup []) U):
  zA Tryz.prog 249 [.fz w' .nils 0 [],.fz w a n cs,.int .i64 k] U K:=by
 refine zB mix Tryz.func249 ?_
 conv=>arg 2;cbv
 refine zC rfl ?_;simp only[Z3,seval,-ae];refine zF (λm vs h'=>m=0/\vs=[.fz w' .nils 0 [],.fz w a n cs,.int .i64 k,.int .i64 (0:Nat),.int .i64 (0:Nat)]/\h'=U) 0 ?_ ?_
 .exact⟨rfl,rfl,rfl⟩
 .rintro m vs h' ⟨rfl,rfl,rfl⟩
  simp only[Z3,seval,-ae];exact hk
end Go.Proofs
namespace Go.Lie
open Go.Ab
def okp(p:Int):Prop:=2<=p/\p<=7
abbrev at_(v:L3)(j:Nat):Int:=v.getD j 0
theorem at_eq{v:L3}{j:Nat}(h:j<v.length):at_ v j=v[j]:=by simp[at_,List.getD_eq_getElem?_getD,List.getElem?_eq_getElem h]
theorem at_ge{v:L3}{j:Nat}(h:v.length<=j):at_ v j=0:=by simp[at_,List.getD_eq_getElem?_getD,List.getElem?_eq_none h]
theorem Qi{a b:L3}(hl:a.length=b.length)(h:∀j,j<a.length->at_ a j=at_ b j):a=b:=by
 apply List.ext_getElem hl;intro j h1 h2
 have:=h j h1
 rwa[at_eq h1,at_eq h2]at this
theorem at_set{v:L3}{i:Nat}(hi:i<v.length)(x:Int)(j:Nat):at_ (v.set i x) j=if j=i then x else at_ v j:=by
 simp only[at_,List.getD_eq_getElem?_getD,List.getElem?_set];by_cases h:i=j
 .subst h;simp[hi]
 .rw[if_neg h,if_neg (λe=>h e.symm)]
theorem ZF(n:Nat)(j:Nat):at_ (List.replicate n 0) j=0:=by
 simp only[at_,List.getD_eq_getElem?_getD,List.getElem?_replicate];split<;>rfl
def addm(q:Int)(xs ys:L3):L3:=List.zipWith (λx y=>x+q*y) xs ys
theorem Zc{q:Int}{xs ys:L3}(h:xs.length<=ys.length):(addm q xs ys).length=xs.length:=by simp[addm];omega
theorem zE2{q:Int}{xs ys:L3}{i:Nat}(h1:i<xs.length)(h2:i<ys.length):(addm q xs ys)[i]? = some (xs[i] + q*ys[i]):=by
 simp[addm,List.getElem?_zipWith,List.getElem?_eq_getElem h1,List.getElem?_eq_getElem h2]
theorem zBV{q:Int}{xs ys:L3}(h:xs.length=ys.length)(i:Nat):at_ (addm q xs ys) i=at_ xs i+q*at_ ys i:=by
 rcases Nat.lt_or_ge i xs.length with x|x
 .have:=zE2 (q:=q) x (h ▸ x)
  simp only[at_,List.getD_eq_getElem?_getD];rw[this,List.getElem?_eq_getElem x,List.getElem?_eq_getElem (h ▸ x)];rfl
 .rw[at_ge (by rw[Zc (by omega)];exact x),at_ge x,at_ge (h ▸ x)];simp
theorem zGB(k:Int)(xs ys:L3):subm k xs ys=addm (-k) xs ys:=by
 simp only[subm,addm];congr 1;funext x y;rw[Int.neg_mul];omega
def lmix(k:Int)(a:L3)(m:Int)(b:L3):L3:=List.zipWith (λx y=>k*x+m*y) a b
theorem zM{k m:Int}{a b:L3}(h:a.length=b.length):(lmix k a m b).length=a.length:=by simp[lmix];omega
theorem zH7{k m:Int}{a b:L3}{i:Nat}(h1:i<a.length)(h2:i<b.length):(lmix k a m b)[i]? = some (k*a[i] + m*b[i]):=by
 simp[lmix,List.getElem?_zipWith,List.getElem?_eq_getElem h1,List.getElem?_eq_getElem h2]
theorem qY{k m:Int}{a b:L3}(h:a.length=b.length)(i:Nat):at_ (lmix k a m b) i=k*at_ a i+m*at_ b i:=by
 rcases Nat.lt_or_ge i a.length with x|x
 .rw[at_eq (by rw[zM h];exact x),at_eq x,at_eq (by omega:i<b.length)]
  have:=zH7 (k:=k) (m:=m) x (by omega:i<b.length)
  rw[List.getElem?_eq_getElem (by rw[zM h];exact x)]at this;exact Option.some.inj this
 .rw[at_ge (by rw[zM h];exact x),at_ge x,at_ge (by omega:b.length<=i)];simp
def bd(M:Int)(v:L3):Prop:=∀j,-M<=at_ v j/\at_ v j<=M
theorem bd.mono{M N:Int}{v:L3}(h:bd M v)(hn:M<=N):bd N v:=λj=>by have:=h j;omega
def box(p:Int)(v:L3):Prop:=∀x∈v,0<=x/\x<=p-1
def El(p:Int)(n:Nat)(a:L3):Prop:=a.length=n/\box p a
theorem box.at{p:Int}{v:L3}(hp:0<p)(h:box p v)(j:Nat):0<=at_ v j/\at_ v j<=p-1:=by
 rcases Nat.lt_or_ge j v.length with x|x
 .rw[at_eq x];exact h _ (List.getElem_mem x)
 .rw[at_ge x];omega
structure OkW(p:Int)(n:Nat)(W:L4):Prop where
 pr:okp p
 le:n<=6
 len:W.length=n
 row:∀(i:Nat) (h:i<W.length),W[i].length=n/\box p W[i]/\∀j,j<=i->at_ W[i] j=0
variable{p:Int}{n:Nat}{W:L4}
def nstep(p:Int)(W:L4)(i:Nat)(v:L3):L3:=addm (at_ v i / p) (v.set i (at_ v i-at_ v i / p*p)) (W.getD i [])
def nrm(p:Int)(W:L4):Nat->L3->L3
 |0,v=>v
 |k+1,v=>nstep p W k (nrm p W k v)
def norm(p:Int)(W:L4)(v:L3):L3:=nrm p W W.length v
abbrev w_(W:L4)(i j:Nat):Int:=at_ (W.getD i []) j
theorem ZE{i:Nat}(h:i<W.length):W.getD i []=W[i]:=by simp[List.getD_eq_getElem?_getD,List.getElem?_eq_getElem h]
theorem OkW.zero(o:OkW p n W){i j:Nat}(h:j<=i):w_ W i j=0:=by
 rcases Nat.lt_or_ge i W.length with x|x
 .rw[w_,ZE x];exact(o.row i x).2.2 j h
 .simp[w_,List.getD_eq_getElem?_getD,List.getElem?_eq_none x]
theorem OkW.bds(o:OkW p n W)(i j:Nat):0<=w_ W i j/\w_ W i j<=p-1:=by
 have:=o.pr.1
 rcases Nat.lt_or_ge i W.length with x|x
 .rw[w_,ZE x];exact(o.row i x).2.1.at (by omega) j
 .simp[w_,List.getD_eq_getElem?_getD,List.getElem?_eq_none x];omega
theorem OkW.rowlen(o:OkW p n W){i:Nat}(h:i<n):(W.getD i []).length=n:=by
 rw[ZE (o.len ▸ h)];exact(o.row i (o.len ▸ h)).1
theorem zHy(o:OkW p n W){i:Nat}(hi:i<n){v:L3}(hv:v.length=n):(nstep p W i v).length=n:=by
 rw[nstep,Zc (by rw[List.length_set,o.rowlen hi];omega),List.length_set,hv]
theorem zEk(o:OkW p n W){i:Nat}(hi:i<n){v:L3}(hv:v.length=n)(j:Nat):at_ (nstep p W i v) j=at_ v j+at_ v i / p*(w_ W i j-if j=i then p else 0):=by
 rw[nstep,zBV (by rw[List.length_set,o.rowlen hi,hv]),at_set (by omega)];split
 .rename_i e;subst e;simp only[w_];rw[Int.mul_sub];omega
 .rw[Int.sub_zero]
theorem QY(o:OkW p n W){v:L3}(hv:v.length=n):∀{k:Nat},k<=n->(nrm p W k v).length=n
 |0,_=>hv
 |k+1,hk=>zHy o (by omega) (QY o hv (by omega))
theorem Zo(o:OkW p n W){v:L3}(hv:v.length=n):(norm p W v).length=n:=QY o hv (Nat.le_of_eq o.len)
theorem zAy(a:Int)(hp:0<p):a / p*p<=a/\a<a / p*p+p:=by
 have h1:=Int.emod_add_mul_ediv a p;have h2:=Int.emod_nonneg a (by omega:p≠0);have h3:=Int.emod_lt_of_pos a hp;rw[Int.mul_comm]at h1;omega
theorem zQp{q w:Int}(hp:0<p)(hw:0<=w/\w<=p-1){A:Int}(hA:0<=A)(hq:-A<=q*p/\q*p<=A):-A<=q*w/\q*w<=A:=by
 rcases Int.le_total 0 q with h|h
 .have h1:=Int.mul_nonneg h hw.1;have h2:=Int.mul_le_mul_of_nonneg_left (show w<=p by omega) h;omega
 .have h1:=Int.mul_le_mul_of_nonneg_left (show w<=p by omega) (show 0<=-q by omega);have h2:=Int.mul_nonneg (show 0<=-q by omega) hw.1;rw[Int.neg_mul]at h2;rw[Int.neg_mul,Int.neg_mul]at h1;omega
theorem zEb(o:OkW p n W){M:Int}{v:L3}(h:bd M v)(i j:Nat):
  (-(M+7)<=at_ v i / p*p/\at_ v i / p*p<=M+7)/\(-(M+7)<=at_ v i / p*w_ W i j/\at_ v i / p*w_ W i j<=M+7):=by
 have hp:=o.pr;unfold okp at hp;have h1:=zAy (p:=p) (at_ v i) (by omega);have h2:=h i;have h3:-(M+7)<=at_ v i / p*p/\at_ v i / p*p<=M+7:=by omega
 exact⟨h3,zQp (by omega) (o.bds i j) (by omega) h3⟩
theorem zOz(o:OkW p n W){M:Int}{i:Nat}(hi:i<n){v:L3}(hv:v.length=n)(h:bd M v):bd (2*M+14) (nstep p W i v):=λj=>by
 rw[zEk o hi hv,Int.mul_sub];have hp:=o.pr;unfold okp at hp;have h1:=zAy (p:=p) (at_ v i) (by omega);have h2:=h i;have h3:=h j;obtain⟨h4,h5⟩:=zEb o h i j;split
 .rename_i e;subst e;rw[o.zero (vM _),Int.mul_zero];omega
 .rw[Int.mul_zero];omega
def grow(M:Int):Nat->Int
 |0=>M
 |k+1=>2*grow M k+14
theorem zQ2{M:Int}(hM:0<=M){k:Nat}(hk:k<=6):0<=grow M k/\grow M k<=64*M+882:=by
 obtain rfl|rfl|rfl|rfl|rfl|rfl|rfl:k=0\/k=1\/k=2\/k=3\/k=4\/k=5\/k=6:=by omega
 all_goals simp only[grow];omega
theorem zND(o:OkW p n W){M:Int}{v:L3}(hv:v.length=n)(h:bd M v):∀{k:Nat},k<=n->bd (grow M k) (nrm p W k v)
 |0,_=>h
 |k+1,hk=>zOz o (by omega) (QY o hv (by omega)) (zND o hv h (by omega))
theorem zKT(o:OkW p n W){M:Int}(hM:0<=M){v:L3}(hv:v.length=n)(h:bd M v){k:Nat}(hk:k<=n):bd (64*M+882) (nrm p W k v):=
 (zND o hv h hk).mono (zQ2 hM (by have:=o.le;omega)).2
def sumN:Nat->(Nat->Int)->Int
 |0,_=>0
 |n+1,f=>sumN n f+f n
theorem qw:∀{n:Nat} {f g:Nat->Int},(∀i,i<n->f i=g i)->sumN n f=sumN n g
 |0,_,_,_=>rfl
 |n+1,f,g,h=>by simp only[sumN];rw[qw (λi hi=>h i (by omega)),h n (by omega)]
theorem Qr:∀(n:Nat) (f g:Nat->Int),sumN n (λi=>f i+g i)=sumN n f+sumN n g
 |0,_,_=>rfl
 |n+1,f,g=>by simp only[sumN];rw[Qr n f g];omega
theorem Z6(k:Int):∀(n:Nat) (f:Nat->Int),sumN n (λi=>k*f i)=k*sumN n f
 |0,_=>by simp[sumN]
 |n+1,f=>by simp only[sumN];rw[Z6 k n f,Int.mul_add]
theorem ZI:∀(n:Nat) {f:Nat->Int},(∀i,i<n->f i=0)->sumN n f=0
 |0,_,_=>rfl
 |n+1,f,h=>by simp only[sumN];rw[ZI n (λi hi=>h i (by omega)),h n (by omega)];rfl
theorem zAa{n k:Nat}(hk:k<n){f:Nat->Int}(h:∀i,i<n->i≠k->f i=0):sumN n f=f k:=by
 induction n with
 |zero=>omega
 |succ n ih=>
  simp only[sumN];by_cases e:k=n
  .subst e;rw[ZI k (λi hi=>h i (by omega) (by omega))];omega
  .rw[ih (by omega) (λi hi ai=>h i (by omega) ai),h n (by omega) (λe'=>e e'.symm)];omega
abbrev rel(p:Int)(W:L4)(i j:Nat):Int:=w_ W i j-if j=i then p else 0
def Eqv(p:Int)(n:Nat)(W:L4)(f g:Nat->Int):Prop:=∃c:Nat->Int,∀j,f j=g j+sumN n (λi=>c i*rel p W i j)
theorem Eqv.refl(f:Nat->Int):Eqv p n W f f:=⟨λ_=>0,λj=>by rw[ZI];omega;intro i _;exact Int.zero_mul _⟩
theorem Eqv.symm{f g:Nat->Int}(h:Eqv p n W f g):Eqv p n W g f:=by
 obtain⟨c,hc⟩:=h;refine⟨λi=>-1*c i,λj=>?_⟩
 have:(λi=>-1*c i*rel p W i j)=λi=>-1*(c i*rel p W i j):=by funext i;rw[Int.mul_assoc]
 rw[this,Z6,hc j];omega
theorem Eqv.trans{f g k:Nat->Int}(h:Eqv p n W f g)(h':Eqv p n W g k):Eqv p n W f k:=by
 obtain⟨c,hc⟩:=h;obtain⟨d,hd⟩:=h';refine⟨λi=>c i+d i,λj=>?_⟩
 have:(λi=>(c i+d i)*rel p W i j)=λi=>c i*rel p W i j+d i*rel p W i j:=by funext i;rw[Int.add_mul]
 rw[this,Qr,hc j,hd j];omega
theorem Eqv.add{f g f' g':Nat->Int}(h:Eqv p n W f g)(h':Eqv p n W f' g'):Eqv p n W (λj=>f j+f' j) (λj=>g j+g' j):=by
 obtain⟨c,hc⟩:=h;obtain⟨d,hd⟩:=h';refine⟨λi=>c i+d i,λj=>?_⟩
 have:(λi=>(c i+d i)*rel p W i j)=λi=>c i*rel p W i j+d i*rel p W i j:=by funext i;rw[Int.add_mul]
 dsimp only;rw[this,Qr,hc j,hd j];omega
theorem Eqv.mul(k:Int){f g:Nat->Int}(h:Eqv p n W f g):Eqv p n W (λj=>k*f j) (λj=>k*g j):=by
 obtain⟨c,hc⟩:=h;refine⟨λi=>k*c i,λj=>?_⟩
 have:(λi=>k*c i*rel p W i j)=λi=>k*(c i*rel p W i j):=by funext i;rw[Int.mul_assoc]
 dsimp only;rw[this,Z6,hc j,Int.mul_add]
theorem Eqv.of_eq{f g:Nat->Int}(h:∀j,f j=g j):Eqv p n W f g:=by
 have:f=g:=funext h
 subst this;exact Eqv.refl f
theorem Eqv.rel{i:Nat}(hi:i<n):Eqv p n W (λj=>rel p W i j) (λ_=>0):=
 ⟨λk=>if k=i then 1 else 0,λj=>by
  rw[zAa hi (λk _ hk=>by dsimp only;rw[if_neg hk,Int.zero_mul])];dsimp only;rw[if_pos rfl];omega⟩
theorem zNC(o:OkW p n W){i:Nat}(hi:i<n){v:L3}(hv:v.length=n):Eqv p n W (at_ (nstep p W i v)) (at_ v):=by
 refine⟨λk=>if k=i then at_ v i / p else 0,λj=>?_⟩;rw[zAa hi (λk _ hk=>by dsimp only;rw[if_neg hk,Int.zero_mul]),zEk o hi hv];dsimp only;rw[if_pos rfl]
theorem zKR(o:OkW p n W){v:L3}(hv:v.length=n):∀{k:Nat},k<=n->Eqv p n W (at_ (nrm p W k v)) (at_ v)
 |0,_=>Eqv.refl _
 |k+1,hk=>(zNC o (by omega) (QY o hv (by omega))).trans (zKR o hv (by omega))
theorem ZJ(o:OkW p n W){v:L3}(hv:v.length=n):Eqv p n W (at_ (norm p W v)) (at_ v):=zKR o hv (Nat.le_of_eq o.len)
theorem zKS(o:OkW p n W){v:L3}(hv:v.length=n):∀{k:Nat},k<=n->∀j,j<k->0<=at_ (nrm p W k v) j/\at_ (nrm p W k v) j<=p-1
 |0,_,j,hj=>by omega
 |k+1,hk,j,hj=>by
  have hp:=o.pr;unfold okp at hp;simp only[nrm];rw[zEk o (by omega) (QY o hv (by omega)),o.zero (by omega:j<=k)];by_cases e:j=k
  .subst e;rw[if_pos rfl,Int.zero_sub,Int.mul_neg]
   have:=zAy (p:=p) (at_ (nrm p W j v) j) (by omega)
   omega
  .rw[if_neg e,Int.sub_zero,Int.mul_zero,Int.add_zero];exact zKS o hv (by omega) j (by omega)
theorem QZ(o:OkW p n W){v:L3}(hv:v.length=n):box p (norm p W v):=by
 intro x hx;obtain⟨j,hj,rfl⟩:=List.mem_iff_getElem.1 hx
 have:=zKS o hv (Nat.le_of_eq o.len) j (by rw[Zo o hv]at hj;rw[o.len];exact hj)
 rwa[<-at_eq hj]
theorem ZZ(o:OkW p n W){a b:L3}(ha:a.length=n)(hb:b.length=n)(ba:box p a)(bb:box p b)(h:Eqv p n W (at_ a) (at_ b)):a=b:=by
 obtain⟨c,hc⟩:=h;have hp:=o.pr;unfold okp at hp;have key:∀m,m<=n->∀i,i<m->c i=0:=by
  intro m
  induction m with
  |zero=>intro _ i hi;omega
  |succ m ih=>
   intro hm i hi;by_cases e:i=m
   .subst e;have h1:=hc i;rw[zAa (k:=i) (by omega) (λk hk ai=>by
     rcases Nat.lt_or_ge k i with x|x
     .rw[ih (by omega) k x,Int.zero_mul]
     .rw[rel,o.zero x,if_neg (λe=>ai e.symm)];simp)]at h1
    rw[rel,o.zero (vM _),if_pos rfl]at h1;have h2:=ba.at (by omega) i;have h3:=bb.at (by omega) i;rw[Int.zero_sub,Int.mul_neg]at h1;rcases Int.lt_trichotomy (c i) 0 with x|x|x
    .have:=Int.mul_le_mul_of_nonneg_right (show c i<=-1 by omega) (show 0<=p by omega)
     omega
    .exact x
    .have:=Int.mul_le_mul_of_nonneg_right (show 1<=c i by omega) (show 0<=p by omega)
     omega
   .exact ih (by omega) i (by omega)
 refine Qi (by omega) λj hj=>?_;rw[hc j,ZI n (λi hi=>by rw[key n (vM _) i hi,Int.zero_mul])];omega
theorem zFU(o:OkW p n W){a b:L3}(ha:a.length=n)(hb:b.length=n)(h:Eqv p n W (at_ a) (at_ b)):norm p W a=norm p W b:=
 ZZ o (Zo o ha) (Zo o hb) (QZ o ha) (QZ o hb) ((ZJ o ha).trans (h.trans (ZJ o hb).symm))
theorem zNE(o:OkW p n W){a:L3}(ha:a.length=n)(ba:box p a):norm p W a=a:=
 ZZ o (Zo o ha) ha (QZ o ha) ba (ZJ o ha)
end Go.Lie
namespace Go.Proofs
open Go.Ab Go.Lie
variable{U:PHeap}{K:PV->PHeap->Prop}
theorem zGv{q:Int}{u r:L3}{k:Nat}(hl:u.length=r.length)(hk:k<u.length):
  ((addm q u r).take k++u.drop k).set k (u[k] + q*r[k]'(hl ▸ hk))=(addm q u r).take (k+1)++u.drop (k+1):=by
 have cM:=Zc (q:=q) (Nat.le_of_eq hl);apply List.ext_getElem?;intro j;rcases Nat.lt_trichotomy j k with x|x|x
 .rw[List.getElem?_set_ne (by omega),List.getElem?_append_left (by simp;omega),List.getElem?_append_left (by simp;omega),List.getElem?_take,List.getElem?_take,if_pos x,if_pos (by omega)]
 .subst x;rw[List.getElem?_set_self (by simp;omega),List.getElem?_append_left (by simp;omega),List.getElem?_take,if_pos (by omega),zE2 hk (hl ▸ hk)]
 .rw[List.getElem?_set_ne (by omega),List.getElem?_append_right (by simp;omega),List.getElem?_append_right (by simp;omega),List.getElem?_drop,List.getElem?_drop,List.length_take,List.length_take];congr 1;omega
theorem zIr{q:Int}{u r:L3}{k:Nat}(hl:u.length=r.length)(hk:k<u.length):((addm q u r).take k++u.drop k)[k]? = some u[k]:=by
 have cM:=Zc (q:=q) (Nat.le_of_eq hl);rw[List.getElem?_append_right (by rw[List.length_take];omega),List.length_take,List.getElem?_drop]
 have:k+(k-min k (addm q u r).length)=k:=by omega
 rw[this,List.getElem?_eq_getElem hk]
theorem zEZ{q:Int}{u r:L3}{k:Nat}(hl:u.length=r.length)(hk:k<=u.length):((addm q u r).take k++u.drop k).length=u.length:=by
 have cM:=Zc (q:=q) (Nat.le_of_eq hl);simp;omega
theorem zIs{q:Int}{u r:L3}(hl:u.length=r.length):(addm q u r).take u.length++u.drop u.length=addm q u r:=by
 rw[List.drop_length,List.append_nil,List.take_of_length_le (by rw[Zc (Nat.le_of_eq hl)];exact vM _)]
abbrev big:Int:=1125899906842624
theorem zDR{s l:Nat}{w1 w:Bool}{a1 a:AV}{rP:List PV}{vB:PV}{p:Int}{n:Nat}{W:L4}{c:L3}(hs:U.obj s=some [.int .i64 p,.fz w1 a1 W.length rP,vB])(hP:All2 FI rP W)(o:OkW p n W)(hc:c.length=n)(hb:bd big c)
  (hl:l=c.length) (hk:ResI U K (norm p W c)):zA Tryz.prog 250 [.ptr s 0,.fz w a l (pis c)] U K:=by
 subst hl;refine zA.pwf λhw=>?_;have C6:=hw.lt hs;have ai:¬s=U.next:=by omega
 have hW:=o.len;have aW:=o.le;have BI:big=1125899906842624:=rfl;have hp:=o.pr;unfold okp at hp;refine zP mix Tryz.func250 cf250 rfl ?_;dsimp only[if250,qD,eD,mI0,kI0,lI0,fI0,xI0,bI0,cI0,sI0,pI0,C1,mD0,lD0,fD0,xD0,pD0,zI0,vI0,wD0,R0,S0];simp only[Z3,seval,-ae];refine QO rfl (by omega) ⟨λh0=>?_,λcap bQ=>?_⟩
 .subst h0;obtain rfl:n=0:=by simpa using hc.symm
  obtain rfl:W=[]:=List.eq_nil_of_length_eq_zero hW;simp only[Z3,seval,-ae,zG hs,ZN hs];refine zF (λm vs h'=>m=0/\vs=[.ptr s 0,.fz true .nils 0 [],.fz w1 a1 0 rP,.int .i64 (0:Nat),.int .i64 (0:Nat)]/\h'=U) 0 ?_ ?_
  .exact⟨rfl,rfl,rfl⟩
  .rintro m vs h' ⟨rfl,rfl,rfl⟩
   simp only[Z3,seval,-ae];exact hk.1 rfl
 .simp only[Z3,seval,-ae,zG hs,ZN hs,ai];refine zF (λm vs h'=>∃i:Nat,i<=n/\m=n-i/\vs=[.ptr s 0,.sl U.next 0 c.length cap,.fz w1 a1 W.length rP,.int .i64 W.length,.int .i64 i]/\h'=U.new (pis (nrm p W i c))) n ?_ ?_
  .exact⟨0,by omega,by omega,rfl,rfl⟩
  .rintro m vs h' ⟨i,hi,rfl,rfl,rfl⟩
   simp only[Z3,seval,-ae];refine iteI (λag=>?_) λaF=>?_
   .have e9:i<n:=by omega
    have gA:=QY o hc hi;have dy:=zKT o (by decide) hc hb hi;obtain⟨w2,a2,hr⟩:=hP.rowI (k:=i) (by omega);obtain⟨aR,cu,nM⟩:=o.row i (by omega);have fK:=ZE (W:=W) (i:=i) (by omega);have cA:=λj=>zEb o dy i j;have ni:=zAy (p:=p) (at_ (nrm p W i c) i) (by omega);have cM:=at_eq (v:=nrm p W i c) (j:=i) (by omega);have ll:=gi (xs:=nrm p W i c) (i:=i) (by omega);rw[<-cM]at ll;clear cM;generalize hv:nrm p W i c=v at *
    have ig:i<c.length:=by omega
    have A7:=dy i;have mI:sm (at_ v i):=by unfold sm;omega
    simp only[Z3,seval,-ae,ag,ig,zL,hr,ll,ai,zG hs,ZN hs];refine zEs (by omega) mI ?_;have fD:sm (at_ v i / p*p):=by have:=(cA 0).1;unfold sm;omega
    have gn:sm (at_ v i-at_ v i / p*p):=by unfold sm;omega
    have pV:i+1<=v.length:=by omega
    simp only[Z3,seval,-ae,ag,ig,zL,zJ,hr,ll,ai,zG hs,ZN hs,fD.w,gn.w,pV];rw[qM (by omega)];have hu:(v.set i (at_ v i-at_ v i / p*p)).length=n:=by rw[List.length_set,gA]
    have dk:nrm p W (i+1) c=addm (at_ v i / p) (v.set i (at_ v i-at_ v i / p*p)) W[i]:=by rw[nrm,hv,nstep,fK]
    have ux:∀j,sm (at_ (v.set i (at_ v i-at_ v i / p*p)) j)/\sm (at_ v i / p*at_ W[i] j)/\sm (at_ (v.set i (at_ v i-at_ v i / p*p)) j+at_ v i / p*at_ W[i] j):=λj=>by
     have h1:=(cA j).2;have h2:=dy j;rw[w_,fK]at h1;rw[at_set (by omega)];unfold sm;split<;>omega
    generalize hq:at_ v i / p=q at *
    generalize At:v.set i (at_ v i-q*p)=u at *
    refine zF (λm vs h'=>∃k:Nat,k<=n/\m=n-k/\vs=[.ptr s 0,.sl U.next 0 c.length cap,.int .i64 q,.fz w1 a1 W.length rP,.int .i64 W.length,.int .i64 i,.fz w2 a2 W[i].length (pis W[i]),.int .i64 W[i].length,.int .i64 k]/\h'=U.new (pis ((addm q u W[i]).take k++u.drop k))) n ?_ ?_
    .exact⟨0,by omega,by omega,rfl,rfl⟩
    .rintro m vs h' ⟨k,cL,rfl,rfl,rfl⟩
     simp only[Z3,seval,-ae];refine iteI (λan=>?_) λaF=>?_
     .have AZ:k<c.length:=by omega
      have fH:k<u.length:=by omega
      obtain⟨b1,b2,b3⟩:=ux k;rw[at_eq fH,at_eq an]at b3;rw[at_eq an]at b2;have hlen:k+1<=((addm q u W[i]).take k++u.drop k).length:=by rw[zEZ (by omega) (by omega)];omega
      simp only[Z3,seval,-ae,an,AZ,zL,zJ,gi an,zIr (q:=q) (hu.trans aR.symm) fH,b2.w,b3.w,hlen,wrapS an (by omega:W[i].length<=4611686018427387904)];refine⟨_,by omega,k+1,by omega,rfl,rfl,?_⟩;rw[qM (by omega),zGv (by omega) fH]
     .have cw:k=u.length:=by omega
      subst cw;rw[zIs (by omega)];simp only[Z3,seval,-ae,wrapS (n:=W.length) ag (by omega)];refine⟨_,by omega,i+1,by omega,rfl,rfl,?_⟩;rw[dk]
   .have aJ:i=W.length:=by omega
    subst aJ
    have:=hk.2 cap (by rw[Zo o hc,<-hc];exact bQ)
    rw[Zo o hc,<-hc]at this;exact this
structure IsR(vP vB:PV)(W:L4)(B:L5):Prop where
 P:FII vP W
 B:FIII vB B
theorem zPc{q:Int}{u r:L3}{i:Nat}(hl:u.length=r.length)(hz:∀j,j<=i->at_ r j=0)(hi:i<u.length):(addm q u r).take (i+1)++u.drop (i+1)=u:=by
 have cM:=Zc (q:=q) (Nat.le_of_eq hl)
 have:(addm q u r).take (i+1)=u.take (i+1):=by
  apply List.ext_getElem?;intro j;rw[List.getElem?_take,List.getElem?_take];split
  .rename_i hj
   have:=hz j (by omega)
   rw[at_eq (by omega)]at this;rw[zE2 (by omega) (by omega),this,gi (by omega)];congr 1;omega
  .rfl
 rw[this,List.take_append_drop]
theorem zLa{vP vB:PV}{l:Nat}{w:Bool}{a:AV}{p:Int}{n:Nat}{W:L4}{B:L5}{c:L3}(hR:IsR vP vB W B)(o:OkW p n W)(hc:c.length=n)(hb:bd big c)
  (hl:l=c.length) (hk:∀a,K (.fz true a n (pis (norm p W c))) U):zA Tryz.prog 270 [.agg [.int .i64 p,vP,vB],.fz w a l (pis c)] U K:=by
 subst hl;obtain⟨⟨w1,a1,rP,rfl,hP⟩,⟨w3,a3,rB,rfl,hB⟩⟩:=hR;refine zA.gh ?_;have hW:=o.len;have aW:=o.le;have BI:big=1125899906842624:=rfl;have hp:=o.pr;unfold okp at hp;refine zP mix Tryz.func270 cf270 rfl ?_;dsimp only[if270,eI,qD,eD,mI0,kI0,bI0,cI0,sI0,C1,mD0,lD0,fD0,xD0,zI0,wD0,R0,S0];simp only[Z3,seval,-ae];refine QW rfl (by omega) λcap bQ=>?_;simp only[Z3,seval,-ae];refine zF (λm vs h'=>∃i:Nat,i<=n/\m=n-i/\vs=[.ptr U.next 0,.sl (U.next+1) 0 c.length cap,.int .i64 i]/\h'=(U.new [.int .i64 p,.fz w1 a1 W.length rP,.fz w3 a3 B.length rB]).new (pis (nrm p W i c))) n ?_ ?_
 .exact⟨0,by omega,by omega,rfl,rfl⟩
 .rintro m vs h' ⟨i,hi,rfl,rfl,rfl⟩
  simp only[Z3,seval,-ae];refine iteI (λag=>?_) λaF=>?_
  .have e9:i<n:=by omega
   have kF:i<W.length:=by omega
   have gA:=QY o hc hi;have dy:=zKT o (by decide) hc hb hi;obtain⟨w2,a2,hr⟩:=hP.rowI (k:=i) (by omega);obtain⟨aR,cu,nM⟩:=o.row i (by omega);have fK:=ZE (W:=W) (i:=i) (by omega);have cA:=λj=>zEb o dy i j;have ni:=zAy (p:=p) (at_ (nrm p W i c) i) (by omega);have cM:=at_eq (v:=nrm p W i c) (j:=i) (by omega);have ll:=gi (xs:=nrm p W i c) (i:=i) (by omega);rw[<-cM]at ll;clear cM;generalize hv:nrm p W i c=v at *
   have A7:=dy i;have mI:sm (at_ v i):=by unfold sm;omega
   simp only[Z3,seval,-ae,ag,zL,ll];refine zJu (by omega) mI ?_;have fD:sm (at_ v i / p*p):=by have:=(cA 0).1;unfold sm;omega
   have gn:sm (at_ v i-at_ v i / p*p):=by unfold sm;omega
   have pV:i+1<=v.length:=by omega
   simp only[Z3,seval,-ae,ag,zL,zJ,ll,fD.w,gn.w,pV,wrapS ag (by omega:c.length<=4611686018427387904)];rw[qM (by omega)];have hu:(v.set i (at_ v i-at_ v i / p*p)).length=n:=by rw[List.length_set,gA]
   have dk:nrm p W (i+1) c=addm (at_ v i / p) (v.set i (at_ v i-at_ v i / p*p)) W[i]:=by rw[nrm,hv,nstep,fK]
   have ux:∀j,sm (at_ (v.set i (at_ v i-at_ v i / p*p)) j)/\sm (at_ v i / p*at_ W[i] j)/\sm (at_ (v.set i (at_ v i-at_ v i / p*p)) j+at_ v i / p*at_ W[i] j):=λj=>by
    have h1:=(cA j).2;have h2:=dy j;rw[w_,fK]at h1;rw[at_set (by omega)];unfold sm;split<;>omega
   generalize hq:at_ v i / p=q at *
   generalize At:v.set i (at_ v i-q*p)=u at *
   refine zF (λm vs h'=>∃k:Nat,i+1<=k/\k<=n/\m=n-k/\vs=[.ptr U.next 0,.sl (U.next+1) 0 c.length cap,.int .i64 i,.int .i64 q,.int .i64 k]/\h'=(U.new [.int .i64 p,.fz w1 a1 W.length rP,.fz w3 a3 B.length rB]).new (pis ((addm q u W[i]).take k++u.drop k))) (n-(i+1)) ?_ ?_
   .exact⟨i+1,by omega,by omega,by omega,rfl,by rw[zPc (by omega) nM (by omega)]⟩
   .rintro m vs h' ⟨k,Dn,cL,rfl,rfl,rfl⟩
    simp only[Z3,seval,-ae];refine iteI (λan=>?_) λaF=>?_
    .have fH:k<u.length:=by omega
     have nQ:k<W[i].length:=by omega
     obtain⟨b1,b2,b3⟩:=ux k;rw[at_eq fH,at_eq nQ]at b3;rw[at_eq nQ]at b2;have hlen:k+1<=((addm q u W[i]).take k++u.drop k).length:=by rw[zEZ (by omega) (by omega)];omega
     simp only[Z3,seval,-ae,an,kF,nQ,hr,zL,zJ,gi nQ,zIr (q:=q) (hu.trans aR.symm) fH,b2.w,b3.w,hlen,wrapS an (by omega:c.length<=4611686018427387904)];refine⟨_,by omega,k+1,by omega,by omega,rfl,rfl,?_⟩;rw[qM (by omega),zGv (by omega) fH]
    .have cw:k=u.length:=by omega
     subst cw;rw[zIs (by omega)];simp only[Z3,seval,-ae,wrapS (n:=c.length) ag (by omega)];refine⟨_,by omega,i+1,by omega,rfl,rfl,?_⟩;rw[dk]
  .have aJ:i=W.length:=by omega
   subst aJ;rw[hc];exact Gh.finF (s:=U.next+1) ((zD U _).new _) (by simp only[Z3,seval,-ae];rfl) (by omega) (zO _ _) (by rw[<-hc];exact bQ.ok) λ_=>hk _
theorem zHQ{xs:L3}(z:Int){i:Nat}(hi:i<=xs.length):(xs.take i++List.replicate (xs.length-i) z).length=xs.length:=by simp;omega
theorem bd_sm{M:Int}(hM:M<=4611686018427387904){a:L3}(h:bd M a)(j:Nat):sm (at_ a j):=by have:=h j;unfold sm;omega
theorem zNU{vP vB:PV}{l l':Nat}{w w':Bool}{av bv:AV}{p:Int}{n:Nat}{W:L4}{B:L5}{k m:Int}{a b:L3}(hR:IsR vP vB W B)(o:OkW p n W)(ha:a.length=n)(hb:b.length=n)
  (A0:∀j,sm (k*at_ a j)/\sm (m*at_ b j)) (hm:bd big (lmix k a m b))
  (hl:l=a.length) (aX:l'=b.length) (hk:∀v,K (.fz true v n (pis (norm p W (lmix k a m b)))) U):zA Tryz.prog 178 [.agg [.int .i64 p,vP,vB],.int .i64 k,.fz w av l (pis a),.int .i64 m,.fz w' bv l' (pis b)] U K:=by
 subst hl;subst aX;refine zA.gh ?_;have h1:=hR.P.one;have h2:=hR.B.one;have aW:=o.le;have fZ:=zM (k:=k) (m:=m) (ha.trans hb.symm);refine zP mix Tryz.func178 cf178 rfl ?_;dsimp only[if178,eI,qD,mI0,kI0,LI0,bI0,cI0,sI0,C2,mD0,lD0,xD0,zI0,wD0,R0,S0];simp only[Z3,seval,-ae,h1,h2,List.length_replicate,ZV,mk8 (n:=a.length) (by omega),mkL (n:=a.length) (by omega)];generalize hx:lmix k a m b=x at *
 refine zF (λq vs h'=>∃i:Nat,i<=n/\q=n-i/\vs=[.int .i64 k,.fz w av a.length (pis a),.int .i64 m,.fz w' bv b.length (pis b),.ptr U.next 0,.sl (U.next+1) 0 a.length (.known a.length),.int .i64 i]/\
  h'=(U.new [.int .i64 p,vP,vB]).new (pis (x.take i++List.replicate (x.length-i) 0))) n ?_ ?_
 .exact⟨0,by omega,by omega,rfl,by rw[List.take_zero,List.nil_append,Nat.sub_zero,fZ]⟩
 .rintro q vs h' ⟨i,hi,rfl,rfl,rfl⟩
  simp only[Z3,seval,-ae];refine iteI (λag=>?_) λaF=>?_
  .have ig:i<b.length:=by omega
   have l4:i<x.length:=by omega
   obtain⟨b1,b2⟩:=A0 i;have b3:=bd_sm (by decide) hm i;have e1:x[i]=k*a[i] + m*b[i]:=by
    have:=zH7 (k:=k) (m:=m) ag ig
    rw[hx,gi l4]at this;exact Option.some.inj this
   rw[at_eq ag]at b1;rw[at_eq ig]at b2;rw[at_eq l4,e1]at b3;have hlen:i+1<=(x.take i++List.replicate (x.length-i) 0).length:=by rw[zHQ 0 (by omega)];omega
   simp only[Z3,seval,-ae,ag,ig,gi ag,gi ig,zL,zJ,b1.w,b2.w,b3.w,hlen,wrapS ag (by omega:a.length<=4611686018427387904)];refine⟨_,by omega,i+1,by omega,rfl,rfl,?_⟩;rw[qM (by omega),<-e1,zDF x 0 l4]
  .have aJ:i=x.length:=by omega
   subst aJ;rw[List.take_length,Nat.sub_self,List.replicate_zero,List.append_nil];simp only[Z3,seval,-ae];refine zA.frz (s:=U.next+1) (cs:=pis x) (by simp only[Z3,seval,-ae]) (zO _ _) λo1=>?_;have bQ:capOK (.known a.length) a.length=true:=by simp[capOK]
   simp only[sbs,sb,bQ,and_self,if_true,hR.P.sb,hR.B.sb];refine zLa hR o (fZ.trans ha) hm fZ.symm λv=>?_;simp only[Z3,seval,-ae];exact Gh.fin0 (((zD U _).new _).kill (by omega)) trivial (hk _)
end Go.Proofs
namespace Go.Proofs
open Go.Ab Go.Lie
variable{U:PHeap}{K:PV->PHeap->Prop}{p:Int}{n:Nat}{W:L4}{B:L5}{vP vB:PV}{s:Nat}
structure PtrR(U:PHeap)(s:Nat)(p:Int)(vP vB:PV):Prop where
 obj:U.obj s=some [.int .i64 p,vP,vB]
 lt:s<U.next
theorem PtrR.new(h:PtrR U s p vP vB)(cs:List PV):PtrR (U.new cs) s p vP vB:=⟨by have:=h.lt;simp only[Z3,seval,-ae,Nat.ne_of_lt this];exact h.obj,by have:=h.lt;simp only[Z3,seval,-ae];omega⟩
theorem PtrR.kill(h:PtrR U s p vP vB){t:Nat}(ht:s≠t):PtrR (U.kill t) s p vP vB:=⟨by simp only[Z3,seval,-ae,ht];exact h.obj,h.lt⟩
theorem PtrR.set(h:PtrR U s p vP vB){t:Nat}(ht:s≠t)(cs:List PV):PtrR (U.set t cs) s p vP vB:=⟨by simp only[Z3,seval,-ae,ht];exact h.obj,h.lt⟩
theorem zCs{l:Nat}{cap:Cap}{c:L3}(hs:PtrR U s p vP vB)(hP:FII vP W)(o:OkW p n W)(hc:c.length=n)(hb:bd big c)
  (hl:l=c.length) (bQ:capOK cap l=true) (hk:ResI U K (norm p W c)):zA Tryz.prog 250 [.ptr s 0,.sl U.next 0 l cap] (U.new (pis c)) (Gh U K):=by
 subst hl;obtain⟨w1,a1,rP,rfl,hP⟩:=hP;have ag:=hs.lt;refine zA.frz (s:=U.next) (cs:=pis c) (by simp only[Z3,seval,-ae]) (zO _ _) λo1=>?_;simp only[sbs,sb,bQ,and_self,if_true];refine zDR ((hs.new _).kill (by omega)).obj hP o hc hb rfl ⟨λh0=>?_,λgf jf=>?_⟩
 .exact Gh.fin0 ((zD U _).kill (vM _)) trivial (hk.1 h0)
 .exact Gh.finS (((zD U _).kill (vM _)).new _) (by simp only[Z3,seval,-ae]) (by simp only[Z3,seval,-ae];omega) (zO _ _) (hk.2 gf jf)
theorem zLR{w:Bool}{a:AV}(hs:PtrR U s p vP vB)(hP:FII vP W)(o:OkW p 0 W)(hk:ResI U K (norm p W [])):zA Tryz.prog 250 [.ptr s 0,.fz w a 0 []] U K:=by
 obtain⟨w1,a1,rP,rfl,hP⟩:=hP;exact zDR (c:=[]) hs.obj hP o rfl (λj=>by simp[at_]) rfl hk
theorem lmix1{a b:L3}(h:a.length=b.length):subm (-1) a b=lmix 1 a 1 b:=by
 rw[zGB];refine Qi (by rw[Zc (by omega),zM h]) λj hj=>?_;rw[zBV h,qY h];omega
theorem lmixk{k:Int}{a:L3}:subm (-k) (List.replicate a.length 0) a=lmix k a 0 a:=by
 rw[zGB];refine Qi (by rw[Zc (by simp),zM rfl];simp) λj hj=>?_;rw[zBV (by simp),qY rfl,ZF];simp
theorem zO4{k:Int}{a b:L3}(h:a.length=b.length):lmix k a 0 b=lmix k a 0 a:=by
 refine Qi (by rw[zM h,zM rfl]) λj hj=>?_;rw[qY h,qY rfl];omega
theorem zQv{k m A C:Int}{a b:L3}(h:a.length=b.length)(ha:∀j,-A<=k*at_ a j/\k*at_ a j<=A)(hb:∀j,-C<=m*at_ b j/\m*at_ b j<=C):bd (A+C) (lmix k a m b):=λj=>by
 rw[qY h]
 have:=ha j
 have:=hb j
 omega
theorem zGK(o:OkW p n W){c:L3}(hc:c.length=n):El p n (norm p W c):=⟨Zo o hc,QZ o hc⟩
theorem mul6{k x:Int}(hk:-1000000000<=k/\k<=1000000000)(hx:0<=x/\x<=6):-6000000000<=k*x/\k*x<=6000000000:=by
 obtain rfl|rfl|rfl|rfl|rfl|rfl|rfl:x=0\/x=1\/x=2\/x=3\/x=4\/x=5\/x=6:=by omega
 all_goals omega
theorem _root_.Go.Lie.El.at{a:L3}(h:El p n a)(hp:okp p)(j:Nat):0<=at_ a j/\at_ a j<=6:=by
 have:=h.2.at (by have:=hp.1;omega) j
 have:=hp.2
 omega
theorem _root_.Go.Lie.El.mul{a:L3}(h:El p n a)(hp:okp p){k:Int}(hk:-1000000000<=k/\k<=1000000000)(j:Nat):-6000000000<=k*at_ a j/\k*at_ a j<=6000000000:=mul6 hk (h.at hp j)
theorem _root_.Go.Lie.El.mulsm{a:L3}(h:El p n a)(hp:okp p){k:Int}(hk:-1000000000<=k/\k<=1000000000)(j:Nat):sm (k*at_ a j):=by have:=h.mul hp hk j;unfold sm;omega
theorem _root_.Go.Lie.El.mixbd{a b:L3}(ha:El p n a)(hb:El p n b)(hp:okp p){k m:Int}(hk:-1000000000<=k/\k<=1000000000)(hm:-1000000000<=m/\m<=1000000000):Go.Lie.bd big (lmix k a m b):=
 (zQv (ha.1.trans hb.1.symm) (λj=>ha.mul hp hk j) λj=>hb.mul hp hm j).mono (by decide)
theorem ZB{l l':Nat}{w w':Bool}{av bv:AV}{k m:Int}{a b:L3}(hR:IsR vP vB W B)(o:OkW p n W)(ha:El p n a)(hb:El p n b)(hl:l=a.length)(aX:l'=b.length)
  (jR:-1000000000<=k/\k<=1000000000) (x4:-1000000000<=m/\m<=1000000000)
  (hk:∀v,K (.fz true v n (pis (norm p W (lmix k a m b)))) U):zA Tryz.prog 178 [.agg [.int .i64 p,vP,vB],.int .i64 k,.fz w av l (pis a),.int .i64 m,.fz w' bv l' (pis b)] U K:=
 zNU hR o ha.1 hb.1 (λj=>⟨ha.mulsm o.pr jR j,hb.mulsm o.pr x4 j⟩) (ha.mixbd hb o.pr jR x4) hl aX hk
theorem zB8{l l':Nat}{w w':Bool}{av bv:AV}{a b:L3}(hs:PtrR U s p vP vB)(hP:FII vP W)(o:OkW p n W)(ha:El p n a)(hb:El p n b)(hl:l=a.length)(aX:l'=b.length)
  (hk:ResI U K (norm p W (lmix 1 a 1 b))):zA Tryz.prog 161 [.ptr s 0,.fz w av l (pis a),.fz w' bv l' (pis b)] U K:=by
 subst hl;subst aX;have aW:=o.le;have cM:=ha.1;have kH:=hb.1;refine zA.gh ?_;refine zB mix Tryz.func161 ?_
 conv=>arg 2;cbv
 refine zC rfl ?_;simp only[Z3,seval,-ae];refine QO rfl (by omega) ⟨λh0=>?_,λcap bQ=>?_⟩
 .simp only[Z3,seval,-ae];refine zCc ?_;subst h0;obtain rfl:n=0:=by simpa using cM.symm
  obtain rfl:b=[]:=List.eq_nil_of_length_eq_zero kH;simp only[Z3,seval,-ae];refine zLR hs hP o ⟨λh0=>?_,λcap hc=>?_⟩
  .simp only[Z3,seval,-ae];exact Gh.ret (hk.1 h0)
  .simp only[Z3,seval,-ae];exact Gh.ret (hk.2 cap hc)
 .simp only[Z3,seval,-ae];have iU:a.length=b.length:=cM.trans kH.symm;refine zAW rfl (by simp only[Z3,seval,-ae]) (by omega) (by omega) (λi h1 h2=>?_) ?_
  .have b1:=ha.at o.pr i;have b2:=hb.at o.pr i;rw[at_eq h1]at b1;rw[at_eq h2]at b2;unfold sm;omega
  .simp only[Z3,seval,-ae];rw[lmix1 iU];exact(zCs hs hP o (by rw[zM iU,cM]) (ha.mixbd hb o.pr (by decide) (by decide)) (zM iU).symm bQ.ok hk).mono λv σ' hg=>by simp only[Z3,seval,-ae];exact hg
theorem zCB{l:Nat}{w:Bool}{av:AV}{k:Int}{a:L3}(hs:PtrR U s p vP vB)(hP:FII vP W)(o:OkW p n W)(ha:El p n a)(hl:l=a.length)(jR:-1000000000<=k/\k<=1000000000)
  (hk:ResI U K (norm p W (lmix k a 0 a))):zA Tryz.prog 191 [.ptr s 0,.int .i64 k,.fz w av l (pis a)] U K:=by
 subst hl;have aW:=o.le;have cM:=ha.1;refine zA.gh ?_;refine zB mix Tryz.func191 ?_
 conv=>arg 2;cbv
 refine zC rfl ?_;have bN:IntKind.i64.wrap (0-k)=-k:=by rw[wrap64 (by omega) (by omega)];omega
 simp only[Z3,seval,-ae,List.length_replicate,ZV,mk8 (n:=a.length) (by omega),mkL (n:=a.length) (by omega),bN];refine zAH (xs:=List.replicate a.length 0) (by simp) rfl (by simp only[Z3,seval,-ae]) (by simp) (by simp;omega) (λi h1 h2=>?_) ?_
 .have b1:=ha.mul o.pr (k:=-k) (by omega) i;rw[at_eq h2]at b1;rw[List.getElem_replicate];unfold sm;omega
 .simp only[Z3,seval,-ae];rw[lmixk];exact(zCs hs hP o (by rw[zM rfl,cM]) (ha.mixbd ha o.pr jR (by decide)) (zM rfl).symm (by simp[capOK]) hk).mono λv σ' hg=>by simp only[Z3,seval,-ae];exact hg
theorem zBE(hR:IsR vP vB W B)(hW:W.length=n)(hn:n<=1048576)(hk:∀v,K (.fz true v n (pis (List.replicate n 0))) U):zA Tryz.prog 177 [.agg [.int .i64 p,vP,vB]] U K:=by
 have h2:=hR.B.one;obtain⟨⟨w1,a1,rP,rfl,hP⟩,hB⟩:=hR;subst hW;refine zA.gh ?_;refine zB mix Tryz.func177 ?_
 conv=>arg 2;cbv
 refine zC rfl ?_;simp only[Z3,seval,-ae,h2,ZV,mk8 (n:=W.length) (by omega),mkL (n:=W.length) (by omega)];exact Gh.finF (s:=U.next+1) ((zD U _).new _) (by simp only[Z3,seval,-ae]) (by omega) (zO _ _) (by simp[capOK]) λ_=>hk _
theorem zER(hR:IsR vP vB W B)(hW:W.length=n)(hn:n<=1048576)(hk:∀cap,full 1 cap n->K (.sl U.next 0 n cap) (U.new (pis (List.replicate n 0)))):zA Tryz.prog 177 [.agg [.int .i64 p,vP,vB]] U K:=by
 have h2:=hR.B.one;obtain⟨⟨w1,a1,rP,rfl,hP⟩,hB⟩:=hR;subst hW;refine zA.gh ?_;refine zB mix Tryz.func177 ?_
 conv=>arg 2;cbv
 refine zC rfl ?_;simp only[Z3,seval,-ae,h2,ZV,mk8 (n:=W.length) (by omega),mkL (n:=W.length) (by omega)];exact Gh.finS (s:=U.next+1) ((zD U _).new _) (by simp only[Z3,seval,-ae]) (by omega) (zO _ _) (hk _ (.inr rfl))
theorem Zf{k:Nat}(hR:IsR vP vB W B)(hW:W.length=n)(hn:n<=1048576)(cw:k<n)(hk:∀v,K (.fz true v n (pis (unitL n k))) U):zA Tryz.prog 179 [.agg [.int .i64 p,vP,vB],.int .i64 k] U K:=by
 have h1:=hR.P.one;have h2:=hR.B.one;refine zA.gh ?_;refine zB mix Tryz.func179 ?_
 conv=>arg 2;cbv
 refine zC rfl ?_;simp only[Z3,seval,-ae,h1,h2];refine zER hR hW hn λcap hc=>?_;simp only[Z3,seval,-ae,cw,zJ,List.length_replicate,Nat.succ_le_of_lt cw];rw[qM (by simpa using cw)];exact Gh.finF (s:=U.next+1) ((zD U _).new _) (by simp only[Z3,seval,-ae];rfl) (by omega) (zO _ _) hc.ok λ_=>hk _
def coef(a b:L3)(i j:Nat):Int:=at_ a i*at_ b j-at_ a j*at_ b i
def bk(row:L4)(a b:L3)(i:Nat):Nat->L3->L3
 |0,acc=>acc
 |k+1,acc=>addm (coef a b i (i+1+k)) (bk row a b i k acc) (row.getD k [])
def bi(B:L5)(a b:L3)(n:Nat):Nat->L3
 |0=>List.replicate n 0
 |i+1=>bk (B.getD i []) a b i (n-1-i) (bi B a b n i)
def bsum(B:L5)(a b:L3)(n:Nat):L3:=bi B a b n n
structure OkB(p:Int)(n:Nat)(B:L5):Prop where
 len:B.length=n
 row:∀(i:Nat) (h:i<B.length),B[i].length=n-1-i
 ent:∀(i:Nat) (h:i<B.length) (k:Nat) (hk:k<B[i].length),El p n B[i][k]/\∀j,j<=i+k+1->at_ B[i][k] j=0
theorem zX{α:Type}{B:List (List α)}{i:Nat}(h:i<B.length):B.getD i []=B[i]:=by simp[List.getD_eq_getElem?_getD,List.getElem?_eq_getElem h]
theorem OkB.get(q:OkB p n B){i k:Nat}(hi:i<n)(hk:k<n-1-i):El p n ((B.getD i []).getD k [])/\∀j,j<=i+k+1->at_ ((B.getD i []).getD k []) j=0:=by
 have h1:i<B.length:=by rw[q.len];exact hi
 have h2:k<B[i].length:=by rw[q.row i h1];exact hk
 rw[zX h1,zX h2];exact q.ent i h1 k h2
theorem zAE(q:OkB p n B){a b acc:L3}{i:Nat}(hi:i<n)(fA:acc.length=n):∀{k:Nat},k<=n-1-i->(bk (B.getD i []) a b i k acc).length=n
 |0,_=>fA
 |k+1,hk=>by
  have ih:=zAE q hi fA (k:=k) (a:=a) (b:=b) (by omega);rw[bk,Zc (by rw[ih,(q.get hi (by omega:k<n-1-i)).1.1];omega),ih]
theorem zAF(q:OkB p n B){a b:L3}:∀{i:Nat},i<=n->(bi B a b n i).length=n
 |0,_=>by simp[bi]
 |i+1,hi=>zAE q (by omega) (zAF q (by omega)) (vM _)
theorem zKh{a b:L3}(hp:okp p)(ha:El p n a)(hb:El p n b)(i j:Nat):-36<=coef a b i j/\coef a b i j<=36:=by
 have m:∀{x y:Int},0<=x/\x<=6->0<=y/\y<=6->0<=x*y/\x*y<=36:=λ{x y} hx hy=>by
  obtain rfl|rfl|rfl|rfl|rfl|rfl|rfl:x=0\/x=1\/x=2\/x=3\/x=4\/x=5\/x=6:=by omega
  all_goals omega
 have h1:=m (ha.at hp i) (hb.at hp j);have h2:=m (ha.at hp j) (hb.at hp i);unfold coef;omega
theorem zIe{a b c:L3}(hp:okp p)(ha:El p n a)(hb:El p n b)(hc:El p n c)(i j t:Nat):-216<=coef a b i j*at_ c t/\coef a b i j*at_ c t<=216:=by
 have h1:=zKh hp ha hb i j;have h2:=hc.at hp t;obtain e|e|e|e|e|e|e:at_ c t=0\/at_ c t=1\/at_ c t=2\/at_ c t=3\/at_ c t=4\/at_ c t=5\/at_ c t=6:=by omega
 all_goals rw[e];omega
theorem bk_at(q:OkB p n B){a b acc:L3}{i:Nat}(hi:i<n)(fA:acc.length=n)(t:Nat):∀{k:Nat},k<=n-1-i->
  at_ (bk (B.getD i []) a b i k acc) t=at_ acc t+sumN k λj=>coef a b i (i+1+j)*at_ ((B.getD i []).getD j []) t
 |0,_=>by simp[bk,sumN]
 |k+1,hk=>by
  have h1:=zAE q hi fA (k:=k) (a:=a) (b:=b) (by omega);rw[bk,zBV (by rw[h1,(q.get hi (by omega:k<n-1-i)).1.1]),bk_at q hi fA t (by omega),sumN];omega
theorem bi_at(q:OkB p n B){a b:L3}(t:Nat):∀{i:Nat},i<=n->
  at_ (bi B a b n i) t=sumN i λi=>sumN (n-1-i) λj=>coef a b i (i+1+j)*at_ ((B.getD i []).getD j []) t
 |0,_=>by rw[bi,ZF];rfl
 |i+1,hi=>by rw[bi,bk_at q (by omega) (zAF q (by omega)) t (vM _),bi_at q t (by omega)];rfl
theorem bk_bd(q:OkB p n B){a b acc:L3}(hp:okp p)(ha:El p n a)(hb:El p n b){M:Int}{i:Nat}(hi:i<n)(fA:acc.length=n)(hM:bd M acc):∀{k:Nat},k<=n-1-i->bd (M+216*k) (bk (B.getD i []) a b i k acc)
 |0,_=>by simpa [bk]using hM
 |k+1,hk=>λt=>by
  have h1:=zAE q hi fA (k:=k) (a:=a) (b:=b) (by omega);have h2:=bk_bd q hp ha hb hi fA hM (k:=k) (by omega) t;have h3:=zIe hp ha hb (q.get hi (by omega:k<n-1-i)).1 i (i+1+k) t;rw[bk,zBV (by rw[h1,(q.get hi (by omega:k<n-1-i)).1.1])];omega
theorem bi_bd(q:OkB p n B){a b:L3}(hp:okp p)(hn:n<=6)(ha:El p n a)(hb:El p n b):∀{i:Nat},i<=n->bd (1296*i) (bi B a b n i)
 |0,_=>λt=>by rw[bi,ZF];omega
 |i+1,hi=>(bk_bd q hp ha hb (by omega) (zAF q (by omega)) (bi_bd q hp hn ha hb (by omega)) (vM _)).mono (by omega)
theorem ZX(q:OkB p n B){a b:L3}:(bsum B a b n).length=n:=zAF q (vM _)
theorem zRF(q:OkB p n B){a b:L3}(hp:okp p)(hn:n<=6)(ha:El p n a)(hb:El p n b):bd big (bsum B a b n):=(bi_bd q hp hn ha hb (vM _)).mono (by have:big=1125899906842624:=rfl;omega)
theorem zN9(k:Int)(xs ys:L3):subm (-k) xs ys=addm k xs ys:=by rw[zGB,Int.neg_neg]
end Go.Proofs
namespace Go.Proofs
open Go.Ab Go.Lie
variable{U:PHeap}{K:PV->PHeap->Prop}{p:Int}{n:Nat}{W:L4}{B:L5}{vP vB:PV}{s:Nat}
theorem mul36{x y:Int}(hx:0<=x/\x<=6)(hy:0<=y/\y<=6):0<=x*y/\x*y<=36:=by
 obtain rfl|rfl|rfl|rfl|rfl|rfl|rfl:x=0\/x=1\/x=2\/x=3\/x=4\/x=5\/x=6:=by omega
 all_goals omega
theorem zFs{a b:L3}(hp:okp p)(ha:El p n a)(hb:El p n b){i j:Nat}(hi:i<n)(hj:j<n)(h1:i<a.length)(h2:j<a.length)(h3:i<b.length)(h4:j<b.length):
  sm (a[j] * b[i])/\sm (a[i] * b[j])/\sm (a[j] * b[i] - a[i] * b[j])/\sm (a[i] * b[j] - a[j] * b[i])/\a[j] * b[i] - a[i] * b[j]=-(coef a b i j)/\a[i] * b[j] - a[j] * b[i]=coef a b i j:=by
 have b1:=mul36 (ha.at hp j) (hb.at hp i);have b2:=mul36 (ha.at hp i) (hb.at hp j);unfold coef;rw[at_eq h2,at_eq h3]at b1;rw[at_eq h1,at_eq h4]at b2;rw[at_eq h1,at_eq h4,at_eq h2,at_eq h3];unfold sm;omega
theorem zLu{l l':Nat}{w w':Bool}{av bv:AV}{a b:L3}(hs:PtrR U s p vP vB)(hR:IsR vP vB W B)(o:OkW p n W)(q:OkB p n B)(ha:El p n a)(hb:El p n b)(hl:l=a.length)(aX:l'=b.length)
  (hk:ResI U K (norm p W (bsum B a b n))):zA Tryz.prog 162 [.ptr s 0,.fz w av l (pis a),.fz w' bv l' (pis b)] U K:=by
 subst hl;subst aX;have aW:=o.le;have cM:=ha.1;have kH:=hb.1;have eV:=o.len;have ny:=q.len;have mg:=hR.P;obtain⟨⟨w1,a1,rP,rfl,hP⟩,⟨w3,a3,rB,rfl,hB⟩⟩:=hR;refine zA.gh ?_;have ai:¬s=U.next:=Nat.ne_of_lt hs.lt;refine zP mix Tryz.func162 cf162 rfl ?_;dsimp only[if162,eI,qD,eD,mI0,kI0,lI0,fI0,xI0,bI0,cI0,sI0,pI0,C2,mD0,lD0,xD0,zI0,R0,S0];simp only[Z3,seval,-ae,zG hs.obj,ai,List.length_replicate,ZV,mk8 (n:=W.length) (by omega),mkL (n:=W.length) (by omega)];refine zF (λm vs h'=>∃i:Nat,i<=n/\m=n-i/\vs=[.ptr s 0,.fz w av a.length (pis a),.fz w' bv b.length (pis b),.sl U.next 0 W.length (.known W.length),.fz w3 a3 B.length rB,.int .i64 B.length,.int .i64 i]/\h'=U.new (pis (bi B a b n i))) n ?_ ?_
 .exact⟨0,by omega,by omega,rfl,by rw[bi,eV]⟩
 .rintro m vs h' ⟨i,hi,rfl,rfl,rfl⟩
  simp only[Z3,seval,-ae];refine iteI (λag=>?_) λaF=>?_
  .obtain⟨w4,a4,rs,hr,dp⟩:=hB.rowL ag;have aQ:=q.row i ag;simp only[Z3,seval,-ae,ag,hr];have lE:=zAF q (a:=a) (b:=b) hi;have wC:=bi_bd q o.pr aW ha hb hi;have fK:=zX ag;refine zF (λm vs h'=>∃k:Nat,k<=n-1-i/\m=n-1-i-k/\vs=[.ptr s 0,.fz w av a.length (pis a),.fz w' bv b.length (pis b),.sl U.next 0 W.length (.known W.length),.int .i64 i,.fz w3 a3 B.length rB,.int .i64 B.length,.int .i64 i,
    .fz w4 a4 B[i].length rs,.int .i64 B[i].length,.int .i64 k]/\h'=U.new (pis (bk (B.getD i []) a b i k (bi B a b n i)))) (n-1-i) ?_ ?_
   .exact⟨0,by omega,by omega,rfl,rfl⟩
   .rintro m vs h' ⟨k,cL,rfl,rfl,rfl⟩
    simp only[Z3,seval,-ae];refine iteI (λan=>?_) λaF=>?_
    .obtain⟨w5,a5,cb⟩:=dp.rowI an;have hj:i+(1+k)<a.length:=by omega
     have fJ:i+(1+k)<b.length:=by omega
     have na:i<a.length:=by omega
     have ig:i<b.length:=by omega
     obtain⟨f1,f2,f3,_,f4,_⟩:=zFs o.pr ha hb (i:=i) (j:=i+(1+k)) (by omega) (by omega) na hj ig fJ;have gM:=(q.ent i ag k an).1;have fA:=zAE q (a:=a) (b:=b) (by omega:i<n) lE (k:=k) (by omega);have rM:=bk_bd q o.pr ha hb (by omega:i<n) lE wC (k:=k) (by omega);simp only[Z3,seval,-ae,an,cb,hj,fJ,na,ig,gi hj,gi fJ,gi na,gi ig,zL,wrapS (n:=n) (i:=i) (by omega) (by omega),wrapA (a:=i+1) (b:=k) (by omega),f1.w,f2.w,f3.w];refine zAH (xs:=bk (B.getD i []) a b i k (bi B a b n i)) (by omega) rfl (by simp only[Z3,seval,-ae]) (by rw[gM.1];omega) (by omega) (λt h1 h2=>?_) ?_
     .have c1:=zIe o.pr ha hb gM i (i+(1+k)) t;have c2:=rM t;rw[at_eq h2]at c1;rw[at_eq h1]at c2;rw[f4,Int.neg_mul];unfold sm;omega
     .simp only[Z3,seval,-ae,wrapS an (by omega:B[i].length<=4611686018427387904)];refine⟨_,by omega,k+1,by omega,rfl,rfl,?_⟩;rw[f4,zN9,bk,zX (B:=B) ag,zX (B:=B[i]) an,Nat.add_assoc]
    .have cw:k=n-1-i:=by omega
     subst cw;simp only[Z3,seval,-ae,wrapS ag (by omega:B.length<=4611686018427387904)];exact⟨_,by omega,i+1,by omega,rfl,rfl,rfl⟩
  .have aJ:i=n:=by omega
   subst aJ;exact(zCs hs mg o (ZX q) (zRF q o.pr aW ha hb) (by rw[ZX q];exact eV) (by simp[capOK]) hk).mono λv σ' hg=>by simp only[Z3,seval,-ae];exact hg
theorem zAJ(hp:okp p):El p n (List.replicate n 0):=⟨by simp,λx hx=>by rw[List.eq_of_mem_replicate hx];have:=hp.1;omega⟩
theorem qx{l l':Nat}{w w':Bool}{av bv:AV}{a b:L3}(hR:IsR vP vB W B)(o:OkW p n W)(q:OkB p n B)(ha:El p n a)(hb:El p n b)(hl:l=a.length)(aX:l'=b.length)
  (hk:∀v,K (.fz true v n (pis (norm p W (bsum B a b n)))) U):zA Tryz.prog 176 [.agg [.int .i64 p,vP,vB],.fz w av l (pis a),.fz w' bv l' (pis b)] U K:=by
 subst hl;subst aX;have aW:=o.le;have cM:=ha.1;have kH:=hb.1;have eV:=o.len;have ny:=q.len;have aH:=hR;obtain⟨⟨w1,a1,rP,rfl,hP⟩,⟨w3,a3,rB,rfl,hB⟩⟩:=hR;refine zA.gh ?_;refine zP mix Tryz.func176 cf176 rfl ?_;dsimp only[if176,eI,qD,eD,mI0,kI0,LI0,bI0,cI0,sI0,C1,mD0,lD0,fD0,xD0,I0,zI0,R0,S0];simp only[Z3,seval,-ae];refine zBE aH eV (by omega) λv0=>?_;simp only[Z3,seval,-ae];refine zF (λm vs h'=>∃i:Nat,i<=n/\m=n-i/\∃v out,vs=[.fz w av a.length (pis a),.fz w' bv b.length (pis b),.ptr U.next 0,.fz true v n (pis out),.int .i64 i]/\h'=U.new [.int .i64 p,.fz w1 a1 W.length rP,.fz w3 a3 B.length rB]/\
  El p n out/\Eqv p n W (at_ out) (at_ (bi B a b n i))) n ?_ ?_
 .exact⟨0,by omega,by omega,v0,_,rfl,rfl,zAJ o.pr,Eqv.refl _⟩
 .rintro m vs h' ⟨i,hi,rfl,v,out,rfl,rfl,eS,jX⟩
  simp only[Z3,seval,-ae];refine iteI (λag=>?_) λaF=>?_
  .have eA:i<B.length:=by omega
   obtain⟨w4,a4,rs,hr,dp⟩:=hB.rowL eA;have aQ:=q.row i eA;have lE:=zAF q (a:=a) (b:=b) hi;simp only[Z3,seval,-ae,wrapS (n:=n) (i:=i) (by omega) (by omega)];refine zF (λm vs h'=>∃k:Nat,k<=n-1-i/\m=n-1-i-k/\∃v out,vs=[.fz w av a.length (pis a),.fz w' bv b.length (pis b),.ptr U.next 0,.fz true v n (pis out),.int .i64 i,.int .i64 ((i+(1+k):Nat):Int)]/\h'=U.new [.int .i64 p,.fz w1 a1 W.length rP,.fz w3 a3 B.length rB]/\
    El p n out/\Eqv p n W (at_ out) (at_ (bk (B.getD i []) a b i k (bi B a b n i)))) (n-1-i) ?_ ?_
   .exact⟨0,by omega,by omega,v,out,rfl,rfl,eS,jX⟩
   .rintro m vs h' ⟨k,cL,rfl,v,out,rfl,rfl,eS,jX⟩
    simp only[Z3,seval,-ae];refine iteI (λhj=>?_) λaF=>?_
    .have sY:k<B[i].length:=by omega
     obtain⟨w5,a5,cb⟩:=dp.rowI sY;have fJ:i+(1+k)<b.length:=by omega
     have na:i<a.length:=by omega
     have ig:i<b.length:=by omega
     obtain⟨f1,f2,_,f3,_,f4⟩:=zFs o.pr ha hb (i:=i) (j:=i+(1+k)) (by omega) (by omega) na hj ig fJ;have gM:=(q.ent i eA k sY).1;have fP:=zKh o.pr ha hb i (i+(1+k));have e1:IntKind.i64.wrap (((i+(1+k):Nat):Int)-(i:Int))=((1+k:Nat):Int):=by rw[wrap64 (by omega) (by omega)];omega
     have e2:IntKind.i64.wrap (((1+k:Nat):Int)-1)=(k:Int):=by rw[wrap64 (by omega) (by omega)];omega
     simp only[Z3,seval,-ae,eA,hr,sY,cb,hj,fJ,na,ig,gi hj,gi fJ,gi na,gi ig,zL,f1.w,f2.w,f3.w,e1,e2];refine ZB aH o eS gM eS.1.symm rfl (by decide) (by rw[f4];omega) λv'=>?_;have e3:IntKind.i64.wrap (((i+(1+k):Nat):Int)+1)=((i+(1+(k+1)):Nat):Int):=by rw[wrap64 (by omega) (by omega)];omega
     simp only[Z3,seval,-ae,e3];refine⟨_,by omega,k+1,by omega,rfl,v',_,rfl,zGK o (by rw[zM (eS.1.trans gM.1.symm),eS.1]),?_⟩;refine(ZJ o (by rw[zM (eS.1.trans gM.1.symm),eS.1])).trans ?_;have fA:=zAE q (a:=a) (b:=b) (by omega:i<n) lE (k:=k) (by omega);have hg:(B.getD i []).getD k []=B[i][k]:=by rw[zX (B:=B) eA,zX (B:=B[i]) sY]
     have h1:=jX.add (Eqv.refl (p:=p) (n:=n) (W:=W) (λj=>coef a b i (i+(1+k))*at_ B[i][k] j));refine(Eqv.of_eq λj=>?_).trans (h1.trans (Eqv.of_eq λj=>?_))
     .rw[qY (eS.1.trans gM.1.symm),f4];omega
     .rw[bk,zBV (by rw[fA,hg,gM.1]),hg,Nat.add_assoc]
    .have cw:k=n-1-i:=by omega
     subst cw;simp only[Z3,seval,-ae,wrapS ag (by omega:a.length<=4611686018427387904)];exact⟨_,by omega,i+1,by omega,rfl,v,out,rfl,eS,jX⟩
  .have aJ:i=n:=by omega
   subst aJ
   have:out=norm p W (bsum B a b i):=ZZ o eS.1 (Zo o (ZX q)) eS.2 (QZ o (ZX q)) (jX.trans (ZJ o (ZX q)).symm)
   rw[this];exact Gh.fin0 (zD U _) trivial (hk v)
end Go.Proofs
namespace Go.Proofs
open Go.Ab Go.Lie
variable{U:PHeap}{K:PV->PHeap->Prop}{p:Int}{n:Nat}{W:L4}{B:L5}{vP vB:PV}{s:Nat}
structure SzR(W:L4)(B:L5):Prop where
 Wl:W.length<=1048576
 w:∀r∈W,r.length<=1048576
 Bl:B.length<=1048576
 b:∀q∈B,q.length<=1048576
 c:∀q∈B,∀r∈q,r.length<=1048576
def entOK(p:Int)(n k:Nat)(v:L3):Prop:=isVec v p n/\isZ (v.take k)
def rowOK(p:Int)(n:Nat)(W:L4)(B:L5)(i:Nat):Prop:=
 entOK p n (i+1) (W.getD i [])/\(B.getD i []).length=n-1-i/\∀k,k<n-1-i->entOK p n (i+k+2) ((B.getD i []).getD k [])
def Z5(p:Int)(W:L4)(B:L5):Prop:=
 isP p/\W.length<=6/\B.length=W.length/\ipow p W.length<=729/\∀i,i<W.length->rowOK p W.length W B i
theorem entOK.el{k:Nat}{v:L3}(h:entOK p n k v):El p n v/\∀j,j<k->at_ v j=0:=by
 refine⟨⟨by have:=h.1.1;omega,h.1.2⟩,λj hj=>?_⟩;rcases Nat.lt_or_ge j v.length with x|x
 .rw[at_eq x];exact h.2 _ (by rw[List.mem_take_iff_getElem];exact⟨j,by omega,rfl⟩)
 .exact at_ge x
theorem Z5.w(h:Z5 p W B):OkW p W.length W:=by
 obtain⟨h1,h2,h3,h4,h5⟩:=h;refine⟨h1.bd,h2,rfl,λi hi=>?_⟩;obtain⟨a,b⟩:=(h5 i hi).1.el;rw[ZE hi]at a b;exact⟨a.1,a.2,λj hj=>b j (by omega)⟩
theorem Z5.b(h:Z5 p W B):OkB p W.length B:=by
 obtain⟨h1,h2,h3,h4,h5⟩:=h;have hr:∀i (h:i<B.length),B[i].length=W.length-1-i:=λi hi=>by have:=(h5 i (by omega)).2.1;rwa[zX hi]at this
 refine⟨h3,hr,λi hi k hk=>?_⟩;obtain⟨a,b⟩:=((h5 i (by omega)).2.2 k (by rw[<-hr i hi];exact hk)).el;rw[zX hi,zX hk]at a b;exact⟨a,λj hj=>b j (by omega)⟩
theorem zAP{l:Nat}{w:Bool}{a:AV}{xs:L3}(hs:PtrR U s p vP vB)(hP:FII vP W)(hl:l=xs.length)(hb:xs.length<=1048576)(hp:isP p)(hk:K (.bool (decide (isVec xs p W.length))) U):
  zA Tryz.prog 116 [.ptr s 0,.fz w a l (pis xs)] U K:=by
 have jb:=hp.bd;obtain⟨w1,a1,rP,rfl,hP⟩:=hP;refine zB mix Tryz.func116 ?_
 conv=>arg 2;cbv
 refine zC rfl ?_;simp only[Z3,seval,-ae,zG hs.obj];refine zJx hl (by omega) (by omega) (by omega) ?_;simp only[Z3,seval,-ae];exact hk
theorem zHI(hR:IsR vP vB W B)(sz:SzR W B)(hk:∀t:Bool,(t=true↔Z5 p W B)->K (.bool t) U):zA Tryz.prog 229 [.agg [.int .i64 p,vP,vB]] U K:=by
 have yq:=hR.P;have DB:=hR.B;obtain⟨⟨w1,a1,rP,rfl,hP⟩,⟨w3,a3,rB,rfl,hB⟩⟩:=hR;refine zA.gh ?_;have fin:∀{t:Bool} {σ':PHeap},(t=true↔Z5 p W B)->Keep U σ'->Gh U K (.bool t) σ':=λh k=>Gh.fin0 k trivial (hk _ h);have no:∀{σ':PHeap},¬Z5 p W B->Keep U σ'->Gh U K (.bool false) σ':=λh k=>fin ⟨λx=>(by cases x),λx=>absurd x h⟩ k;have aq:=zD U [.int .i64 p,.fz w1 a1 W.length rP,.fz w3 a3 B.length rB];have iK:PtrR (U.new [.int .i64 p,.fz w1 a1 W.length rP,.fz w3 a3 B.length rB]) U.next p (.fz w1 a1 W.length rP) (.fz w3 a3 B.length rB):=⟨by simp only[Z3,seval,-ae],by simp only[Z3,seval,-ae]⟩
 refine zB mix Tryz.func229 ?_
 conv=>arg 2;cbv
 refine zC rfl ?_;by_cases h6:W.length<=6
 .have iC:¬(6:Int)<(W.length:Int):=by omega
  by_cases ny:B.length=W.length
  .have iB:(B.length:Int)=(W.length:Int):=by omega
   simp only[Z3,seval,-ae,iC,iB];refine zB9 ?_;by_cases hp:isP p
   .simp only[Z3,seval,-ae,hp];refine zB4 hp.bd h6 ?_;by_cases ho:ipow p W.length<=729
    .have cn:¬(729:Int)<ipow p W.length:=by omega
     simp only[Z3,seval,-ae,cn];refine zF (λm vs h'=>∃i:Nat,i<=W.length/\m=W.length-i/\vs=[.ptr U.next 0,.int .i64 W.length,.fz w1 a1 W.length rP,.int .i64 W.length,.int .i64 i]/\h'=U.new [.int .i64 p,.fz w1 a1 W.length rP,.fz w3 a3 B.length rB]/\∀j,j<i->rowOK p W.length W B j) W.length ?_ ?_
     .exact⟨0,by omega,by omega,rfl,rfl,λj hj=>by omega⟩
     .rintro m vs h' ⟨i,hi,rfl,rfl,rfl,ah⟩
      simp only[Z3,seval,-ae];refine iteI (λag=>?_) λaF=>?_
      .obtain⟨w4,a4,hr⟩:=hP.rowI ag;have eA:i<B.length:=by omega
       obtain⟨w5,a5,rs,cu,dp⟩:=hB.rowL eA;have sJ:=sz.w _ (List.getElem_mem ag);have kH:=sz.b _ (List.getElem_mem eA);have bad:(isVec W[i] p W.length->isZ (W[i].take (i+1))->B[i].length=W.length-1-i->(∀k (h:k<B[i].length),entOK p W.length (i+k+2) B[i][k])->False)->¬Z5 p W B:=λhb fV=>by
        obtain⟨⟨q1,q2⟩,q3,q4⟩:=fV.2.2.2.2 i ag;rw[ZE ag]at q1 q2;rw[zX eA]at q3;refine hb q1 q2 q3 λk h=>?_
        have:=q4 k (by omega)
        rwa[zX eA,zX h]at this
       simp only[Z3,seval,-ae,ag,hr];refine zAP iK yq rfl sJ hp ?_;by_cases hv:isVec W[i] p W.length
       .have hle:((i:Int)+1<=(W[i].length:Int)):=by have:=hv.1;omega
        have sW:(0:Int)<=((i+1:Nat):Int):=by omega
        have jP:((i+1:Nat):Int)<=(W[i].length:Int):=by omega
        simp only[Z3,seval,-ae,hv,wrapS ag (by omega:W.length<=4611686018427387904),jP,zEi,Nat.sub_zero];refine zAv (by simp;omega) (by simp;omega) ?_;by_cases hz:isZ (W[i].take (i+1))
        .have e1:IntKind.i64.wrap ((W.length:Int)-1)=(W.length:Int)-1:=wrap64 (by omega) (by omega);have e2:IntKind.i64.wrap ((W.length:Int)-1-(i:Int))=(W.length:Int)-1-(i:Int):=wrap64 (by omega) (by omega);by_cases hlen:B[i].length=W.length-1-i
         .have cG:(B[i].length:Int)=(W.length:Int)-1-(i:Int):=by omega
          simp only[Z3,seval,-ae,hz,ag,eA,cu,e1,e2,eq_true cG];refine zF (λm vs h'=>∃k:Nat,k<=B[i].length/\m=B[i].length-k/\vs=[.ptr U.next 0,.int .i64 W.length,.int .i64 i,.fz w1 a1 W.length rP,.int .i64 W.length,.int .i64 i,.fz w5 a5 B[i].length rs,.int .i64 B[i].length,.int .i64 k]/\
           h'=U.new [.int .i64 p,.fz w1 a1 W.length rP,.fz w3 a3 B.length rB]/\∀j (h:j<B[i].length),j<k->entOK p W.length (i+j+2) B[i][j]) B[i].length ?_ ?_
          .exact⟨0,by omega,by omega,rfl,rfl,λj h hj=>by omega⟩
          .rintro m vs h' ⟨k,cL,rfl,rfl,rfl,bc⟩
           simp only[Z3,seval,-ae];refine iteI (λan=>?_) λaF=>?_
           .obtain⟨w6,a6,cb⟩:=dp.rowI an;have eB:=sz.c _ (List.getElem_mem eA) _ (List.getElem_mem an);simp only[Z3,seval,-ae,an,cb];refine zAP iK yq rfl eB hp ?_;by_cases bX:isVec B[i][k] p W.length
            .have e3:IntKind.i64.wrap ((i:Int)+(k:Int))=((i+k:Nat):Int):=wrapA (by omega);have e4:IntKind.i64.wrap (((i+k:Nat):Int)+2)=((i+k+2:Nat):Int):=wrap64 (by omega) (by omega);have m5:((i+(k+2):Nat):Int)<=(B[i][k].length:Int):=by have:=bX.1;omega
             simp only[Z3,seval,-ae,bX,e3,e4,m5,zEi,Nat.sub_zero];refine zAv (by simp;omega) (by simp;omega) ?_;by_cases cK:isZ (B[i][k].take (i+(k+2)))
             .simp only[Z3,seval,-ae,cK,wrapS an (by omega:B[i].length<=4611686018427387904)];refine⟨_,by omega,k+1,by omega,rfl,rfl,λj h hj=>?_⟩;by_cases e:j=k
              .subst e;exact⟨bX,cK⟩
              .exact bc j h (by omega)
             .simp only[Z3,seval,-ae,cK];exact no (bad λ_ _ _ q=>cK (q k an).2) aq
            .simp only[Z3,seval,-ae,bX];exact no (bad λ_ _ _ q=>bX (q k an).1) aq
           .simp only[Z3,seval,-ae,wrapS ag (by omega:W.length<=4611686018427387904)];refine⟨_,by omega,i+1,by omega,rfl,rfl,λj hj=>?_⟩;by_cases e:j=i
            .subst e;refine⟨by rw[ZE ag];exact⟨hv,hz⟩,by rw[zX eA];exact hlen,λt ht=>?_⟩;rw[zX eA,zX (by omega:t<B[j].length)];exact bc t (by omega) (by omega)
            .exact ah j (by omega)
         .have cG:¬(B[i].length:Int)=(W.length:Int)-1-(i:Int):=by omega
          simp only[Z3,seval,-ae,hz,ag,eA,cu,e1,e2,cG];exact no (bad λ_ _ q _=>hlen q) aq
        .simp only[Z3,seval,-ae,hz];exact no (bad λ_ q _ _=>hz q) aq
       .simp only[Z3,seval,-ae,hv];exact no (bad λq _ _ _=>hv q) aq
      .exact fin ⟨λ_=>⟨hp,h6,ny,ho,λj hj=>ah j (by omega)⟩,λ_=>rfl⟩ aq
    .have cn:(729:Int)<ipow p W.length:=by omega
     simp only[Z3,seval,-ae,cn];exact no (λh=>ho h.2.2.2.1) aq
   .simp only[Z3,seval,-ae,hp];exact no (λh=>hp h.1) aq
  .have iB:¬(B.length:Int)=(W.length:Int):=by omega
   simp only[Z3,seval,-ae,iC,iB];exact no (λh=>ny h.2.2.1) aq
 .have iC:(6:Int)<(W.length:Int):=by omega
  simp only[Z3,seval,-ae,iC];exact no (λh=>h6 h.2.1) aq
end Go.Proofs
namespace Go.Proofs
open Go.Ab Go.Lie
variable{U:PHeap}{K:PV->PHeap->Prop}{p:Int}{W:L4}{B:L5}{vP vB:PV}
theorem zJn(hR:IsR vP vB W B)(sz:SzR W B)(hk:∀t:Bool,(t=true↔Z5 p W B)->K (.bool t) U):zA Tryz.prog 222 [.agg [.int .i64 p,vP,vB]] U K:=by
 obtain⟨⟨w1,a1,rP,rfl,hP⟩,⟨w3,a3,rB,rfl,hB⟩⟩:=hR;refine zA.gh ?_;have fin:∀{t:Bool} {σ':PHeap},(t=true↔Z5 p W B)->Keep U σ'->Gh U K (.bool t) σ':=λh k=>Gh.fin0 k trivial (hk _ h);have no:∀{σ':PHeap},¬Z5 p W B->Keep U σ'->Gh U K (.bool false) σ':=λh k=>fin ⟨λx=>(by cases x),λx=>absurd x h⟩ k;have aq:=zD U [.int .i64 p,.fz w1 a1 W.length rP,.fz w3 a3 B.length rB];refine zP mix Tryz.func222 cf222 rfl ?_;dsimp only[if222,eI,qD,eD,mI0,kI0,tI0,lI0,fI0,xI0,bI0,cI0,nI0,sI0,C1,C3,mD0,lD0,fD0,xD0,I0,G0,gm0,oI0,R0,S0];simp only[Z3,seval,-ae];refine zJw ?_;by_cases hp:isP p;rotate_left
 .simp only[Z3,seval,-ae,hp];exact no (λh=>hp h.1) aq
 by_cases h6:W.length<=6;rotate_left
 .have iC:(6:Int)<(W.length:Int):=by omega
  simp only[Z3,seval,-ae,hp,iC];exact no (λh=>h6 h.2.1) aq
 have iC:¬(6:Int)<(W.length:Int):=by omega
 by_cases ny:B.length=W.length;rotate_left
 .have iB:¬(B.length:Int)=(W.length:Int):=by omega
  simp only[Z3,seval,-ae,hp,iC,iB];exact no (λh=>ny h.2.2.1) aq
 have iB:(B.length:Int)=(W.length:Int):=by omega
 have jb:=hp.bd;simp only[Z3,seval,-ae,hp,iC,eq_true iB];refine zLY hp.bd h6 λo k1 k2 k3 k4=>?_;by_cases ho:ipow p W.length<=729;rotate_left
 .have cn:(729:Int)<o:=by rcases Int.lt_or_le 729 o with x|x;exact x;exact absurd (k1.1 x) ho
  simp only[Z3,seval,-ae,cn];exact no (λh=>ho h.2.2.2.1) aq
 have cn:¬(729:Int)<o:=by have:=k1.2 ho;omega
 simp only[Z3,seval,-ae,cn];refine zF (λm vs h'=>∃i:Nat,i<=W.length/\m=W.length-i/\vs=[.ptr U.next 0,.int .i64 W.length,.int .i64 i]/\h'=U.new [.int .i64 p,.fz w1 a1 W.length rP,.fz w3 a3 B.length rB]/\∀j,j<i->rowOK p W.length W B j) W.length ?_ ?_
 .exact⟨0,by omega,by omega,rfl,rfl,λj hj=>by omega⟩
 .rintro m vs h' ⟨i,hi,rfl,rfl,rfl,ah⟩
  simp only[Z3,seval,-ae];refine iteI (λag=>?_) λaF=>?_;rotate_left
  .exact fin ⟨λ_=>⟨hp,h6,ny,ho,λj hj=>ah j (by omega)⟩,λ_=>rfl⟩ aq
  obtain⟨w4,a4,hr⟩:=hP.rowI ag;have eA:i<B.length:=by omega
  obtain⟨w5,a5,rs,cu,dp⟩:=hB.rowL eA;have sJ:=sz.w _ (List.getElem_mem ag);have kH:=sz.b _ (List.getElem_mem eA);have bad:(isVec W[i] p W.length->isZ (W[i].take (i+1))->B[i].length=W.length-1-i->(∀k (h:k<B[i].length),entOK p W.length (i+k+2) B[i][k])->False)->¬Z5 p W B:=λhb fV=>by
   obtain⟨⟨q1,q2⟩,q3,q4⟩:=fV.2.2.2.2 i ag;rw[ZE ag]at q1 q2;rw[zX eA]at q3;refine hb q1 q2 q3 λk h=>?_
   have:=q4 k (by omega)
   rwa[zX eA,zX h]at this
  simp only[Z3,seval,-ae,ag,hr];refine zEn rfl (by omega) (by omega) (by omega) ?_;by_cases hv:isVec W[i] p W.length;rotate_left
  .simp only[Z3,seval,-ae,hv];exact no (bad λq _ _ _=>hv q) aq
  have gA:W[i].length=W.length:=by have:=hv.1;omega
  simp only[Z3,seval,-ae,hv,ag,hr];refine zES rfl (by omega) (by omega) ?_;by_cases hz:isZ (W[i].take (i+1));rotate_left
  .simp only[Z3,seval,-ae,hz];exact no (bad λ_ q _ _=>hz q) aq
  have e1:IntKind.i64.wrap ((W.length:Int)-1)=(W.length:Int)-1:=wrap64 (by omega) (by omega);have e2:IntKind.i64.wrap ((W.length:Int)-1-(i:Int))=(W.length:Int)-1-(i:Int):=wrap64 (by omega) (by omega);by_cases hlen:B[i].length=W.length-1-i;rotate_left
  .have cG:¬(B[i].length:Int)=(W.length:Int)-1-(i:Int):=by omega
   simp only[Z3,seval,-ae,hz,ag,eA,cu,e1,e2,cG];exact no (bad λ_ _ q _=>hlen q) aq
  have cG:(B[i].length:Int)=(W.length:Int)-1-(i:Int):=by omega
  simp only[Z3,seval,-ae,hz,ag,eA,cu,e1,e2,eq_true cG,wrapS ag (by omega:W.length<=4611686018427387904)];refine zF (λm vs h'=>∃k:Nat,k<=B[i].length/\m=B[i].length-k/\vs=[.ptr U.next 0,.int .i64 W.length,.int .i64 i,.int .i64 ((i+(1+k):Nat):Int)]/\
   h'=U.new [.int .i64 p,.fz w1 a1 W.length rP,.fz w3 a3 B.length rB]/\∀j (h:j<B[i].length),j<k->entOK p W.length (i+j+2) B[i][j]) B[i].length ?_ ?_
  .exact⟨0,by omega,by omega,rfl,rfl,λj h hj=>by omega⟩
  .rintro m vs h' ⟨k,cL,rfl,rfl,rfl,bc⟩
   simp only[Z3,seval,-ae];refine iteI (λhj=>?_) λaF=>?_;rotate_left
   .simp only[Z3,seval,-ae,wrapS ag (by omega:W.length<=4611686018427387904)];refine⟨_,by omega,i+1,by omega,rfl,rfl,λj hj=>?_⟩;by_cases e:j=i
    .subst e;refine⟨by rw[ZE ag];exact⟨hv,hz⟩,by rw[zX eA];exact hlen,λt ht=>?_⟩;rw[zX eA,zX (by omega:t<B[j].length)];exact bc t (by omega) (by omega)
    .exact ah j (by omega)
   have an:k<B[i].length:=by omega
   obtain⟨w6,a6,cb⟩:=dp.rowI an;have eB:=sz.c _ (List.getElem_mem eA) _ (List.getElem_mem an);have e3:IntKind.i64.wrap (((i+(1+k):Nat):Int)-(i:Int))=((1+k:Nat):Int):=by rw[wrap64 (by omega) (by omega)];omega
   have e4:IntKind.i64.wrap (((1+k:Nat):Int)-1)=(k:Int):=by rw[wrap64 (by omega) (by omega)];omega
   simp only[Z3,seval,-ae,eA,cu,e3,e4,an,cb];refine zEn rfl (by omega) (by omega) (by omega) ?_;by_cases bX:isVec B[i][k] p W.length;rotate_left
   .simp only[Z3,seval,-ae,bX];exact no (bad λ_ _ _ q=>bX (q k an).1) aq
   have Aq:B[i][k].length=W.length:=by have:=bX.1;omega
   simp only[Z3,seval,-ae,bX];refine zES rfl (by omega) (by omega) ?_;have ek:i+(1+k)+1=i+(k+2):=by omega
   rw[ek];by_cases cK:isZ (B[i][k].take (i+(k+2)));rotate_left
   .simp only[Z3,seval,-ae,cK];exact no (bad λ_ _ _ q=>cK (q k an).2) aq
   have e5:IntKind.i64.wrap (((i+(1+k):Nat):Int)+1)=((i+(1+(k+1)):Nat):Int):=by rw[wrap64 (by omega) (by omega)];omega
   simp only[Z3,seval,-ae,cK,e5];refine⟨_,by omega,k+1,by omega,rfl,rfl,λj h hj=>?_⟩;by_cases e:j=k
   .subst e;exact⟨bX,cK⟩
   .exact bc j h (by omega)
end Go.Proofs
