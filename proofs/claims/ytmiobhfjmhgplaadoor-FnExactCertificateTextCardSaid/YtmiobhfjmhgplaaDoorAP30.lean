/- Powers and levels by the reference; groups. -/
import Derived.Test.YtmiobhfjmhgplaaDoorAAbPy
import Derived.Test.YtmiobhfjmhgplaaDoorChecked
open Int renaming reduceNatCast'→iQ0
set_option maxRecDepth 100000
namespace Go.Proofs
open Go.Ab
def mI0 (d s:Nat):II:=⟨some d,.mv (.t s),true,none⟩
def kI0 (d:Nat) (k:Int):II:=⟨some d,.mv (.c (.int .i64 k)),true,none⟩
def tI0 (d:Nat) (k:Bool):II:=⟨some d,.mv (.c (.bool k)),true,none⟩
def lI0 (d s:Nat):II:=⟨some d,.load false 1 (.t s),true,none⟩
def LI0 (d s:Nat):II:=⟨some d,.load true 3 (.t s),true,none⟩
def fI0 (d o s:Nat):II:=⟨some d,.fieldAddr o (.t s),true,none⟩
def xI0 (d a i:Nat):II:=⟨some d,.indexAddr 1 (.t a) (.t i),true,none⟩
def bI0 (d:Nat) (o:BinOp) (a b:Nat):II:=⟨some d,.bin o .other (.t a) (.t b),true,none⟩
def cI0 (d:Nat) (o:BinOp) (a:Nat) (k:Int):II:=⟨some d,.bin o .other (.t a) (.c (.int .i64 k)),true,none⟩
def nI0 (d s:Nat):II:=⟨some d,.un .not (.t s),true,none⟩
def sI0 (d s:Nat):II:=⟨some d,.len (.t s),true,none⟩
def pI0 (d s:Nat):II:=⟨some d,.nilCheck (.t s),true,none⟩
def eI0 (d s i:Nat):II:=⟨some d,.extract (.t s) i,true,none⟩
def C0 (d f:Nat):II:=⟨some d,.call f [],false,none⟩
def C1 (d f a:Nat):II:=⟨some d,.call f [.t a],false,none⟩
def C2 (d f a b:Nat):II:=⟨some d,.call f [.t a,.t b],false,none⟩
def C3 (d f a b c:Nat):II:=⟨some d,.call f [.t a,.t b,.t c],false,none⟩
def mD0 (d s n:Nat):DI:=⟨⟨some d,.mv (.t s),true,none⟩,n,[]⟩
def lD0 (d s n:Nat):DI:=⟨⟨some d,.load false 1 (.t s),true,none⟩,n,[]⟩
def fD0 (d o s n:Nat):DI:=⟨⟨some d,.fieldAddr o (.t s),true,none⟩,n,[]⟩
def xD0 (d a i n:Nat):DI:=⟨⟨some d,.indexAddr 1 (.t a) (.t i),true,none⟩,n,[]⟩
def pD0 (d s n:Nat):DI:=⟨⟨some d,.nilCheck (.t s),true,none⟩,n,[]⟩
def I0 (k:Int):IX:=.c (.int .i64 k)
def G0 (d:Nat) (o:IOp) (q:Bool) (t:Nat) (b:Bool):II:=⟨some d,o,q,some (t,b)⟩
def gm0 (d s t:Nat) (b:Bool):II:=⟨some d,.mv (.t s),true,some (t,b)⟩
def oI0 (d a b:Nat):II:=⟨some d,.pick (.t a) (.c (.bool true)) (.t b),true,none⟩
def aI0 (d a b:Nat):II:=⟨some d,.pick (.t a) (.t b) (.c (.bool false)),true,none⟩
def zI0 (d:Nat):II:=⟨some d,.mv (.c .nils),true,none⟩
def yI0 (d a:Nat) (k:Int):II:=⟨some d,.indexAddr 1 (.t a) (.c (.int .i64 k)),true,none⟩
def vI0 (n a b:Nat):II:=⟨none,.store n (.t a) (.t b),false,none⟩
def wD0 (n a b i:Nat):DI:=⟨⟨none,.store n (.t a) (.t b),false,none⟩,i,[]⟩
def R0 (l:List Nat) (i:List II):IC:=.region l i
def S0 (a b:IC):IC:=.seq a b
open Tryd
theorem mix:Tryd.prog.follows .mixedOrders=true:=by kernel_rfl
def if12:IFn:=⟨[0],[(.tmp 2)],(S0 (R0 [1] [eI 1 (.box (.t 0)),qI 2 (.mv (.c (.str [])))])
 (S0 (R0 [1,3] [fI0 7 0 1,lI0 8 7,C1 9 24 8,qI 10 (.bin .add .other (.t 9) (.c (.str [10]))),mI0 3 10])
 (S0 (.seq (R0 [1,3,4] [kI0 4 0])
 (.block 0 (.loop [1,3,4] (S0 (.seq (R0 [1,3,4,15] [mI0 11 4,fI0 12 1 1,lI0 13 12,sI0 14 13,bI0 15 .lss 11 14])
 (.cond (.t 15) .skip (.exit 0)))
 (S0 (.block 1 (R0 [1,3,4] [mI0 18 3,fI0 19 1 1,lI0 20 19,mI0 21 4,qI 22 (.indexAddr 3 (.t 20) (.t 21)),LI0 23 22,C1 24 25 23,bI0 25 .add 18 24,qI 26 (.bin .add .other (.t 25) (.c (.str [10]))),mI0 3 26]))
 (R0 [1,3,4] [mI0 16 4,cI0 17 .add 16 1,mI0 4 17]))))))
 (S0 (.seq (R0 [1,3,5] [kI0 5 0])
 (.block 2 (.loop [1,3,5] (S0 (.seq (R0 [1,3,5,31] [mI0 27 5,fI0 28 2 1,lI0 29 28,sI0 30 29,bI0 31 .lss 27 30])
 (.cond (.t 31) .skip (.exit 2)))
 (S0 (.block 3 (S0 (R0 [1,3,5] [mI0 34 3,qI 35 (.bin .add .other (.t 34) (.c (.str [58]))),mI0 3 35])
 (S0 (.seq (R0 [1,3,5,6] [kI0 6 0])
 (.block 4 (.loop [1,3,5,6] (S0 (.seq (R0 [1,3,5,6,43] [mI0 36 6,fI0 37 2 1,lI0 38 37,mI0 39 5,xI0 40 38 39,lI0 41 40,sI0 42 41,bI0 43 .lss 36 42])
 (.cond (.t 43) .skip (.exit 4)))
 (S0 (.block 5 (R0 [1,3,5,6] [mI0 46 3,qI 47 (.bin .add .other (.t 46) (.c (.str [32]))),fI0 48 2 1,lI0 49 48,mI0 50 5,xI0 51 49 50,lI0 52 51,mI0 53 6,xI0 54 52 53,lI0 55 54,C1 56 26 55,bI0 57 .add 47 56,mI0 3 57]))
 (R0 [1,3,5,6] [mI0 44 6,cI0 45 .add 44 1,mI0 6 45]))))))
 (R0 [1,3,5] [mI0 58 3,qI 59 (.bin .add .other (.t 58) (.c (.str [10]))),mI0 3 59]))))
 (R0 [1,3,5] [mI0 32 5,cI0 33 .add 32 1,mI0 5 33]))))))
 (S0 (R0 [2] [mI0 60 3,mI0 2 60])
 .ret)))))⟩
theorem cf12:cF prog f12=some if12:=by kernel_rfl
def if24:IFn:=⟨[0],[(.tmp 2)],(S0 (R0 [0] [qI 2 (.mv (.c (.str [])))])
 (S0 (.seq (R0 [0,4] [mI0 3 0,cI0 4 .lss 3 10])
 (.cond (.t 4) (S0 (R0 [2] [mI0 5 0,qI 6 (.bin .add .other (I0 48) (.t 5)),qI 7 (.conv .u8 (.t 6)),eI 8 (.buildSl 1 1 [(.int .u8 0)] [(0,1,(.t 7))]),eI 9 (.strOf (.t 8)),mI0 2 9])
 .ret) .skip))
 (S0 (.tree [2] (.q (mD0 10 0 0) (.q (qD 11 (.bin .quo .other (.t 10) (I0 10)) 1) (.q (mD0 13 0 3) (.q (qD 14 (.bin .rem .other (.t 13) (I0 10)) 4) (.q (qD 15 (.bin .add .other (I0 48) (.t 14)) 5) (.q (qD 16 (.conv .u8 (.t 15)) 6) (.e (eD 12 (.call 24 [(.t 11)]) 2 []) (.e (eD 17 (.buildSl 1 1 [(.int .u8 0)] [(0,1,(.t 16))]) 7 []) (.e (eD 18 (.strOf (.t 17)) 8 []) (.q (qD 19 (.bin .add .other (.t 12) (.t 18)) 9) (.q (mD0 2 19 10) .done)) .none) .none) (.e (eD 17 (.buildSl 1 1 [(.int .u8 0)] [(0,1,(.t 16))]) 7 []) (.e (eD 12 (.call 24 [(.t 11)]) 2 []) (.e (eD 18 (.strOf (.t 17)) 8 []) (.q (qD 19 (.bin .add .other (.t 12) (.t 18)) 9) (.q (mD0 2 19 10) .done)) .none) (.e (eD 18 (.strOf (.t 17)) 8 []) (.e (eD 12 (.call 24 [(.t 11)]) 2 []) (.q (qD 19 (.bin .add .other (.t 12) (.t 18)) 9) (.q (mD0 2 19 10) .done)) .none) .none)) .none)))))))))
 .ret)))⟩
theorem cf24:cF prog f24=some if24:=by kernel_rfl
def if25:IFn:=⟨[0],[(.tmp 2)],(S0 (R0 [1] [eI 1 (.box (.t 0)),qI 2 (.mv (.c (.str [])))])
 (S0 (R0 [1,3] [fI0 9 0 1,lI0 10 9,sI0 11 10,mI0 3 11])
 (S0 (R0 [1,3,4] [qI 4 (.mv (.c (.str [])))])
 (S0 (.seq (R0 [1,3,4,13] [mI0 12 3,cI0 13 .eql 12 0])
 (.cond (.t 13) (S0 (R0 [2] [qI 2 (.mv (.c (.str [49])))])
 .ret) .skip))
 (S0 (.seq (R0 [1,3,4,5] [kI0 5 0])
 (.block 0 (.loop [1,3,4,5] (S0 (.seq (R0 [1,3,4,5,16] [mI0 14 5,mI0 15 3,bI0 16 .lss 14 15])
 (.cond (.t 16) .skip (.exit 0)))
 (S0 (.block 1 (S0 (.seq (R0 [1,3,4,5,20] [mI0 19 5,cI0 20 .gtr 19 0])
 (.cond (.t 20) (R0 [1,3,4,5] [mI0 21 4,qI 22 (.bin .add .other (.t 21) (.c (.str [32]))),mI0 4 22]) .skip))
 (R0 [1,3,4,5] [mI0 23 4,fI0 24 0 1,lI0 25 24,mI0 26 5,xI0 27 25 26,lI0 28 27,C1 29 24 28,bI0 30 .add 23 29,mI0 4 30])))
 (R0 [1,3,4,5] [mI0 17 5,cI0 18 .add 17 1,mI0 5 18]))))))
 (S0 (.seq (R0 [1,3,4,6] [kI0 6 0])
 (.block 2 (.loop [1,3,4,6] (S0 (.seq (R0 [1,3,4,6,33] [mI0 31 6,mI0 32 3,bI0 33 .lss 31 32])
 (.cond (.t 33) .skip (.exit 2)))
 (S0 (.block 3 (S0 (R0 [1,3,4,6,42] [fI0 36 1 1,lI0 37 36,mI0 38 6,xI0 39 37 38,lI0 40 39,C1 41 42 40,nI0 42 41])
 (.cond (.t 42) (.draw [1,3,4,6] [] [mD0 43 4 0,qD 44 (.bin .add .other (.t 43) (.c (.str [59,32]))) 1,mD0 45 6 2,fD0 49 0 1 6,lD0 50 49 7,mD0 51 6 8,xD0 52 50 51 9,lD0 53 52 10,fD0 57 1 1 14,lD0 58 57 15,mD0 59 6 16,xD0 60 58 59 17,lD0 61 60 18,eD 46 (.call 43 [(.t 45)]) 3 [7,10,15,18],qD 47 (.bin .add .other (.t 44) (.t 46)) 4,qD 48 (.bin .add .other (.t 47) (.c (.str [94]))) 5,eD 54 (.call 24 [(.t 53)]) 11 [15,18],qD 55 (.bin .add .other (.t 48) (.t 54)) 12,qD 56 (.bin .add .other (.t 55) (.c (.str [61]))) 13,eD 62 (.call 45 [(.t 61)]) 19 [],eD 63 (.call 44 [(.t 62)]) 20 [],qD 64 (.bin .add .other (.t 56) (.t 63)) 21,mD0 4 64 22]) .skip)))
 (R0 [1,3,4,6] [mI0 34 6,cI0 35 .add 34 1,mI0 6 35]))))))
 (S0 (.seq (R0 [1,3,4,7] [kI0 7 0])
 (.block 4 (.loop [1,3,4,7] (S0 (.seq (R0 [1,3,4,7,67] [mI0 65 7,mI0 66 3,bI0 67 .lss 65 66])
 (.cond (.t 67) .skip (.exit 4)))
 (S0 (.block 5 (S0 (R0 [1,3,4,7,8] [mI0 70 7,cI0 71 .add 70 1,mI0 8 71])
 (.block 6 (.loop [1,3,4,7,8] (S0 (.seq (R0 [1,3,4,7,8,74] [mI0 72 8,mI0 73 3,bI0 74 .lss 72 73])
 (.cond (.t 74) .skip (.exit 6)))
 (S0 (.block 7 (S0 (.draw [1,3,4,7,8,92] [] [fD0 77 2 1 0,lD0 78 77 1,mD0 79 7 2,xD0 80 78 79 3,lD0 81 80 4,mD0 82 8 5,mD0 83 7 6,qD 84 (.bin .sub .other (.t 82) (.t 83)) 7,qD 85 (.bin .sub .other (.t 84) (I0 1)) 8,xD0 86 81 85 9,lD0 87 86 10,mD0 88 3 11,mD0 89 8 12,eD 90 (.call 47 [(.t 88),(.t 89)]) 13 [1,4,10],eD 91 (.call 46 [(.t 87),(.t 90)]) 14 [],qD 92 (.un .not (.t 91)) 15])
 (.cond (.t 92) (.draw [1,3,4,7,8] [] [mD0 93 4 0,qD 94 (.bin .add .other (.t 93) (.c (.str [59,32]))) 1,mD0 95 8 2,mD0 99 7 6,fD0 103 2 1 10,lD0 104 103 11,mD0 105 7 12,xD0 106 104 105 13,lD0 107 106 14,mD0 108 8 15,mD0 109 7 16,qD 110 (.bin .sub .other (.t 108) (.t 109)) 17,qD 111 (.bin .sub .other (.t 110) (I0 1)) 18,xD0 112 107 111 19,lD0 113 112 20,eD 96 (.call 43 [(.t 95)]) 3 [11,14,20],qD 97 (.bin .add .other (.t 94) (.t 96)) 4,qD 98 (.bin .add .other (.t 97) (.c (.str [94]))) 5,eD 100 (.call 43 [(.t 99)]) 7 [11,14,20],qD 101 (.bin .add .other (.t 98) (.t 100)) 8,qD 102 (.bin .add .other (.t 101) (.c (.str [61]))) 9,eD 114 (.call 45 [(.t 113)]) 21 [],eD 115 (.call 44 [(.t 114)]) 22 [],qD 116 (.bin .add .other (.t 102) (.t 115)) 23,mD0 4 116 24]) .skip)))
 (R0 [1,3,4,7,8] [mI0 75 8,cI0 76 .add 75 1,mI0 8 76])))))))
 (R0 [1,3,4,7] [mI0 68 7,cI0 69 .add 68 1,mI0 7 69]))))))
 (S0 (R0 [2] [mI0 117 4,mI0 2 117])
 .ret))))))))⟩
theorem cf25:cF prog f25=some if25:=by kernel_rfl
def if26:IFn:=⟨[0],[(.tmp 2)],(S0 (R0 [0] [qI 2 (.mv (.c (.str [])))])
 (S0 (.seq (R0 [0,4] [mI0 3 0,cI0 4 .lss 3 0])
 (.cond (.t 4) (S0 (R0 [2] [mI0 5 0,qI 6 (.un .neg (.t 5)),C1 7 24 6,qI 8 (.bin .add .other (.c (.str [45])) (.t 7)),mI0 2 8])
 .ret) .skip))
 (S0 (R0 [2] [mI0 9 0,C1 10 24 9,mI0 2 10])
 .ret)))⟩
theorem cf26:cF prog f26=some if26:=by kernel_rfl
def if34:IFn:=⟨[0],[(.tmp 2)],(S0 (R0 [0] [qI 2 (.mv (.c (.str [])))])
 (S0 (R0 [0,3] [zI0 3])
 (S0 (.seq (R0 [0,3,16,17,18] [mI0 13 0,pI0 14 13,fI0 15 0 14,lI0 16 15,sI0 17 16,kI0 18 0])
 (.block 0 (.loop [0,3,16,17,18] (S0 (R0 [0,3,16,17,18,19] [bI0 19 .lss 18 17])
 (S0 (.cond (.t 19) .skip (.exit 0))
 (S0 (.block 1 (S0 (R0 [0,3,5,16,17,18] [xI0 20 16 18,lI0 21 20,mI0 5 21])
 (R0 [0,3,16,17,18] [mI0 22 3,mI0 23 5,eI 24 (.call 33 [(.t 23),(I0 10)]),eI 25 (.buildSl 1 1 [(.str [])] [(0,1,(.t 24))]),eI 26 (.append 1 16 (.t 22) (.t 25)),mI0 3 26])))
 (R0 [0,3,16,17,18] [cI0 27 .add 18 1,mI0 18 27])))))))
 (S0 (.seq (R0 [0,3,30] [mI0 28 3,sI0 29 28,cI0 30 .eql 29 0])
 (.cond (.t 30) (R0 [0,3] [eI 31 (.buildSl 1 1 [(.str [])] [(0,1,(.c (.str [49])))]),mI0 3 31]) .skip))
 (S0 (R0 [0,3,6] [mI0 32 3,eI 33 (.call 53 [(.t 32),(.c (.str [32]))]),eI 34 (.buildSl 1 1 [(.str [])] [(0,1,(.t 33))]),mI0 6 34])
 (S0 (.seq (R0 [0,3,6,38,39,40] [mI0 35 0,pI0 36 35,fI0 37 1 36,lI0 38 37,sI0 39 38,kI0 40 0])
 (.block 2 (.loop [0,3,6,38,39,40] (S0 (R0 [0,3,6,38,39,40,41] [bI0 41 .lss 40 39])
 (S0 (.cond (.t 41) .skip (.exit 2))
 (S0 (.block 3 (S0 (R0 [0,3,6,7,8,38,39,40] [mI0 42 40,xI0 43 38 40,lI0 44 43,mI0 7 42,mI0 8 44])
 (S0 (R0 [0,3,6,7,8,38,39,40,47] [mI0 45 8,C1 46 54 45,nI0 47 46])
 (.cond (.t 47) (.draw [0,3,6,38,39,40] [] [mD0 48 6 0,mD0 49 7 1,mD0 52 3 4,mD0 53 7 5,xD0 54 52 53 6,lD0 55 54 7,mD0 58 8 10,eD 50 (.call 55 [(.t 49)]) 2 [7],qD 51 (.bin .add .other (.t 50) (.c (.str [94]))) 3,qD 56 (.bin .add .other (.t 51) (.t 55)) 8,qD 57 (.bin .add .other (.t 56) (.c (.str [61]))) 9,eD 59 (.call 57 [(.t 58)]) 11 [7],eD 60 (.call 56 [(.t 59)]) 12 [7],qD 61 (.bin .add .other (.t 57) (.t 60)) 13,eD 62 (.buildSl 1 1 [(.str [])] [(0,1,(.t 61))]) 14 [],eD 63 (.append 1 16 (.t 48) (.t 62)) 15 [],mD0 6 63 16]) .skip))))
 (R0 [0,3,6,38,39,40] [cI0 64 .add 40 1,mI0 40 64])))))))
 (S0 (.seq (R0 [0,6,69,70] [mI0 65 0,pI0 66 65,fI0 67 0 66,lI0 68 67,sI0 69 68,kI0 70 0])
 (.block 4 (.loop [0,6,69,70] (S0 (R0 [0,6,69,70,71] [bI0 71 .lss 70 69])
 (S0 (.cond (.t 71) .skip (.exit 4))
 (S0 (.block 5 (S0 (R0 [0,6,9,69,70] [mI0 72 70,mI0 9 72])
 (S0 (R0 [0,6,9,69,70,79,80,81] [mI0 73 0,pI0 74 73,fI0 75 2 74,lI0 76 75,mI0 77 9,xI0 78 76 77,lI0 79 78,sI0 80 79,kI0 81 0])
 (.block 6 (.loop [0,6,9,69,70,79,80,81] (S0 (R0 [0,6,9,69,70,79,80,81,82] [bI0 82 .lss 81 80])
 (S0 (.cond (.t 82) .skip (.exit 6))
 (S0 (.block 7 (S0 (R0 [0,6,9,10,11,69,70,79,80,81] [mI0 83 81,xI0 84 79 81,lI0 85 84,mI0 10 83,mI0 11 85])
 (S0 (R0 [0,6,9,11,12,69,70,79,80,81] [mI0 86 9,cI0 87 .add 86 1,mI0 88 10,bI0 89 .add 87 88,mI0 12 89])
 (S0 (R0 [0,6,9,11,12,69,70,79,80,81,96] [mI0 90 11,mI0 91 11,sI0 92 91,mI0 93 12,C2 94 59 92 93,C2 95 58 90 94,nI0 96 95])
 (.cond (.t 96) (R0 [0,6,9,69,70,79,80,81] [mI0 97 6,mI0 98 12,C1 99 55 98,qI 100 (.bin .add .other (.t 99) (.c (.str [94]))),mI0 101 9,C1 102 55 101,bI0 103 .add 100 102,qI 104 (.bin .add .other (.t 103) (.c (.str [61]))),mI0 105 11,C1 106 57 105,C1 107 56 106,bI0 108 .add 104 107,eI 109 (.buildSl 1 1 [(.str [])] [(0,1,(.t 108))]),eI 110 (.append 1 16 (.t 97) (.t 109)),mI0 6 110]) .skip)))))
 (R0 [0,6,9,69,70,79,80,81] [cI0 111 .add 81 1,mI0 81 111])))))))))
 (R0 [0,6,69,70] [cI0 112 .add 70 1,mI0 70 112])))))))
 (S0 (R0 [2] [mI0 113 6,eI 114 (.call 53 [(.t 113),(.c (.str [59,32]))]),mI0 2 114])
 .ret))))))))⟩
theorem cf34:cF prog f34=some if34:=by kernel_rfl
-- BAD 35 (*strings.Builder).String
def if44:IFn:=⟨[0],[(.tmp 2)],(S0 (R0 [0] [qI 2 (.mv (.c (.str [])))])
 (S0 (.seq (R0 [0,7] [mI0 5 0,sI0 6 5,cI0 7 .eql 6 0])
 (.cond (.t 7) (S0 (R0 [2] [qI 2 (.mv (.c (.str [49])))])
 .ret) .skip))
 (S0 (R0 [0,3] [eI 8 (.buildSl 1 0 [(.int .u8 0)] []),mI0 3 8])
 (S0 (.seq (R0 [0,3,4] [kI0 4 0])
 (.block 0 (.loop [0,3,4] (S0 (.seq (R0 [0,3,4,12] [mI0 9 4,mI0 10 0,sI0 11 10,bI0 12 .lss 9 11])
 (.cond (.t 12) .skip (.exit 0)))
 (S0 (.block 1 (S0 (R0 [0,3,4,19] [mI0 15 0,mI0 16 4,xI0 17 15 16,lI0 18 17,cI0 19 .gtr 18 0])
 (.cond (.t 19) (R0 [0,3,4] [mI0 20 3,mI0 21 0,mI0 22 4,xI0 23 21 22,lI0 24 23,qI 25 (.bin .add .other (I0 97) (.t 24)),cI0 26 .sub 25 1,qI 27 (.conv .u8 (.t 26)),eI 28 (.buildSl 1 1 [(.int .u8 0)] [(0,1,(.t 27))]),eI 29 (.append 1 1 (.t 20) (.t 28)),mI0 3 29]) (R0 [0,3,4] [mI0 30 3,mI0 31 0,mI0 32 4,xI0 33 31 32,lI0 34 33,qI 35 (.bin .sub .other (I0 65) (.t 34)),cI0 36 .sub 35 1,qI 37 (.conv .u8 (.t 36)),eI 38 (.buildSl 1 1 [(.int .u8 0)] [(0,1,(.t 37))]),eI 39 (.append 1 1 (.t 30) (.t 38)),mI0 3 39]))))
 (R0 [0,3,4] [mI0 13 4,cI0 14 .add 13 1,mI0 4 14]))))))
 (S0 (R0 [2] [mI0 40 3,eI 41 (.strOf (.t 40)),mI0 2 41])
 .ret)))))⟩
theorem cf44:cF prog f44=some if44:=by kernel_rfl
def if56:IFn:=⟨[0],[(.tmp 2)],(S0 (R0 [0] [qI 2 (.mv (.c (.str [])))])
 (S0 (.seq (R0 [0,8] [mI0 6 0,sI0 7 6,cI0 8 .eql 7 0])
 (.cond (.t 8) (S0 (R0 [2] [qI 2 (.mv (.c (.str [49])))])
 .ret) .skip))
 (S0 (R0 [0,3] [zI0 3])
 (S0 (.seq (R0 [3,9,10,11] [mI0 9 0,sI0 10 9,kI0 11 0])
 (.block 0 (.loop [3,9,10,11] (S0 (R0 [3,9,10,11,12] [bI0 12 .lss 11 10])
 (S0 (.cond (.t 12) .skip (.exit 0))
 (S0 (.block 1 (S0 (R0 [3,5,9,10,11] [xI0 13 9 11,lI0 14 13,mI0 5 14])
 (S0 (R0 [3,5,9,10,11,16] [mI0 15 5,cI0 16 .gtr 15 0])
 (.cond (.t 16) (R0 [3,9,10,11] [mI0 17 3,mI0 18 5,qI 19 (.bin .add .other (I0 97) (.t 18)),cI0 20 .sub 19 1,qI 21 (.conv .u8 (.t 20)),eI 22 (.buildSl 1 1 [(.int .u8 0)] [(0,1,(.t 21))]),eI 23 (.append 1 1 (.t 17) (.t 22)),mI0 3 23]) (R0 [3,9,10,11] [mI0 24 3,mI0 25 5,qI 26 (.bin .sub .other (I0 65) (.t 25)),cI0 27 .sub 26 1,qI 28 (.conv .u8 (.t 27)),eI 29 (.buildSl 1 1 [(.int .u8 0)] [(0,1,(.t 28))]),eI 30 (.append 1 1 (.t 24) (.t 29)),mI0 3 30])))))
 (R0 [3,9,10,11] [cI0 31 .add 11 1,mI0 11 31])))))))
 (S0 (R0 [2] [mI0 32 3,eI 33 (.strOf (.t 32)),mI0 2 33])
 .ret)))))⟩
theorem cf56:cF prog f56=some if56:=by kernel_rfl
end Go.Proofs
set_option linter.unusedSimpArgs false
set_option linter.unusedVariables false
namespace Go.Proofs
open Go.Ab
variable {σ:PHeap} {K:PV→PHeap→Prop}
theorem Qu {n lo hi:Int} (hk:K (.bool (decide (lo≤n∧n≤hi))) σ):zA Tryd.prog 29 [.int .i64 n,.int .i64 lo,.int .i64 hi] σ K:=by
 refine zD mix Tryd.func29 ?_
 by_cases h1:lo≤n
 ·simp only [pwA,seval,-iQ0,h1];exact pke hk ⟨fun x=>x.2,fun x=>⟨h1,x⟩⟩
 ·simp only [pwA,seval,-iQ0,h1];exact pkf hk (by omega)
theorem zCj {n lo hi:Int} (hk:K (.bool (decide (lo≤n∧n≤hi))) σ):zA Tryd.prog 23 [.int .i64 n,.int .i64 lo,.int .i64 hi] σ K:=by
 refine zD mix Tryd.func23 ?_
 by_cases h1:lo≤n
 ·simp only [pwA,seval,-iQ0,h1];exact pke hk ⟨fun x=>x.2,fun x=>⟨h1,x⟩⟩
 ·simp only [pwA,seval,-iQ0,h1];exact pkf hk (by omega)
def isVec (xs:List Int) (p n:Int):Prop:=(xs.length:Int)=n∧∀x∈xs,0≤x∧x≤p-1
instance (xs:List Int) (p n:Int):Decidable (isVec xs p n):=by unfold isVec;infer_instance
def isZ (xs:List Int):Prop:=∀x∈xs,x=0
instance (xs:List Int):Decidable (isZ xs):=by unfold isZ;infer_instance
theorem zBr {w:Bool} {a:AV} {xs:List Int} {l:Nat} (hl:l=xs.length) (hb:xs.length≤4611686018427387904) (hk:K (.bool (decide (isZ xs))) σ):zA Tryd.prog 54 [.fz w a l (pis xs)] σ K:=by
 subst hl;refine zD mix Tryd.func54 ?_;simp only [pwA,seval,-iQ0];refine zC (fun m vs h'=>∃i:Nat,i≤xs.length∧m=xs.length-i∧vs=[.fz w a xs.length (pis xs),.int .i64 xs.length,.int .i64 i]∧h'=σ∧∀x∈xs.take i,x=0) xs.length ?_ ?_
 ·exact⟨0,by omega,by omega,rfl,rfl,by simp⟩
 ·rintro m vs h' ⟨i,hi,rfl,rfl,rfl,hall⟩
  simp only [pwA,seval,-iQ0]
  split
  ·rename_i hlt
   simp only [pwA,seval,-iQ0,hlt,zN,gi hlt]
   split
   ·rename_i h0
    simp only [pwA,seval,-iQ0,wrapS hlt hb];exact⟨_,by omega,i+1,by omega,rfl,rfl,ZC hlt hall h0⟩
   ·rename_i hn
    exact pkf hk fun hv=>hn (hv _ (List.getElem_mem hlt))
  ·refine pkt hk (ZR (by omega) hall)
theorem zEb {w:Bool} {a:AV} {xs:List Int} {l:Nat} (hl:l=xs.length) (hb:xs.length≤4611686018427387904) (hk:K (.bool (decide (isZ xs))) σ):zA Tryd.prog 42 [.fz w a l (pis xs)] σ K:=by
 subst hl;refine zD mix Tryd.func42 ?_;simp only [pwA,seval,-iQ0];refine zC (fun m vs h'=>∃i:Nat,i≤xs.length∧m=xs.length-i∧vs=[.fz w a xs.length (pis xs),.int .i64 i]∧h'=σ∧∀x∈xs.take i,x=0) xs.length ?_ ?_
 ·exact⟨0,by omega,by omega,rfl,rfl,by simp⟩
 ·rintro m vs h' ⟨i,hi,rfl,rfl,rfl,hall⟩
  simp only [pwA,seval,-iQ0]
  split
  ·rename_i hlt
   simp only [pwA,seval,-iQ0,hlt,zN,gi hlt]
   split
   ·rename_i h0
    simp only [pwA,seval,-iQ0,wrapS hlt hb];exact⟨_,by omega,i+1,by omega,rfl,rfl,ZC hlt hall h0⟩
   ·rename_i hn
    exact pkf hk fun hv=>hn (hv _ (List.getElem_mem hlt))
  ·refine pkt hk (ZR (by omega) hall)
theorem zCr {xs ys:List Int} (hl:xs.length=ys.length) {i:Nat} (hi:i<xs.length) (h:xs.take i=ys.take i) (he:xs[i]=ys[i]'(by omega)):xs.take (i+1)=ys.take (i+1):=by
 rw [List.take_succ_eq_append_getElem hi,List.take_succ_eq_append_getElem (by omega:i<ys.length),h,he]
theorem zEc {w w':Bool} {a a':AV} {xs ys:List Int} {l:Nat} {l':Nat} (hl:l=xs.length) (hl':l'=ys.length) (hb:xs.length≤4611686018427387904) (hk:K (.bool (decide (xs=ys))) σ):zA Tryd.prog 46 [.fz w a l (pis xs),.fz w' a' l' (pis ys)] σ K:=by
 subst hl;subst hl';refine zD mix Tryd.func46 ?_;simp only [pwA,seval,-iQ0]
 split
 ·rename_i hl
  have hl:xs.length=ys.length:=by omega
  refine zC (fun m vs h'=>∃i:Nat,i≤xs.length∧m=xs.length-i∧vs=[.fz w a xs.length (pis xs),.fz w' a' ys.length (pis ys),.int .i64 i]∧h'=σ∧xs.take i=ys.take i) xs.length ?_ ?_
  ·exact⟨0,by omega,by omega,rfl,rfl,by simp⟩
  ·rintro m vs h' ⟨i,hi,rfl,rfl,rfl,hall⟩
   simp only [pwA,seval,-iQ0]
   split
   ·rename_i hlt
    have hlt2:i<ys.length:=by omega
    simp only [pwA,seval,-iQ0,hlt,hlt2,zN,gi hlt,gi hlt2]
    split
    ·rename_i h0
     simp only [pwA,seval,-iQ0,wrapS hlt hb];exact⟨_,by omega,i+1,by omega,rfl,rfl,zCr hl hlt hall h0⟩
    ·rename_i hn
     refine pkf hk fun hv=>hn (by subst hv;rfl)
   ·refine pkt hk ?_
    rwa [List.take_of_length_le (by omega),List.take_of_length_le (by omega)]at hall
 ·rename_i hl
  exact pkf hk fun hv=>hl (by rw [hv])
theorem zGn {w w':Bool} {a a':AV} {xs ys:List Int} {l:Nat} {l':Nat} (hl:l=xs.length) (hl':l'=ys.length) (hb:xs.length≤4611686018427387904) (hk:K (.bool (decide (xs=ys))) σ):zA Tryd.prog 58 [.fz w a l (pis xs),.fz w' a' l' (pis ys)] σ K:=by
 subst hl;subst hl';refine zD mix Tryd.func58 ?_;simp only [pwA,seval,-iQ0]
 split
 ·rename_i hl
  have hl:xs.length=ys.length:=by omega
  refine zC (fun m vs h'=>∃i:Nat,i≤xs.length∧m=xs.length-i∧vs=[.fz w a xs.length (pis xs),.fz w' a' ys.length (pis ys),.int .i64 xs.length,.int .i64 i]∧h'=σ∧xs.take i=ys.take i) xs.length ?_ ?_
  ·exact⟨0,by omega,by omega,rfl,rfl,by simp⟩
  ·rintro m vs h' ⟨i,hi,rfl,rfl,rfl,hall⟩
   simp only [pwA,seval,-iQ0]
   split
   ·rename_i hlt
    have hlt2:i<ys.length:=by omega
    simp only [pwA,seval,-iQ0,hlt,hlt2,zN,gi hlt,gi hlt2]
    split
    ·rename_i h0
     simp only [pwA,seval,-iQ0,wrapS hlt hb];exact⟨_,by omega,i+1,by omega,rfl,rfl,zCr hl hlt hall h0⟩
    ·rename_i hn
     refine pkf hk fun hv=>hn (by subst hv;rfl)
   ·refine pkt hk ?_
    rwa [List.take_of_length_le (by omega),List.take_of_length_le (by omega)]at hall
 ·rename_i hl
  exact pkf hk fun hv=>hl (by rw [hv])
def isP (n:Int):Prop:=n=2∨n=3∨n=5∨n=7
instance (n:Int):Decidable (isP n):=by unfold isP;infer_instance
theorem isP.bd {n:Int} (hp:isP n):2≤n∧n≤7:=by unfold isP at hp;omega
theorem zDd {n:Int} (hk:K (.bool (decide (isP n))) σ):zA Tryd.prog 39 [.int .i64 n] σ K:=by
 refine zD mix Tryd.func39 ?_
 by_cases h2:n=2
 ·simp only [pwA,seval,-iQ0,h2];exact pkt hk (by unfold isP;omega)
 by_cases h3:n=3
 ·simp only [pwA,seval,-iQ0,h3];exact pkt hk (by unfold isP;omega)
 by_cases h5:n=5
 ·simp only [pwA,seval,-iQ0,h5];exact pkt hk (by unfold isP;omega)
 by_cases h7:n=7
 ·simp only [pwA,seval,-iQ0,h7];exact pkt hk (by unfold isP;omega)
 simp only [pwA,seval,-iQ0,h2,h3,h5,h7];exact pkf hk (by unfold isP;omega)
theorem zBY {n:Int} (hk:K (.bool (decide (isP n))) σ):zA Tryd.prog 49 [.int .i64 n] σ K:=by
 refine zD mix Tryd.func49 ?_
 by_cases h2:n=2
 ·simp only [pwA,seval,-iQ0,h2];exact pkt hk (by unfold isP;omega)
 by_cases h3:n=3
 ·simp only [pwA,seval,-iQ0,h3];exact pkt hk (by unfold isP;omega)
 by_cases h5:n=5
 ·simp only [pwA,seval,-iQ0,h5];exact pkt hk (by unfold isP;omega)
 by_cases h7:n=7
 ·simp only [pwA,seval,-iQ0,h7];exact pkt hk (by unfold isP;omega)
 simp only [pwA,seval,-iQ0,h2,h3,h5,h7];exact pkf hk (by unfold isP;omega)
def unitL (n k:Nat):List Int:=(List.replicate n 0).set k 1
theorem Qh (n k:Nat):(unitL n k).length=n:=by simp [unitL]
theorem zBw {n k:Nat} (hn:n≤1048576) (hkn:k<n) (hk:∀cap,full 1 cap n→K (.sl σ.next 0 n cap) (σ.new (pis (unitL n k)))):zA Tryd.prog 59 [.int .i64 n,.int .i64 k] σ K:=by
 refine zD mix Tryd.func59 ?_;simp only [pwA,seval,-iQ0,hkn,List.length_replicate,zBd,ZP,mk8 (n:=n) (by omega),mkL (n:=n) (by omega),Nat.succ_le_of_lt hkn]
 rw [QP (by simpa using hkn)]
 exact hk _ (.inr rfl)
end Go.Proofs
namespace Go.Lie
open Go.Ab
abbrev at_ (v:List Int) (j:Nat):Int:=v.getD j 0
theorem at_eq {v:List Int} {j:Nat} (h:j<v.length):at_ v j=v[j]:=by simp [at_,List.getD_eq_getElem?_getD,List.getElem?_eq_getElem h]
theorem at_ge {v:List Int} {j:Nat} (h:v.length≤j):at_ v j=0:=by simp [at_,List.getD_eq_getElem?_getD,List.getElem?_eq_none h]
variable {p:Int} {n:Nat} {W:List (List Int)}
theorem QW {i:Nat} (h:i<W.length):W.getD i []=W[i]:=by simp [List.getD_eq_getElem?_getD,List.getElem?_eq_getElem h]
end Go.Lie
namespace Go.Proofs
open Go.Ab Go.Lie
variable {σ:PHeap} {K:PV→PHeap→Prop} {p:Int} {n:Nat} {W:List (List Int)} {B:List (List (List Int))} {vP vB:PV} {s:Nat}
theorem zV {α:Type} {B:List (List α)} {i:Nat} (h:i<B.length):B.getD i []=B[i]:=by simp [List.getD_eq_getElem?_getD,List.getElem?_eq_getElem h]
end Go.Proofs
namespace Go.Proofs
open Go.Ab Go.Lie
variable {σ:PHeap} {K:PV→PHeap→Prop} {p:Int} {n:Nat} {W:List (List Int)} {B:List (List (List Int))} {vP vB:PV} {s:Nat}
theorem zBx {k:Nat} (hn:n≤1048576) (hkn:k<n) (hk:∀a,K (.fz true a n (pis (unitL n k))) σ):zA Tryd.prog 59 [.int .i64 n,.int .i64 k] σ K:=
 zA.fz (fun K'=>zBw hn hkn) (ZZ _ _) fun o cap=>hk _
end Go.Proofs
namespace Go.Proofs
open Go.Ab Go.Lie
variable {σ:PHeap} {K:PV→PHeap→Prop} {p:Int} {n:Nat} {W:List (List Int)} {B:List (List (List Int))} {vP vB vL:PV} {s:Nat}
structure SzL (xs:List (List Int)):Prop where
 l:xs.length≤1048576
 r:∀x∈xs,x.length≤1048576
end Go.Proofs
namespace Go.Proofs
open Go.Ab Go.Lie
variable {σ:PHeap} {K:PV→PHeap→Prop} {p p':Int} {n:Nat} {W W':List (List Int)} {B B':List (List (List Int))} {vP vB vP' vB' vL vL':PV}
def left_ (l:Int):Prop:=0≤l∧l≤1048576
theorem zAP {l:Int} {xs:List Int} {v:PV} (hI:FI v xs) (hb:xs.length≤9223372036854775807) (hl:left_ l) (hk:∀r:Int,(r=-1∨(left_ r∧xs.length≤1048576))→K (.int .i64 r) σ):zA Tryd.prog 20 [v,.int .i64 l] σ K:=by
 obtain⟨w,a,rfl⟩:=hI;unfold left_ at hl
 refine zD mix Tryd.func20 ?_;simp only [pwA,seval,-iQ0,wrap64 (n:=l-(xs.length:Int)) (by omega) (by omega)]
 refine iteI (fun h=>?_) fun h=>?_
 ·exact hk _ (.inl rfl)
 ·exact hk _ (.inr ⟨by unfold left_;omega,by omega⟩)
theorem Ze {l:Int} {xs:List (List Int)} {v:PV} (hI:FII v xs) (hb:xs.length≤9223372036854775807) (hb2:∀x∈xs,x.length≤9223372036854775807) (hl:left_ l) (hk:∀r:Int,(r=-1∨(left_ r∧SzL xs))→K (.int .i64 r) σ):zA Tryd.prog 10 [v,.int .i64 l] σ K:=by
 obtain⟨w,a,rs,rfl,hr⟩:=hI;have hl':=hl;unfold left_ at hl
 refine zD mix Tryd.func10 ?_;simp only [pwA,seval,-iQ0,wrap64 (n:=l-(xs.length:Int)) (by omega) (by omega)]
 refine iteI (fun h=>?_) fun h=>?_
 ·exact hk _ (.inl rfl)
 refine zC (fun m vs h'=>∃i:Nat,i≤xs.length∧m=xs.length-i∧∃r:Int,left_ r∧vs=[.fz w a xs.length rs,.int .i64 r,.int .i64 i]∧σ=h'∧∀x∈xs.take i,x.length≤1048576) xs.length ?_ ?_
 ·exact⟨0,by omega,by omega,_,(by unfold left_;omega),rfl,rfl,by simp⟩
 rintro m vs h' ⟨i,hi,rfl,r,hr',rfl,rfl,hall⟩
 simp only [pwA,seval,-iQ0];refine iteI (fun hlt=>?_) fun hge=>?_
 rotate_left
 ·exact hk _ (.inr ⟨hr',by omega,ZR (by omega) hall⟩)
 obtain⟨w4,a4,hrk⟩:=hr.rowI hlt;simp only [pwA,seval,-iQ0,hlt,hrk];refine zAP ⟨_,_,rfl⟩ (hb2 _ (List.getElem_mem hlt)) hr' fun r' h=>?_
 rcases h with rfl|⟨h1,h2⟩
 ·simp only [pwA,seval,-iQ0]
  exact hk _ (.inl rfl)
 ·have:¬r'<0:=by unfold left_ at h1;omega
  simp only [pwA,seval,-iQ0,this,wrapS hlt (by omega:xs.length≤4611686018427387904)]
  exact⟨_,by omega,i+1,by omega,rfl,_,h1,rfl,qm hlt hall h2⟩
structure SzM (B:List (List (List Int))):Prop where
 l:B.length≤1048576
 r:∀q∈B,SzL q
theorem zBz {l:Int} {xs:List (List (List Int))} {v:PV} (hI:FIII v xs) (hb:xs.length≤9223372036854775807) (hb2:∀q∈xs,q.length≤9223372036854775807∧∀x∈q,x.length≤9223372036854775807) (hl:left_ l) (hk:∀r:Int,(r=-1∨(left_ r∧SzM xs))→K (.int .i64 r) σ):zA Tryd.prog 38 [v,.int .i64 l] σ K:=by
 obtain⟨w,a,rs,rfl,hr⟩:=hI;have hl':=hl;unfold left_ at hl
 refine zD mix Tryd.func38 ?_;simp only [pwA,seval,-iQ0,wrap64 (n:=l-(xs.length:Int)) (by omega) (by omega)]
 refine iteI (fun h=>?_) fun h=>?_
 ·exact hk _ (.inl rfl)
 refine zC (fun m vs h'=>∃i:Nat,i≤xs.length∧m=xs.length-i∧∃r:Int,left_ r∧vs=[.fz w a xs.length rs,.int .i64 r,.int .i64 i]∧σ=h'∧∀x∈xs.take i,SzL x) xs.length ?_ ?_
 ·exact⟨0,by omega,by omega,_,(by unfold left_;omega),rfl,rfl,by simp⟩
 rintro m vs h' ⟨i,hi,rfl,r,hr',rfl,rfl,hall⟩
 simp only [pwA,seval,-iQ0];refine iteI (fun hlt=>?_) fun hge=>?_
 rotate_left
 ·exact hk _ (.inr ⟨hr',by omega,ZR (by omega) hall⟩)
 obtain⟨w4,a4,rk,hrk,hrs⟩:=hr.rowL hlt;have hbi:=hb2 _ (List.getElem_mem hlt);simp only [pwA,seval,-iQ0,hlt,hrk];refine Ze ⟨_,_,_,rfl,hrs⟩ hbi.1 hbi.2 hr' fun r' h=>?_
 rcases h with rfl|⟨h1,h2⟩
 ·simp only [pwA,seval,-iQ0]
  exact hk _ (.inl rfl)
 ·have:¬r'<0:=by unfold left_ at h1;omega
  simp only [pwA,seval,-iQ0,this,wrapS hlt (by omega:xs.length≤4611686018427387904)]
  exact⟨_,by omega,i+1,by omega,rfl,_,h1,rfl,qm hlt hall h2⟩
theorem zC5 {v:PV} {xs:List Int} (hI:FI v xs) (hb:xs.length≤1048576) (hk:∀cap,full 1 cap xs.length→K (.sl σ.next 0 xs.length cap) (σ.new (pis xs))):zA Tryd.prog 28 [v] σ K:=by
 obtain⟨w,a,rfl⟩:=hI;refine zD mix Tryd.func28 ?_;simp only [pwA,seval,-iQ0,zBd,mk8 (n:=xs.length) (by omega),mkL (n:=xs.length) (by omega)]
 refine zC (fun m vs h'=>∃i:Nat,i≤xs.length∧m=xs.length-i∧vs=[.fz w a xs.length (pis xs),.sl σ.next 0 xs.length (.known xs.length),.int .i64 i]∧h'=σ.new (pis (xs.take i++List.replicate (xs.length-i) 0))) xs.length ?_ ?_
 ·exact⟨0,by omega,by omega,rfl,by rw [List.take_zero,List.nil_append,Nat.sub_zero]⟩
 rintro m vs h' ⟨i,hi,rfl,rfl,rfl⟩
 simp only [pwA,seval,-iQ0];refine iteI (fun hlt=>?_) fun hge=>?_
 ·have hlen:i+1≤(xs.take i++List.replicate (xs.length-i) 0).length:=by simp;omega
  simp only [pwA,seval,-iQ0,hlt,gi hlt,zN,ZP,hlen,wrapS hlt (by omega:xs.length≤4611686018427387904)]
  refine⟨_,by omega,i+1,by omega,rfl,rfl,?_⟩
  rw [QP (by omega),zCH xs 0 hlt]
 ·have hie:i=xs.length:=by omega
  subst hie;rw [List.take_length,Nat.sub_self,List.replicate_zero,List.append_nil];exact hk _ (.inr rfl)
theorem zAO {v:PV} {xs:List Int} (hI:FI v xs) (hb:xs.length≤1048576) (hk:∀v,FI v xs→K v σ):zA Tryd.prog 28 [v] σ K:=
 zA.fz (fun K'=>zC5 hI hb) (ZZ _ _) fun o cap=>hk _ ⟨_,_,rfl⟩
theorem zCJ {rows:List PV} {z r:PV} {n i:Nat} (hl:rows.length=i) (hi:i<n):(rows++List.replicate (n-i) z).take i++[r]++(rows++List.replicate (n-i) z).drop (i+1)=(rows++[r])++List.replicate (n-(i+1)) z:=by
 rw [List.take_append_of_le_length (by omega),List.take_of_length_le (by omega),List.drop_append,List.drop_eq_nil_of_le (by omega),List.nil_append,hl]
 congr 1
 obtain⟨k,hk⟩:∃k,n-i=k+1:=⟨n-i-1,by omega⟩
 rw [hk,show i+1-i=1 by omega,List.replicate_succ,List.drop_succ_cons,List.drop_zero]
 congr 1;omega
theorem Zd {v:PV} {xs:List (List Int)} (hI:FII v xs) (sz:SzL xs) (hk:∀v,FII v xs→K v σ):zA Tryd.prog 14 [v] σ K:=by
 obtain⟨w,a,rs,rfl,hr⟩:=hI;have hb:=sz.l;refine zA.gh ?_;refine zD mix Tryd.func14 ?_;simp only [pwA,seval,-iQ0,mk24 (n:=xs.length) (by omega),mkL (n:=xs.length) (by omega)]
 refine zC (fun m vs h'=>∃i:Nat,i≤xs.length∧m=xs.length-i∧vs=[.fz w a xs.length rs,.sl σ.next 0 xs.length (.known xs.length),.int .i64 i]∧∃rows:List PV,rows.length=i∧All2 FI rows (xs.take i)∧h'=σ.new (rows++List.replicate (xs.length-i) (.fz true .nils 0 []))) xs.length ?_ ?_
 ·exact⟨0,by omega,by omega,rfl,[],rfl,by simpa using All2.nil _,by simp⟩
 rintro m vs h' ⟨i,hi,rfl,rfl,rows,hrl,hra,rfl⟩
 simp only [pwA,seval,-iQ0];refine iteI (fun hlt=>?_) fun hge=>?_
 ·obtain⟨w4,a4,hrk⟩:=hr.rowI hlt
  simp only [pwA,seval,-iQ0,hlt,hrk];refine zAO ⟨_,_,rfl⟩ (sz.r _ (List.getElem_mem hlt)) fun r hr'=>?_
  have hlen:i+1≤(rows++List.replicate (xs.length-i) (PV.fz true .nils 0 [])).length:=by simp;omega
  simp only [pwA,seval,-iQ0,hlt,hlen,hr'.cells,hr'.one,wrapS hlt (by omega:xs.length≤4611686018427387904)]
  refine⟨_,by omega,i+1,by omega,rfl,rfl,rows++[r],by simp [hrl],?_,?_⟩
  ·rw [List.take_succ_eq_append_getElem hlt];exact hra.snoc hr'
  ·rw [zCJ hrl hlt]
 ·have hie:i=xs.length:=by omega
  subst hie;rw [List.take_length]at hra
  rw [Nat.sub_self,List.replicate_zero,List.append_nil];exact Gh.finF (zF σ _) (by simp only [pwA,seval,-iQ0]) (Nat.le_refl _) (hra.bI 0) (by simp [capOK]) fun o=>hk _ ⟨_,_,_,rfl,hra⟩
theorem zBy {v:PV} {xs:List (List (List Int))} (hI:FIII v xs) (sz:SzM xs) (hk:∀v,FIII v xs→K v σ):zA Tryd.prog 48 [v] σ K:=by
 obtain⟨w,a,rs,rfl,hr⟩:=hI;have hb:=sz.l;refine zA.gh ?_;refine zD mix Tryd.func48 ?_;simp only [pwA,seval,-iQ0,mk24 (n:=xs.length) (by omega),mkL (n:=xs.length) (by omega)]
 refine zC (fun m vs h'=>∃i:Nat,i≤xs.length∧m=xs.length-i∧vs=[.fz w a xs.length rs,.sl σ.next 0 xs.length (.known xs.length),.int .i64 i]∧∃rows:List PV,rows.length=i∧All2 FII rows (xs.take i)∧h'=σ.new (rows++List.replicate (xs.length-i) (.fz true .nils 0 []))) xs.length ?_ ?_
 ·exact⟨0,by omega,by omega,rfl,[],rfl,by simpa using All2.nil _,by simp⟩
 rintro m vs h' ⟨i,hi,rfl,rfl,rows,hrl,hra,rfl⟩
 simp only [pwA,seval,-iQ0];refine iteI (fun hlt=>?_) fun hge=>?_
 ·obtain⟨w4,a4,rk,hrk,hrs⟩:=hr.rowL hlt
  simp only [pwA,seval,-iQ0,hlt,hrk];refine Zd ⟨_,_,_,rfl,hrs⟩ (sz.r _ (List.getElem_mem hlt)) fun r hr'=>?_
  have hlen:i+1≤(rows++List.replicate (xs.length-i) (PV.fz true .nils 0 [])).length:=by simp;omega
  simp only [pwA,seval,-iQ0,hlt,hlen,hr'.cells,hr'.one,wrapS hlt (by omega:xs.length≤4611686018427387904)]
  refine⟨_,by omega,i+1,by omega,rfl,rfl,rows++[r],by simp [hrl],?_,?_⟩
  ·rw [List.take_succ_eq_append_getElem hlt];exact hra.snoc hr'
  ·rw [zCJ hrl hlt]
 ·have hie:i=xs.length:=by omega
  subst hie;rw [List.take_length]at hra
  rw [Nat.sub_self,List.replicate_zero,List.append_nil];exact Gh.finF (zF σ _) (by simp only [pwA,seval,-iQ0]) (Nat.le_refl _) (hra.bL 0) (by simp [capOK]) fun o=>hk _ ⟨_,_,_,rfl,hra⟩
theorem zAZ {v v':PV} {xs ys:List Int} (hI:FI v xs) (hI':FI v' ys) (hb:xs.length≤4611686018427387904) (hk:K (.bool (decide (xs=ys))) σ):zA Tryd.prog 37 [v,v'] σ K:=by
 obtain⟨w,a,rfl⟩:=hI;obtain⟨w',a',rfl⟩:=hI';refine zD mix Tryd.func37 ?_;simp only [pwA,seval,-iQ0];refine iteI (fun hl=>?_) fun hl=>?_
 rotate_left
 ·exact pkf hk fun hv=>hl (by rw [hv])
 have hl:xs.length=ys.length:=by omega
 refine zC (fun m vs h'=>∃i:Nat,i≤xs.length∧m=xs.length-i∧vs=[.fz w a xs.length (pis xs),.fz w' a' ys.length (pis ys),.int .i64 i]∧σ=h'∧xs.take i=ys.take i) xs.length ?_ ?_
 ·exact⟨0,by omega,by omega,rfl,rfl,by simp⟩
 rintro m vs h' ⟨i,hi,rfl,rfl,rfl,hall⟩
 simp only [pwA,seval,-iQ0];refine iteI (fun hlt=>?_) fun hge=>?_
 ·have hlt2:i<ys.length:=by omega
  simp only [pwA,seval,-iQ0,hlt,hlt2,zN,gi hlt,gi hlt2];refine iteI (fun h0=>?_) fun hn=>?_
  ·simp only [pwA,seval,-iQ0,wrapS hlt hb]
   exact⟨_,by omega,i+1,by omega,rfl,rfl,zCr hl hlt hall h0⟩
  ·exact pkf hk fun hv=>hn (by subst hv;rfl)
 ·refine pkt hk ?_
  rwa [List.take_of_length_le (by omega),List.take_of_length_le (by omega)]at hall
theorem zCq {α:Type} {xs ys:List α} (hl:xs.length=ys.length) {i:Nat} (hi:i<xs.length) (h:xs.take i=ys.take i) (he:xs[i]=ys[i]'(by omega)):xs.take (i+1)=ys.take (i+1):=by
 rw [List.take_succ_eq_append_getElem hi,List.take_succ_eq_append_getElem (by omega:i<ys.length),h,he]
theorem Zn {v v':PV} {xs ys:List (List Int)} (hI:FII v xs) (hI':FII v' ys) (sz:SzL xs) (hk:∀t:Bool,(t=true↔xs=ys)→K (.bool t) σ):zA Tryd.prog 18 [v,v'] σ K:=by
 obtain⟨w,a,rs,rfl,hr⟩:=hI;obtain⟨w',a',rs',rfl,hr'⟩:=hI';have hb:=sz.l;have fl:∀{A:Prop},¬A→((false=true)↔A):=fun h=>⟨fun x=>(by cases x),fun x=>absurd x h⟩
 refine zD mix Tryd.func18 ?_;simp only [pwA,seval,-iQ0];refine iteI (fun hl=>?_) fun hl=>?_
 rotate_left
 ·exact hk _ (fl fun hv=>hl (by rw [hv]))
 have hl:xs.length=ys.length:=by omega
 refine zC (fun m vs h'=>∃i:Nat,i≤xs.length∧m=xs.length-i∧vs=[.fz w a xs.length rs,.fz w' a' ys.length rs',.int .i64 i]∧σ=h'∧xs.take i=ys.take i) xs.length ?_ ?_
 ·exact⟨0,by omega,by omega,rfl,rfl,by simp⟩
 rintro m vs h' ⟨i,hi,rfl,rfl,rfl,hall⟩
 simp only [pwA,seval,-iQ0];refine iteI (fun hlt=>?_) fun hge=>?_
 ·have hlt2:i<ys.length:=by omega
  obtain⟨w4,a4,h4⟩:=hr.rowI hlt;obtain⟨w5,a5,h5⟩:=hr'.rowI hlt2;simp only [pwA,seval,-iQ0,hlt,hlt2,h4,h5];refine zAZ ⟨_,_,rfl⟩ ⟨_,_,rfl⟩ (by have:=sz.r _ (List.getElem_mem hlt);omega) ?_
  by_cases he:xs[i]=ys[i]
  ·simp only [pwA,seval,-iQ0,eq_true he,wrapS hlt (by omega:xs.length≤4611686018427387904)]
   exact⟨_,by omega,i+1,by omega,rfl,rfl,zCq hl hlt hall he⟩
  ·simp only [pwA,seval,-iQ0,he]
   exact hk _ (fl fun hv=>he (by subst hv;rfl))
 ·refine hk _ ⟨fun _=>?_,fun _=>rfl⟩
  rwa [List.take_of_length_le (by omega),List.take_of_length_le (by omega)]at hall
theorem zB9 {v v':PV} {xs ys:List (List (List Int))} (hI:FIII v xs) (hI':FIII v' ys) (sz:SzM xs) (hk:∀t:Bool,(t=true↔xs=ys)→K (.bool t) σ):zA Tryd.prog 60 [v,v'] σ K:=by
 obtain⟨w,a,rs,rfl,hr⟩:=hI;obtain⟨w',a',rs',rfl,hr'⟩:=hI';have hb:=sz.l;have fl:∀{A:Prop},¬A→((false=true)↔A):=fun h=>⟨fun x=>(by cases x),fun x=>absurd x h⟩
 refine zD mix Tryd.func60 ?_;simp only [pwA,seval,-iQ0];refine iteI (fun hl=>?_) fun hl=>?_
 rotate_left
 ·exact hk _ (fl fun hv=>hl (by rw [hv]))
 have hl:xs.length=ys.length:=by omega
 refine zC (fun m vs h'=>∃i:Nat,i≤xs.length∧m=xs.length-i∧vs=[.fz w a xs.length rs,.fz w' a' ys.length rs',.int .i64 i]∧σ=h'∧xs.take i=ys.take i) xs.length ?_ ?_
 ·exact⟨0,by omega,by omega,rfl,rfl,by simp⟩
 rintro m vs h' ⟨i,hi,rfl,rfl,rfl,hall⟩
 simp only [pwA,seval,-iQ0];refine iteI (fun hlt=>?_) fun hge=>?_
 ·have hlt2:i<ys.length:=by omega
  obtain⟨w4,a4,r4,h4,g4⟩:=hr.rowL hlt;obtain⟨w5,a5,r5,h5,g5⟩:=hr'.rowL hlt2;simp only [pwA,seval,-iQ0,hlt,hlt2,h4,h5];refine Zn ⟨_,_,_,rfl,g4⟩ ⟨_,_,_,rfl,g5⟩ (sz.r _ (List.getElem_mem hlt)) fun t ht=>?_
  cases t with
  | true=>
   simp only [pwA,seval,-iQ0,wrapS hlt (by omega:xs.length≤4611686018427387904)]
   exact⟨_,by omega,i+1,by omega,rfl,rfl,zCq hl hlt hall (ht.1 rfl)⟩
  | false=>
   simp only [pwA,seval,-iQ0];exact hk _ (fl fun hv=>by subst hv;cases ht.2 rfl)
 ·refine hk _ ⟨fun _=>?_,fun _=>rfl⟩
  rwa [List.take_of_length_le (by omega),List.take_of_length_le (by omega)]at hall
end Go.Proofs
namespace Go.Grp
open Go.Ab Go.Lie
section
variable {α:Type} {S:α→Prop} {m:α→α→α} {e:α}
def pw (m:α→α→α) (e x:α):Nat→α
 | 0=>e
 | k+1=>m (pw m e x k) x
end
variable {O:List Int} {P:List (List Int)} {C:List (List (List Int))}
structure TT (O:List Int) (t:Nat) (x:List Int):Prop where
 len:x.length=O.length
 bd:∀j,j<O.length→0≤at_ x j∧at_ x j<at_ O j
 zero:∀j,j<t→at_ x j=0
abbrev nx (x:List Int) (j:Nat):Nat:=(at_ x j).toNat
abbrev cvec (C:List (List (List Int))) (i j:Nat):List Int:=(C.getD i []).getD (j-i-1) []
abbrev pvec (P:List (List Int)) (i:Nat):List Int:=P.getD i []
structure Shp (O:List Int) (P:List (List Int)) (C:List (List (List Int))):Prop where
 le:O.length≤6
 pr:∀j,j<O.length→2≤at_ O j∧at_ O j≤7
 pl:P.length=O.length
 cl:C.length=O.length
 pw:∀i,i<O.length→TT O (i+1) (pvec P i)
 row:∀i,i<O.length→(C.getD i []).length=O.length-1-i
 cj:∀i j,i<j→j<O.length→TT O (i+1) (cvec C i j)
end Go.Grp
namespace Go.Grp
end Go.Grp
namespace Go.Proofs
open Go.Ab Go.Lie Go.Grp
variable {σ:PHeap} {K:PV→PHeap→Prop} {O:List Int} {P:List (List Int)} {C:List (List (List Int))} {vO vP vC vx:PV} {s:Nat} {x:List Int}
structure IsPr (vO vP vC:PV) (O:List Int) (P:List (List Int)) (C:List (List (List Int))):Prop where
 O:FI vO O
 P:FII vP P
 C:FIII vC C
structure SzP (O:List Int) (P:List (List Int)) (C:List (List (List Int))):Prop where
 O:O.length≤1048576
 P:SzL P
 C:SzM C
structure PtrG (σ:PHeap) (s:Nat) (vO vP vC:PV):Prop where
 obj:σ.obj s=some [vO,vP,vC]
 lt:s<σ.next
def isExp (O x:List Int):Prop:=x.length=O.length∧∀j,j<x.length→0≤at_ x j∧at_ x j≤at_ O j-1
def qE (O:List Int) (t:Nat) (x:List Int):Prop:=isExp O x∧isZ (x.take t)
def prodL:List Int→Int
 | []=>1
 | o::O=>o*prodL O
def rowPr (O:List Int) (P:List (List Int)) (C:List (List (List Int))) (i:Nat):Prop:=qE O (i+1) (P.getD i [])∧(C.getD i []).length=O.length-1-i∧∀k,k<(C.getD i []).length→qE O (i+1) ((C.getD i []).getD k [])
def zg (O:List Int) (P:List (List Int)) (C:List (List (List Int))):Prop:=
 O.length≤6∧P.length=O.length∧C.length=O.length∧(∀o∈O,isP o)∧prodL O≤729∧∀i,i<O.length→rowPr O P C i
theorem qE.tt {t:Nat} (h:qE O t x):TT O t x:=by
 refine⟨h.1.1,fun j hj=>by have:=h.1.2 j (by rw [h.1.1];exact hj);omega,fun j hj=>?_⟩
 rcases Nat.lt_or_ge j x.length with e|e
 ·rw [at_eq e]
  exact h.2 _ (by rw [List.mem_take_iff_getElem];exact⟨j,by omega,rfl⟩)
 ·exact at_ge e
theorem zg.shp (h:zg O P C):Shp O P C:=by
 obtain⟨h1,h2,h3,h4,h5,h6⟩:=h;refine⟨h1,fun j hj=>?_,h2,h3,fun i hi=>(h6 i hi).1.tt,fun i hi=>(h6 i hi).2.1,fun i j hij hj=>?_⟩
 ·rw [at_eq hj];exact(h4 _ (List.getElem_mem hj)).bd
 ·have:=(h6 i (by omega)).2.2 (j-i-1) (by rw [(h6 i (by omega)).2.1];omega)
  exact this.tt
theorem zBg (hs:PtrG σ s vO vP vC) (hO:FI vO O) (szO:O.length≤1048576) (bO:∀o∈O,isP o) (hx:FI vx x) (hb:x.length≤1048576) (hk:∀t:Bool,(t=true↔isExp O x)→K (.bool t) σ):zA Tryd.prog 61 [.ptr s 0,vx] σ K:=by
 have fl:∀{A:Prop},¬A→((false=true)↔A):=fun h=>⟨fun x=>(by cases x),fun x=>absurd x h⟩
 obtain⟨wo,ao,rfl⟩:=hO;obtain⟨wx,ax,rfl⟩:=hx;have e0:σ.rd1 s 0=some (.fz wo ao O.length (pis O)):=by rw [zq hs.obj];rfl
 refine zD mix Tryd.func61 ?_;simp only [pwA,seval,-iQ0,e0];refine iteI (fun hl=>?_) fun hl=>?_
 rotate_left
 ·exact hk _ (fl fun h=>hl (by rw [h.1]))
 have hl:x.length=O.length:=by omega
 refine zC (fun m vs h'=>∃i:Nat,i≤x.length∧m=x.length-i∧vs=[.ptr s 0,.fz wx ax x.length (pis x),.int .i64 x.length,.int .i64 i]∧σ=h'∧∀j,j<i→0≤at_ x j∧at_ x j≤at_ O j-1) x.length ?_ ?_
 ·exact⟨0,by omega,by omega,rfl,rfl,fun j hj=>by omega⟩
 rintro m vs h' ⟨i,hi,rfl,rfl,rfl,hall⟩
 simp only [pwA,seval,-iQ0];refine iteI (fun hlt=>?_) fun hge=>?_
 ·have hO':i<O.length:=by omega
  have bo:=(bO _ (List.getElem_mem hO')).bd;simp only [pwA,seval,-iQ0,hlt,hO',e0,gi hlt,gi hO',zN,wrap64 (n:=O[i] - 1) (by omega) (by omega)]
  refine Qu ?_
  by_cases hin:0≤x[i]∧x[i]≤O[i] - 1
  ·simp only [pwA,seval,-iQ0,hin,wrapS hlt (by omega:x.length≤4611686018427387904)]
   refine⟨_,by omega,i+1,by omega,rfl,rfl,fun j hj=>?_⟩
   by_cases e:j=i
   ·subst e;rw [at_eq hlt,at_eq hO'];exact hin
   ·exact hall j (by omega)
  ·simp only [pwA,seval,-iQ0,hin]
   exact hk _ (fl fun h=>hin (by have:=h.2 i hlt;rwa [at_eq hlt,at_eq hO']at this))
 ·exact hk _ ⟨fun _=>⟨hl,fun j hj=>hall j (by omega)⟩,fun _=>rfl⟩
theorem Qa {i:Nat} (hs:PtrG σ s vO vP vC) (hO:FI vO O) (szO:O.length≤1048576) (bO:∀o∈O,isP o) (hx:FI vx x) (hb:x.length≤1048576) (hi:i<O.length) (hk:∀t:Bool,(t=true↔qE O (i+1) x)→K (.bool t) σ):zA Tryd.prog 50 [.ptr s 0,.int .i64 i,vx] σ K:=by
 have fl:∀{A:Prop},¬A→((false=true)↔A):=fun h=>⟨fun x=>(by cases x),fun x=>absurd x h⟩
 refine zD mix Tryd.func50 ?_;simp only [pwA,seval,-iQ0];refine zBg hs hO szO bO hx hb fun t ht=>?_
 cases t with
 | false=>
  simp only [pwA,seval,-iQ0];exact hk _ (fl fun h=>by cases ht.2 h.1)
 | true=>
  have he:=ht.1 rfl;have hl:=he.1;obtain⟨wx,ax,rfl⟩:=hx;have hle2:((i+1:Nat):Int)≤(x.length:Int):=by omega
  have hle3:i+1≤x.length:=by omega
  simp only [pwA,seval,-iQ0,wrapS hi (by omega:O.length≤4611686018427387904),hle2,hle3,zGE,Nat.sub_zero]
  refine zBr (by simp;omega) (by simp;omega) ?_
  by_cases hz:isZ (x.take (i+1))
  ·simp only [pwA,seval,-iQ0,hz]
   exact hk _ ⟨fun _=>⟨he,hz⟩,fun _=>rfl⟩
  ·simp only [pwA,seval,-iQ0,hz]
   exact hk _ (fl fun h=>hz h.2)
theorem Zi:∀(a b:List Int),prodL (a++b)=prodL a*prodL b
 | [],b=>by simp [prodL]
 | x::a,b=>by simp [prodL,Zi a b,Int.mul_assoc]
theorem ZN {i:Nat} (hi:i<O.length):prodL (O.take (i+1))=prodL (O.take i)*O[i]:=by
 rw [List.take_succ_eq_append_getElem hi,Zi];simp [prodL]
theorem ZE:∀{O:List Int},(∀o∈O,isP o)→1≤prodL O
 | [],_=>by simp [prodL]
 | o::O,h=>by
  have h1:=(h o (by simp)).bd
  have h2:=ZE (O:=O) fun q hq=>h q (by simp [hq])
  simp only [prodL]
  have:=Int.mul_le_mul h1.1 h2 (by omega) (by omega)
  omega
theorem zD8 (h:∀o∈O,isP o) (i:Nat):prodL (O.take i)≤prodL O:=by
 have h1:=ZE fun o ho=>h o (List.mem_of_mem_take (i:=i) ho)
 have h2:=ZE fun o ho=>h o (List.mem_of_mem_drop (i:=i) ho)
 have:prodL O=prodL (O.take i)*prodL (O.drop i):=by rw [←Zi,List.take_append_drop]
 have h3:=Int.mul_le_mul (Int.le_refl (prodL (O.take i))) h2 (by omega) (by omega)
 omega
theorem zAN (hR:IsPr vO vP vC O P C) (sz:SzP O P C) (hk:∀t:Bool,(t=true↔zg O P C)→K (.bool t) σ):zA Tryd.prog 31 [.agg [vO,vP,vC]] σ K:=by
 have hFO:=hR.O;have ho1:=hR.O.one;have szP:=sz.P;have szC:=sz.C;obtain⟨⟨w0,a0,rfl⟩,⟨w1,a1,rP,rfl,hP⟩,⟨w3,a3,rC,rfl,hC⟩⟩:=hR;refine zA.gh ?_;have fin:∀{t:Bool} {σ':PHeap},(t=true↔zg O P C)→Keep σ σ'→Gh σ K (.bool t) σ':=fun h k=>Gh.fin0 k trivial (hk _ h)
 have no:∀{σ':PHeap},¬zg O P C→Keep σ σ'→Gh σ K (.bool false) σ':=fun h k=>fin ⟨fun x=>(by cases x),fun x=>absurd x h⟩ k
 have hkp:=zF σ [.fz w0 a0 O.length (pis O),.fz w1 a1 P.length rP,.fz w3 a3 C.length rC];have hpt:PtrG (σ.new [.fz w0 a0 O.length (pis O),.fz w1 a1 P.length rP,.fz w3 a3 C.length rC]) σ.next (.fz w0 a0 O.length (pis O)) (.fz w1 a1 P.length rP) (.fz w3 a3 C.length rC):=⟨by simp only [pwA,seval,-iQ0],by simp only [pwA,seval,-iQ0]⟩
 refine zD mix Tryd.func31 ?_;simp only [pwA,seval,-iQ0]
 by_cases h6:O.length≤6
 rotate_left
 ·have h6':(6:Int)<(O.length:Int):=by omega
  simp only [pwA,seval,-iQ0,h6'];exact no (fun h=>h6 h.1) hkp
 have h6':¬(6:Int)<(O.length:Int):=by omega
 by_cases hPl:P.length=O.length
 rotate_left
 ·have hPl':¬(P.length:Int)=(O.length:Int):=by omega
  simp only [pwA,seval,-iQ0,h6',hPl'];exact no (fun h=>hPl h.2.1) hkp
 have hPl':(P.length:Int)=(O.length:Int):=by omega
 by_cases hCl:C.length=O.length
 rotate_left
 ·have hCl':¬(C.length:Int)=(O.length:Int):=by omega
  simp only [pwA,seval,-iQ0,h6',eq_true hPl',hCl'];exact no (fun h=>hCl h.2.2.1) hkp
 have hCl':(C.length:Int)=(O.length:Int):=by omega
 simp only [pwA,seval,-iQ0,h6',eq_true hPl',eq_true hCl'];refine zC (fun m vs h'=>∃i:Nat,i≤O.length∧m=O.length-i∧vs=[.ptr σ.next 0,.int .i64 O.length,.int .i64 (prodL (O.take i)),.fz w0 a0 O.length (pis O),.int .i64 O.length,.int .i64 i]∧h'=σ.new [.fz w0 a0 O.length (pis O),.fz w1 a1 P.length rP,.fz w3 a3 C.length rC]∧(∀o∈O.take i,isP o)∧prodL (O.take i)≤729) O.length ?_ ?_
 ·exact⟨0,by omega,by omega,rfl,rfl,by simp,by simp [prodL]⟩
 rintro m vs h' ⟨i,hi,rfl,rfl,rfl,hall,hpr⟩
 simp only [pwA,seval,-iQ0];refine iteI (fun hlt=>?_) fun hge=>?_
 ·simp only [pwA,seval,-iQ0,hlt,gi hlt,zN]
  refine zBY ?_
  by_cases hp:isP O[i]
  rotate_left
  ·simp only [pwA,seval,-iQ0,hp]
   exact no (fun h=>hp (h.2.2.2.1 _ (List.getElem_mem hlt))) hkp
  have hpb:=hp.bd;have h1:=ZE hall;have hm1:0≤prodL (O.take i)*O[i]:=Int.mul_nonneg (by omega) (by omega)
  have hm2:=Int.mul_le_mul hpr hpb.2 (by omega) (by omega)
  have hw:IntKind.i64.wrap (prodL (O.take i)*O[i])=prodL (O.take i)*O[i]:=wrap64 (by omega) (by omega)
  by_cases ho:prodL (O.take i)*O[i]≤729
  ·have ho':¬(729:Int)<prodL (O.take i)*O[i]:=by omega
   simp only [pwA,seval,-iQ0,hp,hw,ho',hlt,gi hlt,zN,wrapS hlt (by omega:O.length≤4611686018427387904)]
   refine⟨_,by omega,i+1,by omega,rfl,?_,qm hlt hall hp,?_⟩
   ·rw [ZN hlt]
   ·rw [ZN hlt];exact ho
  ·have ho':(729:Int)<prodL (O.take i)*O[i]:=by omega
   simp only [pwA,seval,-iQ0,hp,hw,ho'];refine no (fun h=>?_) hkp
   have:=zD8 h.2.2.2.1 (i+1)
   rw [ZN hlt]at this
   have:=h.2.2.2.2.1
   omega
 have hie:i=O.length:=by omega
 subst hie;rw [List.take_length]at hall hpr
 refine zC (fun m vs h'=>∃i:Nat,i≤O.length∧m=O.length-i∧vs=[.ptr σ.next 0,.int .i64 O.length,.int .i64 O.length,.int .i64 i]∧h'=σ.new [.fz w0 a0 O.length (pis O),.fz w1 a1 P.length rP,.fz w3 a3 C.length rC]∧∀j,j<i→rowPr O P C j) O.length ?_ ?_
 ·exact⟨0,by omega,by omega,rfl,rfl,fun j hj=>by omega⟩
 rintro m vs h' ⟨i,hi,rfl,rfl,rfl,hrow⟩
 simp only [pwA,seval,-iQ0];refine iteI (fun hlt=>?_) fun hge=>?_
 rotate_left
 ·exact fin ⟨fun _=>⟨h6,hPl,hCl,hall,hpr,fun j hj=>hrow j (by omega)⟩,fun _=>rfl⟩ hkp
 have hiP:i<P.length:=by omega
 have hiC:i<C.length:=by omega
 obtain⟨w4,a4,hr⟩:=hP.rowI hiP;obtain⟨w5,a5,rs,hrb,hrs⟩:=hC.rowL hiC;have hwl:=szP.r _ (List.getElem_mem hiP);have hbl:=(szC.r _ (List.getElem_mem hiC)).l;have bad:(qE O (i+1) P[i]→C[i].length=O.length-1-i→(∀k (h:k<C[i].length),qE O (i+1) C[i][k])→False)→¬zg O P C:=fun hb hsh=>by
  obtain⟨q1,q3,q4⟩:=hsh.2.2.2.2.2 i hlt;rw [QW hiP]at q1
  rw [zV hiC]at q3
  refine hb q1 q3 fun k h=>?_
  have:=q4 k (by rw [zV hiC];exact h)
  rwa [zV hiC,zV h]at this
 simp only [pwA,seval,-iQ0,hiP,hr];refine Qa hpt hFO sz.O hall ⟨_,_,rfl⟩ hwl hlt fun t ht=>?_
 cases t with
 | false=>
  simp only [pwA,seval,-iQ0];exact no (bad fun q _ _=>by cases ht.2 q) hkp
 | true=>
 have hv:=ht.1 rfl;have e1:IntKind.i64.wrap ((O.length:Int)-1)=(O.length:Int)-1:=wrap64 (by omega) (by omega)
 have e2:IntKind.i64.wrap ((O.length:Int)-1-(i:Int))=(O.length:Int)-1-(i:Int):=wrap64 (by omega) (by omega)
 by_cases hlen:C[i].length=O.length-1-i
 rotate_left
 ·have hlen':¬(C[i].length:Int)=(O.length:Int)-1-(i:Int):=by omega
  simp only [pwA,seval,-iQ0,hlt,hiC,hrb,e1,e2,hlen'];exact no (bad fun _ q _=>hlen q) hkp
 have hlen':(C[i].length:Int)=(O.length:Int)-1-(i:Int):=by omega
 simp only [pwA,seval,-iQ0,hlt,hiC,hrb,e1,e2,eq_true hlen'];refine zC (fun m vs h'=>∃k:Nat,k≤C[i].length∧m=C[i].length-k∧vs=[.ptr σ.next 0,.int .i64 O.length,.int .i64 i,.int .i64 O.length,.int .i64 i,.fz w5 a5 C[i].length rs,.int .i64 C[i].length,.int .i64 k]∧
  h'=σ.new [.fz w0 a0 O.length (pis O),.fz w1 a1 P.length rP,.fz w3 a3 C.length rC]∧∀j (h:j<C[i].length),j<k→qE O (i+1) C[i][j]) C[i].length ?_ ?_
 ·exact⟨0,by omega,by omega,rfl,rfl,fun j h hj=>by omega⟩
 rintro m vs h' ⟨k,hk',rfl,rfl,rfl,hall2⟩
 simp only [pwA,seval,-iQ0];refine iteI (fun hlt2=>?_) fun hge=>?_
 ·obtain⟨w6,a6,hrk⟩:=hrs.rowI hlt2
  have hcl:=(szC.r _ (List.getElem_mem hiC)).r _ (List.getElem_mem hlt2);simp only [pwA,seval,-iQ0,hlt2,hrk];refine Qa hpt hFO sz.O hall ⟨_,_,rfl⟩ hcl hlt fun t ht=>?_
  cases t with
  | false=>
   simp only [pwA,seval,-iQ0];exact no (bad fun _ _ q=>by cases ht.2 (q k hlt2)) hkp
  | true=>
   simp only [pwA,seval,-iQ0,wrapS hlt2 (by omega:C[i].length≤4611686018427387904)]
   refine⟨_,by omega,k+1,by omega,rfl,rfl,fun j h hj=>?_⟩
   by_cases e:j=k
   ·subst e;exact ht.1 rfl
   ·exact hall2 j h (by omega)
 ·simp only [pwA,seval,-iQ0,wrapS hlt (by omega:O.length≤4611686018427387904)]
  refine⟨_,by omega,i+1,by omega,rfl,rfl,fun j hj=>?_⟩
  by_cases e:j=i
  ·subst e
   refine⟨by rw [QW hiP];exact hv,by rw [zV hiC];exact hlen,fun t ht=>?_⟩
   rw [zV hiC]at ht ⊢
   rw [zV ht];exact hall2 t ht (by omega)
  ·exact hrow j (by omega)
end Go.Proofs
namespace Go.Grp
end Go.Grp
namespace Go.Proofs
open Go.Ab Go.Lie Go.Grp
variable {σ:PHeap} {K:PV→PHeap→Prop} {O:List Int} {P:List (List Int)} {C:List (List (List Int))} {vO vP vC vx:PV} {s:Nat} {x:List Int}
theorem Zy {t:Nat} {z:Int} (hz:z=(t:Int)-1) (ht:t≤O.length) (hO:FI vO O) (szO:O.length≤1048576) (bO:∀o∈O,isP o) (hx:FI vx x) (hb:x.length≤1048576) (hk:∀b:Bool,(b=true↔qE O t x)→K (.bool b) σ):zA Tryd.prog 41 [vO,vx,.int .i64 z] σ K:=by
 have fl:∀{A:Prop},¬A→((false=true)↔A):=fun h=>⟨fun x=>(by cases x),fun x=>absurd x h⟩
 obtain⟨wo,ao,rfl⟩:=hO;obtain⟨wx,ax,rfl⟩:=hx;subst hz;refine zD mix Tryd.func41 ?_;simp only [pwA,seval,-iQ0];refine iteI (fun hl=>?_) fun hl=>?_
 rotate_left
 ·exact hk _ (fl fun h=>hl (by rw [h.1.1]))
 have hl:x.length=O.length:=by omega
 refine zC (fun m vs h'=>∃i:Nat,i≤x.length∧m=x.length-i∧vs=[.fz wo ao O.length (pis O),.fz wx ax x.length (pis x),.int .i64 ((t:Int)-1),.int .i64 i]∧σ=h'∧∀j,j<i→(0≤at_ x j∧at_ x j≤at_ O j-1)∧(j<t→at_ x j=0)) x.length ?_ ?_
 ·exact⟨0,by omega,by omega,rfl,rfl,fun j hj=>by omega⟩
 rintro m vs h' ⟨i,hi,rfl,rfl,rfl,hall⟩
 simp only [pwA,seval,-iQ0];refine iteI (fun hlt=>?_) fun hge=>?_
 rotate_left
 ·refine hk _ ⟨fun _=>⟨⟨hl,fun j hj=>(hall j (by omega)).1⟩,fun y hy=>?_⟩,fun _=>rfl⟩
  rw [List.mem_take_iff_getElem]at hy
  obtain⟨j,hj,rfl⟩:=hy
  have:=(hall j (by omega)).2 (by omega)
  rwa [at_eq (by omega)]at this
 have hO':i<O.length:=by omega
 have bo:=(bO _ (List.getElem_mem hO')).bd;simp only [pwA,seval,-iQ0,hlt,hO',gi hlt,gi hO',zN,wrap64 (n:=O[i] - 1) (by omega) (by omega)]
 refine zCj ?_
 by_cases hin:0≤x[i]∧x[i]≤O[i] - 1
 rotate_left
 ·simp only [pwA,seval,-iQ0,hin]
  exact hk _ (fl fun h=>hin (by have:=h.1.2 i hlt;rwa [at_eq hlt,at_eq hO']at this))
 have next:(i<t→x[i]=0)→∃n',n'<x.length-i∧∃i':Nat,i'≤x.length∧n'=x.length-i'∧[PV.fz wo ao O.length (pis O),.fz wx ax x.length (pis x),.int .i64 ((t:Int)-1),.int .i64 ((i+1:Nat):Int)]=[.fz wo ao O.length (pis O),.fz wx ax x.length (pis x),.int .i64 ((t:Int)-1),.int .i64 i']∧∀j,j<i'→(0≤at_ x j∧at_ x j≤at_ O j-1)∧(j<t→at_ x j=0):=fun h0=>by
  refine⟨_,by omega,i+1,by omega,rfl,rfl,fun j hj=>?_⟩
  by_cases e:j=i
  ·subst e;rw [at_eq hlt,at_eq hO'];exact⟨hin,h0⟩
  ·exact hall j (by omega)
 by_cases hle:(i:Int)≤(t:Int)-1
 ·simp only [pwA,seval,-iQ0,hin,hle,hlt,gi hlt,zN]
  refine iteI (fun h0=>?_) fun h0=>?_
  ·simp only [pwA,seval,-iQ0,wrapS hlt (by omega:x.length≤4611686018427387904)]
   exact next fun _=>h0
  ·refine hk _ (fl fun h=>h0 ?_)
   exact h.2 _ (by rw [List.mem_take_iff_getElem];exact⟨i,by omega,rfl⟩)
 ·simp only [pwA,seval,-iQ0,hin,hle,hlt,wrapS hlt (by omega:x.length≤4611686018427387904)]
  exact next fun h=>absurd h (by omega)
theorem zB7 (hO:FI vO O) (szO:O.length≤6) (bO:∀o∈O,isP o) (hk:∀r:Int,(r≤729↔prodL O≤729)→K (.int .i64 r) σ):zA Tryd.prog 40 [vO] σ K:=by
 obtain⟨wo,ao,rfl⟩:=hO;refine zD mix Tryd.func40 ?_;simp only [pwA,seval,-iQ0];refine zC (fun m vs h'=>∃(i:Nat) (r:Int),i≤O.length∧m=O.length-i∧vs=[.fz wo ao O.length (pis O),.int .i64 r,.int .i64 i]∧σ=h'∧(r=prodL (O.take i)∨(729<r∧729<prodL (O.take i)))) O.length ?_ ?_
 ·exact⟨0,1,by omega,by omega,rfl,rfl,.inl (by simp [prodL])⟩
 rintro m vs h' ⟨i,r,hi,rfl,rfl,rfl,hr⟩
 simp only [pwA,seval,-iQ0];refine iteI (fun hlt=>?_) fun hge=>?_
 rotate_left
 ·have hie:i=O.length:=by omega
  subst hie;rw [List.take_length]at hr
  exact hk _ (by omega)
 have bt:∀o∈O.take i,isP o:=fun o ho=>bO o (List.mem_of_mem_take ho)
 have h1:=ZE bt;have hp:=bO _ (List.getElem_mem hlt);have hpb:=hp.bd;have hs:=ZN hlt;refine iteI (fun hle=>?_) fun hgt=>?_
 ·have hre:r=prodL (O.take i):=by omega
  subst hre;have hm1:0≤prodL (O.take i)*O[i]:=Int.mul_nonneg (by omega) (by omega)
  have hm2:=Int.mul_le_mul hle hpb.2 (by omega) (by omega)
  simp only [pwA,seval,-iQ0,hlt,gi hlt,zN,wrap64 (n:=prodL (O.take i)*O[i]) (by omega) (by omega),wrapS hlt (by omega:O.length≤4611686018427387904)]
  exact⟨_,by omega,i+1,_,by omega,rfl,rfl,.inl hs.symm⟩
 ·simp only [pwA,seval,-iQ0,wrapS hlt (by omega:O.length≤4611686018427387904)]
  refine⟨_,by omega,i+1,_,by omega,rfl,rfl,.inr ⟨by omega,?_⟩⟩
  have hm2:=Int.mul_le_mul (Int.le_refl (prodL (O.take i))) hpb.1 (by omega) (by omega)
  omega
theorem QT (hR:IsPr vO vP vC O P C) (sz:SzP O P C) (hk:∀t:Bool,(t=true↔zg O P C)→K (.bool t) σ):zA Tryd.prog 22 [.agg [vO,vP,vC]] σ K:=by
 have hFO:=hR.O;have szP:=sz.P;have szC:=sz.C;obtain⟨⟨w0,a0,rfl⟩,⟨w1,a1,rP,rfl,hP⟩,⟨w3,a3,rC,rfl,hC⟩⟩:=hR;refine zA.gh ?_;have fin:∀{t:Bool} {σ':PHeap},(t=true↔zg O P C)→Keep σ σ'→Gh σ K (.bool t) σ':=fun h k=>Gh.fin0 k trivial (hk _ h)
 have no:∀{σ':PHeap},¬zg O P C→Keep σ σ'→Gh σ K (.bool false) σ':=fun h k=>fin ⟨fun x=>(by cases x),fun x=>absurd x h⟩ k
 have hkp:=zF σ [.fz w0 a0 O.length (pis O),.fz w1 a1 P.length rP,.fz w3 a3 C.length rC];refine zD mix Tryd.func22 ?_;simp only [pwA,seval,-iQ0]
 by_cases h6:O.length≤6
 rotate_left
 ·have h6':(6:Int)<(O.length:Int):=by omega
  simp only [pwA,seval,-iQ0,h6'];exact no (fun h=>h6 h.1) hkp
 have h6':¬(6:Int)<(O.length:Int):=by omega
 by_cases hPl:P.length=O.length
 rotate_left
 ·have hPl':¬(P.length:Int)=(O.length:Int):=by omega
  simp only [pwA,seval,-iQ0,h6',hPl'];exact no (fun h=>hPl h.2.1) hkp
 have hPl':(P.length:Int)=(O.length:Int):=by omega
 by_cases hCl:C.length=O.length
 rotate_left
 ·have hCl':¬(C.length:Int)=(O.length:Int):=by omega
  simp only [pwA,seval,-iQ0,h6',eq_true hPl',hCl'];exact no (fun h=>hCl h.2.2.1) hkp
 have hCl':(C.length:Int)=(O.length:Int):=by omega
 simp only [pwA,seval,-iQ0,h6',eq_true hPl',eq_true hCl'];refine zC (fun m vs h'=>∃i:Nat,i≤O.length∧m=O.length-i∧vs=[.ptr σ.next 0,.int .i64 O.length,.int .i64 i]∧h'=σ.new [.fz w0 a0 O.length (pis O),.fz w1 a1 P.length rP,.fz w3 a3 C.length rC]∧(∀o∈O.take i,isP o)) O.length ?_ ?_
 ·exact⟨0,by omega,by omega,rfl,rfl,by simp⟩
 rintro m vs h' ⟨i,hi,rfl,rfl,rfl,hall⟩
 simp only [pwA,seval,-iQ0];refine iteI (fun hlt=>?_) fun hge=>?_
 ·simp only [pwA,seval,-iQ0,hlt,gi hlt,zN]
  refine zDd ?_
  by_cases hp:isP O[i]
  rotate_left
  ·simp only [pwA,seval,-iQ0,hp]
   exact no (fun h=>hp (h.2.2.2.1 _ (List.getElem_mem hlt))) hkp
  simp only [pwA,seval,-iQ0,hp,wrapS hlt (by omega:O.length≤4611686018427387904)]
  exact⟨_,by omega,i+1,by omega,rfl,rfl,qm hlt hall hp⟩
 have hie:i=O.length:=by omega
 subst hie;rw [List.take_length]at hall
 simp only [pwA,seval,-iQ0];refine zB7 hFO h6 hall fun r hr=>?_
 by_cases hpr:prodL O≤729
 rotate_left
 ·have:(729:Int)<r:=by omega
  simp only [pwA,seval,-iQ0,this];exact no (fun h=>hpr h.2.2.2.2.1) hkp
 have:¬(729:Int)<r:=by omega
 simp only [pwA,seval,-iQ0,this];refine zC (fun m vs h'=>∃i:Nat,i≤O.length∧m=O.length-i∧vs=[.ptr σ.next 0,.int .i64 O.length,.int .i64 i]∧h'=σ.new [.fz w0 a0 O.length (pis O),.fz w1 a1 P.length rP,.fz w3 a3 C.length rC]∧∀j,j<i→rowPr O P C j) O.length ?_ ?_
 ·exact⟨0,by omega,by omega,rfl,rfl,fun j hj=>by omega⟩
 rintro m vs h' ⟨i,hi,rfl,rfl,rfl,hrow⟩
 simp only [pwA,seval,-iQ0];refine iteI (fun hlt=>?_) fun hge=>?_
 rotate_left
 ·exact fin ⟨fun _=>⟨h6,hPl,hCl,hall,hpr,fun j hj=>hrow j (by omega)⟩,fun _=>rfl⟩ hkp
 have hiP:i<P.length:=by omega
 have hiC:i<C.length:=by omega
 obtain⟨w4,a4,hr⟩:=hP.rowI hiP;obtain⟨w5,a5,rs,hrb,hrs⟩:=hC.rowL hiC;have hwl:=szP.r _ (List.getElem_mem hiP);have hbl:=(szC.r _ (List.getElem_mem hiC)).l;have bad:(qE O (i+1) P[i]→C[i].length=O.length-1-i→(∀k (h:k<C[i].length),qE O (i+1) C[i][k])→False)→¬zg O P C:=fun hb hsh=>by
  obtain⟨q1,q3,q4⟩:=hsh.2.2.2.2.2 i hlt;rw [QW hiP]at q1
  rw [zV hiC]at q3
  refine hb q1 q3 fun k h=>?_
  have:=q4 k (by rw [zV hiC];exact h)
  rwa [zV hiC,zV h]at this
 simp only [pwA,seval,-iQ0,hiP,hr];refine Zy (t:=i+1) (by omega) (by omega) hFO sz.O hall ⟨_,_,rfl⟩ hwl fun t ht=>?_
 cases t with
 | false=>
  simp only [pwA,seval,-iQ0];exact no (bad fun q _ _=>by cases ht.2 q) hkp
 | true=>
 have hv:=ht.1 rfl;have e1:IntKind.i64.wrap ((O.length:Int)-1)=(O.length:Int)-1:=wrap64 (by omega) (by omega)
 have e2:IntKind.i64.wrap ((O.length:Int)-1-(i:Int))=(O.length:Int)-1-(i:Int):=wrap64 (by omega) (by omega)
 by_cases hlen:C[i].length=O.length-1-i
 rotate_left
 ·have hlen':¬(C[i].length:Int)=(O.length:Int)-1-(i:Int):=by omega
  simp only [pwA,seval,-iQ0,hlt,hiC,hrb,e1,e2,hlen'];exact no (bad fun _ q _=>hlen q) hkp
 have hlen':(C[i].length:Int)=(O.length:Int)-1-(i:Int):=by omega
 simp only [pwA,seval,-iQ0,hlt,hiC,hrb,e1,e2,eq_true hlen'];refine zC (fun m vs h'=>∃k:Nat,k≤C[i].length∧m=C[i].length-k∧vs=[.ptr σ.next 0,.int .i64 O.length,.int .i64 i,.int .i64 k]∧
  h'=σ.new [.fz w0 a0 O.length (pis O),.fz w1 a1 P.length rP,.fz w3 a3 C.length rC]∧∀j (h:j<C[i].length),j<k→qE O (i+1) C[i][j]) C[i].length ?_ ?_
 ·exact⟨0,by omega,by omega,rfl,rfl,fun j h hj=>by omega⟩
 rintro m vs h' ⟨k,hk',rfl,rfl,rfl,hall2⟩
 simp only [pwA,seval,-iQ0,hiC,hrb];refine iteI (fun hlt2=>?_) fun hge=>?_
 ·obtain⟨w6,a6,hrk⟩:=hrs.rowI hlt2
  have hcl:=(szC.r _ (List.getElem_mem hiC)).r _ (List.getElem_mem hlt2);simp only [pwA,seval,-iQ0,hiC,hrb,hlt2,hrk];refine Zy (t:=i+1) (by omega) (by omega) hFO sz.O hall ⟨_,_,rfl⟩ hcl fun t ht=>?_
  cases t with
  | false=>
   simp only [pwA,seval,-iQ0];exact no (bad fun _ _ q=>by cases ht.2 (q k hlt2)) hkp
  | true=>
   simp only [pwA,seval,-iQ0,wrapS hlt2 (by omega:C[i].length≤4611686018427387904)]
   refine⟨_,by omega,k+1,by omega,rfl,rfl,fun j h hj=>?_⟩
   by_cases e:j=k
   ·subst e;exact ht.1 rfl
   ·exact hall2 j h (by omega)
 ·simp only [pwA,seval,-iQ0,wrapS hlt (by omega:O.length≤4611686018427387904)]
  refine⟨_,by omega,i+1,by omega,rfl,rfl,fun j hj=>?_⟩
  by_cases e:j=i
  ·subst e
   refine⟨by rw [QW hiP];exact hv,by rw [zV hiC];exact hlen,fun t ht=>?_⟩
   rw [zV hiC]at ht ⊢
   rw [zV ht];exact hall2 t ht (by omega)
  ·exact hrow j (by omega)
end Go.Proofs
namespace Go.Grp
end Go.Grp
namespace Go.Proofs
open Go.Ab Go.Lie Go.Grp
variable {σ:PHeap} {K:PV→PHeap→Prop} {O O':List Int} {P P':List (List Int)} {C C':List (List (List Int))} {vO vP vC vO' vP' vC':PV}
structure MxP (O:List Int) (P:List (List Int)) (C:List (List (List Int))):Prop where
 o:O.length≤9223372036854775807
 a:P.length≤9223372036854775807
 b:∀x∈P,x.length≤9223372036854775807
 c:C.length≤9223372036854775807
 d:∀q∈C,q.length≤9223372036854775807∧∀x∈q,x.length≤9223372036854775807
theorem zAG {l:Int} (hR:IsPr vO vP vC O P C) (mx:MxP O P C) (hl:left_ l) (hk:∀r:Int,(r=-1∨(left_ r∧SzP O P C))→K (.int .i64 r) σ):zA Tryd.prog 19 [.agg [vO,vP,vC],.int .i64 l] σ K:=by
 have h0:=hR.O.one;have h1:=hR.P.one;have h2:=hR.C.one;refine zA.gh ?_;have hkp:=zF σ [vO,vP,vC];refine zD mix Tryd.func19 ?_;simp only [pwA,seval,-iQ0,h0,h1,h2];refine zAP hR.O mx.o hl fun r h=>?_
 rcases h with rfl|⟨f1,f2⟩
 ·simp only [pwA,seval,-iQ0]
  exact Gh.fin0 hkp trivial (hk _ (.inl rfl))
 have:¬r<0:=by unfold left_ at f1;omega
 simp only [pwA,seval,-iQ0,this,h0,h1,h2];refine Ze hR.P mx.a mx.b f1 fun r h=>?_
 rcases h with rfl|⟨g1,g2⟩
 ·simp only [pwA,seval,-iQ0]
  exact Gh.fin0 hkp trivial (hk _ (.inl rfl))
 have:¬r<0:=by unfold left_ at g1;omega
 simp only [pwA,seval,-iQ0,this,h0,h1,h2];refine zBz hR.C mx.c mx.d g1 fun r' h=>?_
 rcases h with rfl|⟨g3,g4⟩
 ·simp only [pwA,seval,-iQ0]
  exact Gh.fin0 hkp trivial (hk _ (.inl rfl))
 have:¬r'<0:=by unfold left_ at g3;omega
 simp only [pwA,seval,-iQ0,this];exact Gh.fin0 hkp trivial (hk _ (.inr ⟨g3,f2,g2,g4⟩))
theorem zAF (hR:IsPr vO vP vC O P C) (sz:SzP O P C) (hk:∀vO vP vC,IsPr vO vP vC O P C→K (.agg [vO,vP,vC]) σ):zA Tryd.prog 27 [.agg [vO,vP,vC]] σ K:=by
 have h0:=hR.O.one;have h1:=hR.P.one;have h2:=hR.C.one;refine zA.gh ?_;refine zD mix Tryd.func27 ?_;simp only [pwA,seval,-iQ0,h0,h1,h2];refine zAO hR.O sz.O fun v0 hv0=>?_
 simp only [pwA,seval,-iQ0,hv0.cells,hv0.one];refine Zd hR.P sz.P fun v1 hv1=>?_
 simp only [pwA,seval,-iQ0,hv0.one,hv1.cells,hv1.one];refine zBy hR.C sz.C fun v2 hv2=>?_
 simp only [pwA,seval,-iQ0,hv2.cells,hv2.one,hv1.one,hv0.one];exact Gh.fin0 (v:=.agg [v0,v1,v2]) (((zF σ _).new _).new _) ⟨hv0.bel _,hv1.bel _,hv2.bel _,trivial⟩ (hk v0 v1 v2 ⟨hv0,hv1,hv2⟩)
theorem zAM (hR:IsPr vO vP vC O P C) (hR':IsPr vO' vP' vC' O' P' C') (sz:SzP O P C) (hk:∀t:Bool,(t=true↔O=O'∧P=P'∧C=C')→K (.bool t) σ):zA Tryd.prog 36 [.agg [vO,vP,vC],.agg [vO',vP',vC']] σ K:=by
 have h0:=hR.O.one;have h1:=hR.P.one;have h2:=hR.C.one;have h0':=hR'.O.one;have h1':=hR'.P.one;have h2':=hR'.C.one;refine zA.gh ?_;have hkp:Keep σ ((σ.new [vO,vP,vC]).new [vO',vP',vC']):=(zF σ _).new _;have fin:∀{t:Bool},(t=true↔O=O'∧P=P'∧C=C')→Gh σ K (.bool t) ((σ.new [vO,vP,vC]).new [vO',vP',vC']):=fun h=>Gh.fin0 hkp trivial (hk _ h)
 have fl:∀{A:Prop},¬A→((false=true)↔A):=fun h=>⟨fun x=>(by cases x),fun x=>absurd x h⟩
 refine zD mix Tryd.func36 ?_;simp only [pwA,seval,-iQ0,h0,h1,h2,h0',h1',h2'];refine zAZ hR.O hR'.O (by have:=sz.O;omega) ?_
 by_cases ho:O=O'
 rotate_left
 ·simp only [pwA,seval,-iQ0,ho]
  exact fin (fl fun h=>ho h.1)
 simp only [pwA,seval,-iQ0,eq_true ho,h0,h1,h2,h0',h1',h2'];refine Zn hR.P hR'.P sz.P fun t ht=>?_
 cases t with
 | false=>
  simp only [pwA,seval,-iQ0];exact fin (fl fun h=>by cases ht.2 h.2.1)
 | true=>
 simp only [pwA,seval,-iQ0,h0,h1,h2,h0',h1',h2'];refine zB9 hR.C hR'.C sz.C fun t ht'=>?_
 have:=fin (t:=t) ⟨fun h=>⟨ho,ht.1 rfl,ht'.1 h⟩,fun h=>ht'.2 h.2.2⟩
 cases t with
 | false=>
  simp only [pwA,seval,-iQ0];exact this
 | true=>
  simp only [pwA,seval,-iQ0];exact this
end Go.Proofs
namespace Go.Grp
end Go.Grp
namespace Go.Proofs
open Go.Ab Go.Lie Go.Grp
variable {σ:PHeap} {K:PV→PHeap→Prop} {O:List Int} {P:List (List Int)} {C:List (List (List Int))} {vO vP vC vx:PV} {s:Nat} {x:List Int} {rP rC:List PV}
theorem FI.mk {w:Bool} {a:AV} {n:Nat} (h:x.length=n):FI (.fz w a n (pis x)) x:=⟨w,a,by rw [h]⟩
end Go.Proofs
namespace Go.Grp
end Go.Grp
namespace Go.Proofs
open Go.Ab Go.Lie Go.Grp
variable {σ:PHeap} {K:PV→PHeap→Prop} {O:List Int} {P:List (List Int)} {C:List (List (List Int))} {vO vP vC vx:PV} {s:Nat} {x:List Int} {rP rC:List PV}
theorem zEZ {n k:Nat} (hn:n≤1048576) (hkn:k<n) (hk:∀v,FI v (unitL n k)→K v σ):zA Tryd.prog 47 [.int .i64 n,.int .i64 k] σ K:=by
 refine zA.gh ?_;refine zD mix Tryd.func47 ?_;simp only [pwA,seval,-iQ0,List.length_replicate,zBd,mk8 (n:=n) (by omega),mkL (n:=n) (by omega),hkn,Nat.succ_le_of_lt hkn,ZP]
 rw [QP (by simpa using hkn)]
 exact Gh.finF (s:=σ.next) (zF σ _) (by simp only [pwA,seval,-iQ0];rfl) (Nat.le_refl _) (ZZ _ _) (by simp [capOK]) fun o1=>hk _ (FI.mk (Qh n k))
end Go.Proofs
