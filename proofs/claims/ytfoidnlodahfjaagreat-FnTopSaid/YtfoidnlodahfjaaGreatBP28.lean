/- Presentations: the reference's test of their shape. -/
import Derived.Test.YtfoidnlodahfjaaGreatBAbPy
import Derived.Test.YtfoidnlodahfjaaGreatChecked
open Int renaming reduceNatCast'→iQ0
set_option maxRecDepth 100000
namespace Go.Proofs
open Go.Ab
def mI0 (d s:Nat):II:=⟨some d,.mv (.t s),true,none⟩
def kI0 (d:Nat) (k:Int):II:=⟨some d,.mv (.c (.int .i64 k)),true,none⟩
def tI0 (d:Nat) (k:Bool):II:=⟨some d,.mv (.c (.bool k)),true,none⟩
def lI0 (d s:Nat):II:=⟨some d,.load false 1 (.t s),true,none⟩
def LI0 (d s:Nat):II:=⟨some d,.load true 3 (.t s),true,none⟩
def fI0 (d o s:Nat):II:=⟨some d,.fieldAddr o (.t s),true,none⟩
def xI0 (d a i:Nat):II:=⟨some d,.indexAddr 1 (.t a) (.t i),true,none⟩
def bI0 (d:Nat) (o:BinOp) (a b:Nat):II:=⟨some d,.bin o .other (.t a) (.t b),true,none⟩
def cI0 (d:Nat) (o:BinOp) (a:Nat) (k:Int):II:=⟨some d,.bin o .other (.t a) (.c (.int .i64 k)),true,none⟩
def nI0 (d s:Nat):II:=⟨some d,.un .not (.t s),true,none⟩
def sI0 (d s:Nat):II:=⟨some d,.len (.t s),true,none⟩
def pI0 (d s:Nat):II:=⟨some d,.nilCheck (.t s),true,none⟩
def eI0 (d s i:Nat):II:=⟨some d,.extract (.t s) i,true,none⟩
def C0 (d f:Nat):II:=⟨some d,.call f [],false,none⟩
def C1 (d f a:Nat):II:=⟨some d,.call f [.t a],false,none⟩
def C2 (d f a b:Nat):II:=⟨some d,.call f [.t a,.t b],false,none⟩
def C3 (d f a b c:Nat):II:=⟨some d,.call f [.t a,.t b,.t c],false,none⟩
def mD0 (d s n:Nat):DI:=⟨⟨some d,.mv (.t s),true,none⟩,n,[]⟩
def lD0 (d s n:Nat):DI:=⟨⟨some d,.load false 1 (.t s),true,none⟩,n,[]⟩
def fD0 (d o s n:Nat):DI:=⟨⟨some d,.fieldAddr o (.t s),true,none⟩,n,[]⟩
def xD0 (d a i n:Nat):DI:=⟨⟨some d,.indexAddr 1 (.t a) (.t i),true,none⟩,n,[]⟩
def pD0 (d s n:Nat):DI:=⟨⟨some d,.nilCheck (.t s),true,none⟩,n,[]⟩
def I0 (k:Int):IX:=.c (.int .i64 k)
def G0 (d:Nat) (o:IOp) (q:Bool) (t:Nat) (b:Bool):II:=⟨some d,o,q,some (t,b)⟩
def gm0 (d s t:Nat) (b:Bool):II:=⟨some d,.mv (.t s),true,some (t,b)⟩
def oI0 (d a b:Nat):II:=⟨some d,.pick (.t a) (.c (.bool true)) (.t b),true,none⟩
def aI0 (d a b:Nat):II:=⟨some d,.pick (.t a) (.t b) (.c (.bool false)),true,none⟩
def zI0 (d:Nat):II:=⟨some d,.mv (.c .nils),true,none⟩
def yI0 (d a:Nat) (k:Int):II:=⟨some d,.indexAddr 1 (.t a) (.c (.int .i64 k)),true,none⟩
def vI0 (n a b:Nat):II:=⟨none,.store n (.t a) (.t b),false,none⟩
def wD0 (n a b i:Nat):DI:=⟨⟨none,.store n (.t a) (.t b),false,none⟩,i,[]⟩
def R0 (l:List Nat) (i:List II):IC:=.region l i
def S0 (a b:IC):IC:=.seq a b
open Tryz
theorem mix:Tryz.prog.follows .mixedOrders=true:=by kernel_rfl
def if10:IFn:=⟨[0],[(.tmp 2)],(S0 (R0 [1] [eI 1 (.box (.t 0)),tI0 2 false])
 (S0 (R0 [1,3] [fI0 7 0 1,lI0 8 7,sI0 9 8,mI0 3 9])
 (S0 (.seq (R0 [1,3,25] [mI0 10 3,cI0 11 .gtr 10 6,mI0 12 11,G0 13 (.fieldAddr 1 (.t 1)) true 12 false,G0 14 (.load false 1 (.t 13)) true 12 false,G0 15 (.len (.t 14)) true 12 false,gm0 16 3 12 false,G0 17 (.bin .neq .other (.t 15) (.t 16)) true 12 false,oI0 18 12 17,mI0 19 18,G0 20 (.fieldAddr 2 (.t 1)) true 19 false,G0 21 (.load false 1 (.t 20)) true 19 false,G0 22 (.len (.t 21)) true 19 false,gm0 23 3 19 false,G0 24 (.bin .neq .other (.t 22) (.t 23)) true 19 false,oI0 25 19 24])
 (.cond (.t 25) (S0 (R0 [2] [tI0 2 false])
 .ret) .skip))
 (S0 (.seq (R0 [1,3,4] [kI0 4 0])
 (.block 0 (.loop [1,3,4] (S0 (.seq (R0 [1,3,4,28] [mI0 26 4,mI0 27 3,bI0 28 .lss 26 27])
 (.cond (.t 28) .skip (.exit 0)))
 (S0 (.block 1 (S0 (R0 [1,3,4,37] [fI0 31 0 1,lI0 32 31,mI0 33 4,xI0 34 32 33,lI0 35 34,C1 36 35 35,nI0 37 36])
 (.cond (.t 37) (S0 (R0 [2] [tI0 2 false])
 .ret) .skip)))
 (R0 [1,3,4] [mI0 29 4,cI0 30 .add 29 1,mI0 4 30]))))))
 (S0 (.seq (R0 [1,3,41] [fI0 38 0 1,lI0 39 38,C1 40 36 39,cI0 41 .gtr 40 729])
 (.cond (.t 41) (S0 (R0 [2] [tI0 2 false])
 .ret) .skip))
 (S0 (.seq (R0 [1,3,5] [kI0 5 0])
 (.block 2 (.loop [1,3,5] (S0 (.seq (R0 [1,3,5,44] [mI0 42 5,mI0 43 3,bI0 44 .lss 42 43])
 (.cond (.t 44) .skip (.exit 2)))
 (S0 (.block 3 (S0 (.seq (.draw [1,3,5,69] [] [fD0 47 0 1 0,lD0 48 47 1,fD0 49 1 1 2,lD0 50 49 3,mD0 51 5 4,xD0 52 50 51 5,lD0 53 52 6,mD0 54 5 7,eD 55 (.call 37 [(.t 48),(.t 53),(.t 54)]) 8 [],qD 56 (.un .not (.t 55)) 9,mD0 57 56 10,⟨G0 58 (.fieldAddr 2 (.t 1)) true 57 false,11,[]⟩,⟨G0 59 (.load false 1 (.t 58)) true 57 false,12,[]⟩,⟨gm0 60 5 57 false,13,[]⟩,⟨G0 61 (.indexAddr 1 (.t 59) (.t 60)) true 57 false,14,[]⟩,⟨G0 62 (.load false 1 (.t 61)) true 57 false,15,[]⟩,⟨G0 63 (.len (.t 62)) true 57 false,16,[]⟩,⟨gm0 64 3 57 false,17,[]⟩,⟨G0 65 (.bin .sub .other (.t 64) (I0 1)) true 57 false,18,[]⟩,⟨gm0 66 5 57 false,19,[]⟩,⟨G0 67 (.bin .sub .other (.t 65) (.t 66)) true 57 false,20,[]⟩,⟨G0 68 (.bin .neq .other (.t 63) (.t 67)) true 57 false,21,[]⟩,qD 69 (.pick (.t 57) (.c (.bool true)) (.t 68)) 22])
 (.cond (.t 69) (S0 (R0 [2] [tI0 2 false])
 .ret) .skip))
 (S0 (R0 [1,3,5,6] [kI0 6 0])
 (.block 4 (.loop [1,3,5,6] (S0 (.seq (R0 [1,3,5,6,77] [mI0 70 6,fI0 71 2 1,lI0 72 71,mI0 73 5,xI0 74 72 73,lI0 75 74,sI0 76 75,bI0 77 .lss 70 76])
 (.cond (.t 77) .skip (.exit 4)))
 (S0 (.block 5 (S0 (.draw [1,3,5,6,92] [] [fD0 80 0 1 0,lD0 81 80 1,fD0 82 2 1 2,lD0 83 82 3,mD0 84 5 4,xD0 85 83 84 5,lD0 86 85 6,mD0 87 6 7,xD0 88 86 87 8,lD0 89 88 9,mD0 90 5 10,eD 91 (.call 37 [(.t 81),(.t 89),(.t 90)]) 11 [],qD 92 (.un .not (.t 91)) 12])
 (.cond (.t 92) (S0 (R0 [2] [tI0 2 false])
 .ret) .skip)))
 (R0 [1,3,5,6] [mI0 78 6,cI0 79 .add 78 1,mI0 6 79]))))))))
 (R0 [1,3,5] [mI0 45 5,cI0 46 .add 45 1,mI0 5 46]))))))
 (S0 (R0 [2] [tI0 2 true])
 .ret)))))))⟩
theorem cf10:cF prog f10=some if10:=by kernel_rfl
def if37:IFn:=⟨[0,1,2],[(.tmp 6)],(S0 (R0 [0,1,2] [tI0 6 false])
 (S0 (.seq (R0 [0,1,2,12] [mI0 8 1,sI0 9 8,mI0 10 0,sI0 11 10,bI0 12 .neq 9 11])
 (.cond (.t 12) (S0 (R0 [6] [tI0 6 false])
 .ret) .skip))
 (S0 (.seq (R0 [0,1,2,7] [kI0 7 0])
 (.block 0 (.loop [0,1,2,7] (S0 (.seq (R0 [0,1,2,7,16] [mI0 13 7,mI0 14 1,sI0 15 14,bI0 16 .lss 13 15])
 (.cond (.t 16) .skip (.exit 0)))
 (S0 (.block 1 (S0 (.draw [0,1,2,7,41] [] [mD0 19 1 0,mD0 20 7 1,xD0 21 19 20 2,lD0 22 21 3,mD0 23 0 4,mD0 24 7 5,xD0 25 23 24 6,lD0 26 25 7,qD 27 (.bin .sub .other (.t 26) (I0 1)) 8,eD 28 (.call 89 [(.t 22),(I0 0),(.t 27)]) 9 [],qD 29 (.un .not (.t 28)) 10,mD0 30 29 11,⟨gm0 31 7 30 false,12,[]⟩,⟨gm0 32 2 30 false,13,[]⟩,⟨G0 33 (.bin .leq .other (.t 31) (.t 32)) true 30 false,14,[]⟩,⟨gm0 34 33 30 false,15,[]⟩,⟨gm0 35 1 34 true,16,[]⟩,⟨gm0 36 7 34 true,17,[]⟩,⟨G0 37 (.indexAddr 1 (.t 35) (.t 36)) true 34 true,18,[]⟩,⟨G0 38 (.load false 1 (.t 37)) true 34 true,19,[]⟩,⟨G0 39 (.bin .neq .other (.t 38) (I0 0)) true 34 true,20,[]⟩,⟨G0 40 (.pick (.t 34) (.t 39) (.c (.bool false))) true 30 false,21,[]⟩,qD 41 (.pick (.t 30) (.c (.bool true)) (.t 40)) 22])
 (.cond (.t 41) (S0 (R0 [6] [tI0 6 false])
 .ret) .skip)))
 (R0 [0,1,2,7] [mI0 17 7,cI0 18 .add 17 1,mI0 7 18]))))))
 (S0 (R0 [6] [tI0 6 true])
 .ret))))⟩
theorem cf37:cF prog f37=some if37:=by kernel_rfl
def if39:IFn:=⟨[0],[(.tmp 2)],(S0 (R0 [1] [eI 1 (.box (.t 0)),zI0 2])
 (S0 (R0 [1,3] [eI 3 (.alloc [.nils])])
 (S0 (R0 [1,3,4] [qI 15 (.makeFunc 90 [] [(.t 3),(.t 1)]),mI0 4 15])
 (S0 (R0 [1,3,4,5] [lI0 16 1,pI0 17 16,fI0 18 0 17,lI0 19 18,sI0 20 19,mI0 5 20])
 (S0 (R0 [1,3,4,5,6] [qI 6 (.mv (.c (.clo 92 [] [])))])
 (S0 (.seq (R0 [1,3,4,5,6,7] [kI0 7 1])
 (.block 0 (.loop [1,3,4,5,6,7] (S0 (.seq (R0 [1,3,4,5,6,7,23] [mI0 21 7,mI0 22 5,bI0 23 .leq 21 22])
 (.cond (.t 23) .skip (.exit 0)))
 (S0 (.block 1 (S0 (R0 [1,3,4,5,6,7,8] [mI0 26 7,cI0 27 .add 26 1,mI0 8 27])
 (.block 2 (.loop [1,3,4,5,6,7,8] (S0 (.seq (R0 [1,3,4,5,6,7,8,30] [mI0 28 8,mI0 29 5,bI0 30 .leq 28 29])
 (.cond (.t 30) .skip (.exit 2)))
 (S0 (.block 3 (S0 (R0 [1,3,4,5,6,7,8,9] [mI0 33 8,cI0 34 .add 33 1,mI0 9 34])
 (.block 4 (.loop [1,3,4,5,6,7,8,9] (S0 (.seq (R0 [1,3,4,5,6,7,8,9,37] [mI0 35 9,mI0 36 5,bI0 37 .leq 35 36])
 (.cond (.t 37) .skip (.exit 4)))
 (S0 (.block 5 (R0 [1,3,4,5,6,7,8,9] [mI0 40 4,mI0 41 9,mI0 42 8,mI0 43 7,eI 44 (.buildSl 1 3 [(.int .i64 0)] [(0,1,(.t 41)),(1,1,(.t 42)),(2,1,(.t 43))]),eI 45 (.callV (.t 40) [(.t 44),(I0 1)])]))
 (R0 [1,3,4,5,6,7,8,9] [mI0 38 9,cI0 39 .add 38 1,mI0 9 39])))))))
 (R0 [1,3,4,5,6,7,8] [mI0 31 8,cI0 32 .add 31 1,mI0 8 32])))))))
 (R0 [1,3,4,5,6,7] [mI0 24 7,cI0 25 .add 24 1,mI0 7 25]))))))
 (S0 (.seq (R0 [1,3,4,5,6,10] [kI0 10 1])
 (.block 6 (.loop [1,3,4,5,6,10] (S0 (.seq (R0 [1,3,4,5,6,10,48] [mI0 46 10,mI0 47 5,bI0 48 .leq 46 47])
 (.cond (.t 48) .skip (.exit 6)))
 (S0 (.block 7 (S0 (R0 [1,3,4,5,6,10,11] [mI0 51 10,cI0 52 .add 51 1,mI0 11 52])
 (.block 8 (.loop [1,3,4,5,6,10,11] (S0 (.seq (R0 [1,3,4,5,6,10,11,55] [mI0 53 11,mI0 54 5,bI0 55 .leq 53 54])
 (.cond (.t 55) .skip (.exit 8)))
 (S0 (.block 9 (.tree [1,3,4,5,6,10,11] (.q (mD0 58 4 0) (.q (mD0 59 6 1) (.q (mD0 60 11 2) (.q (lD0 61 1 3) (.q (pD0 62 61 4) (.q (fD0 63 0 62 5) (.q (lD0 64 63 6) (.q (mD0 65 11 7) (.q (qD 66 (.bin .sub .other (.t 65) (I0 1)) 8) (.q (xD0 67 64 66 9) (.q (lD0 68 67 10) (.q (mD0 70 10 12) (.q (lD0 73 1 15) (.q (pD0 74 73 16) (.q (fD0 75 0 74 17) (.q (lD0 76 75 18) (.q (mD0 77 11 19) (.q (qD 78 (.bin .sub .other (.t 77) (I0 1)) 20) (.q (xD0 79 76 78 21) (.q (lD0 80 79 22) (.q (qD 81 (.bin .sub .other (.t 80) (I0 1)) 23) (.e (eD 69 (.callV (.t 59) [(.t 60),(.t 68)]) 11 [15,18,22]) (.e (eD 71 (.buildSl 1 1 [(.int .i64 0)] [(0,1,(.t 70))]) 13 [3,6,10,15,18,22]) (.e (eD 72 (.append 1 8 (.t 69) (.t 71)) 14 [15,18,22]) (.e (eD 82 (.callV (.t 58) [(.t 72),(.t 81)]) 24 []) .done .none) .none) .none) (.e (eD 71 (.buildSl 1 1 [(.int .i64 0)] [(0,1,(.t 70))]) 13 [3,6,10,15,18,22]) (.e (eD 69 (.callV (.t 59) [(.t 60),(.t 68)]) 11 [15,18,22]) (.e (eD 72 (.append 1 8 (.t 69) (.t 71)) 14 [15,18,22]) (.e (eD 82 (.callV (.t 58) [(.t 72),(.t 81)]) 24 []) .done .none) .none) .none) .none)))))))))))))))))))))))))
 (R0 [1,3,4,5,6,10,11] [mI0 56 11,cI0 57 .add 56 1,mI0 11 57])))))))
 (R0 [1,3,4,5,6,10] [mI0 49 10,cI0 50 .add 49 1,mI0 10 50]))))))
 (S0 (.seq (R0 [1,3,4,5,6,12] [kI0 12 1])
 (.block 10 (.loop [1,3,4,5,6,12] (S0 (.seq (R0 [1,3,4,5,6,12,85] [mI0 83 12,mI0 84 5,bI0 85 .leq 83 84])
 (.cond (.t 85) .skip (.exit 10)))
 (S0 (.block 11 (S0 (R0 [1,3,4,5,6,12,13] [mI0 88 12,cI0 89 .add 88 1,mI0 13 89])
 (.block 12 (.loop [1,3,4,5,6,12,13] (S0 (.seq (R0 [1,3,4,5,6,12,13,92] [mI0 90 13,mI0 91 5,bI0 92 .leq 90 91])
 (.cond (.t 92) .skip (.exit 12)))
 (S0 (.block 13 (R0 [1,3,4,5,6,12,13] [mI0 95 4,mI0 96 13,eI 97 (.buildSl 1 1 [(.int .i64 0)] [(0,1,(.t 96))]),mI0 98 6,mI0 99 12,lI0 100 1,pI0 101 100,fI0 102 0 101,lI0 103 102,mI0 104 12,cI0 105 .sub 104 1,xI0 106 103 105,lI0 107 106,eI 108 (.callV (.t 98) [(.t 99),(.t 107)]),eI 109 (.append 1 8 (.t 97) (.t 108)),eI 110 (.callV (.t 95) [(.t 109),(I0 1)])]))
 (R0 [1,3,4,5,6,12,13] [mI0 93 13,cI0 94 .add 93 1,mI0 13 94])))))))
 (R0 [1,3,4,5,6,12] [mI0 86 12,cI0 87 .add 86 1,mI0 12 87]))))))
 (S0 (.seq (R0 [1,3,4,5,6,14] [kI0 14 1])
 (.block 14 (.loop [1,3,4,5,6,14] (S0 (.seq (R0 [1,3,4,5,6,14,113] [mI0 111 14,mI0 112 5,bI0 113 .leq 111 112])
 (.cond (.t 113) .skip (.exit 14)))
 (S0 (.block 15 (R0 [1,3,4,5,6,14] [mI0 116 4,mI0 117 6,mI0 118 14,lI0 119 1,pI0 120 119,fI0 121 0 120,lI0 122 121,mI0 123 14,cI0 124 .sub 123 1,xI0 125 122 124,lI0 126 125,cI0 127 .add 126 1,eI 128 (.callV (.t 117) [(.t 118),(.t 127)]),eI 129 (.callV (.t 116) [(.t 128),(I0 1)])]))
 (R0 [1,3,4,5,6,14] [mI0 114 14,cI0 115 .add 114 1,mI0 14 115]))))))
 (S0 (R0 [2] [lI0 130 3,mI0 2 130])
 .ret))))))))))⟩
theorem cf39:cF prog f39=some if39:=by kernel_rfl
def if46:IFn:=⟨[0],[(.tmp 2)],(S0 (R0 [0] [tI0 2 false])
 (S0 (.seq (.draw [0,35] [] [mD0 9 0 0,pD0 10 9 1,fD0 11 0 10 2,lD0 12 11 3,eD 13 (.call 38 [(.t 12),(I0 1),(I0 6)]) 4 [],qD 14 (.un .not (.t 13)) 5,mD0 15 14 6,⟨gm0 16 0 15 false,7,[]⟩,⟨G0 17 (.nilCheck (.t 16)) true 15 false,8,[]⟩,⟨G0 18 (.fieldAddr 1 (.t 17)) true 15 false,9,[]⟩,⟨G0 19 (.load false 1 (.t 18)) true 15 false,10,[]⟩,⟨G0 20 (.len (.t 19)) true 15 false,11,[]⟩,⟨gm0 21 0 15 false,12,[]⟩,⟨G0 22 (.nilCheck (.t 21)) true 15 false,13,[]⟩,⟨G0 23 (.fieldAddr 0 (.t 22)) true 15 false,14,[]⟩,⟨G0 24 (.load false 1 (.t 23)) true 15 false,15,[]⟩,⟨G0 25 (.call 98 [(.t 24)]) false 15 false,16,[10]⟩,⟨G0 26 (.bin .neq .other (.t 20) (.t 25)) true 15 false,17,[]⟩,qD 27 (.pick (.t 15) (.c (.bool true)) (.t 26)) 18,mD0 28 27 19,⟨gm0 29 0 28 false,20,[]⟩,⟨G0 30 (.nilCheck (.t 29)) true 28 false,21,[]⟩,⟨G0 31 (.fieldAddr 2 (.t 30)) true 28 false,22,[]⟩,⟨G0 32 (.load false 1 (.t 31)) true 28 false,23,[]⟩,⟨G0 33 (.len (.t 32)) true 28 false,24,[]⟩,⟨G0 34 (.bin .gtr .other (.t 33) (I0 32)) true 28 false,25,[]⟩,qD 35 (.pick (.t 28) (.c (.bool true)) (.t 34)) 26])
 (.cond (.t 35) (S0 (R0 [2] [tI0 2 false])
 .ret) .skip))
 (S0 (.seq (R0 [0,39,40,41] [mI0 36 0,pI0 37 36,fI0 38 1 37,lI0 39 38,sI0 40 39,kI0 41 0])
 (.block 0 (.loop [0,39,40,41] (S0 (R0 [0,39,40,41,42] [bI0 42 .lss 41 40])
 (S0 (.cond (.t 42) .skip (.exit 0))
 (S0 (.block 1 (S0 (R0 [0,4,39,40,41] [qI 43 (.indexAddr 3 (.t 39) (.t 41)),LI0 44 43,eI 4 (.alloc [.nils,.nils,.nils]),vI0 3 4 44])
 (S0 (R0 [0,39,40,41,47] [LI0 45 4,C1 46 33 45,nI0 47 46])
 (.cond (.t 47) (S0 (R0 [2] [tI0 2 false])
 .ret) .skip))))
 (R0 [0,39,40,41] [cI0 48 .add 41 1,mI0 41 48])))))))
 (S0 (.seq (R0 [52,53,54] [mI0 49 0,pI0 50 49,fI0 51 2 50,lI0 52 51,sI0 53 52,kI0 54 0])
 (.block 2 (.loop [52,53,54] (S0 (R0 [52,53,54,55] [bI0 55 .lss 54 53])
 (S0 (.cond (.t 55) .skip (.exit 2))
 (S0 (.block 3 (S0 (R0 [6,52,53,54] [xI0 56 52 54,lI0 57 56,mI0 6 57])
 (S0 (.seq (R0 [6,52,53,54,60] [mI0 58 6,sI0 59 58,cI0 60 .gtr 59 128])
 (.cond (.t 60) (S0 (R0 [2] [tI0 2 false])
 .ret) .skip))
 (S0 (R0 [52,53,54,61,62,63] [mI0 61 6,sI0 62 61,kI0 63 0])
 (.block 4 (.loop [52,53,54,61,62,63] (S0 (R0 [52,53,54,61,62,63,64] [bI0 64 .lss 63 62])
 (S0 (.cond (.t 64) .skip (.exit 4))
 (S0 (.block 5 (S0 (R0 [8,52,53,54,61,62,63] [xI0 65 61 63,lI0 66 65,mI0 8 66])
 (S0 (R0 [52,53,54,61,62,63,69] [mI0 67 8,eI 68 (.call 38 [(.t 67),(I0 (-1000000)),(I0 1000000)]),nI0 69 68])
 (.cond (.t 69) (S0 (R0 [2] [tI0 2 false])
 .ret) .skip))))
 (R0 [52,53,54,61,62,63] [cI0 70 .add 63 1,mI0 63 70]))))))))))
 (R0 [52,53,54] [cI0 71 .add 54 1,mI0 54 71])))))))
 (S0 (R0 [2] [tI0 2 true])
 .ret)))))⟩
theorem cf46:cF prog f46=some if46:=by kernel_rfl
def if47:IFn:=⟨[0],[(.tmp 2),(.tmp 3)],(S0 (R0 [0] [tI0 2 false,kI0 3 0])
 (S0 (R0 [0,4] [mI0 11 0,pI0 12 11,fI0 13 1 12,lI0 14 13,qI 15 (.indexAddr 3 (.t 14) (I0 0)),mI0 4 15])
 (S0 (.seq (R0 [0,4,19] [mI0 16 0,pI0 17 16,fI0 18 0 17,lI0 19 18])
 (.block 0 (S0 (R0 [0,4,19,20] [cI0 21 .eql 19 1,mI0 20 21])
 (.cond (.t 20) (S0 (.draw [2,3] [] [mD0 22 4 0,pD0 23 22 1,qD 24 (.load true 3 (.t 23)) 2,mD0 25 0 3,pD0 26 25 4,fD0 27 2 26 5,lD0 28 27 6,eD 29 (.call 99 [(.t 24),(.t 28)]) 7 [],qD 30 (.extract (.t 29) 0) 8,qD 31 (.extract (.t 29) 1) 9,mD0 2 30 10,mD0 3 31 11])
 .ret) (S0 (R0 [0,4,19,32] [cI0 33 .eql 19 2,mI0 32 33])
 (.cond (.t 32) (S0 (R0 [2,3] [mI0 34 4,mI0 35 0,pI0 36 35,fI0 37 2 36,lI0 38 37,C2 39 100 34 38,mI0 2 39,kI0 3 0])
 .ret) (S0 (R0 [0,4,19,40] [cI0 41 .eql 19 3,mI0 40 41])
 (.cond (.t 40) (S0 (R0 [2,3] [mI0 42 4,mI0 43 0,pI0 44 43,fI0 45 2 44,lI0 46 45,C2 47 101 42 46,mI0 2 47,kI0 3 0])
 .ret) (S0 (R0 [0,4,19,48] [cI0 49 .eql 19 4,mI0 48 49])
 (.cond (.t 48) (S0 (.draw [2,3] [] [mD0 50 4 0,pD0 51 50 1,qD 52 (.load true 3 (.t 51)) 2,mD0 53 0 3,pD0 54 53 4,fD0 55 1 54 5,lD0 56 55 6,qD 57 (.indexAddr 3 (.t 56) (I0 1)) 7,qD 58 (.load true 3 (.t 57)) 8,mD0 59 0 9,pD0 60 59 10,fD0 61 2 60 11,lD0 62 61 12,eD 63 (.call 102 [(.t 52),(.t 58),(.t 62)]) 13 [],mD0 2 63 14,qD 3 (.mv (I0 0)) 15])
 .ret) (S0 (R0 [0,4,64] [cI0 65 .eql 19 5,mI0 64 65])
 (.cond (.t 64) (S0 (.seq (R0 [0,4,69,70,71] [mI0 66 0,pI0 67 66,fI0 68 1 67,lI0 69 68,sI0 70 69,kI0 71 0])
 (.block 1 (.loop [0,4,69,70,71] (S0 (R0 [0,4,69,70,71,72] [bI0 72 .lss 71 70])
 (S0 (.cond (.t 72) .skip (.exit 1))
 (S0 (.block 2 (S0 (R0 [0,4,6,69,70,71] [qI 73 (.indexAddr 3 (.t 69) (.t 71)),LI0 74 73,eI 6 (.alloc [.nils,.nils,.nils]),vI0 3 6 74])
 (S0 (R0 [0,4,69,70,71,77] [LI0 75 6,C1 76 9 75,nI0 77 76])
 (.cond (.t 77) (S0 (R0 [2,3] [tI0 2 false,kI0 3 0])
 .ret) .skip))))
 (R0 [0,4,69,70,71] [cI0 78 .add 71 1,mI0 71 78])))))))
 (S0 (.draw [0,7,8] [] [mD0 80 4 0,pD0 81 80 1,qD 82 (.load true 3 (.t 81)) 2,mD0 83 0 3,pD0 84 83 4,fD0 85 1 84 5,lD0 86 85 6,qD 87 (.indexAddr 3 (.t 86) (I0 2)) 7,qD 88 (.load true 3 (.t 87)) 8,eD 89 (.call 103 [(.t 82),(.t 88)]) 9 [],mD0 79 89 10,qD 90 (.extract (.t 79) 0) 11,qD 91 (.extract (.t 79) 1) 12,mD0 7 90 13,mD0 8 91 14])
 (S0 (.draw [0,7,8,9,10] [] [mD0 93 0 0,pD0 94 93 1,fD0 95 1 94 2,lD0 96 95 3,qD 97 (.indexAddr 3 (.t 96) (I0 1)) 4,qD 98 (.load true 3 (.t 97)) 5,mD0 99 0 6,pD0 100 99 7,fD0 101 1 100 8,lD0 102 101 9,qD 103 (.indexAddr 3 (.t 102) (I0 2)) 10,qD 104 (.load true 3 (.t 103)) 11,eD 105 (.call 103 [(.t 98),(.t 104)]) 12 [],mD0 92 105 13,qD 106 (.extract (.t 92) 0) 14,qD 107 (.extract (.t 92) 1) 15,mD0 9 106 16,mD0 10 107 17])
 (S0 (.seq (R0 [0,7,9,113] [mI0 108 8,cI0 109 .neq 108 0,mI0 110 109,gm0 111 10 110 false,G0 112 (.bin .neq .other (.t 111) (I0 0)) true 110 false,oI0 113 110 112])
 (.cond (.t 113) (S0 (R0 [2,3] [tI0 2 false,kI0 3 3])
 .ret) .skip))
 (S0 (R0 [2,3] [mI0 114 0,pI0 115 114,fI0 116 2 115,lI0 117 116,sI0 118 117,cI0 119 .eql 118 0,mI0 120 119,gm0 121 7 120 true,gm0 122 9 120 true,G0 123 (.bin .neq .other (.t 121) (.t 122)) true 120 true,aI0 124 120 123,mI0 2 124,kI0 3 0])
 .ret))))) .skip))))))))))))
 (S0 (R0 [2,3] [mI0 125 4,mI0 126 0,pI0 127 126,fI0 128 2 127,lI0 129 128,C2 130 104 125 129,mI0 2 130,kI0 3 0])
 .ret))))⟩
theorem cf47:cF prog f47=some if47:=by kernel_rfl
def if84:IFn:=⟨[0,1],[(.cell 4 true 3)],(S0 (R0 [0,3,4] [eI 3 (.box (.t 1)),eI 4 (.alloc [.nils,.nils,.nils])])
 (S0 (R0 [0,4,5] [LI0 10 3,C1 11 65 10,eI 5 (.alloc [.nils,.nils,.nils]),vI0 3 5 11])
 (S0 (R0 [0,4,5,6] [fI0 12 0 5,lI0 13 12,sI0 14 13,mI0 6 14])
 (S0 (R0 [0,4,5,6,7] [mI0 15 0,mI0 16 6,C2 17 83 15 16,mI0 7 17])
 (S0 (R0 [0,4,5,6,7,8] [mI0 18 7,cI0 19 .add 18 1,mI0 20 0,mI0 21 6,cI0 22 .sub 21 1,mI0 23 7,bI0 24 .sub 22 23,C2 25 83 20 24,bI0 26 .add 19 25,mI0 8 26])
 (S0 (.seq (R0 [0,4,5,6,7,8,29] [mI0 27 8,mI0 28 6,bI0 29 .geq 27 28])
 (.cond (.t 29) (S0 (R0 [4] [LI0 30 5,vI0 3 4 30])
 .ret) .skip))
 (S0 (.seq (R0 [0,4,5,6,7,8,33] [mI0 31 0,eI 32 (.call 83 [(.t 31),(I0 3)]),cI0 33 .eql 32 0])
 (.cond (.t 33) (S0 (.draw [4,5] [] [fD0 34 1 5 0,lD0 35 34 1,mD0 36 7 2,xD0 37 35 36 3,lD0 38 37 4,mD0 39 8 5,mD0 40 0 6,fD0 41 0 5 7,lD0 42 41 8,mD0 43 8 9,xD0 44 42 43 10,lD0 45 44 11,eD 46 (.call 83 [(.t 40),(.t 45)]) 12 [1,4],xD0 47 38 39 13,wD0 1 47 46 14])
 (S0 (R0 [4] [LI0 48 5,vI0 3 4 48])
 .ret)) .skip))
 (S0 (R0 [0,4,5,7,8,9] [mI0 49 7,cI0 50 .add 49 1,mI0 51 0,mI0 52 6,cI0 53 .sub 52 1,mI0 54 7,bI0 55 .sub 53 54,C2 56 83 51 55,bI0 57 .add 50 56,mI0 9 57])
 (S0 (.draw [4,5] [] [fD0 58 2 5 0,lD0 59 58 1,mD0 60 7 2,xD0 61 59 60 3,lD0 62 61 4,mD0 63 9 5,mD0 64 7 6,qD 65 (.bin .sub .other (.t 63) (.t 64)) 7,qD 66 (.bin .sub .other (.t 65) (I0 1)) 8,xD0 67 62 66 9,lD0 68 67 10,mD0 69 8 11,mD0 70 0 12,fD0 71 0 5 13,lD0 72 71 14,mD0 73 8 15,xD0 74 72 73 16,lD0 75 74 17,eD 76 (.call 83 [(.t 70),(.t 75)]) 18 [1,4,10],xD0 77 68 69 19,wD0 1 77 76 20])
 (S0 (R0 [4] [LI0 78 5,vI0 3 4 78])
 .ret))))))))))⟩
theorem cf84:cF prog f84=some if84:=by kernel_rfl
def if88:IFn:=⟨[0,1],[(.cell 4 true 4)],(S0 (R0 [0,1,4] [eI 4 (.alloc [(.int .i64 0),(.int .i64 0),(.int .i64 0),(.int .i64 0)])])
 (S0 (R0 [0,1,4,5] [mI0 13 0,pI0 14 13,fI0 15 0 14,lI0 16 15,sI0 17 16,mI0 5 17])
 (S0 (R0 [0,1,4,5,6] [mI0 18 1,mI0 6 18])
 (S0 (.seq (R0 [0,1,4,5,6,7] [mI0 19 1,cI0 20 .add 19 1,mI0 7 20])
 (.block 0 (.loop [0,1,4,5,6,7] (S0 (.seq (R0 [0,1,4,5,6,7,23] [mI0 21 7,mI0 22 5,bI0 23 .lss 21 22])
 (.cond (.t 23) .skip (.exit 0)))
 (S0 (.block 1 (S0 (.draw [0,1,4,5,6,7,59] [] [mD0 26 0 0,mD0 27 0 1,pD0 28 27 2,fD0 29 2 28 3,lD0 30 29 4,mD0 31 1 5,xD0 32 30 31 6,lD0 33 32 7,mD0 34 7 8,mD0 35 1 9,qD 36 (.bin .sub .other (.t 34) (.t 35)) 10,qD 37 (.bin .sub .other (.t 36) (I0 1)) 11,xD0 38 33 37 12,lD0 39 38 13,mD0 40 0 14,pD0 41 40 15,fD0 42 0 41 16,lD0 43 42 17,mD0 44 7 18,xD0 45 43 44 19,lD0 46 45 20,mD0 48 0 22,mD0 49 1 23,mD0 50 0 24,pD0 51 50 25,fD0 52 1 51 26,lD0 53 52 27,mD0 54 7 28,xD0 55 53 54 29,lD0 56 55 30,eD 47 (.call 153 [(.t 26),(.t 39),(.t 46)]) 21 [27,30],eD 57 (.call 154 [(.t 48),(.t 49),(.t 56)]) 31 [],eD 58 (.call 41 [(.t 47),(.t 57)]) 32 [],qD 59 (.un .not (.t 58)) 33])
 (.cond (.t 59) (S0 (R0 [4] [mI0 60 6,mI0 61 7,qI 62 (.build [(.int .i64 0),(.int .i64 0),(.int .i64 0),(.int .i64 0)] [(0,1,(I0 1)),(1,1,(.t 60)),(2,1,(.t 61)),(3,1,(I0 0))]),vI0 4 4 62])
 .ret) .skip)))
 (R0 [0,1,4,5,6,7] [mI0 24 7,cI0 25 .add 24 1,mI0 7 25]))))))
 (S0 (.seq (R0 [0,1,4,5,6,8] [mI0 63 1,cI0 64 .add 63 1,mI0 8 64])
 (.block 2 (.loop [0,1,4,5,6,8] (S0 (.seq (R0 [0,1,4,5,6,8,67] [mI0 65 8,mI0 66 5,bI0 67 .lss 65 66])
 (.cond (.t 67) .skip (.exit 2)))
 (S0 (.block 3 (S0 (R0 [0,1,4,5,6,8,9] [mI0 70 8,cI0 71 .add 70 1,mI0 9 71])
 (.block 4 (.loop [0,1,4,5,6,8,9] (S0 (.seq (R0 [0,1,4,5,6,8,9,74] [mI0 72 9,mI0 73 5,bI0 74 .lss 72 73])
 (.cond (.t 74) .skip (.exit 4)))
 (S0 (.block 5 (S0 (.draw [0,1,4,5,6,8,9,122] [] [mD0 77 0 0,mD0 78 0 1,pD0 79 78 2,fD0 80 2 79 3,lD0 81 80 4,mD0 82 1 5,xD0 83 81 82 6,lD0 84 83 7,mD0 85 9 8,mD0 86 1 9,qD 87 (.bin .sub .other (.t 85) (.t 86)) 10,qD 88 (.bin .sub .other (.t 87) (I0 1)) 11,xD0 89 84 88 12,lD0 90 89 13,mD0 91 0 14,pD0 92 91 15,fD0 93 2 92 16,lD0 94 93 17,mD0 95 1 18,xD0 96 94 95 19,lD0 97 96 20,mD0 98 8 21,mD0 99 1 22,qD 100 (.bin .sub .other (.t 98) (.t 99)) 23,qD 101 (.bin .sub .other (.t 100) (I0 1)) 24,xD0 102 97 101 25,lD0 103 102 26,mD0 105 0 28,mD0 106 1 29,mD0 107 0 30,pD0 108 107 31,fD0 109 2 108 32,lD0 110 109 33,mD0 111 8 34,xD0 112 110 111 35,lD0 113 112 36,mD0 114 9 37,mD0 115 8 38,qD 116 (.bin .sub .other (.t 114) (.t 115)) 39,qD 117 (.bin .sub .other (.t 116) (I0 1)) 40,xD0 118 113 117 41,lD0 119 118 42,eD 104 (.call 155 [(.t 77),(.t 90),(.t 103)]) 27 [33,36,42],eD 120 (.call 154 [(.t 105),(.t 106),(.t 119)]) 43 [],eD 121 (.call 41 [(.t 104),(.t 120)]) 44 [],qD 122 (.un .not (.t 121)) 45])
 (.cond (.t 122) (S0 (R0 [4] [mI0 123 6,mI0 124 8,mI0 125 9,qI 126 (.build [(.int .i64 0),(.int .i64 0),(.int .i64 0),(.int .i64 0)] [(0,1,(I0 2)),(1,1,(.t 123)),(2,1,(.t 124)),(3,1,(.t 125))]),vI0 4 4 126])
 .ret) .skip)))
 (R0 [0,1,4,5,6,8,9] [mI0 75 9,cI0 76 .add 75 1,mI0 9 76])))))))
 (R0 [0,1,4,5,6,8] [mI0 68 8,cI0 69 .add 68 1,mI0 8 69]))))))
 (S0 (R0 [0,1,4,5,6,10] [mI0 127 0,pI0 128 127,fI0 129 1 128,lI0 130 129,mI0 131 1,xI0 132 130 131,lI0 133 132,mI0 10 133])
 (S0 (.seq (R0 [0,1,4,5,6,10,140] [mI0 134 0,mI0 135 1,mI0 136 10,C3 137 154 134 135 136,mI0 138 10,C2 139 41 137 138,nI0 140 139])
 (.cond (.t 140) (S0 (R0 [4] [mI0 141 6,qI 142 (.build [(.int .i64 0),(.int .i64 0),(.int .i64 0),(.int .i64 0)] [(0,1,(I0 3)),(1,1,(.t 141)),(2,1,(I0 0)),(3,1,(I0 0))]),vI0 4 4 142])
 .ret) .skip))
 (S0 (.seq (R0 [0,1,4,5,6,10,11] [mI0 143 1,cI0 144 .add 143 1,mI0 11 144])
 (.block 6 (.loop [0,1,4,5,6,10,11] (S0 (.seq (R0 [0,1,4,5,6,10,11,147] [mI0 145 11,mI0 146 5,bI0 147 .lss 145 146])
 (.cond (.t 147) .skip (.exit 6)))
 (S0 (.block 7 (S0 (R0 [0,1,4,5,6,10,11,12] [mI0 150 5,mI0 151 11,C2 152 156 150 151,mI0 12 152])
 (S0 (.seq (R0 [0,1,4,5,6,10,11,12,159,160] [mI0 153 0,pI0 154 153,fI0 155 0 154,lI0 156 155,mI0 157 1,xI0 158 156 157,lI0 159 158,kI0 160 0])
 (.block 8 (.loop [0,1,4,5,6,10,11,12,159,160] (S0 (R0 [0,1,4,5,6,10,11,12,159,160,161] [bI0 161 .lss 160 159])
 (S0 (.cond (.t 161) .skip (.exit 8))
 (S0 (.block 9 (R0 [0,1,4,5,6,10,11,12,159,160] [mI0 162 0,mI0 163 1,mI0 164 12,C3 165 154 162 163 164,mI0 12 165]))
 (R0 [0,1,4,5,6,10,11,12,159,160] [cI0 166 .add 160 1,mI0 160 166])))))))
 (S0 (R0 [0,1,4,5,6,10,11,175] [mI0 167 12,mI0 168 0,mI0 169 5,mI0 170 11,C2 171 156 169 170,mI0 172 10,C3 173 155 168 171 172,C2 174 41 167 173,nI0 175 174])
 (.cond (.t 175) (S0 (R0 [4] [mI0 176 6,mI0 177 11,qI 178 (.build [(.int .i64 0),(.int .i64 0),(.int .i64 0),(.int .i64 0)] [(0,1,(I0 4)),(1,1,(.t 176)),(2,1,(.t 177)),(3,1,(I0 0))]),vI0 4 4 178])
 .ret) .skip)))))
 (R0 [0,1,4,5,6,10,11] [mI0 148 11,cI0 149 .add 148 1,mI0 11 149]))))))
 (S0 (R0 [4] [qI 179 (.build [(.int .i64 0),(.int .i64 0),(.int .i64 0),(.int .i64 0)] []),vI0 4 4 179])
 .ret)))))))))⟩
theorem cf88:cF prog f88=some if88:=by kernel_rfl
def if91:IFn:=⟨[0,1,2],[(.tmp 6)],(S0 (R0 [0,1,2] [zI0 6])
 (S0 (.seq (.draw [0,1,2,26] [] [mD0 10 2 0,qD 11 (.bin .add .other (.t 10) (I0 1)) 1,mD0 12 1 2,qD 13 (.len (.t 12)) 3,qD 14 (.bin .lss .other (.t 11) (.t 13)) 4,mD0 15 14 5,⟨gm0 16 1 15 true,6,[]⟩,⟨gm0 17 2 15 true,7,[]⟩,⟨G0 18 (.indexAddr 1 (.t 16) (.t 17)) true 15 true,8,[]⟩,⟨G0 19 (.load false 1 (.t 18)) true 15 true,9,[]⟩,⟨gm0 20 1 15 true,10,[]⟩,⟨gm0 21 2 15 true,11,[]⟩,⟨G0 22 (.bin .add .other (.t 21) (I0 1)) true 15 true,12,[]⟩,⟨G0 23 (.indexAddr 1 (.t 20) (.t 22)) true 15 true,13,[]⟩,⟨G0 24 (.load false 1 (.t 23)) true 15 true,14,[]⟩,⟨G0 25 (.bin .gtr .other (.t 19) (.t 24)) true 15 true,15,[]⟩,qD 26 (.pick (.t 15) (.t 25) (.c (.bool false))) 16])
 (.cond (.t 26) (S0 (.draw [0,1,2,7,8] [] [mD0 27 1 0,mD0 28 2 1,xD0 29 27 28 2,lD0 30 29 3,qD 31 (.bin .sub .other (.t 30) (I0 1)) 4,mD0 32 1 5,mD0 33 2 6,qD 34 (.bin .add .other (.t 33) (I0 1)) 7,xD0 35 32 34 8,lD0 36 35 9,qD 37 (.bin .sub .other (.t 36) (I0 1)) 10,mD0 7 31 11,mD0 8 37 12])
 (S0 (.tree [6] (.q (mD0 38 1 0) (.q (mD0 39 2 1) (.q (qD 40 (.slice 1 (.t 38) none (some (.t 39)) none) 2) (.q (mD0 41 8 3) (.q (qD 42 (.bin .add .other (.t 41) (I0 1)) 4) (.q (mD0 44 0 6) (.q (pD0 45 44 7) (.q (fD0 46 2 45 8) (.q (lD0 47 46 9) (.q (mD0 48 8 10) (.q (xD0 49 47 48 11) (.q (lD0 50 49 12) (.q (mD0 51 7 13) (.q (mD0 52 8 14) (.q (qD 53 (.bin .sub .other (.t 51) (.t 52)) 15) (.q (qD 54 (.bin .sub .other (.t 53) (I0 1)) 16) (.q (xD0 55 50 54 17) (.q (lD0 56 55 18) (.q (mD0 58 1 20) (.q (mD0 59 2 21) (.q (qD 60 (.bin .add .other (.t 59) (I0 2)) 22) (.q (qD 61 (.slice 1 (.t 58) (some (.t 60)) none none) 23) (.e (eD 43 (.buildSl 1 1 [(.int .i64 0)] [(0,1,(.t 42))]) 5 [9,12,18]) (.e (eD 57 (.call 158 [(.t 56)]) 19 []) (.e (eD 62 (.buildSl 1 4 [.nils] [(0,1,(.t 40)),(1,1,(.t 43)),(2,1,(.t 57)),(3,1,(.t 61))]) 24 []) (.e (eD 63 (.call 157 [(.t 62)]) 25 []) (.q (mD0 6 63 26) .done) .none) .none) .none) (.e (eD 57 (.call 158 [(.t 56)]) 19 []) (.e (eD 43 (.buildSl 1 1 [(.int .i64 0)] [(0,1,(.t 42))]) 5 [9,12,18]) (.e (eD 62 (.buildSl 1 4 [.nils] [(0,1,(.t 40)),(1,1,(.t 43)),(2,1,(.t 57)),(3,1,(.t 61))]) 24 []) (.e (eD 63 (.call 157 [(.t 62)]) 25 []) (.q (mD0 6 63 26) .done) .none) .none) .none) .none)))))))))))))))))))))))))
 .ret)) .skip))
 (S0 (R0 [0,1,2,9] [mI0 64 1,mI0 65 2,xI0 66 64 65,lI0 67 66,cI0 68 .sub 67 1,mI0 9 68])
 (S0 (.draw [6] [] [mD0 69 1 0,mD0 70 2 1,qD 71 (.slice 1 (.t 69) none (some (.t 70)) none) 2,mD0 72 0 3,pD0 73 72 4,fD0 74 1 73 5,lD0 75 74 6,mD0 76 9 7,xD0 77 75 76 8,lD0 78 77 9,mD0 80 1 11,mD0 81 2 12,mD0 82 0 13,pD0 83 82 14,fD0 84 0 83 15,lD0 85 84 16,mD0 86 9 17,xD0 87 85 86 18,lD0 88 87 19,qD 89 (.bin .add .other (.t 81) (.t 88)) 20,qD 90 (.slice 1 (.t 80) (some (.t 89)) none none) 21,eD 79 (.call 158 [(.t 78)]) 10 [16,19],eD 91 (.buildSl 1 3 [.nils] [(0,1,(.t 71)),(1,1,(.t 79)),(2,1,(.t 90))]) 22 [],eD 92 (.call 157 [(.t 91)]) 23 [],mD0 6 92 24])
 .ret))))⟩
theorem cf91:cF prog f91=some if91:=by kernel_rfl
def if151:IFn:=⟨[0,1],[(.cell 4 true 3)],(S0 (R0 [0,3,4] [eI 3 (.box (.t 1)),eI 4 (.alloc [.nils,.nils,.nils])])
 (S0 (R0 [0,4,5] [LI0 6 3,C1 7 65 6,eI 5 (.alloc [.nils,.nils,.nils]),vI0 3 5 7])
 (S0 (.seq (R0 [0,4,5,9] [mI0 8 0,eI 9 (.call 83 [(.t 8),(I0 6)])])
 (.block 0 (S0 (R0 [0,4,5,9,17] [cI0 18 .eql 9 0,mI0 17 18])
 (.cond (.t 17) (R0 [4,5] [fI0 19 0 5,lI0 20 19,eI 21 (.buildSl 1 1 [(.int .i64 0)] [(0,1,(I0 2))]),eI 22 (.append 1 8 (.t 20) (.t 21)),fI0 23 0 5,vI0 1 23 22]) (S0 (R0 [0,4,5,9,24] [cI0 25 .eql 9 1,mI0 24 25])
 (.cond (.t 24) (S0 (R0 [0,4,5,29] [fI0 26 0 5,lI0 27 26,sI0 28 27,cI0 29 .gtr 28 0])
 (.cond (.t 29) (.draw [4,5] [] [fD0 30 0 5 0,lD0 31 30 1,mD0 32 0 2,eD 33 (.buildSl 1 5 [(.int .i64 0)] [(0,1,(I0 4)),(1,1,(I0 1)),(2,1,(I0 11)),(3,1,(I0 0)),(4,1,(I0 (-2)))]) 3 [1],eD 34 (.call 108 [(.t 32),(.t 33)]) 4 [1],qD 35 (.indexAddr 1 (.t 31) (I0 0)) 5,wD0 1 35 34 6]) .skip)) (S0 (R0 [0,4,5,9,36] [cI0 37 .eql 9 2,mI0 36 37])
 (.cond (.t 36) (S0 (R0 [4,5,41] [fI0 38 1 5,lI0 39 38,sI0 40 39,cI0 41 .gtr 40 0])
 (.cond (.t 41) (.draw [4,5] [[(.int .i64 0)]] [fD0 42 1 5 0,lD0 43 42 1,fD0 44 1 5 2,lD0 45 44 3,qD 46 (.indexAddr 1 (.t 45) (I0 0)) 4,lD0 47 46 5,qD 49 (.revS 0 1) 7,eD 48 (.call 63 [(.t 47)]) 6 [1],eD 50 (.append 1 8 (.t 48) (.t 49)) 8 [1],qD 51 (.indexAddr 1 (.t 43) (I0 0)) 9,wD0 1 51 50 10]) .skip)) (S0 (R0 [0,4,5,9,52] [cI0 53 .eql 9 3,mI0 52 53])
 (.cond (.t 52) (S0 (R0 [4,5,65] [fI0 54 1 5,lI0 55 54,sI0 56 55,cI0 57 .gtr 56 0,mI0 58 57,G0 59 (.fieldAddr 1 (.t 5)) true 58 true,G0 60 (.load false 1 (.t 59)) true 58 true,G0 61 (.indexAddr 1 (.t 60) (I0 0)) true 58 true,G0 62 (.load false 1 (.t 61)) true 58 true,G0 63 (.len (.t 62)) true 58 true,G0 64 (.bin .gtr .other (.t 63) (I0 0)) true 58 true,aI0 65 58 64])
 (.cond (.t 65) (R0 [4,5] [fI0 66 1 5,lI0 67 66,yI0 68 67 0,lI0 69 68,yI0 70 69 0,nI (.store 1 (.t 70) (I0 1))]) .skip)) (S0 (R0 [0,4,5,71] [cI0 72 .eql 9 4,mI0 71 72])
 (.cond (.t 71) (S0 (R0 [4,5,76] [fI0 73 2 5,lI0 74 73,sI0 75 74,cI0 76 .gtr 75 0])
 (.cond (.t 76) (.tree [4,5] (.q (fD0 77 2 5 0) (.q (lD0 78 77 1) (.q (fD0 79 2 5 2) (.q (lD0 80 79 3) (.q (qD 81 (.indexAddr 1 (.t 80) (I0 0)) 4) (.q (lD0 82 81 5) (.q (fD0 84 0 5 7) (.q (lD0 85 84 8) (.q (qD 86 (.len (.t 85)) 9) (.e (eD 83 (.call 64 [(.t 82)]) 6 [1,8]) (.e (eD 87 (.makeSl 1 8 [(.int .i64 0)] (.t 86) (.t 86)) 10 [1,3,5]) (.e (eD 88 (.buildSl 1 1 [.nils] [(0,1,(.t 87))]) 11 [1,3,5]) (.e (eD 89 (.append 1 24 (.t 83) (.t 88)) 12 [1]) (.q (qD 90 (.indexAddr 1 (.t 78) (I0 0)) 13) (.e (wD0 1 90 89 14) .done .none)) .none) .none) .none) (.e (eD 87 (.makeSl 1 8 [(.int .i64 0)] (.t 86) (.t 86)) 10 [1,3,5]) (.e (eD 83 (.call 64 [(.t 82)]) 6 [1,8]) (.e (eD 88 (.buildSl 1 1 [.nils] [(0,1,(.t 87))]) 11 [1,3,5]) (.e (eD 89 (.append 1 24 (.t 83) (.t 88)) 12 [1]) (.q (qD 90 (.indexAddr 1 (.t 78) (I0 0)) 13) (.e (wD0 1 90 89 14) .done .none)) .none) .none) (.e (eD 88 (.buildSl 1 1 [.nils] [(0,1,(.t 87))]) 11 [1,3,5]) (.e (eD 83 (.call 64 [(.t 82)]) 6 [1,8]) (.e (eD 89 (.append 1 24 (.t 83) (.t 88)) 12 [1]) (.q (qD 90 (.indexAddr 1 (.t 78) (I0 0)) 13) (.e (wD0 1 90 89 14) .done .none)) .none) .none) .none)) .none)))))))))))) .skip)) (S0 (R0 [0,4,5] [eI 10 (.buildSl 1 4 [(.int .i64 0)] [(0,1,(I0 7)),(1,1,(I0 7)),(2,1,(I0 7)),(3,1,(I0 7))]),C1 11 203 10,vI0 3 5 11])
 (S0 (R0 [4,5,14] [mI0 12 0,eI 13 (.call 83 [(.t 12),(I0 2)]),cI0 14 .eql 13 0])
 (.cond (.t 14) (R0 [4,5] [eI 15 (.buildSl 1 7 [(.int .i64 0)] [(0,1,(I0 2)),(1,1,(I0 2)),(2,1,(I0 2)),(3,1,(I0 2)),(4,1,(I0 2)),(5,1,(I0 2)),(6,1,(I0 2))]),C1 16 203 15,vI0 3 5 16]) .skip)))))))))))))))
 (S0 (R0 [4] [LI0 91 5,vI0 3 4 91])
 .ret))))⟩
theorem cf151:cF prog f151=some if151:=by kernel_rfl
def if202:IFn:=⟨[0,1],[(.cell 4 true 3)],(S0 (R0 [2,3,4] [eI 2 (.box (.t 0)),eI 3 (.box (.t 1)),eI 4 (.alloc [.nils,.nils,.nils])])
 (S0 (.draw [2,3,4,5,6] [] [fD0 12 0 2 0,lD0 13 12 1,qD 14 (.len (.t 13)) 2,fD0 15 0 3 3,lD0 16 15 4,qD 17 (.len (.t 16)) 5,mD0 5 14 6,mD0 6 17 7])
 (S0 (.draw [2,3,4,5,6,7] [[.nils,.nils,.nils]] [fD0 18 0 2 0,lD0 19 18 1,fD0 21 0 3 3,lD0 22 21 4,qD 7 (.rev 0) 7,eD 20 (.call 63 [(.t 19)]) 2 [4],eD 23 (.append 1 8 (.t 20) (.t 22)) 5 [],eD 24 (.call 203 [(.t 23)]) 6 [],wD0 3 7 24 8])
 (S0 (.seq (R0 [2,3,4,5,6,7,8] [kI0 8 0])
 (.block 0 (.loop [2,3,4,5,6,7,8] (S0 (.seq (R0 [2,3,4,5,6,7,8,27] [mI0 25 8,mI0 26 5,bI0 27 .lss 25 26])
 (.cond (.t 27) .skip (.exit 0)))
 (S0 (.block 1 (S0 (.draw [2,3,4,5,6,7,8] [] [fD0 30 1 7 0,lD0 31 30 1,mD0 32 8 2,fD0 33 1 2 3,lD0 34 33 4,mD0 35 8 5,xD0 36 34 35 6,lD0 37 36 7,mD0 38 6 8,eD 39 (.call 229 [(I0 0),(.t 37),(.t 38)]) 9 [1],xD0 40 31 32 10,wD0 1 40 39 11])
 (S0 (R0 [2,3,4,5,6,7,8,9] [kI0 9 0])
 (.block 2 (.loop [2,3,4,5,6,7,8,9] (S0 (.seq (R0 [2,3,4,5,6,7,8,9,48] [mI0 41 9,fI0 42 2 2,lI0 43 42,mI0 44 8,xI0 45 43 44,lI0 46 45,sI0 47 46,bI0 48 .lss 41 47])
 (.cond (.t 48) .skip (.exit 2)))
 (S0 (.block 3 (.draw [2,3,4,5,6,7,8,9] [] [fD0 51 2 7 0,lD0 52 51 1,mD0 53 8 2,xD0 54 52 53 3,lD0 55 54 4,mD0 56 9 5,fD0 57 2 2 6,lD0 58 57 7,mD0 59 8 8,xD0 60 58 59 9,lD0 61 60 10,mD0 62 9 11,xD0 63 61 62 12,lD0 64 63 13,mD0 65 6 14,eD 66 (.call 229 [(I0 0),(.t 64),(.t 65)]) 15 [1,4],xD0 67 55 56 16,wD0 1 67 66 17]))
 (R0 [2,3,4,5,6,7,8,9] [mI0 49 9,cI0 50 .add 49 1,mI0 9 50]))))))))
 (R0 [2,3,4,5,6,7,8] [mI0 28 8,cI0 29 .add 28 1,mI0 8 29]))))))
 (S0 (.seq (R0 [3,4,5,6,7,10] [kI0 10 0])
 (.block 4 (.loop [3,4,5,6,7,10] (S0 (.seq (R0 [3,4,5,6,7,10,70] [mI0 68 10,mI0 69 6,bI0 70 .lss 68 69])
 (.cond (.t 70) .skip (.exit 4)))
 (S0 (.block 5 (S0 (.draw [3,4,5,6,7,10] [] [fD0 73 1 7 0,lD0 74 73 1,mD0 75 5 2,mD0 76 10 3,qD 77 (.bin .add .other (.t 75) (.t 76)) 4,mD0 78 5 5,fD0 79 1 3 6,lD0 80 79 7,mD0 81 10 8,xD0 82 80 81 9,lD0 83 82 10,eD 84 (.call 229 [(.t 78),(.t 83),(I0 0)]) 11 [1],xD0 85 74 77 12,wD0 1 85 84 13])
 (S0 (R0 [3,4,5,6,7,10,11] [kI0 11 0])
 (.block 6 (.loop [3,4,5,6,7,10,11] (S0 (.seq (R0 [3,4,5,6,7,10,11,93] [mI0 86 11,fI0 87 2 3,lI0 88 87,mI0 89 10,xI0 90 88 89,lI0 91 90,sI0 92 91,bI0 93 .lss 86 92])
 (.cond (.t 93) .skip (.exit 6)))
 (S0 (.block 7 (.draw [3,4,5,6,7,10,11] [] [fD0 96 2 7 0,lD0 97 96 1,mD0 98 5 2,mD0 99 10 3,qD 100 (.bin .add .other (.t 98) (.t 99)) 4,xD0 101 97 100 5,lD0 102 101 6,mD0 103 11 7,mD0 104 5 8,fD0 105 2 3 9,lD0 106 105 10,mD0 107 10 11,xD0 108 106 107 12,lD0 109 108 13,mD0 110 11 14,xD0 111 109 110 15,lD0 112 111 16,eD 113 (.call 229 [(.t 104),(.t 112),(I0 0)]) 17 [1,6],xD0 114 102 103 18,wD0 1 114 113 19]))
 (R0 [3,4,5,6,7,10,11] [mI0 94 11,cI0 95 .add 94 1,mI0 11 95]))))))))
 (R0 [3,4,5,6,7,10] [mI0 71 10,cI0 72 .add 71 1,mI0 10 72]))))))
 (S0 (R0 [4] [LI0 115 7,vI0 3 4 115])
 .ret))))))⟩
theorem cf202:cF prog f202=some if202:=by kernel_rfl
def if204:IFn:=⟨[0,1],[(.cell 4 true 4)],(S0 (R0 [1,2,4] [eI 2 (.box (.t 0)),eI 4 (.alloc [(.int .i64 0),(.int .i64 0),(.int .i64 0),(.int .i64 0)])])
 (S0 (R0 [1,2,4,5] [fI0 19 0 2,lI0 20 19,sI0 21 20,mI0 5 21])
 (S0 (R0 [1,2,4,5,6] [mI0 22 1,mI0 6 22])
 (S0 (.seq (R0 [1,2,4,5,6,7] [mI0 23 1,cI0 24 .add 23 1,mI0 7 24])
 (.block 0 (.loop [1,2,4,5,6,7] (S0 (.seq (R0 [1,2,4,5,6,7,27] [mI0 25 7,mI0 26 5,bI0 27 .lss 25 26])
 (.cond (.t 27) .skip (.exit 0)))
 (S0 (.block 1 (S0 (.draw [1,2,4,5,6,7,8] [] [qD 30 (.load true 3 (.t 2)) 0,mD0 31 1 1,qD 32 (.bin .add .other (.t 31) (I0 1)) 2,fD0 33 2 2 3,lD0 34 33 4,mD0 35 1 5,xD0 36 34 35 6,lD0 37 36 7,mD0 38 7 8,mD0 39 1 9,qD 40 (.bin .sub .other (.t 38) (.t 39)) 10,qD 41 (.bin .sub .other (.t 40) (I0 1)) 11,xD0 42 37 41 12,lD0 43 42 13,fD0 44 0 2 14,lD0 45 44 15,mD0 46 7 16,xD0 47 45 46 17,lD0 48 47 18,eD 49 (.call 180 [(.t 30),(.t 32),(.t 43),(.t 48)]) 19 [],mD0 8 49 20])
 (S0 (.draw [1,2,4,5,6,7,60] [] [mD0 50 8 0,qD 51 (.load true 3 (.t 2)) 1,mD0 52 1 2,fD0 53 1 2 3,lD0 54 53 4,mD0 55 7 5,xD0 56 54 55 6,lD0 57 56 7,eD 58 (.call 176 [(.t 51),(.t 52),(.t 57)]) 8 [],eD 59 (.call 122 [(.t 50),(.t 58)]) 9 [],qD 60 (.un .not (.t 59)) 10])
 (.cond (.t 60) (S0 (R0 [4] [mI0 61 6,mI0 62 7,qI 63 (.build [(.int .i64 0),(.int .i64 0),(.int .i64 0),(.int .i64 0)] [(0,1,(I0 1)),(1,1,(.t 61)),(2,1,(.t 62))]),vI0 4 4 63])
 .ret) .skip))))
 (R0 [1,2,4,5,6,7] [mI0 28 7,cI0 29 .add 28 1,mI0 7 29]))))))
 (S0 (.seq (R0 [1,2,4,5,6,9] [mI0 64 1,cI0 65 .add 64 1,mI0 9 65])
 (.block 2 (.loop [1,2,4,5,6,9] (S0 (.seq (R0 [1,2,4,5,6,9,68] [mI0 66 9,mI0 67 5,bI0 68 .lss 66 67])
 (.cond (.t 68) .skip (.exit 2)))
 (S0 (.block 3 (S0 (R0 [1,2,4,5,6,9,10] [mI0 71 9,cI0 72 .add 71 1,mI0 10 72])
 (.block 4 (.loop [1,2,4,5,6,9,10] (S0 (.seq (R0 [1,2,4,5,6,9,10,75] [mI0 73 10,mI0 74 5,bI0 75 .lss 73 74])
 (.cond (.t 75) .skip (.exit 4)))
 (S0 (.block 5 (S0 (.draw [1,2,4,5,6,9,10,11,12] [] [fD0 78 2 2 0,lD0 79 78 1,mD0 80 1 2,xD0 81 79 80 3,lD0 82 81 4,mD0 83 9 5,mD0 84 1 6,qD 85 (.bin .sub .other (.t 83) (.t 84)) 7,qD 86 (.bin .sub .other (.t 85) (I0 1)) 8,xD0 87 82 86 9,lD0 88 87 10,fD0 89 2 2 11,lD0 90 89 12,mD0 91 1 13,xD0 92 90 91 14,lD0 93 92 15,mD0 94 10 16,mD0 95 1 17,qD 96 (.bin .sub .other (.t 94) (.t 95)) 18,qD 97 (.bin .sub .other (.t 96) (I0 1)) 19,xD0 98 93 97 20,lD0 99 98 21,mD0 11 88 22,mD0 12 99 23])
 (S0 (.draw [1,2,4,5,6,9,10,11,12,13] [] [qD 100 (.load true 3 (.t 2)) 0,mD0 101 1 1,fD0 102 2 2 2,lD0 103 102 3,mD0 104 9 4,xD0 105 103 104 5,lD0 106 105 6,mD0 107 10 7,mD0 108 9 8,qD 109 (.bin .sub .other (.t 107) (.t 108)) 9,qD 110 (.bin .sub .other (.t 109) (I0 1)) 10,xD0 111 106 110 11,lD0 112 111 12,eD 113 (.call 176 [(.t 100),(.t 101),(.t 112)]) 13 [],mD0 13 113 14])
 (S0 (.draw [1,2,4,5,6,9,10,127] [] [qD 114 (.load true 3 (.t 2)) 0,mD0 115 1 1,qD 116 (.bin .add .other (.t 115) (I0 1)) 2,mD0 117 12 3,mD0 118 11 4,qD 120 (.load true 3 (.t 2)) 6,mD0 121 1 7,qD 122 (.bin .add .other (.t 121) (I0 1)) 8,mD0 123 11 9,mD0 124 13 10,eD 119 (.call 105 [(.t 114),(.t 116),(.t 117),(.t 118)]) 5 [6],eD 125 (.call 105 [(.t 120),(.t 122),(.t 123),(.t 124)]) 11 [],eD 126 (.call 122 [(.t 119),(.t 125)]) 12 [],qD 127 (.un .not (.t 126)) 13])
 (.cond (.t 127) (S0 (R0 [4] [mI0 128 6,mI0 129 9,mI0 130 10,qI 131 (.build [(.int .i64 0),(.int .i64 0),(.int .i64 0),(.int .i64 0)] [(0,1,(I0 2)),(1,1,(.t 128)),(2,1,(.t 129)),(3,1,(.t 130))]),vI0 4 4 131])
 .ret) .skip)))))
 (R0 [1,2,4,5,6,9,10] [mI0 76 10,cI0 77 .add 76 1,mI0 10 77])))))))
 (R0 [1,2,4,5,6,9] [mI0 69 9,cI0 70 .add 69 1,mI0 9 70]))))))
 (S0 (R0 [1,2,4,5,6,14] [fI0 132 1 2,lI0 133 132,mI0 134 1,xI0 135 133 134,lI0 136 135,mI0 14 136])
 (S0 (.seq (R0 [1,2,4,5,6,14,143] [LI0 137 2,mI0 138 1,mI0 139 14,C3 140 176 137 138 139,mI0 141 14,C2 142 122 140 141,nI0 143 142])
 (.cond (.t 143) (S0 (R0 [4] [mI0 144 6,qI 145 (.build [(.int .i64 0),(.int .i64 0),(.int .i64 0),(.int .i64 0)] [(0,1,(I0 3)),(1,1,(.t 144))]),vI0 4 4 145])
 .ret) .skip))
 (S0 (.seq (R0 [1,2,4,5,6,14,15] [mI0 146 1,cI0 147 .add 146 1,mI0 15 147])
 (.block 6 (.loop [1,2,4,5,6,14,15] (S0 (.seq (R0 [1,2,4,5,6,14,15,150] [mI0 148 15,mI0 149 5,bI0 150 .lss 148 149])
 (.cond (.t 150) .skip (.exit 6)))
 (S0 (.block 7 (S0 (R0 [1,2,4,5,6,14,15,16] [mI0 153 5,mI0 154 15,C2 155 230 153 154,mI0 16 155])
 (S0 (R0 [1,2,4,5,6,14,15,16,17] [mI0 156 16,mI0 17 156])
 (S0 (.seq (R0 [1,2,4,5,6,14,15,16,17,18] [kI0 18 0])
 (.block 8 (.loop [1,2,4,5,6,14,15,16,17,18] (S0 (.seq (R0 [1,2,4,5,6,14,15,16,17,18,163] [mI0 157 18,fI0 158 0 2,lI0 159 158,mI0 160 1,xI0 161 159 160,lI0 162 161,bI0 163 .lss 157 162])
 (.cond (.t 163) .skip (.exit 8)))
 (S0 (.block 9 (R0 [1,2,4,5,6,14,15,16,17,18] [LI0 166 2,mI0 167 1,mI0 168 17,C3 169 176 166 167 168,mI0 17 169]))
 (R0 [1,2,4,5,6,14,15,16,17,18] [mI0 164 18,cI0 165 .add 164 1,mI0 18 165]))))))
 (S0 (.draw [1,2,4,5,6,14,15,183] [] [qD 170 (.load true 3 (.t 2)) 0,mD0 171 1 1,qD 172 (.bin .add .other (.t 171) (I0 1)) 2,mD0 173 14 3,mD0 174 17 4,qD 176 (.load true 3 (.t 2)) 6,mD0 177 1 7,qD 178 (.bin .add .other (.t 177) (I0 1)) 8,mD0 179 16 9,mD0 180 14 10,eD 175 (.call 105 [(.t 170),(.t 172),(.t 173),(.t 174)]) 5 [6],eD 181 (.call 105 [(.t 176),(.t 178),(.t 179),(.t 180)]) 11 [],eD 182 (.call 122 [(.t 175),(.t 181)]) 12 [],qD 183 (.un .not (.t 182)) 13])
 (.cond (.t 183) (S0 (R0 [4] [mI0 184 6,mI0 185 15,qI 186 (.build [(.int .i64 0),(.int .i64 0),(.int .i64 0),(.int .i64 0)] [(0,1,(I0 4)),(1,1,(.t 184)),(2,1,(.t 185))]),vI0 4 4 186])
 .ret) .skip))))))
 (R0 [1,2,4,5,6,14,15] [mI0 151 15,cI0 152 .add 151 1,mI0 15 152]))))))
 (S0 (R0 [4] [qI 187 (.build [(.int .i64 0),(.int .i64 0),(.int .i64 0),(.int .i64 0)] []),vI0 4 4 187])
 .ret)))))))))⟩
theorem cf204:cF prog f204=some if204:=by kernel_rfl
def if225:IFn:=⟨[0,1,2,3],[(.cell 8 true 3)],(S0 (R0 [0,1,2,3,8] [eI 8 (.alloc [.nils,.nils,.nils])])
 (S0 (R0 [1,2,3,8,9] [mI0 21 0,C1 22 236 21,mI0 20 22,eI0 23 20 0,eI0 24 20 1,mI0 9 23,mI0 10 24])
 (S0 (R0 [1,2,3,8,9,11] [mI0 26 1,C1 27 236 26,mI0 25 27,eI0 28 25 0,eI0 29 25 1,mI0 11 28,mI0 12 29])
 (S0 (R0 [1,2,3,8,9,13] [mI0 30 9,C1 31 63 30,mI0 32 11,eI 33 (.append 1 8 (.t 31) (.t 32)),mI0 13 33])
 (S0 (R0 [1,2,3,8,9,13,14] [mI0 34 13,C1 35 203 34,eI 14 (.alloc [.nils,.nils,.nils]),vI0 3 14 35])
 (S0 (R0 [1,2,3,8,9,13,14,15] [mI0 36 9,sI0 37 36,mI0 15 37])
 (S0 (.seq (R0 [1,2,3,8,9,13,14,15,16] [kI0 16 0])
 (.block 0 (.loop [1,2,3,8,9,13,14,15,16] (S0 (.seq (R0 [1,2,3,8,9,13,14,15,16,42] [mI0 38 16,cI0 39 .add 38 1,mI0 40 13,sI0 41 40,bI0 42 .lss 39 41])
 (.cond (.t 42) .skip (.exit 0)))
 (S0 (.block 1 (S0 (R0 [1,2,3,8,9,13,14,15,16,48] [mI0 45 16,mI0 46 15,cI0 47 .sub 46 1,bI0 48 .neq 45 47])
 (.cond (.t 48) (.draw [1,2,3,8,9,13,14,15,16] [] [fD0 49 1 14 0,lD0 50 49 1,mD0 51 16 2,mD0 52 13 3,qD 53 (.len (.t 52)) 4,mD0 54 16 5,qD 55 (.bin .add .other (.t 54) (I0 1)) 6,eD 56 (.call 230 [(.t 53),(.t 55)]) 7 [1],xD0 57 50 51 8,wD0 1 57 56 9]) .skip)))
 (R0 [1,2,3,8,9,13,14,15,16] [mI0 43 16,cI0 44 .add 43 1,mI0 16 44]))))))
 (S0 (.seq (R0 [1,2,3,8,9,13,14,15,59] [mI0 58 15,cI0 59 .gtr 58 0])
 (.cond (.t 59) (.draw [1,2,8,9,13,14,15] [] [fD0 60 1 14 0,lD0 61 60 1,mD0 62 15 2,qD 63 (.bin .sub .other (.t 62) (I0 1)) 3,mD0 64 13 4,mD0 65 15 5,mD0 66 3 6,eD 67 (.call 237 [(.t 64),(.t 65),(.t 66)]) 7 [1],xD0 68 61 63 8,wD0 1 68 67 9]) .skip))
 (S0 (R0 [1,8,9,13,14,15,17] [mI0 69 2,mI0 70 1,bI0 71 .rem 69 70,mI0 17 71])
 (S0 (.seq (R0 [1,8,9,13,14,15,17,18] [kI0 18 0])
 (.block 2 (.loop [1,8,9,13,14,15,17,18] (S0 (.seq (R0 [1,8,9,13,14,15,17,18,74] [mI0 72 18,mI0 73 15,bI0 74 .lss 72 73])
 (.cond (.t 74) .skip (.exit 2)))
 (S0 (.block 3 (S0 (.seq (R0 [1,8,9,13,14,15,17,18,19] [mI0 77 15,mI0 19 77])
 (.block 4 (.loop [1,8,9,13,14,15,17,18,19] (S0 (.seq (R0 [1,8,9,13,14,15,17,18,19,81] [mI0 78 19,mI0 79 13,sI0 80 79,bI0 81 .lss 78 80])
 (.cond (.t 81) .skip (.exit 4)))
 (S0 (.block 5 (.draw [1,8,9,13,14,15,17,18,19] [] [fD0 84 2 14 0,lD0 85 84 1,mD0 86 18 2,xD0 87 85 86 3,lD0 88 87 4,mD0 89 19 5,mD0 90 18 6,qD 91 (.bin .sub .other (.t 89) (.t 90)) 7,qD 92 (.bin .sub .other (.t 91) (I0 1)) 8,mD0 93 13 9,mD0 94 19 10,mD0 95 17 11,eD 96 (.call 237 [(.t 93),(.t 94),(.t 95)]) 12 [1,4],xD0 97 88 92 13,wD0 1 97 96 14]))
 (R0 [1,8,9,13,14,15,17,18,19] [mI0 82 19,cI0 83 .add 82 1,mI0 19 83]))))))
 (R0 [1,8,9,13,14,15,17,18] [mI0 98 17,mI0 99 9,mI0 100 18,xI0 101 99 100,lI0 102 101,mI0 103 1,C3 104 238 98 102 103,mI0 17 104])))
 (R0 [1,8,9,13,14,15,17,18] [mI0 75 18,cI0 76 .add 75 1,mI0 18 76]))))))
 (S0 (R0 [8] [LI0 105 14,vI0 3 8 105])
 .ret)))))))))))⟩
theorem cf225:cF prog f225=some if225:=by kernel_rfl
def if227:IFn:=⟨[0,1,2],[(.cell 6 true 3)],(S0 (R0 [0,1,2,6] [eI 6 (.alloc [.nils,.nils,.nils])])
 (S0 (R0 [0,1,6,7] [mI0 20 2,C1 21 236 20,mI0 19 21,eI0 22 19 0,eI0 23 19 1,mI0 7 22,mI0 8 23])
 (S0 (R0 [0,1,6,7,9] [mI0 24 7,C1 25 63 24,mI0 9 25])
 (S0 (.seq (R0 [0,1,6,7,9,10] [kI0 10 0])
 (.block 0 (.loop [0,1,6,7,9,10] (S0 (.seq (R0 [0,1,6,7,9,10,29] [mI0 26 10,mI0 27 1,sI0 28 27,bI0 29 .lss 26 28])
 (.cond (.t 29) .skip (.exit 0)))
 (S0 (.block 1 (R0 [0,1,6,7,9,10] [mI0 32 9,mI0 33 0,eI 34 (.buildSl 1 1 [(.int .i64 0)] [(0,1,(.t 33))]),eI 35 (.append 1 8 (.t 32) (.t 34)),mI0 9 35]))
 (R0 [0,1,6,7,9,10] [mI0 30 10,cI0 31 .add 30 1,mI0 10 31]))))))
 (S0 (R0 [0,1,6,7,9,11] [mI0 36 9,C1 37 203 36,eI 11 (.alloc [.nils,.nils,.nils]),vI0 3 11 37])
 (S0 (R0 [0,1,6,7,9,11,12] [mI0 38 7,sI0 39 38,mI0 12 39])
 (S0 (.seq (R0 [0,1,6,7,9,11,12,13] [kI0 13 0])
 (.block 2 (.loop [0,1,6,7,9,11,12,13] (S0 (.seq (R0 [0,1,6,7,9,11,12,13,43] [mI0 40 13,cI0 41 .add 40 1,mI0 42 12,bI0 43 .lss 41 42])
 (.cond (.t 43) .skip (.exit 2)))
 (S0 (.block 3 (.draw [0,1,6,7,9,11,12,13] [] [fD0 46 1 11 0,lD0 47 46 1,mD0 48 13 2,mD0 49 9 3,qD 50 (.len (.t 49)) 4,mD0 51 13 5,qD 52 (.bin .add .other (.t 51) (I0 1)) 6,eD 53 (.call 230 [(.t 50),(.t 52)]) 7 [1],xD0 54 47 48 8,wD0 1 54 53 9]))
 (R0 [0,1,6,7,9,11,12,13] [mI0 44 13,cI0 45 .add 44 1,mI0 13 45]))))))
 (S0 (R0 [0,1,6,7,11,12,14] [mI0 55 1,C1 56 64 55,mI0 14 56])
 (S0 (.seq (R0 [0,1,6,7,11,12,14,15] [kI0 15 0])
 (.block 4 (.loop [0,1,6,7,11,12,14,15] (S0 (.seq (R0 [0,1,6,7,11,12,14,15,59] [mI0 57 15,mI0 58 12,bI0 59 .lss 57 58])
 (.cond (.t 59) .skip (.exit 4)))
 (S0 (.block 5 (S0 (.seq (R0 [0,1,6,7,11,12,14,15,16] [kI0 16 0])
 (.block 6 (.loop [0,1,6,7,11,12,14,15,16] (S0 (.seq (R0 [0,1,6,7,11,12,14,15,16,65] [mI0 62 16,mI0 63 1,sI0 64 63,bI0 65 .lss 62 64])
 (.cond (.t 65) .skip (.exit 6)))
 (S0 (.block 7 (.draw [0,1,6,7,11,12,14,15,16] [] [fD0 68 2 11 0,lD0 69 68 1,mD0 70 15 2,xD0 71 69 70 3,lD0 72 71 4,mD0 73 12 5,mD0 74 16 6,qD 75 (.bin .add .other (.t 73) (.t 74)) 7,mD0 76 15 8,qD 77 (.bin .sub .other (.t 75) (.t 76)) 9,qD 78 (.bin .sub .other (.t 77) (I0 1)) 10,mD0 79 12 11,mD0 80 14 12,mD0 81 16 13,xD0 82 80 81 14,lD0 83 82 15,eD 84 (.call 229 [(.t 79),(.t 83),(I0 0)]) 16 [1,4],xD0 85 72 78 17,wD0 1 85 84 18]))
 (R0 [0,1,6,7,11,12,14,15,16] [mI0 66 16,cI0 67 .add 66 1,mI0 16 67]))))))
 (S0 (R0 [0,1,6,7,11,12,14,15,17] [mI0 86 14,mI0 17 86])
 (S0 (R0 [0,1,6,7,11,12,14,15,17,18] [kI0 18 1])
 (.block 8 (.loop [0,1,6,7,11,12,14,15,17,18] (S0 (.seq (R0 [0,1,6,7,11,12,14,15,17,18,92] [mI0 87 18,mI0 88 7,mI0 89 15,xI0 90 88 89,lI0 91 90,bI0 92 .lss 87 91])
 (.cond (.t 92) .skip (.exit 8)))
 (S0 (.block 9 (R0 [0,1,6,7,11,12,14,15,17,18] [mI0 95 0,mI0 96 14,mI0 97 17,mI0 98 1,sI0 99 98,eI 100 (.call 239 [(.t 95),(.t 96),(.t 97),(.t 99)]),mI0 14 100]))
 (R0 [0,1,6,7,11,12,14,15,17,18] [mI0 93 18,cI0 94 .add 93 1,mI0 18 94])))))))))
 (R0 [0,1,6,7,11,12,14,15] [mI0 60 15,cI0 61 .add 60 1,mI0 15 61]))))))
 (S0 (R0 [6] [LI0 101 11,vI0 3 6 101])
 .ret))))))))))⟩
theorem cf227:cF prog f227=some if227:=by kernel_rfl
def if243:IFn:=⟨[0,1,2,3],[(.tmp 8)],(S0 (R0 [0,1,2,3] [zI0 8])
 (S0 (R0 [0,1,2,9] [mI0 12 3,eI 13 (.makeSl 1 8 [(.int .i64 0)] (.t 12) (.t 12)),mI0 9 13])
 (S0 (.seq (R0 [0,1,2,9,10] [kI0 10 0])
 (.block 0 (.loop [0,1,2,9,10] (S0 (.seq (R0 [0,1,2,9,10,23] [mI0 14 10,mI0 15 1,sI0 16 15,bI0 17 .lss 14 16,mI0 18 17,gm0 19 10 18 true,gm0 20 2 18 true,G0 21 (.len (.t 20)) true 18 true,G0 22 (.bin .lss .other (.t 19) (.t 21)) true 18 true,aI0 23 18 22])
 (.cond (.t 23) .skip (.exit 0)))
 (S0 (.block 1 (S0 (R0 [0,1,2,9,10,11] [kI0 11 0])
 (.block 2 (.loop [0,1,2,9,10,11] (S0 (.seq (R0 [0,1,2,9,10,11,38] [mI0 26 11,mI0 27 9,sI0 28 27,bI0 29 .lss 26 28,mI0 30 29,gm0 31 11 30 true,gm0 32 2 30 true,gm0 33 10 30 true,G0 34 (.indexAddr 1 (.t 32) (.t 33)) true 30 true,G0 35 (.load false 1 (.t 34)) true 30 true,G0 36 (.len (.t 35)) true 30 true,G0 37 (.bin .lss .other (.t 31) (.t 36)) true 30 true,aI0 38 30 37])
 (.cond (.t 38) .skip (.exit 2)))
 (S0 (.block 3 (.draw [0,1,2,9,10,11] [] [mD0 41 9 0,mD0 42 11 1,mD0 43 9 2,mD0 44 11 3,xD0 45 43 44 4,lD0 46 45 5,mD0 47 1 6,mD0 48 10 7,xD0 49 47 48 8,lD0 50 49 9,mD0 51 2 10,mD0 52 10 11,xD0 53 51 52 12,lD0 54 53 13,mD0 55 11 14,xD0 56 54 55 15,lD0 57 56 16,qD 58 (.bin .mul .other (.t 50) (.t 57)) 17,qD 59 (.bin .add .other (.t 46) (.t 58)) 18,mD0 60 0 19,qD 61 (.bin .rem .other (.t 59) (.t 60)) 20,xD0 62 41 42 21,wD0 1 62 61 22]))
 (R0 [0,1,2,9,10,11] [mI0 39 11,cI0 40 .add 39 1,mI0 11 40])))))))
 (R0 [0,1,2,9,10] [mI0 24 10,cI0 25 .add 24 1,mI0 10 25]))))))
 (S0 (R0 [8] [mI0 63 9,mI0 8 63])
 .ret))))⟩
theorem cf243:cF prog f243=some if243:=by kernel_rfl
def if247:IFn:=⟨[0],[(.tmp 2)],(S0 (R0 [1] [eI 1 (.box (.t 0)),qI 2 (.mv (.c (.str [])))])
 (S0 (R0 [1,3] [fI0 9 0 1,lI0 10 9,sI0 11 10,mI0 3 11])
 (S0 (R0 [1,3,4] [qI 4 (.mv (.c (.str [])))])
 (S0 (.seq (R0 [1,3,4,13] [mI0 12 3,cI0 13 .eql 12 0])
 (.cond (.t 13) (S0 (R0 [2] [qI 2 (.mv (.c (.str [49])))])
 .ret) .skip))
 (S0 (.seq (R0 [1,3,4,5] [kI0 5 0])
 (.block 0 (.loop [1,3,4,5] (S0 (.seq (R0 [1,3,4,5,16] [mI0 14 5,mI0 15 3,bI0 16 .lss 14 15])
 (.cond (.t 16) .skip (.exit 0)))
 (S0 (.block 1 (S0 (.seq (R0 [1,3,4,5,20] [mI0 19 5,cI0 20 .gtr 19 0])
 (.cond (.t 20) (R0 [1,3,4,5] [mI0 21 4,qI 22 (.bin .add .other (.t 21) (.c (.str [32]))),mI0 4 22]) .skip))
 (R0 [1,3,4,5] [mI0 23 4,fI0 24 0 1,lI0 25 24,mI0 26 5,xI0 27 25 26,lI0 28 27,C1 29 254 28,bI0 30 .add 23 29,mI0 4 30])))
 (R0 [1,3,4,5] [mI0 17 5,cI0 18 .add 17 1,mI0 5 18]))))))
 (S0 (.seq (R0 [1,3,4,6] [kI0 6 0])
 (.block 2 (.loop [1,3,4,6] (S0 (.seq (R0 [1,3,4,6,33] [mI0 31 6,mI0 32 3,bI0 33 .lss 31 32])
 (.cond (.t 33) .skip (.exit 2)))
 (S0 (.block 3 (S0 (R0 [1,3,4,6,42] [fI0 36 1 1,lI0 37 36,mI0 38 6,xI0 39 37 38,lI0 40 39,C1 41 114 40,nI0 42 41])
 (.cond (.t 42) (.draw [1,3,4,6] [] [mD0 43 4 0,qD 44 (.bin .add .other (.t 43) (.c (.str [59,32]))) 1,mD0 45 6 2,fD0 49 0 1 6,lD0 50 49 7,mD0 51 6 8,xD0 52 50 51 9,lD0 53 52 10,fD0 57 1 1 14,lD0 58 57 15,mD0 59 6 16,xD0 60 58 59 17,lD0 61 60 18,eD 46 (.call 255 [(.t 45)]) 3 [7,10,15,18],qD 47 (.bin .add .other (.t 44) (.t 46)) 4,qD 48 (.bin .add .other (.t 47) (.c (.str [94]))) 5,eD 54 (.call 254 [(.t 53)]) 11 [15,18],qD 55 (.bin .add .other (.t 48) (.t 54)) 12,qD 56 (.bin .add .other (.t 55) (.c (.str [61]))) 13,eD 62 (.call 190 [(.t 61)]) 19 [],eD 63 (.call 256 [(.t 62)]) 20 [],qD 64 (.bin .add .other (.t 56) (.t 63)) 21,mD0 4 64 22]) .skip)))
 (R0 [1,3,4,6] [mI0 34 6,cI0 35 .add 34 1,mI0 6 35]))))))
 (S0 (.seq (R0 [1,3,4,7] [kI0 7 0])
 (.block 4 (.loop [1,3,4,7] (S0 (.seq (R0 [1,3,4,7,67] [mI0 65 7,mI0 66 3,bI0 67 .lss 65 66])
 (.cond (.t 67) .skip (.exit 4)))
 (S0 (.block 5 (S0 (R0 [1,3,4,7,8] [mI0 70 7,cI0 71 .add 70 1,mI0 8 71])
 (.block 6 (.loop [1,3,4,7,8] (S0 (.seq (R0 [1,3,4,7,8,74] [mI0 72 8,mI0 73 3,bI0 74 .lss 72 73])
 (.cond (.t 74) .skip (.exit 6)))
 (S0 (.block 7 (S0 (.draw [1,3,4,7,8,92] [] [fD0 77 2 1 0,lD0 78 77 1,mD0 79 7 2,xD0 80 78 79 3,lD0 81 80 4,mD0 82 8 5,mD0 83 7 6,qD 84 (.bin .sub .other (.t 82) (.t 83)) 7,qD 85 (.bin .sub .other (.t 84) (I0 1)) 8,xD0 86 81 85 9,lD0 87 86 10,mD0 88 3 11,mD0 89 8 12,eD 90 (.call 230 [(.t 88),(.t 89)]) 13 [1,4,10],eD 91 (.call 122 [(.t 87),(.t 90)]) 14 [],qD 92 (.un .not (.t 91)) 15])
 (.cond (.t 92) (.draw [1,3,4,7,8] [] [mD0 93 4 0,qD 94 (.bin .add .other (.t 93) (.c (.str [59,32]))) 1,mD0 95 8 2,mD0 99 7 6,fD0 103 2 1 10,lD0 104 103 11,mD0 105 7 12,xD0 106 104 105 13,lD0 107 106 14,mD0 108 8 15,mD0 109 7 16,qD 110 (.bin .sub .other (.t 108) (.t 109)) 17,qD 111 (.bin .sub .other (.t 110) (I0 1)) 18,xD0 112 107 111 19,lD0 113 112 20,eD 96 (.call 255 [(.t 95)]) 3 [11,14,20],qD 97 (.bin .add .other (.t 94) (.t 96)) 4,qD 98 (.bin .add .other (.t 97) (.c (.str [94]))) 5,eD 100 (.call 255 [(.t 99)]) 7 [11,14,20],qD 101 (.bin .add .other (.t 98) (.t 100)) 8,qD 102 (.bin .add .other (.t 101) (.c (.str [61]))) 9,eD 114 (.call 190 [(.t 113)]) 21 [],eD 115 (.call 256 [(.t 114)]) 22 [],qD 116 (.bin .add .other (.t 102) (.t 115)) 23,mD0 4 116 24]) .skip)))
 (R0 [1,3,4,7,8] [mI0 75 8,cI0 76 .add 75 1,mI0 8 76])))))))
 (R0 [1,3,4,7] [mI0 68 7,cI0 69 .add 68 1,mI0 7 69]))))))
 (S0 (R0 [2] [mI0 117 4,mI0 2 117])
 .ret))))))))⟩
theorem cf247:cF prog f247=some if247:=by kernel_rfl
def if254:IFn:=⟨[0],[(.tmp 2)],(S0 (R0 [0] [qI 2 (.mv (.c (.str [])))])
 (S0 (.seq (R0 [0,4] [mI0 3 0,cI0 4 .lss 3 10])
 (.cond (.t 4) (S0 (R0 [2] [mI0 5 0,qI 6 (.bin .add .other (I0 48) (.t 5)),qI 7 (.conv .u8 (.t 6)),eI 8 (.buildSl 1 1 [(.int .u8 0)] [(0,1,(.t 7))]),eI 9 (.strOf (.t 8)),mI0 2 9])
 .ret) .skip))
 (S0 (.tree [2] (.q (mD0 10 0 0) (.q (qD 11 (.bin .quo .other (.t 10) (I0 10)) 1) (.q (mD0 13 0 3) (.q (qD 14 (.bin .rem .other (.t 13) (I0 10)) 4) (.q (qD 15 (.bin .add .other (I0 48) (.t 14)) 5) (.q (qD 16 (.conv .u8 (.t 15)) 6) (.e (eD 12 (.call 254 [(.t 11)]) 2 []) (.e (eD 17 (.buildSl 1 1 [(.int .u8 0)] [(0,1,(.t 16))]) 7 []) (.e (eD 18 (.strOf (.t 17)) 8 []) (.q (qD 19 (.bin .add .other (.t 12) (.t 18)) 9) (.q (mD0 2 19 10) .done)) .none) .none) (.e (eD 17 (.buildSl 1 1 [(.int .u8 0)] [(0,1,(.t 16))]) 7 []) (.e (eD 12 (.call 254 [(.t 11)]) 2 []) (.e (eD 18 (.strOf (.t 17)) 8 []) (.q (qD 19 (.bin .add .other (.t 12) (.t 18)) 9) (.q (mD0 2 19 10) .done)) .none) (.e (eD 18 (.strOf (.t 17)) 8 []) (.e (eD 12 (.call 254 [(.t 11)]) 2 []) (.q (qD 19 (.bin .add .other (.t 12) (.t 18)) 9) (.q (mD0 2 19 10) .done)) .none) .none)) .none)))))))))
 .ret)))⟩
theorem cf254:cF prog f254=some if254:=by kernel_rfl
end Go.Proofs
set_option linter.unusedSimpArgs false
set_option linter.unusedVariables false
namespace Go.Proofs
open Go.Ab
variable {σ:PHeap} {K:PV→PHeap→Prop}
theorem Qn {n lo hi:Int} (hk:K (.bool (decide (lo≤n∧n≤hi))) σ):zA Tryz.prog 38 [.int .i64 n,.int .i64 lo,.int .i64 hi] σ K:=by
 refine zC mix Tryz.func38 ?_
 conv=>arg 2;cbv
 refine zF rfl ?_
 by_cases h1:lo≤n
 ·simp only [pwA,seval,-iQ0,h1];exact pke hk ⟨fun x=>x.2,fun x=>⟨h1,x⟩⟩
 ·simp only [pwA,seval,-iQ0,h1];exact pkf hk (by omega)
theorem zBP {n lo hi:Int} (hk:K (.bool (decide (lo≤n∧n≤hi))) σ):zA Tryz.prog 89 [.int .i64 n,.int .i64 lo,.int .i64 hi] σ K:=by
 refine zC mix Tryz.func89 ?_
 conv=>arg 2;cbv
 refine zF rfl ?_
 by_cases h1:lo≤n
 ·simp only [pwA,seval,-iQ0,h1];exact pke hk ⟨fun x=>x.2,fun x=>⟨h1,x⟩⟩
 ·simp only [pwA,seval,-iQ0,h1];exact pkf hk (by omega)
def isVec (xs:List Int) (p n:Int):Prop:=(xs.length:Int)=n∧∀x∈xs,0≤x∧x≤p-1
instance (xs:List Int) (p n:Int):Decidable (isVec xs p n):=by unfold isVec;infer_instance
def isZ (xs:List Int):Prop:=∀x∈xs,x=0
instance (xs:List Int):Decidable (isZ xs):=by unfold isZ;infer_instance
theorem zJb {w:Bool} {a:AV} {xs:List Int} {l:Nat} (hl:l=xs.length) (hb:xs.length≤4611686018427387904) (hk:K (.bool (decide (isZ xs))) σ):zA Tryz.prog 127 [.fz w a l (pis xs)] σ K:=by
 subst hl;refine zC mix Tryz.func127 ?_
 conv=>arg 2;cbv
 refine zF rfl ?_;simp only [pwA,seval,-iQ0];refine zG (fun m vs h'=>∃i:Nat,i≤xs.length∧m=xs.length-i∧vs=[.fz w a xs.length (pis xs),.int .i64 xs.length,.int .i64 i]∧h'=σ∧∀x∈xs.take i,x=0) xs.length ?_ ?_
 ·exact⟨0,by omega,by omega,rfl,rfl,by simp⟩
 ·rintro m vs h' ⟨i,hi,rfl,rfl,rfl,hall⟩
  simp only [pwA,seval,-iQ0]
  split
  ·rename_i hlt
   simp only [pwA,seval,-iQ0,hlt,zM,gi hlt]
   split
   ·rename_i h0
    simp only [pwA,seval,-iQ0,wrapS hlt hb];exact⟨_,by omega,i+1,by omega,rfl,rfl,zAr hlt hall h0⟩
   ·rename_i hn
    exact pkf hk fun hv=>hn (hv _ (List.getElem_mem hlt))
  ·refine pkt hk (zDk (by omega) hall)
theorem zIA {w:Bool} {a:AV} {xs:List Int} {l:Nat} (hl:l=xs.length) (hb:xs.length≤4611686018427387904) (hk:K (.bool (decide (isZ xs))) σ):zA Tryz.prog 114 [.fz w a l (pis xs)] σ K:=by
 subst hl;refine zC mix Tryz.func114 ?_
 conv=>arg 2;cbv
 refine zF rfl ?_;simp only [pwA,seval,-iQ0];refine zG (fun m vs h'=>∃i:Nat,i≤xs.length∧m=xs.length-i∧vs=[.fz w a xs.length (pis xs),.int .i64 i]∧h'=σ∧∀x∈xs.take i,x=0) xs.length ?_ ?_
 ·exact⟨0,by omega,by omega,rfl,rfl,by simp⟩
 ·rintro m vs h' ⟨i,hi,rfl,rfl,rfl,hall⟩
  simp only [pwA,seval,-iQ0]
  split
  ·rename_i hlt
   simp only [pwA,seval,-iQ0,hlt,zM,gi hlt]
   split
   ·rename_i h0
    simp only [pwA,seval,-iQ0,wrapS hlt hb];exact⟨_,by omega,i+1,by omega,rfl,rfl,zAr hlt hall h0⟩
   ·rename_i hn
    exact pkf hk fun hv=>hn (hv _ (List.getElem_mem hlt))
  ·refine pkt hk (zDk (by omega) hall)
theorem zJk {xs ys:List Int} (hl:xs.length=ys.length) {i:Nat} (hi:i<xs.length) (h:xs.take i=ys.take i) (he:xs[i]=ys[i]'(by omega)):xs.take (i+1)=ys.take (i+1):=by
 rw [List.take_succ_eq_append_getElem hi,List.take_succ_eq_append_getElem (by omega:i<ys.length),h,he]
theorem QJ {w w':Bool} {a a':AV} {xs ys:List Int} {l:Nat} {l':Nat} (hl:l=xs.length) (hl':l'=ys.length) (hb:xs.length≤4611686018427387904) (hk:K (.bool (decide (xs=ys))) σ):zA Tryz.prog 122 [.fz w a l (pis xs),.fz w' a' l' (pis ys)] σ K:=by
 subst hl;subst hl';refine zC mix Tryz.func122 ?_
 conv=>arg 2;cbv
 refine zF rfl ?_;simp only [pwA,seval,-iQ0]
 split
 ·rename_i hl
  have hl:xs.length=ys.length:=by omega
  refine zG (fun m vs h'=>∃i:Nat,i≤xs.length∧m=xs.length-i∧vs=[.fz w a xs.length (pis xs),.fz w' a' ys.length (pis ys),.int .i64 i]∧h'=σ∧xs.take i=ys.take i) xs.length ?_ ?_
  ·exact⟨0,by omega,by omega,rfl,rfl,by simp⟩
  ·rintro m vs h' ⟨i,hi,rfl,rfl,rfl,hall⟩
   simp only [pwA,seval,-iQ0]
   split
   ·rename_i hlt
    have hlt2:i<ys.length:=by omega
    simp only [pwA,seval,-iQ0,hlt,hlt2,zM,gi hlt,gi hlt2]
    split
    ·rename_i h0
     simp only [pwA,seval,-iQ0,wrapS hlt hb];exact⟨_,by omega,i+1,by omega,rfl,rfl,zJk hl hlt hall h0⟩
    ·rename_i hn
     refine pkf hk fun hv=>hn (by subst hv;rfl)
   ·refine pkt hk ?_
    rwa [List.take_of_length_le (by omega),List.take_of_length_le (by omega)]at hall
 ·rename_i hl
  exact pkf hk fun hv=>hl (by rw [hv])
theorem zAQ {w w':Bool} {a a':AV} {xs ys:List Int} {l:Nat} {l':Nat} (hl:l=xs.length) (hl':l'=ys.length) (hb:xs.length≤4611686018427387904) (hk:K (.bool (decide (xs=ys))) σ):zA Tryz.prog 41 [.fz w a l (pis xs),.fz w' a' l' (pis ys)] σ K:=by
 subst hl;subst hl';refine zC mix Tryz.func41 ?_
 conv=>arg 2;cbv
 refine zF rfl ?_;simp only [pwA,seval,-iQ0]
 split
 ·rename_i hl
  have hl:xs.length=ys.length:=by omega
  refine zG (fun m vs h'=>∃i:Nat,i≤xs.length∧m=xs.length-i∧vs=[.fz w a xs.length (pis xs),.fz w' a' ys.length (pis ys),.int .i64 xs.length,.int .i64 i]∧h'=σ∧xs.take i=ys.take i) xs.length ?_ ?_
  ·exact⟨0,by omega,by omega,rfl,rfl,by simp⟩
  ·rintro m vs h' ⟨i,hi,rfl,rfl,rfl,hall⟩
   simp only [pwA,seval,-iQ0]
   split
   ·rename_i hlt
    have hlt2:i<ys.length:=by omega
    simp only [pwA,seval,-iQ0,hlt,hlt2,zM,gi hlt,gi hlt2]
    split
    ·rename_i h0
     simp only [pwA,seval,-iQ0,wrapS hlt hb];exact⟨_,by omega,i+1,by omega,rfl,rfl,zJk hl hlt hall h0⟩
    ·rename_i hn
     refine pkf hk fun hv=>hn (by subst hv;rfl)
   ·refine pkt hk ?_
    rwa [List.take_of_length_le (by omega),List.take_of_length_le (by omega)]at hall
 ·rename_i hl
  exact pkf hk fun hv=>hl (by rw [hv])
def isP (n:Int):Prop:=n=2∨n=3∨n=5∨n=7
instance (n:Int):Decidable (isP n):=by unfold isP;infer_instance
theorem isP.bd {n:Int} (hp:isP n):2≤n∧n≤7:=by unfold isP at hp;omega
theorem zAq {n:Int} (hk:K (.bool (decide (isP n))) σ):zA Tryz.prog 35 [.int .i64 n] σ K:=by
 refine zC mix Tryz.func35 ?_
 conv=>arg 2;cbv
 refine zF rfl ?_
 by_cases h2:n=2
 ·simp only [pwA,seval,-iQ0,h2];exact pkt hk (by unfold isP;omega)
 by_cases h3:n=3
 ·simp only [pwA,seval,-iQ0,h3];exact pkt hk (by unfold isP;omega)
 by_cases h5:n=5
 ·simp only [pwA,seval,-iQ0,h5];exact pkt hk (by unfold isP;omega)
 by_cases h7:n=7
 ·simp only [pwA,seval,-iQ0,h7];exact pkt hk (by unfold isP;omega)
 simp only [pwA,seval,-iQ0,h2,h3,h5,h7];exact pkf hk (by unfold isP;omega)
theorem zD3 {n:Int} (hk:K (.bool (decide (isP n))) σ):zA Tryz.prog 86 [.int .i64 n] σ K:=by
 refine zC mix Tryz.func86 ?_
 conv=>arg 2;cbv
 refine zF rfl ?_
 by_cases h2:n=2
 ·simp only [pwA,seval,-iQ0,h2];exact pkt hk (by unfold isP;omega)
 by_cases h3:n=3
 ·simp only [pwA,seval,-iQ0,h3];exact pkt hk (by unfold isP;omega)
 by_cases h5:n=5
 ·simp only [pwA,seval,-iQ0,h5];exact pkt hk (by unfold isP;omega)
 by_cases h7:n=7
 ·simp only [pwA,seval,-iQ0,h7];exact pkt hk (by unfold isP;omega)
 simp only [pwA,seval,-iQ0,h2,h3,h5,h7];exact pkf hk (by unfold isP;omega)
theorem qw {w:Bool} {a:AV} {xs:List Int} {l:Nat} (hl:l=xs.length) (hb:xs.length≤4294967296) (hk:∀cap,full 1 cap xs.length→K (.sl σ.next 0 xs.length cap) (σ.new (pis xs))):zA Tryz.prog 63 [.fz w a l (pis xs)] σ K:=by
 subst hl;refine zA.gh ?_;refine zC mix Tryz.func63 ?_
 conv=>arg 2;cbv
 refine zF rfl ?_;simp only [pwA,seval,-iQ0];refine PSl.cat (bytes:=8) (σb:=σ) (n:=0) (cs:=[]) (zB σ _) (PSl.new _ 1 rfl (Nat.le_refl _)) (zI xs) (by omega) (by omega) fun v' h' hk' ha=>?_
 simp only [pwA,seval,-iQ0]at ha ⊢
 exact ha.out hk' (zO _ _) hk
theorem zBU {w:Bool} {a:AV} {xs:List Int} {l:Nat} (hl:l=xs.length) (hb:xs.length≤4294967296) (hk:ResI σ K xs):zA Tryz.prog 57 [.fz w a l (pis xs)] σ K:=by
 subst hl;refine zA.nil0 fun hnil=>zA.gh ?_
 refine zC mix Tryz.func57 ?_
 conv=>arg 2;cbv
 refine zF rfl ?_;simp only [pwA,seval,-iQ0];cases hn:qy a
 ·simp only [pwA,seval,-iQ0]
  refine PSl.cat (bytes:=8) (σb:=σ) (n:=0) (cs:=[]) (zB σ _) (PSl.new _ 1 rfl (Nat.le_refl _)) (zI xs) (by omega) (by omega) fun v' h' hk' ha=>?_
  simp only [pwA,seval,-iQ0]at ha ⊢
  exact ha.out hk' (zO _ _) hk.2
 ·simp only [pwA,seval,-iQ0]
  exact Gh.ret (hk.1 (List.eq_nil_of_length_eq_zero (hnil hn).1))
def unitL (n k:Nat):List Int:=(List.replicate n 0).set k 1
theorem zh (n k:Nat):(unitL n k).length=n:=by simp [unitL]
theorem zEi {n k:Nat} (hn:n≤1048576) (hkn:k<n) (hk:∀cap,full 1 cap n→K (.sl σ.next 0 n cap) (σ.new (pis (unitL n k)))):zA Tryz.prog 156 [.int .i64 n,.int .i64 k] σ K:=by
 refine zC mix Tryz.func156 ?_
 conv=>arg 2;cbv
 refine zF rfl ?_;simp only [pwA,seval,-iQ0,hkn,List.length_replicate,zi,zI,mk8 (n:=n) (by omega),mkL (n:=n) (by omega),Nat.succ_le_of_lt hkn]
 rw [za (by simpa using hkn)]
 exact hk _ (.inr rfl)
end Go.Proofs
namespace Go.Lie
open Go.Ab
abbrev at_ (v:List Int) (j:Nat):Int:=v.getD j 0
theorem at_eq {v:List Int} {j:Nat} (h:j<v.length):at_ v j=v[j]:=by simp [at_,List.getD_eq_getElem?_getD,List.getElem?_eq_getElem h]
theorem at_ge {v:List Int} {j:Nat} (h:v.length≤j):at_ v j=0:=by simp [at_,List.getD_eq_getElem?_getD,List.getElem?_eq_none h]
theorem zB4 {a b:List Int} (hl:a.length=b.length) (h:∀j,j<a.length→at_ a j=at_ b j):a=b:=by
 apply List.ext_getElem hl;intro j h1 h2
 have:=h j h1
 rwa [at_eq h1,at_eq h2]at this
theorem at_set {v:List Int} {i:Nat} (hi:i<v.length) (x:Int) (j:Nat):at_ (v.set i x) j=if j=i then x else at_ v j:=by
 simp only [at_,List.getD_eq_getElem?_getD,List.getElem?_set]
 by_cases h:i=j
 ·subst h;simp [hi]
 ·rw [if_neg h,if_neg (fun e=>h e.symm)]
theorem ZI (n:Nat) (j:Nat):at_ (List.replicate n 0) j=0:=by
 simp only [at_,List.getD_eq_getElem?_getD,List.getElem?_replicate]
 split<;>rfl
def lmix (k:Int) (a:List Int) (m:Int) (b:List Int):List Int:=List.zipWith (fun x y=>k*x+m*y) a b
variable {p:Int} {n:Nat} {W:List (List Int)}
theorem Qb {i:Nat} (h:i<W.length):W.getD i []=W[i]:=by simp [List.getD_eq_getElem?_getD,List.getElem?_eq_getElem h]
def sumN:Nat→(Nat→Int)→Int
 | 0,_=>0
 | n+1,f=>sumN n f+f n
end Go.Lie
namespace Go.Proofs
open Go.Ab Go.Lie
variable {σ:PHeap} {K:PV→PHeap→Prop} {p:Int} {n:Nat} {W:List (List Int)} {B:List (List (List Int))} {vP vB:PV} {s:Nat}
theorem zo {α:Type} {B:List (List α)} {i:Nat} (h:i<B.length):B.getD i []=B[i]:=by simp [List.getD_eq_getElem?_getD,List.getElem?_eq_getElem h]
end Go.Proofs
namespace Go.Proofs
open Go.Ab Go.Lie
variable {σ:PHeap} {K:PV→PHeap→Prop} {p:Int} {n:Nat} {W:List (List Int)} {B:List (List (List Int))} {vP vB:PV} {s:Nat}
theorem zBW {k:Nat} (hn:n≤1048576) (hkn:k<n) (hk:∀a,K (.fz true a n (pis (unitL n k))) σ):zA Tryz.prog 156 [.int .i64 n,.int .i64 k] σ K:=
 zA.fz (fun K'=>zEi hn hkn) (zO _ _) fun o cap=>hk _
end Go.Proofs
namespace Go.Proofs
open Go.Ab Go.Lie
variable {σ:PHeap} {K:PV→PHeap→Prop} {p:Int} {n:Nat} {W:List (List Int)} {B:List (List (List Int))} {vP vB vL:PV} {s:Nat}
structure SzL (xs:List (List Int)):Prop where
 l:xs.length≤1048576
 r:∀x∈xs,x.length≤1048576
end Go.Proofs
namespace Go.Proofs
open Go.Ab Go.Lie
variable {σ:PHeap} {K:PV→PHeap→Prop} {p p':Int} {n:Nat} {W W':List (List Int)} {B B':List (List (List Int))} {vP vB vP' vB' vL vL':PV}
structure SzM (B:List (List (List Int))):Prop where
 l:B.length≤1048576
 r:∀q∈B,SzL q
end Go.Proofs
namespace Go.Grp
open Go.Ab Go.Lie
structure Mon {α:Type} (S:α→Prop) (m:α→α→α) (e:α):Prop where
 one:S e
 cl:∀{a b},S a→S b→S (m a b)
 «as»:∀{a b c},S a→S b→S c→m (m a b) c=m a (m b c)
 l1:∀{a},S a→m e a=a
 r1:∀{a},S a→m a e=a
section
variable {α:Type} {S:α→Prop} {m:α→α→α} {e:α}
def pw (m:α→α→α) (e x:α):Nat→α
 | 0=>e
 | k+1=>m (pw m e x k) x
def rep (m:α→α→α) (x:α):Nat→α→α
 | 0,a=>a
 | k+1,a=>rep m x k (m a x)
def ph (m:α→α→α) (e:α) (h:Nat→α) (x:Nat→Nat):Nat→Nat→α
 | t,0=>e
 | t,d+1=>m (pw m e (h t) (x t)) (ph m e h x (t+1) d)
def fo (m:α→α→α) (h:Nat→α) (x:Nat→Nat):Nat→Nat→α→α
 | t,0,a=>a
 | t,d+1,a=>fo m h x (t+1) d (rep m (h t) (x t) a)
theorem Mon.pw (M:Mon S m e) {x:α} (hx:S x):∀k,S (pw m e x k)
 | 0=>M.one
 | k+1=>M.cl (M.pw hx k) hx
theorem Mon.pw_add (M:Mon S m e) {x:α} (hx:S x) (a:Nat):∀b,Grp.pw m e x (a+b)=m (Grp.pw m e x a) (Grp.pw m e x b)
 | 0=>(M.r1 (M.pw hx a)).symm
 | b+1=>by
  show m (Grp.pw m e x (a+b)) x=m _ (m (Grp.pw m e x b) x);rw [M.pw_add hx a b,M.as (M.pw hx a) (M.pw hx b) hx]
theorem Mon.pw_one (M:Mon S m e) {x:α} (hx:S x):Grp.pw m e x 1=x:=M.l1 hx
theorem Mon.pw_comm (M:Mon S m e) {x:α} (hx:S x) (a:Nat):m (Grp.pw m e x a) x=m x (Grp.pw m e x a):=by
 have h1:=M.pw_add hx a 1;have h2:=M.pw_add hx 1 a;rw [M.pw_one hx]at h1 h2
 rw [←h1,←h2,Nat.add_comm]
theorem Mon.rep_eq (M:Mon S m e) {x:α} (hx:S x):∀(k:Nat) {a:α},S a→rep m x k a=m a (Grp.pw m e x k)
 | 0,a,ha=>(M.r1 ha).symm
 | k+1,a,ha=>by
  show rep m x k (m a x)=m a (m (Grp.pw m e x k) x);rw [M.rep_eq hx k (M.cl ha hx),M.as ha hx (M.pw hx k),M.pw_comm hx k]
theorem Mon.ph (M:Mon S m e) {h:Nat→α} {x:Nat→Nat}:∀{d t:Nat},(∀j,t≤j→j<t+d→S (h j))→S (ph m e h x t d)
 | 0,t,_=>M.one
 | d+1,t,hh=>M.cl (M.pw (hh t (Nat.le_refl _) (by omega)) _) (M.ph fun j h1 h2=>hh j (by omega) (by omega))
theorem Mon.fo_eq (M:Mon S m e) {h:Nat→α} {x:Nat→Nat}:∀{d t:Nat} {a:α},(∀j,t≤j→j<t+d→S (h j))→S a→fo m h x t d a=m a (Grp.ph m e h x t d)
 | 0,t,a,_,ha=>(M.r1 ha).symm
 | d+1,t,a,hh,ha=>by
  have ht:=hh t (Nat.le_refl _) (by omega)
  show fo m h x (t+1) d (rep m (h t) (x t) a)=m a (m _ _);rw [M.rep_eq ht _ ha,M.fo_eq (fun j h1 h2=>hh j (by omega) (by omega)) (M.cl ha (M.pw ht _)),M.as ha (M.pw ht _) (M.ph fun j h1 h2=>hh j (by omega) (by omega))]
theorem zBJ {h h':Nat→α} {x x':Nat→Nat}:∀{d t:Nat},(∀j,t≤j→j<t+d→h j=h' j∧x j=x' j)→Grp.ph m e h x t d=Grp.ph m e h' x' t d
 | 0,t,_=>rfl
 | d+1,t,hh=>by
  simp only [Grp.ph];rw [(hh t (Nat.le_refl _) (by omega)).1,(hh t (Nat.le_refl _) (by omega)).2,zBJ fun j h1 h2=>hh j (by omega) (by omega)]
theorem Mon.past_pw (M:Mon S m e) {g u v:α} (hg:S g) (hu:S u) (hv:S v) (h:m u g=m g v):∀k,m (Grp.pw m e u k) g=m g (Grp.pw m e v k)
 | 0=>by rw [Grp.pw,Grp.pw,M.l1 hg,M.r1 hg]
 | k+1=>by
  show m (m (Grp.pw m e u k) u) g=m g (m (Grp.pw m e v k) v);rw [M.as (M.pw hu k) hu hg,h,←M.as (M.pw hu k) hg hv,M.past_pw hg hu hv h k,M.as hg (M.pw hv k) hv]
theorem Mon.past_ph (M:Mon S m e) {g:α} (hg:S g) {h h':Nat→α} {x:Nat→Nat}:∀{d t:Nat},(∀j,t≤j→j<t+d→S (h j)∧S (h' j)∧m (h j) g=m g (h' j))→m (Grp.ph m e h x t d) g=m g (Grp.ph m e h' x t d)
 | 0,t,_=>by rw [Grp.ph,Grp.ph,M.l1 hg,M.r1 hg]
 | d+1,t,hh=>by
  obtain⟨h1,h2,h3⟩:=hh t (Nat.le_refl _) (by omega)
  have i1:=M.ph (x:=x) (fun j a b=>(hh j (show t≤j by omega) (by omega)).1) (d:=d) (t:=t+1)
  have i2:=M.ph (x:=x) (fun j a b=>(hh j (show t≤j by omega) (by omega)).2.1) (d:=d) (t:=t+1)
  show m (m _ _) g=m g (m _ _);rw [M.as (M.pw h1 _) i1 hg,M.past_ph hg fun j a b=>hh j (by omega) (by omega),←M.as (M.pw h1 _) hg i2,M.past_pw hg h1 h2 h3,M.as hg (M.pw h2 _) i2]
end
variable {O:List Int} {P:List (List Int)} {C:List (List (List Int))}
structure TT (O:List Int) (t:Nat) (x:List Int):Prop where
 len:x.length=O.length
 bd:∀j,j<O.length→0≤at_ x j∧at_ x j<at_ O j
 zero:∀j,j<t→at_ x j=0
abbrev nx (x:List Int) (j:Nat):Nat:=(at_ x j).toNat
abbrev cvec (C:List (List (List Int))) (i j:Nat):List Int:=(C.getD i []).getD (j-i-1) []
abbrev pvec (P:List (List Int)) (i:Nat):List Int:=P.getD i []
abbrev zv (O:List Int):List Int:=List.replicate O.length 0
structure Shp (O:List Int) (P:List (List Int)) (C:List (List (List Int))):Prop where
 le:O.length≤6
 pr:∀j,j<O.length→2≤at_ O j∧at_ O j≤7
 pl:P.length=O.length
 cl:C.length=O.length
 pw:∀i,i<O.length→TT O (i+1) (pvec P i)
 row:∀i,i<O.length→(C.getD i []).length=O.length-1-i
 cj:∀i j,i<j→j<O.length→TT O (i+1) (cvec C i j)
def img (O:List Int) (C:List (List (List Int))) (m:List Int→List Int→List Int) (i:Nat) (x:List Int):List Int:=fo m (cvec C i) (nx x) (i+1) (O.length-1-i) (zv O)
def iter {α:Type} (f:α→α):Nat→α→α
 | 0,a=>a
 | k+1,a=>iter f k (f a)
theorem zAg {α:Type} (f:α→α):∀(k:Nat) (a:α),iter f (k+1) a=f (iter f k a)
 | 0,a=>rfl
 | k+1,a=>zAg f k (f a)
theorem zCz {α:Type} (f:α→α) (a b:Nat) (x:α):iter f (a+b) x=iter f b (iter f a x):=by
 induction a generalizing x with
 | zero=>rw [Nat.zero_add];rfl
 | succ a ih=>rw [show a+1+b=(a+b)+1 by omega];exact ih (f x)
def mu (O:List Int) (P:List (List Int)) (C:List (List (List Int))):Nat→List Int→List Int→List Int
 | 0,_,_=>zv O
 | d+1,a,b=>
  let i:=O.length-(d+1)
  let r:=mu O P C d (iter (img O C (mu O P C d) i) (nx b i) (a.set i 0)) (b.set i 0)
  if at_ a i+at_ b i ≥ at_ O i then(mu O P C d (pvec P i) r).set i (at_ a i+at_ b i-at_ O i)else r.set i (at_ a i+at_ b i)
theorem TT.zv (t:Nat) (h:∀j,j<O.length→0<at_ O j):TT O t (zv O):=⟨by simp,fun j hj=>by rw [ZI];exact⟨by omega,h j hj⟩,fun j _=>ZI _ j⟩
theorem TT.mono {t t':Nat} {x:List Int} (h:TT O t x) (ht:t'≤t):TT O t' x:=⟨h.len,h.bd,fun j hj=>h.zero j (by omega)⟩
theorem TT.set {t i:Nat} {x:List Int} (h:TT O t x) (hi:i<O.length) (hti:t≤i) {c:Int} (hc:0≤c∧c<at_ O i):TT O t (x.set i c):=by
 have hl:i<x.length:=by rw [h.len];exact hi
 refine⟨by rw [List.length_set,h.len],fun j hj=>?_,fun j hj=>?_⟩
 ·rw [at_set hl];split
  ·rename_i e;subst e;exact hc
  ·exact h.bd j hj
 ·rw [at_set hl,if_neg (by omega)];exact h.zero j hj
theorem TT.set0 {i:Nat} {x:List Int} (h:TT O i x) (hi:i<O.length) (hO:0<at_ O i):TT O (i+1) (x.set i 0):=by
 have hl:i<x.length:=by rw [h.len];exact hi
 have h1:=h.set hi (Nat.le_refl _) (c:=0) ⟨by omega,hO⟩
 refine⟨h1.len,h1.bd,fun j hj=>?_⟩
 rw [at_set hl];split
 ·rfl
 ·exact h.zero j (by omega)
theorem TT.ext {t:Nat} {x y:List Int} (h:TT O t x) (g:TT O t y) (he:∀j,t≤j→j<O.length→at_ x j=at_ y j):x=y:=by
 refine zB4 (by rw [h.len,g.len]) fun j hj=>?_
 rcases Nat.lt_or_ge j t with e|e
 ·rw [h.zero j e,g.zero j e]
 ·exact he j e (by rw [←h.len];exact hj)
theorem Shp.pos (s:Shp O P C) {j:Nat} (hj:j<O.length):0<at_ O j:=by have:=(s.pr j hj).1;omega
theorem Shp.zv (s:Shp O P C) (t:Nat):TT O t (zv O):=TT.zv t fun j hj=>s.pos hj
theorem zIi {α:Type} {S:α→Prop} {m:α→α→α} {x:α} (h:∀a,S a→S (m a x)):∀(k:Nat) {a:α},S a→S (rep m x k a)
 | 0,a,ha=>ha
 | k+1,a,ha=>zIi h k (h a ha)
theorem fo_in {α:Type} {S:α→Prop} {m:α→α→α} {h:Nat→α} {x:Nat→Nat}:∀{d t:Nat} {a:α},(∀j,t≤j→j<t+d→∀a,S a→S (m a (h j)))→S a→S (fo m h x t d a)
 | 0,t,a,_,ha=>ha
 | d+1,t,a,hh,ha=>by
  show S (fo m h x (t+1) d (rep m (h t) (x t) a));exact fo_in (fun j h1 h2=>hh j (by omega) (by omega)) (zIi (hh t (Nat.le_refl _) (by omega)) (x t) ha)
theorem zA7 {α:Type} {S:α→Prop} {f:α→α} (h:∀a,S a→S (f a)):∀(k:Nat) {a:α},S a→S (iter f k a)
 | 0,a,ha=>ha
 | k+1,a,ha=>zA7 h k (h a ha)
theorem QL (s:Shp O P C) {m:List Int→List Int→List Int} {i:Nat} (hm:∀a b,TT O (i+1) a→TT O (i+1) b→TT O (i+1) (m a b)) (x:List Int):TT O (i+1) (img O C m i x):=
 fo_in (fun j h1 h2 a ha=>hm a _ ha (s.cj i j (by omega) (by omega))) (s.zv _)
theorem mu_tt (s:Shp O P C):∀{d:Nat} {a b:List Int},d≤O.length→TT O (O.length-d) a→TT O (O.length-d) b→TT O (O.length-d) (mu O P C d a b)
 | 0,a,b,_,ha,hb=>s.zv _
 | d+1,a,b,hd,ha,hb=>by
  have hi:O.length-(d+1)<O.length:=by omega
  have e:O.length-d=O.length-(d+1)+1:=by omega
  have hm:∀a b,TT O (O.length-(d+1)+1) a→TT O (O.length-(d+1)+1) b→TT O (O.length-(d+1)+1) (mu O P C d a b):=by
   rw [←e];exact fun a b h1 h2=>mu_tt s (by omega) h1 h2
  have hpos:=s.pos hi;have ba:=ha.bd _ hi;have bb:=hb.bd _ hi;have ir:=hm _ _ (zA7 (fun x _=>QL s hm x) (nx b (O.length-(d+1))) (ha.set0 hi hpos)) (hb.set0 hi hpos)
  simp only [mu]
  split
  ·exact((hm _ _ (s.pw _ hi) ir).mono (Nat.le_succ _)).set hi (Nat.le_refl _) ⟨by omega,by omega⟩
  ·exact(ir.mono (Nat.le_succ _)).set hi (Nat.le_refl _) ⟨by omega,by omega⟩
end Go.Grp
namespace Go.Grp
open Go.Ab Go.Lie
variable {O:List Int} {P:List (List Int)} {C:List (List (List Int))} {α:Type} {S:α→Prop} {m:α→α→α} {e:α} {h:Nat→α} {t0:Nat}
abbrev Ph (O:List Int) (m:α→α→α) (e:α) (h:Nat→α) (d:Nat) (x:List Int):α:=ph m e h (nx x) (O.length-d) d
structure Rel (O:List Int) (P:List (List Int)) (C:List (List (List Int))) (S:α→Prop) (m:α→α→α) (e:α) (h:Nat→α) (t0:Nat):Prop where
 mem:∀j,t0≤j→j<O.length→S (h j)
 pow:∀j,t0≤j→j<O.length→pw m e (h j) (nx O j)=Ph O m e h (O.length-(j+1)) (pvec P j)
 cj:∀j k,t0≤j→j<k→k<O.length→m (h k) (h j)=m (h j) (Ph O m e h (O.length-(j+1)) (cvec C j k))
theorem Ph_in (M:Mon S m e) (r:Rel O P C S m e h t0) {d:Nat} (hd:d≤O.length-t0) (x:List Int):S (Ph O m e h d x):=M.ph fun j h1 h2=>r.mem j (by omega) (by omega)
theorem zD2 {d i:Nat} (hi:i<O.length-d) {x:List Int} (hx:x.length=O.length) (c:Int):Ph O m e h d (x.set i c)=Ph O m e h d x:=
 zBJ fun j h1 h2=>⟨rfl,by show(at_ _ j).toNat=(at_ x j).toNat;rw [at_set (by omega),if_neg (by omega)]⟩
theorem zHR {d:Nat} (hd:d<O.length) (x:List Int):Ph O m e h (d+1) x=m (pw m e (h (O.length-(d+1))) (nx x (O.length-(d+1)))) (Ph O m e h d x):=by
 show ph m e h (nx x) _ (d+1)=_;rw [ph,show O.length-(d+1)+1=O.length-d by omega]
theorem Ph_zv (M:Mon S m e):∀d:Nat,Ph O m e h d (zv O)=e:=by
 intro d
 have:∀(d t:Nat),ph m e h (nx (zv O)) t d=e:=by
  intro d
  induction d with
  | zero=>intro t;rfl
  | succ d ih=>
   intro t;have h0:nx (zv O) t=0:=by show(at_ (zv O) t).toNat=0;rw [ZI];rfl
   rw [ph,ih,h0];exact M.l1 M.one
 exact this d _
theorem Ph_fo (M:Mon S m e) {T:List Int→Prop} {mm:List Int→List Int→List Int} {F:List Int→α} (hF:∀a b,T a→T b→T (mm a b)∧F (mm a b)=m (F a) (F b)) {c:Nat→List Int} {x:Nat→Nat}:
  ∀{d t:Nat} {a:List Int},(∀j,t≤j→j<t+d→T (c j))→T a→T (fo mm c x t d a)∧F (fo mm c x t d a)=fo m (fun j=>F (c j)) x t d (F a)
 | 0,t,a,_,ha=>⟨ha,rfl⟩
 | d+1,t,a,hc,ha=>by
  have hr:∀(k:Nat) {a:List Int},T a→T (rep mm (c t) k a)∧F (rep mm (c t) k a)=rep m (F (c t)) k (F a):=by
   intro k
   induction k with
   | zero=>exact fun ha=>⟨ha,rfl⟩
   | succ k ih=>
    intro a ha;obtain⟨h1,h2⟩:=hF a (c t) ha (hc t (Nat.le_refl _) (by omega))
    obtain⟨h3,h4⟩:=ih h1;exact⟨h3,by show F (rep mm (c t) k (mm a (c t)))=rep m (F (c t)) k (m (F a) (F (c t)));rw [h4,h2]⟩
  obtain⟨h1,h2⟩:=hr (x t) ha;obtain⟨h3,h4⟩:=Ph_fo M hF (c:=c) (x:=x) (d:=d) (t:=t+1) (fun j h1 h2=>hc j (by omega) (by omega)) h1
  refine⟨h3,?_⟩;show F (fo mm c x (t+1) d _)=fo m _ x (t+1) d (rep m (F (c t)) (x t) (F a));rw [h4,h2]
theorem dyck (s:Shp O P C) (M:Mon S m e) (r:Rel O P C S m e h t0):∀{d:Nat},d≤O.length-t0→∀{a b:List Int},TT O (O.length-d) a→TT O (O.length-d) b→Ph O m e h d (mu O P C d a b)=m (Ph O m e h d a) (Ph O m e h d b)
 | 0,_,a,b,_,_=>(M.l1 M.one).symm
 | d+1,hd,a,b,ha,hb=>by
  have hi:O.length-(d+1)<O.length:=by omega
  have hit:t0≤O.length-(d+1):=by omega
  have e1:O.length-d=O.length-(d+1)+1:=by omega
  have e2:O.length-1-(O.length-(d+1))=d:=by omega
  have e3:O.length-(O.length-(d+1)+1)=d:=by omega
  have hpos:=s.pos hi;have ba:=ha.bd _ hi;have bb:=hb.bd _ hi;have hS:=r.mem _ hit hi;have ih:∀{a b:List Int},TT O (O.length-d) a→TT O (O.length-d) b→Ph O m e h d (mu O P C d a b)=m (Ph O m e h d a) (Ph O m e h d b):=fun h1 h2=>dyck s M r (by omega) h1 h2
  have cl:∀{a b:List Int},TT O (O.length-d) a→TT O (O.length-d) b→TT O (O.length-d) (mu O P C d a b):=fun h1 h2=>mu_tt s (by omega) h1 h2
  have pin:∀x,S (Ph O m e h d x):=fun x=>Ph_in M r (by omega) x
  generalize hie:O.length-(d+1)=i at *
  have him:∀{x:List Int},TT O (O.length-d) x→TT O (O.length-d) (img O C (mu O P C d) i x)∧m (Ph O m e h d x) (h i)=m (h i) (Ph O m e h d (img O C (mu O P C d) i x)):=by
   intro x hx;have hc:∀j,i+1≤j→j<i+1+d→TT O (O.length-d) (cvec C i j):=fun j h1 h2=>by rw [e1];exact s.cj i j (by omega) (by omega)
   have hzz:TT O (O.length-d) (zv O):=s.zv _;obtain⟨f1,f2⟩:=Ph_fo M (T:=TT O (O.length-d)) (mm:=mu O P C d) (F:=Ph O m e h d) (fun a b h1 h2=>⟨cl h1 h2,ih h1 h2⟩) (c:=cvec C i) (x:=nx x) hc hzz
   have eim:img O C (mu O P C d) i x=fo (mu O P C d) (cvec C i) (nx x) (i+1) d (zv O):=by rw [img,e2]
   rw [eim];refine⟨f1,?_⟩;rw [f2,Ph_zv M,M.fo_eq (fun j _ _=>pin _) M.one,M.l1 (M.ph fun j _ _=>pin _)]
   show m (ph m e h (nx x) (O.length-d) d) (h i)=_;rw [e1];refine M.past_ph hS fun j h1 h2=>⟨r.mem j (by omega) (by omega),pin _,?_⟩
   have:=r.cj i j hit (by omega) (by omega)
   rw [e3]at this
   exact this
  have hit':∀(k:Nat) {x:List Int},TT O (O.length-d) x→TT O (O.length-d) (iter (img O C (mu O P C d) i) k x)∧m (Ph O m e h d x) (pw m e (h i) k)=m (pw m e (h i) k) (Ph O m e h d (iter (img O C (mu O P C d) i) k x)):=by
   intro k
   induction k with
   | zero=>exact fun {x} hx=>⟨hx,by show m _ e=m e _;rw [M.r1 (pin x)];exact(M.l1 (pin x)).symm⟩
   | succ k ik=>
    intro x hx;obtain⟨g1,g2⟩:=him hx;obtain⟨g3,g4⟩:=ik g1;refine⟨g3,?_⟩;show m _ (m (pw m e (h i) k) (h i))=m (m (pw m e (h i) k) (h i)) (Ph O m e h d (iter _ k (img O C (mu O P C d) i x)));rw [M.pw_comm hS,←M.as (pin _) hS (M.pw hS k),g2,M.as hS (pin _) (M.pw hS k),g4,←M.as hS (M.pw hS k) (pin _)]
  have ha0:TT O (O.length-d) (a.set i 0):=by rw [e1];exact ha.set0 hi hpos
  have hb0:TT O (O.length-d) (b.set i 0):=by rw [e1];exact hb.set0 hi hpos
  obtain⟨k1,k2⟩:=hit' (nx b i) ha0;have il:i<O.length-d:=by omega
  rw [zD2 il ha.len]at k2
  have er:=ih k1 hb0;rw [zD2 il hb.len]at er
  have ct:=cl k1 hb0;have psucc:∀x,Ph O m e h (d+1) x=m (pw m e (h i) (nx x i)) (Ph O m e h d x):=fun x=>by rw [zHR (by omega),hie]
  rw [psucc a,psucc b,psucc];generalize hL:iter (img O C (mu O P C d) i) (nx b i) (a.set i 0)=L at *
  have emu:mu O P C (d+1) a b=if at_ a i+at_ b i ≥ at_ O i then(mu O P C d (pvec P i) (mu O P C d L (b.set i 0))).set i (at_ a i+at_ b i-at_ O i)else(mu O P C d L (b.set i 0)).set i (at_ a i+at_ b i):=by
   simp only [mu,hie,hL]
  have rhs:m (m (pw m e (h i) (nx a i)) (Ph O m e h d a)) (m (pw m e (h i) (nx b i)) (Ph O m e h d b))=m (pw m e (h i) (nx a i+nx b i)) (Ph O m e h d (mu O P C d L (b.set i 0))):=by
   rw [er,M.pw_add hS,M.as (M.pw hS _) (pin _) (M.cl (M.pw hS _) (pin _)),←M.as (pin _) (M.pw hS _) (pin _),k2,M.as (M.pw hS _) (pin _) (pin _),←M.as (M.pw hS _) (M.pw hS _) (M.cl (pin _) (pin _))]
  rw [rhs,emu];have hn:(at_ a i+at_ b i).toNat=nx a i+nx b i:=by show _=(at_ a i).toNat+(at_ b i).toNat;omega
  have hat:∀{x:List Int} (c:Int),TT O (O.length-d) x→nx (x.set i c) i=c.toNat:=fun {x} c hx=>by show(at_ _ i).toNat=_;rw [at_set (by rw [hx.len];exact hi),if_pos rfl]
  split
  ·rename_i hge
   have hp:TT O (O.length-d) (pvec P i):=by rw [e1];exact s.pw i hi
   have cp:=cl hp ct;rw [hat _ cp,zD2 il cp.len,ih hp ct];have rp:=r.pow i hit hi;rw [e3]at rp
   rw [←rp,←M.as (M.pw hS _) (M.pw hS _) (pin _),←M.pw_add hS]
   congr 2
   show(at_ a i+at_ b i-at_ O i).toNat+(at_ O i).toNat=(at_ a i).toNat+(at_ b i).toNat
   omega
  ·rw [hat _ ct,zD2 il ct.len,hn]
end Go.Grp
namespace Go.Grp
open Go.Ab Go.Lie
variable {O:List Int} {P:List (List Int)} {C:List (List (List Int))} {α:Type} {S:α→Prop} {m:α→α→α} {e:α} {h:Nat→α}
structure Gp {α:Type} (S:α→Prop) (m:α→α→α) (e:α):Prop extends Mon S m e where
 inv:∀{a},S a→∃b,S b∧m a b=e∧m b a=e
theorem Gp.cancel (G:Gp S m e) {a b c:α} (ha:S a) (hb:S b) (hc:S c) (h:m a b=m a c):b=c:=by
 obtain⟨i,hi,_,h1⟩:=G.inv ha
 have:=congrArg (m i) h
 rwa [←G.as hi ha hb,←G.as hi ha hc,h1,G.l1 hb,G.l1 hc]at this
theorem Gp.cancelR (G:Gp S m e) {a b c:α} (ha:S a) (hb:S b) (hc:S c) (h:m b a=m c a):b=c:=by
 obtain⟨i,hi,h1,_⟩:=G.inv ha
 have:m (m b a) i=m (m c a) i:=by rw [h]
 rwa [G.as hb ha hi,G.as hc ha hi,h1,G.r1 hb,G.r1 hc]at this
theorem Gp.of_right (M:Mon S m e) (hr:∀{a},S a→∃b,S b∧m a b=e):Gp S m e:=by
 refine⟨M,fun {a} ha=>?_⟩
 obtain⟨b,hb,h1⟩:=hr ha;obtain⟨c,hc,h2⟩:=hr hb;refine⟨b,hb,h1,?_⟩
 have:a=c:=by rw [←M.r1 ha,←h2,←M.as ha hb hc,h1,M.l1 hc]
 rw [this];exact h2
theorem Mon.pw_ind (M:Mon S m e) {Q:α→Prop} (h1:Q e) (hm:∀a b,S a→S b→Q a→Q b→Q (m a b)) {x:α} (hx:S x) (hq:Q x):∀k,Q (Grp.pw m e x k)
 | 0=>h1
 | k+1=>hm _ _ (M.pw hx k) hx (M.pw_ind h1 hm hx hq k) hq
theorem Mon.ph_ind (M:Mon S m e) {Q:α→Prop} (h1:Q e) (hm:∀a b,S a→S b→Q a→Q b→Q (m a b)) {h:Nat→α} {x:Nat→Nat}:∀{d t:Nat},(∀j,t≤j→j<t+d→S (h j)∧Q (h j))→Q (Grp.ph m e h x t d)
 | 0,t,_=>h1
 | d+1,t,hh=>by
  obtain⟨g1,g2⟩:=hh t (Nat.le_refl _) (by omega)
  exact hm _ _ (M.pw g1 _) (M.ph fun j a b=>(hh j (by omega) (by omega)).1) (M.pw_ind h1 hm g1 g2 _) (M.ph_ind h1 hm fun j a b=>hh j (by omega) (by omega))
theorem Mon.ph_skip (M:Mon S m e) {h:Nat→α} {x:Nat→Nat} {d:Nat}:∀{k t:Nat},(∀j,t≤j→j<t+k→x j=0)→(∀j,t+k≤j→j<t+k+d→S (h j))→Grp.ph m e h x t (k+d)=Grp.ph m e h x (t+k) d
 | 0,t,_,_=>by rw [Nat.zero_add,Nat.add_zero]
 | k+1,t,h0,hs=>by
  have:=M.ph_skip (h:=h) (x:=x) (d:=d) (k:=k) (t:=t+1) (fun j a b=>h0 j (by omega) (by omega)) (fun j a b=>hs j (by omega) (by omega))
  rw [show k+1+d=(k+d)+1 by omega,Grp.ph,h0 t (Nat.le_refl _) (by omega),this,show t+1+k=t+(k+1) by omega]
  exact M.l1 (M.ph fun j a b=>hs j (by omega) (by omega))
abbrev unit (O:List Int) (j:Nat):List Int:=(zv O).set j 1
theorem Shp.unit (s:Shp O P C) {t j:Nat} (hj:j<O.length) (ht:t≤j):TT O t (unit O j):=(s.zv t).set hj ht ⟨by omega,by have:=(s.pr j hj).1;omega⟩
structure Lv (O:List Int) (P:List (List Int)) (C:List (List (List Int))) (i:Nat):Prop where
 pow:∀j,i<j→j<O.length→pw (mu O P C (O.length-1-i)) (zv O) (cvec C i j) (nx O j)=img O C (mu O P C (O.length-1-i)) i (pvec P j)
 cj:∀j k,i<j→j<k→k<O.length→mu O P C (O.length-1-i) (cvec C i k) (cvec C i j)=mu O P C (O.length-1-i) (cvec C i j) (img O C (mu O P C (O.length-1-i)) i (cvec C j k))
 fix:img O C (mu O P C (O.length-1-i)) i (pvec P i)=pvec P i
 inn:∀j,i<j→j<O.length→mu O P C (O.length-1-i) (pvec P i) (iter (img O C (mu O P C (O.length-1-i)) i) (nx O i) (unit O j))=mu O P C (O.length-1-i) (unit O j) (pvec P i)
structure Beh (O:List Int) (P:List (List Int)) (C:List (List (List Int))) (d:Nat):Prop where
 le:d≤O.length
 gp:Gp (TT O (O.length-d)) (mu O P C d) (zv O)
 nf:∀{x},TT O (O.length-d) x→Ph O (mu O P C d) (zv O) (unit O) d x=x
theorem zg {x:List Int} {i:Nat} (h:at_ x i=0) (hi:i<x.length):x.set i 0=x:=by
 refine zB4 (by simp) fun j hj=>?_
 rw [at_set hi];split
 ·rename_i e;subst e;exact h.symm
 ·rfl
theorem Zg (x:List Int) (i:Nat) (a b:Int):(x.set i a).set i b=x.set i b:=List.set_set ..
theorem zBm {x:List Int} {i:Nat} (hi:i<x.length):(x.set i 0).set i (at_ x i)=x:=by
 rw [Zg];refine zB4 (by simp) fun j hj=>?_
 rw [at_set hi];split
 ·rename_i e;subst e;rfl
 ·rfl
section
variable {d i:Nat}
abbrev al (O:List Int) (P:List (List Int)) (C:List (List (List Int))) (d i:Nat):List Int→List Int:=img O C (mu O P C d) i
theorem al_ph (s:Shp O P C) (B:Beh O P C d) (hi:O.length-d=i+1) (x:List Int):al O P C d i x=Ph O (mu O P C d) (zv O) (cvec C i) d x:=by
 have hle:=B.le;have hs:∀j,i+1≤j→j<i+1+d→TT O (O.length-d) (cvec C i j):=fun j h1 h2=>by rw [hi];exact s.cj i j (by omega) (by omega)
 have e:O.length-1-i=d:=by omega
 show fo _ _ _ _ _ _=ph _ _ _ _ _ _;rw [e,B.gp.fo_eq hs B.gp.one,B.gp.l1 (B.gp.ph hs),hi]
theorem al_zv (s:Shp O P C) (B:Beh O P C d) (hi:O.length-d=i+1):al O P C d i (zv O)=zv O:=by rw [al_ph s B hi,Ph_zv B.gp.toMon]
theorem zMa (s:Shp O P C) (B:Beh O P C d) (hi:O.length-d=i+1) (L:Lv O P C i):Rel O P C (TT O (O.length-d)) (mu O P C d) (zv O) (cvec C i) (i+1):=by
 have hle:=B.le;have e:O.length-1-i=d:=by omega
 have hs:∀j,i+1≤j→j<O.length→TT O (O.length-d) (cvec C i j):=fun j h1 h2=>by rw [hi];exact s.cj i j (by omega) h2
 have sk:∀{j:Nat} {x:List Int},i<j→j<O.length→TT O (j+1) x→al O P C d i x=Ph O (mu O P C d) (zv O) (cvec C i) (O.length-(j+1)) x:=fun {j x} h1 h2 hx=>by
  rw [al_ph s B hi];show ph _ _ _ _ _ _=ph _ _ _ _ _ _
  have:=B.gp.toMon.ph_skip (h:=cvec C i) (x:=nx x) (d:=O.length-(j+1)) (k:=j-i) (t:=i+1) (fun t a b=>by show(at_ x t).toNat=0;rw [hx.zero t (by omega)];rfl) (fun t a b=>hs t (by omega) (by omega))
  rw [show j-i+(O.length-(j+1))=d by omega,show i+1+(j-i)=O.length-(O.length-(j+1)) by omega]at this
  rw [hi];exact this
 refine⟨hs,fun j h1 h2=>?_,fun j k h1 h2 h3=>?_⟩
 ·have:=L.pow j (by omega) h2
  rw [e]at this
  rw [this];exact sk (by omega) h2 (s.pw j h2)
 ·have:=L.cj j k (by omega) h2 h3
  rw [e]at this
  rw [this];congr 1;exact sk (by omega) (by omega) (s.cj j k h2 h3)
theorem al_in (s:Shp O P C) (B:Beh O P C d) (hi:O.length-d=i+1) (x:List Int):TT O (O.length-d) (al O P C d i x):=by
 rw [hi];exact QL s (by rw [←hi];exact fun a b h1 h2=>B.gp.cl h1 h2) x
theorem zMj (s:Shp O P C) (B:Beh O P C d) (hi:O.length-d=i+1) (L:Lv O P C i) {a b:List Int} (ha:TT O (O.length-d) a) (hb:TT O (O.length-d) b):al O P C d i (mu O P C d a b)=mu O P C d (al O P C d i a) (al O P C d i b):=by
 rw [al_ph s B hi,al_ph s B hi,al_ph s B hi];exact dyck s B.gp.toMon (zMa s B hi L) (by have:=B.le;omega) ha hb
theorem it_in (s:Shp O P C) (B:Beh O P C d) (hi:O.length-d=i+1) (k:Nat) {x:List Int} (hx:TT O (O.length-d) x):TT O (O.length-d) (iter (al O P C d i) k x):=zA7 (fun a _=>al_in s B hi a) k hx
theorem zFm (s:Shp O P C) (B:Beh O P C d) (hi:O.length-d=i+1) (L:Lv O P C i):∀(k:Nat) {a b:List Int},TT O (O.length-d) a→TT O (O.length-d) b→iter (al O P C d i) k (mu O P C d a b)=mu O P C d (iter (al O P C d i) k a) (iter (al O P C d i) k b)
 | 0,a,b,ha,hb=>rfl
 | k+1,a,b,ha,hb=>by
  show iter _ k (al O P C d i _)=_;rw [zMj s B hi L ha hb,zFm s B hi L k (al_in s B hi a) (al_in s B hi b)]
  rfl
theorem zDh {f:List Int→List Int} {w:List Int} (h:f w=w):∀k,iter f k w=w
 | 0=>rfl
 | k+1=>by show iter f k (f w)=w;rw [h];exact zDh h k
theorem zLy (s:Shp O P C) (B:Beh O P C d) (hi:O.length-d=i+1) (L:Lv O P C i) {x:List Int} (hx:TT O (O.length-d) x):mu O P C d (pvec P i) (iter (al O P C d i) (nx O i) x)=mu O P C d x (pvec P i):=by
 have hle:=B.le;have hil:i<O.length:=by omega
 have e:O.length-1-i=d:=by omega
 have hw:TT O (O.length-d) (pvec P i):=by rw [hi];exact s.pw i hil
 have M:=B.gp.toMon
 have:=M.ph_ind (Q:=fun x=>mu O P C d (pvec P i) (iter (al O P C d i) (nx O i) x)=mu O P C d x (pvec P i)) ?_ ?_ (h:=unit O) (x:=nx x) (d:=d) (t:=O.length-d) fun j h1 h2=>⟨s.unit (by omega) h1,?_⟩
 ·have nf:=B.nf hx
  rw [show Ph O (mu O P C d) (zv O) (unit O) d x=ph (mu O P C d) (zv O) (unit O) (nx x) (O.length-d) d from rfl]at nf
  rw [nf]at this
  exact this
 ·rw [zDh (al_zv s B hi),M.r1 hw,M.l1 hw]
 ·intro a b ha hb h1 h2
  rw [zFm s B hi L _ ha hb,←M.as hw (it_in s B hi _ ha) (it_in s B hi _ hb),h1,M.as ha hw (it_in s B hi _ hb),h2,←M.as ha hb hw]
 ·have:=L.inn j (by omega) (by omega)
  rw [e]at this
  exact this
theorem zCN (s:Shp O P C) (B:Beh O P C d) (hi:O.length-d=i+1) {a b:Int} {x y:List Int} (hx:TT O (O.length-d) x) (hy:TT O (O.length-d) y):
  mu O P C (d+1) (x.set i a) (y.set i b)=if a+b ≥ at_ O i then(mu O P C d (pvec P i) (mu O P C d (iter (al O P C d i) b.toNat x) y)).set i (a+b-at_ O i)else(mu O P C d (iter (al O P C d i) b.toNat x) y).set i (a+b):=by
 have hle:=B.le;have hil:i<O.length:=by omega
 have h0:O.length-(d+1)=i:=by omega
 have xl:i<x.length:=by rw [hx.len];exact hil
 have yl:i<y.length:=by rw [hy.len];exact hil
 have zx:at_ x i=0:=hx.zero i (by omega)
 have zy:at_ y i=0:=hy.zero i (by omega)
 simp only [mu,h0];rw [Zg,Zg,zg zx xl,zg zy yl];have e1:at_ (x.set i a) i=a:=by rw [at_set xl,if_pos rfl]
 have e2:at_ (y.set i b) i=b:=by rw [at_set yl,if_pos rfl]
 show(if at_ (x.set i a) i+at_ (y.set i b) i ≥ _ then _ else _)=_
 have e3:nx (y.set i b) i=b.toNat:=by show(at_ _ i).toNat=_;rw [e2]
 rw [e1,e2,e3]
theorem pair (h:i<O.length) {t:Nat} {x:List Int} (hx:TT O i x) (hpos:0<at_ O i):∃y a,TT O (i+1) y∧x=y.set i a∧0≤a∧a<at_ O i:=
 ⟨x.set i 0,at_ x i,hx.set0 h hpos,(zBm (by rw [hx.len];exact h)).symm,(hx.bd i h).1,(hx.bd i h).2⟩
theorem zF7 (s:Shp O P C) (B:Beh O P C d) (hi:O.length-d=i+1) (L:Lv O P C i):Beh O P C (d+1):=by
 have hle:=B.le;have hil:i<O.length:=by omega
 have h0:O.length-(d+1)=i:=by omega
 have e:O.length-1-i=d:=by omega
 have hpos:=s.pos hil;have hw:TT O (O.length-d) (pvec P i):=by rw [hi];exact s.pw i hil
 have M:=B.gp.toMon;have mp:=fun {a b:Int} {x y:List Int} (hx:TT O (O.length-d) x) (hy:TT O (O.length-d) y)=>zCN s B hi (a:=a) (b:=b) hx hy
 have ii:=fun(k:Nat) {x:List Int} (hx:TT O (O.length-d) x)=>it_in s B hi k hx
 have im:=fun(k:Nat) {x y:List Int} (hx:TT O (O.length-d) x) (hy:TT O (O.length-d) y)=>zFm s B hi L k hx hy
 have iw:∀k,iter (al O P C d i) k (pvec P i)=pvec P i:=fun k=>zDh (by have:=L.fix;rw [e]at this;exact this) k
 have iz:∀k,iter (al O P C d i) k (zv O)=zv O:=fun k=>zDh (al_zv s B hi) k
 have pr:∀{x:List Int},TT O i x→∃y a,TT O (O.length-d) y∧x=y.set i a∧0≤a∧a<at_ O i:=fun hx=>by rw [hi];exact pair hil (t:=0) hx hpos
 have zs:zv O=(zv O).set i 0:=(zg (ZI _ i) (by simp;exact hil)).symm
 have hz:TT O (O.length-d) (zv O):=s.zv _;have l1:∀{a:List Int},TT O i a→mu O P C (d+1) (zv O) a=a:=fun {a} ha=>by
  obtain⟨x,a,hx,rfl,b1,b2⟩:=pr ha;rw [zs,mp hz hx,if_neg (by omega),iz,M.l1 hx,Int.zero_add]
 have r1:∀{a:List Int},TT O i a→mu O P C (d+1) a (zv O)=a:=fun {a} ha=>by
  obtain⟨x,a,hx,rfl,b1,b2⟩:=pr ha
  conv=>lhs;rw [zs]
  rw [mp hx hz,if_neg (by omega),Int.add_zero]
  show(mu O P C d x (zv O)).set i a=_
  rw [M.r1 hx]
 have cl:∀{a b:List Int},TT O i a→TT O i b→TT O i (mu O P C (d+1) a b):=fun {a b} ha hb=>by
  have:=mu_tt s (d:=d+1) (by omega) (by rw [h0];exact ha) (by rw [h0];exact hb)
  rwa [h0]at this
 have assc:∀{a b c:List Int},TT O i a→TT O i b→TT O i c→mu O P C (d+1) (mu O P C (d+1) a b) c=mu O P C (d+1) a (mu O P C (d+1) b c):=fun {a b c} ha hb hc=>by
  obtain⟨x,a,hx,rfl,a1,a2⟩:=pr ha;obtain⟨y,b,hy,rfl,b1,b2⟩:=pr hb;obtain⟨z,c,hz',rfl,c1,c2⟩:=pr hc;have A:=ii b.toNat hx;have Bc:=ii c.toNat hy;have AB:=M.cl A hy;have BZ:=M.cl Bc hz';have past:=fun {u:List Int} (hu:TT O (O.length-d) u)=>zLy s B hi L hu
  have ic:iter (al O P C d i) c.toNat (iter (al O P C d i) b.toNat x)=iter (al O P C d i) (b.toNat+c.toNat) x:=(zCz _ _ _ _).symm;have X:=ii (b.toNat+c.toNat) hx;rw [mp hx hy,mp hy hz']
  by_cases h1:a+b ≥ at_ O i
  ·rw [if_pos h1,mp (M.cl hw AB) hz',im _ hw AB,iw,im _ A hy,ic]
   by_cases h2:b+c ≥ at_ O i
   ·rw [if_pos h2,mp hx (M.cl hw BZ)]
    have hk:(b+c-at_ O i).toNat+nx O i=b.toNat+c.toNat:=by show _+(at_ O i).toNat=_;omega
    have hX:=past (ii (b+c-at_ O i).toNat hx);rw [←zCz,hk]at hX
    have e5:mu O P C d (iter (al O P C d i) (b+c-at_ O i).toNat x) (mu O P C d (pvec P i) (mu O P C d (iter (al O P C d i) c.toNat y) z))=mu O P C d (mu O P C d (pvec P i) (mu O P C d (iter (al O P C d i) (b.toNat+c.toNat) x) (iter (al O P C d i) c.toNat y))) z:=by
     rw [←M.as (ii _ hx) hw BZ,←hX,M.as hw X BZ,←M.as X Bc hz',←M.as hw (M.cl X Bc) hz']
    rw [e5]
    by_cases h3:a+b-at_ O i+c ≥ at_ O i
    ·rw [if_pos h3,if_pos (by omega)];congr 1;omega
    ·rw [if_neg h3,if_neg (by omega)];congr 1;omega
   ·rw [if_neg h2,mp hx BZ,if_neg (by omega),if_pos (by omega),show(b+c).toNat=b.toNat+c.toNat by omega]
    rw [←M.as X Bc hz',←M.as hw (M.cl X Bc) hz']
    congr 1;omega
  ·rw [if_neg h1,mp AB hz',im _ A hy,ic]
   by_cases h2:b+c ≥ at_ O i
   ·rw [if_pos h2,mp hx (M.cl hw BZ),if_pos (by omega),if_neg (by omega)]
    have hk:(b+c-at_ O i).toNat+nx O i=b.toNat+c.toNat:=by show _+(at_ O i).toNat=_;omega
    have hX:=past (ii (b+c-at_ O i).toNat hx);rw [←zCz,hk]at hX
    rw [←M.as (ii _ hx) hw BZ,←hX,M.as hw X BZ,←M.as X Bc hz']
    congr 1;omega
   ·rw [if_neg h2,mp hx BZ,show(b+c).toNat=b.toNat+c.toNat by omega,←M.as X Bc hz']
    by_cases h3:a+b+c ≥ at_ O i
    ·rw [if_pos h3,if_pos (by omega)];congr 1;omega
    ·rw [if_neg h3,if_neg (by omega)];congr 1;omega
 have Mn:Mon (TT O (O.length-(d+1))) (mu O P C (d+1)) (zv O):=by
  rw [h0];exact⟨s.zv _,cl,assc,l1,r1⟩
 refine⟨by omega,Gp.of_right Mn ?_,?_⟩
 ·rw [h0]
  intro a ha;obtain⟨x,a,hx,rfl,a1,a2⟩:=pr ha
  by_cases h0':a=0
  ·subst h0'
   obtain⟨y,hy,h1,_⟩:=B.gp.inv hx;refine⟨y.set i 0,(hy.mono (by omega)).set hil (Nat.le_refl _) ⟨by omega,hpos⟩,?_⟩
   rw [mp hx hy,if_neg (by omega)]
   show(mu O P C d x y).set i _=_
   rw [h1,Int.add_zero];exact zs.symm
  ·obtain⟨y,hy,h1,_⟩:=B.gp.inv (M.cl hw (ii (at_ O i-a).toNat hx))
   refine⟨y.set i (at_ O i-a),(hy.mono (by omega)).set hil (Nat.le_refl _) ⟨by omega,by omega⟩,?_⟩
   rw [mp hx hy,if_pos (by omega),←M.as hw (ii _ hx) hy,h1,show a+(at_ O i-a)-at_ O i=0 by omega]
   exact zs.symm
 ·rw [h0]
  intro x hx;obtain⟨y,a,hy,rfl,a1,a2⟩:=pr hx;have yl:i<y.length:=by rw [hy.len];exact hil
  have hu:∀k:Nat,(k:Int)<at_ O i→pw (mu O P C (d+1)) (zv O) (unit O i) k=(zv O).set i k:=by
   intro k
   induction k with
   | zero=>intro _;exact zs
   | succ k ih=>
    intro hk;show mu O P C (d+1) (pw _ _ _ k) (unit O i)=_;rw [ih (by omega),mp hz hz,if_neg (by omega)]
    show(mu O P C d (al O P C d i (zv O)) (zv O)).set i _=_
    rw [al_zv s B hi,M.l1 hz]
    congr 1
  have sub:∀{u v:List Int},TT O (O.length-d) u→TT O (O.length-d) v→mu O P C (d+1) u v=mu O P C d u v:=fun {u v} hu hv=>by
   have ul:i<u.length:=by rw [hu.len];exact hil
   have vl:i<v.length:=by rw [hv.len];exact hil
   have h3:=mp (a:=0) (b:=0) hu hv;rw [zg (hu.zero i (by omega)) ul,zg (hv.zero i (by omega)) vl,if_neg (by omega)]at h3
   rw [h3];have huv:=M.cl hu hv;exact zg (huv.zero i (by omega)) (by show i<(mu O P C d u v).length;rw [huv.len];exact hil)
  have pws:∀{u:List Int},TT O (O.length-d) u→∀k,pw (mu O P C (d+1)) (zv O) u k=pw (mu O P C d) (zv O) u k:=fun {u} hu k=>by
   induction k with
   | zero=>rfl
   | succ k ih=>show mu O P C (d+1) (pw _ _ u k) u=mu O P C d (pw _ _ u k) u;rw [ih,sub (M.pw hu k) hu]
  have phs:∀(c t:Nat),O.length-d≤t→t+c≤O.length→ph (mu O P C (d+1)) (zv O) (unit O) (nx (y.set i a)) t c=ph (mu O P C d) (zv O) (unit O) (nx y) t c:=by
   intro c
   induction c with
   | zero=>intro t _ _;rfl
   | succ c ih=>
    intro t h1 h2;have hut:TT O (O.length-d) (unit O t):=s.unit (by omega) h1
    have hnx:nx (y.set i a) t=nx y t:=by show(at_ _ t).toNat=(at_ y t).toNat;rw [at_set yl,if_neg (by omega)]
    rw [ph,ph,ih (t+1) (by omega) (by omega),pws hut,hnx,sub (M.pw hut _) (M.ph fun j g1 g2=>s.unit (by omega) (by omega))]
  rw [zHR (by omega),h0,show Ph O (mu O P C (d+1)) (zv O) (unit O) d (y.set i a)=Ph O (mu O P C d) (zv O) (unit O) d y from phs d _ (Nat.le_refl _) (by omega),B.nf hy]
  have hnx:nx (y.set i a) i=a.toNat:=by show(at_ _ i).toNat=_;rw [at_set yl,if_pos rfl]
  have ys:y=y.set i 0:=(zg (hy.zero i (by omega)) yl).symm
  rw [hnx,hu _ (by omega)]
  conv=>lhs;rw [ys]
  rw [mp hz hy,if_neg (by omega)]
  show(mu O P C d (zv O) y).set i _=_
  rw [M.l1 hy];congr 1;omega
theorem zF6 (s:Shp O P C):Beh O P C 0:=by
 have h0:∀{x:List Int},TT O (O.length-0) x→x=zv O:=fun {x} hx=>hx.ext (s.zv _) fun j h1 h2=>by omega
 refine⟨Nat.zero_le _,⟨⟨s.zv _,fun _ _=>s.zv _,fun _ _ _=>rfl,fun h=>(h0 h).symm,fun h=>(h0 h).symm⟩,fun h=>⟨zv O,s.zv _,rfl,rfl⟩⟩,fun h=>(h0 h).symm⟩
end
def Cons (O:List Int) (P:List (List Int)) (C:List (List (List Int))):Prop:=∀i,i<O.length→Lv O P C i
theorem zJx (s:Shp O P C):∀{d:Nat},d≤O.length→(∀i,O.length-d≤i→i<O.length→Lv O P C i)→Beh O P C d
 | 0,_,_=>zF6 s
 | d+1,hd,h=>zF7 s (zJx s (by omega) fun i h1 h2=>h i (by omega) h2) (by omega) (h (O.length-(d+1)) (Nat.le_refl _) (by omega))
end Go.Grp
namespace Go.Grp
open Go.Ab Go.Lie
variable {O:List Int} {P:List (List Int)} {C:List (List (List Int))} {α:Type} {S:α→Prop} {m:α→α→α} {e:α} {h:Nat→α} {d i:Nat}
theorem zHB (s:Shp O P C) (hd:d+1≤O.length) {u v:List Int} (hu:TT O (O.length-d) u) (hv:TT O (O.length-d) v):mu O P C (d+1) u v=mu O P C d u v:=by
 have hil:O.length-(d+1)<O.length:=by omega
 have zu:=hu.zero (O.length-(d+1)) (by omega)
 have zv':=hv.zero (O.length-(d+1)) (by omega)
 have huv:=mu_tt s (by omega:d≤O.length) hu hv
 have hp:=s.pos hil;simp only [mu];rw [zg zu (by rw [hu.len];exact hil),zg zv' (by rw [hv.len];exact hil),zu,zv',if_neg (by omega)]
 have:nx v (O.length-(d+1))=0:=by show(at_ v _).toNat=0;rw [zv'];rfl
 rw [this];exact zg (huv.zero _ (by omega)) (by show _<(mu O P C d u v).length;rw [huv.len];exact hil)
theorem zJS (s:Shp O P C):∀{k:Nat},d+k≤O.length→∀{u v:List Int},TT O (O.length-d) u→TT O (O.length-d) v→mu O P C (d+k) u v=mu O P C d u v
 | 0,_,u,v,_,_=>rfl
 | k+1,hk,u,v,hu,hv=>by
  rw [show d+(k+1)=(d+k)+1 by omega,zHB s (by omega) (hu.mono (by omega)) (hv.mono (by omega)),zJS s (by omega) hu hv]
theorem zFK {m':α→α→α} (h:∀a b,S a→S b→m' a b=m a b) (M:Mon S m e) {x:α} (hx:S x):∀k,pw m' e x k=pw m e x k
 | 0=>rfl
 | k+1=>by show m' (pw m' e x k) x=m (pw m e x k) x;rw [zFK h M hx k,h _ _ (M.pw hx k) hx]
theorem zDV {m':α→α→α} (h:∀a b,S a→S b→m' a b=m a b) (M:Mon S m e) {f:Nat→α} {x:Nat→Nat}:∀{c t:Nat},(∀j,t≤j→j<t+c→S (f j))→ph m' e f x t c=ph m e f x t c
 | 0,t,_=>rfl
 | c+1,t,hf=>by
  have ht:=hf t (Nat.le_refl _) (by omega)
  have i:=zDV h M (f:=f) (x:=x) (c:=c) (t:=t+1) fun j a b=>hf j (by omega) (by omega)
  rw [ph,ph,i,zFK h M ht];exact h _ _ (M.pw ht _) (M.ph fun j a b=>hf j (by omega) (by omega))
theorem zHQ {m:List Int→List Int→List Int} (M:Mon (TT O (O.length-d)) m (zv O)) (s:Shp O P C) {f:Nat→List Int} (hf:∀j,O.length-d≤j→j<O.length→TT O (O.length-d) (f j)) (hd:d≤O.length) {k:Nat} (h1:O.length-d≤k) (h2:k<O.length):Ph O m (zv O) f d (unit O k)=f k:=by
 have:∀(c t:Nat),O.length-d≤t→t+c=O.length→ph m (zv O) f (nx (unit O k)) t c=if t≤k then f k else zv O:=by
  intro c
  induction c with
  | zero=>intro t g1 g2;rw [ph,if_neg (by omega)]
  | succ c ih=>
   intro t g1 g2;have hn:nx (unit O k) t=if t=k then 1 else 0:=by
    show(at_ ((zv O).set k 1) t).toNat=_
    rw [at_set (by simp;exact h2)]
    split
    ·rfl
    ·rw [ZI];rfl
   rw [ph,ih (t+1) (by omega) (by omega),hn]
   have ft:=hf t g1 (by omega)
   by_cases e:t=k
   ·subst e
    rw [if_pos rfl,if_neg (by omega),if_pos (Nat.le_refl _),M.pw_one ft,M.r1 ft]
   ·rw [if_neg e]
    show m (zv O) _=_
    by_cases g:t≤k
    ·rw [if_pos (by omega),if_pos g,M.l1 (hf k h1 h2)]
    ·rw [if_neg (by omega),if_neg g,M.l1 M.one]
 have:=this d (O.length-d) (Nat.le_refl _) (by omega)
 rw [if_pos h1]at this
 exact this
structure Full (O:List Int) (P:List (List Int)) (C:List (List (List Int))) (d:Nat):Prop extends Beh O P C d where
 rel:Rel O P C (TT O (O.length-d)) (mu O P C d) (zv O) (unit O) (O.length-d)
theorem zEd (s:Shp O P C):Full O P C 0:=⟨zF6 s,⟨fun j h1 h2=>s.unit h2 h1,fun j h1 h2=>by omega,fun j k h1 h2 h3=>by omega⟩⟩
theorem zEe (s:Shp O P C) (B:Full O P C d) (hi:O.length-d=i+1) (L:Lv O P C i):Full O P C (d+1):=by
 have hle:=B.le;have hil:i<O.length:=by omega
 have h0:O.length-(d+1)=i:=by omega
 have B1:=zF7 s B.toBeh hi L;refine⟨B1,?_⟩;have M:=B.gp.toMon;have M1:=B1.gp.toMon;have hpos:=s.pos hil;have hz:TT O (O.length-d) (zv O):=s.zv _;have hw:TT O (O.length-d) (pvec P i):=by rw [hi];exact s.pw i hil
 have sub:∀a b,TT O (O.length-d) a→TT O (O.length-d) b→mu O P C (d+1) a b=mu O P C d a b:=fun a b ha hb=>zHB s (by omega) ha hb
 have un:∀j,O.length-d≤j→j<O.length→TT O (O.length-d) (unit O j):=fun j h1 h2=>s.unit h2 h1
 have mp:=fun {a b:Int} {x y:List Int} (hx:TT O (O.length-d) x) (hy:TT O (O.length-d) y)=>zCN s B.toBeh hi (a:=a) (b:=b) hx hy
 have zs:zv O=(zv O).set i 0:=(zg (ZI _ i) (by simp;exact hil)).symm
 have nfx:∀{j:Nat} {x:List Int},i≤j→j<O.length→TT O (j+1) x→Ph O (mu O P C (d+1)) (zv O) (unit O) (O.length-(j+1)) x=x:=fun {j x} h1 h2 hx=>by
  have hn:=B.nf (hx.mono (by omega:O.length-d≤j+1))
  have e1:Ph O (mu O P C (d+1)) (zv O) (unit O) (O.length-(j+1)) x=Ph O (mu O P C d) (zv O) (unit O) (O.length-(j+1)) x:=zDV sub M fun k a b=>un k (by omega) (by omega)
  rw [e1]
  have:=M.ph_skip (h:=unit O) (x:=nx x) (d:=O.length-(j+1)) (k:=j-i) (t:=O.length-d) (fun t a b=>by show(at_ x t).toNat=0;rw [hx.zero t (by omega)];rfl) (fun t a b=>un t (by omega) (by omega))
  rw [show j-i+(O.length-(j+1))=d by omega,show O.length-d+(j-i)=O.length-(O.length-(j+1)) by omega]at this
  show ph _ _ _ _ _ _=x;rw [←this];exact hn
 rw [h0];refine⟨fun j h1 h2=>s.unit h2 h1,fun j h1 h2=>?_,fun j k h1 h2 h3=>?_⟩
 ·rw [nfx h1 h2 (s.pw j h2)]
  by_cases e:j=i
  ·subst e
   have hu:∀k:Nat,(k:Int)<at_ O j→pw (mu O P C (d+1)) (zv O) (unit O j) k=(zv O).set j k:=by
    intro k
    induction k with
    | zero=>intro _;exact zs
    | succ k ih=>
     intro hk;show mu O P C (d+1) (pw _ _ _ k) (unit O j)=_;rw [ih (by omega),mp hz hz,if_neg (by omega)]
     show(mu O P C d (al O P C d j (zv O)) (zv O)).set j _=_
     rw [al_zv s B.toBeh hi,M.l1 hz]
     congr 1
   obtain⟨o,ho⟩:∃o:Nat,nx O j=o+1:=⟨nx O j-1,by show(at_ O j).toNat=_;have:nx O j=(at_ O j).toNat:=rfl;omega⟩
   have hoi:at_ O j=(o:Int)+1:=by have:nx O j=(at_ O j).toNat:=rfl;omega
   rw [ho];show mu O P C (d+1) (pw _ _ _ o) (unit O j)=_;rw [hu o (by omega),mp hz hz,if_pos (by omega)]
   show(mu O P C d (pvec P j) (mu O P C d (al O P C d j (zv O)) (zv O))).set j _=_
   rw [al_zv s B.toBeh hi,M.l1 hz,M.r1 hw,show(o:Int)+1-at_ O j=0 by omega]
   exact zg (hw.zero j (by omega)) (by rw [hw.len];exact hil)
  ·rw [zFK sub M (un j (by omega) h2),B.rel.pow j (by omega) h2]
   have hn:=nfx h1 h2 (s.pw j h2);have e1:Ph O (mu O P C (d+1)) (zv O) (unit O) (O.length-(j+1)) (pvec P j)=Ph O (mu O P C d) (zv O) (unit O) (O.length-(j+1)) (pvec P j):=zDV sub M fun k a b=>un k (by omega) (by omega)
   rw [←e1];exact hn
 ·rw [nfx h1 (by omega) (s.cj j k h2 h3)]
  by_cases e:j=i
  ·subst e
   have hc:TT O (O.length-d) (cvec C j k):=by rw [hi];exact s.cj j k h2 h3
   have uk:=un k (by omega) h3
   have zu:=uk.zero j (by omega)
   have zc:=hc.zero j (by omega)
   have e1:mu O P C (d+1) (unit O k) (unit O j)=(cvec C j k).set j 1:=by
    have:=mp (a:=0) (b:=1) uk hz
    rw [zg zu (by rw [uk.len];exact hil),if_neg (by have:=(s.pr j hil).1;omega)]at this
    rw [this]
    show(mu O P C d (al O P C d j (unit O k)) (zv O)).set j _=_
    rw [al_ph s B.toBeh hi,zHQ M s (fun q a b=>by rw [hi];exact s.cj j q (by omega) b) hle (by omega) h3,M.r1 hc]
    congr 1
   have e2:mu O P C (d+1) (unit O j) (cvec C j k)=(cvec C j k).set j 1:=by
    have:=mp (a:=1) (b:=0) hz hc
    rw [zg zc (by rw [hc.len];exact hil),if_neg (by have:=(s.pr j hil).1;omega)]at this
    rw [this]
    show(mu O P C d (zv O) (cvec C j k)).set j _=_
    rw [M.l1 hc]
    congr 1
   rw [e1,e2]
  ·have hcj:TT O (O.length-d) (cvec C j k):=(s.cj j k h2 h3).mono (by omega)
   have hn:=nfx h1 (by omega) (s.cj j k h2 h3)
   have e1:Ph O (mu O P C (d+1)) (zv O) (unit O) (O.length-(j+1)) (cvec C j k)=Ph O (mu O P C d) (zv O) (unit O) (O.length-(j+1)) (cvec C j k):=zDV sub M fun k a b=>un k (by omega) (by omega)
   rw [e1]at hn
   have:=B.rel.cj j k (by omega) h2 h3
   rw [hn]at this
   rw [sub _ _ (un k (by omega) h3) (un j (by omega) (by omega)),sub _ _ (un j (by omega) (by omega)) hcj]
   exact this
theorem full_of (s:Shp O P C):∀{d:Nat},d≤O.length→(∀i,O.length-d≤i→i<O.length→Lv O P C i)→Full O P C d
 | 0,_,_=>zEd s
 | d+1,hd,h=>zEe s (full_of s (by omega) fun i h1 h2=>h i (by omega) h2) (by omega) (h (O.length-(d+1)) (Nat.le_refl _) (by omega))
theorem Mon.ph_app (M:Mon S m e) {f:Nat→α} {x:Nat→Nat} {b:Nat}:∀{a t:Nat},(∀j,t≤j→j<t+a+b→S (f j))→Grp.ph m e f x t (a+b)=m (Grp.ph m e f x t a) (Grp.ph m e f x (t+a) b)
 | 0,t,hf=>by
  rw [Nat.zero_add,Nat.add_zero];exact(M.l1 (M.ph fun j h1 h2=>hf j (by omega) (by omega))).symm
 | a+1,t,hf=>by
  have ft:=hf t (Nat.le_refl _) (by omega)
  rw [show a+1+b=(a+b)+1 by omega,Grp.ph,Grp.ph,M.ph_app fun j h1 h2=>hf j (by omega) (by omega),show t+(a+1)=t+1+a by omega,M.as (M.pw ft _) (M.ph fun j h1 h2=>hf j (by omega) (by omega)) (M.ph fun j h1 h2=>hf j (by omega) (by omega))]
def hdz (x:List Int) (j:Nat):List Int:=x.take (j+1)++List.replicate (x.length-(j+1)) 0
theorem zCO (x:List Int) (j:Nat):(hdz x j).length=x.length:=by simp [hdz];omega
theorem zA9 (x:List Int) (j k:Nat):at_ (hdz x j) k=if k≤j then at_ x k else 0:=by
 simp only [hdz,at_,List.getD_eq_getElem?_getD]
 by_cases hk:k≤j
 ·rw [if_pos hk]
  by_cases hl:k<x.length
  ·rw [List.getElem?_append_left (by simp;omega),List.getElem?_take,if_pos (by omega)]
  ·rw [List.getElem?_eq_none (by simp;omega),List.getElem?_eq_none (by omega)]
 ·rw [if_neg hk]
  by_cases hl:k<x.length
  ·rw [List.getElem?_append_right (by simp;omega),List.getElem?_replicate]
   split<;>rfl
  ·rw [List.getElem?_eq_none (by simp;omega)];rfl
theorem zFn {t j:Nat} {x:List Int} (hx:TT O t x) (hO:∀j,j<O.length→0<at_ O j):TT O t (hdz x j):=by
 refine⟨by rw [zCO,hx.len],fun k hk=>?_,fun k hk=>?_⟩
 ·rw [zA9];split
  ·exact hx.bd k hk
  ·exact⟨by omega,hO k hk⟩
 ·rw [zA9];split
  ·exact hx.zero k hk
  ·rfl
def tstep (O:List Int) (P:List (List Int)) (C:List (List (List Int))) (m:List Int→List Int→List Int) (x:List Int) (j:Nat):List Int:=
 fo m (cvec C j) (nx x) (j+1) (O.length-1-j) (if at_ x j+1=at_ O j then m ((hdz x j).set j 0) (pvec P j)else(hdz x j).set j (at_ x j+1))
theorem zKA (s:Shp O P C) (B:Full O P C d) {x:List Int} (hx:TT O (O.length-d) x) {j:Nat} (h1:O.length-d≤j) (h2:j<O.length):tstep O P C (mu O P C d) x j=mu O P C d x (unit O j):=by
 have hle:=B.le;have M:=B.gp.toMon;have hpos:=s.pos h2;have bx:=hx.bd j h2;have un:∀k,O.length-d≤k→k<O.length→TT O (O.length-d) (unit O k):=fun k a b=>s.unit b a
 have cv:∀k,j+1≤k→k<O.length→TT O (O.length-d) (cvec C j k):=fun k a b=>(s.cj j k (by omega) b).mono (by omega)
 have hpv:TT O (O.length-d) (pvec P j):=(s.pw j h2).mono (by omega)
 have uj:=un j h1 h2;have jl:j<(hdz x j).length:=by rw [zCO,hx.len];exact h2
 -- the head, the generator's power, the rest
 let H:=ph (mu O P C d) (zv O) (unit O) (nx x) (O.length-d) (j-(O.length-d))
 have hH:TT O (O.length-d) H:=M.ph fun k a b=>un k (by omega) (by omega)
 have spl:∀{y:List Int},(∀k,k<j→at_ y k=at_ x k)→TT O (O.length-d) y→y=mu O P C d H (mu O P C d (pw (mu O P C d) (zv O) (unit O j) (nx y j)) (ph (mu O P C d) (zv O) (unit O) (nx y) (j+1) (O.length-1-j))):=fun {y} hy ht=>by
  have e1:=B.nf ht;have e2:Ph O (mu O P C d) (zv O) (unit O) d y=mu O P C d (ph (mu O P C d) (zv O) (unit O) (nx y) (O.length-d) (j-(O.length-d))) (ph (mu O P C d) (zv O) (unit O) (nx y) j (O.length-1-j+1)):=by
   have:=M.ph_app (f:=unit O) (x:=nx y) (a:=j-(O.length-d)) (b:=O.length-1-j+1) (t:=O.length-d) fun k a b=>un k (by omega) (by omega)
   rw [show j-(O.length-d)+(O.length-1-j+1)=d by omega,show O.length-d+(j-(O.length-d))=j by omega]at this
   exact this
  have e3:ph (mu O P C d) (zv O) (unit O) (nx y) (O.length-d) (j-(O.length-d))=H:=zBJ fun k a b=>⟨rfl,by show(at_ y k).toNat=(at_ x k).toNat;rw [hy k (by omega)]⟩
  rw [e3]at e2
  exact e1.symm.trans e2
 have rest0:∀{y:List Int},(∀k,j<k→at_ y k=0)→ph (mu O P C d) (zv O) (unit O) (nx y) (j+1) (O.length-1-j)=zv O:=fun {y} hy=>by
  have e1:ph (mu O P C d) (zv O) (unit O) (nx y) (j+1) (O.length-1-j)=ph (mu O P C d) (zv O) (unit O) (nx (zv O)) (j+1) (O.length-1-j):=zBJ fun k a b=>⟨rfl,by show(at_ y k).toNat=(at_ (zv O) k).toNat;rw [hy k (by omega),ZI]⟩
  rw [e1]
  have:=Ph_zv (O:=O) (h:=unit O) M (O.length-1-j)
  show ph _ _ _ _ _ _=_;rw [show j+1=O.length-(O.length-1-j) by omega]
  exact this
 let R:=ph (mu O P C d) (zv O) (unit O) (nx x) (j+1) (O.length-1-j)
 let R':=ph (mu O P C d) (zv O) (cvec C j) (nx x) (j+1) (O.length-1-j)
 have hR:TT O (O.length-d) R:=M.ph fun k a b=>un k (by omega) (by omega)
 have hR':TT O (O.length-d) R':=M.ph fun k a b=>cv k a (by omega)
 have past:mu O P C d R (unit O j)=mu O P C d (unit O j) R':=M.past_ph uj fun k a b=>⟨un k (by omega) (by omega),cv k a (by omega),by
  have:=B.rel.cj j k h1 (by omega) (by omega)
  have nfc:Ph O (mu O P C d) (zv O) (unit O) (O.length-(j+1)) (cvec C j k)=cvec C j k:=by
   have hc:=s.cj j k (by omega) (by omega)
   have hn:=B.nf (cv k a (by omega))
   have h3:=M.ph_skip (h:=unit O) (x:=nx (cvec C j k)) (d:=O.length-(j+1)) (k:=j+1-(O.length-d)) (t:=O.length-d) (fun t a b=>by show(at_ _ t).toNat=0;rw [hc.zero t (by omega)];rfl) (fun t a b=>un t (by omega) (by omega))
   rw [show j+1-(O.length-d)+(O.length-(j+1))=d by omega,show O.length-d+(j+1-(O.length-d))=O.length-(O.length-(j+1)) by omega]at h3
   show ph _ _ _ _ _ _=_;rw [←h3];exact hn
  rw [nfc]at this;exact this⟩
 have pj:pw (mu O P C d) (zv O) (unit O j) (nx O j)=pvec P j:=by
  rw [B.rel.pow j h1 h2];have hc:=s.pw j h2;have hn:=B.nf hpv;have h3:=M.ph_skip (h:=unit O) (x:=nx (pvec P j)) (d:=O.length-(j+1)) (k:=j+1-(O.length-d)) (t:=O.length-d) (fun t a b=>by show(at_ _ t).toNat=0;rw [hc.zero t (by omega)];rfl) (fun t a b=>un t (by omega) (by omega))
  rw [show j+1-(O.length-d)+(O.length-(j+1))=d by omega,show O.length-d+(j+1-(O.length-d))=O.length-(O.length-(j+1)) by omega]at h3
  show ph _ _ _ _ _ _=_;rw [←h3];exact hn
 have pwj:∀k,TT O (O.length-d) (pw (mu O P C d) (zv O) (unit O j) k):=fun k=>M.pw uj k
 -- both sides are H g^(e+1) R'
 have rhs:mu O P C d x (unit O j)=mu O P C d (mu O P C d H (pw (mu O P C d) (zv O) (unit O j) (nx x j+1))) R':=by
  conv=>lhs;rw [spl (fun _ _=>rfl) hx]
  rw [M.as hH (M.cl (pwj _) hR) uj,M.as (pwj _) hR uj,past,←M.as (pwj _) uj hR',M.as hH (pwj (nx x j+1)) hR']
  rfl
 have hd1:∀{c:Int},0≤c→c<at_ O j→(hdz x j).set j c=mu O P C d H (pw (mu O P C d) (zv O) (unit O j) c.toNat):=fun {c} c0 c1=>by
  have ht:TT O (O.length-d) ((hdz x j).set j c):=(zFn hx fun k hk=>s.pos hk).set h2 h1 ⟨c0,c1⟩
  have hs:=spl (y:=(hdz x j).set j c) (fun k hk=>by rw [at_set jl,if_neg (by omega),zA9,if_pos (by omega)]) ht
  rw [rest0 fun k hk=>by rw [at_set jl,if_neg (by omega),zA9,if_neg (by omega)],M.r1 (pwj _)]at hs
  rw [hs]
  congr 2
  show(at_ _ j).toNat=_
  rw [at_set jl,if_pos rfl]
 have lhs:(if at_ x j+1=at_ O j then mu O P C d ((hdz x j).set j 0) (pvec P j)else(hdz x j).set j (at_ x j+1))=mu O P C d H (pw (mu O P C d) (zv O) (unit O j) (nx x j+1)):=by
  split
  ·rename_i hc
   rw [hd1 (Int.le_refl _) hpos,←pj,show nx O j=nx x j+1 by show(at_ O j).toNat=(at_ x j).toNat+1;omega]
   show mu O P C d (mu O P C d H (zv O)) _=_;rw [M.r1 hH]
  ·rw [hd1 (by omega) (by omega),show(at_ x j+1).toNat=nx x j+1 by show _=(at_ x j).toNat+1;omega]
 rw [tstep,lhs,rhs];exact M.fo_eq (fun k a b=>cv k a (by omega)) (M.cl hH (pwj _))
end Go.Grp
namespace Go.Grp
end Go.Grp
namespace Go.Proofs
open Go.Ab Go.Lie Go.Grp
variable {σ:PHeap} {K:PV→PHeap→Prop} {O:List Int} {P:List (List Int)} {C:List (List (List Int))} {vO vP vC vx:PV} {s:Nat} {x:List Int}
structure IsPr (vO vP vC:PV) (O:List Int) (P:List (List Int)) (C:List (List (List Int))):Prop where
 O:FI vO O
 P:FII vP P
 C:FIII vC C
structure SzP (O:List Int) (P:List (List Int)) (C:List (List (List Int))):Prop where
 O:O.length≤1048576
 P:SzL P
 C:SzM C
structure PtrG (σ:PHeap) (s:Nat) (vO vP vC:PV):Prop where
 obj:σ.obj s=some [vO,vP,vC]
 lt:s<σ.next
theorem PtrG.new (h:PtrG σ s vO vP vC) (cs:List PV):PtrG (σ.new cs) s vO vP vC:=⟨by have:=h.lt;simp only [pwA,seval,-iQ0,Nat.ne_of_lt this];exact h.obj,by have:=h.lt;simp only [pwA,seval,-iQ0];omega⟩
theorem PtrG.set (h:PtrG σ s vO vP vC) {t:Nat} (ht:s≠t) (cs:List PV):PtrG (σ.set t cs) s vO vP vC:=⟨by simp only [pwA,seval,-iQ0,ht];exact h.obj,h.lt⟩
theorem PtrG.keep {h:PHeap} (hs:PtrG σ s vO vP vC) (hk:Keep σ h):PtrG h s vO vP vC:=⟨by rw [hk.obj s hs.lt];exact hs.obj,Nat.lt_of_lt_of_le hs.lt hk.next⟩
def isExp (O x:List Int):Prop:=x.length=O.length∧∀j,j<x.length→0≤at_ x j∧at_ x j≤at_ O j-1
def ZX (O:List Int) (t:Nat) (x:List Int):Prop:=isExp O x∧isZ (x.take t)
def prodL:List Int→Int
 | []=>1
 | o::O=>o*prodL O
def rowPr (O:List Int) (P:List (List Int)) (C:List (List (List Int))) (i:Nat):Prop:=ZX O (i+1) (P.getD i [])∧(C.getD i []).length=O.length-1-i∧∀k,k<(C.getD i []).length→ZX O (i+1) ((C.getD i []).getD k [])
def zQ (O:List Int) (P:List (List Int)) (C:List (List (List Int))):Prop:=
 O.length≤6∧P.length=O.length∧C.length=O.length∧(∀o∈O,isP o)∧prodL O≤729∧∀i,i<O.length→rowPr O P C i
theorem ZX.tt {t:Nat} (h:ZX O t x):TT O t x:=by
 refine⟨h.1.1,fun j hj=>by have:=h.1.2 j (by rw [h.1.1];exact hj);omega,fun j hj=>?_⟩
 rcases Nat.lt_or_ge j x.length with e|e
 ·rw [at_eq e]
  exact h.2 _ (by rw [List.mem_take_iff_getElem];exact⟨j,by omega,rfl⟩)
 ·exact at_ge e
theorem zQ.shp (h:zQ O P C):Shp O P C:=by
 obtain⟨h1,h2,h3,h4,h5,h6⟩:=h;refine⟨h1,fun j hj=>?_,h2,h3,fun i hi=>(h6 i hi).1.tt,fun i hi=>(h6 i hi).2.1,fun i j hij hj=>?_⟩
 ·rw [at_eq hj];exact(h4 _ (List.getElem_mem hj)).bd
 ·have:=(h6 i (by omega)).2.2 (j-i-1) (by rw [(h6 i (by omega)).2.1];omega)
  exact this.tt
theorem zA8 (hs:PtrG σ s vO vP vC) (hO:FI vO O) (szO:O.length≤1048576) (bO:∀o∈O,isP o) (hx:FI vx x) (hb:x.length≤1048576) (hk:∀t:Bool,(t=true↔isExp O x)→K (.bool t) σ):zA Tryz.prog 55 [.ptr s 0,vx] σ K:=by
 have fl:∀{A:Prop},¬A→((false=true)↔A):=fun h=>⟨fun x=>(by cases x),fun x=>absurd x h⟩
 obtain⟨wo,ao,rfl⟩:=hO;obtain⟨wx,ax,rfl⟩:=hx;have e0:σ.rd1 s 0=some (.fz wo ao O.length (pis O)):=by rw [zH hs.obj];rfl
 refine zC mix Tryz.func55 ?_
 conv=>arg 2;cbv
 refine zF rfl ?_;simp only [pwA,seval,-iQ0,e0];refine iteI (fun hl=>?_) fun hl=>?_
 rotate_left
 ·exact hk _ (fl fun h=>hl (by rw [h.1]))
 have hl:x.length=O.length:=by omega
 refine zG (fun m vs h'=>∃i:Nat,i≤x.length∧m=x.length-i∧vs=[.ptr s 0,.fz wx ax x.length (pis x),.int .i64 x.length,.int .i64 i]∧σ=h'∧∀j,j<i→0≤at_ x j∧at_ x j≤at_ O j-1) x.length ?_ ?_
 ·exact⟨0,by omega,by omega,rfl,rfl,fun j hj=>by omega⟩
 rintro m vs h' ⟨i,hi,rfl,rfl,rfl,hall⟩
 simp only [pwA,seval,-iQ0];refine iteI (fun hlt=>?_) fun hge=>?_
 ·have hO':i<O.length:=by omega
  have bo:=(bO _ (List.getElem_mem hO')).bd;simp only [pwA,seval,-iQ0,hlt,hO',e0,gi hlt,gi hO',zM,wrap64 (n:=O[i] - 1) (by omega) (by omega)]
  refine Qn ?_
  by_cases hin:0≤x[i]∧x[i]≤O[i] - 1
  ·simp only [pwA,seval,-iQ0,hin,wrapS hlt (by omega:x.length≤4611686018427387904)]
   refine⟨_,by omega,i+1,by omega,rfl,rfl,fun j hj=>?_⟩
   by_cases e:j=i
   ·subst e;rw [at_eq hlt,at_eq hO'];exact hin
   ·exact hall j (by omega)
  ·simp only [pwA,seval,-iQ0,hin]
   exact hk _ (fl fun h=>hin (by have:=h.2 i hlt;rwa [at_eq hlt,at_eq hO']at this))
 ·exact hk _ ⟨fun _=>⟨hl,fun j hj=>hall j (by omega)⟩,fun _=>rfl⟩
theorem zBY {i:Nat} (hs:PtrG σ s vO vP vC) (hO:FI vO O) (szO:O.length≤1048576) (bO:∀o∈O,isP o) (hx:FI vx x) (hb:x.length≤1048576) (hi:i<O.length) (hk:∀t:Bool,(t=true↔ZX O (i+1) x)→K (.bool t) σ):zA Tryz.prog 87 [.ptr s 0,.int .i64 i,vx] σ K:=by
 have fl:∀{A:Prop},¬A→((false=true)↔A):=fun h=>⟨fun x=>(by cases x),fun x=>absurd x h⟩
 refine zC mix Tryz.func87 ?_
 conv=>arg 2;cbv
 refine zF rfl ?_;simp only [pwA,seval,-iQ0];refine zA8 hs hO szO bO hx hb fun t ht=>?_
 cases t with
 | false=>
  simp only [pwA,seval,-iQ0];exact hk _ (fl fun h=>by cases ht.2 h.1)
 | true=>
  have he:=ht.1 rfl;have hl:=he.1;obtain⟨wx,ax,rfl⟩:=hx;have hle2:((i+1:Nat):Int)≤(x.length:Int):=by omega
  have hle3:i+1≤x.length:=by omega
  simp only [pwA,seval,-iQ0,wrapS hi (by omega:O.length≤4611686018427387904),hle2,hle3,zKb,Nat.sub_zero]
  refine zJb (by simp;omega) (by simp;omega) ?_
  by_cases hz:isZ (x.take (i+1))
  ·simp only [pwA,seval,-iQ0,hz]
   exact hk _ ⟨fun _=>⟨he,hz⟩,fun _=>rfl⟩
  ·simp only [pwA,seval,-iQ0,hz]
   exact hk _ (fl fun h=>hz h.2)
theorem zAC:∀(a b:List Int),prodL (a++b)=prodL a*prodL b
 | [],b=>by simp [prodL]
 | x::a,b=>by simp [prodL,zAC a b,Int.mul_assoc]
theorem QF {i:Nat} (hi:i<O.length):prodL (O.take (i+1))=prodL (O.take i)*O[i]:=by
 rw [List.take_succ_eq_append_getElem hi,zAC];simp [prodL]
theorem Z9:∀{O:List Int},(∀o∈O,isP o)→1≤prodL O
 | [],_=>by simp [prodL]
 | o::O,h=>by
  have h1:=(h o (by simp)).bd
  have h2:=Z9 (O:=O) fun q hq=>h q (by simp [hq])
  simp only [prodL]
  have:=Int.mul_le_mul h1.1 h2 (by omega) (by omega)
  omega
theorem zDT (h:∀o∈O,isP o) (i:Nat):prodL (O.take i)≤prodL O:=by
 have h1:=Z9 fun o ho=>h o (List.mem_of_mem_take (i:=i) ho)
 have h2:=Z9 fun o ho=>h o (List.mem_of_mem_drop (i:=i) ho)
 have:prodL O=prodL (O.take i)*prodL (O.drop i):=by rw [←zAC,List.take_append_drop]
 have h3:=Int.mul_le_mul (Int.le_refl (prodL (O.take i))) h2 (by omega) (by omega)
 omega
theorem qV (hR:IsPr vO vP vC O P C) (sz:SzP O P C) (hk:∀t:Bool,(t=true↔zQ O P C)→K (.bool t) σ):zA Tryz.prog 33 [.agg [vO,vP,vC]] σ K:=by
 have hFO:=hR.O;have ho1:=hR.O.one;have szP:=sz.P;have szC:=sz.C;obtain⟨⟨w0,a0,rfl⟩,⟨w1,a1,rP,rfl,hP⟩,⟨w3,a3,rC,rfl,hC⟩⟩:=hR;refine zA.gh ?_;have fin:∀{t:Bool} {σ':PHeap},(t=true↔zQ O P C)→Keep σ σ'→Gh σ K (.bool t) σ':=fun h k=>Gh.fin0 k trivial (hk _ h)
 have no:∀{σ':PHeap},¬zQ O P C→Keep σ σ'→Gh σ K (.bool false) σ':=fun h k=>fin ⟨fun x=>(by cases x),fun x=>absurd x h⟩ k
 have hkp:=zB σ [.fz w0 a0 O.length (pis O),.fz w1 a1 P.length rP,.fz w3 a3 C.length rC];have hpt:PtrG (σ.new [.fz w0 a0 O.length (pis O),.fz w1 a1 P.length rP,.fz w3 a3 C.length rC]) σ.next (.fz w0 a0 O.length (pis O)) (.fz w1 a1 P.length rP) (.fz w3 a3 C.length rC):=⟨by simp only [pwA,seval,-iQ0],by simp only [pwA,seval,-iQ0]⟩
 refine zC mix Tryz.func33 ?_
 conv=>arg 2;cbv
 refine zF rfl ?_;simp only [pwA,seval,-iQ0]
 by_cases h6:O.length≤6
 rotate_left
 ·have h6':(6:Int)<(O.length:Int):=by omega
  simp only [pwA,seval,-iQ0,h6'];exact no (fun h=>h6 h.1) hkp
 have h6':¬(6:Int)<(O.length:Int):=by omega
 by_cases hPl:P.length=O.length
 rotate_left
 ·have hPl':¬(P.length:Int)=(O.length:Int):=by omega
  simp only [pwA,seval,-iQ0,h6',hPl'];exact no (fun h=>hPl h.2.1) hkp
 have hPl':(P.length:Int)=(O.length:Int):=by omega
 by_cases hCl:C.length=O.length
 rotate_left
 ·have hCl':¬(C.length:Int)=(O.length:Int):=by omega
  simp only [pwA,seval,-iQ0,h6',eq_true hPl',hCl'];exact no (fun h=>hCl h.2.2.1) hkp
 have hCl':(C.length:Int)=(O.length:Int):=by omega
 simp only [pwA,seval,-iQ0,h6',eq_true hPl',eq_true hCl'];refine zG (fun m vs h'=>∃i:Nat,i≤O.length∧m=O.length-i∧vs=[.ptr σ.next 0,.int .i64 O.length,.int .i64 (prodL (O.take i)),.fz w0 a0 O.length (pis O),.int .i64 O.length,.int .i64 i]∧h'=σ.new [.fz w0 a0 O.length (pis O),.fz w1 a1 P.length rP,.fz w3 a3 C.length rC]∧(∀o∈O.take i,isP o)∧prodL (O.take i)≤729) O.length ?_ ?_
 ·exact⟨0,by omega,by omega,rfl,rfl,by simp,by simp [prodL]⟩
 rintro m vs h' ⟨i,hi,rfl,rfl,rfl,hall,hpr⟩
 simp only [pwA,seval,-iQ0];refine iteI (fun hlt=>?_) fun hge=>?_
 ·simp only [pwA,seval,-iQ0,hlt,gi hlt,zM]
  refine zD3 ?_
  by_cases hp:isP O[i]
  rotate_left
  ·simp only [pwA,seval,-iQ0,hp]
   exact no (fun h=>hp (h.2.2.2.1 _ (List.getElem_mem hlt))) hkp
  have hpb:=hp.bd;have h1:=Z9 hall;have hm1:0≤prodL (O.take i)*O[i]:=Int.mul_nonneg (by omega) (by omega)
  have hm2:=Int.mul_le_mul hpr hpb.2 (by omega) (by omega)
  have hw:IntKind.i64.wrap (prodL (O.take i)*O[i])=prodL (O.take i)*O[i]:=wrap64 (by omega) (by omega)
  by_cases ho:prodL (O.take i)*O[i]≤729
  ·have ho':¬(729:Int)<prodL (O.take i)*O[i]:=by omega
   simp only [pwA,seval,-iQ0,hp,hw,ho',hlt,gi hlt,zM,wrapS hlt (by omega:O.length≤4611686018427387904)]
   refine⟨_,by omega,i+1,by omega,rfl,?_,zB3 hlt hall hp,?_⟩
   ·rw [QF hlt]
   ·rw [QF hlt];exact ho
  ·have ho':(729:Int)<prodL (O.take i)*O[i]:=by omega
   simp only [pwA,seval,-iQ0,hp,hw,ho'];refine no (fun h=>?_) hkp
   have:=zDT h.2.2.2.1 (i+1)
   rw [QF hlt]at this
   have:=h.2.2.2.2.1
   omega
 have hie:i=O.length:=by omega
 subst hie;rw [List.take_length]at hall hpr
 refine zG (fun m vs h'=>∃i:Nat,i≤O.length∧m=O.length-i∧vs=[.ptr σ.next 0,.int .i64 O.length,.int .i64 O.length,.int .i64 i]∧h'=σ.new [.fz w0 a0 O.length (pis O),.fz w1 a1 P.length rP,.fz w3 a3 C.length rC]∧∀j,j<i→rowPr O P C j) O.length ?_ ?_
 ·exact⟨0,by omega,by omega,rfl,rfl,fun j hj=>by omega⟩
 rintro m vs h' ⟨i,hi,rfl,rfl,rfl,hrow⟩
 simp only [pwA,seval,-iQ0];refine iteI (fun hlt=>?_) fun hge=>?_
 rotate_left
 ·exact fin ⟨fun _=>⟨h6,hPl,hCl,hall,hpr,fun j hj=>hrow j (by omega)⟩,fun _=>rfl⟩ hkp
 have hiP:i<P.length:=by omega
 have hiC:i<C.length:=by omega
 obtain⟨w4,a4,hr⟩:=hP.rowI hiP;obtain⟨w5,a5,rs,hrb,hrs⟩:=hC.rowL hiC;have hwl:=szP.r _ (List.getElem_mem hiP);have hbl:=(szC.r _ (List.getElem_mem hiC)).l;have bad:(ZX O (i+1) P[i]→C[i].length=O.length-1-i→(∀k (h:k<C[i].length),ZX O (i+1) C[i][k])→False)→¬zQ O P C:=fun hb hsh=>by
  obtain⟨q1,q3,q4⟩:=hsh.2.2.2.2.2 i hlt;rw [Qb hiP]at q1
  rw [zo hiC]at q3
  refine hb q1 q3 fun k h=>?_
  have:=q4 k (by rw [zo hiC];exact h)
  rwa [zo hiC,zo h]at this
 simp only [pwA,seval,-iQ0,hiP,hr];refine zBY hpt hFO sz.O hall ⟨_,_,rfl⟩ hwl hlt fun t ht=>?_
 cases t with
 | false=>
  simp only [pwA,seval,-iQ0];exact no (bad fun q _ _=>by cases ht.2 q) hkp
 | true=>
 have hv:=ht.1 rfl;have e1:IntKind.i64.wrap ((O.length:Int)-1)=(O.length:Int)-1:=wrap64 (by omega) (by omega)
 have e2:IntKind.i64.wrap ((O.length:Int)-1-(i:Int))=(O.length:Int)-1-(i:Int):=wrap64 (by omega) (by omega)
 by_cases hlen:C[i].length=O.length-1-i
 rotate_left
 ·have hlen':¬(C[i].length:Int)=(O.length:Int)-1-(i:Int):=by omega
  simp only [pwA,seval,-iQ0,hlt,hiC,hrb,e1,e2,hlen'];exact no (bad fun _ q _=>hlen q) hkp
 have hlen':(C[i].length:Int)=(O.length:Int)-1-(i:Int):=by omega
 simp only [pwA,seval,-iQ0,hlt,hiC,hrb,e1,e2,eq_true hlen'];refine zG (fun m vs h'=>∃k:Nat,k≤C[i].length∧m=C[i].length-k∧vs=[.ptr σ.next 0,.int .i64 O.length,.int .i64 i,.int .i64 O.length,.int .i64 i,.fz w5 a5 C[i].length rs,.int .i64 C[i].length,.int .i64 k]∧
  h'=σ.new [.fz w0 a0 O.length (pis O),.fz w1 a1 P.length rP,.fz w3 a3 C.length rC]∧∀j (h:j<C[i].length),j<k→ZX O (i+1) C[i][j]) C[i].length ?_ ?_
 ·exact⟨0,by omega,by omega,rfl,rfl,fun j h hj=>by omega⟩
 rintro m vs h' ⟨k,hk',rfl,rfl,rfl,hall2⟩
 simp only [pwA,seval,-iQ0];refine iteI (fun hlt2=>?_) fun hge=>?_
 ·obtain⟨w6,a6,hrk⟩:=hrs.rowI hlt2
  have hcl:=(szC.r _ (List.getElem_mem hiC)).r _ (List.getElem_mem hlt2);simp only [pwA,seval,-iQ0,hlt2,hrk];refine zBY hpt hFO sz.O hall ⟨_,_,rfl⟩ hcl hlt fun t ht=>?_
  cases t with
  | false=>
   simp only [pwA,seval,-iQ0];exact no (bad fun _ _ q=>by cases ht.2 (q k hlt2)) hkp
  | true=>
   simp only [pwA,seval,-iQ0,wrapS hlt2 (by omega:C[i].length≤4611686018427387904)]
   refine⟨_,by omega,k+1,by omega,rfl,rfl,fun j h hj=>?_⟩
   by_cases e:j=k
   ·subst e;exact ht.1 rfl
   ·exact hall2 j h (by omega)
 ·simp only [pwA,seval,-iQ0,wrapS hlt (by omega:O.length≤4611686018427387904)]
  refine⟨_,by omega,i+1,by omega,rfl,rfl,fun j hj=>?_⟩
  by_cases e:j=i
  ·subst e
   refine⟨by rw [Qb hiP];exact hv,by rw [zo hiC];exact hlen,fun t ht=>?_⟩
   rw [zo hiC]at ht ⊢
   rw [zo ht];exact hall2 t ht (by omega)
  ·exact hrow j (by omega)
end Go.Proofs
namespace Go.Grp
end Go.Grp
namespace Go.Proofs
open Go.Ab Go.Lie Go.Grp
variable {σ:PHeap} {K:PV→PHeap→Prop} {O:List Int} {P:List (List Int)} {C:List (List (List Int))} {vO vP vC vx:PV} {s:Nat} {x:List Int}
theorem QI {t:Nat} {z:Int} (hz:z=(t:Int)-1) (ht:t≤O.length) (hO:FI vO O) (szO:O.length≤1048576) (bO:∀o∈O,isP o) (hx:FI vx x) (hb:x.length≤1048576) (hk:∀b:Bool,(b=true↔ZX O t x)→K (.bool b) σ):zA Tryz.prog 37 [vO,vx,.int .i64 z] σ K:=by
 have fl:∀{A:Prop},¬A→((false=true)↔A):=fun h=>⟨fun x=>(by cases x),fun x=>absurd x h⟩
 obtain⟨wo,ao,rfl⟩:=hO;obtain⟨wx,ax,rfl⟩:=hx;subst hz;refine zR mix Tryz.func37 cf37 rfl ?_;dsimp only [if37,qD,eD,mI0,kI0,tI0,bI0,cI0,sI0,mD0,lD0,xD0,I0,G0,gm0,R0,S0];simp only [pwA,seval,-iQ0];refine iteI (fun hl=>?_) fun hl=>?_
 rotate_left
 ·exact hk _ (fl fun h=>hl (by rw [h.1.1]))
 have hl:x.length=O.length:=by omega
 refine zG (fun m vs h'=>∃i:Nat,i≤x.length∧m=x.length-i∧vs=[.fz wo ao O.length (pis O),.fz wx ax x.length (pis x),.int .i64 ((t:Int)-1),.int .i64 i]∧σ=h'∧∀j,j<i→(0≤at_ x j∧at_ x j≤at_ O j-1)∧(j<t→at_ x j=0)) x.length ?_ ?_
 ·exact⟨0,by omega,by omega,rfl,rfl,fun j hj=>by omega⟩
 rintro m vs h' ⟨i,hi,rfl,rfl,rfl,hall⟩
 simp only [pwA,seval,-iQ0];refine iteI (fun hlt=>?_) fun hge=>?_
 rotate_left
 ·refine hk _ ⟨fun _=>⟨⟨hl,fun j hj=>(hall j (by omega)).1⟩,fun y hy=>?_⟩,fun _=>rfl⟩
  rw [List.mem_take_iff_getElem]at hy
  obtain⟨j,hj,rfl⟩:=hy
  have:=(hall j (by omega)).2 (by omega)
  rwa [at_eq (by omega)]at this
 have hO':i<O.length:=by omega
 have bo:=(bO _ (List.getElem_mem hO')).bd;simp only [pwA,seval,-iQ0,hlt,hO',gi hlt,gi hO',zM,wrap64 (n:=O[i] - 1) (by omega) (by omega)]
 refine zBP ?_
 by_cases hin:0≤x[i]∧x[i]≤O[i] - 1
 rotate_left
 ·simp only [pwA,seval,-iQ0,hin]
  exact hk _ (fl fun h=>hin (by have:=h.1.2 i hlt;rwa [at_eq hlt,at_eq hO']at this))
 have next:(i<t→x[i]=0)→∃n',n'<x.length-i∧∃i':Nat,i'≤x.length∧n'=x.length-i'∧[PV.fz wo ao O.length (pis O),.fz wx ax x.length (pis x),.int .i64 ((t:Int)-1),.int .i64 ((i+1:Nat):Int)]=[.fz wo ao O.length (pis O),.fz wx ax x.length (pis x),.int .i64 ((t:Int)-1),.int .i64 i']∧∀j,j<i'→(0≤at_ x j∧at_ x j≤at_ O j-1)∧(j<t→at_ x j=0):=fun h0=>by
  refine⟨_,by omega,i+1,by omega,rfl,rfl,fun j hj=>?_⟩
  by_cases e:j=i
  ·subst e;rw [at_eq hlt,at_eq hO'];exact⟨hin,h0⟩
  ·exact hall j (by omega)
 by_cases hle:(i:Int)≤(t:Int)-1
 ·simp only [pwA,seval,-iQ0,hin,hle,hlt,gi hlt,zM]
  refine iteI (fun h0=>?_) fun h0=>?_
  ·simp only [pwA,seval,-iQ0,wrapS hlt (by omega:x.length≤4611686018427387904)]
   exact next fun _=>h0
  ·refine hk _ (fl fun h=>h0 ?_)
   exact h.2 _ (by rw [List.mem_take_iff_getElem];exact⟨i,by omega,rfl⟩)
 ·simp only [pwA,seval,-iQ0,hin,hle,hlt,wrapS hlt (by omega:x.length≤4611686018427387904)]
  exact next fun h=>absurd h (by omega)
theorem zBb (hO:FI vO O) (szO:O.length≤6) (bO:∀o∈O,isP o) (hk:∀r:Int,(r≤729↔prodL O≤729)→K (.int .i64 r) σ):zA Tryz.prog 36 [vO] σ K:=by
 obtain⟨wo,ao,rfl⟩:=hO;refine zC mix Tryz.func36 ?_
 conv=>arg 2;cbv
 refine zF rfl ?_;simp only [pwA,seval,-iQ0];refine zG (fun m vs h'=>∃(i:Nat) (r:Int),i≤O.length∧m=O.length-i∧vs=[.fz wo ao O.length (pis O),.int .i64 r,.int .i64 i]∧σ=h'∧(r=prodL (O.take i)∨(729<r∧729<prodL (O.take i)))) O.length ?_ ?_
 ·exact⟨0,1,by omega,by omega,rfl,rfl,.inl (by simp [prodL])⟩
 rintro m vs h' ⟨i,r,hi,rfl,rfl,rfl,hr⟩
 simp only [pwA,seval,-iQ0];refine iteI (fun hlt=>?_) fun hge=>?_
 rotate_left
 ·have hie:i=O.length:=by omega
  subst hie;rw [List.take_length]at hr
  exact hk _ (by omega)
 have bt:∀o∈O.take i,isP o:=fun o ho=>bO o (List.mem_of_mem_take ho)
 have h1:=Z9 bt;have hp:=bO _ (List.getElem_mem hlt);have hpb:=hp.bd;have hs:=QF hlt;refine iteI (fun hle=>?_) fun hgt=>?_
 ·have hre:r=prodL (O.take i):=by omega
  subst hre;have hm1:0≤prodL (O.take i)*O[i]:=Int.mul_nonneg (by omega) (by omega)
  have hm2:=Int.mul_le_mul hle hpb.2 (by omega) (by omega)
  simp only [pwA,seval,-iQ0,hlt,gi hlt,zM,wrap64 (n:=prodL (O.take i)*O[i]) (by omega) (by omega),wrapS hlt (by omega:O.length≤4611686018427387904)]
  exact⟨_,by omega,i+1,_,by omega,rfl,rfl,.inl hs.symm⟩
 ·simp only [pwA,seval,-iQ0,wrapS hlt (by omega:O.length≤4611686018427387904)]
  refine⟨_,by omega,i+1,_,by omega,rfl,rfl,.inr ⟨by omega,?_⟩⟩
  have hm2:=Int.mul_le_mul (Int.le_refl (prodL (O.take i))) hpb.1 (by omega) (by omega)
  omega
theorem zm (hR:IsPr vO vP vC O P C) (sz:SzP O P C) (hk:∀t:Bool,(t=true↔zQ O P C)→K (.bool t) σ):zA Tryz.prog 10 [.agg [vO,vP,vC]] σ K:=by
 have hFO:=hR.O;have szP:=sz.P;have szC:=sz.C;obtain⟨⟨w0,a0,rfl⟩,⟨w1,a1,rP,rfl,hP⟩,⟨w3,a3,rC,rfl,hC⟩⟩:=hR;refine zA.gh ?_;have fin:∀{t:Bool} {σ':PHeap},(t=true↔zQ O P C)→Keep σ σ'→Gh σ K (.bool t) σ':=fun h k=>Gh.fin0 k trivial (hk _ h)
 have no:∀{σ':PHeap},¬zQ O P C→Keep σ σ'→Gh σ K (.bool false) σ':=fun h k=>fin ⟨fun x=>(by cases x),fun x=>absurd x h⟩ k
 have hkp:=zB σ [.fz w0 a0 O.length (pis O),.fz w1 a1 P.length rP,.fz w3 a3 C.length rC];refine zR mix Tryz.func10 cf10 rfl ?_;dsimp only [if10,eI,qD,eD,mI0,kI0,tI0,lI0,fI0,xI0,bI0,cI0,nI0,sI0,C1,mD0,lD0,fD0,xD0,I0,G0,gm0,oI0,R0,S0];simp only [pwA,seval,-iQ0]
 by_cases h6:O.length≤6
 rotate_left
 ·have h6':(6:Int)<(O.length:Int):=by omega
  simp only [pwA,seval,-iQ0,h6'];exact no (fun h=>h6 h.1) hkp
 have h6':¬(6:Int)<(O.length:Int):=by omega
 by_cases hPl:P.length=O.length
 rotate_left
 ·have hPl':¬(P.length:Int)=(O.length:Int):=by omega
  simp only [pwA,seval,-iQ0,h6',hPl'];exact no (fun h=>hPl h.2.1) hkp
 have hPl':(P.length:Int)=(O.length:Int):=by omega
 by_cases hCl:C.length=O.length
 rotate_left
 ·have hCl':¬(C.length:Int)=(O.length:Int):=by omega
  simp only [pwA,seval,-iQ0,h6',eq_true hPl',hCl'];exact no (fun h=>hCl h.2.2.1) hkp
 have hCl':(C.length:Int)=(O.length:Int):=by omega
 simp only [pwA,seval,-iQ0,h6',eq_true hPl',eq_true hCl'];refine zG (fun m vs h'=>∃i:Nat,i≤O.length∧m=O.length-i∧vs=[.ptr σ.next 0,.int .i64 O.length,.int .i64 i]∧h'=σ.new [.fz w0 a0 O.length (pis O),.fz w1 a1 P.length rP,.fz w3 a3 C.length rC]∧(∀o∈O.take i,isP o)) O.length ?_ ?_
 ·exact⟨0,by omega,by omega,rfl,rfl,by simp⟩
 rintro m vs h' ⟨i,hi,rfl,rfl,rfl,hall⟩
 simp only [pwA,seval,-iQ0];refine iteI (fun hlt=>?_) fun hge=>?_
 ·simp only [pwA,seval,-iQ0,hlt,gi hlt,zM]
  refine zAq ?_
  by_cases hp:isP O[i]
  rotate_left
  ·simp only [pwA,seval,-iQ0,hp]
   exact no (fun h=>hp (h.2.2.2.1 _ (List.getElem_mem hlt))) hkp
  simp only [pwA,seval,-iQ0,hp,wrapS hlt (by omega:O.length≤4611686018427387904)]
  exact⟨_,by omega,i+1,by omega,rfl,rfl,zB3 hlt hall hp⟩
 have hie:i=O.length:=by omega
 subst hie;rw [List.take_length]at hall
 simp only [pwA,seval,-iQ0];refine zBb hFO h6 hall fun r hr=>?_
 by_cases hpr:prodL O≤729
 rotate_left
 ·have:(729:Int)<r:=by omega
  simp only [pwA,seval,-iQ0,this];exact no (fun h=>hpr h.2.2.2.2.1) hkp
 have:¬(729:Int)<r:=by omega
 simp only [pwA,seval,-iQ0,this];refine zG (fun m vs h'=>∃i:Nat,i≤O.length∧m=O.length-i∧vs=[.ptr σ.next 0,.int .i64 O.length,.int .i64 i]∧h'=σ.new [.fz w0 a0 O.length (pis O),.fz w1 a1 P.length rP,.fz w3 a3 C.length rC]∧∀j,j<i→rowPr O P C j) O.length ?_ ?_
 ·exact⟨0,by omega,by omega,rfl,rfl,fun j hj=>by omega⟩
 rintro m vs h' ⟨i,hi,rfl,rfl,rfl,hrow⟩
 simp only [pwA,seval,-iQ0];refine iteI (fun hlt=>?_) fun hge=>?_
 rotate_left
 ·exact fin ⟨fun _=>⟨h6,hPl,hCl,hall,hpr,fun j hj=>hrow j (by omega)⟩,fun _=>rfl⟩ hkp
 have hiP:i<P.length:=by omega
 have hiC:i<C.length:=by omega
 obtain⟨w4,a4,hr⟩:=hP.rowI hiP;obtain⟨w5,a5,rs,hrb,hrs⟩:=hC.rowL hiC;have hwl:=szP.r _ (List.getElem_mem hiP);have hbl:=(szC.r _ (List.getElem_mem hiC)).l;have bad:(ZX O (i+1) P[i]→C[i].length=O.length-1-i→(∀k (h:k<C[i].length),ZX O (i+1) C[i][k])→False)→¬zQ O P C:=fun hb hsh=>by
  obtain⟨q1,q3,q4⟩:=hsh.2.2.2.2.2 i hlt;rw [Qb hiP]at q1
  rw [zo hiC]at q3
  refine hb q1 q3 fun k h=>?_
  have:=q4 k (by rw [zo hiC];exact h)
  rwa [zo hiC,zo h]at this
 simp only [pwA,seval,-iQ0,hiP,hr];refine QI (t:=i+1) (by omega) (by omega) hFO sz.O hall ⟨_,_,rfl⟩ hwl fun t ht=>?_
 cases t with
 | false=>
  simp only [pwA,seval,-iQ0];exact no (bad fun q _ _=>by cases ht.2 q) hkp
 | true=>
 have hv:=ht.1 rfl;have e1:IntKind.i64.wrap ((O.length:Int)-1)=(O.length:Int)-1:=wrap64 (by omega) (by omega)
 have e2:IntKind.i64.wrap ((O.length:Int)-1-(i:Int))=(O.length:Int)-1-(i:Int):=wrap64 (by omega) (by omega)
 by_cases hlen:C[i].length=O.length-1-i
 rotate_left
 ·have hlen':¬(C[i].length:Int)=(O.length:Int)-1-(i:Int):=by omega
  simp only [pwA,seval,-iQ0,hlt,hiC,hrb,e1,e2,hlen'];exact no (bad fun _ q _=>hlen q) hkp
 have hlen':(C[i].length:Int)=(O.length:Int)-1-(i:Int):=by omega
 simp only [pwA,seval,-iQ0,hlt,hiC,hrb,e1,e2,eq_true hlen'];refine zG (fun m vs h'=>∃k:Nat,k≤C[i].length∧m=C[i].length-k∧vs=[.ptr σ.next 0,.int .i64 O.length,.int .i64 i,.int .i64 k]∧
  h'=σ.new [.fz w0 a0 O.length (pis O),.fz w1 a1 P.length rP,.fz w3 a3 C.length rC]∧∀j (h:j<C[i].length),j<k→ZX O (i+1) C[i][j]) C[i].length ?_ ?_
 ·exact⟨0,by omega,by omega,rfl,rfl,fun j h hj=>by omega⟩
 rintro m vs h' ⟨k,hk',rfl,rfl,rfl,hall2⟩
 simp only [pwA,seval,-iQ0,hiC,hrb];refine iteI (fun hlt2=>?_) fun hge=>?_
 ·obtain⟨w6,a6,hrk⟩:=hrs.rowI hlt2
  have hcl:=(szC.r _ (List.getElem_mem hiC)).r _ (List.getElem_mem hlt2);simp only [pwA,seval,-iQ0,hiC,hrb,hlt2,hrk];refine QI (t:=i+1) (by omega) (by omega) hFO sz.O hall ⟨_,_,rfl⟩ hcl fun t ht=>?_
  cases t with
  | false=>
   simp only [pwA,seval,-iQ0];exact no (bad fun _ _ q=>by cases ht.2 (q k hlt2)) hkp
  | true=>
   simp only [pwA,seval,-iQ0,wrapS hlt2 (by omega:C[i].length≤4611686018427387904)]
   refine⟨_,by omega,k+1,by omega,rfl,rfl,fun j h hj=>?_⟩
   by_cases e:j=k
   ·subst e;exact ht.1 rfl
   ·exact hall2 j h (by omega)
 ·simp only [pwA,seval,-iQ0,wrapS hlt (by omega:O.length≤4611686018427387904)]
  refine⟨_,by omega,i+1,by omega,rfl,rfl,fun j hj=>?_⟩
  by_cases e:j=i
  ·subst e
   refine⟨by rw [Qb hiP];exact hv,by rw [zo hiC];exact hlen,fun t ht=>?_⟩
   rw [zo hiC]at ht ⊢
   rw [zo ht];exact hall2 t ht (by omega)
  ·exact hrow j (by omega)
end Go.Proofs
