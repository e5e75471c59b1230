/- . -/
import Derived.Test.YtnfnaniemocleaaGreatEAbCode
import Derived.Test.YtnfnaniemocleaaGreatChecked
open Int renaming reduceNatCast'->ae
set_option maxRecDepth 100000
set_option linter.unusedVariables false
set_option linter.unusedSimpArgs false
namespace Go.Im
section
class IMod (M:Type) extends Zero M,Add M,Neg M,Sub M,SMul Int M where
 add_zero:∀a:M,a+0=a
 add_comm:∀a b:M,a+b=b+a
 add_assoc:∀a b c:M,a+b+c=a+(b+c)
 neg_add_cancel:∀a:M,-a+a=0
 sub_eq_add_neg:∀a b:M,a-b=a + -b
 zero_zsmul:∀a:M,(0:Int) • a=0
 one_zsmul:∀a:M,(1:Int) • a=a
 add_zsmul:∀(j k:Int) (a:M),(j+k) • a=j • a+k • a
variable{M:Type}[IMod M]
theorem zero_zsmul(a:M):(0:Int) • a=0:=IMod.zero_zsmul a
theorem one_zsmul(a:M):(1:Int) • a=a:=IMod.one_zsmul a
theorem add_zsmul(j k:Int)(a:M):(j+k) • a=j • a+k • a:=IMod.add_zsmul j k a
theorem zadd(a:M):0+a=a:=by rw[IMod.add_comm,IMod.add_zero]
theorem acan{a b c:M}(h:a+b=a+c):b=c:=by
 have l:-a+a+b=-a+a+c:=by rw[IMod.add_assoc,IMod.add_assoc,h]
 rwa[IMod.neg_add_cancel,zadd,zadd]at l
theorem aneg(a:M):a + -a=0:=by rw[IMod.add_comm,IMod.neg_add_cancel]
theorem aswap(a b c d:M):a+b+(c+d)=a+c+(b+d):=by
 rw[IMod.add_assoc,IMod.add_assoc,<-IMod.add_assoc b,<-IMod.add_assoc c,IMod.add_comm b c]
theorem zIs{a b:M}(h:a+b=0):b=-a:=acan (a:=a) (by rw[h,aneg])
theorem neg_zsmul(n:Int)(a:M):(-n) • a=- (n • a):=zIs (by rw[<-add_zsmul,Int.add_right_neg,zero_zsmul])
theorem zQI(a b:M):-(a+b)=-a + -b:=(zIs (by rw[aswap,aneg,aneg,zadd])).symm
theorem zsmul_add(n:Int)(a b:M):n • (a+b)=n • a+n • b:=by
 have nat:∀n:Nat,(n:Int) • (a+b)=(n:Int) • a+(n:Int) • b:=λn=>by
  induction n with
  |zero=>show(0:Int) • (a+b)=(0:Int) • a+(0:Int) • b;rw[zero_zsmul,zero_zsmul,zero_zsmul,zadd]
  |succ n ih=>rw[Ub,add_zsmul,add_zsmul,add_zsmul,ih,one_zsmul,one_zsmul,one_zsmul,aswap]
 rcases Int.eq_nat_or_neg n with ⟨m,rfl|rfl⟩
 .exact nat m
 .rw[neg_zsmul,neg_zsmul,neg_zsmul,nat,zQI]
theorem zsmul_zero(n:Int):n • (0:M)=0:=by
 have h:=zsmul_add n (0:M) 0;rw[zadd]at h;exact(acan (h.symm.trans (IMod.add_zero _).symm))
theorem zsmul_neg(n:Int)(a:M):n • (-a)=- (n • a):=zIs (by rw[<-zsmul_add,aneg,zsmul_zero])
theorem mul_zsmul(n m:Int)(a:M):(n*m) • a=n • (m • a):=by
 have nat:∀n:Nat,((n:Int)*m) • a=(n:Int) • (m • a):=λn=>by
  induction n with
  |zero=>show((0:Int)*m) • a=(0:Int) • m • a;rw[UR,zero_zsmul,zero_zsmul]
  |succ n ih=>rw[Ub,Uv,add_zsmul,add_zsmul,ih,Uf,one_zsmul]
 rcases Int.eq_nat_or_neg n with ⟨k,rfl|rfl⟩
 .exact nat k
 .rw[Ux,neg_zsmul,neg_zsmul,nat]
inductive Tm where
 |z
 |v (i:Nat)
 |add (a b:Tm)
 |sub (a b:Tm)
 |neg (a:Tm)
 |mul (k:Int) (a:Tm)
def Tm.co(i:Nat):Tm->Int
 |z=>0
 |v j=>if j=i then 1 else 0
 |add a b=>a.co i+b.co i
 |sub a b=>a.co i-b.co i
 |neg a=>- a.co i
 |mul k a=>k*a.co i
def Tm.den(c:List M):Tm->M
 |z=>0
 |v j=>c.getD j 0
 |add a b=>a.den c+b.den c
 |sub a b=>a.den c-b.den c
 |neg a=>- a.den c
 |mul k a=>k • a.den c
def csum:List M->Nat->(Nat->Int)->M
 |[],_,_=>0
 |a::c,i,f=>f i • a+csum c (i+1) f
theorem zFV:∀(c:List M) (i:Nat) (f g:Nat->Int),csum c i (λk=>f k+g k)=csum c i f+csum c i g
 |[],_,_,_=>(zadd 0).symm
 |a::c,i,f,g=>by simp only[csum];rw[zFV c,add_zsmul,aswap]
theorem zC4(n:Int):∀(c:List M) (i:Nat) (f:Nat->Int),csum c i (λk=>n*f k)=n • csum c i f
 |[],_,_=>(zsmul_zero n).symm
 |a::c,i,f=>by simp only[csum];rw[zC4 n c,mul_zsmul,zsmul_add]
theorem zB8:∀(c:List M) (i:Nat) {f g:Nat->Int},(∀k,k<c.length->f (i+k)=g (i+k))->csum c i f=csum c i g
 |[],_,_,_,_=>rfl
 |a::c,i,f,g,h=>by
  have e:csum c (i+1) f=csum c (i+1) g:=zB8 c (i+1) λk l=>by
   have:=h (k+1) (by simp only[YS];omega)
   rwa[show i+(k+1)=i+1+k by omega]at this
  simp only[csum];rw[e,show f i=g i from h 0 (by simp only[YS];omega)]
theorem zDv:∀(c:List M) (i:Nat) {f:Nat->Int},(∀k,i<=k->f k=0)->csum c i f=0
 |[],_,_,_=>rfl
 |a::c,i,f,h=>by
  simp only[csum];rw[zDv c (i+1) λk l=>h k (by omega),h i (na _),zero_zsmul,zadd]
theorem zIz:∀(c:List M) (i j:Nat),csum c i (λk=>if i+j=k then 1 else 0)=c.getD j 0
 |[],_,_=>by simp only[csum];rfl
 |a::c,i,0=>by
  simp only[csum];rw[zDv c (i+1) λk l=>if_neg (by omega),if_pos (by omega),one_zsmul,IMod.add_zero];rfl
 |a::c,i,j+1=>by
  have h:=zIz c (i+1) j;rw[show i+1+j=i+(j+1) by omega]at h;simp only[csum];rw[h,if_neg (by omega),zero_zsmul,zadd];rfl
theorem Tm.den_csum(c:List M):∀t:Tm,t.den c=csum c 0 λk=>t.co k
 |z=>(zDv c 0 λk _=>rfl).symm
 |v j=>by
  have h:=zIz c 0 j;rw[Y5]at h;exact h.symm
 |add a b=>by simp only[den,co];rw[zFV,den_csum c a,den_csum c b]
 |sub a b=>by
  simp only[den,co];rw[IMod.sub_eq_add_neg,den_csum c a,den_csum c b,<-one_zsmul (csum c 0 λk=>b.co k),<-neg_zsmul,<-zC4,<-zFV];exact zB8 c 0 λk _=>by omega
 |neg a=>by
  simp only[den,co];rw[den_csum c a,<-one_zsmul (csum c 0 λk=>a.co k),<-neg_zsmul,<-zC4];exact zB8 c 0 λk _=>by omega
 |mul k a=>by simp only[den,co];rw[zC4,den_csum c a]
def mchk(n:Nat)(s t:Tm):Bool:=(List.range n).all λi=>decide (s.co i=t.co i)
theorem zN3{c:List M}{s t:Tm}(h:mchk c.length s t=true):s.den c=t.den c:=by
 rw[s.den_csum,t.den_csum];exact zB8 c 0 λk l=>by
  have:=List.all_eq_true.1 h k (UC.2 l)
  rw[Y5];exact of_decide_eq_true this
class Ato (c:List M) (a:M) (i:outParam Nat):Prop where
 h:c.getD i 0=a
instance Ato.hd (c:List M) (a:M):Ato (a::c) a 0:=⟨rfl⟩
instance Ato.tl (c:List M) (a b:M) (i:Nat) [x:Ato c a i]:Ato (b::c) a (i+1):=⟨x.h⟩
class Dn (c:List M) (a:M) (s:outParam Tm):Prop where
 h:s.den c=a
instance Dn.at (c:List M) (a:M) (i:Nat) [x:Ato c a i]:Dn c a (.v i):=⟨x.h⟩
instance Dn.ze (c:List M):Dn c 0 .z:=⟨rfl⟩
instance Dn.ad (c:List M) (a b:M) (s t:Tm) [x:Dn c a s] [y:Dn c b t]:Dn c (a+b) (.add s t):=⟨by simp only[Tm.den,x.h,y.h]⟩
instance Dn.su (c:List M) (a b:M) (s t:Tm) [x:Dn c a s] [y:Dn c b t]:Dn c (a-b) (.sub s t):=⟨by simp only[Tm.den,x.h,y.h]⟩
instance Dn.ne (c:List M) (a:M) (s:Tm) [x:Dn c a s]:Dn c (-a) (.neg s):=⟨by simp only[Tm.den,x.h]⟩
instance Dn.mu (c:List M) (k:Int) (a:M) (s:Tm) [x:Dn c a s]:Dn c (k • a) (.mul k s):=⟨by simp only[Tm.den,x.h]⟩
theorem mlin(c:List M){a b:M}{s t:Tm}[x:Dn c a s][y:Dn c b t](h:mchk c.length s t=true:=by rfl):a=b:=by
 rw[<-x.h,<-y.h];exact zN3 h
theorem mlinh(c:List M){a b u w:M}{s t A t':Tm}(e:u=w)[x:Dn c a s][y:Dn c b t][x':Dn c u A][y':Dn c w t'](h:mchk c.length (.add A t) (.add t' s)=true:=by rfl):a=b:=by
 have l:u+b=w+a:=by
  have:=zN3 (M:=M) h
  simp only[Tm.den,x.h,y.h,x'.h,y'.h]at this;exact this
 rw[e]at l;exact(acan l).symm
theorem mad{a b c d:M}(h:a=b)(g:c=d):a+c=b+d:=by rw[h,g]
theorem mms(k:Int){a b:M}(h:a=b):k • a=k • b:=by rw[h]
end
end Go.Im
namespace Go.Proofs
open Go.Ab
variable{σ:PHeap}{K:PV->PHeap->Prop}
section
def mI0(d s:Nat):II:=⟨some d,.mv (.t s),true,none⟩
def kI0(d:Nat)(k:Int):II:=⟨some d,.mv (.c (.int .i64 k)),true,none⟩
def tI0(d:Nat)(k:Bool):II:=⟨some d,.mv (.c (.bool k)),true,none⟩
def lI0(d s:Nat):II:=⟨some d,.load false 1 (.t s),true,none⟩
def LI0(d s:Nat):II:=⟨some d,.load true 3 (.t s),true,none⟩
def fI0(d o s:Nat):II:=⟨some d,.fieldAddr o (.t s),true,none⟩
def xI0(d a i:Nat):II:=⟨some d,.indexAddr 1 (.t a) (.t i),true,none⟩
def bI0(d:Nat)(o:BinOp)(a b:Nat):II:=⟨some d,.bin o .other (.t a) (.t b),true,none⟩
def cI0(d:Nat)(o:BinOp)(a:Nat)(k:Int):II:=⟨some d,.bin o .other (.t a) (.c (.int .i64 k)),true,none⟩
def nI0(d s:Nat):II:=⟨some d,.un .not (.t s),true,none⟩
def sI0(d s:Nat):II:=⟨some d,.len (.t s),true,none⟩
def pI0(d s:Nat):II:=⟨some d,.nilCheck (.t s),true,none⟩
def eI0(d s i:Nat):II:=⟨some d,.extract (.t s) i,true,none⟩
def C0(d f:Nat):II:=⟨some d,.call f [],false,none⟩
def C1(d f a:Nat):II:=⟨some d,.call f [.t a],false,none⟩
def C2(d f a b:Nat):II:=⟨some d,.call f [.t a,.t b],false,none⟩
def C3(d f a b c:Nat):II:=⟨some d,.call f [.t a,.t b,.t c],false,none⟩
def mD0(d s n:Nat):DI:=⟨⟨some d,.mv (.t s),true,none⟩,n,[]⟩
def lD0(d s n:Nat):DI:=⟨⟨some d,.load false 1 (.t s),true,none⟩,n,[]⟩
def fD0(d o s n:Nat):DI:=⟨⟨some d,.fieldAddr o (.t s),true,none⟩,n,[]⟩
def xD0(d a i n:Nat):DI:=⟨⟨some d,.indexAddr 1 (.t a) (.t i),true,none⟩,n,[]⟩
def pD0(d s n:Nat):DI:=⟨⟨some d,.nilCheck (.t s),true,none⟩,n,[]⟩
def I0(k:Int):IX:=.c (.int .i64 k)
def G0(d:Nat)(o:IOp)(q:Bool)(t:Nat)(b:Bool):II:=⟨some d,o,q,some (t,b)⟩
def gm0(d s t:Nat)(b:Bool):II:=⟨some d,.mv (.t s),true,some (t,b)⟩
def oI0(d a b:Nat):II:=⟨some d,.pick (.t a) (.c (.bool true)) (.t b),true,none⟩
def aI0(d a b:Nat):II:=⟨some d,.pick (.t a) (.t b) (.c (.bool false)),true,none⟩
def zI0(d:Nat):II:=⟨some d,.mv (.c .nils),true,none⟩
def yI0(d a:Nat)(k:Int):II:=⟨some d,.indexAddr 1 (.t a) (.c (.int .i64 k)),true,none⟩
def vI0(n a b:Nat):II:=⟨none,.store n (.t a) (.t b),false,none⟩
def wD0(n a b i:Nat):DI:=⟨⟨none,.store n (.t a) (.t b),false,none⟩,i,[]⟩
def R0(l:List Nat)(i:List II):IC:=.region l i
def S0(a b:IC):IC:=.seq a b
open Tryz
theorem mix:Tryz.prog.follows .mixedOrders=true:=by kernel_rfl
def if195:IFn:=⟨[0,1],[(.cell 4 true 3)],(S0 (R0 [0,3,4] [eI 3 (.box (.t 1)),eI 4 (.alloc [.nils,.nils,.nils])])
 (S0 (R0 [0,4,5] [LI0 6 3,C1 7 196 6,eI 5 (.alloc [.nils,.nils,.nils]),vI0 3 5 7])
 (S0 (.seq (R0 [0,4,5,9] [mI0 8 0,eI 9 (.call 110 [(.t 8),(I0 6)])])
 (.block 0 (S0 (R0 [0,4,5,9,17] [cI0 18 .eql 9 0,mI0 17 18])
 (.cond (.t 17) (R0 [4,5] [fI0 19 0 5,lI0 20 19,eI 21 (.buildSl 1 1 [(.int .i64 0)] [(0,1,(I0 2))]),eI 22 (.append 1 8 (.t 20) (.t 21)),fI0 23 0 5,vI0 1 23 22]) (S0 (R0 [0,4,5,9,24] [cI0 25 .eql 9 1,mI0 24 25])
 (.cond (.t 24) (S0 (R0 [0,4,5,29] [fI0 26 0 5,lI0 27 26,sI0 28 27,cI0 29 .gtr 28 0])
 (.cond (.t 29) (.draw [4,5] [] [fD0 30 0 5 0,lD0 31 30 1,mD0 32 0 2,eD 33 (.buildSl 1 5 [(.int .i64 0)] [(0,1,(I0 4)),(1,1,(I0 1)),(2,1,(I0 11)),(3,1,(I0 0)),(4,1,(I0 (-2)))]) 3 [1],eD 34 (.call 133 [(.t 32),(.t 33)]) 4 [1],qD 35 (.indexAddr 1 (.t 31) (I0 0)) 5,wD0 1 35 34 6]) .skip)) (S0 (R0 [0,4,5,9,36] [cI0 37 .eql 9 2,mI0 36 37])
 (.cond (.t 36) (S0 (R0 [4,5,41] [fI0 38 1 5,lI0 39 38,sI0 40 39,cI0 41 .gtr 40 0])
 (.cond (.t 41) (.draw [4,5] [[(.int .i64 0)]] [fD0 42 1 5 0,lD0 43 42 1,fD0 44 1 5 2,lD0 45 44 3,qD 46 (.indexAddr 1 (.t 45) (I0 0)) 4,lD0 47 46 5,qD 49 (.revS 0 1) 7,eD 48 (.call 206 [(.t 47)]) 6 [1],eD 50 (.append 1 8 (.t 48) (.t 49)) 8 [1],qD 51 (.indexAddr 1 (.t 43) (I0 0)) 9,wD0 1 51 50 10]) .skip)) (S0 (R0 [0,4,5,9,52] [cI0 53 .eql 9 3,mI0 52 53])
 (.cond (.t 52) (S0 (R0 [4,5,65] [fI0 54 1 5,lI0 55 54,sI0 56 55,cI0 57 .gtr 56 0,mI0 58 57,G0 59 (.fieldAddr 1 (.t 5)) true 58 true,G0 60 (.load false 1 (.t 59)) true 58 true,G0 61 (.indexAddr 1 (.t 60) (I0 0)) true 58 true,G0 62 (.load false 1 (.t 61)) true 58 true,G0 63 (.len (.t 62)) true 58 true,G0 64 (.bin .gtr .other (.t 63) (I0 0)) true 58 true,aI0 65 58 64])
 (.cond (.t 65) (R0 [4,5] [fI0 66 1 5,lI0 67 66,yI0 68 67 0,lI0 69 68,yI0 70 69 0,nI (.store 1 (.t 70) (I0 1))]) .skip)) (S0 (R0 [0,4,5,71] [cI0 72 .eql 9 4,mI0 71 72])
 (.cond (.t 71) (S0 (R0 [4,5,76] [fI0 73 2 5,lI0 74 73,sI0 75 74,cI0 76 .gtr 75 0])
 (.cond (.t 76) (.tree [4,5] (.q (fD0 77 2 5 0) (.q (lD0 78 77 1) (.q (fD0 79 2 5 2) (.q (lD0 80 79 3) (.q (qD 81 (.indexAddr 1 (.t 80) (I0 0)) 4) (.q (lD0 82 81 5) (.q (fD0 84 0 5 7) (.q (lD0 85 84 8) (.q (qD 86 (.len (.t 85)) 9) (.e (eD 83 (.call 234 [(.t 82)]) 6 [1,8]) (.e (eD 87 (.makeSl 1 8 [(.int .i64 0)] (.t 86) (.t 86)) 10 [1,3,5]) (.e (eD 88 (.buildSl 1 1 [.nils] [(0,1,(.t 87))]) 11 [1,3,5]) (.e (eD 89 (.append 1 24 (.t 83) (.t 88)) 12 [1]) (.q (qD 90 (.indexAddr 1 (.t 78) (I0 0)) 13) (.e (wD0 1 90 89 14) .done .none)) .none) .none) .none) (.e (eD 87 (.makeSl 1 8 [(.int .i64 0)] (.t 86) (.t 86)) 10 [1,3,5]) (.e (eD 83 (.call 234 [(.t 82)]) 6 [1,8]) (.e (eD 88 (.buildSl 1 1 [.nils] [(0,1,(.t 87))]) 11 [1,3,5]) (.e (eD 89 (.append 1 24 (.t 83) (.t 88)) 12 [1]) (.q (qD 90 (.indexAddr 1 (.t 78) (I0 0)) 13) (.e (wD0 1 90 89 14) .done .none)) .none) .none) (.e (eD 88 (.buildSl 1 1 [.nils] [(0,1,(.t 87))]) 11 [1,3,5]) (.e (eD 83 (.call 234 [(.t 82)]) 6 [1,8]) (.e (eD 89 (.append 1 24 (.t 83) (.t 88)) 12 [1]) (.q (qD 90 (.indexAddr 1 (.t 78) (I0 0)) 13) (.e (wD0 1 90 89 14) .done .none)) .none) .none) .none)) .none)))))))))))) .skip)) (S0 (R0 [0,4,5] [eI 10 (.buildSl 1 4 [(.int .i64 0)] [(0,1,(I0 7)),(1,1,(I0 7)),(2,1,(I0 7)),(3,1,(I0 7))]),C1 11 197 10,vI0 3 5 11])
 (S0 (R0 [4,5,14] [mI0 12 0,eI 13 (.call 110 [(.t 12),(I0 2)]),cI0 14 .eql 13 0])
 (.cond (.t 14) (R0 [4,5] [eI 15 (.buildSl 1 7 [(.int .i64 0)] [(0,1,(I0 2)),(1,1,(I0 2)),(2,1,(I0 2)),(3,1,(I0 2)),(4,1,(I0 2)),(5,1,(I0 2)),(6,1,(I0 2))]),C1 16 197 15,vI0 3 5 16]) .skip)))))))))))))))
 (S0 (R0 [4] [LI0 91 5,vI0 3 4 91])
 .ret))))⟩
theorem cf195:cF prog f195=some if195:=by kernel_rfl
def if279:IFn:=⟨[0],[(.tmp 2)],(S0 (R0 [0] [qI 2 (.mv (.c (.str [])))])
 (S0 (.seq (R0 [0,4] [mI0 3 0,cI0 4 .lss 3 10])
 (.cond (.t 4) (S0 (R0 [2] [mI0 5 0,qI 6 (.bin .add .other (I0 48) (.t 5)),qI 7 (.conv .u8 (.t 6)),eI 8 (.buildSl 1 1 [(.int .u8 0)] [(0,1,(.t 7))]),eI 9 (.strOf (.t 8)),mI0 2 9])
 .ret) .skip))
 (S0 (.tree [2] (.q (mD0 10 0 0) (.q (qD 11 (.bin .quo .other (.t 10) (I0 10)) 1) (.q (mD0 13 0 3) (.q (qD 14 (.bin .rem .other (.t 13) (I0 10)) 4) (.q (qD 15 (.bin .add .other (I0 48) (.t 14)) 5) (.q (qD 16 (.conv .u8 (.t 15)) 6) (.e (eD 12 (.call 279 [(.t 11)]) 2 []) (.e (eD 17 (.buildSl 1 1 [(.int .u8 0)] [(0,1,(.t 16))]) 7 []) (.e (eD 18 (.strOf (.t 17)) 8 []) (.q (qD 19 (.bin .add .other (.t 12) (.t 18)) 9) (.q (mD0 2 19 10) .done)) .none) .none) (.e (eD 17 (.buildSl 1 1 [(.int .u8 0)] [(0,1,(.t 16))]) 7 []) (.e (eD 12 (.call 279 [(.t 11)]) 2 []) (.e (eD 18 (.strOf (.t 17)) 8 []) (.q (qD 19 (.bin .add .other (.t 12) (.t 18)) 9) (.q (mD0 2 19 10) .done)) .none) (.e (eD 18 (.strOf (.t 17)) 8 []) (.e (eD 12 (.call 279 [(.t 11)]) 2 []) (.q (qD 19 (.bin .add .other (.t 12) (.t 18)) 9) (.q (mD0 2 19 10) .done)) .none) .none)) .none)))))))))
 .ret)))⟩
theorem cf279:cF prog f279=some if279:=by kernel_rfl
end
theorem zHD{n l u:Int}(A:K (.bool (decide (l<=n/\n<=u))) σ):zA Tryz.prog 212 [.int .i64 n,.int .i64 l,.int .i64 u] σ K:=by
 refine zD mix Tryz.func212 ?_;by_cases h:l<=n
 .simp only[Z3,seval,-ae,h];exact pke A ⟨λx=>x.2,λx=>⟨h,x⟩⟩
 .simp only[Z3,seval,-ae,h];exact pkf A (by omega)
theorem zBm{n l u:Int}(A:K (.bool (decide (l<=n/\n<=u))) σ):zA Tryz.prog 167 [.int .i64 n,.int .i64 l,.int .i64 u] σ K:=by
 refine zD mix Tryz.func167 ?_;by_cases h:l<=n
 .simp only[Z3,seval,-ae,h];exact pke A ⟨λx=>x.2,λx=>⟨h,x⟩⟩
 .simp only[Z3,seval,-ae,h];exact pkf A (by omega)
def isVec(xs:V1)(p n:Int):Prop:=(xs.length:Int)=n/\∀x∈xs,0<=x/\x<=p-1
instance (xs:V1) (p n:Int):Decidable (isVec xs p n):=by unfold isVec;infer_instance
theorem zKR{w:Bool}{a:AV}{xs:V1}{p n:Int}{l:Nat}(G:l=xs.length)(D:xs.length<=4611686018427387904)(L:0<p)(N:p<4611686018427387904)(u:K (.bool (decide (isVec xs p n))) σ):
  zA Tryz.prog 179 [.fz w a l (pis xs),.int .i64 p,.int .i64 n] σ K:=by
 subst G;refine zD mix Tryz.func179 ?_;simp only[Z3,seval,-ae];split
 .refine zF (λm vs h'=>∃i:Nat,i<=xs.length/\m=xs.length-i/\vs=[.int .i64 p,.fz w a xs.length (pis xs),.int .i64 xs.length,.int .i64 i]/\h'=σ/\∀x∈xs.take i,0<=x/\x<=p-1) xs.length ?_ ?_
  .exact⟨0,by omega,by omega,rfl,rfl,by simp⟩
  .rintro m vs h' ⟨i,J,rfl,rfl,rfl,C⟩
   simp only[Z3,seval,-ae];split
   .rename_i h;have I:IntKind.i64.wrap (p-1)=p-1:=WE;simp only[Z3,seval,-ae,h,zK,gi h,wrapS h D,I];refine zHD ?_;simp only[Z3,seval,-ae,wrapS h D];split
    .exact⟨_,by omega,i+1,by omega,rfl,rfl,Qs h C (by assumption)⟩
    .rename_i H;exact pkf u λA=>H (A.2 _ (YK h))
   .refine pkt u ⟨by assumption,zBF (by omega) C⟩
 .rename_i E;exact pkf u λA=>E A.1
theorem zFG{w:Bool}{a:AV}{xs:V1}{p:Int}{n:Nat}{l:Nat}(u:l=xs.length)(E:xs.length<=4611686018427387904)(L:0<p)(N:p<4611686018427387904)(A:K (.bool (decide (isVec xs p n))) σ):
  zA Tryz.prog 204 [.fz w a l (pis xs),.int .i64 p,.int .i64 n] σ K:=by
 subst u;refine zD mix Tryz.func204 ?_;simp only[Z3,seval,-ae];split
 .rename_i u;have u:xs.length=n:=by omega
  subst u;refine zF (λm vs h'=>∃i:Nat,i<=xs.length/\m=xs.length-i/\vs=[.fz w a xs.length (pis xs),.int .i64 p,.int .i64 xs.length,.int .i64 i]/\h'=σ/\∀x∈xs.take i,0<=x/\x<=p-1) xs.length ?_ ?_
  .exact⟨0,by omega,by omega,rfl,rfl,by simp⟩
  .rintro m vs h' ⟨i,J,rfl,rfl,rfl,D⟩
   simp only[Z3,seval,-ae];split
   .rename_i h;have I:IntKind.i64.wrap (p-1)=p-1:=WE;simp only[Z3,seval,-ae,h,zK,gi h,wrapS h E,I];refine zBm ?_;simp only[Z3,seval,-ae,wrapS h E];split
    .exact⟨_,by omega,i+1,by omega,rfl,rfl,Qs h D (by assumption)⟩
    .rename_i H;exact pkf A λC=>H (C.2 _ (YK h))
   .refine pkt A ⟨rfl,zBF (by omega) D⟩
 .rename_i G;exact pkf A λC=>G C.1
def isZ(xs:V1):Prop:=∀x∈xs,x=0
instance (xs:V1):Decidable (isZ xs):=by unfold isZ;infer_instance
theorem Zu{w:Bool}{a:AV}{xs:V1}{l:Nat}(E:l=xs.length)(D:xs.length<=4611686018427387904)(A:K (.bool (decide (isZ xs))) σ):zA Tryz.prog 155 [.fz w a l (pis xs)] σ K:=by
 subst E;refine zD mix Tryz.func155 ?_;simp only[Z3,seval,-ae];refine zF (λm vs h'=>∃i:Nat,i<=xs.length/\m=xs.length-i/\vs=[.fz w a xs.length (pis xs),.int .i64 xs.length,.int .i64 i]/\h'=σ/\∀x∈xs.take i,x=0) xs.length ?_ ?_
 .exact⟨0,by omega,by omega,rfl,rfl,by simp⟩
 .rintro m vs h' ⟨i,I,rfl,rfl,rfl,u⟩
  simp only[Z3,seval,-ae];split
  .rename_i h;simp only[Z3,seval,-ae,h,zK,gi h];split
   .rename_i C;simp only[Z3,seval,-ae,wrapS h D];exact⟨_,by omega,i+1,by omega,rfl,rfl,Qs h u C⟩
   .rename_i G;exact pkf A λH=>G (H _ (YK h))
  .refine pkt A (zBF (by omega) u)
theorem ZO{w:Bool}{a:AV}{xs:V1}{l:Nat}(E:l=xs.length)(D:xs.length<=4611686018427387904)(A:K (.bool (decide (isZ xs))) σ):zA Tryz.prog 150 [.fz w a l (pis xs)] σ K:=by
 subst E;refine zD mix Tryz.func150 ?_;simp only[Z3,seval,-ae];refine zF (λm vs h'=>∃i:Nat,i<=xs.length/\m=xs.length-i/\vs=[.fz w a xs.length (pis xs),.int .i64 i]/\h'=σ/\∀x∈xs.take i,x=0) xs.length ?_ ?_
 .exact⟨0,by omega,by omega,rfl,rfl,by simp⟩
 .rintro m vs h' ⟨i,I,rfl,rfl,rfl,u⟩
  simp only[Z3,seval,-ae];split
  .rename_i h;simp only[Z3,seval,-ae,h,zK,gi h];split
   .rename_i C;simp only[Z3,seval,-ae,wrapS h D];exact⟨_,by omega,i+1,by omega,rfl,rfl,Qs h u C⟩
   .rename_i G;exact pkf A λH=>G (H _ (YK h))
  .refine pkt A (zBF (by omega) u)
theorem zEr{w:Bool}{a:AV}{xs:V1}{k:Nat}{l:Nat}(E:l=xs.length)(D:xs.length<=4611686018427387904)(I:k<xs.length)(A:K (.bool (decide (isZ (xs.take (k+1))))) σ):zA Tryz.prog 205 [.fz w a l (pis xs),.int .i64 k] σ K:=by
 subst E;refine zD mix Tryz.func205 ?_;simp only[Z3,seval,-ae];refine zF (λm vs h'=>∃i:Nat,i<=k+1/\m=k+1-i/\vs=[.fz w a xs.length (pis xs),.int .i64 k,.int .i64 i]/\h'=σ/\∀x∈xs.take i,x=0) (k+1) ?_ ?_
 .exact⟨0,by omega,by omega,rfl,rfl,by simp⟩
 .rintro m vs h' ⟨i,J,rfl,rfl,rfl,u⟩
  simp only[Z3,seval,-ae];split
  .rename_i h;have h:i<xs.length:=by omega
   simp only[Z3,seval,-ae,h,zK,gi h];split
   .rename_i C;simp only[Z3,seval,-ae,wrapS h D];exact⟨_,by omega,i+1,by omega,rfl,rfl,Qs h u C⟩
   .rename_i G;refine pkf A λH=>G (H _ ?_);rw[UJ];exact⟨i,by omega,rfl⟩
  .have:i=k+1:=by omega
   subst this;exact pkt A u
theorem zNv{xs ys:V1}(A:xs.length=ys.length){i:Nat}(u:i<xs.length)(h:xs.take i=ys.take i)(l:xs[i]=ys[i]'(by omega)):xs.take (i+1)=ys.take (i+1):=by
 rw[YU u,YU (by omega:i<ys.length),h,l]
theorem Ql{w H:Bool}{a a':AV}{xs ys:V1}{l:Nat}{G:Nat}(h:l=xs.length)(I:G=ys.length)(L:xs.length<=4611686018427387904)(A:K (.bool (decide (xs=ys))) σ):zA Tryz.prog 146 [.fz w a l (pis xs),.fz H a' G (pis ys)] σ K:=by
 subst h;subst I;refine zD mix Tryz.func146 ?_;simp only[Z3,seval,-ae];split
 .rename_i h;have h:xs.length=ys.length:=by omega
  refine zF (λm vs h'=>∃i:Nat,i<=xs.length/\m=xs.length-i/\vs=[.fz w a xs.length (pis xs),.fz H a' ys.length (pis ys),.int .i64 i]/\h'=σ/\xs.take i=ys.take i) xs.length ?_ ?_
  .exact⟨0,by omega,by omega,rfl,rfl,by simp⟩
  .rintro m vs h' ⟨i,O,rfl,rfl,rfl,D⟩
   simp only[Z3,seval,-ae];split
   .rename_i u;have E:i<ys.length:=by omega
    simp only[Z3,seval,-ae,u,E,zK,gi u,gi E];split
    .rename_i J;simp only[Z3,seval,-ae,wrapS u L];exact⟨_,by omega,i+1,by omega,rfl,rfl,zNv h u D J⟩
    .rename_i N;refine pkf A λC=>N (by subst C;rfl)
   .refine pkt A ?_;rwa[YR (by omega),YR (by omega)]at D
 .rename_i h;exact pkf A λC=>h (by rw[C])
theorem zAo{w H:Bool}{a a':AV}{xs ys:V1}{l:Nat}{G:Nat}(h:l=xs.length)(I:G=ys.length)(L:xs.length<=4611686018427387904)(A:K (.bool (decide (xs=ys))) σ):zA Tryz.prog 188 [.fz w a l (pis xs),.fz H a' G (pis ys)] σ K:=by
 subst h;subst I;refine zD mix Tryz.func188 ?_;simp only[Z3,seval,-ae];split
 .rename_i h;have h:xs.length=ys.length:=by omega
  refine zF (λm vs h'=>∃i:Nat,i<=xs.length/\m=xs.length-i/\vs=[.fz w a xs.length (pis xs),.fz H a' ys.length (pis ys),.int .i64 xs.length,.int .i64 i]/\h'=σ/\xs.take i=ys.take i) xs.length ?_ ?_
  .exact⟨0,by omega,by omega,rfl,rfl,by simp⟩
  .rintro m vs h' ⟨i,O,rfl,rfl,rfl,D⟩
   simp only[Z3,seval,-ae];split
   .rename_i u;have E:i<ys.length:=by omega
    simp only[Z3,seval,-ae,u,E,zK,gi u,gi E];split
    .rename_i J;simp only[Z3,seval,-ae,wrapS u L];exact⟨_,by omega,i+1,by omega,rfl,rfl,zNv h u D J⟩
    .rename_i N;refine pkf A λC=>N (by subst C;rfl)
   .refine pkt A ?_;rwa[YR (by omega),YR (by omega)]at D
 .rename_i h;exact pkf A λC=>h (by rw[C])
def isP(n:Int):Prop:=n=2\/n=3\/n=5\/n=7
instance (n:Int):Decidable (isP n):=by unfold isP;infer_instance
theorem isP.bd{n:Int}(h:isP n):2<=n/\n<=7:=by unfold isP at h;omega
theorem zAt{n:Int}(h:K (.bool (decide (isP n))) σ):zA Tryz.prog 203 [.int .i64 n] σ K:=by
 refine zD mix Tryz.func203 ?_;by_cases l:n=2
 .simp only[Z3,seval,-ae,l];exact pkt h (by unfold isP;omega)
 by_cases u:n=3
 .simp only[Z3,seval,-ae,u];exact pkt h (by unfold isP;omega)
 by_cases A:n=5
 .simp only[Z3,seval,-ae,A];exact pkt h (by unfold isP;omega)
 by_cases C:n=7
 .simp only[Z3,seval,-ae,C];exact pkt h (by unfold isP;omega)
 simp only[Z3,seval,-ae,l,u,A,C];exact pkf h (by unfold isP;omega)
theorem zCE{n:Int}(h:K (.bool (decide (isP n))) σ):zA Tryz.prog 187 [.int .i64 n] σ K:=by
 refine zD mix Tryz.func187 ?_;by_cases l:n=2
 .simp only[Z3,seval,-ae,l];exact pkt h (by unfold isP;omega)
 by_cases u:n=3
 .simp only[Z3,seval,-ae,u];exact pkt h (by unfold isP;omega)
 by_cases A:n=5
 .simp only[Z3,seval,-ae,A];exact pkt h (by unfold isP;omega)
 by_cases C:n=7
 .simp only[Z3,seval,-ae,C];exact pkt h (by unfold isP;omega)
 simp only[Z3,seval,-ae,l,u,A,C];exact pkf h (by unfold isP;omega)
theorem zFh(a b:Int)(h:0<b):(if a.tmod b<0 then a.tdiv b-1 else a.tdiv b)=a / b:=by
 have l:=Int.tmod_add_mul_tdiv a b;have u:=Int.emod_add_mul_ediv a b;have A:=Ya a (by omega:b≠0);have C:=Y4 a h;have D:=Int.tmod_lt_of_pos a h;have E:=Int.lt_tmod_of_pos a h;split
 .have e1:b*(a / b-a.tdiv b+1)=a.tmod b-a % b+b:=by rw[U0,Int.mul_sub];omega
  have:a / b-a.tdiv b+1=0:=by
   rcases Int.lt_trichotomy (a / b-a.tdiv b+1) 0 with x|x|x
   .have:=Yw (show a / b-a.tdiv b+1<=-1 by omega) (show 0<=b by omega)
    rw[e1]at this;omega
   .exact x
   .have:=Yw (show 1<=a / b-a.tdiv b+1 by omega) (show 0<=b by omega)
    rw[e1]at this;omega
  omega
 .have e1:b*(a / b-a.tdiv b)=a.tmod b-a % b:=by rw[Int.mul_sub];omega
  have:a / b-a.tdiv b=0:=by
   rcases Int.lt_trichotomy (a / b-a.tdiv b) 0 with x|x|x
   .have:=Yw (show a / b-a.tdiv b<=-1 by omega) (show 0<=b by omega)
    rw[e1]at this;omega
   .exact x
   .have:=Yw (show 1<=a / b-a.tdiv b by omega) (show 0<=b by omega)
    rw[e1]at this;omega
  omega
theorem zKf{a b:Int}(A:0<b)(u:sm a):sm (a.tdiv b):=by
 have h:(a.tdiv b).natAbs=a.natAbs / b.natAbs:=Int.natAbs_tdiv a b;have l:a.natAbs / b.natAbs<=a.natAbs:=Nat.div_le_self _ _;unfold sm at *
 omega
theorem zFO{a b:Int}(u:0<b)(C:sm a)(h:K (.int .i64 (a / b)) σ):zA Tryz.prog 180 [.int .i64 a,.int .i64 b] σ K:=by
 refine zD mix Tryz.func180 ?_;have A:b≠0:=by omega
 have D:=zFh a b u;have hs:=zKf u C;unfold sm at hs;rw[<-D]at h;simp only[Z3,seval,-ae,A,wrap64 (n:=a.tdiv b) (by omega) (by omega)];split
 .rename_i l;rw[if_pos l]at h;simp only[Z3,seval,-ae,wrap64 (n:=a.tdiv b-1) (by omega) (by omega)];exact h
 .rename_i l;rw[if_neg l]at h;exact h
theorem zKP{a b:Int}(u:0<b)(C:sm a)(h:K (.int .i64 (a / b)) σ):zA Tryz.prog 221 [.int .i64 a,.int .i64 b] σ K:=by
 refine zD mix Tryz.func221 ?_;have A:b≠0:=by omega
 have D:=zFh a b u;have hs:=zKf u C;unfold sm at hs;rw[<-D]at h;simp only[Z3,seval,-ae,A,wrap64 (n:=a.tdiv b) (by omega) (by omega)];split
 .rename_i l;rw[if_pos l]at h;simp only[Z3,seval,-ae,wrap64 (n:=a.tdiv b-1) (by omega) (by omega)];exact h
 .rename_i l;rw[if_neg l]at h;exact h
theorem zHG(x p:Int)(h:0<p):(x.tmod p+p).tmod p=x % p:=by
 have l:=Int.tmod_lt_of_pos x h;have u:=Int.lt_tmod_of_pos x h;rw[Yr (by omega),Int.add_emod_right];rcases Int.le_total 0 x with h0|h0
 .rw[Yr h0,UX _ (UO p)]
 .obtain⟨y,rfl⟩:∃y,x=-y:=⟨-x,by omega⟩
  rw[Int.neg_tmod,Yr (by omega)];have e:=Int.emod_add_mul_ediv y p
  have:-y=-(y % p)+p*(-(y / p)):=by rw[Un];omega
  rw[this,Int.add_mul_emod_self_left]
theorem zA6{x p:Int}(h:0<p)(E:p<4611686018427387904)(A:K (.int .i64 (x % p)) σ):zA Tryz.prog 164 [.int .i64 x,.int .i64 p] σ K:=by
 refine zD mix Tryz.func164 ?_;have l:p≠0:=by omega
 have C:=Int.tmod_lt_of_pos x h;have D:=Int.lt_tmod_of_pos x h;have hw:IntKind.i64.wrap (x.tmod p+p)=x.tmod p+p:=WE;have u:=zHG x p h;simp only[Z3,seval,-ae,l,hw,u];exact A
theorem zDk{x p:Int}(l:0<p)(E:p<4611686018427387904)(u:K (.int .i64 (x % p)) σ):zA Tryz.prog 173 [.int .i64 x,.int .i64 p] σ K:=by
 refine zD mix Tryz.func173 ?_;have A:p≠0:=by omega
 have C:=Int.tmod_lt_of_pos x l;have D:=Int.lt_tmod_of_pos x l;have h:=zHG x p l;simp only[Z3,seval,-ae,A];split
 .rw[Yr (by omega),Yc (by omega) (by omega)]at h;simp only[Z3,seval,-ae,h,wrap64 (n:=x % p) (by omega) (by omega)];exact u
 .rw[Yr (by omega),Int.add_emod_right,Yc (by omega) (by omega)]at h;rw[h];exact u
def ipow(p:Int):Nat->Int
 |0=>1
 |n+1=>ipow p n*p
theorem zKy{p:Int}(h:2<=p/\p<=7):∀{n:Nat},n<=6->1<=ipow p n/\ipow p n<=7 ^ n
 |0,_=>by simp[ipow]
 |n+1,hn=>by
  obtain⟨A,C⟩:=zKy h (n:=n) (by omega);simp only[ipow];have l:=Yw h.1 (show 0<=ipow p n by omega);have u:=Yw h.2 (show 0<=ipow p n by omega);rw[Int.pow_succ];omega
theorem zEK{p:Int}(u:2<=p/\p<=7){n:Nat}(l:n<=6):1<=ipow p n/\ipow p n<=117649:=by
 obtain⟨h,A⟩:=zKy u l;refine⟨h,?_⟩
 have:(7:Int) ^ n<=7 ^ 6:=by
  obtain rfl|rfl|rfl|rfl|rfl|rfl|rfl:n=0\/n=1\/n=2\/n=3\/n=4\/n=5\/n=6:=by omega
  all_goals decide
 have e:(7:Int) ^ 6=117649:=by decide
 omega
theorem zB5{p:Int}{n:Nat}(l:2<=p/\p<=7)(C:n<=6)(h:K (.int .i64 (ipow p n)) σ):zA Tryz.prog 80 [.int .i64 p,.int .i64 n] σ K:=by
 refine zD mix Tryz.func80 ?_;simp only[Z3,seval,-ae];refine zF (λm vs h'=>∃i:Nat,i<=n/\m=n-i/\vs=[.int .i64 p,.int .i64 (ipow p i),.int .i64 n,.int .i64 i]/\h'=σ) n ?_ ?_
 .exact⟨0,by omega,by omega,rfl,rfl⟩
 .rintro m vs h' ⟨i,A,rfl,rfl,rfl⟩
  simp only[Z3,seval,-ae];split
  .rename_i u
   have:=zEK l (n:=i+1) (by omega)
   simp only[ipow]at this;simp only[Z3,seval,-ae,wrapS (n:=n) (by omega) (by omega),wrap64 (n:=ipow p i*p) (by omega) (by omega)];exact⟨_,by omega,i+1,by omega,rfl,rfl⟩
  .have:i=n:=by omega
   subst this;exact h
theorem zF2{p:Int}{n:Nat}(u:2<=p/\p<=7)(C:n<=6)(A:∀k,(k<=729↔ipow p n<=729)->(k<=729->k=ipow p n)->1<=k->k<=117649->K (.int .i64 k) σ):zA Tryz.prog 198 [.int .i64 p,.int .i64 n] σ K:=by
 refine zD mix Tryz.func198 ?_;simp only[Z3,seval,-ae];refine zF (λm vs h'=>∃i:Nat,i<=n/\m=n-i/\vs=[.int .i64 p,.int .i64 n,.int .i64 (ipow p i),.int .i64 i]/\h'=σ) n ?_ ?_
 .exact⟨0,by omega,by omega,rfl,rfl⟩
 .rintro m vs h' ⟨i,G,rfl,rfl,rfl⟩
  have h:=zEK u (n:=i) (by omega);have mono:∀j,i<=j->j<=6->ipow p i<=ipow p j:=by
   intro j H D
   induction j with
   |zero=>
     have:i=0:=by omega
     subst this;exact UD _
   |succ j ih=>
    rcases YG i (j+1)with x|x
    .have:=ih (by omega) (by omega)
     have E:=zEK u (n:=j) (by omega)
     have:=Yw u.1 (show 0<=ipow p j by omega)
     simp only[ipow];omega
    .have:i=j+1:=by omega
     subst this;exact UD _
  by_cases l:i<n
  .by_cases hle:ipow p i<=729
   .have:=zEK u (n:=i+1) (by omega)
    simp only[ipow]at this;simp only[Z3,seval,-ae,l,hle,wrapS (n:=n) l (by omega),wrap64 (n:=ipow p i*p) (by omega) (by omega)];exact⟨_,by omega,i+1,by omega,rfl,rfl⟩
   .simp only[Z3,seval,-ae,l,hle]
    have:=mono n (by omega) C
    exact A _ ⟨λx=>by omega,λx=>by omega⟩ (λx=>by omega) h.1 h.2
  .have:i=n:=by omega
   subst this;simp only[Z3,seval,-ae,l];exact A _ Iff.rfl (λ_=>rfl) h.1 h.2
theorem qg{w:Bool}{a:AV}{xs:V1}{l:Nat}(C:l=xs.length)(D:xs.length<=4294967296)(A:∀cap,full 1 cap xs.length->K (.sl σ.next 0 xs.length cap) (σ.new (pis xs))):zA Tryz.prog 206 [.fz w a l (pis xs)] σ K:=by
 subst C;refine zA.gh ?_;refine zD mix Tryz.func206 ?_;simp only[Z3,seval,-ae];refine PSl.cat (bytes:=8) (σb:=σ) (n:=0) (cs:=[]) (zC σ _) (PSl.new _ 1 rfl (na _)) (zJ xs) (by omega) (by omega) λE h' u h=>?_;simp only[Z3,seval,-ae]at h ⊢;exact h.out u (zL _ _) A
theorem Qc{w:Bool}{a:AV}{xs:V1}{l:Nat}(D:l=xs.length)(E:xs.length<=4294967296)(u:ResI σ K xs):zA Tryz.prog 107 [.fz w a l (pis xs)] σ K:=by
 subst D;refine zA.nil0 λC=>zA.gh ?_;refine zD mix Tryz.func107 ?_;simp only[Z3,seval,-ae];cases hn:ZL a
 .simp only[Z3,seval,-ae];refine PSl.cat (bytes:=8) (σb:=σ) (n:=0) (cs:=[]) (zC σ _) (PSl.new _ 1 rfl (na _)) (zJ xs) (by omega) (by omega) λG h' A h=>?_;simp only[Z3,seval,-ae]at h ⊢;exact h.out A (zL _ _) u.2
 .simp only[Z3,seval,-ae];exact Gh.ret (u.1 (YF (C hn).1))
def unitL(n k:Nat):V1:=(List.replicate n 0).set k 1
theorem zQ(n k:Nat):(unitL n k).length=n:=by simp[unitL]
theorem zHM{n k:Nat}(u:n<=1048576)(h:k<n)(l:∀cap,full 1 cap n->K (.sl σ.next 0 n cap) (σ.new (pis (unitL n k)))):zA Tryz.prog 49 [.int .i64 n,.int .i64 k] σ K:=by
 refine zD mix Tryz.func49 ?_;simp only[Z3,seval,-ae,h,YT,zf,zJ,mk8 (n:=n) (by omega),mkL (n:=n) (by omega),UZ h];rw[zU (by simpa using h)];exact l _ (.inr rfl)
theorem zAb{s:Nat}{cap:Cap}{w:Bool}{a:AV}{xs ys:V1}{k:Int}{A:Nat}(E:A=ys.length)(hs:σ.obj s=some (pis xs))(u:xs.length<=ys.length)(N:xs.length<=4294967296)
  (C:∀i (J:i<xs.length) (L:i<ys.length),sm (k*ys[i])/\sm (xs[i] - k*ys[i])) (H:K (.tup []) (σ.set s (pis (subm k xs ys)))):
  zA Tryz.prog 108 [.sl s 0 xs.length cap,.fz w a A (pis ys),.int .i64 k] σ K:=by
 subst E;refine zD mix Tryz.func108 ?_;simp only[Z3,seval,-ae];refine zF (λm vs h'=>∃i:Nat,i<=xs.length/\m=xs.length-i/\vs=[.sl s 0 xs.length cap,.fz w a ys.length (pis ys),.int .i64 k,.int .i64 xs.length,.int .i64 i]/\h'=σ.set s (pis ((subm k xs ys).take i++xs.drop i))) xs.length ?_ ?_
 .exact⟨0,by omega,by omega,rfl,by rw[UP,List.drop_zero,Ys,zBW hs]⟩
 .rintro m vs h' ⟨i,O,rfl,rfl,rfl⟩
  simp only[Z3,seval,-ae];split
  .rename_i h;have l:i<ys.length:=by omega
   have I:=zEh (k:=k) u;have G:((subm k xs ys).take i++xs.drop i)[i]? = some xs[i]:=by
    rw[Yx (by rw[Yu];omega),Yu,Ye]
    have:i+(i-min i (subm k xs ys).length)=i:=by omega
    rw[this,gi h]
   obtain⟨b1,D⟩:=C i h l;have hlen:i+1<=((subm k xs ys).take i++xs.drop i).length:=by simp;omega
   simp only[Z3,seval,-ae,h,l,zK,zJ,gi l,G,hlen,WX h,b1.w,D.w];refine⟨_,by omega,i+1,by omega,rfl,rfl,?_⟩;rw[zU (by simp;omega)];congr 2;apply List.ext_getElem?;intro j;rcases Nat.lt_trichotomy j i with x|x|x
   .rw[List.getElem?_set_ne (by omega),Yy (by simp;omega),Yy (by simp;omega),Yd,Yd,if_pos x,if_pos (by omega)]
   .subst x;rw[List.getElem?_set_self (by omega),Yy (by simp;omega),Yd,if_pos (by omega),zOQ h l]
   .rw[List.getElem?_set_ne (by omega),Yx (by simp;omega),Yx (by simp;omega),Ye,Ye,Yu,Yu];congr 1;omega
  .have:i=xs.length:=by omega
   subst this;rw[List.drop_length,Y0,YR (by rw[zEh u];exact na _)];exact H
theorem zAG{s l h:Nat}{cap:Cap}{w:Bool}{a:AV}{xs ys:V1}{k:Int}(E:l=xs.length)(A:h=ys.length)(hs:σ.obj s=some (pis xs))(hle:xs.length<=ys.length)(C:xs.length<=4294967296)
  (u:∀i (G:i<xs.length) (H:i<ys.length),sm (k*ys[i])/\sm (xs[i] - k*ys[i])) (D:K (.tup []) (σ.set s (pis (subm k xs ys)))):
  zA Tryz.prog 108 [.sl s 0 l cap,.fz w a h (pis ys),.int .i64 k] σ K:=by
 subst E;exact zAb A hs hle C u D
theorem zCq{w h:Bool}{a:AV}{cs:List PV}{n:Nat}{k:Int}(l:K (.tup []) σ):
  zA Tryz.prog 108 [.fz h .nils 0 [],.fz w a n cs,.int .i64 k] σ K:=by
 refine zD mix Tryz.func108 ?_;simp only[Z3,seval,-ae];refine zF (λm vs h'=>m=0/\vs=[.fz h .nils 0 [],.fz w a n cs,.int .i64 k,.int .i64 (0:Nat),.int .i64 (0:Nat)]/\h'=σ) 0 ?_ ?_
 .exact⟨rfl,rfl,rfl⟩
 .rintro m vs h' ⟨rfl,rfl,rfl⟩
  simp only[Z3,seval,-ae];exact l
end Go.Proofs
namespace Go.Lie
open Go.Ab
section
def okp(p:Int):Prop:=2<=p/\p<=7
abbrev at_(v:V1)(j:Nat):Int:=v.getD j 0
theorem at_eq{v:V1}{j:Nat}(h:j<v.length):at_ v j=v[j]:=by simp[at_,YB,YQ h]
theorem at_ge{v:V1}{j:Nat}(h:v.length<=j):at_ v j=0:=by simp[at_,YB,Yq h]
theorem Zr{a b:V1}(A:a.length=b.length)(h:∀j,j<a.length->at_ a j=at_ b j):a=b:=by
 apply Uo A;intro j l u
 have:=h j l
 rwa[at_eq l,at_eq u]at this
theorem at_set{v:V1}{i:Nat}(l:i<v.length)(x:Int)(j:Nat):at_ (v.set i x) j=if j=i then x else at_ v j:=by
 simp only[at_,YB,Yi];by_cases h:i=j
 .subst h;simp[l]
 .rw[if_neg h,if_neg (λe=>h e.symm)]
theorem qF(n:Nat)(j:Nat):at_ (List.replicate n 0) j=0:=by
 simp only[at_,YB,List.getElem?_replicate];split<;>rfl
def addm(q:Int)(xs ys:V1):V1:=List.zipWith (λx y=>x+q*y) xs ys
theorem qj{q:Int}{xs ys:V1}(h:xs.length<=ys.length):(addm q xs ys).length=xs.length:=by simp[addm];omega
theorem zFY{q:Int}{xs ys:V1}{i:Nat}(h:i<xs.length)(l:i<ys.length):(addm q xs ys)[i]? = some (xs[i] + q*ys[i]):=by
 simp[addm,List.getElem?_zipWith,YQ h,YQ l]
theorem zBU{q:Int}{xs ys:V1}(h:xs.length=ys.length)(i:Nat):at_ (addm q xs ys) i=at_ xs i+q*at_ ys i:=by
 rcases YG i xs.length with x|x
 .have:=zFY (q:=q) x (h ▸ x)
  simp only[at_,YB];rw[this,YQ x,YQ (h ▸ x)];rfl
 .rw[at_ge (by rw[qj (by omega)];exact x),at_ge x,at_ge (h ▸ x)];simp
theorem zGY(k:Int)(xs ys:V1):subm k xs ys=addm (-k) xs ys:=by
 simp only[subm,addm];congr 1;funext x y;rw[Ux];omega
def lmix(k:Int)(a:V1)(m:Int)(b:V1):V1:=List.zipWith (λx y=>k*x+m*y) a b
theorem zR{k m:Int}{a b:V1}(h:a.length=b.length):(lmix k a m b).length=a.length:=by simp[lmix];omega
theorem zIT{k m:Int}{a b:V1}{i:Nat}(h:i<a.length)(l:i<b.length):(lmix k a m b)[i]? = some (k*a[i] + m*b[i]):=by
 simp[lmix,List.getElem?_zipWith,YQ h,YQ l]
theorem qK{k m:Int}{a b:V1}(h:a.length=b.length)(i:Nat):at_ (lmix k a m b) i=k*at_ a i+m*at_ b i:=by
 rcases YG i a.length with x|x
 .rw[at_eq (by rw[zR h];exact x),at_eq x,at_eq (by omega:i<b.length)]
  have:=zIT (k:=k) (m:=m) x (by omega:i<b.length)
  rw[YQ (by rw[zR h];exact x)]at this;exact Option.some.inj this
 .rw[at_ge (by rw[zR h];exact x),at_ge x,at_ge (by omega:b.length<=i)];simp
def bd(M:Int)(v:V1):Prop:=∀j,-M<=at_ v j/\at_ v j<=M
theorem bd.mono{M N:Int}{v:V1}(h:bd M v)(l:M<=N):bd N v:=λj=>by have:=h j;omega
def box(p:Int)(v:V1):Prop:=∀x∈v,0<=x/\x<=p-1
def El(p:Int)(n:Nat)(a:V1):Prop:=a.length=n/\box p a
theorem box.at{p:Int}{v:V1}(l:0<p)(h:box p v)(j:Nat):0<=at_ v j/\at_ v j<=p-1:=by
 rcases YG j v.length with x|x
 .rw[at_eq x];exact h _ (YK x)
 .rw[at_ge x];omega
structure OkW(p:Int)(n:Nat)(W:V2):Prop where
 pr:okp p
 le:n<=6
 len:W.length=n
 row:∀(i:Nat) (h:i<W.length),W[i].length=n/\box p W[i]/\∀j,j<=i->at_ W[i] j=0
variable{p:Int}{n:Nat}{W:V2}
def nstep(p:Int)(W:V2)(i:Nat)(v:V1):V1:=addm (at_ v i / p) (v.set i (at_ v i-at_ v i / p*p)) (W.getD i [])
def nrm(p:Int)(W:V2):Nat->V1->V1
 |0,v=>v
 |k+1,v=>nstep p W k (nrm p W k v)
def norm(p:Int)(W:V2)(v:V1):V1:=nrm p W W.length v
abbrev w_(W:V2)(i j:Nat):Int:=at_ (W.getD i []) j
theorem qP{i:Nat}(h:i<W.length):W.getD i []=W[i]:=by simp[YB,YQ h]
theorem OkW.zero(o:OkW p n W){i j:Nat}(h:j<=i):w_ W i j=0:=by
 rcases YG i W.length with x|x
 .rw[w_,qP x];exact(o.row i x).2.2 j h
 .simp[w_,YB,Yq x]
theorem OkW.bds(o:OkW p n W)(i j:Nat):0<=w_ W i j/\w_ W i j<=p-1:=by
 have:=o.pr.1
 rcases YG i W.length with x|x
 .rw[w_,qP x];exact(o.row i x).2.1.at (by omega) j
 .simp[w_,YB,Yq x];omega
theorem OkW.rowlen(o:OkW p n W){i:Nat}(h:i<n):(W.getD i []).length=n:=by
 rw[qP (o.len ▸ h)];exact(o.row i (o.len ▸ h)).1
theorem zIM(o:OkW p n W){i:Nat}(h:i<n){v:V1}(l:v.length=n):(nstep p W i v).length=n:=by
 rw[nstep,qj (by rw[YC,o.rowlen h];omega),YC,l]
theorem zFC(o:OkW p n W){i:Nat}(h:i<n){v:V1}(l:v.length=n)(j:Nat):at_ (nstep p W i v) j=at_ v j+at_ v i / p*(w_ W i j-if j=i then p else 0):=by
 rw[nstep,zBU (by rw[YC,o.rowlen h,l]),at_set (by omega)];split
 .rename_i e;subst e;simp only[w_];rw[Int.mul_sub];omega
 .rw[Int.sub_zero]
theorem Zw(o:OkW p n W){v:V1}(h:v.length=n):∀{k:Nat},k<=n->(nrm p W k v).length=n
 |0,_=>h
 |k+1,hk=>zIM o (by omega) (Zw o h (by omega))
theorem ZC(o:OkW p n W){v:V1}(h:v.length=n):(norm p W v).length=n:=Zw o h (UH o.len)
theorem zA0(a:Int)(l:0<p):a / p*p<=a/\a<a / p*p+p:=by
 have h:=Int.emod_add_mul_ediv a p;have u:=Ya a (by omega:p≠0);have A:=Y4 a l;rw[UB]at h;omega
theorem zQJ{q w:Int}(C:0<p)(hw:0<=w/\w<=p-1){A:Int}(u:0<=A)(D:-A<=q*p/\q*p<=A):-A<=q*w/\q*w<=A:=by
 rcases Int.le_total 0 q with h|h
 .have h1:=UY h hw.1;have l:=Yw (show w<=p by omega) h;omega
 .have h1:=Yw (show w<=p by omega) (show 0<=-q by omega);have l:=UY (show 0<=-q by omega) hw.1;rw[Ux]at l;rw[Ux,Ux]at h1;omega
theorem zE5(o:OkW p n W){M:Int}{v:V1}(h:bd M v)(i j:Nat):
  (-(M+7)<=at_ v i / p*p/\at_ v i / p*p<=M+7)/\(-(M+7)<=at_ v i / p*w_ W i j/\at_ v i / p*w_ W i j<=M+7):=by
 have u:=o.pr;unfold okp at u;have A:=zA0 (p:=p) (at_ v i) (by omega);have C:=h i;have l:-(M+7)<=at_ v i / p*p/\at_ v i / p*p<=M+7:=by omega
 exact⟨l,zQJ (by omega) (o.bds i j) (by omega) l⟩
theorem zO8(o:OkW p n W){M:Int}{i:Nat}(l:i<n){v:V1}(A:v.length=n)(h:bd M v):bd (2*M+14) (nstep p W i v):=λj=>by
 rw[zFC o l A,Int.mul_sub];have u:=o.pr;unfold okp at u;have C:=zA0 (p:=p) (at_ v i) (by omega);have D:=h i;have E:=h j;obtain⟨G,H⟩:=zE5 o h i j;split
 .rename_i e;subst e;rw[o.zero (na _),UL];omega
 .rw[UL];omega
def grow(M:Int):Nat->Int
 |0=>M
 |k+1=>2*grow M k+14
theorem zQT{M:Int}(h:0<=M){k:Nat}(l:k<=6):0<=grow M k/\grow M k<=64*M+882:=by
 obtain rfl|rfl|rfl|rfl|rfl|rfl|rfl:k=0\/k=1\/k=2\/k=3\/k=4\/k=5\/k=6:=by omega
 all_goals simp only[grow];omega
theorem zNR(o:OkW p n W){M:Int}{v:V1}(l:v.length=n)(h:bd M v):∀{k:Nat},k<=n->bd (grow M k) (nrm p W k v)
 |0,_=>h
 |k+1,hk=>zO8 o (by omega) (Zw o l (by omega)) (zNR o l h (by omega))
theorem zKt(o:OkW p n W){M:Int}(l:0<=M){v:V1}(A:v.length=n)(h:bd M v){k:Nat}(u:k<=n):bd (64*M+882) (nrm p W k v):=
 (zNR o A h u).mono (zQT l (by have:=o.le;omega)).2
def sumN:Nat->(Nat->Int)->Int
 |0,_=>0
 |n+1,f=>sumN n f+f n
theorem qL:∀{n:Nat} {f g:Nat->Int},(∀i,i<n->f i=g i)->sumN n f=sumN n g
 |0,_,_,_=>rfl
 |n+1,f,g,h=>by simp only[sumN];rw[qL (λi l=>h i (by omega)),h n (by omega)]
theorem zAd:∀(n:Nat) (f g:Nat->Int),sumN n (λi=>f i+g i)=sumN n f+sumN n g
 |0,_,_=>rfl
 |n+1,f,g=>by simp only[sumN];rw[zAd n f g];omega
theorem ZV(k:Int):∀(n:Nat) (f:Nat->Int),sumN n (λi=>k*f i)=k*sumN n f
 |0,_=>by simp[sumN]
 |n+1,f=>by simp only[sumN];rw[ZV k n f,U0]
theorem ZG:∀(n:Nat) {f:Nat->Int},(∀i,i<n->f i=0)->sumN n f=0
 |0,_,_=>rfl
 |n+1,f,h=>by simp only[sumN];rw[ZG n (λi l=>h i (by omega)),h n (by omega)];rfl
theorem QR{n k:Nat}(A:k<n){f:Nat->Int}(h:∀i,i<n->i≠k->f i=0):sumN n f=f k:=by
 induction n with
 |zero=>omega
 |succ n ih=>
  simp only[sumN];by_cases e:k=n
  .subst e;rw[ZG k (λi u=>h i (by omega) (by omega))];omega
  .rw[ih (by omega) (λi u l=>h i (by omega) l),h n (by omega) (λe'=>e e'.symm)];omega
abbrev rel(p:Int)(W:V2)(i j:Nat):Int:=w_ W i j-if j=i then p else 0
def Eqv(p:Int)(n:Nat)(W:V2)(f g:Nat->Int):Prop:=∃c:Nat->Int,∀j,f j=g j+sumN n (λi=>c i*rel p W i j)
theorem Eqv.refl(f:Nat->Int):Eqv p n W f f:=⟨λ_=>0,λj=>by rw[ZG];omega;intro i _;exact UR _⟩
theorem Eqv.symm{f g:Nat->Int}(h:Eqv p n W f g):Eqv p n W g f:=by
 obtain⟨c,l⟩:=h;refine⟨λi=>-1*c i,λj=>?_⟩
 have:(λi=>-1*c i*rel p W i j)=λi=>-1*(c i*rel p W i j):=by funext i;rw[UT]
 rw[this,ZV,l j];omega
theorem Eqv.trans{f g k:Nat->Int}(h:Eqv p n W f g)(h':Eqv p n W g k):Eqv p n W f k:=by
 obtain⟨c,l⟩:=h;obtain⟨d,hd⟩:=h';refine⟨λi=>c i+d i,λj=>?_⟩
 have:(λi=>(c i+d i)*rel p W i j)=λi=>c i*rel p W i j+d i*rel p W i j:=by funext i;rw[Uv]
 rw[this,zAd,l j,hd j];omega
theorem Eqv.add{f g f' g':Nat->Int}(h:Eqv p n W f g)(h':Eqv p n W f' g'):Eqv p n W (λj=>f j+f' j) (λj=>g j+g' j):=by
 obtain⟨c,l⟩:=h;obtain⟨d,hd⟩:=h';refine⟨λi=>c i+d i,λj=>?_⟩
 have:(λi=>(c i+d i)*rel p W i j)=λi=>c i*rel p W i j+d i*rel p W i j:=by funext i;rw[Uv]
 dsimp only;rw[this,zAd,l j,hd j];omega
theorem Eqv.mul(k:Int){f g:Nat->Int}(h:Eqv p n W f g):Eqv p n W (λj=>k*f j) (λj=>k*g j):=by
 obtain⟨c,l⟩:=h;refine⟨λi=>k*c i,λj=>?_⟩
 have:(λi=>k*c i*rel p W i j)=λi=>k*(c i*rel p W i j):=by funext i;rw[UT]
 dsimp only;rw[this,ZV,l j,U0]
theorem Eqv.of_eq{f g:Nat->Int}(h:∀j,f j=g j):Eqv p n W f g:=by
 have:f=g:=funext h
 subst this;exact Eqv.refl f
theorem Eqv.rel{i:Nat}(h:i<n):Eqv p n W (λj=>rel p W i j) (λ_=>0):=
 ⟨λk=>if k=i then 1 else 0,λj=>by
  rw[QR h (λk _ l=>by dsimp only;rw[if_neg l,UR])];dsimp only;rw[if_pos rfl];omega⟩
theorem zNQ(o:OkW p n W){i:Nat}(h:i<n){v:V1}(u:v.length=n):Eqv p n W (at_ (nstep p W i v)) (at_ v):=by
 refine⟨λk=>if k=i then at_ v i / p else 0,λj=>?_⟩;rw[QR h (λk _ l=>by dsimp only;rw[if_neg l,UR]),zFC o h u];dsimp only;rw[if_pos rfl]
theorem zKr(o:OkW p n W){v:V1}(h:v.length=n):∀{k:Nat},k<=n->Eqv p n W (at_ (nrm p W k v)) (at_ v)
 |0,_=>Eqv.refl _
 |k+1,hk=>(zNQ o (by omega) (Zw o h (by omega))).trans (zKr o h (by omega))
theorem qN(o:OkW p n W){v:V1}(h:v.length=n):Eqv p n W (at_ (norm p W v)) (at_ v):=zKr o h (UH o.len)
theorem zKs(o:OkW p n W){v:V1}(h:v.length=n):∀{k:Nat},k<=n->∀j,j<k->0<=at_ (nrm p W k v) j/\at_ (nrm p W k v) j<=p-1
 |0,_,j,hj=>by omega
 |k+1,hk,j,hj=>by
  have l:=o.pr;unfold okp at l;simp only[nrm];rw[zFC o (by omega) (Zw o h (by omega)),o.zero (by omega:j<=k)];by_cases e:j=k
  .subst e;rw[if_pos rfl,Int.zero_sub,Un]
   have:=zA0 (p:=p) (at_ (nrm p W j v) j) (by omega)
   omega
  .rw[if_neg e,Int.sub_zero,UL,Uy];exact zKs o h (by omega) j (by omega)
theorem Zx(o:OkW p n W){v:V1}(l:v.length=n):box p (norm p W v):=by
 intro x u;obtain⟨j,h,rfl⟩:=YE.1 u
 have:=zKs o l (UH o.len) j (by rw[ZC o l]at h;rw[o.len];exact h)
 rwa[<-at_eq h]
theorem zBH(o:OkW p n W){a b:V1}(J:a.length=n)(L:b.length=n)(D:box p a)(E:box p b)(h:Eqv p n W (at_ a) (at_ b)):a=b:=by
 obtain⟨c,A⟩:=h;have G:=o.pr;unfold okp at G;have key:∀m,m<=n->∀i,i<m->c i=0:=by
  intro m
  induction m with
  |zero=>intro _ i u;omega
  |succ m ih=>
   intro P i u;by_cases e:i=m
   .subst e;have l:=A i;rw[QR (k:=i) (by omega) (λk O C=>by
     rcases YG k i with x|x
     .rw[ih (by omega) k x,UR]
     .rw[rel,o.zero x,if_neg (λe=>C e.symm)];simp)]at l
    rw[rel,o.zero (na _),if_pos rfl]at l;have H:=D.at (by omega) i;have I:=E.at (by omega) i;rw[Int.zero_sub,Un]at l;rcases Int.lt_trichotomy (c i) 0 with x|x|x
    .have:=YA (show c i<=-1 by omega) (show 0<=p by omega)
     omega
    .exact x
    .have:=YA (show 1<=c i by omega) (show 0<=p by omega)
     omega
   .exact ih (by omega) i (by omega)
 refine Zr (by omega) λj N=>?_;rw[A j,ZG n (λi u=>by rw[key n (na _) i u,UR])];omega
theorem zFw(o:OkW p n W){a b:V1}(l:a.length=n)(u:b.length=n)(h:Eqv p n W (at_ a) (at_ b)):norm p W a=norm p W b:=
 zBH o (ZC o l) (ZC o u) (Zx o l) (Zx o u) ((qN o l).trans (h.trans (qN o u).symm))
theorem zNS(o:OkW p n W){a:V1}(h:a.length=n)(l:box p a):norm p W a=a:=
 zBH o (ZC o h) h (Zx o h) l (qN o h)
end
end Go.Lie
namespace Go.Proofs
open Go.Ab Go.Lie
variable{p:Int}{n:Nat}{σ:PHeap}{vB vL vP:PV}{K:PV->PHeap->Prop}{W:V2}{B:V3}
theorem zHK{q:Int}{u r:V1}{k:Nat}(l:u.length=r.length)(h:k<u.length):
  ((addm q u r).take k++u.drop k).set k (u[k] + q*r[k]'(l ▸ h))=(addm q u r).take (k+1)++u.drop (k+1):=by
 have A:=qj (q:=q) (UH l);apply List.ext_getElem?;intro j;rcases Nat.lt_trichotomy j k with x|x|x
 .rw[List.getElem?_set_ne (by omega),Yy (by simp;omega),Yy (by simp;omega),Yd,Yd,if_pos x,if_pos (by omega)]
 .subst x;rw[List.getElem?_set_self (by simp;omega),Yy (by simp;omega),Yd,if_pos (by omega),zFY h (l ▸ h)]
 .rw[List.getElem?_set_ne (by omega),Yx (by simp;omega),Yx (by simp;omega),Ye,Ye,Yu,Yu];congr 1;omega
theorem zJJ{q:Int}{u r:V1}{k:Nat}(l:u.length=r.length)(h:k<u.length):((addm q u r).take k++u.drop k)[k]? = some u[k]:=by
 have A:=qj (q:=q) (UH l);rw[Yx (by rw[Yu];omega),Yu,Ye]
 have:k+(k-min k (addm q u r).length)=k:=by omega
 rw[this,YQ h]
theorem zE2{q:Int}{u r:V1}{k:Nat}(h:u.length=r.length)(A:k<=u.length):((addm q u r).take k++u.drop k).length=u.length:=by
 have l:=qj (q:=q) (UH h);simp;omega
theorem zJK{q:Int}{u r:V1}(h:u.length=r.length):(addm q u r).take u.length++u.drop u.length=addm q u r:=by
 rw[List.drop_length,Y0,YR (by rw[qj (UH h)];exact na _)]
abbrev big:Int:=1125899906842624
theorem zDY{s l:Nat}{w1 w:Bool}{D a:AV}{C:List PV}{vB:PV}{p:Int}{n:Nat}{W:V2}{c:V1}(hs:σ.obj s=some [.int .i64 p,.fz w1 D W.length C,vB])(hP:All2 FI C W)(o:OkW p n W)(h:c.length=n)(hb:bd big c)
  (hl:l=c.length) (S:ResI σ K (norm p W c)):zA Tryz.prog 109 [.ptr s 0,.fz w a l (pis c)] σ K:=by
 subst hl;refine zA.pwf λhw=>?_;have Mr:=hw.lt hs;have G:¬s=σ.next:=by omega
 have hW:=o.len;have be:=o.le;have NB:big=1125899906842624:=rfl;have hp:=o.pr;unfold okp at hp;refine zD mix Tryz.func109 ?_;simp only[Z3,seval,-ae];refine Qc rfl (by omega) ⟨λh0=>?_,λcap bV=>?_⟩
 .subst h0;obtain rfl:n=0:=by simpa using h.symm
  obtain rfl:W=[]:=YF hW;simp only[Z3,seval,-ae,zI hs,zZ hs];refine zF (λm vs h'=>m=0/\vs=[.ptr s 0,.fz true .nils 0 [],.fz w1 D 0 C,.int .i64 (0:Nat),.int .i64 (0:Nat)]/\h'=σ) 0 ?_ ?_
  .exact⟨rfl,rfl,rfl⟩
  .rintro m vs h' ⟨rfl,rfl,rfl⟩
   simp only[Z3,seval,-ae];exact S.1 rfl
 .simp only[Z3,seval,-ae,zI hs,zZ hs,G];refine zF (λm vs h'=>∃i:Nat,i<=n/\m=n-i/\vs=[.ptr s 0,.sl σ.next 0 c.length cap,.fz w1 D W.length C,.int .i64 W.length,.int .i64 i]/\h'=σ.new (pis (nrm p W i c))) n ?_ ?_
  .exact⟨0,by omega,by omega,rfl,rfl⟩
  .rintro m vs h' ⟨i,R,rfl,rfl,rfl⟩
   simp only[Z3,seval,-ae];refine iteI (λE=>?_) λY=>?_
   .have dr:i<n:=by omega
    have gE:=Zw o h R;have H:=zKt o (by decide) h hb R;obtain⟨w2,X,T⟩:=hP.rowI (k:=i) (by omega);obtain⟨Z,cB,u5⟩:=o.row i (by omega);have Q:=qP (W:=W) (i:=i) (by omega);have O:=λj=>zE5 o H i j;have kJ:=zA0 (p:=p) (at_ (nrm p W i c) i) (by omega);have P:=at_eq (v:=nrm p W i c) (j:=i) (by omega);have J:=gi (xs:=nrm p W i c) (i:=i) (by omega);rw[<-P]at J;clear P;generalize hv:nrm p W i c=v at *
    have U:i<c.length:=by omega
    have M6:=H i;have tg:sm (at_ v i):=by unfold sm;omega
    simp only[Z3,seval,-ae,E,U,zK,T,J,G,zI hs,zZ hs];refine zFO (by omega) tg ?_;have dx:sm (at_ v i / p*p):=by have:=(O 0).1;unfold sm;omega
    have jz:sm (at_ v i-at_ v i / p*p):=by unfold sm;omega
    have dz:i+1<=v.length:=by omega
    simp only[Z3,seval,-ae,E,U,zK,zJ,T,J,G,zI hs,zZ hs,dx.w,jz.w,dz];rw[zU (by omega)];have hu:(v.set i (at_ v i-at_ v i / p*p)).length=n:=by rw[YC,gE]
    have fE:nrm p W (i+1) c=addm (at_ v i / p) (v.set i (at_ v i-at_ v i / p*p)) W[i]:=by rw[nrm,hv,nstep,Q]
    have V:∀j,sm (at_ (v.set i (at_ v i-at_ v i / p*p)) j)/\sm (at_ v i / p*at_ W[i] j)/\sm (at_ (v.set i (at_ v i-at_ v i / p*p)) j+at_ v i / p*at_ W[i] j):=λj=>by
     have h1:=(O j).2;have h2:=H j;rw[w_,Q]at h1;rw[at_set (by omega)];unfold sm;split<;>omega
    generalize hq:at_ v i / p=q at *
    generalize Mk:v.set i (at_ v i-q*p)=u at *
    refine zF (λm vs h'=>∃k:Nat,k<=n/\m=n-k/\vs=[.ptr s 0,.sl σ.next 0 c.length cap,.int .i64 q,.fz w1 D W.length C,.int .i64 W.length,.int .i64 i,.fz w2 X W[i].length (pis W[i]),.int .i64 W[i].length,.int .i64 k]/\h'=σ.new (pis ((addm q u W[i]).take k++u.drop k))) n ?_ ?_
    .exact⟨0,by omega,by omega,rfl,rfl⟩
    .rintro m vs h' ⟨k,bA,rfl,rfl,rfl⟩
     simp only[Z3,seval,-ae];refine iteI (λA=>?_) λY=>?_
     .have MW:k<c.length:=by omega
      have I:k<u.length:=by omega
      obtain⟨b1,L,N⟩:=V k;rw[at_eq I,at_eq A]at N;rw[at_eq A]at L;have hlen:k+1<=((addm q u W[i]).take k++u.drop k).length:=by rw[zE2 (by omega) (by omega)];omega
      simp only[Z3,seval,-ae,A,MW,zK,zJ,gi A,zJJ (q:=q) (hu.trans Z.symm) I,L.w,N.w,hlen,WX A];refine⟨_,by omega,k+1,by omega,rfl,rfl,?_⟩;rw[zU (by omega),zHK (by omega) I]
     .have bN:k=u.length:=by omega
      subst bN;rw[zJK (by omega)];simp only[Z3,seval,-ae,wrapS (n:=W.length) E (by omega)];refine⟨_,by omega,i+1,by omega,rfl,rfl,?_⟩;rw[fE]
   .have aU:i=W.length:=by omega
    subst aU
    have:=S.2 cap (by rw[ZC o h,<-h];exact bV)
    rw[ZC o h,<-h]at this;exact this
structure IsR(vP vB:PV)(W:V2)(B:V3):Prop where
 P:FII vP W
 B:FIII vB B
theorem zPb{q:Int}{u r:V1}{i:Nat}(h:u.length=r.length)(l:∀j,j<=i->at_ r j=0)(C:i<u.length):(addm q u r).take (i+1)++u.drop (i+1)=u:=by
 have A:=qj (q:=q) (UH h)
 have:(addm q u r).take (i+1)=u.take (i+1):=by
  apply List.ext_getElem?;intro j;rw[Yd,Yd];split
  .rename_i D
   have:=l j (by omega)
   rw[at_eq (by omega)]at this;rw[zFY (by omega) (by omega),this,gi (by omega)];congr 1;omega
  .rfl
 rw[this,List.take_append_drop]
theorem zLz{vP vB:PV}{l:Nat}{w:Bool}{a:AV}{p:Int}{n:Nat}{W:V2}{B:V3}{c:V1}(hR:IsR vP vB W B)(o:OkW p n W)(C:c.length=n)(hb:bd big c)
  (hl:l=c.length) (hk:∀a,K (.fz true a n (pis (norm p W c))) σ):zA Tryz.prog 178 [.agg [.int .i64 p,vP,vB],.fz w a l (pis c)] σ K:=by
 subst hl;obtain⟨⟨w1,G,S,rfl,hP⟩,⟨T,H,R,rfl,hB⟩⟩:=hR;refine zA.gh ?_;have hW:=o.len;have be:=o.le;have NB:big=1125899906842624:=rfl;have hp:=o.pr;unfold okp at hp;refine qG mix Tryz.func178 ?_;simp only[Z3,seval,-ae];refine qg rfl (by omega) λcap Z=>?_;simp only[Z3,seval,-ae];refine zF (λm vs h'=>∃i:Nat,i<=n/\m=n-i/\vs=[.ptr σ.next 0,.sl (σ.next+1) 0 c.length cap,.int .i64 i]/\h'=(σ.new [.int .i64 p,.fz w1 G W.length S,.fz T H B.length R]).new (pis (nrm p W i c))) n ?_ ?_
 .exact⟨0,by omega,by omega,rfl,rfl⟩
 .rintro m vs h' ⟨i,Q,rfl,rfl,rfl⟩
  simp only[Z3,seval,-ae];refine iteI (λA=>?_) λX=>?_
  .have dr:i<n:=by omega
   have U:i<W.length:=by omega
   have gE:=Zw o C Q;have D:=zKt o (by decide) C hb Q;obtain⟨w2,a2,hr⟩:=hP.rowI (k:=i) (by omega);obtain⟨Y,cB,u5⟩:=o.row i (by omega);have P:=qP (W:=W) (i:=i) (by omega);have N:=λj=>zE5 o D i j;have kJ:=zA0 (p:=p) (at_ (nrm p W i c) i) (by omega);have O:=at_eq (v:=nrm p W i c) (j:=i) (by omega);have E:=gi (xs:=nrm p W i c) (i:=i) (by omega);rw[<-O]at E;clear O;generalize hv:nrm p W i c=v at *
   have M6:=D i;have tg:sm (at_ v i):=by unfold sm;omega
   simp only[Z3,seval,-ae,A,zK,E];refine zKP (by omega) tg ?_;have dx:sm (at_ v i / p*p):=by have:=(N 0).1;unfold sm;omega
   have jz:sm (at_ v i-at_ v i / p*p):=by unfold sm;omega
   have dz:i+1<=v.length:=by omega
   simp only[Z3,seval,-ae,A,zK,zJ,E,dx.w,jz.w,dz,WX A];rw[zU (by omega)];have hu:(v.set i (at_ v i-at_ v i / p*p)).length=n:=by rw[YC,gE]
   have fE:nrm p W (i+1) c=addm (at_ v i / p) (v.set i (at_ v i-at_ v i / p*p)) W[i]:=by rw[nrm,hv,nstep,P]
   have V:∀j,sm (at_ (v.set i (at_ v i-at_ v i / p*p)) j)/\sm (at_ v i / p*at_ W[i] j)/\sm (at_ (v.set i (at_ v i-at_ v i / p*p)) j+at_ v i / p*at_ W[i] j):=λj=>by
    have h1:=(N j).2;have h2:=D j;rw[w_,P]at h1;rw[at_set (by omega)];unfold sm;split<;>omega
   generalize hq:at_ v i / p=q at *
   generalize Mk:v.set i (at_ v i-q*p)=u at *
   refine zF (λm vs h'=>∃k:Nat,i+1<=k/\k<=n/\m=n-k/\vs=[.ptr σ.next 0,.sl (σ.next+1) 0 c.length cap,.int .i64 i,.int .i64 q,.int .i64 k]/\h'=(σ.new [.int .i64 p,.fz w1 G W.length S,.fz T H B.length R]).new (pis ((addm q u W[i]).take k++u.drop k))) (n-(i+1)) ?_ ?_
   .exact⟨i+1,by omega,by omega,by omega,rfl,by rw[zPb (by omega) u5 (by omega)]⟩
   .rintro m vs h' ⟨k,R3,bA,rfl,rfl,rfl⟩
    simp only[Z3,seval,-ae];refine iteI (λI=>?_) λX=>?_
    .have gg:k<u.length:=by omega
     have h:k<W[i].length:=by omega
     obtain⟨b1,J,L⟩:=V k;rw[at_eq gg,at_eq h]at L;rw[at_eq h]at J;have hlen:k+1<=((addm q u W[i]).take k++u.drop k).length:=by rw[zE2 (by omega) (by omega)];omega
     simp only[Z3,seval,-ae,I,U,h,hr,zK,zJ,gi h,zJJ (q:=q) (hu.trans Y.symm) gg,J.w,L.w,hlen,WX I];refine⟨_,by omega,k+1,by omega,by omega,rfl,rfl,?_⟩;rw[zU (by omega),zHK (by omega) gg]
    .have bN:k=u.length:=by omega
     subst bN;rw[zJK (by omega)];simp only[Z3,seval,-ae,wrapS (n:=c.length) A (by omega)];refine⟨_,by omega,i+1,by omega,rfl,rfl,?_⟩;rw[fE]
  .have aU:i=W.length:=by omega
   subst aU;rw[C];exact Gh.finF (s:=σ.next+1) ((zC σ _).new _) (by simp only[Z3,seval,-ae];rfl) (by omega) (zL _ _) (by rw[<-C];exact Z.ok) λ_=>hk _
theorem zHr{xs:V1}(z:Int){i:Nat}(h:i<=xs.length):(xs.take i++List.replicate (xs.length-i) z).length=xs.length:=by simp;omega
theorem bd_sm{M:Int}(l:M<=4611686018427387904){a:V1}(h:bd M a)(j:Nat):sm (at_ a j):=by have:=h j;unfold sm;omega
theorem zNg{vP vB:PV}{l L:Nat}{w N:Bool}{av G:AV}{p:Int}{n:Nat}{W:V2}{B:V3}{k m:Int}{a b:V1}(u:IsR vP vB W B)(o:OkW p n W)(I:a.length=n)(T:b.length=n)
  (O:∀j,sm (k*at_ a j)/\sm (m*at_ b j)) (J:bd big (lmix k a m b))
  (V:l=a.length) (P:L=b.length) (U:∀v,K (.fz true v n (pis (norm p W (lmix k a m b)))) σ):zA Tryz.prog 104 [.agg [.int .i64 p,vP,vB],.int .i64 k,.fz w av l (pis a),.int .i64 m,.fz N G L (pis b)] σ K:=by
 subst V;subst P;refine zA.gh ?_;have R:=u.P.one;have S:=u.B.one;have Z:=o.le;have A:=zR (k:=k) (m:=m) (I.trans T.symm);refine zD mix Tryz.func104 ?_;simp only[Z3,seval,-ae,R,S,YT,zf,mk8 (n:=a.length) (by omega),mkL (n:=a.length) (by omega)];generalize X:lmix k a m b=x at *
 refine zF (λq vs h'=>∃i:Nat,i<=n/\q=n-i/\vs=[.int .i64 k,.fz w av a.length (pis a),.int .i64 m,.fz N G b.length (pis b),.ptr σ.next 0,.sl (σ.next+1) 0 a.length (.known a.length),.int .i64 i]/\
  h'=(σ.new [.int .i64 p,vP,vB]).new (pis (x.take i++List.replicate (x.length-i) 0))) n ?_ ?_
 .exact⟨0,by omega,by omega,rfl,by rw[UP,Ys,Nat.sub_zero,A]⟩
 .rintro q vs h' ⟨i,hi,rfl,rfl,rfl⟩
  simp only[Z3,seval,-ae];refine iteI (λh=>?_) λY=>?_
  .have jK:i<b.length:=by omega
   have C:i<x.length:=by omega
   obtain⟨b1,D⟩:=O i;have E:=bd_sm (by decide) J i;have H:x[i]=k*a[i] + m*b[i]:=by
    have:=zIT (k:=k) (m:=m) h jK
    rw[X,gi C]at this;exact Option.some.inj this
   rw[at_eq h]at b1;rw[at_eq jK]at D;rw[at_eq C,H]at E;have hlen:i+1<=(x.take i++List.replicate (x.length-i) 0).length:=by rw[zHr 0 (by omega)];omega
   simp only[Z3,seval,-ae,h,jK,gi h,gi jK,zK,zJ,b1.w,D.w,E.w,hlen,WX h];refine⟨_,by omega,i+1,by omega,rfl,rfl,?_⟩;rw[zU (by omega),<-H,zHq x 0 C]
  .have aU:i=x.length:=by omega
   subst aU;rw[Yg,Yv,List.replicate_zero,Y0];simp only[Z3,seval,-ae];refine zA.frz (s:=σ.next+1) (cs:=pis x) (by simp only[Z3,seval,-ae]) (zL _ _) λo1=>?_;have Q:capOK (.known a.length) a.length=true:=by simp[capOK]
   simp only[sbs,sb,Q,and_self,if_true,u.P.sb,u.B.sb];refine zLz u o (A.trans I) J A.symm λv=>?_;simp only[Z3,seval,-ae];exact Gh.fin0 (((zC σ _).new _).kill (by omega)) trivial (U _)
section
variable{s:Nat}
structure PtrR(σ:PHeap)(s:Nat)(p:Int)(vP vB:PV):Prop where
 obj:σ.obj s=some [.int .i64 p,vP,vB]
 lt:s<σ.next
theorem PtrR.new(h:PtrR σ s p vP vB)(cs:List PV):PtrR (σ.new cs) s p vP vB:=⟨by have:=h.lt;simp only[Z3,seval,-ae,Nat.ne_of_lt this];exact h.obj,by have:=h.lt;simp only[Z3,seval,-ae];omega⟩
theorem PtrR.kill(h:PtrR σ s p vP vB){t:Nat}(l:s≠t):PtrR (σ.kill t) s p vP vB:=⟨by simp only[Z3,seval,-ae,l];exact h.obj,h.lt⟩
theorem PtrR.set(h:PtrR σ s p vP vB){t:Nat}(l:s≠t)(cs:List PV):PtrR (σ.set t cs) s p vP vB:=⟨by simp only[Z3,seval,-ae,l];exact h.obj,h.lt⟩
theorem zC0{l:Nat}{cap:Cap}{c:V1}(hs:PtrR σ s p vP vB)(h:FII vP W)(o:OkW p n W)(G:c.length=n)(E:bd big c)
  (H:l=c.length) (C:capOK cap l=true) (u:ResI σ K (norm p W c)):zA Tryz.prog 109 [.ptr s 0,.sl σ.next 0 l cap] (σ.new (pis c)) (Gh σ K):=by
 subst H;obtain⟨w1,J,O,rfl,h⟩:=h;have L:=hs.lt;refine zA.frz (s:=σ.next) (cs:=pis c) (by simp only[Z3,seval,-ae]) (zL _ _) λN=>?_;simp only[sbs,sb,C,and_self,if_true];refine zDY ((hs.new _).kill (by omega)).obj h o G E rfl ⟨λD=>?_,λA I=>?_⟩
 .exact Gh.fin0 ((zC σ _).kill (na _)) trivial (u.1 D)
 .exact Gh.finS (((zC σ _).kill (na _)).new _) (by simp only[Z3,seval,-ae]) (by simp only[Z3,seval,-ae];omega) (zL _ _) (u.2 A I)
theorem zLo{w:Bool}{a:AV}(hs:PtrR σ s p vP vB)(h:FII vP W)(o:OkW p 0 W)(l:ResI σ K (norm p W [])):zA Tryz.prog 109 [.ptr s 0,.fz w a 0 []] σ K:=by
 obtain⟨w1,u,A,rfl,h⟩:=h;exact zDY (c:=[]) hs.obj h o rfl (λj=>by simp[at_]) rfl l
theorem lmix1{a b:V1}(h:a.length=b.length):subm (-1) a b=lmix 1 a 1 b:=by
 rw[zGY];refine Zr (by rw[qj (by omega),zR h]) λj l=>?_;rw[zBU h,qK h];omega
theorem lmixk{k:Int}{a:V1}:subm (-k) (List.replicate a.length 0) a=lmix k a 0 a:=by
 rw[zGY];refine Zr (by rw[qj (by simp),zR rfl];simp) λj h=>?_;rw[zBU (by simp),qK rfl,qF];simp
theorem zPD{k:Int}{a b:V1}(h:a.length=b.length):lmix k a 0 b=lmix k a 0 a:=by
 refine Zr (by rw[zR h,zR rfl]) λj l=>?_;rw[qK h,qK rfl];omega
theorem zQP{k m A C:Int}{a b:V1}(h:a.length=b.length)(l:∀j,-A<=k*at_ a j/\k*at_ a j<=A)(u:∀j,-C<=m*at_ b j/\m*at_ b j<=C):bd (A+C) (lmix k a m b):=λj=>by
 rw[qK h]
 have:=l j
 have:=u j
 omega
theorem zGg(o:OkW p n W){c:V1}(h:c.length=n):El p n (norm p W c):=⟨ZC o h,Zx o h⟩
theorem mul6{k x:Int}(h:-1000000000<=k/\k<=1000000000)(l:0<=x/\x<=6):-6000000000<=k*x/\k*x<=6000000000:=by
 obtain rfl|rfl|rfl|rfl|rfl|rfl|rfl:x=0\/x=1\/x=2\/x=3\/x=4\/x=5\/x=6:=by omega
 all_goals omega
theorem _root_.Go.Lie.El.at{a:V1}(h:El p n a)(l:okp p)(j:Nat):0<=at_ a j/\at_ a j<=6:=by
 have:=h.2.at (by have:=l.1;omega) j
 have:=l.2
 omega
theorem _root_.Go.Lie.El.mul{a:V1}(h:El p n a)(u:okp p){k:Int}(l:-1000000000<=k/\k<=1000000000)(j:Nat):-6000000000<=k*at_ a j/\k*at_ a j<=6000000000:=mul6 l (h.at u j)
theorem _root_.Go.Lie.El.mulsm{a:V1}(h:El p n a)(u:okp p){k:Int}(l:-1000000000<=k/\k<=1000000000)(j:Nat):sm (k*at_ a j):=by have:=h.mul u l j;unfold sm;omega
theorem _root_.Go.Lie.El.mixbd{a b:V1}(h:El p n a)(l:El p n b)(u:okp p){k m:Int}(A:-1000000000<=k/\k<=1000000000)(C:-1000000000<=m/\m<=1000000000):Go.Lie.bd big (lmix k a m b):=
 (zQP (h.1.trans l.1.symm) (λj=>h.mul u A j) λj=>l.mul u C j).mono (by decide)
theorem z8{l C:Nat}{w L:Bool}{av G:AV}{k m:Int}{a b:V1}(H:IsR vP vB W B)(o:OkW p n W)(h:El p n a)(u:El p n b)(J:l=a.length)(E:C=b.length)
  (D:-1000000000<=k/\k<=1000000000) (A:-1000000000<=m/\m<=1000000000)
  (I:∀v,K (.fz true v n (pis (norm p W (lmix k a m b)))) σ):zA Tryz.prog 104 [.agg [.int .i64 p,vP,vB],.int .i64 k,.fz w av l (pis a),.int .i64 m,.fz L G C (pis b)] σ K:=
 zNg H o h.1 u.1 (λj=>⟨h.mulsm o.pr D j,u.mulsm o.pr A j⟩) (h.mixbd u o.pr D A) J E I
theorem zD5{l I:Nat}{w U:Bool}{av O:AV}{a b:V1}(hs:PtrR σ s p vP vB)(G:FII vP W)(o:OkW p n W)(A:El p n a)(C:El p n b)(T:l=a.length)(L:I=b.length)
  (D:ResI σ K (norm p W (lmix 1 a 1 b))):zA Tryz.prog 57 [.ptr s 0,.fz w av l (pis a),.fz U O I (pis b)] σ K:=by
 subst T;subst L;have V:=o.le;have h:=A.1;have H:=C.1;refine zA.gh ?_;refine zD mix Tryz.func57 ?_;simp only[Z3,seval,-ae];refine Qc rfl (by omega) ⟨λu=>?_,λcap N=>?_⟩
 .simp only[Z3,seval,-ae];refine zCq ?_;subst u;obtain rfl:n=0:=by simpa using h.symm
  obtain rfl:b=[]:=YF H;simp only[Z3,seval,-ae];refine zLo hs G o ⟨λu=>?_,λcap R=>?_⟩
  .simp only[Z3,seval,-ae];exact Gh.ret (D.1 u)
  .simp only[Z3,seval,-ae];exact Gh.ret (D.2 cap R)
 .simp only[Z3,seval,-ae];have E:a.length=b.length:=h.trans H.symm;refine zAb rfl (by simp only[Z3,seval,-ae]) (by omega) (by omega) (λi P Q=>?_) ?_
  .have b1:=A.at o.pr i;have J:=C.at o.pr i;rw[at_eq P]at b1;rw[at_eq Q]at J;unfold sm;omega
  .simp only[Z3,seval,-ae];rw[lmix1 E];exact(zC0 hs G o (by rw[zR E,h]) (A.mixbd C o.pr (by decide) (by decide)) (zR E).symm N.ok D).mono λv σ' S=>by simp only[Z3,seval,-ae];exact S
theorem zCF{l:Nat}{w:Bool}{av:AV}{k:Int}{a:V1}(hs:PtrR σ s p vP vB)(D:FII vP W)(o:OkW p n W)(h:El p n a)(H:l=a.length)(I:-1000000000<=k/\k<=1000000000)
  (G:ResI σ K (norm p W (lmix k a 0 a))):zA Tryz.prog 100 [.ptr s 0,.int .i64 k,.fz w av l (pis a)] σ K:=by
 subst H;have J:=o.le;have u:=h.1;refine zA.gh ?_;refine zD mix Tryz.func100 ?_;have A:IntKind.i64.wrap (0-k)=-k:=WQ
 simp only[Z3,seval,-ae,YT,zf,mk8 (n:=a.length) (by omega),mkL (n:=a.length) (by omega),A];refine zAG (xs:=List.replicate a.length 0) (by simp) rfl (by simp only[Z3,seval,-ae]) (by simp) (by simp;omega) (λi L C=>?_) ?_
 .have b1:=h.mul o.pr (k:=-k) (by omega) i;rw[at_eq C]at b1;rw[Uz];unfold sm;omega
 .simp only[Z3,seval,-ae];rw[lmixk];exact(zC0 hs D o (by rw[zR rfl,u]) (h.mixbd h o.pr I (by decide)) (zR rfl).symm (by simp[capOK]) G).mono λv σ' E=>by simp only[Z3,seval,-ae];exact E
theorem zBC(h:IsR vP vB W B)(u:W.length=n)(G:n<=1048576)(A:∀v,K (.fz true v n (pis (List.replicate n 0))) σ):zA Tryz.prog 102 [.agg [.int .i64 p,vP,vB]] σ K:=by
 have l:=h.B.one;obtain⟨⟨w1,C,H,rfl,E⟩,D⟩:=h;subst u;refine zA.gh ?_;refine zD mix Tryz.func102 ?_;simp only[Z3,seval,-ae,l,zf,mk8 (n:=W.length) (by omega),mkL (n:=W.length) (by omega)];exact Gh.finF (s:=σ.next+1) ((zC σ _).new _) (by simp only[Z3,seval,-ae]) (by omega) (zL _ _) (by simp[capOK]) λ_=>A _
theorem zEq(h:IsR vP vB W B)(u:W.length=n)(G:n<=1048576)(A:∀cap,full 1 cap n->K (.sl σ.next 0 n cap) (σ.new (pis (List.replicate n 0)))):zA Tryz.prog 102 [.agg [.int .i64 p,vP,vB]] σ K:=by
 have l:=h.B.one;obtain⟨⟨w1,C,H,rfl,E⟩,D⟩:=h;subst u;refine zA.gh ?_;refine zD mix Tryz.func102 ?_;simp only[Z3,seval,-ae,l,zf,mk8 (n:=W.length) (by omega),mkL (n:=W.length) (by omega)];exact Gh.finS (s:=σ.next+1) ((zC σ _).new _) (by simp only[Z3,seval,-ae]) (by omega) (zL _ _) (A _ (.inr rfl))
theorem qo{k:Nat}(l:IsR vP vB W B)(C:W.length=n)(G:n<=1048576)(h:k<n)(E:∀v,K (.fz true v n (pis (unitL n k))) σ):zA Tryz.prog 105 [.agg [.int .i64 p,vP,vB],.int .i64 k] σ K:=by
 have u:=l.P.one;have A:=l.B.one;refine zA.gh ?_;refine zD mix Tryz.func105 ?_;simp only[Z3,seval,-ae,u,A];refine zEq l C G λcap D=>?_;simp only[Z3,seval,-ae,h,zJ,YT,UZ h];rw[zU (by simpa using h)];exact Gh.finF (s:=σ.next+1) ((zC σ _).new _) (by simp only[Z3,seval,-ae];rfl) (by omega) (zL _ _) D.ok λ_=>E _
def coef(a b:V1)(i j:Nat):Int:=at_ a i*at_ b j-at_ a j*at_ b i
def bk(row:V2)(a b:V1)(i:Nat):Nat->V1->V1
 |0,acc=>acc
 |k+1,acc=>addm (coef a b i (i+1+k)) (bk row a b i k acc) (row.getD k [])
def bi(B:V3)(a b:V1)(n:Nat):Nat->V1
 |0=>List.replicate n 0
 |i+1=>bk (B.getD i []) a b i (n-1-i) (bi B a b n i)
def bsum(B:V3)(a b:V1)(n:Nat):V1:=bi B a b n n
structure OkB(p:Int)(n:Nat)(B:V3):Prop where
 len:B.length=n
 row:∀(i:Nat) (h:i<B.length),B[i].length=n-1-i
 ent:∀(i:Nat) (h:i<B.length) (k:Nat) (hk:k<B[i].length),El p n B[i][k]/\∀j,j<=i+k+1->at_ B[i][k] j=0
theorem zO{α:Type}{B:List (List α)}{i:Nat}(h:i<B.length):B.getD i []=B[i]:=by simp[YB,YQ h]
theorem OkB.get(q:OkB p n B){i k:Nat}(u:i<n)(A:k<n-1-i):El p n ((B.getD i []).getD k [])/\∀j,j<=i+k+1->at_ ((B.getD i []).getD k []) j=0:=by
 have h:i<B.length:=by rw[q.len];exact u
 have l:k<B[i].length:=by rw[q.row i h];exact A
 rw[zO h,zO l];exact q.ent i h k l
theorem zAD(q:OkB p n B){a b acc:V1}{i:Nat}(l:i<n)(h:acc.length=n):∀{k:Nat},k<=n-1-i->(bk (B.getD i []) a b i k acc).length=n
 |0,_=>h
 |k+1,hk=>by
  have u:=zAD q l h (k:=k) (a:=a) (b:=b) (by omega);rw[bk,qj (by rw[u,(q.get l (by omega:k<n-1-i)).1.1];omega),u]
theorem zAE(q:OkB p n B){a b:V1}:∀{i:Nat},i<=n->(bi B a b n i).length=n
 |0,_=>by simp[bi]
 |i+1,hi=>zAD q (by omega) (zAE q (by omega)) (na _)
theorem zK4{a b:V1}(h:okp p)(l:El p n a)(u:El p n b)(i j:Nat):-36<=coef a b i j/\coef a b i j<=36:=by
 have m:∀{x y:Int},0<=x/\x<=6->0<=y/\y<=6->0<=x*y/\x*y<=36:=λ{x y} D E=>by
  obtain rfl|rfl|rfl|rfl|rfl|rfl|rfl:x=0\/x=1\/x=2\/x=3\/x=4\/x=5\/x=6:=by omega
  all_goals omega
 have A:=m (l.at h i) (u.at h j);have C:=m (l.at h j) (u.at h i);unfold coef;omega
theorem zI3{a b c:V1}(h:okp p)(l:El p n a)(u:El p n b)(A:El p n c)(i j t:Nat):-216<=coef a b i j*at_ c t/\coef a b i j*at_ c t<=216:=by
 have C:=zK4 h l u i j;have D:=A.at h t;obtain e|e|e|e|e|e|e:at_ c t=0\/at_ c t=1\/at_ c t=2\/at_ c t=3\/at_ c t=4\/at_ c t=5\/at_ c t=6:=by omega
 all_goals rw[e];omega
theorem bk_at(q:OkB p n B){a b acc:V1}{i:Nat}(h:i<n)(l:acc.length=n)(t:Nat):∀{k:Nat},k<=n-1-i->
  at_ (bk (B.getD i []) a b i k acc) t=at_ acc t+sumN k λj=>coef a b i (i+1+j)*at_ ((B.getD i []).getD j []) t
 |0,_=>by simp[bk,sumN]
 |k+1,hk=>by
  have u:=zAD q h l (k:=k) (a:=a) (b:=b) (by omega);rw[bk,zBU (by rw[u,(q.get h (by omega:k<n-1-i)).1.1]),bk_at q h l t (by omega),sumN];omega
theorem bi_at(q:OkB p n B){a b:V1}(t:Nat):∀{i:Nat},i<=n->
  at_ (bi B a b n i) t=sumN i λi=>sumN (n-1-i) λj=>coef a b i (i+1+j)*at_ ((B.getD i []).getD j []) t
 |0,_=>by rw[bi,qF];rfl
 |i+1,hi=>by rw[bi,bk_at q (by omega) (zAE q (by omega)) t (na _),bi_at q t (by omega)];rfl
theorem bk_bd(q:OkB p n B){a b acc:V1}(D:okp p)(A:El p n a)(C:El p n b){M:Int}{i:Nat}(h:i<n)(l:acc.length=n)(u:bd M acc):∀{k:Nat},k<=n-1-i->bd (M+216*k) (bk (B.getD i []) a b i k acc)
 |0,_=>by simpa [bk]using u
 |k+1,hk=>λt=>by
  have E:=zAD q h l (k:=k) (a:=a) (b:=b) (by omega);have G:=bk_bd q D A C h l u (k:=k) (by omega) t;have H:=zI3 D A C (q.get h (by omega:k<n-1-i)).1 i (i+1+k) t;rw[bk,zBU (by rw[E,(q.get h (by omega:k<n-1-i)).1.1])];omega
theorem bi_bd(q:OkB p n B){a b:V1}(u:okp p)(A:n<=6)(h:El p n a)(l:El p n b):∀{i:Nat},i<=n->bd (1296*i) (bi B a b n i)
 |0,_=>λt=>by rw[bi,qF];omega
 |i+1,hi=>(bk_bd q u h l (by omega) (zAE q (by omega)) (bi_bd q u A h l (by omega)) (na _)).mono (by omega)
theorem qf(q:OkB p n B){a b:V1}:(bsum B a b n).length=n:=zAE q (na _)
theorem zQe(q:OkB p n B){a b:V1}(A:okp p)(u:n<=6)(h:El p n a)(l:El p n b):bd big (bsum B a b n):=(bi_bd q A u h l (na _)).mono (by have:big=1125899906842624:=rfl;omega)
theorem zOP(k:Int)(xs ys:V1):subm (-k) xs ys=addm k xs ys:=by rw[zGY,Int.neg_neg]
end
section
variable{s:Nat}
theorem mul36{x y:Int}(h:0<=x/\x<=6)(l:0<=y/\y<=6):0<=x*y/\x*y<=36:=by
 obtain rfl|rfl|rfl|rfl|rfl|rfl|rfl:x=0\/x=1\/x=2\/x=3\/x=4\/x=5\/x=6:=by omega
 all_goals omega
theorem zGL{a b:V1}(h:okp p)(D:El p n a)(E:El p n b){i j:Nat}(H:i<n)(I:j<n)(l:i<a.length)(u:j<a.length)(A:i<b.length)(C:j<b.length):
  sm (a[j] * b[i])/\sm (a[i] * b[j])/\sm (a[j] * b[i] - a[i] * b[j])/\sm (a[i] * b[j] - a[j] * b[i])/\a[j] * b[i] - a[i] * b[j]=-(coef a b i j)/\a[i] * b[j] - a[j] * b[i]=coef a b i j:=by
 have b1:=mul36 (D.at h j) (E.at h i);have G:=mul36 (D.at h i) (E.at h j);unfold coef;rw[at_eq u,at_eq A]at b1;rw[at_eq l,at_eq C]at G;rw[at_eq l,at_eq C,at_eq u,at_eq A];unfold sm;omega
theorem zMN{l T:Nat}{w J:Bool}{av D:AV}{a b:V1}(hs:PtrR σ s p vP vB)(Q:IsR vP vB W B)(o:OkW p n W)(q:OkB p n B)(u:El p n a)(A:El p n b)(hl:l=a.length)(bH:T=b.length)
  (hk:ResI σ K (norm p W (bsum B a b n))):zA Tryz.prog 58 [.ptr s 0,.fz w av l (pis a),.fz J D T (pis b)] σ K:=by
 subst hl;subst bH;have N:=o.le;have cU:=u.1;have jm:=A.1;have P:=o.len;have nO:=q.len;have rH:=Q.P;obtain⟨⟨w1,a1,rP,rfl,hP⟩,⟨X,L,V,rfl,hB⟩⟩:=Q;refine zA.gh ?_;have an:¬s=σ.next:=Nat.ne_of_lt hs.lt;refine qG mix Tryz.func58 ?_;simp only[Z3,seval,-ae,zI hs.obj,an,YT,zf,mk8 (n:=W.length) (by omega),mkL (n:=W.length) (by omega)];refine zF (λm vs h'=>∃i:Nat,i<=n/\m=n-i/\vs=[.ptr s 0,.fz w av a.length (pis a),.fz J D b.length (pis b),.sl σ.next 0 W.length (.known W.length),.fz X L B.length V,.int .i64 B.length,.int .i64 i]/\h'=σ.new (pis (bi B a b n i))) n ?_ ?_
 .exact⟨0,by omega,by omega,rfl,by rw[bi,P]⟩
 .rintro m vs h' ⟨i,R,rfl,rfl,rfl⟩
  simp only[Z3,seval,-ae];refine iteI (λh=>?_) λaF=>?_
  .obtain⟨w4,a4,rs,hr,dy⟩:=hB.rowL h;have aL:=q.row i h;simp only[Z3,seval,-ae,h,hr];have U:=zAE q (a:=a) (b:=b) R;have Z:=bi_bd q o.pr N u A R;have gn:=zO h;refine zF (λm vs h'=>∃k:Nat,k<=n-1-i/\m=n-1-i-k/\vs=[.ptr s 0,.fz w av a.length (pis a),.fz J D b.length (pis b),.sl σ.next 0 W.length (.known W.length),.int .i64 i,.fz X L B.length V,.int .i64 B.length,.int .i64 i,
    .fz w4 a4 B[i].length rs,.int .i64 B[i].length,.int .i64 k]/\h'=σ.new (pis (bk (B.getD i []) a b i k (bi B a b n i)))) (n-1-i) ?_ ?_
   .exact⟨0,by omega,by omega,rfl,rfl⟩
   .rintro m vs h' ⟨k,bA,rfl,rfl,rfl⟩
    simp only[Z3,seval,-ae];refine iteI (λC=>?_) λaF=>?_
    .obtain⟨w5,a5,cK⟩:=dy.rowI C;have E:i+(1+k)<a.length:=by omega
     have H:i+(1+k)<b.length:=by omega
     have I:i<a.length:=by omega
     have G:i<b.length:=by omega
     obtain⟨f1,f2,f3,_,O,_⟩:=zGL o.pr u A (i:=i) (j:=i+(1+k)) (by omega) (by omega) I E G H;have S:=(q.ent i h k C).1;have fv:=zAD q (a:=a) (b:=b) (by omega:i<n) U (k:=k) (by omega);have Y:=bk_bd q o.pr u A (by omega:i<n) U Z (k:=k) (by omega);simp only[Z3,seval,-ae,C,cK,E,H,I,G,gi E,gi H,gi I,gi G,zK,wrapS (n:=n) (i:=i) (by omega) (by omega),wrapA (a:=i+1) (b:=k) (by omega),f1.w,f2.w,f3.w];refine zAG (xs:=bk (B.getD i []) a b i k (bi B a b n i)) (by omega) rfl (by simp only[Z3,seval,-ae]) (by rw[S.1];omega) (by omega) (λt h1 h2=>?_) ?_
     .have c1:=zI3 o.pr u A S i (i+(1+k)) t;have c2:=Y t;rw[at_eq h2]at c1;rw[at_eq h1]at c2;rw[O,Ux];unfold sm;omega
     .simp only[Z3,seval,-ae,WX C];refine⟨_,by omega,k+1,by omega,rfl,rfl,?_⟩;rw[O,zOP,bk,zO (B:=B) h,zO (B:=B[i]) C,UG]
    .have bN:k=n-1-i:=by omega
     subst bN;simp only[Z3,seval,-ae,WX h];exact⟨_,by omega,i+1,by omega,rfl,rfl,rfl⟩
  .have aU:i=n:=by omega
   subst aU;exact(zC0 hs rH o (qf q) (zQe q o.pr N u A) (by rw[qf q];exact P) (by simp[capOK]) hk).mono λv σ' hg=>by simp only[Z3,seval,-ae];exact hg
theorem zCX(h:okp p):El p n (List.replicate n 0):=⟨by simp,λx l=>by rw[Y9 l];have:=h.1;omega⟩
theorem zo{l T:Nat}{w L:Bool}{av C:AV}{a b:V1}(R:IsR vP vB W B)(o:OkW p n W)(q:OkB p n B)(D:El p n a)(E:El p n b)(hl:l=a.length)(bH:T=b.length)
  (hk:∀v,K (.fz true v n (pis (norm p W (bsum B a b n)))) σ):zA Tryz.prog 148 [.agg [.int .i64 p,vP,vB],.fz w av l (pis a),.fz L C T (pis b)] σ K:=by
 subst hl;subst bH;have be:=o.le;have cU:=D.1;have jm:=E.1;have fw:=o.len;have nO:=q.len;have P:=R;obtain⟨⟨w1,N,V,rfl,hP⟩,⟨X,O,U,rfl,hB⟩⟩:=R;refine zA.gh ?_;refine qG mix Tryz.func148 ?_;simp only[Z3,seval,-ae];refine zBC P fw (by omega) λv0=>?_;simp only[Z3,seval,-ae];refine zF (λm vs h'=>∃i:Nat,i<=n/\m=n-i/\∃v out,vs=[.fz w av a.length (pis a),.fz L C b.length (pis b),.ptr σ.next 0,.fz true v n (pis out),.int .i64 i]/\h'=σ.new [.int .i64 p,.fz w1 N W.length V,.fz X O B.length U]/\
  El p n out/\Eqv p n W (at_ out) (at_ (bi B a b n i))) n ?_ ?_
 .exact⟨0,by omega,by omega,v0,_,rfl,rfl,zCX o.pr,Eqv.refl _⟩
 .rintro m vs h' ⟨i,hi,rfl,v,out,rfl,rfl,h,A⟩
  simp only[Z3,seval,-ae];refine iteI (λZ=>?_) λY=>?_
  .have dY:i<B.length:=by omega
   obtain⟨w4,a4,rs,hr,dy⟩:=hB.rowL dY;have aL:=q.row i dY;have o9:=zAE q (a:=a) (b:=b) hi;simp only[Z3,seval,-ae,wrapS (n:=n) (i:=i) (by omega) (by omega)];refine zF (λm vs h'=>∃k:Nat,k<=n-1-i/\m=n-1-i-k/\∃v out,vs=[.fz w av a.length (pis a),.fz L C b.length (pis b),.ptr σ.next 0,.fz true v n (pis out),.int .i64 i,.int .i64 ((i+(1+k):Nat):Int)]/\h'=σ.new [.int .i64 p,.fz w1 N W.length V,.fz X O B.length U]/\
    El p n out/\Eqv p n W (at_ out) (at_ (bk (B.getD i []) a b i k (bi B a b n i)))) (n-1-i) ?_ ?_
   .exact⟨0,by omega,by omega,v,out,rfl,rfl,h,A⟩
   .rintro m vs h' ⟨k,bA,rfl,v,out,rfl,rfl,h,A⟩
    simp only[Z3,seval,-ae];refine iteI (λG=>?_) λY=>?_
    .have B9:k<B[i].length:=by omega
     obtain⟨w5,a5,cK⟩:=dy.rowI B9;have I:i+(1+k)<b.length:=by omega
     have J:i<a.length:=by omega
     have H:i<b.length:=by omega
     obtain⟨f1,f2,_,f3,_,Q⟩:=zGL o.pr D E (i:=i) (j:=i+(1+k)) (by omega) (by omega) J G H I;have u:=(q.ent i dY k B9).1;have gK:=zK4 o.pr D E i (i+(1+k));have e1:IntKind.i64.wrap (((i+(1+k):Nat):Int)-(i:Int))=((1+k:Nat):Int):=WQ
     have e2:IntKind.i64.wrap (((1+k:Nat):Int)-1)=(k:Int):=WQ
     simp only[Z3,seval,-ae,dY,hr,B9,cK,G,I,J,H,gi G,gi I,gi J,gi H,zK,f1.w,f2.w,f3.w,e1,e2];refine z8 P o h u h.1.symm rfl (by decide) (by rw[Q];omega) λv'=>?_;have e3:IntKind.i64.wrap (((i+(1+k):Nat):Int)+1)=((i+(1+(k+1)):Nat):Int):=WQ
     simp only[Z3,seval,-ae,e3];refine⟨_,by omega,k+1,by omega,rfl,v',_,rfl,zGg o (by rw[zR (h.1.trans u.1.symm),h.1]),?_⟩;refine(qN o (by rw[zR (h.1.trans u.1.symm),h.1])).trans ?_;have fv:=zAD q (a:=a) (b:=b) (by omega:i<n) o9 (k:=k) (by omega);have S:(B.getD i []).getD k []=B[i][k]:=by rw[zO (B:=B) dY,zO (B:=B[i]) B9]
     have h1:=A.add (Eqv.refl (p:=p) (n:=n) (W:=W) (λj=>coef a b i (i+(1+k))*at_ B[i][k] j));refine(Eqv.of_eq λj=>?_).trans (h1.trans (Eqv.of_eq λj=>?_))
     .rw[qK (h.1.trans u.1.symm),Q];omega
     .rw[bk,zBU (by rw[fv,S,u.1]),S,UG]
    .have bN:k=n-1-i:=by omega
     subst bN;simp only[Z3,seval,-ae,WX Z];exact⟨_,by omega,i+1,by omega,rfl,v,out,rfl,h,A⟩
  .have aU:i=n:=by omega
   subst aU
   have:out=norm p W (bsum B a b i):=zBH o h.1 (ZC o (qf q)) h.2 (Zx o (qf q)) (A.trans (qN o (qf q)).symm)
   rw[this];exact Gh.fin0 (zC σ _) trivial (hk v)
end
section
variable{s:Nat}
structure SzR(W:V2)(B:V3):Prop where
 Wl:W.length<=1048576
 w:∀r∈W,r.length<=1048576
 Bl:B.length<=1048576
 b:∀q∈B,q.length<=1048576
 c:∀q∈B,∀r∈q,r.length<=1048576
def entOK(p:Int)(n k:Nat)(v:V1):Prop:=isVec v p n/\isZ (v.take k)
def rowOK(p:Int)(n:Nat)(W:V2)(B:V3)(i:Nat):Prop:=
 entOK p n (i+1) (W.getD i [])/\(B.getD i []).length=n-1-i/\∀k,k<n-1-i->entOK p n (i+k+2) ((B.getD i []).getD k [])
def ZT(p:Int)(W:V2)(B:V3):Prop:=
 isP p/\W.length<=6/\B.length=W.length/\ipow p W.length<=729/\∀i,i<W.length->rowOK p W.length W B i
theorem entOK.el{k:Nat}{v:V1}(h:entOK p n k v):El p n v/\∀j,j<k->at_ v j=0:=by
 refine⟨⟨by have:=h.1.1;omega,h.1.2⟩,λj l=>?_⟩;rcases YG j v.length with x|x
 .rw[at_eq x];exact h.2 _ (by rw[UJ];exact⟨j,by omega,rfl⟩)
 .exact at_ge x
theorem ZT.w(h:ZT p W B):OkW p W.length W:=by
 obtain⟨u,A,D,E,C⟩:=h;refine⟨u.bd,A,rfl,λi l=>?_⟩;obtain⟨a,b⟩:=(C i l).1.el;rw[qP l]at a b;exact⟨a.1,a.2,λj G=>b j (by omega)⟩
theorem ZT.b(h:ZT p W B):OkB p W.length B:=by
 obtain⟨E,G,D,H,u⟩:=h;have C:∀i (h:i<B.length),B[i].length=W.length-1-i:=λi l=>by have:=(u i (by omega)).2.1;rwa[zO l]at this
 refine⟨D,C,λi l k A=>?_⟩;obtain⟨a,b⟩:=((u i (by omega)).2.2 k (by rw[<-C i l];exact A)).el;rw[zO l,zO A]at a b;exact⟨a,λj I=>b j (by omega)⟩
theorem zAP{l:Nat}{w:Bool}{a:AV}{xs:V1}(hs:PtrR σ s p vP vB)(h:FII vP W)(A:l=xs.length)(G:xs.length<=1048576)(C:isP p)(u:K (.bool (decide (isVec xs p W.length))) σ):
  zA Tryz.prog 106 [.ptr s 0,.fz w a l (pis xs)] σ K:=by
 have E:=C.bd;obtain⟨w1,D,H,rfl,h⟩:=h;refine zD mix Tryz.func106 ?_;simp only[Z3,seval,-ae,zI hs.obj];refine zKR A (by omega) (by omega) (by omega) ?_;simp only[Z3,seval,-ae];exact u
theorem zHi(S:IsR vP vB W B)(sz:SzR W B)(hk:∀t:Bool,(t=true↔ZT p W B)->K (.bool t) σ):zA Tryz.prog 119 [.agg [.int .i64 p,vP,vB]] σ K:=by
 have T:=S.P;have Sw:=S.B;obtain⟨⟨w1,C,E,rfl,hP⟩,⟨O,H,N,rfl,hB⟩⟩:=S;refine zA.gh ?_;have fin:∀{t:Bool} {σ':PHeap},(t=true↔ZT p W B)->Keep σ σ'->Gh σ K (.bool t) σ':=λh k=>Gh.fin0 k trivial (hk _ h);have no:∀{σ':PHeap},¬ZT p W B->Keep σ σ'->Gh σ K (.bool false) σ':=λh k=>fin ⟨λx=>(by cases x),λx=>absurd x h⟩ k;have u:=zC σ [.int .i64 p,.fz w1 C W.length E,.fz O H B.length N];have Y:PtrR (σ.new [.int .i64 p,.fz w1 C W.length E,.fz O H B.length N]) σ.next p (.fz w1 C W.length E) (.fz O H B.length N):=⟨by simp only[Z3,seval,-ae],by simp only[Z3,seval,-ae]⟩
 refine zD mix Tryz.func119 ?_;by_cases R:W.length<=6
 .have fx:¬(6:Int)<(W.length:Int):=by omega
  by_cases nO:B.length=W.length
  .have jN:(B.length:Int)=(W.length:Int):=by omega
   simp only[Z3,seval,-ae,fx,jN];refine zCE ?_;by_cases D:isP p
   .simp only[Z3,seval,-ae,D];refine zB5 D.bd R ?_;by_cases ho:ipow p W.length<=729
    .have cW:¬(729:Int)<ipow p W.length:=by omega
     simp only[Z3,seval,-ae,cW];refine zF (λm vs h'=>∃i:Nat,i<=W.length/\m=W.length-i/\vs=[.ptr σ.next 0,.int .i64 W.length,.fz w1 C W.length E,.int .i64 W.length,.int .i64 i]/\h'=σ.new [.int .i64 p,.fz w1 C W.length E,.fz O H B.length N]/\∀j,j<i->rowOK p W.length W B j) W.length ?_ ?_
     .exact⟨0,by omega,by omega,rfl,rfl,λj Q=>by omega⟩
     .rintro m vs h' ⟨i,hi,rfl,rfl,rfl,V⟩
      simp only[Z3,seval,-ae];refine iteI (λl=>?_) λaF=>?_
      .obtain⟨w4,a4,hr⟩:=hP.rowI l;have A:i<B.length:=by omega
       obtain⟨w5,a5,rs,X,dy⟩:=hB.rowL A;have u4:=sz.w _ (YK l);have jm:=sz.b _ (YK A);have bad:(isVec W[i] p W.length->isZ (W[i].take (i+1))->B[i].length=W.length-1-i->(∀k (h:k<B[i].length),entOK p W.length (i+k+2) B[i][k])->False)->¬ZT p W B:=λhb eH=>by
        obtain⟨⟨q1,q2⟩,q3,q4⟩:=eH.2.2.2.2 i l;rw[qP l]at q1 q2;rw[zO A]at q3;refine hb q1 q2 q3 λk h=>?_
        have:=q4 k (by omega)
        rwa[zO A,zO h]at this
       simp only[Z3,seval,-ae,l,hr];refine zAP Y T rfl u4 D ?_;by_cases J:isVec W[i] p W.length
       .have hle:((i:Int)+1<=(W[i].length:Int)):=by have:=J.1;omega
        have ve:(0:Int)<=((i+1:Nat):Int):=by omega
        have ig:((i+1:Nat):Int)<=(W[i].length:Int):=by omega
        simp only[Z3,seval,-ae,J,WX l,ig,zBd,Nat.sub_zero];refine Zu (by simp;omega) (by simp;omega) ?_;by_cases L:isZ (W[i].take (i+1))
        .have e1:IntKind.i64.wrap ((W.length:Int)-1)=(W.length:Int)-1:=WE;have Z:IntKind.i64.wrap ((W.length:Int)-1-(i:Int))=(W.length:Int)-1-(i:Int):=WE;by_cases hlen:B[i].length=W.length-1-i
         .have cn:(B[i].length:Int)=(W.length:Int)-1-(i:Int):=by omega
          simp only[Z3,seval,-ae,L,l,A,X,e1,Z,eq_true cn];refine zF (λm vs h'=>∃k:Nat,k<=B[i].length/\m=B[i].length-k/\vs=[.ptr σ.next 0,.int .i64 W.length,.int .i64 i,.fz w1 C W.length E,.int .i64 W.length,.int .i64 i,.fz w5 a5 B[i].length rs,.int .i64 B[i].length,.int .i64 k]/\
           h'=σ.new [.int .i64 p,.fz w1 C W.length E,.fz O H B.length N]/\∀j (h:j<B[i].length),j<k->entOK p W.length (i+j+2) B[i][j]) B[i].length ?_ ?_
          .exact⟨0,by omega,by omega,rfl,rfl,λj h Q=>by omega⟩
          .rintro m vs h' ⟨k,bA,rfl,rfl,rfl,U⟩
           simp only[Z3,seval,-ae];refine iteI (λG=>?_) λaF=>?_
           .obtain⟨w6,a6,cK⟩:=dy.rowI G;have bY:=sz.c _ (YK A) _ (YK G);simp only[Z3,seval,-ae,G,cK];refine zAP Y T rfl bY D ?_;by_cases I:isVec B[i][k] p W.length
            .have e3:IntKind.i64.wrap ((i:Int)+(k:Int))=((i+k:Nat):Int):=wrapA (by omega);have e4:IntKind.i64.wrap (((i+k:Nat):Int)+2)=((i+k+2:Nat):Int):=WE;have tS:((i+(k+2):Nat):Int)<=(B[i][k].length:Int):=by have:=I.1;omega
             simp only[Z3,seval,-ae,I,e3,e4,tS,zBd,Nat.sub_zero];refine Zu (by simp;omega) (by simp;omega) ?_;by_cases P:isZ (B[i][k].take (i+(k+2)))
             .simp only[Z3,seval,-ae,P,WX G];refine⟨_,by omega,k+1,by omega,rfl,rfl,λj h Q=>?_⟩;by_cases e:j=k
              .subst e;exact⟨I,P⟩
              .exact U j h (by omega)
             .simp only[Z3,seval,-ae,P];exact no (bad λ_ _ _ q=>P (q k G).2) u
            .simp only[Z3,seval,-ae,I];exact no (bad λ_ _ _ q=>I (q k G).1) u
           .simp only[Z3,seval,-ae,WX l];refine⟨_,by omega,i+1,by omega,rfl,rfl,λj Q=>?_⟩;by_cases e:j=i
            .subst e;refine⟨by rw[qP l];exact⟨J,L⟩,by rw[zO A];exact hlen,λt ht=>?_⟩;rw[zO A,zO (by omega:t<B[j].length)];exact U t (by omega) (by omega)
            .exact V j (by omega)
         .have cn:¬(B[i].length:Int)=(W.length:Int)-1-(i:Int):=by omega
          simp only[Z3,seval,-ae,L,l,A,X,e1,Z,cn];exact no (bad λ_ _ q _=>hlen q) u
        .simp only[Z3,seval,-ae,L];exact no (bad λ_ q _ _=>L q) u
       .simp only[Z3,seval,-ae,J];exact no (bad λq _ _ _=>J q) u
      .exact fin ⟨λ_=>⟨D,R,nO,ho,λj Q=>V j (by omega)⟩,λ_=>rfl⟩ u
    .have cW:(729:Int)<ipow p W.length:=by omega
     simp only[Z3,seval,-ae,cW];exact no (λh=>ho h.2.2.2.1) u
   .simp only[Z3,seval,-ae,D];exact no (λh=>D h.1) u
  .have jN:¬(B.length:Int)=(W.length:Int):=by omega
   simp only[Z3,seval,-ae,fx,jN];exact no (λh=>nO h.2.2.1) u
 .have fx:(6:Int)<(W.length:Int):=by omega
  simp only[Z3,seval,-ae,fx];exact no (λh=>R h.2.1) u
end
theorem zKF(hR:IsR vP vB W B)(sz:SzR W B)(hk:∀t:Bool,(t=true↔ZT p W B)->K (.bool t) σ):zA Tryz.prog 143 [.agg [.int .i64 p,vP,vB]] σ K:=by
 obtain⟨⟨w1,O,X,rfl,hP⟩,⟨Y,P,V,rfl,hB⟩⟩:=hR;refine zA.gh ?_;have fin:∀{t:Bool} {σ':PHeap},(t=true↔ZT p W B)->Keep σ σ'->Gh σ K (.bool t) σ':=λh k=>Gh.fin0 k trivial (hk _ h);have no:∀{σ':PHeap},¬ZT p W B->Keep σ σ'->Gh σ K (.bool false) σ':=λh k=>fin ⟨λx=>(by cases x),λx=>absurd x h⟩ k;have u:=zC σ [.int .i64 p,.fz w1 O W.length X,.fz Y P B.length V];refine qG mix Tryz.func143 ?_;simp only[Z3,seval,-ae];refine zAt ?_;by_cases C:isP p;rotate_left
 .simp only[Z3,seval,-ae,C];exact no (λh=>C h.1) u
 by_cases T:W.length<=6;rotate_left
 .have L:(6:Int)<(W.length:Int):=by omega
  simp only[Z3,seval,-ae,C,L];exact no (λh=>T h.2.1) u
 have L:¬(6:Int)<(W.length:Int):=by omega
 by_cases nO:B.length=W.length;rotate_left
 .have U:¬(B.length:Int)=(W.length:Int):=by omega
  simp only[Z3,seval,-ae,C,L,U];exact no (λh=>nO h.2.2.1) u
 have U:(B.length:Int)=(W.length:Int):=by omega
 have gX:=C.bd;simp only[Z3,seval,-ae,C,L,eq_true U];refine zF2 C.bd T λo k1 k2 k3 k4=>?_;by_cases N:ipow p W.length<=729;rotate_left
 .have R:(729:Int)<o:=by rcases Um 729 o with x|x;exact x;exact absurd (k1.1 x) N
  simp only[Z3,seval,-ae,R];exact no (λh=>N h.2.2.2.1) u
 have R:¬(729:Int)<o:=by have:=k1.2 N;omega
 simp only[Z3,seval,-ae,R];refine zF (λm vs h'=>∃i:Nat,i<=W.length/\m=W.length-i/\vs=[.ptr σ.next 0,.int .i64 W.length,.int .i64 i]/\h'=σ.new [.int .i64 p,.fz w1 O W.length X,.fz Y P B.length V]/\∀j,j<i->rowOK p W.length W B j) W.length ?_ ?_
 .exact⟨0,by omega,by omega,rfl,rfl,λj G=>by omega⟩
 .rintro m vs h' ⟨i,hi,rfl,rfl,rfl,ai⟩
  simp only[Z3,seval,-ae];refine iteI (λl=>?_) λaF=>?_;rotate_left
  .exact fin ⟨λ_=>⟨C,T,nO,N,λj G=>ai j (by omega)⟩,λ_=>rfl⟩ u
  obtain⟨w4,a4,hr⟩:=hP.rowI l;have A:i<B.length:=by omega
  obtain⟨w5,a5,rs,Q,dy⟩:=hB.rowL A;have u4:=sz.w _ (YK l);have jm:=sz.b _ (YK A);have bad:(isVec W[i] p W.length->isZ (W[i].take (i+1))->B[i].length=W.length-1-i->(∀k (h:k<B[i].length),entOK p W.length (i+k+2) B[i][k])->False)->¬ZT p W B:=λhb eH=>by
   obtain⟨⟨q1,q2⟩,q3,q4⟩:=eH.2.2.2.2 i l;rw[qP l]at q1 q2;rw[zO A]at q3;refine hb q1 q2 q3 λk h=>?_
   have:=q4 k (by omega)
   rwa[zO A,zO h]at this
  simp only[Z3,seval,-ae,l,hr];refine zFG rfl (by omega) (by omega) (by omega) ?_;by_cases H:isVec W[i] p W.length;rotate_left
  .simp only[Z3,seval,-ae,H];exact no (bad λq _ _ _=>H q) u
  have gE:W[i].length=W.length:=by have:=H.1;omega
  simp only[Z3,seval,-ae,H,l,hr];refine zEr rfl (by omega) (by omega) ?_;by_cases I:isZ (W[i].take (i+1));rotate_left
  .simp only[Z3,seval,-ae,I];exact no (bad λ_ q _ _=>I q) u
  have e1:IntKind.i64.wrap ((W.length:Int)-1)=(W.length:Int)-1:=WE;have e2:IntKind.i64.wrap ((W.length:Int)-1-(i:Int))=(W.length:Int)-1-(i:Int):=WE;by_cases hlen:B[i].length=W.length-1-i;rotate_left
  .have S:¬(B[i].length:Int)=(W.length:Int)-1-(i:Int):=by omega
   simp only[Z3,seval,-ae,I,l,A,Q,e1,e2,S];exact no (bad λ_ _ q _=>hlen q) u
  have S:(B[i].length:Int)=(W.length:Int)-1-(i:Int):=by omega
  simp only[Z3,seval,-ae,I,l,A,Q,e1,e2,eq_true S,WX l];refine zF (λm vs h'=>∃k:Nat,k<=B[i].length/\m=B[i].length-k/\vs=[.ptr σ.next 0,.int .i64 W.length,.int .i64 i,.int .i64 ((i+(1+k):Nat):Int)]/\
   h'=σ.new [.int .i64 p,.fz w1 O W.length X,.fz Y P B.length V]/\∀j (h:j<B[i].length),j<k->entOK p W.length (i+j+2) B[i][j]) B[i].length ?_ ?_
  .exact⟨0,by omega,by omega,rfl,rfl,λj h G=>by omega⟩
  .rintro m vs h' ⟨k,bA,rfl,rfl,rfl,Z⟩
   simp only[Z3,seval,-ae];refine iteI (λG=>?_) λaF=>?_;rotate_left
   .simp only[Z3,seval,-ae,WX l];refine⟨_,by omega,i+1,by omega,rfl,rfl,λj G=>?_⟩;by_cases e:j=i
    .subst e;refine⟨by rw[qP l];exact⟨H,I⟩,by rw[zO A];exact hlen,λt ht=>?_⟩;rw[zO A,zO (by omega:t<B[j].length)];exact Z t (by omega) (by omega)
    .exact ai j (by omega)
   have D:k<B[i].length:=by omega
   obtain⟨w6,a6,cK⟩:=dy.rowI D;have bY:=sz.c _ (YK A) _ (YK D);have e3:IntKind.i64.wrap (((i+(1+k):Nat):Int)-(i:Int))=((1+k:Nat):Int):=WQ
   have e4:IntKind.i64.wrap (((1+k:Nat):Int)-1)=(k:Int):=WQ
   simp only[Z3,seval,-ae,A,Q,e3,e4,D,cK];refine zFG rfl (by omega) (by omega) (by omega) ?_;by_cases E:isVec B[i][k] p W.length;rotate_left
   .simp only[Z3,seval,-ae,E];exact no (bad λ_ _ _ q=>E (q k D).1) u
   have Mi:B[i][k].length=W.length:=by have:=E.1;omega
   simp only[Z3,seval,-ae,E];refine zEr rfl (by omega) (by omega) ?_;have ek:i+(1+k)+1=i+(k+2):=by omega
   rw[ek];by_cases J:isZ (B[i][k].take (i+(k+2)));rotate_left
   .simp only[Z3,seval,-ae,J];exact no (bad λ_ _ _ q=>J (q k D).2) u
   have e5:IntKind.i64.wrap (((i+(1+k):Nat):Int)+1)=((i+(1+(k+1)):Nat):Int):=WQ
   simp only[Z3,seval,-ae,J,e5];refine⟨_,by omega,k+1,by omega,rfl,rfl,λj h G=>?_⟩;by_cases e:j=k
   .subst e;exact⟨E,J⟩
   .exact Z j h (by omega)
section
variable{s:Nat}
abbrev br(p:Int)(W:V2)(B:V3)(n:Nat)(a b:V1):V1:=norm p W (bsum B a b n)
abbrev ladd(p:Int)(W:V2)(a b:V1):V1:=norm p W (lmix 1 a 1 b)
abbrev lmul(p:Int)(W:V2)(k:Int)(a:V1):V1:=norm p W (lmix k a 0 a)
theorem br_el(o:OkW p n W)(q:OkB p n B){a b:V1}:El p n (br p W B n a b):=zGg o (qf q)
theorem zP(o:OkW p n W){k m:Int}{a b:V1}(h:El p n a)(l:El p n b):El p n (norm p W (lmix k a m b)):=zGg o (by rw[zR (h.1.trans l.1.symm)];exact h.1)
theorem qA(l:okp p){k:Nat}(A:k<n):El p n (unitL n k):=⟨zQ n k,λx u=>by
 have:=l.1
 rcases List.mem_or_eq_of_mem_set u with h|h
 .rw[Y9 h];omega
 .omega⟩
def F1(p:Int)(W:V2)(B:V3)(n i j:Nat):Prop:=lmul p W p (br p W B n (unitL n i) (unitL n j))=br p W B n (W.getD i []) (unitL n j)
def F2(p:Int)(W:V2)(B:V3)(n i j k:Nat):Prop:=
 isZ (ladd p W (ladd p W (br p W B n (br p W B n (unitL n i) (unitL n j)) (unitL n k)) (br p W B n (br p W B n (unitL n j) (unitL n k)) (unitL n i))) (br p W B n (br p W B n (unitL n k) (unitL n i)) (unitL n j)))
def Zc(p:Int)(W:V2)(B:V3)(n:Nat):Prop:=(∀i j,i<n->j<n->F1 p W B n i j)/\∀i j k,i<j->j<k->k<n->F2 p W B n i j k
theorem qC{k:Nat}(u:n<=1048576)(h:k<n)(l:∀a,K (.fz true a n (pis (unitL n k))) σ):zA Tryz.prog 49 [.int .i64 n,.int .i64 k] σ K:=
 zA.fz (λK'=>zHM u h) (zL _ _) λo cap=>l _
theorem qY{l h:Nat}{w I:Bool}{av A:AV}{a b:V1}(hs:PtrR σ s p vP vB)(C:IsR vP vB W B)(o:OkW p n W)(q:OkB p n B)(D:El p n a)(E:El p n b)(H:l=a.length)(u:h=b.length)
  (G:∀v,K (.fz true v n (pis (br p W B n a b))) σ):zA Tryz.prog 58 [.ptr s 0,.fz w av l (pis a),.fz I A h (pis b)] σ K:=
 zA.fzN (br_el o q).1 (λK'=>zMN hs C o q D E H u) G
theorem Qa{l A:Nat}{w I:Bool}{av D:AV}{a b:V1}(hs:PtrR σ s p vP vB)(E:FII vP W)(o:OkW p n W)(h:El p n a)(u:El p n b)(H:l=a.length)(C:A=b.length)
  (G:∀v,K (.fz true v n (pis (ladd p W a b))) σ):zA Tryz.prog 57 [.ptr s 0,.fz w av l (pis a),.fz I D A (pis b)] σ K:=
 zA.fzN (zP o h u).1 (λK'=>zD5 hs E o h u H C) G
theorem QK{l:Nat}{w:Bool}{av:AV}{k:Int}{a:V1}(hs:PtrR σ s p vP vB)(u:FII vP W)(o:OkW p n W)(h:El p n a)(C:l=a.length)(D:-1000000000<=k/\k<=1000000000)
  (A:∀v,K (.fz true v n (pis (lmul p W k a))) σ):zA Tryz.prog 100 [.ptr s 0,.int .i64 k,.fz w av l (pis a)] σ K:=
 zA.fzN (zP o h h).1 (λK'=>zCF hs u o h C D) A
theorem zMh(o:OkW p n W){i:Nat}(h:i<W.length):El p n W[i]:=⟨(o.row i h).1,(o.row i h).2.1⟩
theorem zJ5(hs:PtrR σ s p vP vB)(Z:IsR vP vB W B)(o:OkW p n W)(q:OkB p n B)(hk:∀kind i j k:Int,(kind=0↔Zc p W B n)->K (.tup [.int .i64 kind,.int .i64 i,.int .i64 j,.int .i64 k]) σ):zA Tryz.prog 120 [.ptr s 0] σ K:=by
 have be:=o.le;have fw:=o.len;have R:=o.pr;have I:=Z;have rH:=Z.P;obtain⟨⟨w1,a1,rP,rfl,hP⟩,⟨w3,a3,rB,rfl,hB⟩⟩:=Z;have u9:-1000000000<=p/\p<=1000000000:=by unfold okp at R;omega
 subst fw;refine qG mix Tryz.func120 ?_;simp only[Z3,seval,-ae,zI hs.obj];refine zF (λm vs h'=>∃i:Nat,i<=W.length/\m=W.length-i/\vs=[.ptr s 0,.int .i64 W.length,.int .i64 W.length,.int .i64 i]/\σ=h'/\∀u l,u<i->l<W.length->F1 p W B W.length u l) W.length ?_ ?_
 .exact⟨0,by omega,by omega,rfl,rfl,λu l h=>by omega⟩
 rintro m vs h' ⟨i,hi,rfl,rfl,rfl,U⟩
 simp only[Z3,seval,-ae];refine iteI (λA=>?_) λS=>?_
 .refine zF (λm vs h'=>∃j:Nat,j<=W.length/\m=W.length-j/\vs=[.ptr s 0,.int .i64 W.length,.int .i64 i,.int .i64 W.length,.int .i64 i,.int .i64 W.length,.int .i64 j]/\σ=h'/\∀l,l<j->F1 p W B W.length i l) W.length ?_ ?_
  .exact⟨0,by omega,by omega,rfl,rfl,λl h=>by omega⟩
  rintro m vs h' ⟨j,hj,rfl,rfl,rfl,aV⟩
  simp only[Z3,seval,-ae];refine iteI (λE=>?_) λS=>?_
  .have J:=qA R A;have G:=qA R E;have P:=br_el o q (a:=unitL W.length i) (b:=unitL W.length j);obtain⟨w4,a4,hr⟩:=hP.rowI A;have er:=zMh o A;refine qC (by omega) A λv1=>?_;simp only[Z3,seval,-ae];refine qC (by omega) E λv2=>?_;simp only[Z3,seval,-ae,zI hs.obj,A,hr];refine qY hs I o q J G (zQ _ _).symm (zQ _ _).symm λv3=>?_;simp only[Z3,seval,-ae,zI hs.obj,A,hr];refine QK hs rH o P P.1.symm u9 λv4=>?_;simp only[Z3,seval,-ae,zI hs.obj,A,hr];refine qY hs I o q er G rfl (zQ _ _).symm λv5=>?_;simp only[Z3,seval,-ae];refine zAo (zP o P P).1.symm (br_el o q).1.symm (by rw[(zP o P P).1];omega) ?_;have T:(lmul p W p (br p W B W.length (unitL W.length i) (unitL W.length j))=br p W B W.length W[i] (unitL W.length j))↔F1 p W B W.length i j:=by unfold F1;rw[qP A]
   by_cases H:lmul p W p (br p W B W.length (unitL W.length i) (unitL W.length j))=br p W B W.length W[i] (unitL W.length j)
   .simp only[Z3,seval,-ae,eq_true H,WX E];refine⟨_,by omega,j+1,by omega,rfl,rfl,λl h=>?_⟩;by_cases e:l=j
    .subst e;exact T.1 H
    .exact aV l (by omega)
   .simp only[Z3,seval,-ae,H];exact hk _ _ _ _ ⟨λx=>by omega,λx=>absurd (T.2 (x.1 i j A E)) H⟩
  .simp only[Z3,seval,-ae,WX A];refine⟨_,by omega,i+1,by omega,rfl,rfl,λu l h h'=>?_⟩;by_cases e:u=i
   .subst e;exact aV l (by omega)
   .exact U u l (by omega) h'
 have U:∀i j,i<W.length->j<W.length->F1 p W B W.length i j:=λu l h h'=>U u l (by omega) h';clear S hi;refine zF (λm vs h'=>∃i:Nat,i<=W.length/\m=W.length-i/\vs=[.ptr s 0,.int .i64 W.length,.int .i64 W.length,.int .i64 i]/\σ=h'/\∀u j k,u<i->u<j->j<k->k<W.length->F2 p W B W.length u j k) W.length ?_ ?_
 .exact⟨0,by omega,by omega,rfl,rfl,λu j k h=>by omega⟩
 rintro m vs h' ⟨i,hi,rfl,rfl,rfl,mQ⟩
 simp only[Z3,seval,-ae];refine iteI (λA=>?_) λS=>?_;rotate_left
 .exact hk _ _ _ _ ⟨λ_=>⟨U,λi j k L N O=>mQ i j k (by omega) L N O⟩,λ_=>rfl⟩
 simp only[Z3,seval,-ae,WX A];refine zF (λm vs h'=>∃j:Nat,i+1<=j/\j<=W.length/\m=W.length-j/\vs=[.ptr s 0,.int .i64 W.length,.int .i64 i,.int .i64 j,.int .i64 W.length,.int .i64 i]/\σ=h'/\∀l k,i<l->l<j->l<k->k<W.length->F2 p W B W.length i l k) (W.length-(i+1)) ?_ ?_
 .exact⟨i+1,by omega,by omega,by omega,rfl,rfl,λl k L N=>by omega⟩
 rintro m vs h' ⟨j,rh,hj,rfl,rfl,rfl,mP⟩
 simp only[Z3,seval,-ae];refine iteI (λE=>?_) λS=>?_;rotate_left
 .simp only[Z3,seval,-ae,WX A];refine⟨_,by omega,i+1,by omega,rfl,rfl,λu l k L N O X=>?_⟩;by_cases e:u=i
  .subst e;exact mP l k N (by omega) O X
  .exact mQ u l k (by omega) N O X
 simp only[Z3,seval,-ae,WX E];refine zF (λm vs h'=>∃k:Nat,j+1<=k/\k<=W.length/\m=W.length-k/\vs=[.ptr s 0,.int .i64 W.length,.int .i64 i,.int .i64 j,.int .i64 k,.int .i64 W.length,.int .i64 i]/\σ=h'/\∀D,j<D->D<k->F2 p W B W.length i j D) (W.length-(j+1)) ?_ ?_
 .exact⟨j+1,by omega,by omega,by omega,rfl,rfl,λD L N=>by omega⟩
 rintro m vs h' ⟨k,vn,bA,rfl,rfl,rfl,mO⟩
 simp only[Z3,seval,-ae];refine iteI (λV=>?_) λS=>?_;rotate_left
 .simp only[Z3,seval,-ae,WX E];refine⟨_,by omega,j+1,by omega,by omega,rfl,rfl,λl D L N O X=>?_⟩;by_cases e:l=j
  .subst e;exact mO D O (by omega)
  .exact mP l D L (by omega) O X
 have J:=qA R A;have G:=qA R E;have Q:=qA R V;have C:∀a b,El p W.length (br p W B W.length a b):=λa b=>br_el o q;refine qC (by omega) A λv1=>?_;simp only[Z3,seval,-ae];refine qC (by omega) E λv2=>?_;simp only[Z3,seval,-ae];refine qC (by omega) V λv3=>?_;simp only[Z3,seval,-ae];refine qY hs I o q J G J.1.symm G.1.symm λv4=>?_;simp only[Z3,seval,-ae];refine qY hs I o q (C _ _) Q (C _ _).1.symm Q.1.symm λv5=>?_;simp only[Z3,seval,-ae];refine qY hs I o q G Q G.1.symm Q.1.symm λv6=>?_;simp only[Z3,seval,-ae];refine qY hs I o q (C _ _) J (C _ _).1.symm J.1.symm λv7=>?_;simp only[Z3,seval,-ae];refine Qa hs rH o (C _ _) (C _ _) (C _ _).1.symm (C _ _).1.symm λv8=>?_;have Y:=zP o (k:=1) (m:=1) (C (br p W B W.length (unitL W.length i) (unitL W.length j)) (unitL W.length k)) (C (br p W B W.length (unitL W.length j) (unitL W.length k)) (unitL W.length i));simp only[Z3,seval,-ae];refine qY hs I o q Q J Q.1.symm J.1.symm λv9=>?_;simp only[Z3,seval,-ae];refine qY hs I o q (C _ _) G (C _ _).1.symm G.1.symm λv10=>?_;simp only[Z3,seval,-ae];refine Qa hs rH o Y (C _ _) Y.1.symm (C _ _).1.symm λv11=>?_;have Bk:=zP o (k:=1) (m:=1) Y (C (br p W B W.length (unitL W.length k) (unitL W.length i)) (unitL W.length j));simp only[Z3,seval,-ae];refine Zu Bk.1.symm (by rw[Bk.1];omega) ?_;have T:isZ (norm p W (lmix 1 (ladd p W (br p W B W.length (br p W B W.length (unitL W.length i) (unitL W.length j)) (unitL W.length k)) (br p W B W.length (br p W B W.length (unitL W.length j) (unitL W.length k)) (unitL W.length i))) 1 (br p W B W.length (br p W B W.length (unitL W.length k) (unitL W.length i)) (unitL W.length j))))↔F2 p W B W.length i j k:=Iff.rfl;by_cases H:isZ (norm p W (lmix 1 (ladd p W (br p W B W.length (br p W B W.length (unitL W.length i) (unitL W.length j)) (unitL W.length k)) (br p W B W.length (br p W B W.length (unitL W.length j) (unitL W.length k)) (unitL W.length i))) 1 (br p W B W.length (br p W B W.length (unitL W.length k) (unitL W.length i)) (unitL W.length j))))
 .simp only[Z3,seval,-ae,eq_true H,WX V];refine⟨_,by omega,k+1,by omega,by omega,rfl,rfl,λD L N=>?_⟩;by_cases e:D=k
  .subst e;exact T.1 H
  .exact mO D L (by omega)
 .simp only[Z3,seval,-ae,H];exact hk _ _ _ _ ⟨λx=>by omega,λx=>absurd (T.2 (x.2 i j k (by omega) (by omega) V)) H⟩
end
theorem zKH(hR:IsR vP vB W B)(o:OkW p n W)(q:OkB p n B)(hk:∀kind i j k:Int,(kind=0↔Zc p W B n)->K (.tup [.int .i64 kind,.int .i64 i,.int .i64 j,.int .i64 k]) σ):zA Tryz.prog 144 [.agg [.int .i64 p,vP,vB]] σ K:=by
 have be:=o.le;have fw:=o.len;have S:=o.pr;have u:=hR;have rH:=hR.P;obtain⟨⟨w1,O,U,rfl,hP⟩,⟨V,P,T,rfl,hB⟩⟩:=hR;have u9:-1000000000<=p/\p<=1000000000:=by unfold okp at S;omega
 subst fw;refine zA.gh ?_;have aq:=zC σ [.int .i64 p,.fz w1 O W.length U,.fz V P B.length T];have fin:∀kind i j k:Int,(kind=0↔Zc p W B W.length)->Gh σ K (.tup [.int .i64 kind,.int .i64 i,.int .i64 j,.int .i64 k]) (σ.new [.int .i64 p,.fz w1 O W.length U,.fz V P B.length T]):=λkind i j k h=>Gh.fin0 aq ⟨trivial,trivial,trivial,trivial,trivial⟩ (hk kind i j k h);refine qG mix Tryz.func144 ?_;simp only[Z3,seval,-ae];refine zF (λm vs h'=>∃i:Nat,i<=W.length/\m=W.length-i/\vs=[.ptr σ.next 0,.int .i64 W.length,.int .i64 i]/\σ.new [.int .i64 p,.fz w1 O W.length U,.fz V P B.length T]=h'/\∀C l,C<i->l<W.length->F1 p W B W.length C l) W.length ?_ ?_
 .exact⟨0,by omega,by omega,rfl,rfl,λC l h=>by omega⟩
 rintro m vs h' ⟨i,hi,rfl,rfl,rfl,ai⟩
 simp only[Z3,seval,-ae];refine iteI (λA=>?_) λY=>?_
 .refine zF (λm vs h'=>∃j:Nat,j<=W.length/\m=W.length-j/\vs=[.ptr σ.next 0,.int .i64 W.length,.int .i64 i,.int .i64 j]/\σ.new [.int .i64 p,.fz w1 O W.length U,.fz V P B.length T]=h'/\∀l,l<j->F1 p W B W.length i l) W.length ?_ ?_
  .exact⟨0,by omega,by omega,rfl,rfl,λl h=>by omega⟩
  rintro m vs h' ⟨j,hj,rfl,rfl,rfl,aV⟩
  simp only[Z3,seval,-ae];refine iteI (λE=>?_) λY=>?_
  .have J:=qA S A;have H:=qA S E;have Q:=br_el o q (a:=unitL W.length i) (b:=unitL W.length j);obtain⟨w4,a4,hr⟩:=hP.rowI A;have er:=zMh o A;refine qo u rfl (by omega) A λv1=>?_;simp only[Z3,seval,-ae];refine qo u rfl (by omega) E λv2=>?_;simp only[Z3,seval,-ae,A,hr];refine zo u o q J H (zQ _ _).symm (zQ _ _).symm λv3=>?_;simp only[Z3,seval,-ae,A,hr];refine zBC u rfl (by omega) λvz=>?_;simp only[Z3,seval,-ae];refine z8 u o Q (zCX S) Q.1.symm (by simp) u9 (by decide) λv4=>?_;rw[zPD (Q.1.trans (by simp))];simp only[Z3,seval,-ae,A,hr];refine qo u rfl (by omega) E λv6=>?_;simp only[Z3,seval,-ae,A,hr];refine zo u o q er H rfl (zQ _ _).symm λv5=>?_;simp only[Z3,seval,-ae];refine Ql (zP o Q Q).1.symm (br_el o q).1.symm (by rw[(zP o Q Q).1];omega) ?_;have Z:(lmul p W p (br p W B W.length (unitL W.length i) (unitL W.length j))=br p W B W.length W[i] (unitL W.length j))↔F1 p W B W.length i j:=by unfold F1;rw[qP A]
   by_cases I:lmul p W p (br p W B W.length (unitL W.length i) (unitL W.length j))=br p W B W.length W[i] (unitL W.length j)
   .simp only[Z3,seval,-ae,eq_true I,WX E];refine⟨_,by omega,j+1,by omega,rfl,rfl,λl h=>?_⟩;by_cases e:l=j
    .subst e;exact Z.1 I
    .exact aV l (by omega)
   .simp only[Z3,seval,-ae,I];exact fin _ _ _ _ ⟨λx=>by omega,λx=>absurd (Z.2 (x.1 i j A E)) I⟩
  .simp only[Z3,seval,-ae,WX A];refine⟨_,by omega,i+1,by omega,rfl,rfl,λC l h h'=>?_⟩;by_cases e:C=i
   .subst e;exact aV l (by omega)
   .exact ai C l (by omega) h'
 have ai:∀i j,i<W.length->j<W.length->F1 p W B W.length i j:=λC l h h'=>ai C l (by omega) h';clear Y hi;refine zF (λm vs h'=>∃i:Nat,i<=W.length/\m=W.length-i/\vs=[.ptr σ.next 0,.int .i64 W.length,.int .i64 i]/\σ.new [.int .i64 p,.fz w1 O W.length U,.fz V P B.length T]=h'/\∀C j k,C<i->C<j->j<k->k<W.length->F2 p W B W.length C j k) W.length ?_ ?_
 .exact⟨0,by omega,by omega,rfl,rfl,λC j k h=>by omega⟩
 rintro m vs h' ⟨i,hi,rfl,rfl,rfl,mQ⟩
 simp only[Z3,seval,-ae];refine iteI (λA=>?_) λY=>?_;rotate_left
 .exact fin _ _ _ _ ⟨λ_=>⟨ai,λi j k L N R=>mQ i j k (by omega) L N R⟩,λ_=>rfl⟩
 simp only[Z3,seval,-ae,WX A];refine zF (λm vs h'=>∃j:Nat,i+1<=j/\j<=W.length/\m=W.length-j/\vs=[.ptr σ.next 0,.int .i64 W.length,.int .i64 i,.int .i64 j]/\σ.new [.int .i64 p,.fz w1 O W.length U,.fz V P B.length T]=h'/\∀l k,i<l->l<j->l<k->k<W.length->F2 p W B W.length i l k) (W.length-(i+1)) ?_ ?_
 .exact⟨i+1,by omega,by omega,by omega,rfl,rfl,λl k L N=>by omega⟩
 rintro m vs h' ⟨j,rh,hj,rfl,rfl,rfl,mP⟩
 simp only[Z3,seval,-ae];refine iteI (λE=>?_) λY=>?_;rotate_left
 .simp only[Z3,seval,-ae,WX A];refine⟨_,by omega,i+1,by omega,rfl,rfl,λC l k L N R h4=>?_⟩;by_cases e:C=i
  .subst e;exact mP l k N (by omega) R h4
  .exact mQ C l k (by omega) N R h4
 simp only[Z3,seval,-ae,WX E];refine zF (λm vs h'=>∃k:Nat,j+1<=k/\k<=W.length/\m=W.length-k/\vs=[.ptr σ.next 0,.int .i64 W.length,.int .i64 i,.int .i64 j,.int .i64 k]/\σ.new [.int .i64 p,.fz w1 O W.length U,.fz V P B.length T]=h'/\∀G,j<G->G<k->F2 p W B W.length i j G) (W.length-(j+1)) ?_ ?_
 .exact⟨j+1,by omega,by omega,by omega,rfl,rfl,λG L N=>by omega⟩
 rintro m vs h' ⟨k,vn,bA,rfl,rfl,rfl,mO⟩
 simp only[Z3,seval,-ae];refine iteI (λbK=>?_) λY=>?_;rotate_left
 .simp only[Z3,seval,-ae,WX E];refine⟨_,by omega,j+1,by omega,by omega,rfl,rfl,λl G L N R h4=>?_⟩;by_cases e:l=j
  .subst e;exact mO G R (by omega)
  .exact mP l G L (by omega) R h4
 have J:=qA S A;have H:=qA S E;have X:=qA S bK;have D:∀a b,El p W.length (br p W B W.length a b):=λa b=>br_el o q;refine qo u rfl (by omega) A λv1=>?_;simp only[Z3,seval,-ae];refine qo u rfl (by omega) E λv2=>?_;simp only[Z3,seval,-ae];refine qo u rfl (by omega) bK λv3=>?_;simp only[Z3,seval,-ae];refine zo u o q J H J.1.symm H.1.symm λv4=>?_;simp only[Z3,seval,-ae];refine zo u o q (D _ _) X (D _ _).1.symm X.1.symm λv5=>?_;simp only[Z3,seval,-ae];refine zo u o q H X H.1.symm X.1.symm λv6=>?_;simp only[Z3,seval,-ae];refine zo u o q (D _ _) J (D _ _).1.symm J.1.symm λv7=>?_;simp only[Z3,seval,-ae];refine z8 u o (D _ _) (D _ _) (D _ _).1.symm (D _ _).1.symm (by decide) (by decide) λv8=>?_;have e8:=zP o (k:=1) (m:=1) (D (br p W B W.length (unitL W.length i) (unitL W.length j)) (unitL W.length k)) (D (br p W B W.length (unitL W.length j) (unitL W.length k)) (unitL W.length i));simp only[Z3,seval,-ae];refine zo u o q X J X.1.symm J.1.symm λv9=>?_;simp only[Z3,seval,-ae];refine zo u o q (D _ _) H (D _ _).1.symm H.1.symm λv10=>?_;simp only[Z3,seval,-ae];refine z8 u o e8 (D _ _) e8.1.symm (D _ _).1.symm (by decide) (by decide) λv11=>?_;have Bk:=zP o (k:=1) (m:=1) e8 (D (br p W B W.length (unitL W.length k) (unitL W.length i)) (unitL W.length j));simp only[Z3,seval,-ae];refine ZO Bk.1.symm (by rw[Bk.1];omega) ?_;have Z:isZ (norm p W (lmix 1 (ladd p W (br p W B W.length (br p W B W.length (unitL W.length i) (unitL W.length j)) (unitL W.length k)) (br p W B W.length (br p W B W.length (unitL W.length j) (unitL W.length k)) (unitL W.length i))) 1 (br p W B W.length (br p W B W.length (unitL W.length k) (unitL W.length i)) (unitL W.length j))))↔F2 p W B W.length i j k:=Iff.rfl;by_cases I:isZ (norm p W (lmix 1 (ladd p W (br p W B W.length (br p W B W.length (unitL W.length i) (unitL W.length j)) (unitL W.length k)) (br p W B W.length (br p W B W.length (unitL W.length j) (unitL W.length k)) (unitL W.length i))) 1 (br p W B W.length (br p W B W.length (unitL W.length k) (unitL W.length i)) (unitL W.length j))))
 .simp only[Z3,seval,-ae,eq_true I,WX bK];refine⟨_,by omega,k+1,by omega,by omega,rfl,rfl,λG L N=>?_⟩;by_cases e:G=k
  .subst e;exact Z.1 I
  .exact mO G L (by omega)
 .simp only[Z3,seval,-ae,I];exact fin _ _ _ _ ⟨λx=>by omega,λx=>absurd (Z.2 (x.2 i j k (by omega) (by omega) bK)) I⟩
def isLie(p:Int)(W:V2)(B:V3):Prop:=ZT p W B/\Zc p W B W.length
theorem zJQ(l:IsR vP vB W B)(sz:SzR W B)(C:∀t:Bool,(t=true↔isLie p W B)->K (.bool t) σ):zA Tryz.prog 63 [.agg [.int .i64 p,vP,vB]] σ K:=by
 have E:=l.P.one;have G:=l.B.one;refine zA.gh ?_;have A:=zC σ [.int .i64 p,vP,vB];refine zD mix Tryz.func63 ?_;simp only[Z3,seval,-ae,E,G];refine zHi l sz λt D=>?_;cases t with
 |false=>
  simp only[Z3,seval,-ae];exact Gh.fin0 A trivial (C _ ⟨λx=>(by cases x),λx=>D.2 x.1⟩)
 |true=>
  have u:=D.1 rfl;simp only[Z3,seval,-ae];refine zJ5 ⟨by simp only[Z3,seval,-ae],by simp only[Z3,seval,-ae]⟩ l u.w u.b λkind i j k h=>?_;simp only[Z3,seval,-ae];exact Gh.fin0 A trivial (C _ ⟨λx=>⟨u,h.1 (by simpa using x)⟩,λx=>by simpa using h.2 x.2⟩)
theorem zLy(l:IsR vP vB W B)(sz:SzR W B)(C:∀t:Bool,(t=true↔isLie p W B)->K (.bool t) σ):zA Tryz.prog 72 [.agg [.int .i64 p,vP,vB]] σ K:=by
 have E:=l.P.one;have G:=l.B.one;refine zA.gh ?_;have A:=zC σ [.int .i64 p,vP,vB];refine zD mix Tryz.func72 ?_;simp only[Z3,seval,-ae,E,G];refine zKF l sz λt D=>?_;cases t with
 |false=>
  simp only[Z3,seval,-ae];exact Gh.fin0 A trivial (C _ ⟨λx=>(by cases x),λx=>D.2 x.1⟩)
 |true=>
  have u:=D.1 rfl;simp only[Z3,seval,-ae];refine zKH l u.w u.b λkind i j k h=>?_;simp only[Z3,seval,-ae];exact Gh.fin0 A trivial (C _ ⟨λx=>⟨u,h.1 (by simpa using x)⟩,λx=>by simpa using h.2 x.2⟩)
section
variable{s:Nat}
theorem zFK{xs:V1}:isVec xs p n↔El p n xs:=⟨λh=>⟨by have:=h.1;omega,h.2⟩,λh=>⟨by have:=h.1;omega,h.2⟩⟩
theorem zNh{l:Nat}{w:Bool}{a:AV}{xs:V1}(h:IsR vP vB W B)(E:l=xs.length)(L:xs.length<=1048576)(G:okp p)(D:∀t:Bool,(t=true↔El p W.length xs)->K (.bool t) σ):
  zA Tryz.prog 145 [.agg [.int .i64 p,vP,vB],.fz w a l (pis xs)] σ K:=by
 have C:=h.B.one;unfold okp at G;obtain⟨⟨w1,u,H,rfl,J⟩,I⟩:=h;refine zA.gh ?_;have A:=zC σ [.int .i64 p,.fz w1 u W.length H,vB];refine zD mix Tryz.func145 ?_;simp only[Z3,seval,-ae,C];refine zFG E (by omega) (by omega) (by omega) ?_;simp only[Z3,seval,-ae];exact Gh.fin0 A trivial (D _ (by rw[decide_eq_true_iff];exact zFK))
def Els(p:Int)(n:Nat)(xs:V2):Prop:=∀x∈xs,El p n x
structure SzL(xs:V2):Prop where
 l:xs.length<=1048576
 r:∀x∈xs,x.length<=1048576
theorem zGm{xs:V2}(u:IsR vP vB W B)(L:FII vL xs)(sz:SzL xs)(N:okp p)(E:∀t:Bool,(t=true↔Els p W.length xs)->K (.bool t) σ):
  zA Tryz.prog 73 [.agg [.int .i64 p,vP,vB],vL] σ K:=by
 have I:=u.P.one;have J:=u.B.one;have U:=sz.l;obtain⟨R,al,Q,rfl,H⟩:=L;refine zA.gh ?_;have D:=zC σ [.int .i64 p,vP,vB];refine zD mix Tryz.func73 ?_;simp only[Z3,seval,-ae,I,J];refine zF (λm vs h'=>∃i:Nat,i<=xs.length/\m=xs.length-i/\vs=[.fz R al xs.length Q,.ptr σ.next 0,.int .i64 i]/\σ.new [.int .i64 p,vP,vB]=h'/\∀j (h:j<xs.length),j<i->El p W.length xs[j]) xs.length ?_ ?_
 .exact⟨0,by omega,by omega,rfl,rfl,λj h A=>by omega⟩
 rintro m vs h' ⟨i,V,rfl,rfl,rfl,C⟩
 simp only[Z3,seval,-ae];refine iteI (λl=>?_) λT=>?_
 .obtain⟨X,S,O⟩:=H.rowI l;simp only[Z3,seval,-ae,l,O];refine zNh u rfl (sz.r _ (YK l)) N λt G=>?_;cases t with
  |false=>
   simp only[Z3,seval,-ae];exact Gh.fin0 D trivial (E _ ⟨λx=>(by cases x),λx=>G.2 (x _ (YK l))⟩)
  |true=>
   simp only[Z3,seval,-ae,WX l];refine⟨_,by omega,i+1,by omega,rfl,rfl,λj h A=>?_⟩;by_cases e:j=i
   .subst e;exact G.1 rfl
   .exact C j h (by omega)
 .refine Gh.fin0 D trivial (E _ ⟨λ_ x P=>?_,λ_=>rfl⟩);obtain⟨j,A,rfl⟩:=YE.1 P;exact C j A (by omega)
theorem zAj{xs:V2}(hs:PtrR σ s p vP vB)(E:IsR vP vB W B)(J:SzR W B)(L:FII vL xs)(sz:SzL xs)(C:∀t:Bool,(t=true↔isLie p W B/\Els p W.length xs)->K (.bool t) σ):
  zA Tryz.prog 56 [.ptr s 0,vL] σ K:=by
 have P:=E.P;have U:=sz.l;obtain⟨R,al,Q,rfl,I⟩:=L;refine zD mix Tryz.func56 ?_;simp only[Z3,seval,-ae,zI hs.obj,zZ hs.obj];refine zJQ E J λt G=>?_;cases t with
 |false=>
  simp only[Z3,seval,-ae];exact C _ ⟨λx=>(by cases x),λx=>G.2 x.1⟩
 |true=>
 have H:=G.1 rfl;simp only[Z3,seval,-ae];refine zF (λm vs h'=>∃i:Nat,i<=xs.length/\m=xs.length-i/\vs=[.ptr s 0,.fz R al xs.length Q,.int .i64 xs.length,.int .i64 i]/\σ=h'/\∀j (h:j<xs.length),j<i->El p W.length xs[j]) xs.length ?_ ?_
 .exact⟨0,by omega,by omega,rfl,rfl,λj h A=>by omega⟩
 rintro m vs h' ⟨i,V,rfl,rfl,rfl,D⟩
 simp only[Z3,seval,-ae];refine iteI (λl=>?_) λT=>?_
 .obtain⟨X,S,N⟩:=I.rowI l;simp only[Z3,seval,-ae,l,N];refine zAP hs P rfl (sz.r _ (YK l)) H.1.1 ?_;by_cases u:isVec xs[i] p W.length
  .simp only[Z3,seval,-ae,u,WX l];refine⟨_,by omega,i+1,by omega,rfl,rfl,λj h A=>?_⟩;by_cases e:j=i
   .subst e;exact zFK.1 u
   .exact D j h (by omega)
  .simp only[Z3,seval,-ae,u];exact C _ ⟨λx=>(by cases x),λx=>absurd (zFK.2 (x.2 _ (YK l))) u⟩
 .refine C _ ⟨λ_=>⟨H,λx O=>?_⟩,λ_=>rfl⟩;obtain⟨j,A,rfl⟩:=YE.1 O;exact D j A (by omega)
end
structure SzM(B:V3):Prop where
 l:B.length<=1048576
 r:∀q∈B,SzL q
theorem zRP{α:Type}{xs ys:List α}(A:xs.length=ys.length){i:Nat}(u:i<xs.length)(h:xs.take i=ys.take i)(l:xs[i]=ys[i]'(by omega)):xs.take (i+1)=ys.take (i+1):=by
 rw[YU u,YU (by omega:i<ys.length),h,l]
end Go.Proofs
namespace Go.Lie
open Go.Ab
variable{p:Int}{n:Nat}{W:V2}
abbrev Vec:=Nat->Int
structure IsSub(p:Int)(n:Nat)(W:V2)(S:Vec->Prop):Prop where
 zero:S λ_=>0
 add:∀f g,S f->S g->S λj=>f j+g j
 mul:∀k f,S f->S λj=>k*f j
 eqv:∀f g,Eqv p n W f g->S g->S f
def comb(c:Nat->Int)(L:V2):Vec:=λj=>sumN L.length λk=>c k*at_ (L.getD k []) j
def Gen(p:Int)(n:Nat)(W:V2)(L:V2)(f:Vec):Prop:=∃c:Nat->Int,Eqv p n W f (comb c L)
theorem zPU(c d:Nat->Int)(L:V2)(j:Nat):comb (λk=>c k+d k) L j=comb c L j+comb d L j:=by
 unfold comb;rw[<-zAd];exact qL λi _=>Uv _ _ _
theorem zPT(m:Int)(c:Nat->Int)(L:V2)(j:Nat):comb (λk=>m*c k) L j=m*comb c L j:=by
 unfold comb;rw[<-ZV];exact qL λi _=>UT _ _ _
theorem zM(L:V2):IsSub p n W (Gen p n W L):=by
 refine⟨⟨λ_=>0,Eqv.of_eq λj=>?_⟩,λf g ⟨c,l⟩ ⟨d,hd⟩=>⟨λk=>c k+d k,(l.add hd).trans (Eqv.of_eq λj=>(zPU c d L j).symm)⟩,
  λk f ⟨c,l⟩=>⟨λi=>k*c i,(l.mul k).trans (Eqv.of_eq λj=>(zPT k c L j).symm)⟩,λf g h ⟨c,l⟩=>⟨c,h.trans l⟩⟩
 unfold comb;rw[ZG _ (λi _=>UR _)]
theorem zX{L:V2}{v:V1}(h:v∈L):Gen p n W L (at_ v):=by
 obtain⟨k,l,rfl⟩:=YE.1 h;refine⟨λi=>if i=k then 1 else 0,Eqv.of_eq λj=>?_⟩;unfold comb;rw[QR l (λi _ u=>by dsimp only;rw[if_neg u,UR])];dsimp only;rw[if_pos rfl,Uf];simp[YB,YQ l]
theorem IsSub.sum{S:Vec->Prop}(h:IsSub p n W S):∀{m:Nat} {F:Nat->Vec},(∀k,k<m->S (F k))->S λj=>sumN m λk=>F k j
 |0,_,_=>h.zero
 |m+1,F,hF=>h.add _ _ (IsSub.sum h λk l=>hF k (by omega)) (hF m (by omega))
theorem IsSub.comb{S:Vec->Prop}(h:IsSub p n W S){L:V2}(u:∀v∈L,S (at_ v))(c:Nat->Int):S (comb c L):=
 h.sum λk l=>h.mul (c k) _ (u _ (by
  have:L.getD k []=L[k]:=by simp[YB,YQ l]
  rw[this];exact YK l))
theorem zIk{S:Vec->Prop}(h:IsSub p n W S){L:V2}(l:∀v∈L,S (at_ v)){f:Vec}(A:Gen p n W L f):S f:=by
 obtain⟨c,u⟩:=A;exact h.eqv _ _ u (h.comb l c)
theorem ZK{L M:V2}(h:∀v∈L,Gen p n W M (at_ v)){f:Vec}(l:Gen p n W L f):Gen p n W M f:=zIk (zM M) h l
theorem zY{L M:V2}(h:∀v∈L,v∈M){f:Vec}(l:Gen p n W L f):Gen p n W M f:=ZK (λv u=>zX (h v u)) l
theorem zQV{f:Vec}(l:Gen p n W [] f):Eqv p n W f λ_=>0:=by
 obtain⟨c,h⟩:=l;exact h
theorem IsSub.sub{S:Vec->Prop}(h:IsSub p n W S){f g:Vec}(l:S f)(u:S g):S λj=>f j-g j:=by
 have:=h.add _ _ l (h.mul (-1) _ u)
 exact h.eqv _ _ (Eqv.of_eq λj=>by omega) this
def dep:V1->Nat
 |[]=>0
 |x::xs=>if x=0 then dep xs+1 else 0
theorem QG:∀v:V1,dep v<=v.length
 |[]=>na _
 |x::xs=>by simp only[dep,YS];have:=QG xs;split<;>omega
theorem zg:∀{v:V1} {j:Nat},j<dep v->at_ v j=0
 |[],j,h=>by simp[at_]
 |x::xs,j,h=>by
  simp only[dep]at h;split at h
  .rename_i l;cases j with
   |zero=>simp[at_,l]
   |succ j=>
    have:=zg (v:=xs) (j:=j) (by omega)
    simpa [at_]using this
  .omega
theorem qz:∀{v:V1},dep v<v.length->at_ v (dep v)≠0
 |[],h=>by simp at h
 |x::xs,h=>by
  simp only[dep,YS]at h ⊢;split at h
  .rename_i l;rw[if_pos l]
   have:=qz (v:=xs) (by omega)
   simpa [at_]using this
  .rename_i l;rw[if_neg l];simpa [at_]using l
theorem zGK{v:V1}{d:Nat}(l:∀j,j<d->at_ v j=0)(h:at_ v d≠0):dep v=d:=by
 rcases Nat.lt_trichotomy (dep v) d with x|x|x
 .have hd:d<v.length:=by
   rcases YG d v.length with y|y
   .exact y
   .exact absurd (at_ge y) h
  exact absurd (l _ x) (qz (by omega))
 .exact x
 .exact absurd (zg x) h
theorem zAU{v:V1}{d:Nat}(hd:d<=v.length)(h:∀j,j<d->at_ v j=0):d<=dep v:=by
 rcases YG (dep v) d with x|x
 .exact absurd (h _ x) (qz (by omega))
 .exact x
theorem zPS{v:V1}(h:dep v=v.length):∀x∈v,x=0:=λx u=>by
 obtain⟨j,l,rfl⟩:=YE.1 u;rw[<-at_eq l];exact zg (by omega)
theorem Q0(o:OkW p n W){f g:Vec}(h:Eqv p n W f g){d:Nat}(hd:d<n)(E:∀j,j<d->0<=f j/\f j<=p-1)(G:∀j,j<d->0<=g j/\g j<=p-1):(∀j,j<d->f j=g j)/\∃k:Int,f d=g d-k*p:=by
 obtain⟨c,D⟩:=h;have I:=o.pr;unfold okp at I;have val:∀i,i<=d->(∀k,k<i->c k=0)->f i=g i-c i*p:=by
  intro i u A;have l:=D i;rw[QR (k:=i) (by omega) (λk J C=>by
   rcases YG k i with x|x
   .rw[A k x,UR]
   .rw[rel,o.zero x,if_neg (λe=>C e.symm)];simp)]at l
  rw[rel,o.zero (na _),if_pos rfl,Int.zero_sub,Un]at l;omega
 have key:∀m,m<=d->∀i,i<m->c i=0:=by
  intro m
  induction m with
  |zero=>intro _ i u;omega
  |succ m ih=>
   intro O i u;by_cases e:i=m
   .subst e;have l:=val i (by omega) (ih (by omega));have L:=E i (by omega);have N:=G i (by omega);rcases Int.lt_trichotomy (c i) 0 with x|x|x
    .have:=YA (show c i<=-1 by omega) (show 0<=p by omega)
     omega
    .exact x
    .have:=YA (show 1<=c i by omega) (show 0<=p by omega)
     omega
   .exact ih (by omega) i (by omega)
 refine⟨λj H=>?_,c d,val d (na _) (key d (na _))⟩
 have:=val j (by omega) (λk A=>key d (na _) k (by omega))
 rw[key d (na _) j H]at this;omega
theorem zDZ(o:OkW p n W){v:V1}(u:v.length=n){d:Nat}(hd:d<=n)(h:∀j,j<d->at_ v j=0):∀j,j<d->at_ (norm p W v) j=0:=by
 have E:=o.pr;unfold okp at E;have l:=Zx o u;intro j D
 have:=(Q0 o (qN o u) (d:=j) (by omega) (λi _=>l.at (by omega) i) (λi C=>by rw[h i (by omega)];omega)).1
 obtain⟨k,A⟩:=(Q0 o (qN o u) (d:=j) (by omega) (λi _=>l.at (by omega) i) (λi C=>by rw[h i (by omega)];omega)).2;rw[h j D]at A;have G:=l.at (by omega) j;rcases Int.lt_trichotomy k 0 with x|x|x
 .have:=YA (show k<=-1 by omega) (show 0<=p by omega)
  omega
 .rw[x]at A;omega
 .have:=YA (show 1<=k by omega) (show 0<=p by omega)
  omega
theorem zG5(o:OkW p n W){v:V1}(u:v.length=n){d:Nat}(hd:d<n)(h:∀j,j<d->at_ v j=0):at_ (norm p W v) d=at_ v d % p:=by
 have D:=o.pr;unfold okp at D;have l:=Zx o u;obtain⟨k,E⟩:=(Q0 o (qN o u) hd (λi _=>l.at (by omega) i) (λi C=>by rw[h i C];omega)).2;have A:=l.at (by omega) d
 have:at_ v d=at_ (norm p W v) d+p*k:=by rw[UB p k];omega
 rw[this,Int.add_mul_emod_self_left];exact(Yc A.1 (by omega)).symm
theorem push(o:OkW p n W){d:Nat}(hd:d<n){f:Vec}(h:∀j,j<d->f j=0)(A:∀j,n<=j->f j=0):∃g:Vec,Eqv p n W (λj=>p*f j) g/\(∀j,j<=d->g j=0)/\∀j,n<=j->g j=0:=by
 have u:=(Eqv.rel (p:=p) (W:=W) hd).mul (f d);refine⟨λj=>p*f j+f d*rel p W d j,?_,λj l=>?_,λj l=>?_⟩
 .have h2:=(Eqv.refl (p:=p) (n:=n) (W:=W) (λj=>p*f j)).add u.symm;refine(Eqv.of_eq λj=>?_).trans h2;omega
 .dsimp only;rcases YG j d with x|x
  .rw[h j x,rel,o.zero (by omega:j<=d),if_neg (by omega)];simp
  .have:j=d:=by omega
   subst this;rw[rel,o.zero (na _),if_pos rfl,Int.zero_sub,Un,UB p];omega
 .dsimp only;rw[A j l,rel,if_neg (by omega)]
  have:w_ W d j=0:=by
   rw[w_];exact at_ge (by rw[o.rowlen hd];exact l)
  rw[this];simp
def pw_(p:Int):Nat->Int
 |0=>1
 |k+1=>p*pw_ p k
theorem kill(o:OkW p n W):∀(k:Nat) {f:Vec},k<=n->(∀j,j<n-k->f j=0)->(∀j,n<=j->f j=0)->Eqv p n W (λj=>pw_ p k*f j) λ_=>0
 |0,f,_,h,hn=>Eqv.of_eq λj=>by
  rcases YG j n with x|x
  .rw[h j (by omega)];simp
  .rw[hn j x];simp
 |k+1,f,hk,h,hn=>by
  obtain⟨g,l,u,A⟩:=push o (d:=n-(k+1)) (by omega) h hn;have D:=kill o k (f:=g) (by omega) (λj E=>u j (by omega)) A;have C:=l.mul (pw_ p k);refine(Eqv.of_eq λj=>?_).trans (C.trans D);rw[pw_,UB p,UT]
theorem zAk(o:OkW p n W){f:Vec}(h:∀j,n<=j->f j=0):Eqv p n W (λj=>pw_ p n*f j) λ_=>0:=kill o n (na _) (λj l=>by omega) h
theorem inv_one(t:Int):∀m:Nat,0<m->∃e s:Int,e*(1+p*t)=1+pw_ p m*s
 |0,h=>by omega
 |1,_=>⟨1,t,by simp[pw_]⟩
 |m+2,_=>by
  obtain⟨e,s,h⟩:=inv_one t (m+1) (by omega);refine⟨e*(1-pw_ p (m+1)*s),-(pw_ p m*s*s),?_⟩;have l:e*(1-pw_ p (m+1)*s)*(1+p*t)=(e*(1+p*t))*(1-pw_ p (m+1)*s):=by
   rw[UT,UB (1-pw_ p (m+1)*s),<-UT]
  rw[l,h];have u:pw_ p (m+2) * -(pw_ p m*s*s)=-(pw_ p (m+1)*s*(pw_ p (m+1)*s)):=by
   simp only[pw_];rw[Un];congr 1;simp only[UT,Int.mul_left_comm,UB]
  rw[u,Uv,Uf,Int.mul_sub,Ur];omega
end Go.Lie
