/- . -/
import Derived.Test.YtnfnaniemocleaaGreatQAbCode
import Derived.Test.YtnfnaniemocleaaGreatChecked
set_option linter.all false
set_option linter.defProp false
open Go.IntKind renaming wrap->Lp
open List renaming length->Lu
open Bool renaming true->DF
open Int renaming emod_add_mul_ediv->I2,eq_nat_or_neg->If,lt_tmod_of_pos->JC,lt_trichotomy->I1,pow_succ->HN,tmod_lt_of_pos->HO
open List renaming all_eq_true->D2,drop_zero->EC,ext_getElem?->En,getElem?_replicate->JX,getElem?_set_ne->JL,getElem?_set_self->JS,mem_or_eq_of_mem_set->Hs,range->DO,replicate->Ep,zipWith->FD
open Nat renaming lt_trichotomy->Eo,ne_of_lt->Ev,sub_zero->Ed
open Option renaming some->Dc
open True renaming intro->DJ
open Int renaming reduceNatCast'->ae
set_option maxRecDepth 100000
namespace Go.Im
section
class lM (M:Type) extends Zero M,Add M,Neg M,Sub M,SMul Int M where
 add_zero:∀a:M,a+0=a
 add_comm:∀a b:M,a+b=b+a
 add_assoc:∀a b c:M,a+b+c=a+(b+c)
 neg_add_cancel:∀a:M,-a+a=0
 sub_eq_add_neg:∀a b:M,a-b=a + -b
 zero_zsmul:∀a:M,(0:Int) • a=0
 one_zsmul:∀a:M,(1:Int) • a=a
 add_zsmul:∀(j k:Int) (a:M),(j+k) • a=j • a+k • a
variable{M:Type}[lM M]
def zero_zsmul(a:M):(0:Int) • a=0:=lM.zero_zsmul a
def one_zsmul(a:M):(1:Int) • a=a:=lM.one_zsmul a
def add_zsmul(j k:Int)(a:M):(j+k) • a=j • a+k • a:=lM.add_zsmul j k a
def zadd(a:M):0+a=a:=by rw[lM.add_comm,lM.add_zero]
def acan{a b c:M}(h:a+b=a+c):b=c:=by
 have l:-a+a+b=-a+a+c:=by rw[lM.add_assoc,lM.add_assoc,h]
 rwa[lM.neg_add_cancel,zadd,zadd]at l
def aneg(a:M):a + -a=0:=by rw[lM.add_comm,lM.neg_add_cancel]
def aswap(a b c d:M):a+b+(c+d)=a+c+(b+d):=by
 rw[lM.add_assoc,lM.add_assoc,<-lM.add_assoc b,<-lM.add_assoc c,lM.add_comm b c]
def zKD{a b:M}(h:a+b=0):b=-a:=acan (a:=a) (by rw[h,aneg])
def neg_zsmul(n:Int)(a:M):(-n) • a=- (n • a):=zKD (by rw[<-add_zsmul,Int.add_right_neg,zero_zsmul])
def zR3(a b:M):-(a+b)=-a + -b:=(zKD (by rw[aswap,aneg,aneg,zadd])).symm
def zsmul_add(n:Int)(a b:M):n • (a+b)=n • a+n • b:=by
 have nat:∀n:Nat,(n:Int) • (a+b)=(n:Int) • a+(n:Int) • b:=λn=>by
  induction n with
  |zero=>show(0:Int) • (a+b)=(0:Int) • a+(0:Int) • b;rw[zero_zsmul,zero_zsmul,zero_zsmul,zadd]
  |succ n ih=>rw[Um,add_zsmul,add_zsmul,add_zsmul,ih,one_zsmul,one_zsmul,one_zsmul,aswap]
 rcases If n with ⟨m,rfl|rfl⟩
 .exact nat m
 .rw[neg_zsmul,neg_zsmul,neg_zsmul,nat,zR3]
def zsmul_zero(n:Int):n • (0:M)=0:=by
 have h:=zsmul_add n (0:M) 0;rw[zadd]at h;exact(acan (h.symm.trans (lM.add_zero _).symm))
def zsmul_neg(n:Int)(a:M):n • (-a)=- (n • a):=zKD (by rw[<-zsmul_add,aneg,zsmul_zero])
def mul_zsmul(n m:Int)(a:M):(n*m) • a=n • (m • a):=by
 have nat:∀n:Nat,((n:Int)*m) • a=(n:Int) • (m • a):=λn=>by
  induction n with
  |zero=>show((0:Int)*m) • a=(0:Int) • m • a;rw[UU,zero_zsmul,zero_zsmul]
  |succ n ih=>rw[Um,Uf,add_zsmul,add_zsmul,ih,Ub,one_zsmul]
 rcases If n with ⟨k,rfl|rfl⟩
 .exact nat k
 .rw[Uy,neg_zsmul,neg_zsmul,nat]
inductive Tm where
 |z
 |v (i:Nat)
 |add (a b:Tm)
 |sub (a b:Tm)
 |neg (a:Tm)
 |mul (k:Int) (a:Tm)
def Tm.co(i:Nat):Tm->Int
 |z=>0
 |v j=>if j=i then 1 else 0
 |add a b=>a.co i+b.co i
 |sub a b=>a.co i-b.co i
 |neg a=>- a.co i
 |mul k a=>k*a.co i
def Tm.den(c:List M):Tm->M
 |z=>0
 |v j=>c.getD j 0
 |add a b=>a.den c+b.den c
 |sub a b=>a.den c-b.den c
 |neg a=>- a.den c
 |mul k a=>k • a.den c
def rN:List M->Nat->(Nat->Int)->M
 |[],_,_=>0
 |a::c,i,f=>f i • a+rN c (i+1) f
def zGE:∀(c:List M) (i:Nat) (f g:Nat->Int),rN c i (λk=>f k+g k)=rN c i f+rN c i g
 |[],_,_,_=>(zadd 0).symm
 |a::c,i,f,g=>by simp only[rN];rw[zGE c,add_zsmul,aswap]
def zDj(n:Int):∀(c:List M) (i:Nat) (f:Nat->Int),rN c i (λk=>n*f k)=n • rN c i f
 |[],_,_=>(zsmul_zero n).symm
 |a::c,i,f=>by simp only[rN];rw[zDj n c,mul_zsmul,zsmul_add]
def zCh:∀(c:List M) (i:Nat) {f g:Nat->Int},(∀k,k<Lu c->f (i+k)=g (i+k))->rN c i f=rN c i g
 |[],_,_,_,_=>rfl
 |a::c,i,f,g,h=>by
  have e:rN c (i+1) f=rN c (i+1) g:=zCh c (i+1) λk l=>by
   have:=h (k+1) (by simp only[Yu];omega)
   rwa[show i+(k+1)=i+1+k by omega]at this
  simp only[rN];rw[e,show f i=g i from h 0 (by simp only[Yu];omega)]
def zEg:∀(c:List M) (i:Nat) {f:Nat->Int},(∀k,i<=k->f k=0)->rN c i f=0
 |[],_,_,_=>rfl
 |a::c,i,f,h=>by
  simp only[rN];rw[zEg c (i+1) λk l=>h k af,h i (na _),zero_zsmul,zadd]
def zKK:∀(c:List M) (i j:Nat),rN c i (λk=>if i+j=k then 1 else 0)=c.getD j 0
 |[],_,_=>by simp only[rN];rfl
 |a::c,i,0=>by
  simp only[rN];rw[zEg c (i+1) λk l=>DL af,DK af,one_zsmul,lM.add_zero];rfl
 |a::c,i,j+1=>by
  have h:=zKK c (i+1) j;rw[show i+1+j=i+(j+1) by omega]at h;simp only[rN];rw[h,DL af,zero_zsmul,zadd];rfl
def Tm.den_csum(c:List M):∀t:Tm,t.den c=rN c 0 λk=>t.co k
 |z=>(zEg c 0 λk _=>rfl).symm
 |v j=>by
  have h:=zKK c 0 j;rw[Y5]at h;exact h.symm
 |add a b=>by simp only[den,co];rw[zGE,den_csum c a,den_csum c b]
 |sub a b=>by
  simp only[den,co];rw[lM.sub_eq_add_neg,den_csum c a,den_csum c b,<-one_zsmul (rN c 0 λk=>b.co k),<-neg_zsmul,<-zDj,<-zGE];exact zCh c 0 λk _=>by omega
 |neg a=>by
  simp only[den,co];rw[den_csum c a,<-one_zsmul (rN c 0 λk=>a.co k),<-neg_zsmul,<-zDj];exact zCh c 0 λk _=>by omega
 |mul k a=>by simp only[den,co];rw[zDj,den_csum c a]
def mchk(n:Nat)(s t:Tm):Bool:=(DO n).all λi=>decide (s.co i=t.co i)
def zPh{c:List M}{s t:Tm}(h:mchk (Lu c) s t=DF):s.den c=t.den c:=by
 rw[s.den_csum,t.den_csum];exact zCh c 0 λk l=>by
  have:=D2.1 h k (UC.2 l)
  rw[Y5];exact of_decide_eq_true this
class Ato (c:List M) (a:M) (i:outParam Nat):Prop where
 h:c.getD i 0=a
instance Ato.hd (c:List M) (a:M):Ato (a::c) a 0:=⟨rfl⟩
instance Ato.tl (c:List M) (a b:M) (i:Nat) [x:Ato c a i]:Ato (b::c) a (i+1):=⟨x.h⟩
class Dn (c:List M) (a:M) (s:outParam Tm):Prop where
 h:s.den c=a
instance Dn.at (c:List M) (a:M) (i:Nat) [x:Ato c a i]:Dn c a (.v i):=⟨x.h⟩
instance Dn.ze (c:List M):Dn c 0 .z:=⟨rfl⟩
instance Dn.ad (c:List M) (a b:M) (s t:Tm) [x:Dn c a s] [y:Dn c b t]:Dn c (a+b) (.add s t):=⟨by simp only[Tm.den,x.h,y.h]⟩
instance Dn.su (c:List M) (a b:M) (s t:Tm) [x:Dn c a s] [y:Dn c b t]:Dn c (a-b) (.sub s t):=⟨by simp only[Tm.den,x.h,y.h]⟩
instance Dn.ne (c:List M) (a:M) (s:Tm) [x:Dn c a s]:Dn c (-a) (.neg s):=⟨by simp only[Tm.den,x.h]⟩
instance Dn.mu (c:List M) (k:Int) (a:M) (s:Tm) [x:Dn c a s]:Dn c (k • a) (.mul k s):=⟨by simp only[Tm.den,x.h]⟩
def gr(c:List M){a b:M}{s t:Tm}[x:Dn c a s][y:Dn c b t](h:mchk (Lu c) s t=DF:=by rfl):a=b:=by
 rw[<-x.h,<-y.h];exact zPh h
def mq(c:List M){a b u w:M}{s t A t':Tm}(e:u=w)[x:Dn c a s][y:Dn c b t][x':Dn c u A][y':Dn c w t'](h:mchk (Lu c) (.add A t) (.add t' s)=DF:=by rfl):a=b:=by
 have l:u+b=w+a:=by
  have:=zPh (M:=M) h
  simp only[Tm.den,x.h,y.h,x'.h,y'.h]at this;exact this
 rw[e]at l;exact(acan l).symm
def mad{a b c d:M}(h:a=b)(g:c=d):a+c=b+d:=by rw[h,g]
def mms(k:Int){a b:M}(h:a=b):k • a=k • b:=by rw[h]
end
end Go.Im
namespace Go.Proofs
open Go.Ab
variable{σ:cg}{K:PV->cg->Prop}
section
def mI0(d s:Nat):II:=⟨Dc d,.mv (.t s),DF,none⟩
def kI0(d:Nat)(k:Int):II:=⟨Dc d,.mv (.c (.int .i64 k)),DF,none⟩
def tI0(d:Nat)(k:Bool):II:=⟨Dc d,.mv (.c (.bool k)),DF,none⟩
def lI0(d s:Nat):II:=⟨Dc d,.load false 1 (.t s),DF,none⟩
def LI0(d s:Nat):II:=⟨Dc d,.load DF 3 (.t s),DF,none⟩
def fI0(d o s:Nat):II:=⟨Dc d,.fieldAddr o (.t s),DF,none⟩
def xI0(d a i:Nat):II:=⟨Dc d,.indexAddr 1 (.t a) (.t i),DF,none⟩
def bI0(d:Nat)(o:BinOp)(a b:Nat):II:=⟨Dc d,.bin o .other (.t a) (.t b),DF,none⟩
def cI0(d:Nat)(o:BinOp)(a:Nat)(k:Int):II:=⟨Dc d,.bin o .other (.t a) (.c (.int .i64 k)),DF,none⟩
def nI0(d s:Nat):II:=⟨Dc d,.un .not (.t s),DF,none⟩
def sI0(d s:Nat):II:=⟨Dc d,.len (.t s),DF,none⟩
def pI0(d s:Nat):II:=⟨Dc d,.nilCheck (.t s),DF,none⟩
def eI0(d s i:Nat):II:=⟨Dc d,.extract (.t s) i,DF,none⟩
def C0(d f:Nat):II:=⟨Dc d,.call f [],false,none⟩
def C1(d f a:Nat):II:=⟨Dc d,.call f [.t a],false,none⟩
def C2(d f a b:Nat):II:=⟨Dc d,.call f [.t a,.t b],false,none⟩
def C3(d f a b c:Nat):II:=⟨Dc d,.call f [.t a,.t b,.t c],false,none⟩
def mD0(d s n:Nat):DI:=⟨⟨Dc d,.mv (.t s),DF,none⟩,n,[]⟩
def lD0(d s n:Nat):DI:=⟨⟨Dc d,.load false 1 (.t s),DF,none⟩,n,[]⟩
def fD0(d o s n:Nat):DI:=⟨⟨Dc d,.fieldAddr o (.t s),DF,none⟩,n,[]⟩
def xD0(d a i n:Nat):DI:=⟨⟨Dc d,.indexAddr 1 (.t a) (.t i),DF,none⟩,n,[]⟩
def pD0(d s n:Nat):DI:=⟨⟨Dc d,.nilCheck (.t s),DF,none⟩,n,[]⟩
def I0(k:Int):IX:=.c (.int .i64 k)
def G0(d:Nat)(o:qk)(q:Bool)(t:Nat)(b:Bool):II:=⟨Dc d,o,q,Dc (t,b)⟩
def gm0(d s t:Nat)(b:Bool):II:=⟨Dc d,.mv (.t s),DF,Dc (t,b)⟩
def oI0(d a b:Nat):II:=⟨Dc d,.pick (.t a) (.c (.bool DF)) (.t b),DF,none⟩
def aI0(d a b:Nat):II:=⟨Dc d,.pick (.t a) (.t b) (.c (.bool false)),DF,none⟩
def zI0(d:Nat):II:=⟨Dc d,.mv (.c .b8),DF,none⟩
def yI0(d a:Nat)(k:Int):II:=⟨Dc d,.indexAddr 1 (.t a) (.c (.int .i64 k)),DF,none⟩
def vI0(n a b:Nat):II:=⟨none,.store n (.t a) (.t b),false,none⟩
def wD0(n a b i:Nat):DI:=⟨⟨none,.store n (.t a) (.t b),false,none⟩,i,[]⟩
def R0(l:List Nat)(i:List II):IC:=.region l i
def S0(a b:IC):IC:=.seq a b
open Tryz
def mix:Tryz.prog.follows .mixedOrders=DF:=by kernel_rfl
def Lg{f:FuncId}{l:Func}(A:Tryz.prog.funcs[f]? = Dc l){args:List PV}{K:PV->cg->Prop}{σ:cg}{p:List Nat}{r:List x6}{b:IC}(C:vp Tryz.prog b (retP r K) (ec.mk p args) σ)(u:cF Tryz.prog l=Dc ⟨p,r,b⟩:=by conv=>lhs;cbv)(D:(Lu args)=Lu p:=by rfl):zA Tryz.prog f args σ K:=zD mix A C u D
def Lh{f:FuncId}{l:Func}(A:Tryz.prog.funcs[f]? = Dc l){args:List PV}{K:PV->cg->Prop}{σ:cg}{p:List Nat}{r:List x6}{b:IC}(C:vp Tryz.prog b (retP r (Gh σ K)) (ec.mk p args) σ)(u:cF Tryz.prog l=Dc ⟨p,r,b⟩:=by conv=>lhs;cbv)(D:(Lu args)=Lu p:=by rfl):zA Tryz.prog f args σ K:=zA.gh (zD mix A C u D)
def if195:IFn:=⟨[0,1],[(.cell 4 DF 3)],(S0 (R0 [0,3,4] [eI 3 (.box (.t 1)),eI 4 (.alloc [.b8,.b8,.b8])])
 (S0 (R0 [0,4,5] [LI0 6 3,C1 7 196 6,eI 5 (.alloc [.b8,.b8,.b8]),vI0 3 5 7])
 (S0 (.seq (R0 [0,4,5,9] [mI0 8 0,eI 9 (.call 110 [(.t 8),(I0 6)])])
 (.block 0 (S0 (R0 [0,4,5,9,17] [cI0 18 .eql 9 0,mI0 17 18])
 (.cond (.t 17) (R0 [4,5] [fI0 19 0 5,lI0 20 19,eI 21 (.buildSl 1 1 [(.int .i64 0)] [(0,1,(I0 2))]),eI 22 (.append 1 8 (.t 20) (.t 21)),fI0 23 0 5,vI0 1 23 22]) (S0 (R0 [0,4,5,9,24] [cI0 25 .eql 9 1,mI0 24 25])
 (.cond (.t 24) (S0 (R0 [0,4,5,29] [fI0 26 0 5,lI0 27 26,sI0 28 27,cI0 29 .gtr 28 0])
 (.cond (.t 29) (.draw [4,5] [] [fD0 30 0 5 0,lD0 31 30 1,mD0 32 0 2,eD 33 (.buildSl 1 5 [(.int .i64 0)] [(0,1,(I0 4)),(1,1,(I0 1)),(2,1,(I0 11)),(3,1,(I0 0)),(4,1,(I0 (-2)))]) 3 [1],eD 34 (.call 133 [(.t 32),(.t 33)]) 4 [1],qD 35 (.indexAddr 1 (.t 31) (I0 0)) 5,wD0 1 35 34 6]) .skip)) (S0 (R0 [0,4,5,9,36] [cI0 37 .eql 9 2,mI0 36 37])
 (.cond (.t 36) (S0 (R0 [4,5,41] [fI0 38 1 5,lI0 39 38,sI0 40 39,cI0 41 .gtr 40 0])
 (.cond (.t 41) (.draw [4,5] [[(.int .i64 0)]] [fD0 42 1 5 0,lD0 43 42 1,fD0 44 1 5 2,lD0 45 44 3,qD 46 (.indexAddr 1 (.t 45) (I0 0)) 4,lD0 47 46 5,qD 49 (.revS 0 1) 7,eD 48 (.call 206 [(.t 47)]) 6 [1],eD 50 (.append 1 8 (.t 48) (.t 49)) 8 [1],qD 51 (.indexAddr 1 (.t 43) (I0 0)) 9,wD0 1 51 50 10]) .skip)) (S0 (R0 [0,4,5,9,52] [cI0 53 .eql 9 3,mI0 52 53])
 (.cond (.t 52) (S0 (R0 [4,5,65] [fI0 54 1 5,lI0 55 54,sI0 56 55,cI0 57 .gtr 56 0,mI0 58 57,G0 59 (.fieldAddr 1 (.t 5)) DF 58 DF,G0 60 (.load false 1 (.t 59)) DF 58 DF,G0 61 (.indexAddr 1 (.t 60) (I0 0)) DF 58 DF,G0 62 (.load false 1 (.t 61)) DF 58 DF,G0 63 (.len (.t 62)) DF 58 DF,G0 64 (.bin .gtr .other (.t 63) (I0 0)) DF 58 DF,aI0 65 58 64])
 (.cond (.t 65) (R0 [4,5] [fI0 66 1 5,lI0 67 66,yI0 68 67 0,lI0 69 68,yI0 70 69 0,nI (.store 1 (.t 70) (I0 1))]) .skip)) (S0 (R0 [0,4,5,71] [cI0 72 .eql 9 4,mI0 71 72])
 (.cond (.t 71) (S0 (R0 [4,5,76] [fI0 73 2 5,lI0 74 73,sI0 75 74,cI0 76 .gtr 75 0])
 (.cond (.t 76) (.tree [4,5] (.q (fD0 77 2 5 0) (.q (lD0 78 77 1) (.q (fD0 79 2 5 2) (.q (lD0 80 79 3) (.q (qD 81 (.indexAddr 1 (.t 80) (I0 0)) 4) (.q (lD0 82 81 5) (.q (fD0 84 0 5 7) (.q (lD0 85 84 8) (.q (qD 86 (.len (.t 85)) 9) (.e (eD 83 (.call 234 [(.t 82)]) 6 [1,8]) (.e (eD 87 (.makeSl 1 8 [(.int .i64 0)] (.t 86) (.t 86)) 10 [1,3,5]) (.e (eD 88 (.buildSl 1 1 [.b8] [(0,1,(.t 87))]) 11 [1,3,5]) (.e (eD 89 (.append 1 24 (.t 83) (.t 88)) 12 [1]) (.q (qD 90 (.indexAddr 1 (.t 78) (I0 0)) 13) (.e (wD0 1 90 89 14) .done .none)) .none) .none) .none) (.e (eD 87 (.makeSl 1 8 [(.int .i64 0)] (.t 86) (.t 86)) 10 [1,3,5]) (.e (eD 83 (.call 234 [(.t 82)]) 6 [1,8]) (.e (eD 88 (.buildSl 1 1 [.b8] [(0,1,(.t 87))]) 11 [1,3,5]) (.e (eD 89 (.append 1 24 (.t 83) (.t 88)) 12 [1]) (.q (qD 90 (.indexAddr 1 (.t 78) (I0 0)) 13) (.e (wD0 1 90 89 14) .done .none)) .none) .none) (.e (eD 88 (.buildSl 1 1 [.b8] [(0,1,(.t 87))]) 11 [1,3,5]) (.e (eD 83 (.call 234 [(.t 82)]) 6 [1,8]) (.e (eD 89 (.append 1 24 (.t 83) (.t 88)) 12 [1]) (.q (qD 90 (.indexAddr 1 (.t 78) (I0 0)) 13) (.e (wD0 1 90 89 14) .done .none)) .none) .none) .none)) .none)))))))))))) .skip)) (S0 (R0 [0,4,5] [eI 10 (.buildSl 1 4 [(.int .i64 0)] [(0,1,(I0 7)),(1,1,(I0 7)),(2,1,(I0 7)),(3,1,(I0 7))]),C1 11 197 10,vI0 3 5 11])
 (S0 (R0 [4,5,14] [mI0 12 0,eI 13 (.call 110 [(.t 12),(I0 2)]),cI0 14 .eql 13 0])
 (.cond (.t 14) (R0 [4,5] [eI 15 (.buildSl 1 7 [(.int .i64 0)] [(0,1,(I0 2)),(1,1,(I0 2)),(2,1,(I0 2)),(3,1,(I0 2)),(4,1,(I0 2)),(5,1,(I0 2)),(6,1,(I0 2))]),C1 16 197 15,vI0 3 5 16]) .skip)))))))))))))))
 (S0 (R0 [4] [LI0 91 5,vI0 3 4 91])
 .ret))))⟩
def cf195:cF prog f195=Dc if195:=by kernel_rfl
def if279:IFn:=⟨[0],[(.tmp 2)],(S0 (R0 [0] [qI 2 (.mv (.c (.str [])))])
 (S0 (.seq (R0 [0,4] [mI0 3 0,cI0 4 .lss 3 10])
 (.cond (.t 4) (S0 (R0 [2] [mI0 5 0,qI 6 (.bin .add .other (I0 48) (.t 5)),qI 7 (.conv .u8 (.t 6)),eI 8 (.buildSl 1 1 [(.int .u8 0)] [(0,1,(.t 7))]),eI 9 (.strOf (.t 8)),mI0 2 9])
 .ret) .skip))
 (S0 (.tree [2] (.q (mD0 10 0 0) (.q (qD 11 (.bin .quo .other (.t 10) (I0 10)) 1) (.q (mD0 13 0 3) (.q (qD 14 (.bin .rem .other (.t 13) (I0 10)) 4) (.q (qD 15 (.bin .add .other (I0 48) (.t 14)) 5) (.q (qD 16 (.conv .u8 (.t 15)) 6) (.e (eD 12 (.call 279 [(.t 11)]) 2 []) (.e (eD 17 (.buildSl 1 1 [(.int .u8 0)] [(0,1,(.t 16))]) 7 []) (.e (eD 18 (.strOf (.t 17)) 8 []) (.q (qD 19 (.bin .add .other (.t 12) (.t 18)) 9) (.q (mD0 2 19 10) .done)) .none) .none) (.e (eD 17 (.buildSl 1 1 [(.int .u8 0)] [(0,1,(.t 16))]) 7 []) (.e (eD 12 (.call 279 [(.t 11)]) 2 []) (.e (eD 18 (.strOf (.t 17)) 8 []) (.q (qD 19 (.bin .add .other (.t 12) (.t 18)) 9) (.q (mD0 2 19 10) .done)) .none) (.e (eD 18 (.strOf (.t 17)) 8 []) (.e (eD 12 (.call 279 [(.t 11)]) 2 []) (.q (qD 19 (.bin .add .other (.t 12) (.t 18)) 9) (.q (mD0 2 19 10) .done)) .none) .none)) .none)))))))))
 .ret)))⟩
def cf279:cF prog f279=Dc if279:=by kernel_rfl
end
def zIO{n l u:Int}(A:K (.bool (decide (l<=n/\n<=u))) σ):zA Tryz.prog 212 [.int .i64 n,.int .i64 l,.int .i64 u] σ K:=by
 refine Lg Tryz.func212 ?_;by_cases h:l<=n
 .simp only[Z3,seval,-ae,h];exact pke A ⟨λx=>x.2,λx=>⟨h,x⟩⟩
 .simp only[Z3,seval,-ae,h];exact pkf A af
def zCI{n l u:Int}(A:K (.bool (decide (l<=n/\n<=u))) σ):zA Tryz.prog 167 [.int .i64 n,.int .i64 l,.int .i64 u] σ K:=by
 refine Lg Tryz.func167 ?_;by_cases h:l<=n
 .simp only[Z3,seval,-ae,h];exact pke A ⟨λx=>x.2,λx=>⟨h,x⟩⟩
 .simp only[Z3,seval,-ae,h];exact pkf A af
def rM(xs:V1)(p n:Int):Prop:=(Lu xs:Int)=n/\∀x∈xs,0<=x/\x<=p-1
instance (xs:V1) (p n:Int):Decidable (rM xs p n):=by unfold rM;infer_instance
def zLe{w:Bool}{a:AV}{xs:V1}{p n:Int}{l:Nat}(G:l=Lu xs)(D:(Lu xs)<=4611686018427387904)(L:0<p)(N:p<4611686018427387904)(u:K (.bool (decide (rM xs p n))) σ):
  zA Tryz.prog 179 [.fz w a l (cS xs),.int .i64 p,.int .i64 n] σ K:=by
 subst G;refine Lg Tryz.func179 ?_;refine Lk ?_;split
 .refine zF (λm vs h'=>∃i:Nat,i<=Lu xs/\m=Lu xs-i/\vs=[.int .i64 p,.fz w a (Lu xs) (cS xs),.int .i64 (Lu xs),.int .i64 i]/\h'=σ/\∀x∈xs.take i,0<=x/\x<=p-1) (Lu xs) ?_ ?_
  .exact⟨0,af,af,rfl,rfl,aK⟩
  .rintro m vs h' ⟨i,J,rfl,rfl,rfl,C⟩
   refine Lk ?_;split
   .rename_i h;have I:Lp .i64 (p-1)=p-1:=WE;simp only[Z3,seval,-ae,h,zN,gi h,gX h D,I];refine zIO ?_;simp only[Z3,seval,-ae,gX h D];split
    .exact⟨_,af,i+1,af,rfl,rfl,zAG h C (by assumption)⟩
    .rename_i H;exact pkf u λA=>H (A.2 _ (YZ h))
   .refine pkt u ⟨by assumption,zBl af C⟩
 .rename_i E;exact pkf u λA=>E A.1
def zF0{w:Bool}{a:AV}{xs:V1}{p:Int}{n:Nat}{l:Nat}(u:l=Lu xs)(E:(Lu xs)<=4611686018427387904)(L:0<p)(N:p<4611686018427387904)(A:K (.bool (decide (rM xs p n))) σ):
  zA Tryz.prog 204 [.fz w a l (cS xs),.int .i64 p,.int .i64 n] σ K:=by
 subst u;refine Lg Tryz.func204 ?_;refine Lk ?_;split
 .rename_i u;have u:(Lu xs)=n:=af
  subst u;refine zF (λm vs h'=>∃i:Nat,i<=Lu xs/\m=Lu xs-i/\vs=[.fz w a (Lu xs) (cS xs),.int .i64 p,.int .i64 (Lu xs),.int .i64 i]/\h'=σ/\∀x∈xs.take i,0<=x/\x<=p-1) (Lu xs) ?_ ?_
  .exact⟨0,af,af,rfl,rfl,aK⟩
  .rintro m vs h' ⟨i,J,rfl,rfl,rfl,D⟩
   refine Lk ?_;split
   .rename_i h;have I:Lp .i64 (p-1)=p-1:=WE;simp only[Z3,seval,-ae,h,zN,gi h,gX h E,I];refine zCI ?_;simp only[Z3,seval,-ae,gX h E];split
    .exact⟨_,af,i+1,af,rfl,rfl,zAG h D (by assumption)⟩
    .rename_i H;exact pkf A λC=>H (C.2 _ (YZ h))
   .refine pkt A ⟨rfl,zBl af D⟩
 .rename_i G;exact pkf A λC=>G C.1
def mw(xs:V1):Prop:=∀x∈xs,x=0
instance (xs:V1):Decidable (mw xs):=by unfold mw;infer_instance
def QJ{w:Bool}{a:AV}{xs:V1}{l:Nat}(E:l=Lu xs)(D:(Lu xs)<=4611686018427387904)(A:K (.bool (decide (mw xs))) σ):zA Tryz.prog 155 [.fz w a l (cS xs)] σ K:=by
 subst E;refine Lg Tryz.func155 ?_;refine Lk ?_;refine zF (λm vs h'=>∃i:Nat,i<=Lu xs/\m=Lu xs-i/\vs=[.fz w a (Lu xs) (cS xs),.int .i64 (Lu xs),.int .i64 i]/\h'=σ/\∀x∈xs.take i,x=0) (Lu xs) ?_ ?_
 .exact⟨0,af,af,rfl,rfl,aK⟩
 .rintro m vs h' ⟨i,I,rfl,rfl,rfl,u⟩
  refine Lk ?_;split
  .rename_i h;simp only[Z3,seval,-ae,h,zN,gi h];split
   .rename_i C;simp only[Z3,seval,-ae,gX h D];exact⟨_,af,i+1,af,rfl,rfl,zAG h u C⟩
   .rename_i G;exact pkf A λH=>G (H _ (YZ h))
  .refine pkt A (zBl af u)
def Zb{w:Bool}{a:AV}{xs:V1}{l:Nat}(E:l=Lu xs)(D:(Lu xs)<=4611686018427387904)(A:K (.bool (decide (mw xs))) σ):zA Tryz.prog 150 [.fz w a l (cS xs)] σ K:=by
 subst E;refine Lg Tryz.func150 ?_;refine Lk ?_;refine zF (λm vs h'=>∃i:Nat,i<=Lu xs/\m=Lu xs-i/\vs=[.fz w a (Lu xs) (cS xs),.int .i64 i]/\h'=σ/\∀x∈xs.take i,x=0) (Lu xs) ?_ ?_
 .exact⟨0,af,af,rfl,rfl,aK⟩
 .rintro m vs h' ⟨i,I,rfl,rfl,rfl,u⟩
  refine Lk ?_;split
  .rename_i h;simp only[Z3,seval,-ae,h,zN,gi h];split
   .rename_i C;simp only[Z3,seval,-ae,gX h D];exact⟨_,af,i+1,af,rfl,rfl,zAG h u C⟩
   .rename_i G;exact pkf A λH=>G (H _ (YZ h))
  .refine pkt A (zBl af u)
def zFc{w:Bool}{a:AV}{xs:V1}{k:Nat}{l:Nat}(E:l=Lu xs)(D:(Lu xs)<=4611686018427387904)(I:k<Lu xs)(A:K (.bool (decide (mw (xs.take (k+1))))) σ):zA Tryz.prog 205 [.fz w a l (cS xs),.int .i64 k] σ K:=by
 subst E;refine Lg Tryz.func205 ?_;refine Lk ?_;refine zF (λm vs h'=>∃i:Nat,i<=k+1/\m=k+1-i/\vs=[.fz w a (Lu xs) (cS xs),.int .i64 k,.int .i64 i]/\h'=σ/\∀x∈xs.take i,x=0) (k+1) ?_ ?_
 .exact⟨0,af,af,rfl,rfl,aK⟩
 .rintro m vs h' ⟨i,J,rfl,rfl,rfl,u⟩
  refine Lk ?_;split
  .rename_i h;have h:i<Lu xs:=af
   simp only[Z3,seval,-ae,h,zN,gi h];split
   .rename_i C;simp only[Z3,seval,-ae,gX h D];exact⟨_,af,i+1,af,rfl,rfl,zAG h u C⟩
   .rename_i G;refine pkf A λH=>G (H _ ?_);rw[UB];exact⟨i,af,rfl⟩
  .have:i=k+1:=af
   subst this;exact pkt A u
def zPZ{xs ys:V1}(A:(Lu xs)=Lu ys){i:Nat}(u:i<Lu xs)(h:xs.take i=ys.take i)(l:xs[i]=ys[i]'(by omega)):xs.take (i+1)=ys.take (i+1):=by
 rw[YN u,YN (af:i<Lu ys),h,l]
def Q9{w H:Bool}{a a':AV}{xs ys:V1}{l:Nat}{G:Nat}(h:l=Lu xs)(I:G=Lu ys)(L:(Lu xs)<=4611686018427387904)(A:K (.bool (decide (xs=ys))) σ):zA Tryz.prog 146 [.fz w a l (cS xs),.fz H a' G (cS ys)] σ K:=by
 subst h;subst I;refine Lg Tryz.func146 ?_;refine Lk ?_;split
 .rename_i h;have h:(Lu xs)=Lu ys:=af
  refine zF (λm vs h'=>∃i:Nat,i<=Lu xs/\m=Lu xs-i/\vs=[.fz w a (Lu xs) (cS xs),.fz H a' (Lu ys) (cS ys),.int .i64 i]/\h'=σ/\xs.take i=ys.take i) (Lu xs) ?_ ?_
  .exact⟨0,af,af,rfl,rfl,aK⟩
  .rintro m vs h' ⟨i,O,rfl,rfl,rfl,E⟩
   refine Lk ?_;split
   .rename_i u;have D:i<Lu ys:=af
    simp only[Z3,seval,-ae,u,D,zN,gi u,gi D];split
    .rename_i J;simp only[Z3,seval,-ae,gX u L];exact⟨_,af,i+1,af,rfl,rfl,zPZ h u E J⟩
    .rename_i N;refine pkf A λC=>N (by subst C;rfl)
   .refine pkt A ?_;rwa[YS af,YS af]at E
 .rename_i h;exact pkf A λC=>h (by rw[C])
def zBC{w H:Bool}{a a':AV}{xs ys:V1}{l:Nat}{G:Nat}(h:l=Lu xs)(I:G=Lu ys)(L:(Lu xs)<=4611686018427387904)(A:K (.bool (decide (xs=ys))) σ):zA Tryz.prog 188 [.fz w a l (cS xs),.fz H a' G (cS ys)] σ K:=by
 subst h;subst I;refine Lg Tryz.func188 ?_;refine Lk ?_;split
 .rename_i h;have h:(Lu xs)=Lu ys:=af
  refine zF (λm vs h'=>∃i:Nat,i<=Lu xs/\m=Lu xs-i/\vs=[.fz w a (Lu xs) (cS xs),.fz H a' (Lu ys) (cS ys),.int .i64 (Lu xs),.int .i64 i]/\h'=σ/\xs.take i=ys.take i) (Lu xs) ?_ ?_
  .exact⟨0,af,af,rfl,rfl,aK⟩
  .rintro m vs h' ⟨i,O,rfl,rfl,rfl,E⟩
   refine Lk ?_;split
   .rename_i u;have D:i<Lu ys:=af
    simp only[Z3,seval,-ae,u,D,zN,gi u,gi D];split
    .rename_i J;simp only[Z3,seval,-ae,gX u L];exact⟨_,af,i+1,af,rfl,rfl,zPZ h u E J⟩
    .rename_i N;refine pkf A λC=>N (by subst C;rfl)
   .refine pkt A ?_;rwa[YS af,YS af]at E
 .rename_i h;exact pkf A λC=>h (by rw[C])
def jF(n:Int):Prop:=n=2\/n=3\/n=5\/n=7
instance (n:Int):Decidable (jF n):=by unfold jF;infer_instance
def jF.bd{n:Int}(h:jF n):2<=n/\n<=7:=by unfold jF at h;omega
def zBH{n:Int}(h:K (.bool (decide (jF n))) σ):zA Tryz.prog 203 [.int .i64 n] σ K:=by
 refine Lg Tryz.func203 ?_;by_cases l:n=2
 .simp only[Z3,seval,-ae,l];exact pkt h (by unfold jF;omega)
 by_cases u:n=3
 .simp only[Z3,seval,-ae,u];exact pkt h (by unfold jF;omega)
 by_cases A:n=5
 .simp only[Z3,seval,-ae,A];exact pkt h (by unfold jF;omega)
 by_cases C:n=7
 .simp only[Z3,seval,-ae,C];exact pkt h (by unfold jF;omega)
 simp only[Z3,seval,-ae,l,u,A,C];exact pkf h (by unfold jF;omega)
def zCm{n:Int}(h:K (.bool (decide (jF n))) σ):zA Tryz.prog 187 [.int .i64 n] σ K:=by
 refine Lg Tryz.func187 ?_;by_cases l:n=2
 .simp only[Z3,seval,-ae,l];exact pkt h (by unfold jF;omega)
 by_cases u:n=3
 .simp only[Z3,seval,-ae,u];exact pkt h (by unfold jF;omega)
 by_cases A:n=5
 .simp only[Z3,seval,-ae,A];exact pkt h (by unfold jF;omega)
 by_cases C:n=7
 .simp only[Z3,seval,-ae,C];exact pkt h (by unfold jF;omega)
 simp only[Z3,seval,-ae,l,u,A,C];exact pkf h (by unfold jF;omega)
def zGV(a b:Int)(h:0<b):(if a.tmod b<0 then a.tdiv b-1 else a.tdiv b)=a / b:=by
 have l:=Int.tmod_add_mul_tdiv a b;have u:=I2 a b;have A:=Y3 a (af:b≠0);have C:=Y6 a h;have D:=HO a h;have E:=JC a h;split
 .have e1:b*(a / b-a.tdiv b+1)=a.tmod b-a % b+b:=by rw[U3,Int.mul_sub];omega
  have:a / b-a.tdiv b+1=0:=by
   rcases I1 (a / b-a.tdiv b+1) 0 with x|x|x
   .have:=Yy (show a / b-a.tdiv b+1<=-1 by omega) (show 0<=b by omega)
    rw[e1]at this;omega
   .exact x
   .have:=Yy (show 1<=a / b-a.tdiv b+1 by omega) (show 0<=b by omega)
    rw[e1]at this;omega
  omega
 .have e1:b*(a / b-a.tdiv b)=a.tmod b-a % b:=by rw[Int.mul_sub];omega
  have:a / b-a.tdiv b=0:=by
   rcases I1 (a / b-a.tdiv b) 0 with x|x|x
   .have:=Yy (show a / b-a.tdiv b<=-1 by omega) (show 0<=b by omega)
    rw[e1]at this;omega
   .exact x
   .have:=Yy (show 1<=a / b-a.tdiv b by omega) (show 0<=b by omega)
    rw[e1]at this;omega
  omega
def zLu{a b:Int}(A:0<b)(u:sm a):sm (a.tdiv b):=by
 have h:(a.tdiv b).natAbs=a.natAbs / b.natAbs:=Int.natAbs_tdiv a b;have l:a.natAbs / b.natAbs<=a.natAbs:=Nat.div_le_self _ _;unfold sm at *
 omega
def zF8{a b:Int}(u:0<b)(C:sm a)(h:K (.int .i64 (a / b)) σ):zA Tryz.prog 180 [.int .i64 a,.int .i64 b] σ K:=by
 refine Lg Tryz.func180 ?_;have A:b≠0:=af
 have D:=zGV a b u;have hs:=zLu u C;unfold sm at hs;rw[<-D]at h;simp only[Z3,seval,-ae,A,fl (n:=a.tdiv b) af af];split
 .rename_i l;rw[DK l]at h;simp only[Z3,seval,-ae,fl (n:=a.tdiv b-1) af af];exact h
 .rename_i l;rw[DL l]at h;exact h
def zLc{a b:Int}(u:0<b)(C:sm a)(h:K (.int .i64 (a / b)) σ):zA Tryz.prog 221 [.int .i64 a,.int .i64 b] σ K:=by
 refine Lg Tryz.func221 ?_;have A:b≠0:=af
 have D:=zGV a b u;have hs:=zLu u C;unfold sm at hs;rw[<-D]at h;simp only[Z3,seval,-ae,A,fl (n:=a.tdiv b) af af];split
 .rename_i l;rw[DK l]at h;simp only[Z3,seval,-ae,fl (n:=a.tdiv b-1) af af];exact h
 .rename_i l;rw[DL l]at h;exact h
def zIT(x p:Int)(h:0<p):(x.tmod p+p).tmod p=x % p:=by
 have l:=HO x h;have u:=JC x h;rw[Yd af,Int.add_emod_right];rcases Int.le_total 0 x with h0|h0
 .rw[Yd h0,UK _ (Uk p)]
 .obtain⟨y,rfl⟩:∃y,x=-y:=⟨-x,af⟩
  rw[Int.neg_tmod,Yd af];have e:=I2 y p
  have:-y=-(y % p)+p*(-(y / p)):=by rw[Ut];omega
  rw[this,Int.add_mul_emod_self_left]
def zBc{x p:Int}(h:0<p)(E:p<4611686018427387904)(A:K (.int .i64 (x % p)) σ):zA Tryz.prog 164 [.int .i64 x,.int .i64 p] σ K:=by
 refine Lg Tryz.func164 ?_;have l:p≠0:=af
 have C:=HO x h;have D:=JC x h;have hw:Lp .i64 (x.tmod p+p)=x.tmod p+p:=WE;have u:=zIT x p h;simp only[Z3,seval,-ae,l,hw,u];exact A
def zEU{x p:Int}(l:0<p)(E:p<4611686018427387904)(u:K (.int .i64 (x % p)) σ):zA Tryz.prog 173 [.int .i64 x,.int .i64 p] σ K:=by
 refine Lg Tryz.func173 ?_;have A:p≠0:=af
 have C:=HO x l;have D:=JC x l;have h:=zIT x p l;simp only[Z3,seval,-ae,A];split
 .rw[Yd af,Ys af af]at h;simp only[Z3,seval,-ae,h,fl (n:=x % p) af af];exact u
 .rw[Yd af,Int.add_emod_right,Ys af af]at h;rw[h];exact u
def fG(p:Int):Nat->Int
 |0=>1
 |n+1=>fG p n*p
def zMK{p:Int}(h:2<=p/\p<=7):∀{n:Nat},n<=6->1<=fG p n/\fG p n<=7 ^ n
 |0,_=>by simp[fG]
 |n+1,hn=>by
  obtain⟨A,C⟩:=zMK h (n:=n) af;simp only[fG];have l:=Yy h.1 (show 0<=fG p n by omega);have u:=Yy h.2 (show 0<=fG p n by omega);rw[HN];omega
def zE6{p:Int}(u:2<=p/\p<=7){n:Nat}(l:n<=6):1<=fG p n/\fG p n<=117649:=by
 obtain⟨h,A⟩:=zMK u l;refine⟨h,?_⟩
 have:(7:Int) ^ n<=7 ^ 6:=by
  obtain rfl|rfl|rfl|rfl|rfl|rfl|rfl:n=0\/n=1\/n=2\/n=3\/n=4\/n=5\/n=6:=af
  all_goals decide
 have e:(7:Int) ^ 6=117649:=by decide
 omega
def zCf{p:Int}{n:Nat}(l:2<=p/\p<=7)(C:n<=6)(h:K (.int .i64 (fG p n)) σ):zA Tryz.prog 80 [.int .i64 p,.int .i64 n] σ K:=by
 refine Lg Tryz.func80 ?_;refine Lk ?_;refine zF (λm vs h'=>∃i:Nat,i<=n/\m=n-i/\vs=[.int .i64 p,.int .i64 (fG p i),.int .i64 n,.int .i64 i]/\h'=σ) n ?_ ?_
 .exact⟨0,af,af,rfl,rfl⟩
 .rintro m vs h' ⟨i,A,rfl,rfl,rfl⟩
  refine Lk ?_;split
  .rename_i u
   have:=zE6 l (n:=i+1) af
   simp only[fG]at this;simp only[Z3,seval,-ae,gX (n:=n) af af,fl (n:=fG p i*p) af af];exact⟨_,af,i+1,af,rfl,rfl⟩
  .have:i=n:=af
   subst this;exact h
def zGv{p:Int}{n:Nat}(u:2<=p/\p<=7)(C:n<=6)(A:∀k,(k<=729↔fG p n<=729)->(k<=729->k=fG p n)->1<=k->k<=117649->K (.int .i64 k) σ):zA Tryz.prog 198 [.int .i64 p,.int .i64 n] σ K:=by
 refine Lg Tryz.func198 ?_;refine Lk ?_;refine zF (λm vs h'=>∃i:Nat,i<=n/\m=n-i/\vs=[.int .i64 p,.int .i64 n,.int .i64 (fG p i),.int .i64 i]/\h'=σ) n ?_ ?_
 .exact⟨0,af,af,rfl,rfl⟩
 .rintro m vs h' ⟨i,G,rfl,rfl,rfl⟩
  have h:=zE6 u (n:=i) af;have mono:∀j,i<=j->j<=6->fG p i<=fG p j:=by
   intro j H D
   induction j with
   |zero=>
     have:i=0:=af
     subst this;exact UA _
   |succ j ih=>
    rcases YG i (j+1)with x|x
    .have:=ih af af
     have E:=zE6 u (n:=j) af
     have:=Yy u.1 (show 0<=fG p j by omega)
     simp only[fG];omega
    .have:i=j+1:=af
     subst this;exact UA _
  by_cases l:i<n
  .by_cases hle:fG p i<=729
   .have:=zE6 u (n:=i+1) af
    simp only[fG]at this;simp only[Z3,seval,-ae,l,hle,gX (n:=n) l af,fl (n:=fG p i*p) af af];exact⟨_,af,i+1,af,rfl,rfl⟩
   .simp only[Z3,seval,-ae,l,hle]
    have:=mono n af C
    exact A _ ⟨λx=>af,λx=>af⟩ (λx=>af) h.1 h.2
  .have:i=n:=af
   subst this;simp only[Z3,seval,-ae,l];exact A _ Iff.rfl (λ_=>rfl) h.1 h.2
def qw{w:Bool}{a:AV}{xs:V1}{l:Nat}(C:l=Lu xs)(D:(Lu xs)<=4294967296)(A:∀cap,full 1 cap (Lu xs)->K (.sl σ.aM 0 (Lu xs) cap) (σ.bf (cS xs))):zA Tryz.prog 206 [.fz w a l (cS xs)] σ K:=by
 subst C;refine Lh Tryz.func206 ?_;refine Lk ?_;refine eA.cat (bytes:=8) (σb:=σ) (n:=0) (cs:=[]) (zC σ _) (eA.bf _ 1 rfl (na _)) (zJ xs) af af λE h' u h=>?_;simp only[Z3,seval,-ae]at h ⊢;exact h.out u (zL _ _) A
def Z9{w:Bool}{a:AV}{xs:V1}{l:Nat}(D:l=Lu xs)(E:(Lu xs)<=4294967296)(u:tb σ K xs):zA Tryz.prog 107 [.fz w a l (cS xs)] σ K:=by
 subst D;refine zA.nil0 λC=>zA.gh ?_;refine Lg Tryz.func107 ?_;refine Lk ?_;cases hn:ZX a
 .refine Lk ?_;refine eA.cat (bytes:=8) (σb:=σ) (n:=0) (cs:=[]) (zC σ _) (eA.bf _ 1 rfl (na _)) (zJ xs) af af λG h' A h=>?_;simp only[Z3,seval,-ae]at h ⊢;exact h.out A (zL _ _) u.2
 .refine Lk ?_;exact Gh.ret (u.1 (YU (C hn).1))
def cD(n k:Nat):V1:=(Ep n 0).set k 1
def zU(n k:Nat):(cD n k).length=n:=by simp[cD]
def zIZ{n k:Nat}(u:n<=1048576)(h:k<n)(l:∀cap,full 1 cap n->K (.sl σ.aM 0 n cap) (σ.bf (cS (cD n k)))):zA Tryz.prog 49 [.int .i64 n,.int .i64 k] σ K:=by
 refine Lg Tryz.func49 ?_;simp only[Z3,seval,-ae,h,YL,zh,zJ,uK (n:=n) af,tn (n:=n) af,UX h];rw[zX (by simpa using h)];exact l _ (.inr rfl)
def zAv{s:Nat}{cap:jZ}{w:Bool}{a:AV}{xs ys:V1}{k:Int}{A:Nat}(E:A=Lu ys)(hs:σ.bt s=Dc (cS xs))(u:(Lu xs)<=Lu ys)(N:(Lu xs)<=4294967296)
  (C:∀i (J:i<Lu xs) (L:i<Lu ys),sm (k*ys[i])/\sm (xs[i] - k*ys[i])) (H:K (.tup []) (σ.set s (cS (yB k xs ys)))):
  zA Tryz.prog 108 [.sl s 0 (Lu xs) cap,.fz w a A (cS ys),.int .i64 k] σ K:=by
 subst E;refine Lg Tryz.func108 ?_;refine Lk ?_;refine zF (λm vs h'=>∃i:Nat,i<=Lu xs/\m=Lu xs-i/\vs=[.sl s 0 (Lu xs) cap,.fz w a (Lu ys) (cS ys),.int .i64 k,.int .i64 (Lu xs),.int .i64 i]/\h'=σ.set s (cS ((yB k xs ys).take i++xs.drop i))) (Lu xs) ?_ ?_
 .exact⟨0,af,af,rfl,by rw[UT,EC,Yl,zBz hs]⟩
 .rintro m vs h' ⟨i,O,rfl,rfl,rfl⟩
  refine Lk ?_;split
  .rename_i h;have l:i<Lu ys:=af
   have I:=zFR (k:=k) u;have G:((yB k xs ys).take i++xs.drop i)[i]? = Dc xs[i]:=by
    rw[Yz (by rw[Yh];omega),Yh,Y0]
    have:i+(i-min i (yB k xs ys).length)=i:=af
    rw[this,gi h]
   obtain⟨b1,D⟩:=C i h l;have hlen:i+1<=((yB k xs ys).take i++xs.drop i).length:=by simp;omega
   simp only[Z3,seval,-ae,h,l,zN,zJ,gi l,G,hlen,WX h,b1.w,D.w];refine⟨_,af,i+1,af,rfl,rfl,?_⟩;rw[zX (by simp;omega)];congr 2;apply En;intro j;rcases Eo j i with x|x|x
   .rw[JL af,Yn (by simp;omega),Yn (by simp;omega),Yc,Yc,DK x,DK af]
   .subst x;rw[JS af,Yn (by simp;omega),Yc,DK af,zP5 h l]
   .rw[JL af,Yz (by simp;omega),Yz (by simp;omega),Y0,Y0,Yh,Yh];congr 1;omega
  .have:i=Lu xs:=af
   subst this;rw[List.drop_length,Ye,YS (by rw[zFR u];exact na _)];exact H
def zAc{s l h:Nat}{cap:jZ}{w:Bool}{a:AV}{xs ys:V1}{k:Int}(E:l=Lu xs)(A:h=Lu ys)(hs:σ.bt s=Dc (cS xs))(hle:(Lu xs)<=Lu ys)(C:(Lu xs)<=4294967296)
  (u:∀i (G:i<Lu xs) (H:i<Lu ys),sm (k*ys[i])/\sm (xs[i] - k*ys[i])) (D:K (.tup []) (σ.set s (cS (yB k xs ys)))):
  zA Tryz.prog 108 [.sl s 0 l cap,.fz w a h (cS ys),.int .i64 k] σ K:=by
 subst E;exact zAv A hs hle C u D
def zDR{w h:Bool}{a:AV}{cs:List PV}{n:Nat}{k:Int}(l:K (.tup []) σ):
  zA Tryz.prog 108 [.fz h .b8 0 [],.fz w a n cs,.int .i64 k] σ K:=by
 refine Lg Tryz.func108 ?_;refine Lk ?_;refine zF (λm vs h'=>m=0/\vs=[.fz h .b8 0 [],.fz w a n cs,.int .i64 k,.int .i64 (0:Nat),.int .i64 (0:Nat)]/\h'=σ) 0 ?_ ?_
 .exact⟨rfl,rfl,rfl⟩
 .rintro m vs h' ⟨rfl,rfl,rfl⟩
  refine Lk ?_;exact l
end Go.Proofs
namespace Go.Lie
open Go.Ab
section
def te(p:Int):Prop:=2<=p/\p<=7
abbrev at_(v:V1)(j:Nat):Int:=v.getD j 0
def dp{v:V1}{j:Nat}(h:j<Lu v):at_ v j=v[j]:=by simp[at_,YW,YQ h]
def nX{v:V1}{j:Nat}(h:(Lu v)<=j):at_ v j=0:=by simp[at_,YW,Yq h]
def Zz{a b:V1}(A:(Lu a)=Lu b)(h:∀j,j<Lu a->at_ a j=at_ b j):a=b:=by
 apply UM A;intro j l u
 have:=h j l
 rwa[dp l,dp u]at this
def eJ{v:V1}{i:Nat}(l:i<Lu v)(x:Int)(j:Nat):at_ (v.set i x) j=if j=i then x else at_ v j:=by
 simp only[at_,YW,Y4];by_cases h:i=j
 .subst h;simp[l]
 .rw[DL h,DL (λe=>h e.symm)]
def zb(n:Nat)(j:Nat):at_ (Ep n 0) j=0:=by
 simp only[at_,YW,JX];split<;>rfl
def ku(q:Int)(xs ys:V1):V1:=FD (λx y=>x+q*y) xs ys
def qz{q:Int}{xs ys:V1}(h:(Lu xs)<=Lu ys):(ku q xs ys).length=Lu xs:=by simp[ku];omega
def zGJ{q:Int}{xs ys:V1}{i:Nat}(h:i<Lu xs)(l:i<Lu ys):(ku q xs ys)[i]? = Dc (xs[i] + q*ys[i]):=by
 simp[ku,List.getElem?_zipWith,YQ h,YQ l]
def zBx{q:Int}{xs ys:V1}(h:(Lu xs)=Lu ys)(i:Nat):at_ (ku q xs ys) i=at_ xs i+q*at_ ys i:=by
 rcases YG i (Lu xs) with x|x
 .have:=zGJ (q:=q) x (h ▸ x)
  simp only[at_,YW];rw[this,YQ x,YQ (h ▸ x)];rfl
 .rw[nX (by rw[qz af];exact x),nX x,nX (h ▸ x)];simp
def zHd(k:Int)(xs ys:V1):yB k xs ys=ku (-k) xs ys:=by
 simp only[yB,ku];congr 1;funext x y;rw[Uy];omega
def eX(k:Int)(a:V1)(m:Int)(b:V1):V1:=FD (λx y=>k*x+m*y) a b
def zT{k m:Int}{a b:V1}(h:(Lu a)=Lu b):(eX k a m b).length=Lu a:=by simp[eX];omega
def zJk{k m:Int}{a b:V1}{i:Nat}(h:i<Lu a)(l:i<Lu b):(eX k a m b)[i]? = Dc (k*a[i] + m*b[i]):=by
 simp[eX,List.getElem?_zipWith,YQ h,YQ l]
def qC{k m:Int}{a b:V1}(h:(Lu a)=Lu b)(i:Nat):at_ (eX k a m b) i=k*at_ a i+m*at_ b i:=by
 rcases YG i (Lu a) with x|x
 .rw[dp (by rw[zT h];exact x),dp x,dp (af:i<Lu b)]
  have:=zJk (k:=k) (m:=m) x (af:i<Lu b)
  rw[YQ (by rw[zT h];exact x)]at this;exact Option.some.inj this
 .rw[nX (by rw[zT h];exact x),nX x,nX (af:(Lu b)<=i)];simp
def bd(M:Int)(v:V1):Prop:=∀j,-M<=at_ v j/\at_ v j<=M
def bd.mono{M N:Int}{v:V1}(h:bd M v)(l:M<=N):bd N v:=λj=>by have:=h j;omega
def box(p:Int)(v:V1):Prop:=∀x∈v,0<=x/\x<=p-1
def El(p:Int)(n:Nat)(a:V1):Prop:=(Lu a)=n/\box p a
def box.at{p:Int}{v:V1}(l:0<p)(h:box p v)(j:Nat):0<=at_ v j/\at_ v j<=p-1:=by
 rcases YG j (Lu v) with x|x
 .rw[dp x];exact h _ (YZ x)
 .rw[nX x];omega
structure eT(p:Int)(n:Nat)(W:V2):Prop where
 pr:te p
 le:n<=6
 len:(Lu W)=n
 row:∀(i:Nat) (h:i<Lu W),W[i].length=n/\box p W[i]/\∀j,j<=i->at_ W[i] j=0
variable{p:Int}{n:Nat}{W:V2}
def zx(p:Int)(W:V2)(i:Nat)(v:V1):V1:=ku (at_ v i / p) (v.set i (at_ v i-at_ v i / p*p)) (W.getD i [])
def CC(p:Int)(W:V2):Nat->V1->V1
 |0,v=>v
 |k+1,v=>zx p W k (CC p W k v)
def norm(p:Int)(W:V2)(v:V1):V1:=CC p W (Lu W) v
abbrev w_(W:V2)(i j:Nat):Int:=at_ (W.getD i []) j
def qJ{i:Nat}(h:i<Lu W):W.getD i []=W[i]:=by simp[YW,YQ h]
def eT.zero(o:eT p n W){i j:Nat}(h:j<=i):w_ W i j=0:=by
 rcases YG i (Lu W) with x|x
 .rw[w_,qJ x];exact(o.row i x).2.2 j h
 .simp[w_,YW,Yq x]
def eT.bds(o:eT p n W)(i j:Nat):0<=w_ W i j/\w_ W i j<=p-1:=by
 have:=o.pr.1
 rcases YG i (Lu W) with x|x
 .rw[w_,qJ x];exact(o.row i x).2.1.at af j
 .simp[w_,YW,Yq x];omega
def eT.rowlen(o:eT p n W){i:Nat}(h:i<n):(W.getD i []).length=n:=by
 rw[qJ (o.len ▸ h)];exact(o.row i (o.len ▸ h)).1
def zJd(o:eT p n W){i:Nat}(h:i<n){v:V1}(l:(Lu v)=n):(zx p W i v).length=n:=by
 rw[zx,qz (by rw[YA,o.rowlen h];omega),YA,l]
def zFw(o:eT p n W){i:Nat}(h:i<n){v:V1}(l:(Lu v)=n)(j:Nat):at_ (zx p W i v) j=at_ v j+at_ v i / p*(w_ W i j-if j=i then p else 0):=by
 rw[zx,zBx (by rw[YA,o.rowlen h,l]),eJ af];split
 .rename_i e;subst e;simp only[w_];rw[Int.mul_sub];omega
 .rw[Int.sub_zero]
def QM(o:eT p n W){v:V1}(h:(Lu v)=n):∀{k:Nat},k<=n->(CC p W k v).length=n
 |0,_=>h
 |k+1,hk=>zJd o af (QM o h af)
def ZO(o:eT p n W){v:V1}(h:(Lu v)=n):(norm p W v).length=n:=QM o h (UL o.len)
def zBV(a:Int)(l:0<p):a / p*p<=a/\a<a / p*p+p:=by
 have h:=I2 a p;have u:=Y3 a (af:p≠0);have A:=Y6 a l;rw[UN]at h;omega
def zR4{q w:Int}(C:0<p)(hw:0<=w/\w<=p-1){A:Int}(u:0<=A)(D:-A<=q*p/\q*p<=A):-A<=q*w/\q*w<=A:=by
 rcases Int.le_total 0 q with h|h
 .have h1:=UG h hw.1;have l:=Yy (show w<=p by omega) h;omega
 .have h1:=Yy (show w<=p by omega) (show 0<=-q by omega);have l:=UG (show 0<=-q by omega) hw.1;rw[Uy]at l;rw[Uy,Uy]at h1;omega
def zFp(o:eT p n W){M:Int}{v:V1}(h:bd M v)(i j:Nat):
  (-(M+7)<=at_ v i / p*p/\at_ v i / p*p<=M+7)/\(-(M+7)<=at_ v i / p*w_ W i j/\at_ v i / p*w_ W i j<=M+7):=by
 have u:=o.pr;unfold te at u;have A:=zBV (p:=p) (at_ v i) af;have C:=h i;have l:-(M+7)<=at_ v i / p*p/\at_ v i / p*p<=M+7:=af
 exact⟨l,zR4 af (o.bds i j) af l⟩
def zQo(o:eT p n W){M:Int}{i:Nat}(l:i<n){v:V1}(A:(Lu v)=n)(h:bd M v):bd (2*M+14) (zx p W i v):=λj=>by
 rw[zFw o l A,Int.mul_sub];have u:=o.pr;unfold te at u;have C:=zBV (p:=p) (at_ v i) af;have D:=h i;have E:=h j;obtain⟨G,H⟩:=zFp o h i j;split
 .rename_i e;subst e;rw[o.zero (na _),Y9];omega
 .rw[Y9];omega
def grow(M:Int):Nat->Int
 |0=>M
 |k+1=>2*grow M k+14
def zSI{M:Int}(h:0<=M){k:Nat}(l:k<=6):0<=grow M k/\grow M k<=64*M+882:=by
 obtain rfl|rfl|rfl|rfl|rfl|rfl|rfl:k=0\/k=1\/k=2\/k=3\/k=4\/k=5\/k=6:=af
 all_goals simp only[grow];omega
def zOz(o:eT p n W){M:Int}{v:V1}(l:(Lu v)=n)(h:bd M v):∀{k:Nat},k<=n->bd (grow M k) (CC p W k v)
 |0,_=>h
 |k+1,hk=>zQo o af (QM o l af) (zOz o l h af)
def zMB(o:eT p n W){M:Int}(l:0<=M){v:V1}(A:(Lu v)=n)(h:bd M v){k:Nat}(u:k<=n):bd (64*M+882) (CC p W k v):=
 (zOz o A h u).mono (zSI l (by have:=o.le;omega)).2
def jn:Nat->(Nat->Int)->Int
 |0,_=>0
 |n+1,f=>jn n f+f n
def qP:∀{n:Nat} {f g:Nat->Int},(∀i,i<n->f i=g i)->jn n f=jn n g
 |0,_,_,_=>rfl
 |n+1,f,g,h=>by simp only[jn];rw[qP (λi l=>h i af),h n af]
def Qr:∀(n:Nat) (f g:Nat->Int),jn n (λi=>f i+g i)=jn n f+jn n g
 |0,_,_=>rfl
 |n+1,f,g=>by simp only[jn];rw[Qr n f g];omega
def Zi(k:Int):∀(n:Nat) (f:Nat->Int),jn n (λi=>k*f i)=k*jn n f
 |0,_=>by simp[jn]
 |n+1,f=>by simp only[jn];rw[Zi k n f,U3]
def qQ:∀(n:Nat) {f:Nat->Int},(∀i,i<n->f i=0)->jn n f=0
 |0,_,_=>rfl
 |n+1,f,h=>by simp only[jn];rw[qQ n (λi l=>h i af),h n af];rfl
def Qq{n k:Nat}(A:k<n){f:Nat->Int}(h:∀i,i<n->i≠k->f i=0):jn n f=f k:=by
 induction n with
 |zero=>omega
 |succ n ih=>
  simp only[jn];by_cases e:k=n
  .subst e;rw[qQ k (λi u=>h i af af)];omega
  .rw[ih af (λi u l=>h i af l),h n af (λe'=>e e'.symm)];omega
abbrev rel(p:Int)(W:V2)(i j:Nat):Int:=w_ W i j-if j=i then p else 0
def dq(p:Int)(n:Nat)(W:V2)(f g:Nat->Int):Prop:=∃c:Nat->Int,∀j,f j=g j+jn n (λi=>c i*rel p W i j)
def dq.refl(f:Nat->Int):dq p n W f f:=⟨λ_=>0,λj=>by rw[qQ];omega;intro i _;exact UU _⟩
def dq.symm{f g:Nat->Int}(h:dq p n W f g):dq p n W g f:=by
 obtain⟨c,l⟩:=h;refine⟨λi=>-1*c i,λj=>?_⟩
 have:(λi=>-1*c i*rel p W i j)=λi=>-1*(c i*rel p W i j):=by funext i;rw[UR]
 rw[this,Zi,l j];omega
def dq.trans{f g k:Nat->Int}(h:dq p n W f g)(h':dq p n W g k):dq p n W f k:=by
 obtain⟨c,l⟩:=h;obtain⟨d,hd⟩:=h';refine⟨λi=>c i+d i,λj=>?_⟩
 have:(λi=>(c i+d i)*rel p W i j)=λi=>c i*rel p W i j+d i*rel p W i j:=by funext i;rw[Uf]
 rw[this,Qr,l j,hd j];omega
def dq.add{f g f' g':Nat->Int}(h:dq p n W f g)(h':dq p n W f' g'):dq p n W (λj=>f j+f' j) (λj=>g j+g' j):=by
 obtain⟨c,l⟩:=h;obtain⟨d,hd⟩:=h';refine⟨λi=>c i+d i,λj=>?_⟩
 have:(λi=>(c i+d i)*rel p W i j)=λi=>c i*rel p W i j+d i*rel p W i j:=by funext i;rw[Uf]
 dsimp only;rw[this,Qr,l j,hd j];omega
def dq.mul(k:Int){f g:Nat->Int}(h:dq p n W f g):dq p n W (λj=>k*f j) (λj=>k*g j):=by
 obtain⟨c,l⟩:=h;refine⟨λi=>k*c i,λj=>?_⟩
 have:(λi=>k*c i*rel p W i j)=λi=>k*(c i*rel p W i j):=by funext i;rw[UR]
 dsimp only;rw[this,Zi,l j,U3]
def dq.of_eq{f g:Nat->Int}(h:∀j,f j=g j):dq p n W f g:=by
 have:f=g:=funext h
 subst this;exact dq.refl f
def dq.rel{i:Nat}(h:i<n):dq p n W (λj=>rel p W i j) (λ_=>0):=
 ⟨λk=>if k=i then 1 else 0,λj=>by
  rw[Qq h (λk _ l=>by dsimp only;rw[DL l,UU])];dsimp only;rw[DK rfl];omega⟩
def zOy(o:eT p n W){i:Nat}(h:i<n){v:V1}(u:(Lu v)=n):dq p n W (at_ (zx p W i v)) (at_ v):=by
 refine⟨λk=>if k=i then at_ v i / p else 0,λj=>?_⟩;rw[Qq h (λk _ l=>by dsimp only;rw[DL l,UU]),zFw o h u];dsimp only;rw[DK rfl]
def zL9(o:eT p n W){v:V1}(h:(Lu v)=n):∀{k:Nat},k<=n->dq p n W (at_ (CC p W k v)) (at_ v)
 |0,_=>dq.refl _
 |k+1,hk=>(zOy o af (QM o h af)).trans (zL9 o h af)
def qU(o:eT p n W){v:V1}(h:(Lu v)=n):dq p n W (at_ (norm p W v)) (at_ v):=zL9 o h (UL o.len)
def zMA(o:eT p n W){v:V1}(h:(Lu v)=n):∀{k:Nat},k<=n->∀j,j<k->0<=at_ (CC p W k v) j/\at_ (CC p W k v) j<=p-1
 |0,_,j,hj=>by omega
 |k+1,hk,j,hj=>by
  have l:=o.pr;unfold te at l;simp only[CC];rw[zFw o af (QM o h af),o.zero (af:j<=k)];by_cases e:j=k
  .subst e;rw[DK rfl,Int.zero_sub,Ut]
   have:=zBV (p:=p) (at_ (CC p W j v) j) af
   omega
  .rw[DL e,Int.sub_zero,Y9,UO];exact zMA o h af j af
def QN(o:eT p n W){v:V1}(l:(Lu v)=n):box p (norm p W v):=by
 intro x u;obtain⟨j,h,rfl⟩:=YR.1 u
 have:=zMA o l (UL o.len) j (by rw[ZO o l]at h;rw[o.len];exact h)
 rwa[<-dp h]
def qX(o:eT p n W){a b:V1}(J:(Lu a)=n)(L:(Lu b)=n)(D:box p a)(E:box p b)(h:dq p n W (at_ a) (at_ b)):a=b:=by
 obtain⟨c,A⟩:=h;have G:=o.pr;unfold te at G;have key:∀m,m<=n->∀i,i<m->c i=0:=by
  intro m
  induction m with
  |zero=>intro _ i u;omega
  |succ m ih=>
   intro P i u;by_cases e:i=m
   .subst e;have l:=A i;rw[Qq (k:=i) af (λk O C=>by
     rcases YG k i with x|x
     .rw[ih af k x,UU]
     .rw[rel,o.zero x,DL (λe=>C e.symm)];simp)]at l
    rw[rel,o.zero (na _),DK rfl]at l;have H:=D.at af i;have I:=E.at af i;rw[Int.zero_sub,Ut]at l;rcases I1 (c i) 0 with x|x|x
    .have:=YO (show c i<=-1 by omega) (show 0<=p by omega)
     omega
    .exact x
    .have:=YO (show 1<=c i by omega) (show 0<=p by omega)
     omega
   .exact ih af i af
 refine Zz af λj N=>?_;rw[A j,qQ n (λi u=>by rw[key n (na _) i u,UU])];omega
def zGl(o:eT p n W){a b:V1}(l:(Lu a)=n)(u:(Lu b)=n)(h:dq p n W (at_ a) (at_ b)):norm p W a=norm p W b:=
 qX o (ZO o l) (ZO o u) (QN o l) (QN o u) ((qU o l).trans (h.trans (qU o u).symm))
def zO0(o:eT p n W){a:V1}(h:(Lu a)=n)(l:box p a):norm p W a=a:=
 qX o (ZO o h) h (QN o h) l (qU o h)
end
end Go.Lie
namespace Go.Proofs
open Go.Ab Go.Lie
variable{p:Int}{n:Nat}{σ:cg}{vB vL vP:PV}{K:PV->cg->Prop}{W:V2}{B:V3}
def zIX{q:Int}{u r:V1}{k:Nat}(l:(Lu u)=Lu r)(h:k<Lu u):
  ((ku q u r).take k++u.drop k).set k (u[k] + q*r[k]'(l ▸ h))=(ku q u r).take (k+1)++u.drop (k+1):=by
 have A:=qz (q:=q) (UL l);apply En;intro j;rcases Eo j k with x|x|x
 .rw[JL af,Yn (by simp;omega),Yn (by simp;omega),Yc,Yc,DK x,DK af]
 .subst x;rw[JS (by simp;omega),Yn (by simp;omega),Yc,DK af,zGJ h (l ▸ h)]
 .rw[JL af,Yz (by simp;omega),Yz (by simp;omega),Y0,Y0,Yh,Yh];congr 1;omega
def zKf{q:Int}{u r:V1}{k:Nat}(l:(Lu u)=Lu r)(h:k<Lu u):((ku q u r).take k++u.drop k)[k]? = Dc u[k]:=by
 have A:=qz (q:=q) (UL l);rw[Yz (by rw[Yh];omega),Yh,Y0]
 have:k+(k-min k (ku q u r).length)=k:=af
 rw[this,YQ h]
def zFn{q:Int}{u r:V1}{k:Nat}(h:(Lu u)=Lu r)(A:k<=Lu u):((ku q u r).take k++u.drop k).length=Lu u:=by
 have l:=qz (q:=q) (UL h);simp;omega
def zKg{q:Int}{u r:V1}(h:(Lu u)=Lu r):(ku q u r).take (Lu u)++u.drop (Lu u)=ku q u r:=by
 rw[List.drop_length,Ye,YS (by rw[qz (UL h)];exact na _)]
abbrev big:Int:=1125899906842624
def zEH{s l:Nat}{w1 w:Bool}{D a:AV}{C:List PV}{vB:PV}{p:Int}{n:Nat}{W:V2}{c:V1}(hs:σ.bt s=Dc [.int .i64 p,.fz w1 D (Lu W) C,vB])(hP:dd FI C W)(o:eT p n W)(h:(Lu c)=n)(hb:bd big c)
  (hl:l=Lu c) (S:tb σ K (norm p W c)):zA Tryz.prog 109 [.ptr s 0,.fz w a l (cS c)] σ K:=by
 subst hl;refine zA.pwf λhw=>?_;have Ly:=hw.lt hs;have G:¬s=σ.aM:=af
 have hW:=o.len;have aX:=o.le;have MX:big=1125899906842624:=rfl;have hp:=o.pr;unfold te at hp;refine Lg Tryz.func109 ?_;refine Lk ?_;refine Z9 rfl af ⟨λh0=>?_,λcap Z=>?_⟩
 .subst h0;obtain rfl:n=0:=by simpa using h.symm
  obtain rfl:W=[]:=YU hW;simp only[Z3,seval,-ae,zH hs,zV hs];refine zF (λm vs h'=>m=0/\vs=[.ptr s 0,Ln,.fz w1 D 0 C,.int .i64 (0:Nat),.int .i64 (0:Nat)]/\h'=σ) 0 ?_ ?_
  .exact⟨rfl,rfl,rfl⟩
  .rintro m vs h' ⟨rfl,rfl,rfl⟩
   refine Lk ?_;exact S.1 rfl
 .simp only[Z3,seval,-ae,zH hs,zV hs,G];refine zF (λm vs h'=>∃i:Nat,i<=n/\m=n-i/\vs=[.ptr s 0,.sl σ.aM 0 (Lu c) cap,.fz w1 D (Lu W) C,.int .i64 (Lu W),.int .i64 i]/\h'=σ.bf (cS (CC p W i c))) n ?_ ?_
  .exact⟨0,af,af,rfl,rfl⟩
  .rintro m vs h' ⟨i,R,rfl,rfl,rfl⟩
   refine Lk ?_;refine de (λE=>?_) λY=>?_
   .have cw:i<n:=af
    have iq:=QM o h R;have H:=zMB o LB h hb R;obtain⟨w2,X,T⟩:=hP.rowI (k:=i) af;obtain⟨bp,cB,wZ⟩:=o.row i af;have Q:=qJ (W:=W) (i:=i) af;have O:=λj=>zFp o H i j;have ly:=zBV (p:=p) (at_ (CC p W i c) i) af;have P:=dp (v:=CC p W i c) (j:=i) af;have J:=gi (xs:=CC p W i c) (i:=i) af;rw[<-P]at J;clear P;generalize hv:CC p W i c=v at *
    have U:i<Lu c:=af
    have Mw:=H i;have tW:sm (at_ v i):=by unfold sm;omega
    simp only[Z3,seval,-ae,E,U,zN,T,J,G,zH hs,zV hs];refine zF8 af tW ?_;have dr:sm (at_ v i / p*p):=by have:=(O 0).1;unfold sm;omega
    have ja:sm (at_ v i-at_ v i / p*p):=by unfold sm;omega
    have fC:i+1<=Lu v:=af
    simp only[Z3,seval,-ae,E,U,zN,zJ,T,J,G,zH hs,zV hs,dr.w,ja.w,fC];rw[zX af];have hu:(v.set i (at_ v i-at_ v i / p*p)).length=n:=by rw[YA,iq]
    have fY:CC p W (i+1) c=ku (at_ v i / p) (v.set i (at_ v i-at_ v i / p*p)) W[i]:=by rw[CC,hv,zx,Q]
    have V:∀j,sm (at_ (v.set i (at_ v i-at_ v i / p*p)) j)/\sm (at_ v i / p*at_ W[i] j)/\sm (at_ (v.set i (at_ v i-at_ v i / p*p)) j+at_ v i / p*at_ W[i] j):=λj=>by
     have h1:=(O j).2;have h2:=H j;rw[w_,Q]at h1;rw[eJ af];unfold sm;split<;>omega
    generalize hq:at_ v i / p=q at *
    generalize Lq:v.set i (at_ v i-q*p)=u at *
    refine zF (λm vs h'=>∃k:Nat,k<=n/\m=n-k/\vs=[.ptr s 0,.sl σ.aM 0 (Lu c) cap,.int .i64 q,.fz w1 D (Lu W) C,.int .i64 (Lu W),.int .i64 i,.fz w2 X W[i].length (cS W[i]),.int .i64 W[i].length,.int .i64 k]/\h'=σ.bf (cS ((ku q u W[i]).take k++u.drop k))) n ?_ ?_
    .exact⟨0,af,af,rfl,rfl⟩
    .rintro m vs h' ⟨k,bF,rfl,rfl,rfl⟩
     refine Lk ?_;refine de (λA=>?_) λY=>?_
     .have Mj:k<Lu c:=af
      have I:k<Lu u:=af
      obtain⟨b1,L,N⟩:=V k;rw[dp I,dp A]at N;rw[dp A]at L;have hlen:k+1<=((ku q u W[i]).take k++u.drop k).length:=by rw[zFn af af];omega
      simp only[Z3,seval,-ae,A,Mj,zN,zJ,gi A,zKf (q:=q) (hu.trans bp.symm) I,L.w,N.w,hlen,WX A];refine⟨_,af,k+1,af,rfl,rfl,?_⟩;rw[zX af,zIX af I]
     .have bM:k=Lu u:=af
      subst bM;rw[zKg af];simp only[Z3,seval,-ae,gX (n:=(Lu W)) E af];refine⟨_,af,i+1,af,rfl,rfl,?_⟩;rw[fY]
   .have aU:i=Lu W:=af
    subst aU
    have:=S.2 cap (by rw[ZO o h,<-h];exact Z)
    rw[ZO o h,<-h]at this;exact this
structure lx(vP vB:PV)(W:V2)(B:V3):Prop where
 P:jj vP W
 B:Db vB B
def zRM{q:Int}{u r:V1}{i:Nat}(h:(Lu u)=Lu r)(l:∀j,j<=i->at_ r j=0)(C:i<Lu u):(ku q u r).take (i+1)++u.drop (i+1)=u:=by
 have A:=qz (q:=q) (UL h)
 have:(ku q u r).take (i+1)=u.take (i+1):=by
  apply En;intro j;rw[Yc,Yc];split
  .rename_i D
   have:=l j af
   rw[dp af]at this;rw[zGJ af af,this,gi af];congr 1;omega
  .rfl
 rw[this,List.take_append_drop]
def zNS{vP vB:PV}{l:Nat}{w:Bool}{a:AV}{p:Int}{n:Nat}{W:V2}{B:V3}{c:V1}(hR:lx vP vB W B)(o:eT p n W)(C:(Lu c)=n)(hb:bd big c)
  (hl:l=Lu c) (hk:∀a,K (.fz DF a n (cS (norm p W c))) σ):zA Tryz.prog 178 [.agg [.int .i64 p,vP,vB],.fz w a l (cS c)] σ K:=by
 subst hl;obtain⟨⟨w1,G,S,rfl,hP⟩,⟨T,H,R,rfl,hB⟩⟩:=hR;refine zA.gh ?_;have hW:=o.len;have aX:=o.le;have MX:big=1125899906842624:=rfl;have hp:=o.pr;unfold te at hp;refine qH mix Tryz.func178 ?_;refine Lk ?_;refine qw rfl af λcap X=>?_;refine Lk ?_;refine zF (λm vs h'=>∃i:Nat,i<=n/\m=n-i/\vs=[.ptr σ.aM 0,.sl (σ.aM+1) 0 (Lu c) cap,.int .i64 i]/\h'=(σ.bf [.int .i64 p,.fz w1 G (Lu W) S,.fz T H (Lu B) R]).bf (cS (CC p W i c))) n ?_ ?_
 .exact⟨0,af,af,rfl,rfl⟩
 .rintro m vs h' ⟨i,Q,rfl,rfl,rfl⟩
  refine Lk ?_;refine de (λA=>?_) λV=>?_
  .have cw:i<n:=af
   have kE:i<Lu W:=af
   have iq:=QM o C Q;have D:=zMB o LB C hb Q;obtain⟨w2,a2,hr⟩:=hP.rowI (k:=i) af;obtain⟨Y,cB,wZ⟩:=o.row i af;have P:=qJ (W:=W) (i:=i) af;have N:=λj=>zFp o D i j;have ly:=zBV (p:=p) (at_ (CC p W i c) i) af;have O:=dp (v:=CC p W i c) (j:=i) af;have E:=gi (xs:=CC p W i c) (i:=i) af;rw[<-O]at E;clear O;generalize hv:CC p W i c=v at *
   have Mw:=D i;have tW:sm (at_ v i):=by unfold sm;omega
   simp only[Z3,seval,-ae,A,zN,E];refine zLc af tW ?_;have Z:sm (at_ v i / p*p):=by have:=(N 0).1;unfold sm;omega
   have ja:sm (at_ v i-at_ v i / p*p):=by unfold sm;omega
   have fC:i+1<=Lu v:=af
   simp only[Z3,seval,-ae,A,zN,zJ,E,Z.w,ja.w,fC,WX A];rw[zX af];have hu:(v.set i (at_ v i-at_ v i / p*p)).length=n:=by rw[YA,iq]
   have fY:CC p W (i+1) c=ku (at_ v i / p) (v.set i (at_ v i-at_ v i / p*p)) W[i]:=by rw[CC,hv,zx,P]
   have U:∀j,sm (at_ (v.set i (at_ v i-at_ v i / p*p)) j)/\sm (at_ v i / p*at_ W[i] j)/\sm (at_ (v.set i (at_ v i-at_ v i / p*p)) j+at_ v i / p*at_ W[i] j):=λj=>by
    have h1:=(N j).2;have h2:=D j;rw[w_,P]at h1;rw[eJ af];unfold sm;split<;>omega
   generalize hq:at_ v i / p=q at *
   generalize Lq:v.set i (at_ v i-q*p)=u at *
   refine zF (λm vs h'=>∃k:Nat,i+1<=k/\k<=n/\m=n-k/\vs=[.ptr σ.aM 0,.sl (σ.aM+1) 0 (Lu c) cap,.int .i64 i,.int .i64 q,.int .i64 k]/\h'=(σ.bf [.int .i64 p,.fz w1 G (Lu W) S,.fz T H (Lu B) R]).bf (cS ((ku q u W[i]).take k++u.drop k))) (n-(i+1)) ?_ ?_
   .exact⟨i+1,af,af,af,rfl,by rw[zRM af wZ af]⟩
   .rintro m vs h' ⟨k,Mu,bF,rfl,rfl,rfl⟩
    refine Lk ?_;refine de (λI=>?_) λV=>?_
    .have gP:k<Lu u:=af
     have h:k<W[i].length:=af
     obtain⟨b1,J,L⟩:=U k;rw[dp gP,dp h]at L;rw[dp h]at J;have hlen:k+1<=((ku q u W[i]).take k++u.drop k).length:=by rw[zFn af af];omega
     simp only[Z3,seval,-ae,I,kE,h,hr,zN,zJ,gi h,zKf (q:=q) (hu.trans Y.symm) gP,J.w,L.w,hlen,WX I];refine⟨_,af,k+1,af,af,rfl,rfl,?_⟩;rw[zX af,zIX af gP]
    .have bM:k=Lu u:=af
     subst bM;rw[zKg af];simp only[Z3,seval,-ae,gX (n:=(Lu c)) A af];refine⟨_,af,i+1,af,rfl,rfl,?_⟩;rw[fY]
  .have aU:i=Lu W:=af
   subst aU;rw[C];exact Gh.finF (s:=σ.aM+1) ((zC σ _).bf _) (by refine Lk ?_;rfl) af (zL _ _) (by rw[<-C];exact X.ok) λ_=>hk _
def zI5{xs:V1}(z:Int){i:Nat}(h:i<=Lu xs):(xs.take i++Ep (Lu xs-i) z).length=Lu xs:=by simp;omega
def bd_sm{M:Int}(l:M<=4611686018427387904){a:V1}(h:bd M a)(j:Nat):sm (at_ a j):=by have:=h j;unfold sm;omega
def zPJ{vP vB:PV}{l L:Nat}{w N:Bool}{av G:AV}{p:Int}{n:Nat}{W:V2}{B:V3}{k m:Int}{a b:V1}(u:lx vP vB W B)(o:eT p n W)(I:(Lu a)=n)(T:(Lu b)=n)
  (O:∀j,sm (k*at_ a j)/\sm (m*at_ b j)) (J:bd big (eX k a m b))
  (V:l=Lu a) (P:L=Lu b) (U:∀v,K (.fz DF v n (cS (norm p W (eX k a m b)))) σ):zA Tryz.prog 104 [.agg [.int .i64 p,vP,vB],.int .i64 k,.fz w av l (cS a),.int .i64 m,.fz N G L (cS b)] σ K:=by
 subst V;subst P;refine zA.gh ?_;have R:=u.P.one;have S:=u.B.one;have Z:=o.le;have A:=zT (k:=k) (m:=m) (I.trans T.symm);refine Lg Tryz.func104 ?_;simp only[Z3,seval,-ae,R,S,YL,zh,uK (n:=(Lu a)) af,tn (n:=(Lu a)) af];generalize X:eX k a m b=x at *
 refine zF (λq vs h'=>∃i:Nat,i<=n/\q=n-i/\vs=[.int .i64 k,.fz w av (Lu a) (cS a),.int .i64 m,.fz N G (Lu b) (cS b),.ptr σ.aM 0,.sl (σ.aM+1) 0 (Lu a) (.b6 (Lu a)),.int .i64 i]/\
  h'=(σ.bf [.int .i64 p,vP,vB]).bf (cS (x.take i++Ep (Lu x-i) 0))) n ?_ ?_
 .exact⟨0,af,af,rfl,by rw[UT,Yl,Ed,A]⟩
 .rintro q vs h' ⟨i,hi,rfl,rfl,rfl⟩
  refine Lk ?_;refine de (λh=>?_) λY=>?_
  .have j5:i<Lu b:=af
   have C:i<Lu x:=af
   obtain⟨b1,D⟩:=O i;have E:=bd_sm LB J i;have H:x[i]=k*a[i] + m*b[i]:=by
    have:=zJk (k:=k) (m:=m) h j5
    rw[X,gi C]at this;exact Option.some.inj this
   rw[dp h]at b1;rw[dp j5]at D;rw[dp C,H]at E;have hlen:i+1<=(x.take i++Ep (Lu x-i) 0).length:=by rw[zI5 0 af];omega
   simp only[Z3,seval,-ae,h,j5,gi h,gi j5,zN,zJ,b1.w,D.w,E.w,hlen,WX h];refine⟨_,af,i+1,af,rfl,rfl,?_⟩;rw[zX af,<-H,zI4 x 0 C]
  .have aU:i=Lu x:=af
   subst aU;rw[Yf,Yk,List.replicate_zero,Ye];refine Lk ?_;refine zA.frz (s:=σ.aM+1) (cs:=cS x) (by simp only[Z3,seval,-ae]) (zL _ _) λo1=>?_;have Q:gk (.b6 (Lu a)) (Lu a)=DF:=by simp[gk]
   simp only[kq,sb,Q,and_self,if_true,u.P.sb,u.B.sb];refine zNS u o (A.trans I) J A.symm λv=>?_;refine Lk ?_;exact Gh.fin0 (((zC σ _).bf _).kill af) trivial (U _)
section
variable{s:Nat}
structure jE(σ:cg)(s:Nat)(p:Int)(vP vB:PV):Prop where
 bt:σ.bt s=Dc [.int .i64 p,vP,vB]
 lt:s<σ.aM
def jE.bf(h:jE σ s p vP vB)(cs:List PV):jE (σ.bf cs) s p vP vB:=⟨by have:=h.lt;simp only[Z3,seval,-ae,Ev this];exact h.bt,by have:=h.lt;refine Lk ?_;omega⟩
def jE.kill(h:jE σ s p vP vB){t:Nat}(l:s≠t):jE (σ.kill t) s p vP vB:=⟨by simp only[Z3,seval,-ae,l];exact h.bt,h.lt⟩
def jE.set(h:jE σ s p vP vB){t:Nat}(l:s≠t)(cs:List PV):jE (σ.set t cs) s p vP vB:=⟨by simp only[Z3,seval,-ae,l];exact h.bt,h.lt⟩
def zDc{l:Nat}{cap:jZ}{c:V1}(hs:jE σ s p vP vB)(h:jj vP W)(o:eT p n W)(G:(Lu c)=n)(E:bd big c)
  (H:l=Lu c) (C:gk cap l=DF) (u:tb σ K (norm p W c)):zA Tryz.prog 109 [.ptr s 0,.sl σ.aM 0 l cap] (σ.bf (cS c)) (Gh σ K):=by
 subst H;obtain⟨w1,J,O,rfl,h⟩:=h;have L:=hs.lt;refine zA.frz (s:=σ.aM) (cs:=cS c) (by simp only[Z3,seval,-ae]) (zL _ _) λN=>?_;simp only[kq,sb,C,and_self,if_true];refine zEH ((hs.bf _).kill af).bt h o G E rfl ⟨λD=>?_,λA I=>?_⟩
 .exact Gh.fin0 ((zC σ _).kill (na _)) trivial (u.1 D)
 .exact Gh.np (((zC σ _).kill (na _)).bf _) (by simp only[Z3,seval,-ae]) (by refine Lk ?_;omega) (zL _ _) (u.2 A I)
def zNE{w:Bool}{a:AV}(hs:jE σ s p vP vB)(h:jj vP W)(o:eT p 0 W)(l:tb σ K (norm p W [])):zA Tryz.prog 109 [.ptr s 0,.fz w a 0 []] σ K:=by
 obtain⟨w1,u,A,rfl,h⟩:=h;exact zEH (c:=[]) hs.bt h o rfl (λj=>by simp[at_]) rfl l
def lmix1{a b:V1}(h:(Lu a)=Lu b):yB (-1) a b=eX 1 a 1 b:=by
 rw[zHd];refine Zz (by rw[qz af,zT h]) λj l=>?_;rw[zBx h,qC h];omega
def lmixk{k:Int}{a:V1}:yB (-k) (Ep (Lu a) 0) a=eX k a 0 a:=by
 rw[zHd];refine Zz (by rw[qz aK,zT rfl];simp) λj h=>?_;rw[zBx aK,qC rfl,zb];simp
def zQv{k:Int}{a b:V1}(h:(Lu a)=Lu b):eX k a 0 b=eX k a 0 a:=by
 refine Zz (by rw[zT h,zT rfl]) λj l=>?_;rw[qC h,qC rfl];omega
def zR9{k m A C:Int}{a b:V1}(h:(Lu a)=Lu b)(l:∀j,-A<=k*at_ a j/\k*at_ a j<=A)(u:∀j,-C<=m*at_ b j/\m*at_ b j<=C):bd (A+C) (eX k a m b):=λj=>by
 rw[qC h]
 have:=l j
 have:=u j
 omega
def zHm(o:eT p n W){c:V1}(h:(Lu c)=n):El p n (norm p W c):=⟨ZO o h,QN o h⟩
def mul6{k x:Int}(h:-1000000000<=k/\k<=1000000000)(l:0<=x/\x<=6):-6000000000<=k*x/\k*x<=6000000000:=by
 obtain rfl|rfl|rfl|rfl|rfl|rfl|rfl:x=0\/x=1\/x=2\/x=3\/x=4\/x=5\/x=6:=af
 all_goals omega
def _root_.Go.Lie.El.at{a:V1}(h:El p n a)(l:te p)(j:Nat):0<=at_ a j/\at_ a j<=6:=by
 have:=h.2.at (by have:=l.1;omega) j
 have:=l.2
 omega
def _root_.Go.Lie.El.mul{a:V1}(h:El p n a)(u:te p){k:Int}(l:-1000000000<=k/\k<=1000000000)(j:Nat):-6000000000<=k*at_ a j/\k*at_ a j<=6000000000:=mul6 l (h.at u j)
def _root_.Go.Lie.El.mulsm{a:V1}(h:El p n a)(u:te p){k:Int}(l:-1000000000<=k/\k<=1000000000)(j:Nat):sm (k*at_ a j):=by have:=h.mul u l j;unfold sm;omega
def _root_.Go.Lie.El.mixbd{a b:V1}(h:El p n a)(l:El p n b)(u:te p){k m:Int}(A:-1000000000<=k/\k<=1000000000)(C:-1000000000<=m/\m<=1000000000):Go.Lie.bd big (eX k a m b):=
 (zR9 (h.1.trans l.1.symm) (λj=>h.mul u A j) λj=>l.mul u C j).mono LB
def qF{l C:Nat}{w L:Bool}{av G:AV}{k m:Int}{a b:V1}(H:lx vP vB W B)(o:eT p n W)(h:El p n a)(u:El p n b)(J:l=Lu a)(E:C=Lu b)
  (D:-1000000000<=k/\k<=1000000000) (A:-1000000000<=m/\m<=1000000000)
  (I:∀v,K (.fz DF v n (cS (norm p W (eX k a m b)))) σ):zA Tryz.prog 104 [.agg [.int .i64 p,vP,vB],.int .i64 k,.fz w av l (cS a),.int .i64 m,.fz L G C (cS b)] σ K:=
 zPJ H o h.1 u.1 (λj=>⟨h.mulsm o.pr D j,u.mulsm o.pr A j⟩) (h.mixbd u o.pr D A) J E I
def zEo{l I:Nat}{w U:Bool}{av O:AV}{a b:V1}(hs:jE σ s p vP vB)(G:jj vP W)(o:eT p n W)(A:El p n a)(C:El p n b)(T:l=Lu a)(L:I=Lu b)
  (D:tb σ K (norm p W (eX 1 a 1 b))):zA Tryz.prog 57 [.ptr s 0,.fz w av l (cS a),.fz U O I (cS b)] σ K:=by
 subst T;subst L;have V:=o.le;have h:=A.1;have H:=C.1;refine Lh Tryz.func57 ?_;refine Lk ?_;refine Z9 rfl af ⟨λu=>?_,λcap N=>?_⟩
 .refine Lk ?_;refine zDR ?_;subst u;obtain rfl:n=0:=by simpa using h.symm
  obtain rfl:b=[]:=YU H;refine Lk ?_;refine zNE hs G o ⟨λu=>?_,λcap R=>?_⟩
  .refine Lk ?_;exact Gh.ret (D.1 u)
  .refine Lk ?_;exact Gh.ret (D.2 cap R)
 .refine Lk ?_;have E:(Lu a)=Lu b:=h.trans H.symm;refine zAv rfl (by simp only[Z3,seval,-ae]) af af (λi P Q=>?_) ?_
  .have b1:=A.at o.pr i;have J:=C.at o.pr i;rw[dp P]at b1;rw[dp Q]at J;unfold sm;omega
  .refine Lk ?_;rw[lmix1 E];exact(zDc hs G o (by rw[zT E,h]) (A.mixbd C o.pr LB LB) (zT E).symm N.ok D).mono λv σ' S=>by refine Lk ?_;exact S
def zCo{l:Nat}{w:Bool}{av:AV}{k:Int}{a:V1}(hs:jE σ s p vP vB)(D:jj vP W)(o:eT p n W)(h:El p n a)(H:l=Lu a)(I:-1000000000<=k/\k<=1000000000)
  (G:tb σ K (norm p W (eX k a 0 a))):zA Tryz.prog 100 [.ptr s 0,.int .i64 k,.fz w av l (cS a)] σ K:=by
 subst H;have J:=o.le;have u:=h.1;refine Lh Tryz.func100 ?_;have A:Lp .i64 (0-k)=-k:=WQ
 simp only[Z3,seval,-ae,YL,zh,uK (n:=(Lu a)) af,tn (n:=(Lu a)) af,A];refine zAc (xs:=Ep (Lu a) 0) aK rfl (by simp only[Z3,seval,-ae]) aK (by simp;omega) (λi L C=>?_) ?_
 .have b1:=h.mul o.pr (k:=-k) af i;rw[dp C]at b1;rw[UI];unfold sm;omega
 .refine Lk ?_;rw[lmixk];exact(zDc hs D o (by rw[zT rfl,u]) (h.mixbd h o.pr I LB) (zT rfl).symm (by simp[gk]) G).mono λv σ' E=>by refine Lk ?_;exact E
def zBi(h:lx vP vB W B)(u:(Lu W)=n)(G:n<=1048576)(A:∀v,K (.fz DF v n (cS (Ep n 0))) σ):zA Tryz.prog 102 [.agg [.int .i64 p,vP,vB]] σ K:=by
 have l:=h.B.one;obtain⟨⟨w1,C,H,rfl,E⟩,D⟩:=h;subst u;refine Lh Tryz.func102 ?_;simp only[Z3,seval,-ae,l,zh,uK (n:=(Lu W)) af,tn (n:=(Lu W)) af];exact Gh.finF (s:=σ.aM+1) ((zC σ _).bf _) (by simp only[Z3,seval,-ae]) af (zL _ _) (by simp[gk]) λ_=>A _
def zCt(h:lx vP vB W B)(u:(Lu W)=n)(G:n<=1048576)(A:∀cap,full 1 cap n->K (.sl σ.aM 0 n cap) (σ.bf (cS (Ep n 0)))):zA Tryz.prog 102 [.agg [.int .i64 p,vP,vB]] σ K:=by
 have l:=h.B.one;obtain⟨⟨w1,C,H,rfl,E⟩,D⟩:=h;subst u;refine Lh Tryz.func102 ?_;simp only[Z3,seval,-ae,l,zh,uK (n:=(Lu W)) af,tn (n:=(Lu W)) af];exact Gh.np (s:=σ.aM+1) ((zC σ _).bf _) (by simp only[Z3,seval,-ae]) af (zL _ _) (A _ (.inr rfl))
def qf{k:Nat}(l:lx vP vB W B)(C:(Lu W)=n)(G:n<=1048576)(h:k<n)(E:∀v,K (.fz DF v n (cS (cD n k))) σ):zA Tryz.prog 105 [.agg [.int .i64 p,vP,vB],.int .i64 k] σ K:=by
 have u:=l.P.one;have A:=l.B.one;refine Lh Tryz.func105 ?_;simp only[Z3,seval,-ae,u,A];refine zCt l C G λcap D=>?_;simp only[Z3,seval,-ae,h,zJ,YL,UX h];rw[zX (by simpa using h)];exact Gh.finF (s:=σ.aM+1) ((zC σ _).bf _) (by refine Lk ?_;rfl) af (zL _ _) D.ok λ_=>E _
def Bc(a b:V1)(i j:Nat):Int:=at_ a i*at_ b j-at_ a j*at_ b i
def bk(row:V2)(a b:V1)(i:Nat):Nat->V1->V1
 |0,acc=>acc
 |k+1,acc=>ku (Bc a b i (i+1+k)) (bk row a b i k acc) (row.getD k [])
def bi(B:V3)(a b:V1)(n:Nat):Nat->V1
 |0=>Ep n 0
 |i+1=>bk (B.getD i []) a b i (n-1-i) (bi B a b n i)
def xk(B:V3)(a b:V1)(n:Nat):V1:=bi B a b n n
structure lS(p:Int)(n:Nat)(B:V3):Prop where
 len:(Lu B)=n
 row:∀(i:Nat) (h:i<Lu B),B[i].length=n-1-i
 ent:∀(i:Nat) (h:i<Lu B) (k:Nat) (hk:k<B[i].length),El p n B[i][k]/\∀j,j<=i+k+1->at_ B[i][k] j=0
def zM{α:Type}{B:List (List α)}{i:Nat}(h:i<Lu B):B.getD i []=B[i]:=by simp[YW,YQ h]
def lS.get(q:lS p n B){i k:Nat}(u:i<n)(A:k<n-1-i):El p n ((B.getD i []).getD k [])/\∀j,j<=i+k+1->at_ ((B.getD i []).getD k []) j=0:=by
 have h:i<Lu B:=by rw[q.len];exact u
 have l:k<B[i].length:=by rw[q.row i h];exact A
 rw[zM h,zM l];exact q.ent i h k l
def zAX(q:lS p n B){a b acc:V1}{i:Nat}(l:i<n)(h:(Lu acc)=n):∀{k:Nat},k<=n-1-i->(bk (B.getD i []) a b i k acc).length=n
 |0,_=>h
 |k+1,hk=>by
  have u:=zAX q l h (k:=k) (a:=a) (b:=b) af;rw[bk,qz (by rw[u,(q.get l (af:k<n-1-i)).1.1];omega),u]
def zAY(q:lS p n B){a b:V1}:∀{i:Nat},i<=n->(bi B a b n i).length=n
 |0,_=>by simp[bi]
 |i+1,hi=>zAX q af (zAY q af) (na _)
def zMU{a b:V1}(h:te p)(l:El p n a)(u:El p n b)(i j:Nat):-36<=Bc a b i j/\Bc a b i j<=36:=by
 have m:∀{x y:Int},0<=x/\x<=6->0<=y/\y<=6->0<=x*y/\x*y<=36:=λ{x y} D E=>by
  obtain rfl|rfl|rfl|rfl|rfl|rfl|rfl:x=0\/x=1\/x=2\/x=3\/x=4\/x=5\/x=6:=af
  all_goals omega
 have A:=m (l.at h i) (u.at h j);have C:=m (l.at h j) (u.at h i);unfold Bc;omega
def zKN{a b c:V1}(h:te p)(l:El p n a)(u:El p n b)(A:El p n c)(i j t:Nat):-216<=Bc a b i j*at_ c t/\Bc a b i j*at_ c t<=216:=by
 have C:=zMU h l u i j;have D:=A.at h t;obtain e|e|e|e|e|e|e:at_ c t=0\/at_ c t=1\/at_ c t=2\/at_ c t=3\/at_ c t=4\/at_ c t=5\/at_ c t=6:=af
 all_goals rw[e];omega
def bk_at(q:lS p n B){a b acc:V1}{i:Nat}(h:i<n)(l:(Lu acc)=n)(t:Nat):∀{k:Nat},k<=n-1-i->
  at_ (bk (B.getD i []) a b i k acc) t=at_ acc t+jn k λj=>Bc a b i (i+1+j)*at_ ((B.getD i []).getD j []) t
 |0,_=>by simp[bk,jn]
 |k+1,hk=>by
  have u:=zAX q h l (k:=k) (a:=a) (b:=b) af;rw[bk,zBx (by rw[u,(q.get h (af:k<n-1-i)).1.1]),bk_at q h l t af,jn];omega
def bi_at(q:lS p n B){a b:V1}(t:Nat):∀{i:Nat},i<=n->
  at_ (bi B a b n i) t=jn i λi=>jn (n-1-i) λj=>Bc a b i (i+1+j)*at_ ((B.getD i []).getD j []) t
 |0,_=>by rw[bi,zb];rfl
 |i+1,hi=>by rw[bi,bk_at q af (zAY q af) t (na _),bi_at q t af];rfl
def bk_bd(q:lS p n B){a b acc:V1}(D:te p)(A:El p n a)(C:El p n b){M:Int}{i:Nat}(h:i<n)(l:(Lu acc)=n)(u:bd M acc):∀{k:Nat},k<=n-1-i->bd (M+216*k) (bk (B.getD i []) a b i k acc)
 |0,_=>by simpa [bk]using u
 |k+1,hk=>λt=>by
  have E:=zAX q h l (k:=k) (a:=a) (b:=b) af;have G:=bk_bd q D A C h l u (k:=k) af t;have H:=zKN D A C (q.get h (af:k<n-1-i)).1 i (i+1+k) t;rw[bk,zBx (by rw[E,(q.get h (af:k<n-1-i)).1.1])];omega
def bi_bd(q:lS p n B){a b:V1}(u:te p)(A:n<=6)(h:El p n a)(l:El p n b):∀{i:Nat},i<=n->bd (1296*i) (bi B a b n i)
 |0,_=>λt=>by rw[bi,zb];omega
 |i+1,hi=>(bk_bd q u h l af (zAY q af) (bi_bd q u A h l af) (na _)).mono af
def qc(q:lS p n B){a b:V1}:(xk B a b n).length=n:=zAY q (na _)
def zST(q:lS p n B){a b:V1}(A:te p)(u:n<=6)(h:El p n a)(l:El p n b):bd big (xk B a b n):=(bi_bd q A u h l (na _)).mono (by have:big=1125899906842624:=rfl;omega)
def zP4(k:Int)(xs ys:V1):yB (-k) xs ys=ku k xs ys:=by rw[zHd,Int.neg_neg]
end
section
variable{s:Nat}
def mul36{x y:Int}(h:0<=x/\x<=6)(l:0<=y/\y<=6):0<=x*y/\x*y<=36:=by
 obtain rfl|rfl|rfl|rfl|rfl|rfl|rfl:x=0\/x=1\/x=2\/x=3\/x=4\/x=5\/x=6:=af
 all_goals omega
def zHL{a b:V1}(h:te p)(D:El p n a)(E:El p n b){i j:Nat}(H:i<n)(I:j<n)(l:i<Lu a)(u:j<Lu a)(A:i<Lu b)(C:j<Lu b):
  sm (a[j] * b[i])/\sm (a[i] * b[j])/\sm (a[j] * b[i] - a[i] * b[j])/\sm (a[i] * b[j] - a[j] * b[i])/\a[j] * b[i] - a[i] * b[j]=-(Bc a b i j)/\a[i] * b[j] - a[j] * b[i]=Bc a b i j:=by
 have b1:=mul36 (D.at h j) (E.at h i);have G:=mul36 (D.at h i) (E.at h j);unfold Bc;rw[dp u,dp A]at b1;rw[dp l,dp C]at G;rw[dp l,dp C,dp u,dp A];unfold sm;omega
def zNp{l T:Nat}{w J:Bool}{av D:AV}{a b:V1}(hs:jE σ s p vP vB)(Q:lx vP vB W B)(o:eT p n W)(q:lS p n B)(u:El p n a)(A:El p n b)(hl:l=Lu a)(bK:T=Lu b)
  (hk:tb σ K (norm p W (xk B a b n))):zA Tryz.prog 58 [.ptr s 0,.fz w av l (cS a),.fz J D T (cS b)] σ K:=by
 subst hl;subst bK;have N:=o.le;have db:=u.1;have jH:=A.1;have O:=o.len;have oM:=q.len;have sM:=Q.P;obtain⟨⟨w1,a1,rP,rfl,hP⟩,⟨X,L,V,rfl,hB⟩⟩:=Q;refine zA.gh ?_;have an:¬s=σ.aM:=Ev hs.lt;refine qH mix Tryz.func58 ?_;simp only[Z3,seval,-ae,zH hs.bt,an,YL,zh,uK (n:=(Lu W)) af,tn (n:=(Lu W)) af];refine zF (λm vs h'=>∃i:Nat,i<=n/\m=n-i/\vs=[.ptr s 0,.fz w av (Lu a) (cS a),.fz J D (Lu b) (cS b),.sl σ.aM 0 (Lu W) (.b6 (Lu W)),.fz X L (Lu B) V,.int .i64 (Lu B),.int .i64 i]/\h'=σ.bf (cS (bi B a b n i))) n ?_ ?_
 .exact⟨0,af,af,rfl,by rw[bi,O]⟩
 .rintro m vs h' ⟨i,R,rfl,rfl,rfl⟩
  refine Lk ?_;refine de (λh=>?_) λaG=>?_
  .obtain⟨w4,a4,rs,hr,dz⟩:=hB.rowL h;have aN:=q.row i h;simp only[Z3,seval,-ae,h,hr];have U:=zAY q (a:=a) (b:=b) R;have Z:=bi_bd q o.pr N u A R;have gW:=zM h;refine zF (λm vs h'=>∃k:Nat,k<=n-1-i/\m=n-1-i-k/\vs=[.ptr s 0,.fz w av (Lu a) (cS a),.fz J D (Lu b) (cS b),.sl σ.aM 0 (Lu W) (.b6 (Lu W)),.int .i64 i,.fz X L (Lu B) V,.int .i64 (Lu B),.int .i64 i,
    .fz w4 a4 B[i].length rs,.int .i64 B[i].length,.int .i64 k]/\h'=σ.bf (cS (bk (B.getD i []) a b i k (bi B a b n i)))) (n-1-i) ?_ ?_
   .exact⟨0,af,af,rfl,rfl⟩
   .rintro m vs h' ⟨k,bF,rfl,rfl,rfl⟩
    refine Lk ?_;refine de (λC=>?_) λaG=>?_
    .obtain⟨w5,a5,cE⟩:=dz.rowI C;have G:i+(1+k)<Lu a:=af
     have E:i+(1+k)<Lu b:=af
     have I:i<Lu a:=af
     have H:i<Lu b:=af
     obtain⟨f1,f2,f3,_,P,_⟩:=zHL o.pr u A (i:=i) (j:=i+(1+k)) af af I G H E;have S:=(q.ent i h k C).1;have fL:=zAX q (a:=a) (b:=b) (af:i<n) U (k:=k) af;have Y:=bk_bd q o.pr u A (af:i<n) U Z (k:=k) af;simp only[Z3,seval,-ae,C,cE,G,E,I,H,gi G,gi E,gi I,gi H,zN,gX (n:=n) (i:=i) af af,wrapA (a:=i+1) (b:=k) af,f1.w,f2.w,f3.w];refine zAc (xs:=bk (B.getD i []) a b i k (bi B a b n i)) af rfl (by simp only[Z3,seval,-ae]) (by rw[S.1];omega) af (λt h1 h2=>?_) ?_
     .have c1:=zKN o.pr u A S i (i+(1+k)) t;have c2:=Y t;rw[dp h2]at c1;rw[dp h1]at c2;rw[P,Uy];unfold sm;omega
     .simp only[Z3,seval,-ae,WX C];refine⟨_,af,k+1,af,rfl,rfl,?_⟩;rw[P,zP4,bk,zM (B:=B) h,zM (B:=B[i]) C,UP]
    .have bM:k=n-1-i:=af
     subst bM;simp only[Z3,seval,-ae,WX h];exact⟨_,af,i+1,af,rfl,rfl,rfl⟩
  .have aU:i=n:=af
   subst aU;exact(zDc hs sM o (qc q) (zST q o.pr N u A) (by rw[qc q];exact O) (by simp[gk]) hk).mono λv σ' hg=>by refine Lk ?_;exact hg
def ZB(h:te p):El p n (Ep n 0):=⟨aK,λx l=>by rw[Yi l];have:=h.1;omega⟩
def qB{l T:Nat}{w L:Bool}{av C:AV}{a b:V1}(R:lx vP vB W B)(o:eT p n W)(q:lS p n B)(E:El p n a)(G:El p n b)(hl:l=Lu a)(bK:T=Lu b)
  (hk:∀v,K (.fz DF v n (cS (norm p W (xk B a b n)))) σ):zA Tryz.prog 148 [.agg [.int .i64 p,vP,vB],.fz w av l (cS a),.fz L C T (cS b)] σ K:=by
 subst hl;subst bK;have aX:=o.le;have db:=E.1;have jH:=G.1;have dS:=o.len;have oM:=q.len;have P:=R;obtain⟨⟨w1,N,V,rfl,hP⟩,⟨X,O,U,rfl,hB⟩⟩:=R;refine zA.gh ?_;refine qH mix Tryz.func148 ?_;refine Lk ?_;refine zBi P dS af λv0=>?_;refine Lk ?_;refine zF (λm vs h'=>∃i:Nat,i<=n/\m=n-i/\∃v out,vs=[.fz w av (Lu a) (cS a),.fz L C (Lu b) (cS b),.ptr σ.aM 0,.fz DF v n (cS out),.int .i64 i]/\h'=σ.bf [.int .i64 p,.fz w1 N (Lu W) V,.fz X O (Lu B) U]/\
  El p n out/\dq p n W (at_ out) (at_ (bi B a b n i))) n ?_ ?_
 .exact⟨0,af,af,v0,_,rfl,rfl,ZB o.pr,dq.refl _⟩
 .rintro m vs h' ⟨i,hi,rfl,v,out,rfl,rfl,h,A⟩
  refine Lk ?_;refine de (λZ=>?_) λY=>?_
  .have eh:i<Lu B:=af
   obtain⟨w4,a4,rs,hr,dz⟩:=hB.rowL eh;have aN:=q.row i eh;have pR:=zAY q (a:=a) (b:=b) hi;simp only[Z3,seval,-ae,gX (n:=n) (i:=i) af af];refine zF (λm vs h'=>∃k:Nat,k<=n-1-i/\m=n-1-i-k/\∃v out,vs=[.fz w av (Lu a) (cS a),.fz L C (Lu b) (cS b),.ptr σ.aM 0,.fz DF v n (cS out),.int .i64 i,.int .i64 ((i+(1+k):Nat):Int)]/\h'=σ.bf [.int .i64 p,.fz w1 N (Lu W) V,.fz X O (Lu B) U]/\
    El p n out/\dq p n W (at_ out) (at_ (bk (B.getD i []) a b i k (bi B a b n i)))) (n-1-i) ?_ ?_
   .exact⟨0,af,af,v,out,rfl,rfl,h,A⟩
   .rintro m vs h' ⟨k,bF,rfl,v,out,rfl,rfl,h,A⟩
    refine Lk ?_;refine de (λH=>?_) λY=>?_
    .have CG:k<B[i].length:=af
     obtain⟨w5,a5,cE⟩:=dz.rowI CG;have D:i+(1+k)<Lu b:=af
     have J:i<Lu a:=af
     have I:i<Lu b:=af
     obtain⟨f1,f2,_,f3,_,Q⟩:=zHL o.pr E G (i:=i) (j:=i+(1+k)) af af J H I D;have u:=(q.ent i eh k CG).1;have iD:=zMU o.pr E G i (i+(1+k));have e1:Lp .i64 (((i+(1+k):Nat):Int)-(i:Int))=((1+k:Nat):Int):=WQ
     have e2:Lp .i64 (((1+k:Nat):Int)-1)=(k:Int):=WQ
     simp only[Z3,seval,-ae,eh,hr,CG,cE,H,D,J,I,gi H,gi D,gi J,gi I,zN,f1.w,f2.w,f3.w,e1,e2];refine qF P o h u h.1.symm rfl LB (by rw[Q];omega) λv'=>?_;have e3:Lp .i64 (((i+(1+k):Nat):Int)+1)=((i+(1+(k+1)):Nat):Int):=WQ
     simp only[Z3,seval,-ae,e3];refine⟨_,af,k+1,af,rfl,v',_,rfl,zHm o (by rw[zT (h.1.trans u.1.symm),h.1]),?_⟩;refine(qU o (by rw[zT (h.1.trans u.1.symm),h.1])).trans ?_;have fL:=zAX q (a:=a) (b:=b) (af:i<n) pR (k:=k) af;have S:(B.getD i []).getD k []=B[i][k]:=by rw[zM (B:=B) eh,zM (B:=B[i]) CG]
     have h1:=A.add (dq.refl (p:=p) (n:=n) (W:=W) (λj=>Bc a b i (i+(1+k))*at_ B[i][k] j));refine(dq.of_eq λj=>?_).trans (h1.trans (dq.of_eq λj=>?_))
     .rw[qC (h.1.trans u.1.symm),Q];omega
     .rw[bk,zBx (by rw[fL,S,u.1]),S,UP]
    .have bM:k=n-1-i:=af
     subst bM;simp only[Z3,seval,-ae,WX Z];exact⟨_,af,i+1,af,rfl,v,out,rfl,h,A⟩
  .have aU:i=n:=af
   subst aU
   have:out=norm p W (xk B a b i):=qX o h.1 (ZO o (qc q)) h.2 (QN o (qc q)) (A.trans (qU o (qc q)).symm)
   rw[this];exact Gh.fin0 (zC σ _) trivial (hk v)
end
section
variable{s:Nat}
structure SzR(W:V2)(B:V3):Prop where
 Wl:(Lu W)<=1048576
 w:∀r∈W,(Lu r)<=1048576
 Bl:(Lu B)<=1048576
 b:∀q∈B,(Lu q)<=1048576
 c:∀q∈B,∀r∈q,(Lu r)<=1048576
def BS(p:Int)(n k:Nat)(v:V1):Prop:=rM v p n/\mw (v.take k)
def rowOK(p:Int)(n:Nat)(W:V2)(B:V3)(i:Nat):Prop:=
 BS p n (i+1) (W.getD i [])/\(B.getD i []).length=n-1-i/\∀k,k<n-1-i->BS p n (i+k+2) ((B.getD i []).getD k [])
def Zf(p:Int)(W:V2)(B:V3):Prop:=
 jF p/\Lu W<=6/\Lu B=(Lu W)/\fG p (Lu W)<=729/\∀i,i<Lu W->rowOK p (Lu W) W B i
def BS.el{k:Nat}{v:V1}(h:BS p n k v):El p n v/\∀j,j<k->at_ v j=0:=by
 refine⟨⟨by have:=h.1.1;omega,h.1.2⟩,λj l=>?_⟩;rcases YG j (Lu v) with x|x
 .rw[dp x];exact h.2 _ (by rw[UB];exact⟨j,af,rfl⟩)
 .exact nX x
def Zf.w(h:Zf p W B):eT p (Lu W) W:=by
 obtain⟨u,A,D,E,C⟩:=h;refine⟨u.bd,A,rfl,λi l=>?_⟩;obtain⟨a,b⟩:=(C i l).1.el;rw[qJ l]at a b;exact⟨a.1,a.2,λj G=>b j af⟩
def Zf.b(h:Zf p W B):lS p (Lu W) B:=by
 obtain⟨E,G,D,H,u⟩:=h;have C:∀i (h:i<Lu B),B[i].length=Lu W-1-i:=λi l=>by have:=(u i af).2.1;rwa[zM l]at this
 refine⟨D,C,λi l k A=>?_⟩;obtain⟨a,b⟩:=((u i af).2.2 k (by rw[<-C i l];exact A)).el;rw[zM l,zM A]at a b;exact⟨a,λj I=>b j af⟩
def zAl{l:Nat}{w:Bool}{a:AV}{xs:V1}(hs:jE σ s p vP vB)(h:jj vP W)(A:l=Lu xs)(G:(Lu xs)<=1048576)(C:jF p)(u:K (.bool (decide (rM xs p (Lu W)))) σ):
  zA Tryz.prog 106 [.ptr s 0,.fz w a l (cS xs)] σ K:=by
 have E:=C.bd;obtain⟨w1,D,H,rfl,h⟩:=h;refine Lg Tryz.func106 ?_;simp only[Z3,seval,-ae,zH hs.bt];refine zLe A af af af ?_;refine Lk ?_;exact u
def zIu(S:lx vP vB W B)(sz:SzR W B)(hk:∀t:Bool,(t=DF↔Zf p W B)->K (.bool t) σ):zA Tryz.prog 119 [.agg [.int .i64 p,vP,vB]] σ K:=by
 have T:=S.P;have RK:=S.B;obtain⟨⟨w1,C,E,rfl,hP⟩,⟨O,H,N,rfl,hB⟩⟩:=S;refine zA.gh ?_;have fin:∀{t:Bool} {σ':cg},(t=DF↔Zf p W B)->cT σ σ'->Gh σ K (.bool t) σ':=λh k=>Gh.fin0 k trivial (hk _ h);have no:∀{σ':cg},¬Zf p W B->cT σ σ'->Gh σ K (.bool false) σ':=λh k=>fin ⟨λx=>(by cases x),λx=>absurd x h⟩ k;have u:=zC σ [.int .i64 p,.fz w1 C (Lu W) E,.fz O H (Lu B) N];have Y:jE (σ.bf [.int .i64 p,.fz w1 C (Lu W) E,.fz O H (Lu B) N]) σ.aM p (.fz w1 C (Lu W) E) (.fz O H (Lu B) N):=⟨by simp only[Z3,seval,-ae],by simp only[Z3,seval,-ae]⟩
 refine Lg Tryz.func119 ?_;by_cases R:(Lu W)<=6
 .have fM:¬(6:Int)<(Lu W:Int):=af
  by_cases oM:(Lu B)=Lu W
  .have j8:(Lu B:Int)=(Lu W:Int):=af
   simp only[Z3,seval,-ae,fM,j8];refine zCm ?_;by_cases D:jF p
   .simp only[Z3,seval,-ae,D];refine zCf D.bd R ?_;by_cases ho:fG p (Lu W)<=729
    .have dc:¬(729:Int)<fG p (Lu W):=af
     simp only[Z3,seval,-ae,dc];refine zF (λm vs h'=>∃i:Nat,i<=Lu W/\m=Lu W-i/\vs=[.ptr σ.aM 0,.int .i64 (Lu W),.fz w1 C (Lu W) E,.int .i64 (Lu W),.int .i64 i]/\h'=σ.bf [.int .i64 p,.fz w1 C (Lu W) E,.fz O H (Lu B) N]/\∀j,j<i->rowOK p (Lu W) W B j) (Lu W) ?_ ?_
     .exact⟨0,af,af,rfl,rfl,λj Q=>af⟩
     .rintro m vs h' ⟨i,hi,rfl,rfl,rfl,U⟩
      refine Lk ?_;refine de (λl=>?_) λaG=>?_
      .obtain⟨w4,a4,hr⟩:=hP.rowI l;have A:i<Lu B:=af
       obtain⟨w5,a5,rs,X,dz⟩:=hB.rowL A;have wU:=sz.w _ (YZ l);have jH:=sz.b _ (YZ A);have bad:(rM W[i] p (Lu W)->mw (W[i].take (i+1))->B[i].length=Lu W-1-i->(∀k (h:k<B[i].length),BS p (Lu W) (i+k+2) B[i][k])->False)->¬Zf p W B:=λhb dO=>by
        obtain⟨⟨q1,q2⟩,q3,q4⟩:=dO.2.2.2.2 i l;rw[qJ l]at q1 q2;rw[zM A]at q3;refine hb q1 q2 q3 λk h=>?_
        have:=q4 k af
        rwa[zM A,zM h]at this
       simp only[Z3,seval,-ae,l,hr];refine zAl Y T rfl wU D ?_;by_cases J:rM W[i] p (Lu W)
       .have hle:((i:Int)+1<=(W[i].length:Int)):=by have:=J.1;omega
        have xf:(0:Int)<=((i+1:Nat):Int):=af
        have iP:((i+1:Nat):Int)<=(W[i].length:Int):=af
        simp only[Z3,seval,-ae,J,WX l,iP,zB8,Ed];refine QJ (by simp;omega) (by simp;omega) ?_;by_cases L:mw (W[i].take (i+1))
        .have e1:Lp .i64 ((Lu W:Int)-1)=(Lu W:Int)-1:=WE;have Z:Lp .i64 ((Lu W:Int)-1-(i:Int))=(Lu W:Int)-1-(i:Int):=WE;by_cases hlen:B[i].length=Lu W-1-i
         .have cn:(B[i].length:Int)=(Lu W:Int)-1-(i:Int):=af
          simp only[Z3,seval,-ae,L,l,A,X,e1,Z,eq_true cn];refine zF (λm vs h'=>∃k:Nat,k<=B[i].length/\m=B[i].length-k/\vs=[.ptr σ.aM 0,.int .i64 (Lu W),.int .i64 i,.fz w1 C (Lu W) E,.int .i64 (Lu W),.int .i64 i,.fz w5 a5 B[i].length rs,.int .i64 B[i].length,.int .i64 k]/\
           h'=σ.bf [.int .i64 p,.fz w1 C (Lu W) E,.fz O H (Lu B) N]/\∀j (h:j<B[i].length),j<k->BS p (Lu W) (i+j+2) B[i][j]) B[i].length ?_ ?_
          .exact⟨0,af,af,rfl,rfl,λj h Q=>af⟩
          .rintro m vs h' ⟨k,bF,rfl,rfl,rfl,V⟩
           refine Lk ?_;refine de (λG=>?_) λaG=>?_
           .obtain⟨w6,a6,cE⟩:=dz.rowI G;have bJ:=sz.c _ (YZ A) _ (YZ G);simp only[Z3,seval,-ae,G,cE];refine zAl Y T rfl bJ D ?_;by_cases I:rM B[i][k] p (Lu W)
            .have e3:Lp .i64 ((i:Int)+(k:Int))=((i+k:Nat):Int):=wrapA af;have e4:Lp .i64 (((i+k:Nat):Int)+2)=((i+k+2:Nat):Int):=WE;have uI:((i+(k+2):Nat):Int)<=(B[i][k].length:Int):=by have:=I.1;omega
             simp only[Z3,seval,-ae,I,e3,e4,uI,zB8,Ed];refine QJ (by simp;omega) (by simp;omega) ?_;by_cases P:mw (B[i][k].take (i+(k+2)))
             .simp only[Z3,seval,-ae,P,WX G];refine⟨_,af,k+1,af,rfl,rfl,λj h Q=>?_⟩;by_cases e:j=k
              .subst e;exact⟨I,P⟩
              .exact V j h af
             .simp only[Z3,seval,-ae,P];exact no (bad λ_ _ _ q=>P (q k G).2) u
            .simp only[Z3,seval,-ae,I];exact no (bad λ_ _ _ q=>I (q k G).1) u
           .simp only[Z3,seval,-ae,WX l];refine⟨_,af,i+1,af,rfl,rfl,λj Q=>?_⟩;by_cases e:j=i
            .subst e;refine⟨by rw[qJ l];exact⟨J,L⟩,by rw[zM A];exact hlen,λt ht=>?_⟩;rw[zM A,zM (af:t<B[j].length)];exact V t af af
            .exact U j af
         .have cn:¬(B[i].length:Int)=(Lu W:Int)-1-(i:Int):=af
          simp only[Z3,seval,-ae,L,l,A,X,e1,Z,cn];exact no (bad λ_ _ q _=>hlen q) u
        .simp only[Z3,seval,-ae,L];exact no (bad λ_ q _ _=>L q) u
       .simp only[Z3,seval,-ae,J];exact no (bad λq _ _ _=>J q) u
      .exact fin ⟨λ_=>⟨D,R,oM,ho,λj Q=>U j af⟩,λ_=>rfl⟩ u
    .have dc:(729:Int)<fG p (Lu W):=af
     simp only[Z3,seval,-ae,dc];exact no (λh=>ho h.2.2.2.1) u
   .simp only[Z3,seval,-ae,D];exact no (λh=>D h.1) u
  .have j8:¬(Lu B:Int)=(Lu W:Int):=af
   simp only[Z3,seval,-ae,fM,j8];exact no (λh=>oM h.2.2.1) u
 .have fM:(6:Int)<(Lu W:Int):=af
  simp only[Z3,seval,-ae,fM];exact no (λh=>R h.2.1) u
end
def zLS(hR:lx vP vB W B)(sz:SzR W B)(hk:∀t:Bool,(t=DF↔Zf p W B)->K (.bool t) σ):zA Tryz.prog 143 [.agg [.int .i64 p,vP,vB]] σ K:=by
 obtain⟨⟨w1,O,X,rfl,hP⟩,⟨Y,P,V,rfl,hB⟩⟩:=hR;refine zA.gh ?_;have fin:∀{t:Bool} {σ':cg},(t=DF↔Zf p W B)->cT σ σ'->Gh σ K (.bool t) σ':=λh k=>Gh.fin0 k trivial (hk _ h);have no:∀{σ':cg},¬Zf p W B->cT σ σ'->Gh σ K (.bool false) σ':=λh k=>fin ⟨λx=>(by cases x),λx=>absurd x h⟩ k;have u:=zC σ [.int .i64 p,.fz w1 O (Lu W) X,.fz Y P (Lu B) V];refine qH mix Tryz.func143 ?_;refine Lk ?_;refine zBH ?_;by_cases C:jF p;rotate_left
 .simp only[Z3,seval,-ae,C];exact no (λh=>C h.1) u
 by_cases T:(Lu W)<=6;rotate_left
 .have L:(6:Int)<(Lu W:Int):=af
  simp only[Z3,seval,-ae,C,L];exact no (λh=>T h.2.1) u
 have L:¬(6:Int)<(Lu W:Int):=af
 by_cases oM:(Lu B)=Lu W;rotate_left
 .have U:¬(Lu B:Int)=(Lu W:Int):=af
  simp only[Z3,seval,-ae,C,L,U];exact no (λh=>oM h.2.2.1) u
 have U:(Lu B:Int)=(Lu W:Int):=af
 have gA:=C.bd;simp only[Z3,seval,-ae,C,L,eq_true U];refine zGv C.bd T λo k1 k2 k3 k4=>?_;by_cases N:fG p (Lu W)<=729;rotate_left
 .have S:(729:Int)<o:=by rcases Us 729 o with x|x;exact x;exact absurd (k1.1 x) N
  simp only[Z3,seval,-ae,S];exact no (λh=>N h.2.2.2.1) u
 have S:¬(729:Int)<o:=by have:=k1.2 N;omega
 simp only[Z3,seval,-ae,S];refine zF (λm vs h'=>∃i:Nat,i<=Lu W/\m=Lu W-i/\vs=[.ptr σ.aM 0,.int .i64 (Lu W),.int .i64 i]/\h'=σ.bf [.int .i64 p,.fz w1 O (Lu W) X,.fz Y P (Lu B) V]/\∀j,j<i->rowOK p (Lu W) W B j) (Lu W) ?_ ?_
 .exact⟨0,af,af,rfl,rfl,λj G=>af⟩
 .rintro m vs h' ⟨i,hi,rfl,rfl,rfl,Z⟩
  refine Lk ?_;refine Ll (λaG=>?_) λl=>?_
  .exact fin ⟨λ_=>⟨C,T,oM,N,λj G=>Z j af⟩,λ_=>rfl⟩ u
  obtain⟨w4,a4,hr⟩:=hP.rowI l;have A:i<Lu B:=af
  obtain⟨w5,a5,rs,Q,dz⟩:=hB.rowL A;have wU:=sz.w _ (YZ l);have jH:=sz.b _ (YZ A);have bad:(rM W[i] p (Lu W)->mw (W[i].take (i+1))->B[i].length=Lu W-1-i->(∀k (h:k<B[i].length),BS p (Lu W) (i+k+2) B[i][k])->False)->¬Zf p W B:=λhb dO=>by
   obtain⟨⟨q1,q2⟩,q3,q4⟩:=dO.2.2.2.2 i l;rw[qJ l]at q1 q2;rw[zM A]at q3;refine hb q1 q2 q3 λk h=>?_
   have:=q4 k af
   rwa[zM A,zM h]at this
  simp only[Z3,seval,-ae,l,hr];refine zF0 rfl af af af ?_;by_cases H:rM W[i] p (Lu W);rotate_left
  .simp only[Z3,seval,-ae,H];exact no (bad λq _ _ _=>H q) u
  have iq:W[i].length=Lu W:=by have:=H.1;omega
  simp only[Z3,seval,-ae,H,l,hr];refine zFc rfl af af ?_;by_cases I:mw (W[i].take (i+1));rotate_left
  .simp only[Z3,seval,-ae,I];exact no (bad λ_ q _ _=>I q) u
  have e1:Lp .i64 ((Lu W:Int)-1)=(Lu W:Int)-1:=WE;have e2:Lp .i64 ((Lu W:Int)-1-(i:Int))=(Lu W:Int)-1-(i:Int):=WE;by_cases hlen:B[i].length=Lu W-1-i;rotate_left
  .have R:¬(B[i].length:Int)=(Lu W:Int)-1-(i:Int):=af
   simp only[Z3,seval,-ae,I,l,A,Q,e1,e2,R];exact no (bad λ_ _ q _=>hlen q) u
  have R:(B[i].length:Int)=(Lu W:Int)-1-(i:Int):=af
  simp only[Z3,seval,-ae,I,l,A,Q,e1,e2,eq_true R,WX l];refine zF (λm vs h'=>∃k:Nat,k<=B[i].length/\m=B[i].length-k/\vs=[.ptr σ.aM 0,.int .i64 (Lu W),.int .i64 i,.int .i64 ((i+(1+k):Nat):Int)]/\
   h'=σ.bf [.int .i64 p,.fz w1 O (Lu W) X,.fz Y P (Lu B) V]/\∀j (h:j<B[i].length),j<k->BS p (Lu W) (i+j+2) B[i][j]) B[i].length ?_ ?_
  .exact⟨0,af,af,rfl,rfl,λj h G=>af⟩
  .rintro m vs h' ⟨k,bF,rfl,rfl,rfl,bc⟩
   refine Lk ?_;refine Ll (λaG=>?_) λG=>?_
   .simp only[Z3,seval,-ae,WX l];refine⟨_,af,i+1,af,rfl,rfl,λj G=>?_⟩;by_cases e:j=i
    .subst e;refine⟨by rw[qJ l];exact⟨H,I⟩,by rw[zM A];exact hlen,λt ht=>?_⟩;rw[zM A,zM (af:t<B[j].length)];exact bc t af af
    .exact Z j af
   have D:k<B[i].length:=af
   obtain⟨w6,a6,cE⟩:=dz.rowI D;have bJ:=sz.c _ (YZ A) _ (YZ D);have e3:Lp .i64 (((i+(1+k):Nat):Int)-(i:Int))=((1+k:Nat):Int):=WQ
   have e4:Lp .i64 (((1+k:Nat):Int)-1)=(k:Int):=WQ
   simp only[Z3,seval,-ae,A,Q,e3,e4,D,cE];refine zF0 rfl af af af ?_;by_cases E:rM B[i][k] p (Lu W);rotate_left
   .simp only[Z3,seval,-ae,E];exact no (bad λ_ _ _ q=>E (q k D).1) u
   have Lo:B[i][k].length=Lu W:=by have:=E.1;omega
   simp only[Z3,seval,-ae,E];refine zFc rfl af af ?_;have ek:i+(1+k)+1=i+(k+2):=af
   rw[ek];by_cases J:mw (B[i][k].take (i+(k+2)));rotate_left
   .simp only[Z3,seval,-ae,J];exact no (bad λ_ _ _ q=>J (q k D).2) u
   have e5:Lp .i64 (((i+(1+k):Nat):Int)+1)=((i+(1+(k+1)):Nat):Int):=WQ
   simp only[Z3,seval,-ae,J,e5];refine⟨_,af,k+1,af,rfl,rfl,λj h G=>?_⟩;by_cases e:j=k
   .subst e;exact⟨E,J⟩
   .exact bc j h af
section
variable{s:Nat}
abbrev br(p:Int)(W:V2)(B:V3)(n:Nat)(a b:V1):V1:=norm p W (xk B a b n)
abbrev j3(p:Int)(W:V2)(a b:V1):V1:=norm p W (eX 1 a 1 b)
abbrev ed(p:Int)(W:V2)(k:Int)(a:V1):V1:=norm p W (eX k a 0 a)
def ey(o:eT p n W)(q:lS p n B){a b:V1}:El p n (br p W B n a b):=zHm o (qc q)
def zK(o:eT p n W){k m:Int}{a b:V1}(h:El p n a)(l:El p n b):El p n (norm p W (eX k a m b)):=zHm o (by rw[zT (h.1.trans l.1.symm)];exact h.1)
def zQ(l:te p){k:Nat}(A:k<n):El p n (cD n k):=⟨zU n k,λx u=>by
 have:=l.1
 rcases Hs u with h|h
 .rw[Yi h];omega
 .omega⟩
def F1(p:Int)(W:V2)(B:V3)(n i j:Nat):Prop:=ed p W p (br p W B n (cD n i) (cD n j))=br p W B n (W.getD i []) (cD n j)
def F2(p:Int)(W:V2)(B:V3)(n i j k:Nat):Prop:=
 mw (j3 p W (j3 p W (br p W B n (br p W B n (cD n i) (cD n j)) (cD n k)) (br p W B n (br p W B n (cD n j) (cD n k)) (cD n i))) (br p W B n (br p W B n (cD n k) (cD n i)) (cD n j)))
def ZF(p:Int)(W:V2)(B:V3)(n:Nat):Prop:=(∀i j,i<n->j<n->F1 p W B n i j)/\∀i j k,i<j->j<k->k<n->F2 p W B n i j k
def zm{k:Nat}(u:n<=1048576)(h:k<n)(l:∀a,K (.fz DF a n (cS (cD n k))) σ):zA Tryz.prog 49 [.int .i64 n,.int .i64 k] σ K:=
 zA.fz (λK'=>zIZ u h) (zL _ _) λo cap=>l _
def qm{l h:Nat}{w I:Bool}{av A:AV}{a b:V1}(hs:jE σ s p vP vB)(C:lx vP vB W B)(o:eT p n W)(q:lS p n B)(D:El p n a)(E:El p n b)(H:l=Lu a)(u:h=Lu b)
  (G:∀v,K (.fz DF v n (cS (br p W B n a b))) σ):zA Tryz.prog 58 [.ptr s 0,.fz w av l (cS a),.fz I A h (cS b)] σ K:=
 zA.fzN (ey o q).1 (λK'=>zNp hs C o q D E H u) G
def zAZ{l A:Nat}{w I:Bool}{av D:AV}{a b:V1}(hs:jE σ s p vP vB)(E:jj vP W)(o:eT p n W)(h:El p n a)(u:El p n b)(H:l=Lu a)(C:A=Lu b)
  (G:∀v,K (.fz DF v n (cS (j3 p W a b))) σ):zA Tryz.prog 57 [.ptr s 0,.fz w av l (cS a),.fz I D A (cS b)] σ K:=
 zA.fzN (zK o h u).1 (λK'=>zEo hs E o h u H C) G
def Qj{l:Nat}{w:Bool}{av:AV}{k:Int}{a:V1}(hs:jE σ s p vP vB)(u:jj vP W)(o:eT p n W)(h:El p n a)(C:l=Lu a)(D:-1000000000<=k/\k<=1000000000)
  (A:∀v,K (.fz DF v n (cS (ed p W k a))) σ):zA Tryz.prog 100 [.ptr s 0,.int .i64 k,.fz w av l (cS a)] σ K:=
 zA.fzN (zK o h h).1 (λK'=>zCo hs u o h C D) A
def zOD(o:eT p n W){i:Nat}(h:i<Lu W):El p n W[i]:=⟨(o.row i h).1,(o.row i h).2.1⟩
def zLJ(hs:jE σ s p vP vB)(Z:lx vP vB W B)(o:eT p n W)(q:lS p n B)(hk:∀kind i j k:Int,(kind=0↔ZF p W B n)->K (.tup [.int .i64 kind,.int .i64 i,.int .i64 j,.int .i64 k]) σ):zA Tryz.prog 120 [.ptr s 0] σ K:=by
 have aX:=o.le;have dS:=o.len;have R:=o.pr;have I:=Z;have sM:=Z.P;obtain⟨⟨w1,a1,rP,rfl,hP⟩,⟨w3,a3,rB,rfl,hB⟩⟩:=Z;have xd:-1000000000<=p/\p<=1000000000:=by unfold te at R;omega
 subst dS;refine qH mix Tryz.func120 ?_;simp only[Z3,seval,-ae,zH hs.bt];refine zF (λm vs h'=>∃i:Nat,i<=Lu W/\m=Lu W-i/\vs=[.ptr s 0,.int .i64 (Lu W),.int .i64 (Lu W),.int .i64 i]/\σ=h'/\∀u l,u<i->l<Lu W->F1 p W B (Lu W) u l) (Lu W) ?_ ?_
 .exact⟨0,af,af,rfl,rfl,λu l h=>af⟩
 rintro m vs h' ⟨i,hi,rfl,rfl,rfl,U⟩
 refine Lk ?_;refine de (λA=>?_) λS=>?_
 .refine zF (λm vs h'=>∃j:Nat,j<=Lu W/\m=Lu W-j/\vs=[.ptr s 0,.int .i64 (Lu W),.int .i64 i,.int .i64 (Lu W),.int .i64 i,.int .i64 (Lu W),.int .i64 j]/\σ=h'/\∀l,l<j->F1 p W B (Lu W) i l) (Lu W) ?_ ?_
  .exact⟨0,af,af,rfl,rfl,λl h=>af⟩
  rintro m vs h' ⟨j,hj,rfl,rfl,rfl,bc⟩
  refine Lk ?_;refine de (λE=>?_) λS=>?_
  .have J:=zQ R A;have G:=zQ R E;have P:=ey o q (a:=cD (Lu W) i) (b:=cD (Lu W) j);obtain⟨w4,a4,hr⟩:=hP.rowI A;have er:=zOD o A;refine zm af A λv1=>?_;refine Lk ?_;refine zm af E λv2=>?_;simp only[Z3,seval,-ae,zH hs.bt,A,hr];refine qm hs I o q J G (zU _ _).symm (zU _ _).symm λv3=>?_;simp only[Z3,seval,-ae,zH hs.bt,A,hr];refine Qj hs sM o P P.1.symm xd λv4=>?_;simp only[Z3,seval,-ae,zH hs.bt,A,hr];refine qm hs I o q er G rfl (zU _ _).symm λv5=>?_;refine Lk ?_;refine zBC (zK o P P).1.symm (ey o q).1.symm (by rw[(zK o P P).1];omega) ?_;have T:(ed p W p (br p W B (Lu W) (cD (Lu W) i) (cD (Lu W) j))=br p W B (Lu W) W[i] (cD (Lu W) j))↔F1 p W B (Lu W) i j:=by unfold F1;rw[qJ A]
   by_cases H:ed p W p (br p W B (Lu W) (cD (Lu W) i) (cD (Lu W) j))=br p W B (Lu W) W[i] (cD (Lu W) j)
   .simp only[Z3,seval,-ae,eq_true H,WX E];refine⟨_,af,j+1,af,rfl,rfl,λl h=>?_⟩;by_cases e:l=j
    .subst e;exact T.1 H
    .exact bc l af
   .simp only[Z3,seval,-ae,H];exact hk _ _ _ _ ⟨λx=>af,λx=>absurd (T.2 (x.1 i j A E)) H⟩
  .simp only[Z3,seval,-ae,WX A];refine⟨_,af,i+1,af,rfl,rfl,λu l h h'=>?_⟩;by_cases e:u=i
   .subst e;exact bc l af
   .exact U u l af h'
 have U:∀i j,i<Lu W->j<Lu W->F1 p W B (Lu W) i j:=λu l h h'=>U u l af h';clear S hi;refine zF (λm vs h'=>∃i:Nat,i<=Lu W/\m=Lu W-i/\vs=[.ptr s 0,.int .i64 (Lu W),.int .i64 (Lu W),.int .i64 i]/\σ=h'/\∀u j k,u<i->u<j->j<k->k<Lu W->F2 p W B (Lu W) u j k) (Lu W) ?_ ?_
 .exact⟨0,af,af,rfl,rfl,λu j k h=>af⟩
 rintro m vs h' ⟨i,hi,rfl,rfl,rfl,nT⟩
 refine Lk ?_;refine Ll (λS=>?_) λA=>?_
 .exact hk _ _ _ _ ⟨λ_=>⟨U,λi j k L N O=>nT i j k af L N O⟩,λ_=>rfl⟩
 simp only[Z3,seval,-ae,WX A];refine zF (λm vs h'=>∃j:Nat,i+1<=j/\j<=Lu W/\m=Lu W-j/\vs=[.ptr s 0,.int .i64 (Lu W),.int .i64 i,.int .i64 j,.int .i64 (Lu W),.int .i64 i]/\σ=h'/\∀l k,i<l->l<j->l<k->k<Lu W->F2 p W B (Lu W) i l k) (Lu W-(i+1)) ?_ ?_
 .exact⟨i+1,af,af,af,rfl,rfl,λl k L N=>af⟩
 rintro m vs h' ⟨j,fR,hj,rfl,rfl,rfl,nR⟩
 refine Lk ?_;refine Ll (λS=>?_) λE=>?_
 .simp only[Z3,seval,-ae,WX A];refine⟨_,af,i+1,af,rfl,rfl,λu l k L N O X=>?_⟩;by_cases e:u=i
  .subst e;exact nR l k N af O X
  .exact nT u l k af N O X
 simp only[Z3,seval,-ae,WX E];refine zF (λm vs h'=>∃k:Nat,j+1<=k/\k<=Lu W/\m=Lu W-k/\vs=[.ptr s 0,.int .i64 (Lu W),.int .i64 i,.int .i64 j,.int .i64 k,.int .i64 (Lu W),.int .i64 i]/\σ=h'/\∀D,j<D->D<k->F2 p W B (Lu W) i j D) (Lu W-(j+1)) ?_ ?_
 .exact⟨j+1,af,af,af,rfl,rfl,λD L N=>af⟩
 rintro m vs h' ⟨k,nq,bF,rfl,rfl,rfl,nQ⟩
 refine Lk ?_;refine Ll (λS=>?_) λV=>?_
 .simp only[Z3,seval,-ae,WX E];refine⟨_,af,j+1,af,af,rfl,rfl,λl D L N O X=>?_⟩;by_cases e:l=j
  .subst e;exact nQ D O af
  .exact nR l D L af O X
 have J:=zQ R A;have G:=zQ R E;have Q:=zQ R V;have C:∀a b,El p (Lu W) (br p W B (Lu W) a b):=λa b=>ey o q;refine zm af A λv1=>?_;refine Lk ?_;refine zm af E λv2=>?_;refine Lk ?_;refine zm af V λv3=>?_;refine Lk ?_;refine qm hs I o q J G J.1.symm G.1.symm λv4=>?_;refine Lk ?_;refine qm hs I o q (C _ _) Q (C _ _).1.symm Q.1.symm λv5=>?_;refine Lk ?_;refine qm hs I o q G Q G.1.symm Q.1.symm λv6=>?_;refine Lk ?_;refine qm hs I o q (C _ _) J (C _ _).1.symm J.1.symm λv7=>?_;refine Lk ?_;refine zAZ hs sM o (C _ _) (C _ _) (C _ _).1.symm (C _ _).1.symm λv8=>?_;have Y:=zK o (k:=1) (m:=1) (C (br p W B (Lu W) (cD (Lu W) i) (cD (Lu W) j)) (cD (Lu W) k)) (C (br p W B (Lu W) (cD (Lu W) j) (cD (Lu W) k)) (cD (Lu W) i));refine Lk ?_;refine qm hs I o q Q J Q.1.symm J.1.symm λv9=>?_;refine Lk ?_;refine qm hs I o q (C _ _) G (C _ _).1.symm G.1.symm λv10=>?_;refine Lk ?_;refine zAZ hs sM o Y (C _ _) Y.1.symm (C _ _).1.symm λv11=>?_;have BN:=zK o (k:=1) (m:=1) Y (C (br p W B (Lu W) (cD (Lu W) k) (cD (Lu W) i)) (cD (Lu W) j));refine Lk ?_;refine QJ BN.1.symm (by rw[BN.1];omega) ?_;have T:mw (norm p W (eX 1 (j3 p W (br p W B (Lu W) (br p W B (Lu W) (cD (Lu W) i) (cD (Lu W) j)) (cD (Lu W) k)) (br p W B (Lu W) (br p W B (Lu W) (cD (Lu W) j) (cD (Lu W) k)) (cD (Lu W) i))) 1 (br p W B (Lu W) (br p W B (Lu W) (cD (Lu W) k) (cD (Lu W) i)) (cD (Lu W) j))))↔F2 p W B (Lu W) i j k:=Iff.rfl;by_cases H:mw (norm p W (eX 1 (j3 p W (br p W B (Lu W) (br p W B (Lu W) (cD (Lu W) i) (cD (Lu W) j)) (cD (Lu W) k)) (br p W B (Lu W) (br p W B (Lu W) (cD (Lu W) j) (cD (Lu W) k)) (cD (Lu W) i))) 1 (br p W B (Lu W) (br p W B (Lu W) (cD (Lu W) k) (cD (Lu W) i)) (cD (Lu W) j))))
 .simp only[Z3,seval,-ae,eq_true H,WX V];refine⟨_,af,k+1,af,af,rfl,rfl,λD L N=>?_⟩;by_cases e:D=k
  .subst e;exact T.1 H
  .exact nQ D L af
 .simp only[Z3,seval,-ae,H];exact hk _ _ _ _ ⟨λx=>af,λx=>absurd (T.2 (x.2 i j k af af V)) H⟩
end
def zLU(hR:lx vP vB W B)(o:eT p n W)(q:lS p n B)(hk:∀kind i j k:Int,(kind=0↔ZF p W B n)->K (.tup [.int .i64 kind,.int .i64 i,.int .i64 j,.int .i64 k]) σ):zA Tryz.prog 144 [.agg [.int .i64 p,vP,vB]] σ K:=by
 have aX:=o.le;have dS:=o.len;have S:=o.pr;have u:=hR;have sM:=hR.P;obtain⟨⟨w1,O,U,rfl,hP⟩,⟨V,P,T,rfl,hB⟩⟩:=hR;have xd:-1000000000<=p/\p<=1000000000:=by unfold te at S;omega
 subst dS;refine zA.gh ?_;have ar:=zC σ [.int .i64 p,.fz w1 O (Lu W) U,.fz V P (Lu B) T];have fin:∀kind i j k:Int,(kind=0↔ZF p W B (Lu W))->Gh σ K (.tup [.int .i64 kind,.int .i64 i,.int .i64 j,.int .i64 k]) (σ.bf [.int .i64 p,.fz w1 O (Lu W) U,.fz V P (Lu B) T]):=λkind i j k h=>Gh.fin0 ar ⟨DJ,DJ,DJ,DJ,DJ⟩ (hk kind i j k h);refine qH mix Tryz.func144 ?_;refine Lk ?_;refine zF (λm vs h'=>∃i:Nat,i<=Lu W/\m=Lu W-i/\vs=[.ptr σ.aM 0,.int .i64 (Lu W),.int .i64 i]/\σ.bf [.int .i64 p,.fz w1 O (Lu W) U,.fz V P (Lu B) T]=h'/\∀C l,C<i->l<Lu W->F1 p W B (Lu W) C l) (Lu W) ?_ ?_
 .exact⟨0,af,af,rfl,rfl,λC l h=>af⟩
 rintro m vs h' ⟨i,hi,rfl,rfl,rfl,ai⟩
 refine Lk ?_;refine de (λA=>?_) λY=>?_
 .refine zF (λm vs h'=>∃j:Nat,j<=Lu W/\m=Lu W-j/\vs=[.ptr σ.aM 0,.int .i64 (Lu W),.int .i64 i,.int .i64 j]/\σ.bf [.int .i64 p,.fz w1 O (Lu W) U,.fz V P (Lu B) T]=h'/\∀l,l<j->F1 p W B (Lu W) i l) (Lu W) ?_ ?_
  .exact⟨0,af,af,rfl,rfl,λl h=>af⟩
  rintro m vs h' ⟨j,hj,rfl,rfl,rfl,bc⟩
  refine Lk ?_;refine de (λE=>?_) λY=>?_
  .have J:=zQ S A;have H:=zQ S E;have Q:=ey o q (a:=cD (Lu W) i) (b:=cD (Lu W) j);obtain⟨w4,a4,hr⟩:=hP.rowI A;have er:=zOD o A;refine qf u rfl af A λv1=>?_;refine Lk ?_;refine qf u rfl af E λv2=>?_;simp only[Z3,seval,-ae,A,hr];refine qB u o q J H (zU _ _).symm (zU _ _).symm λv3=>?_;simp only[Z3,seval,-ae,A,hr];refine zBi u rfl af λvz=>?_;refine Lk ?_;refine qF u o Q (ZB S) Q.1.symm aK xd LB λv4=>?_;rw[zQv (Q.1.trans aK)];simp only[Z3,seval,-ae,A,hr];refine qf u rfl af E λv6=>?_;simp only[Z3,seval,-ae,A,hr];refine qB u o q er H rfl (zU _ _).symm λv5=>?_;refine Lk ?_;refine Q9 (zK o Q Q).1.symm (ey o q).1.symm (by rw[(zK o Q Q).1];omega) ?_;have Z:(ed p W p (br p W B (Lu W) (cD (Lu W) i) (cD (Lu W) j))=br p W B (Lu W) W[i] (cD (Lu W) j))↔F1 p W B (Lu W) i j:=by unfold F1;rw[qJ A]
   by_cases I:ed p W p (br p W B (Lu W) (cD (Lu W) i) (cD (Lu W) j))=br p W B (Lu W) W[i] (cD (Lu W) j)
   .simp only[Z3,seval,-ae,eq_true I,WX E];refine⟨_,af,j+1,af,rfl,rfl,λl h=>?_⟩;by_cases e:l=j
    .subst e;exact Z.1 I
    .exact bc l af
   .simp only[Z3,seval,-ae,I];exact fin _ _ _ _ ⟨λx=>af,λx=>absurd (Z.2 (x.1 i j A E)) I⟩
  .simp only[Z3,seval,-ae,WX A];refine⟨_,af,i+1,af,rfl,rfl,λC l h h'=>?_⟩;by_cases e:C=i
   .subst e;exact bc l af
   .exact ai C l af h'
 have ai:∀i j,i<Lu W->j<Lu W->F1 p W B (Lu W) i j:=λC l h h'=>ai C l af h';clear Y hi;refine zF (λm vs h'=>∃i:Nat,i<=Lu W/\m=Lu W-i/\vs=[.ptr σ.aM 0,.int .i64 (Lu W),.int .i64 i]/\σ.bf [.int .i64 p,.fz w1 O (Lu W) U,.fz V P (Lu B) T]=h'/\∀C j k,C<i->C<j->j<k->k<Lu W->F2 p W B (Lu W) C j k) (Lu W) ?_ ?_
 .exact⟨0,af,af,rfl,rfl,λC j k h=>af⟩
 rintro m vs h' ⟨i,hi,rfl,rfl,rfl,nT⟩
 refine Lk ?_;refine Ll (λY=>?_) λA=>?_
 .exact fin _ _ _ _ ⟨λ_=>⟨ai,λi j k L N R=>nT i j k af L N R⟩,λ_=>rfl⟩
 simp only[Z3,seval,-ae,WX A];refine zF (λm vs h'=>∃j:Nat,i+1<=j/\j<=Lu W/\m=Lu W-j/\vs=[.ptr σ.aM 0,.int .i64 (Lu W),.int .i64 i,.int .i64 j]/\σ.bf [.int .i64 p,.fz w1 O (Lu W) U,.fz V P (Lu B) T]=h'/\∀l k,i<l->l<j->l<k->k<Lu W->F2 p W B (Lu W) i l k) (Lu W-(i+1)) ?_ ?_
 .exact⟨i+1,af,af,af,rfl,rfl,λl k L N=>af⟩
 rintro m vs h' ⟨j,fR,hj,rfl,rfl,rfl,nR⟩
 refine Lk ?_;refine Ll (λY=>?_) λE=>?_
 .simp only[Z3,seval,-ae,WX A];refine⟨_,af,i+1,af,rfl,rfl,λC l k L N R h4=>?_⟩;by_cases e:C=i
  .subst e;exact nR l k N af R h4
  .exact nT C l k af N R h4
 simp only[Z3,seval,-ae,WX E];refine zF (λm vs h'=>∃k:Nat,j+1<=k/\k<=Lu W/\m=Lu W-k/\vs=[.ptr σ.aM 0,.int .i64 (Lu W),.int .i64 i,.int .i64 j,.int .i64 k]/\σ.bf [.int .i64 p,.fz w1 O (Lu W) U,.fz V P (Lu B) T]=h'/\∀G,j<G->G<k->F2 p W B (Lu W) i j G) (Lu W-(j+1)) ?_ ?_
 .exact⟨j+1,af,af,af,rfl,rfl,λG L N=>af⟩
 rintro m vs h' ⟨k,nq,bF,rfl,rfl,rfl,nQ⟩
 refine Lk ?_;refine Ll (λY=>?_) λbN=>?_
 .simp only[Z3,seval,-ae,WX E];refine⟨_,af,j+1,af,af,rfl,rfl,λl G L N R h4=>?_⟩;by_cases e:l=j
  .subst e;exact nQ G R af
  .exact nR l G L af R h4
 have J:=zQ S A;have H:=zQ S E;have X:=zQ S bN;have D:∀a b,El p (Lu W) (br p W B (Lu W) a b):=λa b=>ey o q;refine qf u rfl af A λv1=>?_;refine Lk ?_;refine qf u rfl af E λv2=>?_;refine Lk ?_;refine qf u rfl af bN λv3=>?_;refine Lk ?_;refine qB u o q J H J.1.symm H.1.symm λv4=>?_;refine Lk ?_;refine qB u o q (D _ _) X (D _ _).1.symm X.1.symm λv5=>?_;refine Lk ?_;refine qB u o q H X H.1.symm X.1.symm λv6=>?_;refine Lk ?_;refine qB u o q (D _ _) J (D _ _).1.symm J.1.symm λv7=>?_;refine Lk ?_;refine qF u o (D _ _) (D _ _) (D _ _).1.symm (D _ _).1.symm LB LB λv8=>?_;have e8:=zK o (k:=1) (m:=1) (D (br p W B (Lu W) (cD (Lu W) i) (cD (Lu W) j)) (cD (Lu W) k)) (D (br p W B (Lu W) (cD (Lu W) j) (cD (Lu W) k)) (cD (Lu W) i));refine Lk ?_;refine qB u o q X J X.1.symm J.1.symm λv9=>?_;refine Lk ?_;refine qB u o q (D _ _) H (D _ _).1.symm H.1.symm λv10=>?_;refine Lk ?_;refine qF u o e8 (D _ _) e8.1.symm (D _ _).1.symm LB LB λv11=>?_;have BN:=zK o (k:=1) (m:=1) e8 (D (br p W B (Lu W) (cD (Lu W) k) (cD (Lu W) i)) (cD (Lu W) j));refine Lk ?_;refine Zb BN.1.symm (by rw[BN.1];omega) ?_;have Z:mw (norm p W (eX 1 (j3 p W (br p W B (Lu W) (br p W B (Lu W) (cD (Lu W) i) (cD (Lu W) j)) (cD (Lu W) k)) (br p W B (Lu W) (br p W B (Lu W) (cD (Lu W) j) (cD (Lu W) k)) (cD (Lu W) i))) 1 (br p W B (Lu W) (br p W B (Lu W) (cD (Lu W) k) (cD (Lu W) i)) (cD (Lu W) j))))↔F2 p W B (Lu W) i j k:=Iff.rfl;by_cases I:mw (norm p W (eX 1 (j3 p W (br p W B (Lu W) (br p W B (Lu W) (cD (Lu W) i) (cD (Lu W) j)) (cD (Lu W) k)) (br p W B (Lu W) (br p W B (Lu W) (cD (Lu W) j) (cD (Lu W) k)) (cD (Lu W) i))) 1 (br p W B (Lu W) (br p W B (Lu W) (cD (Lu W) k) (cD (Lu W) i)) (cD (Lu W) j))))
 .simp only[Z3,seval,-ae,eq_true I,WX bN];refine⟨_,af,k+1,af,af,rfl,rfl,λG L N=>?_⟩;by_cases e:G=k
  .subst e;exact Z.1 I
  .exact nQ G L af
 .simp only[Z3,seval,-ae,I];exact fin _ _ _ _ ⟨λx=>af,λx=>absurd (Z.2 (x.2 i j k af af bN)) I⟩
def wq(p:Int)(W:V2)(B:V3):Prop:=Zf p W B/\ZF p W B (Lu W)
def zCN(l:lx vP vB W B)(sz:SzR W B)(C:∀t:Bool,(t=DF↔wq p W B)->K (.bool t) σ):zA Tryz.prog 63 [.agg [.int .i64 p,vP,vB]] σ K:=by
 have E:=l.P.one;have G:=l.B.one;refine zA.gh ?_;have A:=zC σ [.int .i64 p,vP,vB];refine Lg Tryz.func63 ?_;simp only[Z3,seval,-ae,E,G];refine zIu l sz λt D=>?_;cases t with
 |false=>
  refine Lk ?_;exact Gh.fin0 A trivial (C _ ⟨λx=>(by cases x),λx=>D.2 x.1⟩)
 |true=>
  have u:=D.1 rfl;refine Lk ?_;refine zLJ ⟨by simp only[Z3,seval,-ae],by simp only[Z3,seval,-ae]⟩ l u.w u.b λkind i j k h=>?_;refine Lk ?_;exact Gh.fin0 A trivial (C _ ⟨λx=>⟨u,h.1 (by simpa using x)⟩,λx=>by simpa using h.2 x.2⟩)
def zNR(l:lx vP vB W B)(sz:SzR W B)(C:∀t:Bool,(t=DF↔wq p W B)->K (.bool t) σ):zA Tryz.prog 72 [.agg [.int .i64 p,vP,vB]] σ K:=by
 have E:=l.P.one;have G:=l.B.one;refine zA.gh ?_;have A:=zC σ [.int .i64 p,vP,vB];refine Lg Tryz.func72 ?_;simp only[Z3,seval,-ae,E,G];refine zLS l sz λt D=>?_;cases t with
 |false=>
  refine Lk ?_;exact Gh.fin0 A trivial (C _ ⟨λx=>(by cases x),λx=>D.2 x.1⟩)
 |true=>
  have u:=D.1 rfl;refine Lk ?_;refine zLU l u.w u.b λkind i j k h=>?_;refine Lk ?_;exact Gh.fin0 A trivial (C _ ⟨λx=>⟨u,h.1 (by simpa using x)⟩,λx=>by simpa using h.2 x.2⟩)
section
variable{s:Nat}
def zF4{xs:V1}:rM xs p n↔El p n xs:=⟨λh=>⟨by have:=h.1;omega,h.2⟩,λh=>⟨by have:=h.1;omega,h.2⟩⟩
def zPK{l:Nat}{w:Bool}{a:AV}{xs:V1}(h:lx vP vB W B)(E:l=Lu xs)(L:(Lu xs)<=1048576)(G:te p)(D:∀t:Bool,(t=DF↔El p (Lu W) xs)->K (.bool t) σ):
  zA Tryz.prog 145 [.agg [.int .i64 p,vP,vB],.fz w a l (cS xs)] σ K:=by
 have C:=h.B.one;unfold te at G;obtain⟨⟨w1,u,H,rfl,J⟩,I⟩:=h;refine zA.gh ?_;have A:=zC σ [.int .i64 p,.fz w1 u (Lu W) H,vB];refine Lg Tryz.func145 ?_;simp only[Z3,seval,-ae,C];refine zF0 E af af af ?_;refine Lk ?_;exact Gh.fin0 A trivial (D _ (by rw[decide_eq_true_iff];exact zF4))
def yx(p:Int)(n:Nat)(xs:V2):Prop:=∀x∈xs,El p n x
structure SzL(xs:V2):Prop where
 l:(Lu xs)<=1048576
 r:∀x∈xs,(Lu x)<=1048576
def zHu{xs:V2}(u:lx vP vB W B)(L:jj vL xs)(sz:SzL xs)(N:te p)(E:∀t:Bool,(t=DF↔yx p (Lu W) xs)->K (.bool t) σ):
  zA Tryz.prog 73 [.agg [.int .i64 p,vP,vB],vL] σ K:=by
 have I:=u.P.one;have J:=u.B.one;have U:=sz.l;obtain⟨R,al,Q,rfl,H⟩:=L;refine zA.gh ?_;have D:=zC σ [.int .i64 p,vP,vB];refine Lg Tryz.func73 ?_;simp only[Z3,seval,-ae,I,J];refine zF (λm vs h'=>∃i:Nat,i<=Lu xs/\m=Lu xs-i/\vs=[.fz R al (Lu xs) Q,.ptr σ.aM 0,.int .i64 i]/\σ.bf [.int .i64 p,vP,vB]=h'/\∀j (h:j<Lu xs),j<i->El p (Lu W) xs[j]) (Lu xs) ?_ ?_
 .exact⟨0,af,af,rfl,rfl,λj h A=>af⟩
 rintro m vs h' ⟨i,V,rfl,rfl,rfl,C⟩
 refine Lk ?_;refine de (λl=>?_) λT=>?_
 .obtain⟨X,S,O⟩:=H.rowI l;simp only[Z3,seval,-ae,l,O];refine zPK u rfl (sz.r _ (YZ l)) N λt G=>?_;cases t with
  |false=>
   refine Lk ?_;exact Gh.fin0 D trivial (E _ ⟨λx=>(by cases x),λx=>G.2 (x _ (YZ l))⟩)
  |true=>
   simp only[Z3,seval,-ae,WX l];refine⟨_,af,i+1,af,rfl,rfl,λj h A=>?_⟩;by_cases e:j=i
   .subst e;exact G.1 rfl
   .exact C j h af
 .refine Gh.fin0 D trivial (E _ ⟨λ_ x P=>?_,λ_=>rfl⟩);obtain⟨j,A,rfl⟩:=YR.1 P;exact C j A af
def zHr{xs:V2}(hs:jE σ s p vP vB)(G:lx vP vB W B)(O:SzR W B)(J:jj vL xs)(sz:SzL xs)(C:∀t:Bool,(t=DF↔wq p W B/\yx p (Lu W) xs)->K (.bool t) σ):
  zA Tryz.prog 56 [.ptr s 0,vL] σ K:=by
 have Q:=G.P;have U:=sz.l;obtain⟨R,al,P,rfl,I⟩:=J;refine Lg Tryz.func56 ?_;simp only[Z3,seval,-ae,zH hs.bt,zV hs.bt];refine zCN G O λt H=>?_;cases t with
 |false=>
  refine Lk ?_;exact C _ ⟨λx=>(by cases x),λx=>H.2 x.1⟩
 |true=>
 have D:=H.1 rfl;refine Lk ?_;refine zF (λm vs h'=>∃i:Nat,i<=Lu xs/\m=Lu xs-i/\vs=[.ptr s 0,.fz R al (Lu xs) P,.int .i64 (Lu xs),.int .i64 i]/\σ=h'/\∀j (h:j<Lu xs),j<i->El p (Lu W) xs[j]) (Lu xs) ?_ ?_
 .exact⟨0,af,af,rfl,rfl,λj h A=>af⟩
 rintro m vs h' ⟨i,V,rfl,rfl,rfl,E⟩
 refine Lk ?_;refine de (λl=>?_) λT=>?_
 .obtain⟨X,S,L⟩:=I.rowI l;simp only[Z3,seval,-ae,l,L];refine zAl hs Q rfl (sz.r _ (YZ l)) D.1.1 ?_;by_cases u:rM xs[i] p (Lu W)
  .simp only[Z3,seval,-ae,u,WX l];refine⟨_,af,i+1,af,rfl,rfl,λj h A=>?_⟩;by_cases e:j=i
   .subst e;exact zF4.1 u
   .exact E j h af
  .simp only[Z3,seval,-ae,u];exact C _ ⟨λx=>(by cases x),λx=>absurd (zF4.2 (x.2 _ (YZ l))) u⟩
 .refine C _ ⟨λ_=>⟨D,λx N=>?_⟩,λ_=>rfl⟩;obtain⟨j,A,rfl⟩:=YR.1 N;exact E j A af
end
structure SzM(B:V3):Prop where
 l:(Lu B)<=1048576
 r:∀q∈B,SzL q
def zTC{α:Type}{xs ys:List α}(A:(Lu xs)=Lu ys){i:Nat}(u:i<Lu xs)(h:xs.take i=ys.take i)(l:xs[i]=ys[i]'(by omega)):xs.take (i+1)=ys.take (i+1):=by
 rw[YN u,YN (af:i<Lu ys),h,l]
end Go.Proofs
namespace Go.Lie
open Go.Ab
variable{p:Int}{n:Nat}{W:V2}
abbrev hK:=Nat->Int
structure pY(p:Int)(n:Nat)(W:V2)(S:hK->Prop):Prop where
 zero:S λ_=>0
 add:∀f g,S f->S g->S λj=>f j+g j
 mul:∀k f,S f->S λj=>k*f j
 eqv:∀f g,dq p n W f g->S g->S f
def comb(c:Nat->Int)(L:V2):hK:=λj=>jn (Lu L) λk=>c k*at_ (L.getD k []) j
def ki(p:Int)(n:Nat)(W:V2)(L:V2)(f:hK):Prop:=∃c:Nat->Int,dq p n W f (comb c L)
def zRF(c d:Nat->Int)(L:V2)(j:Nat):comb (λk=>c k+d k) L j=comb c L j+comb d L j:=by
 unfold comb;rw[<-Qr];exact qP λi _=>Uf _ _ _
def zRE(m:Int)(c:Nat->Int)(L:V2)(j:Nat):comb (λk=>m*c k) L j=m*comb c L j:=by
 unfold comb;rw[<-Zi];exact qP λi _=>UR _ _ _
def zO(L:V2):pY p n W (ki p n W L):=by
 refine⟨⟨λ_=>0,dq.of_eq λj=>?_⟩,λf g ⟨c,l⟩ ⟨d,hd⟩=>⟨λk=>c k+d k,(l.add hd).trans (dq.of_eq λj=>(zRF c d L j).symm)⟩,
  λk f ⟨c,l⟩=>⟨λi=>k*c i,(l.mul k).trans (dq.of_eq λj=>(zRE k c L j).symm)⟩,λf g h ⟨c,l⟩=>⟨c,h.trans l⟩⟩
 unfold comb;rw[qQ _ (λi _=>UU _)]
def zY{L:V2}{v:V1}(h:v∈L):ki p n W L (at_ v):=by
 obtain⟨k,l,rfl⟩:=YR.1 h;refine⟨λi=>if i=k then 1 else 0,dq.of_eq λj=>?_⟩;unfold comb;rw[Qq l (λi _ u=>by dsimp only;rw[DL u,UU])];dsimp only;rw[DK rfl,Ub];simp[YW,YQ l]
def pY.sum{S:hK->Prop}(h:pY p n W S):∀{m:Nat} {F:Nat->hK},(∀k,k<m->S (F k))->S λj=>jn m λk=>F k j
 |0,_,_=>h.zero
 |m+1,F,hF=>h.add _ _ (pY.sum h λk l=>hF k af) (hF m af)
def pY.comb{S:hK->Prop}(h:pY p n W S){L:V2}(u:∀v∈L,S (at_ v))(c:Nat->Int):S (comb c L):=
 h.sum λk l=>h.mul (c k) _ (u _ (by
  have:L.getD k []=L[k]:=by simp[YW,YQ l]
  rw[this];exact YZ l))
def zEb{S:hK->Prop}(h:pY p n W S){L:V2}(l:∀v∈L,S (at_ v)){f:hK}(A:ki p n W L f):S f:=by
 obtain⟨c,u⟩:=A;exact h.eqv _ _ u (h.comb l c)
def ZM{L M:V2}(h:∀v∈L,ki p n W M (at_ v)){f:hK}(l:ki p n W L f):ki p n W M f:=zEb (zO M) h l
def zg{L M:V2}(h:∀v∈L,v∈M){f:hK}(l:ki p n W L f):ki p n W M f:=ZM (λv u=>zY (h v u)) l
def zSJ{f:hK}(l:ki p n W [] f):dq p n W f λ_=>0:=by
 obtain⟨c,h⟩:=l;exact h
def pY.sub{S:hK->Prop}(h:pY p n W S){f g:hK}(l:S f)(u:S g):S λj=>f j-g j:=by
 have:=h.add _ _ l (h.mul (-1) _ u)
 exact h.eqv _ _ (dq.of_eq λj=>af) this
def cX:V1->Nat
 |[]=>0
 |x::xs=>if x=0 then cX xs+1 else 0
def Qg:∀v:V1,cX v<=Lu v
 |[]=>na _
 |x::xs=>by simp only[cX,Yu];have:=Qg xs;split<;>omega
def zn:∀{v:V1} {j:Nat},j<cX v->at_ v j=0
 |[],j,h=>by simp[at_]
 |x::xs,j,h=>by
  simp only[cX]at h;split at h
  .rename_i l;cases j with
   |zero=>simp[at_,l]
   |succ j=>
    have:=zn (v:=xs) (j:=j) af
    simpa [at_]using this
  .omega
def ZJ:∀{v:V1},cX v<Lu v->at_ v (cX v)≠0
 |[],h=>by simp at h
 |x::xs,h=>by
  simp only[cX,Yu]at h ⊢;split at h
  .rename_i l;rw[DK l]
   have:=ZJ (v:=xs) af
   simpa [at_]using this
  .rename_i l;rw[DL l];simpa [at_]using l
def zHJ{v:V1}{d:Nat}(l:∀j,j<d->at_ v j=0)(h:at_ v d≠0):cX v=d:=by
 rcases Eo (cX v) d with x|x|x
 .have hd:d<Lu v:=by
   rcases YG d (Lu v) with y|y
   .exact y
   .exact absurd (nX y) h
  exact absurd (l _ x) (ZJ af)
 .exact x
 .exact absurd (zn x) h
def zAJ{v:V1}{d:Nat}(hd:d<=Lu v)(h:∀j,j<d->at_ v j=0):d<=cX v:=by
 rcases YG (cX v) d with x|x
 .exact absurd (h _ x) (ZJ af)
 .exact x
def zRD{v:V1}(h:cX v=Lu v):∀x∈v,x=0:=λx u=>by
 obtain⟨j,l,rfl⟩:=YR.1 u;rw[<-dp l];exact zn af
def QW(o:eT p n W){f g:hK}(h:dq p n W f g){d:Nat}(hd:d<n)(E:∀j,j<d->0<=f j/\f j<=p-1)(G:∀j,j<d->0<=g j/\g j<=p-1):(∀j,j<d->f j=g j)/\∃k:Int,f d=g d-k*p:=by
 obtain⟨c,D⟩:=h;have I:=o.pr;unfold te at I;have val:∀i,i<=d->(∀k,k<i->c k=0)->f i=g i-c i*p:=by
  intro i u A;have l:=D i;rw[Qq (k:=i) af (λk J C=>by
   rcases YG k i with x|x
   .rw[A k x,UU]
   .rw[rel,o.zero x,DL (λe=>C e.symm)];simp)]at l
  rw[rel,o.zero (na _),DK rfl,Int.zero_sub,Ut]at l;omega
 have key:∀m,m<=d->∀i,i<m->c i=0:=by
  intro m
  induction m with
  |zero=>intro _ i u;omega
  |succ m ih=>
   intro O i u;by_cases e:i=m
   .subst e;have l:=val i af (ih af);have L:=E i af;have N:=G i af;rcases I1 (c i) 0 with x|x|x
    .have:=YO (show c i<=-1 by omega) (show 0<=p by omega)
     omega
    .exact x
    .have:=YO (show 1<=c i by omega) (show 0<=p by omega)
     omega
   .exact ih af i af
 refine⟨λj H=>?_,c d,val d (na _) (key d (na _))⟩
 have:=val j af (λk A=>key d (na _) k af)
 rw[key d (na _) j H]at this;omega
def zBO(o:eT p n W){v:V1}(u:(Lu v)=n){d:Nat}(hd:d<=n)(h:∀j,j<d->at_ v j=0):∀j,j<d->at_ (norm p W v) j=0:=by
 have E:=o.pr;unfold te at E;have l:=QN o u;intro j D
 have:=(QW o (qU o u) (d:=j) af (λi _=>l.at af i) (λi C=>by rw[h i af];omega)).1
 obtain⟨k,A⟩:=(QW o (qU o u) (d:=j) af (λi _=>l.at af i) (λi C=>by rw[h i af];omega)).2;rw[h j D]at A;have G:=l.at af j;rcases I1 k 0 with x|x|x
 .have:=YO (show k<=-1 by omega) (show 0<=p by omega)
  omega
 .rw[x]at A;omega
 .have:=YO (show 1<=k by omega) (show 0<=p by omega)
  omega
def zEI(o:eT p n W){v:V1}(u:(Lu v)=n){d:Nat}(hd:d<n)(h:∀j,j<d->at_ v j=0):at_ (norm p W v) d=at_ v d % p:=by
 have D:=o.pr;unfold te at D;have l:=QN o u;obtain⟨k,E⟩:=(QW o (qU o u) hd (λi _=>l.at af i) (λi C=>by rw[h i C];omega)).2;have A:=l.at af d
 have:at_ v d=at_ (norm p W v) d+p*k:=by rw[UN p k];omega
 rw[this,Int.add_mul_emod_self_left];exact(Ys A.1 af).symm
def push(o:eT p n W){d:Nat}(hd:d<n){f:hK}(h:∀j,j<d->f j=0)(A:∀j,n<=j->f j=0):∃g:hK,dq p n W (λj=>p*f j) g/\(∀j,j<=d->g j=0)/\∀j,n<=j->g j=0:=by
 have u:=(dq.rel (p:=p) (W:=W) hd).mul (f d);refine⟨λj=>p*f j+f d*rel p W d j,?_,λj l=>?_,λj l=>?_⟩
 .have h2:=(dq.refl (p:=p) (n:=n) (W:=W) (λj=>p*f j)).add u.symm;refine(dq.of_eq λj=>?_).trans h2;omega
 .dsimp only;rcases YG j d with x|x
  .rw[h j x,rel,o.zero (af:j<=d),DL af];simp
  .have:j=d:=af
   subst this;rw[rel,o.zero (na _),DK rfl,Int.zero_sub,Ut,UN p];omega
 .dsimp only;rw[A j l,rel,DL af]
  have:w_ W d j=0:=by
   rw[w_];exact nX (by rw[o.rowlen hd];exact l)
  rw[this];simp
def nD(p:Int):Nat->Int
 |0=>1
 |k+1=>p*nD p k
def kill(o:eT p n W):∀(k:Nat) {f:hK},k<=n->(∀j,j<n-k->f j=0)->(∀j,n<=j->f j=0)->dq p n W (λj=>nD p k*f j) λ_=>0
 |0,f,_,h,hn=>dq.of_eq λj=>by
  rcases YG j n with x|x
  .rw[h j af];simp
  .rw[hn j x];simp
 |k+1,f,hk,h,hn=>by
  obtain⟨g,l,u,A⟩:=push o (d:=n-(k+1)) af h hn;have D:=kill o k (f:=g) af (λj E=>u j af) A;have C:=l.mul (nD p k);refine(dq.of_eq λj=>?_).trans (C.trans D);rw[nD,UN p,UR]
def Qv(o:eT p n W){f:hK}(h:∀j,n<=j->f j=0):dq p n W (λj=>nD p n*f j) λ_=>0:=kill o n (na _) (λj l=>af) h
def inv_one(t:Int):∀m:Nat,0<m->∃e s:Int,e*(1+p*t)=1+nD p m*s
 |0,h=>by omega
 |1,_=>⟨1,t,by simp[nD]⟩
 |m+2,_=>by
  obtain⟨e,s,h⟩:=inv_one t (m+1) af;refine⟨e*(1-nD p (m+1)*s),-(nD p m*s*s),?_⟩;have l:e*(1-nD p (m+1)*s)*(1+p*t)=(e*(1+p*t))*(1-nD p (m+1)*s):=by
   rw[UR,UN (1-nD p (m+1)*s),<-UR]
  rw[l,h];have u:nD p (m+2) * -(nD p m*s*s)=-(nD p (m+1)*s*(nD p (m+1)*s)):=by
   simp only[nD];rw[Ut];congr 1;simp only[UR,Int.mul_left_comm,UN]
  rw[u,Uf,Ub,Int.mul_sub,Ur];omega
end Go.Lie
