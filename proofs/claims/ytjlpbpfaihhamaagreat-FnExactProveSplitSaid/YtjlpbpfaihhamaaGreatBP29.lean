/- Collection: the step. -/
import Derived.Test.YtjlpbpfaihhamaaGreatBAbPy
import Derived.Test.YtjlpbpfaihhamaaGreatChecked
open Int renaming reduceNatCast'→iQ0
set_option maxRecDepth 100000
namespace Go.Proofs
open Go.Ab
def mI0 (d s:Nat):II:=⟨some d,.mv (.t s),true,none⟩
def kI0 (d:Nat) (k:Int):II:=⟨some d,.mv (.c (.int .i64 k)),true,none⟩
def tI0 (d:Nat) (k:Bool):II:=⟨some d,.mv (.c (.bool k)),true,none⟩
def lI0 (d s:Nat):II:=⟨some d,.load false 1 (.t s),true,none⟩
def LI0 (d s:Nat):II:=⟨some d,.load true 3 (.t s),true,none⟩
def fI0 (d o s:Nat):II:=⟨some d,.fieldAddr o (.t s),true,none⟩
def xI0 (d a i:Nat):II:=⟨some d,.indexAddr 1 (.t a) (.t i),true,none⟩
def bI0 (d:Nat) (o:BinOp) (a b:Nat):II:=⟨some d,.bin o .other (.t a) (.t b),true,none⟩
def cI0 (d:Nat) (o:BinOp) (a:Nat) (k:Int):II:=⟨some d,.bin o .other (.t a) (.c (.int .i64 k)),true,none⟩
def nI0 (d s:Nat):II:=⟨some d,.un .not (.t s),true,none⟩
def sI0 (d s:Nat):II:=⟨some d,.len (.t s),true,none⟩
def pI0 (d s:Nat):II:=⟨some d,.nilCheck (.t s),true,none⟩
def eI0 (d s i:Nat):II:=⟨some d,.extract (.t s) i,true,none⟩
def C0 (d f:Nat):II:=⟨some d,.call f [],false,none⟩
def C1 (d f a:Nat):II:=⟨some d,.call f [.t a],false,none⟩
def C2 (d f a b:Nat):II:=⟨some d,.call f [.t a,.t b],false,none⟩
def C3 (d f a b c:Nat):II:=⟨some d,.call f [.t a,.t b,.t c],false,none⟩
def mD0 (d s n:Nat):DI:=⟨⟨some d,.mv (.t s),true,none⟩,n,[]⟩
def lD0 (d s n:Nat):DI:=⟨⟨some d,.load false 1 (.t s),true,none⟩,n,[]⟩
def fD0 (d o s n:Nat):DI:=⟨⟨some d,.fieldAddr o (.t s),true,none⟩,n,[]⟩
def xD0 (d a i n:Nat):DI:=⟨⟨some d,.indexAddr 1 (.t a) (.t i),true,none⟩,n,[]⟩
def pD0 (d s n:Nat):DI:=⟨⟨some d,.nilCheck (.t s),true,none⟩,n,[]⟩
def I0 (k:Int):IX:=.c (.int .i64 k)
def G0 (d:Nat) (o:IOp) (q:Bool) (t:Nat) (b:Bool):II:=⟨some d,o,q,some (t,b)⟩
def gm0 (d s t:Nat) (b:Bool):II:=⟨some d,.mv (.t s),true,some (t,b)⟩
def oI0 (d a b:Nat):II:=⟨some d,.pick (.t a) (.c (.bool true)) (.t b),true,none⟩
def aI0 (d a b:Nat):II:=⟨some d,.pick (.t a) (.t b) (.c (.bool false)),true,none⟩
def zI0 (d:Nat):II:=⟨some d,.mv (.c .nils),true,none⟩
def yI0 (d a:Nat) (k:Int):II:=⟨some d,.indexAddr 1 (.t a) (.c (.int .i64 k)),true,none⟩
def vI0 (n a b:Nat):II:=⟨none,.store n (.t a) (.t b),false,none⟩
def wD0 (n a b i:Nat):DI:=⟨⟨none,.store n (.t a) (.t b),false,none⟩,i,[]⟩
def R0 (l:List Nat) (i:List II):IC:=.region l i
def S0 (a b:IC):IC:=.seq a b
open Tryz
theorem mix:Tryz.prog.follows .mixedOrders=true:=by kernel_rfl
def if18:IFn:=⟨[0,1],[(.tmp 4)],(S0 (R0 [1,2] [eI 2 (.box (.t 0)),kI0 4 0])
 (S0 (R0 [1,2] [fI0 5 0 2,lI0 6 5,mI0 7 1,C2 8 47 6 7,mI0 1 8])
 (S0 (R0 [1,2] [fI0 9 1 2,lI0 10 9,mI0 11 1,C2 12 19 10 11,mI0 1 12])
 (S0 (R0 [1] [fI0 13 2 2,lI0 14 13,mI0 15 1,C2 16 48 14 15,mI0 1 16])
 (S0 (R0 [4] [mI0 17 1,mI0 4 17])
 .ret)))))⟩
theorem cf18:cF prog f18=some if18:=by kernel_rfl
def if19:IFn:=⟨[0,1],[(.tmp 4)],(S0 (R0 [0,1] [kI0 4 0])
 (S0 (.seq (R0 [0,1,5] [kI0 5 0])
 (.block 0 (.loop [0,1,5] (S0 (.seq (R0 [0,1,5,9] [mI0 6 5,mI0 7 0,sI0 8 7,bI0 9 .lss 6 8])
 (.cond (.t 9) .skip (.exit 0)))
 (S0 (.block 1 (R0 [0,1,5] [mI0 12 0,mI0 13 5,xI0 14 12 13,lI0 15 14,mI0 16 1,C2 17 47 15 16,mI0 1 17]))
 (R0 [0,1,5] [mI0 10 5,cI0 11 .add 10 1,mI0 5 11]))))))
 (S0 (R0 [4] [mI0 18 1,mI0 4 18])
 .ret)))⟩
theorem cf19:cF prog f19=some if19:=by kernel_rfl
def if20:IFn:=⟨[0,1],[(.tmp 4)],(S0 (R0 [1,2] [eI 2 (.box (.t 0)),kI0 4 0])
 (S0 (R0 [1,2] [fI0 5 1 2,lI0 6 5,mI0 7 1,C2 8 49 6 7,mI0 1 8])
 (S0 (R0 [1] [fI0 9 2 2,lI0 10 9,mI0 11 1,C2 12 19 10 11,mI0 1 12])
 (S0 (R0 [4] [mI0 13 1,mI0 4 13])
 .ret))))⟩
theorem cf20:cF prog f20=some if20:=by kernel_rfl
def if47:IFn:=⟨[0,1],[(.tmp 4)],(S0 (R0 [0,1] [kI0 4 0])
 (S0 (.seq (R0 [0,1,5] [kI0 5 0])
 (.block 0 (.loop [0,1,5] (S0 (.seq (R0 [0,1,5,9] [mI0 6 5,mI0 7 0,sI0 8 7,bI0 9 .lss 6 8])
 (.cond (.t 9) .skip (.exit 0)))
 (S0 (.block 1 (S0 (R0 [0,1,5] [mI0 12 0,mI0 13 5,mI0 14 1,xI0 15 12 13,vI0 1 15 14])
 (R0 [0,1,5] [mI0 16 1,cI0 17 .add 16 1,mI0 1 17])))
 (R0 [0,1,5] [mI0 10 5,cI0 11 .add 10 1,mI0 5 11]))))))
 (S0 (R0 [4] [mI0 18 1,mI0 4 18])
 .ret)))⟩
theorem cf47:cF prog f47=some if47:=by kernel_rfl
def if48:IFn:=⟨[0,1],[(.tmp 4)],(S0 (R0 [0,1] [kI0 4 0])
 (S0 (.seq (R0 [0,1,5] [kI0 5 0])
 (.block 0 (.loop [0,1,5] (S0 (.seq (R0 [0,1,5,9] [mI0 6 5,mI0 7 0,sI0 8 7,bI0 9 .lss 6 8])
 (.cond (.t 9) .skip (.exit 0)))
 (S0 (.block 1 (R0 [0,1,5] [mI0 12 0,mI0 13 5,xI0 14 12 13,lI0 15 14,mI0 16 1,C2 17 19 15 16,mI0 1 17]))
 (R0 [0,1,5] [mI0 10 5,cI0 11 .add 10 1,mI0 5 11]))))))
 (S0 (R0 [4] [mI0 18 1,mI0 4 18])
 .ret)))⟩
theorem cf48:cF prog f48=some if48:=by kernel_rfl
def if49:IFn:=⟨[0,1],[(.tmp 4)],(S0 (R0 [0,1] [kI0 4 0])
 (S0 (.seq (R0 [0,1,5] [kI0 5 0])
 (.block 0 (.loop [0,1,5] (S0 (.seq (R0 [0,1,5,9] [mI0 6 5,mI0 7 0,sI0 8 7,bI0 9 .lss 6 8])
 (.cond (.t 9) .skip (.exit 0)))
 (S0 (.block 1 (S0 (R0 [0,1,5] [mI0 12 0,mI0 13 5,qI 14 (.indexAddr 3 (.t 12) (.t 13)),fI0 15 0 14,lI0 16 15,mI0 17 1,C2 18 47 16 17,mI0 1 18])
 (S0 (R0 [0,1,5] [mI0 19 0,mI0 20 5,qI 21 (.indexAddr 3 (.t 19) (.t 20)),fI0 22 1 21,lI0 23 22,mI0 24 1,C2 25 19 23 24,mI0 1 25])
 (R0 [0,1,5] [mI0 26 0,mI0 27 5,qI 28 (.indexAddr 3 (.t 26) (.t 27)),fI0 29 2 28,lI0 30 29,mI0 31 1,C2 32 48 30 31,mI0 1 32]))))
 (R0 [0,1,5] [mI0 10 5,cI0 11 .add 10 1,mI0 5 11]))))))
 (S0 (R0 [4] [mI0 33 1,mI0 4 33])
 .ret)))⟩
theorem cf49:cF prog f49=some if49:=by kernel_rfl
end Go.Proofs
set_option linter.unusedSimpArgs false
set_option linter.unusedVariables false
namespace Go.Proofs
open Go.Ab
variable {σ:PHeap} {K:PV→PHeap→Prop}
theorem zM2 {n lo hi:Int} (hk:K (.bool (decide (lo≤n∧n≤hi))) σ):zA Tryz.prog 76 [.int .i64 n,.int .i64 lo,.int .i64 hi] σ K:=by
 refine zB mix Tryz.func76 ?_
 by_cases h1:lo≤n
 ·simp only [pwA,seval,-iQ0,h1];exact pke hk ⟨fun x=>x.2,fun x=>⟨h1,x⟩⟩
 ·simp only [pwA,seval,-iQ0,h1];exact pkf hk (by omega)
theorem zOn {n lo hi:Int} (hk:K (.bool (decide (lo≤n∧n≤hi))) σ):zA Tryz.prog 54 [.int .i64 n,.int .i64 lo,.int .i64 hi] σ K:=by
 refine zB mix Tryz.func54 ?_
 by_cases h1:lo≤n
 ·simp only [pwA,seval,-iQ0,h1];exact pke hk ⟨fun x=>x.2,fun x=>⟨h1,x⟩⟩
 ·simp only [pwA,seval,-iQ0,h1];exact pkf hk (by omega)
def isVec (xs:List Int) (p n:Int):Prop:=(xs.length:Int)=n∧∀x∈xs,0≤x∧x≤p-1
instance (xs:List Int) (p n:Int):Decidable (isVec xs p n):=by unfold isVec;infer_instance
def isZ (xs:List Int):Prop:=∀x∈xs,x=0
instance (xs:List Int):Decidable (isZ xs):=by unfold isZ;infer_instance
theorem zDO {w:Bool} {a:AV} {xs:List Int} {l:Nat} (hl:l=xs.length) (hb:xs.length≤4611686018427387904) (hk:K (.bool (decide (isZ xs))) σ):zA Tryz.prog 168 [.fz w a l (pis xs)] σ K:=by
 subst hl;refine zB mix Tryz.func168 ?_;simp only [pwA,seval,-iQ0];refine zD (fun m vs h'=>∃i:Nat,i≤xs.length∧m=xs.length-i∧vs=[.fz w a xs.length (pis xs),.int .i64 xs.length,.int .i64 i]∧h'=σ∧∀x∈xs.take i,x=0) xs.length ?_ ?_
 ·exact⟨0,by omega,by omega,rfl,rfl,by simp⟩
 ·rintro m vs h' ⟨i,hi,rfl,rfl,rfl,hall⟩
  simp only [pwA,seval,-iQ0]
  split
  ·rename_i hlt
   simp only [pwA,seval,-iQ0,hlt,zL,gi hlt]
   split
   ·rename_i h0
    simp only [pwA,seval,-iQ0,wrapS hlt hb];exact⟨_,by omega,i+1,by omega,rfl,rfl,zEW hlt hall h0⟩
   ·rename_i hn
    exact pkf hk fun hv=>hn (hv _ (List.getElem_mem hlt))
  ·refine pkt hk (zA1 (by omega) hall)
theorem zLF {w:Bool} {a:AV} {xs:List Int} {l:Nat} (hl:l=xs.length) (hb:xs.length≤4611686018427387904) (hk:K (.bool (decide (isZ xs))) σ):zA Tryz.prog 111 [.fz w a l (pis xs)] σ K:=by
 subst hl;refine zB mix Tryz.func111 ?_;simp only [pwA,seval,-iQ0];refine zD (fun m vs h'=>∃i:Nat,i≤xs.length∧m=xs.length-i∧vs=[.fz w a xs.length (pis xs),.int .i64 i]∧h'=σ∧∀x∈xs.take i,x=0) xs.length ?_ ?_
 ·exact⟨0,by omega,by omega,rfl,rfl,by simp⟩
 ·rintro m vs h' ⟨i,hi,rfl,rfl,rfl,hall⟩
  simp only [pwA,seval,-iQ0]
  split
  ·rename_i hlt
   simp only [pwA,seval,-iQ0,hlt,zL,gi hlt]
   split
   ·rename_i h0
    simp only [pwA,seval,-iQ0,wrapS hlt hb];exact⟨_,by omega,i+1,by omega,rfl,rfl,zEW hlt hall h0⟩
   ·rename_i hn
    exact pkf hk fun hv=>hn (hv _ (List.getElem_mem hlt))
  ·refine pkt hk (zA1 (by omega) hall)
theorem zIb {xs ys:List Int} (hl:xs.length=ys.length) {i:Nat} (hi:i<xs.length) (h:xs.take i=ys.take i) (he:xs[i]=ys[i]'(by omega)):xs.take (i+1)=ys.take (i+1):=by
 rw [List.take_succ_eq_append_getElem hi,List.take_succ_eq_append_getElem (by omega:i<ys.length),h,he]
theorem zAF {w w':Bool} {a a':AV} {xs ys:List Int} {l:Nat} {l':Nat} (hl:l=xs.length) (hl':l'=ys.length) (hb:xs.length≤4611686018427387904) (hk:K (.bool (decide (xs=ys))) σ):zA Tryz.prog 57 [.fz w a l (pis xs),.fz w' a' l' (pis ys)] σ K:=by
 subst hl;subst hl';refine zB mix Tryz.func57 ?_;simp only [pwA,seval,-iQ0]
 split
 ·rename_i hl
  have hl:xs.length=ys.length:=by omega
  refine zD (fun m vs h'=>∃i:Nat,i≤xs.length∧m=xs.length-i∧vs=[.fz w a xs.length (pis xs),.fz w' a' ys.length (pis ys),.int .i64 i]∧h'=σ∧xs.take i=ys.take i) xs.length ?_ ?_
  ·exact⟨0,by omega,by omega,rfl,rfl,by simp⟩
  ·rintro m vs h' ⟨i,hi,rfl,rfl,rfl,hall⟩
   simp only [pwA,seval,-iQ0]
   split
   ·rename_i hlt
    have hlt2:i<ys.length:=by omega
    simp only [pwA,seval,-iQ0,hlt,hlt2,zL,gi hlt,gi hlt2]
    split
    ·rename_i h0
     simp only [pwA,seval,-iQ0,wrapS hlt hb];exact⟨_,by omega,i+1,by omega,rfl,rfl,zIb hl hlt hall h0⟩
    ·rename_i hn
     refine pkf hk fun hv=>hn (by subst hv;rfl)
   ·refine pkt hk ?_
    rwa [List.take_of_length_le (by omega),List.take_of_length_le (by omega)]at hall
 ·rename_i hl
  exact pkf hk fun hv=>hl (by rw [hv])
theorem zBb {w w':Bool} {a a':AV} {xs ys:List Int} {l:Nat} {l':Nat} (hl:l=xs.length) (hl':l'=ys.length) (hb:xs.length≤4611686018427387904) (hk:K (.bool (decide (xs=ys))) σ):zA Tryz.prog 133 [.fz w a l (pis xs),.fz w' a' l' (pis ys)] σ K:=by
 subst hl;subst hl';refine zB mix Tryz.func133 ?_;simp only [pwA,seval,-iQ0]
 split
 ·rename_i hl
  have hl:xs.length=ys.length:=by omega
  refine zD (fun m vs h'=>∃i:Nat,i≤xs.length∧m=xs.length-i∧vs=[.fz w a xs.length (pis xs),.fz w' a' ys.length (pis ys),.int .i64 xs.length,.int .i64 i]∧h'=σ∧xs.take i=ys.take i) xs.length ?_ ?_
  ·exact⟨0,by omega,by omega,rfl,rfl,by simp⟩
  ·rintro m vs h' ⟨i,hi,rfl,rfl,rfl,hall⟩
   simp only [pwA,seval,-iQ0]
   split
   ·rename_i hlt
    have hlt2:i<ys.length:=by omega
    simp only [pwA,seval,-iQ0,hlt,hlt2,zL,gi hlt,gi hlt2]
    split
    ·rename_i h0
     simp only [pwA,seval,-iQ0,wrapS hlt hb];exact⟨_,by omega,i+1,by omega,rfl,rfl,zIb hl hlt hall h0⟩
    ·rename_i hn
     refine pkf hk fun hv=>hn (by subst hv;rfl)
   ·refine pkt hk ?_
    rwa [List.take_of_length_le (by omega),List.take_of_length_le (by omega)]at hall
 ·rename_i hl
  exact pkf hk fun hv=>hl (by rw [hv])
def isP (n:Int):Prop:=n=2∨n=3∨n=5∨n=7
instance (n:Int):Decidable (isP n):=by unfold isP;infer_instance
theorem isP.bd {n:Int} (hp:isP n):2≤n∧n≤7:=by unfold isP at hp;omega
theorem zJh {n:Int} (hk:K (.bool (decide (isP n))) σ):zA Tryz.prog 98 [.int .i64 n] σ K:=by
 refine zB mix Tryz.func98 ?_
 by_cases h2:n=2
 ·simp only [pwA,seval,-iQ0,h2];exact pkt hk (by unfold isP;omega)
 by_cases h3:n=3
 ·simp only [pwA,seval,-iQ0,h3];exact pkt hk (by unfold isP;omega)
 by_cases h5:n=5
 ·simp only [pwA,seval,-iQ0,h5];exact pkt hk (by unfold isP;omega)
 by_cases h7:n=7
 ·simp only [pwA,seval,-iQ0,h7];exact pkt hk (by unfold isP;omega)
 simp only [pwA,seval,-iQ0,h2,h3,h5,h7];exact pkf hk (by unfold isP;omega)
theorem zF6 {n:Int} (hk:K (.bool (decide (isP n))) σ):zA Tryz.prog 123 [.int .i64 n] σ K:=by
 refine zB mix Tryz.func123 ?_
 by_cases h2:n=2
 ·simp only [pwA,seval,-iQ0,h2];exact pkt hk (by unfold isP;omega)
 by_cases h3:n=3
 ·simp only [pwA,seval,-iQ0,h3];exact pkt hk (by unfold isP;omega)
 by_cases h5:n=5
 ·simp only [pwA,seval,-iQ0,h5];exact pkt hk (by unfold isP;omega)
 by_cases h7:n=7
 ·simp only [pwA,seval,-iQ0,h7];exact pkt hk (by unfold isP;omega)
 simp only [pwA,seval,-iQ0,h2,h3,h5,h7];exact pkf hk (by unfold isP;omega)
theorem zGo (x p:Int) (hp:0<p):(x.tmod p+p).tmod p=x % p:=by
 have h1:=Int.tmod_lt_of_pos x hp;have h2:=Int.lt_tmod_of_pos x hp;rw [Int.tmod_eq_emod_of_nonneg (by omega),Int.add_emod_right]
 rcases Int.le_total 0 x with h0|h0
 ·rw [Int.tmod_eq_emod_of_nonneg h0,Int.emod_emod_of_dvd _ (Int.dvd_refl p)]
 ·obtain⟨y,rfl⟩:∃y,x=-y:=⟨-x,by omega⟩
  rw [Int.neg_tmod,Int.tmod_eq_emod_of_nonneg (by omega)]
  have e:=Int.emod_add_mul_ediv y p
  have:-y=-(y % p)+p*(-(y / p)):=by rw [Int.mul_neg];omega
  rw [this,Int.add_mul_emod_self_left]
theorem zKX {x p:Int} (hp:0<p) (hp2:p<4611686018427387904) (hk:K (.int .i64 (x % p)) σ):zA Tryz.prog 218 [.int .i64 x,.int .i64 p] σ K:=by
 refine zB mix Tryz.func218 ?_;have hp0:p≠0:=by omega
 have h1:=Int.tmod_lt_of_pos x hp;have h2:=Int.lt_tmod_of_pos x hp;have hw:IntKind.i64.wrap (x.tmod p+p)=x.tmod p+p:=wrap64 (by omega) (by omega)
 have he:=zGo x p hp;simp only [pwA,seval,-iQ0,hp0,hw,he];exact hk
theorem zMu {x p:Int} (hp:0<p) (hp2:p<4611686018427387904) (hk:K (.int .i64 (x % p)) σ):zA Tryz.prog 163 [.int .i64 x,.int .i64 p] σ K:=by
 refine zB mix Tryz.func163 ?_;have hp0:p≠0:=by omega
 have h1:=Int.tmod_lt_of_pos x hp;have h2:=Int.lt_tmod_of_pos x hp;have he:=zGo x p hp;simp only [pwA,seval,-iQ0,hp0]
 split
 ·rw [Int.tmod_eq_emod_of_nonneg (by omega),Int.emod_eq_of_lt (by omega) (by omega)]at he
  simp only [pwA,seval,-iQ0,he,wrap64 (n:=x % p) (by omega) (by omega)]
  exact hk
 ·rw [Int.tmod_eq_emod_of_nonneg (by omega),Int.add_emod_right,Int.emod_eq_of_lt (by omega) (by omega)]at he
  rw [he];exact hk
theorem Zx {w:Bool} {a:AV} {xs:List Int} {l:Nat} (hl:l=xs.length) (hb:xs.length≤4294967296) (hk:∀cap,full 1 cap xs.length→K (.sl σ.next 0 xs.length cap) (σ.new (pis xs))):zA Tryz.prog 89 [.fz w a l (pis xs)] σ K:=by
 subst hl;refine zA.gh ?_;refine zB mix Tryz.func89 ?_;simp only [pwA,seval,-iQ0];refine PSl.cat (bytes:=8) (σb:=σ) (n:=0) (cs:=[]) (zC σ _) (PSl.new _ 1 rfl (Nat.le_refl _)) (qK xs) (by omega) (by omega) fun v' h' hk' ha=>?_
 simp only [pwA,seval,-iQ0]at ha ⊢
 exact ha.out hk' (zo _ _) hk
theorem Qy {w:Bool} {a:AV} {xs:List Int} {l:Nat} (hl:l=xs.length) (hb:xs.length≤4294967296) (hk:ResI σ K xs):zA Tryz.prog 95 [.fz w a l (pis xs)] σ K:=by
 subst hl;refine zA.nil0 fun hnil=>zA.gh ?_
 refine zB mix Tryz.func95 ?_;simp only [pwA,seval,-iQ0];cases hn:Zj a
 ·simp only [pwA,seval,-iQ0]
  refine PSl.cat (bytes:=8) (σb:=σ) (n:=0) (cs:=[]) (zC σ _) (PSl.new _ 1 rfl (Nat.le_refl _)) (qK xs) (by omega) (by omega) fun v' h' hk' ha=>?_
  simp only [pwA,seval,-iQ0]at ha ⊢
  exact ha.out hk' (zo _ _) hk.2
 ·simp only [pwA,seval,-iQ0]
  exact Gh.ret (hk.1 (List.eq_nil_of_length_eq_zero (hnil hn).1))
def unitL (n k:Nat):List Int:=(List.replicate n 0).set k 1
theorem zBA (n k:Nat):(unitL n k).length=n:=by simp [unitL]
theorem zGs {n k:Nat} (hn:n≤1048576) (hkn:k<n) (hk:∀cap,full 1 cap n→K (.sl σ.next 0 n cap) (σ.new (pis (unitL n k)))):zA Tryz.prog 216 [.int .i64 n,.int .i64 k] σ K:=by
 refine zB mix Tryz.func216 ?_;simp only [pwA,seval,-iQ0,hkn,List.length_replicate,ZJ,qK,mk8 (n:=n) (by omega),mkL (n:=n) (by omega),Nat.succ_le_of_lt hkn]
 rw [qm (by simpa using hkn)]
 exact hk _ (.inr rfl)
end Go.Proofs
namespace Go.Lie
open Go.Ab
abbrev at_ (v:List Int) (j:Nat):Int:=v.getD j 0
theorem at_eq {v:List Int} {j:Nat} (h:j<v.length):at_ v j=v[j]:=by simp [at_,List.getD_eq_getElem?_getD,List.getElem?_eq_getElem h]
theorem at_ge {v:List Int} {j:Nat} (h:v.length≤j):at_ v j=0:=by simp [at_,List.getD_eq_getElem?_getD,List.getElem?_eq_none h]
theorem zCA {a b:List Int} (hl:a.length=b.length) (h:∀j,j<a.length→at_ a j=at_ b j):a=b:=by
 apply List.ext_getElem hl;intro j h1 h2
 have:=h j h1
 rwa [at_eq h1,at_eq h2]at this
theorem at_set {v:List Int} {i:Nat} (hi:i<v.length) (x:Int) (j:Nat):at_ (v.set i x) j=if j=i then x else at_ v j:=by
 simp only [at_,List.getD_eq_getElem?_getD,List.getElem?_set]
 by_cases h:i=j
 ·subst h;simp [hi]
 ·rw [if_neg h,if_neg (fun e=>h e.symm)]
theorem Zu (n:Nat) (j:Nat):at_ (List.replicate n 0) j=0:=by
 simp only [at_,List.getD_eq_getElem?_getD,List.getElem?_replicate]
 split<;>rfl
variable {p:Int} {n:Nat} {W:List (List Int)}
theorem zAZ {i:Nat} (h:i<W.length):W.getD i []=W[i]:=by simp [List.getD_eq_getElem?_getD,List.getElem?_eq_getElem h]
end Go.Lie
namespace Go.Proofs
open Go.Ab Go.Lie
variable {σ:PHeap} {K:PV→PHeap→Prop} {p:Int} {n:Nat} {W:List (List Int)} {B:List (List (List Int))} {vP vB:PV} {s:Nat}
theorem ZG {α:Type} {B:List (List α)} {i:Nat} (h:i<B.length):B.getD i []=B[i]:=by simp [List.getD_eq_getElem?_getD,List.getElem?_eq_getElem h]
end Go.Proofs
namespace Go.Proofs
open Go.Ab Go.Lie
variable {σ:PHeap} {K:PV→PHeap→Prop} {p:Int} {n:Nat} {W:List (List Int)} {B:List (List (List Int))} {vP vB:PV} {s:Nat}
theorem zAq {k:Nat} (hn:n≤1048576) (hkn:k<n) (hk:∀a,K (.fz true a n (pis (unitL n k))) σ):zA Tryz.prog 216 [.int .i64 n,.int .i64 k] σ K:=
 zA.fz (fun K'=>zGs hn hkn) (zo _ _) fun o cap=>hk _
end Go.Proofs
namespace Go.Proofs
open Go.Ab Go.Lie
variable {σ:PHeap} {K:PV→PHeap→Prop} {p:Int} {n:Nat} {W:List (List Int)} {B:List (List (List Int))} {vP vB vL:PV} {s:Nat}
structure SzL (xs:List (List Int)):Prop where
 l:xs.length≤1048576
 r:∀x∈xs,x.length≤1048576
end Go.Proofs
namespace Go.Proofs
open Go.Ab Go.Lie
variable {σ:PHeap} {K:PV→PHeap→Prop} {p p':Int} {n:Nat} {W W':List (List Int)} {B B':List (List (List Int))} {vP vB vP' vB' vL vL':PV}
def left_ (l:Int):Prop:=0≤l∧l≤1048576
theorem zED {l:Int} {xs:List Int} {v:PV} (hI:FI v xs) (hb:xs.length≤9223372036854775807) (hl:left_ l) (hk:∀r:Int,(r=-1∨(left_ r∧xs.length≤1048576))→K (.int .i64 r) σ):zA Tryz.prog 35 [v,.int .i64 l] σ K:=by
 obtain⟨w,a,rfl⟩:=hI;unfold left_ at hl
 refine zB mix Tryz.func35 ?_;simp only [pwA,seval,-iQ0,wrap64 (n:=l-(xs.length:Int)) (by omega) (by omega)]
 refine iteI (fun h=>?_) fun h=>?_
 ·exact hk _ (.inl rfl)
 ·exact hk _ (.inr ⟨by unfold left_;omega,by omega⟩)
theorem zBD {l:Int} {xs:List (List Int)} {v:PV} (hI:FII v xs) (hb:xs.length≤9223372036854775807) (hb2:∀x∈xs,x.length≤9223372036854775807) (hl:left_ l) (hk:∀r:Int,(r=-1∨(left_ r∧SzL xs))→K (.int .i64 r) σ):zA Tryz.prog 11 [v,.int .i64 l] σ K:=by
 obtain⟨w,a,rs,rfl,hr⟩:=hI;have hl':=hl;unfold left_ at hl
 refine zB mix Tryz.func11 ?_;simp only [pwA,seval,-iQ0,wrap64 (n:=l-(xs.length:Int)) (by omega) (by omega)]
 refine iteI (fun h=>?_) fun h=>?_
 ·exact hk _ (.inl rfl)
 refine zD (fun m vs h'=>∃i:Nat,i≤xs.length∧m=xs.length-i∧∃r:Int,left_ r∧vs=[.fz w a xs.length rs,.int .i64 r,.int .i64 i]∧σ=h'∧∀x∈xs.take i,x.length≤1048576) xs.length ?_ ?_
 ·exact⟨0,by omega,by omega,_,(by unfold left_;omega),rfl,rfl,by simp⟩
 rintro m vs h' ⟨i,hi,rfl,r,hr',rfl,rfl,hall⟩
 simp only [pwA,seval,-iQ0];refine iteI (fun hlt=>?_) fun hge=>?_
 rotate_left
 ·exact hk _ (.inr ⟨hr',by omega,zA1 (by omega) hall⟩)
 obtain⟨w4,a4,hrk⟩:=hr.rowI hlt;simp only [pwA,seval,-iQ0,hlt,hrk];refine zED ⟨_,_,rfl⟩ (hb2 _ (List.getElem_mem hlt)) hr' fun r' h=>?_
 rcases h with rfl|⟨h1,h2⟩
 ·simp only [pwA,seval,-iQ0]
  exact hk _ (.inl rfl)
 ·have:¬r'<0:=by unfold left_ at h1;omega
  simp only [pwA,seval,-iQ0,this,wrapS hlt (by omega:xs.length≤4611686018427387904)]
  exact⟨_,by omega,i+1,by omega,rfl,_,h1,rfl,zAI hlt hall h2⟩
structure SzM (B:List (List (List Int))):Prop where
 l:B.length≤1048576
 r:∀q∈B,SzL q
theorem zGu {l:Int} {xs:List (List (List Int))} {v:PV} (hI:FIII v xs) (hb:xs.length≤9223372036854775807) (hb2:∀q∈xs,q.length≤9223372036854775807∧∀x∈q,x.length≤9223372036854775807) (hl:left_ l) (hk:∀r:Int,(r=-1∨(left_ r∧SzM xs))→K (.int .i64 r) σ):zA Tryz.prog 36 [v,.int .i64 l] σ K:=by
 obtain⟨w,a,rs,rfl,hr⟩:=hI;have hl':=hl;unfold left_ at hl
 refine zB mix Tryz.func36 ?_;simp only [pwA,seval,-iQ0,wrap64 (n:=l-(xs.length:Int)) (by omega) (by omega)]
 refine iteI (fun h=>?_) fun h=>?_
 ·exact hk _ (.inl rfl)
 refine zD (fun m vs h'=>∃i:Nat,i≤xs.length∧m=xs.length-i∧∃r:Int,left_ r∧vs=[.fz w a xs.length rs,.int .i64 r,.int .i64 i]∧σ=h'∧∀x∈xs.take i,SzL x) xs.length ?_ ?_
 ·exact⟨0,by omega,by omega,_,(by unfold left_;omega),rfl,rfl,by simp⟩
 rintro m vs h' ⟨i,hi,rfl,r,hr',rfl,rfl,hall⟩
 simp only [pwA,seval,-iQ0];refine iteI (fun hlt=>?_) fun hge=>?_
 rotate_left
 ·exact hk _ (.inr ⟨hr',by omega,zA1 (by omega) hall⟩)
 obtain⟨w4,a4,rk,hrk,hrs⟩:=hr.rowL hlt;have hbi:=hb2 _ (List.getElem_mem hlt);simp only [pwA,seval,-iQ0,hlt,hrk];refine zBD ⟨_,_,_,rfl,hrs⟩ hbi.1 hbi.2 hr' fun r' h=>?_
 rcases h with rfl|⟨h1,h2⟩
 ·simp only [pwA,seval,-iQ0]
  exact hk _ (.inl rfl)
 ·have:¬r'<0:=by unfold left_ at h1;omega
  simp only [pwA,seval,-iQ0,this,wrapS hlt (by omega:xs.length≤4611686018427387904)]
  exact⟨_,by omega,i+1,by omega,rfl,_,h1,rfl,zAI hlt hall h2⟩
theorem zEB {v:PV} {xs:List Int} (hI:FI v xs) (hb:xs.length≤1048576) (hk:∀cap,full 1 cap xs.length→K (.sl σ.next 0 xs.length cap) (σ.new (pis xs))):zA Tryz.prog 40 [v] σ K:=by
 obtain⟨w,a,rfl⟩:=hI;refine zB mix Tryz.func40 ?_;simp only [pwA,seval,-iQ0,ZJ,mk8 (n:=xs.length) (by omega),mkL (n:=xs.length) (by omega)]
 refine zD (fun m vs h'=>∃i:Nat,i≤xs.length∧m=xs.length-i∧vs=[.fz w a xs.length (pis xs),.sl σ.next 0 xs.length (.known xs.length),.int .i64 i]∧h'=σ.new (pis (xs.take i++List.replicate (xs.length-i) 0))) xs.length ?_ ?_
 ·exact⟨0,by omega,by omega,rfl,by rw [List.take_zero,List.nil_append,Nat.sub_zero]⟩
 rintro m vs h' ⟨i,hi,rfl,rfl,rfl⟩
 simp only [pwA,seval,-iQ0];refine iteI (fun hlt=>?_) fun hge=>?_
 ·have hlen:i+1≤(xs.take i++List.replicate (xs.length-i) 0).length:=by simp;omega
  simp only [pwA,seval,-iQ0,hlt,gi hlt,zL,qK,hlen,wrapS hlt (by omega:xs.length≤4611686018427387904)]
  refine⟨_,by omega,i+1,by omega,rfl,rfl,?_⟩
  rw [qm (by omega),zHa xs 0 hlt]
 ·have hie:i=xs.length:=by omega
  subst hie;rw [List.take_length,Nat.sub_self,List.replicate_zero,List.append_nil];exact hk _ (.inr rfl)
theorem zEC {v:PV} {xs:List Int} (hI:FI v xs) (hb:xs.length≤1048576) (hk:∀v,FI v xs→K v σ):zA Tryz.prog 40 [v] σ K:=
 zA.fz (fun K'=>zEB hI hb) (zo _ _) fun o cap=>hk _ ⟨_,_,rfl⟩
theorem zCN {rows:List PV} {z r:PV} {n i:Nat} (hl:rows.length=i) (hi:i<n):(rows++List.replicate (n-i) z).take i++[r]++(rows++List.replicate (n-i) z).drop (i+1)=(rows++[r])++List.replicate (n-(i+1)) z:=by
 rw [List.take_append_of_le_length (by omega),List.take_of_length_le (by omega),List.drop_append,List.drop_eq_nil_of_le (by omega),List.nil_append,hl]
 congr 1
 obtain⟨k,hk⟩:∃k,n-i=k+1:=⟨n-i-1,by omega⟩
 rw [hk,show i+1-i=1 by omega,List.replicate_succ,List.drop_succ_cons,List.drop_zero]
 congr 1;omega
theorem QU {v:PV} {xs:List (List Int)} (hI:FII v xs) (sz:SzL xs) (hk:∀v,FII v xs→K v σ):zA Tryz.prog 14 [v] σ K:=by
 obtain⟨w,a,rs,rfl,hr⟩:=hI;have hb:=sz.l;refine zA.gh ?_;refine zB mix Tryz.func14 ?_;simp only [pwA,seval,-iQ0,mk24 (n:=xs.length) (by omega),mkL (n:=xs.length) (by omega)]
 refine zD (fun m vs h'=>∃i:Nat,i≤xs.length∧m=xs.length-i∧vs=[.fz w a xs.length rs,.sl σ.next 0 xs.length (.known xs.length),.int .i64 i]∧∃rows:List PV,rows.length=i∧All2 FI rows (xs.take i)∧h'=σ.new (rows++List.replicate (xs.length-i) (.fz true .nils 0 []))) xs.length ?_ ?_
 ·exact⟨0,by omega,by omega,rfl,[],rfl,by simpa using All2.nil _,by simp⟩
 rintro m vs h' ⟨i,hi,rfl,rfl,rows,hrl,hra,rfl⟩
 simp only [pwA,seval,-iQ0];refine iteI (fun hlt=>?_) fun hge=>?_
 ·obtain⟨w4,a4,hrk⟩:=hr.rowI hlt
  simp only [pwA,seval,-iQ0,hlt,hrk];refine zEC ⟨_,_,rfl⟩ (sz.r _ (List.getElem_mem hlt)) fun r hr'=>?_
  have hlen:i+1≤(rows++List.replicate (xs.length-i) (PV.fz true .nils 0 [])).length:=by simp;omega
  simp only [pwA,seval,-iQ0,hlt,hlen,hr'.cells,hr'.one,wrapS hlt (by omega:xs.length≤4611686018427387904)]
  refine⟨_,by omega,i+1,by omega,rfl,rfl,rows++[r],by simp [hrl],?_,?_⟩
  ·rw [List.take_succ_eq_append_getElem hlt];exact hra.snoc hr'
  ·rw [zCN hrl hlt]
 ·have hie:i=xs.length:=by omega
  subst hie;rw [List.take_length]at hra
  rw [Nat.sub_self,List.replicate_zero,List.append_nil];exact Gh.finF (zC σ _) (by simp only [pwA,seval,-iQ0]) (Nat.le_refl _) (hra.bI 0) (by simp [capOK]) fun o=>hk _ ⟨_,_,_,rfl,hra⟩
theorem zGt {v:PV} {xs:List (List (List Int))} (hI:FIII v xs) (sz:SzM xs) (hk:∀v,FIII v xs→K v σ):zA Tryz.prog 41 [v] σ K:=by
 obtain⟨w,a,rs,rfl,hr⟩:=hI;have hb:=sz.l;refine zA.gh ?_;refine zB mix Tryz.func41 ?_;simp only [pwA,seval,-iQ0,mk24 (n:=xs.length) (by omega),mkL (n:=xs.length) (by omega)]
 refine zD (fun m vs h'=>∃i:Nat,i≤xs.length∧m=xs.length-i∧vs=[.fz w a xs.length rs,.sl σ.next 0 xs.length (.known xs.length),.int .i64 i]∧∃rows:List PV,rows.length=i∧All2 FII rows (xs.take i)∧h'=σ.new (rows++List.replicate (xs.length-i) (.fz true .nils 0 []))) xs.length ?_ ?_
 ·exact⟨0,by omega,by omega,rfl,[],rfl,by simpa using All2.nil _,by simp⟩
 rintro m vs h' ⟨i,hi,rfl,rfl,rows,hrl,hra,rfl⟩
 simp only [pwA,seval,-iQ0];refine iteI (fun hlt=>?_) fun hge=>?_
 ·obtain⟨w4,a4,rk,hrk,hrs⟩:=hr.rowL hlt
  simp only [pwA,seval,-iQ0,hlt,hrk];refine QU ⟨_,_,_,rfl,hrs⟩ (sz.r _ (List.getElem_mem hlt)) fun r hr'=>?_
  have hlen:i+1≤(rows++List.replicate (xs.length-i) (PV.fz true .nils 0 [])).length:=by simp;omega
  simp only [pwA,seval,-iQ0,hlt,hlen,hr'.cells,hr'.one,wrapS hlt (by omega:xs.length≤4611686018427387904)]
  refine⟨_,by omega,i+1,by omega,rfl,rfl,rows++[r],by simp [hrl],?_,?_⟩
  ·rw [List.take_succ_eq_append_getElem hlt];exact hra.snoc hr'
  ·rw [zCN hrl hlt]
 ·have hie:i=xs.length:=by omega
  subst hie;rw [List.take_length]at hra
  rw [Nat.sub_self,List.replicate_zero,List.append_nil];exact Gh.finF (zC σ _) (by simp only [pwA,seval,-iQ0]) (Nat.le_refl _) (hra.bL 0) (by simp [capOK]) fun o=>hk _ ⟨_,_,_,rfl,hra⟩
theorem zEX {v v':PV} {xs ys:List Int} (hI:FI v xs) (hI':FI v' ys) (hb:xs.length≤4611686018427387904) (hk:K (.bool (decide (xs=ys))) σ):zA Tryz.prog 45 [v,v'] σ K:=by
 obtain⟨w,a,rfl⟩:=hI;obtain⟨w',a',rfl⟩:=hI';refine zB mix Tryz.func45 ?_;simp only [pwA,seval,-iQ0];refine iteI (fun hl=>?_) fun hl=>?_
 rotate_left
 ·exact pkf hk fun hv=>hl (by rw [hv])
 have hl:xs.length=ys.length:=by omega
 refine zD (fun m vs h'=>∃i:Nat,i≤xs.length∧m=xs.length-i∧vs=[.fz w a xs.length (pis xs),.fz w' a' ys.length (pis ys),.int .i64 i]∧σ=h'∧xs.take i=ys.take i) xs.length ?_ ?_
 ·exact⟨0,by omega,by omega,rfl,rfl,by simp⟩
 rintro m vs h' ⟨i,hi,rfl,rfl,rfl,hall⟩
 simp only [pwA,seval,-iQ0];refine iteI (fun hlt=>?_) fun hge=>?_
 ·have hlt2:i<ys.length:=by omega
  simp only [pwA,seval,-iQ0,hlt,hlt2,zL,gi hlt,gi hlt2];refine iteI (fun h0=>?_) fun hn=>?_
  ·simp only [pwA,seval,-iQ0,wrapS hlt hb]
   exact⟨_,by omega,i+1,by omega,rfl,rfl,zIb hl hlt hall h0⟩
  ·exact pkf hk fun hv=>hn (by subst hv;rfl)
 ·refine pkt hk ?_
  rwa [List.take_of_length_le (by omega),List.take_of_length_le (by omega)]at hall
theorem zFw {α:Type} {xs ys:List α} (hl:xs.length=ys.length) {i:Nat} (hi:i<xs.length) (h:xs.take i=ys.take i) (he:xs[i]=ys[i]'(by omega)):xs.take (i+1)=ys.take (i+1):=by
 rw [List.take_succ_eq_append_getElem hi,List.take_succ_eq_append_getElem (by omega:i<ys.length),h,he]
theorem zAK {v v':PV} {xs ys:List (List Int)} (hI:FII v xs) (hI':FII v' ys) (sz:SzL xs) (hk:∀t:Bool,(t=true↔xs=ys)→K (.bool t) σ):zA Tryz.prog 17 [v,v'] σ K:=by
 obtain⟨w,a,rs,rfl,hr⟩:=hI;obtain⟨w',a',rs',rfl,hr'⟩:=hI';have hb:=sz.l;have fl:∀{A:Prop},¬A→((false=true)↔A):=fun h=>⟨fun x=>(by cases x),fun x=>absurd x h⟩
 refine zB mix Tryz.func17 ?_;simp only [pwA,seval,-iQ0];refine iteI (fun hl=>?_) fun hl=>?_
 rotate_left
 ·exact hk _ (fl fun hv=>hl (by rw [hv]))
 have hl:xs.length=ys.length:=by omega
 refine zD (fun m vs h'=>∃i:Nat,i≤xs.length∧m=xs.length-i∧vs=[.fz w a xs.length rs,.fz w' a' ys.length rs',.int .i64 i]∧σ=h'∧xs.take i=ys.take i) xs.length ?_ ?_
 ·exact⟨0,by omega,by omega,rfl,rfl,by simp⟩
 rintro m vs h' ⟨i,hi,rfl,rfl,rfl,hall⟩
 simp only [pwA,seval,-iQ0];refine iteI (fun hlt=>?_) fun hge=>?_
 ·have hlt2:i<ys.length:=by omega
  obtain⟨w4,a4,h4⟩:=hr.rowI hlt;obtain⟨w5,a5,h5⟩:=hr'.rowI hlt2;simp only [pwA,seval,-iQ0,hlt,hlt2,h4,h5];refine zEX ⟨_,_,rfl⟩ ⟨_,_,rfl⟩ (by have:=sz.r _ (List.getElem_mem hlt);omega) ?_
  by_cases he:xs[i]=ys[i]
  ·simp only [pwA,seval,-iQ0,eq_true he,wrapS hlt (by omega:xs.length≤4611686018427387904)]
   exact⟨_,by omega,i+1,by omega,rfl,rfl,zFw hl hlt hall he⟩
  ·simp only [pwA,seval,-iQ0,he]
   exact hk _ (fl fun hv=>he (by subst hv;rfl))
 ·refine hk _ ⟨fun _=>?_,fun _=>rfl⟩
  rwa [List.take_of_length_le (by omega),List.take_of_length_le (by omega)]at hall
theorem zHH {v v':PV} {xs ys:List (List (List Int))} (hI:FIII v xs) (hI':FIII v' ys) (sz:SzM xs) (hk:∀t:Bool,(t=true↔xs=ys)→K (.bool t) σ):zA Tryz.prog 46 [v,v'] σ K:=by
 obtain⟨w,a,rs,rfl,hr⟩:=hI;obtain⟨w',a',rs',rfl,hr'⟩:=hI';have hb:=sz.l;have fl:∀{A:Prop},¬A→((false=true)↔A):=fun h=>⟨fun x=>(by cases x),fun x=>absurd x h⟩
 refine zB mix Tryz.func46 ?_;simp only [pwA,seval,-iQ0];refine iteI (fun hl=>?_) fun hl=>?_
 rotate_left
 ·exact hk _ (fl fun hv=>hl (by rw [hv]))
 have hl:xs.length=ys.length:=by omega
 refine zD (fun m vs h'=>∃i:Nat,i≤xs.length∧m=xs.length-i∧vs=[.fz w a xs.length rs,.fz w' a' ys.length rs',.int .i64 i]∧σ=h'∧xs.take i=ys.take i) xs.length ?_ ?_
 ·exact⟨0,by omega,by omega,rfl,rfl,by simp⟩
 rintro m vs h' ⟨i,hi,rfl,rfl,rfl,hall⟩
 simp only [pwA,seval,-iQ0];refine iteI (fun hlt=>?_) fun hge=>?_
 ·have hlt2:i<ys.length:=by omega
  obtain⟨w4,a4,r4,h4,g4⟩:=hr.rowL hlt;obtain⟨w5,a5,r5,h5,g5⟩:=hr'.rowL hlt2;simp only [pwA,seval,-iQ0,hlt,hlt2,h4,h5];refine zAK ⟨_,_,_,rfl,g4⟩ ⟨_,_,_,rfl,g5⟩ (sz.r _ (List.getElem_mem hlt)) fun t ht=>?_
  cases t with
  | true=>
   simp only [pwA,seval,-iQ0,wrapS hlt (by omega:xs.length≤4611686018427387904)]
   exact⟨_,by omega,i+1,by omega,rfl,rfl,zFw hl hlt hall (ht.1 rfl)⟩
  | false=>
   simp only [pwA,seval,-iQ0];exact hk _ (fl fun hv=>by subst hv;cases ht.2 rfl)
 ·refine hk _ ⟨fun _=>?_,fun _=>rfl⟩
  rwa [List.take_of_length_le (by omega),List.take_of_length_le (by omega)]at hall
end Go.Proofs
namespace Go.Grp
open Go.Ab Go.Lie
structure Mon {α:Type} (S:α→Prop) (m:α→α→α) (e:α):Prop where
 one:S e
 cl:∀{a b},S a→S b→S (m a b)
 «as»:∀{a b c},S a→S b→S c→m (m a b) c=m a (m b c)
 l1:∀{a},S a→m e a=a
 r1:∀{a},S a→m a e=a
section
variable {α:Type} {S:α→Prop} {m:α→α→α} {e:α}
def pw (m:α→α→α) (e x:α):Nat→α
 | 0=>e
 | k+1=>m (pw m e x k) x
def rep (m:α→α→α) (x:α):Nat→α→α
 | 0,a=>a
 | k+1,a=>rep m x k (m a x)
def ph (m:α→α→α) (e:α) (h:Nat→α) (x:Nat→Nat):Nat→Nat→α
 | t,0=>e
 | t,d+1=>m (pw m e (h t) (x t)) (ph m e h x (t+1) d)
def fo (m:α→α→α) (h:Nat→α) (x:Nat→Nat):Nat→Nat→α→α
 | t,0,a=>a
 | t,d+1,a=>fo m h x (t+1) d (rep m (h t) (x t) a)
theorem Mon.pw (M:Mon S m e) {x:α} (hx:S x):∀k,S (pw m e x k)
 | 0=>M.one
 | k+1=>M.cl (M.pw hx k) hx
theorem Mon.pw_add (M:Mon S m e) {x:α} (hx:S x) (a:Nat):∀b,Grp.pw m e x (a+b)=m (Grp.pw m e x a) (Grp.pw m e x b)
 | 0=>(M.r1 (M.pw hx a)).symm
 | b+1=>by
  show m (Grp.pw m e x (a+b)) x=m _ (m (Grp.pw m e x b) x);rw [M.pw_add hx a b,M.as (M.pw hx a) (M.pw hx b) hx]
theorem Mon.pw_one (M:Mon S m e) {x:α} (hx:S x):Grp.pw m e x 1=x:=M.l1 hx
theorem Mon.pw_comm (M:Mon S m e) {x:α} (hx:S x) (a:Nat):m (Grp.pw m e x a) x=m x (Grp.pw m e x a):=by
 have h1:=M.pw_add hx a 1;have h2:=M.pw_add hx 1 a;rw [M.pw_one hx]at h1 h2
 rw [←h1,←h2,Nat.add_comm]
theorem Mon.rep_eq (M:Mon S m e) {x:α} (hx:S x):∀(k:Nat) {a:α},S a→rep m x k a=m a (Grp.pw m e x k)
 | 0,a,ha=>(M.r1 ha).symm
 | k+1,a,ha=>by
  show rep m x k (m a x)=m a (m (Grp.pw m e x k) x);rw [M.rep_eq hx k (M.cl ha hx),M.as ha hx (M.pw hx k),M.pw_comm hx k]
theorem Mon.ph (M:Mon S m e) {h:Nat→α} {x:Nat→Nat}:∀{d t:Nat},(∀j,t≤j→j<t+d→S (h j))→S (ph m e h x t d)
 | 0,t,_=>M.one
 | d+1,t,hh=>M.cl (M.pw (hh t (Nat.le_refl _) (by omega)) _) (M.ph fun j h1 h2=>hh j (by omega) (by omega))
theorem Mon.fo_eq (M:Mon S m e) {h:Nat→α} {x:Nat→Nat}:∀{d t:Nat} {a:α},(∀j,t≤j→j<t+d→S (h j))→S a→fo m h x t d a=m a (Grp.ph m e h x t d)
 | 0,t,a,_,ha=>(M.r1 ha).symm
 | d+1,t,a,hh,ha=>by
  have ht:=hh t (Nat.le_refl _) (by omega)
  show fo m h x (t+1) d (rep m (h t) (x t) a)=m a (m _ _);rw [M.rep_eq ht _ ha,M.fo_eq (fun j h1 h2=>hh j (by omega) (by omega)) (M.cl ha (M.pw ht _)),M.as ha (M.pw ht _) (M.ph fun j h1 h2=>hh j (by omega) (by omega))]
theorem zCS {h h':Nat→α} {x x':Nat→Nat}:∀{d t:Nat},(∀j,t≤j→j<t+d→h j=h' j∧x j=x' j)→Grp.ph m e h x t d=Grp.ph m e h' x' t d
 | 0,t,_=>rfl
 | d+1,t,hh=>by
  simp only [Grp.ph];rw [(hh t (Nat.le_refl _) (by omega)).1,(hh t (Nat.le_refl _) (by omega)).2,zCS fun j h1 h2=>hh j (by omega) (by omega)]
theorem Mon.past_pw (M:Mon S m e) {g u v:α} (hg:S g) (hu:S u) (hv:S v) (h:m u g=m g v):∀k,m (Grp.pw m e u k) g=m g (Grp.pw m e v k)
 | 0=>by rw [Grp.pw,Grp.pw,M.l1 hg,M.r1 hg]
 | k+1=>by
  show m (m (Grp.pw m e u k) u) g=m g (m (Grp.pw m e v k) v);rw [M.as (M.pw hu k) hu hg,h,←M.as (M.pw hu k) hg hv,M.past_pw hg hu hv h k,M.as hg (M.pw hv k) hv]
theorem Mon.past_ph (M:Mon S m e) {g:α} (hg:S g) {h h':Nat→α} {x:Nat→Nat}:∀{d t:Nat},(∀j,t≤j→j<t+d→S (h j)∧S (h' j)∧m (h j) g=m g (h' j))→m (Grp.ph m e h x t d) g=m g (Grp.ph m e h' x t d)
 | 0,t,_=>by rw [Grp.ph,Grp.ph,M.l1 hg,M.r1 hg]
 | d+1,t,hh=>by
  obtain⟨h1,h2,h3⟩:=hh t (Nat.le_refl _) (by omega)
  have i1:=M.ph (x:=x) (fun j a b=>(hh j (show t≤j by omega) (by omega)).1) (d:=d) (t:=t+1)
  have i2:=M.ph (x:=x) (fun j a b=>(hh j (show t≤j by omega) (by omega)).2.1) (d:=d) (t:=t+1)
  show m (m _ _) g=m g (m _ _);rw [M.as (M.pw h1 _) i1 hg,M.past_ph hg fun j a b=>hh j (by omega) (by omega),←M.as (M.pw h1 _) hg i2,M.past_pw hg h1 h2 h3,M.as hg (M.pw h2 _) i2]
end
variable {O:List Int} {P:List (List Int)} {C:List (List (List Int))}
structure TT (O:List Int) (t:Nat) (x:List Int):Prop where
 len:x.length=O.length
 bd:∀j,j<O.length→0≤at_ x j∧at_ x j<at_ O j
 zero:∀j,j<t→at_ x j=0
abbrev nx (x:List Int) (j:Nat):Nat:=(at_ x j).toNat
abbrev cvec (C:List (List (List Int))) (i j:Nat):List Int:=(C.getD i []).getD (j-i-1) []
abbrev pvec (P:List (List Int)) (i:Nat):List Int:=P.getD i []
abbrev zv (O:List Int):List Int:=List.replicate O.length 0
structure Shp (O:List Int) (P:List (List Int)) (C:List (List (List Int))):Prop where
 le:O.length≤6
 pr:∀j,j<O.length→2≤at_ O j∧at_ O j≤7
 pl:P.length=O.length
 cl:C.length=O.length
 pw:∀i,i<O.length→TT O (i+1) (pvec P i)
 row:∀i,i<O.length→(C.getD i []).length=O.length-1-i
 cj:∀i j,i<j→j<O.length→TT O (i+1) (cvec C i j)
def img (O:List Int) (C:List (List (List Int))) (m:List Int→List Int→List Int) (i:Nat) (x:List Int):List Int:=fo m (cvec C i) (nx x) (i+1) (O.length-1-i) (zv O)
def iter {α:Type} (f:α→α):Nat→α→α
 | 0,a=>a
 | k+1,a=>iter f k (f a)
theorem zEw {α:Type} (f:α→α) (a b:Nat) (x:α):iter f (a+b) x=iter f b (iter f a x):=by
 induction a generalizing x with
 | zero=>rw [Nat.zero_add];rfl
 | succ a ih=>rw [show a+1+b=(a+b)+1 by omega];exact ih (f x)
def mu (O:List Int) (P:List (List Int)) (C:List (List (List Int))):Nat→List Int→List Int→List Int
 | 0,_,_=>zv O
 | d+1,a,b=>
  let i:=O.length-(d+1)
  let r:=mu O P C d (iter (img O C (mu O P C d) i) (nx b i) (a.set i 0)) (b.set i 0)
  if at_ a i+at_ b i ≥ at_ O i then(mu O P C d (pvec P i) r).set i (at_ a i+at_ b i-at_ O i)else r.set i (at_ a i+at_ b i)
theorem TT.zv (t:Nat) (h:∀j,j<O.length→0<at_ O j):TT O t (zv O):=⟨by simp,fun j hj=>by rw [Zu];exact⟨by omega,h j hj⟩,fun j _=>Zu _ j⟩
theorem TT.mono {t t':Nat} {x:List Int} (h:TT O t x) (ht:t'≤t):TT O t' x:=⟨h.len,h.bd,fun j hj=>h.zero j (by omega)⟩
theorem TT.set {t i:Nat} {x:List Int} (h:TT O t x) (hi:i<O.length) (hti:t≤i) {c:Int} (hc:0≤c∧c<at_ O i):TT O t (x.set i c):=by
 have hl:i<x.length:=by rw [h.len];exact hi
 refine⟨by rw [List.length_set,h.len],fun j hj=>?_,fun j hj=>?_⟩
 ·rw [at_set hl];split
  ·rename_i e;subst e;exact hc
  ·exact h.bd j hj
 ·rw [at_set hl,if_neg (by omega)];exact h.zero j hj
theorem TT.set0 {i:Nat} {x:List Int} (h:TT O i x) (hi:i<O.length) (hO:0<at_ O i):TT O (i+1) (x.set i 0):=by
 have hl:i<x.length:=by rw [h.len];exact hi
 have h1:=h.set hi (Nat.le_refl _) (c:=0) ⟨by omega,hO⟩
 refine⟨h1.len,h1.bd,fun j hj=>?_⟩
 rw [at_set hl];split
 ·rfl
 ·exact h.zero j (by omega)
theorem TT.ext {t:Nat} {x y:List Int} (h:TT O t x) (g:TT O t y) (he:∀j,t≤j→j<O.length→at_ x j=at_ y j):x=y:=by
 refine zCA (by rw [h.len,g.len]) fun j hj=>?_
 rcases Nat.lt_or_ge j t with e|e
 ·rw [h.zero j e,g.zero j e]
 ·exact he j e (by rw [←h.len];exact hj)
theorem Shp.pos (s:Shp O P C) {j:Nat} (hj:j<O.length):0<at_ O j:=by have:=(s.pr j hj).1;omega
theorem Shp.zv (s:Shp O P C) (t:Nat):TT O t (zv O):=TT.zv t fun j hj=>s.pos hj
theorem zLu {α:Type} {S:α→Prop} {m:α→α→α} {x:α} (h:∀a,S a→S (m a x)):∀(k:Nat) {a:α},S a→S (rep m x k a)
 | 0,a,ha=>ha
 | k+1,a,ha=>zLu h k (h a ha)
theorem fo_in {α:Type} {S:α→Prop} {m:α→α→α} {h:Nat→α} {x:Nat→Nat}:∀{d t:Nat} {a:α},(∀j,t≤j→j<t+d→∀a,S a→S (m a (h j)))→S a→S (fo m h x t d a)
 | 0,t,a,_,ha=>ha
 | d+1,t,a,hh,ha=>by
  show S (fo m h x (t+1) d (rep m (h t) (x t) a));exact fo_in (fun j h1 h2=>hh j (by omega) (by omega)) (zLu (hh t (Nat.le_refl _) (by omega)) (x t) ha)
theorem zB7 {α:Type} {S:α→Prop} {f:α→α} (h:∀a,S a→S (f a)):∀(k:Nat) {a:α},S a→S (iter f k a)
 | 0,a,ha=>ha
 | k+1,a,ha=>zB7 h k (h a ha)
theorem zAH (s:Shp O P C) {m:List Int→List Int→List Int} {i:Nat} (hm:∀a b,TT O (i+1) a→TT O (i+1) b→TT O (i+1) (m a b)) (x:List Int):TT O (i+1) (img O C m i x):=
 fo_in (fun j h1 h2 a ha=>hm a _ ha (s.cj i j (by omega) (by omega))) (s.zv _)
theorem mu_tt (s:Shp O P C):∀{d:Nat} {a b:List Int},d≤O.length→TT O (O.length-d) a→TT O (O.length-d) b→TT O (O.length-d) (mu O P C d a b)
 | 0,a,b,_,ha,hb=>s.zv _
 | d+1,a,b,hd,ha,hb=>by
  have hi:O.length-(d+1)<O.length:=by omega
  have e:O.length-d=O.length-(d+1)+1:=by omega
  have hm:∀a b,TT O (O.length-(d+1)+1) a→TT O (O.length-(d+1)+1) b→TT O (O.length-(d+1)+1) (mu O P C d a b):=by
   rw [←e];exact fun a b h1 h2=>mu_tt s (by omega) h1 h2
  have hpos:=s.pos hi;have ba:=ha.bd _ hi;have bb:=hb.bd _ hi;have ir:=hm _ _ (zB7 (fun x _=>zAH s hm x) (nx b (O.length-(d+1))) (ha.set0 hi hpos)) (hb.set0 hi hpos)
  simp only [mu]
  split
  ·exact((hm _ _ (s.pw _ hi) ir).mono (Nat.le_succ _)).set hi (Nat.le_refl _) ⟨by omega,by omega⟩
  ·exact(ir.mono (Nat.le_succ _)).set hi (Nat.le_refl _) ⟨by omega,by omega⟩
end Go.Grp
namespace Go.Grp
open Go.Ab Go.Lie
variable {O:List Int} {P:List (List Int)} {C:List (List (List Int))} {α:Type} {S:α→Prop} {m:α→α→α} {e:α} {h:Nat→α} {t0:Nat}
abbrev Ph (O:List Int) (m:α→α→α) (e:α) (h:Nat→α) (d:Nat) (x:List Int):α:=ph m e h (nx x) (O.length-d) d
structure Rel (O:List Int) (P:List (List Int)) (C:List (List (List Int))) (S:α→Prop) (m:α→α→α) (e:α) (h:Nat→α) (t0:Nat):Prop where
 mem:∀j,t0≤j→j<O.length→S (h j)
 pow:∀j,t0≤j→j<O.length→pw m e (h j) (nx O j)=Ph O m e h (O.length-(j+1)) (pvec P j)
 cj:∀j k,t0≤j→j<k→k<O.length→m (h k) (h j)=m (h j) (Ph O m e h (O.length-(j+1)) (cvec C j k))
theorem Ph_in (M:Mon S m e) (r:Rel O P C S m e h t0) {d:Nat} (hd:d≤O.length-t0) (x:List Int):S (Ph O m e h d x):=M.ph fun j h1 h2=>r.mem j (by omega) (by omega)
theorem zF5 {d i:Nat} (hi:i<O.length-d) {x:List Int} (hx:x.length=O.length) (c:Int):Ph O m e h d (x.set i c)=Ph O m e h d x:=
 zCS fun j h1 h2=>⟨rfl,by show(at_ _ j).toNat=(at_ x j).toNat;rw [at_set (by omega),if_neg (by omega)]⟩
theorem zKN {d:Nat} (hd:d<O.length) (x:List Int):Ph O m e h (d+1) x=m (pw m e (h (O.length-(d+1))) (nx x (O.length-(d+1)))) (Ph O m e h d x):=by
 show ph m e h (nx x) _ (d+1)=_;rw [ph,show O.length-(d+1)+1=O.length-d by omega]
theorem Ph_zv (M:Mon S m e):∀d:Nat,Ph O m e h d (zv O)=e:=by
 intro d
 have:∀(d t:Nat),ph m e h (nx (zv O)) t d=e:=by
  intro d
  induction d with
  | zero=>intro t;rfl
  | succ d ih=>
   intro t;have h0:nx (zv O) t=0:=by show(at_ (zv O) t).toNat=0;rw [Zu];rfl
   rw [ph,ih,h0];exact M.l1 M.one
 exact this d _
theorem Ph_fo (M:Mon S m e) {T:List Int→Prop} {mm:List Int→List Int→List Int} {F:List Int→α} (hF:∀a b,T a→T b→T (mm a b)∧F (mm a b)=m (F a) (F b)) {c:Nat→List Int} {x:Nat→Nat}:
  ∀{d t:Nat} {a:List Int},(∀j,t≤j→j<t+d→T (c j))→T a→T (fo mm c x t d a)∧F (fo mm c x t d a)=fo m (fun j=>F (c j)) x t d (F a)
 | 0,t,a,_,ha=>⟨ha,rfl⟩
 | d+1,t,a,hc,ha=>by
  have hr:∀(k:Nat) {a:List Int},T a→T (rep mm (c t) k a)∧F (rep mm (c t) k a)=rep m (F (c t)) k (F a):=by
   intro k
   induction k with
   | zero=>exact fun ha=>⟨ha,rfl⟩
   | succ k ih=>
    intro a ha;obtain⟨h1,h2⟩:=hF a (c t) ha (hc t (Nat.le_refl _) (by omega))
    obtain⟨h3,h4⟩:=ih h1;exact⟨h3,by show F (rep mm (c t) k (mm a (c t)))=rep m (F (c t)) k (m (F a) (F (c t)));rw [h4,h2]⟩
  obtain⟨h1,h2⟩:=hr (x t) ha;obtain⟨h3,h4⟩:=Ph_fo M hF (c:=c) (x:=x) (d:=d) (t:=t+1) (fun j h1 h2=>hc j (by omega) (by omega)) h1
  refine⟨h3,?_⟩;show F (fo mm c x (t+1) d _)=fo m _ x (t+1) d (rep m (F (c t)) (x t) (F a));rw [h4,h2]
theorem dyck (s:Shp O P C) (M:Mon S m e) (r:Rel O P C S m e h t0):∀{d:Nat},d≤O.length-t0→∀{a b:List Int},TT O (O.length-d) a→TT O (O.length-d) b→Ph O m e h d (mu O P C d a b)=m (Ph O m e h d a) (Ph O m e h d b)
 | 0,_,a,b,_,_=>(M.l1 M.one).symm
 | d+1,hd,a,b,ha,hb=>by
  have hi:O.length-(d+1)<O.length:=by omega
  have hit:t0≤O.length-(d+1):=by omega
  have e1:O.length-d=O.length-(d+1)+1:=by omega
  have e2:O.length-1-(O.length-(d+1))=d:=by omega
  have e3:O.length-(O.length-(d+1)+1)=d:=by omega
  have hpos:=s.pos hi;have ba:=ha.bd _ hi;have bb:=hb.bd _ hi;have hS:=r.mem _ hit hi;have ih:∀{a b:List Int},TT O (O.length-d) a→TT O (O.length-d) b→Ph O m e h d (mu O P C d a b)=m (Ph O m e h d a) (Ph O m e h d b):=fun h1 h2=>dyck s M r (by omega) h1 h2
  have cl:∀{a b:List Int},TT O (O.length-d) a→TT O (O.length-d) b→TT O (O.length-d) (mu O P C d a b):=fun h1 h2=>mu_tt s (by omega) h1 h2
  have pin:∀x,S (Ph O m e h d x):=fun x=>Ph_in M r (by omega) x
  generalize hie:O.length-(d+1)=i at *
  have him:∀{x:List Int},TT O (O.length-d) x→TT O (O.length-d) (img O C (mu O P C d) i x)∧m (Ph O m e h d x) (h i)=m (h i) (Ph O m e h d (img O C (mu O P C d) i x)):=by
   intro x hx;have hc:∀j,i+1≤j→j<i+1+d→TT O (O.length-d) (cvec C i j):=fun j h1 h2=>by rw [e1];exact s.cj i j (by omega) (by omega)
   have hzz:TT O (O.length-d) (zv O):=s.zv _;obtain⟨f1,f2⟩:=Ph_fo M (T:=TT O (O.length-d)) (mm:=mu O P C d) (F:=Ph O m e h d) (fun a b h1 h2=>⟨cl h1 h2,ih h1 h2⟩) (c:=cvec C i) (x:=nx x) hc hzz
   have eim:img O C (mu O P C d) i x=fo (mu O P C d) (cvec C i) (nx x) (i+1) d (zv O):=by rw [img,e2]
   rw [eim];refine⟨f1,?_⟩;rw [f2,Ph_zv M,M.fo_eq (fun j _ _=>pin _) M.one,M.l1 (M.ph fun j _ _=>pin _)]
   show m (ph m e h (nx x) (O.length-d) d) (h i)=_;rw [e1];refine M.past_ph hS fun j h1 h2=>⟨r.mem j (by omega) (by omega),pin _,?_⟩
   have:=r.cj i j hit (by omega) (by omega)
   rw [e3]at this
   exact this
  have hit':∀(k:Nat) {x:List Int},TT O (O.length-d) x→TT O (O.length-d) (iter (img O C (mu O P C d) i) k x)∧m (Ph O m e h d x) (pw m e (h i) k)=m (pw m e (h i) k) (Ph O m e h d (iter (img O C (mu O P C d) i) k x)):=by
   intro k
   induction k with
   | zero=>exact fun {x} hx=>⟨hx,by show m _ e=m e _;rw [M.r1 (pin x)];exact(M.l1 (pin x)).symm⟩
   | succ k ik=>
    intro x hx;obtain⟨g1,g2⟩:=him hx;obtain⟨g3,g4⟩:=ik g1;refine⟨g3,?_⟩;show m _ (m (pw m e (h i) k) (h i))=m (m (pw m e (h i) k) (h i)) (Ph O m e h d (iter _ k (img O C (mu O P C d) i x)));rw [M.pw_comm hS,←M.as (pin _) hS (M.pw hS k),g2,M.as hS (pin _) (M.pw hS k),g4,←M.as hS (M.pw hS k) (pin _)]
  have ha0:TT O (O.length-d) (a.set i 0):=by rw [e1];exact ha.set0 hi hpos
  have hb0:TT O (O.length-d) (b.set i 0):=by rw [e1];exact hb.set0 hi hpos
  obtain⟨k1,k2⟩:=hit' (nx b i) ha0;have il:i<O.length-d:=by omega
  rw [zF5 il ha.len]at k2
  have er:=ih k1 hb0;rw [zF5 il hb.len]at er
  have ct:=cl k1 hb0;have psucc:∀x,Ph O m e h (d+1) x=m (pw m e (h i) (nx x i)) (Ph O m e h d x):=fun x=>by rw [zKN (by omega),hie]
  rw [psucc a,psucc b,psucc];generalize hL:iter (img O C (mu O P C d) i) (nx b i) (a.set i 0)=L at *
  have emu:mu O P C (d+1) a b=if at_ a i+at_ b i ≥ at_ O i then(mu O P C d (pvec P i) (mu O P C d L (b.set i 0))).set i (at_ a i+at_ b i-at_ O i)else(mu O P C d L (b.set i 0)).set i (at_ a i+at_ b i):=by
   simp only [mu,hie,hL]
  have rhs:m (m (pw m e (h i) (nx a i)) (Ph O m e h d a)) (m (pw m e (h i) (nx b i)) (Ph O m e h d b))=m (pw m e (h i) (nx a i+nx b i)) (Ph O m e h d (mu O P C d L (b.set i 0))):=by
   rw [er,M.pw_add hS,M.as (M.pw hS _) (pin _) (M.cl (M.pw hS _) (pin _)),←M.as (pin _) (M.pw hS _) (pin _),k2,M.as (M.pw hS _) (pin _) (pin _),←M.as (M.pw hS _) (M.pw hS _) (M.cl (pin _) (pin _))]
  rw [rhs,emu];have hn:(at_ a i+at_ b i).toNat=nx a i+nx b i:=by show _=(at_ a i).toNat+(at_ b i).toNat;omega
  have hat:∀{x:List Int} (c:Int),TT O (O.length-d) x→nx (x.set i c) i=c.toNat:=fun {x} c hx=>by show(at_ _ i).toNat=_;rw [at_set (by rw [hx.len];exact hi),if_pos rfl]
  split
  ·rename_i hge
   have hp:TT O (O.length-d) (pvec P i):=by rw [e1];exact s.pw i hi
   have cp:=cl hp ct;rw [hat _ cp,zF5 il cp.len,ih hp ct];have rp:=r.pow i hit hi;rw [e3]at rp
   rw [←rp,←M.as (M.pw hS _) (M.pw hS _) (pin _),←M.pw_add hS]
   congr 2
   show(at_ a i+at_ b i-at_ O i).toNat+(at_ O i).toNat=(at_ a i).toNat+(at_ b i).toNat
   omega
  ·rw [hat _ ct,zF5 il ct.len,hn]
end Go.Grp
namespace Go.Grp
open Go.Ab Go.Lie
variable {O:List Int} {P:List (List Int)} {C:List (List (List Int))} {α:Type} {S:α→Prop} {m:α→α→α} {e:α} {h:Nat→α}
structure Gp {α:Type} (S:α→Prop) (m:α→α→α) (e:α):Prop extends Mon S m e where
 inv:∀{a},S a→∃b,S b∧m a b=e∧m b a=e
theorem Gp.cancel (G:Gp S m e) {a b c:α} (ha:S a) (hb:S b) (hc:S c) (h:m a b=m a c):b=c:=by
 obtain⟨i,hi,_,h1⟩:=G.inv ha
 have:=congrArg (m i) h
 rwa [←G.as hi ha hb,←G.as hi ha hc,h1,G.l1 hb,G.l1 hc]at this
theorem Gp.of_right (M:Mon S m e) (hr:∀{a},S a→∃b,S b∧m a b=e):Gp S m e:=by
 refine⟨M,fun {a} ha=>?_⟩
 obtain⟨b,hb,h1⟩:=hr ha;obtain⟨c,hc,h2⟩:=hr hb;refine⟨b,hb,h1,?_⟩
 have:a=c:=by rw [←M.r1 ha,←h2,←M.as ha hb hc,h1,M.l1 hc]
 rw [this];exact h2
theorem Mon.pw_ind (M:Mon S m e) {Q:α→Prop} (h1:Q e) (hm:∀a b,S a→S b→Q a→Q b→Q (m a b)) {x:α} (hx:S x) (hq:Q x):∀k,Q (Grp.pw m e x k)
 | 0=>h1
 | k+1=>hm _ _ (M.pw hx k) hx (M.pw_ind h1 hm hx hq k) hq
theorem Mon.ph_ind (M:Mon S m e) {Q:α→Prop} (h1:Q e) (hm:∀a b,S a→S b→Q a→Q b→Q (m a b)) {h:Nat→α} {x:Nat→Nat}:∀{d t:Nat},(∀j,t≤j→j<t+d→S (h j)∧Q (h j))→Q (Grp.ph m e h x t d)
 | 0,t,_=>h1
 | d+1,t,hh=>by
  obtain⟨g1,g2⟩:=hh t (Nat.le_refl _) (by omega)
  exact hm _ _ (M.pw g1 _) (M.ph fun j a b=>(hh j (by omega) (by omega)).1) (M.pw_ind h1 hm g1 g2 _) (M.ph_ind h1 hm fun j a b=>hh j (by omega) (by omega))
theorem Mon.ph_skip (M:Mon S m e) {h:Nat→α} {x:Nat→Nat} {d:Nat}:∀{k t:Nat},(∀j,t≤j→j<t+k→x j=0)→(∀j,t+k≤j→j<t+k+d→S (h j))→Grp.ph m e h x t (k+d)=Grp.ph m e h x (t+k) d
 | 0,t,_,_=>by rw [Nat.zero_add,Nat.add_zero]
 | k+1,t,h0,hs=>by
  have:=M.ph_skip (h:=h) (x:=x) (d:=d) (k:=k) (t:=t+1) (fun j a b=>h0 j (by omega) (by omega)) (fun j a b=>hs j (by omega) (by omega))
  rw [show k+1+d=(k+d)+1 by omega,Grp.ph,h0 t (Nat.le_refl _) (by omega),this,show t+1+k=t+(k+1) by omega]
  exact M.l1 (M.ph fun j a b=>hs j (by omega) (by omega))
abbrev unit (O:List Int) (j:Nat):List Int:=(zv O).set j 1
theorem Shp.unit (s:Shp O P C) {t j:Nat} (hj:j<O.length) (ht:t≤j):TT O t (unit O j):=(s.zv t).set hj ht ⟨by omega,by have:=(s.pr j hj).1;omega⟩
structure Lv (O:List Int) (P:List (List Int)) (C:List (List (List Int))) (i:Nat):Prop where
 pow:∀j,i<j→j<O.length→pw (mu O P C (O.length-1-i)) (zv O) (cvec C i j) (nx O j)=img O C (mu O P C (O.length-1-i)) i (pvec P j)
 cj:∀j k,i<j→j<k→k<O.length→mu O P C (O.length-1-i) (cvec C i k) (cvec C i j)=mu O P C (O.length-1-i) (cvec C i j) (img O C (mu O P C (O.length-1-i)) i (cvec C j k))
 fix:img O C (mu O P C (O.length-1-i)) i (pvec P i)=pvec P i
 inn:∀j,i<j→j<O.length→mu O P C (O.length-1-i) (pvec P i) (iter (img O C (mu O P C (O.length-1-i)) i) (nx O i) (unit O j))=mu O P C (O.length-1-i) (unit O j) (pvec P i)
structure Beh (O:List Int) (P:List (List Int)) (C:List (List (List Int))) (d:Nat):Prop where
 le:d≤O.length
 gp:Gp (TT O (O.length-d)) (mu O P C d) (zv O)
 nf:∀{x},TT O (O.length-d) x→Ph O (mu O P C d) (zv O) (unit O) d x=x
theorem ZA {x:List Int} {i:Nat} (h:at_ x i=0) (hi:i<x.length):x.set i 0=x:=by
 refine zCA (by simp) fun j hj=>?_
 rw [at_set hi];split
 ·rename_i e;subst e;exact h.symm
 ·rfl
theorem zCz (x:List Int) (i:Nat) (a b:Int):(x.set i a).set i b=x.set i b:=List.set_set ..
theorem zLn {x:List Int} {i:Nat} (hi:i<x.length):(x.set i 0).set i (at_ x i)=x:=by
 rw [zCz];refine zCA (by simp) fun j hj=>?_
 rw [at_set hi];split
 ·rename_i e;subst e;rfl
 ·rfl
section
variable {d i:Nat}
abbrev al (O:List Int) (P:List (List Int)) (C:List (List (List Int))) (d i:Nat):List Int→List Int:=img O C (mu O P C d) i
theorem al_ph (s:Shp O P C) (B:Beh O P C d) (hi:O.length-d=i+1) (x:List Int):al O P C d i x=Ph O (mu O P C d) (zv O) (cvec C i) d x:=by
 have hle:=B.le;have hs:∀j,i+1≤j→j<i+1+d→TT O (O.length-d) (cvec C i j):=fun j h1 h2=>by rw [hi];exact s.cj i j (by omega) (by omega)
 have e:O.length-1-i=d:=by omega
 show fo _ _ _ _ _ _=ph _ _ _ _ _ _;rw [e,B.gp.fo_eq hs B.gp.one,B.gp.l1 (B.gp.ph hs),hi]
theorem al_zv (s:Shp O P C) (B:Beh O P C d) (hi:O.length-d=i+1):al O P C d i (zv O)=zv O:=by rw [al_ph s B hi,Ph_zv B.gp.toMon]
theorem zRg (s:Shp O P C) (B:Beh O P C d) (hi:O.length-d=i+1) (L:Lv O P C i):Rel O P C (TT O (O.length-d)) (mu O P C d) (zv O) (cvec C i) (i+1):=by
 have hle:=B.le;have e:O.length-1-i=d:=by omega
 have hs:∀j,i+1≤j→j<O.length→TT O (O.length-d) (cvec C i j):=fun j h1 h2=>by rw [hi];exact s.cj i j (by omega) h2
 have sk:∀{j:Nat} {x:List Int},i<j→j<O.length→TT O (j+1) x→al O P C d i x=Ph O (mu O P C d) (zv O) (cvec C i) (O.length-(j+1)) x:=fun {j x} h1 h2 hx=>by
  rw [al_ph s B hi];show ph _ _ _ _ _ _=ph _ _ _ _ _ _
  have:=B.gp.toMon.ph_skip (h:=cvec C i) (x:=nx x) (d:=O.length-(j+1)) (k:=j-i) (t:=i+1) (fun t a b=>by show(at_ x t).toNat=0;rw [hx.zero t (by omega)];rfl) (fun t a b=>hs t (by omega) (by omega))
  rw [show j-i+(O.length-(j+1))=d by omega,show i+1+(j-i)=O.length-(O.length-(j+1)) by omega]at this
  rw [hi];exact this
 refine⟨hs,fun j h1 h2=>?_,fun j k h1 h2 h3=>?_⟩
 ·have:=L.pow j (by omega) h2
  rw [e]at this
  rw [this];exact sk (by omega) h2 (s.pw j h2)
 ·have:=L.cj j k (by omega) h2 h3
  rw [e]at this
  rw [this];congr 1;exact sk (by omega) (by omega) (s.cj j k h2 h3)
theorem al_in (s:Shp O P C) (B:Beh O P C d) (hi:O.length-d=i+1) (x:List Int):TT O (O.length-d) (al O P C d i x):=by
 rw [hi];exact zAH s (by rw [←hi];exact fun a b h1 h2=>B.gp.cl h1 h2) x
theorem zR3 (s:Shp O P C) (B:Beh O P C d) (hi:O.length-d=i+1) (L:Lv O P C i) {a b:List Int} (ha:TT O (O.length-d) a) (hb:TT O (O.length-d) b):al O P C d i (mu O P C d a b)=mu O P C d (al O P C d i a) (al O P C d i b):=by
 rw [al_ph s B hi,al_ph s B hi,al_ph s B hi];exact dyck s B.gp.toMon (zRg s B hi L) (by have:=B.le;omega) ha hb
theorem it_in (s:Shp O P C) (B:Beh O P C d) (hi:O.length-d=i+1) (k:Nat) {x:List Int} (hx:TT O (O.length-d) x):TT O (O.length-d) (iter (al O P C d i) k x):=zB7 (fun a _=>al_in s B hi a) k hx
theorem zIO (s:Shp O P C) (B:Beh O P C d) (hi:O.length-d=i+1) (L:Lv O P C i):∀(k:Nat) {a b:List Int},TT O (O.length-d) a→TT O (O.length-d) b→iter (al O P C d i) k (mu O P C d a b)=mu O P C d (iter (al O P C d i) k a) (iter (al O P C d i) k b)
 | 0,a,b,ha,hb=>rfl
 | k+1,a,b,ha,hb=>by
  show iter _ k (al O P C d i _)=_;rw [zR3 s B hi L ha hb,zIO s B hi L k (al_in s B hi a) (al_in s B hi b)]
  rfl
theorem zDN {f:List Int→List Int} {w:List Int} (h:f w=w):∀k,iter f k w=w
 | 0=>rfl
 | k+1=>by show iter f k (f w)=w;rw [h];exact zDN h k
theorem zQX (s:Shp O P C) (B:Beh O P C d) (hi:O.length-d=i+1) (L:Lv O P C i) {x:List Int} (hx:TT O (O.length-d) x):mu O P C d (pvec P i) (iter (al O P C d i) (nx O i) x)=mu O P C d x (pvec P i):=by
 have hle:=B.le;have hil:i<O.length:=by omega
 have e:O.length-1-i=d:=by omega
 have hw:TT O (O.length-d) (pvec P i):=by rw [hi];exact s.pw i hil
 have M:=B.gp.toMon
 have:=M.ph_ind (Q:=fun x=>mu O P C d (pvec P i) (iter (al O P C d i) (nx O i) x)=mu O P C d x (pvec P i)) ?_ ?_ (h:=unit O) (x:=nx x) (d:=d) (t:=O.length-d) fun j h1 h2=>⟨s.unit (by omega) h1,?_⟩
 ·have nf:=B.nf hx
  rw [show Ph O (mu O P C d) (zv O) (unit O) d x=ph (mu O P C d) (zv O) (unit O) (nx x) (O.length-d) d from rfl]at nf
  rw [nf]at this
  exact this
 ·rw [zDN (al_zv s B hi),M.r1 hw,M.l1 hw]
 ·intro a b ha hb h1 h2
  rw [zIO s B hi L _ ha hb,←M.as hw (it_in s B hi _ ha) (it_in s B hi _ hb),h1,M.as ha hw (it_in s B hi _ hb),h2,←M.as ha hb hw]
 ·have:=L.inn j (by omega) (by omega)
  rw [e]at this
  exact this
theorem zDp (s:Shp O P C) (B:Beh O P C d) (hi:O.length-d=i+1) {a b:Int} {x y:List Int} (hx:TT O (O.length-d) x) (hy:TT O (O.length-d) y):
  mu O P C (d+1) (x.set i a) (y.set i b)=if a+b ≥ at_ O i then(mu O P C d (pvec P i) (mu O P C d (iter (al O P C d i) b.toNat x) y)).set i (a+b-at_ O i)else(mu O P C d (iter (al O P C d i) b.toNat x) y).set i (a+b):=by
 have hle:=B.le;have hil:i<O.length:=by omega
 have h0:O.length-(d+1)=i:=by omega
 have xl:i<x.length:=by rw [hx.len];exact hil
 have yl:i<y.length:=by rw [hy.len];exact hil
 have zx:at_ x i=0:=hx.zero i (by omega)
 have zy:at_ y i=0:=hy.zero i (by omega)
 simp only [mu,h0];rw [zCz,zCz,ZA zx xl,ZA zy yl];have e1:at_ (x.set i a) i=a:=by rw [at_set xl,if_pos rfl]
 have e2:at_ (y.set i b) i=b:=by rw [at_set yl,if_pos rfl]
 show(if at_ (x.set i a) i+at_ (y.set i b) i ≥ _ then _ else _)=_
 have e3:nx (y.set i b) i=b.toNat:=by show(at_ _ i).toNat=_;rw [e2]
 rw [e1,e2,e3]
theorem pair (h:i<O.length) {t:Nat} {x:List Int} (hx:TT O i x) (hpos:0<at_ O i):∃y a,TT O (i+1) y∧x=y.set i a∧0≤a∧a<at_ O i:=
 ⟨x.set i 0,at_ x i,hx.set0 h hpos,(zLn (by rw [hx.len];exact h)).symm,(hx.bd i h).1,(hx.bd i h).2⟩
theorem zIn (s:Shp O P C) (B:Beh O P C d) (hi:O.length-d=i+1) (L:Lv O P C i):Beh O P C (d+1):=by
 have hle:=B.le;have hil:i<O.length:=by omega
 have h0:O.length-(d+1)=i:=by omega
 have e:O.length-1-i=d:=by omega
 have hpos:=s.pos hil;have hw:TT O (O.length-d) (pvec P i):=by rw [hi];exact s.pw i hil
 have M:=B.gp.toMon;have mp:=fun {a b:Int} {x y:List Int} (hx:TT O (O.length-d) x) (hy:TT O (O.length-d) y)=>zDp s B hi (a:=a) (b:=b) hx hy
 have ii:=fun(k:Nat) {x:List Int} (hx:TT O (O.length-d) x)=>it_in s B hi k hx
 have im:=fun(k:Nat) {x y:List Int} (hx:TT O (O.length-d) x) (hy:TT O (O.length-d) y)=>zIO s B hi L k hx hy
 have iw:∀k,iter (al O P C d i) k (pvec P i)=pvec P i:=fun k=>zDN (by have:=L.fix;rw [e]at this;exact this) k
 have iz:∀k,iter (al O P C d i) k (zv O)=zv O:=fun k=>zDN (al_zv s B hi) k
 have pr:∀{x:List Int},TT O i x→∃y a,TT O (O.length-d) y∧x=y.set i a∧0≤a∧a<at_ O i:=fun hx=>by rw [hi];exact pair hil (t:=0) hx hpos
 have zs:zv O=(zv O).set i 0:=(ZA (Zu _ i) (by simp;exact hil)).symm
 have hz:TT O (O.length-d) (zv O):=s.zv _;have l1:∀{a:List Int},TT O i a→mu O P C (d+1) (zv O) a=a:=fun {a} ha=>by
  obtain⟨x,a,hx,rfl,b1,b2⟩:=pr ha;rw [zs,mp hz hx,if_neg (by omega),iz,M.l1 hx,Int.zero_add]
 have r1:∀{a:List Int},TT O i a→mu O P C (d+1) a (zv O)=a:=fun {a} ha=>by
  obtain⟨x,a,hx,rfl,b1,b2⟩:=pr ha
  conv=>lhs;rw [zs]
  rw [mp hx hz,if_neg (by omega),Int.add_zero]
  show(mu O P C d x (zv O)).set i a=_
  rw [M.r1 hx]
 have cl:∀{a b:List Int},TT O i a→TT O i b→TT O i (mu O P C (d+1) a b):=fun {a b} ha hb=>by
  have:=mu_tt s (d:=d+1) (by omega) (by rw [h0];exact ha) (by rw [h0];exact hb)
  rwa [h0]at this
 have assc:∀{a b c:List Int},TT O i a→TT O i b→TT O i c→mu O P C (d+1) (mu O P C (d+1) a b) c=mu O P C (d+1) a (mu O P C (d+1) b c):=fun {a b c} ha hb hc=>by
  obtain⟨x,a,hx,rfl,a1,a2⟩:=pr ha;obtain⟨y,b,hy,rfl,b1,b2⟩:=pr hb;obtain⟨z,c,hz',rfl,c1,c2⟩:=pr hc;have A:=ii b.toNat hx;have Bc:=ii c.toNat hy;have AB:=M.cl A hy;have BZ:=M.cl Bc hz';have past:=fun {u:List Int} (hu:TT O (O.length-d) u)=>zQX s B hi L hu
  have ic:iter (al O P C d i) c.toNat (iter (al O P C d i) b.toNat x)=iter (al O P C d i) (b.toNat+c.toNat) x:=(zEw _ _ _ _).symm;have X:=ii (b.toNat+c.toNat) hx;rw [mp hx hy,mp hy hz']
  by_cases h1:a+b ≥ at_ O i
  ·rw [if_pos h1,mp (M.cl hw AB) hz',im _ hw AB,iw,im _ A hy,ic]
   by_cases h2:b+c ≥ at_ O i
   ·rw [if_pos h2,mp hx (M.cl hw BZ)]
    have hk:(b+c-at_ O i).toNat+nx O i=b.toNat+c.toNat:=by show _+(at_ O i).toNat=_;omega
    have hX:=past (ii (b+c-at_ O i).toNat hx);rw [←zEw,hk]at hX
    have e5:mu O P C d (iter (al O P C d i) (b+c-at_ O i).toNat x) (mu O P C d (pvec P i) (mu O P C d (iter (al O P C d i) c.toNat y) z))=mu O P C d (mu O P C d (pvec P i) (mu O P C d (iter (al O P C d i) (b.toNat+c.toNat) x) (iter (al O P C d i) c.toNat y))) z:=by
     rw [←M.as (ii _ hx) hw BZ,←hX,M.as hw X BZ,←M.as X Bc hz',←M.as hw (M.cl X Bc) hz']
    rw [e5]
    by_cases h3:a+b-at_ O i+c ≥ at_ O i
    ·rw [if_pos h3,if_pos (by omega)];congr 1;omega
    ·rw [if_neg h3,if_neg (by omega)];congr 1;omega
   ·rw [if_neg h2,mp hx BZ,if_neg (by omega),if_pos (by omega),show(b+c).toNat=b.toNat+c.toNat by omega]
    rw [←M.as X Bc hz',←M.as hw (M.cl X Bc) hz']
    congr 1;omega
  ·rw [if_neg h1,mp AB hz',im _ A hy,ic]
   by_cases h2:b+c ≥ at_ O i
   ·rw [if_pos h2,mp hx (M.cl hw BZ),if_pos (by omega),if_neg (by omega)]
    have hk:(b+c-at_ O i).toNat+nx O i=b.toNat+c.toNat:=by show _+(at_ O i).toNat=_;omega
    have hX:=past (ii (b+c-at_ O i).toNat hx);rw [←zEw,hk]at hX
    rw [←M.as (ii _ hx) hw BZ,←hX,M.as hw X BZ,←M.as X Bc hz']
    congr 1;omega
   ·rw [if_neg h2,mp hx BZ,show(b+c).toNat=b.toNat+c.toNat by omega,←M.as X Bc hz']
    by_cases h3:a+b+c ≥ at_ O i
    ·rw [if_pos h3,if_pos (by omega)];congr 1;omega
    ·rw [if_neg h3,if_neg (by omega)];congr 1;omega
 have Mn:Mon (TT O (O.length-(d+1))) (mu O P C (d+1)) (zv O):=by
  rw [h0];exact⟨s.zv _,cl,assc,l1,r1⟩
 refine⟨by omega,Gp.of_right Mn ?_,?_⟩
 ·rw [h0]
  intro a ha;obtain⟨x,a,hx,rfl,a1,a2⟩:=pr ha
  by_cases h0':a=0
  ·subst h0'
   obtain⟨y,hy,h1,_⟩:=B.gp.inv hx;refine⟨y.set i 0,(hy.mono (by omega)).set hil (Nat.le_refl _) ⟨by omega,hpos⟩,?_⟩
   rw [mp hx hy,if_neg (by omega)]
   show(mu O P C d x y).set i _=_
   rw [h1,Int.add_zero];exact zs.symm
  ·obtain⟨y,hy,h1,_⟩:=B.gp.inv (M.cl hw (ii (at_ O i-a).toNat hx))
   refine⟨y.set i (at_ O i-a),(hy.mono (by omega)).set hil (Nat.le_refl _) ⟨by omega,by omega⟩,?_⟩
   rw [mp hx hy,if_pos (by omega),←M.as hw (ii _ hx) hy,h1,show a+(at_ O i-a)-at_ O i=0 by omega]
   exact zs.symm
 ·rw [h0]
  intro x hx;obtain⟨y,a,hy,rfl,a1,a2⟩:=pr hx;have yl:i<y.length:=by rw [hy.len];exact hil
  have hu:∀k:Nat,(k:Int)<at_ O i→pw (mu O P C (d+1)) (zv O) (unit O i) k=(zv O).set i k:=by
   intro k
   induction k with
   | zero=>intro _;exact zs
   | succ k ih=>
    intro hk;show mu O P C (d+1) (pw _ _ _ k) (unit O i)=_;rw [ih (by omega),mp hz hz,if_neg (by omega)]
    show(mu O P C d (al O P C d i (zv O)) (zv O)).set i _=_
    rw [al_zv s B hi,M.l1 hz]
    congr 1
  have sub:∀{u v:List Int},TT O (O.length-d) u→TT O (O.length-d) v→mu O P C (d+1) u v=mu O P C d u v:=fun {u v} hu hv=>by
   have ul:i<u.length:=by rw [hu.len];exact hil
   have vl:i<v.length:=by rw [hv.len];exact hil
   have h3:=mp (a:=0) (b:=0) hu hv;rw [ZA (hu.zero i (by omega)) ul,ZA (hv.zero i (by omega)) vl,if_neg (by omega)]at h3
   rw [h3];have huv:=M.cl hu hv;exact ZA (huv.zero i (by omega)) (by show i<(mu O P C d u v).length;rw [huv.len];exact hil)
  have pws:∀{u:List Int},TT O (O.length-d) u→∀k,pw (mu O P C (d+1)) (zv O) u k=pw (mu O P C d) (zv O) u k:=fun {u} hu k=>by
   induction k with
   | zero=>rfl
   | succ k ih=>show mu O P C (d+1) (pw _ _ u k) u=mu O P C d (pw _ _ u k) u;rw [ih,sub (M.pw hu k) hu]
  have phs:∀(c t:Nat),O.length-d≤t→t+c≤O.length→ph (mu O P C (d+1)) (zv O) (unit O) (nx (y.set i a)) t c=ph (mu O P C d) (zv O) (unit O) (nx y) t c:=by
   intro c
   induction c with
   | zero=>intro t _ _;rfl
   | succ c ih=>
    intro t h1 h2;have hut:TT O (O.length-d) (unit O t):=s.unit (by omega) h1
    have hnx:nx (y.set i a) t=nx y t:=by show(at_ _ t).toNat=(at_ y t).toNat;rw [at_set yl,if_neg (by omega)]
    rw [ph,ph,ih (t+1) (by omega) (by omega),pws hut,hnx,sub (M.pw hut _) (M.ph fun j g1 g2=>s.unit (by omega) (by omega))]
  rw [zKN (by omega),h0,show Ph O (mu O P C (d+1)) (zv O) (unit O) d (y.set i a)=Ph O (mu O P C d) (zv O) (unit O) d y from phs d _ (Nat.le_refl _) (by omega),B.nf hy]
  have hnx:nx (y.set i a) i=a.toNat:=by show(at_ _ i).toNat=_;rw [at_set yl,if_pos rfl]
  have ys:y=y.set i 0:=(ZA (hy.zero i (by omega)) yl).symm
  rw [hnx,hu _ (by omega)]
  conv=>lhs;rw [ys]
  rw [mp hz hy,if_neg (by omega)]
  show(mu O P C d (zv O) y).set i _=_
  rw [M.l1 hy];congr 1;omega
theorem zIm (s:Shp O P C):Beh O P C 0:=by
 have h0:∀{x:List Int},TT O (O.length-0) x→x=zv O:=fun {x} hx=>hx.ext (s.zv _) fun j h1 h2=>by omega
 refine⟨Nat.zero_le _,⟨⟨s.zv _,fun _ _=>s.zv _,fun _ _ _=>rfl,fun h=>(h0 h).symm,fun h=>(h0 h).symm⟩,fun h=>⟨zv O,s.zv _,rfl,rfl⟩⟩,fun h=>(h0 h).symm⟩
end
def Cons (O:List Int) (P:List (List Int)) (C:List (List (List Int))):Prop:=∀i,i<O.length→Lv O P C i
theorem zNU (s:Shp O P C):∀{d:Nat},d≤O.length→(∀i,O.length-d≤i→i<O.length→Lv O P C i)→Beh O P C d
 | 0,_,_=>zIm s
 | d+1,hd,h=>zIn s (zNU s (by omega) fun i h1 h2=>h i (by omega) h2) (by omega) (h (O.length-(d+1)) (Nat.le_refl _) (by omega))
end Go.Grp
namespace Go.Grp
open Go.Ab Go.Lie
variable {O:List Int} {P:List (List Int)} {C:List (List (List Int))} {α:Type} {S:α→Prop} {m:α→α→α} {e:α} {h:Nat→α} {d i:Nat}
theorem zGJ (s:Shp O P C) (hd:d+1≤O.length) {u v:List Int} (hu:TT O (O.length-d) u) (hv:TT O (O.length-d) v):mu O P C (d+1) u v=mu O P C d u v:=by
 have hil:O.length-(d+1)<O.length:=by omega
 have zu:=hu.zero (O.length-(d+1)) (by omega)
 have zv':=hv.zero (O.length-(d+1)) (by omega)
 have huv:=mu_tt s (by omega:d≤O.length) hu hv
 have hp:=s.pos hil;simp only [mu];rw [ZA zu (by rw [hu.len];exact hil),ZA zv' (by rw [hv.len];exact hil),zu,zv',if_neg (by omega)]
 have:nx v (O.length-(d+1))=0:=by show(at_ v _).toNat=0;rw [zv'];rfl
 rw [this];exact ZA (huv.zero _ (by omega)) (by show _<(mu O P C d u v).length;rw [huv.len];exact hil)
theorem zMh (s:Shp O P C):∀{k:Nat},d+k≤O.length→∀{u v:List Int},TT O (O.length-d) u→TT O (O.length-d) v→mu O P C (d+k) u v=mu O P C d u v
 | 0,_,u,v,_,_=>rfl
 | k+1,hk,u,v,hu,hv=>by
  rw [show d+(k+1)=(d+k)+1 by omega,zGJ s (by omega) (hu.mono (by omega)) (hv.mono (by omega)),zMh s (by omega) hu hv]
theorem zHn {m':α→α→α} (h:∀a b,S a→S b→m' a b=m a b) (M:Mon S m e) {x:α} (hx:S x):∀k,pw m' e x k=pw m e x k
 | 0=>rfl
 | k+1=>by show m' (pw m' e x k) x=m (pw m e x k) x;rw [zHn h M hx k,h _ _ (M.pw hx k) hx]
theorem zFQ {m':α→α→α} (h:∀a b,S a→S b→m' a b=m a b) (M:Mon S m e) {f:Nat→α} {x:Nat→Nat}:∀{c t:Nat},(∀j,t≤j→j<t+c→S (f j))→ph m' e f x t c=ph m e f x t c
 | 0,t,_=>rfl
 | c+1,t,hf=>by
  have ht:=hf t (Nat.le_refl _) (by omega)
  have i:=zFQ h M (f:=f) (x:=x) (c:=c) (t:=t+1) fun j a b=>hf j (by omega) (by omega)
  rw [ph,ph,i,zHn h M ht];exact h _ _ (M.pw ht _) (M.ph fun j a b=>hf j (by omega) (by omega))
theorem zQ4 {m:List Int→List Int→List Int} (M:Mon (TT O (O.length-d)) m (zv O)) (s:Shp O P C) {f:Nat→List Int} (hf:∀j,O.length-d≤j→j<O.length→TT O (O.length-d) (f j)) (hd:d≤O.length) {k:Nat} (h1:O.length-d≤k) (h2:k<O.length):Ph O m (zv O) f d (unit O k)=f k:=by
 have:∀(c t:Nat),O.length-d≤t→t+c=O.length→ph m (zv O) f (nx (unit O k)) t c=if t≤k then f k else zv O:=by
  intro c
  induction c with
  | zero=>intro t g1 g2;rw [ph,if_neg (by omega)]
  | succ c ih=>
   intro t g1 g2;have hn:nx (unit O k) t=if t=k then 1 else 0:=by
    show(at_ ((zv O).set k 1) t).toNat=_
    rw [at_set (by simp;exact h2)]
    split
    ·rfl
    ·rw [Zu];rfl
   rw [ph,ih (t+1) (by omega) (by omega),hn]
   have ft:=hf t g1 (by omega)
   by_cases e:t=k
   ·subst e
    rw [if_pos rfl,if_neg (by omega),if_pos (Nat.le_refl _),M.pw_one ft,M.r1 ft]
   ·rw [if_neg e]
    show m (zv O) _=_
    by_cases g:t≤k
    ·rw [if_pos (by omega),if_pos g,M.l1 (hf k h1 h2)]
    ·rw [if_neg (by omega),if_neg g,M.l1 M.one]
 have:=this d (O.length-d) (Nat.le_refl _) (by omega)
 rw [if_pos h1]at this
 exact this
structure Full (O:List Int) (P:List (List Int)) (C:List (List (List Int))) (d:Nat):Prop extends Beh O P C d where
 rel:Rel O P C (TT O (O.length-d)) (mu O P C d) (zv O) (unit O) (O.length-d)
theorem zM7 (s:Shp O P C):Full O P C 0:=⟨zIm s,⟨fun j h1 h2=>s.unit h2 h1,fun j h1 h2=>by omega,fun j k h1 h2 h3=>by omega⟩⟩
theorem zM8 (s:Shp O P C) (B:Full O P C d) (hi:O.length-d=i+1) (L:Lv O P C i):Full O P C (d+1):=by
 have hle:=B.le;have hil:i<O.length:=by omega
 have h0:O.length-(d+1)=i:=by omega
 have B1:=zIn s B.toBeh hi L;refine⟨B1,?_⟩;have M:=B.gp.toMon;have M1:=B1.gp.toMon;have hpos:=s.pos hil;have hz:TT O (O.length-d) (zv O):=s.zv _;have hw:TT O (O.length-d) (pvec P i):=by rw [hi];exact s.pw i hil
 have sub:∀a b,TT O (O.length-d) a→TT O (O.length-d) b→mu O P C (d+1) a b=mu O P C d a b:=fun a b ha hb=>zGJ s (by omega) ha hb
 have un:∀j,O.length-d≤j→j<O.length→TT O (O.length-d) (unit O j):=fun j h1 h2=>s.unit h2 h1
 have mp:=fun {a b:Int} {x y:List Int} (hx:TT O (O.length-d) x) (hy:TT O (O.length-d) y)=>zDp s B.toBeh hi (a:=a) (b:=b) hx hy
 have zs:zv O=(zv O).set i 0:=(ZA (Zu _ i) (by simp;exact hil)).symm
 have nfx:∀{j:Nat} {x:List Int},i≤j→j<O.length→TT O (j+1) x→Ph O (mu O P C (d+1)) (zv O) (unit O) (O.length-(j+1)) x=x:=fun {j x} h1 h2 hx=>by
  have hn:=B.nf (hx.mono (by omega:O.length-d≤j+1))
  have e1:Ph O (mu O P C (d+1)) (zv O) (unit O) (O.length-(j+1)) x=Ph O (mu O P C d) (zv O) (unit O) (O.length-(j+1)) x:=zFQ sub M fun k a b=>un k (by omega) (by omega)
  rw [e1]
  have:=M.ph_skip (h:=unit O) (x:=nx x) (d:=O.length-(j+1)) (k:=j-i) (t:=O.length-d) (fun t a b=>by show(at_ x t).toNat=0;rw [hx.zero t (by omega)];rfl) (fun t a b=>un t (by omega) (by omega))
  rw [show j-i+(O.length-(j+1))=d by omega,show O.length-d+(j-i)=O.length-(O.length-(j+1)) by omega]at this
  show ph _ _ _ _ _ _=x;rw [←this];exact hn
 rw [h0];refine⟨fun j h1 h2=>s.unit h2 h1,fun j h1 h2=>?_,fun j k h1 h2 h3=>?_⟩
 ·rw [nfx h1 h2 (s.pw j h2)]
  by_cases e:j=i
  ·subst e
   have hu:∀k:Nat,(k:Int)<at_ O j→pw (mu O P C (d+1)) (zv O) (unit O j) k=(zv O).set j k:=by
    intro k
    induction k with
    | zero=>intro _;exact zs
    | succ k ih=>
     intro hk;show mu O P C (d+1) (pw _ _ _ k) (unit O j)=_;rw [ih (by omega),mp hz hz,if_neg (by omega)]
     show(mu O P C d (al O P C d j (zv O)) (zv O)).set j _=_
     rw [al_zv s B.toBeh hi,M.l1 hz]
     congr 1
   obtain⟨o,ho⟩:∃o:Nat,nx O j=o+1:=⟨nx O j-1,by show(at_ O j).toNat=_;have:nx O j=(at_ O j).toNat:=rfl;omega⟩
   have hoi:at_ O j=(o:Int)+1:=by have:nx O j=(at_ O j).toNat:=rfl;omega
   rw [ho];show mu O P C (d+1) (pw _ _ _ o) (unit O j)=_;rw [hu o (by omega),mp hz hz,if_pos (by omega)]
   show(mu O P C d (pvec P j) (mu O P C d (al O P C d j (zv O)) (zv O))).set j _=_
   rw [al_zv s B.toBeh hi,M.l1 hz,M.r1 hw,show(o:Int)+1-at_ O j=0 by omega]
   exact ZA (hw.zero j (by omega)) (by rw [hw.len];exact hil)
  ·rw [zHn sub M (un j (by omega) h2),B.rel.pow j (by omega) h2]
   have hn:=nfx h1 h2 (s.pw j h2);have e1:Ph O (mu O P C (d+1)) (zv O) (unit O) (O.length-(j+1)) (pvec P j)=Ph O (mu O P C d) (zv O) (unit O) (O.length-(j+1)) (pvec P j):=zFQ sub M fun k a b=>un k (by omega) (by omega)
   rw [←e1];exact hn
 ·rw [nfx h1 (by omega) (s.cj j k h2 h3)]
  by_cases e:j=i
  ·subst e
   have hc:TT O (O.length-d) (cvec C j k):=by rw [hi];exact s.cj j k h2 h3
   have uk:=un k (by omega) h3
   have zu:=uk.zero j (by omega)
   have zc:=hc.zero j (by omega)
   have e1:mu O P C (d+1) (unit O k) (unit O j)=(cvec C j k).set j 1:=by
    have:=mp (a:=0) (b:=1) uk hz
    rw [ZA zu (by rw [uk.len];exact hil),if_neg (by have:=(s.pr j hil).1;omega)]at this
    rw [this]
    show(mu O P C d (al O P C d j (unit O k)) (zv O)).set j _=_
    rw [al_ph s B.toBeh hi,zQ4 M s (fun q a b=>by rw [hi];exact s.cj j q (by omega) b) hle (by omega) h3,M.r1 hc]
    congr 1
   have e2:mu O P C (d+1) (unit O j) (cvec C j k)=(cvec C j k).set j 1:=by
    have:=mp (a:=1) (b:=0) hz hc
    rw [ZA zc (by rw [hc.len];exact hil),if_neg (by have:=(s.pr j hil).1;omega)]at this
    rw [this]
    show(mu O P C d (zv O) (cvec C j k)).set j _=_
    rw [M.l1 hc]
    congr 1
   rw [e1,e2]
  ·have hcj:TT O (O.length-d) (cvec C j k):=(s.cj j k h2 h3).mono (by omega)
   have hn:=nfx h1 (by omega) (s.cj j k h2 h3)
   have e1:Ph O (mu O P C (d+1)) (zv O) (unit O) (O.length-(j+1)) (cvec C j k)=Ph O (mu O P C d) (zv O) (unit O) (O.length-(j+1)) (cvec C j k):=zFQ sub M fun k a b=>un k (by omega) (by omega)
   rw [e1]at hn
   have:=B.rel.cj j k (by omega) h2 h3
   rw [hn]at this
   rw [sub _ _ (un k (by omega) h3) (un j (by omega) (by omega)),sub _ _ (un j (by omega) (by omega)) hcj]
   exact this
theorem full_of (s:Shp O P C):∀{d:Nat},d≤O.length→(∀i,O.length-d≤i→i<O.length→Lv O P C i)→Full O P C d
 | 0,_,_=>zM7 s
 | d+1,hd,h=>zM8 s (full_of s (by omega) fun i h1 h2=>h i (by omega) h2) (by omega) (h (O.length-(d+1)) (Nat.le_refl _) (by omega))
theorem Mon.ph_app (M:Mon S m e) {f:Nat→α} {x:Nat→Nat} {b:Nat}:∀{a t:Nat},(∀j,t≤j→j<t+a+b→S (f j))→Grp.ph m e f x t (a+b)=m (Grp.ph m e f x t a) (Grp.ph m e f x (t+a) b)
 | 0,t,hf=>by
  rw [Nat.zero_add,Nat.add_zero];exact(M.l1 (M.ph fun j h1 h2=>hf j (by omega) (by omega))).symm
 | a+1,t,hf=>by
  have ft:=hf t (Nat.le_refl _) (by omega)
  rw [show a+1+b=(a+b)+1 by omega,Grp.ph,Grp.ph,M.ph_app fun j h1 h2=>hf j (by omega) (by omega),show t+(a+1)=t+1+a by omega,M.as (M.pw ft _) (M.ph fun j h1 h2=>hf j (by omega) (by omega)) (M.ph fun j h1 h2=>hf j (by omega) (by omega))]
def hdz (x:List Int) (j:Nat):List Int:=x.take (j+1)++List.replicate (x.length-(j+1)) 0
theorem zDu (x:List Int) (j:Nat):(hdz x j).length=x.length:=by simp [hdz];omega
theorem zB9 (x:List Int) (j k:Nat):at_ (hdz x j) k=if k≤j then at_ x k else 0:=by
 simp only [hdz,at_,List.getD_eq_getElem?_getD]
 by_cases hk:k≤j
 ·rw [if_pos hk]
  by_cases hl:k<x.length
  ·rw [List.getElem?_append_left (by simp;omega),List.getElem?_take,if_pos (by omega)]
  ·rw [List.getElem?_eq_none (by simp;omega),List.getElem?_eq_none (by omega)]
 ·rw [if_neg hk]
  by_cases hl:k<x.length
  ·rw [List.getElem?_append_right (by simp;omega),List.getElem?_replicate]
   split<;>rfl
  ·rw [List.getElem?_eq_none (by simp;omega)];rfl
theorem zIS {t j:Nat} {x:List Int} (hx:TT O t x) (hO:∀j,j<O.length→0<at_ O j):TT O t (hdz x j):=by
 refine⟨by rw [zDu,hx.len],fun k hk=>?_,fun k hk=>?_⟩
 ·rw [zB9];split
  ·exact hx.bd k hk
  ·exact⟨by omega,hO k hk⟩
 ·rw [zB9];split
  ·exact hx.zero k hk
  ·rfl
def tstep (O:List Int) (P:List (List Int)) (C:List (List (List Int))) (m:List Int→List Int→List Int) (x:List Int) (j:Nat):List Int:=
 fo m (cvec C j) (nx x) (j+1) (O.length-1-j) (if at_ x j+1=at_ O j then m ((hdz x j).set j 0) (pvec P j)else(hdz x j).set j (at_ x j+1))
theorem zNl (s:Shp O P C) (B:Full O P C d) {x:List Int} (hx:TT O (O.length-d) x) {j:Nat} (h1:O.length-d≤j) (h2:j<O.length):tstep O P C (mu O P C d) x j=mu O P C d x (unit O j):=by
 have hle:=B.le;have M:=B.gp.toMon;have hpos:=s.pos h2;have bx:=hx.bd j h2;have un:∀k,O.length-d≤k→k<O.length→TT O (O.length-d) (unit O k):=fun k a b=>s.unit b a
 have cv:∀k,j+1≤k→k<O.length→TT O (O.length-d) (cvec C j k):=fun k a b=>(s.cj j k (by omega) b).mono (by omega)
 have hpv:TT O (O.length-d) (pvec P j):=(s.pw j h2).mono (by omega)
 have uj:=un j h1 h2;have jl:j<(hdz x j).length:=by rw [zDu,hx.len];exact h2
 -- the head, the generator's power, the rest
 let H:=ph (mu O P C d) (zv O) (unit O) (nx x) (O.length-d) (j-(O.length-d))
 have hH:TT O (O.length-d) H:=M.ph fun k a b=>un k (by omega) (by omega)
 have spl:∀{y:List Int},(∀k,k<j→at_ y k=at_ x k)→TT O (O.length-d) y→y=mu O P C d H (mu O P C d (pw (mu O P C d) (zv O) (unit O j) (nx y j)) (ph (mu O P C d) (zv O) (unit O) (nx y) (j+1) (O.length-1-j))):=fun {y} hy ht=>by
  have e1:=B.nf ht;have e2:Ph O (mu O P C d) (zv O) (unit O) d y=mu O P C d (ph (mu O P C d) (zv O) (unit O) (nx y) (O.length-d) (j-(O.length-d))) (ph (mu O P C d) (zv O) (unit O) (nx y) j (O.length-1-j+1)):=by
   have:=M.ph_app (f:=unit O) (x:=nx y) (a:=j-(O.length-d)) (b:=O.length-1-j+1) (t:=O.length-d) fun k a b=>un k (by omega) (by omega)
   rw [show j-(O.length-d)+(O.length-1-j+1)=d by omega,show O.length-d+(j-(O.length-d))=j by omega]at this
   exact this
  have e3:ph (mu O P C d) (zv O) (unit O) (nx y) (O.length-d) (j-(O.length-d))=H:=zCS fun k a b=>⟨rfl,by show(at_ y k).toNat=(at_ x k).toNat;rw [hy k (by omega)]⟩
  rw [e3]at e2
  exact e1.symm.trans e2
 have rest0:∀{y:List Int},(∀k,j<k→at_ y k=0)→ph (mu O P C d) (zv O) (unit O) (nx y) (j+1) (O.length-1-j)=zv O:=fun {y} hy=>by
  have e1:ph (mu O P C d) (zv O) (unit O) (nx y) (j+1) (O.length-1-j)=ph (mu O P C d) (zv O) (unit O) (nx (zv O)) (j+1) (O.length-1-j):=zCS fun k a b=>⟨rfl,by show(at_ y k).toNat=(at_ (zv O) k).toNat;rw [hy k (by omega),Zu]⟩
  rw [e1]
  have:=Ph_zv (O:=O) (h:=unit O) M (O.length-1-j)
  show ph _ _ _ _ _ _=_;rw [show j+1=O.length-(O.length-1-j) by omega]
  exact this
 let R:=ph (mu O P C d) (zv O) (unit O) (nx x) (j+1) (O.length-1-j)
 let R':=ph (mu O P C d) (zv O) (cvec C j) (nx x) (j+1) (O.length-1-j)
 have hR:TT O (O.length-d) R:=M.ph fun k a b=>un k (by omega) (by omega)
 have hR':TT O (O.length-d) R':=M.ph fun k a b=>cv k a (by omega)
 have past:mu O P C d R (unit O j)=mu O P C d (unit O j) R':=M.past_ph uj fun k a b=>⟨un k (by omega) (by omega),cv k a (by omega),by
  have:=B.rel.cj j k h1 (by omega) (by omega)
  have nfc:Ph O (mu O P C d) (zv O) (unit O) (O.length-(j+1)) (cvec C j k)=cvec C j k:=by
   have hc:=s.cj j k (by omega) (by omega)
   have hn:=B.nf (cv k a (by omega))
   have h3:=M.ph_skip (h:=unit O) (x:=nx (cvec C j k)) (d:=O.length-(j+1)) (k:=j+1-(O.length-d)) (t:=O.length-d) (fun t a b=>by show(at_ _ t).toNat=0;rw [hc.zero t (by omega)];rfl) (fun t a b=>un t (by omega) (by omega))
   rw [show j+1-(O.length-d)+(O.length-(j+1))=d by omega,show O.length-d+(j+1-(O.length-d))=O.length-(O.length-(j+1)) by omega]at h3
   show ph _ _ _ _ _ _=_;rw [←h3];exact hn
  rw [nfc]at this;exact this⟩
 have pj:pw (mu O P C d) (zv O) (unit O j) (nx O j)=pvec P j:=by
  rw [B.rel.pow j h1 h2];have hc:=s.pw j h2;have hn:=B.nf hpv;have h3:=M.ph_skip (h:=unit O) (x:=nx (pvec P j)) (d:=O.length-(j+1)) (k:=j+1-(O.length-d)) (t:=O.length-d) (fun t a b=>by show(at_ _ t).toNat=0;rw [hc.zero t (by omega)];rfl) (fun t a b=>un t (by omega) (by omega))
  rw [show j+1-(O.length-d)+(O.length-(j+1))=d by omega,show O.length-d+(j+1-(O.length-d))=O.length-(O.length-(j+1)) by omega]at h3
  show ph _ _ _ _ _ _=_;rw [←h3];exact hn
 have pwj:∀k,TT O (O.length-d) (pw (mu O P C d) (zv O) (unit O j) k):=fun k=>M.pw uj k
 -- both sides are H g^(e+1) R'
 have rhs:mu O P C d x (unit O j)=mu O P C d (mu O P C d H (pw (mu O P C d) (zv O) (unit O j) (nx x j+1))) R':=by
  conv=>lhs;rw [spl (fun _ _=>rfl) hx]
  rw [M.as hH (M.cl (pwj _) hR) uj,M.as (pwj _) hR uj,past,←M.as (pwj _) uj hR',M.as hH (pwj (nx x j+1)) hR']
  rfl
 have hd1:∀{c:Int},0≤c→c<at_ O j→(hdz x j).set j c=mu O P C d H (pw (mu O P C d) (zv O) (unit O j) c.toNat):=fun {c} c0 c1=>by
  have ht:TT O (O.length-d) ((hdz x j).set j c):=(zIS hx fun k hk=>s.pos hk).set h2 h1 ⟨c0,c1⟩
  have hs:=spl (y:=(hdz x j).set j c) (fun k hk=>by rw [at_set jl,if_neg (by omega),zB9,if_pos (by omega)]) ht
  rw [rest0 fun k hk=>by rw [at_set jl,if_neg (by omega),zB9,if_neg (by omega)],M.r1 (pwj _)]at hs
  rw [hs]
  congr 2
  show(at_ _ j).toNat=_
  rw [at_set jl,if_pos rfl]
 have lhs:(if at_ x j+1=at_ O j then mu O P C d ((hdz x j).set j 0) (pvec P j)else(hdz x j).set j (at_ x j+1))=mu O P C d H (pw (mu O P C d) (zv O) (unit O j) (nx x j+1)):=by
  split
  ·rename_i hc
   rw [hd1 (Int.le_refl _) hpos,←pj,show nx O j=nx x j+1 by show(at_ O j).toNat=(at_ x j).toNat+1;omega]
   show mu O P C d (mu O P C d H (zv O)) _=_;rw [M.r1 hH]
  ·rw [hd1 (by omega) (by omega),show(at_ x j+1).toNat=nx x j+1 by show _=(at_ x j).toNat+1;omega]
 rw [tstep,lhs,rhs];exact M.fo_eq (fun k a b=>cv k a (by omega)) (M.cl hH (pwj _))
end Go.Grp
namespace Go.Grp
end Go.Grp
namespace Go.Proofs
open Go.Ab Go.Lie Go.Grp
variable {σ:PHeap} {K:PV→PHeap→Prop} {O:List Int} {P:List (List Int)} {C:List (List (List Int))} {vO vP vC vx:PV} {s:Nat} {x:List Int}
structure IsPr (vO vP vC:PV) (O:List Int) (P:List (List Int)) (C:List (List (List Int))):Prop where
 O:FI vO O
 P:FII vP P
 C:FIII vC C
structure SzP (O:List Int) (P:List (List Int)) (C:List (List (List Int))):Prop where
 O:O.length≤1048576
 P:SzL P
 C:SzM C
structure PtrG (σ:PHeap) (s:Nat) (vO vP vC:PV):Prop where
 obj:σ.obj s=some [vO,vP,vC]
 lt:s<σ.next
theorem PtrG.new (h:PtrG σ s vO vP vC) (cs:List PV):PtrG (σ.new cs) s vO vP vC:=⟨by have:=h.lt;simp only [pwA,seval,-iQ0,Nat.ne_of_lt this];exact h.obj,by have:=h.lt;simp only [pwA,seval,-iQ0];omega⟩
theorem PtrG.set (h:PtrG σ s vO vP vC) {t:Nat} (ht:s≠t) (cs:List PV):PtrG (σ.set t cs) s vO vP vC:=⟨by simp only [pwA,seval,-iQ0,ht];exact h.obj,h.lt⟩
theorem PtrG.keep {h:PHeap} (hs:PtrG σ s vO vP vC) (hk:Keep σ h):PtrG h s vO vP vC:=⟨by rw [hk.obj s hs.lt];exact hs.obj,Nat.lt_of_lt_of_le hs.lt hk.next⟩
def isExp (O x:List Int):Prop:=x.length=O.length∧∀j,j<x.length→0≤at_ x j∧at_ x j≤at_ O j-1
def QO (O:List Int) (t:Nat) (x:List Int):Prop:=isExp O x∧isZ (x.take t)
def prodL:List Int→Int
 | []=>1
 | o::O=>o*prodL O
def rowPr (O:List Int) (P:List (List Int)) (C:List (List (List Int))) (i:Nat):Prop:=QO O (i+1) (P.getD i [])∧(C.getD i []).length=O.length-1-i∧∀k,k<(C.getD i []).length→QO O (i+1) ((C.getD i []).getD k [])
def qi (O:List Int) (P:List (List Int)) (C:List (List (List Int))):Prop:=
 O.length≤6∧P.length=O.length∧C.length=O.length∧(∀o∈O,isP o)∧prodL O≤729∧∀i,i<O.length→rowPr O P C i
theorem QO.tt {t:Nat} (h:QO O t x):TT O t x:=by
 refine⟨h.1.1,fun j hj=>by have:=h.1.2 j (by rw [h.1.1];exact hj);omega,fun j hj=>?_⟩
 rcases Nat.lt_or_ge j x.length with e|e
 ·rw [at_eq e]
  exact h.2 _ (by rw [List.mem_take_iff_getElem];exact⟨j,by omega,rfl⟩)
 ·exact at_ge e
theorem qi.shp (h:qi O P C):Shp O P C:=by
 obtain⟨h1,h2,h3,h4,h5,h6⟩:=h;refine⟨h1,fun j hj=>?_,h2,h3,fun i hi=>(h6 i hi).1.tt,fun i hi=>(h6 i hi).2.1,fun i j hij hj=>?_⟩
 ·rw [at_eq hj];exact(h4 _ (List.getElem_mem hj)).bd
 ·have:=(h6 i (by omega)).2.2 (j-i-1) (by rw [(h6 i (by omega)).2.1];omega)
  exact this.tt
theorem zB8 (hs:PtrG σ s vO vP vC) (hO:FI vO O) (szO:O.length≤1048576) (bO:∀o∈O,isP o) (hx:FI vx x) (hb:x.length≤1048576) (hk:∀t:Bool,(t=true↔isExp O x)→K (.bool t) σ):zA Tryz.prog 167 [.ptr s 0,vx] σ K:=by
 have fl:∀{A:Prop},¬A→((false=true)↔A):=fun h=>⟨fun x=>(by cases x),fun x=>absurd x h⟩
 obtain⟨wo,ao,rfl⟩:=hO;obtain⟨wx,ax,rfl⟩:=hx;have e0:σ.rd1 s 0=some (.fz wo ao O.length (pis O)):=by rw [zF hs.obj];rfl
 refine zB mix Tryz.func167 ?_;simp only [pwA,seval,-iQ0,e0];refine iteI (fun hl=>?_) fun hl=>?_
 rotate_left
 ·exact hk _ (fl fun h=>hl (by rw [h.1]))
 have hl:x.length=O.length:=by omega
 refine zD (fun m vs h'=>∃i:Nat,i≤x.length∧m=x.length-i∧vs=[.ptr s 0,.fz wx ax x.length (pis x),.int .i64 x.length,.int .i64 i]∧σ=h'∧∀j,j<i→0≤at_ x j∧at_ x j≤at_ O j-1) x.length ?_ ?_
 ·exact⟨0,by omega,by omega,rfl,rfl,fun j hj=>by omega⟩
 rintro m vs h' ⟨i,hi,rfl,rfl,rfl,hall⟩
 simp only [pwA,seval,-iQ0];refine iteI (fun hlt=>?_) fun hge=>?_
 ·have hO':i<O.length:=by omega
  have bo:=(bO _ (List.getElem_mem hO')).bd;simp only [pwA,seval,-iQ0,hlt,hO',e0,gi hlt,gi hO',zL,wrap64 (n:=O[i] - 1) (by omega) (by omega)]
  refine zM2 ?_
  by_cases hin:0≤x[i]∧x[i]≤O[i] - 1
  ·simp only [pwA,seval,-iQ0,hin,wrapS hlt (by omega:x.length≤4611686018427387904)]
   refine⟨_,by omega,i+1,by omega,rfl,rfl,fun j hj=>?_⟩
   by_cases e:j=i
   ·subst e;rw [at_eq hlt,at_eq hO'];exact hin
   ·exact hall j (by omega)
  ·simp only [pwA,seval,-iQ0,hin]
   exact hk _ (fl fun h=>hin (by have:=h.2 i hlt;rwa [at_eq hlt,at_eq hO']at this))
 ·exact hk _ ⟨fun _=>⟨hl,fun j hj=>hall j (by omega)⟩,fun _=>rfl⟩
theorem zCp {i:Nat} (hs:PtrG σ s vO vP vC) (hO:FI vO O) (szO:O.length≤1048576) (bO:∀o∈O,isP o) (hx:FI vx x) (hb:x.length≤1048576) (hi:i<O.length) (hk:∀t:Bool,(t=true↔QO O (i+1) x)→K (.bool t) σ):zA Tryz.prog 124 [.ptr s 0,.int .i64 i,vx] σ K:=by
 have fl:∀{A:Prop},¬A→((false=true)↔A):=fun h=>⟨fun x=>(by cases x),fun x=>absurd x h⟩
 refine zB mix Tryz.func124 ?_;simp only [pwA,seval,-iQ0];refine zB8 hs hO szO bO hx hb fun t ht=>?_
 cases t with
 | false=>
  simp only [pwA,seval,-iQ0];exact hk _ (fl fun h=>by cases ht.2 h.1)
 | true=>
  have he:=ht.1 rfl;have hl:=he.1;obtain⟨wx,ax,rfl⟩:=hx;have hle2:((i+1:Nat):Int)≤(x.length:Int):=by omega
  have hle3:i+1≤x.length:=by omega
  simp only [pwA,seval,-iQ0,wrapS hi (by omega:O.length≤4611686018427387904),hle2,hle3,zOL,Nat.sub_zero]
  refine zDO (by simp;omega) (by simp;omega) ?_
  by_cases hz:isZ (x.take (i+1))
  ·simp only [pwA,seval,-iQ0,hz]
   exact hk _ ⟨fun _=>⟨he,hz⟩,fun _=>rfl⟩
  ·simp only [pwA,seval,-iQ0,hz]
   exact hk _ (fl fun h=>hz h.2)
theorem zBJ:∀(a b:List Int),prodL (a++b)=prodL a*prodL b
 | [],b=>by simp [prodL]
 | x::a,b=>by simp [prodL,zBJ a b,Int.mul_assoc]
theorem zAC {i:Nat} (hi:i<O.length):prodL (O.take (i+1))=prodL (O.take i)*O[i]:=by
 rw [List.take_succ_eq_append_getElem hi,zBJ];simp [prodL]
theorem zAe:∀{O:List Int},(∀o∈O,isP o)→1≤prodL O
 | [],_=>by simp [prodL]
 | o::O,h=>by
  have h1:=(h o (by simp)).bd
  have h2:=zAe (O:=O) fun q hq=>h q (by simp [hq])
  simp only [prodL]
  have:=Int.mul_le_mul h1.1 h2 (by omega) (by omega)
  omega
theorem zKf (h:∀o∈O,isP o) (i:Nat):prodL (O.take i)≤prodL O:=by
 have h1:=zAe fun o ho=>h o (List.mem_of_mem_take (i:=i) ho)
 have h2:=zAe fun o ho=>h o (List.mem_of_mem_drop (i:=i) ho)
 have:prodL O=prodL (O.take i)*prodL (O.drop i):=by rw [←zBJ,List.take_append_drop]
 have h3:=Int.mul_le_mul (Int.le_refl (prodL (O.take i))) h2 (by omega) (by omega)
 omega
theorem zD9 (hR:IsPr vO vP vC O P C) (sz:SzP O P C) (hk:∀t:Bool,(t=true↔qi O P C)→K (.bool t) σ):zA Tryz.prog 78 [.agg [vO,vP,vC]] σ K:=by
 have hFO:=hR.O;have ho1:=hR.O.one;have szP:=sz.P;have szC:=sz.C;obtain⟨⟨w0,a0,rfl⟩,⟨w1,a1,rP,rfl,hP⟩,⟨w3,a3,rC,rfl,hC⟩⟩:=hR;refine zA.gh ?_;have fin:∀{t:Bool} {σ':PHeap},(t=true↔qi O P C)→Keep σ σ'→Gh σ K (.bool t) σ':=fun h k=>Gh.fin0 k trivial (hk _ h)
 have no:∀{σ':PHeap},¬qi O P C→Keep σ σ'→Gh σ K (.bool false) σ':=fun h k=>fin ⟨fun x=>(by cases x),fun x=>absurd x h⟩ k
 have hkp:=zC σ [.fz w0 a0 O.length (pis O),.fz w1 a1 P.length rP,.fz w3 a3 C.length rC];have hpt:PtrG (σ.new [.fz w0 a0 O.length (pis O),.fz w1 a1 P.length rP,.fz w3 a3 C.length rC]) σ.next (.fz w0 a0 O.length (pis O)) (.fz w1 a1 P.length rP) (.fz w3 a3 C.length rC):=⟨by simp only [pwA,seval,-iQ0],by simp only [pwA,seval,-iQ0]⟩
 refine zB mix Tryz.func78 ?_;simp only [pwA,seval,-iQ0]
 by_cases h6:O.length≤6
 rotate_left
 ·have h6':(6:Int)<(O.length:Int):=by omega
  simp only [pwA,seval,-iQ0,h6'];exact no (fun h=>h6 h.1) hkp
 have h6':¬(6:Int)<(O.length:Int):=by omega
 by_cases hPl:P.length=O.length
 rotate_left
 ·have hPl':¬(P.length:Int)=(O.length:Int):=by omega
  simp only [pwA,seval,-iQ0,h6',hPl'];exact no (fun h=>hPl h.2.1) hkp
 have hPl':(P.length:Int)=(O.length:Int):=by omega
 by_cases hCl:C.length=O.length
 rotate_left
 ·have hCl':¬(C.length:Int)=(O.length:Int):=by omega
  simp only [pwA,seval,-iQ0,h6',eq_true hPl',hCl'];exact no (fun h=>hCl h.2.2.1) hkp
 have hCl':(C.length:Int)=(O.length:Int):=by omega
 simp only [pwA,seval,-iQ0,h6',eq_true hPl',eq_true hCl'];refine zD (fun m vs h'=>∃i:Nat,i≤O.length∧m=O.length-i∧vs=[.ptr σ.next 0,.int .i64 O.length,.int .i64 (prodL (O.take i)),.fz w0 a0 O.length (pis O),.int .i64 O.length,.int .i64 i]∧h'=σ.new [.fz w0 a0 O.length (pis O),.fz w1 a1 P.length rP,.fz w3 a3 C.length rC]∧(∀o∈O.take i,isP o)∧prodL (O.take i)≤729) O.length ?_ ?_
 ·exact⟨0,by omega,by omega,rfl,rfl,by simp,by simp [prodL]⟩
 rintro m vs h' ⟨i,hi,rfl,rfl,rfl,hall,hpr⟩
 simp only [pwA,seval,-iQ0];refine iteI (fun hlt=>?_) fun hge=>?_
 ·simp only [pwA,seval,-iQ0,hlt,gi hlt,zL]
  refine zF6 ?_
  by_cases hp:isP O[i]
  rotate_left
  ·simp only [pwA,seval,-iQ0,hp]
   exact no (fun h=>hp (h.2.2.2.1 _ (List.getElem_mem hlt))) hkp
  have hpb:=hp.bd;have h1:=zAe hall;have hm1:0≤prodL (O.take i)*O[i]:=Int.mul_nonneg (by omega) (by omega)
  have hm2:=Int.mul_le_mul hpr hpb.2 (by omega) (by omega)
  have hw:IntKind.i64.wrap (prodL (O.take i)*O[i])=prodL (O.take i)*O[i]:=wrap64 (by omega) (by omega)
  by_cases ho:prodL (O.take i)*O[i]≤729
  ·have ho':¬(729:Int)<prodL (O.take i)*O[i]:=by omega
   simp only [pwA,seval,-iQ0,hp,hw,ho',hlt,gi hlt,zL,wrapS hlt (by omega:O.length≤4611686018427387904)]
   refine⟨_,by omega,i+1,by omega,rfl,?_,zAI hlt hall hp,?_⟩
   ·rw [zAC hlt]
   ·rw [zAC hlt];exact ho
  ·have ho':(729:Int)<prodL (O.take i)*O[i]:=by omega
   simp only [pwA,seval,-iQ0,hp,hw,ho'];refine no (fun h=>?_) hkp
   have:=zKf h.2.2.2.1 (i+1)
   rw [zAC hlt]at this
   have:=h.2.2.2.2.1
   omega
 have hie:i=O.length:=by omega
 subst hie;rw [List.take_length]at hall hpr
 refine zD (fun m vs h'=>∃i:Nat,i≤O.length∧m=O.length-i∧vs=[.ptr σ.next 0,.int .i64 O.length,.int .i64 O.length,.int .i64 i]∧h'=σ.new [.fz w0 a0 O.length (pis O),.fz w1 a1 P.length rP,.fz w3 a3 C.length rC]∧∀j,j<i→rowPr O P C j) O.length ?_ ?_
 ·exact⟨0,by omega,by omega,rfl,rfl,fun j hj=>by omega⟩
 rintro m vs h' ⟨i,hi,rfl,rfl,rfl,hrow⟩
 simp only [pwA,seval,-iQ0];refine iteI (fun hlt=>?_) fun hge=>?_
 rotate_left
 ·exact fin ⟨fun _=>⟨h6,hPl,hCl,hall,hpr,fun j hj=>hrow j (by omega)⟩,fun _=>rfl⟩ hkp
 have hiP:i<P.length:=by omega
 have hiC:i<C.length:=by omega
 obtain⟨w4,a4,hr⟩:=hP.rowI hiP;obtain⟨w5,a5,rs,hrb,hrs⟩:=hC.rowL hiC;have hwl:=szP.r _ (List.getElem_mem hiP);have hbl:=(szC.r _ (List.getElem_mem hiC)).l;have bad:(QO O (i+1) P[i]→C[i].length=O.length-1-i→(∀k (h:k<C[i].length),QO O (i+1) C[i][k])→False)→¬qi O P C:=fun hb hsh=>by
  obtain⟨q1,q3,q4⟩:=hsh.2.2.2.2.2 i hlt;rw [zAZ hiP]at q1
  rw [ZG hiC]at q3
  refine hb q1 q3 fun k h=>?_
  have:=q4 k (by rw [ZG hiC];exact h)
  rwa [ZG hiC,ZG h]at this
 simp only [pwA,seval,-iQ0,hiP,hr];refine zCp hpt hFO sz.O hall ⟨_,_,rfl⟩ hwl hlt fun t ht=>?_
 cases t with
 | false=>
  simp only [pwA,seval,-iQ0];exact no (bad fun q _ _=>by cases ht.2 q) hkp
 | true=>
 have hv:=ht.1 rfl;have e1:IntKind.i64.wrap ((O.length:Int)-1)=(O.length:Int)-1:=wrap64 (by omega) (by omega)
 have e2:IntKind.i64.wrap ((O.length:Int)-1-(i:Int))=(O.length:Int)-1-(i:Int):=wrap64 (by omega) (by omega)
 by_cases hlen:C[i].length=O.length-1-i
 rotate_left
 ·have hlen':¬(C[i].length:Int)=(O.length:Int)-1-(i:Int):=by omega
  simp only [pwA,seval,-iQ0,hlt,hiC,hrb,e1,e2,hlen'];exact no (bad fun _ q _=>hlen q) hkp
 have hlen':(C[i].length:Int)=(O.length:Int)-1-(i:Int):=by omega
 simp only [pwA,seval,-iQ0,hlt,hiC,hrb,e1,e2,eq_true hlen'];refine zD (fun m vs h'=>∃k:Nat,k≤C[i].length∧m=C[i].length-k∧vs=[.ptr σ.next 0,.int .i64 O.length,.int .i64 i,.int .i64 O.length,.int .i64 i,.fz w5 a5 C[i].length rs,.int .i64 C[i].length,.int .i64 k]∧
  h'=σ.new [.fz w0 a0 O.length (pis O),.fz w1 a1 P.length rP,.fz w3 a3 C.length rC]∧∀j (h:j<C[i].length),j<k→QO O (i+1) C[i][j]) C[i].length ?_ ?_
 ·exact⟨0,by omega,by omega,rfl,rfl,fun j h hj=>by omega⟩
 rintro m vs h' ⟨k,hk',rfl,rfl,rfl,hall2⟩
 simp only [pwA,seval,-iQ0];refine iteI (fun hlt2=>?_) fun hge=>?_
 ·obtain⟨w6,a6,hrk⟩:=hrs.rowI hlt2
  have hcl:=(szC.r _ (List.getElem_mem hiC)).r _ (List.getElem_mem hlt2);simp only [pwA,seval,-iQ0,hlt2,hrk];refine zCp hpt hFO sz.O hall ⟨_,_,rfl⟩ hcl hlt fun t ht=>?_
  cases t with
  | false=>
   simp only [pwA,seval,-iQ0];exact no (bad fun _ _ q=>by cases ht.2 (q k hlt2)) hkp
  | true=>
   simp only [pwA,seval,-iQ0,wrapS hlt2 (by omega:C[i].length≤4611686018427387904)]
   refine⟨_,by omega,k+1,by omega,rfl,rfl,fun j h hj=>?_⟩
   by_cases e:j=k
   ·subst e;exact ht.1 rfl
   ·exact hall2 j h (by omega)
 ·simp only [pwA,seval,-iQ0,wrapS hlt (by omega:O.length≤4611686018427387904)]
  refine⟨_,by omega,i+1,by omega,rfl,rfl,fun j hj=>?_⟩
  by_cases e:j=i
  ·subst e
   refine⟨by rw [zAZ hiP];exact hv,by rw [ZG hiC];exact hlen,fun t ht=>?_⟩
   rw [ZG hiC]at ht ⊢
   rw [ZG ht];exact hall2 t ht (by omega)
  ·exact hrow j (by omega)
end Go.Proofs
namespace Go.Grp
end Go.Grp
namespace Go.Proofs
open Go.Ab Go.Lie Go.Grp
variable {σ:PHeap} {K:PV→PHeap→Prop} {O:List Int} {P:List (List Int)} {C:List (List (List Int))} {vO vP vC vx:PV} {s:Nat} {x:List Int}
theorem zAE {t:Nat} {z:Int} (hz:z=(t:Int)-1) (ht:t≤O.length) (hO:FI vO O) (szO:O.length≤1048576) (bO:∀o∈O,isP o) (hx:FI vx x) (hb:x.length≤1048576) (hk:∀b:Bool,(b=true↔QO O t x)→K (.bool b) σ):zA Tryz.prog 100 [vO,vx,.int .i64 z] σ K:=by
 have fl:∀{A:Prop},¬A→((false=true)↔A):=fun h=>⟨fun x=>(by cases x),fun x=>absurd x h⟩
 obtain⟨wo,ao,rfl⟩:=hO;obtain⟨wx,ax,rfl⟩:=hx;subst hz;refine zB mix Tryz.func100 ?_;simp only [pwA,seval,-iQ0];refine iteI (fun hl=>?_) fun hl=>?_
 rotate_left
 ·exact hk _ (fl fun h=>hl (by rw [h.1.1]))
 have hl:x.length=O.length:=by omega
 refine zD (fun m vs h'=>∃i:Nat,i≤x.length∧m=x.length-i∧vs=[.fz wo ao O.length (pis O),.fz wx ax x.length (pis x),.int .i64 ((t:Int)-1),.int .i64 i]∧σ=h'∧∀j,j<i→(0≤at_ x j∧at_ x j≤at_ O j-1)∧(j<t→at_ x j=0)) x.length ?_ ?_
 ·exact⟨0,by omega,by omega,rfl,rfl,fun j hj=>by omega⟩
 rintro m vs h' ⟨i,hi,rfl,rfl,rfl,hall⟩
 simp only [pwA,seval,-iQ0];refine iteI (fun hlt=>?_) fun hge=>?_
 rotate_left
 ·refine hk _ ⟨fun _=>⟨⟨hl,fun j hj=>(hall j (by omega)).1⟩,fun y hy=>?_⟩,fun _=>rfl⟩
  rw [List.mem_take_iff_getElem]at hy
  obtain⟨j,hj,rfl⟩:=hy
  have:=(hall j (by omega)).2 (by omega)
  rwa [at_eq (by omega)]at this
 have hO':i<O.length:=by omega
 have bo:=(bO _ (List.getElem_mem hO')).bd;simp only [pwA,seval,-iQ0,hlt,hO',gi hlt,gi hO',zL,wrap64 (n:=O[i] - 1) (by omega) (by omega)]
 refine zOn ?_
 by_cases hin:0≤x[i]∧x[i]≤O[i] - 1
 rotate_left
 ·simp only [pwA,seval,-iQ0,hin]
  exact hk _ (fl fun h=>hin (by have:=h.1.2 i hlt;rwa [at_eq hlt,at_eq hO']at this))
 have next:(i<t→x[i]=0)→∃n',n'<x.length-i∧∃i':Nat,i'≤x.length∧n'=x.length-i'∧[PV.fz wo ao O.length (pis O),.fz wx ax x.length (pis x),.int .i64 ((t:Int)-1),.int .i64 ((i+1:Nat):Int)]=[.fz wo ao O.length (pis O),.fz wx ax x.length (pis x),.int .i64 ((t:Int)-1),.int .i64 i']∧∀j,j<i'→(0≤at_ x j∧at_ x j≤at_ O j-1)∧(j<t→at_ x j=0):=fun h0=>by
  refine⟨_,by omega,i+1,by omega,rfl,rfl,fun j hj=>?_⟩
  by_cases e:j=i
  ·subst e;rw [at_eq hlt,at_eq hO'];exact⟨hin,h0⟩
  ·exact hall j (by omega)
 by_cases hle:(i:Int)≤(t:Int)-1
 ·simp only [pwA,seval,-iQ0,hin,hle,hlt,gi hlt,zL]
  refine iteI (fun h0=>?_) fun h0=>?_
  ·simp only [pwA,seval,-iQ0,wrapS hlt (by omega:x.length≤4611686018427387904)]
   exact next fun _=>h0
  ·refine hk _ (fl fun h=>h0 ?_)
   exact h.2 _ (by rw [List.mem_take_iff_getElem];exact⟨i,by omega,rfl⟩)
 ·simp only [pwA,seval,-iQ0,hin,hle,hlt,wrapS hlt (by omega:x.length≤4611686018427387904)]
  exact next fun h=>absurd h (by omega)
theorem zHA (hO:FI vO O) (szO:O.length≤6) (bO:∀o∈O,isP o) (hk:∀r:Int,(r≤729↔prodL O≤729)→K (.int .i64 r) σ):zA Tryz.prog 99 [vO] σ K:=by
 obtain⟨wo,ao,rfl⟩:=hO;refine zB mix Tryz.func99 ?_;simp only [pwA,seval,-iQ0];refine zD (fun m vs h'=>∃(i:Nat) (r:Int),i≤O.length∧m=O.length-i∧vs=[.fz wo ao O.length (pis O),.int .i64 r,.int .i64 i]∧σ=h'∧(r=prodL (O.take i)∨(729<r∧729<prodL (O.take i)))) O.length ?_ ?_
 ·exact⟨0,1,by omega,by omega,rfl,rfl,.inl (by simp [prodL])⟩
 rintro m vs h' ⟨i,r,hi,rfl,rfl,rfl,hr⟩
 simp only [pwA,seval,-iQ0];refine iteI (fun hlt=>?_) fun hge=>?_
 rotate_left
 ·have hie:i=O.length:=by omega
  subst hie;rw [List.take_length]at hr
  exact hk _ (by omega)
 have bt:∀o∈O.take i,isP o:=fun o ho=>bO o (List.mem_of_mem_take ho)
 have h1:=zAe bt;have hp:=bO _ (List.getElem_mem hlt);have hpb:=hp.bd;have hs:=zAC hlt;refine iteI (fun hle=>?_) fun hgt=>?_
 ·have hre:r=prodL (O.take i):=by omega
  subst hre;have hm1:0≤prodL (O.take i)*O[i]:=Int.mul_nonneg (by omega) (by omega)
  have hm2:=Int.mul_le_mul hle hpb.2 (by omega) (by omega)
  simp only [pwA,seval,-iQ0,hlt,gi hlt,zL,wrap64 (n:=prodL (O.take i)*O[i]) (by omega) (by omega),wrapS hlt (by omega:O.length≤4611686018427387904)]
  exact⟨_,by omega,i+1,_,by omega,rfl,rfl,.inl hs.symm⟩
 ·simp only [pwA,seval,-iQ0,wrapS hlt (by omega:O.length≤4611686018427387904)]
  refine⟨_,by omega,i+1,_,by omega,rfl,rfl,.inr ⟨by omega,?_⟩⟩
  have hm2:=Int.mul_le_mul (Int.le_refl (prodL (O.take i))) hpb.1 (by omega) (by omega)
  omega
theorem zCb (hR:IsPr vO vP vC O P C) (sz:SzP O P C) (hk:∀t:Bool,(t=true↔qi O P C)→K (.bool t) σ):zA Tryz.prog 53 [.agg [vO,vP,vC]] σ K:=by
 have hFO:=hR.O;have szP:=sz.P;have szC:=sz.C;obtain⟨⟨w0,a0,rfl⟩,⟨w1,a1,rP,rfl,hP⟩,⟨w3,a3,rC,rfl,hC⟩⟩:=hR;refine zA.gh ?_;have fin:∀{t:Bool} {σ':PHeap},(t=true↔qi O P C)→Keep σ σ'→Gh σ K (.bool t) σ':=fun h k=>Gh.fin0 k trivial (hk _ h)
 have no:∀{σ':PHeap},¬qi O P C→Keep σ σ'→Gh σ K (.bool false) σ':=fun h k=>fin ⟨fun x=>(by cases x),fun x=>absurd x h⟩ k
 have hkp:=zC σ [.fz w0 a0 O.length (pis O),.fz w1 a1 P.length rP,.fz w3 a3 C.length rC];refine QA mix Tryz.func53 ?_;simp only [pwA,seval,-iQ0]
 by_cases h6:O.length≤6
 rotate_left
 ·have h6':(6:Int)<(O.length:Int):=by omega
  simp only [pwA,seval,-iQ0,h6'];exact no (fun h=>h6 h.1) hkp
 have h6':¬(6:Int)<(O.length:Int):=by omega
 by_cases hPl:P.length=O.length
 rotate_left
 ·have hPl':¬(P.length:Int)=(O.length:Int):=by omega
  simp only [pwA,seval,-iQ0,h6',hPl'];exact no (fun h=>hPl h.2.1) hkp
 have hPl':(P.length:Int)=(O.length:Int):=by omega
 by_cases hCl:C.length=O.length
 rotate_left
 ·have hCl':¬(C.length:Int)=(O.length:Int):=by omega
  simp only [pwA,seval,-iQ0,h6',eq_true hPl',hCl'];exact no (fun h=>hCl h.2.2.1) hkp
 have hCl':(C.length:Int)=(O.length:Int):=by omega
 simp only [pwA,seval,-iQ0,h6',eq_true hPl',eq_true hCl'];refine zD (fun m vs h'=>∃i:Nat,i≤O.length∧m=O.length-i∧vs=[.ptr σ.next 0,.int .i64 O.length,.int .i64 i]∧h'=σ.new [.fz w0 a0 O.length (pis O),.fz w1 a1 P.length rP,.fz w3 a3 C.length rC]∧(∀o∈O.take i,isP o)) O.length ?_ ?_
 ·exact⟨0,by omega,by omega,rfl,rfl,by simp⟩
 rintro m vs h' ⟨i,hi,rfl,rfl,rfl,hall⟩
 simp only [pwA,seval,-iQ0];refine iteI (fun hlt=>?_) fun hge=>?_
 ·simp only [pwA,seval,-iQ0,hlt,gi hlt,zL]
  refine zJh ?_
  by_cases hp:isP O[i]
  rotate_left
  ·simp only [pwA,seval,-iQ0,hp]
   exact no (fun h=>hp (h.2.2.2.1 _ (List.getElem_mem hlt))) hkp
  simp only [pwA,seval,-iQ0,hp,wrapS hlt (by omega:O.length≤4611686018427387904)]
  exact⟨_,by omega,i+1,by omega,rfl,rfl,zAI hlt hall hp⟩
 have hie:i=O.length:=by omega
 subst hie;rw [List.take_length]at hall
 simp only [pwA,seval,-iQ0];refine zHA hFO h6 hall fun r hr=>?_
 by_cases hpr:prodL O≤729
 rotate_left
 ·have:(729:Int)<r:=by omega
  simp only [pwA,seval,-iQ0,this];exact no (fun h=>hpr h.2.2.2.2.1) hkp
 have:¬(729:Int)<r:=by omega
 simp only [pwA,seval,-iQ0,this];refine zD (fun m vs h'=>∃i:Nat,i≤O.length∧m=O.length-i∧vs=[.ptr σ.next 0,.int .i64 O.length,.int .i64 i]∧h'=σ.new [.fz w0 a0 O.length (pis O),.fz w1 a1 P.length rP,.fz w3 a3 C.length rC]∧∀j,j<i→rowPr O P C j) O.length ?_ ?_
 ·exact⟨0,by omega,by omega,rfl,rfl,fun j hj=>by omega⟩
 rintro m vs h' ⟨i,hi,rfl,rfl,rfl,hrow⟩
 simp only [pwA,seval,-iQ0];refine iteI (fun hlt=>?_) fun hge=>?_
 rotate_left
 ·exact fin ⟨fun _=>⟨h6,hPl,hCl,hall,hpr,fun j hj=>hrow j (by omega)⟩,fun _=>rfl⟩ hkp
 have hiP:i<P.length:=by omega
 have hiC:i<C.length:=by omega
 obtain⟨w4,a4,hr⟩:=hP.rowI hiP;obtain⟨w5,a5,rs,hrb,hrs⟩:=hC.rowL hiC;have hwl:=szP.r _ (List.getElem_mem hiP);have hbl:=(szC.r _ (List.getElem_mem hiC)).l;have bad:(QO O (i+1) P[i]→C[i].length=O.length-1-i→(∀k (h:k<C[i].length),QO O (i+1) C[i][k])→False)→¬qi O P C:=fun hb hsh=>by
  obtain⟨q1,q3,q4⟩:=hsh.2.2.2.2.2 i hlt;rw [zAZ hiP]at q1
  rw [ZG hiC]at q3
  refine hb q1 q3 fun k h=>?_
  have:=q4 k (by rw [ZG hiC];exact h)
  rwa [ZG hiC,ZG h]at this
 simp only [pwA,seval,-iQ0,hiP,hr];refine zAE (t:=i+1) (by omega) (by omega) hFO sz.O hall ⟨_,_,rfl⟩ hwl fun t ht=>?_
 cases t with
 | false=>
  simp only [pwA,seval,-iQ0];exact no (bad fun q _ _=>by cases ht.2 q) hkp
 | true=>
 have hv:=ht.1 rfl;have e1:IntKind.i64.wrap ((O.length:Int)-1)=(O.length:Int)-1:=wrap64 (by omega) (by omega)
 have e2:IntKind.i64.wrap ((O.length:Int)-1-(i:Int))=(O.length:Int)-1-(i:Int):=wrap64 (by omega) (by omega)
 by_cases hlen:C[i].length=O.length-1-i
 rotate_left
 ·have hlen':¬(C[i].length:Int)=(O.length:Int)-1-(i:Int):=by omega
  simp only [pwA,seval,-iQ0,hlt,hiC,hrb,e1,e2,hlen'];exact no (bad fun _ q _=>hlen q) hkp
 have hlen':(C[i].length:Int)=(O.length:Int)-1-(i:Int):=by omega
 simp only [pwA,seval,-iQ0,hlt,hiC,hrb,e1,e2,eq_true hlen'];refine zD (fun m vs h'=>∃k:Nat,k≤C[i].length∧m=C[i].length-k∧vs=[.ptr σ.next 0,.int .i64 O.length,.int .i64 i,.int .i64 k]∧
  h'=σ.new [.fz w0 a0 O.length (pis O),.fz w1 a1 P.length rP,.fz w3 a3 C.length rC]∧∀j (h:j<C[i].length),j<k→QO O (i+1) C[i][j]) C[i].length ?_ ?_
 ·exact⟨0,by omega,by omega,rfl,rfl,fun j h hj=>by omega⟩
 rintro m vs h' ⟨k,hk',rfl,rfl,rfl,hall2⟩
 simp only [pwA,seval,-iQ0,hiC,hrb];refine iteI (fun hlt2=>?_) fun hge=>?_
 ·obtain⟨w6,a6,hrk⟩:=hrs.rowI hlt2
  have hcl:=(szC.r _ (List.getElem_mem hiC)).r _ (List.getElem_mem hlt2);simp only [pwA,seval,-iQ0,hiC,hrb,hlt2,hrk];refine zAE (t:=i+1) (by omega) (by omega) hFO sz.O hall ⟨_,_,rfl⟩ hcl fun t ht=>?_
  cases t with
  | false=>
   simp only [pwA,seval,-iQ0];exact no (bad fun _ _ q=>by cases ht.2 (q k hlt2)) hkp
  | true=>
   simp only [pwA,seval,-iQ0,wrapS hlt2 (by omega:C[i].length≤4611686018427387904)]
   refine⟨_,by omega,k+1,by omega,rfl,rfl,fun j h hj=>?_⟩
   by_cases e:j=k
   ·subst e;exact ht.1 rfl
   ·exact hall2 j h (by omega)
 ·simp only [pwA,seval,-iQ0,wrapS hlt (by omega:O.length≤4611686018427387904)]
  refine⟨_,by omega,i+1,by omega,rfl,rfl,fun j hj=>?_⟩
  by_cases e:j=i
  ·subst e
   refine⟨by rw [zAZ hiP];exact hv,by rw [ZG hiC];exact hlen,fun t ht=>?_⟩
   rw [ZG hiC]at ht ⊢
   rw [ZG ht];exact hall2 t ht (by omega)
  ·exact hrow j (by omega)
end Go.Proofs
namespace Go.Grp
end Go.Grp
namespace Go.Proofs
open Go.Ab Go.Lie Go.Grp
variable {σ:PHeap} {K:PV→PHeap→Prop} {O O':List Int} {P P':List (List Int)} {C C':List (List (List Int))} {vO vP vC vO' vP' vC':PV}
structure MxP (O:List Int) (P:List (List Int)) (C:List (List (List Int))):Prop where
 o:O.length≤9223372036854775807
 a:P.length≤9223372036854775807
 b:∀x∈P,x.length≤9223372036854775807
 c:C.length≤9223372036854775807
 d:∀q∈C,q.length≤9223372036854775807∧∀x∈q,x.length≤9223372036854775807
theorem zD1 {l:Int} (hR:IsPr vO vP vC O P C) (mx:MxP O P C) (hl:left_ l) (hk:∀r:Int,(r=-1∨(left_ r∧SzP O P C))→K (.int .i64 r) σ):zA Tryz.prog 10 [.agg [vO,vP,vC],.int .i64 l] σ K:=by
 have h0:=hR.O.one;have h1:=hR.P.one;have h2:=hR.C.one;refine zA.gh ?_;have hkp:=zC σ [vO,vP,vC];refine zB mix Tryz.func10 ?_;simp only [pwA,seval,-iQ0,h0,h1,h2];refine zED hR.O mx.o hl fun r h=>?_
 rcases h with rfl|⟨f1,f2⟩
 ·simp only [pwA,seval,-iQ0]
  exact Gh.fin0 hkp trivial (hk _ (.inl rfl))
 have:¬r<0:=by unfold left_ at f1;omega
 simp only [pwA,seval,-iQ0,this,h0,h1,h2];refine zBD hR.P mx.a mx.b f1 fun r h=>?_
 rcases h with rfl|⟨g1,g2⟩
 ·simp only [pwA,seval,-iQ0]
  exact Gh.fin0 hkp trivial (hk _ (.inl rfl))
 have:¬r<0:=by unfold left_ at g1;omega
 simp only [pwA,seval,-iQ0,this,h0,h1,h2];refine zGu hR.C mx.c mx.d g1 fun r' h=>?_
 rcases h with rfl|⟨g3,g4⟩
 ·simp only [pwA,seval,-iQ0]
  exact Gh.fin0 hkp trivial (hk _ (.inl rfl))
 have:¬r'<0:=by unfold left_ at g3;omega
 simp only [pwA,seval,-iQ0,this];exact Gh.fin0 hkp trivial (hk _ (.inr ⟨g3,f2,g2,g4⟩))
theorem Qh (hR:IsPr vO vP vC O P C) (sz:SzP O P C) (hk:∀vO vP vC,IsPr vO vP vC O P C→K (.agg [vO,vP,vC]) σ):zA Tryz.prog 13 [.agg [vO,vP,vC]] σ K:=by
 have h0:=hR.O.one;have h1:=hR.P.one;have h2:=hR.C.one;refine zA.gh ?_;refine zB mix Tryz.func13 ?_;simp only [pwA,seval,-iQ0,h0,h1,h2];refine zEC hR.O sz.O fun v0 hv0=>?_
 simp only [pwA,seval,-iQ0,hv0.cells,hv0.one];refine QU hR.P sz.P fun v1 hv1=>?_
 simp only [pwA,seval,-iQ0,hv0.one,hv1.cells,hv1.one];refine zGt hR.C sz.C fun v2 hv2=>?_
 simp only [pwA,seval,-iQ0,hv2.cells,hv2.one,hv1.one,hv0.one];exact Gh.fin0 (v:=.agg [v0,v1,v2]) (((zC σ _).new _).new _) ⟨hv0.bel _,hv1.bel _,hv2.bel _,trivial⟩ (hk v0 v1 v2 ⟨hv0,hv1,hv2⟩)
theorem zAt (hR:IsPr vO vP vC O P C) (hR':IsPr vO' vP' vC' O' P' C') (sz:SzP O P C) (hk:∀t:Bool,(t=true↔O=O'∧P=P'∧C=C')→K (.bool t) σ):zA Tryz.prog 16 [.agg [vO,vP,vC],.agg [vO',vP',vC']] σ K:=by
 have h0:=hR.O.one;have h1:=hR.P.one;have h2:=hR.C.one;have h0':=hR'.O.one;have h1':=hR'.P.one;have h2':=hR'.C.one;refine zA.gh ?_;have hkp:Keep σ ((σ.new [vO,vP,vC]).new [vO',vP',vC']):=(zC σ _).new _;have fin:∀{t:Bool},(t=true↔O=O'∧P=P'∧C=C')→Gh σ K (.bool t) ((σ.new [vO,vP,vC]).new [vO',vP',vC']):=fun h=>Gh.fin0 hkp trivial (hk _ h)
 have fl:∀{A:Prop},¬A→((false=true)↔A):=fun h=>⟨fun x=>(by cases x),fun x=>absurd x h⟩
 refine zB mix Tryz.func16 ?_;simp only [pwA,seval,-iQ0,h0,h1,h2,h0',h1',h2'];refine zEX hR.O hR'.O (by have:=sz.O;omega) ?_
 by_cases ho:O=O'
 rotate_left
 ·simp only [pwA,seval,-iQ0,ho]
  exact fin (fl fun h=>ho h.1)
 simp only [pwA,seval,-iQ0,eq_true ho,h0,h1,h2,h0',h1',h2'];refine zAK hR.P hR'.P sz.P fun t ht=>?_
 cases t with
 | false=>
  simp only [pwA,seval,-iQ0];exact fin (fl fun h=>by cases ht.2 h.2.1)
 | true=>
 simp only [pwA,seval,-iQ0,h0,h1,h2,h0',h1',h2'];refine zHH hR.C hR'.C sz.C fun t ht'=>?_
 have:=fin (t:=t) ⟨fun h=>⟨ho,ht.1 rfl,ht'.1 h⟩,fun h=>ht'.2 h.2.2⟩
 cases t with
 | false=>
  simp only [pwA,seval,-iQ0];exact this
 | true=>
  simp only [pwA,seval,-iQ0];exact this
end Go.Proofs
namespace Go.Grp
end Go.Grp
namespace Go.Proofs
open Go.Ab Go.Lie Go.Grp
variable {σ:PHeap} {K:PV→PHeap→Prop} {O:List Int} {P:List (List Int)} {C:List (List (List Int))} {vO vP vC vx:PV} {s:Nat} {x:List Int} {rP rC:List PV}
theorem pisAt {i:Nat} (h:i<x.length):(pis x)[i]? = some (.int .i64 (at_ x i)):=by rw [zL,gi h,at_eq h];rfl
theorem pvRow (s:Shp O P C) (hP:All2 FI rP P) {i:Nat} (hi:i<O.length):∃w a,rP[i]? = some (.fz w a O.length (pis (pvec P i))):=by
 have hiP:i<P.length:=by rw [s.pl];exact hi
 obtain⟨w,a,h⟩:=hP.rowI hiP;refine⟨w,a,?_⟩;have e:pvec P i=P[i]:=zAZ hiP;rw [h,e,show P[i].length=O.length by rw [←e];exact(s.pw i hi).len]
theorem cvRow (s:Shp O P C) (hC:All2 FII rC C) {i:Nat} (hi:i<O.length):∃w a rs,rC[i]? = some (.fz w a (O.length-1-i) rs)∧∀q,q<O.length-1-i→∃w' a',rs[q]? = some (.fz w' a' O.length (pis (cvec C i (i+(1+q))))):=by
 have hiC:i<C.length:=by rw [s.cl];exact hi
 obtain⟨w,a,rs,h,hrs⟩:=hC.rowL hiC;have e:C.getD i []=C[i]:=ZG hiC;have hl:C[i].length=O.length-1-i:=by rw [←e];exact s.row i hi
 refine⟨w,a,rs,by rw [h,hl],fun q hq=>?_⟩
 have hq':q<C[i].length:=by omega
 obtain⟨w',a',h'⟩:=hrs.rowI hq';have e2:cvec C i (i+(1+q))=C[i][q]:=by
  show(C.getD i []).getD (i+(1+q)-i-1) []=_
  rw [e,show i+(1+q)-i-1=q by omega];exact zAZ hq'
 exact⟨w',a',by rw [h',e2,show C[i][q].length=O.length by rw [←e2];exact(s.cj i _ (by omega) (by omega)).len]⟩
theorem FI.mk {w:Bool} {a:AV} {n:Nat} (h:x.length=n):FI (.fz w a n (pis x)) x:=⟨w,a,by rw [h]⟩
def AtOK (O:List Int) (P:List (List Int)) (C:List (List (List Int))) (d i:Nat):Prop:=
 ∀{σ:PHeap} {K:PV→PHeap→Prop} {a b:List Int} {va vb vO vP vC:PV},IsPr vO vP vC O P C→TT O i a→TT O i b→FI va a→FI vb b→(∀v,FI v (mu O P C d a b)→K v σ)→zA Tryz.prog 157 [.agg [vO,vP,vC],.int .i64 i,va,vb] σ K
theorem Qp (s:Shp O P C) {d i:Nat} (hi:O.length=d+(i+1)) (hAt:AtOK O P C d (i+1)) (hR:IsPr vO vP vC O P C) (hx:TT O 0 x) (hvx:FI vx x) (hk:∀v,FI v (Grp.img O C (mu O P C d) i x)→K v σ):
  zA Tryz.prog 205 [.agg [vO,vP,vC],.int .i64 i,vx] σ K:=by
 have hn6:=s.le;have hR0:=hR;have hl:=hx.len;have hil:i<O.length:=by omega
 have hm:∀a b,TT O (i+1) a→TT O (i+1) b→TT O (i+1) (mu O P C d a b):=fun a b ha hb=>by
  have:=mu_tt s (d:=d) (a:=a) (b:=b) (by omega) (by rwa [show O.length-d=i+1 by omega]) (by rwa [show O.length-d=i+1 by omega])
  rwa [show O.length-d=i+1 by omega]at this
 obtain⟨⟨w0,a0,rfl⟩,⟨w1,a1,rP,rfl,hP⟩,⟨w3,a3,rC,rfl,hC⟩⟩:=hR;obtain⟨w5,a5,rs,hrb,hrs⟩:=cvRow s hC hil;have hiC:i<C.length:=by rw [s.cl];exact hil
 obtain⟨wx,ax,rfl⟩:=hvx;rw [hl];refine zA.gh ?_;refine zB mix Tryz.func205 ?_;simp only [pwA,seval,-iQ0,List.length_replicate,ZJ,mk8 (n:=O.length) (by omega),mkL (n:=O.length) (by omega),wrapS hil (by omega:O.length≤4611686018427387904)]
 have hkp:Keep σ (((σ.new [.fz w0 a0 O.length (pis O),.fz w1 a1 P.length rP,.fz w3 a3 C.length rC]).new (pis (zv O))).kill (σ.next+1)):=((zC σ _).new _).kill (by omega)
 refine Qt (fun m vs h'=>∃(q:Nat) (vo:PV) (A:List Int),q≤d∧m=d-q∧vs=[.int .i64 i,.fz wx ax O.length (pis x),.ptr σ.next 0,.int .i64 O.length,vo,.int .i64 ((i+(1+q):Nat):Int)]∧
  h'=((σ.new [.fz w0 a0 O.length (pis O),.fz w1 a1 P.length rP,.fz w3 a3 C.length rC]).new (pis (zv O))).kill (σ.next+1)∧FI vo A∧TT O (i+1) A∧fo (mu O P C d) (cvec C i) (nx x) (i+(1+q)) (d-q) A=Grp.img O C (mu O P C d) i x) d ?_ ?_
 ·refine .fz (σ.next+1) (pis (zv O)) (by simp only [pwA,seval,-iQ0]) (zo _ _) fun o1=>.here ?_
  refine⟨0,.fz true (.sl o1 0 O.length (.known O.length)) O.length (pis (zv O)),zv O,by omega,by omega,?_,rfl,FI.mk (by simp),s.zv _,?_⟩
  ·simp only [pwA,seval,-iQ0]
   simp only [sbs,sb,capOK,Nat.le_refl,decide_true,and_self,if_true]
  ·show _=fo _ _ _ (i+1) (O.length-1-i) (zv O)
   rw [show O.length-1-i=d by omega];rfl
 rintro m vs h' ⟨q,vo,A,hq,rfl,rfl,rfl,hvo,hA,hfo⟩
 simp only [pwA,seval,-iQ0];refine iteI (fun hlt=>?_) fun hge=>?_
 rotate_left
 ·have hqd:q=d:=by omega
  subst hqd;rw [Nat.sub_self]at hfo
  have:A=Grp.img O C (mu O P C q) i x:=hfo
  rw [←this]at hk
  exact Gh.fin0 hkp (hvo.bel _) (hk _ hvo)
 have hqd:q<d:=by omega
 have hjl:i+(1+q)<x.length:=by omega
 have bx:=hx.bd (i+(1+q)) (by omega)
 have bO:=s.pr (i+(1+q)) (by omega)
 obtain⟨w6,a6,hrk⟩:=hrs q (by omega)
 have hjr:q<O.length-1-i:=by omega
 have hcv:=s.cj i (i+(1+q)) (by omega) (by omega)
 have e3:IntKind.i64.wrap (((i+(1+q):Nat):Int)-(i:Int))=((1+q:Nat):Int):=by rw [wrap64 (by omega) (by omega)];omega
 have e4:IntKind.i64.wrap (((1+q:Nat):Int)-1)=(q:Int):=by rw [wrap64 (by omega) (by omega)];omega
 have e5:IntKind.i64.wrap (((i+(1+q):Nat):Int)+1)=((i+(1+(q+1)):Nat):Int):=by rw [wrap64 (by omega) (by omega)];omega
 rw [show d-q=(d-q-1)+1 by omega]at hfo
 refine zD (fun m vs h'=>∃(k:Nat) (vo:PV) (A:List Int),k≤nx x (i+(1+q))∧m=nx x (i+(1+q))-k∧vs=[.int .i64 i,.fz wx ax O.length (pis x),.ptr σ.next 0,.int .i64 O.length,vo,.int .i64 ((i+(1+q):Nat):Int),.int .i64 k]∧
  h'=((σ.new [.fz w0 a0 O.length (pis O),.fz w1 a1 P.length rP,.fz w3 a3 C.length rC]).new (pis (zv O))).kill (σ.next+1)∧FI vo A∧TT O (i+1) A∧fo (mu O P C d) (cvec C i) (nx x) (i+(1+q)+1) (d-q-1) (rep (mu O P C d) (cvec C i (i+(1+q))) (nx x (i+(1+q))-k) A)=Grp.img O C (mu O P C d) i x) (nx x (i+(1+q))) ?_ ?_
 ·exact⟨0,vo,A,by omega,by omega,rfl,rfl,hvo,hA,hfo⟩
 rintro m vs h' ⟨k,vo,A,hkn,rfl,rfl,rfl,hvo,hA,hfo⟩
 have hnx:((nx x (i+(1+q)):Nat):Int)=at_ x (i+(1+q)):=Int.toNat_of_nonneg bx.1;simp only [pwA,seval,-iQ0,pisAt hjl,hjl,hl ▸ hjl];refine iteI (fun hlt2=>?_) fun hge2=>?_
 ·have hlt3:k<nx x (i+(1+q)):=by omega
  simp only [pwA,seval,-iQ0,wrapS hil (by omega:O.length≤4611686018427387904),hiC,hrb,e3,e4,hjr,hrk]
  refine hAt hR0 hA hcv hvo (FI.mk hcv.len) fun v hv=>?_
  simp only [pwA,seval,-iQ0,wrapS hlt3 (by omega:nx x (i+(1+q))≤4611686018427387904)]
  refine⟨_,by omega,k+1,v,_,by omega,rfl,rfl,hv,hm _ _ hA hcv,?_⟩
  rw [show nx x (i+(1+q))-k=(nx x (i+(1+q))-(k+1))+1 by omega]at hfo
  exact hfo
 ·have hke:k=nx x (i+(1+q)):=by omega
  subst hke;simp only [pwA,seval,-iQ0,e5];refine⟨d-(q+1),by omega,.here ⟨q+1,vo,A,by omega,rfl,rfl,rfl,hvo,hA,?_⟩⟩
  rw [Nat.sub_self]at hfo
  rw [show d-(q+1)=d-q-1 by omega]
  exact hfo
theorem zAW (s:Shp O P C):∀{d i:Nat},O.length=d+i→AtOK O P C d i
 | 0,i,hi=>by
  rename_i σ K a b va vb vO vP vC
  intro hR ha hb hva hvb hk;have hn6:=s.le;obtain⟨⟨w0,a0,rfl⟩,⟨w1,a1,rP,rfl,hP⟩,⟨w3,a3,rC,rfl,hC⟩⟩:=hR;refine zA.gh ?_;have hge:(O.length:Int)≤(i:Int):=by omega
  refine zB mix Tryz.func157 ?_;simp only [pwA,seval,-iQ0,hge,List.length_replicate,ZJ,mk8 (n:=O.length) (by omega),mkL (n:=O.length) (by omega)]
  exact Gh.finF (s:=σ.next+1) ((zC σ _).new _) (by simp only [pwA,seval,-iQ0];rfl) (by omega) (zo _ _) (by simp [capOK]) fun o1=>hk _ (FI.mk (by simp [mu]))
 | d+1,i,hi=>by
  rename_i σ K a b va vb vO vP vC
  intro hR ha hb hva hvb hk;have hAt:AtOK O P C d (i+1):=zAW s (by omega)
  have hn6:=s.le;have hR0:=hR;have hil:i<O.length:=by omega
  have hO:=s.pr i hil;have hal:=ha.len;have hbl:=hb.len;have ba:=ha.bd i hil;have bb:=hb.bd i hil;have hpos:=s.pos hil;have h0i:O.length-(d+1)=i:=by omega
  have hm:∀a b,TT O (i+1) a→TT O (i+1) b→TT O (i+1) (mu O P C d a b):=fun a b ha hb=>by
   have:=mu_tt s (d:=d) (a:=a) (b:=b) (by omega) (by rwa [show O.length-d=i+1 by omega]) (by rwa [show O.length-d=i+1 by omega])
   rwa [show O.length-d=i+1 by omega]at this
  obtain⟨⟨w0,a0,rfl⟩,⟨w1,a1,rP,rfl,hP⟩,⟨w3,a3,rC,rfl,hC⟩⟩:=hR;obtain⟨w5,a5,hpr⟩:=pvRow s hP hil;have hiP:i<P.length:=by rw [s.pl];exact hil
  have hpv:=s.pw i hil;obtain⟨wa,aa,rfl⟩:=hva;obtain⟨wb,ab,rfl⟩:=hvb;have hila:i<a.length:=by omega
  have hilb:i<b.length:=by omega
  have hge:¬(O.length:Int)≤(i:Int):=by omega
  have sa:=ha.set0 hil hpos;have sb':=hb.set0 hil hpos;have sal:=sa.len;have sbl:=sb'.len;refine zA.gh ?_;refine zB mix Tryz.func157 ?_;simp only [pwA,seval,-iQ0,hge];refine Zx rfl (by omega) fun cap1 hc1=>?_
  simp only [pwA,seval,-iQ0];refine Zx rfl (by omega) fun cap2 hc2=>?_
  have g1:i<a.length∧i+1≤a.length:=⟨hila,hila⟩;have g2:i<b.length∧i+1≤b.length:=⟨hilb,hilb⟩;simp only [pwA,seval,-iQ0,g1.1,g1.2,g2.1,g2.2,qK,qm hila,qm hilb];refine Qt (fun m vs h'=>∃(k:Nat) (vl vr:PV) (A:List Int),k≤nx b i∧m=nx b i-k∧vs=[.int .i64 i,.fz wa aa a.length (pis a),.fz wb ab b.length (pis b),.ptr σ.next 0,vl,vr,.int .i64 k]∧
   h'=((((σ.new [.fz w0 a0 O.length (pis O),.fz w1 a1 P.length rP,.fz w3 a3 C.length rC]).new (pis (a.set i 0))).new (pis (b.set i 0))).kill (σ.next+1)).kill (σ.next+2)∧FI vl A∧FI vr (b.set i 0)∧TT O (i+1) A∧iter (Grp.img O C (mu O P C d) i) (nx b i-k) A=iter (Grp.img O C (mu O P C d) i) (nx b i) (a.set i 0)) (nx b i) ?_ ?_
  ·refine .fz (σ.next+1) (pis (a.set i 0)) (by simp only [pwA,seval,-iQ0]) (zo _ _) fun o1=>.fz (σ.next+2) (pis (b.set i 0)) (by simp only [pwA,seval,-iQ0]) (zo _ _) fun o2=>.here ?_
   refine⟨0,.fz true (.sl o1 0 a.length cap1) a.length (pis (a.set i 0)),.fz true (.sl o2 0 b.length cap2) b.length (pis (b.set i 0)),a.set i 0,by omega,by omega,?_,rfl,FI.mk (by simp),FI.mk (by simp),sa,rfl⟩
   simp only [pwA,seval,-iQ0];have k1:=hc1.ok;have k2:=hc2.ok;have hne:¬(σ.next+2=σ.next+1):=by omega
   simp only [sbs,sb,k1,k2,hne,false_and,if_false,Nat.le_refl,decide_true,and_self,if_true]
   rfl
  rintro m vs h' ⟨k,vl,vr,A,hkn,rfl,rfl,rfl,hvl,hvr,hA,hit⟩
  have hnx:((nx b i:Nat):Int)=at_ b i:=Int.toNat_of_nonneg bb.1;have hcap1:=hc1.ok;simp only [pwA,seval,-iQ0,pisAt hilb,hilb];refine iteI (fun hlt=>?_) fun hge2=>?_
  ·have hlt3:k<nx b i:=by omega
   simp only [pwA,seval,-iQ0];refine Qp s (by omega) hAt hR0 (hA.mono (Nat.zero_le _)) hvl fun v hv=>?_
   simp only [pwA,seval,-iQ0,wrapS hlt3 (by omega:nx b i≤4611686018427387904)]
   refine⟨nx b i-(k+1),by omega,.here ⟨k+1,v,vr,_,by omega,rfl,rfl,rfl,hv,hvr,zAH s hm _,?_⟩⟩
   rw [show nx b i-k=(nx b i-(k+1))+1 by omega]at hit
   exact hit
  have hke:k=nx b i:=by omega
  subst hke;rw [Nat.sub_self]at hit
  have hA':A=iter (Grp.img O C (mu O P C d) i) (nx b i) (a.set i 0):=hit;subst hA';simp only [pwA,seval,-iQ0,wrapS hil (by omega:O.length≤4611686018427387904)]
  have ir:=hm _ _ hA sb';have irl:=ir.len;refine hAt hR0 hA sb' hvl hvr fun v hv=>?_
  have hab:IntKind.i64.wrap (at_ a i+at_ b i)=at_ a i+at_ b i:=wrap64 (by omega) (by omega)
  have hiO:i<O.length:=hil;simp only [pwA,seval,-iQ0,pisAt hila,pisAt hilb,hila,hilb,pisAt hil,hiO,hab];have hmu:∀c e:List Int,(if at_ a i+at_ b i ≥ at_ O i then(mu O P C d (pvec P i) (mu O P C d (iter (Grp.img O C (mu O P C d) i) (nx b i) (a.set i 0)) (b.set i 0))).set i (at_ a i+at_ b i-at_ O i)else(mu O P C d (iter (Grp.img O C (mu O P C d) i) (nx b i) (a.set i 0)) (b.set i 0)).set i (at_ a i+at_ b i))=mu O P C (d+1) a b:=fun _ _=>by
   simp only [mu,h0i]
  refine iteI (fun hge3=>?_) fun hlt3=>?_
  ·have hsub:IntKind.i64.wrap (at_ a i+at_ b i-at_ O i)=at_ a i+at_ b i-at_ O i:=wrap64 (by omega) (by omega)
   have e:=hmu a b;rw [if_pos hge3]at e
   simp only [pwA,seval,-iQ0,pisAt hil,hiO,hsub,wrapS hil (by omega:O.length≤4611686018427387904),hiP,hpr]
   have ir2:=hm _ _ hpv ir;have ir2l:i<(mu O P C d (pvec P i) (mu O P C d (iter (Grp.img O C (mu O P C d) i) (nx b i) (a.set i 0)) (b.set i 0))).length:=by rw [ir2.len];exact hil
   refine hAt hR0 hpv ir (FI.mk hpv.len) hv fun v2 hv2=>?_
   obtain⟨w7,a7,rfl⟩:=hv2;simp only [pwA,seval,-iQ0,pisAt hil,hiO,hsub,wrapS hil (by omega:O.length≤4611686018427387904),hiP,hpr]
   refine Zx rfl (by have:=ir2.len;omega) fun cap3 hc3=>?_
   simp only [pwA,seval,-iQ0,ir2l,Nat.succ_le_of_lt ir2l,qK,qm ir2l];rw [←e]at hk
   exact Gh.finF (s:=σ.next+1+2) ((((((zC σ _).new _).new _).kill (by omega)).kill (by omega)).new _) (by simp only [pwA,seval,-iQ0]) (by omega) (zo _ _) hc3.ok fun o1=>hk _ (FI.mk (by simp))
  ·have e:=hmu a b
   rw [if_neg (by omega)]at e
   have irl2:i<(mu O P C d (iter (Grp.img O C (mu O P C d) i) (nx b i) (a.set i 0)) (b.set i 0)).length:=by rw [irl];exact hil
   obtain⟨w7,a7,rfl⟩:=hv;simp only [pwA,seval,-iQ0];refine Zx rfl (by omega) fun cap3 hc3=>?_
   simp only [pwA,seval,-iQ0,irl2,Nat.succ_le_of_lt irl2,qK,qm irl2];rw [←e]at hk
   exact Gh.finF (s:=σ.next+1+2) ((((((zC σ _).new _).new _).kill (by omega)).kill (by omega)).new _) (by simp only [pwA,seval,-iQ0]) (by omega) (zo _ _) hc3.ok fun o1=>hk _ (FI.mk (by simp))
end Go.Proofs
namespace Go.Grp
end Go.Grp
namespace Go.Proofs
open Go.Ab Go.Lie Go.Grp
variable {σ:PHeap} {K:PV→PHeap→Prop} {O:List Int} {P:List (List Int)} {C:List (List (List Int))} {vO vP vC vx:PV} {s:Nat} {x:List Int} {rP rC:List PV}
theorem pw_sq {α:Type} {S:α→Prop} {m:α→α→α} {e:α} (M:Mon S m e) {x:α} (hx:S x):∀q,Grp.pw m e (m x x) q=Grp.pw m e x (q+q)
 | 0=>rfl
 | q+1=>by
  rw [show q+1+(q+1)=(q+q)+1+1 by omega]
  show m (Grp.pw m e (m x x) q) (m x x)=m (m (Grp.pw m e x (q+q)) x) x;rw [pw_sq M hx q,M.as (M.pw hx _) hx hx]
theorem zRY {α:Type} {S:α→Prop} {m:α→α→α} {e:α} (M:Mon S m e) {x:α} (hx:S x) (q:Nat):m x (Grp.pw m e (m x x) q)=Grp.pw m e x (q+q+1):=by
 rw [pw_sq M hx q];exact(M.pw_comm hx _).symm
theorem zBR (s:Shp O P C) {d i:Nat} (hi:O.length=d+i) (hAt:AtOK O P C d i) (M:Mon (TT O i) (mu O P C d) (zv O)) (hR:IsPr vO vP vC O P C) (hx:TT O i x) (hvx:FI vx x) {k:Int} (hk0:0≤k∧k≤1000)
  (hk:∀v,FI v (pw (mu O P C d) (zv O) x k.toNat)→K v σ):zA Tryz.prog 162 [.agg [vO,vP,vC],.int .i64 i,vx,.int .i64 k] σ K:=by
 have hn6:=s.le;have hR0:=hR;obtain⟨kn,rfl⟩:∃kn:Nat,k=kn:=⟨k.toNat,by omega⟩
 obtain⟨⟨w0,a0,rfl⟩,⟨w1,a1,rP,rfl,hP⟩,⟨w3,a3,rC,rfl,hC⟩⟩:=hR;refine zA.gh ?_;refine zB mix Tryz.func162 ?_;simp only [pwA,seval,-iQ0,List.length_replicate,ZJ,mk8 (n:=O.length) (by omega),mkL (n:=O.length) (by omega)]
 have hkp:Keep σ (((σ.new [.fz w0 a0 O.length (pis O),.fz w1 a1 P.length rP,.fz w3 a3 C.length rC]).new (pis (zv O))).kill (σ.next+1)):=((zC σ _).new _).kill (by omega)
 refine Qt (fun m vs h'=>∃(k:Nat) (vo vb:PV) (A b:List Int),k≤1000∧m=k∧vs=[.int .i64 i,.int .i64 k,.ptr σ.next 0,vo,vb]∧
  h'=((σ.new [.fz w0 a0 O.length (pis O),.fz w1 a1 P.length rP,.fz w3 a3 C.length rC]).new (pis (zv O))).kill (σ.next+1)∧FI vo A∧FI vb b∧TT O i A∧TT O i b∧mu O P C d A (pw (mu O P C d) (zv O) b k)=pw (mu O P C d) (zv O) x kn) kn ?_ ?_
 ·refine .fz (σ.next+1) (pis (zv O)) (by simp only [pwA,seval,-iQ0]) (zo _ _) fun o1=>.here ?_
  refine⟨kn,.fz true (.sl o1 0 O.length (.known O.length)) O.length (pis (zv O)),vx,zv O,x,by omega,rfl,?_,rfl,FI.mk (by simp),hvx,s.zv _,hx,M.l1 (M.pw hx _)⟩
  simp only [pwA,seval,-iQ0];simp only [sbs,sb,capOK,Nat.le_refl,decide_true,and_self,if_true,hvx.sb]
 rintro m vs h' ⟨k,vo,vb,A,b,hk1,rfl,rfl,rfl,hvo,hvb,hA,hb,hinv⟩
 simp only [pwA,seval,-iQ0];refine iteI (fun hgt=>?_) fun hle=>?_
 rotate_left
 ·have hm0:m=0:=by omega
  subst hm0;rw [show pw (mu O P C d) (zv O) b 0=zv O from rfl,M.r1 hA]at hinv
  rw [show((kn:Int)).toNat=kn from Int.toNat_natCast kn,←hinv]at hk
  exact Gh.fin0 hkp (hvo.bel _) (hk _ hvo)
 have htm:Int.tmod (m:Int) 2=((m % 2:Nat):Int):=by rw [Int.tmod_eq_emod_of_nonneg (by omega)];rfl
 have htd:Int.tdiv (m:Int) 2=((m / 2:Nat):Int):=by rw [Int.tdiv_eq_ediv_of_nonneg (by omega)];rfl
 have h2:¬((2:Int)=0):=by decide
 have hwd:IntKind.i64.wrap ((m / 2:Nat):Int)=((m / 2:Nat):Int):=wrap64 (by omega) (by omega)
 have hwt:IntKind.i64.wrap ((m % 2:Nat):Int)=((m % 2:Nat):Int):=wrap64 (by omega) (by omega)
 have hbb:=M.cl hb hb
 by_cases ho:m % 2=1
 ·have ho':((m % 2:Nat):Int)=1:=by omega
  simp only [pwA,seval,-iQ0,h2,htm,ho',eq_true ho'];refine hAt hR0 hA hb hvo hvb fun v hv=>?_
  simp only [pwA,seval,-iQ0];refine hAt hR0 hb hb hvb hvb fun v2 hv2=>?_
  simp only [pwA,seval,-iQ0,h2,htd,hwd];refine⟨m / 2,by omega,.here ⟨m / 2,v,v2,_,_,by omega,rfl,rfl,rfl,hv,hv2,M.cl hA hb,hbb,?_⟩⟩
  rw [M.as hA hb (M.pw hbb _),zRY M hb,show m / 2+m / 2+1=m by omega]
  exact hinv
 ·have ho':¬((m % 2:Nat):Int)=1:=by omega
  simp only [pwA,seval,-iQ0,h2,htm,ho'];refine hAt hR0 hb hb hvb hvb fun v2 hv2=>?_
  simp only [pwA,seval,-iQ0,h2,htd,hwd];refine⟨m / 2,by omega,.here ⟨m / 2,vo,v2,_,_,by omega,rfl,rfl,rfl,hvo,hv2,hA,hbb,?_⟩⟩
  rw [pw_sq M hb,show m / 2+m / 2=m by omega]
  exact hinv
theorem zLE {n k:Nat} (hn:n≤1048576) (hkn:k<n) (hk:∀v,FI v (unitL n k)→K v σ):zA Tryz.prog 232 [.int .i64 n,.int .i64 k] σ K:=by
 refine zA.gh ?_;refine zB mix Tryz.func232 ?_;simp only [pwA,seval,-iQ0,List.length_replicate,ZJ,mk8 (n:=n) (by omega),mkL (n:=n) (by omega),hkn,Nat.succ_le_of_lt hkn,qK]
 rw [qm (by simpa using hkn)]
 exact Gh.finF (s:=σ.next) (zC σ _) (by simp only [pwA,seval,-iQ0];rfl) (Nat.le_refl _) (zo _ _) (by simp [capOK]) fun o1=>hk _ (FI.mk (zBA n k))
end Go.Proofs
namespace Go.Grp
end Go.Grp
namespace Go.Proofs
open Go.Ab Go.Lie Go.Grp
variable {σ:PHeap} {K:PV→PHeap→Prop} {O:List Int} {P:List (List Int)} {C:List (List (List Int))} {vO vP vC vx vf:PV} {x y f:List Int} {rP rC:List PV} {d:Nat}
theorem zPa {s off l:Nat} {cap:Cap} {ys:List Int} (hs:s<σ.next) (hr:σ.rd s off l=some (pis ys)) (hl:ys.length=l) (hb:l≤1048576) (hk:∀a,K (.fz true a l (pis ys)) σ):zA Tryz.prog 95 [.sl s off l cap] σ K:=by
 refine zA.gh ?_;have hne:¬s=σ.next:=Nat.ne_of_lt hs;refine zB mix Tryz.func95 ?_;simp only [pwA,seval,-iQ0];refine PSl.app (b:=0) (news:=pis ys) (m:=l) (zC σ _) (Nat.zero_le _) (PSl.new _ 1 rfl (Nat.le_refl _)) rfl (fun h0=>?_) (by rw [qK,hl,Nat.mul_one]) (by omega) (by omega) fun v' h' k1 k2=>?_
 ·rw [QE]
  simp only [h0,if_false,Nat.le_refl,if_true,Nat.mul_one,Q4,hne];exact hr
 ·simp only [pwA,seval,-iQ0]at k2 ⊢
  exact k2.fin k1 (zo _ _) fun o cap=>hk _
theorem zKE {α:Type} {m:α→α→α} {h:Nat→α} {x:Nat→Nat} {c:Nat}:∀{k t:Nat} {a:α},(∀j,t≤j→j<t+k→x j=0)→fo m h x t (k+c) a=fo m h x (t+k) c a
 | 0,t,a,_=>by rw [Nat.zero_add,Nat.add_zero]
 | k+1,t,a,h0=>by
  rw [show k+1+c=(k+c)+1 by omega,fo,h0 t (Nat.le_refl _) (by omega)]
  show fo _ _ _ (t+1) (k+c) a=_;rw [zKE (fun j h1 h2=>h0 j (by omega) (by omega)),show t+1+k=t+(k+1) by omega]
theorem zQi (s:Shp O P C) (F:Full O P C d) (hx:TT O (O.length-d) x) (hf:TT O (O.length-d) f):fo (mu O P C d) (Grp.unit O) (nx f) 0 O.length x=mu O P C d x f:=by
 have hle:=F.le;have M:=F.gp.toMon;have h1:=zKE (m:=mu O P C d) (h:=Grp.unit O) (x:=nx f) (c:=d) (k:=O.length-d) (t:=0) (a:=x) fun j _ h2=>by show(at_ f j).toNat=0;rw [hf.zero j (by omega)];rfl
 rw [show O.length-d+d=O.length by omega,Nat.zero_add]at h1
 rw [h1,M.fo_eq (fun j h1 h2=>s.unit (by omega) h1) hx]
 congr 1
 exact F.nf hf
def TGok (O:List Int) (P:List (List Int)) (C:List (List (List Int))) (d j:Nat):Prop:=
 ∀(σ:PHeap) (K:PV→PHeap→Prop) (sp se:Nat) (cap:Cap) (x:List Int) (vO vP vC:PV),PtrG σ sp vO vP vC→IsPr vO vP vC O P C→σ.obj se=some (pis x)→se<σ.next→sp≠se→full 1 cap O.length→TT O (O.length-d) x→
  K (.tup []) (σ.set se (pis (mu O P C d x (Grp.unit O j))))→zA Tryz.prog 211 [.ptr sp 0,.sl se 0 O.length cap,.int .i64 j] σ K
theorem Qc (s:Shp O P C) (F:Full O P C d) {t:Nat} (ht:O.length-d≤t) (hTG:∀j,t≤j→j<O.length→TGok O P C d j) {sp se:Nat} {cap:Cap} (hs:PtrG σ sp vO vP vC) (hR:IsPr vO vP vC O P C)
  (he:σ.obj se=some (pis x)) (hse:se<σ.next) (hne:sp≠se) (hcap:full 1 cap O.length) (hx:TT O (O.length-d) x) (hf:TT O t f) (hvf:FI vf f) (hk:K (.tup []) (σ.set se (pis (mu O P C d x f)))):zA Tryz.prog 177 [.ptr sp 0,.sl se 0 O.length cap,vf] σ K:=by
 have hn6:=s.le;have hfl:=hf.len;have M:=F.gp.toMon;obtain⟨wf,af,rfl⟩:=hvf;refine zB mix Tryz.func177 ?_;simp only [pwA,seval,-iQ0];refine zD (fun m vs h'=>∃(q:Nat) (y:List Int),q≤O.length∧m=O.length-q∧vs=[.ptr sp 0,.sl se 0 O.length cap,.fz wf af f.length (pis f),.int .i64 f.length,.int .i64 q]∧h'=σ.set se (pis y)∧TT O (O.length-d) y∧fo (mu O P C d) (Grp.unit O) (nx f) q (O.length-q) y=mu O P C d x f) O.length ?_ ?_
 ·exact⟨0,x,by omega,by omega,rfl,(QG he).symm,hx,zQi s F hx (hf.mono ht)⟩
 rintro m vs h' ⟨q,y,hq,rfl,rfl,rfl,hy,hfo⟩
 simp only [pwA,seval,-iQ0];refine iteI (fun hlt=>?_) fun hge=>?_
 rotate_left
 ·have hqe:q=O.length:=by omega
  subst hqe;rw [Nat.sub_self]at hfo
  rw [←hfo]at hk
  exact hk
 have hqO:q<O.length:=by omega
 have bf:=hf.bd q hqO;have bO:=s.pr q hqO;have hnx:((nx f q:Nat):Int)=at_ f q:=Int.toNat_of_nonneg bf.1;rw [show O.length-q=(O.length-(q+1))+1 by omega]at hfo
 simp only [pwA,seval,-iQ0,pisAt hlt,hlt];refine zD (fun m vs h'=>∃(k:Nat) (y:List Int),k≤nx f q∧m=nx f q-k∧vs=[.ptr sp 0,.sl se 0 O.length cap,.int .i64 q,.fz wf af f.length (pis f),.int .i64 f.length,.int .i64 q,.int .i64 (at_ f q),.int .i64 k]∧h'=σ.set se (pis y)∧TT O (O.length-d) y∧fo (mu O P C d) (Grp.unit O) (nx f) (q+1) (O.length-(q+1)) (rep (mu O P C d) (Grp.unit O q) (nx f q-k) y)=mu O P C d x f) (nx f q) ?_ ?_
 ·exact⟨0,y,by omega,by omega,rfl,rfl,hy,hfo⟩
 rintro m vs h' ⟨k,y,hkn,rfl,rfl,rfl,hy,hfo⟩
 simp only [pwA,seval,-iQ0];refine iteI (fun hlt2=>?_) fun hge2=>?_
 ·have hlt3:k<nx f q:=by omega
  have htq:t≤q:=by
   rcases Nat.lt_or_ge q t with h|h
   ·have:=hf.zero q h;omega
   ·exact h
  have hu:TT O (O.length-d) (Grp.unit O q):=s.unit hqO (by omega)
  refine hTG q htq hqO _ _ sp se cap y vO vP vC (hs.set hne _) hR (by simp only [pwA,seval,-iQ0]) hse hne hcap hy ?_
  simp only [pwA,seval,-iQ0,wrapS hlt3 (by omega:nx f q≤4611686018427387904)]
  refine⟨_,by omega,k+1,_,by omega,rfl,rfl,rfl,M.cl hy hu,?_⟩
  rw [show nx f q-k=(nx f q-(k+1))+1 by omega]at hfo
  exact hfo
 ·have hke:k=nx f q:=by omega
  subst hke;rw [Nat.sub_self]at hfo
  simp only [pwA,seval,-iQ0,wrapS hlt (by omega:f.length≤4611686018427387904)]
  exact⟨_,by omega,q+1,y,by omega,rfl,rfl,rfl,hy,hfo⟩
end Go.Proofs
namespace Go.Grp
end Go.Grp
namespace Go.Proofs
open Go.Ab Go.Lie Go.Grp
variable {σ:PHeap} {K:PV→PHeap→Prop} {O:List Int} {P:List (List Int)} {C:List (List (List Int))} {vO vP vC vx vf:PV} {x y f:List Int} {rP rC:List PV} {d j:Nat}
def zr (x:List Int) (j:Nat):Nat→List Int
 | 0=>x
 | k+1=>(zr x j k).set (j+(1+k)) 0
theorem zBy:∀k,(zr x j k).length=x.length
 | 0=>rfl
 | k+1=>by rw [zr,List.length_set];exact zBy k
theorem zr_at:∀{k:Nat},j+(1+k)≤x.length→∀t,at_ (zr x j k) t=if j<t∧t<j+(1+k)then 0 else at_ x t
 | 0,_,t=>by rw [if_neg (by omega)];rfl
 | k+1,h,t=>by
  rw [zr,at_set (by rw [zBy];omega)]
  split
  ·rename_i e;rw [if_pos (by omega)]
  ·rename_i e
   rw [zr_at (by omega)]
   by_cases g:j<t∧t<j+(1+k)
   ·rw [if_pos g,if_pos (by omega)]
   ·rw [if_neg g,if_neg (by omega)]
theorem zQ7 (hj:j<x.length):zr x j (x.length-1-j)=hdz x j:=by
 refine zCA (by rw [zBy,zDu]) fun t ht=>?_
 rw [zBy]at ht
 rw [zr_at (by omega),zB9]
 by_cases g:t≤j
 ·rw [if_neg (by omega),if_pos g]
 ·rw [if_pos (by omega),if_neg g]
theorem zJG {se n:Nat} {cap:Cap} (hc:full 1 cap n) (hj:j+1≤n):∃off cap',Qi 1 (.sl se 0 n cap) (some (.int .i64 ((j+1:Nat):Int))) none none=some (.sl se off (n-(j+1)) cap')∧(off=j+1∨(off=0∧n-(j+1)=0)):=by
 have e:(0:Int)≤((j+1:Nat):Int)∧((j+1:Nat):Int)≤(n:Int):=⟨by omega,by omega⟩
 rcases hc with rfl|rfl
 ·refine⟨j+1,.grown 1,?_,.inl rfl⟩
  rw [zC6];simp only [zBL,zBK,zCU,Option.bind_some,if_pos e,Int.toNat_natCast]
  simp
 ·rw [zC5]
  simp only [zBL,zBK,zCU,Option.bind_some,if_pos e,Int.toNat_natCast]
  by_cases h:n=j+1
  ·refine⟨0,.known (n-(j+1)),?_,.inr ⟨rfl,by omega⟩⟩
   rw [if_pos h];simp
  ·refine⟨j+1,.known (n-(j+1)),?_,.inl rfl⟩
   rw [if_neg h];simp
theorem Z6 (s:Shp O P C) (F:Full O P C d):∀(r:Nat) {j:Nat},O.length-d≤j→j<O.length→O.length-j≤r→TGok O P C d j
 | 0,j,h1,h2,h3=>by omega
 | r+1,j,h1,h2,h3=>by
  intro σ K sp se cap x vO vP vC hs hR he hse hne hcap hx hk;have hTG:∀j',j+1≤j'→j'<O.length→TGok O P C d j':=fun j' g1 g2=>Z6 s F r (by omega) g2 (by omega)
  have hn6:=s.le;have hR0:=hR;have hs0:=hs;have hxl:=hx.len;have hjx:j<x.length:=by omega
  have bx:=hx.bd j h2;have bO:=s.pr j h2;have M:=F.gp.toMon;rw [←zNl s F hx h1 h2]at hk
  obtain⟨⟨w0,a0,rfl⟩,⟨w1,a1,rP,rfl,hP⟩,⟨w3,a3,rC,rfl,hC⟩⟩:=hR;obtain⟨w5,a5,rs,hrb,hrs⟩:=cvRow s hC h2;obtain⟨w6,a6,hpr⟩:=pvRow s hP h2;have hjC:j<C.length:=by rw [s.cl];exact h2
  have hjP:j<P.length:=by rw [s.pl];exact h2
  have hpv:=s.pw j h2;have e0:σ.rd1 sp 0=some (.fz w0 a0 O.length (pis O)):=by rw [zF hs.obj];rfl
  have e1:σ.rd1 sp 1=some (.fz w1 a1 P.length rP):=by rw [zF hs.obj];rfl
  have e2:σ.rd1 sp 2=some (.fz w3 a3 C.length rC):=by rw [zF hs.obj];rfl
  have ern:∀t,σ.rd1 se t=(pis x)[t]?:=fun t=>zF he t
  obtain⟨off,cap',hsl,hoff⟩:=zJG (se:=se) hcap (Nat.succ_le_of_lt h2);have wj1:IntKind.i64.wrap ((j:Int)+1)=((j+1:Nat):Int):=wrapS h2 (by omega)
  refine zB mix Tryz.func211 ?_;simp only [pwA,seval,-iQ0,wj1,hsl];have hdl:(x.drop (j+1)).length=O.length-(j+1):=by simp [hxl]
  refine zPa hse (ys:=x.drop (j+1)) ?_ hdl (by omega) fun av=>?_
  ·rw [ZB he,qK]
   rcases hoff with rfl|⟨rfl,h0⟩
   ·rw [if_pos (by omega),←zON,List.take_of_length_le (by rw [List.length_drop,qK];omega)]
   ·rw [h0,if_pos (by omega),List.take_zero,List.drop_eq_nil_of_le (by omega)];rfl
  simp only [pwA,seval,-iQ0,qK];refine zD (fun m vs h'=>∃k:Nat,k≤O.length-(j+1)∧m=O.length-(j+1)-k∧vs=[.ptr sp 0,.sl se 0 O.length cap,.int .i64 j,.fz true av (O.length-(j+1)) (pis (x.drop (j+1))),.int .i64 ((O.length-(j+1):Nat):Int),.int .i64 k]∧h'=σ.set se (pis (zr x j k))) (O.length-(j+1)) ?_ ?_
  ·exact⟨0,by omega,by omega,rfl,(QG he).symm⟩
  ·rintro m vs h' ⟨k,hk1,rfl,rfl,rfl⟩
   simp only [pwA,seval,-iQ0];refine iteI (fun hlt=>?_) fun hge=>?_
   ·have e3:IntKind.i64.wrap (((j+1:Nat):Int)+(k:Int))=((j+(1+k):Nat):Int):=by rw [wrap64 (by omega) (by omega)];omega
    have hjl:j+(1+k)<O.length:=by omega
    have hjz:j+(1+k)<(zr x j k).length:=by rw [zBy];omega
    have hset:(pis (zr x j k)).take (j+(1+k))++[.int .i64 0]++(pis (zr x j k)).drop (j+(1+(k+1)))=pis (zr x j (k+1)):=by rw [show j+(1+(k+1))=j+(1+k)+1 by omega];exact qm hjz
    have hle2:j+(1+(k+1))≤O.length:=by omega
    simp only [pwA,seval,-iQ0,wj1,e3,hjl,qK,zBy,hxl,hle2,hset,wrapS hlt (by omega:O.length-(j+1)≤4611686018427387904)]
    exact⟨_,by omega,k+1,by omega,rfl,rfl,rfl⟩
   have hke:k=x.length-1-j:=by omega
   subst hke;rw [zQ7 hjx];have hzl:(hdz x j).length=O.length:=by rw [zDu];exact hxl
   have hjz:j<(hdz x j).length:=by omega
   have hdat:at_ (hdz x j) j=at_ x j:=by rw [zB9,if_pos (Nat.le_refl _)]
   have wx1:IntKind.i64.wrap (at_ x j+1)=at_ x j+1:=wrap64 (by omega) (by omega)
   have hz2:j<((hdz x j).set j (at_ x j+1)).length:=by rw [List.length_set];exact hjz
   have hat2:at_ ((hdz x j).set j (at_ x j+1)) j=at_ x j+1:=by rw [at_set hjz,if_pos rfl]
   have p1:=pisAt hjz;have p2:=pisAt hz2;rw [hdat]at p1
   rw [hat2]at p2
   have hsle:j+1≤O.length:=h2;simp only [pwA,seval,-iQ0,h2,hzl,qK,p1,wx1,hsle,qm hjz,qz];simp only [pwA,seval,-iQ0,h2,hzl,qK,p1,p2,wx1,hsle,qm hjz,qz,hne,e0,pisAt h2];refine iteI (fun heq=>?_) fun hneq=>?_
   ·have hh0:((hdz x j).set j (at_ x j+1)).set j 0=(hdz x j).set j 0:=by rw [List.set_set]
    simp only [pwA,seval,-iQ0,h2,hzl,List.length_set,qK,hsle,qm hz2,hh0,hne,e1,hjP,hpr];have ht0:TT O (O.length-d) ((hdz x j).set j 0):=(zIS hx fun t ht=>s.pos ht).set h2 h1 ⟨by omega,by omega⟩
    refine Qc s F (t:=j+1) (by omega) hTG (hs0.set hne (pis ((hdz x j).set j 0))) hR0 (x:=(hdz x j).set j 0) (by simp only [pwA,seval,-iQ0]) hse hne hcap ht0 hpv (FI.mk hpv.len) ?_
    simp only [pwA,seval,-iQ0,qz];have hY:TT O (O.length-d) (mu O P C d ((hdz x j).set j 0) (pvec P j)):=M.cl ht0 (hpv.mono (by omega))
    have hfoY:fo (mu O P C d) (cvec C j) (nx x) (j+(1+0)) (O.length-(j+1)-0) (mu O P C d ((hdz x j).set j 0) (pvec P j))=tstep O P C (mu O P C d) x j:=by
     rw [tstep,if_pos heq,show O.length-1-j=O.length-(j+1)-0 by omega]
    generalize mu O P C d ((hdz x j).set j 0) (pvec P j)=Y at hY hfoY ⊢
    refine zD (fun m vs h'=>∃(k:Nat) (y:List Int),k≤O.length-(j+1)∧m=O.length-(j+1)-k∧vs=[.ptr sp 0,.sl se 0 O.length cap,.int .i64 j,.fz true av (O.length-(j+1)) (pis (x.drop (j+1))),.int .i64 ((O.length-(j+1):Nat):Int),.int .i64 k]∧h'=σ.set se (pis y)∧TT O (O.length-d) y∧fo (mu O P C d) (cvec C j) (nx x) (j+(1+k)) (O.length-(j+1)-k) y=tstep O P C (mu O P C d) x j) (O.length-(j+1)) ?_ ?_
    ·exact⟨0,Y,by omega,by omega,rfl,rfl,hY,hfoY⟩
    rintro m vs h' ⟨k,y,hk1,rfl,rfl,rfl,hy,hfo⟩
    simp only [pwA,seval,-iQ0];refine iteI (fun hlt=>?_) fun hge=>?_
    rotate_left
    ·have hke:O.length-(j+1)-k=0:=by omega
     rw [hke]at hfo
     rw [←hfo]at hk
     exact hk
    have hjl:j+(1+k)<O.length:=by omega
    have hkd:k<(x.drop (j+1)).length:=by omega
    have hdat3:at_ (x.drop (j+1)) k=at_ x (j+(1+k)):=by
     simp only [at_,List.getD_eq_getElem?_getD,List.getElem?_drop,show j+1+k=j+(1+k) by omega]
    have pk:=pisAt hkd;rw [hdat3]at pk
    have bk:=hx.bd (j+(1+k)) hjl;have bOk:=s.pr _ hjl;have hnx:((nx x (j+(1+k)):Nat):Int)=at_ x (j+(1+k)):=Int.toNat_of_nonneg bk.1;obtain⟨w7,a7,hrk⟩:=hrs k (by omega)
    have hcv:=s.cj j (j+(1+k)) (by omega) hjl
    have hkr:k<O.length-1-j:=by omega
    rw [show O.length-(j+1)-k=(O.length-(j+1)-k-1)+1 by omega]at hfo
    simp only [pwA,seval,-iQ0,pk,hkd,hlt];refine zD (fun m vs h'=>∃(q:Nat) (y:List Int),q≤nx x (j+(1+k))∧m=nx x (j+(1+k))-q∧vs=[.ptr sp 0,.sl se 0 O.length cap,.int .i64 j,.int .i64 k,.fz true av (O.length-(j+1)) (pis (x.drop (j+1))),.int .i64 ((O.length-(j+1):Nat):Int),.int .i64 k,.int .i64 (at_ x (j+(1+k))),.int .i64 q]∧h'=σ.set se (pis y)∧TT O (O.length-d) y∧fo (mu O P C d) (cvec C j) (nx x) (j+(1+k)+1) (O.length-(j+1)-k-1) (rep (mu O P C d) (cvec C j (j+(1+k))) (nx x (j+(1+k))-q) y)=tstep O P C (mu O P C d) x j) (nx x (j+(1+k))) ?_ ?_
    ·exact⟨0,y,by omega,by omega,rfl,rfl,hy,hfo⟩
    rintro m vs h' ⟨q,y,hqn,rfl,rfl,rfl,hy,hfo⟩
    simp only [pwA,seval,-iQ0];refine iteI (fun hlt2=>?_) fun hge2=>?_
    ·have hlt3:q<nx x (j+(1+k)):=by omega
     simp only [pwA,seval,-iQ0,hne,e2,hjC,hrb,hkr,hrk];refine Qc s F (t:=j+1) (by omega) hTG (hs0.set hne (pis y)) hR0 (x:=y) (by simp only [pwA,seval,-iQ0]) hse hne hcap hy hcv (FI.mk hcv.len) ?_
     simp only [pwA,seval,-iQ0,qz,wrapS hlt3 (by omega:nx x (j+(1+k))≤4611686018427387904)]
     refine⟨_,by omega,q+1,_,by omega,rfl,rfl,rfl,M.cl hy (hcv.mono (by omega)),?_⟩
     rw [show nx x (j+(1+k))-q=(nx x (j+(1+k))-(q+1))+1 by omega]at hfo
     exact hfo
    ·have hqe:q=nx x (j+(1+k)):=by omega
     subst hqe;rw [Nat.sub_self]at hfo
     simp only [pwA,seval,-iQ0,wrapS hlt (by omega:O.length-(j+1)≤4611686018427387904)]
     refine⟨_,by omega,k+1,y,by omega,rfl,rfl,rfl,hy,?_⟩
     rw [show O.length-(j+1)-(k+1)=O.length-(j+1)-k-1 by omega]
     exact hfo
   ·have hY:TT O (O.length-d) ((hdz x j).set j (at_ x j+1)):=(zIS hx fun t ht=>s.pos ht).set h2 h1 ⟨by omega,by omega⟩
    have hfoY:fo (mu O P C d) (cvec C j) (nx x) (j+(1+0)) (O.length-(j+1)-0) ((hdz x j).set j (at_ x j+1))=tstep O P C (mu O P C d) x j:=by
     rw [tstep,if_neg hneq,show O.length-1-j=O.length-(j+1)-0 by omega]
    clear p2 hat2 hz2;generalize (hdz x j).set j (at_ x j+1)=Y at hY hfoY ⊢
    refine zD (fun m vs h'=>∃(k:Nat) (y:List Int),k≤O.length-(j+1)∧m=O.length-(j+1)-k∧vs=[.ptr sp 0,.sl se 0 O.length cap,.int .i64 j,.fz true av (O.length-(j+1)) (pis (x.drop (j+1))),.int .i64 ((O.length-(j+1):Nat):Int),.int .i64 k]∧h'=σ.set se (pis y)∧TT O (O.length-d) y∧fo (mu O P C d) (cvec C j) (nx x) (j+(1+k)) (O.length-(j+1)-k) y=tstep O P C (mu O P C d) x j) (O.length-(j+1)) ?_ ?_
    ·exact⟨0,Y,by omega,by omega,rfl,rfl,hY,hfoY⟩
    rintro m vs h' ⟨k,y,hk1,rfl,rfl,rfl,hy,hfo⟩
    simp only [pwA,seval,-iQ0];refine iteI (fun hlt=>?_) fun hge=>?_
    rotate_left
    ·have hke:O.length-(j+1)-k=0:=by omega
     rw [hke]at hfo
     rw [←hfo]at hk
     exact hk
    have hjl:j+(1+k)<O.length:=by omega
    have hkd:k<(x.drop (j+1)).length:=by omega
    have hdat3:at_ (x.drop (j+1)) k=at_ x (j+(1+k)):=by
     simp only [at_,List.getD_eq_getElem?_getD,List.getElem?_drop,show j+1+k=j+(1+k) by omega]
    have pk:=pisAt hkd;rw [hdat3]at pk
    have bk:=hx.bd (j+(1+k)) hjl;have bOk:=s.pr _ hjl;have hnx:((nx x (j+(1+k)):Nat):Int)=at_ x (j+(1+k)):=Int.toNat_of_nonneg bk.1;obtain⟨w7,a7,hrk⟩:=hrs k (by omega)
    have hcv:=s.cj j (j+(1+k)) (by omega) hjl
    have hkr:k<O.length-1-j:=by omega
    rw [show O.length-(j+1)-k=(O.length-(j+1)-k-1)+1 by omega]at hfo
    simp only [pwA,seval,-iQ0,pk,hkd,hlt];refine zD (fun m vs h'=>∃(q:Nat) (y:List Int),q≤nx x (j+(1+k))∧m=nx x (j+(1+k))-q∧vs=[.ptr sp 0,.sl se 0 O.length cap,.int .i64 j,.int .i64 k,.fz true av (O.length-(j+1)) (pis (x.drop (j+1))),.int .i64 ((O.length-(j+1):Nat):Int),.int .i64 k,.int .i64 (at_ x (j+(1+k))),.int .i64 q]∧h'=σ.set se (pis y)∧TT O (O.length-d) y∧fo (mu O P C d) (cvec C j) (nx x) (j+(1+k)+1) (O.length-(j+1)-k-1) (rep (mu O P C d) (cvec C j (j+(1+k))) (nx x (j+(1+k))-q) y)=tstep O P C (mu O P C d) x j) (nx x (j+(1+k))) ?_ ?_
    ·exact⟨0,y,by omega,by omega,rfl,rfl,hy,hfo⟩
    rintro m vs h' ⟨q,y,hqn,rfl,rfl,rfl,hy,hfo⟩
    simp only [pwA,seval,-iQ0];refine iteI (fun hlt2=>?_) fun hge2=>?_
    ·have hlt3:q<nx x (j+(1+k)):=by omega
     simp only [pwA,seval,-iQ0,hne,e2,hjC,hrb,hkr,hrk];refine Qc s F (t:=j+1) (by omega) hTG (hs0.set hne (pis y)) hR0 (x:=y) (by simp only [pwA,seval,-iQ0]) hse hne hcap hy hcv (FI.mk hcv.len) ?_
     simp only [pwA,seval,-iQ0,qz,wrapS hlt3 (by omega:nx x (j+(1+k))≤4611686018427387904)]
     refine⟨_,by omega,q+1,_,by omega,rfl,rfl,rfl,M.cl hy (hcv.mono (by omega)),?_⟩
     rw [show nx x (j+(1+k))-q=(nx x (j+(1+k))-(q+1))+1 by omega]at hfo
     exact hfo
    ·have hqe:q=nx x (j+(1+k)):=by omega
     subst hqe;rw [Nat.sub_self]at hfo
     simp only [pwA,seval,-iQ0,wrapS hlt (by omega:O.length-(j+1)≤4611686018427387904)]
     refine⟨_,by omega,k+1,y,by omega,rfl,rfl,rfl,hy,?_⟩
     rw [show O.length-(j+1)-(k+1)=O.length-(j+1)-k-1 by omega]
     exact hfo
theorem Z8 (s:Shp O P C) (F:Full O P C d) {sp se:Nat} {cap:Cap} (hs:PtrG σ sp vO vP vC) (hR:IsPr vO vP vC O P C)
  (he:σ.obj se=some (pis x)) (hse:se<σ.next) (hne:sp≠se) (hcap:full 1 cap O.length) (hx:TT O (O.length-d) x) (hf:TT O (O.length-d) f) (hvf:FI vf f) (hk:K (.tup []) (σ.set se (pis (mu O P C d x f)))):zA Tryz.prog 177 [.ptr sp 0,.sl se 0 O.length cap,vf] σ K:=
 Qc s F (Nat.le_refl _) (fun j h1 h2=>Z6 s F O.length h1 h2 (by omega)) hs hR he hse hne hcap hx hf hvf hk
end Go.Proofs
