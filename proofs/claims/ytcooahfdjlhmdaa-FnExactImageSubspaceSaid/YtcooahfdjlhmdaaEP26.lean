/- Plain law: words; the matrix of a word; modules over presentations; values of derivations. -/
import Derived.Test.YtcooahfdjlhmdaaEAbPy
import Derived.Test.YtcooahfdjlhmdaaChecked
open Int renaming reduceNatCast'→iQ0
set_option maxRecDepth 100000
namespace Go.Proofs
open Go.Ab
def mI0 (d s:Nat):II:=⟨some d,.mv (.t s),true,none⟩
def kI0 (d:Nat) (k:Int):II:=⟨some d,.mv (.c (.int .i64 k)),true,none⟩
def tI0 (d:Nat) (k:Bool):II:=⟨some d,.mv (.c (.bool k)),true,none⟩
def lI0 (d s:Nat):II:=⟨some d,.load false 1 (.t s),true,none⟩
def LI0 (d s:Nat):II:=⟨some d,.load true 3 (.t s),true,none⟩
def fI0 (d o s:Nat):II:=⟨some d,.fieldAddr o (.t s),true,none⟩
def xI0 (d a i:Nat):II:=⟨some d,.indexAddr 1 (.t a) (.t i),true,none⟩
def bI0 (d:Nat) (o:BinOp) (a b:Nat):II:=⟨some d,.bin o .other (.t a) (.t b),true,none⟩
def cI0 (d:Nat) (o:BinOp) (a:Nat) (k:Int):II:=⟨some d,.bin o .other (.t a) (.c (.int .i64 k)),true,none⟩
def nI0 (d s:Nat):II:=⟨some d,.un .not (.t s),true,none⟩
def sI0 (d s:Nat):II:=⟨some d,.len (.t s),true,none⟩
def pI0 (d s:Nat):II:=⟨some d,.nilCheck (.t s),true,none⟩
def eI0 (d s i:Nat):II:=⟨some d,.extract (.t s) i,true,none⟩
def C0 (d f:Nat):II:=⟨some d,.call f [],false,none⟩
def C1 (d f a:Nat):II:=⟨some d,.call f [.t a],false,none⟩
def C2 (d f a b:Nat):II:=⟨some d,.call f [.t a,.t b],false,none⟩
def C3 (d f a b c:Nat):II:=⟨some d,.call f [.t a,.t b,.t c],false,none⟩
def mD0 (d s n:Nat):DI:=⟨⟨some d,.mv (.t s),true,none⟩,n,[]⟩
def lD0 (d s n:Nat):DI:=⟨⟨some d,.load false 1 (.t s),true,none⟩,n,[]⟩
def fD0 (d o s n:Nat):DI:=⟨⟨some d,.fieldAddr o (.t s),true,none⟩,n,[]⟩
def xD0 (d a i n:Nat):DI:=⟨⟨some d,.indexAddr 1 (.t a) (.t i),true,none⟩,n,[]⟩
def pD0 (d s n:Nat):DI:=⟨⟨some d,.nilCheck (.t s),true,none⟩,n,[]⟩
def I0 (k:Int):IX:=.c (.int .i64 k)
def G0 (d:Nat) (o:IOp) (q:Bool) (t:Nat) (b:Bool):II:=⟨some d,o,q,some (t,b)⟩
def gm0 (d s t:Nat) (b:Bool):II:=⟨some d,.mv (.t s),true,some (t,b)⟩
def oI0 (d a b:Nat):II:=⟨some d,.pick (.t a) (.c (.bool true)) (.t b),true,none⟩
def aI0 (d a b:Nat):II:=⟨some d,.pick (.t a) (.t b) (.c (.bool false)),true,none⟩
def zI0 (d:Nat):II:=⟨some d,.mv (.c .nils),true,none⟩
def yI0 (d a:Nat) (k:Int):II:=⟨some d,.indexAddr 1 (.t a) (.c (.int .i64 k)),true,none⟩
def vI0 (n a b:Nat):II:=⟨none,.store n (.t a) (.t b),false,none⟩
def wD0 (n a b i:Nat):DI:=⟨⟨none,.store n (.t a) (.t b),false,none⟩,i,[]⟩
def R0 (l:List Nat) (i:List II):IC:=.region l i
def S0 (a b:IC):IC:=.seq a b
open Try
theorem mix:Try.prog.follows .mixedOrders=true:=by kernel_rfl
def if20:IFn:=⟨[0,1],[(.tmp 4)],(S0 (R0 [1,2] [eI 2 (.box (.t 0)),kI0 4 0])
 (S0 (R0 [1] [fI0 5 2 2,lI0 6 5,mI0 7 1,C2 8 58 6 7,mI0 1 8])
 (S0 (R0 [4] [mI0 9 1,mI0 4 9])
 .ret)))⟩
theorem cf20:cF prog f20=some if20:=by kernel_rfl
def if58:IFn:=⟨[0,1],[(.tmp 4)],(S0 (R0 [0,1] [kI0 4 0])
 (S0 (.seq (R0 [0,1,5] [kI0 5 0])
 (.block 0 (.loop [0,1,5] (S0 (.seq (R0 [0,1,5,9] [mI0 6 5,mI0 7 0,sI0 8 7,bI0 9 .lss 6 8])
 (.cond (.t 9) .skip (.exit 0)))
 (S0 (.block 1 (R0 [0,1,5] [mI0 12 0,mI0 13 5,xI0 14 12 13,lI0 15 14,mI0 16 1,C2 17 99 15 16,mI0 1 17]))
 (R0 [0,1,5] [mI0 10 5,cI0 11 .add 10 1,mI0 5 11]))))))
 (S0 (R0 [4] [mI0 18 1,mI0 4 18])
 .ret)))⟩
theorem cf58:cF prog f58=some if58:=by kernel_rfl
def if99:IFn:=⟨[0,1],[(.tmp 4)],(S0 (R0 [0,1] [kI0 4 0])
 (S0 (.seq (R0 [0,1,5] [kI0 5 0])
 (.block 0 (.loop [0,1,5] (S0 (.seq (R0 [0,1,5,9] [mI0 6 5,mI0 7 0,sI0 8 7,bI0 9 .lss 6 8])
 (.cond (.t 9) .skip (.exit 0)))
 (S0 (.block 1 (S0 (R0 [0,1,5] [mI0 12 0,mI0 13 5,mI0 14 1,xI0 15 12 13,vI0 1 15 14])
 (R0 [0,1,5] [mI0 16 1,cI0 17 .add 16 1,mI0 1 17])))
 (R0 [0,1,5] [mI0 10 5,cI0 11 .add 10 1,mI0 5 11]))))))
 (S0 (R0 [4] [mI0 18 1,mI0 4 18])
 .ret)))⟩
theorem cf99:cF prog f99=some if99:=by kernel_rfl
end Go.Proofs
set_option linter.unusedSimpArgs false
set_option linter.unusedVariables false
namespace Go.Proofs
open Go.Ab
variable {σ:PHeap} {K:PV→PHeap→Prop}
theorem zA6 {n lo hi:Int} (hk:K (.bool (decide (lo≤n∧n≤hi))) σ):zA Try.prog 66 [.int .i64 n,.int .i64 lo,.int .i64 hi] σ K:=by
 refine zB mix Try.func66 ?_
 conv=>arg 2;cbv
 refine zC rfl ?_
 by_cases h1:lo≤n
 ·simp only [pwA,seval,-iQ0,h1];exact pke hk ⟨fun x=>x.2,fun x=>⟨h1,x⟩⟩
 ·simp only [pwA,seval,-iQ0,h1];exact pkf hk (by omega)
theorem zEZ {n lo hi:Int} (hk:K (.bool (decide (lo≤n∧n≤hi))) σ):zA Try.prog 81 [.int .i64 n,.int .i64 lo,.int .i64 hi] σ K:=by
 refine zB mix Try.func81 ?_
 conv=>arg 2;cbv
 refine zC rfl ?_
 by_cases h1:lo≤n
 ·simp only [pwA,seval,-iQ0,h1];exact pke hk ⟨fun x=>x.2,fun x=>⟨h1,x⟩⟩
 ·simp only [pwA,seval,-iQ0,h1];exact pkf hk (by omega)
def isVec (xs:List Int) (p n:Int):Prop:=(xs.length:Int)=n∧∀x∈xs,0≤x∧x≤p-1
instance (xs:List Int) (p n:Int):Decidable (isVec xs p n):=by unfold isVec;infer_instance
theorem zFp {w:Bool} {a:AV} {xs:List Int} {p n:Int} {l:Nat} (hl:l=xs.length) (hb:xs.length≤4611686018427387904) (hp:0<p) (hp2:p<4611686018427387904) (hk:K (.bool (decide (isVec xs p n))) σ):
  zA Try.prog 77 [.fz w a l (pis xs),.int .i64 p,.int .i64 n] σ K:=by
 subst hl;refine zB mix Try.func77 ?_
 conv=>arg 2;cbv
 refine zC rfl ?_;simp only [pwA,seval,-iQ0]
 split
 ·refine zM (fun m vs h'=>∃i:Nat,i≤xs.length∧m=xs.length-i∧vs=[.int .i64 p,.fz w a xs.length (pis xs),.int .i64 xs.length,.int .i64 i]∧h'=σ∧∀x∈xs.take i,0≤x∧x≤p-1) xs.length ?_ ?_
  ·exact⟨0,by omega,by omega,rfl,rfl,by simp⟩
  ·rintro m vs h' ⟨i,hi,rfl,rfl,rfl,hall⟩
   simp only [pwA,seval,-iQ0]
   split
   ·rename_i hlt
    have hw1:IntKind.i64.wrap (p-1)=p-1:=wrap64 (by omega) (by omega)
    simp only [pwA,seval,-iQ0,hlt,qO,gi hlt,wrapS hlt hb,hw1];refine zA6 ?_;simp only [pwA,seval,-iQ0,wrapS hlt hb]
    split
    ·exact⟨_,by omega,i+1,by omega,rfl,rfl,zBq hlt hall (by assumption)⟩
    ·rename_i hn
     exact pkf hk fun hv=>hn (hv.2 _ (List.getElem_mem hlt))
   ·refine pkt hk ⟨by assumption,zAb (by omega) hall⟩
 ·rename_i hne
  exact pkf hk fun hv=>hne hv.1
def isZ (xs:List Int):Prop:=∀x∈xs,x=0
instance (xs:List Int):Decidable (isZ xs):=by unfold isZ;infer_instance
theorem zEo {xs ys:List Int} (hl:xs.length=ys.length) {i:Nat} (hi:i<xs.length) (h:xs.take i=ys.take i) (he:xs[i]=ys[i]'(by omega)):xs.take (i+1)=ys.take (i+1):=by
 rw [List.take_succ_eq_append_getElem hi,List.take_succ_eq_append_getElem (by omega:i<ys.length),h,he]
theorem zG5 {w w':Bool} {a a':AV} {xs ys:List Int} {l:Nat} {l':Nat} (hl:l=xs.length) (hl':l'=ys.length) (hb:xs.length≤4611686018427387904) (hk:K (.bool (decide (xs=ys))) σ):zA Try.prog 114 [.fz w a l (pis xs),.fz w' a' l' (pis ys)] σ K:=by
 subst hl;subst hl';refine zB mix Try.func114 ?_
 conv=>arg 2;cbv
 refine zC rfl ?_;simp only [pwA,seval,-iQ0]
 split
 ·rename_i hl
  have hl:xs.length=ys.length:=by omega
  refine zM (fun m vs h'=>∃i:Nat,i≤xs.length∧m=xs.length-i∧vs=[.fz w a xs.length (pis xs),.fz w' a' ys.length (pis ys),.int .i64 i]∧h'=σ∧xs.take i=ys.take i) xs.length ?_ ?_
  ·exact⟨0,by omega,by omega,rfl,rfl,by simp⟩
  ·rintro m vs h' ⟨i,hi,rfl,rfl,rfl,hall⟩
   simp only [pwA,seval,-iQ0]
   split
   ·rename_i hlt
    have hlt2:i<ys.length:=by omega
    simp only [pwA,seval,-iQ0,hlt,hlt2,qO,gi hlt,gi hlt2]
    split
    ·rename_i h0
     simp only [pwA,seval,-iQ0,wrapS hlt hb];exact⟨_,by omega,i+1,by omega,rfl,rfl,zEo hl hlt hall h0⟩
    ·rename_i hn
     refine pkf hk fun hv=>hn (by subst hv;rfl)
   ·refine pkt hk ?_
    rwa [List.take_of_length_le (by omega),List.take_of_length_le (by omega)]at hall
 ·rename_i hl
  exact pkf hk fun hv=>hl (by rw [hv])
theorem zKh {w w':Bool} {a a':AV} {xs ys:List Int} {l:Nat} {l':Nat} (hl:l=xs.length) (hl':l'=ys.length) (hb:xs.length≤4611686018427387904) (hk:K (.bool (decide (xs=ys))) σ):zA Try.prog 117 [.fz w a l (pis xs),.fz w' a' l' (pis ys)] σ K:=by
 subst hl;subst hl';refine zB mix Try.func117 ?_
 conv=>arg 2;cbv
 refine zC rfl ?_;simp only [pwA,seval,-iQ0]
 split
 ·rename_i hl
  have hl:xs.length=ys.length:=by omega
  refine zM (fun m vs h'=>∃i:Nat,i≤xs.length∧m=xs.length-i∧vs=[.fz w a xs.length (pis xs),.fz w' a' ys.length (pis ys),.int .i64 xs.length,.int .i64 i]∧h'=σ∧xs.take i=ys.take i) xs.length ?_ ?_
  ·exact⟨0,by omega,by omega,rfl,rfl,by simp⟩
  ·rintro m vs h' ⟨i,hi,rfl,rfl,rfl,hall⟩
   simp only [pwA,seval,-iQ0]
   split
   ·rename_i hlt
    have hlt2:i<ys.length:=by omega
    simp only [pwA,seval,-iQ0,hlt,hlt2,qO,gi hlt,gi hlt2]
    split
    ·rename_i h0
     simp only [pwA,seval,-iQ0,wrapS hlt hb];exact⟨_,by omega,i+1,by omega,rfl,rfl,zEo hl hlt hall h0⟩
    ·rename_i hn
     refine pkf hk fun hv=>hn (by subst hv;rfl)
   ·refine pkt hk ?_
    rwa [List.take_of_length_le (by omega),List.take_of_length_le (by omega)]at hall
 ·rename_i hl
  exact pkf hk fun hv=>hl (by rw [hv])
def isP (n:Int):Prop:=n=2∨n=3∨n=5∨n=7
instance (n:Int):Decidable (isP n):=by unfold isP;infer_instance
theorem isP.bd {n:Int} (hp:isP n):2≤n∧n≤7:=by unfold isP at hp;omega
theorem zFo {n:Int} (hk:K (.bool (decide (isP n))) σ):zA Try.prog 43 [.int .i64 n] σ K:=by
 refine zB mix Try.func43 ?_
 conv=>arg 2;cbv
 refine zC rfl ?_
 by_cases h2:n=2
 ·simp only [pwA,seval,-iQ0,h2];exact pkt hk (by unfold isP;omega)
 by_cases h3:n=3
 ·simp only [pwA,seval,-iQ0,h3];exact pkt hk (by unfold isP;omega)
 by_cases h5:n=5
 ·simp only [pwA,seval,-iQ0,h5];exact pkt hk (by unfold isP;omega)
 by_cases h7:n=7
 ·simp only [pwA,seval,-iQ0,h7];exact pkt hk (by unfold isP;omega)
 simp only [pwA,seval,-iQ0,h2,h3,h5,h7];exact pkf hk (by unfold isP;omega)
theorem Qy {n:Int} (hk:K (.bool (decide (isP n))) σ):zA Try.prog 65 [.int .i64 n] σ K:=by
 refine zB mix Try.func65 ?_
 conv=>arg 2;cbv
 refine zC rfl ?_
 by_cases h2:n=2
 ·simp only [pwA,seval,-iQ0,h2];exact pkt hk (by unfold isP;omega)
 by_cases h3:n=3
 ·simp only [pwA,seval,-iQ0,h3];exact pkt hk (by unfold isP;omega)
 by_cases h5:n=5
 ·simp only [pwA,seval,-iQ0,h5];exact pkt hk (by unfold isP;omega)
 by_cases h7:n=7
 ·simp only [pwA,seval,-iQ0,h7];exact pkt hk (by unfold isP;omega)
 simp only [pwA,seval,-iQ0,h2,h3,h5,h7];exact pkf hk (by unfold isP;omega)
theorem zDO (x p:Int) (hp:0<p):(x.tmod p+p).tmod p=x % p:=by
 have h1:=Int.tmod_lt_of_pos x hp;have h2:=Int.lt_tmod_of_pos x hp;rw [Int.tmod_eq_emod_of_nonneg (by omega),Int.add_emod_right]
 rcases Int.le_total 0 x with h0|h0
 ·rw [Int.tmod_eq_emod_of_nonneg h0,Int.emod_emod_of_dvd _ (Int.dvd_refl p)]
 ·obtain⟨y,rfl⟩:∃y,x=-y:=⟨-x,by omega⟩
  rw [Int.neg_tmod,Int.tmod_eq_emod_of_nonneg (by omega)]
  have e:=Int.emod_add_mul_ediv y p
  have:-y=-(y % p)+p*(-(y / p)):=by rw [Int.mul_neg];omega
  rw [this,Int.add_mul_emod_self_left]
theorem zAS {x p:Int} (hp:0<p) (hp2:p<4611686018427387904) (hk:K (.int .i64 (x % p)) σ):zA Try.prog 110 [.int .i64 x,.int .i64 p] σ K:=by
 refine zB mix Try.func110 ?_
 conv=>arg 2;cbv
 refine zC rfl ?_;have hp0:p≠0:=by omega
 have h1:=Int.tmod_lt_of_pos x hp;have h2:=Int.lt_tmod_of_pos x hp;have hw:IntKind.i64.wrap (x.tmod p+p)=x.tmod p+p:=wrap64 (by omega) (by omega)
 have he:=zDO x p hp;simp only [pwA,seval,-iQ0,hp0,hw,he];exact hk
theorem zDJ {x p:Int} (hp:0<p) (hp2:p<4611686018427387904) (hk:K (.int .i64 (x % p)) σ):zA Try.prog 115 [.int .i64 x,.int .i64 p] σ K:=by
 refine zB mix Try.func115 ?_
 conv=>arg 2;cbv
 refine zC rfl ?_;have hp0:p≠0:=by omega
 have h1:=Int.tmod_lt_of_pos x hp;have h2:=Int.lt_tmod_of_pos x hp;have he:=zDO x p hp;simp only [pwA,seval,-iQ0,hp0]
 split
 ·rw [Int.tmod_eq_emod_of_nonneg (by omega),Int.emod_eq_of_lt (by omega) (by omega)]at he
  simp only [pwA,seval,-iQ0,he,wrap64 (n:=x % p) (by omega) (by omega)]
  exact hk
 ·rw [Int.tmod_eq_emod_of_nonneg (by omega),Int.add_emod_right,Int.emod_eq_of_lt (by omega) (by omega)]at he
  rw [he];exact hk
theorem zA5 {w:Bool} {a:AV} {xs:List Int} {l:Nat} (hl:l=xs.length) (hb:xs.length≤4294967296) (hk:∀cap,full 1 cap xs.length→K (.sl σ.next 0 xs.length cap) (σ.new (pis xs))):zA Try.prog 86 [.fz w a l (pis xs)] σ K:=by
 subst hl;refine zA.gh ?_;refine zB mix Try.func86 ?_
 conv=>arg 2;cbv
 refine zC rfl ?_;simp only [pwA,seval,-iQ0];refine PSl.cat (bytes:=8) (σb:=σ) (n:=0) (cs:=[]) (zG σ _) (PSl.new _ 1 rfl (Nat.le_refl _)) (qY xs) (by omega) (by omega) fun v' h' hk' ha=>?_
 simp only [pwA,seval,-iQ0]at ha ⊢
 exact ha.out hk' (ZI _ _) hk
theorem zE4 {w:Bool} {a:AV} {xs:List Int} {l:Nat} (hl:l=xs.length) (hb:xs.length≤4294967296) (hk:ResI σ K xs):zA Try.prog 103 [.fz w a l (pis xs)] σ K:=by
 subst hl;refine zA.nil0 fun hnil=>zA.gh ?_
 refine zB mix Try.func103 ?_
 conv=>arg 2;cbv
 refine zC rfl ?_;simp only [pwA,seval,-iQ0];cases hn:ZG a
 ·simp only [pwA,seval,-iQ0]
  refine PSl.cat (bytes:=8) (σb:=σ) (n:=0) (cs:=[]) (zG σ _) (PSl.new _ 1 rfl (Nat.le_refl _)) (qY xs) (by omega) (by omega) fun v' h' hk' ha=>?_
  simp only [pwA,seval,-iQ0]at ha ⊢
  exact ha.out hk' (ZI _ _) hk.2
 ·simp only [pwA,seval,-iQ0]
  exact Gh.ret (hk.1 (List.eq_nil_of_length_eq_zero (hnil hn).1))
end Go.Proofs
namespace Go.Lie
open Go.Ab
def okp (p:Int):Prop:=2≤p∧p≤7
abbrev at_ (v:List Int) (j:Nat):Int:=v.getD j 0
theorem at_eq {v:List Int} {j:Nat} (h:j<v.length):at_ v j=v[j]:=by simp [at_,List.getD_eq_getElem?_getD,List.getElem?_eq_getElem h]
theorem at_ge {v:List Int} {j:Nat} (h:v.length≤j):at_ v j=0:=by simp [at_,List.getD_eq_getElem?_getD,List.getElem?_eq_none h]
theorem zAG {a b:List Int} (hl:a.length=b.length) (h:∀j,j<a.length→at_ a j=at_ b j):a=b:=by
 apply List.ext_getElem hl;intro j h1 h2
 have:=h j h1
 rwa [at_eq h1,at_eq h2]at this
theorem at_set {v:List Int} {i:Nat} (hi:i<v.length) (x:Int) (j:Nat):at_ (v.set i x) j=if j=i then x else at_ v j:=by
 simp only [at_,List.getD_eq_getElem?_getD,List.getElem?_set]
 by_cases h:i=j
 ·subst h;simp [hi]
 ·rw [if_neg h,if_neg (fun e=>h e.symm)]
theorem zCi (n:Nat) (j:Nat):at_ (List.replicate n 0) j=0:=by
 simp only [at_,List.getD_eq_getElem?_getD,List.getElem?_replicate]
 split<;>rfl
def addm (q:Int) (xs ys:List Int):List Int:=List.zipWith (fun x y=>x+q*y) xs ys
theorem zBu {q:Int} {xs ys:List Int} (h:xs.length≤ys.length):(addm q xs ys).length=xs.length:=by simp [addm];omega
theorem zKP {q:Int} {xs ys:List Int} {i:Nat} (h1:i<xs.length) (h2:i<ys.length):(addm q xs ys)[i]? = some (xs[i] + q*ys[i]):=by
 simp [addm,List.getElem?_zipWith,List.getElem?_eq_getElem h1,List.getElem?_eq_getElem h2]
theorem zLl {q:Int} {xs ys:List Int} (h:xs.length=ys.length) (i:Nat):at_ (addm q xs ys) i=at_ xs i+q*at_ ys i:=by
 rcases Nat.lt_or_ge i xs.length with x|x
 ·have:=zKP (q:=q) x (h ▸ x)
  simp only [at_,List.getD_eq_getElem?_getD];rw [this,List.getElem?_eq_getElem x,List.getElem?_eq_getElem (h ▸ x)]
  rfl
 ·rw [at_ge (by rw [zBu (by omega)];exact x),at_ge x,at_ge (h ▸ x)]
  simp
def lmix (k:Int) (a:List Int) (m:Int) (b:List Int):List Int:=List.zipWith (fun x y=>k*x+m*y) a b
theorem qy {k m:Int} {a b:List Int} (h:a.length=b.length):(lmix k a m b).length=a.length:=by simp [lmix];omega
theorem zJz {k m:Int} {a b:List Int} {i:Nat} (h1:i<a.length) (h2:i<b.length):(lmix k a m b)[i]? = some (k*a[i] + m*b[i]):=by
 simp [lmix,List.getElem?_zipWith,List.getElem?_eq_getElem h1,List.getElem?_eq_getElem h2]
theorem Zz {k m:Int} {a b:List Int} (h:a.length=b.length) (i:Nat):at_ (lmix k a m b) i=k*at_ a i+m*at_ b i:=by
 rcases Nat.lt_or_ge i a.length with x|x
 ·rw [at_eq (by rw [qy h];exact x),at_eq x,at_eq (by omega:i<b.length)]
  have:=zJz (k:=k) (m:=m) x (by omega:i<b.length)
  rw [List.getElem?_eq_getElem (by rw [qy h];exact x)]at this
  exact Option.some.inj this
 ·rw [at_ge (by rw [qy h];exact x),at_ge x,at_ge (by omega:b.length≤i)]
  simp
def box (p:Int) (v:List Int):Prop:=∀x∈v,0≤x∧x≤p-1
def El (p:Int) (n:Nat) (a:List Int):Prop:=a.length=n∧box p a
theorem box.at {p:Int} {v:List Int} (hp:0<p) (h:box p v) (j:Nat):0≤at_ v j∧at_ v j≤p-1:=by
 rcases Nat.lt_or_ge j v.length with x|x
 ·rw [at_eq x];exact h _ (List.getElem_mem x)
 ·rw [at_ge x];omega
structure OkW (p:Int) (n:Nat) (W:List (List Int)):Prop where
 pr:okp p
 len:W.length=n
 row:∀(i:Nat) (h:i<W.length),W[i].length=n∧box p W[i]∧∀j,j≤i→at_ W[i] j=0
variable {p:Int} {n:Nat} {W:List (List Int)}
def nstep (p:Int) (W:List (List Int)) (i:Nat) (v:List Int):List Int:=addm (at_ v i / p) (v.set i (at_ v i-at_ v i / p*p)) (W.getD i [])
def nrm (p:Int) (W:List (List Int)):Nat→List Int→List Int
 | 0,v=>v
 | k+1,v=>nstep p W k (nrm p W k v)
def norm (p:Int) (W:List (List Int)) (v:List Int):List Int:=nrm p W W.length v
abbrev w_ (W:List (List Int)) (i j:Nat):Int:=at_ (W.getD i []) j
theorem zEf {i:Nat} (h:i<W.length):W.getD i []=W[i]:=by simp [List.getD_eq_getElem?_getD,List.getElem?_eq_getElem h]
theorem OkW.zero (o:OkW p n W) {i j:Nat} (h:j≤i):w_ W i j=0:=by
 rcases Nat.lt_or_ge i W.length with x|x
 ·rw [w_,zEf x];exact(o.row i x).2.2 j h
 ·simp [w_,List.getD_eq_getElem?_getD,List.getElem?_eq_none x]
theorem OkW.rowlen (o:OkW p n W) {i:Nat} (h:i<n):(W.getD i []).length=n:=by
 rw [zEf (o.len ▸ h)];exact(o.row i (o.len ▸ h)).1
theorem zEP (o:OkW p n W) {i:Nat} (hi:i<n) {v:List Int} (hv:v.length=n):(nstep p W i v).length=n:=by
 rw [nstep,zBu (by rw [List.length_set,o.rowlen hi];omega),List.length_set,hv]
theorem zEQ (o:OkW p n W) {i:Nat} (hi:i<n) {v:List Int} (hv:v.length=n) (j:Nat):at_ (nstep p W i v) j=at_ v j+at_ v i / p*(w_ W i j-if j=i then p else 0):=by
 rw [nstep,zLl (by rw [List.length_set,o.rowlen hi,hv]),at_set (by omega)]
 split
 ·rename_i e;subst e;simp only [w_];rw [Int.mul_sub];omega
 ·rw [Int.sub_zero]
theorem QZ (o:OkW p n W) {v:List Int} (hv:v.length=n):∀{k:Nat},k≤n→(nrm p W k v).length=n
 | 0,_=>hv
 | k+1,hk=>zEP o (by omega) (QZ o hv (by omega))
theorem QL (o:OkW p n W) {v:List Int} (hv:v.length=n):(norm p W v).length=n:=QZ o hv (Nat.le_of_eq o.len)
theorem zIj (a:Int) (hp:0<p):a / p*p≤a∧a<a / p*p+p:=by
 have h1:=Int.emod_add_mul_ediv a p;have h2:=Int.emod_nonneg a (by omega:p≠0)
 have h3:=Int.emod_lt_of_pos a hp;rw [Int.mul_comm]at h1
 omega
def sumN:Nat→(Nat→Int)→Int
 | 0,_=>0
 | n+1,f=>sumN n f+f n
theorem zAO:∀{n:Nat} {f g:Nat→Int},(∀i,i<n→f i=g i)→sumN n f=sumN n g
 | 0,_,_,_=>rfl
 | n+1,f,g,h=>by simp only [sumN];rw [zAO (fun i hi=>h i (by omega)),h n (by omega)]
theorem zAP:∀(n:Nat) (f g:Nat→Int),sumN n (fun i=>f i+g i)=sumN n f+sumN n g
 | 0,_,_=>rfl
 | n+1,f,g=>by simp only [sumN];rw [zAP n f g];omega
theorem zAN (k:Int):∀(n:Nat) (f:Nat→Int),sumN n (fun i=>k*f i)=k*sumN n f
 | 0,_=>by simp [sumN]
 | n+1,f=>by simp only [sumN];rw [zAN k n f,Int.mul_add]
theorem ZT:∀(n:Nat) {f:Nat→Int},(∀i,i<n→f i=0)→sumN n f=0
 | 0,_,_=>rfl
 | n+1,f,h=>by simp only [sumN];rw [ZT n (fun i hi=>h i (by omega)),h n (by omega)];rfl
theorem Qi {n k:Nat} (hk:k<n) {f:Nat→Int} (h:∀i,i<n→i≠k→f i=0):sumN n f=f k:=by
 induction n with
 | zero=>omega
 | succ n ih=>
  simp only [sumN]
  by_cases e:k=n
  ·subst e
   rw [ZT k (fun i hi=>h i (by omega) (by omega))]
   omega
  ·rw [ih (by omega) (fun i hi hne=>h i (by omega) hne),h n (by omega) (fun e'=>e e'.symm)]
   omega
abbrev rel (p:Int) (W:List (List Int)) (i j:Nat):Int:=w_ W i j-if j=i then p else 0
def Eqv (p:Int) (n:Nat) (W:List (List Int)) (f g:Nat→Int):Prop:=∃c:Nat→Int,∀j,f j=g j+sumN n (fun i=>c i*rel p W i j)
theorem Eqv.refl (f:Nat→Int):Eqv p n W f f:=⟨fun _=>0,fun j=>by rw [ZT];omega;intro i _;exact Int.zero_mul _⟩
theorem Eqv.symm {f g:Nat→Int} (h:Eqv p n W f g):Eqv p n W g f:=by
 obtain⟨c,hc⟩:=h;refine⟨fun i=>-1*c i,fun j=>?_⟩
 have:(fun i=>-1*c i*rel p W i j)=fun i=>-1*(c i*rel p W i j):=by funext i;rw [Int.mul_assoc]
 rw [this,zAN,hc j];omega
theorem Eqv.trans {f g k:Nat→Int} (h:Eqv p n W f g) (h':Eqv p n W g k):Eqv p n W f k:=by
 obtain⟨c,hc⟩:=h;obtain⟨d,hd⟩:=h';refine⟨fun i=>c i+d i,fun j=>?_⟩
 have:(fun i=>(c i+d i)*rel p W i j)=fun i=>c i*rel p W i j+d i*rel p W i j:=by funext i;rw [Int.add_mul]
 rw [this,zAP,hc j,hd j];omega
theorem Eqv.add {f g f' g':Nat→Int} (h:Eqv p n W f g) (h':Eqv p n W f' g'):Eqv p n W (fun j=>f j+f' j) (fun j=>g j+g' j):=by
 obtain⟨c,hc⟩:=h;obtain⟨d,hd⟩:=h';refine⟨fun i=>c i+d i,fun j=>?_⟩
 have:(fun i=>(c i+d i)*rel p W i j)=fun i=>c i*rel p W i j+d i*rel p W i j:=by funext i;rw [Int.add_mul]
 dsimp only
 rw [this,zAP,hc j,hd j];omega
theorem Eqv.mul (k:Int) {f g:Nat→Int} (h:Eqv p n W f g):Eqv p n W (fun j=>k*f j) (fun j=>k*g j):=by
 obtain⟨c,hc⟩:=h;refine⟨fun i=>k*c i,fun j=>?_⟩
 have:(fun i=>k*c i*rel p W i j)=fun i=>k*(c i*rel p W i j):=by funext i;rw [Int.mul_assoc]
 dsimp only
 rw [this,zAN,hc j,Int.mul_add]
theorem Eqv.of_eq {f g:Nat→Int} (h:∀j,f j=g j):Eqv p n W f g:=by
 have:f=g:=funext h
 subst this;exact Eqv.refl f
theorem zIU (o:OkW p n W) {i:Nat} (hi:i<n) {v:List Int} (hv:v.length=n):Eqv p n W (at_ (nstep p W i v)) (at_ v):=by
 refine⟨fun k=>if k=i then at_ v i / p else 0,fun j=>?_⟩
 rw [Qi hi (fun k _ hk=>by dsimp only;rw [if_neg hk,Int.zero_mul]),zEQ o hi hv]
 dsimp only;rw [if_pos rfl]
theorem zGG (o:OkW p n W) {v:List Int} (hv:v.length=n):∀{k:Nat},k≤n→Eqv p n W (at_ (nrm p W k v)) (at_ v)
 | 0,_=>Eqv.refl _
 | k+1,hk=>(zIU o (by omega) (QZ o hv (by omega))).trans (zGG o hv (by omega))
theorem ZW (o:OkW p n W) {v:List Int} (hv:v.length=n):Eqv p n W (at_ (norm p W v)) (at_ v):=zGG o hv (Nat.le_of_eq o.len)
theorem zGH (o:OkW p n W) {v:List Int} (hv:v.length=n):∀{k:Nat},k≤n→∀j,j<k→0≤at_ (nrm p W k v) j∧at_ (nrm p W k v) j≤p-1
 | 0,_,j,hj=>by omega
 | k+1,hk,j,hj=>by
  have hp:=o.pr;unfold okp at hp
  simp only [nrm];rw [zEQ o (by omega) (QZ o hv (by omega)),o.zero (by omega:j≤k)]
  by_cases e:j=k
  ·subst e
   rw [if_pos rfl,Int.zero_sub,Int.mul_neg]
   have:=zIj (p:=p) (at_ (nrm p W j v) j) (by omega)
   omega
  ·rw [if_neg e,Int.sub_zero,Int.mul_zero,Int.add_zero]
   exact zGH o hv (by omega) j (by omega)
theorem QI (o:OkW p n W) {v:List Int} (hv:v.length=n):box p (norm p W v):=by
 intro x hx;obtain⟨j,hj,rfl⟩:=List.mem_iff_getElem.1 hx
 have:=zGH o hv (Nat.le_of_eq o.len) j (by rw [QL o hv]at hj;rw [o.len];exact hj)
 rwa [←at_eq hj]
theorem zCZ (o:OkW p n W) {a b:List Int} (ha:a.length=n) (hb:b.length=n) (ba:box p a) (bb:box p b) (h:Eqv p n W (at_ a) (at_ b)):a=b:=by
 obtain⟨c,hc⟩:=h;have hp:=o.pr;unfold okp at hp
 have key:∀m,m≤n→∀i,i<m→c i=0:=by
  intro m
  induction m with
  | zero=>intro _ i hi;omega
  | succ m ih=>
   intro hm i hi
   by_cases e:i=m
   ·subst e
    have h1:=hc i;rw [Qi (k:=i) (by omega) (fun k hk hne=>by
     rcases Nat.lt_or_ge k i with x|x
     ·rw [ih (by omega) k x,Int.zero_mul]
     ·rw [rel,o.zero x,if_neg (fun e=>hne e.symm)];simp)]at h1
    rw [rel,o.zero (Nat.le_refl _),if_pos rfl]at h1
    have h2:=ba.at (by omega) i
    have h3:=bb.at (by omega) i
    rw [Int.zero_sub,Int.mul_neg]at h1
    rcases Int.lt_trichotomy (c i) 0 with x|x|x
    ·have:=Int.mul_le_mul_of_nonneg_right (show c i≤-1 by omega) (show 0≤p by omega)
     omega
    ·exact x
    ·have:=Int.mul_le_mul_of_nonneg_right (show 1≤c i by omega) (show 0≤p by omega)
     omega
   ·exact ih (by omega) i (by omega)
 refine zAG (by omega) fun j hj=>?_
 rw [hc j,ZT n (fun i hi=>by rw [key n (Nat.le_refl _) i hi,Int.zero_mul])]
 omega
theorem zIV (o:OkW p n W) {a:List Int} (ha:a.length=n) (ba:box p a):norm p W a=a:=
 zCZ o (QL o ha) ha (QI o ha) ba (ZW o ha)
end Go.Lie
namespace Go.Proofs
open Go.Ab Go.Lie
variable {σ:PHeap} {K:PV→PHeap→Prop} {p:Int} {n:Nat} {W:List (List Int)} {B:List (List (List Int))} {vP vB vL:PV} {s:Nat}
structure SzL (xs:List (List Int)):Prop where
 l:xs.length≤1048576
 r:∀x∈xs,x.length≤1048576
end Go.Proofs
namespace Go.Proofs
open Go.Ab Go.Lie
variable {σ:PHeap} {K:PV→PHeap→Prop} {p p':Int} {n:Nat} {W W':List (List Int)} {B B':List (List (List Int))} {vP vB vP' vB' vL vL':PV}
def left_ (l:Int):Prop:=0≤l∧l≤1048576
theorem zE8 {l:Int} {xs:List Int} {v:PV} (hI:FI v xs) (hb:xs.length≤9223372036854775807) (hl:left_ l) (hk:∀r:Int,(r=-1∨(left_ r∧xs.length≤1048576))→K (.int .i64 r) σ):zA Try.prog 90 [v,.int .i64 l] σ K:=by
 obtain⟨w,a,rfl⟩:=hI;unfold left_ at hl
 refine zB mix Try.func90 ?_
 conv=>arg 2;cbv
 refine zC rfl ?_;simp only [pwA,seval,-iQ0,wrap64 (n:=l-(xs.length:Int)) (by omega) (by omega)]
 refine iteI (fun h=>?_) fun h=>?_
 ·exact hk _ (.inl rfl)
 ·exact hk _ (.inr ⟨by unfold left_;omega,by omega⟩)
theorem zDp {l:Int} {xs:List (List Int)} {v:PV} (hI:FII v xs) (hb:xs.length≤9223372036854775807) (hb2:∀x∈xs,x.length≤9223372036854775807) (hl:left_ l) (hk:∀r:Int,(r=-1∨(left_ r∧SzL xs))→K (.int .i64 r) σ):zA Try.prog 52 [v,.int .i64 l] σ K:=by
 obtain⟨w,a,rs,rfl,hr⟩:=hI;have hl':=hl;unfold left_ at hl
 refine zB mix Try.func52 ?_
 conv=>arg 2;cbv
 refine zC rfl ?_;simp only [pwA,seval,-iQ0,wrap64 (n:=l-(xs.length:Int)) (by omega) (by omega)]
 refine iteI (fun h=>?_) fun h=>?_
 ·exact hk _ (.inl rfl)
 refine zM (fun m vs h'=>∃i:Nat,i≤xs.length∧m=xs.length-i∧∃r:Int,left_ r∧vs=[.fz w a xs.length rs,.int .i64 r,.int .i64 i]∧σ=h'∧∀x∈xs.take i,x.length≤1048576) xs.length ?_ ?_
 ·exact⟨0,by omega,by omega,_,(by unfold left_;omega),rfl,rfl,by simp⟩
 rintro m vs h' ⟨i,hi,rfl,r,hr',rfl,rfl,hall⟩
 simp only [pwA,seval,-iQ0];refine iteI (fun hlt=>?_) fun hge=>?_
 rotate_left
 ·exact hk _ (.inr ⟨hr',by omega,zAb (by omega) hall⟩)
 obtain⟨w4,a4,hrk⟩:=hr.rowI hlt;simp only [pwA,seval,-iQ0,hlt,hrk];refine zE8 ⟨_,_,rfl⟩ (hb2 _ (List.getElem_mem hlt)) hr' fun r' h=>?_
 rcases h with rfl|⟨h1,h2⟩
 ·simp only [pwA,seval,-iQ0]
  exact hk _ (.inl rfl)
 ·have:¬r'<0:=by unfold left_ at h1;omega
  simp only [pwA,seval,-iQ0,this,wrapS hlt (by omega:xs.length≤4611686018427387904)]
  exact⟨_,by omega,i+1,by omega,rfl,_,h1,rfl,zEk hlt hall h2⟩
theorem zBd {v:PV} {xs:List Int} (hI:FI v xs) (hb:xs.length≤1048576) (hk:∀cap,full 1 cap xs.length→K (.sl σ.next 0 xs.length cap) (σ.new (pis xs))):zA Try.prog 96 [v] σ K:=by
 obtain⟨w,a,rfl⟩:=hI;refine zB mix Try.func96 ?_
 conv=>arg 2;cbv
 refine zC rfl ?_;simp only [pwA,seval,-iQ0,zBQ,mk8 (n:=xs.length) (by omega),mkL (n:=xs.length) (by omega)]
 refine zM (fun m vs h'=>∃i:Nat,i≤xs.length∧m=xs.length-i∧vs=[.fz w a xs.length (pis xs),.sl σ.next 0 xs.length (.known xs.length),.int .i64 i]∧h'=σ.new (pis (xs.take i++List.replicate (xs.length-i) 0))) xs.length ?_ ?_
 ·exact⟨0,by omega,by omega,rfl,by rw [List.take_zero,List.nil_append,Nat.sub_zero]⟩
 rintro m vs h' ⟨i,hi,rfl,rfl,rfl⟩
 simp only [pwA,seval,-iQ0];refine iteI (fun hlt=>?_) fun hge=>?_
 ·have hlen:i+1≤(xs.take i++List.replicate (xs.length-i) 0).length:=by simp;omega
  simp only [pwA,seval,-iQ0,hlt,gi hlt,qO,qY,hlen,wrapS hlt (by omega:xs.length≤4611686018427387904)]
  refine⟨_,by omega,i+1,by omega,rfl,rfl,?_⟩
  rw [Zm (by omega),zDo xs 0 hlt]
 ·have hie:i=xs.length:=by omega
  subst hie;rw [List.take_length,Nat.sub_self,List.replicate_zero,List.append_nil];exact hk _ (.inr rfl)
theorem zE6 {v:PV} {xs:List Int} (hI:FI v xs) (hb:xs.length≤1048576) (hk:∀v,FI v xs→K v σ):zA Try.prog 96 [v] σ K:=
 zA.fz (fun K'=>zBd hI hb) (ZI _ _) fun o cap=>hk _ ⟨_,_,rfl⟩
theorem zDt {rows:List PV} {z r:PV} {n i:Nat} (hl:rows.length=i) (hi:i<n):(rows++List.replicate (n-i) z).take i++[r]++(rows++List.replicate (n-i) z).drop (i+1)=(rows++[r])++List.replicate (n-(i+1)) z:=by
 rw [List.take_append_of_le_length (by omega),List.take_of_length_le (by omega),List.drop_append,List.drop_eq_nil_of_le (by omega),List.nil_append,hl]
 congr 1
 obtain⟨k,hk⟩:∃k,n-i=k+1:=⟨n-i-1,by omega⟩
 rw [hk,show i+1-i=1 by omega,List.replicate_succ,List.drop_succ_cons,List.drop_zero]
 congr 1;omega
theorem zDn {v:PV} {xs:List (List Int)} (hI:FII v xs) (sz:SzL xs) (hk:∀v,FII v xs→K v σ):zA Try.prog 55 [v] σ K:=by
 obtain⟨w,a,rs,rfl,hr⟩:=hI;have hb:=sz.l;refine zA.gh ?_;refine zB mix Try.func55 ?_
 conv=>arg 2;cbv
 refine zC rfl ?_;simp only [pwA,seval,-iQ0,mk24 (n:=xs.length) (by omega),mkL (n:=xs.length) (by omega)]
 refine zM (fun m vs h'=>∃i:Nat,i≤xs.length∧m=xs.length-i∧vs=[.fz w a xs.length rs,.sl σ.next 0 xs.length (.known xs.length),.int .i64 i]∧∃rows:List PV,rows.length=i∧All2 FI rows (xs.take i)∧h'=σ.new (rows++List.replicate (xs.length-i) (.fz true .nils 0 []))) xs.length ?_ ?_
 ·exact⟨0,by omega,by omega,rfl,[],rfl,by simpa using All2.nil _,by simp⟩
 rintro m vs h' ⟨i,hi,rfl,rfl,rows,hrl,hra,rfl⟩
 simp only [pwA,seval,-iQ0];refine iteI (fun hlt=>?_) fun hge=>?_
 ·obtain⟨w4,a4,hrk⟩:=hr.rowI hlt
  simp only [pwA,seval,-iQ0,hlt,hrk];refine zE6 ⟨_,_,rfl⟩ (sz.r _ (List.getElem_mem hlt)) fun r hr'=>?_
  have hlen:i+1≤(rows++List.replicate (xs.length-i) (PV.fz true .nils 0 [])).length:=by simp;omega
  simp only [pwA,seval,-iQ0,hlt,hlen,hr'.cells,hr'.one,wrapS hlt (by omega:xs.length≤4611686018427387904)]
  refine⟨_,by omega,i+1,by omega,rfl,rfl,rows++[r],by simp [hrl],?_,?_⟩
  ·rw [List.take_succ_eq_append_getElem hlt];exact hra.snoc hr'
  ·rw [zDt hrl hlt]
 ·have hie:i=xs.length:=by omega
  subst hie;rw [List.take_length]at hra
  rw [Nat.sub_self,List.replicate_zero,List.append_nil];exact Gh.finF (zG σ _) (by simp only [pwA,seval,-iQ0]) (Nat.le_refl _) (hra.bI 0) (by simp [capOK]) fun o=>hk _ ⟨_,_,_,rfl,hra⟩
theorem zFw {v v':PV} {xs ys:List Int} (hI:FI v xs) (hI':FI v' ys) (hb:xs.length≤4611686018427387904) (hk:K (.bool (decide (xs=ys))) σ):zA Try.prog 98 [v,v'] σ K:=by
 obtain⟨w,a,rfl⟩:=hI;obtain⟨w',a',rfl⟩:=hI';refine zB mix Try.func98 ?_
 conv=>arg 2;cbv
 refine zC rfl ?_;simp only [pwA,seval,-iQ0];refine iteI (fun hl=>?_) fun hl=>?_
 rotate_left
 ·exact pkf hk fun hv=>hl (by rw [hv])
 have hl:xs.length=ys.length:=by omega
 refine zM (fun m vs h'=>∃i:Nat,i≤xs.length∧m=xs.length-i∧vs=[.fz w a xs.length (pis xs),.fz w' a' ys.length (pis ys),.int .i64 i]∧σ=h'∧xs.take i=ys.take i) xs.length ?_ ?_
 ·exact⟨0,by omega,by omega,rfl,rfl,by simp⟩
 rintro m vs h' ⟨i,hi,rfl,rfl,rfl,hall⟩
 simp only [pwA,seval,-iQ0];refine iteI (fun hlt=>?_) fun hge=>?_
 ·have hlt2:i<ys.length:=by omega
  simp only [pwA,seval,-iQ0,hlt,hlt2,qO,gi hlt,gi hlt2];refine iteI (fun h0=>?_) fun hn=>?_
  ·simp only [pwA,seval,-iQ0,wrapS hlt hb]
   exact⟨_,by omega,i+1,by omega,rfl,rfl,zEo hl hlt hall h0⟩
  ·exact pkf hk fun hv=>hn (by subst hv;rfl)
 ·refine pkt hk ?_
  rwa [List.take_of_length_le (by omega),List.take_of_length_le (by omega)]at hall
theorem zIk {α:Type} {xs ys:List α} (hl:xs.length=ys.length) {i:Nat} (hi:i<xs.length) (h:xs.take i=ys.take i) (he:xs[i]=ys[i]'(by omega)):xs.take (i+1)=ys.take (i+1):=by
 rw [List.take_succ_eq_append_getElem hi,List.take_succ_eq_append_getElem (by omega:i<ys.length),h,he]
theorem zEp {v v':PV} {xs ys:List (List Int)} (hI:FII v xs) (hI':FII v' ys) (sz:SzL xs) (hk:∀t:Bool,(t=true↔xs=ys)→K (.bool t) σ):zA Try.prog 57 [v,v'] σ K:=by
 obtain⟨w,a,rs,rfl,hr⟩:=hI;obtain⟨w',a',rs',rfl,hr'⟩:=hI';have hb:=sz.l;have fl:∀{A:Prop},¬A→((false=true)↔A):=fun h=>⟨fun x=>(by cases x),fun x=>absurd x h⟩
 refine zB mix Try.func57 ?_
 conv=>arg 2;cbv
 refine zC rfl ?_;simp only [pwA,seval,-iQ0];refine iteI (fun hl=>?_) fun hl=>?_
 rotate_left
 ·exact hk _ (fl fun hv=>hl (by rw [hv]))
 have hl:xs.length=ys.length:=by omega
 refine zM (fun m vs h'=>∃i:Nat,i≤xs.length∧m=xs.length-i∧vs=[.fz w a xs.length rs,.fz w' a' ys.length rs',.int .i64 i]∧σ=h'∧xs.take i=ys.take i) xs.length ?_ ?_
 ·exact⟨0,by omega,by omega,rfl,rfl,by simp⟩
 rintro m vs h' ⟨i,hi,rfl,rfl,rfl,hall⟩
 simp only [pwA,seval,-iQ0];refine iteI (fun hlt=>?_) fun hge=>?_
 ·have hlt2:i<ys.length:=by omega
  obtain⟨w4,a4,h4⟩:=hr.rowI hlt;obtain⟨w5,a5,h5⟩:=hr'.rowI hlt2;simp only [pwA,seval,-iQ0,hlt,hlt2,h4,h5];refine zFw ⟨_,_,rfl⟩ ⟨_,_,rfl⟩ (by have:=sz.r _ (List.getElem_mem hlt);omega) ?_
  by_cases he:xs[i]=ys[i]
  ·simp only [pwA,seval,-iQ0,eq_true he,wrapS hlt (by omega:xs.length≤4611686018427387904)]
   exact⟨_,by omega,i+1,by omega,rfl,rfl,zIk hl hlt hall he⟩
  ·simp only [pwA,seval,-iQ0,he]
   exact hk _ (fl fun hv=>he (by subst hv;rfl))
 ·refine hk _ ⟨fun _=>?_,fun _=>rfl⟩
  rwa [List.take_of_length_le (by omega),List.take_of_length_le (by omega)]at hall
end Go.Proofs
namespace Go.Lie
open Go.Ab
variable {p:Int} {n:Nat} {W:List (List Int)}
abbrev Vec:=Nat→Int
structure IsSub (p:Int) (n:Nat) (W:List (List Int)) (S:Vec→Prop):Prop where
 zero:S fun _=>0
 add:∀f g,S f→S g→S fun j=>f j+g j
 mul:∀k f,S f→S fun j=>k*f j
 eqv:∀f g,Eqv p n W f g→S g→S f
def comb (c:Nat→Int) (L:List (List Int)):Vec:=fun j=>sumN L.length fun k=>c k*at_ (L.getD k []) j
def Gen (p:Int) (n:Nat) (W:List (List Int)) (L:List (List Int)) (f:Vec):Prop:=∃c:Nat→Int,Eqv p n W f (comb c L)
theorem zKM (c d:Nat→Int) (L:List (List Int)) (j:Nat):comb (fun k=>c k+d k) L j=comb c L j+comb d L j:=by
 unfold comb;rw [←zAP];exact zAO fun i _=>Int.add_mul _ _ _
theorem zKL (m:Int) (c:Nat→Int) (L:List (List Int)) (j:Nat):comb (fun k=>m*c k) L j=m*comb c L j:=by
 unfold comb;rw [←zAN];exact zAO fun i _=>Int.mul_assoc _ _ _
theorem zH (L:List (List Int)):IsSub p n W (Gen p n W L):=by
 refine⟨⟨fun _=>0,Eqv.of_eq fun j=>?_⟩,fun f g ⟨c,hc⟩ ⟨d,hd⟩=>⟨fun k=>c k+d k,(hc.add hd).trans (Eqv.of_eq fun j=>(zKM c d L j).symm)⟩,
  fun k f ⟨c,hc⟩=>⟨fun i=>k*c i,(hc.mul k).trans (Eqv.of_eq fun j=>(zKL k c L j).symm)⟩,fun f g h ⟨c,hc⟩=>⟨c,h.trans hc⟩⟩
 unfold comb;rw [ZT _ (fun i _=>Int.zero_mul _)]
theorem qU {L:List (List Int)} {v:List Int} (h:v∈L):Gen p n W L (at_ v):=by
 obtain⟨k,hk,rfl⟩:=List.mem_iff_getElem.1 h;refine⟨fun i=>if i=k then 1 else 0,Eqv.of_eq fun j=>?_⟩
 unfold comb;rw [Qi hk (fun i _ hi=>by dsimp only;rw [if_neg hi,Int.zero_mul])]
 dsimp only
 rw [if_pos rfl,Int.one_mul];simp [List.getD_eq_getElem?_getD,List.getElem?_eq_getElem hk]
theorem IsSub.sum {S:Vec→Prop} (h:IsSub p n W S):∀{m:Nat} {F:Nat→Vec},(∀k,k<m→S (F k))→S fun j=>sumN m fun k=>F k j
 | 0,_,_=>h.zero
 | m+1,F,hF=>h.add _ _ (IsSub.sum h fun k hk=>hF k (by omega)) (hF m (by omega))
theorem IsSub.comb {S:Vec→Prop} (h:IsSub p n W S) {L:List (List Int)} (hL:∀v∈L,S (at_ v)) (c:Nat→Int):S (comb c L):=
 h.sum fun k hk=>h.mul (c k) _ (hL _ (by
  have:L.getD k []=L[k]:=by simp [List.getD_eq_getElem?_getD,List.getElem?_eq_getElem hk]
  rw [this];exact List.getElem_mem hk))
theorem zMP {S:Vec→Prop} (h:IsSub p n W S) {L:List (List Int)} (hL:∀v∈L,S (at_ v)) {f:Vec} (hf:Gen p n W L f):S f:=by
 obtain⟨c,hc⟩:=hf;exact h.eqv _ _ hc (h.comb hL c)
theorem ZX {L M:List (List Int)} (h:∀v∈L,Gen p n W M (at_ v)) {f:Vec} (hf:Gen p n W L f):Gen p n W M f:=zMP (zH M) h hf
theorem Q5 {L M:List (List Int)} (h:∀v∈L,v∈M) {f:Vec} (hf:Gen p n W L f):Gen p n W M f:=ZX (fun v hv=>qU (h v hv)) hf
theorem IsSub.sub {S:Vec→Prop} (h:IsSub p n W S) {f g:Vec} (hf:S f) (hg:S g):S fun j=>f j-g j:=by
 have:=h.add _ _ hf (h.mul (-1) _ hg)
 exact h.eqv _ _ (Eqv.of_eq fun j=>by omega) this
def dep:List Int→Nat
 | []=>0
 | x::xs=>if x=0 then dep xs+1 else 0
theorem zCf:∀v:List Int,dep v≤v.length
 | []=>Nat.le_refl _
 | x::xs=>by simp only [dep,List.length_cons];have:=zCf xs;split<;>omega
theorem qX:∀{v:List Int} {j:Nat},j<dep v→at_ v j=0
 | [],j,h=>by simp [at_]
 | x::xs,j,h=>by
  simp only [dep]at h
  split at h
  ·rename_i hx
   cases j with
   | zero=>simp [at_,hx]
   | succ j=>
    have:=qX (v:=xs) (j:=j) (by omega)
    simpa [at_]using this
  ·omega
theorem QC:∀{v:List Int},dep v<v.length→at_ v (dep v)≠0
 | [],h=>by simp at h
 | x::xs,h=>by
  simp only [dep,List.length_cons]at h ⊢
  split at h
  ·rename_i hx
   rw [if_pos hx]
   have:=QC (v:=xs) (by omega)
   simpa [at_]using this
  ·rename_i hx
   rw [if_neg hx]
   simpa [at_]using hx
theorem zAK {v:List Int} {d:Nat} (h1:∀j,j<d→at_ v j=0) (h2:at_ v d≠0):dep v=d:=by
 rcases Nat.lt_trichotomy (dep v) d with x|x|x
 ·have hd:d<v.length:=by
   rcases Nat.lt_or_ge d v.length with y|y
   ·exact y
   ·exact absurd (at_ge y) h2
  exact absurd (h1 _ x) (QC (by omega))
 ·exact x
 ·exact absurd (qX x) h2
theorem QK (o:OkW p n W) {f g:Vec} (h:Eqv p n W f g) {d:Nat} (hd:d<n) (hf:∀j,j<d→0≤f j∧f j≤p-1) (hg:∀j,j<d→0≤g j∧g j≤p-1):(∀j,j<d→f j=g j)∧∃k:Int,f d=g d-k*p:=by
 obtain⟨c,hc⟩:=h;have hp:=o.pr;unfold okp at hp
 have val:∀i,i≤d→(∀k,k<i→c k=0)→f i=g i-c i*p:=by
  intro i hi hk;have h1:=hc i;rw [Qi (k:=i) (by omega) (fun k hkn hne=>by
   rcases Nat.lt_or_ge k i with x|x
   ·rw [hk k x,Int.zero_mul]
   ·rw [rel,o.zero x,if_neg (fun e=>hne e.symm)];simp)]at h1
  rw [rel,o.zero (Nat.le_refl _),if_pos rfl,Int.zero_sub,Int.mul_neg]at h1
  omega
 have key:∀m,m≤d→∀i,i<m→c i=0:=by
  intro m
  induction m with
  | zero=>intro _ i hi;omega
  | succ m ih=>
   intro hm i hi
   by_cases e:i=m
   ·subst e
    have h1:=val i (by omega) (ih (by omega))
    have h2:=hf i (by omega)
    have h3:=hg i (by omega)
    rcases Int.lt_trichotomy (c i) 0 with x|x|x
    ·have:=Int.mul_le_mul_of_nonneg_right (show c i≤-1 by omega) (show 0≤p by omega)
     omega
    ·exact x
    ·have:=Int.mul_le_mul_of_nonneg_right (show 1≤c i by omega) (show 0≤p by omega)
     omega
   ·exact ih (by omega) i (by omega)
 refine⟨fun j hj=>?_,c d,val d (Nat.le_refl _) (key d (Nat.le_refl _))⟩
 have:=val j (by omega) (fun k hk=>key d (Nat.le_refl _) k (by omega))
 rw [key d (Nat.le_refl _) j hj]at this
 omega
theorem zIY (o:OkW p n W) {v:List Int} (hv:v.length=n) {d:Nat} (hd:d≤n) (h:∀j,j<d→at_ v j=0):∀j,j<d→at_ (norm p W v) j=0:=by
 have hp:=o.pr;unfold okp at hp
 have hb:=QI o hv;intro j hj
 have:=(QK o (ZW o hv) (d:=j) (by omega) (fun i _=>hb.at (by omega) i) (fun i hi=>by rw [h i (by omega)];omega)).1
 obtain⟨k,hk⟩:=(QK o (ZW o hv) (d:=j) (by omega) (fun i _=>hb.at (by omega) i) (fun i hi=>by rw [h i (by omega)];omega)).2
 rw [h j hj]at hk
 have h2:=hb.at (by omega) j
 rcases Int.lt_trichotomy k 0 with x|x|x
 ·have:=Int.mul_le_mul_of_nonneg_right (show k≤-1 by omega) (show 0≤p by omega)
  omega
 ·rw [x]at hk;omega
 ·have:=Int.mul_le_mul_of_nonneg_right (show 1≤k by omega) (show 0≤p by omega)
  omega
theorem zIW (o:OkW p n W) {v:List Int} (hv:v.length=n) {d:Nat} (hd:d<n) (h:∀j,j<d→at_ v j=0):at_ (norm p W v) d=at_ v d % p:=by
 have hp:=o.pr;unfold okp at hp
 have hb:=QI o hv;obtain⟨k,hk⟩:=(QK o (ZW o hv) hd (fun i _=>hb.at (by omega) i) (fun i hi=>by rw [h i hi];omega)).2
 have h2:=hb.at (by omega) d
 have:at_ v d=at_ (norm p W v) d+p*k:=by rw [Int.mul_comm p k];omega
 rw [this,Int.add_mul_emod_self_left];exact(Int.emod_eq_of_lt h2.1 (by omega)).symm
end Go.Lie
namespace Go.Lie
open Go.Ab
variable {p:Int} {n:Nat} {W:List (List Int)}
theorem El.at0 {v:List Int} (h:El p n v) (o:OkW p n W) (j:Nat):0≤at_ v j∧at_ v j≤p-1:=h.2.at (by have:=o.pr.1;omega) j
theorem El.beyond {v:List Int} (h:El p n v) {j:Nat} (hj:n≤j):at_ v j=0:=at_ge (by rw [h.1];exact hj)
theorem zBT (o:OkW p n W) {v:List Int} (hv:v.length=n):El p n (norm p W v):=⟨QL o hv,QI o hv⟩
theorem zMT {a b:List Int} (ha:El p n a) (hb:El p n b) (h:∀j,j<n→at_ a j=at_ b j):a=b:=zAG (ha.1.trans hb.1.symm) fun j hj=>h j (by rw [←ha.1];exact hj)
theorem zIX (o:OkW p n W) {v:List Int} (hv:v.length=n) {m:Nat} (hm:m≤n) (h:∀j,j<m→0≤at_ v j∧at_ v j≤p-1) {j:Nat} (hj:j<m):at_ (norm p W v) j=at_ v j:=by
 have hp:=o.pr;unfold okp at hp
 have hb:=QI o hv;obtain⟨k,hk⟩:=(QK o (ZW o hv) (d:=j) (by omega) (fun i _=>hb.at (by omega) i) (fun i hi=>h i (by omega))).2
 have h1:=hb.at (by omega) j
 have h2:=h j hj;rcases Int.lt_trichotomy k 0 with x|x|x
 ·have:=Int.mul_le_mul_of_nonneg_right (show k≤-1 by omega) (show 0≤p by omega)
  omega
 ·rw [x]at hk;omega
 ·have:=Int.mul_le_mul_of_nonneg_right (show 1≤k by omega) (show 0≤p by omega)
  omega
abbrev red1 (p:Int) (W:List (List Int)) (x v:List Int):List Int:=norm p W (lmix 1 x (-(at_ x (dep v))) v)
def redL (p:Int) (W:List (List Int)):List (List Int)→List Int→List Int
 | [],x=>x
 | v::u,x=>redL p W u (red1 p W x v)
def Led (p:Int) (n:Nat) (v:List Int):Prop:=El p n v∧dep v<n∧at_ v (dep v)=1
theorem zBO (o:OkW p n W) {x v:List Int} (hx:El p n x) (hv:El p n v):El p n (red1 p W x v):=zBT o (by rw [qy (hx.1.trans hv.1.symm)];exact hx.1)
theorem zJK (o:OkW p n W) {x v:List Int} (hx:El p n x) (hv:El p n v):Eqv p n W (at_ (red1 p W x v)) (fun j=>at_ x j-at_ x (dep v)*at_ v j):=
 (ZW o (by rw [qy (hx.1.trans hv.1.symm)];exact hx.1)).trans (Eqv.of_eq fun j=>by rw [Zz (hx.1.trans hv.1.symm),Int.neg_mul];omega)
theorem zGE (o:OkW p n W) {x v:List Int} (hx:El p n x) (hv:Led p n v) {j:Nat} (hj:j≤dep v):at_ (red1 p W x v) j=if j=dep v then 0 else at_ x j:=by
 have hl:=hx.1.trans hv.1.1.symm;have hp:=o.pr;unfold okp at hp
 have e:∀i,i≤dep v→at_ (lmix 1 x (-(at_ x (dep v))) v) i=if i=dep v then 0 else at_ x i:=fun i hi=>by
  rw [Zz hl]
  split
  ·rename_i h;subst h;rw [hv.2.2];omega
  ·rw [qX (by omega:i<dep v)];omega
 rw [zIX o (m:=dep v+1) (by rw [qy hl];exact hx.1) (by have:=hv.2.1;omega) (fun i hi=>by
  rw [e i (by omega)]
  have:=hx.at0 o i
  split<;>omega) (by omega),e j hj]
theorem zHk (o:OkW p n W) {x v:List Int} (hx:El p n x) (hv:El p n v) (h:at_ x (dep v)=0):red1 p W x v=x:=by
 have hl:=hx.1.trans hv.1.symm
 have:lmix 1 x (-(at_ x (dep v))) v=x:=zAG (qy hl) fun j _=>by rw [Zz hl,h];omega
 rw [red1,this,zIV o hx.1 hx.2]
theorem zAA (o:OkW p n W):∀{u:List (List Int)} {x:List Int},(∀v∈u,El p n v)→El p n x→El p n (redL p W u x)
 | [],x,_,hx=>hx
 | v::u,x,hu,hx=>by rw [redL];exact zAA o (fun w hw=>hu w (by simp [hw])) (zBO o hx (hu v (by simp)))
theorem zDy (o:OkW p n W):∀{u:List (List Int)} {x:List Int},(∀v∈u,El p n v)→El p n x→Gen p n W u (fun j=>at_ x j-at_ (redL p W u x) j)
 | [],x,_,hx=>(zH []).eqv _ _ (Eqv.of_eq fun j=>Int.sub_self _) (zH []).zero
 | v::u,x,hu,hx=>by
  have hv:=hu v (by simp)
  have h1:=zDy o (u:=u) (fun w hw=>hu w (by simp [hw])) (zBO o hx hv)
  have h2:Gen p n W (v::u) (fun j=>at_ (red1 p W x v) j-at_ (redL p W u (red1 p W x v)) j):=Q5 (fun w hw=>by simp [hw]) h1
  have h3:=(zH (v::u)).mul (at_ x (dep v)) _ (qU (p:=p) (n:=n) (W:=W) (show v∈v::u by simp))
  have h4:=(zH (v::u)).add _ _ h3 h2;refine(zH (v::u)).eqv _ _ ?_ h4;have e1:=(zJK o hx hv).symm.add (Eqv.refl (p:=p) (n:=n) (W:=W) fun j=>at_ x (dep v)*at_ v j-at_ (redL p W u (red1 p W x v)) j)
  refine(Eqv.of_eq fun j=>?_).trans (e1.trans (Eqv.of_eq fun j=>?_))
  ·rw [redL];omega
  ·omega
abbrev Asc (u:List (List Int)):Prop:=u.Pairwise fun a b=>dep a<dep b
theorem zGD (o:OkW p n W):∀{u:List (List Int)} {x:List Int},(∀v∈u,Led p n v)→Asc u→El p n x→
  (∀v∈u,at_ (redL p W u x) (dep v)=0)∧∀j,(∀v∈u,j<dep v)→at_ (redL p W u x) j=at_ x j
 | [],x,_,_,hx=>⟨fun v hv=>(by cases hv),fun j _=>rfl⟩
 | v::u,x,hu,ha,hx=>by
  have hv:=hu v (by simp)
  obtain⟨ha1,ha2⟩:=List.pairwise_cons.1 ha;obtain⟨h1,h2⟩:=zGD o (fun w hw=>hu w (by simp [hw])) ha2 (zBO o hx hv.1)
  refine⟨fun w hw=>?_,fun j hj=>?_⟩
  ·rcases List.mem_cons.1 hw with rfl | hw
   ·rw [redL,h2 _ (fun z hz=>ha1 z hz),zGE o hx hv (Nat.le_refl _),if_pos rfl]
   ·exact h1 w hw
  ·have:=hj v (by simp)
   rw [redL,h2 j (fun z hz=>hj z (by simp [hz])),zGE o hx hv (by omega),if_neg (by omega)]
theorem zEh (o:OkW p n W) {u:List (List Int)} (hu:∀v∈u,El p n v) {m:Nat} (hm:m≤n) (h:∀v∈u,∀j,j<m→at_ v j=0) {z:List Int} (hz:El p n z) (hg:Gen p n W u (at_ z)):∀j,j<m→at_ z j=0:=by
 obtain⟨c,hc⟩:=hg;have hcomb:∀j,j<m→comb c u j=0:=fun j hj=>ZT _ fun k hk=>by
  have:u.getD k []=u[k]:=by simp [List.getD_eq_getElem?_getD,List.getElem?_eq_getElem hk]
  rw [this,h _ (List.getElem_mem hk) j hj,Int.mul_zero]
 intro j hj;have hp:=o.pr;unfold okp at hp
 obtain⟨k,hk⟩:=(QK o hc (d:=j) (by omega) (fun i _=>hz.at0 o i) (fun i hi=>by rw [hcomb i (by omega)];omega)).2
 rw [hcomb j hj]at hk
 have h1:=hz.at0 o j;rcases Int.lt_trichotomy k 0 with x|x|x
 ·have:=Int.mul_le_mul_of_nonneg_right (show k≤-1 by omega) (show 0≤p by omega)
  omega
 ·rw [x]at hk;omega
 ·have:=Int.mul_le_mul_of_nonneg_right (show 1≤k by omega) (show 0≤p by omega)
  omega
def tab (n:Nat) (f:Vec):List Int:=(List.range n).map f
theorem QX (f:Vec):(tab n f).length=n:=by simp [tab]
theorem zL1 (f:Vec) (hf:∀j,n≤j→f j=0) (j:Nat):at_ (tab n f) j=f j:=by
 rcases Nat.lt_or_ge j n with x|x
 ·rw [at_eq (by rw [QX];exact x)];simp [tab]
 ·rw [at_ge (by rw [QX];exact x),hf j x]
theorem zF1 {u:List (List Int)} (hu:∀v∈u,El p n v) (c:Nat→Int) {j:Nat} (hj:n≤j):comb c u j=0:=ZT _ fun k hk=>by
 have:u.getD k []=u[k]:=by simp [List.getD_eq_getElem?_getD,List.getElem?_eq_getElem hk]
 rw [this,(hu _ (List.getElem_mem hk)).beyond hj,Int.mul_zero]
theorem zLa (o:OkW p n W) {u:List (List Int)} (hu:∀v∈u,El p n v) {f:Vec} (hg:Gen p n W u f):∃z,El p n z∧Eqv p n W f (at_ z)∧Gen p n W u (at_ z):=by
 obtain⟨c,hc⟩:=hg;have h1:=ZW o (QX (comb c u));have h2:at_ (tab n (comb c u))=comb c u:=funext fun j=>zL1 _ (fun j hj=>zF1 hu c hj) j
 rw [h2]at h1
 exact⟨_,zBT o (QX _),hc.trans h1.symm,c,h1⟩
theorem zIv (c:Nat→Int) (v:List Int) (u:List (List Int)) (j:Nat):comb c (v::u) j=c 0*at_ v j+comb (fun k=>c (k+1)) u j:=by
 unfold comb
 have:∀(m:Nat) (f:Nat→Int),sumN (m+1) f=f 0+sumN m fun k=>f (k+1):=by
  intro m f
  induction m with
  | zero=>simp [sumN]
  | succ m ih=>rw [sumN,ih,sumN];omega
 rw [List.length_cons,this]
 rfl
theorem zJ7 {v:List Int} {u:List (List Int)} {f:Vec} (hg:Gen p n W (v::u) f):∃(k:Int) (g:Vec),Gen p n W u g∧Eqv p n W f fun j=>k*at_ v j+g j:=by
 obtain⟨c,hc⟩:=hg;exact⟨c 0,comb (fun k=>c (k+1)) u,⟨_,Eqv.refl _⟩,hc.trans (Eqv.of_eq fun j=>zIv c v u j)⟩
inductive Base (p:Int) (n:Nat) (W:List (List Int)):List (List Int)→Prop where
 | nil:Base p n W []
 | cons {v:List Int} {u:List (List Int)} (hv:Led p n v) (ha:∀w∈u,dep v<dep w) (hc:Gen p n W u fun j=>p*at_ v j) (h:Base p n W u):Base p n W (v::u)
theorem Base.led:∀{u:List (List Int)},Base p n W u→∀v∈u,Led p n v
 | _,.nil,v,h=>(by cases h)
 | _,.cons hv _ _ hb,w,h=>(List.mem_cons.1 h).elim (fun e=>e ▸ hv) (fun h=>hb.led w h)
theorem Base.asc:∀{u:List (List Int)},Base p n W u→Asc u
 | _,.nil=>List.Pairwise.nil
 | _,.cons _ ha _ hb=>List.pairwise_cons.2 ⟨ha,hb.asc⟩
theorem Base.els {u:List (List Int)} (h:Base p n W u):∀v∈u,El p n v:=fun v hv=>(h.led v hv).1
theorem zAF (o:OkW p n W):∀{u:List (List Int)},Base p n W u→∀{z:List Int},El p n z→Gen p n W u (at_ z)→dep z<n→∃v∈u,dep v=dep z
 | _,.nil,z,hz,hg,hd=>by
  have h1:=zEh o (u:=[]) (by simp) (Nat.le_refl n) (by simp) hz hg
  exact absurd (h1 _ hd) (QC (by rw [hz.1];exact hd))
 | _,.cons (v:=v) (u:=u) hv ha hc hb,z,hz,hg,hd=>by
  have hp:=o.pr;unfold okp at hp
  obtain⟨k,g,hg1,he⟩:=zJ7 hg;have h1:Gen p n W u fun j=>(k / p)*(p*at_ v j)+g j:=(zH u).add _ _ ((zH u).mul (k / p) _ hc) hg1
  obtain⟨y,hy,hye,hyg⟩:=zLa o hb.els h1;have hmod:=Int.emod_add_mul_ediv k p;have h2:Eqv p n W (at_ z) fun j=>k % p*at_ v j+at_ y j:=by
   refine he.trans ?_
   have:=(Eqv.refl (p:=p) (n:=n) (W:=W) fun j=>k % p*at_ v j).add hye
   refine(Eqv.of_eq fun j=>?_).trans this
   have e1:k*at_ v j=(k % p+p*(k / p))*at_ v j:=by rw [hmod]
   rw [e1,Int.add_mul,Int.mul_comm p (k / p),Int.mul_assoc];omega
  by_cases h0:k % p=0
  ·obtain⟨w,hw,e⟩:=zAF o hb hz ((zH u).eqv _ _ (h2.trans (Eqv.of_eq fun j=>by rw [h0];omega)) hyg) hd
   exact⟨w,by simp [hw],e⟩
  ·refine⟨v,by simp,?_⟩
   have hyz:=zEh o hb.els (m:=dep v+1) (by have:=hv.2.1;omega) (fun w hw j hj=>qX (by have:=ha w hw;omega)) hy hyg
   have hkb:=Int.emod_nonneg k (show p≠0 by omega)
   have hkl:=Int.emod_lt_of_pos k (show 0<p by omega)
   have hval:∀j,j≤dep v→k % p*at_ v j+at_ y j=if j=dep v then k % p else 0:=fun j hj=>by
    rw [hyz j (by omega)]
    split
    ·rename_i e;subst e;rw [hv.2.2];omega
    ·rw [qX (by omega:j<dep v)];simp
   have key:=fun d (hd:d≤dep v)=>QK o h2 (d:=d) (by have:=hv.2.1;omega) (fun i _=>hz.at0 o i) (fun i hi=>by rw [hval i (by omega),if_neg (by omega)];omega)
   refine(zAK (fun j hj=>?_) ?_).symm
   ·rw [(key (dep v) (Nat.le_refl _)).1 j hj,hval j (by omega),if_neg (by omega)]
   ·obtain⟨t,ht⟩:=(key (dep v) (Nat.le_refl _)).2
    rw [hval _ (Nat.le_refl _),if_pos rfl]at ht
    intro h;rw [h]at ht
    rcases Int.lt_trichotomy t 0 with x|x|x
    ·have:=Int.mul_le_mul_of_nonneg_right (show t≤-1 by omega) (show 0≤p by omega)
     omega
    ·rw [x]at ht;omega
    ·have:=Int.mul_le_mul_of_nonneg_right (show 1≤t by omega) (show 0≤p by omega)
     omega
end Go.Lie
namespace Go.Lie
open Go.Ab
variable {p:Int} {n:Nat} {W:List (List Int)}
theorem zAx {α:Type} {R:α→α→Prop}:∀{l:List α},l.Pairwise R→∀{a b:α},a∈l→b∈l→a=b∨R a b∨R b a
 | [],_,a,b,ha,_=>by cases ha
 | x::l,h,a,b,ha,hb=>by
  obtain⟨h1,h2⟩:=List.pairwise_cons.1 h;rcases List.mem_cons.1 ha with ea|ha'
  ·rcases List.mem_cons.1 hb with eb | hb'
   ·exact .inl (ea.trans eb.symm)
   ·rw [ea];exact .inr (.inl (h1 b hb'))
  ·rcases List.mem_cons.1 hb with eb | hb'
   ·rw [eb];exact .inr (.inr (h1 a ha'))
   ·exact zAx h2 ha' hb'
theorem zGN:∀{u w:List (List Int)},Asc u→Asc w→(∀v,v∈u↔v∈w)→u=w
 | [],[],_,_,_=>rfl
 | [],x::w,_,_,h=>by have:=(h x).2 (by simp);cases this
 | x::u,[],_,_,h=>by have:=(h x).1 (by simp);cases this
 | x::u,y::w,hu,hw,h=>by
  obtain⟨h1,h2⟩:=List.pairwise_cons.1 hu;obtain⟨h3,h4⟩:=List.pairwise_cons.1 hw;have e:x=y:=by
   rcases List.mem_cons.1 ((h x).1 (by simp))with e|e
   ·exact e
   ·rcases List.mem_cons.1 ((h y).2 (by simp))with e' | e'
    ·exact e'.symm
    ·have:=h3 x e;have:=h1 y e';omega
  subst e
  congr 1
  refine zGN h2 h4 fun v=>⟨fun hv=>?_,fun hv=>?_⟩
  ·rcases List.mem_cons.1 ((h v).1 (by simp [hv]))with e | e
   ·subst e;have:=h1 v hv;omega
   ·exact e
  ·rcases List.mem_cons.1 ((h v).2 (by simp [hv]))with e | e
   ·subst e;have:=h3 v hv;omega
   ·exact e
abbrev Red (u:List (List Int)):Prop:=u.Pairwise fun a b=>at_ a (dep b)=0
theorem zDx {u:List (List Int)} (ha:Asc u) (hr:Red u) {v x:List Int} (hv:v∈u) (hx:x∈u) (h:dep v<dep x):at_ v (dep x)=0:=by
 have:=zAx (R:=fun a b:List Int=>dep a<dep b∧at_ a (dep b)=0) (List.Pairwise.and ha hr) hv hx
 rcases this with e|e|e
 ·subst e;omega
 ·exact e.2
 ·omega
theorem zDQ (o:OkW p n W) {u w:List (List Int)} (hu:Base p n W u) (ru:Red u) (hw:Base p n W w) (rw_:Red w) (h:∀f,Gen p n W u f→Gen p n W w f) (h':∀f,Gen p n W w f→Gen p n W u f) {v x:List Int} (hv:v∈u) (hx:x∈w) (e:dep x=dep v):v=x:=by
 have lv:=hu.led v hv;have lx:=hw.led x hx;have hl:=lv.1.1.trans lx.1.1.symm;have hp:=o.pr;unfold okp at hp
 have hyl:(lmix 1 v (-1) x).length=n:=by rw [qy hl];exact lv.1.1
 rcases Nat.lt_or_ge (dep (lmix 1 v (-1) x)) n with hd|hd
 rotate_left
 ·refine zMT lv.1 lx.1 fun j hj=>?_
  have:=qX (v:=lmix 1 v (-1) x) (j:=j) (by omega)
  rw [Zz hl]at this
  omega
 have hz:∀j,j<dep (lmix 1 v (-1) x)→at_ (norm p W (lmix 1 v (-1) x)) j=0:=zIY o hyl (by omega) fun j hj=>qX hj
 have hne:at_ (norm p W (lmix 1 v (-1) x)) (dep (lmix 1 v (-1) x))≠0:=by
  rw [zIW o hyl hd fun j hj=>qX hj]
  have h1:=QC (v:=lmix 1 v (-1) x) (by rw [hyl];exact hd)
  rw [Zz hl]at h1 ⊢
  have b1:=lv.1.at0 o (dep (lmix 1 v (-1) x));have b2:=lx.1.at0 o (dep (lmix 1 v (-1) x));intro h0
  have:=Int.emod_add_mul_ediv (1*at_ v (dep (lmix 1 v (-1) x)) + -1*at_ x (dep (lmix 1 v (-1) x))) p
  rw [h0,Int.zero_add]at this
  generalize (1*at_ v (dep (lmix 1 v (-1) x)) + -1*at_ x (dep (lmix 1 v (-1) x))) / p=q at this
  rcases Int.lt_trichotomy q 0 with y|y|y
  ·have:=Int.mul_le_mul_of_nonneg_left (show q≤-1 by omega) (show 0≤p by omega)
   omega
  ·rw [y]at this;omega
  ·have:=Int.mul_le_mul_of_nonneg_left (show 1≤q by omega) (show 0≤p by omega)
   omega
 have hdep:=zAK hz hne;have hg:Gen p n W u (at_ (norm p W (lmix 1 v (-1) x))):=by
  refine(zH u).eqv _ _ ((ZW o hyl).trans (Eqv.of_eq fun j=>?_)) ((zH u).sub (qU hv) (h' _ (qU hx)))
  rw [Zz hl];omega
 obtain⟨t,ht,et⟩:=zAF o hu (zBT o hyl) hg (by omega)
 obtain⟨s,hs,es⟩:=zAF o hw (zBT o hyl) (h _ hg) (by omega)
 have hdn:=QC (v:=lmix 1 v (-1) x) (by rw [hyl];exact hd)
 rw [Zz hl]at hdn
 exfalso
 rcases Nat.lt_trichotomy (dep v) (dep t)with y|y|y
 ·have q1:=zDx hu.asc ru hv ht y
  have q2:=zDx hw.asc rw_ hx hs (by omega)
  rw [et,hdep]at q1
  rw [es,hdep]at q2
  rw [q1,q2]at hdn
  omega
 ·have e2:dep (lmix 1 v (-1) x)=dep v:=by omega
  rw [e2,lv.2.2,←e,lx.2.2]at hdn
  omega
 ·have e2:dep (lmix 1 v (-1) x)<dep v:=by omega
  rw [qX e2,qX (by omega)]at hdn
  omega
theorem zEv (o:OkW p n W) {u w:List (List Int)} (hu:Base p n W u) (ru:Red u) (hw:Base p n W w) (rw_:Red w) (h:∀f,Gen p n W u f→Gen p n W w f) (h':∀f,Gen p n W w f→Gen p n W u f):u=w:=by
 refine zGN hu.asc hw.asc fun v=>⟨fun hv=>?_,fun hv=>?_⟩
 ·have lv:=hu.led v hv
  obtain⟨x,hx,e⟩:=zAF o hw lv.1 (h _ (qU hv)) lv.2.1;rw [zDQ o hu ru hw rw_ h h' hv hx e];exact hx
 ·have lv:=hw.led v hv
  obtain⟨x,hx,e⟩:=zAF o hu lv.1 (h' _ (qU hv)) lv.2.1;rw [zDQ o hw rw_ hu ru h' h hv hx e];exact hx
structure Canon (p:Int) (n:Nat) (W:List (List Int)) (gens out:List (List Int)):Prop where
 base:Base p n W out
 red:Red out
 gen:∀f,Gen p n W gens f↔Gen p n W out f
theorem Canon.unique (o:OkW p n W) {gens a b:List (List Int)} (ha:Canon p n W gens a) (hb:Canon p n W gens b):a=b:=
 zEv o ha.base ha.red hb.base hb.red (fun f hf=>(hb.gen f).1 ((ha.gen f).2 hf)) fun f hf=>(ha.gen f).1 ((hb.gen f).2 hf)
def insD:List (List Int)→List Int→List (List Int)
 | [],x=>[x]
 | v::u,x=>if dep v<dep x then v::insD u x else x::v::u
theorem Qm:∀{u:List (List Int)} {x v:List Int},v∈insD u x↔v=x∨v∈u
 | [],x,v=>by simp [insD]
 | w::u,x,v=>by
  simp only [insD]
  split
  ·rw [List.mem_cons,Qm,List.mem_cons]
   constructor
   ·rintro (h | h | h);exact .inr (.inl h);exact .inl h;exact .inr (.inr h)
   ·rintro (h | h | h);exact .inr (.inl h);exact .inl h;exact .inr (.inr h)
  ·simp
theorem zEb:∀{u:List (List Int)} {x:List Int},Asc u→(∀v∈u,dep v≠dep x)→Asc (insD u x)
 | [],x,_,_=>List.pairwise_singleton _ _
 | w::u,x,hu,hx=>by
  obtain⟨h1,h2⟩:=List.pairwise_cons.1 hu;simp only [insD]
  split
  ·rename_i hlt
   refine List.pairwise_cons.2 ⟨fun v hv=>?_,zEb h2 fun v hv=>hx v (by simp [hv])⟩
   rcases Qm.1 hv with rfl|hv
   ·exact hlt
   ·exact h1 v hv
  ·rename_i hge
   have:=hx w (by simp)
   refine List.pairwise_cons.2 ⟨fun v hv=>?_,hu⟩
   rcases List.mem_cons.1 hv with rfl|hv
   ·omega
   ·have:=h1 v hv;omega
theorem Q3:∀(u:List (List Int)) (x:List Int),(insD u x).length=u.length+1
 | [],x=>rfl
 | w::u,x=>by simp only [insD];split<;>simp [Q3 u x]
theorem zHM {u:List (List Int)} (hl:∀v∈u,dep v<n) (ha:Asc u):u.length≤n:=by
 have:∀(u:List (List Int)) (m:Nat),(∀v∈u,m≤dep v∧dep v<n)→Asc u→m+u.length≤max m n:=by
  intro u
  induction u with
  | nil=>intro m _ _;simp;omega
  | cons v t ih=>
   intro m hm ha;obtain⟨h1,h2⟩:=List.pairwise_cons.1 ha;have q:=hm v (by simp)
   have:=ih (dep v+1) (fun w hw=>⟨h1 w hw,(hm w (by simp [hw])).2⟩) h2
   rw [List.length_cons];omega
 have:=this u 0 (fun v hv=>⟨Nat.zero_le _,hl v hv⟩) ha
 omega
end Go.Lie
namespace Go.Lie
open Go.Ab
variable {p:Int} {n:Nat} {W:List (List Int)}
theorem zIh {p a:Int} (hp:p=2∨p=3∨p=5∨p=7) (h1:0<a) (h2:a<p):∃x,1≤x∧x<p∧a*x % p=1:=by
 rcases hp with rfl|rfl|rfl|rfl
 ·exact⟨1,by omega,by omega,by
   have:a=1:=by omega
   subst this;decide⟩
 ·obtain rfl | rfl:a=1∨a=2:=by omega
  ·exact⟨1,by decide,by decide,by decide⟩
  ·exact⟨2,by decide,by decide,by decide⟩
 ·obtain rfl | rfl | rfl | rfl:a=1∨a=2∨a=3∨a=4:=by omega
  ·exact⟨1,by decide,by decide,by decide⟩
  ·exact⟨3,by decide,by decide,by decide⟩
  ·exact⟨2,by decide,by decide,by decide⟩
  ·exact⟨4,by decide,by decide,by decide⟩
 ·obtain rfl | rfl | rfl | rfl | rfl | rfl:a=1∨a=2∨a=3∨a=4∨a=5∨a=6:=by omega
  ·exact⟨1,by decide,by decide,by decide⟩
  ·exact⟨4,by decide,by decide,by decide⟩
  ·exact⟨5,by decide,by decide,by decide⟩
  ·exact⟨2,by decide,by decide,by decide⟩
  ·exact⟨3,by decide,by decide,by decide⟩
  ·exact⟨6,by decide,by decide,by decide⟩
end Go.Lie
namespace Go.Proofs
open Go.Ab Go.Lie
variable {σ:PHeap} {K:PV→PHeap→Prop} {p p':Int} {n:Nat} {W:List (List Int)} {B:List (List (List Int))} {vP vB vL vU:PV}
theorem zIe {a p:Int} (hp:isP p) (ha:0<a∧a<p) (hk:∀x,1≤x→x<p→a*x % p=1→K (.int .i64 x) σ):zA Try.prog 94 [.int .i64 a,.int .i64 p] σ K:=by
 have hpb:=hp.bd;obtain⟨y,hy1,hy2,hy3⟩:=zIh hp ha.1 ha.2;refine zB mix Try.func94 ?_
 conv=>arg 2;cbv
 refine zC rfl ?_;simp only [pwA,seval,-iQ0];refine zM (fun m vs h'=>∃i:Int,1≤i∧i≤y∧m=(y-i).toNat∧vs=[.int .i64 a,.int .i64 p,.int .i64 i]∧σ=h') (y-1).toNat ?_ ?_
 ·exact⟨1,by omega,hy1,rfl,rfl,rfl⟩
 rintro m vs h' ⟨i,hi,hiy,rfl,rfl,rfl⟩
 have hip:i<p:=by omega
 simp only [pwA,seval,-iQ0,hip];refine zDJ (by omega) (by omega) ?_
 have hap:a % p=a:=Int.emod_eq_of_lt (by omega) (by omega)
 have hm:a*i≤49∧0≤a*i:=by
  have h1:=Int.mul_le_mul_of_nonneg_left (show i≤7 by omega) (show 0≤a by omega)
  have h2:=Int.mul_nonneg (show 0≤a by omega) (show 0≤i by omega)
  omega
 have hp0:p≠0:=by omega
 rw [hap];simp only [pwA,seval,-iQ0,wrap64 (n:=a*i) (by omega) (by omega),hp0]
 have e:(a*i).tmod p=a*i % p:=Int.tmod_eq_emod_of_nonneg hm.2;rw [e]
 by_cases h1:a*i % p=1
 ·simp only [pwA,seval,-iQ0,h1]
  exact hk i hi hip h1
 ·have hne:i≠y:=fun e=>h1 (by rw [e];exact hy3)
  simp only [pwA,seval,-iQ0,h1,wrap64 (n:=i+1) (by omega) (by omega)]
  exact⟨_,by omega,i+1,by omega,by omega,rfl,rfl⟩
theorem zIc {l:Nat} {w:Bool} {a:AV} {xs:List Int} (hl:l=xs.length) (hb:xs.length≤4294967296) (hk:∀v,K (.fz true v xs.length (pis xs)) σ):zA Try.prog 86 [.fz w a l (pis xs)] σ K:=
 zA.fz (fun K'=>zA5 hl hb) (ZI _ _) fun o cap=>hk _
end Go.Proofs
namespace Go.Proofs
open Go.Ab Go.Lie
variable {σ:PHeap} {K:PV→PHeap→Prop} {p p':Int} {n:Nat} {W:List (List Int)} {B:List (List (List Int))} {vP vB vL vU:PV} {s:Nat}
def euc (p a:Int):Nat→Int×Int×Int×Int
 | 0=>(p,a,0,1)
 | k+1=>let t:=euc p a k
  if t.2.1=0 then t else(t.2.1,t.1-t.1.tdiv t.2.1*t.2.1,t.2.2.2,t.2.2.1-t.1.tdiv t.2.1*t.2.2.2)
def eucOK (p a:Int) (k:Nat):Bool:=
 let t:=euc p a k
 decide (-7≤t.1∧t.1≤7∧-7≤t.2.1∧t.2.1≤7∧-7≤t.2.2.1∧t.2.2.1≤7∧-7≤t.2.2.2∧t.2.2.2≤7∧-7≤t.1.tdiv t.2.1∧t.1.tdiv t.2.1≤7∧-49≤t.1.tdiv t.2.1*t.2.1∧t.1.tdiv t.2.1*t.2.1≤49∧-49≤t.1.tdiv t.2.1*t.2.2.2∧t.1.tdiv t.2.1*t.2.2.2≤49∧(k=8→t.2.1=0)∧(t.2.1=0→a*(t.2.2.1 % p) % p=1 % p))
theorem zLd:∀p∈[2,3,5,7],∀a∈[1,2,3,4,5,6],(a:Int)<p→∀k∈[0,1,2,3,4,5,6,7,8],eucOK p a k=true:=by decide +kernel
theorem zMQ {a:Int} (hp:isP p) (ha:0<a∧a<p) {k:Nat} (hk:k≤8):eucOK p a k=true:=by
 have hpb:=hp.bd;refine zLd p ?_ a ?_ ha.2 k ?_
 ·rcases hp with h | h | h | h<;>simp [h]
 ·have:a=1∨a=2∨a=3∨a=4∨a=5∨a=6:=by omega
  rcases this with h|h|h|h|h|h<;>simp [h]
 ·have:k=0∨k=1∨k=2∨k=3∨k=4∨k=5∨k=6∨k=7∨k=8:=by omega
  rcases this with h|h|h|h|h|h|h|h|h<;>simp [h]
theorem zDd {a:Int} (hp:isP p) (ha:0<a∧a<p) (hk:∀(x:Int) (b:Bool),0≤x→x<p→a*x % p=1→K (.tup [.int .i64 x,.bool b]) σ):zA Try.prog 105 [.int .i64 a,.int .i64 p] σ K:=by
 have hpb:=hp.bd;refine zB mix Try.func105 ?_
 conv=>arg 2;cbv
 refine zC rfl ?_;simp only [pwA,seval,-iQ0];refine zM (fun m vs h'=>∃k:Nat,k≤8∧m=8-k∧vs=[.int .i64 p,.int .i64 (euc p a k).1,.int .i64 (euc p a k).2.1,.int .i64 (euc p a k).2.2.1,.int .i64 (euc p a k).2.2.2]∧σ=h') 8 ?_ ?_
 ·exact⟨0,by omega,by omega,rfl,rfl⟩
 rintro m vs h' ⟨k,hk8,rfl,rfl,rfl⟩
 have hok:=zMQ hp ha hk8;unfold eucOK at hok
 have hst:euc p a (k+1)=if (euc p a k).2.1=0 then euc p a k else((euc p a k).2.1,(euc p a k).1-(euc p a k).1.tdiv (euc p a k).2.1*(euc p a k).2.1,(euc p a k).2.2.2,(euc p a k).2.2.1-(euc p a k).1.tdiv (euc p a k).2.1*(euc p a k).2.2.2):=rfl
 generalize hT:euc p a k=T at *
 obtain⟨r,nx,x,y⟩:=T;dsimp only at hok hst ⊢
 simp only [decide_eq_true_eq]at hok
 obtain⟨b1,b2,b3,b4,b5,b6,b7,b8,b9,b10,b11,b12,b13,b14,b15,b16⟩:=hok
 by_cases h0:nx=0
 ·subst h0
  simp only [pwA,seval,-iQ0];refine zAS (by omega) (by omega) ?_
  simp only [pwA,seval,-iQ0];refine hk _ _ (Int.emod_nonneg _ (by omega)) (Int.emod_lt_of_pos _ (by omega)) ?_
  rw [b16 rfl];exact Int.emod_eq_of_lt (by omega) (by omega)
 ·rw [if_neg h0]at hst
  have hk9:k≠8:=fun e=>h0 (b15 e)
  simp only [pwA,seval,-iQ0,h0,wrap64 (n:=r.tdiv nx) (by omega) (by omega),wrap64 (n:=r.tdiv nx*nx) (by omega) (by omega),wrap64 (n:=r.tdiv nx*y) (by omega) (by omega),wrap64 (n:=r-r.tdiv nx*nx) (by omega) (by omega),wrap64 (n:=x-r.tdiv nx*y) (by omega) (by omega)]
  refine⟨_,by omega,k+1,by omega,rfl,?_⟩
  rw [hst]
end Go.Proofs
namespace Go.Proofs
open Go.Ab Go.Lie
variable {σ:PHeap} {K:PV→PHeap→Prop} {p p':Int} {n:Nat} {W:List (List Int)} {B:List (List (List Int))} {vP vB vL vU vV:PV} {s:Nat}
theorem zMK:okF Try.prog 117=true:=by kernel_rfl
theorem zE3 {xs ys:List (List Int)} (hU:FII vU xs) (hV:FII vV ys) (hx:xs.length≤1048576) (hxl:∀x∈xs,x.length≤1048576) (hk:∀t:Bool,(t=true↔xs=ys)→K (.bool t) σ):
  zA Try.prog 116 [vU,vV,.clo 117 [] []] σ K:=by
 have fl:∀{A:Prop},¬A→((false=true)↔A):=fun h=>⟨fun x=>(by cases x),fun x=>absurd x h⟩
 obtain⟨wu,au,ru,rfl,hru⟩:=hU;obtain⟨wv,av,rv,rfl,hrv⟩:=hV;refine zB mix Try.func116 ?_
 conv=>arg 2;cbv
 refine zC rfl ?_
 by_cases hl:xs.length=ys.length
 ·simp only [pwA,seval,-iQ0,hl]
  refine zM (fun m vs h'=>∃i:Nat,i≤ys.length∧m=ys.length-i∧vs=[.fz wv av ys.length rv,.clo 117 [] [],.fz wu au ys.length ru,.int .i64 ys.length,.int .i64 i]∧σ=h'∧xs.take i=ys.take i) ys.length ?_ ?_
  ·exact⟨0,by omega,by omega,rfl,rfl,by simp⟩
  rintro m vs h' ⟨i,hi,rfl,rfl,rfl,heq⟩
  simp only [pwA,seval,-iQ0];refine iteI (fun hlt=>?_) fun hge=>?_
  ·have hlx:i<xs.length:=by omega
   obtain⟨w4,a4,hr⟩:=hru.rowI hlx;obtain⟨w5,a5,hr5⟩:=hrv.rowI hlt;simp only [pwA,seval,-iQ0,hlt,hr,hr5];refine⟨zMK,zKh rfl rfl (by have:=hxl _ (List.getElem_mem hlx);omega) ?_⟩
   by_cases he:xs[i]=ys[i]
   ·simp only [pwA,seval,-iQ0,he,wrapS hlt (by omega:ys.length≤4611686018427387904)]
    exact⟨_,by omega,i+1,by omega,rfl,rfl,zIk hl hlx heq he⟩
   ·simp only [pwA,seval,-iQ0,he]
    refine hk _ (fl fun e=>?_)
    subst e;exact he rfl
  ·have hie:i=ys.length:=by omega
   subst hie;refine hk _ ⟨fun _=>?_,fun _=>rfl⟩
   rw [List.take_of_length_le (by omega),List.take_of_length_le (Nat.le_refl _)]at heq
   exact heq
 ·have hlI:((xs.length:Int)=(ys.length:Int))=False:=by simp;omega
  simp only [pwA,seval,-iQ0,hlI];exact hk _ (fl fun e=>hl (by rw [e]))
theorem zFA {xs ys:List (List Int)} (hU:FII vU xs) (hV:FII vV ys) (hx:xs.length≤1048576) (hxl:∀x∈xs,x.length≤1048576) (hk:∀t:Bool,(t=true↔xs=ys)→K (.bool t) σ):
  zA Try.prog 97 [vU,vV] σ K:=by
 refine zB mix Try.func97 ?_
 conv=>arg 2;cbv
 refine zC rfl ?_;simp only [pwA,seval,-iQ0];refine zE3 hU hV hx hxl fun t ht=>?_
 simp only [pwA,seval,-iQ0];exact hk t ht
end Go.Proofs
namespace Go.Grp
end Go.Grp
namespace Go.Mx
open Go.Ab Go.Lie Go.Grp
variable {p:Int} {n m d:Nat} {v w:List Int} {A B C:List (List Int)}
structure Ve (p:Int) (n:Nat) (v:List Int):Prop where
 len:v.length=n
 bd:∀j,0≤at_ v j∧at_ v j<p
def Ma (p:Int) (n:Nat) (A:List (List Int)):Prop:=∀r∈A,Ve p n r
def row (A:List (List Int)) (i:Nat):List Int:=A.getD i []
def vstep (p:Int) (x:Int) (r out:List Int):List Int:=List.zipWith (fun o b=>(o+x*b) % p) out r
def vmul (p:Int) (n:Nat) (v:List Int) (A:List (List Int)):Nat→List Int
 | 0=>List.replicate n 0
 | i+1=>vstep p (at_ v i) (row A i) (vmul p n v A i)
abbrev vt (p:Int) (n:Nat) (v:List Int) (A:List (List Int)):List Int:=vmul p n v A v.length
def mm (p:Int) (n:Nat) (A B:List (List Int)):List (List Int):=A.map fun r=>vt p n r B
theorem Ma.row (h:Ma p n A) {i:Nat} (hi:i<A.length):Ve p n (Mx.row A i):=by
 have:Mx.row A i=A[i]:=by simp [Mx.row,List.getD_eq_getElem?_getD,List.getElem?_eq_getElem hi]
 rw [this];exact h _ (List.getElem_mem hi)
theorem qC {i:Nat} (hi:i<A.length):Mx.row A i=A[i]:=by simp [Mx.row,List.getD_eq_getElem?_getD,List.getElem?_eq_getElem hi]
theorem qB {x:Int} {r out:List Int} (h:r.length=out.length):(vstep p x r out).length=out.length:=by simp [vstep,h]
theorem ZO {x:Int} {r out:List Int} (h:r.length=out.length) {j:Nat} (hj:j<out.length):at_ (vstep p x r out) j=(at_ out j+x*at_ r j) % p:=by
 have h1:j<(vstep p x r out).length:=by rw [qB h];exact hj
 rw [at_eq h1,at_eq hj,at_eq (by omega:j<r.length)]
 simp [vstep]
theorem ZP (hA:Ma p n A):∀{i:Nat},i≤A.length→(vmul p n v A i).length=n
 | 0,_=>by simp [vmul]
 | i+1,hi=>by
  rw [vmul,qB]
  ·exact ZP hA (by omega)
  ·rw [ZP hA (by omega)];exact(hA.row (by omega)).len
theorem zF9 (hp:0<p) (hA:Ma p n A) {j:Nat} (hj:j<n):∀{i:Nat},i≤A.length→at_ (vmul p n v A i) j=(sumN i fun k=>at_ v k*at_ (Mx.row A k) j) % p
 | 0,_=>by rw [vmul,zCi,sumN,Int.zero_emod]
 | i+1,hi=>by
  have hl:=ZP (v:=v) hA (i:=i) (by omega)
  rw [vmul,ZO (by rw [hl];exact(hA.row (by omega)).len) (by rw [hl];exact hj),zF9 hp hA hj (by omega),sumN,Int.emod_add_emod]
theorem zCp (hp:0<p) (hA:Ma p n A) {i:Nat} (hi:i≤A.length):Ve p n (vmul p n v A i):=by
 refine⟨ZP hA hi,fun j=>?_⟩
 rcases Nat.lt_or_ge j n with h|h
 ·rw [zF9 hp hA h hi]
  exact⟨Int.emod_nonneg _ (by omega),Int.emod_lt_of_pos _ hp⟩
 ·rw [at_ge (by rw [ZP hA hi];exact h)];omega
theorem vt_ve (hp:0<p) (hA:Ma p n A) (hv:v.length=A.length):Ve p n (vt p n v A):=zCp hp hA (by omega)
theorem zIZ (a b:Int):a*(b % p) % p=a*b % p:=by rw [Int.mul_emod,Int.emod_emod,←Int.mul_emod]
theorem Zh:(mm p n A B).length=A.length:=by simp [mm]
theorem mm_ma (hp:0<p) (hA:Ma p B.length A) (hB:Ma p n B):Ma p n (mm p n A B):=by
 intro r hr;simp only [mm,List.mem_map]at hr
 obtain⟨a,ha,rfl⟩:=hr;exact vt_ve hp hB (hA a ha).len
end Go.Mx
namespace Go.Grp
end Go.Grp
namespace Go.Mx
open Go.Ab Go.Lie Go.Grp
variable {p:Int} {n d:Nat} {As:List (List (List Int))} {X:List (List Int)}
abbrev mat (As:List (List (List Int))) (i:Nat):List (List Int):=As.getD i []
variable {O:List Int} {P:List (List Int)} {C:List (List (List Int))}
def vadd (p c:Int) (v w:List Int):List Int:=vstep p c w v
abbrev vs (p:Int) (n:Nat) (As:List (List (List Int))) (vals:List (List Int)) (v:List Int) (i:Nat):List Int:=vadd p 1 (vt p n v (mat As i)) (vals.getD i [])
end Go.Mx
