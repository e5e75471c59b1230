/- A list of bytes that a law is handed, laid as a frozen value. -/
import Derived.Test.YtcooahfdjlhmdaaAP28
import Derived.Test.YtcooahfdjlhmdaaAP26
import Derived.Test.YtcooahfdjlhmdaaAAbPz
import Derived.Test.YtcooahfdjlhmdaaAAbPt
import Derived.Test.YtcooahfdjlhmdaaChecked
import Derived.Test.YtcooahfdjlhmdaaRows
import Derived.Lib.SmallJoins
import Derived.WalkKit
import Derived.ProofKit
open Int renaming reduceNatCast'→iQ0
set_option maxRecDepth 100000
set_option linter.unusedVariables false
set_option linter.unusedSimpArgs false
namespace Go.Lie
open Go.Ab Go.Mx
variable {p:Int} {n m:Nat} {L M A u w:List (List Int)} {x y v:List Int}
abbrev pr7 (p:Int):Prop:=p=2∨p=3∨p=5∨p=7
theorem pr7.ok (h:pr7 p):okp p:=by unfold okp;omega
theorem zDK (hq:pr7 p) (hL:∀v∈L,El p n v):∀k,k≤L.length→∃u,Canon p n (W0 n) (L.take k) u∧u.length≤k
 | 0,_=>⟨[],by rw [List.take_zero];exact zBx,Nat.le_refl _⟩
 | k+1,hk=>by
  obtain⟨u,c,hu⟩:=zDK hq hL k (by omega)
  have hx:=hL _ (List.getElem_mem (show k<L.length by omega))
  rw [List.take_succ_eq_append_getElem (by omega)]
  have hr:=Zl (W0_ok hq.ok n) c.base.els hx
  by_cases h:dep (redL p (W0 n) u L[k])=n
  ·exact⟨u,c.skip0 hq.ok hx h,by omega⟩
  ·have hd:dep (redL p (W0 n) u L[k])<n:=by have:=zGL (redL p (W0 n) u L[k]);rw [hr.1]at this;omega
   have h0:=hr.at0 (W0_ok hq.ok n) (dep (redL p (W0 n) u L[k]));have h1:at_ (redL p (W0 n) u L[k]) (dep (redL p (W0 n) u L[k]))≠0:=Zv (by rw [hr.1];exact hd)
   obtain⟨q,_,_,hq'⟩:=zIa hq (a:=at_ (redL p (W0 n) u L[k]) (dep (redL p (W0 n) u L[k]))) (by omega) (by omega)
   refine⟨_,(c.put hq.ok hx hd hq').1,?_⟩;rw [zAc,List.length_map];omega
theorem zGO (hq:pr7 p) (hL:∀v∈L,El p n v):∃u,Canon p n (W0 n) L u∧u.length≤L.length:=by
 have:=zDK hq hL L.length (Nat.le_refl _)
 rwa [List.take_length]at this
theorem zGd (hq:pr7 p) (hM:∀v∈M,El p n v) (hu:Base p n (W0 n) u) (h:∀v∈u,Gen p n (W0 n) M (at_ v)):u.length≤M.length:=by
 obtain⟨w,c,hw⟩:=zGO hq hM
 have:=(zIB (W0_ok hq.ok n) hu c.base fun f hf=>(c.gen f).1 (qH h hf)).1
 omega
def trm (n:Nat) (A:List (List Int)):List (List Int):=(List.range n).map fun j=>A.map fun r=>at_ r j
theorem zN:(trm n A).length=n:=by simp [trm]
theorem zBj {j:Nat} (hj:j<n):row (trm n A) j=A.map fun r=>at_ r j:=by rw [zM (by rw [zN];exact hj)];simp [trm]
theorem QK {i j:Nat} (hi:i<A.length) (hj:j<n):at_ (row (trm n A) j) i=at_ (row A i) j:=by
 rw [zBj hj,at_eq (by simp;exact hi),zM hi];simp
theorem ZG (hp:0<p) (hA:Ma p n A):Ma p A.length (trm n A):=fun r hr=>by
 simp only [trm,List.mem_map,List.mem_range]at hr
 obtain⟨j,hj,rfl⟩:=hr;refine⟨by simp,fun i=>?_⟩
 by_cases hi:i<A.length
 ·rw [at_eq (by simp;exact hi),List.getElem_map]
  exact(hA _ (List.getElem_mem hi)).bd j
 ·rw [at_ge (by simp;omega)];omega
theorem zHc (hA:∀r∈A,r.length=n):trm A.length (trm n A)=A:=by
 refine List.ext_getElem (by rw [zN]) fun i h1 h2=>?_
 have hl:=hA _ (List.getElem_mem h2);rw [←zM h1,zBj h2];refine zBS (by simp [zN,hl]) fun j hj=>?_
 rw [List.length_map,zN]at hj
 rw [at_eq (by simp [zN,hj]),List.getElem_map,←zM (by rw [zN];exact hj),QK h2 hj,zM h2]
theorem ma_el (hA:Ma p n A):∀v∈A,El p n v:=fun v hv=>ve_el (hA v hv)
theorem el_ma (hp:0<p) (h:∀v∈A,El p n v):Ma p n A:=fun v hv=>el_ve hp (h v hv)
theorem zBE (hq:pr7 p) (hA:Ma p n A) (c:Canon p n (W0 n) A u) (c':Canon p A.length (W0 A.length) (trm n A) w):w.length≤u.length:=by
 have hok:=hq.ok;have hp:0<p:=by have:=hok.1;omega
 have hu:=el_ma hp c.base.els
 -- the coefficients of each row
 have hc:∀i,∃k:List Int,i<A.length→Ve p u.length k∧vt p n k u=row A i:=fun i=>by
  by_cases hi:i<A.length
  ·have hr:=hA.row hi
   obtain⟨k,h1,h2⟩:=zFI hok hu (ve_el hr) ((c.gen _).1 (zY (by rw [zM hi];exact List.getElem_mem hi)))
   exact⟨k,fun _=>⟨h1,h2⟩⟩
  ·exact⟨[],fun h=>absurd h hi⟩
 let k:=fun i=>Classical.choose (hc i)
 have hk:∀i,i<A.length→Ve p u.length (k i)∧vt p n (k i) u=row A i:=fun i=>Classical.choose_spec (hc i)
 let D:=(List.range A.length).map k
 have hDl:D.length=A.length:=by simp [D]
 have hDr:∀i,i<A.length→row D i=k i:=fun i hi=>by rw [zM (by rw [hDl];exact hi)];simp [D]
 have hD:Ma p u.length D:=fun r hr=>by
  simp only [D,List.mem_map,List.mem_range]at hr
  obtain⟨i,hi,rfl⟩:=hr;exact(hk i hi).1
 have hT:=ZG hp hD;rw [hDl]at hT
 have hG:∀r∈trm n A,Gen p A.length (W0 A.length) (trm u.length D) (at_ r):=fun r hr=>by
  obtain⟨j,hj,rfl⟩:=List.mem_iff_getElem.1 hr;rw [zN]at hj
  rw [←zM (by rw [zN];exact hj)]
  refine(zJ _).eqv _ _ ?_ ⟨fun t=>at_ (row u t) j,Eqv.refl _⟩
  have hTr:=(ZG hp hA).row (i:=j) (by rw [zN];exact hj)
  refine ZU (fun i hi=>?_) fun i hi=>?_
  ·rw [QK hi hj,←(hk i hi).2,vt_at hp hu (hk i hi).1.len hj,Int.emod_emod,comb,zN]
   congr 1
   exact ZH fun t ht=>by
    have:=QK (A:=D) (n:=u.length) (i:=i) (j:=t) (by rw [hDl];exact hi) ht
    rw [hDr i hi]at this
    have e:at_ ((trm u.length D).getD t []) i=at_ (k i) t:=this;rw [e,Int.mul_comm]
  ·rw [at_ge (by rw [hTr.len];exact hi),qy (ma_el hT) _ hi]
 have:=zGd hq (ma_el hT) c'.base fun v hv=>qH hG ((c'.gen _).2 (zY hv))
 rwa [zN]at this
theorem zHf (hq:pr7 p) (hA:Ma p n A) (c:Canon p n (W0 n) A u) (c':Canon p A.length (W0 A.length) (trm n A) w):w.length=u.length:=by
 have hp:0<p:=by have:=hq.ok.1;omega
 refine Nat.le_antisymm (zBE hq hA c c') ?_;have h:=ZG hp hA;have e:=zHc (A:=A) (n:=n) fun r hr=>(hA r hr).len
 have:=zBE (A:=trm n A) (n:=A.length) (u:=w) (w:=u) hq h c'
 rw [zN,e]at this
 exact this c
theorem zIi {a b:List Int} (j:Nat):at_ (a++b) j=if j<a.length then at_ a j else at_ b (j-a.length):=by
 unfold at_;rw [List.getD_eq_getElem?_getD,List.getElem?_append]
 split<;>simp [List.getD_eq_getElem?_getD]
end Go.Lie
namespace Go.Lie
open Go.Ab Go.Mx
abbrev Mf:=Nat→Nat→Int
end Go.Lie
namespace Go.Lie
open Go.Ab Go.Mx
variable {p:Int} {n:Nat} {A B C E F L:List (List Int)} {x:List Int} {φ:List (List Int)→Int}
def fm (A:List (List Int)):Mf:=fun i j=>at_ (row A i) j
theorem zAD {i:Nat} (hi:i<A.length) (j:Nat):row (A.set i x) j=if j=i then x else row A j:=by
 unfold row;rw [List.getD_eq_getElem?_getD,List.getElem?_set,List.getD_eq_getElem?_getD]
 by_cases h:i=j
 ·rw [if_pos h,if_pos hi,if_pos h.symm];rfl
 ·rw [if_neg h,if_neg (Ne.symm h)]
theorem zIL (hp:0<p) {k:Int} {v:List Int} (hv:Ve p n v):Ve p n (scl p k v):=el_ve hp (zA5 hp hv.len)
def clrM (p:Int) (c d:Nat) (R:List (List Int)):Nat→List (List Int)
 | 0=>R
 | m+1=>if m=d then clrM p c d R m else(clrM p c d R m).set m (vstep p (-(at_ (row R m) c)) (row R d) (row R m))
theorem ZV {c d:Nat} {R:List (List Int)}:∀m,(clrM p c d R m).length=R.length
 | 0=>rfl
 | m+1=>by
  unfold clrM
  split
  ·exact ZV m
  ·rw [List.length_set];exact ZV m
theorem zDI {c d:Nat} {R:List (List Int)}:∀m,m≤R.length→∀i,row (clrM p c d R m) i=if i<m∧i≠d then vstep p (-(at_ (row R i) c)) (row R d) (row R i)else row R i
 | 0,_,i=>by rw [if_neg (by omega)];rfl
 | m+1,hm,i=>by
  unfold clrM;have ih:=zDI (c:=c) (d:=d) (R:=R) m (by omega) i
  split
  ·rename_i h
   rw [ih]
   by_cases h1:i<m∧i≠d
   ·rw [if_pos h1,if_pos (by omega)]
   ·rw [if_neg h1,if_neg (by omega)]
  ·rename_i h
   rw [zAD (by rw [ZV];omega),ih]
   by_cases h1:i=m
   ·rw [if_pos h1,if_pos (by omega),h1]
   ·rw [if_neg h1]
    by_cases h2:i<m∧i≠d
    ·rw [if_pos h2,if_pos (by omega)]
    ·rw [if_neg h2,if_neg (by omega)]
theorem zIJ (hp:0<p) (hA:Ma p B.length A) (hB:Ma p n B):trm n (mm p n A B)=mm p A.length (trm n B) (trm B.length A):=by
 have h1:=mm_ma hp hA hB;have hT:=ZG hp h1;have hTA:=ZG hp hA;have hTB:=ZG hp hB;rw [qC]at hT
 refine List.ext_getElem (by rw [zN,qC,zN]) fun j h1' h2'=>?_
 have hj:j<n:=by rw [zN]at h1';exact h1'
 rw [←zM h1',←zM h2',zF8 (by rw [zN];exact hj)]
 have hrl:(row (trm n B) j).length=(trm B.length A).length:=by rw [zN,zBj hj];simp
 refine(hT.row (by rw [zN];exact hj)).ext (vt_ve hp hTA hrl) fun i hi=>?_
 rw [QK (by rw [qC];exact hi) hj,zF8 hi,vt_at hp hB (hA.row hi).len hj,vt_at hp hTA hrl hi,zN]
 congr 1
 exact ZH fun k hk=>by rw [QK hk hj,QK hi hk,Int.mul_comm]
end Go.Lie
namespace Go.Proofs
open Go.Ab Go.Lie
variable {σ σ0 σ1:PHeap} {K:PV→PHeap→Prop} {vC:PV} {bs:List Int} {s:Nat} {a sd:Int}
def FB (v:PV) (bs:List Int):Prop:=∃w a,v=.fz w a bs.length (bs.map (.int .u8))
structure Byt (bs:List Int):Prop where
 len:bs.length≤1048576
 bd:∀b∈bs,0≤b∧b≤255
abbrev srcC (vC:PV) (a:Nat) (sd:Int):List PV:=[vC,.int .i64 (a:Int),.int .i64 sd]
structure Src (σ:PHeap) (s:Nat) (vC:PV) (bs:List Int) (a:Nat) (sd:Int):Prop where
 obj:σ.obj s=some (srcC vC a sd)
 lt:s<σ.next
 fb:FB vC bs
 byt:Byt bs
 le:a≤bs.length
 sd:0≤sd∧sd<2147483647
theorem FB.one {v:PV} (h:FB v bs):v.one=true:=by obtain⟨w,a,rfl⟩:=h;rfl
theorem FB.cells {v:PV} (h:FB v bs):v.cells=[v]:=by obtain⟨w,a,rfl⟩:=h;rfl
theorem FB.bel {v:PV} (h:FB v bs) (n:Nat):Bel n v:=by obtain⟨w,a,rfl⟩:=h;trivial
theorem FB.bels {v:PV} (h:FB v bs) (n a:Nat) (sd:Int):Bels n (srcC v a sd):=⟨h.bel n,trivial,trivial,trivial⟩
theorem Gh.setS {v:PV} {s:Nat} {c0 c1:List PV} (h0:σ0.obj s=some c0) (hb:Bels 0 c1) (k:Gh (σ0.set s c1) K v σ1):Gh σ0 K v σ1:=fun w ι Z h b r hv h1 h2 h3 h4=>by
 have hs:s<σ0.next:=w.lt h0;have w':PWF (σ0.set s c1):=by
  refine⟨fun t ht=>?_,fun t cs ht=>?_⟩
  ·have ht':σ0.next≤t:=ht
   rw [zI,if_neg (by omega)]
   exact w.wf t ht'
  ·rw [zI]at ht
   split at ht
   ·cases ht
    exact Bels.up (Nat.zero_le _) hb
   ·exact w.bel t cs ht
 obtain⟨v2,σ2,ι2,Z2,g1,g2,g3,g4,g5,g6,g7,g8,g9⟩:=k w' ι Z h b r hv h1 h2 h3 (fun t ht hn=>by
  rw [zI]at hn
  split at hn
  ·cases hn
  ·exact h4 t ht hn)
 refine⟨v2,σ2,ι2,Z2,g1,g2,g3,g4,g5,g6,fun t ht hn=>g7 t ht ?_,g8,g9⟩
 rw [zI,if_neg (by rintro rfl;rw [h0]at hn;cases hn)]
 exact hn
theorem Src.set {σ:PHeap} {a a':Nat} {sd sd':Int} (h:Src σ s vC bs a sd) (ha:a'≤bs.length) (hs:0≤sd'∧sd'<2147483647):Src (σ.set s (srcC vC a' sd')) s vC bs a' sd':=
 ⟨by rw [zI,if_pos rfl],h.lt,h.fb,h.byt,ha,hs⟩
theorem Src.keep {σ σ':PHeap} {a:Nat} {sd:Int} (h:Src σ s vC bs a sd) (k:Keep σ σ'):Src σ' s vC bs a sd:=
 ⟨by rw [k.obj s h.lt];exact h.obj,Nat.lt_of_lt_of_le h.lt k.next,h.fb,h.byt,h.le,h.sd⟩
theorem Src.q {σ:PHeap} {a:Nat} {sd:Int} (h:Src σ s vC bs a sd):σ.rd1 s 0=some vC∧σ.rd1 s 1=some (.int .i64 a)∧σ.rd1 s 2=some (.int .i64 sd):=by
 refine⟨?_,?_,?_⟩<;>(rw [zL h.obj];rfl)
theorem Src.w1 {σ:PHeap} {a:Nat} {sd x:Int} (h:Src σ s vC bs a sd):σ.wr s 1 [.int .i64 x]=some (σ.set s [vC,.int .i64 x,.int .i64 sd]):=by
 rw [ZX h.obj,if_pos ⟨by simp,rfl⟩];rfl
theorem Src.w2 {σ:PHeap} {a:Nat} {sd x:Int} (h:Src σ s vC bs a sd):σ.wr s 2 [.int .i64 x]=some (σ.set s (srcC vC a x)):=by
 rw [ZX h.obj,if_pos ⟨by simp,rfl⟩];rfl
theorem zB3 (σ:PHeap) (s:Nat) (x y:List PV):(σ.set s x).set s y=σ.set s y:=by
 simp only [PHeap.set]
 congr 1
 funext t
 split<;>rfl
theorem zFN (σ:PHeap) (x y:List PV):(σ.new x).set σ.next y=σ.new y:=by
 simp only [PHeap.new,PHeap.set]
 congr 1
 funext t
 split<;>rfl
theorem zGR {j:Nat} (hB:Byt bs) (hj:j<bs.length):(bs.map (PV.int .u8))[j]? = some (.int .u8 (bs.getD j 0))∧0≤bs.getD j 0∧bs.getD j 0≤255:=by
 have e:bs.getD j 0=bs[j]:=by simp [List.getD_eq_getElem?_getD,List.getElem?_eq_getElem hj]
 rw [e];exact⟨by rw [List.getElem?_map,List.getElem?_eq_getElem hj];rfl,hB.bd _ (List.getElem_mem hj)⟩
def Nx (n x:Int):Prop:=0≤x∧(n≤1→x=0)∧(1<n→x<n)
theorem Nx.lt {n x:Int} (h:Nx n x) (hn:1≤n):x<n:=by
 obtain⟨h0,h1,h2⟩:=h;rcases Int.lt_or_le 1 n with g|g
 ·exact h2 g
 ·have:=h1 g;omega
theorem zF4 {n x:Int} (hn:1<n) (hx:0≤x):Nx n (x.tmod n):=by
 rw [Int.tmod_eq_emod_of_nonneg hx];have h1:=Int.emod_nonneg x (show n≠0 by omega)
 have h2:=Int.emod_lt_of_pos x (show 0<n by omega)
 exact⟨h1,fun h=>by omega,fun _=>h2⟩
theorem zE2 (hb:FB vC bs) (hB:Byt bs) (hk:∀sd,0≤sd∧sd<2147483647→K (.ptr σ.next 0) (σ.new (srcC vC 0 sd))):zC Try.prog 40 [vC] σ K:=by
 obtain⟨w,av,rfl⟩:=hb;have hl:=hB.len;refine zD mix Try.func40 ?_
 conv=>arg 2;cbv
 refine zG rfl ?_;simp only [pwA,seval,-iQ0];generalize hC:(PV.fz w av bs.length (bs.map (.int .u8)))=vC at *
 refine zO (fun m vs h'=>∃(i:Nat) (sd:Int),i≤bs.length∧m=bs.length-i∧vs=[vC,.ptr σ.next 0,.int .i64 i]∧σ.new (srcC vC 0 sd)=h'∧0≤sd∧sd<2147483647) bs.length ?_ ?_
 ·exact⟨0,76001,by omega,by omega,rfl,rfl,by omega,by omega⟩
 rintro m vs h' ⟨i,sd,hi,rfl,rfl,rfl,h0,h1⟩
 have hlen:pLen vC=some (.int .i64 bs.length):=by rw [←hC];rfl
 have wi1:IntKind.i64.wrap ((i:Int)+1)=((i+1:Nat):Int):=by rw [wrap64 (by omega) (by omega)];omega
 have out:K (.ptr σ.next 0) (σ.new (srcC vC 0 sd)):=hk sd ⟨h0,h1⟩;simp only [pwA,seval,-iQ0,hlen]
 by_cases hlt:i<bs.length
 rotate_left
 ·simp only [pwA,seval,-iQ0,hlt,decide_false]
  exact out
 obtain⟨b1,b2,b3⟩:=zGR hB hlt
 by_cases h64:i<64
 rotate_left
 ·have h64':¬(i:Int)<64:=by omega
  simp only [pwA,seval,-iQ0,hlt,h64',decide_true,decide_false];exact out
 have h64':(i:Int)<64:=by omega
 generalize bs.getD i 0=b at b1 b2 b3
 have e1:IntKind.i64.wrap (sd*71)=sd*71:=wrap64 (by omega) (by omega)
 have e2:IntKind.i64.wrap b=b:=wrap64 (by omega) (by omega)
 have e3:IntKind.i64.wrap (sd*71+b)=sd*71+b:=wrap64 (by omega) (by omega)
 have e4:(sd*71+b).tmod 2147483647=(sd*71+b) % 2147483647:=Int.tmod_eq_emod_of_nonneg (by omega)
 subst hC;simp only [pwA,seval,-iQ0,hlt,h64',decide_true,b1,e1,e2,e3,e4,wi1];exact⟨_,by omega,i+1,_,by omega,rfl,rfl,rfl,by omega,by omega⟩
theorem zE1 {a:Nat} {sd n:Int} (S:Src σ s vC bs a sd) (hn:n≤4611686018427387904) (hk:∀x a' sd',Nx n x→a'≤bs.length→0≤sd'∧sd'<2147483647→K (.int .i64 x) (σ.set s (srcC vC a' sd'))):zC Try.prog 42 [.ptr s 0,.int .i64 n] σ K:=by
 have hl:=S.byt.len;have hsd:=S.sd;have ha:=S.le;obtain⟨w,av,rfl⟩:=S.fb;obtain⟨q0,q1,q2⟩:=S.q;have e1:IntKind.i64.wrap (sd*48271)=sd*48271:=wrap64 (by omega) (by omega)
 have e2:IntKind.i64.wrap (sd*48271+71)=sd*48271+71:=wrap64 (by omega) (by omega)
 have e4:(sd*48271+71).tmod 2147483647=(sd*48271+71) % 2147483647:=Int.tmod_eq_emod_of_nonneg (by omega)
 refine zD mix Try.func42 ?_
 conv=>arg 2;cbv
 refine zG rfl ?_;simp only [pwA,seval,-iQ0,q2,e1,e2,e4,S.w2];refine iteI (fun hlt=>?_) fun hge=>?_
 ·have:=hk 0 a sd ⟨Int.le_refl _,fun _=>rfl,fun h=>by omega⟩ ha hsd
  rw [Zn S.obj]at this
  exact this
 have hsd1:0≤(sd*48271+71) % 2147483647∧(sd*48271+71) % 2147483647<2147483647:=by omega
 generalize (sd*48271+71) % 2147483647=sd1 at *
 have S1:=S.set (sd':=sd1) ha hsd1;obtain⟨p0,p1,p2⟩:=S1.q;obtain⟨x0,e5,hx0⟩:∃x0,IntKind.i64.wrap (sd1.tdiv 47)=x0∧0≤x0∧x0≤2147483647:=by
  have d1:sd1.tdiv 47=sd1 / 47:=Int.tdiv_eq_ediv_of_nonneg (by omega)
  exact⟨sd1 / 47,by rw [d1];exact wrap64 (by omega) (by omega),by omega,by omega⟩
 have hn0:n≠0:=by omega
 generalize hs1:σ.set s (srcC (PV.fz w av bs.length (bs.map (.int .u8))) a sd1)=σ1 at *
 have hT:∀(a':Nat) (sd':Int),σ1.set s (srcC (PV.fz w av bs.length (bs.map (.int .u8))) a' sd')=σ.set s (srcC (PV.fz w av bs.length (bs.map (.int .u8))) a' sd'):=fun a' sd'=>by rw [←hs1];exact zB3 _ _ _ _
 simp only [pwA,seval,-iQ0,p0,p1,p2,e5]
 by_cases hlt':a<bs.length
 rotate_left
 ·simp only [pwA,seval,-iQ0,hlt',decide_false]
  have:=hk _ a sd1 (zF4 (by omega) hx0.1) ha hsd1
  rw [hs1]at this
  simp only [pwA,seval,-iQ0,hn0,e5];exact this
 obtain⟨b1,b2,b3⟩:=zGR S.byt hlt';generalize bs.getD a 0=b at b1 b2 b3
 have e6:IntKind.i64.wrap b=b:=wrap64 (by omega) (by omega)
 have e7:IntKind.i64.wrap (x0+b)=x0+b:=wrap64 (by omega) (by omega)
 have wi1:IntKind.i64.wrap ((a:Int)+1)=((a+1:Nat):Int):=by rw [wrap64 (by omega) (by omega)];omega
 simp only [pwA,seval,-iQ0,hlt',decide_true,p0,p1,b1,e5,e6,e7,S1.w1,wi1];have Sb:=S1.set (a':=a+1) (sd':=sd1) (by omega) hsd1
 obtain⟨r0,r1,r2⟩:=Sb.q;generalize hs2:σ1.set s (srcC (PV.fz w av bs.length (bs.map (.int .u8))) (a+1) sd1)=σ2 at *
 have tm:((a+1:Nat):Int).tmod 2=((a+1:Nat):Int) % 2:=Int.tmod_eq_emod_of_nonneg (by omega)
 have wi2:IntKind.i64.wrap (((a+1:Nat):Int)-1)=(a:Int):=by rw [wrap64 (by omega) (by omega)];omega
 have fin:∀x:Int,0≤x→K (.int .i64 (x.tmod n)) σ2:=fun x hx=>by
  have:=hk _ (a+1) sd1 (zF4 (by omega) hx) (by omega) hsd1
  rw [←hs2,hT];exact this
 by_cases hn256:n≤256
 rotate_left
 ·simp only [pwA,seval,-iQ0,hn256,decide_false,hn0,e5,e6,e7]
  exact fin _ (by omega)
 by_cases hev:((a+1:Nat):Int) % 2=0
 rotate_left
 ·simp only [pwA,seval,-iQ0,hn256,decide_true,r1,tm,hev,decide_false,hn0,e5,e6,e7]
  exact fin _ (by omega)
 simp only [pwA,seval,-iQ0,hn256,decide_true,r0,r1,tm,hev,wi2,hlt',b1,hn0,e5,e6,e7];exact fin _ (by omega)
end Go.Proofs
namespace Go.Grp
end Go.Grp
namespace Go.Proofs
open Go.Ab Go.Lie Go.Grp Go.Mx
variable {σ:PHeap} {K:PV→PHeap→Prop} {p d p' d' c:Int} {n n':Nat} {As Bs:List (List (List Int))} {F F':List (List Int)} {vA vB vF vF':PV} {O:List Int} {P:List (List Int)} {C:List (List (List Int))} {vO vP vC:PV} {s s':Nat}
def isMx (p c:Int) (F:List (List Int)):Prop:=isP p∧(0≤c∧c≤8)∧F.length≤8∧Ma p c.toNat F
theorem ZQ (sz:SzL F) (hF:FII vF F) (hk:∀t:Bool,(t=true↔isMx p c F)→K (.bool t) σ):zC Try.prog 37 [.agg [.int .i64 p,.int .i64 c,vF]] σ K:=by
 have fl:∀{A:Prop},¬A→((false=true)↔A):=fun h=>⟨fun x=>(by cases x),fun x=>absurd x h⟩
 have h1:=hF.one;have szl:=sz.l
 by_cases hm:isP p∧(0≤c∧c≤8)∧F.length≤8
 ·obtain⟨hp,hc,hl⟩:=hm
  obtain⟨n,rfl⟩:∃n:Nat,c=(n:Int):=⟨c.toNat,by omega⟩
  exact zEB hp (by omega) hl (fun r hr=>sz.r r hr) hF fun t ht=>hk t ⟨fun h=>⟨hp,hc,hl,ht.1 h⟩,fun h=>ht.2 h.2.2.2⟩
 obtain⟨wA,aA,rA,rfl,hrA⟩:=hF;have no:¬isMx p c F:=fun h=>hm ⟨h.1,h.2.1,h.2.2.1⟩
 refine zC.gh ?_;refine zD mix Try.func37 ?_
 conv=>arg 2;cbv
 refine zG rfl ?_;simp only [pwA,seval,-iQ0,h1];refine QD ?_
 by_cases hp:isP p
 rotate_left
 ·simp only [pwA,seval,-iQ0,hp]
  exact Gh.fin0 (zF σ _) trivial (hk _ (fl no))
 simp only [pwA,seval,-iQ0,hp];refine Qt ?_
 by_cases hc:0≤c∧c≤8
 rotate_left
 ·simp only [pwA,seval,-iQ0,hc]
  exact Gh.fin0 (zF σ _) trivial (hk _ (fl no))
 have hl:(8:Int)<(F.length:Int):=by
  have:¬F.length≤8:=fun h=>hm ⟨hp,hc,h⟩
  omega
 simp only [pwA,seval,-iQ0,hc,hl];exact Gh.fin0 (zF σ _) trivial (hk _ (fl no))
theorem Qr (sz:SzL F) (hF:FII vF F) (hk:∀t:Bool,(t=true↔isMx p c F)→K (.bool t) σ):zC Try.prog 36 [.agg [.int .i64 p,.int .i64 c,vF]] σ K:=by
 have fl:∀{A:Prop},¬A→((false=true)↔A):=fun h=>⟨fun x=>(by cases x),fun x=>absurd x h⟩
 have h1:=hF.one;have szl:=sz.l;obtain⟨wA,aA,rA,rfl,hrA⟩:=hF;refine zC.gh ?_;have hkp:=zF σ [.int .i64 p,.int .i64 c,.fz wA aA F.length rA];have no:¬isMx p c F→Gh σ K (.bool false) (σ.new [.int .i64 p,.int .i64 c,.fz wA aA F.length rA]):=fun h=>Gh.fin0 hkp trivial (hk _ (fl h))
 refine zD mix Try.func36 ?_
 conv=>arg 2;cbv
 refine zG rfl ?_;simp only [pwA,seval,-iQ0,h1];refine zAa ?_
 by_cases hp:isP p
 rotate_left
 ·simp only [pwA,seval,-iQ0,hp]
  exact no fun h=>hp h.1
 have hpb:=hp.bd;simp only [pwA,seval,-iQ0,hp];refine zC4 ?_
 by_cases hc:0≤c∧c≤8
 rotate_left
 ·simp only [pwA,seval,-iQ0,hc]
  exact no fun h=>hc h.2.1
 by_cases hl:F.length≤8
 rotate_left
 ·have hl':(8:Int)<(F.length:Int):=by omega
  simp only [pwA,seval,-iQ0,hc,hl'];exact no fun h=>hl h.2.2.1
 have hl':¬(8:Int)<(F.length:Int):=by omega
 obtain⟨n,hn⟩:∃n:Nat,c=(n:Int):=⟨c.toNat,by omega⟩
 subst hn;have hcn:((n:Int)).toNat=n:=rfl;simp only [pwA,seval,-iQ0,hc,hl'];refine zO (fun m vs h'=>∃i:Nat,i≤F.length∧m=F.length-i∧vs=[.ptr σ.next 0,.int .i64 i]∧σ.new [.int .i64 p,.int .i64 n,.fz wA aA F.length rA]=h'∧∀r∈F.take i,Ve p n r) F.length ?_ ?_
 ·exact⟨0,by omega,by omega,rfl,rfl,by simp⟩
 rintro m vs h' ⟨i,hi,rfl,rfl,rfl,hall⟩
 simp only [pwA,seval,-iQ0];refine iteI (fun hlt=>?_) fun hge=>?_
 rotate_left
 ·exact Gh.fin0 hkp trivial (hk _ ⟨fun _=>⟨hp,hc,hl,fun r hr=>hall r (by rwa [List.take_of_length_le (by omega)])⟩,fun _=>rfl⟩)
 obtain⟨w4,a4,hr⟩:=hrA.rowI hlt;have hb:=sz.r _ (List.getElem_mem hlt);simp only [pwA,seval,-iQ0,hlt,hr];refine zC3 rfl (by omega) (by omega) (by omega) ?_
 by_cases hv:isVec F[i] p (n:Int)
 ·simp only [pwA,seval,-iQ0,hv,wrapS hlt (by omega:F.length≤4611686018427387904)]
  refine⟨_,by omega,i+1,by omega,rfl,rfl,fun r hr=>?_⟩
  rw [List.take_succ_eq_append_getElem hlt,List.mem_append,List.mem_singleton]at hr
  rcases hr with hr|rfl
  ·exact hall r hr
  ·exact(zA1 (by omega)).1 hv
 ·simp only [pwA,seval,-iQ0,hv]
  exact no fun h=>hv ((zA1 (by omega)).2 (h.2.2.2 _ (List.getElem_mem hlt)))
end Go.Proofs
namespace Go.Proofs
open Go.Ab Go.Lie
variable {σ σ0 σ1 h h':PHeap} {K:PV→PHeap→Prop} {vC:PV} {bs:List Int} {s:Nat}
def So (σ:PHeap) (s:Nat) (vC:PV) (bs:List Int):Prop:=∃a sd,Src σ s vC bs a sd
def Mv (σ:PHeap) (s:Nat) (σ':PHeap):Prop:=∃c0 c1,σ.obj s=some c0∧Bels 0 c1∧σ'=σ.set s c1
def KM (σ:PHeap) (s:Nat) (h:PHeap):Prop:=∃σ',Mv σ s σ'∧Keep σ' h
theorem Mv.next (m:Mv σ s h):h.next=σ.next:=by obtain⟨_,_,_,_,rfl⟩:=m;rfl
theorem Mv.top (m:Mv σ s h):h.top=σ.top:=by obtain⟨_,_,_,_,rfl⟩:=m;rfl
theorem Mv.obj (m:Mv σ s h) {t:Nat} (ht:t≠s):h.obj t=σ.obj t:=by obtain⟨_,_,_,_,rfl⟩:=m;rw [zI,if_neg ht]
theorem So.lt (k:So σ s vC bs):s<σ.next:=by obtain⟨_,_,k⟩:=k;exact k.lt
theorem So.mv (k:So σ s vC bs) {a:Nat} {sd:Int} (ha:a≤bs.length) (hs:0≤sd∧sd<2147483647):Mv σ s (σ.set s (srcC vC a sd))∧So (σ.set s (srcC vC a sd)) s vC bs:=by
 obtain⟨a0,sd0,k⟩:=k;exact⟨⟨_,_,k.obj,k.fb.bels _ _ _,rfl⟩,a,sd,k.set ha hs⟩
theorem So.mv0 (k:So σ s vC bs):Mv σ s σ:=by
 obtain⟨a0,sd0,k⟩:=k;exact⟨_,_,k.obj,k.fb.bels _ _ _,(Zn k.obj).symm⟩
theorem So.keep (k:So σ s vC bs) (hk:Keep σ h):So h s vC bs:=by
 obtain⟨a0,sd0,k⟩:=k;exact⟨_,_,k.keep hk⟩
theorem So.set (k:So σ s vC bs) {t:Nat} (ht:s≠t) (cs:List PV):So (σ.set t cs) s vC bs:=by
 obtain⟨a0,sd0,k⟩:=k;exact⟨a0,sd0,by rw [zI,if_neg ht];exact k.obj,k.lt,k.fb,k.byt,k.le,k.sd⟩
theorem KM.keep (k:KM σ s h) (hk:Keep h h'):KM σ s h':=by
 obtain⟨σ',m,q⟩:=k;exact⟨σ',m,q.trans hk⟩
theorem KM.next (k:KM σ s h):σ.next≤h.next:=by
 obtain⟨σ',m,q⟩:=k;rw [←m.next];exact q.next
theorem KM.obj (k:KM σ s h) {t:Nat} (ht:t<σ.next) (hn:t≠s):h.obj t=σ.obj t:=by
 obtain⟨σ',m,q⟩:=k;rw [q.obj t (by rw [m.next];exact ht),m.obj hn]
theorem So.km (k:So σ s vC bs):KM σ s σ:=⟨σ,k.mv0,Keep.refl _⟩
theorem So.kmK (k:So σ s vC bs) (hk:Keep σ h):KM σ s h:=⟨σ,k.mv0,hk⟩
theorem KM.new (k:KM σ s h) (cs:List PV):KM σ s (h.new cs):=k.keep (zF h cs)
theorem KM.set (k:KM σ s h) {t:Nat} (ht:σ.next≤t) (cs:List PV):KM σ s (h.set t cs):=by
 obtain⟨σ',m,q⟩:=k;exact⟨σ',m,q.set (by rw [m.next];exact ht) cs⟩
theorem KM.mv (k:KM σ s h) (hs:s<σ.next) (m':Mv h s h'):KM σ s h':=by
 obtain⟨σ',⟨c0,c1,h0,h1,rfl⟩,q⟩:=k;obtain⟨d0,d1,g0,g1,rfl⟩:=m';refine⟨σ.set s d1,⟨c0,d1,h0,g1,rfl⟩,q.next,q.top,fun t ht=>?_⟩
 rw [zI,zI]
 split
 ·rfl
 ·rename_i e
  rw [q.obj t ht,zI,if_neg e]
theorem KM.trans (k:KM σ s h) (hs:s<σ.next) (k':KM h s h'):KM σ s h':=by
 obtain⟨σ',m,q⟩:=k';exact(k.mv hs m).keep q
theorem Gh.km {v:PV} (k:KM σ s h) (so:So h s vC bs) (hs:s<σ.next) (c:∀σ',Mv σ s σ'→So σ' s vC bs→Keep σ' h→Gh σ' K v h):Gh σ K v h:=by
 obtain⟨σ',m,q⟩:=k;obtain⟨c0,c1,h0,h1,e⟩:=m;obtain⟨a,sd,S⟩:=so;have hs':s<σ'.next:=by rw [e];exact hs
 have so':So σ' s vC bs:=⟨a,sd,by rw [←q.obj s hs'];exact S.obj,hs',S.fb,S.byt,S.le,S.sd⟩
 have:=c σ' ⟨c0,c1,h0,h1,e⟩ so' q
 rw [e]at this
 exact Gh.setS h0 h1 this
theorem zt {n:Int} (so:So σ s vC bs) (hn:n≤4611686018427387904) (hk:∀x h,Nx n x→Mv σ s h→So h s vC bs→K (.int .i64 x) h):zC Try.prog 42 [.ptr s 0,.int .i64 n] σ K:=by
 obtain⟨a,sd,S⟩:=so;refine zE1 S hn fun x a' sd' hx ha hs=>?_
 obtain⟨m1,m2⟩:=So.mv ⟨a,sd,S⟩ ha hs;exact hk x _ hx m1 m2
end Go.Proofs
namespace Go.Proofs
open Go.Ab
def if3:IFn:=⟨[0],[(.tmp 2)],(S0 (R0 [0] [tI0 2 false])
 (S0 (.seq (R0 [0,22] [mI0 21 0,C1 22 8 21])
 (.cond (.t 22) (S0 (R0 [2] [tI0 2 true])
 .ret) .skip))
 (S0 (R0 [3,4] [mI0 24 0,C1 25 9 24,mI0 23 25,eI0 26 23 0,eI0 27 23 1,eI 3 (.alloc [(.int .i64 0),(.int .i64 0),.nils]),eI 4 (.alloc [(.int .i64 0),(.int .i64 0),.nils]),vI0 3 3 26,vI0 3 4 27])
 (S0 (R0 [3,4,5,6] [LI0 29 3,LI0 30 4,C2 31 10 29 30,mI0 28 31,eI0 32 28 0,eI0 33 28 1,eI 5 (.alloc [(.int .i64 0),(.int .i64 0),.nils]),vI0 3 5 32,mI0 6 33])
 (S0 (R0 [3,4,5,6,7,8] [LI0 35 3,LI0 36 4,C2 37 11 35 36,mI0 34 37,eI0 38 34 0,eI0 39 34 1,eI 7 (.alloc [(.int .i64 0),(.int .i64 0),.nils]),vI0 3 7 38,mI0 8 39])
 (S0 (.seq (R0 [3,4,5,6,48] [mI0 40 6,mI0 41 8,bI0 42 .neq 40 41,mI0 43 42,G0 44 (.load true 3 (.t 5)) true 43 false,G0 45 (.load true 3 (.t 7)) true 43 false,G0 46 (.call 12 [(.t 44),(.t 45)]) false 43 false,G0 47 (.un .not (.t 46)) true 43 false,oI0 48 43 47])
 (.cond (.t 48) (S0 (R0 [2] [tI0 2 false])
 .ret) .skip))
 (S0 (.seq (R0 [3,4,5,50] [mI0 49 6,cI0 50 .neq 49 0])
 (.cond (.t 50) (S0 (R0 [2] [tI0 2 true])
 .ret) .skip))
 (S0 (R0 [3,4,5,9,10] [LI0 52 3,C1 53 13 52,mI0 51 53,eI0 54 51 0,eI0 55 51 1,eI 9 (.alloc [(.int .i64 0),(.int .i64 0),.nils]),vI0 3 9 54,mI0 10 55])
 (S0 (R0 [3,5,9,10,11,12] [LI0 57 4,C1 58 13 57,mI0 56 58,eI0 59 56 0,eI0 60 56 1,eI 11 (.alloc [(.int .i64 0),(.int .i64 0),.nils]),vI0 3 11 59,mI0 12 60])
 (S0 (R0 [3,9,10,11,12,13,14] [LI0 62 5,C1 63 13 62,mI0 61 63,eI0 64 61 0,eI0 65 61 1,eI 13 (.alloc [(.int .i64 0),(.int .i64 0),.nils]),vI0 3 13 64,mI0 14 65])
 (S0 (R0 [3,9,10,12,13,14,15,16] [LI0 67 11,LI0 68 9,C2 69 10 67 68,mI0 66 69,eI0 70 66 0,eI0 71 66 1,eI 15 (.alloc [(.int .i64 0),(.int .i64 0),.nils]),vI0 3 15 70,mI0 16 71])
 (S0 (.seq (R0 [3,9,91] [mI0 72 10,cI0 73 .neq 72 0,mI0 74 73,gm0 75 12 74 false,G0 76 (.bin .neq .other (.t 75) (I0 0)) true 74 false,oI0 77 74 76,mI0 78 77,gm0 79 14 78 false,G0 80 (.bin .neq .other (.t 79) (I0 0)) true 78 false,oI0 81 78 80,mI0 82 81,gm0 83 16 82 false,G0 84 (.bin .neq .other (.t 83) (I0 0)) true 82 false,oI0 85 82 84,mI0 86 85,G0 87 (.load true 3 (.t 13)) true 86 false,G0 88 (.load true 3 (.t 15)) true 86 false,G0 89 (.call 12 [(.t 87),(.t 88)]) false 86 false,G0 90 (.un .not (.t 89)) true 86 false,oI0 91 86 90])
 (.cond (.t 91) (S0 (R0 [2] [tI0 2 false])
 .ret) .skip))
 (S0 (R0 [9,17,18] [LI0 93 3,C1 94 14 93,mI0 92 94,eI0 95 92 0,eI0 96 92 1,eI 17 (.alloc [(.int .i64 0),(.int .i64 0),.nils]),vI0 3 17 95,mI0 18 96])
 (S0 (R0 [17,18,19,20] [LI0 98 9,C1 99 14 98,mI0 97 99,eI0 100 97 0,eI0 101 97 1,eI 19 (.alloc [(.int .i64 0),(.int .i64 0),.nils]),vI0 3 19 100,mI0 20 101])
 (S0 (R0 [2] [mI0 102 18,cI0 103 .eql 102 0,mI0 104 103,gm0 105 20 104 true,G0 106 (.bin .eql .other (.t 105) (I0 0)) true 104 true,aI0 107 104 106,mI0 108 107,G0 109 (.fieldAddr 2 (.t 17)) true 108 true,G0 110 (.load false 1 (.t 109)) true 108 true,G0 111 (.len (.t 110)) true 108 true,G0 112 (.fieldAddr 2 (.t 19)) true 108 true,G0 113 (.load false 1 (.t 112)) true 108 true,G0 114 (.len (.t 113)) true 108 true,G0 115 (.bin .eql .other (.t 111) (.t 114)) true 108 true,aI0 116 108 115,mI0 2 116])
 .ret)))))))))))))))⟩
theorem cf3:cF Try.prog Try.f3=some if3:=by kernel_rfl
end Go.Proofs
namespace Go.Proofs.Ytcooahfdjlhmdaa
open Go.ChangeShapes Go.WideShapes Go.ChangeAt Go.RowKit Go.Ab Go.Joins Go.Lie Go.Proofs
theorem own:ownKnob Try.prog.godebug=none:=by kernel_rfl
theorem laidOut:laidOutB Try.prog=true:=by kernel_rfl
variable {H:Type} {enc:TypeId×Value→H} {W w0:World} {j:Inj} {h:AHeap}
end Go.Proofs.Ytcooahfdjlhmdaa
namespace Go.Proofs.Ytcooahfdjlhmdaa
open Go.ChangeShapes Go.WideShapes Go.ChangeAt Go.RowKit Go.Ab Go.Joins Go.Lie Go.Proofs
variable {H:Type} {enc:TypeId×Value→H} {W w0:World} {j:Inj} {h:AHeap}
theorem cell8:Try.prog.cellsOf 5=1:=by kernel_rfl
theorem lay8:Lay1 enc Try.prog W 5 (fun pv (n:Int)=>pv=.int .u8 n∧0≤n∧n≤255):=by
 intro w0 j h held fuel v x m hx;obtain⟨n,hn,_,hw⟩:=DataW.trod_int Try.underlying5 hx;simp only [List.cons.injEq,and_true]at hn
 subst hn;simp only [Lit.wf,Bool.and_eq_true,decide_eq_true_eq]at hw
 have h1:IntKind.u8.min=0:=by rfl
 have h2:IntKind.u8.max=255:=by rfl
 rw [h1,h2]at hw
 exact⟨j,h,.int .u8 n,n,m,Inj.le.refl _,Ext.refl m.wf,rfl,trivial,rfl,rfl,hw.1,hw.2⟩
theorem FL.bytes {v:PV} {xs:List Int} (h:FL (fun pv (n:Int)=>pv=.int .u8 n∧0≤n∧n≤255) v xs):FB v xs:=by
 obtain⟨w,a,rows,rfl,hr⟩:=h;refine⟨w,a,?_⟩
 congr 1
 apply List.ext_getElem?;intro k;rw [List.getElem?_map];rcases Nat.lt_or_ge k xs.length with x|x
 ·obtain⟨pv,h1,h2⟩:=hr.get x
  rw [h1,gi x,h2.1];rfl
 ·rw [List.getElem?_eq_none (by rw [hr.1];exact x),List.getElem?_eq_none x];rfl
theorem layB:Lay1 enc Try.prog W 22 (fun v (xs:List Int)=>FB v xs∧∀b∈xs,0≤b∧b≤255):=by
 intro w0 j h held fuel v x m hx;obtain⟨j',h',pv,a,g1,g2,g3,g4,g5,g6,g7,g8⟩:=zGC Try.underlying22 cell8 lay8 w0 j h held fuel v x m hx;exact⟨j',h',pv,a,g1,g2,g3,g4,g5,g6,FL.bytes g7,g7.all fun _ _ k=>k.2⟩
end Go.Proofs.Ytcooahfdjlhmdaa
