/- A list of bytes that a law is handed, laid as a frozen value. -/
import Derived.Test.YtcooahfdjlhmdaaBP28
import Derived.Test.YtcooahfdjlhmdaaBP26
import Derived.Test.YtcooahfdjlhmdaaBAbPz
import Derived.Test.YtcooahfdjlhmdaaBAbPt
import Derived.Test.YtcooahfdjlhmdaaChecked
import Derived.Test.YtcooahfdjlhmdaaRows
import Derived.Lib.SmallJoins
import Derived.WalkKit
import Derived.ProofKit
open Int renaming reduceNatCast'→iQ0
set_option maxRecDepth 100000
set_option linter.unusedVariables false
set_option linter.unusedSimpArgs false
namespace Go.Lie
open Go.Ab Go.Mx
variable {p:Int} {n m:Nat} {L M A u w:List (List Int)} {x y v:List Int}
abbrev pr7 (p:Int):Prop:=p=2∨p=3∨p=5∨p=7
theorem pr7.ok (h:pr7 p):okp p:=by unfold okp;omega
theorem zEc (hq:pr7 p) (hL:∀v∈L,El p n v):∀k,k≤L.length→∃u,Canon p n (W0 n) (L.take k) u∧u.length≤k
 | 0,_=>⟨[],by rw [List.take_zero];exact zAH,Nat.le_refl _⟩
 | k+1,hk=>by
  obtain⟨u,c,hu⟩:=zEc hq hL k (by omega)
  have hx:=hL _ (List.getElem_mem (show k<L.length by omega))
  rw [List.take_succ_eq_append_getElem (by omega)]
  have hr:=Zu (W0_ok hq.ok n) c.base.els hx
  by_cases h:dep (redL p (W0 n) u L[k])=n
  ·exact⟨u,c.skip0 hq.ok hx h,by omega⟩
  ·have hd:dep (redL p (W0 n) u L[k])<n:=by have:=zCk (redL p (W0 n) u L[k]);rw [hr.1]at this;omega
   have h0:=hr.at0 (W0_ok hq.ok n) (dep (redL p (W0 n) u L[k]));have h1:at_ (redL p (W0 n) u L[k]) (dep (redL p (W0 n) u L[k]))≠0:=q9 (by rw [hr.1];exact hd)
   obtain⟨q,_,_,hq'⟩:=zEG hq (a:=at_ (redL p (W0 n) u L[k]) (dep (redL p (W0 n) u L[k]))) (by omega) (by omega)
   refine⟨_,(c.put hq.ok hx hd hq').1,?_⟩;rw [Q0,List.length_map];omega
theorem QD (hq:pr7 p) (hL:∀v∈L,El p n v):∃u,Canon p n (W0 n) L u∧u.length≤L.length:=by
 have:=zEc hq hL L.length (Nat.le_refl _)
 rwa [List.take_length]at this
theorem zFZ (hq:pr7 p) (hL:∀v∈L,El p n v) (c:Canon p n (W0 n) L u):u.length≤L.length:=by
 obtain⟨u',c',h⟩:=QD hq hL;rw [c.unique (W0_ok hq.ok n) c'];exact h
theorem zII (hq:pr7 p) (hM:∀v∈M,El p n v) (hu:Base p n (W0 n) u) (h:∀v∈u,Gen p n (W0 n) M (at_ v)):u.length≤M.length:=by
 obtain⟨w,c,hw⟩:=QD hq hM
 have:=(zBP (W0_ok hq.ok n) hu c.base fun f hf=>(c.gen f).1 (qP h hf)).1
 omega
def trm (n:Nat) (A:List (List Int)):List (List Int):=(List.range n).map fun j=>A.map fun r=>at_ r j
theorem zb:(trm n A).length=n:=by simp [trm]
theorem zFV {j:Nat} (hj:j<n):row (trm n A) j=A.map fun r=>at_ r j:=by rw [zG (by rw [zb];exact hj)];simp [trm]
theorem QX {i j:Nat} (hi:i<A.length) (hj:j<n):at_ (row (trm n A) j) i=at_ (row A i) j:=by
 rw [zFV hj,at_eq (by simp;exact hi),zG hi];simp
theorem zAd (hp:0<p) (hA:Ma p n A):Ma p A.length (trm n A):=fun r hr=>by
 simp only [trm,List.mem_map,List.mem_range]at hr
 obtain⟨j,hj,rfl⟩:=hr;refine⟨by simp,fun i=>?_⟩
 by_cases hi:i<A.length
 ·rw [at_eq (by simp;exact hi),List.getElem_map]
  exact(hA _ (List.getElem_mem hi)).bd j
 ·rw [at_ge (by simp;omega)];omega
theorem ma_el (hA:Ma p n A):∀v∈A,El p n v:=fun v hv=>ve_el (hA v hv)
def wd (A:List (List Int)):List (List Int):=(List.range A.length).map fun i=>row A i++uv A.length i
theorem zf:(wd A).length=A.length:=by simp [wd]
theorem Q8 {i:Nat} (hi:i<A.length):row (wd A) i=row A i++uv A.length i:=by rw [zG (by rw [zf];exact hi)];simp [wd]
theorem Zn {a b:List Int} (j:Nat):at_ (a++b) j=if j<a.length then at_ a j else at_ b (j-a.length):=by
 unfold at_;rw [List.getD_eq_getElem?_getD,List.getElem?_append]
 split<;>simp [List.getD_eq_getElem?_getD]
theorem zGu {a b:List Int} (ha:Ve p n a) (hb:Ve p m b):Ve p (n+m) (a++b):=⟨by rw [List.length_append,ha.len,hb.len],fun j=>by
 rw [Zn];split
 ·exact ha.bd j
 ·exact hb.bd _⟩
theorem wd_ma (hq:pr7 p) (hA:Ma p n A):Ma p (n+A.length) (wd A):=fun r hr=>by
 have:=hq.ok.1
 simp only [wd,List.mem_map,List.mem_range]at hr
 obtain⟨i,hi,rfl⟩:=hr;exact zGu (hA.row hi) (uv_ve (by omega) hi)
theorem vt_wd (hq:pr7 p) (hA:Ma p n A) (hv:Ve p A.length v):vt p (n+A.length) v (wd A)=vt p n v A++v:=by
 have h2:=hq.ok.1;have hp:0<p:=by omega
 have hW:=wd_ma hq hA;have hl:v.length=(wd A).length:=by rw [hv.len,zf]
 have h1:=vt_ve hp hA hv.len;refine(vt_ve hp hW hl).ext (zGu h1 hv) fun j hj=>?_
 rw [vt_at hp hW hl hj,zf,Zn,h1.len]
 split
 ·rename_i hjn
  rw [vt_at hp hA hv.len hjn]
  congr 1
  exact qK fun k hk=>by rw [Q8 hk,Zn,(hA.row hk).len,if_pos hjn]
 ·rename_i hjn
  rw [qc (k:=j-n) (by omega)]
  ·rw [Q8 (by omega),Zn,(hA.row (by omega)).len,if_neg hjn,uv_at (by omega),if_pos rfl,Int.mul_one]
   have:=hv.bd (j-n)
   exact Int.emod_eq_of_lt this.1 this.2
  ·intro i hi hne
   rw [Q8 hi,Zn,(hA.row hi).len,if_neg hjn,uv_at hi,if_neg (by omega),Int.mul_zero]
theorem zGo (hq:pr7 p) (hA:Ma p n A) {z:List Int} (hz:El p (n+A.length) z):Gen p (n+A.length) (W0 (n+A.length)) (wd A) (at_ z)↔∃v,Ve p A.length v∧z=vt p n v A++v:=by
 have h2:=hq.ok.1;constructor
 ·intro h
  obtain⟨v,hv,e⟩:=zGq hq.ok (wd_ma hq hA) hz h;rw [zf]at hv
  exact⟨v,hv,by rw [←e,vt_wd hq hA hv]⟩
 ·rintro ⟨v,hv,rfl⟩
  rw [←vt_wd hq hA hv];exact zDj (by omega) (wd_ma hq hA) (by rw [hv.len,zf])
theorem zJ2 (z:List Int) (j:Nat):at_ (z.drop n) j=at_ z (n+j):=by simp [at_,List.getD_eq_getElem?_getD]
theorem zC5 {z:List Int} (hz:El p (n+m) z):El p m (z.drop n):=⟨by rw [List.length_drop,hz.1];omega,fun x hx=>hz.2 x (List.mem_of_mem_drop hx)⟩
end Go.Lie
namespace Go.Lie
open Go.Ab Go.Mx
variable {p:Int} {n m:Nat} {L M A B U u w:List (List Int)} {x y v b z:List Int}
theorem zAI (z:List Int) (j:Nat):at_ (z.take n) j=if j<n then at_ z j else 0:=by
 unfold at_;rw [List.getD_eq_getElem?_getD,List.getElem?_take]
 split<;>simp [List.getD_eq_getElem?_getD]
theorem zFi (hz:El p (n+m) z):El p n (z.take n):=⟨by rw [List.length_take,hz.1];omega,fun x hx=>hz.2 x (List.mem_of_mem_take hx)⟩
theorem zEY {f:List Int→List Int} {d j:Nat} (k:Nat→Int) (u:List (List Int)) (h:∀z,at_ (f z) j=at_ z d):comb k (u.map f) j=comb k u d:=by
 unfold comb;rw [List.length_map];refine qK fun t ht=>?_
 rw [List.getD_eq_getElem?_getD,List.getElem?_map,List.getElem?_eq_getElem ht,List.getD_eq_getElem?_getD,List.getElem?_eq_getElem ht];simp only [Option.getD_some,Option.map_some,h]
theorem zI1 {f:Vec} (hu:∀v∈u,El p (n+m) v) (h:Gen p (n+m) (W0 (n+m)) u f):Gen p n (W0 n) (u.map (List.take n)) fun j=>if j<n then f j else 0:=by
 obtain⟨k,e⟩:=h;refine⟨k,ZR (fun j hj=>?_) fun j hj=>?_⟩
 ·rw [if_pos hj,zEY k u (d:=j) fun z=>by rw [zAI,if_pos hj]]
  exact zFd e (by omega)
 ·rw [if_neg (by omega),qd (p:=p) (n:=n) (fun v hv=>?_) _ hj]
  obtain⟨z,hz,rfl⟩:=List.mem_map.1 hv;exact zFi (hu z hz)
theorem zI2 {f:Vec} (hu:∀v∈u,El p (n+m) v) (h:Gen p (n+m) (W0 (n+m)) u f):Gen p m (W0 m) (u.map (List.drop n)) fun j=>f (n+j):=by
 obtain⟨k,e⟩:=h;refine⟨k,ZR (fun j hj=>?_) fun j hj=>?_⟩
 ·rw [zEY k u (d:=n+j) fun z=>zJ2 z j]
  exact zFd e (by omega)
 ·rw [qd (p:=p) (n:=m) (fun v hv=>?_) _ hj]
  ·have:=(zFg e).2 (n+j) (by omega)
   rw [this,qd hu _ (by omega)]
  obtain⟨z,hz,rfl⟩:=List.mem_map.1 hv;exact zC5 (hu z hz)
def top (n:Nat) (u:List (List Int)):List (List Int):=u.filter fun r=>decide (dep r<n)
theorem ZB:v∈top n u↔v∈u∧dep v<n:=by simp [top]
theorem zJD (h:dep z<n) (hz:n≤z.length):dep (z.take n)=dep z:=
 QB (fun j hj=>by rw [zAI,if_pos (by omega)];exact zX hj) (by rw [zAI,if_pos h];exact q9 (by omega))
theorem zIB (hu:Base p (n+m) (W0 (n+m)) u):Base p n (W0 n) ((top n u).map (List.take n)):=by
 have hm:∀t∈(top n u).map (List.take n),∃r∈u,dep r<n∧t=r.take n:=fun t ht=>by
  obtain⟨r,hr,rfl⟩:=List.mem_map.1 ht;exact⟨r,(ZB.1 hr).1,(ZB.1 hr).2,rfl⟩
 have hd:∀r∈u,dep r<n→dep (r.take n)=dep r:=fun r hr h=>zJD h (by rw [(hu.els r hr).1];omega)
 refine base0 (fun t ht=>?_) ?_
 ·obtain⟨r,hr,hn,rfl⟩:=hm t ht
  have hL:=hu.led r hr;exact⟨zFi hL.1,by rw [hd r hr hn];exact hn,by rw [hd r hr hn,zAI,if_pos hn];exact hL.2.2⟩
 ·unfold Asc top
  rw [List.pairwise_map];refine List.Pairwise.imp_of_mem (fun {a b} ha hb h=>?_) (hu.asc.filter _)
  rw [hd a (ZB.1 ha).1 (ZB.1 ha).2,hd b (ZB.1 hb).1 (ZB.1 hb).2];exact h
theorem zJx {f:Vec} (hu:∀v∈u,El p (n+m) v) (h:Gen p n (W0 n) (u.map (List.take n)) f):Gen p n (W0 n) ((top n u).map (List.take n)) f:=by
 refine qP (fun v hv=>?_) h
 obtain⟨r,hr,rfl⟩:=List.mem_map.1 hv
 by_cases hn:dep r<n
 ·exact zW (List.mem_map.2 ⟨r,ZB.2 ⟨hr,hn⟩,rfl⟩)
 ·refine(zI _).eqv _ _ (Eqv.of_eq fun j=>?_) (zI _).zero
  rw [zAI]
  split
  ·exact zX (by omega)
  ·rfl
theorem wd_el (hq:pr7 p) (hA:Ma p n A):∀v∈wd A,El p (n+A.length) v:=fun v hv=>ve_el (wd_ma hq hA v hv)
theorem zFW (hq:pr7 p) (hA:Ma p n A) (c:Canon p (n+A.length) (W0 (n+A.length)) (wd A) u) (f:Vec):Gen p n (W0 n) A f↔Gen p n (W0 n) ((top n u).map (List.take n)) f:=by
 have hp:0<p:=by have:=hq.ok.1;omega
 refine zAF (fun v hv=>?_) (fun v hv=>?_) f
 ·obtain⟨i,hi,rfl⟩:=List.mem_iff_getElem.1 hv
  have h1:Gen p (n+A.length) (W0 (n+A.length)) u (at_ (row A i++uv A.length i)):=(c.gen _).1 (zW (by
   rw [←Q8 hi,zG (by rw [zf];exact hi)];exact List.getElem_mem _))
  refine zJx c.base.els ((zI _).eqv _ _ (Eqv.of_eq fun j=>?_) (zI1 c.base.els h1))
  have hl:=(hA.row hi).len;rw [Zn,hl,zG hi];rw [zG hi]at hl
  split
  ·rfl
  ·exact at_ge (by omega)
 ·obtain⟨r,hr,rfl⟩:=List.mem_map.1 hv
  have hrE:=c.base.els r (ZB.1 hr).1;obtain⟨k,hk,e⟩:=(zGo hq hA hrE).1 ((c.gen _).2 (zW (ZB.1 hr).1));have hl:=(vt_ve hp hA hk.len).len;rw [e,List.take_left' hl];exact zDj hp hA hk.len
theorem zIH (hq:pr7 p) (hA:Ma p n A) (c:Canon p (n+A.length) (W0 (n+A.length)) (wd A) u) (c':Canon p n (W0 n) A w):(top n u).length=w.length:=by
 have o:=W0_ok hq.ok n;have hb:=zIB (n:=n) c.base;have h1:=(zBP o hb c'.base fun f hf=>(c'.gen f).1 ((zFW hq hA c f).2 hf)).1
 have h2:=(zBP o c'.base hb fun f hf=>(zFW hq hA c f).1 ((c'.gen f).2 hf)).1
 rw [List.length_map]at h1 h2
 omega
theorem Qk {i:Nat} (hi:i<n):dep (uv n i)=i:=QB (fun j hj=>by rw [uv_at hi,if_neg (by omega)]) (by rw [uv_at hi,if_pos rfl];omega)
theorem zKV (hq:pr7 p) {i:Nat} (hi:i<n):Led p n (uv n i):=⟨ve_el (uv_ve (by have:=hq.ok.1;omega) hi),by rw [Qk hi];exact hi,by rw [Qk hi,uv_at hi,if_pos rfl]⟩
theorem zEK (hq:pr7 p) (n:Nat):Base p n (W0 n) (idm n):=by
 refine base0 (fun t ht=>?_) ?_
 ·simp only [idm,List.mem_map,List.mem_range]at ht
  obtain⟨i,hi,rfl⟩:=ht;exact zKV hq hi
 ·unfold Asc idm
  rw [List.pairwise_map];refine List.Pairwise.imp_of_mem (fun {a b} ha hb h=>?_) (List.pairwise_lt_range (n:=n))
  rw [Qk (List.mem_range.1 ha),Qk (List.mem_range.1 hb)];exact h
theorem zAa (hq:pr7 p) (hA:Ma p n A) (c:Canon p (n+A.length) (W0 (n+A.length)) (wd A) u):u.length=A.length:=by
 have h1:=zFZ hq (wd_el hq hA) c;rw [zf]at h1
 refine Nat.le_antisymm h1 ?_
 have:=zII hq (M:=u.map (List.drop n)) (fun v hv=>by
  obtain⟨z,hz,rfl⟩:=List.mem_map.1 hv;exact zC5 (c.base.els z hz)) (zEK hq A.length) fun v hv=>by
   simp only [idm,List.mem_map,List.mem_range]at hv
   obtain⟨i,hi,rfl⟩:=hv;have h1:Gen p (n+A.length) (W0 (n+A.length)) u (at_ (row A i++uv A.length i)):=(c.gen _).1 (zW (by
    rw [←Q8 hi,zG (by rw [zf];exact hi)];exact List.getElem_mem _))
   refine(zI _).eqv _ _ (Eqv.of_eq fun j=>?_) (zI2 c.base.els h1)
   rw [Zn,(hA.row hi).len,if_neg (by omega),show n+j-n=j by omega]
 rw [zV,List.length_map]at this
 exact this
def left (p:Int) (n m:Nat) (u:List (List Int)) (b:List Int):List Int:=redL p (W0 (n+m)) (top n u) (b++List.replicate m 0)
end Go.Lie
namespace Go.Lie
open Go.Ab Go.Mx
abbrev Mf:=Nat→Nat→Int
def mnr (i:Nat) (a:Mf):Mf:=fun r c=>a (if r<i then r else r+1) (c+1)
def sg (i:Nat):Int:=if i % 2=0 then 1 else -1
theorem zJQ (i:Nat):sg (i+1)=-sg i:=by
 unfold sg;rcases Nat.mod_two_eq_zero_or_one i with h|h
 ·rw [if_neg (by omega),if_pos h]
 ·rw [if_pos (by omega),if_neg (by omega)];rfl
def Dt:Nat→Mf→Int
 | 0,_=>1
 | n+1,a=>sumN (n+1) fun i=>sg i*a i 0*Dt n (mnr i a)
def upd (a:Mf) (r:Nat) (x:Nat→Int):Mf:=fun i j=>if i=r then x j else a i j
theorem Qg (a:Mf) (r:Nat) (x:Nat→Int):mnr r (upd a r x)=mnr r a:=by
 funext i j
 unfold mnr upd;rw [if_neg]
 split<;>omega
theorem zCz (a:Mf) {i r:Nat} (x:Nat→Int) (h:i≠r):mnr i (upd a r x)=upd (mnr i a) (if r<i then r else r-1) fun j=>x (j+1):=by
 funext s j
 unfold mnr upd
 by_cases h1:r<i
 ·rw [if_pos h1]
  by_cases h2:s=r
  ·rw [if_pos h2,if_pos];rw [if_pos (by omega)];exact h2
  ·rw [if_neg h2,if_neg];split<;>omega
 ·rw [if_neg h1]
  by_cases h2:s=r-1
  ·rw [if_pos h2,if_pos];rw [if_neg (by omega)];omega
  ·rw [if_neg h2,if_neg];split<;>omega
theorem zA7 (k:Int):∀(n:Nat) (x y:Nat→Int) (a:Mf) (r:Nat),r<n→Dt n (upd a r fun j=>x j+k*y j)=Dt n (upd a r x)+k*Dt n (upd a r y)
 | 0,_,_,a,r,h=>by omega
 | n+1,x,y,a,r,h=>by
  unfold Dt;rw [←qo,←ZY];refine qK fun i hi=>?_
  by_cases e:i=r
  ·subst e
   rw [Qg,Qg,Qg];simp only [upd,if_true]
   grind
  ·have ih:=zA7 k n (fun j=>x (j+1)) (fun j=>y (j+1)) (mnr i a) (if r<i then r else r-1) (by split<;>omega)
   have e1:∀z:Nat→Int,upd a r z i 0=a i 0:=fun z=>by unfold upd;rw [if_neg e]
   rw [zCz a _ e,zCz a _ e,zCz a _ e,e1,e1,e1,ih]
   grind
theorem zA8:∀(n:Nat) (a:Mf) (r:Nat),r+1<n→(∀j,a r j=a (r+1) j)→Dt n a=0
 | 0,a,r,h,_=>by omega
 | n+1,a,r,h,e=>by
  unfold Dt;have hz:∀i,i<n+1→i≠r→i≠r+1→Dt n (mnr i a)=0:=fun i hi h1 h2=>by
   by_cases hri:r<i
   ·refine zA8 n (mnr i a) r (by omega) fun j=>?_
    unfold mnr;rw [if_pos hri,if_pos (by omega)];exact e _
   ·refine zA8 n (mnr i a) (r-1) (by omega) fun j=>?_
    unfold mnr;rw [if_neg (by omega),if_neg (by omega),show r-1+1=r by omega];exact e _
  have hm:mnr r a=mnr (r+1) a:=by
   funext s j
   unfold mnr
   by_cases h1:s<r
   ·rw [if_pos h1,if_pos (by omega)]
   ·rw [if_neg h1]
    by_cases h2:s<r+1
    ·rw [if_pos h2,show s=r by omega];exact(e _).symm
    ·rw [if_neg h2]
  -- only two terms are left
  have key:∀m,r+1<m→m≤n+1→sumN m (fun i=>sg i*a i 0*Dt n (mnr i a))=0:=by
   intro m
   induction m with
   | zero=>intro h;omega
   | succ m ih=>
    intro h1 h2;show sumN m _+_=0
    by_cases hm1:m=r+1
    ·subst hm1
     show(sumN r _+_)+_=0
     rw [qM r fun i hi=>by rw [hz i (by omega) (by omega) (by omega),Int.mul_zero]]
     show 0+sg r*a r 0*Dt n (mnr r a)+sg (r+1)*a (r+1) 0*Dt n (mnr (r+1) a)=0;rw [hm,zJQ,e 0]
     grind
    ·rw [ih (by omega) (by omega)]
     show 0+sg m*a m 0*Dt n (mnr m a)=0;rw [hz m (by omega) (by omega) hm1,Int.mul_zero];rfl
  exact key (n+1) h (Nat.le_refl _)
theorem ZG (a:Mf) (r:Nat):upd a r (a r)=a:=by
 funext i j
 unfold upd
 split
 ·rename_i h;rw [h]
 ·rfl
theorem ql (a:Mf) {r s:Nat} (h:r≠s) (x y:Nat→Int):upd (upd a r x) s y=upd (upd a s y) r x:=by
 funext i j
 unfold upd
 by_cases h1:i=s
 ·subst h1;rw [if_pos rfl,if_neg (Ne.symm h),if_pos rfl]
 ·rw [if_neg h1,if_neg h1]
theorem zEl (n:Nat) (a:Mf) {r:Nat} (hr:r<n) (x y:Nat→Int):Dt n (upd a r fun j=>x j+y j)=Dt n (upd a r x)+Dt n (upd a r y):=by
 have:=zA7 1 n x y a r hr
 simpa using this
theorem zEk (n:Nat) (a:Mf) (r:Nat) (h:r+1<n) (x y:Nat→Int):Dt n (upd (upd a r x) (r+1) y)=-Dt n (upd (upd a r y) (r+1) x):=by
 have hne:r≠r+1:=by omega
 have h0:Dt n (upd (upd a r fun j=>x j+y j) (r+1) fun j=>x j+y j)=0:=zA8 n _ r h fun j=>by
  unfold upd;rw [if_neg hne,if_pos rfl,if_pos rfl]
 have hx:Dt n (upd (upd a r x) (r+1) x)=0:=zA8 n _ r h fun j=>by unfold upd;rw [if_neg hne,if_pos rfl,if_pos rfl]
 have hy:Dt n (upd (upd a r y) (r+1) y)=0:=zA8 n _ r h fun j=>by unfold upd;rw [if_neg hne,if_pos rfl,if_pos rfl]
 rw [zEl n _ h,ql a hne,ql a hne,zEl n _ (by omega),zEl n _ (by omega),←ql a hne,←ql a hne,←ql a hne,←ql a hne,hx,hy]at h0
 omega
theorem zBQ (n:Nat):∀(d:Nat) (a:Mf) (r:Nat),r+(d+1)<n→∀x y:Nat→Int,Dt n (upd (upd a r x) (r+(d+1)) y)=-Dt n (upd (upd a r y) (r+(d+1)) x)
 | 0,a,r,h,x,y=>zEk n a r h x y
 | d+1,a,r,h,x,y=>by
  have ih:=zBQ n d
  -- the row between
  let z:=a (r+(d+1))
  have ins:∀u v:Nat→Int,upd (upd a r u) (r+(d+1+1)) v=upd (upd (upd a r u) (r+(d+1)) z) (r+(d+1)+1) v:=fun u v=>by
   rw [show r+(d+1)+1=r+(d+1+1) by omega,ql a (by omega) u z]
   congr 1
   have:upd a (r+(d+1)) z=a:=ZG a _
   rw [this]
  have st:∀u v:Nat→Int,Dt n (upd (upd a r u) (r+(d+1+1)) v)=-Dt n (upd (upd (upd a (r+(d+1)+1) z) r u) (r+(d+1)) v):=fun u v=>by
   rw [ins,zEk n (upd a r u) (r+(d+1)) (by omega)]
   congr 2
   rw [ql (upd a r u) (by omega),ql a (by omega)]
  rw [st,st,ih _ r (by omega)]
theorem Dt_eq (n:Nat) (a:Mf) {r s:Nat} (hrs:r<s) (hs:s<n) (e:∀j,a r j=a s j):Dt n a=0:=by
 obtain⟨d,rfl⟩:∃d,s=r+(d+1):=⟨s-r-1,by omega⟩
 have h:=zBQ n d a r hs (a r) (a r);have e2:upd (upd a r (a r)) (r+(d+1)) (a r)=a:=by
  rw [ZG]
  funext i j
  unfold upd
  split
  ·rename_i h;rw [h];exact e j
  ·rfl
 rw [e2]at h
 omega
theorem zFq (n:Nat) (a:Mf) {r s:Nat} (hr:r<n) (hs:s<n) (h:r≠s) (k:Int):Dt n (upd a r fun j=>a r j+k*a s j)=Dt n a:=by
 rw [zA7 k n (a r) (a s) a r hr,ZG]
 have:Dt n (upd a r (a s))=0:=by
  rcases Nat.lt_or_gt_of_ne h with g|g
  ·exact Dt_eq n _ g hs fun j=>by unfold upd;rw [if_pos rfl,if_neg (Ne.symm h)]
  ·exact Dt_eq n _ g hr fun j=>by unfold upd;rw [if_pos rfl,if_neg (Ne.symm h)]
 rw [this,Int.mul_zero,Int.add_zero]
theorem zKh (n:Nat) (a:Mf) {r:Nat} (hr:r<n) (k:Int) (x:Nat→Int):Dt n (upd a r fun j=>k*x j)=k*Dt n (upd a r x):=by
 have h1:=zA7 k n (fun _=>0) x a r hr
 have h2:=zA7 (-1) n (fun _=>0) (fun _=>0) a r hr
 have e1:(fun j=>(0:Int)+k*x j)=fun j=>k*x j:=by funext j;omega
 have e2:(fun _:Nat=>(0:Int) + -1*0)=fun _=>0:=by funext j;rfl
 rw [e1]at h1
 rw [e2]at h2
 rw [h1];omega
theorem Qm {p:Int}:∀(n:Nat) {a b:Mf},(∀i j,i<n→j<n→a i j % p=b i j % p)→Dt n a % p=Dt n b % p
 | 0,a,b,_=>rfl
 | n+1,a,b,h=>by
  unfold Dt;have key:∀m,m≤n+1→(sumN m fun i=>sg i*a i 0*Dt n (mnr i a)) % p=(sumN m fun i=>sg i*b i 0*Dt n (mnr i b)) % p:=by
   intro m
   induction m with
   | zero=>intro _;rfl
   | succ m ih=>
    intro hm
    show(sumN m _+_) % p=(sumN m _+_) % p
    rw [Int.add_emod,ih (by omega),Int.add_emod (sumN m fun i=>sg i*b i 0*Dt n (mnr i b))]
    have e1:=Qm (p:=p) n (a:=mnr m a) (b:=mnr m b) fun i j hi hj=>by
     unfold mnr;refine h _ _ ?_ (by omega)
     split<;>omega
    have e2:=h m 0 (by omega) (by omega)
    have e3:sg m*a m 0*Dt n (mnr m a) % p=sg m*b m 0*Dt n (mnr m b) % p:=by
     rw [Int.mul_emod,Int.mul_emod (sg m),e2,e1,←Int.mul_emod (sg m),←Int.mul_emod]
    rw [e3]
  exact key (n+1) (Nat.le_refl _)
def idf:Mf:=fun i j=>if i=j then 1 else 0
theorem zB6 (n:Nat) (a:Mf) (h:∀i,0<i→i<n+1→a i 0=0):Dt (n+1) a=a 0 0*Dt n fun r c=>a (r+1) (c+1):=by
 have e:mnr 0 a=fun r c=>a (r+1) (c+1):=by
  funext r c;unfold mnr;rw [if_neg (by omega)]
 show(sumN (n+1) fun i=>sg i*a i 0*Dt n (mnr i a))=_
 rw [qc (k:=0) (by omega) fun i hi hne=>by rw [h i (by omega) hi];simp,e]
 have:sg 0=1:=rfl
 rw [this,Int.one_mul]
theorem zJ5 (n:Nat) (a:Mf) (h:∀i,i<n+1→a i 0=0):Dt (n+1) a=0:=by
 rw [zB6 n a fun i _ hi=>h i hi,h 0 (by omega),Int.zero_mul]
theorem zH8:∀n,Dt n idf=1
 | 0=>rfl
 | n+1=>by
  rw [zB6 n idf fun i h0 _=>by unfold idf;rw [if_neg (by omega)]]
  have:(fun r c=>idf (r+1) (c+1))=idf:=by
   funext r c
   unfold idf
   by_cases h:r=c
   ·rw [if_pos h,if_pos (by omega)]
   ·rw [if_neg h,if_neg (by omega)]
  rw [this,zH8 n]
  rfl
end Go.Lie
namespace Go.Lie
open Go.Ab Go.Mx
variable {p:Int} {n:Nat} {A B C E F L:List (List Int)} {x:List Int} {φ:List (List Int)→Int}
def fm (A:List (List Int)):Mf:=fun i j=>at_ (row A i) j
def dt (n:Nat) (A:List (List Int)):Int:=Dt n (fm A)
theorem ze {i:Nat} (hi:i<A.length) (j:Nat):row (A.set i x) j=if j=i then x else row A j:=by
 unfold row;rw [List.getD_eq_getElem?_getD,List.getElem?_set,List.getD_eq_getElem?_getD]
 by_cases h:i=j
 ·rw [if_pos h,if_pos hi,if_pos h.symm];rfl
 ·rw [if_neg h,if_neg (Ne.symm h)]
theorem zCd {i:Nat} (hi:i<A.length):fm (A.set i x)=upd (fm A) i (at_ x):=by
 funext r j
 unfold fm upd;rw [ze hi]
 split<;>rfl
theorem zKU (hA:Ma p n A) (hx:Ve p n x) (i:Nat):Ma p n (A.set i x):=fun r hr=>by
 rcases List.mem_or_eq_of_mem_set hr with h|h
 ·exact hA r h
 ·rw [h];exact hx
theorem qf (hA:Sq p n A) (hx:Ve p n x) (i:Nat):Sq p n (A.set i x):=⟨by rw [List.length_set];exact hA.1,zKU hA.2 hx i⟩
theorem za (hA:Sq p n A) {i:Nat} (hi:i<n):Ve p n (row A i):=hA.2.row (by rw [hA.1];exact hi)
theorem QY (hA:Sq p n A) (hB:Sq p n B) (h:∀i j,i<n→j<n→at_ (row A i) j=at_ (row B i) j):A=B:=by
 refine List.ext_getElem (by rw [hA.1,hB.1]) fun i h1 h2=>?_
 have hi:i<n:=by rw [←hA.1];exact h1
 have h3:=za hA hi;have h4:=za hB hi;rw [←zG h1,←zG h2];exact h3.ext h4 fun j hj=>h i j hi hj
theorem zAf (hp:0<p) {k:Int} {v:List Int} (hv:Ve p n v):Ve p n (scl p k v):=el_ve hp (zCF hp hv.len)
theorem QU (hp:0<p) {k:Int} {r o:List Int} (hr:Ve p n r) (ho:Ve p n o):Ve p n (vstep p k r o):=el_ve hp (zBq hp hr.len ho.len)
structure RowF (p:Int) (n:Nat) (φ:List (List Int)→Int):Prop where
 sw:∀A,Sq p n A→∀i j,i<j→j<n→φ ((A.set i (row A j)).set j (row A i)) % p=-φ A % p
 sc:∀A,Sq p n A→∀i k,i<n→φ (A.set i (scl p k (row A i))) % p=k*φ A % p
 ad:∀A,Sq p n A→∀i j k,i<n→j<n→i≠j→φ (A.set i (vstep p k (row A j) (row A i))) % p=φ A % p
theorem zBN (hp:0<p):RowF p n (dt n):=by
 refine⟨fun A hA i j hij hj=>?_,fun A hA i k hi=>?_,fun A hA i j k hi hj hne=>?_⟩
 ·obtain⟨d,rfl⟩:∃d,j=i+(d+1):=⟨j-i-1,by omega⟩
  unfold dt;rw [zCd (by rw [List.length_set,hA.1];exact hj),zCd (by rw [hA.1];omega),zBQ n d _ i hj]
  congr 3
  have e1:upd (fm A) i (at_ (row A i))=fm A:=ZG (fm A) i;rw [e1];exact ZG (fm A) _
 ·unfold dt
  rw [zCd (by rw [hA.1];exact hi)]
  have e:=zKh n (fm A) hi k (fm A i);rw [ZG]at e
  rw [←e];refine Qm n fun r c hr hc=>?_
  unfold upd
  split
  ·rw [qE,Int.emod_emod,Int.mul_comm];rfl
  ·rfl
 ·unfold dt
  rw [zCd (by rw [hA.1];exact hi)]
  have e:=zFq n (fm A) hi hj hne k;rw [←e];refine Qm n fun r c hr hc=>?_
  unfold upd
  split
  ·rw [zi (by rw [(za hA hj).len,(za hA hi).len]) (by rw [(za hA hi).len];exact hc),Int.emod_emod];rfl
  ·rfl
def RedM (p:Int) (n:Nat) (A F:List (List Int)):Prop:=∃k e:Int,k*e % p=1∧∀φ,RowF p n φ→φ F % p=k*φ A % p
theorem RedM.refl (hp:okp p) (A:List (List Int)):RedM p n A A:=⟨1,1,by have:=hp.1;rw [Int.one_mul];exact Int.emod_eq_of_lt (by omega) (by omega),fun φ _=>by rw [Int.one_mul]⟩
theorem RedM.trans (h:RedM p n A B) (h':RedM p n B C):RedM p n A C:=by
 obtain⟨k,e,h1,h2⟩:=h;obtain⟨k',e',h3,h4⟩:=h';refine⟨k'*k,e*e',?_,fun φ hφ=>?_⟩
 ·rw [show k'*k*(e*e')=(k*e)*(k'*e') by grind,Int.mul_emod,h1,h3]
  rcases Int.emod_emod_of_dvd 1 (Int.dvd_refl p)with _
  have:(1*1:Int) % p=(k*e % p) % p:=by rw [h1];rfl
  rw [this,Int.emod_emod,h1]
 ·rw [h4 φ hφ,Int.mul_emod,h2 φ hφ,←Int.mul_emod,Int.mul_assoc]
theorem zKF (hp:okp p) (hA:Sq p n A) {i j:Nat} (hij:i<j) (hj:j<n):RedM p n A ((A.set i (row A j)).set j (row A i)):=
 ⟨-1,-1,by have:=hp.1;exact Int.emod_eq_of_lt (by omega) (by omega),fun φ h=>by rw [h.sw A hA i j hij hj];congr 1;omega⟩
theorem zKG (hA:Sq p n A) {i:Nat} {k e:Int} (hk:k*e % p=1) (hi:i<n):RedM p n A (A.set i (scl p k (row A i))):=⟨k,e,hk,fun φ h=>h.sc A hA i k hi⟩
theorem zKI (hp:okp p) (hA:Sq p n A) {i j:Nat} (k:Int) (hi:i<n) (hj:j<n) (hne:i≠j):RedM p n A (A.set i (vstep p k (row A j) (row A i))):=
 ⟨1,1,by have:=hp.1;rw [Int.one_mul];exact Int.emod_eq_of_lt (by omega) (by omega),fun φ h=>by rw [h.ad A hA i j k hi hj hne,Int.one_mul]⟩
def clrM (p:Int) (c d:Nat) (R:List (List Int)):Nat→List (List Int)
 | 0=>R
 | m+1=>if m=d then clrM p c d R m else(clrM p c d R m).set m (vstep p (-(at_ (row R m) c)) (row R d) (row R m))
theorem Z4 {c d:Nat} {R:List (List Int)}:∀m,(clrM p c d R m).length=R.length
 | 0=>rfl
 | m+1=>by
  unfold clrM
  split
  ·exact Z4 m
  ·rw [List.length_set];exact Z4 m
theorem Ql {c d:Nat} {R:List (List Int)}:∀m,m≤R.length→∀i,row (clrM p c d R m) i=if i<m∧i≠d then vstep p (-(at_ (row R i) c)) (row R d) (row R i)else row R i
 | 0,_,i=>by rw [if_neg (by omega)];rfl
 | m+1,hm,i=>by
  unfold clrM;have ih:=Ql (c:=c) (d:=d) (R:=R) m (by omega) i
  split
  ·rename_i h
   rw [ih]
   by_cases h1:i<m∧i≠d
   ·rw [if_pos h1,if_pos (by omega)]
   ·rw [if_neg h1,if_neg (by omega)]
  ·rename_i h
   rw [ze (by rw [Z4];omega),ih]
   by_cases h1:i=m
   ·rw [if_pos h1,if_pos (by omega),h1]
   ·rw [if_neg h1]
    by_cases h2:i<m∧i≠d
    ·rw [if_pos h2,if_pos (by omega)]
    ·rw [if_neg h2,if_neg (by omega)]
theorem zEZ (hp:okp p) {c d:Nat} {R:List (List Int)} (hR:Sq p n R) (hd:d<n):∀m,m≤n→Sq p n (clrM p c d R m)∧RedM p n R (clrM p c d R m)
 | 0,_=>⟨hR,RedM.refl hp R⟩
 | m+1,hm=>by
  obtain⟨h1,h2⟩:=zEZ hp hR hd m (by omega)
  have h0:0<p:=by have:=hp.1;omega
  unfold clrM
  split
  ·exact⟨h1,h2⟩
  ·rename_i hmd
   refine⟨qf h1 (QU h0 (za hR hd) (za hR (by omega))) _,h2.trans ?_⟩
   have h3:=zKI hp h1 (i:=m) (j:=d) (-(at_ (row R m) c)) (by omega) hd hmd
   rw [Ql m (by rw [hR.1];omega),Ql m (by rw [hR.1];omega),if_neg (by omega),if_neg (by omega)]at h3
   exact h3
theorem elim (hq:pr7 p):∀(g:Nat) {A:List (List Int)} {d c:Nat},Ech p n L A d c→Sq p n A→n-c=g→∃F e c',RedM p n A F∧Sq p n F∧Ech p n L F e c'∧(c'=n∨e=F.length)
 | 0,A,d,c,e,hA,hg=>⟨A,d,c,RedM.refl hq.ok A,hA,e,.inl (by have:=e.cn;omega)⟩
 | g+1,A,d,c,e,hA,hg=>by
  have hp:=hq.ok;have h0:0<p:=by have:=hp.1;omega
  by_cases hz:∀k,d≤k→k<A.length→at_ (row A k) c=0
  ·exact elim hq g (e.skip (by omega) hz) hA (by omega)
  ·obtain⟨t,ht⟩:=Classical.not_forall.1 hz
   have hdt:d≤t:=Classical.byContradiction fun h=>ht fun h'=>absurd h' h
   have htl:t<A.length:=Classical.byContradiction fun h=>ht fun _ h'=>absurd h' h
   have hne:at_ (row A t) c≠0:=fun h=>ht fun _ _=>h
   have hAn:=hA.1;have hb:=(za hA (i:=t) (by omega)).bd c
   obtain⟨k,_,_,hk⟩:=zEG hq (a:=at_ (row A t) c) (by omega) (by omega)
   let B:=(A.set d (row A t)).set t (row A d)
   have hB:Sq p n B:=qf (qf hA (za hA (by omega)) _) (za hA (by omega)) _
   have hrB:RedM p n A B:=by
    rcases Nat.lt_or_ge d t with h|h
    ·exact zKF hp hA h (by omega)
    ·have:B=A:=by
      have hdt':d=t:=by omega
      subst hdt';refine QY hB hA fun i j hi hj=>?_
      show at_ (row ((A.set d (row A d)).set d (row A d)) i) j=_;rw [ze (by rw [List.length_set];omega),ze (by omega)]
      split
      ·rename_i h;rw [h]
      ·rfl
     rw [this];exact RedM.refl hp A
   have hBd:row B d=row A t:=by
    show row ((A.set d (row A t)).set t (row A d)) d=_;rw [ze (by rw [List.length_set];omega),ze (by omega)]
    split
    ·rename_i h;rw [h]
    ·rw [if_pos rfl]
   let R:=B.set d (scl p k (row B d))
   have hR:Sq p n R:=qf hB (zAf h0 (za hB (by omega))) _
   have hrR:RedM p n B R:=zKG hB (e:=at_ (row A t) c) (by rw [Int.mul_comm];exact hk) (by omega)
   have hRi:∀i,row R i=if i=d then scl p k (row A t)else row B i:=fun i=>by
    show row (B.set d (scl p k (row B d))) i=_;rw [ze (by rw [hB.1];omega),hBd]
   obtain⟨hC,hrC⟩:=zEZ (c:=c) hp hR (d:=d) (by omega) n (Nat.le_refl _)
   have hCr:=Ql (p:=p) (c:=c) (d:=d) (R:=R) n (by rw [hR.1];exact Nat.le_refl _)
   have e2:=e.piv hp (B:=B) (C:=clrM p c d R n) (by omega) hdt htl rfl hk (by rw [hC.1,hA.1]) (by rw [hCr,if_neg (by omega),hRi,if_pos rfl]) (fun i hi hne=>by
    rw [hCr i,if_pos ⟨by omega,hne⟩,hCr d,if_neg (by omega),hRi i,if_neg hne])
   obtain⟨F,e3,c3,h1,h2,h3,h4⟩:=elim hq g e2 hC (by omega)
   exact⟨F,e3,c3,((hrB.trans hrR).trans hrC).trans h1,h2,h3,h4⟩
theorem zJy (hq:pr7 p) {v:List Int} (hv:El p n v):Gen p n (W0 n) (idm n) (at_ v):=by
 have h2:=hq.ok.1;have hve:=el_ve (by omega) hv
 have:=zDj (by omega) (zCb (p:=p) (by omega) n) (v:=v) (by rw [zV];exact hv.1)
 rwa [vt_id (by omega) hve]at this
theorem zGh (hq:pr7 p) (c:Canon p n (W0 n) L F) (hl:F.length=n):F=idm n:=by
 have o:=W0_ok hq.ok n;have hb:=zEK hq n;have h1:∀f,Gen p n (W0 n) F f→Gen p n (W0 n) (idm n) f:=fun f hf=>qP (fun v hv=>zJy hq (c.base.els v hv)) hf
 have h2:=(zBP o c.base hb h1).2 (by rw [zV,hl];exact Nat.le_refl _)
 refine(c.self).unique o (zEd hb.led hb.asc (fun v hv w hw hne=>?_) fun f=>⟨h1 f,h2 f⟩)
 simp only [idm,List.mem_map,List.mem_range]at hv hw
 obtain⟨i,hi,rfl⟩:=hv;obtain⟨j,hj,rfl⟩:=hw;rw [Qk hi,Qk hj]at hne
 rw [Qk hj,uv_at hi,if_neg (Ne.symm hne)]
theorem zGy (hq:pr7 p) (hA:Sq p n A):(RedM p n A (idm n)∧∀u,Canon p n (W0 n) A u→u.length=n)∨((∀φ,RowF p n φ→φ A % p=0)∧∀u,Canon p n (W0 n) A u→u.length<n):=by
 have hp:=hq.ok;have h0:0<p:=by have:=hp.1;omega
 obtain⟨F,e,c',⟨k,k',hk,hr⟩,hF,hE,hor⟩:=elim hq n (Ech.start (L:=A) (ma_el hA.2)) hA rfl;have hFn:=hF.1;have hdone:=hE.done (by rcases hor with h | h;exact .inl h;exact .inr h)
 have hdl:=hE.dl
 by_cases he:e=n
 ·rw [List.take_of_length_le (by omega)]at hdone
  have:F=idm n:=zGh hq (L:=A) hdone hFn
  refine .inl ⟨?_,fun u cu=>by rw [cu.unique (W0_ok hp n) hdone,hFn]⟩
  rw [←this];exact⟨k,k',hk,hr⟩
 ·have hc:c'=n:=by rcases hor with h | h<;>omega
  refine .inr ⟨fun φ hφ=>?_,fun u cu=>?_⟩
  ·have hz:F.set e (scl p 0 (row F e))=F:=by
    refine QY (qf hF (zAf h0 (za hF (by omega))) _) hF fun i j hi hj=>?_
    rw [ze (by omega)]
    split
    ·rename_i h
     rw [qE,h,hE.low e (Nat.le_refl _) (by omega) j (by omega)];simp
    ·rfl
   have h1:=hφ.sc F hF e 0 (by omega)
   rw [hz,Int.zero_mul]at h1
   have h2:=hr φ hφ;rw [h1]at h2
   have h3:k'*(k*φ A) % p=0:=by rw [Int.mul_emod,←h2];simp
   rw [show k'*(k*φ A)=k*k'*φ A by grind,Int.mul_emod,hk]at h3
   rw [Int.one_mul,Int.emod_emod]at h3
   exact h3
  ·rw [cu.unique (W0_ok hp n) hdone,List.length_take];omega
theorem Qj (n:Nat):dt n (idm n) % p=1 % p:=by
 have:=Qm (p:=p) n (a:=fm (idm n)) (b:=idf) fun i j hi hj=>by
  unfold fm idf;rw [qW hi,uv_at hi]
  by_cases h:i=j
  ·rw [if_pos h,if_pos h.symm]
  ·rw [if_neg h,if_neg (Ne.symm h)]
 unfold dt;rw [this,zH8]
theorem RowF.eq (hq:pr7 p) (hφ:RowF p n φ) (hA:Sq p n A):φ A % p=dt n A*φ (idm n) % p:=by
 have h2:=hq.ok.1;have hD:=zBN (p:=p) (n:=n) (by omega)
 rcases zGy hq hA with ⟨⟨k,e,hk,hr⟩,_⟩|⟨h,_⟩
 ·have h1:=hr φ hφ
  have h3:=hr _ hD;rw [Qj]at h3
  rw [Int.mul_emod,h1,←Int.mul_emod,show dt n A*(k*φ A)=k*dt n A*φ A by grind,Int.mul_emod,←h3,←Int.mul_emod,Int.one_mul]
 ·rw [h φ hφ,Int.mul_emod,h _ hD];simp
theorem zGp (hp:0<p) (hB:Ma p n B) {v:List Int} (hv:v.length=B.length) (k:Int):vt p n (scl p k v) B=scl p k (vt p n v B):=by
 have hs:(scl p k v).length=B.length:=by rw [qR];exact hv
 have h1:=vt_ve hp hB hs;have h2:=vt_ve hp hB hv;refine h1.ext (zAf hp h2) fun j hj=>?_
 rw [vt_at hp hB hs hj,qE,vt_at hp hB hv hj,Qf,Int.mul_comm,←qo];exact Zr hp fun i hi=>by rw [qE,Qf];congr 1;grind
theorem zDi (hp:0<p) (hB:Ma p n B) {v w:List Int} (hv:v.length=B.length) (hw:w.length=B.length) (k:Int):vt p n (vstep p k v w) B=vstep p k (vt p n v B) (vt p n w B):=by
 have hs:(vstep p k v w).length=B.length:=by rw [zP (by omega)];exact hw
 have h1:=vt_ve hp hB hs;have h2:=vt_ve hp hB hv;have h3:=vt_ve hp hB hw;refine h1.ext (QU hp h2 h3) fun j hj=>?_
 rw [vt_at hp hB hs hj,zi (by rw [h2.len,h3.len]) (by rw [h3.len];exact hj),vt_at hp hB hv hj,vt_at hp hB hw hj]
 have e1:(((sumN B.length fun i=>at_ w i*at_ (row B i) j) % p)+k*((sumN B.length fun i=>at_ v i*at_ (row B i) j) % p)) % p=(sumN B.length fun i=>at_ w i*at_ (row B i) j+k*(at_ v i*at_ (row B i) j)) % p:=by
  rw [Int.add_emod,Int.emod_emod,zCT,←Int.add_emod,←qo,←ZY]
 rw [e1];exact Zr hp fun i hi=>by rw [zi (by omega) (by omega),Qf];congr 1;grind
theorem Z7 {i:Nat}:mm p n (A.set i x) B=(mm p n A B).set i (vt p n x B):=by unfold mm;rw [List.map_set]
theorem mm_sq (hp:0<p) (hA:Sq p n A) (hB:Sq p n B):Sq p n (mm p n A B):=⟨by rw [zt];exact hA.1,mm_ma hp (by rw [hB.1];exact hA.2) hB.2⟩
theorem zCa (hp:1<p) (n:Nat):Sq p n (idm n):=⟨zV n,zCb hp n⟩
theorem dt_mm (hq:pr7 p) (hA:Sq p n A) (hB:Sq p n B):dt n (mm p n A B) % p=dt n A*dt n B % p:=by
 have h2:=hq.ok.1;have hp:0<p:=by omega
 have hD:=zBN (p:=p) (n:=n) hp;have hφ:RowF p n fun A=>dt n (mm p n A B):=by
  refine⟨fun A hA i j hij hj=>?_,fun A hA i k hi=>?_,fun A hA i j k hi hj hne=>?_⟩
  ·have h:=hD.sw _ (mm_sq hp hA hB) i j hij hj
   rw [ZT (by rw [hA.1];omega),ZT (by rw [hA.1];omega)]at h
   show dt n (mm p n _ B) % p=_;rw [Z7,Z7];exact h
  ·have h:=hD.sc _ (mm_sq hp hA hB) i k hi
   rw [ZT (by rw [hA.1];omega),←zGp hp hB.2 (by rw [(za hA hi).len,hB.1])]at h
   show dt n (mm p n _ B) % p=_;rw [Z7];exact h
  ·have h:=hD.ad _ (mm_sq hp hA hB) i j k hi hj hne
   rw [ZT (by rw [hA.1];omega),ZT (by rw [hA.1];omega),←zDi hp hB.2 (by rw [(za hA hj).len,hB.1]) (by rw [(za hA hi).len,hB.1])]at h
   show dt n (mm p n _ B) % p=_;rw [Z7];exact h
 have h:=hφ.eq hq hA;have e:mm p n (idm n) B=B:=by have:=zC2 (p:=p) (A:=B) (by omega) hB.2;rwa [hB.1]at this
 rw [e]at h
 exact h
theorem zKA (hp:0<p) (hA:Ma p B.length A) (hB:Ma p n B):trm n (mm p n A B)=mm p A.length (trm n B) (trm B.length A):=by
 have h1:=mm_ma hp hA hB;have hT:=zAd hp h1;have hTA:=zAd hp hA;have hTB:=zAd hp hB;rw [zt]at hT
 refine List.ext_getElem (by rw [zb,zt,zb]) fun j h1' h2'=>?_
 have hj:j<n:=by rw [zb]at h1';exact h1'
 rw [←zG h1',←zG h2',ZT (by rw [zb];exact hj)]
 have hrl:(row (trm n B) j).length=(trm B.length A).length:=by rw [zb,zFV hj];simp
 refine(hT.row (by rw [zb];exact hj)).ext (vt_ve hp hTA hrl) fun i hi=>?_
 rw [QX (by rw [zt];exact hi) hj,ZT hi,vt_at hp hB (hA.row hi).len hj,vt_at hp hTA hrl hi,zb]
 congr 1
 exact qK fun k hk=>by rw [QX hk hj,QX hi hk,Int.mul_comm]
theorem zAA (hp:0<p) (hA:Sq p n A):Sq p n (trm n A):=⟨zb,by have:=zAd hp hA.2;rwa [hA.1]at this⟩
theorem ZU {i j:Nat} (hi:i<n):at_ (row (idm n) i) j=if j=i then 1 else 0:=by rw [qW hi,uv_at hi]
theorem zJP (hp:1<p):trm n (idm n)=idm n:=QY (p:=p) (zAA (by omega) (zCa hp n)) (zCa hp n) fun i j hi hj=>by
 rw [QX (by rw [zV];exact hj) hi,ZU hj,ZU hi]
 by_cases h:i=j
 ·rw [if_pos h,if_pos h.symm]
 ·rw [if_neg h,if_neg (Ne.symm h)]
theorem zKd (hq:pr7 p) (hA:Sq p n A):dt n (trm n A) % p=dt n A % p:=by
 have h2:=hq.ok.1;have hp:0<p:=by omega
 have hp1:1<p:=by omega
 have hD:=zBN (p:=p) (n:=n) hp;have hI:=zCa hp1 n;have hIl:=zV n
 -- a row operation is a product
 have op:∀{A E:List (List Int)},Sq p n A→Sq p n E→dt n (trm n (mm p n E A)) % p=dt n (trm n A)*dt n (trm n E) % p:=fun {A E} hA hE=>by
  rw [zKA hp (by rw [hA.1];exact hE.2) hA.2,hE.1,hA.1]
  exact dt_mm hq (zAA hp hA) (zAA hp hE)
 have im:∀{A:List (List Int)},Sq p n A→mm p n (idm n) A=A:=fun {A} hA=>by have:=zC2 (p:=p) (A:=A) hp1 hA.2;rwa [hA.1]at this
 have uvm:∀{A:List (List Int)} {i:Nat},Sq p n A→i<n→vt p n (uv n i) A=row A i:=fun {A i} hA hi=>by have:=vt_uv (p:=p) hp1 hA.2 (i:=i) (by rw [hA.1];exact hi);rwa [hA.1]at this
 have hu:∀{i},i<n→Ve p n (uv n i):=fun hi=>uv_ve hp1 hi
 have hφ:RowF p n fun A=>dt n (trm n A):=by
  refine⟨fun A hA i j hij hj=>?_,fun A hA i k hi=>?_,fun A hA i j k hi hj hne=>?_⟩
  ·have hE:Sq p n (((idm n).set i (uv n j)).set j (uv n i)):=qf (qf hI (hu hj) _) (hu (by omega)) _
   have h:=op hA hE;rw [Z7,Z7,im hA,uvm hA hj,uvm hA (by omega)]at h
   have re:∀r,r<n→row (((idm n).set i (uv n j)).set j (uv n i)) r=uv n (if r=j then i else if r=i then j else r):=fun r hr=>by
    rw [ze (by rw [List.length_set];omega),ze (by omega)]
    split
    ·rfl
    ·split
     ·rfl
     ·exact qW hr
   have e:trm n (((idm n).set i (uv n j)).set j (uv n i))=((idm n).set i (uv n j)).set j (uv n i):=QY (zAA hp hE) hE fun r s hr hs=>by
    rw [QX (by rw [hE.1];exact hs) hr,re s hs,re r hr,uv_at (by(repeat' split)<;>omega),uv_at (by(repeat' split)<;>omega)]
    (repeat' split)<;>omega
   have h5:=hD.sw _ hI i j hij hj;rw [qW hj,qW (by omega)]at h5
   show dt n (trm n _) % p=_;rw [h,e,Int.mul_emod,h5,←Int.mul_emod,Int.mul_neg,Int.neg_emod_eq_sub_emod,Int.neg_emod_eq_sub_emod];rw [Int.sub_emod,Int.mul_emod,Qj,←Int.mul_emod,Int.mul_one,←Int.sub_emod]
  ·have hE:Sq p n ((idm n).set i (scl p k (uv n i))):=qf hI (zAf hp (hu hi)) _
   have h:=op hA hE;rw [Z7,im hA,zGp hp hA.2 (by rw [(hu hi).len,hA.1]),uvm hA hi]at h
   have e:trm n ((idm n).set i (scl p k (uv n i)))=(idm n).set i (scl p k (uv n i)):=QY (zAA hp hE) hE fun r s hr hs=>by
    rw [QX (by rw [hE.1];exact hs) hr,ze (by omega),ze (by omega)]
    by_cases h1:s=i
    ·by_cases h2:r=i
     ·rw [if_pos h1,if_pos h2,h1,h2]
     ·rw [if_pos h1,if_neg h2,qE,uv_at hi,if_neg h2,ZU hr,if_neg (by omega)];simp
    ·by_cases h2:r=i
     ·rw [if_neg h1,if_pos h2,qE,uv_at hi,if_neg h1,ZU hs,if_neg (by omega)];simp
     ·rw [if_neg h1,if_neg h2,ZU hs,ZU hr]
      by_cases h:r=s
      ·rw [if_pos h,if_pos h.symm]
      ·rw [if_neg h,if_neg (Ne.symm h)]
   have h5:=hD.sc _ hI i k hi;rw [qW hi]at h5
   show dt n (trm n _) % p=_;rw [h,e,Int.mul_emod,h5,←Int.mul_emod,←Int.mul_assoc,Int.mul_emod,Qj,←Int.mul_emod,Int.mul_one,Int.mul_comm]
  ·have hE:Sq p n ((idm n).set i (vstep p k (uv n j) (uv n i))):=qf hI (QU hp (hu hj) (hu hi)) _
   have hE':Sq p n ((idm n).set j (vstep p k (uv n i) (uv n j))):=qf hI (QU hp (hu hi) (hu hj)) _;have h:=op hA hE;rw [Z7,im hA,zDi hp hA.2 (by rw [(hu hj).len,hA.1]) (by rw [(hu hi).len,hA.1]),uvm hA hi,uvm hA hj]at h
   have vat:∀{a b c:Nat},a<n→b<n→c<n→at_ (vstep p k (uv n a) (uv n b)) c=((if c=b then 1 else 0)+k*if c=a then 1 else 0) % p:=fun {a b c} ha hb hc=>by
    rw [zi (by rw [(hu ha).len,(hu hb).len]) (by rw [(hu hb).len];exact hc),uv_at ha,uv_at hb]
   have m0:(0:Int) % p=0:=by simp
   have m1:(1:Int) % p=1:=Int.emod_eq_of_lt (by omega) (by omega)
   have e:trm n ((idm n).set i (vstep p k (uv n j) (uv n i)))=(idm n).set j (vstep p k (uv n i) (uv n j)):=QY (zAA hp hE) hE' fun r s hr hs=>by
    rw [QX (by rw [hE.1];exact hs) hr,ze (by omega),ze (by omega)]
    by_cases h1:s=i
    ·rw [if_pos h1,vat hj hi hr]
     by_cases h2:r=j
     ·rw [if_pos h2,if_pos h2,vat hi hj hs,if_neg (by omega),if_neg (by omega),if_pos h1]
     ·rw [if_neg h2,if_neg h2,ZU hr,Int.mul_zero,Int.add_zero]
      by_cases h:r=i
      ·rw [if_pos h,if_pos (by omega),m1]
      ·rw [if_neg h,if_neg (by omega),m0]
    ·rw [if_neg h1,ZU hs]
     by_cases h2:r=j
     ·rw [if_pos h2,vat hi hj hs,if_neg h1,Int.mul_zero,Int.add_zero]
      by_cases h:r=s
      ·rw [if_pos h,if_pos (by omega),m1]
      ·rw [if_neg h,if_neg (by omega),m0]
     ·rw [if_neg h2,ZU hr]
      by_cases h:r=s
      ·rw [if_pos h,if_pos h.symm]
      ·rw [if_neg h,if_neg (Ne.symm h)]
   have h5:=hD.ad _ hI j i k hj hi (Ne.symm hne);rw [qW hi,qW hj]at h5
   show dt n (trm n _) % p=_;rw [h,e,Int.mul_emod,h5,Qj,←Int.mul_emod,Int.mul_one]
 have h:=hφ.eq hq hA;rw [zJP hp1,Int.mul_emod,Qj,←Int.mul_emod,Int.mul_one]at h
 exact h
theorem zFj (hq:pr7 p) (hA:Sq p n A) {u:List (List Int)} (c:Canon p n (W0 n) A u):dt n A % p=0↔u.length<n:=by
 have h2:=hq.ok.1;have hD:=zBN (p:=p) (n:=n) (by omega)
 rcases zGy hq hA with ⟨⟨k,e,hk,hr⟩,hu⟩|⟨h,h'⟩
 ·have h3:=hr _ hD
  rw [Qj]at h3
  constructor
  ·intro h0
   rw [Int.mul_emod,h0]at h3
   have:(1:Int) % p=1:=Int.emod_eq_of_lt (by omega) (by omega)
   simp [this]at h3
  ·intro hlt
   have:=hu u c
   omega
 ·exact⟨fun _=>h' u c,fun _=>h _ hD⟩
end Go.Lie
namespace Go.Proofs
open Go.Ab Go.Lie
variable {σ σ0 σ1:PHeap} {K:PV→PHeap→Prop} {vC:PV} {bs:List Int} {s:Nat} {a sd:Int}
def FB (v:PV) (bs:List Int):Prop:=∃w a,v=.fz w a bs.length (bs.map (.int .u8))
structure Byt (bs:List Int):Prop where
 len:bs.length≤1048576
 bd:∀b∈bs,0≤b∧b≤255
abbrev srcC (vC:PV) (a:Nat) (sd:Int):List PV:=[vC,.int .i64 (a:Int),.int .i64 sd]
structure Src (σ:PHeap) (s:Nat) (vC:PV) (bs:List Int) (a:Nat) (sd:Int):Prop where
 obj:σ.obj s=some (srcC vC a sd)
 lt:s<σ.next
 fb:FB vC bs
 byt:Byt bs
 le:a≤bs.length
 sd:0≤sd∧sd<2147483647
theorem FB.one {v:PV} (h:FB v bs):v.one=true:=by obtain⟨w,a,rfl⟩:=h;rfl
theorem FB.cells {v:PV} (h:FB v bs):v.cells=[v]:=by obtain⟨w,a,rfl⟩:=h;rfl
theorem FB.bel {v:PV} (h:FB v bs) (n:Nat):Bel n v:=by obtain⟨w,a,rfl⟩:=h;trivial
theorem FB.bels {v:PV} (h:FB v bs) (n a:Nat) (sd:Int):Bels n (srcC v a sd):=⟨h.bel n,trivial,trivial,trivial⟩
theorem Gh.setS {v:PV} {s:Nat} {c0 c1:List PV} (h0:σ0.obj s=some c0) (hb:Bels 0 c1) (k:Gh (σ0.set s c1) K v σ1):Gh σ0 K v σ1:=fun w ι Z h b r hv h1 h2 h3 h4=>by
 have hs:s<σ0.next:=w.lt h0;have w':PWF (σ0.set s c1):=by
  refine⟨fun t ht=>?_,fun t cs ht=>?_⟩
  ·have ht':σ0.next≤t:=ht
   rw [zJ,if_neg (by omega)]
   exact w.wf t ht'
  ·rw [zJ]at ht
   split at ht
   ·cases ht
    exact Bels.up (Nat.zero_le _) hb
   ·exact w.bel t cs ht
 obtain⟨v2,σ2,ι2,Z2,g1,g2,g3,g4,g5,g6,g7,g8,g9⟩:=k w' ι Z h b r hv h1 h2 h3 (fun t ht hn=>by
  rw [zJ]at hn
  split at hn
  ·cases hn
  ·exact h4 t ht hn)
 refine⟨v2,σ2,ι2,Z2,g1,g2,g3,g4,g5,g6,fun t ht hn=>g7 t ht ?_,g8,g9⟩
 rw [zJ,if_neg (by rintro rfl;rw [h0]at hn;cases hn)]
 exact hn
theorem Src.set {σ:PHeap} {a a':Nat} {sd sd':Int} (h:Src σ s vC bs a sd) (ha:a'≤bs.length) (hs:0≤sd'∧sd'<2147483647):Src (σ.set s (srcC vC a' sd')) s vC bs a' sd':=
 ⟨by rw [zJ,if_pos rfl],h.lt,h.fb,h.byt,ha,hs⟩
theorem Src.keep {σ σ':PHeap} {a:Nat} {sd:Int} (h:Src σ s vC bs a sd) (k:Keep σ σ'):Src σ' s vC bs a sd:=
 ⟨by rw [k.obj s h.lt];exact h.obj,Nat.lt_of_lt_of_le h.lt k.next,h.fb,h.byt,h.le,h.sd⟩
theorem Src.q {σ:PHeap} {a:Nat} {sd:Int} (h:Src σ s vC bs a sd):σ.rd1 s 0=some vC∧σ.rd1 s 1=some (.int .i64 a)∧σ.rd1 s 2=some (.int .i64 sd):=by
 refine⟨?_,?_,?_⟩<;>(rw [zK h.obj];rfl)
theorem Src.w1 {σ:PHeap} {a:Nat} {sd x:Int} (h:Src σ s vC bs a sd):σ.wr s 1 [.int .i64 x]=some (σ.set s [vC,.int .i64 x,.int .i64 sd]):=by
 rw [q8 h.obj,if_pos ⟨by simp,rfl⟩];rfl
theorem Src.w2 {σ:PHeap} {a:Nat} {sd x:Int} (h:Src σ s vC bs a sd):σ.wr s 2 [.int .i64 x]=some (σ.set s (srcC vC a x)):=by
 rw [q8 h.obj,if_pos ⟨by simp,rfl⟩];rfl
theorem zC9 (σ:PHeap) (s:Nat) (x y:List PV):(σ.set s x).set s y=σ.set s y:=by
 simp only [PHeap.set]
 congr 1
 funext t
 split<;>rfl
theorem zAe (σ:PHeap) (x y:List PV):(σ.new x).set σ.next y=σ.new y:=by
 simp only [PHeap.new,PHeap.set]
 congr 1
 funext t
 split<;>rfl
theorem zH4 {j:Nat} (hB:Byt bs) (hj:j<bs.length):(bs.map (PV.int .u8))[j]? = some (.int .u8 (bs.getD j 0))∧0≤bs.getD j 0∧bs.getD j 0≤255:=by
 have e:bs.getD j 0=bs[j]:=by simp [List.getD_eq_getElem?_getD,List.getElem?_eq_getElem hj]
 rw [e];exact⟨by rw [List.getElem?_map,List.getElem?_eq_getElem hj];rfl,hB.bd _ (List.getElem_mem hj)⟩
def Nx (n x:Int):Prop:=0≤x∧(n≤1→x=0)∧(1<n→x<n)
theorem Nx.lt {n x:Int} (h:Nx n x) (hn:1≤n):x<n:=by
 obtain⟨h0,h1,h2⟩:=h;rcases Int.lt_or_le 1 n with g|g
 ·exact h2 g
 ·have:=h1 g;omega
theorem zHf {n x:Int} (hn:1<n) (hx:0≤x):Nx n (x.tmod n):=by
 rw [Int.tmod_eq_emod_of_nonneg hx];have h1:=Int.emod_nonneg x (show n≠0 by omega)
 have h2:=Int.emod_lt_of_pos x (show 0<n by omega)
 exact⟨h1,fun h=>by omega,fun _=>h2⟩
theorem zGW (hb:FB vC bs) (hB:Byt bs) (hk:∀sd,0≤sd∧sd<2147483647→K (.ptr σ.next 0) (σ.new (srcC vC 0 sd))):zB Try.prog 40 [vC] σ K:=by
 obtain⟨w,av,rfl⟩:=hb;have hl:=hB.len;refine zC mix Try.func40 ?_
 conv=>arg 2;cbv
 refine zF rfl ?_;simp only [pwA,seval,-iQ0];generalize hC:(PV.fz w av bs.length (bs.map (.int .u8)))=vC at *
 refine zM (fun m vs h'=>∃(i:Nat) (sd:Int),i≤bs.length∧m=bs.length-i∧vs=[vC,.ptr σ.next 0,.int .i64 i]∧σ.new (srcC vC 0 sd)=h'∧0≤sd∧sd<2147483647) bs.length ?_ ?_
 ·exact⟨0,76001,by omega,by omega,rfl,rfl,by omega,by omega⟩
 rintro m vs h' ⟨i,sd,hi,rfl,rfl,rfl,h0,h1⟩
 have hlen:pLen vC=some (.int .i64 bs.length):=by rw [←hC];rfl
 have wi1:IntKind.i64.wrap ((i:Int)+1)=((i+1:Nat):Int):=by rw [wrap64 (by omega) (by omega)];omega
 have out:K (.ptr σ.next 0) (σ.new (srcC vC 0 sd)):=hk sd ⟨h0,h1⟩;simp only [pwA,seval,-iQ0,hlen]
 by_cases hlt:i<bs.length
 rotate_left
 ·simp only [pwA,seval,-iQ0,hlt,decide_false]
  exact out
 obtain⟨b1,b2,b3⟩:=zH4 hB hlt
 by_cases h64:i<64
 rotate_left
 ·have h64':¬(i:Int)<64:=by omega
  simp only [pwA,seval,-iQ0,hlt,h64',decide_true,decide_false];exact out
 have h64':(i:Int)<64:=by omega
 generalize bs.getD i 0=b at b1 b2 b3
 have e1:IntKind.i64.wrap (sd*71)=sd*71:=wrap64 (by omega) (by omega)
 have e2:IntKind.i64.wrap b=b:=wrap64 (by omega) (by omega)
 have e3:IntKind.i64.wrap (sd*71+b)=sd*71+b:=wrap64 (by omega) (by omega)
 have e4:(sd*71+b).tmod 2147483647=(sd*71+b) % 2147483647:=Int.tmod_eq_emod_of_nonneg (by omega)
 subst hC;simp only [pwA,seval,-iQ0,hlt,h64',decide_true,b1,e1,e2,e3,e4,wi1];exact⟨_,by omega,i+1,_,by omega,rfl,rfl,rfl,by omega,by omega⟩
theorem zGV {a:Nat} {sd n:Int} (S:Src σ s vC bs a sd) (hn:n≤4611686018427387904) (hk:∀x a' sd',Nx n x→a'≤bs.length→0≤sd'∧sd'<2147483647→K (.int .i64 x) (σ.set s (srcC vC a' sd'))):zB Try.prog 42 [.ptr s 0,.int .i64 n] σ K:=by
 have hl:=S.byt.len;have hsd:=S.sd;have ha:=S.le;obtain⟨w,av,rfl⟩:=S.fb;obtain⟨q0,q1,q2⟩:=S.q;have e1:IntKind.i64.wrap (sd*48271)=sd*48271:=wrap64 (by omega) (by omega)
 have e2:IntKind.i64.wrap (sd*48271+71)=sd*48271+71:=wrap64 (by omega) (by omega)
 have e4:(sd*48271+71).tmod 2147483647=(sd*48271+71) % 2147483647:=Int.tmod_eq_emod_of_nonneg (by omega)
 refine zC mix Try.func42 ?_
 conv=>arg 2;cbv
 refine zF rfl ?_;simp only [pwA,seval,-iQ0,q2,e1,e2,e4,S.w2];refine iteI (fun hlt=>?_) fun hge=>?_
 ·have:=hk 0 a sd ⟨Int.le_refl _,fun _=>rfl,fun h=>by omega⟩ ha hsd
  rw [QZ S.obj]at this
  exact this
 have hsd1:0≤(sd*48271+71) % 2147483647∧(sd*48271+71) % 2147483647<2147483647:=by omega
 generalize (sd*48271+71) % 2147483647=sd1 at *
 have S1:=S.set (sd':=sd1) ha hsd1;obtain⟨p0,p1,p2⟩:=S1.q;obtain⟨x0,e5,hx0⟩:∃x0,IntKind.i64.wrap (sd1.tdiv 47)=x0∧0≤x0∧x0≤2147483647:=by
  have d1:sd1.tdiv 47=sd1 / 47:=Int.tdiv_eq_ediv_of_nonneg (by omega)
  exact⟨sd1 / 47,by rw [d1];exact wrap64 (by omega) (by omega),by omega,by omega⟩
 have hn0:n≠0:=by omega
 generalize hs1:σ.set s (srcC (PV.fz w av bs.length (bs.map (.int .u8))) a sd1)=σ1 at *
 have hT:∀(a':Nat) (sd':Int),σ1.set s (srcC (PV.fz w av bs.length (bs.map (.int .u8))) a' sd')=σ.set s (srcC (PV.fz w av bs.length (bs.map (.int .u8))) a' sd'):=fun a' sd'=>by rw [←hs1];exact zC9 _ _ _ _
 simp only [pwA,seval,-iQ0,p0,p1,p2,e5]
 by_cases hlt':a<bs.length
 rotate_left
 ·simp only [pwA,seval,-iQ0,hlt',decide_false]
  have:=hk _ a sd1 (zHf (by omega) hx0.1) ha hsd1
  rw [hs1]at this
  simp only [pwA,seval,-iQ0,hn0,e5];exact this
 obtain⟨b1,b2,b3⟩:=zH4 S.byt hlt';generalize bs.getD a 0=b at b1 b2 b3
 have e6:IntKind.i64.wrap b=b:=wrap64 (by omega) (by omega)
 have e7:IntKind.i64.wrap (x0+b)=x0+b:=wrap64 (by omega) (by omega)
 have wi1:IntKind.i64.wrap ((a:Int)+1)=((a+1:Nat):Int):=by rw [wrap64 (by omega) (by omega)];omega
 simp only [pwA,seval,-iQ0,hlt',decide_true,p0,p1,b1,e5,e6,e7,S1.w1,wi1];have Sb:=S1.set (a':=a+1) (sd':=sd1) (by omega) hsd1
 obtain⟨r0,r1,r2⟩:=Sb.q;generalize hs2:σ1.set s (srcC (PV.fz w av bs.length (bs.map (.int .u8))) (a+1) sd1)=σ2 at *
 have tm:((a+1:Nat):Int).tmod 2=((a+1:Nat):Int) % 2:=Int.tmod_eq_emod_of_nonneg (by omega)
 have wi2:IntKind.i64.wrap (((a+1:Nat):Int)-1)=(a:Int):=by rw [wrap64 (by omega) (by omega)];omega
 have fin:∀x:Int,0≤x→K (.int .i64 (x.tmod n)) σ2:=fun x hx=>by
  have:=hk _ (a+1) sd1 (zHf (by omega) hx) (by omega) hsd1
  rw [←hs2,hT];exact this
 by_cases hn256:n≤256
 rotate_left
 ·simp only [pwA,seval,-iQ0,hn256,decide_false,hn0,e5,e6,e7]
  exact fin _ (by omega)
 by_cases hev:((a+1:Nat):Int) % 2=0
 rotate_left
 ·simp only [pwA,seval,-iQ0,hn256,decide_true,r1,tm,hev,decide_false,hn0,e5,e6,e7]
  exact fin _ (by omega)
 simp only [pwA,seval,-iQ0,hn256,decide_true,r0,r1,tm,hev,wi2,hlt',b1,hn0,e5,e6,e7];exact fin _ (by omega)
end Go.Proofs
namespace Go.Lie
open Go.Ab Go.Mx
variable {p:Int} {n c t:Nat} {A M R R' u w:List (List Int)} {x:List Int}
def tr (c:Nat) (R:List (List Int)):Mf:=fun i j=>at_ (row R (c+i)) (c+j)
theorem zGv {i:Nat} (hi:c+i<R.length):tr c (R.set (c+i) x)=upd (tr c R) i fun j=>at_ x (c+j):=by
 funext r j
 unfold tr upd;rw [ze hi]
 by_cases h:r=i
 ·rw [if_pos h,if_pos (by omega)]
 ·rw [if_neg h,if_neg (by omega)]
theorem zJB (hR:R.length=n) (hct:c<t) (ht:t<n):Dt (n-c) (tr c ((R.set c (row R t)).set t (row R c)))=-Dt (n-c) (tr c R):=by
 obtain⟨d,rfl⟩:∃d,t=c+(d+1):=⟨t-c-1,by omega⟩
 have e1:tr c (R.set c (row R (c+(d+1))))=upd (tr c R) 0 (tr c R (d+1)):=zGv (c:=c) (i:=0) (by omega)
 have hs:=zBQ (n-c) d (tr c R) 0 (by omega) (tr c R (d+1)) (tr c R 0)
 rw [zGv (by rw [List.length_set];omega),e1]
 rw [Nat.zero_add]at hs
 have e2:(fun j=>at_ (row R c) (c+j))=tr c R 0:=rfl
 rw [e2,hs,ZG,ZG]
theorem zJC (hc:c<n) (h:∀k,c≤k→k<n→at_ (row R k) c=0):Dt (n-c) (tr c R)=0:=by
 rw [show n-c=(n-c-1)+1 by omega]
 exact zJ5 _ _ fun i hi=>h (c+i) (by omega) (by omega)
theorem zDN {k:Nat→Int} (hR:Sq p n R) (hc:c<n) (h0:row R' c=row R c) (h1:∀i,c<i→i<n→row R' i=vstep p (k i) (row R c) (row R i)) (h2:∀i,c<i→i<n→at_ (row R' i) c=0):
  Dt (n-c) (tr c R) % p=at_ (row R c) c*Dt (n-(c+1)) (tr (c+1) R') % p:=by
 let a:Nat→Mf:=fun m i j=>if i<m then tr c R' i j else tr c R i j
 have hl:=fun i (hi:i<n)=>(za hR hi).len
 have step:∀m,m≤n-c→Dt (n-c) (a m) % p=Dt (n-c) (tr c R) % p:=by
  intro m
  induction m with
  | zero=>intro _;congr 2
  | succ m ih=>
   intro hm;rw [←ih (by omega)]
   by_cases hm0:m=0
   ·subst hm0
    refine Qm _ fun i j hi hj=>?_
    show(if i<1 then _ else _) % p=(if i<0 then _ else _) % p
    by_cases h:i<1
    ·rw [if_pos h,if_neg (by omega),show i=0 by omega]
     show at_ (row R' (c+0)) _ % p=at_ (row R (c+0)) _ % p;rw [Nat.add_zero,h0]
    ·rw [if_neg h,if_neg (by omega)]
   ·have e:=zFq (n-c) (a m) (r:=m) (s:=0) (by omega) (by omega) hm0 (k (c+m))
    rw [←e];refine Qm _ fun i j hi hj=>?_
    show(if i<m+1 then _ else _) % p=(if i=m then _ else(if i<m then _ else _)) % p
    by_cases h:i=m
    ·subst h
     rw [if_pos (by omega),if_pos rfl]
     show tr c R' i j % p=((if i<i then _ else _)+k (c+i)*if 0<i then _ else _) % p
     rw [if_neg (by omega),if_pos (by omega)]
     show at_ (row R' (c+i)) (c+j) % p=(at_ (row R (c+i)) (c+j)+k (c+i)*at_ (row R' (c+0)) (c+j)) % p;rw [h1 (c+i) (by omega) (by omega),zi (by rw [hl _ hc,hl _ (by omega)]) (by rw [hl _ (by omega)];omega),Int.emod_emod,Nat.add_zero,h0]
    ·rw [if_neg h]
     by_cases h':i<m
     ·rw [if_pos (by omega),if_pos h']
     ·rw [if_neg (by omega),if_neg h']
 have h3:=step (n-c) (Nat.le_refl _);have e1:Dt (n-c) (a (n-c)) % p=Dt (n-c) (tr c R') % p:=Qm _ fun i j hi hj=>by
  show(if i<n-c then _ else _) % p=_
  rw [if_pos hi]
 rw [←h3,e1,show n-c=(n-(c+1))+1 by omega,zB6 _ _ fun i hi0 hi=>h2 (c+i) (by omega) (by omega)]
 have e2:tr c R' 0 0=at_ (row R c) c:=by show at_ (row R' (c+0)) (c+0)=_;rw [Nat.add_zero,h0]
 have e3:(fun r s=>tr c R' (r+1) (s+1))=tr (c+1) R':=by
  funext r s
  show at_ (row R' (c+(r+1))) (c+(s+1))=at_ (row R' (c+1+r)) (c+1+s);rw [show c+(r+1)=c+1+r by omega,show c+(s+1)=c+1+s by omega]
 rw [e2,e3]
def Fll (n:Nat) (u:List (List Int)):Prop:=∀i,i<n→dep (row u i)=i
theorem zFn (ha:Asc u) {i:Nat} (hi:i<u.length):i≤dep (row u i):=by
 induction i with
 | zero=>omega
 | succ i ih=>
  have h1:=ih (by omega)
  have h2:=(List.pairwise_iff_getElem.1 ha) i (i+1) (by omega) hi (by omega)
  rw [zG (by omega)]at h1
  rw [zG hi];omega
theorem zI5 (hu:Canon p (n+n) (W0 (n+n)) w u) (hl:u.length=n):Fll n u↔∀i,i<n→at_ (row u i) i=1:=by
 have hr:∀i,i<n→row u i∈u:=fun i hi=>by rw [zG (by omega)];exact List.getElem_mem _
 constructor
 ·intro h i hi
  have:=(hu.base.led _ (hr i hi)).2.2
  rwa [h i hi]at this
 ·intro h i hi
  have h1:=zFn hu.base.asc (i:=i) (by omega)
  rcases Nat.lt_or_ge i (dep (row u i))with g|g
  ·have:=zX g
   rw [h i hi]at this
   omega
  ·omega
theorem zDK (hq:pr7 p) (hA:Sq p n A) (c:Canon p (n+A.length) (W0 (n+A.length)) (wd A) u) (c':Canon p n (W0 n) A w):Fll n u↔w.length=n:=by
 have hl:=zAa hq hA.2 c;have hr:=zIH hq hA.2 c c';have hAn:=hA.1;have hrow:∀i,i<n→row u i∈u:=fun i hi=>by rw [zG (by omega)];exact List.getElem_mem _
 rw [←hr];constructor
 ·intro h
  have:top n u=u:=List.filter_eq_self.2 fun v hv=>by
   obtain⟨i,hi,rfl⟩:=List.mem_iff_getElem.1 hv
   have:=h i (by omega)
   rw [zG hi]at this
   rw [this];exact decide_eq_true (by omega)
  rw [this];omega
 ·intro h i hi
  have ht:top n u=u:=by
   have:(top n u).Sublist u:=List.filter_sublist
   exact this.eq_of_length (by omega)
  have hlt:∀j,j<n→dep (row u j)<n:=fun j hj=>by
   have h9:row u j∈top n u:=by rw [ht];exact hrow j hj
   exact(ZB.1 h9).2
  have h1:=zFn c.base.asc (i:=i) (by omega)
  -- from the other end
  have h2:∀d j,j+d+1=n→dep (row u j)≤j:=by
   intro d
   induction d with
   | zero=>intro j hj;have:=hlt j (by omega);omega
   | succ d ih=>
    intro j hj
    have:=ih (j+1) (by omega)
    have h3:=(List.pairwise_iff_getElem.1 c.base.asc) j (j+1) (by omega) (by omega) (by omega)
    rw [zG (by omega)]at this ⊢
    omega
  have:=h2 (n-1-i) i (by omega)
  omega
theorem zER (hq:pr7 p) (hA:Sq p n A) (c:Canon p (n+A.length) (W0 (n+A.length)) (wd A) u) (h:Fll n u):Sq p n (u.map (List.drop n))∧mm p n (u.map (List.drop n)) A=idm n:=by
 have h2:=hq.ok.1;have hp:0<p:=by omega
 have hl:=zAa hq hA.2 c;have hAn:=hA.1;have hM:Sq p n (u.map (List.drop n)):=⟨by rw [List.length_map];omega,fun r hr=>by
  obtain⟨z,hz,rfl⟩:=List.mem_map.1 hr
  have:=el_ve hp (zC5 (c.base.els z hz))
  rwa [hAn]at this⟩
 refine⟨hM,QY (mm_sq hp hM hA) (zCa (by omega) n) fun i j hi hj=>?_⟩
 have hiu:i<u.length:=by omega
 have hrE:=c.base.led u[i] (List.getElem_mem hiu);obtain⟨k,hk,e⟩:=(zGo hq hA.2 hrE.1).1 ((c.gen _).2 (zW (List.getElem_mem hiu)));have hvl:=(vt_ve hp hA.2 hk.len).len;have hd:u[i].drop n=k:=by rw [e,List.drop_left' hvl]
 have hrow:row (u.map (List.drop n)) i=k:=by rw [zG (by rw [List.length_map];exact hiu),List.getElem_map,hd]
 rw [ZT (by rw [hM.1];exact hi),hrow,ZU hi]
 have e1:at_ (vt p n k A) j=at_ u[i] j:=by rw [e,Zn,hvl,if_pos hj]
 rw [e1];have hdi:=h i hi;rw [zG hiu]at hdi
 split
 ·rename_i hji
  rw [hji]
  have:=hrE.2.2
  rwa [hdi]at this
 ·rename_i hji
  have hju:j<u.length:=by omega
  have hdj:=h j hj;rw [zG hju]at hdj
  have:=c.off (List.getElem_mem hiu) (List.getElem_mem hju) (by rw [hdi,hdj];exact Ne.symm hji)
  rwa [hdj]at this
theorem zHv (hq:pr7 p) (hA:Sq p n A) (hM:Sq p n M) (h:mm p n M A=idm n):mm p n A M=idm n:=by
 have h2:=hq.ok.1;have hp:0<p:=by omega
 obtain⟨w,cw,_⟩:=QD hq (ma_el hM.2);obtain⟨u,cu,_⟩:=QD hq (wd_el hq hM.2)
 -- the rank of M is full
 have hd:dt n M % p≠0:=fun h0=>by
  have e:=dt_mm hq hM hA;rw [h,Qj,Int.mul_emod,h0]at e
  have:(1:Int) % p=1:=Int.emod_eq_of_lt (by omega) (by omega)
  simp [this]at e
 have hw:w.length=n:=by
  have h1:=zFZ hq (ma_el hM.2) cw;rw [hM.1]at h1
  rcases Nat.lt_or_ge w.length n with g|g
  ·exact absurd ((zFj hq hM cw).2 g) hd
  ·omega
 obtain⟨hN,hN2⟩:=zER hq hM cu ((zDK hq hM cu cw).2 hw);generalize u.map (List.drop n)=N at *
 have e1:mm p n N (mm p n M A)=N:=by rw [h];have:=zJu (p:=p) (A:=N) (by omega) hN.2;exact this
 have e2:mm p n N (mm p n M A)=A:=by
  rw [←zIt (p:=p) (B:=M) (C:=A) hp (by rw [hM.1];exact hN.2) (by rw [hA.1];exact hM.2) hA.2,hA.1,hN2]
  have:=zC2 (p:=p) (A:=A) (by omega) hA.2
  rwa [hA.1]at this
 rw [←e2,e1];exact hN2
end Go.Lie
namespace Go.Grp
end Go.Grp
namespace Go.Proofs
open Go.Ab Go.Lie Go.Grp Go.Mx
variable {σ:PHeap} {K:PV→PHeap→Prop} {p d p' d' c:Int} {n n':Nat} {As Bs:List (List (List Int))} {F F':List (List Int)} {vA vB vF vF':PV} {O:List Int} {P:List (List Int)} {C:List (List (List Int))} {vO vP vC:PV} {s s':Nat}
def isMx (p c:Int) (F:List (List Int)):Prop:=isP p∧(0≤c∧c≤8)∧F.length≤8∧Ma p c.toNat F
theorem ZM (sz:SzL F) (hF:FII vF F) (hk:∀t:Bool,(t=true↔isMx p c F)→K (.bool t) σ):zB Try.prog 37 [.agg [.int .i64 p,.int .i64 c,vF]] σ K:=by
 have fl:∀{A:Prop},¬A→((false=true)↔A):=fun h=>⟨fun x=>(by cases x),fun x=>absurd x h⟩
 have h1:=hF.one;have szl:=sz.l
 by_cases hm:isP p∧(0≤c∧c≤8)∧F.length≤8
 ·obtain⟨hp,hc,hl⟩:=hm
  obtain⟨n,rfl⟩:∃n:Nat,c=(n:Int):=⟨c.toNat,by omega⟩
  exact zFS hp (by omega) hl (fun r hr=>sz.r r hr) hF fun t ht=>hk t ⟨fun h=>⟨hp,hc,hl,ht.1 h⟩,fun h=>ht.2 h.2.2.2⟩
 obtain⟨wA,aA,rA,rfl,hrA⟩:=hF;have no:¬isMx p c F:=fun h=>hm ⟨h.1,h.2.1,h.2.2.1⟩
 refine zB.gh ?_;refine zC mix Try.func37 ?_
 conv=>arg 2;cbv
 refine zF rfl ?_;simp only [pwA,seval,-iQ0,h1];refine Zp ?_
 by_cases hp:isP p
 rotate_left
 ·simp only [pwA,seval,-iQ0,hp]
  exact Gh.fin0 (zD σ _) trivial (hk _ (fl no))
 simp only [pwA,seval,-iQ0,hp];refine Qu ?_
 by_cases hc:0≤c∧c≤8
 rotate_left
 ·simp only [pwA,seval,-iQ0,hc]
  exact Gh.fin0 (zD σ _) trivial (hk _ (fl no))
 have hl:(8:Int)<(F.length:Int):=by
  have:¬F.length≤8:=fun h=>hm ⟨hp,hc,h⟩
  omega
 simp only [pwA,seval,-iQ0,hc,hl];exact Gh.fin0 (zD σ _) trivial (hk _ (fl no))
theorem zED (sz:SzL F) (hF:FII vF F) (hk:∀t:Bool,(t=true↔isMx p c F)→K (.bool t) σ):zB Try.prog 36 [.agg [.int .i64 p,.int .i64 c,vF]] σ K:=by
 have fl:∀{A:Prop},¬A→((false=true)↔A):=fun h=>⟨fun x=>(by cases x),fun x=>absurd x h⟩
 have h1:=hF.one;have szl:=sz.l;obtain⟨wA,aA,rA,rfl,hrA⟩:=hF;refine zB.gh ?_;have hkp:=zD σ [.int .i64 p,.int .i64 c,.fz wA aA F.length rA];have no:¬isMx p c F→Gh σ K (.bool false) (σ.new [.int .i64 p,.int .i64 c,.fz wA aA F.length rA]):=fun h=>Gh.fin0 hkp trivial (hk _ (fl h))
 refine zC mix Try.func36 ?_
 conv=>arg 2;cbv
 refine zF rfl ?_;simp only [pwA,seval,-iQ0,h1];refine zFK ?_
 by_cases hp:isP p
 rotate_left
 ·simp only [pwA,seval,-iQ0,hp]
  exact no fun h=>hp h.1
 have hpb:=hp.bd;simp only [pwA,seval,-iQ0,hp];refine zEE ?_
 by_cases hc:0≤c∧c≤8
 rotate_left
 ·simp only [pwA,seval,-iQ0,hc]
  exact no fun h=>hc h.2.1
 by_cases hl:F.length≤8
 rotate_left
 ·have hl':(8:Int)<(F.length:Int):=by omega
  simp only [pwA,seval,-iQ0,hc,hl'];exact no fun h=>hl h.2.2.1
 have hl':¬(8:Int)<(F.length:Int):=by omega
 obtain⟨n,hn⟩:∃n:Nat,c=(n:Int):=⟨c.toNat,by omega⟩
 subst hn;have hcn:((n:Int)).toNat=n:=rfl;simp only [pwA,seval,-iQ0,hc,hl'];refine zM (fun m vs h'=>∃i:Nat,i≤F.length∧m=F.length-i∧vs=[.ptr σ.next 0,.int .i64 i]∧σ.new [.int .i64 p,.int .i64 n,.fz wA aA F.length rA]=h'∧∀r∈F.take i,Ve p n r) F.length ?_ ?_
 ·exact⟨0,by omega,by omega,rfl,rfl,by simp⟩
 rintro m vs h' ⟨i,hi,rfl,rfl,rfl,hall⟩
 simp only [pwA,seval,-iQ0];refine iteI (fun hlt=>?_) fun hge=>?_
 rotate_left
 ·exact Gh.fin0 hkp trivial (hk _ ⟨fun _=>⟨hp,hc,hl,fun r hr=>hall r (by rwa [List.take_of_length_le (by omega)])⟩,fun _=>rfl⟩)
 obtain⟨w4,a4,hr⟩:=hrA.rowI hlt;have hb:=sz.r _ (List.getElem_mem hlt);simp only [pwA,seval,-iQ0,hlt,hr];refine zEB rfl (by omega) (by omega) (by omega) ?_
 by_cases hv:isVec F[i] p (n:Int)
 ·simp only [pwA,seval,-iQ0,hv,wrapS hlt (by omega:F.length≤4611686018427387904)]
  refine⟨_,by omega,i+1,by omega,rfl,rfl,fun r hr=>?_⟩
  rw [List.take_succ_eq_append_getElem hlt,List.mem_append,List.mem_singleton]at hr
  rcases hr with hr|rfl
  ·exact hall r hr
  ·exact(zCB (by omega)).1 hv
 ·simp only [pwA,seval,-iQ0,hv]
  exact no fun h=>hv ((zCB (by omega)).2 (h.2.2.2 _ (List.getElem_mem hlt)))
end Go.Proofs
namespace Go.Proofs
open Go.Ab Go.Lie
variable {σ σ0 σ1 h h':PHeap} {K:PV→PHeap→Prop} {vC:PV} {bs:List Int} {s:Nat}
def So (σ:PHeap) (s:Nat) (vC:PV) (bs:List Int):Prop:=∃a sd,Src σ s vC bs a sd
def Mv (σ:PHeap) (s:Nat) (σ':PHeap):Prop:=∃c0 c1,σ.obj s=some c0∧Bels 0 c1∧σ'=σ.set s c1
def KM (σ:PHeap) (s:Nat) (h:PHeap):Prop:=∃σ',Mv σ s σ'∧Keep σ' h
theorem Mv.next (m:Mv σ s h):h.next=σ.next:=by obtain⟨_,_,_,_,rfl⟩:=m;rfl
theorem Mv.top (m:Mv σ s h):h.top=σ.top:=by obtain⟨_,_,_,_,rfl⟩:=m;rfl
theorem Mv.obj (m:Mv σ s h) {t:Nat} (ht:t≠s):h.obj t=σ.obj t:=by obtain⟨_,_,_,_,rfl⟩:=m;rw [zJ,if_neg ht]
theorem So.lt (k:So σ s vC bs):s<σ.next:=by obtain⟨_,_,k⟩:=k;exact k.lt
theorem So.mv (k:So σ s vC bs) {a:Nat} {sd:Int} (ha:a≤bs.length) (hs:0≤sd∧sd<2147483647):Mv σ s (σ.set s (srcC vC a sd))∧So (σ.set s (srcC vC a sd)) s vC bs:=by
 obtain⟨a0,sd0,k⟩:=k;exact⟨⟨_,_,k.obj,k.fb.bels _ _ _,rfl⟩,a,sd,k.set ha hs⟩
theorem So.mv0 (k:So σ s vC bs):Mv σ s σ:=by
 obtain⟨a0,sd0,k⟩:=k;exact⟨_,_,k.obj,k.fb.bels _ _ _,(QZ k.obj).symm⟩
theorem So.keep (k:So σ s vC bs) (hk:Keep σ h):So h s vC bs:=by
 obtain⟨a0,sd0,k⟩:=k;exact⟨_,_,k.keep hk⟩
theorem So.set (k:So σ s vC bs) {t:Nat} (ht:s≠t) (cs:List PV):So (σ.set t cs) s vC bs:=by
 obtain⟨a0,sd0,k⟩:=k;exact⟨a0,sd0,by rw [zJ,if_neg ht];exact k.obj,k.lt,k.fb,k.byt,k.le,k.sd⟩
theorem KM.keep (k:KM σ s h) (hk:Keep h h'):KM σ s h':=by
 obtain⟨σ',m,q⟩:=k;exact⟨σ',m,q.trans hk⟩
theorem KM.next (k:KM σ s h):σ.next≤h.next:=by
 obtain⟨σ',m,q⟩:=k;rw [←m.next];exact q.next
theorem KM.obj (k:KM σ s h) {t:Nat} (ht:t<σ.next) (hn:t≠s):h.obj t=σ.obj t:=by
 obtain⟨σ',m,q⟩:=k;rw [q.obj t (by rw [m.next];exact ht),m.obj hn]
theorem So.km (k:So σ s vC bs):KM σ s σ:=⟨σ,k.mv0,Keep.refl _⟩
theorem So.kmK (k:So σ s vC bs) (hk:Keep σ h):KM σ s h:=⟨σ,k.mv0,hk⟩
theorem KM.new (k:KM σ s h) (cs:List PV):KM σ s (h.new cs):=k.keep (zD h cs)
theorem KM.set (k:KM σ s h) {t:Nat} (ht:σ.next≤t) (cs:List PV):KM σ s (h.set t cs):=by
 obtain⟨σ',m,q⟩:=k;exact⟨σ',m,q.set (by rw [m.next];exact ht) cs⟩
theorem KM.mv (k:KM σ s h) (hs:s<σ.next) (m':Mv h s h'):KM σ s h':=by
 obtain⟨σ',⟨c0,c1,h0,h1,rfl⟩,q⟩:=k;obtain⟨d0,d1,g0,g1,rfl⟩:=m';refine⟨σ.set s d1,⟨c0,d1,h0,g1,rfl⟩,q.next,q.top,fun t ht=>?_⟩
 rw [zJ,zJ]
 split
 ·rfl
 ·rename_i e
  rw [q.obj t ht,zJ,if_neg e]
theorem KM.trans (k:KM σ s h) (hs:s<σ.next) (k':KM h s h'):KM σ s h':=by
 obtain⟨σ',m,q⟩:=k';exact(k.mv hs m).keep q
theorem Gh.km {v:PV} (k:KM σ s h) (so:So h s vC bs) (hs:s<σ.next) (c:∀σ',Mv σ s σ'→So σ' s vC bs→Keep σ' h→Gh σ' K v h):Gh σ K v h:=by
 obtain⟨σ',m,q⟩:=k;obtain⟨c0,c1,h0,h1,e⟩:=m;obtain⟨a,sd,S⟩:=so;have hs':s<σ'.next:=by rw [e];exact hs
 have so':So σ' s vC bs:=⟨a,sd,by rw [←q.obj s hs'];exact S.obj,hs',S.fb,S.byt,S.le,S.sd⟩
 have:=c σ' ⟨c0,c1,h0,h1,e⟩ so' q
 rw [e]at this
 exact Gh.setS h0 h1 this
theorem qO {n:Int} (so:So σ s vC bs) (hn:n≤4611686018427387904) (hk:∀x h,Nx n x→Mv σ s h→So h s vC bs→K (.int .i64 x) h):zB Try.prog 42 [.ptr s 0,.int .i64 n] σ K:=by
 obtain⟨a,sd,S⟩:=so;refine zGV S hn fun x a' sd' hx ha hs=>?_
 obtain⟨m1,m2⟩:=So.mv ⟨a,sd,S⟩ ha hs;exact hk x _ hx m1 m2
end Go.Proofs
namespace Go.Proofs
open Go.Ab
def if5:IFn:=⟨[0],[(.tmp 2)],(S0 (R0 [0] [tI0 2 false])
 (S0 (.seq (R0 [0,23] [mI0 22 0,C1 23 8 22])
 (.cond (.t 23) (S0 (R0 [2] [tI0 2 true])
 .ret) .skip))
 (S0 (R0 [3] [mI0 24 0,C1 25 22 24,eI 3 (.alloc [(.int .i64 0),(.int .i64 0),.nils]),vI0 3 3 25])
 (S0 (R0 [3,4,5] [LI0 27 3,C1 28 23 27,mI0 26 28,eI0 29 26 0,eI0 30 26 1,eI 4 (.alloc [(.int .i64 0),(.int .i64 0),.nils]),vI0 3 4 29,mI0 5 30])
 (S0 (R0 [3,4,5,6,7] [LI0 32 3,C1 33 24 32,mI0 31 33,eI0 34 31 0,eI0 35 31 1,eI 6 (.alloc [(.int .i64 0),(.int .i64 0),.nils]),vI0 3 6 34,mI0 7 35])
 (S0 (R0 [3,4,5,6,7,8,9] [LI0 37 3,C1 38 25 37,mI0 36 38,eI0 39 36 0,eI0 40 36 1,mI0 8 39,mI0 9 40])
 (S0 (.seq (R0 [3,4,5,8,9,49] [mI0 41 5,mI0 42 7,bI0 43 .neq 41 42,mI0 44 43,G0 45 (.load true 3 (.t 4)) true 44 false,G0 46 (.load true 3 (.t 6)) true 44 false,G0 47 (.call 12 [(.t 45),(.t 46)]) false 44 false,G0 48 (.un .not (.t 47)) true 44 false,oI0 49 44 48])
 (.cond (.t 49) (S0 (R0 [2] [tI0 2 false])
 .ret) .skip))
 (S0 (.seq (R0 [3,4,5,8,9,51] [mI0 50 9,cI0 51 .neq 50 0])
 (.cond (.t 51) (S0 (R0 [2] [mI0 52 5,mI0 53 9,bI0 54 .eql 52 53,mI0 2 54])
 .ret) .skip))
 (S0 (.seq (R0 [3,4,8,59] [mI0 55 8,cI0 56 .eql 55 0,mI0 57 5,cI0 58 .eql 57 4,qI 59 (.bin .neq .bool (.t 56) (.t 58))])
 (.cond (.t 59) (S0 (R0 [2] [tI0 2 false])
 .ret) .skip))
 (S0 (R0 [3,4,8,10,11] [LI0 61 3,C1 62 13 61,mI0 60 62,eI0 63 60 0,eI0 64 60 1,eI 10 (.alloc [(.int .i64 0),(.int .i64 0),.nils]),vI0 3 10 63,mI0 11 64])
 (S0 (R0 [3,4,8,11,12,13] [LI0 66 3,LI0 67 10,C2 68 10 66 67,mI0 65 68,eI0 69 65 0,eI0 70 65 1,eI 12 (.alloc [(.int .i64 0),(.int .i64 0),.nils]),vI0 3 12 69,mI0 13 70])
 (S0 (R0 [3,4,8,11,13,14,15] [LI0 72 12,C1 73 25 72,mI0 71 73,eI0 74 71 0,eI0 75 71 1,mI0 14 74,mI0 15 75])
 (S0 (.seq (R0 [3,4,8,95] [mI0 76 11,cI0 77 .neq 76 0,mI0 78 77,gm0 79 13 78 false,G0 80 (.bin .neq .other (.t 79) (I0 0)) true 78 false,oI0 81 78 80,mI0 82 81,gm0 83 15 82 false,G0 84 (.bin .neq .other (.t 83) (I0 0)) true 82 false,oI0 85 82 84,mI0 86 85,gm0 87 14 86 false,gm0 88 8 86 false,gm0 89 8 86 false,G0 90 (.bin .mul .other (.t 88) (.t 89)) true 86 false,G0 91 (.fieldAddr 0 (.t 3)) true 86 false,G0 92 (.load false 1 (.t 91)) true 86 false,G0 93 (.bin .rem .other (.t 90) (.t 92)) true 86 false,G0 94 (.bin .neq .other (.t 87) (.t 93)) true 86 false,oI0 95 86 94])
 (.cond (.t 95) (S0 (R0 [2] [tI0 2 false])
 .ret) .skip))
 (S0 (.seq (R0 [3,4,97] [mI0 96 8,cI0 97 .eql 96 0])
 (.cond (.t 97) (S0 (R0 [2] [tI0 2 true])
 .ret) .skip))
 (S0 (R0 [3,4,16,17] [fI0 99 0 3,lI0 100 99,fI0 101 1 3,lI0 102 101,C2 103 26 100 102,mI0 98 103,eI0 104 98 0,eI0 105 98 1,eI 16 (.alloc [(.int .i64 0),(.int .i64 0),.nils]),vI0 3 16 104,mI0 17 105])
 (S0 (R0 [3,4,16,17,18,19] [LI0 107 4,LI0 108 3,C2 109 10 107 108,mI0 106 109,eI0 110 106 0,eI0 111 106 1,eI 18 (.alloc [(.int .i64 0),(.int .i64 0),.nils]),vI0 3 18 110,mI0 19 111])
 (S0 (R0 [16,17,18,19,20,21] [LI0 113 3,LI0 114 4,C2 115 10 113 114,mI0 112 115,eI0 116 112 0,eI0 117 112 1,eI 20 (.alloc [(.int .i64 0),(.int .i64 0),.nils]),vI0 3 20 116,mI0 21 117])
 (S0 (R0 [2] [mI0 118 17,cI0 119 .eql 118 0,mI0 120 119,gm0 121 19 120 true,G0 122 (.bin .eql .other (.t 121) (I0 0)) true 120 true,aI0 123 120 122,mI0 124 123,gm0 125 21 124 true,G0 126 (.bin .eql .other (.t 125) (I0 0)) true 124 true,aI0 127 124 126,mI0 128 127,G0 129 (.load true 3 (.t 18)) true 128 true,G0 130 (.load true 3 (.t 16)) true 128 true,G0 131 (.call 12 [(.t 129),(.t 130)]) false 128 true,aI0 132 128 131,mI0 133 132,G0 134 (.load true 3 (.t 20)) true 133 true,G0 135 (.load true 3 (.t 16)) true 133 true,G0 136 (.call 12 [(.t 134),(.t 135)]) false 133 true,aI0 137 133 136,mI0 2 137])
 .ret))))))))))))))))))⟩
theorem cf5:cF Try.prog Try.f5=some if5:=by kernel_rfl
end Go.Proofs
namespace Go.Proofs.Ytcooahfdjlhmdaa
open Go.ChangeShapes Go.WideShapes Go.ChangeAt Go.RowKit Go.Ab Go.Joins Go.Lie Go.Proofs
theorem own:ownKnob Try.prog.godebug=none:=by kernel_rfl
theorem laidOut:laidOutB Try.prog=true:=by kernel_rfl
variable {H:Type} {enc:TypeId×Value→H} {W w0:World} {j:Inj} {h:AHeap}
end Go.Proofs.Ytcooahfdjlhmdaa
namespace Go.Proofs.Ytcooahfdjlhmdaa
open Go.ChangeShapes Go.WideShapes Go.ChangeAt Go.RowKit Go.Ab Go.Joins Go.Lie Go.Proofs
variable {H:Type} {enc:TypeId×Value→H} {W w0:World} {j:Inj} {h:AHeap}
theorem cell8:Try.prog.cellsOf 5=1:=by kernel_rfl
theorem lay8:Lay1 enc Try.prog W 5 (fun pv (n:Int)=>pv=.int .u8 n∧0≤n∧n≤255):=by
 intro w0 j h held fuel v x m hx;obtain⟨n,hn,_,hw⟩:=DataW.trod_int Try.underlying5 hx;simp only [List.cons.injEq,and_true]at hn
 subst hn;simp only [Lit.wf,Bool.and_eq_true,decide_eq_true_eq]at hw
 have h1:IntKind.u8.min=0:=by rfl
 have h2:IntKind.u8.max=255:=by rfl
 rw [h1,h2]at hw
 exact⟨j,h,.int .u8 n,n,m,Inj.le.refl _,Ext.refl m.wf,rfl,trivial,rfl,rfl,hw.1,hw.2⟩
theorem FL.bytes {v:PV} {xs:List Int} (h:FL (fun pv (n:Int)=>pv=.int .u8 n∧0≤n∧n≤255) v xs):FB v xs:=by
 obtain⟨w,a,rows,rfl,hr⟩:=h;refine⟨w,a,?_⟩
 congr 1
 apply List.ext_getElem?;intro k;rw [List.getElem?_map];rcases Nat.lt_or_ge k xs.length with x|x
 ·obtain⟨pv,h1,h2⟩:=hr.get x
  rw [h1,gi x,h2.1];rfl
 ·rw [List.getElem?_eq_none (by rw [hr.1];exact x),List.getElem?_eq_none x];rfl
theorem layB:Lay1 enc Try.prog W 22 (fun v (xs:List Int)=>FB v xs∧∀b∈xs,0≤b∧b≤255):=by
 intro w0 j h held fuel v x m hx;obtain⟨j',h',pv,a,g1,g2,g3,g4,g5,g6,g7,g8⟩:=zHo Try.underlying22 cell8 lay8 w0 j h held fuel v x m hx;exact⟨j',h',pv,a,g1,g2,g3,g4,g5,g6,FL.bytes g7,g7.all fun _ _ k=>k.2⟩
end Go.Proofs.Ytcooahfdjlhmdaa
