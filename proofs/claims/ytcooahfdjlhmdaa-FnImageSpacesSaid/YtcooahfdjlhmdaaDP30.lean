/- A list of bytes that a law is handed, laid as a frozen value. -/
import Derived.Test.YtcooahfdjlhmdaaDP28
import Derived.Test.YtcooahfdjlhmdaaDP26
import Derived.Test.YtcooahfdjlhmdaaDAbPz
import Derived.Test.YtcooahfdjlhmdaaDAbPt
import Derived.Test.YtcooahfdjlhmdaaChecked
import Derived.Test.YtcooahfdjlhmdaaRows
import Derived.Lib.SmallJoins
import Derived.WalkKit
import Derived.ProofKit
open Int renaming reduceNatCast'→iQ0
set_option maxRecDepth 100000
set_option linter.unusedVariables false
set_option linter.unusedSimpArgs false
namespace Go.Lie
open Go.Ab Go.Mx
variable {p:Int} {n m:Nat} {L M A u w:List (List Int)} {x y v:List Int}
abbrev pr7 (p:Int):Prop:=p=2∨p=3∨p=5∨p=7
theorem pr7.ok (h:pr7 p):okp p:=by unfold okp;omega
theorem zEh (hq:pr7 p) (hL:∀v∈L,El p n v):∀k,k≤L.length→∃u,Canon p n (W0 n) (L.take k) u∧u.length≤k
 | 0,_=>⟨[],by rw [List.take_zero];exact Z8,Nat.le_refl _⟩
 | k+1,hk=>by
  obtain⟨u,c,hu⟩:=zEh hq hL k (by omega)
  have hx:=hL _ (List.getElem_mem (show k<L.length by omega))
  rw [List.take_succ_eq_append_getElem (by omega)]
  have hr:=Zf (W0_ok hq.ok n) c.base.els hx
  by_cases h:dep (redL p (W0 n) u L[k])=n
  ·exact⟨u,c.skip0 hq.ok hx h,by omega⟩
  ·have hd:dep (redL p (W0 n) u L[k])<n:=by have:=zAJ (redL p (W0 n) u L[k]);rw [hr.1]at this;omega
   have h0:=hr.at0 (W0_ok hq.ok n) (dep (redL p (W0 n) u L[k]));have h1:at_ (redL p (W0 n) u L[k]) (dep (redL p (W0 n) u L[k]))≠0:=qZ (by rw [hr.1];exact hd)
   obtain⟨q,_,_,hq'⟩:=zHx hq (a:=at_ (redL p (W0 n) u L[k]) (dep (redL p (W0 n) u L[k]))) (by omega) (by omega)
   refine⟨_,(c.put hq.ok hx hd hq').1,?_⟩;rw [Qz,List.length_map];omega
theorem Zk (hq:pr7 p) (hL:∀v∈L,El p n v):∃u,Canon p n (W0 n) L u∧u.length≤L.length:=by
 have:=zEh hq hL L.length (Nat.le_refl _)
 rwa [List.take_length]at this
theorem zAC (hq:pr7 p) (hL:∀v∈L,El p n v) (c:Canon p n (W0 n) L u):u.length≤L.length:=by
 obtain⟨u',c',h⟩:=Zk hq hL;rw [c.unique (W0_ok hq.ok n) c'];exact h
theorem zAS (hq:pr7 p) (hM:∀v∈M,El p n v) (hu:Base p n (W0 n) u) (h:∀v∈u,Gen p n (W0 n) M (at_ v)):u.length≤M.length:=by
 obtain⟨w,c,hw⟩:=Zk hq hM
 have:=(zBT (W0_ok hq.ok n) hu c.base fun f hf=>(c.gen f).1 (qG h hf)).1
 omega
def trm (n:Nat) (A:List (List Int)):List (List Int):=(List.range n).map fun j=>A.map fun r=>at_ r j
theorem zX:(trm n A).length=n:=by simp [trm]
theorem zFe {j:Nat} (hj:j<n):row (trm n A) j=A.map fun r=>at_ r j:=by rw [zQ (by rw [zX];exact hj)];simp [trm]
theorem zCI {i j:Nat} (hi:i<A.length) (hj:j<n):at_ (row (trm n A) j) i=at_ (row A i) j:=by
 rw [zFe hj,at_eq (by simp;exact hi),zQ hi];simp
theorem QC (hp:0<p) (hA:Ma p n A):Ma p A.length (trm n A):=fun r hr=>by
 simp only [trm,List.mem_map,List.mem_range]at hr
 obtain⟨j,hj,rfl⟩:=hr;refine⟨by simp,fun i=>?_⟩
 by_cases hi:i<A.length
 ·rw [at_eq (by simp;exact hi),List.getElem_map]
  exact(hA _ (List.getElem_mem hi)).bd j
 ·rw [at_ge (by simp;omega)];omega
theorem zJU (hA:∀r∈A,r.length=n):trm A.length (trm n A)=A:=by
 refine List.ext_getElem (by rw [zX]) fun i h1 h2=>?_
 have hl:=hA _ (List.getElem_mem h2);rw [←zQ h1,zFe h2];refine Zr (by simp [zX,hl]) fun j hj=>?_
 rw [List.length_map,zX]at hj
 rw [at_eq (by simp [zX,hj]),List.getElem_map,←zQ (by rw [zX];exact hj),zCI h2 hj,zQ h2]
theorem ma_el (hA:Ma p n A):∀v∈A,El p n v:=fun v hv=>ve_el (hA v hv)
theorem el_ma (hp:0<p) (h:∀v∈A,El p n v):Ma p n A:=fun v hv=>el_ve hp (h v hv)
theorem zCW (hq:pr7 p) (hA:Ma p n A) (c:Canon p n (W0 n) A u) (c':Canon p A.length (W0 A.length) (trm n A) w):w.length≤u.length:=by
 have hok:=hq.ok;have hp:0<p:=by have:=hok.1;omega
 have hu:=el_ma hp c.base.els
 -- the coefficients of each row
 have hc:∀i,∃k:List Int,i<A.length→Ve p u.length k∧vt p n k u=row A i:=fun i=>by
  by_cases hi:i<A.length
  ·have hr:=hA.row hi
   obtain⟨k,h1,h2⟩:=qd hok hu (ve_el hr) ((c.gen _).1 (zT (by rw [zQ hi];exact List.getElem_mem hi)))
   exact⟨k,fun _=>⟨h1,h2⟩⟩
  ·exact⟨[],fun h=>absurd h hi⟩
 let k:=fun i=>Classical.choose (hc i)
 have hk:∀i,i<A.length→Ve p u.length (k i)∧vt p n (k i) u=row A i:=fun i=>Classical.choose_spec (hc i)
 let D:=(List.range A.length).map k
 have hDl:D.length=A.length:=by simp [D]
 have hDr:∀i,i<A.length→row D i=k i:=fun i hi=>by rw [zQ (by rw [hDl];exact hi)];simp [D]
 have hD:Ma p u.length D:=fun r hr=>by
  simp only [D,List.mem_map,List.mem_range]at hr
  obtain⟨i,hi,rfl⟩:=hr;exact(hk i hi).1
 have hT:=QC hp hD;rw [hDl]at hT
 have hG:∀r∈trm n A,Gen p A.length (W0 A.length) (trm u.length D) (at_ r):=fun r hr=>by
  obtain⟨j,hj,rfl⟩:=List.mem_iff_getElem.1 hr;rw [zX]at hj
  rw [←zQ (by rw [zX];exact hj)]
  refine(zI _).eqv _ _ ?_ ⟨fun t=>at_ (row u t) j,Eqv.refl _⟩
  have hTr:=(QC hp hA).row (i:=j) (by rw [zX];exact hj)
  refine qg (fun i hi=>?_) fun i hi=>?_
  ·rw [zCI hi hj,←(hk i hi).2,vt_at hp hu (hk i hi).1.len hj,Int.emod_emod,comb,zX]
   congr 1
   exact zl fun t ht=>by
    have:=zCI (A:=D) (n:=u.length) (i:=i) (j:=t) (by rw [hDl];exact hi) ht
    rw [hDr i hi]at this
    have e:at_ ((trm u.length D).getD t []) i=at_ (k i) t:=this;rw [e,Int.mul_comm]
  ·rw [at_ge (by rw [hTr.len];exact hi),qW (ma_el hT) _ hi]
 have:=zAS hq (ma_el hT) c'.base fun v hv=>qG hG ((c'.gen _).2 (zT hv))
 rwa [zX]at this
theorem zJW (hq:pr7 p) (hA:Ma p n A) (c:Canon p n (W0 n) A u) (c':Canon p A.length (W0 A.length) (trm n A) w):w.length=u.length:=by
 have hp:0<p:=by have:=hq.ok.1;omega
 refine Nat.le_antisymm (zCW hq hA c c') ?_;have h:=QC hp hA;have e:=zJU (A:=A) (n:=n) fun r hr=>(hA r hr).len
 have:=zCW (A:=trm n A) (n:=A.length) (u:=w) (w:=u) hq h c'
 rw [zX,e]at this
 exact this c
def wd (A:List (List Int)):List (List Int):=(List.range A.length).map fun i=>row A i++uv A.length i
theorem qH:(wd A).length=A.length:=by simp [wd]
theorem Q8 {i:Nat} (hi:i<A.length):row (wd A) i=row A i++uv A.length i:=by rw [zQ (by rw [qH];exact hi)];simp [wd]
theorem qw {a b:List Int} (j:Nat):at_ (a++b) j=if j<a.length then at_ a j else at_ b (j-a.length):=by
 unfold at_;rw [List.getD_eq_getElem?_getD,List.getElem?_append]
 split<;>simp [List.getD_eq_getElem?_getD]
theorem zCH {a b:List Int} (ha:Ve p n a) (hb:Ve p m b):Ve p (n+m) (a++b):=⟨by rw [List.length_append,ha.len,hb.len],fun j=>by
 rw [qw];split
 ·exact ha.bd j
 ·exact hb.bd _⟩
theorem wd_ma (hq:pr7 p) (hA:Ma p n A):Ma p (n+A.length) (wd A):=fun r hr=>by
 have:=hq.ok.1
 simp only [wd,List.mem_map,List.mem_range]at hr
 obtain⟨i,hi,rfl⟩:=hr;exact zCH (hA.row hi) (uv_ve (by omega) hi)
theorem vt_wd (hq:pr7 p) (hA:Ma p n A) (hv:Ve p A.length v):vt p (n+A.length) v (wd A)=vt p n v A++v:=by
 have h2:=hq.ok.1;have hp:0<p:=by omega
 have hW:=wd_ma hq hA;have hl:v.length=(wd A).length:=by rw [hv.len,qH]
 have h1:=vt_ve hp hA hv.len;refine(vt_ve hp hW hl).ext (zCH h1 hv) fun j hj=>?_
 rw [vt_at hp hW hl hj,qH,qw,h1.len]
 split
 ·rename_i hjn
  rw [vt_at hp hA hv.len hjn]
  congr 1
  exact zl fun k hk=>by rw [Q8 hk,qw,(hA.row hk).len,if_pos hjn]
 ·rename_i hjn
  rw [ZJ (k:=j-n) (by omega)]
  ·rw [Q8 (by omega),qw,(hA.row (by omega)).len,if_neg hjn,uv_at (by omega),if_pos rfl,Int.mul_one]
   have:=hv.bd (j-n)
   exact Int.emod_eq_of_lt this.1 this.2
  ·intro i hi hne
   rw [Q8 hi,qw,(hA.row hi).len,if_neg hjn,uv_at hi,if_neg (by omega),Int.mul_zero]
theorem zDn (hq:pr7 p) (hA:Ma p n A) {z:List Int} (hz:El p (n+A.length) z):Gen p (n+A.length) (W0 (n+A.length)) (wd A) (at_ z)↔∃v,Ve p A.length v∧z=vt p n v A++v:=by
 have h2:=hq.ok.1;constructor
 ·intro h
  obtain⟨v,hv,e⟩:=qd hq.ok (wd_ma hq hA) hz h;rw [qH]at hv
  exact⟨v,hv,by rw [←e,vt_wd hq hA hv]⟩
 ·rintro ⟨v,hv,rfl⟩
  rw [←vt_wd hq hA hv];exact QX (by omega) (wd_ma hq hA) (by rw [hv.len,qH])
def Ker (p:Int) (n:Nat) (A:List (List Int)) (x:List Int):Prop:=El p A.length x∧∀j,at_ (vt p n x A) j=0
def nul (n:Nat) (u:List (List Int)):List (List Int):=(Fp u n).map (List.drop n)
theorem zJF {z:List Int} (h:n≤dep z) (hz:dep z<z.length):dep (z.drop n)=dep z-n:=by
 have hat:∀j,at_ (z.drop n) j=at_ z (n+j):=fun j=>by simp [at_,List.getD_eq_getElem?_getD]
 refine Zt (fun j hj=>?_) ?_
 ·rw [hat];exact zf (by omega)
 ·rw [hat,show n+(dep z-n)=dep z by omega];exact qZ hz
theorem zBU (z:List Int) (j:Nat):at_ (z.drop n) j=at_ z (n+j):=by simp [at_,List.getD_eq_getElem?_getD]
theorem zBR {z:List Int} (hz:El p (n+m) z):El p m (z.drop n):=⟨by rw [List.length_drop,hz.1];omega,fun x hx=>hz.2 x (List.mem_of_mem_drop hx)⟩
theorem zAG (hq:pr7 p) (hA:Ma p n A) (c:Canon p (n+A.length) (W0 (n+A.length)) (wd A) u):
  Canon p A.length (W0 A.length) (nul n u) (nul n u)∧∀x,El p A.length x→(Gen p A.length (W0 A.length) (nul n u) (at_ x)↔Ker p n A x):=by
 have h2:=hq.ok.1;have hp:0<p:=by omega
 have o:=W0_ok hq.ok (n+A.length);have hm:∀t∈nul n u,∃r∈u,n≤dep r∧t=r.drop n:=fun t ht=>by
  obtain⟨r,hr,rfl⟩:=List.mem_map.1 ht;exact⟨r,(ZT.1 hr).1,(ZT.1 hr).2,rfl⟩
 have hdep:∀r∈u,n≤dep r→dep (r.drop n)=dep r-n:=fun r hr hn=>zJF hn (by have:=c.base.led r hr;rw [this.1.1];exact this.2.1)
 have hled:∀t∈nul n u,Led p A.length t:=fun t ht=>by
  obtain⟨r,hr,hn,rfl⟩:=hm t ht;have hL:=c.base.led r hr;refine⟨zBR hL.1,by rw [hdep r hr hn];have:=hL.2.1;omega,?_⟩
  rw [hdep r hr hn,zBU,show n+(dep r-n)=dep r by omega];exact hL.2.2
 have hasc:Asc (nul n u):=by
  unfold Asc nul;rw [List.pairwise_map];refine List.Pairwise.imp_of_mem (fun {a b} ha hb h=>?_) (c.base.asc.filter _)
  rw [hdep a (ZT.1 ha).1 (ZT.1 ha).2,hdep b (ZT.1 hb).1 (ZT.1 hb).2]
  have:=(ZT.1 ha).2
  omega
 refine⟨zEi hled hasc (fun v hv w hw hne=>?_) fun f=>Iff.rfl,fun x hx=>⟨fun h=>?_,fun h=>?_⟩⟩
 ·obtain⟨r,hr,hn,rfl⟩:=hm v hv
  obtain⟨s,hs,hn',rfl⟩:=hm w hw;rw [hdep r hr hn,hdep s hs hn']at hne
  rw [hdep s hs hn',zBU,show n+(dep s-n)=dep s by omega]
  exact c.off hr hs (by omega)
 ·refine⟨hx,?_⟩
  -- each row is in the kernel, and the kernel is closed
  have hk:∀t∈nul n u,∀j,at_ (vt p n t A) j=0:=fun t ht j=>by
   obtain⟨r,hr,hn,rfl⟩:=hm t ht;have hrE:=(c.base.led r hr).1;obtain⟨v,hv,e⟩:=(zDn hq hA hrE).1 ((c.gen _).2 (zT hr));have hvl:=vt_ve hp hA hv.len;have hd:r.drop n=v:=by rw [e,List.drop_left' hvl.len]
   rw [hd];rcases Nat.lt_or_ge j n with g|g
   ·have h0:at_ r j=0:=zf (by omega)
    rw [e,qw,hvl.len,if_pos g]at h0;exact h0
   ·exact at_ge (by rw [hvl.len];exact g)
  obtain⟨k,hk1,hk2⟩:=qd hq.ok (el_ma hp fun v hv=>(hled v hv).1) hx h
  have hN:Ma p A.length (nul n u):=el_ma hp fun v hv=>(hled v hv).1
  have hz:∀j,at_ (vt p n k (mm p n (nul n u) A)) j=0:=fun j=>by
   have hmm:=mm_ma hp hN hA;have hl:k.length=(mm p n (nul n u) A).length:=by rw [zn];exact hk1.len
   rcases Nat.lt_or_ge j n with g|g
   ·rw [vt_at hp hmm hl g,qJ]
    ·simp
    ·intro i hi
     rw [zn]at hi
     rw [zHm hi,hk _ (by rw [zQ hi];exact List.getElem_mem hi),Int.mul_zero]
   ·exact at_ge (by rw [(vt_ve hp hmm hl).len];exact g)
  rw [←vt_mm hp hN hA hk1.len,hk2]at hz
  exact hz
 ·obtain⟨_,h0⟩:=h
  have hv:Ve p A.length x:=el_ve hp hx;have hvl:=vt_ve hp hA hv.len;have hz:El p (n+A.length) (vt p n x A++x):=ve_el (zCH hvl hv);have hG:=(c.gen _).1 ((zDn hq hA hz).2 ⟨x,hv,rfl⟩);have hd:n≤dep (vt p n x A++x):=zH5 (by rw [List.length_append,hvl.len];omega) fun j hj=>by rw [qw,hvl.len,if_pos hj];exact h0 j
  have hF:=zKW o c.base hz hG;obtain⟨k,e⟩:=hF;have hsub:Gen p (n+A.length) (W0 (n+A.length)) (Fp u n) (at_ (vt p n x A++x)):=ZG (fun v hv=>ZT.2 ⟨(ZT.1 hv).1,by have:=(ZT.1 hv).2;omega⟩) ⟨k,e⟩
  obtain⟨k,e⟩:=hsub;refine⟨k,qg (fun j hj=>?_) fun j hj=>?_⟩
  ·have:=zC6 e (j:=n+j) (by omega)
   rw [qw,hvl.len,if_neg (by omega),show n+j-n=j by omega]at this
   rw [this]
   congr 1
   unfold comb nul;rw [List.length_map];refine zl fun t ht=>?_
   rw [List.getD_eq_getElem?_getD,List.getElem?_eq_getElem ht,List.getD_eq_getElem?_getD,List.getElem?_map,List.getElem?_eq_getElem ht];simp only [Option.getD_some,Option.map_some,zBU]
  ·rw [hx.beyond hj,qW (fun v hv=>(hled v hv).1) _ hj]
end Go.Lie
namespace Go.Lie
open Go.Ab Go.Mx
variable {p:Int} {n m:Nat} {L M A B U u w:List (List Int)} {x y v b z:List Int}
theorem zAK (z:List Int) (j:Nat):at_ (z.take n) j=if j<n then at_ z j else 0:=by
 unfold at_;rw [List.getD_eq_getElem?_getD,List.getElem?_take]
 split<;>simp [List.getD_eq_getElem?_getD]
theorem zBQ (hz:El p (n+m) z):El p n (z.take n):=⟨by rw [List.length_take,hz.1];omega,fun x hx=>hz.2 x (List.mem_of_mem_take hx)⟩
theorem zEd {f:List Int→List Int} {d j:Nat} (k:Nat→Int) (u:List (List Int)) (h:∀z,at_ (f z) j=at_ z d):comb k (u.map f) j=comb k u d:=by
 unfold comb;rw [List.length_map];refine zl fun t ht=>?_
 rw [List.getD_eq_getElem?_getD,List.getElem?_map,List.getElem?_eq_getElem ht,List.getD_eq_getElem?_getD,List.getElem?_eq_getElem ht];simp only [Option.getD_some,Option.map_some,h]
theorem zEV {f:Vec} (hu:∀v∈u,El p (n+m) v) (h:Gen p (n+m) (W0 (n+m)) u f):Gen p n (W0 n) (u.map (List.take n)) fun j=>if j<n then f j else 0:=by
 obtain⟨k,e⟩:=h;refine⟨k,qg (fun j hj=>?_) fun j hj=>?_⟩
 ·rw [if_pos hj,zEd k u (d:=j) fun z=>by rw [zAK,if_pos hj]]
  exact zC6 e (by omega)
 ·rw [if_neg (by omega),qW (p:=p) (n:=n) (fun v hv=>?_) _ hj]
  obtain⟨z,hz,rfl⟩:=List.mem_map.1 hv;exact zBQ (hu z hz)
theorem zI5 {f:Vec} (hu:∀v∈u,El p (n+m) v) (h:Gen p (n+m) (W0 (n+m)) u f):Gen p m (W0 m) (u.map (List.drop n)) fun j=>f (n+j):=by
 obtain⟨k,e⟩:=h;refine⟨k,qg (fun j hj=>?_) fun j hj=>?_⟩
 ·rw [zEd k u (d:=n+j) fun z=>zBU z j]
  exact zC6 e (by omega)
 ·rw [qW (p:=p) (n:=m) (fun v hv=>?_) _ hj]
  ·have:=(zFp e).2 (n+j) (by omega)
   rw [this,qW hu _ (by omega)]
  obtain⟨z,hz,rfl⟩:=List.mem_map.1 hv;exact zBR (hu z hz)
def top (n:Nat) (u:List (List Int)):List (List Int):=u.filter fun r=>decide (dep r<n)
theorem ZV:v∈top n u↔v∈u∧dep v<n:=by simp [top]
theorem Qh:(top n u).length+(nul n u).length=u.length:=by
 unfold nul top Fp;rw [List.length_map]
 induction u with
 | nil=>rfl
 | cons r u ih=>
  simp only [List.filter_cons]
  by_cases h:dep r<n
  ·have h2:¬n≤dep r:=by omega
   simp only [h,h2,decide_true,decide_false,if_true,List.length_cons];simp only [Bool.false_eq_true,if_false];omega
  ·have h2:n≤dep r:=by omega
   simp only [h,h2,decide_true,decide_false,if_true,List.length_cons];simp only [Bool.false_eq_true,if_false];omega
theorem zJE (h:dep z<n) (hz:n≤z.length):dep (z.take n)=dep z:=
 Zt (fun j hj=>by rw [zAK,if_pos (by omega)];exact zf hj) (by rw [zAK,if_pos h];exact qZ (by omega))
theorem zIG (hu:Base p (n+m) (W0 (n+m)) u):Base p n (W0 n) ((top n u).map (List.take n)):=by
 have hm:∀t∈(top n u).map (List.take n),∃r∈u,dep r<n∧t=r.take n:=fun t ht=>by
  obtain⟨r,hr,rfl⟩:=List.mem_map.1 ht;exact⟨r,(ZV.1 hr).1,(ZV.1 hr).2,rfl⟩
 have hd:∀r∈u,dep r<n→dep (r.take n)=dep r:=fun r hr h=>zJE h (by rw [(hu.els r hr).1];omega)
 refine base0 (fun t ht=>?_) ?_
 ·obtain⟨r,hr,hn,rfl⟩:=hm t ht
  have hL:=hu.led r hr;exact⟨zBQ hL.1,by rw [hd r hr hn];exact hn,by rw [hd r hr hn,zAK,if_pos hn];exact hL.2.2⟩
 ·unfold Asc top
  rw [List.pairwise_map];refine List.Pairwise.imp_of_mem (fun {a b} ha hb h=>?_) (hu.asc.filter _)
  rw [hd a (ZV.1 ha).1 (ZV.1 ha).2,hd b (ZV.1 hb).1 (ZV.1 hb).2];exact h
theorem zJ3 {f:Vec} (hu:∀v∈u,El p (n+m) v) (h:Gen p n (W0 n) (u.map (List.take n)) f):Gen p n (W0 n) ((top n u).map (List.take n)) f:=by
 refine qG (fun v hv=>?_) h
 obtain⟨r,hr,rfl⟩:=List.mem_map.1 hv
 by_cases hn:dep r<n
 ·exact zT (List.mem_map.2 ⟨r,ZV.2 ⟨hr,hn⟩,rfl⟩)
 ·refine(zI _).eqv _ _ (Eqv.of_eq fun j=>?_) (zI _).zero
  rw [zAK]
  split
  ·exact zf (by omega)
  ·rfl
theorem wd_el (hq:pr7 p) (hA:Ma p n A):∀v∈wd A,El p (n+A.length) v:=fun v hv=>ve_el (wd_ma hq hA v hv)
theorem zFf (hq:pr7 p) (hA:Ma p n A) (c:Canon p (n+A.length) (W0 (n+A.length)) (wd A) u) (f:Vec):Gen p n (W0 n) A f↔Gen p n (W0 n) ((top n u).map (List.take n)) f:=by
 have hp:0<p:=by have:=hq.ok.1;omega
 refine QW (fun v hv=>?_) (fun v hv=>?_) f
 ·obtain⟨i,hi,rfl⟩:=List.mem_iff_getElem.1 hv
  have h1:Gen p (n+A.length) (W0 (n+A.length)) u (at_ (row A i++uv A.length i)):=(c.gen _).1 (zT (by
   rw [←Q8 hi,zQ (by rw [qH];exact hi)];exact List.getElem_mem _))
  refine zJ3 c.base.els ((zI _).eqv _ _ (Eqv.of_eq fun j=>?_) (zEV c.base.els h1))
  have hl:=(hA.row hi).len;rw [qw,hl,zQ hi];rw [zQ hi]at hl
  split
  ·rfl
  ·exact at_ge (by omega)
 ·obtain⟨r,hr,rfl⟩:=List.mem_map.1 hv
  have hrE:=c.base.els r (ZV.1 hr).1;obtain⟨k,hk,e⟩:=(zDn hq hA hrE).1 ((c.gen _).2 (zT (ZV.1 hr).1));have hl:=(vt_ve hp hA hk.len).len;rw [e,List.take_left' hl];exact QX hp hA hk.len
theorem zIM (hq:pr7 p) (hA:Ma p n A) (c:Canon p (n+A.length) (W0 (n+A.length)) (wd A) u) (c':Canon p n (W0 n) A w):(top n u).length=w.length:=by
 have o:=W0_ok hq.ok n;have hb:=zIG (n:=n) c.base;have h1:=(zBT o hb c'.base fun f hf=>(c'.gen f).1 ((zFf hq hA c f).2 hf)).1
 have h2:=(zBT o c'.base hb fun f hf=>(zFf hq hA c f).1 ((c'.gen f).2 hf)).1
 rw [List.length_map]at h1 h2
 omega
theorem zCp {i:Nat} (hi:i<n):dep (uv n i)=i:=Zt (fun j hj=>by rw [uv_at hi,if_neg (by omega)]) (by rw [uv_at hi,if_pos rfl];omega)
theorem zKT (hq:pr7 p) {i:Nat} (hi:i<n):Led p n (uv n i):=⟨ve_el (uv_ve (by have:=hq.ok.1;omega) hi),by rw [zCp hi];exact hi,by rw [zCp hi,uv_at hi,if_pos rfl]⟩
theorem zIz (hq:pr7 p) (n:Nat):Base p n (W0 n) (idm n):=by
 refine base0 (fun t ht=>?_) ?_
 ·simp only [idm,List.mem_map,List.mem_range]at ht
  obtain⟨i,hi,rfl⟩:=ht;exact zKT hq hi
 ·unfold Asc idm
  rw [List.pairwise_map];refine List.Pairwise.imp_of_mem (fun {a b} ha hb h=>?_) (List.pairwise_lt_range (n:=n))
  rw [zCp (List.mem_range.1 ha),zCp (List.mem_range.1 hb)];exact h
theorem zCE (hq:pr7 p) (hA:Ma p n A) (c:Canon p (n+A.length) (W0 (n+A.length)) (wd A) u):u.length=A.length:=by
 have h1:=zAC hq (wd_el hq hA) c;rw [qH]at h1
 refine Nat.le_antisymm h1 ?_
 have:=zAS hq (M:=u.map (List.drop n)) (fun v hv=>by
  obtain⟨z,hz,rfl⟩:=List.mem_map.1 hv;exact zBR (c.base.els z hz)) (zIz hq A.length) fun v hv=>by
   simp only [idm,List.mem_map,List.mem_range]at hv
   obtain⟨i,hi,rfl⟩:=hv;have h1:Gen p (n+A.length) (W0 (n+A.length)) u (at_ (row A i++uv A.length i)):=(c.gen _).1 (zT (by
    rw [←Q8 hi,zQ (by rw [qH];exact hi)];exact List.getElem_mem _))
   refine(zI _).eqv _ _ (Eqv.of_eq fun j=>?_) (zI5 c.base.els h1)
   rw [qw,(hA.row hi).len,if_neg (by omega),show n+j-n=j by omega]
 rw [zGd,List.length_map]at this
 exact this
theorem zDI (hq:pr7 p) (hA:Ma p n A) (c:Canon p (n+A.length) (W0 (n+A.length)) (wd A) u) (c':Canon p n (W0 n) A w):w.length+(nul n u).length=A.length:=by
 rw [←zCE hq hA c,←zIM hq hA c c',Qh]
end Go.Lie
namespace Go.Lie
open Go.Ab Go.Mx
abbrev Mf:=Nat→Nat→Int
end Go.Lie
namespace Go.Lie
open Go.Ab Go.Mx
variable {p:Int} {n:Nat} {A B C E F L:List (List Int)} {x:List Int} {φ:List (List Int)→Int}
def fm (A:List (List Int)):Mf:=fun i j=>at_ (row A i) j
theorem zBG {i:Nat} (hi:i<A.length) (j:Nat):row (A.set i x) j=if j=i then x else row A j:=by
 unfold row;rw [List.getD_eq_getElem?_getD,List.getElem?_set,List.getD_eq_getElem?_getD]
 by_cases h:i=j
 ·rw [if_pos h,if_pos hi,if_pos h.symm];rfl
 ·rw [if_neg h,if_neg (Ne.symm h)]
theorem zDu (hp:0<p) {k:Int} {v:List Int} (hv:Ve p n v):Ve p n (scl p k v):=el_ve hp (zCM hp hv.len)
def clrM (p:Int) (c d:Nat) (R:List (List Int)):Nat→List (List Int)
 | 0=>R
 | m+1=>if m=d then clrM p c d R m else(clrM p c d R m).set m (vstep p (-(at_ (row R m) c)) (row R d) (row R m))
theorem QB {c d:Nat} {R:List (List Int)}:∀m,(clrM p c d R m).length=R.length
 | 0=>rfl
 | m+1=>by
  unfold clrM
  split
  ·exact QB m
  ·rw [List.length_set];exact QB m
theorem zEe {c d:Nat} {R:List (List Int)}:∀m,m≤R.length→∀i,row (clrM p c d R m) i=if i<m∧i≠d then vstep p (-(at_ (row R i) c)) (row R d) (row R i)else row R i
 | 0,_,i=>by rw [if_neg (by omega)];rfl
 | m+1,hm,i=>by
  unfold clrM;have ih:=zEe (c:=c) (d:=d) (R:=R) m (by omega) i
  split
  ·rename_i h
   rw [ih]
   by_cases h1:i<m∧i≠d
   ·rw [if_pos h1,if_pos (by omega)]
   ·rw [if_neg h1,if_neg (by omega)]
  ·rename_i h
   rw [zBG (by rw [QB];omega),ih]
   by_cases h1:i=m
   ·rw [if_pos h1,if_pos (by omega),h1]
   ·rw [if_neg h1]
    by_cases h2:i<m∧i≠d
    ·rw [if_pos h2,if_pos (by omega)]
    ·rw [if_neg h2,if_neg (by omega)]
theorem zKC (hp:0<p) (hB:Ma p n B) {v:List Int} (hv:v.length=B.length) (k:Int):vt p n (scl p k v) B=scl p k (vt p n v B):=by
 have hs:(scl p k v).length=B.length:=by rw [qb];exact hv
 have h1:=vt_ve hp hB hs;have h2:=vt_ve hp hB hv;refine h1.ext (zDu hp h2) fun j hj=>?_
 rw [vt_at hp hB hs hj,qi,vt_at hp hB hv hj,zAw,Int.mul_comm,←qy];exact ZK hp fun i hi=>by rw [qi,zAw];congr 1;grind
end Go.Lie
namespace Go.Proofs
open Go.Ab Go.Lie
variable {σ σ0 σ1:PHeap} {K:PV→PHeap→Prop} {vC:PV} {bs:List Int} {s:Nat} {a sd:Int}
def FB (v:PV) (bs:List Int):Prop:=∃w a,v=.fz w a bs.length (bs.map (.int .u8))
structure Byt (bs:List Int):Prop where
 len:bs.length≤1048576
 bd:∀b∈bs,0≤b∧b≤255
abbrev srcC (vC:PV) (a:Nat) (sd:Int):List PV:=[vC,.int .i64 (a:Int),.int .i64 sd]
structure Src (σ:PHeap) (s:Nat) (vC:PV) (bs:List Int) (a:Nat) (sd:Int):Prop where
 obj:σ.obj s=some (srcC vC a sd)
 lt:s<σ.next
 fb:FB vC bs
 byt:Byt bs
 le:a≤bs.length
 sd:0≤sd∧sd<2147483647
theorem FB.one {v:PV} (h:FB v bs):v.one=true:=by obtain⟨w,a,rfl⟩:=h;rfl
theorem FB.cells {v:PV} (h:FB v bs):v.cells=[v]:=by obtain⟨w,a,rfl⟩:=h;rfl
theorem FB.bel {v:PV} (h:FB v bs) (n:Nat):Bel n v:=by obtain⟨w,a,rfl⟩:=h;trivial
theorem FB.bels {v:PV} (h:FB v bs) (n a:Nat) (sd:Int):Bels n (srcC v a sd):=⟨h.bel n,trivial,trivial,trivial⟩
theorem Gh.setS {v:PV} {s:Nat} {c0 c1:List PV} (h0:σ0.obj s=some c0) (hb:Bels 0 c1) (k:Gh (σ0.set s c1) K v σ1):Gh σ0 K v σ1:=fun w ι Z h b r hv h1 h2 h3 h4=>by
 have hs:s<σ0.next:=w.lt h0;have w':PWF (σ0.set s c1):=by
  refine⟨fun t ht=>?_,fun t cs ht=>?_⟩
  ·have ht':σ0.next≤t:=ht
   rw [zJ,if_neg (by omega)]
   exact w.wf t ht'
  ·rw [zJ]at ht
   split at ht
   ·cases ht
    exact Bels.up (Nat.zero_le _) hb
   ·exact w.bel t cs ht
 obtain⟨v2,σ2,ι2,Z2,g1,g2,g3,g4,g5,g6,g7,g8,g9⟩:=k w' ι Z h b r hv h1 h2 h3 (fun t ht hn=>by
  rw [zJ]at hn
  split at hn
  ·cases hn
  ·exact h4 t ht hn)
 refine⟨v2,σ2,ι2,Z2,g1,g2,g3,g4,g5,g6,fun t ht hn=>g7 t ht ?_,g8,g9⟩
 rw [zJ,if_neg (by rintro rfl;rw [h0]at hn;cases hn)]
 exact hn
theorem Src.set {σ:PHeap} {a a':Nat} {sd sd':Int} (h:Src σ s vC bs a sd) (ha:a'≤bs.length) (hs:0≤sd'∧sd'<2147483647):Src (σ.set s (srcC vC a' sd')) s vC bs a' sd':=
 ⟨by rw [zJ,if_pos rfl],h.lt,h.fb,h.byt,ha,hs⟩
theorem Src.keep {σ σ':PHeap} {a:Nat} {sd:Int} (h:Src σ s vC bs a sd) (k:Keep σ σ'):Src σ' s vC bs a sd:=
 ⟨by rw [k.obj s h.lt];exact h.obj,Nat.lt_of_lt_of_le h.lt k.next,h.fb,h.byt,h.le,h.sd⟩
theorem Src.q {σ:PHeap} {a:Nat} {sd:Int} (h:Src σ s vC bs a sd):σ.rd1 s 0=some vC∧σ.rd1 s 1=some (.int .i64 a)∧σ.rd1 s 2=some (.int .i64 sd):=by
 refine⟨?_,?_,?_⟩<;>(rw [zH h.obj];rfl)
theorem Src.w1 {σ:PHeap} {a:Nat} {sd x:Int} (h:Src σ s vC bs a sd):σ.wr s 1 [.int .i64 x]=some (σ.set s [vC,.int .i64 x,.int .i64 sd]):=by
 rw [Zn h.obj,if_pos ⟨by simp,rfl⟩];rfl
theorem Src.w2 {σ:PHeap} {a:Nat} {sd x:Int} (h:Src σ s vC bs a sd):σ.wr s 2 [.int .i64 x]=some (σ.set s (srcC vC a x)):=by
 rw [Zn h.obj,if_pos ⟨by simp,rfl⟩];rfl
theorem zDG (σ:PHeap) (s:Nat) (x y:List PV):(σ.set s x).set s y=σ.set s y:=by
 simp only [PHeap.set]
 congr 1
 funext t
 split<;>rfl
theorem Qj (σ:PHeap) (x y:List PV):(σ.new x).set σ.next y=σ.new y:=by
 simp only [PHeap.new,PHeap.set]
 congr 1
 funext t
 split<;>rfl
theorem zIA {j:Nat} (hB:Byt bs) (hj:j<bs.length):(bs.map (PV.int .u8))[j]? = some (.int .u8 (bs.getD j 0))∧0≤bs.getD j 0∧bs.getD j 0≤255:=by
 have e:bs.getD j 0=bs[j]:=by simp [List.getD_eq_getElem?_getD,List.getElem?_eq_getElem hj]
 rw [e];exact⟨by rw [List.getElem?_map,List.getElem?_eq_getElem hj];rfl,hB.bd _ (List.getElem_mem hj)⟩
def Nx (n x:Int):Prop:=0≤x∧(n≤1→x=0)∧(1<n→x<n)
theorem Nx.lt {n x:Int} (h:Nx n x) (hn:1≤n):x<n:=by
 obtain⟨h0,h1,h2⟩:=h;rcases Int.lt_or_le 1 n with g|g
 ·exact h2 g
 ·have:=h1 g;omega
theorem zHg {n x:Int} (hn:1<n) (hx:0≤x):Nx n (x.tmod n):=by
 rw [Int.tmod_eq_emod_of_nonneg hx];have h1:=Int.emod_nonneg x (show n≠0 by omega)
 have h2:=Int.emod_lt_of_pos x (show 0<n by omega)
 exact⟨h1,fun h=>by omega,fun _=>h2⟩
theorem zGb (hb:FB vC bs) (hB:Byt bs) (hk:∀sd,0≤sd∧sd<2147483647→K (.ptr σ.next 0) (σ.new (srcC vC 0 sd))):zC Try.prog 40 [vC] σ K:=by
 obtain⟨w,av,rfl⟩:=hb;have hl:=hB.len;refine zD mix Try.func40 ?_
 conv=>arg 2;cbv
 refine zG rfl ?_;simp only [pwA,seval,-iQ0];generalize hC:(PV.fz w av bs.length (bs.map (.int .u8)))=vC at *
 refine zR (fun m vs h'=>∃(i:Nat) (sd:Int),i≤bs.length∧m=bs.length-i∧vs=[vC,.ptr σ.next 0,.int .i64 i]∧σ.new (srcC vC 0 sd)=h'∧0≤sd∧sd<2147483647) bs.length ?_ ?_
 ·exact⟨0,76001,by omega,by omega,rfl,rfl,by omega,by omega⟩
 rintro m vs h' ⟨i,sd,hi,rfl,rfl,rfl,h0,h1⟩
 have hlen:pLen vC=some (.int .i64 bs.length):=by rw [←hC];rfl
 have wi1:IntKind.i64.wrap ((i:Int)+1)=((i+1:Nat):Int):=by rw [wrap64 (by omega) (by omega)];omega
 have out:K (.ptr σ.next 0) (σ.new (srcC vC 0 sd)):=hk sd ⟨h0,h1⟩;simp only [pwA,seval,-iQ0,hlen]
 by_cases hlt:i<bs.length
 rotate_left
 ·simp only [pwA,seval,-iQ0,hlt,decide_false]
  exact out
 obtain⟨b1,b2,b3⟩:=zIA hB hlt
 by_cases h64:i<64
 rotate_left
 ·have h64':¬(i:Int)<64:=by omega
  simp only [pwA,seval,-iQ0,hlt,h64',decide_true,decide_false];exact out
 have h64':(i:Int)<64:=by omega
 generalize bs.getD i 0=b at b1 b2 b3
 have e1:IntKind.i64.wrap (sd*71)=sd*71:=wrap64 (by omega) (by omega)
 have e2:IntKind.i64.wrap b=b:=wrap64 (by omega) (by omega)
 have e3:IntKind.i64.wrap (sd*71+b)=sd*71+b:=wrap64 (by omega) (by omega)
 have e4:(sd*71+b).tmod 2147483647=(sd*71+b) % 2147483647:=Int.tmod_eq_emod_of_nonneg (by omega)
 subst hC;simp only [pwA,seval,-iQ0,hlt,h64',decide_true,b1,e1,e2,e3,e4,wi1];exact⟨_,by omega,i+1,_,by omega,rfl,rfl,rfl,by omega,by omega⟩
theorem zGa {a:Nat} {sd n:Int} (S:Src σ s vC bs a sd) (hn:n≤4611686018427387904) (hk:∀x a' sd',Nx n x→a'≤bs.length→0≤sd'∧sd'<2147483647→K (.int .i64 x) (σ.set s (srcC vC a' sd'))):zC Try.prog 42 [.ptr s 0,.int .i64 n] σ K:=by
 have hl:=S.byt.len;have hsd:=S.sd;have ha:=S.le;obtain⟨w,av,rfl⟩:=S.fb;obtain⟨q0,q1,q2⟩:=S.q;have e1:IntKind.i64.wrap (sd*48271)=sd*48271:=wrap64 (by omega) (by omega)
 have e2:IntKind.i64.wrap (sd*48271+71)=sd*48271+71:=wrap64 (by omega) (by omega)
 have e4:(sd*48271+71).tmod 2147483647=(sd*48271+71) % 2147483647:=Int.tmod_eq_emod_of_nonneg (by omega)
 refine zD mix Try.func42 ?_
 conv=>arg 2;cbv
 refine zG rfl ?_;simp only [pwA,seval,-iQ0,q2,e1,e2,e4,S.w2];refine iteI (fun hlt=>?_) fun hge=>?_
 ·have:=hk 0 a sd ⟨Int.le_refl _,fun _=>rfl,fun h=>by omega⟩ ha hsd
  rw [QY S.obj]at this
  exact this
 have hsd1:0≤(sd*48271+71) % 2147483647∧(sd*48271+71) % 2147483647<2147483647:=by omega
 generalize (sd*48271+71) % 2147483647=sd1 at *
 have S1:=S.set (sd':=sd1) ha hsd1;obtain⟨p0,p1,p2⟩:=S1.q;obtain⟨x0,e5,hx0⟩:∃x0,IntKind.i64.wrap (sd1.tdiv 47)=x0∧0≤x0∧x0≤2147483647:=by
  have d1:sd1.tdiv 47=sd1 / 47:=Int.tdiv_eq_ediv_of_nonneg (by omega)
  exact⟨sd1 / 47,by rw [d1];exact wrap64 (by omega) (by omega),by omega,by omega⟩
 have hn0:n≠0:=by omega
 generalize hs1:σ.set s (srcC (PV.fz w av bs.length (bs.map (.int .u8))) a sd1)=σ1 at *
 have hT:∀(a':Nat) (sd':Int),σ1.set s (srcC (PV.fz w av bs.length (bs.map (.int .u8))) a' sd')=σ.set s (srcC (PV.fz w av bs.length (bs.map (.int .u8))) a' sd'):=fun a' sd'=>by rw [←hs1];exact zDG _ _ _ _
 simp only [pwA,seval,-iQ0,p0,p1,p2,e5]
 by_cases hlt':a<bs.length
 rotate_left
 ·simp only [pwA,seval,-iQ0,hlt',decide_false]
  have:=hk _ a sd1 (zHg (by omega) hx0.1) ha hsd1
  rw [hs1]at this
  simp only [pwA,seval,-iQ0,hn0,e5];exact this
 obtain⟨b1,b2,b3⟩:=zIA S.byt hlt';generalize bs.getD a 0=b at b1 b2 b3
 have e6:IntKind.i64.wrap b=b:=wrap64 (by omega) (by omega)
 have e7:IntKind.i64.wrap (x0+b)=x0+b:=wrap64 (by omega) (by omega)
 have wi1:IntKind.i64.wrap ((a:Int)+1)=((a+1:Nat):Int):=by rw [wrap64 (by omega) (by omega)];omega
 simp only [pwA,seval,-iQ0,hlt',decide_true,p0,p1,b1,e5,e6,e7,S1.w1,wi1];have Sb:=S1.set (a':=a+1) (sd':=sd1) (by omega) hsd1
 obtain⟨r0,r1,r2⟩:=Sb.q;generalize hs2:σ1.set s (srcC (PV.fz w av bs.length (bs.map (.int .u8))) (a+1) sd1)=σ2 at *
 have tm:((a+1:Nat):Int).tmod 2=((a+1:Nat):Int) % 2:=Int.tmod_eq_emod_of_nonneg (by omega)
 have wi2:IntKind.i64.wrap (((a+1:Nat):Int)-1)=(a:Int):=by rw [wrap64 (by omega) (by omega)];omega
 have fin:∀x:Int,0≤x→K (.int .i64 (x.tmod n)) σ2:=fun x hx=>by
  have:=hk _ (a+1) sd1 (zHg (by omega) hx) (by omega) hsd1
  rw [←hs2,hT];exact this
 by_cases hn256:n≤256
 rotate_left
 ·simp only [pwA,seval,-iQ0,hn256,decide_false,hn0,e5,e6,e7]
  exact fin _ (by omega)
 by_cases hev:((a+1:Nat):Int) % 2=0
 rotate_left
 ·simp only [pwA,seval,-iQ0,hn256,decide_true,r1,tm,hev,decide_false,hn0,e5,e6,e7]
  exact fin _ (by omega)
 simp only [pwA,seval,-iQ0,hn256,decide_true,r0,r1,tm,hev,wi2,hlt',b1,hn0,e5,e6,e7];exact fin _ (by omega)
end Go.Proofs
namespace Go.Lie
open Go.Ab Go.Mx
variable {p:Int} {n c t:Nat} {A M R R' u w:List (List Int)} {x:List Int}
theorem zJ7 (ha:Asc u) {i:Nat} (hi:i<u.length):i≤dep (row u i):=by
 induction i with
 | zero=>omega
 | succ i ih=>
  have h1:=ih (by omega)
  have h2:=(List.pairwise_iff_getElem.1 ha) i (i+1) (by omega) hi (by omega)
  rw [zQ (by omega)]at h1
  rw [zQ hi];omega
end Go.Lie
namespace Go.Lie
open Go.Ab Go.Mx
variable {p:Int} {n m:Nat} {L M A B U u v w a b s N:List (List Int)} {x y z k:List Int}
theorem zCK (f:Nat→Int) (m:Nat):∀r,sumN (m+r) f=sumN m f+sumN r fun i=>f (m+i)
 | 0=>by rw [Nat.add_zero];show _=_+(0:Int);omega
 | r+1=>by
  show sumN (m+r) f+f (m+r)=_+(sumN r _+f (m+r));rw [zCK f m r];omega
theorem zFh (i:Nat):row (A++B) i=if i<A.length then row A i else row B (i-A.length):=by
 unfold row;rw [List.getD_eq_getElem?_getD,List.getElem?_append]
 split<;>simp [List.getD_eq_getElem?_getD]
theorem zCe (hA:Ma p n A) (hB:Ma p n B):Ma p n (A++B):=fun r hr=>by
 rcases List.mem_append.1 hr with h|h
 ·exact hA r h
 ·exact hB r h
theorem zGu (hp:0<p) (hA:Ma p n A) (hB:Ma p n B) (hx:x.length=A.length) (hy:y.length=B.length) {j:Nat} (hj:j<n):at_ (vt p n (x++y) (A++B)) j=(at_ (vt p n x A) j+at_ (vt p n y B) j) % p:=by
 rw [vt_at hp (zCe hA hB) (by simp [hx,hy]) hj,vt_at hp hA hx hj,vt_at hp hB hy hj,←Int.add_emod,List.length_append,zCK]
 congr 2
 ·exact zl fun i hi=>by rw [qw,hx,if_pos hi,zFh,if_pos hi]
 ·exact zl fun i hi=>by rw [qw,hx,if_neg (by omega),zFh,if_neg (by omega),Nat.add_sub_cancel_left]
theorem ZO (hp:0<p) (hA:Ma p n A) (hx:x.length=A.length) {j:Nat} (hj:n≤j):at_ (vt p n x A) j=0:=at_ge (by rw [(vt_ve hp hA hx).len];exact hj)
theorem zJ0 (hp:0<p) (a:Int):(a+a*(p-1)) % p=0:=by
 rw [show a+a*(p-1)=a*p by grind,Int.mul_emod_left]
theorem zJh (hq:pr7 p) (hA:Ma p n A) (hu:∀r∈u,El p A.length r) (hU:Canon p n (W0 n) (mm p n u A) U)
  (hN:∀x,El p (A.length+U.length) x→(Gen p (A.length+U.length) (W0 (A.length+U.length)) N (at_ x)↔Ker p n (A++U) x)) (hNe:∀r∈N,El p (A.length+U.length) r)
  (hw:∀x,El p A.length x→(Gen p A.length (W0 A.length) w (at_ x)↔Ker p n A x)) (hwe:∀r∈w,El p A.length r) (f:Vec):
  Gen p A.length (W0 A.length) (N.map (List.take A.length)) f↔Gen p A.length (W0 A.length) (u++w) f:=by
 have h2:=hq.ok.1;have hp:0<p:=by omega
 have hMU:Ma p n U:=el_ma hp hU.base.els;have hMu:Ma p A.length u:=el_ma hp hu;have hmm:=mm_ma hp hMu hA;refine QW (fun r hr=>?_) (fun x hx=>?_) f
 ·obtain⟨z,hz,rfl⟩:=List.mem_map.1 hr
  have hzE:=hNe z hz;have hK:=(hN z hzE).1 (zT hz);have ht:=zBQ hzE;have hd:=zBR hzE;have hsplit:z=z.take A.length++z.drop A.length:=(List.take_append_drop _ _).symm;generalize z.take A.length=x at *
  generalize z.drop A.length=y at *
  subst hsplit
  -- the image of x is spanned by U
  have hxA:=vt_ve hp hA ht.1;have hGx:Gen p n (W0 n) U (at_ (vt p n x A)):=by
   have h3:Gen p n (W0 n) U (at_ (vt p n y U)):=QX hp hMU hd.1;refine(zI _).eqv _ (fun j=>-1*at_ (vt p n y U) j) (qg (fun j hj=>?_) fun j hj=>?_) ((zI _).mul (-1) _ h3)
   ·have h4:=hK.2 j
    rw [zGu hp hA hMU ht.1 hd.1 hj]at h4
    show at_ (vt p n x A) j % p=-1*at_ (vt p n y U) j % p
    have:at_ (vt p n x A) j=-1*at_ (vt p n y U) j+(at_ (vt p n x A) j+at_ (vt p n y U) j):=by omega
    rw [this,Int.add_emod,h4,Int.add_zero,Int.emod_emod]
   ·show at_ (vt p n x A) j=-1*at_ (vt p n y U) j
    rw [ZO hp hA ht.1 hj,ZO hp hMU hd.1 hj];rfl
  obtain⟨k,hk,e⟩:=qd hq.ok hmm (ve_el hxA) ((hU.gen _).2 hGx);rw [zn]at hk
  rw [←vt_mm hp hMu hA hk.len]at e
  have hku:=vt_ve hp hMu hk.len
  -- the difference is in the kernel
  let d:List Int:=(List.range A.length).map fun j=>(at_ x j-at_ (vt p A.length k u) j) % p
  have hdl:d.length=A.length:=by simp [d]
  have hdat:∀j,j<A.length→at_ d j=(at_ x j-at_ (vt p A.length k u) j) % p:=fun j hj=>by rw [at_eq (by rw [hdl];exact hj)];simp [d]
  have hdE:El p A.length d:=ve_el ⟨hdl,fun j=>by
   by_cases hj:j<A.length
   ·rw [hdat j hj];exact⟨Int.emod_nonneg _ (by omega),Int.emod_lt_of_pos _ hp⟩
   ·rw [at_ge (by rw [hdl];omega)];omega⟩
  have hdK:Ker p n A d:=⟨hdE,fun j=>by
   by_cases hj:j<n
   ·have e1:=congrArg (fun l=>at_ l j) e
    rw [vt_at hp hA hku.len hj,vt_at hp hA ht.1 hj]at e1
    rw [vt_at hp hA hdl hj]
    have:(sumN A.length fun i=>at_ d i*at_ (row A i) j) % p=(sumN A.length (fun i=>at_ x i*at_ (row A i) j)-sumN A.length fun i=>at_ (vt p A.length k u) i*at_ (row A i) j) % p:=by
     have h6:(sumN A.length fun i=>at_ x i*at_ (row A i) j)-(sumN A.length fun i=>at_ (vt p A.length k u) i*at_ (row A i) j)=sumN A.length fun i=>at_ x i*at_ (row A i) j + -1*(at_ (vt p A.length k u) i*at_ (row A i) j):=by
      rw [Z4,qy];omega
     rw [h6];exact ZK hp fun i hi=>by rw [hdat i hi,zAw];congr 1;grind
    rw [this,Int.sub_emod,e1,Int.sub_self];simp
   ·exact ZO hp hA hdl (by omega)⟩
  have hdG:=(hw d hdE).2 hdK;have h7:Gen p A.length (W0 A.length) (u++w) (at_ (vt p A.length k u)):=ZG (fun v hv=>List.mem_append_left _ hv) (QX hp hMu hk.len)
  refine(zI _).eqv _ _ (qg (fun j hj=>?_) fun j hj=>?_) ((zI _).add _ _ (ZG (fun v hv=>List.mem_append_right _ hv) hdG) h7)
  ·show at_ x j % p=(at_ d j+at_ (vt p A.length k u) j) % p
   rw [hdat j hj,Int.emod_add_emod];congr 1;omega
  ·show at_ x j=at_ d j+at_ (vt p A.length k u) j
   rw [ht.beyond hj,hdE.beyond hj,at_ge (by rw [hku.len];exact hj)];rfl
 ·-- the other way
  have put:∀y,Ve p U.length y→El p A.length x→(∀j,j<n→(at_ (vt p n x A) j+at_ (vt p n y U) j) % p=0)→Gen p A.length (W0 A.length) (N.map (List.take A.length)) (at_ x):=fun y hy hx h=>by
   have hE:El p (A.length+U.length) (x++y):=ve_el (zCH (el_ve hp hx) hy);have hK:Ker p n (A++U) (x++y):=⟨by rw [List.length_append];exact hE,fun j=>by
    by_cases hj:j<n
    ·rw [zGu hp hA hMU hx.1 hy.len hj];exact h j hj
    ·exact ZO hp (zCe hA hMU) (by rw [List.length_append,List.length_append,hx.1,hy.len]) (by omega)⟩
   have hG:=zEV hNe ((hN _ hE).2 hK);refine(zI _).eqv _ _ (Eqv.of_eq fun j=>?_) hG
   rw [qw,hx.1]
   by_cases hj:j<A.length
   ·rw [if_pos hj,if_pos hj]
   ·rw [if_neg hj,hx.beyond (by omega)]
  rcases List.mem_append.1 hx with h|h
  ·have hxE:=hu x h
   have hG:Gen p n (W0 n) (mm p n u A) (at_ (vt p n x A)):=by
    refine zT ?_;exact List.mem_map.2 ⟨x,h,rfl⟩
   have hxA:=vt_ve hp hA hxE.1;obtain⟨k,hk,e⟩:=qd hq.ok hMU (ve_el hxA) ((hU.gen _).1 hG);refine put (scl p (p-1) k) (zDu hp hk) hxE fun j hj=>?_
   rw [zKC hp hMU hk.len,e,qi,Int.add_emod_emod];exact zJ0 hp _
  ·have hxE:=hwe x h
   have hK:=(hw x hxE).1 (zT h);refine put (List.replicate U.length 0) ⟨by simp,fun j=>by rw [Qf];omega⟩ hxE fun j hj=>?_
   rw [hK.2 j,vt_at hp hMU (by simp) hj,qJ]
   ·simp
   ·intro i hi;rw [Qf,Int.zero_mul]
def dot (p:Int) (n:Nat) (x y:List Int):Int:=(sumN n fun i=>at_ x i*at_ y i) % p
theorem zJD (x y:List Int):dot p n x y=dot p n y x:=by
 unfold dot
 congr 1
 exact zl fun i _=>Int.mul_comm _ _
theorem zJ1 (hp:0<p) (hA:Ma p n A) (hx:El p n x):Ker p A.length (trm n A) x↔∀r∈A,dot p n x r=0:=by
 have hT:=QC hp hA;have at1:∀j,j<A.length→at_ (vt p A.length x (trm n A)) j=dot p n x (row A j):=fun j hj=>by
  rw [vt_at hp hT (by rw [zX];exact hx.1) hj,zX]
  unfold dot
  congr 1
  exact zl fun i hi=>by rw [zCI hj hi]
 constructor
 ·intro h r hr
  obtain⟨j,hj,rfl⟩:=List.mem_iff_getElem.1 hr;rw [←zQ hj,←at1 j hj];exact h.2 j
 ·intro h
  refine⟨by rw [zX];exact hx,fun j=>?_⟩
  by_cases hj:j<A.length
  ·rw [at1 j hj,zQ hj];exact h _ (List.getElem_mem hj)
  ·exact ZO hp hT (by rw [zX];exact hx.1) (by omega)
structure AnnL (p:Int) (n:Nat) (u a:List (List Int)):Prop where
 can:Canon p n (W0 n) a a
 mem:∀x,El p n x→(Gen p n (W0 n) a (at_ x)↔∀r∈u,dot p n x r=0)
theorem zEo (hq:pr7 p) (hA:Ma p n A) (c:Canon p (A.length+n) (W0 (A.length+n)) (wd (trm n A)) w):AnnL p n A (nul A.length w):=by
 have hp:0<p:=by have:=hq.ok.1;omega
 have hT:=QC hp hA;have hl:(trm n A).length=n:=zX
 have:=zAG hq (A:=trm n A) (n:=A.length) hT (u:=w)
 rw [hl]at this
 obtain⟨h1,h2⟩:=this c;exact⟨h1,fun x hx=>(h2 x hx).trans (zJ1 hp hA hx)⟩
theorem zFr (hp:okp p) (hu:∀r∈u,El p n r) (hy:El p n y) (hg:Gen p n (W0 n) u (at_ y)) (h:∀r∈u,dot p n x r=0):dot p n x y=0:=by
 have h0:0<p:=by have:=hp.1;omega
 obtain⟨k,hk,e⟩:=qd hp (el_ma h0 hu) hy hg;unfold dot
 have:(sumN n fun i=>at_ x i*at_ y i) % p=(sumN u.length fun t=>at_ k t*sumN n fun i=>at_ x i*at_ (row u t) i) % p:=by
  have e1:(sumN n fun i=>at_ x i*at_ y i) % p=(sumN n fun i=>sumN u.length fun t=>at_ x i*(at_ k t*at_ (row u t) i)) % p:=ZK h0 fun i hi=>by
   rw [←e,vt_at h0 (el_ma h0 hu) hk.len hi,zCc,qy]
  rw [e1,zAP]
  congr 1
  refine zl fun t _=>?_
  rw [←qy];exact zl fun i _=>by grind
 rw [this];have h2:(sumN u.length fun t=>at_ k t*sumN n fun i=>at_ x i*at_ (row u t) i) % p=(sumN u.length fun _=>(0:Int)) % p:=ZK h0 fun t ht=>by
  have:=h (row u t) (by rw [zQ ht];exact List.getElem_mem ht)
  unfold dot at this
  rw [Int.mul_emod,this];simp
 rw [h2,qJ _ fun _ _=>rfl];simp
theorem zBV (hq:pr7 p) (hA:Canon p n (W0 n) A A) (h:AnnL p n A a):A.length+a.length=n:=by
 have hp:0<p:=by have:=hq.ok.1;omega
 have hM:Ma p n A:=el_ma hp hA.base.els;have hT:=QC hp hM;have hl:(trm n A).length=n:=zX;obtain⟨w,cw,_⟩:=Zk hq (L:=wd (trm n A)) (n:=A.length+n) (by have:=wd_el hq (A:=trm n A) (n:=A.length) hT;rwa [hl]at this)
 obtain⟨w2,cw2,_⟩:=Zk hq (ma_el hT);have h1:=zJW hq hM hA cw2;have h2:=zDI hq (A:=trm n A) (n:=A.length) hT (u:=w) (w:=w2);rw [hl]at h2
 have h3:=h2 cw cw2;have h4:=zEo hq hM cw;have e:a=nul A.length w:=by
  refine h.can.unique (W0_ok hq.ok n) ⟨h4.can.base,h4.can.red,fun f=>⟨fun hf=>?_,fun hf=>?_⟩⟩
  ·exact qG (fun v hv=>(h4.mem v (h.can.base.els v hv)).2 ((h.mem v (h.can.base.els v hv)).1 (zT hv))) hf
  ·exact qG (fun v hv=>(h.mem v (h4.can.base.els v hv)).2 ((h4.mem v (h4.can.base.els v hv)).1 (zT hv))) hf
 rw [e];omega
theorem zFv (hq:pr7 p) (hA:Canon p n (W0 n) A A) (h:AnnL p n A a) (h':AnnL p n a b) (f:Vec):Gen p n (W0 n) b f↔Gen p n (W0 n) A f:=by
 have o:=W0_ok hq.ok n;have l1:=zBV hq hA h;have l2:=zBV hq h.can h';have sub:∀f,Gen p n (W0 n) A f→Gen p n (W0 n) b f:=fun f hf=>qG (fun v hv=>(h'.mem v (hA.base.els v hv)).2 fun r hr=>by
  rw [zJD];exact(h.mem r (h.can.base.els r hr)).1 (zT hr) v hv) hf
 exact⟨(zBT o hA.base h'.can.base sub).2 (by omega) f,sub f⟩
theorem zJK (hq:pr7 p) (hu:Canon p n (W0 n) u u) (hv:Canon p n (W0 n) v v) (ha:AnnL p n u a) (hb:AnnL p n v b) (hs:Canon p n (W0 n) (a++b) s) (hm:AnnL p n s M):
  Canon p n (W0 n) M M∧∀x,El p n x→(Gen p n (W0 n) M (at_ x)↔Gen p n (W0 n) u (at_ x)∧Gen p n (W0 n) v (at_ x)):=by
 have hp:0<p:=by have:=hq.ok.1;omega
 have ex:∀{c:List (List Int)},Canon p n (W0 n) c c→∃d,AnnL p n c d:=fun {c} hc=>by
  have hM:Ma p n c:=el_ma hp hc.base.els;have hT:=QC hp hM;have hl:(trm n c).length=n:=zX;obtain⟨w,cw,_⟩:=Zk hq (L:=wd (trm n c)) (n:=c.length+n) (by have:=wd_el hq (A:=trm n c) (n:=c.length) hT;rwa [hl]at this)
  exact⟨_,zEo hq hM cw⟩
 obtain⟨a',ha'⟩:=ex ha.can;obtain⟨b',hb'⟩:=ex hb.can;refine⟨hm.can,fun x hx=>?_⟩
 rw [hm.mem x hx,←zFv hq hu ha ha',←zFv hq hv hb hb',ha'.mem x hx,hb'.mem x hx];constructor
 ·intro h
  have key:∀r∈a++b,El p n r→dot p n x r=0:=fun r hr hE=>zFr hq.ok hs.base.els hE ((hs.gen _).1 (zT hr)) h
  exact⟨fun r hr=>key r (List.mem_append_left _ hr) (ha.can.base.els r hr),fun r hr=>key r (List.mem_append_right _ hr) (hb.can.base.els r hr)⟩
 ·rintro ⟨h1,h2⟩ r hr
  refine zFr hq.ok (u:=a++b) (fun r hr=>?_) (hs.base.els r hr) ((hs.gen _).2 (zT hr)) fun r hr=>?_
  ·rcases List.mem_append.1 hr with h | h
   ·exact ha.can.base.els r h
   ·exact hb.can.base.els r h
  ·rcases List.mem_append.1 hr with h | h
   ·exact h1 r h
   ·exact h2 r h
theorem zH8 (hp:okp p) (hu:Canon p n (W0 n) L u) (hx:Ve p u.length x) (hy:Ve p u.length y) (h:vt p n x u=vt p n y u):x=y:=by
 have h0:0<p:=by have:=hp.1;omega
 have hM:Ma p n u:=el_ma h0 hu.base.els;have key:∀{x:List Int},Ve p u.length x→∀i,i<u.length→at_ (vt p n x u) (dep (row u i))=at_ x i:=fun {x} hx i hi=>by
  have hL:=hu.base.led u[i] (List.getElem_mem hi);have hd:dep (row u i)<n:=by rw [zQ hi];exact hL.2.1
  rw [vt_at h0 hM hx.len hd,ZJ (k:=i) hi]
  ·rw [zQ hi,hL.2.2,Int.mul_one]
   have:=hx.bd i
   exact Int.emod_eq_of_lt this.1 this.2
  ·intro j hj hne
   have ha:=List.pairwise_iff_getElem.1 hu.base.asc;have hne':dep u[j]≠dep u[i]:=by
    rcases Nat.lt_or_gt_of_ne hne with g|g
    ·have:=ha j i hj hi g;omega
    ·have:=ha i j hi hj g;omega
   rw [zQ hj,zQ hi,hu.off (List.getElem_mem hj) (List.getElem_mem hi) hne',Int.mul_zero]
 exact hx.ext hy fun i hi=>by rw [←key hx i hi,h,key hy i hi]
theorem zHy (hq:pr7 p) (hA:Ma p n A) (hu:Canon p A.length (W0 A.length) u u) (hU:Canon p n (W0 n) (mm p n u A) U) (hM:Canon p A.length (W0 A.length) M M)
  (hm:∀x,El p A.length x→(Gen p A.length (W0 A.length) M (at_ x)↔Gen p A.length (W0 A.length) u (at_ x)∧Ker p n A x)):U.length+M.length=u.length:=by
 have h2:=hq.ok.1;have hp:0<p:=by omega
 have hMu:Ma p A.length u:=el_ma hp hu.base.els;have hmm:=mm_ma hp hMu hA;have hl:(mm p n u A).length=u.length:=zn;obtain⟨w,cw,_⟩:=Zk hq (wd_el hq hmm);have h3:=zDI hq hmm cw hU;obtain⟨cn,hn⟩:=zAG hq hmm cw;rw [hl]at h3 cn hn
 generalize nul n w=N at *
 have hMN:Ma p u.length N:=el_ma hp cn.base.els;have hMM:Ma p A.length M:=el_ma hp hM.base.els
 -- a vector k of N gives k u in M
 have e1:M.length≤N.length:=by
  have:=zAS hq (M:=mm p A.length N u) (ma_el (mm_ma hp hMN hMu)) hM.base fun x hx=>by
   have hxE:=hM.base.els x hx;obtain⟨h4,h5⟩:=(hm x hxE).1 (zT hx);obtain⟨k,hk,e⟩:=qd hq.ok hMu hxE h4;have hkK:Ker p n (mm p n u A) k:=⟨by rw [hl];exact ve_el hk,fun j=>by rw [←vt_mm hp hMu hA hk.len,e];exact h5.2 j⟩
   obtain⟨c,hc,e2⟩:=qd hq.ok hMN (ve_el hk) ((hn k (ve_el hk)).2 hkK);rw [←e,←e2,vt_mm hp hMN hMu hc.len];exact QX hp (mm_ma hp hMN hMu) (by rw [zn];exact hc.len)
  rwa [zn]at this
 have e2:N.length≤M.length:=by
  have hco:∀x,∃k:List Int,x∈M→Ve p u.length k∧vt p A.length k u=x:=fun x=>by
   by_cases hx:x∈M
   ·have hxE:=hM.base.els x hx
    obtain⟨k,hk,e⟩:=qd hq.ok hMu hxE ((hm x hxE).1 (zT hx)).1;exact⟨k,fun _=>⟨hk,e⟩⟩
   ·exact⟨[],fun h=>absurd h hx⟩
  let cf:=fun x=>Classical.choose (hco x)
  have hcf:∀x∈M,Ve p u.length (cf x)∧vt p A.length (cf x) u=x:=fun x hx=>Classical.choose_spec (hco x) hx
  have hC:Ma p u.length (M.map cf):=fun r hr=>by
   obtain⟨x,hx,rfl⟩:=List.mem_map.1 hr;exact(hcf x hx).1
  have hCM:mm p A.length (M.map cf) u=M:=by
   unfold mm;rw [List.map_map]
   conv=>rhs;rw [←List.map_id M]
   exact List.map_congr_left fun x hx=>(hcf x hx).2
  have:=zAS hq (M:=M.map cf) (ma_el hC) cn.base fun k hk=>by
   have hkE:=cn.base.els k hk;have hkK:=(hn k hkE).1 (zT hk);have hkv:=el_ve hp hkE;have hx:=vt_ve hp hMu hkE.1;have hxK:Ker p n A (vt p A.length k u):=⟨ve_el hx,fun j=>by rw [vt_mm hp hMu hA hkE.1];exact hkK.2 j⟩
   obtain⟨c,hc,e⟩:=qd hq.ok hMM (ve_el hx) ((hm _ (ve_el hx)).2 ⟨QX hp hMu hkE.1,hxK⟩);have hcl:c.length=(M.map cf).length:=by rw [List.length_map];exact hc.len
   rw [←hCM,←vt_mm hp hC hMu hcl]at e
   have:=zH8 hq.ok hu (vt_ve hp hC hcl) hkv e
   rw [←this];exact QX hp hC hcl
  rwa [List.length_map]at this
 omega
end Go.Lie
namespace Go.Grp
end Go.Grp
namespace Go.Proofs
open Go.Ab Go.Lie Go.Grp Go.Mx
variable {σ:PHeap} {K:PV→PHeap→Prop} {p d p' d' c:Int} {n n':Nat} {As Bs:List (List (List Int))} {F F':List (List Int)} {vA vB vF vF':PV} {O:List Int} {P:List (List Int)} {C:List (List (List Int))} {vO vP vC:PV} {s s':Nat}
def isMx (p c:Int) (F:List (List Int)):Prop:=isP p∧(0≤c∧c≤8)∧F.length≤8∧Ma p c.toNat F
theorem Zy (sz:SzL F) (hF:FII vF F) (hk:∀t:Bool,(t=true↔isMx p c F)→K (.bool t) σ):zC Try.prog 37 [.agg [.int .i64 p,.int .i64 c,vF]] σ K:=by
 have fl:∀{A:Prop},¬A→((false=true)↔A):=fun h=>⟨fun x=>(by cases x),fun x=>absurd x h⟩
 have h1:=hF.one;have szl:=sz.l
 by_cases hm:isP p∧(0≤c∧c≤8)∧F.length≤8
 ·obtain⟨hp,hc,hl⟩:=hm
  obtain⟨n,rfl⟩:∃n:Nat,c=(n:Int):=⟨c.toNat,by omega⟩
  exact zFd hp (by omega) hl (fun r hr=>sz.r r hr) hF fun t ht=>hk t ⟨fun h=>⟨hp,hc,hl,ht.1 h⟩,fun h=>ht.2 h.2.2.2⟩
 obtain⟨wA,aA,rA,rfl,hrA⟩:=hF;have no:¬isMx p c F:=fun h=>hm ⟨h.1,h.2.1,h.2.2.1⟩
 refine zC.gh ?_;refine zD mix Try.func37 ?_
 conv=>arg 2;cbv
 refine zG rfl ?_;simp only [pwA,seval,-iQ0,h1];refine Qw ?_
 by_cases hp:isP p
 rotate_left
 ·simp only [pwA,seval,-iQ0,hp]
  exact Gh.fin0 (zF σ _) trivial (hk _ (fl no))
 simp only [pwA,seval,-iQ0,hp];refine zA0 ?_
 by_cases hc:0≤c∧c≤8
 rotate_left
 ·simp only [pwA,seval,-iQ0,hc]
  exact Gh.fin0 (zF σ _) trivial (hk _ (fl no))
 have hl:(8:Int)<(F.length:Int):=by
  have:¬F.length≤8:=fun h=>hm ⟨hp,hc,h⟩
  omega
 simp only [pwA,seval,-iQ0,hc,hl];exact Gh.fin0 (zF σ _) trivial (hk _ (fl no))
theorem zAy (sz:SzL F) (hF:FII vF F) (hk:∀t:Bool,(t=true↔isMx p c F)→K (.bool t) σ):zC Try.prog 36 [.agg [.int .i64 p,.int .i64 c,vF]] σ K:=by
 have fl:∀{A:Prop},¬A→((false=true)↔A):=fun h=>⟨fun x=>(by cases x),fun x=>absurd x h⟩
 have h1:=hF.one;have szl:=sz.l;obtain⟨wA,aA,rA,rfl,hrA⟩:=hF;refine zC.gh ?_;have hkp:=zF σ [.int .i64 p,.int .i64 c,.fz wA aA F.length rA];have no:¬isMx p c F→Gh σ K (.bool false) (σ.new [.int .i64 p,.int .i64 c,.fz wA aA F.length rA]):=fun h=>Gh.fin0 hkp trivial (hk _ (fl h))
 refine zD mix Try.func36 ?_
 conv=>arg 2;cbv
 refine zG rfl ?_;simp only [pwA,seval,-iQ0,h1];refine zFU ?_
 by_cases hp:isP p
 rotate_left
 ·simp only [pwA,seval,-iQ0,hp]
  exact no fun h=>hp h.1
 have hpb:=hp.bd;simp only [pwA,seval,-iQ0,hp];refine zEP ?_
 by_cases hc:0≤c∧c≤8
 rotate_left
 ·simp only [pwA,seval,-iQ0,hc]
  exact no fun h=>hc h.2.1
 by_cases hl:F.length≤8
 rotate_left
 ·have hl':(8:Int)<(F.length:Int):=by omega
  simp only [pwA,seval,-iQ0,hc,hl'];exact no fun h=>hl h.2.2.1
 have hl':¬(8:Int)<(F.length:Int):=by omega
 obtain⟨n,hn⟩:∃n:Nat,c=(n:Int):=⟨c.toNat,by omega⟩
 subst hn;have hcn:((n:Int)).toNat=n:=rfl;simp only [pwA,seval,-iQ0,hc,hl'];refine zR (fun m vs h'=>∃i:Nat,i≤F.length∧m=F.length-i∧vs=[.ptr σ.next 0,.int .i64 i]∧σ.new [.int .i64 p,.int .i64 n,.fz wA aA F.length rA]=h'∧∀r∈F.take i,Ve p n r) F.length ?_ ?_
 ·exact⟨0,by omega,by omega,rfl,rfl,by simp⟩
 rintro m vs h' ⟨i,hi,rfl,rfl,rfl,hall⟩
 simp only [pwA,seval,-iQ0];refine iteI (fun hlt=>?_) fun hge=>?_
 rotate_left
 ·exact Gh.fin0 hkp trivial (hk _ ⟨fun _=>⟨hp,hc,hl,fun r hr=>hall r (by rwa [List.take_of_length_le (by omega)])⟩,fun _=>rfl⟩)
 obtain⟨w4,a4,hr⟩:=hrA.rowI hlt;have hb:=sz.r _ (List.getElem_mem hlt);simp only [pwA,seval,-iQ0,hlt,hr];refine zEN rfl (by omega) (by omega) (by omega) ?_
 by_cases hv:isVec F[i] p (n:Int)
 ·simp only [pwA,seval,-iQ0,hv,wrapS hlt (by omega:F.length≤4611686018427387904)]
  refine⟨_,by omega,i+1,by omega,rfl,rfl,fun r hr=>?_⟩
  rw [List.take_succ_eq_append_getElem hlt,List.mem_append,List.mem_singleton]at hr
  rcases hr with hr|rfl
  ·exact hall r hr
  ·exact(zCG (by omega)).1 hv
 ·simp only [pwA,seval,-iQ0,hv]
  exact no fun h=>hv ((zCG (by omega)).2 (h.2.2.2 _ (List.getElem_mem hlt)))
end Go.Proofs
namespace Go.Proofs
open Go.Ab Go.Lie
variable {σ σ0 σ1 h h':PHeap} {K:PV→PHeap→Prop} {vC:PV} {bs:List Int} {s:Nat}
def So (σ:PHeap) (s:Nat) (vC:PV) (bs:List Int):Prop:=∃a sd,Src σ s vC bs a sd
def Mv (σ:PHeap) (s:Nat) (σ':PHeap):Prop:=∃c0 c1,σ.obj s=some c0∧Bels 0 c1∧σ'=σ.set s c1
def KM (σ:PHeap) (s:Nat) (h:PHeap):Prop:=∃σ',Mv σ s σ'∧Keep σ' h
theorem Mv.next (m:Mv σ s h):h.next=σ.next:=by obtain⟨_,_,_,_,rfl⟩:=m;rfl
theorem Mv.top (m:Mv σ s h):h.top=σ.top:=by obtain⟨_,_,_,_,rfl⟩:=m;rfl
theorem Mv.obj (m:Mv σ s h) {t:Nat} (ht:t≠s):h.obj t=σ.obj t:=by obtain⟨_,_,_,_,rfl⟩:=m;rw [zJ,if_neg ht]
theorem So.lt (k:So σ s vC bs):s<σ.next:=by obtain⟨_,_,k⟩:=k;exact k.lt
theorem So.mv (k:So σ s vC bs) {a:Nat} {sd:Int} (ha:a≤bs.length) (hs:0≤sd∧sd<2147483647):Mv σ s (σ.set s (srcC vC a sd))∧So (σ.set s (srcC vC a sd)) s vC bs:=by
 obtain⟨a0,sd0,k⟩:=k;exact⟨⟨_,_,k.obj,k.fb.bels _ _ _,rfl⟩,a,sd,k.set ha hs⟩
theorem So.mv0 (k:So σ s vC bs):Mv σ s σ:=by
 obtain⟨a0,sd0,k⟩:=k;exact⟨_,_,k.obj,k.fb.bels _ _ _,(QY k.obj).symm⟩
theorem So.keep (k:So σ s vC bs) (hk:Keep σ h):So h s vC bs:=by
 obtain⟨a0,sd0,k⟩:=k;exact⟨_,_,k.keep hk⟩
theorem So.set (k:So σ s vC bs) {t:Nat} (ht:s≠t) (cs:List PV):So (σ.set t cs) s vC bs:=by
 obtain⟨a0,sd0,k⟩:=k;exact⟨a0,sd0,by rw [zJ,if_neg ht];exact k.obj,k.lt,k.fb,k.byt,k.le,k.sd⟩
theorem KM.keep (k:KM σ s h) (hk:Keep h h'):KM σ s h':=by
 obtain⟨σ',m,q⟩:=k;exact⟨σ',m,q.trans hk⟩
theorem KM.next (k:KM σ s h):σ.next≤h.next:=by
 obtain⟨σ',m,q⟩:=k;rw [←m.next];exact q.next
theorem KM.obj (k:KM σ s h) {t:Nat} (ht:t<σ.next) (hn:t≠s):h.obj t=σ.obj t:=by
 obtain⟨σ',m,q⟩:=k;rw [q.obj t (by rw [m.next];exact ht),m.obj hn]
theorem So.km (k:So σ s vC bs):KM σ s σ:=⟨σ,k.mv0,Keep.refl _⟩
theorem So.kmK (k:So σ s vC bs) (hk:Keep σ h):KM σ s h:=⟨σ,k.mv0,hk⟩
theorem KM.new (k:KM σ s h) (cs:List PV):KM σ s (h.new cs):=k.keep (zF h cs)
theorem KM.set (k:KM σ s h) {t:Nat} (ht:σ.next≤t) (cs:List PV):KM σ s (h.set t cs):=by
 obtain⟨σ',m,q⟩:=k;exact⟨σ',m,q.set (by rw [m.next];exact ht) cs⟩
theorem KM.mv (k:KM σ s h) (hs:s<σ.next) (m':Mv h s h'):KM σ s h':=by
 obtain⟨σ',⟨c0,c1,h0,h1,rfl⟩,q⟩:=k;obtain⟨d0,d1,g0,g1,rfl⟩:=m';refine⟨σ.set s d1,⟨c0,d1,h0,g1,rfl⟩,q.next,q.top,fun t ht=>?_⟩
 rw [zJ,zJ]
 split
 ·rfl
 ·rename_i e
  rw [q.obj t ht,zJ,if_neg e]
theorem KM.trans (k:KM σ s h) (hs:s<σ.next) (k':KM h s h'):KM σ s h':=by
 obtain⟨σ',m,q⟩:=k';exact(k.mv hs m).keep q
theorem Gh.km {v:PV} (k:KM σ s h) (so:So h s vC bs) (hs:s<σ.next) (c:∀σ',Mv σ s σ'→So σ' s vC bs→Keep σ' h→Gh σ' K v h):Gh σ K v h:=by
 obtain⟨σ',m,q⟩:=k;obtain⟨c0,c1,h0,h1,e⟩:=m;obtain⟨a,sd,S⟩:=so;have hs':s<σ'.next:=by rw [e];exact hs
 have so':So σ' s vC bs:=⟨a,sd,by rw [←q.obj s hs'];exact S.obj,hs',S.fb,S.byt,S.le,S.sd⟩
 have:=c σ' ⟨c0,c1,h0,h1,e⟩ so' q
 rw [e]at this
 exact Gh.setS h0 h1 this
theorem zo {n:Int} (so:So σ s vC bs) (hn:n≤4611686018427387904) (hk:∀x h,Nx n x→Mv σ s h→So h s vC bs→K (.int .i64 x) h):zC Try.prog 42 [.ptr s 0,.int .i64 n] σ K:=by
 obtain⟨a,sd,S⟩:=so;refine zGa S hn fun x a' sd' hx ha hs=>?_
 obtain⟨m1,m2⟩:=So.mv ⟨a,sd,S⟩ ha hs;exact hk x _ hx m1 m2
end Go.Proofs
namespace Go.Proofs
open Go.Ab
def if6:IFn:=⟨[0],[(.tmp 2)],(S0 (R0 [0] [tI0 2 false])
 (S0 (.seq (R0 [0,18] [mI0 17 0,C1 18 8 17])
 (.cond (.t 18) (S0 (R0 [2] [tI0 2 true])
 .ret) .skip))
 (S0 (R0 [3,4] [mI0 20 0,C1 21 27 20,mI0 19 21,eI0 22 19 0,eI0 23 19 1,eI 3 (.alloc [(.int .i64 0),(.int .i64 0),.nils]),eI 4 (.alloc [(.int .i64 0),(.int .i64 0),.nils]),vI0 3 3 22,vI0 3 4 23])
 (S0 (R0 [3,4,5,6] [LI0 25 3,LI0 26 4,C2 27 18 25 26,mI0 24 27,eI0 28 24 0,eI0 29 24 1,eI 5 (.alloc [(.int .i64 0),(.int .i64 0),.nils]),vI0 3 5 28,mI0 6 29])
 (S0 (R0 [3,4,5,6,7,8] [LI0 31 3,LI0 32 4,C2 33 16 31 32,mI0 30 33,eI0 34 30 0,eI0 35 30 1,eI 7 (.alloc [(.int .i64 0),(.int .i64 0),.nils]),vI0 3 7 34,mI0 8 35])
 (S0 (.seq (R0 [3,4,5,6,44] [mI0 36 6,mI0 37 8,bI0 38 .neq 36 37,mI0 39 38,G0 40 (.load true 3 (.t 5)) true 39 false,G0 41 (.load true 3 (.t 7)) true 39 false,G0 42 (.call 12 [(.t 40),(.t 41)]) false 39 false,G0 43 (.un .not (.t 42)) true 39 false,oI0 44 39 43])
 (.cond (.t 44) (S0 (R0 [2] [tI0 2 false])
 .ret) .skip))
 (S0 (.seq (R0 [3,4,5,46] [mI0 45 6,cI0 46 .neq 45 0])
 (.cond (.t 46) (S0 (R0 [2] [tI0 2 true])
 .ret) .skip))
 (S0 (R0 [3,4,5,9,10] [LI0 48 5,LI0 49 4,C2 50 28 48 49,mI0 47 50,eI0 51 47 0,eI0 52 47 1,eI 9 (.alloc [(.int .i64 0),(.int .i64 0),.nils]),vI0 3 9 51,mI0 10 52])
 (S0 (R0 [3,5,9,10,11,12] [LI0 54 4,C1 55 29 54,mI0 53 55,eI0 56 53 0,eI0 57 53 1,eI 11 (.alloc [(.int .i64 0),(.int .i64 0),.nils]),vI0 3 11 56,mI0 12 57])
 (S0 (R0 [3,5,9,10,11,12,13,14] [LI0 59 3,LI0 60 11,C2 61 30 59 60,mI0 58 61,eI0 62 58 0,eI0 63 58 1,eI 13 (.alloc [(.int .i64 0),(.int .i64 0),.nils]),vI0 3 13 62,mI0 14 63])
 (S0 (.seq (R0 [3,5,11,79] [mI0 64 10,cI0 65 .neq 64 0,mI0 66 65,gm0 67 12 66 false,G0 68 (.bin .neq .other (.t 67) (I0 0)) true 66 false,oI0 69 66 68,mI0 70 69,gm0 71 14 70 false,G0 72 (.bin .neq .other (.t 71) (I0 0)) true 70 false,oI0 73 70 72,mI0 74 73,G0 75 (.load true 3 (.t 9)) true 74 false,G0 76 (.load true 3 (.t 13)) true 74 false,G0 77 (.call 12 [(.t 75),(.t 76)]) false 74 false,G0 78 (.un .not (.t 77)) true 74 false,oI0 79 74 78])
 (.cond (.t 79) (S0 (R0 [2] [tI0 2 false])
 .ret) .skip))
 (S0 (R0 [3,5,15,16] [LI0 81 3,LI0 82 11,C2 83 31 81 82,mI0 80 83,eI0 84 80 0,eI0 85 80 1,eI 15 (.alloc [(.int .i64 0),(.int .i64 0),.nils]),vI0 3 15 84,mI0 16 85])
 (S0 (R0 [2] [mI0 86 16,cI0 87 .eql 86 0,mI0 88 87,G0 89 (.fieldAddr 2 (.t 5)) true 88 true,G0 90 (.load false 1 (.t 89)) true 88 true,G0 91 (.len (.t 90)) true 88 true,G0 92 (.fieldAddr 2 (.t 15)) true 88 true,G0 93 (.load false 1 (.t 92)) true 88 true,G0 94 (.len (.t 93)) true 88 true,G0 95 (.bin .add .other (.t 91) (.t 94)) true 88 true,G0 96 (.fieldAddr 2 (.t 3)) true 88 true,G0 97 (.load false 1 (.t 96)) true 88 true,G0 98 (.len (.t 97)) true 88 true,G0 99 (.bin .eql .other (.t 95) (.t 98)) true 88 true,aI0 100 88 99,mI0 2 100])
 .ret)))))))))))))⟩
theorem cf6:cF Try.prog Try.f6=some if6:=by kernel_rfl
end Go.Proofs
namespace Go.Proofs.Ytcooahfdjlhmdaa
open Go.ChangeShapes Go.WideShapes Go.ChangeAt Go.RowKit Go.Ab Go.Joins Go.Lie Go.Proofs
theorem own:ownKnob Try.prog.godebug=none:=by kernel_rfl
theorem laidOut:laidOutB Try.prog=true:=by kernel_rfl
variable {H:Type} {enc:TypeId×Value→H} {W w0:World} {j:Inj} {h:AHeap}
end Go.Proofs.Ytcooahfdjlhmdaa
namespace Go.Proofs.Ytcooahfdjlhmdaa
open Go.ChangeShapes Go.WideShapes Go.ChangeAt Go.RowKit Go.Ab Go.Joins Go.Lie Go.Proofs
variable {H:Type} {enc:TypeId×Value→H} {W w0:World} {j:Inj} {h:AHeap}
theorem cell8:Try.prog.cellsOf 5=1:=by kernel_rfl
theorem lay8:Lay1 enc Try.prog W 5 (fun pv (n:Int)=>pv=.int .u8 n∧0≤n∧n≤255):=by
 intro w0 j h held fuel v x m hx;obtain⟨n,hn,_,hw⟩:=DataW.trod_int Try.underlying5 hx;simp only [List.cons.injEq,and_true]at hn
 subst hn;simp only [Lit.wf,Bool.and_eq_true,decide_eq_true_eq]at hw
 have h1:IntKind.u8.min=0:=by rfl
 have h2:IntKind.u8.max=255:=by rfl
 rw [h1,h2]at hw
 exact⟨j,h,.int .u8 n,n,m,Inj.le.refl _,Ext.refl m.wf,rfl,trivial,rfl,rfl,hw.1,hw.2⟩
theorem FL.bytes {v:PV} {xs:List Int} (h:FL (fun pv (n:Int)=>pv=.int .u8 n∧0≤n∧n≤255) v xs):FB v xs:=by
 obtain⟨w,a,rows,rfl,hr⟩:=h;refine⟨w,a,?_⟩
 congr 1
 apply List.ext_getElem?;intro k;rw [List.getElem?_map];rcases Nat.lt_or_ge k xs.length with x|x
 ·obtain⟨pv,h1,h2⟩:=hr.get x
  rw [h1,gi x,h2.1];rfl
 ·rw [List.getElem?_eq_none (by rw [hr.1];exact x),List.getElem?_eq_none x];rfl
theorem layB:Lay1 enc Try.prog W 22 (fun v (xs:List Int)=>FB v xs∧∀b∈xs,0≤b∧b≤255):=by
 intro w0 j h held fuel v x m hx;obtain⟨j',h',pv,a,g1,g2,g3,g4,g5,g6,g7,g8⟩:=zHq Try.underlying22 cell8 lay8 w0 j h held fuel v x m hx;exact⟨j',h',pv,a,g1,g2,g3,g4,g5,g6,FL.bytes g7,g7.all fun _ _ k=>k.2⟩
end Go.Proofs.Ytcooahfdjlhmdaa
