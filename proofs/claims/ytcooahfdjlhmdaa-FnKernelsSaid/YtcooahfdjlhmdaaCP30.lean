/- A list of bytes that a law is handed, laid as a frozen value. -/
import Derived.Test.YtcooahfdjlhmdaaCP28
import Derived.Test.YtcooahfdjlhmdaaCP26
import Derived.Test.YtcooahfdjlhmdaaCAbPz
import Derived.Test.YtcooahfdjlhmdaaCAbPt
import Derived.Test.YtcooahfdjlhmdaaChecked
import Derived.Test.YtcooahfdjlhmdaaRows
import Derived.Lib.SmallJoins
import Derived.WalkKit
import Derived.ProofKit
open Int renaming reduceNatCast'→iQ0
set_option maxRecDepth 100000
set_option linter.unusedVariables false
set_option linter.unusedSimpArgs false
namespace Go.Lie
open Go.Ab Go.Mx
variable {p:Int} {n m:Nat} {L M A u w:List (List Int)} {x y v:List Int}
abbrev pr7 (p:Int):Prop:=p=2∨p=3∨p=5∨p=7
theorem pr7.ok (h:pr7 p):okp p:=by unfold okp;omega
theorem zEM (hq:pr7 p) (hL:∀v∈L,El p n v):∀k,k≤L.length→∃u,Canon p n (W0 n) (L.take k) u∧u.length≤k
 | 0,_=>⟨[],by rw [List.take_zero];exact zAI,Nat.le_refl _⟩
 | k+1,hk=>by
  obtain⟨u,c,hu⟩:=zEM hq hL k (by omega)
  have hx:=hL _ (List.getElem_mem (show k<L.length by omega))
  rw [List.take_succ_eq_append_getElem (by omega)]
  have hr:=qc (W0_ok hq.ok n) c.base.els hx
  by_cases h:dep (redL p (W0 n) u L[k])=n
  ·exact⟨u,c.skip0 hq.ok hx h,by omega⟩
  ·have hd:dep (redL p (W0 n) u L[k])<n:=by have:=zCP (redL p (W0 n) u L[k]);rw [hr.1]at this;omega
   have h0:=hr.at0 (W0_ok hq.ok n) (dep (redL p (W0 n) u L[k]));have h1:at_ (redL p (W0 n) u L[k]) (dep (redL p (W0 n) u L[k]))≠0:=qP (by rw [hr.1];exact hd)
   obtain⟨q,_,_,hq'⟩:=zHe hq (a:=at_ (redL p (W0 n) u L[k]) (dep (redL p (W0 n) u L[k]))) (by omega) (by omega)
   refine⟨_,(c.put hq.ok hx hd hq').1,?_⟩;rw [Q0,List.length_map];omega
theorem zC8 (hq:pr7 p) (hL:∀v∈L,El p n v):∃u,Canon p n (W0 n) L u∧u.length≤L.length:=by
 have:=zEM hq hL L.length (Nat.le_refl _)
 rwa [List.take_length]at this
theorem zFP (hq:pr7 p) (hL:∀v∈L,El p n v) (c:Canon p n (W0 n) L u):u.length≤L.length:=by
 obtain⟨u',c',h⟩:=zC8 hq hL;rw [c.unique (W0_ok hq.ok n) c'];exact h
theorem zH4 (hq:pr7 p) (hM:∀v∈M,El p n v) (hu:Base p n (W0 n) u) (h:∀v∈u,Gen p n (W0 n) M (at_ v)):u.length≤M.length:=by
 obtain⟨w,c,hw⟩:=zC8 hq hM
 have:=(zCm (W0_ok hq.ok n) hu c.base fun f hf=>(c.gen f).1 (qa h hf)).1
 omega
theorem ma_el (hA:Ma p n A):∀v∈A,El p n v:=fun v hv=>ve_el (hA v hv)
theorem el_ma (hp:0<p) (h:∀v∈A,El p n v):Ma p n A:=fun v hv=>el_ve hp (h v hv)
def wd (A:List (List Int)):List (List Int):=(List.range A.length).map fun i=>row A i++uv A.length i
theorem zb:(wd A).length=A.length:=by simp [wd]
theorem Q7 {i:Nat} (hi:i<A.length):row (wd A) i=row A i++uv A.length i:=by rw [zP (by rw [zb];exact hi)];simp [wd]
theorem qx {a b:List Int} (j:Nat):at_ (a++b) j=if j<a.length then at_ a j else at_ b (j-a.length):=by
 unfold at_;rw [List.getD_eq_getElem?_getD,List.getElem?_append]
 split<;>simp [List.getD_eq_getElem?_getD]
theorem zBv {a b:List Int} (ha:Ve p n a) (hb:Ve p m b):Ve p (n+m) (a++b):=⟨by rw [List.length_append,ha.len,hb.len],fun j=>by
 rw [qx];split
 ·exact ha.bd j
 ·exact hb.bd _⟩
theorem wd_ma (hq:pr7 p) (hA:Ma p n A):Ma p (n+A.length) (wd A):=fun r hr=>by
 have:=hq.ok.1
 simp only [wd,List.mem_map,List.mem_range]at hr
 obtain⟨i,hi,rfl⟩:=hr;exact zBv (hA.row hi) (uv_ve (by omega) hi)
theorem vt_wd (hq:pr7 p) (hA:Ma p n A) (hv:Ve p A.length v):vt p (n+A.length) v (wd A)=vt p n v A++v:=by
 have h2:=hq.ok.1;have hp:0<p:=by omega
 have hW:=wd_ma hq hA;have hl:v.length=(wd A).length:=by rw [hv.len,zb]
 have h1:=vt_ve hp hA hv.len;refine(vt_ve hp hW hl).ext (zBv h1 hv) fun j hj=>?_
 rw [vt_at hp hW hl hj,zb,qx,h1.len]
 split
 ·rename_i hjn
  rw [vt_at hp hA hv.len hjn]
  congr 1
  exact qR fun k hk=>by rw [Q7 hk,qx,(hA.row hk).len,if_pos hjn]
 ·rename_i hjn
  rw [ZY (k:=j-n) (by omega)]
  ·rw [Q7 (by omega),qx,(hA.row (by omega)).len,if_neg hjn,uv_at (by omega),if_pos rfl,Int.mul_one]
   have:=hv.bd (j-n)
   exact Int.emod_eq_of_lt this.1 this.2
  ·intro i hi hne
   rw [Q7 hi,qx,(hA.row hi).len,if_neg hjn,uv_at hi,if_neg (by omega),Int.mul_zero]
theorem zBs (hq:pr7 p) (hA:Ma p n A) {z:List Int} (hz:El p (n+A.length) z):Gen p (n+A.length) (W0 (n+A.length)) (wd A) (at_ z)↔∃v,Ve p A.length v∧z=vt p n v A++v:=by
 have h2:=hq.ok.1;constructor
 ·intro h
  obtain⟨v,hv,e⟩:=zCq hq.ok (wd_ma hq hA) hz h;rw [zb]at hv
  exact⟨v,hv,by rw [←e,vt_wd hq hA hv]⟩
 ·rintro ⟨v,hv,rfl⟩
  rw [←vt_wd hq hA hv];exact zDQ (by omega) (wd_ma hq hA) (by rw [hv.len,zb])
def Ker (p:Int) (n:Nat) (A:List (List Int)) (x:List Int):Prop:=El p A.length x∧∀j,at_ (vt p n x A) j=0
def nul (n:Nat) (u:List (List Int)):List (List Int):=(Fp u n).map (List.drop n)
theorem zIz {z:List Int} (h:n≤dep z) (hz:dep z<z.length):dep (z.drop n)=dep z-n:=by
 have hat:∀j,at_ (z.drop n) j=at_ z (n+j):=fun j=>by simp [at_,List.getD_eq_getElem?_getD]
 refine Zr (fun j hj=>?_) ?_
 ·rw [hat];exact zR (by omega)
 ·rw [hat,show n+(dep z-n)=dep z by omega];exact qP hz
theorem QT (z:List Int) (j:Nat):at_ (z.drop n) j=at_ z (n+j):=by simp [at_,List.getD_eq_getElem?_getD]
theorem zAH {z:List Int} (hz:El p (n+m) z):El p m (z.drop n):=⟨by rw [List.length_drop,hz.1];omega,fun x hx=>hz.2 x (List.mem_of_mem_drop hx)⟩
theorem zAm (hq:pr7 p) (hA:Ma p n A) (c:Canon p (n+A.length) (W0 (n+A.length)) (wd A) u):
  Canon p A.length (W0 A.length) (nul n u) (nul n u)∧∀x,El p A.length x→(Gen p A.length (W0 A.length) (nul n u) (at_ x)↔Ker p n A x):=by
 have h2:=hq.ok.1;have hp:0<p:=by omega
 have o:=W0_ok hq.ok (n+A.length);have hm:∀t∈nul n u,∃r∈u,n≤dep r∧t=r.drop n:=fun t ht=>by
  obtain⟨r,hr,rfl⟩:=List.mem_map.1 ht;exact⟨r,(ZM.1 hr).1,(ZM.1 hr).2,rfl⟩
 have hdep:∀r∈u,n≤dep r→dep (r.drop n)=dep r-n:=fun r hr hn=>zIz hn (by have:=c.base.led r hr;rw [this.1.1];exact this.2.1)
 have hled:∀t∈nul n u,Led p A.length t:=fun t ht=>by
  obtain⟨r,hr,hn,rfl⟩:=hm t ht;have hL:=c.base.led r hr;refine⟨zAH hL.1,by rw [hdep r hr hn];have:=hL.2.1;omega,?_⟩
  rw [hdep r hr hn,QT,show n+(dep r-n)=dep r by omega];exact hL.2.2
 have hasc:Asc (nul n u):=by
  unfold Asc nul;rw [List.pairwise_map];refine List.Pairwise.imp_of_mem (fun {a b} ha hb h=>?_) (c.base.asc.filter _)
  rw [hdep a (ZM.1 ha).1 (ZM.1 ha).2,hdep b (ZM.1 hb).1 (ZM.1 hb).2]
  have:=(ZM.1 ha).2
  omega
 refine⟨zEN hled hasc (fun v hv w hw hne=>?_) fun f=>Iff.rfl,fun x hx=>⟨fun h=>?_,fun h=>?_⟩⟩
 ·obtain⟨r,hr,hn,rfl⟩:=hm v hv
  obtain⟨s,hs,hn',rfl⟩:=hm w hw;rw [hdep r hr hn,hdep s hs hn']at hne
  rw [hdep s hs hn',QT,show n+(dep s-n)=dep s by omega]
  exact c.off hr hs (by omega)
 ·refine⟨hx,?_⟩
  -- each row is in the kernel, and the kernel is closed
  have hk:∀t∈nul n u,∀j,at_ (vt p n t A) j=0:=fun t ht j=>by
   obtain⟨r,hr,hn,rfl⟩:=hm t ht;have hrE:=(c.base.led r hr).1;obtain⟨v,hv,e⟩:=(zBs hq hA hrE).1 ((c.gen _).2 (zY hr));have hvl:=vt_ve hp hA hv.len;have hd:r.drop n=v:=by rw [e,List.drop_left' hvl.len]
   rw [hd];rcases Nat.lt_or_ge j n with g|g
   ·have h0:at_ r j=0:=zR (by omega)
    rw [e,qx,hvl.len,if_pos g]at h0;exact h0
   ·exact at_ge (by rw [hvl.len];exact g)
  obtain⟨k,hk1,hk2⟩:=zCq hq.ok (el_ma hp fun v hv=>(hled v hv).1) hx h
  have hN:Ma p A.length (nul n u):=el_ma hp fun v hv=>(hled v hv).1
  have hz:∀j,at_ (vt p n k (mm p n (nul n u) A)) j=0:=fun j=>by
   have hmm:=mm_ma hp hN hA;have hl:k.length=(mm p n (nul n u) A).length:=by rw [ZH];exact hk1.len
   rcases Nat.lt_or_ge j n with g|g
   ·rw [vt_at hp hmm hl g,qN]
    ·simp
    ·intro i hi
     rw [ZH]at hi
     rw [zHU hi,hk _ (by rw [zP hi];exact List.getElem_mem hi),Int.mul_zero]
   ·exact at_ge (by rw [(vt_ve hp hmm hl).len];exact g)
  rw [←vt_mm hp hN hA hk1.len,hk2]at hz
  exact hz
 ·obtain⟨_,h0⟩:=h
  have hv:Ve p A.length x:=el_ve hp hx;have hvl:=vt_ve hp hA hv.len;have hz:El p (n+A.length) (vt p n x A++x):=ve_el (zBv hvl hv);have hG:=(c.gen _).1 ((zBs hq hA hz).2 ⟨x,hv,rfl⟩);have hd:n≤dep (vt p n x A++x):=zHk (by rw [List.length_append,hvl.len];omega) fun j hj=>by rw [qx,hvl.len,if_pos hj];exact h0 j
  have hF:=zKD o c.base hz hG;obtain⟨k,e⟩:=hF;have hsub:Gen p (n+A.length) (W0 (n+A.length)) (Fp u n) (at_ (vt p n x A++x)):=ZT (fun v hv=>ZM.2 ⟨(ZM.1 hv).1,by have:=(ZM.1 hv).2;omega⟩) ⟨k,e⟩
  obtain⟨k,e⟩:=hsub;refine⟨k,qd (fun j hj=>?_) fun j hj=>?_⟩
  ·have:=zCg e (j:=n+j) (by omega)
   rw [qx,hvl.len,if_neg (by omega),show n+j-n=j by omega]at this
   rw [this]
   congr 1
   unfold comb nul;rw [List.length_map];refine qR fun t ht=>?_
   rw [List.getD_eq_getElem?_getD,List.getElem?_eq_getElem ht,List.getD_eq_getElem?_getD,List.getElem?_map,List.getElem?_eq_getElem ht];simp only [Option.getD_some,Option.map_some,QT]
  ·rw [hx.beyond hj,qW (fun v hv=>(hled v hv).1) _ hj]
end Go.Lie
namespace Go.Lie
open Go.Ab Go.Mx
variable {p:Int} {n m:Nat} {L M A B U u w:List (List Int)} {x y v b z:List Int}
theorem zAJ (z:List Int) (j:Nat):at_ (z.take n) j=if j<n then at_ z j else 0:=by
 unfold at_;rw [List.getD_eq_getElem?_getD,List.getElem?_take]
 split<;>simp [List.getD_eq_getElem?_getD]
theorem zFX (hz:El p (n+m) z):El p n (z.take n):=⟨by rw [List.length_take,hz.1];omega,fun x hx=>hz.2 x (List.mem_of_mem_take hx)⟩
theorem zEI {f:List Int→List Int} {d j:Nat} (k:Nat→Int) (u:List (List Int)) (h:∀z,at_ (f z) j=at_ z d):comb k (u.map f) j=comb k u d:=by
 unfold comb;rw [List.length_map];refine qR fun t ht=>?_
 rw [List.getD_eq_getElem?_getD,List.getElem?_map,List.getElem?_eq_getElem ht,List.getD_eq_getElem?_getD,List.getElem?_eq_getElem ht];simp only [Option.getD_some,Option.map_some,h]
theorem zIp {f:Vec} (hu:∀v∈u,El p (n+m) v) (h:Gen p (n+m) (W0 (n+m)) u f):Gen p n (W0 n) (u.map (List.take n)) fun j=>if j<n then f j else 0:=by
 obtain⟨k,e⟩:=h;refine⟨k,qd (fun j hj=>?_) fun j hj=>?_⟩
 ·rw [if_pos hj,zEI k u (d:=j) fun z=>by rw [zAJ,if_pos hj]]
  exact zCg e (by omega)
 ·rw [if_neg (by omega),qW (p:=p) (n:=n) (fun v hv=>?_) _ hj]
  obtain⟨z,hz,rfl⟩:=List.mem_map.1 hv;exact zFX (hu z hz)
theorem zIq {f:Vec} (hu:∀v∈u,El p (n+m) v) (h:Gen p (n+m) (W0 (n+m)) u f):Gen p m (W0 m) (u.map (List.drop n)) fun j=>f (n+j):=by
 obtain⟨k,e⟩:=h;refine⟨k,qd (fun j hj=>?_) fun j hj=>?_⟩
 ·rw [zEI k u (d:=n+j) fun z=>QT z j]
  exact zCg e (by omega)
 ·rw [qW (p:=p) (n:=m) (fun v hv=>?_) _ hj]
  ·have:=(zFV e).2 (n+j) (by omega)
   rw [this,qW hu _ (by omega)]
  obtain⟨z,hz,rfl⟩:=List.mem_map.1 hv;exact zAH (hu z hz)
def top (n:Nat) (u:List (List Int)):List (List Int):=u.filter fun r=>decide (dep r<n)
theorem qO:v∈top n u↔v∈u∧dep v<n:=by simp [top]
theorem Zb:(top n u).length+(nul n u).length=u.length:=by
 unfold nul top Fp;rw [List.length_map]
 induction u with
 | nil=>rfl
 | cons r u ih=>
  simp only [List.filter_cons]
  by_cases h:dep r<n
  ·have h2:¬n≤dep r:=by omega
   simp only [h,h2,decide_true,decide_false,if_true,List.length_cons];simp only [Bool.false_eq_true,if_false];omega
  ·have h2:n≤dep r:=by omega
   simp only [h,h2,decide_true,decide_false,if_true,List.length_cons];simp only [Bool.false_eq_true,if_false];omega
theorem zIy (h:dep z<n) (hz:n≤z.length):dep (z.take n)=dep z:=
 Zr (fun j hj=>by rw [zAJ,if_pos (by omega)];exact zR hj) (by rw [zAJ,if_pos h];exact qP (by omega))
theorem zHw (hu:Base p (n+m) (W0 (n+m)) u):Base p n (W0 n) ((top n u).map (List.take n)):=by
 have hm:∀t∈(top n u).map (List.take n),∃r∈u,dep r<n∧t=r.take n:=fun t ht=>by
  obtain⟨r,hr,rfl⟩:=List.mem_map.1 ht;exact⟨r,(qO.1 hr).1,(qO.1 hr).2,rfl⟩
 have hd:∀r∈u,dep r<n→dep (r.take n)=dep r:=fun r hr h=>zIy h (by rw [(hu.els r hr).1];omega)
 refine base0 (fun t ht=>?_) ?_
 ·obtain⟨r,hr,hn,rfl⟩:=hm t ht
  have hL:=hu.led r hr;exact⟨zFX hL.1,by rw [hd r hr hn];exact hn,by rw [hd r hr hn,zAJ,if_pos hn];exact hL.2.2⟩
 ·unfold Asc top
  rw [List.pairwise_map];refine List.Pairwise.imp_of_mem (fun {a b} ha hb h=>?_) (hu.asc.filter _)
  rw [hd a (qO.1 ha).1 (qO.1 ha).2,hd b (qO.1 hb).1 (qO.1 hb).2];exact h
theorem zJj {f:Vec} (hu:∀v∈u,El p (n+m) v) (h:Gen p n (W0 n) (u.map (List.take n)) f):Gen p n (W0 n) ((top n u).map (List.take n)) f:=by
 refine qa (fun v hv=>?_) h
 obtain⟨r,hr,rfl⟩:=List.mem_map.1 hv
 by_cases hn:dep r<n
 ·exact zY (List.mem_map.2 ⟨r,qO.2 ⟨hr,hn⟩,rfl⟩)
 ·refine(zH _).eqv _ _ (Eqv.of_eq fun j=>?_) (zH _).zero
  rw [zAJ]
  split
  ·exact zR (by omega)
  ·rfl
theorem wd_el (hq:pr7 p) (hA:Ma p n A):∀v∈wd A,El p (n+A.length) v:=fun v hv=>ve_el (wd_ma hq hA v hv)
theorem zFK (hq:pr7 p) (hA:Ma p n A) (c:Canon p (n+A.length) (W0 (n+A.length)) (wd A) u) (f:Vec):Gen p n (W0 n) A f↔Gen p n (W0 n) ((top n u).map (List.take n)) f:=by
 have hp:0<p:=by have:=hq.ok.1;omega
 refine zAF (fun v hv=>?_) (fun v hv=>?_) f
 ·obtain⟨i,hi,rfl⟩:=List.mem_iff_getElem.1 hv
  have h1:Gen p (n+A.length) (W0 (n+A.length)) u (at_ (row A i++uv A.length i)):=(c.gen _).1 (zY (by
   rw [←Q7 hi,zP (by rw [zb];exact hi)];exact List.getElem_mem _))
  refine zJj c.base.els ((zH _).eqv _ _ (Eqv.of_eq fun j=>?_) (zIp c.base.els h1))
  have hl:=(hA.row hi).len;rw [qx,hl,zP hi];rw [zP hi]at hl
  split
  ·rfl
  ·exact at_ge (by omega)
 ·obtain⟨r,hr,rfl⟩:=List.mem_map.1 hv
  have hrE:=c.base.els r (qO.1 hr).1;obtain⟨k,hk,e⟩:=(zBs hq hA hrE).1 ((c.gen _).2 (zY (qO.1 hr).1));have hl:=(vt_ve hp hA hk.len).len;rw [e,List.take_left' hl];exact zDQ hp hA hk.len
theorem zH3 (hq:pr7 p) (hA:Ma p n A) (c:Canon p (n+A.length) (W0 (n+A.length)) (wd A) u) (c':Canon p n (W0 n) A w):(top n u).length=w.length:=by
 have o:=W0_ok hq.ok n;have hb:=zHw (n:=n) c.base;have h1:=(zCm o hb c'.base fun f hf=>(c'.gen f).1 ((zFK hq hA c f).2 hf)).1
 have h2:=(zCm o c'.base hb fun f hf=>(zFK hq hA c f).1 ((c'.gen f).2 hf)).1
 rw [List.length_map]at h1 h2
 omega
theorem zCO {i:Nat} (hi:i<n):dep (uv n i)=i:=Zr (fun j hj=>by rw [uv_at hi,if_neg (by omega)]) (by rw [uv_at hi,if_pos rfl];omega)
theorem zKA (hq:pr7 p) {i:Nat} (hi:i<n):Led p n (uv n i):=⟨ve_el (uv_ve (by have:=hq.ok.1;omega) hi),by rw [zCO hi];exact hi,by rw [zCO hi,uv_at hi,if_pos rfl]⟩
theorem zIk (hq:pr7 p) (n:Nat):Base p n (W0 n) (idm n):=by
 refine base0 (fun t ht=>?_) ?_
 ·simp only [idm,List.mem_map,List.mem_range]at ht
  obtain⟨i,hi,rfl⟩:=ht;exact zKA hq hi
 ·unfold Asc idm
  rw [List.pairwise_map];refine List.Pairwise.imp_of_mem (fun {a b} ha hb h=>?_) (List.pairwise_lt_range (n:=n))
  rw [zCO (List.mem_range.1 ha),zCO (List.mem_range.1 hb)];exact h
theorem zAZ (hq:pr7 p) (hA:Ma p n A) (c:Canon p (n+A.length) (W0 (n+A.length)) (wd A) u):u.length=A.length:=by
 have h1:=zFP hq (wd_el hq hA) c;rw [zb]at h1
 refine Nat.le_antisymm h1 ?_
 have:=zH4 hq (M:=u.map (List.drop n)) (fun v hv=>by
  obtain⟨z,hz,rfl⟩:=List.mem_map.1 hv;exact zAH (c.base.els z hz)) (zIk hq A.length) fun v hv=>by
   simp only [idm,List.mem_map,List.mem_range]at hv
   obtain⟨i,hi,rfl⟩:=hv;have h1:Gen p (n+A.length) (W0 (n+A.length)) u (at_ (row A i++uv A.length i)):=(c.gen _).1 (zY (by
    rw [←Q7 hi,zP (by rw [zb];exact hi)];exact List.getElem_mem _))
   refine(zH _).eqv _ _ (Eqv.of_eq fun j=>?_) (zIq c.base.els h1)
   rw [qx,(hA.row hi).len,if_neg (by omega),show n+j-n=j by omega]
 rw [q8,List.length_map]at this
 exact this
theorem zGj (hq:pr7 p) (hA:Ma p n A) (c:Canon p (n+A.length) (W0 (n+A.length)) (wd A) u) (c':Canon p n (W0 n) A w):w.length+(nul n u).length=A.length:=by
 rw [←zAZ hq hA c,←zH3 hq hA c c',Zb]
def left (p:Int) (n m:Nat) (u:List (List Int)) (b:List Int):List Int:=redL p (W0 (n+m)) (top n u) (b++List.replicate m 0)
theorem zBA (hq:pr7 p) (hu:∀v∈u,El p (n+m) v) (hb:El p n b):El p (n+m) (b++List.replicate m 0)∧El p (n+m) (left p n m u b):=by
 have h2:=hq.ok.1;have h1:El p (n+m) (b++List.replicate m 0):=⟨by simp [hb.1],fun x hx=>by
  rcases List.mem_append.1 hx with h|h
  ·exact hb.2 x h
  ·rw [(List.mem_replicate.1 h).2];omega⟩
 exact⟨h1,qc (W0_ok hq.ok _) (fun v hv=>hu v (qO.1 hv).1) h1⟩
theorem zBh (hq:pr7 p) (hA:Ma p n A) (c:Canon p (n+A.length) (W0 (n+A.length)) (wd A) u) (hb:El p n b) (h0:∀j,j<n→at_ (left p n A.length u b) j=0):
  Ve p A.length (scl p (p-1) ((left p n A.length u b).drop n))∧vt p n (scl p (p-1) ((left p n A.length u b).drop n)) A=b:=by
 have hp:0<p:=by have:=hq.ok.1;omega
 have o:=W0_ok hq.ok (n+A.length);obtain⟨h1,h2⟩:=zBA hq c.base.els hb;have hG:=ZZ o (u:=top n u) (fun v hv=>c.base.els v (qO.1 hv).1) h1
 have e0:left p n A.length u b=redL p (W0 (n+A.length)) (top n u) (b++List.replicate A.length 0):=rfl;rw [←e0]at hG
 generalize left p n A.length u b=z at *
 have hG2:Gen p (n+A.length) (W0 (n+A.length)) (wd A) _:=(c.gen _).2 (ZT (fun v hv=>(qO.1 hv).1) hG)
 have hr:=zAH h2;generalize hs:scl p (p-1) (z.drop n)=s;have hsE:El p A.length s:=by rw [←hs];exact Q9 hp hr.1
 have hbs:El p (n+A.length) (b++s):=ve_el (zBv (el_ve hp hb) (el_ve hp hsE));have hG3:Gen p (n+A.length) (W0 (n+A.length)) (wd A) (at_ (b++s)):=by
  refine(zH _).eqv _ _ (qd (fun j hj=>?_) fun j hj=>?_) hG2
  ·show at_ (b++s) j % p=(at_ (b++List.replicate A.length 0) j-at_ z j) % p
   rw [qx,qx,hb.1]
   by_cases hj':j<n
   ·rw [if_pos hj',if_pos hj',h0 j hj',Int.sub_zero]
   ·rw [if_neg hj',if_neg hj',zAK,←hs,qf,QT,show n+(j-n)=j by omega,Int.emod_emod,show at_ z j*(p-1)=(0-at_ z j)+at_ z j*p by grind,Int.add_mul_emod_self_right]
  ·show at_ (b++s) j=at_ (b++List.replicate A.length 0) j-at_ z j
   rw [hbs.beyond hj,h1.beyond hj,h2.beyond hj];rfl
 obtain⟨k,hk,e⟩:=(zBs hq hA hbs).1 hG3;have hl:=(vt_ve hp hA hk.len).len;have e1:b=vt p n k A:=by
  have:=congrArg (List.take n) e
  rwa [List.take_left' hb.1,List.take_left' hl]at this
 have e2:s=k:=by
  have:=congrArg (List.drop n) e
  rwa [List.drop_left' hb.1,List.drop_left' hl]at this
 rw [e2];exact⟨hk,e1.symm⟩
theorem zJD (hq:pr7 p) (hA:Ma p n A) (c:Canon p (n+A.length) (W0 (n+A.length)) (wd A) u) (hx:Ve p A.length x) (hb:vt p n x A=b):Ve p A.length (redL p (W0 A.length) (nul n u) x)∧vt p n (redL p (W0 A.length) (nul n u) x) A=b:=by
 have hp:0<p:=by have:=hq.ok.1;omega
 have o:=W0_ok hq.ok A.length;obtain⟨cn,hn⟩:=zAm hq hA c;have hxE:=ve_el hx;have hy:=qc o cn.base.els hxE;have hg:=ZZ o cn.base.els hxE;generalize redL p (W0 A.length) (nul n u) x=y at *
 refine⟨el_ve hp hy,?_⟩
 -- the difference, as a vector
 let d:List Int:=(List.range A.length).map fun j=>(at_ x j-at_ y j) % p
 have hdl:d.length=A.length:=by simp [d]
 have hdat:∀j,j<A.length→at_ d j=(at_ x j-at_ y j) % p:=fun j hj=>by rw [at_eq (by rw [hdl];exact hj)];simp [d]
 have hd:El p A.length d:=ve_el ⟨hdl,fun j=>by
  by_cases hj:j<A.length
  ·rw [hdat j hj];exact⟨Int.emod_nonneg _ (by omega),Int.emod_lt_of_pos _ hp⟩
  ·rw [at_ge (by rw [hdl];omega)];omega⟩
 have hk:=(hn d hd).1 ((zH _).eqv _ _ (qd (fun j hj=>by rw [hdat j hj,Int.emod_emod]) fun j hj=>by rw [at_ge (by rw [hdl];exact hj),hxE.beyond hj,hy.beyond hj];rfl) hg)
 have h1:=vt_ve hp hA hx.len;have h2:=vt_ve hp hA hy.1;rw [←hb];refine h2.ext h1 fun j hj=>?_
 have h3:=hk.2 j;rw [vt_at hp hA hdl hj]at h3
 rw [vt_at hp hA hx.len hj,vt_at hp hA hy.1 hj];have h4:(sumN A.length fun k=>at_ x k*at_ (row A k) j) % p=((sumN A.length fun k=>at_ y k*at_ (row A k) j)+sumN A.length fun k=>at_ d k*at_ (row A k) j) % p:=by
  rw [←Zy];refine QV hp fun k hk=>?_
  rw [hdat k hk];have e1:=zDy (p:=p) (at_ x k-at_ y k) (at_ (row A k) j);rw [Int.add_emod,e1,←Int.add_emod]
  congr 1;grind
 rw [h4,Int.add_emod,h3,Int.add_zero,Int.emod_emod]
end Go.Lie
namespace Go.Lie
open Go.Ab Go.Mx
abbrev Mf:=Nat→Nat→Int
end Go.Lie
namespace Go.Lie
open Go.Ab Go.Mx
variable {p:Int} {n:Nat} {A B C E F L:List (List Int)} {x:List Int} {φ:List (List Int)→Int}
def fm (A:List (List Int)):Mf:=fun i j=>at_ (row A i) j
theorem zA4 {i:Nat} (hi:i<A.length) (j:Nat):row (A.set i x) j=if j=i then x else row A j:=by
 unfold row;rw [List.getD_eq_getElem?_getD,List.getElem?_set,List.getD_eq_getElem?_getD]
 by_cases h:i=j
 ·rw [if_pos h,if_pos hi,if_pos h.symm];rfl
 ·rw [if_neg h,if_neg (Ne.symm h)]
theorem zJu (hp:0<p) {k:Int} {v:List Int} (hv:Ve p n v):Ve p n (scl p k v):=el_ve hp (Q9 hp hv.len)
def clrM (p:Int) (c d:Nat) (R:List (List Int)):Nat→List (List Int)
 | 0=>R
 | m+1=>if m=d then clrM p c d R m else(clrM p c d R m).set m (vstep p (-(at_ (row R m) c)) (row R d) (row R m))
theorem Z9 {c d:Nat} {R:List (List Int)}:∀m,(clrM p c d R m).length=R.length
 | 0=>rfl
 | m+1=>by
  unfold clrM
  split
  ·exact Z9 m
  ·rw [List.length_set];exact Z9 m
theorem zEJ {c d:Nat} {R:List (List Int)}:∀m,m≤R.length→∀i,row (clrM p c d R m) i=if i<m∧i≠d then vstep p (-(at_ (row R i) c)) (row R d) (row R i)else row R i
 | 0,_,i=>by rw [if_neg (by omega)];rfl
 | m+1,hm,i=>by
  unfold clrM;have ih:=zEJ (c:=c) (d:=d) (R:=R) m (by omega) i
  split
  ·rename_i h
   rw [ih]
   by_cases h1:i<m∧i≠d
   ·rw [if_pos h1,if_pos (by omega)]
   ·rw [if_neg h1,if_neg (by omega)]
  ·rename_i h
   rw [zA4 (by rw [Z9];omega),ih]
   by_cases h1:i=m
   ·rw [if_pos h1,if_pos (by omega),h1]
   ·rw [if_neg h1]
    by_cases h2:i<m∧i≠d
    ·rw [if_pos h2,if_pos (by omega)]
    ·rw [if_neg h2,if_neg (by omega)]
end Go.Lie
namespace Go.Proofs
open Go.Ab Go.Lie
variable {σ σ0 σ1:PHeap} {K:PV→PHeap→Prop} {vC:PV} {bs:List Int} {s:Nat} {a sd:Int}
def FB (v:PV) (bs:List Int):Prop:=∃w a,v=.fz w a bs.length (bs.map (.int .u8))
structure Byt (bs:List Int):Prop where
 len:bs.length≤1048576
 bd:∀b∈bs,0≤b∧b≤255
abbrev srcC (vC:PV) (a:Nat) (sd:Int):List PV:=[vC,.int .i64 (a:Int),.int .i64 sd]
structure Src (σ:PHeap) (s:Nat) (vC:PV) (bs:List Int) (a:Nat) (sd:Int):Prop where
 obj:σ.obj s=some (srcC vC a sd)
 lt:s<σ.next
 fb:FB vC bs
 byt:Byt bs
 le:a≤bs.length
 sd:0≤sd∧sd<2147483647
theorem FB.one {v:PV} (h:FB v bs):v.one=true:=by obtain⟨w,a,rfl⟩:=h;rfl
theorem FB.cells {v:PV} (h:FB v bs):v.cells=[v]:=by obtain⟨w,a,rfl⟩:=h;rfl
theorem FB.bel {v:PV} (h:FB v bs) (n:Nat):Bel n v:=by obtain⟨w,a,rfl⟩:=h;trivial
theorem FB.bels {v:PV} (h:FB v bs) (n a:Nat) (sd:Int):Bels n (srcC v a sd):=⟨h.bel n,trivial,trivial,trivial⟩
theorem Gh.setS {v:PV} {s:Nat} {c0 c1:List PV} (h0:σ0.obj s=some c0) (hb:Bels 0 c1) (k:Gh (σ0.set s c1) K v σ1):Gh σ0 K v σ1:=fun w ι Z h b r hv h1 h2 h3 h4=>by
 have hs:s<σ0.next:=w.lt h0;have w':PWF (σ0.set s c1):=by
  refine⟨fun t ht=>?_,fun t cs ht=>?_⟩
  ·have ht':σ0.next≤t:=ht
   rw [zL,if_neg (by omega)]
   exact w.wf t ht'
  ·rw [zL]at ht
   split at ht
   ·cases ht
    exact Bels.up (Nat.zero_le _) hb
   ·exact w.bel t cs ht
 obtain⟨v2,σ2,ι2,Z2,g1,g2,g3,g4,g5,g6,g7,g8,g9⟩:=k w' ι Z h b r hv h1 h2 h3 (fun t ht hn=>by
  rw [zL]at hn
  split at hn
  ·cases hn
  ·exact h4 t ht hn)
 refine⟨v2,σ2,ι2,Z2,g1,g2,g3,g4,g5,g6,fun t ht hn=>g7 t ht ?_,g8,g9⟩
 rw [zL,if_neg (by rintro rfl;rw [h0]at hn;cases hn)]
 exact hn
theorem Src.set {σ:PHeap} {a a':Nat} {sd sd':Int} (h:Src σ s vC bs a sd) (ha:a'≤bs.length) (hs:0≤sd'∧sd'<2147483647):Src (σ.set s (srcC vC a' sd')) s vC bs a' sd':=
 ⟨by rw [zL,if_pos rfl],h.lt,h.fb,h.byt,ha,hs⟩
theorem Src.keep {σ σ':PHeap} {a:Nat} {sd:Int} (h:Src σ s vC bs a sd) (k:Keep σ σ'):Src σ' s vC bs a sd:=
 ⟨by rw [k.obj s h.lt];exact h.obj,Nat.lt_of_lt_of_le h.lt k.next,h.fb,h.byt,h.le,h.sd⟩
theorem Src.q {σ:PHeap} {a:Nat} {sd:Int} (h:Src σ s vC bs a sd):σ.rd1 s 0=some vC∧σ.rd1 s 1=some (.int .i64 a)∧σ.rd1 s 2=some (.int .i64 sd):=by
 refine⟨?_,?_,?_⟩<;>(rw [zG h.obj];rfl)
theorem Src.w1 {σ:PHeap} {a:Nat} {sd x:Int} (h:Src σ s vC bs a sd):σ.wr s 1 [.int .i64 x]=some (σ.set s [vC,.int .i64 x,.int .i64 sd]):=by
 rw [Qd h.obj,if_pos ⟨by simp,rfl⟩];rfl
theorem Src.w2 {σ:PHeap} {a:Nat} {sd x:Int} (h:Src σ s vC bs a sd):σ.wr s 2 [.int .i64 x]=some (σ.set s (srcC vC a x)):=by
 rw [Qd h.obj,if_pos ⟨by simp,rfl⟩];rfl
theorem zAc (σ:PHeap) (s:Nat) (x y:List PV):(σ.set s x).set s y=σ.set s y:=by
 simp only [PHeap.set]
 congr 1
 funext t
 split<;>rfl
theorem zAd (σ:PHeap) (x y:List PV):(σ.new x).set σ.next y=σ.new y:=by
 simp only [PHeap.new,PHeap.set]
 congr 1
 funext t
 split<;>rfl
theorem zHo {j:Nat} (hB:Byt bs) (hj:j<bs.length):(bs.map (PV.int .u8))[j]? = some (.int .u8 (bs.getD j 0))∧0≤bs.getD j 0∧bs.getD j 0≤255:=by
 have e:bs.getD j 0=bs[j]:=by simp [List.getD_eq_getElem?_getD,List.getElem?_eq_getElem hj]
 rw [e];exact⟨by rw [List.getElem?_map,List.getElem?_eq_getElem hj];rfl,hB.bd _ (List.getElem_mem hj)⟩
def Nx (n x:Int):Prop:=0≤x∧(n≤1→x=0)∧(1<n→x<n)
theorem Nx.lt {n x:Int} (h:Nx n x) (hn:1≤n):x<n:=by
 obtain⟨h0,h1,h2⟩:=h;rcases Int.lt_or_le 1 n with g|g
 ·exact h2 g
 ·have:=h1 g;omega
theorem zHO {n x:Int} (hn:1<n) (hx:0≤x):Nx n (x.tmod n):=by
 rw [Int.tmod_eq_emod_of_nonneg hx];have h1:=Int.emod_nonneg x (show n≠0 by omega)
 have h2:=Int.emod_lt_of_pos x (show 0<n by omega)
 exact⟨h1,fun h=>by omega,fun _=>h2⟩
theorem zGH (hb:FB vC bs) (hB:Byt bs) (hk:∀sd,0≤sd∧sd<2147483647→K (.ptr σ.next 0) (σ.new (srcC vC 0 sd))):zB Try.prog 40 [vC] σ K:=by
 obtain⟨w,av,rfl⟩:=hb;have hl:=hB.len;refine zC mix Try.func40 ?_
 conv=>arg 2;cbv
 refine zD rfl ?_;simp only [pwA,seval,-iQ0];generalize hC:(PV.fz w av bs.length (bs.map (.int .u8)))=vC at *
 refine zM (fun m vs h'=>∃(i:Nat) (sd:Int),i≤bs.length∧m=bs.length-i∧vs=[vC,.ptr σ.next 0,.int .i64 i]∧σ.new (srcC vC 0 sd)=h'∧0≤sd∧sd<2147483647) bs.length ?_ ?_
 ·exact⟨0,76001,by omega,by omega,rfl,rfl,by omega,by omega⟩
 rintro m vs h' ⟨i,sd,hi,rfl,rfl,rfl,h0,h1⟩
 have hlen:pLen vC=some (.int .i64 bs.length):=by rw [←hC];rfl
 have wi1:IntKind.i64.wrap ((i:Int)+1)=((i+1:Nat):Int):=by rw [wrap64 (by omega) (by omega)];omega
 have out:K (.ptr σ.next 0) (σ.new (srcC vC 0 sd)):=hk sd ⟨h0,h1⟩;simp only [pwA,seval,-iQ0,hlen]
 by_cases hlt:i<bs.length
 rotate_left
 ·simp only [pwA,seval,-iQ0,hlt,decide_false]
  exact out
 obtain⟨b1,b2,b3⟩:=zHo hB hlt
 by_cases h64:i<64
 rotate_left
 ·have h64':¬(i:Int)<64:=by omega
  simp only [pwA,seval,-iQ0,hlt,h64',decide_true,decide_false];exact out
 have h64':(i:Int)<64:=by omega
 generalize bs.getD i 0=b at b1 b2 b3
 have e1:IntKind.i64.wrap (sd*71)=sd*71:=wrap64 (by omega) (by omega)
 have e2:IntKind.i64.wrap b=b:=wrap64 (by omega) (by omega)
 have e3:IntKind.i64.wrap (sd*71+b)=sd*71+b:=wrap64 (by omega) (by omega)
 have e4:(sd*71+b).tmod 2147483647=(sd*71+b) % 2147483647:=Int.tmod_eq_emod_of_nonneg (by omega)
 subst hC;simp only [pwA,seval,-iQ0,hlt,h64',decide_true,b1,e1,e2,e3,e4,wi1];exact⟨_,by omega,i+1,_,by omega,rfl,rfl,rfl,by omega,by omega⟩
theorem zGG {a:Nat} {sd n:Int} (S:Src σ s vC bs a sd) (hn:n≤4611686018427387904) (hk:∀x a' sd',Nx n x→a'≤bs.length→0≤sd'∧sd'<2147483647→K (.int .i64 x) (σ.set s (srcC vC a' sd'))):zB Try.prog 42 [.ptr s 0,.int .i64 n] σ K:=by
 have hl:=S.byt.len;have hsd:=S.sd;have ha:=S.le;obtain⟨w,av,rfl⟩:=S.fb;obtain⟨q0,q1,q2⟩:=S.q;have e1:IntKind.i64.wrap (sd*48271)=sd*48271:=wrap64 (by omega) (by omega)
 have e2:IntKind.i64.wrap (sd*48271+71)=sd*48271+71:=wrap64 (by omega) (by omega)
 have e4:(sd*48271+71).tmod 2147483647=(sd*48271+71) % 2147483647:=Int.tmod_eq_emod_of_nonneg (by omega)
 refine zC mix Try.func42 ?_
 conv=>arg 2;cbv
 refine zD rfl ?_;simp only [pwA,seval,-iQ0,q2,e1,e2,e4,S.w2];refine iteI (fun hlt=>?_) fun hge=>?_
 ·have:=hk 0 a sd ⟨Int.le_refl _,fun _=>rfl,fun h=>by omega⟩ ha hsd
  rw [Zz S.obj]at this
  exact this
 have hsd1:0≤(sd*48271+71) % 2147483647∧(sd*48271+71) % 2147483647<2147483647:=by omega
 generalize (sd*48271+71) % 2147483647=sd1 at *
 have S1:=S.set (sd':=sd1) ha hsd1;obtain⟨p0,p1,p2⟩:=S1.q;obtain⟨x0,e5,hx0⟩:∃x0,IntKind.i64.wrap (sd1.tdiv 47)=x0∧0≤x0∧x0≤2147483647:=by
  have d1:sd1.tdiv 47=sd1 / 47:=Int.tdiv_eq_ediv_of_nonneg (by omega)
  exact⟨sd1 / 47,by rw [d1];exact wrap64 (by omega) (by omega),by omega,by omega⟩
 have hn0:n≠0:=by omega
 generalize hs1:σ.set s (srcC (PV.fz w av bs.length (bs.map (.int .u8))) a sd1)=σ1 at *
 have hT:∀(a':Nat) (sd':Int),σ1.set s (srcC (PV.fz w av bs.length (bs.map (.int .u8))) a' sd')=σ.set s (srcC (PV.fz w av bs.length (bs.map (.int .u8))) a' sd'):=fun a' sd'=>by rw [←hs1];exact zAc _ _ _ _
 simp only [pwA,seval,-iQ0,p0,p1,p2,e5]
 by_cases hlt':a<bs.length
 rotate_left
 ·simp only [pwA,seval,-iQ0,hlt',decide_false]
  have:=hk _ a sd1 (zHO (by omega) hx0.1) ha hsd1
  rw [hs1]at this
  simp only [pwA,seval,-iQ0,hn0,e5];exact this
 obtain⟨b1,b2,b3⟩:=zHo S.byt hlt';generalize bs.getD a 0=b at b1 b2 b3
 have e6:IntKind.i64.wrap b=b:=wrap64 (by omega) (by omega)
 have e7:IntKind.i64.wrap (x0+b)=x0+b:=wrap64 (by omega) (by omega)
 have wi1:IntKind.i64.wrap ((a:Int)+1)=((a+1:Nat):Int):=by rw [wrap64 (by omega) (by omega)];omega
 simp only [pwA,seval,-iQ0,hlt',decide_true,p0,p1,b1,e5,e6,e7,S1.w1,wi1];have Sb:=S1.set (a':=a+1) (sd':=sd1) (by omega) hsd1
 obtain⟨r0,r1,r2⟩:=Sb.q;generalize hs2:σ1.set s (srcC (PV.fz w av bs.length (bs.map (.int .u8))) (a+1) sd1)=σ2 at *
 have tm:((a+1:Nat):Int).tmod 2=((a+1:Nat):Int) % 2:=Int.tmod_eq_emod_of_nonneg (by omega)
 have wi2:IntKind.i64.wrap (((a+1:Nat):Int)-1)=(a:Int):=by rw [wrap64 (by omega) (by omega)];omega
 have fin:∀x:Int,0≤x→K (.int .i64 (x.tmod n)) σ2:=fun x hx=>by
  have:=hk _ (a+1) sd1 (zHO (by omega) hx) (by omega) hsd1
  rw [←hs2,hT];exact this
 by_cases hn256:n≤256
 rotate_left
 ·simp only [pwA,seval,-iQ0,hn256,decide_false,hn0,e5,e6,e7]
  exact fin _ (by omega)
 by_cases hev:((a+1:Nat):Int) % 2=0
 rotate_left
 ·simp only [pwA,seval,-iQ0,hn256,decide_true,r1,tm,hev,decide_false,hn0,e5,e6,e7]
  exact fin _ (by omega)
 simp only [pwA,seval,-iQ0,hn256,decide_true,r0,r1,tm,hev,wi2,hlt',b1,hn0,e5,e6,e7];exact fin _ (by omega)
end Go.Proofs
namespace Go.Grp
end Go.Grp
namespace Go.Proofs
open Go.Ab Go.Lie Go.Grp Go.Mx
variable {σ:PHeap} {K:PV→PHeap→Prop} {p d p' d' c:Int} {n n':Nat} {As Bs:List (List (List Int))} {F F':List (List Int)} {vA vB vF vF':PV} {O:List Int} {P:List (List Int)} {C:List (List (List Int))} {vO vP vC:PV} {s s':Nat}
def isMx (p c:Int) (F:List (List Int)):Prop:=isP p∧(0≤c∧c≤8)∧F.length≤8∧Ma p c.toNat F
theorem qb (sz:SzL F) (hF:FII vF F) (hk:∀t:Bool,(t=true↔isMx p c F)→K (.bool t) σ):zB Try.prog 37 [.agg [.int .i64 p,.int .i64 c,vF]] σ K:=by
 have fl:∀{A:Prop},¬A→((false=true)↔A):=fun h=>⟨fun x=>(by cases x),fun x=>absurd x h⟩
 have h1:=hF.one;have szl:=sz.l
 by_cases hm:isP p∧(0≤c∧c≤8)∧F.length≤8
 ·obtain⟨hp,hc,hl⟩:=hm
  obtain⟨n,rfl⟩:∃n:Nat,c=(n:Int):=⟨c.toNat,by omega⟩
  exact zFH hp (by omega) hl (fun r hr=>sz.r r hr) hF fun t ht=>hk t ⟨fun h=>⟨hp,hc,hl,ht.1 h⟩,fun h=>ht.2 h.2.2.2⟩
 obtain⟨wA,aA,rA,rfl,hrA⟩:=hF;have no:¬isMx p c F:=fun h=>hm ⟨h.1,h.2.1,h.2.2.1⟩
 refine zB.gh ?_;refine zC mix Try.func37 ?_
 conv=>arg 2;cbv
 refine zD rfl ?_;simp only [pwA,seval,-iQ0,h1];refine Qu ?_
 by_cases hp:isP p
 rotate_left
 ·simp only [pwA,seval,-iQ0,hp]
  exact Gh.fin0 (zF σ _) trivial (hk _ (fl no))
 simp only [pwA,seval,-iQ0,hp];refine zAq ?_
 by_cases hc:0≤c∧c≤8
 rotate_left
 ·simp only [pwA,seval,-iQ0,hc]
  exact Gh.fin0 (zF σ _) trivial (hk _ (fl no))
 have hl:(8:Int)<(F.length:Int):=by
  have:¬F.length≤8:=fun h=>hm ⟨hp,hc,h⟩
  omega
 simp only [pwA,seval,-iQ0,hc,hl];exact Gh.fin0 (zF σ _) trivial (hk _ (fl no))
theorem Qe (sz:SzL F) (hF:FII vF F) (hk:∀t:Bool,(t=true↔isMx p c F)→K (.bool t) σ):zB Try.prog 36 [.agg [.int .i64 p,.int .i64 c,vF]] σ K:=by
 have fl:∀{A:Prop},¬A→((false=true)↔A):=fun h=>⟨fun x=>(by cases x),fun x=>absurd x h⟩
 have h1:=hF.one;have szl:=sz.l;obtain⟨wA,aA,rA,rfl,hrA⟩:=hF;refine zB.gh ?_;have hkp:=zF σ [.int .i64 p,.int .i64 c,.fz wA aA F.length rA];have no:¬isMx p c F→Gh σ K (.bool false) (σ.new [.int .i64 p,.int .i64 c,.fz wA aA F.length rA]):=fun h=>Gh.fin0 hkp trivial (hk _ (fl h))
 refine zC mix Try.func36 ?_
 conv=>arg 2;cbv
 refine zD rfl ?_;simp only [pwA,seval,-iQ0,h1];refine zE7 ?_
 by_cases hp:isP p
 rotate_left
 ·simp only [pwA,seval,-iQ0,hp]
  exact no fun h=>hp h.1
 have hpb:=hp.bd;simp only [pwA,seval,-iQ0,hp];refine zD1 ?_
 by_cases hc:0≤c∧c≤8
 rotate_left
 ·simp only [pwA,seval,-iQ0,hc]
  exact no fun h=>hc h.2.1
 by_cases hl:F.length≤8
 rotate_left
 ·have hl':(8:Int)<(F.length:Int):=by omega
  simp only [pwA,seval,-iQ0,hc,hl'];exact no fun h=>hl h.2.2.1
 have hl':¬(8:Int)<(F.length:Int):=by omega
 obtain⟨n,hn⟩:∃n:Nat,c=(n:Int):=⟨c.toNat,by omega⟩
 subst hn;have hcn:((n:Int)).toNat=n:=rfl;simp only [pwA,seval,-iQ0,hc,hl'];refine zM (fun m vs h'=>∃i:Nat,i≤F.length∧m=F.length-i∧vs=[.ptr σ.next 0,.int .i64 i]∧σ.new [.int .i64 p,.int .i64 n,.fz wA aA F.length rA]=h'∧∀r∈F.take i,Ve p n r) F.length ?_ ?_
 ·exact⟨0,by omega,by omega,rfl,rfl,by simp⟩
 rintro m vs h' ⟨i,hi,rfl,rfl,rfl,hall⟩
 simp only [pwA,seval,-iQ0];refine iteI (fun hlt=>?_) fun hge=>?_
 rotate_left
 ·exact Gh.fin0 hkp trivial (hk _ ⟨fun _=>⟨hp,hc,hl,fun r hr=>hall r (by rwa [List.take_of_length_le (by omega)])⟩,fun _=>rfl⟩)
 obtain⟨w4,a4,hr⟩:=hrA.rowI hlt;have hb:=sz.r _ (List.getElem_mem hlt);simp only [pwA,seval,-iQ0,hlt,hr];refine zAn rfl (by omega) (by omega) (by omega) ?_
 by_cases hv:isVec F[i] p (n:Int)
 ·simp only [pwA,seval,-iQ0,hv,wrapS hlt (by omega:F.length≤4611686018427387904)]
  refine⟨_,by omega,i+1,by omega,rfl,rfl,fun r hr=>?_⟩
  rw [List.take_succ_eq_append_getElem hlt,List.mem_append,List.mem_singleton]at hr
  rcases hr with hr|rfl
  ·exact hall r hr
  ·exact(zBu (by omega)).1 hv
 ·simp only [pwA,seval,-iQ0,hv]
  exact no fun h=>hv ((zBu (by omega)).2 (h.2.2.2 _ (List.getElem_mem hlt)))
end Go.Proofs
namespace Go.Proofs
open Go.Ab Go.Lie
variable {σ σ0 σ1 h h':PHeap} {K:PV→PHeap→Prop} {vC:PV} {bs:List Int} {s:Nat}
def So (σ:PHeap) (s:Nat) (vC:PV) (bs:List Int):Prop:=∃a sd,Src σ s vC bs a sd
def Mv (σ:PHeap) (s:Nat) (σ':PHeap):Prop:=∃c0 c1,σ.obj s=some c0∧Bels 0 c1∧σ'=σ.set s c1
def KM (σ:PHeap) (s:Nat) (h:PHeap):Prop:=∃σ',Mv σ s σ'∧Keep σ' h
theorem Mv.next (m:Mv σ s h):h.next=σ.next:=by obtain⟨_,_,_,_,rfl⟩:=m;rfl
theorem Mv.top (m:Mv σ s h):h.top=σ.top:=by obtain⟨_,_,_,_,rfl⟩:=m;rfl
theorem Mv.obj (m:Mv σ s h) {t:Nat} (ht:t≠s):h.obj t=σ.obj t:=by obtain⟨_,_,_,_,rfl⟩:=m;rw [zL,if_neg ht]
theorem So.lt (k:So σ s vC bs):s<σ.next:=by obtain⟨_,_,k⟩:=k;exact k.lt
theorem So.mv (k:So σ s vC bs) {a:Nat} {sd:Int} (ha:a≤bs.length) (hs:0≤sd∧sd<2147483647):Mv σ s (σ.set s (srcC vC a sd))∧So (σ.set s (srcC vC a sd)) s vC bs:=by
 obtain⟨a0,sd0,k⟩:=k;exact⟨⟨_,_,k.obj,k.fb.bels _ _ _,rfl⟩,a,sd,k.set ha hs⟩
theorem So.mv0 (k:So σ s vC bs):Mv σ s σ:=by
 obtain⟨a0,sd0,k⟩:=k;exact⟨_,_,k.obj,k.fb.bels _ _ _,(Zz k.obj).symm⟩
theorem So.keep (k:So σ s vC bs) (hk:Keep σ h):So h s vC bs:=by
 obtain⟨a0,sd0,k⟩:=k;exact⟨_,_,k.keep hk⟩
theorem So.set (k:So σ s vC bs) {t:Nat} (ht:s≠t) (cs:List PV):So (σ.set t cs) s vC bs:=by
 obtain⟨a0,sd0,k⟩:=k;exact⟨a0,sd0,by rw [zL,if_neg ht];exact k.obj,k.lt,k.fb,k.byt,k.le,k.sd⟩
theorem KM.keep (k:KM σ s h) (hk:Keep h h'):KM σ s h':=by
 obtain⟨σ',m,q⟩:=k;exact⟨σ',m,q.trans hk⟩
theorem KM.next (k:KM σ s h):σ.next≤h.next:=by
 obtain⟨σ',m,q⟩:=k;rw [←m.next];exact q.next
theorem KM.obj (k:KM σ s h) {t:Nat} (ht:t<σ.next) (hn:t≠s):h.obj t=σ.obj t:=by
 obtain⟨σ',m,q⟩:=k;rw [q.obj t (by rw [m.next];exact ht),m.obj hn]
theorem So.km (k:So σ s vC bs):KM σ s σ:=⟨σ,k.mv0,Keep.refl _⟩
theorem So.kmK (k:So σ s vC bs) (hk:Keep σ h):KM σ s h:=⟨σ,k.mv0,hk⟩
theorem KM.new (k:KM σ s h) (cs:List PV):KM σ s (h.new cs):=k.keep (zF h cs)
theorem KM.set (k:KM σ s h) {t:Nat} (ht:σ.next≤t) (cs:List PV):KM σ s (h.set t cs):=by
 obtain⟨σ',m,q⟩:=k;exact⟨σ',m,q.set (by rw [m.next];exact ht) cs⟩
theorem KM.mv (k:KM σ s h) (hs:s<σ.next) (m':Mv h s h'):KM σ s h':=by
 obtain⟨σ',⟨c0,c1,h0,h1,rfl⟩,q⟩:=k;obtain⟨d0,d1,g0,g1,rfl⟩:=m';refine⟨σ.set s d1,⟨c0,d1,h0,g1,rfl⟩,q.next,q.top,fun t ht=>?_⟩
 rw [zL,zL]
 split
 ·rfl
 ·rename_i e
  rw [q.obj t ht,zL,if_neg e]
theorem KM.trans (k:KM σ s h) (hs:s<σ.next) (k':KM h s h'):KM σ s h':=by
 obtain⟨σ',m,q⟩:=k';exact(k.mv hs m).keep q
theorem Gh.km {v:PV} (k:KM σ s h) (so:So h s vC bs) (hs:s<σ.next) (c:∀σ',Mv σ s σ'→So σ' s vC bs→Keep σ' h→Gh σ' K v h):Gh σ K v h:=by
 obtain⟨σ',m,q⟩:=k;obtain⟨c0,c1,h0,h1,e⟩:=m;obtain⟨a,sd,S⟩:=so;have hs':s<σ'.next:=by rw [e];exact hs
 have so':So σ' s vC bs:=⟨a,sd,by rw [←q.obj s hs'];exact S.obj,hs',S.fb,S.byt,S.le,S.sd⟩
 have:=c σ' ⟨c0,c1,h0,h1,e⟩ so' q
 rw [e]at this
 exact Gh.setS h0 h1 this
theorem z8 {n:Int} (so:So σ s vC bs) (hn:n≤4611686018427387904) (hk:∀x h,Nx n x→Mv σ s h→So h s vC bs→K (.int .i64 x) h):zB Try.prog 42 [.ptr s 0,.int .i64 n] σ K:=by
 obtain⟨a,sd,S⟩:=so;refine zGG S hn fun x a' sd' hx ha hs=>?_
 obtain⟨m1,m2⟩:=So.mv ⟨a,sd,S⟩ ha hs;exact hk x _ hx m1 m2
end Go.Proofs
namespace Go.Proofs
open Go.Ab
def if7:IFn:=⟨[0],[(.tmp 2)],(S0 (R0 [0] [tI0 2 false])
 (S0 (.seq (R0 [0,21] [mI0 20 0,C1 21 8 20])
 (.cond (.t 21) (S0 (R0 [2] [tI0 2 true])
 .ret) .skip))
 (S0 (R0 [3,4] [mI0 23 0,C1 24 32 23,mI0 22 24,eI0 25 22 0,eI0 26 22 1,eI 3 (.alloc [(.int .i64 0),(.int .i64 0),.nils]),vI0 3 3 25,mI0 4 26])
 (S0 (R0 [3,4,5,6] [LI0 28 3,mI0 29 4,C2 30 33 28 29,mI0 27 30,eI0 31 27 0,eI0 32 27 1,mI0 5 31,mI0 6 32])
 (S0 (R0 [3,4,5,6,7,8] [LI0 34 3,mI0 35 4,C2 36 34 34 35,mI0 33 36,eI0 37 33 0,eI0 38 33 1,mI0 7 37,mI0 8 38])
 (S0 (.seq (R0 [3,4,5,6,47] [mI0 39 6,mI0 40 8,bI0 41 .neq 39 40,mI0 42 41,gm0 43 5 42 false,gm0 44 7 42 false,G0 45 (.call 35 [(.t 43),(.t 44)]) false 42 false,G0 46 (.un .not (.t 45)) true 42 false,oI0 47 42 46])
 (.cond (.t 47) (S0 (R0 [2] [tI0 2 false])
 .ret) .skip))
 (S0 (.seq (R0 [3,4,5,6,50] [LI0 48 3,C1 49 36 48,nI0 50 49])
 (.cond (.t 50) (S0 (R0 [2] [LI0 51 3,C1 52 37 51,nI0 53 52,mI0 2 53])
 .ret) .skip))
 (S0 (R0 [3,4,5,6,9,10] [LI0 55 3,C1 56 14 55,mI0 54 56,eI0 57 54 0,eI0 58 54 1,eI 9 (.alloc [(.int .i64 0),(.int .i64 0),.nils]),vI0 3 9 57,mI0 10 58])
 (S0 (R0 [3,4,5,6,9,10,11,12] [LI0 60 3,C1 61 29 60,mI0 59 61,eI0 62 59 0,eI0 63 59 1,eI 11 (.alloc [(.int .i64 0),(.int .i64 0),.nils]),vI0 3 11 62,mI0 12 63])
 (S0 (.seq (R0 [3,4,5,6,9,11,82] [mI0 64 10,cI0 65 .neq 64 0,mI0 66 65,gm0 67 12 66 false,G0 68 (.bin .neq .other (.t 67) (I0 0)) true 66 false,oI0 69 66 68,mI0 70 69,G0 71 (.fieldAddr 2 (.t 9)) true 70 false,G0 72 (.load false 1 (.t 71)) true 70 false,G0 73 (.len (.t 72)) true 70 false,G0 74 (.fieldAddr 2 (.t 11)) true 70 false,G0 75 (.load false 1 (.t 74)) true 70 false,G0 76 (.len (.t 75)) true 70 false,G0 77 (.bin .add .other (.t 73) (.t 76)) true 70 false,G0 78 (.fieldAddr 2 (.t 3)) true 70 false,G0 79 (.load false 1 (.t 78)) true 70 false,G0 80 (.len (.t 79)) true 70 false,G0 81 (.bin .neq .other (.t 77) (.t 80)) true 70 false,oI0 82 70 81])
 (.cond (.t 82) (S0 (R0 [2] [tI0 2 false])
 .ret) .skip))
 (S0 (R0 [3,4,5,6,9,11,13,14] [LI0 84 11,LI0 85 3,C2 86 10 84 85,mI0 83 86,eI0 87 83 0,eI0 88 83 1,eI 13 (.alloc [(.int .i64 0),(.int .i64 0),.nils]),vI0 3 13 87,mI0 14 88])
 (S0 (.seq (R0 [3,4,5,6,9,13,99] [mI0 89 14,cI0 90 .neq 89 0,mI0 91 90,G0 92 (.fieldAddr 2 (.t 13)) true 91 false,G0 93 (.load false 1 (.t 92)) true 91 false,G0 94 (.len (.t 93)) true 91 false,G0 95 (.fieldAddr 2 (.t 11)) true 91 false,G0 96 (.load false 1 (.t 95)) true 91 false,G0 97 (.len (.t 96)) true 91 false,G0 98 (.bin .neq .other (.t 94) (.t 97)) true 91 false,oI0 99 91 98])
 (.cond (.t 99) (S0 (R0 [2] [tI0 2 false])
 .ret) .skip))
 (S0 (.seq (R0 [3,4,5,6,9,13,15] [kI0 15 0])
 (.block 0 (.loop [3,4,5,6,9,13,15] (S0 (.seq (R0 [3,4,5,6,9,13,15,104] [mI0 100 15,fI0 101 2 13,lI0 102 101,sI0 103 102,bI0 104 .lss 100 103])
 (.cond (.t 104) .skip (.exit 0)))
 (S0 (.block 1 (S0 (R0 [3,4,5,6,9,13,15,113] [fI0 107 2 13,lI0 108 107,mI0 109 15,xI0 110 108 109,lI0 111 110,C1 112 38 111,cI0 113 .neq 112 0])
 (.cond (.t 113) (S0 (R0 [2] [tI0 2 false])
 .ret) .skip)))
 (R0 [3,4,5,6,9,13,15] [mI0 105 15,cI0 106 .add 105 1,mI0 15 106]))))))
 (S0 (.seq (R0 [3,4,5,9,115] [mI0 114 6,cI0 115 .neq 114 0])
 (.cond (.t 115) (S0 (R0 [2] [tI0 2 true])
 .ret) .skip))
 (S0 (R0 [4,9,16,17] [fI0 117 0 3,lI0 118 117,fI0 119 2 3,lI0 120 119,sI0 121 120,mI0 122 5,eI 123 (.buildSl 1 1 [.nils] [(0,1,(.t 122))]),qI 124 (.build [(.int .i64 0),(.int .i64 0),.nils] [(0,1,(.t 118)),(1,1,(.t 121)),(2,1,(.t 123))]),LI0 125 3,C2 126 10 124 125,mI0 116 126,eI0 127 116 0,eI0 128 116 1,eI 16 (.alloc [(.int .i64 0),(.int .i64 0),.nils]),vI0 3 16 127,mI0 17 128])
 (S0 (.seq (R0 [4,9,145] [mI0 129 17,cI0 130 .neq 129 0,mI0 131 130,G0 132 (.fieldAddr 2 (.t 16)) true 131 false,G0 133 (.load false 1 (.t 132)) true 131 false,G0 134 (.len (.t 133)) true 131 false,G0 135 (.bin .neq .other (.t 134) (I0 1)) true 131 false,oI0 136 131 135,mI0 137 136,G0 138 (.fieldAddr 2 (.t 16)) true 137 false,G0 139 (.load false 1 (.t 138)) true 137 false,G0 140 (.indexAddr 1 (.t 139) (I0 0)) true 137 false,G0 141 (.load false 1 (.t 140)) true 137 false,gm0 142 4 137 false,G0 143 (.call 35 [(.t 141),(.t 142)]) false 137 false,G0 144 (.un .not (.t 143)) true 137 false,oI0 145 137 144])
 (.cond (.t 145) (S0 (R0 [2] [tI0 2 false])
 .ret) .skip))
 (S0 (R0 [18,19] [LI0 147 9,mI0 148 4,C2 149 39 147 148,mI0 146 149,eI0 150 146 0,eI0 151 146 1,mI0 18 150,mI0 19 151])
 (S0 (R0 [2] [mI0 152 18,mI0 153 152,gm0 154 19 153 true,G0 155 (.bin .eql .other (.t 154) (I0 0)) true 153 true,aI0 156 153 155,mI0 2 156])
 .ret))))))))))))))))))⟩
theorem cf7:cF Try.prog Try.f7=some if7:=by kernel_rfl
end Go.Proofs
namespace Go.Proofs.Ytcooahfdjlhmdaa
open Go.ChangeShapes Go.WideShapes Go.ChangeAt Go.RowKit Go.Ab Go.Joins Go.Lie Go.Proofs
theorem own:ownKnob Try.prog.godebug=none:=by kernel_rfl
theorem laidOut:laidOutB Try.prog=true:=by kernel_rfl
variable {H:Type} {enc:TypeId×Value→H} {W w0:World} {j:Inj} {h:AHeap}
end Go.Proofs.Ytcooahfdjlhmdaa
namespace Go.Proofs.Ytcooahfdjlhmdaa
open Go.ChangeShapes Go.WideShapes Go.ChangeAt Go.RowKit Go.Ab Go.Joins Go.Lie Go.Proofs
variable {H:Type} {enc:TypeId×Value→H} {W w0:World} {j:Inj} {h:AHeap}
theorem cell8:Try.prog.cellsOf 5=1:=by kernel_rfl
theorem lay8:Lay1 enc Try.prog W 5 (fun pv (n:Int)=>pv=.int .u8 n∧0≤n∧n≤255):=by
 intro w0 j h held fuel v x m hx;obtain⟨n,hn,_,hw⟩:=DataW.trod_int Try.underlying5 hx;simp only [List.cons.injEq,and_true]at hn
 subst hn;simp only [Lit.wf,Bool.and_eq_true,decide_eq_true_eq]at hw
 have h1:IntKind.u8.min=0:=by rfl
 have h2:IntKind.u8.max=255:=by rfl
 rw [h1,h2]at hw
 exact⟨j,h,.int .u8 n,n,m,Inj.le.refl _,Ext.refl m.wf,rfl,trivial,rfl,rfl,hw.1,hw.2⟩
theorem FL.bytes {v:PV} {xs:List Int} (h:FL (fun pv (n:Int)=>pv=.int .u8 n∧0≤n∧n≤255) v xs):FB v xs:=by
 obtain⟨w,a,rows,rfl,hr⟩:=h;refine⟨w,a,?_⟩
 congr 1
 apply List.ext_getElem?;intro k;rw [List.getElem?_map];rcases Nat.lt_or_ge k xs.length with x|x
 ·obtain⟨pv,h1,h2⟩:=hr.get x
  rw [h1,gi x,h2.1];rfl
 ·rw [List.getElem?_eq_none (by rw [hr.1];exact x),List.getElem?_eq_none x];rfl
theorem layB:Lay1 enc Try.prog W 22 (fun v (xs:List Int)=>FB v xs∧∀b∈xs,0≤b∧b≤255):=by
 intro w0 j h held fuel v x m hx;obtain⟨j',h',pv,a,g1,g2,g3,g4,g5,g6,g7,g8⟩:=zHX Try.underlying22 cell8 lay8 w0 j h held fuel v x m hx;exact⟨j',h',pv,a,g1,g2,g3,g4,g5,g6,FL.bytes g7,g7.all fun _ _ k=>k.2⟩
end Go.Proofs.Ytcooahfdjlhmdaa
