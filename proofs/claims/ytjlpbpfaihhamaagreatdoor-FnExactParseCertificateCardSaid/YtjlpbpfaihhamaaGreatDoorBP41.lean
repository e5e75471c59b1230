/- ParseCertificate: the program's and the reference's. -/
import Derived.Test.YtjlpbpfaihhamaaGreatDoorBP40
import Derived.Test.YtjlpbpfaihhamaaGreatDoorBP30
import Derived.Test.YtjlpbpfaihhamaaGreatDoorBP36
import Derived.Test.YtjlpbpfaihhamaaGreatDoorBAbPn
import Derived.Test.YtjlpbpfaihhamaaGreatDoorBAbPz
import Derived.Test.YtjlpbpfaihhamaaGreatDoorBAbPj
import Derived.Test.YtjlpbpfaihhamaaGreatDoorBAbPa
import Derived.Test.YtjlpbpfaihhamaaGreatDoorBP33
import Derived.Test.YtjlpbpfaihhamaaGreatDoorBP39
open Nat renaming left_eq_add→nQ1,add_eq_left→nQ2,succ_ne_self→nQ3,one_ne_zero→nQ4,add_left_cancel_iff→nQ5,add_assoc→nQ6,reduceLeDiff→nQ7,le_refl→nQ8,lt_add_one→nQ9,reduceEqDiff→nQ10,reduceBEq→nQ11,reduceAdd→nQ12,mul_one→nQ13,zero_add→nQ14,add_zero→nQ15
open Int renaming reduceNatCast'→iQ0,toNat_natCast→iQ2,reduceEq→iQ3,reduceLT→iQ4,reduceLE→iQ5,reduceNeg→iQ6
open List renaming getElem?_cons_zero→lQ1,getElem?_cons_succ→lQ2,take_succ_cons→lQ3,take_zero→lQ4,drop_succ_cons→lQ5,drop_zero→lQ6,take_nil→lQ7,drop_nil→lQ8,map_cons→lQ9,map_nil→lQ10,nil_append→lQ11,cons_append→lQ12,all_cons→lQ13,all_nil→lQ14,length_cons→lQ15,length_nil→lQ16,contains_cons→lQ17,contains_nil→lQ18
open Bool renaming not_true→bQ1,not_false→bQ2,and_true→bQ3,true_and→bQ4,and_self→bQ5,true_eq_false→bQ6,false_eq_true→bQ7,or_false→bQ8,or_true→bQ9,true_or→bQ10,false_or→bQ11
open Option renaming map_some→oQ1,map_none→oQ2
set_option maxRecDepth 100000
namespace Go.Grp
end Go.Grp
set_option linter.unusedSimpArgs false
set_option linter.unusedVariables false
set_option linter.unusedSectionVars false
namespace Go.Proofs
open Go.Ab Go.Lie Go.Grp
variable {O:List Int} {P:List (List Int)} {C:List (List (List Int))} {n:Nat}
abbrev Tab:=List (List Int)×List (List (List Int))
def foldG (f:Tab→List UInt8→Option Tab):Tab→List (List UInt8)→Option Tab
 | pc,[]=>some pc
 | pc,s::r=>match f pc s with | none=>none | some pc'=>foldG f pc' r
theorem zH1:∀(l:List (List UInt8)) (pc:Tab),foldR O pc l=foldG (fun pc s=>relF O pc.1 pc.2 s) pc l
 | [],pc=>rfl
 | s::r,pc=>by
  rw [foldR,foldG];cases relF O pc.1 pc.2 s with
  | none=>rfl
  | some pc'=>exact zH1 r pc'
theorem zH2:∀(l:List (List UInt8)) (pc:Tab),foldI n pc l=foldG (fun pc s=>relP n pc.1 pc.2 s) pc l
 | [],pc=>rfl
 | s::r,pc=>by
  rw [foldI,foldG];cases relP n pc.1 pc.2 s with
  | none=>rfl
  | some pc'=>exact zH2 r pc'
theorem Qw (f:Tab→List UInt8→Option Tab):∀(a b:List (List UInt8)) (pc pc':Tab),foldG f pc a=some pc'→foldG f pc (a++b)=foldG f pc' b
 | [],b,pc,pc',e=>by rw [foldG]at e;rw [List.nil_append,Option.some.inj e]
 | s::r,b,pc,pc',e=>by
  rw [List.cons_append,foldG];rw [foldG]at e
  cases h:f pc s with
  | none=>rw [h]at e;cases e
  | some q=>rw [h]at e;exact Qw f r b q pc' e
structure Sets (f:Tab→List UInt8→Option Tab) (p:List UInt8→List UInt8) (O:List Int) (P:List (List Int)) (C:List (List (List Int))):Prop where
 pow:∀(P':List (List Int)) (C':List (List (List Int))) i,i<O.length→f (P',C') (p (relTx i (Lib.decDigits (at_ O i).toNat) (pvec P i)))=some (P'.set i (pvec P i),C')
 con:∀(P':List (List Int)) (C':List (List (List Int))) i k,i+1+k<O.length→f (P',C') (p (relTx (i+1+k) [letB i] (cvec C i (i+1+k))))=some (P',C'.set i ((C'.getD i []).set k (cvec C i (i+1+k))))
theorem qz {α:Type} {l:List α} {d x:α} {i j:Nat} (h:i<l.length):(l.set i x).getD j d=if i=j then x else l.getD j d:=by
 rw [List.getD_eq_getElem?_getD,List.getElem?_set,List.getD_eq_getElem?_getD];rw [if_pos h]
 split<;>rfl
theorem zGF:∀{x:List Int},isZ x→x=List.replicate x.length 0
 | [],_=>rfl
 | a::x,h=>by
  rw [List.length_cons,List.replicate_succ,←zGF (x:=x) fun b hb=>h b (by simp [hb]),h a (by simp)]
theorem zGN {f:Tab→List UInt8→Option Tab} {p:List UInt8→List UInt8} (S:Sets f p O P C) (hp:zK O P C) (C0:List (List (List Int))):
  ∀i,i≤O.length→∃P',foldG f (trP O.length O.length,C0) ((powL O P i).map p)=some (P',C0)∧P'.length=O.length∧∀t,t<O.length→P'.getD t []=if t<i then pvec P t else List.replicate O.length 0
 | 0,_=>⟨_,rfl,by simp [trP],fun t ht=>by
   rw [if_neg (by omega),List.getD_eq_getElem?_getD,trP,List.getElem?_replicate,if_pos ht];rfl⟩
 | i+1,hi=>by
  obtain⟨P',e,hl,hP⟩:=zGN S hp C0 i (by omega)
  have sh:=hp.shp;rw [powL]
  split
  ·rename_i hz
   refine⟨P',e,hl,fun t ht=>?_⟩
   rw [hP t ht]
   by_cases h1:t<i
   ·rw [if_pos h1,if_pos (by omega)]
   ·by_cases h2:t=i
    ·subst h2
     rw [if_neg (by omega),if_pos (by omega),←(sh.pw t ht).len]
     exact(zGF hz).symm
    ·rw [if_neg h1,if_neg (by omega)]
  ·rw [List.map_append,List.map_singleton]
   refine⟨P'.set i (pvec P i),?_,by simpa using hl,fun t ht=>?_⟩
   ·rw [Qw f _ _ _ _ e,foldG,S.pow P' C0 i (by omega)]
    rfl
   ·rw [qz (by omega),hP t ht]
    by_cases h2:i=t
    ·rw [if_pos h2,if_pos (by omega),h2]
    ·rw [if_neg h2]
     by_cases h1:t<i
     ·rw [if_pos h1,if_pos (by omega)]
     ·rw [if_neg h1,if_neg (by omega)]
theorem zGM {f:Tab→List UInt8→Option Tab} {p:List UInt8→List UInt8} (S:Sets f p O P C) (P0:List (List Int)) {i:Nat} (hi:i<O.length) (C0:List (List (List Int))) (hC0:i<C0.length) (h0:(C0.getD i []).length=O.length-1-i) (hu:∀k,k<O.length-1-i→(C0.getD i []).getD k []=unitL O.length (i+1+k)):
  ∀k,k≤O.length-1-i→∃r,foldG f (P0,C0) ((conR O.length C i k).map p)=some (P0,C0.set i r)∧r.length=O.length-1-i∧∀t,t<O.length-1-i→r.getD t []=if t<k then cvec C i (i+1+t)else unitL O.length (i+1+t)
 | 0,_=>⟨C0.getD i [],by
   rw [List.getD_eq_getElem?_getD,List.getElem?_eq_getElem hC0,Option.getD_some,List.set_getElem_self];rfl,h0,fun t ht=>by rw [if_neg (by omega)];exact hu t ht⟩
 | k+1,hk=>by
  obtain⟨r,e,hl,hr⟩:=zGM S P0 hi C0 hC0 h0 hu k (by omega)
  rw [conR]
  split
  ·rename_i hz
   refine⟨r,e,hl,fun t ht=>?_⟩
   rw [hr t ht]
   by_cases h1:t<k
   ·rw [if_pos h1,if_pos (by omega)]
   ·by_cases h2:t=k
    ·subst h2
     rw [if_neg (by omega),if_pos (by omega)]
     exact hz.symm
    ·rw [if_neg h1,if_neg (by omega)]
  ·rw [List.map_append,List.map_singleton]
   refine⟨r.set k (cvec C i (i+1+k)),?_,by simpa using hl,fun t ht=>?_⟩
   ·rw [Qw f _ _ _ _ e,foldG,S.con P0 (C0.set i r) i k (by omega)]
    simp only [foldG];rw [qz hC0,if_pos rfl,List.set_set]
   ·rw [qz (by omega),hr t ht]
    by_cases h2:k=t
    ·rw [if_pos h2,if_pos (by omega),h2]
    ·rw [if_neg h2]
     by_cases h1:t<k
     ·rw [if_pos h1,if_pos (by omega)]
     ·rw [if_neg h1,if_neg (by omega)]
theorem zM8 {n i:Nat} (h:i<n):(trC n n).getD i []=trJ n i (n-1-i):=by
 rw [List.getD_eq_getElem?_getD,trC,List.getElem?_map,List.getElem?_range h];rfl
theorem zGO {f:Tab→List UInt8→Option Tab} {p:List UInt8→List UInt8} (S:Sets f p O P C) (hp:zK O P C) (P0:List (List Int)):
  ∀i,i≤O.length→∃C',foldG f (P0,trC O.length O.length) ((conL O.length C i).map p)=some (P0,C')∧C'.length=O.length∧∀t,t<O.length→C'.getD t []=if t<i then C.getD t []else trJ O.length t (O.length-1-t)
 | 0,_=>⟨_,rfl,by simp [trC],fun t ht=>by rw [if_neg (by omega)];exact zM8 ht⟩
 | i+1,hi=>by
  obtain⟨C',e,hl,hC⟩:=zGO S hp P0 i (by omega)
  have sh:=hp.shp;have hrow:C'.getD i []=trJ O.length i (O.length-1-i):=by rw [hC i (by omega),if_neg (by omega)]
  obtain⟨r,e2,hrl,hr⟩:=zGM S P0 (i:=i) (by omega) C' (by omega) (by rw [hrow,trJ];simp) (fun k hk=>by
   rw [hrow,List.getD_eq_getElem?_getD,trJ,List.getElem?_map,List.getElem?_range hk];rfl) (O.length-1-i) (Nat.le_refl _)
  have er:r=C.getD i []:=by
   have hlen:=sh.row i (by omega)
   apply List.ext_getElem (by omega)
   intro t h1 h2
   have:=hr t (by omega)
   rw [if_pos (by omega),List.getD_eq_getElem?_getD,List.getElem?_eq_getElem h1]at this
   have e3:cvec C i (i+1+t)=(C.getD i []).getD t []:=by unfold cvec;rw [show i+1+t-i-1=t by omega]
   rw [e3,List.getD_eq_getElem?_getD (l:=C.getD i []),List.getElem?_eq_getElem h2]at this
   exact this
  rw [conL,List.map_append];refine⟨C'.set i r,by rw [Qw f _ _ _ _ e];exact e2,by simpa using hl,fun t ht=>?_⟩
  rw [qz (by omega),hC t ht]
  by_cases h2:i=t
  ·subst h2
   rw [if_pos rfl,if_pos (by omega),er]
  ·rw [if_neg h2]
   by_cases h1:t<i
   ·rw [if_pos h1,if_pos (by omega)]
   ·rw [if_neg h1,if_neg (by omega)]
theorem ext_D {α:Type} {a b:List α} {d:α} (h:a.length=b.length) (e:∀t,t<a.length→a.getD t d=b.getD t d):a=b:=by
 apply List.ext_getElem h;intro t h1 h2
 have:=e t h1
 rw [List.getD_eq_getElem?_getD,List.getElem?_eq_getElem h1,List.getD_eq_getElem?_getD,List.getElem?_eq_getElem h2]at this
 exact this
theorem zGP {f:Tab→List UInt8→Option Tab} {p:List UInt8→List UInt8} (S:Sets f p O P C) (hp:zK O P C):foldG f (trP O.length O.length,trC O.length O.length) ((powL O P O.length++conL O.length C O.length).map p)=some (P,C):=by
 have sh:=hp.shp;obtain⟨P',e1,l1,h1⟩:=zGN S hp (trC O.length O.length) O.length (Nat.le_refl _);obtain⟨C',e2,l2,h2⟩:=zGO S hp P' O.length (Nat.le_refl _);have eP:P'=P:=ext_D (d:=[]) (by rw [l1,sh.pl]) fun t ht=>by rw [h1 t (by omega),if_pos (by omega)]
 have eC:C'=C:=ext_D (d:=[]) (by rw [l2,sh.cl]) fun t ht=>by rw [h2 t (by omega),if_pos (by omega)]
 rw [List.map_append,Qw f _ _ _ _ e1,e2,eP,eC]
theorem zDe {k:Nat} {x:List Int} (h:TT O k x):∀j,j<x.length→0≤at_ x j:=fun j hj=>(h.bd j (by rw [←h.len];exact hj)).1
theorem zNE {i:Nat} {d:List UInt8} {x:List Int} (pre:List UInt8):pre++relTx i d x=jn [61] (pre++([letB i]++([94]++d))) [wordB (Mx.nw x)]:=by
 rw [relTx,jn,jn];simp only [List.append_assoc]
theorem zOP {i:Nat} {c:UInt8} {x:List Int} (hi:i≤20) (hc:c≠61) (hx:∀l∈Mx.nw x,1≤l∧l≤6):spF 61 [] ([32]++relTx i [c] x)=[[32,letB i,94,c],wordB (Mx.nw x)]:=by
 rw [zNE]
 have:=zBC (d:=61) [wordB (Mx.nw x)] ([32]++([letB i]++([94]++[c]))) [] (fun y hy e=>by
  have hl:=Zu hi;simp only [List.cons_append,List.nil_append,List.mem_cons,List.not_mem_nil,or_false]at hy
  rcases hy with h|h|h|h
  ·rw [h]at e;exact absurd e (by decide)
  ·rw [←h,e]at hl;have:(61:UInt8).toNat=61:=rfl;omega
  ·rw [h]at e;exact absurd e (by decide)
  ·exact hc (h.symm.trans e)) (fun r hr y hy=>by rw [List.mem_singleton.1 hr]at hy;exact zFL hx (by decide) (by decide) y hy)
 exact this
theorem zHl {i:Nat} {c:UInt8} {x:List Int} {P':List (List Int)} {C':List (List (List Int))} (hn:O.length≤6) (hi:i≤20) (hc:c≠61) (hl:x.length=O.length) (hx:∀j,j<x.length→0≤at_ x j):relF O P' C' ([32]++relTx i [c] x)=relJ O P' C' [c] (i:Int) ((c.toNat:Int)-97) x:=by
 have hw:=nw_le hn hl;have hv:=zJa hx;have e1:=Zu hi;rw [hl]at hv
 rw [relF,zOP hi hc fun l h=>by have:=hw l h;omega,relG,if_pos (show([[32,letB i,94,c],wordB (Mx.nw x)]:List (List UInt8)).length=2 from rfl)]
 show relH O P' C' [32,letB i,94,c] (wordB (Mx.nw x))=_;rw [relH,if_pos ⟨rfl,rfl,rfl⟩,zL7 hn hw,relI];simp only [hv];show relJ O P' C' [c] (((letB i).toNat:Int)-97) ((c.toNat:Int)-97) x=_;rw [e1]
 congr 1
 omega
theorem zOR (hp:zK O P C):Sets (fun pc s=>relF O pc.1 pc.2 s) ([32]++·) O P C:=by
 have sh:=hp.shp;have hn6:=sh.le;refine⟨fun P' C' i hi=>?_,fun P' C' i k hk=>?_⟩
 ·have hP:isP (at_ O i):=by rw [at_eq (by omega)];exact hp.2.2.2.1 _ (List.getElem_mem _)
  have tt:=sh.pw i hi;obtain⟨c,ec,h1,h2,_⟩:=zAO hP;show relF O P' C' ([32]++relTx i (Lib.decDigits (at_ O i).toNat) (pvec P i))=_;rw [ec,zHl hn6 (by omega) (fun e=>by rw [e]at h2;exact absurd h2 (by decide)) tt.len (zDe tt),relJ,if_neg (by omega),Int.toNat_natCast,ec,if_pos rfl]
 ·have tt:=sh.cj i (i+1+k) (by omega) hk
  have hP:isP (at_ O (i+1+k)):=by rw [at_eq (by omega)];exact hp.2.2.2.1 _ (List.getElem_mem _)
  obtain⟨c,ec,h1,h2,_⟩:=zAO hP;have e1:=Zu (i:=i) (by omega)
  show relF O P' C' ([32]++relTx (i+1+k) [letB i] (cvec C i (i+1+k)))=_;rw [zHl hn6 (by omega) (fun e=>by rw [e]at e1;have:(61:UInt8).toNat=61:=rfl;omega) tt.len (zDe tt),relJ,if_neg (by omega),Int.toNat_natCast,ec,if_neg (fun e=>by
   rw [(List.cons.inj e).1]at e1;omega),e1,if_neg (by omega)]
  rw [show(((97+i:Nat):Int)-97).toNat=i by omega,show(((i+1+k:Nat):Int)-(((97+i:Nat):Int)-97)-1).toNat=k by omega]
theorem zHk {i:Nat} {d:List UInt8} {x:List Int} {P':List (List Int)} {C':List (List (List Int))} (hn:O.length≤6) (hi:i<O.length) (hd:∀y∈d,y≠61) (hl:x.length=O.length) (hx:∀j,j<x.length→0≤at_ x j):relP O.length P' C' (relTx i d x)=some (relK O.length P' C' x i (geF O.length d)):=by
 have e1:=Zu (i:=i) (by omega)
 have c1:Lib.cut (relTx i d x) [61]=([letB i]++([94]++d),wordB (Mx.nw x),true):=by
  have:=zH4 (c:=61) (x:=[letB i]++([94]++d)) (y:=wordB (Mx.nw x)) (fun z hz e=>by
   simp only [List.cons_append,List.nil_append,List.mem_cons]at hz
   rcases hz with h|h|h
   ·rw [←h,e]at e1;have:(61:UInt8).toNat=61:=rfl;omega
   ·rw [h]at e;exact absurd e (by decide)
   ·exact hd z h e)
  rw [←this,relTx];simp only [List.append_assoc]
 have c2:Lib.cut ([letB i]++([94]++d)) [94]=([letB i],d,true):=zH4 (c:=94) (x:=[letB i]) (y:=d) fun z hz e=>by
  rw [List.mem_singleton.1 hz]at e
  rw [e]at e1
  have:(94:UInt8).toNat=94:=rfl
  omega
 rw [relP,c1];simp only;rw [zML hn hl hx];simp only;rw [c2];simp only;rw [zH0 hi hn]
theorem zOS (hp:zK O P C):Sets (fun pc s=>relP O.length pc.1 pc.2 s) id O P C:=by
 have sh:=hp.shp;have hn6:=sh.le;refine⟨fun P' C' i hi=>?_,fun P' C' i k hk=>?_⟩
 ·have hP:isP (at_ O i):=by rw [at_eq (by omega)];exact hp.2.2.2.1 _ (List.getElem_mem _)
  have tt:=sh.pw i hi;obtain⟨c,ec,h1,h2,_⟩:=zAO hP;show relP O.length P' C' (relTx i (Lib.decDigits (at_ O i).toNat) (pvec P i))=_;rw [ec,zHk hn6 hi (fun y hy e=>by rw [List.mem_singleton.1 hy]at e;rw [e]at h2;exact absurd h2 (by decide)) tt.len (zDe tt),geF,if_neg (by omega),relK]
 ·have tt:=sh.cj i (i+1+k) (by omega) hk
  have e1:=Zu (i:=i) (by omega)
  show relP O.length P' C' (relTx (i+1+k) [letB i] (cvec C i (i+1+k)))=_;rw [zHk hn6 hk (fun y hy e=>by rw [List.mem_singleton.1 hy]at e;rw [e]at e1;have:(61:UInt8).toNat=61:=rfl;omega) tt.len (zDe tt),zH0 (by omega) hn6,relK,if_pos (by omega),show i+1+k-i-1=k by omega]
theorem zFb (hp:zK O P C) {d:UInt8} (hd97:d.toNat<97) (hdg:d.toNat<48∨57<d.toNat) (h94:d≠94) (h61:d≠61):∀q∈powL O P O.length++conL O.length C O.length,∀x∈q,x≠d:=by
 have sh:=hp.shp;have hn6:=sh.le;have key:∀i,i≤20→∀(e:List UInt8) (y:List Int),y.length=O.length→(∀x∈e,x≠d)→∀x∈relTx i e y,x≠d:=fun i hi e y hl he x hx=>by
  have h1:=Zu hi;have hw:=nw_le hn6 hl;rw [relTx]at hx
  simp only [List.mem_append,List.mem_singleton]at hx
  rcases hx with h|h|h|h|h
  ·intro e;rw [←h,e]at h1;omega
  ·rw [h];exact h94.symm
  ·exact he x h
  ·rw [h];exact h61.symm
  ·exact zFL (fun l h=>by have:=hw l h;omega) hd97 (fun e=>by rw [e]at hdg;exact absurd hdg (by decide)) x h
 have pw:∀i,i≤O.length→∀q∈powL O P i,∀x∈q,x≠d:=fun i=>by
  induction i with
  | zero=>intro _ q hq;cases hq
  | succ i ih=>
   intro hi q hq;have hP:isP (at_ O i):=by rw [at_eq (by omega)];exact hp.2.2.2.1 _ (List.getElem_mem _)
   rw [powL]at hq
   split at hq
   ·exact ih (by omega) q hq
   ·rcases List.mem_append.1 hq with hq | hq
    ·exact ih (by omega) q hq
    ·rw [List.mem_singleton.1 hq]
     exact key i (by omega) _ _ (sh.pw i (by omega)).len (zGZ hP hdg)
 have cr:∀i,i<O.length→∀k,k≤O.length-1-i→∀q∈conR O.length C i k,∀x∈q,x≠d:=fun i hi k=>by
  induction k with
  | zero=>intro _ q hq;cases hq
  | succ k ih=>
   intro hk q hq;rw [conR]at hq
   split at hq
   ·exact ih (by omega) q hq
   ·rcases List.mem_append.1 hq with hq | hq
    ·exact ih (by omega) q hq
    ·rw [List.mem_singleton.1 hq]
     refine key (i+1+k) (by omega) _ _ (sh.cj i (i+1+k) (by omega) (by omega)).len fun x hx e=>?_
     have e1:=Zu (i:=i) (by omega)
     rw [List.mem_singleton.1 hx]at e
     rw [e]at e1
     omega
 have cl:∀i,i≤O.length→∀q∈conL O.length C i,∀x∈q,x≠d:=fun i=>by
  induction i with
  | zero=>intro _ q hq;cases hq
  | succ i ih=>
   intro hi q hq;rw [conL]at hq
   rcases List.mem_append.1 hq with hq|hq
   ·exact ih (by omega) q hq
   ·exact cr i (by omega) _ (Nat.le_refl _) q hq
 intro q hq;rcases List.mem_append.1 hq with hq|hq
 ·exact pw _ (Nat.le_refl _) q hq
 ·exact cl _ (Nat.le_refl _) q hq
theorem zDF (hp:zK O P C) (h:O.length=0):O=[]∧P=[]∧C=[]:=by
 have sh:=hp.shp;exact⟨List.eq_nil_of_length_eq_zero h,List.eq_nil_of_length_eq_zero (by rw [sh.pl,h]),List.eq_nil_of_length_eq_zero (by rw [sh.cl,h])⟩
theorem zDK (hp:zK O P C):lpsF (prT O P C)=some (O,P,C):=by
 by_cases h:O.length=0
 ·obtain⟨rfl,rfl,rfl⟩:=zDF hp h
  rfl
 have ho:=zCX hp.2.2.2.1 (d:=59) (.inr (by decide)) (by decide) O.length (Nat.le_refl _)
 have hr:=zFb hp (d:=59) (by decide) (.inr (by decide)) (by decide) (by decide)
 have:=zBC (d:=59) ((powL O P O.length++conL O.length C O.length).map ([32]++·)) (ordT O O.length) [] ho fun r hr' x hx=>by
  obtain⟨q,hq,rfl⟩:=List.mem_map.1 hr';rcases List.mem_append.1 hx with hx|hx
  ·rw [List.mem_singleton.1 hx];decide
  ·exact hr q hq x hx
 rw [lpsF,zFp h,zKc,show(59:Int)=(((59:UInt8).toNat:Nat):Int) from rfl,this]
 show lpsL (orF (ordT O O.length)) ((powL O P O.length++conL O.length C O.length).map ([32]++·))=_
 rw [zL3 hp h,lpsL,zH1,zGP (zOR hp) hp]
theorem zHw (hp:zK O P C):lpI (prT O P C)=some (O,P,C):=by
 by_cases h:O.length=0
 ·obtain⟨rfl,rfl,rfl⟩:=zDF hp h
  decide +kernel
 have ho:=zCX hp.2.2.2.1 (d:=59) (.inr (by decide)) (by decide) O.length (Nat.le_refl _)
 have hr:=zFb hp (d:=59) (by decide) (.inr (by decide)) (by decide) (by decide)
 have:=zBB (c:=59) (t:=[32]) (powL O P O.length++conL O.length C O.length) (ordT O O.length) ho hr
 have h6:=hp.1;rw [lpI,zFp h,this];show lpH (orI (ordT O O.length)) (powL O P O.length++conL O.length C O.length)=_;have hf:=zGP (zOS hp) hp;rw [List.map_id]at hf
 rw [zL2 hp h,lpH,lpJ,if_neg (by omega),zH2,hf]
end Go.Proofs
namespace Go.Grp
end Go.Grp
namespace Go.Proofs
open Go.Ab Go.Lie Go.Grp
variable {O:List Int} {P:List (List Int)} {C:List (List (List Int))} {n:Nat} {k k':Int} {G G':List Pre} {L L':List (List Int)} {s:List UInt8}
abbrev prG (g:Pre):List UInt8:=prT g.1 g.2.1 g.2.2
def liL (x:List Int):List UInt8:=jn [32] [58] (x.map Lib.itoa)
def lnT (k:Int) (G:List Pre) (L:List (List Int)):List (List UInt8):=Lib.itoa k::(G.map prG++L.map liL)
theorem Zn {α:Type} {l:List α} {i:Nat} (h:i<l.length):l.take (i+1)=l.take i++[l[i]]:=by simp
theorem zKf (a:List UInt8) (rs:List (List UInt8)) (G:List Pre):∀i,i≤G.length→grT (jn [10] a rs++[10]) G i=jn [10] a (rs++(G.take i).map prG)++[10]
 | 0,_=>by simp [grT]
 | i+1,h=>by
  rw [grT,zKf a rs G i (by omega),Zn (by omega),List.map_append,←List.append_assoc rs,List.map_singleton,QI]
  have e:G.getD i ([],[],[])=G[i]:=by rw [List.getD_eq_getElem?_getD,List.getElem?_eq_getElem (by omega)];rfl
  rw [e];simp only [List.append_assoc]
theorem zKo (q a:List UInt8) (x:List Int):∀j,j≤x.length→enT (q++a) x j=q++jn [32] a ((x.take j).map Lib.itoa)
 | 0,_=>by simp [enT,jn]
 | j+1,h=>by
  rw [enT,zKo q a x j (by omega),Zn (by omega),List.map_append,List.map_singleton,QI,at_eq (by omega)]
  simp only [List.append_assoc]
theorem zKW (a:List UInt8) (rs:List (List UInt8)) (L:List (List Int)):∀i,i≤L.length→liT (jn [10] a rs++[10]) L i=jn [10] a (rs++(L.take i).map liL)++[10]
 | 0,_=>by simp [liT]
 | i+1,h=>by
  have e:L.getD i []=L[i]:=by rw [List.getD_eq_getElem?_getD,List.getElem?_eq_getElem (by omega)];rfl
  rw [liT,zKW a rs L i (by omega),e,zKo _ _ _ _ (Nat.le_refl _),List.take_length,Zn (by omega),List.map_append,←List.append_assoc rs,List.map_singleton,QI]
  simp only [liL,List.append_assoc]
theorem zDW:certT k G L=jn [10] (Lib.itoa k) ((G.map prG++L.map liL)++[[]]):=by
 have e0:Lib.itoa k++[10]=jn [10] (Lib.itoa k) []++[10]:=rfl;rw [certT,e0,zKf _ _ _ _ (Nat.le_refl _),zKW _ _ _ _ (Nat.le_refl _),List.take_length,List.take_length,QI]
 simp
theorem zF6 {sep:List UInt8} {x:UInt8}:∀{rs:List (List UInt8)} {a:List UInt8},x∈jn sep a rs→x∈sep∨x∈a∨∃r∈rs,x∈r
 | [],a,h=>.inr (.inl h)
 | b::r,a,h=>by
  rw [jn,List.mem_append,List.mem_append]at h
  rcases h with h|h|h
  ·exact .inr (.inl h)
  ·exact .inl h
  ·rcases zF6 h with h | h | ⟨q,hq,h⟩
   ·exact .inl h
   ·exact .inr (.inr ⟨b,by simp,h⟩)
   ·exact .inr (.inr ⟨q,by simp [hq],h⟩)
theorem zCZ {z:Int} {d:UInt8} (hd:d.toNat<45):∀x∈Lib.itoa z,x≠d:=fun x hx e=>by
 unfold Lib.itoa at hx
 split at hx
 ·rcases List.mem_cons.1 hx with h | h
  ·rw [←e,h]at hd;exact absurd hd (by decide)
  ·have:=zCc _ x h;rw [e]at this;omega
 ·have:=zCc _ x hx;rw [e]at this;omega
theorem zOl (hp:zK O P C):∀x∈prT O P C,x≠10:=by
 by_cases h:O.length=0
 ·obtain⟨rfl,rfl,rfl⟩:=zDF hp h
  intro x hx;rw [List.mem_singleton.1 (show x∈[49] from hx)]
  decide
 intro x hx;rw [zFp h]at hx
 rcases zF6 hx with h1|h1|⟨r,hr,h1⟩
 ·rcases List.mem_cons.1 h1 with e | e
  ·rw [e];decide
  ·rw [List.mem_singleton.1 e];decide
 ·exact zCX hp.2.2.2.1 (d:=10) (.inl (by decide)) (by decide) _ (Nat.le_refl _) x h1
 ·exact zFb hp (d:=10) (by decide) (.inl (by decide)) (by decide) (by decide) r hr x h1
theorem zOs (x:List Int):∀y∈liL x,y≠10:=fun y hy=>by
 rcases zF6 hy with h|h|⟨r,hr,h⟩
 ·rw [List.mem_singleton.1 h];decide
 ·rw [List.mem_singleton.1 h];decide
 ·obtain⟨z,_,rfl⟩:=List.mem_map.1 hr
  exact zCZ (by decide) y h
theorem zF9 (hc:qR k G L):(∀x∈Lib.itoa k,x≠10)∧∀r∈(G.map prG++L.map liL)++[[]],∀x∈r,x≠10:=by
 refine⟨zCZ (by decide),fun r hr x hx=>?_⟩
 rcases List.mem_append.1 hr with hr|hr
 ·rcases List.mem_append.1 hr with hr | hr
  ·obtain⟨g,hg,rfl⟩:=List.mem_map.1 hr
   exact zOl (hc.2.2.1 g hg) x hx
  ·obtain⟨y,hy,rfl⟩:=List.mem_map.1 hr
   exact zOs y x hx
 ·rw [List.mem_singleton.1 hr]at hx;cases hx
theorem zDV (hc:qR k G L):spF 10 [] (certT k G L)=lnT k G L++[[]]:=by
 obtain⟨h1,h2⟩:=zF9 hc
 have:=zBC (d:=10) _ _ [] h1 h2
 rw [zDW];exact this
theorem zKx (hc:qR k G L):splL [10] (certT k G L)=lnT k G L++[[]]:=by
 obtain⟨h1,h2⟩:=zF9 hc;rw [zDW,zBB (c:=10) (t:=[]) _ _ h1 h2]
 rfl
theorem zDw (d:UInt8):∀(s cur:List UInt8),∃a rs,spF ((d.toNat:Nat):Int) cur s=a::rs∧jn [d] a rs=cur++s
 | [],cur=>⟨cur,[],rfl,by rw [jn,List.append_nil]⟩
 | x::r,cur=>by
  by_cases e:((x.toNat:Nat):Int)=((d.toNat:Nat):Int)
  ·obtain⟨a,rs,h1,h2⟩:=zDw d r []
   have ex:x=d:=UInt8.toNat_inj.1 (by exact_mod_cast e)
   exact⟨cur,a::rs,by rw [spF,if_pos e,h1],by rw [jn,h2,ex];simp⟩
  ·obtain⟨a,rs,h1,h2⟩:=zDw d r (cur++[x])
   exact⟨a,rs,by rw [spF,if_neg e,h1],by rw [h2];simp⟩
theorem zFH (h:spF 10 [] s=lnT k G L++[[]]):certT k G L=s:=by
 obtain⟨a,rs,h1,h2⟩:=zDw 10 s [];have e:a::rs=Lib.itoa k::((G.map prG++L.map liL)++[[]]):=by rw [←h1];exact h
 rw [zDW,←(List.cons.inj e).1,←(List.cons.inj e).2,h2]
 rfl
def vaF (s:List UInt8):Option Int:=
 if s=[49,48,48,48,48,48,48]then some 1000000
 else if s=[45,49,48,48,48,48,48,48]then some (-1000000)
 else if s.head? = some 45 then(if 0<vlF (s.drop 1)then some (-vlF (s.drop 1))else none)
 else if 0≤vlF s then some (vlF s)else none
theorem zJX:∀(s:List UInt8) (y:Int),vlL y s=-1∨∀c∈s,48≤c.toNat∧c.toNat≤57
 | [],y=>.inr fun c hc=>by cases hc
 | c::r,y=>by
  rw [vlL]
  split
  ·exact .inl rfl
  ·rcases zJX r (10*y+((c.toNat:Int)-48))with h | h
   ·exact .inl h
   ·refine .inr fun d hd=>?_
    rcases List.mem_cons.1 hd with rfl|hd
    ·omega
    ·exact h d hd
theorem zKu:∀(n:Nat) (s:List UInt8),s.length=n+1→(∀c∈s,48≤c.toNat∧c.toNat≤57)→(0<n→s.head?≠some 48)→Lib.decDigits (vlL 0 s).toNat=s∧0≤vlL 0 s∧vlL 0 s<10 ^ (n+1)∧(s.head?≠some 48→1≤vlL 0 s)
 | 0,s,hl,hd,_=>by
  obtain⟨c,rfl⟩:=List.length_eq_one_iff.1 hl;have h:=hd c (by simp)
  have e:vlL 0 [c]=(c.toNat:Int)-48:=by rw [vlL,if_neg (by omega),vlL];omega
  rw [e];refine⟨?_,by omega,by omega,fun hn=>?_⟩
  ·rw [Lib.decDigits,dif_pos (by omega)]
   congr 1
   rw [show 48+((c.toNat:Int)-48).toNat=c.toNat by omega]
   exact UInt8.ofNat_toNat
  ·have:c.toNat≠48:=fun q=>hn (by rw [List.head?_cons];exact congrArg some (UInt8.toNat_inj.1 (q.trans rfl)))
   omega
 | n+1,s,hl,hd,hh=>by
  have hne:s≠[]:=fun e=>by rw [e]at hl;simp at hl
  obtain⟨t,c,rfl⟩:∃t c,s=t++[c]:=⟨s.dropLast,s.getLast hne,(List.dropLast_concat_getLast hne).symm⟩
  have htl:t.length=n+1:=by simpa using hl
  have hth:(t++[c]).head? = t.head?:=by
   cases t with
   | nil=>simp at htl
   | cons a t=>rfl
  have h0:t.head?≠some 48:=by rw [←hth];exact hh (by omega)
  obtain⟨g1,g2,g3,g4⟩:=zKu n t htl (fun d hd'=>hd d (by simp [hd'])) fun _=>h0
  have g5:=g4 h0;have h:=hd c (by simp)
  have e:vlL 0 (t++[c])=10*vlL 0 t+((c.toNat:Int)-48):=by
   rw [zFO _ _ _ (fun d hd'=>hd d (by simp [hd'])),vlL,if_neg (by omega),vlL]
  rw [e];refine⟨?_,by omega,by rw [Int.pow_succ];omega,fun _=>by omega⟩
  rw [Lib.decDigits,dif_neg (by omega),show(10*vlL 0 t+((c.toNat:Int)-48)).toNat / 10=(vlL 0 t).toNat by omega,show(10*vlL 0 t+((c.toNat:Int)-48)).toNat % 10=c.toNat-48 by omega,g1]
  congr 2
  rw [show 48+(c.toNat-48)=c.toNat by omega]
  exact UInt8.ofNat_toNat
theorem zAn (h:0≤vlF s):s=Lib.decDigits (vlF s).toNat∧vlF s<1000000:=by
 unfold vlF at h ⊢
 split at h
 ·omega
 rename_i hc
 rw [if_neg hc];have hd:∀c∈s,48≤c.toNat∧c.toNat≤57:=by
  rcases zJX s 0 with e|e
  ·omega
  ·exact e
 have hl:s.length≠0:=fun e=>hc (.inl e)
 have hl6:s.length≤6:=by
  rcases Nat.lt_or_ge 6 s.length with q|q
  ·exact absurd (.inr (.inl q)) hc
  ·exact q
 obtain⟨g1,g2,g3,_⟩:=zKu (s.length-1) s (by omega) hd fun hp e=>hc (.inr (.inr ⟨by omega,e⟩))
 refine⟨g1.symm,Int.lt_of_lt_of_le g3 ?_⟩
 have:s.length=1∨s.length=2∨s.length=3∨s.length=4∨s.length=5∨s.length=6:=by omega
 rcases this with e|e|e|e|e|e<;>rw [e]<;>decide
theorem zBb {z:Int} (h:0≤z):Lib.itoa z=Lib.decDigits z.toNat:=if_neg (by omega)
theorem itoa_neg {z:Int} (h:z<0):Lib.itoa z=45::Lib.decDigits z.natAbs:=if_pos h
theorem zK8 {z:Int} (h1:-1000000≤z) (h2:z≤1000000):vaF (Lib.itoa z)=some z:=by
 have m1:Lib.itoa 1000000=[49,48,48,48,48,48,48]:=by decide +kernel
 have m2:Lib.itoa (-1000000)=[45,49,48,48,48,48,48,48]:=by decide +kernel
 by_cases e1:z=1000000
 ·rw [e1,m1,vaF,if_pos rfl]
 by_cases e2:z=-1000000
 ·rw [e2,m2,vaF,if_neg (by decide),if_pos rfl]
 have inj:∀w:Int,-1000000≤w→w≤1000000→Lib.itoa z=Lib.itoa w→z=w:=fun w w1 w2 e=>by
  have p1:=zBG (z:=z) (by omega) (by omega)
  have p2:=zBG (z:=w) (by omega) (by omega)
  rw [e,p2]at p1
  cases p1;rfl
 have n1:Lib.itoa z≠[49,48,48,48,48,48,48]:=fun e=>e1 (inj _ (by decide) (by decide) (e.trans m1.symm))
 have n2:Lib.itoa z≠[45,49,48,48,48,48,48,48]:=fun e=>e2 (inj _ (by decide) (by decide) (e.trans m2.symm))
 rw [vaF,if_neg n1,if_neg n2]
 by_cases hz:z<0
 ·have v:=zCR (u:=z.natAbs) (by omega)
  rw [itoa_neg hz,List.head?_cons,if_pos rfl,List.drop_one,List.tail_cons,v,if_pos (by omega)]
  congr 1
  omega
 ·have v:=zCR (u:=z.toNat) (by omega)
  obtain⟨c,r,e,h3,_⟩:=zAg z.toNat;rw [zBb (by omega),if_neg,v,if_pos (by omega)]
  ·congr 1
   omega
  ·rw [e,List.head?_cons]
   intro q;rw [Option.some.inj q]at h3
   exact absurd h3 (by decide)
theorem zJb {z:Int} (h:vaF s=some z):s=Lib.itoa z∧-1000000≤z∧z≤1000000:=by
 unfold vaF at h
 split at h
 ·rename_i e
  cases h;exact⟨by rw [e];decide +kernel,by decide,by decide⟩
 split at h
 ·rename_i e
  cases h;exact⟨by rw [e];decide +kernel,by decide,by decide⟩
 split at h
 ·rename_i hd
  split at h
  ·rename_i hp
   cases h;obtain⟨e,b⟩:=zAn (s:=s.drop 1) (by omega)
   cases s with
   | nil=>simp at hd
   | cons c r=>
    rw [List.head?_cons]at hd
    rw [List.drop_one,List.tail_cons]at *
    rw [itoa_neg (by omega),Option.some.inj hd,show(-vlF r).natAbs=(vlF r).toNat by omega,←e]
    exact⟨rfl,by omega,by omega⟩
  ·cases h
 ·split at h
  ·rename_i hp
   cases h;obtain⟨e,b⟩:=zAn (s:=s) hp;exact⟨by rw [zBb hp];exact e,by omega,by omega⟩
  ·cases h
def vasF:List Int→List (List UInt8)→Option (List Int)
 | acc,[]=>some acc
 | acc,q::r=>match vaF q with | none=>none | some z=>vasF (acc++[z]) r
def liF (s:List UInt8):Option (List Int):=if (spF 32 [] s).getD 0 []=[58]then vasF [] ((spF 32 [] s).drop 1)else none
theorem zFP:∀(x acc:List Int),(∀z∈x,-1000000≤z∧z≤1000000)→vasF acc (x.map Lib.itoa)=some (acc++x)
 | [],acc,_=>by rw [List.map_nil,vasF,List.append_nil]
 | z::x,acc,h=>by
  have b:=h z (by simp)
  rw [List.map_cons,vasF,zK8 b.1 b.2];simp only;rw [zFP x _ fun q hq=>h q (by simp [hq])]
  simp
theorem zDd:∀(ws:List (List UInt8)) (acc:List Int) {x:List Int},vasF acc ws=some x→∃y,x=acc++y∧ws=y.map Lib.itoa∧∀z∈y,-1000000≤z∧z≤1000000
 | [],acc,x,h=>⟨[],by rw [vasF]at h;rw [List.append_nil,Option.some.inj h],rfl,fun z hz=>by cases hz⟩
 | q::r,acc,x,h=>by
  rw [vasF]at h
  cases e:vaF q with
  | none=>rw [e]at h;cases h
  | some z=>
   rw [e]at h
   obtain⟨y,h1,h2,h3⟩:=zDd r _ h;obtain⟨e1,e2⟩:=zJb e;refine⟨z::y,by rw [h1];simp,by rw [List.map_cons,←e1,h2],fun w hw=>?_⟩
   rcases List.mem_cons.1 hw with rfl|hw
   ·exact e2
   ·exact h3 w hw
theorem zNq (x:List Int):spF 32 [] (liL x)=[58]::x.map Lib.itoa:=by
 have:=zBC (d:=32) (x.map Lib.itoa) [58] [] (by decide) fun r hr y hy=>by
  obtain⟨z,_,rfl⟩:=List.mem_map.1 hr;exact zCZ (by decide) y hy
 exact this
theorem zL8 (x:List Int):splL [32] (liL x)=[58]::x.map Lib.itoa:=
 zBB (c:=32) (t:=[]) (x.map Lib.itoa) [58] (by decide) fun r hr y hy=>by
  obtain⟨z,_,rfl⟩:=List.mem_map.1 hr;exact zCZ (by decide) y hy
theorem zEY {x:List Int} (h:∀z∈x,-1000000≤z∧z≤1000000):liF (liL x)=some x:=by
 rw [liF,zNq]
 show(if ([58]:List UInt8)=[58]then vasF [] (x.map Lib.itoa)else none)=_
 rw [if_pos rfl,zFP x [] h]
 rfl
theorem zKX {x:List Int} (h:liF s=some x):s=liL x∧∀z∈x,-1000000≤z∧z≤1000000:=by
 unfold liF at h
 split at h
 ·rename_i e
  obtain⟨a,rs,h1,h2⟩:=zDw 32 s [];have h1':spF 32 [] s=a::rs:=h1;rw [h1']at e h
  have ea:a=[58]:=e;obtain⟨y,e1,e2,e3⟩:=zDd rs [] h;rw [List.nil_append]at e1
  subst e1;refine⟨?_,e3⟩;rw [liL,←e2,←ea,h2]
  rfl
 ·cases h
theorem zEk:∀(x acc:List Int),(∀z∈x,-1000000≤z∧z≤1000000)→ordI acc (x.map Lib.itoa)=some (acc++x)
 | [],acc,_=>by rw [List.map_nil,ordI,List.append_nil]
 | z::x,acc,h=>by
  have b:=h z (by simp)
  rw [List.map_cons,ordI,zBG (by omega) (by omega)]
  simp only;rw [zEk x _ fun q hq=>h q (by simp [hq])]
  simp
theorem zAc (h:need k=(G.length:Int)):1≤k∧k≤6:=by
 unfold need at h
 by_cases h5:k=5
 ·omega
 ·by_cases h4:k=4
  ·omega
  ·rw [if_neg h5,if_neg h4]at h
   split at h
   ·assumption
   ·omega
theorem zB7 (h:1≤k∧k≤6):vlF (Lib.itoa k)=k:=by
 rw [zBb (by omega),zCR (by omega)]
 omega
theorem zIy (h:1≤vlF s):s=Lib.itoa (vlF s):=by
 rw [zBb (by omega)]
 exact(zAn (by omega)).1
theorem zHp {g g':Pre} (h1:zK g.1 g.2.1 g.2.2) (h2:zK g'.1 g'.2.1 g'.2.2) (e:prG g=prG g'):g=g':=by
 have a:=zDK h1;have b:=zDK h2;have e':prT g.1 g.2.1 g.2.2=prT g'.1 g'.2.1 g'.2.2:=e;rw [e',b]at a
 exact(Option.some.inj a).symm
theorem zHy {x y:List Int} (h1:∀z∈x,-1000000≤z∧z≤1000000) (h2:∀z∈y,-1000000≤z∧z≤1000000) (e:liL x=liL y):x=y:=by
 have a:=zEY h1;rw [e,zEY h2]at a
 exact(Option.some.inj a).symm
theorem QR {α β:Type} {f:α→β} {p:α→Prop} (hf:∀a b,p a→p b→f a=f b→a=b):∀{x y:List α},(∀a∈x,p a)→(∀a∈y,p a)→x.map f=y.map f→x=y
 | [],[],_,_,_=>rfl
 | [],b::y,_,_,e=>by simp at e
 | a::x,[],_,_,e=>by simp at e
 | a::x,b::y,h1,h2,e=>by
  rw [List.map_cons,List.map_cons]at e
  obtain⟨e1,e2⟩:=List.cons.inj e;rw [hf a b (h1 a (by simp)) (h2 b (by simp)) e1,QR hf (fun q hq=>h1 q (by simp [hq])) (fun q hq=>h2 q (by simp [hq])) e2]
theorem zHW (h1:qR k G L) (h2:qR k' G' L') (e:certT k G L=certT k' G' L'):k=k'∧G=G'∧L=L':=by
 have a:=zDV h1;rw [e,zDV h2]at a
 have a2:=List.append_cancel_right a;rw [lnT,lnT]at a2
 obtain⟨e1,e2⟩:=List.cons.inj a2;have k1:=zAc h1.1;have k2:=zAc h2.1;have ek:k=k':=by rw [←zB7 k1,←zB7 k2,e1]
 subst ek;have eg:G.length=G'.length:=by have:=h1.1;have:=h2.1;omega
 obtain⟨e3,e4⟩:=List.append_inj e2 (by rw [List.length_map,List.length_map,eg])
 exact⟨rfl,QR (p:=fun g=>zK g.1 g.2.1 g.2.2) (fun a b=>zHp) h1.2.2.1 h2.2.2.1 e3.symm,QR (p:=fun x=>∀z∈x,-1000000≤z∧z≤1000000) (fun a b=>zHy) (fun x hx=>(h1.2.2.2 x hx).2) (fun x hx=>(h2.2.2.2 x hx).2) e4.symm⟩
end Go.Proofs
namespace Go.Grp
end Go.Grp
namespace Go.Proofs
open Go.Ab Go.Lie Go.Grp
variable {σ σ0 h h':PHeap} {K:PV→PHeap→Prop} {s:List UInt8} {x:List Int}
theorem zOL (s:List UInt8):-1000000≤vlF s∧vlF s≤1000000∨vlF s < -1000000:=by
 rcases Int.lt_or_le (vlF s) 0 with h|h
 ·rcases Int.lt_or_le (vlF s) (-1000000)with h2 | h2<;>omega
 ·have:=(zAn h).2;omega
theorem zJY:∀(s:List UInt8) (y:Int),0≤y→-1≤vlL y s
 | [],y,h=>by rw [vlL];omega
 | c::r,y,h=>by
  rw [vlL]
  split
  ·omega
  ·exact zJY r _ (by omega)
theorem zOK (s:List UInt8):-1≤vlF s:=by
 unfold vlF
 split
 ·omega
 ·exact zJY s 0 (by omega)
theorem zOJ (s:List UInt8):vlF s≤1000000:=by
 rcases zOL s with h|h<;>omega
theorem zIr (hs:s.length≤1048576) (hk0:vaF s=none→∀z:Int,K (.tup [.int .i64 z,.bool false]) σ) (hk1:∀z,vaF s=some z→K (.tup [.int .i64 z,.bool true]) σ):zA Tryz.prog 67 [.str s] σ K:=by
 refine zt mix Tryz.func67 cf67 rfl ?_;dsimp only [if67,qI,mI0,kI0,tI0,cI0,C1,I0,G0,gm0,aI0,R0,S0];simp only [pwA,seval,-iQ0];refine iteI (fun h1=>?_) fun h1=>?_
 ·simp only [pwA,seval,-iQ0]
  exact hk1 _ (if_pos (beq_iff_eq.1 h1))
 simp only [pwA,seval,-iQ0];have n1:¬s=[49,48,48,48,48,48,48]:=fun e=>h1 (beq_iff_eq.2 e)
 refine iteI (fun h2=>?_) fun h2=>?_
 ·simp only [pwA,seval,-iQ0]
  exact hk1 _ (by rw [vaF,if_neg n1,if_pos (beq_iff_eq.1 h2)])
 have n2:¬s=[45,49,48,48,48,48,48,48]:=fun e=>h2 (beq_iff_eq.2 e)
 have plain:¬s.head? = some 45→(K (.tup [.int .i64 (vlF s),.bool (decide (0≤vlF s))]) σ):=fun h3=>by
  have e:vaF s=if 0≤vlF s then some (vlF s)else none:=by rw [vaF,if_neg n1,if_neg n2,if_neg h3]
  by_cases h0:0≤vlF s
  ·rw [if_pos h0]at e
   rw [decide_eq_true h0];exact hk1 _ e
  ·rw [if_neg h0]at e
   rw [decide_eq_false h0];exact hk0 e _
 by_cases h0:0<s.length
 ·have h0':(0:Int)<((s.length:Nat):Int):=by omega
  have gs:s[0]? = some s[0]:=List.getElem?_eq_getElem h0;have hd:s.head? = some s[0]:=by rw [List.head?_eq_getElem?,gs]
  by_cases h45:s[0].toNat=45
  ·have d:((s[0].toNat:Nat):Int)=45:=by omega
   have b1:1≤s.length:=by omega
   have b1':(1:Int)≤((s.length:Nat):Int):=by omega
   simp only [pwA,seval,-iQ0,h0',gs,d,b1,b1',Int.toNat_zero];rw [List.take_length];refine QU (by simp;omega) ?_
   have e:vaF s=if 0<vlF (s.drop 1)then some (-vlF (s.drop 1))else none:=by
    rw [vaF,if_neg n1,if_neg n2,if_pos (by rw [hd];exact congrArg some (UInt8.toNat_inj.1 (h45.trans rfl)))]
   have g1:=zOK (s.drop 1);have g2:=zOJ (s.drop 1);generalize vlF (s.drop 1)=y at *
   by_cases hp:0<y
   ·have wn:IntKind.i64.wrap (0-y)=-y:=by rw [wrap64 (by omega) (by omega)];omega
    rw [if_pos hp]at e
    simp only [pwA,seval,-iQ0,wn,hp];exact hk1 _ e
   ·rw [if_neg hp]at e
    simp only [pwA,seval,-iQ0,hp];exact hk0 e _
  ·have d:¬((s[0].toNat:Nat):Int)=45:=by omega
   simp only [pwA,seval,-iQ0,h0',gs,d,Int.toNat_zero];refine QU hs ?_;simp only [pwA,seval,-iQ0];exact plain (by rw [hd];exact fun q=>h45 (by rw [Option.some.inj q];rfl))
 ·have h0':¬(0:Int)<((s.length:Nat):Int):=by omega
  simp only [pwA,seval,-iQ0,h0'];refine QU hs ?_;simp only [pwA,seval,-iQ0];exact plain (by rw [List.eq_nil_of_length_eq_zero (by omega:s.length=0)];simp)
theorem zKa (hs:s.length≤1048576) (hk0:liF s=none→∀v x,FI v x→K (.tup [v,.bool false]) σ) (hk1:∀v x,liF s=some x→FI v x→x.length≤s.length→K (.tup [v,.bool true]) σ):zA Tryz.prog 44 [.str s] σ K:=by
 have nil:liF s=none→∀{h:PHeap},Keep σ h→Gh σ K (.tup [.fz true .nils 0 [],.bool false]) h:=fun e {h} kk=>zEV kk (hk0 e)
 refine zA.gh ?_;refine zt mix Tryz.func44 cf44 rfl ?_;dsimp only [if44,qI,eI,mI0,kI0,tI0,lI0,xI0,bI0,cI0,nI0,sI0,eI0,C1,zI0,yI0,R0,S0];simp only [pwA,seval,-iQ0];have eo:liF s=if (spF 32 [] s).getD 0 []=[58]then vasF [] ((spF 32 [] s).drop 1)else none:=rfl
 refine QW (c:=32) (s:=s) (by omega) fun a=>?_
 have sl:=zAJ 32 s [];have hll:=zAR 32 s [];generalize spF 32 [] s=l at *
 have c0:(pst l)[0]? = some (.str l[0]):=qw (by omega)
 have z0:(0:Int)<(l.length:Int):=by omega
 have z0':0<l.length:=by omega
 rw [show l.getD 0 []=l[0] by rw [List.getD_eq_getElem?_getD,List.getElem?_eq_getElem z0'];rfl]at eo
 by_cases h58:l[0]=[58]
 rotate_left
 ·have b0:(l[0] == [58])=false:=by simpa using h58
  rw [if_neg h58]at eo
  simp only [pwA,seval,-iQ0,z0,z0',c0,b0];exact nil eo (Keep.refl _)
 have b0:(l[0] == [58])=true:=by simpa using h58
 rw [if_pos h58]at eo
 simp only [pwA,seval,-iQ0,z0,z0',c0,b0];refine zB (fun m vs h=>∃(i:Nat) (v:PV) (x:List Int),1≤i∧i≤l.length∧m=l.length-i∧vs=[.fz true a l.length (pst l),v,.int .i64 i]∧x.length=i-1∧Keep σ h∧PSl σ.next 1 h v x.length (pis x)∧vasF x (l.drop i)=vasF [] (l.drop 1)) (l.length-1) ?_ ?_
 ·exact⟨1,_,[],Nat.le_refl _,sl.1,rfl,rfl,rfl,zD _ _,PSl.new _ 1 rfl (Nat.le_refl _),rfl⟩
 rintro m vs h ⟨i,v,x,hi1,hi,rfl,rfl,hxl,kk,pa,eL⟩
 have h1:=pa.one;simp only [pwA,seval,-iQ0,h1];refine iteI (fun hlt=>?_) fun hge=>?_
 rotate_left
 ·rw [List.drop_of_length_le (by omega),vasF,←eo]at eL
  exact PSl.fin_tf kk pa fun u hu=>hk1 u x eL.symm hu (by omega)
 have hlt':(i:Int)<(l.length:Int):=by omega
 have gc:(pst l)[i]? = some (.str l[i]):=qw hlt;rw [drop_at hlt,vasF]at eL
 have hq:l[i].length≤1048576:=by have:=hll _ (List.getElem_mem hlt);simp only [List.length_nil]at this;omega
 have wi:=wrapS hlt (by omega:l.length≤4611686018427387904)
 simp only [pwA,seval,-iQ0,hlt,hlt',gc];refine zIr hq (fun ev z=>?_) fun z ev=>?_
 ·rw [ev,←eo]at eL
  simp only [pwA,seval,-iQ0,h1];exact nil eL.symm kk
 rw [ev]at eL
 simp only [pwA,seval,-iQ0,h1];refine PSl.push (σb:=σ) (bytes:=8) kk pa (by omega) (by omega) fun v2 h2 k2 a2=>?_
 have h3:=a2.one;simp only [pwA,seval,-iQ0,h3,wi];have e:pis (x++[z])=pis x++[.int .i64 z]:=by simp [pis]
 exact⟨_,by omega,i+1,v2,x++[z],by omega,by omega,rfl,rfl,by rw [List.length_append,hxl];simp only [List.length_singleton];omega,k2,by rw [e,List.length_append];exact a2,eL⟩
end Go.Proofs
namespace Go.Grp
end Go.Grp
namespace Go.Proofs
open Go.Ab Go.Lie Go.Grp
instance (O x:List Int):Decidable (isExp O x):=by unfold isExp;infer_instance
instance (O x:List Int) (t:Nat):Decidable (ZP O t x):=by unfold ZP;infer_instance
instance (O:List Int) (P:List (List Int)) (C:List (List (List Int))) (i:Nat):Decidable (rowPr O P C i):=by unfold rowPr;infer_instance
instance (O:List Int) (P:List (List Int)) (C:List (List (List Int))):Decidable (zK O P C):=by unfold zK;infer_instance
end Go.Proofs
namespace Go.Grp
end Go.Grp
namespace Go.Proofs
open Go.Ab Go.Lie Go.Grp
variable {σ h h':PHeap} {K:PV→PHeap→Prop} {O:List Int} {P:List (List Int)} {C:List (List (List Int))} {vO vP vC vx vM vA v:PV} {x:List Int} {A M:List (List Int)} {sp se:Nat}
theorem Owns.append {lo t hi:Nat} {a b:List PV} (h:Owns lo t a) (g:Owns t hi b) (hl:lo≤t) (ht:t≤hi):Owns lo hi (a++b):=by
 refine⟨ZE.2 fun c hc=>?_,?_,fun o ho=>?_⟩
 ·rcases List.mem_append.1 hc with hc | hc
  ·exact ZE.1 h.wh c hc
  ·exact ZE.1 g.wh c hc
 ·rw [qX,List.nodup_append]
  refine⟨h.nd,g.nd,fun x hx y hy e=>?_⟩
  have:=h.lt x hx
  have:=g.lt y hy
  omega
 ·rw [qX,List.mem_append]at ho
  rcases ho with ho|ho
  ·have:=h.lt o ho;omega
  ·have:=g.lt o ho;omega
theorem zKl {w:Bool} {a:AV}:FG (.fz w a 0 []) []:=⟨w,a,[],rfl,All2.nil _⟩
end Go.Proofs
namespace Go.Grp
end Go.Grp
namespace Go.Proofs
open Go.Ab Go.Lie Go.Grp
variable {σ h:PHeap} {K:PV→PHeap→Prop} {b t k n:Nat} {v vO vP vC:PV} {x O:List Int} {P:List (List Int)} {C:List (List (List Int))} {cs:List PV} {s:List UInt8}
theorem zBe:∀(rows:List (PV×PV×PV)) (q:PV×PV×PV),fl3 (rows++[q])=fl3 rows++[q.1,q.2.1,q.2.2]
 | [],q=>rfl
 | r::rows,q=>by simp only [List.cons_append,fl3,zBe rows q]
end Go.Proofs
namespace Go.Grp
end Go.Grp
namespace Go.Proofs
open Go.Ab Go.Lie Go.Grp
variable {σ h:PHeap} {K:PV→PHeap→Prop} {b t k n:Nat} {v vO vP vC uO uP uC:PV} {x O O2:List Int} {P P2:List (List Int)} {C C2:List (List (List Int))} {cs:List PV} {s:List UInt8} {p q:Pre} {G:List Pre}
theorem zK.sz (h:zK O P C):SzP O P C:=by
 have sh:=zOQ h;have q:Sq O P C:=⟨sh.pl,sh.cl,fun r hr=>sh.pe r hr,sh.row,fun q hq r hr=>sh.ce q hq r hr⟩
 exact q.sz sh.le
end Go.Proofs
namespace Go.Grp
end Go.Grp
namespace Go.Proofs
open Go.Ab Go.Lie Go.Grp
section
variable {h:AHeap} {K:AV→AHeap→Prop}
def mkPr (k:Int) (vO vP vC:PV) (O:List Int) (P:List (List Int)) (C:List (List (List Int))):List (Nat×List PV):=
 mkI k vO O++(mkF mkI List.length (k+O.length) vP P++mkF (mkF mkI List.length) (totL List.length) (k+O.length+totL List.length P) vC C)
def totP (O:List Int) (P:List (List Int)) (C:List (List (List Int))):Nat:=O.length+totL List.length P+totL (totL List.length) C
end
section
variable {σ:PHeap} {K:PV→PHeap→Prop} {p d:Int} {O:List Int} {P:List (List Int)} {C As:List (List (List Int))} {F:List (List Int)} {vO vP vC vA:PV} {lo hi:Nat}
theorem zB2 {k:Int} (hR:IsPr vO vP vC O P C) (hW:Wh (.agg [vO,vP,vC])):∀o∈(mkPr k vO vP vC O P C).map Prod.fst,o∈ead (.agg [vO,vP,vC]):=by
 obtain⟨wO,wP,wC,_⟩:=hW;intro o ho;unfold mkPr at ho
 rw [List.map_append,List.mem_append,List.map_append,List.mem_append]at ho
 simp only [ead,eads,List.nil_append,List.append_nil,List.mem_append];exact ho.imp (mkT_I.keys hR.O wO o) fun h=>h.imp (mkT_I.F.keys hR.P wP o) (mkT_I.F.F.keys hR.C wC o)
theorem zEh {xs:List (List Int)} (sz:SzL xs):totL List.length xs≤1099511627776:=by
 have h3:=zAI (m:=1048576) (len:=List.length) sz.r;have h4:=sz.l;omega
theorem zLA {As:List (List (List Int))} (sz:SzM As):totL (totL List.length) As≤1152921504606846976:=by
 have h3:=zAI (m:=1099511627776) (len:=totL List.length) (xs:=As) fun q hq=>zEh (sz.r q hq)
 have h4:=sz.l;omega
theorem zK9 (sz:SzP O P C):totP O P C≤1153000000000000000:=by
 have h1:=zEh sz.P;have h2:=zLA sz.C;have h3:=sz.O;unfold totP;omega
end
end Go.Proofs
namespace Go.Grp
end Go.Grp
namespace Go.Proofs
open Go.Ab Go.Lie Go.Grp
section
variable {h:AHeap} {K:AV→AHeap→Prop}
theorem zFA {k:Int} {w:Bool} {a:AV} (hv:VOK (zlt h) h 0 (.fz w a 0 [])) (hk:K (.int .i64 k) h):qW Tryz.prog 38 [a,.int .i64 k] h K:=by
 refine ZF mix Tryz.func38 cf38 rfl ?_;dsimp only [if38,mI0,kI0,lI0,fI0,bI0,cI0,sI0,C2,R0,S0];have hlen:aLen a=some (.int .i64 ((0:Nat):Int)):=by
  obtain⟨rfl,_⟩|⟨o,off,cap,rfl,_⟩:=hv.1<;>rfl
 simp only [nm_eq,nm_eq,abQ,↓reduceIte,iQ2,zu,qL,zo,nQ1,nQ2,nQ3,nQ4,nQ5,nQ6,lQ1,lQ2,lQ3,lQ4,lQ5,lQ6,lQ7,lQ8,nQ7,nQ8,ze,zP,zG,zH,zC,nQ9,iQ3,iQ4,iQ5,iQ6,qA,qE,zn,zW,zf,zQ,zR,recOf,zU,zI,zJ,zV,zh,lQ9,lQ10,nQ10,if_true,if_false,ite_true,ite_false,lQ11,lQ12,oQ1,oQ2,reduceCtorEq,decide_true,decide_false,bQ1,bQ2,zZ,zO,zX,zM,zY,zL,zq,zN,za,zb,lQ13,lQ14,zy,zm,zw,zk,zx,zi,qN,zl,z8,lQ15,lQ16,bQ3,bQ4,bQ5,true_and,and_true,bQ6,bQ7,lQ17,lQ18,bQ8,bQ9,bQ10,bQ11,eq_self,nQ11,nQ12,nQ13,nQ14,nQ15,er];refine QD (fun m vs h'=>vs=[a,.int .i64 k,.int .i64 0]∧h'=h) 0 ⟨rfl,rfl⟩ ?_
 rintro m vs h' ⟨rfl,rfl⟩
 simp only [nm_eq,nm_eq,abQ,↓reduceIte,iQ2,zu,qL,zo,nQ1,nQ2,nQ3,nQ4,nQ5,nQ6,lQ1,lQ2,lQ3,lQ4,lQ5,lQ6,lQ7,lQ8,nQ7,nQ8,ze,zP,zG,zH,zC,nQ9,iQ3,iQ4,iQ5,iQ6,qA,qE,zn,zW,zf,zQ,zR,recOf,zU,zI,zJ,zV,zh,lQ9,lQ10,nQ10,if_true,if_false,ite_true,ite_false,lQ11,lQ12,oQ1,oQ2,reduceCtorEq,decide_true,decide_false,bQ1,bQ2,zZ,zO,zX,zM,zY,zL,zq,zN,za,zb,lQ13,lQ14,zy,zm,zw,zk,zx,zi,qN,zl,z8,lQ15,lQ16,bQ3,bQ4,bQ5,true_and,and_true,bQ6,bQ7,lQ17,lQ18,bQ8,bQ9,bQ10,bQ11,eq_self,nQ11,nQ12,nQ13,nQ14,nQ15,hlen,Int.lt_irrefl];exact hk
end
section
variable {σ:PHeap} {K:PV→PHeap→Prop} {G:List Pre} {L:List (List Int)} {vG vL:PV} {lo hi:Nat} {kk:Int}
end
end Go.Proofs
namespace Go.Grp
end Go.Grp
namespace Go.Proofs
open Go.Ab Go.Lie Go.Grp
variable {σ:PHeap} {K:PV→PHeap→Prop} {n c:Nat} {p:Int} {W:List (List Int)} {B:List (List (List Int))} {vP vB vM:PV} {s:Nat} {O:List Int} {P:List (List Int)} {C:List (List (List Int))} {vO vQ vC:PV} {lo hi:Nat}
theorem zDz {v:PV} {xs:List (List (List Int))} {k:Int} (hI:FIII v (sqL (sqL sqI List.length) (totL List.length) k xs)) (sz:SzM xs) (hk0:0≤k) (hk1:k+totL (totL List.length) xs≤4611686018427387904) (hk:K (.int .i64 (k+totL (totL List.length) xs)) σ):zA Tryz.prog 66 [v,.int .i64 k] σ K:=by
 have hb:=sz.l;obtain⟨w,a,rows,rfl,hr⟩:=hI;have hl:=QL (sqL sqI List.length) (totL List.length) xs k;have hg:∀(i:Nat) (hi:i<xs.length) (h2:i<(sqL (sqL sqI List.length) (totL List.length) k xs).length),(sqL (sqL sqI List.length) (totL List.length) k xs)[i]=sqL sqI List.length (k+totL (totL List.length) (xs.take i)) xs[i]:=fun i hi _=>zEM (sqL sqI List.length) (totL List.length) xs k i hi
 generalize sqL (sqL sqI List.length) (totL List.length) k xs=ys at *
 refine zt mix Tryz.func66 cf66 rfl ?_;dsimp only [if66,mI0,kI0,lI0,xI0,bI0,cI0,sI0,C2,R0,S0];simp only [pwA,seval,-iQ0];refine zB (fun m vs h'=>∃i:Nat,i≤ys.length∧m=ys.length-i∧vs=[.fz w a ys.length rows,.int .i64 (k+totL (totL List.length) (xs.take i)),.int .i64 i]∧σ=h') ys.length ?_ ?_
 ·exact⟨0,by omega,by omega,by rw [List.take_zero,zBP,show k+((0:Nat):Int)=k by omega];rfl,rfl⟩
 rintro m vs h' ⟨i,hi,rfl,rfl,rfl⟩
 simp only [pwA,seval,-iQ0];refine iteI (fun hlt=>?_) fun hge=>?_
 ·have hlx:i<xs.length:=by omega
  obtain⟨w4,a4,rk,hrk,hrk2⟩:=hr.rowL hlt;have ht:=zAo (len:=totL List.length) hlx;have htl:=zCU (totL List.length) xs (i+1);have hgi:=hg i hlx hlt;simp only [pwA,seval,-iQ0,hlt,hrk];have hbi:=sz.r _ (List.getElem_mem hlx);refine Qj (xs:=xs[i]) ⟨w4,a4,rk,by rw [←hgi],by rw [←hgi];exact hrk2⟩ (by have:=hbi.l;omega) (fun y hy=>by have:=hbi.r y hy;omega) (by omega) (by omega) ?_
  have hn:¬(k+(totL (totL List.length) (xs.take i):Int)+(totL List.length xs[i]:Int)<0):=by omega
  simp only [pwA,seval,-iQ0,hn,wrapS hlt (by omega:ys.length≤4611686018427387904)]
  refine⟨_,by omega,i+1,by omega,rfl,?_⟩
  have:k+(totL (totL List.length) (xs.take i):Int)+(totL List.length xs[i]:Int)=k+(totL (totL List.length) (xs.take (i+1)):Int):=by omega
  rw [this]
 ·have hie:i=xs.length:=by omega
  subst hie;rw [List.take_length];exact hk
end Go.Proofs
namespace Go.Grp
end Go.Grp
namespace Go.Proofs
open Go.Ab Go.Lie Go.Grp
variable {σ:PHeap} {K:PV→PHeap→Prop} {G:List Pre} {L:List (List Int)} {vG vL:PV} {lo hi:Nat} {kk:Int}
theorem rmP7 {lo hi:Nat} {k:Int} {vO vP vC:PV} {O:List Int} {P:List (List Int)} {C:List (List (List Int))} (hR:IsPr vO vP vC O P C) (ho:Own lo hi (.agg [vO,vP,vC])):
  FI (Go.Ab.rm (mkPr k vO vP vC O P C) vO) (sqI k O)∧FII (Go.Ab.rm (mkPr k vO vP vC O P C) vP) (sqL sqI List.length (k+O.length) P)∧FIII (Go.Ab.rm (mkPr k vO vP vC O P C) vC) (sqL (sqL sqI List.length) (totL List.length) (k+O.length+totL List.length P) C):=by
 obtain⟨⟨w0,w1,w2,_⟩,hnd,_⟩:=ho;simp only [ead,eads,List.append_nil,List.nodup_append]at hnd
 obtain⟨n0,⟨n1,n2,d12⟩,d0⟩:=hnd;have k0:=mkT_I.keys (k:=k) hR.O w0;have k1:=mkT_I.F.keys (k:=k+O.length) hR.P w1;have k2:=mkT_I.F.F.keys (k:=k+O.length+totL List.length P) hR.C w2;have r0:=mkT_I.rd (k:=k) hR.O w0 n0;have r1:=mkT_I.F.rd (k:=k+O.length) hR.P w1 n1;have r2:=mkT_I.F.F.rd (k:=k+O.length+totL List.length P) hR.C w2 n2;have e0:Go.Ab.rm (mkPr k vO vP vC O P C) vO=Go.Ab.rm (mkI k vO O) vO:=Zo fun o hm=>by
  unfold mkPr;rw [QS];intro hx;rw [List.map_append,List.mem_append]at hx
  rcases hx with hx|hx
  ·exact d0 o hm o (List.mem_append.2 (.inl (k1 o hx))) rfl
  ·exact d0 o hm o (List.mem_append.2 (.inr (k2 o hx))) rfl
 have e1:Go.Ab.rm (mkPr k vO vP vC O P C) vP=Go.Ab.rm (mkF mkI List.length (k+O.length) vP P) vP:=Zo fun o hm=>by
  unfold mkPr;rw [Zg fun hx=>d0 o (k0 o hx) o (List.mem_append.2 (.inl hm)) rfl,QS fun hx=>d12 o hm o (k2 o hx) rfl]
 have e2:Go.Ab.rm (mkPr k vO vP vC O P C) vC=Go.Ab.rm (mkF (mkF mkI List.length) (totL List.length) (k+O.length+totL List.length P) vC C) vC:=Zo fun o hm=>by
  unfold mkPr;rw [Zg fun hx=>d0 o (k0 o hx) o (List.mem_append.2 (.inr hm)) rfl,Zg fun hx=>d12 o (k1 o hx) o hm rfl]
 rw [e0,e1,e2];exact⟨r0,r1,r2⟩
theorem zGA {x:Nat}:∀{l:List Nat},x∈l→x≤l.foldr max 0
 | y::l,h=>by
  rcases List.mem_cons.1 h with rfl|h
  ·exact Nat.le_max_left _ _
  ·exact Nat.le_trans (zGA h) (Nat.le_max_right _ _)
end Go.Proofs
namespace Go.Grp
end Go.Grp
namespace Go.Proofs
open Go.Ab Go.Lie Go.Grp
abbrev Tri:=PV×PV×PV
def mkGs:Int→List Tri→List Pre→List (Nat×List PV)
 | k,q::rows,g::G=>mkPr k q.1 q.2.1 q.2.2 g.1 g.2.1 g.2.2++mkGs (k+totP g.1 g.2.1 g.2.2) rows G
 | _,_,_=>[]
def totGs:List Pre→Nat
 | []=>0
 | g::G=>totP g.1 g.2.1 g.2.2+totGs G
theorem Zm:∀a b:List Pre,totGs (a++b)=totGs a+totGs b
 | [],b=>by simp [totGs]
 | g::a,b=>by simp only [List.cons_append,totGs,Zm a b];omega
theorem zCz:∀(R R':List Tri) (G G':List Pre) (k:Int),R.length=G.length→mkGs k (R++R') (G++G')=mkGs k R G++mkGs (k+totGs G) R' G'
 | [],R',[],G',k,_=>by simp [mkGs,totGs]
 | [],R',g::G,G',k,h=>by simp at h
 | q::R,R',[],G',k,h=>by simp at h
 | q::R,R',g::G,G',k,h=>by
  simp only [List.cons_append,mkGs,totGs];rw [zCz R R' G G' _ (by simpa using h),List.append_assoc]
  congr 3
  omega
theorem eads3 (a b c:PV):eads [a,b,c]=ead a++(ead b++ead c):=by simp [eads]
theorem zGR (q:Tri) (rows:List Tri):fl3 (q::rows)=[q.1,q.2.1,q.2.2]++fl3 rows:=rfl
theorem zEz {q:Tri} {rows:List Tri} {g:Pre} {G:List Pre} (h:All2 FI3 (q::rows) (g::G)):FI3 q g∧All2 FI3 rows G:=
 ⟨h.2 0 _ _ rfl rfl,by have:=h.1;simpa using this,fun i v y hv hy=>h.2 (i+1) v y (by simpa using hv) (by simpa using hy)⟩
theorem Qt:∀(rows:List Tri) (G:List Pre) (k:Int),All2 FI3 rows G→Whs (fl3 rows)→∀o∈(mkGs k rows G).map Prod.fst,o∈eads (fl3 rows)
 | [],_,k,_,_,o,ho=>by simp [mkGs]at ho
 | q::rows,[],k,_,_,o,ho=>by simp [mkGs]at ho
 | q::rows,g::G,k,h,hW,o,ho=>by
  obtain⟨h1,h2⟩:=zEz h;rw [mkGs,List.map_append,List.mem_append]at ho
  rw [zGR,qX,List.mem_append];rcases ho with ho|ho
  ·exact .inl (zB2 (k:=k) h1 ⟨hW.1,hW.2.1,hW.2.2.1,trivial⟩ o ho)
  ·exact .inr (Qt rows G _ h2 hW.2.2.2 o ho)
theorem zC4:∀a b:List Tri,fl3 (a++b)=fl3 a++fl3 b
 | [],b=>rfl
 | q::a,b=>by simp only [List.cons_append,fl3,zC4 a b]
theorem zOv {rows:List Tri} {i:Nat} (hi:i<rows.length):fl3 rows=fl3 (rows.take i)++([rows[i].1,rows[i].2.1,rows[i].2.2]++fl3 (rows.drop (i+1))):=by
 have e:rows.drop i=rows[i]::rows.drop (i+1):=by simp
 have e2:fl3 (rows.drop i)=[rows[i].1,rows[i].2.1,rows[i].2.2]++fl3 (rows.drop (i+1)):=by rw [e];rfl
 rw [←e2,←zC4,List.take_append_drop]
theorem zMK {rows:List Tri} {i:Nat} (hi:i<rows.length):(fl3 rows)[i*3]? = some rows[i].1∧(fl3 rows)[i*3+1]? = some rows[i].2.1∧(fl3 rows)[i*3+2]? = some rows[i].2.2:=by
 have h:=zAL hi;have g:∀j,j<3→(fl3 rows)[i*3+j]? = ([rows[i].1,rows[i].2.1,rows[i].2.2]:List PV)[j]?:=fun j hj=>by
  rw [←h,List.getElem?_take,if_pos hj,List.getElem?_drop]
 exact⟨g 0 (by decide),g 1 (by decide),g 2 (by decide)⟩
section
variable {h:AHeap} {K:AV→AHeap→Prop}
set_option maxHeartbeats 1600000 in
theorem zF8 {k:Int} {o:Nat} {cap:Cap} {rows:List Tri} {G:List Pre} (hr:All2 FI3 rows G) (hW:Whs (fl3 rows)) (hnd:(o::eads (fl3 rows)).Nodup) (hw:HWF h) (q:h.obj o=some ⟨true,ers idz (fl3 rows)⟩) (hz:o<h.next) (hv:VOKs (zlt h) h 0 (fl3 rows)) (szG:SzG G) (hk0:0≤k) (hk1:k+totGs G≤4611686018427387904)
  (hk:∀h',Upd h (mkGs k rows G) h'→K (.int .i64 (k+totGs G)) h'):qW Tryz.prog 38 [.sl o 0 G.length cap,.int .i64 k] h K:=by
 refine ZF mix Tryz.func38 cf38 rfl ?_;dsimp only [if38,mI0,kI0,lI0,fI0,bI0,cI0,sI0,C2,R0,S0];obtain⟨no,hnd⟩:=List.nodup_cons.1 hnd;have hl:=hr.1;have hb:=szG.l;simp only [nm_eq,nm_eq,abQ,↓reduceIte,iQ2,zu,qL,zo,nQ1,nQ2,nQ3,nQ4,nQ5,nQ6,lQ1,lQ2,lQ3,lQ4,lQ5,lQ6,lQ7,lQ8,nQ7,nQ8,ze,zP,zG,zH,zC,nQ9,iQ3,iQ4,iQ5,iQ6,qA,qE,zn,zW,zf,zQ,zR,recOf,zU,zI,zJ,zV,zh,lQ9,lQ10,nQ10,if_true,if_false,ite_true,ite_false,lQ11,lQ12,oQ1,oQ2,reduceCtorEq,decide_true,decide_false,bQ1,bQ2,zZ,zO,zX,zM,zY,zL,zq,zN,za,zb,lQ13,lQ14,zy,zm,zw,zk,zx,zi,qN,zl,z8,lQ15,lQ16,bQ3,bQ4,bQ5,true_and,and_true,bQ6,bQ7,lQ17,lQ18,bQ8,bQ9,bQ10,bQ11,eq_self,nQ11,nQ12,nQ13,nQ14,nQ15];refine QD (fun m vs h'=>∃i:Nat,i≤G.length∧m=G.length-i∧vs=[.sl o 0 G.length cap,.int .i64 (k+totGs (G.take i)),.int .i64 i]∧Upd h (mkGs k (rows.take i) (G.take i)) h') G.length ⟨0,Nat.zero_le _,rfl,by rw [show((totGs (G.take 0):Nat):Int)=0 from rfl,Int.add_zero];rfl,Upd.refl hw⟩ ?_
 rintro m vs h' ⟨i,hi,rfl,rfl,u⟩
 simp only [nm_eq,nm_eq,abQ,↓reduceIte,iQ2,zu,qL,zo,nQ1,nQ2,nQ3,nQ4,nQ5,nQ6,lQ1,lQ2,lQ3,lQ4,lQ5,lQ6,lQ7,lQ8,nQ7,nQ8,ze,zP,zG,zH,zC,nQ9,iQ3,iQ4,iQ5,iQ6,qA,qE,zn,zW,zf,zQ,zR,recOf,zU,zI,zJ,zV,zh,lQ9,lQ10,nQ10,if_true,if_false,ite_true,ite_false,lQ11,lQ12,oQ1,oQ2,reduceCtorEq,decide_true,decide_false,bQ1,bQ2,zZ,zO,zX,zM,zY,zL,zq,zN,za,zb,lQ13,lQ14,zy,zm,zw,zk,zx,zi,qN,zl,z8,lQ15,lQ16,bQ3,bQ4,bQ5,true_and,and_true,bQ6,bQ7,lQ17,lQ18,bQ8,bQ9,bQ10,bQ11,eq_self,nQ11,nQ12,nQ13,nQ14,nQ15];refine iteI (fun hlt=>?_) fun hge=>?_
 rotate_left
 ·have hie:i=G.length:=by omega
  rw [hie,List.take_length,List.take_of_length_le (by omega)]at u
  rw [hie,List.take_length];exact hk _ u
 have hir:i<rows.length:=by omega
 have hlt0:i<G.length:=by omega
 have hR:IsPr rows[i].1 rows[i].2.1 rows[i].2.2 G[i].1 G[i].2.1 G[i].2.2:=hr.2 i _ _ (List.getElem?_eq_getElem hir) (List.getElem?_eq_getElem hlt0);have sz:SzP G[i].1 G[i].2.1 G[i].2.2:=szG.r _ (List.getElem_mem hlt0);have eT:totGs (G.take (i+1))=totGs (G.take i)+totP G[i].1 G[i].2.1 G[i].2.2:=by
  rw [List.take_succ_eq_append_getElem hlt0,Zm];simp [totGs]
 have eM:mkGs k (rows.take (i+1)) (G.take (i+1))=mkGs k (rows.take i) (G.take i)++mkPr (k+totGs (G.take i)) rows[i].1 rows[i].2.1 rows[i].2.2 G[i].1 G[i].2.1 G[i].2.2:=by
  rw [List.take_succ_eq_append_getElem hlt0,List.take_succ_eq_append_getElem hir,zCz _ _ _ _ _ (by simp [hl])]
  simp [mkGs]
 have tle:totGs (G.take i)+totP G[i].1 G[i].2.1 G[i].2.2≤totGs G:=by
  have:totGs (G.take (i+1)++G.drop (i+1))=totGs G:=by rw [List.take_append_drop]
  rw [Zm,eT]at this
  omega
 have spl:=zOv hir;have hWs:=hW;rw [spl]at hnd hWs
 have wAll:=ZE.1 hWs;rw [qX,qX,List.nodup_append,List.nodup_append]at hnd
 obtain⟨_,⟨n3,_,_⟩,dA⟩:=hnd;have wT:Whs (fl3 (rows.take i)):=ZE.2 fun c hc=>wAll c (List.mem_append.2 (.inl hc))
 have hrT:All2 FI3 (rows.take i) (G.take i):=⟨by simp [hl],fun j v y hv hy=>by
  rw [List.getElem?_take]at hv hy
  split at hv
  ·rw [if_pos (by assumption)]at hy;exact hr.2 j v y hv hy
  ·cases hv⟩
 have kT:=Qt (rows.take i) (G.take i) k hrT wT;have cell:=zMK hir;have gv:∀{j:Nat} {c:PV},(fl3 rows)[j]? = some c→VOK (zlt h) h 0 c:=fun {j c} e=>ZH.1 hv c (List.mem_of_getElem? e)
 have vO0:=gv cell.1;have vP0:=gv cell.2.1;have vC0:=gv cell.2.2;have wO:=wAll rows[i].1 (List.mem_append.2 (.inr (by simp)))
 have wP:=wAll rows[i].2.1 (List.mem_append.2 (.inr (by simp)))
 have wC:=wAll rows[i].2.2 (List.mem_append.2 (.inr (by simp)))
 have er3:∀{j:Nat} {c:PV},(fl3 rows)[j]? = some c→(ers idz (fl3 rows))[j]? = some (er idz c):=fun {j c} e=>by rw [qf,List.getElem?_map,e];rfl
 have cO:=er3 cell.1;have cP:=er3 cell.2.1;have cC:=er3 cell.2.2;have inE:∀x,x∈eads [rows[i].1,rows[i].2.1,rows[i].2.2]→x∈eads (fl3 rows):=fun x hx=>by rw [spl,qX,qX];exact List.mem_append.2 (.inr (List.mem_append.2 (.inl hx)))
 have inT:∀x,x∈eads (fl3 (rows.take i))→x∈eads (fl3 rows):=fun x hx=>by rw [spl,qX];exact List.mem_append.2 (.inl hx)
 have dT:∀x,x∈(mkGs k (rows.take i) (G.take i)).map Prod.fst→x∉eads [rows[i].1,rows[i].2.1,rows[i].2.2]:=fun x hx hy=>dA x (kT x hx) x (List.mem_append.2 (.inl hy)) rfl
 have ltE:∀x,x∈eads (fl3 rows)→x<h.next:=fun x hx=>by
  have:∀{cs:List PV},VOKs (zlt h) h 0 cs→x∈eads cs→x<h.next:=fun {cs} a b=>by
   induction cs with
   | nil=>cases b
   | cons c cs ih=>rw [eads,List.mem_append]at b;exact b.elim (fun b=>ead_z a.1 x b) (ih a.2)
  exact this hv hx
 have q':h'.obj o=some ⟨true,ers idz (fl3 rows)⟩:=by
  rw [u.same _ hz (qU.2 fun hm=>no (inT _ (kT _ hm)))];exact q
 have mvT:∀{v:PV},VOK (zlt h) h 0 v→(∀x∈ead v,x∈eads [rows[i].1,rows[i].2.1,rows[i].2.2])→VOK (zlt h') h' 0 v:=fun {v} hv' hin=>by
  have h2:=zAU u (fun o ho=>ho) hv'
  rw [zBD fun x hx hy=>dT x hx (hin x hy)]at h2
  exact h2.mono (fun o ho=>⟨Nat.lt_of_lt_of_le ho u.next,rfl⟩) (Nat.le_refl _)
 have iO:∀x∈ead rows[i].1,x∈eads [rows[i].1,rows[i].2.1,rows[i].2.2]:=fun x hx=>by rw [eads3];exact List.mem_append.2 (.inl hx)
 have iP:∀x∈ead rows[i].2.1,x∈eads [rows[i].1,rows[i].2.1,rows[i].2.2]:=fun x hx=>by rw [eads3];exact List.mem_append.2 (.inr (List.mem_append.2 (.inl hx)))
 have iC:∀x∈ead rows[i].2.2,x∈eads [rows[i].1,rows[i].2.1,rows[i].2.2]:=fun x hx=>by rw [eads3];exact List.mem_append.2 (.inr (List.mem_append.2 (.inr hx)))
 have vO:=mvT vO0 iO;have vP:=mvT vP0 iP;have vC:=mvT vC0 iC;have noR:o∉eads [rows[i].1,rows[i].2.1,rows[i].2.2]:=fun hm=>no (inE _ hm)
 have ltR:∀x,x∈eads [rows[i].1,rows[i].2.1,rows[i].2.2]→x<h'.next:=fun x hx=>Nat.lt_of_lt_of_le (ltE x (inE x hx)) u.next
 have hzh:o<h'.next:=Nat.lt_of_lt_of_le hz u.next;have wfh:=u.wf;have ai:qb 3 (.sl o 0 G.length cap) (.int .i64 (i:Int))=some (.ptr o (i*3)):=by rw [zAF hlt0,Nat.zero_add]
 have wi:=wrapS hlt0 (by omega:G.length≤4611686018427387904)
 have fin:∀{h3:AHeap},Upd h' (mkPr (k+totGs (G.take i)) rows[i].1 rows[i].2.1 rows[i].2.2 G[i].1 G[i].2.1 G[i].2.2) h3→Upd h (mkGs k (rows.take (i+1)) (G.take (i+1))) h3:=fun {h3} u2=>by
  rw [eM];have kk:=zB2 (k:=k+totGs (G.take i)) hR ⟨wO,wP,wC,trivial⟩;exact u.trans u2 (fun x hx hy=>dT x hx (kk x hy)) fun x hx=>ltE x (inE x (kk x hx))
 clear u mvT q hv vO0 vP0 vC0 wAll hWs dA dT;generalize rows[i].1=xO at *
 generalize rows[i].2.1=xP at *
 generalize rows[i].2.2=xC at *
 generalize G[i].1=O at *
 generalize G[i].2.1=P at *
 generalize G[i].2.2=C at *
 have szO:=sz.O;rw [eads3]at n3
 simp only [List.nodup_append,List.mem_append]at n3
 obtain⟨dO,⟨dP,dC,dd⟩,dd0⟩:=n3;have hkk0:0≤k+(totGs (G.take i):Int):=by omega
 have hkk1:k+(totGs (G.take i):Int)+(totP O P C:Int)≤4611686018427387904:=by omega
 have eK:k+((totGs (G.take (i+1)):Nat):Int)=k+(totGs (G.take i):Int)+(totP O P C:Int):=by rw [eT];omega
 generalize k+(totGs (G.take i):Int)=k' at *
 have hkt:k'+(O.length:Int)+(totL List.length P:Int)+(totL (totL List.length) C:Int)=k'+(totP O P C:Int):=by unfold totP;omega
 have kO:=mkT_I.keys (k:=k') hR.O wO;have kP:=(mkT_I.F).keys (k:=k'+O.length) hR.P wP;have kC:=(mkT_I.F.F).keys (k:=k'+O.length+totL List.length P) hR.C wC;simp only [eads3,List.mem_append,not_or]at noR ltR
 obtain⟨nO,nP,nC⟩:=noR;simp only [nm_eq,nm_eq,abQ,↓reduceIte,iQ2,zu,qL,zo,nQ1,nQ2,nQ3,nQ4,nQ5,nQ6,lQ1,lQ2,lQ3,lQ4,lQ5,lQ6,lQ7,lQ8,nQ7,nQ8,ze,zP,zG,zH,zC,nQ9,iQ3,iQ4,iQ5,iQ6,qA,qE,zn,zW,zf,zQ,zR,recOf,zU,zI,zJ,zV,zh,lQ9,lQ10,nQ10,if_true,if_false,ite_true,ite_false,lQ11,lQ12,oQ1,oQ2,reduceCtorEq,decide_true,decide_false,bQ1,bQ2,zZ,zO,zX,zM,zY,zL,zq,zN,za,zb,lQ13,lQ14,zy,zm,zw,zk,zx,zi,qN,zl,z8,lQ15,lQ16,bQ3,bQ4,bQ5,true_and,and_true,bQ6,bQ7,lQ17,lQ18,bQ8,bQ9,bQ10,bQ11,eq_self,nQ11,nQ12,nQ13,nQ14,nQ15,ai,ZJ q',cO];refine zB3 hR.O wO wfh vO (by omega) hkk0 (by omega) fun h1 u1=>?_
 have qB:h1.obj o=some ⟨true,ers idz (fl3 rows)⟩:=by
  rw [u1.same _ hzh (qU.2 fun hm=>nO (kO _ hm))];exact q'
 have mv:∀{v:PV},VOK (zlt h') h' 0 v→(∀x∈ead v,x∉(mkI k' xO O).map Prod.fst)→VOK (zlt h1) h1 0 v:=fun {v} hv' hno=>by
  have h2:=zAU u1 (fun o ho=>ho) hv'
  rw [zBD fun x hx hm=>hno x hm hx]at h2
  exact h2.mono (fun o ho=>⟨Nat.lt_of_lt_of_le ho u1.next,rfl⟩) (Nat.le_refl _)
 have hvP1:=mv vP fun x hx hm=>dd0 x (kO x hm) x (.inl hx) rfl
 have hvC1:=mv vC fun x hx hm=>dd0 x (kO x hm) x (.inr hx) rfl
 simp only [nm_eq,nm_eq,abQ,↓reduceIte,iQ2,zu,qL,zo,nQ1,nQ2,nQ3,nQ4,nQ5,nQ6,lQ1,lQ2,lQ3,lQ4,lQ5,lQ6,lQ7,lQ8,nQ7,nQ8,ze,zP,zG,zH,zC,nQ9,iQ3,iQ4,iQ5,iQ6,qA,qE,zn,zW,zf,zQ,zR,recOf,zU,zI,zJ,zV,zh,lQ9,lQ10,nQ10,if_true,if_false,ite_true,ite_false,lQ11,lQ12,oQ1,oQ2,reduceCtorEq,decide_true,decide_false,bQ1,bQ2,zZ,zO,zX,zM,zY,zL,zq,zN,za,zb,lQ13,lQ14,zy,zm,zw,zk,zx,zi,qN,zl,z8,lQ15,lQ16,bQ3,bQ4,bQ5,true_and,and_true,bQ6,bQ7,lQ17,lQ18,bQ8,bQ9,bQ10,bQ11,eq_self,nQ11,nQ12,nQ13,nQ14,nQ15,ai,ZJ qB,cP];refine Q6 hR.P wP dP u1.wf hvP1 (by have:=sz.P.l;omega) (fun x hx=>by have:=sz.P.r x hx;omega) (by omega) (by omega) fun h2 u2=>?_
 have qC:h2.obj o=some ⟨true,ers idz (fl3 rows)⟩:=by
  rw [u2.same _ (Nat.lt_of_lt_of_le hzh u1.next) (qU.2 fun hm=>nP (kP _ hm))];exact qB
 have hvC2:VOK (zlt h2) h2 0 xC:=by
  have h3:=zAU u2 (fun o ho=>ho) hvC1
  rw [zBD fun x hx hm=>dd x (kP x hx) x hm rfl]at h3
  exact h3.mono (fun o ho=>⟨Nat.lt_of_lt_of_le ho u2.next,rfl⟩) (Nat.le_refl _)
 simp only [nm_eq,nm_eq,abQ,↓reduceIte,iQ2,zu,qL,zo,nQ1,nQ2,nQ3,nQ4,nQ5,nQ6,lQ1,lQ2,lQ3,lQ4,lQ5,lQ6,lQ7,lQ8,nQ7,nQ8,ze,zP,zG,zH,zC,nQ9,iQ3,iQ4,iQ5,iQ6,qA,qE,zn,zW,zf,zQ,zR,recOf,zU,zI,zJ,zV,zh,lQ9,lQ10,nQ10,if_true,if_false,ite_true,ite_false,lQ11,lQ12,oQ1,oQ2,reduceCtorEq,decide_true,decide_false,bQ1,bQ2,zZ,zO,zX,zM,zY,zL,zq,zN,za,zb,lQ13,lQ14,zy,zm,zw,zk,zx,zi,qN,zl,z8,lQ15,lQ16,bQ3,bQ4,bQ5,true_and,and_true,bQ6,bQ7,lQ17,lQ18,bQ8,bQ9,bQ10,bQ11,eq_self,nQ11,nQ12,nQ13,nQ14,nQ15,ai,ZJ qC,cC];refine zEX hR.C wC dC u2.wf hvC2 (by have:=sz.C.l;omega) (fun x hx=>⟨by have:=(sz.C.r x hx).l;omega,fun y hy=>by have:=(sz.C.r x hx).r y hy;omega⟩) (by omega) (by omega) fun h3 u3=>?_
 have u23:Upd h1 (mkF mkI List.length (k'+O.length) xP P++mkF (mkF mkI List.length) (totL List.length) (k'+O.length+totL List.length P) xC C) h3:=u2.trans u3 (fun x hx hm=>dd x (kP x hx) x (kC x hm) rfl) fun x hx=>by have:=ltR x (.inr (.inr (kC x hx)));have:=u1.next;omega
 have kPC:∀x∈(mkF mkI List.length (k'+O.length) xP P++mkF (mkF mkI List.length) (totL List.length) (k'+O.length+totL List.length P) xC C).map Prod.fst,x∈ead xP∨x∈ead xC:=fun x hx=>by
  rw [List.map_append,List.mem_append]at hx
  exact hx.imp (kP x) (kC x)
 have u4:Upd h' (mkPr k' xO xP xC O P C) h3:=u1.trans u23 (fun x hx hm=>dd0 x (kO x hx) x (kPC x hm) rfl) fun x hx=>ltR x (.inr (kPC x hx))
 rw [hkt];simp only [nm_eq,nm_eq,abQ,↓reduceIte,iQ2,zu,qL,zo,nQ1,nQ2,nQ3,nQ4,nQ5,nQ6,lQ1,lQ2,lQ3,lQ4,lQ5,lQ6,lQ7,lQ8,nQ7,nQ8,ze,zP,zG,zH,zC,nQ9,iQ3,iQ4,iQ5,iQ6,qA,qE,zn,zW,zf,zQ,zR,recOf,zU,zI,zJ,zV,zh,lQ9,lQ10,nQ10,if_true,if_false,ite_true,ite_false,lQ11,lQ12,oQ1,oQ2,reduceCtorEq,decide_true,decide_false,bQ1,bQ2,zZ,zO,zX,zM,zY,zL,zq,zN,za,zb,lQ13,lQ14,zy,zm,zw,zk,zx,zi,qN,zl,z8,lQ15,lQ16,bQ3,bQ4,bQ5,true_and,and_true,bQ6,bQ7,lQ17,lQ18,bQ8,bQ9,bQ10,bQ11,eq_self,nQ11,nQ12,nQ13,nQ14,nQ15,wi];exact⟨_,by omega,i+1,by omega,rfl,by rw [eK],fin u4⟩
theorem zEb {rows:List Tri} (h:fl3 rows=[]):rows=[]:=by cases rows<;>first | rfl | cases h
theorem kGs {k:Int} {rows:List Tri} {G:List Pre} {w:Bool} {a:AV} {vG:PV} (eG:vG=.fz w a G.length (fl3 rows)) (hr:All2 FI3 rows G) (hW:Wh vG):∀o∈(mkGs k rows G).map Prod.fst,o∈ead vG:=by
 subst eG;intro x hx
 by_cases he:fl3 rows=[]
 ·rw [zEb he]at hx;simp [mkGs]at hx
 ·obtain⟨_,hs,hWs⟩:=hW.resolve_left he
  obtain⟨o,off,l,cap,rfl⟩:=zAK hs;rw [QB he];exact List.mem_cons_of_mem _ (Qt rows G k hr hWs x hx)
theorem zF7 {k:Int} {rows:List Tri} {G:List Pre} {w:Bool} {a:AV} {vG:PV} (eG:vG=.fz w a G.length (fl3 rows)) (hr:All2 FI3 rows G) (hW:Wh vG) (hnd:(ead vG).Nodup) (hw:HWF h) (hv:VOK (zlt h) h 0 vG) (szG:SzG G) (hk0:0≤k) (hk1:k+totGs G≤4611686018427387904)
  (hk:∀h',Upd h (mkGs k rows G) h'→K (.int .i64 (k+totGs G)) h'):qW Tryz.prog 38 [er idz vG,.int .i64 k] h K:=by
 subst eG
 by_cases he:fl3 rows=[]
 ·have e:=zEb he
  subst e;have e2:G=[]:=List.eq_nil_of_length_eq_zero hr.1.symm;subst e2
  have:=hk h (Upd.refl hw)
  refine zFA (w:=w) (a:=a) hv ?_
  simpa [totGs]using this
 ·obtain⟨hwt,ha,hWs⟩:=hW.resolve_left he
  obtain⟨o,cap,rfl,ho,hz⟩:=hv.whole hwt he;rw [QB he]at hnd
  exact zF8 hr hWs hnd hw ho hz hv.2 szG hk0 hk1 hk
def mkCs (k:Int) (rows:List Tri) (vL:PV) (G:List Pre) (L:List (List Int)):List (Nat×List PV):=mkGs k rows G++mkF mkI List.length (k+totGs G) vL L
def totCs (G:List Pre) (L:List (List Int)):Nat:=totGs G+totL List.length L
theorem zCe {k kk:Int} {rows:List Tri} {w:Bool} {a:AV} {vG vL:PV} {G:List Pre} {L:List (List Int)} (eG:vG=.fz w a G.length (fl3 rows)) (hr:All2 FI3 rows G) (hL:FII vL L) (hW:Wh (.agg [.int .i64 kk,vG,vL])) (hnd:(ead (.agg [.int .i64 kk,vG,vL])).Nodup) (hw:HWF h) (hv:VOK (zlt h) h 0 (.agg [.int .i64 kk,vG,vL])) (szG:SzG G) (szL:SzL L) (hk0:0≤k) (hk1:k+totCs G L≤4611686018427387904)
  (hk:∀h',Upd h (mkCs k rows vL G L) h'→K (.int .i64 (k+totCs G L)) h'):qW Tryz.prog 12 [er idz (.agg [.int .i64 kk,vG,vL]),.int .i64 k] h K:=by
 refine ZF mix Tryz.func12 cf12 rfl ?_;dsimp only [if12,mI0,kI0,lI0,fI0,C2,R0,S0];simp only [er,ers];unfold totCs at hk hk1
 obtain⟨_,hvG,hvL,_⟩:=hv;obtain⟨_,wG,wL,_⟩:=hW;have oG:(er idz vG).one=true:=by rw [zGS hvG,eG];rfl
 have oL:(er idz vL).one=true:=by rw [zGS hvL];exact hL.one
 have cG:=zAh oG;have cL:=zAh oL;simp only [ead,eads,List.nil_append,List.append_nil,List.nodup_append]at hnd
 obtain⟨dG,dL,dd⟩:=hnd;obtain⟨hh,he,hx1,hn,qq⟩:=box1 hw [.int .i64 kk,er idz vG,er idz vL];have hzz:∀o,zlt h o→zlt hh o∧hh.obj o=h.obj o:=fun o ho=>⟨Nat.lt_of_lt_of_le ho hx1.next,hx1.obj o ho⟩
 have q:=qq _ (Ext.refl hx1.wf);have kG:=kGs (k:=k) eG hr wG;have kL:=(mkT_I.F).keys (k:=k+totGs G) hL wL;simp only [nm_eq,nm_eq,abQ,↓reduceIte,iQ2,zu,qL,zo,nQ1,nQ2,nQ3,nQ4,nQ5,nQ6,lQ1,lQ2,lQ3,lQ4,lQ5,lQ6,lQ7,lQ8,nQ7,nQ8,ze,zP,zG,zH,zC,nQ9,iQ3,iQ4,iQ5,iQ6,qA,qE,zn,zW,zf,zQ,zR,recOf,zU,zI,zJ,zV,zh,lQ9,lQ10,nQ10,if_true,if_false,ite_true,ite_false,lQ11,lQ12,oQ1,oQ2,reduceCtorEq,decide_true,decide_false,bQ1,bQ2,zZ,zO,zX,zM,zY,zL,zq,zN,za,zb,lQ13,lQ14,zy,zm,zw,zk,zx,zi,qN,zl,z8,lQ15,lQ16,bQ3,bQ4,bQ5,true_and,and_true,bQ6,bQ7,lQ17,lQ18,bQ8,bQ9,bQ10,bQ11,eq_self,nQ11,nQ12,nQ13,nQ14,nQ15,he,oG,oL,cG,cL,ZJ q];refine zF7 eG hr wG dG hx1.wf (hvG.mono hzz (Nat.le_refl _)) szG hk0 (by omega) fun h2 u1=>?_
 have qB:h2.obj h.next=some ⟨true,[.int .i64 kk,er idz vG,er idz vL]⟩:=by
  rw [u1.same _ (by omega) (qU.2 fun hm=>by have:h.next<h.next:=ead_z hvG _ (kG _ hm);omega)];exact q
 have mv:∀{v:PV},VOK (zlt hh) hh 0 v→(∀o∈ead v,o∉(mkGs k rows G).map Prod.fst)→VOK (zlt h2) h2 0 v:=fun {v} hv' hno=>by
  have h2:=zAU u1 (fun o ho=>ho) hv'
  rw [zBD fun o ho hm=>hno o hm ho]at h2
  exact h2.mono (fun o ho=>⟨Nat.lt_of_lt_of_le ho u1.next,rfl⟩) (Nat.le_refl _)
 have hvL1:=mv (hvL.mono hzz (Nat.le_refl _)) fun o ho hm=>dd o (kG o hm) o ho rfl
 simp only [nm_eq,nm_eq,abQ,↓reduceIte,iQ2,zu,qL,zo,nQ1,nQ2,nQ3,nQ4,nQ5,nQ6,lQ1,lQ2,lQ3,lQ4,lQ5,lQ6,lQ7,lQ8,nQ7,nQ8,ze,zP,zG,zH,zC,nQ9,iQ3,iQ4,iQ5,iQ6,qA,qE,zn,zW,zf,zQ,zR,recOf,zU,zI,zJ,zV,zh,lQ9,lQ10,nQ10,if_true,if_false,ite_true,ite_false,lQ11,lQ12,oQ1,oQ2,reduceCtorEq,decide_true,decide_false,bQ1,bQ2,zZ,zO,zX,zM,zY,zL,zq,zN,za,zb,lQ13,lQ14,zy,zm,zw,zk,zx,zi,qN,zl,z8,lQ15,lQ16,bQ3,bQ4,bQ5,true_and,and_true,bQ6,bQ7,lQ17,lQ18,bQ8,bQ9,bQ10,bQ11,eq_self,nQ11,nQ12,nQ13,nQ14,nQ15,ZJ qB];refine Q6 hL wL dL u1.wf hvL1 (by have:=szL.l;omega) (fun x hx=>by have:=szL.r x hx;omega) (by omega) (by omega) fun h3 u2=>?_
 have u4:Upd hh (mkCs k rows vL G L) h3:=u1.trans u2 (fun o ho hm=>dd o (kG o ho) o (kL o hm) rfl) fun o ho=>by have:o<h.next:=ead_z hvL o (kL o ho);omega
 have u5:=hx1.upd.trans u4 (fun o ho=>by cases ho) fun o ho=>by
  unfold mkCs at ho
  rw [List.map_append,List.mem_append]at ho
  exact ho.elim (fun hm=>ead_z hvG o (kG o hm)) fun hm=>ead_z hvL o (kL o hm)
 have e:k+(totGs G:Int)+(totL List.length L:Int)=k+((totGs G+totL List.length L:Nat):Int):=by omega
 rw [e];simp only [nm_eq,nm_eq,abQ,↓reduceIte,iQ2,zu,qL,zo,nQ1,nQ2,nQ3,nQ4,nQ5,nQ6,lQ1,lQ2,lQ3,lQ4,lQ5,lQ6,lQ7,lQ8,nQ7,nQ8,ze,zP,zG,zH,zC,nQ9,iQ3,iQ4,iQ5,iQ6,qA,qE,zn,zW,zf,zQ,zR,recOf,zU,zI,zJ,zV,zh,lQ9,lQ10,nQ10,if_true,if_false,ite_true,ite_false,lQ11,lQ12,oQ1,oQ2,reduceCtorEq,decide_true,decide_false,bQ1,bQ2,zZ,zO,zX,zM,zY,zL,zq,zN,za,zb,lQ13,lQ14,zy,zm,zw,zk,zx,zi,qN,zl,z8,lQ15,lQ16,bQ3,bQ4,bQ5,true_and,and_true,bQ6,bQ7,lQ17,lQ18,bQ8,bQ9,bQ10,bQ11,eq_self,nQ11,nQ12,nQ13,nQ14,nQ15];have e2:=hk h3 (by simpa using u5)
 simpa only [Nat.add_assoc]using e2
end
end Go.Proofs
namespace Go.Grp
end Go.Grp
namespace Go.Ab
variable {P:Program} {σ σ0 h h':PHeap} {K:PV→PHeap→Prop} {b n m e:Nat} {v u:PV} {cells cs:List PV}
theorem zA.thawZ {f:FuncId} {args:List PV} {args2:(Nat→Nat)→List PV}
  (hA:∀ι,ers ι (args2 ι)=ers ι args) (hV:∀{ι:Nat→Nat} {Z Z2:Nat→Prop} {h:AHeap},Rel ι Z σ h→(∀o,Z o→Z2 o)→(∀s ds,σ.obj s=some ds→Z2 (ι s))→VOKs Z2 h σ.next (args2 ι))
  (c:∀aa,zA P f (args2 aa) σ.bare fun v _=>leafy v∧K v σ):zA P f args σ K:=by
 intro ι Z h r va;obtain⟨Z2,hZ2⟩:∃Z2:Nat→Prop,Z2=fun o=>Z o∨∃t ds,σ.obj t=some ds∧o=ι t:=⟨_,rfl⟩
 have hz2:∀o,Z2 o↔(Z o∨∃t ds,σ.obj t=some ds∧o=ι t):=fun o=>by rw [hZ2]
 clear hZ2;have r2:Rel ι Z2 σ.bare h:=by
  refine⟨r.hwf,fun o ho=>?_,r.top,fun t ht=>rfl,fun t ds ht=>(by cases ht),fun t t' ds ds' ht=>(by cases ht)⟩
  rcases(hz2 o).1 ho with ho|⟨t,ds,ht,rfl⟩
  ·exact r.zlt o ho
  ·exact r.hwf.lt (r.obj t ds ht).1
 have:=c ι ι Z2 h r2 (hV r (fun o ho=>(hz2 o).2 (.inl ho)) fun s ds hs=>(hz2 _).2 (.inr ⟨s,ds,hs,rfl⟩))
 rw [hA]at this
 refine this.mono ?_
 rintro v h' ⟨pv,σ',ι',Z',p1,p2,p3,rfl,hl,hk⟩
 have ob:∀t ds,σ.obj t=some ds→h'.obj (ι t)=h.obj (ι t):=fun t ds ht=>(p2.z _ ((hz2 _).2 (.inr ⟨t,ds,ht,rfl⟩))).2
 have hzz:∀o,Z o→Z o∧h'.obj o=h.obj o:=fun o ho=>⟨ho,(p2.z o ((hz2 o).2 (.inl ho))).2⟩
 exact⟨pv,σ,ι,Z,⟨p1.hwf,fun o ho=>Nat.lt_of_lt_of_le (r.zlt o ho) p2.hnext,Nat.le_trans r.top p2.hnext,r.wf,fun t ds ht=>⟨by rw [ob t ds ht];exact(r.obj t ds ht).1,(r.obj t ds ht).2.1.mono hzz (Nat.le_refl _),(r.obj t ds ht).2.2⟩,r.inj⟩,⟨Nat.le_refl _,p2.hnext,fun _ _=>rfl,hzz,fun _ _ h=>h,fun t ds ht hd=>absurd (r.none_lt hd) (by omega)⟩,zAt hl _,zBZ hl _ _,hk⟩
def frz (a:Nat→Nat) (cells:List PV):PV→PV
 | .sl s off l cap=>.fz true (.sl (a s) off l cap) l cells
 | v=>v
theorem zKi (ι:Nat→Nat) (cells:List PV) (v:PV):er ι (frz ι cells v)=er ι v:=by cases v<;>rfl
theorem PAcc.frz_eq (a:PAcc b e h v n cells) (aa:Nat→Nat):∃w,frz aa cells v=.fz true w n cells:=by
 rcases a with ⟨rfl,rfl,rfl⟩|⟨s,cap,rfl,_⟩
 ·exact⟨_,rfl⟩
 ·exact⟨_,rfl⟩
theorem PAcc.frz_vok {ι:Nat→Nat} {Z Z2:Nat→Prop} {hh:AHeap} (r:Rel ι Z σ hh) (a:PAcc b e σ v n cells) (hb:Bels 0 cells) (hzz:∀o,Z o→Z2 o) (hz:∀s off l c,v=.sl s off l c→Z2 (ι s)):VOK Z2 hh 0 (frz ι cells v):=by
 rcases a with ⟨rfl,rfl,rfl⟩|⟨s,cap,rfl,q1,q2,q3,q4,q5⟩
 ·exact⟨.inl ⟨rfl,rfl,rfl⟩,trivial⟩
 ·obtain⟨g1,g2,g3⟩:=r.obj s _ q2
  have g4:=g2.of_bel hb;rw [Zb g4]at g1
  refine⟨.inr ⟨ι s,0,cap,rfl,hz _ _ _ _ rfl,.inr (Qh g1 rfl),fun c hc=>?_,fun _=>⟨rfl,g1⟩⟩,g4.mono (fun o ho=>⟨hzz o ho,rfl⟩) (Nat.le_refl _)⟩
  subst hc
  have:=q1.ok
  simpa [capOK]using this
theorem zOT {s o:Nat} (hv:∀off l c,v≠.sl s off l c) (a:PAcc b e h v n cells):sb s o cs v=v:=by
 rcases a with ⟨rfl,rfl,rfl⟩|⟨t,cap,rfl,_⟩
 ·rfl
 ·simp only [sb]
  rw [if_neg fun q=>hv 0 n cap (by rw [q.1])]
theorem PAcc.kill {s:Nat} (a:PAcc b e h v n cells) (hv:∀off l c,v≠.sl s off l c):PAcc b e (h.kill s) v n cells:=by
 rcases a with ⟨rfl,rfl,rfl⟩|⟨t,cap,rfl,q1,q2,q3,q4,q5⟩
 ·exact PAcc.nil _ _ _
 ·exact .inr ⟨t,cap,rfl,q1,by simp only [PHeap.kill];rw [if_neg fun q=>hv 0 n cap (by rw [q])];exact q2,q3,q4,q5⟩
theorem Gh.fin2 {e2:Nat} {x y:PV} {cu:List PV} (hk:Keep σ h) (a:PAcc σ.next e h v n cells) (hb:Bels 0 cells) (a2:PAcc σ.next e2 h u m cu) (hb2:Bels 0 cu) (sep:∀t off l c,v=.sl t off l c→∀off l c,u≠.sl t off l c) (hx:leafy x) (hy:leafy y)
  (k:∀w1 w2,K (.tup [.agg [x,.fz true w1 n cells,.fz true w2 m cu],y]) σ):Gh σ K (.tup [.agg [x,v,u],y]) h:=by
 have sx:∀s o cs,sb s o cs x=x:=fun s o cs=>by cases x<;>first | rfl | cases hx
 have sy:∀s o cs,sb s o cs y=y:=fun s o cs=>by cases y<;>first | rfl | cases hy
 have bx:Bel σ.next x:=by cases x<;>first | trivial | cases hx
 have by':Bel σ.next y:=by cases y<;>first | trivial | cases hy
 have key:∀{h:PHeap} {w1:AV},Keep σ h→PAcc σ.next e2 h u m cu→Gh σ K (.tup [.agg [x,.fz true w1 n cells,u],y]) h:=fun {h w1} hk a2=>by
  rcases a2 with ⟨rfl,rfl,rfl⟩|⟨t,cap,rfl,q1,q2,q3,q4,q5⟩
  ·exact Gh.fin0 hk ⟨⟨bx,trivial,trivial,trivial⟩,by',trivial⟩ (k w1 .nils)
  ·refine Gh.freeze (s:=t) (cs:=cu) q2 q4 hb2 fun o _ _ _=>?_
   simp only [sb,sbs,sx,sy];rw [if_pos ⟨trivial,trivial,q1.ok⟩];exact Gh.fin0 ((hk.kill q4).up (by simp only [PHeap.kill];omega)) ⟨⟨bx,trivial,trivial,trivial⟩,by',trivial⟩ (k w1 _)
 rcases a with ⟨rfl,rfl,rfl⟩|⟨t,cap,rfl,q1,q2,q3,q4,q5⟩
 ·exact key hk a2
 ·refine Gh.freeze (s:=t) (cs:=cells) q2 q4 hb fun o _ _ _=>?_
  have e1:=zOT (o:=o) (cs:=cells) (sep _ _ _ _ rfl) a2;simp only [sb,sbs,sx,sy];rw [if_pos ⟨trivial,trivial,q1.ok⟩,e1];exact key ((hk.kill q4).up (by simp only [PHeap.kill];omega)) (PAcc.upX (a2.kill (sep _ _ _ _ rfl)))
end Go.Ab
namespace Go.Proofs
open Go.Ab Go.Lie Go.Grp
variable {σ σ0 h h':PHeap} {K:PV→PHeap→Prop} {s:List UInt8} {x:List Int} {b n e:Nat} {v:PV} {cells:List PV}
abbrev nilC:List PV:=[.int .i64 0,.fz true .nils 0 [],.fz true .nils 0 []]
theorem zHx {k:Int} {G:List Pre} {L:List (List Int)}:(lnT k G L++[[]]).length=G.length+L.length+2:=by simp [lnT];omega
theorem lnT_G {k:Int} {G:List Pre} {L:List (List Int)} {i:Nat} (h:i<G.length):(lnT k G L++[[]])[i+1]? = some (prG G[i]):=by
 rw [lnT,List.cons_append,List.getElem?_cons_succ,List.append_assoc,List.getElem?_append_left (by simpa using h),List.getElem?_map,List.getElem?_eq_getElem h,Option.map_some]
theorem lnT_L {k:Int} {G:List Pre} {L:List (List Int)} {i:Nat} (h:i<L.length):(lnT k G L++[[]])[G.length+i+1]? = some (liL L[i]):=by
 rw [lnT,List.cons_append,List.getElem?_cons_succ,List.append_assoc,List.getElem?_append_right (by simp),List.getElem?_append_left (by simp;omega),List.getElem?_map]
 rw [show G.length+i-(G.map prG).length=i by simp,List.getElem?_eq_getElem h,Option.map_some]
set_option maxHeartbeats 3200000 in
theorem zA0 (hs:s.length≤1048576) (hk0:(∀k G L,qR k G L→certT k G L≠s)→K (.tup [.agg nilC,.int .i64 6]) σ)
  (hk1:∀k G L vG vL,qR k G L→certT k G L=s→FG vG G→FII vL L→K (.tup [.agg [.int .i64 k,vG,vL],.int .i64 0]) σ):zA Tryz.prog 14 [.str s] σ K:=by
 have fail:(∀k G L,qR k G L→certT k G L≠s)→∀{h:PHeap},Keep σ h→σ.next<h.next→h.obj σ.next=some nilC→
   h.wr σ.next 0 nilC=some (h.set σ.next nilC)∧(h.set σ.next nilC).rd σ.next 0 3=some nilC∧Gh σ K (.tup [.agg nilC,.int .i64 6]) (h.set σ.next nilC):=fun e {h} kh hl ho=>
  ⟨by rw [qg ho,if_pos ⟨by simp,rfl⟩];rfl,by rw [ZG,if_pos rfl];rfl,Gh.fin0 (kh.set (Nat.le_refl _) _) ⟨⟨trivial,trivial,trivial,trivial⟩,trivial,trivial⟩ (hk0 e)⟩
 refine zA.gh ?_;refine zt mix Tryz.func14 cf14 rfl ?_;dsimp only [if14,qI,eI,mI0,kI0,lI0,LI0,fI0,xI0,bI0,cI0,nI0,sI0,eI0,C1,I0,G0,gm0,oI0,yI0,vI0,R0,S0];simp only [pwA,seval,-iQ0];refine QW (c:=10) (s:=s) (by omega) fun a=>?_
 have sl:=zAJ 10 s [];have hll:=zAR 10 s [];have hC:∀k G L,qR k G L→certT k G L=s→spF 10 [] s=lnT k G L++[[]]:=fun k G L hc e=>by rw [←e];exact zDV hc
 have hD:∀k G L,spF 10 [] s=lnT k G L++[[]]→certT k G L=s:=fun k G L e=>zFH e
 generalize spF 10 [] s=l at *
 have c0:(pst l)[0]? = some (.str l[0]):=qw (by omega)
 have z0:(0:Int)<(l.length:Int):=by omega
 have z0':0<l.length:=by omega
 have hq0:l[0].length≤1048576:=by have:=hll _ (List.getElem_mem z0');simp only [List.length_nil]at this;omega
 simp only [pwA,seval,-iQ0,z0,z0',c0];refine QU hq0 ?_;have e0:∀k G L,qR k G L→certT k G L=s→vlF l[0]=k:=fun k G L hc e=>by
  have:=hC k G L hc e
  have:l[0]=Lib.itoa k:=by
   have q:l[0]? = some (Lib.itoa k):=by rw [this];rfl
   rw [List.getElem?_eq_getElem z0']at q
   exact Option.some.inj q
  rw [this,zB7 (zAc hc.1)]
 have e1:1≤vlF l[0]→l[0]=Lib.itoa (vlF l[0]):=zIy;generalize vlF l[0]=k0 at *
 simp only [pwA,seval,-iQ0];refine zB5 ?_;simp only [pwA,seval,-iQ0];have kH:Keep σ ((σ.new nilC).new [.int .i64 k0,.fz true .nils 0 [],.fz true .nils 0 []]):=(zD _ _).new _;have ob0:((σ.new nilC).new [.int .i64 k0,.fz true .nils 0 [],.fz true .nils 0 []]).obj σ.next=some nilC:=by simp only [pwA,seval,-iQ0]
 have ob1:((σ.new nilC).new [.int .i64 k0,.fz true .nils 0 [],.fz true .nils 0 []]).obj (σ.next+1)=some [.int .i64 k0,.fz true .nils 0 [],.fz true .nils 0 []]:=by simp only [pwA,seval,-iQ0]
 have hHn:((σ.new nilC).new [.int .i64 k0,.fz true .nils 0 [],.fz true .nils 0 []]).next=σ.next+2:=rfl;generalize (σ.new nilC).new [.int .i64 k0,.fz true .nils 0 [],.fz true .nils 0 []]=H at *
 by_cases hneg:need k0<0
 ·obtain⟨f1,f2,f3⟩:=fail (fun k G L hc e=>by rw [e0 k G L hc e]at hneg;have:=hc.1;omega) kH (by omega) ob0
  simp only [pwA,seval,-iQ0,hneg,f1,f2];exact f3
 obtain⟨c,hc,hc1,hc3⟩:∃c:Nat,need k0=(c:Int)∧1≤c∧c≤3:=⟨(need k0).toNat,by omega,by unfold need at hneg ⊢;split<;>(try split)<;>(try split)<;>simp_all,by unfold need at hneg ⊢;split<;>(try split)<;>(try split)<;>simp_all⟩
 have hk16:1≤k0∧k0≤6:=zAc (G:=List.replicate c ([],[],[])) (by rw [hc];simp)
 have hl0:=e1 hk16.1;rw [hc]at hneg
 rw [hc];have wc:IntKind.i64.wrap ((c:Int)+2)=((c+2:Nat):Int):=by rw [wrap64 (by omega) (by omega)];omega
 have lnc:∀k G L,qR k G L→certT k G L=s→G.length=c∧l.length=c+L.length+2:=fun k G L h e=>by
  have h1:=h.1;rw [←e0 k G L h e,hc]at h1
  have h2:=hC k G L h e;have h3:G.length=c:=by omega
  exact⟨h3,by rw [h2,zHx,h3]⟩
 by_cases hlen:l.length<c+2
 ·have hlen':(l.length:Int)<((c+2:Nat):Int):=by omega
  obtain⟨f1,f2,f3⟩:=fail (fun k G L h e=>by have:=lnc k G L h e;omega) kH (by omega) ob0
  simp only [pwA,seval,-iQ0,hneg,wc,hlen',f1,f2];exact f3
 have hlen':¬(l.length:Int)<((c+2:Nat):Int):=by omega
 have wl:IntKind.i64.wrap ((l.length:Int)-1)=((l.length-1:Nat):Int):=by rw [wrap64 (by omega) (by omega)];omega
 have hl1:l.length-1<l.length:=by omega
 have hl1':((l.length-1:Nat):Int)<(l.length:Int):=by omega
 have g1:(pst l)[l.length-1]? = some (.str l[l.length-1]):=qw hl1
 by_cases hlast:l[l.length-1]=[]
 rotate_left
 ·have bl:(l[l.length-1] == [])=false:=by simpa using hlast
  obtain⟨f1,f2,f3⟩:=fail (fun k G L h e=>hlast (by
   have h2:=hC k G L h e;have q:l[l.length-1]? = some []:=by
    rw [h2,List.length_append,List.length_singleton,Nat.add_sub_cancel,List.getElem?_append_right (Nat.le_refl _),Nat.sub_self];rfl
   rw [List.getElem?_eq_getElem hl1]at q
   exact Option.some.inj q)) kH (by omega) ob0
  simp only [pwA,seval,-iQ0,hneg,wc,hlen',wl,hl1,hl1',g1,bl,f1,f2];exact f3
 have bl:(l[l.length-1] == [])=true:=by simpa using hlast
 simp only [pwA,seval,-iQ0,hneg,wc,hlen',wl,hl1,hl1',g1,bl];refine zB (fun m vs h=>∃(i:Nat) (vG vL:PV) (rows:List Tri) (G:List Pre) (rL:List PV) (L:List (List Int)),1≤i∧i≤l.length-1∧m=l.length-1-i∧vs=[.ptr σ.next 0,.fz true a l.length (pst l),.ptr (σ.next+1) 0,.int .i64 c,.int .i64 i]∧
  Keep σ h∧σ.next+1<h.next∧h.obj σ.next=some nilC∧h.obj (σ.next+1)=some [.int .i64 k0,vG,vL]∧PAcc (σ.next+2) 3 h vG G.length (fl3 rows)∧All2 FI3 rows G∧PAcc (σ.next+2) 1 h vL L.length rL∧All2 FI rL L∧(∀t off l c,vG=.sl t off l c→∀off l c,vL≠.sl t off l c)∧(i≤c→vL=.fz true .nils 0 []∧rL=[])∧
  G.map prG++L.map liL=(l.drop 1).take (i-1)∧G.length=min (i-1) c∧L.length=i-1-c∧(∀g∈G,zK g.1 g.2.1 g.2.2)∧(∀x∈L,x.length≤1048576∧∀z∈x,-1000000≤z∧z≤1000000)) (l.length-1-1) ?_ ?_
 ·exact⟨1,_,_,[],[],[],[],Nat.le_refl _,by omega,rfl,rfl,kH,by omega,ob0,ob1,PAcc.nil _ _ _,All2.nil _,PAcc.nil _ _ _,All2.nil _,(fun t off l c e=>by cases e),fun _=>⟨rfl,rfl⟩,rfl,by simp,by simp,(fun g hg=>by cases hg),fun g hg=>by cases hg⟩
 clear kH ob0 ob1 hHn
 rintro m vs h ⟨i,vG,vL,rows,G,rL,L,hi1,hi,rfl,rfl,kk,hhn,ob0,ob1,aG,hrG,aL,hrL,sep,hnl,hln,hGl,hLl,hG,hL⟩
 have o1:=aG.one;have o2:=aL.one;simp only [pwA,seval,-iQ0,wl];have r3:h.rd (σ.next+1) 0 3=some [.int .i64 k0,vG,vL]:=by rw [Z9 ob1];rfl
 have rG:h.rd1 (σ.next+1) 1=some vG:=by rw [qF ob1];rfl
 have rL':h.rd1 (σ.next+1) 2=some vL:=by rw [qF ob1];rfl
 have drp:∀j (hj:j+1<l.length),(l.drop 1)[j]? = some l[j+1]:=fun j hj=>by rw [List.getElem?_drop,Nat.add_comm,List.getElem?_eq_getElem hj]
 refine iteI (fun hlt=>?_) fun hge=>?_
 rotate_left
 ·obtain rfl:i=l.length-1:=by omega
  simp only [pwA,seval,-iQ0,r3,o1,o2];have hGc:G.length=c:=by omega
  have lall:l=lnT k0 G L++[[]]:=by
   apply List.ext_getElem?;intro j;rcases Nat.lt_or_ge j l.length with hj|hj
   ·cases j with
    | zero=>rw [List.getElem?_eq_getElem hj,hl0];rfl
    | succ j=>
     rw [lnT,List.cons_append,List.getElem?_cons_succ,hln];have e:l[j+1]? = (l.drop 1)[j]?:=by rw [List.getElem?_drop,Nat.add_comm]
     rw [e];have hlen3:((l.drop 1).take (l.length-1-1)).length=l.length-2:=by rw [List.length_take,List.length_drop];omega
     rcases Nat.lt_or_ge j (l.length-2)with h2|h2
     ·rw [List.getElem?_append_left (by omega),List.getElem?_take_of_lt (by omega)]
     ·rw [List.getElem?_append_right (by omega),hlen3,show j-(l.length-2)=0 by omega,drp j hj]
      have:l[j+1]=[]:=by rw [←hlast];congr 1;omega
      rw [this];rfl
   ·rw [List.getElem?_eq_none hj,List.getElem?_eq_none]
    have:=congrArg List.length hln
    rw [List.length_take,List.length_drop]at this
    simp only [lnT,List.cons_append,List.length_cons,List.length_append,List.length_nil]at this ⊢
    omega
  have szG:SzG G:=⟨by omega,fun g hg=>zK.sz (hG g hg)⟩
  have szL:SzL L:=⟨by omega,fun x hx=>(hL x hx).1⟩
  refine zA.thawZ (args2:=fun aa=>[.agg [.int .i64 k0,frz aa (fl3 rows) vG,frz aa rL vL]]) (fun ι=>by simp only [ers,er,zKi]) (fun {ι Z Z2 hh} r hzz hz=>?_) fun aa=>?_
  ·have hsl:∀{n e:Nat} {v:PV} {cells:List PV},PAcc (σ.next+2) e h v n cells→∀s off l c,v=.sl s off l c→Z2 (ι s):=fun {n e v cells} a s off l c ev=>by
    rcases a with ⟨rfl,_⟩|⟨t,cap,rfl,q1,q2,_⟩
    ·cases ev
    ·cases ev;exact hz _ _ q2
   exact⟨⟨trivial,(aG.frz_vok r (zCb hrG) hzz (hsl aG)).mono (fun o ho=>⟨ho,rfl⟩) (Nat.zero_le _),(aL.frz_vok r (hrL.bI 0) hzz (hsl aL)).mono (fun o ho=>⟨ho,rfl⟩) (Nat.zero_le _),trivial⟩,trivial⟩
  obtain⟨w1,ew1⟩:=aG.frz_eq aa;obtain⟨w2,ew2⟩:=aL.frz_eq aa;rw [ew1,ew2];refine zCf ⟨_,_,rows,rfl,hrG⟩ szG ⟨_,_,rL,rfl,hrL⟩ szL fun t ht=>⟨trivial,?_⟩
  cases t
  ·obtain⟨f1,f2,f3⟩:=fail (fun k G' L' hc' e=>by
    have h2:=hC k G' L' hc' e;have hk:=e0 k G' L' hc' e;subst hk;have hln2:=lnc k0 G' L' hc' e;rw [lall]at h2
    have h3:=List.append_cancel_right h2;rw [lnT,lnT]at h3
    obtain⟨_,h4⟩:=List.cons.inj h3;obtain⟨h5,h6⟩:=List.append_inj h4 (by rw [List.length_map,List.length_map];omega)
    have eG:G=G':=QR (p:=fun g=>zK g.1 g.2.1 g.2.2) (fun a b=>zHp) hG hc'.2.2.1 h5
    have eL:L=L':=QR (p:=fun x=>∀z∈x,-1000000≤z∧z≤1000000) (fun a b=>zHy) (fun x hx=>(hL x hx).2) (fun x hx=>(hc'.2.2.2 x hx).2) h6
    rw [←eG,←eL]at hc'
    exact absurd (ht.2 hc') (by decide)) kk (by omega) ob0
   simp only [pwA,seval,-iQ0,f1,f2];exact f3
  have hcert:=ht.1 rfl;have w0:h.wr σ.next 0 [.int .i64 k0,vG,vL]=some (h.set σ.next [.int .i64 k0,vG,vL]):=by rw [qg ob0,if_pos ⟨by simp,by simp only [List.all_cons,List.all_nil,o1,o2,Bool.and_true];rfl⟩];rfl
  have w1:(h.set σ.next [.int .i64 k0,vG,vL]).rd σ.next 0 3=some [.int .i64 k0,vG,vL]:=by rw [ZG,if_pos rfl];rfl
  have kk':Keep σ (h.set σ.next [.int .i64 k0,vG,vL]):=kk.set (Nat.le_refl _) _;have aG':PAcc σ.next 3 (h.set σ.next [.int .i64 k0,vG,vL]) vG G.length (fl3 rows):=(aG.set (by omega) _).low (by omega)
  have aL':PAcc σ.next 1 (h.set σ.next [.int .i64 k0,vG,vL]) vL L.length rL:=(aL.set (by omega) _).low (by omega)
  simp only [pwA,seval,-iQ0,r3,o1,o2,w0,w1];exact Gh.fin2 kk' aG' (zCb hrG) aL' (hrL.bI 0) sep trivial trivial fun w1 w2=>hk1 k0 G L _ _ hcert (hD _ _ _ lall) ⟨_,_,rows,rfl,hrG⟩ ⟨_,_,rL,rfl,hrL⟩
 have hil:i<l.length:=by omega
 have hil':(i:Int)<(l.length:Int):=by omega
 have gi:(pst l)[i]? = some (.str l[i]):=qw hil;have hqi:l[i].length≤1048576:=by have:=hll _ (List.getElem_mem hil);simp only [List.length_nil]at this;omega
 have wi:=wrapS hlt (by omega:l.length-1≤4611686018427387904)
 refine iteI (fun hic=>?_) fun hic=>?_
 ·simp only [pwA,seval,-iQ0,hil,hil',gi]
  refine zBr hqi (fun eN=>?_) fun wO wP wC O P C eP hp hpt hR=>?_
  ·have kn:Keep σ (h.new [.fz true .nils 0 [],.fz true .nils 0 [],.fz true .nils 0 []]):=kk.new _
   have obn:(h.new [.fz true .nils 0 [],.fz true .nils 0 [],.fz true .nils 0 []]).obj σ.next=some nilC:=by rw [zT,if_neg (by omega)];exact ob0
   have eNc:∀k G L,qR k G L→certT k G L≠s:=(fun k G' L' hc' e=>by
    have h2:=hC k G' L' hc' e;have h3:=(lnc k G' L' hc' e).1;have hb:i-1<G'.length:=by omega
    have ei:i=(i-1)+1:=by omega
    have q:l[i]? = some (prG G'[i-1]):=by rw [h2];exact(congrArg (fun j=>(lnT k G' L'++[[]])[j]?) ei).trans (lnT_G hb)
    rw [List.getElem?_eq_getElem hil]at q
    have q':=Option.some.inj q;have hg:=hc'.2.2.1 _ (List.getElem_mem hb);exact eN _ _ _ (by rw [q'];exact zDK hg) hg q'.symm)
   obtain⟨f1,f2,_⟩:=fail eNc kk (by omega) ob0
   have n0:¬σ.next=h.next:=by omega
   simp only [pwA,seval,-iQ0,n0,f1,f2];exact Gh.fin0 ((kk.set (Nat.le_refl _) _).new _) ⟨⟨trivial,trivial,trivial,trivial⟩,trivial,trivial⟩ (hk0 fun k G' L' hc' e=>eNc k G' L' hc' e)
  have p1:=hR.O.one;have p2:=hR.P.one;have p3:=hR.C.one;have n1:¬σ.next+1=h.next:=by omega
  have z3:ofAVs (zeros [.nils,.nils,.nils] 1)=[.fz true .nils 0 [],.fz true .nils 0 [],.fz true .nils 0 []]:=rfl;simp only [pwA,seval,-iQ0,p1,p2,p3,rG,n1,o1,z3];obtain⟨rfl,rfl⟩:=hnl hic;have hLnil:L=[]:=List.eq_nil_of_length_eq_zero (by omega)
  subst hLnil;have hk2:Keep σ ((h.new [wO,wP,wC])):=kk.new _;refine PAcc.pushS (σb:=σ) (bytes:=72) hk2 ((aG.keep (zD _ _)).low (by omega)) rfl (by omega) (by omega) fun v' g' k' a' q1 q2 q3=>?_
  have q3':h.next+1<g'.next:=q3;have hne:∀t,t<h.next→(∀off l c,vG≠.sl t off l c)→g'.obj t=h.obj t:=fun t ht hv=>by rw [q1 t (Nat.lt_succ_of_lt ht) hv,zT,if_neg (by omega)]
  have g0:g'.obj σ.next=some nilC:=by rw [hne _ (by omega) fun off l c=>aG.ne' (by omega) off l c];exact ob0
  have g2:g'.obj (σ.next+1)=some [.int .i64 k0,vG,.fz true .nils 0 []]:=by rw [hne _ (by omega) fun off l c=>aG.ne' (by omega) off l c];exact ob1
  have o3:=a'.one;have w0:g'.wr (σ.next+1) 1 [v']=some (g'.set (σ.next+1) [.int .i64 k0,v',.fz true .nils 0 []]):=by rw [Qo g2 (by simp) o3];rfl
  have aV:PAcc (σ.next+2) 3 g' v' (G.length+1) (fl3 rows++[wO,wP,wC]):=(a'.high fun t ht off l c=>q2 t (by show t<h.next+1;omega) off l c).acc
  have o3c:=a'.cells;simp only [pwA,seval,-iQ0,o3,o3c,w0,wi];have hG1:(G++[(O,P,C)]).length=G.length+1:=by simp
  refine⟨_,by omega,i+1,v',.fz true .nils 0 [],rows++[(wO,wP,wC)],G++[(O,P,C)],[],[],by omega,by omega,rfl,rfl,k'.set (by omega) _,by show _<g'.next;omega,by first | exact g0 | (rw [zg,if_neg (by omega)];exact g0),by first | rfl | rw [zg,if_pos rfl],?_,hrG.snoc hR,PAcc.nil _ _ _,hrL,(fun t off l c e off' l' c' e'=>by cases e'),fun _=>⟨rfl,rfl⟩,?_,by omega,by simp;omega,?_,fun g hg=>by cases hg⟩
  ·rw [hG1,zBe]
   exact aV.set (by omega) _
  ·have e:i+1-1=(i-1)+1:=by omega
   rw [List.map_append,List.map_nil,List.append_nil,List.map_singleton,e,Zn (by simp;omega)]
   rw [List.map_nil,List.append_nil]at hln
   rw [hln]
   congr 2
   have hpt':prG (O,P,C)=l[i]:=hpt;rw [hpt',List.getElem_drop]
   congr 1
   omega
  ·intro g hg
   rcases List.mem_append.1 hg with hg|hg
   ·exact hG g hg
   ·rw [List.mem_singleton.1 hg];exact hp
 ·have hLc:c≤i-1:=by omega
  simp only [pwA,seval,-iQ0,hil,hil',gi];refine zKa hqi (fun eN v x hv=>?_) fun v x eV hv hxl=>?_
  ·have hv1:=hv.one
   obtain⟨f1,f2,f3⟩:=fail (fun k G' L' hc' e=>by
    have h2:=hC k G' L' hc' e;have h3:=lnc k G' L' hc' e;have hb:i-1-c<L'.length:=by omega
    have ei:i=G'.length+(i-1-c)+1:=by omega
    have q:l[i]? = some (liL L'[i-1-c]):=by rw [h2];exact(congrArg (fun j=>(lnT k G' L'++[[]])[j]?) ei).trans (lnT_L hb)
    rw [List.getElem?_eq_getElem hil]at q
    have q':=Option.some.inj q;rw [q',zEY (hc'.2.2.2 _ (List.getElem_mem hb)).2]at eN
    cases eN) kk (by omega) ob0
   simp only [pwA,seval,-iQ0,hv1,f1,f2];exact f3
  have hv1:=hv.one;have hvc:=hv.cells;have vc1:v.cells.length=1∧v.cells.all PV.one=true:=by rw [hvc];exact⟨rfl,by simp [hv1]⟩
  simp only [pwA,seval,-iQ0,hv1,rL',vc1,hvc];refine PAcc.pushS (σb:=σ) (bytes:=24) kk (aL.low (by omega)) rfl (by omega) (by omega) fun v' g' k' a' q1 q2 q3=>?_
  have g0:g'.obj σ.next=some nilC:=by rw [q1 _ (by omega) fun off l c=>aL.ne' (by omega) off l c];exact ob0
  have g2:g'.obj (σ.next+1)=some [.int .i64 k0,vG,vL]:=by rw [q1 _ (by omega) fun off l c=>aL.ne' (by omega) off l c];exact ob1
  have o3:=a'.one;have o3c:=a'.cells;have w0:g'.wr (σ.next+1) 2 [v']=some (g'.set (σ.next+1) [.int .i64 k0,vG,v']):=by rw [Qo g2 (by simp) o3];rfl
  have aV:PAcc (σ.next+2) 1 g' v' (L.length+1) (rL++[v]):=(a'.high fun t ht off l c=>q2 t (by omega) off l c).acc
  have aG2:PAcc (σ.next+2) 3 g' vG G.length (fl3 rows):=by
   rcases aG with ⟨e1,e2,e3⟩|⟨t,cap,e1,b1,b2,b3,b4,b5⟩
   ·exact .inl ⟨e1,e2,e3⟩
   ·exact .inr ⟨t,cap,e1,b1,by rw [q1 t b5 (sep _ _ _ _ e1)];exact b2,b3,b4,by omega⟩
  have sep':∀t off l c,vG=.sl t off l c→∀off l c,v'≠.sl t off l c:=fun t off l c e=>by
   rcases aG with ⟨e1,_⟩|⟨t',cap,e1,_,_,_,_,b5⟩
   ·rw [e1]at e;cases e
   ·rw [e1]at e;cases e;exact q2 _ b5
  simp only [pwA,seval,-iQ0,o3,o3c,w0,wi];have hL1:(L++[x]).length=L.length+1:=by simp
  obtain⟨hsd,hbd⟩:=zKX eV;refine⟨_,by omega,i+1,vG,v',rows,G,rL++[v],L++[x],by omega,by omega,rfl,rfl,k'.set (by omega) _,by show _<g'.next;omega,by first | exact g0 | (rw [zg,if_neg (by omega)];exact g0),by first | rfl | rw [zg,if_pos rfl],aG2.set (by omega) _,hrG,by rw [hL1];exact aV.set (by omega) _,hrL.snoc hv,sep',(fun h=>by omega),?_,by omega,by rw [hL1];omega,hG,?_⟩
  ·have e:i+1-1=(i-1)+1:=by omega
   rw [List.map_append,List.map_singleton,e,Zn (by simp;omega),←List.append_assoc,hln,←hsd,List.getElem_drop]
   congr 2
   congr 1
   omega
  ·intro y hy
   rcases List.mem_append.1 hy with hy|hy
   ·exact hL y hy
   ·rw [List.mem_singleton.1 hy];exact⟨by omega,hbd⟩
end Go.Proofs
namespace Go.Grp
end Go.Grp
namespace Go.Proofs
open Go.Ab Go.Lie Go.Grp
variable {σ h h' g:PHeap} {K:PV→PHeap→Prop} {b b' n:Nat} {k kd:Int} {v vG vL wG:PV} {x:List Int} {G:List Pre} {Ls:List (List Int)} {L:Nat→Nat} {rows:List Tri}
def gN (k:Int):Nat:=if k=5 then 3 else if k=4 then 2 else 1
theorem gN_bd (k:Int):1≤gN k∧gN k≤3:=by
 unfold gN
 split
 ·omega
 ·split<;>omega
theorem zHt (h:need k=(n:Int)):gN k=n:=by
 unfold need at h
 unfold gN
 by_cases h5:k=5
 ·rw [if_pos h5]at h ⊢;omega
 by_cases h4:k=4
 ·rw [if_neg h5,if_pos h4]at h ⊢;omega
 rw [if_neg h5,if_neg h4]at h ⊢
 split at h<;>omega
theorem zAd (hk:K (.int .i64 (gN k)) σ):zA Tryz.prog 71 [.int .i64 k] σ K:=by
 unfold gN at hk
 refine zS mix Tryz.func71 ?_
 by_cases h5:k=5
 ·subst h5;simp only [pwA,seval,-iQ0];exact hk
 by_cases h4:k=4
 ·subst h4;simp only [pwA,seval,-iQ0];exact hk
 rw [if_neg h5,if_neg h4]at hk
 simp only [pwA,seval,-iQ0,h4,h5];exact hk
theorem zMa (L:Nat→Nat) (a:PAcc b' 1 g v x.length (pis x)) (hb:b≤b'):∃L':Nat→Nat,(∀t,t<b'→L' t=L t)∧RowN L' g b 8 x v:=by
 rcases a with ⟨rfl,h0,_⟩|⟨s,cap,rfl,h1,h2,h3,h4,h5⟩
 ·exact⟨L,fun _ _=>rfl,.inl ⟨List.eq_nil_of_length_eq_zero h0,rfl⟩⟩
 ·exact⟨mkM L s 8,fun t ht=>if_neg (by omega),.inr ⟨s,cap,rfl,h1,h2,by omega,h5,Zt⟩⟩
theorem zAs {α β:Type} {f:α→β} {xs:List α} (hn:xs.Nodup) (hi:∀a c,f a=f c→a=c):(xs.map f).Nodup:=by
 induction xs with
 | nil=>exact List.nodup_nil
 | cons y ys ih=>
  rw [List.nodup_cons]at hn
  rw [List.map_cons,List.nodup_cons];refine⟨fun hm=>?_,ih hn.2⟩
  obtain⟨z,hz,e⟩:=List.mem_map.1 hm;exact hn.1 (hi _ _ e ▸ hz)
mutual
theorem zFR (hb:b'≤b):∀{t:TR},t.ok h b→t.okF h b'
 | .leaf v,a=>by cases v<;>first | trivial | cases a
 | .nil,_=>trivial
 | .lst s cap kids,a=>⟨⟨a.1.1,a.1.2.1,Nat.le_trans hb a.1.2.2.1,a.1.2.2.2⟩,zCS hb a.2⟩
 | .cut s off l cap kids,a=>a.elim
 | .agg kids,a=>zCS (ts:=kids) hb a
 | .tup kids,a=>zCS (ts:=kids) hb a
theorem zCS (hb:b'≤b):∀{ts:List TR},TR.oks h b ts→TR.okFs h b' ts
 | [],_=>trivial
 | t::ts,a=>⟨zFR hb a.1,zCS hb a.2⟩
end
theorem MYN.sbN (a:MYN L h b Ls v) {s:Nat} (hs:s<b) (o:Nat) (cs:List PV):sb s o cs v=v:=by
 rcases a with ⟨_,rfl⟩|⟨t,cap,ds,rfl,_,_,h4,_⟩
 ·rfl
 ·simp only [sb]
  rw [if_neg fun q=>by omega]
theorem zKk (kk:Keep σ g) (aG:PAcc σ.next 3 g vG G.length (fl3 rows)) (hG:All2 FI3 rows G) (ho:Owns σ.top g.top (fl3 rows)) (hb:∀t off l c,vG=.sl t off l c→t<b) (hb2:σ.next≤b) (aL:MYN L g b Ls vL)
  (k:∀wG wL T,FG wG G→FII wL Ls→Owns σ.top T [wG,wL]→σ.top≤T→K (.tup [.agg [.int .i64 kd,wG,wL],.bool true]) (σ.up T)):Gh σ K (.tup [.agg [.int .i64 kd,vG,vL],.bool true]) g:=by
 have key:∀{g:PHeap} {wG:PV},Keep σ g→FG wG G→Bel 0 wG→Own σ.top g.top wG→MYN L g b Ls vL→Gh σ K (.tup [.agg [.int .i64 kd,wG,vL],.bool true]) g:=fun {g wG} kk hG hb0 ho aL=>by
  obtain⟨t,h1,rfl,h3,h4⟩:=aL.treeN;have et:(TR.tup [TR.agg [.leaf (.int .i64 kd),.leaf wG,t],.leaf (.bool true)]).pv=.tup [.agg [.int .i64 kd,wG,t.pv],.bool true]:=by simp only [TR.pv,TR.pvs]
  rw [←et];obtain⟨l1,l2⟩:=TR.lab_ok h1;have el:(TR.tup [TR.agg [.leaf (.int .i64 kd),.leaf wG,t],.leaf (.bool true)]).lab=(ead wG).map .inr++t.slots.map .inl:=by
   simp only [TR.lab,TR.labs,ead,List.map_nil,List.nil_append,List.append_nil,l1]
  refine Gh.treeFO kk (t:=TR.tup [TR.agg [.leaf (.int .i64 kd),.leaf wG,t],.leaf (.bool true)]) ⟨⟨trivial,hb0,zFR hb2 h1,trivial⟩,trivial,trivial⟩ ⟨⟨trivial,ho.wh,l2,trivial⟩,trivial,trivial⟩ ?_ (fun o hm=>?_) fun aa T hO hT=>?_
  ·rw [el,List.nodup_append]
   refine⟨zAs ho.nd fun _ _ e=>Sum.inr.inj e,zAs h4 fun _ _ e=>Sum.inl.inj e,fun x hx y hy e=>?_⟩
   obtain⟨a,_,rfl⟩:=List.mem_map.1 hx;obtain⟨c,_,rfl⟩:=List.mem_map.1 hy;cases e
  ·rw [el,List.mem_append]at hm
   rcases hm with hm|hm
   ·obtain⟨a,ha,e⟩:=List.mem_map.1 hm
    cases e;exact ho.lt _ ha
   ·obtain⟨a,_,e⟩:=List.mem_map.1 hm
    cases e
  ·simp only [TR.fz,TR.fzs]at hO ⊢
   refine k _ _ T hG (h3 aa) ⟨⟨hO.wh.1.2.1,hO.wh.1.2.2.1,trivial⟩,?_,fun o q=>hO.lt o ?_⟩ hT
   ·have:=hO.nd
    simp only [ead,eads,List.append_nil,List.nil_append]at this ⊢
    exact this
   ·simp only [ead,eads,List.append_nil,List.nil_append]at q ⊢
    exact q
 rcases aG with ⟨rfl,h0,e0⟩|⟨s,cap,rfl,hc,q2,q3,q4,q5⟩
 ·have e1:G=[]:=List.eq_nil_of_length_eq_zero h0
  subst e1;refine key kk ⟨true,.nils,[],rfl,All2.nil _⟩ trivial (Own.empty _ _ _ _ _) aL
 ·have hs:=hb s _ _ _ rfl
  refine Gh.freeze (s:=s) (cs:=fl3 rows) q2 q4 (zCb hG) fun o o1 o2 _=>?_
  simp only [sb,sbs,aL.sbN hs];rw [if_pos ⟨trivial,trivial,hc.ok⟩];exact key ((kk.kill q4).up (by simp only [PHeap.kill];omega)) ⟨true,_,rows,rfl,hG⟩ trivial ((ho.mono (Nat.le_refl _) (Nat.le_max_left _ _)).fz o1 (by show o<max g.top (o+1);omega) fun hm=>o2 (ZT hm)) ((aL.kill hs).up _)
end Go.Proofs
namespace Go.Grp
end Go.Grp
set_option linter.unusedSimpArgs false
set_option linter.unusedVariables false
set_option linter.unusedSectionVars false
namespace Go.Proofs
open Go.Ab Go.Lie Go.Grp
variable {σ h h' g:PHeap} {K:PV→PHeap→Prop} {b b' n:Nat} {v vG vL wG:PV} {s:List UInt8}
set_option maxHeartbeats 3200000 in
theorem zBy (hs:s.length≤1048576) (hk0:(∀k G L,qR k G L→certT k G L≠s)→K (.tup [.agg nilC,.bool false]) σ)
  (hk1:∀k G L wG wL T,qR k G L→certT k G L=s→FG wG G→FII wL L→Owns σ.top T [wG,wL]→σ.top≤T→K (.tup [.agg [.int .i64 k,wG,wL],.bool true]) (σ.up T)):zA Tryz.prog 46 [.str s] σ K:=by
 have fail:(∀k G L,qR k G L→certT k G L≠s)→∀{h:PHeap},Keep σ h→h.obj σ.next=some nilC→
   h.wr σ.next 0 nilC=some (h.set σ.next nilC)∧(h.set σ.next nilC).rd σ.next 0 3=some nilC∧Gh σ K (.tup [.agg nilC,.bool false]) (h.set σ.next nilC):=fun e {h} kh ho=>
  ⟨by rw [qg ho,if_pos ⟨by simp,rfl⟩];rfl,by rw [ZG,if_pos rfl];rfl,Gh.fin0 (kh.set (Nat.le_refl _) _) ⟨⟨trivial,trivial,trivial,trivial⟩,trivial,trivial⟩ (hk0 e)⟩
 refine zA.gh ?_;refine zt mix Tryz.func46 cf46 rfl ?_;dsimp only [if46,qI,eI,mI0,kI0,tI0,lI0,LI0,fI0,xI0,bI0,cI0,nI0,sI0,eI0,C1,I0,G0,gm0,oI0,zI0,yI0,vI0,R0,S0];simp only [pwA,seval,-iQ0];refine zAk (sep:=[10]) hs (by decide) ?_
 have sl:=Qg (s:=s) (sep:=[10]) (by decide)
 have hll:=Qq (s:=s) (sep:=[10]);have hC:∀k G L,qR k G L→certT k G L=s→splL [10] s=lnT k G L++[[]]:=fun k G L hc e=>by rw [←e];exact zKx hc
 have sl1:1≤(splL [10] s).length:=by rw [sl.1];omega
 have sl2:=sl.2;clear sl;generalize splL [10] s=l at *
 have z0:(0:Int)<(l.length:Int):=by omega
 have z0':0<l.length:=by omega
 have hq0:l[0].length≤1048576:=by have:=hll _ (List.getElem_mem z0');omega
 have e0:∀k G L,qR k G L→certT k G L=s→Lib.parseIntB 64 l[0]=.ok k:=fun k G L hc e=>by
  have h2:=hC k G L hc e
  have:l[0]=Lib.itoa k:=by
   have q:l[0]? = some (Lib.itoa k):=by rw [h2];rfl
   rw [List.getElem?_eq_getElem z0']at q
   exact Option.some.inj q
  have b:=zAc hc.1;rw [this,zBG (by omega) (by omega)]
 have hpo:((σ.new nilC).new (pst l)).obj (σ.next+1)=some (pst l):=by simp only [pwA,seval,-iQ0]
 have hr0:((σ.new nilC).new (pst l)).obj σ.next=some nilC:=by simp only [pwA,seval,-iQ0]
 have kk:Keep σ ((σ.new nilC).new (pst l)):=(zD _ _).new _;have hln:((σ.new nilC).new (pst l)).next=σ.next+2:=rfl;have hrd:((σ.new nilC).new (pst l)).rd1 (σ.next+1) 0=some (.str l[0]):=by rw [qF hpo];exact qw z0'
 rw [show(σ.new nilC).next=σ.next+1 from rfl]
 generalize (σ.new nilC).new (pst l)=h at *
 simp only [pwA,seval,-iQ0,z0,z0',hrd];refine zA8 hq0 (fun hp n=>?_) fun k0 hp=>?_
 ·have eNc:∀k G L,qR k G L→certT k G L≠s:=fun k G L hc e=>hp k (e0 k G L hc e)
  obtain⟨f1,f2,_⟩:=fail eNc kk hr0;have n0:¬σ.next=h.next:=by omega
  simp only [pwA,seval,-iQ0,n0,f1,f2];exact Gh.fin0 ((kk.set (Nat.le_refl _) _).new _) ⟨⟨trivial,trivial,trivial,trivial⟩,trivial,trivial⟩ (hk0 eNc)
 have hkk:∀k G L,qR k G L→certT k G L=s→k=k0:=fun k G L hc e=>by
  have q:=e0 k G L hc e;rw [hp]at q
  cases q;rfl
 have hcb:=gN_bd k0;have lnc:∀k G L,qR k G L→certT k G L=s→G.length=gN k0∧l.length=gN k0+L.length+2:=fun k G L hc e=>by
  have ek:=hkk k G L hc e;subst ek
  have:=zHt hc.1
  rw [this];exact⟨rfl,by rw [hC k G L hc e,zHx]⟩
 simp only [pwA,seval,-iQ0];refine zAd ?_;obtain⟨c,hcd⟩:∃c,gN k0=c:=⟨_,rfl⟩
 rw [hcd]at hcb lnc ⊢
 have ob0:(h.new [.int .i64 k0,.fz true .nils 0 [],.fz true .nils 0 []]).obj σ.next=some nilC:=by rw [zT,if_neg (by omega)];exact hr0
 have ob1:(h.new [.int .i64 k0,.fz true .nils 0 [],.fz true .nils 0 []]).obj (σ.next+1)=some (pst l):=by rw [zT,if_neg (by omega)];exact hpo
 have ob2:(h.new [.int .i64 k0,.fz true .nils 0 [],.fz true .nils 0 []]).obj (σ.next+2)=some [.int .i64 k0,.fz true .nils 0 [],.fz true .nils 0 []]:=by rw [zT,if_pos hln.symm]
 have kH:Keep σ (h.new [.int .i64 k0,.fz true .nils 0 [],.fz true .nils 0 []]):=kk.new _;have hHn:(h.new [.int .i64 k0,.fz true .nils 0 [],.fz true .nils 0 []]).next=σ.next+3:=by show h.next+1=_;omega
 rw [hln];generalize h.new [.int .i64 k0,.fz true .nils 0 [],.fz true .nils 0 []]=H at *
 clear hrd hpo hr0 kk;have wc:IntKind.i64.wrap (2+(c:Int))=((c+2:Nat):Int):=by rw [wrap64 (by omega) (by omega)];omega
 by_cases hlen:l.length<c+2
 ·have hlen':(l.length:Int)<((c+2:Nat):Int):=by omega
  obtain⟨f1,f2,f3⟩:=fail (fun k G L h e=>by have:=lnc k G L h e;omega) kH ob0
  simp only [pwA,seval,-iQ0,wc,hlen',f1,f2];exact f3
 have hlen':¬(l.length:Int)<((c+2:Nat):Int):=by omega
 have wl:IntKind.i64.wrap ((l.length:Int)-1)=((l.length-1:Nat):Int):=by rw [wrap64 (by omega) (by omega)];omega
 have b1:1≤l.length-1:=by omega
 have b1':(1:Int)≤((l.length-1:Nat):Int):=by omega
 have b2:l.length-1≤l.length:=by omega
 have b2':((l.length-1:Nat):Int)≤(l.length:Int):=by omega
 have n1:¬l.length=1:=by omega
 have e2:l.length-1-1=l.length-2:=rfl;simp only [pwA,seval,-iQ0,wc,hlen',wl,b1,b1',b2,b2',n1,e2,Option.isNone_some,Option.isSome_none,Bool.false_eq_true,and_false,false_and,if_false];refine zB (fun m vs g=>∃(i b2:Nat) (Lm:Nat→Nat) (vG vL:PV) (rows:List Tri) (G:List Pre) (L:List (List Int)),i≤l.length-2∧m=l.length-2-i∧vs=[.str s,.ptr σ.next 0,.int .i64 k0,.ptr (σ.next+2) 0,.sl (σ.next+1) 1 (l.length-2) (.known (l.length-1)),.int .i64 (l.length-2:Nat),.int .i64 i]∧
  Keep σ g∧σ.next+3≤g.next∧g.obj σ.next=some nilC∧g.obj (σ.next+1)=some (pst l)∧g.obj (σ.next+2)=some [.int .i64 k0,vG,vL]∧PAcc (σ.next+3) 3 g vG G.length (fl3 rows)∧All2 FI3 rows G∧Owns σ.top g.top (fl3 rows)∧(∀t off l c,vG=.sl t off l c→t<b2)∧σ.next+3≤b2∧b2≤g.next∧MYN Lm g b2 L vL∧(i≤c→vL=.fz true .nils 0 [])∧
  G.length=min i c∧L.length=i-c∧(∀g∈G,zK g.1 g.2.1 g.2.2)∧(∀x∈L,x.length≤1048576)∧(∀k' G' L',qR k' G' L'→certT k' G' L'=s→G=G'.take i∧L=L'.take (i-c))) (l.length-2) ?_ ?_
 ·exact⟨0,σ.next+3,fun _=>0,_,_,[],[],[],Nat.zero_le _,rfl,rfl,kH,by omega,ob0,ob1,ob2,PAcc.nil _ _ _,All2.nil _,Owns.nil _ _,(fun t off l c e=>by cases e),Nat.le_refl _,by omega,MYN.nil,fun _=>rfl,by simp,by simp,(fun g hg=>by cases hg),(fun g hg=>by cases hg),fun _ _ _ _ _=>⟨rfl,by simp⟩⟩
 clear kH ob0 ob1 ob2 hHn
 rintro m vs g ⟨i,b2,Lm,vG,vL,rows,G,L,hi,rfl,rfl,kk,hgn,ob0,ob1,ob2,aG,hrG,hO,hsb,hb3,hbn,aL,hnl,hGl,hLl,hG,hL,hI⟩
 have o1:=aG.one;have o2:=aL.one;have r3:g.rd (σ.next+2) 0 3=some [.int .i64 k0,vG,vL]:=by rw [Z9 ob2];rfl
 have rG:g.rd1 (σ.next+2) 1=some vG:=by rw [qF ob2];rfl
 have rL:g.rd1 (σ.next+2) 2=some vL:=by rw [qF ob2];rfl
 simp only [pwA,seval,-iQ0];refine iteI (fun hlt=>?_) fun hge=>?_
 rotate_left
 ·obtain rfl:i=l.length-2:=by omega
  simp only [pwA,seval,-iQ0];have szG:SzG G:=⟨by omega,fun g hg=>zK.sz (hG g hg)⟩
  have szL:SzL L:=⟨by omega,hL⟩
  have un:∀k' G' L',qR k' G' L'→certT k' G' L'=s→k'=k0∧G'=G∧L'=L:=fun k' G' L' hc e=>by
   obtain⟨e1,e2⟩:=hI k' G' L' hc e;obtain⟨e3,e4⟩:=lnc k' G' L' hc e;rw [List.take_of_length_le (by omega)]at e1 e2
   exact⟨hkk k' G' L' hc e,e1.symm,e2.symm⟩
  obtain⟨tL,t1,t2,t3,t4⟩:=aL.treeN;have lend:∀{f:FuncId} {K':PV→PHeap→Prop},(∀aa,zA Tryz.prog f [.ptr (σ.next+2) 0] (g.bare.set (σ.next+2) [.int .i64 k0,frz aa (fl3 rows) vG,tL.fz aa]) fun v σ'=>σ'=g.bare.set (σ.next+2) [.int .i64 k0,frz aa (fl3 rows) vG,tL.fz aa]∧leafy v∧K' v g)→zA Tryz.prog f [.ptr (σ.next+2) 0] g K':=fun {f K'} cc=>
   zA.thawS (cs2:=fun aa=>[.int .i64 k0,frz aa (fl3 rows) vG,tL.fz aa]) ob2 (fun {ι Z h} r=>by simp only [ers,er,zKi,TR.er_fz ι t1,t2]) (fun {ι Z Z2 h} r hzz hz=>
    ⟨trivial,aG.frz_vok r (zCb hrG) hzz (fun t off l' c' e=>by
     rcases aG with ⟨q0,_⟩|⟨t',cap,q0,_,q2,_,q4,_⟩
     ·rw [q0]at e;cases e
     ·rw [q0]at e;cases e;exact hz _ _ (by omega) q2),TR.vok r t1 (fun t ht=>by
     obtain⟨q1,ds,q2⟩:=TR.slot_objF (zFR (Nat.le_refl _) t1) t ht;exact hz _ _ (by omega) q2),trivial⟩) cc
  have fgz:∀aa,FG (frz aa (fl3 rows) vG) G:=fun aa=>by
   obtain⟨w1,ew1⟩:=aG.frz_eq aa;exact⟨true,w1,rows,ew1,hrG⟩
  refine lend fun aa=>zDL (k:=k0) (by rw [zg,if_pos rfl]) (fgz aa) szG (t3 aa) szL fun t ht=>⟨rfl,trivial,?_⟩
  cases t
  ·obtain⟨f1,f2,f3⟩:=fail (fun k' G' L' hc e=>by
    obtain⟨rfl,rfl,rfl⟩:=un k' G' L' hc e;exact absurd (ht.2 hc) (by decide)) kk ob0
   simp only [pwA,seval,-iQ0,f1,f2];exact f3
  have hcert:=ht.1 rfl;simp only [pwA,seval,-iQ0];refine lend fun aa=>zCI (by rw [zg,if_pos rfl]) (fgz aa) (t3 aa) hcert ⟨rfl,trivial,?_⟩
  by_cases hts:certT k0 G L=s
  rotate_left
  ·obtain⟨f1,f2,f3⟩:=fail (fun k' G' L' hc e=>by
    obtain⟨rfl,rfl,rfl⟩:=un k' G' L' hc e;exact hts e) kk ob0
   have hbe:(certT k0 G L == s)=false:=by simpa using hts
   simp only [pwA,seval,-iQ0,hbe,f1,f2];exact f3
  have hbe:(certT k0 G L == s)=true:=by simpa using hts
  have w0:g.wr σ.next 0 [.int .i64 k0,vG,vL]=some (g.set σ.next [.int .i64 k0,vG,vL]):=by rw [qg ob0,if_pos ⟨by simp,by simp only [List.all_cons,List.all_nil,o1,o2,Bool.and_true];rfl⟩];rfl
  have w1:(g.set σ.next [.int .i64 k0,vG,vL]).rd σ.next 0 3=some [.int .i64 k0,vG,vL]:=by rw [ZG,if_pos rfl];rfl
  simp only [pwA,seval,-iQ0,hbe,r3,o1,o2,w0,w1];exact zKk (kk.set (Nat.le_refl _) _) ((aG.set (by omega) _).low (by omega)) hrG hO hsb (by omega) (aL.set (by omega) _) fun wG wL T q1 q2 q3 q4=>hk1 k0 G L wG wL T hcert hts q1 q2 q3 q4
 have hil:i+1<l.length:=by omega
 have hlt':(i:Int)<((l.length-2:Nat):Int):=by omega
 have rq:g.rd1 (σ.next+1) (1+i)=some (.str l[i+1]):=by rw [qF ob1,Nat.add_comm 1 i];exact qw hil
 have hqi:l[i+1].length≤1048576:=by have:=hll _ (List.getElem_mem hil);omega
 have wi:=wrapS hlt (by omega:l.length-2≤4611686018427387904)
 simp only [pwA,seval,-iQ0,hlt,hlt',rq];refine zAd ?_;rw [hcd]
 by_cases hic:i<c
 ·have hic':(i:Int)<(c:Int):=by omega
  obtain rfl:=hnl (by omega)
  have hLnil:L=[]:=List.eq_nil_of_length_eq_zero (by omega)
  subst hLnil;simp only [pwA,seval,-iQ0,hic,hic'];refine zBv hqi (fun eN=>?_) fun wO wP wC O P C t5 eP hp5 hpt hR ho ht=>?_
  ·have eNc:∀k G L,qR k G L→certT k G L≠s:=fun k' G' L' hc e=>by
    have hb:i<G'.length:=by rw [(lnc k' G' L' hc e).1];exact hic
    have q:l[i+1]? = some (prG G'[i]):=(congrArg (fun t=>t[i+1]?) (hC k' G' L' hc e)).trans (lnT_G hb)
    rw [List.getElem?_eq_getElem hil]at q
    have q':=Option.some.inj q;have hg:=hc.2.2.1 _ (List.getElem_mem hb);exact eN _ _ _ (by rw [q'];exact zHw hg) hg q'.symm
   obtain⟨f1,f2,_⟩:=fail eNc kk ob0;have n0:¬σ.next=g.next:=by omega
   simp only [pwA,seval,-iQ0,n0,f1,f2];exact Gh.fin0 ((kk.set (Nat.le_refl _) _).new _) ⟨⟨trivial,trivial,trivial,trivial⟩,trivial,trivial⟩ (hk0 eNc)
  have p1:=hR.O.one;have p2:=hR.P.one;have p3:=hR.C.one;have n0:¬σ.next+2=g.next:=by omega
  have z3:ofAVs (zeros [.nils,.nils,.nils] 1)=[.fz true .nils 0 [],.fz true .nils 0 [],.fz true .nils 0 []]:=rfl;have rG5:(g.up t5).rd1 (σ.next+2) 1=some vG:=rG;have e5:(g.up t5).next=g.next:=rfl;simp only [pwA,seval,-iQ0,p1,p2,p3,rG,rG5,n0,o1,z3,e5];have hku:=Keep.up (Keep.refl g) ht;have hk2:Keep σ ((g.up t5).new [wO,wP,wC]):=(kk.trans hku).new _;refine zF1 (PAcc.pushS (σb:=σ) (bytes:=72) hk2 ((aG.keep (hku.new _)).low (by omega)) rfl (by omega) (by omega) fun v' g' k' a' q1 q2 q3 htop=>?_)
  have q3':g.next+1<g'.next:=q3;have hne:∀t,t<σ.next+3→g'.obj t=g.obj t:=fun t ht=>by
   rw [q1 t (by show t<g.next+1;omega) fun off l c=>aG.ne' ht off l c,zT,if_neg (by show ¬t=g.next;omega)]
   rfl
  have g0:g'.obj σ.next=some nilC:=by rw [hne _ (by omega)];exact ob0
  have g1:g'.obj (σ.next+1)=some (pst l):=by rw [hne _ (by omega)];exact ob1
  have g2:g'.obj (σ.next+2)=some [.int .i64 k0,vG,.fz true .nils 0 []]:=by rw [hne _ (by omega)];exact ob2
  have o3:=a'.one;have o3c:=a'.cells;have w0:g'.wr (σ.next+2) 1 [v']=some (g'.set (σ.next+2) [.int .i64 k0,v',.fz true .nils 0 []]):=by rw [Qo g2 (by simp) o3];rfl
  have aV:PAcc (σ.next+3) 3 g' v' (G.length+1) (fl3 rows++[wO,wP,wC]):=(a'.high fun t ht off l c=>q2 t (by show t<g.next+1;omega) off l c).acc
  simp only [pwA,seval,-iQ0,o3,o3c,w0,wi];have hG1:(G++[(O,P,C)]).length=G.length+1:=by simp
  have htp:g'.top=t5:=htop;refine⟨_,by omega,i+1,g'.next,Lm,v',.fz true .nils 0 [],rows++[(wO,wP,wC)],G++[(O,P,C)],[],by omega,rfl,rfl,k'.set (by omega) _,by show _≤g'.next;omega,by first | exact g0 | (rw [zg,if_neg (by omega)];exact g0),by first | exact g1 | (rw [zg,if_neg (by omega)];exact g1),by first | rfl | rw [zg,if_pos rfl],?_,hrG.snoc hR,?_,?_,by omega,Nat.le_refl _,MYN.nil,fun _=>rfl,by omega,by simp;omega,?_,(fun g hg=>by cases hg),fun k' G' L' hc e=>⟨?_,?_⟩⟩
  ·rw [hG1,zBe]
   exact aV.set (by omega) _
  ·rw [zBe]
   show Owns σ.top g'.top _;rw [htp];exact Owns.append hO ho kk.top ht
  ·intro t off l' c' e
   obtain⟨t',cap,e',_,_,_,_,hlt⟩:=a';rw [e']at e
   cases e;exact hlt
  ·intro x hx
   rcases List.mem_append.1 hx with hx|hx
   ·exact hG x hx
   ·rw [List.mem_singleton.1 hx];exact hp5
  ·have hb:i<G'.length:=by rw [(lnc k' G' L' hc e).1];exact hic
   have q:l[i+1]? = some (prG G'[i]):=(congrArg (fun t=>t[i+1]?) (hC k' G' L' hc e)).trans (lnT_G hb)
   rw [List.getElem?_eq_getElem hil]at q
   have q':=Option.some.inj q;have hg:=hc.2.2.1 _ (List.getElem_mem hb);have e5:=eP;rw [q']at e5
   have e6:some (O,P,C)=some G'[i]:=e5.symm.trans (zHw hg);rw [Option.some.inj e6,(hI k' G' L' hc e).1];exact(Zn (by omega)).symm
  ·have:i+1-c=0:=by omega
   rw [this];rfl
 have hic':¬(i:Int)<(c:Int):=by omega
 simp only [pwA,seval,-iQ0,hic,hic'];refine zAk (sep:=[32]) hqi (by decide) ?_
 have tl:=Qg (s:=l[i+1]) (sep:=[32]) (by decide)
 have tll:=Qq (s:=l[i+1]) (sep:=[32]);have tl1:1≤(splL [32] l[i+1]).length:=by rw [tl.1];omega
 have tl2:=tl.2;clear tl;have hli:i-c<l.length:=by omega
 have cL:∀k' G' L',qR k' G' L'→certT k' G' L'=s→∃hb:i-c<L'.length,ordI [] ((splL [32] l[i+1]).drop 1)=some L'[i-c]:=fun k' G' L' hc e=>by
  obtain⟨h3,h4⟩:=lnc k' G' L' hc e;have hb:i-c<L'.length:=by omega
  refine⟨hb,?_⟩;have ei:i+1=G'.length+(i-c)+1:=by omega
  have q:l[i+1]? = some (liL L'[i-c]):=by
   rw [ei];exact(congrArg (fun t=>t[G'.length+(i-c)+1]?) (hC k' G' L' hc e)).trans (lnT_L hb)
  rw [List.getElem?_eq_getElem hil]at q
  rw [Option.some.inj q,zL8];exact zEk _ [] (hc.2.2.2 _ (List.getElem_mem hb)).2
 generalize splL [32] l[i+1]=ws at *
 have hw2:(g.new (pst ws)).obj g.next=some (pst ws):=by rw [zT,if_pos rfl]
 have kg2:Keep g (g.new (pst ws)):=zD _ _;have hn2:(g.new (pst ws)).next=g.next+1:=rfl;have hgl:g.next<(g.new (pst ws)).next:=Nat.lt_succ_self _;generalize g.new (pst ws)=h0 at *
 have w1:1≤ws.length:=tl1;have w1':(1:Int)≤(ws.length:Int):=by omega
 obtain⟨of,hof⟩:∃of,of=if ws.length=1 then 0 else 1:=⟨_,rfl⟩
 have hof1:1<ws.length→of=1:=fun h=>by rw [hof,if_neg (by omega)]
 simp only [pwA,seval,-iQ0,w1,w1',←hof,Option.isNone_none,Option.isSome_none,Bool.false_eq_true,and_false,if_false];clear hof;refine zB (fun m vs h'=>∃(j:Nat) (v:PV) (x:List Int),j≤ws.length-1∧m=ws.length-1-j∧vs=[.str s,.ptr σ.next 0,.int .i64 k0,.ptr (σ.next+2) 0,v,.sl (σ.next+1) 1 (l.length-2) (.known (l.length-1)),.int .i64 (l.length-2:Nat),.int .i64 i,.sl g.next of (ws.length-1) (.known (ws.length-1)),.int .i64 (ws.length-1:Nat),.int .i64 j]∧
  x.length=j∧Keep h0 h'∧PAcc h0.next 1 h' v x.length (pis x)∧ordI x (ws.drop (j+1))=ordI [] (ws.drop 1)) (ws.length-1) ?_ ?_
 ·exact⟨0,_,[],Nat.zero_le _,rfl,rfl,rfl,Keep.refl _,PAcc.nil _ _ _,rfl⟩
 rintro m vs h2 ⟨j,v,x,hj,rfl,rfl,hxl,kg,hv,eL⟩
 have kg3:Keep g h2:=kg2.trans kg;have kσ:Keep σ h2:=kk.trans kg3;have p0:h2.obj σ.next=some nilC:=by rw [kg3.obj _ (by omega)];exact ob0
 have hone:=hv.one;simp only [pwA,seval,-iQ0,hone];refine iteI (fun hjl=>?_) fun hjg=>?_
 ·have hjl':(j:Int)<((ws.length-1:Nat):Int):=by omega
  have hjw:j+1<ws.length:=by omega
  have rw':h2.rd1 g.next (of+j)=some (.str ws[j+1]):=by rw [qF (by rw [kg.obj _ hgl];exact hw2),hof1 (by omega),Nat.add_comm 1 j];exact qw hjw
  have hqj:=tll _ (List.getElem_mem hjw);have wj:=wrapS hjl (by omega:ws.length-1≤4611686018427387904)
  rw [drop_at hjw,ordI]at eL
  simp only [pwA,seval,-iQ0,hjl,hjl',rw',hone];refine zA8 (by omega) (fun hp2 n=>?_) fun n hp2=>?_
  ·have eNc:∀k G L,qR k G L→certT k G L≠s:=fun k' G' L' hc e=>by
    obtain⟨hb,e3⟩:=cL k' G' L' hc e;rw [←eL]at e3
    cases hq:Lib.parseIntB 64 ws[j+1]with
    | ok v=>exact hp2 v hq
    | «syntax»=>rw [hq]at e3;cases e3
    | range=>rw [hq]at e3;cases e3
   obtain⟨f1,f2,f3⟩:=fail eNc kσ p0;simp only [pwA,seval,-iQ0,f1,f2];exact f3
  rw [hp2]at eL
  simp only [pwA,seval,-iQ0,hone];refine PAcc.push (bytes:=8) kg hv (by omega) (by omega) fun v' g' k' a'=>?_
  have h1':=a'.one;simp only [pwA,seval,-iQ0,h1',wj];have e:pis (x++[n])=pis x++[.int .i64 n]:=by simp [pis]
  exact⟨_,by omega,j+1,v',x++[n],by omega,rfl,rfl,by rw [List.length_append,hxl];rfl,k',by rw [e,List.length_append];exact .inr a',eL⟩
 rw [List.drop_of_length_le (by omega),ordI]at eL
 have hvc:=hv.cells;obtain⟨L2,hL2,rn⟩:=zMa Lm hv (show b2≤h0.next by omega)
 have aL2:MYN L2 h2 b2 L vL:=aL.keepL kg3.next (fun t _ ht=>kg3.obj t ht) fun t ht=>hL2 t (by omega)
 have rL2:h2.rd1 (σ.next+2) 2=some vL:=by rw [qF (by rw [kg3.obj _ (by omega)];exact ob2)];rfl
 have vc1:v.cells.length=1∧v.cells.all PV.one=true:=by rw [hvc];exact⟨rfl,by simp [hone]⟩
 have hng:=kg3.next;simp only [pwA,seval,-iQ0,hone,rL2,vc1,hvc,o2];refine zF1 (MYN.push (σ:=σ) aL2 rn kσ (by omega) (by omega) (by omega) fun v' h3 L3 k3 a3 nx low htop=>?_)
 have htp:h3.top=h2.top:=htop;have low0:∀t,t<b2→h3.obj t=g.obj t:=fun t ht=>by rw [low t ht,kg3.obj _ (by omega)]
 have g0:h3.obj σ.next=some nilC:=by rw [low0 _ (by omega)];exact ob0
 have g1:h3.obj (σ.next+1)=some (pst l):=by rw [low0 _ (by omega)];exact ob1
 have g2:h3.obj (σ.next+2)=some [.int .i64 k0,vG,vL]:=by rw [low0 _ (by omega)];exact ob2
 have o3:=a3.one;have o3c:=a3.cells;have w0:h3.wr (σ.next+2) 2 [v']=some (h3.set (σ.next+2) [.int .i64 k0,vG,v']):=by rw [Qo g2 (by simp) o3];rfl
 have aG2:PAcc (σ.next+3) 3 h3 vG G.length (fl3 rows):=by
  rcases aG with ⟨e1,e2,e3⟩|⟨t,cap,e1,b1,b2,b3,b4,b5⟩
  ·exact .inl ⟨e1,e2,e3⟩
  ·exact .inr ⟨t,cap,e1,b1,by rw [low0 t (hsb _ _ _ _ e1)];exact b2,b3,b4,by omega⟩
 simp only [pwA,seval,-iQ0,o3,o3c,w0,wi];have hL1:(L++[x]).length=L.length+1:=by simp
 refine⟨_,by omega,i+1,b2,L3,vG,v',rows,G,L++[x],by omega,rfl,rfl,k3.set (by omega) _,by show _≤h3.next;omega,by first | exact g0 | (rw [zg,if_neg (by omega)];exact g0),by first | exact g1 | (rw [zg,if_neg (by omega)];exact g1),by first | rfl | rw [zg,if_pos rfl],aG2.set (by omega) _,hrG,hO.mono (Nat.le_refl _) (by show g.top≤h3.top;have:=kg3.top;omega),hsb,hb3,by show b2≤h3.next;omega,a3.set (by omega) _,(fun h=>by omega),by omega,by rw [hL1];omega,hG,fun y hy=>?_,fun k' G' L' hc e=>⟨?_,?_⟩⟩
 ·rcases List.mem_append.1 hy with hy | hy
  ·exact hL y hy
  ·rw [List.mem_singleton.1 hy];omega
 ·have hb:=(lnc k' G' L' hc e).1
  rw [(hI k' G' L' hc e).1,List.take_of_length_le (by omega),List.take_of_length_le (by omega)]
 ·obtain⟨hb,e3⟩:=cL k' G' L' hc e
  rw [←eL]at e3
  rw [Option.some.inj e3,(hI k' G' L' hc e).2,show i+1-c=(i-c)+1 by omega]
  exact(Zn hb).symm
end Go.Proofs
namespace Go.Grp
end Go.Grp
set_option linter.unusedSimpArgs false
set_option linter.unusedVariables false
namespace Go.Proofs
open Go.Ab Go.Lie Go.Grp
variable {σ:PHeap} {K:PV→PHeap→Prop} {G:List Pre} {L:List (List Int)} {vG vL:PV} {lo hi:Nat} {kk:Int} {rows:List Tri} {w:Bool} {a:AV}
theorem zEn {k:Int} (eG:vG=.fz w a G.length (fl3 rows)) (hr:All2 FI3 rows G) (hL:FII vL L) (hW:Wh (.agg [.int .i64 kk,vG,vL])):∀o∈(mkCs k rows vL G L).map Prod.fst,o∈ead (.agg [.int .i64 kk,vG,vL]):=by
 obtain⟨_,wG,wL,_⟩:=hW;intro o ho;unfold mkCs at ho
 rw [List.map_append,List.mem_append]at ho
 simp only [ead,eads,List.nil_append,List.append_nil,List.mem_append];exact ho.imp (kGs eG hr wG o) (mkT_I.F.keys hL wL o)
theorem zOt {k:Int} (eG:vG=.fz w a G.length (fl3 rows)) (hr:All2 FI3 rows G) (hL:FII vL L) (ho:Own lo hi (.agg [.int .i64 kk,vG,vL])):∀o∈(mkCs k rows vL G L).map Prod.fst,lo≤o∧o<hi:=fun o hm=>ho.lt o (zEn (kk:=kk) eG hr hL ho.wh o hm)
theorem zB4 {k:Int} (eG:vG=.fz w a G.length (fl3 rows)) (hr:All2 FI3 rows G) (hL:FII vL L) (ho:Own lo hi (.agg [.int .i64 kk,vG,vL])) (szG:SzG G) (szL:SzL L) (hk0:0≤k) (hk1:k+totCs G L≤4611686018427387904):
  zBN Tryz.prog 12 [.agg [.int .i64 kk,vG,vL],.int .i64 k] σ (mkCs k rows vL G L) .i64 (k+totCs G L):=
 zBN.of ⟨trivial,by rw [eG];trivial,hL.bel 0,trivial⟩ (zEn eG hr hL ho.wh) fun h hw hv=>zCe eG hr hL ho.wh ho.nd hw hv szG szL hk0 hk1 fun h' u=>⟨rfl,u⟩
def HP (k:Int) (q:Tri) (g:Pre):Prop:=FI q.1 (sqI k g.1)∧FII q.2.1 (sqL sqI List.length (k+g.1.length) g.2.1)∧FIII q.2.2 (sqL (sqL sqI List.length) (totL List.length) (k+g.1.length+totL List.length g.2.1) g.2.2)
def HPs:Int→List Tri→List Pre→Prop
 | _,[],[]=>True
 | k,q::rows,g::G=>HP k q g∧HPs (k+totP g.1 g.2.1 g.2.2) rows G
 | _,_,_=>False
def HGs (v:PV) (G:List Pre) (k:Int):Prop:=∃w a rows,v=.fz w a G.length (fl3 rows)∧HPs k rows G
theorem HGs.one {v:PV} {k:Int} (h:HGs v G k):v.one=true:=by obtain⟨w,a,r,rfl,_⟩:=h;rfl
theorem HPs.at:∀{rows:List Tri} {G:List Pre} {k:Int},HPs k rows G→rows.length=G.length∧∀i (hi:i<rows.length) (hg:i<G.length),HP (k+totGs (G.take i)) rows[i] G[i]
 | [],[],k,_=>⟨rfl,fun i hi=>absurd hi (Nat.not_lt_zero _)⟩
 | q::rows,[],k,h=>h.elim
 | [],g::G,k,h=>h.elim
 | q::rows,g::G,k,h=>by
  obtain⟨e,f⟩:=HPs.at h.2;refine⟨by simp [e],fun i hi hg=>?_⟩
  cases i with
  | zero=>simpa [totGs]using h.1
  | succ i=>
   have:=f i (by simpa using hi) (by simpa using hg)
   simp only [List.take_succ_cons,totGs,List.getElem_cons_succ];rw [show k+((totP g.1 g.2.1 g.2.2+totGs (G.take i):Nat):Int)=k+(totP g.1 g.2.1 g.2.2:Int)+(totGs (G.take i):Int) by omega]
   exact this
theorem zGQ:∀{rows:List Tri} {i:Nat} (hi:i<rows.length),(fl3 rows).drop (i*3)=rows[i].1::rows[i].2.1::rows[i].2.2::fl3 (rows.drop (i+1))
 | q::r,0,_=>rfl
 | q::r,i+1,hi=>by
  rw [show(i+1)*3=i*3+1+1+1 by omega]
  simp only [fl3,List.drop_succ_cons,List.getElem_cons_succ];exact zGQ (rows:=r) (by simpa using hi)
theorem zHj (M:List (Nat×List PV)):∀rows:List Tri,rms M (fl3 rows)=fl3 (rows.map fun q=>(Go.Ab.rm M q.1,Go.Ab.rm M q.2.1,Go.Ab.rm M q.2.2))
 | []=>rfl
 | q::rows=>by simp only [fl3,rms,List.map_cons,zHj M rows]
theorem zJi:∀{rows:List Tri} {G:List Pre} {k:Int} (M:List (Nat×List PV)),All2 FI3 rows G→Whs (fl3 rows)→(eads (fl3 rows)).Nodup→(∀o∈eads (fl3 rows),M.lookup o=(mkGs k rows G).lookup o)→HPs k (rows.map fun q=>(Go.Ab.rm M q.1,Go.Ab.rm M q.2.1,Go.Ab.rm M q.2.2)) G
 | [],[],k,M,_,_,_,_=>trivial
 | [],g::G,k,M,h,_,_,_=>by have:=h.1;simp at this
 | q::rows,[],k,M,h,_,_,_=>by have:=h.1;simp at this
 | q::rows,g::G,k,M,h,hW,hnd,hM=>by
  obtain⟨h1,h2⟩:=zEz h;have wq:Whs [q.1,q.2.1,q.2.2]:=⟨hW.1,hW.2.1,hW.2.2.1,trivial⟩;have kq:=zB2 (k:=k) h1 wq;have kG:=Qt rows G (k+totP g.1 g.2.1 g.2.2) h2 hW.2.2.2;rw [zGR,qX]at hnd hM
  obtain⟨n1,n2,dd⟩:=List.nodup_append.1 hnd;have r7:=rmP7 (lo:=0) (hi:=(eads [q.1,q.2.1,q.2.2]).foldr max 0+1) (k:=k) h1 ⟨wq,n1,fun x hx=>⟨Nat.zero_le _,Nat.lt_succ_of_le (zGA hx)⟩⟩
  have ec:∀{v:PV},(∀x∈ead v,x∈eads [q.1,q.2.1,q.2.2])→Go.Ab.rm M v=Go.Ab.rm (mkPr k q.1 q.2.1 q.2.2 g.1 g.2.1 g.2.2) v:=fun {v} hin=>Zo fun o hm=>by
   rw [hM o (List.mem_append.2 (.inl (hin o hm))),mkGs,QS fun hx=>dd o (hin o hm) o (kG o hx) rfl]
  refine⟨?_,zJi M h2 hW.2.2.2 n2 fun o ho=>?_⟩
  ·show FI (Go.Ab.rm M q.1) _∧FII (Go.Ab.rm M q.2.1) _∧FIII (Go.Ab.rm M q.2.2) _
   rw [ec fun x hx=>by rw [eads3];exact List.mem_append.2 (.inl hx),ec fun x hx=>by rw [eads3];exact List.mem_append.2 (.inr (List.mem_append.2 (.inl hx))),ec fun x hx=>by rw [eads3];exact List.mem_append.2 (.inr (List.mem_append.2 (.inr hx)))]
   exact r7
  ·rw [hM o (List.mem_append.2 (.inr ho)),mkGs,Zg fun hx=>dd o (kq o hx) o ho rfl]
theorem rmCs {k:Int} (eG:vG=.fz w a G.length (fl3 rows)) (hr:All2 FI3 rows G) (hL:FII vL L) (ho:Own lo hi (.agg [.int .i64 kk,vG,vL])):
  HGs (Go.Ab.rm (mkCs k rows vL G L) vG) G k∧FII (Go.Ab.rm (mkCs k rows vL G L) vL) (sqL sqI List.length (k+totGs G) L):=by
 obtain⟨⟨_,wG,wL,_⟩,hnd,_⟩:=ho;simp only [ead,eads,List.nil_append,List.append_nil,List.nodup_append]at hnd
 obtain⟨dG,dL,dd⟩:=hnd;have kG:=kGs (k:=k) eG hr wG;have kL:=(mkT_I.F).keys (k:=k+totGs G) hL wL;have rL:=mkT_I.F.rd (k:=k+totGs G) hL wL dL;have eL:Go.Ab.rm (mkCs k rows vL G L) vL=Go.Ab.rm (mkF mkI List.length (k+totGs G) vL L) vL:=Zo fun o hm=>by
  unfold mkCs;rw [Zg fun hx=>dd o (kG o hx) o hm rfl]
 have eGm:Go.Ab.rm (mkCs k rows vL G L) vG=Go.Ab.rm (mkGs k rows G) vG:=Zo fun o hm=>by
  unfold mkCs;rw [QS fun hx=>dd o hm o (kL o hx) rfl]
 rw [eL,eGm];refine⟨?_,rL⟩;subst eG
 by_cases he:fl3 rows=[]
 ·have e:=zEb he
  subst e;have e2:G=[]:=List.eq_nil_of_length_eq_zero hr.1.symm;subst e2;exact⟨w,a,[],rfl,trivial⟩
 obtain⟨hwt,ha,hWs⟩:=wG.resolve_left he;subst hwt;obtain⟨o,off,l,cap,rfl⟩:=zAK ha;rw [QB he]at dG
 obtain⟨no,nd⟩:=List.nodup_cons.1 dG;have hno:(mkGs k rows G).lookup o=none:=qU.2 fun hm=>no (Qt rows G k hr hWs o hm)
 refine⟨true,.sl o off l cap,_,?_,zJi (mkGs k rows G) hr hWs nd fun _ _=>rfl⟩
 rw [←zHj];simp only [Go.Ab.rm,zBc he,cond_false,hno]
set_option maxHeartbeats 800000 in
theorem zGI {k:Int} (hG:HGs vG G k) (szG:SzG G) (hk0:0≤k) (hk1:k+totGs G≤4611686018427387904) (hk:K (.int .i64 (k+totGs G)) σ):zA Tryz.prog 39 [vG,.int .i64 k] σ K:=by
 obtain⟨w,a,rows,rfl,hp⟩:=hG;obtain⟨hl,hat⟩:=hp.at;have hb:=szG.l;refine zS mix Tryz.func39 ?_;simp only [pwA,seval,-iQ0];refine zB (fun m vs h'=>∃i:Nat,i≤G.length∧m=G.length-i∧vs=[.fz w a G.length (fl3 rows),.int .i64 (k+totGs (G.take i)),.int .i64 i]∧σ=h') G.length ⟨0,Nat.zero_le _,rfl,by rw [show((totGs (G.take 0):Nat):Int)=0 from rfl,Int.add_zero];rfl,rfl⟩ ?_
 rintro m vs h' ⟨i,hi,rfl,rfl,rfl⟩
 simp only [pwA,seval,-iQ0];refine iteI (fun hlt=>?_) fun hge=>?_
 rotate_left
 ·have hie:i=G.length:=by omega
  rw [hie,List.take_length];exact hk
 have hlt0:i<G.length:=by omega
 have hlt':(i:Int)<(G.length:Int):=by omega
 have hir:i<rows.length:=by omega
 have sz:SzP G[i].1 G[i].2.1 G[i].2.2:=szG.r _ (List.getElem_mem hlt0);obtain⟨h0,h1,h2⟩:=hat i hir hlt0;have eT:totGs (G.take (i+1))=totGs (G.take i)+totP G[i].1 G[i].2.1 G[i].2.2:=by
  rw [List.take_succ_eq_append_getElem hlt0,Zm];simp [totGs]
 have tle:totGs (G.take i)+totP G[i].1 G[i].2.1 G[i].2.2≤totGs G:=by
  have:totGs (G.take (i+1)++G.drop (i+1))=totGs G:=by rw [List.take_append_drop]
  rw [Zm,eT]at this
  omega
 have cell:=zGQ hir;have eK:k+((totGs (G.take (i+1)):Nat):Int)=k+(totGs (G.take i):Int)+(totP G[i].1 G[i].2.1 G[i].2.2:Int):=by rw [eT];omega
 have hkk0:0≤k+(totGs (G.take i):Int):=by omega
 have hkk1:k+(totGs (G.take i):Int)+(totP G[i].1 G[i].2.1 G[i].2.2:Int)≤4611686018427387904:=by omega
 have wi:=wrapS hlt0 (by omega:G.length≤4611686018427387904)
 generalize k+(totGs (G.take i):Int)=k' at *
 generalize rows[i]=q at *
 generalize G[i]=g at *
 have szO:=sz.O;have hkt:k'+(g.1.length:Int)+(totL List.length g.2.1:Int)+(totL (totL List.length) g.2.2:Int)=k'+(totP g.1 g.2.1 g.2.2:Int):=by unfold totP;omega
 simp only [pwA,seval,-iQ0,hlt0,hlt',cell];refine zBo (xs:=g.1) (by unfold sqI at h0;exact h0) (by omega) hkk0 (by omega) ?_
 have n1:¬(k'+(g.1.length:Int)<0):=by omega
 simp only [pwA,seval,-iQ0,n1,hlt0,hlt',cell];refine Qj h1 (by have:=sz.P.l;omega) (fun y hy=>by have:=sz.P.r y hy;omega) (by omega) (by omega) ?_
 have n2:¬(k'+(g.1.length:Int)+(totL List.length g.2.1:Int)<0):=by omega
 simp only [pwA,seval,-iQ0,n2,hlt0,hlt',cell];refine zDz h2 sz.C (by omega) (by omega) ?_
 have n3:¬(k'+(totP g.1 g.2.1 g.2.2:Int)<0):=by omega
 rw [hkt];simp only [pwA,seval,-iQ0,n3,wi];exact⟨_,by omega,i+1,by omega,rfl,by rw [eK]⟩
theorem Q8 {k:Int} (hG:HGs vG G k) (hL:FII vL (sqL sqI List.length (k+totGs G) L)) (szG:SzG G) (szL:SzL L) (hk0:0≤k) (hk1:k+totCs G L≤4611686018427387904) (hk:K (.int .i64 (k+totCs G L)) σ):zA Tryz.prog 13 [.agg [.int .i64 kk,vG,vL],.int .i64 k] σ K:=by
 have g1:=hG.one;have g2:=hL.one;have hk1':=hk1;unfold totCs at hk1'
 refine zA.gh ?_;refine zS mix Tryz.func13 ?_;simp only [pwA,seval,-iQ0,g1,g2];refine zGI hG szG hk0 (by omega) ?_
 have n1:¬(k+(totGs G:Int)<0):=by omega
 simp only [pwA,seval,-iQ0,n1,g1,g2];refine Qj hL (by have:=szL.l;omega) (fun y hy=>by have:=szL.r y hy;omega) (by omega) (by omega) ?_
 have n2:¬(k+(totGs G:Int)+(totL List.length L:Int)<0):=by omega
 have e:k+(totGs G:Int)+(totL List.length L:Int)=k+(totCs G L:Int):=by unfold totCs;omega
 rw [e]at n2 ⊢
 simp only [pwA,seval,-iQ0,n2];exact Gh.fin0 (zD σ _) trivial hk
theorem zLB (szG:SzG G) (h3:G.length≤3):totGs G≤3459000000000000000:=by
 have:∀{H:List Pre},(∀g∈H,SzP g.1 g.2.1 g.2.2)→totGs H≤1153000000000000000*H.length:=fun {H}=>by
  induction H with
  | nil=>intro _;exact Nat.zero_le _
  | cons g H ih=>
   intro hh;have h1:=zK9 (hh g (List.mem_cons_self ..));have h2:=ih fun x hx=>hh x (List.mem_cons_of_mem _ hx)
   simp only [totGs,List.length_cons];omega
 have h:=this szG.r
 have:=Nat.mul_le_mul_left 1153000000000000000 h3
 omega
end Go.Proofs
namespace Go.Grp
end Go.Grp
set_option linter.unusedSimpArgs false
set_option linter.unusedVariables false
set_option linter.unusedSectionVars false
namespace Go.Proofs
open Go.Ab Go.Lie Go.Grp
variable {σ:PHeap} {K:PV→PHeap→Prop} {s:List UInt8} {k k' c c':Int} {G G':List Pre} {L L':List (List Int)}
def PRes (s:List UInt8) (k:Int) (G:List Pre) (L:List (List Int)) (c:Int):Prop:=
 (qR k G L∧certT k G L=s∧c=0)∨((∀k G L,qR k G L→certT k G L≠s)∧k=0∧G=[]∧L=[]∧c=6)
theorem PRes.unique (h:PRes s k G L c) (h':PRes s k' G' L' c'):(k=k'∧G=G'∧L=L')∧c=c':=by
 rcases h with ⟨a1,a2,rfl⟩|⟨a1,rfl,rfl,rfl,rfl⟩<;>rcases h' with ⟨b1,b2,rfl⟩|⟨b1,rfl,rfl,rfl,rfl⟩
 ·exact⟨zHW a1 b1 (a2.trans b2.symm),rfl⟩
 ·exact absurd a2 (b1 _ _ _ a1)
 ·exact absurd b2 (a1 _ _ _ b1)
 ·exact⟨⟨rfl,rfl,rfl⟩,rfl⟩
theorem zAI:∀{L:List (List Int)},(∀x∈L,x.length≤128)→totL List.length L≤128*L.length
 | [],_=>Nat.zero_le _
 | x::L,h=>by
  have h1:=h x (List.mem_cons_self ..);have h2:=zAI (L:=L) fun y hy=>h y (List.mem_cons_of_mem _ hy)
  simp only [totL,List.map_cons,List.sum_cons,List.length_cons]at h2 ⊢
  omega
theorem PRes.bd (h:PRes s k G L c):SzG G∧SzL L∧totCs G L≤3460000000000000000:=by
 rcases h with ⟨h,_,_⟩|⟨_,_,rfl,rfl,_⟩
 ·have n:=zHt h.1
  have b:=gN_bd k;have sg:SzG G:=⟨by omega,fun g hg=>zK.sz (h.2.2.1 g hg)⟩
  have t1:=zLB sg (by omega)
  have t2:=zAI (L:=L) fun x hx=>(h.2.2.2 x hx).1
  have t3:=h.2.1;refine⟨sg,⟨by omega,fun x hx=>by have:=(h.2.2.2 x hx).1;omega⟩,?_⟩
  unfold totCs;omega
 ·exact⟨⟨by simp,fun g hg=>by cases hg⟩,⟨by simp,fun g hg=>by cases hg⟩,by decide⟩
theorem zCP (hs:s.length≤1048576) (hk:∀k G L vG vL c,PRes s k G L c→FG vG G→FII vL L→K (.tup [.agg [.int .i64 k,vG,vL],.int .i64 c]) σ):zA Tryz.prog 14 [.str s] σ K:=
 zA0 hs (fun h=>hk 0 [] [] _ _ 6 (.inr ⟨h,rfl,rfl,rfl,rfl⟩) zKl ⟨true,.nils,[],rfl,All2.nil _⟩) fun k G L vG vL h1 h2 h3 h4=>hk k G L vG vL 0 (.inl ⟨h1,h2,rfl⟩) h3 h4
theorem Q3 (hs:s.length≤1048576) (hk:∀k G L vG vL c t,PRes s k G L c→FG vG G→FII vL L→Owns σ.top t [vG,vL]→σ.top≤t→K (.tup [.agg [.int .i64 k,vG,vL],.int .i64 c]) (σ.up t)):zA Tryz.prog 15 [.str s] σ K:=by
 refine zA.gh ?_;refine zS mix Tryz.func15 ?_;simp only [pwA,seval,-iQ0];generalize hH:σ.new [.int .i64 0,.fz true .nils 0 [],.fz true .nils 0 []]=H;have hHn:H.next=σ.next+1:=by rw [←hH];rfl
 have hHt:H.top=σ.top:=by rw [←hH];rfl
 have kH:Keep σ H:=by rw [←hH];exact zD _ _
 have ob0:H.obj σ.next=some nilC:=by rw [←hH];simp only [pwA,seval,-iQ0]
 clear hH;refine zBy hs (fun h=>?_) fun k G L wG wL T h1 h2 h3 h4 h5 h6=>?_
 ·have w0:H.wr σ.next 0 nilC=some (H.set σ.next nilC):=by rw [qg ob0,if_pos ⟨by simp,rfl⟩];rfl
  have w1:(H.set σ.next nilC).rd σ.next 0 3=some nilC:=by rw [ZG,if_pos rfl];rfl
  have n0:¬σ.next=H.next:=by omega
  simp only [pwA,seval,-iQ0,n0,w0,w1];refine Gh.fin0T ((kH.set (Nat.le_refl _) _).new _) (by show σ.top≤H.top;omega) ⟨⟨trivial,trivial,trivial,trivial⟩,trivial,trivial⟩ fun _=>hk 0 [] [] _ _ 6 σ.top (.inr ⟨h,rfl,rfl,rfl,rfl⟩) zKl ⟨true,.nils,[],rfl,All2.nil _⟩ (((Owns.nil σ.top σ.top).snoc (Own.empty _ _ true .nils 0) (Nat.le_refl _) (Nat.le_refl _)).snoc (Own.empty _ _ true .nils 0) (Nat.le_refl _) (Nat.le_refl _)) (Nat.le_refl _)
 ·rw [hHt]at h5 h6
  have g1:=h3.one;have g2:=h4.one;have n0:¬σ.next=H.next:=by omega
  have w0:H.wr σ.next 0 [.int .i64 k,wG,wL]=some (H.set σ.next [.int .i64 k,wG,wL]):=by rw [qg ob0,if_pos ⟨by simp,by simp only [List.all_cons,List.all_nil,g1,g2,Bool.and_true];rfl⟩];rfl
  have w1:(H.set σ.next [.int .i64 k,wG,wL]).rd σ.next 0 3=some [.int .i64 k,wG,wL]:=by rw [ZG,if_pos rfl];rfl
  have hTn:((H.set σ.next [.int .i64 k,wG,wL]).new [.int .i64 k,wG,wL]).rd σ.next 0 3=some [.int .i64 k,wG,wL]:=by rw [zBF,if_neg (by show ¬σ.next=H.next;omega)];exact w1
  simp only [pwA,seval,-iQ0,g1,g2,n0,w0,w1,hTn];exact Gh.fin0T (t:=T) (((kH.set (Nat.le_refl _) _).new _).up (by show H.top≤T;omega)) (Nat.le_refl _) ⟨⟨trivial,h3.bel _,h4.bel _,trivial⟩,trivial,trivial⟩ fun _=>hk k G L wG wL 0 T (.inl ⟨h1,h2,rfl⟩) h3 h4 h5 h6
end Go.Proofs
