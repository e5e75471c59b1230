/- Marks of certificates with one group or none. -/
import Derived.Test.YtjlpbpfaihhamaaGreatBP29
import Derived.Test.YtjlpbpfaihhamaaGreatBAbPn
import Derived.Test.YtjlpbpfaihhamaaGreatBP34
import Derived.Test.YtjlpbpfaihhamaaGreatBP30
import Derived.Test.YtjlpbpfaihhamaaGreatBP32
open Nat renaming left_eq_add→nQ1,add_eq_left→nQ2,succ_ne_self→nQ3,one_ne_zero→nQ4,add_left_cancel_iff→nQ5,add_assoc→nQ6,reduceLeDiff→nQ7,le_refl→nQ8,lt_add_one→nQ9,reduceEqDiff→nQ10,reduceBEq→nQ11,reduceAdd→nQ12,mul_one→nQ13,zero_add→nQ14,add_zero→nQ15
open Int renaming reduceNatCast'→iQ0,toNat_natCast→iQ2,reduceEq→iQ3,reduceLT→iQ4,reduceLE→iQ5,reduceNeg→iQ6
open List renaming getElem?_cons_zero→lQ1,getElem?_cons_succ→lQ2,take_succ_cons→lQ3,take_zero→lQ4,drop_succ_cons→lQ5,drop_zero→lQ6,take_nil→lQ7,drop_nil→lQ8,map_cons→lQ9,map_nil→lQ10,nil_append→lQ11,cons_append→lQ12,all_cons→lQ13,all_nil→lQ14,length_cons→lQ15,length_nil→lQ16,contains_cons→lQ17,contains_nil→lQ18
open Bool renaming not_true→bQ1,not_false→bQ2,and_true→bQ3,true_and→bQ4,and_self→bQ5,true_eq_false→bQ6,false_eq_true→bQ7,or_false→bQ8,or_true→bQ9,true_or→bQ10,false_or→bQ11
open Option renaming map_some→oQ1,map_none→oQ2
set_option maxRecDepth 100000
set_option linter.unusedSimpArgs false
set_option linter.unusedVariables false
namespace Go.Proofs
open Go.Ab Go.Lie
section
variable {h:AHeap} {K:AV→AHeap→Prop}
theorem zBQ {v:PV} {xs:List Int} {k:Int} (hI:FI v xs) (hW:Wh v) (hw:HWF h) (hv:VOK (zlt h) h 0 v) (hb:xs.length≤4294967296) (hk0:0≤k) (hk1:k≤4611686018427387904)
  (hk:∀h',Upd h (mkI k v xs) h'→K (.int .i64 (k+xs.length)) h'):qj Tryz.prog 47 [er idz v,.int .i64 k] h K:=by
 refine ZV mix Tryz.func47 cf47 rfl ?_;dsimp only [if47,mI0,kI0,xI0,bI0,cI0,sI0,vI0,R0,S0]
 by_cases hne:xs=[]
 ·subst hne
  have hlen:aLen (er idz v)=some (.int .i64 ((0:Nat):Int)):=by
   obtain⟨w,a,rfl⟩:=hI;obtain⟨rfl,_⟩|⟨o,off,cap,rfl,_⟩:=hv.1<;>rfl
  simp only [nm_eq,nm_eq,abQ,↓reduceIte,iQ2,qL,qV,qG,nQ1,nQ2,nQ3,nQ4,nQ5,nQ6,lQ1,lQ2,lQ3,lQ4,lQ5,lQ6,lQ7,lQ8,nQ7,nQ8,zi,zU,zJ,zK,zG,nQ9,iQ3,iQ4,iQ5,iQ6,qQ,qR,qF,zZ,zm,zV,zW,recOf,zY,zM,zN,zX,zq,lQ9,lQ10,nQ10,if_true,if_false,ite_true,ite_false,lQ11,lQ12,oQ1,oQ2,reduceCtorEq,decide_true,decide_false,bQ1,bQ2,zf,zR,zb,zP,ze,zO,qH,zQ,zg,zh,lQ13,lQ14,qO,qE,qM,z8,qN,zw,qW,qA,qP,lQ15,lQ16,bQ3,bQ4,bQ5,true_and,and_true,bQ6,bQ7,lQ17,lQ18,bQ8,bQ9,bQ10,bQ11,eq_self,nQ11,nQ12,nQ13,nQ14,nQ15];refine Q0 (fun m vs h'=>vs=[er idz v,.int .i64 k,.int .i64 0]∧h'=h) 0 ⟨rfl,rfl⟩ ?_
  rintro m vs h' ⟨rfl,rfl⟩
  simp only [nm_eq,nm_eq,abQ,↓reduceIte,iQ2,qL,qV,qG,nQ1,nQ2,nQ3,nQ4,nQ5,nQ6,lQ1,lQ2,lQ3,lQ4,lQ5,lQ6,lQ7,lQ8,nQ7,nQ8,zi,zU,zJ,zK,zG,nQ9,iQ3,iQ4,iQ5,iQ6,qQ,qR,qF,zZ,zm,zV,zW,recOf,zY,zM,zN,zX,zq,lQ9,lQ10,nQ10,if_true,if_false,ite_true,ite_false,lQ11,lQ12,oQ1,oQ2,reduceCtorEq,decide_true,decide_false,bQ1,bQ2,zf,zR,zb,zP,ze,zO,qH,zQ,zg,zh,lQ13,lQ14,qO,qE,qM,z8,qN,zw,qW,qA,qP,lQ15,lQ16,bQ3,bQ4,bQ5,true_and,and_true,bQ6,bQ7,lQ17,lQ18,bQ8,bQ9,bQ10,bQ11,eq_self,nQ11,nQ12,nQ13,nQ14,nQ15,hlen,Int.lt_irrefl]
  have:=hk h' (Upd.refl hw)
  simpa using this
 ·obtain⟨w,a,rfl⟩:=hI
  obtain⟨hwt,_,_⟩:=hW.resolve_left (zAf hne);obtain⟨o,cap,rfl,ho,hz⟩:=hv.whole hwt (zAf hne);have ho':h.obj o=some ⟨true,ints xs⟩:=by rw [ho,Zo];congr 2;simp only [pis,ints,List.map_map];rfl
  simp only [nm_eq,nm_eq,abQ,↓reduceIte,iQ2,qL,qV,qG,nQ1,nQ2,nQ3,nQ4,nQ5,nQ6,lQ1,lQ2,lQ3,lQ4,lQ5,lQ6,lQ7,lQ8,nQ7,nQ8,zi,zU,zJ,zK,zG,nQ9,iQ3,iQ4,iQ5,iQ6,qQ,qR,qF,zZ,zm,zV,zW,recOf,zY,zM,zN,zX,zq,lQ9,lQ10,nQ10,if_true,if_false,ite_true,ite_false,lQ11,lQ12,oQ1,oQ2,reduceCtorEq,decide_true,decide_false,bQ1,bQ2,zf,zR,zb,zP,ze,zO,qH,zQ,zg,zh,lQ13,lQ14,qO,qE,qM,z8,qN,zw,qW,qA,qP,lQ15,lQ16,bQ3,bQ4,bQ5,true_and,and_true,bQ6,bQ7,lQ17,lQ18,bQ8,bQ9,bQ10,bQ11,eq_self,nQ11,nQ12,nQ13,nQ14,nQ15,er];refine Q0 (fun m vs h'=>∃i:Nat,i≤xs.length∧m=xs.length-i∧vs=[.sl o 0 xs.length cap,.int .i64 (k+i),.int .i64 i]∧h'=h.set o (ints ((seqI k xs.length).take i++xs.drop i))) xs.length ?_ ?_
  ·exact⟨0,by omega,by omega,(by(simp only [nm_eq,nm_eq,abQ,↓reduceIte,iQ2,qL,qV,qG,nQ1,nQ2,nQ3,nQ4,nQ5,nQ6,lQ1,lQ2,lQ3,lQ4,lQ5,lQ6,lQ7,lQ8,nQ7,nQ8,zi,zU,zJ,zK,zG,nQ9,iQ3,iQ4,iQ5,iQ6,qQ,qR,qF,zZ,zm,zV,zW,recOf,zY,zM,zN,zX,zq,lQ9,lQ10,nQ10,if_true,if_false,ite_true,ite_false,lQ11,lQ12,oQ1,oQ2,reduceCtorEq,decide_true,decide_false,bQ1,bQ2,zf,zR,zb,zP,ze,zO,qH,zQ,zg,zh,lQ13,lQ14,qO,qE,qM,z8,qN,zw,qW,qA,qP,lQ15,lQ16,bQ3,bQ4,bQ5,true_and,and_true,bQ6,bQ7,lQ17,lQ18,bQ8,bQ9,bQ10,bQ11,eq_self,nQ11,nQ12,nQ13,nQ14,nQ15,List.cons.injEq,AV.int.injEq,AV.sl.injEq,and_self])<;>omega),by simp [set_self ho']⟩
  ·rintro m vs h' ⟨i,hi,rfl,rfl,rfl⟩
   simp only [nm_eq,nm_eq,abQ,↓reduceIte,iQ2,qL,qV,qG,nQ1,nQ2,nQ3,nQ4,nQ5,nQ6,lQ1,lQ2,lQ3,lQ4,lQ5,lQ6,lQ7,lQ8,nQ7,nQ8,zi,zU,zJ,zK,zG,nQ9,iQ3,iQ4,iQ5,iQ6,qQ,qR,qF,zZ,zm,zV,zW,recOf,zY,zM,zN,zX,zq,lQ9,lQ10,nQ10,if_true,if_false,ite_true,ite_false,lQ11,lQ12,oQ1,oQ2,reduceCtorEq,decide_true,decide_false,bQ1,bQ2,zf,zR,zb,zP,ze,zO,qH,zQ,zg,zh,lQ13,lQ14,qO,qE,qM,z8,qN,zw,qW,qA,qP,lQ15,lQ16,bQ3,bQ4,bQ5,true_and,and_true,bQ6,bQ7,lQ17,lQ18,bQ8,bQ9,bQ10,bQ11,eq_self,nQ11,nQ12,nQ13,nQ14,nQ15]
   split
   ·have hlt:i<xs.length:=by omega
    simp only [nm_eq,nm_eq,abQ,↓reduceIte,iQ2,qL,qV,qG,nQ1,nQ2,nQ3,nQ4,nQ5,nQ6,lQ1,lQ2,lQ3,lQ4,lQ5,lQ6,lQ7,lQ8,nQ7,nQ8,zi,zU,zJ,zK,zG,nQ9,iQ3,iQ4,iQ5,iQ6,qQ,qR,qF,zZ,zm,zV,zW,recOf,zY,zM,zN,zX,zq,lQ9,lQ10,nQ10,if_true,if_false,ite_true,ite_false,lQ11,lQ12,oQ1,oQ2,reduceCtorEq,decide_true,decide_false,bQ1,bQ2,zf,zR,zb,zP,ze,zO,qH,zQ,zg,zh,lQ13,lQ14,qO,qE,qM,z8,qN,zw,qW,qA,qP,lQ15,lQ16,bQ3,bQ4,bQ5,true_and,and_true,bQ6,bQ7,lQ17,lQ18,bQ8,bQ9,bQ10,bQ11,eq_self,nQ11,nQ12,nQ13,nQ14,nQ15,zCi hlt,wrapS hlt (by omega:xs.length≤4611686018427387904),wrap64 (n:=k+(i:Int)+1) (by omega) (by omega)]
    have hls:i<(seqI k xs.length).length:=by rw [Z5];exact hlt
    rw [zFD (zCK _ _) (by rw [zET];simp [Z5];omega) rfl,zM]
    refine⟨_,by omega,i+1,by omega,rfl,(by(simp only [nm_eq,nm_eq,abQ,↓reduceIte,iQ2,qL,qV,qG,nQ1,nQ2,nQ3,nQ4,nQ5,nQ6,lQ1,lQ2,lQ3,lQ4,lQ5,lQ6,lQ7,lQ8,nQ7,nQ8,zi,zU,zJ,zK,zG,nQ9,iQ3,iQ4,iQ5,iQ6,qQ,qR,qF,zZ,zm,zV,zW,recOf,zY,zM,zN,zX,zq,lQ9,lQ10,nQ10,if_true,if_false,ite_true,ite_false,lQ11,lQ12,oQ1,oQ2,reduceCtorEq,decide_true,decide_false,bQ1,bQ2,zf,zR,zb,zP,ze,zO,qH,zQ,zg,zh,lQ13,lQ14,qO,qE,qM,z8,qN,zw,qW,qA,qP,lQ15,lQ16,bQ3,bQ4,bQ5,true_and,and_true,bQ6,bQ7,lQ17,lQ18,bQ8,bQ9,bQ10,bQ11,eq_self,nQ11,nQ12,nQ13,nQ14,nQ15,List.cons.injEq,AV.int.injEq,AV.sl.injEq,and_self])<;>omega),?_⟩
    rw [set_set,ints_set,←zQV _ _ hlt hls,zHc]
   ·have hie:i=xs.length:=by omega
    subst hie;rw [List.take_of_length_le (by rw [Z5];exact Nat.le_refl _),List.drop_length,List.append_nil]
    have hlt:=hw.lt ho;refine hk _ ⟨Nat.le_refl _,hw.set hlt _,fun x hx hn=>zCJ (fun e=>?_) _,fun x ms hx=>?_⟩
    ·subst e
     rw [mkI,if_neg hne]at hn
     simp [aof]at hn
    ·rw [mkI,if_neg hne]at hx
     simp only [List.lookup_cons,List.lookup_nil,aof]at hx
     split at hx
     ·rename_i hxo
      cases hx;have hxo:x=o:=by simpa using hxo
      subst hxo;refine⟨?_,zOM _,zAf fun e=>?_,_,ho',by rw [zET,qK,Z5]⟩
      ·rw [zCK,Zo];congr 2;simp only [pis,ints,List.map_map];rfl
      ·have:=Z5 xs.length k
       rw [e]at this
       exact hne (List.eq_nil_of_length_eq_zero this.symm)
     ·cases hx
theorem QN {v:PV} {xs:List (List Int)} {k:Int} (hI:FII v xs) (hW:Wh v) (hnd:(ead v).Nodup) (hw:HWF h) (hv:VOK (zlt h) h 0 v) (hb:xs.length≤4294967296) (hb2:∀x∈xs,x.length≤4294967296) (hk0:0≤k) (hk1:k+totL List.length xs≤4611686018427387904)
  (hk:∀h',Upd h (mkF mkI List.length k v xs) h'→K (.int .i64 (k+totL List.length xs)) h'):qj Tryz.prog 19 [er idz v,.int .i64 k] h K:=by
 refine ZV mix Tryz.func19 cf19 rfl ?_;dsimp only [if19,mI0,kI0,lI0,xI0,bI0,cI0,sI0,C2,R0,S0];obtain⟨w,a,rows,rfl,hr⟩:=hI
 by_cases hne:rows=[]
 ·have hx:=hr.nil_iff.1 hne
  subst hne;subst hx;have hlen:aLen a=some (.int .i64 ((0:Nat):Int)):=by
   obtain⟨rfl,_⟩|⟨o,off,cap,rfl,_⟩:=hv.1<;>rfl
  simp only [nm_eq,nm_eq,abQ,↓reduceIte,iQ2,qL,qV,qG,nQ1,nQ2,nQ3,nQ4,nQ5,nQ6,lQ1,lQ2,lQ3,lQ4,lQ5,lQ6,lQ7,lQ8,nQ7,nQ8,zi,zU,zJ,zK,zG,nQ9,iQ3,iQ4,iQ5,iQ6,qQ,qR,qF,zZ,zm,zV,zW,recOf,zY,zM,zN,zX,zq,lQ9,lQ10,nQ10,if_true,if_false,ite_true,ite_false,lQ11,lQ12,oQ1,oQ2,reduceCtorEq,decide_true,decide_false,bQ1,bQ2,zf,zR,zb,zP,ze,zO,qH,zQ,zg,zh,lQ13,lQ14,qO,qE,qM,z8,qN,zw,qW,qA,qP,lQ15,lQ16,bQ3,bQ4,bQ5,true_and,and_true,bQ6,bQ7,lQ17,lQ18,bQ8,bQ9,bQ10,bQ11,eq_self,nQ11,nQ12,nQ13,nQ14,nQ15,er];refine Q0 (fun m vs h'=>vs=[a,.int .i64 k,.int .i64 0]∧h'=h) 0 ⟨rfl,rfl⟩ ?_
  rintro m vs h' ⟨rfl,rfl⟩
  simp only [nm_eq,nm_eq,abQ,↓reduceIte,iQ2,qL,qV,qG,nQ1,nQ2,nQ3,nQ4,nQ5,nQ6,lQ1,lQ2,lQ3,lQ4,lQ5,lQ6,lQ7,lQ8,nQ7,nQ8,zi,zU,zJ,zK,zG,nQ9,iQ3,iQ4,iQ5,iQ6,qQ,qR,qF,zZ,zm,zV,zW,recOf,zY,zM,zN,zX,zq,lQ9,lQ10,nQ10,if_true,if_false,ite_true,ite_false,lQ11,lQ12,oQ1,oQ2,reduceCtorEq,decide_true,decide_false,bQ1,bQ2,zf,zR,zb,zP,ze,zO,qH,zQ,zg,zh,lQ13,lQ14,qO,qE,qM,z8,qN,zw,qW,qA,qP,lQ15,lQ16,bQ3,bQ4,bQ5,true_and,and_true,bQ6,bQ7,lQ17,lQ18,bQ8,bQ9,bQ10,bQ11,eq_self,nQ11,nQ12,nQ13,nQ14,nQ15,hlen,Int.lt_irrefl]
  have:=hk h' (Upd.refl hw)
  simpa [totL]using this
 ·obtain⟨hwt,_,hWs⟩:=hW.resolve_left hne
  obtain⟨o,cap,rfl,ho,hz⟩:=hv.whole hwt hne;rw [QB hne]at hnd
  obtain⟨n1,n2⟩:=List.nodup_cons.1 hnd;simp only [nm_eq,nm_eq,abQ,↓reduceIte,iQ2,qL,qV,qG,nQ1,nQ2,nQ3,nQ4,nQ5,nQ6,lQ1,lQ2,lQ3,lQ4,lQ5,lQ6,lQ7,lQ8,nQ7,nQ8,zi,zU,zJ,zK,zG,nQ9,iQ3,iQ4,iQ5,iQ6,qQ,qR,qF,zZ,zm,zV,zW,recOf,zY,zM,zN,zX,zq,lQ9,lQ10,nQ10,if_true,if_false,ite_true,ite_false,lQ11,lQ12,oQ1,oQ2,reduceCtorEq,decide_true,decide_false,bQ1,bQ2,zf,zR,zb,zP,ze,zO,qH,zQ,zg,zh,lQ13,lQ14,qO,qE,qM,z8,qN,zw,qW,qA,qP,lQ15,lQ16,bQ3,bQ4,bQ5,true_and,and_true,bQ6,bQ7,lQ17,lQ18,bQ8,bQ9,bQ10,bQ11,eq_self,nQ11,nQ12,nQ13,nQ14,nQ15,er];refine Q0 (fun m vs h'=>∃i:Nat,i≤xs.length∧m=xs.length-i∧vs=[.sl o 0 xs.length cap,.int .i64 (k+totL List.length (xs.take i)),.int .i64 i]∧Upd h (mkS mkI List.length k (rows.take i) (xs.take i)) h') xs.length ?_ ?_
  ·exact⟨0,by omega,by omega,by rw [List.take_zero,zCE];exact(by(simp only [nm_eq,nm_eq,abQ,↓reduceIte,iQ2,qL,qV,qG,nQ1,nQ2,nQ3,nQ4,nQ5,nQ6,lQ1,lQ2,lQ3,lQ4,lQ5,lQ6,lQ7,lQ8,nQ7,nQ8,zi,zU,zJ,zK,zG,nQ9,iQ3,iQ4,iQ5,iQ6,qQ,qR,qF,zZ,zm,zV,zW,recOf,zY,zM,zN,zX,zq,lQ9,lQ10,nQ10,if_true,if_false,ite_true,ite_false,lQ11,lQ12,oQ1,oQ2,reduceCtorEq,decide_true,decide_false,bQ1,bQ2,zf,zR,zb,zP,ze,zO,qH,zQ,zg,zh,lQ13,lQ14,qO,qE,qM,z8,qN,zw,qW,qA,qP,lQ15,lQ16,bQ3,bQ4,bQ5,true_and,and_true,bQ6,bQ7,lQ17,lQ18,bQ8,bQ9,bQ10,bQ11,eq_self,nQ11,nQ12,nQ13,nQ14,nQ15,List.cons.injEq,AV.int.injEq,AV.sl.injEq,and_self])<;>omega),by simp only [List.take_zero,zKB];exact Upd.refl hw⟩
  ·rintro m vs h' ⟨i,hi,rfl,rfl,u⟩
   simp only [nm_eq,nm_eq,abQ,↓reduceIte,iQ2,qL,qV,qG,nQ1,nQ2,nQ3,nQ4,nQ5,nQ6,lQ1,lQ2,lQ3,lQ4,lQ5,lQ6,lQ7,lQ8,nQ7,nQ8,zi,zU,zJ,zK,zG,nQ9,iQ3,iQ4,iQ5,iQ6,qQ,qR,qF,zZ,zm,zV,zW,recOf,zY,zM,zN,zX,zq,lQ9,lQ10,nQ10,if_true,if_false,ite_true,ite_false,lQ11,lQ12,oQ1,oQ2,reduceCtorEq,decide_true,decide_false,bQ1,bQ2,zf,zR,zb,zP,ze,zO,qH,zQ,zg,zh,lQ13,lQ14,qO,qE,qM,z8,qN,zw,qW,qA,qP,lQ15,lQ16,bQ3,bQ4,bQ5,true_and,and_true,bQ6,bQ7,lQ17,lQ18,bQ8,bQ9,bQ10,bQ11,eq_self,nQ11,nQ12,nQ13,nQ14,nQ15]
   split
   ·have hlt:i<xs.length:=by omega
    obtain⟨v,hv1,hv2,hv3,hv4,hv5,hv6⟩:=mkT_I.step hr hWs n2 hv.2 hlt u;have hld:h'.rd1 o i=some (er idz v):=by
     rw [ZO (by rw [u.same o hz (qh.2 fun hm=>n1 (zGp (mkT_I.keysS (hr.take i) (qy.2 fun c hc=>qy.1 hWs c (List.mem_of_mem_take hc)) o hm)))];exact ho)]
     rw [zAb,hv1];rfl
    have ht:=zBe (len:=List.length) hlt;have htl:=zDk List.length xs (i+1);have hbi:=hb2 _ (List.getElem_mem hlt);simp only [nm_eq,nm_eq,abQ,↓reduceIte,iQ2,qL,qV,qG,nQ1,nQ2,nQ3,nQ4,nQ5,nQ6,lQ1,lQ2,lQ3,lQ4,lQ5,lQ6,lQ7,lQ8,nQ7,nQ8,zi,zU,zJ,zK,zG,nQ9,iQ3,iQ4,iQ5,iQ6,qQ,qR,qF,zZ,zm,zV,zW,recOf,zY,zM,zN,zX,zq,lQ9,lQ10,nQ10,if_true,if_false,ite_true,ite_false,lQ11,lQ12,oQ1,oQ2,reduceCtorEq,decide_true,decide_false,bQ1,bQ2,zf,zR,zb,zP,ze,zO,qH,zQ,zg,zh,lQ13,lQ14,qO,qE,qM,z8,qN,zw,qW,qA,qP,lQ15,lQ16,bQ3,bQ4,bQ5,true_and,and_true,bQ6,bQ7,lQ17,lQ18,bQ8,bQ9,bQ10,bQ11,eq_self,nQ11,nQ12,nQ13,nQ14,nQ15,zCi hlt,hld,wrapS hlt (by omega:xs.length≤4611686018427387904)]
    refine zBQ hv2 hv3 u.wf hv5 hbi (by omega) (by omega) fun h'' u'=>?_
    simp only [nm_eq,nm_eq,abQ,↓reduceIte,iQ2,qL,qV,qG,nQ1,nQ2,nQ3,nQ4,nQ5,nQ6,lQ1,lQ2,lQ3,lQ4,lQ5,lQ6,lQ7,lQ8,nQ7,nQ8,zi,zU,zJ,zK,zG,nQ9,iQ3,iQ4,iQ5,iQ6,qQ,qR,qF,zZ,zm,zV,zW,recOf,zY,zM,zN,zX,zq,lQ9,lQ10,nQ10,if_true,if_false,ite_true,ite_false,lQ11,lQ12,oQ1,oQ2,reduceCtorEq,decide_true,decide_false,bQ1,bQ2,zf,zR,zb,zP,ze,zO,qH,zQ,zg,zh,lQ13,lQ14,qO,qE,qM,z8,qN,zw,qW,qA,qP,lQ15,lQ16,bQ3,bQ4,bQ5,true_and,and_true,bQ6,bQ7,lQ17,lQ18,bQ8,bQ9,bQ10,bQ11,eq_self,nQ11,nQ12,nQ13,nQ14,nQ15,wrapS hlt (by omega:xs.length≤4611686018427387904)]
    exact⟨_,by omega,i+1,by omega,rfl,(by(simp only [nm_eq,nm_eq,abQ,↓reduceIte,iQ2,qL,qV,qG,nQ1,nQ2,nQ3,nQ4,nQ5,nQ6,lQ1,lQ2,lQ3,lQ4,lQ5,lQ6,lQ7,lQ8,nQ7,nQ8,zi,zU,zJ,zK,zG,nQ9,iQ3,iQ4,iQ5,iQ6,qQ,qR,qF,zZ,zm,zV,zW,recOf,zY,zM,zN,zX,zq,lQ9,lQ10,nQ10,if_true,if_false,ite_true,ite_false,lQ11,lQ12,oQ1,oQ2,reduceCtorEq,decide_true,decide_false,bQ1,bQ2,zf,zR,zb,zP,ze,zO,qH,zQ,zg,zh,lQ13,lQ14,qO,qE,qM,z8,qN,zw,qW,qA,qP,lQ15,lQ16,bQ3,bQ4,bQ5,true_and,and_true,bQ6,bQ7,lQ17,lQ18,bQ8,bQ9,bQ10,bQ11,eq_self,nQ11,nQ12,nQ13,nQ14,nQ15,List.cons.injEq,AV.int.injEq,AV.sl.injEq,and_self])<;>omega),hv6 _ u'⟩
   ·have hie:i=xs.length:=by omega
    subst hie;rw [List.take_length,List.take_of_length_le (by rw [hr.1];exact Nat.le_refl _)]at u
    rw [List.take_length];exact hk _ u
theorem zB5 {v:PV} {xs:List (List (List Int))} {k:Int} (hI:FIII v xs) (hW:Wh v) (hnd:(ead v).Nodup) (hw:HWF h) (hv:VOK (zlt h) h 0 v) (hb:xs.length≤4294967296) (hb2:∀x∈xs,x.length≤4294967296∧∀y∈x,y.length≤4294967296) (hk0:0≤k) (hk1:k+totL (totL List.length) xs≤4611686018427387904)
  (hk:∀h',Upd h (mkF (mkF mkI List.length) (totL List.length) k v xs) h'→K (.int .i64 (k+totL (totL List.length) xs)) h'):qj Tryz.prog 48 [er idz v,.int .i64 k] h K:=by
 refine ZV mix Tryz.func48 cf48 rfl ?_;dsimp only [if48,mI0,kI0,lI0,xI0,bI0,cI0,sI0,C2,R0,S0];obtain⟨w,a,rows,rfl,hr⟩:=hI
 by_cases hne:rows=[]
 ·have hx:=hr.nil_iff.1 hne
  subst hne;subst hx;have hlen:aLen a=some (.int .i64 ((0:Nat):Int)):=by
   obtain⟨rfl,_⟩|⟨o,off,cap,rfl,_⟩:=hv.1<;>rfl
  simp only [nm_eq,nm_eq,abQ,↓reduceIte,iQ2,qL,qV,qG,nQ1,nQ2,nQ3,nQ4,nQ5,nQ6,lQ1,lQ2,lQ3,lQ4,lQ5,lQ6,lQ7,lQ8,nQ7,nQ8,zi,zU,zJ,zK,zG,nQ9,iQ3,iQ4,iQ5,iQ6,qQ,qR,qF,zZ,zm,zV,zW,recOf,zY,zM,zN,zX,zq,lQ9,lQ10,nQ10,if_true,if_false,ite_true,ite_false,lQ11,lQ12,oQ1,oQ2,reduceCtorEq,decide_true,decide_false,bQ1,bQ2,zf,zR,zb,zP,ze,zO,qH,zQ,zg,zh,lQ13,lQ14,qO,qE,qM,z8,qN,zw,qW,qA,qP,lQ15,lQ16,bQ3,bQ4,bQ5,true_and,and_true,bQ6,bQ7,lQ17,lQ18,bQ8,bQ9,bQ10,bQ11,eq_self,nQ11,nQ12,nQ13,nQ14,nQ15,er];refine Q0 (fun m vs h'=>vs=[a,.int .i64 k,.int .i64 0]∧h'=h) 0 ⟨rfl,rfl⟩ ?_
  rintro m vs h' ⟨rfl,rfl⟩
  simp only [nm_eq,nm_eq,abQ,↓reduceIte,iQ2,qL,qV,qG,nQ1,nQ2,nQ3,nQ4,nQ5,nQ6,lQ1,lQ2,lQ3,lQ4,lQ5,lQ6,lQ7,lQ8,nQ7,nQ8,zi,zU,zJ,zK,zG,nQ9,iQ3,iQ4,iQ5,iQ6,qQ,qR,qF,zZ,zm,zV,zW,recOf,zY,zM,zN,zX,zq,lQ9,lQ10,nQ10,if_true,if_false,ite_true,ite_false,lQ11,lQ12,oQ1,oQ2,reduceCtorEq,decide_true,decide_false,bQ1,bQ2,zf,zR,zb,zP,ze,zO,qH,zQ,zg,zh,lQ13,lQ14,qO,qE,qM,z8,qN,zw,qW,qA,qP,lQ15,lQ16,bQ3,bQ4,bQ5,true_and,and_true,bQ6,bQ7,lQ17,lQ18,bQ8,bQ9,bQ10,bQ11,eq_self,nQ11,nQ12,nQ13,nQ14,nQ15,hlen,Int.lt_irrefl]
  have:=hk h' (Upd.refl hw)
  simpa [totL]using this
 ·obtain⟨hwt,_,hWs⟩:=hW.resolve_left hne
  obtain⟨o,cap,rfl,ho,hz⟩:=hv.whole hwt hne;rw [QB hne]at hnd
  obtain⟨n1,n2⟩:=List.nodup_cons.1 hnd;simp only [nm_eq,nm_eq,abQ,↓reduceIte,iQ2,qL,qV,qG,nQ1,nQ2,nQ3,nQ4,nQ5,nQ6,lQ1,lQ2,lQ3,lQ4,lQ5,lQ6,lQ7,lQ8,nQ7,nQ8,zi,zU,zJ,zK,zG,nQ9,iQ3,iQ4,iQ5,iQ6,qQ,qR,qF,zZ,zm,zV,zW,recOf,zY,zM,zN,zX,zq,lQ9,lQ10,nQ10,if_true,if_false,ite_true,ite_false,lQ11,lQ12,oQ1,oQ2,reduceCtorEq,decide_true,decide_false,bQ1,bQ2,zf,zR,zb,zP,ze,zO,qH,zQ,zg,zh,lQ13,lQ14,qO,qE,qM,z8,qN,zw,qW,qA,qP,lQ15,lQ16,bQ3,bQ4,bQ5,true_and,and_true,bQ6,bQ7,lQ17,lQ18,bQ8,bQ9,bQ10,bQ11,eq_self,nQ11,nQ12,nQ13,nQ14,nQ15,er];refine Q0 (fun m vs h'=>∃i:Nat,i≤xs.length∧m=xs.length-i∧vs=[.sl o 0 xs.length cap,.int .i64 (k+totL (totL List.length) (xs.take i)),.int .i64 i]∧Upd h (mkS (mkF mkI List.length) (totL List.length) k (rows.take i) (xs.take i)) h') xs.length ?_ ?_
  ·exact⟨0,by omega,by omega,by rw [List.take_zero,zCE];exact(by(simp only [nm_eq,nm_eq,abQ,↓reduceIte,iQ2,qL,qV,qG,nQ1,nQ2,nQ3,nQ4,nQ5,nQ6,lQ1,lQ2,lQ3,lQ4,lQ5,lQ6,lQ7,lQ8,nQ7,nQ8,zi,zU,zJ,zK,zG,nQ9,iQ3,iQ4,iQ5,iQ6,qQ,qR,qF,zZ,zm,zV,zW,recOf,zY,zM,zN,zX,zq,lQ9,lQ10,nQ10,if_true,if_false,ite_true,ite_false,lQ11,lQ12,oQ1,oQ2,reduceCtorEq,decide_true,decide_false,bQ1,bQ2,zf,zR,zb,zP,ze,zO,qH,zQ,zg,zh,lQ13,lQ14,qO,qE,qM,z8,qN,zw,qW,qA,qP,lQ15,lQ16,bQ3,bQ4,bQ5,true_and,and_true,bQ6,bQ7,lQ17,lQ18,bQ8,bQ9,bQ10,bQ11,eq_self,nQ11,nQ12,nQ13,nQ14,nQ15,List.cons.injEq,AV.int.injEq,AV.sl.injEq,and_self])<;>omega),by simp only [List.take_zero,zKB];exact Upd.refl hw⟩
  ·rintro m vs h' ⟨i,hi,rfl,rfl,u⟩
   simp only [nm_eq,nm_eq,abQ,↓reduceIte,iQ2,qL,qV,qG,nQ1,nQ2,nQ3,nQ4,nQ5,nQ6,lQ1,lQ2,lQ3,lQ4,lQ5,lQ6,lQ7,lQ8,nQ7,nQ8,zi,zU,zJ,zK,zG,nQ9,iQ3,iQ4,iQ5,iQ6,qQ,qR,qF,zZ,zm,zV,zW,recOf,zY,zM,zN,zX,zq,lQ9,lQ10,nQ10,if_true,if_false,ite_true,ite_false,lQ11,lQ12,oQ1,oQ2,reduceCtorEq,decide_true,decide_false,bQ1,bQ2,zf,zR,zb,zP,ze,zO,qH,zQ,zg,zh,lQ13,lQ14,qO,qE,qM,z8,qN,zw,qW,qA,qP,lQ15,lQ16,bQ3,bQ4,bQ5,true_and,and_true,bQ6,bQ7,lQ17,lQ18,bQ8,bQ9,bQ10,bQ11,eq_self,nQ11,nQ12,nQ13,nQ14,nQ15]
   split
   ·have hlt:i<xs.length:=by omega
    obtain⟨v,hv1,hv2,hv3,hv4,hv5,hv6⟩:=mkT_I.F.step hr hWs n2 hv.2 hlt u;have hld:h'.rd1 o i=some (er idz v):=by
     rw [ZO (by rw [u.same o hz (qh.2 fun hm=>n1 (zGp (mkT_I.F.keysS (hr.take i) (qy.2 fun c hc=>qy.1 hWs c (List.mem_of_mem_take hc)) o hm)))];exact ho)]
     rw [zAb,hv1];rfl
    have ht:=zBe (len:=totL List.length) hlt;have htl:=zDk (totL List.length) xs (i+1);have hbi:=hb2 _ (List.getElem_mem hlt);simp only [nm_eq,nm_eq,abQ,↓reduceIte,iQ2,qL,qV,qG,nQ1,nQ2,nQ3,nQ4,nQ5,nQ6,lQ1,lQ2,lQ3,lQ4,lQ5,lQ6,lQ7,lQ8,nQ7,nQ8,zi,zU,zJ,zK,zG,nQ9,iQ3,iQ4,iQ5,iQ6,qQ,qR,qF,zZ,zm,zV,zW,recOf,zY,zM,zN,zX,zq,lQ9,lQ10,nQ10,if_true,if_false,ite_true,ite_false,lQ11,lQ12,oQ1,oQ2,reduceCtorEq,decide_true,decide_false,bQ1,bQ2,zf,zR,zb,zP,ze,zO,qH,zQ,zg,zh,lQ13,lQ14,qO,qE,qM,z8,qN,zw,qW,qA,qP,lQ15,lQ16,bQ3,bQ4,bQ5,true_and,and_true,bQ6,bQ7,lQ17,lQ18,bQ8,bQ9,bQ10,bQ11,eq_self,nQ11,nQ12,nQ13,nQ14,nQ15,zCi hlt,hld,wrapS hlt (by omega:xs.length≤4611686018427387904)]
    refine QN hv2 hv3 hv4 u.wf hv5 hbi.1 hbi.2 (by omega) (by omega) fun h'' u'=>?_
    simp only [nm_eq,nm_eq,abQ,↓reduceIte,iQ2,qL,qV,qG,nQ1,nQ2,nQ3,nQ4,nQ5,nQ6,lQ1,lQ2,lQ3,lQ4,lQ5,lQ6,lQ7,lQ8,nQ7,nQ8,zi,zU,zJ,zK,zG,nQ9,iQ3,iQ4,iQ5,iQ6,qQ,qR,qF,zZ,zm,zV,zW,recOf,zY,zM,zN,zX,zq,lQ9,lQ10,nQ10,if_true,if_false,ite_true,ite_false,lQ11,lQ12,oQ1,oQ2,reduceCtorEq,decide_true,decide_false,bQ1,bQ2,zf,zR,zb,zP,ze,zO,qH,zQ,zg,zh,lQ13,lQ14,qO,qE,qM,z8,qN,zw,qW,qA,qP,lQ15,lQ16,bQ3,bQ4,bQ5,true_and,and_true,bQ6,bQ7,lQ17,lQ18,bQ8,bQ9,bQ10,bQ11,eq_self,nQ11,nQ12,nQ13,nQ14,nQ15,wrapS hlt (by omega:xs.length≤4611686018427387904)]
    exact⟨_,by omega,i+1,by omega,rfl,(by(simp only [nm_eq,nm_eq,abQ,↓reduceIte,iQ2,qL,qV,qG,nQ1,nQ2,nQ3,nQ4,nQ5,nQ6,lQ1,lQ2,lQ3,lQ4,lQ5,lQ6,lQ7,lQ8,nQ7,nQ8,zi,zU,zJ,zK,zG,nQ9,iQ3,iQ4,iQ5,iQ6,qQ,qR,qF,zZ,zm,zV,zW,recOf,zY,zM,zN,zX,zq,lQ9,lQ10,nQ10,if_true,if_false,ite_true,ite_false,lQ11,lQ12,oQ1,oQ2,reduceCtorEq,decide_true,decide_false,bQ1,bQ2,zf,zR,zb,zP,ze,zO,qH,zQ,zg,zh,lQ13,lQ14,qO,qE,qM,z8,qN,zw,qW,qA,qP,lQ15,lQ16,bQ3,bQ4,bQ5,true_and,and_true,bQ6,bQ7,lQ17,lQ18,bQ8,bQ9,bQ10,bQ11,eq_self,nQ11,nQ12,nQ13,nQ14,nQ15,List.cons.injEq,AV.int.injEq,AV.sl.injEq,and_self])<;>omega),hv6 _ u'⟩
   ·have hie:i=xs.length:=by omega
    subst hie;rw [List.take_length,List.take_of_length_le (by rw [hr.1];exact Nat.le_refl _)]at u
    rw [List.take_length];exact hk _ u
end
section
variable {σ:PHeap} {K:PV→PHeap→Prop} {p:Int} {W:List (List Int)} {B:List (List (List Int))} {vP vB:PV} {lo hi:Nat}
theorem zRi {v:PV} {xs:List (List Int)} {k:Int} (hI:FII v xs) (ho:Own lo hi v):∀o∈(mkF mkI List.length k v xs).map Prod.fst,lo≤o∧o<hi:=fun o hm=>ho.lt o (mkT_I.F.keys hI ho.wh o hm)
theorem zG3 {v:PV} {xs:List (List Int)} {k:Int} (hI:FII v xs) (ho:Own lo hi v) (hb:xs.length≤4294967296) (hb2:∀x∈xs,x.length≤4294967296) (hk0:0≤k) (hk1:k+totL List.length xs≤4611686018427387904):
  Qr Tryz.prog 19 [v,.int .i64 k] σ (mkF mkI List.length k v xs) .i64 (k+totL List.length xs):=
 Qr.of (hI.bel 0) (mkT_I.F.keys hI ho.wh) fun h hw hv=>QN hI ho.wh ho.nd hw hv hb hb2 hk0 hk1 fun h' u=>⟨rfl,u⟩
theorem zCs {v:PV} {xs:List Int} {k:Int} (hI:FI v (seqI k xs.length)) (hb:xs.length≤4294967296) (hk0:0≤k) (hk1:k≤4611686018427387904) (hk:K (.int .i64 (k+xs.length)) σ):zA Tryz.prog 96 [v,.int .i64 k] σ K:=by
 obtain⟨w,a,rfl⟩:=hI;have hl:=Z5 xs.length k;have hg:=zHc xs.length k;generalize seqI k xs.length=ys at *
 refine zB mix Tryz.func96 ?_;simp only [pwA,seval,-iQ0];refine zD (fun m vs h'=>∃i:Nat,i≤ys.length∧m=ys.length-i∧vs=[.fz w a ys.length (pis ys),.int .i64 (k+(i:Int)),.int .i64 i]∧σ=h') ys.length ?_ ?_
 ·exact⟨0,by omega,by omega,by rw [show k+((0:Nat):Int)=k by omega];rfl,rfl⟩
 rintro m vs h' ⟨i,hi,rfl,rfl,rfl⟩
 simp only [pwA,seval,-iQ0];refine iteI (fun hlt=>?_) fun hge=>?_
 ·simp only [pwA,seval,-iQ0,hlt,gi hlt,hg i hlt,zL,wrapS hlt (by omega:ys.length≤4611686018427387904),wrap64 (n:=k+(i:Int)+1) (by omega) (by omega)]
  refine⟨_,by omega,i+1,by omega,rfl,?_⟩
  have:k+(i:Int)+1=k+((i+1:Nat):Int):=by omega
  rw [this]
 ·have hie:i=xs.length:=by omega
  subst hie;exact hk
theorem zAX {v:PV} {xs:List (List Int)} {k:Int} (hI:FII v (sqL sqI List.length k xs)) (hb:xs.length≤4294967296) (hb2:∀x∈xs,x.length≤4294967296) (hk0:0≤k) (hk1:k+totL List.length xs≤4611686018427387904) (hk:K (.int .i64 (k+totL List.length xs)) σ):zA Tryz.prog 51 [v,.int .i64 k] σ K:=by
 obtain⟨w,a,rows,rfl,hr⟩:=hI;have hl:=Q9 sqI List.length xs k;have hg:∀(i:Nat) (hi:i<xs.length) (h2:i<(sqL sqI List.length k xs).length),(sqL sqI List.length k xs)[i]=sqI (k+totL List.length (xs.take i)) xs[i]:=fun i hi _=>zF9 sqI List.length xs k i hi
 generalize sqL sqI List.length k xs=ys at *
 refine zB mix Tryz.func51 ?_;simp only [pwA,seval,-iQ0];refine zD (fun m vs h'=>∃i:Nat,i≤ys.length∧m=ys.length-i∧vs=[.fz w a ys.length rows,.int .i64 (k+totL List.length (xs.take i)),.int .i64 i]∧σ=h') ys.length ?_ ?_
 ·exact⟨0,by omega,by omega,by rw [List.take_zero,zCE,show k+((0:Nat):Int)=k by omega];rfl,rfl⟩
 rintro m vs h' ⟨i,hi,rfl,rfl,rfl⟩
 simp only [pwA,seval,-iQ0];refine iteI (fun hlt=>?_) fun hge=>?_
 ·have hlx:i<xs.length:=by omega
  obtain⟨w4,a4,hrk⟩:=hr.rowI hlt;have ht:=zBe (len:=List.length) hlx;have htl:=zDk List.length xs (i+1);have hgi:=hg i hlx hlt;simp only [pwA,seval,-iQ0,hlt,hrk];have hbi:=hb2 _ (List.getElem_mem hlx);refine zCs (xs:=xs[i]) ⟨w4,a4,by rw [hgi,sqI]⟩ hbi (by omega) (by omega) ?_
  have hn:¬(k+(totL List.length (xs.take i):Int)+(xs[i].length:Int)<0):=by omega
  simp only [pwA,seval,-iQ0,hn,wrapS hlt (by omega:ys.length≤4611686018427387904)]
  refine⟨_,by omega,i+1,by omega,rfl,?_⟩
  have:k+(totL List.length (xs.take i):Int)+(xs[i].length:Int)=k+(totL List.length (xs.take (i+1)):Int):=by omega
  rw [this]
 ·have hie:i=xs.length:=by omega
  subst hie;rw [List.take_length];exact hk
theorem zFE {v:PV} {xs:List Int} (hI:FI v xs) (hb:xs.length≤1048576) (hk:∀v t,FI v xs→Own σ.top t v→σ.top≤t→K v (σ.up t)):zA Tryz.prog 40 [v] σ K:=
 zA.fzT (fun K'=>zEB hI hb) (zo _ _) (Owns.pis _ _ _) fun o cap t h1 h2=>hk _ t ⟨_,_,rfl⟩ h1 h2
theorem zBr {v:PV} {xs:List (List Int)} (hI:FII v xs) (sz:SzL xs) (hk:∀v t,FII v xs→Own σ.top t v→σ.top≤t→K v (σ.up t)):zA Tryz.prog 14 [v] σ K:=by
 obtain⟨w,a,rs,rfl,hr⟩:=hI;have hb:=sz.l;refine zA.gh ?_;refine zB mix Tryz.func14 ?_;simp only [pwA,seval,-iQ0,mk24 (n:=xs.length) (by omega),mkL (n:=xs.length) (by omega)]
 refine zD (fun m vs h'=>∃i:Nat,i≤xs.length∧m=xs.length-i∧vs=[.fz w a xs.length rs,.sl σ.next 0 xs.length (.known xs.length),.int .i64 i]∧∃rows t,rows.length=i∧All2 FI rows (xs.take i)∧Owns σ.top t rows∧σ.top≤t∧h'=(σ.new (rows++List.replicate (xs.length-i) (.fz true .nils 0 []))).up t) xs.length ?_ ?_
 ·exact⟨0,by omega,by omega,rfl,[],σ.top,rfl,by simpa using All2.nil _,Owns.nil _ _,Nat.le_refl _,by simp [PHeap.up,PHeap.new]⟩
 rintro m vs h' ⟨i,hi,rfl,rfl,rows,t,hrl,hra,hro,htt,rfl⟩
 simp only [pwA,seval,-iQ0];refine iteI (fun hlt=>?_) fun hge=>?_
 ·obtain⟨w4,a4,hrk⟩:=hr.rowI hlt
  simp only [pwA,seval,-iQ0,hlt,hrk];refine zFE ⟨_,_,rfl⟩ (sz.r _ (List.getElem_mem hlt)) fun r t2 hr' ho' ht'=>?_
  have hlen:i+1≤(rows++List.replicate (xs.length-i) (PV.fz true .nils 0 [])).length:=by simp;omega
  simp only [pwA,seval,-iQ0,hlt,hlen,hr'.cells,hr'.one,wrapS hlt (by omega:xs.length≤4611686018427387904)]
  refine⟨_,by omega,i+1,by omega,rfl,rfl,rows++[r],t2,by simp [hrl],?_,hro.snoc ho' htt ht',Nat.le_trans htt ht',?_⟩
  ·rw [List.take_succ_eq_append_getElem hlt];exact hra.snoc hr'
  ·rw [zCN hrl hlt];rfl
 ·have hie:i=xs.length:=by omega
  subst hie;rw [List.take_length]at hra
  rw [Nat.sub_self,List.replicate_zero,List.append_nil];exact Gh.own ((zC σ _).up htt) (by simp only [pwA,seval,-iQ0]) (Nat.le_refl _) (hra.bI 0) (by simp [capOK]) hro fun o t h1 h2=>hk _ t ⟨_,_,_,rfl,hra⟩ h1 h2
theorem zHY {v:PV} {xs:List (List (List Int))} (hI:FIII v xs) (sz:SzM xs) (hk:∀v t,FIII v xs→Own σ.top t v→σ.top≤t→K v (σ.up t)):zA Tryz.prog 41 [v] σ K:=by
 obtain⟨w,a,rs,rfl,hr⟩:=hI;have hb:=sz.l;refine zA.gh ?_;refine zB mix Tryz.func41 ?_;simp only [pwA,seval,-iQ0,mk24 (n:=xs.length) (by omega),mkL (n:=xs.length) (by omega)]
 refine zD (fun m vs h'=>∃i:Nat,i≤xs.length∧m=xs.length-i∧vs=[.fz w a xs.length rs,.sl σ.next 0 xs.length (.known xs.length),.int .i64 i]∧∃rows t,rows.length=i∧All2 FII rows (xs.take i)∧Owns σ.top t rows∧σ.top≤t∧h'=(σ.new (rows++List.replicate (xs.length-i) (.fz true .nils 0 []))).up t) xs.length ?_ ?_
 ·exact⟨0,by omega,by omega,rfl,[],σ.top,rfl,by simpa using All2.nil _,Owns.nil _ _,Nat.le_refl _,by simp [PHeap.up,PHeap.new]⟩
 rintro m vs h' ⟨i,hi,rfl,rfl,rows,t,hrl,hra,hro,htt,rfl⟩
 simp only [pwA,seval,-iQ0];refine iteI (fun hlt=>?_) fun hge=>?_
 ·obtain⟨w4,a4,rk,hrk,hrs⟩:=hr.rowL hlt
  simp only [pwA,seval,-iQ0,hlt,hrk];refine zBr ⟨_,_,_,rfl,hrs⟩ (sz.r _ (List.getElem_mem hlt)) fun r t2 hr' ho' ht'=>?_
  have hlen:i+1≤(rows++List.replicate (xs.length-i) (PV.fz true .nils 0 [])).length:=by simp;omega
  simp only [pwA,seval,-iQ0,hlt,hlen,hr'.cells,hr'.one,wrapS hlt (by omega:xs.length≤4611686018427387904)]
  refine⟨_,by omega,i+1,by omega,rfl,rfl,rows++[r],t2,by simp [hrl],?_,hro.snoc ho' htt ht',Nat.le_trans htt ht',?_⟩
  ·rw [List.take_succ_eq_append_getElem hlt];exact hra.snoc hr'
  ·rw [zCN hrl hlt];rfl
 ·have hie:i=xs.length:=by omega
  subst hie;rw [List.take_length]at hra
  rw [Nat.sub_self,List.replicate_zero,List.append_nil];exact Gh.own ((zC σ _).up htt) (by simp only [pwA,seval,-iQ0]) (Nat.le_refl _) (hra.bL 0) (by simp [capOK]) hro fun o t h1 h2=>hk _ t ⟨_,_,_,rfl,hra⟩ h1 h2
end
end Go.Proofs
namespace Go.Grp
end Go.Grp
namespace Go.Proofs
open Go.Ab Go.Lie Go.Grp
section
variable {h:AHeap} {K:AV→AHeap→Prop}
def mkPr (k:Int) (vO vP vC:PV) (O:List Int) (P:List (List Int)) (C:List (List (List Int))):List (Nat×List PV):=
 mkI k vO O++(mkF mkI List.length (k+O.length) vP P++mkF (mkF mkI List.length) (totL List.length) (k+O.length+totL List.length P) vC C)
def totP (O:List Int) (P:List (List Int)) (C:List (List (List Int))):Nat:=O.length+totL List.length P+totL (totL List.length) C
theorem zDH {k:Int} {vO vP vC:PV} {O:List Int} {P:List (List Int)} {C:List (List (List Int))} (hR:IsPr vO vP vC O P C) (hW:Wh (.agg [vO,vP,vC])) (hnd:(ead (.agg [vO,vP,vC])).Nodup) (hw:HWF h) (hv:VOK (zlt h) h 0 (.agg [vO,vP,vC])) (sz:SzP O P C) (hk0:0≤k) (hk1:k+totP O P C≤4611686018427387904)
  (hk:∀h',Upd h (mkPr k vO vP vC O P C) h'→K (.int .i64 (k+totP O P C)) h'):qj Tryz.prog 18 [er idz (.agg [vO,vP,vC]),.int .i64 k] h K:=by
 refine ZV mix Tryz.func18 cf18 rfl ?_;dsimp only [if18,mI0,kI0,lI0,fI0,C2,R0,S0];simp only [er,ers];unfold totP at hk hk1
 obtain⟨hvO,hvP,hvC,_⟩:=hv;obtain⟨wO,wP,wC,_⟩:=hW;have oO:(er idz vO).one=true:=by rw [zCC hvO];exact hR.O.one
 have oP:(er idz vP).one=true:=by rw [zCC hvP];exact hR.P.one
 have oC:(er idz vC).one=true:=by rw [zCC hvC];exact hR.C.one
 have cO:=QC oO;have cP:=QC oP;have cC:=QC oC;simp only [ead,eads,List.nil_append,List.append_nil,List.nodup_append]at hnd
 obtain⟨dO,⟨dP,dC,dd⟩,dd0⟩:=hnd;obtain⟨hh,he,hx1,hn,qq⟩:=box1 hw [er idz vO,er idz vP,er idz vC];have hzz:∀o,zlt h o→zlt hh o∧hh.obj o=h.obj o:=fun o ho=>⟨Nat.lt_of_lt_of_le ho hx1.next,hx1.obj o ho⟩
 have q:=qq _ (Ext.refl hx1.wf);have kO:=mkT_I.keys (k:=k) hR.O wO;have kP:=(mkT_I.F).keys (k:=k+O.length) hR.P wP;have kC:=(mkT_I.F.F).keys (k:=k+O.length+totL List.length P) hR.C wC;have szO:=sz.O;simp only [nm_eq,nm_eq,abQ,↓reduceIte,iQ2,qL,qV,qG,nQ1,nQ2,nQ3,nQ4,nQ5,nQ6,lQ1,lQ2,lQ3,lQ4,lQ5,lQ6,lQ7,lQ8,nQ7,nQ8,zi,zU,zJ,zK,zG,nQ9,iQ3,iQ4,iQ5,iQ6,qQ,qR,qF,zZ,zm,zV,zW,recOf,zY,zM,zN,zX,zq,lQ9,lQ10,nQ10,if_true,if_false,ite_true,ite_false,lQ11,lQ12,oQ1,oQ2,reduceCtorEq,decide_true,decide_false,bQ1,bQ2,zf,zR,zb,zP,ze,zO,qH,zQ,zg,zh,lQ13,lQ14,qO,qE,qM,z8,qN,zw,qW,qA,qP,lQ15,lQ16,bQ3,bQ4,bQ5,true_and,and_true,bQ6,bQ7,lQ17,lQ18,bQ8,bQ9,bQ10,bQ11,eq_self,nQ11,nQ12,nQ13,nQ14,nQ15,he,oO,oP,oC,cO,cP,cC,ZO q];refine zBQ hR.O wO hx1.wf (hvO.mono hzz (Nat.le_refl _)) (by omega) hk0 (by omega) fun h1 u1=>?_
 have qB:h1.obj h.next=some ⟨true,[er idz vO,er idz vP,er idz vC]⟩:=by
  rw [u1.same _ (by omega) (qh.2 fun hm=>by have:h.next<h.next:=ead_z hvO _ (kO _ hm);omega)];exact q
 have mv:∀{v:PV},VOK (zlt hh) hh 0 v→(∀o∈ead v,o∉(mkI k vO O).map Prod.fst)→VOK (zlt h1) h1 0 v:=fun {v} hv' hno=>by
  have h2:=zAd u1 (fun o ho=>ho) hv'
  rw [zBH fun o ho hm=>hno o hm ho]at h2
  exact h2.mono (fun o ho=>⟨Nat.lt_of_lt_of_le ho u1.next,rfl⟩) (Nat.le_refl _)
 have hvP1:=mv (hvP.mono hzz (Nat.le_refl _)) fun o ho hm=>dd0 o (kO o hm) o (List.mem_append.2 (.inl ho)) rfl
 have hvC1:=mv (hvC.mono hzz (Nat.le_refl _)) fun o ho hm=>dd0 o (kO o hm) o (List.mem_append.2 (.inr ho)) rfl
 have hneg0:¬(k+(O.length:Int)<0):=by omega
 simp only [nm_eq,nm_eq,abQ,↓reduceIte,iQ2,qL,qV,qG,nQ1,nQ2,nQ3,nQ4,nQ5,nQ6,lQ1,lQ2,lQ3,lQ4,lQ5,lQ6,lQ7,lQ8,nQ7,nQ8,zi,zU,zJ,zK,zG,nQ9,iQ3,iQ4,iQ5,iQ6,qQ,qR,qF,zZ,zm,zV,zW,recOf,zY,zM,zN,zX,zq,lQ9,lQ10,nQ10,if_true,if_false,ite_true,ite_false,lQ11,lQ12,oQ1,oQ2,reduceCtorEq,decide_true,decide_false,bQ1,bQ2,zf,zR,zb,zP,ze,zO,qH,zQ,zg,zh,lQ13,lQ14,qO,qE,qM,z8,qN,zw,qW,qA,qP,lQ15,lQ16,bQ3,bQ4,bQ5,true_and,and_true,bQ6,bQ7,lQ17,lQ18,bQ8,bQ9,bQ10,bQ11,eq_self,nQ11,nQ12,nQ13,nQ14,nQ15,ZO qB,hneg0];refine QN hR.P wP dP u1.wf hvP1 (by have:=sz.P.l;omega) (fun x hx=>by have:=sz.P.r x hx;omega) (by omega) (by omega) fun h2 u2=>?_
 have qC:h2.obj h.next=some ⟨true,[er idz vO,er idz vP,er idz vC]⟩:=by
  rw [u2.same _ (by have:=u1.next;omega) (qh.2 fun hm=>by have:h.next<h.next:=ead_z hvP _ (kP _ hm);omega)];exact qB
 have hvC2:VOK (zlt h2) h2 0 vC:=by
  have h3:=zAd u2 (fun o ho=>ho) hvC1
  rw [zBH fun o ho hm=>dd o (kP o ho) o hm rfl]at h3
  exact h3.mono (fun o ho=>⟨Nat.lt_of_lt_of_le ho u2.next,rfl⟩) (Nat.le_refl _)
 have hneg:¬(k+(O.length:Int)+(totL List.length P:Int)<0):=by omega
 simp only [nm_eq,nm_eq,abQ,↓reduceIte,iQ2,qL,qV,qG,nQ1,nQ2,nQ3,nQ4,nQ5,nQ6,lQ1,lQ2,lQ3,lQ4,lQ5,lQ6,lQ7,lQ8,nQ7,nQ8,zi,zU,zJ,zK,zG,nQ9,iQ3,iQ4,iQ5,iQ6,qQ,qR,qF,zZ,zm,zV,zW,recOf,zY,zM,zN,zX,zq,lQ9,lQ10,nQ10,if_true,if_false,ite_true,ite_false,lQ11,lQ12,oQ1,oQ2,reduceCtorEq,decide_true,decide_false,bQ1,bQ2,zf,zR,zb,zP,ze,zO,qH,zQ,zg,zh,lQ13,lQ14,qO,qE,qM,z8,qN,zw,qW,qA,qP,lQ15,lQ16,bQ3,bQ4,bQ5,true_and,and_true,bQ6,bQ7,lQ17,lQ18,bQ8,bQ9,bQ10,bQ11,eq_self,nQ11,nQ12,nQ13,nQ14,nQ15,ZO qC,hneg];refine zB5 hR.C wC dC u2.wf hvC2 (by have:=sz.C.l;omega) (fun x hx=>⟨by have:=(sz.C.r x hx).l;omega,fun y hy=>by have:=(sz.C.r x hx).r y hy;omega⟩) (by omega) (by omega) fun h3 u3=>?_
 have u23:Upd h1 (mkF mkI List.length (k+O.length) vP P++mkF (mkF mkI List.length) (totL List.length) (k+O.length+totL List.length P) vC C) h3:=u2.trans u3 (fun o ho hm=>dd o (kP o ho) o (kC o hm) rfl) fun o ho=>by have:o<h.next:=ead_z hvC o (kC o ho);have:=u1.next;omega
 have kPC:∀o∈(mkF mkI List.length (k+O.length) vP P++mkF (mkF mkI List.length) (totL List.length) (k+O.length+totL List.length P) vC C).map Prod.fst,o∈ead vP++ead vC:=fun o ho=>by
  rw [List.map_append,List.mem_append]at ho
  exact List.mem_append.2 (ho.imp (kP o) (kC o))
 have hlt:∀o∈ead vP++ead vC,o<h.next:=fun o ho=>(List.mem_append.1 ho).elim (fun hm=>ead_z hvP o hm) fun hm=>ead_z hvC o hm
 have u4:Upd hh (mkPr k vO vP vC O P C) h3:=u1.trans u23 (fun o ho hm=>dd0 o (kO o ho) o (kPC o hm) rfl) fun o ho=>by have:=hlt o (kPC o ho);omega
 have u5:=hx1.upd.trans u4 (fun o ho=>by cases ho) fun o ho=>by
  unfold mkPr at ho
  rw [List.map_append,List.mem_append]at ho
  exact ho.elim (fun hm=>ead_z hvO o (kO o hm)) fun hm=>hlt o (kPC o hm)
 have e:k+(O.length:Int)+(totL List.length P:Int)+(totL (totL List.length) C:Int)=k+((O.length+totL List.length P+totL (totL List.length) C:Nat):Int):=by omega
 rw [e];simp only [nm_eq,nm_eq,abQ,↓reduceIte,iQ2,qL,qV,qG,nQ1,nQ2,nQ3,nQ4,nQ5,nQ6,lQ1,lQ2,lQ3,lQ4,lQ5,lQ6,lQ7,lQ8,nQ7,nQ8,zi,zU,zJ,zK,zG,nQ9,iQ3,iQ4,iQ5,iQ6,qQ,qR,qF,zZ,zm,zV,zW,recOf,zY,zM,zN,zX,zq,lQ9,lQ10,nQ10,if_true,if_false,ite_true,ite_false,lQ11,lQ12,oQ1,oQ2,reduceCtorEq,decide_true,decide_false,bQ1,bQ2,zf,zR,zb,zP,ze,zO,qH,zQ,zg,zh,lQ13,lQ14,qO,qE,qM,z8,qN,zw,qW,qA,qP,lQ15,lQ16,bQ3,bQ4,bQ5,true_and,and_true,bQ6,bQ7,lQ17,lQ18,bQ8,bQ9,bQ10,bQ11,eq_self,nQ11,nQ12,nQ13,nQ14,nQ15];have e2:=hk h3 (by simpa using u5)
 simpa only [Nat.add_assoc]using e2
end
section
variable {σ:PHeap} {K:PV→PHeap→Prop} {p d:Int} {O:List Int} {P:List (List Int)} {C As:List (List (List Int))} {F:List (List Int)} {vO vP vC vA:PV} {lo hi:Nat}
theorem zBk {k:Int} (hR:IsPr vO vP vC O P C) (hW:Wh (.agg [vO,vP,vC])):∀o∈(mkPr k vO vP vC O P C).map Prod.fst,o∈ead (.agg [vO,vP,vC]):=by
 obtain⟨wO,wP,wC,_⟩:=hW;intro o ho;unfold mkPr at ho
 rw [List.map_append,List.mem_append,List.map_append,List.mem_append]at ho
 simp only [ead,eads,List.nil_append,List.append_nil,List.mem_append];exact ho.imp (mkT_I.keys hR.O wO o) fun h=>h.imp (mkT_I.F.keys hR.P wP o) (mkT_I.F.F.keys hR.C wC o)
theorem keysP {k:Int} (hR:IsPr vO vP vC O P C) (ho:Own lo hi (.agg [vO,vP,vC])):∀o∈(mkPr k vO vP vC O P C).map Prod.fst,lo≤o∧o<hi:=fun o hm=>ho.lt o (zBk hR ho.wh o hm)
theorem zDG {k:Int} (hR:IsPr vO vP vC O P C) (ho:Own lo hi (.agg [vO,vP,vC])) (sz:SzP O P C) (hk0:0≤k) (hk1:k+totP O P C≤4611686018427387904):
  Qr Tryz.prog 18 [.agg [vO,vP,vC],.int .i64 k] σ (mkPr k vO vP vC O P C) .i64 (k+totP O P C):=
 Qr.of ⟨hR.O.bel 0,hR.P.bel 0,hR.C.bel 0,trivial⟩ (zBk hR ho.wh) fun h hw hv=>zDH hR ho.wh ho.nd hw hv sz hk0 hk1 fun h' u=>⟨rfl,u⟩
theorem zEd (hR:IsPr vO vP vC O P C) (sz:SzP O P C) (hk:∀vO vP vC t,IsPr vO vP vC O P C→Own σ.top t (.agg [vO,vP,vC])→σ.top≤t→K (.agg [vO,vP,vC]) (σ.up t)):zA Tryz.prog 13 [.agg [vO,vP,vC]] σ K:=by
 have h0:=hR.O.one;have h1:=hR.P.one;have h2:=hR.C.one;refine zA.gh ?_;refine zB mix Tryz.func13 ?_;simp only [pwA,seval,-iQ0,h0,h1,h2];refine zFE hR.O sz.O fun v0 t0 hv0 ho0 ht0=>?_
 simp only [pwA,seval,-iQ0,hv0.cells,hv0.one];refine zBr hR.P sz.P fun v1 t1 hv1 ho1 ht1=>?_
 simp only [pwA,seval,-iQ0,hv0.one,hv1.cells,hv1.one];refine zHY hR.C sz.C fun v2 t2 hv2 ho2 ht2=>?_
 simp only [pwA,seval,-iQ0,hv2.cells,hv2.one,hv1.one,hv0.one];have hoo:=(((Owns.nil σ.top σ.top).snoc ho0 (Nat.le_refl _) ht0).snoc ho1 ht0 ht1).snoc ho2 (Nat.le_trans ht0 ht1) ht2;exact Gh.fin0T (t:=t2) (v:=.agg [v0,v1,v2]) (Keep.up (((zC σ _).new _).new _) (Nat.le_trans (Nat.le_trans ht0 ht1) ht2)) (Nat.le_refl _) ⟨hv0.bel _,hv1.bel _,hv2.bel _,trivial⟩ fun _=>hk v0 v1 v2 t2 ⟨hv0,hv1,hv2⟩ hoo.agg (Nat.le_trans (Nat.le_trans ht0 ht1) ht2)
theorem zBf {xs:List (List Int)} (sz:SzL xs):totL List.length xs≤1099511627776:=by
 have h3:=zF8 (m:=1048576) (len:=List.length) sz.r;have h4:=sz.l;omega
theorem zNm {As:List (List (List Int))} (sz:SzM As):totL (totL List.length) As≤1152921504606846976:=by
 have h3:=zF8 (m:=1099511627776) (len:=totL List.length) (xs:=As) fun q hq=>zBf (sz.r q hq)
 have h4:=sz.l;omega
theorem zHX (sz:SzP O P C):totP O P C≤1153000000000000000:=by
 have h1:=zBf sz.P;have h2:=zNm sz.C;have h3:=sz.O;unfold totP;omega
end
end Go.Proofs
namespace Go.Grp
end Go.Grp
namespace Go.Proofs
open Go.Ab Go.Lie Go.Grp
section
variable {h:AHeap} {K:AV→AHeap→Prop}
def mkG (k:Int) (vG:PV) (G:List Pre):List (Nat×List PV):=
 match vG,G with
 | .fz _ _ _ [vO,vP,vC],[g]=>mkPr k vO vP vC g.1 g.2.1 g.2.2
 | _,_=>[]
def totG (G:List Pre):Nat:=
 match G with
 | [g]=>totP g.1 g.2.1 g.2.2
 | _=>0
theorem zG5 {k:Int} {w:Bool} {a:AV} (hv:VOK (zlt h) h 0 (.fz w a 0 [])) (hk:K (.int .i64 k) h):qj Tryz.prog 49 [a,.int .i64 k] h K:=by
 refine ZV mix Tryz.func49 cf49 rfl ?_;dsimp only [if49,mI0,kI0,lI0,fI0,bI0,cI0,sI0,C2,R0,S0];have hlen:aLen a=some (.int .i64 ((0:Nat):Int)):=by
  obtain⟨rfl,_⟩|⟨o,off,cap,rfl,_⟩:=hv.1<;>rfl
 simp only [nm_eq,nm_eq,abQ,↓reduceIte,iQ2,qL,qV,qG,nQ1,nQ2,nQ3,nQ4,nQ5,nQ6,lQ1,lQ2,lQ3,lQ4,lQ5,lQ6,lQ7,lQ8,nQ7,nQ8,zi,zU,zJ,zK,zG,nQ9,iQ3,iQ4,iQ5,iQ6,qQ,qR,qF,zZ,zm,zV,zW,recOf,zY,zM,zN,zX,zq,lQ9,lQ10,nQ10,if_true,if_false,ite_true,ite_false,lQ11,lQ12,oQ1,oQ2,reduceCtorEq,decide_true,decide_false,bQ1,bQ2,zf,zR,zb,zP,ze,zO,qH,zQ,zg,zh,lQ13,lQ14,qO,qE,qM,z8,qN,zw,qW,qA,qP,lQ15,lQ16,bQ3,bQ4,bQ5,true_and,and_true,bQ6,bQ7,lQ17,lQ18,bQ8,bQ9,bQ10,bQ11,eq_self,nQ11,nQ12,nQ13,nQ14,nQ15,er];refine Q0 (fun m vs h'=>vs=[a,.int .i64 k,.int .i64 0]∧h'=h) 0 ⟨rfl,rfl⟩ ?_
 rintro m vs h' ⟨rfl,rfl⟩
 simp only [nm_eq,nm_eq,abQ,↓reduceIte,iQ2,qL,qV,qG,nQ1,nQ2,nQ3,nQ4,nQ5,nQ6,lQ1,lQ2,lQ3,lQ4,lQ5,lQ6,lQ7,lQ8,nQ7,nQ8,zi,zU,zJ,zK,zG,nQ9,iQ3,iQ4,iQ5,iQ6,qQ,qR,qF,zZ,zm,zV,zW,recOf,zY,zM,zN,zX,zq,lQ9,lQ10,nQ10,if_true,if_false,ite_true,ite_false,lQ11,lQ12,oQ1,oQ2,reduceCtorEq,decide_true,decide_false,bQ1,bQ2,zf,zR,zb,zP,ze,zO,qH,zQ,zg,zh,lQ13,lQ14,qO,qE,qM,z8,qN,zw,qW,qA,qP,lQ15,lQ16,bQ3,bQ4,bQ5,true_and,and_true,bQ6,bQ7,lQ17,lQ18,bQ8,bQ9,bQ10,bQ11,eq_self,nQ11,nQ12,nQ13,nQ14,nQ15,hlen,Int.lt_irrefl];exact hk
theorem zG4 {k:Int} {o:Nat} {cap:Cap} {vO vP vC:PV} {O:List Int} {P:List (List Int)} {C:List (List (List Int))} (hR:IsPr vO vP vC O P C) (hW:Whs [vO,vP,vC]) (hnd:(o::eads [vO,vP,vC]).Nodup) (hw:HWF h) (q:h.obj o=some ⟨true,[er idz vO,er idz vP,er idz vC]⟩) (hz:o<h.next) (hv:VOKs (zlt h) h 0 [vO,vP,vC]) (sz:SzP O P C) (hk0:0≤k) (hk1:k+totP O P C≤4611686018427387904)
  (hk:∀h',Upd h (mkPr k vO vP vC O P C) h'→K (.int .i64 (k+totP O P C)) h'):qj Tryz.prog 49 [.sl o 0 1 cap,.int .i64 k] h K:=by
 refine ZV mix Tryz.func49 cf49 rfl ?_;dsimp only [if49,mI0,kI0,lI0,fI0,bI0,cI0,sI0,C2,R0,S0];unfold totP at hk1
 obtain⟨hvO,hvP,hvC,_⟩:=hv;obtain⟨wO,wP,wC,_⟩:=hW;obtain⟨no,hnd⟩:=List.nodup_cons.1 hnd;simp only [eads,List.append_nil,List.mem_append,not_or]at no
 simp only [eads,List.append_nil,List.nodup_append]at hnd
 obtain⟨nO,nP,nC⟩:=no;obtain⟨dO,⟨dP,dC,dd⟩,dd0⟩:=hnd;have kO:=mkT_I.keys (k:=k) hR.O wO;have kP:=(mkT_I.F).keys (k:=k+O.length) hR.P wP;have kC:=(mkT_I.F.F).keys (k:=k+O.length+totL List.length P) hR.C wC;have szO:=sz.O;have ai:q8 3 (.sl o 0 1 cap) (.int .i64 0)=some (.ptr o 0):=by simp [q8]
 have w1:IntKind.i64.wrap 1=1:=wrap64 (by omega) (by omega)
 simp only [nm_eq,nm_eq,abQ,↓reduceIte,iQ2,qL,qV,qG,nQ1,nQ2,nQ3,nQ4,nQ5,nQ6,lQ1,lQ2,lQ3,lQ4,lQ5,lQ6,lQ7,lQ8,nQ7,nQ8,zi,zU,zJ,zK,zG,nQ9,iQ3,iQ4,iQ5,iQ6,qQ,qR,qF,zZ,zm,zV,zW,recOf,zY,zM,zN,zX,zq,lQ9,lQ10,nQ10,if_true,if_false,ite_true,ite_false,lQ11,lQ12,oQ1,oQ2,reduceCtorEq,decide_true,decide_false,bQ1,bQ2,zf,zR,zb,zP,ze,zO,qH,zQ,zg,zh,lQ13,lQ14,qO,qE,qM,z8,qN,zw,qW,qA,qP,lQ15,lQ16,bQ3,bQ4,bQ5,true_and,and_true,bQ6,bQ7,lQ17,lQ18,bQ8,bQ9,bQ10,bQ11,eq_self,nQ11,nQ12,nQ13,nQ14,nQ15];refine Q0 (fun m vs h'=>(m=1∧vs=[.sl o 0 1 cap,.int .i64 k,.int .i64 0]∧h'=h)∨(m=0∧vs=[.sl o 0 1 cap,.int .i64 (k+totP O P C),.int .i64 1]∧Upd h (mkPr k vO vP vC O P C) h')) 1 (.inl ⟨rfl,rfl,rfl⟩) ?_
 rintro m vs h' (⟨rfl,rfl,rfl⟩ | ⟨rfl,rfl,u⟩)
 rotate_left
 ·simp only [nm_eq,nm_eq,abQ,↓reduceIte,iQ2,qL,qV,qG,nQ1,nQ2,nQ3,nQ4,nQ5,nQ6,lQ1,lQ2,lQ3,lQ4,lQ5,lQ6,lQ7,lQ8,nQ7,nQ8,zi,zU,zJ,zK,zG,nQ9,iQ3,iQ4,iQ5,iQ6,qQ,qR,qF,zZ,zm,zV,zW,recOf,zY,zM,zN,zX,zq,lQ9,lQ10,nQ10,if_true,if_false,ite_true,ite_false,lQ11,lQ12,oQ1,oQ2,reduceCtorEq,decide_true,decide_false,bQ1,bQ2,zf,zR,zb,zP,ze,zO,qH,zQ,zg,zh,lQ13,lQ14,qO,qE,qM,z8,qN,zw,qW,qA,qP,lQ15,lQ16,bQ3,bQ4,bQ5,true_and,and_true,bQ6,bQ7,lQ17,lQ18,bQ8,bQ9,bQ10,bQ11,eq_self,nQ11,nQ12,nQ13,nQ14,nQ15,Int.lt_irrefl]
  exact hk _ u
 have d01:(0:Int)<((1:Nat):Int):=by omega
 simp only [nm_eq,nm_eq,abQ,↓reduceIte,iQ2,qL,qV,qG,nQ1,nQ2,nQ3,nQ4,nQ5,nQ6,lQ1,lQ2,lQ3,lQ4,lQ5,lQ6,lQ7,lQ8,nQ7,nQ8,zi,zU,zJ,zK,zG,nQ9,iQ3,iQ4,iQ5,iQ6,qQ,qR,qF,zZ,zm,zV,zW,recOf,zY,zM,zN,zX,zq,lQ9,lQ10,nQ10,if_true,if_false,ite_true,ite_false,lQ11,lQ12,oQ1,oQ2,reduceCtorEq,decide_true,decide_false,bQ1,bQ2,zf,zR,zb,zP,ze,zO,qH,zQ,zg,zh,lQ13,lQ14,qO,qE,qM,z8,qN,zw,qW,qA,qP,lQ15,lQ16,bQ3,bQ4,bQ5,true_and,and_true,bQ6,bQ7,lQ17,lQ18,bQ8,bQ9,bQ10,bQ11,eq_self,nQ11,nQ12,nQ13,nQ14,nQ15,d01,ai,ZO q];refine zBQ hR.O wO hw hvO (by omega) hk0 (by omega) fun h1 u1=>?_
 have qB:h1.obj o=some ⟨true,[er idz vO,er idz vP,er idz vC]⟩:=by
  rw [u1.same _ hz (qh.2 fun hm=>nO (kO _ hm))];exact q
 have mv:∀{v:PV},VOK (zlt h') h' 0 v→(∀o∈ead v,o∉(mkI k vO O).map Prod.fst)→VOK (zlt h1) h1 0 v:=fun {v} hv' hno=>by
  have h2:=zAd u1 (fun o ho=>ho) hv'
  rw [zBH fun o ho hm=>hno o hm ho]at h2
  exact h2.mono (fun o ho=>⟨Nat.lt_of_lt_of_le ho u1.next,rfl⟩) (Nat.le_refl _)
 have hvP1:=mv hvP fun o ho hm=>dd0 o (kO o hm) o (List.mem_append.2 (.inl ho)) rfl
 have hvC1:=mv hvC fun o ho hm=>dd0 o (kO o hm) o (List.mem_append.2 (.inr ho)) rfl
 simp only [nm_eq,nm_eq,abQ,↓reduceIte,iQ2,qL,qV,qG,nQ1,nQ2,nQ3,nQ4,nQ5,nQ6,lQ1,lQ2,lQ3,lQ4,lQ5,lQ6,lQ7,lQ8,nQ7,nQ8,zi,zU,zJ,zK,zG,nQ9,iQ3,iQ4,iQ5,iQ6,qQ,qR,qF,zZ,zm,zV,zW,recOf,zY,zM,zN,zX,zq,lQ9,lQ10,nQ10,if_true,if_false,ite_true,ite_false,lQ11,lQ12,oQ1,oQ2,reduceCtorEq,decide_true,decide_false,bQ1,bQ2,zf,zR,zb,zP,ze,zO,qH,zQ,zg,zh,lQ13,lQ14,qO,qE,qM,z8,qN,zw,qW,qA,qP,lQ15,lQ16,bQ3,bQ4,bQ5,true_and,and_true,bQ6,bQ7,lQ17,lQ18,bQ8,bQ9,bQ10,bQ11,eq_self,nQ11,nQ12,nQ13,nQ14,nQ15,ai,ZO qB];refine QN hR.P wP dP u1.wf hvP1 (by have:=sz.P.l;omega) (fun x hx=>by have:=sz.P.r x hx;omega) (by omega) (by omega) fun h2 u2=>?_
 have qC:h2.obj o=some ⟨true,[er idz vO,er idz vP,er idz vC]⟩:=by
  rw [u2.same _ (Nat.lt_of_lt_of_le hz u1.next) (qh.2 fun hm=>nP (kP _ hm))];exact qB
 have hvC2:VOK (zlt h2) h2 0 vC:=by
  have h3:=zAd u2 (fun o ho=>ho) hvC1
  rw [zBH fun o ho hm=>dd o (kP o ho) o hm rfl]at h3
  exact h3.mono (fun o ho=>⟨Nat.lt_of_lt_of_le ho u2.next,rfl⟩) (Nat.le_refl _)
 simp only [nm_eq,nm_eq,abQ,↓reduceIte,iQ2,qL,qV,qG,nQ1,nQ2,nQ3,nQ4,nQ5,nQ6,lQ1,lQ2,lQ3,lQ4,lQ5,lQ6,lQ7,lQ8,nQ7,nQ8,zi,zU,zJ,zK,zG,nQ9,iQ3,iQ4,iQ5,iQ6,qQ,qR,qF,zZ,zm,zV,zW,recOf,zY,zM,zN,zX,zq,lQ9,lQ10,nQ10,if_true,if_false,ite_true,ite_false,lQ11,lQ12,oQ1,oQ2,reduceCtorEq,decide_true,decide_false,bQ1,bQ2,zf,zR,zb,zP,ze,zO,qH,zQ,zg,zh,lQ13,lQ14,qO,qE,qM,z8,qN,zw,qW,qA,qP,lQ15,lQ16,bQ3,bQ4,bQ5,true_and,and_true,bQ6,bQ7,lQ17,lQ18,bQ8,bQ9,bQ10,bQ11,eq_self,nQ11,nQ12,nQ13,nQ14,nQ15,ai,ZO qC];refine zB5 hR.C wC dC u2.wf hvC2 (by have:=sz.C.l;omega) (fun x hx=>⟨by have:=(sz.C.r x hx).l;omega,fun y hy=>by have:=(sz.C.r x hx).r y hy;omega⟩) (by omega) (by omega) fun h3 u3=>?_
 have u23:Upd h1 (mkF mkI List.length (k+O.length) vP P++mkF (mkF mkI List.length) (totL List.length) (k+O.length+totL List.length P) vC C) h3:=u2.trans u3 (fun o ho hm=>dd o (kP o ho) o (kC o hm) rfl) fun o ho=>by have:o<h'.next:=ead_z hvC o (kC o ho);have:=u1.next;omega
 have kPC:∀o∈(mkF mkI List.length (k+O.length) vP P++mkF (mkF mkI List.length) (totL List.length) (k+O.length+totL List.length P) vC C).map Prod.fst,o∈ead vP++ead vC:=fun o ho=>by
  rw [List.map_append,List.mem_append]at ho
  exact List.mem_append.2 (ho.imp (kP o) (kC o))
 have hlt:∀o∈ead vP++ead vC,o<h'.next:=fun o ho=>(List.mem_append.1 ho).elim (fun hm=>ead_z hvP o hm) fun hm=>ead_z hvC o hm
 have u4:Upd h' (mkPr k vO vP vC O P C) h3:=u1.trans u23 (fun o ho hm=>dd0 o (kO o ho) o (kPC o hm) rfl) fun o ho=>hlt o (kPC o ho)
 have e:k+(O.length:Int)+(totL List.length P:Int)+(totL (totL List.length) C:Int)=k+(totP O P C:Int):=by unfold totP;omega
 rw [e];simp only [nm_eq,nm_eq,abQ,↓reduceIte,iQ2,qL,qV,qG,nQ1,nQ2,nQ3,nQ4,nQ5,nQ6,lQ1,lQ2,lQ3,lQ4,lQ5,lQ6,lQ7,lQ8,nQ7,nQ8,zi,zU,zJ,zK,zG,nQ9,iQ3,iQ4,iQ5,iQ6,qQ,qR,qF,zZ,zm,zV,zW,recOf,zY,zM,zN,zX,zq,lQ9,lQ10,nQ10,if_true,if_false,ite_true,ite_false,lQ11,lQ12,oQ1,oQ2,reduceCtorEq,decide_true,decide_false,bQ1,bQ2,zf,zR,zb,zP,ze,zO,qH,zQ,zg,zh,lQ13,lQ14,qO,qE,qM,z8,qN,zw,qW,qA,qP,lQ15,lQ16,bQ3,bQ4,bQ5,true_and,and_true,bQ6,bQ7,lQ17,lQ18,bQ8,bQ9,bQ10,bQ11,eq_self,nQ11,nQ12,nQ13,nQ14,nQ15,w1];exact⟨0,by omega,.inr ⟨rfl,rfl,u4⟩⟩
theorem zEz {vG:PV} {G:List Pre} (hG:FG vG G) (h1:G.length≤1):(G=[]∧∃w a,vG=.fz w a 0 [])∨∃w a vO vP vC O P C,G=[(O,P,C)]∧vG=.fz w a 1 [vO,vP,vC]∧IsPr vO vP vC O P C:=by
 obtain⟨w,a,rows,rfl,hr⟩:=hG
 match G,rows,hr with
 | [],[],_=>exact .inl ⟨rfl,w,a,rfl⟩
 | [],q::r,hr=>have:=hr.1;simp at this
 | g::G',[],hr=>have:=hr.1;simp at this
 | g::g'::G',_,_=>simp at h1
 | [g],q::q'::r,hr=>have:=hr.1;simp at this
 | [(O,P,C)],[(vO,vP,vC)],hr=>exact .inr ⟨w,a,vO,vP,vC,O,P,C,rfl,rfl,hr.2 0 _ _ rfl rfl⟩
theorem zEp {k:Int} {vG:PV} {G:List Pre} (hG:FG vG G) (h1:G.length≤1) (hW:Wh vG):∀o∈(mkG k vG G).map Prod.fst,o∈ead vG:=by
 intro x hx;rcases zEz hG h1 with ⟨rfl,w,a,rfl⟩|⟨w,a,vO,vP,vC,O,P,C,rfl,rfl,hR⟩
 ·cases hx
 ·obtain⟨hw,ha,hWs⟩:=hW.resolve_left (by simp)
  subst hw;cases a<;>simp only [isSl,Bool.false_eq_true]at ha
  rw [QB (by simp)]
  exact List.mem_cons_of_mem _ (zBk (k:=k) hR hWs x hx)
theorem zIA {k:Int} {vG:PV} {G:List Pre} (hG:FG vG G) (h1:G.length≤1) (hW:Wh vG) (hnd:(ead vG).Nodup) (hw:HWF h) (hv:VOK (zlt h) h 0 vG) (szG:SzG G) (hk0:0≤k) (hk1:k+totG G≤4611686018427387904)
  (hk:∀h',Upd h (mkG k vG G) h'→K (.int .i64 (k+totG G)) h'):qj Tryz.prog 49 [er idz vG,.int .i64 k] h K:=by
 rcases zEz hG h1 with ⟨rfl,w,a,rfl⟩|⟨w,a,vO,vP,vC,O,P,C,rfl,rfl,hR⟩
 ·have:=hk h (Upd.refl hw)
  refine zG5 (w:=w) (a:=a) hv ?_
  simpa [totG]using this
 ·obtain⟨hwt,ha,hWs⟩:=hW.resolve_left (by simp)
  obtain⟨o,cap,rfl,ho,hz⟩:=hv.whole hwt (by simp)
  rw [QB (by simp)]at hnd
  exact zG4 hR hWs hnd hw ho hz hv.2 (szG.r _ (List.mem_singleton.2 rfl)) hk0 hk1 hk
def mkC (k:Int) (vG vL:PV) (G:List Pre) (L:List (List Int)):List (Nat×List PV):=mkG k vG G++mkF mkI List.length (k+totG G) vL L
def totC (G:List Pre) (L:List (List Int)):Nat:=totG G+totL List.length L
theorem zD3 {k kk:Int} {vG vL:PV} {G:List Pre} {L:List (List Int)} (hG:FG vG G) (h1:G.length≤1) (hL:FII vL L) (hW:Wh (.agg [.int .i64 kk,vG,vL])) (hnd:(ead (.agg [.int .i64 kk,vG,vL])).Nodup) (hw:HWF h) (hv:VOK (zlt h) h 0 (.agg [.int .i64 kk,vG,vL])) (szG:SzG G) (szL:SzL L) (hk0:0≤k) (hk1:k+totC G L≤4611686018427387904)
  (hk:∀h',Upd h (mkC k vG vL G L) h'→K (.int .i64 (k+totC G L)) h'):qj Tryz.prog 20 [er idz (.agg [.int .i64 kk,vG,vL]),.int .i64 k] h K:=by
 refine ZV mix Tryz.func20 cf20 rfl ?_;dsimp only [if20,mI0,kI0,lI0,fI0,C2,R0,S0];simp only [er,ers];unfold totC at hk hk1
 obtain⟨_,hvG,hvL,_⟩:=hv;obtain⟨_,wG,wL,_⟩:=hW;have oG:(er idz vG).one=true:=by rw [zCC hvG];exact hG.one
 have oL:(er idz vL).one=true:=by rw [zCC hvL];exact hL.one
 have cG:=QC oG;have cL:=QC oL;simp only [ead,eads,List.nil_append,List.append_nil,List.nodup_append]at hnd
 obtain⟨dG,dL,dd⟩:=hnd;obtain⟨hh,he,hx1,hn,qq⟩:=box1 hw [.int .i64 kk,er idz vG,er idz vL];have hzz:∀o,zlt h o→zlt hh o∧hh.obj o=h.obj o:=fun o ho=>⟨Nat.lt_of_lt_of_le ho hx1.next,hx1.obj o ho⟩
 have q:=qq _ (Ext.refl hx1.wf);have kG:=zEp (k:=k) hG h1 wG;have kL:=(mkT_I.F).keys (k:=k+totG G) hL wL;simp only [nm_eq,nm_eq,abQ,↓reduceIte,iQ2,qL,qV,qG,nQ1,nQ2,nQ3,nQ4,nQ5,nQ6,lQ1,lQ2,lQ3,lQ4,lQ5,lQ6,lQ7,lQ8,nQ7,nQ8,zi,zU,zJ,zK,zG,nQ9,iQ3,iQ4,iQ5,iQ6,qQ,qR,qF,zZ,zm,zV,zW,recOf,zY,zM,zN,zX,zq,lQ9,lQ10,nQ10,if_true,if_false,ite_true,ite_false,lQ11,lQ12,oQ1,oQ2,reduceCtorEq,decide_true,decide_false,bQ1,bQ2,zf,zR,zb,zP,ze,zO,qH,zQ,zg,zh,lQ13,lQ14,qO,qE,qM,z8,qN,zw,qW,qA,qP,lQ15,lQ16,bQ3,bQ4,bQ5,true_and,and_true,bQ6,bQ7,lQ17,lQ18,bQ8,bQ9,bQ10,bQ11,eq_self,nQ11,nQ12,nQ13,nQ14,nQ15,he,oG,oL,cG,cL,ZO q];refine zIA hG h1 wG dG hx1.wf (hvG.mono hzz (Nat.le_refl _)) szG hk0 (by omega) fun h2 u1=>?_
 have qB:h2.obj h.next=some ⟨true,[.int .i64 kk,er idz vG,er idz vL]⟩:=by
  rw [u1.same _ (by omega) (qh.2 fun hm=>by have:h.next<h.next:=ead_z hvG _ (kG _ hm);omega)];exact q
 have mv:∀{v:PV},VOK (zlt hh) hh 0 v→(∀o∈ead v,o∉(mkG k vG G).map Prod.fst)→VOK (zlt h2) h2 0 v:=fun {v} hv' hno=>by
  have h2:=zAd u1 (fun o ho=>ho) hv'
  rw [zBH fun o ho hm=>hno o hm ho]at h2
  exact h2.mono (fun o ho=>⟨Nat.lt_of_lt_of_le ho u1.next,rfl⟩) (Nat.le_refl _)
 have hvL1:=mv (hvL.mono hzz (Nat.le_refl _)) fun o ho hm=>dd o (kG o hm) o ho rfl
 simp only [nm_eq,nm_eq,abQ,↓reduceIte,iQ2,qL,qV,qG,nQ1,nQ2,nQ3,nQ4,nQ5,nQ6,lQ1,lQ2,lQ3,lQ4,lQ5,lQ6,lQ7,lQ8,nQ7,nQ8,zi,zU,zJ,zK,zG,nQ9,iQ3,iQ4,iQ5,iQ6,qQ,qR,qF,zZ,zm,zV,zW,recOf,zY,zM,zN,zX,zq,lQ9,lQ10,nQ10,if_true,if_false,ite_true,ite_false,lQ11,lQ12,oQ1,oQ2,reduceCtorEq,decide_true,decide_false,bQ1,bQ2,zf,zR,zb,zP,ze,zO,qH,zQ,zg,zh,lQ13,lQ14,qO,qE,qM,z8,qN,zw,qW,qA,qP,lQ15,lQ16,bQ3,bQ4,bQ5,true_and,and_true,bQ6,bQ7,lQ17,lQ18,bQ8,bQ9,bQ10,bQ11,eq_self,nQ11,nQ12,nQ13,nQ14,nQ15,ZO qB];refine QN hL wL dL u1.wf hvL1 (by have:=szL.l;omega) (fun x hx=>by have:=szL.r x hx;omega) (by omega) (by omega) fun h3 u2=>?_
 have u4:Upd hh (mkC k vG vL G L) h3:=u1.trans u2 (fun o ho hm=>dd o (kG o ho) o (kL o hm) rfl) fun o ho=>by have:o<h.next:=ead_z hvL o (kL o ho);omega
 have u5:=hx1.upd.trans u4 (fun o ho=>by cases ho) fun o ho=>by
  unfold mkC at ho
  rw [List.map_append,List.mem_append]at ho
  exact ho.elim (fun hm=>ead_z hvG o (kG o hm)) fun hm=>ead_z hvL o (kL o hm)
 have e:k+(totG G:Int)+(totL List.length L:Int)=k+((totG G+totL List.length L:Nat):Int):=by omega
 rw [e];simp only [nm_eq,nm_eq,abQ,↓reduceIte,iQ2,qL,qV,qG,nQ1,nQ2,nQ3,nQ4,nQ5,nQ6,lQ1,lQ2,lQ3,lQ4,lQ5,lQ6,lQ7,lQ8,nQ7,nQ8,zi,zU,zJ,zK,zG,nQ9,iQ3,iQ4,iQ5,iQ6,qQ,qR,qF,zZ,zm,zV,zW,recOf,zY,zM,zN,zX,zq,lQ9,lQ10,nQ10,if_true,if_false,ite_true,ite_false,lQ11,lQ12,oQ1,oQ2,reduceCtorEq,decide_true,decide_false,bQ1,bQ2,zf,zR,zb,zP,ze,zO,qH,zQ,zg,zh,lQ13,lQ14,qO,qE,qM,z8,qN,zw,qW,qA,qP,lQ15,lQ16,bQ3,bQ4,bQ5,true_and,and_true,bQ6,bQ7,lQ17,lQ18,bQ8,bQ9,bQ10,bQ11,eq_self,nQ11,nQ12,nQ13,nQ14,nQ15];have e2:=hk h3 (by simpa using u5)
 simpa only [Nat.add_assoc]using e2
end
section
variable {σ:PHeap} {K:PV→PHeap→Prop} {G:List Pre} {L:List (List Int)} {vG vL:PV} {lo hi:Nat} {kk:Int}
theorem zH8 {k:Int} (hG:FG vG G) (h1:G.length≤1) (hL:FII vL L) (hW:Wh (.agg [.int .i64 kk,vG,vL])):∀o∈(mkC k vG vL G L).map Prod.fst,o∈ead (.agg [.int .i64 kk,vG,vL]):=by
 obtain⟨_,wG,wL,_⟩:=hW;intro o ho;unfold mkC at ho
 rw [List.map_append,List.mem_append]at ho
 simp only [ead,eads,List.nil_append,List.append_nil,List.mem_append];exact ho.imp (zEp hG h1 wG o) (mkT_I.F.keys hL wL o)
theorem keysC {k:Int} (hG:FG vG G) (h1:G.length≤1) (hL:FII vL L) (ho:Own lo hi (.agg [.int .i64 kk,vG,vL])):∀o∈(mkC k vG vL G L).map Prod.fst,lo≤o∧o<hi:=fun o hm=>ho.lt o (zH8 (kk:=kk) hG h1 hL ho.wh o hm)
theorem zD2 {k:Int} (hG:FG vG G) (h1:G.length≤1) (hL:FII vL L) (ho:Own lo hi (.agg [.int .i64 kk,vG,vL])) (szG:SzG G) (szL:SzL L) (hk0:0≤k) (hk1:k+totC G L≤4611686018427387904):
  Qr Tryz.prog 20 [.agg [.int .i64 kk,vG,vL],.int .i64 k] σ (mkC k vG vL G L) .i64 (k+totC G L):=
 Qr.of ⟨trivial,hG.bel 0,hL.bel 0,trivial⟩ (zH8 hG h1 hL ho.wh) fun h hw hv=>zD3 hG h1 hL ho.wh ho.nd hw hv szG szL hk0 hk1 fun h' u=>⟨rfl,u⟩
def HG (v:PV) (G:List Pre) (k:Int):Prop:=
 (G=[]∧∃w a,v=.fz w a 0 [])∨∃w a v0 v1 v2 O P C,G=[(O,P,C)]∧v=.fz w a 1 [v0,v1,v2]∧FI v0 (sqI k O)∧FII v1 (sqL sqI List.length (k+O.length) P)∧FIII v2 (sqL (sqL sqI List.length) (totL List.length) (k+O.length+totL List.length P) C)
theorem HG.one {v:PV} {k:Int} (h:HG v G k):v.one=true:=by
 rcases h with ⟨_,w,a,rfl⟩|⟨w,a,_,_,_,_,_,_,_,rfl,_⟩<;>rfl
end
end Go.Proofs
