/- What a law writes over what it holds, and how it looks at that again. -/
import Derived.Test.YtjlpbpfaihhamaaGreatDoorBP30
import Derived.Test.YtjlpbpfaihhamaaGreatDoorBAbPn
open Nat renaming left_eq_add→nQ1,add_eq_left→nQ2,succ_ne_self→nQ3,one_ne_zero→nQ4,add_left_cancel_iff→nQ5,add_assoc→nQ6,reduceLeDiff→nQ7,le_refl→nQ8,lt_add_one→nQ9,reduceEqDiff→nQ10,reduceBEq→nQ11,reduceAdd→nQ12,mul_one→nQ13,zero_add→nQ14,add_zero→nQ15
open Int renaming reduceNatCast'→iQ0,toNat_natCast→iQ2,reduceEq→iQ3,reduceLT→iQ4,reduceLE→iQ5,reduceNeg→iQ6
open List renaming getElem?_cons_zero→lQ1,getElem?_cons_succ→lQ2,take_succ_cons→lQ3,take_zero→lQ4,drop_succ_cons→lQ5,drop_zero→lQ6,take_nil→lQ7,drop_nil→lQ8,map_cons→lQ9,map_nil→lQ10,nil_append→lQ11,cons_append→lQ12,all_cons→lQ13,all_nil→lQ14,length_cons→lQ15,length_nil→lQ16,contains_cons→lQ17,contains_nil→lQ18
open Bool renaming not_true→bQ1,not_false→bQ2,and_true→bQ3,true_and→bQ4,and_self→bQ5,true_eq_false→bQ6,false_eq_true→bQ7,or_false→bQ8,or_true→bQ9,true_or→bQ10,false_or→bQ11
open Option renaming map_some→oQ1,map_none→oQ2
set_option maxRecDepth 100000
set_option linter.unusedSimpArgs false
set_option linter.unusedVariables false
namespace Go.Proofs
open Go.Ab Go.Lie
section
variable {h:AHeap} {K:AV→AHeap→Prop}
theorem zB3 {v:PV} {xs:List Int} {k:Int} (hI:FI v xs) (hW:Wh v) (hw:HWF h) (hv:VOK (zlt h) h 0 v) (hb:xs.length≤4294967296) (hk0:0≤k) (hk1:k≤4611686018427387904)
  (hk:∀h',Upd h (mkI k v xs) h'→K (.int .i64 (k+xs.length)) h'):qW Tryz.prog 35 [er idz v,.int .i64 k] h K:=by
 refine ZF mix Tryz.func35 cf35 rfl ?_;dsimp only [if35,mI0,kI0,xI0,bI0,cI0,sI0,vI0,R0,S0]
 by_cases hne:xs=[]
 ·subst hne
  have hlen:aLen (er idz v)=some (.int .i64 ((0:Nat):Int)):=by
   obtain⟨w,a,rfl⟩:=hI;obtain⟨rfl,_⟩|⟨o,off,cap,rfl,_⟩:=hv.1<;>rfl
  simp only [nm_eq,nm_eq,abQ,↓reduceIte,iQ2,zu,qL,zo,nQ1,nQ2,nQ3,nQ4,nQ5,nQ6,lQ1,lQ2,lQ3,lQ4,lQ5,lQ6,lQ7,lQ8,nQ7,nQ8,ze,zP,zG,zH,zC,nQ9,iQ3,iQ4,iQ5,iQ6,qA,qE,zn,zW,zf,zQ,zR,recOf,zU,zI,zJ,zV,zh,lQ9,lQ10,nQ10,if_true,if_false,ite_true,ite_false,lQ11,lQ12,oQ1,oQ2,reduceCtorEq,decide_true,decide_false,bQ1,bQ2,zZ,zO,zX,zM,zY,zL,zq,zN,za,zb,lQ13,lQ14,zy,zm,zw,zk,zx,zi,qN,zl,z8,lQ15,lQ16,bQ3,bQ4,bQ5,true_and,and_true,bQ6,bQ7,lQ17,lQ18,bQ8,bQ9,bQ10,bQ11,eq_self,nQ11,nQ12,nQ13,nQ14,nQ15];refine QD (fun m vs h'=>vs=[er idz v,.int .i64 k,.int .i64 0]∧h'=h) 0 ⟨rfl,rfl⟩ ?_
  rintro m vs h' ⟨rfl,rfl⟩
  simp only [nm_eq,nm_eq,abQ,↓reduceIte,iQ2,zu,qL,zo,nQ1,nQ2,nQ3,nQ4,nQ5,nQ6,lQ1,lQ2,lQ3,lQ4,lQ5,lQ6,lQ7,lQ8,nQ7,nQ8,ze,zP,zG,zH,zC,nQ9,iQ3,iQ4,iQ5,iQ6,qA,qE,zn,zW,zf,zQ,zR,recOf,zU,zI,zJ,zV,zh,lQ9,lQ10,nQ10,if_true,if_false,ite_true,ite_false,lQ11,lQ12,oQ1,oQ2,reduceCtorEq,decide_true,decide_false,bQ1,bQ2,zZ,zO,zX,zM,zY,zL,zq,zN,za,zb,lQ13,lQ14,zy,zm,zw,zk,zx,zi,qN,zl,z8,lQ15,lQ16,bQ3,bQ4,bQ5,true_and,and_true,bQ6,bQ7,lQ17,lQ18,bQ8,bQ9,bQ10,bQ11,eq_self,nQ11,nQ12,nQ13,nQ14,nQ15,hlen,Int.lt_irrefl]
  have:=hk h' (Upd.refl hw)
  simpa using this
 ·obtain⟨w,a,rfl⟩:=hI
  obtain⟨hwt,_,_⟩:=hW.resolve_left (zAX hne);obtain⟨o,cap,rfl,ho,hz⟩:=hv.whole hwt (zAX hne);have ho':h.obj o=some ⟨true,ints xs⟩:=by rw [ho,qf];congr 2;simp only [pis,ints,List.map_map];rfl
  simp only [nm_eq,nm_eq,abQ,↓reduceIte,iQ2,zu,qL,zo,nQ1,nQ2,nQ3,nQ4,nQ5,nQ6,lQ1,lQ2,lQ3,lQ4,lQ5,lQ6,lQ7,lQ8,nQ7,nQ8,ze,zP,zG,zH,zC,nQ9,iQ3,iQ4,iQ5,iQ6,qA,qE,zn,zW,zf,zQ,zR,recOf,zU,zI,zJ,zV,zh,lQ9,lQ10,nQ10,if_true,if_false,ite_true,ite_false,lQ11,lQ12,oQ1,oQ2,reduceCtorEq,decide_true,decide_false,bQ1,bQ2,zZ,zO,zX,zM,zY,zL,zq,zN,za,zb,lQ13,lQ14,zy,zm,zw,zk,zx,zi,qN,zl,z8,lQ15,lQ16,bQ3,bQ4,bQ5,true_and,and_true,bQ6,bQ7,lQ17,lQ18,bQ8,bQ9,bQ10,bQ11,eq_self,nQ11,nQ12,nQ13,nQ14,nQ15,er];refine QD (fun m vs h'=>∃i:Nat,i≤xs.length∧m=xs.length-i∧vs=[.sl o 0 xs.length cap,.int .i64 (k+i),.int .i64 i]∧h'=h.set o (ints ((seqI k xs.length).take i++xs.drop i))) xs.length ?_ ?_
  ·exact⟨0,by omega,by omega,(by(simp only [nm_eq,nm_eq,abQ,↓reduceIte,iQ2,zu,qL,zo,nQ1,nQ2,nQ3,nQ4,nQ5,nQ6,lQ1,lQ2,lQ3,lQ4,lQ5,lQ6,lQ7,lQ8,nQ7,nQ8,ze,zP,zG,zH,zC,nQ9,iQ3,iQ4,iQ5,iQ6,qA,qE,zn,zW,zf,zQ,zR,recOf,zU,zI,zJ,zV,zh,lQ9,lQ10,nQ10,if_true,if_false,ite_true,ite_false,lQ11,lQ12,oQ1,oQ2,reduceCtorEq,decide_true,decide_false,bQ1,bQ2,zZ,zO,zX,zM,zY,zL,zq,zN,za,zb,lQ13,lQ14,zy,zm,zw,zk,zx,zi,qN,zl,z8,lQ15,lQ16,bQ3,bQ4,bQ5,true_and,and_true,bQ6,bQ7,lQ17,lQ18,bQ8,bQ9,bQ10,bQ11,eq_self,nQ11,nQ12,nQ13,nQ14,nQ15,List.cons.injEq,AV.int.injEq,AV.sl.injEq,and_self])<;>omega),by simp [set_self ho']⟩
  ·rintro m vs h' ⟨i,hi,rfl,rfl,rfl⟩
   simp only [nm_eq,nm_eq,abQ,↓reduceIte,iQ2,zu,qL,zo,nQ1,nQ2,nQ3,nQ4,nQ5,nQ6,lQ1,lQ2,lQ3,lQ4,lQ5,lQ6,lQ7,lQ8,nQ7,nQ8,ze,zP,zG,zH,zC,nQ9,iQ3,iQ4,iQ5,iQ6,qA,qE,zn,zW,zf,zQ,zR,recOf,zU,zI,zJ,zV,zh,lQ9,lQ10,nQ10,if_true,if_false,ite_true,ite_false,lQ11,lQ12,oQ1,oQ2,reduceCtorEq,decide_true,decide_false,bQ1,bQ2,zZ,zO,zX,zM,zY,zL,zq,zN,za,zb,lQ13,lQ14,zy,zm,zw,zk,zx,zi,qN,zl,z8,lQ15,lQ16,bQ3,bQ4,bQ5,true_and,and_true,bQ6,bQ7,lQ17,lQ18,bQ8,bQ9,bQ10,bQ11,eq_self,nQ11,nQ12,nQ13,nQ14,nQ15]
   split
   ·have hlt:i<xs.length:=by omega
    simp only [nm_eq,nm_eq,abQ,↓reduceIte,iQ2,zu,qL,zo,nQ1,nQ2,nQ3,nQ4,nQ5,nQ6,lQ1,lQ2,lQ3,lQ4,lQ5,lQ6,lQ7,lQ8,nQ7,nQ8,ze,zP,zG,zH,zC,nQ9,iQ3,iQ4,iQ5,iQ6,qA,qE,zn,zW,zf,zQ,zR,recOf,zU,zI,zJ,zV,zh,lQ9,lQ10,nQ10,if_true,if_false,ite_true,ite_false,lQ11,lQ12,oQ1,oQ2,reduceCtorEq,decide_true,decide_false,bQ1,bQ2,zZ,zO,zX,zM,zY,zL,zq,zN,za,zb,lQ13,lQ14,zy,zm,zw,zk,zx,zi,qN,zl,z8,lQ15,lQ16,bQ3,bQ4,bQ5,true_and,and_true,bQ6,bQ7,lQ17,lQ18,bQ8,bQ9,bQ10,bQ11,eq_self,nQ11,nQ12,nQ13,nQ14,nQ15,zAF hlt,wrapS hlt (by omega:xs.length≤4611686018427387904),wrap64 (n:=k+(i:Int)+1) (by omega) (by omega)]
    have hls:i<(seqI k xs.length).length:=by rw [ZU];exact hlt
    rw [Qo (zBS _ _) (by rw [zC2];simp [ZU];omega) rfl,zI]
    refine⟨_,by omega,i+1,by omega,rfl,(by(simp only [nm_eq,nm_eq,abQ,↓reduceIte,iQ2,zu,qL,zo,nQ1,nQ2,nQ3,nQ4,nQ5,nQ6,lQ1,lQ2,lQ3,lQ4,lQ5,lQ6,lQ7,lQ8,nQ7,nQ8,ze,zP,zG,zH,zC,nQ9,iQ3,iQ4,iQ5,iQ6,qA,qE,zn,zW,zf,zQ,zR,recOf,zU,zI,zJ,zV,zh,lQ9,lQ10,nQ10,if_true,if_false,ite_true,ite_false,lQ11,lQ12,oQ1,oQ2,reduceCtorEq,decide_true,decide_false,bQ1,bQ2,zZ,zO,zX,zM,zY,zL,zq,zN,za,zb,lQ13,lQ14,zy,zm,zw,zk,zx,zi,qN,zl,z8,lQ15,lQ16,bQ3,bQ4,bQ5,true_and,and_true,bQ6,bQ7,lQ17,lQ18,bQ8,bQ9,bQ10,bQ11,eq_self,nQ11,nQ12,nQ13,nQ14,nQ15,List.cons.injEq,AV.int.injEq,AV.sl.injEq,and_self])<;>omega),?_⟩
    rw [set_set,ints_set,←zNp _ _ hlt hls,zFZ]
   ·have hie:i=xs.length:=by omega
    subst hie;rw [List.take_of_length_le (by rw [ZU];exact Nat.le_refl _),List.drop_length,List.append_nil]
    have hlt:=hw.lt ho;refine hk _ ⟨Nat.le_refl _,hw.set hlt _,fun x hx hn=>zBR (fun e=>?_) _,fun x ms hx=>?_⟩
    ·subst e
     rw [mkI,if_neg hne]at hn
     simp [aof]at hn
    ·rw [mkI,if_neg hne]at hx
     simp only [List.lookup_cons,List.lookup_nil,aof]at hx
     split at hx
     ·rename_i hxo
      cases hx;have hxo:x=o:=by simpa using hxo
      subst hxo;refine⟨?_,zLk _,zAX fun e=>?_,_,ho',by rw [zC2,qi,ZU]⟩
      ·rw [zBS,qf];congr 2;simp only [pis,ints,List.map_map];rfl
      ·have:=ZU xs.length k
       rw [e]at this
       exact hne (List.eq_nil_of_length_eq_zero this.symm)
     ·cases hx
theorem Q6 {v:PV} {xs:List (List Int)} {k:Int} (hI:FII v xs) (hW:Wh v) (hnd:(ead v).Nodup) (hw:HWF h) (hv:VOK (zlt h) h 0 v) (hb:xs.length≤4294967296) (hb2:∀x∈xs,x.length≤4294967296) (hk0:0≤k) (hk1:k+totL List.length xs≤4611686018427387904)
  (hk:∀h',Upd h (mkF mkI List.length k v xs) h'→K (.int .i64 (k+totL List.length xs)) h'):qW Tryz.prog 36 [er idz v,.int .i64 k] h K:=by
 refine ZF mix Tryz.func36 cf36 rfl ?_;dsimp only [if36,mI0,kI0,lI0,xI0,bI0,cI0,sI0,C2,R0,S0];obtain⟨w,a,rows,rfl,hr⟩:=hI
 by_cases hne:rows=[]
 ·have hx:=hr.nil_iff.1 hne
  subst hne;subst hx;have hlen:aLen a=some (.int .i64 ((0:Nat):Int)):=by
   obtain⟨rfl,_⟩|⟨o,off,cap,rfl,_⟩:=hv.1<;>rfl
  simp only [nm_eq,nm_eq,abQ,↓reduceIte,iQ2,zu,qL,zo,nQ1,nQ2,nQ3,nQ4,nQ5,nQ6,lQ1,lQ2,lQ3,lQ4,lQ5,lQ6,lQ7,lQ8,nQ7,nQ8,ze,zP,zG,zH,zC,nQ9,iQ3,iQ4,iQ5,iQ6,qA,qE,zn,zW,zf,zQ,zR,recOf,zU,zI,zJ,zV,zh,lQ9,lQ10,nQ10,if_true,if_false,ite_true,ite_false,lQ11,lQ12,oQ1,oQ2,reduceCtorEq,decide_true,decide_false,bQ1,bQ2,zZ,zO,zX,zM,zY,zL,zq,zN,za,zb,lQ13,lQ14,zy,zm,zw,zk,zx,zi,qN,zl,z8,lQ15,lQ16,bQ3,bQ4,bQ5,true_and,and_true,bQ6,bQ7,lQ17,lQ18,bQ8,bQ9,bQ10,bQ11,eq_self,nQ11,nQ12,nQ13,nQ14,nQ15,er];refine QD (fun m vs h'=>vs=[a,.int .i64 k,.int .i64 0]∧h'=h) 0 ⟨rfl,rfl⟩ ?_
  rintro m vs h' ⟨rfl,rfl⟩
  simp only [nm_eq,nm_eq,abQ,↓reduceIte,iQ2,zu,qL,zo,nQ1,nQ2,nQ3,nQ4,nQ5,nQ6,lQ1,lQ2,lQ3,lQ4,lQ5,lQ6,lQ7,lQ8,nQ7,nQ8,ze,zP,zG,zH,zC,nQ9,iQ3,iQ4,iQ5,iQ6,qA,qE,zn,zW,zf,zQ,zR,recOf,zU,zI,zJ,zV,zh,lQ9,lQ10,nQ10,if_true,if_false,ite_true,ite_false,lQ11,lQ12,oQ1,oQ2,reduceCtorEq,decide_true,decide_false,bQ1,bQ2,zZ,zO,zX,zM,zY,zL,zq,zN,za,zb,lQ13,lQ14,zy,zm,zw,zk,zx,zi,qN,zl,z8,lQ15,lQ16,bQ3,bQ4,bQ5,true_and,and_true,bQ6,bQ7,lQ17,lQ18,bQ8,bQ9,bQ10,bQ11,eq_self,nQ11,nQ12,nQ13,nQ14,nQ15,hlen,Int.lt_irrefl]
  have:=hk h' (Upd.refl hw)
  simpa [totL]using this
 ·obtain⟨hwt,_,hWs⟩:=hW.resolve_left hne
  obtain⟨o,cap,rfl,ho,hz⟩:=hv.whole hwt hne;rw [QB hne]at hnd
  obtain⟨n1,n2⟩:=List.nodup_cons.1 hnd;simp only [nm_eq,nm_eq,abQ,↓reduceIte,iQ2,zu,qL,zo,nQ1,nQ2,nQ3,nQ4,nQ5,nQ6,lQ1,lQ2,lQ3,lQ4,lQ5,lQ6,lQ7,lQ8,nQ7,nQ8,ze,zP,zG,zH,zC,nQ9,iQ3,iQ4,iQ5,iQ6,qA,qE,zn,zW,zf,zQ,zR,recOf,zU,zI,zJ,zV,zh,lQ9,lQ10,nQ10,if_true,if_false,ite_true,ite_false,lQ11,lQ12,oQ1,oQ2,reduceCtorEq,decide_true,decide_false,bQ1,bQ2,zZ,zO,zX,zM,zY,zL,zq,zN,za,zb,lQ13,lQ14,zy,zm,zw,zk,zx,zi,qN,zl,z8,lQ15,lQ16,bQ3,bQ4,bQ5,true_and,and_true,bQ6,bQ7,lQ17,lQ18,bQ8,bQ9,bQ10,bQ11,eq_self,nQ11,nQ12,nQ13,nQ14,nQ15,er];refine QD (fun m vs h'=>∃i:Nat,i≤xs.length∧m=xs.length-i∧vs=[.sl o 0 xs.length cap,.int .i64 (k+totL List.length (xs.take i)),.int .i64 i]∧Upd h (mkS mkI List.length k (rows.take i) (xs.take i)) h') xs.length ?_ ?_
  ·exact⟨0,by omega,by omega,by rw [List.take_zero,zBP];exact(by(simp only [nm_eq,nm_eq,abQ,↓reduceIte,iQ2,zu,qL,zo,nQ1,nQ2,nQ3,nQ4,nQ5,nQ6,lQ1,lQ2,lQ3,lQ4,lQ5,lQ6,lQ7,lQ8,nQ7,nQ8,ze,zP,zG,zH,zC,nQ9,iQ3,iQ4,iQ5,iQ6,qA,qE,zn,zW,zf,zQ,zR,recOf,zU,zI,zJ,zV,zh,lQ9,lQ10,nQ10,if_true,if_false,ite_true,ite_false,lQ11,lQ12,oQ1,oQ2,reduceCtorEq,decide_true,decide_false,bQ1,bQ2,zZ,zO,zX,zM,zY,zL,zq,zN,za,zb,lQ13,lQ14,zy,zm,zw,zk,zx,zi,qN,zl,z8,lQ15,lQ16,bQ3,bQ4,bQ5,true_and,and_true,bQ6,bQ7,lQ17,lQ18,bQ8,bQ9,bQ10,bQ11,eq_self,nQ11,nQ12,nQ13,nQ14,nQ15,List.cons.injEq,AV.int.injEq,AV.sl.injEq,and_self])<;>omega),by simp only [List.take_zero,zHv];exact Upd.refl hw⟩
  ·rintro m vs h' ⟨i,hi,rfl,rfl,u⟩
   simp only [nm_eq,nm_eq,abQ,↓reduceIte,iQ2,zu,qL,zo,nQ1,nQ2,nQ3,nQ4,nQ5,nQ6,lQ1,lQ2,lQ3,lQ4,lQ5,lQ6,lQ7,lQ8,nQ7,nQ8,ze,zP,zG,zH,zC,nQ9,iQ3,iQ4,iQ5,iQ6,qA,qE,zn,zW,zf,zQ,zR,recOf,zU,zI,zJ,zV,zh,lQ9,lQ10,nQ10,if_true,if_false,ite_true,ite_false,lQ11,lQ12,oQ1,oQ2,reduceCtorEq,decide_true,decide_false,bQ1,bQ2,zZ,zO,zX,zM,zY,zL,zq,zN,za,zb,lQ13,lQ14,zy,zm,zw,zk,zx,zi,qN,zl,z8,lQ15,lQ16,bQ3,bQ4,bQ5,true_and,and_true,bQ6,bQ7,lQ17,lQ18,bQ8,bQ9,bQ10,bQ11,eq_self,nQ11,nQ12,nQ13,nQ14,nQ15]
   split
   ·have hlt:i<xs.length:=by omega
    obtain⟨v,hv1,hv2,hv3,hv4,hv5,hv6⟩:=mkT_I.step hr hWs n2 hv.2 hlt u;have hld:h'.rd1 o i=some (er idz v):=by
     rw [ZJ (by rw [u.same o hz (qU.2 fun hm=>n1 (zEv (mkT_I.keysS (hr.take i) (ZE.2 fun c hc=>ZE.1 hWs c (List.mem_of_mem_take hc)) o hm)))];exact ho)]
     rw [zAM,hv1];rfl
    have ht:=zAo (len:=List.length) hlt;have htl:=zCU List.length xs (i+1);have hbi:=hb2 _ (List.getElem_mem hlt);simp only [nm_eq,nm_eq,abQ,↓reduceIte,iQ2,zu,qL,zo,nQ1,nQ2,nQ3,nQ4,nQ5,nQ6,lQ1,lQ2,lQ3,lQ4,lQ5,lQ6,lQ7,lQ8,nQ7,nQ8,ze,zP,zG,zH,zC,nQ9,iQ3,iQ4,iQ5,iQ6,qA,qE,zn,zW,zf,zQ,zR,recOf,zU,zI,zJ,zV,zh,lQ9,lQ10,nQ10,if_true,if_false,ite_true,ite_false,lQ11,lQ12,oQ1,oQ2,reduceCtorEq,decide_true,decide_false,bQ1,bQ2,zZ,zO,zX,zM,zY,zL,zq,zN,za,zb,lQ13,lQ14,zy,zm,zw,zk,zx,zi,qN,zl,z8,lQ15,lQ16,bQ3,bQ4,bQ5,true_and,and_true,bQ6,bQ7,lQ17,lQ18,bQ8,bQ9,bQ10,bQ11,eq_self,nQ11,nQ12,nQ13,nQ14,nQ15,zAF hlt,hld,wrapS hlt (by omega:xs.length≤4611686018427387904)]
    refine zB3 hv2 hv3 u.wf hv5 hbi (by omega) (by omega) fun h'' u'=>?_
    simp only [nm_eq,nm_eq,abQ,↓reduceIte,iQ2,zu,qL,zo,nQ1,nQ2,nQ3,nQ4,nQ5,nQ6,lQ1,lQ2,lQ3,lQ4,lQ5,lQ6,lQ7,lQ8,nQ7,nQ8,ze,zP,zG,zH,zC,nQ9,iQ3,iQ4,iQ5,iQ6,qA,qE,zn,zW,zf,zQ,zR,recOf,zU,zI,zJ,zV,zh,lQ9,lQ10,nQ10,if_true,if_false,ite_true,ite_false,lQ11,lQ12,oQ1,oQ2,reduceCtorEq,decide_true,decide_false,bQ1,bQ2,zZ,zO,zX,zM,zY,zL,zq,zN,za,zb,lQ13,lQ14,zy,zm,zw,zk,zx,zi,qN,zl,z8,lQ15,lQ16,bQ3,bQ4,bQ5,true_and,and_true,bQ6,bQ7,lQ17,lQ18,bQ8,bQ9,bQ10,bQ11,eq_self,nQ11,nQ12,nQ13,nQ14,nQ15,wrapS hlt (by omega:xs.length≤4611686018427387904)]
    exact⟨_,by omega,i+1,by omega,rfl,(by(simp only [nm_eq,nm_eq,abQ,↓reduceIte,iQ2,zu,qL,zo,nQ1,nQ2,nQ3,nQ4,nQ5,nQ6,lQ1,lQ2,lQ3,lQ4,lQ5,lQ6,lQ7,lQ8,nQ7,nQ8,ze,zP,zG,zH,zC,nQ9,iQ3,iQ4,iQ5,iQ6,qA,qE,zn,zW,zf,zQ,zR,recOf,zU,zI,zJ,zV,zh,lQ9,lQ10,nQ10,if_true,if_false,ite_true,ite_false,lQ11,lQ12,oQ1,oQ2,reduceCtorEq,decide_true,decide_false,bQ1,bQ2,zZ,zO,zX,zM,zY,zL,zq,zN,za,zb,lQ13,lQ14,zy,zm,zw,zk,zx,zi,qN,zl,z8,lQ15,lQ16,bQ3,bQ4,bQ5,true_and,and_true,bQ6,bQ7,lQ17,lQ18,bQ8,bQ9,bQ10,bQ11,eq_self,nQ11,nQ12,nQ13,nQ14,nQ15,List.cons.injEq,AV.int.injEq,AV.sl.injEq,and_self])<;>omega),hv6 _ u'⟩
   ·have hie:i=xs.length:=by omega
    subst hie;rw [List.take_length,List.take_of_length_le (by rw [hr.1];exact Nat.le_refl _)]at u
    rw [List.take_length];exact hk _ u
theorem zEX {v:PV} {xs:List (List (List Int))} {k:Int} (hI:FIII v xs) (hW:Wh v) (hnd:(ead v).Nodup) (hw:HWF h) (hv:VOK (zlt h) h 0 v) (hb:xs.length≤4294967296) (hb2:∀x∈xs,x.length≤4294967296∧∀y∈x,y.length≤4294967296) (hk0:0≤k) (hk1:k+totL (totL List.length) xs≤4611686018427387904)
  (hk:∀h',Upd h (mkF (mkF mkI List.length) (totL List.length) k v xs) h'→K (.int .i64 (k+totL (totL List.length) xs)) h'):qW Tryz.prog 37 [er idz v,.int .i64 k] h K:=by
 refine ZF mix Tryz.func37 cf37 rfl ?_;dsimp only [if37,mI0,kI0,lI0,xI0,bI0,cI0,sI0,C2,R0,S0];obtain⟨w,a,rows,rfl,hr⟩:=hI
 by_cases hne:rows=[]
 ·have hx:=hr.nil_iff.1 hne
  subst hne;subst hx;have hlen:aLen a=some (.int .i64 ((0:Nat):Int)):=by
   obtain⟨rfl,_⟩|⟨o,off,cap,rfl,_⟩:=hv.1<;>rfl
  simp only [nm_eq,nm_eq,abQ,↓reduceIte,iQ2,zu,qL,zo,nQ1,nQ2,nQ3,nQ4,nQ5,nQ6,lQ1,lQ2,lQ3,lQ4,lQ5,lQ6,lQ7,lQ8,nQ7,nQ8,ze,zP,zG,zH,zC,nQ9,iQ3,iQ4,iQ5,iQ6,qA,qE,zn,zW,zf,zQ,zR,recOf,zU,zI,zJ,zV,zh,lQ9,lQ10,nQ10,if_true,if_false,ite_true,ite_false,lQ11,lQ12,oQ1,oQ2,reduceCtorEq,decide_true,decide_false,bQ1,bQ2,zZ,zO,zX,zM,zY,zL,zq,zN,za,zb,lQ13,lQ14,zy,zm,zw,zk,zx,zi,qN,zl,z8,lQ15,lQ16,bQ3,bQ4,bQ5,true_and,and_true,bQ6,bQ7,lQ17,lQ18,bQ8,bQ9,bQ10,bQ11,eq_self,nQ11,nQ12,nQ13,nQ14,nQ15,er];refine QD (fun m vs h'=>vs=[a,.int .i64 k,.int .i64 0]∧h'=h) 0 ⟨rfl,rfl⟩ ?_
  rintro m vs h' ⟨rfl,rfl⟩
  simp only [nm_eq,nm_eq,abQ,↓reduceIte,iQ2,zu,qL,zo,nQ1,nQ2,nQ3,nQ4,nQ5,nQ6,lQ1,lQ2,lQ3,lQ4,lQ5,lQ6,lQ7,lQ8,nQ7,nQ8,ze,zP,zG,zH,zC,nQ9,iQ3,iQ4,iQ5,iQ6,qA,qE,zn,zW,zf,zQ,zR,recOf,zU,zI,zJ,zV,zh,lQ9,lQ10,nQ10,if_true,if_false,ite_true,ite_false,lQ11,lQ12,oQ1,oQ2,reduceCtorEq,decide_true,decide_false,bQ1,bQ2,zZ,zO,zX,zM,zY,zL,zq,zN,za,zb,lQ13,lQ14,zy,zm,zw,zk,zx,zi,qN,zl,z8,lQ15,lQ16,bQ3,bQ4,bQ5,true_and,and_true,bQ6,bQ7,lQ17,lQ18,bQ8,bQ9,bQ10,bQ11,eq_self,nQ11,nQ12,nQ13,nQ14,nQ15,hlen,Int.lt_irrefl]
  have:=hk h' (Upd.refl hw)
  simpa [totL]using this
 ·obtain⟨hwt,_,hWs⟩:=hW.resolve_left hne
  obtain⟨o,cap,rfl,ho,hz⟩:=hv.whole hwt hne;rw [QB hne]at hnd
  obtain⟨n1,n2⟩:=List.nodup_cons.1 hnd;simp only [nm_eq,nm_eq,abQ,↓reduceIte,iQ2,zu,qL,zo,nQ1,nQ2,nQ3,nQ4,nQ5,nQ6,lQ1,lQ2,lQ3,lQ4,lQ5,lQ6,lQ7,lQ8,nQ7,nQ8,ze,zP,zG,zH,zC,nQ9,iQ3,iQ4,iQ5,iQ6,qA,qE,zn,zW,zf,zQ,zR,recOf,zU,zI,zJ,zV,zh,lQ9,lQ10,nQ10,if_true,if_false,ite_true,ite_false,lQ11,lQ12,oQ1,oQ2,reduceCtorEq,decide_true,decide_false,bQ1,bQ2,zZ,zO,zX,zM,zY,zL,zq,zN,za,zb,lQ13,lQ14,zy,zm,zw,zk,zx,zi,qN,zl,z8,lQ15,lQ16,bQ3,bQ4,bQ5,true_and,and_true,bQ6,bQ7,lQ17,lQ18,bQ8,bQ9,bQ10,bQ11,eq_self,nQ11,nQ12,nQ13,nQ14,nQ15,er];refine QD (fun m vs h'=>∃i:Nat,i≤xs.length∧m=xs.length-i∧vs=[.sl o 0 xs.length cap,.int .i64 (k+totL (totL List.length) (xs.take i)),.int .i64 i]∧Upd h (mkS (mkF mkI List.length) (totL List.length) k (rows.take i) (xs.take i)) h') xs.length ?_ ?_
  ·exact⟨0,by omega,by omega,by rw [List.take_zero,zBP];exact(by(simp only [nm_eq,nm_eq,abQ,↓reduceIte,iQ2,zu,qL,zo,nQ1,nQ2,nQ3,nQ4,nQ5,nQ6,lQ1,lQ2,lQ3,lQ4,lQ5,lQ6,lQ7,lQ8,nQ7,nQ8,ze,zP,zG,zH,zC,nQ9,iQ3,iQ4,iQ5,iQ6,qA,qE,zn,zW,zf,zQ,zR,recOf,zU,zI,zJ,zV,zh,lQ9,lQ10,nQ10,if_true,if_false,ite_true,ite_false,lQ11,lQ12,oQ1,oQ2,reduceCtorEq,decide_true,decide_false,bQ1,bQ2,zZ,zO,zX,zM,zY,zL,zq,zN,za,zb,lQ13,lQ14,zy,zm,zw,zk,zx,zi,qN,zl,z8,lQ15,lQ16,bQ3,bQ4,bQ5,true_and,and_true,bQ6,bQ7,lQ17,lQ18,bQ8,bQ9,bQ10,bQ11,eq_self,nQ11,nQ12,nQ13,nQ14,nQ15,List.cons.injEq,AV.int.injEq,AV.sl.injEq,and_self])<;>omega),by simp only [List.take_zero,zHv];exact Upd.refl hw⟩
  ·rintro m vs h' ⟨i,hi,rfl,rfl,u⟩
   simp only [nm_eq,nm_eq,abQ,↓reduceIte,iQ2,zu,qL,zo,nQ1,nQ2,nQ3,nQ4,nQ5,nQ6,lQ1,lQ2,lQ3,lQ4,lQ5,lQ6,lQ7,lQ8,nQ7,nQ8,ze,zP,zG,zH,zC,nQ9,iQ3,iQ4,iQ5,iQ6,qA,qE,zn,zW,zf,zQ,zR,recOf,zU,zI,zJ,zV,zh,lQ9,lQ10,nQ10,if_true,if_false,ite_true,ite_false,lQ11,lQ12,oQ1,oQ2,reduceCtorEq,decide_true,decide_false,bQ1,bQ2,zZ,zO,zX,zM,zY,zL,zq,zN,za,zb,lQ13,lQ14,zy,zm,zw,zk,zx,zi,qN,zl,z8,lQ15,lQ16,bQ3,bQ4,bQ5,true_and,and_true,bQ6,bQ7,lQ17,lQ18,bQ8,bQ9,bQ10,bQ11,eq_self,nQ11,nQ12,nQ13,nQ14,nQ15]
   split
   ·have hlt:i<xs.length:=by omega
    obtain⟨v,hv1,hv2,hv3,hv4,hv5,hv6⟩:=mkT_I.F.step hr hWs n2 hv.2 hlt u;have hld:h'.rd1 o i=some (er idz v):=by
     rw [ZJ (by rw [u.same o hz (qU.2 fun hm=>n1 (zEv (mkT_I.F.keysS (hr.take i) (ZE.2 fun c hc=>ZE.1 hWs c (List.mem_of_mem_take hc)) o hm)))];exact ho)]
     rw [zAM,hv1];rfl
    have ht:=zAo (len:=totL List.length) hlt;have htl:=zCU (totL List.length) xs (i+1);have hbi:=hb2 _ (List.getElem_mem hlt);simp only [nm_eq,nm_eq,abQ,↓reduceIte,iQ2,zu,qL,zo,nQ1,nQ2,nQ3,nQ4,nQ5,nQ6,lQ1,lQ2,lQ3,lQ4,lQ5,lQ6,lQ7,lQ8,nQ7,nQ8,ze,zP,zG,zH,zC,nQ9,iQ3,iQ4,iQ5,iQ6,qA,qE,zn,zW,zf,zQ,zR,recOf,zU,zI,zJ,zV,zh,lQ9,lQ10,nQ10,if_true,if_false,ite_true,ite_false,lQ11,lQ12,oQ1,oQ2,reduceCtorEq,decide_true,decide_false,bQ1,bQ2,zZ,zO,zX,zM,zY,zL,zq,zN,za,zb,lQ13,lQ14,zy,zm,zw,zk,zx,zi,qN,zl,z8,lQ15,lQ16,bQ3,bQ4,bQ5,true_and,and_true,bQ6,bQ7,lQ17,lQ18,bQ8,bQ9,bQ10,bQ11,eq_self,nQ11,nQ12,nQ13,nQ14,nQ15,zAF hlt,hld,wrapS hlt (by omega:xs.length≤4611686018427387904)]
    refine Q6 hv2 hv3 hv4 u.wf hv5 hbi.1 hbi.2 (by omega) (by omega) fun h'' u'=>?_
    simp only [nm_eq,nm_eq,abQ,↓reduceIte,iQ2,zu,qL,zo,nQ1,nQ2,nQ3,nQ4,nQ5,nQ6,lQ1,lQ2,lQ3,lQ4,lQ5,lQ6,lQ7,lQ8,nQ7,nQ8,ze,zP,zG,zH,zC,nQ9,iQ3,iQ4,iQ5,iQ6,qA,qE,zn,zW,zf,zQ,zR,recOf,zU,zI,zJ,zV,zh,lQ9,lQ10,nQ10,if_true,if_false,ite_true,ite_false,lQ11,lQ12,oQ1,oQ2,reduceCtorEq,decide_true,decide_false,bQ1,bQ2,zZ,zO,zX,zM,zY,zL,zq,zN,za,zb,lQ13,lQ14,zy,zm,zw,zk,zx,zi,qN,zl,z8,lQ15,lQ16,bQ3,bQ4,bQ5,true_and,and_true,bQ6,bQ7,lQ17,lQ18,bQ8,bQ9,bQ10,bQ11,eq_self,nQ11,nQ12,nQ13,nQ14,nQ15,wrapS hlt (by omega:xs.length≤4611686018427387904)]
    exact⟨_,by omega,i+1,by omega,rfl,(by(simp only [nm_eq,nm_eq,abQ,↓reduceIte,iQ2,zu,qL,zo,nQ1,nQ2,nQ3,nQ4,nQ5,nQ6,lQ1,lQ2,lQ3,lQ4,lQ5,lQ6,lQ7,lQ8,nQ7,nQ8,ze,zP,zG,zH,zC,nQ9,iQ3,iQ4,iQ5,iQ6,qA,qE,zn,zW,zf,zQ,zR,recOf,zU,zI,zJ,zV,zh,lQ9,lQ10,nQ10,if_true,if_false,ite_true,ite_false,lQ11,lQ12,oQ1,oQ2,reduceCtorEq,decide_true,decide_false,bQ1,bQ2,zZ,zO,zX,zM,zY,zL,zq,zN,za,zb,lQ13,lQ14,zy,zm,zw,zk,zx,zi,qN,zl,z8,lQ15,lQ16,bQ3,bQ4,bQ5,true_and,and_true,bQ6,bQ7,lQ17,lQ18,bQ8,bQ9,bQ10,bQ11,eq_self,nQ11,nQ12,nQ13,nQ14,nQ15,List.cons.injEq,AV.int.injEq,AV.sl.injEq,and_self])<;>omega),hv6 _ u'⟩
   ·have hie:i=xs.length:=by omega
    subst hie;rw [List.take_length,List.take_of_length_le (by rw [hr.1];exact Nat.le_refl _)]at u
    rw [List.take_length];exact hk _ u
end
section
variable {σ:PHeap} {K:PV→PHeap→Prop} {p:Int} {W:List (List Int)} {B:List (List (List Int))} {vP vB:PV} {lo hi:Nat}
theorem zBo {v:PV} {xs:List Int} {k:Int} (hI:FI v (seqI k xs.length)) (hb:xs.length≤4294967296) (hk0:0≤k) (hk1:k≤4611686018427387904) (hk:K (.int .i64 (k+xs.length)) σ):zA Tryz.prog 65 [v,.int .i64 k] σ K:=by
 obtain⟨w,a,rfl⟩:=hI;have hl:=ZU xs.length k;have hg:=zFZ xs.length k;generalize seqI k xs.length=ys at *
 refine zS mix Tryz.func65 ?_;simp only [pwA,seval,-iQ0];refine zB (fun m vs h'=>∃i:Nat,i≤ys.length∧m=ys.length-i∧vs=[.fz w a ys.length (pis ys),.int .i64 (k+(i:Int)),.int .i64 i]∧σ=h') ys.length ?_ ?_
 ·exact⟨0,by omega,by omega,by rw [show k+((0:Nat):Int)=k by omega];rfl,rfl⟩
 rintro m vs h' ⟨i,hi,rfl,rfl,rfl⟩
 simp only [pwA,seval,-iQ0];refine iteI (fun hlt=>?_) fun hge=>?_
 ·simp only [pwA,seval,-iQ0,hlt,gi hlt,hg i hlt,qM,wrapS hlt (by omega:ys.length≤4611686018427387904),wrap64 (n:=k+(i:Int)+1) (by omega) (by omega)]
  refine⟨_,by omega,i+1,by omega,rfl,?_⟩
  have:k+(i:Int)+1=k+((i+1:Nat):Int):=by omega
  rw [this]
 ·have hie:i=xs.length:=by omega
  subst hie;exact hk
theorem Qj {v:PV} {xs:List (List Int)} {k:Int} (hI:FII v (sqL sqI List.length k xs)) (hb:xs.length≤4294967296) (hb2:∀x∈xs,x.length≤4294967296) (hk0:0≤k) (hk1:k+totL List.length xs≤4611686018427387904) (hk:K (.int .i64 (k+totL List.length xs)) σ):zA Tryz.prog 40 [v,.int .i64 k] σ K:=by
 obtain⟨w,a,rows,rfl,hr⟩:=hI;have hl:=QL sqI List.length xs k;have hg:∀(i:Nat) (hi:i<xs.length) (h2:i<(sqL sqI List.length k xs).length),(sqL sqI List.length k xs)[i]=sqI (k+totL List.length (xs.take i)) xs[i]:=fun i hi _=>zEM sqI List.length xs k i hi
 generalize sqL sqI List.length k xs=ys at *
 refine zS mix Tryz.func40 ?_;simp only [pwA,seval,-iQ0];refine zB (fun m vs h'=>∃i:Nat,i≤ys.length∧m=ys.length-i∧vs=[.fz w a ys.length rows,.int .i64 (k+totL List.length (xs.take i)),.int .i64 i]∧σ=h') ys.length ?_ ?_
 ·exact⟨0,by omega,by omega,by rw [List.take_zero,zBP,show k+((0:Nat):Int)=k by omega];rfl,rfl⟩
 rintro m vs h' ⟨i,hi,rfl,rfl,rfl⟩
 simp only [pwA,seval,-iQ0];refine iteI (fun hlt=>?_) fun hge=>?_
 ·have hlx:i<xs.length:=by omega
  obtain⟨w4,a4,hrk⟩:=hr.rowI hlt;have ht:=zAo (len:=List.length) hlx;have htl:=zCU List.length xs (i+1);have hgi:=hg i hlx hlt;simp only [pwA,seval,-iQ0,hlt,hrk];have hbi:=hb2 _ (List.getElem_mem hlx);refine zBo (xs:=xs[i]) ⟨w4,a4,by rw [hgi,sqI]⟩ hbi (by omega) (by omega) ?_
  have hn:¬(k+(totL List.length (xs.take i):Int)+(xs[i].length:Int)<0):=by omega
  simp only [pwA,seval,-iQ0,hn,wrapS hlt (by omega:ys.length≤4611686018427387904)]
  refine⟨_,by omega,i+1,by omega,rfl,?_⟩
  have:k+(totL List.length (xs.take i):Int)+(xs[i].length:Int)=k+(totL List.length (xs.take (i+1)):Int):=by omega
  rw [this]
 ·have hie:i=xs.length:=by omega
  subst hie;rw [List.take_length];exact hk
end
end Go.Proofs
