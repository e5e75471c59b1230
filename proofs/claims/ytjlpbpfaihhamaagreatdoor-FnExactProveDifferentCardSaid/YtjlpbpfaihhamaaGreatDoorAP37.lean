/- Lists on their way: reading them, what they own. -/
import Derived.Test.YtjlpbpfaihhamaaGreatDoorAP30
import Derived.Test.YtjlpbpfaihhamaaGreatDoorAAbPn
import Derived.Test.YtjlpbpfaihhamaaGreatDoorAAbPz
open Nat renaming left_eq_add→nQ1,add_eq_left→nQ2,succ_ne_self→nQ3,one_ne_zero→nQ4,add_left_cancel_iff→nQ5,add_assoc→nQ6,reduceLeDiff→nQ7,le_refl→nQ8,lt_add_one→nQ9,reduceEqDiff→nQ10,reduceBEq→nQ11,reduceAdd→nQ12,mul_one→nQ13,zero_add→nQ14,add_zero→nQ15
open Int renaming reduceNatCast'→iQ0,toNat_natCast→iQ2,reduceEq→iQ3,reduceLT→iQ4,reduceLE→iQ5,reduceNeg→iQ6
open List renaming getElem?_cons_zero→lQ1,getElem?_cons_succ→lQ2,take_succ_cons→lQ3,take_zero→lQ4,drop_succ_cons→lQ5,drop_zero→lQ6,take_nil→lQ7,drop_nil→lQ8,map_cons→lQ9,map_nil→lQ10,nil_append→lQ11,cons_append→lQ12,all_cons→lQ13,all_nil→lQ14,length_cons→lQ15,length_nil→lQ16,contains_cons→lQ17,contains_nil→lQ18
open Bool renaming not_true→bQ1,not_false→bQ2,and_true→bQ3,true_and→bQ4,and_self→bQ5,true_eq_false→bQ6,false_eq_true→bQ7,or_false→bQ8,or_true→bQ9,true_or→bQ10,false_or→bQ11
open Option renaming map_some→oQ1,map_none→oQ2
set_option maxRecDepth 100000
set_option linter.unusedSimpArgs false
set_option linter.unusedVariables false
namespace Go.Proofs
open Go.Ab Go.Lie
section
variable {h:AHeap} {K:AV→AHeap→Prop}
theorem zA0 {v:PV} {xs:List Int} {k:Int} (hI:FI v xs) (hW:Wh v) (hw:HWF h) (hv:VOK (zlt h) h 0 v) (hb:xs.length≤4294967296) (hk0:0≤k) (hk1:k≤4611686018427387904)
  (hk:∀h',Upd h (mkI k v xs) h'→K (.int .i64 (k+xs.length)) h'):qg Tryz.prog 35 [er idz v,.int .i64 k] h K:=by
 refine ZI mix Tryz.func35 cf35 rfl ?_;dsimp only [if35,mI0,kI0,xI0,bI0,cI0,sI0,vI0,R0,S0]
 by_cases hne:xs=[]
 ·subst hne
  have hlen:aLen (er idz v)=some (.int .i64 ((0:Nat):Int)):=by
   obtain⟨w,a,rfl⟩:=hI;obtain⟨rfl,_⟩|⟨o,off,cap,rfl,_⟩:=hv.1<;>rfl
  simp only [nm_eq,nm_eq,abQ,↓reduceIte,iQ2,qF,qN,zt,nQ1,nQ2,nQ3,nQ4,nQ5,nQ6,lQ1,lQ2,lQ3,lQ4,lQ5,lQ6,lQ7,lQ8,nQ7,nQ8,ze,zR,zJ,zK,zF,nQ9,iQ3,iQ4,iQ5,iQ6,qL,qM,zq,zW,zf,zS,zT,recOf,zV,zL,zM,zU,zk,lQ9,lQ10,nQ10,if_true,if_false,ite_true,ite_false,lQ11,lQ12,oQ1,oQ2,reduceCtorEq,decide_true,decide_false,bQ1,bQ2,zZ,zQ,zX,zO,zY,zN,zw,zP,za,zb,lQ13,lQ14,qJ,zo,qG,zm,qH,zl,qO,zn,qK,lQ15,lQ16,bQ3,bQ4,bQ5,true_and,and_true,bQ6,bQ7,lQ17,lQ18,bQ8,bQ9,bQ10,bQ11,eq_self,nQ11,nQ12,nQ13,nQ14,nQ15];refine QR (fun m vs h'=>vs=[er idz v,.int .i64 k,.int .i64 0]∧h'=h) 0 ⟨rfl,rfl⟩ ?_
  rintro m vs h' ⟨rfl,rfl⟩
  simp only [nm_eq,nm_eq,abQ,↓reduceIte,iQ2,qF,qN,zt,nQ1,nQ2,nQ3,nQ4,nQ5,nQ6,lQ1,lQ2,lQ3,lQ4,lQ5,lQ6,lQ7,lQ8,nQ7,nQ8,ze,zR,zJ,zK,zF,nQ9,iQ3,iQ4,iQ5,iQ6,qL,qM,zq,zW,zf,zS,zT,recOf,zV,zL,zM,zU,zk,lQ9,lQ10,nQ10,if_true,if_false,ite_true,ite_false,lQ11,lQ12,oQ1,oQ2,reduceCtorEq,decide_true,decide_false,bQ1,bQ2,zZ,zQ,zX,zO,zY,zN,zw,zP,za,zb,lQ13,lQ14,qJ,zo,qG,zm,qH,zl,qO,zn,qK,lQ15,lQ16,bQ3,bQ4,bQ5,true_and,and_true,bQ6,bQ7,lQ17,lQ18,bQ8,bQ9,bQ10,bQ11,eq_self,nQ11,nQ12,nQ13,nQ14,nQ15,hlen,Int.lt_irrefl]
  have:=hk h' (Upd.refl hw)
  simpa using this
 ·obtain⟨w,a,rfl⟩:=hI
  obtain⟨hwt,_,_⟩:=hW.resolve_left (zAw hne);obtain⟨o,cap,rfl,ho,hz⟩:=hv.whole hwt (zAw hne);have ho':h.obj o=some ⟨true,ints xs⟩:=by rw [ho,ZY];congr 2;simp only [pis,ints,List.map_map];rfl
  simp only [nm_eq,nm_eq,abQ,↓reduceIte,iQ2,qF,qN,zt,nQ1,nQ2,nQ3,nQ4,nQ5,nQ6,lQ1,lQ2,lQ3,lQ4,lQ5,lQ6,lQ7,lQ8,nQ7,nQ8,ze,zR,zJ,zK,zF,nQ9,iQ3,iQ4,iQ5,iQ6,qL,qM,zq,zW,zf,zS,zT,recOf,zV,zL,zM,zU,zk,lQ9,lQ10,nQ10,if_true,if_false,ite_true,ite_false,lQ11,lQ12,oQ1,oQ2,reduceCtorEq,decide_true,decide_false,bQ1,bQ2,zZ,zQ,zX,zO,zY,zN,zw,zP,za,zb,lQ13,lQ14,qJ,zo,qG,zm,qH,zl,qO,zn,qK,lQ15,lQ16,bQ3,bQ4,bQ5,true_and,and_true,bQ6,bQ7,lQ17,lQ18,bQ8,bQ9,bQ10,bQ11,eq_self,nQ11,nQ12,nQ13,nQ14,nQ15,er];refine QR (fun m vs h'=>∃i:Nat,i≤xs.length∧m=xs.length-i∧vs=[.sl o 0 xs.length cap,.int .i64 (k+i),.int .i64 i]∧h'=h.set o (ints ((seqI k xs.length).take i++xs.drop i))) xs.length ?_ ?_
  ·exact⟨0,by omega,by omega,(by(simp only [nm_eq,nm_eq,abQ,↓reduceIte,iQ2,qF,qN,zt,nQ1,nQ2,nQ3,nQ4,nQ5,nQ6,lQ1,lQ2,lQ3,lQ4,lQ5,lQ6,lQ7,lQ8,nQ7,nQ8,ze,zR,zJ,zK,zF,nQ9,iQ3,iQ4,iQ5,iQ6,qL,qM,zq,zW,zf,zS,zT,recOf,zV,zL,zM,zU,zk,lQ9,lQ10,nQ10,if_true,if_false,ite_true,ite_false,lQ11,lQ12,oQ1,oQ2,reduceCtorEq,decide_true,decide_false,bQ1,bQ2,zZ,zQ,zX,zO,zY,zN,zw,zP,za,zb,lQ13,lQ14,qJ,zo,qG,zm,qH,zl,qO,zn,qK,lQ15,lQ16,bQ3,bQ4,bQ5,true_and,and_true,bQ6,bQ7,lQ17,lQ18,bQ8,bQ9,bQ10,bQ11,eq_self,nQ11,nQ12,nQ13,nQ14,nQ15,List.cons.injEq,AV.int.injEq,AV.sl.injEq,and_self])<;>omega),by simp [set_self ho']⟩
  ·rintro m vs h' ⟨i,hi,rfl,rfl,rfl⟩
   simp only [nm_eq,nm_eq,abQ,↓reduceIte,iQ2,qF,qN,zt,nQ1,nQ2,nQ3,nQ4,nQ5,nQ6,lQ1,lQ2,lQ3,lQ4,lQ5,lQ6,lQ7,lQ8,nQ7,nQ8,ze,zR,zJ,zK,zF,nQ9,iQ3,iQ4,iQ5,iQ6,qL,qM,zq,zW,zf,zS,zT,recOf,zV,zL,zM,zU,zk,lQ9,lQ10,nQ10,if_true,if_false,ite_true,ite_false,lQ11,lQ12,oQ1,oQ2,reduceCtorEq,decide_true,decide_false,bQ1,bQ2,zZ,zQ,zX,zO,zY,zN,zw,zP,za,zb,lQ13,lQ14,qJ,zo,qG,zm,qH,zl,qO,zn,qK,lQ15,lQ16,bQ3,bQ4,bQ5,true_and,and_true,bQ6,bQ7,lQ17,lQ18,bQ8,bQ9,bQ10,bQ11,eq_self,nQ11,nQ12,nQ13,nQ14,nQ15]
   split
   ·have hlt:i<xs.length:=by omega
    simp only [nm_eq,nm_eq,abQ,↓reduceIte,iQ2,qF,qN,zt,nQ1,nQ2,nQ3,nQ4,nQ5,nQ6,lQ1,lQ2,lQ3,lQ4,lQ5,lQ6,lQ7,lQ8,nQ7,nQ8,ze,zR,zJ,zK,zF,nQ9,iQ3,iQ4,iQ5,iQ6,qL,qM,zq,zW,zf,zS,zT,recOf,zV,zL,zM,zU,zk,lQ9,lQ10,nQ10,if_true,if_false,ite_true,ite_false,lQ11,lQ12,oQ1,oQ2,reduceCtorEq,decide_true,decide_false,bQ1,bQ2,zZ,zQ,zX,zO,zY,zN,zw,zP,za,zb,lQ13,lQ14,qJ,zo,qG,zm,qH,zl,qO,zn,qK,lQ15,lQ16,bQ3,bQ4,bQ5,true_and,and_true,bQ6,bQ7,lQ17,lQ18,bQ8,bQ9,bQ10,bQ11,eq_self,nQ11,nQ12,nQ13,nQ14,nQ15,zAh hlt,wrapS hlt (by omega:xs.length≤4611686018427387904),wrap64 (n:=k+(i:Int)+1) (by omega) (by omega)]
    have hls:i<(seqI k xs.length).length:=by rw [Zd];exact hlt
    rw [zEA (zBh _ _) (by rw [zDZ];simp [Zd];omega) rfl,zL]
    refine⟨_,by omega,i+1,by omega,rfl,(by(simp only [nm_eq,nm_eq,abQ,↓reduceIte,iQ2,qF,qN,zt,nQ1,nQ2,nQ3,nQ4,nQ5,nQ6,lQ1,lQ2,lQ3,lQ4,lQ5,lQ6,lQ7,lQ8,nQ7,nQ8,ze,zR,zJ,zK,zF,nQ9,iQ3,iQ4,iQ5,iQ6,qL,qM,zq,zW,zf,zS,zT,recOf,zV,zL,zM,zU,zk,lQ9,lQ10,nQ10,if_true,if_false,ite_true,ite_false,lQ11,lQ12,oQ1,oQ2,reduceCtorEq,decide_true,decide_false,bQ1,bQ2,zZ,zQ,zX,zO,zY,zN,zw,zP,za,zb,lQ13,lQ14,qJ,zo,qG,zm,qH,zl,qO,zn,qK,lQ15,lQ16,bQ3,bQ4,bQ5,true_and,and_true,bQ6,bQ7,lQ17,lQ18,bQ8,bQ9,bQ10,bQ11,eq_self,nQ11,nQ12,nQ13,nQ14,nQ15,List.cons.injEq,AV.int.injEq,AV.sl.injEq,and_self])<;>omega),?_⟩
    rw [set_set,ints_set,←zOQ _ _ hlt hls,zGE]
   ·have hie:i=xs.length:=by omega
    subst hie;rw [List.take_of_length_le (by rw [Zd];exact Nat.le_refl _),List.drop_length,List.append_nil]
    have hlt:=hw.lt ho;refine hk _ ⟨Nat.le_refl _,hw.set hlt _,fun x hx hn=>zBg (fun e=>?_) _,fun x ms hx=>?_⟩
    ·subst e
     rw [mkI,if_neg hne]at hn
     simp [aof]at hn
    ·rw [mkI,if_neg hne]at hx
     simp only [List.lookup_cons,List.lookup_nil,aof]at hx
     split at hx
     ·rename_i hxo
      cases hx;have hxo:x=o:=by simpa using hxo
      subst hxo;refine⟨?_,zMS _,zAw fun e=>?_,_,ho',by rw [zDZ,zG,Zd]⟩
      ·rw [zBh,ZY];congr 2;simp only [pis,ints,List.map_map];rfl
      ·have:=Zd xs.length k
       rw [e]at this
       exact hne (List.eq_nil_of_length_eq_zero this.symm)
     ·cases hx
theorem QM {v:PV} {xs:List (List Int)} {k:Int} (hI:FII v xs) (hW:Wh v) (hnd:(ead v).Nodup) (hw:HWF h) (hv:VOK (zlt h) h 0 v) (hb:xs.length≤4294967296) (hb2:∀x∈xs,x.length≤4294967296) (hk0:0≤k) (hk1:k+totL List.length xs≤4611686018427387904)
  (hk:∀h',Upd h (mkF mkI List.length k v xs) h'→K (.int .i64 (k+totL List.length xs)) h'):qg Tryz.prog 36 [er idz v,.int .i64 k] h K:=by
 refine ZI mix Tryz.func36 cf36 rfl ?_;dsimp only [if36,mI0,kI0,lI0,xI0,bI0,cI0,sI0,C2,R0,S0];obtain⟨w,a,rows,rfl,hr⟩:=hI
 by_cases hne:rows=[]
 ·have hx:=hr.nil_iff.1 hne
  subst hne;subst hx;have hlen:aLen a=some (.int .i64 ((0:Nat):Int)):=by
   obtain⟨rfl,_⟩|⟨o,off,cap,rfl,_⟩:=hv.1<;>rfl
  simp only [nm_eq,nm_eq,abQ,↓reduceIte,iQ2,qF,qN,zt,nQ1,nQ2,nQ3,nQ4,nQ5,nQ6,lQ1,lQ2,lQ3,lQ4,lQ5,lQ6,lQ7,lQ8,nQ7,nQ8,ze,zR,zJ,zK,zF,nQ9,iQ3,iQ4,iQ5,iQ6,qL,qM,zq,zW,zf,zS,zT,recOf,zV,zL,zM,zU,zk,lQ9,lQ10,nQ10,if_true,if_false,ite_true,ite_false,lQ11,lQ12,oQ1,oQ2,reduceCtorEq,decide_true,decide_false,bQ1,bQ2,zZ,zQ,zX,zO,zY,zN,zw,zP,za,zb,lQ13,lQ14,qJ,zo,qG,zm,qH,zl,qO,zn,qK,lQ15,lQ16,bQ3,bQ4,bQ5,true_and,and_true,bQ6,bQ7,lQ17,lQ18,bQ8,bQ9,bQ10,bQ11,eq_self,nQ11,nQ12,nQ13,nQ14,nQ15,er];refine QR (fun m vs h'=>vs=[a,.int .i64 k,.int .i64 0]∧h'=h) 0 ⟨rfl,rfl⟩ ?_
  rintro m vs h' ⟨rfl,rfl⟩
  simp only [nm_eq,nm_eq,abQ,↓reduceIte,iQ2,qF,qN,zt,nQ1,nQ2,nQ3,nQ4,nQ5,nQ6,lQ1,lQ2,lQ3,lQ4,lQ5,lQ6,lQ7,lQ8,nQ7,nQ8,ze,zR,zJ,zK,zF,nQ9,iQ3,iQ4,iQ5,iQ6,qL,qM,zq,zW,zf,zS,zT,recOf,zV,zL,zM,zU,zk,lQ9,lQ10,nQ10,if_true,if_false,ite_true,ite_false,lQ11,lQ12,oQ1,oQ2,reduceCtorEq,decide_true,decide_false,bQ1,bQ2,zZ,zQ,zX,zO,zY,zN,zw,zP,za,zb,lQ13,lQ14,qJ,zo,qG,zm,qH,zl,qO,zn,qK,lQ15,lQ16,bQ3,bQ4,bQ5,true_and,and_true,bQ6,bQ7,lQ17,lQ18,bQ8,bQ9,bQ10,bQ11,eq_self,nQ11,nQ12,nQ13,nQ14,nQ15,hlen,Int.lt_irrefl]
  have:=hk h' (Upd.refl hw)
  simpa [totL]using this
 ·obtain⟨hwt,_,hWs⟩:=hW.resolve_left hne
  obtain⟨o,cap,rfl,ho,hz⟩:=hv.whole hwt hne;rw [Z7 hne]at hnd
  obtain⟨n1,n2⟩:=List.nodup_cons.1 hnd;simp only [nm_eq,nm_eq,abQ,↓reduceIte,iQ2,qF,qN,zt,nQ1,nQ2,nQ3,nQ4,nQ5,nQ6,lQ1,lQ2,lQ3,lQ4,lQ5,lQ6,lQ7,lQ8,nQ7,nQ8,ze,zR,zJ,zK,zF,nQ9,iQ3,iQ4,iQ5,iQ6,qL,qM,zq,zW,zf,zS,zT,recOf,zV,zL,zM,zU,zk,lQ9,lQ10,nQ10,if_true,if_false,ite_true,ite_false,lQ11,lQ12,oQ1,oQ2,reduceCtorEq,decide_true,decide_false,bQ1,bQ2,zZ,zQ,zX,zO,zY,zN,zw,zP,za,zb,lQ13,lQ14,qJ,zo,qG,zm,qH,zl,qO,zn,qK,lQ15,lQ16,bQ3,bQ4,bQ5,true_and,and_true,bQ6,bQ7,lQ17,lQ18,bQ8,bQ9,bQ10,bQ11,eq_self,nQ11,nQ12,nQ13,nQ14,nQ15,er];refine QR (fun m vs h'=>∃i:Nat,i≤xs.length∧m=xs.length-i∧vs=[.sl o 0 xs.length cap,.int .i64 (k+totL List.length (xs.take i)),.int .i64 i]∧Upd h (mkS mkI List.length k (rows.take i) (xs.take i)) h') xs.length ?_ ?_
  ·exact⟨0,by omega,by omega,by rw [List.take_zero,zBe];exact(by(simp only [nm_eq,nm_eq,abQ,↓reduceIte,iQ2,qF,qN,zt,nQ1,nQ2,nQ3,nQ4,nQ5,nQ6,lQ1,lQ2,lQ3,lQ4,lQ5,lQ6,lQ7,lQ8,nQ7,nQ8,ze,zR,zJ,zK,zF,nQ9,iQ3,iQ4,iQ5,iQ6,qL,qM,zq,zW,zf,zS,zT,recOf,zV,zL,zM,zU,zk,lQ9,lQ10,nQ10,if_true,if_false,ite_true,ite_false,lQ11,lQ12,oQ1,oQ2,reduceCtorEq,decide_true,decide_false,bQ1,bQ2,zZ,zQ,zX,zO,zY,zN,zw,zP,za,zb,lQ13,lQ14,qJ,zo,qG,zm,qH,zl,qO,zn,qK,lQ15,lQ16,bQ3,bQ4,bQ5,true_and,and_true,bQ6,bQ7,lQ17,lQ18,bQ8,bQ9,bQ10,bQ11,eq_self,nQ11,nQ12,nQ13,nQ14,nQ15,List.cons.injEq,AV.int.injEq,AV.sl.injEq,and_self])<;>omega),by simp only [List.take_zero,zIh];exact Upd.refl hw⟩
  ·rintro m vs h' ⟨i,hi,rfl,rfl,u⟩
   simp only [nm_eq,nm_eq,abQ,↓reduceIte,iQ2,qF,qN,zt,nQ1,nQ2,nQ3,nQ4,nQ5,nQ6,lQ1,lQ2,lQ3,lQ4,lQ5,lQ6,lQ7,lQ8,nQ7,nQ8,ze,zR,zJ,zK,zF,nQ9,iQ3,iQ4,iQ5,iQ6,qL,qM,zq,zW,zf,zS,zT,recOf,zV,zL,zM,zU,zk,lQ9,lQ10,nQ10,if_true,if_false,ite_true,ite_false,lQ11,lQ12,oQ1,oQ2,reduceCtorEq,decide_true,decide_false,bQ1,bQ2,zZ,zQ,zX,zO,zY,zN,zw,zP,za,zb,lQ13,lQ14,qJ,zo,qG,zm,qH,zl,qO,zn,qK,lQ15,lQ16,bQ3,bQ4,bQ5,true_and,and_true,bQ6,bQ7,lQ17,lQ18,bQ8,bQ9,bQ10,bQ11,eq_self,nQ11,nQ12,nQ13,nQ14,nQ15]
   split
   ·have hlt:i<xs.length:=by omega
    obtain⟨v,hv1,hv2,hv3,hv4,hv5,hv6⟩:=mkT_I.step hr hWs n2 hv.2 hlt u;have hld:h'.rd1 o i=some (er idz v):=by
     rw [ZG (by rw [u.same o hz (qW.2 fun hm=>n1 (zFb (mkT_I.keysS (hr.take i) (qc.2 fun c hc=>qc.1 hWs c (List.mem_of_mem_take hc)) o hm)))];exact ho)]
     rw [Q7,hv1];rfl
    have ht:=zBB (len:=List.length) hlt;have htl:=zCu List.length xs (i+1);have hbi:=hb2 _ (List.getElem_mem hlt);simp only [nm_eq,nm_eq,abQ,↓reduceIte,iQ2,qF,qN,zt,nQ1,nQ2,nQ3,nQ4,nQ5,nQ6,lQ1,lQ2,lQ3,lQ4,lQ5,lQ6,lQ7,lQ8,nQ7,nQ8,ze,zR,zJ,zK,zF,nQ9,iQ3,iQ4,iQ5,iQ6,qL,qM,zq,zW,zf,zS,zT,recOf,zV,zL,zM,zU,zk,lQ9,lQ10,nQ10,if_true,if_false,ite_true,ite_false,lQ11,lQ12,oQ1,oQ2,reduceCtorEq,decide_true,decide_false,bQ1,bQ2,zZ,zQ,zX,zO,zY,zN,zw,zP,za,zb,lQ13,lQ14,qJ,zo,qG,zm,qH,zl,qO,zn,qK,lQ15,lQ16,bQ3,bQ4,bQ5,true_and,and_true,bQ6,bQ7,lQ17,lQ18,bQ8,bQ9,bQ10,bQ11,eq_self,nQ11,nQ12,nQ13,nQ14,nQ15,zAh hlt,hld,wrapS hlt (by omega:xs.length≤4611686018427387904)]
    refine zA0 hv2 hv3 u.wf hv5 hbi (by omega) (by omega) fun h'' u'=>?_
    simp only [nm_eq,nm_eq,abQ,↓reduceIte,iQ2,qF,qN,zt,nQ1,nQ2,nQ3,nQ4,nQ5,nQ6,lQ1,lQ2,lQ3,lQ4,lQ5,lQ6,lQ7,lQ8,nQ7,nQ8,ze,zR,zJ,zK,zF,nQ9,iQ3,iQ4,iQ5,iQ6,qL,qM,zq,zW,zf,zS,zT,recOf,zV,zL,zM,zU,zk,lQ9,lQ10,nQ10,if_true,if_false,ite_true,ite_false,lQ11,lQ12,oQ1,oQ2,reduceCtorEq,decide_true,decide_false,bQ1,bQ2,zZ,zQ,zX,zO,zY,zN,zw,zP,za,zb,lQ13,lQ14,qJ,zo,qG,zm,qH,zl,qO,zn,qK,lQ15,lQ16,bQ3,bQ4,bQ5,true_and,and_true,bQ6,bQ7,lQ17,lQ18,bQ8,bQ9,bQ10,bQ11,eq_self,nQ11,nQ12,nQ13,nQ14,nQ15,wrapS hlt (by omega:xs.length≤4611686018427387904)]
    exact⟨_,by omega,i+1,by omega,rfl,(by(simp only [nm_eq,nm_eq,abQ,↓reduceIte,iQ2,qF,qN,zt,nQ1,nQ2,nQ3,nQ4,nQ5,nQ6,lQ1,lQ2,lQ3,lQ4,lQ5,lQ6,lQ7,lQ8,nQ7,nQ8,ze,zR,zJ,zK,zF,nQ9,iQ3,iQ4,iQ5,iQ6,qL,qM,zq,zW,zf,zS,zT,recOf,zV,zL,zM,zU,zk,lQ9,lQ10,nQ10,if_true,if_false,ite_true,ite_false,lQ11,lQ12,oQ1,oQ2,reduceCtorEq,decide_true,decide_false,bQ1,bQ2,zZ,zQ,zX,zO,zY,zN,zw,zP,za,zb,lQ13,lQ14,qJ,zo,qG,zm,qH,zl,qO,zn,qK,lQ15,lQ16,bQ3,bQ4,bQ5,true_and,and_true,bQ6,bQ7,lQ17,lQ18,bQ8,bQ9,bQ10,bQ11,eq_self,nQ11,nQ12,nQ13,nQ14,nQ15,List.cons.injEq,AV.int.injEq,AV.sl.injEq,and_self])<;>omega),hv6 _ u'⟩
   ·have hie:i=xs.length:=by omega
    subst hie;rw [List.take_length,List.take_of_length_le (by rw [hr.1];exact Nat.le_refl _)]at u
    rw [List.take_length];exact hk _ u
theorem zBY {v:PV} {xs:List (List (List Int))} {k:Int} (hI:FIII v xs) (hW:Wh v) (hnd:(ead v).Nodup) (hw:HWF h) (hv:VOK (zlt h) h 0 v) (hb:xs.length≤4294967296) (hb2:∀x∈xs,x.length≤4294967296∧∀y∈x,y.length≤4294967296) (hk0:0≤k) (hk1:k+totL (totL List.length) xs≤4611686018427387904)
  (hk:∀h',Upd h (mkF (mkF mkI List.length) (totL List.length) k v xs) h'→K (.int .i64 (k+totL (totL List.length) xs)) h'):qg Tryz.prog 37 [er idz v,.int .i64 k] h K:=by
 refine ZI mix Tryz.func37 cf37 rfl ?_;dsimp only [if37,mI0,kI0,lI0,xI0,bI0,cI0,sI0,C2,R0,S0];obtain⟨w,a,rows,rfl,hr⟩:=hI
 by_cases hne:rows=[]
 ·have hx:=hr.nil_iff.1 hne
  subst hne;subst hx;have hlen:aLen a=some (.int .i64 ((0:Nat):Int)):=by
   obtain⟨rfl,_⟩|⟨o,off,cap,rfl,_⟩:=hv.1<;>rfl
  simp only [nm_eq,nm_eq,abQ,↓reduceIte,iQ2,qF,qN,zt,nQ1,nQ2,nQ3,nQ4,nQ5,nQ6,lQ1,lQ2,lQ3,lQ4,lQ5,lQ6,lQ7,lQ8,nQ7,nQ8,ze,zR,zJ,zK,zF,nQ9,iQ3,iQ4,iQ5,iQ6,qL,qM,zq,zW,zf,zS,zT,recOf,zV,zL,zM,zU,zk,lQ9,lQ10,nQ10,if_true,if_false,ite_true,ite_false,lQ11,lQ12,oQ1,oQ2,reduceCtorEq,decide_true,decide_false,bQ1,bQ2,zZ,zQ,zX,zO,zY,zN,zw,zP,za,zb,lQ13,lQ14,qJ,zo,qG,zm,qH,zl,qO,zn,qK,lQ15,lQ16,bQ3,bQ4,bQ5,true_and,and_true,bQ6,bQ7,lQ17,lQ18,bQ8,bQ9,bQ10,bQ11,eq_self,nQ11,nQ12,nQ13,nQ14,nQ15,er];refine QR (fun m vs h'=>vs=[a,.int .i64 k,.int .i64 0]∧h'=h) 0 ⟨rfl,rfl⟩ ?_
  rintro m vs h' ⟨rfl,rfl⟩
  simp only [nm_eq,nm_eq,abQ,↓reduceIte,iQ2,qF,qN,zt,nQ1,nQ2,nQ3,nQ4,nQ5,nQ6,lQ1,lQ2,lQ3,lQ4,lQ5,lQ6,lQ7,lQ8,nQ7,nQ8,ze,zR,zJ,zK,zF,nQ9,iQ3,iQ4,iQ5,iQ6,qL,qM,zq,zW,zf,zS,zT,recOf,zV,zL,zM,zU,zk,lQ9,lQ10,nQ10,if_true,if_false,ite_true,ite_false,lQ11,lQ12,oQ1,oQ2,reduceCtorEq,decide_true,decide_false,bQ1,bQ2,zZ,zQ,zX,zO,zY,zN,zw,zP,za,zb,lQ13,lQ14,qJ,zo,qG,zm,qH,zl,qO,zn,qK,lQ15,lQ16,bQ3,bQ4,bQ5,true_and,and_true,bQ6,bQ7,lQ17,lQ18,bQ8,bQ9,bQ10,bQ11,eq_self,nQ11,nQ12,nQ13,nQ14,nQ15,hlen,Int.lt_irrefl]
  have:=hk h' (Upd.refl hw)
  simpa [totL]using this
 ·obtain⟨hwt,_,hWs⟩:=hW.resolve_left hne
  obtain⟨o,cap,rfl,ho,hz⟩:=hv.whole hwt hne;rw [Z7 hne]at hnd
  obtain⟨n1,n2⟩:=List.nodup_cons.1 hnd;simp only [nm_eq,nm_eq,abQ,↓reduceIte,iQ2,qF,qN,zt,nQ1,nQ2,nQ3,nQ4,nQ5,nQ6,lQ1,lQ2,lQ3,lQ4,lQ5,lQ6,lQ7,lQ8,nQ7,nQ8,ze,zR,zJ,zK,zF,nQ9,iQ3,iQ4,iQ5,iQ6,qL,qM,zq,zW,zf,zS,zT,recOf,zV,zL,zM,zU,zk,lQ9,lQ10,nQ10,if_true,if_false,ite_true,ite_false,lQ11,lQ12,oQ1,oQ2,reduceCtorEq,decide_true,decide_false,bQ1,bQ2,zZ,zQ,zX,zO,zY,zN,zw,zP,za,zb,lQ13,lQ14,qJ,zo,qG,zm,qH,zl,qO,zn,qK,lQ15,lQ16,bQ3,bQ4,bQ5,true_and,and_true,bQ6,bQ7,lQ17,lQ18,bQ8,bQ9,bQ10,bQ11,eq_self,nQ11,nQ12,nQ13,nQ14,nQ15,er];refine QR (fun m vs h'=>∃i:Nat,i≤xs.length∧m=xs.length-i∧vs=[.sl o 0 xs.length cap,.int .i64 (k+totL (totL List.length) (xs.take i)),.int .i64 i]∧Upd h (mkS (mkF mkI List.length) (totL List.length) k (rows.take i) (xs.take i)) h') xs.length ?_ ?_
  ·exact⟨0,by omega,by omega,by rw [List.take_zero,zBe];exact(by(simp only [nm_eq,nm_eq,abQ,↓reduceIte,iQ2,qF,qN,zt,nQ1,nQ2,nQ3,nQ4,nQ5,nQ6,lQ1,lQ2,lQ3,lQ4,lQ5,lQ6,lQ7,lQ8,nQ7,nQ8,ze,zR,zJ,zK,zF,nQ9,iQ3,iQ4,iQ5,iQ6,qL,qM,zq,zW,zf,zS,zT,recOf,zV,zL,zM,zU,zk,lQ9,lQ10,nQ10,if_true,if_false,ite_true,ite_false,lQ11,lQ12,oQ1,oQ2,reduceCtorEq,decide_true,decide_false,bQ1,bQ2,zZ,zQ,zX,zO,zY,zN,zw,zP,za,zb,lQ13,lQ14,qJ,zo,qG,zm,qH,zl,qO,zn,qK,lQ15,lQ16,bQ3,bQ4,bQ5,true_and,and_true,bQ6,bQ7,lQ17,lQ18,bQ8,bQ9,bQ10,bQ11,eq_self,nQ11,nQ12,nQ13,nQ14,nQ15,List.cons.injEq,AV.int.injEq,AV.sl.injEq,and_self])<;>omega),by simp only [List.take_zero,zIh];exact Upd.refl hw⟩
  ·rintro m vs h' ⟨i,hi,rfl,rfl,u⟩
   simp only [nm_eq,nm_eq,abQ,↓reduceIte,iQ2,qF,qN,zt,nQ1,nQ2,nQ3,nQ4,nQ5,nQ6,lQ1,lQ2,lQ3,lQ4,lQ5,lQ6,lQ7,lQ8,nQ7,nQ8,ze,zR,zJ,zK,zF,nQ9,iQ3,iQ4,iQ5,iQ6,qL,qM,zq,zW,zf,zS,zT,recOf,zV,zL,zM,zU,zk,lQ9,lQ10,nQ10,if_true,if_false,ite_true,ite_false,lQ11,lQ12,oQ1,oQ2,reduceCtorEq,decide_true,decide_false,bQ1,bQ2,zZ,zQ,zX,zO,zY,zN,zw,zP,za,zb,lQ13,lQ14,qJ,zo,qG,zm,qH,zl,qO,zn,qK,lQ15,lQ16,bQ3,bQ4,bQ5,true_and,and_true,bQ6,bQ7,lQ17,lQ18,bQ8,bQ9,bQ10,bQ11,eq_self,nQ11,nQ12,nQ13,nQ14,nQ15]
   split
   ·have hlt:i<xs.length:=by omega
    obtain⟨v,hv1,hv2,hv3,hv4,hv5,hv6⟩:=mkT_I.F.step hr hWs n2 hv.2 hlt u;have hld:h'.rd1 o i=some (er idz v):=by
     rw [ZG (by rw [u.same o hz (qW.2 fun hm=>n1 (zFb (mkT_I.F.keysS (hr.take i) (qc.2 fun c hc=>qc.1 hWs c (List.mem_of_mem_take hc)) o hm)))];exact ho)]
     rw [Q7,hv1];rfl
    have ht:=zBB (len:=totL List.length) hlt;have htl:=zCu (totL List.length) xs (i+1);have hbi:=hb2 _ (List.getElem_mem hlt);simp only [nm_eq,nm_eq,abQ,↓reduceIte,iQ2,qF,qN,zt,nQ1,nQ2,nQ3,nQ4,nQ5,nQ6,lQ1,lQ2,lQ3,lQ4,lQ5,lQ6,lQ7,lQ8,nQ7,nQ8,ze,zR,zJ,zK,zF,nQ9,iQ3,iQ4,iQ5,iQ6,qL,qM,zq,zW,zf,zS,zT,recOf,zV,zL,zM,zU,zk,lQ9,lQ10,nQ10,if_true,if_false,ite_true,ite_false,lQ11,lQ12,oQ1,oQ2,reduceCtorEq,decide_true,decide_false,bQ1,bQ2,zZ,zQ,zX,zO,zY,zN,zw,zP,za,zb,lQ13,lQ14,qJ,zo,qG,zm,qH,zl,qO,zn,qK,lQ15,lQ16,bQ3,bQ4,bQ5,true_and,and_true,bQ6,bQ7,lQ17,lQ18,bQ8,bQ9,bQ10,bQ11,eq_self,nQ11,nQ12,nQ13,nQ14,nQ15,zAh hlt,hld,wrapS hlt (by omega:xs.length≤4611686018427387904)]
    refine QM hv2 hv3 hv4 u.wf hv5 hbi.1 hbi.2 (by omega) (by omega) fun h'' u'=>?_
    simp only [nm_eq,nm_eq,abQ,↓reduceIte,iQ2,qF,qN,zt,nQ1,nQ2,nQ3,nQ4,nQ5,nQ6,lQ1,lQ2,lQ3,lQ4,lQ5,lQ6,lQ7,lQ8,nQ7,nQ8,ze,zR,zJ,zK,zF,nQ9,iQ3,iQ4,iQ5,iQ6,qL,qM,zq,zW,zf,zS,zT,recOf,zV,zL,zM,zU,zk,lQ9,lQ10,nQ10,if_true,if_false,ite_true,ite_false,lQ11,lQ12,oQ1,oQ2,reduceCtorEq,decide_true,decide_false,bQ1,bQ2,zZ,zQ,zX,zO,zY,zN,zw,zP,za,zb,lQ13,lQ14,qJ,zo,qG,zm,qH,zl,qO,zn,qK,lQ15,lQ16,bQ3,bQ4,bQ5,true_and,and_true,bQ6,bQ7,lQ17,lQ18,bQ8,bQ9,bQ10,bQ11,eq_self,nQ11,nQ12,nQ13,nQ14,nQ15,wrapS hlt (by omega:xs.length≤4611686018427387904)]
    exact⟨_,by omega,i+1,by omega,rfl,(by(simp only [nm_eq,nm_eq,abQ,↓reduceIte,iQ2,qF,qN,zt,nQ1,nQ2,nQ3,nQ4,nQ5,nQ6,lQ1,lQ2,lQ3,lQ4,lQ5,lQ6,lQ7,lQ8,nQ7,nQ8,ze,zR,zJ,zK,zF,nQ9,iQ3,iQ4,iQ5,iQ6,qL,qM,zq,zW,zf,zS,zT,recOf,zV,zL,zM,zU,zk,lQ9,lQ10,nQ10,if_true,if_false,ite_true,ite_false,lQ11,lQ12,oQ1,oQ2,reduceCtorEq,decide_true,decide_false,bQ1,bQ2,zZ,zQ,zX,zO,zY,zN,zw,zP,za,zb,lQ13,lQ14,qJ,zo,qG,zm,qH,zl,qO,zn,qK,lQ15,lQ16,bQ3,bQ4,bQ5,true_and,and_true,bQ6,bQ7,lQ17,lQ18,bQ8,bQ9,bQ10,bQ11,eq_self,nQ11,nQ12,nQ13,nQ14,nQ15,List.cons.injEq,AV.int.injEq,AV.sl.injEq,and_self])<;>omega),hv6 _ u'⟩
   ·have hie:i=xs.length:=by omega
    subst hie;rw [List.take_length,List.take_of_length_le (by rw [hr.1];exact Nat.le_refl _)]at u
    rw [List.take_length];exact hk _ u
end
section
variable {σ:PHeap} {K:PV→PHeap→Prop} {p:Int} {W:List (List Int)} {B:List (List (List Int))} {vP vB:PV} {lo hi:Nat}
theorem zB5 {v:PV} {xs:List Int} {k:Int} (hI:FI v (seqI k xs.length)) (hb:xs.length≤4294967296) (hk0:0≤k) (hk1:k≤4611686018427387904) (hk:K (.int .i64 (k+xs.length)) σ):zA Tryz.prog 65 [v,.int .i64 k] σ K:=by
 obtain⟨w,a,rfl⟩:=hI;have hl:=Zd xs.length k;have hg:=zGE xs.length k;generalize seqI k xs.length=ys at *
 refine zD mix Tryz.func65 ?_;simp only [pwA,seval,-iQ0];refine zC (fun m vs h'=>∃i:Nat,i≤ys.length∧m=ys.length-i∧vs=[.fz w a ys.length (pis ys),.int .i64 (k+(i:Int)),.int .i64 i]∧σ=h') ys.length ?_ ?_
 ·exact⟨0,by omega,by omega,by rw [show k+((0:Nat):Int)=k by omega];rfl,rfl⟩
 rintro m vs h' ⟨i,hi,rfl,rfl,rfl⟩
 simp only [pwA,seval,-iQ0];refine iteI (fun hlt=>?_) fun hge=>?_
 ·simp only [pwA,seval,-iQ0,hlt,gi hlt,hg i hlt,z8,wrapS hlt (by omega:ys.length≤4611686018427387904),wrap64 (n:=k+(i:Int)+1) (by omega) (by omega)]
  refine⟨_,by omega,i+1,by omega,rfl,?_⟩
  have:k+(i:Int)+1=k+((i+1:Nat):Int):=by omega
  rw [this]
 ·have hie:i=xs.length:=by omega
  subst hie;exact hk
theorem Q0 {v:PV} {xs:List (List Int)} {k:Int} (hI:FII v (sqL sqI List.length k xs)) (hb:xs.length≤4294967296) (hb2:∀x∈xs,x.length≤4294967296) (hk0:0≤k) (hk1:k+totL List.length xs≤4611686018427387904) (hk:K (.int .i64 (k+totL List.length xs)) σ):zA Tryz.prog 40 [v,.int .i64 k] σ K:=by
 obtain⟨w,a,rows,rfl,hr⟩:=hI;have hl:=Qa sqI List.length xs k;have hg:∀(i:Nat) (hi:i<xs.length) (h2:i<(sqL sqI List.length k xs).length),(sqL sqI List.length k xs)[i]=sqI (k+totL List.length (xs.take i)) xs[i]:=fun i hi _=>zE3 sqI List.length xs k i hi
 generalize sqL sqI List.length k xs=ys at *
 refine zD mix Tryz.func40 ?_;simp only [pwA,seval,-iQ0];refine zC (fun m vs h'=>∃i:Nat,i≤ys.length∧m=ys.length-i∧vs=[.fz w a ys.length rows,.int .i64 (k+totL List.length (xs.take i)),.int .i64 i]∧σ=h') ys.length ?_ ?_
 ·exact⟨0,by omega,by omega,by rw [List.take_zero,zBe,show k+((0:Nat):Int)=k by omega];rfl,rfl⟩
 rintro m vs h' ⟨i,hi,rfl,rfl,rfl⟩
 simp only [pwA,seval,-iQ0];refine iteI (fun hlt=>?_) fun hge=>?_
 ·have hlx:i<xs.length:=by omega
  obtain⟨w4,a4,hrk⟩:=hr.rowI hlt;have ht:=zBB (len:=List.length) hlx;have htl:=zCu List.length xs (i+1);have hgi:=hg i hlx hlt;simp only [pwA,seval,-iQ0,hlt,hrk];have hbi:=hb2 _ (List.getElem_mem hlx);refine zB5 (xs:=xs[i]) ⟨w4,a4,by rw [hgi,sqI]⟩ hbi (by omega) (by omega) ?_
  have hn:¬(k+(totL List.length (xs.take i):Int)+(xs[i].length:Int)<0):=by omega
  simp only [pwA,seval,-iQ0,hn,wrapS hlt (by omega:ys.length≤4611686018427387904)]
  refine⟨_,by omega,i+1,by omega,rfl,?_⟩
  have:k+(totL List.length (xs.take i):Int)+(xs[i].length:Int)=k+(totL List.length (xs.take (i+1)):Int):=by omega
  rw [this]
 ·have hie:i=xs.length:=by omega
  subst hie;rw [List.take_length];exact hk
theorem zED {v:PV} {xs:List Int} (hI:FI v xs) (hb:xs.length≤1048576) (hk:∀v t,FI v xs→Own σ.top t v→σ.top≤t→K v (σ.up t)):zA Tryz.prog 24 [v] σ K:=
 zA.fzT (fun K'=>zDG hI hb) (zh _ _) (Owns.pis _ _ _) fun o cap t h1 h2=>hk _ t ⟨_,_,rfl⟩ h1 h2
theorem zDI {v:PV} {xs:List (List Int)} (hI:FII v xs) (sz:SzL xs) (hk:∀v t,FII v xs→Own σ.top t v→σ.top≤t→K v (σ.up t)):zA Tryz.prog 25 [v] σ K:=by
 obtain⟨w,a,rs,rfl,hr⟩:=hI;have hb:=sz.l;refine zA.gh ?_;refine zD mix Tryz.func25 ?_;simp only [pwA,seval,-iQ0,mk24 (n:=xs.length) (by omega),mkL (n:=xs.length) (by omega)]
 refine zC (fun m vs h'=>∃i:Nat,i≤xs.length∧m=xs.length-i∧vs=[.fz w a xs.length rs,.sl σ.next 0 xs.length (.known xs.length),.int .i64 i]∧∃rows t,rows.length=i∧All2 FI rows (xs.take i)∧Owns σ.top t rows∧σ.top≤t∧h'=(σ.new (rows++List.replicate (xs.length-i) (.fz true .nils 0 []))).up t) xs.length ?_ ?_
 ·exact⟨0,by omega,by omega,rfl,[],σ.top,rfl,by simpa using All2.nil _,Owns.nil _ _,Nat.le_refl _,by simp [PHeap.up,PHeap.new]⟩
 rintro m vs h' ⟨i,hi,rfl,rfl,rows,t,hrl,hra,hro,htt,rfl⟩
 simp only [pwA,seval,-iQ0];refine iteI (fun hlt=>?_) fun hge=>?_
 ·obtain⟨w4,a4,hrk⟩:=hr.rowI hlt
  simp only [pwA,seval,-iQ0,hlt,hrk];refine zED ⟨_,_,rfl⟩ (sz.r _ (List.getElem_mem hlt)) fun r t2 hr' ho' ht'=>?_
  have hlen:i+1≤(rows++List.replicate (xs.length-i) (PV.fz true .nils 0 [])).length:=by simp;omega
  simp only [pwA,seval,-iQ0,hlt,hlen,hr'.cells,hr'.one,wrapS hlt (by omega:xs.length≤4611686018427387904)]
  refine⟨_,by omega,i+1,by omega,rfl,rfl,rows++[r],t2,by simp [hrl],?_,hro.snoc ho' htt ht',Nat.le_trans htt ht',?_⟩
  ·rw [List.take_succ_eq_append_getElem hlt];exact hra.snoc hr'
  ·rw [zBi hrl hlt];rfl
 ·have hie:i=xs.length:=by omega
  subst hie;rw [List.take_length]at hra
  rw [Nat.sub_self,List.replicate_zero,List.append_nil];exact Gh.own ((zB σ _).up htt) (by simp only [pwA,seval,-iQ0]) (Nat.le_refl _) (hra.bI 0) (by simp [capOK]) hro fun o t h1 h2=>hk _ t ⟨_,_,_,rfl,hra⟩ h1 h2
theorem zF8 {v:PV} {xs:List (List (List Int))} (hI:FIII v xs) (sz:SzM xs) (hk:∀v t,FIII v xs→Own σ.top t v→σ.top≤t→K v (σ.up t)):zA Tryz.prog 26 [v] σ K:=by
 obtain⟨w,a,rs,rfl,hr⟩:=hI;have hb:=sz.l;refine zA.gh ?_;refine zD mix Tryz.func26 ?_;simp only [pwA,seval,-iQ0,mk24 (n:=xs.length) (by omega),mkL (n:=xs.length) (by omega)]
 refine zC (fun m vs h'=>∃i:Nat,i≤xs.length∧m=xs.length-i∧vs=[.fz w a xs.length rs,.sl σ.next 0 xs.length (.known xs.length),.int .i64 i]∧∃rows t,rows.length=i∧All2 FII rows (xs.take i)∧Owns σ.top t rows∧σ.top≤t∧h'=(σ.new (rows++List.replicate (xs.length-i) (.fz true .nils 0 []))).up t) xs.length ?_ ?_
 ·exact⟨0,by omega,by omega,rfl,[],σ.top,rfl,by simpa using All2.nil _,Owns.nil _ _,Nat.le_refl _,by simp [PHeap.up,PHeap.new]⟩
 rintro m vs h' ⟨i,hi,rfl,rfl,rows,t,hrl,hra,hro,htt,rfl⟩
 simp only [pwA,seval,-iQ0];refine iteI (fun hlt=>?_) fun hge=>?_
 ·obtain⟨w4,a4,rk,hrk,hrs⟩:=hr.rowL hlt
  simp only [pwA,seval,-iQ0,hlt,hrk];refine zDI ⟨_,_,_,rfl,hrs⟩ (sz.r _ (List.getElem_mem hlt)) fun r t2 hr' ho' ht'=>?_
  have hlen:i+1≤(rows++List.replicate (xs.length-i) (PV.fz true .nils 0 [])).length:=by simp;omega
  simp only [pwA,seval,-iQ0,hlt,hlen,hr'.cells,hr'.one,wrapS hlt (by omega:xs.length≤4611686018427387904)]
  refine⟨_,by omega,i+1,by omega,rfl,rfl,rows++[r],t2,by simp [hrl],?_,hro.snoc ho' htt ht',Nat.le_trans htt ht',?_⟩
  ·rw [List.take_succ_eq_append_getElem hlt];exact hra.snoc hr'
  ·rw [zBi hrl hlt];rfl
 ·have hie:i=xs.length:=by omega
  subst hie;rw [List.take_length]at hra
  rw [Nat.sub_self,List.replicate_zero,List.append_nil];exact Gh.own ((zB σ _).up htt) (by simp only [pwA,seval,-iQ0]) (Nat.le_refl _) (hra.bL 0) (by simp [capOK]) hro fun o t h1 h2=>hk _ t ⟨_,_,_,rfl,hra⟩ h1 h2
end
end Go.Proofs
namespace Go.Ab
theorem Owns.last {pre rows:List PV} {o l lo hi hi':Nat} {cap:Cap} (h:Owns lo hi (pre++rows)) (h1:lo≤o) (h2:o<hi') (hh:hi≤hi') (hn:o∉eads (pre++rows)):Owns lo hi' (pre++[.fz true (.sl o 0 l cap) l rows]):=by
 have hw:=qc.1 h.wh;have nd:=h.nd;rw [qA]at nd hn
 by_cases hr:rows=[]
 ·subst hr
  refine⟨qc.2 fun c hc=>?_,?_,fun x hx=>?_⟩
  ·rcases List.mem_append.1 hc with hc | hc
   ·exact hw c (List.mem_append.2 (.inl hc))
   ·rw [List.mem_singleton.1 hc];exact .inl rfl
  ·rw [qA]
   simpa [eads,ead]using nd
  ·rw [qA]at hx
   have:=h.lt x (by rw [qA];simpa [eads,ead]using hx)
   omega
 ·have e:eads (pre++[PV.fz true (.sl o 0 l cap) l rows])=eads pre++(o::eads rows):=by
   rw [qA];simp only [eads,List.append_nil];rw [Z7 hr]
  refine⟨qc.2 fun c hc=>?_,?_,fun x hx=>?_⟩
  ·rcases List.mem_append.1 hc with hc | hc
   ·exact hw c (List.mem_append.2 (.inl hc))
   ·rw [List.mem_singleton.1 hc]
    exact .inr ⟨rfl,rfl,qc.2 fun c hc=>hw c (List.mem_append.2 (.inr hc))⟩
  ·rw [e]
   exact(List.perm_middle (a:=o) (l₁:=eads pre) (l₂:=eads rows)).nodup_iff.2 (List.nodup_cons.2 ⟨hn,nd⟩)
  ·rw [e,List.mem_append,List.mem_cons]at hx
   have hl:=h.lt x;rw [qA,List.mem_append]at hl
   rcases hx with hx|rfl|hx
   ·have:=hl (.inl hx);omega
   ·omega
   ·have:=hl (.inr hx);omega
end Go.Ab
