/- . -/
import Derived.Test.YtjlpbpfaihhamaaGreatAP35
import Derived.Test.YtjlpbpfaihhamaaGreatAP42
open Int renaming reduceNatCast'->ah
set_option maxRecDepth 100000
namespace Go.Grp
end Go.Grp
set_option linter.unusedSimpArgs false
set_option linter.unusedVariables false
namespace Go.Proofs
open Go.Ab Go.Lie Go.Grp
variable{σ:PHeap}{K:PV->PHeap->Prop}{k:Int}{G:List Pre}{L:List (List Int)}{vG vL:PV}
theorem Qw(hG:FG vG G)(mx:MxG G)(hL:FII vL L)(mL:L.length<=9223372036854775807)(wF:∀x∈L,x.length<=9223372036854775807)(hk:∀σ',K (.bool true) σ'):
  zA Tryz.prog 3 [.agg [.int .i64 k,vG,vL]] σ K:=by
 have h0:=hG.one;have h1:=hL.one;refine qB mix Tryz.func3 ?_;simp only[Z3,seval,-ah,h0,h1];refine zDM hG mx hL mL wF (by unfold left_;omega) fun r h=>?_
 rcases h with rfl|⟨l1,cY,bF⟩
 ·simp only[Z3,seval,-ah]
  exact hk _
 have:¬r<0:=by unfold left_ at l1;omega
 simp only[Z3,seval,-ah,this,h0,h1];refine ZH hG cY hL bF fun a1 a2 q1 q2=>?_
 simp only[Z3,seval,-ah,h0,h1,q1.one,q2.one];refine zFn q1 cY q2 bF ?_;simp only[Z3,seval,-ah,h0,h1]
 by_cases hs:(k=2∨k=3∨k=6)∧G.length=1
 ·obtain⟨jM,Df⟩:=hs
  obtain⟨g,rfl⟩:∃g,G=[g]:=by
   match G,Df with
   |[a],_=>exact⟨a,rfl⟩
  refine zDo hG cY hL bF fun t H b2 vO vP vC r2 hp kH ht hl ot=>?_
  simp only[Z3,seval,-ah,h0,h1,r2.one];have Ar:(H.new [PV.int .i64 k,.sl t 0 1 (.known 1),b2]).obj t=some [vO,vP,vC]:=by rw[zH,if_neg (by omega)];exact ot
  have ji:t<(H.new [PV.int .i64 k,.sl t 0 1 (.known 1),b2]).next:=by show t<H.next+1;omega
  have b0:(H.new [PV.int .i64 k,.sl t 0 1 (.known 1),b2]).rd H.next 0 3=some [PV.int .i64 k,.sl t 0 1 (.known 1),b2]:=by rw[zb (by rw[zH,if_pos rfl])];rfl
  have a0:(H.new [PV.int .i64 k,.sl t 0 1 (.known 1),b2]).rd σ.next 0 3=some [PV.int .i64 k,vG,vL]:=by
   have o:H.obj σ.next=some [PV.int .i64 k,vG,vL]:=(kH.obj _ (Nat.lt_succ_self _)).trans (if_pos rfl);have ln:σ.next<H.next:=Nat.lt_of_lt_of_le (Nat.lt_succ_self _) kH.next;rw[zb (by rw[zH,if_neg (by omega)];exact o)];rfl
  generalize H.new [PV.int .i64 k,.sl t 0 1 (.known 1),b2]=H1 at *
  refine zBy ⟨Ar,ji⟩ hp (cY.r g (by simp)) r2 bF jM ?_
  simp only[Z3,seval,-ah,beq_self_eq_true,h0,h1,r2.one,a0,b0];refine ZH hG cY hL bF fun c1 c2 s1 s2=>?_
  simp only[Z3,seval,-ah,h0,h1,r2.one,a0,b0];refine zA.frz Ar ⟨hp.O.bel 0,hp.P.bel 0,hp.C.bel 0,trivial⟩ fun o=>?_
  have rG:FG (.fz true (.sl o 0 1 (.known 1)) 1 [vO,vP,vC]) [g]:=⟨_,_,[(vO,vP,vC)],rfl,(All2.nil FI3).snoc hp⟩;have e:sbs t o [vO,vP,vC] [.agg [.int .i64 k,.sl t 0 1 (.known 1),b2],.agg [.int .i64 k,c1,c2]]=[.agg [.int .i64 k,.fz true (.sl o 0 1 (.known 1)) 1 [vO,vP,vC],b2],.agg [.int .i64 k,c1,c2]]:=by
   obtain⟨_,_,_,rfl,_⟩:=r2;obtain⟨_,_,_,rfl,_⟩:=s1;obtain⟨_,_,_,rfl,_⟩:=s2;simp[sbs,sb,capOK]
  rw[e];refine zAZ rG r2 s1 s2 cY bF fun t ht=>?_
  obtain rfl:=ht.2 ⟨rfl,rfl,rfl⟩;simp only[Z3,seval,-ah];exact hk _
 ·refine ZH hG cY hL bF fun b1 b2 r1 r2=>?_
  simp only[Z3,seval,-ah,h0,h1,r1.one,r2.one];refine zBz r1 cY r2 bF (fun hc=>?_) ?_
  ·have hn:=hc.1
   unfold need at hn
   by_cases h5:k=5
   ·exact .inr (.inr h5)
   by_cases h4:k=4
   ·exact .inr (.inl h4)
   rw[if_neg h5,if_neg h4]at hn
   split at hn<;>omega
  simp only[Z3,seval,-ah,beq_self_eq_true,h0,h1,r1.one,r2.one];refine ZH hG cY hL bF fun c1 c2 s1 s2=>?_
  simp only[Z3,seval,-ah,h0,h1,r1.one,r2.one];refine zAZ r1 r2 s1 s2 cY bF fun t ht=>?_
  obtain rfl:=ht.2 ⟨rfl,rfl,rfl⟩;simp only[Z3,seval,-ah];exact hk _
end Go.Proofs
namespace Go.Proofs.YtjlpbpfaihhamaaGreat
open Go.ChangeShapes Go.WideShapes Go.ChangeAt Go.RowKit Go.Ab Go.Joins Go.Lie Go.Proofs
set_option maxRecDepth 100000 in
theorem zAb{H:Type}{enc:TypeId×Value->H}(W:World)(base:Nat)(args:Array Value)(ds gs:List (DataW H))(before:List MemPlace)
  (lV:∀(j:Nat) t v,Tryz.f3.params[j]? = some t->args[j]? = some v->Value.okWide Tryz.prog W .any base t v)
  (hW:DataW.Whole enc Tryz.prog Tryz.f3.params.toList Rows.fnExactCheckCertificateSpec.vars false W args.toList ds gs before):
  Calls Tryz.prog 3 args W fun e W'=>∃v,e=.returned v∧Rows.fnExactCheckCertificateSpec.post enc Tryz.prog Tryz.f3 false true false false W args v W':=by
 have yH:=hW;obtain⟨p,q,DN,hV,rfl,ET,jf⟩:=hW;have hA:DataW.TrodAll enc Tryz.prog W 0 (fun _=>true) true Tryz.f3.params.toList args.toList ds p:=DN
 rw[Tryz.params3]at hA lV
 obtain⟨v0,Af,d0,E7,p0,q0,aQ,rfl,rfl,t0,r0⟩:=trodAll_cons hA;obtain⟨rfl,rfl,rfl⟩:=trodAll_nil r0;obtain rfl:args = #[v0]:=by cases args;simp_all
 obtain⟨j0,h0,k0,BW,BV,G0,L0,m0,l0,e0,i0,o0,R0,x0,BG,BE,BD⟩:=zMm (MR.empty W) (lV 0 25 v0 rfl rfl) t0;have pc:zA Tryz.prog 3 [.agg [.int .i64 k0,BW,BV]] (PHeap.start h0) (fun v _=>v=.bool true):=Qw R0 x0 BG BE BD (fun _=>rfl)
 have ac:=pc.law m0.wf ⟨o0,trivial⟩;refine(ac.calls m0 (cargs:=#[v0]) ⟨_,_,rfl,i0,rfl⟩).mono fun e W' ⟨he,hb⟩=>?_
 exact⟨_,he,zFK rfl laidOut (by rw[Tryz.params3];intro t ht;simp only[List.mem_cons,List.not_mem_nil,or_false]at ht;rcases ht with rfl<;>exact⟨by kernel_rfl,of_decide_eq_true (by kernel_rfl)⟩) (by kernel_rfl) Tryz.underlying4 rfl yH hb⟩
set_option maxRecDepth 100000 in
theorem zA0(os:Os)(started:os.Started)(H:Type)(enc:TypeId×Value->H):
  ReturnsInHanded {} Tryz.checked os 3 .any (Rows.fnExactCheckCertificateSpec.pre6 enc Tryz.prog Tryz.f3 Rows.fnExactCheckCertificateRow.domain false) (Rows.fnExactCheckCertificateSpec.post enc Tryz.prog Tryz.f3 false true false false):=by
 refine returnsInHanded_of_change (C:=Tryz.checked) own started (by kernel_rfl) Tryz.func3
  (ChangeSpec.witness6 (enc:=enc) (C:=Tryz.checked) false ⟨#[],#[.agg #[.int .i64 0,.slice none 0 0,.slice none 0 0]],[]⟩ 8 (by kernel_rfl) (by kernel_rfl) (by kernel_rfl) (by kernel_rfl)) ?_
 intro W base args ds gs before lV hW _ _;exact zAb W base args ds gs before lV hW
set_option maxRecDepth 100000 in
theorem zBM:Tryz.prog.funcNamed Rows.fnExactCheckCertificateRow.func=some 3:=by kernel_rfl
set_option maxRecDepth 100000 in
set_option maxHeartbeats 1600000 in
set_option maxRecDepth 100000 in
theorem zA1:joinedFacts Tryz.prog 3 Tryz.f3 Rows.fnExactCheckCertificateSpec Rows.fnExactCheckCertificateRow=true:=by
 unfold joinedFacts;simp only[Bool.and_eq_true]
 repeat' apply And.intro
 all_goals (as_aux_lemma=>kernel_rfl)
theorem checkCertificateProved:Rows.FnExactCheckCertificateSaid:=
 OpenClaim.holds_of_wide 3 Tryz.f3 rfl rfl rfl rfl rfl rfl rfl ⟨rfl,rfl,rfl,rfl,rfl⟩ rfl rfl rfl rfl rfl zBM Tryz.func3 zA1
  (of_decide_eq_true (by kernel_rfl)) (by unfold Func.isWrapper;first|(rw[if_pos (by decide +kernel)];kernel_rfl)|(rw[if_neg (by decide +kernel)];exact⟨rfl,rfl⟩))
  (fun os started H enc _=>zA0 os started H enc)
end Go.Proofs.YtjlpbpfaihhamaaGreat
