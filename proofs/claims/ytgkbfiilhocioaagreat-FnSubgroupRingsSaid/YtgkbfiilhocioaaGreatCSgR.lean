/- The given statement on the subrings of a Lazard ring and the subgroups of its group (FnSubgroupRings): its law holds for every input. -/
import Derived.Test.YtgkbfiilhocioaaGreatCP27
import Derived.Test.YtgkbfiilhocioaaGreatCP28
import Derived.Test.YtgkbfiilhocioaaGreatCP29
import Derived.Test.YtgkbfiilhocioaaGreatCP31
import Derived.Test.YtgkbfiilhocioaaGreatCP32
import Derived.Test.YtgkbfiilhocioaaGreatCP34
import Derived.Test.YtgkbfiilhocioaaGreatCP37
import Derived.Test.YtgkbfiilhocioaaGreatCP42
import Derived.Test.YtgkbfiilhocioaaGreatCP43
import Derived.Test.YtgkbfiilhocioaaGreatCP44
import Derived.Test.YtgkbfiilhocioaaGreatCP45
open Int renaming reduceNatCast'→iQ0
namespace Go.Grp
end Go.Grp
set_option linter.unusedSimpArgs false
set_option linter.unusedVariables false
namespace Go.Proofs
open Go.Ab Go.Lie Go.Grp
variable {σ:PHeap} {K:PV→PHeap→Prop} {p:Int} {W:List (List Int)} {B:List (List (List Int))} {vC:PV} {bs x y z:List Int} {k:Int}
theorem KM.up {σ h:PHeap} {s t:Nat} (k:KM σ s h) (ht:h.top≤t):KM σ s (h.up t):=by
 obtain⟨σ',m,q⟩:=k;exact⟨σ',m,q.up ht⟩
theorem SgR.zero {p:Int} {W:List (List Int)} {B:List (List (List Int))} {u z:List (List Int)} {c:Int} (h:SgR p W B u z c) (e:c=0):CodeL p W B [] 0∧RSub p W B u∧Canon p W.length W (u.map fun e=>ptG p W.length W B e W.length) z:=by
 rcases h with ⟨h1,h2,h3⟩|⟨h1,h2,h3,h4⟩|⟨h1,h2,h3,h4⟩
 ·exact absurd e h2
 ·omega
 ·exact⟨h1,h2,h3⟩
theorem zDC (hb:FB vC bs) (hbd:∀b∈bs,0≤b∧b≤255) (hk:∀σ',K (.bool true) σ'):zA Tryz.prog 5 [vC] σ K:=by
 have hb1:=hb.one;have hb2:=hb.cells;refine zL mix Tryz.func5 cf5 rfl ?_;dsimp only [if5,qI,eI,nI,mI0,kI0,tI0,lI0,LI0,fI0,bI0,cI0,sI0,eI0,C1,C2,C3,R0,S0];simp only [pwA,seval,-iQ0,hb1];refine zPh hb fun t ht=>?_
 cases t with
 | true=>
  simp only [pwA,seval,-iQ0];exact hk _
 | false=>
 have hlen:bs.length≤4096:=by
  rcases Nat.lt_or_ge 4096 bs.length with e|e
  ·have:=ht.2 e;cases this
  ·exact e
 clear ht;have hB:Byt bs:=⟨by omega,hbd⟩
 simp only [pwA,seval,-iQ0,hb1];refine zA6 hb hB fun p vP vB W B vU u d hR hU szu=>?_
 have g1:=hR.P.one;have g2:=hR.B.one;have sz:=d.sz;have hW6:=d.wl;simp only [pwA,seval,-iQ0,g1,g2];have hH3:(σ.new [PV.int .i64 p,vP,vB]).obj σ.next=some [.int .i64 p,vP,vB]:=by simp only [pwA,seval,-iQ0]
 have hHn:(σ.new [PV.int .i64 p,vP,vB]).next=σ.next+1:=rfl;generalize σ.new [PV.int .i64 p,vP,vB]=G0 at *
 have rd0:G0.rd σ.next 0 3=some [.int .i64 p,vP,vB]:=by rw [zi hH3];rfl
 simp only [pwA,seval,-iQ0,rd0];refine zNu hR sz hU szu fun v1 z1 c1 hz1 hv1=>?_
 simp only [pwA,seval,-iQ0,rd0];refine zNt hR sz hU szu fun v2 z2 c2 hz2 hv2=>?_
 obtain⟨rfl,rfl⟩:=hz1.unique hz2;have szz:=hz1.bd;simp only [pwA,seval,-iQ0];refine zCn hv1 hv2 szz fun t ht=>?_
 obtain rfl:t=true:=ht.2 rfl;clear ht
 by_cases hc:c1=0
 rotate_left
 ·simp only [pwA,seval,-iQ0,hc,decide_false]
  exact hk _
 subst hc;obtain⟨code0,hu,hm⟩:=hz1.zero rfl;obtain⟨⟨hl,he⟩,hlz⟩:=code0.zero;obtain⟨cc,lz⟩:=Lz.of hl hlz;obtain⟨m1,m2,m3,m4⟩:=zMh lz hu hm;have sp:ZT p W z1:=zKk hm;have o:=hl.1.w;have hpb:=hl.1.1.bd;have hg:=lg_LG lz;simp only [pwA,seval,-iQ0,rd0,decide_true];refine zI8 hR sz hv2 szz fun t c hc=>?_
 obtain⟨rfl,rfl⟩:t=true∧c=0:=by
  rcases hc with ⟨h1,h2⟩|⟨h1,h2,h3⟩
  ·exact absurd ⟨hl,sp⟩ h1
  ·exact⟨h2.2 m2,h3⟩
 simp only [pwA,seval,-iQ0,rd0];refine zNs hR sz hv2 szz fun v3 z3 c3 hz3 hv3=>?_
 have hcan:SrR p W B z1 u 0:=.inr (.inr ⟨⟨hl,sp⟩,⟨hlz,m2⟩,⟨hu.2.asc,fun v hv=>(m4 v).2 (hu.2.mem v hv),hu.2.one,hu.2.red,fun x hx hd=>hu.2.all x ((m4 x).1 hx) hd⟩,rfl⟩)
 obtain⟨rfl,rfl⟩:=hz3.unique hcan;simp only [pwA,seval,-iQ0,decide_true];refine zCn hv3 hU szu fun t ht=>?_
 obtain rfl:t=true:=ht.2 rfl;clear ht;obtain⟨wu,au,ru,rfl,hru⟩:=id hU;obtain⟨w2,a2,r2,rfl,hr2⟩:=id hv2;have hlen2:(z1.length:Int)=(z3.length:Int):=by omega
 simp only [pwA,seval,-iQ0,hlen2,decide_true,rd0];have lgr:LGR p W B (rO p W.length) (lgPs p W.length W B W.length) (lgCs p W.length W B W.length) 0:=.inr ⟨code0,rfl,rfl,rfl,rfl⟩;have szG:=lg_bd lgr;refine zDS hR sz fun vO vQ vD O P C c4 hz4 hpr=>?_
 obtain⟨⟨rfl,rfl,rfl⟩,rfl⟩:=hz4.unique lgr;have k0:=hpr.O.one;have k1:=hpr.P.one;have k2:=hpr.C.one;simp only [pwA,seval,-iQ0,k0,k1,k2,hb1];have hG1:(G0.new [vO,vQ,vD]).obj σ.next=some [.int .i64 p,vP,vB]:=by rw [zM,if_neg (by omega)];exact hH3
 have hG2:(G0.new [vO,vQ,vD]).obj G0.next=some [vO,vQ,vD]:=by rw [zM,if_pos rfl]
 have hGn:(G0.new [vO,vQ,vD]).next=G0.next+1:=rfl;generalize G0.new [vO,vQ,vD]=G at *
 refine zN5 hb hB fun H kG di hHx=>?_
 have hsD:G.next<H.next:=by omega
 have hA:H.obj σ.next=some [.int .i64 p,vP,vB]:=by rw [kG.obj _ (by omega)];exact hG1
 have hC:H.obj G0.next=some [vO,vQ,vD]:=by rw [kG.obj _ (by omega)];exact hG2
 have kmH:KM H G.next H:=by
  obtain⟨i,hh,e,_⟩:=di.ex;exact⟨H,⟨_,diC vC i hh,e,⟨hb.bel 0,trivial,trivial,trivial⟩,(QZ e).symm⟩,Keep.refl _⟩
 have rdR:∀{h:PHeap},KM H G.next h→h.rd σ.next 0 3=some [.int .i64 p,vP,vB]∧h.rd1 σ.next 0=some (.int .i64 p)∧h.rd1 σ.next 1=some vP∧h.rd G0.next 0 3=some [vO,vQ,vD]:=fun {h} km=>by
  have ob:h.obj σ.next=some [.int .i64 p,vP,vB]:=by rw [km.obj (by omega) (by omega)];exact hA
  have oc:h.obj G0.next=some [vO,vQ,vD]:=by rw [km.obj (by omega) (by omega)];exact hC
  exact⟨by rw [zi ob];rfl,by rw [zI ob];rfl,by rw [zI ob];rfl,by rw [zi oc];rfl⟩
 obtain⟨wp,ap,rp,rfl,hrp⟩:=id hR.1;simp only [pwA,seval,-iQ0];refine zG (fun m us h=>∃k:Nat,k≤6∧m=6-k∧us=[.ptr σ.next 0,.fz wu au z3.length ru,.fz w2 a2 z1.length r2,.ptr G0.next 0,.ptr G.next 0,.int .i64 k]∧KM H G.next h∧Di h G.next vC bs) 6 ⟨0,by omega,by omega,rfl,kmH,di⟩ ?_
 rintro m us h0 ⟨k,hk6,rfl,rfl,km0,di0⟩
 have hs0:G.next<h0.next:=di0.lt;simp only [pwA,seval,-iQ0];refine iteI (fun hkl=>?_) fun hge=>?_
 rotate_left
 ·exact hk _
 have kmS:KM h0 G.next h0:=by
  obtain⟨i,hh,e,_⟩:=di0.ex;exact⟨h0,⟨_,diC vC i hh,e,⟨hb.bel 0,trivial,trivial,trivial⟩,(QZ e).symm⟩,Keep.refl _⟩
 have belL:∀t o cs,sbs t o cs [PV.ptr σ.next 0,PV.fz wu au z3.length ru,.fz w2 a2 z1.length r2,PV.ptr G0.next 0,PV.ptr G.next 0,.int .i64 k]=[PV.ptr σ.next 0,PV.fz wu au z3.length ru,.fz w2 a2 z1.length r2,PV.ptr G0.next 0,PV.ptr G.next 0,.int .i64 k]:=fun t o cs=>by simp only [sbs,sb]
 refine Zc (fun m us h=>∃(i:Nat) (v:PV) (xs:List Int),i≤W.length∧m=W.length-i∧us=[PV.ptr σ.next 0,PV.fz wu au z3.length ru,.fz w2 a2 z1.length r2,PV.ptr G0.next 0,PV.ptr G.next 0,.int .i64 k,v,.int .i64 i]∧RoI h0 h G.next vC bs p W.length i v xs) W.length ?_ ?_
 ·refine RoI.fz (i:=0) (n:=W.length) (xs:=[]) (v:=.sl h0.next 0 0 (.known 0)) (pre:=[PV.ptr σ.next 0,PV.fz wu au z3.length ru,.fz w2 a2 z1.length r2,PV.ptr G0.next 0,PV.ptr G.next 0,.int .i64 k]) (post:=[.int .i64 0]) (kmS.new []) (di0.keep (zC _ _)) hs0 ⟨rfl,fun z hz=>by cases hz⟩ (Nat.zero_le _) (PSl.new _ 1 rfl (Nat.le_refl _)) rfl ⟨belL,fun _ _ _=>rfl⟩ fun v' h' r=>⟨0,v',[],Nat.zero_le _,by omega,rfl,r⟩
 rintro m us h ⟨i,v,xs,hi,rfl,rfl,km,D,hel,hva⟩
 have kmA:KM H G.next h:=km0.trans hsD km;obtain⟨rd3,rd1,rdp,rdc⟩:=rdR kmA;simp only [pwA,seval,-iQ0,rdp];refine iteI (fun hlt=>?_) fun hge=>?_
 ·have hlt':i<W.length:=by omega
  obtain⟨_,ps⟩:=hva.resolve_right (by omega)
  simp only [pwA,seval,-iQ0,rd1];refine zNn D (by omega) fun yy h3 hy0 hyp m3 D3=>?_
  simp only [pwA,seval,-iQ0];refine zJI (T:=h0) (bytes:=8) (km.mv hs0 m3) (zEX ps hs0 m3) (by omega) (by omega) fun v' h4 k4 o4 p4=>?_
  have wi1:IntKind.i64.wrap ((i:Int)+1)=((i+1:Nat):Int):=by rw [wrap64 (by omega) (by omega)];omega
  simp only [pwA,seval,-iQ0,wi1];have D4:Di h4 G.next vC bs:=D3.same (o4 _ hs0) (Nat.lt_of_lt_of_le hs0 k4.next);refine⟨W.length-(i+1),by omega,RoI.fz (i:=i+1) (n:=W.length) (xs:=xs++[yy]) (v:=v') (pre:=[PV.ptr σ.next 0,PV.fz wu au z3.length ru,.fz w2 a2 z1.length r2,PV.ptr G0.next 0,PV.ptr G.next 0,.int .i64 k]) (post:=[.int .i64 ((i+1:Nat):Int)]) k4 D4 hs0 ⟨by rw [List.length_append,hel.1];rfl,fun z hz=>?_⟩ (by omega) (by rw [←zB1];exact p4) rfl ⟨belL,fun _ _ _=>rfl⟩ fun v' h' r=>⟨i+1,v',_,by omega,rfl,rfl,r⟩⟩
  rcases List.mem_append.1 hz with e|e
  ·exact hel.2 z e
  ·rw [List.mem_singleton.1 e];omega
 have hie:i=W.length:=by omega
 obtain⟨_,hvw⟩:=hva.resolve_left (by omega)
 have hw:El p W.length xs:=by rw [←hie];exact hel
 have hwl:=hw.1;have hvw':=vc_el lz hw;have hvwl:=hvw'.1;have gw:=(gS_el lz).2 hvw';have code1:CodeL p W B [xs] 0:=.inr (.inr ⟨⟨hl,el1 hw⟩,hlz,rfl⟩);simp only [pwA,seval,-iQ0,rd3];refine zH1 hR sz hvw (by omega) fun v6 z6 c6 t6 hz6 hv6 ho6 ht6=>?_
 obtain⟨rfl,rfl⟩:=hz6.unique (.inr ⟨code1,rfl,rfl⟩);simp only [pwA,seval,-iQ0,rd3];refine zGM hR sz hvw (by omega) fun v7 z7 c7 hz7 hv7=>?_
 obtain⟨rfl,rfl⟩:=hz7.unique (.inr ⟨code1,rfl,rfl⟩);simp only [pwA,seval,-iQ0,rd3];refine zMZ hR sz hv2 hvw hl sp hw fun t ht=>?_
 simp only [pwA,seval,-iQ0,rdc];refine zKu hg hpr szG hU hu gw hv7 fun t' ht'=>?_
 obtain rfl:t=t':=by rw [Bool.eq_iff_iff];exact ht.trans ((m1 xs hw).trans ht'.symm)
 simp only [pwA,seval,-iQ0,decide_true];refine zDf hv6 hv7 (by omega) fun t2 ht2=>?_
 obtain rfl:t2=true:=ht2.2 rfl;have wk1:IntKind.i64.wrap ((k:Int)+1)=((k+1:Nat):Int):=by rw [wrap64 (by omega) (by omega)];omega
 cases t with
 | true=>
  simp only [pwA,seval,-iQ0,decide_true,wk1,beq_self_eq_true,Bool.not_true];exact⟨_,by omega,k+1,by omega,rfl,rfl,kmA.up ht6,⟨D.ex,D.lt,D.fb,D.byt⟩⟩
 | false=>
  simp only [pwA,seval,-iQ0,decide_true,wk1,beq_self_eq_true,Bool.not_true];exact⟨_,by omega,k+1,by omega,rfl,rfl,kmA.up ht6,⟨D.ex,D.lt,D.fb,D.byt⟩⟩
end Go.Proofs
namespace Go.Proofs.YtgkbfiilhocioaaGreat
open Go.ChangeShapes Go.WideShapes Go.ChangeAt Go.RowKit Go.Ab Go.Joins Go.Lie Go.Proofs
set_option maxRecDepth 100000 in
theorem zBd {H:Type} {enc:TypeId×Value→H} (W:World) (base:Nat) (args:Array Value) (ds gs:List (DataW H)) (before:List MemPlace)
  (hval:∀(j:Nat) t v,Tryz.f5.params[j]? = some t→args[j]? = some v→Value.okWide Tryz.prog W .any base t v)
  (hW:DataW.Whole enc Tryz.prog Tryz.f5.params.toList Rows.fnSubgroupRingsSpec.vars false W args.toList ds gs before):
  Calls Tryz.prog 5 args W fun e W'=>∃v,e=.returned v∧Rows.fnSubgroupRingsSpec.post enc Tryz.prog Tryz.f5 false true false false W args v W':=by
 have hW':=hW;obtain⟨p,q,hA0,hV,rfl,hfz,hnd⟩:=hW;have hA:DataW.TrodAll enc Tryz.prog W 0 (fun _=>true) true Tryz.f5.params.toList args.toList ds p:=hA0
 rw [Tryz.params5]at hA hval
 obtain⟨v0,vs0,d0,ds0,p0,q0,hargs,rfl,rfl,t0,r0⟩:=trodAll_cons hA;obtain⟨rfl,rfl,rfl⟩:=trodAll_nil r0;obtain rfl:args = #[v0]:=by cases args;simp_all
 obtain⟨n0,t0⟩:=t0;obtain⟨s0,s0',s0'',hv0⟩:=okWide_slice Tryz.underlying37 (hval 0 37 v0 rfl rfl);have hc0:v0.cells.toList=[v0]:=by rw [hv0];rfl
 rw [hc0]at t0
 obtain⟨j0,h0,vX0,X0,m0,l0,e0,i0,o0,_,R0,y0⟩:=layB _ _ _ true n0 _ _ (MR.empty W) t0;have pc:zA Tryz.prog 5 [vX0] (PHeap.start h0) (fun v _=>v=.bool true):=zDC R0 y0 (fun _=>rfl)
 have ac:=pc.law m0.wf ⟨o0,trivial⟩;refine(ac.calls m0 (cargs:=#[v0]) ⟨_,_,rfl,i0,rfl⟩).mono fun e W' ⟨he,hb⟩=>?_
 exact⟨_,he,zGH rfl laidOut (by rw [Tryz.params5];intro t ht;simp only [List.mem_cons,List.not_mem_nil,or_false]at ht;rcases ht with rfl<;>exact⟨by kernel_rfl,of_decide_eq_true (by kernel_rfl)⟩) (by kernel_rfl) Tryz.underlying4 rfl hW' hb⟩
set_option maxRecDepth 100000 in
theorem zCT (os:Os) (started:os.Started) (H:Type) (enc:TypeId×Value→H):
  ReturnsInHanded {} Tryz.checked os 5 .any (Rows.fnSubgroupRingsSpec.pre6 enc Tryz.prog Tryz.f5 Rows.fnSubgroupRingsRow.domain false) (Rows.fnSubgroupRingsSpec.post enc Tryz.prog Tryz.f5 false true false false):=by
 refine returnsInHanded_of_change (C:=Tryz.checked) own started (by kernel_rfl) Tryz.func5
  (ChangeSpec.witness6 (enc:=enc) (C:=Tryz.checked) false ⟨#[],#[.slice none 0 0],[]⟩ 8 (by kernel_rfl) (by kernel_rfl) (by kernel_rfl) (by kernel_rfl)) ?_
 intro W base args ds gs before hval hW _ _;exact zBd W base args ds gs before hval hW
set_option maxRecDepth 100000 in
theorem zCZ:Tryz.prog.funcNamed Rows.fnSubgroupRingsRow.func=some 5:=by kernel_rfl
set_option maxRecDepth 100000 in
set_option maxHeartbeats 1600000 in
set_option maxRecDepth 100000 in
theorem zCU:joinedFacts Tryz.prog 5 Tryz.f5 Rows.fnSubgroupRingsSpec Rows.fnSubgroupRingsRow=true:=by
 unfold joinedFacts;simp only [Bool.and_eq_true]
 repeat' apply And.intro
 all_goals (as_aux_lemma=>kernel_rfl)
theorem subgroupRingsProved:Rows.FnSubgroupRingsSaid:=
 OpenClaim.holds_of_wide 5 Tryz.f5 rfl rfl rfl rfl rfl rfl rfl ⟨rfl,rfl,rfl,rfl,rfl⟩ rfl rfl rfl rfl rfl zCZ Tryz.func5 zCU
  (of_decide_eq_true (by kernel_rfl)) (by unfold Func.isWrapper;first | (rw [if_pos (by decide +kernel)];kernel_rfl) | (rw [if_neg (by decide +kernel)];exact⟨rfl,rfl⟩))
  (fun os started H enc _=>zCT os started H enc)
end Go.Proofs.YtgkbfiilhocioaaGreat
