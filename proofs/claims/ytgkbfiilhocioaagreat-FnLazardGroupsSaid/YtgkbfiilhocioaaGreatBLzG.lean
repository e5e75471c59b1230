/- The given statement on the groups of Lazard rings (FnLazardGroups): its law holds for every input. -/
import Derived.Test.YtgkbfiilhocioaaGreatBP27
import Derived.Test.YtgkbfiilhocioaaGreatBP28
import Derived.Test.YtgkbfiilhocioaaGreatBP29
import Derived.Test.YtgkbfiilhocioaaGreatBP31
import Derived.Test.YtgkbfiilhocioaaGreatBP32
import Derived.Test.YtgkbfiilhocioaaGreatBP34
import Derived.Test.YtgkbfiilhocioaaGreatBP41
import Derived.Test.YtgkbfiilhocioaaGreatBP42
import Derived.Test.YtgkbfiilhocioaaGreatBP43
open Int renaming reduceNatCast'→iQ0
namespace Go.Grp
end Go.Grp
set_option linter.unusedSimpArgs false
set_option linter.unusedVariables false
namespace Go.Proofs
open Go.Ab Go.Lie Go.Grp
variable {σ:PHeap} {K:PV→PHeap→Prop} {p:Int} {W:List (List Int)} {B:List (List (List Int))} {vC:PV} {bs x y z:List Int} {k:Int}
theorem zDV (hb:FB vC bs) (hbd:∀b∈bs,0≤b∧b≤255) (hk:∀σ',K (.bool true) σ'):zA Tryz.prog 6 [vC] σ K:=by
 have hb1:=hb.one;have hb2:=hb.cells;refine zN mix Tryz.func6 cf6 rfl ?_;dsimp only [if6,qI,eI,nI,mI0,kI0,tI0,lI0,LI0,fI0,bI0,cI0,sI0,eI0,C1,C2,C3,R0,S0];simp only [pwA,seval,-iQ0,hb1];refine zPc hb fun t ht=>?_
 cases t with
 | true=>
  simp only [pwA,seval,-iQ0];exact hk _
 | false=>
 have hlen:bs.length≤4096:=by
  rcases Nat.lt_or_ge 4096 bs.length with e|e
  ·have:=ht.2 e;cases this
  ·exact e
 clear ht;have hB:Byt bs:=⟨by omega,hbd⟩
 simp only [pwA,seval,-iQ0,hb1];refine zDW hb hB fun p vP vB W B vx x d hR hvx hxl=>?_
 have g1:=hR.P.one;have g2:=hR.B.one;have sz:=d.sz;have szx:x.length≤1048576:=by omega
 simp only [pwA,seval,-iQ0,g1,g2];refine zA3 hR sz hvx szx fun v1 z1 c1 t1 hz1 hv1 ho1 ht1=>?_
 simp only [pwA,seval,-iQ0,g1,g2];refine zCE hR sz hvx szx fun v2 z2 c2 hz2 hv2=>?_
 obtain⟨rfl,rfl⟩:=hz1.unique hz2;have hzl:=vc_bd hz1;simp only [pwA,seval,-iQ0];refine qz hv1 hv2 (by omega) fun t ht=>?_
 obtain rfl:t=true:=ht.2 rfl
 by_cases hc:c1=0
 rotate_left
 ·simp only [pwA,seval,-iQ0,hc,decide_false]
  exact hk _
 subst hc;obtain⟨⟨⟨hl,he⟩,hlz⟩,rfl⟩:=hz1.zero rfl;obtain⟨cc,lz⟩:=Lz.of hl hlz;have o:=hl.1.w;have q:=hl.1.b;have hx:=he x (by simp)
 have hxn:=hx.1;have hW6:=d.wl;have hpb:=hl.1.1.bd;have hg:=lg_LG lz;have hgl:=zOW lz;have hvx':=vc_el lz hx;have hvxl:=hvx'.1;have code0:CodeL p W B [] 0:=.inr (.inr ⟨⟨hl,fun y hy=>by cases hy⟩,hlz,rfl⟩)
 have code1:∀{u:List Int},El p W.length u→CodeL p W B [u] 0:=fun hu=>.inr (.inr ⟨⟨hl,el1 hu⟩,hlz,rfl⟩)
 have code:∀{u v:List Int},El p W.length u→El p W.length v→CodeL p W B [u,v] 0:=fun hu hv=>.inr (.inr ⟨⟨hl,el2' hu hv⟩,hlz,rfl⟩)
 have lgr:LGR p W B (rO p W.length) (lgPs p W.length W B W.length) (lgCs p W.length W B W.length) 0:=.inr ⟨code0,rfl,rfl,rfl,rfl⟩;have szG:=lg_bd lgr;obtain⟨wx,ax,rfl⟩:=hvx;have hvx:FI (.fz wx ax x.length (pis x)) x:=⟨wx,ax,rfl⟩;have hH3:((σ.new [PV.int .i64 p,vP,vB]).up t1).obj σ.next=some [.int .i64 p,vP,vB]:=by simp only [pwA,seval,-iQ0]
 have hHn:σ.next<((σ.new [PV.int .i64 p,vP,vB]).up t1).next:=Nat.lt_succ_self _;have hHnx:((σ.new [PV.int .i64 p,vP,vB]).up t1).next=σ.next+1:=rfl;generalize (σ.new [PV.int .i64 p,vP,vB]).up t1=G0 at *
 have rd0:G0.rd σ.next 0 3=some [.int .i64 p,vP,vB]:=by rw [zh hH3];rfl
 simp only [pwA,seval,-iQ0,rd0];refine zGT hR sz fun vO vQ vD O P C c3 t3 hz3 hpr ho3 ht3=>?_
 obtain⟨⟨rfl,rfl,rfl⟩,rfl⟩:=hz3.unique lgr;have k0:=hpr.O.one;have k1:=hpr.P.one;have k2:=hpr.C.one;have ne1:¬σ.next=G0.next:=by omega
 simp only [pwA,seval,-iQ0,rd0,k0,k1,k2,ne1];refine zDN hR sz fun vO' vQ' vD' O' P' C' c4 hz4 hpr'=>?_
 obtain⟨⟨rfl,rfl,rfl⟩,rfl⟩:=hz4.unique lgr;have l0:=hpr'.O.one;have l1:=hpr'.P.one;have l2:=hpr'.C.one;have ne2:¬σ.next=G0.next+1:=by omega
 simp only [pwA,seval,-iQ0,rd0,l0,l1,l2,ne1,ne2];have hHA:(((G0.new [vO,vQ,vD]).new [vO',vQ',vD']).up t3).obj σ.next=some [.int .i64 p,vP,vB]:=by simp only [pwA,seval,-iQ0,ne1,ne2];exact hH3
 have hHB:(((G0.new [vO,vQ,vD]).new [vO',vQ',vD']).up t3).obj (σ.next+1)=some [vO,vQ,vD]:=by rw [←hHnx];simp only [pwA,seval,-iQ0]
 have hHC:(((G0.new [vO,vQ,vD]).new [vO',vQ',vD']).up t3).obj (σ.next+2)=some [vO',vQ',vD']:=by rw [show σ.next+2=G0.next+1 by omega];simp only [pwA,seval,-iQ0]
 have hHnn:(((G0.new [vO,vQ,vD]).new [vO',vQ',vD']).up t3).next=σ.next+3:=by show G0.next+1+1=_;omega
 rw [show G0.next+1=σ.next+2 by omega,hHnx]
 generalize ((G0.new [vO,vQ,vD]).new [vO',vQ',vD']).up t3=G1 at *
 have rdA:G1.rd σ.next 0 3=some [.int .i64 p,vP,vB]:=by rw [zh hHA];rfl
 have rdB:G1.rd (σ.next+1) 0 3=some [vO,vQ,vD]:=by rw [zh hHB];rfl
 have rdC:G1.rd (σ.next+2) 0 3=some [vO',vQ',vD']:=by rw [zh hHC];rfl
 simp only [pwA,seval,-iQ0,rdA,rdB,rdC];refine zH5 hR sz hv2 (by omega) fun v5 z5 c5 t5 hz5 hv5 ho5 ht5=>?_
 obtain⟨rfl,rfl⟩:=hz5.unique (.inr ⟨code1 hvx',rfl,rfl⟩);rw [pt_vc lz hx]at hv5
 have hJA:(G1.up t5).obj σ.next=some [.int .i64 p,vP,vB]:=hHA;have hJC:(G1.up t5).obj (σ.next+2)=some [vO',vQ',vD']:=hHC;have hJB:(G1.up t5).obj (σ.next+1)=some [vO,vQ,vD]:=hHB;have hJn:(G1.up t5).next=σ.next+3:=hHnn;generalize G1.up t5=G at *
 have rdA:G.rd σ.next 0 3=some [.int .i64 p,vP,vB]:=by rw [zh hJA];rfl
 have rdB:G.rd (σ.next+1) 0 3=some [vO,vQ,vD]:=by rw [zh hJB];rfl
 have rdC:G.rd (σ.next+2) 0 3=some [vO',vQ',vD']:=by rw [zh hJC];rfl
 simp only [pwA,seval,-iQ0,rdA,rdB,rdC,decide_true];refine zFX hpr hpr' szG fun t ht=>?_
 obtain rfl:t=true:=ht.2 ⟨rfl,rfl,rfl⟩;clear ht;simp only [pwA,seval,-iQ0,rdA,rdB,rdC,decide_true];refine Qy hpr' szG fun t ht=>?_
 obtain rfl:t=true:=ht.2 ⟨hg.pr,hg.co⟩;clear ht;simp only [pwA,seval,-iQ0,rdA,rdB,rdC,decide_true];refine zEI hpr' szG fun t ht=>?_
 obtain rfl:t=true:=ht.2 hgl;clear ht;simp only [pwA,seval,-iQ0,rdA,rdB,rdC,decide_true];refine qz hv5 hvx (by omega) fun t ht=>?_
 obtain rfl:t=true:=ht.2 rfl;clear ht;simp only [pwA,seval,-iQ0,hb1,decide_true];refine zNx hb hB fun H kG di hHx=>?_
 have hsD:G.next<H.next:=by omega
 have hr0:σ.next<H.next:=by omega
 have hne0:σ.next≠G.next:=by omega
 have hA:H.obj σ.next=some [.int .i64 p,vP,vB]:=by rw [kG.obj _ (by omega)];exact hJA
 have hC:H.obj (σ.next+2)=some [vO',vQ',vD']:=by rw [kG.obj _ (by omega)];exact hJC
 have kmH:KM H G.next H:=by
  obtain⟨i,hh,e,_⟩:=di.ex;exact⟨H,⟨_,diC vC i hh,e,⟨hb.bel 0,trivial,trivial,trivial⟩,(Q4 e).symm⟩,Keep.refl _⟩
 have rdR:∀{h:PHeap},KM H G.next h→h.rd σ.next 0 3=some [.int .i64 p,vP,vB]∧h.rd1 σ.next 0=some (.int .i64 p)∧h.rd (σ.next+2) 0 3=some [vO',vQ',vD']:=fun {h} km=>by
  have ob:h.obj σ.next=some [.int .i64 p,vP,vB]:=by rw [km.obj hr0 hne0];exact hA
  have oc:h.obj (σ.next+2)=some [vO',vQ',vD']:=by rw [km.obj (by omega) (by omega)];exact hC
  exact⟨by rw [zh ob];rfl,by rw [zI ob];rfl,by rw [zh oc];rfl⟩
 simp only [pwA,seval,-iQ0];have belL:∀t o cs,sbs t o cs [PV.ptr σ.next 0,PV.fz wx ax x.length (pis x),v2,PV.ptr (σ.next+2) 0,PV.ptr G.next 0]=[PV.ptr σ.next 0,PV.fz wx ax x.length (pis x),v2,PV.ptr (σ.next+2) 0,PV.ptr G.next 0]:=fun t o cs=>by simp only [sbs,sb,hv2.sb]
 refine Za (fun m us h=>∃(i:Nat) (v:PV) (xs:List Int),i≤x.length∧m=x.length-i∧us=[.ptr σ.next 0,.fz wx ax x.length (pis x),v2,.ptr (σ.next+2) 0,.ptr G.next 0,v,.int .i64 i]∧RoI H h G.next vC bs p x.length i v xs) x.length ?_ ?_
 ·refine RoI.fz (i:=0) (n:=x.length) (xs:=[]) (v:=.sl H.next 0 0 (.known 0)) (pre:=[.ptr σ.next 0,.fz wx ax x.length (pis x),v2,.ptr (σ.next+2) 0,.ptr G.next 0]) (post:=[.int .i64 0]) (kmH.new []) (di.keep (zD _ _)) hsD ⟨rfl,fun z hz=>by cases hz⟩ (Nat.zero_le _) (PSl.new _ 1 rfl (Nat.le_refl _)) rfl ⟨belL,fun _ _ _=>rfl⟩ fun v' h' r=>⟨0,v',[],Nat.zero_le _,by omega,rfl,r⟩
 rintro m us h ⟨i,v,xs,hi,rfl,rfl,km,D,hel,hva⟩
 obtain⟨rd3,rd1,rdc⟩:=rdR km;simp only [pwA,seval,-iQ0];refine iteI (fun hlt=>?_) fun hge=>?_
 ·have hlt':i<x.length:=by omega
  obtain⟨_,ps⟩:=hva.resolve_right (by omega)
  simp only [pwA,seval,-iQ0,rd1];refine zNj D (by omega) fun yy h3 hy0 hyp m3 D3=>?_
  simp only [pwA,seval,-iQ0];refine zN4 (T:=H) (bytes:=8) (km.mv hsD m3) (zCS ps hsD m3) (by omega) (by omega) fun v' h4 k4 o4 p4=>?_
  have wi1:IntKind.i64.wrap ((i:Int)+1)=((i+1:Nat):Int):=by rw [wrap64 (by omega) (by omega)];omega
  simp only [pwA,seval,-iQ0,wi1];have D4:Di h4 G.next vC bs:=D3.same (o4 _ hsD) (Nat.lt_of_lt_of_le hsD k4.next);refine⟨x.length-(i+1),by omega,RoI.fz (i:=i+1) (n:=x.length) (xs:=xs++[yy]) (v:=v') (pre:=[.ptr σ.next 0,.fz wx ax x.length (pis x),v2,.ptr (σ.next+2) 0,.ptr G.next 0]) (post:=[.int .i64 ((i+1:Nat):Int)]) k4 D4 hsD ⟨by rw [List.length_append,hel.1];rfl,fun z hz=>?_⟩ (by omega) (by rw [←Qm];exact p4) rfl ⟨belL,fun _ _ _=>rfl⟩ fun v' h' r=>⟨i+1,v',_,by omega,rfl,rfl,r⟩⟩
  rcases List.mem_append.1 hz with e|e
  ·exact hel.2 z e
  ·rw [List.mem_singleton.1 e];omega
 have hie:i=x.length:=by omega
 obtain⟨_,hvw⟩:=hva.resolve_left (by omega)
 have hw:El p W.length xs:=by rw [←hxn,←hie];exact hel
 have hwl:=hw.1;have hxw:=ZP o q hx hw;have hxwl:=hxw.1;have hvw':=vc_el lz hw;have hvwl:=hvw'.1;have gx:=(gS_el lz).2 hvx';have gw:=(gS_el lz).2 hvw';simp only [pwA,seval,-iQ0,rd3];refine zA3 hR sz hvw (by omega) fun v6 z6 c6 t6 hz6 hv6 ho6 ht6=>?_
 obtain⟨rfl,rfl⟩:=hz6.unique (.inr ⟨code1 hw,rfl,rfl⟩);simp only [pwA,seval,-iQ0,rd3];refine zCE hR sz hvw (by omega) fun v7 z7 c7 hz7 hv7=>?_
 obtain⟨rfl,rfl⟩:=hz7.unique (.inr ⟨code1 hw,rfl,rfl⟩);simp only [pwA,seval,-iQ0,rd3,rdc];refine Mul_F hg hpr' szG gx gw hv2 hv7 fun v8 hv8=>?_
 simp only [pwA,seval,-iQ0,rd3,rdc];refine Mul_S hg hpr' szG gx gw hv2 hv7 fun v9 hv9=>?_
 rw [show gm (rO p W.length) (lgPs p W.length W B W.length) (lgCs p W.length W B W.length) (vcG p W.length W B x) (vcG p W.length W B xs)=_ from(zOy lz hx hw).symm]at hv8 hv9
 simp only [pwA,seval,-iQ0,rd3,rdc];refine zH8 hR sz hvx (by omega) hvw (by omega) fun v10 z10 c10 t10 hz10 hv10 ho10 ht10=>?_
 obtain⟨rfl,rfl⟩:=hz10.unique (.inr ⟨code hx hw,rfl,rfl⟩);simp only [pwA,seval,-iQ0,rd3,rdc];refine zGJ hR sz hvx (by omega) hvw (by omega) fun v11 z11 c11 hz11 hv11=>?_
 obtain⟨rfl,rfl⟩:=hz11.unique (.inr ⟨code hx hw,rfl,rfl⟩);have hvp:=vc_el lz hxw;have hvpl:=hvp.1;simp only [pwA,seval,-iQ0,decide_true];refine qz hv6 hv7 (by omega) fun t ht=>?_
 obtain rfl:t=true:=ht.2 rfl;simp only [pwA,seval,-iQ0,decide_true];refine qz hv8 hv9 (by omega) fun t ht=>?_
 obtain rfl:t=true:=ht.2 rfl;simp only [pwA,seval,-iQ0,decide_true];refine qz hv10 hv11 (by omega) fun t ht=>?_
 obtain rfl:t=true:=ht.2 rfl;simp only [pwA,seval,-iQ0,rd3,rdc,decide_true];refine zA3 hR sz hv11 (by omega) fun v12 z12 c12 t12 hz12 hv12 ho12 ht12=>?_
 obtain⟨rfl,rfl⟩:=hz12.unique (.inr ⟨code1 hxw,rfl,rfl⟩);simp only [pwA,seval,-iQ0,rd3,rdc,decide_true];refine zDT lz hl hR sz hx hvx fun m1 i1 e1 e2=>?_
 simp only [pwA,seval,-iQ0,rd3,rdc,decide_true];refine zE9 hg hpr' szG gx hv2 ⟨fun h0 m2 i2 f1 f2=>?_,fun h0=>?_⟩
 ·have h0':0<W.length:=by simpa using h0
  obtain rfl:=zNE lz h0' hx e2 f2
  have:(m1:Int)=(m2:Int):=by rw [e1,f1,rO_at h0']
  simp only [pwA,seval,-iQ0,decide_true];refine qz hv12 hv9 (by omega) fun t ht=>?_
  obtain rfl:t=true:=ht.2 rfl;simp only [pwA,seval,-iQ0,decide_true,this];exact hk _
 ·have h0':W.length=0:=by simpa using h0
  have hi0:i1=0:=by
   have:=(e2 0).1 (by rw [h0'];exact List.length_eq_zero_iff.1 (by rw [(zJ o hx hx).1];exact h0'))
   omega
  subst hi0
  have:(m1:Int)=1:=by rw [e1];simp
  simp only [pwA,seval,-iQ0,decide_true];refine qz hv12 hv9 (by omega) fun t ht=>?_
  obtain rfl:t=true:=ht.2 rfl;simp only [pwA,seval,-iQ0,decide_true,this];exact hk _
end Go.Proofs
namespace Go.Proofs.YtgkbfiilhocioaaGreat
open Go.ChangeShapes Go.WideShapes Go.ChangeAt Go.RowKit Go.Ab Go.Joins Go.Lie Go.Proofs
set_option maxRecDepth 100000 in
theorem zB0 {H:Type} {enc:TypeId×Value→H} (W:World) (base:Nat) (args:Array Value) (ds gs:List (DataW H)) (before:List MemPlace)
  (hval:∀(j:Nat) t v,Tryz.f6.params[j]? = some t→args[j]? = some v→Value.okWide Tryz.prog W .any base t v)
  (hW:DataW.Whole enc Tryz.prog Tryz.f6.params.toList Rows.fnLazardGroupsSpec.vars false W args.toList ds gs before):
  Calls Tryz.prog 6 args W fun e W'=>∃v,e=.returned v∧Rows.fnLazardGroupsSpec.post enc Tryz.prog Tryz.f6 false true false false W args v W':=by
 have hW':=hW;obtain⟨p,q,hA0,hV,rfl,hfz,hnd⟩:=hW;have hA:DataW.TrodAll enc Tryz.prog W 0 (fun _=>true) true Tryz.f6.params.toList args.toList ds p:=hA0
 rw [Tryz.params6]at hA hval
 obtain⟨v0,vs0,d0,ds0,p0,q0,hargs,rfl,rfl,t0,r0⟩:=trodAll_cons hA;obtain⟨rfl,rfl,rfl⟩:=trodAll_nil r0;obtain rfl:args = #[v0]:=by cases args;simp_all
 obtain⟨n0,t0⟩:=t0;obtain⟨s0,s0',s0'',hv0⟩:=okWide_slice Tryz.underlying37 (hval 0 37 v0 rfl rfl);have hc0:v0.cells.toList=[v0]:=by rw [hv0];rfl
 rw [hc0]at t0
 obtain⟨j0,h0,vX0,X0,m0,l0,e0,i0,o0,_,R0,y0⟩:=layB _ _ _ true n0 _ _ (MR.empty W) t0;have pc:zA Tryz.prog 6 [vX0] (PHeap.start h0) (fun v _=>v=.bool true):=zDV R0 y0 (fun _=>rfl)
 have ac:=pc.law m0.wf ⟨o0,trivial⟩;refine(ac.calls m0 (cargs:=#[v0]) ⟨_,_,rfl,i0,rfl⟩).mono fun e W' ⟨he,hb⟩=>?_
 exact⟨_,he,zGB rfl laidOut (by rw [Tryz.params6];intro t ht;simp only [List.mem_cons,List.not_mem_nil,or_false]at ht;rcases ht with rfl<;>exact⟨by kernel_rfl,of_decide_eq_true (by kernel_rfl)⟩) (by kernel_rfl) Tryz.underlying4 rfl hW' hb⟩
set_option maxRecDepth 100000 in
theorem zCf (os:Os) (started:os.Started) (H:Type) (enc:TypeId×Value→H):
  ReturnsInHanded {} Tryz.checked os 6 .any (Rows.fnLazardGroupsSpec.pre6 enc Tryz.prog Tryz.f6 Rows.fnLazardGroupsRow.domain false) (Rows.fnLazardGroupsSpec.post enc Tryz.prog Tryz.f6 false true false false):=by
 refine returnsInHanded_of_change (C:=Tryz.checked) own started (by kernel_rfl) Tryz.func6
  (ChangeSpec.witness6 (enc:=enc) (C:=Tryz.checked) false ⟨#[],#[.slice none 0 0],[]⟩ 8 (by kernel_rfl) (by kernel_rfl) (by kernel_rfl) (by kernel_rfl)) ?_
 intro W base args ds gs before hval hW _ _;exact zB0 W base args ds gs before hval hW
set_option maxRecDepth 100000 in
theorem zDM:Tryz.prog.funcNamed Rows.fnLazardGroupsRow.func=some 6:=by kernel_rfl
set_option maxRecDepth 100000 in
set_option maxHeartbeats 1600000 in
set_option maxRecDepth 100000 in
theorem zCg:joinedFacts Tryz.prog 6 Tryz.f6 Rows.fnLazardGroupsSpec Rows.fnLazardGroupsRow=true:=by
 unfold joinedFacts;simp only [Bool.and_eq_true]
 repeat' apply And.intro
 all_goals (as_aux_lemma=>kernel_rfl)
theorem lazardGroupsProved:Rows.FnLazardGroupsSaid:=
 OpenClaim.holds_of_wide 6 Tryz.f6 rfl rfl rfl rfl rfl rfl rfl ⟨rfl,rfl,rfl,rfl,rfl⟩ rfl rfl rfl rfl rfl zDM Tryz.func6 zCg
  (of_decide_eq_true (by kernel_rfl)) (by unfold Func.isWrapper;first | (rw [if_pos (by decide +kernel)];kernel_rfl) | (rw [if_neg (by decide +kernel)];exact⟨rfl,rfl⟩))
  (fun os started H enc _=>zCf os started H enc)
end Go.Proofs.YtgkbfiilhocioaaGreat
