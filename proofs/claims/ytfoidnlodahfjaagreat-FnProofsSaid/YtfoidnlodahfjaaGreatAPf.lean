/- The given statement on proofs of membership and of lying outside (FnProofs): its law holds for every input. -/
import Derived.Test.YtfoidnlodahfjaaGreatAP28
import Derived.Test.YtfoidnlodahfjaaGreatAP29
import Derived.Test.YtfoidnlodahfjaaGreatAP31
import Derived.Test.YtfoidnlodahfjaaGreatAP33
import Derived.Test.YtfoidnlodahfjaaGreatAP36
import Derived.Test.YtfoidnlodahfjaaGreatAP40
import Derived.Test.YtfoidnlodahfjaaGreatAP42
import Derived.Test.YtfoidnlodahfjaaGreatAP43
import Derived.Test.YtfoidnlodahfjaaGreatAP44
import Derived.Test.YtfoidnlodahfjaaGreatAP45
open Int renaming reduceNatCast'→iQ0
set_option maxRecDepth 100000
namespace Go.Grp
end Go.Grp
set_option linter.unusedSimpArgs false
set_option linter.unusedVariables false
set_option linter.unusedSectionVars false
namespace Go.Proofs
open Go.Ab Go.Lie Go.Grp
variable {σ:PHeap} {K:PV→PHeap→Prop} {va vb vC:PV} {xs ys:List (List Int)} {bs:List Int}
theorem zIz (ha:FII va xs) (hb:FII vb ys) (sz:SzL xs) (hk:∀t:Bool,(t=true↔xs=ys)→K (.bool t) σ):zA Tryz.prog 24 [va,vb] σ K:=by
 obtain⟨wx,ax,rx,rfl,hrx⟩:=ha;obtain⟨wy,ay,ry,rfl,hry⟩:=hb;have hl:=sz.l;refine zC mix Tryz.func24 ?_
 conv=>arg 2;cbv
 refine zD rfl ?_;simp only [pwA,seval,-iQ0]
 by_cases hxy:xs.length=ys.length
 rotate_left
 ·have hne:¬(xs.length:Int)=(ys.length:Int):=by omega
  simp only [pwA,seval,-iQ0,hne];exact hk false ⟨fun h=>(by cases h),fun h=>absurd (by rw [h]) hxy⟩
 have heq:(xs.length:Int)=(ys.length:Int):=by omega
 simp only [pwA,seval,-iQ0,heq];refine zF (fun m us g=>∃i:Nat,i≤ys.length∧m=ys.length-i∧us=[.fz wx ax xs.length rx,.fz wy ay ys.length ry,.int .i64 i]∧g=σ∧∀j,j<i→xs[j]? = ys[j]?) ys.length ⟨0,by omega,by omega,rfl,rfl,fun j hj=>absurd hj (Nat.not_lt_zero _)⟩ ?_
 rintro m us g ⟨i,hi,rfl,rfl,rfl,he⟩
 simp only [pwA,seval,-iQ0,heq];refine iteI (fun hlt=>?_) fun hge=>?_
 rotate_left
 ·refine hk true ⟨fun _=>List.ext_getElem? fun j=>?_,fun _=>rfl⟩
  rcases Nat.lt_or_ge j i with e|e
  ·exact he j e
  ·rw [List.getElem?_eq_none (by omega),List.getElem?_eq_none (by omega)]
 have hltx:i<xs.length:=by omega
 have hlty:i<ys.length:=by omega
 have wi1:IntKind.i64.wrap ((i:Int)+1)=((i+1:Nat):Int):=wrapS hlty (by omega)
 obtain⟨w1,a1,h1⟩:=hrx.rowI hltx;obtain⟨w2,a2,h2⟩:=hry.rowI hlty;have hle:=sz.r _ (List.getElem_mem hltx);simp only [pwA,seval,-iQ0,h1,h2,hltx,hlty];refine zGI ⟨w1,a1,rfl⟩ ⟨w2,a2,rfl⟩ hle fun t ht=>?_
 cases t with
 | false=>
  simp only [pwA,seval,-iQ0];refine hk false ⟨fun h=>(by cases h),fun h=>?_⟩
  have:=ht.2 (by simp only [h])
  cases this
 | true=>
  have hv:=ht.1 rfl;simp only [pwA,seval,-iQ0,wi1];refine⟨_,by omega,i+1,by omega,rfl,rfl,fun j hj=>?_⟩
  rcases Nat.lt_or_ge j i with e|e
  ·exact he j e
  ·obtain rfl:j=i:=by omega
   rw [List.getElem?_eq_getElem hltx,List.getElem?_eq_getElem hlty,hv]
theorem GSt.one {h:PHeap} {b:Nat} {vG:PV} {G:List Pre} (a:GSt h b vG G):vG.one=true:=by
 rcases a with ⟨_,rfl⟩|⟨t,cap,wO,wP,wC,O,P,C,_,rfl,_⟩<;>rfl
theorem GSt.cells {h:PHeap} {b:Nat} {vG:PV} {G:List Pre} (a:GSt h b vG G):vG.cells=[vG]:=by
 rcases a with ⟨_,rfl⟩|⟨t,cap,wO,wP,wC,O,P,C,_,rfl,_⟩<;>rfl
theorem zGe (hb:FB vC bs) (hbd:∀b∈bs,0≤b∧b≤255) (hk:∀σ',K (.bool true) σ'):zA Tryz.prog 4 [vC] σ K:=by
 have hb1:=hb.one;have hb2:=hb.cells;refine zN mix Tryz.func4 cf4 rfl ?_;dsimp only [if4,qI,eI,mI0,tI0,LI0,bI0,cI0,eI0,C1,C3,G0,gm0,oI0,aI0,vI0,R0,S0];simp only [pwA,seval,-iQ0,hb1];refine zL2 hb fun t ht=>?_
 cases t with
 | true=>
  simp only [pwA,seval,-iQ0];exact hk _
 | false=>
 have hlen:bs.length≤4096:=by
  rcases Nat.lt_or_ge 4096 bs.length with e|e
  ·have:=ht.2 e;cases this
  ·exact e
 clear ht;have hB:Byt bs:=⟨by omega,hbd⟩
 simp only [pwA,seval,-iQ0,hb1];refine zB3 hb hB fun vO vP vQ O P C vL L vx x hR sm hL hl7 hyl hx hxl=>?_
 have g1:=hR.O.one;have g2:=hR.P.one;have g3:=hR.C.one;have l1:=hL.one;have x1:=hx.one;have szL:SzL L:=⟨by omega,fun y hy=>by have:=hyl y hy;omega⟩
 have szx:x.length≤1048576:=by omega
 simp only [pwA,seval,-iQ0,g1,g2,g3,l1,x1];have e3:(σ.new [vO,vP,vQ]).rd σ.next 0 3=some [vO,vP,vQ]:=by simp only [pwA,seval,-iQ0]
 have n3:σ.next<(σ.new [vO,vP,vQ]).next:=Nat.lt_succ_self _;have o3:(σ.new [vO,vP,vQ]).obj σ.next=some [vO,vP,vQ]:=by rw [zG,if_pos rfl]
 generalize σ.new [vO,vP,vQ]=H at *
 generalize σ.next=s3 at *
 refine zEc zC9 sm.sz hR hL szL hx szx fun k G Z vG vZ c h1 hM hG hZ k1=>?_
 have gg:=hG.one;have gc:=hG.cells;have zz:=hZ.one;have zc:vZ.cells=[vZ]:=by obtain⟨w5,a5,r5,rfl,_⟩:=hZ;rfl
 have hn1:=k1.next;have gt:∀{tg:Nat} {cells:List PV},h1.obj tg=some cells→tg<h1.next→(h1.new [.int .i64 k,vG,vZ]).obj tg=some cells:=fun {tg cells} h hl=>by rw [zG,if_neg (by omega)];exact h
 have r3:(h1.new [.int .i64 k,vG,vZ]).rd s3 0 3=some [vO,vP,vQ]:=by rw [zT (gt (by rw [k1.obj _ n3];exact o3) (by omega))];rfl
 have o6:(h1.new [.int .i64 k,vG,vZ]).obj h1.next=some [.int .i64 k,vG,vZ]:=by rw [zG,if_pos rfl]
 have nn:(h1.new [.int .i64 k,vG,vZ]).next=h1.next+1:=rfl;have hs3:¬s3=h1.next:=by omega
 have o3':(h1.new [.int .i64 k,vG,vZ]).obj s3=some [vO,vP,vQ]:=gt (by rw [k1.obj _ n3];exact o3) (by omega)
 have r3i:h1.rd s3 0 3=some [vO,vP,vQ]:=by rw [zT (by rw [k1.obj _ n3];exact o3)];rfl
 simp only [pwA,seval,-iQ0,gg,gc,zz,zc,l1,x1,hs3,r3i];generalize h1.new [PV.int .i64 k,vG,vZ]=H2 at *
 refine zEb sm.sz hR hL szL hx szx fun k' G' Z' vG' vZ' c' hM' hG' hZ'=>?_
 obtain⟨⟨rfl,rfl,rfl⟩,rfl⟩:=hM.unique hM';have gg':=hG'.one;have zz':=hZ'.one;have gc':=hG'.cells;have zc':vZ'.cells=[vZ']:=by obtain⟨w5,a5,r5,rfl,_⟩:=hZ';rfl
 have q60:(H2.new [.int .i64 k,vG',vZ']).rd1 h1.next 0=some (.int .i64 k):=by rw [zH (by rw [zG,if_neg (by omega)];exact o6)];rfl
 have q62:(H2.new [.int .i64 k,vG',vZ']).rd1 h1.next 2=some vZ:=by rw [zH (by rw [zG,if_neg (by omega)];exact o6)];rfl
 have q80:(H2.new [.int .i64 k,vG',vZ']).rd1 H2.next 0=some (.int .i64 k):=by rw [zH (by rw [zG,if_pos rfl])];rfl
 have q82:(H2.new [.int .i64 k,vG',vZ']).rd1 H2.next 2=some vZ':=by rw [zH (by rw [zG,if_pos rfl])];rfl
 have q3:(H2.new [.int .i64 k,vG',vZ']).rd s3 0 3=some [vO,vP,vQ]:=by rw [zT (by rw [zG,if_neg (by omega)];exact o3')];rfl
 have kH3:=zB H2 [PV.int .i64 k,vG',vZ'];have p60:H2.rd1 h1.next 0=some (.int .i64 k):=by rw [zH o6];rfl
 have p62:H2.rd1 h1.next 2=some vZ:=by rw [zH o6];rfl
 have m1:¬h1.next=H2.next:=by omega
 have m2:¬s3=H2.next:=by omega
 simp only [pwA,seval,-iQ0,gg',gc',zz',zc',l1,x1,p60,p62,m1,m2];generalize H2.new [PV.int .i64 k,vG',vZ']=H3 at *
 have szN:SzL ([]:List (List Int)):=⟨Nat.zero_le _,fun l hl=>by cases hl⟩
 have szZ:SzL Z:=by
  rcases hM with ⟨_,⟨_,_,rfl⟩,_⟩|⟨_,_,⟨_,_,rfl⟩,_⟩|⟨_,m,w,_,_,⟨_,⟨_,_,rfl⟩,_⟩|⟨hw,⟨_,_,rfl⟩,_⟩⟩
  ·exact szN
  ·exact szN
  ·exact szN
  ·refine⟨by simp only [List.length_append,List.length_cons,List.length_nil];omega,fun l hl=>?_⟩
   simp only [List.mem_append,List.mem_cons,List.not_mem_nil,or_false]at hl
   rcases hl with (rfl|rfl)|h
   ·omega
   ·omega
   ·exact szL.r _ h
 refine zIz hZ hZ' szZ fun t ht=>?_
 obtain rfl:t=true:=ht.2 rfl;simp only [pwA,seval,-iQ0,q3,l1,x1];refine zDx sm.sz hR hL szL hx szx fun k2 G2 Z2 vG2 vZ2 c2 h4 hO2 hG2 hZ2 k4=>?_
 have gg2:=hG2.one;have gc2:=hG2.cells;have zz2:=hZ2.one;have zc2:vZ2.cells=[vZ2]:=by obtain⟨w5,a5,r5,rfl,_⟩:=hZ2;rfl
 have hn4:=k4.next;have hn3:=kH3.next;have o64:h4.obj h1.next=some [.int .i64 k,vG,vZ]:=by rw [k4.obj _ (by omega),kH3.obj _ (by omega)];exact o6
 have r64:(h4.new [.int .i64 k2,vG2,vZ2]).rd h1.next 0 3=some [.int .i64 k,vG,vZ]:=by rw [zT (by rw [zG,if_neg (by omega)];exact o64)];rfl
 have r10:(h4.new [.int .i64 k2,vG2,vZ2]).rd h4.next 0 3=some [.int .i64 k2,vG2,vZ2]:=by rw [zT (by rw [zG,if_pos rfl])];rfl
 have kH5:=zB h4 [PV.int .i64 k2,vG2,vZ2];have r64i:h4.rd h1.next 0 3=some [.int .i64 k,vG,vZ]:=by rw [zT o64];rfl
 have m4:¬h1.next=h4.next:=by omega
 simp only [pwA,seval,-iQ0,gg2,gc2,zz2,zc2,r64i,m4];generalize h4.new [PV.int .i64 k2,vG2,vZ2]=H5 at *
 have bb1:(!(true == true))=false:=rfl;have bb2:(!(false == false))=false:=rfl;have mem:∀{m:Nat},OutG O P C L x→Fnd O P C L x m→GC O P C L x:=fun o f=>f.mem o.lg.s o.lg.F o.gs
 rcases hM with ⟨a1,⟨rfl,rfl,rfl⟩,rfl⟩|⟨a1,a2,⟨rfl,rfl,rfl⟩,rfl⟩|⟨a1,m,w,f,hw,⟨hw64,⟨rfl,rfl,rfl⟩,rfl⟩|⟨hw64,⟨rfl,rfl,rfl⟩,rfl⟩⟩
 ·rcases hO2 with ⟨b1,⟨rfl,rfl,rfl⟩,rfl⟩ | ⟨b1,_⟩ | ⟨b1,_⟩
  ·simp only [pwA,seval,-iQ0]
   exact hk _
  ·exact absurd b1 a1
  ·exact absurd b1 a1
 ·rcases hO2 with ⟨b1,_⟩ | ⟨b1,b2,_⟩ | ⟨b1,b2,⟨rfl,rfl,u,hu,rfl⟩,rfl⟩
  ·exact absurd a1 b1
  ·exact absurd b2 a2
  ·rcases hG2 with ⟨e,_⟩ | ⟨tg,cap,wO,wP,wQ,O',P',C',e,rfl,ot,bt,lt,hq⟩
   ·cases e
   ·cases e
    have ot5:H5.obj tg=some [wO,wP,wQ]:=by rw [kH5.obj _ lt];exact ot
    have lt5:tg<H5.next:=Nat.lt_of_lt_of_le lt kH5.next;simp only [pwA,seval,-iQ0,r10,bb1,bb2];refine zB5 (u:=u) b1.lg ot5 lt5 hq sm.sz hZ2 b1.2.1 b1.2.2.gS b1.gs (zJR b1.lg b1.sub hu) (canGC b1.lg b1.sub hu) b2 ?_;simp only [pwA,seval,-iQ0];exact hk _
 ·have hgc:=mem a1 f
  rcases hO2 with ⟨b1,_⟩|⟨b1,b2,⟨rfl,rfl,rfl⟩,rfl⟩|⟨b1,b2,_⟩
  ·exact absurd a1 b1
  ·simp only [pwA,seval,-iQ0,bb1,bb2]
   exact hk _
  ·exact absurd hgc b2
 ·have hgc:=mem a1 f
  rcases hO2 with ⟨b1,_⟩|⟨b1,b2,⟨rfl,rfl,rfl⟩,rfl⟩|⟨b1,b2,_⟩
  ·exact absurd a1 b1
  ·rcases hG with ⟨e,_⟩ | ⟨tg,cap,wO,wP,wQ,O',P',C',e,rfl,ot,bt,lt,hq⟩
   ·cases e
   ·cases e
    have ot5:H5.obj tg=some [wO,wP,wQ]:=by rw [kH5.obj _ (by omega),k4.obj _ (by omega),kH3.obj _ (by omega)];exact gt ot lt
    have lt5:tg<H5.next:=by have:=kH5.next;omega
    obtain⟨ev,lw⟩:=f.word hw;simp only [pwA,seval,-iQ0,r64,bb1,bb2];refine zB6 a1.lg ot5 lt5 hq sm.sz hZ a1.2.1 a1.2.2.gS a1.gs lw hw64 ev ?_;simp only [pwA,seval,-iQ0];exact hk _
  ·exact absurd hgc b2
end Go.Proofs
namespace Go.Proofs.YtfoidnlodahfjaaGreat
open Go.ChangeShapes Go.WideShapes Go.ChangeAt Go.RowKit Go.Ab Go.Joins Go.Lie Go.Proofs
set_option maxRecDepth 100000 in
theorem zDm {H:Type} {enc:TypeId×Value→H} (W:World) (base:Nat) (args:Array Value) (ds gs:List (DataW H)) (before:List MemPlace)
  (hval:∀(j:Nat) t v,Tryz.f4.params[j]? = some t→args[j]? = some v→Value.okWide Tryz.prog W .any base t v)
  (hW:DataW.Whole enc Tryz.prog Tryz.f4.params.toList Rows.fnProofsSpec.vars false W args.toList ds gs before):
  Calls Tryz.prog 4 args W fun e W'=>∃v,e=.returned v∧Rows.fnProofsSpec.post enc Tryz.prog Tryz.f4 false true false false W args v W':=by
 have hW':=hW;obtain⟨p,q,hA0,hV,rfl,hfz,hnd⟩:=hW;have hA:DataW.TrodAll enc Tryz.prog W 0 (fun _=>true) true Tryz.f4.params.toList args.toList ds p:=hA0
 rw [Tryz.params4]at hA hval
 obtain⟨v0,vs0,d0,ds0,p0,q0,hargs,rfl,rfl,t0,r0⟩:=trodAll_cons hA;obtain⟨rfl,rfl,rfl⟩:=trodAll_nil r0;obtain rfl:args = #[v0]:=by cases args;simp_all
 obtain⟨n0,t0⟩:=t0;obtain⟨s0,s0',s0'',hv0⟩:=okWide_slice Tryz.underlying22 (hval 0 22 v0 rfl rfl);have hc0:v0.cells.toList=[v0]:=by rw [hv0];rfl
 rw [hc0]at t0
 obtain⟨j0,h0,vX0,X0,m0,l0,e0,i0,o0,_,R0,y0⟩:=layB _ _ _ true n0 _ _ (MR.empty W) t0;have pc:zA Tryz.prog 4 [vX0] (PHeap.start h0) (fun v _=>v=.bool true):=zGe R0 y0 (fun _=>rfl)
 have ac:=pc.law m0.wf ⟨o0,trivial⟩;refine(ac.calls m0 (cargs:=#[v0]) ⟨_,_,rfl,i0,rfl⟩).mono fun e W' ⟨he,hb⟩=>?_
 exact⟨_,he,zEN rfl laidOut (by rw [Tryz.params4];intro t ht;simp only [List.mem_cons,List.not_mem_nil,or_false]at ht;rcases ht with rfl<;>exact⟨by kernel_rfl,of_decide_eq_true (by kernel_rfl)⟩) (by kernel_rfl) Tryz.underlying4 rfl hW' hb⟩
set_option maxRecDepth 100000 in
theorem zEu (os:Os) (started:os.Started) (H:Type) (enc:TypeId×Value→H):
  ReturnsInHanded {} Tryz.checked os 4 .any (Rows.fnProofsSpec.pre6 enc Tryz.prog Tryz.f4 Rows.fnProofsRow.domain false) (Rows.fnProofsSpec.post enc Tryz.prog Tryz.f4 false true false false):=by
 refine returnsInHanded_of_change (C:=Tryz.checked) own started (by kernel_rfl) Tryz.func4
  (ChangeSpec.witness6 (enc:=enc) (C:=Tryz.checked) false ⟨#[],#[.slice none 0 0],[]⟩ 8 (by kernel_rfl) (by kernel_rfl) (by kernel_rfl) (by kernel_rfl)) ?_
 intro W base args ds gs before hval hW _ _;exact zDm W base args ds gs before hval hW
set_option maxRecDepth 100000 in
theorem zFx:Tryz.prog.funcNamed Rows.fnProofsRow.func=some 4:=by kernel_rfl
set_option maxRecDepth 100000 in
set_option maxHeartbeats 1600000 in
set_option maxRecDepth 100000 in
theorem zEv:joinedFacts Tryz.prog 4 Tryz.f4 Rows.fnProofsSpec Rows.fnProofsRow=true:=by
 unfold joinedFacts;simp only [Bool.and_eq_true]
 repeat' apply And.intro
 all_goals (as_aux_lemma=>kernel_rfl)
theorem proofsProved:Rows.FnProofsSaid:=
 OpenClaim.holds_of_wide 4 Tryz.f4 rfl rfl rfl rfl rfl rfl rfl ⟨rfl,rfl,rfl,rfl,rfl⟩ rfl rfl rfl rfl rfl zFx Tryz.func4 zEv
  (of_decide_eq_true (by kernel_rfl)) (by unfold Func.isWrapper;first | (rw [if_pos (by decide +kernel)];kernel_rfl) | (rw [if_neg (by decide +kernel)];exact⟨rfl,rfl⟩))
  (fun os started H enc _=>zEu os started H enc)
end Go.Proofs.YtfoidnlodahfjaaGreat
