/- . -/
import Derived.Test.YtgkbfiilhocioaaGreatFP10
open Int renaming reduceNatCast'->ae
namespace Go.Grp
end Go.Grp
set_option linter.unusedSimpArgs false
set_option linter.unusedVariables false
namespace Go.Proofs
open Go.Ab Go.Lie Go.Grp
variable{σ:PHeap}{K:PV->PHeap->Prop}{p:Int}{W:V2}{B:V3}{vC:PV}{bs x y z:V1}
theorem SrR.zero{p:Int}{W:V2}{B:V3}{u z:V2}{c:Int}(h:SrR p W B u z c)(e:c=0):(isLie p W B/\Zy p W u)/\(isLz p W.length W B/\zBE p W B u)/\CanG (rO p W.length) (rG p W.length W B (u.map λe=>vcG p W.length W B e)) z:=by
 rcases h with ⟨h1,h2,h3⟩|⟨h1,h2,h3,h4⟩|⟨h1,h2,h3,h4⟩
 .omega
 .omega
 .exact⟨h1,h2,h3⟩
theorem EleG.unique{O:V1}{P:V2}{C:V3}(g:LG O P C){good:V1->Prop}{a b:V2}(ha:EleG O P C good a)(hb:EleG O P C good b):a=b:=by
 obtain⟨L,h1,h2⟩:=ha;obtain⟨M,h3,h4⟩:=hb;have e:∀x,GC O P C M x↔GC O P C L x:=λx=>⟨λh N hN hl=>h N hN λl hm=>hl l ((h1 l).2 ((h3 l).1 hm)),λh N hN hl=>h N hN λl hm=>hl l ((h3 l).2 ((h1 l).1 hm))⟩
 exact h2.unique g.s g.F (GC.sub g.F λl hl=>((h1 l).1 hl).1) ⟨h4.asc,λv hv=>(e v).1 (h4.mem v hv),h4.one,h4.red,λx hx hd=>h4.all x ((e x).2 hx) hd⟩
theorem zO7{O:V1}{H:V1->Prop}{u:V2}(h:CanG O H u)(hn:O.length<=6):SzL u:=⟨by have:=h.len;omega,λx hx=>by have:=(h.one x hx).1.len;omega⟩
theorem zDf(hb:FB vC bs)(CW:∀b∈bs,0<=b/\b<=255)(hk:∀σ',K (.bool true) σ'):zA Tryz.prog 7 [vC] σ K:=by
 have eU:=hb.one;refine zN mix Tryz.func7 cf7 rfl ?_;dsimp only[if7,eI,mI0,tI0,LI0,bI0,cI0,eI0,C1,C2,I0,G0,gm0,oI0,aI0,vI0,R0,S0];simp only[Z3,seval,-ae,eU];refine zRB hb λt ht=>?_;cases t with
 |true=>
  simp only[Z3,seval,-ae];exact hk _
 |false=>
 have hlen:bs.length<=4096:=by
  rcases Nat.lt_or_ge 4096 bs.length with e|e
  .have:=ht.2 e;cases this
  .exact e
 clear ht;have hB:Byt bs:=⟨by omega,CW⟩
 simp only[Z3,seval,-ae,eU];refine zBX hb hB λp vP vB W B vU u d hR hU hJ=>?_;have g1:=hR.P.one;have g2:=hR.B.one;have sz:=d.sz;have ML:=d.wl;simp only[Z3,seval,-ae,g1,g2];have Fi:(σ.new [PV.int .i64 p,vP,vB]).obj σ.next=some [.int .i64 p,vP,vB]:=by simp only[Z3,seval,-ae]
 have gZ:(σ.new [PV.int .i64 p,vP,vB]).next=σ.next+1:=rfl;generalize σ.new [PV.int .i64 p,vP,vB]=G0 at *
 have mi:G0.rd σ.next 0 3=some [.int .i64 p,vP,vB]:=by rw[ze Fi];rfl
 simp only[Z3,seval,-ae,mi];refine zIx hR sz hU hJ λv1 z1 c1 cE sG=>?_;simp only[Z3,seval,-ae,mi];refine zPE hR sz hU hJ λv2 z2 c2 cf bW=>?_;obtain⟨rfl,rfl⟩:=cE.unique cf;have DS:=cE.bd;simp only[Z3,seval,-ae];refine Zg sG bW DS λt ht=>?_;obtain rfl:t=true:=ht.2 rfl;clear ht;by_cases hc:c1=0;rotate_left
 .simp only[Z3,seval,-ae,hc,decide_false];exact hk _
 subst hc;obtain⟨⟨hl,sp⟩,⟨yr,cI⟩,hm⟩:=cE.zero rfl;obtain⟨cc,lz⟩:=Lz.of hl yr;have o9:CodeL p W B [] 0:=.inr (.inr ⟨⟨hl,λy hy=>by cases hy⟩,yr,rfl⟩);obtain⟨m1,m2,m3,m4⟩:=zPQ lz sp.2 cI hm;have gW:=zN2 lz sp.2.base m1 m2;have o:=hl.1.w;have dA:=hl.1.1.bd;have aN:=o.le;have hg:=lg_LG lz;obtain⟨q,hq⟩:=Int.eq_ofNat_of_zero_le (show 0<=p by omega);have hO:rO p W.length=rO (q:Int) W.length:=by rw[hq]
 have EL:2<=q/\q<=7:=by omega
 have sK:q ^ W.length<=729:=by
  have h:=hl.1.2.2.2.1;rw[hq,ipowN]at h;omega
 have A1:LGR p W B (rO p W.length) (lgPs p W.length W B W.length) (lgCs p W.length W B W.length) 0:=.inr ⟨o9,rfl,rfl,rfl,rfl⟩;have sr:=lg_bd A1;simp only[Z3,seval,-ae,mi];refine zHJ hR sz λvO vQ vD O P C c3 t3 Bj bw yp mw=>?_;obtain⟨⟨rfl,rfl,rfl⟩,rfl⟩:=Bj.unique A1;have k0:=bw.O.one;have k1:=bw.P.one;have k2:=bw.C.one;have ne1:¬σ.next=G0.next:=by omega
 simp only[Z3,seval,-ae,mi,k0,k1,k2,ne1];refine zDz hR sz λfq ef sj O' P' C' c4 Bi iG=>?_;obtain⟨⟨rfl,rfl,rfl⟩,rfl⟩:=Bi.unique A1;have l0:=iG.O.one;have l1:=iG.P.one;have l2:=iG.C.one;have ne2:¬σ.next=G0.next+1:=by omega
 simp only[Z3,seval,-ae,mi,l0,l1,l2,ne1,ne2];have Kj:(((G0.new [vO,vQ,vD]).new [fq,ef,sj]).up t3).obj σ.next=some [.int .i64 p,vP,vB]:=by simp only[Z3,seval,-ae,ne1,ne2];exact Fi
 have Ki:(((G0.new [vO,vQ,vD]).new [fq,ef,sj]).up t3).obj G0.next=some [vO,vQ,vD]:=by simp only[Z3,seval,-ae]
 have Kh:(((G0.new [vO,vQ,vD]).new [fq,ef,sj]).up t3).obj (G0.next+1)=some [fq,ef,sj]:=by simp only[Z3,seval,-ae]
 generalize ((G0.new [vO,vQ,vD]).new [fq,ef,sj]).up t3=G1 at *
 have mh:G1.rd σ.next 0 3=some [.int .i64 p,vP,vB]:=by rw[ze Kj];rfl
 have rdB:G1.rd G0.next 0 3=some [vO,vQ,vD]:=by rw[ze Ki];rfl
 have mg:G1.rd (G0.next+1) 0 3=some [fq,ef,sj]:=by rw[ze Kh];rfl
 simp only[Z3,seval,-ae,mh,rdB,mg];refine zPF hR sz bW DS λv5 z5 c5 Bh ye=>?_;have wE:SgR p W B z1 u 0:=.inr (.inr ⟨o9,m1,m3,rfl⟩);obtain⟨rfl,rfl⟩:=Bh.unique wE;simp only[Z3,seval,-ae,mh,rdB,mg,decide_true];refine zGI bw iG sr λt ht=>?_;obtain rfl:t=true:=ht.2 ⟨rfl,rfl,rfl⟩;clear ht;simp only[Z3,seval,-ae,mh,rdB,mg,decide_true];refine Zg ye hU hJ λt ht=>?_;obtain rfl:t=true:=ht.2 rfl;clear ht;obtain⟨wu,au,ru,rfl,dt⟩:=id hU;obtain⟨w2,a2,r2,rfl,my⟩:=id bW;have vh:(z1.length:Int)=(z5.length:Int):=by omega
 simp only[Z3,seval,-ae,vh,decide_true,mh,rdB,mg];refine zNt hR sz hU hl sp λt ht=>?_;simp only[Z3,seval,-ae,mh,rdB,mg];refine zDd hg iG sr bW m1 λt' db=>?_;obtain rfl:t=t':=by rw[Bool.eq_iff_iff];exact ht.trans (gW.trans db.symm)
 have wD:(!(t == t))=false:=by cases t<;>rfl
 simp only[Z3,seval,-ae,decide_true,wD,mh,rdB,mg];refine zKC hR sz hl λv6 ce rK pK=>?_;simp only[Z3,seval,-ae,mh,rdB,mg];refine zKB hR sz hl λv7 M4 CQ ED=>?_;obtain rfl:=rK.unique o CQ;obtain⟨q1,q2,_⟩:=zGZ (r:=[]) (d:=[]) lz rK;have GQ:Zy p W ce:=⟨q1.base.els,q1⟩;have DW:SzL ce:=zKH o q1.base.els (by have:=q1.len;omega);simp only[Z3,seval,-ae,mh,rdB,mg];refine zIx hR sz ED DW λv8 z8 c8 Ey uy=>?_;obtain⟨cd,rfl⟩:CanG (rO p W.length) (rG p W.length W B (ce.map λe=>vcG p W.length W B e)) z8/\c8=0:=by
  rcases Ey with ⟨h1,h2,h3⟩|⟨h1,h2,h3,h4⟩|⟨h1,h2,h3,h4⟩
  .exact absurd ⟨hl,GQ⟩ h1
  .exact absurd ⟨yr,q2⟩ h2
  .exact⟨h3,h4⟩
 have oK:(rO p W.length).length<=6:=by simp;omega
 simp only[Z3,seval,-ae,mh,rdB,mg];refine zPJ hg iG sr hO (by omega) EL sK λv9 z9 jA E3=>?_;simp only[Z3,seval,-ae,mh,rdB,mg];refine zPI hg iG sr hO (by omega) EL sK λv10 Lx uz CH=>?_;obtain rfl:=E3.unique hg CH;obtain rfl:=(zGZ (r:=z9) (d:=z8) lz rK).2.2 cd E3;have DU:=zO7 cd oK;simp only[Z3,seval,-ae,decide_true];refine Zg pK ED DW λt2 gQ=>?_;obtain rfl:t2=true:=gQ.2 rfl;simp only[Z3,seval,-ae,decide_true];refine Zg jA uz DU λt3 mw=>?_;obtain rfl:t3=true:=mw.2 rfl;simp only[Z3,seval,-ae,decide_true];refine Zg uy uz DU λt4 Ij=>?_;obtain rfl:t4=true:=Ij.2 rfl;simp only[Z3,seval,-ae,decide_true];exact hk _
end Go.Proofs
namespace Go.Proofs.YtgkbfiilhocioaaGreat
open Go.ChangeShapes Go.WideShapes Go.ChangeAt Go.RowKit Go.Ab Go.Joins Go.Lie Go.Proofs
set_option maxRecDepth 100000 in
theorem zB5{H:Type}{enc:TypeId×Value->H}(W:World)(base:Nat)(args:Array Value)(ds gs:List (DataW H))(before:List MemPlace)
  (gr:∀(j:Nat) t v,Tryz.f7.params[j]? = some t->args[j]? = some v->Value.okWide Tryz.prog W .any base t v)
  (hW:DataW.Whole enc Tryz.prog Tryz.f7.params.toList Rows.fnSubringGroupsSpec.vars false W args.toList ds gs before):
  Calls Tryz.prog 7 args W λe W'=>∃v,e=.returned v/\Rows.fnSubringGroupsSpec.post enc Tryz.prog Tryz.f7 false true false false W args v W':=by
 have CY:=hW;obtain⟨p,q,Kt,hV,rfl,MC,jU⟩:=hW;have hA:DataW.TrodAll enc Tryz.prog W 0 (λ_=>true) true Tryz.f7.params.toList args.toList ds p:=Kt;rw[Tryz.params7]at hA gr;obtain⟨v0,DP,d0,MZ,p0,q0,aS,rfl,rfl,t0,r0⟩:=trodAll_cons hA;obtain⟨rfl,rfl,rfl⟩:=trodAll_nil r0;obtain rfl:args = #[v0]:=by cases args;simp_all
 obtain⟨n0,t0⟩:=t0;obtain⟨s0,LR,GX,mr⟩:=okWide_slice Tryz.underlying37 (gr 0 37 v0 rfl rfl);have cD:v0.cells.toList=[v0]:=by rw[mr];rfl
 rw[cD]at t0;obtain⟨j0,h0,GD,X0,m0,l0,e0,i0,o0,_,R0,y0⟩:=layB _ _ _ true n0 _ _ (MR.empty W) t0;have pc:zA Tryz.prog 7 [GD] (PHeap.start h0) (λv _=>v=.bool true):=zDf R0 y0 (λ_=>rfl);have ac:=pc.law m0.wf ⟨o0,trivial⟩;refine(ac.calls m0 (cargs:=#[v0]) ⟨_,_,rfl,i0,rfl⟩).mono λe W' ⟨he,hb⟩=>?_;exact⟨_,he,zG5 rfl laidOut (by rw[Tryz.params7];intro t ht;simp only[List.mem_cons,List.not_mem_nil,or_false]at ht;rcases ht with rfl<;>exact⟨by kernel_rfl,of_decide_eq_true (by kernel_rfl)⟩) (by kernel_rfl) Tryz.underlying4 rfl CY hb⟩
set_option maxRecDepth 100000 in
theorem zCz(os:Os)(started:os.Started)(H:Type)(enc:TypeId×Value->H):
  ReturnsInHanded {} Tryz.checked os 7 .any (Rows.fnSubringGroupsSpec.pre6 enc Tryz.prog Tryz.f7 Rows.fnSubringGroupsRow.domain false) (Rows.fnSubringGroupsSpec.post enc Tryz.prog Tryz.f7 false true false false):=by
 refine returnsInHanded_of_change (C:=Tryz.checked) own started (by kernel_rfl) Tryz.func7
  (ChangeSpec.witness6 (enc:=enc) (C:=Tryz.checked) false ⟨#[],#[.slice none 0 0],[]⟩ 8 (by kernel_rfl) (by kernel_rfl) (by kernel_rfl) (by kernel_rfl)) ?_
 intro W base args ds gs before gr hW _ _;exact zB5 W base args ds gs before gr hW
set_option maxRecDepth 100000 in
theorem zC4:Tryz.prog.funcNamed Rows.fnSubringGroupsRow.func=some 7:=by kernel_rfl
set_option maxRecDepth 100000 in
set_option maxHeartbeats 1600000 in
set_option maxRecDepth 100000 in
theorem zC0:joinedFacts Tryz.prog 7 Tryz.f7 Rows.fnSubringGroupsSpec Rows.fnSubringGroupsRow=true:=by
 unfold joinedFacts;simp only[Bool.and_eq_true]
 repeat' apply And.intro
 all_goals (as_aux_lemma=>kernel_rfl)
theorem subringGroupsProved:Rows.FnSubringGroupsSaid:=
 OpenClaim.holds_of_wide 7 Tryz.f7 rfl rfl rfl rfl rfl rfl rfl ⟨rfl,rfl,rfl,rfl,rfl⟩ rfl rfl rfl rfl rfl zC4 Tryz.func7 zC0
  (of_decide_eq_true (by kernel_rfl)) (by unfold Func.isWrapper;first|(rw[if_pos (by decide +kernel)];kernel_rfl)|(rw[if_neg (by decide +kernel)];exact⟨rfl,rfl⟩))
  (λos started H enc _=>zCz os started H enc)
end Go.Proofs.YtgkbfiilhocioaaGreat
