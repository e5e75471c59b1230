/- . -/
import Derived.Test.YtnfnaniemocleaaGreatEP12
open Int renaming reduceNatCast'->ae
set_option maxRecDepth 100000
set_option linter.unusedSimpArgs false
set_option linter.unusedVariables false
namespace Go.Grp
end Go.Grp
namespace Go.Proofs
open Go.Ab Go.Lie Go.Grp
variable{k p:Int}{σ:PHeap}{vC:PV}{K:PV->PHeap->Prop}{O bs x y:V1}{P W:V2}{B C:V3}
theorem zPV(h:codeG O P C [x,y]=0):codeG O P C []=0:=by
 unfold codeG at h ⊢;split at h
 .rename_i l;rw[if_pos ⟨l.1,λx u=>(by cases u)⟩];exact h
 .exact absurd h (by decide)
theorem zQw{z:V1}{c:Int}(h:ResG (Zb O P C x y) z c)(u:c=0):codeG O P C [x,y]=0/\z=gsum O P C x y:=by
 have e:=h.eq;unfold Zb at e;split at e
 .rename_i l;simp only[Yt]at e;exact⟨l,e.1⟩
 .rename_i l;simp only[Yt]at e;exact absurd (e.2.symm.trans u) l
theorem brG_0{z:V1}{c:Int}(h:ResG (QH O P C x y) z c)(u:c=0):z=gbr O P C x y:=by
 have e:=h.eq;unfold QH at e;split at e
 .simp only[Yt]at e;exact e.1
 .rename_i l;simp only[Yt]at e;exact absurd (e.2.symm.trans u) l
theorem zQv{z u:V1}{c l:Int}(h:ResG (Zb O P C x y) z c)(h':ResG (QH O P C x y) u l):c=l:=by
 have e:=h.eq;have e':=h'.eq;unfold Zb at e;unfold QH at e';split at e<;>split at e'<;>simp only[Yt]at e e'<;>first|contradiction|(rw[e.2,e'.2])
theorem zKx{c:Int}(E:codeG O P C []=0)(h:ResG (lrRes O P C) (p,W,B) c):c=0/\p=qO O/\W=lrPs O P C O.length/\B=lrCs O P C O.length:=by
 have e:=h.eq;unfold lrRes at e;rw[if_pos E]at e;simp only[Yt]at e;obtain⟨⟨l,u,A⟩,D⟩:=e;exact⟨D,l,u,A⟩
theorem zN7{z val:V1}{xs:V2}{c:Int}(D:isLaz p W B)(G:Els p W.length xs)(h:CodR p W B xs [] val z c):c=0/\z=val:=by
 rcases h with ⟨d,l,E,u,A⟩|⟨l,u,A⟩
 .exact absurd (l.unique (.inr (.inr ⟨⟨D.1,G⟩,D.2,rfl⟩))) E
 .exact⟨u,A⟩
theorem zGx(hb:FB vC bs)(Co:∀b∈bs,0<=b/\b<=255)(hk:∀σ',K (.bool true) σ'):zA Tryz.prog 3 [vC] σ K:=by
 refine qG mix Tryz.func3 ?_;simp only[Z3,seval,-ae,hb.one];refine zRZ hb λt l=>?_;cases t with
 |true=>
  simp only[Z3,seval,-ae];exact hk _
 |false=>
 have hlen:bs.length<=4096:=by
  rcases YG 4096 bs.length with e|e
  .have:=l.2 e;cases this
  .exact e
 simp only[Z3,seval,-ae,hb.one];refine zGU hb ⟨by omega,Co⟩ λvO vP vC O P C vx x vy y H sm S bp T eZ=>?_;have N:=H.O.one;have Q:=H.P.one;have R:=H.C.one;have sz:=sm.sz;have E:=S.one;have G:=T.one;simp only[Z3,seval,-ae,N,Q,R,E,G];refine zMV H sz S (by omega) T (by omega) λv3 z3 c3 t3 r3 f3 o3 l3=>?_;simp only[Z3,seval,-ae,N,Q,R,E,G];refine zGl H sz S (by omega) T (by omega) λv4 z4 c4 r4 L=>?_;obtain⟨rfl,rfl⟩:=r3.unique r4;simp only[Z3,seval,-ae,N,Q,R,E,G];refine zGw H sz S (by omega) T (by omega) λv5 z5 c5 t5 r5 f5 o5 l5=>?_;simp only[Z3,seval,-ae,N,Q,R,E,G];refine zDe H sz S (by omega) T (by omega) λv6 z6 c6 r6 M=>?_;obtain⟨rfl,rfl⟩:=r5.unique r6;obtain rfl:=zQv r3 r5;have b3:=zPm r3;have b5:=zRX r5;simp only[Z3,seval,-ae,N,Q,R,E,G];refine ZE f3 L b3 λt l=>?_;obtain rfl:t=true:=l.2 rfl;simp only[Z3,seval,-ae];refine ZE f5 M b5 λt l=>?_;obtain rfl:t=true:=l.2 rfl;by_cases hc:c3=0;rotate_left
 .simp only[Z3,seval,-ae,hc,decide_false];exact hk _
 subst hc;obtain⟨cY,rfl⟩:=zQw r3 rfl;obtain rfl:=brG_0 r5 rfl;obtain⟨g,k,dj⟩:=QO cY;have X:=dj x (by simp);have V:=dj y (by simp);have FY:=zPV cY;obtain⟨c,Z,cE,EB⟩:=zQN g k;obtain⟨hl,fw⟩:=zPC Z;have o:=Z.r.o;have q:=Z.r.q;have fh:SzR (lrPs O P C O.length) (lrCs O P C O.length):=lr_bd (O:=O) (P:=P) (C:=C) (p:=qO O) (c:=0) ⟨by unfold lrRes;rw[if_pos FY];rfl⟩;simp only[Z3,seval,-ae,N,Q,R,E,G];refine zJP H sz λp7 PY P0 W7 B7 c7 t7 r7 R7 o7 l7=>?_;obtain⟨rfl,rfl,rfl,rfl⟩:=zKx FY r7;have I4:=R7.P.one;have I3:=R7.B.one;simp only[Z3,seval,-ae,N,Q,R,I4,I3];refine zFF H sz λp8 Hc Hd W8 B8 c8 r8 J=>?_;obtain⟨rfl,rfl,rfl,rfl⟩:=zKx FY r8;have A:=J.P.one;have u:=J.B.one;simp only[Z3,seval,-ae,I4,I3,A,u];refine zHU R7 J fh λt l=>?_;obtain rfl:t=true:=l rfl rfl rfl;have el:∀{z},gS O z->El (qO O) (lrPs O P C O.length).length z:=λh=>by rw[fw];exact g.el.1 h
 have JH:∀{z},gS O z->El (qO O) O.length (cfG O P C z):=λ{z} h=>by rw[<-cE z h];exact zBZ o q z (na _)
 have H6:=zEM g k X V;have IH:=zDr g k X V;have Hi:∀{z},gS O z->ptG (qO O) (lrPs O P C O.length).length (lrPs O P C O.length) (lrCs O P C O.length) z (lrPs O P C O.length).length=cfG O P C z:=λ{z} h=>by rw[fw];exact cE z h
 have gl:∀{v:PV} {z:V1} {K':PV->PHeap->Prop} {σ'},gS O z->FI v z->(∀I t2,FI I (cfG O P C z)->K' (.tup [I,.int .i64 0]) (σ'.up t2))->zA Tryz.prog 16 [.agg [.int .i64 (qO O),Hc,Hd],v] σ' K':=λ{v z K' σ'} U hv bA=>
  zJS J fh hv (by rw[U.len];have:=g.s.le;omega) λI z2 c2 t2 h2 Y _ _=>by
   obtain⟨rfl,rfl⟩:=zN7 hl (el1 (el U)) h2;rw[Hi U]at Y;exact bA I t2 Y
 have Cy:∀{v:PV} {z:V1} {K':PV->PHeap->Prop} {σ'},gS O z->FI v z->(∀I,FI I (cfG O P C z)->K' (.tup [I,.int .i64 0]) σ')->zA Tryz.prog 17 [.agg [.int .i64 (qO O),Hc,Hd],v] σ' K':=λ{v z K' σ'} U hv bA=>
  zJ6 J fh hv (by rw[U.len];have:=g.s.le;omega) λI z2 c2 h2 Y=>by
   obtain⟨rfl,rfl⟩:=zN7 hl (el1 (el U)) h2;rw[Hi U]at Y;exact bA I Y
 have be:=g.s.le;have D:∀{z},(cfG O P C z).length<=1048576:=λ{z}=>by rw[zDy];omega
 simp only[Z3,seval,-ae,A,u,E,G];refine gl X S λv9 t9 f9=>?_;simp only[Z3,seval,-ae,A,u,E,G];refine gl V T λv10 t10 f10=>?_;simp only[Z3,seval,-ae,A,u,E,G];refine Cy X S λv11 f11=>?_;simp only[Z3,seval,-ae,A,u,E,G];refine Cy V T λRa f12=>?_;simp only[Z3,seval,-ae];refine ZE f9 f11 D λt l=>?_;obtain rfl:t=true:=l.2 rfl;simp only[Z3,seval,-ae];refine ZE f10 f12 D λt l=>?_;obtain rfl:t=true:=l.2 rfl;obtain⟨es,eb⟩:=EB x y X V;have els:Els (qO O) (lrPs O P C O.length).length [cfG O P C x,cfG O P C y]:=by rw[fw];exact el2' (JH X) (JH V)
 simp only[Z3,seval,-ae,A,u,f11.one,f12.one];refine zPg J fh f11 D f12 D λP9 PH SP GA f13=>?_;obtain⟨rfl,rfl⟩:=GA.ok hl.1 els trivial;rw[<-es]at f13;simp only[Z3,seval,-ae,A,u,f11.one,f12.one];refine zOK J fh f11 D f12 D λP8 PG SO OA f14=>?_;obtain⟨rfl,rfl⟩:=OA.ok hl.1 els trivial;rw[fw,<-eb]at f14;simp only[Z3,seval,-ae,A,u,L.one,M.one];refine gl H6 L λP7 t15 f15=>?_;simp only[Z3,seval,-ae,A,u,L.one,M.one];refine gl IH M λP6 t16 f16=>?_;simp only[Z3,seval,-ae,A,u,L.one,M.one];refine Cy H6 L λP4 f17=>?_;simp only[Z3,seval,-ae,A,u,L.one,M.one];refine Cy IH M λP3 f18=>?_;simp only[Z3,seval,-ae];refine ZE f15 f17 D λt l=>?_;obtain rfl:t=true:=l.2 rfl;simp only[Z3,seval,-ae];refine ZE f16 f18 D λt l=>?_;obtain rfl:t=true:=l.2 rfl;simp only[Z3,seval,-ae];refine ZE f13 f17 D λt l=>?_;obtain rfl:t=true:=l.2 rfl;simp only[Z3,seval,-ae];refine ZE f14 f18 D λt l=>?_;obtain rfl:t=true:=l.2 rfl;simp only[Z3,seval,-ae];exact hk _
end Go.Proofs
namespace Go.Proofs.YtnfnaniemocleaaGreat
open Go.ChangeShapes Go.WideShapes Go.ChangeAt Go.RowKit Go.Ab Go.Joins Go.Lie Go.Proofs
set_option maxRecDepth 100000 in
theorem zEY{H:Type}{enc:TypeId×Value->H}(W:World)(base:Nat)(args:Array Value)(A gs:List (DataW H))(before:List MemPlace)
  (I:∀(j:Nat) t v,Tryz.f3.params[j]? = some t->args[j]? = some v->Value.okWide Tryz.prog W .any base t v)
  (E:DataW.Whole enc Tryz.prog Tryz.f3.params.toList Rows.fnGroupSumsSpec.vars false W args.toList A gs before):
  Calls Tryz.prog 3 args W λe u=>∃v,e=.returned v/\Rows.fnGroupSumsSpec.post enc Tryz.prog Tryz.f3 false true false false W args v u:=by
 have L:=E;obtain⟨p,q,N,hV,rfl,R6,nL⟩:=E;have D:DataW.TrodAll enc Tryz.prog W 0 (λ_=>true) true Tryz.f3.params.toList args.toList A p:=N;rw[Tryz.params3]at D I;obtain⟨h,Hb,d0,SF,p0,q0,bg,rfl,rfl,l,r0⟩:=trodAll_cons D;obtain⟨rfl,rfl,rfl⟩:=trodAll_nil r0;obtain rfl:args = #[h]:=by cases args;simp_all
 obtain⟨Y,l⟩:=l;obtain⟨s0,Rk,KB,S⟩:=okWide_slice Tryz.underlying22 (I 0 22 h rfl rfl);have R:h.cells.toList=[h]:=by rw[S];rfl
 rw[R]at l;obtain⟨j0,T,M,X0,J,l0,e0,X,Z,_,R0,y0⟩:=layB _ _ _ true Y _ _ (MR.empty W) l;have pc:zA Tryz.prog 3 [M] (PHeap.start T) (λv _=>v=.bool true):=zGx R0 y0 (λ_=>rfl);have Q:=pc.law J.wf ⟨Z,trivial⟩;refine(Q.calls J (cargs:=#[h]) ⟨_,_,rfl,X,rfl⟩).mono λe u ⟨V,U⟩=>?_;exact⟨_,V,zHQ rfl laidOut (by rw[Tryz.params3];intro t G;simp only[YH,Yp,or_false]at G;rcases G with rfl<;>exact⟨by kernel_rfl,of_decide_eq_true (by kernel_rfl)⟩) (by kernel_rfl) Tryz.underlying4 rfl L U⟩
set_option maxRecDepth 100000 in
theorem zF9(h:Os)(started:h.Started)(H:Type)(enc:TypeId×Value->H):
  ReturnsInHanded {} Tryz.checked h 3 .any (Rows.fnGroupSumsSpec.pre6 enc Tryz.prog Tryz.f3 Rows.fnGroupSumsRow.domain false) (Rows.fnGroupSumsSpec.post enc Tryz.prog Tryz.f3 false true false false):=by
 refine returnsInHanded_of_change (C:=Tryz.checked) own started (by kernel_rfl) Tryz.func3
  (ChangeSpec.witness6 (enc:=enc) (C:=Tryz.checked) false ⟨#[],#[.slice none 0 0],[]⟩ 8 (by kernel_rfl) (by kernel_rfl) (by kernel_rfl) (by kernel_rfl)) ?_
 intro W base args l gs before A u _ _;exact zEY W base args l gs before A u
set_option maxRecDepth 100000 in
theorem zGp:Tryz.prog.funcNamed Rows.fnGroupSumsRow.func=some 3:=by kernel_rfl
set_option maxRecDepth 100000 in
set_option maxHeartbeats 1600000 in
set_option maxRecDepth 100000 in
theorem zGA:joinedFacts Tryz.prog 3 Tryz.f3 Rows.fnGroupSumsSpec Rows.fnGroupSumsRow=true:=by
 unfold joinedFacts;simp only[Y6]
 repeat' apply YX
 all_goals (as_aux_lemma=>kernel_rfl)
theorem groupSumsProved:Rows.FnGroupSumsSaid:=
 OpenClaim.holds_of_wide 3 Tryz.f3 rfl rfl rfl rfl rfl rfl rfl ⟨rfl,rfl,rfl,rfl,rfl⟩ rfl rfl rfl rfl rfl zGp Tryz.func3 zGA
  (of_decide_eq_true (by kernel_rfl)) (by unfold Func.isWrapper;first|(rw[if_pos (by decide +kernel)];kernel_rfl)|(rw[if_neg (by decide +kernel)];exact⟨rfl,rfl⟩))
  (λh started H enc _=>zF9 h started H enc)
end Go.Proofs.YtnfnaniemocleaaGreat
