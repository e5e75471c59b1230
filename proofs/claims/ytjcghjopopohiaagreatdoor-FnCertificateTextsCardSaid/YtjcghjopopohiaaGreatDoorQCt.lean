/- . -/
import Derived.Test.YtjcghjopopohiaaGreatDoorQP12
import Derived.Test.YtjcghjopopohiaaGreatDoorTie
import Derived.Test.YtjcghjopopohiaaGreatDoorCards
import Derived.ProofKit
import Derived.LaidMore
import Derived.Lay
import Derived.Lib.LaidTab
import Derived.Stop.LaidErr
import Derived.SevenTiedAt
import Derived.Stop.Joined
import Derived.Shelf.Vars
import Derived.HandedShaped
set_option linter.all false
set_option linter.defProp false
open Go.IntKind renaming wrap->Tu
open List renaming length->Tw
open Bool renaming true->Im
open List renaming all_eq_true->Mi
open Option renaming some->Ik
open True renaming intro->Is
open Int renaming reduceNatCast'->ae
set_option maxRecDepth 100000
namespace Go.Proofs
open Go.Ab Go.Lie Go.Grp
variable{σ:dj}{vC:PV}{K:PV->dj->Prop}{bs:V1}
section
variable{k:Int}{G:List sg}{L:V2}{vG vL:PV}
theorem zAS(A:FG vG G)(O:SzG G)(B:hK vL L)(N:CV L)
  (J:¬zm k G L->K (.tup [.str [],.int .i64 1]) σ) (I:zm k G L->K (.tup [.str (lV k G L),.int .i64 0]) σ):zA Tryz.prog 6 [.agg [.int .i64 k,vG,vL]] σ K:=by
 have m:=A.one;have u:=B.one;refine zA.gh ?_;have E:=zB σ [.int .i64 k,vG,vL];refine Tn Tryz.func6 ?_;simp only[Z3,seval,-ae,m,u];refine Qa (k:=k) (by simp only[Z3,seval,-ae]) A O B N λt D=>?_;cases t with
 |false=>
  simp only[Z3,seval,-ae,m,u];exact Gh.fin0 E ⟨Is,Is,Is⟩ (J λh=>by cases D.2 h)
 |true=>
  have C:=D.1 rfl;simp only[Z3,seval,-ae,m,u];refine zAO (k:=k) (by simp only[Z3,seval,-ae]) A B C ?_;refine Tq ?_;exact Gh.fin0 E ⟨Is,Is,Is⟩ (I C)
end
set_option maxHeartbeats 1600000 in
theorem zB7(hb:FB vC bs)(CZ:∀b∈bs,0<=b/\b<=255)(hk:∀σ',K (.bool Im) σ'):zA Tryz.prog 3 [vC] σ K:=by
 have mH:=hb.one;refine ZY mix Tryz.func3 ?_;simp only[Z3,seval,-ae,mH];refine zSP hb λt ht=>?_;cases t with
 |true=>
  refine Tq ?_;exact hk _
 |false=>
 have hlen:bs.length<=4096:=by
  rcases YY 4096 bs.length with e|e
  .have:=ht.2 e;cases this
  .exact e
 clear ht;have hB:Byt bs:=⟨aH,CZ⟩
 simp only[Z3,seval,-ae,mH];refine zBg hb hB λk G L vG vL Z E I=>?_;have O:=E.one;have g2:=E.cells;have Q:=I.one;have l2:=I.cells;have Kh:=Z.g;have D7:=Z.l;have P:SzG G:=⟨aH,Z.gs⟩
 have N:CV L:=⟨aH,λx hx=>by have:=Z.r x hx;omega⟩
 have ob:(σ.cb [.int .i64 k,vG,vL]).cd σ.bY=Ik [.int .i64 k,vG,vL]:=by rw[zC,Iu rfl]
 have nx:(σ.cb [.int .i64 k,vG,vL]).bY=σ.bY+1:=rfl;simp only[Z3,seval,-ae,O,g2,Q,l2];generalize σ.cb [.int .i64 k,vG,vL]=H at *
 generalize σ.bY=s3 at *
 have r3:H.rd s3 0 3=Ik [.int .i64 k,vG,vL]:=by rw[zN ob];rfl
 simp only[Z3,seval,-ae,r3,O,Q];by_cases J:zm k G L;rotate_left
 .refine zAS E P I N (λ_=>?_) λh=>absurd h J;simp only[Z3,seval,-ae,r3,O,Q];refine QM E P I N (λ_=>?_) λh=>absurd h J;have IT:(([]:List UInt8) == [])=Im:=rfl;simp only[Z3,seval,-ae,r3,O,Q,IT,Bool.not_true];refine zE0 E P I N λt ht=>?_;cases t
  .refine Tq ?_;exact hk _
  .exact absurd (ht.1 rfl) J
 refine zAS E P I N (λh=>absurd J h) λ_=>?_;simp only[Z3,seval,-ae,r3,O,Q];refine QM E P I N (λh=>absurd J h) λ_=>?_;have IT:(lV k G L == lV k G L)=Im:=beq_self_eq_true _;simp only[Z3,seval,-ae,r3,O,Q,IT,Bool.not_true];refine zDZ (zOS J) λC u L' Bj T c' t3 hz Ag dX _ _=>?_;obtain⟨⟨rfl,rfl,rfl⟩,rfl⟩:(C=k/\u=G/\L'=L)/\c'=0:=by
  rcases hz with ⟨S,h2,rfl⟩|⟨S,_⟩
  .exact⟨zKD S J h2,rfl⟩
  .exact absurd rfl (S _ _ _ J)
 have Pw:=Ag.one;have Pv:=Ag.cells;have xR:=dX.one;have BN:=dX.cells;obtain⟨wG,W,B,rfl,Y⟩:=E;obtain⟨U,R,A,rfl,V⟩:=Ag;have X:(H.up t3).cd s3=Ik [.int .i64 C,.fz wG W u.length (re B),vL]:=ob;have R1:(H.up t3).bY=s3+1:=nx;generalize H.up t3=H1 at *
 have o3:(H1.cb [.int .i64 C,.fz U R u.length (re A),T]).cd s3=Ik [.int .i64 C,.fz wG W u.length (re B),vL]:=by rw[zC,Iv aH];exact X
 have o8:(H1.cb [.int .i64 C,.fz U R u.length (re A),T]).cd H1.bY=Ik [.int .i64 C,.fz U R u.length (re A),T]:=by rw[zC,Iu rfl]
 have ne:¬s3=H1.bY:=aH
 have f0:H1.gv s3 0=Ik (.int .i64 C):=by rw[zH X];rfl
 have f1:H1.gv s3 1=Ik (.fz wG W u.length (re B)):=by rw[zH X];rfl
 have f2:H1.gv s3 2=Ik vL:=by rw[zH X];rfl
 simp only[Z3,seval,-ae,Pw,Pv,xR,BN,ne,f0,f1,f2];generalize H1.cb [.int .i64 C,.fz U R u.length (re A),T]=H2 at *
 have c0:H2.gv s3 0=Ik (.int .i64 C):=by rw[zH o3];rfl
 have c1:H2.gv s3 1=Ik (.fz wG W u.length (re B)):=by rw[zH o3];rfl
 have c2:H2.gv s3 2=Ik vL:=by rw[zH o3];rfl
 have d0:H2.gv H1.bY 0=Ik (.int .i64 C):=by rw[zH o8];rfl
 have d1:H2.gv H1.bY 1=Ik (.fz U R u.length (re A)):=by rw[zH o8];rfl
 have d2:H2.gv H1.bY 2=Ik T:=by rw[zH o8];rfl
 refine zC0 dX I N ?_;refine Tq ?_;refine zF (λm vs h=>∃i:Nat,i<=Tw u/\m=Tw u-i/\vs=[.ptr s3 0,.ptr H1.bY 0,.int .i64 i]/\h=H2) u.length ⟨0,YQ _,rfl,rfl,rfl⟩ ?_
 rintro m vs h ⟨i,hi,rfl,rfl,rfl⟩
 simp only[Z3,seval,-ae,c1];refine Tr (λan=>?_) λD=>?_
 .exact hk _
 have ah:(i:Int)<(Tw u:Int):=aH
 have wi:Tu .i64 ((i:Int)+1)=((i+1:Nat):Int):=WQ
 have S:3<=(re B).length-i*3:=by have:=qV B;have:=Y.1;omega
 have h2:3<=(re A).length-i*3:=by have:=qV A;have:=V.1;omega
 have kG:i<Tw B:=by rw[Y.1];exact D
 have kH:i<Tw A:=by rw[V.1];exact D
 have pG:eQ B[i].1 B[i].2.1 B[i].2.2 u[i].1 u[i].2.1 u[i].2.2:=Y.2 i _ _ (na kG) (na D);have pH:eQ A[i].1 A[i].2.1 A[i].2.2 u[i].1 u[i].2.1 u[i].2.2:=V.2 i _ _ (na kH) (na D);have e1:=zAj (rows:=B) (k:=i) (by rw[Y.1];exact D);have e2:=zAj (rows:=A) (k:=i) (by rw[V.1];exact D);simp only[Z3,seval,-ae,c1,d1,D,ah,e1,e2,S,h2,Ys,pG.O.one,pG.P.one,pG.C.one,pH.O.one,pH.P.one,pH.C.one];refine zNi pH pG (P.r _ (ss D)) ?_;simp only[Z3,seval,-ae,wi];exact⟨_,aH,i+1,aH,rfl,rfl⟩
end Go.Proofs
namespace Go.Proofs.YtjcghjopopohiaaGreatDoor
open Go.ChangeShapes Go.WideShapes Go.ChangeAt Go.RowKit Go.Ab Go.Joins Go.Lie Go.Proofs
theorem gdT : Tryz.prog.globalNamed "internal/strconv.uint64pow10" = Ik gdB := by kernel_rfl
theorem zR8:∃t e,(Tryz.prog.globals[gdB]?).map (·.type)=Ik t/\Tryz.prog.underlying t=Ik (.array 20 e)/\Tryz.prog.underlying e=Ik (.int .u64)/\Tryz.prog.cellsOf e=1/\Tryz.prog.cellsOf t=20:=by
 refine⟨194,164,by kernel_rfl,by kernel_rfl,by kernel_rfl,by kernel_rfl,by kernel_rfl⟩
theorem star : "*" ++ "errors.errorString" = "*errors.errorString" := by decide
theorem rowE (u : TypeId) (h : Tryz.prog.typeName? 3 u = Ik "*errors.errorString") : u = 217 :=
 typeName_ptr_named (nm := "errors.errorString") (by rw [star]; kernel_rfl) (by kernel_rfl) Tx u (by rw [star]; exact h)
theorem gR : Tryz.prog.globalNamed "strconv.ErrRange" = Ik gdR := by kernel_rfl
theorem gS : Tryz.prog.globalNamed "strconv.ErrSyntax" = Ik gdS := by kernel_rfl
theorem gRT:(Tryz.prog.globals[gdR]?).map (·.type)=Ik 74:=by kernel_rfl
theorem gST:(Tryz.prog.globals[gdS]?).map (·.type)=Ik 74:=by kernel_rfl
theorem cE:Tryz.prog.cellsOf 219=1:=by kernel_rfl
theorem cS:Tryz.prog.cellsOf 9=1:=by kernel_rfl
theorem zP6{W:World}{b:Nat}{v:Value}(h:W.cell? ⟨b,0,none⟩=Ik v):b<W.heap.size:=by
 rcases YY b W.heap.size with q|q
 .exact q
 .simp[World.cell?,Array.getElem?_eq_none q]at h
theorem zMM{W:World}(h:laidMetH Tryz.prog Rows.fnCertificateTextsRow.laid W)(mV:W.ShapedOpen Tryz.prog):Gd W.heap.size W:=by
 rw[MakeChecks.laidMetH_plain _ _ _ (by kernel_rfl)]at h
 have h2 : laidMet Tryz.prog (("internal/strconv.uint64pow10", Lib.tabData .u64 gdL) :: ("unicode/utf8.acceptRanges", Rows.laid_unicode_utf8_acceptRanges) :: ("strconv.ErrRange", Rows.laid_strconv_ErrRange) :: ("strconv.ErrSyntax", Rows.laid_strconv_ErrSyntax) :: [("unicode/utf8.first", Rows.laid_unicode_utf8_first)]) W := laidMet.tail (laidMet.tail h);have h4:=laidMet.tail (laidMet.tail h2);have h5:=laidMet.tail h4;obtain⟨t,e,h1,iC,h3,O7,O4⟩:=zR8;have hT:=Lib.tabIs_of_head gdT h1 iC h3 O7 O4 h2;obtain⟨a0,s0,gV,ji,-,-⟩:=laid_sentinel h4 gR gRT Tryz.underlying74 rowE Tryz.underlying217 Tryz.underlying219 rfl rfl Tryz.underlying9 cE cS;obtain⟨a1,s1,gu,iB,-,-⟩:=laid_sentinel h5 gS gST Tryz.underlying74 rowE Tryz.underlying217 Tryz.underlying219 rfl rfl Tryz.underlying9 cE cS;have kD:W.cell? ⟨gdR,0,none⟩=Ik (.iface 217 (.pointer (Ik a0))):=by simpa using World.var?_cell gR gV 0
 have wV:W.cell? ⟨gdS,0,none⟩=Ik (.iface 217 (.pointer (Ik a1))):=by simpa using World.var?_cell gS gu 0
 have hM:∃m,W.cell? ⟨gdM,0,none⟩=Ik (.int .i64 m):=cell_of_shapedOpen_int (P:=Tryz.prog) (g:=gdM) (t:=3) (zero:=#[.int .i64 0]) mV (of_decide_eq_true (by kernel_rfl)) (by kernel_rfl) rfl (by kernel_rfl) (by kernel_rfl) Tryz.underlying3;unfold Lib.TabIs World.var? at hT;rw[gdT]at hT;simp only[YG]at hT;split at hT
 .rename_i cs ty fz hg;cases hT;have h3:gdM<W.heap.size:=by obtain⟨m,hm⟩:=hM;exact zP6 hm
  exact⟨h3,⟨ty,fz,hg⟩,hM,⟨_,_,wV⟩,⟨_,_,kD⟩⟩
 .cases hT
section
variable{H:Type}{enc:TypeId×Value->H}
theorem zAT{a:Assume}{C:Checked}{os:Os}{f:FuncId}{h:Func}{s:ChangeSpec}{conds:List PathCond}{apart fresh handsOn again:Bool}{X:World->Array Value->Prop}
  (E:∀(w w':World) (args:Array Value),w.heap=w'.heap->X w args->X w' args)
  (own:ownKnob C.prog.godebug=none) (started:os.Started) (V:C.prog.inits.idxOf? f=none) (U:C.prog.funcs[f]? = Ik h)
  (witness:∃(w:World) (tape:Tape) (i:Input),w.os=os/\(w.forCall tape i).Shaped C.prog/\i.vars=[]/\Input.okWide C.prog (w.forCall tape i) .any w.heap.size f i/\
   ((s.pre enc C.prog h conds apart (w.forCall tape i).memory i.args/\X (w.forCall tape i).memory i.args)/\sizedMet enc C.prog h (OpenSpec.ofChange s) apart (w.forCall tape i).memory i.args)/\a.holds C.prog (lone (Frame.enter C.prog f i.args .normal) [] (w.forCall tape i)))
  (R:∀(W:World) (base:Nat) (args:Array Value) (m gs:List (DataW H)) (before:List MemPlace),
   (∀(j:Nat) t v,h.params[j]? = Ik t->args[j]? = Ik v->Value.okWide C.prog W .any base t v)->
   DataW.Whole enc C.prog h.params.toList s.vars apart W args.toList m gs before->X W args->W.ShapedOpen C.prog->
   Calls C.prog f args W λe u=>∃v,e=.returned v/\s.post enc C.prog h apart fresh handsOn again W args v u):
  ReturnsInHanded a C os f .any (λw args=>(s.pre enc C.prog h conds apart w args/\X w args)/\sizedMet enc C.prog h (OpenSpec.ofChange s) apart w args) (s.post enc C.prog h apart fresh handsOn again):=by
 refine returnsInHanded_of_calls own started V witness ?_;intro w tape i _ Q _ D T Y;obtain⟨_,_,_,B,A,_,_,_,_,P⟩:=D;have e:B=h:=Option.some.inj (A.symm.trans U);subst e;obtain⟨⟨⟨m,gs,before,N,Z⟩,O⟩,hz⟩:=T;have S:=DataW.Whole.of_heap (w':=w.forCall tape i) (by rfl) N;refine(R (w.forCall tape i) w.heap.size i.args m gs before P S (E _ _ _ (by rfl) O) Q).mono λe u ⟨v,I,J⟩=>?_;subst I;exact ChangeSpec.post_blind J
end
set_option maxRecDepth 100000 in
theorem zA4{H:Type}{enc:TypeId×Value->H}(W:World)(base:Nat)(args:Array Value)(A gs:List (DataW H))(before:List MemPlace)
  (I:∀(j:Nat) t v,Tryz.f3.params[j]? = Ik t->args[j]? = Ik v->Value.okWide Tryz.prog W .any base t v)
  (C:DataW.Whole enc Tryz.prog Tryz.f3.params.toList Rows.fnCertificateTextsSpec.vars false W args.toList A gs before) (S:laidMetH Tryz.prog Rows.fnCertificateTextsRow.laid W) (Y:W.ShapedOpen Tryz.prog):
  Calls Tryz.prog 3 args W λe u=>∃v,e=.returned v/\Rows.fnCertificateTextsSpec.post enc Tryz.prog Tryz.f3 false Im false false W args v u:=by
 have J:=C;obtain⟨p,q,O,hV,rfl,SC,Cu⟩:=C;have B:DataW.TrodAll enc Tryz.prog W 0 (λ_=>Im) Im Tryz.f3.params.toList args.toList A p:=O;rw[Tryz.params3]at B I;obtain⟨h,Jb,d0,Ta,p0,q0,bE,rfl,rfl,m,r0⟩:=trodAll_cons B;obtain⟨rfl,rfl,rfl⟩:=trodAll_nil r0;obtain rfl:args = #[h]:=by cases args;simp_all
 obtain⟨Z,m⟩:=m;obtain⟨s0,RG,Mb,Q⟩:=okWide_slice Tryz.underlying22 (I 0 22 h rfl rfl);have X:h.cells.toList=[h]:=by rw[Q];rfl
 rw[X]at m;obtain⟨j0,R,N,X0,E,l0,e0,V,o0,_,R0,y0⟩:=layB _ _ _ Im Z _ _ (MR.empty W (zMM S Y)) m;have pc:zA Tryz.prog 3 [N] (dj.start R) (λv _=>v=.bool Im):=zB7 R0 y0 (λ_=>rfl);have P:=pc.law E.wf ⟨o0,Is⟩;refine(P.calls E (cargs:=#[h]) ⟨_,_,rfl,V,rfl⟩).mono λe u ⟨U,T⟩=>?_;exact⟨_,U,zG3 rfl laidOut (by rw[Tryz.params3];intro t D;simp only[Yq,Ya,or_false]at D;rcases D with rfl;exact⟨by kernel_rfl,of_decide_eq_true (by kernel_rfl)⟩) (by kernel_rfl) Tryz.underlying4 rfl J T⟩
set_option maxRecDepth 100000 in
theorem zBc(os:Os)(started:os.Started)(H:Type)(enc:TypeId×Value->H):
  ReturnsInHanded {} Tryz.checked os 3 .any (λw args=>(Rows.fnCertificateTextsSpec.pre enc Tryz.prog Tryz.f3 Rows.fnCertificateTextsRow.domain false w args/\laidMetH Tryz.prog Rows.fnCertificateTextsRow.laid w)/\sizedMet enc Tryz.prog Tryz.f3 (OpenSpec.ofChange Rows.fnCertificateTextsSpec) false w args)
   (Rows.fnCertificateTextsSpec.post enc Tryz.prog Tryz.f3 false Im false false):=by
 refine zAT (C:=Tryz.checked) (X:=λw _=>laidMetH Tryz.prog Rows.fnCertificateTextsRow.laid w) (λ_ _ _ B h=>h.of_heap B) own started (by kernel_rfl) Tryz.func3
  (ChangeSpec.witness_shaped (enc:=enc) (C:=Tryz.checked) (os:=os) (X:=λw _=>laidMetH Tryz.prog Rows.fnCertificateTextsRow.laid w) false (World.laidAll Tryz.prog os Rows.fnCertificateTextsRow.laid) #[.slice none 0 0] 8 (World.laidAll_os _ _ _)
   (World.shaped_of_ZipB (by kernel_rfl) (by kernel_rfl)) (by kernel_rfl) (by kernel_rfl) (by kernel_rfl)
   (by rw[MakeChecks.laidMetH_plain _ _ _ (by kernel_rfl)];exact laidMet_laidAll _ (by kernel_rfl) (by kernel_rfl))) ?_
 intro W base args m gs before D A u E;exact zA4 W base args m gs before D A u E
set_option maxRecDepth 100000 in
theorem Qi:Tryz.prog.funcNamed Rows.fnCertificateTextsRow.func=Ik 3:=by kernel_rfl
set_option maxRecDepth 100000 in
set_option maxHeartbeats 1600000 in
theorem zBd:joinedFacts Tryz.prog 3 Tryz.f3 Rows.fnCertificateTextsSpec Rows.fnCertificateTextsRow=Im:=by
 unfold joinedFacts;simp only[Yt]
 repeat' apply se
 all_goals (as_aux_lemma=>kernel_rfl)
theorem zB4:Rows.FnCertificateTextsSaid:=
 OpenClaim.holds_of_wide 3 Tryz.f3 rfl rfl rfl rfl rfl rfl rfl ⟨rfl,rfl,rfl,rfl,rfl⟩ rfl rfl rfl rfl rfl Qi Tryz.func3 zBd
  (of_decide_eq_true (by kernel_rfl)) (by unfold Func.isWrapper;first|(rw[Iu (by decide +kernel)];kernel_rfl)|(rw[Iv (by decide +kernel)];exact⟨rfl,rfl⟩))
  (λos started H enc _=>zBc os started H enc)
theorem certificateTextsProved:Rows.FnCertificateTextsCardSaid:=
 Claim7.holds_tied_plain_at .later [] [.data, .data, .data, .data, .sentinel, .sentinel, .pinned] Im (Im, "90fbf344fdb21547adc914c9bd11db5d068657aa67447572400333ec2e93391a") Im zB4 (fun _ h => by cases h) (by kernel_rfl) (fun _ h => by cases h) fnCertificateTexts_row_tie rfl ⟨rfl, rfl⟩ (by kernel_rfl) rfl
  (λf fn hf uo=>by
   obtain rfl:f=3:=Option.some.inj (Qi.symm.trans hf) |>.symm;obtain rfl:fn=Tryz.f3:=(Option.some.inj (Tryz.func3.symm.trans uo)).symm;exact⟨by kernel_rfl,λj t ht=>by
    rw[Tryz.params3]at ht;have hm:t∈[22]:=by simpa using Array.mem_of_getElem? ht
    have ai:([22].all λu=>!Tryz.prog.wantsStandIn u)=Im:=by kernel_rfl
    exact(show Tryz.prog.wantsStandIn t=false by simpa using Mi.1 ai t hm)⟩)
  (by kernel_rfl)
end Go.Proofs.YtjcghjopopohiaaGreatDoor
