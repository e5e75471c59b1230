/- The law of reading certificates: the tied card that is given. -/
import Derived.Test.YtjlpbpfaihhamaaGreatDoorBP19
import Derived.Test.YtjlpbpfaihhamaaGreatDoorBP30
import Derived.Test.YtjlpbpfaihhamaaGreatDoorBP33
import Derived.Test.YtjlpbpfaihhamaaGreatDoorBP36
import Derived.Test.YtjlpbpfaihhamaaGreatDoorBP39
import Derived.Test.YtjlpbpfaihhamaaGreatDoorBP40
import Derived.Test.YtjlpbpfaihhamaaGreatDoorBP41
import Derived.Test.YtjlpbpfaihhamaaGreatDoorTie
import Derived.Test.YtjlpbpfaihhamaaGreatDoorCards
import Derived.ProofKit
import Derived.LaidMore
import Derived.Lay
import Derived.Lib.LaidTab
import Derived.Stop.LaidErr
import Derived.SevenTiedAt
import Derived.Stop.Joined
import Derived.Shelf.Vars
import Derived.HandedShaped
open Int renaming reduceNatCast'→iQ0
namespace Go.Grp
end Go.Grp
set_option linter.unusedSimpArgs false
set_option linter.unusedVariables false
namespace Go.Proofs
open Go.Ab Go.Lie Go.Grp Go.Mx
set_option maxHeartbeats 1600000 in
theorem Q7 {h:AHeap} {s:List UInt8}:
  vm Tryz.prog if4.body (retP if4.res zCa) (PEnv.mk if4.params [.str s]) (PHeap.start h):=by
 dsimp only [if4,qI,eI,mI0,kI0,tI0,LI0,bI0,cI0,nI0,eI0,C1,C2,G0,gm0,oI0,vI0,R0,S0]
 by_cases hs:s.length≤1048576
 rotate_left
 ·have hs':(1048576:Int)<(s.length:Int):=by omega
  simp only [pm0,pwA,seval,-iQ0,hs']
  rfl
 have hs':¬(1048576:Int)<(s.length:Int):=by omega
 simp only [pm0,pwA,seval,-iQ0,hs'];refine CallM.pure ?_;simp only [pm0,pwA,seval,-iQ0];refine zCP hs fun k0 G0 L0 w1 w2 c hz hG0 hL0=>?_
 obtain⟨szG,szL,htt⟩:=hz.bd;simp only [pm0,pwA,seval,-iQ0,hG0.one,hL0.one,hL0.cells];refine CallM.topH fun t0 ht0 hb0 hbh=>?_
 have bw':=hbh (PHeap.start h).next [.int .i64 k0,w1,w2] (by simp only [pm0,pwA,seval,-iQ0])
 have bw1:∀o∈ead w1,o<t0:=fun o ho=>bw' o (by simp [eads,ead,ho])
 have bw2:∀o∈ead w2,o<t0:=fun o ho=>bw' o (by simp [eads,ead,ho])
 simp only [zFk,zIP]at ht0
 refine CallM.pure ?_;simp only [pm0,pwA,seval,-iQ0];refine Q3 hs fun k1 G1 L1 g1 g2 c' t3 hz' hG1 hL1 og hh3=>?_
 simp only [zHn]at og hh3
 obtain⟨⟨rfl,rfl,rfl⟩,rfl⟩:=hz'.unique hz;have oC:Own t0 t3 (.agg [.int .i64 k1,g1,g2]):=⟨⟨trivial,og.wh⟩,og.nd,og.lt⟩;simp only [pm0,pwA,seval,-iQ0,hG1.one,hL1.one,hL1.cells];refine CallM.pure ?_;simp only [pm0,pwA,seval,-iQ0];refine zAf hG1 hL1 hG0 hL0 szG szL fun t ht=>?_
 obtain rfl:=ht.2 ⟨rfl,rfl,rfl⟩;simp only [pm0,pwA,seval,-iQ0];obtain⟨wg,ag,rows,eg,hrows⟩:=id hG1;refine CallM.mark' (by simp only [pm0,pwA,seval,-iQ0]) (zB4 (k:=1) eg hrows hL1 oC szG szL (by omega) (by omega)) ?_
 have kg:=zOt (k:=1) eg hrows hL1 oC;obtain⟨hgm1,hgm2⟩:=rmCs (k:=1) eg hrows hL1 oC;generalize mkCs 1 rows g2 G1 L1=Lg at *
 have mg_w1:Go.Ab.rm Lg w1=w1:=zJh kg fun o ho=>.inl (by have:=bw1 o ho;omega)
 have mg_w2:Go.Ab.rm Lg w2=w2:=zJh kg fun o ho=>.inl (by have:=bw2 o ho;omega)
 obtain⟨q1,mg_g1⟩:∃q1,Go.Ab.rm Lg g1=q1:=⟨_,rfl⟩
 obtain⟨q2,mg_g2⟩:∃q2,Go.Ab.rm Lg g2=q2:=⟨_,rfl⟩
 rw [mg_g1]at hgm1
 rw [mg_g2]at hgm2
 simp only [pm0,pwA,seval,-iQ0,mg_w1,mg_w2,mg_g1,mg_g2];refine CallM.pure ?_;simp only [pm0,pwA,seval,-iQ0];refine Q8 hgm1 hgm2 szG szL (by omega) (by omega) ?_
 have hn1:¬(1+(totCs G1 L1:Int)<0):=by omega
 simp only [pm0,pwA,seval,-iQ0,hn1];refine CallM.pure ?_;simp only [pm0,pwA,seval,-iQ0];refine Q3 hs fun k2 G2 L2 f1 f2 c2 tz hz2 hG2 hL2 og2 hhz=>?_
 obtain⟨⟨rfl,rfl,rfl⟩,rfl⟩:=hz2.unique hz;simp only [pm0,pwA,seval,-iQ0,hG2.one,hL2.one,hL2.cells];refine CallM.pure ?_;simp only [pm0,pwA,seval,-iQ0];refine zAf hG2 hL2 hG0 hL0 szG szL fun t ht=>?_
 obtain rfl:=ht.2 ⟨rfl,rfl,rfl⟩;simp only [pm0,pwA,seval,-iQ0];refine CallM.pure ?_;simp only [pm0,pwA,seval,-iQ0];refine Q8 hgm1 hgm2 szG szL (by omega) (by omega) ?_
 simp only [pm0,pwA,seval,-iQ0,hn1]
 rfl
end Go.Proofs
namespace Go.Proofs.YtjlpbpfaihhamaaGreatDoor
open Go.ChangeShapes Go.WideShapes Go.ChangeAt Go.RowKit Go.Ab Go.Joins Go.Lie Go.Proofs
theorem gdT : Tryz.prog.globalNamed "internal/strconv.uint64pow10" = some gdB := by kernel_rfl
theorem zOu:∃t e,(Tryz.prog.globals[gdB]?).map (·.type)=some t∧Tryz.prog.underlying t=some (.array 20 e)∧Tryz.prog.underlying e=some (.int .u64)∧Tryz.prog.cellsOf e=1∧Tryz.prog.cellsOf t=20:=by
 refine⟨193,148,by kernel_rfl,by kernel_rfl,by kernel_rfl,by kernel_rfl,by kernel_rfl⟩
theorem star : "*" ++ "errors.errorString" = "*errors.errorString" := by decide
theorem rowE (u : TypeId) (h : Tryz.prog.typeName? 3 u = some "*errors.errorString") : u = 189 :=
 typeName_ptr_named (nm := "errors.errorString") (by rw [star]; kernel_rfl) (by kernel_rfl) (by decide) u (by rw [star]; exact h)
theorem gR : Tryz.prog.globalNamed "strconv.ErrRange" = some gdR := by kernel_rfl
theorem gS : Tryz.prog.globalNamed "strconv.ErrSyntax" = some gdS := by kernel_rfl
theorem gRT:(Tryz.prog.globals[gdR]?).map (·.type)=some 88:=by kernel_rfl
theorem gST:(Tryz.prog.globals[gdS]?).map (·.type)=some 88:=by kernel_rfl
theorem cE:Tryz.prog.cellsOf 191=1:=by kernel_rfl
theorem cS:Tryz.prog.cellsOf 9=1:=by kernel_rfl
theorem zI2 {W:World} (h:laidMetH Tryz.prog Rows.fnExactParseCertificateRow.laid W) (hsh:W.ShapedOpen Tryz.prog):Gd W.heap.size W:=by
 rw [MakeChecks.laidMetH_plain _ _ _ (by kernel_rfl)]at h
 have h2 : laidMet Tryz.prog (("internal/strconv.uint64pow10", Lib.tabData .u64 gdL) :: ("unicode/utf8.acceptRanges", Rows.laid_unicode_utf8_acceptRanges) :: ("strconv.ErrRange", Rows.laid_strconv_ErrRange) :: ("strconv.ErrSyntax", Rows.laid_strconv_ErrSyntax) :: [("unicode/utf8.first", Rows.laid_unicode_utf8_first)]) W := laidMet.tail (laidMet.tail h);have h4:=laidMet.tail (laidMet.tail h2);have h5:=laidMet.tail h4;obtain⟨t,e,h1,h2',h3,h4',h5'⟩:=zOu;have hT:=Lib.tabIs_of_head gdT h1 h2' h3 h4' h5' h2;obtain⟨a0,s0,hv0,hc0,-,-⟩:=laid_sentinel h4 gR gRT Tryz.underlying88 rowE Tryz.underlying189 Tryz.underlying191 rfl rfl Tryz.underlying9 cE cS;obtain⟨a1,s1,hv1,hc1,-,-⟩:=laid_sentinel h5 gS gST Tryz.underlying88 rowE Tryz.underlying189 Tryz.underlying191 rfl rfl Tryz.underlying9 cE cS;have hg0:W.cell? ⟨gdR,0,none⟩=some (.iface 189 (.pointer (some a0))):=by simpa using World.var?_cell gR hv0 0
 have hg1:W.cell? ⟨gdS,0,none⟩=some (.iface 189 (.pointer (some a1))):=by simpa using World.var?_cell gS hv1 0
 have hM:∃m,W.cell? ⟨gdM,0,none⟩=some (.int .i64 m):=cell_of_shapedOpen_int (P:=Tryz.prog) (g:=gdM) (t:=3) (zero:=#[.int .i64 0]) hsh (of_decide_eq_true (by kernel_rfl)) (by kernel_rfl) rfl (by kernel_rfl) (by kernel_rfl) Tryz.underlying3
 unfold Lib.TabIs World.var? at hT
 rw [gdT]at hT
 simp only [Option.bind_some]at hT
 split at hT
 ·rename_i cs ty fz hg
  cases hT;exact⟨(Array.getElem?_eq_some_iff.1 hg).1,⟨ty,fz,hg⟩,hM,⟨_,_,hg1⟩,⟨_,_,hg0⟩⟩
 ·cases hT
section
variable {H:Type} {enc:TypeId×Value→H}
theorem Q4 {a:Assume} {C:Checked} {os:Os} {f:FuncId} {fn:Func} {s:ChangeSpec} {conds:List PathCond} {apart fresh handsOn again:Bool} {X:World→Array Value→Prop}
  (hX:∀(w w':World) (args:Array Value),w.heap=w'.heap→X w args→X w' args)
  (own:ownKnob C.prog.godebug=none) (started:os.Started) (noInit:C.prog.inits.idxOf? f=none) (hfn:C.prog.funcs[f]? = some fn)
  (witness:∃(w:World) (tape:Tape) (i:Input),w.os=os∧(w.forCall tape i).Shaped C.prog∧i.vars=[]∧Input.okWide C.prog (w.forCall tape i) .any w.heap.size f i∧
   ((s.pre enc C.prog fn conds apart (w.forCall tape i).memory i.args∧X (w.forCall tape i).memory i.args)∧sizedMet enc C.prog fn (OpenSpec.ofChange s) apart (w.forCall tape i).memory i.args)∧a.holds C.prog (lone (Frame.enter C.prog f i.args .normal) [] (w.forCall tape i)))
  (contract:∀(W:World) (base:Nat) (args:Array Value) (ds gs:List (DataW H)) (before:List MemPlace),
   (∀(j:Nat) t v,fn.params[j]? = some t→args[j]? = some v→Value.okWide C.prog W .any base t v)→
   DataW.Whole enc C.prog fn.params.toList s.vars apart W args.toList ds gs before→X W args→W.ShapedOpen C.prog→
   Calls C.prog f args W fun e W'=>∃v,e=.returned v∧s.post enc C.prog fn apart fresh handsOn again W args v W'):
  ReturnsInHanded a C os f .any (fun w args=>(s.pre enc C.prog fn conds apart w args∧X w args)∧sizedMet enc C.prog fn (OpenSpec.ofChange s) apart w args) (s.post enc C.prog fn apart fresh handsOn again):=by
 refine returnsInHanded_of_calls own started noInit witness ?_;intro w tape i _ hsh _ hok hpre hholds;obtain⟨_,_,_,fn',hfn',_,_,_,_,hval⟩:=hok;have e:fn'=fn:=Option.some.inj (hfn'.symm.trans hfn);subst e;obtain⟨⟨⟨ds,gs,before,hw,hc⟩,hx⟩,hz⟩:=hpre;have hw':=DataW.Whole.of_heap (w':=w.forCall tape i) (by rfl) hw
 refine(contract (w.forCall tape i) w.heap.size i.args ds gs before hval hw' (hX _ _ _ (by rfl) hx) hsh).mono fun e W' ⟨v,he,hp⟩=>?_
 subst he;exact ChangeSpec.post_blind hp
end
set_option maxRecDepth 100000 in
theorem zAb {H:Type} {enc:TypeId×Value→H} (W:World) (base:Nat) (args:Array Value) (ds gs:List (DataW H)) (before:List MemPlace)
  (hval:∀(j:Nat) t v,Tryz.f4.params[j]? = some t→args[j]? = some v→Value.okWide Tryz.prog W .any base t v)
  (hW:DataW.Whole enc Tryz.prog Tryz.f4.params.toList Rows.fnExactParseCertificateSpec.vars false W args.toList ds gs before) (hL:laidMetH Tryz.prog Rows.fnExactParseCertificateRow.laid W) (hsh:W.ShapedOpen Tryz.prog):
  Calls Tryz.prog 4 args W fun e W'=>∃v,e=.returned v∧Rows.fnExactParseCertificateSpec.post enc Tryz.prog Tryz.f4 false true false false W args v W':=by
 have hW':=hW;obtain⟨p,q,hA0,hV,rfl,hfz,hnd⟩:=hW;have hA:DataW.TrodAll enc Tryz.prog W 0 (fun _=>true) true Tryz.f4.params.toList args.toList ds p:=hA0
 rw [Tryz.params4]at hA hval
 obtain⟨v0,vs0,d0,ds0,p0,q0,hargs,rfl,rfl,t0,r0⟩:=trodAll_cons hA;obtain⟨rfl,rfl,rfl⟩:=trodAll_nil r0;obtain rfl:args = #[v0]:=by cases args;simp_all
 obtain⟨s0,rfl⟩:=okWide_string Tryz.underlying9 (hval 0 9 v0 rfl rfl);have m0:=MR.empty W (zI2 hL hsh);have ac:=zKZ mix Tryz.func4 cf4 (args:=[.str s0.data.toList]) rfl m0.wf ⟨trivial,trivial⟩ fun ha=>Q7
 refine(ac.calls m0 (cargs:=#[.string s0]) ⟨_,_,rfl,rfl,rfl⟩).mono fun e W' ⟨he,hb⟩=>?_
 exact⟨_,he,zE5 rfl laidOut (by rw [Tryz.params4];intro t ht;simp only [List.mem_cons,List.not_mem_nil,or_false]at ht;rcases ht with rfl;exact⟨by kernel_rfl,of_decide_eq_true (by kernel_rfl)⟩) (by kernel_rfl) Tryz.underlying4 rfl hW' hb⟩
set_option maxRecDepth 100000 in
theorem zA2 (os:Os) (started:os.Started) (H:Type) (enc:TypeId×Value→H):
  ReturnsInHanded {} Tryz.checked os 4 .any (fun w args=>(Rows.fnExactParseCertificateSpec.pre enc Tryz.prog Tryz.f4 Rows.fnExactParseCertificateRow.domain false w args∧laidMetH Tryz.prog Rows.fnExactParseCertificateRow.laid w)∧sizedMet enc Tryz.prog Tryz.f4 (OpenSpec.ofChange Rows.fnExactParseCertificateSpec) false w args)
   (Rows.fnExactParseCertificateSpec.post enc Tryz.prog Tryz.f4 false true false false):=by
 refine Q4 (C:=Tryz.checked) (X:=fun w _=>laidMetH Tryz.prog Rows.fnExactParseCertificateRow.laid w) (fun _ _ _ hh h=>h.of_heap hh) own started (by kernel_rfl) Tryz.func4
  (ChangeSpec.witness_shaped (enc:=enc) (C:=Tryz.checked) (os:=os) (X:=fun w _=>laidMetH Tryz.prog Rows.fnExactParseCertificateRow.laid w) false (World.laidAll Tryz.prog os Rows.fnExactParseCertificateRow.laid) #[.string ByteArray.empty] 8 (World.laidAll_os _ _ _)
   (World.shaped_of_ZipB (by kernel_rfl) (by kernel_rfl)) (by kernel_rfl) (by kernel_rfl) (by kernel_rfl)
   (by rw [MakeChecks.laidMetH_plain _ _ _ (by kernel_rfl)];exact laidMet_laidAll _ (by kernel_rfl) (by kernel_rfl))) ?_
 intro W base args ds gs before hval hW hL hsh;exact zAb W base args ds gs before hval hW hL hsh
set_option maxRecDepth 100000 in
theorem QH:Tryz.prog.funcNamed Rows.fnExactParseCertificateRow.func=some 4:=by kernel_rfl
set_option maxRecDepth 100000 in
set_option maxHeartbeats 1600000 in
theorem zA3:joinedFacts Tryz.prog 4 Tryz.f4 Rows.fnExactParseCertificateSpec Rows.fnExactParseCertificateRow=true:=by
 unfold joinedFacts;simp only [Bool.and_eq_true]
 repeat' apply And.intro
 all_goals (as_aux_lemma=>kernel_rfl)
theorem zBH:Rows.FnExactParseCertificateSaid:=
 OpenClaim.holds_of_wide 4 Tryz.f4 rfl rfl rfl rfl rfl rfl rfl ⟨rfl,rfl,rfl,rfl,rfl⟩ rfl rfl rfl rfl rfl QH Tryz.func4 zA3
  (of_decide_eq_true (by kernel_rfl)) (by unfold Func.isWrapper;first | (rw [if_pos (by decide +kernel)];kernel_rfl) | (rw [if_neg (by decide +kernel)];exact⟨rfl,rfl⟩))
  (fun os started H enc _=>zA2 os started H enc)
theorem parseCertificateProved:Rows.FnExactParseCertificateCardSaid:=
 Claim7.holds_tied_plain_at .later [] [.data, .data, .data, .data, .sentinel, .sentinel, .pinned] true (true, "0a31a0d7d6fe51271b6f34c8c5ce5ff26e754b6bb8f8bd9af030f01f45312cf8") true zBH (fun _ h => by cases h) (by kernel_rfl) (fun _ h => by cases h) fnExactParseCertificate_row_tie rfl ⟨rfl, rfl⟩ (by kernel_rfl) rfl
  (fun f fn hf hfn=>by
   obtain rfl:f=4:=Option.some.inj (QH.symm.trans hf) |>.symm;obtain rfl:fn=Tryz.f4:=(Option.some.inj (Tryz.func4.symm.trans hfn)).symm;exact⟨by kernel_rfl,fun j t ht=>by
    rw [Tryz.params4]at ht
    have hm:t∈[9]:=by simpa using Array.mem_of_getElem? ht
    have hall:([9].all fun u=>!Tryz.prog.wantsStandIn u)=true:=by kernel_rfl
    exact(show Tryz.prog.wantsStandIn t=false by simpa using List.all_eq_true.1 hall t hm)⟩)
  (by kernel_rfl)
end Go.Proofs.YtjlpbpfaihhamaaGreatDoor
