/- The given statement on quotients (FnLieQuotients): its law holds for every input. -/
import Derived.Test.YtpcjbkbcaiphmaaGreatCP27
import Derived.Test.YtpcjbkbcaiphmaaGreatCP28
import Derived.Test.YtpcjbkbcaiphmaaGreatCP29
import Derived.Test.YtpcjbkbcaiphmaaGreatCP31
import Derived.Test.YtpcjbkbcaiphmaaGreatCP33
import Derived.Test.YtpcjbkbcaiphmaaGreatCP36
import Derived.Test.YtpcjbkbcaiphmaaGreatCP41
import Derived.Test.YtpcjbkbcaiphmaaGreatCP42
import Derived.Test.YtpcjbkbcaiphmaaGreatCP43
open Nat renaming reduceLeDiff → nQ7, reduceEqDiff → nQ10, reduceBEq → nQ11, reduceAdd → nQ12, reduceLT → nQ16, reduceSub → nQ17, reduceMul → nQ18
open Int renaming reduceEq → iQ2, reduceLT → iQ3, reduceLE → iQ4, reduceNeg → iQ5, reduceToNat → iQ6, ofNat_le → iQ7
open List renaming reduceReplicate → lQ19, getElem?_drop → lQ20
set_option linter.unusedSimpArgs false
set_option linter.unusedVariables false
namespace Go.Proofs
open Go.Ab Go.Lie
variable {σ : PHeap} {K : PV → PHeap → Prop} {p : Int} {W : List (List Int)} {B : List (List (List Int))} {vC : PV} {bs : List Int}
theorem FnLieQuotients_ok (hb : FB vC bs) (hbd : ∀ b ∈ bs, 0 ≤ b ∧ b ≤ 255) (hk : ∀ σ', K (.bool true) σ') : PCalls Tryz.prog 7 [vC] σ K := by
  have hb1 := hb.one
  have hb2 := hb.cells
  refine pcalls_of_vp mix Tryz.func7 cf7 rfl ?_
  dsimp only [if7, qI, eI, nI, qD, eD]
  simp only [pwA, if_true, if_false, eq_self, nm_eq, reduceCtorEq, ↓reduceIte, nQ10, nQ7, nQ11, nQ12, nQ16, nQ17, nQ18, iQ2, iQ3, iQ4, iQ5, iQ6, lQ19, iQ7, lQ20, hb1]
  refine big_ok hb fun t ht => ?_
  cases t with
  | true =>
    simp only [pwA, if_true, if_false, eq_self, nm_eq, reduceCtorEq, ↓reduceIte, nQ10, nQ7, nQ11, nQ12, nQ16, nQ17, nQ18, iQ2, iQ3, iQ4, iQ5, iQ6, lQ19, iQ7, lQ20]
    exact hk _
  | false =>
  have hlen : bs.length ≤ 4096 := by
    rcases Nat.lt_or_ge 4096 bs.length with e | e
    · have := ht.2 e; cases this
    · exact e
  clear ht
  have hB : Byt bs := ⟨by omega, hbd⟩
  simp only [pwA, if_true, if_false, eq_self, nm_eq, reduceCtorEq, ↓reduceIte, nQ10, nQ7, nQ11, nQ12, nQ16, nQ17, nQ18, iQ2, iQ3, iQ4, iQ5, iQ6, lQ19, iQ7, lQ20, hb1]
  refine DrawIdealOf_ok hb hB fun p vP vB W B vL gens d hR hvL hgl hgx => ?_
  have g1 := hR.P.one
  have g2 := hR.B.one
  have sz := d.sz
  have szg : SzL gens := ⟨by omega, fun x hx => by have := hgx x hx; omega⟩
  simp only [pwA, if_true, if_false, eq_self, nm_eq, reduceCtorEq, ↓reduceIte, nQ10, nQ7, nQ11, nQ12, nQ16, nQ17, nQ18, iQ2, iQ3, iQ4, iQ5, iQ6, lQ19, iQ7, lQ20, g1, g2]
  refine IdealOf_F hR sz hvL szg fun v1 z1 c1 hz1 hv1 => ?_
  simp only [pwA, if_true, if_false, eq_self, nm_eq, reduceCtorEq, ↓reduceIte, nQ10, nQ7, nQ11, nQ12, nQ16, nQ17, nQ18, iQ2, iQ3, iQ4, iQ5, iQ6, lQ19, iQ7, lQ20, g1, g2]
  refine IdealOf_S hR sz hvL szg fun v2 z2 c2 hz2 hv2 => ?_
  by_cases hok : isLie p W B ∧ Els p W.length gens
  rotate_left
  · obtain ⟨rfl, rfl⟩ := hz1.no hok
    obtain ⟨rfl, rfl⟩ := hz2.no hok
    simp only [pwA, if_true, if_false, eq_self, nm_eq, reduceCtorEq, ↓reduceIte, nQ10, nQ7, nQ11, nQ12, nQ16, nQ17, nQ18, iQ2, iQ3, iQ4, iQ5, iQ6, lQ19, iQ7, lQ20]
    refine likeRows5_ok hv1 hv2 ⟨by simp, fun x hx => by cases hx⟩ fun t ht => ?_
    obtain rfl : t = true := ht.2 rfl
    simp only [pwA, if_true, if_false, eq_self, nm_eq, reduceCtorEq, ↓reduceIte, nQ10, nQ7, nQ11, nQ12, nQ16, nQ17, nQ18, iQ2, iQ3, iQ4, iQ5, iQ6, lQ19, iQ7, lQ20, decide_true]
    exact hk _
  obtain ⟨k1, rfl⟩ := hz1.yes hok
  obtain ⟨k2, rfl⟩ := hz2.yes hok
  obtain ⟨hl, he⟩ := hok
  have o := hl.1.w
  have q := hl.1.b
  have hn6 := o.le
  have hpb := hl.1.1.bd
  obtain rfl := k1.unique o k2
  clear hz1 hz2 k2
  have sp1 : isSpan p W z1 := ⟨k1.base.els, k1.canon⟩
  have len1 := sp1.2.len
  have szz : SzL z1 := szl_els o sp1.1 (by omega)
  have dI := Idl.of hl k1
  have hlq := q_isLie hl dI
  have hmn := lft_length dI.c.base
  have hqWl : (qW p W z1 W.length).length = (lft z1 W.length).length := qW_length
  have oq := q_OkW dI
  have szq : SzR (qW p W z1 W.length) (qB p W B z1 W.length) := by
    have sm := (⟨oq, q_OkB dI⟩ : OkF p (lft z1 W.length).length (qW p W z1 W.length) (qB p W B z1 W.length)).sm
    exact ⟨by omega, fun r hr => by have := sm.w r hr; omega, by rw [qB_length]; omega, fun q hq => by have := sm.bl q hq; omega, fun q hq r hr => by have := sm.b q hq r hr; omega⟩
  simp only [pwA, if_true, if_false, eq_self, nm_eq, reduceCtorEq, ↓reduceIte, nQ10, nQ7, nQ11, nQ12, nQ16, nQ17, nQ18, iQ2, iQ3, iQ4, iQ5, iQ6, lQ19, iQ7, lQ20]
  refine likeRows5_ok hv1 hv2 szz fun t ht => ?_
  obtain rfl : t = true := ht.2 rfl
  clear ht
  simp only [pwA, if_true, if_false, eq_self, nm_eq, reduceCtorEq, ↓reduceIte, nQ10, nQ7, nQ11, nQ12, nQ16, nQ17, nQ18, iQ2, iQ3, iQ4, iQ5, iQ6, lQ19, iQ7, lQ20, decide_true, g1, g2]
  refine IsIdeal_F hR sz hv2 hl sp1 fun t ht => ?_
  obtain rfl : t = true := ht.2 dI.isId
  clear ht
  simp only [pwA, if_true, if_false, eq_self, nm_eq, reduceCtorEq, ↓reduceIte, nQ10, nQ7, nQ11, nQ12, nQ16, nQ17, nQ18, iQ2, iQ3, iQ4, iQ5, iQ6, lQ19, iQ7, lQ20, g1, g2]
  refine LieQuotient_F dI hl hR sz hv2 fun vQ vD t1 hQ ho1 ht1 => ?_
  have q1 := hQ.P.one
  have q2 := hQ.B.one
  have hG1 : ((σ.new [.int .i64 p, vP, vB]).up t1).obj σ.next = some [.int .i64 p, vP, vB] := by simp only [pwA, if_true, if_false, eq_self, nm_eq, reduceCtorEq, ↓reduceIte, nQ10, nQ7, nQ11, nQ12, nQ16, nQ17, nQ18, iQ2, iQ3, iQ4, iQ5, iQ6, lQ19, iQ7, lQ20]
  have hG1n : ((σ.new [.int .i64 p, vP, vB]).up t1).next = σ.next + 1 := rfl
  generalize (σ.new [.int .i64 p, vP, vB]).up t1 = G1 at *
  have hG1r : G1.rd σ.next 0 3 = some [.int .i64 p, vP, vB] := by rw [obj_rd hG1]; rfl
  have hne1 : ¬ σ.next = G1.next := by omega
  simp only [pwA, if_true, if_false, eq_self, nm_eq, reduceCtorEq, ↓reduceIte, nQ10, nQ7, nQ11, nQ12, nQ16, nQ17, nQ18, iQ2, iQ3, iQ4, iQ5, iQ6, lQ19, iQ7, lQ20, g1, g2, q1, q2, hG1r, hne1]
  refine LieQuotient_S dI hl hR sz hv2 fun vQ' vD' hQ' => ?_
  have q3 := hQ'.P.one
  have q4 := hQ'.B.one
  have hRR := hR
  have hQQ := hQ'
  obtain ⟨⟨wp, ap, rp, rfl, hrp⟩, hBB⟩ := hR
  obtain ⟨⟨wq, aq, rq, rfl, hrq⟩, hqB⟩ := hQ'
  obtain ⟨w2, a2, r2, rfl, hr2⟩ := hv2
  have hv2 : FII (.fz w2 a2 z1.length r2) z1 := ⟨w2, a2, r2, rfl, hr2⟩
  have wsum : IntKind.i64.wrap (((qW p W z1 W.length).length : Int) + (z1.length : Int)) = (W.length : Int) := by rw [wrap64 (by omega) (by omega)]; omega
  have k12 : Keep G1 ((G1.new [.int .i64 p, vQ, vD]).new [.int .i64 p, .fz wq aq (qW p W z1 W.length).length rq, vD']) := (keep_new G1 _).new _
  have hGq : ((G1.new [.int .i64 p, vQ, vD]).new [.int .i64 p, .fz wq aq (qW p W z1 W.length).length rq, vD']).obj (σ.next + 1) = some [.int .i64 p, vQ, vD] := by rw [pobj_new, if_neg (by show ¬ _ = G1.next + 1; omega), pobj_new, if_pos hG1n.symm]
  have hGd : ((G1.new [.int .i64 p, vQ, vD]).new [.int .i64 p, .fz wq aq (qW p W z1 W.length).length rq, vD']).obj (σ.next + 2) = some [.int .i64 p, .fz wq aq (qW p W z1 W.length).length rq, vD'] := by rw [pobj_new, if_pos (by show _ = G1.next + 1; omega)]
  have hGn : ((G1.new [.int .i64 p, vQ, vD]).new [.int .i64 p, .fz wq aq (qW p W z1 W.length).length rq, vD']).next = σ.next + 3 := by show G1.next + 1 + 1 = _; omega
  have hGr : ((G1.new [.int .i64 p, vQ, vD]).new [.int .i64 p, .fz wq aq (qW p W z1 W.length).length rq, vD']).obj σ.next = some [.int .i64 p, .fz wp ap W.length rp, vB] := by rw [k12.obj _ (by omega)]; exact hG1
  simp only [pwA, if_true, if_false, eq_self, nm_eq, reduceCtorEq, ↓reduceIte, nQ10, nQ7, nQ11, nQ12, nQ16, nQ17, nQ18, iQ2, iQ3, iQ4, iQ5, iQ6, lQ19, iQ7, lQ20, q1, q2, q3, q4, hG1n]
  generalize hGG : (G1.new [.int .i64 p, vQ, vD]).new [.int .i64 p, .fz wq aq (qW p W z1 W.length).length rq, vD'] = G at *
  have rq3 : G.rd (σ.next + 1) 0 3 = some [.int .i64 p, vQ, vD] := by rw [obj_rd hGq]; rfl
  have rd3 : G.rd (σ.next + 2) 0 3 = some [.int .i64 p, .fz wq aq (qW p W z1 W.length).length rq, vD'] := by rw [obj_rd hGd]; rfl
  have rd1 : G.rd1 (σ.next + 2) 1 = some (.fz wq aq (qW p W z1 W.length).length rq) := by rw [obj_rd1 hGd]; rfl
  have rr1 : G.rd1 σ.next 1 = some (.fz wp ap W.length rp) := by rw [obj_rd1 hGr]; rfl
  simp only [pwA, if_true, if_false, eq_self, nm_eq, reduceCtorEq, ↓reduceIte, nQ10, nQ7, nQ11, nQ12, nQ16, nQ17, nQ18, iQ2, iQ3, iQ4, iQ5, iQ6, lQ19, iQ7, lQ20, rq3, rd3, decide_true]
  refine likeRings5_ok hQ hQQ szq fun t ht => ?_
  obtain rfl : t = true := ht rfl rfl rfl
  clear ht
  simp only [pwA, if_true, if_false, eq_self, nm_eq, reduceCtorEq, ↓reduceIte, nQ10, nQ7, nQ11, nQ12, nQ16, nQ17, nQ18, iQ2, iQ3, iQ4, iQ5, iQ6, lQ19, iQ7, lQ20, rq3, rd3, decide_true]
  refine IsLieRing_ok hQQ szq fun t ht => ?_
  obtain rfl : t = true := ht.2 hlq
  clear ht
  simp only [pwA, if_true, if_false, eq_self, nm_eq, reduceCtorEq, ↓reduceIte, nQ10, nQ7, nQ11, nQ12, nQ16, nQ17, nQ18, iQ2, iQ3, iQ4, iQ5, iQ6, lQ19, iQ7, lQ20, rd3, rd1, rr1, wsum, decide_true, hb1]
  refine roll_ok hb hB fun H kG di hHx => ?_
  have hsD : G.next < H.next := by omega
  have hHr : H.obj σ.next = some [.int .i64 p, .fz wp ap W.length rp, vB] := by rw [kG.obj _ (by omega)]; exact hGr
  have hHd : H.obj (σ.next + 2) = some [.int .i64 p, .fz wq aq (qW p W z1 W.length).length rq, vD'] := by rw [kG.obj _ (by omega)]; exact hGd
  have kmH : KM H G.next H := by
    obtain ⟨i, hh, e, _⟩ := di.ex
    exact ⟨H, ⟨_, diC vC i hh, e, ⟨hb.bel 0, trivial, trivial, trivial⟩, (set_same e).symm⟩, Keep.refl _⟩
  have rdR : ∀ {h : PHeap}, KM H G.next h → h.rd σ.next 0 3 = some [.int .i64 p, .fz wp ap W.length rp, vB] ∧ h.rd1 σ.next 0 = some (.int .i64 p) ∧ h.rd1 σ.next 1 = some (.fz wp ap W.length rp) ∧ h.rd (σ.next + 2) 0 3 = some [.int .i64 p, .fz wq aq (qW p W z1 W.length).length rq, vD'] := fun {h} km => by
    have ob : h.obj σ.next = some [.int .i64 p, .fz wp ap W.length rp, vB] := by rw [km.obj (by omega) (by omega)]; exact hHr
    have od : h.obj (σ.next + 2) = some [.int .i64 p, .fz wq aq (qW p W z1 W.length).length rq, vD'] := by rw [km.obj (by omega) (by omega)]; exact hHd
    exact ⟨by rw [obj_rd ob]; rfl, by rw [obj_rd1 ob]; rfl, by rw [obj_rd1 ob]; rfl, by rw [obj_rd od]; rfl⟩
  have belL : ∀ t o cs, sbs t o cs [PV.ptr σ.next 0, PV.fz w2 a2 z1.length r2, PV.ptr (σ.next + 2) 0, PV.ptr G.next 0] = [PV.ptr σ.next 0, PV.fz w2 a2 z1.length r2, PV.ptr (σ.next + 2) 0, PV.ptr G.next 0] := fun t o cs => by simp only [sbs, sb]
  simp only [pwA, if_true, if_false, eq_self, nm_eq, reduceCtorEq, ↓reduceIte, nQ10, nQ7, nQ11, nQ12, nQ16, nQ17, nQ18, iQ2, iQ3, iQ4, iQ5, iQ6, lQ19, iQ7, lQ20]
  refine vp_loopG (fun m us h => ∃ (i : Nat) (v w : PV) (xs ys : List Int), i ≤ W.length ∧ m = W.length - i ∧ us = [.ptr σ.next 0, .fz w2 a2 z1.length r2, .ptr (σ.next + 2) 0, .ptr G.next 0, v, w, .int .i64 i] ∧ RoJ H h G.next vC bs p W.length i v w xs ys) W.length ?_ ?_
  · refine RoJ.fz (i := 0) (n := W.length) (xs := []) (ys := []) (v := .sl H.next 0 0 (.known 0)) (w := .sl (H.next + 1) 0 0 (.known 0)) (pre := [.ptr σ.next 0, .fz w2 a2 z1.length r2, .ptr (σ.next + 2) 0, .ptr G.next 0]) (post := [.int .i64 0]) ((kmH.new []).new []) ((di.keep (keep_new _ _)).keep (keep_new _ _)) hsD ⟨rfl, fun z hz => by cases hz⟩ ⟨rfl, fun z hz => by cases hz⟩ (Nat.zero_le _) ((PSl.new _ 1 rfl (Nat.le_refl _)).keep (keep_new _ _)) (PSl.new (h := H.new []) (n := 0) (cs := []) H.next 1 rfl (Nat.le_succ _)) (fun t off l c off' l' c' e e2 => by simp only [PV.sl.injEq] at e e2; omega) rfl ⟨belL, fun _ _ _ => rfl⟩ fun v' w' h' r => ⟨0, v', w', [], [], Nat.zero_le _, by omega, rfl, r⟩
  rintro m us h ⟨i, v, w, xs, ys, hi, rfl, rfl, km, D, hex, hey, hva⟩
  obtain ⟨rr3, rr0, rr1, rdd⟩ := rdR km
  simp only [pwA, if_true, if_false, eq_self, nm_eq, reduceCtorEq, ↓reduceIte, nQ10, nQ7, nQ11, nQ12, nQ16, nQ17, nQ18, iQ2, iQ3, iQ4, iQ5, iQ6, lQ19, iQ7, lQ20, rr1]
  refine iteI (fun hlt => ?_) fun hge => ?_
  · have hlt' : i < W.length := by omega
    obtain ⟨_, ps, pt, dis⟩ := hva.resolve_right (by omega)
    simp only [pwA, if_true, if_false, eq_self, nm_eq, reduceCtorEq, ↓reduceIte, nQ10, nQ7, nQ11, nQ12, nQ16, nQ17, nQ18, iQ2, iQ3, iQ4, iQ5, iQ6, lQ19, iQ7, lQ20, rr0]
    refine below_ok D (by omega) fun xx h3 hx0 hxp m3 D3 => ?_
    have km3 := km.mv hsD m3
    simp only [pwA, if_true, if_false, eq_self, nm_eq, reduceCtorEq, ↓reduceIte, nQ10, nQ7, nQ11, nQ12, nQ16, nQ17, nQ18, iQ2, iQ3, iQ4, iQ5, iQ6, lQ19, iQ7, lQ20]
    refine push_k2 (T := H) (bytes := 8) km3 (psl_mv ps hsD m3) (psl_mv pt hsD m3) dis (by omega) (by omega) fun v' h4 k4 o4 p4 pt4 dis4 => ?_
    have D4 : Di h4 G.next vC bs := D3.same (o4 _ hsD) (Nat.lt_of_lt_of_le hsD k4.next)
    obtain ⟨_, rr0', _, _⟩ := rdR k4
    simp only [pwA, if_true, if_false, eq_self, nm_eq, reduceCtorEq, ↓reduceIte, nQ10, nQ7, nQ11, nQ12, nQ16, nQ17, nQ18, iQ2, iQ3, iQ4, iQ5, iQ6, lQ19, iQ7, lQ20, rr0']
    refine below_ok D4 (by omega) fun yy h5 hy0 hyp m5 D5 => ?_
    have km5 := k4.mv hsD m5
    simp only [pwA, if_true, if_false, eq_self, nm_eq, reduceCtorEq, ↓reduceIte, nQ10, nQ7, nQ11, nQ12, nQ16, nQ17, nQ18, iQ2, iQ3, iQ4, iQ5, iQ6, lQ19, iQ7, lQ20]
    refine push_k2 (T := H) (bytes := 8) km5 (psl_mv pt4 hsD m5) (psl_mv p4 hsD m5) (fun t off l c off' l' c' e e2 => dis4 t off' l' c' off l c e2 e) (by omega) (by omega) fun w' h6 k6 o6 p6 pt6 dis6 => ?_
    have wi1 : IntKind.i64.wrap ((i : Int) + 1) = ((i + 1 : Nat) : Int) := by rw [wrap64 (by omega) (by omega)]; omega
    simp only [pwA, if_true, if_false, eq_self, nm_eq, reduceCtorEq, ↓reduceIte, nQ10, nQ7, nQ11, nQ12, nQ16, nQ17, nQ18, iQ2, iQ3, iQ4, iQ5, iQ6, lQ19, iQ7, lQ20, wi1]
    have D6 : Di h6 G.next vC bs := D5.same (o6 _ hsD) (Nat.lt_of_lt_of_le hsD k6.next)
    refine ⟨W.length - (i + 1), by omega, RoJ.fz (i := i + 1) (n := W.length) (xs := xs ++ [xx]) (ys := ys ++ [yy]) (v := v') (w := w') (pre := [.ptr σ.next 0, .fz w2 a2 z1.length r2, .ptr (σ.next + 2) 0, .ptr G.next 0]) (post := [.int .i64 ((i + 1 : Nat) : Int)]) k6 D6 hsD ⟨by rw [List.length_append, hex.1]; rfl, fun z hz => ?_⟩ ⟨by rw [List.length_append, hey.1]; rfl, fun z hz => ?_⟩ (by omega) (by rw [← pis_append]; exact pt6) (by rw [← pis_append]; exact p6) (fun t off l c off' l' c' e e2 => dis6 t off' l' c' off l c e2 e) rfl ⟨belL, fun _ _ _ => rfl⟩ fun v' w' h' r => ⟨i + 1, v', w', _, _, by omega, rfl, rfl, r⟩⟩
    · rcases List.mem_append.1 hz with e | e
      · exact hex.2 z e
      · rw [List.mem_singleton.1 e]; omega
    · rcases List.mem_append.1 hz with e | e
      · exact hey.2 z e
      · rw [List.mem_singleton.1 e]; omega
  have hie : i = W.length := by omega
  obtain ⟨_, hvx, hvy⟩ := hva.resolve_left (by omega)
  rw [hie] at hex hey
  have hxl := hex.1
  have hyl := hey.1
  have hId := dI.isId
  have hbase := dI.c.base
  have ix := im1_el o hbase hex
  have iy := im1_el o hbase hey
  have ixl := ix.1
  have iyl := iy.1
  have hs := lmix_el o (k := 1) (m := 1) hex hey
  have hbr := br_el o q (a := xs) (b := ys)
  have hsl := hs.1
  have hbrl := hbr.1
  have is_ := im1_el o hbase hs
  have ib_ := im1_el o hbase hbr
  have isl := is_.1
  have ibl := ib_.1
  have eq2 : Els p (qW p W z1 W.length).length [im1 p W z1 W.length xs, im1 p W z1 W.length ys] := by rw [hqWl]; exact el2' ix iy
  have hms := im_sum dI hex hey
  have hmb := im_br dI hex hey
  simp only [pwA, if_true, if_false, eq_self, nm_eq, reduceCtorEq, ↓reduceIte, nQ10, nQ7, nQ11, nQ12, nQ16, nQ17, nQ18, iQ2, iQ3, iQ4, iQ5, iQ6, lQ19, iQ7, lQ20, rr3]
  refine LieImage_F hRR sz hv2 hvx hl sp1 hId hex fun v3 hv3 => ?_
  simp only [pwA, if_true, if_false, eq_self, nm_eq, reduceCtorEq, ↓reduceIte, nQ10, nQ7, nQ11, nQ12, nQ16, nQ17, nQ18, iQ2, iQ3, iQ4, iQ5, iQ6, lQ19, iQ7, lQ20, rr3]
  refine LieImage_F hRR sz hv2 hvy hl sp1 hId hey fun v4 hv4 => ?_
  simp only [pwA, if_true, if_false, eq_self, nm_eq, reduceCtorEq, ↓reduceIte, nQ10, nQ7, nQ11, nQ12, nQ16, nQ17, nQ18, iQ2, iQ3, iQ4, iQ5, iQ6, lQ19, iQ7, lQ20, rr3]
  refine LieImage_S hRR sz hv2 hvx hl sp1 hId hex fun v5 hv5 => ?_
  simp only [pwA, if_true, if_false, eq_self, nm_eq, reduceCtorEq, ↓reduceIte, nQ10, nQ7, nQ11, nQ12, nQ16, nQ17, nQ18, iQ2, iQ3, iQ4, iQ5, iQ6, lQ19, iQ7, lQ20, rr3]
  refine LieImage_S hRR sz hv2 hvy hl sp1 hId hey fun v6 hv6 => ?_
  simp only [pwA, if_true, if_false, eq_self, nm_eq, reduceCtorEq, ↓reduceIte, nQ10, nQ7, nQ11, nQ12, nQ16, nQ17, nQ18, iQ2, iQ3, iQ4, iQ5, iQ6, lQ19, iQ7, lQ20, decide_true]
  refine likeInts_ok hv3 hv5 (by omega) fun t ht => ?_
  obtain rfl : t = true := ht.2 rfl
  clear ht
  simp only [pwA, if_true, if_false, eq_self, nm_eq, reduceCtorEq, ↓reduceIte, nQ10, nQ7, nQ11, nQ12, nQ16, nQ17, nQ18, iQ2, iQ3, iQ4, iQ5, iQ6, lQ19, iQ7, lQ20, decide_true]
  refine likeInts_ok hv4 hv6 (by omega) fun t ht => ?_
  obtain rfl : t = true := ht.2 rfl
  clear ht
  simp only [pwA, if_true, if_false, eq_self, nm_eq, reduceCtorEq, ↓reduceIte, nQ10, nQ7, nQ11, nQ12, nQ16, nQ17, nQ18, iQ2, iQ3, iQ4, iQ5, iQ6, lQ19, iQ7, lQ20, decide_true, rr3]
  refine AddLie_S hRR sz hvx (by omega) hvy (by omega) fun v7 z7 c7 hz7 hv7 => ?_
  obtain ⟨rfl, rfl⟩ := hz7.ok hl (el2' hex hey) trivial
  simp only [pwA, if_true, if_false, eq_self, nm_eq, reduceCtorEq, ↓reduceIte, nQ10, nQ7, nQ11, nQ12, nQ16, nQ17, nQ18, iQ2, iQ3, iQ4, iQ5, iQ6, lQ19, iQ7, lQ20, rr3]
  refine Bracket_S hRR sz hvx (by omega) hvy (by omega) fun v8 z8 c8 hz8 hv8 => ?_
  obtain ⟨rfl, rfl⟩ := hz8.ok hl (el2' hex hey) trivial
  simp only [pwA, if_true, if_false, eq_self, nm_eq, reduceCtorEq, ↓reduceIte, nQ10, nQ7, nQ11, nQ12, nQ16, nQ17, nQ18, iQ2, iQ3, iQ4, iQ5, iQ6, lQ19, iQ7, lQ20, rr3]
  refine LieImage_F hRR sz hv2 hv7 hl sp1 hId hs fun v9 hv9 => ?_
  simp only [pwA, if_true, if_false, eq_self, nm_eq, reduceCtorEq, ↓reduceIte, nQ10, nQ7, nQ11, nQ12, nQ16, nQ17, nQ18, iQ2, iQ3, iQ4, iQ5, iQ6, lQ19, iQ7, lQ20, rr3]
  refine LieImage_F hRR sz hv2 hv8 hl sp1 hId hbr fun v10 hv10 => ?_
  simp only [pwA, if_true, if_false, eq_self, nm_eq, reduceCtorEq, ↓reduceIte, nQ10, nQ7, nQ11, nQ12, nQ16, nQ17, nQ18, iQ2, iQ3, iQ4, iQ5, iQ6, lQ19, iQ7, lQ20, rdd]
  refine AddLie_F hQQ szq hv5 (by omega) hv6 (by omega) fun v11 z11 c11 hz11 hv11 => ?_
  obtain ⟨rfl, rfl⟩ := hz11.ok hlq eq2 trivial
  simp only [pwA, if_true, if_false, eq_self, nm_eq, reduceCtorEq, ↓reduceIte, nQ10, nQ7, nQ11, nQ12, nQ16, nQ17, nQ18, iQ2, iQ3, iQ4, iQ5, iQ6, lQ19, iQ7, lQ20, rdd]
  refine Bracket_F hQQ szq hv5 (by omega) hv6 (by omega) fun v12 z12 c12 hz12 hv12 => ?_
  obtain ⟨rfl, rfl⟩ := hz12.ok hlq eq2 trivial
  simp only [pwA, if_true, if_false, eq_self, nm_eq, reduceCtorEq, ↓reduceIte, nQ10, nQ7, nQ11, nQ12, nQ16, nQ17, nQ18, iQ2, iQ3, iQ4, iQ5, iQ6, lQ19, iQ7, lQ20, rdd]
  refine AddLie_S hQQ szq hv5 (by omega) hv6 (by omega) fun v13 z13 c13 hz13 hv13 => ?_
  obtain ⟨rfl, rfl⟩ := hz13.ok hlq eq2 trivial
  simp only [pwA, if_true, if_false, eq_self, nm_eq, reduceCtorEq, ↓reduceIte, nQ10, nQ7, nQ11, nQ12, nQ16, nQ17, nQ18, iQ2, iQ3, iQ4, iQ5, iQ6, lQ19, iQ7, lQ20, rdd]
  refine Bracket_S hQQ szq hv5 (by omega) hv6 (by omega) fun v14 z14 c14 hz14 hv14 => ?_
  obtain ⟨rfl, rfl⟩ := hz14.ok hlq eq2 trivial
  rw [hqWl] at hv12 hv14
  rw [← hms] at hv11 hv13
  rw [← hmb] at hv12 hv14
  simp only [pwA, if_true, if_false, eq_self, nm_eq, reduceCtorEq, ↓reduceIte, nQ10, nQ7, nQ11, nQ12, nQ16, nQ17, nQ18, iQ2, iQ3, iQ4, iQ5, iQ6, lQ19, iQ7, lQ20, decide_true]
  refine likeInts_ok hv9 hv13 (Nat.le_trans (Nat.le_of_eq isl) (by omega)) fun t ht => ?_
  obtain rfl : t = true := ht.2 rfl
  clear ht
  simp only [pwA, if_true, if_false, eq_self, nm_eq, reduceCtorEq, ↓reduceIte, nQ10, nQ7, nQ11, nQ12, nQ16, nQ17, nQ18, iQ2, iQ3, iQ4, iQ5, iQ6, lQ19, iQ7, lQ20, decide_true]
  refine likeInts_ok hv11 hv13 (Nat.le_trans (Nat.le_of_eq isl) (by omega)) fun t ht => ?_
  obtain rfl : t = true := ht.2 rfl
  clear ht
  simp only [pwA, if_true, if_false, eq_self, nm_eq, reduceCtorEq, ↓reduceIte, nQ10, nQ7, nQ11, nQ12, nQ16, nQ17, nQ18, iQ2, iQ3, iQ4, iQ5, iQ6, lQ19, iQ7, lQ20, decide_true]
  refine likeInts_ok hv10 hv14 (by omega) fun t ht => ?_
  obtain rfl : t = true := ht.2 rfl
  clear ht
  simp only [pwA, if_true, if_false, eq_self, nm_eq, reduceCtorEq, ↓reduceIte, nQ10, nQ7, nQ11, nQ12, nQ16, nQ17, nQ18, iQ2, iQ3, iQ4, iQ5, iQ6, lQ19, iQ7, lQ20, decide_true]
  refine likeInts_ok hv12 hv14 (by omega) fun t ht => ?_
  obtain rfl : t = true := ht.2 rfl
  clear ht
  simp only [pwA, if_true, if_false, eq_self, nm_eq, reduceCtorEq, ↓reduceIte, nQ10, nQ7, nQ11, nQ12, nQ16, nQ17, nQ18, iQ2, iQ3, iQ4, iQ5, iQ6, lQ19, iQ7, lQ20, decide_true]
  exact hk _
end Go.Proofs
namespace Go.Proofs.YtpcjbkbcaiphmaaGreat
open Go.ChangeShapes Go.WideShapes Go.ChangeAt Go.RowKit Go.Ab Go.Joins Go.Lie Go.Proofs
set_option maxRecDepth 100000 in
theorem quotientsContract {H : Type} {enc : TypeId × Value → H} (W : World) (base : Nat) (args : Array Value) (ds gs : List (DataW H)) (before : List MemPlace)
    (hval : ∀ (j : Nat) t v, Tryz.f7.params[j]? = some t → args[j]? = some v → Value.okWide Tryz.prog W .any base t v)
    (hW : DataW.Whole enc Tryz.prog Tryz.f7.params.toList Rows.fnLieQuotientsSpec.vars false W args.toList ds gs before) :
    Calls Tryz.prog 7 args W fun e W' => ∃ v, e = .returned v ∧ Rows.fnLieQuotientsSpec.post enc Tryz.prog Tryz.f7 false true false false W args v W' := by
  have hW' := hW
  obtain ⟨p, q, hA0, hV, rfl, hfz, hnd⟩ := hW
  have hA : DataW.TrodAll enc Tryz.prog W 0 (fun _ => true) true Tryz.f7.params.toList args.toList ds p := hA0
  rw [Tryz.params7] at hA hval
  obtain ⟨v0, vs0, d0, ds0, p0, q0, hargs, rfl, rfl, t0, r0⟩ := trodAll_cons hA
  obtain ⟨rfl, rfl, rfl⟩ := trodAll_nil r0
  obtain rfl : args = #[v0] := by cases args; simp_all
  obtain ⟨n0, t0⟩ := t0
  obtain ⟨s0, s0', s0'', hv0⟩ := okWide_slice Tryz.underlying22 (hval 0 22 v0 rfl rfl)
  have hc0 : v0.cells.toList = [v0] := by rw [hv0]; rfl
  rw [hc0] at t0
  obtain ⟨j0, h0, vX0, X0, m0, l0, e0, i0, o0, _, R0, y0⟩ := layB _ _ _ true n0 _ _ (MR.empty W) t0
  have pc : PCalls Tryz.prog 7 [vX0] (PHeap.start h0) (fun v _ => v = .bool true) := FnLieQuotients_ok R0 y0 (fun _ => rfl)
  have ac := pc.law m0.wf ⟨o0, trivial⟩
  refine (ac.calls m0 (cargs := #[v0]) ⟨_, _, rfl, i0, rfl⟩).mono fun e W' ⟨he, hb⟩ => ?_
  exact ⟨_, he, post_of_below rfl laidOut (by rw [Tryz.params7]; intro t ht; simp only [List.mem_cons, List.not_mem_nil, or_false] at ht; rcases ht with rfl <;> exact ⟨by kernel_rfl, of_decide_eq_true (by kernel_rfl)⟩) (by kernel_rfl) Tryz.underlying4 rfl hW' hb⟩
set_option maxRecDepth 100000 in
theorem quotientsLifted (os : Os) (started : os.Started) (H : Type) (enc : TypeId × Value → H) :
    ReturnsInHanded {} Tryz.checked os 7 .any (Rows.fnLieQuotientsSpec.pre6 enc Tryz.prog Tryz.f7 Rows.fnLieQuotientsRow.domain false) (Rows.fnLieQuotientsSpec.post enc Tryz.prog Tryz.f7 false true false false) := by
  refine returnsInHanded_of_change (C := Tryz.checked) own started (by kernel_rfl) Tryz.func7
    (ChangeSpec.witness6 (enc := enc) (C := Tryz.checked) false ⟨#[], #[.slice none 0 0], []⟩ 8 (by kernel_rfl) (by kernel_rfl) (by kernel_rfl) (by kernel_rfl)) ?_
  intro W base args ds gs before hval hW _ _
  exact quotientsContract W base args ds gs before hval hW
set_option maxRecDepth 100000 in
theorem quotientsNamed : Tryz.prog.funcNamed Rows.fnLieQuotientsRow.func = some 7 := by kernel_rfl
set_option maxRecDepth 100000 in
set_option maxHeartbeats 1600000 in
set_option maxRecDepth 100000 in
theorem quotientsClosed : joinedFacts Tryz.prog 7 Tryz.f7 Rows.fnLieQuotientsSpec Rows.fnLieQuotientsRow = true := by
  unfold joinedFacts
  simp only [Bool.and_eq_true]
  repeat' apply And.intro
  all_goals (as_aux_lemma => kernel_rfl)
theorem quotientsProved : Rows.FnLieQuotientsSaid :=
  OpenClaim.holds_of_wide 7 Tryz.f7 rfl rfl rfl rfl rfl rfl rfl ⟨rfl, rfl, rfl, rfl, rfl⟩ rfl rfl rfl rfl rfl quotientsNamed Tryz.func7 quotientsClosed
    (of_decide_eq_true (by kernel_rfl)) (by unfold Func.isWrapper; first | (rw [if_pos (by decide +kernel)]; kernel_rfl) | (rw [if_neg (by decide +kernel)]; exact ⟨rfl, rfl⟩))
    (fun os started H enc _ => quotientsLifted os started H enc)
end Go.Proofs.YtpcjbkbcaiphmaaGreat
