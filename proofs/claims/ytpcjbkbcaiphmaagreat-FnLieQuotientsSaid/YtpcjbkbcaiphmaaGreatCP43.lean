/- A list of bytes that a law is handed, laid as a frozen value. -/
import Derived.Test.YtpcjbkbcaiphmaaGreatCP42
import Derived.Test.YtpcjbkbcaiphmaaGreatCP36
import Derived.Test.YtpcjbkbcaiphmaaGreatCP41
import Derived.Test.YtpcjbkbcaiphmaaGreatCP33
open Nat renaming reduceLeDiff → nQ7, reduceEqDiff → nQ10, reduceBEq → nQ11, reduceAdd → nQ12, reduceLT → nQ16, reduceSub → nQ17, reduceMul → nQ18
open Int renaming reduceEq → iQ2, reduceLT → iQ3, reduceLE → iQ4, reduceNeg → iQ5, reduceToNat → iQ6, ofNat_le → iQ7
open List renaming reduceReplicate → lQ19, getElem?_drop → lQ20
set_option linter.unusedSimpArgs false
set_option linter.unusedVariables false
set_option linter.unusedSectionVars false
namespace Go.Proofs
open Go.Ab Go.Lie
variable {σ : PHeap} {K : PV → PHeap → Prop} {va vb vx : PV} {p : Int} {W : List (List Int)} {B : List (List (List Int))} {xs ys : List (List Int)} {x : List Int}
theorem likeRows5_ok (ha : FII va xs) (hb : FII vb ys) (sz : SzL xs) (hk : ∀ t : Bool, (t = true ↔ xs = ys) → K (.bool t) σ) : PCalls Tryz.prog 30 [va, vb] σ K := by
  obtain ⟨wx, ax, rx, rfl, hrx⟩ := ha
  obtain ⟨wy, ay, ry, rfl, hry⟩ := hb
  have hl := sz.l
  refine pcalls_of_vp mix Tryz.func30 cf30 rfl ?_
  dsimp only [if30, qI, eI, nI, qD, eD]
  simp only [pwA, if_true, if_false, eq_self, nm_eq, reduceCtorEq, ↓reduceIte, nQ10, nQ7, nQ11, nQ12, nQ16, nQ17, nQ18, iQ2, iQ3, iQ4, iQ5, iQ6, lQ19, iQ7, lQ20]
  by_cases hxy : xs.length = ys.length
  rotate_left
  · have hne : ¬ (xs.length : Int) = (ys.length : Int) := by omega
    simp only [pwA, if_true, if_false, eq_self, nm_eq, reduceCtorEq, ↓reduceIte, nQ10, nQ7, nQ11, nQ12, nQ16, nQ17, nQ18, iQ2, iQ3, iQ4, iQ5, iQ6, lQ19, iQ7, lQ20, hne]
    exact hk false ⟨fun h => (by cases h), fun h => absurd (by rw [h]) hxy⟩
  have heq : (xs.length : Int) = (ys.length : Int) := by omega
  simp only [pwA, if_true, if_false, eq_self, nm_eq, reduceCtorEq, ↓reduceIte, nQ10, nQ7, nQ11, nQ12, nQ16, nQ17, nQ18, iQ2, iQ3, iQ4, iQ5, iQ6, lQ19, iQ7, lQ20, heq]
  refine vp_loop (fun m us g => ∃ i : Nat, i ≤ ys.length ∧ m = ys.length - i ∧ us = [.fz wx ax xs.length rx, .fz wy ay ys.length ry, .int .i64 i] ∧ g = σ ∧ ∀ j, j < i → xs[j]? = ys[j]?) ys.length ⟨0, by omega, by omega, rfl, rfl, fun j hj => absurd hj (Nat.not_lt_zero _)⟩ ?_
  rintro m us g ⟨i, hi, rfl, rfl, rfl, he⟩
  simp only [pwA, if_true, if_false, eq_self, nm_eq, reduceCtorEq, ↓reduceIte, nQ10, nQ7, nQ11, nQ12, nQ16, nQ17, nQ18, iQ2, iQ3, iQ4, iQ5, iQ6, lQ19, iQ7, lQ20, heq]
  refine iteI (fun hlt => ?_) fun hge => ?_
  rotate_left
  · refine hk true ⟨fun _ => List.ext_getElem? fun j => ?_, fun _ => rfl⟩
    rcases Nat.lt_or_ge j i with e | e
    · exact he j e
    · rw [List.getElem?_eq_none (by omega), List.getElem?_eq_none (by omega)]
  have hltx : i < xs.length := by omega
  have hlty : i < ys.length := by omega
  have wi1 : IntKind.i64.wrap ((i : Int) + 1) = ((i + 1 : Nat) : Int) := wrapS hlty (by omega)
  obtain ⟨w1, a1, h1⟩ := hrx.rowI hltx
  obtain ⟨w2, a2, h2⟩ := hry.rowI hlty
  have hle := sz.r _ (List.getElem_mem hltx)
  simp only [pwA, if_true, if_false, eq_self, nm_eq, reduceCtorEq, ↓reduceIte, nQ10, nQ7, nQ11, nQ12, nQ16, nQ17, nQ18, iQ2, iQ3, iQ4, iQ5, iQ6, lQ19, iQ7, lQ20, h1, h2, hltx, hlty]
  refine likeInts_ok ⟨w1, a1, rfl⟩ ⟨w2, a2, rfl⟩ hle fun t ht => ?_
  cases t with
  | false =>
    simp only [pwA, if_true, if_false, eq_self, nm_eq, reduceCtorEq, ↓reduceIte, nQ10, nQ7, nQ11, nQ12, nQ16, nQ17, nQ18, iQ2, iQ3, iQ4, iQ5, iQ6, lQ19, iQ7, lQ20]
    refine hk false ⟨fun h => (by cases h), fun h => ?_⟩
    have := ht.2 (by simp only [h])
    cases this
  | true =>
    have hv := ht.1 rfl
    simp only [pwA, if_true, if_false, eq_self, nm_eq, reduceCtorEq, ↓reduceIte, nQ10, nQ7, nQ11, nQ12, nQ16, nQ17, nQ18, iQ2, iQ3, iQ4, iQ5, iQ6, lQ19, iQ7, lQ20, wi1]
    refine ⟨_, by omega, i + 1, by omega, rfl, rfl, fun j hj => ?_⟩
    rcases Nat.lt_or_ge j i with e | e
    · exact he j e
    · obtain rfl : j = i := by omega
      rw [List.getElem?_eq_getElem hltx, List.getElem?_eq_getElem hlty, hv]
theorem Di.same {h h' : PHeap} {s : Nat} {vC : PV} {bs : List Int} (a : Di h s vC bs) (ho : h'.obj s = h.obj s) (hn : s < h'.next) : Di h' s vC bs := by
  obtain ⟨i, hh, e, hi⟩ := a.ex
  exact ⟨⟨i, hh, by rw [ho]; exact e, hi⟩, hn, a.fb, a.byt⟩
end Go.Proofs
namespace Go.Proofs
open Go.Ab Go.Lie
variable {σ : PHeap} {K : PV → PHeap → Prop} {p p' : Int} {n : Nat} {W W' : List (List Int)} {B B' : List (List (List Int))} {vP vB vL vU vV vX vC vP' vB' : PV} {s : Nat} {u gens : List (List Int)} {x bs : List Int}
theorem Idl.of (hl : isLie p W B) (c : ClsOf p W.length W B True gens u) : Idl p W.length W B u := ⟨hl.1.w, hl.1.b, hl.2, c.canon, fun f g hf => c.clo f g hf (.inl trivial)⟩
theorem entOK_of {k : Nat} {v : List Int} (h : El p n v) (hz : ∀ j, j < k → at_ v j = 0) : entOK p n k v := by
  refine ⟨isVec_el.2 h, fun y hy => ?_⟩
  obtain ⟨j, hj, rfl⟩ := List.mem_take_iff_getElem.1 hy
  rw [← at_eq]
  exact hz j (by omega)
theorem ipow_mono {p : Int} (hp : 1 ≤ p) (m : Nat) : 1 ≤ ipow p m ∧ ∀ d, ipow p m ≤ ipow p (m + d) := by
  have h1 : ∀ m, 1 ≤ ipow p m := fun m => by
    induction m with
    | zero => exact Int.le_refl _
    | succ m ih =>
      have := Int.mul_le_mul_of_nonneg_left hp (show 0 ≤ ipow p m by omega)
      rw [ipow]; omega
  refine ⟨h1 m, fun d => ?_⟩
  induction d with
  | zero => exact Int.le_refl _
  | succ d ih =>
    have h := h1 (m + d)
    have := Int.mul_le_mul_of_nonneg_left hp (show 0 ≤ ipow p (m + d) by omega)
    show _ ≤ ipow p (m + d) * p
    omega
theorem q_isLie (hl : isLie p W B) (d : Idl p W.length W B u) : isLie p (qW p W u W.length) (qB p W B u W.length) := by
  have hlen := lft_length d.c.base
  have hs := hl.1
  have o' := q_OkW d
  have q' := q_OkB d
  have hpb := hs.1.bd
  refine ⟨⟨hs.1, by rw [qW_length]; have := hs.2.1; omega, by rw [qW_length, qB_length], ?_, fun i hi => ?_⟩, by rw [qW_length]; exact q_NoFault d⟩
  · rw [qW_length]
    have h := (ipow_mono (p := p) (by omega) (lft u W.length).length).2 u.length
    rw [hlen] at h
    have := hs.2.2.2.1
    omega
  · rw [qW_length] at hi ⊢
    have hw := W_el o' hi
    have hiB : i < (qB p W B u W.length).length := by rw [qB_length]; exact hi
    have hr := q'.row i hiB
    rw [← getD_row' hiB] at hr
    refine ⟨entOK_of hw.1 fun j hj => hw.2 j (by omega), hr, fun k hk => ?_⟩
    have hk' : k < ((qB p W B u W.length)[i]).length := by rw [← getD_row' hiB, hr]; exact hk
    have he := q'.ent i hiB k hk'
    rw [getD_row' hiB, getD_row' hk']
    exact entOK_of he.1 fun j hj => he.2 j (by omega)
theorem IsIdeal_F (hR : IsR vP vB W B) (szr : SzR W B) (hU : FII vU u) (hl : isLie p W B) (sp : isSpan p W u)
    (hk : ∀ t : Bool, (t = true ↔ isId p W.length W B u) → K (.tup [.bool t, .int .i64 0]) σ) : PCalls Tryz.prog 53 [.agg [.int .i64 p, vP, vB], vU] σ K := by
  have h1 := hR.P.one
  have h2 := hR.B.one
  have o := hl.1.w
  have hn6 := o.le
  have hul := sp.2.len
  refine PCalls.gh ?_
  refine pcalls_of_vp mix Tryz.func53 cf53 rfl ?_
  dsimp only [if53, qI, eI, nI, qD, eD]
  simp only [pwA, if_true, if_false, eq_self, nm_eq, reduceCtorEq, ↓reduceIte, nQ10, nQ7, nQ11, nQ12, nQ16, nQ17, nQ18, iQ2, iQ3, iQ4, iQ5, iQ6, lQ19, iQ7, lQ20, h1, h2, hU.one, hU.cells]
  refine PCalls.frz (s := σ.next + 1) (cs := [vU]) (by simp only [pwA, if_true, if_false, eq_self, nm_eq, reduceCtorEq, ↓reduceIte, nQ10, nQ7, nQ11, nQ12, nQ16, nQ17, nQ18, iQ2, iQ3, iQ4, iQ5, iQ6, lQ19, iQ7, lQ20]) ⟨hU.bel 0, trivial⟩ fun o1 => ?_
  have hkp : Keep σ (((σ.new [.int .i64 p, vP, vB]).new [vU]).kill (σ.next + 1)) := ((keep_new σ _).new _).kill (by omega)
  have hp2 : PtrR (((σ.new [.int .i64 p, vP, vB]).new [vU]).kill (σ.next + 1)) σ.next p vP vB := ⟨by simp only [pwA, if_true, if_false, eq_self, nm_eq, reduceCtorEq, ↓reduceIte, nQ10, nQ7, nQ11, nQ12, nQ16, nQ17, nQ18, iQ2, iQ3, iQ4, iQ5, iQ6, lQ19, iQ7, lQ20], by simp only [pwA, if_true, if_false, eq_self, nm_eq, reduceCtorEq, ↓reduceIte, nQ10, nQ7, nQ11, nQ12, nQ16, nQ17, nQ18, iQ2, iQ3, iQ4, iQ5, iQ6, lQ19, iQ7, lQ20]; omega⟩
  generalize ((σ.new [.int .i64 p, vP, vB]).new [vU]).kill (σ.next + 1) = H at *
  simp only [sbs, sb, capOK, and_self, if_true, decide_true, Nat.le_refl]
  refine areLieSpans_ok (us := [u]) hp2 hR szr ((All2.nil FII).snoc hU) (by simp) (by simp) (fun x hx => by rw [List.mem_singleton.1 hx]; exact szl_els o sp.1 (by omega)) fun t ht => ?_
  obtain rfl : t = true := ht.2 ⟨hl, fun x hx => by rw [List.mem_singleton.1 hx]; exact sp⟩
  simp only [pwA, if_true, if_false, eq_self, nm_eq, reduceCtorEq, ↓reduceIte, nQ10, nQ7, nQ11, nQ12, nQ16, nQ17, nQ18, iQ2, iQ3, iQ4, iQ5, iQ6, lQ19, iQ7, lQ20]
  refine wholeLie_ok hp2 hR.P rfl (by omega) fun vW hW => ?_
  simp only [pwA, if_true, if_false, eq_self, nm_eq, reduceCtorEq, ↓reduceIte, nQ10, nQ7, nQ11, nQ12, nQ16, nQ17, nQ18, iQ2, iQ3, iQ4, iQ5, iQ6, lQ19, iQ7, lQ20]
  refine bracketsIn_ok hp2 hR o hl.1.b hU hW hU sp.1 (units_els o.pr) (by omega) (by rw [units_length]; omega) sp.2.base fun t ht => ?_
  simp only [pwA, if_true, if_false, eq_self, nm_eq, reduceCtorEq, ↓reduceIte, nQ10, nQ7, nQ11, nQ12, nQ16, nQ17, nQ18, iQ2, iQ3, iQ4, iQ5, iQ6, lQ19, iQ7, lQ20]
  exact Gh.fin0 hkp ⟨trivial, trivial, trivial⟩ (hk t ht)
theorem LieImage_F (hR : IsR vP vB W B) (szr : SzR W B) (hU : FII vU u) (hX : FI vX x) (hl : isLie p W B) (sp : isSpan p W u) (hi : isId p W.length W B u) (ex : El p W.length x)
    (hk : ∀ v, FI v (im1 p W u W.length x) → K (.tup [v, .int .i64 0]) σ) : PCalls Tryz.prog 58 [.agg [.int .i64 p, vP, vB], vU, vX] σ K := by
  have h1 := hR.P.one
  have h2 := hR.B.one
  have o := hl.1.w
  have hn6 := o.le
  have hul := sp.2.len
  have hb := sp.2.base
  have hxl := ex.1
  obtain ⟨wx, ax, rfl⟩ := hX
  have hX : FI (.fz wx ax x.length (pis x)) x := ⟨wx, ax, rfl⟩
  refine PCalls.gh ?_
  refine pcalls_of_vp mix Tryz.func58 cf58 rfl ?_
  dsimp only [if58, qI, eI, nI, qD, eD]
  simp only [pwA, if_true, if_false, eq_self, nm_eq, reduceCtorEq, ↓reduceIte, nQ10, nQ7, nQ11, nQ12, nQ16, nQ17, nQ18, iQ2, iQ3, iQ4, iQ5, iQ6, lQ19, iQ7, lQ20, h1, h2, hU.one, hU.cells]
  refine PCalls.frz (s := σ.next + 1) (cs := [vU]) (by simp only [pwA, if_true, if_false, eq_self, nm_eq, reduceCtorEq, ↓reduceIte, nQ10, nQ7, nQ11, nQ12, nQ16, nQ17, nQ18, iQ2, iQ3, iQ4, iQ5, iQ6, lQ19, iQ7, lQ20]) ⟨hU.bel 0, trivial⟩ fun o1 => ?_
  have hkp : Keep σ (((σ.new [.int .i64 p, vP, vB]).new [vU]).kill (σ.next + 1)) := ((keep_new σ _).new _).kill (by omega)
  have hp2 : PtrR (((σ.new [.int .i64 p, vP, vB]).new [vU]).kill (σ.next + 1)) σ.next p vP vB := ⟨by simp only [pwA, if_true, if_false, eq_self, nm_eq, reduceCtorEq, ↓reduceIte, nQ10, nQ7, nQ11, nQ12, nQ16, nQ17, nQ18, iQ2, iQ3, iQ4, iQ5, iQ6, lQ19, iQ7, lQ20], by simp only [pwA, if_true, if_false, eq_self, nm_eq, reduceCtorEq, ↓reduceIte, nQ10, nQ7, nQ11, nQ12, nQ16, nQ17, nQ18, iQ2, iQ3, iQ4, iQ5, iQ6, lQ19, iQ7, lQ20]; omega⟩
  generalize ((σ.new [.int .i64 p, vP, vB]).new [vU]).kill (σ.next + 1) = H at *
  simp only [sbs, sb, capOK, and_self, if_true, decide_true, Nat.le_refl]
  refine areLieSpans_ok (us := [u]) hp2 hR szr ((All2.nil FII).snoc hU) (by simp) (by simp) (fun x hx => by rw [List.mem_singleton.1 hx]; exact szl_els o sp.1 (by omega)) fun t ht => ?_
  obtain rfl : t = true := ht.2 ⟨hl, fun x hx => by rw [List.mem_singleton.1 hx]; exact sp⟩
  have hv : isVec x p W.length := isVec_el.2 ex
  simp only [pwA, if_true, if_false, eq_self, nm_eq, reduceCtorEq, ↓reduceIte, nQ10, nQ7, nQ11, nQ12, nQ16, nQ17, nQ18, iQ2, iQ3, iQ4, iQ5, iQ6, lQ19, iQ7, lQ20]
  refine isLieElement_ok hp2 hR.P rfl (by omega) hl.1.1 ?_
  simp only [pwA, if_true, if_false, eq_self, nm_eq, reduceCtorEq, ↓reduceIte, nQ10, nQ7, nQ11, nQ12, nQ16, nQ17, nQ18, iQ2, iQ3, iQ4, iQ5, iQ6, lQ19, iQ7, lQ20, hv, decide_true]
  refine wholeLie_ok hp2 hR.P rfl (by omega) fun vW hW => ?_
  simp only [pwA, if_true, if_false, eq_self, nm_eq, reduceCtorEq, ↓reduceIte, nQ10, nQ7, nQ11, nQ12, nQ16, nQ17, nQ18, iQ2, iQ3, iQ4, iQ5, iQ6, lQ19, iQ7, lQ20]
  refine bracketsIn_ok hp2 hR o hl.1.b hU hW hU sp.1 (units_els o.pr) (by omega) (by rw [units_length]; omega) hb fun t ht => ?_
  obtain rfl : t = true := ht.2 hi
  simp only [pwA, if_true, if_false, eq_self, nm_eq, reduceCtorEq, ↓reduceIte, nQ10, nQ7, nQ11, nQ12, nQ16, nQ17, nQ18, iQ2, iQ3, iQ4, iQ5, iQ6, lQ19, iQ7, lQ20]
  refine lieImage_ok hp2 hR.P o hU hb hX ex fun v hv => ?_
  simp only [pwA, if_true, if_false, eq_self, nm_eq, reduceCtorEq, ↓reduceIte, nQ10, nQ7, nQ11, nQ12, nQ16, nQ17, nQ18, iQ2, iQ3, iQ4, iQ5, iQ6, lQ19, iQ7, lQ20]
  exact Gh.fin0 hkp ⟨hv.bel _, trivial, trivial⟩ (hk v hv)
theorem LieImage_S (hR : IsR vP vB W B) (szr : SzR W B) (hU : FII vU u) (hX : FI vX x) (hl : isLie p W B) (sp : isSpan p W u) (hi : isId p W.length W B u) (ex : El p W.length x)
    (hk : ∀ v, FI v (im1 p W u W.length x) → K (.tup [v, .int .i64 0]) σ) : PCalls Tryz.prog 59 [.agg [.int .i64 p, vP, vB], vU, vX] σ K := by
  have h1 := hR.P.one
  have h2 := hR.B.one
  have o := hl.1.w
  have hn6 := o.le
  have hul := sp.2.len
  have hb := sp.2.base
  have hxl := ex.1
  obtain ⟨wx, ax, rfl⟩ := hX
  have hX : FI (.fz wx ax x.length (pis x)) x := ⟨wx, ax, rfl⟩
  refine PCalls.gh ?_
  refine pcalls_of_vp mix Tryz.func59 cf59 rfl ?_
  dsimp only [if59, qI, eI, nI, qD, eD]
  simp only [pwA, if_true, if_false, eq_self, nm_eq, reduceCtorEq, ↓reduceIte, nQ10, nQ7, nQ11, nQ12, nQ16, nQ17, nQ18, iQ2, iQ3, iQ4, iQ5, iQ6, lQ19, iQ7, lQ20, h1, h2]
  have hkp : Keep σ (σ.new [.int .i64 p, vP, vB]) := keep_new σ _
  have hr3 : (σ.new [.int .i64 p, vP, vB]).rd σ.next 0 3 = some [.int .i64 p, vP, vB] := by simp only [pwA, if_true, if_false, eq_self, nm_eq, reduceCtorEq, ↓reduceIte, nQ10, nQ7, nQ11, nQ12, nQ16, nQ17, nQ18, iQ2, iQ3, iQ4, iQ5, iQ6, lQ19, iQ7, lQ20]
  generalize σ.new [.int .i64 p, vP, vB] = H at *
  refine IsLieSpan_S hR szr hU (szl_els o sp.1 (by omega)) fun t ht => ?_
  obtain rfl : t = true := ht.2 ⟨hl, sp⟩
  simp only [pwA, if_true, if_false, eq_self, nm_eq, reduceCtorEq, ↓reduceIte, nQ10, nQ7, nQ11, nQ12, nQ16, nQ17, nQ18, iQ2, iQ3, iQ4, iQ5, iQ6, lQ19, iQ7, lQ20, hr3]
  refine l31Has_ok hR rfl (by omega) o.pr fun t ht => ?_
  obtain rfl : t = true := ht.2 ex
  simp only [pwA, if_true, if_false, eq_self, nm_eq, reduceCtorEq, ↓reduceIte, nQ10, nQ7, nQ11, nQ12, nQ16, nQ17, nQ18, iQ2, iQ3, iQ4, iQ5, iQ6, lQ19, iQ7, lQ20, hr3]
  refine l32IsIdeal_ok hR o hl.1.b hl.1.1 hU hb fun t ht => ?_
  obtain rfl : t = true := ht.2 hi
  simp only [pwA, if_true, if_false, eq_self, nm_eq, reduceCtorEq, ↓reduceIte, nQ10, nQ7, nQ11, nQ12, nQ16, nQ17, nQ18, iQ2, iQ3, iQ4, iQ5, iQ6, lQ19, iQ7, lQ20, hr3]
  refine l32Image_ok hR o hU hb hX ex fun v hv => ?_
  simp only [pwA, if_true, if_false, eq_self, nm_eq, reduceCtorEq, ↓reduceIte, nQ10, nQ7, nQ11, nQ12, nQ16, nQ17, nQ18, iQ2, iQ3, iQ4, iQ5, iQ6, lQ19, iQ7, lQ20]
  exact Gh.fin0 hkp ⟨hv.bel _, trivial, trivial⟩ (hk v hv)
theorem DrawIdealOf_ok (hb : FB vC bs) (hB : Byt bs) (hk : ∀ p vP vB W B vL gens, DrR p W B → IsR vP vB W B → FII vL gens → gens.length ≤ 3 → (∀ x ∈ gens, x.length ≤ 7) → K (.tup [.agg [.int .i64 p, vP, vB], vL]) σ) : PCalls Tryz.prog 52 [vC] σ K := by
  refine PCalls.gh ?_
  refine pcalls_of_vp mix Tryz.func52 cf52 rfl ?_
  dsimp only [if52, qI, eI, nI, qD, eD]
  simp only [pwA, if_true, if_false, eq_self, nm_eq, reduceCtorEq, ↓reduceIte, nQ10, nQ7, nQ11, nQ12, nQ16, nQ17, nQ18, iQ2, iQ3, iQ4, iQ5, iQ6, lQ19, iQ7, lQ20, hb.one]
  refine DrawLieSpan_ok hb hB fun p vP vB W B vL gens d hR hL hgl hgx => ?_
  have g1 := hR.P.one
  have g2 := hR.B.one
  simp only [pwA, if_true, if_false, eq_self, nm_eq, reduceCtorEq, ↓reduceIte, nQ10, nQ7, nQ11, nQ12, nQ16, nQ17, nQ18, iQ2, iQ3, iQ4, iQ5, iQ6, lQ19, iQ7, lQ20, g1, g2]
  exact Gh.fin0 (keep_new σ _) ⟨⟨trivial, hR.P.bel _, hR.B.bel _, trivial⟩, hL.bel _, trivial⟩ (hk p vP vB W B vL gens d hR hL hgl hgx)
theorem likeCubes5_ok {va vb : PV} {xs ys : List (List (List Int))} (ha : FIII va xs) (hb : FIII vb ys) (hl : xs.length ≤ 1048576) (sz : ∀ q ∈ xs, SzL q) (hk : ∀ t : Bool, (t = true ↔ xs = ys) → K (.bool t) σ) : PCalls Tryz.prog 142 [va, vb] σ K := by
  have fl : ∀ {A : Prop}, ¬ A → ((false = true) ↔ A) := fun h => ⟨fun x => (by cases x), fun x => absurd x h⟩
  obtain ⟨wx, ax, rx, rfl, hrx⟩ := ha
  obtain ⟨wy, ay, ry, rfl, hry⟩ := hb
  refine pcalls_of_vp mix Tryz.func142 cf142 rfl ?_
  dsimp only [if142, qI, eI, nI, qD, eD]
  simp only [pwA, if_true, if_false, eq_self, nm_eq, reduceCtorEq, ↓reduceIte, nQ10, nQ7, nQ11, nQ12, nQ16, nQ17, nQ18, iQ2, iQ3, iQ4, iQ5, iQ6, lQ19, iQ7, lQ20]
  by_cases hxy : xs.length = ys.length
  rotate_left
  · have hne : ¬ (xs.length : Int) = (ys.length : Int) := by omega
    simp only [pwA, if_true, if_false, eq_self, nm_eq, reduceCtorEq, ↓reduceIte, nQ10, nQ7, nQ11, nQ12, nQ16, nQ17, nQ18, iQ2, iQ3, iQ4, iQ5, iQ6, lQ19, iQ7, lQ20, hne]
    exact hk _ (fl fun h => hxy (by rw [h]))
  have hne : (xs.length : Int) = (ys.length : Int) := by omega
  simp only [pwA, if_true, if_false, eq_self, nm_eq, reduceCtorEq, ↓reduceIte, nQ10, nQ7, nQ11, nQ12, nQ16, nQ17, nQ18, iQ2, iQ3, iQ4, iQ5, iQ6, lQ19, iQ7, lQ20, eq_true hne]
  refine vp_loop (fun m vs h' => ∃ i : Nat, i ≤ xs.length ∧ m = xs.length - i ∧ vs = [.fz wx ax xs.length rx, .fz wy ay ys.length ry, .int .i64 i] ∧ σ = h' ∧ xs.take i = ys.take i) xs.length ⟨0, by omega, by omega, rfl, rfl, rfl⟩ ?_
  rintro m vs h' ⟨i, hi, rfl, rfl, rfl, heq⟩
  simp only [pwA, if_true, if_false, eq_self, nm_eq, reduceCtorEq, ↓reduceIte, nQ10, nQ7, nQ11, nQ12, nQ16, nQ17, nQ18, iQ2, iQ3, iQ4, iQ5, iQ6, lQ19, iQ7, lQ20]
  refine iteI (fun hlt => ?_) fun hge => ?_
  rotate_left
  · have hie : i = xs.length := by omega
    subst hie
    rw [List.take_length, hxy, List.take_length] at heq
    exact hk _ ⟨fun _ => heq, fun _ => rfl⟩
  have hlt2 : i < ys.length := by omega
  obtain ⟨w4, a4, r4, hr, hr4⟩ := hrx.rowL hlt
  obtain ⟨w5, a5, r5, hr2, hr5⟩ := hry.rowL hlt2
  simp only [pwA, if_true, if_false, eq_self, nm_eq, reduceCtorEq, ↓reduceIte, nQ10, nQ7, nQ11, nQ12, nQ16, nQ17, nQ18, iQ2, iQ3, iQ4, iQ5, iQ6, lQ19, iQ7, lQ20, hlt, hlt2, hr, hr2]
  refine likeRows5_ok (xs := xs[i]) (ys := ys[i]) ⟨w4, a4, r4, rfl, hr4⟩ ⟨w5, a5, r5, rfl, hr5⟩ (sz _ (List.getElem_mem hlt)) fun t ht => ?_
  cases t with
  | true =>
    simp only [pwA, if_true, if_false, eq_self, nm_eq, reduceCtorEq, ↓reduceIte, nQ10, nQ7, nQ11, nQ12, nQ16, nQ17, nQ18, iQ2, iQ3, iQ4, iQ5, iQ6, lQ19, iQ7, lQ20, wrapS hlt (by omega : xs.length ≤ 4611686018427387904)]
    refine ⟨_, by omega, i + 1, by omega, rfl, rfl, ?_⟩
    rw [List.take_succ_eq_append_getElem hlt, List.take_succ_eq_append_getElem hlt2, heq, ht.1 rfl]
  | false =>
    simp only [pwA, if_true, if_false, eq_self, nm_eq, reduceCtorEq, ↓reduceIte, nQ10, nQ7, nQ11, nQ12, nQ16, nQ17, nQ18, iQ2, iQ3, iQ4, iQ5, iQ6, lQ19, iQ7, lQ20]
    refine hk _ (fl fun h => ?_)
    have := ht.2 (by subst h; rfl)
    cases this
theorem likeRings5_ok (hR : IsR vP vB W B) (hR' : IsR vP' vB' W' B') (szr : SzR W B) (hk : ∀ t : Bool, (p = p' → W = W' → B = B' → t = true) → K (.bool t) σ) : PCalls Tryz.prog 56 [.agg [.int .i64 p, vP, vB], .agg [.int .i64 p', vP', vB']] σ K := by
  have h1 := hR.P.one
  have h2 := hR.B.one
  have h3 := hR'.P.one
  have h4 := hR'.B.one
  refine PCalls.gh ?_
  refine pcalls_of_vp mix Tryz.func56 cf56 rfl ?_
  dsimp only [if56, qI, eI, nI, qD, eD]
  simp only [pwA, if_true, if_false, eq_self, nm_eq, reduceCtorEq, ↓reduceIte, nQ10, nQ7, nQ11, nQ12, nQ16, nQ17, nQ18, iQ2, iQ3, iQ4, iQ5, iQ6, lQ19, iQ7, lQ20, h1, h2, h3, h4]
  have hkp : Keep σ ((σ.new [.int .i64 p, vP, vB]).new [.int .i64 p', vP', vB']) := (keep_new σ _).new _
  have a1 : ((σ.new [.int .i64 p, vP, vB]).new [.int .i64 p', vP', vB']).rd1 σ.next 1 = some vP := by simp only [pwA, if_true, if_false, eq_self, nm_eq, reduceCtorEq, ↓reduceIte, nQ10, nQ7, nQ11, nQ12, nQ16, nQ17, nQ18, iQ2, iQ3, iQ4, iQ5, iQ6, lQ19, iQ7, lQ20]
  have a2 : ((σ.new [.int .i64 p, vP, vB]).new [.int .i64 p', vP', vB']).rd1 σ.next 2 = some vB := by simp only [pwA, if_true, if_false, eq_self, nm_eq, reduceCtorEq, ↓reduceIte, nQ10, nQ7, nQ11, nQ12, nQ16, nQ17, nQ18, iQ2, iQ3, iQ4, iQ5, iQ6, lQ19, iQ7, lQ20]
  have b1 : ((σ.new [.int .i64 p, vP, vB]).new [.int .i64 p', vP', vB']).rd1 (σ.next + 1) 1 = some vP' := by simp only [pwA, if_true, if_false, eq_self, nm_eq, reduceCtorEq, ↓reduceIte, nQ10, nQ7, nQ11, nQ12, nQ16, nQ17, nQ18, iQ2, iQ3, iQ4, iQ5, iQ6, lQ19, iQ7, lQ20]
  have b2 : ((σ.new [.int .i64 p, vP, vB]).new [.int .i64 p', vP', vB']).rd1 (σ.next + 1) 2 = some vB' := by simp only [pwA, if_true, if_false, eq_self, nm_eq, reduceCtorEq, ↓reduceIte, nQ10, nQ7, nQ11, nQ12, nQ16, nQ17, nQ18, iQ2, iQ3, iQ4, iQ5, iQ6, lQ19, iQ7, lQ20]
  generalize (σ.new [.int .i64 p, vP, vB]).new [.int .i64 p', vP', vB'] = H at *
  by_cases hp : p = p'
  rotate_left
  · simp only [pwA, if_true, if_false, eq_self, nm_eq, reduceCtorEq, ↓reduceIte, nQ10, nQ7, nQ11, nQ12, nQ16, nQ17, nQ18, iQ2, iQ3, iQ4, iQ5, iQ6, lQ19, iQ7, lQ20, hp, decide_false]
    exact Gh.fin0 hkp trivial (hk _ fun h => absurd h hp)
  simp only [pwA, if_true, if_false, eq_self, nm_eq, reduceCtorEq, ↓reduceIte, nQ10, nQ7, nQ11, nQ12, nQ16, nQ17, nQ18, iQ2, iQ3, iQ4, iQ5, iQ6, lQ19, iQ7, lQ20, hp, eq_true hp, decide_true, a1, a2, b1, b2]
  refine likeRows5_ok hR.P hR'.P ⟨szr.Wl, szr.w⟩ fun t ht => ?_
  cases t with
  | false =>
    simp only [pwA, if_true, if_false, eq_self, nm_eq, reduceCtorEq, ↓reduceIte, nQ10, nQ7, nQ11, nQ12, nQ16, nQ17, nQ18, iQ2, iQ3, iQ4, iQ5, iQ6, lQ19, iQ7, lQ20, a1, a2, b1, b2]
    exact Gh.fin0 hkp trivial (hk _ fun _ h _ => ht.2 h)
  | true =>
    simp only [pwA, if_true, if_false, eq_self, nm_eq, reduceCtorEq, ↓reduceIte, nQ10, nQ7, nQ11, nQ12, nQ16, nQ17, nQ18, iQ2, iQ3, iQ4, iQ5, iQ6, lQ19, iQ7, lQ20, a1, a2, b1, b2]
    refine likeCubes5_ok hR.B hR'.B szr.Bl (fun q hq => ⟨szr.b q hq, szr.c q hq⟩) fun t ht => ?_
    simp only [pwA, if_true, if_false, eq_self, nm_eq, reduceCtorEq, ↓reduceIte, nQ10, nQ7, nQ11, nQ12, nQ16, nQ17, nQ18, iQ2, iQ3, iQ4, iQ5, iQ6, lQ19, iQ7, lQ20]
    exact Gh.fin0 hkp trivial (hk _ fun _ _ h => ht.2 h)
end Go.Proofs
namespace Go.Proofs
open Go.Ab Go.Lie
variable {σ H h : PHeap} {K : PV → PHeap → Prop} {p : Int} {n : Nat} {W : List (List Int)} {B : List (List (List Int))} {vP vB vU : PV} {u : List (List Int)}
def qWs (p : Int) (W : List (List Int)) (u : List (List Int)) (n i : Nat) : List (List Int) := (List.range i).map fun a => im1 p W u n (W.getD (lf u n a) [])
def qBs (p : Int) (W : List (List Int)) (B : List (List (List Int))) (u : List (List Int)) (n i : Nat) : List (List (List Int)) := (List.range i).map (qR p W B u n)
def qRs (p : Int) (W : List (List Int)) (B : List (List (List Int))) (u : List (List Int)) (n a k : Nat) : List (List Int) := (List.range k).map fun k => im1 p W u n (qE B (lf u n a) (lf u n (a + 1 + k)))
theorem qWs_succ (i : Nat) : qWs p W u n (i + 1) = qWs p W u n i ++ [im1 p W u n (W.getD (lf u n i) [])] := by unfold qWs; rw [List.range_succ, List.map_append]; rfl
theorem qBs_succ (i : Nat) : qBs p W B u n (i + 1) = qBs p W B u n i ++ [qR p W B u n i] := by unfold qBs; rw [List.range_succ, List.map_append]; rfl
theorem qRs_succ (a k : Nat) : qRs p W B u n a (k + 1) = qRs p W B u n a k ++ [im1 p W u n (qE B (lf u n a) (lf u n (a + 1 + k)))] := by unfold qRs; rw [List.range_succ, List.map_append]; rfl
theorem qE_get (q : OkB p n B) {i j : Nat} (hij : i < j) (hj : j < n) (hi : i < B.length) : ∃ h : j - i - 1 < B[i].length, qE B i j = B[i][j - i - 1] := by
  have hr := q.row i hi
  have hk : j - i - 1 < B[i].length := by rw [hr]; omega
  exact ⟨hk, by unfold qE; rw [getD_row' hi, getD_row' hk]⟩
theorem l32Quotient_ok (d : Idl p W.length W B u) (hR : IsR vP vB W B) (hU : FII vU u) (hk : ∀ vQ vC, IsR vQ vC (qW p W u W.length) (qB p W B u W.length) → K (.agg [.int .i64 p, vQ, vC]) σ) : PCalls Tryz.prog 141 [.agg [.int .i64 p, vP, vB], vU] σ K := by
  have o := d.o
  have q := d.q
  have hb := d.c.base
  have hn6 := o.le
  have hR0 := hR
  have hB1 := hR.B.one
  have hU1 := hU.one
  have hml := lft_le u W.length
  have hBl := q.len
  obtain ⟨⟨wp, ap, rp, rfl, hrp⟩, wb, ab, rb, rfl, hrb⟩ := hR
  refine PCalls.gh ?_
  generalize hT : (σ.new [.int .i64 p, .fz wp ap W.length rp, .fz wb ab B.length rb]).new [.int .i64 0, .fz true .nils 0 [], .fz true .nils 0 []] = T
  have hTn : T.next = σ.next + 2 := by rw [← hT]; rfl
  have hkT : Keep σ T := by rw [← hT]; exact (keep_new σ _).new _
  have ld : ∀ {g : PHeap}, Keep T g → g.rd σ.next 0 3 = some [.int .i64 p, .fz wp ap W.length rp, .fz wb ab B.length rb] ∧ g.rd1 σ.next 0 = some (.int .i64 p) ∧ g.rd1 σ.next 1 = some (.fz wp ap W.length rp) ∧ g.rd1 σ.next 2 = some (.fz wb ab B.length rb) := fun {g} k => by
    have ob : g.obj σ.next = some [.int .i64 p, .fz wp ap W.length rp, .fz wb ab B.length rb] := by rw [k.obj _ (by omega), ← hT]; simp only [pwA, if_true, if_false, eq_self, nm_eq, reduceCtorEq, ↓reduceIte, nQ10, nQ7, nQ11, nQ12, nQ16, nQ17, nQ18, iQ2, iQ3, iQ4, iQ5, iQ6, lQ19, iQ7, lQ20]
    exact ⟨by rw [obj_rd ob]; rfl, by rw [obj_rd1 ob]; rfl, by rw [obj_rd1 ob]; rfl, by rw [obj_rd1 ob]; rfl⟩
  have hO3 : ∀ {g : PHeap} {u0 u1 u2 : PV}, Keep T g → u0.one = true → u1.one = true → u2.one = true → g.wr (σ.next + 1) 0 [u0, u1, u2] = some (g.set (σ.next + 1) [u0, u1, u2]) ∧ (g.set (σ.next + 1) [u0, u1, u2]).rd (σ.next + 1) 0 3 = some [u0, u1, u2] := fun {g u0 u1 u2} k z0 z1 z2 => by
    have hres : g.obj (σ.next + 1) = some [.int .i64 0, .fz true .nils 0 [], .fz true .nils 0 []] := by rw [k.obj _ (by omega), ← hT]; simp only [pwA, if_true, if_false, eq_self, nm_eq, reduceCtorEq, ↓reduceIte, nQ10, nQ7, nQ11, nQ12, nQ16, nQ17, nQ18, iQ2, iQ3, iQ4, iQ5, iQ6, lQ19, iQ7, lQ20]
    exact ⟨by rw [obj_wr hres, if_pos ⟨by simp, by simp only [List.all_cons, List.all_nil, z0, z1, z2]; rfl⟩]; rfl, by rw [prd_set, if_pos rfl]; rfl⟩
  obtain ⟨l3, l0, l1, l2⟩ := ld (Keep.refl T)
  refine pcalls_of_vp mix Tryz.func141 cf141 rfl ?_
  dsimp only [if141, qI, eI, nI, qD, eD]
  simp only [pwA, if_true, if_false, eq_self, nm_eq, reduceCtorEq, ↓reduceIte, nQ10, nQ7, nQ11, nQ12, nQ16, nQ17, nQ18, iQ2, iQ3, iQ4, iQ5, iQ6, lQ19, iQ7, lQ20, hB1]
  rw [hT]
  simp only [pwA, if_true, if_false, eq_self, nm_eq, reduceCtorEq, ↓reduceIte, nQ10, nQ7, nQ11, nQ12, nQ16, nQ17, nQ18, iQ2, iQ3, iQ4, iQ5, iQ6, lQ19, iQ7, lQ20, l3]
  refine l32Left_ok hR0 o hU hb fun vO hO => ?_
  obtain ⟨wo, ao, rfl⟩ := hO
  have hlI := lftI_length (u := u) (n := W.length)
  have hqW : qW p W u W.length = qWs p W u W.length (lft u W.length).length := rfl
  have hqB : qB p W B u W.length = qBs p W B u W.length (lft u W.length).length := rfl
  have hqR : ∀ a, qR p W B u W.length a = qRs p W B u W.length a ((lft u W.length).length - 1 - a) := fun a => rfl
  have hls : ∀ a, a < (lft u W.length).length → lf u W.length a < W.length := fun a ha => (lf_spec ha).1
  have hlg : ∀ a, a < (lft u W.length).length → (pis (lftI u W.length))[a]? = some (.int .i64 (lf u W.length a)) := fun a ha => lftI_get ha
  have hlt2 : ∀ a b, a < b → b < (lft u W.length).length → lf u W.length a < lf u W.length b := fun a b h1 h2 => lf_lt h1 h2
  rw [hqW, hqB] at hk
  generalize hm : (lft u W.length).length = m at *
  have f0 : T.rd1 σ.next 0 = some (.int .i64 p) := l0
  simp only [pwA, if_true, if_false, eq_self, nm_eq, reduceCtorEq, ↓reduceIte, nQ10, nQ7, nQ11, nQ12, nQ16, nQ17, nQ18, iQ2, iQ3, iQ4, iQ5, iQ6, lQ19, iQ7, lQ20, l0, hlI]
  refine vp_loop (fun mm us h => ∃ (i : Nat) (vQ vC : PV) (cP cC : List PV) (ls : List LS), i ≤ m ∧ mm = m - i ∧ us = [vU, .ptr σ.next 0, .ptr (σ.next + 1) 0, .fz wo ao m (pis (lftI u W.length)), .ptr (σ.next + 4) 0, .int .i64 i] ∧ SU T h (σ.next + 4) (.int .i64 p) [(vQ, cP), (vC, cC)] ls ∧ All2 FI cP (qWs p W u W.length i) ∧ cC = ls.map LS.pv ∧ RowsOf ls (qBs p W B u W.length i)) m ?_ ?_
  · refine ⟨0, .sl (σ.next + 2) 0 0 (.known 0), .sl (σ.next + 3) 0 0 (.known 0), [], [], [], by omega, by omega, by rw [hTn]; rfl, ⟨((keep_new T _).new _).new _, by simp only [pwA, if_true, if_false, eq_self, nm_eq, reduceCtorEq, ↓reduceIte, nQ10, nQ7, nQ11, nQ12, nQ16, nQ17, nQ18, iQ2, iQ3, iQ4, iQ5, iQ6, lQ19, iQ7, lQ20, hTn], ⟨by omega, by first | (simp only [pwA, if_true, if_false, eq_self, nm_eq, reduceCtorEq, ↓reduceIte, nQ10, nQ7, nQ11, nQ12, nQ16, nQ17, nQ18, iQ2, iQ3, iQ4, iQ5, iQ6, lQ19, iQ7, lQ20, hTn]; done) | (simp only [pwA, if_true, if_false, eq_self, nm_eq, reduceCtorEq, ↓reduceIte, nQ10, nQ7, nQ11, nQ12, nQ16, nQ17, nQ18, iQ2, iQ3, iQ4, iQ5, iQ6, lQ19, iQ7, lQ20, hTn]; omega)⟩, fun f hf => ?_, fun f hf off l c e => ?_, fun i j f g hf hg hne s off l c e off' l' c' e' => ?_, fun q hq => (by cases hq), fun q hq => (by cases hq)⟩, All2.nil _, rfl, All2.nil _⟩
    · simp only [List.mem_cons, List.not_mem_nil, or_false] at hf
      rcases hf with rfl | rfl
      · exact PSl.own (.inr rfl) (by simp only [pwA, if_true, if_false, eq_self, nm_eq, reduceCtorEq, ↓reduceIte, nQ10, nQ7, nQ11, nQ12, nQ16, nQ17, nQ18, iQ2, iQ3, iQ4, iQ5, iQ6, lQ19, iQ7, lQ20, hTn]) rfl (by omega) (by first | (simp only [pwA, if_true, if_false, eq_self, nm_eq, reduceCtorEq, ↓reduceIte, nQ10, nQ7, nQ11, nQ12, nQ16, nQ17, nQ18, iQ2, iQ3, iQ4, iQ5, iQ6, lQ19, iQ7, lQ20, hTn]; done) | (simp only [pwA, if_true, if_false, eq_self, nm_eq, reduceCtorEq, ↓reduceIte, nQ10, nQ7, nQ11, nQ12, nQ16, nQ17, nQ18, iQ2, iQ3, iQ4, iQ5, iQ6, lQ19, iQ7, lQ20, hTn]; omega))
      · exact PSl.own (.inr rfl) (by simp only [pwA, if_true, if_false, eq_self, nm_eq, reduceCtorEq, ↓reduceIte, nQ10, nQ7, nQ11, nQ12, nQ16, nQ17, nQ18, iQ2, iQ3, iQ4, iQ5, iQ6, lQ19, iQ7, lQ20, hTn]) rfl (by omega) (by first | (simp only [pwA, if_true, if_false, eq_self, nm_eq, reduceCtorEq, ↓reduceIte, nQ10, nQ7, nQ11, nQ12, nQ16, nQ17, nQ18, iQ2, iQ3, iQ4, iQ5, iQ6, lQ19, iQ7, lQ20, hTn]; done) | (simp only [pwA, if_true, if_false, eq_self, nm_eq, reduceCtorEq, ↓reduceIte, nQ10, nQ7, nQ11, nQ12, nQ16, nQ17, nQ18, iQ2, iQ3, iQ4, iQ5, iQ6, lQ19, iQ7, lQ20, hTn]; omega))
    · simp only [List.mem_cons, List.not_mem_nil, or_false] at hf
      rcases hf with rfl | rfl <;> (simp only [PV.sl.injEq] at e; omega)
    · match i, j with
      | 0, 0 => exact hne rfl
      | 1, 1 => exact hne rfl
      | 0, 1 | 1, 0 => cases hf; cases hg; simp only [PV.sl.injEq] at e e'; omega
      | i + 2, _ => simp at hf
      | 0, j + 2 | 1, j + 2 => simp at hg
  as_aux_lemma =>
  rintro mm us h ⟨i, vQ, vC, cP, cC, ls, hi, rfl, rfl, a, hcP, hcC, hcR⟩
  obtain ⟨l3, l0, l1, l2⟩ := ld a.keep
  have aP := a.acc (vQ, cP) (by simp)
  have aC := a.acc (vC, cC) (by simp)
  have f3 : h.rd (σ.next + 4) 0 3 = some [.int .i64 p, vQ, vC] := by rw [obj_rd a.obj]; rfl
  simp only [pwA, if_true, if_false, eq_self, nm_eq, reduceCtorEq, ↓reduceIte, nQ10, nQ7, nQ11, nQ12, nQ16, nQ17, nQ18, iQ2, iQ3, iQ4, iQ5, iQ6, lQ19, iQ7, lQ20]
  refine iteI (fun hlt => ?_) fun hge => ?_
  rotate_left
  · as_aux_lemma =>
    have hie : i = m := by omega
    subst hie
    obtain ⟨g1, g2⟩ := hO3 a.keep (u0 := .int .i64 p) rfl aP.one aC.one
    simp only [pwA, if_true, if_false, eq_self, nm_eq, reduceCtorEq, ↓reduceIte, nQ10, nQ7, nQ11, nQ12, nQ16, nQ17, nQ18, iQ2, iQ3, iQ4, iQ5, iQ6, lQ19, iQ7, lQ20, f3, g1, g2]
    obtain ⟨sP, capP, e2, q1, q2, q3, q4, q5⟩ := aP
    obtain ⟨sC, capC, e3, r1, r2, r3, r4, r5⟩ := aC
    dsimp only at e2 q1 q2 q3 e3 r1 r2 r3
    subst e2 e3
    have et : (TR.agg [.leaf (.int .i64 p), .lst sP capP (cP.map TR.leaf), .lst sC capC (ls.map LS.tr)]).pv = .agg [.int .i64 p, .sl sP 0 cP.length capP, .sl sC 0 cC.length capC] := by
      simp only [TR.pv, TR.pvs, List.length_map]; rw [hcC, List.length_map]
    rw [← et]
    have ob : ∀ s, T.next ≤ s → (h.set (σ.next + 1) [.int .i64 p, .sl sP 0 cP.length capP, .sl sC 0 cC.length capC]).obj s = h.obj s := fun s hs => by rw [pobj_set, if_neg (by omega)]
    refine Gh.treeF ((hkT.trans a.keep).set (by omega) _) ⟨trivial, ⟨⟨by rw [List.length_map]; exact q1, by rw [ob _ q4, leafs_pvs]; exact q2, by omega, q5⟩, leafs_okF (hcP.bI 0)⟩, ⟨⟨by rw [List.length_map]; rw [hcC, List.length_map] at r1; exact r1, by rw [ob _ r4, LS.tr_pvs, ← hcC]; exact r2, by omega, r5⟩, LS.trs_okF fun q hq => ?_⟩, trivial⟩ fun aa => hk _ _ ⟨⟨true, .sl (aa sP) 0 cP.length capP, cP, ?_, hcP⟩, ⟨true, .sl (aa sC) 0 ls.length capC, TR.fzs aa (ls.map LS.tr), ?_, rowsOf_all2 hcR⟩⟩
    · obtain ⟨g1, g2, g3, g4⟩ := a.lok q hq
      refine ⟨⟨g1, by rw [ob _ g3]; exact g2, by omega, g4⟩, ?_⟩
      obtain ⟨k, hk9, rfl⟩ := List.mem_iff_getElem.1 hq
      exact (hcR.2 k _ _ (List.getElem?_eq_getElem hk9) (List.getElem?_eq_getElem (by rw [← hcR.1]; exact hk9))).bI 0
    · simp only [TR.fz, leafs_fzs, List.length_map]; rw [hcP.1]
    · simp only [TR.fz, List.length_map]; rw [hcR.1]
  have hlt' : i < m := by omega
  have hcPl : cP.length = i := by rw [hcP.1]; simp [qWs]
  have hcCl : cC.length = i := by rw [hcC, List.length_map, hcR.1]; simp [qBs]
  have hli := hls i hlt'
  have hlgi := hlg i hlt'
  have hw := (W_el o hli).1
  have hwe : W.getD (lf u W.length i) [] = W[lf u W.length i] := getD_row hli
  obtain ⟨w4, a4, hr4⟩ := hrp.rowI hli
  have f1 : h.rd1 (σ.next + 4) 1 = some vQ := by rw [obj_rd1 a.obj]; rfl
  simp only [pwA, if_true, if_false, eq_self, nm_eq, reduceCtorEq, ↓reduceIte, nQ10, nQ7, nQ11, nQ12, nQ16, nQ17, nQ18, iQ2, iQ3, iQ4, iQ5, iQ6, lQ19, iQ7, lQ20, hlt', hlgi, hlI, l3, l1, f1, hli, hr4]
  refine l32Image_ok hR0 o hU hb (x := W.getD (lf u W.length i) []) (by rw [hwe]; exact ⟨w4, a4, rfl⟩) hw fun v2 hv2 => ?_
  have y1 := hv2.one
  have y2 := hv2.cells
  have hn5 : ¬ σ.next + 4 = h.next := by have := a.p0b.2; omega
  simp only [pwA, if_true, if_false, eq_self, nm_eq, reduceCtorEq, ↓reduceIte, nQ10, nQ7, nQ11, nQ12, nQ16, nQ17, nQ18, iQ2, iQ3, iQ4, iQ5, iQ6, lQ19, iQ7, lQ20, y1, y2, f1, hn5]
  have hone1 : ∀ f, f ∈ [(vQ, cP), (vC, cC)] → f.1.one = true := fun f hf => (a.acc f hf).one
  refine SU.push a (j := 0) (bytes := 24) rfl (by omega) (by omega) hone1 fun v3 h3 z4 z5 z6 a3 => ?_
  simp only [List.set_cons_zero, List.set_cons_succ, List.map_cons, List.map_nil] at z6 a3
  generalize h3.set (σ.next + 4) [.int .i64 p, v3, vC] = h4 at *
  have wi1 : IntKind.i64.wrap ((i : Int) + 1) = ((i + 1 : Nat) : Int) := wrapS hlt' (by omega)
  simp only [pwA, if_true, if_false, eq_self, nm_eq, reduceCtorEq, ↓reduceIte, nQ10, nQ7, nQ11, nQ12, nQ16, nQ17, nQ18, iQ2, iQ3, iQ4, iQ5, iQ6, lQ19, iQ7, lQ20, z4, z5, z6, wi1]
  clear z4 z5 z6 f1 f3 l3 l0 l1 l2 y1 y2
  refine vp_abs 2 (fun e h => ∃ (vR : PV) (cells : List PV) (b0 : PV), e = PEnv.mk [1, 2, 4, 5, 6, 7, 8, 9, 10, 48] [vU, .ptr σ.next 0, .ptr (σ.next + 1) 0, .fz wo ao m (pis (lftI u W.length)), .ptr (σ.next + 4) 0, .int .i64 i, .int .i64 (lf u W.length i), vR, .int .i64 m, b0] ∧ Keep h4 h ∧ PSl h4.next 1 h vR (m - 1 - i) cells ∧ All2 FI cells (qRs p W B u W.length i (m - 1 - i))) (fun Q hQ => ?_) ?_
  rotate_left
  · as_aux_lemma =>
    rintro e h9 ⟨vR, cells, b0, rfl, k9, p9, hcl⟩
    have a9 := a3.keepI k9
    obtain ⟨t, cap, rfl, hf, q2, q3, q4, q5⟩ := p9
    have f2 : h9.rd1 (σ.next + 4) 2 = some vC := by rw [obj_rd1 a9.obj]; rfl
    have hn9 : ¬ σ.next + 4 = h9.next := by have := a9.p0b.2; omega
    have hone3 : ∀ f, f ∈ [(v3, cP ++ [v2]), (vC, cC)] → f.1.one = true := fun f hf => (a9.acc f hf).one
    have hct : cells.length = m - 1 - i := by omega
    have a10 := SU.more (q := ⟨t, cap, cells⟩) a9 ⟨by rw [hct]; exact hf, q2, by have := a3.keep.next; show T.next ≤ t; omega, q5⟩ ⟨by have := a3.p0b.2; show t ≠ σ.next + 4; omega, fun f hf off l c e => by
      have := psl_lt (a3.acc f hf) e
      have : t < h4.next := this
      omega⟩
    simp only [pwA, if_true, if_false, eq_self, nm_eq, reduceCtorEq, ↓reduceIte, nQ10, nQ7, nQ11, nQ12, nQ16, nQ17, nQ18, iQ2, iQ3, iQ4, iQ5, iQ6, lQ19, iQ7, lQ20, f2, hn9]
    refine SU.push a10 (j := 1) (bytes := 24) rfl (by omega) (by omega) hone3 fun v5 h5 z1 z2 z3 a5 => ?_
    simp only [List.set_cons_zero, List.set_cons_succ, List.map_cons, List.map_nil] at z3 a5
    generalize h5.set (σ.next + 4) [.int .i64 p, v3, v5] = h6 at *
    simp only [pwA, if_true, if_false, eq_self, nm_eq, reduceCtorEq, ↓reduceIte, nQ10, nQ7, nQ11, nQ12, nQ16, nQ17, nQ18, iQ2, iQ3, iQ4, iQ5, iQ6, lQ19, iQ7, lQ20, z1, z2, z3, wrapS hlt' (by omega : m ≤ 4611686018427387904)]
    refine ⟨_, by omega, i + 1, v3, v5, _, _, ls ++ [⟨t, cap, cells⟩], by omega, rfl, rfl, a5, ?_, ?_, ?_⟩
    · rw [qWs_succ]; exact hcP.snoc hv2
    · rw [hcC, List.map_append]; simp only [List.map_cons, List.map_nil, LS.pv]; rw [hct]
    · rw [qBs_succ, hqR]; exact hcR.snoc hcl
  as_aux_lemma =>
  refine vp_loop (fun mm us h => ∃ (k : Nat) (vR : PV) (cells : List PV), i + (1 + k) ≤ m ∧ mm = m - (i + (1 + k)) ∧ us = [vU, .ptr σ.next 0, .ptr (σ.next + 1) 0, .fz wo ao m (pis (lftI u W.length)), .ptr (σ.next + 4) 0, .int .i64 i, .int .i64 (lf u W.length i), vR, .int .i64 ((i + (1 + k) : Nat) : Int)] ∧ Keep h4 h ∧ PSl h4.next 1 h vR k cells ∧ All2 FI cells (qRs p W B u W.length i k)) (m - (i + 1)) ⟨0, _, [], by omega, rfl, rfl, keep_new _ _, PSl.new _ 1 rfl (Nat.le_refl _), All2.nil _⟩ ?_
  rintro mm us h7 ⟨k, vR, cells, hk7, rfl, rfl, k7, p7, hcl⟩
  obtain ⟨l3, l0, l1, l2⟩ := ld (a3.keepI k7).keep
  simp only [pwA, if_true, if_false, eq_self, nm_eq, reduceCtorEq, ↓reduceIte, nQ10, nQ7, nQ11, nQ12, nQ16, nQ17, nQ18, iQ2, iQ3, iQ4, iQ5, iQ6, lQ19, iQ7, lQ20]
  refine iteI (fun hltj => ?_) fun hgej => ?_
  rotate_left
  · have hke : k = m - 1 - i := by omega
    subst hke
    exact hQ _ _ ⟨vR, cells, _, by rw [show ((i + (1 + (m - 1 - i)) : Nat) : Int) = (m : Int) by omega], k7, p7, hcl⟩
  have hj : i + (1 + k) < m := by omega
  have hlj := hls (i + (1 + k)) hj
  have hlgj := hlg (i + (1 + k)) hj
  have hll := hlt2 i (i + (1 + k)) (by omega) hj
  have hiB : lf u W.length i < B.length := by omega
  have he := (qE_el q hll hlj).1
  obtain ⟨hkb, hqe⟩ := qE_get q hll hlj hiB
  obtain ⟨w6, a6, rs6, hr6, hrs6⟩ := hrb.rowL hiB
  obtain ⟨w7, a7, hr7⟩ := hrs6.rowI hkb
  generalize hli2 : lf u W.length i = x at *
  generalize hlj2 : lf u W.length (i + (1 + k)) = y at *
  have e1 : IntKind.i64.wrap ((y : Int) - (x : Int)) = ((y - x : Nat) : Int) := by rw [wrap64 (by omega) (by omega)]; omega
  have e2 : IntKind.i64.wrap (((y - x : Nat) : Int) - 1) = ((y - x - 1 : Nat) : Int) := by rw [wrap64 (by omega) (by omega)]; omega
  have hk10 : k ≤ 10 := by omega
  simp only [pwA, if_true, if_false, eq_self, nm_eq, reduceCtorEq, ↓reduceIte, nQ10, nQ7, nQ11, nQ12, nQ16, nQ17, nQ18, iQ2, iQ3, iQ4, iQ5, iQ6, lQ19, iQ7, lQ20, l3, l2, hj, hlgj, hlI, hiB, hr6, e1, e2, hkb, hr7]
  refine l32Image_ok hR0 o hU hb (x := qE B x y) (by rw [hqe]; exact ⟨w7, a7, rfl⟩) he fun v8 hv8 => ?_
  have y1 := hv8.one
  have y2 := hv8.cells
  simp only [pwA, if_true, if_false, eq_self, nm_eq, reduceCtorEq, ↓reduceIte, nQ10, nQ7, nQ11, nQ12, nQ16, nQ17, nQ18, iQ2, iQ3, iQ4, iQ5, iQ6, lQ19, iQ7, lQ20, y1, y2]
  refine PSl.push (bytes := 24) (σb := h4) k7 p7 (by omega) (by omega) fun v9 h8 k8 p8 => ?_
  have e5 : IntKind.i64.wrap (((i + (1 + k) : Nat) : Int) + 1) = ((i + (1 + (k + 1)) : Nat) : Int) := by rw [wrap64 (by omega) (by omega)]; omega
  simp only [pwA, if_true, if_false, eq_self, nm_eq, reduceCtorEq, ↓reduceIte, nQ10, nQ7, nQ11, nQ12, nQ16, nQ17, nQ18, iQ2, iQ3, iQ4, iQ5, iQ6, lQ19, iQ7, lQ20, e5]
  refine ⟨_, by omega, k + 1, v9, _, by omega, rfl, rfl, k8, p8, ?_⟩
  rw [qRs_succ, show i + 1 + k = i + (1 + k) by omega, hli2, hlj2]
  exact hcl.snoc hv8
theorem LieQuotient_S (d : Idl p W.length W B u) (hl : isLie p W B) (hR : IsR vP vB W B) (szr : SzR W B) (hU : FII vU u) (hk : ∀ vQ vC, IsR vQ vC (qW p W u W.length) (qB p W B u W.length) → K (.tup [.agg [.int .i64 p, vQ, vC], .int .i64 0]) σ) : PCalls Tryz.prog 55 [.agg [.int .i64 p, vP, vB], vU] σ K := by
  have h1 := hR.P.one
  have h2 := hR.B.one
  have o := hl.1.w
  have hn6 := o.le
  have hb := d.c.base
  have hul := d.c.len
  have sp : isSpan p W u := ⟨d.c.els, d.c⟩
  refine PCalls.gh ?_
  generalize hT : (σ.new [.int .i64 p, vP, vB]).new [.int .i64 0, .fz true .nils 0 [], .fz true .nils 0 []] = T
  have hkT : Keep σ T := by rw [← hT]; exact (keep_new σ _).new _
  have hr3 : T.rd σ.next 0 3 = some [.int .i64 p, vP, vB] := by rw [← hT]; simp only [pwA, if_true, if_false, eq_self, nm_eq, reduceCtorEq, ↓reduceIte, nQ10, nQ7, nQ11, nQ12, nQ16, nQ17, nQ18, iQ2, iQ3, iQ4, iQ5, iQ6, lQ19, iQ7, lQ20]
  have hob : T.obj (σ.next + 1) = some [.int .i64 0, .fz true .nils 0 [], .fz true .nils 0 []] := by rw [← hT]; simp only [pwA, if_true, if_false, eq_self, nm_eq, reduceCtorEq, ↓reduceIte, nQ10, nQ7, nQ11, nQ12, nQ16, nQ17, nQ18, iQ2, iQ3, iQ4, iQ5, iQ6, lQ19, iQ7, lQ20]
  refine pcalls_of_vp mix Tryz.func55 cf55 rfl ?_
  dsimp only [if55, qI, eI, nI, qD, eD]
  simp only [pwA, if_true, if_false, eq_self, nm_eq, reduceCtorEq, ↓reduceIte, nQ10, nQ7, nQ11, nQ12, nQ16, nQ17, nQ18, iQ2, iQ3, iQ4, iQ5, iQ6, lQ19, iQ7, lQ20, h1, h2]
  rw [hT]
  simp only [pwA, if_true, if_false, eq_self, nm_eq, reduceCtorEq, ↓reduceIte, nQ10, nQ7, nQ11, nQ12, nQ16, nQ17, nQ18, iQ2, iQ3, iQ4, iQ5, iQ6, lQ19, iQ7, lQ20, hr3]
  refine IsLieSpan_S hR szr hU (szl_els o sp.1 (by omega)) fun t ht => ?_
  obtain rfl : t = true := ht.2 ⟨hl, sp⟩
  simp only [pwA, if_true, if_false, eq_self, nm_eq, reduceCtorEq, ↓reduceIte, nQ10, nQ7, nQ11, nQ12, nQ16, nQ17, nQ18, iQ2, iQ3, iQ4, iQ5, iQ6, lQ19, iQ7, lQ20, hr3]
  refine l32IsIdeal_ok hR o hl.1.b hl.1.1 hU hb fun t ht => ?_
  obtain rfl : t = true := ht.2 d.isId
  simp only [pwA, if_true, if_false, eq_self, nm_eq, reduceCtorEq, ↓reduceIte, nQ10, nQ7, nQ11, nQ12, nQ16, nQ17, nQ18, iQ2, iQ3, iQ4, iQ5, iQ6, lQ19, iQ7, lQ20, hr3]
  refine l32Quotient_ok d hR hU fun vQ vC hQ => ?_
  have x1 : T.wr (σ.next + 1) 0 [.int .i64 p, vQ, vC] = some (T.set (σ.next + 1) [.int .i64 p, vQ, vC]) := by rw [obj_wr hob, if_pos ⟨by simp, by simp only [List.all_cons, List.all_nil, hQ.P.one, hQ.B.one]; rfl⟩]; rfl
  have x2 : (T.set (σ.next + 1) [.int .i64 p, vQ, vC]).rd (σ.next + 1) 0 3 = some [.int .i64 p, vQ, vC] := by rw [prd_set, if_pos rfl]; rfl
  simp only [pwA, if_true, if_false, eq_self, nm_eq, reduceCtorEq, ↓reduceIte, nQ10, nQ7, nQ11, nQ12, nQ16, nQ17, nQ18, iQ2, iQ3, iQ4, iQ5, iQ6, lQ19, iQ7, lQ20, x1, x2]
  exact Gh.fin0 (hkT.set (by omega) _) ⟨⟨trivial, hQ.P.bel _, hQ.B.bel _, trivial⟩, trivial, trivial⟩ (hk vQ vC hQ)
end Go.Proofs
namespace Go.Proofs
open Go.Ab Go.Lie
variable {σ H h : PHeap} {K : PV → PHeap → Prop} {p : Int} {n : Nat} {W : List (List Int)} {B : List (List (List Int))} {vP vB vU : PV} {u : List (List Int)}
theorem zeroRing0_ok (hk : K (.agg [.int .i64 p, .fz true .nils 0 [], .fz true .nils 0 []]) σ) : PCalls Tryz.prog 138 [.int .i64 p, .int .i64 0] σ K := by
  refine PCalls.gh ?_
  refine pcalls_of_vp mix Tryz.func138 cf138 rfl ?_
  dsimp only [if138, qI, eI, nI, qD, eD]
  simp only [pwA, if_true, if_false, eq_self, nm_eq, reduceCtorEq, ↓reduceIte, nQ10, nQ7, nQ11, nQ12, nQ16, nQ17, nQ18, iQ2, iQ3, iQ4, iQ5, iQ6, lQ19, iQ7, lQ20]
  refine vp_loop (fun m us h' => us = [.int .i64 0, .ptr σ.next 0, .ptr (σ.next + 1) 0, .int .i64 0, .int .i64 0] ∧ h' = (σ.new [.int .i64 0, .fz true .nils 0 [], .fz true .nils 0 []]).new [.int .i64 p, .fz true .nils 0 [], .fz true .nils 0 []]) 0 ⟨rfl, rfl⟩ ?_
  rintro m us h' ⟨rfl, rfl⟩
  have q3 : ((σ.new [.int .i64 0, .fz true .nils 0 [], .fz true .nils 0 []]).new [.int .i64 p, .fz true .nils 0 [], .fz true .nils 0 []]).rd (σ.next + 1) 0 3 = some [.int .i64 p, .fz true .nils 0 [], .fz true .nils 0 []] := by simp only [pwA, if_true, if_false, eq_self, nm_eq, reduceCtorEq, ↓reduceIte, nQ10, nQ7, nQ11, nQ12, nQ16, nQ17, nQ18, iQ2, iQ3, iQ4, iQ5, iQ6, lQ19, iQ7, lQ20]
  have hob : ((σ.new [.int .i64 0, .fz true .nils 0 [], .fz true .nils 0 []]).new [.int .i64 p, .fz true .nils 0 [], .fz true .nils 0 []]).obj σ.next = some [.int .i64 0, .fz true .nils 0 [], .fz true .nils 0 []] := by simp only [pwA, if_true, if_false, eq_self, nm_eq, reduceCtorEq, ↓reduceIte, nQ10, nQ7, nQ11, nQ12, nQ16, nQ17, nQ18, iQ2, iQ3, iQ4, iQ5, iQ6, lQ19, iQ7, lQ20]
  have hkp : Keep σ ((σ.new [.int .i64 0, .fz true .nils 0 [], .fz true .nils 0 []]).new [.int .i64 p, .fz true .nils 0 [], .fz true .nils 0 []]) := (keep_new σ _).new _
  generalize (σ.new [.int .i64 0, .fz true .nils 0 [], .fz true .nils 0 []]).new [.int .i64 p, .fz true .nils 0 [], .fz true .nils 0 []] = H at *
  have hwr : H.wr σ.next 0 [.int .i64 p, .fz true .nils 0 [], .fz true .nils 0 []] = some (H.set σ.next [.int .i64 p, .fz true .nils 0 [], .fz true .nils 0 []]) := by
    rw [obj_wr hob, if_pos ⟨by simp, rfl⟩]; rfl
  have hrd : (H.set σ.next [.int .i64 p, .fz true .nils 0 [], .fz true .nils 0 []]).rd σ.next 0 3 = some [.int .i64 p, .fz true .nils 0 [], .fz true .nils 0 []] := by rw [prd_set, if_pos rfl]; rfl
  simp only [pwA, if_true, if_false, eq_self, nm_eq, reduceCtorEq, ↓reduceIte, nQ10, nQ7, nQ11, nQ12, nQ16, nQ17, nQ18, iQ2, iQ3, iQ4, iQ5, iQ6, lQ19, iQ7, lQ20, q3, hwr, hrd]
  exact Gh.fin0 (hkp.set (Nat.le_refl _) _) ⟨trivial, trivial, trivial, trivial⟩ hk
theorem LieQuotient_F (d : Idl p W.length W B u) (hl : isLie p W B) (hR : IsR vP vB W B) (szr : SzR W B) (hU : FII vU u) (hk : ∀ vQ vC t, IsR vQ vC (qW p W u W.length) (qB p W B u W.length) → Own σ.top t (.agg [.int .i64 p, vQ, vC]) → σ.top ≤ t → K (.tup [.agg [.int .i64 p, vQ, vC], .int .i64 0]) (σ.up t)) : PCalls Tryz.prog 54 [.agg [.int .i64 p, vP, vB], vU] σ K := by
  have h1 := hR.P.one
  have h2 := hR.B.one
  have o := d.o
  have q := d.q
  have hb := d.c.base
  have hn6 := o.le
  have hul := d.c.len
  have sp : isSpan p W u := ⟨d.c.els, d.c⟩
  have hml := lft_le u W.length
  have hBl := q.len
  have hpb := hl.1.1.bd
  have hR0 := hR
  obtain ⟨⟨wp, ap, rp, rfl, hrp⟩, wb, ab, rb, rfl, hrb⟩ := hR
  refine PCalls.gh ?_
  generalize hT0 : (σ.new [.int .i64 p, .fz wp ap W.length rp, .fz wb ab B.length rb]).new [.int .i64 0, .fz true .nils 0 [], .fz true .nils 0 []] = T0
  have hT0n : T0.next = σ.next + 2 := by rw [← hT0]; rfl
  have hob0 : T0.obj σ.next = some [.int .i64 p, .fz wp ap W.length rp, .fz wb ab B.length rb] := by rw [← hT0]; simp only [pwA, if_true, if_false, eq_self, nm_eq, reduceCtorEq, ↓reduceIte, nQ10, nQ7, nQ11, nQ12, nQ16, nQ17, nQ18, iQ2, iQ3, iQ4, iQ5, iQ6, lQ19, iQ7, lQ20]
  have hobR0 : T0.obj (σ.next + 1) = some [.int .i64 0, .fz true .nils 0 [], .fz true .nils 0 []] := by rw [← hT0]; simp only [pwA, if_true, if_false, eq_self, nm_eq, reduceCtorEq, ↓reduceIte, nQ10, nQ7, nQ11, nQ12, nQ16, nQ17, nQ18, iQ2, iQ3, iQ4, iQ5, iQ6, lQ19, iQ7, lQ20]
  have hT0t : T0.top = σ.top := by rw [← hT0]; rfl
  have hkT0 : Keep σ T0 := by rw [← hT0]; exact (keep_new σ _).new _
  refine pcalls_of_vp mix Tryz.func54 cf54 rfl ?_
  dsimp only [if54, qI, eI, nI, qD, eD]
  simp only [pwA, if_true, if_false, eq_self, nm_eq, reduceCtorEq, ↓reduceIte, nQ10, nQ7, nQ11, nQ12, nQ16, nQ17, nQ18, iQ2, iQ3, iQ4, iQ5, iQ6, lQ19, iQ7, lQ20, h1, h2, hU.one, hU.cells]
  rw [hT0]
  refine PCalls.frz (s := σ.next + 2) (cs := [vU]) (by rw [pobj_new, if_pos hT0n.symm]) ⟨hU.bel 0, trivial⟩ fun o1 => ?_
  have hkT1 : Keep T0 ((T0.new [vU]).kill (σ.next + 2)) := (keep_new T0 _).kill (by omega)
  have hTn : ((T0.new [vU]).kill (σ.next + 2)).next = σ.next + 3 := by show T0.next + 1 = _; omega
  have hTt : ((T0.new [vU]).kill (σ.next + 2)).top = σ.top := hT0t
  have hTob : ((T0.new [vU]).kill (σ.next + 2)).obj σ.next = some [.int .i64 p, .fz wp ap W.length rp, .fz wb ab B.length rb] := by rw [hkT1.obj _ (by omega)]; exact hob0
  have hTobR : ((T0.new [vU]).kill (σ.next + 2)).obj (σ.next + 1) = some [.int .i64 0, .fz true .nils 0 [], .fz true .nils 0 []] := by rw [hkT1.obj _ (by omega)]; exact hobR0
  have hneT : ¬ σ.next = σ.next + 2 := by omega
  simp only [sbs, sb, capOK, and_self, if_true, decide_true, Nat.le_refl, hneT, false_and, if_false]
  have hkT : Keep σ ((T0.new [vU]).kill (σ.next + 2)) := hkT0.trans hkT1
  generalize (T0.new [vU]).kill (σ.next + 2) = T at *
  have hs : PtrR T σ.next p (.fz wp ap W.length rp) (.fz wb ab B.length rb) := ⟨hTob, by omega⟩
  have hO3 : ∀ {g : PHeap} {u0 u1 u2 : PV}, Keep T g → u0.one = true → u1.one = true → u2.one = true → g.wr (σ.next + 1) 0 [u0, u1, u2] = some (g.set (σ.next + 1) [u0, u1, u2]) ∧ (g.set (σ.next + 1) [u0, u1, u2]).rd (σ.next + 1) 0 3 = some [u0, u1, u2] := fun {g u0 u1 u2} k z0 z1 z2 => by
    have hres : g.obj (σ.next + 1) = some [.int .i64 0, .fz true .nils 0 [], .fz true .nils 0 []] := by rw [k.obj _ (by omega)]; exact hTobR
    exact ⟨by rw [obj_wr hres, if_pos ⟨by simp, by simp only [List.all_cons, List.all_nil, z0, z1, z2]; rfl⟩]; rfl, by rw [prd_set, if_pos rfl]; rfl⟩
  have rO : ∀ {g : PHeap}, Keep T g → g.rd1 σ.next 0 = some (.int .i64 p) ∧ g.rd1 σ.next 1 = some (.fz wp ap W.length rp) ∧ g.rd1 σ.next 2 = some (.fz wb ab B.length rb) := fun {g} k => by
    have := hTob
    rw [← k.obj _ (by omega)] at this
    exact ⟨by rw [obj_rd1 this]; rfl, by rw [obj_rd1 this]; rfl, by rw [obj_rd1 this]; rfl⟩
  refine areLieSpans_ok (us := [u]) hs hR0 szr ((All2.nil FII).snoc hU) (by simp) (by simp) (fun x hx => by rw [List.mem_singleton.1 hx]; exact szl_els o sp.1 (by omega)) fun t ht => ?_
  obtain rfl : t = true := ht.2 ⟨hl, fun x hx => by rw [List.mem_singleton.1 hx]; exact sp⟩
  simp only [pwA, if_true, if_false, eq_self, nm_eq, reduceCtorEq, ↓reduceIte, nQ10, nQ7, nQ11, nQ12, nQ16, nQ17, nQ18, iQ2, iQ3, iQ4, iQ5, iQ6, lQ19, iQ7, lQ20]
  refine wholeLie_ok hs hR0.P rfl (by omega) fun vW hW => ?_
  simp only [pwA, if_true, if_false, eq_self, nm_eq, reduceCtorEq, ↓reduceIte, nQ10, nQ7, nQ11, nQ12, nQ16, nQ17, nQ18, iQ2, iQ3, iQ4, iQ5, iQ6, lQ19, iQ7, lQ20]
  refine bracketsIn_ok hs hR0 o q hU hW hU sp.1 (units_els o.pr) (by omega) (by rw [units_length]; omega) hb fun t ht => ?_
  obtain rfl : t = true := ht.2 d.isId
  simp only [pwA, if_true, if_false, eq_self, nm_eq, reduceCtorEq, ↓reduceIte, nQ10, nQ7, nQ11, nQ12, nQ16, nQ17, nQ18, iQ2, iQ3, iQ4, iQ5, iQ6, lQ19, iQ7, lQ20]
  refine otherDepths_ok hs hR0.P o hU hb fun vO hO => ?_
  obtain ⟨wo, ao, rfl⟩ := hO
  have hlI := lftI_length (u := u) (n := W.length)
  have hqW : qW p W u W.length = qWs p W u W.length (lft u W.length).length := rfl
  have hqB : qB p W B u W.length = qBs p W B u W.length (lft u W.length).length := rfl
  have hqR : ∀ a, qR p W B u W.length a = qRs p W B u W.length a ((lft u W.length).length - 1 - a) := fun a => rfl
  have hls : ∀ a, a < (lft u W.length).length → lf u W.length a < W.length := fun a ha => (lf_spec ha).1
  have hlg : ∀ a, a < (lft u W.length).length → (pis (lftI u W.length))[a]? = some (.int .i64 (lf u W.length a)) := fun a ha => lftI_get ha
  have hlt2 : ∀ a b, a < b → b < (lft u W.length).length → lf u W.length a < lf u W.length b := fun a b h1 h2 => lf_lt h1 h2
  have himl : ∀ x, (im1 p W u W.length x).length = (lft u W.length).length := fun x => im1_length x
  have hpil : (pis (lftI u W.length)).length = (lft u W.length).length := by rw [pis_length, hlI]
  rw [hqW, hqB] at hk
  have limg : ∀ {g : PHeap} {K' : PV → PHeap → Prop} {vX : PV} {x : List Int}, Keep T g → FI vX x → El p W.length x → (∀ cap, full 1 cap (lft u W.length).length → K' (.sl g.next 0 (lft u W.length).length cap) (g.new (pis (im1 p W u W.length x)))) → PCalls Tryz.prog 139 [.ptr σ.next 0, vU, vX] g K' := fun {g K' vX x} k hx ex hk' => lieImage_sl (hs.keep k) hR0.P o hU hb hx ex hk'
  generalize hm : (lft u W.length).length = m at *
  obtain ⟨r0, r1, r2⟩ := rO (Keep.refl T)
  rcases Nat.eq_zero_or_pos m with hm0 | hpos
  · as_aux_lemma =>
    subst hm0
    simp only [pwA, if_true, if_false, eq_self, nm_eq, reduceCtorEq, ↓reduceIte, nQ10, nQ7, nQ11, nQ12, nQ16, nQ17, nQ18, iQ2, iQ3, iQ4, iQ5, iQ6, lQ19, iQ7, lQ20, r0, hlI]
    refine zeroRing0_ok ?_
    have g3 : (T.new [.int .i64 p, .fz true .nils 0 [], .fz true .nils 0 []]).rd T.next 0 3 = some [.int .i64 p, .fz true .nils 0 [], .fz true .nils 0 []] := by simp only [pwA, if_true, if_false, eq_self, nm_eq, reduceCtorEq, ↓reduceIte, nQ10, nQ7, nQ11, nQ12, nQ16, nQ17, nQ18, iQ2, iQ3, iQ4, iQ5, iQ6, lQ19, iQ7, lQ20]
    have kN : Keep T (T.new [.int .i64 p, .fz true .nils 0 [], .fz true .nils 0 []]) := keep_new T _
    simp only [pwA, if_true, if_false, eq_self, nm_eq, reduceCtorEq, ↓reduceIte, nQ10, nQ7, nQ11, nQ12, nQ16, nQ17, nQ18, iQ2, iQ3, iQ4, iQ5, iQ6, lQ19, iQ7, lQ20]
    generalize T.new [.int .i64 p, .fz true .nils 0 [], .fz true .nils 0 []] = H at *
    refine vp_loop (fun mm us h' => us = [vU, .ptr σ.next 0, .ptr (σ.next + 1) 0, .fz wo ao 0 (pis (lftI u W.length)), .ptr T.next 0, .fz wo ao 0 (pis (lftI u W.length)), .int .i64 0, .int .i64 0] ∧ H = h') 0 ⟨rfl, rfl⟩ ?_
    rintro mm us h' ⟨rfl, rfl⟩
    obtain ⟨g1, g2⟩ := hO3 kN (u0 := .int .i64 p) (u1 := .fz true .nils 0 []) (u2 := .fz true .nils 0 []) rfl rfl rfl
    simp only [pwA, if_true, if_false, eq_self, nm_eq, reduceCtorEq, ↓reduceIte, nQ10, nQ7, nQ11, nQ12, nQ16, nQ17, nQ18, iQ2, iQ3, iQ4, iQ5, iQ6, lQ19, iQ7, lQ20, g3, g1, g2]
    refine Gh.fin0T (t := σ.top) ((hkT.trans kN).set (by omega) _) (by have := kN.top; show σ.top ≤ H.top; omega) ⟨⟨trivial, trivial, trivial, trivial⟩, trivial, trivial⟩ fun _ => hk _ _ σ.top ⟨⟨true, .nils, [], rfl, All2.nil _⟩, ⟨true, .nils, [], rfl, All2.nil _⟩⟩ ⟨⟨trivial, .inl rfl, .inl rfl, trivial⟩, List.nodup_nil, fun o ho => by cases ho⟩ (Nat.le_refl _)
  simp only [pwA, if_true, if_false, eq_self, nm_eq, reduceCtorEq, ↓reduceIte, nQ10, nQ7, nQ11, nQ12, nQ16, nQ17, nQ18, iQ2, iQ3, iQ4, iQ5, iQ6, lQ19, iQ7, lQ20, r0, hlI]
  refine zeroRing_ok (p := p) hpos (by omega) fun vQ vC pc ls g1 ti hpl hll hsh => ?_
  have d1 := ti.accP.one
  have d2 := ti.accC.one
  obtain ⟨sP, capP, rfl, cP, oP, lP, bP, xP⟩ := ti.accP.pos (by omega)
  obtain ⟨sC, capC, rfl, cC, oC, lC, bC, xC⟩ := ti.accC.pos (by omega)
  rw [hpl] at cP
  rw [hll] at cC
  have tiO := ti.oO
  have tiOb := ti.sOb
  have b : BF T (g1.new [.int .i64 p, .sl sP 0 m capP, .sl sC 0 m capC]) g1.next T.next sP sC ls := by
    have hb : ∀ s, s ∈ [g1.next, T.next, sP, sC] ++ LS.slots ls → T.next ≤ s ∧ s < g1.next + 1 := fun s hs => by
      simp only [List.cons_append, List.nil_append, List.mem_cons] at hs
      have := ti.keep.next
      rcases hs with rfl | rfl | rfl | rfl | hs
      · omega
      · omega
      · omega
      · omega
      · have := ti.lt hs; omega
    refine ⟨fun s hs => hb s hs, ?_⟩
    simp only [List.cons_append, List.nil_append, List.nodup_cons, List.mem_cons, not_or]
    refine ⟨⟨by omega, by omega, by omega, fun hm => by have := (ti.lt hm).2; omega⟩, ⟨fun e => ti.neP T.next (.inr (.inr rfl)) 0 _ capP (by rw [← e]), fun e => ti.neC T.next (.inr (.inr rfl)) 0 _ capC (by rw [← e]), ti.neL.2⟩, ⟨fun e => ti.nePC sP 0 _ capP rfl 0 _ capC (by rw [e]), fun hm => ti.neP sP (.inl hm) 0 _ capP rfl⟩, fun hm => ti.neC sC (.inl hm) 0 _ capC rfl, ti.nd⟩
  have li : LI T (g1.new [.int .i64 p, .sl sP 0 m capP, .sl sC 0 m capC]) (g1.new [.int .i64 p, .sl sP 0 m capP, .sl sC 0 m capC]) g1.next T.next sP sC (.int .i64 p) capP capC m [.int .i64 p, .sl sP 0 pc.length capP, .sl sC 0 ls.length capC] pc ls [] [] [] := by
    refine ⟨ti.keep.new _, Nat.le_refl _, by rw [pobj_new, if_pos rfl], by rw [pobj_new, if_neg (by omega)]; exact tiO, by rw [pobj_new, if_neg (by omega)]; simpa using oP, by rw [pobj_new, if_neg (by omega)]; exact oC, fun j q hq => ?_, fun q hq => (by simp at hq), by simp [slotsR]⟩
    have := (ti.ok q (List.mem_of_getElem? hq))
    rw [pobj_new, if_neg (by have := this.2.2.2; omega), this.2.1]
    unfold cont
    simp
  rw [hpl, hll]
  rw [hpl, hll] at li
  simp only [pwA, if_true, if_false, eq_self, nm_eq, reduceCtorEq, ↓reduceIte, nQ10, nQ7, nQ11, nQ12, nQ16, nQ17, nQ18, iQ2, iQ3, iQ4, iQ5, iQ6, lQ19, iQ7, lQ20]
  clear oP oC lP lC bP bC tiO tiOb
  generalize g1.new [.int .i64 p, .sl sP 0 m capP, .sl sC 0 m capC] = H at *
  generalize g1.next = tp at *
  have hpt := hs.lt
  refine vp_loop (fun mm us h => ∃ (i : Nat) (rows : List SR) (Rs : List (List SR)), i ≤ m ∧ mm = m - i ∧ us = [vU, .ptr σ.next 0, .ptr (σ.next + 1) 0, .fz wo ao m (pis (lftI u W.length)), .ptr tp 0, .fz wo ao m (pis (lftI u W.length)), .int .i64 m, .int .i64 i] ∧ LI T H h tp T.next sP sC (.int .i64 p) capP capC m [.int .i64 p, .sl sP 0 m capP, .sl sC 0 m capC] pc ls rows Rs [] ∧ rows.length = i ∧ Rs.length = i ∧ rows.map SR.x = qWs p W u W.length i ∧ Rs.map (fun R => R.map SR.x) = qBs p W B u W.length i) m ⟨0, [], [], by omega, by omega, rfl, li, rfl, rfl, rfl, rfl⟩ ?_
  as_aux_lemma =>
  rintro mm us h ⟨i, rows, Rs, hi, rfl, rfl, a, hrl, hRl, hrv, hRv⟩
  obtain ⟨p0, p1, p2⟩ := rO a.keep
  have f1 : h.rd1 tp 1 = some (.sl sP 0 m capP) := by rw [obj_rd1 a.tpo]; rfl
  have f2 : h.rd1 tp 2 = some (.sl sC 0 m capC) := by rw [obj_rd1 a.tpo]; rfl
  have f3 : h.rd tp 0 3 = some [.int .i64 p, .sl sP 0 m capP, .sl sC 0 m capC] := by rw [obj_rd a.tpo]; rfl
  simp only [pwA, if_true, if_false, eq_self, nm_eq, reduceCtorEq, ↓reduceIte, nQ10, nQ7, nQ11, nQ12, nQ16, nQ17, nQ18, iQ2, iQ3, iQ4, iQ5, iQ6, lQ19, iQ7, lQ20]
  refine iteI (fun hlt => ?_) fun hge => ?_
  rotate_left
  · as_aux_lemma =>
    have hie : i = m := by omega
    rw [hie] at hrl hRl hrv hRv
    obtain ⟨g1, g2⟩ := hO3 a.keep (u0 := .int .i64 p) (u1 := .sl sP 0 m capP) (u2 := .sl sC 0 m capC) rfl rfl rfl
    simp only [pwA, if_true, if_false, eq_self, nm_eq, reduceCtorEq, ↓reduceIte, nQ10, nQ7, nQ11, nQ12, nQ16, nQ17, nQ18, iQ2, iQ3, iQ4, iQ5, iQ6, lQ19, iQ7, lQ20, f3, g1, g2]
    have hf : Fits ls Rs := by
      refine ⟨by omega, fun j o' R ho hR => ?_⟩
      obtain ⟨hj, hje⟩ := List.getElem?_eq_some_iff.1 ho
      obtain ⟨hj2, hje2⟩ := List.getElem?_eq_some_iff.1 hR
      have hRl2 : R.length = m - 1 - j := by
        have e := congrArg (fun L => L[j]?) hRv
        simp only [List.getElem?_map, hR, Option.map_some] at e
        unfold qBs at e
        rw [List.getElem?_map, List.getElem?_range (by omega)] at e
        simp only [Option.map_some, Option.some.injEq] at e
        have := congrArg List.length e
        rw [hqR] at this
        simpa [qRs] using this
      obtain ⟨s1, s2⟩ := hsh j hj
      rw [hje] at s1 s2
      by_cases e : j + 1 = m
      · rw [s1 e]; exact List.eq_nil_of_length_eq_zero (by omega)
      · obtain ⟨q, e1, e2⟩ := s2 (by omega)
        rw [e1]; show R.length = _; omega
    have fin := LI.finR (K := K) (p := p) (Y := [.int .i64 p, .sl sP 0 m capP, .sl sC 0 m capC]) (res := σ.next + 1) (capP := capP) (capC := capC) hkT ⟨by omega, by omega⟩ (by rw [hrl]; exact cP) (by rw [hRl]; exact cC) (by omega) (fun q hq => (ti.ok q hq).1) b a hf fun vQ vC t h2 h3 h4 h5 => hk vQ vC t ⟨by rw [← hrv]; exact h2, by rw [← hRv]; exact h3⟩ h4 h5
    rw [hrl, hRl] at fin
    exact fin
  have hlt' : i < m := by omega
  have hne : ¬ tp = h.next := by have := (b.b tp (by simp)).2; have := a.nx; omega
  have hns : ¬ σ.next = h.next := by have := a.keep.next; omega
  have hli := hls i hlt'
  have hlgi := hlg i hlt'
  have hw := (W_el o hli).1
  have hwe : W.getD (lf u W.length i) [] = W[lf u W.length i] := getD_row hli
  obtain ⟨w4, a4, hr4⟩ := hrp.rowI hli
  simp only [pwA, if_true, if_false, eq_self, nm_eq, reduceCtorEq, ↓reduceIte, nQ10, nQ7, nQ11, nQ12, nQ16, nQ17, nQ18, iQ2, iQ3, iQ4, iQ5, iQ6, lQ19, iQ7, lQ20, hlt', hlgi, hlI, f1, p1, hli, hr4]
  refine limg a.keep (x := W.getD (lf u W.length i) []) (by rw [hwe]; exact ⟨w4, a4, rfl⟩) hw fun cap1 hc1 => ?_
  have hxl := himl (W.getD (lf u W.length i) [])
  have a9 := a
  obtain ⟨u1, a2⟩ := LI.putP b a (x := im1 p W u W.length (W.getD (lf u W.length i) [])) (cap := cap1) (by rw [hxl]; exact hc1) (by omega)
  rw [hrl, hxl] at u1
  rw [hrl] at a2
  have aN := a.keepI b (keep_new h (pis (im1 p W u W.length (W.getD (lf u W.length i) []))))
  have f1n : (h.new (pis (im1 p W u W.length (W.getD (lf u W.length i) [])))).rd1 tp 1 = some (.sl sP 0 m capP) := by rw [obj_rd1 aN.tpo]; rfl
  obtain ⟨p0n, p1n, p2n⟩ := rO aN.keep
  have hv2 : (rows ++ [(⟨h.next, cap1, im1 p W u W.length (W.getD (lf u W.length i) [])⟩ : SR)]).map SR.x = qWs p W u W.length (i + 1) := by
    rw [List.map_append, hrv, qWs_succ]; rfl
  have hr2 : (rows ++ [(⟨h.next, cap1, im1 p W u W.length (W.getD (lf u W.length i) [])⟩ : SR)]).length = i + 1 := by rw [List.length_append, hrl]; rfl
  generalize h.new (pis (im1 p W u W.length (W.getD (lf u W.length i) []))) = hN at *
  generalize rows ++ [(⟨h.next, cap1, im1 p W u W.length (W.getD (lf u W.length i) [])⟩ : SR)] = rows2 at *
  clear f1 f2 f3 p0 p1 p2 hrv hrl a9
  generalize hN.set sP (rows2.map SR.pv ++ pc.drop (i + 1)) = h0 at *
  have lC : ∀ {g : PHeap} {cur : List SR}, LI T H g tp T.next sP sC (.int .i64 p) capP capC m [.int .i64 p, .sl sP 0 m capP, .sl sC 0 m capC] pc ls rows2 Rs cur → g.rd1 tp 2 = some (.sl sC 0 m capC) ∧ g.rd1 sC i = some (LS.pvo (ls[i]'(by omega))) := fun {g cur} l => by
    refine ⟨by rw [obj_rd1 l.tpo]; rfl, ?_⟩
    rw [obj_rd1 l.oC, List.getElem?_map, List.getElem?_eq_getElem (by omega)]; rfl
  obtain ⟨s1, s2⟩ := hsh i (by omega)
  have ew1 : IntKind.i64.wrap ((i : Int) + 1) = ((i + 1 : Nat) : Int) := by rw [wrap64 (by omega) (by omega)]; omega
  have hle1 : i + 1 ≤ m := hlt'
  have hdrop : ((pis (lftI u W.length)).drop (i + 1)).take (m - (i + 1)) = (pis (lftI u W.length)).drop (i + 1) := List.take_of_length_le (by rw [List.length_drop, hpil]; exact Nat.le_refl _)
  simp only [pwA, if_true, if_false, eq_self, nm_eq, reduceCtorEq, ↓reduceIte, nQ10, nQ7, nQ11, nQ12, nQ16, nQ17, nQ18, iQ2, iQ3, iQ4, iQ5, iQ6, lQ19, iQ7, lQ20, f1n, p1n, hlt', hlI, u1, ew1, hle1, hdrop]
  clear u1 f1n p0n p1n p2n
  refine vp_abs 2 (fun e h => ∃ (cur : List SR) (b0 : PV), e = PEnv.mk [1, 2, 4, 6, 7, 8, 9, 30, 31, 32, 51, 52, 53, 54] [vU, .ptr σ.next 0, .ptr (σ.next + 1) 0, .fz wo ao m (pis (lftI u W.length)), .ptr tp 0, .int .i64 i, .int .i64 (lf u W.length i), .fz wo ao m (pis (lftI u W.length)), .int .i64 m, .int .i64 i, .fz false (pslA 1 ao (i + 1) m) (m - (i + 1)) ((pis (lftI u W.length)).drop (i + 1)), .int .i64 ((m - (i + 1) : Nat) : Int), .int .i64 ((m - (i + 1) : Nat) : Int), b0] ∧ LI T H h tp T.next sP sC (.int .i64 p) capP capC m [.int .i64 p, .sl sP 0 m capP, .sl sC 0 m capC] pc ls rows2 Rs cur ∧ cur.map SR.x = qRs p W B u W.length i (m - (i + 1))) (fun Q hQ => ?_) ?_
  rotate_left
  · as_aux_lemma =>
    rintro e h9 ⟨cur, b0, rfl, l, hcv⟩
    have hcl : cur.length = m - (i + 1) := by have := congrArg List.length hcv; simpa [qRs] using this
    have l2 := l.close (fun q' hq' => by
      rw [hRl] at hq'
      obtain ⟨hj, hje⟩ := List.getElem?_eq_some_iff.1 hq'
      by_cases e : i + 1 = m
      · rw [s1 e] at hje; cases hje
      · obtain ⟨q2, e1, e2⟩ := s2 (by omega)
        rw [e1] at hje; cases hje; omega)
    simp only [pwA, if_true, if_false, eq_self, nm_eq, reduceCtorEq, ↓reduceIte, nQ10, nQ7, nQ11, nQ12, nQ16, nQ17, nQ18, iQ2, iQ3, iQ4, iQ5, iQ6, lQ19, iQ7, lQ20, wrapS hlt' (by omega : m ≤ 4611686018427387904)]
    refine ⟨_, by omega, i + 1, rows2, Rs ++ [cur], by omega, rfl, rfl, l2, hr2, by rw [List.length_append, hRl]; rfl, hv2, ?_⟩
    rw [List.map_append, hRv, qBs_succ, hqR, show m - 1 - i = m - (i + 1) by omega]
    simp only [List.map_cons, List.map_nil, hcv]
  as_aux_lemma =>
  refine vp_loop (fun mm us h => ∃ (k : Nat) (cur : List SR), k ≤ m - (i + 1) ∧ mm = m - (i + 1) - k ∧ us = [vU, .ptr σ.next 0, .ptr (σ.next + 1) 0, .fz wo ao m (pis (lftI u W.length)), .ptr tp 0, .int .i64 i, .int .i64 (lf u W.length i), .fz wo ao m (pis (lftI u W.length)), .int .i64 m, .int .i64 i, .fz false (pslA 1 ao (i + 1) m) (m - (i + 1)) ((pis (lftI u W.length)).drop (i + 1)), .int .i64 ((m - (i + 1) : Nat) : Int), .int .i64 k] ∧ LI T H h tp T.next sP sC (.int .i64 p) capP capC m [.int .i64 p, .sl sP 0 m capP, .sl sC 0 m capC] pc ls rows2 Rs cur ∧ cur.length = k ∧ cur.map SR.x = qRs p W B u W.length i k) (m - (i + 1)) ⟨0, [], by omega, by omega, rfl, a2, rfl, rfl⟩ ?_
  rintro mm us h8 ⟨k, cur, hk8, rfl, rfl, l, hcl, hcv⟩
  obtain ⟨g2, gC⟩ := lC l
  obtain ⟨p0, p1, p2⟩ := rO l.keep
  simp only [pwA, if_true, if_false, eq_self, nm_eq, reduceCtorEq, ↓reduceIte, nQ10, nQ7, nQ11, nQ12, nQ16, nQ17, nQ18, iQ2, iQ3, iQ4, iQ5, iQ6, lQ19, iQ7, lQ20]
  refine iteI (fun hltk => ?_) fun hgek => ?_
  rotate_left
  · have hke : k = m - (i + 1) := by omega
    rw [hke] at hcv
    exact hQ _ _ ⟨cur, _, by rw [hke], l, hcv⟩
  have hkn : k < m - (i + 1) := by omega
  obtain ⟨q0, e1, e2⟩ := s2 (by omega)
  have hj : i + (1 + k) < m := by omega
  have hlj := hls (i + (1 + k)) hj
  have hlgj := hlg (i + (1 + k)) hj
  have hll2 := hlt2 i (i + (1 + k)) (by omega) hj
  have hiB : lf u W.length i < B.length := by omega
  have he := (qE_el q hll2 hlj).1
  obtain ⟨hkb, hqe⟩ := qE_get q hll2 hlj hiB
  obtain ⟨w6, a6, rs6, hr6, hrs6⟩ := hrb.rowL hiB
  obtain ⟨w7, a7, hr7⟩ := hrs6.rowI hkb
  rw [e1] at gC
  have gC' : h8.rd1 sC i = some (.sl q0.s 0 q0.cs.length q0.cap) := gC
  have e3 : IntKind.i64.wrap ((lf u W.length (i + (1 + k)) : Int) - (lf u W.length i : Int)) = ((lf u W.length (i + (1 + k)) - lf u W.length i : Nat) : Int) := by rw [wrap64 (by omega) (by omega)]; omega
  have e4 : IntKind.i64.wrap (((lf u W.length (i + (1 + k)) - lf u W.length i : Nat) : Int) - 1) = ((lf u W.length (i + (1 + k)) - lf u W.length i - 1 : Nat) : Int) := by rw [wrap64 (by omega) (by omega)]; omega
  simp only [pwA, if_true, if_false, eq_self, nm_eq, reduceCtorEq, ↓reduceIte, nQ10, nQ7, nQ11, nQ12, nQ16, nQ17, nQ18, iQ2, iQ3, iQ4, iQ5, iQ6, lQ19, iQ7, lQ20, hkn, hlgj, p2, g2, gC', hlt', hiB, hr6, e3, e4, hkb, hr7]
  refine limg l.keep (x := qE B (lf u W.length i) (lf u W.length (i + (1 + k)))) (by rw [hqe]; exact ⟨w7, a7, rfl⟩) he fun cap2 hc2 => ?_
  have hxl := himl (qE B (lf u W.length i) (lf u W.length (i + (1 + k))))
  have hq0 : ls[Rs.length]? = some (some q0) := by rw [hRl, List.getElem?_eq_getElem (by omega), e1]
  obtain ⟨u1, l2⟩ := LI.putC b l (x := im1 p W u W.length (qE B (lf u W.length i) (lf u W.length (i + (1 + k))))) (cap := cap2) (by rw [hxl]; exact hc2) hq0 (by omega)
  rw [hcl, hxl] at u1
  rw [hcl] at l2
  have lN := l.keepI b (keep_new h8 (pis (im1 p W u W.length (qE B (lf u W.length i) (lf u W.length (i + (1 + k)))))))
  obtain ⟨j2, jC⟩ := lC lN
  rw [e1] at jC
  have jC' : (h8.new (pis (im1 p W u W.length (qE B (lf u W.length i) (lf u W.length (i + (1 + k))))))).rd1 sC i = some (.sl q0.s 0 q0.cs.length q0.cap) := jC
  have hcv2 : (cur ++ [(⟨h8.next, cap2, im1 p W u W.length (qE B (lf u W.length i) (lf u W.length (i + (1 + k))))⟩ : SR)]).map SR.x = qRs p W B u W.length i (k + 1) := by
    rw [List.map_append, hcv, qRs_succ, show i + 1 + k = i + (1 + k) by omega]; rfl
  have hcl2 : (cur ++ [(⟨h8.next, cap2, im1 p W u W.length (qE B (lf u W.length i) (lf u W.length (i + (1 + k))))⟩ : SR)]).length = k + 1 := by rw [List.length_append, hcl]; rfl
  generalize h8.new (pis (im1 p W u W.length (qE B (lf u W.length i) (lf u W.length (i + (1 + k)))))) = hN2 at *
  generalize cur ++ [(⟨h8.next, cap2, im1 p W u W.length (qE B (lf u W.length i) (lf u W.length (i + (1 + k))))⟩ : SR)] = cur2 at *
  generalize hN2.set q0.s (cur2.map SR.pv ++ q0.cs.drop (k + 1)) = hE at *
  have hkq : k < q0.cs.length := by omega
  simp only [pwA, if_true, if_false, eq_self, nm_eq, reduceCtorEq, ↓reduceIte, nQ10, nQ7, nQ11, nQ12, nQ16, nQ17, nQ18, iQ2, iQ3, iQ4, iQ5, iQ6, lQ19, iQ7, lQ20, j2, jC', hlt', hkq, u1, wrapS hkn (by omega : m - (i + 1) ≤ 4611686018427387904)]
  exact ⟨_, by omega, k + 1, cur2, by omega, rfl, rfl, l2, hcl2, hcv2⟩
end Go.Proofs
namespace Go.Proofs
open Go.Ab Go.Lie
theorem push_k2 {T h : PHeap} {s bytes n m : Nat} {v w x : PV} {cs ds : List PV} {K : PV × PHeap → Prop} (km : KM T s h) (a : PSl T.next 1 h v n cs) (b : PSl T.next 1 h w m ds) (dis : ∀ t off l c off' l' c', v = .sl t off l c → w ≠ .sl t off' l' c')
    (h1 : (n + 1) * bytes ≤ 140737488355328) (h2 : n + 1 ≤ 4611686018427387904) (k : ∀ v' h', KM T s h' → (∀ t, t < T.next → h'.obj t = h.obj t) → PSl T.next 1 h' v' (n + 1) (cs ++ [x]) → PSl T.next 1 h' w m ds → (∀ t off l c off' l' c', v' = .sl t off l c → w ≠ .sl t off' l' c') → K (v', h')) : optK (pappend 1 bytes (h.new [x]) v (.sl h.next 0 1 (.known 1))) K := by
  obtain ⟨σ', mv, q⟩ := km
  have hn := mv.next
  have qn := q.next
  refine PAcc.pushS (bytes := bytes) (σb := σ') q (by rw [hn]; exact a.acc) rfl h1 h2 fun v' h' k1 a1 o1 n1 l1 => ?_
  refine k v' h' ⟨σ', mv, k1⟩ (fun t ht => by rw [k1.obj t (by omega), q.obj t (by omega)]) (by rw [← hn]; exact a1) ?_ fun t off l c off' l' c' e e2 => n1 t (psl_lt b e2) off l c e
  exact psl_move b (fun t off l c e => o1 t (psl_lt b e) fun off' l' c' e' => dis t off' l' c' off l c e' e) (by omega)
structure RoJ (H h : PHeap) (sD : Nat) (vC : PV) (bs : List Int) (p : Int) (n i : Nat) (v w : PV) (xs ys : List Int) : Prop where
  km : KM H sD h
  di : Di h sD vC bs
  ex : El p i xs
  ey : El p i ys
  va : (i < n ∧ PSl H.next 1 h v i (pis xs) ∧ PSl H.next 1 h w i (pis ys) ∧ ∀ t off l c off' l' c', v = .sl t off l c → w ≠ .sl t off' l' c') ∨ (i = n ∧ FI v xs ∧ FI w ys)
theorem RoJ.fz {H h : PHeap} {sD i n : Nat} {vC v w : PV} {bs xs ys : List Int} {p : Int} (km : KM H sD h) (di : Di h sD vC bs) (hs : sD < H.next) (ex : El p i xs) (ey : El p i ys) (hi : i ≤ n) (a : PSl H.next 1 h v i (pis xs)) (b : PSl H.next 1 h w i (pis ys)) (dis : ∀ t off l c off' l' c', v = .sl t off l c → w ≠ .sl t off' l' c') {I : List PV → PHeap → Prop} {us : List PV} {pre post : List PV} (hus : us = pre ++ v :: w :: post)
    (hb : (∀ t o cs, sbs t o cs pre = pre) ∧ ∀ t o cs, sbs t o cs post = post) (k : ∀ v' w' h', RoJ H h' sD vC bs p n i v' w' xs ys → I (pre ++ v' :: w' :: post) h') : GL I us h := by
  subst hus
  by_cases e : i = n
  · obtain ⟨t, cap, rfl, q1, q2, q3, q4, q5⟩ := a
    obtain ⟨t2, cap2, rfl, g1, g2, g3, g4, g5⟩ := b
    have hne : t2 ≠ t := fun e2 => dis t 0 i cap 0 i cap2 rfl (by rw [e2])
    refine .fz t (pis xs) q2 (pis_bel _ _) fun o => ?_
    have e1 : sbs t o (pis xs) (pre ++ PV.sl t 0 i cap :: PV.sl t2 0 i cap2 :: post) = pre ++ PV.fz true (.sl o 0 i cap) i (pis xs) :: PV.sl t2 0 i cap2 :: post := by
      rw [sbs_append, hb.1]
      simp only [sbs, sb, q1.ok, and_self, if_true, hb.2, hne, false_and, if_false]
    rw [e1]
    refine .fz t2 (pis ys) (by rw [pobj_kill, if_neg hne]; exact g2) (pis_bel _ _) fun o2 => ?_
    have e2 : sbs t2 o2 (pis ys) (pre ++ PV.fz true (.sl o 0 i cap) i (pis xs) :: PV.sl t2 0 i cap2 :: post) = pre ++ PV.fz true (.sl o 0 i cap) i (pis xs) :: PV.fz true (.sl o2 0 i cap2) i (pis ys) :: post := by
      rw [sbs_append, hb.1]
      simp only [sbs, sb, g1.ok, and_self, if_true, hb.2]
    rw [e2]
    have hl := ex.1
    have hl2 := ey.1
    refine .here (k _ _ _ ⟨(km.kill q4).kill g4, di.same (by rw [pobj_kill, if_neg (by omega), pobj_kill, if_neg (by omega)]) di.lt, ex, ey, .inr ⟨e, ⟨true, .sl o 0 i cap, by rw [hl]⟩, ⟨true, .sl o2 0 i cap2, by rw [hl2]⟩⟩⟩)
  · exact .here (k _ _ _ ⟨km, di, ex, ey, .inl ⟨by omega, a, b, dis⟩⟩)
end Go.Proofs
namespace Go.Proofs.YtpcjbkbcaiphmaaGreat
open Go.ChangeShapes Go.WideShapes Go.ChangeAt Go.RowKit Go.Ab Go.Joins Go.Lie Go.Proofs
variable {H : Type} {enc : TypeId × Value → H} {W w0 : World} {j : Inj} {h : AHeap}
theorem cell8 : Tryz.prog.cellsOf 5 = 1 := by kernel_rfl
theorem lay8 : Lay1 enc Tryz.prog W 5 (fun pv (n : Int) => pv = .int .u8 n ∧ 0 ≤ n ∧ n ≤ 255) := by
  intro w0 j h held fuel v x m hx
  obtain ⟨n, hn, _, hw⟩ := DataW.trod_int Tryz.underlying5 hx
  simp only [List.cons.injEq, and_true] at hn
  subst hn
  simp only [Lit.wf, Bool.and_eq_true, decide_eq_true_eq] at hw
  have h1 : IntKind.u8.min = 0 := by rfl
  have h2 : IntKind.u8.max = 255 := by rfl
  rw [h1, h2] at hw
  exact ⟨j, h, .int .u8 n, n, m, Inj.le.refl _, Ext.refl m.wf, rfl, trivial, rfl, rfl, hw.1, hw.2⟩
theorem FL.bytes {v : PV} {xs : List Int} (h : FL (fun pv (n : Int) => pv = .int .u8 n ∧ 0 ≤ n ∧ n ≤ 255) v xs) : FB v xs := by
  obtain ⟨w, a, rows, rfl, hr⟩ := h
  refine ⟨w, a, ?_⟩
  congr 1
  apply List.ext_getElem?
  intro k
  rw [List.getElem?_map]
  rcases Nat.lt_or_ge k xs.length with x | x
  · obtain ⟨pv, h1, h2⟩ := hr.get x
    rw [h1, gi x, h2.1]; rfl
  · rw [List.getElem?_eq_none (by rw [hr.1]; exact x), List.getElem?_eq_none x]; rfl
theorem layB : Lay1 enc Tryz.prog W 22 (fun v (xs : List Int) => FB v xs ∧ ∀ b ∈ xs, 0 ≤ b ∧ b ≤ 255) := by
  intro w0 j h held fuel v x m hx
  obtain ⟨j', h', pv, a, g1, g2, g3, g4, g5, g6, g7, g8⟩ := lay_slice Tryz.underlying22 cell8 lay8 w0 j h held fuel v x m hx
  exact ⟨j', h', pv, a, g1, g2, g3, g4, g5, g6, FL.bytes g7, g7.all fun _ _ k => k.2⟩
end Go.Proofs.YtpcjbkbcaiphmaaGreat
