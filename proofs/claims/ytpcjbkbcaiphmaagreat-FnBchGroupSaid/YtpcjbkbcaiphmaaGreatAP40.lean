/- A conjugate is the sum of its terms. -/
import Derived.Test.YtpcjbkbcaiphmaaGreatAP39
import Derived.Test.YtpcjbkbcaiphmaaGreatAP38
import Derived.Test.YtpcjbkbcaiphmaaGreatAP33
open Nat renaming reduceLeDiff → nQ7, reduceEqDiff → nQ10, reduceBEq → nQ11, reduceAdd → nQ12, reduceLT → nQ16, reduceSub → nQ17, reduceMul → nQ18
open Int renaming reduceEq → iQ2, reduceLT → iQ3, reduceLE → iQ4, reduceNeg → iQ5, reduceToNat → iQ6, ofNat_le → iQ7
open List renaming reduceReplicate → lQ19, getElem?_drop → lQ20
set_option linter.unusedSimpArgs false
set_option linter.unusedVariables false
set_option linter.unusedSectionVars false
namespace Go.Proofs
open Go.Ab Go.Lie
variable {σ σ0 h h' : PHeap} {K : PV → PHeap → Prop} {vC vP vB vx vy : PV} {bs x y : List Int} {s b n r0 : Nat} {p : Int} {W : List (List Int)} {B : List (List (List Int))}
def ElV (p : Int) (W : List (List Int)) (B : List (List (List Int))) (xs : List (List Int)) (P : Prop) (val z : List Int) (c : Int) : Prop :=
  (¬ (isLie p W B ∧ Els p W.length xs) ∧ z = [] ∧ c = 1) ∨ ((isLie p W B ∧ Els p W.length xs) ∧ ¬ P ∧ z = [] ∧ c = 2) ∨ ((isLie p W B ∧ Els p W.length xs) ∧ P ∧ z = val ∧ c = 0)
theorem ElV.ok {xs : List (List Int)} {P : Prop} {val z : List Int} {c : Int} (h : ElV p W B xs P val z c) (h1 : isLie p W B) (h2 : Els p W.length xs) (h3 : P) : z = val ∧ c = 0 := by
  rcases h with ⟨g, _⟩ | ⟨_, g, _⟩ | ⟨_, _, g1, g2⟩
  · exact absurd ⟨h1, h2⟩ g
  · exact absurd h3 g
  · exact ⟨g1, g2⟩
theorem el1 (h : El p n x) : Els p n [x] := fun y hy => by rw [List.mem_singleton.1 hy]; exact h
theorem el2' (h : El p n x) (g : El p n y) : Els p n [x, y] := fun z hz => by simp at hz; rcases hz with rfl | rfl <;> assumption
theorem likeInts_ok (hx : FI vx x) (hy : FI vy y) (hl : x.length ≤ 1048576) (hk : ∀ t : Bool, (t = true ↔ x = y) → K (.bool t) σ) : PCalls Tryz.prog 16 [vx, vy] σ K := by
  obtain ⟨wx, ax, rfl⟩ := hx
  obtain ⟨wy, ay, rfl⟩ := hy
  refine pcalls_of_vp mix Tryz.func16 cf16 rfl ?_
  dsimp only [if16, qI, eI, nI, qD, eD]
  simp only [pwA, if_true, if_false, eq_self, nm_eq, reduceCtorEq, ↓reduceIte, nQ10, nQ7, nQ11, nQ12, nQ16, nQ17, nQ18, iQ2, iQ3, iQ4, iQ5, iQ6, lQ19, iQ7, lQ20]
  by_cases hxy : x.length = y.length
  rotate_left
  · have hne : ¬ (x.length : Int) = (y.length : Int) := by omega
    simp only [pwA, if_true, if_false, eq_self, nm_eq, reduceCtorEq, ↓reduceIte, nQ10, nQ7, nQ11, nQ12, nQ16, nQ17, nQ18, iQ2, iQ3, iQ4, iQ5, iQ6, lQ19, iQ7, lQ20, hne]
    exact hk false ⟨fun h => (by cases h), fun h => absurd (by rw [h]) hxy⟩
  have heq : (x.length : Int) = (y.length : Int) := by omega
  simp only [pwA, if_true, if_false, eq_self, nm_eq, reduceCtorEq, ↓reduceIte, nQ10, nQ7, nQ11, nQ12, nQ16, nQ17, nQ18, iQ2, iQ3, iQ4, iQ5, iQ6, lQ19, iQ7, lQ20, heq]
  refine vp_loop (fun m us g => ∃ i : Nat, i ≤ y.length ∧ m = y.length - i ∧ us = [.fz wx ax x.length (pis x), .fz wy ay y.length (pis y), .int .i64 i] ∧ g = σ ∧ ∀ j, j < i → x[j]? = y[j]?) y.length ⟨0, by omega, by omega, rfl, rfl, fun j hj => absurd hj (Nat.not_lt_zero _)⟩ ?_
  rintro m us g ⟨i, hi, rfl, rfl, rfl, he⟩
  simp only [pwA, if_true, if_false, eq_self, nm_eq, reduceCtorEq, ↓reduceIte, nQ10, nQ7, nQ11, nQ12, nQ16, nQ17, nQ18, iQ2, iQ3, iQ4, iQ5, iQ6, lQ19, iQ7, lQ20, heq]
  refine iteI (fun hlt => ?_) fun hge => ?_
  rotate_left
  · refine hk true ⟨fun _ => List.ext_getElem? fun j => ?_, fun _ => rfl⟩
    rcases Nat.lt_or_ge j i with e | e
    · exact he j e
    · rw [List.getElem?_eq_none (by omega), List.getElem?_eq_none (by omega)]
  have hltx : i < x.length := by omega
  have hlty : i < y.length := by omega
  have wi1 : IntKind.i64.wrap ((i : Int) + 1) = ((i + 1 : Nat) : Int) := wrapS hlty (by omega)
  simp only [pwA, if_true, if_false, eq_self, nm_eq, reduceCtorEq, ↓reduceIte, nQ10, nQ7, nQ11, nQ12, nQ16, nQ17, nQ18, iQ2, iQ3, iQ4, iQ5, iQ6, lQ19, iQ7, lQ20, pisAt hltx, pisAt hlty, hltx, hlty, wi1]
  refine iteI (fun hv => ?_) fun hv => ?_
  · refine ⟨_, by omega, i + 1, by omega, rfl, rfl, fun j hj => ?_⟩
    rcases Nat.lt_or_ge j i with e | e
    · exact he j e
    · obtain rfl : j = i := by omega
      rw [List.getElem?_eq_getElem hltx, List.getElem?_eq_getElem hlty, ← at_eq hltx, ← at_eq hlty, hv]
  · refine hk false ⟨fun h => (by cases h), fun h => absurd ?_ hv⟩
    rw [h]
theorem big_ok (hb : FB vC bs) (hk : ∀ t : Bool, (t = true ↔ 4096 < bs.length) → K (.bool t) σ) : PCalls Tryz.prog 12 [vC] σ K := by
  obtain ⟨w, a, rfl⟩ := hb
  refine pcalls_of_vp mix Tryz.func12 cf12 rfl ?_
  dsimp only [if12, qI, eI, nI, qD, eD]
  simp only [pwA, if_true, if_false, eq_self, nm_eq, reduceCtorEq, ↓reduceIte, nQ10, nQ7, nQ11, nQ12, nQ16, nQ17, nQ18, iQ2, iQ3, iQ4, iQ5, iQ6, lQ19, iQ7, lQ20]
  refine hk _ ?_
  rw [decide_eq_true_eq]
  omega
theorem has_FI (hR : IsR vP vB W B) (hx : FI vx x) (hb : x.length ≤ 1048576) (hp : okp p) (hk : ∀ t : Bool, (t = true ↔ El p W.length x) → K (.bool t) σ) : PCalls Tryz.prog 104 [.agg [.int .i64 p, vP, vB], vx] σ K := by
  obtain ⟨w, a, rfl⟩ := hx
  exact l31Has_ok hR rfl hb hp hk
theorem mix_FI {k m : Int} (hR : IsR vP vB W B) (o : OkW p n W) (ex : El p n x) (ey : El p n y) (hx : FI vx x) (hy : FI vy y) (hkb : -1000000000 ≤ k ∧ k ≤ 1000000000) (hm : -1000000000 ≤ m ∧ m ≤ 1000000000) (hk : ∀ v, FI v (norm p W (lmix k x m y)) → K v σ) : PCalls Tryz.prog 105 [.agg [.int .i64 p, vP, vB], .int .i64 k, vx, .int .i64 m, vy] σ K := by
  obtain ⟨w, a, rfl⟩ := hx
  obtain ⟨w', a', rfl⟩ := hy
  have hl := (lmix_el o ex ey (k := k) (m := m)).1
  exact l31Mix_el hR o ex ey rfl rfl hkb hm fun v => hk _ ⟨true, v, by rw [hl]⟩
theorem add_FI (o : OkW p n W) (hs : PtrR σ s p vP vB) (hP : FII vP W) (ex : El p n x) (ey : El p n y) (hx : FI vx x) (hy : FI vy y) (hk : ∀ v, FI v (ladd p W x y) → K v σ) : PCalls Tryz.prog 114 [.ptr s 0, vx, vy] σ K := by
  obtain ⟨w, a, rfl⟩ := hx
  obtain ⟨w', a', rfl⟩ := hy
  have hl := (lmix_el o ex ey (k := 1) (m := 1)).1
  exact addLie_fz hs hP o ex ey rfl rfl fun v => hk _ ⟨true, v, by rw [hl]⟩
theorem TimesLie_F {k : Int} (hR : IsR vP vB W B) (szr : SzR W B) (hx : FI vx x) (szx : x.length ≤ 1048576)
    (hk : ∀ v z c, ElV p W B [x] (-1000000 ≤ k ∧ k ≤ 1000000) (lmul p W k x) z c → FI v z → K (.tup [v, .int .i64 c]) σ) : PCalls Tryz.prog 23 [.agg [.int .i64 p, vP, vB], .int .i64 k, vx] σ K := by
  have h1 := hR.P.one
  have h2 := hR.B.one
  refine PCalls.gh ?_
  refine pcalls_of_vp mix Tryz.func23 cf23 rfl ?_
  dsimp only [if23, qI, eI, nI, qD, eD]
  simp only [pwA, if_true, if_false, eq_self, nm_eq, reduceCtorEq, ↓reduceIte, nQ10, nQ7, nQ11, nQ12, nQ16, nQ17, nQ18, iQ2, iQ3, iQ4, iQ5, iQ6, lQ19, iQ7, lQ20, h1, h2, hx.one, hx.cells]
  have hkp : Keep σ (((σ.new [.int .i64 p, vP, vB]).new [vx]).kill (σ.next + 1)) := ((keep_new σ _).new _).kill (by omega)
  refine PCalls.frz (s := σ.next + 1) (cs := [vx]) (by simp only [pwA, if_true, if_false, eq_self, nm_eq, reduceCtorEq, ↓reduceIte, nQ10, nQ7, nQ11, nQ12, nQ16, nQ17, nQ18, iQ2, iQ3, iQ4, iQ5, iQ6, lQ19, iQ7, lQ20]) ⟨hx.bel 0, trivial⟩ fun o => ?_
  simp only [sbs, sb, capOK, and_self, if_true, decide_true, Nat.le_refl]
  refine lieElements_ok (p := p) (vP := vP) (vB := vB) (xs := [x]) ⟨by simp only [pwA, if_true, if_false, eq_self, nm_eq, reduceCtorEq, ↓reduceIte, nQ10, nQ7, nQ11, nQ12, nQ16, nQ17, nQ18, iQ2, iQ3, iQ4, iQ5, iQ6, lQ19, iQ7, lQ20], by simp only [pwA, if_true, if_false, eq_self, nm_eq, reduceCtorEq, ↓reduceIte, nQ10, nQ7, nQ11, nQ12, nQ16, nQ17, nQ18, iQ2, iQ3, iQ4, iQ5, iQ6, lQ19, iQ7, lQ20]; omega⟩ hR szr (one_row hx) (SzL.one szx) fun t ht => ?_
  cases t with
  | false =>
    simp only [pwA, if_true, if_false, eq_self, nm_eq, reduceCtorEq, ↓reduceIte, nQ10, nQ7, nQ11, nQ12, nQ16, nQ17, nQ18, iQ2, iQ3, iQ4, iQ5, iQ6, lQ19, iQ7, lQ20]
    exact Gh.fin0 hkp ⟨trivial, trivial, trivial⟩ (hk _ [] 1 (.inl ⟨fun e => (by have := ht.2 e; cases this), rfl, rfl⟩) ⟨_, _, rfl⟩)
  | true =>
  obtain ⟨hl, he⟩ := ht.1 rfl
  have ex := he x (by simp)
  simp only [pwA, if_true, if_false, eq_self, nm_eq, reduceCtorEq, ↓reduceIte, nQ10, nQ7, nQ11, nQ12, nQ16, nQ17, nQ18, iQ2, iQ3, iQ4, iQ5, iQ6, lQ19, iQ7, lQ20]
  refine inside_ok ?_
  by_cases hin : -1000000 ≤ k ∧ k ≤ 1000000
  rotate_left
  · simp only [pwA, if_true, if_false, eq_self, nm_eq, reduceCtorEq, ↓reduceIte, nQ10, nQ7, nQ11, nQ12, nQ16, nQ17, nQ18, iQ2, iQ3, iQ4, iQ5, iQ6, lQ19, iQ7, lQ20, hin, decide_false]
    exact Gh.fin0 hkp ⟨trivial, trivial, trivial⟩ (hk _ [] 2 (.inr (.inl ⟨⟨hl, he⟩, hin, rfl, rfl⟩)) ⟨_, _, rfl⟩)
  have hin' : decide (-1000000 ≤ k ∧ k ≤ 1000000) = true := decide_eq_true hin
  simp only [pwA, if_true, if_false, eq_self, nm_eq, reduceCtorEq, ↓reduceIte, nQ10, nQ7, nQ11, nQ12, nQ16, nQ17, nQ18, iQ2, iQ3, iQ4, iQ5, iQ6, lQ19, iQ7, lQ20, hin']
  refine timesLie_FI (p := p) (vP := vP) (vB := vB) hl.1.w ⟨by simp only [pwA, if_true, if_false, eq_self, nm_eq, reduceCtorEq, ↓reduceIte, nQ10, nQ7, nQ11, nQ12, nQ16, nQ17, nQ18, iQ2, iQ3, iQ4, iQ5, iQ6, lQ19, iQ7, lQ20], by simp only [pwA, if_true, if_false, eq_self, nm_eq, reduceCtorEq, ↓reduceIte, nQ10, nQ7, nQ11, nQ12, nQ16, nQ17, nQ18, iQ2, iQ3, iQ4, iQ5, iQ6, lQ19, iQ7, lQ20]; omega⟩ hR.P ex hx (by omega) fun v hv => ?_
  simp only [pwA, if_true, if_false, eq_self, nm_eq, reduceCtorEq, ↓reduceIte, nQ10, nQ7, nQ11, nQ12, nQ16, nQ17, nQ18, iQ2, iQ3, iQ4, iQ5, iQ6, lQ19, iQ7, lQ20]
  exact Gh.fin0 hkp ⟨hv.bel _, trivial, trivial⟩ (hk _ _ 0 (.inr (.inr ⟨⟨hl, he⟩, hin, rfl, rfl⟩)) hv)
theorem TimesLie_S {k : Int} (hR : IsR vP vB W B) (szr : SzR W B) (hx : FI vx x) (szx : x.length ≤ 1048576)
    (hk : ∀ v z c, ElV p W B [x] (-1000000 ≤ k ∧ k ≤ 1000000) (lmul p W k x) z c → FI v z → K (.tup [v, .int .i64 c]) σ) : PCalls Tryz.prog 24 [.agg [.int .i64 p, vP, vB], .int .i64 k, vx] σ K := by
  have h1 := hR.P.one
  have h2 := hR.B.one
  refine PCalls.gh ?_
  refine pcalls_of_vp mix Tryz.func24 cf24 rfl ?_
  dsimp only [if24, qI, eI, nI, qD, eD]
  simp only [pwA, if_true, if_false, eq_self, nm_eq, reduceCtorEq, ↓reduceIte, nQ10, nQ7, nQ11, nQ12, nQ16, nQ17, nQ18, iQ2, iQ3, iQ4, iQ5, iQ6, lQ19, iQ7, lQ20, h1, h2]
  have hkp : Keep σ (σ.new [.int .i64 p, vP, vB]) := keep_new σ _
  have bad : ¬ (isLie p W B ∧ Els p W.length [x]) → Gh σ K (.tup [.fz true .nils 0 [], .int .i64 1]) (σ.new [.int .i64 p, vP, vB]) := fun e => Gh.fin0 hkp ⟨trivial, trivial, trivial⟩ (hk _ [] 1 (.inl ⟨e, rfl, rfl⟩) ⟨_, _, rfl⟩)
  refine l31Ring_ok hR szr fun t ht => ?_
  cases t with
  | false =>
    simp only [pwA, if_true, if_false, eq_self, nm_eq, reduceCtorEq, ↓reduceIte, nQ10, nQ7, nQ11, nQ12, nQ16, nQ17, nQ18, iQ2, iQ3, iQ4, iQ5, iQ6, lQ19, iQ7, lQ20]
    exact bad fun e => (by have := ht.2 e.1; cases this)
  | true =>
  have hl := ht.1 rfl
  simp only [pwA, if_true, if_false, eq_self, nm_eq, reduceCtorEq, ↓reduceIte, nQ10, nQ7, nQ11, nQ12, nQ16, nQ17, nQ18, iQ2, iQ3, iQ4, iQ5, iQ6, lQ19, iQ7, lQ20, h1, h2]
  refine has_FI hR hx szx hl.1.1.bd fun t2 ht2 => ?_
  cases t2 with
  | false =>
    simp only [pwA, if_true, if_false, eq_self, nm_eq, reduceCtorEq, ↓reduceIte, nQ10, nQ7, nQ11, nQ12, nQ16, nQ17, nQ18, iQ2, iQ3, iQ4, iQ5, iQ6, lQ19, iQ7, lQ20]
    exact bad fun e => (by have := ht2.2 (e.2 x (by simp)); cases this)
  | true =>
  have ex := ht2.1 rfl
  have he := el1 ex
  simp only [pwA, if_true, if_false, eq_self, nm_eq, reduceCtorEq, ↓reduceIte, nQ10, nQ7, nQ11, nQ12, nQ16, nQ17, nQ18, iQ2, iQ3, iQ4, iQ5, iQ6, lQ19, iQ7, lQ20, h1, h2]
  refine l01In_ok ?_
  by_cases hin : -1000000 ≤ k ∧ k ≤ 1000000
  rotate_left
  · simp only [pwA, if_true, if_false, eq_self, nm_eq, reduceCtorEq, ↓reduceIte, nQ10, nQ7, nQ11, nQ12, nQ16, nQ17, nQ18, iQ2, iQ3, iQ4, iQ5, iQ6, lQ19, iQ7, lQ20, hin, decide_false]
    exact Gh.fin0 hkp ⟨trivial, trivial, trivial⟩ (hk _ [] 2 (.inr (.inl ⟨⟨hl, he⟩, hin, rfl, rfl⟩)) ⟨_, _, rfl⟩)
  have hin' : decide (-1000000 ≤ k ∧ k ≤ 1000000) = true := decide_eq_true hin
  simp only [pwA, if_true, if_false, eq_self, nm_eq, reduceCtorEq, ↓reduceIte, nQ10, nQ7, nQ11, nQ12, nQ16, nQ17, nQ18, iQ2, iQ3, iQ4, iQ5, iQ6, lQ19, iQ7, lQ20, hin', h1, h2]
  refine mix_FI hR hl.1.w ex ex hx hx (by omega) (by omega) fun v hv => ?_
  simp only [pwA, if_true, if_false, eq_self, nm_eq, reduceCtorEq, ↓reduceIte, nQ10, nQ7, nQ11, nQ12, nQ16, nQ17, nQ18, iQ2, iQ3, iQ4, iQ5, iQ6, lQ19, iQ7, lQ20]
  exact Gh.fin0 hkp ⟨hv.bel _, trivial, trivial⟩ (hk _ _ 0 (.inr (.inr ⟨⟨hl, he⟩, hin, rfl, rfl⟩)) hv)
theorem NegateLie_F (hR : IsR vP vB W B) (szr : SzR W B) (hx : FI vx x) (szx : x.length ≤ 1048576)
    (hk : ∀ v z c, ElV p W B [x] True (lmul p W (-1) x) z c → FI v z → K (.tup [v, .int .i64 c]) σ) : PCalls Tryz.prog 19 [.agg [.int .i64 p, vP, vB], vx] σ K := by
  have h1 := hR.P.one
  have h2 := hR.B.one
  refine PCalls.gh ?_
  refine pcalls_of_vp mix Tryz.func19 cf19 rfl ?_
  dsimp only [if19, qI, eI, nI, qD, eD]
  simp only [pwA, if_true, if_false, eq_self, nm_eq, reduceCtorEq, ↓reduceIte, nQ10, nQ7, nQ11, nQ12, nQ16, nQ17, nQ18, iQ2, iQ3, iQ4, iQ5, iQ6, lQ19, iQ7, lQ20, h1, h2, hx.one, hx.cells]
  have hkp : Keep σ (((σ.new [.int .i64 p, vP, vB]).new [vx]).kill (σ.next + 1)) := ((keep_new σ _).new _).kill (by omega)
  refine PCalls.frz (s := σ.next + 1) (cs := [vx]) (by simp only [pwA, if_true, if_false, eq_self, nm_eq, reduceCtorEq, ↓reduceIte, nQ10, nQ7, nQ11, nQ12, nQ16, nQ17, nQ18, iQ2, iQ3, iQ4, iQ5, iQ6, lQ19, iQ7, lQ20]) ⟨hx.bel 0, trivial⟩ fun o => ?_
  simp only [sbs, sb, capOK, and_self, if_true, decide_true, Nat.le_refl]
  refine lieElements_ok (p := p) (vP := vP) (vB := vB) (xs := [x]) ⟨by simp only [pwA, if_true, if_false, eq_self, nm_eq, reduceCtorEq, ↓reduceIte, nQ10, nQ7, nQ11, nQ12, nQ16, nQ17, nQ18, iQ2, iQ3, iQ4, iQ5, iQ6, lQ19, iQ7, lQ20], by simp only [pwA, if_true, if_false, eq_self, nm_eq, reduceCtorEq, ↓reduceIte, nQ10, nQ7, nQ11, nQ12, nQ16, nQ17, nQ18, iQ2, iQ3, iQ4, iQ5, iQ6, lQ19, iQ7, lQ20]; omega⟩ hR szr (one_row hx) (SzL.one szx) fun t ht => ?_
  cases t with
  | false =>
    simp only [pwA, if_true, if_false, eq_self, nm_eq, reduceCtorEq, ↓reduceIte, nQ10, nQ7, nQ11, nQ12, nQ16, nQ17, nQ18, iQ2, iQ3, iQ4, iQ5, iQ6, lQ19, iQ7, lQ20]
    exact Gh.fin0 hkp ⟨trivial, trivial, trivial⟩ (hk _ [] 1 (.inl ⟨fun e => (by have := ht.2 e; cases this), rfl, rfl⟩) ⟨_, _, rfl⟩)
  | true =>
  obtain ⟨hl, he⟩ := ht.1 rfl
  have ex := he x (by simp)
  simp only [pwA, if_true, if_false, eq_self, nm_eq, reduceCtorEq, ↓reduceIte, nQ10, nQ7, nQ11, nQ12, nQ16, nQ17, nQ18, iQ2, iQ3, iQ4, iQ5, iQ6, lQ19, iQ7, lQ20]
  refine timesLie_FI (p := p) (vP := vP) (vB := vB) hl.1.w ⟨by simp only [pwA, if_true, if_false, eq_self, nm_eq, reduceCtorEq, ↓reduceIte, nQ10, nQ7, nQ11, nQ12, nQ16, nQ17, nQ18, iQ2, iQ3, iQ4, iQ5, iQ6, lQ19, iQ7, lQ20], by simp only [pwA, if_true, if_false, eq_self, nm_eq, reduceCtorEq, ↓reduceIte, nQ10, nQ7, nQ11, nQ12, nQ16, nQ17, nQ18, iQ2, iQ3, iQ4, iQ5, iQ6, lQ19, iQ7, lQ20]; omega⟩ hR.P ex hx (by omega) fun v hv => ?_
  simp only [pwA, if_true, if_false, eq_self, nm_eq, reduceCtorEq, ↓reduceIte, nQ10, nQ7, nQ11, nQ12, nQ16, nQ17, nQ18, iQ2, iQ3, iQ4, iQ5, iQ6, lQ19, iQ7, lQ20]
  exact Gh.fin0 hkp ⟨hv.bel _, trivial, trivial⟩ (hk _ _ 0 (.inr (.inr ⟨⟨hl, he⟩, trivial, rfl, rfl⟩)) hv)
theorem NegateLie_S (hR : IsR vP vB W B) (szr : SzR W B) (hx : FI vx x) (szx : x.length ≤ 1048576)
    (hk : ∀ v z c, ElV p W B [x] True (lmul p W (-1) x) z c → FI v z → K (.tup [v, .int .i64 c]) σ) : PCalls Tryz.prog 20 [.agg [.int .i64 p, vP, vB], vx] σ K := by
  have h1 := hR.P.one
  have h2 := hR.B.one
  refine PCalls.gh ?_
  refine pcalls_of_vp mix Tryz.func20 cf20 rfl ?_
  dsimp only [if20, qI, eI, nI, qD, eD]
  simp only [pwA, if_true, if_false, eq_self, nm_eq, reduceCtorEq, ↓reduceIte, nQ10, nQ7, nQ11, nQ12, nQ16, nQ17, nQ18, iQ2, iQ3, iQ4, iQ5, iQ6, lQ19, iQ7, lQ20, h1, h2]
  have hkp : Keep σ (σ.new [.int .i64 p, vP, vB]) := keep_new σ _
  have bad : ¬ (isLie p W B ∧ Els p W.length [x]) → Gh σ K (.tup [.fz true .nils 0 [], .int .i64 1]) (σ.new [.int .i64 p, vP, vB]) := fun e => Gh.fin0 hkp ⟨trivial, trivial, trivial⟩ (hk _ [] 1 (.inl ⟨e, rfl, rfl⟩) ⟨_, _, rfl⟩)
  refine l31Ring_ok hR szr fun t ht => ?_
  cases t with
  | false =>
    simp only [pwA, if_true, if_false, eq_self, nm_eq, reduceCtorEq, ↓reduceIte, nQ10, nQ7, nQ11, nQ12, nQ16, nQ17, nQ18, iQ2, iQ3, iQ4, iQ5, iQ6, lQ19, iQ7, lQ20]
    exact bad fun e => (by have := ht.2 e.1; cases this)
  | true =>
  have hl := ht.1 rfl
  simp only [pwA, if_true, if_false, eq_self, nm_eq, reduceCtorEq, ↓reduceIte, nQ10, nQ7, nQ11, nQ12, nQ16, nQ17, nQ18, iQ2, iQ3, iQ4, iQ5, iQ6, lQ19, iQ7, lQ20, h1, h2]
  refine has_FI hR hx szx hl.1.1.bd fun t2 ht2 => ?_
  cases t2 with
  | false =>
    simp only [pwA, if_true, if_false, eq_self, nm_eq, reduceCtorEq, ↓reduceIte, nQ10, nQ7, nQ11, nQ12, nQ16, nQ17, nQ18, iQ2, iQ3, iQ4, iQ5, iQ6, lQ19, iQ7, lQ20]
    exact bad fun e => (by have := ht2.2 (e.2 x (by simp)); cases this)
  | true =>
  have ex := ht2.1 rfl
  have he := el1 ex
  simp only [pwA, if_true, if_false, eq_self, nm_eq, reduceCtorEq, ↓reduceIte, nQ10, nQ7, nQ11, nQ12, nQ16, nQ17, nQ18, iQ2, iQ3, iQ4, iQ5, iQ6, lQ19, iQ7, lQ20, h1, h2]
  refine mix_FI hR hl.1.w ex ex hx hx (by omega) (by omega) fun v hv => ?_
  simp only [pwA, if_true, if_false, eq_self, nm_eq, reduceCtorEq, ↓reduceIte, nQ10, nQ7, nQ11, nQ12, nQ16, nQ17, nQ18, iQ2, iQ3, iQ4, iQ5, iQ6, lQ19, iQ7, lQ20]
  exact Gh.fin0 hkp ⟨hv.bel _, trivial, trivial⟩ (hk _ _ 0 (.inr (.inr ⟨⟨hl, he⟩, trivial, rfl, rfl⟩)) hv)
theorem AddLie_F (hR : IsR vP vB W B) (szr : SzR W B) (hx : FI vx x) (szx : x.length ≤ 1048576) (hy : FI vy y) (szy : y.length ≤ 1048576)
    (hk : ∀ v z c, ElV p W B [x, y] True (ladd p W x y) z c → FI v z → K (.tup [v, .int .i64 c]) σ) : PCalls Tryz.prog 31 [.agg [.int .i64 p, vP, vB], vx, vy] σ K := by
  have h1 := hR.P.one
  have h2 := hR.B.one
  refine PCalls.gh ?_
  refine pcalls_of_vp mix Tryz.func31 cf31 rfl ?_
  dsimp only [if31, qI, eI, nI, qD, eD]
  simp only [pwA, if_true, if_false, eq_self, nm_eq, reduceCtorEq, ↓reduceIte, nQ10, nQ7, nQ11, nQ12, nQ16, nQ17, nQ18, iQ2, iQ3, iQ4, iQ5, iQ6, lQ19, iQ7, lQ20, h1, h2, hx.one, hx.cells, hy.one, hy.cells]
  have hkp : Keep σ (((σ.new [.int .i64 p, vP, vB]).new [vx, vy]).kill (σ.next + 1)) := ((keep_new σ _).new _).kill (by omega)
  refine PCalls.frz (s := σ.next + 1) (cs := [vx, vy]) (by simp only [pwA, if_true, if_false, eq_self, nm_eq, reduceCtorEq, ↓reduceIte, nQ10, nQ7, nQ11, nQ12, nQ16, nQ17, nQ18, iQ2, iQ3, iQ4, iQ5, iQ6, lQ19, iQ7, lQ20]) ⟨hx.bel 0, hy.bel 0, trivial⟩ fun o => ?_
  simp only [sbs, sb, capOK, and_self, if_true, decide_true, Nat.le_refl]
  refine lieElements_ok (p := p) (vP := vP) (vB := vB) (xs := [x, y]) ⟨by simp only [pwA, if_true, if_false, eq_self, nm_eq, reduceCtorEq, ↓reduceIte, nQ10, nQ7, nQ11, nQ12, nQ16, nQ17, nQ18, iQ2, iQ3, iQ4, iQ5, iQ6, lQ19, iQ7, lQ20], by simp only [pwA, if_true, if_false, eq_self, nm_eq, reduceCtorEq, ↓reduceIte, nQ10, nQ7, nQ11, nQ12, nQ16, nQ17, nQ18, iQ2, iQ3, iQ4, iQ5, iQ6, lQ19, iQ7, lQ20]; omega⟩ hR szr (two_row hx hy) (SzL.two szx szy) fun t ht => ?_
  cases t with
  | false =>
    simp only [pwA, if_true, if_false, eq_self, nm_eq, reduceCtorEq, ↓reduceIte, nQ10, nQ7, nQ11, nQ12, nQ16, nQ17, nQ18, iQ2, iQ3, iQ4, iQ5, iQ6, lQ19, iQ7, lQ20]
    exact Gh.fin0 hkp ⟨trivial, trivial, trivial⟩ (hk _ [] 1 (.inl ⟨fun e => (by have := ht.2 e; cases this), rfl, rfl⟩) ⟨_, _, rfl⟩)
  | true =>
  obtain ⟨hl, he⟩ := ht.1 rfl
  have ex := he x (by simp)
  have ey := he y (by simp)
  simp only [pwA, if_true, if_false, eq_self, nm_eq, reduceCtorEq, ↓reduceIte, nQ10, nQ7, nQ11, nQ12, nQ16, nQ17, nQ18, iQ2, iQ3, iQ4, iQ5, iQ6, lQ19, iQ7, lQ20]
  refine add_FI (p := p) (vP := vP) (vB := vB) hl.1.w ⟨by simp only [pwA, if_true, if_false, eq_self, nm_eq, reduceCtorEq, ↓reduceIte, nQ10, nQ7, nQ11, nQ12, nQ16, nQ17, nQ18, iQ2, iQ3, iQ4, iQ5, iQ6, lQ19, iQ7, lQ20], by simp only [pwA, if_true, if_false, eq_self, nm_eq, reduceCtorEq, ↓reduceIte, nQ10, nQ7, nQ11, nQ12, nQ16, nQ17, nQ18, iQ2, iQ3, iQ4, iQ5, iQ6, lQ19, iQ7, lQ20]; omega⟩ hR.P ex ey hx hy fun v hv => ?_
  simp only [pwA, if_true, if_false, eq_self, nm_eq, reduceCtorEq, ↓reduceIte, nQ10, nQ7, nQ11, nQ12, nQ16, nQ17, nQ18, iQ2, iQ3, iQ4, iQ5, iQ6, lQ19, iQ7, lQ20]
  exact Gh.fin0 hkp ⟨hv.bel _, trivial, trivial⟩ (hk _ _ 0 (.inr (.inr ⟨⟨hl, he⟩, trivial, rfl, rfl⟩)) hv)
theorem AddLie_S (hR : IsR vP vB W B) (szr : SzR W B) (hx : FI vx x) (szx : x.length ≤ 1048576) (hy : FI vy y) (szy : y.length ≤ 1048576)
    (hk : ∀ v z c, ElV p W B [x, y] True (ladd p W x y) z c → FI v z → K (.tup [v, .int .i64 c]) σ) : PCalls Tryz.prog 33 [.agg [.int .i64 p, vP, vB], vx, vy] σ K := by
  have h1 := hR.P.one
  have h2 := hR.B.one
  refine PCalls.gh ?_
  refine pcalls_of_vp mix Tryz.func33 cf33 rfl ?_
  dsimp only [if33, qI, eI, nI, qD, eD]
  simp only [pwA, if_true, if_false, eq_self, nm_eq, reduceCtorEq, ↓reduceIte, nQ10, nQ7, nQ11, nQ12, nQ16, nQ17, nQ18, iQ2, iQ3, iQ4, iQ5, iQ6, lQ19, iQ7, lQ20, h1, h2]
  have hkp : Keep σ (σ.new [.int .i64 p, vP, vB]) := keep_new σ _
  have bad : ¬ (isLie p W B ∧ Els p W.length [x, y]) → Gh σ K (.tup [.fz true .nils 0 [], .int .i64 1]) (σ.new [.int .i64 p, vP, vB]) := fun e => Gh.fin0 hkp ⟨trivial, trivial, trivial⟩ (hk _ [] 1 (.inl ⟨e, rfl, rfl⟩) ⟨_, _, rfl⟩)
  refine l31Ring_ok hR szr fun t ht => ?_
  cases t with
  | false =>
    simp only [pwA, if_true, if_false, eq_self, nm_eq, reduceCtorEq, ↓reduceIte, nQ10, nQ7, nQ11, nQ12, nQ16, nQ17, nQ18, iQ2, iQ3, iQ4, iQ5, iQ6, lQ19, iQ7, lQ20]
    exact bad fun e => (by have := ht.2 e.1; cases this)
  | true =>
  have hl := ht.1 rfl
  simp only [pwA, if_true, if_false, eq_self, nm_eq, reduceCtorEq, ↓reduceIte, nQ10, nQ7, nQ11, nQ12, nQ16, nQ17, nQ18, iQ2, iQ3, iQ4, iQ5, iQ6, lQ19, iQ7, lQ20, h1, h2]
  refine has_FI hR hx szx hl.1.1.bd fun t2 ht2 => ?_
  cases t2 with
  | false =>
    simp only [pwA, if_true, if_false, eq_self, nm_eq, reduceCtorEq, ↓reduceIte, nQ10, nQ7, nQ11, nQ12, nQ16, nQ17, nQ18, iQ2, iQ3, iQ4, iQ5, iQ6, lQ19, iQ7, lQ20]
    exact bad fun e => (by have := ht2.2 (e.2 x (by simp)); cases this)
  | true =>
  have ex := ht2.1 rfl
  simp only [pwA, if_true, if_false, eq_self, nm_eq, reduceCtorEq, ↓reduceIte, nQ10, nQ7, nQ11, nQ12, nQ16, nQ17, nQ18, iQ2, iQ3, iQ4, iQ5, iQ6, lQ19, iQ7, lQ20, h1, h2]
  refine has_FI hR hy szy hl.1.1.bd fun t3 ht3 => ?_
  cases t3 with
  | false =>
    simp only [pwA, if_true, if_false, eq_self, nm_eq, reduceCtorEq, ↓reduceIte, nQ10, nQ7, nQ11, nQ12, nQ16, nQ17, nQ18, iQ2, iQ3, iQ4, iQ5, iQ6, lQ19, iQ7, lQ20]
    exact bad fun e => (by have := ht3.2 (e.2 y (by simp)); cases this)
  | true =>
  have ey := ht3.1 rfl
  have he := el2' ex ey
  simp only [pwA, if_true, if_false, eq_self, nm_eq, reduceCtorEq, ↓reduceIte, nQ10, nQ7, nQ11, nQ12, nQ16, nQ17, nQ18, iQ2, iQ3, iQ4, iQ5, iQ6, lQ19, iQ7, lQ20, h1, h2]
  refine mix_FI hR hl.1.w ex ey hx hy (by omega) (by omega) fun v hv => ?_
  simp only [pwA, if_true, if_false, eq_self, nm_eq, reduceCtorEq, ↓reduceIte, nQ10, nQ7, nQ11, nQ12, nQ16, nQ17, nQ18, iQ2, iQ3, iQ4, iQ5, iQ6, lQ19, iQ7, lQ20]
  exact Gh.fin0 hkp ⟨hv.bel _, trivial, trivial⟩ (hk _ _ 0 (.inr (.inr ⟨⟨hl, he⟩, trivial, rfl, rfl⟩)) hv)
theorem Bracket_F (hR : IsR vP vB W B) (szr : SzR W B) (hx : FI vx x) (szx : x.length ≤ 1048576) (hy : FI vy y) (szy : y.length ≤ 1048576)
    (hk : ∀ v z c, ElV p W B [x, y] True (br p W B W.length x y) z c → FI v z → K (.tup [v, .int .i64 c]) σ) : PCalls Tryz.prog 32 [.agg [.int .i64 p, vP, vB], vx, vy] σ K := by
  have h1 := hR.P.one
  have h2 := hR.B.one
  refine PCalls.gh ?_
  refine pcalls_of_vp mix Tryz.func32 cf32 rfl ?_
  dsimp only [if32, qI, eI, nI, qD, eD]
  simp only [pwA, if_true, if_false, eq_self, nm_eq, reduceCtorEq, ↓reduceIte, nQ10, nQ7, nQ11, nQ12, nQ16, nQ17, nQ18, iQ2, iQ3, iQ4, iQ5, iQ6, lQ19, iQ7, lQ20, h1, h2, hx.one, hx.cells, hy.one, hy.cells]
  have hkp : Keep σ (((σ.new [.int .i64 p, vP, vB]).new [vx, vy]).kill (σ.next + 1)) := ((keep_new σ _).new _).kill (by omega)
  refine PCalls.frz (s := σ.next + 1) (cs := [vx, vy]) (by simp only [pwA, if_true, if_false, eq_self, nm_eq, reduceCtorEq, ↓reduceIte, nQ10, nQ7, nQ11, nQ12, nQ16, nQ17, nQ18, iQ2, iQ3, iQ4, iQ5, iQ6, lQ19, iQ7, lQ20]) ⟨hx.bel 0, hy.bel 0, trivial⟩ fun o => ?_
  simp only [sbs, sb, capOK, and_self, if_true, decide_true, Nat.le_refl]
  refine lieElements_ok (p := p) (vP := vP) (vB := vB) (xs := [x, y]) ⟨by simp only [pwA, if_true, if_false, eq_self, nm_eq, reduceCtorEq, ↓reduceIte, nQ10, nQ7, nQ11, nQ12, nQ16, nQ17, nQ18, iQ2, iQ3, iQ4, iQ5, iQ6, lQ19, iQ7, lQ20], by simp only [pwA, if_true, if_false, eq_self, nm_eq, reduceCtorEq, ↓reduceIte, nQ10, nQ7, nQ11, nQ12, nQ16, nQ17, nQ18, iQ2, iQ3, iQ4, iQ5, iQ6, lQ19, iQ7, lQ20]; omega⟩ hR szr (two_row hx hy) (SzL.two szx szy) fun t ht => ?_
  cases t with
  | false =>
    simp only [pwA, if_true, if_false, eq_self, nm_eq, reduceCtorEq, ↓reduceIte, nQ10, nQ7, nQ11, nQ12, nQ16, nQ17, nQ18, iQ2, iQ3, iQ4, iQ5, iQ6, lQ19, iQ7, lQ20]
    exact Gh.fin0 hkp ⟨trivial, trivial, trivial⟩ (hk _ [] 1 (.inl ⟨fun e => (by have := ht.2 e; cases this), rfl, rfl⟩) ⟨_, _, rfl⟩)
  | true =>
  obtain ⟨hl, he⟩ := ht.1 rfl
  have ex := he x (by simp)
  have ey := he y (by simp)
  simp only [pwA, if_true, if_false, eq_self, nm_eq, reduceCtorEq, ↓reduceIte, nQ10, nQ7, nQ11, nQ12, nQ16, nQ17, nQ18, iQ2, iQ3, iQ4, iQ5, iQ6, lQ19, iQ7, lQ20]
  refine bracket_FI (p := p) (vP := vP) (vB := vB) hl.1.w hl.1.b ⟨by simp only [pwA, if_true, if_false, eq_self, nm_eq, reduceCtorEq, ↓reduceIte, nQ10, nQ7, nQ11, nQ12, nQ16, nQ17, nQ18, iQ2, iQ3, iQ4, iQ5, iQ6, lQ19, iQ7, lQ20], by simp only [pwA, if_true, if_false, eq_self, nm_eq, reduceCtorEq, ↓reduceIte, nQ10, nQ7, nQ11, nQ12, nQ16, nQ17, nQ18, iQ2, iQ3, iQ4, iQ5, iQ6, lQ19, iQ7, lQ20]; omega⟩ hR ex ey hx hy fun v hv => ?_
  simp only [pwA, if_true, if_false, eq_self, nm_eq, reduceCtorEq, ↓reduceIte, nQ10, nQ7, nQ11, nQ12, nQ16, nQ17, nQ18, iQ2, iQ3, iQ4, iQ5, iQ6, lQ19, iQ7, lQ20]
  exact Gh.fin0 hkp ⟨hv.bel _, trivial, trivial⟩ (hk _ _ 0 (.inr (.inr ⟨⟨hl, he⟩, trivial, rfl, rfl⟩)) hv)
theorem Bracket_S (hR : IsR vP vB W B) (szr : SzR W B) (hx : FI vx x) (szx : x.length ≤ 1048576) (hy : FI vy y) (szy : y.length ≤ 1048576)
    (hk : ∀ v z c, ElV p W B [x, y] True (br p W B W.length x y) z c → FI v z → K (.tup [v, .int .i64 c]) σ) : PCalls Tryz.prog 34 [.agg [.int .i64 p, vP, vB], vx, vy] σ K := by
  have h1 := hR.P.one
  have h2 := hR.B.one
  refine PCalls.gh ?_
  refine pcalls_of_vp mix Tryz.func34 cf34 rfl ?_
  dsimp only [if34, qI, eI, nI, qD, eD]
  simp only [pwA, if_true, if_false, eq_self, nm_eq, reduceCtorEq, ↓reduceIte, nQ10, nQ7, nQ11, nQ12, nQ16, nQ17, nQ18, iQ2, iQ3, iQ4, iQ5, iQ6, lQ19, iQ7, lQ20, h1, h2]
  have hkp : Keep σ (σ.new [.int .i64 p, vP, vB]) := keep_new σ _
  have bad : ¬ (isLie p W B ∧ Els p W.length [x, y]) → Gh σ K (.tup [.fz true .nils 0 [], .int .i64 1]) (σ.new [.int .i64 p, vP, vB]) := fun e => Gh.fin0 hkp ⟨trivial, trivial, trivial⟩ (hk _ [] 1 (.inl ⟨e, rfl, rfl⟩) ⟨_, _, rfl⟩)
  refine l31Ring_ok hR szr fun t ht => ?_
  cases t with
  | false =>
    simp only [pwA, if_true, if_false, eq_self, nm_eq, reduceCtorEq, ↓reduceIte, nQ10, nQ7, nQ11, nQ12, nQ16, nQ17, nQ18, iQ2, iQ3, iQ4, iQ5, iQ6, lQ19, iQ7, lQ20]
    exact bad fun e => (by have := ht.2 e.1; cases this)
  | true =>
  have hl := ht.1 rfl
  simp only [pwA, if_true, if_false, eq_self, nm_eq, reduceCtorEq, ↓reduceIte, nQ10, nQ7, nQ11, nQ12, nQ16, nQ17, nQ18, iQ2, iQ3, iQ4, iQ5, iQ6, lQ19, iQ7, lQ20, h1, h2]
  refine has_FI hR hx szx hl.1.1.bd fun t2 ht2 => ?_
  cases t2 with
  | false =>
    simp only [pwA, if_true, if_false, eq_self, nm_eq, reduceCtorEq, ↓reduceIte, nQ10, nQ7, nQ11, nQ12, nQ16, nQ17, nQ18, iQ2, iQ3, iQ4, iQ5, iQ6, lQ19, iQ7, lQ20]
    exact bad fun e => (by have := ht2.2 (e.2 x (by simp)); cases this)
  | true =>
  have ex := ht2.1 rfl
  simp only [pwA, if_true, if_false, eq_self, nm_eq, reduceCtorEq, ↓reduceIte, nQ10, nQ7, nQ11, nQ12, nQ16, nQ17, nQ18, iQ2, iQ3, iQ4, iQ5, iQ6, lQ19, iQ7, lQ20, h1, h2]
  refine has_FI hR hy szy hl.1.1.bd fun t3 ht3 => ?_
  cases t3 with
  | false =>
    simp only [pwA, if_true, if_false, eq_self, nm_eq, reduceCtorEq, ↓reduceIte, nQ10, nQ7, nQ11, nQ12, nQ16, nQ17, nQ18, iQ2, iQ3, iQ4, iQ5, iQ6, lQ19, iQ7, lQ20]
    exact bad fun e => (by have := ht3.2 (e.2 y (by simp)); cases this)
  | true =>
  have ey := ht3.1 rfl
  have he := el2' ex ey
  simp only [pwA, if_true, if_false, eq_self, nm_eq, reduceCtorEq, ↓reduceIte, nQ10, nQ7, nQ11, nQ12, nQ16, nQ17, nQ18, iQ2, iQ3, iQ4, iQ5, iQ6, lQ19, iQ7, lQ20, h1, h2]
  refine l31Bracket_FI hl.1.w hl.1.b hR ex ey hx hy fun v hv => ?_
  simp only [pwA, if_true, if_false, eq_self, nm_eq, reduceCtorEq, ↓reduceIte, nQ10, nQ7, nQ11, nQ12, nQ16, nQ17, nQ18, iQ2, iQ3, iQ4, iQ5, iQ6, lQ19, iQ7, lQ20]
  exact Gh.fin0 hkp ⟨hv.bel _, trivial, trivial⟩ (hk _ _ 0 (.inr (.inr ⟨⟨hl, he⟩, trivial, rfl, rfl⟩)) hv)
end Go.Proofs
namespace Go.Proofs
open Go.Ab Go.Lie
variable {σ σ0 h h' : PHeap} {K : PV → PHeap → Prop} {vC vP vB : PV} {bs : List Int} {s b n r0 : Nat} {p : Int} {W : List (List Int)} {B : List (List (List Int))}
abbrev diC (vC : PV) (i : Nat) (hh : Int) : List PV := [vC, .int .i64 (i : Int), .int .u64 hh]
structure Di (σ : PHeap) (s : Nat) (vC : PV) (bs : List Int) : Prop where
  ex : ∃ i hh, σ.obj s = some (diC vC i hh) ∧ i ≤ bs.length
  lt : s < σ.next
  fb : FB vC bs
  byt : Byt bs
theorem u64_33 (a : Int) : pbin .shr .other (.int .u64 a) (.int .u64 33) = some (.int .u64 (a.fdiv (2 ^ 33))) := rfl
theorem u64_mask (a : Int) : ∃ r : Int, pbin .and .other (.int .u64 a) (.int .u64 16777215) = some (.int .u64 r) ∧ 0 ≤ r ∧ r ≤ 16777215 := by
  have h1 : (BitVec.ofInt 64 a &&& BitVec.ofInt 64 16777215).toNat ≤ 16777215 := by
    rw [BitVec.toNat_and]
    exact Nat.le_trans Nat.and_le_right (by decide)
  refine ⟨_, rfl, ?_⟩
  have : ∀ m : Nat, m ≤ 16777215 → IntKind.u64.wrap (m : Int) = (m : Int) := fun m hm => by
    show (m : Int) % _ = _
    exact Int.emod_eq_of_lt (by omega) (by show (m : Int) < 18446744073709551616; omega)
  rw [show IntKind.u64.bits = 64 from rfl, this _ h1]
  omega
theorem Di.keep (a : Di σ s vC bs) (k : Keep σ h) : Di h s vC bs := by
  obtain ⟨i, hh, e, hi⟩ := a.ex
  exact ⟨⟨i, hh, by rw [k.obj _ a.lt]; exact e, hi⟩, Nat.lt_of_lt_of_le a.lt k.next, a.fb, a.byt⟩
theorem roll_ok {sd : Int} (hb : FB vC bs) (hB : Byt bs) (hk : ∀ h, Keep σ h → Di h σ.next vC bs → h.next = σ.next + 1 → K (.ptr σ.next 0) h) : PCalls Tryz.prog 17 [vC, .int .u64 sd] σ K := by
  have hb0 := hb
  obtain ⟨w, av, rfl⟩ := hb
  have hl := hB.len
  refine pcalls_of_vp mix Tryz.func17 cf17 rfl ?_
  dsimp only [if17, qI, eI, nI, qD, eD]
  simp only [pwA, if_true, if_false, eq_self, nm_eq, reduceCtorEq, ↓reduceIte, nQ10, nQ7, nQ11, nQ12, nQ16, nQ17, nQ18, iQ2, iQ3, iQ4, iQ5, iQ6, lQ19, iQ7, lQ20]
  generalize hC : (PV.fz w av bs.length (bs.map (.int .u8))) = vC at *
  refine vp_loop (fun m vs h' => ∃ (i : Nat) (hh : Int), i ≤ bs.length ∧ m = bs.length - i ∧ vs = [vC, .ptr σ.next 0, .int .i64 i] ∧ σ.new (diC vC 0 hh) = h') bs.length ?_ ?_
  · exact ⟨0, _, by omega, by omega, rfl, rfl⟩
  rintro m vs h' ⟨i, hh, hi, rfl, rfl, rfl⟩
  have hlen : pLen vC = some (.int .i64 bs.length) := by rw [← hC]; rfl
  have wi1 : IntKind.i64.wrap ((i : Int) + 1) = ((i + 1 : Nat) : Int) := by rw [wrap64 (by omega) (by omega)]; omega
  simp only [pwA, if_true, if_false, eq_self, nm_eq, reduceCtorEq, ↓reduceIte, nQ10, nQ7, nQ11, nQ12, nQ16, nQ17, nQ18, iQ2, iQ3, iQ4, iQ5, iQ6, lQ19, iQ7, lQ20, hlen]
  by_cases hlt : i < bs.length
  rotate_left
  · simp only [pwA, if_true, if_false, eq_self, nm_eq, reduceCtorEq, ↓reduceIte, nQ10, nQ7, nQ11, nQ12, nQ16, nQ17, nQ18, iQ2, iQ3, iQ4, iQ5, iQ6, lQ19, iQ7, lQ20, hlt, decide_false]
    exact hk _ (keep_new _ _) ⟨⟨0, hh, by rw [pobj_new, if_pos rfl], Nat.zero_le _⟩, Nat.lt_succ_self _, hb0, hB⟩ rfl
  obtain ⟨b1, b2, b3⟩ := byt_at hB hlt
  generalize bs.getD i 0 = b at b1 b2 b3
  subst hC
  simp only [pwA, if_true, if_false, eq_self, nm_eq, reduceCtorEq, ↓reduceIte, nQ10, nQ7, nQ11, nQ12, nQ16, nQ17, nQ18, iQ2, iQ3, iQ4, iQ5, iQ6, lQ19, iQ7, lQ20, hlt, decide_true, b1, wi1]
  exact ⟨_, by omega, i + 1, _, by omega, rfl, rfl, rfl⟩
theorem below_ok {n : Int} (D : Di σ s vC bs) (hn : 1 ≤ n) (hk : ∀ x h, 0 ≤ x → x < n → Mv σ s h → Di h s vC bs → K (.int .i64 x) h) : PCalls Tryz.prog 18 [.ptr s 0, .int .i64 n] σ K := by
  obtain ⟨i, hh, ob, hi⟩ := D.ex
  have hl := D.byt.len
  have hlt := D.lt
  have fb := D.fb
  obtain ⟨w, av, rfl⟩ := D.fb
  have q2 : σ.rd1 s 2 = some (.int .u64 hh) := by rw [obj_rd1 ob]; rfl
  have w2 : ∀ y, σ.wr s 2 [.int .u64 y] = some (σ.set s (diC (.fz w av bs.length (bs.map (.int .u8))) i y)) := fun y => by rw [obj_wr ob, if_pos ⟨by simp, rfl⟩]; rfl
  refine pcalls_of_vp mix Tryz.func18 cf18 rfl ?_
  dsimp only [if18, qI, eI, nI, qD, eD]
  simp only [pwA, if_true, if_false, eq_self, nm_eq, reduceCtorEq, ↓reduceIte, nQ10, nQ7, nQ11, nQ12, nQ16, nQ17, nQ18, iQ2, iQ3, iQ4, iQ5, iQ6, lQ19, iQ7, lQ20, q2, w2]
  generalize IntKind.u64.wrap (IntKind.u64.wrap (hh * 6364136223846793005) + 1442695040888963407) = hh1
  have bel : ∀ (j : Nat) (y : Int), Bels 0 (diC (.fz w av bs.length (bs.map (.int .u8))) j y) := fun j y => ⟨trivial, trivial, trivial, trivial⟩
  have ob1 : (σ.set s (diC (.fz w av bs.length (bs.map (.int .u8))) i hh1)).obj s = some (diC (.fz w av bs.length (bs.map (.int .u8))) i hh1) := by rw [pobj_set, if_pos rfl]
  have fin : ∀ (j : Nat) (y x : Int), j ≤ bs.length → 0 ≤ x → K (.int .i64 (x.tmod n)) (σ.set s (diC (.fz w av bs.length (bs.map (.int .u8))) j y)) := fun j y x hj hx => by
    rw [Int.tmod_eq_emod_of_nonneg hx]
    exact hk _ _ (Int.emod_nonneg x (by omega)) (Int.emod_lt_of_pos x (by omega)) ⟨_, _, ob, bel _ _, rfl⟩ ⟨⟨j, y, by rw [pobj_set, if_pos rfl], hj⟩, hlt, fb, D.byt⟩
  have hset : ∀ (j : Nat) (y : Int), (σ.set s (diC (.fz w av bs.length (bs.map (.int .u8))) i hh1)).set s (diC (.fz w av bs.length (bs.map (.int .u8))) j y) = σ.set s (diC (.fz w av bs.length (bs.map (.int .u8))) j y) := fun j y => set_set_s _ _ _ _
  have finI := fin i hh1
  have p0 : (σ.set s (diC (.fz w av bs.length (bs.map (.int .u8))) i hh1)).rd1 s 0 = some (.fz w av bs.length (bs.map (.int .u8))) := by rw [obj_rd1 ob1]; rfl
  have p1 : (σ.set s (diC (.fz w av bs.length (bs.map (.int .u8))) i hh1)).rd1 s 1 = some (.int .i64 i) := by rw [obj_rd1 ob1]; rfl
  have p2 : (σ.set s (diC (.fz w av bs.length (bs.map (.int .u8))) i hh1)).rd1 s 2 = some (.int .u64 hh1) := by rw [obj_rd1 ob1]; rfl
  have w1 : (σ.set s (diC (.fz w av bs.length (bs.map (.int .u8))) i hh1)).wr s 1 [.int .i64 ((i + 1 : Nat) : Int)] = some (σ.set s (diC (.fz w av bs.length (bs.map (.int .u8))) (i + 1) hh1)) := by
    rw [obj_wr ob1, if_pos ⟨by simp, rfl⟩, ← hset (i + 1) hh1]; rfl
  generalize σ.set s (diC (.fz w av bs.length (bs.map (.int .u8))) i hh1) = σ1 at *
  obtain ⟨x, hm, x0, x1⟩ := u64_mask (hh1.fdiv (2 ^ 33))
  have wx : IntKind.i64.wrap x = x := wrap64 (by omega) (by omega)
  have hn0 : n ≠ 0 := by omega
  simp only [pwA, if_true, if_false, eq_self, nm_eq, reduceCtorEq, ↓reduceIte, nQ10, nQ7, nQ11, nQ12, nQ16, nQ17, nQ18, iQ2, iQ3, iQ4, iQ5, iQ6, lQ19, iQ7, lQ20, p2, u64_33, hm, wx]
  by_cases hlt' : i < bs.length
  rotate_left
  · simp only [pwA, if_true, if_false, eq_self, nm_eq, reduceCtorEq, ↓reduceIte, nQ10, nQ7, nQ11, nQ12, nQ16, nQ17, nQ18, iQ2, iQ3, iQ4, iQ5, iQ6, lQ19, iQ7, lQ20, p0, p1, hlt', decide_false, hn0]
    exact finI x (by omega) x0
  obtain ⟨b1, b2, b3⟩ := byt_at D.byt hlt'
  generalize bs.getD i 0 = b at b1 b2 b3
  have e6 : IntKind.i64.wrap b = b := wrap64 (by omega) (by omega)
  have e7 : IntKind.i64.wrap (x + b) = x + b := wrap64 (by omega) (by omega)
  have wi1 : IntKind.i64.wrap ((i : Int) + 1) = ((i + 1 : Nat) : Int) := by rw [wrap64 (by omega) (by omega)]; omega
  simp only [pwA, if_true, if_false, eq_self, nm_eq, reduceCtorEq, ↓reduceIte, nQ10, nQ7, nQ11, nQ12, nQ16, nQ17, nQ18, iQ2, iQ3, iQ4, iQ5, iQ6, lQ19, iQ7, lQ20, p0, p1, hlt', decide_true, b1, e6, e7, wi1, w1, hn0]
  exact fin (i + 1) hh1 _ (by omega) (by omega)
theorem l33Two_ok (hb : FB vC bs) (hB : Byt bs) (hk : ∀ p vP vB W B vx x vy y, DrR p W B → IsR vP vB W B → FI vx x → x.length ≤ 7 → FI vy y → y.length ≤ 7 → K (.tup [.agg [.int .i64 p, vP, vB], vx, vy]) σ) : PCalls Tryz.prog 96 [vC] σ K := by
  refine PCalls.gh ?_
  generalize hT : σ.new [.int .i64 0, .fz true .nils 0 [], .fz true .nils 0 []] = T
  have hTn : T.next = σ.next + 1 := by rw [← hT]; rfl
  have hkT : Keep σ T := by rw [← hT]; exact keep_new σ _
  have obT : T.obj σ.next = some [.int .i64 0, .fz true .nils 0 [], .fz true .nils 0 []] := by rw [← hT]; simp only [pwA, if_true, if_false, eq_self, nm_eq, reduceCtorEq, ↓reduceIte, nQ10, nQ7, nQ11, nQ12, nQ16, nQ17, nQ18, iQ2, iQ3, iQ4, iQ5, iQ6, lQ19, iQ7, lQ20]
  refine pcalls_of_vp mix Tryz.func96 cf96 rfl ?_
  dsimp only [if96, qI, eI, nI, qD, eD]
  simp only [pwA, if_true, if_false, eq_self, nm_eq, reduceCtorEq, ↓reduceIte, nQ10, nQ7, nQ11, nQ12, nQ16, nQ17, nQ18, iQ2, iQ3, iQ4, iQ5, iQ6, lQ19, iQ7, lQ20, hb.one]
  rw [hT]
  refine l01From_ok hb hB fun sd hsd => ?_
  have so1 : So (T.new (srcC vC 0 sd)) T.next vC bs := ⟨0, sd, by rw [pobj_new, if_pos rfl], Nat.lt_succ_self _, hb, hB, Nat.zero_le _, hsd⟩
  have km1 : KM (T.new (srcC vC 0 sd)) T.next (T.new (srcC vC 0 sd)) := so1.km
  have kT1 : Keep T (T.new (srcC vC 0 sd)) := keep_new _ _
  have hs1 : T.next < (T.new (srcC vC 0 sd)).next := Nat.lt_succ_self _
  generalize hU : T.new (srcC vC 0 sd) = U at *
  have hUn : U.next = T.next + 1 := by rw [← hU]; rfl
  simp only [pwA, if_true, if_false, eq_self, nm_eq, reduceCtorEq, ↓reduceIte, nQ10, nQ7, nQ11, nQ12, nQ16, nQ17, nQ18, iQ2, iQ3, iQ4, iQ5, iQ6, lQ19, iQ7, lQ20]
  refine l33Draw_ok so1 fun p vP vB W B h2 d hR m2 so2 => ?_
  have km2 := km1.mv hs1 m2
  have g1 := hR.P.one
  have g2 := hR.B.one
  have h2n := km2.next
  have hpb := d.p
  have hwl := d.wl
  simp only [pwA, if_true, if_false, eq_self, nm_eq, reduceCtorEq, ↓reduceIte, nQ10, nQ7, nQ11, nQ12, nQ16, nQ17, nQ18, iQ2, iQ3, iQ4, iQ5, iQ6, lQ19, iQ7, lQ20, g1, g2]
  have so3 : So (h2.new [.int .i64 p, vP, vB]) T.next vC bs := so2.keep (keep_new _ _)
  have km3 : KM U T.next (h2.new [.int .i64 p, vP, vB]) := km2.new _
  refine l31Element_ok so3 hR (by omega) (by omega) fun vx x h4 hvx hxl m4 so4 => ?_
  have km4 := km3.mv hs1 m4
  have ob4 : h4.obj h2.next = some [.int .i64 p, vP, vB] := by rw [m4.obj (by omega), pobj_new, if_pos rfl]
  have rd4 : h4.rd h2.next 0 3 = some [.int .i64 p, vP, vB] := by rw [obj_rd ob4]; rfl
  simp only [pwA, if_true, if_false, eq_self, nm_eq, reduceCtorEq, ↓reduceIte, nQ10, nQ7, nQ11, nQ12, nQ16, nQ17, nQ18, iQ2, iQ3, iQ4, iQ5, iQ6, lQ19, iQ7, lQ20, rd4]
  refine l31Element_ok so4 hR (by omega) (by omega) fun vy y h6 hvy hyl m6 so6 => ?_
  have km6 := km4.mv hs1 m6
  have rd6 : h6.rd h2.next 0 3 = some [.int .i64 p, vP, vB] := by rw [obj_rd (by rw [m6.obj (by omega)]; exact ob4)]; rfl
  have hU6 : Keep T h6 := km6.keepOf kT1 (Nat.le_refl _)
  have hres : h6.obj σ.next = some [.int .i64 0, .fz true .nils 0 [], .fz true .nils 0 []] := by rw [hU6.obj _ (by omega)]; exact obT
  have x1 : h6.wr σ.next 0 [.int .i64 p, vP, vB] = some (h6.set σ.next [.int .i64 p, vP, vB]) := by rw [obj_wr hres, if_pos ⟨by simp, by simp only [List.all_cons, List.all_nil, g1, g2]; rfl⟩]; rfl
  have x2 : (h6.set σ.next [.int .i64 p, vP, vB]).rd σ.next 0 3 = some [.int .i64 p, vP, vB] := by rw [prd_set, if_pos rfl]; rfl
  simp only [pwA, if_true, if_false, eq_self, nm_eq, reduceCtorEq, ↓reduceIte, nQ10, nQ7, nQ11, nQ12, nQ16, nQ17, nQ18, iQ2, iQ3, iQ4, iQ5, iQ6, lQ19, iQ7, lQ20, rd6, x1, x2, g1, g2]
  exact Gh.fin0 ((hkT.trans hU6).set (Nat.le_refl _) _) ⟨⟨trivial, hR.P.bel _, hR.B.bel _, trivial⟩, hvx.bel _, hvy.bel _, trivial⟩ (hk p vP vB W B vx x vy y d hR hvx (by omega) hvy (by omega))
theorem DrawBchProduct_ok (hb : FB vC bs) (hB : Byt bs) (hk : ∀ p vP vB W B vx x vy y, DrR p W B → IsR vP vB W B → FI vx x → x.length ≤ 7 → FI vy y → y.length ≤ 7 → K (.tup [.agg [.int .i64 p, vP, vB], vx, vy]) σ) : PCalls Tryz.prog 13 [vC] σ K := by
  refine PCalls.gh ?_
  refine pcalls_of_vp mix Tryz.func13 cf13 rfl ?_
  dsimp only [if13, qI, eI, nI, qD, eD]
  simp only [pwA, if_true, if_false, eq_self, nm_eq, reduceCtorEq, ↓reduceIte, nQ10, nQ7, nQ11, nQ12, nQ16, nQ17, nQ18, iQ2, iQ3, iQ4, iQ5, iQ6, lQ19, iQ7, lQ20, hb.one]
  refine l33Two_ok hb hB fun p vP vB W B vx x vy y d hR hvx hx hvy hy => ?_
  have g1 := hR.P.one
  have g2 := hR.B.one
  simp only [pwA, if_true, if_false, eq_self, nm_eq, reduceCtorEq, ↓reduceIte, nQ10, nQ7, nQ11, nQ12, nQ16, nQ17, nQ18, iQ2, iQ3, iQ4, iQ5, iQ6, lQ19, iQ7, lQ20, g1, g2]
  exact Gh.fin0 (keep_new _ _) ⟨⟨trivial, hR.P.bel _, hR.B.bel _, trivial⟩, hvx.bel _, hvy.bel _, trivial⟩ (hk p vP vB W B vx x vy y d hR hvx hx hvy hy)
theorem DrawSumByProducts_ok (hb : FB vC bs) (hB : Byt bs) (hk : ∀ p vP vB W B vx x vy y, DrR p W B → IsR vP vB W B → FI vx x → x.length ≤ 7 → FI vy y → y.length ≤ 7 → K (.tup [.agg [.int .i64 p, vP, vB], vx, vy]) σ) : PCalls Tryz.prog 25 [vC] σ K := by
  refine PCalls.gh ?_
  refine pcalls_of_vp mix Tryz.func25 cf25 rfl ?_
  dsimp only [if25, qI, eI, nI, qD, eD]
  simp only [pwA, if_true, if_false, eq_self, nm_eq, reduceCtorEq, ↓reduceIte, nQ10, nQ7, nQ11, nQ12, nQ16, nQ17, nQ18, iQ2, iQ3, iQ4, iQ5, iQ6, lQ19, iQ7, lQ20, hb.one]
  refine l33Two_ok hb hB fun p vP vB W B vx x vy y d hR hvx hx hvy hy => ?_
  have g1 := hR.P.one
  have g2 := hR.B.one
  simp only [pwA, if_true, if_false, eq_self, nm_eq, reduceCtorEq, ↓reduceIte, nQ10, nQ7, nQ11, nQ12, nQ16, nQ17, nQ18, iQ2, iQ3, iQ4, iQ5, iQ6, lQ19, iQ7, lQ20, g1, g2]
  exact Gh.fin0 (keep_new _ _) ⟨⟨trivial, hR.P.bel _, hR.B.bel _, trivial⟩, hvx.bel _, hvy.bel _, trivial⟩ (hk p vP vB W B vx x vy y d hR hvx hx hvy hy)
theorem DrawConjugateTerms_ok (hb : FB vC bs) (hB : Byt bs) (hk : ∀ p vP vB W B vx x vy y, DrR p W B → IsR vP vB W B → FI vx x → x.length ≤ 7 → FI vy y → y.length ≤ 7 → K (.tup [.agg [.int .i64 p, vP, vB], vx, vy]) σ) : PCalls Tryz.prog 35 [vC] σ K := by
  refine PCalls.gh ?_
  refine pcalls_of_vp mix Tryz.func35 cf35 rfl ?_
  dsimp only [if35, qI, eI, nI, qD, eD]
  simp only [pwA, if_true, if_false, eq_self, nm_eq, reduceCtorEq, ↓reduceIte, nQ10, nQ7, nQ11, nQ12, nQ16, nQ17, nQ18, iQ2, iQ3, iQ4, iQ5, iQ6, lQ19, iQ7, lQ20, hb.one]
  refine l33Two_ok hb hB fun p vP vB W B vx x vy y d hR hvx hx hvy hy => ?_
  have g1 := hR.P.one
  have g2 := hR.B.one
  simp only [pwA, if_true, if_false, eq_self, nm_eq, reduceCtorEq, ↓reduceIte, nQ10, nQ7, nQ11, nQ12, nQ16, nQ17, nQ18, iQ2, iQ3, iQ4, iQ5, iQ6, lQ19, iQ7, lQ20, g1, g2]
  exact Gh.fin0 (keep_new _ _) ⟨⟨trivial, hR.P.bel _, hR.B.bel _, trivial⟩, hvx.bel _, hvy.bel _, trivial⟩ (hk p vP vB W B vx x vy y d hR hvx hx hvy hy)
end Go.Proofs
namespace Go.Proofs
open Go.Ab Go.Lie
variable {p : Int} {n : Nat} {W : List (List Int)} {B : List (List (List Int))} {c k : Nat} {f g h : Vec}
theorem brv_add2 (f g g' : Vec) (t : Nat) : brv B n f (fun j => g j + g' j) t = brv B n f g t + brv B n f g' t := by
  rw [brv_anti, brv_add, brv_anti g f, brv_anti g' f]
  grind
theorem brv_units1 (f g : Vec) (t : Nat) : brv B n f g t = sumN n fun k => f k * brv B n (at_ (unitL n k)) g t := by
  rw [brv_anti, brv_units f g, ← sumN_mul]
  refine sumN_congr fun k hk => ?_
  rw [brv_anti g (at_ (unitL n k))]
  grind
theorem brv_fcongr {f f' g g' : Vec} (h : ∀ j, f j = f' j) (h' : ∀ j, g j = g' j) (t : Nat) : brv B n f g t = brv B n f' g' t := brv_congr (fun j _ => h j) (fun j _ => h' j) t
def jac (B : List (List (List Int))) (n : Nat) (f g h : Vec) : Vec := fun t => brv B n (brv B n f g) h t + brv B n (brv B n g h) f t + brv B n (brv B n h f) g t
theorem jac_cyc (f g h : Vec) (t : Nat) : jac B n f g h t = jac B n g h f t := by
  simp only [jac]
  omega
theorem brv_neg1 (f g h : Vec) (t : Nat) : brv B n (brv B n f g) h t = -1 * brv B n (brv B n g f) h t := by
  rw [brv_fcongr (f' := fun j => -1 * brv B n g f j) (g' := h) (fun j => brv_anti f g j) (fun _ => rfl), brv_mul]
theorem jac_swap (f g h : Vec) (t : Nat) : jac B n f g h t = -1 * jac B n g f h t := by
  simp only [jac]
  rw [brv_neg1 f g, brv_neg1 g h, brv_neg1 h f]
  omega
theorem jac_same (f h : Vec) (t : Nat) : jac B n f f h t = 0 := by
  have := jac_swap (B := B) (n := n) f f h t
  omega
theorem jac_lin (f g h : Vec) (t : Nat) : jac B n f g h t = sumN n fun k => f k * jac B n (at_ (unitL n k)) g h t := by
  simp only [jac]
  rw [brv_fcongr (f' := fun j => sumN n fun k => f k * brv B n (at_ (unitL n k)) g j) (g' := h) (fun j => brv_units1 f g j) (fun _ => rfl), brv_sum (t := t) (g := h) n (fun k j => f k * brv B n (at_ (unitL n k)) g j),
    brv_units f (brv B n g h), brv_fcongr (f' := fun j => sumN n fun k => f k * brv B n h (at_ (unitL n k)) j) (g' := g) (fun j => brv_units f h j) (fun _ => rfl), brv_sum (t := t) (g := g) n (fun k j => f k * brv B n h (at_ (unitL n k)) j), ← sumN_add, ← sumN_add]
  refine sumN_congr fun k hk => ?_
  rw [brv_mul, brv_mul]
  grind
theorem jac_of (hu : ∀ k, k < n → Eqv p n W (jac B n (at_ (unitL n k)) g h) fun _ => 0) : Eqv p n W (jac B n f g h) fun _ => 0 :=
  (Eqv.of_eq fun t => jac_lin f g h t).trans (eqv_sum0 n (fun k t => f k * jac B n (at_ (unitL n k)) g h t) fun k hk => ((hu k hk).mul (f k)).trans (Eqv.of_eq fun t => by grind))
theorem jac_unit (o : OkW p n W) (q : OkB p n B) (nf : NoFault p W B n) {i j k : Nat} (hij : i < j) (hjk : j < k) (hk : k < n) : Eqv p n W (jac B n (at_ (unitL n i)) (at_ (unitL n j)) (at_ (unitL n k))) fun _ => 0 := by
  have h := nf.2 i j k hij hjk hk
  unfold F2 at h
  have e : ∀ a b c : List Int, Eqv p n W (at_ (br p W B n (br p W B n a b) c)) (brv B n (brv B n (at_ a) (at_ b)) (at_ c)) := fun a b c => (br_eqv o q _ _).trans (brv_eqv o q nf _ (br_eqv o q a b))
  have ev2 := (((ladd_eqv o (lmix_el o (br_el o q) (br_el o q)) (br_el o q)).symm.trans (Eqv.of_eq (isZ_at h))))
  refine Eqv.trans ?_ ev2
  refine (Eqv.of_eq fun t => rfl).trans (Eqv.add (Eqv.trans ?_ (ladd_eqv o (br_el o q) (br_el o q)).symm) (e _ _ _).symm)
  exact Eqv.add (e _ _ _).symm (e _ _ _).symm
theorem jac_units (o : OkW p n W) (q : OkB p n B) (nf : NoFault p W B n) {i j k : Nat} (hi : i < n) (hj : j < n) (hk : k < n) : Eqv p n W (jac B n (at_ (unitL n i)) (at_ (unitL n j)) (at_ (unitL n k))) fun _ => 0 := by
  have cyc : ∀ {a b c : Vec}, Eqv p n W (jac B n b c a) (fun _ => 0) → Eqv p n W (jac B n a b c) fun _ => 0 := fun h => (Eqv.of_eq fun t => jac_cyc _ _ _ t).trans h
  have swp : ∀ {a b c : Vec}, Eqv p n W (jac B n b a c) (fun _ => 0) → Eqv p n W (jac B n a b c) fun _ => 0 := fun h => (Eqv.of_eq fun t => jac_swap _ _ _ t).trans ((h.mul (-1)).trans (Eqv.of_eq fun t => rfl))
  have sam : ∀ {a c : Vec}, Eqv p n W (jac B n a a c) (fun _ => 0) := Eqv.of_eq fun t => jac_same _ _ t
  rcases Nat.lt_trichotomy i j with h1 | rfl | h1
  · rcases Nat.lt_trichotomy j k with h2 | rfl | h2
    · exact jac_unit o q nf h1 h2 hk
    · exact cyc sam
    · rcases Nat.lt_trichotomy i k with h3 | rfl | h3
      · exact cyc (swp (cyc (cyc (jac_unit o q nf h3 h2 hj))))
      · exact cyc (cyc sam)
      · exact cyc (cyc (jac_unit o q nf h3 h1 hj))
  · exact sam
  · rcases Nat.lt_trichotomy j k with h2 | rfl | h2
    · rcases Nat.lt_trichotomy i k with h3 | rfl | h3
      · exact swp (jac_unit o q nf h1 h3 hk)
      · exact cyc (cyc sam)
      · exact cyc (jac_unit o q nf h2 h3 hi)
    · exact cyc sam
    · exact swp (cyc (cyc (jac_unit o q nf h2 h1 hi)))
theorem jac_zero (o : OkW p n W) (q : OkB p n B) (nf : NoFault p W B n) (f g h : Vec) : Eqv p n W (jac B n f g h) fun _ => 0 := by
  have cyc : ∀ {a b c : Vec}, Eqv p n W (jac B n b c a) (fun _ => 0) → Eqv p n W (jac B n a b c) fun _ => 0 := fun h => (Eqv.of_eq fun t => jac_cyc _ _ _ t).trans h
  refine jac_of fun i hi => cyc (jac_of fun j hj => cyc (jac_of fun k hk => cyc ?_))
  exact jac_units o q nf hi hj hk
theorem Rg.brk3 (r : Rg p n W B c) (hh : Lw p n W B k h) (f g : Vec) : Lw p n W B (k + 2) (brv B n (brv B n f g) h) := by
  have h1 := r.brk2 (r.brk2 hh g) f
  have h2 := r.brk2 (r.brk2 hh f) g
  refine (r.sub _).eqv _ _ ?_ ((r.sub _).add _ _ h1 ((r.sub _).mul (-1) _ h2))
  have h0 := jac_zero r.o r.q r.nf f g h
  refine (Eqv.of_eq fun t => ?_).trans ((((Eqv.refl (fun t => brv B n f (brv B n g h) t + -1 * brv B n g (brv B n f h) t)).add h0)).trans (Eqv.of_eq fun t => by omega))
  simp only [jac]
  have ev1 := brv_anti (B := B) (n := n) (brv B n g h) f t
  have ev2 := brv_anti (B := B) (n := n) (brv B n h f) g t
  have ev3 : brv B n g (brv B n h f) t = -1 * brv B n g (brv B n f h) t := by
    rw [brv_fcongr (f' := g) (g' := fun j => -1 * brv B n f h j) (fun _ => rfl) (fun j => brv_anti h f j), brv_mul2]
  omega
section
variable {X Y Z : Vec}
def ev1 (X Y Z : Vec) (a : List Int) : Vec := fun t => at_ a 0 * X t + at_ a 1 * Y t + at_ a 2 * Z t
def ev2 (B : List (List (List Int))) (n : Nat) (X Y Z : Vec) (a : List Int) : Vec := fun t => at_ a 3 * brv B n X Y t + at_ a 4 * brv B n X Z t + at_ a 5 * brv B n Y Z t
def ev3 (B : List (List (List Int))) (n : Nat) (X Y Z : Vec) (a : List Int) : Vec := fun t =>
  at_ a 6 * brv B n X (brv B n X Y) t + at_ a 7 * brv B n Y (brv B n X Y) t + at_ a 8 * brv B n Z (brv B n X Y) t + at_ a 9 * brv B n X (brv B n X Z) t
  + at_ a 10 * brv B n Y (brv B n X Z) t + at_ a 11 * brv B n Z (brv B n X Z) t + at_ a 12 * brv B n Y (brv B n Y Z) t + at_ a 13 * brv B n Z (brv B n Y Z) t
def evv (B : List (List (List Int))) (n : Nat) (X Y Z : Vec) (a : List Int) : Vec := fun t => ev1 X Y Z a t + (ev2 B n X Y Z a t + ev3 B n X Y Z a t)
def tbl (a b : List Int) : List Int :=
  [0, 0, 0, at_ a 0 * at_ b 1 - at_ a 1 * at_ b 0, at_ a 0 * at_ b 2 - at_ a 2 * at_ b 0, at_ a 1 * at_ b 2 - at_ a 2 * at_ b 1,
   at_ a 0 * at_ b 3 - at_ b 0 * at_ a 3, at_ a 1 * at_ b 3 - at_ b 1 * at_ a 3, at_ a 2 * at_ b 3 - at_ a 0 * at_ b 5 - (at_ b 2 * at_ a 3 - at_ b 0 * at_ a 5),
   at_ a 0 * at_ b 4 - at_ b 0 * at_ a 4, at_ a 1 * at_ b 4 + at_ a 0 * at_ b 5 - (at_ b 1 * at_ a 4 + at_ b 0 * at_ a 5), at_ a 2 * at_ b 4 - at_ b 2 * at_ a 4,
   at_ a 1 * at_ b 5 - at_ b 1 * at_ a 5, at_ a 2 * at_ b 5 - at_ b 2 * at_ a 5]
theorem at_tbl (a b : List Int) : at_ (tbl a b) 0 = 0 ∧ at_ (tbl a b) 1 = 0 ∧ at_ (tbl a b) 2 = 0 ∧ at_ (tbl a b) 3 = at_ a 0 * at_ b 1 - at_ a 1 * at_ b 0 ∧ at_ (tbl a b) 4 = at_ a 0 * at_ b 2 - at_ a 2 * at_ b 0
    ∧ at_ (tbl a b) 5 = at_ a 1 * at_ b 2 - at_ a 2 * at_ b 1 ∧ at_ (tbl a b) 6 = at_ a 0 * at_ b 3 - at_ b 0 * at_ a 3 ∧ at_ (tbl a b) 7 = at_ a 1 * at_ b 3 - at_ b 1 * at_ a 3
    ∧ at_ (tbl a b) 8 = at_ a 2 * at_ b 3 - at_ a 0 * at_ b 5 - (at_ b 2 * at_ a 3 - at_ b 0 * at_ a 5) ∧ at_ (tbl a b) 9 = at_ a 0 * at_ b 4 - at_ b 0 * at_ a 4
    ∧ at_ (tbl a b) 10 = at_ a 1 * at_ b 4 + at_ a 0 * at_ b 5 - (at_ b 1 * at_ a 4 + at_ b 0 * at_ a 5) ∧ at_ (tbl a b) 11 = at_ a 2 * at_ b 4 - at_ b 2 * at_ a 4
    ∧ at_ (tbl a b) 12 = at_ a 1 * at_ b 5 - at_ b 1 * at_ a 5 ∧ at_ (tbl a b) 13 = at_ a 2 * at_ b 5 - at_ b 2 * at_ a 5 := ⟨rfl, rfl, rfl, rfl, rfl, rfl, rfl, rfl, rfl, rfl, rfl, rfl, rfl, rfl⟩
theorem e1_brv (a : List Int) (g : Vec) (t : Nat) : brv B n (ev1 X Y Z a) g t = at_ a 0 * brv B n X g t + at_ a 1 * brv B n Y g t + at_ a 2 * brv B n Z g t := by
  unfold ev1
  rw [brv_add, brv_add, brv_mul, brv_mul, brv_mul]
theorem brv_e1 (a : List Int) (g : Vec) (t : Nat) : brv B n g (ev1 X Y Z a) t = at_ a 0 * brv B n g X t + at_ a 1 * brv B n g Y t + at_ a 2 * brv B n g Z t := by
  unfold ev1
  rw [brv_add2, brv_add2, brv_mul2, brv_mul2, brv_mul2]
theorem brv_e2 (a : List Int) (g : Vec) (t : Nat) : brv B n g (ev2 B n X Y Z a) t = at_ a 3 * brv B n g (brv B n X Y) t + at_ a 4 * brv B n g (brv B n X Z) t + at_ a 5 * brv B n g (brv B n Y Z) t := by
  unfold ev2
  rw [brv_add2, brv_add2, brv_mul2, brv_mul2, brv_mul2]
theorem e2_brv (a : List Int) (g : Vec) (t : Nat) : brv B n (ev2 B n X Y Z a) g t = at_ a 3 * brv B n (brv B n X Y) g t + at_ a 4 * brv B n (brv B n X Z) g t + at_ a 5 * brv B n (brv B n Y Z) g t := by
  unfold ev2
  rw [brv_add, brv_add, brv_mul, brv_mul, brv_mul]
theorem br11 (a b : List Int) (t : Nat) : brv B n (ev1 X Y Z a) (ev1 X Y Z b) t = ev2 B n X Y Z (tbl a b) t := by
  simp only [e1_brv, brv_e1, brv_self, brv_anti (B := B) (n := n) Y X, brv_anti (B := B) (n := n) Z X, brv_anti (B := B) (n := n) Z Y, ev2]
  obtain ⟨_, _, _, h3, h4, h5, _⟩ := at_tbl a b
  rw [h3, h4, h5]
  grind
theorem br123 (a b : List Int) (t : Nat) : brv B n (ev1 X Y Z a) (ev2 B n X Y Z b) t + brv B n (ev2 B n X Y Z a) (ev1 X Y Z b) t
    = ev3 B n X Y Z (tbl a b) t + (at_ b 0 * at_ a 5 - at_ a 0 * at_ b 5) * jac B n Z X Y t := by
  rw [brv_anti (ev2 B n X Y Z a)]
  simp only [e1_brv, brv_e2, ev3, jac]
  obtain ⟨_, _, _, _, _, _, h6, h7, h8, h9, h10, h11, h12, h13⟩ := at_tbl a b
  rw [h6, h7, h8, h9, h10, h11, h12, h13, brv_anti (brv B n Z X), brv_anti (brv B n X Y), brv_anti (brv B n Y Z),
    brv_fcongr (f := Y) (f' := Y) (g' := fun j => -1 * brv B n X Z j) (fun _ => rfl) (fun j => brv_anti Z X j), brv_mul2]
  grind
theorem Rg.e1_lw (r : Rg p n W B c) (hX : Lw p n W B 0 X) (hY : Lw p n W B 0 Y) (hZ : Lw p n W B 0 Z) (a : List Int) : Lw p n W B 0 (ev1 X Y Z a) :=
  (r.sub 0).add _ _ ((r.sub 0).add _ _ ((r.sub 0).mul _ _ hX) ((r.sub 0).mul _ _ hY)) ((r.sub 0).mul _ _ hZ)
theorem Rg.e2_lw (r : Rg p n W B c) (hY : Lw p n W B 0 Y) (hZ : Lw p n W B 0 Z) (a : List Int) : Lw p n W B 1 (ev2 B n X Y Z a) :=
  (r.sub 1).add _ _ ((r.sub 1).add _ _ ((r.sub 1).mul _ _ (r.brk2 hY _)) ((r.sub 1).mul _ _ (r.brk2 hZ _))) ((r.sub 1).mul _ _ (r.brk2 hZ _))
theorem Rg.e3_lw (r : Rg p n W B c) (hY : Lw p n W B 0 Y) (hZ : Lw p n W B 0 Z) (a : List Int) : Lw p n W B 2 (ev3 B n X Y Z a) := by
  have b2 : ∀ {e f g : Vec}, Lw p n W B 0 g → Lw p n W B 2 (brv B n e (brv B n f g)) := fun h => r.brk2 (r.brk2 h _) _
  have s := r.sub 2
  exact s.add _ _ (s.add _ _ (s.add _ _ (s.add _ _ (s.add _ _ (s.add _ _ (s.add _ _ (s.mul _ _ (b2 hY)) (s.mul _ _ (b2 hY))) (s.mul _ _ (b2 hY))) (s.mul _ _ (b2 hZ))) (s.mul _ _ (b2 hZ))) (s.mul _ _ (b2 hZ))) (s.mul _ _ (b2 hZ))) (s.mul _ _ (b2 hZ))
theorem Rg.evv_brv (r : Rg p n W B c) (hc : c ≤ 3) (hX : Lw p n W B 0 X) (hY : Lw p n W B 0 Y) (hZ : Lw p n W B 0 Z) (a b : List Int) :
    Eqv p n W (brv B n (evv B n X Y Z a) (evv B n X Y Z b)) (evv B n X Y Z (tbl a b)) := by
  have s := fun k => r.sub k
  have l1 := fun a => r.e1_lw hX hY hZ a
  have l2 := fun a => r.e2_lw (X := X) hY hZ a
  have l3 := fun a => r.e3_lw (X := X) hY hZ a
  have z3 : ∀ {f : Vec}, Lw p n W B 3 f → Eqv p n W f fun _ => 0 := fun h => r.top hc h
  have y1 : Eqv p n W (brv B n (ev3 B n X Y Z a) (evv B n X Y Z b)) fun _ => 0 := z3 (r.brk (l3 a) _)
  have y2 : Eqv p n W (brv B n (ev1 X Y Z a) (ev3 B n X Y Z b)) fun _ => 0 := z3 (r.brk2 (l3 b) _)
  have y4 : Eqv p n W (brv B n (ev2 B n X Y Z a) (fun j => ev2 B n X Y Z b j + ev3 B n X Y Z b j)) fun _ => 0 := by
    have hl : Lw p n W B 1 (fun j => ev2 B n X Y Z b j + ev3 B n X Y Z b j) := (s 1).add _ _ (l2 b) (r.down (l3 b))
    refine z3 ((s 3).eqv _ _ (Eqv.of_eq fun t => e2_brv a _ t) ?_)
    exact (s 3).add _ _ ((s 3).add _ _ ((s 3).mul _ _ (r.brk3 hl _ _)) ((s 3).mul _ _ (r.brk3 hl _ _))) ((s 3).mul _ _ (r.brk3 hl _ _))
  have yj := (jac_zero r.o r.q r.nf Z X Y).mul (at_ b 0 * at_ a 5 - at_ a 0 * at_ b 5)
  have all := ((y1.add y2).add y4).add yj
  refine (Eqv.of_eq fun t => ?_).trans (((Eqv.refl (evv B n X Y Z (tbl a b))).add all).trans (Eqv.of_eq fun t => by simp))
  have q1 := br11 (B := B) (n := n) (X := X) (Y := Y) (Z := Z) a b t
  have q2 := br123 (B := B) (n := n) (X := X) (Y := Y) (Z := Z) a b t
  have q3 : brv B n (evv B n X Y Z a) (evv B n X Y Z b) t = brv B n (ev1 X Y Z a) (evv B n X Y Z b) t + (brv B n (ev2 B n X Y Z a) (evv B n X Y Z b) t + brv B n (ev3 B n X Y Z a) (evv B n X Y Z b) t) := by
    rw [show evv B n X Y Z a = fun j => ev1 X Y Z a j + (fun j => ev2 B n X Y Z a j + ev3 B n X Y Z a j) j from rfl, brv_add, brv_add]
  have q4 : ∀ f : Vec, brv B n f (evv B n X Y Z b) t = brv B n f (ev1 X Y Z b) t + brv B n f (fun j => ev2 B n X Y Z b j + ev3 B n X Y Z b j) t := fun f => by
    rw [show evv B n X Y Z b = fun j => ev1 X Y Z b j + (fun j => ev2 B n X Y Z b j + ev3 B n X Y Z b j) j from rfl, brv_add2]
  have q5 : ∀ f : Vec, brv B n f (fun j => ev2 B n X Y Z b j + ev3 B n X Y Z b j) t = brv B n f (ev2 B n X Y Z b) t + brv B n f (ev3 B n X Y Z b) t := fun f => brv_add2 _ _ _ t
  have q6 := q4 (ev1 X Y Z a)
  have q7 := q4 (ev2 B n X Y Z a)
  have q8 := q5 (ev1 X Y Z a)
  have q9 : ev1 X Y Z (tbl a b) t = 0 := by
    obtain ⟨h0, h1, h2, _⟩ := at_tbl a b
    simp only [ev1]
    rw [h0, h1, h2]
    omega
  have q10 : evv B n X Y Z (tbl a b) t = ev1 X Y Z (tbl a b) t + (ev2 B n X Y Z (tbl a b) t + ev3 B n X Y Z (tbl a b) t) := rfl
  omega
end
end Go.Proofs
namespace Go.Proofs
open Go.Ab Go.Lie
variable {p : Int} {n m : Nat} {W : List (List Int)} {B : List (List (List Int))} {c : Nat} {X Y Z : Vec} {a b : List Int} {x y : List Int}
def kadd (a b : List Int) : List Int := [at_ a 0 + at_ b 0, at_ a 1 + at_ b 1, at_ a 2 + at_ b 2, at_ a 3 + at_ b 3, at_ a 4 + at_ b 4, at_ a 5 + at_ b 5, at_ a 6 + at_ b 6, at_ a 7 + at_ b 7, at_ a 8 + at_ b 8, at_ a 9 + at_ b 9, at_ a 10 + at_ b 10, at_ a 11 + at_ b 11, at_ a 12 + at_ b 12, at_ a 13 + at_ b 13]
def kmul (k : Int) (a : List Int) : List Int := [k * at_ a 0, k * at_ a 1, k * at_ a 2, k * at_ a 3, k * at_ a 4, k * at_ a 5, k * at_ a 6, k * at_ a 7, k * at_ a 8, k * at_ a 9, k * at_ a 10, k * at_ a 11, k * at_ a 12, k * at_ a 13]
def kdiv (a : List Int) (k : Int) : List Int := [at_ a 0 / k, at_ a 1 / k, at_ a 2 / k, at_ a 3 / k, at_ a 4 / k, at_ a 5 / k, at_ a 6 / k, at_ a 7 / k, at_ a 8 / k, at_ a 9 / k, at_ a 10 / k, at_ a 11 / k, at_ a 12 / k, at_ a 13 / k]
theorem at_lt {f : Nat → Int} {l : List Int} (h0 : at_ l 0 = f 0 ∧ at_ l 1 = f 1 ∧ at_ l 2 = f 2 ∧ at_ l 3 = f 3 ∧ at_ l 4 = f 4 ∧ at_ l 5 = f 5 ∧ at_ l 6 = f 6 ∧ at_ l 7 = f 7 ∧ at_ l 8 = f 8 ∧ at_ l 9 = f 9 ∧ at_ l 10 = f 10 ∧ at_ l 11 = f 11 ∧ at_ l 12 = f 12 ∧ at_ l 13 = f 13) : ∀ i, i < 14 → at_ l i = f i := fun i hi => by
  obtain ⟨h0, h1, h2, h3, h4, h5, h6, h7, h8, h9, h10, h11, h12, h13⟩ := h0
  match i, hi with
  | 0, _ => exact h0
  | 1, _ => exact h1
  | 2, _ => exact h2
  | 3, _ => exact h3
  | 4, _ => exact h4
  | 5, _ => exact h5
  | 6, _ => exact h6
  | 7, _ => exact h7
  | 8, _ => exact h8
  | 9, _ => exact h9
  | 10, _ => exact h10
  | 11, _ => exact h11
  | 12, _ => exact h12
  | 13, _ => exact h13
theorem at_kadd (a b : List Int) : ∀ i, i < 14 → at_ (kadd a b) i = at_ a i + at_ b i := at_lt (f := fun i => at_ a i + at_ b i) ⟨rfl, rfl, rfl, rfl, rfl, rfl, rfl, rfl, rfl, rfl, rfl, rfl, rfl, rfl⟩
theorem at_kmul (k : Int) (a : List Int) : ∀ i, i < 14 → at_ (kmul k a) i = k * at_ a i := at_lt (f := fun i => k * at_ a i) ⟨rfl, rfl, rfl, rfl, rfl, rfl, rfl, rfl, rfl, rfl, rfl, rfl, rfl, rfl⟩
theorem at_kdiv (k : Int) (a : List Int) : ∀ i, i < 14 → at_ (kdiv a k) i = at_ a i / k := at_lt (f := fun i => at_ a i / k) ⟨rfl, rfl, rfl, rfl, rfl, rfl, rfl, rfl, rfl, rfl, rfl, rfl, rfl, rfl⟩
theorem evv_add (t : Nat) : evv B n X Y Z (kadd a b) t = evv B n X Y Z a t + evv B n X Y Z b t := by
  have h := at_kadd a b
  simp only [evv, ev1, ev2, ev3]
  rw [h 0 (by omega), h 1 (by omega), h 2 (by omega), h 3 (by omega), h 4 (by omega), h 5 (by omega), h 6 (by omega), h 7 (by omega), h 8 (by omega), h 9 (by omega), h 10 (by omega), h 11 (by omega), h 12 (by omega), h 13 (by omega)]
  grind
theorem evv_mul (k : Int) (t : Nat) : evv B n X Y Z (kmul k a) t = k * evv B n X Y Z a t := by
  have h := at_kmul k a
  simp only [evv, ev1, ev2, ev3]
  rw [h 0 (by omega), h 1 (by omega), h 2 (by omega), h 3 (by omega), h 4 (by omega), h 5 (by omega), h 6 (by omega), h 7 (by omega), h 8 (by omega), h 9 (by omega), h 10 (by omega), h 11 (by omega), h 12 (by omega), h 13 (by omega)]
  grind
structure Md (p : Int) (c m : Nat) : Prop where
  c3 : c ≤ 3
  cut : m = 14 ∨ (m = 6 ∧ c ≤ 2) ∨ (m = 3 ∧ c ≤ 1)
  d2 : m ≤ 3 ∨ (Cop p 2 ∧ Cop p (-2))
  d12 : m ≤ 6 ∨ (Cop p 12 ∧ Cop p (-12))
structure Cx (p : Int) (n : Nat) (W : List (List Int)) (B : List (List (List Int))) (c m : Nat) (X Y Z : Vec) : Prop where
  z : Lz p n W B c
  md : Md p c m
  x : Lw p n W B 0 X
  y : Lw p n W B 0 Y
  w : Lw p n W B 0 Z
structure EV (p : Int) (n : Nat) (W : List (List Int)) (B : List (List (List Int))) (X Y Z : Vec) (a x : List Int) : Prop where
  el : El p n x
  eqv : Eqv p n W (at_ x) (evv B n X Y Z a)
theorem Cx.cut (k : Cx p n W B c m X Y Z) (h : ∀ i, i < m → at_ a i = at_ b i) : Eqv p n W (evv B n X Y Z a) (evv B n X Y Z b) := by
  have r := k.z.r
  rcases k.md.cut with rfl | ⟨rfl, hc⟩ | ⟨rfl, hc⟩
  · refine Eqv.of_eq fun t => ?_
    simp only [evv, ev1, ev2, ev3]
    rw [h 0 (by omega), h 1 (by omega), h 2 (by omega), h 3 (by omega), h 4 (by omega), h 5 (by omega), h 6 (by omega), h 7 (by omega), h 8 (by omega), h 9 (by omega), h 10 (by omega), h 11 (by omega), h 12 (by omega), h 13 (by omega)]
  · have h3 : ∀ a, Eqv p n W (ev3 B n X Y Z a) fun _ => 0 := fun a => r.top hc (r.e3_lw k.y k.w a)
    refine (((Eqv.refl (ev1 X Y Z a)).add ((Eqv.refl (ev2 B n X Y Z a)).add (h3 a))).trans (Eqv.of_eq fun t => ?_)).trans ((Eqv.refl (ev1 X Y Z b)).add ((Eqv.refl (ev2 B n X Y Z b)).add (h3 b))).symm
    simp only [ev1, ev2]
    rw [h 0 (by omega), h 1 (by omega), h 2 (by omega), h 3 (by omega), h 4 (by omega), h 5 (by omega)]
  · have h3 : ∀ a, Eqv p n W (ev3 B n X Y Z a) fun _ => 0 := fun a => r.top (by omega) (r.e3_lw k.y k.w a)
    have h2 : ∀ a, Eqv p n W (ev2 B n X Y Z a) fun _ => 0 := fun a => r.top (by omega) (r.e2_lw k.y k.w a)
    refine (((Eqv.refl (ev1 X Y Z a)).add ((h2 a).add (h3 a))).trans (Eqv.of_eq fun t => ?_)).trans ((Eqv.refl (ev1 X Y Z b)).add ((h2 b).add (h3 b))).symm
    simp only [ev1]
    rw [h 0 (by omega), h 1 (by omega), h 2 (by omega)]
theorem evv_lw (k : Cx p n W B c m X Y Z) (a : List Int) : Lw p n W B 0 (evv B n X Y Z a) :=
  (k.z.r.sub 0).add _ _ (k.z.r.e1_lw k.x k.y k.w a) ((k.z.r.sub 0).add _ _ (k.z.r.le (by omega) (k.z.r.e2_lw k.y k.w a)) (k.z.r.le (by omega) (k.z.r.e3_lw k.y k.w a)))
theorem evv_ex (k : Cx p n W B c m X Y Z) (a : List Int) : ∃ z, EV p n W B X Y Z a z := by
  obtain ⟨u, hu, hg⟩ := evv_lw k a
  obtain ⟨z, h1, h2, _⟩ := gen_rep k.z.r.o (hu.els k.z.r.o).1 hg
  exact ⟨z, h1, h2.symm⟩
theorem EV.same (k : Cx p n W B c m X Y Z) (h : EV p n W B X Y Z a x) (g : EV p n W B X Y Z b y) (e : ∀ i, i < m → at_ a i = at_ b i) : x = y :=
  eqv_unique k.z.r.o h.el.1 g.el.1 h.el.2 g.el.2 (h.eqv.trans ((k.cut e).trans g.eqv.symm))
theorem EV.to (k : Cx p n W B c m X Y Z) (h : EV p n W B X Y Z a x) (e : ∀ i, i < m → at_ a i = at_ b i) : EV p n W B X Y Z b x := ⟨h.el, h.eqv.trans (k.cut e)⟩
theorem EV.add (k : Cx p n W B c m X Y Z) (h : EV p n W B X Y Z a x) (g : EV p n W B X Y Z b y) : EV p n W B X Y Z (kadd a b) (ladd p W x y) :=
  ⟨lmix_el k.z.r.o h.el g.el, (ladd_eqv k.z.r.o h.el g.el).trans ((h.eqv.add g.eqv).trans (Eqv.of_eq fun t => (evv_add t).symm))⟩
theorem EV.mul (k : Cx p n W B c m X Y Z) (h : EV p n W B X Y Z a x) (q : Int) : EV p n W B X Y Z (kmul q a) (lmul p W q x) :=
  ⟨lmix_el k.z.r.o h.el h.el, (lmul_eqv k.z.r.o h.el q).trans ((h.eqv.mul q).trans (Eqv.of_eq fun t => (evv_mul q t).symm))⟩
theorem EV.brk (k : Cx p n W B c m X Y Z) (h : EV p n W B X Y Z a x) (g : EV p n W B X Y Z b y) : EV p n W B X Y Z (tbl a b) (br p W B n x y) :=
  ⟨br_el k.z.r.o k.z.r.q, (br_eqv k.z.r.o k.z.r.q x y).trans (((brv_eqv k.z.r.o k.z.r.q k.z.r.nf _ h.eqv).trans (brv_eqv2 k.z.r.o k.z.r.q k.z.r.nf _ g.eqv)).trans (k.z.r.evv_brv k.md.c3 k.x k.y k.w a b))⟩
theorem dv_of (o : OkW p n W) {k : Int} {x z : List Int} (hk : Cop p k) (hx : El p n x) (hz : El p n z) (h : Eqv p n W (fun j => k * at_ z j) (at_ x)) : z = dv p n W k x := by
  refine dv_eq o hx ⟨hz, fun h0 => ?_, fun _ => h⟩ (.inr hk)
  rcases Nat.eq_zero_or_pos n with hn | hn
  · have ev1 := hz.1
    have ev2 := hx.1
    rw [List.eq_nil_of_length_eq_zero (ev1.trans hn), List.eq_nil_of_length_eq_zero (ev2.trans hn)]
  · obtain ⟨a, w, ha⟩ := cop_inv (p := p) hk hn
    have e : Eqv p n W (fun j => k * at_ z j) (fun j => 0) := h.trans (Eqv.of_eq (isZ_at h0))
    have k1 := (kill_all o (f := at_ z) (fun j hj => hz.beyond hj)).mul w
    have k2 := (Eqv.refl (p := p) (n := n) (W := W) (at_ z)).add k1
    have ev3 : Eqv p n W (at_ z) (at_ x) := (((Eqv.of_eq fun j => (by omega)).trans k2.symm).trans (Eqv.of_eq fun j => (by grind))).trans ((e.mul a).trans (Eqv.of_eq fun j => (by rw [isZ_at h0, Int.mul_zero])))
    exact eqv_unique o hz.1 hx.1 hz.2 hx.2 ev3
theorem EV.div (k : Cx p n W B c m X Y Z) (h : EV p n W B X Y Z a x) {q : Int} (e : ∀ i, i < m → at_ a i = q * at_ b i) (hq : Cop p q) : EV p n W B X Y Z b (dv p n W q x) := by
  obtain ⟨w, hw⟩ := evv_ex k b
  rw [← dv_of k.z.r.o hq h.el hw.el]
  · exact hw
  · refine ((hw.eqv.mul q).trans (Eqv.of_eq fun t => (evv_mul q t).symm)).trans ((k.cut fun i hi => ?_).trans h.eqv.symm)
    have hm : m ≤ 14 := by rcases k.md.cut with h | h | h <;> omega
    rw [at_kmul q b i (by omega), e i hi]
theorem EV.divZ (k : Cx p n W B c m X Y Z) (h : EV p n W B X Y Z a x) {q : Int} (e : ∀ i, i < m → at_ a i = 0) : EV p n W B X Y Z a (dv p n W q x) := by
  have h0 : isZ x := zero_of_eqv k.z.r.o h.el (h.eqv.trans ((k.cut (b := []) fun i hi => e i hi).trans (Eqv.of_eq fun t => by simp [evv, ev1, ev2, ev3])))
  rw [(dv_spec k.z.r.o h.el (k := q)).nil h0]
  exact h
def kallm (m : Nat) (f : Nat → Bool) : Bool := (List.range m).all f
theorem allm_iff {m : Nat} {f : Nat → Bool} (h : kallm m f = true) : ∀ i, i < m → f i = true := fun i hi => by
  have := List.all_eq_true.1 h i (List.mem_range.2 hi)
  exact this
def keqm (m : Nat) (a b : List Int) : Bool := kallm m fun i => at_ a i == at_ b i
def kdvd (m : Nat) (a : List Int) (q : Int) : Bool := kallm m fun i => at_ a i % q == 0
theorem EV.eq (k : Cx p n W B c m X Y Z) (h : EV p n W B X Y Z a x) (g : EV p n W B X Y Z b y) (e : keqm m a b = true) : x = y := h.same k g fun i hi => by simpa using allm_iff e i hi
theorem EV.dvk (k : Cx p n W B c m X Y Z) (h : EV p n W B X Y Z a x) {q : Int} (e : kdvd m a q = true) (hq : Cop p q) : EV p n W B X Y Z (kdiv a q) (dv p n W q x) := by
  have hm : m ≤ 14 := by rcases k.md.cut with h | h | h <;> omega
  refine h.div k (fun i hi => ?_) hq
  rw [at_kdiv q a i (by omega)]
  have := allm_iff e i hi
  simp only [beq_iff_eq] at this
  exact (Int.mul_ediv_cancel' (Int.dvd_of_emod_eq_zero this)).symm
def kthird (a b : List Int) : List Int := kadd (tbl a (tbl a b)) (tbl b (kmul (-1) (tbl a b)))
def kbch (a b : List Int) : List Int := kadd (kadd (kadd a b) (kdiv (tbl a b) 2)) (kdiv (kthird a b) 12)
def kokb (m : Nat) (a b : List Int) : Bool := kdvd m (tbl a b) 2 && kdvd m (kthird a b) 12
theorem tbl_low (a b : List Int) {i : Nat} (hi : i < 3) : at_ (tbl a b) i = 0 := by
  obtain ⟨h0, h1, h2, _⟩ := at_tbl a b
  match i, hi with
  | 0, _ => exact h0
  | 1, _ => exact h1
  | 2, _ => exact h2
theorem tbl_low2 (a b : List Int) (hb : ∀ i, i < 3 → at_ b i = 0) {i : Nat} (hi : i < 6) : at_ (tbl a b) i = 0 := by
  obtain ⟨h0, h1, h2, h3, h4, h5, _⟩ := at_tbl a b
  have b0 := hb 0 (by omega)
  have b1 := hb 1 (by omega)
  have b2 := hb 2 (by omega)
  match i, hi with
  | 0, _ => exact h0
  | 1, _ => exact h1
  | 2, _ => exact h2
  | 3, _ => rw [h3, b0, b1]; omega
  | 4, _ => rw [h4, b0, b2]; omega
  | 5, _ => rw [h5, b1, b2]; omega
theorem kthird_low (a b : List Int) {i : Nat} (hi : i < 6) : at_ (kthird a b) i = 0 := by
  rw [kthird, at_kadd _ _ i (by omega), tbl_low2 _ _ (fun i hi => tbl_low a b hi) hi, tbl_low2 _ _ (fun i hi => by rw [at_kmul _ _ i (by omega), tbl_low a b hi]; omega) hi]
  omega
theorem EV.third (k : Cx p n W B c m X Y Z) (h : EV p n W B X Y Z a x) (g : EV p n W B X Y Z b y) : EV p n W B X Y Z (kthird a b) (third3 p W B n x y) :=
  (h.brk k (h.brk k g)).add k (g.brk k ((h.brk k g).mul k (-1)))
theorem EV.bch (k : Cx p n W B c m X Y Z) (h : EV p n W B X Y Z a x) (g : EV p n W B X Y Z b y) (e : kokb m a b = true) : EV p n W B X Y Z (kbch a b) (bch p n W B x y) := by
  have hm : m ≤ 14 := by rcases k.md.cut with h | h | h <;> omega
  simp only [kokb, Bool.and_eq_true] at e
  have z0 : ∀ {a : List Int} {q : Int} {v : List Int}, (∀ i, i < m → at_ a i = 0) → EV p n W B X Y Z a v → EV p n W B X Y Z (kdiv a q) (dv p n W q v) := fun h0 hv => (hv.divZ k h0).to k fun i hi => by
    rw [at_kdiv _ _ i (by omega), h0 i hi, Int.zero_ediv]
  have h2 : EV p n W B X Y Z (kdiv (tbl a b) 2) (dv p n W 2 (br p W B n x y)) := by
    rcases k.md.d2 with hl | hc
    · exact z0 (fun i hi => tbl_low a b (by omega)) (h.brk k g)
    · exact (h.brk k g).dvk k e.1 hc.1
  have h3 : EV p n W B X Y Z (kdiv (kthird a b) 12) (dv p n W 12 (third3 p W B n x y)) := by
    rcases k.md.d12 with hl | hc
    · exact z0 (fun i hi => kthird_low a b (by omega)) (h.third k g)
    · exact (h.third k g).dvk k e.2 hc.1
  exact ((h.add k g).add k h2).add k h3
theorem EV.zero (k : Cx p n W B c m X Y Z) : EV p n W B X Y Z [] (List.replicate n 0) :=
  ⟨rep_el k.z.r.o.pr, Eqv.of_eq fun t => by rw [at_rep]; simp [evv, ev1, ev2, ev3]⟩
theorem br_head2 (o : OkW p n W) (q : OkB p n B) (a b : List Int) : ∀ j, j < 2 → at_ (br p W B n a b) j = 0 := by
  have hs : ∀ t, t < 2 → at_ (bsum B a b n) t = 0 := fun t ht => by
    rw [bsum, bi_at q t (Nat.le_refl _)]
    refine sumN_zero _ fun i hi => sumN_zero _ fun j hj => ?_
    rw [(q.get hi hj).2 t (by omega), Int.mul_zero]
  intro j hj
  rcases Nat.lt_or_ge j n with x | x
  · exact norm_head o (bsum_length q) (d := min 2 n) (Nat.min_le_right _ _) (fun j hj => hs j (by omega)) j (by omega)
  · exact at_ge (by rw [(br_el o q).1]; exact x)
theorem low_dep2 (o : OkW p n W) (q : OkB p n B) : ∀ {k : Nat} {u : List (List Int)}, Low p n W B (k + 1) u → ∀ x ∈ u, k + 2 ≤ dep x
  | 0, u, h, y, hy => by
    cases h with
    | succ h hc =>
      have hl := hc.base.led y hy
      have hg := (hc.gen _).2 (gen_mem hy)
      have hz := gen_zero o (m := min 2 n) (brL_els o q _ _) (Nat.min_le_right _ _) (fun v hv j hj => by
        obtain ⟨x, hx, h⟩ := List.mem_flatMap.1 hv
        obtain ⟨e, he, rfl⟩ := List.mem_map.1 h
        exact br_head2 o q _ _ j (by omega)) hl.1 hg
      have hd := dep_ge (v := y) (d := min 2 n) (by rw [hl.1.1]; exact Nat.min_le_right _ _) hz
      have := hl.2.1
      omega
  | k + 1, u, h, y, hy => by
    cases h with
    | succ h hc => exact step_dep o q hc (low_dep2 o q h) y hy
theorem ipow_big {a b : Int} (hb : 0 ≤ b) (h : b ≤ a) : ∀ k, ipow b k ≤ ipow a k ∧ 0 ≤ ipow b k
  | 0 => ⟨Int.le_refl _, by show (0 : Int) ≤ 1; decide⟩
  | k + 1 => by
    obtain ⟨h1, h2⟩ := ipow_big hb h k
    rw [ipow, ipow]
    exact ⟨Int.mul_le_mul h1 h hb (by omega), Int.mul_nonneg h2 hb⟩
theorem Lz.md (z : Lz p n W B c) : ∃ m, Md p c m := by
  have hc := z.hc
  have hp := z.hp
  have hw := z.pow
  have hn := z.r.o.le
  by_cases h2 : p = 2
  · exact ⟨3, by omega, .inr (.inr ⟨rfl, by omega⟩), .inl (Nat.le_refl _), .inl (by omega)⟩
  · by_cases h3 : p = 3
    · exact ⟨6, by omega, .inr (.inl ⟨rfl, by omega⟩), .inr (cop_two hp h2), .inl (Nat.le_refl _)⟩
    · refine ⟨14, ?_, .inl rfl, .inr (cop_two hp h2), .inr (cop_twelve hp h2 h3)⟩
      have hn4 : n ≤ 4 := by
        rcases Nat.lt_or_ge 4 n with hx | hx
        · exfalso
          have h5 : (5 : Int) ≤ p := by rcases hp with h | h | h | h <;> omega
          have := (ipow_big (a := p) (b := 5) (by omega) h5 n).1
          have e : n = 5 ∨ n = 6 := by omega
          rcases e with rfl | rfl
          · have : ipow 5 5 = 3125 := by decide
            omega
          · have : ipow 5 6 = 15625 := by decide
            omega
        · exact hx
      rcases Nat.lt_or_ge 3 c with hx | hx
      · exfalso
        obtain ⟨u, hu⟩ := z.r.low 3
        have hne := z.r.cls.2 3 u hx hu
        cases u with
        | nil => exact hne rfl
        | cons v t =>
          have hd := low_dep2 z.r.o z.r.q hu v (by simp)
          cases hu with
          | succ h hcan =>
            have := (hcan.base.led v (by simp)).2.1
            omega
      · exact hx
def scl (m : Nat) : Int := if m = 14 then 1728 else if m = 6 then 16 else 1
theorem Md.scl (h : Md p c m) (hp : isP p) : Cop p (scl m) := by
  have one : Cop p 1 := ⟨1, 0, by omega⟩
  have mul : ∀ {a b : Int}, Cop p a → Cop p b → Cop p (a * b) := fun {a b} ⟨e, t, h⟩ ⟨f, s, g⟩ => ⟨e * f, t + s + p * t * s, by grind⟩
  rcases h.cut with rfl | ⟨rfl, _⟩ | ⟨rfl, _⟩
  · rcases h.d12 with h | h
    · omega
    · exact mul (mul h.1 h.1) h.1
  · rcases h.d2 with h | h
    · omega
    · exact mul (mul (mul h.1 h.1) h.1) h.1
  · exact one
theorem scaled (o : OkW p n W) {q : Int} (hq : Cop p q) (hx : El p n x) : Eqv p n W (at_ x) fun j => q * at_ (dv p n W q x) j := ((dv_spec o hx).eqv hq).symm
theorem Lz.cx (z : Lz p n W B c) {x y w : List Int} (hx : El p n x) (hy : El p n y) (hw : El p n w) : ∃ m X Y Z, Cx p n W B c m X Y Z ∧ EV p n W B X Y Z [scl m] x ∧ EV p n W B X Y Z [0, scl m] y ∧ EV p n W B X Y Z [0, 0, scl m] w ∧ (m = 14 ∨ m = 6 ∨ m = 3) := by
  obtain ⟨m, md⟩ := z.md
  have hq := md.scl z.hp
  have o := z.r.o
  refine ⟨m, at_ (dv p n W (scl m) x), at_ (dv p n W (scl m) y), at_ (dv p n W (scl m) w), ⟨z, md, z.r.all (dv_el o hx), z.r.all (dv_el o hy), z.r.all (dv_el o hw)⟩, ⟨hx, (scaled o hq hx).trans (Eqv.of_eq fun t => ?_)⟩, ⟨hy, (scaled o hq hy).trans (Eqv.of_eq fun t => ?_)⟩, ⟨hw, (scaled o hq hw).trans (Eqv.of_eq fun t => ?_)⟩, by rcases md.cut with h | h | h <;> omega⟩
  all_goals simp [evv, ev1, ev2, ev3]
theorem Lz.assoc (z : Lz p n W B c) {x y w : List Int} (hx : El p n x) (hy : El p n y) (hw : El p n w) : Go.Proofs.bch p n W B (Go.Proofs.bch p n W B x y) w = Go.Proofs.bch p n W B x (Go.Proofs.bch p n W B y w) := by
  obtain ⟨m, X, Y, Z, k, ex, ey, ew, hm⟩ := z.cx hx hy hw
  rcases hm with rfl | rfl | rfl <;> exact ((ex.bch k ey (by decide)).bch k ew (by decide)).eq k (ex.bch k (ey.bch k ew (by decide)) (by decide)) (by decide)
end Go.Proofs
namespace Go.Proofs
open Go.Ab Go.Lie
variable {p : Int} {n m : Nat} {W : List (List Int)} {B : List (List (List Int))} {c : Nat} {X Y Z : Vec} {a b : List Int} {x y : List Int}
def kok2 (m : Nat) (a : List Int) : Bool := kdvd m a 2 && (decide (3 < m) || keqm m a [])
def kok12 (m : Nat) (a : List Int) : Bool := kdvd m a 12 && (decide (6 < m) || keqm m a [])
theorem EV.dv0 (k : Cx p n W B c m X Y Z) (h : EV p n W B X Y Z a x) {q : Int} (e : keqm m a [] = true) : EV p n W B X Y Z (kdiv a q) (dv p n W q x) := by
  have hm : m ≤ 14 := by rcases k.md.cut with h | h | h <;> omega
  have h0 : ∀ i, i < m → at_ a i = 0 := fun i hi => by simpa using allm_iff e i hi
  exact (h.divZ k h0).to k fun i hi => by rw [at_kdiv _ _ i (by omega), h0 i hi, Int.zero_ediv]
theorem EV.dv2 (k : Cx p n W B c m X Y Z) (h : EV p n W B X Y Z a x) (e : kok2 m a = true) : EV p n W B X Y Z (kdiv a 2) (dv p n W 2 x) := by
  simp only [kok2, Bool.and_eq_true, Bool.or_eq_true, decide_eq_true_eq] at e
  rcases e.2 with h3 | h3
  · rcases k.md.d2 with hl | hc
    · omega
    · exact h.dvk k e.1 hc.1
  · exact h.dv0 k h3
theorem EV.dv12 (k : Cx p n W B c m X Y Z) (h : EV p n W B X Y Z a x) (e : kok12 m a = true) : EV p n W B X Y Z (kdiv a 12) (dv p n W 12 x) := by
  simp only [kok12, Bool.and_eq_true, Bool.or_eq_true, decide_eq_true_eq] at e
  rcases e.2 with h3 | h3
  · rcases k.md.d12 with hl | hc
    · omega
    · exact h.dvk k e.1 hc.1
  · exact h.dv0 k h3
def kf3 (a b d : List Int) : List Int := kbch (kbch (kbch [] a) b) d
def kok3 (m : Nat) (a b d : List Int) : Bool := kokb m [] a && kokb m (kbch [] a) b && kokb m (kbch (kbch [] a) b) d
theorem EV.fold3 (k : Cx p n W B c m X Y Z) {d w : List Int} (hx : EV p n W B X Y Z a x) (hy : EV p n W B X Y Z b y) (hw : EV p n W B X Y Z d w) (e : kok3 m a b d = true) : EV p n W B X Y Z (kf3 a b d) (fold p n W B [x, y, w]) := by
  simp only [kok3, Bool.and_eq_true] at e
  exact (((EV.zero k).bch k hx e.1.1).bch k hy e.1.2).bch k hw e.2
def kf4 (a b d e : List Int) : List Int := kbch (kf3 a b d) e
def kok4 (m : Nat) (a b d e : List Int) : Bool := kok3 m a b d && kokb m (kf3 a b d) e
theorem EV.fold4 (k : Cx p n W B c m X Y Z) {d w d' w' : List Int} (hx : EV p n W B X Y Z a x) (hy : EV p n W B X Y Z b y) (hw : EV p n W B X Y Z d w) (hv : EV p n W B X Y Z d' w') (e : kok4 m a b d d' = true) : EV p n W B X Y Z (kf4 a b d d') (fold p n W B [x, y, w, w']) := by
  simp only [kok4, Bool.and_eq_true] at e
  exact (EV.fold3 k hx hy hw e.1).bch k hv e.2
def kcomm (a b : List Int) : List Int := kf4 (kmul (-1) a) (kmul (-1) b) a b
def kokc (m : Nat) (a b : List Int) : Bool := kok4 m (kmul (-1) a) (kmul (-1) b) a b
theorem EV.comm (k : Cx p n W B c m X Y Z) (hx : EV p n W B X Y Z a x) (hy : EV p n W B X Y Z b y) (e : kokc m a b = true) : EV p n W B X Y Z (kcomm a b) (comm p n W B x y) := EV.fold4 k (hx.mul k _) (hy.mul k _) hx hy e
def kconj (a b : List Int) : List Int := kf3 (kmul (-1) b) a b
theorem EV.conj (k : Cx p n W B c m X Y Z) (hx : EV p n W B X Y Z a x) (hy : EV p n W B X Y Z b y) (e : kok3 m (kmul (-1) b) a b = true) : EV p n W B X Y Z (kconj a b) (conj p n W B x y) := EV.fold3 k (hy.mul k _) hx hy e
theorem Lz.inv_l (z : Lz p n W B c) (hx : El p n x) : bch p n W B (lmul p W (-1) x) x = List.replicate n 0 := by
  obtain ⟨m, X, Y, Z, k, ex, ey, ew, hm⟩ := z.cx hx hx hx
  rcases hm with rfl | rfl | rfl <;> exact ((ex.mul k _).bch k ex (by decide)).eq k (EV.zero k) (by decide)
theorem Lz.sumP (z : Lz p n W B c) (hx : El p n x) (hy : El p n y) : Go.Proofs.sumP p n W B x y = ladd p W x y := by
  obtain ⟨m, X, Y, Z, k, ex, ey, ew, hm⟩ := z.cx hx hy hx
  have out : ∀ {e : List Int}, keqm m (kcomm [scl m] [0, scl m]) e = true → True := fun _ => trivial
  rcases hm with rfl | rfl | rfl <;>
    exact (((((EV.zero k).bch k ex (by decide)).bch k ey (by decide)).bch k (((ex.comm k ey (by decide)).dv2 k (by decide)).mul k (-1)) (by decide)).bch k (((ex.comm k ey (by decide)).comm k ex (by decide)).dv12 k (by decide)) (by decide)
      |>.bch k ((((ex.comm k ey (by decide)).comm k ey (by decide)).dv12 k (by decide)).mul k (-1)) (by decide)).eq k (ex.add k ey) (by decide)
theorem Lz.brkP (z : Lz p n W B c) (hx : El p n x) (hy : El p n y) : Go.Proofs.brkP p n W B x y = br p W B n x y := by
  obtain ⟨m, X, Y, Z, k, ex, ey, ew, hm⟩ := z.cx hx hy hx
  rcases hm with rfl | rfl | rfl <;>
    exact (EV.fold3 k (ex.comm k ey (by decide)) ((((ex.comm k ey (by decide)).comm k ex (by decide)).dv2 k (by decide)).mul k (-1)) ((((ex.comm k ey (by decide)).comm k ey (by decide)).dv2 k (by decide)).mul k (-1)) (by decide)).eq k (ex.brk k ey) (by decide)
end Go.Proofs
namespace Go.Proofs
open Go.Ab Go.Lie
variable {σ : PHeap} {K : PV → PHeap → Prop} {va vb vx : PV} {p : Int} {W : List (List Int)} {B : List (List (List Int))} {xs ys : List (List Int)} {x : List Int}
theorem CodR.code {α β : Type} {nil val z : α} {nil' val' z' : β} {c c' : Int} (h : CodR p W B xs nil val z c) (g : CodR p W B xs nil' val' z' c') : c = c' := by
  rcases h with ⟨d, h1, h2, h3, h4⟩ | ⟨h1, h2, h3⟩ <;> rcases g with ⟨d', g1, g2, g3, g4⟩ | ⟨g1, g2, g3⟩
  · have := h1.unique g1; omega
  · exact absurd (h1.unique g1) h2
  · exact absurd (g1.unique h1) g2
  · omega
theorem CodR.zero {α : Type} {nil val z : α} {c : Int} (h : CodR p W B xs nil val z c) (hc : c = 0) : ((isLie p W B ∧ Els p W.length xs) ∧ isLz p W.length W B) ∧ z = val := by
  rcases h with ⟨d, h1, h2, h3, h4⟩ | ⟨h1, h2, h3⟩
  · omega
  · exact ⟨h1.zero, h3⟩
theorem likeRows5_ok (ha : FII va xs) (hb : FII vb ys) (sz : SzL xs) (hk : ∀ t : Bool, (t = true ↔ xs = ys) → K (.bool t) σ) : PCalls Tryz.prog 30 [va, vb] σ K := by
  obtain ⟨wx, ax, rx, rfl, hrx⟩ := ha
  obtain ⟨wy, ay, ry, rfl, hry⟩ := hb
  have hl := sz.l
  refine pcalls_of_vp mix Tryz.func30 cf30 rfl ?_
  dsimp only [if30, qI, eI, nI, qD, eD]
  simp only [pwA, if_true, if_false, eq_self, nm_eq, reduceCtorEq, ↓reduceIte, nQ10, nQ7, nQ11, nQ12, nQ16, nQ17, nQ18, iQ2, iQ3, iQ4, iQ5, iQ6, lQ19, iQ7, lQ20]
  by_cases hxy : xs.length = ys.length
  rotate_left
  · have hne : ¬ (xs.length : Int) = (ys.length : Int) := by omega
    simp only [pwA, if_true, if_false, eq_self, nm_eq, reduceCtorEq, ↓reduceIte, nQ10, nQ7, nQ11, nQ12, nQ16, nQ17, nQ18, iQ2, iQ3, iQ4, iQ5, iQ6, lQ19, iQ7, lQ20, hne]
    exact hk false ⟨fun h => (by cases h), fun h => absurd (by rw [h]) hxy⟩
  have heq : (xs.length : Int) = (ys.length : Int) := by omega
  simp only [pwA, if_true, if_false, eq_self, nm_eq, reduceCtorEq, ↓reduceIte, nQ10, nQ7, nQ11, nQ12, nQ16, nQ17, nQ18, iQ2, iQ3, iQ4, iQ5, iQ6, lQ19, iQ7, lQ20, heq]
  refine vp_loop (fun m us g => ∃ i : Nat, i ≤ ys.length ∧ m = ys.length - i ∧ us = [.fz wx ax xs.length rx, .fz wy ay ys.length ry, .int .i64 i] ∧ g = σ ∧ ∀ j, j < i → xs[j]? = ys[j]?) ys.length ⟨0, by omega, by omega, rfl, rfl, fun j hj => absurd hj (Nat.not_lt_zero _)⟩ ?_
  rintro m us g ⟨i, hi, rfl, rfl, rfl, he⟩
  simp only [pwA, if_true, if_false, eq_self, nm_eq, reduceCtorEq, ↓reduceIte, nQ10, nQ7, nQ11, nQ12, nQ16, nQ17, nQ18, iQ2, iQ3, iQ4, iQ5, iQ6, lQ19, iQ7, lQ20, heq]
  refine iteI (fun hlt => ?_) fun hge => ?_
  rotate_left
  · refine hk true ⟨fun _ => List.ext_getElem? fun j => ?_, fun _ => rfl⟩
    rcases Nat.lt_or_ge j i with e | e
    · exact he j e
    · rw [List.getElem?_eq_none (by omega), List.getElem?_eq_none (by omega)]
  have hltx : i < xs.length := by omega
  have hlty : i < ys.length := by omega
  have wi1 : IntKind.i64.wrap ((i : Int) + 1) = ((i + 1 : Nat) : Int) := wrapS hlty (by omega)
  obtain ⟨w1, a1, h1⟩ := hrx.rowI hltx
  obtain ⟨w2, a2, h2⟩ := hry.rowI hlty
  have hle := sz.r _ (List.getElem_mem hltx)
  simp only [pwA, if_true, if_false, eq_self, nm_eq, reduceCtorEq, ↓reduceIte, nQ10, nQ7, nQ11, nQ12, nQ16, nQ17, nQ18, iQ2, iQ3, iQ4, iQ5, iQ6, lQ19, iQ7, lQ20, h1, h2, hltx, hlty]
  refine likeInts_ok ⟨w1, a1, rfl⟩ ⟨w2, a2, rfl⟩ hle fun t ht => ?_
  cases t with
  | false =>
    simp only [pwA, if_true, if_false, eq_self, nm_eq, reduceCtorEq, ↓reduceIte, nQ10, nQ7, nQ11, nQ12, nQ16, nQ17, nQ18, iQ2, iQ3, iQ4, iQ5, iQ6, lQ19, iQ7, lQ20]
    refine hk false ⟨fun h => (by cases h), fun h => ?_⟩
    have := ht.2 (by simp only [h])
    cases this
  | true =>
    have hv := ht.1 rfl
    simp only [pwA, if_true, if_false, eq_self, nm_eq, reduceCtorEq, ↓reduceIte, nQ10, nQ7, nQ11, nQ12, nQ16, nQ17, nQ18, iQ2, iQ3, iQ4, iQ5, iQ6, lQ19, iQ7, lQ20, wi1]
    refine ⟨_, by omega, i + 1, by omega, rfl, rfl, fun j hj => ?_⟩
    rcases Nat.lt_or_ge j i with e | e
    · exact he j e
    · obtain rfl : j = i := by omega
      rw [List.getElem?_eq_getElem hltx, List.getElem?_eq_getElem hlty, hv]
theorem isZero5_ok (hx : FI vx x) (hl : x.length ≤ 1048576) (hk : ∀ t : Bool, (t = true ↔ isZ x) → K (.bool t) σ) : PCalls Tryz.prog 21 [vx] σ K := by
  obtain ⟨wx, ax, rfl⟩ := hx
  refine pcalls_of_vp mix Tryz.func21 cf21 rfl ?_
  dsimp only [if21, qI, eI, nI, qD, eD]
  simp only [pwA, if_true, if_false, eq_self, nm_eq, reduceCtorEq, ↓reduceIte, nQ10, nQ7, nQ11, nQ12, nQ16, nQ17, nQ18, iQ2, iQ3, iQ4, iQ5, iQ6, lQ19, iQ7, lQ20]
  refine vp_loop (fun m us g => ∃ i : Nat, i ≤ x.length ∧ m = x.length - i ∧ us = [.fz wx ax x.length (pis x), .int .i64 i] ∧ g = σ ∧ ∀ j, j < i → at_ x j = 0) x.length ⟨0, by omega, by omega, rfl, rfl, fun j hj => absurd hj (Nat.not_lt_zero _)⟩ ?_
  rintro m us g ⟨i, hi, rfl, rfl, rfl, he⟩
  simp only [pwA, if_true, if_false, eq_self, nm_eq, reduceCtorEq, ↓reduceIte, nQ10, nQ7, nQ11, nQ12, nQ16, nQ17, nQ18, iQ2, iQ3, iQ4, iQ5, iQ6, lQ19, iQ7, lQ20]
  refine iteI (fun hlt => ?_) fun hge => ?_
  rotate_left
  · refine hk true ⟨fun _ y hy => ?_, fun _ => rfl⟩
    obtain ⟨j, hj, rfl⟩ := List.mem_iff_getElem.1 hy
    rw [← at_eq hj]
    exact he j (by omega)
  have hltx : i < x.length := by omega
  have wi1 : IntKind.i64.wrap ((i : Int) + 1) = ((i + 1 : Nat) : Int) := wrapS hltx (by omega)
  simp only [pwA, if_true, if_false, eq_self, nm_eq, reduceCtorEq, ↓reduceIte, nQ10, nQ7, nQ11, nQ12, nQ16, nQ17, nQ18, iQ2, iQ3, iQ4, iQ5, iQ6, lQ19, iQ7, lQ20, pisAt hltx, hltx, wi1]
  refine iteI (fun hv => ?_) fun hv => ?_
  · refine ⟨_, by omega, i + 1, by omega, rfl, rfl, fun j hj => ?_⟩
    rcases Nat.lt_or_ge j i with e | e
    · exact he j e
    · obtain rfl : j = i := by omega
      exact hv
  · exact hk false ⟨fun h => (by cases h), fun h => absurd (by rw [at_eq hltx]; exact h _ (List.getElem_mem hltx)) hv⟩
theorem push_kt {T h : PHeap} {s bytes n : Nat} {v x : PV} {cs : List PV} {K : PV × PHeap → Prop} (km : KM T s h) (a : PSl T.next 1 h v n cs)
    (h1 : (n + 1) * bytes ≤ 140737488355328) (h2 : n + 1 ≤ 4611686018427387904) (k : ∀ v' h', KM T s h' → (∀ t, t < T.next → h'.obj t = h.obj t) → PSl T.next 1 h' v' (n + 1) (cs ++ [x]) → K (v', h')) : optK (pappend 1 bytes (h.new [x]) v (.sl h.next 0 1 (.known 1))) K := by
  obtain ⟨σ', m, q⟩ := km
  have hn := m.next
  refine PSl.push (σb := σ') (bytes := bytes) q (by rw [hn]; exact a) h1 h2 fun v' h' k1 k2 => k v' h' ⟨σ', m, k1⟩ (fun t ht => by rw [k1.obj t (by omega), q.obj t (by omega)]) (by rw [← hn]; exact k2)
theorem Di.same {h h' : PHeap} {s : Nat} {vC : PV} {bs : List Int} (a : Di h s vC bs) (ho : h'.obj s = h.obj s) (hn : s < h'.next) : Di h' s vC bs := by
  obtain ⟨i, hh, e, hi⟩ := a.ex
  exact ⟨⟨i, hh, by rw [ho]; exact e, hi⟩, hn, a.fb, a.byt⟩
end Go.Proofs
namespace Go.Proofs.YtpcjbkbcaiphmaaGreat
open Go.ChangeShapes Go.WideShapes Go.ChangeAt Go.RowKit Go.Ab Go.Joins Go.Lie Go.Proofs
variable {H : Type} {enc : TypeId × Value → H} {W w0 : World} {j : Inj} {h : AHeap}
theorem cell8 : Tryz.prog.cellsOf 5 = 1 := by kernel_rfl
theorem lay8 : Lay1 enc Tryz.prog W 5 (fun pv (n : Int) => pv = .int .u8 n ∧ 0 ≤ n ∧ n ≤ 255) := by
  intro w0 j h held fuel v x m hx
  obtain ⟨n, hn, _, hw⟩ := DataW.trod_int Tryz.underlying5 hx
  simp only [List.cons.injEq, and_true] at hn
  subst hn
  simp only [Lit.wf, Bool.and_eq_true, decide_eq_true_eq] at hw
  have h1 : IntKind.u8.min = 0 := by rfl
  have h2 : IntKind.u8.max = 255 := by rfl
  rw [h1, h2] at hw
  exact ⟨j, h, .int .u8 n, n, m, Inj.le.refl _, Ext.refl m.wf, rfl, trivial, rfl, rfl, hw.1, hw.2⟩
theorem FL.bytes {v : PV} {xs : List Int} (h : FL (fun pv (n : Int) => pv = .int .u8 n ∧ 0 ≤ n ∧ n ≤ 255) v xs) : FB v xs := by
  obtain ⟨w, a, rows, rfl, hr⟩ := h
  refine ⟨w, a, ?_⟩
  congr 1
  apply List.ext_getElem?
  intro k
  rw [List.getElem?_map]
  rcases Nat.lt_or_ge k xs.length with x | x
  · obtain ⟨pv, h1, h2⟩ := hr.get x
    rw [h1, gi x, h2.1]; rfl
  · rw [List.getElem?_eq_none (by rw [hr.1]; exact x), List.getElem?_eq_none x]; rfl
theorem layB : Lay1 enc Tryz.prog W 22 (fun v (xs : List Int) => FB v xs ∧ ∀ b ∈ xs, 0 ≤ b ∧ b ≤ 255) := by
  intro w0 j h held fuel v x m hx
  obtain ⟨j', h', pv, a, g1, g2, g3, g4, g5, g6, g7, g8⟩ := lay_slice Tryz.underlying22 cell8 lay8 w0 j h held fuel v x m hx
  exact ⟨j', h', pv, a, g1, g2, g3, g4, g5, g6, FL.bytes g7, g7.all fun _ _ k => k.2⟩
end Go.Proofs.YtpcjbkbcaiphmaaGreat
namespace Go.Proofs
open Go.Ab Go.Lie
variable {p : Int} {n m : Nat} {W : List (List Int)} {B : List (List (List Int))} {c : Nat} {X Y Z : Vec} {a b : List Int} {x y : List Int}
noncomputable def tsum (p : Int) (n : Nat) (W : List (List Int)) (B : List (List (List Int))) (y x : List Int) : Nat → List Int
  | 0 => List.replicate n 0
  | j + 1 => ladd p W (tsum p n W B y x j) (cterm p n W B y x j)
theorem cterm_el (o : OkW p n W) (q : OkB p n B) (hx : El p n x) (j : Nat) : El p n (cterm p n W B y x j) := dv_el o (adj_el o q hx j)
theorem tsum_el (o : OkW p n W) (q : OkB p n B) (hx : El p n x) : ∀ j, El p n (tsum p n W B y x j)
  | 0 => rep_el o.pr
  | j + 1 => lmix_el o (tsum_el o q hx j) (cterm_el o q hx j)
theorem ladd_z (o : OkW p n W) {s z : List Int} (hs : El p n s) (hz : El p n z) (h0 : isZ z) : ladd p W s z = s :=
  eqv_unique o (lmix_el o hs hz).1 hs.1 (lmix_el o hs hz).2 hs.2 ((ladd_eqv o hs hz).trans (Eqv.of_eq fun t => by rw [isZ_at h0, Int.add_zero]))
theorem br_z (o : OkW p n W) (q : OkB p n B) {z y : List Int} (h0 : isZ z) : isZ (br p W B n z y) := by
  refine zero_of_eqv o (br_el o q) ((br_eqv o q z y).trans (Eqv.of_eq fun t => ?_))
  rw [brv_fcongr (f' := fun j => 0 * at_ y j) (g' := at_ y) (fun j => by rw [isZ_at h0, Int.zero_mul]) (fun _ => rfl), brv_mul, Int.zero_mul]
theorem adj_z (o : OkW p n W) (q : OkB p n B) {m : Nat} (h0 : isZ (adj p n W B y x m)) : ∀ j, m ≤ j → isZ (adj p n W B y x j)
  | 0, h => by have : m = 0 := by omega
               subst this; exact h0
  | j + 1, h => by
    by_cases e : m = j + 1
    · subst e; exact h0
    · exact br_z o q (adj_z o q h0 j (by omega))
theorem tsum_stop (o : OkW p n W) (q : OkB p n B) (hx : El p n x) {m : Nat} (h0 : isZ (adj p n W B y x m)) : ∀ j, m ≤ j → tsum p n W B y x j = tsum p n W B y x m
  | 0, h => by have : m = 0 := by omega
               subst this; rfl
  | j + 1, h => by
    by_cases e : m = j + 1
    · subst e; rfl
    · have hz := adj_z o q h0 j (by omega)
      have hc : isZ (cterm p n W B y x j) := by
        unfold cterm
        rw [(dv_spec o (adj_el o q hx j) (k := fact j)).nil hz]
        exact hz
      show ladd p W (tsum p n W B y x j) (cterm p n W B y x j) = _
      rw [ladd_z o (tsum_el o q hx j) (cterm_el o q hx j) hc]
      exact tsum_stop o q hx h0 j (by omega)
theorem EV.dv1 (k : Cx p n W B c m X Y Z) (h : EV p n W B X Y Z a x) : EV p n W B X Y Z a (dv p n W 1 x) := by
  rw [← dv_of k.z.r.o ⟨1, 0, by omega⟩ h.el h.el (Eqv.of_eq fun j => Int.one_mul _)]
  exact h
theorem Lz.conj_sum3 (z : Lz p n W B c) (hx : El p n x) (hy : El p n y) : tsum p n W B y x 3 = Go.Proofs.conj p n W B x y := by
  obtain ⟨m, X, Y, Z, k, ex, ey, ew, hm⟩ := z.cx hx hy hx
  rcases hm with rfl | rfl | rfl <;>
    exact ((((EV.zero k).add k (ex.dv1 k)).add k ((ex.brk k ey).dv1 k)).add k (((ex.brk k ey).brk k ey).dv2 k (by decide))).eq k (ex.conj k ey (by decide)) (by decide)
theorem Lz.conj_sum (z : Lz p n W B c) (hx : El p n x) (hy : El p n y) : (cterms p n W B x y).length ≤ 3 ∧ (∀ j (h : j < (cterms p n W B x y).length), (cterms p n W B x y)[j] = cterm p n W B y x j) ∧ tsum p n W B y x (cterms p n W B x y).length = Go.Proofs.conj p n W B x y := by
  obtain ⟨w, hw⟩ := terms_ex z hx (y := y)
  have e := hw.eq
  rw [← e]
  obtain ⟨m, rfl, h0, h1⟩ := hw
  obtain ⟨mm, md⟩ := z.md
  have hm3 : m ≤ 3 := by
    rcases Nat.eq_zero_or_pos m with e | e
    · omega
    · have := adj_lt z hx (h1 (m - 1) (by omega))
      have := md.c3
      omega
  have hl : ((List.range m).map (cterm p n W B y x)).length = m := by simp
  refine ⟨by omega, fun j hj => by simp, ?_⟩
  rw [hl, ← z.conj_sum3 hx hy]
  exact (tsum_stop z.r.o z.r.q hx h0 3 hm3).symm
theorem Lz.conj_move (z : Lz p n W B c) (hx : El p n x) (hy : El p n y) : bch p n W B y (Go.Proofs.conj p n W B x y) = bch p n W B x y := by
  obtain ⟨m, X, Y, Z, k, ex, ey, ew, hm⟩ := z.cx hx hy hx
  rcases hm with rfl | rfl | rfl <;> exact (ey.bch k (ex.conj k ey (by decide)) (by decide)).eq k (ex.bch k ey (by decide)) (by decide)
theorem Lz.conj_comm (z : Lz p n W B c) (hx : El p n x) (hy : El p n y) : bch p n W B (lmul p W (-1) x) (Go.Proofs.conj p n W B x y) = Go.Proofs.comm p n W B x y := by
  obtain ⟨m, X, Y, Z, k, ex, ey, ew, hm⟩ := z.cx hx hy hx
  rcases hm with rfl | rfl | rfl <;> exact ((ex.mul k _).bch k (ex.conj k ey (by decide)) (by decide)).eq k (ex.comm k ey (by decide)) (by decide)
theorem Lz.pow_step (z : Lz p n W B c) (hx : El p n x) (j : Int) : bch p n W B (lmul p W j x) x = lmul p W (j + 1) x := by
  have o := z.r.o
  have q := z.r.q
  have hj := lmix_el o hx hx (k := j) (m := 0)
  have hb : isZ (br p W B n (lmul p W j x) x) := by
    refine zero_of_eqv o (br_el o q) ((br_eqv o q _ _).trans ((brv_eqv o q z.r.nf _ (lmul_eqv o hx j)).trans (Eqv.of_eq fun t => ?_)))
    rw [brv_mul, brv_self, Int.mul_zero]
  have ht : isZ (third3 p W B n (lmul p W j x) x) := by
    refine zero_of_eqv o (third_el o q) ((ladd_eqv o (br_el o q) (br_el o q)).trans (Eqv.of_eq fun t => ?_))
    have h2 : isZ (br p W B n (lmul p W j x) (br p W B n (lmul p W j x) x)) := by
      refine zero_of_eqv o (br_el o q) ((br_eqv o q _ _).trans (Eqv.of_eq fun t => ?_))
      rw [brv_anti, brv_fcongr (f' := fun j => 0 * at_ x j) (g' := at_ (lmul p W j x)) (fun j => by rw [isZ_at hb, Int.zero_mul]) (fun _ => rfl), brv_mul, Int.zero_mul, Int.mul_zero]
    have h3 : isZ (br p W B n x (lmul p W (-1) (br p W B n (lmul p W j x) x))) := by
      have hn : isZ (lmul p W (-1) (br p W B n (lmul p W j x) x)) := zero_of_eqv o (lmix_el o (br_el o q) (br_el o q)) ((lmul_eqv o (br_el o q) (-1)).trans (Eqv.of_eq fun t => by rw [isZ_at hb, Int.mul_zero]))
      refine zero_of_eqv o (br_el o q) ((br_eqv o q _ _).trans (Eqv.of_eq fun t => ?_))
      rw [brv_anti, brv_fcongr (f' := fun j => 0 * at_ x j) (g' := at_ x) (fun j => by rw [isZ_at hn, Int.zero_mul]) (fun _ => rfl), brv_mul, Int.zero_mul, Int.mul_zero]
    rw [isZ_at h2, isZ_at h3]
    rfl
  unfold Go.Proofs.bch
  have hd2 : isZ (dv p n W 2 (br p W B n (lmul p W j x) x)) := by rw [(dv_spec o (br_el o q) (k := 2)).nil hb]; exact hb
  have hd12 : isZ (dv p n W 12 (third3 p W B n (lmul p W j x) x)) := by rw [(dv_spec o (third_el o q) (k := 12)).nil ht]; exact ht
  have hs : El p n (ladd p W (lmul p W j x) x) := lmix_el o hj hx
  rw [ladd_z o hs (dv_el o (br_el o q)) hd2, ladd_z o hs (dv_el o (third_el o q)) hd12]
  refine eqv_unique o hs.1 (lmix_el o hx hx).1 hs.2 (lmix_el o hx hx).2 ((ladd_eqv o hj hx).trans (((lmul_eqv o hx j).add (Eqv.refl _)).trans (Eqv.trans (Eqv.of_eq fun t => ?_) (lmul_eqv o hx (j + 1)).symm)))
  grind
theorem Lz.fold_rep (z : Lz p n W B c) (hx : El p n x) : ∀ k : Nat, fold p n W B (List.replicate k x) = lmul p W k x
  | 0 => by
    have o := z.r.o
    refine eqv_unique o (by simp [fold]) (lmix_el o hx hx).1 (rep_el o.pr).2 (lmix_el o hx hx).2 ((Eqv.of_eq fun t => ?_).trans (lmul_eqv o hx ((0 : Nat) : Int)).symm)
    show at_ (List.replicate n 0) t = _
    rw [at_rep]; simp
  | k + 1 => by
    have h := z.fold_rep hx k
    unfold fold at h ⊢
    rw [List.replicate_succ', List.foldl_append, h]
    show bch p n W B (lmul p W k x) x = _
    rw [z.pow_step hx]
    rfl
end Go.Proofs
