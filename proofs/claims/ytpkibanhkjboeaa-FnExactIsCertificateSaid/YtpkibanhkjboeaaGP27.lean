/- The compiled forms of the functions, each held against the program by the kernel. Written by program. -/
import Derived.Test.YtpkibanhkjboeaaGP26
import Derived.Test.YtpkibanhkjboeaaGAbPy
import Derived.Test.YtpkibanhkjboeaaChecked
set_option linter.unusedSimpArgs false
set_option linter.unusedVariables false
namespace Go.Proofs
open Go.Ab Go.Lie Go.Grp Go.Mx
/-- A presentation as one thing. -/
abbrev Pre := List Int × List (List Int) × List (List (List Int))
/-- Three cells for each. -/
def fl3 : List (PV × PV × PV) → List PV
  | [] => []
  | q :: r => q.1 :: q.2.1 :: q.2.2 :: fl3 r
theorem fl3_length : ∀ rows : List (PV × PV × PV), (fl3 rows).length = 3 * rows.length
  | [] => rfl
  | q :: r => by simp only [fl3, List.length_cons, fl3_length r]; omega
theorem fl3_append : ∀ a b : List (PV × PV × PV), fl3 (a ++ b) = fl3 a ++ fl3 b
  | [], b => rfl
  | q :: a, b => by simp only [List.cons_append, fl3, fl3_append a b]
theorem fl3_get : ∀ {rows : List (PV × PV × PV)} {k : Nat} (hk : k < rows.length), ((fl3 rows).drop (k * 3)).take 3 = [rows[k].1, rows[k].2.1, rows[k].2.2]
  | q :: r, 0, _ => rfl
  | q :: r, k + 1, hk => by
    rw [show (k + 1) * 3 = k * 3 + 1 + 1 + 1 by omega]
    simp only [fl3, List.drop_succ_cons, List.getElem_cons_succ]
    exact fl3_get (rows := r) (by simpa using hk)
def FI3 (q : PV × PV × PV) (g : Pre) : Prop := IsPr q.1 q.2.1 q.2.2 g.1 g.2.1 g.2.2
/-- A frozen list of presentations. -/
def FG (v : PV) (G : List Pre) : Prop := ∃ w a rows, v = .fz w a G.length (fl3 rows) ∧ All2 FI3 rows G
theorem FG.one {v : PV} {G : List Pre} (h : FG v G) : v.one = true := by obtain ⟨w, a, r, rfl, _⟩ := h; rfl
theorem FG.cells {v : PV} {G : List Pre} (h : FG v G) : v.cells = [v] := by obtain ⟨w, a, r, rfl, _⟩ := h; rfl
theorem FG.bel {v : PV} {G : List Pre} (h : FG v G) (n : Nat) : Bel n v := by obtain ⟨w, a, r, rfl, _⟩ := h; trivial
theorem fl3_bel {rows : List (PV × PV × PV)} {G : List Pre} (h : All2 FI3 rows G) : Bels 0 (fl3 rows) := by
  rw [Bels_iff]
  intro c hc
  have : ∀ {rows : List (PV × PV × PV)}, c ∈ fl3 rows → ∃ q ∈ rows, c = q.1 ∨ c = q.2.1 ∨ c = q.2.2 := by
    intro rows
    induction rows with
    | nil => intro h; cases h
    | cons q r ih =>
      intro h
      simp only [fl3, List.mem_cons] at h
      rcases h with h | h | h | h
      · exact ⟨q, by simp, .inl h⟩
      · exact ⟨q, by simp, .inr (.inl h)⟩
      · exact ⟨q, by simp, .inr (.inr h)⟩
      · obtain ⟨q', h1, h2⟩ := ih h; exact ⟨q', by simp [h1], h2⟩
  obtain ⟨q, hq, he⟩ := this hc
  obtain ⟨k, hk, rfl⟩ := List.mem_iff_getElem.1 hq
  have hi : IsPr rows[k].1 rows[k].2.1 rows[k].2.2 _ _ _ := h.2 k _ _ (List.getElem?_eq_getElem hk) (List.getElem?_eq_getElem (by rw [← h.1]; exact hk))
  rcases he with rfl | rfl | rfl
  · exact hi.O.bel 0
  · exact hi.P.bel 0
  · exact hi.C.bel 0
structure SzG (G : List Pre) : Prop where
  l : G.length ≤ 1048576
  r : ∀ g ∈ G, SzP g.1 g.2.1 g.2.2
/-- How many groups a kind asks for. -/
def need (k : Int) : Int := if k = 5 then 3 else if k = 4 then 2 else if 1 ≤ k ∧ k ≤ 6 then 1 else -1
def isCert (k : Int) (G : List Pre) (L : List (List Int)) : Prop :=
  need k = G.length ∧ L.length ≤ 32 ∧ (∀ g ∈ G, isPres g.1 g.2.1 g.2.2) ∧ ∀ l ∈ L, l.length ≤ 128 ∧ ∀ x ∈ l, -1000000 ≤ x ∧ x ≤ 1000000
variable {σ : PHeap} {K : PV → PHeap → Prop} {k k' : Int} {G G' : List Pre} {L L' : List (List Int)} {vG vL vG' vL' : PV} {s : Nat}
theorem l35Groups_ok (hk : K (.int .i64 (need k)) σ) : PCalls Try.prog 91 [.int .i64 k] σ K := by
  unfold need at hk
  refine pcalls_of_vp mix Try.func91 cf91 rfl ?_
  dsimp only [if91, qI, eI, nI, qD, eD]
  by_cases h5 : k = 5
  · subst h5; simp only [pwA, if_true, if_false, eq_self, nm_eq, reduceCtorEq, ↓reduceIte, Nat.reduceEqDiff, Nat.reduceLeDiff, Nat.reduceBEq, Nat.reduceAdd, Nat.reduceLT, Nat.reduceSub, Nat.reduceMul, Int.reduceEq, Int.reduceLT, Int.reduceLE, Int.reduceNeg, Int.reduceToNat, List.reduceReplicate, Int.ofNat_le, List.getElem?_drop]; exact hk
  by_cases h4 : k = 4
  · subst h4; simp only [pwA, if_true, if_false, eq_self, nm_eq, reduceCtorEq, ↓reduceIte, Nat.reduceEqDiff, Nat.reduceLeDiff, Nat.reduceBEq, Nat.reduceAdd, Nat.reduceLT, Nat.reduceSub, Nat.reduceMul, Int.reduceEq, Int.reduceLT, Int.reduceLE, Int.reduceNeg, Int.reduceToNat, List.reduceReplicate, Int.ofNat_le, List.getElem?_drop]; exact hk
  rw [if_neg h5, if_neg h4] at hk
  by_cases h1 : k = 1
  · subst h1; simp only [pwA, if_true, if_false, eq_self, nm_eq, reduceCtorEq, ↓reduceIte, Nat.reduceEqDiff, Nat.reduceLeDiff, Nat.reduceBEq, Nat.reduceAdd, Nat.reduceLT, Nat.reduceSub, Nat.reduceMul, Int.reduceEq, Int.reduceLT, Int.reduceLE, Int.reduceNeg, Int.reduceToNat, List.reduceReplicate, Int.ofNat_le, List.getElem?_drop]; exact hk
  by_cases h2 : k = 2
  · subst h2; simp only [pwA, if_true, if_false, eq_self, nm_eq, reduceCtorEq, ↓reduceIte, Nat.reduceEqDiff, Nat.reduceLeDiff, Nat.reduceBEq, Nat.reduceAdd, Nat.reduceLT, Nat.reduceSub, Nat.reduceMul, Int.reduceEq, Int.reduceLT, Int.reduceLE, Int.reduceNeg, Int.reduceToNat, List.reduceReplicate, Int.ofNat_le, List.getElem?_drop]; exact hk
  by_cases h3 : k = 3
  · subst h3; simp only [pwA, if_true, if_false, eq_self, nm_eq, reduceCtorEq, ↓reduceIte, Nat.reduceEqDiff, Nat.reduceLeDiff, Nat.reduceBEq, Nat.reduceAdd, Nat.reduceLT, Nat.reduceSub, Nat.reduceMul, Int.reduceEq, Int.reduceLT, Int.reduceLE, Int.reduceNeg, Int.reduceToNat, List.reduceReplicate, Int.ofNat_le, List.getElem?_drop]; exact hk
  by_cases h6 : k = 6
  · subst h6; simp only [pwA, if_true, if_false, eq_self, nm_eq, reduceCtorEq, ↓reduceIte, Nat.reduceEqDiff, Nat.reduceLeDiff, Nat.reduceBEq, Nat.reduceAdd, Nat.reduceLT, Nat.reduceSub, Nat.reduceMul, Int.reduceEq, Int.reduceLT, Int.reduceLE, Int.reduceNeg, Int.reduceToNat, List.reduceReplicate, Int.ofNat_le, List.getElem?_drop]; exact hk
  rw [if_neg (by omega)] at hk
  simp only [pwA, if_true, if_false, eq_self, nm_eq, reduceCtorEq, ↓reduceIte, Nat.reduceEqDiff, Nat.reduceLeDiff, Nat.reduceBEq, Nat.reduceAdd, Nat.reduceLT, Nat.reduceSub, Nat.reduceMul, Int.reduceEq, Int.reduceLT, Int.reduceLE, Int.reduceNeg, Int.reduceToNat, List.reduceReplicate, Int.ofNat_le, List.getElem?_drop, h1, h2, h3, h4, h5, h6]
  exact hk
theorem groupsNeeded_ok (hin : 1 ≤ k ∧ k ≤ 6) (hk : K (.int .i64 (need k)) σ) : PCalls Try.prog 124 [.int .i64 k] σ K := by
  unfold need at hk
  refine pcalls_of_vp mix Try.func124 cf124 rfl ?_
  dsimp only [if124, qI, eI, nI, qD, eD]
  by_cases h5 : k = 5
  · subst h5; simp only [pwA, if_true, if_false, eq_self, nm_eq, reduceCtorEq, ↓reduceIte, Nat.reduceEqDiff, Nat.reduceLeDiff, Nat.reduceBEq, Nat.reduceAdd, Nat.reduceLT, Nat.reduceSub, Nat.reduceMul, Int.reduceEq, Int.reduceLT, Int.reduceLE, Int.reduceNeg, Int.reduceToNat, List.reduceReplicate, Int.ofNat_le, List.getElem?_drop]; exact hk
  by_cases h4 : k = 4
  · subst h4; simp only [pwA, if_true, if_false, eq_self, nm_eq, reduceCtorEq, ↓reduceIte, Nat.reduceEqDiff, Nat.reduceLeDiff, Nat.reduceBEq, Nat.reduceAdd, Nat.reduceLT, Nat.reduceSub, Nat.reduceMul, Int.reduceEq, Int.reduceLT, Int.reduceLE, Int.reduceNeg, Int.reduceToNat, List.reduceReplicate, Int.ofNat_le, List.getElem?_drop]; exact hk
  rw [if_neg h5, if_neg h4, if_pos hin] at hk
  simp only [pwA, if_true, if_false, eq_self, nm_eq, reduceCtorEq, ↓reduceIte, Nat.reduceEqDiff, Nat.reduceLeDiff, Nat.reduceBEq, Nat.reduceAdd, Nat.reduceLT, Nat.reduceSub, Nat.reduceMul, Int.reduceEq, Int.reduceLT, Int.reduceLE, Int.reduceNeg, Int.reduceToNat, List.reduceReplicate, Int.ofNat_le, List.getElem?_drop, h4, h5]
  exact hk
theorem isCertificate_ok (hs : σ.obj s = some [.int .i64 k, vG, vL]) (hG : FG vG G) (szG : SzG G) (hL : FII vL L) (szL : SzL L) (hk : ∀ t : Bool, (t = true ↔ isCert k G L) → K (.bool t) σ) : PCalls Try.prog 95 [.ptr s 0] σ K := by
  have fl : ∀ {A : Prop}, ¬ A → ((false = true) ↔ A) := fun h => ⟨fun x => (by cases x), fun x => absurd x h⟩
  obtain ⟨wG, aG, rG, rfl, hrG⟩ := hG
  obtain ⟨wL, aL, rL, rfl, hrL⟩ := hL
  have e0 : σ.rd1 s 0 = some (.int .i64 k) := by rw [obj_rd1 hs]; rfl
  have e1 : σ.rd1 s 1 = some (.fz wG aG G.length (fl3 rG)) := by rw [obj_rd1 hs]; rfl
  have e2 : σ.rd1 s 2 = some (.fz wL aL L.length rL) := by rw [obj_rd1 hs]; rfl
  have szg := szG.l
  have szl := szL.l
  refine PCalls.pwf fun wf => PCalls.gh ?_
  have hsl : s < σ.next := wf.lt hs
  have no : ∀ {σ' : PHeap}, ¬ isCert k G L → Keep σ σ' → Gh σ K (.bool false) σ' := fun h kk => Gh.fin0 kk trivial (hk _ (fl h))
  refine pcalls_of_vp mix Try.func95 cf95 rfl ?_
  dsimp only [if95, qI, eI, nI, qD, eD]
  simp only [pwA, if_true, if_false, eq_self, nm_eq, reduceCtorEq, ↓reduceIte, Nat.reduceEqDiff, Nat.reduceLeDiff, Nat.reduceBEq, Nat.reduceAdd, Nat.reduceLT, Nat.reduceSub, Nat.reduceMul, Int.reduceEq, Int.reduceLT, Int.reduceLE, Int.reduceNeg, Int.reduceToNat, List.reduceReplicate, Int.ofNat_le, List.getElem?_drop, e0]
  refine inside_ok ?_
  by_cases hin : 1 ≤ k ∧ k ≤ 6
  rotate_left
  · simp only [pwA, if_true, if_false, eq_self, nm_eq, reduceCtorEq, ↓reduceIte, Nat.reduceEqDiff, Nat.reduceLeDiff, Nat.reduceBEq, Nat.reduceAdd, Nat.reduceLT, Nat.reduceSub, Nat.reduceMul, Int.reduceEq, Int.reduceLT, Int.reduceLE, Int.reduceNeg, Int.reduceToNat, List.reduceReplicate, Int.ofNat_le, List.getElem?_drop, hin, e0, e1, e2]
    refine no (fun h => hin ?_) (Keep.refl σ)
    have := h.1
    unfold need at this
    by_cases h5 : k = 5
    · omega
    by_cases h4 : k = 4
    · omega
    rw [if_neg h5, if_neg h4, if_neg hin] at this
    omega
  simp only [pwA, if_true, if_false, eq_self, nm_eq, reduceCtorEq, ↓reduceIte, Nat.reduceEqDiff, Nat.reduceLeDiff, Nat.reduceBEq, Nat.reduceAdd, Nat.reduceLT, Nat.reduceSub, Nat.reduceMul, Int.reduceEq, Int.reduceLT, Int.reduceLE, Int.reduceNeg, Int.reduceToNat, List.reduceReplicate, Int.ofNat_le, List.getElem?_drop, hin, e0, e1, e2]
  refine groupsNeeded_ok hin ?_
  by_cases hg : (G.length : Int) = need k
  rotate_left
  · simp only [pwA, if_true, if_false, eq_self, nm_eq, reduceCtorEq, ↓reduceIte, Nat.reduceEqDiff, Nat.reduceLeDiff, Nat.reduceBEq, Nat.reduceAdd, Nat.reduceLT, Nat.reduceSub, Nat.reduceMul, Int.reduceEq, Int.reduceLT, Int.reduceLE, Int.reduceNeg, Int.reduceToNat, List.reduceReplicate, Int.ofNat_le, List.getElem?_drop, e0, e1, e2, hg]
    exact no (fun h => hg h.1.symm) (Keep.refl σ)
  by_cases hl : L.length ≤ 32
  rotate_left
  · have hl' : (32 : Int) < (L.length : Int) := by omega
    simp only [pwA, if_true, if_false, eq_self, nm_eq, reduceCtorEq, ↓reduceIte, Nat.reduceEqDiff, Nat.reduceLeDiff, Nat.reduceBEq, Nat.reduceAdd, Nat.reduceLT, Nat.reduceSub, Nat.reduceMul, Int.reduceEq, Int.reduceLT, Int.reduceLE, Int.reduceNeg, Int.reduceToNat, List.reduceReplicate, Int.ofNat_le, List.getElem?_drop, e0, e1, e2, eq_true hg, hl']
    exact no (fun h => hl h.2.1) (Keep.refl σ)
  have hl' : ¬ (32 : Int) < (L.length : Int) := by omega
  simp only [pwA, if_true, if_false, eq_self, nm_eq, reduceCtorEq, ↓reduceIte, Nat.reduceEqDiff, Nat.reduceLeDiff, Nat.reduceBEq, Nat.reduceAdd, Nat.reduceLT, Nat.reduceSub, Nat.reduceMul, Int.reduceEq, Int.reduceLT, Int.reduceLE, Int.reduceNeg, Int.reduceToNat, List.reduceReplicate, Int.ofNat_le, List.getElem?_drop, e0, e1, e2, eq_true hg, hl']
  refine vp_loop (fun m us h' => ∃ i : Nat, i ≤ G.length ∧ m = G.length - i ∧ us = [.ptr s 0, .fz wG aG G.length (fl3 rG), .int .i64 G.length, .int .i64 i] ∧ Keep σ h' ∧ ∀ g ∈ G.take i, isPres g.1 g.2.1 g.2.2) G.length ?_ ?_
  · exact ⟨0, by omega, by omega, rfl, Keep.refl σ, by simp⟩
  rintro m us h' ⟨i, hi, rfl, rfl, hkp, hall⟩
  have e2' : h'.rd1 s 2 = some (.fz wL aL L.length rL) := by rw [obj_rd1 ((hkp.obj _ hsl).trans hs)]; rfl
  simp only [pwA, if_true, if_false, eq_self, nm_eq, reduceCtorEq, ↓reduceIte, Nat.reduceEqDiff, Nat.reduceLeDiff, Nat.reduceBEq, Nat.reduceAdd, Nat.reduceLT, Nat.reduceSub, Nat.reduceMul, Int.reduceEq, Int.reduceLT, Int.reduceLE, Int.reduceNeg, Int.reduceToNat, List.reduceReplicate, Int.ofNat_le, List.getElem?_drop]
  refine iteI (fun hlt => ?_) fun hge => ?_
  · have hkr : i < rG.length := by rw [hrG.1]; exact hlt
    have hget := fl3_get hkr
    have h3 : 3 ≤ (fl3 rG).length - i * 3 := by have := fl3_length rG; omega
    have hp : IsPr rG[i].1 rG[i].2.1 rG[i].2.2 G[i].1 G[i].2.1 G[i].2.2 := hrG.2 i _ _ (List.getElem?_eq_getElem hkr) (List.getElem?_eq_getElem hlt)
    simp only [pwA, if_true, if_false, eq_self, nm_eq, reduceCtorEq, ↓reduceIte, Nat.reduceEqDiff, Nat.reduceLeDiff, Nat.reduceBEq, Nat.reduceAdd, Nat.reduceLT, Nat.reduceSub, Nat.reduceMul, Int.reduceEq, Int.reduceLT, Int.reduceLE, Int.reduceNeg, Int.reduceToNat, List.reduceReplicate, Int.ofNat_le, List.getElem?_drop, hlt, hget, h3, hp.O.one, hp.P.one, hp.C.one, List.length_drop]
    refine IsPresentation_ok hp (szG.r _ (List.getElem_mem hlt)) fun t ht => ?_
    cases t with
    | false =>
      simp only [pwA, if_true, if_false, eq_self, nm_eq, reduceCtorEq, ↓reduceIte, Nat.reduceEqDiff, Nat.reduceLeDiff, Nat.reduceBEq, Nat.reduceAdd, Nat.reduceLT, Nat.reduceSub, Nat.reduceMul, Int.reduceEq, Int.reduceLT, Int.reduceLE, Int.reduceNeg, Int.reduceToNat, List.reduceReplicate, Int.ofNat_le, List.getElem?_drop]
      exact no (fun h => by cases ht.2 (h.2.2.1 _ (List.getElem_mem hlt))) (hkp.new _)
    | true =>
      simp only [pwA, if_true, if_false, eq_self, nm_eq, reduceCtorEq, ↓reduceIte, Nat.reduceEqDiff, Nat.reduceLeDiff, Nat.reduceBEq, Nat.reduceAdd, Nat.reduceLT, Nat.reduceSub, Nat.reduceMul, Int.reduceEq, Int.reduceLT, Int.reduceLE, Int.reduceNeg, Int.reduceToNat, List.reduceReplicate, Int.ofNat_le, List.getElem?_drop, wrapS hlt (by omega : G.length ≤ 4611686018427387904)]
      refine ⟨_, by omega, i + 1, by omega, rfl, rfl, hkp.new _, fun g hg => ?_⟩
      rw [List.take_succ_eq_append_getElem hlt, List.mem_append, List.mem_singleton] at hg
      rcases hg with hg | rfl
      · exact hall g hg
      · exact ht.1 rfl
  have hpres : ∀ g ∈ G, isPres g.1 g.2.1 g.2.2 := fun g hg => hall g (by rwa [List.take_of_length_le (by omega)])
  simp only [pwA, if_true, if_false, eq_self, nm_eq, reduceCtorEq, ↓reduceIte, Nat.reduceEqDiff, Nat.reduceLeDiff, Nat.reduceBEq, Nat.reduceAdd, Nat.reduceLT, Nat.reduceSub, Nat.reduceMul, Int.reduceEq, Int.reduceLT, Int.reduceLE, Int.reduceNeg, Int.reduceToNat, List.reduceReplicate, Int.ofNat_le, List.getElem?_drop, e2']
  refine vp_loop (fun m us h2 => ∃ i : Nat, i ≤ L.length ∧ m = L.length - i ∧ us = [.fz wL aL L.length rL, .int .i64 L.length, .int .i64 i] ∧ h' = h2 ∧ ∀ l ∈ L.take i, l.length ≤ 128 ∧ ∀ x ∈ l, -1000000 ≤ x ∧ x ≤ 1000000) L.length ?_ ?_
  · exact ⟨0, by omega, by omega, rfl, rfl, by simp⟩
  clear hi hge hall i
  rintro m us h2 ⟨i, hi, rfl, rfl, rfl, hall⟩
  simp only [pwA, if_true, if_false, eq_self, nm_eq, reduceCtorEq, ↓reduceIte, Nat.reduceEqDiff, Nat.reduceLeDiff, Nat.reduceBEq, Nat.reduceAdd, Nat.reduceLT, Nat.reduceSub, Nat.reduceMul, Int.reduceEq, Int.reduceLT, Int.reduceLE, Int.reduceNeg, Int.reduceToNat, List.reduceReplicate, Int.ofNat_le, List.getElem?_drop]
  refine iteI (fun hlt => ?_) fun hge => ?_
  rotate_left
  · exact Gh.fin0 hkp trivial (hk _ ⟨fun _ => ⟨hg.symm, hl, hpres, fun l hl => hall l (by rwa [List.take_of_length_le (by omega)])⟩, fun _ => rfl⟩)
  obtain ⟨w4, a4, hr⟩ := hrL.rowI hlt
  have hb := szL.r _ (List.getElem_mem hlt)
  by_cases h128 : L[i].length ≤ 128
  rotate_left
  · have h' : (128 : Int) < (L[i].length : Int) := by omega
    simp only [pwA, if_true, if_false, eq_self, nm_eq, reduceCtorEq, ↓reduceIte, Nat.reduceEqDiff, Nat.reduceLeDiff, Nat.reduceBEq, Nat.reduceAdd, Nat.reduceLT, Nat.reduceSub, Nat.reduceMul, Int.reduceEq, Int.reduceLT, Int.reduceLE, Int.reduceNeg, Int.reduceToNat, List.reduceReplicate, Int.ofNat_le, List.getElem?_drop, hlt, hr, h', List.getElem?_drop]
    exact no (fun h => h128 (h.2.2.2 _ (List.getElem_mem hlt)).1) hkp
  have h128' : ¬ (128 : Int) < (L[i].length : Int) := by omega
  simp only [pwA, if_true, if_false, eq_self, nm_eq, reduceCtorEq, ↓reduceIte, Nat.reduceEqDiff, Nat.reduceLeDiff, Nat.reduceBEq, Nat.reduceAdd, Nat.reduceLT, Nat.reduceSub, Nat.reduceMul, Int.reduceEq, Int.reduceLT, Int.reduceLE, Int.reduceNeg, Int.reduceToNat, List.reduceReplicate, Int.ofNat_le, List.getElem?_drop, hlt, hr, h128', List.getElem?_drop]
  refine vp_loop (fun m us h2 => ∃ q : Nat, q ≤ L[i].length ∧ m = L[i].length - q ∧ us = [.fz wL aL L.length rL, .int .i64 L.length, .int .i64 i, .fz w4 a4 L[i].length (pis L[i]), .int .i64 L[i].length, .int .i64 q] ∧ h' = h2 ∧ ∀ x ∈ L[i].take q, -1000000 ≤ x ∧ x ≤ 1000000) L[i].length ?_ ?_
  · exact ⟨0, by omega, by omega, rfl, rfl, by simp⟩
  rintro m us h2 ⟨q, hq, rfl, rfl, rfl, hallq⟩
  simp only [pwA, if_true, if_false, eq_self, nm_eq, reduceCtorEq, ↓reduceIte, Nat.reduceEqDiff, Nat.reduceLeDiff, Nat.reduceBEq, Nat.reduceAdd, Nat.reduceLT, Nat.reduceSub, Nat.reduceMul, Int.reduceEq, Int.reduceLT, Int.reduceLE, Int.reduceNeg, Int.reduceToNat, List.reduceReplicate, Int.ofNat_le, List.getElem?_drop]
  refine iteI (fun hlq => ?_) fun hgq => ?_
  rotate_left
  · simp only [pwA, if_true, if_false, eq_self, nm_eq, reduceCtorEq, ↓reduceIte, Nat.reduceEqDiff, Nat.reduceLeDiff, Nat.reduceBEq, Nat.reduceAdd, Nat.reduceLT, Nat.reduceSub, Nat.reduceMul, Int.reduceEq, Int.reduceLT, Int.reduceLE, Int.reduceNeg, Int.reduceToNat, List.reduceReplicate, Int.ofNat_le, List.getElem?_drop, wrapS hlt (by omega : L.length ≤ 4611686018427387904)]
    refine ⟨_, by omega, i + 1, by omega, rfl, rfl, fun l hl => ?_⟩
    rw [List.take_succ_eq_append_getElem hlt, List.mem_append, List.mem_singleton] at hl
    rcases hl with hl | rfl
    · exact hall l hl
    · exact ⟨h128, fun x hx => hallq x (by rwa [List.take_of_length_le (by omega)])⟩
  simp only [pwA, if_true, if_false, eq_self, nm_eq, reduceCtorEq, ↓reduceIte, Nat.reduceEqDiff, Nat.reduceLeDiff, Nat.reduceBEq, Nat.reduceAdd, Nat.reduceLT, Nat.reduceSub, Nat.reduceMul, Int.reduceEq, Int.reduceLT, Int.reduceLE, Int.reduceNeg, Int.reduceToNat, List.reduceReplicate, Int.ofNat_le, List.getElem?_drop, hlq, gi hlq, pis_get, List.getElem?_drop]
  refine inside_ok ?_
  by_cases hv : -1000000 ≤ L[i][q] ∧ L[i][q] ≤ 1000000
  · simp only [pwA, if_true, if_false, eq_self, nm_eq, reduceCtorEq, ↓reduceIte, Nat.reduceEqDiff, Nat.reduceLeDiff, Nat.reduceBEq, Nat.reduceAdd, Nat.reduceLT, Nat.reduceSub, Nat.reduceMul, Int.reduceEq, Int.reduceLT, Int.reduceLE, Int.reduceNeg, Int.reduceToNat, List.reduceReplicate, Int.ofNat_le, List.getElem?_drop, hv, wrapS hlq (by omega : L[i].length ≤ 4611686018427387904)]
    exact ⟨_, by omega, q + 1, by omega, rfl, rfl, forall_snoc hlq hallq hv⟩
  · simp only [pwA, if_true, if_false, eq_self, nm_eq, reduceCtorEq, ↓reduceIte, Nat.reduceEqDiff, Nat.reduceLeDiff, Nat.reduceBEq, Nat.reduceAdd, Nat.reduceLT, Nat.reduceSub, Nat.reduceMul, Int.reduceEq, Int.reduceLT, Int.reduceLE, Int.reduceNeg, Int.reduceToNat, List.reduceReplicate, Int.ofNat_le, List.getElem?_drop, hv]
    exact no (fun h => hv ((h.2.2.2 _ (List.getElem_mem hlt)).2 _ (List.getElem_mem hlq))) hkp
theorem IsCertificate_ok (hG : FG vG G) (szG : SzG G) (hL : FII vL L) (szL : SzL L) (hk : ∀ t : Bool, (t = true ↔ isCert k G L) → K (.bool t) σ) : PCalls Try.prog 54 [.agg [.int .i64 k, vG, vL]] σ K := by
  have h1 := hG.one
  have h2 := hL.one
  refine PCalls.gh ?_
  refine pcalls_of_vp mix Try.func54 cf54 rfl ?_
  dsimp only [if54, qI, eI, nI, qD, eD]
  simp only [pwA, if_true, if_false, eq_self, nm_eq, reduceCtorEq, ↓reduceIte, Nat.reduceEqDiff, Nat.reduceLeDiff, Nat.reduceBEq, Nat.reduceAdd, Nat.reduceLT, Nat.reduceSub, Nat.reduceMul, Int.reduceEq, Int.reduceLT, Int.reduceLE, Int.reduceNeg, Int.reduceToNat, List.reduceReplicate, Int.ofNat_le, List.getElem?_drop, h1, h2]
  refine isCertificate_ok (k := k) (by simp only [pwA, if_true, if_false, eq_self, nm_eq, reduceCtorEq, ↓reduceIte, Nat.reduceEqDiff, Nat.reduceLeDiff, Nat.reduceBEq, Nat.reduceAdd, Nat.reduceLT, Nat.reduceSub, Nat.reduceMul, Int.reduceEq, Int.reduceLT, Int.reduceLE, Int.reduceNeg, Int.reduceToNat, List.reduceReplicate, Int.ofNat_le, List.getElem?_drop]) hG szG hL szL fun t ht => ?_
  simp only [pwA, if_true, if_false, eq_self, nm_eq, reduceCtorEq, ↓reduceIte, Nat.reduceEqDiff, Nat.reduceLeDiff, Nat.reduceBEq, Nat.reduceAdd, Nat.reduceLT, Nat.reduceSub, Nat.reduceMul, Int.reduceEq, Int.reduceLT, Int.reduceLE, Int.reduceNeg, Int.reduceToNat, List.reduceReplicate, Int.ofNat_le, List.getElem?_drop]
  exact Gh.fin0 (keep_new σ _) trivial (hk _ ht)
theorem l35Certificate_ok (hG : FG vG G) (szG : SzG G) (hL : FII vL L) (szL : SzL L) (hk : ∀ t : Bool, (t = true ↔ isCert k G L) → K (.bool t) σ) : PCalls Try.prog 52 [.agg [.int .i64 k, vG, vL]] σ K := by
  have fl : ∀ {A : Prop}, ¬ A → ((false = true) ↔ A) := fun h => ⟨fun x => (by cases x), fun x => absurd x h⟩
  obtain ⟨wG, aG, rG, rfl, hrG⟩ := hG
  obtain ⟨wL, aL, rL, rfl, hrL⟩ := hL
  refine PCalls.gh ?_
  generalize hH : σ.new [.int .i64 k, .fz wG aG G.length (fl3 rG), .fz wL aL L.length rL] = H
  have hkp : Keep σ H := by rw [← hH]; exact keep_new σ _
  have hs : H.obj σ.next = some [.int .i64 k, .fz wG aG G.length (fl3 rG), .fz wL aL L.length rL] := by rw [← hH]; simp only [pwA, if_true, if_false, eq_self, nm_eq, reduceCtorEq, ↓reduceIte, Nat.reduceEqDiff, Nat.reduceLeDiff, Nat.reduceBEq, Nat.reduceAdd, Nat.reduceLT, Nat.reduceSub, Nat.reduceMul, Int.reduceEq, Int.reduceLT, Int.reduceLE, Int.reduceNeg, Int.reduceToNat, List.reduceReplicate, Int.ofNat_le, List.getElem?_drop]
  have e0 : H.rd1 σ.next 0 = some (.int .i64 k) := by rw [obj_rd1 hs]; rfl
  have e1 : H.rd1 σ.next 1 = some (.fz wG aG G.length (fl3 rG)) := by rw [obj_rd1 hs]; rfl
  have e2 : H.rd1 σ.next 2 = some (.fz wL aL L.length rL) := by rw [obj_rd1 hs]; rfl
  have szg := szG.l
  have szl := szL.l
  have no : ¬ isCert k G L → Gh σ K (.bool false) H := fun h => Gh.fin0 hkp trivial (hk _ (fl h))
  refine pcalls_of_vp mix Try.func52 cf52 rfl ?_
  dsimp only [if52, qI, eI, nI, qD, eD]
  simp only [pwA, if_true, if_false, eq_self, nm_eq, reduceCtorEq, ↓reduceIte, Nat.reduceEqDiff, Nat.reduceLeDiff, Nat.reduceBEq, Nat.reduceAdd, Nat.reduceLT, Nat.reduceSub, Nat.reduceMul, Int.reduceEq, Int.reduceLT, Int.reduceLE, Int.reduceNeg, Int.reduceToNat, List.reduceReplicate, Int.ofNat_le, List.getElem?_drop]
  rw [hH]
  simp only [pwA, if_true, if_false, eq_self, nm_eq, reduceCtorEq, ↓reduceIte, Nat.reduceEqDiff, Nat.reduceLeDiff, Nat.reduceBEq, Nat.reduceAdd, Nat.reduceLT, Nat.reduceSub, Nat.reduceMul, Int.reduceEq, Int.reduceLT, Int.reduceLE, Int.reduceNeg, Int.reduceToNat, List.reduceReplicate, Int.ofNat_le, List.getElem?_drop, e0, e1]
  refine l35Groups_ok ?_
  by_cases hg : need k = (G.length : Int)
  rotate_left
  · simp only [pwA, if_true, if_false, eq_self, nm_eq, reduceCtorEq, ↓reduceIte, Nat.reduceEqDiff, Nat.reduceLeDiff, Nat.reduceBEq, Nat.reduceAdd, Nat.reduceLT, Nat.reduceSub, Nat.reduceMul, Int.reduceEq, Int.reduceLT, Int.reduceLE, Int.reduceNeg, Int.reduceToNat, List.reduceReplicate, Int.ofNat_le, List.getElem?_drop, e0, e1, e2, hg]
    exact no (fun h => hg h.1)
  by_cases hl : L.length ≤ 32
  rotate_left
  · have hl' : (32 : Int) < (L.length : Int) := by omega
    simp only [pwA, if_true, if_false, eq_self, nm_eq, reduceCtorEq, ↓reduceIte, Nat.reduceEqDiff, Nat.reduceLeDiff, Nat.reduceBEq, Nat.reduceAdd, Nat.reduceLT, Nat.reduceSub, Nat.reduceMul, Int.reduceEq, Int.reduceLT, Int.reduceLE, Int.reduceNeg, Int.reduceToNat, List.reduceReplicate, Int.ofNat_le, List.getElem?_drop, e0, e1, e2, eq_true hg, hl']
    exact no (fun h => hl h.2.1)
  have hl' : ¬ (32 : Int) < (L.length : Int) := by omega
  simp only [pwA, if_true, if_false, eq_self, nm_eq, reduceCtorEq, ↓reduceIte, Nat.reduceEqDiff, Nat.reduceLeDiff, Nat.reduceBEq, Nat.reduceAdd, Nat.reduceLT, Nat.reduceSub, Nat.reduceMul, Int.reduceEq, Int.reduceLT, Int.reduceLE, Int.reduceNeg, Int.reduceToNat, List.reduceReplicate, Int.ofNat_le, List.getElem?_drop, e0, e1, e2, eq_true hg, hl']
  refine vp_loop (fun m us h' => ∃ i : Nat, i ≤ G.length ∧ m = G.length - i ∧ us = [.ptr σ.next 0, .int .i64 i] ∧ H = h' ∧ ∀ g ∈ G.take i, isPres g.1 g.2.1 g.2.2) G.length ?_ ?_
  · exact ⟨0, by omega, by omega, rfl, rfl, by simp⟩
  rintro m us h' ⟨i, hi, rfl, rfl, rfl, hall⟩
  simp only [pwA, if_true, if_false, eq_self, nm_eq, reduceCtorEq, ↓reduceIte, Nat.reduceEqDiff, Nat.reduceLeDiff, Nat.reduceBEq, Nat.reduceAdd, Nat.reduceLT, Nat.reduceSub, Nat.reduceMul, Int.reduceEq, Int.reduceLT, Int.reduceLE, Int.reduceNeg, Int.reduceToNat, List.reduceReplicate, Int.ofNat_le, List.getElem?_drop, e1]
  refine iteI (fun hlt => ?_) fun hge => ?_
  · have hkr : i < rG.length := by rw [hrG.1]; exact hlt
    have hget := fl3_get hkr
    have h3 : 3 ≤ (fl3 rG).length - i * 3 := by have := fl3_length rG; omega
    have hp : IsPr rG[i].1 rG[i].2.1 rG[i].2.2 G[i].1 G[i].2.1 G[i].2.2 := hrG.2 i _ _ (List.getElem?_eq_getElem hkr) (List.getElem?_eq_getElem hlt)
    simp only [pwA, if_true, if_false, eq_self, nm_eq, reduceCtorEq, ↓reduceIte, Nat.reduceEqDiff, Nat.reduceLeDiff, Nat.reduceBEq, Nat.reduceAdd, Nat.reduceLT, Nat.reduceSub, Nat.reduceMul, Int.reduceEq, Int.reduceLT, Int.reduceLE, Int.reduceNeg, Int.reduceToNat, List.reduceReplicate, Int.ofNat_le, List.getElem?_drop, e1, hlt, hget, h3, hp.O.one, hp.P.one, hp.C.one, List.length_drop]
    refine l07IsPresentation_ok hp (szG.r _ (List.getElem_mem hlt)) fun t ht => ?_
    cases t with
    | false =>
      simp only [pwA, if_true, if_false, eq_self, nm_eq, reduceCtorEq, ↓reduceIte, Nat.reduceEqDiff, Nat.reduceLeDiff, Nat.reduceBEq, Nat.reduceAdd, Nat.reduceLT, Nat.reduceSub, Nat.reduceMul, Int.reduceEq, Int.reduceLT, Int.reduceLE, Int.reduceNeg, Int.reduceToNat, List.reduceReplicate, Int.ofNat_le, List.getElem?_drop]
      exact no (fun h => by cases ht.2 (h.2.2.1 _ (List.getElem_mem hlt)))
    | true =>
      simp only [pwA, if_true, if_false, eq_self, nm_eq, reduceCtorEq, ↓reduceIte, Nat.reduceEqDiff, Nat.reduceLeDiff, Nat.reduceBEq, Nat.reduceAdd, Nat.reduceLT, Nat.reduceSub, Nat.reduceMul, Int.reduceEq, Int.reduceLT, Int.reduceLE, Int.reduceNeg, Int.reduceToNat, List.reduceReplicate, Int.ofNat_le, List.getElem?_drop, wrapS hlt (by omega : G.length ≤ 4611686018427387904)]
      refine ⟨_, by omega, i + 1, by omega, rfl, rfl, fun g hg => ?_⟩
      rw [List.take_succ_eq_append_getElem hlt, List.mem_append, List.mem_singleton] at hg
      rcases hg with hg | rfl
      · exact hall g hg
      · exact ht.1 rfl
  have hpres : ∀ g ∈ G, isPres g.1 g.2.1 g.2.2 := fun g hg => hall g (by rwa [List.take_of_length_le (by omega)])
  simp only [pwA, if_true, if_false, eq_self, nm_eq, reduceCtorEq, ↓reduceIte, Nat.reduceEqDiff, Nat.reduceLeDiff, Nat.reduceBEq, Nat.reduceAdd, Nat.reduceLT, Nat.reduceSub, Nat.reduceMul, Int.reduceEq, Int.reduceLT, Int.reduceLE, Int.reduceNeg, Int.reduceToNat, List.reduceReplicate, Int.ofNat_le, List.getElem?_drop]
  refine vp_loop (fun m us h2 => ∃ i : Nat, i ≤ L.length ∧ m = L.length - i ∧ us = [.ptr σ.next 0, .int .i64 i] ∧ H = h2 ∧ ∀ l ∈ L.take i, l.length ≤ 128 ∧ ∀ x ∈ l, -1000000 ≤ x ∧ x ≤ 1000000) L.length ?_ ?_
  · exact ⟨0, by omega, by omega, rfl, rfl, by simp⟩
  clear hi hge hall i
  rintro m us h2 ⟨i, hi, rfl, rfl, rfl, hall⟩
  simp only [pwA, if_true, if_false, eq_self, nm_eq, reduceCtorEq, ↓reduceIte, Nat.reduceEqDiff, Nat.reduceLeDiff, Nat.reduceBEq, Nat.reduceAdd, Nat.reduceLT, Nat.reduceSub, Nat.reduceMul, Int.reduceEq, Int.reduceLT, Int.reduceLE, Int.reduceNeg, Int.reduceToNat, List.reduceReplicate, Int.ofNat_le, List.getElem?_drop, e2]
  refine iteI (fun hlt => ?_) fun hge => ?_
  rotate_left
  · exact Gh.fin0 hkp trivial (hk _ ⟨fun _ => ⟨hg, hl, hpres, fun l hl => hall l (by rwa [List.take_of_length_le (by omega)])⟩, fun _ => rfl⟩)
  obtain ⟨w4, a4, hr⟩ := hrL.rowI hlt
  have hb := szL.r _ (List.getElem_mem hlt)
  by_cases h128 : L[i].length ≤ 128
  rotate_left
  · have h' : (128 : Int) < (L[i].length : Int) := by omega
    simp only [pwA, if_true, if_false, eq_self, nm_eq, reduceCtorEq, ↓reduceIte, Nat.reduceEqDiff, Nat.reduceLeDiff, Nat.reduceBEq, Nat.reduceAdd, Nat.reduceLT, Nat.reduceSub, Nat.reduceMul, Int.reduceEq, Int.reduceLT, Int.reduceLE, Int.reduceNeg, Int.reduceToNat, List.reduceReplicate, Int.ofNat_le, List.getElem?_drop, e2, hlt, hr, h', List.getElem?_drop]
    exact no (fun h => h128 (h.2.2.2 _ (List.getElem_mem hlt)).1)
  have h128' : ¬ (128 : Int) < (L[i].length : Int) := by omega
  simp only [pwA, if_true, if_false, eq_self, nm_eq, reduceCtorEq, ↓reduceIte, Nat.reduceEqDiff, Nat.reduceLeDiff, Nat.reduceBEq, Nat.reduceAdd, Nat.reduceLT, Nat.reduceSub, Nat.reduceMul, Int.reduceEq, Int.reduceLT, Int.reduceLE, Int.reduceNeg, Int.reduceToNat, List.reduceReplicate, Int.ofNat_le, List.getElem?_drop, e2, hlt, hr, h128', List.getElem?_drop]
  refine vp_loop (fun m us h2 => ∃ q : Nat, q ≤ L[i].length ∧ m = L[i].length - q ∧ us = [.ptr σ.next 0, .int .i64 i, .int .i64 q] ∧ H = h2 ∧ ∀ x ∈ L[i].take q, -1000000 ≤ x ∧ x ≤ 1000000) L[i].length ?_ ?_
  · exact ⟨0, by omega, by omega, rfl, rfl, by simp⟩
  rintro m us h2 ⟨q, hq, rfl, rfl, rfl, hallq⟩
  simp only [pwA, if_true, if_false, eq_self, nm_eq, reduceCtorEq, ↓reduceIte, Nat.reduceEqDiff, Nat.reduceLeDiff, Nat.reduceBEq, Nat.reduceAdd, Nat.reduceLT, Nat.reduceSub, Nat.reduceMul, Int.reduceEq, Int.reduceLT, Int.reduceLE, Int.reduceNeg, Int.reduceToNat, List.reduceReplicate, Int.ofNat_le, List.getElem?_drop, e2, hlt, hr, List.getElem?_drop]
  refine iteI (fun hlq => ?_) fun hgq => ?_
  rotate_left
  · simp only [pwA, if_true, if_false, eq_self, nm_eq, reduceCtorEq, ↓reduceIte, Nat.reduceEqDiff, Nat.reduceLeDiff, Nat.reduceBEq, Nat.reduceAdd, Nat.reduceLT, Nat.reduceSub, Nat.reduceMul, Int.reduceEq, Int.reduceLT, Int.reduceLE, Int.reduceNeg, Int.reduceToNat, List.reduceReplicate, Int.ofNat_le, List.getElem?_drop, wrapS hlt (by omega : L.length ≤ 4611686018427387904)]
    refine ⟨_, by omega, i + 1, by omega, rfl, rfl, fun l hl => ?_⟩
    rw [List.take_succ_eq_append_getElem hlt, List.mem_append, List.mem_singleton] at hl
    rcases hl with hl | rfl
    · exact hall l hl
    · exact ⟨h128, fun x hx => hallq x (by rwa [List.take_of_length_le (by omega)])⟩
  simp only [pwA, if_true, if_false, eq_self, nm_eq, reduceCtorEq, ↓reduceIte, Nat.reduceEqDiff, Nat.reduceLeDiff, Nat.reduceBEq, Nat.reduceAdd, Nat.reduceLT, Nat.reduceSub, Nat.reduceMul, Int.reduceEq, Int.reduceLT, Int.reduceLE, Int.reduceNeg, Int.reduceToNat, List.reduceReplicate, Int.ofNat_le, List.getElem?_drop, e2, hlt, hr, hlq, gi hlq, pis_get, List.getElem?_drop]
  refine l01In_ok ?_
  by_cases hv : -1000000 ≤ L[i][q] ∧ L[i][q] ≤ 1000000
  · simp only [pwA, if_true, if_false, eq_self, nm_eq, reduceCtorEq, ↓reduceIte, Nat.reduceEqDiff, Nat.reduceLeDiff, Nat.reduceBEq, Nat.reduceAdd, Nat.reduceLT, Nat.reduceSub, Nat.reduceMul, Int.reduceEq, Int.reduceLT, Int.reduceLE, Int.reduceNeg, Int.reduceToNat, List.reduceReplicate, Int.ofNat_le, List.getElem?_drop, hv, wrapS hlq (by omega : L[i].length ≤ 4611686018427387904)]
    exact ⟨_, by omega, q + 1, by omega, rfl, rfl, forall_snoc hlq hallq hv⟩
  · simp only [pwA, if_true, if_false, eq_self, nm_eq, reduceCtorEq, ↓reduceIte, Nat.reduceEqDiff, Nat.reduceLeDiff, Nat.reduceBEq, Nat.reduceAdd, Nat.reduceLT, Nat.reduceSub, Nat.reduceMul, Int.reduceEq, Int.reduceLT, Int.reduceLE, Int.reduceNeg, Int.reduceToNat, List.reduceReplicate, Int.ofNat_le, List.getElem?_drop, hv]
    exact no (fun h => hv ((h.2.2.2 _ (List.getElem_mem hlt)).2 _ (List.getElem_mem hlq)))
end Go.Proofs
set_option linter.unusedSimpArgs false
set_option linter.unusedVariables false
namespace Go.Proofs
open Go.Ab Go.Lie Go.Grp Go.Mx
variable {σ : PHeap} {K : PV → PHeap → Prop} {k k' : Int} {G G' : List Pre} {L L' : List (List Int)} {vG vL vG' vL' : PV} {s : Nat}
structure MxG (G : List Pre) : Prop where
  l : G.length ≤ 9223372036854775807
  r : ∀ g ∈ G, MxP g.1 g.2.1 g.2.2
theorem szPresentationS_ok {l : Int} (hG : FG vG G) (mx : MxG G) (hl : left_ l) (hk : ∀ r : Int, (r = -1 ∨ (left_ r ∧ SzG G)) → K (.int .i64 r) σ) : PCalls Try.prog 90 [vG, .int .i64 l] σ K := by
  obtain ⟨w, a, rs, rfl, hr⟩ := hG
  have hb := mx.l
  have hl' := hl
  unfold left_ at hl
  refine pcalls_of_vp mix Try.func90 cf90 rfl ?_
  dsimp only [if90, qI, eI, nI, qD, eD]
  simp only [pwA, if_true, if_false, eq_self, nm_eq, reduceCtorEq, ↓reduceIte, Nat.reduceEqDiff, Nat.reduceLeDiff, Nat.reduceBEq, Nat.reduceAdd, Nat.reduceLT, Nat.reduceSub, Nat.reduceMul, Int.reduceEq, Int.reduceLT, Int.reduceLE, Int.reduceNeg, Int.reduceToNat, List.reduceReplicate, Int.ofNat_le, List.getElem?_drop, wrap64 (n := l - (G.length : Int)) (by omega) (by omega)]
  refine iteI (fun h => ?_) fun h => ?_
  · exact hk _ (.inl rfl)
  refine vp_loop (fun m vs h' => ∃ i : Nat, i ≤ G.length ∧ m = G.length - i ∧ ∃ r : Int, left_ r ∧ vs = [.fz w a G.length (fl3 rs), .int .i64 r, .int .i64 i] ∧ σ = h' ∧ ∀ g ∈ G.take i, SzP g.1 g.2.1 g.2.2) G.length ?_ ?_
  · exact ⟨0, by omega, by omega, _, (by unfold left_; omega), rfl, rfl, by simp⟩
  rintro m vs h' ⟨i, hi, rfl, r, hr', rfl, rfl, hall⟩
  simp only [pwA, if_true, if_false, eq_self, nm_eq, reduceCtorEq, ↓reduceIte, Nat.reduceEqDiff, Nat.reduceLeDiff, Nat.reduceBEq, Nat.reduceAdd, Nat.reduceLT, Nat.reduceSub, Nat.reduceMul, Int.reduceEq, Int.reduceLT, Int.reduceLE, Int.reduceNeg, Int.reduceToNat, List.reduceReplicate, Int.ofNat_le, List.getElem?_drop]
  refine iteI (fun hlt => ?_) fun hge => ?_
  rotate_left
  · exact hk _ (.inr ⟨hr', by omega, fun g hg => hall g (by rwa [List.take_of_length_le (by omega)])⟩)
  have hkr : i < rs.length := by rw [hr.1]; exact hlt
  have hget := fl3_get hkr
  have h3 : 3 ≤ (fl3 rs).length - i * 3 := by have := fl3_length rs; omega
  have hp : IsPr rs[i].1 rs[i].2.1 rs[i].2.2 G[i].1 G[i].2.1 G[i].2.2 := hr.2 i _ _ (List.getElem?_eq_getElem hkr) (List.getElem?_eq_getElem hlt)
  simp only [pwA, if_true, if_false, eq_self, nm_eq, reduceCtorEq, ↓reduceIte, Nat.reduceEqDiff, Nat.reduceLeDiff, Nat.reduceBEq, Nat.reduceAdd, Nat.reduceLT, Nat.reduceSub, Nat.reduceMul, Int.reduceEq, Int.reduceLT, Int.reduceLE, Int.reduceNeg, Int.reduceToNat, List.reduceReplicate, Int.ofNat_le, List.getElem?_drop, hlt, hget, h3, List.length_drop]
  refine szPresentation_ok hp (mx.r _ (List.getElem_mem hlt)) hr' fun r' h => ?_
  rcases h with rfl | ⟨h1, h2⟩
  · simp only [pwA, if_true, if_false, eq_self, nm_eq, reduceCtorEq, ↓reduceIte, Nat.reduceEqDiff, Nat.reduceLeDiff, Nat.reduceBEq, Nat.reduceAdd, Nat.reduceLT, Nat.reduceSub, Nat.reduceMul, Int.reduceEq, Int.reduceLT, Int.reduceLE, Int.reduceNeg, Int.reduceToNat, List.reduceReplicate, Int.ofNat_le, List.getElem?_drop]
    exact hk _ (.inl rfl)
  · have : ¬ r' < 0 := by unfold left_ at h1; omega
    simp only [pwA, if_true, if_false, eq_self, nm_eq, reduceCtorEq, ↓reduceIte, Nat.reduceEqDiff, Nat.reduceLeDiff, Nat.reduceBEq, Nat.reduceAdd, Nat.reduceLT, Nat.reduceSub, Nat.reduceMul, Int.reduceEq, Int.reduceLT, Int.reduceLE, Int.reduceNeg, Int.reduceToNat, List.reduceReplicate, Int.ofNat_le, List.getElem?_drop, this, wrapS hlt (by omega : G.length ≤ 4611686018427387904)]
    refine ⟨_, by omega, i + 1, by omega, rfl, _, h1, rfl, fun g hg => ?_⟩
    rw [List.take_succ_eq_append_getElem hlt, List.mem_append, List.mem_singleton] at hg
    rcases hg with hg | rfl
    · exact hall g hg
    · exact h2
theorem eqPresentationS_ok (hG : FG vG G) (hG' : FG vG' G') (sz : SzG G) (hk : ∀ t : Bool, (t = true ↔ G = G') → K (.bool t) σ) : PCalls Try.prog 96 [vG, vG'] σ K := by
  obtain ⟨w, a, rs, rfl, hr⟩ := hG
  obtain ⟨w', a', rs', rfl, hr'⟩ := hG'
  have hb := sz.l
  have fl : ∀ {A : Prop}, ¬ A → ((false = true) ↔ A) := fun h => ⟨fun x => (by cases x), fun x => absurd x h⟩
  refine pcalls_of_vp mix Try.func96 cf96 rfl ?_
  dsimp only [if96, qI, eI, nI, qD, eD]
  simp only [pwA, if_true, if_false, eq_self, nm_eq, reduceCtorEq, ↓reduceIte, Nat.reduceEqDiff, Nat.reduceLeDiff, Nat.reduceBEq, Nat.reduceAdd, Nat.reduceLT, Nat.reduceSub, Nat.reduceMul, Int.reduceEq, Int.reduceLT, Int.reduceLE, Int.reduceNeg, Int.reduceToNat, List.reduceReplicate, Int.ofNat_le, List.getElem?_drop]
  refine iteI (fun hl => ?_) fun hl => ?_
  rotate_left
  · exact hk _ (fl fun hv => hl (by rw [hv]))
  have hl : G.length = G'.length := by omega
  refine vp_loop (fun m vs h' => ∃ i : Nat, i ≤ G.length ∧ m = G.length - i ∧ vs = [.fz w a G.length (fl3 rs), .fz w' a' G'.length (fl3 rs'), .int .i64 i] ∧ σ = h' ∧ G.take i = G'.take i) G.length ?_ ?_
  · exact ⟨0, by omega, by omega, rfl, rfl, by simp⟩
  rintro m vs h' ⟨i, hi, rfl, rfl, rfl, hall⟩
  simp only [pwA, if_true, if_false, eq_self, nm_eq, reduceCtorEq, ↓reduceIte, Nat.reduceEqDiff, Nat.reduceLeDiff, Nat.reduceBEq, Nat.reduceAdd, Nat.reduceLT, Nat.reduceSub, Nat.reduceMul, Int.reduceEq, Int.reduceLT, Int.reduceLE, Int.reduceNeg, Int.reduceToNat, List.reduceReplicate, Int.ofNat_le, List.getElem?_drop]
  refine iteI (fun hlt => ?_) fun hge => ?_
  · have hlt2 : i < G'.length := by omega
    have hkr : i < rs.length := by rw [hr.1]; exact hlt
    have hget := fl3_get hkr
    have h3 : 3 ≤ (fl3 rs).length - i * 3 := by have := fl3_length rs; omega
    have hp : IsPr rs[i].1 rs[i].2.1 rs[i].2.2 G[i].1 G[i].2.1 G[i].2.2 := hr.2 i _ _ (List.getElem?_eq_getElem hkr) (List.getElem?_eq_getElem hlt)
    have hkr' : i < rs'.length := by rw [hr'.1]; exact hlt2
    have hget' := fl3_get hkr'
    have h3' : 3 ≤ (fl3 rs').length - i * 3 := by have := fl3_length rs'; omega
    have hp' : IsPr rs'[i].1 rs'[i].2.1 rs'[i].2.2 G'[i].1 G'[i].2.1 G'[i].2.2 := hr'.2 i _ _ (List.getElem?_eq_getElem hkr') (List.getElem?_eq_getElem hlt2)
    simp only [pwA, if_true, if_false, eq_self, nm_eq, reduceCtorEq, ↓reduceIte, Nat.reduceEqDiff, Nat.reduceLeDiff, Nat.reduceBEq, Nat.reduceAdd, Nat.reduceLT, Nat.reduceSub, Nat.reduceMul, Int.reduceEq, Int.reduceLT, Int.reduceLE, Int.reduceNeg, Int.reduceToNat, List.reduceReplicate, Int.ofNat_le, List.getElem?_drop, hlt, hlt2, hget, h3, hget', h3', List.length_drop]
    refine eqPresentation_ok hp hp' (sz.r _ (List.getElem_mem hlt)) fun t ht => ?_
    cases t with
    | true =>
      obtain ⟨q1, q2, q3⟩ := ht.1 rfl
      simp only [pwA, if_true, if_false, eq_self, nm_eq, reduceCtorEq, ↓reduceIte, Nat.reduceEqDiff, Nat.reduceLeDiff, Nat.reduceBEq, Nat.reduceAdd, Nat.reduceLT, Nat.reduceSub, Nat.reduceMul, Int.reduceEq, Int.reduceLT, Int.reduceLE, Int.reduceNeg, Int.reduceToNat, List.reduceReplicate, Int.ofNat_le, List.getElem?_drop, wrapS hlt (by omega : G.length ≤ 4611686018427387904)]
      exact ⟨_, by omega, i + 1, by omega, rfl, rfl, eqTake hl hlt hall (Prod.ext q1 (Prod.ext q2 q3))⟩
    | false =>
      simp only [pwA, if_true, if_false, eq_self, nm_eq, reduceCtorEq, ↓reduceIte, Nat.reduceEqDiff, Nat.reduceLeDiff, Nat.reduceBEq, Nat.reduceAdd, Nat.reduceLT, Nat.reduceSub, Nat.reduceMul, Int.reduceEq, Int.reduceLT, Int.reduceLE, Int.reduceNeg, Int.reduceToNat, List.reduceReplicate, Int.ofNat_le, List.getElem?_drop]
      exact hk _ (fl fun hv => by subst hv; cases ht.2 ⟨rfl, rfl, rfl⟩)
  · refine hk _ ⟨fun _ => ?_, fun _ => rfl⟩
    rwa [List.take_of_length_le (by omega), List.take_of_length_le (by omega)] at hall
/-- Presentations of nothing. -/
abbrev nil3 : PV × PV × PV := (.fz true .nils 0 [], .fz true .nils 0 [], .fz true .nils 0 [])
theorem zeros3 : ∀ n : Nat, ofAVs (zeros [.nils, .nils, .nils] n) = fl3 (List.replicate n nil3)
  | 0 => rfl
  | n + 1 => by
    have := zeros3 n
    unfold zeros at this ⊢
    rw [List.replicate_succ, List.replicate_succ, List.flatten_cons]
    simp only [List.cons_append, List.nil_append, ofAVs, fl3]
    rw [this]
    rfl
theorem fl3_set {rows : List (PV × PV × PV)} {i n : Nat} {a b c : PV} (hl : rows.length = i) (hi : i < n) : (fl3 (rows ++ List.replicate (n - i) nil3)).take (i * 3) ++ [a, b, c] ++ (fl3 (rows ++ List.replicate (n - i) nil3)).drop (i * 3 + 3) = fl3 ((rows ++ [(a, b, c)]) ++ List.replicate (n - (i + 1)) nil3) := by
  obtain ⟨m, hm⟩ : ∃ m, n - i = m + 1 := ⟨n - i - 1, by omega⟩
  rw [hm, show n - (i + 1) = m by omega, List.replicate_succ]
  have h3 := fl3_length rows
  rw [fl3_append, fl3_append, fl3_append, List.take_append_of_le_length (by omega), List.take_of_length_le (by omega), List.drop_append, List.drop_of_length_le (by omega), show i * 3 + 3 - (fl3 rows).length = 3 by omega]
  rfl
theorem toPresentationS_fz (hG : FG vG G) (sz : SzG G) (hk : ∀ v, FG v G → K v σ) : PCalls Try.prog 94 [vG] σ K := by
  obtain ⟨w, a, rs, rfl, hr⟩ := hG
  have hb := sz.l
  have m1 : (G.length : Int) * ((72 : Nat) : Int) ≤ 140737488355328 := by omega
  refine PCalls.gh ?_
  refine pcalls_of_vp mix Try.func94 cf94 rfl ?_
  dsimp only [if94, qI, eI, nI, qD, eD]
  simp only [pwA, if_true, if_false, eq_self, nm_eq, reduceCtorEq, ↓reduceIte, Nat.reduceEqDiff, Nat.reduceLeDiff, Nat.reduceBEq, Nat.reduceAdd, Nat.reduceLT, Nat.reduceSub, Nat.reduceMul, Int.reduceEq, Int.reduceLT, Int.reduceLE, Int.reduceNeg, Int.reduceToNat, List.reduceReplicate, Int.ofNat_le, List.getElem?_drop, m1, mkL (n := G.length) (by omega), zeros3]
  refine vp_loop (fun m vs h' => ∃ i : Nat, i ≤ G.length ∧ m = G.length - i ∧ vs = [.fz w a G.length (fl3 rs), .sl σ.next 0 G.length (.known G.length), .int .i64 i] ∧ ∃ rows : List (PV × PV × PV), rows.length = i ∧ All2 FI3 rows (G.take i) ∧ h' = σ.new (fl3 (rows ++ List.replicate (G.length - i) nil3))) G.length ?_ ?_
  · exact ⟨0, by omega, by omega, rfl, [], rfl, by simpa using All2.nil _, by simp⟩
  rintro m vs h' ⟨i, hi, rfl, rfl, rows, hrl, hra, rfl⟩
  simp only [pwA, if_true, if_false, eq_self, nm_eq, reduceCtorEq, ↓reduceIte, Nat.reduceEqDiff, Nat.reduceLeDiff, Nat.reduceBEq, Nat.reduceAdd, Nat.reduceLT, Nat.reduceSub, Nat.reduceMul, Int.reduceEq, Int.reduceLT, Int.reduceLE, Int.reduceNeg, Int.reduceToNat, List.reduceReplicate, Int.ofNat_le, List.getElem?_drop]
  refine iteI (fun hlt => ?_) fun hge => ?_
  · have hkr : i < rs.length := by rw [hr.1]; exact hlt
    have hget := fl3_get hkr
    have h3 : 3 ≤ (fl3 rs).length - i * 3 := by have := fl3_length rs; omega
    have hp : IsPr rs[i].1 rs[i].2.1 rs[i].2.2 G[i].1 G[i].2.1 G[i].2.2 := hr.2 i _ _ (List.getElem?_eq_getElem hkr) (List.getElem?_eq_getElem hlt)
    simp only [pwA, if_true, if_false, eq_self, nm_eq, reduceCtorEq, ↓reduceIte, Nat.reduceEqDiff, Nat.reduceLeDiff, Nat.reduceBEq, Nat.reduceAdd, Nat.reduceLT, Nat.reduceSub, Nat.reduceMul, Int.reduceEq, Int.reduceLT, Int.reduceLE, Int.reduceNeg, Int.reduceToNat, List.reduceReplicate, Int.ofNat_le, List.getElem?_drop, hlt, hget, h3, List.length_drop]
    refine toPresentation_fz hp (sz.r _ (List.getElem_mem hlt)) fun v0 v1 v2 hv => ?_
    have hlen : i * 3 + 3 ≤ (fl3 (rows ++ List.replicate (G.length - i) nil3)).length := by rw [fl3_length]; simp; omega
    simp only [pwA, if_true, if_false, eq_self, nm_eq, reduceCtorEq, ↓reduceIte, Nat.reduceEqDiff, Nat.reduceLeDiff, Nat.reduceBEq, Nat.reduceAdd, Nat.reduceLT, Nat.reduceSub, Nat.reduceMul, Int.reduceEq, Int.reduceLT, Int.reduceLE, Int.reduceNeg, Int.reduceToNat, List.reduceReplicate, Int.ofNat_le, List.getElem?_drop, hlt, hlen, hv.O.one, hv.P.one, hv.C.one, wrapS hlt (by omega : G.length ≤ 4611686018427387904), List.length_cons, List.length_nil]
    refine ⟨_, by omega, i + 1, by omega, rfl, rfl, rows ++ [(v0, v1, v2)], by simp [hrl], ?_, ?_⟩
    · rw [List.take_succ_eq_append_getElem hlt]; exact hra.snoc hv
    · rw [fl3_set hrl hlt]
  · have hie : i = G.length := by omega
    subst hie
    rw [List.take_length] at hra
    rw [Nat.sub_self, List.replicate_zero, List.append_nil]
    exact Gh.finF (keep_new σ _) (by simp only [pwA, if_true, if_false, eq_self, nm_eq, reduceCtorEq, ↓reduceIte, Nat.reduceEqDiff, Nat.reduceLeDiff, Nat.reduceBEq, Nat.reduceAdd, Nat.reduceLT, Nat.reduceSub, Nat.reduceMul, Int.reduceEq, Int.reduceLT, Int.reduceLE, Int.reduceNeg, Int.reduceToNat, List.reduceReplicate, Int.ofNat_le, List.getElem?_drop]) (Nat.le_refl _) (fl3_bel hra) (by simp [capOK]) fun o => hk _ ⟨_, _, _, rfl, hra⟩
theorem szCertificate_ok {l : Int} (hG : FG vG G) (mx : MxG G) (hL : FII vL L) (mL : L.length ≤ 9223372036854775807) (mL2 : ∀ x ∈ L, x.length ≤ 9223372036854775807) (hl : left_ l) (hk : ∀ r : Int, (r = -1 ∨ (left_ r ∧ SzG G ∧ SzL L)) → K (.int .i64 r) σ) : PCalls Try.prog 51 [.agg [.int .i64 k, vG, vL], .int .i64 l] σ K := by
  have h0 := hG.one
  have h1 := hL.one
  refine PCalls.gh ?_
  have hkp := keep_new σ [.int .i64 k, vG, vL]
  refine pcalls_of_vp mix Try.func51 cf51 rfl ?_
  dsimp only [if51, qI, eI, nI, qD, eD]
  simp only [pwA, if_true, if_false, eq_self, nm_eq, reduceCtorEq, ↓reduceIte, Nat.reduceEqDiff, Nat.reduceLeDiff, Nat.reduceBEq, Nat.reduceAdd, Nat.reduceLT, Nat.reduceSub, Nat.reduceMul, Int.reduceEq, Int.reduceLT, Int.reduceLE, Int.reduceNeg, Int.reduceToNat, List.reduceReplicate, Int.ofNat_le, List.getElem?_drop, h0, h1]
  refine szPresentationS_ok hG mx hl fun r h => ?_
  rcases h with rfl | ⟨f1, f2⟩
  · simp only [pwA, if_true, if_false, eq_self, nm_eq, reduceCtorEq, ↓reduceIte, Nat.reduceEqDiff, Nat.reduceLeDiff, Nat.reduceBEq, Nat.reduceAdd, Nat.reduceLT, Nat.reduceSub, Nat.reduceMul, Int.reduceEq, Int.reduceLT, Int.reduceLE, Int.reduceNeg, Int.reduceToNat, List.reduceReplicate, Int.ofNat_le, List.getElem?_drop]
    exact Gh.fin0 hkp trivial (hk _ (.inl rfl))
  have : ¬ r < 0 := by unfold left_ at f1; omega
  simp only [pwA, if_true, if_false, eq_self, nm_eq, reduceCtorEq, ↓reduceIte, Nat.reduceEqDiff, Nat.reduceLeDiff, Nat.reduceBEq, Nat.reduceAdd, Nat.reduceLT, Nat.reduceSub, Nat.reduceMul, Int.reduceEq, Int.reduceLT, Int.reduceLE, Int.reduceNeg, Int.reduceToNat, List.reduceReplicate, Int.ofNat_le, List.getElem?_drop, this, h0, h1]
  refine szInt64SS_ok hL mL mL2 f1 fun r h => ?_
  rcases h with rfl | ⟨g1, g2⟩
  · simp only [pwA, if_true, if_false, eq_self, nm_eq, reduceCtorEq, ↓reduceIte, Nat.reduceEqDiff, Nat.reduceLeDiff, Nat.reduceBEq, Nat.reduceAdd, Nat.reduceLT, Nat.reduceSub, Nat.reduceMul, Int.reduceEq, Int.reduceLT, Int.reduceLE, Int.reduceNeg, Int.reduceToNat, List.reduceReplicate, Int.ofNat_le, List.getElem?_drop]
    exact Gh.fin0 hkp trivial (hk _ (.inl rfl))
  have : ¬ r < 0 := by unfold left_ at g1; omega
  simp only [pwA, if_true, if_false, eq_self, nm_eq, reduceCtorEq, ↓reduceIte, Nat.reduceEqDiff, Nat.reduceLeDiff, Nat.reduceBEq, Nat.reduceAdd, Nat.reduceLT, Nat.reduceSub, Nat.reduceMul, Int.reduceEq, Int.reduceLT, Int.reduceLE, Int.reduceNeg, Int.reduceToNat, List.reduceReplicate, Int.ofNat_le, List.getElem?_drop, this]
  exact Gh.fin0 hkp trivial (hk _ (.inr ⟨g1, f2, g2⟩))
theorem toCertificate_fz (hG : FG vG G) (szG : SzG G) (hL : FII vL L) (szL : SzL L) (hk : ∀ vG vL, FG vG G → FII vL L → K (.agg [.int .i64 k, vG, vL]) σ) : PCalls Try.prog 53 [.agg [.int .i64 k, vG, vL]] σ K := by
  have h0 := hG.one
  have h1 := hL.one
  refine PCalls.gh ?_
  refine pcalls_of_vp mix Try.func53 cf53 rfl ?_
  dsimp only [if53, qI, eI, nI, qD, eD]
  simp only [pwA, if_true, if_false, eq_self, nm_eq, reduceCtorEq, ↓reduceIte, Nat.reduceEqDiff, Nat.reduceLeDiff, Nat.reduceBEq, Nat.reduceAdd, Nat.reduceLT, Nat.reduceSub, Nat.reduceMul, Int.reduceEq, Int.reduceLT, Int.reduceLE, Int.reduceNeg, Int.reduceToNat, List.reduceReplicate, Int.ofNat_le, List.getElem?_drop, h0, h1]
  refine toPresentationS_fz hG szG fun v1 hv1 => ?_
  simp only [pwA, if_true, if_false, eq_self, nm_eq, reduceCtorEq, ↓reduceIte, Nat.reduceEqDiff, Nat.reduceLeDiff, Nat.reduceBEq, Nat.reduceAdd, Nat.reduceLT, Nat.reduceSub, Nat.reduceMul, Int.reduceEq, Int.reduceLT, Int.reduceLE, Int.reduceNeg, Int.reduceToNat, List.reduceReplicate, Int.ofNat_le, List.getElem?_drop, hv1.cells, hv1.one]
  refine toInt64SS_fz hL szL fun v2 hv2 => ?_
  simp only [pwA, if_true, if_false, eq_self, nm_eq, reduceCtorEq, ↓reduceIte, Nat.reduceEqDiff, Nat.reduceLeDiff, Nat.reduceBEq, Nat.reduceAdd, Nat.reduceLT, Nat.reduceSub, Nat.reduceMul, Int.reduceEq, Int.reduceLT, Int.reduceLE, Int.reduceNeg, Int.reduceToNat, List.reduceReplicate, Int.ofNat_le, List.getElem?_drop, hv2.cells, hv2.one, hv1.one]
  exact Gh.fin0 (v := .agg [.int .i64 k, v1, v2]) (((keep_new σ _).new _).new _) ⟨trivial, hv1.bel _, hv2.bel _, trivial⟩ (hk v1 v2 hv1 hv2)
theorem eqCertificate_ok (hG : FG vG G) (hL : FII vL L) (hG' : FG vG' G') (hL' : FII vL' L') (szG : SzG G) (szL : SzL L) (hk : ∀ t : Bool, (t = true ↔ k = k' ∧ G = G' ∧ L = L') → K (.bool t) σ) : PCalls Try.prog 55 [.agg [.int .i64 k, vG, vL], .agg [.int .i64 k', vG', vL']] σ K := by
  have fl : ∀ {A : Prop}, ¬ A → ((false = true) ↔ A) := fun h => ⟨fun x => (by cases x), fun x => absurd x h⟩
  have h0 := hG.one
  have h1 := hL.one
  have h2 := hG'.one
  have h3 := hL'.one
  refine PCalls.gh ?_
  have hkp : Keep σ ((σ.new [.int .i64 k, vG, vL]).new [.int .i64 k', vG', vL']) := (keep_new σ _).new _
  refine pcalls_of_vp mix Try.func55 cf55 rfl ?_
  dsimp only [if55, qI, eI, nI, qD, eD]
  by_cases hk0 : k = k'
  rotate_left
  · simp only [pwA, if_true, if_false, eq_self, nm_eq, reduceCtorEq, ↓reduceIte, Nat.reduceEqDiff, Nat.reduceLeDiff, Nat.reduceBEq, Nat.reduceAdd, Nat.reduceLT, Nat.reduceSub, Nat.reduceMul, Int.reduceEq, Int.reduceLT, Int.reduceLE, Int.reduceNeg, Int.reduceToNat, List.reduceReplicate, Int.ofNat_le, List.getElem?_drop, h0, h1, h2, h3, hk0]
    exact Gh.fin0 hkp trivial (hk _ (fl fun h => hk0 h.1))
  simp only [pwA, if_true, if_false, eq_self, nm_eq, reduceCtorEq, ↓reduceIte, Nat.reduceEqDiff, Nat.reduceLeDiff, Nat.reduceBEq, Nat.reduceAdd, Nat.reduceLT, Nat.reduceSub, Nat.reduceMul, Int.reduceEq, Int.reduceLT, Int.reduceLE, Int.reduceNeg, Int.reduceToNat, List.reduceReplicate, Int.ofNat_le, List.getElem?_drop, h0, h1, h2, h3, eq_true hk0]
  refine eqPresentationS_ok hG hG' szG fun t ht => ?_
  cases t with
  | false =>
    simp only [pwA, if_true, if_false, eq_self, nm_eq, reduceCtorEq, ↓reduceIte, Nat.reduceEqDiff, Nat.reduceLeDiff, Nat.reduceBEq, Nat.reduceAdd, Nat.reduceLT, Nat.reduceSub, Nat.reduceMul, Int.reduceEq, Int.reduceLT, Int.reduceLE, Int.reduceNeg, Int.reduceToNat, List.reduceReplicate, Int.ofNat_le, List.getElem?_drop]
    exact Gh.fin0 hkp trivial (hk _ (fl fun h => by cases ht.2 h.2.1))
  | true =>
    simp only [pwA, if_true, if_false, eq_self, nm_eq, reduceCtorEq, ↓reduceIte, Nat.reduceEqDiff, Nat.reduceLeDiff, Nat.reduceBEq, Nat.reduceAdd, Nat.reduceLT, Nat.reduceSub, Nat.reduceMul, Int.reduceEq, Int.reduceLT, Int.reduceLE, Int.reduceNeg, Int.reduceToNat, List.reduceReplicate, Int.ofNat_le, List.getElem?_drop, h0, h1, h2, h3]
    refine eqInt64SS_ok hL hL' szL fun t2 ht2 => ?_
    cases t2 with
    | false =>
      simp only [pwA, if_true, if_false, eq_self, nm_eq, reduceCtorEq, ↓reduceIte, Nat.reduceEqDiff, Nat.reduceLeDiff, Nat.reduceBEq, Nat.reduceAdd, Nat.reduceLT, Nat.reduceSub, Nat.reduceMul, Int.reduceEq, Int.reduceLT, Int.reduceLE, Int.reduceNeg, Int.reduceToNat, List.reduceReplicate, Int.ofNat_le, List.getElem?_drop]
      exact Gh.fin0 hkp trivial (hk _ (fl fun h => by cases ht2.2 h.2.2))
    | true =>
      simp only [pwA, if_true, if_false, eq_self, nm_eq, reduceCtorEq, ↓reduceIte, Nat.reduceEqDiff, Nat.reduceLeDiff, Nat.reduceBEq, Nat.reduceAdd, Nat.reduceLT, Nat.reduceSub, Nat.reduceMul, Int.reduceEq, Int.reduceLT, Int.reduceLE, Int.reduceNeg, Int.reduceToNat, List.reduceReplicate, Int.ofNat_le, List.getElem?_drop]
      exact Gh.fin0 hkp trivial (hk _ ⟨fun _ => ⟨hk0, ht.1 rfl, ht2.1 rfl⟩, fun _ => rfl⟩)
end Go.Proofs
namespace Go.Proofs
open Go.Ab
/-- loop.example/g01076/laws.FnExactIsCertificate -/
def if11 : IFn := ⟨[0], [(.tmp 2)], (.seq (.region [1] [eI 1 (.box (.t 0)), qI 2 (.mv (.c (.bool false)))])
  (.seq (.region [1, 3] [qI 3 (.mv (.c (.int .i64 1048576)))])
  (.seq (.region [1, 3] [qI 7 (.load true 3 (.t 1)), qI 8 (.mv (.t 3)), eI 9 (.call 51 [(.t 7), (.t 8)]), qI 3 (.mv (.t 9))])
  (.seq (.seq (.region [1, 11] [qI 10 (.mv (.t 3)), qI 11 (.bin .lss .other (.t 10) (.c (.int .i64 0)))])
  (.cond (.t 11) (.seq (.region [2] [qI 2 (.mv (.c (.bool true)))])
  .ret) .skip))
  (.seq (.region [1, 4] [qI 12 (.load true 3 (.t 1)), eI 13 (.call 53 [(.t 12)]), eI 14 (.call 52 [(.t 13)]), qI 4 (.mv (.t 14))])
  (.seq (.region [1, 4, 5] [qI 15 (.load true 3 (.t 1)), eI 16 (.call 53 [(.t 15)]), eI 5 (.alloc [(.int .i64 0), .nils, .nils]), nI (.store 3 (.t 5) (.t 16))])
  (.seq (.region [1, 4, 5, 6] [qI 17 (.load true 3 (.t 5)), eI 18 (.call 54 [(.t 17)]), qI 6 (.mv (.t 18))])
  (.seq (.seq (.region [1, 5, 21] [qI 19 (.mv (.t 6)), qI 20 (.mv (.t 4)), qI 21 (.bin .neq .bool (.t 19) (.t 20))])
  (.cond (.t 21) (.seq (.region [2] [qI 2 (.mv (.c (.bool false)))])
  .ret) .skip))
  (.seq (.seq (.draw [26] [] [qD 22 (.load true 3 (.t 5)) 0, qD 23 (.load true 3 (.t 1)) 1, eD 24 (.call 53 [(.t 23)]) 2 [0], eD 25 (.call 55 [(.t 22), (.t 24)]) 3 [], qD 26 (.un .not (.t 25)) 4])
  (.cond (.t 26) (.seq (.region [2] [qI 2 (.mv (.c (.bool false)))])
  .ret) .skip))
  (.seq (.region [2] [qI 2 (.mv (.c (.bool true)))])
  .ret))))))))))⟩
theorem cf11 : cF Try.prog Try.f11 = some if11 := by kernel_rfl
end Go.Proofs
