/- Levels and groups of the program. -/
import Derived.Test.YtpkibanhkjboeaaHP27
set_option linter.unusedSimpArgs false
set_option linter.unusedVariables false
namespace Go.Proofs
open Go.Ab Go.Lie Go.Grp
variable {σ : PHeap} {K : PV → PHeap → Prop} {O O' : List Int} {P P' : List (List Int)} {C C' : List (List (List Int))} {vO vP vC vO' vP' vC' : PV}
/-- Lengths as they may be of what lies in memory. -/
structure MxP (O : List Int) (P : List (List Int)) (C : List (List (List Int))) : Prop where
  o : O.length ≤ 9223372036854775807
  a : P.length ≤ 9223372036854775807
  b : ∀ x ∈ P, x.length ≤ 9223372036854775807
  c : C.length ≤ 9223372036854775807
  d : ∀ q ∈ C, q.length ≤ 9223372036854775807 ∧ ∀ x ∈ q, x.length ≤ 9223372036854775807
theorem szPresentation_ok {l : Int} (hR : IsPr vO vP vC O P C) (mx : MxP O P C) (hl : left_ l) (hk : ∀ r : Int, (r = -1 ∨ (left_ r ∧ SzP O P C)) → K (.int .i64 r) σ) : PCalls Try.prog 12 [.agg [vO, vP, vC], .int .i64 l] σ K := by
  have h0 := hR.O.one
  have h1 := hR.P.one
  have h2 := hR.C.one
  refine PCalls.gh ?_
  have hkp := keep_new σ [vO, vP, vC]
  refine pcalls_of_vp mix Try.func12 cf12 rfl ?_
  dsimp only [if12, qI, eI, nI, qD, eD]
  simp only [pwA, if_true, if_false, eq_self, nm_eq, reduceCtorEq, ↓reduceIte, Nat.reduceEqDiff, Nat.reduceLeDiff, Nat.reduceBEq, Nat.reduceAdd, Nat.reduceLT, Nat.reduceSub, Nat.reduceMul, Int.reduceEq, Int.reduceLT, Int.reduceLE, Int.reduceNeg, Int.reduceToNat, List.reduceReplicate, Int.ofNat_le, List.getElem?_drop, h0, h1, h2]
  refine szInt64S_ok hR.O mx.o hl fun r h => ?_
  rcases h with rfl | ⟨f1, f2⟩
  · simp only [pwA, if_true, if_false, eq_self, nm_eq, reduceCtorEq, ↓reduceIte, Nat.reduceEqDiff, Nat.reduceLeDiff, Nat.reduceBEq, Nat.reduceAdd, Nat.reduceLT, Nat.reduceSub, Nat.reduceMul, Int.reduceEq, Int.reduceLT, Int.reduceLE, Int.reduceNeg, Int.reduceToNat, List.reduceReplicate, Int.ofNat_le, List.getElem?_drop]
    exact Gh.fin0 hkp trivial (hk _ (.inl rfl))
  have : ¬ r < 0 := by unfold left_ at f1; omega
  simp only [pwA, if_true, if_false, eq_self, nm_eq, reduceCtorEq, ↓reduceIte, Nat.reduceEqDiff, Nat.reduceLeDiff, Nat.reduceBEq, Nat.reduceAdd, Nat.reduceLT, Nat.reduceSub, Nat.reduceMul, Int.reduceEq, Int.reduceLT, Int.reduceLE, Int.reduceNeg, Int.reduceToNat, List.reduceReplicate, Int.ofNat_le, List.getElem?_drop, this, h0, h1, h2]
  refine szInt64SS_ok hR.P mx.a mx.b f1 fun r h => ?_
  rcases h with rfl | ⟨g1, g2⟩
  · simp only [pwA, if_true, if_false, eq_self, nm_eq, reduceCtorEq, ↓reduceIte, Nat.reduceEqDiff, Nat.reduceLeDiff, Nat.reduceBEq, Nat.reduceAdd, Nat.reduceLT, Nat.reduceSub, Nat.reduceMul, Int.reduceEq, Int.reduceLT, Int.reduceLE, Int.reduceNeg, Int.reduceToNat, List.reduceReplicate, Int.ofNat_le, List.getElem?_drop]
    exact Gh.fin0 hkp trivial (hk _ (.inl rfl))
  have : ¬ r < 0 := by unfold left_ at g1; omega
  simp only [pwA, if_true, if_false, eq_self, nm_eq, reduceCtorEq, ↓reduceIte, Nat.reduceEqDiff, Nat.reduceLeDiff, Nat.reduceBEq, Nat.reduceAdd, Nat.reduceLT, Nat.reduceSub, Nat.reduceMul, Int.reduceEq, Int.reduceLT, Int.reduceLE, Int.reduceNeg, Int.reduceToNat, List.reduceReplicate, Int.ofNat_le, List.getElem?_drop, this, h0, h1, h2]
  refine szInt64SSS_ok hR.C mx.c mx.d g1 fun r' h => ?_
  rcases h with rfl | ⟨g3, g4⟩
  · simp only [pwA, if_true, if_false, eq_self, nm_eq, reduceCtorEq, ↓reduceIte, Nat.reduceEqDiff, Nat.reduceLeDiff, Nat.reduceBEq, Nat.reduceAdd, Nat.reduceLT, Nat.reduceSub, Nat.reduceMul, Int.reduceEq, Int.reduceLT, Int.reduceLE, Int.reduceNeg, Int.reduceToNat, List.reduceReplicate, Int.ofNat_le, List.getElem?_drop]
    exact Gh.fin0 hkp trivial (hk _ (.inl rfl))
  have : ¬ r' < 0 := by unfold left_ at g3; omega
  simp only [pwA, if_true, if_false, eq_self, nm_eq, reduceCtorEq, ↓reduceIte, Nat.reduceEqDiff, Nat.reduceLeDiff, Nat.reduceBEq, Nat.reduceAdd, Nat.reduceLT, Nat.reduceSub, Nat.reduceMul, Int.reduceEq, Int.reduceLT, Int.reduceLE, Int.reduceNeg, Int.reduceToNat, List.reduceReplicate, Int.ofNat_le, List.getElem?_drop, this]
  exact Gh.fin0 hkp trivial (hk _ (.inr ⟨g3, f2, g2, g4⟩))
theorem toPresentation_fz (hR : IsPr vO vP vC O P C) (sz : SzP O P C) (hk : ∀ vO vP vC, IsPr vO vP vC O P C → K (.agg [vO, vP, vC]) σ) : PCalls Try.prog 15 [.agg [vO, vP, vC]] σ K := by
  have h0 := hR.O.one
  have h1 := hR.P.one
  have h2 := hR.C.one
  refine PCalls.gh ?_
  refine pcalls_of_vp mix Try.func15 cf15 rfl ?_
  dsimp only [if15, qI, eI, nI, qD, eD]
  simp only [pwA, if_true, if_false, eq_self, nm_eq, reduceCtorEq, ↓reduceIte, Nat.reduceEqDiff, Nat.reduceLeDiff, Nat.reduceBEq, Nat.reduceAdd, Nat.reduceLT, Nat.reduceSub, Nat.reduceMul, Int.reduceEq, Int.reduceLT, Int.reduceLE, Int.reduceNeg, Int.reduceToNat, List.reduceReplicate, Int.ofNat_le, List.getElem?_drop, h0, h1, h2]
  refine toInt64S_fz hR.O sz.O fun v0 hv0 => ?_
  simp only [pwA, if_true, if_false, eq_self, nm_eq, reduceCtorEq, ↓reduceIte, Nat.reduceEqDiff, Nat.reduceLeDiff, Nat.reduceBEq, Nat.reduceAdd, Nat.reduceLT, Nat.reduceSub, Nat.reduceMul, Int.reduceEq, Int.reduceLT, Int.reduceLE, Int.reduceNeg, Int.reduceToNat, List.reduceReplicate, Int.ofNat_le, List.getElem?_drop, hv0.cells, hv0.one]
  refine toInt64SS_fz hR.P sz.P fun v1 hv1 => ?_
  simp only [pwA, if_true, if_false, eq_self, nm_eq, reduceCtorEq, ↓reduceIte, Nat.reduceEqDiff, Nat.reduceLeDiff, Nat.reduceBEq, Nat.reduceAdd, Nat.reduceLT, Nat.reduceSub, Nat.reduceMul, Int.reduceEq, Int.reduceLT, Int.reduceLE, Int.reduceNeg, Int.reduceToNat, List.reduceReplicate, Int.ofNat_le, List.getElem?_drop, hv0.one, hv1.cells, hv1.one]
  refine toInt64SSS_fz hR.C sz.C fun v2 hv2 => ?_
  simp only [pwA, if_true, if_false, eq_self, nm_eq, reduceCtorEq, ↓reduceIte, Nat.reduceEqDiff, Nat.reduceLeDiff, Nat.reduceBEq, Nat.reduceAdd, Nat.reduceLT, Nat.reduceSub, Nat.reduceMul, Int.reduceEq, Int.reduceLT, Int.reduceLE, Int.reduceNeg, Int.reduceToNat, List.reduceReplicate, Int.ofNat_le, List.getElem?_drop, hv2.cells, hv2.one, hv1.one, hv0.one]
  exact Gh.fin0 (v := .agg [v0, v1, v2]) (((keep_new σ _).new _).new _) ⟨hv0.bel _, hv1.bel _, hv2.bel _, trivial⟩ (hk v0 v1 v2 ⟨hv0, hv1, hv2⟩)
theorem eqPresentation_ok (hR : IsPr vO vP vC O P C) (hR' : IsPr vO' vP' vC' O' P' C') (sz : SzP O P C) (hk : ∀ t : Bool, (t = true ↔ O = O' ∧ P = P' ∧ C = C') → K (.bool t) σ) : PCalls Try.prog 18 [.agg [vO, vP, vC], .agg [vO', vP', vC']] σ K := by
  have h0 := hR.O.one
  have h1 := hR.P.one
  have h2 := hR.C.one
  have h0' := hR'.O.one
  have h1' := hR'.P.one
  have h2' := hR'.C.one
  refine PCalls.gh ?_
  have hkp : Keep σ ((σ.new [vO, vP, vC]).new [vO', vP', vC']) := (keep_new σ _).new _
  have fin : ∀ {t : Bool}, (t = true ↔ O = O' ∧ P = P' ∧ C = C') → Gh σ K (.bool t) ((σ.new [vO, vP, vC]).new [vO', vP', vC']) := fun h => Gh.fin0 hkp trivial (hk _ h)
  have fl : ∀ {A : Prop}, ¬ A → ((false = true) ↔ A) := fun h => ⟨fun x => (by cases x), fun x => absurd x h⟩
  refine pcalls_of_vp mix Try.func18 cf18 rfl ?_
  dsimp only [if18, qI, eI, nI, qD, eD]
  simp only [pwA, if_true, if_false, eq_self, nm_eq, reduceCtorEq, ↓reduceIte, Nat.reduceEqDiff, Nat.reduceLeDiff, Nat.reduceBEq, Nat.reduceAdd, Nat.reduceLT, Nat.reduceSub, Nat.reduceMul, Int.reduceEq, Int.reduceLT, Int.reduceLE, Int.reduceNeg, Int.reduceToNat, List.reduceReplicate, Int.ofNat_le, List.getElem?_drop, h0, h1, h2, h0', h1', h2']
  refine eqInt64S_ok hR.O hR'.O (by have := sz.O; omega) ?_
  by_cases ho : O = O'
  rotate_left
  · simp only [pwA, if_true, if_false, eq_self, nm_eq, reduceCtorEq, ↓reduceIte, Nat.reduceEqDiff, Nat.reduceLeDiff, Nat.reduceBEq, Nat.reduceAdd, Nat.reduceLT, Nat.reduceSub, Nat.reduceMul, Int.reduceEq, Int.reduceLT, Int.reduceLE, Int.reduceNeg, Int.reduceToNat, List.reduceReplicate, Int.ofNat_le, List.getElem?_drop, ho]
    exact fin (fl fun h => ho h.1)
  simp only [pwA, if_true, if_false, eq_self, nm_eq, reduceCtorEq, ↓reduceIte, Nat.reduceEqDiff, Nat.reduceLeDiff, Nat.reduceBEq, Nat.reduceAdd, Nat.reduceLT, Nat.reduceSub, Nat.reduceMul, Int.reduceEq, Int.reduceLT, Int.reduceLE, Int.reduceNeg, Int.reduceToNat, List.reduceReplicate, Int.ofNat_le, List.getElem?_drop, eq_true ho, h0, h1, h2, h0', h1', h2']
  refine eqInt64SS_ok hR.P hR'.P sz.P fun t ht => ?_
  cases t with
  | false =>
    simp only [pwA, if_true, if_false, eq_self, nm_eq, reduceCtorEq, ↓reduceIte, Nat.reduceEqDiff, Nat.reduceLeDiff, Nat.reduceBEq, Nat.reduceAdd, Nat.reduceLT, Nat.reduceSub, Nat.reduceMul, Int.reduceEq, Int.reduceLT, Int.reduceLE, Int.reduceNeg, Int.reduceToNat, List.reduceReplicate, Int.ofNat_le, List.getElem?_drop]
    exact fin (fl fun h => by cases ht.2 h.2.1)
  | true =>
  simp only [pwA, if_true, if_false, eq_self, nm_eq, reduceCtorEq, ↓reduceIte, Nat.reduceEqDiff, Nat.reduceLeDiff, Nat.reduceBEq, Nat.reduceAdd, Nat.reduceLT, Nat.reduceSub, Nat.reduceMul, Int.reduceEq, Int.reduceLT, Int.reduceLE, Int.reduceNeg, Int.reduceToNat, List.reduceReplicate, Int.ofNat_le, List.getElem?_drop, h0, h1, h2, h0', h1', h2']
  refine eqInt64SSS_ok hR.C hR'.C sz.C fun t ht' => ?_
  have := fin (t := t) ⟨fun h => ⟨ho, ht.1 rfl, ht'.1 h⟩, fun h => ht'.2 h.2.2⟩
  cases t with
  | false =>
    simp only [pwA, if_true, if_false, eq_self, nm_eq, reduceCtorEq, ↓reduceIte, Nat.reduceEqDiff, Nat.reduceLeDiff, Nat.reduceBEq, Nat.reduceAdd, Nat.reduceLT, Nat.reduceSub, Nat.reduceMul, Int.reduceEq, Int.reduceLT, Int.reduceLE, Int.reduceNeg, Int.reduceToNat, List.reduceReplicate, Int.ofNat_le, List.getElem?_drop]
    exact this
  | true =>
    simp only [pwA, if_true, if_false, eq_self, nm_eq, reduceCtorEq, ↓reduceIte, Nat.reduceEqDiff, Nat.reduceLeDiff, Nat.reduceBEq, Nat.reduceAdd, Nat.reduceLT, Nat.reduceSub, Nat.reduceMul, Int.reduceEq, Int.reduceLT, Int.reduceLE, Int.reduceNeg, Int.reduceToNat, List.reduceReplicate, Int.ofNat_le, List.getElem?_drop]
    exact this
end Go.Proofs
set_option linter.unusedSimpArgs false
set_option linter.unusedVariables false
namespace Go.Proofs
open Go.Ab Go.Lie Go.Grp
variable {σ : PHeap} {K : PV → PHeap → Prop} {O : List Int} {P : List (List Int)} {C : List (List (List Int))} {vO vP vC vx : PV} {s : Nat} {x : List Int} {rP rC : List PV}
theorem pisAt {i : Nat} (h : i < x.length) : (pis x)[i]? = some (.int .i64 (at_ x i)) := by rw [pis_get, gi h, at_eq h]; rfl
/-- The entries that products read. -/
theorem pvRow (s : Shp O P C) (hP : All2 FI rP P) {i : Nat} (hi : i < O.length) : ∃ w a, rP[i]? = some (.fz w a O.length (pis (pvec P i))) := by
  have hiP : i < P.length := by rw [s.pl]; exact hi
  obtain ⟨w, a, h⟩ := hP.rowI hiP
  refine ⟨w, a, ?_⟩
  have e : pvec P i = P[i] := getD_row hiP
  rw [h, e, show P[i].length = O.length by rw [← e]; exact (s.pw i hi).len]
theorem cvRow (s : Shp O P C) (hC : All2 FII rC C) {i : Nat} (hi : i < O.length) : ∃ w a rs, rC[i]? = some (.fz w a (O.length - 1 - i) rs) ∧ ∀ q, q < O.length - 1 - i → ∃ w' a', rs[q]? = some (.fz w' a' O.length (pis (cvec C i (i + (1 + q))))) := by
  have hiC : i < C.length := by rw [s.cl]; exact hi
  obtain ⟨w, a, rs, h, hrs⟩ := hC.rowL hiC
  have e : C.getD i [] = C[i] := getD_row' hiC
  have hl : C[i].length = O.length - 1 - i := by rw [← e]; exact s.row i hi
  refine ⟨w, a, rs, by rw [h, hl], fun q hq => ?_⟩
  have hq' : q < C[i].length := by omega
  obtain ⟨w', a', h'⟩ := hrs.rowI hq'
  have e2 : cvec C i (i + (1 + q)) = C[i][q] := by
    show (C.getD i []).getD (i + (1 + q) - i - 1) [] = _
    rw [e, show i + (1 + q) - i - 1 = q by omega]; exact getD_row hq'
  exact ⟨w', a', by rw [h', e2, show C[i][q].length = O.length by rw [← e2]; exact (s.cj i _ (by omega) (by omega)).len]⟩
theorem FI.mk {w : Bool} {a : AV} {n : Nat} (h : x.length = n) : FI (.fz w a n (pis x)) x := ⟨w, a, by rw [h]⟩
/-- What the product of the tail behind i is to do. -/
def AtOK (O : List Int) (P : List (List Int)) (C : List (List (List Int))) (d i : Nat) : Prop :=
  ∀ {σ : PHeap} {K : PV → PHeap → Prop} {a b : List Int} {va vb vO vP vC : PV}, IsPr vO vP vC O P C → TT O i a → TT O i b → FI va a → FI vb b → (∀ v, FI v (mu O P C d a b) → K v σ) → PCalls Try.prog 141 [.agg [vO, vP, vC], .int .i64 i, va, vb] σ K
theorem l08Image_ok (s : Shp O P C) {d i : Nat} (hi : O.length = d + (i + 1)) (hAt : AtOK O P C d (i + 1)) (hR : IsPr vO vP vC O P C) (hx : TT O 0 x) (hvx : FI vx x) (hk : ∀ v, FI v (Grp.img O C (mu O P C d) i x) → K v σ) :
    PCalls Try.prog 140 [.agg [vO, vP, vC], .int .i64 i, vx] σ K := by
  have hn6 := s.le
  have hR0 := hR
  have hl := hx.len
  have hil : i < O.length := by omega
  have hm : ∀ a b, TT O (i + 1) a → TT O (i + 1) b → TT O (i + 1) (mu O P C d a b) := fun a b ha hb => by
    have := mu_tt s (d := d) (a := a) (b := b) (by omega) (by rwa [show O.length - d = i + 1 by omega]) (by rwa [show O.length - d = i + 1 by omega])
    rwa [show O.length - d = i + 1 by omega] at this
  obtain ⟨⟨w0, a0, rfl⟩, ⟨w1, a1, rP, rfl, hP⟩, ⟨w3, a3, rC, rfl, hC⟩⟩ := hR
  obtain ⟨w5, a5, rs, hrb, hrs⟩ := cvRow s hC hil
  have hiC : i < C.length := by rw [s.cl]; exact hil
  obtain ⟨wx, ax, rfl⟩ := hvx
  rw [hl]
  refine PCalls.gh ?_
  refine pcalls_of_vp mix Try.func140 cf140 rfl ?_
  dsimp only [if140, qI, eI, nI, qD, eD]
  simp only [pwA, if_true, if_false, eq_self, nm_eq, reduceCtorEq, ↓reduceIte, Nat.reduceEqDiff, Nat.reduceLeDiff, Nat.reduceBEq, Nat.reduceAdd, Nat.reduceLT, Nat.reduceSub, Nat.reduceMul, Int.reduceEq, Int.reduceLT, Int.reduceLE, Int.reduceNeg, Int.reduceToNat, List.reduceReplicate, Int.ofNat_le, List.getElem?_drop, List.length_replicate, pis_rep, mk8 (n := O.length) (by omega), mkL (n := O.length) (by omega), wrapS hil (by omega : O.length ≤ 4611686018427387904)]
  have hkp : Keep σ (((σ.new [.fz w0 a0 O.length (pis O), .fz w1 a1 P.length rP, .fz w3 a3 C.length rC]).new (pis (zv O))).kill (σ.next + 1)) := ((keep_new σ _).new _).kill (by omega)
  refine vp_loopG (fun m vs h' => ∃ (q : Nat) (vo : PV) (A : List Int), q ≤ d ∧ m = d - q ∧ vs = [.int .i64 i, .fz wx ax O.length (pis x), .ptr σ.next 0, .int .i64 O.length, vo, .int .i64 ((i + (1 + q) : Nat) : Int)] ∧
    h' = ((σ.new [.fz w0 a0 O.length (pis O), .fz w1 a1 P.length rP, .fz w3 a3 C.length rC]).new (pis (zv O))).kill (σ.next + 1) ∧ FI vo A ∧ TT O (i + 1) A ∧ fo (mu O P C d) (cvec C i) (nx x) (i + (1 + q)) (d - q) A = Grp.img O C (mu O P C d) i x) d ?_ ?_
  · refine .fz (σ.next + 1) (pis (zv O)) (by simp only [pwA, if_true, if_false, eq_self, nm_eq, reduceCtorEq, ↓reduceIte, Nat.reduceEqDiff, Nat.reduceLeDiff, Nat.reduceBEq, Nat.reduceAdd, Nat.reduceLT, Nat.reduceSub, Nat.reduceMul, Int.reduceEq, Int.reduceLT, Int.reduceLE, Int.reduceNeg, Int.reduceToNat, List.reduceReplicate, Int.ofNat_le, List.getElem?_drop]) (pis_bel _ _) fun o1 => .here ?_
    refine ⟨0, .fz true (.sl o1 0 O.length (.known O.length)) O.length (pis (zv O)), zv O, by omega, by omega, ?_, rfl, FI.mk (by simp), s.zv _, ?_⟩
    · simp only [pwA, if_true, if_false, eq_self, nm_eq, reduceCtorEq, ↓reduceIte, Nat.reduceEqDiff, Nat.reduceLeDiff, Nat.reduceBEq, Nat.reduceAdd, Nat.reduceLT, Nat.reduceSub, Nat.reduceMul, Int.reduceEq, Int.reduceLT, Int.reduceLE, Int.reduceNeg, Int.reduceToNat, List.reduceReplicate, Int.ofNat_le, List.getElem?_drop]
      simp only [sbs, sb, capOK, Nat.le_refl, decide_true, and_self, if_true]
    · show _ = fo _ _ _ (i + 1) (O.length - 1 - i) (zv O)
      rw [show O.length - 1 - i = d by omega]; rfl
  rintro m vs h' ⟨q, vo, A, hq, rfl, rfl, rfl, hvo, hA, hfo⟩
  simp only [pwA, if_true, if_false, eq_self, nm_eq, reduceCtorEq, ↓reduceIte, Nat.reduceEqDiff, Nat.reduceLeDiff, Nat.reduceBEq, Nat.reduceAdd, Nat.reduceLT, Nat.reduceSub, Nat.reduceMul, Int.reduceEq, Int.reduceLT, Int.reduceLE, Int.reduceNeg, Int.reduceToNat, List.reduceReplicate, Int.ofNat_le, List.getElem?_drop]
  refine iteI (fun hlt => ?_) fun hge => ?_
  rotate_left
  · have hqd : q = d := by omega
    subst hqd
    rw [Nat.sub_self] at hfo
    have : A = Grp.img O C (mu O P C q) i x := hfo
    rw [← this] at hk
    exact Gh.fin0 hkp (hvo.bel _) (hk _ hvo)
  have hqd : q < d := by omega
  have hjl : i + (1 + q) < x.length := by omega
  have bx := hx.bd (i + (1 + q)) (by omega)
  have bO := s.pr (i + (1 + q)) (by omega)
  obtain ⟨w6, a6, hrk⟩ := hrs q (by omega)
  have hjr : q < O.length - 1 - i := by omega
  have hcv := s.cj i (i + (1 + q)) (by omega) (by omega)
  have e3 : IntKind.i64.wrap (((i + (1 + q) : Nat) : Int) - (i : Int)) = ((1 + q : Nat) : Int) := by rw [wrap64 (by omega) (by omega)]; omega
  have e4 : IntKind.i64.wrap (((1 + q : Nat) : Int) - 1) = (q : Int) := by rw [wrap64 (by omega) (by omega)]; omega
  have e5 : IntKind.i64.wrap (((i + (1 + q) : Nat) : Int) + 1) = ((i + (1 + (q + 1)) : Nat) : Int) := by rw [wrap64 (by omega) (by omega)]; omega
  rw [show d - q = (d - q - 1) + 1 by omega] at hfo
  refine vp_loop (fun m vs h' => ∃ (k : Nat) (vo : PV) (A : List Int), k ≤ nx x (i + (1 + q)) ∧ m = nx x (i + (1 + q)) - k ∧ vs = [.int .i64 i, .fz wx ax O.length (pis x), .ptr σ.next 0, .int .i64 O.length, vo, .int .i64 ((i + (1 + q) : Nat) : Int), .int .i64 k] ∧
    h' = ((σ.new [.fz w0 a0 O.length (pis O), .fz w1 a1 P.length rP, .fz w3 a3 C.length rC]).new (pis (zv O))).kill (σ.next + 1) ∧ FI vo A ∧ TT O (i + 1) A ∧ fo (mu O P C d) (cvec C i) (nx x) (i + (1 + q) + 1) (d - q - 1) (rep (mu O P C d) (cvec C i (i + (1 + q))) (nx x (i + (1 + q)) - k) A) = Grp.img O C (mu O P C d) i x) (nx x (i + (1 + q))) ?_ ?_
  · exact ⟨0, vo, A, by omega, by omega, rfl, rfl, hvo, hA, hfo⟩
  rintro m vs h' ⟨k, vo, A, hkn, rfl, rfl, rfl, hvo, hA, hfo⟩
  have hnx : ((nx x (i + (1 + q)) : Nat) : Int) = at_ x (i + (1 + q)) := Int.toNat_of_nonneg bx.1
  simp only [pwA, if_true, if_false, eq_self, nm_eq, reduceCtorEq, ↓reduceIte, Nat.reduceEqDiff, Nat.reduceLeDiff, Nat.reduceBEq, Nat.reduceAdd, Nat.reduceLT, Nat.reduceSub, Nat.reduceMul, Int.reduceEq, Int.reduceLT, Int.reduceLE, Int.reduceNeg, Int.reduceToNat, List.reduceReplicate, Int.ofNat_le, List.getElem?_drop, pisAt hjl, hjl, hl ▸ hjl, List.getElem?_drop]
  refine iteI (fun hlt2 => ?_) fun hge2 => ?_
  · have hlt3 : k < nx x (i + (1 + q)) := by omega
    simp only [pwA, if_true, if_false, eq_self, nm_eq, reduceCtorEq, ↓reduceIte, Nat.reduceEqDiff, Nat.reduceLeDiff, Nat.reduceBEq, Nat.reduceAdd, Nat.reduceLT, Nat.reduceSub, Nat.reduceMul, Int.reduceEq, Int.reduceLT, Int.reduceLE, Int.reduceNeg, Int.reduceToNat, List.reduceReplicate, Int.ofNat_le, List.getElem?_drop, wrapS hil (by omega : O.length ≤ 4611686018427387904), hiC, hrb, List.getElem?_drop, e3, e4, hjr, hrk]
    refine hAt hR0 hA hcv hvo (FI.mk hcv.len) fun v hv => ?_
    simp only [pwA, if_true, if_false, eq_self, nm_eq, reduceCtorEq, ↓reduceIte, Nat.reduceEqDiff, Nat.reduceLeDiff, Nat.reduceBEq, Nat.reduceAdd, Nat.reduceLT, Nat.reduceSub, Nat.reduceMul, Int.reduceEq, Int.reduceLT, Int.reduceLE, Int.reduceNeg, Int.reduceToNat, List.reduceReplicate, Int.ofNat_le, List.getElem?_drop, wrapS hlt3 (by omega : nx x (i + (1 + q)) ≤ 4611686018427387904)]
    refine ⟨_, by omega, k + 1, v, _, by omega, rfl, rfl, hv, hm _ _ hA hcv, ?_⟩
    rw [show nx x (i + (1 + q)) - k = (nx x (i + (1 + q)) - (k + 1)) + 1 by omega] at hfo
    exact hfo
  · have hke : k = nx x (i + (1 + q)) := by omega
    subst hke
    simp only [pwA, if_true, if_false, eq_self, nm_eq, reduceCtorEq, ↓reduceIte, Nat.reduceEqDiff, Nat.reduceLeDiff, Nat.reduceBEq, Nat.reduceAdd, Nat.reduceLT, Nat.reduceSub, Nat.reduceMul, Int.reduceEq, Int.reduceLT, Int.reduceLE, Int.reduceNeg, Int.reduceToNat, List.reduceReplicate, Int.ofNat_le, List.getElem?_drop, e5]
    refine ⟨d - (q + 1), by omega, .here ⟨q + 1, vo, A, by omega, rfl, rfl, rfl, hvo, hA, ?_⟩⟩
    rw [Nat.sub_self] at hfo
    rw [show d - (q + 1) = d - q - 1 by omega]
    exact hfo
theorem l08At_ok (s : Shp O P C) : ∀ {d i : Nat}, O.length = d + i → AtOK O P C d i
  | 0, i, hi => by
    rename_i σ K a b va vb vO vP vC
    intro hR ha hb hva hvb hk
    have hn6 := s.le
    obtain ⟨⟨w0, a0, rfl⟩, ⟨w1, a1, rP, rfl, hP⟩, ⟨w3, a3, rC, rfl, hC⟩⟩ := hR
    refine PCalls.gh ?_
    have hge : (O.length : Int) ≤ (i : Int) := by omega
    refine pcalls_of_vp mix Try.func141 cf141 rfl ?_
    dsimp only [if141, qI, eI, nI, qD, eD]
    simp only [pwA, if_true, if_false, eq_self, nm_eq, reduceCtorEq, ↓reduceIte, Nat.reduceEqDiff, Nat.reduceLeDiff, Nat.reduceBEq, Nat.reduceAdd, Nat.reduceLT, Nat.reduceSub, Nat.reduceMul, Int.reduceEq, Int.reduceLT, Int.reduceLE, Int.reduceNeg, Int.reduceToNat, List.reduceReplicate, Int.ofNat_le, List.getElem?_drop, hge, List.length_replicate, pis_rep, mk8 (n := O.length) (by omega), mkL (n := O.length) (by omega)]
    exact Gh.finF (s := σ.next + 1) ((keep_new σ _).new _) (by simp only [pwA, if_true, if_false, eq_self, nm_eq, reduceCtorEq, ↓reduceIte, Nat.reduceEqDiff, Nat.reduceLeDiff, Nat.reduceBEq, Nat.reduceAdd, Nat.reduceLT, Nat.reduceSub, Nat.reduceMul, Int.reduceEq, Int.reduceLT, Int.reduceLE, Int.reduceNeg, Int.reduceToNat, List.reduceReplicate, Int.ofNat_le, List.getElem?_drop]; rfl) (by omega) (pis_bel _ _) (by simp [capOK]) fun o1 => hk _ (FI.mk (by simp [mu]))
  | d + 1, i, hi => by
    rename_i σ K a b va vb vO vP vC
    intro hR ha hb hva hvb hk
    have hAt : AtOK O P C d (i + 1) := l08At_ok s (by omega)
    have hn6 := s.le
    have hR0 := hR
    have hil : i < O.length := by omega
    have hO := s.pr i hil
    have hal := ha.len
    have hbl := hb.len
    have ba := ha.bd i hil
    have bb := hb.bd i hil
    have hpos := s.pos hil
    have h0i : O.length - (d + 1) = i := by omega
    have hm : ∀ a b, TT O (i + 1) a → TT O (i + 1) b → TT O (i + 1) (mu O P C d a b) := fun a b ha hb => by
      have := mu_tt s (d := d) (a := a) (b := b) (by omega) (by rwa [show O.length - d = i + 1 by omega]) (by rwa [show O.length - d = i + 1 by omega])
      rwa [show O.length - d = i + 1 by omega] at this
    obtain ⟨⟨w0, a0, rfl⟩, ⟨w1, a1, rP, rfl, hP⟩, ⟨w3, a3, rC, rfl, hC⟩⟩ := hR
    obtain ⟨w5, a5, hpr⟩ := pvRow s hP hil
    have hiP : i < P.length := by rw [s.pl]; exact hil
    have hpv := s.pw i hil
    obtain ⟨wa, aa, rfl⟩ := hva
    obtain ⟨wb, ab, rfl⟩ := hvb
    have hila : i < a.length := by omega
    have hilb : i < b.length := by omega
    have hge : ¬ (O.length : Int) ≤ (i : Int) := by omega
    have sa := ha.set0 hil hpos
    have sb' := hb.set0 hil hpos
    have sal := sa.len
    have sbl := sb'.len
    refine PCalls.gh ?_
    refine pcalls_of_vp mix Try.func141 cf141 rfl ?_
    dsimp only [if141, qI, eI, nI, qD, eD]
    simp only [pwA, if_true, if_false, eq_self, nm_eq, reduceCtorEq, ↓reduceIte, Nat.reduceEqDiff, Nat.reduceLeDiff, Nat.reduceBEq, Nat.reduceAdd, Nat.reduceLT, Nat.reduceSub, Nat.reduceMul, Int.reduceEq, Int.reduceLT, Int.reduceLE, Int.reduceNeg, Int.reduceToNat, List.reduceReplicate, Int.ofNat_le, List.getElem?_drop, hge]
    refine l01Own_ok rfl (by omega) fun cap1 hc1 => ?_
    simp only [pwA, if_true, if_false, eq_self, nm_eq, reduceCtorEq, ↓reduceIte, Nat.reduceEqDiff, Nat.reduceLeDiff, Nat.reduceBEq, Nat.reduceAdd, Nat.reduceLT, Nat.reduceSub, Nat.reduceMul, Int.reduceEq, Int.reduceLT, Int.reduceLE, Int.reduceNeg, Int.reduceToNat, List.reduceReplicate, Int.ofNat_le, List.getElem?_drop]
    refine l01Own_ok rfl (by omega) fun cap2 hc2 => ?_
    have g1 : i < a.length ∧ i + 1 ≤ a.length := ⟨hila, hila⟩
    have g2 : i < b.length ∧ i + 1 ≤ b.length := ⟨hilb, hilb⟩
    simp only [pwA, if_true, if_false, eq_self, nm_eq, reduceCtorEq, ↓reduceIte, Nat.reduceEqDiff, Nat.reduceLeDiff, Nat.reduceBEq, Nat.reduceAdd, Nat.reduceLT, Nat.reduceSub, Nat.reduceMul, Int.reduceEq, Int.reduceLT, Int.reduceLE, Int.reduceNeg, Int.reduceToNat, List.reduceReplicate, Int.ofNat_le, List.getElem?_drop, g1.1, g1.2, g2.1, g2.2, pis_length, pis_set_at hila, pis_set_at hilb]
    refine vp_loopG (fun m vs h' => ∃ (k : Nat) (vl vr : PV) (A : List Int), k ≤ nx b i ∧ m = nx b i - k ∧ vs = [.int .i64 i, .fz wa aa a.length (pis a), .fz wb ab b.length (pis b), .ptr σ.next 0, vl, vr, .int .i64 k] ∧
      h' = ((((σ.new [.fz w0 a0 O.length (pis O), .fz w1 a1 P.length rP, .fz w3 a3 C.length rC]).new (pis (a.set i 0))).new (pis (b.set i 0))).kill (σ.next + 1)).kill (σ.next + 2) ∧ FI vl A ∧ FI vr (b.set i 0) ∧ TT O (i + 1) A ∧ iter (Grp.img O C (mu O P C d) i) (nx b i - k) A = iter (Grp.img O C (mu O P C d) i) (nx b i) (a.set i 0)) (nx b i) ?_ ?_
    · refine .fz (σ.next + 1) (pis (a.set i 0)) (by simp only [pwA, if_true, if_false, eq_self, nm_eq, reduceCtorEq, ↓reduceIte, Nat.reduceEqDiff, Nat.reduceLeDiff, Nat.reduceBEq, Nat.reduceAdd, Nat.reduceLT, Nat.reduceSub, Nat.reduceMul, Int.reduceEq, Int.reduceLT, Int.reduceLE, Int.reduceNeg, Int.reduceToNat, List.reduceReplicate, Int.ofNat_le, List.getElem?_drop]) (pis_bel _ _) fun o1 => .fz (σ.next + 2) (pis (b.set i 0)) (by simp only [pwA, if_true, if_false, eq_self, nm_eq, reduceCtorEq, ↓reduceIte, Nat.reduceEqDiff, Nat.reduceLeDiff, Nat.reduceBEq, Nat.reduceAdd, Nat.reduceLT, Nat.reduceSub, Nat.reduceMul, Int.reduceEq, Int.reduceLT, Int.reduceLE, Int.reduceNeg, Int.reduceToNat, List.reduceReplicate, Int.ofNat_le, List.getElem?_drop]) (pis_bel _ _) fun o2 => .here ?_
      refine ⟨0, .fz true (.sl o1 0 a.length cap1) a.length (pis (a.set i 0)), .fz true (.sl o2 0 b.length cap2) b.length (pis (b.set i 0)), a.set i 0, by omega, by omega, ?_, rfl, FI.mk (by simp), FI.mk (by simp), sa, rfl⟩
      simp only [pwA, if_true, if_false, eq_self, nm_eq, reduceCtorEq, ↓reduceIte, Nat.reduceEqDiff, Nat.reduceLeDiff, Nat.reduceBEq, Nat.reduceAdd, Nat.reduceLT, Nat.reduceSub, Nat.reduceMul, Int.reduceEq, Int.reduceLT, Int.reduceLE, Int.reduceNeg, Int.reduceToNat, List.reduceReplicate, Int.ofNat_le, List.getElem?_drop]
      have k1 := hc1.ok
      have k2 := hc2.ok
      have hne : ¬ (σ.next + 2 = σ.next + 1) := by omega
      simp only [sbs, sb, k1, k2, hne, false_and, if_false, Nat.le_refl, decide_true, and_self, if_true]
      rfl
    rintro m vs h' ⟨k, vl, vr, A, hkn, rfl, rfl, rfl, hvl, hvr, hA, hit⟩
    have hnx : ((nx b i : Nat) : Int) = at_ b i := Int.toNat_of_nonneg bb.1
    have hcap1 := hc1.ok
    simp only [pwA, if_true, if_false, eq_self, nm_eq, reduceCtorEq, ↓reduceIte, Nat.reduceEqDiff, Nat.reduceLeDiff, Nat.reduceBEq, Nat.reduceAdd, Nat.reduceLT, Nat.reduceSub, Nat.reduceMul, Int.reduceEq, Int.reduceLT, Int.reduceLE, Int.reduceNeg, Int.reduceToNat, List.reduceReplicate, Int.ofNat_le, List.getElem?_drop, pisAt hilb, hilb, List.getElem?_drop]
    refine iteI (fun hlt => ?_) fun hge2 => ?_
    · have hlt3 : k < nx b i := by omega
      simp only [pwA, if_true, if_false, eq_self, nm_eq, reduceCtorEq, ↓reduceIte, Nat.reduceEqDiff, Nat.reduceLeDiff, Nat.reduceBEq, Nat.reduceAdd, Nat.reduceLT, Nat.reduceSub, Nat.reduceMul, Int.reduceEq, Int.reduceLT, Int.reduceLE, Int.reduceNeg, Int.reduceToNat, List.reduceReplicate, Int.ofNat_le, List.getElem?_drop]
      refine l08Image_ok s (by omega) hAt hR0 (hA.mono (Nat.zero_le _)) hvl fun v hv => ?_
      simp only [pwA, if_true, if_false, eq_self, nm_eq, reduceCtorEq, ↓reduceIte, Nat.reduceEqDiff, Nat.reduceLeDiff, Nat.reduceBEq, Nat.reduceAdd, Nat.reduceLT, Nat.reduceSub, Nat.reduceMul, Int.reduceEq, Int.reduceLT, Int.reduceLE, Int.reduceNeg, Int.reduceToNat, List.reduceReplicate, Int.ofNat_le, List.getElem?_drop, wrapS hlt3 (by omega : nx b i ≤ 4611686018427387904)]
      refine ⟨nx b i - (k + 1), by omega, .here ⟨k + 1, v, vr, _, by omega, rfl, rfl, rfl, hv, hvr, img_tt s hm _, ?_⟩⟩
      rw [show nx b i - k = (nx b i - (k + 1)) + 1 by omega] at hit
      exact hit
    have hke : k = nx b i := by omega
    subst hke
    rw [Nat.sub_self] at hit
    have hA' : A = iter (Grp.img O C (mu O P C d) i) (nx b i) (a.set i 0) := hit
    subst hA'
    simp only [pwA, if_true, if_false, eq_self, nm_eq, reduceCtorEq, ↓reduceIte, Nat.reduceEqDiff, Nat.reduceLeDiff, Nat.reduceBEq, Nat.reduceAdd, Nat.reduceLT, Nat.reduceSub, Nat.reduceMul, Int.reduceEq, Int.reduceLT, Int.reduceLE, Int.reduceNeg, Int.reduceToNat, List.reduceReplicate, Int.ofNat_le, List.getElem?_drop, wrapS hil (by omega : O.length ≤ 4611686018427387904)]
    have ir := hm _ _ hA sb'
    have irl := ir.len
    refine hAt hR0 hA sb' hvl hvr fun v hv => ?_
    have hab : IntKind.i64.wrap (at_ a i + at_ b i) = at_ a i + at_ b i := wrap64 (by omega) (by omega)
    have hiO : i < O.length := hil
    simp only [pwA, if_true, if_false, eq_self, nm_eq, reduceCtorEq, ↓reduceIte, Nat.reduceEqDiff, Nat.reduceLeDiff, Nat.reduceBEq, Nat.reduceAdd, Nat.reduceLT, Nat.reduceSub, Nat.reduceMul, Int.reduceEq, Int.reduceLT, Int.reduceLE, Int.reduceNeg, Int.reduceToNat, List.reduceReplicate, Int.ofNat_le, List.getElem?_drop, pisAt hila, pisAt hilb, hila, hilb, pisAt hil, hiO, List.getElem?_drop, hab]
    have hmu : ∀ c e : List Int, (if at_ a i + at_ b i ≥ at_ O i then (mu O P C d (pvec P i) (mu O P C d (iter (Grp.img O C (mu O P C d) i) (nx b i) (a.set i 0)) (b.set i 0))).set i (at_ a i + at_ b i - at_ O i) else (mu O P C d (iter (Grp.img O C (mu O P C d) i) (nx b i) (a.set i 0)) (b.set i 0)).set i (at_ a i + at_ b i)) = mu O P C (d + 1) a b := fun _ _ => by
      simp only [mu, h0i]
    refine iteI (fun hge3 => ?_) fun hlt3 => ?_
    · have hsub : IntKind.i64.wrap (at_ a i + at_ b i - at_ O i) = at_ a i + at_ b i - at_ O i := wrap64 (by omega) (by omega)
      have e := hmu a b
      rw [if_pos hge3] at e
      simp only [pwA, if_true, if_false, eq_self, nm_eq, reduceCtorEq, ↓reduceIte, Nat.reduceEqDiff, Nat.reduceLeDiff, Nat.reduceBEq, Nat.reduceAdd, Nat.reduceLT, Nat.reduceSub, Nat.reduceMul, Int.reduceEq, Int.reduceLT, Int.reduceLE, Int.reduceNeg, Int.reduceToNat, List.reduceReplicate, Int.ofNat_le, List.getElem?_drop, pisAt hil, hiO, hsub, wrapS hil (by omega : O.length ≤ 4611686018427387904), hiP, hpr, List.getElem?_drop]
      have ir2 := hm _ _ hpv ir
      have ir2l : i < (mu O P C d (pvec P i) (mu O P C d (iter (Grp.img O C (mu O P C d) i) (nx b i) (a.set i 0)) (b.set i 0))).length := by rw [ir2.len]; exact hil
      refine hAt hR0 hpv ir (FI.mk hpv.len) hv fun v2 hv2 => ?_
      obtain ⟨w7, a7, rfl⟩ := hv2
      simp only [pwA, if_true, if_false, eq_self, nm_eq, reduceCtorEq, ↓reduceIte, Nat.reduceEqDiff, Nat.reduceLeDiff, Nat.reduceBEq, Nat.reduceAdd, Nat.reduceLT, Nat.reduceSub, Nat.reduceMul, Int.reduceEq, Int.reduceLT, Int.reduceLE, Int.reduceNeg, Int.reduceToNat, List.reduceReplicate, Int.ofNat_le, List.getElem?_drop, pisAt hil, hiO, hsub, wrapS hil (by omega : O.length ≤ 4611686018427387904), hiP, hpr, List.getElem?_drop]
      refine l01Own_ok rfl (by have := ir2.len; omega) fun cap3 hc3 => ?_
      simp only [pwA, if_true, if_false, eq_self, nm_eq, reduceCtorEq, ↓reduceIte, Nat.reduceEqDiff, Nat.reduceLeDiff, Nat.reduceBEq, Nat.reduceAdd, Nat.reduceLT, Nat.reduceSub, Nat.reduceMul, Int.reduceEq, Int.reduceLT, Int.reduceLE, Int.reduceNeg, Int.reduceToNat, List.reduceReplicate, Int.ofNat_le, List.getElem?_drop, ir2l, Nat.succ_le_of_lt ir2l, pis_length, pis_set_at ir2l]
      rw [← e] at hk
      exact Gh.finF (s := σ.next + 1 + 2) ((((((keep_new σ _).new _).new _).kill (by omega)).kill (by omega)).new _) (by simp only [pwA, if_true, if_false, eq_self, nm_eq, reduceCtorEq, ↓reduceIte, Nat.reduceEqDiff, Nat.reduceLeDiff, Nat.reduceBEq, Nat.reduceAdd, Nat.reduceLT, Nat.reduceSub, Nat.reduceMul, Int.reduceEq, Int.reduceLT, Int.reduceLE, Int.reduceNeg, Int.reduceToNat, List.reduceReplicate, Int.ofNat_le, List.getElem?_drop]) (by omega) (pis_bel _ _) hc3.ok fun o1 => hk _ (FI.mk (by simp))
    · have e := hmu a b
      rw [if_neg (by omega)] at e
      have irl2 : i < (mu O P C d (iter (Grp.img O C (mu O P C d) i) (nx b i) (a.set i 0)) (b.set i 0)).length := by rw [irl]; exact hil
      obtain ⟨w7, a7, rfl⟩ := hv
      simp only [pwA, if_true, if_false, eq_self, nm_eq, reduceCtorEq, ↓reduceIte, Nat.reduceEqDiff, Nat.reduceLeDiff, Nat.reduceBEq, Nat.reduceAdd, Nat.reduceLT, Nat.reduceSub, Nat.reduceMul, Int.reduceEq, Int.reduceLT, Int.reduceLE, Int.reduceNeg, Int.reduceToNat, List.reduceReplicate, Int.ofNat_le, List.getElem?_drop]
      refine l01Own_ok rfl (by omega) fun cap3 hc3 => ?_
      simp only [pwA, if_true, if_false, eq_self, nm_eq, reduceCtorEq, ↓reduceIte, Nat.reduceEqDiff, Nat.reduceLeDiff, Nat.reduceBEq, Nat.reduceAdd, Nat.reduceLT, Nat.reduceSub, Nat.reduceMul, Int.reduceEq, Int.reduceLT, Int.reduceLE, Int.reduceNeg, Int.reduceToNat, List.reduceReplicate, Int.ofNat_le, List.getElem?_drop, irl2, Nat.succ_le_of_lt irl2, pis_length, pis_set_at irl2]
      rw [← e] at hk
      exact Gh.finF (s := σ.next + 1 + 2) ((((((keep_new σ _).new _).new _).kill (by omega)).kill (by omega)).new _) (by simp only [pwA, if_true, if_false, eq_self, nm_eq, reduceCtorEq, ↓reduceIte, Nat.reduceEqDiff, Nat.reduceLeDiff, Nat.reduceBEq, Nat.reduceAdd, Nat.reduceLT, Nat.reduceSub, Nat.reduceMul, Int.reduceEq, Int.reduceLT, Int.reduceLE, Int.reduceNeg, Int.reduceToNat, List.reduceReplicate, Int.ofNat_le, List.getElem?_drop]) (by omega) (pis_bel _ _) hc3.ok fun o1 => hk _ (FI.mk (by simp))
end Go.Proofs
set_option linter.unusedSimpArgs false
set_option linter.unusedVariables false
namespace Go.Proofs
open Go.Ab Go.Lie Go.Grp
variable {σ : PHeap} {K : PV → PHeap → Prop} {O : List Int} {P : List (List Int)} {C : List (List (List Int))} {vO vP vC vx : PV} {s : Nat} {x : List Int} {rP rC : List PV}
theorem pw_sq {α : Type} {S : α → Prop} {m : α → α → α} {e : α} (M : Mon S m e) {x : α} (hx : S x) : ∀ q, Grp.pw m e (m x x) q = Grp.pw m e x (q + q)
  | 0 => rfl
  | q + 1 => by
    rw [show q + 1 + (q + 1) = (q + q) + 1 + 1 by omega]
    show m (Grp.pw m e (m x x) q) (m x x) = m (m (Grp.pw m e x (q + q)) x) x
    rw [pw_sq M hx q, M.as (M.pw hx _) hx hx]
theorem pw_odd {α : Type} {S : α → Prop} {m : α → α → α} {e : α} (M : Mon S m e) {x : α} (hx : S x) (q : Nat) : m x (Grp.pw m e (m x x) q) = Grp.pw m e x (q + q + 1) := by
  rw [pw_sq M hx q]; exact (M.pw_comm hx _).symm
theorem l08Repeat_ok (s : Shp O P C) {d i : Nat} (hi : O.length = d + i) (hAt : AtOK O P C d i) (M : Mon (TT O i) (mu O P C d) (zv O)) (hR : IsPr vO vP vC O P C) (hx : TT O i x) (hvx : FI vx x) {k : Int} (hk0 : 0 ≤ k ∧ k ≤ 1000)
    (hk : ∀ v, FI v (pw (mu O P C d) (zv O) x k.toNat) → K v σ) : PCalls Try.prog 139 [.agg [vO, vP, vC], .int .i64 i, vx, .int .i64 k] σ K := by
  have hn6 := s.le
  have hR0 := hR
  obtain ⟨kn, rfl⟩ : ∃ kn : Nat, k = kn := ⟨k.toNat, by omega⟩
  obtain ⟨⟨w0, a0, rfl⟩, ⟨w1, a1, rP, rfl, hP⟩, ⟨w3, a3, rC, rfl, hC⟩⟩ := hR
  refine PCalls.gh ?_
  refine pcalls_of_vp mix Try.func139 cf139 rfl ?_
  dsimp only [if139, qI, eI, nI, qD, eD]
  simp only [pwA, if_true, if_false, eq_self, nm_eq, reduceCtorEq, ↓reduceIte, Nat.reduceEqDiff, Nat.reduceLeDiff, Nat.reduceBEq, Nat.reduceAdd, Nat.reduceLT, Nat.reduceSub, Nat.reduceMul, Int.reduceEq, Int.reduceLT, Int.reduceLE, Int.reduceNeg, Int.reduceToNat, List.reduceReplicate, Int.ofNat_le, List.getElem?_drop, List.length_replicate, pis_rep, mk8 (n := O.length) (by omega), mkL (n := O.length) (by omega)]
  have hkp : Keep σ (((σ.new [.fz w0 a0 O.length (pis O), .fz w1 a1 P.length rP, .fz w3 a3 C.length rC]).new (pis (zv O))).kill (σ.next + 1)) := ((keep_new σ _).new _).kill (by omega)
  refine vp_loopG (fun m vs h' => ∃ (k : Nat) (vo vb : PV) (A b : List Int), k ≤ 1000 ∧ m = k ∧ vs = [.int .i64 i, .int .i64 k, .ptr σ.next 0, vo, vb] ∧
    h' = ((σ.new [.fz w0 a0 O.length (pis O), .fz w1 a1 P.length rP, .fz w3 a3 C.length rC]).new (pis (zv O))).kill (σ.next + 1) ∧ FI vo A ∧ FI vb b ∧ TT O i A ∧ TT O i b ∧ mu O P C d A (pw (mu O P C d) (zv O) b k) = pw (mu O P C d) (zv O) x kn) kn ?_ ?_
  · refine .fz (σ.next + 1) (pis (zv O)) (by simp only [pwA, if_true, if_false, eq_self, nm_eq, reduceCtorEq, ↓reduceIte, Nat.reduceEqDiff, Nat.reduceLeDiff, Nat.reduceBEq, Nat.reduceAdd, Nat.reduceLT, Nat.reduceSub, Nat.reduceMul, Int.reduceEq, Int.reduceLT, Int.reduceLE, Int.reduceNeg, Int.reduceToNat, List.reduceReplicate, Int.ofNat_le, List.getElem?_drop]) (pis_bel _ _) fun o1 => .here ?_
    refine ⟨kn, .fz true (.sl o1 0 O.length (.known O.length)) O.length (pis (zv O)), vx, zv O, x, by omega, rfl, ?_, rfl, FI.mk (by simp), hvx, s.zv _, hx, M.l1 (M.pw hx _)⟩
    simp only [pwA, if_true, if_false, eq_self, nm_eq, reduceCtorEq, ↓reduceIte, Nat.reduceEqDiff, Nat.reduceLeDiff, Nat.reduceBEq, Nat.reduceAdd, Nat.reduceLT, Nat.reduceSub, Nat.reduceMul, Int.reduceEq, Int.reduceLT, Int.reduceLE, Int.reduceNeg, Int.reduceToNat, List.reduceReplicate, Int.ofNat_le, List.getElem?_drop]
    simp only [sbs, sb, capOK, Nat.le_refl, decide_true, and_self, if_true, hvx.sb]
  rintro m vs h' ⟨k, vo, vb, A, b, hk1, rfl, rfl, rfl, hvo, hvb, hA, hb, hinv⟩
  simp only [pwA, if_true, if_false, eq_self, nm_eq, reduceCtorEq, ↓reduceIte, Nat.reduceEqDiff, Nat.reduceLeDiff, Nat.reduceBEq, Nat.reduceAdd, Nat.reduceLT, Nat.reduceSub, Nat.reduceMul, Int.reduceEq, Int.reduceLT, Int.reduceLE, Int.reduceNeg, Int.reduceToNat, List.reduceReplicate, Int.ofNat_le, List.getElem?_drop]
  refine iteI (fun hgt => ?_) fun hle => ?_
  rotate_left
  · have hm0 : m = 0 := by omega
    subst hm0
    rw [show pw (mu O P C d) (zv O) b 0 = zv O from rfl, M.r1 hA] at hinv
    rw [show ((kn : Int)).toNat = kn from Int.toNat_natCast kn, ← hinv] at hk
    exact Gh.fin0 hkp (hvo.bel _) (hk _ hvo)
  have htm : Int.tmod (m : Int) 2 = ((m % 2 : Nat) : Int) := by rw [Int.tmod_eq_emod_of_nonneg (by omega)]; rfl
  have htd : Int.tdiv (m : Int) 2 = ((m / 2 : Nat) : Int) := by rw [Int.tdiv_eq_ediv_of_nonneg (by omega)]; rfl
  have h2 : ¬ ((2 : Int) = 0) := by decide
  have hwd : IntKind.i64.wrap ((m / 2 : Nat) : Int) = ((m / 2 : Nat) : Int) := wrap64 (by omega) (by omega)
  have hwt : IntKind.i64.wrap ((m % 2 : Nat) : Int) = ((m % 2 : Nat) : Int) := wrap64 (by omega) (by omega)
  have hbb := M.cl hb hb
  by_cases ho : m % 2 = 1
  · have ho' : ((m % 2 : Nat) : Int) = 1 := by omega
    simp only [pwA, if_true, if_false, eq_self, nm_eq, reduceCtorEq, ↓reduceIte, Nat.reduceEqDiff, Nat.reduceLeDiff, Nat.reduceBEq, Nat.reduceAdd, Nat.reduceLT, Nat.reduceSub, Nat.reduceMul, Int.reduceEq, Int.reduceLT, Int.reduceLE, Int.reduceNeg, Int.reduceToNat, List.reduceReplicate, Int.ofNat_le, List.getElem?_drop, h2, htm, ho', eq_true ho']
    refine hAt hR0 hA hb hvo hvb fun v hv => ?_
    simp only [pwA, if_true, if_false, eq_self, nm_eq, reduceCtorEq, ↓reduceIte, Nat.reduceEqDiff, Nat.reduceLeDiff, Nat.reduceBEq, Nat.reduceAdd, Nat.reduceLT, Nat.reduceSub, Nat.reduceMul, Int.reduceEq, Int.reduceLT, Int.reduceLE, Int.reduceNeg, Int.reduceToNat, List.reduceReplicate, Int.ofNat_le, List.getElem?_drop]
    refine hAt hR0 hb hb hvb hvb fun v2 hv2 => ?_
    simp only [pwA, if_true, if_false, eq_self, nm_eq, reduceCtorEq, ↓reduceIte, Nat.reduceEqDiff, Nat.reduceLeDiff, Nat.reduceBEq, Nat.reduceAdd, Nat.reduceLT, Nat.reduceSub, Nat.reduceMul, Int.reduceEq, Int.reduceLT, Int.reduceLE, Int.reduceNeg, Int.reduceToNat, List.reduceReplicate, Int.ofNat_le, List.getElem?_drop, h2, htd, hwd]
    refine ⟨m / 2, by omega, .here ⟨m / 2, v, v2, _, _, by omega, rfl, rfl, rfl, hv, hv2, M.cl hA hb, hbb, ?_⟩⟩
    rw [M.as hA hb (M.pw hbb _), pw_odd M hb, show m / 2 + m / 2 + 1 = m by omega]
    exact hinv
  · have ho' : ¬ ((m % 2 : Nat) : Int) = 1 := by omega
    simp only [pwA, if_true, if_false, eq_self, nm_eq, reduceCtorEq, ↓reduceIte, Nat.reduceEqDiff, Nat.reduceLeDiff, Nat.reduceBEq, Nat.reduceAdd, Nat.reduceLT, Nat.reduceSub, Nat.reduceMul, Int.reduceEq, Int.reduceLT, Int.reduceLE, Int.reduceNeg, Int.reduceToNat, List.reduceReplicate, Int.ofNat_le, List.getElem?_drop, h2, htm, ho']
    refine hAt hR0 hb hb hvb hvb fun v2 hv2 => ?_
    simp only [pwA, if_true, if_false, eq_self, nm_eq, reduceCtorEq, ↓reduceIte, Nat.reduceEqDiff, Nat.reduceLeDiff, Nat.reduceBEq, Nat.reduceAdd, Nat.reduceLT, Nat.reduceSub, Nat.reduceMul, Int.reduceEq, Int.reduceLT, Int.reduceLE, Int.reduceNeg, Int.reduceToNat, List.reduceReplicate, Int.ofNat_le, List.getElem?_drop, h2, htd, hwd]
    refine ⟨m / 2, by omega, .here ⟨m / 2, vo, v2, _, _, by omega, rfl, rfl, rfl, hvo, hv2, hA, hbb, ?_⟩⟩
    rw [pw_sq M hb, show m / 2 + m / 2 = m by omega]
    exact hinv
theorem l07Unit_ok {n k : Nat} (hn : n ≤ 1048576) (hkn : k < n) (hk : ∀ v, FI v (unitL n k) → K v σ) : PCalls Try.prog 142 [.int .i64 n, .int .i64 k] σ K := by
  refine PCalls.gh ?_
  refine pcalls_of_vp mix Try.func142 cf142 rfl ?_
  dsimp only [if142, qI, eI, nI, qD, eD]
  simp only [pwA, if_true, if_false, eq_self, nm_eq, reduceCtorEq, ↓reduceIte, Nat.reduceEqDiff, Nat.reduceLeDiff, Nat.reduceBEq, Nat.reduceAdd, Nat.reduceLT, Nat.reduceSub, Nat.reduceMul, Int.reduceEq, Int.reduceLT, Int.reduceLE, Int.reduceNeg, Int.reduceToNat, List.reduceReplicate, Int.ofNat_le, List.getElem?_drop, List.length_replicate, pis_rep, mk8 (n := n) (by omega), mkL (n := n) (by omega), hkn, Nat.succ_le_of_lt hkn, pis_length]
  rw [pis_set_at (by simpa using hkn)]
  exact Gh.finF (s := σ.next) (keep_new σ _) (by simp only [pwA, if_true, if_false, eq_self, nm_eq, reduceCtorEq, ↓reduceIte, Nat.reduceEqDiff, Nat.reduceLeDiff, Nat.reduceBEq, Nat.reduceAdd, Nat.reduceLT, Nat.reduceSub, Nat.reduceMul, Int.reduceEq, Int.reduceLT, Int.reduceLE, Int.reduceNeg, Int.reduceToNat, List.reduceReplicate, Int.ofNat_le, List.getElem?_drop]; rfl) (Nat.le_refl _) (pis_bel _ _) (by simp [capOK]) fun o1 => hk _ (FI.mk (unitL_length n k))
end Go.Proofs
set_option linter.unusedSimpArgs false
set_option linter.unusedVariables false
namespace Go.Proofs
open Go.Ab Go.Lie Go.Grp
variable {σ : PHeap} {K : PV → PHeap → Prop} {O : List Int} {P : List (List Int)} {C : List (List (List Int))} {vO vP vC vx vf : PV} {x y f : List Int} {rP rC : List PV} {d : Nat}
/-- A part of a slot is copied. -/
theorem Clone_sl {s off l : Nat} {cap : Cap} {ys : List Int} (hs : s < σ.next) (hr : σ.rd s off l = some (pis ys)) (hl : ys.length = l) (hb : l ≤ 1048576) (hk : ∀ a, K (.fz true a l (pis ys)) σ) : PCalls Try.prog 153 [.sl s off l cap] σ K := by
  refine PCalls.gh ?_
  have hne : ¬ s = σ.next := Nat.ne_of_lt hs
  refine pcalls_of_vp mix Try.func153 cf153 rfl ?_
  dsimp only [if153, qI, eI, nI, qD, eD]
  simp only [pwA, if_true, if_false, eq_self, nm_eq, reduceCtorEq, ↓reduceIte, Nat.reduceEqDiff, Nat.reduceLeDiff, Nat.reduceBEq, Nat.reduceAdd, Nat.reduceLT, Nat.reduceSub, Nat.reduceMul, Int.reduceEq, Int.reduceLT, Int.reduceLE, Int.reduceNeg, Int.reduceToNat, List.reduceReplicate, Int.ofNat_le, List.getElem?_drop]
  refine PSl.app (b := 0) (news := pis ys) (m := l) (keep_new σ _) (Nat.zero_le _) (PSl.new _ 1 rfl (Nat.le_refl _)) rfl (fun h0 => ?_) (by rw [pis_length, hl, Nat.mul_one]) (by omega) (by omega) fun v' h' k1 k2 => ?_
  · rw [pfirst_sl]
    simp only [h0, if_false, Nat.le_refl, if_true, Nat.mul_one, prd_new, hne]
    exact hr
  · simp only [pwA, if_true, if_false, eq_self, nm_eq, reduceCtorEq, ↓reduceIte, Nat.reduceEqDiff, Nat.reduceLeDiff, Nat.reduceBEq, Nat.reduceAdd, Nat.reduceLT, Nat.reduceSub, Nat.reduceMul, Int.reduceEq, Int.reduceLT, Int.reduceLE, Int.reduceNeg, Int.reduceToNat, List.reduceReplicate, Int.ofNat_le, List.getElem?_drop] at k2 ⊢
    exact k2.fin k1 (pis_bel _ _) fun o cap => hk _
theorem fo_skip {α : Type} {m : α → α → α} {h : Nat → α} {x : Nat → Nat} {c : Nat} : ∀ {k t : Nat} {a : α}, (∀ j, t ≤ j → j < t + k → x j = 0) → fo m h x t (k + c) a = fo m h x (t + k) c a
  | 0, t, a, _ => by rw [Nat.zero_add, Nat.add_zero]
  | k + 1, t, a, h0 => by
    rw [show k + 1 + c = (k + c) + 1 by omega, fo, h0 t (Nat.le_refl _) (by omega)]
    show fo _ _ _ (t + 1) (k + c) a = _
    rw [fo_skip (fun j h1 h2 => h0 j (by omega) (by omega)), show t + 1 + k = t + (k + 1) by omega]
/-- A product with a vector, generator by generator. -/
theorem fo_unit (s : Shp O P C) (F : Full O P C d) (hx : TT O (O.length - d) x) (hf : TT O (O.length - d) f) : fo (mu O P C d) (Grp.unit O) (nx f) 0 O.length x = mu O P C d x f := by
  have hle := F.le
  have M := F.gp.toMon
  have h1 := fo_skip (m := mu O P C d) (h := Grp.unit O) (x := nx f) (c := d) (k := O.length - d) (t := 0) (a := x) fun j _ h2 => by show (at_ f j).toNat = 0; rw [hf.zero j (by omega)]; rfl
  rw [show O.length - d + d = O.length by omega, Nat.zero_add] at h1
  rw [h1, M.fo_eq (fun j h1 h2 => s.unit (by omega) h1) hx]
  congr 1
  exact F.nf hf
/-- What a step of collection is to do. -/
def TGok (O : List Int) (P : List (List Int)) (C : List (List (List Int))) (d j : Nat) : Prop :=
  ∀ (σ : PHeap) (K : PV → PHeap → Prop) (sp se : Nat) (cap : Cap) (x : List Int) (vO vP vC : PV), PtrG σ sp vO vP vC → IsPr vO vP vC O P C → σ.obj se = some (pis x) → se < σ.next → sp ≠ se → full 1 cap O.length → TT O (O.length - d) x →
    K (.tup []) (σ.set se (pis (mu O P C d x (Grp.unit O j)))) → PCalls Try.prog 152 [.ptr sp 0, .sl se 0 O.length cap, .int .i64 j] σ K
theorem timesVector_of (s : Shp O P C) (F : Full O P C d) {t : Nat} (ht : O.length - d ≤ t) (hTG : ∀ j, t ≤ j → j < O.length → TGok O P C d j) {sp se : Nat} {cap : Cap} (hs : PtrG σ sp vO vP vC) (hR : IsPr vO vP vC O P C)
    (he : σ.obj se = some (pis x)) (hse : se < σ.next) (hne : sp ≠ se) (hcap : full 1 cap O.length) (hx : TT O (O.length - d) x) (hf : TT O t f) (hvf : FI vf f) (hk : K (.tup []) (σ.set se (pis (mu O P C d x f)))) : PCalls Try.prog 149 [.ptr sp 0, .sl se 0 O.length cap, vf] σ K := by
  have hn6 := s.le
  have hfl := hf.len
  have M := F.gp.toMon
  obtain ⟨wf, af, rfl⟩ := hvf
  refine pcalls_of_vp mix Try.func149 cf149 rfl ?_
  dsimp only [if149, qI, eI, nI, qD, eD]
  simp only [pwA, if_true, if_false, eq_self, nm_eq, reduceCtorEq, ↓reduceIte, Nat.reduceEqDiff, Nat.reduceLeDiff, Nat.reduceBEq, Nat.reduceAdd, Nat.reduceLT, Nat.reduceSub, Nat.reduceMul, Int.reduceEq, Int.reduceLT, Int.reduceLE, Int.reduceNeg, Int.reduceToNat, List.reduceReplicate, Int.ofNat_le, List.getElem?_drop]
  refine vp_loop (fun m vs h' => ∃ (q : Nat) (y : List Int), q ≤ O.length ∧ m = O.length - q ∧ vs = [.ptr sp 0, .sl se 0 O.length cap, .fz wf af f.length (pis f), .int .i64 f.length, .int .i64 q] ∧ h' = σ.set se (pis y) ∧ TT O (O.length - d) y ∧ fo (mu O P C d) (Grp.unit O) (nx f) q (O.length - q) y = mu O P C d x f) O.length ?_ ?_
  · exact ⟨0, x, by omega, by omega, rfl, (set_same he).symm, hx, fo_unit s F hx (hf.mono ht)⟩
  rintro m vs h' ⟨q, y, hq, rfl, rfl, rfl, hy, hfo⟩
  simp only [pwA, if_true, if_false, eq_self, nm_eq, reduceCtorEq, ↓reduceIte, Nat.reduceEqDiff, Nat.reduceLeDiff, Nat.reduceBEq, Nat.reduceAdd, Nat.reduceLT, Nat.reduceSub, Nat.reduceMul, Int.reduceEq, Int.reduceLT, Int.reduceLE, Int.reduceNeg, Int.reduceToNat, List.reduceReplicate, Int.ofNat_le, List.getElem?_drop]
  refine iteI (fun hlt => ?_) fun hge => ?_
  rotate_left
  · have hqe : q = O.length := by omega
    subst hqe
    rw [Nat.sub_self] at hfo
    rw [← hfo] at hk
    exact hk
  have hqO : q < O.length := by omega
  have bf := hf.bd q hqO
  have bO := s.pr q hqO
  have hnx : ((nx f q : Nat) : Int) = at_ f q := Int.toNat_of_nonneg bf.1
  rw [show O.length - q = (O.length - (q + 1)) + 1 by omega] at hfo
  simp only [pwA, if_true, if_false, eq_self, nm_eq, reduceCtorEq, ↓reduceIte, Nat.reduceEqDiff, Nat.reduceLeDiff, Nat.reduceBEq, Nat.reduceAdd, Nat.reduceLT, Nat.reduceSub, Nat.reduceMul, Int.reduceEq, Int.reduceLT, Int.reduceLE, Int.reduceNeg, Int.reduceToNat, List.reduceReplicate, Int.ofNat_le, List.getElem?_drop, pisAt hlt, hlt, List.getElem?_drop]
  refine vp_loop (fun m vs h' => ∃ (k : Nat) (y : List Int), k ≤ nx f q ∧ m = nx f q - k ∧ vs = [.ptr sp 0, .sl se 0 O.length cap, .int .i64 q, .fz wf af f.length (pis f), .int .i64 f.length, .int .i64 q, .int .i64 (at_ f q), .int .i64 k] ∧ h' = σ.set se (pis y) ∧ TT O (O.length - d) y ∧ fo (mu O P C d) (Grp.unit O) (nx f) (q + 1) (O.length - (q + 1)) (rep (mu O P C d) (Grp.unit O q) (nx f q - k) y) = mu O P C d x f) (nx f q) ?_ ?_
  · exact ⟨0, y, by omega, by omega, rfl, rfl, hy, hfo⟩
  rintro m vs h' ⟨k, y, hkn, rfl, rfl, rfl, hy, hfo⟩
  simp only [pwA, if_true, if_false, eq_self, nm_eq, reduceCtorEq, ↓reduceIte, Nat.reduceEqDiff, Nat.reduceLeDiff, Nat.reduceBEq, Nat.reduceAdd, Nat.reduceLT, Nat.reduceSub, Nat.reduceMul, Int.reduceEq, Int.reduceLT, Int.reduceLE, Int.reduceNeg, Int.reduceToNat, List.reduceReplicate, Int.ofNat_le, List.getElem?_drop]
  refine iteI (fun hlt2 => ?_) fun hge2 => ?_
  · have hlt3 : k < nx f q := by omega
    have htq : t ≤ q := by
      rcases Nat.lt_or_ge q t with h | h
      · have := hf.zero q h; omega
      · exact h
    have hu : TT O (O.length - d) (Grp.unit O q) := s.unit hqO (by omega)
    refine hTG q htq hqO _ _ sp se cap y vO vP vC (hs.set hne _) hR (by simp only [pwA, if_true, if_false, eq_self, nm_eq, reduceCtorEq, ↓reduceIte, Nat.reduceEqDiff, Nat.reduceLeDiff, Nat.reduceBEq, Nat.reduceAdd, Nat.reduceLT, Nat.reduceSub, Nat.reduceMul, Int.reduceEq, Int.reduceLT, Int.reduceLE, Int.reduceNeg, Int.reduceToNat, List.reduceReplicate, Int.ofNat_le, List.getElem?_drop]) hse hne hcap hy ?_
    simp only [pwA, if_true, if_false, eq_self, nm_eq, reduceCtorEq, ↓reduceIte, Nat.reduceEqDiff, Nat.reduceLeDiff, Nat.reduceBEq, Nat.reduceAdd, Nat.reduceLT, Nat.reduceSub, Nat.reduceMul, Int.reduceEq, Int.reduceLT, Int.reduceLE, Int.reduceNeg, Int.reduceToNat, List.reduceReplicate, Int.ofNat_le, List.getElem?_drop, wrapS hlt3 (by omega : nx f q ≤ 4611686018427387904)]
    refine ⟨_, by omega, k + 1, _, by omega, rfl, rfl, rfl, M.cl hy hu, ?_⟩
    rw [show nx f q - k = (nx f q - (k + 1)) + 1 by omega] at hfo
    exact hfo
  · have hke : k = nx f q := by omega
    subst hke
    rw [Nat.sub_self] at hfo
    simp only [pwA, if_true, if_false, eq_self, nm_eq, reduceCtorEq, ↓reduceIte, Nat.reduceEqDiff, Nat.reduceLeDiff, Nat.reduceBEq, Nat.reduceAdd, Nat.reduceLT, Nat.reduceSub, Nat.reduceMul, Int.reduceEq, Int.reduceLT, Int.reduceLE, Int.reduceNeg, Int.reduceToNat, List.reduceReplicate, Int.ofNat_le, List.getElem?_drop, wrapS hlt (by omega : f.length ≤ 4611686018427387904)]
    exact ⟨_, by omega, q + 1, y, by omega, rfl, rfl, rfl, hy, hfo⟩
end Go.Proofs
set_option linter.unusedSimpArgs false
set_option linter.unusedVariables false
namespace Go.Proofs
open Go.Ab Go.Lie Go.Grp
variable {σ : PHeap} {K : PV → PHeap → Prop} {O : List Int} {P : List (List Int)} {C : List (List (List Int))} {vO vP vC vx vf : PV} {x y f : List Int} {rP rC : List PV} {d j : Nat}
/-- The entries behind j are put to zero, one by one. -/
def zr (x : List Int) (j : Nat) : Nat → List Int
  | 0 => x
  | k + 1 => (zr x j k).set (j + (1 + k)) 0
theorem zr_len : ∀ k, (zr x j k).length = x.length
  | 0 => rfl
  | k + 1 => by rw [zr, List.length_set]; exact zr_len k
theorem zr_at : ∀ {k : Nat}, j + (1 + k) ≤ x.length → ∀ t, at_ (zr x j k) t = if j < t ∧ t < j + (1 + k) then 0 else at_ x t
  | 0, _, t => by rw [if_neg (by omega)]; rfl
  | k + 1, h, t => by
    rw [zr, at_set (by rw [zr_len]; omega)]
    split
    · rename_i e; rw [if_pos (by omega)]
    · rename_i e
      rw [zr_at (by omega)]
      by_cases g : j < t ∧ t < j + (1 + k)
      · rw [if_pos g, if_pos (by omega)]
      · rw [if_neg g, if_neg (by omega)]
theorem zr_all (hj : j < x.length) : zr x j (x.length - 1 - j) = hdz x j := by
  refine ext_at (by rw [zr_len, hdz_len]) fun t ht => ?_
  rw [zr_len] at ht
  rw [zr_at (by omega), hdz_at]
  by_cases g : t ≤ j
  · rw [if_neg (by omega), if_pos g]
  · rw [if_pos (by omega), if_neg g]
theorem pslice_tail {se n : Nat} {cap : Cap} (hc : full 1 cap n) (hj : j + 1 ≤ n) : ∃ off cap', pslice 1 (.sl se 0 n cap) (some (.int .i64 ((j + 1 : Nat) : Int))) none none = some (.sl se off (n - (j + 1)) cap') ∧ (off = j + 1 ∨ (off = 0 ∧ n - (j + 1) = 0)) := by
  have e : (0 : Int) ≤ ((j + 1 : Nat) : Int) ∧ ((j + 1 : Nat) : Int) ≤ (n : Int) := ⟨by omega, by omega⟩
  rcases hc with rfl | rfl
  · refine ⟨j + 1, .grown 1, ?_, .inl rfl⟩
    rw [pslice_grown]
    simp only [pobound_none, pobound_some, pbound_int, Option.bind_some, if_pos e, Int.toNat_natCast]
    simp
  · rw [pslice_known]
    simp only [pobound_none, pobound_some, pbound_int, Option.bind_some, if_pos e, Int.toNat_natCast]
    by_cases h : n = j + 1
    · refine ⟨0, .known (n - (j + 1)), ?_, .inr ⟨rfl, by omega⟩⟩
      rw [if_pos h]; simp
    · refine ⟨j + 1, .known (n - (j + 1)), ?_, .inl rfl⟩
      rw [if_neg h]; simp
theorem timesGenerator_ok (s : Shp O P C) (F : Full O P C d) : ∀ (r : Nat) {j : Nat}, O.length - d ≤ j → j < O.length → O.length - j ≤ r → TGok O P C d j
  | 0, j, h1, h2, h3 => by omega
  | r + 1, j, h1, h2, h3 => by
    intro σ K sp se cap x vO vP vC hs hR he hse hne hcap hx hk
    have hTG : ∀ j', j + 1 ≤ j' → j' < O.length → TGok O P C d j' := fun j' g1 g2 => timesGenerator_ok s F r (by omega) g2 (by omega)
    have hn6 := s.le
    have hR0 := hR
    have hs0 := hs
    have hxl := hx.len
    have hjx : j < x.length := by omega
    have bx := hx.bd j h2
    have bO := s.pr j h2
    have M := F.gp.toMon
    rw [← tstep_eq s F hx h1 h2] at hk
    obtain ⟨⟨w0, a0, rfl⟩, ⟨w1, a1, rP, rfl, hP⟩, ⟨w3, a3, rC, rfl, hC⟩⟩ := hR
    obtain ⟨w5, a5, rs, hrb, hrs⟩ := cvRow s hC h2
    obtain ⟨w6, a6, hpr⟩ := pvRow s hP h2
    have hjC : j < C.length := by rw [s.cl]; exact h2
    have hjP : j < P.length := by rw [s.pl]; exact h2
    have hpv := s.pw j h2
    have e0 : σ.rd1 sp 0 = some (.fz w0 a0 O.length (pis O)) := by rw [obj_rd1 hs.obj]; rfl
    have e1 : σ.rd1 sp 1 = some (.fz w1 a1 P.length rP) := by rw [obj_rd1 hs.obj]; rfl
    have e2 : σ.rd1 sp 2 = some (.fz w3 a3 C.length rC) := by rw [obj_rd1 hs.obj]; rfl
    have ern : ∀ t, σ.rd1 se t = (pis x)[t]? := fun t => obj_rd1 he t
    obtain ⟨off, cap', hsl, hoff⟩ := pslice_tail (se := se) hcap (Nat.succ_le_of_lt h2)
    have wj1 : IntKind.i64.wrap ((j : Int) + 1) = ((j + 1 : Nat) : Int) := wrapS h2 (by omega)
    refine pcalls_of_vp mix Try.func152 cf152 rfl ?_
    dsimp only [if152, qI, eI, nI, qD, eD]
    simp only [pwA, if_true, if_false, eq_self, nm_eq, reduceCtorEq, ↓reduceIte, Nat.reduceEqDiff, Nat.reduceLeDiff, Nat.reduceBEq, Nat.reduceAdd, Nat.reduceLT, Nat.reduceSub, Nat.reduceMul, Int.reduceEq, Int.reduceLT, Int.reduceLE, Int.reduceNeg, Int.reduceToNat, List.reduceReplicate, Int.ofNat_le, List.getElem?_drop, wj1, hsl]
    have hdl : (x.drop (j + 1)).length = O.length - (j + 1) := by simp [hxl]
    refine Clone_sl hse (ys := x.drop (j + 1)) ?_ hdl (by omega) fun av => ?_
    · rw [obj_rd he, pis_length]
      rcases hoff with rfl | ⟨rfl, h0⟩
      · rw [if_pos (by omega), ← pis_drop, List.take_of_length_le (by rw [List.length_drop, pis_length]; omega)]
      · rw [h0, if_pos (by omega), List.take_zero, List.drop_eq_nil_of_le (by omega)]; rfl
    simp only [pwA, if_true, if_false, eq_self, nm_eq, reduceCtorEq, ↓reduceIte, Nat.reduceEqDiff, Nat.reduceLeDiff, Nat.reduceBEq, Nat.reduceAdd, Nat.reduceLT, Nat.reduceSub, Nat.reduceMul, Int.reduceEq, Int.reduceLT, Int.reduceLE, Int.reduceNeg, Int.reduceToNat, List.reduceReplicate, Int.ofNat_le, List.getElem?_drop, pis_length]
    refine vp_loop (fun m vs h' => ∃ k : Nat, k ≤ O.length - (j + 1) ∧ m = O.length - (j + 1) - k ∧ vs = [.ptr sp 0, .sl se 0 O.length cap, .int .i64 j, .fz true av (O.length - (j + 1)) (pis (x.drop (j + 1))), .int .i64 ((O.length - (j + 1) : Nat) : Int), .int .i64 k] ∧ h' = σ.set se (pis (zr x j k))) (O.length - (j + 1)) ?_ ?_
    · exact ⟨0, by omega, by omega, rfl, (set_same he).symm⟩
    · rintro m vs h' ⟨k, hk1, rfl, rfl, rfl⟩
      simp only [pwA, if_true, if_false, eq_self, nm_eq, reduceCtorEq, ↓reduceIte, Nat.reduceEqDiff, Nat.reduceLeDiff, Nat.reduceBEq, Nat.reduceAdd, Nat.reduceLT, Nat.reduceSub, Nat.reduceMul, Int.reduceEq, Int.reduceLT, Int.reduceLE, Int.reduceNeg, Int.reduceToNat, List.reduceReplicate, Int.ofNat_le, List.getElem?_drop]
      refine iteI (fun hlt => ?_) fun hge => ?_
      · have e3 : IntKind.i64.wrap (((j + 1 : Nat) : Int) + (k : Int)) = ((j + (1 + k) : Nat) : Int) := by rw [wrap64 (by omega) (by omega)]; omega
        have hjl : j + (1 + k) < O.length := by omega
        have hjz : j + (1 + k) < (zr x j k).length := by rw [zr_len]; omega
        have hset : (pis (zr x j k)).take (j + (1 + k)) ++ [.int .i64 0] ++ (pis (zr x j k)).drop (j + (1 + (k + 1))) = pis (zr x j (k + 1)) := by rw [show j + (1 + (k + 1)) = j + (1 + k) + 1 by omega]; exact pis_set_at hjz
        have hle2 : j + (1 + (k + 1)) ≤ O.length := by omega
        simp only [pwA, if_true, if_false, eq_self, nm_eq, reduceCtorEq, ↓reduceIte, Nat.reduceEqDiff, Nat.reduceLeDiff, Nat.reduceBEq, Nat.reduceAdd, Nat.reduceLT, Nat.reduceSub, Nat.reduceMul, Int.reduceEq, Int.reduceLT, Int.reduceLE, Int.reduceNeg, Int.reduceToNat, List.reduceReplicate, Int.ofNat_le, List.getElem?_drop, wj1, e3, hjl, pis_length, zr_len, hxl, hle2, hset, wrapS hlt (by omega : O.length - (j + 1) ≤ 4611686018427387904)]
        exact ⟨_, by omega, k + 1, by omega, rfl, rfl, rfl⟩
      have hke : k = x.length - 1 - j := by omega
      subst hke
      rw [zr_all hjx]
      have hzl : (hdz x j).length = O.length := by rw [hdz_len]; exact hxl
      have hjz : j < (hdz x j).length := by omega
      have hdat : at_ (hdz x j) j = at_ x j := by rw [hdz_at, if_pos (Nat.le_refl _)]
      have wx1 : IntKind.i64.wrap (at_ x j + 1) = at_ x j + 1 := wrap64 (by omega) (by omega)
      have hz2 : j < ((hdz x j).set j (at_ x j + 1)).length := by rw [List.length_set]; exact hjz
      have hat2 : at_ ((hdz x j).set j (at_ x j + 1)) j = at_ x j + 1 := by rw [at_set hjz, if_pos rfl]
      have p1 := pisAt hjz
      have p2 := pisAt hz2
      rw [hdat] at p1
      rw [hat2] at p2
      have hsle : j + 1 ≤ O.length := h2
      simp only [pwA, if_true, if_false, eq_self, nm_eq, reduceCtorEq, ↓reduceIte, Nat.reduceEqDiff, Nat.reduceLeDiff, Nat.reduceBEq, Nat.reduceAdd, Nat.reduceLT, Nat.reduceSub, Nat.reduceMul, Int.reduceEq, Int.reduceLT, Int.reduceLE, Int.reduceNeg, Int.reduceToNat, List.reduceReplicate, Int.ofNat_le, List.getElem?_drop, h2, hzl, pis_length, p1, wx1, hsle, pis_set_at hjz, pset_set]
      simp only [pwA, if_true, if_false, eq_self, nm_eq, reduceCtorEq, ↓reduceIte, Nat.reduceEqDiff, Nat.reduceLeDiff, Nat.reduceBEq, Nat.reduceAdd, Nat.reduceLT, Nat.reduceSub, Nat.reduceMul, Int.reduceEq, Int.reduceLT, Int.reduceLE, Int.reduceNeg, Int.reduceToNat, List.reduceReplicate, Int.ofNat_le, List.getElem?_drop, h2, hzl, pis_length, p1, p2, wx1, hsle, pis_set_at hjz, pset_set, hne, e0, pisAt h2, List.getElem?_drop]
      refine iteI (fun heq => ?_) fun hneq => ?_
      · have hh0 : ((hdz x j).set j (at_ x j + 1)).set j 0 = (hdz x j).set j 0 := by rw [List.set_set]
        simp only [pwA, if_true, if_false, eq_self, nm_eq, reduceCtorEq, ↓reduceIte, Nat.reduceEqDiff, Nat.reduceLeDiff, Nat.reduceBEq, Nat.reduceAdd, Nat.reduceLT, Nat.reduceSub, Nat.reduceMul, Int.reduceEq, Int.reduceLT, Int.reduceLE, Int.reduceNeg, Int.reduceToNat, List.reduceReplicate, Int.ofNat_le, List.getElem?_drop, h2, hzl, List.length_set, pis_length, hsle, pis_set_at hz2, hh0, hne, e1, hjP, hpr, List.getElem?_drop]
        have ht0 : TT O (O.length - d) ((hdz x j).set j 0) := (hdz_tt hx fun t ht => s.pos ht).set h2 h1 ⟨by omega, by omega⟩
        refine timesVector_of s F (t := j + 1) (by omega) hTG (hs0.set hne (pis ((hdz x j).set j 0))) hR0 (x := (hdz x j).set j 0) (by simp only [pwA, if_true, if_false, eq_self, nm_eq, reduceCtorEq, ↓reduceIte, Nat.reduceEqDiff, Nat.reduceLeDiff, Nat.reduceBEq, Nat.reduceAdd, Nat.reduceLT, Nat.reduceSub, Nat.reduceMul, Int.reduceEq, Int.reduceLT, Int.reduceLE, Int.reduceNeg, Int.reduceToNat, List.reduceReplicate, Int.ofNat_le, List.getElem?_drop]) hse hne hcap ht0 hpv (FI.mk hpv.len) ?_
        simp only [pwA, if_true, if_false, eq_self, nm_eq, reduceCtorEq, ↓reduceIte, Nat.reduceEqDiff, Nat.reduceLeDiff, Nat.reduceBEq, Nat.reduceAdd, Nat.reduceLT, Nat.reduceSub, Nat.reduceMul, Int.reduceEq, Int.reduceLT, Int.reduceLE, Int.reduceNeg, Int.reduceToNat, List.reduceReplicate, Int.ofNat_le, List.getElem?_drop, pset_set]
        have hY : TT O (O.length - d) (mu O P C d ((hdz x j).set j 0) (pvec P j)) := M.cl ht0 (hpv.mono (by omega))
        have hfoY : fo (mu O P C d) (cvec C j) (nx x) (j + (1 + 0)) (O.length - (j + 1) - 0) (mu O P C d ((hdz x j).set j 0) (pvec P j)) = tstep O P C (mu O P C d) x j := by
          rw [tstep, if_pos heq, show O.length - 1 - j = O.length - (j + 1) - 0 by omega]
        generalize mu O P C d ((hdz x j).set j 0) (pvec P j) = Y at hY hfoY ⊢
        refine vp_loop (fun m vs h' => ∃ (k : Nat) (y : List Int), k ≤ O.length - (j + 1) ∧ m = O.length - (j + 1) - k ∧ vs = [.ptr sp 0, .sl se 0 O.length cap, .int .i64 j, .fz true av (O.length - (j + 1)) (pis (x.drop (j + 1))), .int .i64 ((O.length - (j + 1) : Nat) : Int), .int .i64 k] ∧ h' = σ.set se (pis y) ∧ TT O (O.length - d) y ∧ fo (mu O P C d) (cvec C j) (nx x) (j + (1 + k)) (O.length - (j + 1) - k) y = tstep O P C (mu O P C d) x j) (O.length - (j + 1)) ?_ ?_
        · exact ⟨0, Y, by omega, by omega, rfl, rfl, hY, hfoY⟩
        rintro m vs h' ⟨k, y, hk1, rfl, rfl, rfl, hy, hfo⟩
        simp only [pwA, if_true, if_false, eq_self, nm_eq, reduceCtorEq, ↓reduceIte, Nat.reduceEqDiff, Nat.reduceLeDiff, Nat.reduceBEq, Nat.reduceAdd, Nat.reduceLT, Nat.reduceSub, Nat.reduceMul, Int.reduceEq, Int.reduceLT, Int.reduceLE, Int.reduceNeg, Int.reduceToNat, List.reduceReplicate, Int.ofNat_le, List.getElem?_drop]
        refine iteI (fun hlt => ?_) fun hge => ?_
        rotate_left
        · have hke : O.length - (j + 1) - k = 0 := by omega
          rw [hke] at hfo
          rw [← hfo] at hk
          exact hk
        have hjl : j + (1 + k) < O.length := by omega
        have hkd : k < (x.drop (j + 1)).length := by omega
        have hdat3 : at_ (x.drop (j + 1)) k = at_ x (j + (1 + k)) := by
          simp only [at_, List.getD_eq_getElem?_getD, List.getElem?_drop, show j + 1 + k = j + (1 + k) by omega]
        have pk := pisAt hkd
        rw [hdat3] at pk
        have bk := hx.bd (j + (1 + k)) hjl
        have bOk := s.pr _ hjl
        have hnx : ((nx x (j + (1 + k)) : Nat) : Int) = at_ x (j + (1 + k)) := Int.toNat_of_nonneg bk.1
        obtain ⟨w7, a7, hrk⟩ := hrs k (by omega)
        have hcv := s.cj j (j + (1 + k)) (by omega) hjl
        have hkr : k < O.length - 1 - j := by omega
        rw [show O.length - (j + 1) - k = (O.length - (j + 1) - k - 1) + 1 by omega] at hfo
        simp only [pwA, if_true, if_false, eq_self, nm_eq, reduceCtorEq, ↓reduceIte, Nat.reduceEqDiff, Nat.reduceLeDiff, Nat.reduceBEq, Nat.reduceAdd, Nat.reduceLT, Nat.reduceSub, Nat.reduceMul, Int.reduceEq, Int.reduceLT, Int.reduceLE, Int.reduceNeg, Int.reduceToNat, List.reduceReplicate, Int.ofNat_le, List.getElem?_drop, pk, hkd, hlt, List.getElem?_drop]
        refine vp_loop (fun m vs h' => ∃ (q : Nat) (y : List Int), q ≤ nx x (j + (1 + k)) ∧ m = nx x (j + (1 + k)) - q ∧ vs = [.ptr sp 0, .sl se 0 O.length cap, .int .i64 j, .int .i64 k, .fz true av (O.length - (j + 1)) (pis (x.drop (j + 1))), .int .i64 ((O.length - (j + 1) : Nat) : Int), .int .i64 k, .int .i64 (at_ x (j + (1 + k))), .int .i64 q] ∧ h' = σ.set se (pis y) ∧ TT O (O.length - d) y ∧ fo (mu O P C d) (cvec C j) (nx x) (j + (1 + k) + 1) (O.length - (j + 1) - k - 1) (rep (mu O P C d) (cvec C j (j + (1 + k))) (nx x (j + (1 + k)) - q) y) = tstep O P C (mu O P C d) x j) (nx x (j + (1 + k))) ?_ ?_
        · exact ⟨0, y, by omega, by omega, rfl, rfl, hy, hfo⟩
        rintro m vs h' ⟨q, y, hqn, rfl, rfl, rfl, hy, hfo⟩
        simp only [pwA, if_true, if_false, eq_self, nm_eq, reduceCtorEq, ↓reduceIte, Nat.reduceEqDiff, Nat.reduceLeDiff, Nat.reduceBEq, Nat.reduceAdd, Nat.reduceLT, Nat.reduceSub, Nat.reduceMul, Int.reduceEq, Int.reduceLT, Int.reduceLE, Int.reduceNeg, Int.reduceToNat, List.reduceReplicate, Int.ofNat_le, List.getElem?_drop]
        refine iteI (fun hlt2 => ?_) fun hge2 => ?_
        · have hlt3 : q < nx x (j + (1 + k)) := by omega
          simp only [pwA, if_true, if_false, eq_self, nm_eq, reduceCtorEq, ↓reduceIte, Nat.reduceEqDiff, Nat.reduceLeDiff, Nat.reduceBEq, Nat.reduceAdd, Nat.reduceLT, Nat.reduceSub, Nat.reduceMul, Int.reduceEq, Int.reduceLT, Int.reduceLE, Int.reduceNeg, Int.reduceToNat, List.reduceReplicate, Int.ofNat_le, List.getElem?_drop, hne, e2, hjC, hrb, hkr, hrk, List.getElem?_drop]
          refine timesVector_of s F (t := j + 1) (by omega) hTG (hs0.set hne (pis y)) hR0 (x := y) (by simp only [pwA, if_true, if_false, eq_self, nm_eq, reduceCtorEq, ↓reduceIte, Nat.reduceEqDiff, Nat.reduceLeDiff, Nat.reduceBEq, Nat.reduceAdd, Nat.reduceLT, Nat.reduceSub, Nat.reduceMul, Int.reduceEq, Int.reduceLT, Int.reduceLE, Int.reduceNeg, Int.reduceToNat, List.reduceReplicate, Int.ofNat_le, List.getElem?_drop]) hse hne hcap hy hcv (FI.mk hcv.len) ?_
          simp only [pwA, if_true, if_false, eq_self, nm_eq, reduceCtorEq, ↓reduceIte, Nat.reduceEqDiff, Nat.reduceLeDiff, Nat.reduceBEq, Nat.reduceAdd, Nat.reduceLT, Nat.reduceSub, Nat.reduceMul, Int.reduceEq, Int.reduceLT, Int.reduceLE, Int.reduceNeg, Int.reduceToNat, List.reduceReplicate, Int.ofNat_le, List.getElem?_drop, pset_set, wrapS hlt3 (by omega : nx x (j + (1 + k)) ≤ 4611686018427387904)]
          refine ⟨_, by omega, q + 1, _, by omega, rfl, rfl, rfl, M.cl hy (hcv.mono (by omega)), ?_⟩
          rw [show nx x (j + (1 + k)) - q = (nx x (j + (1 + k)) - (q + 1)) + 1 by omega] at hfo
          exact hfo
        · have hqe : q = nx x (j + (1 + k)) := by omega
          subst hqe
          rw [Nat.sub_self] at hfo
          simp only [pwA, if_true, if_false, eq_self, nm_eq, reduceCtorEq, ↓reduceIte, Nat.reduceEqDiff, Nat.reduceLeDiff, Nat.reduceBEq, Nat.reduceAdd, Nat.reduceLT, Nat.reduceSub, Nat.reduceMul, Int.reduceEq, Int.reduceLT, Int.reduceLE, Int.reduceNeg, Int.reduceToNat, List.reduceReplicate, Int.ofNat_le, List.getElem?_drop, wrapS hlt (by omega : O.length - (j + 1) ≤ 4611686018427387904)]
          refine ⟨_, by omega, k + 1, y, by omega, rfl, rfl, rfl, hy, ?_⟩
          rw [show O.length - (j + 1) - (k + 1) = O.length - (j + 1) - k - 1 by omega]
          exact hfo
      · have hY : TT O (O.length - d) ((hdz x j).set j (at_ x j + 1)) := (hdz_tt hx fun t ht => s.pos ht).set h2 h1 ⟨by omega, by omega⟩
        have hfoY : fo (mu O P C d) (cvec C j) (nx x) (j + (1 + 0)) (O.length - (j + 1) - 0) ((hdz x j).set j (at_ x j + 1)) = tstep O P C (mu O P C d) x j := by
          rw [tstep, if_neg hneq, show O.length - 1 - j = O.length - (j + 1) - 0 by omega]
        clear p2 hat2 hz2
        generalize (hdz x j).set j (at_ x j + 1) = Y at hY hfoY ⊢
        refine vp_loop (fun m vs h' => ∃ (k : Nat) (y : List Int), k ≤ O.length - (j + 1) ∧ m = O.length - (j + 1) - k ∧ vs = [.ptr sp 0, .sl se 0 O.length cap, .int .i64 j, .fz true av (O.length - (j + 1)) (pis (x.drop (j + 1))), .int .i64 ((O.length - (j + 1) : Nat) : Int), .int .i64 k] ∧ h' = σ.set se (pis y) ∧ TT O (O.length - d) y ∧ fo (mu O P C d) (cvec C j) (nx x) (j + (1 + k)) (O.length - (j + 1) - k) y = tstep O P C (mu O P C d) x j) (O.length - (j + 1)) ?_ ?_
        · exact ⟨0, Y, by omega, by omega, rfl, rfl, hY, hfoY⟩
        rintro m vs h' ⟨k, y, hk1, rfl, rfl, rfl, hy, hfo⟩
        simp only [pwA, if_true, if_false, eq_self, nm_eq, reduceCtorEq, ↓reduceIte, Nat.reduceEqDiff, Nat.reduceLeDiff, Nat.reduceBEq, Nat.reduceAdd, Nat.reduceLT, Nat.reduceSub, Nat.reduceMul, Int.reduceEq, Int.reduceLT, Int.reduceLE, Int.reduceNeg, Int.reduceToNat, List.reduceReplicate, Int.ofNat_le, List.getElem?_drop]
        refine iteI (fun hlt => ?_) fun hge => ?_
        rotate_left
        · have hke : O.length - (j + 1) - k = 0 := by omega
          rw [hke] at hfo
          rw [← hfo] at hk
          exact hk
        have hjl : j + (1 + k) < O.length := by omega
        have hkd : k < (x.drop (j + 1)).length := by omega
        have hdat3 : at_ (x.drop (j + 1)) k = at_ x (j + (1 + k)) := by
          simp only [at_, List.getD_eq_getElem?_getD, List.getElem?_drop, show j + 1 + k = j + (1 + k) by omega]
        have pk := pisAt hkd
        rw [hdat3] at pk
        have bk := hx.bd (j + (1 + k)) hjl
        have bOk := s.pr _ hjl
        have hnx : ((nx x (j + (1 + k)) : Nat) : Int) = at_ x (j + (1 + k)) := Int.toNat_of_nonneg bk.1
        obtain ⟨w7, a7, hrk⟩ := hrs k (by omega)
        have hcv := s.cj j (j + (1 + k)) (by omega) hjl
        have hkr : k < O.length - 1 - j := by omega
        rw [show O.length - (j + 1) - k = (O.length - (j + 1) - k - 1) + 1 by omega] at hfo
        simp only [pwA, if_true, if_false, eq_self, nm_eq, reduceCtorEq, ↓reduceIte, Nat.reduceEqDiff, Nat.reduceLeDiff, Nat.reduceBEq, Nat.reduceAdd, Nat.reduceLT, Nat.reduceSub, Nat.reduceMul, Int.reduceEq, Int.reduceLT, Int.reduceLE, Int.reduceNeg, Int.reduceToNat, List.reduceReplicate, Int.ofNat_le, List.getElem?_drop, pk, hkd, hlt, List.getElem?_drop]
        refine vp_loop (fun m vs h' => ∃ (q : Nat) (y : List Int), q ≤ nx x (j + (1 + k)) ∧ m = nx x (j + (1 + k)) - q ∧ vs = [.ptr sp 0, .sl se 0 O.length cap, .int .i64 j, .int .i64 k, .fz true av (O.length - (j + 1)) (pis (x.drop (j + 1))), .int .i64 ((O.length - (j + 1) : Nat) : Int), .int .i64 k, .int .i64 (at_ x (j + (1 + k))), .int .i64 q] ∧ h' = σ.set se (pis y) ∧ TT O (O.length - d) y ∧ fo (mu O P C d) (cvec C j) (nx x) (j + (1 + k) + 1) (O.length - (j + 1) - k - 1) (rep (mu O P C d) (cvec C j (j + (1 + k))) (nx x (j + (1 + k)) - q) y) = tstep O P C (mu O P C d) x j) (nx x (j + (1 + k))) ?_ ?_
        · exact ⟨0, y, by omega, by omega, rfl, rfl, hy, hfo⟩
        rintro m vs h' ⟨q, y, hqn, rfl, rfl, rfl, hy, hfo⟩
        simp only [pwA, if_true, if_false, eq_self, nm_eq, reduceCtorEq, ↓reduceIte, Nat.reduceEqDiff, Nat.reduceLeDiff, Nat.reduceBEq, Nat.reduceAdd, Nat.reduceLT, Nat.reduceSub, Nat.reduceMul, Int.reduceEq, Int.reduceLT, Int.reduceLE, Int.reduceNeg, Int.reduceToNat, List.reduceReplicate, Int.ofNat_le, List.getElem?_drop]
        refine iteI (fun hlt2 => ?_) fun hge2 => ?_
        · have hlt3 : q < nx x (j + (1 + k)) := by omega
          simp only [pwA, if_true, if_false, eq_self, nm_eq, reduceCtorEq, ↓reduceIte, Nat.reduceEqDiff, Nat.reduceLeDiff, Nat.reduceBEq, Nat.reduceAdd, Nat.reduceLT, Nat.reduceSub, Nat.reduceMul, Int.reduceEq, Int.reduceLT, Int.reduceLE, Int.reduceNeg, Int.reduceToNat, List.reduceReplicate, Int.ofNat_le, List.getElem?_drop, hne, e2, hjC, hrb, hkr, hrk, List.getElem?_drop]
          refine timesVector_of s F (t := j + 1) (by omega) hTG (hs0.set hne (pis y)) hR0 (x := y) (by simp only [pwA, if_true, if_false, eq_self, nm_eq, reduceCtorEq, ↓reduceIte, Nat.reduceEqDiff, Nat.reduceLeDiff, Nat.reduceBEq, Nat.reduceAdd, Nat.reduceLT, Nat.reduceSub, Nat.reduceMul, Int.reduceEq, Int.reduceLT, Int.reduceLE, Int.reduceNeg, Int.reduceToNat, List.reduceReplicate, Int.ofNat_le, List.getElem?_drop]) hse hne hcap hy hcv (FI.mk hcv.len) ?_
          simp only [pwA, if_true, if_false, eq_self, nm_eq, reduceCtorEq, ↓reduceIte, Nat.reduceEqDiff, Nat.reduceLeDiff, Nat.reduceBEq, Nat.reduceAdd, Nat.reduceLT, Nat.reduceSub, Nat.reduceMul, Int.reduceEq, Int.reduceLT, Int.reduceLE, Int.reduceNeg, Int.reduceToNat, List.reduceReplicate, Int.ofNat_le, List.getElem?_drop, pset_set, wrapS hlt3 (by omega : nx x (j + (1 + k)) ≤ 4611686018427387904)]
          refine ⟨_, by omega, q + 1, _, by omega, rfl, rfl, rfl, M.cl hy (hcv.mono (by omega)), ?_⟩
          rw [show nx x (j + (1 + k)) - q = (nx x (j + (1 + k)) - (q + 1)) + 1 by omega] at hfo
          exact hfo
        · have hqe : q = nx x (j + (1 + k)) := by omega
          subst hqe
          rw [Nat.sub_self] at hfo
          simp only [pwA, if_true, if_false, eq_self, nm_eq, reduceCtorEq, ↓reduceIte, Nat.reduceEqDiff, Nat.reduceLeDiff, Nat.reduceBEq, Nat.reduceAdd, Nat.reduceLT, Nat.reduceSub, Nat.reduceMul, Int.reduceEq, Int.reduceLT, Int.reduceLE, Int.reduceNeg, Int.reduceToNat, List.reduceReplicate, Int.ofNat_le, List.getElem?_drop, wrapS hlt (by omega : O.length - (j + 1) ≤ 4611686018427387904)]
          refine ⟨_, by omega, k + 1, y, by omega, rfl, rfl, rfl, hy, ?_⟩
          rw [show O.length - (j + 1) - (k + 1) = O.length - (j + 1) - k - 1 by omega]
          exact hfo
theorem timesVector_ok (s : Shp O P C) (F : Full O P C d) {sp se : Nat} {cap : Cap} (hs : PtrG σ sp vO vP vC) (hR : IsPr vO vP vC O P C)
    (he : σ.obj se = some (pis x)) (hse : se < σ.next) (hne : sp ≠ se) (hcap : full 1 cap O.length) (hx : TT O (O.length - d) x) (hf : TT O (O.length - d) f) (hvf : FI vf f) (hk : K (.tup []) (σ.set se (pis (mu O P C d x f)))) : PCalls Try.prog 149 [.ptr sp 0, .sl se 0 O.length cap, vf] σ K :=
  timesVector_of s F (Nat.le_refl _) (fun j h1 h2 => timesGenerator_ok s F O.length h1 h2 (by omega)) hs hR he hse hne hcap hx hf hvf hk
end Go.Proofs
set_option linter.unusedSimpArgs false
set_option linter.unusedVariables false
namespace Go.Proofs
open Go.Ab Go.Lie Go.Grp
variable {σ : PHeap} {K : PV → PHeap → Prop} {O : List Int} {P : List (List Int)} {C : List (List (List Int))} {vO vP vC vx vf va vb : PV} {x y f a b : List Int} {rP rC : List PV} {d j sp : Nat}
theorem timesVector_nil {v : PV} {sp : Nat} (hf : f = []) (hvf : FI vf f) (hk : K (.tup []) σ) : PCalls Try.prog 149 [.ptr sp 0, v, vf] σ K := by
  obtain ⟨wf, af, rfl⟩ := hvf
  subst hf
  refine pcalls_of_vp mix Try.func149 cf149 rfl ?_
  dsimp only [if149, qI, eI, nI, qD, eD]
  simp only [pwA, if_true, if_false, eq_self, nm_eq, reduceCtorEq, ↓reduceIte, Nat.reduceEqDiff, Nat.reduceLeDiff, Nat.reduceBEq, Nat.reduceAdd, Nat.reduceLT, Nat.reduceSub, Nat.reduceMul, Int.reduceEq, Int.reduceLT, Int.reduceLE, Int.reduceNeg, Int.reduceToNat, List.reduceReplicate, Int.ofNat_le, List.getElem?_drop]
  refine vp_loop (fun m vs h' => m = 0 ∧ vs = [.ptr sp 0, v, .fz wf af ([] : List Int).length (pis []), .int .i64 (([] : List Int).length : Nat), .int .i64 (0 : Nat)] ∧ σ = h') 0 ⟨rfl, rfl, rfl⟩ ?_
  rintro m vs h' ⟨rfl, rfl, rfl⟩
  simp only [pwA, if_true, if_false, eq_self, nm_eq, reduceCtorEq, ↓reduceIte, Nat.reduceEqDiff, Nat.reduceLeDiff, Nat.reduceBEq, Nat.reduceAdd, Nat.reduceLT, Nat.reduceSub, Nat.reduceMul, Int.reduceEq, Int.reduceLT, Int.reduceLE, Int.reduceNeg, Int.reduceToNat, List.reduceReplicate, Int.ofNat_le, List.getElem?_drop]
  exact hk
theorem multiply_ok (s : Shp O P C) (F : Full O P C d) (hs : PtrG σ sp vO vP vC) (hR : IsPr vO vP vC O P C) (ha : TT O (O.length - d) a) (hb : TT O (O.length - d) b) (hva : FI va a) (hvb : FI vb b) (hk : ResI σ K (mu O P C d a b)) :
    PCalls Try.prog 150 [.ptr sp 0, va, vb] σ K := by
  have hn6 := s.le
  have hal := ha.len
  have hml := (F.gp.cl ha hb).len
  have hne : sp ≠ σ.next := Nat.ne_of_lt hs.lt
  obtain ⟨wa, aa, rfl⟩ := hva
  refine PCalls.gh ?_
  refine pcalls_of_vp mix Try.func150 cf150 rfl ?_
  dsimp only [if150, qI, eI, nI, qD, eD]
  simp only [pwA, if_true, if_false, eq_self, nm_eq, reduceCtorEq, ↓reduceIte, Nat.reduceEqDiff, Nat.reduceLeDiff, Nat.reduceBEq, Nat.reduceAdd, Nat.reduceLT, Nat.reduceSub, Nat.reduceMul, Int.reduceEq, Int.reduceLT, Int.reduceLE, Int.reduceNeg, Int.reduceToNat, List.reduceReplicate, Int.ofNat_le, List.getElem?_drop]
  refine Clone_ok rfl (by omega) ⟨fun h0 => ?_, fun cap hc => ?_⟩
  · have hb0 : b = [] := List.eq_nil_of_length_eq_zero (by rw [hb.len, ← hal, h0]; rfl)
    simp only [pwA, if_true, if_false, eq_self, nm_eq, reduceCtorEq, ↓reduceIte, Nat.reduceEqDiff, Nat.reduceLeDiff, Nat.reduceBEq, Nat.reduceAdd, Nat.reduceLT, Nat.reduceSub, Nat.reduceMul, Int.reduceEq, Int.reduceLT, Int.reduceLE, Int.reduceNeg, Int.reduceToNat, List.reduceReplicate, Int.ofNat_le, List.getElem?_drop]
    refine timesVector_nil hb0 hvb ?_
    simp only [pwA, if_true, if_false, eq_self, nm_eq, reduceCtorEq, ↓reduceIte, Nat.reduceEqDiff, Nat.reduceLeDiff, Nat.reduceBEq, Nat.reduceAdd, Nat.reduceLT, Nat.reduceSub, Nat.reduceMul, Int.reduceEq, Int.reduceLT, Int.reduceLE, Int.reduceNeg, Int.reduceToNat, List.reduceReplicate, Int.ofNat_le, List.getElem?_drop]
    exact Gh.fin0 (Keep.refl σ) trivial (hk.1 (List.eq_nil_of_length_eq_zero (by show (mu O P C d a b).length = 0; rw [hml, ← hal, h0]; rfl)))
  · rw [hal] at hc
    rw [hal]
    simp only [pwA, if_true, if_false, eq_self, nm_eq, reduceCtorEq, ↓reduceIte, Nat.reduceEqDiff, Nat.reduceLeDiff, Nat.reduceBEq, Nat.reduceAdd, Nat.reduceLT, Nat.reduceSub, Nat.reduceMul, Int.reduceEq, Int.reduceLT, Int.reduceLE, Int.reduceNeg, Int.reduceToNat, List.reduceReplicate, Int.ofNat_le, List.getElem?_drop]
    refine timesVector_ok s F (hs.new _) hR (x := a) (by simp only [pwA, if_true, if_false, eq_self, nm_eq, reduceCtorEq, ↓reduceIte, Nat.reduceEqDiff, Nat.reduceLeDiff, Nat.reduceBEq, Nat.reduceAdd, Nat.reduceLT, Nat.reduceSub, Nat.reduceMul, Int.reduceEq, Int.reduceLT, Int.reduceLE, Int.reduceNeg, Int.reduceToNat, List.reduceReplicate, Int.ofNat_le, List.getElem?_drop]) (by simp only [pwA, if_true, if_false, eq_self, nm_eq, reduceCtorEq, ↓reduceIte, Nat.reduceEqDiff, Nat.reduceLeDiff, Nat.reduceBEq, Nat.reduceAdd, Nat.reduceLT, Nat.reduceSub, Nat.reduceMul, Int.reduceEq, Int.reduceLT, Int.reduceLE, Int.reduceNeg, Int.reduceToNat, List.reduceReplicate, Int.ofNat_le, List.getElem?_drop]) hne hc ha hb hvb ?_
    simp only [pwA, if_true, if_false, eq_self, nm_eq, reduceCtorEq, ↓reduceIte, Nat.reduceEqDiff, Nat.reduceLeDiff, Nat.reduceBEq, Nat.reduceAdd, Nat.reduceLT, Nat.reduceSub, Nat.reduceMul, Int.reduceEq, Int.reduceLT, Int.reduceLE, Int.reduceNeg, Int.reduceToNat, List.reduceReplicate, Int.ofNat_le, List.getElem?_drop]
    rw [show O.length = (mu O P C d a b).length from hml.symm] at hc ⊢
    exact Gh.finS (keep_new σ _) (by simp only [pwA, if_true, if_false, eq_self, nm_eq, reduceCtorEq, ↓reduceIte, Nat.reduceEqDiff, Nat.reduceLeDiff, Nat.reduceBEq, Nat.reduceAdd, Nat.reduceLT, Nat.reduceSub, Nat.reduceMul, Int.reduceEq, Int.reduceLT, Int.reduceLE, Int.reduceNeg, Int.reduceToNat, List.reduceReplicate, Int.ofNat_le, List.getElem?_drop]) (Nat.le_refl _) (pis_bel _ _) (hk.2 cap hc)
theorem multiply_fz (s : Shp O P C) (F : Full O P C d) (hs : PtrG σ sp vO vP vC) (hR : IsPr vO vP vC O P C) (ha : TT O (O.length - d) a) (hb : TT O (O.length - d) b) (hva : FI va a) (hvb : FI vb b) (hk : ∀ v, FI v (mu O P C d a b) → K v σ) :
    PCalls Try.prog 150 [.ptr sp 0, va, vb] σ K := PCalls.fzI (fun K' => multiply_ok s F hs hR ha hb hva hvb) fun a => hk _ ⟨_, _, rfl⟩
theorem power_ok (s : Shp O P C) (F : Full O P C d) (hs : PtrG σ sp vO vP vC) (hR : IsPr vO vP vC O P C) (ha : TT O (O.length - d) a) (hva : FI va a) {k : Int} (hk0 : 0 ≤ k ∧ k ≤ 1000000) (hk : ResI σ K (pw (mu O P C d) (zv O) a k.toNat)) :
    PCalls Try.prog 143 [.ptr sp 0, va, .int .i64 k] σ K := by
  have hn6 := s.le
  have hal := ha.len
  have M := F.gp.toMon
  have hne : sp ≠ σ.next := Nat.ne_of_lt hs.lt
  have hva0 := hva
  obtain ⟨wa, aa, rfl⟩ := hva
  rw [hal] at hva0 ⊢
  refine PCalls.gh ?_
  refine pcalls_of_vp mix Try.func143 cf143 rfl ?_
  dsimp only [if143, qI, eI, nI, qD, eD]
  simp only [pwA, if_true, if_false, eq_self, nm_eq, reduceCtorEq, ↓reduceIte, Nat.reduceEqDiff, Nat.reduceLeDiff, Nat.reduceBEq, Nat.reduceAdd, Nat.reduceLT, Nat.reduceSub, Nat.reduceMul, Int.reduceEq, Int.reduceLT, Int.reduceLE, Int.reduceNeg, Int.reduceToNat, List.reduceReplicate, Int.ofNat_le, List.getElem?_drop, List.length_replicate, pis_rep, mk8 (n := O.length) (by omega), mkL (n := O.length) (by omega)]
  refine vp_loop (fun m vs h' => ∃ q : Nat, q ≤ k.toNat ∧ m = k.toNat - q ∧ vs = [.ptr sp 0, .fz wa aa O.length (pis a), .sl σ.next 0 O.length (.known O.length), .int .i64 k, .int .i64 q] ∧ h' = σ.new (pis (pw (mu O P C d) (zv O) a q))) k.toNat ?_ ?_
  · exact ⟨0, by omega, by omega, rfl, rfl⟩
  rintro m vs h' ⟨q, hq, rfl, rfl, rfl⟩
  simp only [pwA, if_true, if_false, eq_self, nm_eq, reduceCtorEq, ↓reduceIte, Nat.reduceEqDiff, Nat.reduceLeDiff, Nat.reduceBEq, Nat.reduceAdd, Nat.reduceLT, Nat.reduceSub, Nat.reduceMul, Int.reduceEq, Int.reduceLT, Int.reduceLE, Int.reduceNeg, Int.reduceToNat, List.reduceReplicate, Int.ofNat_le, List.getElem?_drop]
  refine iteI (fun hlt => ?_) fun hge => ?_
  · have hlt3 : q < k.toNat := by omega
    have hp := M.pw ha q
    refine timesVector_ok s F (hs.new _) hR (x := pw (mu O P C d) (zv O) a q) (by simp only [pwA, if_true, if_false, eq_self, nm_eq, reduceCtorEq, ↓reduceIte, Nat.reduceEqDiff, Nat.reduceLeDiff, Nat.reduceBEq, Nat.reduceAdd, Nat.reduceLT, Nat.reduceSub, Nat.reduceMul, Int.reduceEq, Int.reduceLT, Int.reduceLE, Int.reduceNeg, Int.reduceToNat, List.reduceReplicate, Int.ofNat_le, List.getElem?_drop]) (by simp only [pwA, if_true, if_false, eq_self, nm_eq, reduceCtorEq, ↓reduceIte, Nat.reduceEqDiff, Nat.reduceLeDiff, Nat.reduceBEq, Nat.reduceAdd, Nat.reduceLT, Nat.reduceSub, Nat.reduceMul, Int.reduceEq, Int.reduceLT, Int.reduceLE, Int.reduceNeg, Int.reduceToNat, List.reduceReplicate, Int.ofNat_le, List.getElem?_drop]) hne (.inr rfl) hp ha hva0 ?_
    simp only [pwA, if_true, if_false, eq_self, nm_eq, reduceCtorEq, ↓reduceIte, Nat.reduceEqDiff, Nat.reduceLeDiff, Nat.reduceBEq, Nat.reduceAdd, Nat.reduceLT, Nat.reduceSub, Nat.reduceMul, Int.reduceEq, Int.reduceLT, Int.reduceLE, Int.reduceNeg, Int.reduceToNat, List.reduceReplicate, Int.ofNat_le, List.getElem?_drop, wrapS hlt3 (by omega : k.toNat ≤ 4611686018427387904)]
    exact ⟨_, by omega, q + 1, by omega, rfl, rfl, rfl⟩
  · have hqe : q = k.toNat := by omega
    subst hqe
    have hml := (M.pw ha k.toNat).len
    have hc : full 1 (.known O.length) (pw (mu O P C d) (zv O) a k.toNat).length := .inr (by rw [hml])
    refine Gh.finS (keep_new σ _) (by simp only [pwA, if_true, if_false, eq_self, nm_eq, reduceCtorEq, ↓reduceIte, Nat.reduceEqDiff, Nat.reduceLeDiff, Nat.reduceBEq, Nat.reduceAdd, Nat.reduceLT, Nat.reduceSub, Nat.reduceMul, Int.reduceEq, Int.reduceLT, Int.reduceLE, Int.reduceNeg, Int.reduceToNat, List.reduceReplicate, Int.ofNat_le, List.getElem?_drop]; rfl) (Nat.le_refl _) (pis_bel _ _) ?_
    have := hk.2 _ hc
    rwa [hml] at this
theorem power_fz (s : Shp O P C) (F : Full O P C d) (hs : PtrG σ sp vO vP vC) (hR : IsPr vO vP vC O P C) (ha : TT O (O.length - d) a) (hva : FI va a) {k : Int} (hk0 : 0 ≤ k ∧ k ≤ 1000000) (hk : ∀ v, FI v (pw (mu O P C d) (zv O) a k.toNat) → K v σ) :
    PCalls Try.prog 143 [.ptr sp 0, va, .int .i64 k] σ K := PCalls.fzI (fun K' => power_ok s F hs hR ha hva hk0) fun a => hk _ ⟨_, _, rfl⟩
/-- A vector of a tail times its first generator. -/
theorem mu_step (s : Shp O P C) {i : Nat} (hd : O.length - d ≤ i) (hle : d ≤ O.length) (hi : i < O.length) (hx : TT O i x) : TT O i (mu O P C d x (Grp.unit O i)) ∧ at_ (mu O P C d x (Grp.unit O i)) i = if at_ x i + 1 = at_ O i then 0 else at_ x i + 1 := by
  have hu : TT O i (Grp.unit O i) := s.unit hi (Nat.le_refl _)
  obtain ⟨e, he⟩ : ∃ e, O.length - i = e + 1 := ⟨O.length - i - 1, by omega⟩
  have hie : O.length - (e + 1) = i := by omega
  have e1 : mu O P C d x (Grp.unit O i) = mu O P C (e + 1) x (Grp.unit O i) := by
    have := mu_sub s (d := e + 1) (k := d - (e + 1)) (u := x) (v := Grp.unit O i) (by omega) (by rw [hie]; exact hx) (by rw [hie]; exact hu)
    rwa [show e + 1 + (d - (e + 1)) = d by omega] at this
  have h1 := mu_tt s (d := e + 1) (a := x) (b := Grp.unit O i) (by omega) (by rw [hie]; exact hx) (by rw [hie]; exact hu)
  rw [hie] at h1
  rw [e1]
  refine ⟨h1, ?_⟩
  have bx := hx.bd i hi
  have bO := s.pr i hi
  have hat : at_ (Grp.unit O i) i = 1 := by rw [at_set (by simp; exact hi), if_pos rfl]
  have hpos := s.pos hi
  have hm : ∀ a b, TT O (i + 1) a → TT O (i + 1) b → TT O (i + 1) (mu O P C e a b) := fun a b ha hb => by
    have := mu_tt s (d := e) (a := a) (b := b) (by omega) (by rwa [show O.length - e = i + 1 by omega]) (by rwa [show O.length - e = i + 1 by omega])
    rwa [show O.length - e = i + 1 by omega] at this
  have ir := hm _ _ (iter_in (fun x _ => img_tt s hm x) (nx (Grp.unit O i) i) (hx.set0 hi hpos)) (hu.set0 hi hpos)
  simp only [mu, hie]
  rw [hat]
  split
  · have ir2 := hm _ _ (s.pw i hi) ir
    rw [at_set (by rw [ir2.len]; exact hi), if_pos rfl]
    split <;> omega
  · rw [at_set (by rw [ir.len]; exact hi), if_pos rfl, if_neg (by omega)]
end Go.Proofs
set_option linter.unusedSimpArgs false
set_option linter.unusedVariables false
namespace Go.Proofs
open Go.Ab Go.Lie Go.Grp
variable {σ : PHeap} {K : PV → PHeap → Prop} {O : List Int} {P : List (List Int)} {C : List (List (List Int))} {vO vP vC vx vf va vb : PV} {x y f a b : List Int} {rP rC : List PV} {d j sp : Nat}
/-- A slot or nothing. -/
theorem invert_ok (s : Shp O P C) (F : Full O P C d) (hs : PtrG σ sp vO vP vC) (hR : IsPr vO vP vC O P C) (ha : TT O (O.length - d) a) (hva : FI va a) (hk : ∀ z, TT O (O.length - d) z → mu O P C d a z = zv O → ResI σ K z) :
    PCalls Try.prog 151 [.ptr sp 0, va] σ K := by
  have hn6 := s.le
  have hle := F.le
  have hal := ha.len
  have M := F.gp.toMon
  have hne : sp ≠ σ.next := Nat.ne_of_lt hs.lt
  have hne2 : sp ≠ σ.next + 1 := by have := hs.lt; omega
  obtain ⟨wa, aa, rfl⟩ := hva
  refine PCalls.gh ?_
  refine pcalls_of_vp mix Try.func151 cf151 rfl ?_
  dsimp only [if151, qI, eI, nI, qD, eD]
  simp only [pwA, if_true, if_false, eq_self, nm_eq, reduceCtorEq, ↓reduceIte, Nat.reduceEqDiff, Nat.reduceLeDiff, Nat.reduceBEq, Nat.reduceAdd, Nat.reduceLT, Nat.reduceSub, Nat.reduceMul, Int.reduceEq, Int.reduceLT, Int.reduceLE, Int.reduceNeg, Int.reduceToNat, List.reduceReplicate, Int.ofNat_le, List.getElem?_drop]
  refine Clone_ok rfl (by omega) ⟨fun h0 => ?_, fun cap hc => ?_⟩
  · have hO0 : O = [] := List.eq_nil_of_length_eq_zero (by rw [← hal, h0]; rfl)
    subst hO0
    subst h0
    simp only [pwA, if_true, if_false, eq_self, nm_eq, reduceCtorEq, ↓reduceIte, Nat.reduceEqDiff, Nat.reduceLeDiff, Nat.reduceBEq, Nat.reduceAdd, Nat.reduceLT, Nat.reduceSub, Nat.reduceMul, Int.reduceEq, Int.reduceLT, Int.reduceLE, Int.reduceNeg, Int.reduceToNat, List.reduceReplicate, Int.ofNat_le, List.getElem?_drop, mk8 (n := 0) (by omega), mkL (n := 0) (by omega)]
    refine vp_loop (fun m vs h' => m = 0 ∧ vs = [.ptr sp 0, .fz true .nils 0 [], .sl σ.next 0 0 (.known 0), .int .i64 (0 : Nat), .int .i64 (0 : Nat)] ∧ h' = σ.new []) 0 ⟨rfl, rfl, rfl⟩ ?_
    rintro m vs h' ⟨rfl, rfl, rfl⟩
    simp only [pwA, if_true, if_false, eq_self, nm_eq, reduceCtorEq, ↓reduceIte, Nat.reduceEqDiff, Nat.reduceLeDiff, Nat.reduceBEq, Nat.reduceAdd, Nat.reduceLT, Nat.reduceSub, Nat.reduceMul, Int.reduceEq, Int.reduceLT, Int.reduceLE, Int.reduceNeg, Int.reduceToNat, List.reduceReplicate, Int.ofNat_le, List.getElem?_drop]
    have hd0 : d = 0 := by simpa using hle
    exact Gh.finS (cs := pis []) (keep_new σ _) (by simp only [pwA, if_true, if_false, eq_self, nm_eq, reduceCtorEq, ↓reduceIte, Nat.reduceEqDiff, Nat.reduceLeDiff, Nat.reduceBEq, Nat.reduceAdd, Nat.reduceLT, Nat.reduceSub, Nat.reduceMul, Int.reduceEq, Int.reduceLT, Int.reduceLE, Int.reduceNeg, Int.reduceToNat, List.reduceReplicate, Int.ofNat_le, List.getElem?_drop]; rfl) (Nat.le_refl _) (pis_bel _ _) ((hk [] (s.zv _) (by subst hd0; rfl)).2 _ (.inr rfl))
  rw [hal] at hc
  rw [hal]
  simp only [pwA, if_true, if_false, eq_self, nm_eq, reduceCtorEq, ↓reduceIte, Nat.reduceEqDiff, Nat.reduceLeDiff, Nat.reduceBEq, Nat.reduceAdd, Nat.reduceLT, Nat.reduceSub, Nat.reduceMul, Int.reduceEq, Int.reduceLT, Int.reduceLE, Int.reduceNeg, Int.reduceToNat, List.reduceReplicate, Int.ofNat_le, List.getElem?_drop, List.length_replicate, pis_rep, mk8 (n := O.length) (by omega), mkL (n := O.length) (by omega)]
  refine vp_loop (fun m vs h' => ∃ (i : Nat) (r z : List Int), i ≤ O.length ∧ m = O.length - i ∧ vs = [.ptr sp 0, .sl σ.next 0 O.length cap, .sl (σ.next + 1) 0 O.length (.known O.length), .int .i64 O.length, .int .i64 i] ∧ h' = (σ.new (pis r)).new (pis z) ∧ TT O (O.length - d) r ∧ TT O i r ∧ TT O (O.length - d) z ∧ mu O P C d a z = r) O.length ?_ ?_
  · exact ⟨0, a, zv O, by omega, by omega, rfl, rfl, ha, ha.mono (Nat.zero_le _), s.zv _, M.r1 ha⟩
  rintro m vs h' ⟨i, r, z, hi, rfl, rfl, rfl, hr, hri, hz, hinv⟩
  simp only [pwA, if_true, if_false, eq_self, nm_eq, reduceCtorEq, ↓reduceIte, Nat.reduceEqDiff, Nat.reduceLeDiff, Nat.reduceBEq, Nat.reduceAdd, Nat.reduceLT, Nat.reduceSub, Nat.reduceMul, Int.reduceEq, Int.reduceLT, Int.reduceLE, Int.reduceNeg, Int.reduceToNat, List.reduceReplicate, Int.ofNat_le, List.getElem?_drop]
  refine iteI (fun hlt => ?_) fun hge => ?_
  rotate_left
  · have hie : i = O.length := by omega
    subst hie
    have hr0 : r = zv O := hri.ext (s.zv _) fun j h1 h2 => by omega
    rw [hr0] at hinv
    have hzl := hz.len
    have := (hk z hz hinv).2 (.known O.length) (.inr (by rw [hzl]))
    rw [hzl] at this
    exact Gh.finS (s := σ.next + 1) ((keep_new σ _).new _) (by simp only [pwA, if_true, if_false, eq_self, nm_eq, reduceCtorEq, ↓reduceIte, Nat.reduceEqDiff, Nat.reduceLeDiff, Nat.reduceBEq, Nat.reduceAdd, Nat.reduceLT, Nat.reduceSub, Nat.reduceMul, Int.reduceEq, Int.reduceLT, Int.reduceLE, Int.reduceNeg, Int.reduceToNat, List.reduceReplicate, Int.ofNat_le, List.getElem?_drop]) (by omega) (pis_bel _ _) this
  simp only [pwA, if_true, if_false, eq_self, nm_eq, reduceCtorEq, ↓reduceIte, Nat.reduceEqDiff, Nat.reduceLeDiff, Nat.reduceBEq, Nat.reduceAdd, Nat.reduceLT, Nat.reduceSub, Nat.reduceMul, Int.reduceEq, Int.reduceLT, Int.reduceLE, Int.reduceNeg, Int.reduceToNat, List.reduceReplicate, Int.ofNat_le, List.getElem?_drop]
  have bO := s.pr i hlt
  refine vp_loop (fun m vs h' => ∃ (r z : List Int), m = ((at_ O i - at_ r i) % at_ O i).toNat ∧ vs = [.ptr sp 0, .sl σ.next 0 O.length cap, .sl (σ.next + 1) 0 O.length (.known O.length), .int .i64 i, .int .i64 O.length, .int .i64 i] ∧ h' = (σ.new (pis r)).new (pis z) ∧ TT O (O.length - d) r ∧ TT O i r ∧ TT O (O.length - d) z ∧ mu O P C d a z = r) _ ⟨r, z, rfl, rfl, rfl, hr, hri, hz, hinv⟩ ?_
  rintro m vs h' ⟨r, z, rfl, rfl, rfl, hr, hri, hz, hinv⟩
  have hrl : i < r.length := by rw [hr.len]; exact hlt
  have br := hr.bd i hlt
  simp only [pwA, if_true, if_false, eq_self, nm_eq, reduceCtorEq, ↓reduceIte, Nat.reduceEqDiff, Nat.reduceLeDiff, Nat.reduceBEq, Nat.reduceAdd, Nat.reduceLT, Nat.reduceSub, Nat.reduceMul, Int.reduceEq, Int.reduceLT, Int.reduceLE, Int.reduceNeg, Int.reduceToNat, List.reduceReplicate, Int.ofNat_le, List.getElem?_drop, hlt, pisAt hrl]
  refine iteI (fun heq => ?_) fun hneq => ?_
  · simp only [pwA, if_true, if_false, eq_self, nm_eq, reduceCtorEq, ↓reduceIte, Nat.reduceEqDiff, Nat.reduceLeDiff, Nat.reduceBEq, Nat.reduceAdd, Nat.reduceLT, Nat.reduceSub, Nat.reduceMul, Int.reduceEq, Int.reduceLT, Int.reduceLE, Int.reduceNeg, Int.reduceToNat, List.reduceReplicate, Int.ofNat_le, List.getElem?_drop, wrapS hlt (by omega : O.length ≤ 4611686018427387904)]
    refine ⟨_, by omega, i + 1, r, z, by omega, rfl, rfl, rfl, hr, ?_, hz, hinv⟩
    refine ⟨hri.len, hri.bd, fun t ht => ?_⟩
    by_cases e : t = i
    · subst e; exact heq
    · exact hri.zero t (by omega)
  · have hdi : O.length - d ≤ i := by
      rcases Nat.lt_or_ge i (O.length - d) with h | h
      · exact absurd (hr.zero i h) hneq
      · exact h
    have hu : TT O (O.length - d) (Grp.unit O i) := s.unit hlt hdi
    obtain ⟨m1, m2⟩ := mu_step s hdi hle hlt hri
    refine timesGenerator_ok s F O.length hdi hlt (by omega) _ _ sp σ.next cap r vO vP vC ((hs.new _).new _) hR (by simp only [pwA, if_true, if_false, eq_self, nm_eq, reduceCtorEq, ↓reduceIte, Nat.reduceEqDiff, Nat.reduceLeDiff, Nat.reduceBEq, Nat.reduceAdd, Nat.reduceLT, Nat.reduceSub, Nat.reduceMul, Int.reduceEq, Int.reduceLT, Int.reduceLE, Int.reduceNeg, Int.reduceToNat, List.reduceReplicate, Int.ofNat_le, List.getElem?_drop]) (by simp only [pwA, if_true, if_false, eq_self, nm_eq, reduceCtorEq, ↓reduceIte, Nat.reduceEqDiff, Nat.reduceLeDiff, Nat.reduceBEq, Nat.reduceAdd, Nat.reduceLT, Nat.reduceSub, Nat.reduceMul, Int.reduceEq, Int.reduceLT, Int.reduceLE, Int.reduceNeg, Int.reduceToNat, List.reduceReplicate, Int.ofNat_le, List.getElem?_drop]; omega) hne hc hr ?_
    simp only [pwA, if_true, if_false, eq_self, nm_eq, reduceCtorEq, ↓reduceIte, Nat.reduceEqDiff, Nat.reduceLeDiff, Nat.reduceBEq, Nat.reduceAdd, Nat.reduceLT, Nat.reduceSub, Nat.reduceMul, Int.reduceEq, Int.reduceLT, Int.reduceLE, Int.reduceNeg, Int.reduceToNat, List.reduceReplicate, Int.ofNat_le, List.getElem?_drop]
    refine timesGenerator_ok s F O.length hdi hlt (by omega) _ _ sp (σ.next + 1) (.known O.length) z vO vP vC ((hs.new _).new _) hR (by simp only [pwA, if_true, if_false, eq_self, nm_eq, reduceCtorEq, ↓reduceIte, Nat.reduceEqDiff, Nat.reduceLeDiff, Nat.reduceBEq, Nat.reduceAdd, Nat.reduceLT, Nat.reduceSub, Nat.reduceMul, Int.reduceEq, Int.reduceLT, Int.reduceLE, Int.reduceNeg, Int.reduceToNat, List.reduceReplicate, Int.ofNat_le, List.getElem?_drop]) (by simp only [pwA, if_true, if_false, eq_self, nm_eq, reduceCtorEq, ↓reduceIte, Nat.reduceEqDiff, Nat.reduceLeDiff, Nat.reduceBEq, Nat.reduceAdd, Nat.reduceLT, Nat.reduceSub, Nat.reduceMul, Int.reduceEq, Int.reduceLT, Int.reduceLE, Int.reduceNeg, Int.reduceToNat, List.reduceReplicate, Int.ofNat_le, List.getElem?_drop]) hne2 (.inr rfl) hz ?_
    simp only [pwA, if_true, if_false, eq_self, nm_eq, reduceCtorEq, ↓reduceIte, Nat.reduceEqDiff, Nat.reduceLeDiff, Nat.reduceBEq, Nat.reduceAdd, Nat.reduceLT, Nat.reduceSub, Nat.reduceMul, Int.reduceEq, Int.reduceLT, Int.reduceLE, Int.reduceNeg, Int.reduceToNat, List.reduceReplicate, Int.ofNat_le, List.getElem?_drop]
    refine ⟨_, ?_, _, _, rfl, rfl, M.cl hr hu, m1, M.cl hz hu, by rw [← M.as ha hz hu, hinv]⟩
    rw [m2]
    split
    · rename_i e
      rw [Int.sub_zero, Int.emod_self]
      have : (at_ O i - at_ r i) % at_ O i = at_ O i - at_ r i := Int.emod_eq_of_lt (by omega) (by omega)
      omega
    · rename_i e
      have h1 : (at_ O i - at_ r i) % at_ O i = at_ O i - at_ r i := Int.emod_eq_of_lt (by omega) (by omega)
      have h2 : (at_ O i - (at_ r i + 1)) % at_ O i = at_ O i - (at_ r i + 1) := Int.emod_eq_of_lt (by omega) (by omega)
      omega
theorem invert_fz (s : Shp O P C) (F : Full O P C d) (hs : PtrG σ sp vO vP vC) (hR : IsPr vO vP vC O P C) (ha : TT O (O.length - d) a) (hva : FI va a) (hk : ∀ v z, TT O (O.length - d) z → mu O P C d a z = zv O → FI v z → K v σ) :
    PCalls Try.prog 151 [.ptr sp 0, va] σ K :=
  PCalls.gh (invert_ok s F hs hR ha hva fun z h1 h2 => ⟨fun h0 => Gh.fin0 (Keep.refl σ) trivial (hk _ z h1 h2 ⟨true, .nils, by rw [h0]; rfl⟩), fun cap hc => Gh.finF (keep_new σ _) (by simp only [pwA, if_true, if_false, eq_self, nm_eq, reduceCtorEq, ↓reduceIte, Nat.reduceEqDiff, Nat.reduceLeDiff, Nat.reduceBEq, Nat.reduceAdd, Nat.reduceLT, Nat.reduceSub, Nat.reduceMul, Int.reduceEq, Int.reduceLT, Int.reduceLE, Int.reduceNeg, Int.reduceToNat, List.reduceReplicate, Int.ofNat_le, List.getElem?_drop]) (Nat.le_refl _) (pis_bel _ _) hc.ok fun o => hk _ z h1 h2 ⟨true, .sl o 0 z.length cap, rfl⟩⟩)
theorem conjugate_ok (s : Shp O P C) (F : Full O P C d) (hs : PtrG σ sp vO vP vC) (hR : IsPr vO vP vC O P C) (ha : TT O (O.length - d) a) (hb : TT O (O.length - d) b) (hva : FI va a) (hvb : FI vb b) (hk : ∀ z, TT O (O.length - d) z → mu O P C d b z = mu O P C d a b → ResI σ K z) :
    PCalls Try.prog 145 [.ptr sp 0, va, vb] σ K := by
  have M := F.gp.toMon
  refine PCalls.gh ?_
  refine pcalls_of_vp mix Try.func145 cf145 rfl ?_
  dsimp only [if145, qI, eI, nI, qD, eD]
  simp only [pwA, if_true, if_false, eq_self, nm_eq, reduceCtorEq, ↓reduceIte, Nat.reduceEqDiff, Nat.reduceLeDiff, Nat.reduceBEq, Nat.reduceAdd, Nat.reduceLT, Nat.reduceSub, Nat.reduceMul, Int.reduceEq, Int.reduceLT, Int.reduceLE, Int.reduceNeg, Int.reduceToNat, List.reduceReplicate, Int.ofNat_le, List.getElem?_drop]
  refine invert_fz s F hs hR hb hvb fun v1 z1 h1 h2 f1 => ?_
  simp only [pwA, if_true, if_false, eq_self, nm_eq, reduceCtorEq, ↓reduceIte, Nat.reduceEqDiff, Nat.reduceLeDiff, Nat.reduceBEq, Nat.reduceAdd, Nat.reduceLT, Nat.reduceSub, Nat.reduceMul, Int.reduceEq, Int.reduceLT, Int.reduceLE, Int.reduceNeg, Int.reduceToNat, List.reduceReplicate, Int.ofNat_le, List.getElem?_drop]
  refine multiply_fz s F hs hR ha hb hva hvb fun v2 f2 => ?_
  simp only [pwA, if_true, if_false, eq_self, nm_eq, reduceCtorEq, ↓reduceIte, Nat.reduceEqDiff, Nat.reduceLeDiff, Nat.reduceBEq, Nat.reduceAdd, Nat.reduceLT, Nat.reduceSub, Nat.reduceMul, Int.reduceEq, Int.reduceLT, Int.reduceLE, Int.reduceNeg, Int.reduceToNat, List.reduceReplicate, Int.ofNat_le, List.getElem?_drop]
  have hab := M.cl ha hb
  have hz := M.cl h1 hab
  have hr := hk _ hz (by rw [← M.as hb h1 hab, h2, M.l1 hab])
  refine multiply_ok s F hs hR h1 hab f1 f2 ⟨fun h0 => ?_, fun cap hc => ?_⟩
  · simp only [pwA, if_true, if_false, eq_self, nm_eq, reduceCtorEq, ↓reduceIte, Nat.reduceEqDiff, Nat.reduceLeDiff, Nat.reduceBEq, Nat.reduceAdd, Nat.reduceLT, Nat.reduceSub, Nat.reduceMul, Int.reduceEq, Int.reduceLT, Int.reduceLE, Int.reduceNeg, Int.reduceToNat, List.reduceReplicate, Int.ofNat_le, List.getElem?_drop]
    exact Gh.ret (hr.1 h0)
  · simp only [pwA, if_true, if_false, eq_self, nm_eq, reduceCtorEq, ↓reduceIte, Nat.reduceEqDiff, Nat.reduceLeDiff, Nat.reduceBEq, Nat.reduceAdd, Nat.reduceLT, Nat.reduceSub, Nat.reduceMul, Int.reduceEq, Int.reduceLT, Int.reduceLE, Int.reduceNeg, Int.reduceToNat, List.reduceReplicate, Int.ofNat_le, List.getElem?_drop]
    exact Gh.ret (hr.2 cap hc)
theorem conjugate_fz (s : Shp O P C) (F : Full O P C d) (hs : PtrG σ sp vO vP vC) (hR : IsPr vO vP vC O P C) (ha : TT O (O.length - d) a) (hb : TT O (O.length - d) b) (hva : FI va a) (hvb : FI vb b) (hk : ∀ v z, TT O (O.length - d) z → mu O P C d b z = mu O P C d a b → FI v z → K v σ) :
    PCalls Try.prog 145 [.ptr sp 0, va, vb] σ K :=
  PCalls.gh (conjugate_ok s F hs hR ha hb hva hvb fun z h1 h2 => ⟨fun h0 => Gh.fin0 (Keep.refl σ) trivial (hk _ z h1 h2 ⟨true, .nils, by rw [h0]; rfl⟩), fun cap hc => Gh.finF (keep_new σ _) (by simp only [pwA, if_true, if_false, eq_self, nm_eq, reduceCtorEq, ↓reduceIte, Nat.reduceEqDiff, Nat.reduceLeDiff, Nat.reduceBEq, Nat.reduceAdd, Nat.reduceLT, Nat.reduceSub, Nat.reduceMul, Int.reduceEq, Int.reduceLT, Int.reduceLE, Int.reduceNeg, Int.reduceToNat, List.reduceReplicate, Int.ofNat_le, List.getElem?_drop]) (Nat.le_refl _) (pis_bel _ _) hc.ok fun o => hk _ z h1 h2 ⟨true, .sl o 0 z.length cap, rfl⟩⟩)
theorem imageBy_fz (s : Shp O P C) (F : Full O P C d) {i : Nat} (hi : O.length = d + (i + 1)) (hs : PtrG σ sp vO vP vC) (hR : IsPr vO vP vC O P C) (hx : TT O 0 x) (hvx : FI vx x) (hk : ∀ v, FI v (Grp.img O C (mu O P C d) i x) → K v σ) :
    PCalls Try.prog 144 [.ptr sp 0, .int .i64 i, vx] σ K := by
  have hn6 := s.le
  have hxl := hx.len
  have hil : i < O.length := by omega
  have M := F.gp.toMon
  have hne : sp ≠ σ.next := Nat.ne_of_lt hs.lt
  have hR0 := hR
  have hs0 := hs
  have edi : O.length - d = i + 1 := by omega
  obtain ⟨⟨w0, a0, rfl⟩, ⟨w1, a1, rP, rfl, hP⟩, ⟨w3, a3, rC, rfl, hC⟩⟩ := hR
  obtain ⟨w5, a5, rs, hrb, hrs⟩ := cvRow s hC hil
  have hiC : i < C.length := by rw [s.cl]; exact hil
  have e2 : σ.rd1 sp 2 = some (.fz w3 a3 C.length rC) := by rw [obj_rd1 hs.obj]; rfl
  have wi1 : IntKind.i64.wrap ((i : Int) + 1) = ((i + 1 : Nat) : Int) := wrapS hil (by omega)
  obtain ⟨wx, ax, rfl⟩ := hvx
  rw [hxl]
  have hlr : O.length - 1 - i = d := by omega
  rw [hlr] at hrb hrs
  refine PCalls.gh ?_
  refine pcalls_of_vp mix Try.func144 cf144 rfl ?_
  dsimp only [if144, qI, eI, nI, qD, eD]
  simp only [pwA, if_true, if_false, eq_self, nm_eq, reduceCtorEq, ↓reduceIte, Nat.reduceEqDiff, Nat.reduceLeDiff, Nat.reduceBEq, Nat.reduceAdd, Nat.reduceLT, Nat.reduceSub, Nat.reduceMul, Int.reduceEq, Int.reduceLT, Int.reduceLE, Int.reduceNeg, Int.reduceToNat, List.reduceReplicate, Int.ofNat_le, List.getElem?_drop, List.length_replicate, pis_rep, mk8 (n := O.length) (by omega), mkL (n := O.length) (by omega), e2, hne, hiC, hrb, List.getElem?_drop]
  refine vp_loop (fun m vs h' => ∃ (k : Nat) (y : List Int), k ≤ d ∧ m = d - k ∧ vs = [.ptr sp 0, .int .i64 i, .fz wx ax O.length (pis x), .sl σ.next 0 O.length (.known O.length), .fz w5 a5 d rs, .int .i64 d, .int .i64 k] ∧ h' = σ.new (pis y) ∧ TT O (i + 1) y ∧ fo (mu O P C d) (cvec C i) (nx x) (i + (1 + k)) (d - k) y = Grp.img O C (mu O P C d) i x) d ?_ ?_
  · exact ⟨0, zv O, by omega, by omega, rfl, rfl, s.zv _, by rw [Grp.img, hlr]; rfl⟩
  rintro m vs h' ⟨k, y, hkd, rfl, rfl, rfl, hy, hfo⟩
  simp only [pwA, if_true, if_false, eq_self, nm_eq, reduceCtorEq, ↓reduceIte, Nat.reduceEqDiff, Nat.reduceLeDiff, Nat.reduceBEq, Nat.reduceAdd, Nat.reduceLT, Nat.reduceSub, Nat.reduceMul, Int.reduceEq, Int.reduceLT, Int.reduceLE, Int.reduceNeg, Int.reduceToNat, List.reduceReplicate, Int.ofNat_le, List.getElem?_drop]
  refine iteI (fun hlt => ?_) fun hge => ?_
  rotate_left
  · have hke : d - k = 0 := by omega
    rw [hke] at hfo
    rw [← hfo] at hk
    exact Gh.finF (keep_new σ _) (by simp only [pwA, if_true, if_false, eq_self, nm_eq, reduceCtorEq, ↓reduceIte, Nat.reduceEqDiff, Nat.reduceLeDiff, Nat.reduceBEq, Nat.reduceAdd, Nat.reduceLT, Nat.reduceSub, Nat.reduceMul, Int.reduceEq, Int.reduceLT, Int.reduceLE, Int.reduceNeg, Int.reduceToNat, List.reduceReplicate, Int.ofNat_le, List.getElem?_drop]; rfl) (Nat.le_refl _) (pis_bel _ _) (by simp [capOK]) fun o => hk _ (FI.mk hy.len)
  have hjl : i + (1 + k) < O.length := by omega
  have hjx : i + (1 + k) < x.length := by omega
  have bk := hx.bd (i + (1 + k)) hjl
  have bOk := s.pr _ hjl
  have hnx : ((nx x (i + (1 + k)) : Nat) : Int) = at_ x (i + (1 + k)) := Int.toNat_of_nonneg bk.1
  obtain ⟨w7, a7, hrk⟩ := hrs k hlt
  have hcv := s.cj i (i + (1 + k)) (by omega) hjl
  have e3 : IntKind.i64.wrap (((i + 1 : Nat) : Int) + (k : Int)) = ((i + (1 + k) : Nat) : Int) := by rw [wrap64 (by omega) (by omega)]; omega
  rw [show d - k = (d - k - 1) + 1 by omega] at hfo
  simp only [pwA, if_true, if_false, eq_self, nm_eq, reduceCtorEq, ↓reduceIte, Nat.reduceEqDiff, Nat.reduceLeDiff, Nat.reduceBEq, Nat.reduceAdd, Nat.reduceLT, Nat.reduceSub, Nat.reduceMul, Int.reduceEq, Int.reduceLT, Int.reduceLE, Int.reduceNeg, Int.reduceToNat, List.reduceReplicate, Int.ofNat_le, List.getElem?_drop, hlt, hrk, List.getElem?_drop, wi1, e3, hjl, pisAt hjx]
  refine vp_loop (fun m vs h' => ∃ (q : Nat) (y : List Int), q ≤ nx x (i + (1 + k)) ∧ m = nx x (i + (1 + k)) - q ∧ vs = [.ptr sp 0, .int .i64 i, .fz wx ax O.length (pis x), .sl σ.next 0 O.length (.known O.length), .fz w7 a7 O.length (pis (cvec C i (i + (1 + k)))), .fz w5 a5 d rs, .int .i64 d, .int .i64 k, .int .i64 (at_ x (i + (1 + k))), .int .i64 q] ∧ h' = σ.new (pis y) ∧ TT O (i + 1) y ∧ fo (mu O P C d) (cvec C i) (nx x) (i + (1 + k) + 1) (d - k - 1) (rep (mu O P C d) (cvec C i (i + (1 + k))) (nx x (i + (1 + k)) - q) y) = Grp.img O C (mu O P C d) i x) (nx x (i + (1 + k))) ?_ ?_
  · exact ⟨0, y, by omega, by omega, rfl, rfl, hy, hfo⟩
  rintro m vs h' ⟨q, y, hqn, rfl, rfl, rfl, hy, hfo⟩
  simp only [pwA, if_true, if_false, eq_self, nm_eq, reduceCtorEq, ↓reduceIte, Nat.reduceEqDiff, Nat.reduceLeDiff, Nat.reduceBEq, Nat.reduceAdd, Nat.reduceLT, Nat.reduceSub, Nat.reduceMul, Int.reduceEq, Int.reduceLT, Int.reduceLE, Int.reduceNeg, Int.reduceToNat, List.reduceReplicate, Int.ofNat_le, List.getElem?_drop]
  refine iteI (fun hlt2 => ?_) fun hge2 => ?_
  · have hlt3 : q < nx x (i + (1 + k)) := by omega
    refine timesVector_ok s F (hs0.new _) hR0 (x := y) (by simp only [pwA, if_true, if_false, eq_self, nm_eq, reduceCtorEq, ↓reduceIte, Nat.reduceEqDiff, Nat.reduceLeDiff, Nat.reduceBEq, Nat.reduceAdd, Nat.reduceLT, Nat.reduceSub, Nat.reduceMul, Int.reduceEq, Int.reduceLT, Int.reduceLE, Int.reduceNeg, Int.reduceToNat, List.reduceReplicate, Int.ofNat_le, List.getElem?_drop]) (by simp only [pwA, if_true, if_false, eq_self, nm_eq, reduceCtorEq, ↓reduceIte, Nat.reduceEqDiff, Nat.reduceLeDiff, Nat.reduceBEq, Nat.reduceAdd, Nat.reduceLT, Nat.reduceSub, Nat.reduceMul, Int.reduceEq, Int.reduceLT, Int.reduceLE, Int.reduceNeg, Int.reduceToNat, List.reduceReplicate, Int.ofNat_le, List.getElem?_drop]) hne (.inr rfl) (by rw [edi]; exact hy) (by rw [edi]; exact hcv) (FI.mk hcv.len) ?_
    simp only [pwA, if_true, if_false, eq_self, nm_eq, reduceCtorEq, ↓reduceIte, Nat.reduceEqDiff, Nat.reduceLeDiff, Nat.reduceBEq, Nat.reduceAdd, Nat.reduceLT, Nat.reduceSub, Nat.reduceMul, Int.reduceEq, Int.reduceLT, Int.reduceLE, Int.reduceNeg, Int.reduceToNat, List.reduceReplicate, Int.ofNat_le, List.getElem?_drop, wrapS hlt3 (by omega : nx x (i + (1 + k)) ≤ 4611686018427387904)]
    have hmy := M.cl (a := y) (b := cvec C i (i + (1 + k))) (by rw [edi]; exact hy) (by rw [edi]; exact hcv)
    rw [edi] at hmy
    refine ⟨_, by omega, q + 1, _, by omega, rfl, rfl, rfl, hmy, ?_⟩
    rw [show nx x (i + (1 + k)) - q = (nx x (i + (1 + k)) - (q + 1)) + 1 by omega] at hfo
    exact hfo
  · have hqe : q = nx x (i + (1 + k)) := by omega
    subst hqe
    rw [Nat.sub_self] at hfo
    simp only [pwA, if_true, if_false, eq_self, nm_eq, reduceCtorEq, ↓reduceIte, Nat.reduceEqDiff, Nat.reduceLeDiff, Nat.reduceBEq, Nat.reduceAdd, Nat.reduceLT, Nat.reduceSub, Nat.reduceMul, Int.reduceEq, Int.reduceLT, Int.reduceLE, Int.reduceNeg, Int.reduceToNat, List.reduceReplicate, Int.ofNat_le, List.getElem?_drop, wrapS hlt (by omega : d ≤ 4611686018427387904)]
    refine ⟨_, by omega, k + 1, y, by omega, rfl, rfl, rfl, hy, ?_⟩
    rw [show d - (k + 1) = d - k - 1 by omega]
    exact hfo
end Go.Proofs
set_option linter.unusedSimpArgs false
set_option linter.unusedVariables false
namespace Go.Proofs
open Go.Ab Go.Lie Go.Grp
variable {σ : PHeap} {K : PV → PHeap → Prop} {O : List Int} {P : List (List Int)} {C : List (List (List Int))} {vO vP vC vx : PV} {s : Nat} {x : List Int} {rP rC : List PV}
theorem l08Level_ok (s : Shp O P C) {d i : Nat} (hi : O.length = d + (i + 1)) (B : Beh O P C d) (hR : IsPr vO vP vC O P C)
    (hk : ∀ f0 f1 f2 f3 : Int, (f0 = 0 ↔ Lv O P C i) → K (.agg [.int .i64 f0, .int .i64 f1, .int .i64 f2, .int .i64 f3]) σ) : PCalls Try.prog 136 [.agg [vO, vP, vC], .int .i64 i] σ K := by
  have hn6 := s.le
  have hR0 := hR
  have hil : i < O.length := by omega
  have hAt : AtOK O P C d (i + 1) := l08At_ok s (by omega)
  have M := B.gp.toMon
  rw [show O.length - d = i + 1 by omega] at M
  have ed : O.length - 1 - i = d := by omega
  have yes : ((∀ q, q < d → pw (mu O P C d) (zv O) (cvec C i (i + (1 + q))) (nx O (i + (1 + q))) = Grp.img O C (mu O P C d) i (pvec P (i + (1 + q)))) →
      (∀ q r, q + (1 + r) < d → mu O P C d (cvec C i (i + (1 + (q + (1 + r))))) (cvec C i (i + (1 + q))) = mu O P C d (cvec C i (i + (1 + q))) (Grp.img O C (mu O P C d) i (cvec C (i + (1 + q)) (i + (1 + (q + (1 + r))))))) →
      Grp.img O C (mu O P C d) i (pvec P i) = pvec P i →
      (∀ q, q < d → mu O P C d (pvec P i) (iter (Grp.img O C (mu O P C d) i) (nx O i) (unitL O.length (i + (1 + q)))) = mu O P C d (unitL O.length (i + (1 + q))) (pvec P i)) → Lv O P C i) := fun h1 h2 h3 h4 => by
    refine ⟨fun j g1 g2 => ?_, fun j k g1 g2 g3 => ?_, ?_, fun j g1 g2 => ?_⟩
    · have := h1 (j - i - 1) (by omega); rw [show i + (1 + (j - i - 1)) = j by omega] at this; rw [ed]; exact this
    · have := h2 (j - i - 1) (k - j - 1) (by omega); rw [show i + (1 + (j - i - 1)) = j by omega, show i + (1 + (j - i - 1 + (1 + (k - j - 1)))) = k by omega] at this; rw [ed]; exact this
    · rw [ed]; exact h3
    · have := h4 (j - i - 1) (by omega); rw [show i + (1 + (j - i - 1)) = j by omega] at this; rw [ed]; exact this
  obtain ⟨⟨w0, a0, rfl⟩, ⟨w1, a1, rP, rfl, hP⟩, ⟨w3, a3, rC, rfl, hC⟩⟩ := hR
  obtain ⟨w5, a5, rs, hrb, hrs⟩ := cvRow s hC hil
  have hiC : i < C.length := by rw [s.cl]; exact hil
  have hiP : i < P.length := by rw [s.pl]; exact hil
  refine PCalls.gh ?_
  have fin : ∀ {f0 f1 f2 f3 : Int} {σ' : PHeap}, (f0 = 0 ↔ Lv O P C i) → Keep σ σ' → Gh σ K (.agg [.int .i64 f0, .int .i64 f1, .int .i64 f2, .int .i64 f3]) σ' := fun h k => Gh.fin0 k ⟨trivial, trivial, trivial, trivial, trivial⟩ (hk _ _ _ _ h)
  have no : ∀ {f0 : Int}, f0 ≠ 0 → ¬ Lv O P C i → (f0 = 0 ↔ Lv O P C i) := fun h g => ⟨fun x => absurd x h, fun x => absurd x g⟩
  refine pcalls_of_vp mix Try.func136 cf136 rfl ?_
  dsimp only [if136, qI, eI, nI, qD, eD]
  simp only [pwA, if_true, if_false, eq_self, nm_eq, reduceCtorEq, ↓reduceIte, Nat.reduceEqDiff, Nat.reduceLeDiff, Nat.reduceBEq, Nat.reduceAdd, Nat.reduceLT, Nat.reduceSub, Nat.reduceMul, Int.reduceEq, Int.reduceLT, Int.reduceLE, Int.reduceNeg, Int.reduceToNat, List.reduceReplicate, Int.ofNat_le, List.getElem?_drop]
  have hkp : ∀ cs : List PV, Keep σ ((σ.new [.fz w0 a0 O.length (pis O), .fz w1 a1 P.length rP, .fz w3 a3 C.length rC]).new cs) := fun cs => (keep_new σ _).new _
  have wi1 : IntKind.i64.wrap ((i : Int) + 1) = ((i + 1 : Nat) : Int) := wrapS hil (by omega)
  -- first condition
  simp only [pwA, if_true, if_false, eq_self, nm_eq, reduceCtorEq, ↓reduceIte, Nat.reduceEqDiff, Nat.reduceLeDiff, Nat.reduceBEq, Nat.reduceAdd, Nat.reduceLT, Nat.reduceSub, Nat.reduceMul, Int.reduceEq, Int.reduceLT, Int.reduceLE, Int.reduceNeg, Int.reduceToNat, List.reduceReplicate, Int.ofNat_le, List.getElem?_drop, wi1]
  refine vp_loop (fun m vs h' => ∃ q : Nat, q ≤ d ∧ m = d - q ∧ vs = [.int .i64 i, .ptr σ.next 0, .ptr (σ.next + 1) 0, .int .i64 O.length, .int .i64 i, .int .i64 ((i + (1 + q) : Nat) : Int)] ∧
    h' = (σ.new [.fz w0 a0 O.length (pis O), .fz w1 a1 P.length rP, .fz w3 a3 C.length rC]).new [.int .i64 0, .int .i64 0, .int .i64 0, .int .i64 0] ∧ ∀ q', q' < q → pw (mu O P C d) (zv O) (cvec C i (i + (1 + q'))) (nx O (i + (1 + q'))) = Grp.img O C (mu O P C d) i (pvec P (i + (1 + q')))) d ?_ ?_
  · exact ⟨0, by omega, by omega, rfl, rfl, fun q h => by omega⟩
  rintro m vs h' ⟨q, hq, rfl, rfl, rfl, hall⟩
  simp only [pwA, if_true, if_false, eq_self, nm_eq, reduceCtorEq, ↓reduceIte, Nat.reduceEqDiff, Nat.reduceLeDiff, Nat.reduceBEq, Nat.reduceAdd, Nat.reduceLT, Nat.reduceSub, Nat.reduceMul, Int.reduceEq, Int.reduceLT, Int.reduceLE, Int.reduceNeg, Int.reduceToNat, List.reduceReplicate, Int.ofNat_le, List.getElem?_drop]
  refine iteI (fun hlt => ?_) fun hge => ?_
  · have hjO : i + (1 + q) < O.length := by omega
    have hjP : i + (1 + q) < P.length := by rw [s.pl]; exact hjO
    obtain ⟨w6, a6, hrk⟩ := hrs q (by omega)
    obtain ⟨w7, a7, hpr⟩ := pvRow s hP hjO
    have hjr : q < O.length - 1 - i := by omega
    have hcv := s.cj i (i + (1 + q)) (by omega) (by omega)
    have hpv := s.pw (i + (1 + q)) hjO
    have hO := s.pr _ hjO
    have e3 : IntKind.i64.wrap (((i + (1 + q) : Nat) : Int) - (i : Int)) = ((1 + q : Nat) : Int) := by rw [wrap64 (by omega) (by omega)]; omega
    have e4 : IntKind.i64.wrap (((1 + q : Nat) : Int) - 1) = (q : Int) := by rw [wrap64 (by omega) (by omega)]; omega
    have e5 : IntKind.i64.wrap (((i + (1 + q) : Nat) : Int) + 1) = ((i + (1 + (q + 1)) : Nat) : Int) := by rw [wrap64 (by omega) (by omega)]; omega
    simp only [pwA, if_true, if_false, eq_self, nm_eq, reduceCtorEq, ↓reduceIte, Nat.reduceEqDiff, Nat.reduceLeDiff, Nat.reduceBEq, Nat.reduceAdd, Nat.reduceLT, Nat.reduceSub, Nat.reduceMul, Int.reduceEq, Int.reduceLT, Int.reduceLE, Int.reduceNeg, Int.reduceToNat, List.reduceReplicate, Int.ofNat_le, List.getElem?_drop, wi1, hiC, hrb, List.getElem?_drop, e3, e4, hjr, hrk, hjO, pisAt hjO]
    refine l08Repeat_ok s (by omega) hAt M hR0 hcv (FI.mk hcv.len) (by omega) fun v hv => ?_
    simp only [pwA, if_true, if_false, eq_self, nm_eq, reduceCtorEq, ↓reduceIte, Nat.reduceEqDiff, Nat.reduceLeDiff, Nat.reduceBEq, Nat.reduceAdd, Nat.reduceLT, Nat.reduceSub, Nat.reduceMul, Int.reduceEq, Int.reduceLT, Int.reduceLE, Int.reduceNeg, Int.reduceToNat, List.reduceReplicate, Int.ofNat_le, List.getElem?_drop, wi1, hiC, hrb, List.getElem?_drop, e3, e4, hjr, hrk, hjO, pisAt hjO, hjP, hpr]
    refine l08Image_ok s (by omega) hAt hR0 (hpv.mono (Nat.zero_le _)) (FI.mk hpv.len) fun v2 hv2 => ?_
    obtain ⟨w8, a8, rfl⟩ := hv
    obtain ⟨w9, a9, rfl⟩ := hv2
    simp only [pwA, if_true, if_false, eq_self, nm_eq, reduceCtorEq, ↓reduceIte, Nat.reduceEqDiff, Nat.reduceLeDiff, Nat.reduceBEq, Nat.reduceAdd, Nat.reduceLT, Nat.reduceSub, Nat.reduceMul, Int.reduceEq, Int.reduceLT, Int.reduceLE, Int.reduceNeg, Int.reduceToNat, List.reduceReplicate, Int.ofNat_le, List.getElem?_drop, hjP, hpr, List.getElem?_drop]
    refine l01Same_ok rfl rfl (by have := (M.pw hcv (at_ O (i + (1 + q))).toNat).len; omega) ?_
    by_cases he : pw (mu O P C d) (zv O) (cvec C i (i + (1 + q))) (nx O (i + (1 + q))) = Grp.img O C (mu O P C d) i (pvec P (i + (1 + q)))
    · simp only [pwA, if_true, if_false, eq_self, nm_eq, reduceCtorEq, ↓reduceIte, Nat.reduceEqDiff, Nat.reduceLeDiff, Nat.reduceBEq, Nat.reduceAdd, Nat.reduceLT, Nat.reduceSub, Nat.reduceMul, Int.reduceEq, Int.reduceLT, Int.reduceLE, Int.reduceNeg, Int.reduceToNat, List.reduceReplicate, Int.ofNat_le, List.getElem?_drop, eq_true he, e5]
      refine ⟨_, by omega, q + 1, by omega, rfl, rfl, fun q' h => ?_⟩
      by_cases e : q' = q
      · subst e; exact he
      · exact hall q' (by omega)
    · simp only [pwA, if_true, if_false, eq_self, nm_eq, reduceCtorEq, ↓reduceIte, Nat.reduceEqDiff, Nat.reduceLeDiff, Nat.reduceBEq, Nat.reduceAdd, Nat.reduceLT, Nat.reduceSub, Nat.reduceMul, Int.reduceEq, Int.reduceLT, Int.reduceLE, Int.reduceNeg, Int.reduceToNat, List.reduceReplicate, Int.ofNat_le, List.getElem?_drop, he]
      exact fin (no (by decide) fun L => he (by have := L.pow (i + (1 + q)) (by omega) hjO; rwa [ed] at this)) (hkp _)
  have hqd : q = d := by omega
  subst hqd
  -- second condition
  simp only [pwA, if_true, if_false, eq_self, nm_eq, reduceCtorEq, ↓reduceIte, Nat.reduceEqDiff, Nat.reduceLeDiff, Nat.reduceBEq, Nat.reduceAdd, Nat.reduceLT, Nat.reduceSub, Nat.reduceMul, Int.reduceEq, Int.reduceLT, Int.reduceLE, Int.reduceNeg, Int.reduceToNat, List.reduceReplicate, Int.ofNat_le, List.getElem?_drop, wi1]
  refine vp_loop (fun m vs h' => ∃ q' : Nat, q' ≤ q ∧ m = q - q' ∧ vs = [.int .i64 i, .ptr σ.next 0, .ptr (σ.next + 1) 0, .int .i64 O.length, .int .i64 i, .int .i64 ((i + (1 + q') : Nat) : Int)] ∧
    h' = (σ.new [.fz w0 a0 O.length (pis O), .fz w1 a1 P.length rP, .fz w3 a3 C.length rC]).new [.int .i64 0, .int .i64 0, .int .i64 0, .int .i64 0] ∧
    ∀ t r, t < q' → t + (1 + r) < q → mu O P C q (cvec C i (i + (1 + (t + (1 + r))))) (cvec C i (i + (1 + t))) = mu O P C q (cvec C i (i + (1 + t))) (Grp.img O C (mu O P C q) i (cvec C (i + (1 + t)) (i + (1 + (t + (1 + r))))))) q ?_ ?_
  · exact ⟨0, by omega, by omega, rfl, rfl, fun t r h => by omega⟩
  rintro m vs h' ⟨t, ht, rfl, rfl, rfl, hall2⟩
  simp only [pwA, if_true, if_false, eq_self, nm_eq, reduceCtorEq, ↓reduceIte, Nat.reduceEqDiff, Nat.reduceLeDiff, Nat.reduceBEq, Nat.reduceAdd, Nat.reduceLT, Nat.reduceSub, Nat.reduceMul, Int.reduceEq, Int.reduceLT, Int.reduceLE, Int.reduceNeg, Int.reduceToNat, List.reduceReplicate, Int.ofNat_le, List.getElem?_drop]
  refine iteI (fun hlt => ?_) fun hge => ?_
  · have hjO : i + (1 + t) < O.length := by omega
    have hjC : i + (1 + t) < C.length := by rw [s.cl]; exact hjO
    obtain ⟨w6, a6, hrk⟩ := hrs t (by omega)
    obtain ⟨w7, a7, rs2, hrb2, hrs2⟩ := cvRow s hC hjO
    have hjr : t < O.length - 1 - i := by omega
    have hcv := s.cj i (i + (1 + t)) (by omega) (by omega)
    have e3 : IntKind.i64.wrap (((i + (1 + t) : Nat) : Int) - (i : Int)) = ((1 + t : Nat) : Int) := by rw [wrap64 (by omega) (by omega)]; omega
    have e4 : IntKind.i64.wrap (((1 + t : Nat) : Int) - 1) = (t : Int) := by rw [wrap64 (by omega) (by omega)]; omega
    have e5 : IntKind.i64.wrap (((i + (1 + t) : Nat) : Int) + 1) = ((i + (1 + (t + 1)) : Nat) : Int) := by rw [wrap64 (by omega) (by omega)]; omega
    simp only [pwA, if_true, if_false, eq_self, nm_eq, reduceCtorEq, ↓reduceIte, Nat.reduceEqDiff, Nat.reduceLeDiff, Nat.reduceBEq, Nat.reduceAdd, Nat.reduceLT, Nat.reduceSub, Nat.reduceMul, Int.reduceEq, Int.reduceLT, Int.reduceLE, Int.reduceNeg, Int.reduceToNat, List.reduceReplicate, Int.ofNat_le, List.getElem?_drop, e5]
    refine vp_loop (fun m vs h' => ∃ r : Nat, t + (1 + r) ≤ q ∧ m = q - (t + (1 + r)) ∧ vs = [.int .i64 i, .ptr σ.next 0, .ptr (σ.next + 1) 0, .int .i64 O.length, .int .i64 i, .int .i64 ((i + (1 + t) : Nat) : Int), .int .i64 ((i + (1 + (t + (1 + r))) : Nat) : Int)] ∧
      h' = (σ.new [.fz w0 a0 O.length (pis O), .fz w1 a1 P.length rP, .fz w3 a3 C.length rC]).new [.int .i64 0, .int .i64 0, .int .i64 0, .int .i64 0] ∧
      ∀ r', r' < r → t + (1 + r') < q → mu O P C q (cvec C i (i + (1 + (t + (1 + r'))))) (cvec C i (i + (1 + t))) = mu O P C q (cvec C i (i + (1 + t))) (Grp.img O C (mu O P C q) i (cvec C (i + (1 + t)) (i + (1 + (t + (1 + r'))))))) (q - (t + 1)) ?_ ?_
    · exact ⟨0, by omega, by omega, rfl, rfl, fun r' h => by omega⟩
    rintro m vs h' ⟨r, hr, rfl, rfl, rfl, hall3⟩
    simp only [pwA, if_true, if_false, eq_self, nm_eq, reduceCtorEq, ↓reduceIte, Nat.reduceEqDiff, Nat.reduceLeDiff, Nat.reduceBEq, Nat.reduceAdd, Nat.reduceLT, Nat.reduceSub, Nat.reduceMul, Int.reduceEq, Int.reduceLT, Int.reduceLE, Int.reduceNeg, Int.reduceToNat, List.reduceReplicate, Int.ofNat_le, List.getElem?_drop]
    refine iteI (fun hlt2 => ?_) fun hge2 => ?_
    · have hkO : i + (1 + (t + (1 + r))) < O.length := by omega
      obtain ⟨w8, a8, hrk2⟩ := hrs (t + (1 + r)) (by omega)
      obtain ⟨w9, a9, hrk3⟩ := hrs2 r (by omega)
      rw [show i + (1 + t) + (1 + r) = i + (1 + (t + (1 + r))) by omega] at hrk3
      have hcv2 := s.cj i (i + (1 + (t + (1 + r)))) (by omega) hkO
      have hcv3 := s.cj (i + (1 + t)) (i + (1 + (t + (1 + r)))) (by omega) hkO
      have hkr : t + (1 + r) < O.length - 1 - i := by omega
      have hkr2 : r < O.length - 1 - (i + (1 + t)) := by omega
      have f3 : IntKind.i64.wrap (((i + (1 + (t + (1 + r))) : Nat) : Int) - (i : Int)) = ((1 + (t + (1 + r)) : Nat) : Int) := by rw [wrap64 (by omega) (by omega)]; omega
      have f4 : IntKind.i64.wrap (((1 + (t + (1 + r)) : Nat) : Int) - 1) = ((t + (1 + r) : Nat) : Int) := by rw [wrap64 (by omega) (by omega)]; omega
      have f5 : IntKind.i64.wrap (((i + (1 + (t + (1 + r))) : Nat) : Int) + 1) = ((i + (1 + (t + (1 + (r + 1)))) : Nat) : Int) := by rw [wrap64 (by omega) (by omega)]; omega
      have f6 : IntKind.i64.wrap (((i + (1 + (t + (1 + r))) : Nat) : Int) - ((i + (1 + t) : Nat) : Int)) = ((1 + r : Nat) : Int) := by rw [wrap64 (by omega) (by omega)]; omega
      have f7 : IntKind.i64.wrap (((1 + r : Nat) : Int) - 1) = (r : Int) := by rw [wrap64 (by omega) (by omega)]; omega
      simp only [pwA, if_true, if_false, eq_self, nm_eq, reduceCtorEq, ↓reduceIte, Nat.reduceEqDiff, Nat.reduceLeDiff, Nat.reduceBEq, Nat.reduceAdd, Nat.reduceLT, Nat.reduceSub, Nat.reduceMul, Int.reduceEq, Int.reduceLT, Int.reduceLE, Int.reduceNeg, Int.reduceToNat, List.reduceReplicate, Int.ofNat_le, List.getElem?_drop, wi1, hiC, hrb, List.getElem?_drop, e3, e4, f3, f4, f6, f7, hjr, hrk, hkr, hrk2, hjC, hrb2, hkr2, hrk3]
      refine l08Image_ok s (by omega) hAt hR0 (hcv3.mono (Nat.zero_le _)) (FI.mk hcv3.len) fun v hv => ?_
      have hz := img_tt s (i := i) (m := mu O P C q) (fun a b ha hb => M.cl ha hb) (cvec C (i + (1 + t)) (i + (1 + (t + (1 + r)))))
      simp only [pwA, if_true, if_false, eq_self, nm_eq, reduceCtorEq, ↓reduceIte, Nat.reduceEqDiff, Nat.reduceLeDiff, Nat.reduceBEq, Nat.reduceAdd, Nat.reduceLT, Nat.reduceSub, Nat.reduceMul, Int.reduceEq, Int.reduceLT, Int.reduceLE, Int.reduceNeg, Int.reduceToNat, List.reduceReplicate, Int.ofNat_le, List.getElem?_drop, wi1, hiC, hrb, List.getElem?_drop, e3, e4, f3, f4, f6, f7, hjr, hrk, hkr, hrk2, hjC, hrb2, hkr2, hrk3]
      refine hAt hR0 hcv2 hcv (FI.mk hcv2.len) (FI.mk hcv.len) fun v2 hv2 => ?_
      simp only [pwA, if_true, if_false, eq_self, nm_eq, reduceCtorEq, ↓reduceIte, Nat.reduceEqDiff, Nat.reduceLeDiff, Nat.reduceBEq, Nat.reduceAdd, Nat.reduceLT, Nat.reduceSub, Nat.reduceMul, Int.reduceEq, Int.reduceLT, Int.reduceLE, Int.reduceNeg, Int.reduceToNat, List.reduceReplicate, Int.ofNat_le, List.getElem?_drop, wi1]
      refine hAt hR0 hcv hz (FI.mk hcv.len) hv fun v3 hv3 => ?_
      obtain ⟨w10, a10, rfl⟩ := hv2
      obtain ⟨w11, a11, rfl⟩ := hv3
      simp only [pwA, if_true, if_false, eq_self, nm_eq, reduceCtorEq, ↓reduceIte, Nat.reduceEqDiff, Nat.reduceLeDiff, Nat.reduceBEq, Nat.reduceAdd, Nat.reduceLT, Nat.reduceSub, Nat.reduceMul, Int.reduceEq, Int.reduceLT, Int.reduceLE, Int.reduceNeg, Int.reduceToNat, List.reduceReplicate, Int.ofNat_le, List.getElem?_drop]
      refine l01Same_ok rfl rfl (by have := (M.cl hcv2 hcv).len; omega) ?_
      by_cases he : mu O P C q (cvec C i (i + (1 + (t + (1 + r))))) (cvec C i (i + (1 + t))) = mu O P C q (cvec C i (i + (1 + t))) (Grp.img O C (mu O P C q) i (cvec C (i + (1 + t)) (i + (1 + (t + (1 + r))))))
      · simp only [pwA, if_true, if_false, eq_self, nm_eq, reduceCtorEq, ↓reduceIte, Nat.reduceEqDiff, Nat.reduceLeDiff, Nat.reduceBEq, Nat.reduceAdd, Nat.reduceLT, Nat.reduceSub, Nat.reduceMul, Int.reduceEq, Int.reduceLT, Int.reduceLE, Int.reduceNeg, Int.reduceToNat, List.reduceReplicate, Int.ofNat_le, List.getElem?_drop, eq_true he, f5]
        refine ⟨_, by omega, r + 1, by omega, rfl, rfl, fun r' h1 h2 => ?_⟩
        by_cases e : r' = r
        · subst e; exact he
        · exact hall3 r' (by omega) h2
      · simp only [pwA, if_true, if_false, eq_self, nm_eq, reduceCtorEq, ↓reduceIte, Nat.reduceEqDiff, Nat.reduceLeDiff, Nat.reduceBEq, Nat.reduceAdd, Nat.reduceLT, Nat.reduceSub, Nat.reduceMul, Int.reduceEq, Int.reduceLT, Int.reduceLE, Int.reduceNeg, Int.reduceToNat, List.reduceReplicate, Int.ofNat_le, List.getElem?_drop, he]
        exact fin (no (by decide) fun L => he (by have := L.cj (i + (1 + t)) (i + (1 + (t + (1 + r)))) (by omega) (by omega) hkO; rwa [ed] at this)) (hkp _)
    · simp only [pwA, if_true, if_false, eq_self, nm_eq, reduceCtorEq, ↓reduceIte, Nat.reduceEqDiff, Nat.reduceLeDiff, Nat.reduceBEq, Nat.reduceAdd, Nat.reduceLT, Nat.reduceSub, Nat.reduceMul, Int.reduceEq, Int.reduceLT, Int.reduceLE, Int.reduceNeg, Int.reduceToNat, List.reduceReplicate, Int.ofNat_le, List.getElem?_drop, e5]
      refine ⟨_, by omega, t + 1, by omega, rfl, rfl, fun t' r' h1 h2 => ?_⟩
      by_cases e : t' = t
      · subst e; exact hall3 r' (by omega) h2
      · exact hall2 t' r' (by omega) h2
  -- third condition
  obtain ⟨w6, a6, hpr⟩ := pvRow s hP hil
  have hpv := s.pw i hil
  simp only [pwA, if_true, if_false, eq_self, nm_eq, reduceCtorEq, ↓reduceIte, Nat.reduceEqDiff, Nat.reduceLeDiff, Nat.reduceBEq, Nat.reduceAdd, Nat.reduceLT, Nat.reduceSub, Nat.reduceMul, Int.reduceEq, Int.reduceLT, Int.reduceLE, Int.reduceNeg, Int.reduceToNat, List.reduceReplicate, Int.ofNat_le, List.getElem?_drop, hiP, hpr, List.getElem?_drop]
  refine l08Image_ok s (by omega) hAt hR0 (hpv.mono (Nat.zero_le _)) (FI.mk hpv.len) fun v hv => ?_
  obtain ⟨w7, a7, rfl⟩ := hv
  simp only [pwA, if_true, if_false, eq_self, nm_eq, reduceCtorEq, ↓reduceIte, Nat.reduceEqDiff, Nat.reduceLeDiff, Nat.reduceBEq, Nat.reduceAdd, Nat.reduceLT, Nat.reduceSub, Nat.reduceMul, Int.reduceEq, Int.reduceLT, Int.reduceLE, Int.reduceNeg, Int.reduceToNat, List.reduceReplicate, Int.ofNat_le, List.getElem?_drop]
  refine l01Same_ok rfl hpv.len.symm (by have := (img_tt s (i := i) (m := mu O P C q) (fun a b ha hb => M.cl ha hb) (pvec P i)).len; omega) ?_
  by_cases he3 : Grp.img O C (mu O P C q) i (pvec P i) = pvec P i
  rotate_left
  · simp only [pwA, if_true, if_false, eq_self, nm_eq, reduceCtorEq, ↓reduceIte, Nat.reduceEqDiff, Nat.reduceLeDiff, Nat.reduceBEq, Nat.reduceAdd, Nat.reduceLT, Nat.reduceSub, Nat.reduceMul, Int.reduceEq, Int.reduceLT, Int.reduceLE, Int.reduceNeg, Int.reduceToNat, List.reduceReplicate, Int.ofNat_le, List.getElem?_drop, he3]
    exact fin (no (by decide) fun L => he3 (by have := L.fix; rwa [ed] at this)) (hkp _)
  simp only [pwA, if_true, if_false, eq_self, nm_eq, reduceCtorEq, ↓reduceIte, Nat.reduceEqDiff, Nat.reduceLeDiff, Nat.reduceBEq, Nat.reduceAdd, Nat.reduceLT, Nat.reduceSub, Nat.reduceMul, Int.reduceEq, Int.reduceLT, Int.reduceLE, Int.reduceNeg, Int.reduceToNat, List.reduceReplicate, Int.ofNat_le, List.getElem?_drop, eq_true he3, wi1]
  -- fourth condition
  refine vp_loop (fun m vs h' => ∃ q' : Nat, q' ≤ q ∧ m = q - q' ∧ vs = [.int .i64 i, .ptr σ.next 0, .ptr (σ.next + 1) 0, .int .i64 O.length, .int .i64 i, .fz w6 a6 O.length (pis (pvec P i)), .int .i64 ((i + (1 + q') : Nat) : Int)] ∧
    h' = (σ.new [.fz w0 a0 O.length (pis O), .fz w1 a1 P.length rP, .fz w3 a3 C.length rC]).new [.int .i64 0, .int .i64 0, .int .i64 0, .int .i64 0] ∧
    ∀ t, t < q' → mu O P C q (pvec P i) (iter (Grp.img O C (mu O P C q) i) (nx O i) (unitL O.length (i + (1 + t)))) = mu O P C q (unitL O.length (i + (1 + t))) (pvec P i)) q ?_ ?_
  · exact ⟨0, by omega, by omega, rfl, rfl, fun t h => by omega⟩
  rintro m vs h' ⟨t, ht, rfl, rfl, rfl, hall4⟩
  simp only [pwA, if_true, if_false, eq_self, nm_eq, reduceCtorEq, ↓reduceIte, Nat.reduceEqDiff, Nat.reduceLeDiff, Nat.reduceBEq, Nat.reduceAdd, Nat.reduceLT, Nat.reduceSub, Nat.reduceMul, Int.reduceEq, Int.reduceLT, Int.reduceLE, Int.reduceNeg, Int.reduceToNat, List.reduceReplicate, Int.ofNat_le, List.getElem?_drop]
  refine iteI (fun hlt => ?_) fun hge => ?_
  rotate_left
  · exact fin ⟨fun _ => yes hall (fun t' r' h => hall2 t' r' (by omega) h) he3 (fun t' h => hall4 t' (by omega)), fun _ => rfl⟩ (hkp _)
  have hjO : i + (1 + t) < O.length := by omega
  have hO := s.pr i hil
  have e5 : IntKind.i64.wrap (((i + (1 + t) : Nat) : Int) + 1) = ((i + (1 + (t + 1)) : Nat) : Int) := by rw [wrap64 (by omega) (by omega)]; omega
  have hun : TT O (i + 1) (unitL O.length (i + (1 + t))) := s.unit hjO (by omega)
  simp only [pwA, if_true, if_false, eq_self, nm_eq, reduceCtorEq, ↓reduceIte, Nat.reduceEqDiff, Nat.reduceLeDiff, Nat.reduceBEq, Nat.reduceAdd, Nat.reduceLT, Nat.reduceSub, Nat.reduceMul, Int.reduceEq, Int.reduceLT, Int.reduceLE, Int.reduceNeg, Int.reduceToNat, List.reduceReplicate, Int.ofNat_le, List.getElem?_drop]
  refine l07Unit_ok (by omega) hjO fun v hv => ?_
  simp only [pwA, if_true, if_false, eq_self, nm_eq, reduceCtorEq, ↓reduceIte, Nat.reduceEqDiff, Nat.reduceLeDiff, Nat.reduceBEq, Nat.reduceAdd, Nat.reduceLT, Nat.reduceSub, Nat.reduceMul, Int.reduceEq, Int.reduceLT, Int.reduceLE, Int.reduceNeg, Int.reduceToNat, List.reduceReplicate, Int.ofNat_le, List.getElem?_drop]
  refine vp_loop (fun m vs h' => ∃ (k : Nat) (v2 : PV) (A : List Int), k ≤ nx O i ∧ m = nx O i - k ∧ vs = [.int .i64 i, .ptr σ.next 0, .ptr (σ.next + 1) 0, .int .i64 O.length, .int .i64 i, .fz w6 a6 O.length (pis (pvec P i)), .int .i64 ((i + (1 + t) : Nat) : Int), v, v2, .int .i64 k] ∧
    h' = (σ.new [.fz w0 a0 O.length (pis O), .fz w1 a1 P.length rP, .fz w3 a3 C.length rC]).new [.int .i64 0, .int .i64 0, .int .i64 0, .int .i64 0] ∧ FI v2 A ∧ TT O (i + 1) A ∧ iter (Grp.img O C (mu O P C q) i) (nx O i - k) A = iter (Grp.img O C (mu O P C q) i) (nx O i) (unitL O.length (i + (1 + t)))) (nx O i) ?_ ?_
  · exact ⟨0, v, _, by omega, by omega, rfl, rfl, hv, hun, rfl⟩
  rintro m vs h' ⟨k, v2, A, hkn, rfl, rfl, rfl, hv2, hA, hit⟩
  have hnx : ((nx O i : Nat) : Int) = at_ O i := Int.toNat_of_nonneg (by omega)
  simp only [pwA, if_true, if_false, eq_self, nm_eq, reduceCtorEq, ↓reduceIte, Nat.reduceEqDiff, Nat.reduceLeDiff, Nat.reduceBEq, Nat.reduceAdd, Nat.reduceLT, Nat.reduceSub, Nat.reduceMul, Int.reduceEq, Int.reduceLT, Int.reduceLE, Int.reduceNeg, Int.reduceToNat, List.reduceReplicate, Int.ofNat_le, List.getElem?_drop, pisAt hil, hil, List.getElem?_drop]
  refine iteI (fun hlt2 => ?_) fun hge2 => ?_
  · have hlt3 : k < nx O i := by omega
    refine l08Image_ok s (by omega) hAt hR0 (hA.mono (Nat.zero_le _)) hv2 fun v3 hv3 => ?_
    simp only [pwA, if_true, if_false, eq_self, nm_eq, reduceCtorEq, ↓reduceIte, Nat.reduceEqDiff, Nat.reduceLeDiff, Nat.reduceBEq, Nat.reduceAdd, Nat.reduceLT, Nat.reduceSub, Nat.reduceMul, Int.reduceEq, Int.reduceLT, Int.reduceLE, Int.reduceNeg, Int.reduceToNat, List.reduceReplicate, Int.ofNat_le, List.getElem?_drop, wrapS hlt3 (by omega : nx O i ≤ 4611686018427387904)]
    refine ⟨_, by omega, k + 1, v3, _, by omega, rfl, rfl, hv3, img_tt s (fun a b ha hb => M.cl ha hb) _, ?_⟩
    rw [show nx O i - k = (nx O i - (k + 1)) + 1 by omega] at hit
    exact hit
  have hke : k = nx O i := by omega
  subst hke
  rw [Nat.sub_self] at hit
  have hA' : A = iter (Grp.img O C (mu O P C q) i) (nx O i) (unitL O.length (i + (1 + t))) := hit
  subst hA'
  simp only [pwA, if_true, if_false, eq_self, nm_eq, reduceCtorEq, ↓reduceIte, Nat.reduceEqDiff, Nat.reduceLeDiff, Nat.reduceBEq, Nat.reduceAdd, Nat.reduceLT, Nat.reduceSub, Nat.reduceMul, Int.reduceEq, Int.reduceLT, Int.reduceLE, Int.reduceNeg, Int.reduceToNat, List.reduceReplicate, Int.ofNat_le, List.getElem?_drop, wi1]
  refine hAt hR0 hpv hA (FI.mk hpv.len) hv2 fun v3 hv3 => ?_
  simp only [pwA, if_true, if_false, eq_self, nm_eq, reduceCtorEq, ↓reduceIte, Nat.reduceEqDiff, Nat.reduceLeDiff, Nat.reduceBEq, Nat.reduceAdd, Nat.reduceLT, Nat.reduceSub, Nat.reduceMul, Int.reduceEq, Int.reduceLT, Int.reduceLE, Int.reduceNeg, Int.reduceToNat, List.reduceReplicate, Int.ofNat_le, List.getElem?_drop, wi1]
  refine hAt hR0 hun hpv hv (FI.mk hpv.len) fun v4 hv4 => ?_
  obtain ⟨w8, a8, rfl⟩ := hv3
  obtain ⟨w9, a9, rfl⟩ := hv4
  simp only [pwA, if_true, if_false, eq_self, nm_eq, reduceCtorEq, ↓reduceIte, Nat.reduceEqDiff, Nat.reduceLeDiff, Nat.reduceBEq, Nat.reduceAdd, Nat.reduceLT, Nat.reduceSub, Nat.reduceMul, Int.reduceEq, Int.reduceLT, Int.reduceLE, Int.reduceNeg, Int.reduceToNat, List.reduceReplicate, Int.ofNat_le, List.getElem?_drop]
  refine l01Same_ok rfl rfl (by have := (M.cl hpv hA).len; omega) ?_
  by_cases he : mu O P C q (pvec P i) (iter (Grp.img O C (mu O P C q) i) (nx O i) (unitL O.length (i + (1 + t)))) = mu O P C q (unitL O.length (i + (1 + t))) (pvec P i)
  · simp only [pwA, if_true, if_false, eq_self, nm_eq, reduceCtorEq, ↓reduceIte, Nat.reduceEqDiff, Nat.reduceLeDiff, Nat.reduceBEq, Nat.reduceAdd, Nat.reduceLT, Nat.reduceSub, Nat.reduceMul, Int.reduceEq, Int.reduceLT, Int.reduceLE, Int.reduceNeg, Int.reduceToNat, List.reduceReplicate, Int.ofNat_le, List.getElem?_drop, eq_true he, e5]
    refine ⟨_, by omega, t + 1, by omega, rfl, rfl, fun t' h => ?_⟩
    by_cases e : t' = t
    · subst e; exact he
    · exact hall4 t' (by omega)
  · simp only [pwA, if_true, if_false, eq_self, nm_eq, reduceCtorEq, ↓reduceIte, Nat.reduceEqDiff, Nat.reduceLeDiff, Nat.reduceBEq, Nat.reduceAdd, Nat.reduceLT, Nat.reduceSub, Nat.reduceMul, Int.reduceEq, Int.reduceLT, Int.reduceLE, Int.reduceNeg, Int.reduceToNat, List.reduceReplicate, Int.ofNat_le, List.getElem?_drop, he]
    exact fin (no (by decide) fun L => he (by have := L.inn (i + (1 + t)) (by omega) hjO; rwa [ed] at this)) (hkp _)
end Go.Proofs
set_option linter.unusedSimpArgs false
set_option linter.unusedVariables false
namespace Go.Proofs
open Go.Ab Go.Lie Go.Grp
variable {σ : PHeap} {K : PV → PHeap → Prop} {O : List Int} {P : List (List Int)} {C : List (List (List Int))} {vO vP vC vx : PV} {s : Nat} {x : List Int} {rP rC : List PV}
theorem l08Fault_ok (s : Shp O P C) (hR : IsPr vO vP vC O P C)
    (hk : ∀ f0 f1 f2 f3 : Int, (f0 = 0 ↔ Cons O P C) → K (.agg [.int .i64 f0, .int .i64 f1, .int .i64 f2, .int .i64 f3]) σ) : PCalls Try.prog 126 [.agg [vO, vP, vC]] σ K := by
  have hn6 := s.le
  have hR0 := hR
  obtain ⟨⟨w0, a0, rfl⟩, ⟨w1, a1, rP, rfl, hP⟩, ⟨w3, a3, rC, rfl, hC⟩⟩ := hR
  refine PCalls.gh ?_
  have fin : ∀ {f0 f1 f2 f3 : Int} {σ' : PHeap}, (f0 = 0 ↔ Cons O P C) → Keep σ σ' → Gh σ K (.agg [.int .i64 f0, .int .i64 f1, .int .i64 f2, .int .i64 f3]) σ' := fun h k => Gh.fin0 k ⟨trivial, trivial, trivial, trivial, trivial⟩ (hk _ _ _ _ h)
  have hw1 : IntKind.i64.wrap ((O.length : Int) - 1) = (O.length : Int) - 1 := wrap64 (by omega) (by omega)
  refine pcalls_of_vp mix Try.func126 cf126 rfl ?_
  dsimp only [if126, qI, eI, nI, qD, eD]
  simp only [pwA, if_true, if_false, eq_self, nm_eq, reduceCtorEq, ↓reduceIte, Nat.reduceEqDiff, Nat.reduceLeDiff, Nat.reduceBEq, Nat.reduceAdd, Nat.reduceLT, Nat.reduceSub, Nat.reduceMul, Int.reduceEq, Int.reduceLT, Int.reduceLE, Int.reduceNeg, Int.reduceToNat, List.reduceReplicate, Int.ofNat_le, List.getElem?_drop, hw1]
  refine vp_loop (fun m vs h' => ∃ k : Nat, k ≤ O.length ∧ m = k ∧ vs = [.ptr σ.next 0, .ptr (σ.next + 1) 0, .int .i64 ((k : Int) - 1)] ∧ Keep ((σ.new [.fz w0 a0 O.length (pis O), .fz w1 a1 P.length rP, .fz w3 a3 C.length rC]).new [.int .i64 0, .int .i64 0, .int .i64 0, .int .i64 0]) h' ∧ ∀ j, k ≤ j → j < O.length → Lv O P C j) O.length ?_ ?_
  · exact ⟨O.length, Nat.le_refl _, rfl, rfl, Keep.refl _, fun j h1 h2 => by omega⟩
  rintro m vs h' ⟨k, hkO, rfl, rfl, hk1, hall⟩
  have hkp : Keep σ h' := ((keep_new σ _).new _).trans hk1
  have hn1 : σ.next + 2 ≤ h'.next := hk1.next
  have hobj1 : h'.obj σ.next = some [.fz w0 a0 O.length (pis O), .fz w1 a1 P.length rP, .fz w3 a3 C.length rC] := by rw [hk1.obj _ (by simp [PHeap.new]; omega)]; simp [PHeap.new]
  have hobj2 : h'.obj (σ.next + 1) = some [.int .i64 0, .int .i64 0, .int .i64 0, .int .i64 0] := by rw [hk1.obj _ (by simp [PHeap.new])]; simp [PHeap.new]
  have hrd3 : h'.rd σ.next 0 3 = some [.fz w0 a0 O.length (pis O), .fz w1 a1 P.length rP, .fz w3 a3 C.length rC] := by simp [PHeap.rd, hobj1]
  have hwr : ∀ f0 f1 f2 f3 : Int, h'.wr (σ.next + 1) 0 [.int .i64 f0, .int .i64 f1, .int .i64 f2, .int .i64 f3] = some (h'.set (σ.next + 1) [.int .i64 f0, .int .i64 f1, .int .i64 f2, .int .i64 f3]) := fun f0 f1 f2 f3 => by
    have : ∀ cs : List PV, cs.length = 4 → cs.all PV.one = true → h'.wr (σ.next + 1) 0 cs = some (h'.set (σ.next + 1) cs) := fun cs hl ho => by
      simp only [PHeap.wr, hobj2, Option.bind_some, ho, hl]
      simp [PHeap.set, List.drop_eq_nil_of_le, hl]
    exact this _ rfl rfl
  have hne1 : ¬ σ.next = h'.next := by omega
  have hne2 : ¬ σ.next + 1 = h'.next := by omega
  rcases Nat.eq_zero_or_pos m with rfl | hmp
  · simp only [pwA, if_true, if_false, eq_self, nm_eq, reduceCtorEq, ↓reduceIte, Nat.reduceEqDiff, Nat.reduceLeDiff, Nat.reduceBEq, Nat.reduceAdd, Nat.reduceLT, Nat.reduceSub, Nat.reduceMul, Int.reduceEq, Int.reduceLT, Int.reduceLE, Int.reduceNeg, Int.reduceToNat, List.reduceReplicate, Int.ofNat_le, List.getElem?_drop, show ¬ ((0 : Int) ≤ ((0 : Nat) : Int) - 1) by omega, hwr]
    exact fin ⟨fun _ j hj => hall j (Nat.zero_le _) hj, fun _ => rfl⟩ (hkp.set (by omega) _)
  obtain ⟨i, rfl⟩ : ∃ i, m = i + 1 := ⟨m - 1, by omega⟩
  have e : ((i + 1 : Nat) : Int) - 1 = (i : Int) := by omega
  rw [e]
  have hil : i < O.length := hkO
  have hw2 : IntKind.i64.wrap ((i : Int) - 1) = (i : Int) - 1 := wrap64 (by omega) (by omega)
  have B : Beh O P C (O.length - (i + 1)) := beh_of s (by omega) fun j h1 h2 => hall j (by omega) h2
  simp only [pwA, if_true, if_false, eq_self, nm_eq, reduceCtorEq, ↓reduceIte, Nat.reduceEqDiff, Nat.reduceLeDiff, Nat.reduceBEq, Nat.reduceAdd, Nat.reduceLT, Nat.reduceSub, Nat.reduceMul, Int.reduceEq, Int.reduceLT, Int.reduceLE, Int.reduceNeg, Int.reduceToNat, List.reduceReplicate, Int.ofNat_le, List.getElem?_drop, hrd3]
  refine l08Level_ok s (d := O.length - (i + 1)) (by omega) B hR0 fun f0 f1 f2 f3 hf => ?_
  simp only [pwA, if_true, if_false, eq_self, nm_eq, reduceCtorEq, ↓reduceIte, Nat.reduceEqDiff, Nat.reduceLeDiff, Nat.reduceBEq, Nat.reduceAdd, Nat.reduceLT, Nat.reduceSub, Nat.reduceMul, Int.reduceEq, Int.reduceLT, Int.reduceLE, Int.reduceNeg, Int.reduceToNat, List.reduceReplicate, Int.ofNat_le, List.getElem?_drop]
  refine iteI (fun h0 => ?_) fun h0 => ?_
  · simp only [pwA, if_true, if_false, eq_self, nm_eq, reduceCtorEq, ↓reduceIte, Nat.reduceEqDiff, Nat.reduceLeDiff, Nat.reduceBEq, Nat.reduceAdd, Nat.reduceLT, Nat.reduceSub, Nat.reduceMul, Int.reduceEq, Int.reduceLT, Int.reduceLE, Int.reduceNeg, Int.reduceToNat, List.reduceReplicate, Int.ofNat_le, List.getElem?_drop, hw2]
    refine ⟨i, by omega, i, by omega, rfl, rfl, hk1.new _, fun j h1 h2 => ?_⟩
    by_cases e : j = i
    · subst e; exact hf.1 h0
    · exact hall j (by omega) h2
  · simp only [pwA, if_true, if_false, eq_self, nm_eq, reduceCtorEq, ↓reduceIte, Nat.reduceEqDiff, Nat.reduceLeDiff, Nat.reduceBEq, Nat.reduceAdd, Nat.reduceLT, Nat.reduceSub, Nat.reduceMul, Int.reduceEq, Int.reduceLT, Int.reduceLE, Int.reduceNeg, Int.reduceToNat, List.reduceReplicate, Int.ofNat_le, List.getElem?_drop, hne1, hne2, hwr]
    exact fin ⟨fun h => absurd h h0, fun h => absurd (hf.2 (h i hil)) h0⟩ ((hkp.set (by omega) _).new _)
theorem l08Consistent_ok (s : Shp O P C) (hR : IsPr vO vP vC O P C) (hk : ∀ t : Bool, (t = true ↔ Cons O P C) → K (.bool t) σ) : PCalls Try.prog 97 [.agg [vO, vP, vC]] σ K := by
  have h0 := hR.O.one
  have h1 := hR.P.one
  have h2 := hR.C.one
  refine PCalls.gh ?_
  refine pcalls_of_vp mix Try.func97 cf97 rfl ?_
  dsimp only [if97, qI, eI, nI, qD, eD]
  simp only [pwA, if_true, if_false, eq_self, nm_eq, reduceCtorEq, ↓reduceIte, Nat.reduceEqDiff, Nat.reduceLeDiff, Nat.reduceBEq, Nat.reduceAdd, Nat.reduceLT, Nat.reduceSub, Nat.reduceMul, Int.reduceEq, Int.reduceLT, Int.reduceLE, Int.reduceNeg, Int.reduceToNat, List.reduceReplicate, Int.ofNat_le, List.getElem?_drop, h0, h1, h2]
  refine l08Fault_ok s hR fun f0 f1 f2 f3 hf => ?_
  simp only [pwA, if_true, if_false, eq_self, nm_eq, reduceCtorEq, ↓reduceIte, Nat.reduceEqDiff, Nat.reduceLeDiff, Nat.reduceBEq, Nat.reduceAdd, Nat.reduceLT, Nat.reduceSub, Nat.reduceMul, Int.reduceEq, Int.reduceLT, Int.reduceLE, Int.reduceNeg, Int.reduceToNat, List.reduceReplicate, Int.ofNat_le, List.getElem?_drop]
  exact Gh.fin0 (keep_new σ _) trivial (hk _ (by rw [decide_eq_true_iff]; exact hf))
theorem l08Group_ok (hR : IsPr vO vP vC O P C) (sz : SzP O P C) (hk : ∀ t : Bool, (t = true ↔ isPres O P C ∧ Cons O P C) → K (.bool t) σ) : PCalls Try.prog 58 [.agg [vO, vP, vC]] σ K := by
  have h0 := hR.O.one
  have h1 := hR.P.one
  have h2 := hR.C.one
  have fl : ∀ {A : Prop}, ¬ A → ((false = true) ↔ A) := fun h => ⟨fun x => (by cases x), fun x => absurd x h⟩
  refine PCalls.gh ?_
  refine pcalls_of_vp mix Try.func58 cf58 rfl ?_
  dsimp only [if58, qI, eI, nI, qD, eD]
  simp only [pwA, if_true, if_false, eq_self, nm_eq, reduceCtorEq, ↓reduceIte, Nat.reduceEqDiff, Nat.reduceLeDiff, Nat.reduceBEq, Nat.reduceAdd, Nat.reduceLT, Nat.reduceSub, Nat.reduceMul, Int.reduceEq, Int.reduceLT, Int.reduceLE, Int.reduceNeg, Int.reduceToNat, List.reduceReplicate, Int.ofNat_le, List.getElem?_drop, h0, h1, h2]
  refine l07IsPresentation_ok hR sz fun t ht => ?_
  cases t with
  | false =>
    simp only [pwA, if_true, if_false, eq_self, nm_eq, reduceCtorEq, ↓reduceIte, Nat.reduceEqDiff, Nat.reduceLeDiff, Nat.reduceBEq, Nat.reduceAdd, Nat.reduceLT, Nat.reduceSub, Nat.reduceMul, Int.reduceEq, Int.reduceLT, Int.reduceLE, Int.reduceNeg, Int.reduceToNat, List.reduceReplicate, Int.ofNat_le, List.getElem?_drop]
    exact Gh.fin0 (keep_new σ _) trivial (hk _ (fl fun h => by cases ht.2 h.1))
  | true =>
    have hp := ht.1 rfl
    simp only [pwA, if_true, if_false, eq_self, nm_eq, reduceCtorEq, ↓reduceIte, Nat.reduceEqDiff, Nat.reduceLeDiff, Nat.reduceBEq, Nat.reduceAdd, Nat.reduceLT, Nat.reduceSub, Nat.reduceMul, Int.reduceEq, Int.reduceLT, Int.reduceLE, Int.reduceNeg, Int.reduceToNat, List.reduceReplicate, Int.ofNat_le, List.getElem?_drop, h0, h1, h2]
    refine l08Consistent_ok hp.shp hR fun t ht => ?_
    simp only [pwA, if_true, if_false, eq_self, nm_eq, reduceCtorEq, ↓reduceIte, Nat.reduceEqDiff, Nat.reduceLeDiff, Nat.reduceBEq, Nat.reduceAdd, Nat.reduceLT, Nat.reduceSub, Nat.reduceMul, Int.reduceEq, Int.reduceLT, Int.reduceLE, Int.reduceNeg, Int.reduceToNat, List.reduceReplicate, Int.ofNat_le, List.getElem?_drop]
    exact Gh.fin0 (keep_new σ _) trivial (hk _ ⟨fun h => ⟨hp, ht.1 h⟩, fun h => ht.2 h.2⟩)
end Go.Proofs
set_option linter.unusedSimpArgs false
set_option linter.unusedVariables false
namespace Go.Proofs
open Go.Ab Go.Lie Go.Grp
variable {σ : PHeap} {K : PV → PHeap → Prop} {O : List Int} {P : List (List Int)} {C : List (List (List Int))} {vO vP vC vx vf va vb : PV} {x y f a b : List Int} {rP rC : List PV} {d j sp : Nat}
theorem levelFault_ok (s : Shp O P C) (F : Full O P C d) {i : Nat} (hi : O.length = d + (i + 1)) (hs : PtrG σ sp vO vP vC) (hR : IsPr vO vP vC O P C)
    (hk : ∀ f0 f1 f2 f3 : Int, ((f0 = 0 ∧ f1 = 0 ∧ f2 = 0 ∧ f3 = 0 ∧ Lv O P C i) ∨ (f0 ≠ 0 ∧ ¬ Lv O P C i)) → K (.agg [.int .i64 f0, .int .i64 f1, .int .i64 f2, .int .i64 f3]) σ) : PCalls Try.prog 137 [.ptr sp 0, .int .i64 i] σ K := by
  have hn6 := s.le
  have hR0 := hR
  have hil : i < O.length := by omega
  have M := F.gp.toMon
  have G := F.gp
  have edi : O.length - d = i + 1 := by omega
  have ed : O.length - 1 - i = d := by omega
  have hne : ¬ sp = σ.next := Nat.ne_of_lt hs.lt
  have hs1 : ∀ cs, PtrG (σ.new cs) sp vO vP vC := fun cs => hs.new cs
  have yes : ((∀ q, q < d → pw (mu O P C d) (zv O) (cvec C i (i + (1 + q))) (nx O (i + (1 + q))) = Grp.img O C (mu O P C d) i (pvec P (i + (1 + q)))) →
      (∀ q r, q + (1 + r) < d → mu O P C d (cvec C i (i + (1 + (q + (1 + r))))) (cvec C i (i + (1 + q))) = mu O P C d (cvec C i (i + (1 + q))) (Grp.img O C (mu O P C d) i (cvec C (i + (1 + q)) (i + (1 + (q + (1 + r))))))) →
      Grp.img O C (mu O P C d) i (pvec P i) = pvec P i →
      (∀ q, q < d → mu O P C d (pvec P i) (iter (Grp.img O C (mu O P C d) i) (nx O i) (unitL O.length (i + (1 + q)))) = mu O P C d (unitL O.length (i + (1 + q))) (pvec P i)) → Lv O P C i) := fun h1 h2 h3 h4 => by
    refine ⟨fun j g1 g2 => ?_, fun j k g1 g2 g3 => ?_, ?_, fun j g1 g2 => ?_⟩
    · have := h1 (j - i - 1) (by omega); rw [show i + (1 + (j - i - 1)) = j by omega] at this; rw [ed]; exact this
    · have := h2 (j - i - 1) (k - j - 1) (by omega); rw [show i + (1 + (j - i - 1)) = j by omega, show i + (1 + (j - i - 1 + (1 + (k - j - 1)))) = k by omega] at this; rw [ed]; exact this
    · rw [ed]; exact h3
    · have := h4 (j - i - 1) (by omega); rw [show i + (1 + (j - i - 1)) = j by omega] at this; rw [ed]; exact this
  have imgt : ∀ x, TT O (O.length - d) (Grp.img O C (mu O P C d) i x) := fun x => by
    rw [edi]; exact img_tt s (fun a b ha hb => by have := M.cl (a := a) (b := b) (by rw [edi]; exact ha) (by rw [edi]; exact hb); rwa [edi] at this) x
  obtain ⟨⟨w0, a0, rfl⟩, ⟨w1, a1, rP, rfl, hP⟩, ⟨w3, a3, rC, rfl, hC⟩⟩ := hR
  obtain ⟨w5, a5, rs, hrb, hrs⟩ := cvRow s hC hil
  have hiC : i < C.length := by rw [s.cl]; exact hil
  have hiP : i < P.length := by rw [s.pl]; exact hil
  have e0 : σ.rd1 sp 0 = some (.fz w0 a0 O.length (pis O)) := by rw [obj_rd1 hs.obj]; rfl
  have e1 : σ.rd1 sp 1 = some (.fz w1 a1 P.length rP) := by rw [obj_rd1 hs.obj]; rfl
  have e2 : σ.rd1 sp 2 = some (.fz w3 a3 C.length rC) := by rw [obj_rd1 hs.obj]; rfl
  refine PCalls.gh ?_
  have fin : ∀ {f0 f1 f2 f3 : Int} {σ' : PHeap}, ((f0 = 0 ∧ f1 = 0 ∧ f2 = 0 ∧ f3 = 0 ∧ Lv O P C i) ∨ (f0 ≠ 0 ∧ ¬ Lv O P C i)) → Keep σ σ' → Gh σ K (.agg [.int .i64 f0, .int .i64 f1, .int .i64 f2, .int .i64 f3]) σ' := fun h k => Gh.fin0 k ⟨trivial, trivial, trivial, trivial, trivial⟩ (hk _ _ _ _ h)
  have no : ∀ {f0 f1 f2 f3 : Int}, f0 ≠ 0 → ¬ Lv O P C i → ((f0 = 0 ∧ f1 = 0 ∧ f2 = 0 ∧ f3 = 0 ∧ Lv O P C i) ∨ (f0 ≠ 0 ∧ ¬ Lv O P C i)) := fun h g => .inr ⟨h, g⟩
  have hkp : ∀ cs : List PV, Keep σ (σ.new cs) := fun cs => keep_new σ _
  have wi1 : IntKind.i64.wrap ((i : Int) + 1) = ((i + 1 : Nat) : Int) := wrapS hil (by omega)
  refine pcalls_of_vp mix Try.func137 cf137 rfl ?_
  dsimp only [if137, qI, eI, nI, qD, eD]
  simp only [pwA, if_true, if_false, eq_self, nm_eq, reduceCtorEq, ↓reduceIte, Nat.reduceEqDiff, Nat.reduceLeDiff, Nat.reduceBEq, Nat.reduceAdd, Nat.reduceLT, Nat.reduceSub, Nat.reduceMul, Int.reduceEq, Int.reduceLT, Int.reduceLE, Int.reduceNeg, Int.reduceToNat, List.reduceReplicate, Int.ofNat_le, List.getElem?_drop, e0, hne]
  -- first condition
  simp only [pwA, if_true, if_false, eq_self, nm_eq, reduceCtorEq, ↓reduceIte, Nat.reduceEqDiff, Nat.reduceLeDiff, Nat.reduceBEq, Nat.reduceAdd, Nat.reduceLT, Nat.reduceSub, Nat.reduceMul, Int.reduceEq, Int.reduceLT, Int.reduceLE, Int.reduceNeg, Int.reduceToNat, List.reduceReplicate, Int.ofNat_le, List.getElem?_drop, wi1]
  refine vp_loop (fun m vs h' => ∃ q : Nat, q ≤ d ∧ m = d - q ∧ vs = [.ptr sp 0, .int .i64 i, .ptr σ.next 0, .int .i64 O.length, .int .i64 i, .int .i64 ((i + (1 + q) : Nat) : Int)] ∧
    h' = σ.new [.int .i64 0, .int .i64 0, .int .i64 0, .int .i64 0] ∧ ∀ q', q' < q → pw (mu O P C d) (zv O) (cvec C i (i + (1 + q'))) (nx O (i + (1 + q'))) = Grp.img O C (mu O P C d) i (pvec P (i + (1 + q')))) d ?_ ?_
  · exact ⟨0, by omega, by omega, rfl, rfl, fun q h => by omega⟩
  rintro m vs h' ⟨q, hq, rfl, rfl, rfl, hall⟩
  simp only [pwA, if_true, if_false, eq_self, nm_eq, reduceCtorEq, ↓reduceIte, Nat.reduceEqDiff, Nat.reduceLeDiff, Nat.reduceBEq, Nat.reduceAdd, Nat.reduceLT, Nat.reduceSub, Nat.reduceMul, Int.reduceEq, Int.reduceLT, Int.reduceLE, Int.reduceNeg, Int.reduceToNat, List.reduceReplicate, Int.ofNat_le, List.getElem?_drop]
  refine iteI (fun hlt => ?_) fun hge => ?_
  · have hjO : i + (1 + q) < O.length := by omega
    have hjP : i + (1 + q) < P.length := by rw [s.pl]; exact hjO
    obtain ⟨w6, a6, hrk⟩ := hrs q (by omega)
    obtain ⟨w7, a7, hpr⟩ := pvRow s hP hjO
    have hjr : q < O.length - 1 - i := by omega
    have hcv := s.cj i (i + (1 + q)) (by omega) (by omega)
    have hcv' : TT O (O.length - d) (cvec C i (i + (1 + q))) := by rw [edi]; exact hcv
    have hpv := s.pw (i + (1 + q)) hjO
    have hO := s.pr _ hjO
    have e3 : IntKind.i64.wrap (((i + (1 + q) : Nat) : Int) - (i : Int)) = ((1 + q : Nat) : Int) := by rw [wrap64 (by omega) (by omega)]; omega
    have e4 : IntKind.i64.wrap (((1 + q : Nat) : Int) - 1) = (q : Int) := by rw [wrap64 (by omega) (by omega)]; omega
    have e5 : IntKind.i64.wrap (((i + (1 + q) : Nat) : Int) + 1) = ((i + (1 + (q + 1)) : Nat) : Int) := by rw [wrap64 (by omega) (by omega)]; omega
    simp only [pwA, if_true, if_false, eq_self, nm_eq, reduceCtorEq, ↓reduceIte, Nat.reduceEqDiff, Nat.reduceLeDiff, Nat.reduceBEq, Nat.reduceAdd, Nat.reduceLT, Nat.reduceSub, Nat.reduceMul, Int.reduceEq, Int.reduceLT, Int.reduceLE, Int.reduceNeg, Int.reduceToNat, List.reduceReplicate, Int.ofNat_le, List.getElem?_drop, e0, e1, e2, hne, wi1, hiC, hrb, List.getElem?_drop, e3, e4, hjr, hrk, hjO, pisAt hjO, hjP, hpr]
    refine power_fz s F (hs1 _) hR0 hcv' (FI.mk hcv.len) (by omega) fun v hv => ?_
    simp only [pwA, if_true, if_false, eq_self, nm_eq, reduceCtorEq, ↓reduceIte, Nat.reduceEqDiff, Nat.reduceLeDiff, Nat.reduceBEq, Nat.reduceAdd, Nat.reduceLT, Nat.reduceSub, Nat.reduceMul, Int.reduceEq, Int.reduceLT, Int.reduceLE, Int.reduceNeg, Int.reduceToNat, List.reduceReplicate, Int.ofNat_le, List.getElem?_drop, e0, e1, e2, hne, wi1, hiC, hrb, List.getElem?_drop, e3, e4, hjr, hrk, hjO, pisAt hjO, hjP, hpr]
    refine imageBy_fz s F hi (hs1 _) hR0 (hpv.mono (Nat.zero_le _)) (FI.mk hpv.len) fun v2 hv2 => ?_
    obtain ⟨w8, a8, rfl⟩ := hv
    obtain ⟨w9, a9, rfl⟩ := hv2
    simp only [pwA, if_true, if_false, eq_self, nm_eq, reduceCtorEq, ↓reduceIte, Nat.reduceEqDiff, Nat.reduceLeDiff, Nat.reduceBEq, Nat.reduceAdd, Nat.reduceLT, Nat.reduceSub, Nat.reduceMul, Int.reduceEq, Int.reduceLT, Int.reduceLE, Int.reduceNeg, Int.reduceToNat, List.reduceReplicate, Int.ofNat_le, List.getElem?_drop]
    refine Equal_ok rfl rfl (by have := (M.pw hcv' (at_ O (i + (1 + q))).toNat).len; omega) ?_
    by_cases he : pw (mu O P C d) (zv O) (cvec C i (i + (1 + q))) (nx O (i + (1 + q))) = Grp.img O C (mu O P C d) i (pvec P (i + (1 + q)))
    · simp only [pwA, if_true, if_false, eq_self, nm_eq, reduceCtorEq, ↓reduceIte, Nat.reduceEqDiff, Nat.reduceLeDiff, Nat.reduceBEq, Nat.reduceAdd, Nat.reduceLT, Nat.reduceSub, Nat.reduceMul, Int.reduceEq, Int.reduceLT, Int.reduceLE, Int.reduceNeg, Int.reduceToNat, List.reduceReplicate, Int.ofNat_le, List.getElem?_drop, eq_true he, e5]
      refine ⟨_, by omega, q + 1, by omega, rfl, rfl, fun q' h => ?_⟩
      by_cases e : q' = q
      · subst e; exact he
      · exact hall q' (by omega)
    · simp only [pwA, if_true, if_false, eq_self, nm_eq, reduceCtorEq, ↓reduceIte, Nat.reduceEqDiff, Nat.reduceLeDiff, Nat.reduceBEq, Nat.reduceAdd, Nat.reduceLT, Nat.reduceSub, Nat.reduceMul, Int.reduceEq, Int.reduceLT, Int.reduceLE, Int.reduceNeg, Int.reduceToNat, List.reduceReplicate, Int.ofNat_le, List.getElem?_drop, he]
      exact fin (no (by decide) fun L => he (by have := L.pow (i + (1 + q)) (by omega) hjO; rwa [ed] at this)) (hkp _)
  have hqd : q = d := by omega
  subst hqd
  -- second condition
  simp only [pwA, if_true, if_false, eq_self, nm_eq, reduceCtorEq, ↓reduceIte, Nat.reduceEqDiff, Nat.reduceLeDiff, Nat.reduceBEq, Nat.reduceAdd, Nat.reduceLT, Nat.reduceSub, Nat.reduceMul, Int.reduceEq, Int.reduceLT, Int.reduceLE, Int.reduceNeg, Int.reduceToNat, List.reduceReplicate, Int.ofNat_le, List.getElem?_drop, wi1]
  refine vp_loop (fun m vs h' => ∃ q' : Nat, q' ≤ q ∧ m = q - q' ∧ vs = [.ptr sp 0, .int .i64 i, .ptr σ.next 0, .int .i64 O.length, .int .i64 i, .int .i64 ((i + (1 + q') : Nat) : Int)] ∧
    h' = σ.new [.int .i64 0, .int .i64 0, .int .i64 0, .int .i64 0] ∧
    ∀ t r, t < q' → t + (1 + r) < q → mu O P C q (cvec C i (i + (1 + (t + (1 + r))))) (cvec C i (i + (1 + t))) = mu O P C q (cvec C i (i + (1 + t))) (Grp.img O C (mu O P C q) i (cvec C (i + (1 + t)) (i + (1 + (t + (1 + r))))))) q ?_ ?_
  · exact ⟨0, by omega, by omega, rfl, rfl, fun t r h => by omega⟩
  rintro m vs h' ⟨t, ht, rfl, rfl, rfl, hall2⟩
  simp only [pwA, if_true, if_false, eq_self, nm_eq, reduceCtorEq, ↓reduceIte, Nat.reduceEqDiff, Nat.reduceLeDiff, Nat.reduceBEq, Nat.reduceAdd, Nat.reduceLT, Nat.reduceSub, Nat.reduceMul, Int.reduceEq, Int.reduceLT, Int.reduceLE, Int.reduceNeg, Int.reduceToNat, List.reduceReplicate, Int.ofNat_le, List.getElem?_drop]
  refine iteI (fun hlt => ?_) fun hge => ?_
  · have hjO : i + (1 + t) < O.length := by omega
    have hjC : i + (1 + t) < C.length := by rw [s.cl]; exact hjO
    obtain ⟨w6, a6, hrk⟩ := hrs t (by omega)
    obtain ⟨w7, a7, rs2, hrb2, hrs2⟩ := cvRow s hC hjO
    have hjr : t < O.length - 1 - i := by omega
    have hcv := s.cj i (i + (1 + t)) (by omega) (by omega)
    have hcv' : TT O (O.length - q) (cvec C i (i + (1 + t))) := by rw [edi]; exact hcv
    have e3 : IntKind.i64.wrap (((i + (1 + t) : Nat) : Int) - (i : Int)) = ((1 + t : Nat) : Int) := by rw [wrap64 (by omega) (by omega)]; omega
    have e4 : IntKind.i64.wrap (((1 + t : Nat) : Int) - 1) = (t : Int) := by rw [wrap64 (by omega) (by omega)]; omega
    have e5 : IntKind.i64.wrap (((i + (1 + t) : Nat) : Int) + 1) = ((i + (1 + (t + 1)) : Nat) : Int) := by rw [wrap64 (by omega) (by omega)]; omega
    simp only [pwA, if_true, if_false, eq_self, nm_eq, reduceCtorEq, ↓reduceIte, Nat.reduceEqDiff, Nat.reduceLeDiff, Nat.reduceBEq, Nat.reduceAdd, Nat.reduceLT, Nat.reduceSub, Nat.reduceMul, Int.reduceEq, Int.reduceLT, Int.reduceLE, Int.reduceNeg, Int.reduceToNat, List.reduceReplicate, Int.ofNat_le, List.getElem?_drop, e5]
    refine vp_loop (fun m vs h' => ∃ r : Nat, t + (1 + r) ≤ q ∧ m = q - (t + (1 + r)) ∧ vs = [.ptr sp 0, .int .i64 i, .ptr σ.next 0, .int .i64 O.length, .int .i64 i, .int .i64 ((i + (1 + t) : Nat) : Int), .int .i64 ((i + (1 + (t + (1 + r))) : Nat) : Int)] ∧
      h' = σ.new [.int .i64 0, .int .i64 0, .int .i64 0, .int .i64 0] ∧
      ∀ r', r' < r → t + (1 + r') < q → mu O P C q (cvec C i (i + (1 + (t + (1 + r'))))) (cvec C i (i + (1 + t))) = mu O P C q (cvec C i (i + (1 + t))) (Grp.img O C (mu O P C q) i (cvec C (i + (1 + t)) (i + (1 + (t + (1 + r'))))))) (q - (t + 1)) ?_ ?_
    · exact ⟨0, by omega, by omega, rfl, rfl, fun r' h => by omega⟩
    rintro m vs h' ⟨r, hr, rfl, rfl, rfl, hall3⟩
    simp only [pwA, if_true, if_false, eq_self, nm_eq, reduceCtorEq, ↓reduceIte, Nat.reduceEqDiff, Nat.reduceLeDiff, Nat.reduceBEq, Nat.reduceAdd, Nat.reduceLT, Nat.reduceSub, Nat.reduceMul, Int.reduceEq, Int.reduceLT, Int.reduceLE, Int.reduceNeg, Int.reduceToNat, List.reduceReplicate, Int.ofNat_le, List.getElem?_drop]
    refine iteI (fun hlt2 => ?_) fun hge2 => ?_
    · have hkO : i + (1 + (t + (1 + r))) < O.length := by omega
      obtain ⟨w8, a8, hrk2⟩ := hrs (t + (1 + r)) (by omega)
      obtain ⟨w9, a9, hrk3⟩ := hrs2 r (by omega)
      rw [show i + (1 + t) + (1 + r) = i + (1 + (t + (1 + r))) by omega] at hrk3
      have hcv2 := s.cj i (i + (1 + (t + (1 + r)))) (by omega) hkO
      have hcv2' : TT O (O.length - q) (cvec C i (i + (1 + (t + (1 + r))))) := by rw [edi]; exact hcv2
      have hcv3 := s.cj (i + (1 + t)) (i + (1 + (t + (1 + r)))) (by omega) hkO
      have hkr : t + (1 + r) < O.length - 1 - i := by omega
      have hkr2 : r < O.length - 1 - (i + (1 + t)) := by omega
      have f3 : IntKind.i64.wrap (((i + (1 + (t + (1 + r))) : Nat) : Int) - (i : Int)) = ((1 + (t + (1 + r)) : Nat) : Int) := by rw [wrap64 (by omega) (by omega)]; omega
      have f4 : IntKind.i64.wrap (((1 + (t + (1 + r)) : Nat) : Int) - 1) = ((t + (1 + r) : Nat) : Int) := by rw [wrap64 (by omega) (by omega)]; omega
      have f5 : IntKind.i64.wrap (((i + (1 + (t + (1 + r))) : Nat) : Int) + 1) = ((i + (1 + (t + (1 + (r + 1)))) : Nat) : Int) := by rw [wrap64 (by omega) (by omega)]; omega
      have f6 : IntKind.i64.wrap (((i + (1 + (t + (1 + r))) : Nat) : Int) - ((i + (1 + t) : Nat) : Int)) = ((1 + r : Nat) : Int) := by rw [wrap64 (by omega) (by omega)]; omega
      have f7 : IntKind.i64.wrap (((1 + r : Nat) : Int) - 1) = (r : Int) := by rw [wrap64 (by omega) (by omega)]; omega
      simp only [pwA, if_true, if_false, eq_self, nm_eq, reduceCtorEq, ↓reduceIte, Nat.reduceEqDiff, Nat.reduceLeDiff, Nat.reduceBEq, Nat.reduceAdd, Nat.reduceLT, Nat.reduceSub, Nat.reduceMul, Int.reduceEq, Int.reduceLT, Int.reduceLE, Int.reduceNeg, Int.reduceToNat, List.reduceReplicate, Int.ofNat_le, List.getElem?_drop, e0, e1, e2, hne, wi1, hiC, hrb, List.getElem?_drop, e3, e4, f3, f4, f6, f7, hjr, hrk, hkr, hrk2, hjC, hrb2, hkr2, hrk3]
      refine conjugate_fz s F (hs1 _) hR0 hcv2' hcv' (FI.mk hcv2.len) (FI.mk hcv.len) fun v z hz1 hz2 hv => ?_
      simp only [pwA, if_true, if_false, eq_self, nm_eq, reduceCtorEq, ↓reduceIte, Nat.reduceEqDiff, Nat.reduceLeDiff, Nat.reduceBEq, Nat.reduceAdd, Nat.reduceLT, Nat.reduceSub, Nat.reduceMul, Int.reduceEq, Int.reduceLT, Int.reduceLE, Int.reduceNeg, Int.reduceToNat, List.reduceReplicate, Int.ofNat_le, List.getElem?_drop, e0, e1, e2, hne, wi1, hiC, hrb, List.getElem?_drop, e3, e4, f3, f4, f6, f7, hjr, hrk, hkr, hrk2, hjC, hrb2, hkr2, hrk3]
      refine imageBy_fz s F hi (hs1 _) hR0 (hcv3.mono (Nat.zero_le _)) (FI.mk hcv3.len) fun v2 hv2 => ?_
      have hz := imgt (cvec C (i + (1 + t)) (i + (1 + (t + (1 + r)))))
      obtain ⟨w10, a10, rfl⟩ := hv
      obtain ⟨w11, a11, rfl⟩ := hv2
      simp only [pwA, if_true, if_false, eq_self, nm_eq, reduceCtorEq, ↓reduceIte, Nat.reduceEqDiff, Nat.reduceLeDiff, Nat.reduceBEq, Nat.reduceAdd, Nat.reduceLT, Nat.reduceSub, Nat.reduceMul, Int.reduceEq, Int.reduceLT, Int.reduceLE, Int.reduceNeg, Int.reduceToNat, List.reduceReplicate, Int.ofNat_le, List.getElem?_drop]
      refine Equal_ok rfl rfl (by have := hz1.len; omega) ?_
      by_cases he : z = Grp.img O C (mu O P C q) i (cvec C (i + (1 + t)) (i + (1 + (t + (1 + r)))))
      · simp only [pwA, if_true, if_false, eq_self, nm_eq, reduceCtorEq, ↓reduceIte, Nat.reduceEqDiff, Nat.reduceLeDiff, Nat.reduceBEq, Nat.reduceAdd, Nat.reduceLT, Nat.reduceSub, Nat.reduceMul, Int.reduceEq, Int.reduceLT, Int.reduceLE, Int.reduceNeg, Int.reduceToNat, List.reduceReplicate, Int.ofNat_le, List.getElem?_drop, eq_true he, f5]
        refine ⟨_, by omega, r + 1, by omega, rfl, rfl, fun r' h1 h2 => ?_⟩
        by_cases e : r' = r
        · subst e; rw [← he]; exact hz2.symm
        · exact hall3 r' (by omega) h2
      · simp only [pwA, if_true, if_false, eq_self, nm_eq, reduceCtorEq, ↓reduceIte, Nat.reduceEqDiff, Nat.reduceLeDiff, Nat.reduceBEq, Nat.reduceAdd, Nat.reduceLT, Nat.reduceSub, Nat.reduceMul, Int.reduceEq, Int.reduceLT, Int.reduceLE, Int.reduceNeg, Int.reduceToNat, List.reduceReplicate, Int.ofNat_le, List.getElem?_drop, he]
        exact fin (no (by decide) fun L => he (by
          have := L.cj (i + (1 + t)) (i + (1 + (t + (1 + r)))) (by omega) (by omega) hkO
          rw [ed] at this
          exact G.cancel hcv' hz1 hz (hz2.trans this))) (hkp _)
    · simp only [pwA, if_true, if_false, eq_self, nm_eq, reduceCtorEq, ↓reduceIte, Nat.reduceEqDiff, Nat.reduceLeDiff, Nat.reduceBEq, Nat.reduceAdd, Nat.reduceLT, Nat.reduceSub, Nat.reduceMul, Int.reduceEq, Int.reduceLT, Int.reduceLE, Int.reduceNeg, Int.reduceToNat, List.reduceReplicate, Int.ofNat_le, List.getElem?_drop, e5]
      refine ⟨_, by omega, t + 1, by omega, rfl, rfl, fun t' r' h1 h2 => ?_⟩
      by_cases e : t' = t
      · subst e; exact hall3 r' (by omega) h2
      · exact hall2 t' r' (by omega) h2
  -- third condition
  obtain ⟨w6, a6, hpr⟩ := pvRow s hP hil
  have hpv := s.pw i hil
  have hpv' : TT O (O.length - q) (pvec P i) := by rw [edi]; exact hpv
  simp only [pwA, if_true, if_false, eq_self, nm_eq, reduceCtorEq, ↓reduceIte, Nat.reduceEqDiff, Nat.reduceLeDiff, Nat.reduceBEq, Nat.reduceAdd, Nat.reduceLT, Nat.reduceSub, Nat.reduceMul, Int.reduceEq, Int.reduceLT, Int.reduceLE, Int.reduceNeg, Int.reduceToNat, List.reduceReplicate, Int.ofNat_le, List.getElem?_drop, e1, hne, hiP, hpr, List.getElem?_drop]
  refine imageBy_fz s F hi (hs1 _) hR0 (hpv.mono (Nat.zero_le _)) (FI.mk hpv.len) fun v hv => ?_
  obtain ⟨w7, a7, rfl⟩ := hv
  simp only [pwA, if_true, if_false, eq_self, nm_eq, reduceCtorEq, ↓reduceIte, Nat.reduceEqDiff, Nat.reduceLeDiff, Nat.reduceBEq, Nat.reduceAdd, Nat.reduceLT, Nat.reduceSub, Nat.reduceMul, Int.reduceEq, Int.reduceLT, Int.reduceLE, Int.reduceNeg, Int.reduceToNat, List.reduceReplicate, Int.ofNat_le, List.getElem?_drop]
  refine Equal_ok rfl hpv.len.symm (by have := (imgt (pvec P i)).len; omega) ?_
  by_cases he3 : Grp.img O C (mu O P C q) i (pvec P i) = pvec P i
  rotate_left
  · simp only [pwA, if_true, if_false, eq_self, nm_eq, reduceCtorEq, ↓reduceIte, Nat.reduceEqDiff, Nat.reduceLeDiff, Nat.reduceBEq, Nat.reduceAdd, Nat.reduceLT, Nat.reduceSub, Nat.reduceMul, Int.reduceEq, Int.reduceLT, Int.reduceLE, Int.reduceNeg, Int.reduceToNat, List.reduceReplicate, Int.ofNat_le, List.getElem?_drop, he3]
    exact fin (no (by decide) fun L => he3 (by have := L.fix; rwa [ed] at this)) (hkp _)
  simp only [pwA, if_true, if_false, eq_self, nm_eq, reduceCtorEq, ↓reduceIte, Nat.reduceEqDiff, Nat.reduceLeDiff, Nat.reduceBEq, Nat.reduceAdd, Nat.reduceLT, Nat.reduceSub, Nat.reduceMul, Int.reduceEq, Int.reduceLT, Int.reduceLE, Int.reduceNeg, Int.reduceToNat, List.reduceReplicate, Int.ofNat_le, List.getElem?_drop, eq_true he3, wi1]
  -- fourth condition
  refine vp_loop (fun m vs h' => ∃ q' : Nat, q' ≤ q ∧ m = q - q' ∧ vs = [.ptr sp 0, .int .i64 i, .ptr σ.next 0, .int .i64 O.length, .int .i64 i, .fz w6 a6 O.length (pis (pvec P i)), .int .i64 ((i + (1 + q') : Nat) : Int)] ∧
    h' = σ.new [.int .i64 0, .int .i64 0, .int .i64 0, .int .i64 0] ∧
    ∀ t, t < q' → mu O P C q (pvec P i) (iter (Grp.img O C (mu O P C q) i) (nx O i) (unitL O.length (i + (1 + t)))) = mu O P C q (unitL O.length (i + (1 + t))) (pvec P i)) q ?_ ?_
  · exact ⟨0, by omega, by omega, rfl, rfl, fun t h => by omega⟩
  rintro m vs h' ⟨t, ht, rfl, rfl, rfl, hall4⟩
  simp only [pwA, if_true, if_false, eq_self, nm_eq, reduceCtorEq, ↓reduceIte, Nat.reduceEqDiff, Nat.reduceLeDiff, Nat.reduceBEq, Nat.reduceAdd, Nat.reduceLT, Nat.reduceSub, Nat.reduceMul, Int.reduceEq, Int.reduceLT, Int.reduceLE, Int.reduceNeg, Int.reduceToNat, List.reduceReplicate, Int.ofNat_le, List.getElem?_drop]
  refine iteI (fun hlt => ?_) fun hge => ?_
  rotate_left
  · exact fin (.inl ⟨rfl, rfl, rfl, rfl, yes hall (fun t' r' h => hall2 t' r' (by omega) h) he3 (fun t' h => hall4 t' (by omega))⟩) (hkp _)
  have hjO : i + (1 + t) < O.length := by omega
  have hO := s.pr i hil
  have e5 : IntKind.i64.wrap (((i + (1 + t) : Nat) : Int) + 1) = ((i + (1 + (t + 1)) : Nat) : Int) := by rw [wrap64 (by omega) (by omega)]; omega
  have hun : TT O (i + 1) (unitL O.length (i + (1 + t))) := s.unit hjO (by omega)
  have hun' : TT O (O.length - q) (unitL O.length (i + (1 + t))) := by rw [edi]; exact hun
  simp only [pwA, if_true, if_false, eq_self, nm_eq, reduceCtorEq, ↓reduceIte, Nat.reduceEqDiff, Nat.reduceLeDiff, Nat.reduceBEq, Nat.reduceAdd, Nat.reduceLT, Nat.reduceSub, Nat.reduceMul, Int.reduceEq, Int.reduceLT, Int.reduceLE, Int.reduceNeg, Int.reduceToNat, List.reduceReplicate, Int.ofNat_le, List.getElem?_drop]
  refine unitVector_fz (by omega) hjO fun av => ?_
  simp only [pwA, if_true, if_false, eq_self, nm_eq, reduceCtorEq, ↓reduceIte, Nat.reduceEqDiff, Nat.reduceLeDiff, Nat.reduceBEq, Nat.reduceAdd, Nat.reduceLT, Nat.reduceSub, Nat.reduceMul, Int.reduceEq, Int.reduceLT, Int.reduceLE, Int.reduceNeg, Int.reduceToNat, List.reduceReplicate, Int.ofNat_le, List.getElem?_drop, e0, hne, hil, pisAt hil]
  refine vp_loop (fun m vs h' => ∃ (k : Nat) (v2 : PV) (A : List Int), k ≤ nx O i ∧ m = nx O i - k ∧ vs = [.ptr sp 0, .int .i64 i, .ptr σ.next 0, .int .i64 O.length, .int .i64 i, .fz w6 a6 O.length (pis (pvec P i)), .int .i64 ((i + (1 + t) : Nat) : Int), v2, .int .i64 (at_ O i), .int .i64 k] ∧
    h' = σ.new [.int .i64 0, .int .i64 0, .int .i64 0, .int .i64 0] ∧ FI v2 A ∧ TT O (O.length - q) A ∧ iter (Grp.img O C (mu O P C q) i) (nx O i - k) A = iter (Grp.img O C (mu O P C q) i) (nx O i) (unitL O.length (i + (1 + t)))) (nx O i) ?_ ?_
  · exact ⟨0, .fz true av O.length (pis (unitL O.length (i + (1 + t)))), _, by omega, by omega, rfl, rfl, FI.mk (unitL_length _ _), hun', rfl⟩
  rintro m vs h' ⟨k, v2, A, hkn, rfl, rfl, rfl, hv2, hA, hit⟩
  have hnx : ((nx O i : Nat) : Int) = at_ O i := Int.toNat_of_nonneg (by omega)
  simp only [pwA, if_true, if_false, eq_self, nm_eq, reduceCtorEq, ↓reduceIte, Nat.reduceEqDiff, Nat.reduceLeDiff, Nat.reduceBEq, Nat.reduceAdd, Nat.reduceLT, Nat.reduceSub, Nat.reduceMul, Int.reduceEq, Int.reduceLT, Int.reduceLE, Int.reduceNeg, Int.reduceToNat, List.reduceReplicate, Int.ofNat_le, List.getElem?_drop]
  refine iteI (fun hlt2 => ?_) fun hge2 => ?_
  · have hlt3 : k < nx O i := by omega
    refine imageBy_fz s F hi (hs1 _) hR0 (hA.mono (Nat.zero_le _)) hv2 fun v3 hv3 => ?_
    simp only [pwA, if_true, if_false, eq_self, nm_eq, reduceCtorEq, ↓reduceIte, Nat.reduceEqDiff, Nat.reduceLeDiff, Nat.reduceBEq, Nat.reduceAdd, Nat.reduceLT, Nat.reduceSub, Nat.reduceMul, Int.reduceEq, Int.reduceLT, Int.reduceLE, Int.reduceNeg, Int.reduceToNat, List.reduceReplicate, Int.ofNat_le, List.getElem?_drop, wrapS hlt3 (by omega : nx O i ≤ 4611686018427387904)]
    refine ⟨_, by omega, k + 1, v3, _, by omega, rfl, rfl, hv3, imgt _, ?_⟩
    rw [show nx O i - k = (nx O i - (k + 1)) + 1 by omega] at hit
    exact hit
  have hke : k = nx O i := by omega
  subst hke
  rw [Nat.sub_self] at hit
  have hA' : A = iter (Grp.img O C (mu O P C q) i) (nx O i) (unitL O.length (i + (1 + t))) := hit
  subst hA'
  simp only [pwA, if_true, if_false, eq_self, nm_eq, reduceCtorEq, ↓reduceIte, Nat.reduceEqDiff, Nat.reduceLeDiff, Nat.reduceBEq, Nat.reduceAdd, Nat.reduceLT, Nat.reduceSub, Nat.reduceMul, Int.reduceEq, Int.reduceLT, Int.reduceLE, Int.reduceNeg, Int.reduceToNat, List.reduceReplicate, Int.ofNat_le, List.getElem?_drop]
  refine unitVector_fz (by omega) hjO fun av2 => ?_
  simp only [pwA, if_true, if_false, eq_self, nm_eq, reduceCtorEq, ↓reduceIte, Nat.reduceEqDiff, Nat.reduceLeDiff, Nat.reduceBEq, Nat.reduceAdd, Nat.reduceLT, Nat.reduceSub, Nat.reduceMul, Int.reduceEq, Int.reduceLT, Int.reduceLE, Int.reduceNeg, Int.reduceToNat, List.reduceReplicate, Int.ofNat_le, List.getElem?_drop]
  refine conjugate_fz s F (hs1 _) hR0 hun' hpv' (FI.mk (unitL_length _ _)) (FI.mk hpv.len) fun v z hz1 hz2 hv => ?_
  obtain ⟨w8, a8, rfl⟩ := hv2
  obtain ⟨w9, a9, rfl⟩ := hv
  simp only [pwA, if_true, if_false, eq_self, nm_eq, reduceCtorEq, ↓reduceIte, Nat.reduceEqDiff, Nat.reduceLeDiff, Nat.reduceBEq, Nat.reduceAdd, Nat.reduceLT, Nat.reduceSub, Nat.reduceMul, Int.reduceEq, Int.reduceLT, Int.reduceLE, Int.reduceNeg, Int.reduceToNat, List.reduceReplicate, Int.ofNat_le, List.getElem?_drop]
  refine Equal_ok rfl rfl (by have := hA.len; omega) ?_
  by_cases he : iter (Grp.img O C (mu O P C q) i) (nx O i) (unitL O.length (i + (1 + t))) = z
  · simp only [pwA, if_true, if_false, eq_self, nm_eq, reduceCtorEq, ↓reduceIte, Nat.reduceEqDiff, Nat.reduceLeDiff, Nat.reduceBEq, Nat.reduceAdd, Nat.reduceLT, Nat.reduceSub, Nat.reduceMul, Int.reduceEq, Int.reduceLT, Int.reduceLE, Int.reduceNeg, Int.reduceToNat, List.reduceReplicate, Int.ofNat_le, List.getElem?_drop, eq_true he, e5]
    refine ⟨_, by omega, t + 1, by omega, rfl, rfl, fun t' h => ?_⟩
    by_cases e : t' = t
    · subst e; rw [he]; exact hz2
    · exact hall4 t' (by omega)
  · simp only [pwA, if_true, if_false, eq_self, nm_eq, reduceCtorEq, ↓reduceIte, Nat.reduceEqDiff, Nat.reduceLeDiff, Nat.reduceBEq, Nat.reduceAdd, Nat.reduceLT, Nat.reduceSub, Nat.reduceMul, Int.reduceEq, Int.reduceLT, Int.reduceLE, Int.reduceNeg, Int.reduceToNat, List.reduceReplicate, Int.ofNat_le, List.getElem?_drop, he]
    exact fin (no (by decide) fun L => he (by
      have := L.inn (i + (1 + t)) (by omega) hjO
      rw [ed] at this
      exact G.cancel hpv' hA hz1 (this.trans hz2.symm))) (hkp _)
end Go.Proofs
