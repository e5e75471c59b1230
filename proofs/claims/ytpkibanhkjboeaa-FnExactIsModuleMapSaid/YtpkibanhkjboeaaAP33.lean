/- Maps of modules: the whole functions. -/
import Derived.Test.YtpkibanhkjboeaaAP27
import Derived.Test.YtpkibanhkjboeaaAAbPt
import Derived.Test.YtpkibanhkjboeaaAP31
import Derived.Test.YtpkibanhkjboeaaRows
import Derived.Lib.SmallJoins
import Derived.WalkKit
import Derived.ProofKit
namespace Go.Proofs.Ytpkibanhkjboeaa
open Go.ChangeShapes Go.WideShapes Go.ChangeAt Go.RowKit Go.Ab Go.Joins Go.Lie Go.Proofs
set_option linter.unusedVariables false
theorem own : ownKnob Try.prog.godebug = none := by kernel_rfl
theorem laidOut : laidOutB Try.prog = true := by kernel_rfl
theorem cell23 : Try.prog.cellsOf 23 = 1 := by kernel_rfl
theorem cell2 : Try.prog.cellsOf 2 = 1 := by kernel_rfl
theorem cell22 : Try.prog.cellsOf 22 = 1 := by kernel_rfl
variable {H : Type} {enc : TypeId × Value → H} {W w0 : World} {j : Inj} {h : AHeap}
/-- Lists of lists. -/
def LII (v : PV) (xs : List (List Int)) : Prop := FII v xs ∧ xs.length ≤ 9223372036854775807 ∧ ∀ x ∈ xs, x.length ≤ 9223372036854775807
def LIII (v : PV) (xs : List (List (List Int))) : Prop := FIII v xs ∧ xs.length ≤ 9223372036854775807 ∧ ∀ q ∈ xs, q.length ≤ 9223372036854775807 ∧ ∀ x ∈ q, x.length ≤ 9223372036854775807
theorem layI : Lay1 enc Try.prog W 22 (fun v (xs : List Int) => FI v xs ∧ xs.length ≤ 9223372036854775807) := lay_ints (e := 2) Try.underlying22 cell2 Try.underlying2
theorem layII : Lay1 enc Try.prog W 23 LII := by
  intro w0 j h held fuel v x m hx
  obtain ⟨j', h', pv, a, g1, g2, g3, g4, g5, g6, g7, g8⟩ := lay_slice Try.underlying23 cell22 layI w0 j h held fuel v x m hx
  exact ⟨j', h', pv, a, g1, g2, g3, g4, g5, g6, g7.imp fun _ _ k => k.1, g8, g7.all fun _ _ k => k.2⟩
theorem layIII : Lay1 enc Try.prog W 24 LIII := by
  intro w0 j h held fuel v x m hx
  obtain ⟨j', h', pv, a, g1, g2, g3, g4, g5, g6, g7, g8⟩ := lay_slice Try.underlying24 cell23 layII w0 j h held fuel v x m hx
  exact ⟨j', h', pv, a, g1, g2, g3, g4, g5, g6, g7.imp fun _ _ k => k.1, g8, g7.all fun _ _ k => k.2⟩
end Go.Proofs.Ytpkibanhkjboeaa
namespace Go.Proofs.Ytpkibanhkjboeaa
open Go.ChangeShapes Go.WideShapes Go.ChangeAt Go.RowKit Go.Ab Go.Joins Go.Lie Go.Proofs
set_option linter.unusedVariables false
theorem cell26 : Try.prog.cellsOf 26 = 3 := by kernel_rfl
variable {H : Type} {enc : TypeId × Value → H} {W w0 : World} {j : Inj} {h : AHeap}
set_option maxRecDepth 100000 in
/-- A presentation that is handed over. -/
theorem layPr {b0 : Nat} {v : Value} {d : DataW H} {q : List MemPlace} (m : MR W.heap.size w0 j h W) (hv : Value.okWide Try.prog W .any b0 26 v) (ht : DataW.Trod enc Try.prog W 0 (fun _ => true) true 26 v d q) :
    ∃ (j' : Inj) (h' : AHeap) (vO vP vC : PV) (Os : List Int) (Ps : List (List Int)) (Cs : List (List (List Int))), MR W.heap.size w0 j' h' W ∧ j.le j' ∧ Ext h h' ∧ VI j' (er idz (.agg [vO, vP, vC])) v ∧ VOK (zlt h') h' 0 (.agg [vO, vP, vC]) ∧ IsPr vO vP vC Os Ps Cs ∧ MxP Os Ps Cs := by
  obtain ⟨v0, v1, v2, y0, y1, y2, n, rfl, rfl, rfl, t0, t1, t2⟩ := open_agg3 Try.underlying26 (by kernel_rfl) cell26 hv ht
  obtain ⟨j0, h0, vO, Os, m0, l0, e0, i0, o0, _, r1, r2⟩ := layI w0 j h true n v0 _ m t0
  obtain ⟨j1, h1, vP, Ws, m1, l1, e1, i1, o1, _, p1, p2, p3⟩ := layII w0 j0 h0 true n v1 _ m0 t1
  obtain ⟨j2, h2, vB, Bs, m2, l2, e2, i2, o2, _, q1, q2, q3⟩ := layIII w0 j1 h1 true n v2 _ m1 t2
  exact ⟨j2, h2, vO, vP, vB, Os, Ws, Bs, m2, (l0.trans l1).trans l2, (e0.trans e1).trans e2, ⟨_, ⟨_, _, rfl, VI.mono (l1.trans l2) _ _ i0, _, _, rfl, VI.mono l2 _ _ i1, _, _, rfl, i2, rfl⟩, rfl⟩, ⟨(e1.trans e2).vok o0, e2.vok o1, o2, trivial⟩, ⟨r1, p1, q1⟩, ⟨r2, p2, p3, q2, q3⟩⟩
end Go.Proofs.Ytpkibanhkjboeaa
namespace Go.Proofs.Ytpkibanhkjboeaa
open Go.ChangeShapes Go.WideShapes Go.ChangeAt Go.RowKit Go.Ab Go.Joins Go.Lie Go.Proofs
set_option linter.unusedVariables false
theorem cell28 : Try.prog.cellsOf 28 = 3 := by kernel_rfl
theorem cell54 : Try.prog.cellsOf 54 = 3 := by kernel_rfl
variable {H : Type} {enc : TypeId × Value → H} {W w0 : World} {j : Inj} {h : AHeap}
set_option maxRecDepth 100000 in
/-- A module that is handed over. -/
theorem layMod {b0 : Nat} {v : Value} {d : DataW H} {q : List MemPlace} (m : MR W.heap.size w0 j h W) (hv : Value.okWide Try.prog W .any b0 28 v) (ht : DataW.Trod enc Try.prog W 0 (fun _ => true) true 28 v d q) :
    ∃ (j' : Inj) (h' : AHeap) (p dd : Int) (vA : PV) (As : List (List (List Int))), MR W.heap.size w0 j' h' W ∧ j.le j' ∧ Ext h h' ∧ VI j' (er idz (.agg [.int .i64 p, .int .i64 dd, vA])) v ∧ VOK (zlt h') h' 0 (.agg [.int .i64 p, .int .i64 dd, vA]) ∧ FIII vA As ∧ MxA As := by
  obtain ⟨v0, v1, v2, y0, y1, y2, n, rfl, rfl, rfl, t0, t1, t2⟩ := open_agg3 Try.underlying28 (by kernel_rfl) cell28 hv ht
  obtain ⟨a, ha, _, _⟩ := DataW.trod_int Try.underlying2 t0
  simp only [List.cons.injEq, and_true] at ha
  subst ha
  obtain ⟨b, hb, _, _⟩ := DataW.trod_int Try.underlying2 t1
  simp only [List.cons.injEq, and_true] at hb
  subst hb
  obtain ⟨j2, h2, vB, Bs, m2, l2, e2, i2, o2, _, q1, q2, q3⟩ := layIII w0 j h true n v2 _ m t2
  exact ⟨j2, h2, a, b, vB, Bs, m2, l2, e2, ⟨_, ⟨_, _, rfl, rfl, _, _, rfl, rfl, _, _, rfl, i2, rfl⟩, rfl⟩, ⟨trivial, trivial, o2, trivial⟩, q1, q2, q3⟩
set_option maxRecDepth 100000 in
/-- A matrix that is handed over. -/
theorem layMx {b0 : Nat} {v : Value} {d : DataW H} {q : List MemPlace} (m : MR W.heap.size w0 j h W) (hv : Value.okWide Try.prog W .any b0 54 v) (ht : DataW.Trod enc Try.prog W 0 (fun _ => true) true 54 v d q) :
    ∃ (j' : Inj) (h' : AHeap) (p dd : Int) (vA : PV) (As : List (List Int)), MR W.heap.size w0 j' h' W ∧ j.le j' ∧ Ext h h' ∧ VI j' (er idz (.agg [.int .i64 p, .int .i64 dd, vA])) v ∧ VOK (zlt h') h' 0 (.agg [.int .i64 p, .int .i64 dd, vA]) ∧ FII vA As ∧ As.length ≤ 9223372036854775807 ∧ ∀ x ∈ As, x.length ≤ 9223372036854775807 := by
  obtain ⟨v0, v1, v2, y0, y1, y2, n, rfl, rfl, rfl, t0, t1, t2⟩ := open_agg3 Try.underlying54 (by kernel_rfl) cell54 hv ht
  obtain ⟨a, ha, _, _⟩ := DataW.trod_int Try.underlying2 t0
  simp only [List.cons.injEq, and_true] at ha
  subst ha
  obtain ⟨b, hb, _, _⟩ := DataW.trod_int Try.underlying2 t1
  simp only [List.cons.injEq, and_true] at hb
  subst hb
  obtain ⟨j2, h2, vB, Bs, m2, l2, e2, i2, o2, _, q1, q2, q3⟩ := layII w0 j h true n v2 _ m t2
  exact ⟨j2, h2, a, b, vB, Bs, m2, l2, e2, ⟨_, ⟨_, _, rfl, rfl, _, _, rfl, rfl, _, _, rfl, i2, rfl⟩, rfl⟩, ⟨trivial, trivial, o2, trivial⟩, q1, q2, q3⟩
end Go.Proofs.Ytpkibanhkjboeaa
set_option linter.unusedSimpArgs false
set_option linter.unusedVariables false
namespace Go.Proofs
open Go.Ab Go.Lie Go.Grp Go.Mx
variable {σ : PHeap} {K : PV → PHeap → Prop} {p d p' d' c : Int} {n n' : Nat} {As Bs : List (List (List Int))} {F F' : List (List Int)} {vA vB vF vF' : PV} {O : List Int} {P : List (List Int)} {C : List (List (List Int))} {vO vP vC : PV} {s s' : Nat}
/-- A matrix. -/
def isMx (p c : Int) (F : List (List Int)) : Prop := isP p ∧ (0 ≤ c ∧ c ≤ 8) ∧ F.length ≤ 8 ∧ Ma p c.toNat F
theorem IsMatrixG_ok (sz : SzL F) (hF : FII vF F) (hk : ∀ t : Bool, (t = true ↔ isMx p c F) → K (.bool t) σ) : PCalls Try.prog 76 [.agg [.int .i64 p, .int .i64 c, vF]] σ K := by
  have fl : ∀ {A : Prop}, ¬ A → ((false = true) ↔ A) := fun h => ⟨fun x => (by cases x), fun x => absurd x h⟩
  have h1 := hF.one
  have szl := sz.l
  by_cases hm : isP p ∧ (0 ≤ c ∧ c ≤ 8) ∧ F.length ≤ 8
  · obtain ⟨hp, hc, hl⟩ := hm
    obtain ⟨n, rfl⟩ : ∃ n : Nat, c = (n : Int) := ⟨c.toNat, by omega⟩
    exact IsMatrix_ok hp (by omega) hl (fun r hr => sz.r r hr) hF fun t ht => hk t ⟨fun h => ⟨hp, hc, hl, ht.1 h⟩, fun h => ht.2 h.2.2.2⟩
  obtain ⟨wA, aA, rA, rfl, hrA⟩ := hF
  have no : ¬ isMx p c F := fun h => hm ⟨h.1, h.2.1, h.2.2.1⟩
  refine PCalls.gh ?_
  refine pcalls_of_vp mix Try.func76 cf76 rfl ?_
  dsimp only [if76, qI, eI, nI, qD, eD]
  simp only [pwA, if_true, if_false, eq_self, nm_eq, reduceCtorEq, ↓reduceIte, Nat.reduceEqDiff, Nat.reduceLeDiff, Nat.reduceBEq, Nat.reduceAdd, Nat.reduceLT, Nat.reduceSub, Nat.reduceMul, Int.reduceEq, Int.reduceLT, Int.reduceLE, Int.reduceNeg, Int.reduceToNat, List.reduceReplicate, Int.ofNat_le, List.getElem?_drop, h1]
  refine IsGroupPrime_ok ?_
  by_cases hp : isP p
  rotate_left
  · simp only [pwA, if_true, if_false, eq_self, nm_eq, reduceCtorEq, ↓reduceIte, Nat.reduceEqDiff, Nat.reduceLeDiff, Nat.reduceBEq, Nat.reduceAdd, Nat.reduceLT, Nat.reduceSub, Nat.reduceMul, Int.reduceEq, Int.reduceLT, Int.reduceLE, Int.reduceNeg, Int.reduceToNat, List.reduceReplicate, Int.ofNat_le, List.getElem?_drop, hp]
    exact Gh.fin0 (keep_new σ _) trivial (hk _ (fl no))
  simp only [pwA, if_true, if_false, eq_self, nm_eq, reduceCtorEq, ↓reduceIte, Nat.reduceEqDiff, Nat.reduceLeDiff, Nat.reduceBEq, Nat.reduceAdd, Nat.reduceLT, Nat.reduceSub, Nat.reduceMul, Int.reduceEq, Int.reduceLT, Int.reduceLE, Int.reduceNeg, Int.reduceToNat, List.reduceReplicate, Int.ofNat_le, List.getElem?_drop, hp]
  refine inside_ok ?_
  by_cases hc : 0 ≤ c ∧ c ≤ 8
  rotate_left
  · simp only [pwA, if_true, if_false, eq_self, nm_eq, reduceCtorEq, ↓reduceIte, Nat.reduceEqDiff, Nat.reduceLeDiff, Nat.reduceBEq, Nat.reduceAdd, Nat.reduceLT, Nat.reduceSub, Nat.reduceMul, Int.reduceEq, Int.reduceLT, Int.reduceLE, Int.reduceNeg, Int.reduceToNat, List.reduceReplicate, Int.ofNat_le, List.getElem?_drop, hc]
    exact Gh.fin0 (keep_new σ _) trivial (hk _ (fl no))
  have hl : (8 : Int) < (F.length : Int) := by
    have : ¬ F.length ≤ 8 := fun h => hm ⟨hp, hc, h⟩
    omega
  simp only [pwA, if_true, if_false, eq_self, nm_eq, reduceCtorEq, ↓reduceIte, Nat.reduceEqDiff, Nat.reduceLeDiff, Nat.reduceBEq, Nat.reduceAdd, Nat.reduceLT, Nat.reduceSub, Nat.reduceMul, Int.reduceEq, Int.reduceLT, Int.reduceLE, Int.reduceNeg, Int.reduceToNat, List.reduceReplicate, Int.ofNat_le, List.getElem?_drop, hc, hl]
  exact Gh.fin0 (keep_new σ _) trivial (hk _ (fl no))
theorem l02Matrix_ok (sz : SzL F) (hF : FII vF F) (hk : ∀ t : Bool, (t = true ↔ isMx p c F) → K (.bool t) σ) : PCalls Try.prog 74 [.agg [.int .i64 p, .int .i64 c, vF]] σ K := by
  have fl : ∀ {A : Prop}, ¬ A → ((false = true) ↔ A) := fun h => ⟨fun x => (by cases x), fun x => absurd x h⟩
  have h1 := hF.one
  have szl := sz.l
  obtain ⟨wA, aA, rA, rfl, hrA⟩ := hF
  refine PCalls.gh ?_
  have hkp := keep_new σ [.int .i64 p, .int .i64 c, .fz wA aA F.length rA]
  have no : ¬ isMx p c F → Gh σ K (.bool false) (σ.new [.int .i64 p, .int .i64 c, .fz wA aA F.length rA]) := fun h => Gh.fin0 hkp trivial (hk _ (fl h))
  refine pcalls_of_vp mix Try.func74 cf74 rfl ?_
  dsimp only [if74, qI, eI, nI, qD, eD]
  simp only [pwA, if_true, if_false, eq_self, nm_eq, reduceCtorEq, ↓reduceIte, Nat.reduceEqDiff, Nat.reduceLeDiff, Nat.reduceBEq, Nat.reduceAdd, Nat.reduceLT, Nat.reduceSub, Nat.reduceMul, Int.reduceEq, Int.reduceLT, Int.reduceLE, Int.reduceNeg, Int.reduceToNat, List.reduceReplicate, Int.ofNat_le, List.getElem?_drop, h1]
  refine l01Prime_ok ?_
  by_cases hp : isP p
  rotate_left
  · simp only [pwA, if_true, if_false, eq_self, nm_eq, reduceCtorEq, ↓reduceIte, Nat.reduceEqDiff, Nat.reduceLeDiff, Nat.reduceBEq, Nat.reduceAdd, Nat.reduceLT, Nat.reduceSub, Nat.reduceMul, Int.reduceEq, Int.reduceLT, Int.reduceLE, Int.reduceNeg, Int.reduceToNat, List.reduceReplicate, Int.ofNat_le, List.getElem?_drop, hp]
    exact no fun h => hp h.1
  have hpb := hp.bd
  simp only [pwA, if_true, if_false, eq_self, nm_eq, reduceCtorEq, ↓reduceIte, Nat.reduceEqDiff, Nat.reduceLeDiff, Nat.reduceBEq, Nat.reduceAdd, Nat.reduceLT, Nat.reduceSub, Nat.reduceMul, Int.reduceEq, Int.reduceLT, Int.reduceLE, Int.reduceNeg, Int.reduceToNat, List.reduceReplicate, Int.ofNat_le, List.getElem?_drop, hp]
  refine l01In_ok ?_
  by_cases hc : 0 ≤ c ∧ c ≤ 8
  rotate_left
  · simp only [pwA, if_true, if_false, eq_self, nm_eq, reduceCtorEq, ↓reduceIte, Nat.reduceEqDiff, Nat.reduceLeDiff, Nat.reduceBEq, Nat.reduceAdd, Nat.reduceLT, Nat.reduceSub, Nat.reduceMul, Int.reduceEq, Int.reduceLT, Int.reduceLE, Int.reduceNeg, Int.reduceToNat, List.reduceReplicate, Int.ofNat_le, List.getElem?_drop, hc]
    exact no fun h => hc h.2.1
  by_cases hl : F.length ≤ 8
  rotate_left
  · have hl' : (8 : Int) < (F.length : Int) := by omega
    simp only [pwA, if_true, if_false, eq_self, nm_eq, reduceCtorEq, ↓reduceIte, Nat.reduceEqDiff, Nat.reduceLeDiff, Nat.reduceBEq, Nat.reduceAdd, Nat.reduceLT, Nat.reduceSub, Nat.reduceMul, Int.reduceEq, Int.reduceLT, Int.reduceLE, Int.reduceNeg, Int.reduceToNat, List.reduceReplicate, Int.ofNat_le, List.getElem?_drop, hc, hl']
    exact no fun h => hl h.2.2.1
  have hl' : ¬ (8 : Int) < (F.length : Int) := by omega
  obtain ⟨n, hn⟩ : ∃ n : Nat, c = (n : Int) := ⟨c.toNat, by omega⟩
  subst hn
  have hcn : ((n : Int)).toNat = n := rfl
  simp only [pwA, if_true, if_false, eq_self, nm_eq, reduceCtorEq, ↓reduceIte, Nat.reduceEqDiff, Nat.reduceLeDiff, Nat.reduceBEq, Nat.reduceAdd, Nat.reduceLT, Nat.reduceSub, Nat.reduceMul, Int.reduceEq, Int.reduceLT, Int.reduceLE, Int.reduceNeg, Int.reduceToNat, List.reduceReplicate, Int.ofNat_le, List.getElem?_drop, hc, hl']
  refine vp_loop (fun m vs h' => ∃ i : Nat, i ≤ F.length ∧ m = F.length - i ∧ vs = [.ptr σ.next 0, .int .i64 i] ∧ σ.new [.int .i64 p, .int .i64 n, .fz wA aA F.length rA] = h' ∧ ∀ r ∈ F.take i, Ve p n r) F.length ?_ ?_
  · exact ⟨0, by omega, by omega, rfl, rfl, by simp⟩
  rintro m vs h' ⟨i, hi, rfl, rfl, rfl, hall⟩
  simp only [pwA, if_true, if_false, eq_self, nm_eq, reduceCtorEq, ↓reduceIte, Nat.reduceEqDiff, Nat.reduceLeDiff, Nat.reduceBEq, Nat.reduceAdd, Nat.reduceLT, Nat.reduceSub, Nat.reduceMul, Int.reduceEq, Int.reduceLT, Int.reduceLE, Int.reduceNeg, Int.reduceToNat, List.reduceReplicate, Int.ofNat_le, List.getElem?_drop]
  refine iteI (fun hlt => ?_) fun hge => ?_
  rotate_left
  · exact Gh.fin0 hkp trivial (hk _ ⟨fun _ => ⟨hp, hc, hl, fun r hr => hall r (by rwa [List.take_of_length_le (by omega)])⟩, fun _ => rfl⟩)
  obtain ⟨w4, a4, hr⟩ := hrA.rowI hlt
  have hb := sz.r _ (List.getElem_mem hlt)
  simp only [pwA, if_true, if_false, eq_self, nm_eq, reduceCtorEq, ↓reduceIte, Nat.reduceEqDiff, Nat.reduceLeDiff, Nat.reduceBEq, Nat.reduceAdd, Nat.reduceLT, Nat.reduceSub, Nat.reduceMul, Int.reduceEq, Int.reduceLT, Int.reduceLE, Int.reduceNeg, Int.reduceToNat, List.reduceReplicate, Int.ofNat_le, List.getElem?_drop, hlt, hr, List.getElem?_drop]
  refine l02Vector_ok rfl (by omega) (by omega) (by omega) ?_
  by_cases hv : isVec F[i] p (n : Int)
  · simp only [pwA, if_true, if_false, eq_self, nm_eq, reduceCtorEq, ↓reduceIte, Nat.reduceEqDiff, Nat.reduceLeDiff, Nat.reduceBEq, Nat.reduceAdd, Nat.reduceLT, Nat.reduceSub, Nat.reduceMul, Int.reduceEq, Int.reduceLT, Int.reduceLE, Int.reduceNeg, Int.reduceToNat, List.reduceReplicate, Int.ofNat_le, List.getElem?_drop, hv, wrapS hlt (by omega : F.length ≤ 4611686018427387904)]
    refine ⟨_, by omega, i + 1, by omega, rfl, rfl, fun r hr => ?_⟩
    rw [List.take_succ_eq_append_getElem hlt, List.mem_append, List.mem_singleton] at hr
    rcases hr with hr | rfl
    · exact hall r hr
    · exact (ve_iff (by omega)).1 hv
  · simp only [pwA, if_true, if_false, eq_self, nm_eq, reduceCtorEq, ↓reduceIte, Nat.reduceEqDiff, Nat.reduceLeDiff, Nat.reduceBEq, Nat.reduceAdd, Nat.reduceLT, Nat.reduceSub, Nat.reduceMul, Int.reduceEq, Int.reduceLT, Int.reduceLE, Int.reduceNeg, Int.reduceToNat, List.reduceReplicate, Int.ofNat_le, List.getElem?_drop, hv]
    exact no fun h => hv ((ve_iff (by omega)).2 (h.2.2.2 _ (List.getElem_mem hlt)))
theorem szMatrix_ok {l : Int} (hF : FII vF F) (mx : F.length ≤ 9223372036854775807) (my : ∀ x ∈ F, x.length ≤ 9223372036854775807) (hl : left_ l) (hk : ∀ r : Int, (r = -1 ∨ (left_ r ∧ SzL F)) → K (.int .i64 r) σ) : PCalls Try.prog 33 [.agg [.int .i64 p, .int .i64 c, vF], .int .i64 l] σ K := by
  have h1 := hF.one
  refine PCalls.gh ?_
  have hkp := keep_new σ [.int .i64 p, .int .i64 c, vF]
  refine pcalls_of_vp mix Try.func33 cf33 rfl ?_
  dsimp only [if33, qI, eI, nI, qD, eD]
  simp only [pwA, if_true, if_false, eq_self, nm_eq, reduceCtorEq, ↓reduceIte, Nat.reduceEqDiff, Nat.reduceLeDiff, Nat.reduceBEq, Nat.reduceAdd, Nat.reduceLT, Nat.reduceSub, Nat.reduceMul, Int.reduceEq, Int.reduceLT, Int.reduceLE, Int.reduceNeg, Int.reduceToNat, List.reduceReplicate, Int.ofNat_le, List.getElem?_drop, h1]
  refine szInt64SS_ok hF mx my hl fun r h => ?_
  rcases h with rfl | ⟨g1, g2⟩
  · simp only [pwA, if_true, if_false, eq_self, nm_eq, reduceCtorEq, ↓reduceIte, Nat.reduceEqDiff, Nat.reduceLeDiff, Nat.reduceBEq, Nat.reduceAdd, Nat.reduceLT, Nat.reduceSub, Nat.reduceMul, Int.reduceEq, Int.reduceLT, Int.reduceLE, Int.reduceNeg, Int.reduceToNat, List.reduceReplicate, Int.ofNat_le, List.getElem?_drop]
    exact Gh.fin0 hkp trivial (hk _ (.inl rfl))
  have : ¬ r < 0 := by unfold left_ at g1; omega
  simp only [pwA, if_true, if_false, eq_self, nm_eq, reduceCtorEq, ↓reduceIte, Nat.reduceEqDiff, Nat.reduceLeDiff, Nat.reduceBEq, Nat.reduceAdd, Nat.reduceLT, Nat.reduceSub, Nat.reduceMul, Int.reduceEq, Int.reduceLT, Int.reduceLE, Int.reduceNeg, Int.reduceToNat, List.reduceReplicate, Int.ofNat_le, List.getElem?_drop, this]
  exact Gh.fin0 hkp trivial (hk _ (.inr ⟨g1, g2⟩))
theorem toMatrix_fz (hF : FII vF F) (sz : SzL F) (hk : ∀ v, FII v F → K (.agg [.int .i64 p, .int .i64 c, v]) σ) : PCalls Try.prog 35 [.agg [.int .i64 p, .int .i64 c, vF]] σ K := by
  have h1 := hF.one
  refine PCalls.gh ?_
  refine pcalls_of_vp mix Try.func35 cf35 rfl ?_
  dsimp only [if35, qI, eI, nI, qD, eD]
  simp only [pwA, if_true, if_false, eq_self, nm_eq, reduceCtorEq, ↓reduceIte, Nat.reduceEqDiff, Nat.reduceLeDiff, Nat.reduceBEq, Nat.reduceAdd, Nat.reduceLT, Nat.reduceSub, Nat.reduceMul, Int.reduceEq, Int.reduceLT, Int.reduceLE, Int.reduceNeg, Int.reduceToNat, List.reduceReplicate, Int.ofNat_le, List.getElem?_drop, h1]
  refine toInt64SS_fz hF sz fun v1 hv1 => ?_
  simp only [pwA, if_true, if_false, eq_self, nm_eq, reduceCtorEq, ↓reduceIte, Nat.reduceEqDiff, Nat.reduceLeDiff, Nat.reduceBEq, Nat.reduceAdd, Nat.reduceLT, Nat.reduceSub, Nat.reduceMul, Int.reduceEq, Int.reduceLT, Int.reduceLE, Int.reduceNeg, Int.reduceToNat, List.reduceReplicate, Int.ofNat_le, List.getElem?_drop, hv1.cells, hv1.one]
  exact Gh.fin0 (v := .agg [.int .i64 p, .int .i64 c, v1]) (((keep_new σ _).new _).new _) ⟨trivial, trivial, hv1.bel _, trivial⟩ (hk v1 hv1)
theorem eqMatrix_ok {c' : Int} (hF : FII vF F) (hF' : FII vF' F') (sz : SzL F) (hk : ∀ t : Bool, (t = true ↔ p = p' ∧ c = c' ∧ F = F') → K (.bool t) σ) : PCalls Try.prog 30 [.agg [.int .i64 p, .int .i64 c, vF], .agg [.int .i64 p', .int .i64 c', vF']] σ K := by
  have h1 := hF.one
  have h2 := hF'.one
  refine PCalls.gh ?_
  have hkp : Keep σ ((σ.new [.int .i64 p, .int .i64 c, vF]).new [.int .i64 p', .int .i64 c', vF']) := (keep_new σ _).new _
  have fin : ∀ {t : Bool}, (t = true ↔ p = p' ∧ c = c' ∧ F = F') → Gh σ K (.bool t) ((σ.new [.int .i64 p, .int .i64 c, vF]).new [.int .i64 p', .int .i64 c', vF']) := fun h => Gh.fin0 hkp trivial (hk _ h)
  have fl : ∀ {A : Prop}, ¬ A → ((false = true) ↔ A) := fun h => ⟨fun x => (by cases x), fun x => absurd x h⟩
  refine pcalls_of_vp mix Try.func30 cf30 rfl ?_
  dsimp only [if30, qI, eI, nI, qD, eD]
  by_cases e1 : p = p'
  rotate_left
  · simp only [pwA, if_true, if_false, eq_self, nm_eq, reduceCtorEq, ↓reduceIte, Nat.reduceEqDiff, Nat.reduceLeDiff, Nat.reduceBEq, Nat.reduceAdd, Nat.reduceLT, Nat.reduceSub, Nat.reduceMul, Int.reduceEq, Int.reduceLT, Int.reduceLE, Int.reduceNeg, Int.reduceToNat, List.reduceReplicate, Int.ofNat_le, List.getElem?_drop, h1, h2, e1]
    exact fin (fl fun h => e1 h.1)
  by_cases e2 : c = c'
  rotate_left
  · simp only [pwA, if_true, if_false, eq_self, nm_eq, reduceCtorEq, ↓reduceIte, Nat.reduceEqDiff, Nat.reduceLeDiff, Nat.reduceBEq, Nat.reduceAdd, Nat.reduceLT, Nat.reduceSub, Nat.reduceMul, Int.reduceEq, Int.reduceLT, Int.reduceLE, Int.reduceNeg, Int.reduceToNat, List.reduceReplicate, Int.ofNat_le, List.getElem?_drop, h1, h2, eq_true e1, e2]
    exact fin (fl fun h => e2 h.2.1)
  simp only [pwA, if_true, if_false, eq_self, nm_eq, reduceCtorEq, ↓reduceIte, Nat.reduceEqDiff, Nat.reduceLeDiff, Nat.reduceBEq, Nat.reduceAdd, Nat.reduceLT, Nat.reduceSub, Nat.reduceMul, Int.reduceEq, Int.reduceLT, Int.reduceLE, Int.reduceNeg, Int.reduceToNat, List.reduceReplicate, Int.ofNat_le, List.getElem?_drop, h1, h2, eq_true e1, eq_true e2]
  refine eqInt64SS_ok hF hF' sz fun t ht' => ?_
  have := fin (t := t) ⟨fun h => ⟨e1, e2, ht'.1 h⟩, fun h => ht'.2 h.2.2⟩
  cases t with
  | false =>
    simp only [pwA, if_true, if_false, eq_self, nm_eq, reduceCtorEq, ↓reduceIte, Nat.reduceEqDiff, Nat.reduceLeDiff, Nat.reduceBEq, Nat.reduceAdd, Nat.reduceLT, Nat.reduceSub, Nat.reduceMul, Int.reduceEq, Int.reduceLT, Int.reduceLE, Int.reduceNeg, Int.reduceToNat, List.reduceReplicate, Int.ofNat_le, List.getElem?_drop]
    exact this
  | true =>
    simp only [pwA, if_true, if_false, eq_self, nm_eq, reduceCtorEq, ↓reduceIte, Nat.reduceEqDiff, Nat.reduceLeDiff, Nat.reduceBEq, Nat.reduceAdd, Nat.reduceLT, Nat.reduceSub, Nat.reduceMul, Int.reduceEq, Int.reduceLT, Int.reduceLE, Int.reduceNeg, Int.reduceToNat, List.reduceReplicate, Int.ofNat_le, List.getElem?_drop]
    exact this
/-- A map of modules. -/
def modMap (p : Int) (n n' : Nat) (As Bs : List (List (List Int))) (F : List (List Int)) : Prop := ∀ i, i < As.length → mm p n' (mat As i) F = mm p n' F (mat Bs i)
theorem isModuleMap_ok (hp : 2 ≤ p ∧ p ≤ 7) (hn : n ≤ 3) (hn' : n' ≤ 3) (hq : SqL p n As) (hq' : SqL p n' Bs) (hlen : As.length = Bs.length) (hal : As.length ≤ 1048576) (hFl : F.length = n) (hFm : Ma p n' F) (hs : PtrR σ s p (.int .i64 n) vA) (hs' : PtrR σ s' p (.int .i64 n') vB) (hA : FIII vA As) (hB : FIII vB Bs) (hF : FII vF F)
    (hk : ∀ t : Bool, (t = true ↔ modMap p n n' As Bs F) → K (.bool t) σ) : PCalls Try.prog 77 [.ptr s 0, .ptr s' 0, .agg [.int .i64 p, .int .i64 n', vF]] σ K := by
  have fl : ∀ {A : Prop}, ¬ A → ((false = true) ↔ A) := fun h => ⟨fun x => (by cases x), fun x => absurd x h⟩
  have h1 := hF.one
  have hA0 := hA
  have hsl := hs.lt
  have hsl' := hs'.lt
  obtain ⟨wA, aA, rA, rfl, hrA⟩ := hA
  have e2 : σ.rd1 s 2 = some (.fz wA aA As.length rA) := by rw [obj_rd1 hs.obj]; rfl
  have hne : ¬ s = σ.next := by omega
  refine PCalls.gh ?_
  have hkp := keep_new σ [.int .i64 p, .int .i64 n', vF]
  refine pcalls_of_vp mix Try.func77 cf77 rfl ?_
  dsimp only [if77, qI, eI, nI, qD, eD]
  simp only [pwA, if_true, if_false, eq_self, nm_eq, reduceCtorEq, ↓reduceIte, Nat.reduceEqDiff, Nat.reduceLeDiff, Nat.reduceBEq, Nat.reduceAdd, Nat.reduceLT, Nat.reduceSub, Nat.reduceMul, Int.reduceEq, Int.reduceLT, Int.reduceLE, Int.reduceNeg, Int.reduceToNat, List.reduceReplicate, Int.ofNat_le, List.getElem?_drop, h1, e2, hne]
  refine vp_loop (fun m vs h' => ∃ i : Nat, i ≤ As.length ∧ m = As.length - i ∧ vs = [.ptr s 0, .ptr s' 0, .ptr σ.next 0, .int .i64 As.length, .int .i64 i] ∧ σ.new [.int .i64 p, .int .i64 n', vF] = h' ∧ ∀ j, j < i → mm p n' (mat As j) F = mm p n' F (mat Bs j)) As.length ?_ ?_
  · exact ⟨0, by omega, by omega, rfl, rfl, fun j hj => by omega⟩
  rintro m vs h' ⟨i, hi, rfl, rfl, rfl, hall⟩
  simp only [pwA, if_true, if_false, eq_self, nm_eq, reduceCtorEq, ↓reduceIte, Nat.reduceEqDiff, Nat.reduceLeDiff, Nat.reduceBEq, Nat.reduceAdd, Nat.reduceLT, Nat.reduceSub, Nat.reduceMul, Int.reduceEq, Int.reduceLT, Int.reduceLE, Int.reduceNeg, Int.reduceToNat, List.reduceReplicate, Int.ofNat_le, List.getElem?_drop]
  refine iteI (fun hlt => ?_) fun hge => ?_
  rotate_left
  · exact Gh.fin0 hkp trivial (hk _ ⟨fun _ j hj => hall j (by omega), fun _ => rfl⟩)
  have hltB : i < Bs.length := by omega
  have hm := hq.mat hlt
  have hm' := hq'.mat hltB
  rw [mat_eq hlt] at hm
  rw [mat_eq hltB] at hm'
  simp only [pwA, if_true, if_false, eq_self, nm_eq, reduceCtorEq, ↓reduceIte, Nat.reduceEqDiff, Nat.reduceLeDiff, Nat.reduceBEq, Nat.reduceAdd, Nat.reduceLT, Nat.reduceSub, Nat.reduceMul, Int.reduceEq, Int.reduceLT, Int.reduceLE, Int.reduceNeg, Int.reduceToNat, List.reduceReplicate, Int.ofNat_le, List.getElem?_drop]
  refine actionAt_ok (hs.new _) hA0 hlt fun v1 hv1 => ?_
  simp only [pwA, if_true, if_false, eq_self, nm_eq, reduceCtorEq, ↓reduceIte, Nat.reduceEqDiff, Nat.reduceLeDiff, Nat.reduceBEq, Nat.reduceAdd, Nat.reduceLT, Nat.reduceSub, Nat.reduceMul, Int.reduceEq, Int.reduceLT, Int.reduceLE, Int.reduceNeg, Int.reduceToNat, List.reduceReplicate, Int.ofNat_le, List.getElem?_drop]
  refine product_ok hp (by rw [hFl]; exact hm.2) hFm (by omega) (by omega) (by rw [hm.1]; omega) hv1 hF rfl fun v2 hv2 => ?_
  simp only [pwA, if_true, if_false, eq_self, nm_eq, reduceCtorEq, ↓reduceIte, Nat.reduceEqDiff, Nat.reduceLeDiff, Nat.reduceBEq, Nat.reduceAdd, Nat.reduceLT, Nat.reduceSub, Nat.reduceMul, Int.reduceEq, Int.reduceLT, Int.reduceLE, Int.reduceNeg, Int.reduceToNat, List.reduceReplicate, Int.ofNat_le, List.getElem?_drop]
  refine actionAt_ok (hs'.new _) hB hltB fun v3 hv3 => ?_
  simp only [pwA, if_true, if_false, eq_self, nm_eq, reduceCtorEq, ↓reduceIte, Nat.reduceEqDiff, Nat.reduceLeDiff, Nat.reduceBEq, Nat.reduceAdd, Nat.reduceLT, Nat.reduceSub, Nat.reduceMul, Int.reduceEq, Int.reduceLT, Int.reduceLE, Int.reduceNeg, Int.reduceToNat, List.reduceReplicate, Int.ofNat_le, List.getElem?_drop]
  refine product_ok hp (by rw [hm'.1]; exact hFm) hm'.2 (by omega) (by rw [hm'.1]; omega) (by omega) hF hv3 rfl fun v4 hv4 => ?_
  have z1 := mm_ma (p := p) (n := n') (A := As[i]) (B := F) (by omega) (by rw [hFl]; exact hm.2) hFm
  have z1l : (mm p n' As[i] F).length = n := by rw [mm_length, hm.1]
  simp only [pwA, if_true, if_false, eq_self, nm_eq, reduceCtorEq, ↓reduceIte, Nat.reduceEqDiff, Nat.reduceLeDiff, Nat.reduceBEq, Nat.reduceAdd, Nat.reduceLT, Nat.reduceSub, Nat.reduceMul, Int.reduceEq, Int.reduceLT, Int.reduceLE, Int.reduceNeg, Int.reduceToNat, List.reduceReplicate, Int.ofNat_le, List.getElem?_drop, hv2.one, hv4.one]
  refine sameRows_ok hv2 hv4 (by omega) (fun x hx => by rw [(z1 x hx).len]; omega) fun t3 ht3 => ?_
  cases t3 with
  | false =>
    simp only [pwA, if_true, if_false, eq_self, nm_eq, reduceCtorEq, ↓reduceIte, Nat.reduceEqDiff, Nat.reduceLeDiff, Nat.reduceBEq, Nat.reduceAdd, Nat.reduceLT, Nat.reduceSub, Nat.reduceMul, Int.reduceEq, Int.reduceLT, Int.reduceLE, Int.reduceNeg, Int.reduceToNat, List.reduceReplicate, Int.ofNat_le, List.getElem?_drop]
    refine Gh.fin0 hkp trivial (hk _ (fl fun h => ?_))
    have := h i hlt
    rw [mat_eq hlt, mat_eq hltB] at this
    cases ht3.2 this
  | true =>
    simp only [pwA, if_true, if_false, eq_self, nm_eq, reduceCtorEq, ↓reduceIte, Nat.reduceEqDiff, Nat.reduceLeDiff, Nat.reduceBEq, Nat.reduceAdd, Nat.reduceLT, Nat.reduceSub, Nat.reduceMul, Int.reduceEq, Int.reduceLT, Int.reduceLE, Int.reduceNeg, Int.reduceToNat, List.reduceReplicate, Int.ofNat_le, List.getElem?_drop, wrapS hlt (by omega : As.length ≤ 4611686018427387904)]
    refine ⟨_, by omega, i + 1, by omega, rfl, rfl, fun j hj => ?_⟩
    by_cases e : j = i
    · subst e
      rw [mat_eq hlt, mat_eq hltB]
      exact ht3.1 rfl
    · exact hall j (by omega)
theorem l21Map_ok (hp : 2 ≤ p ∧ p ≤ 7) (hn : n ≤ 3) (hn' : n' ≤ 3) (hq : SqL p n As) (hq' : SqL p n' Bs) (hlen : As.length = Bs.length) (hal : As.length ≤ 1048576) (hFl : F.length = n) (hFm : Ma p n' F) (hA : FIII vA As) (hB : FIII vB Bs) (hF : FII vF F)
    (hk : ∀ t : Bool, (t = true ↔ modMap p n n' As Bs F) → K (.bool t) σ) : PCalls Try.prog 75 [.agg [.int .i64 p, .int .i64 n, vA], .agg [.int .i64 p, .int .i64 n', vB], vF] σ K := by
  have fl : ∀ {A : Prop}, ¬ A → ((false = true) ↔ A) := fun h => ⟨fun x => (by cases x), fun x => absurd x h⟩
  have h1 := hA.one
  have h2 := hB.one
  have hA0 := hA
  obtain ⟨wA, aA, rA, rfl, hrA⟩ := hA
  obtain ⟨wB, aB, rB, rfl, hrB⟩ := hB
  refine PCalls.gh ?_
  have hkp : Keep σ ((σ.new [.int .i64 p, .int .i64 n, .fz wA aA As.length rA]).new [.int .i64 p, .int .i64 n', .fz wB aB Bs.length rB]) := (keep_new σ _).new _
  refine pcalls_of_vp mix Try.func75 cf75 rfl ?_
  dsimp only [if75, qI, eI, nI, qD, eD]
  simp only [pwA, if_true, if_false, eq_self, nm_eq, reduceCtorEq, ↓reduceIte, Nat.reduceEqDiff, Nat.reduceLeDiff, Nat.reduceBEq, Nat.reduceAdd, Nat.reduceLT, Nat.reduceSub, Nat.reduceMul, Int.reduceEq, Int.reduceLT, Int.reduceLE, Int.reduceNeg, Int.reduceToNat, List.reduceReplicate, Int.ofNat_le, List.getElem?_drop, h1, h2]
  refine vp_loop (fun m vs h' => ∃ i : Nat, i ≤ As.length ∧ m = As.length - i ∧ vs = [vF, .ptr σ.next 0, .ptr (σ.next + 1) 0, .int .i64 i] ∧ (σ.new [.int .i64 p, .int .i64 n, .fz wA aA As.length rA]).new [.int .i64 p, .int .i64 n', .fz wB aB Bs.length rB] = h' ∧ ∀ j, j < i → mm p n' (mat As j) F = mm p n' F (mat Bs j)) As.length ?_ ?_
  · exact ⟨0, by omega, by omega, rfl, rfl, fun j hj => by omega⟩
  rintro m vs h' ⟨i, hi, rfl, rfl, rfl, hall⟩
  simp only [pwA, if_true, if_false, eq_self, nm_eq, reduceCtorEq, ↓reduceIte, Nat.reduceEqDiff, Nat.reduceLeDiff, Nat.reduceBEq, Nat.reduceAdd, Nat.reduceLT, Nat.reduceSub, Nat.reduceMul, Int.reduceEq, Int.reduceLT, Int.reduceLE, Int.reduceNeg, Int.reduceToNat, List.reduceReplicate, Int.ofNat_le, List.getElem?_drop]
  refine iteI (fun hlt => ?_) fun hge => ?_
  rotate_left
  · exact Gh.fin0 hkp trivial (hk _ ⟨fun _ j hj => hall j (by omega), fun _ => rfl⟩)
  have hltB : i < Bs.length := by omega
  have hm := hq.mat hlt
  have hm' := hq'.mat hltB
  rw [mat_eq hlt] at hm
  rw [mat_eq hltB] at hm'
  obtain ⟨w4, a4, rs, hr, hrs⟩ := hrA.rowL hlt
  obtain ⟨w5, a5, rs5, hr5, hrs5⟩ := hrB.rowL hltB
  simp only [pwA, if_true, if_false, eq_self, nm_eq, reduceCtorEq, ↓reduceIte, Nat.reduceEqDiff, Nat.reduceLeDiff, Nat.reduceBEq, Nat.reduceAdd, Nat.reduceLT, Nat.reduceSub, Nat.reduceMul, Int.reduceEq, Int.reduceLT, Int.reduceLE, Int.reduceNeg, Int.reduceToNat, List.reduceReplicate, Int.ofNat_le, List.getElem?_drop, hlt, hltB, hr, hr5, List.getElem?_drop]
  refine l02Product_ok hp (by rw [hFl]; exact hm.2) hFm (by omega) (by omega) (by rw [hm.1]; omega) ⟨w4, a4, rs, rfl, hrs⟩ hF fun v2 hv2 => ?_
  simp only [pwA, if_true, if_false, eq_self, nm_eq, reduceCtorEq, ↓reduceIte, Nat.reduceEqDiff, Nat.reduceLeDiff, Nat.reduceBEq, Nat.reduceAdd, Nat.reduceLT, Nat.reduceSub, Nat.reduceMul, Int.reduceEq, Int.reduceLT, Int.reduceLE, Int.reduceNeg, Int.reduceToNat, List.reduceReplicate, Int.ofNat_le, List.getElem?_drop, hlt, hltB, hr, hr5, List.getElem?_drop]
  refine l02Product_ok hp (by rw [hm'.1]; exact hFm) hm'.2 (by omega) (by rw [hm'.1]; omega) (by omega) hF ⟨w5, a5, rs5, rfl, hrs5⟩ fun v4 hv4 => ?_
  have z1 := mm_ma (p := p) (n := n') (A := As[i]) (B := F) (by omega) (by rw [hFl]; exact hm.2) hFm
  have z1l : (mm p n' As[i] F).length = n := by rw [mm_length, hm.1]
  simp only [pwA, if_true, if_false, eq_self, nm_eq, reduceCtorEq, ↓reduceIte, Nat.reduceEqDiff, Nat.reduceLeDiff, Nat.reduceBEq, Nat.reduceAdd, Nat.reduceLT, Nat.reduceSub, Nat.reduceMul, Int.reduceEq, Int.reduceLT, Int.reduceLE, Int.reduceNeg, Int.reduceToNat, List.reduceReplicate, Int.ofNat_le, List.getElem?_drop]
  refine l01Same2_ok hv2 hv4 (by omega) (fun x hx => by rw [(z1 x hx).len]; omega) fun t3 ht3 => ?_
  cases t3 with
  | false =>
    simp only [pwA, if_true, if_false, eq_self, nm_eq, reduceCtorEq, ↓reduceIte, Nat.reduceEqDiff, Nat.reduceLeDiff, Nat.reduceBEq, Nat.reduceAdd, Nat.reduceLT, Nat.reduceSub, Nat.reduceMul, Int.reduceEq, Int.reduceLT, Int.reduceLE, Int.reduceNeg, Int.reduceToNat, List.reduceReplicate, Int.ofNat_le, List.getElem?_drop]
    refine Gh.fin0 hkp trivial (hk _ (fl fun h => ?_))
    have := h i hlt
    rw [mat_eq hlt, mat_eq hltB] at this
    cases ht3.2 this
  | true =>
    simp only [pwA, if_true, if_false, eq_self, nm_eq, reduceCtorEq, ↓reduceIte, Nat.reduceEqDiff, Nat.reduceLeDiff, Nat.reduceBEq, Nat.reduceAdd, Nat.reduceLT, Nat.reduceSub, Nat.reduceMul, Int.reduceEq, Int.reduceLT, Int.reduceLE, Int.reduceNeg, Int.reduceToNat, List.reduceReplicate, Int.ofNat_le, List.getElem?_drop, wrapS hlt (by omega : As.length ≤ 4611686018427387904)]
    refine ⟨_, by omega, i + 1, by omega, rfl, rfl, fun j hj => ?_⟩
    by_cases e : j = i
    · subst e
      rw [mat_eq hlt, mat_eq hltB]
      exact ht3.1 rfl
    · exact hall j (by omega)
end Go.Proofs
set_option linter.unusedSimpArgs false
set_option linter.unusedVariables false
namespace Go.Proofs
open Go.Ab Go.Lie Go.Grp Go.Mx
variable {σ : PHeap} {K : PV → PHeap → Prop} {p d p' d' pf cf : Int} {n n' : Nat} {As Bs : List (List (List Int))} {F F' : List (List Int)} {vA vB vF vF' : PV} {O : List Int} {P : List (List Int)} {C : List (List (List Int))} {vO vP vC : PV} {s s' : Nat}
/-- The arguments fit. -/
def mapFit (O : List Int) (P : List (List Int)) (C : List (List (List Int))) (p d : Int) (As : List (List (List Int))) (p' d' : Int) (Bs : List (List (List Int))) (pf cf : Int) (F : List (List Int)) : Prop :=
  isMod O P C p d As ∧ isMod O P C p' d' Bs ∧ isMx pf cf F ∧ pf = p ∧ (F.length : Int) = d ∧ cf = d'
open Classical in
/-- The results. -/
noncomputable def mapRes (O : List Int) (P : List (List Int)) (C : List (List (List Int))) (p d : Int) (As : List (List (List Int))) (p' d' : Int) (Bs : List (List (List Int))) (pf cf : Int) (F : List (List Int)) : Bool × Int :=
  if mapFit O P C p d As p' d' Bs pf cf F then (if p = p' then (decide (modMap p d.toNat d'.toNat As Bs F), 0) else (false, 5)) else (false, 1)
theorem IsModuleMap_ok (hR : IsPr vO vP vC O P C) (sz : SzP O P C) (hA : FIII vA As) (szA : SzM As) (hB : FIII vB Bs) (szB : SzM Bs) (hF : FII vF F) (szF : SzL F)
    (hk : K (.tup [.bool (mapRes O P C p d As p' d' Bs pf cf F).1, .int .i64 (mapRes O P C p d As p' d' Bs pf cf F).2]) σ) :
    PCalls Try.prog 36 [.agg [vO, vP, vC], .agg [.int .i64 p, .int .i64 d, vA], .agg [.int .i64 p', .int .i64 d', vB], .agg [.int .i64 pf, .int .i64 cf, vF]] σ K := by
  have h0 := hR.O.one
  have h1 := hR.P.one
  have h2 := hR.C.one
  have h3 := hA.one
  have h4 := hB.one
  have h5 := hF.one
  have hF0 := hF
  obtain ⟨wF, aF, rF, rfl, hrF⟩ := hF
  refine PCalls.gh ?_
  generalize hH : (((σ.new [vO, vP, vC]).new [.int .i64 p, .int .i64 d, vA]).new [.int .i64 p', .int .i64 d', vB]).new [.int .i64 pf, .int .i64 cf, .fz wF aF F.length rF] = H
  have hkp : Keep σ H := by rw [← hH]; exact (((keep_new σ _).new _).new _).new _
  have hk1 : ∀ {b : Bool} {c : Int}, mapRes O P C p d As p' d' Bs pf cf F = (b, c) → Gh σ K (.tup [.bool b, .int .i64 c]) H := fun h => Gh.fin0 hkp ⟨trivial, trivial, trivial⟩ (by rw [h] at hk; exact hk)
  have no : ¬ mapFit O P C p d As p' d' Bs pf cf F → Gh σ K (.tup [.bool false, .int .i64 1]) H := fun h => hk1 (by unfold mapRes; rw [if_neg h])
  have gp : PtrG H σ.next vO vP vC := by rw [← hH]; exact ⟨by simp only [pwA, if_true, if_false, eq_self, nm_eq, reduceCtorEq, ↓reduceIte, Nat.reduceEqDiff, Nat.reduceLeDiff, Nat.reduceBEq, Nat.reduceAdd, Nat.reduceLT, Nat.reduceSub, Nat.reduceMul, Int.reduceEq, Int.reduceLT, Int.reduceLE, Int.reduceNeg, Int.reduceToNat, List.reduceReplicate, Int.ofNat_le, List.getElem?_drop], by simp only [pwA, if_true, if_false, eq_self, nm_eq, reduceCtorEq, ↓reduceIte, Nat.reduceEqDiff, Nat.reduceLeDiff, Nat.reduceBEq, Nat.reduceAdd, Nat.reduceLT, Nat.reduceSub, Nat.reduceMul, Int.reduceEq, Int.reduceLT, Int.reduceLE, Int.reduceNeg, Int.reduceToNat, List.reduceReplicate, Int.ofNat_le, List.getElem?_drop]; omega⟩
  have g1 : PtrR H (σ.next + 1) p (.int .i64 d) vA := by rw [← hH]; exact ⟨by simp only [pwA, if_true, if_false, eq_self, nm_eq, reduceCtorEq, ↓reduceIte, Nat.reduceEqDiff, Nat.reduceLeDiff, Nat.reduceBEq, Nat.reduceAdd, Nat.reduceLT, Nat.reduceSub, Nat.reduceMul, Int.reduceEq, Int.reduceLT, Int.reduceLE, Int.reduceNeg, Int.reduceToNat, List.reduceReplicate, Int.ofNat_le, List.getElem?_drop], by simp only [pwA, if_true, if_false, eq_self, nm_eq, reduceCtorEq, ↓reduceIte, Nat.reduceEqDiff, Nat.reduceLeDiff, Nat.reduceBEq, Nat.reduceAdd, Nat.reduceLT, Nat.reduceSub, Nat.reduceMul, Int.reduceEq, Int.reduceLT, Int.reduceLE, Int.reduceNeg, Int.reduceToNat, List.reduceReplicate, Int.ofNat_le, List.getElem?_drop]; omega⟩
  have g2 : PtrR H (σ.next + 2) p' (.int .i64 d') vB := by rw [← hH]; exact ⟨by simp only [pwA, if_true, if_false, eq_self, nm_eq, reduceCtorEq, ↓reduceIte, Nat.reduceEqDiff, Nat.reduceLeDiff, Nat.reduceBEq, Nat.reduceAdd, Nat.reduceLT, Nat.reduceSub, Nat.reduceMul, Int.reduceEq, Int.reduceLT, Int.reduceLE, Int.reduceNeg, Int.reduceToNat, List.reduceReplicate, Int.ofNat_le, List.getElem?_drop], by simp only [pwA, if_true, if_false, eq_self, nm_eq, reduceCtorEq, ↓reduceIte, Nat.reduceEqDiff, Nat.reduceLeDiff, Nat.reduceBEq, Nat.reduceAdd, Nat.reduceLT, Nat.reduceSub, Nat.reduceMul, Int.reduceEq, Int.reduceLT, Int.reduceLE, Int.reduceNeg, Int.reduceToNat, List.reduceReplicate, Int.ofNat_le, List.getElem?_drop]; omega⟩
  have g3 : H.rd (σ.next + 3) 0 3 = some [.int .i64 pf, .int .i64 cf, .fz wF aF F.length rF] := by rw [← hH]; simp only [pwA, if_true, if_false, eq_self, nm_eq, reduceCtorEq, ↓reduceIte, Nat.reduceEqDiff, Nat.reduceLeDiff, Nat.reduceBEq, Nat.reduceAdd, Nat.reduceLT, Nat.reduceSub, Nat.reduceMul, Int.reduceEq, Int.reduceLT, Int.reduceLE, Int.reduceNeg, Int.reduceToNat, List.reduceReplicate, Int.ofNat_le, List.getElem?_drop]
  have f0 : H.rd1 (σ.next + 3) 0 = some (.int .i64 pf) := by rw [← hH]; simp only [pwA, if_true, if_false, eq_self, nm_eq, reduceCtorEq, ↓reduceIte, Nat.reduceEqDiff, Nat.reduceLeDiff, Nat.reduceBEq, Nat.reduceAdd, Nat.reduceLT, Nat.reduceSub, Nat.reduceMul, Int.reduceEq, Int.reduceLT, Int.reduceLE, Int.reduceNeg, Int.reduceToNat, List.reduceReplicate, Int.ofNat_le, List.getElem?_drop]
  have f1 : H.rd1 (σ.next + 3) 1 = some (.int .i64 cf) := by rw [← hH]; simp only [pwA, if_true, if_false, eq_self, nm_eq, reduceCtorEq, ↓reduceIte, Nat.reduceEqDiff, Nat.reduceLeDiff, Nat.reduceBEq, Nat.reduceAdd, Nat.reduceLT, Nat.reduceSub, Nat.reduceMul, Int.reduceEq, Int.reduceLT, Int.reduceLE, Int.reduceNeg, Int.reduceToNat, List.reduceReplicate, Int.ofNat_le, List.getElem?_drop]
  have f2 : H.rd1 (σ.next + 3) 2 = some (.fz wF aF F.length rF) := by rw [← hH]; simp only [pwA, if_true, if_false, eq_self, nm_eq, reduceCtorEq, ↓reduceIte, Nat.reduceEqDiff, Nat.reduceLeDiff, Nat.reduceBEq, Nat.reduceAdd, Nat.reduceLT, Nat.reduceSub, Nat.reduceMul, Int.reduceEq, Int.reduceLT, Int.reduceLE, Int.reduceNeg, Int.reduceToNat, List.reduceReplicate, Int.ofNat_le, List.getElem?_drop]
  have m0 : H.rd1 (σ.next + 1) 0 = some (.int .i64 p) := by rw [obj_rd1 g1.obj]; rfl
  have m1 : H.rd1 (σ.next + 1) 1 = some (.int .i64 d) := by rw [obj_rd1 g1.obj]; rfl
  have q0 : H.rd1 (σ.next + 2) 0 = some (.int .i64 p') := by rw [obj_rd1 g2.obj]; rfl
  have q1 : H.rd1 (σ.next + 2) 1 = some (.int .i64 d') := by rw [obj_rd1 g2.obj]; rfl
  refine pcalls_of_vp mix Try.func36 cf36 rfl ?_
  dsimp only [if36, qI, eI, nI, qD, eD]
  simp only [pwA, if_true, if_false, eq_self, nm_eq, reduceCtorEq, ↓reduceIte, Nat.reduceEqDiff, Nat.reduceLeDiff, Nat.reduceBEq, Nat.reduceAdd, Nat.reduceLT, Nat.reduceSub, Nat.reduceMul, Int.reduceEq, Int.reduceLT, Int.reduceLE, Int.reduceNeg, Int.reduceToNat, List.reduceReplicate, Int.ofNat_le, List.getElem?_drop, h0, h1, h2, h3, h4, h5]
  rw [hH]
  refine isModule_ok gp hR sz g1 hA szA fun t ht => ?_
  cases t with
  | false =>
    simp only [pwA, if_true, if_false, eq_self, nm_eq, reduceCtorEq, ↓reduceIte, Nat.reduceEqDiff, Nat.reduceLeDiff, Nat.reduceBEq, Nat.reduceAdd, Nat.reduceLT, Nat.reduceSub, Nat.reduceMul, Int.reduceEq, Int.reduceLT, Int.reduceLE, Int.reduceNeg, Int.reduceToNat, List.reduceReplicate, Int.ofNat_le, List.getElem?_drop]
    exact no fun h => by cases ht.2 h.1
  | true =>
  have hm := ht.1 rfl
  simp only [pwA, if_true, if_false, eq_self, nm_eq, reduceCtorEq, ↓reduceIte, Nat.reduceEqDiff, Nat.reduceLeDiff, Nat.reduceBEq, Nat.reduceAdd, Nat.reduceLT, Nat.reduceSub, Nat.reduceMul, Int.reduceEq, Int.reduceLT, Int.reduceLE, Int.reduceNeg, Int.reduceToNat, List.reduceReplicate, Int.ofNat_le, List.getElem?_drop]
  refine isModule_ok gp hR sz g2 hB szB fun t ht => ?_
  cases t with
  | false =>
    simp only [pwA, if_true, if_false, eq_self, nm_eq, reduceCtorEq, ↓reduceIte, Nat.reduceEqDiff, Nat.reduceLeDiff, Nat.reduceBEq, Nat.reduceAdd, Nat.reduceLT, Nat.reduceSub, Nat.reduceMul, Int.reduceEq, Int.reduceLT, Int.reduceLE, Int.reduceNeg, Int.reduceToNat, List.reduceReplicate, Int.ofNat_le, List.getElem?_drop]
    exact no fun h => by cases ht.2 h.2.1
  | true =>
  have hm' := ht.1 rfl
  simp only [pwA, if_true, if_false, eq_self, nm_eq, reduceCtorEq, ↓reduceIte, Nat.reduceEqDiff, Nat.reduceLeDiff, Nat.reduceBEq, Nat.reduceAdd, Nat.reduceLT, Nat.reduceSub, Nat.reduceMul, Int.reduceEq, Int.reduceLT, Int.reduceLE, Int.reduceNeg, Int.reduceToNat, List.reduceReplicate, Int.ofNat_le, List.getElem?_drop, g3]
  refine IsMatrixG_ok szF hF0 fun t ht => ?_
  cases t with
  | false =>
    simp only [pwA, if_true, if_false, eq_self, nm_eq, reduceCtorEq, ↓reduceIte, Nat.reduceEqDiff, Nat.reduceLeDiff, Nat.reduceBEq, Nat.reduceAdd, Nat.reduceLT, Nat.reduceSub, Nat.reduceMul, Int.reduceEq, Int.reduceLT, Int.reduceLE, Int.reduceNeg, Int.reduceToNat, List.reduceReplicate, Int.ofNat_le, List.getElem?_drop]
    exact no fun h => by cases ht.2 h.2.2.1
  | true =>
  have hx := ht.1 rfl
  by_cases c1 : pf = p
  rotate_left
  · simp only [pwA, if_true, if_false, eq_self, nm_eq, reduceCtorEq, ↓reduceIte, Nat.reduceEqDiff, Nat.reduceLeDiff, Nat.reduceBEq, Nat.reduceAdd, Nat.reduceLT, Nat.reduceSub, Nat.reduceMul, Int.reduceEq, Int.reduceLT, Int.reduceLE, Int.reduceNeg, Int.reduceToNat, List.reduceReplicate, Int.ofNat_le, List.getElem?_drop, f0, m0, c1]
    exact no fun h => c1 h.2.2.2.1
  by_cases c2 : (F.length : Int) = d
  rotate_left
  · simp only [pwA, if_true, if_false, eq_self, nm_eq, reduceCtorEq, ↓reduceIte, Nat.reduceEqDiff, Nat.reduceLeDiff, Nat.reduceBEq, Nat.reduceAdd, Nat.reduceLT, Nat.reduceSub, Nat.reduceMul, Int.reduceEq, Int.reduceLT, Int.reduceLE, Int.reduceNeg, Int.reduceToNat, List.reduceReplicate, Int.ofNat_le, List.getElem?_drop, f0, f2, m0, m1, eq_true c1, c2]
    exact no fun h => c2 h.2.2.2.2.1
  by_cases c3 : cf = d'
  rotate_left
  · simp only [pwA, if_true, if_false, eq_self, nm_eq, reduceCtorEq, ↓reduceIte, Nat.reduceEqDiff, Nat.reduceLeDiff, Nat.reduceBEq, Nat.reduceAdd, Nat.reduceLT, Nat.reduceSub, Nat.reduceMul, Int.reduceEq, Int.reduceLT, Int.reduceLE, Int.reduceNeg, Int.reduceToNat, List.reduceReplicate, Int.ofNat_le, List.getElem?_drop, f0, f1, f2, m0, m1, q1, eq_true c1, eq_true c2, c3]
    exact no fun h => c3 h.2.2.2.2.2
  have hfit : mapFit O P C p d As p' d' Bs pf cf F := ⟨hm, hm', hx, c1, c2, c3⟩
  by_cases c4 : p = p'
  rotate_left
  · simp only [pwA, if_true, if_false, eq_self, nm_eq, reduceCtorEq, ↓reduceIte, Nat.reduceEqDiff, Nat.reduceLeDiff, Nat.reduceBEq, Nat.reduceAdd, Nat.reduceLT, Nat.reduceSub, Nat.reduceMul, Int.reduceEq, Int.reduceLT, Int.reduceLE, Int.reduceNeg, Int.reduceToNat, List.reduceReplicate, Int.ofNat_le, List.getElem?_drop, f0, f1, f2, m0, m1, q0, q1, eq_true c1, eq_true c2, eq_true c3, c4]
    exact hk1 (by unfold mapRes; rw [if_pos hfit, if_neg c4])
  simp only [pwA, if_true, if_false, eq_self, nm_eq, reduceCtorEq, ↓reduceIte, Nat.reduceEqDiff, Nat.reduceLeDiff, Nat.reduceBEq, Nat.reduceAdd, Nat.reduceLT, Nat.reduceSub, Nat.reduceMul, Int.reduceEq, Int.reduceLT, Int.reduceLE, Int.reduceNeg, Int.reduceToNat, List.reduceReplicate, Int.ofNat_le, List.getElem?_drop, f0, f1, f2, m0, m1, q0, q1, eq_true c1, eq_true c2, eq_true c3, eq_true c4, g3]
  subst c4
  subst c1
  obtain ⟨n, hn⟩ : ∃ n : Nat, d = (n : Int) := ⟨d.toNat, by have := hm.2.2.1; omega⟩
  obtain ⟨n', hn'⟩ : ∃ n' : Nat, d' = (n' : Int) := ⟨d'.toNat, by have := hm'.2.2.1; omega⟩
  subst hn hn' c3
  have b1 := hm.2.2.1
  have b2 := hm'.2.2.1
  have l1 := hm.2.2.2.1
  have l2 := hm'.2.2.2.1
  have hn6 := hm.1.1.shp.le
  have hFm := hx.2.2.2
  refine isModuleMap_ok hm.2.1.bd (by omega) (by omega) hm.2.2.2.2.1 hm'.2.2.2.2.1 (by omega) (by omega) (by omega) hFm g1 g2 hA hB hF0 fun t ht => ?_
  simp only [pwA, if_true, if_false, eq_self, nm_eq, reduceCtorEq, ↓reduceIte, Nat.reduceEqDiff, Nat.reduceLeDiff, Nat.reduceBEq, Nat.reduceAdd, Nat.reduceLT, Nat.reduceSub, Nat.reduceMul, Int.reduceEq, Int.reduceLT, Int.reduceLE, Int.reduceNeg, Int.reduceToNat, List.reduceReplicate, Int.ofNat_le, List.getElem?_drop]
  refine hk1 ?_
  unfold mapRes
  rw [if_pos hfit, if_pos rfl]
  refine Prod.ext ?_ rfl
  cases t with
  | true => exact @decide_eq_true _ (Classical.propDecidable _) (ht.1 rfl)
  | false => exact @decide_eq_false _ (Classical.propDecidable _) fun h => by cases ht.2 h
theorem l21ModuleMap_ok (hR : IsPr vO vP vC O P C) (sz : SzP O P C) (hA : FIII vA As) (szA : SzM As) (hB : FIII vB Bs) (szB : SzM Bs) (hF : FII vF F) (szF : SzL F)
    (hk : K (.tup [.bool (mapRes O P C p d As p' d' Bs pf cf F).1, .int .i64 (mapRes O P C p d As p' d' Bs pf cf F).2]) σ) :
    PCalls Try.prog 34 [.agg [vO, vP, vC], .agg [.int .i64 p, .int .i64 d, vA], .agg [.int .i64 p', .int .i64 d', vB], .agg [.int .i64 pf, .int .i64 cf, vF]] σ K := by
  have h0 := hR.O.one
  have h1 := hR.P.one
  have h2 := hR.C.one
  have h3 := hA.one
  have h4 := hB.one
  have h5 := hF.one
  have hF0 := hF
  obtain ⟨wF, aF, rF, rfl, hrF⟩ := hF
  refine PCalls.gh ?_
  generalize hH : (((σ.new [vO, vP, vC]).new [.int .i64 p, .int .i64 d, vA]).new [.int .i64 p', .int .i64 d', vB]).new [.int .i64 pf, .int .i64 cf, .fz wF aF F.length rF] = H
  have hkp : Keep σ H := by rw [← hH]; exact (((keep_new σ _).new _).new _).new _
  have hk1 : ∀ {b : Bool} {c : Int}, mapRes O P C p d As p' d' Bs pf cf F = (b, c) → Gh σ K (.tup [.bool b, .int .i64 c]) H := fun h => Gh.fin0 hkp ⟨trivial, trivial, trivial⟩ (by rw [h] at hk; exact hk)
  have no : ¬ mapFit O P C p d As p' d' Bs pf cf F → Gh σ K (.tup [.bool false, .int .i64 1]) H := fun h => hk1 (by unfold mapRes; rw [if_neg h])
  have gp : H.rd σ.next 0 3 = some [vO, vP, vC] := by rw [← hH]; simp only [pwA, if_true, if_false, eq_self, nm_eq, reduceCtorEq, ↓reduceIte, Nat.reduceEqDiff, Nat.reduceLeDiff, Nat.reduceBEq, Nat.reduceAdd, Nat.reduceLT, Nat.reduceSub, Nat.reduceMul, Int.reduceEq, Int.reduceLT, Int.reduceLE, Int.reduceNeg, Int.reduceToNat, List.reduceReplicate, Int.ofNat_le, List.getElem?_drop]
  have g1 : H.rd (σ.next + 1) 0 3 = some [.int .i64 p, .int .i64 d, vA] := by rw [← hH]; simp only [pwA, if_true, if_false, eq_self, nm_eq, reduceCtorEq, ↓reduceIte, Nat.reduceEqDiff, Nat.reduceLeDiff, Nat.reduceBEq, Nat.reduceAdd, Nat.reduceLT, Nat.reduceSub, Nat.reduceMul, Int.reduceEq, Int.reduceLT, Int.reduceLE, Int.reduceNeg, Int.reduceToNat, List.reduceReplicate, Int.ofNat_le, List.getElem?_drop]
  have g2 : H.rd (σ.next + 2) 0 3 = some [.int .i64 p', .int .i64 d', vB] := by rw [← hH]; simp only [pwA, if_true, if_false, eq_self, nm_eq, reduceCtorEq, ↓reduceIte, Nat.reduceEqDiff, Nat.reduceLeDiff, Nat.reduceBEq, Nat.reduceAdd, Nat.reduceLT, Nat.reduceSub, Nat.reduceMul, Int.reduceEq, Int.reduceLT, Int.reduceLE, Int.reduceNeg, Int.reduceToNat, List.reduceReplicate, Int.ofNat_le, List.getElem?_drop]
  have g3 : H.rd (σ.next + 3) 0 3 = some [.int .i64 pf, .int .i64 cf, .fz wF aF F.length rF] := by rw [← hH]; simp only [pwA, if_true, if_false, eq_self, nm_eq, reduceCtorEq, ↓reduceIte, Nat.reduceEqDiff, Nat.reduceLeDiff, Nat.reduceBEq, Nat.reduceAdd, Nat.reduceLT, Nat.reduceSub, Nat.reduceMul, Int.reduceEq, Int.reduceLT, Int.reduceLE, Int.reduceNeg, Int.reduceToNat, List.reduceReplicate, Int.ofNat_le, List.getElem?_drop]
  have f0 : H.rd1 (σ.next + 3) 0 = some (.int .i64 pf) := by rw [← hH]; simp only [pwA, if_true, if_false, eq_self, nm_eq, reduceCtorEq, ↓reduceIte, Nat.reduceEqDiff, Nat.reduceLeDiff, Nat.reduceBEq, Nat.reduceAdd, Nat.reduceLT, Nat.reduceSub, Nat.reduceMul, Int.reduceEq, Int.reduceLT, Int.reduceLE, Int.reduceNeg, Int.reduceToNat, List.reduceReplicate, Int.ofNat_le, List.getElem?_drop]
  have f1 : H.rd1 (σ.next + 3) 1 = some (.int .i64 cf) := by rw [← hH]; simp only [pwA, if_true, if_false, eq_self, nm_eq, reduceCtorEq, ↓reduceIte, Nat.reduceEqDiff, Nat.reduceLeDiff, Nat.reduceBEq, Nat.reduceAdd, Nat.reduceLT, Nat.reduceSub, Nat.reduceMul, Int.reduceEq, Int.reduceLT, Int.reduceLE, Int.reduceNeg, Int.reduceToNat, List.reduceReplicate, Int.ofNat_le, List.getElem?_drop]
  have f2 : H.rd1 (σ.next + 3) 2 = some (.fz wF aF F.length rF) := by rw [← hH]; simp only [pwA, if_true, if_false, eq_self, nm_eq, reduceCtorEq, ↓reduceIte, Nat.reduceEqDiff, Nat.reduceLeDiff, Nat.reduceBEq, Nat.reduceAdd, Nat.reduceLT, Nat.reduceSub, Nat.reduceMul, Int.reduceEq, Int.reduceLT, Int.reduceLE, Int.reduceNeg, Int.reduceToNat, List.reduceReplicate, Int.ofNat_le, List.getElem?_drop]
  have m0 : H.rd1 (σ.next + 1) 0 = some (.int .i64 p) := by rw [← hH]; simp only [pwA, if_true, if_false, eq_self, nm_eq, reduceCtorEq, ↓reduceIte, Nat.reduceEqDiff, Nat.reduceLeDiff, Nat.reduceBEq, Nat.reduceAdd, Nat.reduceLT, Nat.reduceSub, Nat.reduceMul, Int.reduceEq, Int.reduceLT, Int.reduceLE, Int.reduceNeg, Int.reduceToNat, List.reduceReplicate, Int.ofNat_le, List.getElem?_drop]
  have m1 : H.rd1 (σ.next + 1) 1 = some (.int .i64 d) := by rw [← hH]; simp only [pwA, if_true, if_false, eq_self, nm_eq, reduceCtorEq, ↓reduceIte, Nat.reduceEqDiff, Nat.reduceLeDiff, Nat.reduceBEq, Nat.reduceAdd, Nat.reduceLT, Nat.reduceSub, Nat.reduceMul, Int.reduceEq, Int.reduceLT, Int.reduceLE, Int.reduceNeg, Int.reduceToNat, List.reduceReplicate, Int.ofNat_le, List.getElem?_drop]
  have q0 : H.rd1 (σ.next + 2) 0 = some (.int .i64 p') := by rw [← hH]; simp only [pwA, if_true, if_false, eq_self, nm_eq, reduceCtorEq, ↓reduceIte, Nat.reduceEqDiff, Nat.reduceLeDiff, Nat.reduceBEq, Nat.reduceAdd, Nat.reduceLT, Nat.reduceSub, Nat.reduceMul, Int.reduceEq, Int.reduceLT, Int.reduceLE, Int.reduceNeg, Int.reduceToNat, List.reduceReplicate, Int.ofNat_le, List.getElem?_drop]
  have q1 : H.rd1 (σ.next + 2) 1 = some (.int .i64 d') := by rw [← hH]; simp only [pwA, if_true, if_false, eq_self, nm_eq, reduceCtorEq, ↓reduceIte, Nat.reduceEqDiff, Nat.reduceLeDiff, Nat.reduceBEq, Nat.reduceAdd, Nat.reduceLT, Nat.reduceSub, Nat.reduceMul, Int.reduceEq, Int.reduceLT, Int.reduceLE, Int.reduceNeg, Int.reduceToNat, List.reduceReplicate, Int.ofNat_le, List.getElem?_drop]
  refine pcalls_of_vp mix Try.func34 cf34 rfl ?_
  dsimp only [if34, qI, eI, nI, qD, eD]
  simp only [pwA, if_true, if_false, eq_self, nm_eq, reduceCtorEq, ↓reduceIte, Nat.reduceEqDiff, Nat.reduceLeDiff, Nat.reduceBEq, Nat.reduceAdd, Nat.reduceLT, Nat.reduceSub, Nat.reduceMul, Int.reduceEq, Int.reduceLT, Int.reduceLE, Int.reduceNeg, Int.reduceToNat, List.reduceReplicate, Int.ofNat_le, List.getElem?_drop, h0, h1, h2, h3, h4, h5, hH, gp, g1, g2, g3]
  refine l21Module_ok hR sz hA szA fun t ht => ?_
  cases t with
  | false =>
    simp only [pwA, if_true, if_false, eq_self, nm_eq, reduceCtorEq, ↓reduceIte, Nat.reduceEqDiff, Nat.reduceLeDiff, Nat.reduceBEq, Nat.reduceAdd, Nat.reduceLT, Nat.reduceSub, Nat.reduceMul, Int.reduceEq, Int.reduceLT, Int.reduceLE, Int.reduceNeg, Int.reduceToNat, List.reduceReplicate, Int.ofNat_le, List.getElem?_drop, hH]
    exact no fun h => by cases ht.2 h.1
  | true =>
  have hm := ht.1 rfl
  simp only [pwA, if_true, if_false, eq_self, nm_eq, reduceCtorEq, ↓reduceIte, Nat.reduceEqDiff, Nat.reduceLeDiff, Nat.reduceBEq, Nat.reduceAdd, Nat.reduceLT, Nat.reduceSub, Nat.reduceMul, Int.reduceEq, Int.reduceLT, Int.reduceLE, Int.reduceNeg, Int.reduceToNat, List.reduceReplicate, Int.ofNat_le, List.getElem?_drop, hH, gp, g1, g2, g3]
  refine l21Module_ok hR sz hB szB fun t ht => ?_
  cases t with
  | false =>
    simp only [pwA, if_true, if_false, eq_self, nm_eq, reduceCtorEq, ↓reduceIte, Nat.reduceEqDiff, Nat.reduceLeDiff, Nat.reduceBEq, Nat.reduceAdd, Nat.reduceLT, Nat.reduceSub, Nat.reduceMul, Int.reduceEq, Int.reduceLT, Int.reduceLE, Int.reduceNeg, Int.reduceToNat, List.reduceReplicate, Int.ofNat_le, List.getElem?_drop]
    exact no fun h => by cases ht.2 h.2.1
  | true =>
  have hm' := ht.1 rfl
  simp only [pwA, if_true, if_false, eq_self, nm_eq, reduceCtorEq, ↓reduceIte, Nat.reduceEqDiff, Nat.reduceLeDiff, Nat.reduceBEq, Nat.reduceAdd, Nat.reduceLT, Nat.reduceSub, Nat.reduceMul, Int.reduceEq, Int.reduceLT, Int.reduceLE, Int.reduceNeg, Int.reduceToNat, List.reduceReplicate, Int.ofNat_le, List.getElem?_drop, g3]
  refine l02Matrix_ok szF hF0 fun t ht => ?_
  cases t with
  | false =>
    simp only [pwA, if_true, if_false, eq_self, nm_eq, reduceCtorEq, ↓reduceIte, Nat.reduceEqDiff, Nat.reduceLeDiff, Nat.reduceBEq, Nat.reduceAdd, Nat.reduceLT, Nat.reduceSub, Nat.reduceMul, Int.reduceEq, Int.reduceLT, Int.reduceLE, Int.reduceNeg, Int.reduceToNat, List.reduceReplicate, Int.ofNat_le, List.getElem?_drop]
    exact no fun h => by cases ht.2 h.2.2.1
  | true =>
  have hx := ht.1 rfl
  by_cases c1 : pf = p
  rotate_left
  · simp only [pwA, if_true, if_false, eq_self, nm_eq, reduceCtorEq, ↓reduceIte, Nat.reduceEqDiff, Nat.reduceLeDiff, Nat.reduceBEq, Nat.reduceAdd, Nat.reduceLT, Nat.reduceSub, Nat.reduceMul, Int.reduceEq, Int.reduceLT, Int.reduceLE, Int.reduceNeg, Int.reduceToNat, List.reduceReplicate, Int.ofNat_le, List.getElem?_drop, f0, m0, c1]
    exact no fun h => c1 h.2.2.2.1
  by_cases c2 : (F.length : Int) = d
  rotate_left
  · simp only [pwA, if_true, if_false, eq_self, nm_eq, reduceCtorEq, ↓reduceIte, Nat.reduceEqDiff, Nat.reduceLeDiff, Nat.reduceBEq, Nat.reduceAdd, Nat.reduceLT, Nat.reduceSub, Nat.reduceMul, Int.reduceEq, Int.reduceLT, Int.reduceLE, Int.reduceNeg, Int.reduceToNat, List.reduceReplicate, Int.ofNat_le, List.getElem?_drop, f0, f2, m0, m1, eq_true c1, c2]
    exact no fun h => c2 h.2.2.2.2.1
  by_cases c3 : cf = d'
  rotate_left
  · simp only [pwA, if_true, if_false, eq_self, nm_eq, reduceCtorEq, ↓reduceIte, Nat.reduceEqDiff, Nat.reduceLeDiff, Nat.reduceBEq, Nat.reduceAdd, Nat.reduceLT, Nat.reduceSub, Nat.reduceMul, Int.reduceEq, Int.reduceLT, Int.reduceLE, Int.reduceNeg, Int.reduceToNat, List.reduceReplicate, Int.ofNat_le, List.getElem?_drop, f0, f1, f2, m0, m1, q1, eq_true c1, eq_true c2, c3]
    exact no fun h => c3 h.2.2.2.2.2
  have hfit : mapFit O P C p d As p' d' Bs pf cf F := ⟨hm, hm', hx, c1, c2, c3⟩
  by_cases c4 : p = p'
  rotate_left
  · simp only [pwA, if_true, if_false, eq_self, nm_eq, reduceCtorEq, ↓reduceIte, Nat.reduceEqDiff, Nat.reduceLeDiff, Nat.reduceBEq, Nat.reduceAdd, Nat.reduceLT, Nat.reduceSub, Nat.reduceMul, Int.reduceEq, Int.reduceLT, Int.reduceLE, Int.reduceNeg, Int.reduceToNat, List.reduceReplicate, Int.ofNat_le, List.getElem?_drop, f0, f1, f2, m0, m1, q0, q1, eq_true c1, eq_true c2, eq_true c3, c4]
    exact hk1 (by unfold mapRes; rw [if_pos hfit, if_neg c4])
  simp only [pwA, if_true, if_false, eq_self, nm_eq, reduceCtorEq, ↓reduceIte, Nat.reduceEqDiff, Nat.reduceLeDiff, Nat.reduceBEq, Nat.reduceAdd, Nat.reduceLT, Nat.reduceSub, Nat.reduceMul, Int.reduceEq, Int.reduceLT, Int.reduceLE, Int.reduceNeg, Int.reduceToNat, List.reduceReplicate, Int.ofNat_le, List.getElem?_drop, f0, f1, f2, m0, m1, q0, q1, eq_true c1, eq_true c2, eq_true c3, eq_true c4, g1, g2, g3]
  subst c4
  subst c1
  obtain ⟨n, hn⟩ : ∃ n : Nat, d = (n : Int) := ⟨d.toNat, by have := hm.2.2.1; omega⟩
  obtain ⟨n', hn'⟩ : ∃ n' : Nat, d' = (n' : Int) := ⟨d'.toNat, by have := hm'.2.2.1; omega⟩
  subst hn hn' c3
  have b1 := hm.2.2.1
  have b2 := hm'.2.2.1
  have l1 := hm.2.2.2.1
  have l2 := hm'.2.2.2.1
  have hn6 := hm.1.1.shp.le
  have hFm := hx.2.2.2
  refine l21Map_ok hm.2.1.bd (by omega) (by omega) hm.2.2.2.2.1 hm'.2.2.2.2.1 (by omega) (by omega) (by omega) hFm hA hB hF0 fun t ht => ?_
  simp only [pwA, if_true, if_false, eq_self, nm_eq, reduceCtorEq, ↓reduceIte, Nat.reduceEqDiff, Nat.reduceLeDiff, Nat.reduceBEq, Nat.reduceAdd, Nat.reduceLT, Nat.reduceSub, Nat.reduceMul, Int.reduceEq, Int.reduceLT, Int.reduceLE, Int.reduceNeg, Int.reduceToNat, List.reduceReplicate, Int.ofNat_le, List.getElem?_drop]
  refine hk1 ?_
  unfold mapRes
  rw [if_pos hfit, if_pos rfl]
  refine Prod.ext ?_ rfl
  cases t with
  | true => exact @decide_eq_true _ (Classical.propDecidable _) (ht.1 rfl)
  | false => exact @decide_eq_false _ (Classical.propDecidable _) fun h => by cases ht.2 h
end Go.Proofs
