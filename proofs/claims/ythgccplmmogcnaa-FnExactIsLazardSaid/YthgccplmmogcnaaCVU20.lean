/- Isomorphisms of Lie rings. -/
import Derived.Test.YthgccplmmogcnaaCVU19
set_option linter.unusedSimpArgs false
set_option linter.unusedVariables false
namespace Go.Proofs
open Go.Ab Go.Lie
variable {σ : PHeap} {K : PV → PHeap → Prop} {p p' : Int} {n : Nat} {W W' : List (List Int)} {B B' : List (List (List Int))} {vP vB vP' vB' vL : PV} {im : List (List Int)}

def isIso (p : Int) (W : List (List Int)) (B : List (List (List Int))) (p' : Int) (W' : List (List Int)) (B' : List (List (List Int))) (im : List (List Int)) : Prop :=
  isMap p W B p' W' B' im ∧ W.length = W'.length ∧ ∃ out, Canon p' W'.length W' im out ∧ out.length = W'.length
theorem iso_iff {out : List (List Int)} (h : isMap p W B p' W' B' im) (hl : W.length = W'.length) (hc : Canon p' W'.length W' im out) : isIso p W B p' W' B' im ↔ out.length = W'.length :=
  ⟨fun ⟨_, _, out', h1, h2⟩ => by rw [hc.unique h.2.1.1.w h1]; exact h2, fun e => ⟨h, hl, out, hc, e⟩⟩

theorem IsLieIsomorphism_ok (hR : IsR vP vB W B) (hR' : IsR vP' vB' W' B') (sz : SzR W B) (sz' : SzR W' B') (hL : FII vL im) (szl : SzL im)
    (hk : ∀ t : Bool, (t = true ↔ isIso p W B p' W' B' im) → K (.bool t) σ) : PCalls Try.prog 26 [.agg [.int .i64 p, vP, vB], .agg [.int .i64 p', vP', vB'], vL] σ K := by
  have fl : ∀ {A : Prop}, ¬ A → ((false = true) ↔ A) := fun h => ⟨fun x => (by cases x), fun x => absurd x h⟩
  have h1 := hR.P.one
  have h2 := hR.B.one
  have h1' := hR'.P.one
  have h2' := hR'.B.one
  have hRR := hR
  have hRR' := hR'
  obtain ⟨⟨w1, a1, rP, rfl, hP⟩, hB⟩ := hR
  obtain ⟨⟨w2, a2, rP', rfl, hP'⟩, hB'⟩ := hR'
  have hkp : Keep σ ((σ.new [.int .i64 p, .fz w1 a1 W.length rP, vB]).new [.int .i64 p', .fz w2 a2 W'.length rP', vB']) := (keep_new σ _).new _
  refine PCalls.gh ?_
  refine pcalls_of_vp mix Try.func26 cf26 rfl ?_
  dsimp only [if26, qI, eI, nI, qD, eD]
  simp only [pw0, pw1, pw2, pw3, pw4, pw5, pw6, pw7, pw8, pw9, if_true, if_false, eq_self, nm_eq, reduceCtorEq, ↓reduceIte, Nat.reduceEqDiff, Nat.reduceLeDiff, Nat.reduceBEq, Nat.reduceAdd, Nat.reduceLT, Nat.reduceSub, Nat.reduceMul, Int.reduceEq, Int.reduceLT, Int.reduceLE, Int.reduceNeg, Int.reduceToNat, List.reduceReplicate, Int.ofNat_le, List.getElem?_drop, h1, h2, h1', h2']
  refine isLieMap_ok (p := p) (p' := p') ⟨by simp only [pw0, pw1, pw2, pw3, pw4, pw5, pw6, pw7, pw8, pw9, if_true, if_false, eq_self, nm_eq, reduceCtorEq, ↓reduceIte, Nat.reduceEqDiff, Nat.reduceLeDiff, Nat.reduceBEq, Nat.reduceAdd, Nat.reduceLT, Nat.reduceSub, Nat.reduceMul, Int.reduceEq, Int.reduceLT, Int.reduceLE, Int.reduceNeg, Int.reduceToNat, List.reduceReplicate, Int.ofNat_le, List.getElem?_drop], by simp only [pw0, pw1, pw2, pw3, pw4, pw5, pw6, pw7, pw8, pw9, if_true, if_false, eq_self, nm_eq, reduceCtorEq, ↓reduceIte, Nat.reduceEqDiff, Nat.reduceLeDiff, Nat.reduceBEq, Nat.reduceAdd, Nat.reduceLT, Nat.reduceSub, Nat.reduceMul, Int.reduceEq, Int.reduceLT, Int.reduceLE, Int.reduceNeg, Int.reduceToNat, List.reduceReplicate, Int.ofNat_le, List.getElem?_drop]; omega⟩ ⟨by simp only [pw0, pw1, pw2, pw3, pw4, pw5, pw6, pw7, pw8, pw9, if_true, if_false, eq_self, nm_eq, reduceCtorEq, ↓reduceIte, Nat.reduceEqDiff, Nat.reduceLeDiff, Nat.reduceBEq, Nat.reduceAdd, Nat.reduceLT, Nat.reduceSub, Nat.reduceMul, Int.reduceEq, Int.reduceLT, Int.reduceLE, Int.reduceNeg, Int.reduceToNat, List.reduceReplicate, Int.ofNat_le, List.getElem?_drop], by simp only [pw0, pw1, pw2, pw3, pw4, pw5, pw6, pw7, pw8, pw9, if_true, if_false, eq_self, nm_eq, reduceCtorEq, ↓reduceIte, Nat.reduceEqDiff, Nat.reduceLeDiff, Nat.reduceBEq, Nat.reduceAdd, Nat.reduceLT, Nat.reduceSub, Nat.reduceMul, Int.reduceEq, Int.reduceLT, Int.reduceLE, Int.reduceNeg, Int.reduceToNat, List.reduceReplicate, Int.ofNat_le, List.getElem?_drop]⟩ hRR hRR' sz sz' hL szl fun t ht => ?_
  cases t
  · simp only [pw0, pw1, pw2, pw3, pw4, pw5, pw6, pw7, pw8, pw9, if_true, if_false, eq_self, nm_eq, reduceCtorEq, ↓reduceIte, Nat.reduceEqDiff, Nat.reduceLeDiff, Nat.reduceBEq, Nat.reduceAdd, Nat.reduceLT, Nat.reduceSub, Nat.reduceMul, Int.reduceEq, Int.reduceLT, Int.reduceLE, Int.reduceNeg, Int.reduceToNat, List.reduceReplicate, Int.ofNat_le, List.getElem?_drop]
    exact Gh.fin0 ((keep_new σ _).new _) trivial (hk _ (fl fun x => absurd (ht.2 x.1) (by simp)))
  · have hm := ht.1 rfl
    by_cases hl : W.length = W'.length
    · have o' := hm.2.1.1.w
      simp only [pw0, pw1, pw2, pw3, pw4, pw5, pw6, pw7, pw8, pw9, if_true, if_false, eq_self, nm_eq, reduceCtorEq, ↓reduceIte, Nat.reduceEqDiff, Nat.reduceLeDiff, Nat.reduceBEq, Nat.reduceAdd, Nat.reduceLT, Nat.reduceSub, Nat.reduceMul, Int.reduceEq, Int.reduceLT, Int.reduceLE, Int.reduceNeg, Int.reduceToNat, List.reduceReplicate, Int.ofNat_le, List.getElem?_drop, hl]
      refine lieSpan_ok (p := p') (n := W'.length) (vB := vB') ⟨by simp only [pw0, pw1, pw2, pw3, pw4, pw5, pw6, pw7, pw8, pw9, if_true, if_false, eq_self, nm_eq, reduceCtorEq, ↓reduceIte, Nat.reduceEqDiff, Nat.reduceLeDiff, Nat.reduceBEq, Nat.reduceAdd, Nat.reduceLT, Nat.reduceSub, Nat.reduceMul, Int.reduceEq, Int.reduceLT, Int.reduceLE, Int.reduceNeg, Int.reduceToNat, List.reduceReplicate, Int.ofNat_le, List.getElem?_drop], by simp only [pw0, pw1, pw2, pw3, pw4, pw5, pw6, pw7, pw8, pw9, if_true, if_false, eq_self, nm_eq, reduceCtorEq, ↓reduceIte, Nat.reduceEqDiff, Nat.reduceLeDiff, Nat.reduceBEq, Nat.reduceAdd, Nat.reduceLT, Nat.reduceSub, Nat.reduceMul, Int.reduceEq, Int.reduceLT, Int.reduceLE, Int.reduceNeg, Int.reduceToNat, List.reduceReplicate, Int.ofNat_le, List.getElem?_drop]⟩ hRR'.P o' hm.2.1.1.1 hL hm.2.2.2.2.1 szl.l fun v out hc hv => ?_
      have hi := iso_iff hm hl hc
      obtain ⟨wo, ao, ro, rfl, hro⟩ := hv
      simp only [pw0, pw1, pw2, pw3, pw4, pw5, pw6, pw7, pw8, pw9, if_true, if_false, eq_self, nm_eq, reduceCtorEq, ↓reduceIte, Nat.reduceEqDiff, Nat.reduceLeDiff, Nat.reduceBEq, Nat.reduceAdd, Nat.reduceLT, Nat.reduceSub, Nat.reduceMul, Int.reduceEq, Int.reduceLT, Int.reduceLE, Int.reduceNeg, Int.reduceToNat, List.reduceReplicate, Int.ofNat_le, List.getElem?_drop]
      refine Gh.fin0 ((keep_new σ _).new _) trivial (hk _ ?_)
      rw [hi, decide_eq_true_eq]
      omega
    · have hlI : ((W.length : Int) = (W'.length : Int)) = False := by simp; omega
      simp only [pw0, pw1, pw2, pw3, pw4, pw5, pw6, pw7, pw8, pw9, if_true, if_false, eq_self, nm_eq, reduceCtorEq, ↓reduceIte, Nat.reduceEqDiff, Nat.reduceLeDiff, Nat.reduceBEq, Nat.reduceAdd, Nat.reduceLT, Nat.reduceSub, Nat.reduceMul, Int.reduceEq, Int.reduceLT, Int.reduceLE, Int.reduceNeg, Int.reduceToNat, List.reduceReplicate, Int.ofNat_le, List.getElem?_drop, hlI]
      exact Gh.fin0 ((keep_new σ _).new _) trivial (hk _ (fl fun x => hl x.2.1))

theorem l34Iso_ok (hR : IsR vP vB W B) (hR' : IsR vP' vB' W' B') (sz : SzR W B) (sz' : SzR W' B') (hL : FII vL im) (szl : SzL im)
    (hk : ∀ t : Bool, (t = true ↔ isIso p W B p' W' B' im) → K (.bool t) σ) : PCalls Try.prog 25 [.agg [.int .i64 p, vP, vB], .agg [.int .i64 p', vP', vB'], vL] σ K := by
  have fl : ∀ {A : Prop}, ¬ A → ((false = true) ↔ A) := fun h => ⟨fun x => (by cases x), fun x => absurd x h⟩
  have h1 := hR.P.one
  have h2 := hR.B.one
  have h1' := hR'.P.one
  have h2' := hR'.B.one
  have hRR := hR
  have hRR' := hR'
  obtain ⟨⟨w1, a1, rP, rfl, hP⟩, hB⟩ := hR
  obtain ⟨⟨w2, a2, rP', rfl, hP'⟩, hB'⟩ := hR'
  have hkp : Keep σ ((σ.new [.int .i64 p, .fz w1 a1 W.length rP, vB]).new [.int .i64 p', .fz w2 a2 W'.length rP', vB']) := (keep_new σ _).new _
  refine PCalls.gh ?_
  refine pcalls_of_vp mix Try.func25 cf25 rfl ?_
  dsimp only [if25, qI, eI, nI, qD, eD]
  simp only [pw0, pw1, pw2, pw3, pw4, pw5, pw6, pw7, pw8, pw9, if_true, if_false, eq_self, nm_eq, reduceCtorEq, ↓reduceIte, Nat.reduceEqDiff, Nat.reduceLeDiff, Nat.reduceBEq, Nat.reduceAdd, Nat.reduceLT, Nat.reduceSub, Nat.reduceMul, Int.reduceEq, Int.reduceLT, Int.reduceLE, Int.reduceNeg, Int.reduceToNat, List.reduceReplicate, Int.ofNat_le, List.getElem?_drop, h1, h2, h1', h2']
  refine l34Map_ok (p := p) (p' := p') hRR hRR' sz sz' hL szl fun t ht => ?_
  cases t
  · simp only [pw0, pw1, pw2, pw3, pw4, pw5, pw6, pw7, pw8, pw9, if_true, if_false, eq_self, nm_eq, reduceCtorEq, ↓reduceIte, Nat.reduceEqDiff, Nat.reduceLeDiff, Nat.reduceBEq, Nat.reduceAdd, Nat.reduceLT, Nat.reduceSub, Nat.reduceMul, Int.reduceEq, Int.reduceLT, Int.reduceLE, Int.reduceNeg, Int.reduceToNat, List.reduceReplicate, Int.ofNat_le, List.getElem?_drop]
    exact Gh.fin0 ((keep_new σ _).new _) trivial (hk _ (fl fun x => absurd (ht.2 x.1) (by simp)))
  · have hm := ht.1 rfl
    by_cases hl : W.length = W'.length
    · have o' := hm.2.1.1.w
      simp only [pw0, pw1, pw2, pw3, pw4, pw5, pw6, pw7, pw8, pw9, if_true, if_false, eq_self, nm_eq, reduceCtorEq, ↓reduceIte, Nat.reduceEqDiff, Nat.reduceLeDiff, Nat.reduceBEq, Nat.reduceAdd, Nat.reduceLT, Nat.reduceSub, Nat.reduceMul, Int.reduceEq, Int.reduceLT, Int.reduceLE, Int.reduceNeg, Int.reduceToNat, List.reduceReplicate, Int.ofNat_le, List.getElem?_drop, hl, ne_eq, not_true, decide_false]
      refine l32Span_ok (p := p') (n := W'.length) hRR' o' hm.2.1.1.1 hL hm.2.2.2.2.1 szl.l fun v out hc hv => ?_
      have hi := iso_iff hm hl hc
      obtain ⟨wo, ao, ro, rfl, hro⟩ := hv
      simp only [pw0, pw1, pw2, pw3, pw4, pw5, pw6, pw7, pw8, pw9, if_true, if_false, eq_self, nm_eq, reduceCtorEq, ↓reduceIte, Nat.reduceEqDiff, Nat.reduceLeDiff, Nat.reduceBEq, Nat.reduceAdd, Nat.reduceLT, Nat.reduceSub, Nat.reduceMul, Int.reduceEq, Int.reduceLT, Int.reduceLE, Int.reduceNeg, Int.reduceToNat, List.reduceReplicate, Int.ofNat_le, List.getElem?_drop]
      refine Gh.fin0 ((keep_new σ _).new _) trivial (hk _ ?_)
      rw [hi, decide_eq_true_eq]
      omega
    · have hlI : ((W.length : Int) = (W'.length : Int)) = False := by simp; omega
      simp only [pw0, pw1, pw2, pw3, pw4, pw5, pw6, pw7, pw8, pw9, if_true, if_false, eq_self, nm_eq, reduceCtorEq, ↓reduceIte, Nat.reduceEqDiff, Nat.reduceLeDiff, Nat.reduceBEq, Nat.reduceAdd, Nat.reduceLT, Nat.reduceSub, Nat.reduceMul, Int.reduceEq, Int.reduceLT, Int.reduceLE, Int.reduceNeg, Int.reduceToNat, List.reduceReplicate, Int.ofNat_le, List.getElem?_drop, hlI]
      exact Gh.fin0 ((keep_new σ _).new _) trivial (hk _ (fl fun x => hl x.2.1))
end Go.Proofs
