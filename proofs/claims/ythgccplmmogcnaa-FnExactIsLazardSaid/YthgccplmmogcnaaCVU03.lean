/- Lie rings: sums, multiples and brackets. -/
import Derived.Test.YthgccplmmogcnaaCVU02
set_option linter.unusedSimpArgs false
set_option linter.unusedVariables false
namespace Go.Proofs
open Go.Ab Go.Lie
variable {σ : PHeap} {K : PV → PHeap → Prop} {p : Int} {n : Nat} {W : List (List Int)} {B : List (List (List Int))} {vP vB : PV} {s : Nat}

/-- A ring's pointer. -/
structure PtrR (σ : PHeap) (s : Nat) (p : Int) (vP vB : PV) : Prop where
  obj : σ.obj s = some [.int .i64 p, vP, vB]
  lt : s < σ.next
theorem PtrR.new (h : PtrR σ s p vP vB) (cs : List PV) : PtrR (σ.new cs) s p vP vB := ⟨by have := h.lt; simp only [pw0, pw1, pw2, pw3, pw4, pw5, pw6, pw7, pw8, pw9, if_true, if_false, eq_self, nm_eq, reduceCtorEq, ↓reduceIte, Nat.reduceEqDiff, Nat.reduceLeDiff, Nat.reduceBEq, Nat.reduceAdd, Nat.reduceLT, Nat.reduceSub, Nat.reduceMul, Int.reduceEq, Int.reduceLT, Int.reduceLE, Int.reduceNeg, Int.reduceToNat, Nat.ne_of_lt this]; exact h.obj, by have := h.lt; simp only [pw0, pw1, pw2, pw3, pw4, pw5, pw6, pw7, pw8, pw9, if_true, if_false, eq_self, nm_eq, reduceCtorEq, ↓reduceIte, Nat.reduceEqDiff, Nat.reduceLeDiff, Nat.reduceBEq, Nat.reduceAdd, Nat.reduceLT, Nat.reduceSub, Nat.reduceMul, Int.reduceEq, Int.reduceLT, Int.reduceLE, Int.reduceNeg, Int.reduceToNat]; omega⟩
theorem PtrR.kill (h : PtrR σ s p vP vB) {t : Nat} (ht : s ≠ t) : PtrR (σ.kill t) s p vP vB := ⟨by simp only [pw0, pw1, pw2, pw3, pw4, pw5, pw6, pw7, pw8, pw9, if_true, if_false, eq_self, nm_eq, reduceCtorEq, ↓reduceIte, Nat.reduceEqDiff, Nat.reduceLeDiff, Nat.reduceBEq, Nat.reduceAdd, Nat.reduceLT, Nat.reduceSub, Nat.reduceMul, Int.reduceEq, Int.reduceLT, Int.reduceLE, Int.reduceNeg, Int.reduceToNat, ht]; exact h.obj, h.lt⟩
theorem PtrR.set (h : PtrR σ s p vP vB) {t : Nat} (ht : s ≠ t) (cs : List PV) : PtrR (σ.set t cs) s p vP vB := ⟨by simp only [pw0, pw1, pw2, pw3, pw4, pw5, pw6, pw7, pw8, pw9, if_true, if_false, eq_self, nm_eq, reduceCtorEq, ↓reduceIte, Nat.reduceEqDiff, Nat.reduceLeDiff, Nat.reduceBEq, Nat.reduceAdd, Nat.reduceLT, Nat.reduceSub, Nat.reduceMul, Int.reduceEq, Int.reduceLT, Int.reduceLE, Int.reduceNeg, Int.reduceToNat, ht]; exact h.obj, h.lt⟩

/-- A combination in a slot of its own is brought to normal form and returned. -/
theorem normal_fin {l : Nat} {cap : Cap} {c : List Int} (hs : PtrR σ s p vP vB) (hP : FII vP W) (o : OkW p n W) (hc : c.length = n) (hb : bd big c)
    (hl : l = c.length) (hcap : capOK cap l = true) (hk : ResI σ K (norm p W c)) : PCalls Try.prog 117 [.ptr s 0, .sl σ.next 0 l cap] (σ.new (pis c)) (Gh σ K) := by
  subst hl
  obtain ⟨w1, a1, rP, rfl, hP⟩ := hP
  have hlt := hs.lt
  refine PCalls.frz (s := σ.next) (cs := pis c) (by simp only [pw0, pw1, pw2, pw3, pw4, pw5, pw6, pw7, pw8, pw9, if_true, if_false, eq_self, nm_eq, reduceCtorEq, ↓reduceIte, Nat.reduceEqDiff, Nat.reduceLeDiff, Nat.reduceBEq, Nat.reduceAdd, Nat.reduceLT, Nat.reduceSub, Nat.reduceMul, Int.reduceEq, Int.reduceLT, Int.reduceLE, Int.reduceNeg, Int.reduceToNat]) (pis_bel _ _) fun o1 => ?_
  simp only [sbs, sb, hcap, and_self, if_true]
  refine normalLie_ok ((hs.new _).kill (by omega)).obj hP o hc hb rfl ⟨fun h0 => ?_, fun cap' hc' => ?_⟩
  · exact Gh.fin0 ((keep_new σ _).kill (Nat.le_refl _)) trivial (hk.1 h0)
  · exact Gh.finS (((keep_new σ _).kill (Nat.le_refl _)).new _) (by simp only [pw0, pw1, pw2, pw3, pw4, pw5, pw6, pw7, pw8, pw9, if_true, if_false, eq_self, nm_eq, reduceCtorEq, ↓reduceIte, Nat.reduceEqDiff, Nat.reduceLeDiff, Nat.reduceBEq, Nat.reduceAdd, Nat.reduceLT, Nat.reduceSub, Nat.reduceMul, Int.reduceEq, Int.reduceLT, Int.reduceLE, Int.reduceNeg, Int.reduceToNat]) (by simp only [pw0, pw1, pw2, pw3, pw4, pw5, pw6, pw7, pw8, pw9, if_true, if_false, eq_self, nm_eq, reduceCtorEq, ↓reduceIte, Nat.reduceEqDiff, Nat.reduceLeDiff, Nat.reduceBEq, Nat.reduceAdd, Nat.reduceLT, Nat.reduceSub, Nat.reduceMul, Int.reduceEq, Int.reduceLT, Int.reduceLE, Int.reduceNeg, Int.reduceToNat]; omega) (pis_bel _ _) (hk.2 cap' hc')
theorem normal_nil {w : Bool} {a : AV} (hs : PtrR σ s p vP vB) (hP : FII vP W) (o : OkW p 0 W) (hk : ResI σ K (norm p W [])) : PCalls Try.prog 117 [.ptr s 0, .fz w a 0 []] σ K := by
  obtain ⟨w1, a1, rP, rfl, hP⟩ := hP
  exact normalLie_ok (c := []) hs.obj hP o rfl (fun j => by simp [at_]) rfl hk

theorem lmix1 {a b : List Int} (h : a.length = b.length) : subm (-1) a b = lmix 1 a 1 b := by
  rw [subm_eq]
  refine ext_at (by rw [addm_length (by omega), lmix_length h]) fun j hj => ?_
  rw [addm_at h, lmix_at h]; omega
theorem lmixk {k : Int} {a : List Int} : subm (-k) (List.replicate a.length 0) a = lmix k a 0 a := by
  rw [subm_eq]
  refine ext_at (by rw [addm_length (by simp), lmix_length rfl]; simp) fun j hj => ?_
  rw [addm_at (by simp), lmix_at rfl, at_rep]; simp
theorem lmix_any {k : Int} {a b : List Int} (h : a.length = b.length) : lmix k a 0 b = lmix k a 0 a := by
  refine ext_at (by rw [lmix_length h, lmix_length rfl]) fun j hj => ?_
  rw [lmix_at h, lmix_at rfl]; omega
theorem lmix_bd {k m A C : Int} {a b : List Int} (h : a.length = b.length) (ha : ∀ j, -A ≤ k * at_ a j ∧ k * at_ a j ≤ A) (hb : ∀ j, -C ≤ m * at_ b j ∧ m * at_ b j ≤ C) : bd (A + C) (lmix k a m b) := fun j => by
  rw [lmix_at h]
  have := ha j
  have := hb j
  omega

theorem _root_.Go.Lie.El.bd {a : List Int} (h : El p n a) (hp : okp p) : bd 6 a := h.2.bd hp
theorem norm_el (o : OkW p n W) {c : List Int} (hc : c.length = n) : El p n (norm p W c) := ⟨norm_length o hc, norm_box o hc⟩
theorem mul6 {k x : Int} (hk : -1000000000 ≤ k ∧ k ≤ 1000000000) (hx : 0 ≤ x ∧ x ≤ 6) : -6000000000 ≤ k * x ∧ k * x ≤ 6000000000 := by
  obtain rfl | rfl | rfl | rfl | rfl | rfl | rfl : x = 0 ∨ x = 1 ∨ x = 2 ∨ x = 3 ∨ x = 4 ∨ x = 5 ∨ x = 6 := by omega
  all_goals omega
theorem _root_.Go.Lie.El.at {a : List Int} (h : El p n a) (hp : okp p) (j : Nat) : 0 ≤ at_ a j ∧ at_ a j ≤ 6 := by
  have := h.2.at (by have := hp.1; omega) j
  have := hp.2
  omega
theorem _root_.Go.Lie.El.mul {a : List Int} (h : El p n a) (hp : okp p) {k : Int} (hk : -1000000000 ≤ k ∧ k ≤ 1000000000) (j : Nat) : -6000000000 ≤ k * at_ a j ∧ k * at_ a j ≤ 6000000000 := mul6 hk (h.at hp j)
theorem _root_.Go.Lie.El.mulsm {a : List Int} (h : El p n a) (hp : okp p) {k : Int} (hk : -1000000000 ≤ k ∧ k ≤ 1000000000) (j : Nat) : sm (k * at_ a j) := by have := h.mul hp hk j; unfold sm; omega
theorem _root_.Go.Lie.El.mixbd {a b : List Int} (ha : El p n a) (hb : El p n b) (hp : okp p) {k m : Int} (hk : -1000000000 ≤ k ∧ k ≤ 1000000000) (hm : -1000000000 ≤ m ∧ m ≤ 1000000000) : Go.Lie.bd big (lmix k a m b) :=
  (lmix_bd (ha.1.trans hb.1.symm) (fun j => ha.mul hp hk j) fun j => hb.mul hp hm j).mono (by decide)

/-- The contract of 'l31Mix' for elements. -/
theorem l31Mix_el {l l' : Nat} {w w' : Bool} {av bv : AV} {k m : Int} {a b : List Int} (hR : IsR vP vB W B) (o : OkW p n W) (ha : El p n a) (hb : El p n b) (hl : l = a.length) (hl' : l' = b.length)
    (hkb : -1000000000 ≤ k ∧ k ≤ 1000000000) (hmb : -1000000000 ≤ m ∧ m ≤ 1000000000)
    (hk : ∀ v, K (.fz true v n (pis (norm p W (lmix k a m b)))) σ) : PCalls Try.prog 93 [.agg [.int .i64 p, vP, vB], .int .i64 k, .fz w av l (pis a), .int .i64 m, .fz w' bv l' (pis b)] σ K :=
  l31Mix_ok hR o ha.1 hb.1 (fun j => ⟨ha.mulsm o.pr hkb j, hb.mulsm o.pr hmb j⟩) (ha.mixbd hb o.pr hkb hmb) hl hl' hk

theorem addLie_ok {l l' : Nat} {w w' : Bool} {av bv : AV} {a b : List Int} (hs : PtrR σ s p vP vB) (hP : FII vP W) (o : OkW p n W) (ha : El p n a) (hb : El p n b) (hl : l = a.length) (hl' : l' = b.length)
    (hk : ResI σ K (norm p W (lmix 1 a 1 b))) : PCalls Try.prog 107 [.ptr s 0, .fz w av l (pis a), .fz w' bv l' (pis b)] σ K := by
  subst hl
  subst hl'
  have hn6 := o.le
  have hal := ha.1
  have hbl := hb.1
  refine PCalls.gh ?_
  refine pcalls_of_vp mix Try.func107 cf107 rfl ?_
  dsimp only [if107, qI, eI, nI, qD, eD]
  simp only [pw0, pw1, pw2, pw3, pw4, pw5, pw6, pw7, pw8, pw9, if_true, if_false, eq_self, nm_eq, reduceCtorEq, ↓reduceIte, Nat.reduceEqDiff, Nat.reduceLeDiff, Nat.reduceBEq, Nat.reduceAdd, Nat.reduceLT, Nat.reduceSub, Nat.reduceMul, Int.reduceEq, Int.reduceLT, Int.reduceLE, Int.reduceNeg, Int.reduceToNat]
  refine Clone_ok rfl (by omega) ⟨fun h0 => ?_, fun cap hcap => ?_⟩
  · simp only [pw0, pw1, pw2, pw3, pw4, pw5, pw6, pw7, pw8, pw9, if_true, if_false, eq_self, nm_eq, reduceCtorEq, ↓reduceIte, Nat.reduceEqDiff, Nat.reduceLeDiff, Nat.reduceBEq, Nat.reduceAdd, Nat.reduceLT, Nat.reduceSub, Nat.reduceMul, Int.reduceEq, Int.reduceLT, Int.reduceLE, Int.reduceNeg, Int.reduceToNat]
    refine subtractMultiple_nil ?_
    subst h0
    obtain rfl : n = 0 := by simpa using hal.symm
    obtain rfl : b = [] := List.eq_nil_of_length_eq_zero hbl
    simp only [pw0, pw1, pw2, pw3, pw4, pw5, pw6, pw7, pw8, pw9, if_true, if_false, eq_self, nm_eq, reduceCtorEq, ↓reduceIte, Nat.reduceEqDiff, Nat.reduceLeDiff, Nat.reduceBEq, Nat.reduceAdd, Nat.reduceLT, Nat.reduceSub, Nat.reduceMul, Int.reduceEq, Int.reduceLT, Int.reduceLE, Int.reduceNeg, Int.reduceToNat]
    refine normal_nil hs hP o ⟨fun h0 => ?_, fun cap hc => ?_⟩
    · simp only [pw0, pw1, pw2, pw3, pw4, pw5, pw6, pw7, pw8, pw9, if_true, if_false, eq_self, nm_eq, reduceCtorEq, ↓reduceIte, Nat.reduceEqDiff, Nat.reduceLeDiff, Nat.reduceBEq, Nat.reduceAdd, Nat.reduceLT, Nat.reduceSub, Nat.reduceMul, Int.reduceEq, Int.reduceLT, Int.reduceLE, Int.reduceNeg, Int.reduceToNat]
      exact Gh.ret (hk.1 h0)
    · simp only [pw0, pw1, pw2, pw3, pw4, pw5, pw6, pw7, pw8, pw9, if_true, if_false, eq_self, nm_eq, reduceCtorEq, ↓reduceIte, Nat.reduceEqDiff, Nat.reduceLeDiff, Nat.reduceBEq, Nat.reduceAdd, Nat.reduceLT, Nat.reduceSub, Nat.reduceMul, Int.reduceEq, Int.reduceLT, Int.reduceLE, Int.reduceNeg, Int.reduceToNat]
      exact Gh.ret (hk.2 cap hc)
  · simp only [pw0, pw1, pw2, pw3, pw4, pw5, pw6, pw7, pw8, pw9, if_true, if_false, eq_self, nm_eq, reduceCtorEq, ↓reduceIte, Nat.reduceEqDiff, Nat.reduceLeDiff, Nat.reduceBEq, Nat.reduceAdd, Nat.reduceLT, Nat.reduceSub, Nat.reduceMul, Int.reduceEq, Int.reduceLT, Int.reduceLE, Int.reduceNeg, Int.reduceToNat]
    have hab : a.length = b.length := hal.trans hbl.symm
    refine subtractMultiple_ok rfl (by simp only [pw0, pw1, pw2, pw3, pw4, pw5, pw6, pw7, pw8, pw9, if_true, if_false, eq_self, nm_eq, reduceCtorEq, ↓reduceIte, Nat.reduceEqDiff, Nat.reduceLeDiff, Nat.reduceBEq, Nat.reduceAdd, Nat.reduceLT, Nat.reduceSub, Nat.reduceMul, Int.reduceEq, Int.reduceLT, Int.reduceLE, Int.reduceNeg, Int.reduceToNat]) (by omega) (by omega) (fun i h1 h2 => ?_) ?_
    · have b1 := ha.at o.pr i
      have b2 := hb.at o.pr i
      rw [at_eq h1] at b1
      rw [at_eq h2] at b2
      unfold sm; omega
    · simp only [pw0, pw1, pw2, pw3, pw4, pw5, pw6, pw7, pw8, pw9, if_true, if_false, eq_self, nm_eq, reduceCtorEq, ↓reduceIte, Nat.reduceEqDiff, Nat.reduceLeDiff, Nat.reduceBEq, Nat.reduceAdd, Nat.reduceLT, Nat.reduceSub, Nat.reduceMul, Int.reduceEq, Int.reduceLT, Int.reduceLE, Int.reduceNeg, Int.reduceToNat]
      rw [lmix1 hab]
      exact (normal_fin hs hP o (by rw [lmix_length hab, hal]) (ha.mixbd hb o.pr (by decide) (by decide)) (lmix_length hab).symm hcap.ok hk).mono fun v σ' hg => by simp only [pw0, pw1, pw2, pw3, pw4, pw5, pw6, pw7, pw8, pw9, if_true, if_false, eq_self, nm_eq, reduceCtorEq, ↓reduceIte, Nat.reduceEqDiff, Nat.reduceLeDiff, Nat.reduceBEq, Nat.reduceAdd, Nat.reduceLT, Nat.reduceSub, Nat.reduceMul, Int.reduceEq, Int.reduceLT, Int.reduceLE, Int.reduceNeg, Int.reduceToNat]; exact hg
theorem timesLie_ok {l : Nat} {w : Bool} {av : AV} {k : Int} {a : List Int} (hs : PtrR σ s p vP vB) (hP : FII vP W) (o : OkW p n W) (ha : El p n a) (hl : l = a.length) (hkb : -1000000000 ≤ k ∧ k ≤ 1000000000)
    (hk : ResI σ K (norm p W (lmix k a 0 a))) : PCalls Try.prog 85 [.ptr s 0, .int .i64 k, .fz w av l (pis a)] σ K := by
  subst hl
  have hn6 := o.le
  have hal := ha.1
  refine PCalls.gh ?_
  refine pcalls_of_vp mix Try.func85 cf85 rfl ?_
  dsimp only [if85, qI, eI, nI, qD, eD]
  have hneg : IntKind.i64.wrap (0 - k) = -k := by rw [wrap64 (by omega) (by omega)]; omega
  simp only [pw0, pw1, pw2, pw3, pw4, pw5, pw6, pw7, pw8, pw9, if_true, if_false, eq_self, nm_eq, reduceCtorEq, ↓reduceIte, Nat.reduceEqDiff, Nat.reduceLeDiff, Nat.reduceBEq, Nat.reduceAdd, Nat.reduceLT, Nat.reduceSub, Nat.reduceMul, Int.reduceEq, Int.reduceLT, Int.reduceLE, Int.reduceNeg, Int.reduceToNat, List.length_replicate, pis_rep, mk8 (n := a.length) (by omega), mkL (n := a.length) (by omega), hneg]
  refine subtractMultiple_ok' (xs := List.replicate a.length 0) (by simp) rfl (by simp only [pw0, pw1, pw2, pw3, pw4, pw5, pw6, pw7, pw8, pw9, if_true, if_false, eq_self, nm_eq, reduceCtorEq, ↓reduceIte, Nat.reduceEqDiff, Nat.reduceLeDiff, Nat.reduceBEq, Nat.reduceAdd, Nat.reduceLT, Nat.reduceSub, Nat.reduceMul, Int.reduceEq, Int.reduceLT, Int.reduceLE, Int.reduceNeg, Int.reduceToNat]) (by simp) (by simp; omega) (fun i h1 h2 => ?_) ?_
  · have b1 := ha.mul o.pr (k := -k) (by omega) i
    rw [at_eq h2] at b1
    rw [List.getElem_replicate]
    unfold sm; omega
  · simp only [pw0, pw1, pw2, pw3, pw4, pw5, pw6, pw7, pw8, pw9, if_true, if_false, eq_self, nm_eq, reduceCtorEq, ↓reduceIte, Nat.reduceEqDiff, Nat.reduceLeDiff, Nat.reduceBEq, Nat.reduceAdd, Nat.reduceLT, Nat.reduceSub, Nat.reduceMul, Int.reduceEq, Int.reduceLT, Int.reduceLE, Int.reduceNeg, Int.reduceToNat]
    rw [lmixk]
    exact (normal_fin hs hP o (by rw [lmix_length rfl, hal]) (ha.mixbd ha o.pr hkb (by decide)) (lmix_length rfl).symm (by simp [capOK]) hk).mono fun v σ' hg => by simp only [pw0, pw1, pw2, pw3, pw4, pw5, pw6, pw7, pw8, pw9, if_true, if_false, eq_self, nm_eq, reduceCtorEq, ↓reduceIte, Nat.reduceEqDiff, Nat.reduceLeDiff, Nat.reduceBEq, Nat.reduceAdd, Nat.reduceLT, Nat.reduceSub, Nat.reduceMul, Int.reduceEq, Int.reduceLT, Int.reduceLE, Int.reduceNeg, Int.reduceToNat]; exact hg

theorem l31Zero_ok (hR : IsR vP vB W B) (hW : W.length = n) (hn : n ≤ 1048576) (hk : ∀ v, K (.fz true v n (pis (List.replicate n 0))) σ) : PCalls Try.prog 115 [.agg [.int .i64 p, vP, vB]] σ K := by
  have h1 := hR.P.one
  have h2 := hR.B.one
  obtain ⟨⟨w1, a1, rP, rfl, hP⟩, hB⟩ := hR
  subst hW
  refine PCalls.gh ?_
  refine pcalls_of_vp mix Try.func115 cf115 rfl ?_
  dsimp only [if115, qI, eI, nI, qD, eD]
  simp only [pw0, pw1, pw2, pw3, pw4, pw5, pw6, pw7, pw8, pw9, if_true, if_false, eq_self, nm_eq, reduceCtorEq, ↓reduceIte, Nat.reduceEqDiff, Nat.reduceLeDiff, Nat.reduceBEq, Nat.reduceAdd, Nat.reduceLT, Nat.reduceSub, Nat.reduceMul, Int.reduceEq, Int.reduceLT, Int.reduceLE, Int.reduceNeg, Int.reduceToNat, h2, pis_rep, mk8 (n := W.length) (by omega), mkL (n := W.length) (by omega)]
  exact Gh.finF (s := σ.next + 1) ((keep_new σ _).new _) (by simp only [pw0, pw1, pw2, pw3, pw4, pw5, pw6, pw7, pw8, pw9, if_true, if_false, eq_self, nm_eq, reduceCtorEq, ↓reduceIte, Nat.reduceEqDiff, Nat.reduceLeDiff, Nat.reduceBEq, Nat.reduceAdd, Nat.reduceLT, Nat.reduceSub, Nat.reduceMul, Int.reduceEq, Int.reduceLT, Int.reduceLE, Int.reduceNeg, Int.reduceToNat]) (by omega) (pis_bel _ _) (by simp [capOK]) fun _ => hk _
/-- .. in a slot of its own. -/
theorem l31Zero_own (hR : IsR vP vB W B) (hW : W.length = n) (hn : n ≤ 1048576) (hk : ∀ cap, full 1 cap n → K (.sl σ.next 0 n cap) (σ.new (pis (List.replicate n 0)))) : PCalls Try.prog 115 [.agg [.int .i64 p, vP, vB]] σ K := by
  have h1 := hR.P.one
  have h2 := hR.B.one
  obtain ⟨⟨w1, a1, rP, rfl, hP⟩, hB⟩ := hR
  subst hW
  refine PCalls.gh ?_
  refine pcalls_of_vp mix Try.func115 cf115 rfl ?_
  dsimp only [if115, qI, eI, nI, qD, eD]
  simp only [pw0, pw1, pw2, pw3, pw4, pw5, pw6, pw7, pw8, pw9, if_true, if_false, eq_self, nm_eq, reduceCtorEq, ↓reduceIte, Nat.reduceEqDiff, Nat.reduceLeDiff, Nat.reduceBEq, Nat.reduceAdd, Nat.reduceLT, Nat.reduceSub, Nat.reduceMul, Int.reduceEq, Int.reduceLT, Int.reduceLE, Int.reduceNeg, Int.reduceToNat, h2, pis_rep, mk8 (n := W.length) (by omega), mkL (n := W.length) (by omega)]
  exact Gh.finS (s := σ.next + 1) ((keep_new σ _).new _) (by simp only [pw0, pw1, pw2, pw3, pw4, pw5, pw6, pw7, pw8, pw9, if_true, if_false, eq_self, nm_eq, reduceCtorEq, ↓reduceIte, Nat.reduceEqDiff, Nat.reduceLeDiff, Nat.reduceBEq, Nat.reduceAdd, Nat.reduceLT, Nat.reduceSub, Nat.reduceMul, Int.reduceEq, Int.reduceLT, Int.reduceLE, Int.reduceNeg, Int.reduceToNat]) (by omega) (pis_bel _ _) (hk _ (.inr rfl))

theorem l31Unit_ok {k : Nat} (hR : IsR vP vB W B) (hW : W.length = n) (hn : n ≤ 1048576) (hkn : k < n) (hk : ∀ v, K (.fz true v n (pis (unitL n k))) σ) : PCalls Try.prog 122 [.agg [.int .i64 p, vP, vB], .int .i64 k] σ K := by
  have h1 := hR.P.one
  have h2 := hR.B.one
  refine PCalls.gh ?_
  refine pcalls_of_vp mix Try.func122 cf122 rfl ?_
  dsimp only [if122, qI, eI, nI, qD, eD]
  simp only [pw0, pw1, pw2, pw3, pw4, pw5, pw6, pw7, pw8, pw9, if_true, if_false, eq_self, nm_eq, reduceCtorEq, ↓reduceIte, Nat.reduceEqDiff, Nat.reduceLeDiff, Nat.reduceBEq, Nat.reduceAdd, Nat.reduceLT, Nat.reduceSub, Nat.reduceMul, Int.reduceEq, Int.reduceLT, Int.reduceLE, Int.reduceNeg, Int.reduceToNat, h1, h2]
  refine l31Zero_own hR hW hn fun cap hc => ?_
  simp only [pw0, pw1, pw2, pw3, pw4, pw5, pw6, pw7, pw8, pw9, if_true, if_false, eq_self, nm_eq, reduceCtorEq, ↓reduceIte, Nat.reduceEqDiff, Nat.reduceLeDiff, Nat.reduceBEq, Nat.reduceAdd, Nat.reduceLT, Nat.reduceSub, Nat.reduceMul, Int.reduceEq, Int.reduceLT, Int.reduceLE, Int.reduceNeg, Int.reduceToNat, hkn, pis_length, List.length_replicate, Nat.succ_le_of_lt hkn]
  rw [pis_set_at (by simpa using hkn)]
  exact Gh.finF (s := σ.next + 1) ((keep_new σ _).new _) (by simp only [pw0, pw1, pw2, pw3, pw4, pw5, pw6, pw7, pw8, pw9, if_true, if_false, eq_self, nm_eq, reduceCtorEq, ↓reduceIte, Nat.reduceEqDiff, Nat.reduceLeDiff, Nat.reduceBEq, Nat.reduceAdd, Nat.reduceLT, Nat.reduceSub, Nat.reduceMul, Int.reduceEq, Int.reduceLT, Int.reduceLE, Int.reduceNeg, Int.reduceToNat]; rfl) (by omega) (pis_bel _ _) hc.ok fun _ => hk _

/- BRACKETS -/

/-- The coefficient of the bracket of generators i and j. -/
def coef (a b : List Int) (i j : Nat) : Int := at_ a i * at_ b j - at_ a j * at_ b i
/-- The first k brackets of a generator, added. -/
def bk (row : List (List Int)) (a b : List Int) (i : Nat) : Nat → List Int → List Int
  | 0, acc => acc
  | k + 1, acc => addm (coef a b i (i + 1 + k)) (bk row a b i k acc) (row.getD k [])
/-- The brackets of the first i generators, added. -/
def bi (B : List (List (List Int))) (a b : List Int) (n : Nat) : Nat → List Int
  | 0 => List.replicate n 0
  | i + 1 => bk (B.getD i []) a b i (n - 1 - i) (bi B a b n i)
/-- The bracket of two combinations, as a combination. -/
def bsum (B : List (List (List Int))) (a b : List Int) (n : Nat) : List Int := bi B a b n n

/-- A ring's brackets have their shape. -/
structure OkB (p : Int) (n : Nat) (B : List (List (List Int))) : Prop where
  len : B.length = n
  row : ∀ (i : Nat) (h : i < B.length), B[i].length = n - 1 - i
  ent : ∀ (i : Nat) (h : i < B.length) (k : Nat) (hk : k < B[i].length), El p n B[i][k] ∧ ∀ j, j ≤ i + k + 1 → at_ B[i][k] j = 0

theorem getD_row' {α : Type} {B : List (List α)} {i : Nat} (h : i < B.length) : B.getD i [] = B[i] := by simp [List.getD_eq_getElem?_getD, List.getElem?_eq_getElem h]
theorem OkB.get (q : OkB p n B) {i k : Nat} (hi : i < n) (hk : k < n - 1 - i) : El p n ((B.getD i []).getD k []) ∧ ∀ j, j ≤ i + k + 1 → at_ ((B.getD i []).getD k []) j = 0 := by
  have h1 : i < B.length := by rw [q.len]; exact hi
  have h2 : k < B[i].length := by rw [q.row i h1]; exact hk
  rw [getD_row' h1, getD_row' h2]
  exact q.ent i h1 k h2
theorem bk_length (q : OkB p n B) {a b acc : List Int} {i : Nat} (hi : i < n) (hacc : acc.length = n) : ∀ {k : Nat}, k ≤ n - 1 - i → (bk (B.getD i []) a b i k acc).length = n
  | 0, _ => hacc
  | k + 1, hk => by
    have ih := bk_length q hi hacc (k := k) (a := a) (b := b) (by omega)
    rw [bk, addm_length (by rw [ih, (q.get hi (by omega : k < n - 1 - i)).1.1]; omega), ih]
theorem bi_length (q : OkB p n B) {a b : List Int} : ∀ {i : Nat}, i ≤ n → (bi B a b n i).length = n
  | 0, _ => by simp [bi]
  | i + 1, hi => bk_length q (by omega) (bi_length q (by omega)) (Nat.le_refl _)
theorem coef_bd {a b : List Int} (hp : okp p) (ha : El p n a) (hb : El p n b) (i j : Nat) : -36 ≤ coef a b i j ∧ coef a b i j ≤ 36 := by
  have m : ∀ {x y : Int}, 0 ≤ x ∧ x ≤ 6 → 0 ≤ y ∧ y ≤ 6 → 0 ≤ x * y ∧ x * y ≤ 36 := fun {x y} hx hy => by
    obtain rfl | rfl | rfl | rfl | rfl | rfl | rfl : x = 0 ∨ x = 1 ∨ x = 2 ∨ x = 3 ∨ x = 4 ∨ x = 5 ∨ x = 6 := by omega
    all_goals omega
  have h1 := m (ha.at hp i) (hb.at hp j)
  have h2 := m (ha.at hp j) (hb.at hp i)
  unfold coef
  omega
theorem coef_mul {a b c : List Int} (hp : okp p) (ha : El p n a) (hb : El p n b) (hc : El p n c) (i j t : Nat) : -216 ≤ coef a b i j * at_ c t ∧ coef a b i j * at_ c t ≤ 216 := by
  have h1 := coef_bd hp ha hb i j
  have h2 := hc.at hp t
  obtain e | e | e | e | e | e | e : at_ c t = 0 ∨ at_ c t = 1 ∨ at_ c t = 2 ∨ at_ c t = 3 ∨ at_ c t = 4 ∨ at_ c t = 5 ∨ at_ c t = 6 := by omega
  all_goals rw [e]; omega
theorem bk_at (q : OkB p n B) {a b acc : List Int} {i : Nat} (hi : i < n) (hacc : acc.length = n) (t : Nat) : ∀ {k : Nat}, k ≤ n - 1 - i →
    at_ (bk (B.getD i []) a b i k acc) t = at_ acc t + sumN k fun j => coef a b i (i + 1 + j) * at_ ((B.getD i []).getD j []) t
  | 0, _ => by simp [bk, sumN]
  | k + 1, hk => by
    have h1 := bk_length q hi hacc (k := k) (a := a) (b := b) (by omega)
    rw [bk, addm_at (by rw [h1, (q.get hi (by omega : k < n - 1 - i)).1.1]), bk_at q hi hacc t (by omega), sumN]; omega
theorem bi_at (q : OkB p n B) {a b : List Int} (t : Nat) : ∀ {i : Nat}, i ≤ n →
    at_ (bi B a b n i) t = sumN i fun i => sumN (n - 1 - i) fun j => coef a b i (i + 1 + j) * at_ ((B.getD i []).getD j []) t
  | 0, _ => by rw [bi, at_rep]; rfl
  | i + 1, hi => by rw [bi, bk_at q (by omega) (bi_length q (by omega)) t (Nat.le_refl _), bi_at q t (by omega)]; rfl
theorem bk_bd (q : OkB p n B) {a b acc : List Int} (hp : okp p) (ha : El p n a) (hb : El p n b) {M : Int} {i : Nat} (hi : i < n) (hacc : acc.length = n) (hM : bd M acc) : ∀ {k : Nat}, k ≤ n - 1 - i → bd (M + 216 * k) (bk (B.getD i []) a b i k acc)
  | 0, _ => by simpa [bk] using hM
  | k + 1, hk => fun t => by
    have h1 := bk_length q hi hacc (k := k) (a := a) (b := b) (by omega)
    have h2 := bk_bd q hp ha hb hi hacc hM (k := k) (by omega) t
    have h3 := coef_mul hp ha hb (q.get hi (by omega : k < n - 1 - i)).1 i (i + 1 + k) t
    rw [bk, addm_at (by rw [h1, (q.get hi (by omega : k < n - 1 - i)).1.1])]
    omega
theorem bi_bd (q : OkB p n B) {a b : List Int} (hp : okp p) (hn : n ≤ 6) (ha : El p n a) (hb : El p n b) : ∀ {i : Nat}, i ≤ n → bd (1296 * i) (bi B a b n i)
  | 0, _ => fun t => by rw [bi, at_rep]; omega
  | i + 1, hi => (bk_bd q hp ha hb (by omega) (bi_length q (by omega)) (bi_bd q hp hn ha hb (by omega)) (Nat.le_refl _)).mono (by omega)
theorem bsum_length (q : OkB p n B) {a b : List Int} : (bsum B a b n).length = n := bi_length q (Nat.le_refl _)
theorem bsum_bd (q : OkB p n B) {a b : List Int} (hp : okp p) (hn : n ≤ 6) (ha : El p n a) (hb : El p n b) : bd big (bsum B a b n) := (bi_bd q hp hn ha hb (Nat.le_refl _)).mono (by have : big = 1125899906842624 := rfl; omega)
theorem subm_neg (k : Int) (xs ys : List Int) : subm (-k) xs ys = addm k xs ys := by rw [subm_eq, Int.neg_neg]
end Go.Proofs
