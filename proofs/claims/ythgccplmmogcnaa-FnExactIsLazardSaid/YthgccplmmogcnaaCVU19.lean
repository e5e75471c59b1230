/- Spans of Lie rings, the program's side: numbers, depths, reduction. -/
import Derived.Test.YthgccplmmogcnaaCVU16
set_option linter.unusedSimpArgs false
set_option linter.unusedVariables false
namespace Go.Proofs
open Go.Ab Go.Lie
variable {σ : PHeap} {K : PV → PHeap → Prop} {p p' : Int} {n : Nat} {W : List (List Int)} {B : List (List (List Int))} {vP vB vL vU : PV} {s : Nat}

/-- The numbers of the division with remainder. -/
def euc (p a : Int) : Nat → Int × Int × Int × Int
  | 0 => (p, a, 0, 1)
  | k + 1 => let t := euc p a k
    if t.2.1 = 0 then t else (t.2.1, t.1 - t.1.tdiv t.2.1 * t.2.1, t.2.2.2, t.2.2.1 - t.1.tdiv t.2.1 * t.2.2.2)
def eucOK (p a : Int) (k : Nat) : Bool :=
  let t := euc p a k
  decide (-7 ≤ t.1 ∧ t.1 ≤ 7 ∧ -7 ≤ t.2.1 ∧ t.2.1 ≤ 7 ∧ -7 ≤ t.2.2.1 ∧ t.2.2.1 ≤ 7 ∧ -7 ≤ t.2.2.2 ∧ t.2.2.2 ≤ 7 ∧ -7 ≤ t.1.tdiv t.2.1 ∧ t.1.tdiv t.2.1 ≤ 7 ∧ -49 ≤ t.1.tdiv t.2.1 * t.2.1 ∧ t.1.tdiv t.2.1 * t.2.1 ≤ 49 ∧ -49 ≤ t.1.tdiv t.2.1 * t.2.2.2 ∧ t.1.tdiv t.2.1 * t.2.2.2 ≤ 49 ∧ (k = 8 → t.2.1 = 0) ∧ (t.2.1 = 0 → a * (t.2.2.1 % p) % p = 1 % p))
theorem euc_all : ∀ p ∈ [2, 3, 5, 7], ∀ a ∈ [1, 2, 3, 4, 5, 6], (a : Int) < p → ∀ k ∈ [0, 1, 2, 3, 4, 5, 6, 7, 8], eucOK p a k = true := by decide +kernel
theorem euc_ok {a : Int} (hp : isP p) (ha : 0 < a ∧ a < p) {k : Nat} (hk : k ≤ 8) : eucOK p a k = true := by
  have hpb := hp.bd
  refine euc_all p ?_ a ?_ ha.2 k ?_
  · rcases hp with h | h | h | h <;> simp [h]
  · have : a = 1 ∨ a = 2 ∨ a = 3 ∨ a = 4 ∨ a = 5 ∨ a = 6 := by omega
    rcases this with h | h | h | h | h | h <;> simp [h]
  · have : k = 0 ∨ k = 1 ∨ k = 2 ∨ k = 3 ∨ k = 4 ∨ k = 5 ∨ k = 6 ∨ k = 7 ∨ k = 8 := by omega
    rcases this with h | h | h | h | h | h | h | h | h <;> simp [h]

theorem inverseMod_ok {a : Int} (hp : isP p) (ha : 0 < a ∧ a < p) (hk : ∀ (x : Int) (b : Bool), 0 ≤ x → x < p → a * x % p = 1 → K (.tup [.int .i64 x, .bool b]) σ) : PCalls Try.prog 108 [.int .i64 a, .int .i64 p] σ K := by
  have hpb := hp.bd
  refine pcalls_of_vp mix Try.func108 cf108 rfl ?_
  dsimp only [if108, qI, eI, nI, qD, eD]
  simp only [pw0, pw1, pw2, pw3, pw4, pw5, pw6, pw7, pw8, pw9, if_true, if_false, eq_self, nm_eq, reduceCtorEq, ↓reduceIte, Nat.reduceEqDiff, Nat.reduceLeDiff, Nat.reduceBEq, Nat.reduceAdd, Nat.reduceLT, Nat.reduceSub, Nat.reduceMul, Int.reduceEq, Int.reduceLT, Int.reduceLE, Int.reduceNeg, Int.reduceToNat, List.reduceReplicate, Int.ofNat_le, List.getElem?_drop]
  refine vp_loop (fun m vs h' => ∃ k : Nat, k ≤ 8 ∧ m = 8 - k ∧ vs = [.int .i64 p, .int .i64 (euc p a k).1, .int .i64 (euc p a k).2.1, .int .i64 (euc p a k).2.2.1, .int .i64 (euc p a k).2.2.2] ∧ σ = h') 8 ?_ ?_
  · exact ⟨0, by omega, by omega, rfl, rfl⟩
  rintro m vs h' ⟨k, hk8, rfl, rfl, rfl⟩
  have hok := euc_ok hp ha hk8
  unfold eucOK at hok
  have hst : euc p a (k + 1) = if (euc p a k).2.1 = 0 then euc p a k else ((euc p a k).2.1, (euc p a k).1 - (euc p a k).1.tdiv (euc p a k).2.1 * (euc p a k).2.1, (euc p a k).2.2.2, (euc p a k).2.2.1 - (euc p a k).1.tdiv (euc p a k).2.1 * (euc p a k).2.2.2) := rfl
  generalize hT : euc p a k = T at *
  obtain ⟨r, nx, x, y⟩ := T
  dsimp only at hok hst ⊢
  simp only [decide_eq_true_eq] at hok
  obtain ⟨b1, b2, b3, b4, b5, b6, b7, b8, b9, b10, b11, b12, b13, b14, b15, b16⟩ := hok
  by_cases h0 : nx = 0
  · subst h0
    simp only [pw0, pw1, pw2, pw3, pw4, pw5, pw6, pw7, pw8, pw9, if_true, if_false, eq_self, nm_eq, reduceCtorEq, ↓reduceIte, Nat.reduceEqDiff, Nat.reduceLeDiff, Nat.reduceBEq, Nat.reduceAdd, Nat.reduceLT, Nat.reduceSub, Nat.reduceMul, Int.reduceEq, Int.reduceLT, Int.reduceLE, Int.reduceNeg, Int.reduceToNat, List.reduceReplicate, Int.ofNat_le, List.getElem?_drop]
    refine residue_ok (by omega) (by omega) ?_
    simp only [pw0, pw1, pw2, pw3, pw4, pw5, pw6, pw7, pw8, pw9, if_true, if_false, eq_self, nm_eq, reduceCtorEq, ↓reduceIte, Nat.reduceEqDiff, Nat.reduceLeDiff, Nat.reduceBEq, Nat.reduceAdd, Nat.reduceLT, Nat.reduceSub, Nat.reduceMul, Int.reduceEq, Int.reduceLT, Int.reduceLE, Int.reduceNeg, Int.reduceToNat, List.reduceReplicate, Int.ofNat_le, List.getElem?_drop]
    refine hk _ _ (Int.emod_nonneg _ (by omega)) (Int.emod_lt_of_pos _ (by omega)) ?_
    rw [b16 rfl]
    exact Int.emod_eq_of_lt (by omega) (by omega)
  · rw [if_neg h0] at hst
    have hk9 : k ≠ 8 := fun e => h0 (b15 e)
    simp only [pw0, pw1, pw2, pw3, pw4, pw5, pw6, pw7, pw8, pw9, if_true, if_false, eq_self, nm_eq, reduceCtorEq, ↓reduceIte, Nat.reduceEqDiff, Nat.reduceLeDiff, Nat.reduceBEq, Nat.reduceAdd, Nat.reduceLT, Nat.reduceSub, Nat.reduceMul, Int.reduceEq, Int.reduceLT, Int.reduceLE, Int.reduceNeg, Int.reduceToNat, List.reduceReplicate, Int.ofNat_le, List.getElem?_drop, h0, wrap64 (n := r.tdiv nx) (by omega) (by omega), wrap64 (n := r.tdiv nx * nx) (by omega) (by omega), wrap64 (n := r.tdiv nx * y) (by omega) (by omega), wrap64 (n := r - r.tdiv nx * nx) (by omega) (by omega), wrap64 (n := x - r.tdiv nx * y) (by omega) (by omega)]
    refine ⟨_, by omega, k + 1, by omega, rfl, ?_⟩
    rw [hst]

theorem depthOf_ok {l : Nat} {w : Bool} {a : AV} {xs : List Int} (hl : l = xs.length) (hb : xs.length ≤ 1048576) (hk : K (.int .i64 (dep xs)) σ) : PCalls Try.prog 106 [.fz w a l (pis xs)] σ K := by
  subst hl
  refine pcalls_of_vp mix Try.func106 cf106 rfl ?_
  dsimp only [if106, qI, eI, nI, qD, eD]
  simp only [pw0, pw1, pw2, pw3, pw4, pw5, pw6, pw7, pw8, pw9, if_true, if_false, eq_self, nm_eq, reduceCtorEq, ↓reduceIte, Nat.reduceEqDiff, Nat.reduceLeDiff, Nat.reduceBEq, Nat.reduceAdd, Nat.reduceLT, Nat.reduceSub, Nat.reduceMul, Int.reduceEq, Int.reduceLT, Int.reduceLE, Int.reduceNeg, Int.reduceToNat, List.reduceReplicate, Int.ofNat_le, List.getElem?_drop]
  refine vp_loop (fun m vs h' => ∃ i : Nat, i ≤ dep xs ∧ m = dep xs - i ∧ vs = [.fz w a xs.length (pis xs), .fz w a xs.length (pis xs), .int .i64 xs.length, .int .i64 i] ∧ σ = h') (dep xs) ?_ ?_
  · exact ⟨0, by omega, by omega, rfl, rfl⟩
  rintro m vs h' ⟨i, hi, rfl, rfl, rfl⟩
  have hdl := dep_le xs
  by_cases hlt : i < xs.length
  · by_cases h0 : xs[i] = 0
    · have hid : i < dep xs := by
        rcases Nat.lt_or_ge i (dep xs) with x | x
        · exact x
        · have : i = dep xs := by omega
          subst this
          exact absurd (by rw [at_eq hlt]; exact h0) (dep_ne hlt)
      simp only [pw0, pw1, pw2, pw3, pw4, pw5, pw6, pw7, pw8, pw9, if_true, if_false, eq_self, nm_eq, reduceCtorEq, ↓reduceIte, Nat.reduceEqDiff, Nat.reduceLeDiff, Nat.reduceBEq, Nat.reduceAdd, Nat.reduceLT, Nat.reduceSub, Nat.reduceMul, Int.reduceEq, Int.reduceLT, Int.reduceLE, Int.reduceNeg, Int.reduceToNat, List.reduceReplicate, Int.ofNat_le, List.getElem?_drop, hlt, List.getElem?_drop, pis_get, gi hlt, h0, wrapS hlt (by omega : xs.length ≤ 4611686018427387904)]
      exact ⟨_, by omega, i + 1, by omega, rfl, rfl⟩
    · have hid : i = dep xs := by
        rcases Nat.lt_or_ge i (dep xs) with x | x
        · exact absurd (by rw [← at_eq hlt]; exact dep_zero x) h0
        · omega
      subst hid
      simp only [pw0, pw1, pw2, pw3, pw4, pw5, pw6, pw7, pw8, pw9, if_true, if_false, eq_self, nm_eq, reduceCtorEq, ↓reduceIte, Nat.reduceEqDiff, Nat.reduceLeDiff, Nat.reduceBEq, Nat.reduceAdd, Nat.reduceLT, Nat.reduceSub, Nat.reduceMul, Int.reduceEq, Int.reduceLT, Int.reduceLE, Int.reduceNeg, Int.reduceToNat, List.reduceReplicate, Int.ofNat_le, List.getElem?_drop, hlt, List.getElem?_drop, pis_get, gi hlt, h0]
      exact hk
  · have hid : i = dep xs := by omega
    subst hid
    simp only [pw0, pw1, pw2, pw3, pw4, pw5, pw6, pw7, pw8, pw9, if_true, if_false, eq_self, nm_eq, reduceCtorEq, ↓reduceIte, Nat.reduceEqDiff, Nat.reduceLeDiff, Nat.reduceBEq, Nat.reduceAdd, Nat.reduceLT, Nat.reduceSub, Nat.reduceMul, Int.reduceEq, Int.reduceLT, Int.reduceLE, Int.reduceNeg, Int.reduceToNat, List.reduceReplicate, Int.ofNat_le, List.getElem?_drop, hlt]
    have hd : dep xs = xs.length := by omega
    rw [hd] at hk
    exact hk

theorem piv1_ok {x : Int} (hk : K (.bool (!decide (x = 0))) σ) : PCalls Try.prog 143 [.int .i64 x] σ K := by
  refine pcalls_of_vp mix Try.func143 cf143 rfl ?_
  dsimp only [if143, qI, eI, nI, qD, eD]
  simp only [pw0, pw1, pw2, pw3, pw4, pw5, pw6, pw7, pw8, pw9, if_true, if_false, eq_self, nm_eq, reduceCtorEq, ↓reduceIte, Nat.reduceEqDiff, Nat.reduceLeDiff, Nat.reduceBEq, Nat.reduceAdd, Nat.reduceLT, Nat.reduceSub, Nat.reduceMul, Int.reduceEq, Int.reduceLT, Int.reduceLE, Int.reduceNeg, Int.reduceToNat, List.reduceReplicate, Int.ofNat_le, List.getElem?_drop]
  exact hk
theorem okF143 : okF Try.prog 143 = true := by kernel_rfl

theorem IndexFunc_ok {l : Nat} {w : Bool} {a : AV} {xs : List Int} (hl : l = xs.length) (hb : xs.length ≤ 1048576) (hd : dep xs < xs.length) (hk : K (.int .i64 (dep xs)) σ) :
    PCalls Try.prog 142 [.fz w a l (pis xs), .clo 143 [] []] σ K := by
  subst hl
  refine pcalls_of_vp mix Try.func142 cf142 rfl ?_
  dsimp only [if142, qI, eI, nI, qD, eD]
  simp only [pw0, pw1, pw2, pw3, pw4, pw5, pw6, pw7, pw8, pw9, if_true, if_false, eq_self, nm_eq, reduceCtorEq, ↓reduceIte, Nat.reduceEqDiff, Nat.reduceLeDiff, Nat.reduceBEq, Nat.reduceAdd, Nat.reduceLT, Nat.reduceSub, Nat.reduceMul, Int.reduceEq, Int.reduceLT, Int.reduceLE, Int.reduceNeg, Int.reduceToNat, List.reduceReplicate, Int.ofNat_le, List.getElem?_drop]
  refine vp_loop (fun m vs h' => ∃ i : Nat, i ≤ dep xs ∧ m = dep xs - i ∧ vs = [.fz w a xs.length (pis xs), .clo 143 [] [], .int .i64 xs.length, .int .i64 i] ∧ σ = h') (dep xs) ?_ ?_
  · exact ⟨0, by omega, by omega, rfl, rfl⟩
  rintro m vs h' ⟨i, hi, rfl, rfl, rfl⟩
  have hlt : i < xs.length := by omega
  simp only [pw0, pw1, pw2, pw3, pw4, pw5, pw6, pw7, pw8, pw9, if_true, if_false, eq_self, nm_eq, reduceCtorEq, ↓reduceIte, Nat.reduceEqDiff, Nat.reduceLeDiff, Nat.reduceBEq, Nat.reduceAdd, Nat.reduceLT, Nat.reduceSub, Nat.reduceMul, Int.reduceEq, Int.reduceLT, Int.reduceLE, Int.reduceNeg, Int.reduceToNat, List.reduceReplicate, Int.ofNat_le, List.getElem?_drop, hlt, List.getElem?_drop, pis_get, gi hlt]
  refine ⟨okF143, piv1_ok ?_⟩
  by_cases h0 : xs[i] = 0
  · have hid : i < dep xs := by
      rcases Nat.lt_or_ge i (dep xs) with x | x
      · exact x
      · have : i = dep xs := by omega
        subst this
        exact absurd (by rw [at_eq hlt]; exact h0) (dep_ne hlt)
    simp only [pw0, pw1, pw2, pw3, pw4, pw5, pw6, pw7, pw8, pw9, if_true, if_false, eq_self, nm_eq, reduceCtorEq, ↓reduceIte, Nat.reduceEqDiff, Nat.reduceLeDiff, Nat.reduceBEq, Nat.reduceAdd, Nat.reduceLT, Nat.reduceSub, Nat.reduceMul, Int.reduceEq, Int.reduceLT, Int.reduceLE, Int.reduceNeg, Int.reduceToNat, List.reduceReplicate, Int.ofNat_le, List.getElem?_drop, h0, ne_eq, not_true, decide_false, wrapS hlt (by omega : xs.length ≤ 4611686018427387904)]
    exact ⟨_, by omega, i + 1, by omega, rfl, rfl⟩
  · have hid : i = dep xs := by
      rcases Nat.lt_or_ge i (dep xs) with x | x
      · exact absurd (by rw [← at_eq hlt]; exact dep_zero x) h0
      · omega
    subst hid
    simp only [pw0, pw1, pw2, pw3, pw4, pw5, pw6, pw7, pw8, pw9, if_true, if_false, eq_self, nm_eq, reduceCtorEq, ↓reduceIte, Nat.reduceEqDiff, Nat.reduceLeDiff, Nat.reduceBEq, Nat.reduceAdd, Nat.reduceLT, Nat.reduceSub, Nat.reduceMul, Int.reduceEq, Int.reduceLT, Int.reduceLE, Int.reduceNeg, Int.reduceToNat, List.reduceReplicate, Int.ofNat_le, List.getElem?_drop, h0, ne_eq, not_false_iff, decide_true]
    exact hk

abbrev deps (u : List (List Int)) : List Int := u.map fun v => (dep v : Int)
theorem pivots_ok {u : List (List Int)} (hL : FII vU u) (hu : ∀ v ∈ u, dep v < v.length ∧ v.length ≤ 1048576) (hul : u.length ≤ 1048576) (hk : ∀ v, K (.fz true v u.length (pis (deps u))) σ) : PCalls Try.prog 135 [vU] σ K := by
  obtain ⟨wl, al, rl, rfl, hrl⟩ := hL
  refine PCalls.gh ?_
  refine pcalls_of_vp mix Try.func135 cf135 rfl ?_
  dsimp only [if135, qI, eI, nI, qD, eD]
  simp only [pw0, pw1, pw2, pw3, pw4, pw5, pw6, pw7, pw8, pw9, if_true, if_false, eq_self, nm_eq, reduceCtorEq, ↓reduceIte, Nat.reduceEqDiff, Nat.reduceLeDiff, Nat.reduceBEq, Nat.reduceAdd, Nat.reduceLT, Nat.reduceSub, Nat.reduceMul, Int.reduceEq, Int.reduceLT, Int.reduceLE, Int.reduceNeg, Int.reduceToNat, List.reduceReplicate, Int.ofNat_le, List.getElem?_drop]
  refine vp_loop (fun m vs h' => ∃ (i : Nat) (v : PV), i ≤ u.length ∧ m = u.length - i ∧ vs = [v, .fz wl al u.length rl, .int .i64 u.length, .int .i64 i] ∧ Keep σ h' ∧ PAcc σ.next 1 h' v i (pis (deps (u.take i)))) u.length ?_ ?_
  · exact ⟨0, _, by omega, by omega, rfl, Keep.refl σ, PAcc.nil _ _ _⟩
  rintro m vs h' ⟨i, v, hi, rfl, rfl, hkp, ha⟩
  simp only [pw0, pw1, pw2, pw3, pw4, pw5, pw6, pw7, pw8, pw9, if_true, if_false, eq_self, nm_eq, reduceCtorEq, ↓reduceIte, Nat.reduceEqDiff, Nat.reduceLeDiff, Nat.reduceBEq, Nat.reduceAdd, Nat.reduceLT, Nat.reduceSub, Nat.reduceMul, Int.reduceEq, Int.reduceLT, Int.reduceLE, Int.reduceNeg, Int.reduceToNat, List.reduceReplicate, Int.ofNat_le, List.getElem?_drop]
  refine iteI (fun hlt => ?_) fun hge => ?_
  · obtain ⟨w4, a4, hr⟩ := hrl.rowI hlt
    have hui := hu _ (List.getElem_mem hlt)
    simp only [pw0, pw1, pw2, pw3, pw4, pw5, pw6, pw7, pw8, pw9, if_true, if_false, eq_self, nm_eq, reduceCtorEq, ↓reduceIte, Nat.reduceEqDiff, Nat.reduceLeDiff, Nat.reduceBEq, Nat.reduceAdd, Nat.reduceLT, Nat.reduceSub, Nat.reduceMul, Int.reduceEq, Int.reduceLT, Int.reduceLE, Int.reduceNeg, Int.reduceToNat, List.reduceReplicate, Int.ofNat_le, List.getElem?_drop, hlt, hr, List.getElem?_drop]
    refine IndexFunc_ok rfl hui.2 hui.1 ?_
    simp only [pw0, pw1, pw2, pw3, pw4, pw5, pw6, pw7, pw8, pw9, if_true, if_false, eq_self, nm_eq, reduceCtorEq, ↓reduceIte, Nat.reduceEqDiff, Nat.reduceLeDiff, Nat.reduceBEq, Nat.reduceAdd, Nat.reduceLT, Nat.reduceSub, Nat.reduceMul, Int.reduceEq, Int.reduceLT, Int.reduceLE, Int.reduceNeg, Int.reduceToNat, List.reduceReplicate, Int.ofNat_le, List.getElem?_drop]
    refine PAcc.push (bytes := 8) hkp ha (by omega) (by omega) fun v' h2 k2 a2 => ?_
    simp only [pw0, pw1, pw2, pw3, pw4, pw5, pw6, pw7, pw8, pw9, if_true, if_false, eq_self, nm_eq, reduceCtorEq, ↓reduceIte, Nat.reduceEqDiff, Nat.reduceLeDiff, Nat.reduceBEq, Nat.reduceAdd, Nat.reduceLT, Nat.reduceSub, Nat.reduceMul, Int.reduceEq, Int.reduceLT, Int.reduceLE, Int.reduceNeg, Int.reduceToNat, List.reduceReplicate, Int.ofNat_le, List.getElem?_drop, wrapS hlt (by omega : u.length ≤ 4611686018427387904)]
    refine ⟨_, by omega, i + 1, v', by omega, rfl, rfl, k2, ?_⟩
    have e : pis (deps (u.take (i + 1))) = pis (deps (u.take i)) ++ [.int .i64 (dep u[i])] := by rw [List.take_succ_eq_append_getElem hlt, deps, List.map_append, ← pis_append]; rfl
    rw [e]
    exact a2.acc
  · have hie : i = u.length := by omega
    subst hie
    rw [List.take_length] at ha
    exact ha.fin hkp (pis_bel _ _) hk

theorem add_red (o : OkW p n W) {y v : List Int} (hy : El p n y) (hv : El p n v) (c : Int) : ladd p W y (lmul p W c v) = norm p W (lmix 1 y c v) := by
  have hm : (lmix c v 0 v).length = n := by rw [lmix_length rfl]; exact hv.1
  have hz : El p n (lmul p W c v) := norm_El o hm
  refine norm_congr o (by rw [lmix_length (hy.1.trans hz.1.symm)]; exact hy.1) (by rw [lmix_length (hy.1.trans hv.1.symm)]; exact hy.1) ?_
  have h1 : Eqv p n W (fun j => at_ y j + at_ (lmul p W c v) j) (fun j => at_ y j + at_ (lmix c v 0 v) j) := (Eqv.refl _).add (norm_eqv o hm)
  refine ((Eqv.of_eq fun j => ?_).trans h1).trans (Eqv.of_eq fun j => ?_)
  · rw [lmix_at (hy.1.trans hz.1.symm)]; omega
  · rw [lmix_at (hy.1.trans hv.1.symm), lmix_at rfl]; omega

theorem reduceLie_ok {l : Nat} {w : Bool} {a : AV} {u : List (List Int)} {x : List Int} (hs : PtrR σ s p vP vB) (hP : FII vP W) (o : OkW p n W) (hL : FII vU u) (hu : ∀ v ∈ u, El p n v ∧ dep v < n) (hul : u.length ≤ 1048576) (hx : El p n x) (hl : l = x.length)
    (hk : ∀ v, K (.fz true v n (pis (redL p W u x))) σ) : PCalls Try.prog 109 [.ptr s 0, vU, .fz w a l (pis x)] σ K := by
  have hn6 := o.le
  have hp := o.pr
  unfold okp at hp
  refine pcalls_of_vp mix Try.func109 cf109 rfl ?_
  dsimp only [if109, qI, eI, nI, qD, eD]
  simp only [pw0, pw1, pw2, pw3, pw4, pw5, pw6, pw7, pw8, pw9, if_true, if_false, eq_self, nm_eq, reduceCtorEq, ↓reduceIte, Nat.reduceEqDiff, Nat.reduceLeDiff, Nat.reduceBEq, Nat.reduceAdd, Nat.reduceLT, Nat.reduceSub, Nat.reduceMul, Int.reduceEq, Int.reduceLT, Int.reduceLE, Int.reduceNeg, Int.reduceToNat, List.reduceReplicate, Int.ofNat_le, List.getElem?_drop]
  refine PCalls.fzN hx.1 (fun K' => Clone_ok hl (by rw [hx.1]; omega)) fun v0 => ?_
  simp only [pw0, pw1, pw2, pw3, pw4, pw5, pw6, pw7, pw8, pw9, if_true, if_false, eq_self, nm_eq, reduceCtorEq, ↓reduceIte, Nat.reduceEqDiff, Nat.reduceLeDiff, Nat.reduceBEq, Nat.reduceAdd, Nat.reduceLT, Nat.reduceSub, Nat.reduceMul, Int.reduceEq, Int.reduceLT, Int.reduceLE, Int.reduceNeg, Int.reduceToNat, List.reduceReplicate, Int.ofNat_le, List.getElem?_drop]
  refine pivots_ok hL (fun v hv => ⟨by rw [(hu v hv).1.1]; exact (hu v hv).2, by rw [(hu v hv).1.1]; omega⟩) hul fun vp => ?_
  obtain ⟨wl, al, rl, rfl, hrl⟩ := hL
  simp only [pw0, pw1, pw2, pw3, pw4, pw5, pw6, pw7, pw8, pw9, if_true, if_false, eq_self, nm_eq, reduceCtorEq, ↓reduceIte, Nat.reduceEqDiff, Nat.reduceLeDiff, Nat.reduceBEq, Nat.reduceAdd, Nat.reduceLT, Nat.reduceSub, Nat.reduceMul, Int.reduceEq, Int.reduceLT, Int.reduceLE, Int.reduceNeg, Int.reduceToNat, List.reduceReplicate, Int.ofNat_le, List.getElem?_drop]
  refine vp_loop (fun m vs h' => ∃ i : Nat, i ≤ u.length ∧ m = u.length - i ∧ ∃ v, vs = [.ptr s 0, .fz wl al u.length rl, .fz true v n (pis (redL p W (u.take i) x)), .fz true vp u.length (pis (deps u)), .int .i64 u.length, .int .i64 i] ∧ σ = h') u.length ?_ ?_
  · exact ⟨0, by omega, by omega, v0, by rw [List.take_zero, redL]; rfl, rfl⟩
  rintro m vs h' ⟨i, hi, rfl, v, rfl, rfl⟩
  simp only [pw0, pw1, pw2, pw3, pw4, pw5, pw6, pw7, pw8, pw9, if_true, if_false, eq_self, nm_eq, reduceCtorEq, ↓reduceIte, Nat.reduceEqDiff, Nat.reduceLeDiff, Nat.reduceBEq, Nat.reduceAdd, Nat.reduceLT, Nat.reduceSub, Nat.reduceMul, Int.reduceEq, Int.reduceLT, Int.reduceLE, Int.reduceNeg, Int.reduceToNat, List.reduceReplicate, Int.ofNat_le, List.getElem?_drop]
  have hel : El p n (redL p W (u.take i) x) := redL_el o (fun v hv => (hu v (List.mem_of_mem_take hv)).1) hx
  refine iteI (fun hlt => ?_) fun hge => ?_
  · obtain ⟨w4, a4, hr⟩ := hrl.rowI hlt
    have hui := hu _ (List.getElem_mem hlt)
    have hstep : redL p W (u.take (i + 1)) x = red1 p W (redL p W (u.take i) x) u[i] := by rw [List.take_succ_eq_append_getElem hlt, redL_snoc]
    generalize hy : redL p W (u.take i) x = y at *
    have hdl : dep u[i] < y.length := by rw [hel.1]; exact hui.2
    have hya := hel.at o.pr (dep u[i])
    rw [at_eq hdl] at hya
    have hneg : IntKind.i64.wrap (0 - y[dep u[i]]) = -y[dep u[i]] := by rw [wrap64 (by omega) (by omega)]; omega
    have hpd : (deps u)[i]? = some (dep u[i] : Int) := by simp [deps, hlt]
    simp only [pw0, pw1, pw2, pw3, pw4, pw5, pw6, pw7, pw8, pw9, if_true, if_false, eq_self, nm_eq, reduceCtorEq, ↓reduceIte, Nat.reduceEqDiff, Nat.reduceLeDiff, Nat.reduceBEq, Nat.reduceAdd, Nat.reduceLT, Nat.reduceSub, Nat.reduceMul, Int.reduceEq, Int.reduceLT, Int.reduceLE, Int.reduceNeg, Int.reduceToNat, List.reduceReplicate, Int.ofNat_le, List.getElem?_drop, hlt, hr, hui.2, List.getElem?_drop, pis_get, hpd, gi hdl, hneg]
    refine timesLie_fz hs hP o hui.1 rfl (by omega) fun v1 => ?_
    simp only [pw0, pw1, pw2, pw3, pw4, pw5, pw6, pw7, pw8, pw9, if_true, if_false, eq_self, nm_eq, reduceCtorEq, ↓reduceIte, Nat.reduceEqDiff, Nat.reduceLeDiff, Nat.reduceBEq, Nat.reduceAdd, Nat.reduceLT, Nat.reduceSub, Nat.reduceMul, Int.reduceEq, Int.reduceLT, Int.reduceLE, Int.reduceNeg, Int.reduceToNat, List.reduceReplicate, Int.ofNat_le, List.getElem?_drop]
    refine addLie_fz hs hP o hel (lmix_el o hui.1 hui.1) hel.1.symm (lmix_el o hui.1 hui.1).1.symm fun v2 => ?_
    simp only [pw0, pw1, pw2, pw3, pw4, pw5, pw6, pw7, pw8, pw9, if_true, if_false, eq_self, nm_eq, reduceCtorEq, ↓reduceIte, Nat.reduceEqDiff, Nat.reduceLeDiff, Nat.reduceBEq, Nat.reduceAdd, Nat.reduceLT, Nat.reduceSub, Nat.reduceMul, Int.reduceEq, Int.reduceLT, Int.reduceLE, Int.reduceNeg, Int.reduceToNat, List.reduceReplicate, Int.ofNat_le, List.getElem?_drop, wrapS hlt (by omega : u.length ≤ 4611686018427387904)]
    refine ⟨_, by omega, i + 1, by omega, rfl, v2, ?_⟩
    rw [hstep, red1, at_eq hdl, ← add_red o hel hui.1]
  · have hie : i = u.length := by omega
    subst hie
    rw [List.take_length]
    exact hk v
end Go.Proofs
/- Spans of Lie rings, the program's side: the whole. -/
set_option linter.unusedSimpArgs false
set_option linter.unusedVariables false
namespace Go.Proofs
open Go.Ab Go.Lie
variable {σ : PHeap} {K : PV → PHeap → Prop} {p p' : Int} {n : Nat} {W : List (List Int)} {B : List (List (List Int))} {vP vB vL vU : PV} {s : Nat}

/-- A slice that is taken off at the front and grows at the end. -/
def PQ (b : Nat) (h : PHeap) (v : PV) (m : Nat) (cs : List PV) : Prop :=
  (v = .fz true .nils 0 [] ∧ m = 0 ∧ cs = []) ∨ ∃ s off cap row, v = .sl s off m cap ∧ full 1 cap m ∧ h.obj s = some row ∧ (row.drop off).take m = cs ∧ off + m ≤ row.length ∧ b ≤ s ∧ s < h.next
theorem PQ.of {b m : Nat} {h : PHeap} {v : PV} {cs : List PV} (a : PAcc b 1 h v m cs) : PQ b h v m cs := by
  rcases a with a | ⟨s, cap, rfl, h1, h2, h3, h4, h5⟩
  · exact .inl a
  · exact .inr ⟨s, 0, cap, cs, rfl, h1, h2, by rw [List.drop_zero, List.take_of_length_le (by omega)], by omega, h4, h5⟩
theorem PQ.keep {b m : Nat} {h h' : PHeap} {v : PV} {cs : List PV} (a : PQ b h v m cs) (hk : Keep h h') : PQ b h' v m cs := by
  rcases a with a | ⟨s, off, cap, row, rfl, h1, h2, h3, h4, h5, h6⟩
  · exact .inl a
  · exact .inr ⟨s, off, cap, row, rfl, h1, by rw [hk.obj s h6]; exact h2, h3, h4, h5, Nat.lt_of_lt_of_le h6 hk.next⟩
theorem PQ.set {b m t : Nat} {h : PHeap} {v : PV} {cs : List PV} (a : PQ b h v m cs) (ht : t < b) (ds : List PV) : PQ b (h.set t ds) v m cs := by
  rcases a with a | ⟨s, off, cap, row, rfl, h1, h2, h3, h4, h5, h6⟩
  · exact .inl a
  · exact .inr ⟨s, off, cap, row, rfl, h1, by rw [pobj_set, if_neg (by omega)]; exact h2, h3, h4, h5, h6⟩
theorem PQ.pLen {b m : Nat} {h : PHeap} {v : PV} {cs : List PV} (a : PQ b h v m cs) : pLen v = some (.int .i64 m) := by
  rcases a with ⟨rfl, rfl, _⟩ | ⟨s, off, cap, row, rfl, _⟩ <;> rfl
theorem PQ.uncons {b m : Nat} {h : PHeap} {v c : PV} {cs : List PV} (a : PQ b h v m (c :: cs)) : ∃ s off cap v', v = .sl s off m cap ∧ h.rd1 s off = some c ∧ 0 < m ∧ pslice 1 v (some (.int .i64 1)) none none = some v' ∧ PQ b h v' (m - 1) cs := by
  rcases a with ⟨_, _, e⟩ | ⟨s, off, cap, row, rfl, h1, h2, h3, h4, h5, h6⟩
  · cases e
  · have hm : 0 < m := by
      rcases Nat.eq_zero_or_pos m with x | x
      · subst x; cases h3
      · exact x
    have e2 : row.drop off = c :: row.drop (off + 1) := by
      have hlt : off < row.length := by omega
      rw [List.drop_eq_getElem_cons hlt] at h3 ⊢
      obtain ⟨m', rfl⟩ : ∃ m', m = m' + 1 := ⟨m - 1, by omega⟩
      rw [List.take_succ_cons] at h3
      cases h3; rfl
    have e3 : (row.drop (off + 1)).take (m - 1) = cs := by
      rw [e2] at h3
      obtain ⟨m', rfl⟩ : ∃ m', m = m' + 1 := ⟨m - 1, by omega⟩
      rw [List.take_succ_cons] at h3
      cases h3; rfl
    have e4 : row[off]? = some c := by
      have hlt : off < row.length := by omega
      rw [List.drop_eq_getElem_cons hlt] at e2
      rw [List.getElem?_eq_getElem hlt]
      cases e2; rfl
    have hz : (1 : Int) ≤ (m : Int) := by omega
    rcases h1 with rfl | rfl
    · refine ⟨s, off, _, .sl s (off + 1) (m - 1) (.grown 1), rfl, by rw [obj_rd1 h2]; exact e4, hm, ?_, .inr ⟨s, off + 1, _, row, rfl, .inl rfl, h2, e3, by omega, h5, h6⟩⟩
      simp only [pw0, pw1, pw2, pw3, pw4, pw5, pw6, pw7, pw8, pw9, if_true, if_false, eq_self, nm_eq, reduceCtorEq, ↓reduceIte, Nat.reduceEqDiff, Nat.reduceLeDiff, Nat.reduceBEq, Nat.reduceAdd, Nat.reduceLT, Nat.reduceSub, Nat.reduceMul, Int.reduceEq, Int.reduceLT, Int.reduceLE, Int.reduceNeg, Int.reduceToNat, List.reduceReplicate, Int.ofNat_le, List.getElem?_drop, hm, hz]
    · by_cases h10 : m = 1
      · subst h10
        refine ⟨s, off, _, .sl s off 0 (.known 0), rfl, by rw [obj_rd1 h2]; exact e4, hm, ?_, .inr ⟨s, off, _, row, rfl, .inr rfl, h2, by simpa using e3, by omega, h5, h6⟩⟩
        rfl
      · refine ⟨s, off, _, .sl s (off + 1) (m - 1) (.known (m - 1)), rfl, by rw [obj_rd1 h2]; exact e4, hm, ?_, .inr ⟨s, off + 1, _, row, rfl, .inr rfl, h2, e3, by omega, h5, h6⟩⟩
        simp only [pw0, pw1, pw2, pw3, pw4, pw5, pw6, pw7, pw8, pw9, if_true, if_false, eq_self, nm_eq, reduceCtorEq, ↓reduceIte, Nat.reduceEqDiff, Nat.reduceLeDiff, Nat.reduceBEq, Nat.reduceAdd, Nat.reduceLT, Nat.reduceSub, Nat.reduceMul, Int.reduceEq, Int.reduceLT, Int.reduceLE, Int.reduceNeg, Int.reduceToNat, List.reduceReplicate, Int.ofNat_le, List.getElem?_drop, hm, hz, h10]
        rfl
theorem PQ.push {σb h : PHeap} {bytes m : Nat} {v x : PV} {cs : List PV} {K : PV × PHeap → Prop} (hk : Keep σb h) (a : PQ σb.next h v m cs)
    (h1 : (m + 1) * bytes ≤ 140737488355328) (h2 : m + 1 ≤ 4611686018427387904) (k : ∀ v' h', Keep σb h' → PQ σb.next h' v' (m + 1) (cs ++ [x]) → K (v', h')) : optK (pappend 1 bytes (h.new [x]) v (.sl h.next 0 1 (.known 1))) K := by
  rcases a with ⟨rfl, rfl, rfl⟩ | ⟨s, off, cap, row, rfl, q1, q2, q3, q4, q5, q6⟩
  · exact PAcc.push hk (PAcc.nil _ _ _) h1 h2 fun v' h' k1 k2 => k v' h' k1 (.of k2.acc)
  · rw [pappend_eq]
    have hp : pfirst 1 (h.new [x]) (.sl h.next 0 1 (.known 1)) 1 = some [x] := by simp [pfirst_sl, prd_new]
    have hobj : (h.new [x]).obj s = some row := by simp only [PHeap.new]; rw [if_neg (by omega)]; exact q2
    have hn := hk.next
    simp only [plen, Option.bind_some]
    rw [if_neg (by omega), hp]
    simp only [Option.bind_some]
    have hl : cs.length = m := by rw [← q3, List.length_take, List.length_drop]; omega
    rcases q1 with rfl | rfl
    · rw [pgrow_grown, if_pos ⟨h1, h2, rfl⟩, hobj]
      simp only [Option.bind_some]
      rw [if_pos (by omega), Nat.mul_one, q3]
      refine optK_of rfl (k _ _ (((hk.new _).kill (by omega)).new _) (.inr ⟨(h.new [x]).next, 0, _, cs ++ [x], rfl, .inl rfl, by simp [PHeap.new, PHeap.kill], ?_, by simp [hl], by simp [PHeap.new]; omega, by simp [PHeap.new, PHeap.kill]⟩))
      rw [List.drop_zero, List.take_of_length_le (by simp [hl])]
    · rw [pgrow_known, if_neg (by omega), if_pos ⟨h1, h2⟩, obj_rd hobj, if_pos (by omega), Nat.mul_one, q3]
      simp only [Option.map_some]
      refine optK_of rfl (k _ _ ((hk.new _).new _) (.inr ⟨(h.new [x]).next, 0, _, cs ++ [x], rfl, .inl rfl, by simp [PHeap.new], ?_, by simp [hl], by simp [PHeap.new]; omega, by simp [PHeap.new]⟩))
      rw [List.drop_zero, List.take_of_length_le (by simp [hl])]

theorem CloneL_ok {w : Bool} {a : AV} {m : Nat} {rows : List PV} (hl : rows.length = m) (hb : Bels 0 rows) (hm : m ≤ 1048576) (hk0 : rows = [] → K (.fz true .nils 0 []) σ) (hk1 : ∀ cap, full 1 cap m → K (.sl σ.next 0 m cap) (σ.new rows)) :
    PCalls Try.prog 105 [.fz w a m rows] σ K := by
  refine PCalls.nil0 fun hnil => PCalls.gh ?_
  refine pcalls_of_vp mix Try.func105 cf105 rfl ?_
  dsimp only [if105, qI, eI, nI, qD, eD]
  simp only [pw0, pw1, pw2, pw3, pw4, pw5, pw6, pw7, pw8, pw9, if_true, if_false, eq_self, nm_eq, reduceCtorEq, ↓reduceIte, Nat.reduceEqDiff, Nat.reduceLeDiff, Nat.reduceBEq, Nat.reduceAdd, Nat.reduceLT, Nat.reduceSub, Nat.reduceMul, Int.reduceEq, Int.reduceLT, Int.reduceLE, Int.reduceNeg, Int.reduceToNat, List.reduceReplicate, Int.ofNat_le, List.getElem?_drop]
  cases hn : isNils a
  · simp only [pw0, pw1, pw2, pw3, pw4, pw5, pw6, pw7, pw8, pw9, if_true, if_false, eq_self, nm_eq, reduceCtorEq, ↓reduceIte, Nat.reduceEqDiff, Nat.reduceLeDiff, Nat.reduceBEq, Nat.reduceAdd, Nat.reduceLT, Nat.reduceSub, Nat.reduceMul, Int.reduceEq, Int.reduceLT, Int.reduceLE, Int.reduceNeg, Int.reduceToNat, List.reduceReplicate, Int.ofNat_le, List.getElem?_drop]
    refine PSl.cat (bytes := 24) (σb := σ) (n := 0) (cs := []) (keep_new σ _) (PSl.new _ 1 rfl (Nat.le_refl _)) hl (by omega) (by omega) fun v' h' hk' ha => ?_
    simp only [pw0, pw1, pw2, pw3, pw4, pw5, pw6, pw7, pw8, pw9, if_true, if_false, eq_self, nm_eq, reduceCtorEq, ↓reduceIte, Nat.reduceEqDiff, Nat.reduceLeDiff, Nat.reduceBEq, Nat.reduceAdd, Nat.reduceLT, Nat.reduceSub, Nat.reduceMul, Int.reduceEq, Int.reduceLT, Int.reduceLE, Int.reduceNeg, Int.reduceToNat, List.reduceReplicate, Int.ofNat_le, List.getElem?_drop] at ha ⊢
    exact ha.out hk' (hb.up (Nat.zero_le _)) hk1
  · simp only [pw0, pw1, pw2, pw3, pw4, pw5, pw6, pw7, pw8, pw9, if_true, if_false, eq_self, nm_eq, reduceCtorEq, ↓reduceIte, Nat.reduceEqDiff, Nat.reduceLeDiff, Nat.reduceBEq, Nat.reduceAdd, Nat.reduceLT, Nat.reduceSub, Nat.reduceMul, Int.reduceEq, Int.reduceLT, Int.reduceLE, Int.reduceNeg, Int.reduceToNat, List.reduceReplicate, Int.ofNat_le, List.getElem?_drop]
    exact Gh.ret (hk0 (hnil hn).2)

theorem CloneL_q {w : Bool} {a : AV} {m : Nat} {rows : List PV} (hl : rows.length = m) (hb : Bels 0 rows) (hm : m ≤ 1048576) (hk : ∀ v h', Keep σ h' → PQ σ.next h' v m rows → K v h') :
    PCalls Try.prog 105 [.fz w a m rows] σ K :=
  CloneL_ok hl hb hm (fun h0 => hk _ _ (Keep.refl _) (.inl ⟨rfl, by rw [← hl, h0]; rfl, h0⟩)) fun cap hc => hk _ _ (keep_new _ _) (.of (.inr (PSl.own hc (by simp [PHeap.new]) (by omega) (Nat.le_refl _) (by simp [PHeap.new]))))

theorem timesLie_sl {l : Nat} {w : Bool} {av : AV} {k : Int} {a : List Int} (hs : PtrR σ s p vP vB) (hP : FII vP W) (o : OkW p n W) (ha : El p n a) (hl : l = a.length) (hkb : -1000000000 ≤ k ∧ k ≤ 1000000000) (hn : 0 < n)
    (hk : ∀ o cap, K (.fz true (.sl o 0 n cap) n (pis (lmul p W k a))) σ) : PCalls Try.prog 85 [.ptr s 0, .int .i64 k, .fz w av l (pis a)] σ K := by
  have hlen := (lmix_el o ha ha (k := k) (m := 0)).1
  refine PCalls.gh (timesLie_ok hs hP o ha hl hkb ⟨fun h0 => ?_, fun cap hc => ?_⟩)
  · exact absurd hlen (by rw [h0]; simp; omega)
  · rw [hlen] at hc ⊢
    exact Gh.finF (keep_new σ _) (by simp [PHeap.new]) (Nat.le_refl _) (pis_bel _ _) hc.ok fun o => hk o cap

theorem PtrR.keep {h : PHeap} (hs : PtrR σ s p vP vB) (hk : Keep σ h) : PtrR h s p vP vB := ⟨by rw [hk.obj s hs.lt]; exact hs.obj, Nat.lt_of_lt_of_le hs.lt hk.next⟩

/-- What lies at a depth of the subgroup that grows. -/
def BRow (n : Nat) (u : List (List Int)) (d : Nat) (v : PV) : Prop :=
  (v = .fz true .nils 0 [] ∧ ∀ y ∈ u, dep y ≠ d) ∨ ∃ o cap y, v = .fz true (.sl o 0 n cap) n (pis y) ∧ y ∈ u ∧ dep y = d
def BRows (n : Nat) (u : List (List Int)) (rb : List PV) : Prop := rb.length = n ∧ ∀ d (h : d < rb.length), BRow n u d rb[d]
theorem BRows.take {u : List (List Int)} {rb : List PV} {o d : Nat} {cap : Cap} {y : List Int} (h : BRows n u rb) (hd : d < n) (hy : dep y = d) : BRows n (insD u y) (rb.set d (.fz true (.sl o 0 n cap) n (pis y))) := by
  refine ⟨by rw [List.length_set]; exact h.1, fun e he => ?_⟩
  rw [List.length_set] at he
  rw [List.getElem_set]
  by_cases x : d = e
  · subst x
    rw [if_pos rfl]
    exact .inr ⟨o, cap, y, rfl, insD_mem.2 (.inl rfl), hy⟩
  · rw [if_neg x]
    rcases h.2 e he with ⟨h1, h2⟩ | ⟨o', c', y', h1, h2, h3⟩
    · exact .inl ⟨h1, fun v hv => by
        rcases insD_mem.1 hv with rfl | hv
        · omega
        · exact h2 v hv⟩
    · exact .inr ⟨o', c', y', h1, insD_mem.2 (.inr h2), h3⟩

theorem Fp_le {u : List (List Int)} {k : Nat} (ha : Asc u) : (∃ y ∈ u, dep y = k) → ∃ y ∈ u, dep y = k ∧ Fp u k = y :: Fp u (k + 1) := by
  induction u with
  | nil => rintro ⟨y, hy, _⟩; cases hy
  | cons v t ih =>
    have ht : ∀ w ∈ t, dep v < dep w := fun w hw => List.rel_of_pairwise_cons ha hw
    have hta : Asc t := (List.pairwise_cons.1 ha).2
    rintro ⟨y, hy, rfl⟩
    rcases List.mem_cons.1 hy with rfl | hy
    · refine ⟨y, by simp, rfl, ?_⟩
      have e1 : Fp t (dep y) = t := Fp_all fun w hw => Nat.le_of_lt (ht w hw)
      have e2 : Fp t (dep y + 1) = t := Fp_all fun w hw => ht w hw
      rw [Fp, List.filter_cons, if_pos (by simp)]
      rw [show (List.filter (fun v => decide (dep y ≤ dep v)) t) = t from e1]
      rw [Fp, List.filter_cons, if_neg (by simp)]
      rw [show (List.filter (fun v => decide (dep y + 1 ≤ dep v)) t) = t from e2]
    · obtain ⟨y', h1, h2, h3⟩ := ih hta ⟨y, hy, rfl⟩
      have := ht y hy
      refine ⟨y', List.mem_cons_of_mem _ h1, h2, ?_⟩
      rw [Fp, List.filter_cons, if_neg (by simp; omega)]
      rw [Fp, List.filter_cons, if_neg (by simp; omega)]
      exact h3
theorem Fp_skip {u : List (List Int)} {k : Nat} (h : ∀ y ∈ u, dep y ≠ k) : Fp u k = Fp u (k + 1) := List.filter_congr fun v hv => by
  have := h v hv
  simp only [decide_eq_decide]
  omega
theorem base_fp : ∀ {u : List (List Int)} {k : Nat}, Base p n W u → Base p n W (Fp u k)
  | [], k, h => h
  | v :: t, k, h => by
    by_cases x : k ≤ dep v
    · have e : Fp (v :: t) k = v :: t := Fp_all fun w hw => by
        rcases List.mem_cons.1 hw with rfl | hw
        · exact x
        · have := List.rel_of_pairwise_cons h.asc hw
          omega
      rw [e]; exact h
    · rw [Fp, List.filter_cons, if_neg (by simpa using x)]
      cases h with
      | cons _ _ _ h4 => exact base_fp (by assumption)
theorem _root_.Go.Lie.Base.fp' {u : List (List Int)} {k : Nat} (h : Base p n W u) : Base p n W (Fp u k) := base_fp h
end Go.Proofs
/- Spans of Lie rings, the program's side: the walk. -/
set_option linter.unusedSimpArgs false
set_option linter.unusedVariables false
namespace Go.Proofs
open Go.Ab Go.Lie
variable {σ : PHeap} {K : PV → PHeap → Prop} {p p' : Int} {n : Nat} {W : List (List Int)} {B : List (List (List Int))} {vP vB vL vU : PV} {s : Nat}

theorem lieSpan_ok {gens : List (List Int)} (hs : PtrR σ s p vP vB) (hP : FII vP W) (o : OkW p n W) (hp : isP p) (hL : FII vL gens) (he : Els p n gens) (hgl : gens.length ≤ 1048576) (hk : ∀ v out, Canon p n W gens out → FII v out → K v σ) :
    PCalls Try.prog 64 [.ptr s 0, vL] σ K := by
  have hn6 := o.le
  have hpb := hp.bd
  have hpk : -1000000000 ≤ p ∧ p ≤ 1000000000 := by omega
  have hWn := o.len
  obtain ⟨wl, al, rl, rfl, hrl⟩ := hL
  have hP' := hP
  obtain ⟨wp, ap, rp, rfl, hrp⟩ := hP
  have hsl := hs.lt
  have hP1 : σ.rd1 s 1 = some (.fz wp ap W.length rp) := by rw [obj_rd1 hs.obj]; rfl
  refine PCalls.gh ?_
  refine pcalls_of_vp mix Try.func64 cf64 rfl ?_
  dsimp only [if64, qI, eI, nI, qD, eD]
  simp only [pw0, pw1, pw2, pw3, pw4, pw5, pw6, pw7, pw8, pw9, if_true, if_false, eq_self, nm_eq, reduceCtorEq, ↓reduceIte, Nat.reduceEqDiff, Nat.reduceLeDiff, Nat.reduceBEq, Nat.reduceAdd, Nat.reduceLT, Nat.reduceSub, Nat.reduceMul, Int.reduceEq, Int.reduceLT, Int.reduceLE, Int.reduceNeg, Int.reduceToNat, List.reduceReplicate, Int.ofNat_le, List.getElem?_drop, hP1, hWn, mk24 (n := n) (by omega), mkL (n := n) (by omega)]
  have elU : ∀ {u Q : List (List Int)}, Grow p n W gens u Q → (∀ v ∈ u, El p n v ∧ dep v < n) ∧ u.length ≤ n := fun g => ⟨fun v hv => ⟨(g.led v hv).1, (g.led v hv).2.1⟩, asc_length (fun v hv => (g.led v hv).2.1) g.asc⟩
  refine CloneL_q hrl.1 (hrl.bI 0) hgl fun vQ h1 k1 q1 => ?_
  simp only [pw0, pw1, pw2, pw3, pw4, pw5, pw6, pw7, pw8, pw9, if_true, if_false, eq_self, nm_eq, reduceCtorEq, ↓reduceIte, Nat.reduceEqDiff, Nat.reduceLeDiff, Nat.reduceBEq, Nat.reduceAdd, Nat.reduceLT, Nat.reduceSub, Nat.reduceMul, Int.reduceEq, Int.reduceLT, Int.reduceLE, Int.reduceNeg, Int.reduceToNat, List.reduceReplicate, Int.ofNat_le, List.getElem?_drop]
  refine vp_loop (fun m vs h' => ∃ u Q vQ rb rq, m = 2 * (n - u.length) + Q.length ∧ vs = [.ptr s 0, .sl σ.next 0 n (.known n), vQ] ∧ Keep (σ.new rb) h' ∧ PQ (σ.next + 1) h' vQ Q.length rq ∧ All2 FI rq Q ∧ Grow p n W gens u Q ∧ BRows n u rb ∧ Q.length ≤ gens.length) (2 * n + gens.length) ?_ ?_
  · refine ⟨[], gens, vQ, _, rl, rfl, rfl, k1, q1, hrl, Grow.start he, ⟨by simp, fun d hd => .inl ⟨by simp, fun y hy => by cases hy⟩⟩, Nat.le_refl _⟩
  rintro m vs h' ⟨u, Q, vQ, rb, rq, rfl, rfl, hkp, hq, hrq, hg, hb, hQl⟩
  have hk0 : Keep σ h' := hkp.of
  have hs' := hs.keep hk0
  have hp0 : h'.rd1 s 0 = some (.int .i64 p) := by rw [obj_rd1 hs'.obj]; rfl
  have hobj : h'.obj σ.next = some rb := by rw [hkp.obj _ (by simp [PHeap.new])]; simp [PHeap.new]
  cases Q with
  | nil =>
    have hlen : pLen vQ = some (.int .i64 0) := hq.pLen
    have hw : IntKind.i64.wrap ((n : Int) - 1) = (n : Int) - 1 := wrap64 (by omega) (by omega)
    have hbase := hg.base
    have hFn : Fp u n = [] := List.filter_eq_nil_iff.2 fun v hv => by have := ((elU hg).1 v hv).2; simp; omega
    simp only [pw0, pw1, pw2, pw3, pw4, pw5, pw6, pw7, pw8, pw9, if_true, if_false, eq_self, nm_eq, reduceCtorEq, ↓reduceIte, Nat.reduceEqDiff, Nat.reduceLeDiff, Nat.reduceBEq, Nat.reduceAdd, Nat.reduceLT, Nat.reduceSub, Nat.reduceMul, Int.reduceEq, Int.reduceLT, Int.reduceLE, Int.reduceNeg, Int.reduceToNat, List.reduceReplicate, Int.ofNat_le, List.getElem?_drop, hlen, hw]
    refine vp_loopG (fun m vs h2 => ∃ (k : Nat) (vO : PV), k ≤ n ∧ m = k ∧ vs = [.ptr s 0, .sl σ.next 0 n (.known n), vO, .int .i64 ((k : Int) - 1)] ∧ Keep (σ.new rb) h2 ∧ FII vO (finI p W (Fp u k))) n (.here ⟨n, _, Nat.le_refl _, rfl, rfl, hkp, by rw [hFn]; exact ⟨_, _, _, rfl, All2.nil _⟩⟩) ?_
    rintro m vs h2 ⟨k, vO, hkn, rfl, rfl, hk2, hO⟩
    have hk02 : Keep σ h2 := hk2.of
    have hs2 := hs.keep hk02
    have hobj2 : h2.obj σ.next = some rb := by rw [hk2.obj _ (by simp [PHeap.new])]; simp [PHeap.new]
    rcases Nat.eq_zero_or_pos m with rfl | hmp
    · simp only [pw0, pw1, pw2, pw3, pw4, pw5, pw6, pw7, pw8, pw9, if_true, if_false, eq_self, nm_eq, reduceCtorEq, ↓reduceIte, Nat.reduceEqDiff, Nat.reduceLeDiff, Nat.reduceBEq, Nat.reduceAdd, Nat.reduceLT, Nat.reduceSub, Nat.reduceMul, Int.reduceEq, Int.reduceLT, Int.reduceLE, Int.reduceNeg, Int.reduceToNat, List.reduceReplicate, Int.ofNat_le, List.getElem?_drop, show ¬ ((0 : Int) ≤ ((0 : Nat) : Int) - 1) by omega]
      have hF0 : Fp u 0 = u := Fp_all fun v hv => Nat.zero_le _
      rw [hF0] at hO
      exact Gh.fin0 hk02 (hO.bel _) (hk vO _ (hg.done (finI_ok o hbase).1) hO)
    · obtain ⟨k, rfl⟩ : ∃ k, m = k + 1 := ⟨m - 1, by omega⟩
      have e : ((k + 1 : Nat) : Int) - 1 = (k : Int) := by omega
      have hkn' : k < n := hkn
      have hkl : k < rb.length := by rw [hb.1]; exact hkn'
      have hrd := obj_rd1 hobj2 k
      rw [List.getElem?_eq_getElem hkl] at hrd
      have hbs := hbase.fp' (k := k + 1)
      rw [e]
      have hw2 : IntKind.i64.wrap ((k : Int) - 1) = (k : Int) - 1 := wrap64 (by omega) (by omega)
      rcases hb.2 k hkl with ⟨e1, e2⟩ | ⟨oo, cap, y, e1, e2, e3⟩
      · rw [e1] at hrd
        simp only [pw0, pw1, pw2, pw3, pw4, pw5, pw6, pw7, pw8, pw9, if_true, if_false, eq_self, nm_eq, reduceCtorEq, ↓reduceIte, Nat.reduceEqDiff, Nat.reduceLeDiff, Nat.reduceBEq, Nat.reduceAdd, Nat.reduceLT, Nat.reduceSub, Nat.reduceMul, Int.reduceEq, Int.reduceLT, Int.reduceLE, Int.reduceNeg, Int.reduceToNat, List.reduceReplicate, Int.ofNat_le, List.getElem?_drop, hkn', hrd, hw2]
        refine ⟨_, Nat.lt_succ_self k, .here ⟨k, vO, by omega, rfl, rfl, hk2, ?_⟩⟩
        rw [Fp_skip e2]
        exact hO
      · rw [e1] at hrd
        obtain ⟨y', y1, y2, y3⟩ := Fp_le hg.asc ⟨y, e2, e3⟩
        obtain rfl : y' = y := by
          rcases pairwise_two hg.asc y1 e2 with x | x | x
          · exact x
          · omega
          · omega
        simp only [pw0, pw1, pw2, pw3, pw4, pw5, pw6, pw7, pw8, pw9, if_true, if_false, eq_self, nm_eq, reduceCtorEq, ↓reduceIte, Nat.reduceEqDiff, Nat.reduceLeDiff, Nat.reduceBEq, Nat.reduceAdd, Nat.reduceLT, Nat.reduceSub, Nat.reduceMul, Int.reduceEq, Int.reduceLT, Int.reduceLE, Int.reduceNeg, Int.reduceToNat, List.reduceReplicate, Int.ofNat_le, List.getElem?_drop, hkn', hrd, hw2]
        have hF := (finI_ok o hbs).1
        have hLl : (finI p W (Fp u (k + 1))).length ≤ n := asc_length (fun v hv => (hF.base.led v hv).2.1) hF.base.asc
        have hy := ((elU hg).1 y' e2).1
        refine reduceLie_ok hs2 hP' o hO (fun v hv => ⟨(hF.base.led v hv).1, (hF.base.led v hv).2.1⟩) (by omega) hy hy.1.symm fun v1 => ?_
        have hrl := (redL_el o (u := finI p W (Fp u (k + 1))) (fun v hv => (hF.base.led v hv).1) hy).1
        have hFk : finI p W (Fp u k) = redL p W (finI p W (Fp u (k + 1))) y' :: finI p W (Fp u (k + 1)) := by rw [y3]; rfl
        generalize finI p W (Fp u (k + 1)) = L at *
        generalize redL p W L y' = z at *
        obtain ⟨wO, aO, rO, rfl, hrO⟩ := hO
        simp only [pw0, pw1, pw2, pw3, pw4, pw5, pw6, pw7, pw8, pw9, if_true, if_false, eq_self, nm_eq, reduceCtorEq, ↓reduceIte, Nat.reduceEqDiff, Nat.reduceLeDiff, Nat.reduceBEq, Nat.reduceAdd, Nat.reduceLT, Nat.reduceSub, Nat.reduceMul, Int.reduceEq, Int.reduceLT, Int.reduceLE, Int.reduceNeg, Int.reduceToNat, List.reduceReplicate, Int.ofNat_le, List.getElem?_drop]
        refine PSl.cat (bytes := 24) (σb := h2) (n := 1) (cs := [.fz true v1 n (pis z)]) (keep_new h2 _) (PSl.new _ 1 rfl (Nat.le_refl _)) hrO.1 (by omega) (by omega) fun v3 h3 k3 a3 => ?_
        obtain ⟨s3, cap3, rfl, hc3, ho3, hl3, hge3, hlt3⟩ := a3
        have hall : All2 FI ([.fz true v1 n (pis z)] ++ rO) (z :: L) := (All2.nil FI |>.snoc (⟨true, v1, by rw [hrl]⟩ : FI (.fz true v1 n (pis z)) z)).append hrO
        have hne : σ.next ≠ s3 := by
          have := hk2.next
          simp only [PHeap.new] at this
          omega
        simp only [pw0, pw1, pw2, pw3, pw4, pw5, pw6, pw7, pw8, pw9, if_true, if_false, eq_self, nm_eq, reduceCtorEq, ↓reduceIte, Nat.reduceEqDiff, Nat.reduceLeDiff, Nat.reduceBEq, Nat.reduceAdd, Nat.reduceLT, Nat.reduceSub, Nat.reduceMul, Int.reduceEq, Int.reduceLT, Int.reduceLE, Int.reduceNeg, Int.reduceToNat, List.reduceReplicate, Int.ofNat_le, List.getElem?_drop, hw2]
        refine ⟨k, Nat.lt_succ_self k, .fz s3 _ ho3 (hall.bI 0) fun o1 => .here ⟨k, .fz true (.sl o1 0 (1 + L.length) cap3) (1 + L.length) ([.fz true v1 n (pis z)] ++ rO), by omega, rfl, ?_, (hk2.trans k3).kill (by have := hk2.next; simp only [PHeap.new] at this ⊢; omega), by rw [hFk]; exact ⟨true, _, _, by rw [List.length_cons, Nat.add_comm], hall⟩⟩⟩
        simp only [pw0, pw1, pw2, pw3, pw4, pw5, pw6, pw7, pw8, pw9, if_true, if_false, eq_self, nm_eq, reduceCtorEq, ↓reduceIte, Nat.reduceEqDiff, Nat.reduceLeDiff, Nat.reduceBEq, Nat.reduceAdd, Nat.reduceLT, Nat.reduceSub, Nat.reduceMul, Int.reduceEq, Int.reduceLT, Int.reduceLE, Int.reduceNeg, Int.reduceToNat, List.reduceReplicate, Int.ofNat_le, List.getElem?_drop]
        simp only [sbs, sb, hne, hc3.ok, false_and, and_self, if_true, if_false]
  | cons x Q =>
    have hlen := hq.pLen
    obtain ⟨c, rq', rfl, hc, hrq'⟩ : ∃ c rq', rq = c :: rq' ∧ FI c x ∧ All2 FI rq' Q := by
      cases rq with
      | nil => exact absurd hrq.1 (by simp)
      | cons c rq' => exact ⟨c, rq', rfl, hrq.2 0 c x rfl rfl, ⟨by simpa using hrq.1, fun k a b ha hb => hrq.2 (k + 1) a b (by simpa using ha) (by simpa using hb)⟩⟩
    obtain ⟨sq, off, cap, vQ', rfl, hrd, hpos, hsl', hq'⟩ := hq.uncons
    obtain ⟨w4, a4, rfl⟩ := hc
    generalize hkl : (x :: Q).length = k at *
    have hQk : Q.length = k - 1 := by rw [← hkl]; simp
    have hposI : (0 : Int) < (k : Int) := by omega
    have hx := hg.els x (by simp)
    simp only [pw0, pw1, pw2, pw3, pw4, pw5, pw6, pw7, pw8, pw9, if_true, if_false, eq_self, nm_eq, reduceCtorEq, ↓reduceIte, Nat.reduceEqDiff, Nat.reduceLeDiff, Nat.reduceBEq, Nat.reduceAdd, Nat.reduceLT, Nat.reduceSub, Nat.reduceMul, Int.reduceEq, Int.reduceLT, Int.reduceLE, Int.reduceNeg, Int.reduceToNat, List.reduceReplicate, Int.ofNat_le, List.getElem?_drop, hlen, hposI, hpos, hrd, hsl']
    refine depthOf_ok rfl (by rw [hx.1]; omega) ?_
    simp only [pw0, pw1, pw2, pw3, pw4, pw5, pw6, pw7, pw8, pw9, if_true, if_false, eq_self, nm_eq, reduceCtorEq, ↓reduceIte, Nat.reduceEqDiff, Nat.reduceLeDiff, Nat.reduceBEq, Nat.reduceAdd, Nat.reduceLT, Nat.reduceSub, Nat.reduceMul, Int.reduceEq, Int.reduceLT, Int.reduceLE, Int.reduceNeg, Int.reduceToNat, List.reduceReplicate, Int.ofNat_le, List.getElem?_drop]
    refine vp_loop (fun m vs h2 => ∃ x wX vX, m = n - dep x ∧ vs = [.ptr s 0, .sl σ.next 0 n (.known n), vQ', .fz wX vX n (pis x), .int .i64 (dep x)] ∧ h' = h2 ∧ Grow p n W gens u (x :: Q)) (n - dep x) ?_ ?_
    · exact ⟨x, _, _, rfl, by rw [hx.1]; rfl, rfl, hg⟩
    clear hg hx hlen hkl
    rintro m vs h2 ⟨x, wX, vX, rfl, rfl, rfl, hg⟩
    have hx := hg.els x (by simp)
    have hxl := hx.1
    have hdle := dep_le x
    by_cases hd : dep x < n
    · have hdx : dep x < x.length := by omega
      have hxd := hx.at0 o (dep x)
      have hne := dep_ne hdx
      rw [at_eq hdx] at hxd hne
      have hdb : dep x < rb.length := by rw [hb.1]; exact hd
      have hrd2 := obj_rd1 hobj (dep x)
      rw [List.getElem?_eq_getElem hdb] at hrd2
      rcases hb.2 _ hdb with ⟨e1, e2⟩ | ⟨oo, cap2, y, e1, e2, e3⟩
      · rw [e1] at hrd2
        have hdn : ((dep x : Int) = (n : Int)) = False := by simp; omega
        simp only [pw0, pw1, pw2, pw3, pw4, pw5, pw6, pw7, pw8, pw9, if_true, if_false, eq_self, nm_eq, reduceCtorEq, ↓reduceIte, Nat.reduceEqDiff, Nat.reduceLeDiff, Nat.reduceBEq, Nat.reduceAdd, Nat.reduceLT, Nat.reduceSub, Nat.reduceMul, Int.reduceEq, Int.reduceLT, Int.reduceLE, Int.reduceNeg, Int.reduceToNat, List.reduceReplicate, Int.ofNat_le, List.getElem?_drop, hd, hrd2, hdn, hp0, pis_get, gi hdx]
        refine inverseMod_ok hp (by omega) fun q qb hq1 hq2 hq3 => ?_
        simp only [pw0, pw1, pw2, pw3, pw4, pw5, pw6, pw7, pw8, pw9, if_true, if_false, eq_self, nm_eq, reduceCtorEq, ↓reduceIte, Nat.reduceEqDiff, Nat.reduceLeDiff, Nat.reduceBEq, Nat.reduceAdd, Nat.reduceLT, Nat.reduceSub, Nat.reduceMul, Int.reduceEq, Int.reduceLT, Int.reduceLE, Int.reduceNeg, Int.reduceToNat, List.reduceReplicate, Int.ofNat_le, List.getElem?_drop, hd, hrd2, hp0, pis_get, gi hdx]
        refine timesLie_sl hs' hP' o hx hxl.symm (by omega) (by omega) fun oz capz => ?_
        have hT : Grow p n W gens (insD u (lmul p W q x)) (lmul p W p (lmul p W q x) :: Q) := hg.take o hd e2 (k := q) (by rw [at_eq hdx]; exact hq3)
        obtain ⟨y1, y2⟩ : Led p n (lmul p W q x) ∧ dep (lmul p W q x) = dep x := ⟨(scale_led o hx hd (k := q) (by rw [at_eq hdx]; exact hq3)).1, (scale_led o hx hd (k := q) (by rw [at_eq hdx]; exact hq3)).2.1⟩
        have hb2 := hb.take (o := oz) (cap := capz) hd y2
        generalize lmul p W q x = y at *
        have hy := y1.1
        have hwr : h'.wr σ.next (dep x) [.fz true (.sl oz 0 n capz) n (pis y)] = some (h'.set σ.next (rb.set (dep x) (.fz true (.sl oz 0 n capz) n (pis y)))) := by
          rw [obj_wr hobj, if_pos ⟨by rw [List.length_singleton]; omega, rfl⟩]
          rw [List.append_assoc, List.singleton_append, List.length_singleton, take_set _ hdb]
        have hk3 : Keep (σ.new (rb.set (dep x) (.fz true (.sl oz 0 n capz) n (pis y)))) (h'.set σ.next (rb.set (dep x) (.fz true (.sl oz 0 n capz) n (pis y)))) := hkp.setN _
        have hq3' := hq'.set (Nat.lt_succ_self _) (rb.set (dep x) (.fz true (.sl oz 0 n capz) n (pis y)))
        have hrd3 : (h'.set σ.next (rb.set (dep x) (.fz true (.sl oz 0 n capz) n (pis y)))).rd1 σ.next (dep x) = some (.fz true (.sl oz 0 n capz) n (pis y)) := by
          rw [obj_rd1 (by rw [pobj_set, if_pos rfl]), List.getElem?_set_self hdb]
        have hs3 := hs'.set (by omega) (rb.set (dep x) (.fz true (.sl oz 0 n capz) n (pis y))) (t := σ.next)
        have hp3 : (h'.set σ.next (rb.set (dep x) (.fz true (.sl oz 0 n capz) n (pis y)))).rd1 s 0 = some (.int .i64 p) := by rw [obj_rd1 hs3.obj]; rfl
        have hset : (rb.set (dep x) (.fz true (.sl oz 0 n capz) n (pis y)))[dep x]? = some (.fz true (.sl oz 0 n capz) n (pis y)) := List.getElem?_set_self hdb
        simp only [pw0, pw1, pw2, pw3, pw4, pw5, pw6, pw7, pw8, pw9, if_true, if_false, eq_self, nm_eq, reduceCtorEq, ↓reduceIte, Nat.reduceEqDiff, Nat.reduceLeDiff, Nat.reduceBEq, Nat.reduceAdd, Nat.reduceLT, Nat.reduceSub, Nat.reduceMul, Int.reduceEq, Int.reduceLT, Int.reduceLE, Int.reduceNeg, Int.reduceToNat, List.reduceReplicate, Int.ofNat_le, List.getElem?_drop, hd, hwr, Nat.ne_of_lt hsl, hp0, hset]
        generalize h'.set σ.next (rb.set (dep x) (.fz true (.sl oz 0 n capz) n (pis y))) = h3 at *
        generalize rb.set (dep x) (.fz true (.sl oz 0 n capz) n (pis y)) = rb' at *
        refine timesLie_fz hs3 hP' o hy hy.1.symm (by omega) fun v2 => ?_
        have hz : El p n (lmul p W p y) := (mul_eqv o hy p).1
        generalize lmul p W p y = z at *
        simp only [pw0, pw1, pw2, pw3, pw4, pw5, pw6, pw7, pw8, pw9, if_true, if_false, eq_self, nm_eq, reduceCtorEq, ↓reduceIte, Nat.reduceEqDiff, Nat.reduceLeDiff, Nat.reduceBEq, Nat.reduceAdd, Nat.reduceLT, Nat.reduceSub, Nat.reduceMul, Int.reduceEq, Int.reduceLT, Int.reduceLE, Int.reduceNeg, Int.reduceToNat, List.reduceReplicate, Int.ofNat_le, List.getElem?_drop]
        refine PQ.push (bytes := 24) (σb := σ.new rb') hk3 hq3' (by omega) (by omega) fun v4 h4 k4 q4 => ?_
        simp only [pw0, pw1, pw2, pw3, pw4, pw5, pw6, pw7, pw8, pw9, if_true, if_false, eq_self, nm_eq, reduceCtorEq, ↓reduceIte, Nat.reduceEqDiff, Nat.reduceLeDiff, Nat.reduceBEq, Nat.reduceAdd, Nat.reduceLT, Nat.reduceSub, Nat.reduceMul, Int.reduceEq, Int.reduceLT, Int.reduceLE, Int.reduceNeg, Int.reduceToNat, List.reduceReplicate, Int.ofNat_le, List.getElem?_drop]
        have hul := (elU hT).2
        rw [insD_length] at hul
        refine ⟨_, ?_, insD u y, Q ++ [z], v4, rb', rq' ++ [.fz true v2 n (pis z)], rfl, rfl, k4, ?_, hrq'.append (All2.nil FI |>.snoc ⟨true, v2, by rw [hz.1]⟩), hT.perm fun v => by simp [or_comm], hb2, by rw [List.length_append, List.length_singleton]; omega⟩
        · rw [insD_length, List.length_append, List.length_singleton]; omega
        · rw [List.length_append, List.length_singleton, hQk]
          exact q4
      · rw [e1] at hrd2
        have hy := ((elU hg).1 y e2).1
        have hneg : IntKind.i64.wrap (0 - x[dep x]) = -x[dep x] := by rw [wrap64 (by omega) (by omega)]; omega
        simp only [pw0, pw1, pw2, pw3, pw4, pw5, pw6, pw7, pw8, pw9, if_true, if_false, eq_self, nm_eq, reduceCtorEq, ↓reduceIte, Nat.reduceEqDiff, Nat.reduceLeDiff, Nat.reduceBEq, Nat.reduceAdd, Nat.reduceLT, Nat.reduceSub, Nat.reduceMul, Int.reduceEq, Int.reduceLT, Int.reduceLE, Int.reduceNeg, Int.reduceToNat, List.reduceReplicate, Int.ofNat_le, List.getElem?_drop, hd, hrd2, pis_get, gi hdx, hneg]
        refine timesLie_fz hs' hP' o hy hy.1.symm (by omega) fun v1 => ?_
        simp only [pw0, pw1, pw2, pw3, pw4, pw5, pw6, pw7, pw8, pw9, if_true, if_false, eq_self, nm_eq, reduceCtorEq, ↓reduceIte, Nat.reduceEqDiff, Nat.reduceLeDiff, Nat.reduceBEq, Nat.reduceAdd, Nat.reduceLT, Nat.reduceSub, Nat.reduceMul, Int.reduceEq, Int.reduceLT, Int.reduceLE, Int.reduceNeg, Int.reduceToNat, List.reduceReplicate, Int.ofNat_le, List.getElem?_drop]
        refine addLie_fz hs' hP' o hx (lmix_el o hy hy) hxl.symm (lmix_el o hy hy).1.symm fun v2 => ?_
        obtain ⟨g2, g3⟩ := hg.reduce1 o e2 e3
        have hr1 : ladd p W x (lmul p W (-x[dep x]) y) = red1 p W x y := by rw [add_red o hx hy, red1, e3, at_eq hdx]
        have hz := g2.els _ (List.mem_cons_self ..)
        rw [hr1]
        simp only [pw0, pw1, pw2, pw3, pw4, pw5, pw6, pw7, pw8, pw9, if_true, if_false, eq_self, nm_eq, reduceCtorEq, ↓reduceIte, Nat.reduceEqDiff, Nat.reduceLeDiff, Nat.reduceBEq, Nat.reduceAdd, Nat.reduceLT, Nat.reduceSub, Nat.reduceMul, Int.reduceEq, Int.reduceLT, Int.reduceLE, Int.reduceNeg, Int.reduceToNat, List.reduceReplicate, Int.ofNat_le, List.getElem?_drop]
        refine depthOf_ok hz.1.symm (by rw [hz.1]; omega) ?_
        simp only [pw0, pw1, pw2, pw3, pw4, pw5, pw6, pw7, pw8, pw9, if_true, if_false, eq_self, nm_eq, reduceCtorEq, ↓reduceIte, Nat.reduceEqDiff, Nat.reduceLeDiff, Nat.reduceBEq, Nat.reduceAdd, Nat.reduceLT, Nat.reduceSub, Nat.reduceMul, Int.reduceEq, Int.reduceLT, Int.reduceLE, Int.reduceNeg, Int.reduceToNat, List.reduceReplicate, Int.ofNat_le, List.getElem?_drop]
        exact ⟨_, by omega, _, _, _, rfl, rfl, g2⟩
    · have hdn : dep x = n := by omega
      simp only [pw0, pw1, pw2, pw3, pw4, pw5, pw6, pw7, pw8, pw9, if_true, if_false, eq_self, nm_eq, reduceCtorEq, ↓reduceIte, Nat.reduceEqDiff, Nat.reduceLeDiff, Nat.reduceBEq, Nat.reduceAdd, Nat.reduceLT, Nat.reduceSub, Nat.reduceMul, Int.reduceEq, Int.reduceLT, Int.reduceLE, Int.reduceNeg, Int.reduceToNat, List.reduceReplicate, Int.ofNat_le, List.getElem?_drop, hdn, Nat.lt_irrefl]
      refine ⟨_, ?_, u, Q, vQ', rb, rq', rfl, rfl, hkp, by rw [hQk]; exact hq', hrq', hg.drop fun j => ?_, hb, by omega⟩
      · omega
      · rcases Nat.lt_or_ge j n with h | h
        · exact dep_zero (by omega)
        · exact hx.beyond h
end Go.Proofs
