/- Spans of Lie rings, the program's side: numbers, depths, reduction. -/
import Derived.Test.YthgccplmmogcnaaBVU16
set_option linter.unusedSimpArgs false
set_option linter.unusedVariables false
namespace Go.Proofs
open Go.Ab Go.Lie
variable {σ : PHeap} {K : PV → PHeap → Prop} {p p' : Int} {n : Nat} {W : List (List Int)} {B : List (List (List Int))} {vP vB vL vU : PV} {s : Nat}

/-- The numbers of the division with remainder. -/
def euc (p a : Int) : Nat → Int × Int × Int × Int
  | 0 => (p, a, 0, 1)
  | k + 1 => let t := euc p a k
    if t.2.1 = 0 then t else (t.2.1, t.1 - t.1.tdiv t.2.1 * t.2.1, t.2.2.2, t.2.2.1 - t.1.tdiv t.2.1 * t.2.2.2)
def eucOK (p a : Int) (k : Nat) : Bool :=
  let t := euc p a k
  decide (-7 ≤ t.1 ∧ t.1 ≤ 7 ∧ -7 ≤ t.2.1 ∧ t.2.1 ≤ 7 ∧ -7 ≤ t.2.2.1 ∧ t.2.2.1 ≤ 7 ∧ -7 ≤ t.2.2.2 ∧ t.2.2.2 ≤ 7 ∧ -7 ≤ t.1.tdiv t.2.1 ∧ t.1.tdiv t.2.1 ≤ 7 ∧ -49 ≤ t.1.tdiv t.2.1 * t.2.1 ∧ t.1.tdiv t.2.1 * t.2.1 ≤ 49 ∧ -49 ≤ t.1.tdiv t.2.1 * t.2.2.2 ∧ t.1.tdiv t.2.1 * t.2.2.2 ≤ 49 ∧ (k = 8 → t.2.1 = 0) ∧ (t.2.1 = 0 → a * (t.2.2.1 % p) % p = 1 % p))
theorem euc_all : ∀ p ∈ [2, 3, 5, 7], ∀ a ∈ [1, 2, 3, 4, 5, 6], (a : Int) < p → ∀ k ∈ [0, 1, 2, 3, 4, 5, 6, 7, 8], eucOK p a k = true := by decide +kernel
theorem euc_ok {a : Int} (hp : isP p) (ha : 0 < a ∧ a < p) {k : Nat} (hk : k ≤ 8) : eucOK p a k = true := by
  have hpb := hp.bd
  refine euc_all p ?_ a ?_ ha.2 k ?_
  · rcases hp with h | h | h | h <;> simp [h]
  · have : a = 1 ∨ a = 2 ∨ a = 3 ∨ a = 4 ∨ a = 5 ∨ a = 6 := by omega
    rcases this with h | h | h | h | h | h <;> simp [h]
  · have : k = 0 ∨ k = 1 ∨ k = 2 ∨ k = 3 ∨ k = 4 ∨ k = 5 ∨ k = 6 ∨ k = 7 ∨ k = 8 := by omega
    rcases this with h | h | h | h | h | h | h | h | h <;> simp [h]

theorem inverseMod_ok {a : Int} (hp : isP p) (ha : 0 < a ∧ a < p) (hk : ∀ (x : Int) (b : Bool), 0 ≤ x → x < p → a * x % p = 1 → K (.tup [.int .i64 x, .bool b]) σ) : PCalls Try.prog 108 [.int .i64 a, .int .i64 p] σ K := by
  have hpb := hp.bd
  refine pcalls_of_vp mix Try.func108 cf108 rfl ?_
  dsimp only [if108, qI, eI, nI, qD, eD]
  simp only [pw0, pw1, pw2, pw3, pw4, pw5, pw6, pw7, pw8, pw9, if_true, if_false, eq_self, nm_eq, reduceCtorEq, ↓reduceIte, Nat.reduceEqDiff, Nat.reduceLeDiff, Nat.reduceBEq, Nat.reduceAdd, Nat.reduceLT, Nat.reduceSub, Nat.reduceMul, Int.reduceEq, Int.reduceLT, Int.reduceLE, Int.reduceNeg, Int.reduceToNat, List.reduceReplicate, Int.ofNat_le, List.getElem?_drop]
  refine vp_loop (fun m vs h' => ∃ k : Nat, k ≤ 8 ∧ m = 8 - k ∧ vs = [.int .i64 p, .int .i64 (euc p a k).1, .int .i64 (euc p a k).2.1, .int .i64 (euc p a k).2.2.1, .int .i64 (euc p a k).2.2.2] ∧ σ = h') 8 ?_ ?_
  · exact ⟨0, by omega, by omega, rfl, rfl⟩
  rintro m vs h' ⟨k, hk8, rfl, rfl, rfl⟩
  have hok := euc_ok hp ha hk8
  unfold eucOK at hok
  have hst : euc p a (k + 1) = if (euc p a k).2.1 = 0 then euc p a k else ((euc p a k).2.1, (euc p a k).1 - (euc p a k).1.tdiv (euc p a k).2.1 * (euc p a k).2.1, (euc p a k).2.2.2, (euc p a k).2.2.1 - (euc p a k).1.tdiv (euc p a k).2.1 * (euc p a k).2.2.2) := rfl
  generalize hT : euc p a k = T at *
  obtain ⟨r, nx, x, y⟩ := T
  dsimp only at hok hst ⊢
  simp only [decide_eq_true_eq] at hok
  obtain ⟨b1, b2, b3, b4, b5, b6, b7, b8, b9, b10, b11, b12, b13, b14, b15, b16⟩ := hok
  by_cases h0 : nx = 0
  · subst h0
    simp only [pw0, pw1, pw2, pw3, pw4, pw5, pw6, pw7, pw8, pw9, if_true, if_false, eq_self, nm_eq, reduceCtorEq, ↓reduceIte, Nat.reduceEqDiff, Nat.reduceLeDiff, Nat.reduceBEq, Nat.reduceAdd, Nat.reduceLT, Nat.reduceSub, Nat.reduceMul, Int.reduceEq, Int.reduceLT, Int.reduceLE, Int.reduceNeg, Int.reduceToNat, List.reduceReplicate, Int.ofNat_le, List.getElem?_drop]
    refine residue_ok (by omega) (by omega) ?_
    simp only [pw0, pw1, pw2, pw3, pw4, pw5, pw6, pw7, pw8, pw9, if_true, if_false, eq_self, nm_eq, reduceCtorEq, ↓reduceIte, Nat.reduceEqDiff, Nat.reduceLeDiff, Nat.reduceBEq, Nat.reduceAdd, Nat.reduceLT, Nat.reduceSub, Nat.reduceMul, Int.reduceEq, Int.reduceLT, Int.reduceLE, Int.reduceNeg, Int.reduceToNat, List.reduceReplicate, Int.ofNat_le, List.getElem?_drop]
    refine hk _ _ (Int.emod_nonneg _ (by omega)) (Int.emod_lt_of_pos _ (by omega)) ?_
    rw [b16 rfl]
    exact Int.emod_eq_of_lt (by omega) (by omega)
  · rw [if_neg h0] at hst
    have hk9 : k ≠ 8 := fun e => h0 (b15 e)
    simp only [pw0, pw1, pw2, pw3, pw4, pw5, pw6, pw7, pw8, pw9, if_true, if_false, eq_self, nm_eq, reduceCtorEq, ↓reduceIte, Nat.reduceEqDiff, Nat.reduceLeDiff, Nat.reduceBEq, Nat.reduceAdd, Nat.reduceLT, Nat.reduceSub, Nat.reduceMul, Int.reduceEq, Int.reduceLT, Int.reduceLE, Int.reduceNeg, Int.reduceToNat, List.reduceReplicate, Int.ofNat_le, List.getElem?_drop, h0, wrap64 (n := r.tdiv nx) (by omega) (by omega), wrap64 (n := r.tdiv nx * nx) (by omega) (by omega), wrap64 (n := r.tdiv nx * y) (by omega) (by omega), wrap64 (n := r - r.tdiv nx * nx) (by omega) (by omega), wrap64 (n := x - r.tdiv nx * y) (by omega) (by omega)]
    refine ⟨_, by omega, k + 1, by omega, rfl, ?_⟩
    rw [hst]

theorem depthOf_ok {l : Nat} {w : Bool} {a : AV} {xs : List Int} (hl : l = xs.length) (hb : xs.length ≤ 1048576) (hk : K (.int .i64 (dep xs)) σ) : PCalls Try.prog 106 [.fz w a l (pis xs)] σ K := by
  subst hl
  refine pcalls_of_vp mix Try.func106 cf106 rfl ?_
  dsimp only [if106, qI, eI, nI, qD, eD]
  simp only [pw0, pw1, pw2, pw3, pw4, pw5, pw6, pw7, pw8, pw9, if_true, if_false, eq_self, nm_eq, reduceCtorEq, ↓reduceIte, Nat.reduceEqDiff, Nat.reduceLeDiff, Nat.reduceBEq, Nat.reduceAdd, Nat.reduceLT, Nat.reduceSub, Nat.reduceMul, Int.reduceEq, Int.reduceLT, Int.reduceLE, Int.reduceNeg, Int.reduceToNat, List.reduceReplicate, Int.ofNat_le, List.getElem?_drop]
  refine vp_loop (fun m vs h' => ∃ i : Nat, i ≤ dep xs ∧ m = dep xs - i ∧ vs = [.fz w a xs.length (pis xs), .fz w a xs.length (pis xs), .int .i64 xs.length, .int .i64 i] ∧ σ = h') (dep xs) ?_ ?_
  · exact ⟨0, by omega, by omega, rfl, rfl⟩
  rintro m vs h' ⟨i, hi, rfl, rfl, rfl⟩
  have hdl := dep_le xs
  by_cases hlt : i < xs.length
  · by_cases h0 : xs[i] = 0
    · have hid : i < dep xs := by
        rcases Nat.lt_or_ge i (dep xs) with x | x
        · exact x
        · have : i = dep xs := by omega
          subst this
          exact absurd (by rw [at_eq hlt]; exact h0) (dep_ne hlt)
      simp only [pw0, pw1, pw2, pw3, pw4, pw5, pw6, pw7, pw8, pw9, if_true, if_false, eq_self, nm_eq, reduceCtorEq, ↓reduceIte, Nat.reduceEqDiff, Nat.reduceLeDiff, Nat.reduceBEq, Nat.reduceAdd, Nat.reduceLT, Nat.reduceSub, Nat.reduceMul, Int.reduceEq, Int.reduceLT, Int.reduceLE, Int.reduceNeg, Int.reduceToNat, List.reduceReplicate, Int.ofNat_le, List.getElem?_drop, hlt, List.getElem?_drop, pis_get, gi hlt, h0, wrapS hlt (by omega : xs.length ≤ 4611686018427387904)]
      exact ⟨_, by omega, i + 1, by omega, rfl, rfl⟩
    · have hid : i = dep xs := by
        rcases Nat.lt_or_ge i (dep xs) with x | x
        · exact absurd (by rw [← at_eq hlt]; exact dep_zero x) h0
        · omega
      subst hid
      simp only [pw0, pw1, pw2, pw3, pw4, pw5, pw6, pw7, pw8, pw9, if_true, if_false, eq_self, nm_eq, reduceCtorEq, ↓reduceIte, Nat.reduceEqDiff, Nat.reduceLeDiff, Nat.reduceBEq, Nat.reduceAdd, Nat.reduceLT, Nat.reduceSub, Nat.reduceMul, Int.reduceEq, Int.reduceLT, Int.reduceLE, Int.reduceNeg, Int.reduceToNat, List.reduceReplicate, Int.ofNat_le, List.getElem?_drop, hlt, List.getElem?_drop, pis_get, gi hlt, h0]
      exact hk
  · have hid : i = dep xs := by omega
    subst hid
    simp only [pw0, pw1, pw2, pw3, pw4, pw5, pw6, pw7, pw8, pw9, if_true, if_false, eq_self, nm_eq, reduceCtorEq, ↓reduceIte, Nat.reduceEqDiff, Nat.reduceLeDiff, Nat.reduceBEq, Nat.reduceAdd, Nat.reduceLT, Nat.reduceSub, Nat.reduceMul, Int.reduceEq, Int.reduceLT, Int.reduceLE, Int.reduceNeg, Int.reduceToNat, List.reduceReplicate, Int.ofNat_le, List.getElem?_drop, hlt]
    have hd : dep xs = xs.length := by omega
    rw [hd] at hk
    exact hk

theorem piv1_ok {x : Int} (hk : K (.bool (!decide (x = 0))) σ) : PCalls Try.prog 143 [.int .i64 x] σ K := by
  refine pcalls_of_vp mix Try.func143 cf143 rfl ?_
  dsimp only [if143, qI, eI, nI, qD, eD]
  simp only [pw0, pw1, pw2, pw3, pw4, pw5, pw6, pw7, pw8, pw9, if_true, if_false, eq_self, nm_eq, reduceCtorEq, ↓reduceIte, Nat.reduceEqDiff, Nat.reduceLeDiff, Nat.reduceBEq, Nat.reduceAdd, Nat.reduceLT, Nat.reduceSub, Nat.reduceMul, Int.reduceEq, Int.reduceLT, Int.reduceLE, Int.reduceNeg, Int.reduceToNat, List.reduceReplicate, Int.ofNat_le, List.getElem?_drop]
  exact hk
theorem okF143 : okF Try.prog 143 = true := by kernel_rfl

theorem IndexFunc_ok {l : Nat} {w : Bool} {a : AV} {xs : List Int} (hl : l = xs.length) (hb : xs.length ≤ 1048576) (hd : dep xs < xs.length) (hk : K (.int .i64 (dep xs)) σ) :
    PCalls Try.prog 142 [.fz w a l (pis xs), .clo 143 [] []] σ K := by
  subst hl
  refine pcalls_of_vp mix Try.func142 cf142 rfl ?_
  dsimp only [if142, qI, eI, nI, qD, eD]
  simp only [pw0, pw1, pw2, pw3, pw4, pw5, pw6, pw7, pw8, pw9, if_true, if_false, eq_self, nm_eq, reduceCtorEq, ↓reduceIte, Nat.reduceEqDiff, Nat.reduceLeDiff, Nat.reduceBEq, Nat.reduceAdd, Nat.reduceLT, Nat.reduceSub, Nat.reduceMul, Int.reduceEq, Int.reduceLT, Int.reduceLE, Int.reduceNeg, Int.reduceToNat, List.reduceReplicate, Int.ofNat_le, List.getElem?_drop]
  refine vp_loop (fun m vs h' => ∃ i : Nat, i ≤ dep xs ∧ m = dep xs - i ∧ vs = [.fz w a xs.length (pis xs), .clo 143 [] [], .int .i64 xs.length, .int .i64 i] ∧ σ = h') (dep xs) ?_ ?_
  · exact ⟨0, by omega, by omega, rfl, rfl⟩
  rintro m vs h' ⟨i, hi, rfl, rfl, rfl⟩
  have hlt : i < xs.length := by omega
  simp only [pw0, pw1, pw2, pw3, pw4, pw5, pw6, pw7, pw8, pw9, if_true, if_false, eq_self, nm_eq, reduceCtorEq, ↓reduceIte, Nat.reduceEqDiff, Nat.reduceLeDiff, Nat.reduceBEq, Nat.reduceAdd, Nat.reduceLT, Nat.reduceSub, Nat.reduceMul, Int.reduceEq, Int.reduceLT, Int.reduceLE, Int.reduceNeg, Int.reduceToNat, List.reduceReplicate, Int.ofNat_le, List.getElem?_drop, hlt, List.getElem?_drop, pis_get, gi hlt]
  refine ⟨okF143, piv1_ok ?_⟩
  by_cases h0 : xs[i] = 0
  · have hid : i < dep xs := by
      rcases Nat.lt_or_ge i (dep xs) with x | x
      · exact x
      · have : i = dep xs := by omega
        subst this
        exact absurd (by rw [at_eq hlt]; exact h0) (dep_ne hlt)
    simp only [pw0, pw1, pw2, pw3, pw4, pw5, pw6, pw7, pw8, pw9, if_true, if_false, eq_self, nm_eq, reduceCtorEq, ↓reduceIte, Nat.reduceEqDiff, Nat.reduceLeDiff, Nat.reduceBEq, Nat.reduceAdd, Nat.reduceLT, Nat.reduceSub, Nat.reduceMul, Int.reduceEq, Int.reduceLT, Int.reduceLE, Int.reduceNeg, Int.reduceToNat, List.reduceReplicate, Int.ofNat_le, List.getElem?_drop, h0, ne_eq, not_true, decide_false, wrapS hlt (by omega : xs.length ≤ 4611686018427387904)]
    exact ⟨_, by omega, i + 1, by omega, rfl, rfl⟩
  · have hid : i = dep xs := by
      rcases Nat.lt_or_ge i (dep xs) with x | x
      · exact absurd (by rw [← at_eq hlt]; exact dep_zero x) h0
      · omega
    subst hid
    simp only [pw0, pw1, pw2, pw3, pw4, pw5, pw6, pw7, pw8, pw9, if_true, if_false, eq_self, nm_eq, reduceCtorEq, ↓reduceIte, Nat.reduceEqDiff, Nat.reduceLeDiff, Nat.reduceBEq, Nat.reduceAdd, Nat.reduceLT, Nat.reduceSub, Nat.reduceMul, Int.reduceEq, Int.reduceLT, Int.reduceLE, Int.reduceNeg, Int.reduceToNat, List.reduceReplicate, Int.ofNat_le, List.getElem?_drop, h0, ne_eq, not_false_iff, decide_true]
    exact hk

abbrev deps (u : List (List Int)) : List Int := u.map fun v => (dep v : Int)
theorem pivots_ok {u : List (List Int)} (hL : FII vU u) (hu : ∀ v ∈ u, dep v < v.length ∧ v.length ≤ 1048576) (hul : u.length ≤ 1048576) (hk : ∀ v, K (.fz true v u.length (pis (deps u))) σ) : PCalls Try.prog 135 [vU] σ K := by
  obtain ⟨wl, al, rl, rfl, hrl⟩ := hL
  refine PCalls.gh ?_
  refine pcalls_of_vp mix Try.func135 cf135 rfl ?_
  dsimp only [if135, qI, eI, nI, qD, eD]
  simp only [pw0, pw1, pw2, pw3, pw4, pw5, pw6, pw7, pw8, pw9, if_true, if_false, eq_self, nm_eq, reduceCtorEq, ↓reduceIte, Nat.reduceEqDiff, Nat.reduceLeDiff, Nat.reduceBEq, Nat.reduceAdd, Nat.reduceLT, Nat.reduceSub, Nat.reduceMul, Int.reduceEq, Int.reduceLT, Int.reduceLE, Int.reduceNeg, Int.reduceToNat, List.reduceReplicate, Int.ofNat_le, List.getElem?_drop]
  refine vp_loop (fun m vs h' => ∃ (i : Nat) (v : PV), i ≤ u.length ∧ m = u.length - i ∧ vs = [v, .fz wl al u.length rl, .int .i64 u.length, .int .i64 i] ∧ Keep σ h' ∧ PAcc σ.next 1 h' v i (pis (deps (u.take i)))) u.length ?_ ?_
  · exact ⟨0, _, by omega, by omega, rfl, Keep.refl σ, PAcc.nil _ _ _⟩
  rintro m vs h' ⟨i, v, hi, rfl, rfl, hkp, ha⟩
  simp only [pw0, pw1, pw2, pw3, pw4, pw5, pw6, pw7, pw8, pw9, if_true, if_false, eq_self, nm_eq, reduceCtorEq, ↓reduceIte, Nat.reduceEqDiff, Nat.reduceLeDiff, Nat.reduceBEq, Nat.reduceAdd, Nat.reduceLT, Nat.reduceSub, Nat.reduceMul, Int.reduceEq, Int.reduceLT, Int.reduceLE, Int.reduceNeg, Int.reduceToNat, List.reduceReplicate, Int.ofNat_le, List.getElem?_drop]
  refine iteI (fun hlt => ?_) fun hge => ?_
  · obtain ⟨w4, a4, hr⟩ := hrl.rowI hlt
    have hui := hu _ (List.getElem_mem hlt)
    simp only [pw0, pw1, pw2, pw3, pw4, pw5, pw6, pw7, pw8, pw9, if_true, if_false, eq_self, nm_eq, reduceCtorEq, ↓reduceIte, Nat.reduceEqDiff, Nat.reduceLeDiff, Nat.reduceBEq, Nat.reduceAdd, Nat.reduceLT, Nat.reduceSub, Nat.reduceMul, Int.reduceEq, Int.reduceLT, Int.reduceLE, Int.reduceNeg, Int.reduceToNat, List.reduceReplicate, Int.ofNat_le, List.getElem?_drop, hlt, hr, List.getElem?_drop]
    refine IndexFunc_ok rfl hui.2 hui.1 ?_
    simp only [pw0, pw1, pw2, pw3, pw4, pw5, pw6, pw7, pw8, pw9, if_true, if_false, eq_self, nm_eq, reduceCtorEq, ↓reduceIte, Nat.reduceEqDiff, Nat.reduceLeDiff, Nat.reduceBEq, Nat.reduceAdd, Nat.reduceLT, Nat.reduceSub, Nat.reduceMul, Int.reduceEq, Int.reduceLT, Int.reduceLE, Int.reduceNeg, Int.reduceToNat, List.reduceReplicate, Int.ofNat_le, List.getElem?_drop]
    refine PAcc.push (bytes := 8) hkp ha (by omega) (by omega) fun v' h2 k2 a2 => ?_
    simp only [pw0, pw1, pw2, pw3, pw4, pw5, pw6, pw7, pw8, pw9, if_true, if_false, eq_self, nm_eq, reduceCtorEq, ↓reduceIte, Nat.reduceEqDiff, Nat.reduceLeDiff, Nat.reduceBEq, Nat.reduceAdd, Nat.reduceLT, Nat.reduceSub, Nat.reduceMul, Int.reduceEq, Int.reduceLT, Int.reduceLE, Int.reduceNeg, Int.reduceToNat, List.reduceReplicate, Int.ofNat_le, List.getElem?_drop, wrapS hlt (by omega : u.length ≤ 4611686018427387904)]
    refine ⟨_, by omega, i + 1, v', by omega, rfl, rfl, k2, ?_⟩
    have e : pis (deps (u.take (i + 1))) = pis (deps (u.take i)) ++ [.int .i64 (dep u[i])] := by rw [List.take_succ_eq_append_getElem hlt, deps, List.map_append, ← pis_append]; rfl
    rw [e]
    exact a2.acc
  · have hie : i = u.length := by omega
    subst hie
    rw [List.take_length] at ha
    exact ha.fin hkp (pis_bel _ _) hk

theorem add_red (o : OkW p n W) {y v : List Int} (hy : El p n y) (hv : El p n v) (c : Int) : ladd p W y (lmul p W c v) = norm p W (lmix 1 y c v) := by
  have hm : (lmix c v 0 v).length = n := by rw [lmix_length rfl]; exact hv.1
  have hz : El p n (lmul p W c v) := norm_El o hm
  refine norm_congr o (by rw [lmix_length (hy.1.trans hz.1.symm)]; exact hy.1) (by rw [lmix_length (hy.1.trans hv.1.symm)]; exact hy.1) ?_
  have h1 : Eqv p n W (fun j => at_ y j + at_ (lmul p W c v) j) (fun j => at_ y j + at_ (lmix c v 0 v) j) := (Eqv.refl _).add (norm_eqv o hm)
  refine ((Eqv.of_eq fun j => ?_).trans h1).trans (Eqv.of_eq fun j => ?_)
  · rw [lmix_at (hy.1.trans hz.1.symm)]; omega
  · rw [lmix_at (hy.1.trans hv.1.symm), lmix_at rfl]; omega

theorem reduceLie_ok {l : Nat} {w : Bool} {a : AV} {u : List (List Int)} {x : List Int} (hs : PtrR σ s p vP vB) (hP : FII vP W) (o : OkW p n W) (hL : FII vU u) (hu : ∀ v ∈ u, El p n v ∧ dep v < n) (hul : u.length ≤ 1048576) (hx : El p n x) (hl : l = x.length)
    (hk : ∀ v, K (.fz true v n (pis (redL p W u x))) σ) : PCalls Try.prog 109 [.ptr s 0, vU, .fz w a l (pis x)] σ K := by
  have hn6 := o.le
  have hp := o.pr
  unfold okp at hp
  refine pcalls_of_vp mix Try.func109 cf109 rfl ?_
  dsimp only [if109, qI, eI, nI, qD, eD]
  simp only [pw0, pw1, pw2, pw3, pw4, pw5, pw6, pw7, pw8, pw9, if_true, if_false, eq_self, nm_eq, reduceCtorEq, ↓reduceIte, Nat.reduceEqDiff, Nat.reduceLeDiff, Nat.reduceBEq, Nat.reduceAdd, Nat.reduceLT, Nat.reduceSub, Nat.reduceMul, Int.reduceEq, Int.reduceLT, Int.reduceLE, Int.reduceNeg, Int.reduceToNat, List.reduceReplicate, Int.ofNat_le, List.getElem?_drop]
  refine PCalls.fzN hx.1 (fun K' => Clone_ok hl (by rw [hx.1]; omega)) fun v0 => ?_
  simp only [pw0, pw1, pw2, pw3, pw4, pw5, pw6, pw7, pw8, pw9, if_true, if_false, eq_self, nm_eq, reduceCtorEq, ↓reduceIte, Nat.reduceEqDiff, Nat.reduceLeDiff, Nat.reduceBEq, Nat.reduceAdd, Nat.reduceLT, Nat.reduceSub, Nat.reduceMul, Int.reduceEq, Int.reduceLT, Int.reduceLE, Int.reduceNeg, Int.reduceToNat, List.reduceReplicate, Int.ofNat_le, List.getElem?_drop]
  refine pivots_ok hL (fun v hv => ⟨by rw [(hu v hv).1.1]; exact (hu v hv).2, by rw [(hu v hv).1.1]; omega⟩) hul fun vp => ?_
  obtain ⟨wl, al, rl, rfl, hrl⟩ := hL
  simp only [pw0, pw1, pw2, pw3, pw4, pw5, pw6, pw7, pw8, pw9, if_true, if_false, eq_self, nm_eq, reduceCtorEq, ↓reduceIte, Nat.reduceEqDiff, Nat.reduceLeDiff, Nat.reduceBEq, Nat.reduceAdd, Nat.reduceLT, Nat.reduceSub, Nat.reduceMul, Int.reduceEq, Int.reduceLT, Int.reduceLE, Int.reduceNeg, Int.reduceToNat, List.reduceReplicate, Int.ofNat_le, List.getElem?_drop]
  refine vp_loop (fun m vs h' => ∃ i : Nat, i ≤ u.length ∧ m = u.length - i ∧ ∃ v, vs = [.ptr s 0, .fz wl al u.length rl, .fz true v n (pis (redL p W (u.take i) x)), .fz true vp u.length (pis (deps u)), .int .i64 u.length, .int .i64 i] ∧ σ = h') u.length ?_ ?_
  · exact ⟨0, by omega, by omega, v0, by rw [List.take_zero, redL]; rfl, rfl⟩
  rintro m vs h' ⟨i, hi, rfl, v, rfl, rfl⟩
  simp only [pw0, pw1, pw2, pw3, pw4, pw5, pw6, pw7, pw8, pw9, if_true, if_false, eq_self, nm_eq, reduceCtorEq, ↓reduceIte, Nat.reduceEqDiff, Nat.reduceLeDiff, Nat.reduceBEq, Nat.reduceAdd, Nat.reduceLT, Nat.reduceSub, Nat.reduceMul, Int.reduceEq, Int.reduceLT, Int.reduceLE, Int.reduceNeg, Int.reduceToNat, List.reduceReplicate, Int.ofNat_le, List.getElem?_drop]
  have hel : El p n (redL p W (u.take i) x) := redL_el o (fun v hv => (hu v (List.mem_of_mem_take hv)).1) hx
  refine iteI (fun hlt => ?_) fun hge => ?_
  · obtain ⟨w4, a4, hr⟩ := hrl.rowI hlt
    have hui := hu _ (List.getElem_mem hlt)
    have hstep : redL p W (u.take (i + 1)) x = red1 p W (redL p W (u.take i) x) u[i] := by rw [List.take_succ_eq_append_getElem hlt, redL_snoc]
    generalize hy : redL p W (u.take i) x = y at *
    have hdl : dep u[i] < y.length := by rw [hel.1]; exact hui.2
    have hya := hel.at o.pr (dep u[i])
    rw [at_eq hdl] at hya
    have hneg : IntKind.i64.wrap (0 - y[dep u[i]]) = -y[dep u[i]] := by rw [wrap64 (by omega) (by omega)]; omega
    have hpd : (deps u)[i]? = some (dep u[i] : Int) := by simp [deps, hlt]
    simp only [pw0, pw1, pw2, pw3, pw4, pw5, pw6, pw7, pw8, pw9, if_true, if_false, eq_self, nm_eq, reduceCtorEq, ↓reduceIte, Nat.reduceEqDiff, Nat.reduceLeDiff, Nat.reduceBEq, Nat.reduceAdd, Nat.reduceLT, Nat.reduceSub, Nat.reduceMul, Int.reduceEq, Int.reduceLT, Int.reduceLE, Int.reduceNeg, Int.reduceToNat, List.reduceReplicate, Int.ofNat_le, List.getElem?_drop, hlt, hr, hui.2, List.getElem?_drop, pis_get, hpd, gi hdl, hneg]
    refine timesLie_fz hs hP o hui.1 rfl (by omega) fun v1 => ?_
    simp only [pw0, pw1, pw2, pw3, pw4, pw5, pw6, pw7, pw8, pw9, if_true, if_false, eq_self, nm_eq, reduceCtorEq, ↓reduceIte, Nat.reduceEqDiff, Nat.reduceLeDiff, Nat.reduceBEq, Nat.reduceAdd, Nat.reduceLT, Nat.reduceSub, Nat.reduceMul, Int.reduceEq, Int.reduceLT, Int.reduceLE, Int.reduceNeg, Int.reduceToNat, List.reduceReplicate, Int.ofNat_le, List.getElem?_drop]
    refine addLie_fz hs hP o hel (lmix_el o hui.1 hui.1) hel.1.symm (lmix_el o hui.1 hui.1).1.symm fun v2 => ?_
    simp only [pw0, pw1, pw2, pw3, pw4, pw5, pw6, pw7, pw8, pw9, if_true, if_false, eq_self, nm_eq, reduceCtorEq, ↓reduceIte, Nat.reduceEqDiff, Nat.reduceLeDiff, Nat.reduceBEq, Nat.reduceAdd, Nat.reduceLT, Nat.reduceSub, Nat.reduceMul, Int.reduceEq, Int.reduceLT, Int.reduceLE, Int.reduceNeg, Int.reduceToNat, List.reduceReplicate, Int.ofNat_le, List.getElem?_drop, wrapS hlt (by omega : u.length ≤ 4611686018427387904)]
    refine ⟨_, by omega, i + 1, by omega, rfl, v2, ?_⟩
    rw [hstep, red1, at_eq hdl, ← add_red o hel hui.1]
  · have hie : i = u.length := by omega
    subst hie
    rw [List.take_length]
    exact hk v
end Go.Proofs
