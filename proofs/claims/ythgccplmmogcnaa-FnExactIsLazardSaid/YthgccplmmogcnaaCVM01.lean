/- Plain law: vectors of whole numbers, and the normal form of a combination of generators whose p-th multiples are given. -/
import Derived.Test.YthgccplmmogcnaaCAbPy
set_option linter.unusedVariables false
set_option linter.unusedSimpArgs false
namespace Go.Lie
open Go.Ab

/-- A prime of the kind that is used, as bounds. -/
def okp (p : Int) : Prop := 2 ≤ p ∧ p ≤ 7
/-- The entry at a place, 0 beyond the end. -/
abbrev at_ (v : List Int) (j : Nat) : Int := v.getD j 0
theorem at_eq {v : List Int} {j : Nat} (h : j < v.length) : at_ v j = v[j] := by simp [at_, List.getD_eq_getElem?_getD, List.getElem?_eq_getElem h]
theorem at_ge {v : List Int} {j : Nat} (h : v.length ≤ j) : at_ v j = 0 := by simp [at_, List.getD_eq_getElem?_getD, List.getElem?_eq_none h]
theorem ext_at {a b : List Int} (hl : a.length = b.length) (h : ∀ j, j < a.length → at_ a j = at_ b j) : a = b := by
  apply List.ext_getElem hl
  intro j h1 h2
  have := h j h1
  rwa [at_eq h1, at_eq h2] at this
theorem at_set {v : List Int} {i : Nat} (hi : i < v.length) (x : Int) (j : Nat) : at_ (v.set i x) j = if j = i then x else at_ v j := by
  simp only [at_, List.getD_eq_getElem?_getD, List.getElem?_set]
  by_cases h : i = j
  · subst h; simp [hi]
  · rw [if_neg h, if_neg (fun e => h e.symm)]
theorem at_rep (n : Nat) (j : Nat) : at_ (List.replicate n 0) j = 0 := by
  simp only [at_, List.getD_eq_getElem?_getD, List.getElem?_replicate]
  split <;> rfl

/-- Sum of two lists, the second times q. -/
def addm (q : Int) (xs ys : List Int) : List Int := List.zipWith (fun x y => x + q * y) xs ys
theorem addm_length {q : Int} {xs ys : List Int} (h : xs.length ≤ ys.length) : (addm q xs ys).length = xs.length := by simp [addm]; omega
theorem addm_get {q : Int} {xs ys : List Int} {i : Nat} (h1 : i < xs.length) (h2 : i < ys.length) : (addm q xs ys)[i]? = some (xs[i] + q * ys[i]) := by
  simp [addm, List.getElem?_zipWith, List.getElem?_eq_getElem h1, List.getElem?_eq_getElem h2]
theorem addm_at {q : Int} {xs ys : List Int} (h : xs.length = ys.length) (i : Nat) : at_ (addm q xs ys) i = at_ xs i + q * at_ ys i := by
  rcases Nat.lt_or_ge i xs.length with x | x
  · have := addm_get (q := q) x (h ▸ x)
    simp only [at_, List.getD_eq_getElem?_getD]
    rw [this, List.getElem?_eq_getElem x, List.getElem?_eq_getElem (h ▸ x)]
    rfl
  · rw [at_ge (by rw [addm_length (by omega)]; exact x), at_ge x, at_ge (h ▸ x)]
    simp
theorem subm_eq (k : Int) (xs ys : List Int) : subm k xs ys = addm (-k) xs ys := by
  simp only [subm, addm]
  congr 1
  funext x y
  rw [Int.neg_mul]; omega

/-- A combination of two. -/
def lmix (k : Int) (a : List Int) (m : Int) (b : List Int) : List Int := List.zipWith (fun x y => k * x + m * y) a b
theorem lmix_length {k m : Int} {a b : List Int} (h : a.length = b.length) : (lmix k a m b).length = a.length := by simp [lmix]; omega
theorem lmix_get {k m : Int} {a b : List Int} {i : Nat} (h1 : i < a.length) (h2 : i < b.length) : (lmix k a m b)[i]? = some (k * a[i] + m * b[i]) := by
  simp [lmix, List.getElem?_zipWith, List.getElem?_eq_getElem h1, List.getElem?_eq_getElem h2]
theorem lmix_at {k m : Int} {a b : List Int} (h : a.length = b.length) (i : Nat) : at_ (lmix k a m b) i = k * at_ a i + m * at_ b i := by
  rcases Nat.lt_or_ge i a.length with x | x
  · rw [at_eq (by rw [lmix_length h]; exact x), at_eq x, at_eq (by omega : i < b.length)]
    have := lmix_get (k := k) (m := m) x (by omega : i < b.length)
    rw [List.getElem?_eq_getElem (by rw [lmix_length h]; exact x)] at this
    exact Option.some.inj this
  · rw [at_ge (by rw [lmix_length h]; exact x), at_ge x, at_ge (by omega : b.length ≤ i)]
    simp

/-- Entries no greater than M. -/
def bd (M : Int) (v : List Int) : Prop := ∀ j, -M ≤ at_ v j ∧ at_ v j ≤ M
theorem bd.mono {M N : Int} {v : List Int} (h : bd M v) (hn : M ≤ N) : bd N v := fun j => by have := h j; omega
theorem bd.get {M : Int} {v : List Int} (h : bd M v) {j : Nat} (hj : j < v.length) : -M ≤ v[j] ∧ v[j] ≤ M := by rw [← at_eq hj]; exact h j
theorem bd_of {M : Int} (hM : 0 ≤ M) {v : List Int} (h : ∀ x ∈ v, -M ≤ x ∧ x ≤ M) : bd M v := fun j => by
  rcases Nat.lt_or_ge j v.length with x | x
  · rw [at_eq x]; exact h _ (List.getElem_mem x)
  · rw [at_ge x]; omega

/-- Entries from 0 to p - 1. -/
def box (p : Int) (v : List Int) : Prop := ∀ x ∈ v, 0 ≤ x ∧ x ≤ p - 1
/-- Elements of the ring. -/
def El (p : Int) (n : Nat) (a : List Int) : Prop := a.length = n ∧ box p a
theorem box.at {p : Int} {v : List Int} (hp : 0 < p) (h : box p v) (j : Nat) : 0 ≤ at_ v j ∧ at_ v j ≤ p - 1 := by
  rcases Nat.lt_or_ge j v.length with x | x
  · rw [at_eq x]; exact h _ (List.getElem_mem x)
  · rw [at_ge x]; omega
theorem box.bd {p : Int} {v : List Int} (hp : okp p) (h : box p v) : bd 6 v := fun j => by
  have := h.at (by have := hp.1; omega) j
  have := hp.2
  omega

/-- The multiples of the generators: rows of n entries from 0 to p - 1, those up to the row's own place 0. -/
structure OkW (p : Int) (n : Nat) (W : List (List Int)) : Prop where
  pr : okp p
  le : n ≤ 6
  len : W.length = n
  row : ∀ (i : Nat) (h : i < W.length), W[i].length = n ∧ box p W[i] ∧ ∀ j, j ≤ i → at_ W[i] j = 0

variable {p : Int} {n : Nat} {W : List (List Int)}

/-- One step of the normal form. -/
def nstep (p : Int) (W : List (List Int)) (i : Nat) (v : List Int) : List Int := addm (at_ v i / p) (v.set i (at_ v i - at_ v i / p * p)) (W.getD i [])
/-- The first k steps. -/
def nrm (p : Int) (W : List (List Int)) : Nat → List Int → List Int
  | 0, v => v
  | k + 1, v => nstep p W k (nrm p W k v)
/-- The normal form. -/
def norm (p : Int) (W : List (List Int)) (v : List Int) : List Int := nrm p W W.length v

/-- Entry of the row of a generator. -/
abbrev w_ (W : List (List Int)) (i j : Nat) : Int := at_ (W.getD i []) j
theorem getD_row {i : Nat} (h : i < W.length) : W.getD i [] = W[i] := by simp [List.getD_eq_getElem?_getD, List.getElem?_eq_getElem h]
theorem OkW.zero (o : OkW p n W) {i j : Nat} (h : j ≤ i) : w_ W i j = 0 := by
  rcases Nat.lt_or_ge i W.length with x | x
  · rw [w_, getD_row x]; exact (o.row i x).2.2 j h
  · simp [w_, List.getD_eq_getElem?_getD, List.getElem?_eq_none x]
theorem OkW.bds (o : OkW p n W) (i j : Nat) : 0 ≤ w_ W i j ∧ w_ W i j ≤ p - 1 := by
  have := o.pr.1
  rcases Nat.lt_or_ge i W.length with x | x
  · rw [w_, getD_row x]; exact (o.row i x).2.1.at (by omega) j
  · simp [w_, List.getD_eq_getElem?_getD, List.getElem?_eq_none x]; omega
theorem OkW.rowlen (o : OkW p n W) {i : Nat} (h : i < n) : (W.getD i []).length = n := by
  rw [getD_row (o.len ▸ h)]; exact (o.row i (o.len ▸ h)).1

theorem nstep_length (o : OkW p n W) {i : Nat} (hi : i < n) {v : List Int} (hv : v.length = n) : (nstep p W i v).length = n := by
  rw [nstep, addm_length (by rw [List.length_set, o.rowlen hi]; omega), List.length_set, hv]
theorem nstep_at (o : OkW p n W) {i : Nat} (hi : i < n) {v : List Int} (hv : v.length = n) (j : Nat) : at_ (nstep p W i v) j = at_ v j + at_ v i / p * (w_ W i j - if j = i then p else 0) := by
  rw [nstep, addm_at (by rw [List.length_set, o.rowlen hi, hv]), at_set (by omega)]
  split
  · rename_i e; subst e; simp only [w_]; rw [Int.mul_sub]; omega
  · rw [Int.sub_zero]
theorem nrm_length (o : OkW p n W) {v : List Int} (hv : v.length = n) : ∀ {k : Nat}, k ≤ n → (nrm p W k v).length = n
  | 0, _ => hv
  | k + 1, hk => nstep_length o (by omega) (nrm_length o hv (by omega))
theorem norm_length (o : OkW p n W) {v : List Int} (hv : v.length = n) : (norm p W v).length = n := nrm_length o hv (Nat.le_of_eq o.len)

theorem floor_mul (a : Int) (hp : 0 < p) : a / p * p ≤ a ∧ a < a / p * p + p := by
  have h1 := Int.emod_add_mul_ediv a p
  have h2 := Int.emod_nonneg a (by omega : p ≠ 0)
  have h3 := Int.emod_lt_of_pos a hp
  rw [Int.mul_comm] at h1
  omega
theorem mul_row {q w : Int} (hp : 0 < p) (hw : 0 ≤ w ∧ w ≤ p - 1) {A : Int} (hA : 0 ≤ A) (hq : -A ≤ q * p ∧ q * p ≤ A) : -A ≤ q * w ∧ q * w ≤ A := by
  rcases Int.le_total 0 q with h | h
  · have h1 := Int.mul_nonneg h hw.1
    have h2 := Int.mul_le_mul_of_nonneg_left (show w ≤ p by omega) h
    omega
  · have h1 := Int.mul_le_mul_of_nonneg_left (show w ≤ p by omega) (show 0 ≤ -q by omega)
    have h2 := Int.mul_nonneg (show 0 ≤ -q by omega) hw.1
    rw [Int.neg_mul] at h2
    rw [Int.neg_mul, Int.neg_mul] at h1
    omega
/-- The products of a step. -/
theorem step_bds (o : OkW p n W) {M : Int} {v : List Int} (h : bd M v) (i j : Nat) :
    (-(M + 7) ≤ at_ v i / p * p ∧ at_ v i / p * p ≤ M + 7) ∧ (-(M + 7) ≤ at_ v i / p * w_ W i j ∧ at_ v i / p * w_ W i j ≤ M + 7) := by
  have hp := o.pr
  unfold okp at hp
  have h1 := floor_mul (p := p) (at_ v i) (by omega)
  have h2 := h i
  have h3 : -(M + 7) ≤ at_ v i / p * p ∧ at_ v i / p * p ≤ M + 7 := by omega
  exact ⟨h3, mul_row (by omega) (o.bds i j) (by omega) h3⟩
theorem nstep_bd (o : OkW p n W) {M : Int} {i : Nat} (hi : i < n) {v : List Int} (hv : v.length = n) (h : bd M v) : bd (2 * M + 14) (nstep p W i v) := fun j => by
  rw [nstep_at o hi hv, Int.mul_sub]
  have hp := o.pr
  unfold okp at hp
  have h1 := floor_mul (p := p) (at_ v i) (by omega)
  have h2 := h i
  have h3 := h j
  obtain ⟨h4, h5⟩ := step_bds o h i j
  split
  · rename_i e
    subst e
    rw [o.zero (Nat.le_refl _), Int.mul_zero]
    omega
  · rw [Int.mul_zero]; omega
/-- How far entries grow. -/
def grow (M : Int) : Nat → Int
  | 0 => M
  | k + 1 => 2 * grow M k + 14
theorem grow_le {M : Int} (hM : 0 ≤ M) {k : Nat} (hk : k ≤ 6) : 0 ≤ grow M k ∧ grow M k ≤ 64 * M + 882 := by
  obtain rfl | rfl | rfl | rfl | rfl | rfl | rfl : k = 0 ∨ k = 1 ∨ k = 2 ∨ k = 3 ∨ k = 4 ∨ k = 5 ∨ k = 6 := by omega
  all_goals simp only [grow]; omega
theorem nrm_bd (o : OkW p n W) {M : Int} {v : List Int} (hv : v.length = n) (h : bd M v) : ∀ {k : Nat}, k ≤ n → bd (grow M k) (nrm p W k v)
  | 0, _ => h
  | k + 1, hk => nstep_bd o (by omega) (nrm_length o hv (by omega)) (nrm_bd o hv h (by omega))
theorem nrm_bd' (o : OkW p n W) {M : Int} (hM : 0 ≤ M) {v : List Int} (hv : v.length = n) (h : bd M v) {k : Nat} (hk : k ≤ n) : bd (64 * M + 882) (nrm p W k v) :=
  (nrm_bd o hv h hk).mono (grow_le hM (by have := o.le; omega)).2

/- EQUIVALENCE -/

/-- A sum of n terms. -/
def sumN : Nat → (Nat → Int) → Int
  | 0, _ => 0
  | n + 1, f => sumN n f + f n
theorem sumN_congr : ∀ {n : Nat} {f g : Nat → Int}, (∀ i, i < n → f i = g i) → sumN n f = sumN n g
  | 0, _, _, _ => rfl
  | n + 1, f, g, h => by simp only [sumN]; rw [sumN_congr (fun i hi => h i (by omega)), h n (by omega)]
theorem sumN_add : ∀ (n : Nat) (f g : Nat → Int), sumN n (fun i => f i + g i) = sumN n f + sumN n g
  | 0, _, _ => rfl
  | n + 1, f, g => by simp only [sumN]; rw [sumN_add n f g]; omega
theorem sumN_mul (k : Int) : ∀ (n : Nat) (f : Nat → Int), sumN n (fun i => k * f i) = k * sumN n f
  | 0, _ => by simp [sumN]
  | n + 1, f => by simp only [sumN]; rw [sumN_mul k n f, Int.mul_add]
theorem sumN_zero : ∀ (n : Nat) {f : Nat → Int}, (∀ i, i < n → f i = 0) → sumN n f = 0
  | 0, _, _ => rfl
  | n + 1, f, h => by simp only [sumN]; rw [sumN_zero n (fun i hi => h i (by omega)), h n (by omega)]; rfl
theorem sumN_one {n k : Nat} (hk : k < n) {f : Nat → Int} (h : ∀ i, i < n → i ≠ k → f i = 0) : sumN n f = f k := by
  induction n with
  | zero => omega
  | succ n ih =>
    simp only [sumN]
    by_cases e : k = n
    · subst e
      rw [sumN_zero k (fun i hi => h i (by omega) (by omega))]
      omega
    · rw [ih (by omega) (fun i hi hne => h i (by omega) hne), h n (by omega) (fun e' => e e'.symm)]
      omega

/-- The relation that generator i gives. -/
abbrev rel (p : Int) (W : List (List Int)) (i j : Nat) : Int := w_ W i j - if j = i then p else 0
/-- Equal in the group. -/
def Eqv (p : Int) (n : Nat) (W : List (List Int)) (f g : Nat → Int) : Prop := ∃ c : Nat → Int, ∀ j, f j = g j + sumN n (fun i => c i * rel p W i j)

theorem Eqv.refl (f : Nat → Int) : Eqv p n W f f := ⟨fun _ => 0, fun j => by rw [sumN_zero]; omega; intro i _; exact Int.zero_mul _⟩
theorem Eqv.symm {f g : Nat → Int} (h : Eqv p n W f g) : Eqv p n W g f := by
  obtain ⟨c, hc⟩ := h
  refine ⟨fun i => -1 * c i, fun j => ?_⟩
  have : (fun i => -1 * c i * rel p W i j) = fun i => -1 * (c i * rel p W i j) := by funext i; rw [Int.mul_assoc]
  rw [this, sumN_mul, hc j]; omega
theorem Eqv.trans {f g k : Nat → Int} (h : Eqv p n W f g) (h' : Eqv p n W g k) : Eqv p n W f k := by
  obtain ⟨c, hc⟩ := h
  obtain ⟨d, hd⟩ := h'
  refine ⟨fun i => c i + d i, fun j => ?_⟩
  have : (fun i => (c i + d i) * rel p W i j) = fun i => c i * rel p W i j + d i * rel p W i j := by funext i; rw [Int.add_mul]
  rw [this, sumN_add, hc j, hd j]; omega
theorem Eqv.add {f g f' g' : Nat → Int} (h : Eqv p n W f g) (h' : Eqv p n W f' g') : Eqv p n W (fun j => f j + f' j) (fun j => g j + g' j) := by
  obtain ⟨c, hc⟩ := h
  obtain ⟨d, hd⟩ := h'
  refine ⟨fun i => c i + d i, fun j => ?_⟩
  have : (fun i => (c i + d i) * rel p W i j) = fun i => c i * rel p W i j + d i * rel p W i j := by funext i; rw [Int.add_mul]
  dsimp only
  rw [this, sumN_add, hc j, hd j]; omega
theorem Eqv.mul (k : Int) {f g : Nat → Int} (h : Eqv p n W f g) : Eqv p n W (fun j => k * f j) (fun j => k * g j) := by
  obtain ⟨c, hc⟩ := h
  refine ⟨fun i => k * c i, fun j => ?_⟩
  have : (fun i => k * c i * rel p W i j) = fun i => k * (c i * rel p W i j) := by funext i; rw [Int.mul_assoc]
  dsimp only
  rw [this, sumN_mul, hc j, Int.mul_add]
theorem Eqv.of_eq {f g : Nat → Int} (h : ∀ j, f j = g j) : Eqv p n W f g := by
  have : f = g := funext h
  subst this; exact Eqv.refl f
/-- A relation itself is nothing. -/
theorem Eqv.rel {i : Nat} (hi : i < n) : Eqv p n W (fun j => rel p W i j) (fun _ => 0) :=
  ⟨fun k => if k = i then 1 else 0, fun j => by
    rw [sumN_one hi (fun k _ hk => by dsimp only; rw [if_neg hk, Int.zero_mul])]; dsimp only; rw [if_pos rfl]; omega⟩

theorem nstep_eqv (o : OkW p n W) {i : Nat} (hi : i < n) {v : List Int} (hv : v.length = n) : Eqv p n W (at_ (nstep p W i v)) (at_ v) := by
  refine ⟨fun k => if k = i then at_ v i / p else 0, fun j => ?_⟩
  rw [sumN_one hi (fun k _ hk => by dsimp only; rw [if_neg hk, Int.zero_mul]), nstep_at o hi hv]
  dsimp only; rw [if_pos rfl]
theorem nrm_eqv (o : OkW p n W) {v : List Int} (hv : v.length = n) : ∀ {k : Nat}, k ≤ n → Eqv p n W (at_ (nrm p W k v)) (at_ v)
  | 0, _ => Eqv.refl _
  | k + 1, hk => (nstep_eqv o (by omega) (nrm_length o hv (by omega))).trans (nrm_eqv o hv (by omega))
theorem norm_eqv (o : OkW p n W) {v : List Int} (hv : v.length = n) : Eqv p n W (at_ (norm p W v)) (at_ v) := nrm_eqv o hv (Nat.le_of_eq o.len)

theorem nrm_box (o : OkW p n W) {v : List Int} (hv : v.length = n) : ∀ {k : Nat}, k ≤ n → ∀ j, j < k → 0 ≤ at_ (nrm p W k v) j ∧ at_ (nrm p W k v) j ≤ p - 1
  | 0, _, j, hj => by omega
  | k + 1, hk, j, hj => by
    have hp := o.pr
    unfold okp at hp
    simp only [nrm]
    rw [nstep_at o (by omega) (nrm_length o hv (by omega)), o.zero (by omega : j ≤ k)]
    by_cases e : j = k
    · subst e
      rw [if_pos rfl, Int.zero_sub, Int.mul_neg]
      have := floor_mul (p := p) (at_ (nrm p W j v) j) (by omega)
      omega
    · rw [if_neg e, Int.sub_zero, Int.mul_zero, Int.add_zero]
      exact nrm_box o hv (by omega) j (by omega)
theorem norm_box (o : OkW p n W) {v : List Int} (hv : v.length = n) : box p (norm p W v) := by
  intro x hx
  obtain ⟨j, hj, rfl⟩ := List.mem_iff_getElem.1 hx
  have := nrm_box o hv (Nat.le_of_eq o.len) j (by rw [norm_length o hv] at hj; rw [o.len]; exact hj)
  rwa [← at_eq hj]

/-- Equal elements in normal form are the same. -/
theorem eqv_unique (o : OkW p n W) {a b : List Int} (ha : a.length = n) (hb : b.length = n) (ba : box p a) (bb : box p b) (h : Eqv p n W (at_ a) (at_ b)) : a = b := by
  obtain ⟨c, hc⟩ := h
  have hp := o.pr
  unfold okp at hp
  have key : ∀ m, m ≤ n → ∀ i, i < m → c i = 0 := by
    intro m
    induction m with
    | zero => intro _ i hi; omega
    | succ m ih =>
      intro hm i hi
      by_cases e : i = m
      · subst e
        have h1 := hc i
        rw [sumN_one (k := i) (by omega) (fun k hk hne => by
          rcases Nat.lt_or_ge k i with x | x
          · rw [ih (by omega) k x, Int.zero_mul]
          · rw [rel, o.zero x, if_neg (fun e => hne e.symm)]; simp)] at h1
        rw [rel, o.zero (Nat.le_refl _), if_pos rfl] at h1
        have h2 := ba.at (by omega) i
        have h3 := bb.at (by omega) i
        rw [Int.zero_sub, Int.mul_neg] at h1
        rcases Int.lt_trichotomy (c i) 0 with x | x | x
        · have := Int.mul_le_mul_of_nonneg_right (show c i ≤ -1 by omega) (show 0 ≤ p by omega)
          omega
        · exact x
        · have := Int.mul_le_mul_of_nonneg_right (show 1 ≤ c i by omega) (show 0 ≤ p by omega)
          omega
      · exact ih (by omega) i (by omega)
  refine ext_at (by omega) fun j hj => ?_
  rw [hc j, sumN_zero n (fun i hi => by rw [key n (Nat.le_refl _) i hi, Int.zero_mul])]
  omega
/-- The normal form is one for equal elements. -/
theorem norm_congr (o : OkW p n W) {a b : List Int} (ha : a.length = n) (hb : b.length = n) (h : Eqv p n W (at_ a) (at_ b)) : norm p W a = norm p W b :=
  eqv_unique o (norm_length o ha) (norm_length o hb) (norm_box o ha) (norm_box o hb) ((norm_eqv o ha).trans (h.trans (norm_eqv o hb).symm))
theorem norm_same (o : OkW p n W) {a : List Int} (ha : a.length = n) (ba : box p a) : norm p W a = a :=
  eqv_unique o (norm_length o ha) ha (norm_box o ha) ba (norm_eqv o ha)
end Go.Lie
