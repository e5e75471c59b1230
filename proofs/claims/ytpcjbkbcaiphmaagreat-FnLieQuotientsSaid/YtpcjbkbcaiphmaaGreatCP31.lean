/- Plain law: a subgroup inside of another has a list that is no longer, and is the other if the lists are equally long. -/
import Derived.Test.YtpcjbkbcaiphmaaGreatCP28
import Derived.Test.YtpcjbkbcaiphmaaGreatCP29
open Nat renaming reduceLeDiff → nQ7, reduceEqDiff → nQ10, reduceBEq → nQ11, reduceAdd → nQ12, reduceLT → nQ16, reduceSub → nQ17, reduceMul → nQ18
open Int renaming reduceEq → iQ2, reduceLT → iQ3, reduceLE → iQ4, reduceNeg → iQ5, reduceToNat → iQ6, ofNat_le → iQ7
open List renaming reduceReplicate → lQ19, getElem?_drop → lQ20
set_option linter.unusedVariables false
set_option linter.unusedSimpArgs false
namespace Go.Lie
open Go.Ab
variable {p : Int} {n : Nat} {W : List (List Int)}
abbrev Vec := Nat → Int
structure IsSub (p : Int) (n : Nat) (W : List (List Int)) (S : Vec → Prop) : Prop where
  zero : S fun _ => 0
  add : ∀ f g, S f → S g → S fun j => f j + g j
  mul : ∀ k f, S f → S fun j => k * f j
  eqv : ∀ f g, Eqv p n W f g → S g → S f
def comb (c : Nat → Int) (L : List (List Int)) : Vec := fun j => sumN L.length fun k => c k * at_ (L.getD k []) j
def Gen (p : Int) (n : Nat) (W : List (List Int)) (L : List (List Int)) (f : Vec) : Prop := ∃ c : Nat → Int, Eqv p n W f (comb c L)
theorem comb_add (c d : Nat → Int) (L : List (List Int)) (j : Nat) : comb (fun k => c k + d k) L j = comb c L j + comb d L j := by
  unfold comb
  rw [← sumN_add]
  exact sumN_congr fun i _ => Int.add_mul _ _ _
theorem comb_mul (m : Int) (c : Nat → Int) (L : List (List Int)) (j : Nat) : comb (fun k => m * c k) L j = m * comb c L j := by
  unfold comb
  rw [← sumN_mul]
  exact sumN_congr fun i _ => Int.mul_assoc _ _ _
theorem gen_sub (L : List (List Int)) : IsSub p n W (Gen p n W L) := by
  refine ⟨⟨fun _ => 0, Eqv.of_eq fun j => ?_⟩, fun f g ⟨c, hc⟩ ⟨d, hd⟩ => ⟨fun k => c k + d k, (hc.add hd).trans (Eqv.of_eq fun j => (comb_add c d L j).symm)⟩,
    fun k f ⟨c, hc⟩ => ⟨fun i => k * c i, (hc.mul k).trans (Eqv.of_eq fun j => (comb_mul k c L j).symm)⟩, fun f g h ⟨c, hc⟩ => ⟨c, h.trans hc⟩⟩
  unfold comb
  rw [sumN_zero _ (fun i _ => Int.zero_mul _)]
theorem gen_mem {L : List (List Int)} {v : List Int} (h : v ∈ L) : Gen p n W L (at_ v) := by
  obtain ⟨k, hk, rfl⟩ := List.mem_iff_getElem.1 h
  refine ⟨fun i => if i = k then 1 else 0, Eqv.of_eq fun j => ?_⟩
  unfold comb
  rw [sumN_one hk (fun i _ hi => by dsimp only; rw [if_neg hi, Int.zero_mul])]
  dsimp only
  rw [if_pos rfl, Int.one_mul]
  simp [List.getD_eq_getElem?_getD, List.getElem?_eq_getElem hk]
theorem IsSub.sum {S : Vec → Prop} (h : IsSub p n W S) : ∀ {m : Nat} {F : Nat → Vec}, (∀ k, k < m → S (F k)) → S fun j => sumN m fun k => F k j
  | 0, _, _ => h.zero
  | m + 1, F, hF => h.add _ _ (IsSub.sum h fun k hk => hF k (by omega)) (hF m (by omega))
theorem IsSub.comb {S : Vec → Prop} (h : IsSub p n W S) {L : List (List Int)} (hL : ∀ v ∈ L, S (at_ v)) (c : Nat → Int) : S (comb c L) :=
  h.sum fun k hk => h.mul (c k) _ (hL _ (by
    have : L.getD k [] = L[k] := by simp [List.getD_eq_getElem?_getD, List.getElem?_eq_getElem hk]
    rw [this]; exact List.getElem_mem hk))
theorem gen_le {S : Vec → Prop} (h : IsSub p n W S) {L : List (List Int)} (hL : ∀ v ∈ L, S (at_ v)) {f : Vec} (hf : Gen p n W L f) : S f := by
  obtain ⟨c, hc⟩ := hf
  exact h.eqv _ _ hc (h.comb hL c)
theorem gen_mono {L M : List (List Int)} (h : ∀ v ∈ L, Gen p n W M (at_ v)) {f : Vec} (hf : Gen p n W L f) : Gen p n W M f := gen_le (gen_sub M) h hf
theorem gen_sublist {L M : List (List Int)} (h : ∀ v ∈ L, v ∈ M) {f : Vec} (hf : Gen p n W L f) : Gen p n W M f := gen_mono (fun v hv => gen_mem (h v hv)) hf
theorem IsSub.sub {S : Vec → Prop} (h : IsSub p n W S) {f g : Vec} (hf : S f) (hg : S g) : S fun j => f j - g j := by
  have := h.add _ _ hf (h.mul (-1) _ hg)
  exact h.eqv _ _ (Eqv.of_eq fun j => by omega) this
def dep : List Int → Nat
  | [] => 0
  | x :: xs => if x = 0 then dep xs + 1 else 0
theorem dep_le : ∀ v : List Int, dep v ≤ v.length
  | [] => Nat.le_refl _
  | x :: xs => by simp only [dep, List.length_cons]; have := dep_le xs; split <;> omega
theorem dep_zero : ∀ {v : List Int} {j : Nat}, j < dep v → at_ v j = 0
  | [], j, h => by simp [at_]
  | x :: xs, j, h => by
    simp only [dep] at h
    split at h
    · rename_i hx
      cases j with
      | zero => simp [at_, hx]
      | succ j =>
        have := dep_zero (v := xs) (j := j) (by omega)
        simpa [at_] using this
    · omega
theorem dep_ne : ∀ {v : List Int}, dep v < v.length → at_ v (dep v) ≠ 0
  | [], h => by simp at h
  | x :: xs, h => by
    simp only [dep, List.length_cons] at h ⊢
    split at h
    · rename_i hx
      rw [if_pos hx]
      have := dep_ne (v := xs) (by omega)
      simpa [at_] using this
    · rename_i hx
      rw [if_neg hx]
      simpa [at_] using hx
theorem dep_eq {v : List Int} {d : Nat} (h1 : ∀ j, j < d → at_ v j = 0) (h2 : at_ v d ≠ 0) : dep v = d := by
  rcases Nat.lt_trichotomy (dep v) d with x | x | x
  · have hd : d < v.length := by
      rcases Nat.lt_or_ge d v.length with y | y
      · exact y
      · exact absurd (at_ge y) h2
    exact absurd (h1 _ x) (dep_ne (by omega))
  · exact x
  · exact absurd (dep_zero x) h2
theorem dep_ge {v : List Int} {d : Nat} (hd : d ≤ v.length) (h1 : ∀ j, j < d → at_ v j = 0) : d ≤ dep v := by
  rcases Nat.lt_or_ge (dep v) d with x | x
  · exact absurd (h1 _ x) (dep_ne (by omega))
  · exact x
theorem dep_full {v : List Int} (h : dep v = v.length) : ∀ x ∈ v, x = 0 := fun x hx => by
  obtain ⟨j, hj, rfl⟩ := List.mem_iff_getElem.1 hx
  rw [← at_eq hj]
  exact dep_zero (by omega)
theorem eqv_head (o : OkW p n W) {f g : Vec} (h : Eqv p n W f g) {d : Nat} (hd : d < n) (hf : ∀ j, j < d → 0 ≤ f j ∧ f j ≤ p - 1) (hg : ∀ j, j < d → 0 ≤ g j ∧ g j ≤ p - 1) : (∀ j, j < d → f j = g j) ∧ ∃ k : Int, f d = g d - k * p := by
  obtain ⟨c, hc⟩ := h
  have hp := o.pr
  unfold okp at hp
  have val : ∀ i, i ≤ d → (∀ k, k < i → c k = 0) → f i = g i - c i * p := by
    intro i hi hk
    have h1 := hc i
    rw [sumN_one (k := i) (by omega) (fun k hkn hne => by
      rcases Nat.lt_or_ge k i with x | x
      · rw [hk k x, Int.zero_mul]
      · rw [rel, o.zero x, if_neg (fun e => hne e.symm)]; simp)] at h1
    rw [rel, o.zero (Nat.le_refl _), if_pos rfl, Int.zero_sub, Int.mul_neg] at h1
    omega
  have key : ∀ m, m ≤ d → ∀ i, i < m → c i = 0 := by
    intro m
    induction m with
    | zero => intro _ i hi; omega
    | succ m ih =>
      intro hm i hi
      by_cases e : i = m
      · subst e
        have h1 := val i (by omega) (ih (by omega))
        have h2 := hf i (by omega)
        have h3 := hg i (by omega)
        rcases Int.lt_trichotomy (c i) 0 with x | x | x
        · have := Int.mul_le_mul_of_nonneg_right (show c i ≤ -1 by omega) (show 0 ≤ p by omega)
          omega
        · exact x
        · have := Int.mul_le_mul_of_nonneg_right (show 1 ≤ c i by omega) (show 0 ≤ p by omega)
          omega
      · exact ih (by omega) i (by omega)
  refine ⟨fun j hj => ?_, c d, val d (Nat.le_refl _) (key d (Nat.le_refl _))⟩
  have := val j (by omega) (fun k hk => key d (Nat.le_refl _) k (by omega))
  rw [key d (Nat.le_refl _) j hj] at this
  omega
theorem norm_head (o : OkW p n W) {v : List Int} (hv : v.length = n) {d : Nat} (hd : d ≤ n) (h : ∀ j, j < d → at_ v j = 0) : ∀ j, j < d → at_ (norm p W v) j = 0 := by
  have hp := o.pr
  unfold okp at hp
  have hb := norm_box o hv
  intro j hj
  have := (eqv_head o (norm_eqv o hv) (d := j) (by omega) (fun i _ => hb.at (by omega) i) (fun i hi => by rw [h i (by omega)]; omega)).1
  obtain ⟨k, hk⟩ := (eqv_head o (norm_eqv o hv) (d := j) (by omega) (fun i _ => hb.at (by omega) i) (fun i hi => by rw [h i (by omega)]; omega)).2
  rw [h j hj] at hk
  have h2 := hb.at (by omega) j
  rcases Int.lt_trichotomy k 0 with x | x | x
  · have := Int.mul_le_mul_of_nonneg_right (show k ≤ -1 by omega) (show 0 ≤ p by omega)
    omega
  · rw [x] at hk; omega
  · have := Int.mul_le_mul_of_nonneg_right (show 1 ≤ k by omega) (show 0 ≤ p by omega)
    omega
theorem norm_lead (o : OkW p n W) {v : List Int} (hv : v.length = n) {d : Nat} (hd : d < n) (h : ∀ j, j < d → at_ v j = 0) : at_ (norm p W v) d = at_ v d % p := by
  have hp := o.pr
  unfold okp at hp
  have hb := norm_box o hv
  obtain ⟨k, hk⟩ := (eqv_head o (norm_eqv o hv) hd (fun i _ => hb.at (by omega) i) (fun i hi => by rw [h i hi]; omega)).2
  have h2 := hb.at (by omega) d
  have : at_ v d = at_ (norm p W v) d + p * k := by rw [Int.mul_comm p k]; omega
  rw [this, Int.add_mul_emod_self_left]
  exact (Int.emod_eq_of_lt h2.1 (by omega)).symm
theorem push (o : OkW p n W) {d : Nat} (hd : d < n) {f : Vec} (h : ∀ j, j < d → f j = 0) (hn : ∀ j, n ≤ j → f j = 0) : ∃ g : Vec, Eqv p n W (fun j => p * f j) g ∧ (∀ j, j ≤ d → g j = 0) ∧ ∀ j, n ≤ j → g j = 0 := by
  have h1 := (Eqv.rel (p := p) (W := W) hd).mul (f d)
  refine ⟨fun j => p * f j + f d * rel p W d j, ?_, fun j hj => ?_, fun j hj => ?_⟩
  · have h2 := (Eqv.refl (p := p) (n := n) (W := W) (fun j => p * f j)).add h1.symm
    refine (Eqv.of_eq fun j => ?_).trans h2
    omega
  · dsimp only
    rcases Nat.lt_or_ge j d with x | x
    · rw [h j x, rel, o.zero (by omega : j ≤ d), if_neg (by omega)]; simp
    · have : j = d := by omega
      subst this
      rw [rel, o.zero (Nat.le_refl _), if_pos rfl, Int.zero_sub, Int.mul_neg, Int.mul_comm p]; omega
  · dsimp only
    rw [hn j hj, rel, if_neg (by omega)]
    have : w_ W d j = 0 := by
      rw [w_]
      exact at_ge (by rw [o.rowlen hd]; exact hj)
    rw [this]; simp
def pw_ (p : Int) : Nat → Int
  | 0 => 1
  | k + 1 => p * pw_ p k
theorem kill (o : OkW p n W) : ∀ (k : Nat) {f : Vec}, k ≤ n → (∀ j, j < n - k → f j = 0) → (∀ j, n ≤ j → f j = 0) → Eqv p n W (fun j => pw_ p k * f j) fun _ => 0
  | 0, f, _, h, hn => Eqv.of_eq fun j => by
    rcases Nat.lt_or_ge j n with x | x
    · rw [h j (by omega)]; simp
    · rw [hn j x]; simp
  | k + 1, f, hk, h, hn => by
    obtain ⟨g, h1, h2, h3⟩ := push o (d := n - (k + 1)) (by omega) h hn
    have ih := kill o k (f := g) (by omega) (fun j hj => h2 j (by omega)) h3
    have h4 := h1.mul (pw_ p k)
    refine (Eqv.of_eq fun j => ?_).trans (h4.trans ih)
    rw [pw_, Int.mul_comm p, Int.mul_assoc]
theorem kill_all (o : OkW p n W) {f : Vec} (hn : ∀ j, n ≤ j → f j = 0) : Eqv p n W (fun j => pw_ p n * f j) fun _ => 0 := kill o n (Nat.le_refl _) (fun j hj => by omega) hn
theorem inv_one (t : Int) : ∀ m : Nat, 0 < m → ∃ e s : Int, e * (1 + p * t) = 1 + pw_ p m * s
  | 0, h => by omega
  | 1, _ => ⟨1, t, by simp [pw_]⟩
  | m + 2, _ => by
    obtain ⟨e, s, h⟩ := inv_one t (m + 1) (by omega)
    refine ⟨e * (1 - pw_ p (m + 1) * s), -(pw_ p m * s * s), ?_⟩
    have h1 : e * (1 - pw_ p (m + 1) * s) * (1 + p * t) = (e * (1 + p * t)) * (1 - pw_ p (m + 1) * s) := by
      rw [Int.mul_assoc, Int.mul_comm (1 - pw_ p (m + 1) * s), ← Int.mul_assoc]
    rw [h1, h]
    have h2 : pw_ p (m + 2) * -(pw_ p m * s * s) = -(pw_ p (m + 1) * s * (pw_ p (m + 1) * s)) := by
      simp only [pw_]
      rw [Int.mul_neg]
      congr 1
      simp only [Int.mul_assoc, Int.mul_left_comm, Int.mul_comm]
    rw [h2, Int.add_mul, Int.one_mul, Int.mul_sub, Int.mul_one]
    omega
end Go.Lie
namespace Go.Lie
open Go.Ab
variable {p : Int} {n : Nat} {W : List (List Int)}
theorem El.at0 {v : List Int} (h : El p n v) (o : OkW p n W) (j : Nat) : 0 ≤ at_ v j ∧ at_ v j ≤ p - 1 := h.2.at (by have := o.pr.1; omega) j
theorem El.beyond {v : List Int} (h : El p n v) {j : Nat} (hj : n ≤ j) : at_ v j = 0 := at_ge (by rw [h.1]; exact hj)
theorem norm_El (o : OkW p n W) {v : List Int} (hv : v.length = n) : El p n (norm p W v) := ⟨norm_length o hv, norm_box o hv⟩
theorem el_ext {a b : List Int} (ha : El p n a) (hb : El p n b) (h : ∀ j, j < n → at_ a j = at_ b j) : a = b := ext_at (ha.1.trans hb.1.symm) fun j hj => h j (by rw [← ha.1]; exact hj)
theorem norm_keep (o : OkW p n W) {v : List Int} (hv : v.length = n) {m : Nat} (hm : m ≤ n) (h : ∀ j, j < m → 0 ≤ at_ v j ∧ at_ v j ≤ p - 1) {j : Nat} (hj : j < m) : at_ (norm p W v) j = at_ v j := by
  have hp := o.pr
  unfold okp at hp
  have hb := norm_box o hv
  obtain ⟨k, hk⟩ := (eqv_head o (norm_eqv o hv) (d := j) (by omega) (fun i _ => hb.at (by omega) i) (fun i hi => h i (by omega))).2
  have h1 := hb.at (by omega) j
  have h2 := h j hj
  rcases Int.lt_trichotomy k 0 with x | x | x
  · have := Int.mul_le_mul_of_nonneg_right (show k ≤ -1 by omega) (show 0 ≤ p by omega)
    omega
  · rw [x] at hk; omega
  · have := Int.mul_le_mul_of_nonneg_right (show 1 ≤ k by omega) (show 0 ≤ p by omega)
    omega
abbrev red1 (p : Int) (W : List (List Int)) (x v : List Int) : List Int := norm p W (lmix 1 x (-(at_ x (dep v))) v)
def redL (p : Int) (W : List (List Int)) : List (List Int) → List Int → List Int
  | [], x => x
  | v :: u, x => redL p W u (red1 p W x v)
def Led (p : Int) (n : Nat) (v : List Int) : Prop := El p n v ∧ dep v < n ∧ at_ v (dep v) = 1
theorem red1_el (o : OkW p n W) {x v : List Int} (hx : El p n x) (hv : El p n v) : El p n (red1 p W x v) := norm_El o (by rw [lmix_length (hx.1.trans hv.1.symm)]; exact hx.1)
theorem red1_eqv (o : OkW p n W) {x v : List Int} (hx : El p n x) (hv : El p n v) : Eqv p n W (at_ (red1 p W x v)) (fun j => at_ x j - at_ x (dep v) * at_ v j) :=
  (norm_eqv o (by rw [lmix_length (hx.1.trans hv.1.symm)]; exact hx.1)).trans (Eqv.of_eq fun j => by rw [lmix_at (hx.1.trans hv.1.symm), Int.neg_mul]; omega)
theorem red1_at (o : OkW p n W) {x v : List Int} (hx : El p n x) (hv : Led p n v) {j : Nat} (hj : j ≤ dep v) : at_ (red1 p W x v) j = if j = dep v then 0 else at_ x j := by
  have hl := hx.1.trans hv.1.1.symm
  have hp := o.pr
  unfold okp at hp
  have e : ∀ i, i ≤ dep v → at_ (lmix 1 x (-(at_ x (dep v))) v) i = if i = dep v then 0 else at_ x i := fun i hi => by
    rw [lmix_at hl]
    split
    · rename_i h; subst h; rw [hv.2.2]; omega
    · rw [dep_zero (by omega : i < dep v)]; omega
  rw [norm_keep o (m := dep v + 1) (by rw [lmix_length hl]; exact hx.1) (by have := hv.2.1; omega) (fun i hi => by
    rw [e i (by omega)]
    have := hx.at0 o i
    split <;> omega) (by omega), e j hj]
theorem red1_same (o : OkW p n W) {x v : List Int} (hx : El p n x) (hv : El p n v) (h : at_ x (dep v) = 0) : red1 p W x v = x := by
  have hl := hx.1.trans hv.1.symm
  have : lmix 1 x (-(at_ x (dep v))) v = x := ext_at (lmix_length hl) fun j _ => by rw [lmix_at hl, h]; omega
  rw [red1, this, norm_same o hx.1 hx.2]
theorem redL_el (o : OkW p n W) : ∀ {u : List (List Int)} {x : List Int}, (∀ v ∈ u, El p n v) → El p n x → El p n (redL p W u x)
  | [], x, _, hx => hx
  | v :: u, x, hu, hx => by rw [redL]; exact redL_el o (fun w hw => hu w (by simp [hw])) (red1_el o hx (hu v (by simp)))
theorem redL_gen (o : OkW p n W) : ∀ {u : List (List Int)} {x : List Int}, (∀ v ∈ u, El p n v) → El p n x → Gen p n W u (fun j => at_ x j - at_ (redL p W u x) j)
  | [], x, _, hx => (gen_sub []).eqv _ _ (Eqv.of_eq fun j => Int.sub_self _) (gen_sub []).zero
  | v :: u, x, hu, hx => by
    have hv := hu v (by simp)
    have h1 := redL_gen o (u := u) (fun w hw => hu w (by simp [hw])) (red1_el o hx hv)
    have h2 : Gen p n W (v :: u) (fun j => at_ (red1 p W x v) j - at_ (redL p W u (red1 p W x v)) j) := gen_sublist (fun w hw => by simp [hw]) h1
    have h3 := (gen_sub (v :: u)).mul (at_ x (dep v)) _ (gen_mem (p := p) (n := n) (W := W) (show v ∈ v :: u by simp))
    have h4 := (gen_sub (v :: u)).add _ _ h3 h2
    refine (gen_sub (v :: u)).eqv _ _ ?_ h4
    have e1 := (red1_eqv o hx hv).symm.add (Eqv.refl (p := p) (n := n) (W := W) fun j => at_ x (dep v) * at_ v j - at_ (redL p W u (red1 p W x v)) j)
    refine (Eqv.of_eq fun j => ?_).trans (e1.trans (Eqv.of_eq fun j => ?_))
    · rw [redL]; omega
    · omega
abbrev Asc (u : List (List Int)) : Prop := u.Pairwise fun a b => dep a < dep b
theorem redL_at (o : OkW p n W) : ∀ {u : List (List Int)} {x : List Int}, (∀ v ∈ u, Led p n v) → Asc u → El p n x →
    (∀ v ∈ u, at_ (redL p W u x) (dep v) = 0) ∧ ∀ j, (∀ v ∈ u, j < dep v) → at_ (redL p W u x) j = at_ x j
  | [], x, _, _, hx => ⟨fun v hv => (by cases hv), fun j _ => rfl⟩
  | v :: u, x, hu, ha, hx => by
    have hv := hu v (by simp)
    obtain ⟨ha1, ha2⟩ := List.pairwise_cons.1 ha
    obtain ⟨h1, h2⟩ := redL_at o (fun w hw => hu w (by simp [hw])) ha2 (red1_el o hx hv.1)
    refine ⟨fun w hw => ?_, fun j hj => ?_⟩
    · rcases List.mem_cons.1 hw with rfl | hw
      · rw [redL, h2 _ (fun z hz => ha1 z hz), red1_at o hx hv (Nat.le_refl _), if_pos rfl]
      · exact h1 w hw
    · have := hj v (by simp)
      rw [redL, h2 j (fun z hz => hj z (by simp [hz])), red1_at o hx hv (by omega), if_neg (by omega)]
theorem gen_zero (o : OkW p n W) {u : List (List Int)} (hu : ∀ v ∈ u, El p n v) {m : Nat} (hm : m ≤ n) (h : ∀ v ∈ u, ∀ j, j < m → at_ v j = 0) {z : List Int} (hz : El p n z) (hg : Gen p n W u (at_ z)) : ∀ j, j < m → at_ z j = 0 := by
  obtain ⟨c, hc⟩ := hg
  have hcomb : ∀ j, j < m → comb c u j = 0 := fun j hj => sumN_zero _ fun k hk => by
    have : u.getD k [] = u[k] := by simp [List.getD_eq_getElem?_getD, List.getElem?_eq_getElem hk]
    rw [this, h _ (List.getElem_mem hk) j hj, Int.mul_zero]
  intro j hj
  have hp := o.pr
  unfold okp at hp
  obtain ⟨k, hk⟩ := (eqv_head o hc (d := j) (by omega) (fun i _ => hz.at0 o i) (fun i hi => by rw [hcomb i (by omega)]; omega)).2
  rw [hcomb j hj] at hk
  have h1 := hz.at0 o j
  rcases Int.lt_trichotomy k 0 with x | x | x
  · have := Int.mul_le_mul_of_nonneg_right (show k ≤ -1 by omega) (show 0 ≤ p by omega)
    omega
  · rw [x] at hk; omega
  · have := Int.mul_le_mul_of_nonneg_right (show 1 ≤ k by omega) (show 0 ≤ p by omega)
    omega
def tab (n : Nat) (f : Vec) : List Int := (List.range n).map f
theorem tab_length (f : Vec) : (tab n f).length = n := by simp [tab]
theorem tab_at (f : Vec) (hf : ∀ j, n ≤ j → f j = 0) (j : Nat) : at_ (tab n f) j = f j := by
  rcases Nat.lt_or_ge j n with x | x
  · rw [at_eq (by rw [tab_length]; exact x)]; simp [tab]
  · rw [at_ge (by rw [tab_length]; exact x), hf j x]
theorem comb_beyond {u : List (List Int)} (hu : ∀ v ∈ u, El p n v) (c : Nat → Int) {j : Nat} (hj : n ≤ j) : comb c u j = 0 := sumN_zero _ fun k hk => by
  have : u.getD k [] = u[k] := by simp [List.getD_eq_getElem?_getD, List.getElem?_eq_getElem hk]
  rw [this, (hu _ (List.getElem_mem hk)).beyond hj, Int.mul_zero]
theorem gen_rep (o : OkW p n W) {u : List (List Int)} (hu : ∀ v ∈ u, El p n v) {f : Vec} (hg : Gen p n W u f) : ∃ z, El p n z ∧ Eqv p n W f (at_ z) ∧ Gen p n W u (at_ z) := by
  obtain ⟨c, hc⟩ := hg
  have h1 := norm_eqv o (tab_length (comb c u))
  have h2 : at_ (tab n (comb c u)) = comb c u := funext fun j => tab_at _ (fun j hj => comb_beyond hu c hj) j
  rw [h2] at h1
  exact ⟨_, norm_El o (tab_length _), hc.trans h1.symm, c, h1⟩
theorem comb_cons (c : Nat → Int) (v : List Int) (u : List (List Int)) (j : Nat) : comb c (v :: u) j = c 0 * at_ v j + comb (fun k => c (k + 1)) u j := by
  unfold comb
  have : ∀ (m : Nat) (f : Nat → Int), sumN (m + 1) f = f 0 + sumN m fun k => f (k + 1) := by
    intro m f
    induction m with
    | zero => simp [sumN]
    | succ m ih => rw [sumN, ih, sumN]; omega
  rw [List.length_cons, this]
  rfl
theorem gen_cons {v : List Int} {u : List (List Int)} {f : Vec} (hg : Gen p n W (v :: u) f) : ∃ (k : Int) (g : Vec), Gen p n W u g ∧ Eqv p n W f fun j => k * at_ v j + g j := by
  obtain ⟨c, hc⟩ := hg
  exact ⟨c 0, comb (fun k => c (k + 1)) u, ⟨_, Eqv.refl _⟩, hc.trans (Eqv.of_eq fun j => comb_cons c v u j)⟩
inductive Base (p : Int) (n : Nat) (W : List (List Int)) : List (List Int) → Prop where
  | nil : Base p n W []
  | cons {v : List Int} {u : List (List Int)} (hv : Led p n v) (ha : ∀ w ∈ u, dep v < dep w) (hc : Gen p n W u fun j => p * at_ v j) (h : Base p n W u) : Base p n W (v :: u)
theorem Base.led : ∀ {u : List (List Int)}, Base p n W u → ∀ v ∈ u, Led p n v
  | _, .nil, v, h => (by cases h)
  | _, .cons hv _ _ hb, w, h => (List.mem_cons.1 h).elim (fun e => e ▸ hv) (fun h => hb.led w h)
theorem Base.asc : ∀ {u : List (List Int)}, Base p n W u → Asc u
  | _, .nil => List.Pairwise.nil
  | _, .cons _ ha _ hb => List.pairwise_cons.2 ⟨ha, hb.asc⟩
theorem Base.els {u : List (List Int)} (h : Base p n W u) : ∀ v ∈ u, El p n v := fun v hv => (h.led v hv).1
theorem gen_dep (o : OkW p n W) : ∀ {u : List (List Int)}, Base p n W u → ∀ {z : List Int}, El p n z → Gen p n W u (at_ z) → dep z < n → ∃ v ∈ u, dep v = dep z
  | _, .nil, z, hz, hg, hd => by
    have h1 := gen_zero o (u := []) (by simp) (Nat.le_refl n) (by simp) hz hg
    exact absurd (h1 _ hd) (dep_ne (by rw [hz.1]; exact hd))
  | _, .cons (v := v) (u := u) hv ha hc hb, z, hz, hg, hd => by
    have hp := o.pr
    unfold okp at hp
    obtain ⟨k, g, hg1, he⟩ := gen_cons hg
    have h1 : Gen p n W u fun j => (k / p) * (p * at_ v j) + g j := (gen_sub u).add _ _ ((gen_sub u).mul (k / p) _ hc) hg1
    obtain ⟨y, hy, hye, hyg⟩ := gen_rep o hb.els h1
    have hmod := Int.emod_add_mul_ediv k p
    have h2 : Eqv p n W (at_ z) fun j => k % p * at_ v j + at_ y j := by
      refine he.trans ?_
      have := (Eqv.refl (p := p) (n := n) (W := W) fun j => k % p * at_ v j).add hye
      refine (Eqv.of_eq fun j => ?_).trans this
      have e1 : k * at_ v j = (k % p + p * (k / p)) * at_ v j := by rw [hmod]
      rw [e1, Int.add_mul, Int.mul_comm p (k / p), Int.mul_assoc]; omega
    by_cases h0 : k % p = 0
    · obtain ⟨w, hw, e⟩ := gen_dep o hb hz ((gen_sub u).eqv _ _ (h2.trans (Eqv.of_eq fun j => by rw [h0]; omega)) hyg) hd
      exact ⟨w, by simp [hw], e⟩
    · refine ⟨v, by simp, ?_⟩
      have hyz := gen_zero o hb.els (m := dep v + 1) (by have := hv.2.1; omega) (fun w hw j hj => dep_zero (by have := ha w hw; omega)) hy hyg
      have hkb := Int.emod_nonneg k (show p ≠ 0 by omega)
      have hkl := Int.emod_lt_of_pos k (show 0 < p by omega)
      have hval : ∀ j, j ≤ dep v → k % p * at_ v j + at_ y j = if j = dep v then k % p else 0 := fun j hj => by
        rw [hyz j (by omega)]
        split
        · rename_i e; subst e; rw [hv.2.2]; omega
        · rw [dep_zero (by omega : j < dep v)]; simp
      have key := fun d (hd : d ≤ dep v) => eqv_head o h2 (d := d) (by have := hv.2.1; omega) (fun i _ => hz.at0 o i) (fun i hi => by rw [hval i (by omega), if_neg (by omega)]; omega)
      refine (dep_eq (fun j hj => ?_) ?_).symm
      · rw [(key (dep v) (Nat.le_refl _)).1 j hj, hval j (by omega), if_neg (by omega)]
      · obtain ⟨t, ht⟩ := (key (dep v) (Nat.le_refl _)).2
        rw [hval _ (Nat.le_refl _), if_pos rfl] at ht
        intro h
        rw [h] at ht
        rcases Int.lt_trichotomy t 0 with x | x | x
        · have := Int.mul_le_mul_of_nonneg_right (show t ≤ -1 by omega) (show 0 ≤ p by omega)
          omega
        · rw [x] at ht; omega
        · have := Int.mul_le_mul_of_nonneg_right (show 1 ≤ t by omega) (show 0 ≤ p by omega)
          omega
end Go.Lie
namespace Go.Lie
open Go.Ab
variable {p : Int} {n : Nat} {W : List (List Int)}
theorem pairwise_two {α : Type} {R : α → α → Prop} : ∀ {l : List α}, l.Pairwise R → ∀ {a b : α}, a ∈ l → b ∈ l → a = b ∨ R a b ∨ R b a
  | [], _, a, b, ha, _ => by cases ha
  | x :: l, h, a, b, ha, hb => by
    obtain ⟨h1, h2⟩ := List.pairwise_cons.1 h
    rcases List.mem_cons.1 ha with ea | ha'
    · rcases List.mem_cons.1 hb with eb | hb'
      · exact .inl (ea.trans eb.symm)
      · rw [ea]; exact .inr (.inl (h1 b hb'))
    · rcases List.mem_cons.1 hb with eb | hb'
      · rw [eb]; exact .inr (.inr (h1 a ha'))
      · exact pairwise_two h2 ha' hb'
theorem asc_ext : ∀ {u w : List (List Int)}, Asc u → Asc w → (∀ v, v ∈ u ↔ v ∈ w) → u = w
  | [], [], _, _, _ => rfl
  | [], x :: w, _, _, h => by have := (h x).2 (by simp); cases this
  | x :: u, [], _, _, h => by have := (h x).1 (by simp); cases this
  | x :: u, y :: w, hu, hw, h => by
    obtain ⟨h1, h2⟩ := List.pairwise_cons.1 hu
    obtain ⟨h3, h4⟩ := List.pairwise_cons.1 hw
    have e : x = y := by
      rcases List.mem_cons.1 ((h x).1 (by simp)) with e | e
      · exact e
      · rcases List.mem_cons.1 ((h y).2 (by simp)) with e' | e'
        · exact e'.symm
        · have := h3 x e; have := h1 y e'; omega
    subst e
    congr 1
    refine asc_ext h2 h4 fun v => ⟨fun hv => ?_, fun hv => ?_⟩
    · rcases List.mem_cons.1 ((h v).1 (by simp [hv])) with e | e
      · subst e; have := h1 v hv; omega
      · exact e
    · rcases List.mem_cons.1 ((h v).2 (by simp [hv])) with e | e
      · subst e; have := h3 v hv; omega
      · exact e
abbrev Red (u : List (List Int)) : Prop := u.Pairwise fun a b => at_ a (dep b) = 0
theorem red_at {u : List (List Int)} (ha : Asc u) (hr : Red u) {v x : List Int} (hv : v ∈ u) (hx : x ∈ u) (h : dep v < dep x) : at_ v (dep x) = 0 := by
  have := pairwise_two (R := fun a b : List Int => dep a < dep b ∧ at_ a (dep b) = 0) (List.Pairwise.and ha hr) hv hx
  rcases this with e | e | e
  · subst e; omega
  · exact e.2
  · omega
theorem canon_one (o : OkW p n W) {u w : List (List Int)} (hu : Base p n W u) (ru : Red u) (hw : Base p n W w) (rw_ : Red w) (h : ∀ f, Gen p n W u f → Gen p n W w f) (h' : ∀ f, Gen p n W w f → Gen p n W u f) {v x : List Int} (hv : v ∈ u) (hx : x ∈ w) (e : dep x = dep v) : v = x := by
  have lv := hu.led v hv
  have lx := hw.led x hx
  have hl := lv.1.1.trans lx.1.1.symm
  have hp := o.pr
  unfold okp at hp
  have hyl : (lmix 1 v (-1) x).length = n := by rw [lmix_length hl]; exact lv.1.1
  rcases Nat.lt_or_ge (dep (lmix 1 v (-1) x)) n with hd | hd
  rotate_left
  · refine el_ext lv.1 lx.1 fun j hj => ?_
    have := dep_zero (v := lmix 1 v (-1) x) (j := j) (by omega)
    rw [lmix_at hl] at this
    omega
  have hz : ∀ j, j < dep (lmix 1 v (-1) x) → at_ (norm p W (lmix 1 v (-1) x)) j = 0 := norm_head o hyl (by omega) fun j hj => dep_zero hj
  have hne : at_ (norm p W (lmix 1 v (-1) x)) (dep (lmix 1 v (-1) x)) ≠ 0 := by
    rw [norm_lead o hyl hd fun j hj => dep_zero hj]
    have h1 := dep_ne (v := lmix 1 v (-1) x) (by rw [hyl]; exact hd)
    rw [lmix_at hl] at h1 ⊢
    have b1 := lv.1.at0 o (dep (lmix 1 v (-1) x))
    have b2 := lx.1.at0 o (dep (lmix 1 v (-1) x))
    intro h0
    have := Int.emod_add_mul_ediv (1 * at_ v (dep (lmix 1 v (-1) x)) + -1 * at_ x (dep (lmix 1 v (-1) x))) p
    rw [h0, Int.zero_add] at this
    generalize (1 * at_ v (dep (lmix 1 v (-1) x)) + -1 * at_ x (dep (lmix 1 v (-1) x))) / p = q at this
    rcases Int.lt_trichotomy q 0 with y | y | y
    · have := Int.mul_le_mul_of_nonneg_left (show q ≤ -1 by omega) (show 0 ≤ p by omega)
      omega
    · rw [y] at this; omega
    · have := Int.mul_le_mul_of_nonneg_left (show 1 ≤ q by omega) (show 0 ≤ p by omega)
      omega
  have hdep := dep_eq hz hne
  have hg : Gen p n W u (at_ (norm p W (lmix 1 v (-1) x))) := by
    refine (gen_sub u).eqv _ _ ((norm_eqv o hyl).trans (Eqv.of_eq fun j => ?_)) ((gen_sub u).sub (gen_mem hv) (h' _ (gen_mem hx)))
    rw [lmix_at hl]; omega
  obtain ⟨t, ht, et⟩ := gen_dep o hu (norm_El o hyl) hg (by omega)
  obtain ⟨s, hs, es⟩ := gen_dep o hw (norm_El o hyl) (h _ hg) (by omega)
  have hdn := dep_ne (v := lmix 1 v (-1) x) (by rw [hyl]; exact hd)
  rw [lmix_at hl] at hdn
  exfalso
  rcases Nat.lt_trichotomy (dep v) (dep t) with y | y | y
  · have q1 := red_at hu.asc ru hv ht y
    have q2 := red_at hw.asc rw_ hx hs (by omega)
    rw [et, hdep] at q1
    rw [es, hdep] at q2
    rw [q1, q2] at hdn
    omega
  · have e2 : dep (lmix 1 v (-1) x) = dep v := by omega
    rw [e2, lv.2.2, ← e, lx.2.2] at hdn
    omega
  · have e2 : dep (lmix 1 v (-1) x) < dep v := by omega
    rw [dep_zero e2, dep_zero (by omega)] at hdn
    omega
theorem canon_unique (o : OkW p n W) {u w : List (List Int)} (hu : Base p n W u) (ru : Red u) (hw : Base p n W w) (rw_ : Red w) (h : ∀ f, Gen p n W u f → Gen p n W w f) (h' : ∀ f, Gen p n W w f → Gen p n W u f) : u = w := by
  refine asc_ext hu.asc hw.asc fun v => ⟨fun hv => ?_, fun hv => ?_⟩
  · have lv := hu.led v hv
    obtain ⟨x, hx, e⟩ := gen_dep o hw lv.1 (h _ (gen_mem hv)) lv.2.1
    rw [canon_one o hu ru hw rw_ h h' hv hx e]; exact hx
  · have lv := hw.led v hv
    obtain ⟨x, hx, e⟩ := gen_dep o hu lv.1 (h' _ (gen_mem hv)) lv.2.1
    rw [canon_one o hw rw_ hu ru h' h hv hx e]; exact hx
theorem fin_cons (o : OkW p n W) {v : List Int} {t t' s : List (List Int)} (hb : Base p n W (v :: t)) (hb' : Base p n W t') (hr' : Red t') (hg : ∀ f, Gen p n W t f ↔ Gen p n W t' f) (hs : Base p n W s) (hsd : ∀ x ∈ t', ∃ y ∈ s, dep y = dep x) (hsl : ∀ y ∈ s, dep v < dep y) (hst : ∀ f, Gen p n W s f → Gen p n W t' f) (htd : ∀ x ∈ t', dep v < dep x) :
    Base p n W (redL p W s v :: t') ∧ Red (redL p W s v :: t') ∧ (∀ f, Gen p n W (v :: t) f ↔ Gen p n W (redL p W s v :: t') f) ∧ dep (redL p W s v) = dep v := by
  cases hb with
  | cons hv ha hc hbt =>
  have hel := redL_el o hs.els hv.1
  obtain ⟨h1, h2⟩ := redL_at o hs.led hs.asc hv.1
  have hg1 := redL_gen o hs.els hv.1
  have hsame : ∀ j, j ≤ dep v → at_ (redL p W s v) j = at_ v j := fun j hj => h2 j fun y hy => by have := hsl y hy; omega
  have hdep : dep (redL p W s v) = dep v := dep_eq (fun j hj => by rw [hsame j (by omega)]; exact dep_zero hj) (by rw [hsame _ (Nat.le_refl _), hv.2.2]; decide)
  refine ⟨.cons ⟨hel, by rw [hdep]; exact hv.2.1, by rw [hdep, hsame _ (Nat.le_refl _)]; exact hv.2.2⟩ (fun x hx => by rw [hdep]; exact htd x hx) ?_ hb', List.pairwise_cons.2 ⟨fun x hx => ?_, hr'⟩, fun f => ⟨fun hf => ?_, fun hf => ?_⟩, hdep⟩
  · have q1 := (gen_sub t').mul p _ (hst _ hg1)
    have q2 := (gen_sub t').sub ((hg _).1 hc) q1
    exact (gen_sub t').eqv _ _ (Eqv.of_eq fun j => by rw [Int.mul_sub]; omega) q2
  · obtain ⟨y, hy, e⟩ := hsd x hx
    rw [← e]; exact h1 y hy
  · refine gen_mono (fun x hx => ?_) hf
    rcases List.mem_cons.1 hx with rfl | hx
    · have q1 : Gen p n W (redL p W s x :: t') fun j => at_ x j - at_ (redL p W s x) j := gen_sublist (fun y hy => by simp [hy]) (hst _ hg1)
      have q2 := (gen_sub (redL p W s x :: t')).add _ _ q1 (gen_mem (v := redL p W s x) (by simp))
      exact (gen_sub _).eqv _ _ (Eqv.of_eq fun j => by omega) q2
    · exact gen_sublist (fun y hy => by simp [hy]) ((hg _).1 (gen_mem hx))
  · refine gen_mono (fun x hx => ?_) hf
    rcases List.mem_cons.1 hx with rfl | hx
    · have q1 : Gen p n W (v :: t) fun j => at_ v j - at_ (redL p W s v) j := gen_sublist (fun y hy => by simp [hy]) ((hg _).2 (hst _ hg1))
      have q2 := (gen_sub (v :: t)).sub (gen_mem (v := v) (by simp)) q1
      exact (gen_sub _).eqv _ _ (Eqv.of_eq fun j => by omega) q2
    · exact gen_sublist (fun y hy => by simp [hy]) ((hg _).2 (gen_mem hx))
def finS (p : Int) (W : List (List Int)) : List (List Int) → List (List Int)
  | [] => []
  | v :: t => redL p W t v :: finS p W t
def finI (p : Int) (W : List (List Int)) : List (List Int) → List (List Int)
  | [] => []
  | v :: t => redL p W (finI p W t) v :: finI p W t
structure Canon (p : Int) (n : Nat) (W : List (List Int)) (gens out : List (List Int)) : Prop where
  base : Base p n W out
  red : Red out
  gen : ∀ f, Gen p n W gens f ↔ Gen p n W out f
theorem finS_ok (o : OkW p n W) : ∀ {u : List (List Int)}, Base p n W u → Canon p n W u (finS p W u) ∧ (finS p W u).map dep = u.map dep
  | _, .nil => ⟨⟨.nil, List.Pairwise.nil, fun _ => Iff.rfl⟩, rfl⟩
  | _, .cons (v := v) (u := t) hv ha hc hb => by
    obtain ⟨c, hd⟩ := finS_ok o hb
    have dd : ∀ x ∈ finS p W t, ∃ y ∈ t, dep y = dep x := fun x hx => by
      have : dep x ∈ t.map dep := by rw [← hd]; exact List.mem_map_of_mem hx
      obtain ⟨y, hy, e⟩ := List.mem_map.1 this
      exact ⟨y, hy, e⟩
    obtain ⟨q1, q2, q3, q4⟩ := fin_cons o (.cons hv ha hc hb) c.base c.red c.gen hb dd ha (fun f hf => (c.gen f).1 hf) fun x hx => by
      obtain ⟨y, hy, e⟩ := dd x hx; have := ha y hy; omega
    exact ⟨⟨q1, q2, q3⟩, by simp only [finS, List.map_cons, q4, hd]⟩
theorem finI_ok (o : OkW p n W) : ∀ {u : List (List Int)}, Base p n W u → Canon p n W u (finI p W u) ∧ (finI p W u).map dep = u.map dep
  | _, .nil => ⟨⟨.nil, List.Pairwise.nil, fun _ => Iff.rfl⟩, rfl⟩
  | _, .cons (v := v) (u := t) hv ha hc hb => by
    obtain ⟨c, hd⟩ := finI_ok o hb
    have dd : ∀ x ∈ finI p W t, dep v < dep x := fun x hx => by
      have : dep x ∈ t.map dep := by rw [← hd]; exact List.mem_map_of_mem hx
      obtain ⟨y, hy, e⟩ := List.mem_map.1 this
      have := ha y hy; omega
    obtain ⟨q1, q2, q3, q4⟩ := fin_cons o (.cons hv ha hc hb) c.base c.red c.gen c.base (fun x hx => ⟨x, hx, rfl⟩) dd (fun f hf => hf) dd
    exact ⟨⟨q1, q2, q3⟩, by simp only [finI, List.map_cons, q4, hd]⟩
theorem Canon.unique (o : OkW p n W) {gens a b : List (List Int)} (ha : Canon p n W gens a) (hb : Canon p n W gens b) : a = b :=
  canon_unique o ha.base ha.red hb.base hb.red (fun f hf => (hb.gen f).1 ((ha.gen f).2 hf)) fun f hf => (ha.gen f).1 ((hb.gen f).2 hf)
theorem Canon.trans {gens u out : List (List Int)} (h : Canon p n W u out) (hg : ∀ f, Gen p n W gens f ↔ Gen p n W u f) : Canon p n W gens out := ⟨h.base, h.red, fun f => (hg f).trans (h.gen f)⟩
abbrev Dp (u : List (List Int)) (d : Nat) : List (List Int) := u.filter fun v => decide (d < dep v)
abbrev Fp (u : List (List Int)) (d : Nat) : List (List Int) := u.filter fun v => decide (d ≤ dep v)
structure Grow (p : Int) (n : Nat) (W gens u Q : List (List Int)) : Prop where
  led : ∀ v ∈ u, Led p n v
  asc : Asc u
  els : ∀ x ∈ Q, El p n x
  clo : ∀ v ∈ u, Gen p n W (Dp u (dep v)) (fun j => p * at_ v j) ∨ ∃ x ∈ Q, dep v < dep x ∧ Gen p n W (Dp u (dep v)) fun j => p * at_ v j - at_ x j
  gen : ∀ f, Gen p n W gens f ↔ Gen p n W (u ++ Q) f
theorem Grow.perm {gens u Q Q' : List (List Int)} (g : Grow p n W gens u Q) (h : ∀ x, x ∈ Q ↔ x ∈ Q') : Grow p n W gens u Q' :=
  ⟨g.led, g.asc, fun x hx => g.els x ((h x).2 hx), fun v hv => (g.clo v hv).imp id fun ⟨x, hx, r⟩ => ⟨x, (h x).1 hx, r⟩,
    fun f => (g.gen f).trans ⟨gen_sublist fun v hv => by simp only [List.mem_append] at hv ⊢; exact hv.imp id (h v).1, gen_sublist fun v hv => by simp only [List.mem_append] at hv ⊢; exact hv.imp id (h v).2⟩⟩
theorem Grow.start {gens : List (List Int)} (h : ∀ v ∈ gens, El p n v) : Grow p n W gens [] gens := ⟨fun v hv => (by cases hv), List.Pairwise.nil, h, fun v hv => (by cases hv), fun f => Iff.rfl⟩
theorem Grow.replace {gens u Q : List (List Int)} {g x : List Int} (h : Grow p n W gens u (g :: Q)) (hx : El p n x) (hd : dep g ≤ dep x) (hg : Gen p n W (Fp u (dep g)) fun j => at_ g j - at_ x j) : Grow p n W gens u (x :: Q) := by
  have hg' : ∀ M : List (List Int), (∀ v ∈ u, v ∈ M) → Gen p n W M fun j => at_ g j - at_ x j := fun M hM => gen_sublist (fun v hv => hM v (List.mem_filter.1 hv).1) hg
  refine ⟨h.led, h.asc, fun y hy => (List.mem_cons.1 hy).elim (fun e => e ▸ hx) fun hy => h.els y (by simp [hy]), fun v hv => ?_, fun f => (h.gen f).trans ⟨gen_mono fun y hy => ?_, gen_mono fun y hy => ?_⟩⟩
  · rcases h.clo v hv with h1 | ⟨y, hy, h1, h2⟩
    · exact .inl h1
    · rcases List.mem_cons.1 hy with rfl | hy
      · refine .inr ⟨x, by simp, by omega, ?_⟩
        have q1 : Gen p n W (Dp u (dep v)) fun j => at_ y j - at_ x j := gen_sublist (fun w hw => by
          simp only [List.mem_filter, decide_eq_true_eq] at hw ⊢
          exact ⟨hw.1, by omega⟩) hg
        have q2 := (gen_sub _).add _ _ h2 q1
        exact (gen_sub _).eqv _ _ (Eqv.of_eq fun j => by omega) q2
      · exact .inr ⟨y, by simp [hy], h1, h2⟩
  · simp only [List.mem_append, List.mem_cons] at hy
    rcases hy with hy | rfl | hy
    · exact gen_mem (by simp [hy])
    · have q1 := (gen_sub (p := p) (n := n) (W := W) (u ++ x :: Q)).add _ _ (hg' _ fun v hv => by simp [hv]) (gen_mem (v := x) (by simp))
      exact (gen_sub _).eqv _ _ (Eqv.of_eq fun j => by omega) q1
    · exact gen_mem (by simp [hy])
  · simp only [List.mem_append, List.mem_cons] at hy
    rcases hy with hy | rfl | hy
    · exact gen_mem (by simp [hy])
    · have q1 := (gen_sub (p := p) (n := n) (W := W) (u ++ g :: Q)).sub (gen_mem (v := g) (by simp)) (hg' _ fun v hv => by simp [hv])
      exact (gen_sub _).eqv _ _ (Eqv.of_eq fun j => by omega) q1
    · exact gen_mem (by simp [hy])
theorem Grow.drop {gens u Q : List (List Int)} {x : List Int} (h : Grow p n W gens u (x :: Q)) (h0 : ∀ j, at_ x j = 0) : Grow p n W gens u Q := by
  have hz : ∀ M : List (List Int), Gen p n W M (at_ x) := fun M => (gen_sub M).eqv _ _ (Eqv.of_eq h0) (gen_sub M).zero
  refine ⟨h.led, h.asc, fun y hy => h.els y (by simp [hy]), fun v hv => ?_, fun f => (h.gen f).trans ⟨gen_mono fun y hy => ?_, gen_sublist fun y hy => by simp only [List.mem_append, List.mem_cons] at hy ⊢; exact hy.imp id .inr⟩⟩
  · rcases h.clo v hv with h1 | ⟨y, hy, h1, h2⟩
    · exact .inl h1
    · rcases List.mem_cons.1 hy with rfl | hy
      · exact .inl ((gen_sub _).eqv _ _ (Eqv.of_eq fun j => by rw [h0 j]; omega) h2)
      · exact .inr ⟨y, hy, h1, h2⟩
  · simp only [List.mem_append, List.mem_cons] at hy
    rcases hy with hy | rfl | hy
    · exact gen_mem (by simp [hy])
    · exact hz _
    · exact gen_mem (by simp [hy])
def insD : List (List Int) → List Int → List (List Int)
  | [], x => [x]
  | v :: u, x => if dep v < dep x then v :: insD u x else x :: v :: u
theorem insD_mem : ∀ {u : List (List Int)} {x v : List Int}, v ∈ insD u x ↔ v = x ∨ v ∈ u
  | [], x, v => by simp [insD]
  | w :: u, x, v => by
    simp only [insD]
    split
    · rw [List.mem_cons, insD_mem, List.mem_cons]
      constructor
      · rintro (h | h | h); exact .inr (.inl h); exact .inl h; exact .inr (.inr h)
      · rintro (h | h | h); exact .inr (.inl h); exact .inl h; exact .inr (.inr h)
    · simp
theorem insD_asc : ∀ {u : List (List Int)} {x : List Int}, Asc u → (∀ v ∈ u, dep v ≠ dep x) → Asc (insD u x)
  | [], x, _, _ => List.pairwise_singleton _ _
  | w :: u, x, hu, hx => by
    obtain ⟨h1, h2⟩ := List.pairwise_cons.1 hu
    simp only [insD]
    split
    · rename_i hlt
      refine List.pairwise_cons.2 ⟨fun v hv => ?_, insD_asc h2 fun v hv => hx v (by simp [hv])⟩
      rcases insD_mem.1 hv with rfl | hv
      · exact hlt
      · exact h1 v hv
    · rename_i hge
      have := hx w (by simp)
      refine List.pairwise_cons.2 ⟨fun v hv => ?_, hu⟩
      rcases List.mem_cons.1 hv with rfl | hv
      · omega
      · have := h1 v hv; omega
theorem insD_length : ∀ (u : List (List Int)) (x : List Int), (insD u x).length = u.length + 1
  | [], x => rfl
  | w :: u, x => by simp only [insD]; split <;> simp [insD_length u x]
theorem Grow.insert {gens u Q : List (List Int)} {x y z : List Int} (h : Grow p n W gens u (x :: Q)) (hy : Led p n y) (hd : dep y = dep x) (hnew : ∀ v ∈ u, dep v ≠ dep x) (hxy : Gen p n W [y] (at_ x)) (hyx : Gen p n W [x] (at_ y)) (hz : El p n z) (hzd : dep y < dep z) (hzp : Eqv p n W (at_ z) fun j => p * at_ y j) : Grow p n W gens (insD u y) (z :: Q) := by
  have sub : ∀ d, ∀ v ∈ Dp u d, v ∈ Dp (insD u y) d := fun d v hv => by
    simp only [List.mem_filter, decide_eq_true_eq] at hv ⊢
    exact ⟨insD_mem.2 (.inr hv.1), hv.2⟩
  have ymem : ∀ d, d < dep y → y ∈ Dp (insD u y) d := fun d hd => by
    simp only [List.mem_filter, decide_eq_true_eq]
    exact ⟨insD_mem.2 (.inl rfl), hd⟩
  refine ⟨fun v hv => ?_, insD_asc h.asc fun v hv => by rw [hd]; exact hnew v hv, fun v hv => ?_, fun v hv => ?_, fun f => (h.gen f).trans ⟨gen_mono fun v hv => ?_, gen_mono fun v hv => ?_⟩⟩
  · rcases insD_mem.1 hv with rfl | hv
    · exact hy
    · exact h.led v hv
  · rcases List.mem_cons.1 hv with rfl | hv
    · exact hz
    · exact h.els v (by simp [hv])
  · rcases insD_mem.1 hv with rfl | hv
    · refine .inr ⟨z, by simp, hzd, ?_⟩
      have := hzp.symm.add (Eqv.refl (p := p) (n := n) (W := W) fun j => - at_ z j)
      refine (gen_sub _).eqv _ _ ((Eqv.of_eq fun j => ?_).trans (this.trans (Eqv.of_eq fun j => ?_))) (gen_sub _).zero
      · omega
      · omega
    · rcases h.clo v hv with h1 | ⟨t, ht, h1, h2⟩
      · exact .inl (gen_sublist (sub _) h1)
      · rcases List.mem_cons.1 ht with rfl | ht
        · have q1 : Gen p n W (Dp (insD u y) (dep v)) (at_ t) := gen_sublist (fun w hw => by rw [List.mem_singleton.1 hw]; exact ymem _ (by omega)) hxy
          have q2 := (gen_sub _).add _ _ (gen_sublist (sub (dep v)) h2) q1
          exact .inl ((gen_sub _).eqv _ _ (Eqv.of_eq fun j => by omega) q2)
        · exact .inr ⟨t, by simp [ht], h1, gen_sublist (sub _) h2⟩
  · simp only [List.mem_append, List.mem_cons] at hv
    rcases hv with hv | rfl | hv
    · exact gen_mem (by simp [insD_mem, hv])
    · exact gen_sublist (fun w hw => by rw [List.mem_singleton.1 hw]; simp [insD_mem]) hxy
    · exact gen_mem (by simp [hv])
  · simp only [List.mem_append, List.mem_cons, insD_mem] at hv
    have hyg : Gen p n W (u ++ x :: Q) (at_ y) := gen_sublist (fun w hw => by rw [List.mem_singleton.1 hw]; simp) hyx
    rcases hv with (rfl | hv) | rfl | hv
    · exact hyg
    · exact gen_mem (by simp [hv])
    · exact (gen_sub _).eqv _ _ hzp ((gen_sub _).mul p _ hyg)
    · exact gen_mem (by simp [hv])
theorem filter_tail {v : List Int} {t : List (List Int)} (h : ∀ w ∈ t, dep v < dep w) : Dp (v :: t) (dep v) = t := by
  rw [Dp, List.filter_cons, if_neg (by simp)]
  exact List.filter_eq_self.2 fun w hw => by simpa using h w hw
theorem Grow.base {gens : List (List Int)} : ∀ {u : List (List Int)}, Grow p n W gens u [] → Base p n W u := by
  have key : ∀ (u : List (List Int)), (∀ v ∈ u, Led p n v) → Asc u → (∀ v ∈ u, Gen p n W (Dp u (dep v)) fun j => p * at_ v j) → Base p n W u := by
    intro u
    induction u with
    | nil => intro _ _ _; exact .nil
    | cons v t ih =>
      intro hl ha hc
      obtain ⟨h1, h2⟩ := List.pairwise_cons.1 ha
      have hv := hc v (by simp)
      rw [filter_tail h1] at hv
      refine .cons (hl v (by simp)) h1 hv (ih (fun w hw => hl w (by simp [hw])) h2 fun w hw => ?_)
      have hw' := hc w (by simp [hw])
      have : Dp (v :: t) (dep w) = Dp t (dep w) := by
        rw [Dp, List.filter_cons, if_neg (by have := h1 w hw; simp; omega)]
      rwa [this] at hw'
  intro u h
  exact key u h.led h.asc fun v hv => (h.clo v hv).elim id fun ⟨x, hx, _⟩ => by cases hx
theorem Grow.done {gens u out : List (List Int)} (h : Grow p n W gens u []) (c : Canon p n W u out) : Canon p n W gens out := c.trans fun f => by
  have := h.gen f
  rwa [List.append_nil] at this
theorem asc_length {u : List (List Int)} (hl : ∀ v ∈ u, dep v < n) (ha : Asc u) : u.length ≤ n := by
  have : ∀ (u : List (List Int)) (m : Nat), (∀ v ∈ u, m ≤ dep v ∧ dep v < n) → Asc u → m + u.length ≤ max m n := by
    intro u
    induction u with
    | nil => intro m _ _; simp; omega
    | cons v t ih =>
      intro m hm ha
      obtain ⟨h1, h2⟩ := List.pairwise_cons.1 ha
      have q := hm v (by simp)
      have := ih (dep v + 1) (fun w hw => ⟨h1 w hw, (hm w (by simp [hw])).2⟩) h2
      rw [List.length_cons]; omega
  have := this u 0 (fun v hv => ⟨Nat.zero_le _, hl v hv⟩) ha
  omega
end Go.Lie
namespace Go.Lie
open Go.Ab
variable {p : Int} {n : Nat} {W : List (List Int)}
theorem small_zero (hp : 0 < p) {a k : Int} (h : 0 ≤ a ∧ a ≤ p - 1) (e : a = 0 - k * p) : a = 0 := by
  rcases Int.lt_trichotomy k 0 with x | x | x
  · have := Int.mul_le_mul_of_nonneg_right (show k ≤ -1 by omega) (show 0 ≤ p by omega)
    omega
  · rw [x] at e; omega
  · have := Int.mul_le_mul_of_nonneg_right (show 1 ≤ k by omega) (show 0 ≤ p by omega)
    omega
theorem eqv_zero (o : OkW p n W) {z : List Int} {g : Vec} (hz : El p n z) (h : Eqv p n W (at_ z) g) {m : Nat} (hm : m ≤ n) (hg : ∀ j, j < m → g j = 0) : ∀ j, j < m → at_ z j = 0 := by
  intro j hj
  have hp := o.pr
  unfold okp at hp
  obtain ⟨k, hk⟩ := (eqv_head o h (d := j) (by omega) (fun i _ => hz.at0 o i) (fun i hi => by rw [hg i (by omega)]; omega)).2
  rw [hg j hj] at hk
  exact small_zero (by omega) (hz.at0 o j) hk
theorem Fp_all {u : List (List Int)} {d : Nat} (h : ∀ v ∈ u, d ≤ dep v) : Fp u d = u := List.filter_eq_self.2 fun v hv => by simpa using h v hv
theorem redL_fp (o : OkW p n W) : ∀ {u : List (List Int)} {g : List Int}, (∀ v ∈ u, El p n v) → Asc u → El p n g → redL p W u g = redL p W (Fp u (dep g)) g
  | [], g, _, _, _ => rfl
  | v :: u, g, hu, ha, hg => by
    obtain ⟨h1, h2⟩ := List.pairwise_cons.1 ha
    by_cases hd : dep g ≤ dep v
    · rw [Fp_all]
      intro w hw
      rcases List.mem_cons.1 hw with rfl | hw
      · exact hd
      · have := h1 w hw; omega
    · have e : Fp (v :: u) (dep g) = Fp u (dep g) := by rw [Fp, List.filter_cons, if_neg (by simpa using hd)]
      rw [e, redL, red1_same o hg (hu v (by simp)) (dep_zero (by omega))]
      exact redL_fp o (fun w hw => hu w (by simp [hw])) h2 hg
theorem Fp_mem {u : List (List Int)} {d : Nat} {v : List Int} : v ∈ Fp u d ↔ v ∈ u ∧ d ≤ dep v := by simp [Fp]
theorem redL_dep (o : OkW p n W) {u : List (List Int)} {g : List Int} (hu : ∀ v ∈ u, Led p n v) (ha : Asc u) (hg : El p n g) : dep g ≤ dep (redL p W u g) := by
  have hel := redL_el o (fun v hv => (hu v hv).1) hg
  refine dep_ge (by rw [hel.1, ← hg.1]; exact dep_le g) fun j hj => ?_
  rw [redL_fp o (fun v hv => (hu v hv).1) ha hg]
  have := (redL_at o (u := Fp u (dep g)) (fun v hv => hu v (Fp_mem.1 hv).1) (ha.sublist List.filter_sublist) hg).2 j fun v hv => by have := (Fp_mem.1 hv).2; omega
  rw [this]
  exact dep_zero hj
theorem Grow.reduce (o : OkW p n W) {gens u Q : List (List Int)} {g : List Int} (h : Grow p n W gens u (g :: Q)) : Grow p n W gens u (redL p W u g :: Q) := by
  have hg := h.els g (by simp)
  have he : ∀ v ∈ u, El p n v := fun v hv => (h.led v hv).1
  refine h.replace (redL_el o he hg) (redL_dep o h.led h.asc hg) ?_
  rw [redL_fp o he h.asc hg]
  exact redL_gen o (fun v hv => he v (Fp_mem.1 hv).1) hg
theorem Grow.reduce1 (o : OkW p n W) {gens u Q : List (List Int)} {g v : List Int} (h : Grow p n W gens u (g :: Q)) (hv : v ∈ u) (hd : dep v = dep g) : Grow p n W gens u (red1 p W g v :: Q) ∧ dep g < dep (red1 p W g v) := by
  have hg := h.els g (by simp)
  have lv := h.led v hv
  have hel := red1_el o hg lv.1
  have hdd : dep g < dep (red1 p W g v) := dep_ge (by rw [hel.1]; have := lv.2.1; omega) fun j hj => by
    rw [red1_at o hg lv (by omega)]
    split
    · rfl
    · exact dep_zero (by omega)
  refine ⟨h.replace hel (by omega) ?_, hdd⟩
  have q1 := (gen_sub (p := p) (n := n) (W := W) (Fp u (dep g))).mul (at_ g (dep v)) _ (gen_mem (Fp_mem.2 ⟨hv, by omega⟩))
  refine (gen_sub _).eqv _ _ ?_ q1
  have := (red1_eqv o hg lv.1).symm.add (Eqv.refl (p := p) (n := n) (W := W) fun j => at_ g (dep v) * at_ v j - at_ (red1 p W g v) j)
  refine (Eqv.of_eq fun j => ?_).trans (this.trans (Eqv.of_eq fun j => ?_))
  · omega
  · omega
theorem mul_eqv (o : OkW p n W) {x : List Int} (hx : El p n x) (k : Int) : El p n (norm p W (lmix k x 0 x)) ∧ Eqv p n W (at_ (norm p W (lmix k x 0 x))) fun j => k * at_ x j := by
  have hl : (lmix k x 0 x).length = n := by rw [lmix_length rfl]; exact hx.1
  exact ⟨norm_El o hl, (norm_eqv o hl).trans (Eqv.of_eq fun j => by rw [lmix_at rfl]; omega)⟩
theorem scale_led (o : OkW p n W) {x : List Int} (hx : El p n x) (hd : dep x < n) {k : Int} (hk : at_ x (dep x) * k % p = 1) :
    Led p n (norm p W (lmix k x 0 x)) ∧ dep (norm p W (lmix k x 0 x)) = dep x ∧ Gen p n W [norm p W (lmix k x 0 x)] (at_ x) ∧ Gen p n W [x] (at_ (norm p W (lmix k x 0 x))) := by
  have hp := o.pr
  unfold okp at hp
  have hl : (lmix k x 0 x).length = n := by rw [lmix_length rfl]; exact hx.1
  obtain ⟨hel, heq⟩ := mul_eqv o hx k
  have hz : ∀ j, j < dep x → at_ (lmix k x 0 x) j = 0 := fun j hj => by rw [lmix_at rfl, dep_zero hj]; simp
  have h1 := norm_head o hl (by omega) hz
  have h2 := norm_lead o hl hd hz
  have e : at_ (lmix k x 0 x) (dep x) = at_ x (dep x) * k := by rw [lmix_at rfl, Int.mul_comm k]; omega
  rw [e, hk] at h2
  have hdep : dep (norm p W (lmix k x 0 x)) = dep x := dep_eq h1 (by rw [h2]; decide)
  refine ⟨⟨hel, by rw [hdep]; exact hd, by rw [hdep]; exact h2⟩, hdep, ?_, ?_⟩
  · obtain ⟨t, ht⟩ : ∃ t, at_ x (dep x) * k = 1 + p * t := ⟨at_ x (dep x) * k / p, by have := Int.emod_add_mul_ediv (at_ x (dep x) * k) p; omega⟩
    obtain ⟨e, s, hes⟩ := inv_one (p := p) t n (by omega)
    have g1 := (gen_sub (p := p) (n := n) (W := W) [norm p W (lmix k x 0 x)]).mul (e * at_ x (dep x)) _ (gen_mem (List.mem_singleton.2 rfl))
    have k1 := (kill_all o (f := at_ x) fun j hj => hx.beyond hj).mul (-s)
    refine (gen_sub _).eqv _ _ ?_ g1
    have h3 := heq.symm.mul (e * at_ x (dep x))
    have h4 := h3.add k1
    refine (Eqv.of_eq fun j => ?_).trans (h4.trans (Eqv.of_eq fun j => by simp))
    have : e * at_ x (dep x) * (k * at_ x j) = (e * (at_ x (dep x) * k)) * at_ x j := by simp only [Int.mul_assoc]
    rw [this, ht, hes, Int.add_mul, Int.one_mul]
    have : -s * (pw_ p n * at_ x j) = -(pw_ p n * s * at_ x j) := by rw [Int.neg_mul, Int.mul_left_comm, Int.mul_assoc]
    rw [this]; omega
  · refine (gen_sub _).eqv _ _ heq ((gen_sub _).mul k _ (gen_mem (List.mem_singleton.2 rfl)))
theorem pmul_dep (o : OkW p n W) {y : List Int} (hy : El p n y) (hd : dep y < n) : dep y < dep (norm p W (lmix p y 0 y)) := by
  obtain ⟨hel, heq⟩ := mul_eqv o hy p
  obtain ⟨g, h1, h2, h3⟩ := push o hd (f := at_ y) (fun j hj => dep_zero hj) fun j hj => hy.beyond hj
  have := eqv_zero o hel (heq.trans h1) (m := dep y + 1) (by omega) fun j hj => h2 j (by omega)
  exact dep_ge (by rw [hel.1]; omega) this
theorem Grow.take (o : OkW p n W) {gens u Q : List (List Int)} {x : List Int} {k : Int} (h : Grow p n W gens u (x :: Q)) (hd : dep x < n) (hnew : ∀ v ∈ u, dep v ≠ dep x) (hk : at_ x (dep x) * k % p = 1) :
    Grow p n W gens (insD u (norm p W (lmix k x 0 x))) (norm p W (lmix p (norm p W (lmix k x 0 x)) 0 (norm p W (lmix k x 0 x))) :: Q) := by
  have hx := h.els x (by simp)
  obtain ⟨h1, h2, h3, h4⟩ := scale_led o hx hd hk
  obtain ⟨h5, h6⟩ := mul_eqv o h1.1 p
  exact h.insert h1 h2 hnew h3 h4 h5 (pmul_dep o h1.1 h1.2.1) h6
theorem inv_ex {p a : Int} (hp : p = 2 ∨ p = 3 ∨ p = 5 ∨ p = 7) (h1 : 0 < a) (h2 : a < p) : ∃ x, 1 ≤ x ∧ x < p ∧ a * x % p = 1 := by
  rcases hp with rfl | rfl | rfl | rfl
  · exact ⟨1, by omega, by omega, by have : a = 1 := by omega
                                     subst this; decide⟩
  · obtain rfl | rfl : a = 1 ∨ a = 2 := by omega
    · exact ⟨1, by decide, by decide, by decide⟩
    · exact ⟨2, by decide, by decide, by decide⟩
  · obtain rfl | rfl | rfl | rfl : a = 1 ∨ a = 2 ∨ a = 3 ∨ a = 4 := by omega
    · exact ⟨1, by decide, by decide, by decide⟩
    · exact ⟨3, by decide, by decide, by decide⟩
    · exact ⟨2, by decide, by decide, by decide⟩
    · exact ⟨4, by decide, by decide, by decide⟩
  · obtain rfl | rfl | rfl | rfl | rfl | rfl : a = 1 ∨ a = 2 ∨ a = 3 ∨ a = 4 ∨ a = 5 ∨ a = 6 := by omega
    · exact ⟨1, by decide, by decide, by decide⟩
    · exact ⟨4, by decide, by decide, by decide⟩
    · exact ⟨5, by decide, by decide, by decide⟩
    · exact ⟨2, by decide, by decide, by decide⟩
    · exact ⟨3, by decide, by decide, by decide⟩
    · exact ⟨6, by decide, by decide, by decide⟩
end Go.Lie
namespace Go.Proofs
open Go.Ab Go.Lie
variable {σ : PHeap} {K : PV → PHeap → Prop} {p p' : Int} {n : Nat} {W : List (List Int)} {B : List (List (List Int))} {vP vB vL vU : PV}
theorem l01Inv_ok {a p : Int} (hp : isP p) (ha : 0 < a ∧ a < p) (hk : ∀ x, 1 ≤ x → x < p → a * x % p = 1 → K (.int .i64 x) σ) : PCalls Tryz.prog 235 [.int .i64 a, .int .i64 p] σ K := by
  have hpb := hp.bd
  obtain ⟨y, hy1, hy2, hy3⟩ := inv_ex hp ha.1 ha.2
  refine pcalls_of_vp mix Tryz.func235 cf235 rfl ?_
  dsimp only [if235, qI, eI, nI, qD, eD]
  simp only [pwA, if_true, if_false, eq_self, nm_eq, reduceCtorEq, ↓reduceIte, nQ10, nQ7, nQ11, nQ12, nQ16, nQ17, nQ18, iQ2, iQ3, iQ4, iQ5, iQ6, lQ19, iQ7, lQ20]
  refine vp_loop (fun m vs h' => ∃ i : Int, 1 ≤ i ∧ i ≤ y ∧ m = (y - i).toNat ∧ vs = [.int .i64 a, .int .i64 p, .int .i64 i] ∧ σ = h') (y - 1).toNat ?_ ?_
  · exact ⟨1, by omega, hy1, rfl, rfl, rfl⟩
  rintro m vs h' ⟨i, hi, hiy, rfl, rfl, rfl⟩
  have hip : i < p := by omega
  simp only [pwA, if_true, if_false, eq_self, nm_eq, reduceCtorEq, ↓reduceIte, nQ10, nQ7, nQ11, nQ12, nQ16, nQ17, nQ18, iQ2, iQ3, iQ4, iQ5, iQ6, lQ19, iQ7, lQ20, hip]
  refine l01Mod_ok (by omega) (by omega) ?_
  have hap : a % p = a := Int.emod_eq_of_lt (by omega) (by omega)
  have hm : a * i ≤ 49 ∧ 0 ≤ a * i := by
    have h1 := Int.mul_le_mul_of_nonneg_left (show i ≤ 7 by omega) (show 0 ≤ a by omega)
    have h2 := Int.mul_nonneg (show 0 ≤ a by omega) (show 0 ≤ i by omega)
    omega
  have hp0 : p ≠ 0 := by omega
  rw [hap]
  simp only [pwA, if_true, if_false, eq_self, nm_eq, reduceCtorEq, ↓reduceIte, nQ10, nQ7, nQ11, nQ12, nQ16, nQ17, nQ18, iQ2, iQ3, iQ4, iQ5, iQ6, lQ19, iQ7, lQ20, wrap64 (n := a * i) (by omega) (by omega), hp0]
  have e : (a * i).tmod p = a * i % p := Int.tmod_eq_emod_of_nonneg hm.2
  rw [e]
  by_cases h1 : a * i % p = 1
  · simp only [pwA, if_true, if_false, eq_self, nm_eq, reduceCtorEq, ↓reduceIte, nQ10, nQ7, nQ11, nQ12, nQ16, nQ17, nQ18, iQ2, iQ3, iQ4, iQ5, iQ6, lQ19, iQ7, lQ20, h1]
    exact hk i hi hip h1
  · have hne : i ≠ y := fun e => h1 (by rw [e]; exact hy3)
    simp only [pwA, if_true, if_false, eq_self, nm_eq, reduceCtorEq, ↓reduceIte, nQ10, nQ7, nQ11, nQ12, nQ16, nQ17, nQ18, iQ2, iQ3, iQ4, iQ5, iQ6, lQ19, iQ7, lQ20, h1, wrap64 (n := i + 1) (by omega) (by omega)]
    exact ⟨_, by omega, i + 1, by omega, by omega, rfl, rfl⟩
theorem l04Pivot_ok {l : Nat} {w : Bool} {a : AV} {xs : List Int} (hl : l = xs.length) (hb : xs.length ≤ 1048576) (hk : K (.int .i64 (dep xs)) σ) : PCalls Tryz.prog 279 [.fz w a l (pis xs)] σ K := by
  subst hl
  refine pcalls_of_vp mix Tryz.func279 cf279 rfl ?_
  dsimp only [if279, qI, eI, nI, qD, eD]
  simp only [pwA, if_true, if_false, eq_self, nm_eq, reduceCtorEq, ↓reduceIte, nQ10, nQ7, nQ11, nQ12, nQ16, nQ17, nQ18, iQ2, iQ3, iQ4, iQ5, iQ6, lQ19, iQ7, lQ20]
  refine vp_loop (fun m vs h' => ∃ i : Nat, i ≤ dep xs ∧ m = dep xs - i ∧ vs = [.fz w a xs.length (pis xs), .int .i64 i] ∧ σ = h') (dep xs) ?_ ?_
  · exact ⟨0, by omega, by omega, rfl, rfl⟩
  rintro m vs h' ⟨i, hi, rfl, rfl, rfl⟩
  have hdl := dep_le xs
  by_cases hlt : i < xs.length
  · simp only [pwA, if_true, if_false, eq_self, nm_eq, reduceCtorEq, ↓reduceIte, nQ10, nQ7, nQ11, nQ12, nQ16, nQ17, nQ18, iQ2, iQ3, iQ4, iQ5, iQ6, lQ19, iQ7, lQ20, hlt, pis_get, gi hlt]
    refine iteI (fun h0 => ?_) fun h0 => ?_
    · have hid : i < dep xs := by
        rcases Nat.lt_or_ge i (dep xs) with x | x
        · exact x
        · have : i = dep xs := by omega
          subst this
          exact absurd (by rw [at_eq hlt]; exact h0) (dep_ne hlt)
      simp only [pwA, if_true, if_false, eq_self, nm_eq, reduceCtorEq, ↓reduceIte, nQ10, nQ7, nQ11, nQ12, nQ16, nQ17, nQ18, iQ2, iQ3, iQ4, iQ5, iQ6, lQ19, iQ7, lQ20, wrapS hlt (by omega : xs.length ≤ 4611686018427387904)]
      exact ⟨_, by omega, i + 1, by omega, rfl, rfl⟩
    · have hid : i = dep xs := by
        rcases Nat.lt_or_ge i (dep xs) with x | x
        · exact absurd (by rw [← at_eq hlt]; exact dep_zero x) h0
        · omega
      subst hid
      exact hk
  · have hid : i = dep xs := by omega
    subst hid
    simp only [pwA, if_true, if_false, eq_self, nm_eq, reduceCtorEq, ↓reduceIte, nQ10, nQ7, nQ11, nQ12, nQ16, nQ17, nQ18, iQ2, iQ3, iQ4, iQ5, iQ6, lQ19, iQ7, lQ20, hlt]
    exact hk
theorem l32Depth_ok {l : Nat} {w : Bool} {a : AV} {xs : List Int} (hl : l = xs.length) (hb : xs.length ≤ 1048576) (hk : K (.int .i64 (dep xs)) σ) : PCalls Tryz.prog 236 [.fz w a l (pis xs)] σ K := by
  refine pcalls_of_vp mix Tryz.func236 cf236 rfl ?_
  dsimp only [if236, qI, eI, nI, qD, eD]
  simp only [pwA, if_true, if_false, eq_self, nm_eq, reduceCtorEq, ↓reduceIte, nQ10, nQ7, nQ11, nQ12, nQ16, nQ17, nQ18, iQ2, iQ3, iQ4, iQ5, iQ6, lQ19, iQ7, lQ20]
  refine l04Pivot_ok hl hb ?_
  simp only [pwA, if_true, if_false, eq_self, nm_eq, reduceCtorEq, ↓reduceIte, nQ10, nQ7, nQ11, nQ12, nQ16, nQ17, nQ18, iQ2, iQ3, iQ4, iQ5, iQ6, lQ19, iQ7, lQ20]
  exact hk
theorem l01Own_fz {l : Nat} {w : Bool} {a : AV} {xs : List Int} (hl : l = xs.length) (hb : xs.length ≤ 4294967296) (hk : ∀ v, K (.fz true v xs.length (pis xs)) σ) : PCalls Tryz.prog 118 [.fz w a l (pis xs)] σ K :=
  PCalls.fz (fun K' => l01Own_ok hl hb) (pis_bel _ _) fun o cap => hk _
theorem redL_snoc (u : List (List Int)) (v x : List Int) : redL p W (u ++ [v]) x = red1 p W (redL p W u x) v := by
  induction u generalizing x with
  | nil => rfl
  | cons w u ih => rw [List.cons_append, redL, ih, redL]
theorem l32Reduce_ok {l : Nat} {w : Bool} {a : AV} {u : List (List Int)} {x : List Int} (hR : IsR vP vB W B) (o : OkW p n W) (hL : FII vU u) (hu : ∀ v ∈ u, El p n v ∧ dep v < n) (hul : u.length ≤ 1048576) (hx : El p n x) (hl : l = x.length)
    (hk : ∀ v, K (.fz true v n (pis (redL p W u x))) σ) : PCalls Tryz.prog 228 [.agg [.int .i64 p, vP, vB], vU, .fz w a l (pis x)] σ K := by
  have h1 := hR.P.one
  have h2 := hR.B.one
  have hn6 := o.le
  have hp := o.pr
  unfold okp at hp
  obtain ⟨wl, al, rl, rfl, hrl⟩ := hL
  refine PCalls.gh ?_
  refine pcalls_of_vp mix Tryz.func228 cf228 rfl ?_
  dsimp only [if228, qI, eI, nI, qD, eD]
  simp only [pwA, if_true, if_false, eq_self, nm_eq, reduceCtorEq, ↓reduceIte, nQ10, nQ7, nQ11, nQ12, nQ16, nQ17, nQ18, iQ2, iQ3, iQ4, iQ5, iQ6, lQ19, iQ7, lQ20, h1, h2]
  refine l01Own_fz hl (by rw [hx.1]; omega) fun v0 => ?_
  rw [hx.1]
  simp only [pwA, if_true, if_false, eq_self, nm_eq, reduceCtorEq, ↓reduceIte, nQ10, nQ7, nQ11, nQ12, nQ16, nQ17, nQ18, iQ2, iQ3, iQ4, iQ5, iQ6, lQ19, iQ7, lQ20]
  refine vp_loop (fun m vs h' => ∃ i : Nat, i ≤ u.length ∧ m = u.length - i ∧ ∃ v, vs = [.fz wl al u.length rl, .ptr σ.next 0, .fz true v n (pis (redL p W (u.take i) x)), .int .i64 i] ∧ σ.new [.int .i64 p, vP, vB] = h') u.length ?_ ?_
  · exact ⟨0, by omega, by omega, v0, by rw [List.take_zero, redL]; rfl, rfl⟩
  rintro m vs h' ⟨i, hi, rfl, v, rfl, rfl⟩
  simp only [pwA, if_true, if_false, eq_self, nm_eq, reduceCtorEq, ↓reduceIte, nQ10, nQ7, nQ11, nQ12, nQ16, nQ17, nQ18, iQ2, iQ3, iQ4, iQ5, iQ6, lQ19, iQ7, lQ20]
  have hel : El p n (redL p W (u.take i) x) := redL_el o (fun v hv => (hu v (List.mem_of_mem_take hv)).1) hx
  refine iteI (fun hlt => ?_) fun hge => ?_
  · obtain ⟨w4, a4, hr⟩ := hrl.rowI hlt
    have hui := hu _ (List.getElem_mem hlt)
    have hstep : redL p W (u.take (i + 1)) x = red1 p W (redL p W (u.take i) x) u[i] := by rw [List.take_succ_eq_append_getElem hlt, redL_snoc]
    generalize hy : redL p W (u.take i) x = y at *
    have hdl : dep u[i] < y.length := by rw [hel.1]; exact hui.2
    have hya := hel.at o.pr (dep u[i])
    rw [at_eq hdl] at hya
    simp only [pwA, if_true, if_false, eq_self, nm_eq, reduceCtorEq, ↓reduceIte, nQ10, nQ7, nQ11, nQ12, nQ16, nQ17, nQ18, iQ2, iQ3, iQ4, iQ5, iQ6, lQ19, iQ7, lQ20, hlt, hr]
    refine l32Depth_ok rfl (by rw [hui.1.1]; omega) ?_
    have hneg : IntKind.i64.wrap (0 - y[dep u[i]]) = -y[dep u[i]] := by rw [wrap64 (by omega) (by omega)]; omega
    simp only [pwA, if_true, if_false, eq_self, nm_eq, reduceCtorEq, ↓reduceIte, nQ10, nQ7, nQ11, nQ12, nQ16, nQ17, nQ18, iQ2, iQ3, iQ4, iQ5, iQ6, lQ19, iQ7, lQ20, hlt, hr, hui.2, pis_get, gi hdl, hneg]
    refine l31Mix_el hR o hel hui.1 hel.1.symm rfl (by decide) (by omega) fun v' => ?_
    simp only [pwA, if_true, if_false, eq_self, nm_eq, reduceCtorEq, ↓reduceIte, nQ10, nQ7, nQ11, nQ12, nQ16, nQ17, nQ18, iQ2, iQ3, iQ4, iQ5, iQ6, lQ19, iQ7, lQ20, wrapS hlt (by omega : u.length ≤ 4611686018427387904)]
    refine ⟨_, by omega, i + 1, by omega, rfl, v', ?_⟩
    rw [hstep, red1, at_eq hdl]
  · have hie : i = u.length := by omega
    subst hie
    rw [List.take_length]
    exact Gh.fin0 (keep_new σ _) trivial (hk v)
theorem insD_take : ∀ (u : List (List Int)) (x : List Int) (k : Nat), k ≤ u.length → (∀ j (h : j < u.length), j < k → dep u[j] < dep x) → (∀ h : k < u.length, ¬ dep u[k] < dep x) → insD u x = u.take k ++ [x] ++ u.drop k
  | [], x, k, hk, _, _ => by
    have : k = 0 := by simpa using hk
    subst this; rfl
  | v :: u, x, 0, _, _, h2 => by
    have := h2 (by simp)
    simp only [List.getElem_cons_zero] at this
    rw [insD, if_neg this]; rfl
  | v :: u, x, k + 1, hk, h1, h2 => by
    have := h1 0 (by simp) (by omega)
    simp only [List.getElem_cons_zero] at this
    rw [insD, if_pos this, insD_take u x k (by simpa using hk) (fun j h hj => by have := h1 (j + 1) (by simpa using h) (by omega); simpa using this) (fun h => by have := h2 (by simpa using h); simpa using this)]
    rfl
theorem l32Insert_ok {l : Nat} {w : Bool} {a : AV} {u : List (List Int)} {x : List Int} (hL : FII vU u) (hu : ∀ v ∈ u, v.length ≤ 1048576) (hul : u.length ≤ 1048576) (hxl : x.length ≤ 1048576) (hl : l = x.length)
    (hk : ∀ v, FII v (insD u x) → K v σ) : PCalls Tryz.prog 237 [vU, .fz w a l (pis x)] σ K := by
  subst hl
  obtain ⟨wl, al, rl, rfl, hrl⟩ := hL
  refine PCalls.gh ?_
  refine pcalls_of_vp mix Tryz.func237 cf237 rfl ?_
  dsimp only [if237, qI, eI, nI, qD, eD]
  simp only [pwA, if_true, if_false, eq_self, nm_eq, reduceCtorEq, ↓reduceIte, nQ10, nQ7, nQ11, nQ12, nQ16, nQ17, nQ18, iQ2, iQ3, iQ4, iQ5, iQ6, lQ19, iQ7, lQ20]
  refine vp_loop (fun m vs h' => ∃ i : Nat, i ≤ u.length ∧ m = u.length - i ∧ vs = [.fz wl al u.length rl, .fz w a x.length (pis x), .int .i64 i] ∧ σ = h' ∧ ∀ j (h : j < u.length), j < i → dep u[j] < dep x) u.length ?_ ?_
  · exact ⟨0, by omega, by omega, rfl, rfl, fun j h hj => by omega⟩
  rintro m vs h' ⟨i, hi, rfl, rfl, rfl, hall⟩
  have fin : (∀ h : i < u.length, ¬ dep u[i] < dep x) → insD u x = u.take i ++ [x] ++ u.drop i := insD_take u x i hi hall
  have tail : (∀ h : i < u.length, ¬ dep u[i] < dep x) → ∀ v' h', Keep σ h' → PSl σ.next 1 h' v' (u.length + 1) (rl.take i ++ [PV.fz w a x.length (pis x)] ++ rl.drop i) → Gh σ K v' h' := fun hs v' h' hk' ha => by
    have hall2 : All2 FI (rl.take i ++ [PV.fz w a x.length (pis x)] ++ rl.drop i) (insD u x) := by
      rw [fin hs]
      exact ((hrl.take i).append (All2.nil FI |>.snoc ⟨w, a, rfl⟩)).append (hrl.drop i)
    exact ha.fin hk' (hall2.bI 0) fun o cap => hk _ ⟨true, .sl o 0 (u.length + 1) cap, _, by rw [insD_length], hall2⟩
  have hrll := hrl.1
  have hz' : i ≤ u.length := hi
  have hdrop : (rl.drop i).take (u.length - i) = rl.drop i := List.take_of_length_le (by rw [List.length_drop]; omega)
  by_cases hlt : i < u.length
  · obtain ⟨w4, a4, hr⟩ := hrl.rowI hlt
    simp only [pwA, if_true, if_false, eq_self, nm_eq, reduceCtorEq, ↓reduceIte, nQ10, nQ7, nQ11, nQ12, nQ16, nQ17, nQ18, iQ2, iQ3, iQ4, iQ5, iQ6, lQ19, iQ7, lQ20, hlt, hr]
    refine l32Depth_ok rfl (hu _ (List.getElem_mem hlt)) ?_
    simp only [pwA, if_true, if_false, eq_self, nm_eq, reduceCtorEq, ↓reduceIte, nQ10, nQ7, nQ11, nQ12, nQ16, nQ17, nQ18, iQ2, iQ3, iQ4, iQ5, iQ6, lQ19, iQ7, lQ20, hlt, hr]
    refine l32Depth_ok rfl hxl ?_
    simp only [pwA, if_true, if_false, eq_self, nm_eq, reduceCtorEq, ↓reduceIte, nQ10, nQ7, nQ11, nQ12, nQ16, nQ17, nQ18, iQ2, iQ3, iQ4, iQ5, iQ6, lQ19, iQ7, lQ20]
    refine iteI (fun hd => ?_) fun hd => ?_
    · simp only [pwA, if_true, if_false, eq_self, nm_eq, reduceCtorEq, ↓reduceIte, nQ10, nQ7, nQ11, nQ12, nQ16, nQ17, nQ18, iQ2, iQ3, iQ4, iQ5, iQ6, lQ19, iQ7, lQ20, wrapS hlt (by omega : u.length ≤ 4611686018427387904)]
      refine ⟨_, by omega, i + 1, by omega, rfl, rfl, fun j h hj => ?_⟩
      by_cases e : j = i
      · subst e; exact hd
      · exact hall j h (by omega)
    · simp only [pwA, if_true, if_false, eq_self, nm_eq, reduceCtorEq, ↓reduceIte, nQ10, nQ7, nQ11, nQ12, nQ16, nQ17, nQ18, iQ2, iQ3, iQ4, iQ5, iQ6, lQ19, iQ7, lQ20, Int.ofNat_le, hz', Nat.sub_zero]
      refine PSl.cat (bytes := 24) (σb := σ) (n := 0) (cs := []) (keep_new σ _) (PSl.new _ 1 rfl (Nat.le_refl _)) (by rw [List.length_take]; omega) (by omega) (by omega) fun v1 h1 k1 a1 => ?_
      rw [List.nil_append, Nat.zero_add] at a1
      simp only [pwA, if_true, if_false, eq_self, nm_eq, reduceCtorEq, ↓reduceIte, nQ10, nQ7, nQ11, nQ12, nQ16, nQ17, nQ18, iQ2, iQ3, iQ4, iQ5, iQ6, lQ19, iQ7, lQ20]
      refine PSl.push (bytes := 24) k1 a1 (by omega) (by omega) fun v2 h2 k2 a2 => ?_
      simp only [pwA, if_true, if_false, eq_self, nm_eq, reduceCtorEq, ↓reduceIte, nQ10, nQ7, nQ11, nQ12, nQ16, nQ17, nQ18, iQ2, iQ3, iQ4, iQ5, iQ6, lQ19, iQ7, lQ20, Int.ofNat_le, hz', hdrop]
      refine PSl.cat (bytes := 24) k2 a2 (by rw [List.length_drop]; omega) (by omega) (by omega) fun v3 h3 k3 a3 => ?_
      simp only [pwA, if_true, if_false, eq_self, nm_eq, reduceCtorEq, ↓reduceIte, nQ10, nQ7, nQ11, nQ12, nQ16, nQ17, nQ18, iQ2, iQ3, iQ4, iQ5, iQ6, lQ19, iQ7, lQ20]
      refine tail ?_ v3 h3 k3 ?_
      · exact fun _ => hd
      · have : i + 1 + (u.length - i) = u.length + 1 := by omega
        rw [this] at a3
        exact a3
  · simp only [pwA, if_true, if_false, eq_self, nm_eq, reduceCtorEq, ↓reduceIte, nQ10, nQ7, nQ11, nQ12, nQ16, nQ17, nQ18, iQ2, iQ3, iQ4, iQ5, iQ6, lQ19, iQ7, lQ20, hlt]
    simp only [pwA, if_true, if_false, eq_self, nm_eq, reduceCtorEq, ↓reduceIte, nQ10, nQ7, nQ11, nQ12, nQ16, nQ17, nQ18, iQ2, iQ3, iQ4, iQ5, iQ6, lQ19, iQ7, lQ20, hlt, Int.ofNat_le, hz', Nat.sub_zero]
    refine PSl.cat (bytes := 24) (σb := σ) (n := 0) (cs := []) (keep_new σ _) (PSl.new _ 1 rfl (Nat.le_refl _)) (by rw [List.length_take]; omega) (by omega) (by omega) fun v1 h1 k1 a1 => ?_
    rw [List.nil_append, Nat.zero_add] at a1
    simp only [pwA, if_true, if_false, eq_self, nm_eq, reduceCtorEq, ↓reduceIte, nQ10, nQ7, nQ11, nQ12, nQ16, nQ17, nQ18, iQ2, iQ3, iQ4, iQ5, iQ6, lQ19, iQ7, lQ20]
    refine PSl.push (bytes := 24) k1 a1 (by omega) (by omega) fun v2 h2 k2 a2 => ?_
    simp only [pwA, if_true, if_false, eq_self, nm_eq, reduceCtorEq, ↓reduceIte, nQ10, nQ7, nQ11, nQ12, nQ16, nQ17, nQ18, iQ2, iQ3, iQ4, iQ5, iQ6, lQ19, iQ7, lQ20, Int.ofNat_le, hz', hdrop]
    refine PSl.cat (bytes := 24) k2 a2 (by rw [List.length_drop]; omega) (by omega) (by omega) fun v3 h3 k3 a3 => ?_
    simp only [pwA, if_true, if_false, eq_self, nm_eq, reduceCtorEq, ↓reduceIte, nQ10, nQ7, nQ11, nQ12, nQ16, nQ17, nQ18, iQ2, iQ3, iQ4, iQ5, iQ6, lQ19, iQ7, lQ20]
    refine tail ?_ v3 h3 k3 ?_
    · exact fun h => absurd h hlt
    · have : i + 1 + (u.length - i) = u.length + 1 := by omega
      rw [this] at a3
      exact a3
end Go.Proofs
namespace Go.Proofs
open Go.Ab Go.Lie
variable {σ : PHeap} {K : PV → PHeap → Prop} {p p' : Int} {n : Nat} {W : List (List Int)} {B : List (List (List Int))} {vP vB vL vU : PV}
theorem finS_length : ∀ u : List (List Int), (finS p W u).length = u.length
  | [] => rfl
  | v :: t => by simp [finS, finS_length t]
theorem finS_get : ∀ (u : List (List Int)) (k : Nat) (h : k < u.length), (finS p W u)[k]? = some (redL p W (u.drop (k + 1)) u[k])
  | [], k, h => by simp at h
  | v :: t, 0, h => by simp [finS]
  | v :: t, k + 1, h => by
    have := finS_get t k (by simpa using h)
    simp only [finS, List.getElem?_cons_succ, List.drop_succ_cons, List.getElem_cons_succ]
    exact this
theorem isZ_at {xs : List Int} (h : isZ xs) (j : Nat) : at_ xs j = 0 := by
  rcases Nat.lt_or_ge j xs.length with x | x
  · rw [at_eq x]; exact h _ (List.getElem_mem x)
  · exact at_ge x
theorem not_isZ_dep {xs : List Int} (h : ¬ isZ xs) : dep xs < xs.length := by
  rcases Nat.lt_or_ge (dep xs) xs.length with x | x
  · exact x
  · exact absurd (dep_full (by have := dep_le xs; omega)) h
theorem led_ne {u : List (List Int)} {x : List Int} (hz : ∀ v ∈ u, at_ x (dep v) = 0) (hx : dep x < x.length) : ∀ v ∈ u, dep v ≠ dep x := fun v hv e => dep_ne hx (by rw [← e]; exact hz v hv)
theorem l32Span_u {gens : List (List Int)} (hR : IsR vP vB W B) (o : OkW p n W) (hp : isP p) (hL : FII vL gens) (he : Els p n gens) (hgl : gens.length ≤ 1048576) (hk : ∀ out rows cap, Canon p n W gens out → All2 FI rows out → full 1 cap out.length → K (.sl σ.next 0 out.length cap) (σ.new rows)) :
    PCalls Tryz.prog 150 [.agg [.int .i64 p, vP, vB], vL] σ K := by
  have h1 := hR.P.one
  have h2 := hR.B.one
  have hn6 := o.le
  have hpb := hp.bd
  have hpk : -1000000000 ≤ p ∧ p ≤ 1000000000 := by omega
  obtain ⟨wl, al, rl, rfl, hrl⟩ := hL
  refine PCalls.gh ?_
  refine pcalls_of_vp mix Tryz.func150 cf150 rfl ?_
  dsimp only [if150, qI, eI, nI, qD, eD]
  simp only [pwA, if_true, if_false, eq_self, nm_eq, reduceCtorEq, ↓reduceIte, nQ10, nQ7, nQ11, nQ12, nQ16, nQ17, nQ18, iQ2, iQ3, iQ4, iQ5, iQ6, lQ19, iQ7, lQ20, h1, h2]
  generalize hH : ((σ.new [.int .i64 p, vP, vB]).new []).kill (σ.next + 1) = H
  have hHn : H.next = σ.next + 2 := by rw [← hH]; simp only [pwA, if_true, if_false, eq_self, nm_eq, reduceCtorEq, ↓reduceIte, nQ10, nQ7, nQ11, nQ12, nQ16, nQ17, nQ18, iQ2, iQ3, iQ4, iQ5, iQ6, lQ19, iQ7, lQ20]
  have hHk : Keep σ H := by rw [← hH]; exact ((keep_new σ _).new _).kill (by omega)
  have hb3 : H.rd σ.next 0 3 = some [.int .i64 p, vP, vB] := by rw [← hH]; simp only [pwA, if_true, if_false, eq_self, nm_eq, reduceCtorEq, ↓reduceIte, nQ10, nQ7, nQ11, nQ12, nQ16, nQ17, nQ18, iQ2, iQ3, iQ4, iQ5, iQ6, lQ19, iQ7, lQ20]
  have hb1 : H.rd1 σ.next 0 = some (.int .i64 p) := by rw [← hH]; simp only [pwA, if_true, if_false, eq_self, nm_eq, reduceCtorEq, ↓reduceIte, nQ10, nQ7, nQ11, nQ12, nQ16, nQ17, nQ18, iQ2, iQ3, iQ4, iQ5, iQ6, lQ19, iQ7, lQ20]
  have elU : ∀ {u Q : List (List Int)}, Grow p n W gens u Q → (∀ v ∈ u, El p n v ∧ dep v < n) ∧ u.length ≤ n := fun g => ⟨fun v hv => ⟨(g.led v hv).1, (g.led v hv).2.1⟩, asc_length (fun v hv => (g.led v hv).2.1) g.asc⟩
  refine vp_loopG (fun m vs h' => ∃ i : Nat, i ≤ gens.length ∧ m = gens.length - i ∧ ∃ vU u, vs = [.fz wl al gens.length rl, .ptr σ.next 0, vU, .int .i64 i] ∧ H = h' ∧ FII vU u ∧ Grow p n W gens u (gens.drop i)) gens.length ?_ ?_
  · refine .fz (σ.next + 1) [] (by simp only [pwA, if_true, if_false, eq_self, nm_eq, reduceCtorEq, ↓reduceIte, nQ10, nQ7, nQ11, nQ12, nQ16, nQ17, nQ18, iQ2, iQ3, iQ4, iQ5, iQ6, lQ19, iQ7, lQ20]) trivial fun o1 => .here ?_
    rw [hH]
    refine ⟨0, by omega, by omega, .fz true (.sl o1 0 0 (.known 0)) 0 [], [], ?_, rfl, ⟨_, _, _, rfl, All2.nil _⟩, by rw [List.drop_zero]; exact Grow.start he⟩
    simp only [pwA, if_true, if_false, eq_self, nm_eq, reduceCtorEq, ↓reduceIte, nQ10, nQ7, nQ11, nQ12, nQ16, nQ17, nQ18, iQ2, iQ3, iQ4, iQ5, iQ6, lQ19, iQ7, lQ20]
    simp only [sbs, sb, capOK, Nat.le_refl, decide_true, and_self, if_true]
    rfl
  rintro m vs h' ⟨i, hi, rfl, vU, u, rfl, rfl, hU, hg⟩
  simp only [pwA, if_true, if_false, eq_self, nm_eq, reduceCtorEq, ↓reduceIte, nQ10, nQ7, nQ11, nQ12, nQ16, nQ17, nQ18, iQ2, iQ3, iQ4, iQ5, iQ6, lQ19, iQ7, lQ20]
  refine iteI (fun hlt => ?_) fun hge => ?_
  · obtain ⟨w4, a4, hr⟩ := hrl.rowI hlt
    have hge := he _ (List.getElem_mem hlt)
    have hd : gens.drop i = gens[i] :: gens.drop (i + 1) := List.drop_eq_getElem_cons hlt
    rw [hd] at hg
    simp only [pwA, if_true, if_false, eq_self, nm_eq, reduceCtorEq, ↓reduceIte, nQ10, nQ7, nQ11, nQ12, nQ16, nQ17, nQ18, iQ2, iQ3, iQ4, iQ5, iQ6, lQ19, iQ7, lQ20, hlt, hr, hb3, hb1]
    refine l32Reduce_ok hR o hU (elU hg).1 (by have := (elU hg).2; omega) hge rfl fun v0 => ?_
    simp only [pwA, if_true, if_false, eq_self, nm_eq, reduceCtorEq, ↓reduceIte, nQ10, nQ7, nQ11, nQ12, nQ16, nQ17, nQ18, iQ2, iQ3, iQ4, iQ5, iQ6, lQ19, iQ7, lQ20]
    refine vp_loop (fun m vs h' => ∃ vU u vX x, m = n - u.length ∧ vs = [.fz wl al gens.length rl, .ptr σ.next 0, vU, .int .i64 i, .fz true vX n (pis x)] ∧ H = h' ∧ FII vU u ∧ Grow p n W gens u (x :: gens.drop (i + 1)) ∧ ∀ v ∈ u, at_ x (dep v) = 0) (n - u.length) ?_ ?_
    · exact ⟨vU, u, v0, _, rfl, rfl, rfl, hU, hg.reduce o, (redL_at o hg.led hg.asc hge).1⟩
    rintro m vs h' ⟨vU, u, vX, x, rfl, rfl, rfl, hU, hg, hz⟩
    have hx := hg.els x (by simp)
    have hxl := hx.1
    simp only [pwA, if_true, if_false, eq_self, nm_eq, reduceCtorEq, ↓reduceIte, nQ10, nQ7, nQ11, nQ12, nQ16, nQ17, nQ18, iQ2, iQ3, iQ4, iQ5, iQ6, lQ19, iQ7, lQ20]
    refine l01Zero_ok hxl.symm (by omega) ?_
    by_cases h0 : isZ x
    · simp only [pwA, if_true, if_false, eq_self, nm_eq, reduceCtorEq, ↓reduceIte, nQ10, nQ7, nQ11, nQ12, nQ16, nQ17, nQ18, iQ2, iQ3, iQ4, iQ5, iQ6, lQ19, iQ7, lQ20, h0, wrapS hlt (by omega : gens.length ≤ 4611686018427387904)]
      exact ⟨_, by omega, .here ⟨i + 1, by omega, rfl, vU, u, rfl, rfl, hU, hg.drop (isZ_at h0)⟩⟩
    · have hdx : dep x < x.length := not_isZ_dep h0
      have hdn : dep x < n := by omega
      have hxd := hx.at0 o (dep x)
      have hne := dep_ne hdx
      rw [at_eq hdx] at hxd hne
      simp only [pwA, if_true, if_false, eq_self, nm_eq, reduceCtorEq, ↓reduceIte, nQ10, nQ7, nQ11, nQ12, nQ16, nQ17, nQ18, iQ2, iQ3, iQ4, iQ5, iQ6, lQ19, iQ7, lQ20, h0, hb3, hb1]
      refine l32Depth_ok hxl.symm (by omega) ?_
      simp only [pwA, if_true, if_false, eq_self, nm_eq, reduceCtorEq, ↓reduceIte, nQ10, nQ7, nQ11, nQ12, nQ16, nQ17, nQ18, iQ2, iQ3, iQ4, iQ5, iQ6, lQ19, iQ7, lQ20, hdn, hdx, gi hdx, pis_get, hb3, hb1]
      refine l01Inv_ok hp (by omega) fun k hk1 hk2 hk3 => ?_
      simp only [pwA, if_true, if_false, eq_self, nm_eq, reduceCtorEq, ↓reduceIte, nQ10, nQ7, nQ11, nQ12, nQ16, nQ17, nQ18, iQ2, iQ3, iQ4, iQ5, iQ6, lQ19, iQ7, lQ20, hdn, hdx, gi hdx, pis_get, hb3, hb1]
      refine l31Mix_el hR o hx hx hxl.symm hxl.symm (by omega) (by decide) fun v1 => ?_
      have hT := hg.take o hdn (led_ne hz hdx) (k := k) (by rw [at_eq hdx]; exact hk3)
      obtain ⟨y1, y2, y3, y4⟩ := scale_led o hx hdn (k := k) (by rw [at_eq hdx]; exact hk3)
      generalize norm p W (lmix k x 0 x) = y at *
      simp only [pwA, if_true, if_false, eq_self, nm_eq, reduceCtorEq, ↓reduceIte, nQ10, nQ7, nQ11, nQ12, nQ16, nQ17, nQ18, iQ2, iQ3, iQ4, iQ5, iQ6, lQ19, iQ7, lQ20]
      refine l32Insert_ok hU (fun v hv => by rw [((elU hg).1 v hv).1.1]; omega) (by have := (elU hg).2; omega) (by rw [y1.1.1]; omega) y1.1.1.symm fun vU' hU' => ?_
      simp only [pwA, if_true, if_false, eq_self, nm_eq, reduceCtorEq, ↓reduceIte, nQ10, nQ7, nQ11, nQ12, nQ16, nQ17, nQ18, iQ2, iQ3, iQ4, iQ5, iQ6, lQ19, iQ7, lQ20, hb3, hb1]
      refine l31Mix_el hR o y1.1 y1.1 y1.1.1.symm y1.1.1.symm hpk (by decide) fun v2 => ?_
      obtain ⟨z1, z2⟩ := mul_eqv o y1.1 p
      generalize norm p W (lmix p y 0 y) = z at *
      simp only [pwA, if_true, if_false, eq_self, nm_eq, reduceCtorEq, ↓reduceIte, nQ10, nQ7, nQ11, nQ12, nQ16, nQ17, nQ18, iQ2, iQ3, iQ4, iQ5, iQ6, lQ19, iQ7, lQ20, hb3, hb1]
      refine l32Reduce_ok hR o hU' (elU hT).1 (by have := (elU hT).2; omega) z1 z1.1.symm fun v3 => ?_
      simp only [pwA, if_true, if_false, eq_self, nm_eq, reduceCtorEq, ↓reduceIte, nQ10, nQ7, nQ11, nQ12, nQ16, nQ17, nQ18, iQ2, iQ3, iQ4, iQ5, iQ6, lQ19, iQ7, lQ20]
      have hlen := (elU hT).2
      rw [insD_length] at hlen
      exact ⟨_, by rw [insD_length]; omega, vU', insD u y, v3, _, rfl, rfl, hU', hT.reduce o, (redL_at o hT.led hT.asc z1).1⟩
  · have hie : i = gens.length := by omega
    subst hie
    rw [List.drop_length] at hg
    have hbase := hg.base
    have hlu := (elU hg).2
    obtain ⟨hcan, _⟩ := finS_ok o hbase
    obtain ⟨wu, au, ru, rfl, hru⟩ := hU
    have hrul := hru.1
    refine vp_loop (fun m vs h' => ∃ k : Nat, k ≤ u.length ∧ m = u.length - k ∧ ∃ vO rows, vs = [.ptr σ.next 0, .fz wu au u.length ru, vO, .int .i64 k] ∧ Keep H h' ∧ PSl H.next 1 h' vO k rows ∧ All2 FI rows ((finS p W u).take k)) u.length ?_ ?_
    · exact ⟨0, by omega, by omega, _, [], rfl, keep_new H _, PSl.new _ 1 rfl (Nat.le_refl _), by simpa using All2.nil _⟩
    rintro m vs h' ⟨k, hk', rfl, vO, rows, rfl, hkp, ha, hrows⟩
    simp only [pwA, if_true, if_false, eq_self, nm_eq, reduceCtorEq, ↓reduceIte, nQ10, nQ7, nQ11, nQ12, nQ16, nQ17, nQ18, iQ2, iQ3, iQ4, iQ5, iQ6, lQ19, iQ7, lQ20]
    refine iteI (fun hlt => ?_) fun hge => ?_
    · obtain ⟨w5, a5, hrk⟩ := hru.rowI hlt
      have hle : k + 1 ≤ u.length := hlt
      have hdrop : (ru.drop (k + 1)).take (u.length - (k + 1)) = ru.drop (k + 1) := List.take_of_length_le (by rw [List.length_drop]; omega)
      have hb3' : h'.rd σ.next 0 3 = some [.int .i64 p, vP, vB] := by rw [hkp.rd (by omega)]; exact hb3
      simp only [pwA, if_true, if_false, eq_self, nm_eq, reduceCtorEq, ↓reduceIte, nQ10, nQ7, nQ11, nQ12, nQ16, nQ17, nQ18, iQ2, iQ3, iQ4, iQ5, iQ6, lQ19, iQ7, lQ20, hlt, hrk, hb3', hle, hdrop, wrapS hlt (by omega : u.length ≤ 4611686018427387904)]
      refine l32Reduce_ok hR o (u := u.drop (k + 1)) ⟨false, pslA 1 au (k + 1) u.length, _, by rw [List.length_drop], hru.drop _⟩ (fun v hv => (elU hg).1 v (List.mem_of_mem_drop hv)) (by rw [List.length_drop]; omega) (hbase.led _ (List.getElem_mem hlt)).1 rfl fun v1 => ?_
      simp only [pwA, if_true, if_false, eq_self, nm_eq, reduceCtorEq, ↓reduceIte, nQ10, nQ7, nQ11, nQ12, nQ16, nQ17, nQ18, iQ2, iQ3, iQ4, iQ5, iQ6, lQ19, iQ7, lQ20]
      refine PSl.push (bytes := 24) hkp ha (by omega) (by omega) fun vO' h2 k2 a2 => ?_
      simp only [pwA, if_true, if_false, eq_self, nm_eq, reduceCtorEq, ↓reduceIte, nQ10, nQ7, nQ11, nQ12, nQ16, nQ17, nQ18, iQ2, iQ3, iQ4, iQ5, iQ6, lQ19, iQ7, lQ20, wrapS hlt (by omega : u.length ≤ 4611686018427387904)]
      refine ⟨_, by omega, k + 1, by omega, rfl, vO', _, rfl, k2, a2, ?_⟩
      have hg2 := finS_get (p := p) (W := W) u k hlt
      have hl2 : k < (finS p W u).length := by rw [finS_length]; exact hlt
      rw [List.take_succ_eq_append_getElem hl2]
      rw [List.getElem?_eq_getElem hl2] at hg2
      rw [Option.some.inj hg2]
      have hrl2 := (redL_el o (u := u.drop (k + 1)) (fun v hv => ((elU hg).1 v (List.mem_of_mem_drop hv)).1) (hbase.led _ (List.getElem_mem hlt)).1).1
      exact hrows.snoc ⟨true, v1, by rw [hrl2]⟩
    · have hie : k = u.length := by omega
      subst hie
      rw [List.take_of_length_le (by rw [finS_length]; exact Nat.le_refl _)] at hrows
      obtain ⟨s, cap, rfl, hc, q2, q3, q4, q5⟩ := ha
      have hkk := hk (finS p W u) rows cap (hg.done hcan) hrows (by rw [finS_length]; exact hc)
      rw [finS_length] at hkk
      exact Gh.finS (hHk.trans hkp) q2 (by omega) (hrows.bI _) hkk
theorem l32Span_ok {gens : List (List Int)} (hR : IsR vP vB W B) (o : OkW p n W) (hp : isP p) (hL : FII vL gens) (he : Els p n gens) (hgl : gens.length ≤ 1048576) (hk : ∀ v out, Canon p n W gens out → FII v out → K v σ) :
    PCalls Tryz.prog 150 [.agg [.int .i64 p, vP, vB], vL] σ K := by
  refine PCalls.gh (l32Span_u hR o hp hL he hgl fun out rows cap hc hr hcap => ?_)
  exact Gh.finF (s := σ.next) (keep_new σ _) (by rw [pobj_new, if_pos rfl]) (Nat.le_refl _) (hr.bI 0) hcap.ok fun o1 => hk _ out hc ⟨true, .sl o1 0 out.length cap, rows, rfl, hr⟩
end Go.Proofs
namespace Go.Proofs
open Go.Ab Go.Lie
variable {σ : PHeap} {K : PV → PHeap → Prop} {p p' : Int} {n : Nat} {W : List (List Int)} {B : List (List (List Int))} {vP vB vL vU : PV} {s : Nat}
def euc (p a : Int) : Nat → Int × Int × Int × Int
  | 0 => (p, a, 0, 1)
  | k + 1 => let t := euc p a k
    if t.2.1 = 0 then t else (t.2.1, t.1 - t.1.tdiv t.2.1 * t.2.1, t.2.2.2, t.2.2.1 - t.1.tdiv t.2.1 * t.2.2.2)
def eucOK (p a : Int) (k : Nat) : Bool :=
  let t := euc p a k
  decide (-7 ≤ t.1 ∧ t.1 ≤ 7 ∧ -7 ≤ t.2.1 ∧ t.2.1 ≤ 7 ∧ -7 ≤ t.2.2.1 ∧ t.2.2.1 ≤ 7 ∧ -7 ≤ t.2.2.2 ∧ t.2.2.2 ≤ 7 ∧ -7 ≤ t.1.tdiv t.2.1 ∧ t.1.tdiv t.2.1 ≤ 7 ∧ -49 ≤ t.1.tdiv t.2.1 * t.2.1 ∧ t.1.tdiv t.2.1 * t.2.1 ≤ 49 ∧ -49 ≤ t.1.tdiv t.2.1 * t.2.2.2 ∧ t.1.tdiv t.2.1 * t.2.2.2 ≤ 49 ∧ (k = 8 → t.2.1 = 0) ∧ (t.2.1 = 0 → a * (t.2.2.1 % p) % p = 1 % p))
theorem euc_all : ∀ p ∈ [2, 3, 5, 7], ∀ a ∈ [1, 2, 3, 4, 5, 6], (a : Int) < p → ∀ k ∈ [0, 1, 2, 3, 4, 5, 6, 7, 8], eucOK p a k = true := by decide +kernel
theorem euc_ok {a : Int} (hp : isP p) (ha : 0 < a ∧ a < p) {k : Nat} (hk : k ≤ 8) : eucOK p a k = true := by
  have hpb := hp.bd
  refine euc_all p ?_ a ?_ ha.2 k ?_
  · rcases hp with h | h | h | h <;> simp [h]
  · have : a = 1 ∨ a = 2 ∨ a = 3 ∨ a = 4 ∨ a = 5 ∨ a = 6 := by omega
    rcases this with h | h | h | h | h | h <;> simp [h]
  · have : k = 0 ∨ k = 1 ∨ k = 2 ∨ k = 3 ∨ k = 4 ∨ k = 5 ∨ k = 6 ∨ k = 7 ∨ k = 8 := by omega
    rcases this with h | h | h | h | h | h | h | h | h <;> simp [h]
theorem inverseMod_ok {a : Int} (hp : isP p) (ha : 0 < a ∧ a < p) (hk : ∀ (x : Int) (b : Bool), 0 ≤ x → x < p → a * x % p = 1 → K (.tup [.int .i64 x, .bool b]) σ) : PCalls Tryz.prog 199 [.int .i64 a, .int .i64 p] σ K := by
  have hpb := hp.bd
  refine pcalls_of_vp mix Tryz.func199 cf199 rfl ?_
  dsimp only [if199, qI, eI, nI, qD, eD]
  simp only [pwA, if_true, if_false, eq_self, nm_eq, reduceCtorEq, ↓reduceIte, nQ10, nQ7, nQ11, nQ12, nQ16, nQ17, nQ18, iQ2, iQ3, iQ4, iQ5, iQ6, lQ19, iQ7, lQ20]
  refine vp_loop (fun m vs h' => ∃ k : Nat, k ≤ 8 ∧ m = 8 - k ∧ vs = [.int .i64 p, .int .i64 (euc p a k).1, .int .i64 (euc p a k).2.1, .int .i64 (euc p a k).2.2.1, .int .i64 (euc p a k).2.2.2] ∧ σ = h') 8 ?_ ?_
  · exact ⟨0, by omega, by omega, rfl, rfl⟩
  rintro m vs h' ⟨k, hk8, rfl, rfl, rfl⟩
  have hok := euc_ok hp ha hk8
  unfold eucOK at hok
  have hst : euc p a (k + 1) = if (euc p a k).2.1 = 0 then euc p a k else ((euc p a k).2.1, (euc p a k).1 - (euc p a k).1.tdiv (euc p a k).2.1 * (euc p a k).2.1, (euc p a k).2.2.2, (euc p a k).2.2.1 - (euc p a k).1.tdiv (euc p a k).2.1 * (euc p a k).2.2.2) := rfl
  generalize hT : euc p a k = T at *
  obtain ⟨r, nx, x, y⟩ := T
  dsimp only at hok hst ⊢
  simp only [decide_eq_true_eq] at hok
  obtain ⟨b1, b2, b3, b4, b5, b6, b7, b8, b9, b10, b11, b12, b13, b14, b15, b16⟩ := hok
  by_cases h0 : nx = 0
  · subst h0
    simp only [pwA, if_true, if_false, eq_self, nm_eq, reduceCtorEq, ↓reduceIte, nQ10, nQ7, nQ11, nQ12, nQ16, nQ17, nQ18, iQ2, iQ3, iQ4, iQ5, iQ6, lQ19, iQ7, lQ20]
    refine residue_ok (by omega) (by omega) ?_
    simp only [pwA, if_true, if_false, eq_self, nm_eq, reduceCtorEq, ↓reduceIte, nQ10, nQ7, nQ11, nQ12, nQ16, nQ17, nQ18, iQ2, iQ3, iQ4, iQ5, iQ6, lQ19, iQ7, lQ20]
    refine hk _ _ (Int.emod_nonneg _ (by omega)) (Int.emod_lt_of_pos _ (by omega)) ?_
    rw [b16 rfl]
    exact Int.emod_eq_of_lt (by omega) (by omega)
  · rw [if_neg h0] at hst
    have hk9 : k ≠ 8 := fun e => h0 (b15 e)
    simp only [pwA, if_true, if_false, eq_self, nm_eq, reduceCtorEq, ↓reduceIte, nQ10, nQ7, nQ11, nQ12, nQ16, nQ17, nQ18, iQ2, iQ3, iQ4, iQ5, iQ6, lQ19, iQ7, lQ20, h0, wrap64 (n := r.tdiv nx) (by omega) (by omega), wrap64 (n := r.tdiv nx * nx) (by omega) (by omega), wrap64 (n := r.tdiv nx * y) (by omega) (by omega), wrap64 (n := r - r.tdiv nx * nx) (by omega) (by omega), wrap64 (n := x - r.tdiv nx * y) (by omega) (by omega)]
    refine ⟨_, by omega, k + 1, by omega, rfl, ?_⟩
    rw [hst]
theorem depthOf_ok {l : Nat} {w : Bool} {a : AV} {xs : List Int} (hl : l = xs.length) (hb : xs.length ≤ 1048576) (hk : K (.int .i64 (dep xs)) σ) : PCalls Tryz.prog 214 [.fz w a l (pis xs)] σ K := by
  subst hl
  refine pcalls_of_vp mix Tryz.func214 cf214 rfl ?_
  dsimp only [if214, qI, eI, nI, qD, eD]
  simp only [pwA, if_true, if_false, eq_self, nm_eq, reduceCtorEq, ↓reduceIte, nQ10, nQ7, nQ11, nQ12, nQ16, nQ17, nQ18, iQ2, iQ3, iQ4, iQ5, iQ6, lQ19, iQ7, lQ20]
  refine vp_loop (fun m vs h' => ∃ i : Nat, i ≤ dep xs ∧ m = dep xs - i ∧ vs = [.fz w a xs.length (pis xs), .fz w a xs.length (pis xs), .int .i64 xs.length, .int .i64 i] ∧ σ = h') (dep xs) ?_ ?_
  · exact ⟨0, by omega, by omega, rfl, rfl⟩
  rintro m vs h' ⟨i, hi, rfl, rfl, rfl⟩
  have hdl := dep_le xs
  by_cases hlt : i < xs.length
  · by_cases h0 : xs[i] = 0
    · have hid : i < dep xs := by
        rcases Nat.lt_or_ge i (dep xs) with x | x
        · exact x
        · have : i = dep xs := by omega
          subst this
          exact absurd (by rw [at_eq hlt]; exact h0) (dep_ne hlt)
      simp only [pwA, if_true, if_false, eq_self, nm_eq, reduceCtorEq, ↓reduceIte, nQ10, nQ7, nQ11, nQ12, nQ16, nQ17, nQ18, iQ2, iQ3, iQ4, iQ5, iQ6, lQ19, iQ7, lQ20, hlt, pis_get, gi hlt, h0, wrapS hlt (by omega : xs.length ≤ 4611686018427387904)]
      exact ⟨_, by omega, i + 1, by omega, rfl, rfl⟩
    · have hid : i = dep xs := by
        rcases Nat.lt_or_ge i (dep xs) with x | x
        · exact absurd (by rw [← at_eq hlt]; exact dep_zero x) h0
        · omega
      subst hid
      simp only [pwA, if_true, if_false, eq_self, nm_eq, reduceCtorEq, ↓reduceIte, nQ10, nQ7, nQ11, nQ12, nQ16, nQ17, nQ18, iQ2, iQ3, iQ4, iQ5, iQ6, lQ19, iQ7, lQ20, hlt, pis_get, gi hlt, h0]
      exact hk
  · have hid : i = dep xs := by omega
    subst hid
    simp only [pwA, if_true, if_false, eq_self, nm_eq, reduceCtorEq, ↓reduceIte, nQ10, nQ7, nQ11, nQ12, nQ16, nQ17, nQ18, iQ2, iQ3, iQ4, iQ5, iQ6, lQ19, iQ7, lQ20, hlt]
    have hd : dep xs = xs.length := by omega
    rw [hd] at hk
    exact hk
theorem piv1_ok {x : Int} (hk : K (.bool (!decide (x = 0))) σ) : PCalls Tryz.prog 276 [.int .i64 x] σ K := by
  refine pcalls_of_vp mix Tryz.func276 cf276 rfl ?_
  dsimp only [if276, qI, eI, nI, qD, eD]
  simp only [pwA, if_true, if_false, eq_self, nm_eq, reduceCtorEq, ↓reduceIte, nQ10, nQ7, nQ11, nQ12, nQ16, nQ17, nQ18, iQ2, iQ3, iQ4, iQ5, iQ6, lQ19, iQ7, lQ20]
  exact hk
theorem okF143 : okF Tryz.prog 276 = true := by kernel_rfl
theorem IndexFunc_ok {l : Nat} {w : Bool} {a : AV} {xs : List Int} (hl : l = xs.length) (hb : xs.length ≤ 1048576) (hd : dep xs < xs.length) (hk : K (.int .i64 (dep xs)) σ) :
    PCalls Tryz.prog 275 [.fz w a l (pis xs), .clo 276 [] []] σ K := by
  subst hl
  refine pcalls_of_vp mix Tryz.func275 cf275 rfl ?_
  dsimp only [if275, qI, eI, nI, qD, eD]
  simp only [pwA, if_true, if_false, eq_self, nm_eq, reduceCtorEq, ↓reduceIte, nQ10, nQ7, nQ11, nQ12, nQ16, nQ17, nQ18, iQ2, iQ3, iQ4, iQ5, iQ6, lQ19, iQ7, lQ20]
  refine vp_loop (fun m vs h' => ∃ i : Nat, i ≤ dep xs ∧ m = dep xs - i ∧ vs = [.fz w a xs.length (pis xs), .clo 276 [] [], .int .i64 xs.length, .int .i64 i] ∧ σ = h') (dep xs) ?_ ?_
  · exact ⟨0, by omega, by omega, rfl, rfl⟩
  rintro m vs h' ⟨i, hi, rfl, rfl, rfl⟩
  have hlt : i < xs.length := by omega
  simp only [pwA, if_true, if_false, eq_self, nm_eq, reduceCtorEq, ↓reduceIte, nQ10, nQ7, nQ11, nQ12, nQ16, nQ17, nQ18, iQ2, iQ3, iQ4, iQ5, iQ6, lQ19, iQ7, lQ20, hlt, pis_get, gi hlt]
  refine ⟨okF143, piv1_ok ?_⟩
  by_cases h0 : xs[i] = 0
  · have hid : i < dep xs := by
      rcases Nat.lt_or_ge i (dep xs) with x | x
      · exact x
      · have : i = dep xs := by omega
        subst this
        exact absurd (by rw [at_eq hlt]; exact h0) (dep_ne hlt)
    simp only [pwA, if_true, if_false, eq_self, nm_eq, reduceCtorEq, ↓reduceIte, nQ10, nQ7, nQ11, nQ12, nQ16, nQ17, nQ18, iQ2, iQ3, iQ4, iQ5, iQ6, lQ19, iQ7, lQ20, h0, ne_eq, not_true, decide_false, wrapS hlt (by omega : xs.length ≤ 4611686018427387904)]
    exact ⟨_, by omega, i + 1, by omega, rfl, rfl⟩
  · have hid : i = dep xs := by
      rcases Nat.lt_or_ge i (dep xs) with x | x
      · exact absurd (by rw [← at_eq hlt]; exact dep_zero x) h0
      · omega
    subst hid
    simp only [pwA, if_true, if_false, eq_self, nm_eq, reduceCtorEq, ↓reduceIte, nQ10, nQ7, nQ11, nQ12, nQ16, nQ17, nQ18, iQ2, iQ3, iQ4, iQ5, iQ6, lQ19, iQ7, lQ20, h0, ne_eq, not_false_iff, decide_true]
    exact hk
abbrev deps (u : List (List Int)) : List Int := u.map fun v => (dep v : Int)
theorem pivots_ok {u : List (List Int)} (hL : FII vU u) (hu : ∀ v ∈ u, dep v < v.length ∧ v.length ≤ 1048576) (hul : u.length ≤ 1048576) (hk : ∀ v, K (.fz true v u.length (pis (deps u))) σ) : PCalls Tryz.prog 223 [vU] σ K := by
  obtain ⟨wl, al, rl, rfl, hrl⟩ := hL
  refine PCalls.gh ?_
  refine pcalls_of_vp mix Tryz.func223 cf223 rfl ?_
  dsimp only [if223, qI, eI, nI, qD, eD]
  simp only [pwA, if_true, if_false, eq_self, nm_eq, reduceCtorEq, ↓reduceIte, nQ10, nQ7, nQ11, nQ12, nQ16, nQ17, nQ18, iQ2, iQ3, iQ4, iQ5, iQ6, lQ19, iQ7, lQ20]
  refine vp_loop (fun m vs h' => ∃ (i : Nat) (v : PV), i ≤ u.length ∧ m = u.length - i ∧ vs = [v, .fz wl al u.length rl, .int .i64 u.length, .int .i64 i] ∧ Keep σ h' ∧ PAcc σ.next 1 h' v i (pis (deps (u.take i)))) u.length ?_ ?_
  · exact ⟨0, _, by omega, by omega, rfl, Keep.refl σ, PAcc.nil _ _ _⟩
  rintro m vs h' ⟨i, v, hi, rfl, rfl, hkp, ha⟩
  simp only [pwA, if_true, if_false, eq_self, nm_eq, reduceCtorEq, ↓reduceIte, nQ10, nQ7, nQ11, nQ12, nQ16, nQ17, nQ18, iQ2, iQ3, iQ4, iQ5, iQ6, lQ19, iQ7, lQ20]
  refine iteI (fun hlt => ?_) fun hge => ?_
  · obtain ⟨w4, a4, hr⟩ := hrl.rowI hlt
    have hui := hu _ (List.getElem_mem hlt)
    simp only [pwA, if_true, if_false, eq_self, nm_eq, reduceCtorEq, ↓reduceIte, nQ10, nQ7, nQ11, nQ12, nQ16, nQ17, nQ18, iQ2, iQ3, iQ4, iQ5, iQ6, lQ19, iQ7, lQ20, hlt, hr]
    refine IndexFunc_ok rfl hui.2 hui.1 ?_
    simp only [pwA, if_true, if_false, eq_self, nm_eq, reduceCtorEq, ↓reduceIte, nQ10, nQ7, nQ11, nQ12, nQ16, nQ17, nQ18, iQ2, iQ3, iQ4, iQ5, iQ6, lQ19, iQ7, lQ20]
    refine PAcc.push (bytes := 8) hkp ha (by omega) (by omega) fun v' h2 k2 a2 => ?_
    simp only [pwA, if_true, if_false, eq_self, nm_eq, reduceCtorEq, ↓reduceIte, nQ10, nQ7, nQ11, nQ12, nQ16, nQ17, nQ18, iQ2, iQ3, iQ4, iQ5, iQ6, lQ19, iQ7, lQ20, wrapS hlt (by omega : u.length ≤ 4611686018427387904)]
    refine ⟨_, by omega, i + 1, v', by omega, rfl, rfl, k2, ?_⟩
    have e : pis (deps (u.take (i + 1))) = pis (deps (u.take i)) ++ [.int .i64 (dep u[i])] := by rw [List.take_succ_eq_append_getElem hlt, deps, List.map_append, ← pis_append]; rfl
    rw [e]
    exact a2.acc
  · have hie : i = u.length := by omega
    subst hie
    rw [List.take_length] at ha
    exact ha.fin hkp (pis_bel _ _) hk
theorem add_red (o : OkW p n W) {y v : List Int} (hy : El p n y) (hv : El p n v) (c : Int) : ladd p W y (lmul p W c v) = norm p W (lmix 1 y c v) := by
  have hm : (lmix c v 0 v).length = n := by rw [lmix_length rfl]; exact hv.1
  have hz : El p n (lmul p W c v) := norm_El o hm
  refine norm_congr o (by rw [lmix_length (hy.1.trans hz.1.symm)]; exact hy.1) (by rw [lmix_length (hy.1.trans hv.1.symm)]; exact hy.1) ?_
  have h1 : Eqv p n W (fun j => at_ y j + at_ (lmul p W c v) j) (fun j => at_ y j + at_ (lmix c v 0 v) j) := (Eqv.refl _).add (norm_eqv o hm)
  refine ((Eqv.of_eq fun j => ?_).trans h1).trans (Eqv.of_eq fun j => ?_)
  · rw [lmix_at (hy.1.trans hz.1.symm)]; omega
  · rw [lmix_at (hy.1.trans hv.1.symm), lmix_at rfl]; omega
theorem reduceLie_ok {l : Nat} {w : Bool} {a : AV} {u : List (List Int)} {x : List Int} (hs : PtrR σ s p vP vB) (hP : FII vP W) (o : OkW p n W) (hL : FII vU u) (hu : ∀ v ∈ u, El p n v ∧ dep v < n) (hul : u.length ≤ 1048576) (hx : El p n x) (hl : l = x.length)
    (hk : ∀ v, K (.fz true v n (pis (redL p W u x))) σ) : PCalls Tryz.prog 210 [.ptr s 0, vU, .fz w a l (pis x)] σ K := by
  have hn6 := o.le
  have hp := o.pr
  unfold okp at hp
  refine pcalls_of_vp mix Tryz.func210 cf210 rfl ?_
  dsimp only [if210, qI, eI, nI, qD, eD]
  simp only [pwA, if_true, if_false, eq_self, nm_eq, reduceCtorEq, ↓reduceIte, nQ10, nQ7, nQ11, nQ12, nQ16, nQ17, nQ18, iQ2, iQ3, iQ4, iQ5, iQ6, lQ19, iQ7, lQ20]
  refine PCalls.fzN hx.1 (fun K' => Clone_ok hl (by rw [hx.1]; omega)) fun v0 => ?_
  simp only [pwA, if_true, if_false, eq_self, nm_eq, reduceCtorEq, ↓reduceIte, nQ10, nQ7, nQ11, nQ12, nQ16, nQ17, nQ18, iQ2, iQ3, iQ4, iQ5, iQ6, lQ19, iQ7, lQ20]
  refine pivots_ok hL (fun v hv => ⟨by rw [(hu v hv).1.1]; exact (hu v hv).2, by rw [(hu v hv).1.1]; omega⟩) hul fun vp => ?_
  obtain ⟨wl, al, rl, rfl, hrl⟩ := hL
  simp only [pwA, if_true, if_false, eq_self, nm_eq, reduceCtorEq, ↓reduceIte, nQ10, nQ7, nQ11, nQ12, nQ16, nQ17, nQ18, iQ2, iQ3, iQ4, iQ5, iQ6, lQ19, iQ7, lQ20]
  refine vp_loop (fun m vs h' => ∃ i : Nat, i ≤ u.length ∧ m = u.length - i ∧ ∃ v, vs = [.ptr s 0, .fz wl al u.length rl, .fz true v n (pis (redL p W (u.take i) x)), .fz true vp u.length (pis (deps u)), .int .i64 u.length, .int .i64 i] ∧ σ = h') u.length ?_ ?_
  · exact ⟨0, by omega, by omega, v0, by rw [List.take_zero, redL]; rfl, rfl⟩
  rintro m vs h' ⟨i, hi, rfl, v, rfl, rfl⟩
  simp only [pwA, if_true, if_false, eq_self, nm_eq, reduceCtorEq, ↓reduceIte, nQ10, nQ7, nQ11, nQ12, nQ16, nQ17, nQ18, iQ2, iQ3, iQ4, iQ5, iQ6, lQ19, iQ7, lQ20]
  have hel : El p n (redL p W (u.take i) x) := redL_el o (fun v hv => (hu v (List.mem_of_mem_take hv)).1) hx
  refine iteI (fun hlt => ?_) fun hge => ?_
  · obtain ⟨w4, a4, hr⟩ := hrl.rowI hlt
    have hui := hu _ (List.getElem_mem hlt)
    have hstep : redL p W (u.take (i + 1)) x = red1 p W (redL p W (u.take i) x) u[i] := by rw [List.take_succ_eq_append_getElem hlt, redL_snoc]
    generalize hy : redL p W (u.take i) x = y at *
    have hdl : dep u[i] < y.length := by rw [hel.1]; exact hui.2
    have hya := hel.at o.pr (dep u[i])
    rw [at_eq hdl] at hya
    have hneg : IntKind.i64.wrap (0 - y[dep u[i]]) = -y[dep u[i]] := by rw [wrap64 (by omega) (by omega)]; omega
    have hpd : (deps u)[i]? = some (dep u[i] : Int) := by simp [deps, hlt]
    simp only [pwA, if_true, if_false, eq_self, nm_eq, reduceCtorEq, ↓reduceIte, nQ10, nQ7, nQ11, nQ12, nQ16, nQ17, nQ18, iQ2, iQ3, iQ4, iQ5, iQ6, lQ19, iQ7, lQ20, hlt, hr, hui.2, pis_get, hpd, gi hdl, hneg]
    refine timesLie_fz hs hP o hui.1 rfl (by omega) fun v1 => ?_
    simp only [pwA, if_true, if_false, eq_self, nm_eq, reduceCtorEq, ↓reduceIte, nQ10, nQ7, nQ11, nQ12, nQ16, nQ17, nQ18, iQ2, iQ3, iQ4, iQ5, iQ6, lQ19, iQ7, lQ20]
    refine addLie_fz hs hP o hel (lmix_el o hui.1 hui.1) hel.1.symm (lmix_el o hui.1 hui.1).1.symm fun v2 => ?_
    simp only [pwA, if_true, if_false, eq_self, nm_eq, reduceCtorEq, ↓reduceIte, nQ10, nQ7, nQ11, nQ12, nQ16, nQ17, nQ18, iQ2, iQ3, iQ4, iQ5, iQ6, lQ19, iQ7, lQ20, wrapS hlt (by omega : u.length ≤ 4611686018427387904)]
    refine ⟨_, by omega, i + 1, by omega, rfl, v2, ?_⟩
    rw [hstep, red1, at_eq hdl, ← add_red o hel hui.1]
  · have hie : i = u.length := by omega
    subst hie
    rw [List.take_length]
    exact hk v
end Go.Proofs
namespace Go.Proofs
open Go.Ab Go.Lie
variable {σ : PHeap} {K : PV → PHeap → Prop} {p p' : Int} {n : Nat} {W : List (List Int)} {B : List (List (List Int))} {vP vB vL vU : PV} {s : Nat}
def PQ (b : Nat) (h : PHeap) (v : PV) (m : Nat) (cs : List PV) : Prop :=
  (v = .fz true .nils 0 [] ∧ m = 0 ∧ cs = []) ∨ ∃ s off cap row, v = .sl s off m cap ∧ full 1 cap m ∧ h.obj s = some row ∧ (row.drop off).take m = cs ∧ off + m ≤ row.length ∧ b ≤ s ∧ s < h.next
theorem PQ.of {b m : Nat} {h : PHeap} {v : PV} {cs : List PV} (a : PAcc b 1 h v m cs) : PQ b h v m cs := by
  rcases a with a | ⟨s, cap, rfl, h1, h2, h3, h4, h5⟩
  · exact .inl a
  · exact .inr ⟨s, 0, cap, cs, rfl, h1, h2, by rw [List.drop_zero, List.take_of_length_le (by omega)], by omega, h4, h5⟩
theorem PQ.set {b m t : Nat} {h : PHeap} {v : PV} {cs : List PV} (a : PQ b h v m cs) (ht : t < b) (ds : List PV) : PQ b (h.set t ds) v m cs := by
  rcases a with a | ⟨s, off, cap, row, rfl, h1, h2, h3, h4, h5, h6⟩
  · exact .inl a
  · exact .inr ⟨s, off, cap, row, rfl, h1, by rw [pobj_set, if_neg (by omega)]; exact h2, h3, h4, h5, h6⟩
theorem PQ.pLen {b m : Nat} {h : PHeap} {v : PV} {cs : List PV} (a : PQ b h v m cs) : pLen v = some (.int .i64 m) := by
  rcases a with ⟨rfl, rfl, _⟩ | ⟨s, off, cap, row, rfl, _⟩ <;> rfl
theorem PQ.uncons {b m : Nat} {h : PHeap} {v c : PV} {cs : List PV} (a : PQ b h v m (c :: cs)) : ∃ s off cap v', v = .sl s off m cap ∧ h.rd1 s off = some c ∧ 0 < m ∧ pslice 1 v (some (.int .i64 1)) none none = some v' ∧ PQ b h v' (m - 1) cs := by
  rcases a with ⟨_, _, e⟩ | ⟨s, off, cap, row, rfl, h1, h2, h3, h4, h5, h6⟩
  · cases e
  · have hm : 0 < m := by
      rcases Nat.eq_zero_or_pos m with x | x
      · subst x; cases h3
      · exact x
    have e2 : row.drop off = c :: row.drop (off + 1) := by
      have hlt : off < row.length := by omega
      rw [List.drop_eq_getElem_cons hlt] at h3 ⊢
      obtain ⟨m', rfl⟩ : ∃ m', m = m' + 1 := ⟨m - 1, by omega⟩
      rw [List.take_succ_cons] at h3
      cases h3; rfl
    have e3 : (row.drop (off + 1)).take (m - 1) = cs := by
      rw [e2] at h3
      obtain ⟨m', rfl⟩ : ∃ m', m = m' + 1 := ⟨m - 1, by omega⟩
      rw [List.take_succ_cons] at h3
      cases h3; rfl
    have e4 : row[off]? = some c := by
      have hlt : off < row.length := by omega
      rw [List.drop_eq_getElem_cons hlt] at e2
      rw [List.getElem?_eq_getElem hlt]
      cases e2; rfl
    have hz : (1 : Int) ≤ (m : Int) := by omega
    rcases h1 with rfl | rfl
    · refine ⟨s, off, _, .sl s (off + 1) (m - 1) (.grown 1), rfl, by rw [obj_rd1 h2]; exact e4, hm, ?_, .inr ⟨s, off + 1, _, row, rfl, .inl rfl, h2, e3, by omega, h5, h6⟩⟩
      simp only [pwA, if_true, if_false, eq_self, nm_eq, reduceCtorEq, ↓reduceIte, nQ10, nQ7, nQ11, nQ12, nQ16, nQ17, nQ18, iQ2, iQ3, iQ4, iQ5, iQ6, lQ19, iQ7, lQ20, hm, hz]
    · by_cases h10 : m = 1
      · subst h10
        refine ⟨s, off, _, .sl s off 0 (.known 0), rfl, by rw [obj_rd1 h2]; exact e4, hm, ?_, .inr ⟨s, off, _, row, rfl, .inr rfl, h2, by simpa using e3, by omega, h5, h6⟩⟩
        rfl
      · refine ⟨s, off, _, .sl s (off + 1) (m - 1) (.known (m - 1)), rfl, by rw [obj_rd1 h2]; exact e4, hm, ?_, .inr ⟨s, off + 1, _, row, rfl, .inr rfl, h2, e3, by omega, h5, h6⟩⟩
        simp only [pwA, if_true, if_false, eq_self, nm_eq, reduceCtorEq, ↓reduceIte, nQ10, nQ7, nQ11, nQ12, nQ16, nQ17, nQ18, iQ2, iQ3, iQ4, iQ5, iQ6, lQ19, iQ7, lQ20, hm, hz, h10]
        rfl
theorem PQ.push {σb h : PHeap} {bytes m : Nat} {v x : PV} {cs : List PV} {K : PV × PHeap → Prop} (hk : Keep σb h) (a : PQ σb.next h v m cs)
    (h1 : (m + 1) * bytes ≤ 140737488355328) (h2 : m + 1 ≤ 4611686018427387904) (k : ∀ v' h', Keep σb h' → PQ σb.next h' v' (m + 1) (cs ++ [x]) → K (v', h')) : optK (pappend 1 bytes (h.new [x]) v (.sl h.next 0 1 (.known 1))) K := by
  rcases a with ⟨rfl, rfl, rfl⟩ | ⟨s, off, cap, row, rfl, q1, q2, q3, q4, q5, q6⟩
  · exact PAcc.push hk (PAcc.nil _ _ _) h1 h2 fun v' h' k1 k2 => k v' h' k1 (.of k2.acc)
  · rw [pappend_eq]
    have hp : pfirst 1 (h.new [x]) (.sl h.next 0 1 (.known 1)) 1 = some [x] := by simp [pfirst_sl, prd_new]
    have hobj : (h.new [x]).obj s = some row := by simp only [PHeap.new]; rw [if_neg (by omega)]; exact q2
    have hn := hk.next
    simp only [plen, Option.bind_some]
    rw [if_neg (by omega), hp]
    simp only [Option.bind_some]
    have hl : cs.length = m := by rw [← q3, List.length_take, List.length_drop]; omega
    rcases q1 with rfl | rfl
    · rw [pgrow_grown, if_pos ⟨h1, h2, rfl⟩, hobj]
      simp only [Option.bind_some]
      rw [if_pos (by omega), Nat.mul_one, q3]
      refine optK_of rfl (k _ _ (((hk.new _).kill (by omega)).new _) (.inr ⟨(h.new [x]).next, 0, _, cs ++ [x], rfl, .inl rfl, by simp [PHeap.new, PHeap.kill], ?_, by simp [hl], by simp [PHeap.new]; omega, by simp [PHeap.new, PHeap.kill]⟩))
      rw [List.drop_zero, List.take_of_length_le (by simp [hl])]
    · rw [pgrow_known, if_neg (by omega), if_pos ⟨h1, h2⟩, obj_rd hobj, if_pos (by omega), Nat.mul_one, q3]
      simp only [Option.map_some]
      refine optK_of rfl (k _ _ ((hk.new _).new _) (.inr ⟨(h.new [x]).next, 0, _, cs ++ [x], rfl, .inl rfl, by simp [PHeap.new], ?_, by simp [hl], by simp [PHeap.new]; omega, by simp [PHeap.new]⟩))
      rw [List.drop_zero, List.take_of_length_le (by simp [hl])]
theorem CloneL_ok {w : Bool} {a : AV} {m : Nat} {rows : List PV} (hl : rows.length = m) (hb : Bels 0 rows) (hm : m ≤ 1048576) (hk0 : rows = [] → K (.fz true .nils 0 []) σ) (hk1 : ∀ cap, full 1 cap m → K (.sl σ.next 0 m cap) (σ.new rows)) :
    PCalls Tryz.prog 213 [.fz w a m rows] σ K := by
  refine PCalls.nil0 fun hnil => PCalls.gh ?_
  refine pcalls_of_vp mix Tryz.func213 cf213 rfl ?_
  dsimp only [if213, qI, eI, nI, qD, eD]
  simp only [pwA, if_true, if_false, eq_self, nm_eq, reduceCtorEq, ↓reduceIte, nQ10, nQ7, nQ11, nQ12, nQ16, nQ17, nQ18, iQ2, iQ3, iQ4, iQ5, iQ6, lQ19, iQ7, lQ20]
  cases hn : isNils a
  · simp only [pwA, if_true, if_false, eq_self, nm_eq, reduceCtorEq, ↓reduceIte, nQ10, nQ7, nQ11, nQ12, nQ16, nQ17, nQ18, iQ2, iQ3, iQ4, iQ5, iQ6, lQ19, iQ7, lQ20]
    refine PSl.cat (bytes := 24) (σb := σ) (n := 0) (cs := []) (keep_new σ _) (PSl.new _ 1 rfl (Nat.le_refl _)) hl (by omega) (by omega) fun v' h' hk' ha => ?_
    simp only [pwA, if_true, if_false, eq_self, nm_eq, reduceCtorEq, ↓reduceIte, nQ10, nQ7, nQ11, nQ12, nQ16, nQ17, nQ18, iQ2, iQ3, iQ4, iQ5, iQ6, lQ19, iQ7, lQ20] at ha ⊢
    exact ha.out hk' (hb.up (Nat.zero_le _)) hk1
  · simp only [pwA, if_true, if_false, eq_self, nm_eq, reduceCtorEq, ↓reduceIte, nQ10, nQ7, nQ11, nQ12, nQ16, nQ17, nQ18, iQ2, iQ3, iQ4, iQ5, iQ6, lQ19, iQ7, lQ20]
    exact Gh.ret (hk0 (hnil hn).2)
theorem CloneL_q {w : Bool} {a : AV} {m : Nat} {rows : List PV} (hl : rows.length = m) (hb : Bels 0 rows) (hm : m ≤ 1048576) (hk : ∀ v h', Keep σ h' → PQ σ.next h' v m rows → K v h') :
    PCalls Tryz.prog 213 [.fz w a m rows] σ K :=
  CloneL_ok hl hb hm (fun h0 => hk _ _ (Keep.refl _) (.inl ⟨rfl, by rw [← hl, h0]; rfl, h0⟩)) fun cap hc => hk _ _ (keep_new _ _) (.of (.inr (PSl.own hc (by simp [PHeap.new]) (by omega) (Nat.le_refl _) (by simp [PHeap.new]))))
theorem timesLie_sl {l : Nat} {w : Bool} {av : AV} {k : Int} {a : List Int} (hs : PtrR σ s p vP vB) (hP : FII vP W) (o : OkW p n W) (ha : El p n a) (hl : l = a.length) (hkb : -1000000000 ≤ k ∧ k ≤ 1000000000) (hn : 0 < n)
    (hk : ∀ o cap, K (.fz true (.sl o 0 n cap) n (pis (lmul p W k a))) σ) : PCalls Tryz.prog 102 [.ptr s 0, .int .i64 k, .fz w av l (pis a)] σ K := by
  have hlen := (lmix_el o ha ha (k := k) (m := 0)).1
  refine PCalls.gh (timesLie_ok hs hP o ha hl hkb ⟨fun h0 => ?_, fun cap hc => ?_⟩)
  · exact absurd hlen (by rw [h0]; simp; omega)
  · rw [hlen] at hc ⊢
    exact Gh.finF (keep_new σ _) (by simp [PHeap.new]) (Nat.le_refl _) (pis_bel _ _) hc.ok fun o => hk o cap
theorem PtrR.keep {h : PHeap} (hs : PtrR σ s p vP vB) (hk : Keep σ h) : PtrR h s p vP vB := ⟨by rw [hk.obj s hs.lt]; exact hs.obj, Nat.lt_of_lt_of_le hs.lt hk.next⟩
def BRow (n : Nat) (u : List (List Int)) (d : Nat) (v : PV) : Prop :=
  (v = .fz true .nils 0 [] ∧ ∀ y ∈ u, dep y ≠ d) ∨ ∃ o cap y, v = .fz true (.sl o 0 n cap) n (pis y) ∧ y ∈ u ∧ dep y = d
def BRows (n : Nat) (u : List (List Int)) (rb : List PV) : Prop := rb.length = n ∧ ∀ d (h : d < rb.length), BRow n u d rb[d]
theorem BRows.take {u : List (List Int)} {rb : List PV} {o d : Nat} {cap : Cap} {y : List Int} (h : BRows n u rb) (hd : d < n) (hy : dep y = d) : BRows n (insD u y) (rb.set d (.fz true (.sl o 0 n cap) n (pis y))) := by
  refine ⟨by rw [List.length_set]; exact h.1, fun e he => ?_⟩
  rw [List.length_set] at he
  rw [List.getElem_set]
  by_cases x : d = e
  · subst x
    rw [if_pos rfl]
    exact .inr ⟨o, cap, y, rfl, insD_mem.2 (.inl rfl), hy⟩
  · rw [if_neg x]
    rcases h.2 e he with ⟨h1, h2⟩ | ⟨o', c', y', h1, h2, h3⟩
    · exact .inl ⟨h1, fun v hv => by
        rcases insD_mem.1 hv with rfl | hv
        · omega
        · exact h2 v hv⟩
    · exact .inr ⟨o', c', y', h1, insD_mem.2 (.inr h2), h3⟩
theorem Fp_le {u : List (List Int)} {k : Nat} (ha : Asc u) : (∃ y ∈ u, dep y = k) → ∃ y ∈ u, dep y = k ∧ Fp u k = y :: Fp u (k + 1) := by
  induction u with
  | nil => rintro ⟨y, hy, _⟩; cases hy
  | cons v t ih =>
    have ht : ∀ w ∈ t, dep v < dep w := fun w hw => List.rel_of_pairwise_cons ha hw
    have hta : Asc t := (List.pairwise_cons.1 ha).2
    rintro ⟨y, hy, rfl⟩
    rcases List.mem_cons.1 hy with rfl | hy
    · refine ⟨y, by simp, rfl, ?_⟩
      have e1 : Fp t (dep y) = t := Fp_all fun w hw => Nat.le_of_lt (ht w hw)
      have e2 : Fp t (dep y + 1) = t := Fp_all fun w hw => ht w hw
      rw [Fp, List.filter_cons, if_pos (by simp)]
      rw [show (List.filter (fun v => decide (dep y ≤ dep v)) t) = t from e1]
      rw [Fp, List.filter_cons, if_neg (by simp)]
      rw [show (List.filter (fun v => decide (dep y + 1 ≤ dep v)) t) = t from e2]
    · obtain ⟨y', h1, h2, h3⟩ := ih hta ⟨y, hy, rfl⟩
      have := ht y hy
      refine ⟨y', List.mem_cons_of_mem _ h1, h2, ?_⟩
      rw [Fp, List.filter_cons, if_neg (by simp; omega)]
      rw [Fp, List.filter_cons, if_neg (by simp; omega)]
      exact h3
theorem Fp_skip {u : List (List Int)} {k : Nat} (h : ∀ y ∈ u, dep y ≠ k) : Fp u k = Fp u (k + 1) := List.filter_congr fun v hv => by
  have := h v hv
  simp only [decide_eq_decide]
  omega
theorem base_fp : ∀ {u : List (List Int)} {k : Nat}, Base p n W u → Base p n W (Fp u k)
  | [], k, h => h
  | v :: t, k, h => by
    by_cases x : k ≤ dep v
    · have e : Fp (v :: t) k = v :: t := Fp_all fun w hw => by
        rcases List.mem_cons.1 hw with rfl | hw
        · exact x
        · have := List.rel_of_pairwise_cons h.asc hw
          omega
      rw [e]; exact h
    · rw [Fp, List.filter_cons, if_neg (by simpa using x)]
      cases h with
      | cons _ _ _ h4 => exact base_fp (by assumption)
theorem _root_.Go.Lie.Base.fp' {u : List (List Int)} {k : Nat} (h : Base p n W u) : Base p n W (Fp u k) := base_fp h
end Go.Proofs
namespace Go.Proofs
open Go.Ab Go.Lie
variable {σ : PHeap} {K : PV → PHeap → Prop} {p p' : Int} {n : Nat} {W : List (List Int)} {B : List (List (List Int))} {vP vB vL vU : PV} {s : Nat}
theorem lieSpan_ok {gens : List (List Int)} (hs : PtrR σ s p vP vB) (hP : FII vP W) (o : OkW p n W) (hp : isP p) (hL : FII vL gens) (he : Els p n gens) (hgl : gens.length ≤ 1048576) (hk : ∀ v out, Canon p n W gens out → FII v out → K v σ) :
    PCalls Tryz.prog 131 [.ptr s 0, vL] σ K := by
  have hn6 := o.le
  have hpb := hp.bd
  have hpk : -1000000000 ≤ p ∧ p ≤ 1000000000 := by omega
  have hWn := o.len
  obtain ⟨wl, al, rl, rfl, hrl⟩ := hL
  have hP' := hP
  obtain ⟨wp, ap, rp, rfl, hrp⟩ := hP
  have hsl := hs.lt
  have hP1 : σ.rd1 s 1 = some (.fz wp ap W.length rp) := by rw [obj_rd1 hs.obj]; rfl
  refine PCalls.gh ?_
  refine pcalls_of_vp mix Tryz.func131 cf131 rfl ?_
  dsimp only [if131, qI, eI, nI, qD, eD]
  simp only [pwA, if_true, if_false, eq_self, nm_eq, reduceCtorEq, ↓reduceIte, nQ10, nQ7, nQ11, nQ12, nQ16, nQ17, nQ18, iQ2, iQ3, iQ4, iQ5, iQ6, lQ19, iQ7, lQ20, hP1, hWn, mk24 (n := n) (by omega), mkL (n := n) (by omega)]
  have elU : ∀ {u Q : List (List Int)}, Grow p n W gens u Q → (∀ v ∈ u, El p n v ∧ dep v < n) ∧ u.length ≤ n := fun g => ⟨fun v hv => ⟨(g.led v hv).1, (g.led v hv).2.1⟩, asc_length (fun v hv => (g.led v hv).2.1) g.asc⟩
  refine CloneL_q hrl.1 (hrl.bI 0) hgl fun vQ h1 k1 q1 => ?_
  simp only [pwA, if_true, if_false, eq_self, nm_eq, reduceCtorEq, ↓reduceIte, nQ10, nQ7, nQ11, nQ12, nQ16, nQ17, nQ18, iQ2, iQ3, iQ4, iQ5, iQ6, lQ19, iQ7, lQ20]
  refine vp_loop (fun m vs h' => ∃ u Q vQ rb rq, m = 2 * (n - u.length) + Q.length ∧ vs = [.ptr s 0, .sl σ.next 0 n (.known n), vQ] ∧ Keep (σ.new rb) h' ∧ PQ (σ.next + 1) h' vQ Q.length rq ∧ All2 FI rq Q ∧ Grow p n W gens u Q ∧ BRows n u rb ∧ Q.length ≤ gens.length) (2 * n + gens.length) ?_ ?_
  · refine ⟨[], gens, vQ, _, rl, rfl, rfl, k1, q1, hrl, Grow.start he, ⟨by simp, fun d hd => .inl ⟨by simp, fun y hy => by cases hy⟩⟩, Nat.le_refl _⟩
  rintro m vs h' ⟨u, Q, vQ, rb, rq, rfl, rfl, hkp, hq, hrq, hg, hb, hQl⟩
  have hk0 : Keep σ h' := hkp.of
  have hs' := hs.keep hk0
  have hp0 : h'.rd1 s 0 = some (.int .i64 p) := by rw [obj_rd1 hs'.obj]; rfl
  have hobj : h'.obj σ.next = some rb := by rw [hkp.obj _ (by simp [PHeap.new])]; simp [PHeap.new]
  cases Q with
  | nil =>
    have hlen : pLen vQ = some (.int .i64 0) := hq.pLen
    have hw : IntKind.i64.wrap ((n : Int) - 1) = (n : Int) - 1 := wrap64 (by omega) (by omega)
    have hbase := hg.base
    have hFn : Fp u n = [] := List.filter_eq_nil_iff.2 fun v hv => by have := ((elU hg).1 v hv).2; simp; omega
    simp only [pwA, if_true, if_false, eq_self, nm_eq, reduceCtorEq, ↓reduceIte, nQ10, nQ7, nQ11, nQ12, nQ16, nQ17, nQ18, iQ2, iQ3, iQ4, iQ5, iQ6, lQ19, iQ7, lQ20, hlen, hw]
    refine vp_loopG (fun m vs h2 => ∃ (k : Nat) (vO : PV), k ≤ n ∧ m = k ∧ vs = [.ptr s 0, .sl σ.next 0 n (.known n), vO, .int .i64 ((k : Int) - 1)] ∧ Keep (σ.new rb) h2 ∧ FII vO (finI p W (Fp u k))) n (.here ⟨n, _, Nat.le_refl _, rfl, rfl, hkp, by rw [hFn]; exact ⟨_, _, _, rfl, All2.nil _⟩⟩) ?_
    rintro m vs h2 ⟨k, vO, hkn, rfl, rfl, hk2, hO⟩
    have hk02 : Keep σ h2 := hk2.of
    have hs2 := hs.keep hk02
    have hobj2 : h2.obj σ.next = some rb := by rw [hk2.obj _ (by simp [PHeap.new])]; simp [PHeap.new]
    rcases Nat.eq_zero_or_pos m with rfl | hmp
    · simp only [pwA, if_true, if_false, eq_self, nm_eq, reduceCtorEq, ↓reduceIte, nQ10, nQ7, nQ11, nQ12, nQ16, nQ17, nQ18, iQ2, iQ3, iQ4, iQ5, iQ6, lQ19, iQ7, lQ20, show ¬ ((0 : Int) ≤ ((0 : Nat) : Int) - 1) by omega]
      have hF0 : Fp u 0 = u := Fp_all fun v hv => Nat.zero_le _
      rw [hF0] at hO
      exact Gh.fin0 hk02 (hO.bel _) (hk vO _ (hg.done (finI_ok o hbase).1) hO)
    · obtain ⟨k, rfl⟩ : ∃ k, m = k + 1 := ⟨m - 1, by omega⟩
      have e : ((k + 1 : Nat) : Int) - 1 = (k : Int) := by omega
      have hkn' : k < n := hkn
      have hkl : k < rb.length := by rw [hb.1]; exact hkn'
      have hrd := obj_rd1 hobj2 k
      rw [List.getElem?_eq_getElem hkl] at hrd
      have hbs := hbase.fp' (k := k + 1)
      rw [e]
      have hw2 : IntKind.i64.wrap ((k : Int) - 1) = (k : Int) - 1 := wrap64 (by omega) (by omega)
      rcases hb.2 k hkl with ⟨e1, e2⟩ | ⟨oo, cap, y, e1, e2, e3⟩
      · rw [e1] at hrd
        simp only [pwA, if_true, if_false, eq_self, nm_eq, reduceCtorEq, ↓reduceIte, nQ10, nQ7, nQ11, nQ12, nQ16, nQ17, nQ18, iQ2, iQ3, iQ4, iQ5, iQ6, lQ19, iQ7, lQ20, hkn', hrd, hw2]
        refine ⟨_, Nat.lt_succ_self k, .here ⟨k, vO, by omega, rfl, rfl, hk2, ?_⟩⟩
        rw [Fp_skip e2]
        exact hO
      · rw [e1] at hrd
        obtain ⟨y', y1, y2, y3⟩ := Fp_le hg.asc ⟨y, e2, e3⟩
        obtain rfl : y' = y := by
          rcases pairwise_two hg.asc y1 e2 with x | x | x
          · exact x
          · omega
          · omega
        simp only [pwA, if_true, if_false, eq_self, nm_eq, reduceCtorEq, ↓reduceIte, nQ10, nQ7, nQ11, nQ12, nQ16, nQ17, nQ18, iQ2, iQ3, iQ4, iQ5, iQ6, lQ19, iQ7, lQ20, hkn', hrd, hw2]
        have hF := (finI_ok o hbs).1
        have hLl : (finI p W (Fp u (k + 1))).length ≤ n := asc_length (fun v hv => (hF.base.led v hv).2.1) hF.base.asc
        have hy := ((elU hg).1 y' e2).1
        refine reduceLie_ok hs2 hP' o hO (fun v hv => ⟨(hF.base.led v hv).1, (hF.base.led v hv).2.1⟩) (by omega) hy hy.1.symm fun v1 => ?_
        have hrl := (redL_el o (u := finI p W (Fp u (k + 1))) (fun v hv => (hF.base.led v hv).1) hy).1
        have hFk : finI p W (Fp u k) = redL p W (finI p W (Fp u (k + 1))) y' :: finI p W (Fp u (k + 1)) := by rw [y3]; rfl
        generalize finI p W (Fp u (k + 1)) = L at *
        generalize redL p W L y' = z at *
        obtain ⟨wO, aO, rO, rfl, hrO⟩ := hO
        simp only [pwA, if_true, if_false, eq_self, nm_eq, reduceCtorEq, ↓reduceIte, nQ10, nQ7, nQ11, nQ12, nQ16, nQ17, nQ18, iQ2, iQ3, iQ4, iQ5, iQ6, lQ19, iQ7, lQ20]
        refine PSl.cat (bytes := 24) (σb := h2) (n := 1) (cs := [.fz true v1 n (pis z)]) (keep_new h2 _) (PSl.new _ 1 rfl (Nat.le_refl _)) hrO.1 (by omega) (by omega) fun v3 h3 k3 a3 => ?_
        obtain ⟨s3, cap3, rfl, hc3, ho3, hl3, hge3, hlt3⟩ := a3
        have hall : All2 FI ([.fz true v1 n (pis z)] ++ rO) (z :: L) := (All2.nil FI |>.snoc (⟨true, v1, by rw [hrl]⟩ : FI (.fz true v1 n (pis z)) z)).append hrO
        have hne : σ.next ≠ s3 := by
          have := hk2.next
          simp only [PHeap.new] at this
          omega
        simp only [pwA, if_true, if_false, eq_self, nm_eq, reduceCtorEq, ↓reduceIte, nQ10, nQ7, nQ11, nQ12, nQ16, nQ17, nQ18, iQ2, iQ3, iQ4, iQ5, iQ6, lQ19, iQ7, lQ20, hw2]
        refine ⟨k, Nat.lt_succ_self k, .fz s3 _ ho3 (hall.bI 0) fun o1 => .here ⟨k, .fz true (.sl o1 0 (1 + L.length) cap3) (1 + L.length) ([.fz true v1 n (pis z)] ++ rO), by omega, rfl, ?_, (hk2.trans k3).kill (by have := hk2.next; simp only [PHeap.new] at this ⊢; omega), by rw [hFk]; exact ⟨true, _, _, by rw [List.length_cons, Nat.add_comm], hall⟩⟩⟩
        simp only [pwA, if_true, if_false, eq_self, nm_eq, reduceCtorEq, ↓reduceIte, nQ10, nQ7, nQ11, nQ12, nQ16, nQ17, nQ18, iQ2, iQ3, iQ4, iQ5, iQ6, lQ19, iQ7, lQ20]
        simp only [sbs, sb, hne, hc3.ok, false_and, and_self, if_true, if_false]
  | cons x Q =>
    have hlen := hq.pLen
    obtain ⟨c, rq', rfl, hc, hrq'⟩ : ∃ c rq', rq = c :: rq' ∧ FI c x ∧ All2 FI rq' Q := by
      cases rq with
      | nil => exact absurd hrq.1 (by simp)
      | cons c rq' => exact ⟨c, rq', rfl, hrq.2 0 c x rfl rfl, ⟨by simpa using hrq.1, fun k a b ha hb => hrq.2 (k + 1) a b (by simpa using ha) (by simpa using hb)⟩⟩
    obtain ⟨sq, off, cap, vQ', rfl, hrd, hpos, hsl', hq'⟩ := hq.uncons
    obtain ⟨w4, a4, rfl⟩ := hc
    generalize hkl : (x :: Q).length = k at *
    have hQk : Q.length = k - 1 := by rw [← hkl]; simp
    have hposI : (0 : Int) < (k : Int) := by omega
    have hx := hg.els x (by simp)
    simp only [pwA, if_true, if_false, eq_self, nm_eq, reduceCtorEq, ↓reduceIte, nQ10, nQ7, nQ11, nQ12, nQ16, nQ17, nQ18, iQ2, iQ3, iQ4, iQ5, iQ6, lQ19, iQ7, lQ20, hlen, hposI, hpos, hrd, hsl']
    refine depthOf_ok rfl (by rw [hx.1]; omega) ?_
    simp only [pwA, if_true, if_false, eq_self, nm_eq, reduceCtorEq, ↓reduceIte, nQ10, nQ7, nQ11, nQ12, nQ16, nQ17, nQ18, iQ2, iQ3, iQ4, iQ5, iQ6, lQ19, iQ7, lQ20]
    refine vp_loop (fun m vs h2 => ∃ x wX vX, m = n - dep x ∧ vs = [.ptr s 0, .sl σ.next 0 n (.known n), vQ', .fz wX vX n (pis x), .int .i64 (dep x)] ∧ h' = h2 ∧ Grow p n W gens u (x :: Q)) (n - dep x) ?_ ?_
    · exact ⟨x, _, _, rfl, by rw [hx.1]; rfl, rfl, hg⟩
    clear hg hx hlen hkl
    rintro m vs h2 ⟨x, wX, vX, rfl, rfl, rfl, hg⟩
    have hx := hg.els x (by simp)
    have hxl := hx.1
    have hdle := dep_le x
    by_cases hd : dep x < n
    · have hdx : dep x < x.length := by omega
      have hxd := hx.at0 o (dep x)
      have hne := dep_ne hdx
      rw [at_eq hdx] at hxd hne
      have hdb : dep x < rb.length := by rw [hb.1]; exact hd
      have hrd2 := obj_rd1 hobj (dep x)
      rw [List.getElem?_eq_getElem hdb] at hrd2
      rcases hb.2 _ hdb with ⟨e1, e2⟩ | ⟨oo, cap2, y, e1, e2, e3⟩
      · rw [e1] at hrd2
        have hdn : ((dep x : Int) = (n : Int)) = False := by simp; omega
        simp only [pwA, if_true, if_false, eq_self, nm_eq, reduceCtorEq, ↓reduceIte, nQ10, nQ7, nQ11, nQ12, nQ16, nQ17, nQ18, iQ2, iQ3, iQ4, iQ5, iQ6, lQ19, iQ7, lQ20, hd, hrd2, hdn, hp0, pis_get, gi hdx]
        refine inverseMod_ok hp (by omega) fun q qb hq1 hq2 hq3 => ?_
        simp only [pwA, if_true, if_false, eq_self, nm_eq, reduceCtorEq, ↓reduceIte, nQ10, nQ7, nQ11, nQ12, nQ16, nQ17, nQ18, iQ2, iQ3, iQ4, iQ5, iQ6, lQ19, iQ7, lQ20, hd, hrd2, hp0, pis_get, gi hdx]
        refine timesLie_sl hs' hP' o hx hxl.symm (by omega) (by omega) fun oz capz => ?_
        have hT : Grow p n W gens (insD u (lmul p W q x)) (lmul p W p (lmul p W q x) :: Q) := hg.take o hd e2 (k := q) (by rw [at_eq hdx]; exact hq3)
        obtain ⟨y1, y2⟩ : Led p n (lmul p W q x) ∧ dep (lmul p W q x) = dep x := ⟨(scale_led o hx hd (k := q) (by rw [at_eq hdx]; exact hq3)).1, (scale_led o hx hd (k := q) (by rw [at_eq hdx]; exact hq3)).2.1⟩
        have hb2 := hb.take (o := oz) (cap := capz) hd y2
        generalize lmul p W q x = y at *
        have hy := y1.1
        have hwr : h'.wr σ.next (dep x) [.fz true (.sl oz 0 n capz) n (pis y)] = some (h'.set σ.next (rb.set (dep x) (.fz true (.sl oz 0 n capz) n (pis y)))) := by
          rw [obj_wr hobj, if_pos ⟨by rw [List.length_singleton]; omega, rfl⟩]
          rw [List.append_assoc, List.singleton_append, List.length_singleton, take_set _ hdb]
        have hk3 : Keep (σ.new (rb.set (dep x) (.fz true (.sl oz 0 n capz) n (pis y)))) (h'.set σ.next (rb.set (dep x) (.fz true (.sl oz 0 n capz) n (pis y)))) := hkp.setN _
        have hq3' := hq'.set (Nat.lt_succ_self _) (rb.set (dep x) (.fz true (.sl oz 0 n capz) n (pis y)))
        have hrd3 : (h'.set σ.next (rb.set (dep x) (.fz true (.sl oz 0 n capz) n (pis y)))).rd1 σ.next (dep x) = some (.fz true (.sl oz 0 n capz) n (pis y)) := by
          rw [obj_rd1 (by rw [pobj_set, if_pos rfl]), List.getElem?_set_self hdb]
        have hs3 := hs'.set (by omega) (rb.set (dep x) (.fz true (.sl oz 0 n capz) n (pis y))) (t := σ.next)
        have hp3 : (h'.set σ.next (rb.set (dep x) (.fz true (.sl oz 0 n capz) n (pis y)))).rd1 s 0 = some (.int .i64 p) := by rw [obj_rd1 hs3.obj]; rfl
        have hset : (rb.set (dep x) (.fz true (.sl oz 0 n capz) n (pis y)))[dep x]? = some (.fz true (.sl oz 0 n capz) n (pis y)) := List.getElem?_set_self hdb
        simp only [pwA, if_true, if_false, eq_self, nm_eq, reduceCtorEq, ↓reduceIte, nQ10, nQ7, nQ11, nQ12, nQ16, nQ17, nQ18, iQ2, iQ3, iQ4, iQ5, iQ6, lQ19, iQ7, lQ20, hd, hwr, Nat.ne_of_lt hsl, hp0, hset]
        generalize h'.set σ.next (rb.set (dep x) (.fz true (.sl oz 0 n capz) n (pis y))) = h3 at *
        generalize rb.set (dep x) (.fz true (.sl oz 0 n capz) n (pis y)) = rb' at *
        refine timesLie_fz hs3 hP' o hy hy.1.symm (by omega) fun v2 => ?_
        have hz : El p n (lmul p W p y) := (mul_eqv o hy p).1
        generalize lmul p W p y = z at *
        simp only [pwA, if_true, if_false, eq_self, nm_eq, reduceCtorEq, ↓reduceIte, nQ10, nQ7, nQ11, nQ12, nQ16, nQ17, nQ18, iQ2, iQ3, iQ4, iQ5, iQ6, lQ19, iQ7, lQ20]
        refine PQ.push (bytes := 24) (σb := σ.new rb') hk3 hq3' (by omega) (by omega) fun v4 h4 k4 q4 => ?_
        simp only [pwA, if_true, if_false, eq_self, nm_eq, reduceCtorEq, ↓reduceIte, nQ10, nQ7, nQ11, nQ12, nQ16, nQ17, nQ18, iQ2, iQ3, iQ4, iQ5, iQ6, lQ19, iQ7, lQ20]
        have hul := (elU hT).2
        rw [insD_length] at hul
        refine ⟨_, ?_, insD u y, Q ++ [z], v4, rb', rq' ++ [.fz true v2 n (pis z)], rfl, rfl, k4, ?_, hrq'.append (All2.nil FI |>.snoc ⟨true, v2, by rw [hz.1]⟩), hT.perm fun v => by simp [or_comm], hb2, by rw [List.length_append, List.length_singleton]; omega⟩
        · rw [insD_length, List.length_append, List.length_singleton]; omega
        · rw [List.length_append, List.length_singleton, hQk]
          exact q4
      · rw [e1] at hrd2
        have hy := ((elU hg).1 y e2).1
        have hneg : IntKind.i64.wrap (0 - x[dep x]) = -x[dep x] := by rw [wrap64 (by omega) (by omega)]; omega
        simp only [pwA, if_true, if_false, eq_self, nm_eq, reduceCtorEq, ↓reduceIte, nQ10, nQ7, nQ11, nQ12, nQ16, nQ17, nQ18, iQ2, iQ3, iQ4, iQ5, iQ6, lQ19, iQ7, lQ20, hd, hrd2, pis_get, gi hdx, hneg]
        refine timesLie_fz hs' hP' o hy hy.1.symm (by omega) fun v1 => ?_
        simp only [pwA, if_true, if_false, eq_self, nm_eq, reduceCtorEq, ↓reduceIte, nQ10, nQ7, nQ11, nQ12, nQ16, nQ17, nQ18, iQ2, iQ3, iQ4, iQ5, iQ6, lQ19, iQ7, lQ20]
        refine addLie_fz hs' hP' o hx (lmix_el o hy hy) hxl.symm (lmix_el o hy hy).1.symm fun v2 => ?_
        obtain ⟨g2, g3⟩ := hg.reduce1 o e2 e3
        have hr1 : ladd p W x (lmul p W (-x[dep x]) y) = red1 p W x y := by rw [add_red o hx hy, red1, e3, at_eq hdx]
        have hz := g2.els _ (List.mem_cons_self ..)
        rw [hr1]
        simp only [pwA, if_true, if_false, eq_self, nm_eq, reduceCtorEq, ↓reduceIte, nQ10, nQ7, nQ11, nQ12, nQ16, nQ17, nQ18, iQ2, iQ3, iQ4, iQ5, iQ6, lQ19, iQ7, lQ20]
        refine depthOf_ok hz.1.symm (by rw [hz.1]; omega) ?_
        simp only [pwA, if_true, if_false, eq_self, nm_eq, reduceCtorEq, ↓reduceIte, nQ10, nQ7, nQ11, nQ12, nQ16, nQ17, nQ18, iQ2, iQ3, iQ4, iQ5, iQ6, lQ19, iQ7, lQ20]
        exact ⟨_, by omega, _, _, _, rfl, rfl, g2⟩
    · have hdn : dep x = n := by omega
      simp only [pwA, if_true, if_false, eq_self, nm_eq, reduceCtorEq, ↓reduceIte, nQ10, nQ7, nQ11, nQ12, nQ16, nQ17, nQ18, iQ2, iQ3, iQ4, iQ5, iQ6, lQ19, iQ7, lQ20, hdn, Nat.lt_irrefl]
      refine ⟨_, ?_, u, Q, vQ', rb, rq', rfl, rfl, hkp, by rw [hQk]; exact hq', hrq', hg.drop fun j => ?_, hb, by omega⟩
      · omega
      · rcases Nat.lt_or_ge j n with h | h
        · exact dep_zero (by omega)
        · exact hx.beyond h
end Go.Proofs
namespace Go.Proofs
open Go.Ab Go.Lie
variable {σ : PHeap} {K : PV → PHeap → Prop} {p p' : Int} {n : Nat} {W : List (List Int)} {B : List (List (List Int))} {vP vB vL vU vV : PV} {s : Nat}
def units (n : Nat) : List (List Int) := (List.range n).map (unitL n)
theorem units_length : (units n).length = n := by simp [units]
theorem units_get {i : Nat} (h : i < n) : (units n)[i]? = some (unitL n i) := by simp [units, h]
theorem units_els (hp : okp p) : Els p n (units n) := fun v hv => by
  obtain ⟨i, hi, rfl⟩ := List.mem_map.1 hv
  exact unit_el hp (List.mem_range.1 hi)
theorem units_take {i : Nat} (h : i < n) : (units n).take (i + 1) = (units n).take i ++ [unitL n i] := by
  have hl : i < (units n).length := by rw [units_length]; exact h
  have e := units_get h
  rw [List.getElem?_eq_getElem hl] at e
  rw [List.take_succ_eq_append_getElem hl, Option.some.inj e]
def brL (p : Int) (W : List (List Int)) (B : List (List (List Int))) (n : Nat) (u v : List (List Int)) : List (List Int) := u.flatMap fun x => v.map fun y => br p W B n x y
theorem brL_length (u v : List (List Int)) : (brL p W B n u v).length = u.length * v.length := by
  induction u with
  | nil => simp [brL]
  | cons x u ih =>
    have : (brL p W B n (x :: u) v) = v.map (fun y => br p W B n x y) ++ brL p W B n u v := rfl
    rw [this, List.length_append, List.length_map, ih, List.length_cons, Nat.add_mul, Nat.one_mul, Nat.add_comm]
theorem brL_snoc (u v : List (List Int)) (x : List Int) : brL p W B n (u ++ [x]) v = brL p W B n u v ++ v.map fun y => br p W B n x y := by
  simp [brL, List.flatMap_append]
theorem brL_els (o : OkW p n W) (q : OkB p n B) (u v : List (List Int)) : Els p n (brL p W B n u v) := fun z hz => by
  obtain ⟨x, hx, h⟩ := List.mem_flatMap.1 hz
  obtain ⟨y, hy, rfl⟩ := List.mem_map.1 h
  exact br_el o q
theorem wholeLie_ok (hs : PtrR σ s p vP vB) (hP : FII vP W) (hWn : W.length = n) (hn : n ≤ 1048576) (hk : ∀ v, FII v (units n) → K v σ) : PCalls Tryz.prog 129 [.ptr s 0] σ K := by
  obtain ⟨wp, ap, rp, rfl, hrp⟩ := hP
  have hP1 : σ.rd1 s 1 = some (.fz wp ap W.length rp) := by rw [obj_rd1 hs.obj]; rfl
  refine PCalls.gh ?_
  refine pcalls_of_vp mix Tryz.func129 cf129 rfl ?_
  dsimp only [if129, qI, eI, nI, qD, eD]
  simp only [pwA, if_true, if_false, eq_self, nm_eq, reduceCtorEq, ↓reduceIte, nQ10, nQ7, nQ11, nQ12, nQ16, nQ17, nQ18, iQ2, iQ3, iQ4, iQ5, iQ6, lQ19, iQ7, lQ20, hP1, hWn]
  refine vp_loop (fun m vs h' => ∃ (i : Nat) (v : PV) (rows : List PV), i ≤ n ∧ m = n - i ∧ vs = [.ptr s 0, v, .int .i64 n, .int .i64 i] ∧ Keep σ h' ∧ PAcc σ.next 1 h' v i rows ∧ All2 FI rows ((units n).take i)) n ?_ ?_
  · exact ⟨0, _, [], by omega, by omega, rfl, Keep.refl σ, PAcc.nil _ _ _, by rw [List.take_zero]; exact All2.nil _⟩
  rintro m vs h' ⟨i, v, rows, hi, rfl, rfl, hkp, ha, hrows⟩
  simp only [pwA, if_true, if_false, eq_self, nm_eq, reduceCtorEq, ↓reduceIte, nQ10, nQ7, nQ11, nQ12, nQ16, nQ17, nQ18, iQ2, iQ3, iQ4, iQ5, iQ6, lQ19, iQ7, lQ20]
  have hs' := hs.keep hkp
  have hP2 : h'.rd1 s 1 = some (.fz wp ap W.length rp) := by rw [obj_rd1 hs'.obj]; rfl
  refine iteI (fun hlt => ?_) fun hge => ?_
  · simp only [pwA, if_true, if_false, eq_self, nm_eq, reduceCtorEq, ↓reduceIte, nQ10, nQ7, nQ11, nQ12, nQ16, nQ17, nQ18, iQ2, iQ3, iQ4, iQ5, iQ6, lQ19, iQ7, lQ20, hP2, hWn]
    refine unitVector_fz hn hlt fun a1 => ?_
    simp only [pwA, if_true, if_false, eq_self, nm_eq, reduceCtorEq, ↓reduceIte, nQ10, nQ7, nQ11, nQ12, nQ16, nQ17, nQ18, iQ2, iQ3, iQ4, iQ5, iQ6, lQ19, iQ7, lQ20]
    refine PAcc.push (bytes := 24) hkp ha (by omega) (by omega) fun v' h2 k2 a2 => ?_
    simp only [pwA, if_true, if_false, eq_self, nm_eq, reduceCtorEq, ↓reduceIte, nQ10, nQ7, nQ11, nQ12, nQ16, nQ17, nQ18, iQ2, iQ3, iQ4, iQ5, iQ6, lQ19, iQ7, lQ20, wrapS hlt (by omega : n ≤ 4611686018427387904)]
    refine ⟨_, by omega, i + 1, v', _, by omega, rfl, rfl, k2, a2.acc, ?_⟩
    rw [units_take hlt]
    exact hrows.snoc ⟨true, a1, by rw [unitL_length]⟩
  · have hie : i = n := by omega
    subst hie
    rw [List.take_of_length_le (by rw [units_length]; exact Nat.le_refl _)] at hrows
    exact ha.fin hkp (hrows.bI 0) fun a => hk _ ⟨true, a, rows, by rw [units_length], hrows⟩
theorem brackets_ok' {u v : List (List Int)} (hs : PtrR σ s p vP vB) (hR : IsR vP vB W B) (o : OkW p n W) (q : OkB p n B) (hU : FII vU u) (hV : FII vV v) (eu : Els p n u) (ev : Els p n v) (hul : u.length ≤ 6) (hvl : v.length ≤ 12)
    (hk : ∀ z, FII z (brL p W B n u v) → K z σ) : PCalls Tryz.prog 136 [.ptr s 0, vU, vV] σ K := by
  obtain ⟨wu, au, ru, rfl, hru⟩ := hU
  obtain ⟨wv, av, rv, rfl, hrv⟩ := hV
  have bnd : ∀ (i j : Nat), i < u.length → j ≤ v.length → (brL p W B n (u.take i) v ++ (v.take j).map fun y => br p W B n (u.getD i []) y).length ≤ 84 := fun i j hi hj => by
    rw [List.length_append, brL_length, List.length_map, List.length_take, List.length_take]
    have : min i u.length * v.length ≤ 6 * 12 := Nat.mul_le_mul (by omega) hvl
    omega
  refine PCalls.gh ?_
  refine pcalls_of_vp mix Tryz.func136 cf136 rfl ?_
  dsimp only [if136, qI, eI, nI, qD, eD]
  simp only [pwA, if_true, if_false, eq_self, nm_eq, reduceCtorEq, ↓reduceIte, nQ10, nQ7, nQ11, nQ12, nQ16, nQ17, nQ18, iQ2, iQ3, iQ4, iQ5, iQ6, lQ19, iQ7, lQ20]
  refine vp_loop (fun m vs h' => ∃ (i : Nat) (z : PV) (rows : List PV), i ≤ u.length ∧ m = u.length - i ∧ vs = [.ptr s 0, .fz wv av v.length rv, z, .fz wu au u.length ru, .int .i64 u.length, .int .i64 i] ∧ Keep σ h' ∧ PAcc σ.next 1 h' z (brL p W B n (u.take i) v).length rows ∧ All2 FI rows (brL p W B n (u.take i) v)) u.length ?_ ?_
  · exact ⟨0, _, [], by omega, by omega, rfl, Keep.refl σ, PAcc.nil _ _ _, by rw [List.take_zero]; exact All2.nil _⟩
  rintro m vs h' ⟨i, z, rows, hi, rfl, rfl, hkp, ha, hrows⟩
  simp only [pwA, if_true, if_false, eq_self, nm_eq, reduceCtorEq, ↓reduceIte, nQ10, nQ7, nQ11, nQ12, nQ16, nQ17, nQ18, iQ2, iQ3, iQ4, iQ5, iQ6, lQ19, iQ7, lQ20]
  refine iteI (fun hlt => ?_) fun hge => ?_
  · obtain ⟨w4, a4, hr⟩ := hru.rowI hlt
    have hui := eu _ (List.getElem_mem hlt)
    have hgd : u.getD i [] = u[i] := by simp [List.getD_eq_getElem?_getD, hlt]
    simp only [pwA, if_true, if_false, eq_self, nm_eq, reduceCtorEq, ↓reduceIte, nQ10, nQ7, nQ11, nQ12, nQ16, nQ17, nQ18, iQ2, iQ3, iQ4, iQ5, iQ6, lQ19, iQ7, lQ20, hlt, hr]
    refine vp_loop (fun m vs h' => ∃ (j : Nat) (z : PV) (rows : List PV), j ≤ v.length ∧ m = v.length - j ∧ vs = [.ptr s 0, .fz wv av v.length rv, z, .fz w4 a4 u[i].length (pis u[i]), .fz wu au u.length ru, .int .i64 u.length, .int .i64 i, .fz wv av v.length rv, .int .i64 v.length, .int .i64 j] ∧ Keep σ h' ∧
      PAcc σ.next 1 h' z (brL p W B n (u.take i) v ++ (v.take j).map fun y => br p W B n (u.getD i []) y).length rows ∧ All2 FI rows (brL p W B n (u.take i) v ++ (v.take j).map fun y => br p W B n (u.getD i []) y)) v.length ?_ ?_
    · exact ⟨0, z, rows, by omega, by omega, rfl, hkp, by simpa using ha, by simpa using hrows⟩
    clear hkp ha hrows z rows
    rintro m vs h' ⟨j, z, rows, hj, rfl, rfl, hkp, ha, hrows⟩
    simp only [pwA, if_true, if_false, eq_self, nm_eq, reduceCtorEq, ↓reduceIte, nQ10, nQ7, nQ11, nQ12, nQ16, nQ17, nQ18, iQ2, iQ3, iQ4, iQ5, iQ6, lQ19, iQ7, lQ20]
    refine iteI (fun hlj => ?_) fun hgj => ?_
    · obtain ⟨w5, a5, hr5⟩ := hrv.rowI hlj
      have hvj := ev _ (List.getElem_mem hlj)
      simp only [pwA, if_true, if_false, eq_self, nm_eq, reduceCtorEq, ↓reduceIte, nQ10, nQ7, nQ11, nQ12, nQ16, nQ17, nQ18, iQ2, iQ3, iQ4, iQ5, iQ6, lQ19, iQ7, lQ20, hlj, hr5]
      refine bracket_fz (hs.keep hkp) hR o q hui hvj rfl rfl fun a6 => ?_
      have hb := bnd i j hlt hj
      simp only [pwA, if_true, if_false, eq_self, nm_eq, reduceCtorEq, ↓reduceIte, nQ10, nQ7, nQ11, nQ12, nQ16, nQ17, nQ18, iQ2, iQ3, iQ4, iQ5, iQ6, lQ19, iQ7, lQ20]
      refine PAcc.push (bytes := 24) hkp ha (by omega) (by omega) fun v' h2 k2 a2 => ?_
      simp only [pwA, if_true, if_false, eq_self, nm_eq, reduceCtorEq, ↓reduceIte, nQ10, nQ7, nQ11, nQ12, nQ16, nQ17, nQ18, iQ2, iQ3, iQ4, iQ5, iQ6, lQ19, iQ7, lQ20, wrapS hlj (by omega : v.length ≤ 4611686018427387904)]
      have e : (brL p W B n (u.take i) v ++ (v.take (j + 1)).map fun y => br p W B n (u.getD i []) y) = (brL p W B n (u.take i) v ++ (v.take j).map fun y => br p W B n (u.getD i []) y) ++ [br p W B n u[i] v[j]] := by
        rw [List.take_succ_eq_append_getElem hlj, List.map_append, List.append_assoc, hgd]; rfl
      refine ⟨_, by omega, j + 1, v', rows ++ [.fz true a6 n (pis (br p W B n u[i] v[j]))], by omega, rfl, rfl, k2, ?_, ?_⟩
      · rw [e, List.length_append]
        exact a2.acc
      · rw [e]
        exact hrows.snoc ⟨true, a6, by rw [(br_el o q).1]⟩
    · have hje : j = v.length := by omega
      subst hje
      have e : (brL p W B n (u.take i) v ++ (v.take v.length).map fun y => br p W B n (u.getD i []) y) = brL p W B n (u.take (i + 1)) v := by
        rw [List.take_length, List.take_succ_eq_append_getElem hlt, brL_snoc, hgd]
      rw [e] at ha hrows
      simp only [pwA, if_true, if_false, eq_self, nm_eq, reduceCtorEq, ↓reduceIte, nQ10, nQ7, nQ11, nQ12, nQ16, nQ17, nQ18, iQ2, iQ3, iQ4, iQ5, iQ6, lQ19, iQ7, lQ20, wrapS hlt (by omega : u.length ≤ 4611686018427387904)]
      exact ⟨_, by omega, i + 1, z, rows, by omega, rfl, rfl, hkp, ha, hrows⟩
  · have hie : i = u.length := by omega
    subst hie
    rw [List.take_length] at ha hrows
    exact ha.fin hkp (hrows.bI 0) fun a => hk _ ⟨true, a, rows, rfl, hrows⟩
theorem brackets_ok {u v : List (List Int)} (hs : PtrR σ s p vP vB) (hR : IsR vP vB W B) (o : OkW p n W) (q : OkB p n B) (hU : FII vU u) (hV : FII vV v) (eu : Els p n u) (ev : Els p n v) (hul : u.length ≤ 6) (hvl : v.length ≤ 6)
    (hk : ∀ z, FII z (brL p W B n u v) → K z σ) : PCalls Tryz.prog 136 [.ptr s 0, vU, vV] σ K := brackets_ok' hs hR o q hU hV eu ev hul (by omega) hk
end Go.Proofs
namespace Go.Proofs
open Go.Ab Go.Lie
variable {σ : PHeap} {K : PV → PHeap → Prop} {p p' : Int} {n : Nat} {W : List (List Int)} {B : List (List (List Int))} {vP vB vL vU vV : PV} {s : Nat}
theorem l32Whole_ok (hR : IsR vP vB W B) (hWn : W.length = n) (hn : n ≤ 1048576) (hk : ∀ v, FII v (units n) → K v σ) : PCalls Tryz.prog 212 [.agg [.int .i64 p, vP, vB]] σ K := by
  have h1 := hR.P.one
  have h2 := hR.B.one
  have hRR := hR
  obtain ⟨⟨wp, ap, rp, rfl, hrp⟩, hB⟩ := hR
  refine PCalls.gh ?_
  refine pcalls_of_vp mix Tryz.func212 cf212 rfl ?_
  dsimp only [if212, qI, eI, nI, qD, eD]
  simp only [pwA, if_true, if_false, eq_self, nm_eq, reduceCtorEq, ↓reduceIte, nQ10, nQ7, nQ11, nQ12, nQ16, nQ17, nQ18, iQ2, iQ3, iQ4, iQ5, iQ6, lQ19, iQ7, lQ20, h1, h2]
  generalize hH : σ.new [.int .i64 p, .fz wp ap W.length rp, vB] = H
  have hHn : H.next = σ.next + 1 := by rw [← hH]; simp only [pwA, if_true, if_false, eq_self, nm_eq, reduceCtorEq, ↓reduceIte, nQ10, nQ7, nQ11, nQ12, nQ16, nQ17, nQ18, iQ2, iQ3, iQ4, iQ5, iQ6, lQ19, iQ7, lQ20]
  have hHk : Keep σ H := by rw [← hH]; exact keep_new σ _
  have hob : H.obj σ.next = some [.int .i64 p, .fz wp ap W.length rp, vB] := by rw [← hH]; simp only [pwA, if_true, if_false, eq_self, nm_eq, reduceCtorEq, ↓reduceIte, nQ10, nQ7, nQ11, nQ12, nQ16, nQ17, nQ18, iQ2, iQ3, iQ4, iQ5, iQ6, lQ19, iQ7, lQ20]
  refine vp_loop (fun m vs h' => ∃ (i : Nat) (v : PV) (rows : List PV), i ≤ n ∧ m = n - i ∧ vs = [.ptr σ.next 0, v, .int .i64 i] ∧ Keep H h' ∧ PSl H.next 1 h' v i rows ∧ All2 FI rows ((units n).take i)) n ?_ ?_
  · refine ⟨0, _, [], by omega, by omega, rfl, keep_new H _, ?_, by rw [List.take_zero]; exact All2.nil _⟩
    rw [← hHn]
    exact PSl.new H.next 1 rfl (Nat.le_refl _)
  rintro m vs h' ⟨i, v, rows, hi, rfl, rfl, hkp, ha, hrows⟩
  have hob' : h'.obj σ.next = some [.int .i64 p, .fz wp ap W.length rp, vB] := by rw [hkp.obj _ (by omega)]; exact hob
  have hr1 : h'.rd1 σ.next 1 = some (.fz wp ap W.length rp) := by rw [obj_rd1 hob']; rfl
  have hr3 : h'.rd σ.next 0 3 = some [.int .i64 p, .fz wp ap W.length rp, vB] := by rw [obj_rd hob']; rfl
  simp only [pwA, if_true, if_false, eq_self, nm_eq, reduceCtorEq, ↓reduceIte, nQ10, nQ7, nQ11, nQ12, nQ16, nQ17, nQ18, iQ2, iQ3, iQ4, iQ5, iQ6, lQ19, iQ7, lQ20, hr1, hWn]
  refine iteI (fun hlt => ?_) fun hge => ?_
  · simp only [pwA, if_true, if_false, eq_self, nm_eq, reduceCtorEq, ↓reduceIte, nQ10, nQ7, nQ11, nQ12, nQ16, nQ17, nQ18, iQ2, iQ3, iQ4, iQ5, iQ6, lQ19, iQ7, lQ20, hr3]
    refine l31Unit_ok hRR hWn hn hlt fun a1 => ?_
    simp only [pwA, if_true, if_false, eq_self, nm_eq, reduceCtorEq, ↓reduceIte, nQ10, nQ7, nQ11, nQ12, nQ16, nQ17, nQ18, iQ2, iQ3, iQ4, iQ5, iQ6, lQ19, iQ7, lQ20]
    refine PSl.push (bytes := 24) hkp ha (by omega) (by omega) fun v' h2 k2 a2 => ?_
    simp only [pwA, if_true, if_false, eq_self, nm_eq, reduceCtorEq, ↓reduceIte, nQ10, nQ7, nQ11, nQ12, nQ16, nQ17, nQ18, iQ2, iQ3, iQ4, iQ5, iQ6, lQ19, iQ7, lQ20, wrapS hlt (by omega : n ≤ 4611686018427387904)]
    refine ⟨_, by omega, i + 1, v', _, by omega, rfl, rfl, k2, a2, ?_⟩
    rw [units_take hlt]
    exact hrows.snoc ⟨true, a1, by rw [unitL_length]⟩
  · have hie : i = n := by omega
    subst hie
    rw [List.take_of_length_le (by rw [units_length]; exact Nat.le_refl _)] at hrows
    obtain ⟨s', cap, rfl, hc, q2, q3, q4, q5⟩ := ha
    exact Gh.finF (hHk.trans hkp) q2 (by omega) (hrows.bI 0) hc.ok fun o1 => hk _ ⟨true, .sl o1 0 i cap, rows, by rw [units_length], hrows⟩
end Go.Proofs
namespace Go.Proofs
open Go.Ab Go.Lie
variable {σ : PHeap} {K : PV → PHeap → Prop} {p p' : Int} {n : Nat} {W : List (List Int)} {B : List (List (List Int))} {vP vB vL vU vV : PV} {s : Nat}
theorem okF125 : okF Tryz.prog 226 = true := by kernel_rfl
theorem EqualFunc_ok {xs ys : List (List Int)} (hU : FII vU xs) (hV : FII vV ys) (hx : xs.length ≤ 1048576) (hxl : ∀ x ∈ xs, x.length ≤ 1048576) (hk : ∀ t : Bool, (t = true ↔ xs = ys) → K (.bool t) σ) :
    PCalls Tryz.prog 273 [vU, vV, .clo 226 [] []] σ K := by
  have fl : ∀ {A : Prop}, ¬ A → ((false = true) ↔ A) := fun h => ⟨fun x => (by cases x), fun x => absurd x h⟩
  obtain ⟨wu, au, ru, rfl, hru⟩ := hU
  obtain ⟨wv, av, rv, rfl, hrv⟩ := hV
  refine pcalls_of_vp mix Tryz.func273 cf273 rfl ?_
  dsimp only [if273, qI, eI, nI, qD, eD]
  by_cases hl : xs.length = ys.length
  · simp only [pwA, if_true, if_false, eq_self, nm_eq, reduceCtorEq, ↓reduceIte, nQ10, nQ7, nQ11, nQ12, nQ16, nQ17, nQ18, iQ2, iQ3, iQ4, iQ5, iQ6, lQ19, iQ7, lQ20, hl]
    refine vp_loop (fun m vs h' => ∃ i : Nat, i ≤ ys.length ∧ m = ys.length - i ∧ vs = [.fz wv av ys.length rv, .clo 226 [] [], .fz wu au ys.length ru, .int .i64 ys.length, .int .i64 i] ∧ σ = h' ∧ xs.take i = ys.take i) ys.length ?_ ?_
    · exact ⟨0, by omega, by omega, rfl, rfl, by simp⟩
    rintro m vs h' ⟨i, hi, rfl, rfl, rfl, heq⟩
    simp only [pwA, if_true, if_false, eq_self, nm_eq, reduceCtorEq, ↓reduceIte, nQ10, nQ7, nQ11, nQ12, nQ16, nQ17, nQ18, iQ2, iQ3, iQ4, iQ5, iQ6, lQ19, iQ7, lQ20]
    refine iteI (fun hlt => ?_) fun hge => ?_
    · have hlx : i < xs.length := by omega
      obtain ⟨w4, a4, hr⟩ := hru.rowI hlx
      obtain ⟨w5, a5, hr5⟩ := hrv.rowI hlt
      simp only [pwA, if_true, if_false, eq_self, nm_eq, reduceCtorEq, ↓reduceIte, nQ10, nQ7, nQ11, nQ12, nQ16, nQ17, nQ18, iQ2, iQ3, iQ4, iQ5, iQ6, lQ19, iQ7, lQ20, hlt, hr, hr5]
      refine ⟨okF125, Equal_ok rfl rfl (by have := hxl _ (List.getElem_mem hlx); omega) ?_⟩
      by_cases he : xs[i] = ys[i]
      · simp only [pwA, if_true, if_false, eq_self, nm_eq, reduceCtorEq, ↓reduceIte, nQ10, nQ7, nQ11, nQ12, nQ16, nQ17, nQ18, iQ2, iQ3, iQ4, iQ5, iQ6, lQ19, iQ7, lQ20, he, wrapS hlt (by omega : ys.length ≤ 4611686018427387904)]
        exact ⟨_, by omega, i + 1, by omega, rfl, rfl, eqTake hl hlx heq he⟩
      · simp only [pwA, if_true, if_false, eq_self, nm_eq, reduceCtorEq, ↓reduceIte, nQ10, nQ7, nQ11, nQ12, nQ16, nQ17, nQ18, iQ2, iQ3, iQ4, iQ5, iQ6, lQ19, iQ7, lQ20, he]
        refine hk _ (fl fun e => ?_)
        subst e
        exact he rfl
    · have hie : i = ys.length := by omega
      subst hie
      refine hk _ ⟨fun _ => ?_, fun _ => rfl⟩
      rw [List.take_of_length_le (by omega), List.take_of_length_le (Nat.le_refl _)] at heq
      exact heq
  · have hlI : ((xs.length : Int) = (ys.length : Int)) = False := by simp; omega
    simp only [pwA, if_true, if_false, eq_self, nm_eq, reduceCtorEq, ↓reduceIte, nQ10, nQ7, nQ11, nQ12, nQ16, nQ17, nQ18, iQ2, iQ3, iQ4, iQ5, iQ6, lQ19, iQ7, lQ20, hlI]
    exact hk _ (fl fun e => hl (by rw [e]))
theorem sameRows_ok {xs ys : List (List Int)} (hU : FII vU xs) (hV : FII vV ys) (hx : xs.length ≤ 1048576) (hxl : ∀ x ∈ xs, x.length ≤ 1048576) (hk : ∀ t : Bool, (t = true ↔ xs = ys) → K (.bool t) σ) :
    PCalls Tryz.prog 208 [vU, vV] σ K := by
  refine pcalls_of_vp mix Tryz.func208 cf208 rfl ?_
  dsimp only [if208, qI, eI, nI, qD, eD]
  simp only [pwA, if_true, if_false, eq_self, nm_eq, reduceCtorEq, ↓reduceIte, nQ10, nQ7, nQ11, nQ12, nQ16, nQ17, nQ18, iQ2, iQ3, iQ4, iQ5, iQ6, lQ19, iQ7, lQ20]
  refine EqualFunc_ok hU hV hx hxl fun t ht => ?_
  simp only [pwA, if_true, if_false, eq_self, nm_eq, reduceCtorEq, ↓reduceIte, nQ10, nQ7, nQ11, nQ12, nQ16, nQ17, nQ18, iQ2, iQ3, iQ4, iQ5, iQ6, lQ19, iQ7, lQ20]
  exact hk t ht
end Go.Proofs
namespace Go.Proofs
open Go.Ab Go.Lie
variable {σ : PHeap} {K : PV → PHeap → Prop} {p p' : Int} {n : Nat} {W : List (List Int)} {B : List (List (List Int))} {vP vB vL vU vV : PV} {s : Nat}
theorem l32Brackets_ok {u v : List (List Int)} (hR : IsR vP vB W B) (o : OkW p n W) (q : OkB p n B) (hp : isP p) (hU : FII vU u) (hV : FII vV v) (eu : Els p n u) (ev : Els p n v) (hul : u.length ≤ 6) (hvl : v.length ≤ 6)
    (hk : ∀ z out, Canon p n W (brL p W B n u v) out → FII z out → K z σ) : PCalls Tryz.prog 160 [.agg [.int .i64 p, vP, vB], vU, vV] σ K := by
  have h1 := hR.P.one
  have h2 := hR.B.one
  obtain ⟨wu, au, ru, rfl, hru⟩ := hU
  obtain ⟨wv, av, rv, rfl, hrv⟩ := hV
  have bnd : ∀ (i j : Nat), i < u.length → j ≤ v.length → (brL p W B n (u.take i) v ++ (v.take j).map fun y => br p W B n (u.getD i []) y).length ≤ 42 := fun i j hi hj => by
    rw [List.length_append, brL_length, List.length_map, List.length_take, List.length_take]
    have : min i u.length * v.length ≤ 6 * 6 := Nat.mul_le_mul (by omega) hvl
    omega
  refine PCalls.gh ?_
  refine pcalls_of_vp mix Tryz.func160 cf160 rfl ?_
  dsimp only [if160, qI, eI, nI, qD, eD]
  simp only [pwA, if_true, if_false, eq_self, nm_eq, reduceCtorEq, ↓reduceIte, nQ10, nQ7, nQ11, nQ12, nQ16, nQ17, nQ18, iQ2, iQ3, iQ4, iQ5, iQ6, lQ19, iQ7, lQ20, h1, h2]
  generalize hH : σ.new [.int .i64 p, vP, vB] = H
  have hHn : H.next = σ.next + 1 := by rw [← hH]; simp only [pwA, if_true, if_false, eq_self, nm_eq, reduceCtorEq, ↓reduceIte, nQ10, nQ7, nQ11, nQ12, nQ16, nQ17, nQ18, iQ2, iQ3, iQ4, iQ5, iQ6, lQ19, iQ7, lQ20]
  have hHk : Keep σ H := by rw [← hH]; exact keep_new σ _
  have hob : H.obj σ.next = some [.int .i64 p, vP, vB] := by rw [← hH]; simp only [pwA, if_true, if_false, eq_self, nm_eq, reduceCtorEq, ↓reduceIte, nQ10, nQ7, nQ11, nQ12, nQ16, nQ17, nQ18, iQ2, iQ3, iQ4, iQ5, iQ6, lQ19, iQ7, lQ20]
  refine vp_loop (fun m vs h' => ∃ (i : Nat) (z : PV) (rows : List PV), i ≤ u.length ∧ m = u.length - i ∧ vs = [.fz wu au u.length ru, .fz wv av v.length rv, .ptr σ.next 0, z, .int .i64 i] ∧ Keep H h' ∧ PSl H.next 1 h' z (brL p W B n (u.take i) v).length rows ∧ All2 FI rows (brL p W B n (u.take i) v)) u.length ?_ ?_
  · refine ⟨0, _, [], by omega, by omega, rfl, keep_new H _, ?_, by rw [List.take_zero]; exact All2.nil _⟩
    rw [← hHn]
    exact PSl.new H.next 1 rfl (Nat.le_refl _)
  rintro m vs h' ⟨i, z, rows, hi, rfl, rfl, hkp, ha, hrows⟩
  simp only [pwA, if_true, if_false, eq_self, nm_eq, reduceCtorEq, ↓reduceIte, nQ10, nQ7, nQ11, nQ12, nQ16, nQ17, nQ18, iQ2, iQ3, iQ4, iQ5, iQ6, lQ19, iQ7, lQ20]
  refine iteI (fun hlt => ?_) fun hge => ?_
  · obtain ⟨w4, a4, hr⟩ := hru.rowI hlt
    have hui := eu _ (List.getElem_mem hlt)
    have hgd : u.getD i [] = u[i] := by simp [List.getD_eq_getElem?_getD, hlt]
    refine vp_loop (fun m vs h' => ∃ (j : Nat) (z : PV) (rows : List PV), j ≤ v.length ∧ m = v.length - j ∧ vs = [.fz wu au u.length ru, .fz wv av v.length rv, .ptr σ.next 0, z, .int .i64 i, .int .i64 j] ∧ Keep H h' ∧
      PSl H.next 1 h' z (brL p W B n (u.take i) v ++ (v.take j).map fun y => br p W B n (u.getD i []) y).length rows ∧ All2 FI rows (brL p W B n (u.take i) v ++ (v.take j).map fun y => br p W B n (u.getD i []) y)) v.length ?_ ?_
    · exact ⟨0, z, rows, by omega, by omega, rfl, hkp, by simpa using ha, by simpa using hrows⟩
    clear hkp ha hrows z rows
    rintro m vs h' ⟨j, z, rows, hj, rfl, rfl, hkp, ha, hrows⟩
    have hob' : h'.obj σ.next = some [.int .i64 p, vP, vB] := by rw [hkp.obj _ (by omega)]; exact hob
    have hr3 : h'.rd σ.next 0 3 = some [.int .i64 p, vP, vB] := by rw [obj_rd hob']; rfl
    simp only [pwA, if_true, if_false, eq_self, nm_eq, reduceCtorEq, ↓reduceIte, nQ10, nQ7, nQ11, nQ12, nQ16, nQ17, nQ18, iQ2, iQ3, iQ4, iQ5, iQ6, lQ19, iQ7, lQ20]
    refine iteI (fun hlj => ?_) fun hgj => ?_
    · obtain ⟨w5, a5, hr5⟩ := hrv.rowI hlj
      have hvj := ev _ (List.getElem_mem hlj)
      simp only [pwA, if_true, if_false, eq_self, nm_eq, reduceCtorEq, ↓reduceIte, nQ10, nQ7, nQ11, nQ12, nQ16, nQ17, nQ18, iQ2, iQ3, iQ4, iQ5, iQ6, lQ19, iQ7, lQ20, hlj, hr5, hlt, hr, hr3]
      refine l31Bracket_ok hR o q hui hvj rfl rfl fun a6 => ?_
      have hb := bnd i j hlt hj
      simp only [pwA, if_true, if_false, eq_self, nm_eq, reduceCtorEq, ↓reduceIte, nQ10, nQ7, nQ11, nQ12, nQ16, nQ17, nQ18, iQ2, iQ3, iQ4, iQ5, iQ6, lQ19, iQ7, lQ20]
      refine PSl.push (bytes := 24) hkp ha (by omega) (by omega) fun v' h2 k2 a2 => ?_
      simp only [pwA, if_true, if_false, eq_self, nm_eq, reduceCtorEq, ↓reduceIte, nQ10, nQ7, nQ11, nQ12, nQ16, nQ17, nQ18, iQ2, iQ3, iQ4, iQ5, iQ6, lQ19, iQ7, lQ20, wrapS hlj (by omega : v.length ≤ 4611686018427387904)]
      have e : (brL p W B n (u.take i) v ++ (v.take (j + 1)).map fun y => br p W B n (u.getD i []) y) = (brL p W B n (u.take i) v ++ (v.take j).map fun y => br p W B n (u.getD i []) y) ++ [br p W B n u[i] v[j]] := by
        rw [List.take_succ_eq_append_getElem hlj, List.map_append, List.append_assoc, hgd]; rfl
      refine ⟨_, by omega, j + 1, v', rows ++ [.fz true a6 n (pis (br p W B n u[i] v[j]))], by omega, rfl, rfl, k2, ?_, ?_⟩
      · rw [e, List.length_append]
        exact a2
      · rw [e]
        exact hrows.snoc ⟨true, a6, by rw [(br_el o q).1]⟩
    · have hje : j = v.length := by omega
      subst hje
      have e : (brL p W B n (u.take i) v ++ (v.take v.length).map fun y => br p W B n (u.getD i []) y) = brL p W B n (u.take (i + 1)) v := by
        rw [List.take_length, List.take_succ_eq_append_getElem hlt, brL_snoc, hgd]
      rw [e] at ha hrows
      simp only [pwA, if_true, if_false, eq_self, nm_eq, reduceCtorEq, ↓reduceIte, nQ10, nQ7, nQ11, nQ12, nQ16, nQ17, nQ18, iQ2, iQ3, iQ4, iQ5, iQ6, lQ19, iQ7, lQ20, wrapS hlt (by omega : u.length ≤ 4611686018427387904)]
      exact ⟨_, by omega, i + 1, z, rows, by omega, rfl, rfl, hkp, ha, hrows⟩
  · have hie : i = u.length := by omega
    subst hie
    rw [List.take_length] at ha hrows
    obtain ⟨s', cap, rfl, hc, q2, q3, q4, q5⟩ := ha
    have hob' : h'.obj σ.next = some [.int .i64 p, vP, vB] := by rw [hkp.obj _ (by omega)]; exact hob
    have hr3 : h'.rd σ.next 0 3 = some [.int .i64 p, vP, vB] := by rw [obj_rd hob']; rfl
    simp only [pwA, if_true, if_false, eq_self, nm_eq, reduceCtorEq, ↓reduceIte, nQ10, nQ7, nQ11, nQ12, nQ16, nQ17, nQ18, iQ2, iQ3, iQ4, iQ5, iQ6, lQ19, iQ7, lQ20, hr3]
    refine PCalls.frz q2 (hrows.bI 0) fun o1 => ?_
    have hl : (brL p W B n u v).length ≤ 1048576 := by
      rw [brL_length]
      have : u.length * v.length ≤ 6 * 6 := Nat.mul_le_mul hul hvl
      omega
    obtain ⟨⟨wp, ap, rp, rfl, hrp⟩, wb, ab, rb, rfl, hrb⟩ := hR
    simp only [sbs, sb, hc.ok, and_self, if_true]
    refine l32Span_ok ⟨⟨wp, ap, rp, rfl, hrp⟩, wb, ab, rb, rfl, hrb⟩ o hp ⟨true, _, rows, rfl, hrows⟩ (brL_els o q _ _) hl fun z out hcan hz => ?_
    obtain ⟨wz, az, rz, rfl, hrz⟩ := hz
    simp only [pwA, if_true, if_false, eq_self, nm_eq, reduceCtorEq, ↓reduceIte, nQ10, nQ7, nQ11, nQ12, nQ16, nQ17, nQ18, iQ2, iQ3, iQ4, iQ5, iQ6, lQ19, iQ7, lQ20]
    exact Gh.fin0 ((hHk.trans hkp).kill (by omega)) trivial (hk _ out hcan ⟨wz, az, rz, rfl, hrz⟩)
end Go.Proofs
namespace Go.Proofs
open Go.Ab Go.Lie
variable {p : Int} {n : Nat} {W : List (List Int)} {B : List (List (List Int))}
def brv (B : List (List (List Int))) (n : Nat) (f g : Vec) : Vec := fun t => sumN n fun i => sumN (n - 1 - i) fun j => (f i * g (i + 1 + j) - f (i + 1 + j) * g i) * at_ ((B.getD i []).getD j []) t
theorem bsum_brv (q : OkB p n B) (a b : List Int) (t : Nat) : at_ (bsum B a b n) t = brv B n (at_ a) (at_ b) t := bi_at q t (Nat.le_refl _)
theorem brv_add (f f' g : Vec) (t : Nat) : brv B n (fun j => f j + f' j) g t = brv B n f g t + brv B n f' g t := by
  simp only [brv]
  rw [← sumN_add]
  refine sumN_congr fun i _ => ?_
  rw [← sumN_add]
  refine sumN_congr fun j _ => ?_
  grind
theorem brv_mul (k : Int) (f g : Vec) (t : Nat) : brv B n (fun j => k * f j) g t = k * brv B n f g t := by
  simp only [brv]
  rw [← sumN_mul]
  refine sumN_congr fun i _ => ?_
  rw [← sumN_mul]
  refine sumN_congr fun j _ => ?_
  grind
theorem brv_anti (f g : Vec) (t : Nat) : brv B n f g t = -1 * brv B n g f t := by
  simp only [brv]
  rw [← sumN_mul]
  refine sumN_congr fun i _ => ?_
  rw [← sumN_mul]
  refine sumN_congr fun j _ => ?_
  grind
theorem brv_congr {f f' g g' : Vec} (h : ∀ j, j < n → f j = f' j) (h' : ∀ j, j < n → g j = g' j) (t : Nat) : brv B n f g t = brv B n f' g' t := by
  simp only [brv]
  refine sumN_congr fun i hi => sumN_congr fun j hj => ?_
  rw [h i hi, h _ (by omega : i + 1 + j < n), h' i hi, h' _ (by omega : i + 1 + j < n)]
theorem brv_sum (g : Vec) (t : Nat) : ∀ (m : Nat) (F : Nat → Vec), brv B n (fun j => sumN m fun k => F k j) g t = sumN m fun k => brv B n (F k) g t
  | 0, F => by
    simp only [sumN]
    have := brv_mul (B := B) (n := n) 0 (fun _ => 0) g t
    simpa using this
  | m + 1, F => by
    simp only [sumN]
    rw [brv_add, brv_sum g t m F]
end Go.Proofs
namespace Go.Proofs
open Go.Ab Go.Lie
variable {p : Int} {n : Nat} {W : List (List Int)} {B : List (List (List Int))}
theorem eqv_sum0 : ∀ (m : Nat) (F : Nat → Vec), (∀ k, k < m → Eqv p n W (F k) fun _ => 0) → Eqv p n W (fun j => sumN m fun k => F k j) fun _ => 0
  | 0, F, _ => Eqv.of_eq fun j => rfl
  | m + 1, F, h => ((eqv_sum0 m F fun k hk => h k (by omega)).add (h m (by omega))).trans (Eqv.of_eq fun j => rfl)
theorem unit_at {j i : Nat} (hj : j < n) : at_ (unitL n j) i = if i = j then 1 else 0 := by
  rw [unitL, at_set (by simpa using hj), at_rep]
theorem vec_sum (g : Vec) {i : Nat} (hi : i < n) : g i = sumN n fun k => g k * at_ (unitL n k) i := by
  rw [sumN_one hi fun k hk hne => by rw [unit_at hk, if_neg (fun e => hne e.symm), Int.mul_zero]]
  rw [unit_at hi, if_pos rfl, Int.mul_one]
theorem brv_rel (o : OkW p n W) (q : OkB p n B) (nf : NoFault p W B n) {i : Nat} (hi : i < n) (g : Vec) : Eqv p n W (brv B n (rel p W i) g) fun _ => 0 := by
  have one : ∀ j, j < n → Eqv p n W (brv B n (rel p W i) (at_ (unitL n j))) fun _ => 0 := fun j hj => by
    have hF := nf.1 i j hi hj
    unfold F1 at hF
    have ha := (mul_eqv o (br_el o q (a := unitL n i) (b := unitL n j)) p).2
    have hb : Eqv p n W (at_ (br p W B n (unitL n i) (unitL n j))) (at_ (bsum B (unitL n i) (unitL n j) n)) := norm_eqv o (bsum_length q)
    have hc : Eqv p n W (at_ (br p W B n (W.getD i []) (unitL n j))) (at_ (bsum B (W.getD i []) (unitL n j) n)) := norm_eqv o (bsum_length q)
    rw [← hF] at hc
    have hd : Eqv p n W (fun t => p * at_ (bsum B (unitL n i) (unitL n j) n) t) (at_ (bsum B (W.getD i []) (unitL n j) n)) := ((hb.mul p).symm.trans ha.symm).trans hc
    have he := hd.symm.add (Eqv.refl (p := p) (n := n) (W := W) fun t => -1 * (p * at_ (bsum B (unitL n i) (unitL n j) n) t))
    refine (Eqv.of_eq fun t => ?_).trans (he.trans (Eqv.of_eq fun t => by grind))
    rw [bsum_brv q, bsum_brv q, ← brv_mul, ← brv_mul, ← brv_add]
    refine brv_congr (fun k hk => ?_) (fun _ _ => rfl) t
    rw [unit_at hi, rel]
    by_cases e : k = i
    · rw [if_pos e, if_pos e]; grind
    · rw [if_neg e, if_neg e]; grind
  refine (Eqv.of_eq fun t => ?_).trans (eqv_sum0 n (fun k t => g k * brv B n (rel p W i) (at_ (unitL n k)) t) fun k hk => ((one k hk).mul (g k)).trans (Eqv.of_eq fun t => by grind))
  rw [brv_anti, brv_congr (f' := fun j => sumN n fun k => g k * at_ (unitL n k) j) (g' := rel p W i) (fun j hj => vec_sum g hj) (fun _ _ => rfl), brv_sum (t := t) (g := rel p W i) n (fun k j => g k * at_ (unitL n k) j), ← sumN_mul]
  refine sumN_congr fun k hk => ?_
  rw [brv_mul, brv_anti (f := at_ (unitL n k))]
  grind
theorem brv_eqv (o : OkW p n W) (q : OkB p n B) (nf : NoFault p W B n) {f f' : Vec} (g : Vec) (h : Eqv p n W f f') : Eqv p n W (brv B n f g) (brv B n f' g) := by
  obtain ⟨c, hc⟩ := h
  have h0 := eqv_sum0 n (fun i t => c i * brv B n (rel p W i) g t) fun k hk => ((brv_rel o q nf hk g).mul (c k)).trans (Eqv.of_eq fun t => by grind)
  refine (Eqv.of_eq fun t => ?_).trans (((Eqv.refl (brv B n f' g)).add h0).trans (Eqv.of_eq fun t => by grind))
  rw [brv_congr (f' := fun j => f' j + sumN n fun i => c i * rel p W i j) (g' := g) (fun j _ => hc j) (fun _ _ => rfl), brv_add, brv_sum (t := t) (g := g) n (fun i j => c i * rel p W i j)]
  congr 1
  exact sumN_congr fun k hk => by rw [brv_mul]
theorem brv_eqv2 (o : OkW p n W) (q : OkB p n B) (nf : NoFault p W B n) {g g' : Vec} (f : Vec) (h : Eqv p n W g g') : Eqv p n W (brv B n f g) (brv B n f g') :=
  ((Eqv.of_eq fun t => brv_anti f g t).trans ((brv_eqv o q nf f h).mul (-1))).trans (Eqv.of_eq fun t => (brv_anti f g' t).symm)
end Go.Proofs
namespace Go.Proofs
open Go.Ab Go.Lie
variable {p : Int} {n : Nat} {W : List (List Int)} {B : List (List (List Int))}
theorem br_eqv (o : OkW p n W) (q : OkB p n B) (a b : List Int) : Eqv p n W (at_ (br p W B n a b)) (brv B n (at_ a) (at_ b)) :=
  (norm_eqv o (bsum_length q)).trans (Eqv.of_eq fun t => bsum_brv q a b t)
theorem lmul_eqv (o : OkW p n W) {x : List Int} (hx : El p n x) (k : Int) : Eqv p n W (at_ (lmul p W k x)) fun j => k * at_ x j := (mul_eqv o hx k).2
theorem ladd_eqv (o : OkW p n W) {x y : List Int} (hx : El p n x) (hy : El p n y) : Eqv p n W (at_ (ladd p W x y)) fun j => at_ x j + at_ y j :=
  (norm_eqv o (by rw [lmix_length (hx.1.trans hy.1.symm)]; exact hx.1)).trans (Eqv.of_eq fun j => by rw [lmix_at (hx.1.trans hy.1.symm)]; omega)
theorem brv_mul2 (k : Int) (f g : Vec) (t : Nat) : brv B n f (fun j => k * g j) t = k * brv B n f g t := by
  rw [brv_anti, brv_mul, brv_anti g f]; grind
end Go.Proofs
namespace Go.Proofs
open Go.Ab Go.Lie
variable {p : Int} {n : Nat} {W : List (List Int)} {B : List (List (List Int))}
theorem brv_units (g f : Vec) (t : Nat) : brv B n f g t = sumN n fun k => g k * brv B n f (at_ (unitL n k)) t := by
  rw [brv_anti, brv_congr (f' := fun j => sumN n fun k => g k * at_ (unitL n k) j) (g' := f) (fun j hj => vec_sum g hj) (fun _ _ => rfl), brv_sum (t := t) (g := f) n (fun k j => g k * at_ (unitL n k) j), ← sumN_mul]
  refine sumN_congr fun k hk => ?_
  rw [brv_mul, brv_anti (f := at_ (unitL n k))]
  grind
theorem gen_br (o : OkW p n W) (q : OkB p n B) (nf : NoFault p W B n) {u : List (List Int)} {f : Vec} (hf : Gen p n W u f) : ∀ g : Vec, Gen p n W (brL p W B n u (units n)) (brv B n f g) := by
  have hS := gen_sub (p := p) (n := n) (W := W) (brL p W B n u (units n))
  refine gen_le (S := fun f => ∀ g : Vec, Gen p n W (brL p W B n u (units n)) (brv B n f g)) ⟨fun g => ?_, fun f f' h h' g => ?_, fun k f h g => ?_, fun f f' h h' g => ?_⟩ (fun v hv g => ?_) hf
  · refine hS.eqv _ _ (Eqv.of_eq fun t => ?_) hS.zero
    have := brv_mul (B := B) (n := n) 0 (fun _ => 0) g t
    simpa using this
  · exact hS.eqv _ _ (Eqv.of_eq fun t => brv_add f f' g t) (hS.add _ _ (h g) (h' g))
  · exact hS.eqv _ _ (Eqv.of_eq fun t => brv_mul k f g t) (hS.mul k _ (h g))
  · exact hS.eqv _ _ (brv_eqv o q nf g h) (h' g)
  · refine hS.eqv _ _ (Eqv.of_eq fun t => brv_units g (at_ v) t) (hS.sum fun k hk => hS.mul (g k) _ ?_)
    refine hS.eqv _ _ (br_eqv o q v (unitL n k)).symm (gen_mem (List.mem_flatMap.2 ⟨v, hv, List.mem_map.2 ⟨unitL n k, ?_, rfl⟩⟩))
    exact List.mem_map.2 ⟨k, List.mem_range.2 hk, rfl⟩
end Go.Proofs
namespace Go.Lie
open Go.Ab
variable {p : Int} {n : Nat} {W : List (List Int)}
theorem redL_in (o : OkW p n W) {u : List (List Int)} {x : List Int} (hu : Base p n W u) (hx : El p n x) : (∀ j, at_ (redL p W u x) j = 0) ↔ Gen p n W u (at_ x) := by
  have h1 := redL_gen o hu.els hx
  have hel := redL_el o hu.els hx
  constructor
  · intro h
    refine (gen_sub _).eqv _ _ (Eqv.of_eq fun j => ?_) h1
    rw [h j]; omega
  · intro h
    have h2 : Gen p n W u (at_ (redL p W u x)) := (gen_sub _).eqv _ _ (Eqv.of_eq fun j => by omega) ((gen_sub _).sub h h1)
    rcases Nat.lt_or_ge (dep (redL p W u x)) n with hd | hd
    · obtain ⟨v, hv, e⟩ := gen_dep o hu hel h2 hd
      have := (redL_at o hu.led hu.asc hx).1 v hv
      rw [e] at this
      exact absurd this (dep_ne (by rw [hel.1]; exact hd))
    · intro j
      rcases Nat.lt_or_ge j n with g | g
      · exact dep_zero (by omega)
      · exact hel.beyond g
end Go.Lie
namespace Go.Lie
open Go.Ab
variable {p : Int} {n : Nat} {W : List (List Int)}
theorem asc_sub : ∀ {b a : List Nat}, a.Pairwise (· < ·) → b.Pairwise (· < ·) → (∀ x ∈ a, x ∈ b) → a.length ≤ b.length ∧ (b.length ≤ a.length → a = b)
  | [], [], _, _, _ => ⟨Nat.le_refl _, fun _ => rfl⟩
  | [], x :: a, _, _, h => by cases h x (by simp)
  | y :: b, [], _, _, _ => ⟨by simp, fun h => by simp at h⟩
  | y :: b, x :: a, ha, hb, h => by
    have ha' := List.pairwise_cons.1 ha
    have hb' := List.pairwise_cons.1 hb
    by_cases e : x = y
    · subst e
      have ih := asc_sub (b := b) (a := a) ha'.2 hb'.2 fun z hz => by
        rcases List.mem_cons.1 (h z (by simp [hz])) with e | e
        · have := ha'.1 z hz; omega
        · exact e
      refine ⟨by simp only [List.length_cons]; omega, fun hl => ?_⟩
      rw [ih.2 (by simp only [List.length_cons] at hl; omega)]
    · have hx : x ∈ b := by
        rcases List.mem_cons.1 (h x (by simp)) with e2 | e2
        · exact absurd e2 e
        · exact e2
      have hyx := hb'.1 x hx
      have ih := asc_sub (b := b) (a := x :: a) ha hb'.2 fun z hz => by
        rcases List.mem_cons.1 (h z hz) with e2 | e2
        · rcases List.mem_cons.1 hz with e3 | e3
          · omega
          · have := ha'.1 z e3; omega
        · exact e2
      exact ⟨by have := ih.1; simp only [List.length_cons] at this ⊢; omega, fun hl => by have := ih.1; simp only [List.length_cons] at this hl; omega⟩
theorem Base.deps {u : List (List Int)} (h : Base p n W u) : (u.map dep).Pairwise (· < ·) := by
  have := h.asc
  unfold Asc at this
  rw [List.pairwise_map]
  exact this
theorem base_le (o : OkW p n W) {u v : List (List Int)} (hu : Base p n W u) (hv : Base p n W v) (h : ∀ f, Gen p n W u f → Gen p n W v f) : u.length ≤ v.length ∧ (v.length ≤ u.length → ∀ f, Gen p n W v f → Gen p n W u f) := by
  have hd : ∀ x ∈ u.map dep, x ∈ v.map dep := fun x hx => by
    obtain ⟨y, hy, rfl⟩ := List.mem_map.1 hx
    have ly := hu.led y hy
    obtain ⟨z, hz, e⟩ := gen_dep o hv ly.1 (h _ (gen_mem hy)) ly.2.1
    exact List.mem_map.2 ⟨z, hz, e⟩
  have hs := asc_sub hu.deps hv.deps hd
  simp only [List.length_map] at hs
  refine ⟨hs.1, fun hl f hf => ?_⟩
  have he := hs.2 hl
  obtain ⟨z, hz, e, hg⟩ := gen_rep o hv.els hf
  refine (gen_sub u).eqv _ _ e ((redL_in o hu hz).1 ?_)
  have h1 := redL_gen o hu.els hz
  have hel := redL_el o hu.els hz
  have h2 : Gen p n W v (at_ (redL p W u z)) := (gen_sub v).eqv _ _ (Eqv.of_eq fun j => by omega) ((gen_sub v).sub hg (h _ h1))
  rcases Nat.lt_or_ge (dep (redL p W u z)) n with hd | hd
  · obtain ⟨x, hx, ex⟩ := gen_dep o hv hel h2 hd
    have hm : dep x ∈ u.map dep := by rw [he]; exact List.mem_map_of_mem hx
    obtain ⟨y, hy, ey⟩ := List.mem_map.1 hm
    have := (redL_at o hu.led hu.asc hz).1 y hy
    rw [ey, ex] at this
    exact absurd this (dep_ne (by rw [hel.1]; exact hd))
  · intro j
    rcases Nat.lt_or_ge j n with g | g
    · exact dep_zero (by omega)
    · exact hel.beyond g
theorem Canon.els {L u : List (List Int)} (c : Canon p n W L u) : ∀ v ∈ u, El p n v := c.base.els
theorem Canon.len {L u : List (List Int)} (c : Canon p n W L u) : u.length ≤ n := asc_length (fun v hv => (c.base.led v hv).2.1) c.base.asc
end Go.Lie
