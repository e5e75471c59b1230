/- Plain law: the steps by which a list is grown. -/
import Derived.Test.YthgccplmmogcnaaCVM04
set_option linter.unusedVariables false
set_option linter.unusedSimpArgs false
namespace Go.Lie
open Go.Ab
variable {p : Int} {n : Nat} {W : List (List Int)}

theorem small_zero (hp : 0 < p) {a k : Int} (h : 0 ≤ a ∧ a ≤ p - 1) (e : a = 0 - k * p) : a = 0 := by
  rcases Int.lt_trichotomy k 0 with x | x | x
  · have := Int.mul_le_mul_of_nonneg_right (show k ≤ -1 by omega) (show 0 ≤ p by omega)
    omega
  · rw [x] at e; omega
  · have := Int.mul_le_mul_of_nonneg_right (show 1 ≤ k by omega) (show 0 ≤ p by omega)
    omega
theorem eqv_zero (o : OkW p n W) {z : List Int} {g : Vec} (hz : El p n z) (h : Eqv p n W (at_ z) g) {m : Nat} (hm : m ≤ n) (hg : ∀ j, j < m → g j = 0) : ∀ j, j < m → at_ z j = 0 := by
  intro j hj
  have hp := o.pr
  unfold okp at hp
  obtain ⟨k, hk⟩ := (eqv_head o h (d := j) (by omega) (fun i _ => hz.at0 o i) (fun i hi => by rw [hg i (by omega)]; omega)).2
  rw [hg j hj] at hk
  exact small_zero (by omega) (hz.at0 o j) hk

theorem Fp_all {u : List (List Int)} {d : Nat} (h : ∀ v ∈ u, d ≤ dep v) : Fp u d = u := List.filter_eq_self.2 fun v hv => by simpa using h v hv
/-- What lies before an element's depth does nothing to it. -/
theorem redL_fp (o : OkW p n W) : ∀ {u : List (List Int)} {g : List Int}, (∀ v ∈ u, El p n v) → Asc u → El p n g → redL p W u g = redL p W (Fp u (dep g)) g
  | [], g, _, _, _ => rfl
  | v :: u, g, hu, ha, hg => by
    obtain ⟨h1, h2⟩ := List.pairwise_cons.1 ha
    by_cases hd : dep g ≤ dep v
    · rw [Fp_all]
      intro w hw
      rcases List.mem_cons.1 hw with rfl | hw
      · exact hd
      · have := h1 w hw; omega
    · have e : Fp (v :: u) (dep g) = Fp u (dep g) := by rw [Fp, List.filter_cons, if_neg (by simpa using hd)]
      rw [e, redL, red1_same o hg (hu v (by simp)) (dep_zero (by omega))]
      exact redL_fp o (fun w hw => hu w (by simp [hw])) h2 hg
theorem Fp_mem {u : List (List Int)} {d : Nat} {v : List Int} : v ∈ Fp u d ↔ v ∈ u ∧ d ≤ dep v := by simp [Fp]
theorem redL_dep (o : OkW p n W) {u : List (List Int)} {g : List Int} (hu : ∀ v ∈ u, Led p n v) (ha : Asc u) (hg : El p n g) : dep g ≤ dep (redL p W u g) := by
  have hel := redL_el o (fun v hv => (hu v hv).1) hg
  refine dep_ge (by rw [hel.1, ← hg.1]; exact dep_le g) fun j hj => ?_
  rw [redL_fp o (fun v hv => (hu v hv).1) ha hg]
  have := (redL_at o (u := Fp u (dep g)) (fun v hv => hu v (Fp_mem.1 hv).1) (ha.sublist List.filter_sublist) hg).2 j fun v hv => by have := (Fp_mem.1 hv).2; omega
  rw [this]
  exact dep_zero hj
theorem Grow.reduce (o : OkW p n W) {gens u Q : List (List Int)} {g : List Int} (h : Grow p n W gens u (g :: Q)) : Grow p n W gens u (redL p W u g :: Q) := by
  have hg := h.els g (by simp)
  have he : ∀ v ∈ u, El p n v := fun v hv => (h.led v hv).1
  refine h.replace (redL_el o he hg) (redL_dep o h.led h.asc hg) ?_
  rw [redL_fp o he h.asc hg]
  exact redL_gen o (fun v hv => he v (Fp_mem.1 hv).1) hg
/-- One step only: by an element of the list at the depth itself. -/
theorem Grow.reduce1 (o : OkW p n W) {gens u Q : List (List Int)} {g v : List Int} (h : Grow p n W gens u (g :: Q)) (hv : v ∈ u) (hd : dep v = dep g) : Grow p n W gens u (red1 p W g v :: Q) ∧ dep g < dep (red1 p W g v) := by
  have hg := h.els g (by simp)
  have lv := h.led v hv
  have hel := red1_el o hg lv.1
  have hdd : dep g < dep (red1 p W g v) := dep_ge (by rw [hel.1]; have := lv.2.1; omega) fun j hj => by
    rw [red1_at o hg lv (by omega)]
    split
    · rfl
    · exact dep_zero (by omega)
  refine ⟨h.replace hel (by omega) ?_, hdd⟩
  have q1 := (gen_sub (p := p) (n := n) (W := W) (Fp u (dep g))).mul (at_ g (dep v)) _ (gen_mem (Fp_mem.2 ⟨hv, by omega⟩))
  refine (gen_sub _).eqv _ _ ?_ q1
  have := (red1_eqv o hg lv.1).symm.add (Eqv.refl (p := p) (n := n) (W := W) fun j => at_ g (dep v) * at_ v j - at_ (red1 p W g v) j)
  refine (Eqv.of_eq fun j => ?_).trans (this.trans (Eqv.of_eq fun j => ?_))
  · omega
  · omega

/-- A multiple of an element, in normal form. -/
theorem mul_eqv (o : OkW p n W) {x : List Int} (hx : El p n x) (k : Int) : El p n (norm p W (lmix k x 0 x)) ∧ Eqv p n W (at_ (norm p W (lmix k x 0 x))) fun j => k * at_ x j := by
  have hl : (lmix k x 0 x).length = n := by rw [lmix_length rfl]; exact hx.1
  exact ⟨norm_El o hl, (norm_eqv o hl).trans (Eqv.of_eq fun j => by rw [lmix_at rfl]; omega)⟩
/-- .. by what makes its first entry 1. -/
theorem scale_led (o : OkW p n W) {x : List Int} (hx : El p n x) (hd : dep x < n) {k : Int} (hk : at_ x (dep x) * k % p = 1) :
    Led p n (norm p W (lmix k x 0 x)) ∧ dep (norm p W (lmix k x 0 x)) = dep x ∧ Gen p n W [norm p W (lmix k x 0 x)] (at_ x) ∧ Gen p n W [x] (at_ (norm p W (lmix k x 0 x))) := by
  have hp := o.pr
  unfold okp at hp
  have hl : (lmix k x 0 x).length = n := by rw [lmix_length rfl]; exact hx.1
  obtain ⟨hel, heq⟩ := mul_eqv o hx k
  have hz : ∀ j, j < dep x → at_ (lmix k x 0 x) j = 0 := fun j hj => by rw [lmix_at rfl, dep_zero hj]; simp
  have h1 := norm_head o hl (by omega) hz
  have h2 := norm_lead o hl hd hz
  have e : at_ (lmix k x 0 x) (dep x) = at_ x (dep x) * k := by rw [lmix_at rfl, Int.mul_comm k]; omega
  rw [e, hk] at h2
  have hdep : dep (norm p W (lmix k x 0 x)) = dep x := dep_eq h1 (by rw [h2]; decide)
  refine ⟨⟨hel, by rw [hdep]; exact hd, by rw [hdep]; exact h2⟩, hdep, ?_, ?_⟩
  · obtain ⟨t, ht⟩ : ∃ t, at_ x (dep x) * k = 1 + p * t := ⟨at_ x (dep x) * k / p, by have := Int.emod_add_mul_ediv (at_ x (dep x) * k) p; omega⟩
    obtain ⟨e, s, hes⟩ := inv_one (p := p) t n (by omega)
    have g1 := (gen_sub (p := p) (n := n) (W := W) [norm p W (lmix k x 0 x)]).mul (e * at_ x (dep x)) _ (gen_mem (List.mem_singleton.2 rfl))
    have k1 := (kill_all o (f := at_ x) fun j hj => hx.beyond hj).mul (-s)
    refine (gen_sub _).eqv _ _ ?_ g1
    have h3 := heq.symm.mul (e * at_ x (dep x))
    have h4 := h3.add k1
    refine (Eqv.of_eq fun j => ?_).trans (h4.trans (Eqv.of_eq fun j => by simp))
    have : e * at_ x (dep x) * (k * at_ x j) = (e * (at_ x (dep x) * k)) * at_ x j := by simp only [Int.mul_assoc]
    rw [this, ht, hes, Int.add_mul, Int.one_mul]
    have : -s * (pw_ p n * at_ x j) = -(pw_ p n * s * at_ x j) := by rw [Int.neg_mul, Int.mul_left_comm, Int.mul_assoc]
    rw [this]; omega
  · refine (gen_sub _).eqv _ _ heq ((gen_sub _).mul k _ (gen_mem (List.mem_singleton.2 rfl)))
/-- p times an element is deeper. -/
theorem pmul_dep (o : OkW p n W) {y : List Int} (hy : El p n y) (hd : dep y < n) : dep y < dep (norm p W (lmix p y 0 y)) := by
  obtain ⟨hel, heq⟩ := mul_eqv o hy p
  obtain ⟨g, h1, h2, h3⟩ := push o hd (f := at_ y) (fun j hj => dep_zero hj) fun j hj => hy.beyond hj
  have := eqv_zero o hel (heq.trans h1) (m := dep y + 1) (by omega) fun j hj => h2 j (by omega)
  exact dep_ge (by rw [hel.1]; omega) this
/-- A waiting element goes into the list, scaled, and p times it waits. -/
theorem Grow.take (o : OkW p n W) {gens u Q : List (List Int)} {x : List Int} {k : Int} (h : Grow p n W gens u (x :: Q)) (hd : dep x < n) (hnew : ∀ v ∈ u, dep v ≠ dep x) (hk : at_ x (dep x) * k % p = 1) :
    Grow p n W gens (insD u (norm p W (lmix k x 0 x))) (norm p W (lmix p (norm p W (lmix k x 0 x)) 0 (norm p W (lmix k x 0 x))) :: Q) := by
  have hx := h.els x (by simp)
  obtain ⟨h1, h2, h3, h4⟩ := scale_led o hx hd hk
  obtain ⟨h5, h6⟩ := mul_eqv o h1.1 p
  exact h.insert h1 h2 hnew h3 h4 h5 (pmul_dep o h1.1 h1.2.1) h6
/-- Inverses modulo a small prime. -/
theorem inv_ex {p a : Int} (hp : p = 2 ∨ p = 3 ∨ p = 5 ∨ p = 7) (h1 : 0 < a) (h2 : a < p) : ∃ x, 1 ≤ x ∧ x < p ∧ a * x % p = 1 := by
  rcases hp with rfl | rfl | rfl | rfl
  · exact ⟨1, by omega, by omega, by have : a = 1 := by omega
                                     subst this; decide⟩
  · obtain rfl | rfl : a = 1 ∨ a = 2 := by omega
    · exact ⟨1, by decide, by decide, by decide⟩
    · exact ⟨2, by decide, by decide, by decide⟩
  · obtain rfl | rfl | rfl | rfl : a = 1 ∨ a = 2 ∨ a = 3 ∨ a = 4 := by omega
    · exact ⟨1, by decide, by decide, by decide⟩
    · exact ⟨3, by decide, by decide, by decide⟩
    · exact ⟨2, by decide, by decide, by decide⟩
    · exact ⟨4, by decide, by decide, by decide⟩
  · obtain rfl | rfl | rfl | rfl | rfl | rfl : a = 1 ∨ a = 2 ∨ a = 3 ∨ a = 4 ∨ a = 5 ∨ a = 6 := by omega
    · exact ⟨1, by decide, by decide, by decide⟩
    · exact ⟨4, by decide, by decide, by decide⟩
    · exact ⟨5, by decide, by decide, by decide⟩
    · exact ⟨2, by decide, by decide, by decide⟩
    · exact ⟨3, by decide, by decide, by decide⟩
    · exact ⟨6, by decide, by decide, by decide⟩
end Go.Lie
