/- Plain law: the one list of a subgroup, and how a list is grown to it. -/
import Derived.Test.YthgccplmmogcnaaCVM03
set_option linter.unusedVariables false
set_option linter.unusedSimpArgs false
namespace Go.Lie
open Go.Ab
variable {p : Int} {n : Nat} {W : List (List Int)}

theorem pairwise_two {α : Type} {R : α → α → Prop} : ∀ {l : List α}, l.Pairwise R → ∀ {a b : α}, a ∈ l → b ∈ l → a = b ∨ R a b ∨ R b a
  | [], _, a, b, ha, _ => by cases ha
  | x :: l, h, a, b, ha, hb => by
    obtain ⟨h1, h2⟩ := List.pairwise_cons.1 h
    rcases List.mem_cons.1 ha with ea | ha'
    · rcases List.mem_cons.1 hb with eb | hb'
      · exact .inl (ea.trans eb.symm)
      · rw [ea]; exact .inr (.inl (h1 b hb'))
    · rcases List.mem_cons.1 hb with eb | hb'
      · rw [eb]; exact .inr (.inr (h1 a ha'))
      · exact pairwise_two h2 ha' hb'
theorem asc_ext : ∀ {u w : List (List Int)}, Asc u → Asc w → (∀ v, v ∈ u ↔ v ∈ w) → u = w
  | [], [], _, _, _ => rfl
  | [], x :: w, _, _, h => by have := (h x).2 (by simp); cases this
  | x :: u, [], _, _, h => by have := (h x).1 (by simp); cases this
  | x :: u, y :: w, hu, hw, h => by
    obtain ⟨h1, h2⟩ := List.pairwise_cons.1 hu
    obtain ⟨h3, h4⟩ := List.pairwise_cons.1 hw
    have e : x = y := by
      rcases List.mem_cons.1 ((h x).1 (by simp)) with e | e
      · exact e
      · rcases List.mem_cons.1 ((h y).2 (by simp)) with e' | e'
        · exact e'.symm
        · have := h3 x e; have := h1 y e'; omega
    subst e
    congr 1
    refine asc_ext h2 h4 fun v => ⟨fun hv => ?_, fun hv => ?_⟩
    · rcases List.mem_cons.1 ((h v).1 (by simp [hv])) with e | e
      · subst e; have := h1 v hv; omega
      · exact e
    · rcases List.mem_cons.1 ((h v).2 (by simp [hv])) with e | e
      · subst e; have := h3 v hv; omega
      · exact e

/-- Each is 0 at the depths of the later ones. -/
abbrev Red (u : List (List Int)) : Prop := u.Pairwise fun a b => at_ a (dep b) = 0
theorem red_at {u : List (List Int)} (ha : Asc u) (hr : Red u) {v x : List Int} (hv : v ∈ u) (hx : x ∈ u) (h : dep v < dep x) : at_ v (dep x) = 0 := by
  have := pairwise_two (R := fun a b : List Int => dep a < dep b ∧ at_ a (dep b) = 0) (List.Pairwise.and ha hr) hv hx
  rcases this with e | e | e
  · subst e; omega
  · exact e.2
  · omega

theorem canon_one (o : OkW p n W) {u w : List (List Int)} (hu : Base p n W u) (ru : Red u) (hw : Base p n W w) (rw_ : Red w) (h : ∀ f, Gen p n W u f → Gen p n W w f) (h' : ∀ f, Gen p n W w f → Gen p n W u f) {v x : List Int} (hv : v ∈ u) (hx : x ∈ w) (e : dep x = dep v) : v = x := by
  have lv := hu.led v hv
  have lx := hw.led x hx
  have hl := lv.1.1.trans lx.1.1.symm
  have hp := o.pr
  unfold okp at hp
  have hyl : (lmix 1 v (-1) x).length = n := by rw [lmix_length hl]; exact lv.1.1
  rcases Nat.lt_or_ge (dep (lmix 1 v (-1) x)) n with hd | hd
  rotate_left
  · refine el_ext lv.1 lx.1 fun j hj => ?_
    have := dep_zero (v := lmix 1 v (-1) x) (j := j) (by omega)
    rw [lmix_at hl] at this
    omega
  have hz : ∀ j, j < dep (lmix 1 v (-1) x) → at_ (norm p W (lmix 1 v (-1) x)) j = 0 := norm_head o hyl (by omega) fun j hj => dep_zero hj
  have hne : at_ (norm p W (lmix 1 v (-1) x)) (dep (lmix 1 v (-1) x)) ≠ 0 := by
    rw [norm_lead o hyl hd fun j hj => dep_zero hj]
    have h1 := dep_ne (v := lmix 1 v (-1) x) (by rw [hyl]; exact hd)
    rw [lmix_at hl] at h1 ⊢
    have b1 := lv.1.at0 o (dep (lmix 1 v (-1) x))
    have b2 := lx.1.at0 o (dep (lmix 1 v (-1) x))
    intro h0
    have := Int.emod_add_mul_ediv (1 * at_ v (dep (lmix 1 v (-1) x)) + -1 * at_ x (dep (lmix 1 v (-1) x))) p
    rw [h0, Int.zero_add] at this
    generalize (1 * at_ v (dep (lmix 1 v (-1) x)) + -1 * at_ x (dep (lmix 1 v (-1) x))) / p = q at this
    rcases Int.lt_trichotomy q 0 with y | y | y
    · have := Int.mul_le_mul_of_nonneg_left (show q ≤ -1 by omega) (show 0 ≤ p by omega)
      omega
    · rw [y] at this; omega
    · have := Int.mul_le_mul_of_nonneg_left (show 1 ≤ q by omega) (show 0 ≤ p by omega)
      omega
  have hdep := dep_eq hz hne
  have hg : Gen p n W u (at_ (norm p W (lmix 1 v (-1) x))) := by
    refine (gen_sub u).eqv _ _ ((norm_eqv o hyl).trans (Eqv.of_eq fun j => ?_)) ((gen_sub u).sub (gen_mem hv) (h' _ (gen_mem hx)))
    rw [lmix_at hl]; omega
  obtain ⟨t, ht, et⟩ := gen_dep o hu (norm_El o hyl) hg (by omega)
  obtain ⟨s, hs, es⟩ := gen_dep o hw (norm_El o hyl) (h _ hg) (by omega)
  have hdn := dep_ne (v := lmix 1 v (-1) x) (by rw [hyl]; exact hd)
  rw [lmix_at hl] at hdn
  exfalso
  rcases Nat.lt_trichotomy (dep v) (dep t) with y | y | y
  · have q1 := red_at hu.asc ru hv ht y
    have q2 := red_at hw.asc rw_ hx hs (by omega)
    rw [et, hdep] at q1
    rw [es, hdep] at q2
    rw [q1, q2] at hdn
    omega
  · have e2 : dep (lmix 1 v (-1) x) = dep v := by omega
    rw [e2, lv.2.2, ← e, lx.2.2] at hdn
    omega
  · have e2 : dep (lmix 1 v (-1) x) < dep v := by omega
    rw [dep_zero e2, dep_zero (by omega)] at hdn
    omega
/-- A subgroup has one list. -/
theorem canon_unique (o : OkW p n W) {u w : List (List Int)} (hu : Base p n W u) (ru : Red u) (hw : Base p n W w) (rw_ : Red w) (h : ∀ f, Gen p n W u f → Gen p n W w f) (h' : ∀ f, Gen p n W w f → Gen p n W u f) : u = w := by
  refine asc_ext hu.asc hw.asc fun v => ⟨fun hv => ?_, fun hv => ?_⟩
  · have lv := hu.led v hv
    obtain ⟨x, hx, e⟩ := gen_dep o hw lv.1 (h _ (gen_mem hv)) lv.2.1
    rw [canon_one o hu ru hw rw_ h h' hv hx e]; exact hx
  · have lv := hw.led v hv
    obtain ⟨x, hx, e⟩ := gen_dep o hu lv.1 (h' _ (gen_mem hv)) lv.2.1
    rw [canon_one o hw rw_ hu ru h' h hv hx e]; exact hx

/-- One element is reduced by what stands behind it. -/
theorem fin_cons (o : OkW p n W) {v : List Int} {t t' s : List (List Int)} (hb : Base p n W (v :: t)) (hb' : Base p n W t') (hr' : Red t') (hg : ∀ f, Gen p n W t f ↔ Gen p n W t' f) (hs : Base p n W s) (hsd : ∀ x ∈ t', ∃ y ∈ s, dep y = dep x) (hsl : ∀ y ∈ s, dep v < dep y) (hst : ∀ f, Gen p n W s f → Gen p n W t' f) (htd : ∀ x ∈ t', dep v < dep x) :
    Base p n W (redL p W s v :: t') ∧ Red (redL p W s v :: t') ∧ (∀ f, Gen p n W (v :: t) f ↔ Gen p n W (redL p W s v :: t') f) ∧ dep (redL p W s v) = dep v := by
  cases hb with
  | cons hv ha hc hbt =>
  have hel := redL_el o hs.els hv.1
  obtain ⟨h1, h2⟩ := redL_at o hs.led hs.asc hv.1
  have hg1 := redL_gen o hs.els hv.1
  have hsame : ∀ j, j ≤ dep v → at_ (redL p W s v) j = at_ v j := fun j hj => h2 j fun y hy => by have := hsl y hy; omega
  have hdep : dep (redL p W s v) = dep v := dep_eq (fun j hj => by rw [hsame j (by omega)]; exact dep_zero hj) (by rw [hsame _ (Nat.le_refl _), hv.2.2]; decide)
  refine ⟨.cons ⟨hel, by rw [hdep]; exact hv.2.1, by rw [hdep, hsame _ (Nat.le_refl _)]; exact hv.2.2⟩ (fun x hx => by rw [hdep]; exact htd x hx) ?_ hb', List.pairwise_cons.2 ⟨fun x hx => ?_, hr'⟩, fun f => ⟨fun hf => ?_, fun hf => ?_⟩, hdep⟩
  · have q1 := (gen_sub t').mul p _ (hst _ hg1)
    have q2 := (gen_sub t').sub ((hg _).1 hc) q1
    exact (gen_sub t').eqv _ _ (Eqv.of_eq fun j => by rw [Int.mul_sub]; omega) q2
  · obtain ⟨y, hy, e⟩ := hsd x hx
    rw [← e]; exact h1 y hy
  · refine gen_mono (fun x hx => ?_) hf
    rcases List.mem_cons.1 hx with rfl | hx
    · have q1 : Gen p n W (redL p W s x :: t') fun j => at_ x j - at_ (redL p W s x) j := gen_sublist (fun y hy => by simp [hy]) (hst _ hg1)
      have q2 := (gen_sub (redL p W s x :: t')).add _ _ q1 (gen_mem (v := redL p W s x) (by simp))
      exact (gen_sub _).eqv _ _ (Eqv.of_eq fun j => by omega) q2
    · exact gen_sublist (fun y hy => by simp [hy]) ((hg _).1 (gen_mem hx))
  · refine gen_mono (fun x hx => ?_) hf
    rcases List.mem_cons.1 hx with rfl | hx
    · have q1 : Gen p n W (v :: t) fun j => at_ v j - at_ (redL p W s v) j := gen_sublist (fun y hy => by simp [hy]) ((hg _).2 (hst _ hg1))
      have q2 := (gen_sub (v :: t)).sub (gen_mem (v := v) (by simp)) q1
      exact (gen_sub _).eqv _ _ (Eqv.of_eq fun j => by omega) q2
    · exact gen_sublist (fun y hy => by simp [hy]) ((hg _).2 (gen_mem hx))

/-- Every element reduced by what stands behind it in the list. -/
def finS (p : Int) (W : List (List Int)) : List (List Int) → List (List Int)
  | [] => []
  | v :: t => redL p W t v :: finS p W t
/-- .. by what has been reduced already. -/
def finI (p : Int) (W : List (List Int)) : List (List Int) → List (List Int)
  | [] => []
  | v :: t => redL p W (finI p W t) v :: finI p W t
/-- A list that stands for the subgroup that another generates. -/
structure Canon (p : Int) (n : Nat) (W : List (List Int)) (gens out : List (List Int)) : Prop where
  base : Base p n W out
  red : Red out
  gen : ∀ f, Gen p n W gens f ↔ Gen p n W out f
theorem finS_ok (o : OkW p n W) : ∀ {u : List (List Int)}, Base p n W u → Canon p n W u (finS p W u) ∧ (finS p W u).map dep = u.map dep
  | _, .nil => ⟨⟨.nil, List.Pairwise.nil, fun _ => Iff.rfl⟩, rfl⟩
  | _, .cons (v := v) (u := t) hv ha hc hb => by
    obtain ⟨c, hd⟩ := finS_ok o hb
    have dd : ∀ x ∈ finS p W t, ∃ y ∈ t, dep y = dep x := fun x hx => by
      have : dep x ∈ t.map dep := by rw [← hd]; exact List.mem_map_of_mem hx
      obtain ⟨y, hy, e⟩ := List.mem_map.1 this
      exact ⟨y, hy, e⟩
    obtain ⟨q1, q2, q3, q4⟩ := fin_cons o (.cons hv ha hc hb) c.base c.red c.gen hb dd ha (fun f hf => (c.gen f).1 hf) fun x hx => by
      obtain ⟨y, hy, e⟩ := dd x hx; have := ha y hy; omega
    exact ⟨⟨q1, q2, q3⟩, by simp only [finS, List.map_cons, q4, hd]⟩
theorem finI_ok (o : OkW p n W) : ∀ {u : List (List Int)}, Base p n W u → Canon p n W u (finI p W u) ∧ (finI p W u).map dep = u.map dep
  | _, .nil => ⟨⟨.nil, List.Pairwise.nil, fun _ => Iff.rfl⟩, rfl⟩
  | _, .cons (v := v) (u := t) hv ha hc hb => by
    obtain ⟨c, hd⟩ := finI_ok o hb
    have dd : ∀ x ∈ finI p W t, dep v < dep x := fun x hx => by
      have : dep x ∈ t.map dep := by rw [← hd]; exact List.mem_map_of_mem hx
      obtain ⟨y, hy, e⟩ := List.mem_map.1 this
      have := ha y hy; omega
    obtain ⟨q1, q2, q3, q4⟩ := fin_cons o (.cons hv ha hc hb) c.base c.red c.gen c.base (fun x hx => ⟨x, hx, rfl⟩) dd (fun f hf => hf) dd
    exact ⟨⟨q1, q2, q3⟩, by simp only [finI, List.map_cons, q4, hd]⟩
theorem Canon.unique (o : OkW p n W) {gens a b : List (List Int)} (ha : Canon p n W gens a) (hb : Canon p n W gens b) : a = b :=
  canon_unique o ha.base ha.red hb.base hb.red (fun f hf => (hb.gen f).1 ((ha.gen f).2 hf)) fun f hf => (ha.gen f).1 ((hb.gen f).2 hf)
theorem Canon.trans {gens u out : List (List Int)} (h : Canon p n W u out) (hg : ∀ f, Gen p n W gens f ↔ Gen p n W u f) : Canon p n W gens out := ⟨h.base, h.red, fun f => (hg f).trans (h.gen f)⟩

/- GROWING A LIST -/

/-- What stands deeper than d, or at least as deep. -/
abbrev Dp (u : List (List Int)) (d : Nat) : List (List Int) := u.filter fun v => decide (d < dep v)
abbrev Fp (u : List (List Int)) (d : Nat) : List (List Int) := u.filter fun v => decide (d ≤ dep v)
/-- A list on its way, with elements that wait. -/
structure Grow (p : Int) (n : Nat) (W gens u Q : List (List Int)) : Prop where
  led : ∀ v ∈ u, Led p n v
  asc : Asc u
  els : ∀ x ∈ Q, El p n x
  clo : ∀ v ∈ u, Gen p n W (Dp u (dep v)) (fun j => p * at_ v j) ∨ ∃ x ∈ Q, dep v < dep x ∧ Gen p n W (Dp u (dep v)) fun j => p * at_ v j - at_ x j
  gen : ∀ f, Gen p n W gens f ↔ Gen p n W (u ++ Q) f

theorem Grow.perm {gens u Q Q' : List (List Int)} (g : Grow p n W gens u Q) (h : ∀ x, x ∈ Q ↔ x ∈ Q') : Grow p n W gens u Q' :=
  ⟨g.led, g.asc, fun x hx => g.els x ((h x).2 hx), fun v hv => (g.clo v hv).imp id fun ⟨x, hx, r⟩ => ⟨x, (h x).1 hx, r⟩,
    fun f => (g.gen f).trans ⟨gen_sublist fun v hv => by simp only [List.mem_append] at hv ⊢; exact hv.imp id (h v).1, gen_sublist fun v hv => by simp only [List.mem_append] at hv ⊢; exact hv.imp id (h v).2⟩⟩
theorem Grow.start {gens : List (List Int)} (h : ∀ v ∈ gens, El p n v) : Grow p n W gens [] gens := ⟨fun v hv => (by cases hv), List.Pairwise.nil, h, fun v hv => (by cases hv), fun f => Iff.rfl⟩
/-- A waiting element is replaced by what it is reduced to. -/
theorem Grow.replace {gens u Q : List (List Int)} {g x : List Int} (h : Grow p n W gens u (g :: Q)) (hx : El p n x) (hd : dep g ≤ dep x) (hg : Gen p n W (Fp u (dep g)) fun j => at_ g j - at_ x j) : Grow p n W gens u (x :: Q) := by
  have hg' : ∀ M : List (List Int), (∀ v ∈ u, v ∈ M) → Gen p n W M fun j => at_ g j - at_ x j := fun M hM => gen_sublist (fun v hv => hM v (List.mem_filter.1 hv).1) hg
  refine ⟨h.led, h.asc, fun y hy => (List.mem_cons.1 hy).elim (fun e => e ▸ hx) fun hy => h.els y (by simp [hy]), fun v hv => ?_, fun f => (h.gen f).trans ⟨gen_mono fun y hy => ?_, gen_mono fun y hy => ?_⟩⟩
  · rcases h.clo v hv with h1 | ⟨y, hy, h1, h2⟩
    · exact .inl h1
    · rcases List.mem_cons.1 hy with rfl | hy
      · refine .inr ⟨x, by simp, by omega, ?_⟩
        have q1 : Gen p n W (Dp u (dep v)) fun j => at_ y j - at_ x j := gen_sublist (fun w hw => by
          simp only [List.mem_filter, decide_eq_true_eq] at hw ⊢
          exact ⟨hw.1, by omega⟩) hg
        have q2 := (gen_sub _).add _ _ h2 q1
        exact (gen_sub _).eqv _ _ (Eqv.of_eq fun j => by omega) q2
      · exact .inr ⟨y, by simp [hy], h1, h2⟩
  · simp only [List.mem_append, List.mem_cons] at hy
    rcases hy with hy | rfl | hy
    · exact gen_mem (by simp [hy])
    · have q1 := (gen_sub (p := p) (n := n) (W := W) (u ++ x :: Q)).add _ _ (hg' _ fun v hv => by simp [hv]) (gen_mem (v := x) (by simp))
      exact (gen_sub _).eqv _ _ (Eqv.of_eq fun j => by omega) q1
    · exact gen_mem (by simp [hy])
  · simp only [List.mem_append, List.mem_cons] at hy
    rcases hy with hy | rfl | hy
    · exact gen_mem (by simp [hy])
    · have q1 := (gen_sub (p := p) (n := n) (W := W) (u ++ g :: Q)).sub (gen_mem (v := g) (by simp)) (hg' _ fun v hv => by simp [hv])
      exact (gen_sub _).eqv _ _ (Eqv.of_eq fun j => by omega) q1
    · exact gen_mem (by simp [hy])
/-- Nothing waits no longer. -/
theorem Grow.drop {gens u Q : List (List Int)} {x : List Int} (h : Grow p n W gens u (x :: Q)) (h0 : ∀ j, at_ x j = 0) : Grow p n W gens u Q := by
  have hz : ∀ M : List (List Int), Gen p n W M (at_ x) := fun M => (gen_sub M).eqv _ _ (Eqv.of_eq h0) (gen_sub M).zero
  refine ⟨h.led, h.asc, fun y hy => h.els y (by simp [hy]), fun v hv => ?_, fun f => (h.gen f).trans ⟨gen_mono fun y hy => ?_, gen_sublist fun y hy => by simp only [List.mem_append, List.mem_cons] at hy ⊢; exact hy.imp id .inr⟩⟩
  · rcases h.clo v hv with h1 | ⟨y, hy, h1, h2⟩
    · exact .inl h1
    · rcases List.mem_cons.1 hy with rfl | hy
      · exact .inl ((gen_sub _).eqv _ _ (Eqv.of_eq fun j => by rw [h0 j]; omega) h2)
      · exact .inr ⟨y, hy, h1, h2⟩
  · simp only [List.mem_append, List.mem_cons] at hy
    rcases hy with hy | rfl | hy
    · exact gen_mem (by simp [hy])
    · exact hz _
    · exact gen_mem (by simp [hy])

/-- An element goes into a list by its depth. -/
def insD : List (List Int) → List Int → List (List Int)
  | [], x => [x]
  | v :: u, x => if dep v < dep x then v :: insD u x else x :: v :: u
theorem insD_mem : ∀ {u : List (List Int)} {x v : List Int}, v ∈ insD u x ↔ v = x ∨ v ∈ u
  | [], x, v => by simp [insD]
  | w :: u, x, v => by
    simp only [insD]
    split
    · rw [List.mem_cons, insD_mem, List.mem_cons]
      constructor
      · rintro (h | h | h); exact .inr (.inl h); exact .inl h; exact .inr (.inr h)
      · rintro (h | h | h); exact .inr (.inl h); exact .inl h; exact .inr (.inr h)
    · simp
theorem insD_asc : ∀ {u : List (List Int)} {x : List Int}, Asc u → (∀ v ∈ u, dep v ≠ dep x) → Asc (insD u x)
  | [], x, _, _ => List.pairwise_singleton _ _
  | w :: u, x, hu, hx => by
    obtain ⟨h1, h2⟩ := List.pairwise_cons.1 hu
    simp only [insD]
    split
    · rename_i hlt
      refine List.pairwise_cons.2 ⟨fun v hv => ?_, insD_asc h2 fun v hv => hx v (by simp [hv])⟩
      rcases insD_mem.1 hv with rfl | hv
      · exact hlt
      · exact h1 v hv
    · rename_i hge
      have := hx w (by simp)
      refine List.pairwise_cons.2 ⟨fun v hv => ?_, hu⟩
      rcases List.mem_cons.1 hv with rfl | hv
      · omega
      · have := h1 v hv; omega
theorem insD_length : ∀ (u : List (List Int)) (x : List Int), (insD u x).length = u.length + 1
  | [], x => rfl
  | w :: u, x => by simp only [insD]; split <;> simp [insD_length u x]

/-- A waiting element with a new depth goes into the list as y, and z waits, p times y. -/
theorem Grow.insert {gens u Q : List (List Int)} {x y z : List Int} (h : Grow p n W gens u (x :: Q)) (hy : Led p n y) (hd : dep y = dep x) (hnew : ∀ v ∈ u, dep v ≠ dep x) (hxy : Gen p n W [y] (at_ x)) (hyx : Gen p n W [x] (at_ y)) (hz : El p n z) (hzd : dep y < dep z) (hzp : Eqv p n W (at_ z) fun j => p * at_ y j) : Grow p n W gens (insD u y) (z :: Q) := by
  have sub : ∀ d, ∀ v ∈ Dp u d, v ∈ Dp (insD u y) d := fun d v hv => by
    simp only [List.mem_filter, decide_eq_true_eq] at hv ⊢
    exact ⟨insD_mem.2 (.inr hv.1), hv.2⟩
  have ymem : ∀ d, d < dep y → y ∈ Dp (insD u y) d := fun d hd => by
    simp only [List.mem_filter, decide_eq_true_eq]
    exact ⟨insD_mem.2 (.inl rfl), hd⟩
  refine ⟨fun v hv => ?_, insD_asc h.asc fun v hv => by rw [hd]; exact hnew v hv, fun v hv => ?_, fun v hv => ?_, fun f => (h.gen f).trans ⟨gen_mono fun v hv => ?_, gen_mono fun v hv => ?_⟩⟩
  · rcases insD_mem.1 hv with rfl | hv
    · exact hy
    · exact h.led v hv
  · rcases List.mem_cons.1 hv with rfl | hv
    · exact hz
    · exact h.els v (by simp [hv])
  · rcases insD_mem.1 hv with rfl | hv
    · refine .inr ⟨z, by simp, hzd, ?_⟩
      have := hzp.symm.add (Eqv.refl (p := p) (n := n) (W := W) fun j => - at_ z j)
      refine (gen_sub _).eqv _ _ ((Eqv.of_eq fun j => ?_).trans (this.trans (Eqv.of_eq fun j => ?_))) (gen_sub _).zero
      · omega
      · omega
    · rcases h.clo v hv with h1 | ⟨t, ht, h1, h2⟩
      · exact .inl (gen_sublist (sub _) h1)
      · rcases List.mem_cons.1 ht with rfl | ht
        · have q1 : Gen p n W (Dp (insD u y) (dep v)) (at_ t) := gen_sublist (fun w hw => by rw [List.mem_singleton.1 hw]; exact ymem _ (by omega)) hxy
          have q2 := (gen_sub _).add _ _ (gen_sublist (sub (dep v)) h2) q1
          exact .inl ((gen_sub _).eqv _ _ (Eqv.of_eq fun j => by omega) q2)
        · exact .inr ⟨t, by simp [ht], h1, gen_sublist (sub _) h2⟩
  · simp only [List.mem_append, List.mem_cons] at hv
    rcases hv with hv | rfl | hv
    · exact gen_mem (by simp [insD_mem, hv])
    · exact gen_sublist (fun w hw => by rw [List.mem_singleton.1 hw]; simp [insD_mem]) hxy
    · exact gen_mem (by simp [hv])
  · simp only [List.mem_append, List.mem_cons, insD_mem] at hv
    have hyg : Gen p n W (u ++ x :: Q) (at_ y) := gen_sublist (fun w hw => by rw [List.mem_singleton.1 hw]; simp) hyx
    rcases hv with (rfl | hv) | rfl | hv
    · exact hyg
    · exact gen_mem (by simp [hv])
    · exact (gen_sub _).eqv _ _ hzp ((gen_sub _).mul p _ hyg)
    · exact gen_mem (by simp [hv])

theorem filter_tail {v : List Int} {t : List (List Int)} (h : ∀ w ∈ t, dep v < dep w) : Dp (v :: t) (dep v) = t := by
  rw [Dp, List.filter_cons, if_neg (by simp)]
  exact List.filter_eq_self.2 fun w hw => by simpa using h w hw
/-- When nothing waits, the list is done. -/
theorem Grow.base {gens : List (List Int)} : ∀ {u : List (List Int)}, Grow p n W gens u [] → Base p n W u := by
  have key : ∀ (u : List (List Int)), (∀ v ∈ u, Led p n v) → Asc u → (∀ v ∈ u, Gen p n W (Dp u (dep v)) fun j => p * at_ v j) → Base p n W u := by
    intro u
    induction u with
    | nil => intro _ _ _; exact .nil
    | cons v t ih =>
      intro hl ha hc
      obtain ⟨h1, h2⟩ := List.pairwise_cons.1 ha
      have hv := hc v (by simp)
      rw [filter_tail h1] at hv
      refine .cons (hl v (by simp)) h1 hv (ih (fun w hw => hl w (by simp [hw])) h2 fun w hw => ?_)
      have hw' := hc w (by simp [hw])
      have : Dp (v :: t) (dep w) = Dp t (dep w) := by
        rw [Dp, List.filter_cons, if_neg (by have := h1 w hw; simp; omega)]
      rwa [this] at hw'
  intro u h
  exact key u h.led h.asc fun v hv => (h.clo v hv).elim id fun ⟨x, hx, _⟩ => by cases hx
theorem Grow.done {gens u out : List (List Int)} (h : Grow p n W gens u []) (c : Canon p n W u out) : Canon p n W gens out := c.trans fun f => by
  have := h.gen f
  rwa [List.append_nil] at this
/-- There are no more depths than places. -/
theorem asc_length {u : List (List Int)} (hl : ∀ v ∈ u, dep v < n) (ha : Asc u) : u.length ≤ n := by
  have : ∀ (u : List (List Int)) (m : Nat), (∀ v ∈ u, m ≤ dep v ∧ dep v < n) → Asc u → m + u.length ≤ max m n := by
    intro u
    induction u with
    | nil => intro m _ _; simp; omega
    | cons v t ih =>
      intro m hm ha
      obtain ⟨h1, h2⟩ := List.pairwise_cons.1 ha
      have q := hm v (by simp)
      have := ih (dep v + 1) (fun w hw => ⟨h1 w hw, (hm w (by simp [hw])).2⟩) h2
      rw [List.length_cons]; omega
  have := this u 0 (fun v hv => ⟨Nat.zero_le _, hl v hv⟩) ha
  omega
end Go.Lie
