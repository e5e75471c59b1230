/- Commutators by the reference. -/
import Derived.Test.YtngdcibjjomfjaaDP28
set_option linter.unusedVariables false
set_option linter.unusedSectionVars false
set_option linter.unusedSimpArgs false
namespace Go.Grp
open Go.Ab Go.Lie
variable {O : List Int} {P : List (List Int)} {C : List (List (List Int))} {x y z a b c : List Int} {A B : List Int → Prop} {d t i : Nat}
/-- The conjugates begin with the generators. -/
def Cent (O : List Int) (C : List (List (List Int))) : Prop := ∀ i j, i < j → j < O.length → TT O j (cvec C i j) ∧ at_ (cvec C i j) j = 1
/-- Sums of entries. -/
def addm (o a b : Int) : Int := if a + b ≥ o then a + b - o else a + b
theorem addm_comm (o a b : Int) : addm o a b = addm o b a := by unfold addm; rw [Int.add_comm]
theorem addm_fix {o a b : Int} (ha : 0 ≤ a ∧ a < o) (hb : 0 ≤ b ∧ b < o) (h : addm o a b = a) : b = 0 := by
  unfold addm at h; split at h <;> omega
/-- Equal up to t. -/
def Upto (O : List Int) (t : Nat) (x y : List Int) : Prop := ∀ j, j < t → at_ x j = at_ y j
theorem mu_same (s : Shp O P C) (hd : d + 1 ≤ O.length) (hi : i = O.length - (d + 1)) (h0 : at_ b i = 0) (ha : TT O i a) (hb : TT O i b) : mu O P C (d + 1) a b = (mu O P C d (a.set i 0) (b.set i 0)).set i (at_ a i) := by
  have ba := ha.bd i (by omega)
  subst hi
  simp only [mu]
  rw [h0, if_neg (by omega), show nx b (O.length - (d + 1)) = 0 by show (at_ b _).toNat = 0; rw [h0]; rfl, Int.add_zero]
  rfl
theorem mu_right (s : Shp O P C) : ∀ {d : Nat} {b : List Int}, d ≤ O.length → O.length - d ≤ t → t < O.length → TT O (O.length - d) b → TT O t a → Upto O t (mu O P C d b a) b ∧ at_ (mu O P C d b a) t = addm (at_ O t) (at_ b t) (at_ a t)
  | 0, b, hd, h1, h2, hb, ha => by omega
  | d + 1, b, hd, h1, h2, hb, ha => by
    have hi : O.length - (d + 1) < O.length := by omega
    have e : O.length - d = O.length - (d + 1) + 1 := by omega
    have hpos := s.pos hi
    have bl : O.length - (d + 1) < b.length := by rw [hb.len]; exact hi
    have hbs := hb.set0 hi hpos
    rw [← e] at hbs
    by_cases ht : O.length - (d + 1) = t
    · have hr := mu_tt s hd hb (ha.mono (by omega) : TT O (O.length - (d + 1)) a)
      refine ⟨fun j hj => by rw [hr.zero j (by omega), hb.zero j (by omega)], ?_⟩
      have hm : ∀ a b, TT O (O.length - d) a → TT O (O.length - d) b → TT O (O.length - d) (mu O P C d a b) := fun a b h1 h2 => mu_tt s (by omega) h1 h2
      have has := (ha.mono (by omega) : TT O (O.length - (d + 1)) a).set0 hi hpos
      rw [← e] at has
      have ir := hm _ _ (iter_in (fun x _ => by rw [e]; exact img_tt s (by rw [← e]; exact hm) x) (nx a (O.length - (d + 1))) hbs) has
      have hw : TT O (O.length - d) (pvec P (O.length - (d + 1))) := by rw [e]; exact s.pw _ hi
      have ir2 := hm _ _ hw ir
      rw [← ht]
      simp only [mu, addm]
      split
      · rw [at_set (by rw [ir2.len]; exact hi), if_pos rfl]
      · rw [at_set (by rw [ir.len]; exact hi), if_pos rfl]
    · have ha0 : at_ a (O.length - (d + 1)) = 0 := ha.zero _ (by omega)
      rw [mu_same s hd rfl ha0 hb (ha.mono (by omega)), set_set0 ha0 (by rw [ha.len]; exact hi)]
      obtain ⟨i1, i2⟩ := mu_right s (d := d) (by omega) (by omega) h2 hbs ha
      have hml := (mu_tt s (by omega : d ≤ O.length) hbs (ha.mono (by omega) : TT O (O.length - d) a)).len
      refine ⟨fun j hj => ?_, ?_⟩
      · rw [at_set (by rw [hml]; exact hi)]
        split
        · rename_i h; rw [h]
        · rename_i h; rw [i1 j hj, at_set bl, if_neg h]
      · rw [at_set (by rw [hml]; exact hi), if_neg (by omega), i2, at_set bl, if_neg (by omega)]
/-- The image by a generator keeps the first entry. -/
theorem img_keep (s : Shp O P C) (hC : Cent O C) (hi : O.length - d = i + 1) (hd : d ≤ O.length) (hit : i < t) (ht : t < O.length) (hx : TT O t x) : TT O t (Grp.img O C (mu O P C d) i x) ∧ at_ (Grp.img O C (mu O P C d) i x) t = at_ x t := by
  have bx := hx.bd t ht
  have hm : ∀ a b, TT O (i + 1) a → TT O (i + 1) b → TT O (i + 1) (mu O P C d a b) := fun a b h1 h2 => by
    have := mu_tt s hd (a := a) (b := b) (by rw [hi]; exact h1) (by rw [hi]; exact h2)
    rwa [hi] at this
  have sk : Grp.img O C (mu O P C d) i x = fo (mu O P C d) (cvec C i) (nx x) t (O.length - t) (zv O) := by
    unfold img
    have h := Nat.add_sub_of_le (show i + 1 ≤ t by omega)
    have : ∀ (k u : Nat) (a : List Int), u + k = t → (fo (mu O P C d) (cvec C i) (nx x) u (k + (O.length - t)) a = fo (mu O P C d) (cvec C i) (nx x) t (O.length - t) a) := by
      intro k
      induction k with
      | zero => intro u a h; rw [Nat.zero_add, show u = t by omega]
      | succ k ih =>
        intro u a h
        rw [show k + 1 + (O.length - t) = (k + (O.length - t)) + 1 by omega, fo, show nx x u = 0 by show (at_ x u).toNat = 0; rw [hx.zero u (by omega)]; rfl]
        exact ih (u + 1) a (by omega)
    have := this (t - (i + 1)) (i + 1) (zv O) (by omega)
    rwa [show t - (i + 1) + (O.length - t) = O.length - 1 - i by omega] at this
  rw [sk, show O.length - t = (O.length - (t + 1)) + 1 by omega, fo]
  obtain ⟨c1, c2⟩ := hC i t hit ht
  have st : ∀ k : Nat, (k : Int) ≤ at_ x t → ∀ {a : List Int} {q : Int}, TT O t a → at_ a t = q → 0 ≤ q → q + k ≤ at_ x t → TT O t (rep (mu O P C d) (cvec C i t) k a) ∧ at_ (rep (mu O P C d) (cvec C i t) k a) t = q + k := by
    intro k
    induction k with
    | zero => intro _ a q ha hq _ _; exact ⟨ha, by rw [rep, hq]; omega⟩
    | succ k ih =>
      intro hk a q ha hq hq0 hqk
      obtain ⟨r1, r2⟩ := mu_right s (d := d) (t := t) (a := cvec C i t) (b := a) hd (by omega) ht (ha.mono (by omega)) c1
      have hta : TT O t (mu O P C d a (cvec C i t)) := by
        have h0 := hm a (cvec C i t) (ha.mono (by omega)) (c1.mono (by omega))
        exact ⟨h0.len, h0.bd, fun j hj => by rw [r1 j hj]; exact ha.zero j hj⟩
      rw [c2, hq, addm, if_neg (by omega)] at r2
      have := ih (by omega) hta r2 (by omega) (by omega)
      rw [rep]
      exact ⟨this.1, by rw [this.2]; omega⟩
  have hnx : ((nx x t : Nat) : Int) = at_ x t := Int.toNat_of_nonneg bx.1
  obtain ⟨q1, q2⟩ := st (nx x t) (by omega) (a := zv O) (q := 0) (s.zv _) (at_rep _ t) (Int.le_refl _) (by omega)
  -- the later factors leave it
  have lat := fo_in (S := fun a => TT O t a ∧ at_ a t = at_ x t) (m := mu O P C d) (h := cvec C i) (x := nx x) (d := O.length - (t + 1)) (t := t + 1) (a := rep (mu O P C d) (cvec C i t) (nx x t) (zv O)) ?_ ⟨q1, by rw [q2]; omega⟩
  · exact lat
  · rintro j h1 h2 a ⟨ha, hat⟩
    obtain ⟨d1, d2⟩ := hC i j (by omega) (by omega)
    obtain ⟨r1, r2⟩ := mu_right s (d := d) (t := j) (a := cvec C i j) (b := a) hd (by omega) (by omega) (ha.mono (by omega)) d1
    have h0 := hm a (cvec C i j) (ha.mono (by omega)) (d1.mono (by omega))
    exact ⟨⟨h0.len, h0.bd, fun k hk => by rw [r1 k (by omega)]; exact ha.zero k hk⟩, by rw [r1 t (by omega)]; exact hat⟩
end Go.Grp
set_option linter.unusedVariables false
set_option linter.unusedSectionVars false
set_option linter.unusedSimpArgs false
namespace Go.Grp
open Go.Ab Go.Lie
variable {O : List Int} {P : List (List Int)} {C : List (List (List Int))} {x y z a b c g : List Int} {A B : List Int → Prop} {t i : Nat}
theorem mu_left (s : Shp O P C) (hC : Cent O C) : ∀ {d : Nat} {a b : List Int}, d ≤ O.length → O.length - d ≤ t → t < O.length → TT O t a → TT O (O.length - d) b → Upto O t (mu O P C d a b) b ∧ at_ (mu O P C d a b) t = addm (at_ O t) (at_ a t) (at_ b t)
  | 0, a, b, hd, h1, h2, ha, hb => by omega
  | d + 1, a, b, hd, h1, h2, ha, hb => by
    have hi : O.length - (d + 1) < O.length := by omega
    have e : O.length - d = O.length - (d + 1) + 1 := by omega
    have hpos := s.pos hi
    have bl : O.length - (d + 1) < b.length := by rw [hb.len]; exact hi
    have hbs := hb.set0 hi hpos
    rw [← e] at hbs
    have ha' : TT O (O.length - (d + 1)) a := ha.mono (by omega)
    have has := ha'.set0 hi hpos
    rw [← e] at has
    have hm : ∀ a b, TT O (O.length - d) a → TT O (O.length - d) b → TT O (O.length - d) (mu O P C d a b) := fun a b h1 h2 => mu_tt s (by omega) h1 h2
    by_cases ht : O.length - (d + 1) = t
    · have hr := mu_tt s hd ha' hb
      refine ⟨fun j hj => by rw [hr.zero j (by omega), hb.zero j (by omega)], ?_⟩
      have ir := hm _ _ (iter_in (fun x _ => by rw [e]; exact img_tt s (by rw [← e]; exact hm) x) (nx b (O.length - (d + 1))) has) hbs
      have hw : TT O (O.length - d) (pvec P (O.length - (d + 1))) := by rw [e]; exact s.pw _ hi
      have ir2 := hm _ _ hw ir
      rw [← ht]
      simp only [mu, addm]
      split
      · rw [at_set (by rw [ir2.len]; exact hi), if_pos rfl]
      · rw [at_set (by rw [ir.len]; exact hi), if_pos rfl]
    · have ha0 : at_ a (O.length - (d + 1)) = 0 := ha.zero _ (by omega)
      have haa : a.set (O.length - (d + 1)) 0 = a := set_set0 ha0 (by rw [ha.len]; exact hi)
      have bb := hb.bd _ hi
      -- images of a
      have it : ∀ (k : Nat) {u : List Int}, TT O t u → at_ u t = at_ a t → TT O t (iter (Grp.img O C (mu O P C d) (O.length - (d + 1))) k u) ∧ at_ (iter (Grp.img O C (mu O P C d) (O.length - (d + 1))) k u) t = at_ a t := by
        intro k
        induction k with
        | zero => intro u h1 h2; exact ⟨h1, h2⟩
        | succ k ih =>
          intro u h3 h4
          obtain ⟨k1, k2⟩ := img_keep (P := P) (t := t) (d := d) s hC (i := O.length - (d + 1)) e (by omega) (by omega) h2 h3
          exact ih k1 (by rw [k2]; exact h4)
      obtain ⟨l1, l2⟩ := it (nx b (O.length - (d + 1))) ha rfl
      obtain ⟨i1, i2⟩ := mu_left s hC (d := d) (by omega) (by omega) h2 l1 hbs
      have hml := (hm _ _ (l1.mono (by omega)) hbs).len
      simp only [mu]
      rw [ha0, if_neg (by omega), haa, Int.zero_add]
      refine ⟨fun j hj => ?_, ?_⟩
      · show at_ ((mu O P C d _ _).set _ _) j = _
        rw [at_set (by rw [hml]; exact hi)]
        split
        · rename_i h; rw [h]
        · rename_i h; rw [i1 j hj, at_set bl, if_neg h]
      · show at_ ((mu O P C d _ _).set _ _) t = _
        rw [at_set (by rw [hml]; exact hi), if_neg (by omega), i2, l2, at_set bl, if_neg (by omega)]
section
variable (s : Shp O P C) (F : Full O P C O.length) (hC : Cent O C)
include s F hC
/-- What solves a c = b with a and b alike up to t begins behind t. -/
theorem behind (hz : gS O z) (hc : gS O c) (h : Upto O t (gm O P C z c) z) (ht : t ≤ O.length) : TT O t c := by
  have : ∀ k, k ≤ t → TT O k c := by
    intro k
    induction k with
    | zero => intro _; exact hc
    | succ k ih =>
      intro hk
      have hck := ih (by omega)
      obtain ⟨r1, r2⟩ := mu_right s (d := O.length) (t := k) (a := c) (b := z) (Nat.le_refl _) (by omega) (by omega) (by rw [Nat.sub_self]; exact hz) hck
      have e := h k (by omega)
      show TT O (k + 1) c
      have e2 : addm (at_ O k) (at_ z k) (at_ c k) = at_ z k := by rw [← r2]; exact e
      have := addm_fix (hz.bd k (by omega)) (hc.bd k (by omega)) e2
      refine ⟨hc.len, hc.bd, fun j hj => ?_⟩
      by_cases g : j = k
      · subst g; exact this
      · exact hck.zero j (by omega)
  exact this t (Nat.le_refl _)
theorem com_deep (ht : t < O.length) (hx : TT O t x) (hy : gS O y) : TT O (t + 1) (gcom O P C x y) := by
  have G := F.g
  have hx0 : gS O x := hx.mono (Nat.zero_le _)
  have hyx := G.cl hy hx0
  have hc := G.com_in hx0 hy
  refine behind s F hC hyx hc (fun j hj => ?_) ht
  have e : gm O P C (gm O P C y x) (gcom O P C x y) = gm O P C x y := G.com_spec hx0 hy
  rw [e]
  obtain ⟨r1, r2⟩ := mu_right s (d := O.length) (t := t) (a := x) (b := y) (Nat.le_refl _) (by omega) ht (by rw [Nat.sub_self]; exact hy) hx
  obtain ⟨l1, l2⟩ := mu_left s hC (d := O.length) (t := t) (a := x) (b := y) (Nat.le_refl _) (by omega) ht hx (by rw [Nat.sub_self]; exact hy)
  by_cases g : j = t
  · subst g
    exact (l2.trans (addm_comm _ _ _)).trans r2.symm
  · exact (l1 j (by omega)).trans (r1 j (by omega)).symm
theorem tt_upto (ht : t ≤ O.length) (hx : TT O t x) (hy : gS O y) : Upto O t (gm O P C x y) y := by
  rcases Nat.lt_or_ge t O.length with h | h
  · exact (mu_left s hC (d := O.length) (t := t) (a := x) (b := y) (Nat.le_refl _) (by omega) h hx (by rw [Nat.sub_self]; exact hy)).1
  · have hx0 : x = zv O := hx.ext (s.zv _) fun j h1 h2 => by omega
    rw [hx0, F.g.l1 hy]
    exact fun j _ => rfl
theorem tt_nsub (ht : t ≤ O.length) : gN O P C (TT O t) := by
  have G := F.g
  have up0 : ∀ {x : List Int}, TT O t x → gS O x := fun h => h.mono (Nat.zero_le _)
  refine ⟨up0, s.zv _, fun {x y} hx hy => ?_, fun {x} hx => ?_, fun {x g} hx hg => ?_⟩
  · have h0 := G.cl (up0 hx) (up0 hy)
    exact ⟨h0.len, h0.bd, fun j hj => by rw [tt_upto s F hC ht hx (up0 hy) j hj]; exact hy.zero j hj⟩
  · obtain ⟨i1, i2⟩ := G.inv_in (up0 hx)
    have := tt_upto s F hC ht hx i1
    rw [show gm O P C x (ginv (gS O) (gm O P C) (zv O) x) = zv O from i2] at this
    exact ⟨i1.len, i1.bd, fun j hj => by rw [← this j hj]; exact at_rep _ j⟩
  · refine behind s F hC hg (G.cnj_in (up0 hx) hg) (fun j hj => ?_) ht
    have e : gm O P C g (cnj (gS O) (gm O P C) (zv O) x g) = gm O P C x g := G.cnj_spec (up0 hx) hg
    rw [e]
    exact tt_upto s F hC ht hx hg j hj
/-- A normal subgroup that its commutators with the generators fill. -/
theorem filled {N : List Int → Prop} (hN : gN O P C N) (h : ∀ x, N x → gNC O P C (cs O P C N) x) : ∀ x, N x → x = zv O := by
  have : ∀ t, t ≤ O.length → ∀ x, N x → TT O t x := by
    intro t
    induction t with
    | zero => intro _ x hx; exact hN.inS hx
    | succ t ih =>
      intro ht x hx
      refine NC.le (tt_nsub s F hC ht) ?_ (h x hx)
      rintro _ ⟨y, i, hy, hi, rfl⟩
      exact com_deep s F hC (by omega) (ih (by omega) y hy) (s.unit hi (Nat.zero_le _))
  exact fun x hx => (this O.length (Nat.le_refl _) x hx).ext (s.zv _) fun j h1 h2 => by omega
end
end Go.Grp
set_option linter.unusedVariables false
set_option linter.unusedSimpArgs false
set_option linter.unusedSectionVars false
namespace Go.Grp
open Go.Ab Go.Lie
variable {O : List Int} {P : List (List Int)} {C : List (List (List Int))} {x y z a b c g : List Int} {u v L : List (List Int)} {t i k : Nat}
abbrev memL (u : List (List Int)) : List Int → Prop := fun x => x ∈ u
/-- Elements of the group that are not trivial. -/
def okL (O : List Int) (u : List (List Int)) : Prop := ∀ x ∈ u, gS O x ∧ x ≠ zv O
def unitsG (O : List Int) : List (List Int) := (List.range O.length).map (unit O)
/-- The commutators of a list with the generators, those that are trivial left out. -/
noncomputable def comL (O : List Int) (P : List (List Int)) (C : List (List (List Int))) (L : List (List Int)) : List (List Int) :=
  L.flatMap fun x => ((List.range O.length).map fun i => gcom O P C x (unit O i)).filter fun c => decide (c ≠ zv O)
theorem mem_comL : c ∈ comL O P C L ↔ cs O P C (memL L) c ∧ c ≠ zv O := by
  simp only [comL, List.mem_flatMap, List.mem_filter, List.mem_map, List.mem_range, decide_eq_true_eq, cs]
  constructor
  · rintro ⟨x, hx, ⟨i, hi, rfl⟩, hc⟩; exact ⟨⟨x, i, hx, hi, rfl⟩, hc⟩
  · rintro ⟨⟨x, i, hx, hi, rfl⟩, hc⟩; exact ⟨x, hx, ⟨i, hi, rfl⟩, hc⟩
noncomputable def Lc (O : List Int) (P : List (List Int)) (C : List (List (List Int))) : Nat → List (List Int)
  | 0 => unitsG O
  | k + 1 => comL O P C (Lc O P C k)
/-- A step of the series. -/
structure SStep (O : List Int) (P : List (List Int)) (C : List (List (List Int))) (u v : List (List Int)) : Prop where
  ok : okL O v
  nc : ∀ x, gNC O P C (memL v) x ↔ gNC O P C (cs O P C (memL u)) x
/-- A member of the series and a list. -/
structure SRel (O : List Int) (P : List (List Int)) (C : List (List (List Int))) (u L : List (List Int)) : Prop where
  ou : okL O u
  oL : okL O L
  nc : ∀ x, gNC O P C (memL u) x ↔ gNC O P C (memL L) x
section
variable (s : Shp O P C) (F : Full O P C O.length)
include s F
theorem unitsG_ok : okL O (unitsG O) := by
  intro x hx
  simp only [unitsG, List.mem_map, List.mem_range] at hx
  obtain ⟨i, hi, rfl⟩ := hx
  refine ⟨s.unit hi (Nat.zero_le _), fun h => ?_⟩
  have := congrArg (fun v => at_ v i) h
  simp only [at_rep] at this
  rw [at_set (by simp; exact hi), if_pos rfl] at this
  omega
theorem comL_ok (h : okL O L) : okL O (comL O P C L) := fun c hc => by
  obtain ⟨h1, h2⟩ := mem_comL.1 hc
  exact ⟨cs_in s F (fun x hx => (h x hx).1) c h1, h2⟩
theorem SRel.start : SRel O P C (unitsG O) (unitsG O) := ⟨unitsG_ok s F, unitsG_ok s F, fun _ => Iff.rfl⟩
theorem SRel.step (r : SRel O P C u L) (h : SStep O P C u v) : SRel O P C v (comL O P C L) := by
  refine ⟨h.ok, comL_ok s F r.oL, fun x => ?_⟩
  rw [h.nc x, cs_eq s F (fun x hx => (r.ou x hx).1) (fun x hx => (r.oL x hx).1) r.nc x]
  have hcs := cs_in s F (A := memL L) fun x hx => (r.oL x hx).1
  constructor
  · intro hx
    refine NC.le (NC.sub F.g fun l hl => (comL_ok s F r.oL l hl).1) (fun l hl => ?_) hx
    by_cases hl0 : l = zv O
    · rw [hl0]; exact (NC.sub F.g fun l hl => (comL_ok s F r.oL l hl).1).one
    · exact NC.mem (mem_comL.2 ⟨hl, hl0⟩)
  · intro hx
    exact NC.le (NC.sub F.g hcs) (fun l hl => NC.mem (mem_comL.1 hl).1) hx
theorem triv : gN O P C (fun x => x = zv O) := by
  have G := F.g
  refine ⟨fun h => by rw [h]; exact G.one, rfl, fun h1 h2 => by rw [h1, h2]; exact G.l1 G.one, fun h => ?_, fun h hg => by rw [h]; exact G.cnj_one hg⟩
  rw [h]; exact (G.inv_eq G.one G.one (G.l1 G.one)).symm
theorem okL.nil (h : okL O u) (h0 : ∀ x, gNC O P C (memL u) x → x = zv O) : u = [] := by
  cases u with
  | nil => rfl
  | cons x u => exact absurd (h0 x (NC.mem (by simp))) (h x (by simp)).2
theorem SRel.nil (r : SRel O P C u L) : u = [] ↔ L = [] := by
  constructor
  · rintro rfl
    exact okL.nil s F r.oL fun x hx => NC.le (triv s F) (fun l hl => by cases hl) ((r.nc x).2 hx)
  · rintro rfl
    exact okL.nil s F r.ou fun x hx => NC.le (triv s F) (fun l hl => by cases hl) ((r.nc x).1 hx)
theorem SRel.stop (hC : Cent O C) (r : SRel O P C u L) (h : SStep O P C u u) : u = [] := by
  have hu : ∀ x, memL u x → gS O x := fun x hx => (r.ou x hx).1
  have hN : gN O P C (gNC O P C (memL u)) := NC.sub F.g hu
  refine okL.nil s F r.ou (filled s F hC hN fun x hx => ?_)
  refine NC.le (NC.sub F.g (cs_in s F fun y hy => hN.inS hy)) ?_ ((h.nc x).1 hx)
  rintro _ ⟨y, i, hy, hi, rfl⟩
  exact NC.mem ⟨y, i, NC.mem hy, hi, rfl⟩
theorem Lc_ok : ∀ k, okL O (Lc O P C k)
  | 0 => unitsG_ok s F
  | k + 1 => comL_ok s F (Lc_ok k)
theorem Lc_deep (hC : Cent O C) : ∀ k, k ≤ O.length → ∀ x ∈ Lc O P C k, TT O k x
  | 0, _, x, hx => (Lc_ok s F 0 x hx).1
  | k + 1, hk, x, hx => by
    obtain ⟨⟨y, i, hy, hi, rfl⟩, _⟩ := mem_comL.1 hx
    exact com_deep s F hC hk (Lc_deep hC k (by omega) y hy) (s.unit hi (Nat.zero_le _))
theorem Lc_lt (hC : Cent O C) (hk : Lc O P C k ≠ []) (hk' : k ≤ O.length) : k < O.length := by
  rcases Nat.lt_or_ge k O.length with h | h
  · exact h
  · exfalso
    obtain ⟨x, hx⟩ := List.exists_mem_of_ne_nil _ hk
    exact (Lc_ok s F k x hx).2 ((Lc_deep s F hC k hk' x hx).ext (s.zv _) fun j h1 h2 => by omega)
theorem Lc_nil (h : Lc O P C k = []) : ∀ j, k ≤ j → Lc O P C j = [] := by
  intro j hj
  induction j with
  | zero => have : k = 0 := by omega
            subst this; exact h
  | succ j ih =>
    by_cases e : k = j + 1
    · subst e; exact h
    · show comL O P C (Lc O P C j) = []
      rw [ih (by omega)]; rfl
end
end Go.Grp
set_option linter.unusedSimpArgs false
set_option linter.unusedVariables false
namespace Go.Proofs
open Go.Ab Go.Lie Go.Grp
variable {σ : PHeap} {K : PV → PHeap → Prop} {O : List Int} {P : List (List Int)} {C : List (List (List Int))} {vO vP vC vx vf va vb : PV} {x y f a b : List Int} {rP rC : List PV} {d j sp : Nat}
theorem set_at2 {i : Nat} (xl : i < x.length) : (x.set i 0).set i (at_ x i) = x := set_at xl
/-- An inverse, generator by generator. -/
theorem inv_from (s : Shp O P C) {d i : Nat} (hi : O.length = (d + 1) + i) (F : Full O P C d) (F1 : Full O P C (d + 1)) {y1 y2 : List Int} (hx : TT O i x) (h1 : TT O (i + 1) y1) (h2 : TT O (i + 1) y2) (e1 : mu O P C d (x.set i 0) y1 = zv O) (e2 : mu O P C d (pvec P i) y2 = zv O) :
    (at_ x i = 0 → mu O P C (d + 1) x y1 = zv O) ∧ (at_ x i ≠ 0 → mu O P C (d + 1) x (mu O P C (d + 1) (mu O P C (d + 1) y1 ((zv O).set i (at_ O i - at_ x i))) y2) = zv O) := by
  have hil : i < O.length := by omega
  have hn : O.length - d = i + 1 := by omega
  have hn1 : O.length - (d + 1) = i := by omega
  have hpos := s.pos hil
  have bx := hx.bd i hil
  have xl : i < x.length := by rw [hx.len]; exact hil
  have M := F.gp.toMon
  have G1 := F1.gp
  rw [hn1] at G1
  have hr : TT O (O.length - d) (x.set i 0) := by rw [hn]; exact hx.set0 hil hpos
  have h1' : TT O (O.length - d) y1 := by rw [hn]; exact h1
  have h2' : TT O (O.length - d) y2 := by rw [hn]; exact h2
  have hz : TT O (O.length - d) (zv O) := s.zv _
  have hw : TT O (O.length - d) (pvec P i) := by rw [hn]; exact s.pw i hil
  have sub : ∀ {u v : List Int}, TT O (O.length - d) u → TT O (O.length - d) v → mu O P C (d + 1) u v = mu O P C d u v := fun hu hv => mu_sub1 s (by omega) hu hv
  constructor
  · intro h0
    rw [set_set0 h0 xl] at e1 hr
    rw [sub hr h1']; exact e1
  · intro h0
    have z0 : (zv O).set i 0 = zv O := set_set0 (at_rep _ i) (by simp; exact hil)
    have ia : ∀ k, iter (al O P C d i) k (zv O) = zv O := fun k => it_fix (al_zv s F.toBeh hn) k
    have hg : TT O i ((zv O).set i (at_ x i)) := (s.zv i).set hil (Nat.le_refl _) bx
    have ht : TT O i ((zv O).set i (at_ O i - at_ x i)) := (s.zv i).set hil (Nat.le_refl _) ⟨by omega, by omega⟩
    have hrl : i < (x.set i 0).length := by rw [List.length_set]; exact xl
    have r0 : (x.set i 0).set i 0 = x.set i 0 := by rw [List.set_set]
    have up : ∀ {u : List Int}, TT O (O.length - d) u → TT O i u := fun h => h.mono (by omega)
    have ex : mu O P C (d + 1) ((zv O).set i (at_ x i)) (x.set i 0) = x := by
      have := mu_pair s F.toBeh hn (a := at_ x i) (b := 0) hz hr
      rw [r0, if_neg (by omega), ia, M.l1 hr, Int.add_zero, set_at2 xl] at this
      exact this
    have et : mu O P C (d + 1) ((zv O).set i (at_ x i)) ((zv O).set i (at_ O i - at_ x i)) = pvec P i := by
      have := mu_pair s F.toBeh hn (a := at_ x i) (b := at_ O i - at_ x i) hz hz
      rw [if_pos (by omega), ia, M.l1 hz, M.r1 hw, show at_ x i + (at_ O i - at_ x i) - at_ O i = 0 by omega, set_set0 (hw.zero i (by omega)) (by rw [hw.len]; exact hil)] at this
      exact this
    have key : ∀ Y, mu O P C (d + 1) x Y = mu O P C (d + 1) (mu O P C (d + 1) ((zv O).set i (at_ x i)) (x.set i 0)) Y := fun Y => by rw [ex]
    rw [key]
    have k1 := up h1'
    have k2 := up h2'
    have kr := up hr
    rw [G1.as hg kr (G1.cl (G1.cl k1 ht) k2), ← G1.as kr (G1.cl k1 ht) k2, ← G1.as kr k1 ht, sub hr h1', e1, G1.l1 ht, ← G1.as hg ht k2, et, sub hw h2', e2]
end Go.Proofs
set_option linter.unusedSimpArgs false
set_option linter.unusedVariables false
namespace Go.Proofs
open Go.Ab Go.Lie Go.Grp
variable {σ : PHeap} {K : PV → PHeap → Prop} {O : List Int} {P : List (List Int)} {C : List (List (List Int))} {vO vP vC vx vf va vb : PV} {x y f a b : List Int} {rP rC : List PV} {d j sp : Nat}
def FromOK (O : List Int) (P : List (List Int)) (C : List (List (List Int))) (d i : Nat) : Prop :=
  ∀ (σ : PHeap) (K : PV → PHeap → Prop) (x : List Int) (vx vO vP vC : PV), IsPr vO vP vC O P C → TT O i x → FI vx x → (∀ v y, FI v y → TT O i y → mu O P C d x y = zv O → K v σ) → PCalls Try.prog 172 [.agg [vO, vP, vC], .int .i64 i, vx] σ K
theorem l10From_ok (s : Shp O P C) (hc : Cons O P C) : ∀ {d i : Nat}, O.length = d + i → FromOK O P C d i
  | 0, i, hi => by
    intro σ K x vx vO vP vC hR hx hvx hk
    have hn6 := s.le
    obtain ⟨⟨w0, a0, rfl⟩, ⟨w1, a1, rP, rfl, hP⟩, ⟨w3, a3, rC, rfl, hC⟩⟩ := hR
    refine PCalls.gh ?_
    have hge : (O.length : Int) ≤ (i : Int) := by omega
    refine pcalls_of_vp mix Try.func172 cf172 rfl ?_
    dsimp only [if172, qI, eI, nI, qD, eD]
    simp only [pwA, if_true, if_false, eq_self, nm_eq, reduceCtorEq, ↓reduceIte, Nat.reduceEqDiff, Nat.reduceLeDiff, Nat.reduceBEq, Nat.reduceAdd, Nat.reduceLT, Nat.reduceSub, Nat.reduceMul, Int.reduceEq, Int.reduceLT, Int.reduceLE, Int.reduceNeg, Int.reduceToNat, List.reduceReplicate, Int.ofNat_le, List.getElem?_drop, hge, List.length_replicate, pis_rep, mk8 (n := O.length) (by omega), mkL (n := O.length) (by omega)]
    exact Gh.finF (s := σ.next + 1) ((keep_new σ _).new _) (by simp only [pwA, if_true, if_false, eq_self, nm_eq, reduceCtorEq, ↓reduceIte, Nat.reduceEqDiff, Nat.reduceLeDiff, Nat.reduceBEq, Nat.reduceAdd, Nat.reduceLT, Nat.reduceSub, Nat.reduceMul, Int.reduceEq, Int.reduceLT, Int.reduceLE, Int.reduceNeg, Int.reduceToNat, List.reduceReplicate, Int.ofNat_le, List.getElem?_drop]) (by omega) (pis_bel _ _) (by simp [capOK]) fun o1 => hk _ (zv O) (FI.mk (by simp)) (s.zv _) rfl
  | d + 1, i, hi => by
    intro σ K x vx vO vP vC hR hx hvx hk
    have hFr : FromOK O P C d (i + 1) := l10From_ok s hc (by omega)
    have F : Full O P C d := full_of s (by omega) fun j h1 h2 => hc j h2
    have F1 : Full O P C (d + 1) := full_of s (by omega) fun j h1 h2 => hc j h2
    have hAt : AtOK O P C (d + 1) i := l08At_ok s (by omega)
    have hn6 := s.le
    have hR0 := hR
    have hil : i < O.length := by omega
    have hO := s.pr i hil
    have hpos := s.pos hil
    have hxl := hx.len
    have bx := hx.bd i hil
    have hn1 : O.length - (d + 1) = i := by omega
    have G1 := F1.gp
    rw [hn1] at G1
    obtain ⟨⟨w0, a0, rfl⟩, ⟨w1, a1, rP, rfl, hP⟩, ⟨w3, a3, rC, rfl, hC⟩⟩ := hR
    obtain ⟨w5, a5, hpr⟩ := pvRow s hP hil
    have hiP : i < P.length := by rw [s.pl]; exact hil
    have hpv := s.pw i hil
    obtain ⟨wx, ax, rfl⟩ := hvx
    have hilx : i < x.length := by omega
    have hge : ¬ (O.length : Int) ≤ (i : Int) := by omega
    have sx := hx.set0 hil hpos
    have wi1 : IntKind.i64.wrap ((i : Int) + 1) = ((i + 1 : Nat) : Int) := wrapS hil (by omega)
    have hilx1 : i + 1 ≤ x.length := hilx
    refine PCalls.gh ?_
    refine pcalls_of_vp mix Try.func172 cf172 rfl ?_
    dsimp only [if172, qI, eI, nI, qD, eD]
    simp only [pwA, if_true, if_false, eq_self, nm_eq, reduceCtorEq, ↓reduceIte, Nat.reduceEqDiff, Nat.reduceLeDiff, Nat.reduceBEq, Nat.reduceAdd, Nat.reduceLT, Nat.reduceSub, Nat.reduceMul, Int.reduceEq, Int.reduceLT, Int.reduceLE, Int.reduceNeg, Int.reduceToNat, List.reduceReplicate, Int.ofNat_le, List.getElem?_drop, hge]
    refine l01Own_ok rfl (by omega) fun cap1 hc1 => ?_
    simp only [pwA, if_true, if_false, eq_self, nm_eq, reduceCtorEq, ↓reduceIte, Nat.reduceEqDiff, Nat.reduceLeDiff, Nat.reduceBEq, Nat.reduceAdd, Nat.reduceLT, Nat.reduceSub, Nat.reduceMul, Int.reduceEq, Int.reduceLT, Int.reduceLE, Int.reduceNeg, Int.reduceToNat, List.reduceReplicate, Int.ofNat_le, List.getElem?_drop, hilx, hilx1, pis_length, pis_set_at hilx, wi1]
    refine PCalls.frz (s := σ.next + 1) (cs := pis (x.set i 0)) (by simp only [pwA, if_true, if_false, eq_self, nm_eq, reduceCtorEq, ↓reduceIte, Nat.reduceEqDiff, Nat.reduceLeDiff, Nat.reduceBEq, Nat.reduceAdd, Nat.reduceLT, Nat.reduceSub, Nat.reduceMul, Int.reduceEq, Int.reduceLT, Int.reduceLE, Int.reduceNeg, Int.reduceToNat, List.reduceReplicate, Int.ofNat_le, List.getElem?_drop]) (pis_bel _ _) fun o1 => ?_
    have hcok := hc1.ok
    simp only [sbs, sb, hcok, and_self, if_true, hR0.O.sb, hR0.P.sb, hR0.C.sb]
    refine hFr _ _ (x.set i 0) _ _ _ _ hR0 sx (FI.mk (by simp)) fun v1 y1 hv1 hy1 e1 => ?_
    have hkp : Keep σ (((σ.new [.fz w0 a0 O.length (pis O), .fz w1 a1 P.length rP, .fz w3 a3 C.length rC]).new (pis (x.set i 0))).kill (σ.next + 1)) := ((keep_new σ _).new _).kill (by omega)
    simp only [pwA, if_true, if_false, eq_self, nm_eq, reduceCtorEq, ↓reduceIte, Nat.reduceEqDiff, Nat.reduceLeDiff, Nat.reduceBEq, Nat.reduceAdd, Nat.reduceLT, Nat.reduceSub, Nat.reduceMul, Int.reduceEq, Int.reduceLT, Int.reduceLE, Int.reduceNeg, Int.reduceToNat, List.reduceReplicate, Int.ofNat_le, List.getElem?_drop, hilx, pisAt hilx, List.getElem?_drop]
    refine iteI (fun h0 => ?_) fun h0 => ?_
    · have hr := hFr
      -- the inverse of the power is not asked for; any will do
      obtain ⟨y2, h2a, h2b, _⟩ := F.gp.inv (a := pvec P i) (by rw [show O.length - d = i + 1 by omega]; exact hpv)
      rw [show O.length - d = i + 1 by omega] at h2a
      have := (inv_from s (by omega) F F1 hx hy1 h2a e1 h2b).1 h0
      exact Gh.fin0 hkp (hv1.bel _) (hk v1 y1 hv1 (hy1.mono (by omega)) this)
    have hol : i < (zv O).length := by simp; exact hil
    have hol1 : i + 1 ≤ O.length := hil
    have hsub : IntKind.i64.wrap (at_ O i - at_ x i) = at_ O i - at_ x i := wrap64 (by omega) (by omega)
    have hset := pis_set_at hol (x := at_ O i - at_ x i)
    have ht : TT O i ((zv O).set i (at_ O i - at_ x i)) := (s.zv i).set hil (Nat.le_refl _) ⟨by omega, by omega⟩
    simp only [pwA, if_true, if_false, eq_self, nm_eq, reduceCtorEq, ↓reduceIte, Nat.reduceEqDiff, Nat.reduceLeDiff, Nat.reduceBEq, Nat.reduceAdd, Nat.reduceLT, Nat.reduceSub, Nat.reduceMul, Int.reduceEq, Int.reduceLT, Int.reduceLE, Int.reduceNeg, Int.reduceToNat, List.reduceReplicate, Int.ofNat_le, List.getElem?_drop, List.length_replicate, pis_rep, mk8 (n := O.length) (by omega), mkL (n := O.length) (by omega), hilx, pisAt hilx, hil, hol1, pisAt hil, List.getElem?_drop, hsub, pis_length, hset, wi1, hiP, hpr]
    refine PCalls.frz (s := σ.next + 2) (cs := pis ((zv O).set i (at_ O i - at_ x i))) (by simp only [pwA, if_true, if_false, eq_self, nm_eq, reduceCtorEq, ↓reduceIte, Nat.reduceEqDiff, Nat.reduceLeDiff, Nat.reduceBEq, Nat.reduceAdd, Nat.reduceLT, Nat.reduceSub, Nat.reduceMul, Int.reduceEq, Int.reduceLT, Int.reduceLE, Int.reduceNeg, Int.reduceToNat, List.reduceReplicate, Int.ofNat_le, List.getElem?_drop]) (pis_bel _ _) fun o2 => ?_
    simp only [sbs, sb, capOK, Nat.le_refl, decide_true, and_self, if_true, hR0.O.sb, hR0.P.sb, hR0.C.sb, hv1.sb]
    have hy1' : TT O i y1 := hy1.mono (by omega)
    refine hAt hR0 hy1' ht hv1 (FI.mk (by simp)) fun v3 hv3 => ?_
    simp only [pwA, if_true, if_false, eq_self, nm_eq, reduceCtorEq, ↓reduceIte, Nat.reduceEqDiff, Nat.reduceLeDiff, Nat.reduceBEq, Nat.reduceAdd, Nat.reduceLT, Nat.reduceSub, Nat.reduceMul, Int.reduceEq, Int.reduceLT, Int.reduceLE, Int.reduceNeg, Int.reduceToNat, List.reduceReplicate, Int.ofNat_le, List.getElem?_drop, wi1, hiP, hpr, List.getElem?_drop]
    refine hFr _ _ (pvec P i) _ _ _ _ hR0 hpv (FI.mk hpv.len) fun v2 y2 hv2 hy2 e2 => ?_
    have hy2' : TT O i y2 := hy2.mono (by omega)
    have h12 := G1.cl hy1' ht
    simp only [pwA, if_true, if_false, eq_self, nm_eq, reduceCtorEq, ↓reduceIte, Nat.reduceEqDiff, Nat.reduceLeDiff, Nat.reduceBEq, Nat.reduceAdd, Nat.reduceLT, Nat.reduceSub, Nat.reduceMul, Int.reduceEq, Int.reduceLT, Int.reduceLE, Int.reduceNeg, Int.reduceToNat, List.reduceReplicate, Int.ofNat_le, List.getElem?_drop, wi1, hiP, hpr, List.getElem?_drop]
    refine hAt hR0 h12 hy2' hv3 hv2 fun v4 hv4 => ?_
    simp only [pwA, if_true, if_false, eq_self, nm_eq, reduceCtorEq, ↓reduceIte, Nat.reduceEqDiff, Nat.reduceLeDiff, Nat.reduceBEq, Nat.reduceAdd, Nat.reduceLT, Nat.reduceSub, Nat.reduceMul, Int.reduceEq, Int.reduceLT, Int.reduceLE, Int.reduceNeg, Int.reduceToNat, List.reduceReplicate, Int.ofNat_le, List.getElem?_drop]
    have := (inv_from s (by omega) F F1 hx hy1 hy2 e1 e2).2 h0
    exact Gh.fin0 (((((keep_new σ _).new _).kill (by omega)).new _).kill (by omega)) (hv4.bel _) (hk v4 _ hv4 (G1.cl h12 hy2') this)
theorem l10Inv_ok (s : Shp O P C) (hc : Cons O P C) (hR : IsPr vO vP vC O P C) (hx : gS O x) (hvx : FI vx x) (hk : ∀ v, FI v (ginv (gS O) (gm O P C) (zv O) x) → K v σ) : PCalls Try.prog 118 [.agg [vO, vP, vC], vx] σ K := by
  have h0 := hR.O.one
  have h1 := hR.P.one
  have h2 := hR.C.one
  have G := (full_of s (Nat.le_refl _) fun j _ h => hc j h).g
  refine PCalls.gh ?_
  refine pcalls_of_vp mix Try.func118 cf118 rfl ?_
  dsimp only [if118, qI, eI, nI, qD, eD]
  simp only [pwA, if_true, if_false, eq_self, nm_eq, reduceCtorEq, ↓reduceIte, Nat.reduceEqDiff, Nat.reduceLeDiff, Nat.reduceBEq, Nat.reduceAdd, Nat.reduceLT, Nat.reduceSub, Nat.reduceMul, Int.reduceEq, Int.reduceLT, Int.reduceLE, Int.reduceNeg, Int.reduceToNat, List.reduceReplicate, Int.ofNat_le, List.getElem?_drop, h0, h1, h2]
  refine l10From_ok s hc (d := O.length) (i := 0) (by omega) _ _ x _ _ _ _ hR hx hvx fun v y hv hy e => ?_
  simp only [pwA, if_true, if_false, eq_self, nm_eq, reduceCtorEq, ↓reduceIte, Nat.reduceEqDiff, Nat.reduceLeDiff, Nat.reduceBEq, Nat.reduceAdd, Nat.reduceLT, Nat.reduceSub, Nat.reduceMul, Int.reduceEq, Int.reduceLT, Int.reduceLE, Int.reduceNeg, Int.reduceToNat, List.reduceReplicate, Int.ofNat_le, List.getElem?_drop]
  have := G.inv_eq hx hy e
  rw [← this] at hk
  exact Gh.fin0 (keep_new σ _) (hv.bel _) (hk v hv)
end Go.Proofs
set_option linter.unusedSimpArgs false
set_option linter.unusedVariables false
namespace Go.Proofs
open Go.Ab Go.Lie Go.Grp
variable {σ : PHeap} {K : PV → PHeap → Prop} {O : List Int} {P : List (List Int)} {C : List (List (List Int))} {vO vP vC vx vy vf va vb : PV} {x y f a b : List Int} {rP rC : List PV} {d j sp : Nat}
theorem l08Mul_ok (s : Shp O P C) (hR : IsPr vO vP vC O P C) (ha : gS O a) (hb : gS O b) (hva : FI va a) (hvb : FI vb b) (hk : ∀ v, FI v (gm O P C a b) → K v σ) : PCalls Try.prog 130 [.agg [vO, vP, vC], va, vb] σ K := by
  have h0 := hR.O.one
  have h1 := hR.P.one
  have h2 := hR.C.one
  refine PCalls.gh ?_
  refine pcalls_of_vp mix Try.func130 cf130 rfl ?_
  dsimp only [if130, qI, eI, nI, qD, eD]
  simp only [pwA, if_true, if_false, eq_self, nm_eq, reduceCtorEq, ↓reduceIte, Nat.reduceEqDiff, Nat.reduceLeDiff, Nat.reduceBEq, Nat.reduceAdd, Nat.reduceLT, Nat.reduceSub, Nat.reduceMul, Int.reduceEq, Int.reduceLT, Int.reduceLE, Int.reduceNeg, Int.reduceToNat, List.reduceReplicate, Int.ofNat_le, List.getElem?_drop, h0, h1, h2]
  refine l08At_ok s (d := O.length) (i := 0) (by omega) hR ha hb hva hvb fun v hv => ?_
  simp only [pwA, if_true, if_false, eq_self, nm_eq, reduceCtorEq, ↓reduceIte, Nat.reduceEqDiff, Nat.reduceLeDiff, Nat.reduceBEq, Nat.reduceAdd, Nat.reduceLT, Nat.reduceSub, Nat.reduceMul, Int.reduceEq, Int.reduceLT, Int.reduceLE, Int.reduceNeg, Int.reduceToNat, List.reduceReplicate, Int.ofNat_le, List.getElem?_drop]
  exact Gh.fin0 (keep_new σ _) (hv.bel _) (hk v hv)
theorem l10Comm_ok (s : Shp O P C) (hc : Cons O P C) (hR : IsPr vO vP vC O P C) (hx : gS O x) (hy : gS O y) (hvx : FI vx x) (hvy : FI vy y) (hk : ∀ v, FI v (gcom O P C x y) → K v σ) : PCalls Try.prog 116 [.agg [vO, vP, vC], vx, vy] σ K := by
  have h0 := hR.O.one
  have h1 := hR.P.one
  have h2 := hR.C.one
  have G := (full_of s (Nat.le_refl _) fun j _ h => hc j h).g
  have hyx := G.cl hy hx
  have hxy := G.cl hx hy
  have hi := (G.inv_in hyx).1
  refine PCalls.gh ?_
  refine pcalls_of_vp mix Try.func116 cf116 rfl ?_
  dsimp only [if116, qI, eI, nI, qD, eD]
  simp only [pwA, if_true, if_false, eq_self, nm_eq, reduceCtorEq, ↓reduceIte, Nat.reduceEqDiff, Nat.reduceLeDiff, Nat.reduceBEq, Nat.reduceAdd, Nat.reduceLT, Nat.reduceSub, Nat.reduceMul, Int.reduceEq, Int.reduceLT, Int.reduceLE, Int.reduceNeg, Int.reduceToNat, List.reduceReplicate, Int.ofNat_le, List.getElem?_drop, h0, h1, h2]
  refine l08Mul_ok s hR hy hx hvy hvx fun v1 f1 => ?_
  simp only [pwA, if_true, if_false, eq_self, nm_eq, reduceCtorEq, ↓reduceIte, Nat.reduceEqDiff, Nat.reduceLeDiff, Nat.reduceBEq, Nat.reduceAdd, Nat.reduceLT, Nat.reduceSub, Nat.reduceMul, Int.reduceEq, Int.reduceLT, Int.reduceLE, Int.reduceNeg, Int.reduceToNat, List.reduceReplicate, Int.ofNat_le, List.getElem?_drop, h0, h1, h2]
  refine l10Inv_ok s hc hR hyx f1 fun v2 f2 => ?_
  simp only [pwA, if_true, if_false, eq_self, nm_eq, reduceCtorEq, ↓reduceIte, Nat.reduceEqDiff, Nat.reduceLeDiff, Nat.reduceBEq, Nat.reduceAdd, Nat.reduceLT, Nat.reduceSub, Nat.reduceMul, Int.reduceEq, Int.reduceLT, Int.reduceLE, Int.reduceNeg, Int.reduceToNat, List.reduceReplicate, Int.ofNat_le, List.getElem?_drop, h0, h1, h2]
  refine l08Mul_ok s hR hx hy hvx hvy fun v3 f3 => ?_
  simp only [pwA, if_true, if_false, eq_self, nm_eq, reduceCtorEq, ↓reduceIte, Nat.reduceEqDiff, Nat.reduceLeDiff, Nat.reduceBEq, Nat.reduceAdd, Nat.reduceLT, Nat.reduceSub, Nat.reduceMul, Int.reduceEq, Int.reduceLT, Int.reduceLE, Int.reduceNeg, Int.reduceToNat, List.reduceReplicate, Int.ofNat_le, List.getElem?_drop, h0, h1, h2]
  refine l08Mul_ok s hR hi hxy f2 f3 fun v4 f4 => ?_
  simp only [pwA, if_true, if_false, eq_self, nm_eq, reduceCtorEq, ↓reduceIte, Nat.reduceEqDiff, Nat.reduceLeDiff, Nat.reduceBEq, Nat.reduceAdd, Nat.reduceLT, Nat.reduceSub, Nat.reduceMul, Int.reduceEq, Int.reduceLT, Int.reduceLE, Int.reduceNeg, Int.reduceToNat, List.reduceReplicate, Int.ofNat_le, List.getElem?_drop]
  have e : gm O P C (ginv (gS O) (gm O P C) (zv O) (gm O P C y x)) (gm O P C x y) = gcom O P C x y :=
    G.com_eq hx hy (G.cl hi hxy) (by rw [← G.as hyx hi hxy, G.inv_r hyx, G.l1 hxy])
  rw [e] at f4
  exact Gh.fin0 (keep_new σ _) (f4.bel _) (hk v4 f4)
end Go.Proofs
