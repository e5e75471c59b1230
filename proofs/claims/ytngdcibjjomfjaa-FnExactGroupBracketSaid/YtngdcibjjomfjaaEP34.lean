/- The compiled forms of the functions, each held against the program by the kernel. Written by program. -/
import Derived.Test.YtngdcibjjomfjaaEP33
import Derived.Test.YtngdcibjjomfjaaEP27
import Derived.Test.YtngdcibjjomfjaaEAbPt
import Derived.Test.YtngdcibjjomfjaaEP29
import Derived.Test.YtngdcibjjomfjaaEP26
import Derived.Test.YtngdcibjjomfjaaRows
import Derived.Lib.SmallJoins
import Derived.WalkKit
import Derived.ProofKit
import Derived.Test.YtngdcibjjomfjaaChecked
set_option linter.unusedVariables false
set_option linter.unusedSimpArgs false
set_option linter.unusedSectionVars false
namespace Go.Grp
open Go.Ab Go.Lie
variable {O : List Int} {P : List (List Int)} {C : List (List (List Int))} {x y z a b c g w w' : List Int} {t i k d : Nat} {N : List Int → Prop}
section
variable {α : Type} {S : α → Prop} {m : α → α → α} {e : α}
theorem Mon.pw_e (M : Mon S m e) : ∀ k, Grp.pw m e e k = e
  | 0 => rfl
  | k + 1 => by
    show m (Grp.pw m e e k) e = e
    rw [M.pw_e k]; exact M.l1 M.one
theorem Mon.pw_mul (M : Mon S m e) {x : α} (hx : S x) (a : Nat) : ∀ b, Grp.pw m e x (a * b) = Grp.pw m e (Grp.pw m e x a) b
  | 0 => rfl
  | b + 1 => by
    rw [Nat.mul_succ, M.pw_add hx, M.pw_mul hx a b]; rfl
theorem Mon.pw_mod (M : Mon S m e) {x : α} (hx : S x) {n a : Nat} (hn : Grp.pw m e x n = e) : Grp.pw m e x a = Grp.pw m e x (a % n) := by
  have h1 := M.pw_add hx (n * (a / n)) (a % n)
  rw [Nat.div_add_mod, M.pw_mul hx, hn, M.pw_e, M.l1 (M.pw hx _)] at h1
  exact h1
end
/-- w is a power of z, and its power by c is z. -/
def Rt (O : List Int) (P : List (List Int)) (C : List (List (List Int))) (z : List Int) (c : Int) (w : List Int) : Prop :=
  (z = zv O ∧ w = zv O) ∨ (z ≠ zv O ∧ ∃ j y n : Nat, (n : Int) = at_ O 0 ^ j ∧ Grp.pw (gm O P C) (zv O) z n = zv O ∧ (c * y) % n = 1 % n ∧ w = Grp.pw (gm O P C) (zv O) z y)
theorem pow_dvd_of {p : Int} {j j' : Nat} (h : j ≤ j') : p ^ j ∣ p ^ j' := by
  obtain ⟨k, rfl⟩ : ∃ k, j' = j + k := ⟨j' - j, by omega⟩
  rw [Int.pow_add]; exact Int.dvd_mul_right _ _
theorem mod_of_dvd {a b m n : Int} (h : m ∣ n) (he : a % n = b % n) : a % m = b % m := by
  rw [← Int.emod_emod_of_dvd a h, he, Int.emod_emod_of_dvd b h]
theorem mulmod {c y y' m : Int} (h1 : (c * y) % m = 1 % m) (h2 : (c * y') % m = 1 % m) : y % m = y' % m := by
  have d1 : m ∣ c * y - 1 := Int.dvd_of_emod_eq_zero (by rw [Int.sub_emod, h1]; simp)
  have d2 : m ∣ c * y' - 1 := Int.dvd_of_emod_eq_zero (by rw [Int.sub_emod, h2]; simp)
  have : m ∣ y - y' := by
    have h3 : y - y' = y' * (c * y - 1) - y * (c * y' - 1) := by grind
    rw [h3]
    exact Int.dvd_sub (Int.dvd_mul_of_dvd_right d1) (Int.dvd_mul_of_dvd_right d2)
  exact Int.emod_eq_emod_iff_emod_sub_eq_zero.2 (Int.emod_eq_zero_of_dvd this)
theorem pw_same (F : Full O P C O.length) (hz : gS O z) {n y y' : Nat} (hn : Grp.pw (gm O P C) (zv O) z n = zv O) (h : (y : Int) % n = (y' : Int) % n) : Grp.pw (gm O P C) (zv O) z y = Grp.pw (gm O P C) (zv O) z y' := by
  rw [F.g.toMon.pw_mod hz (a := y) hn, F.g.toMon.pw_mod hz (a := y') hn]
  congr 1
  omega
theorem Rt.two {n n' : Nat} {j j' : Nat} (h1 : (n : Int) = at_ O 0 ^ j) (h2 : (n' : Int) = at_ O 0 ^ j') : ((n : Int) ∣ n' ∧ j ≤ j') ∨ ((n' : Int) ∣ n ∧ j' ≤ j) := by
  rcases Nat.le_total j j' with h | h
  · exact .inl ⟨by rw [h1, h2]; exact pow_dvd_of h, h⟩
  · exact .inr ⟨by rw [h1, h2]; exact pow_dvd_of h, h⟩
theorem Rt.unique (F : Full O P C O.length) (hz : gS O z) {c : Int} (h : Rt O P C z c w) (g : Rt O P C z c w') : w = w' := by
  rcases h with ⟨h0, rfl⟩ | ⟨h0, j, y, n, h1, h2, h3, rfl⟩
  · rcases g with ⟨_, rfl⟩ | ⟨g0, _⟩
    · rfl
    · exact absurd h0 g0
  · rcases g with ⟨g0, _⟩ | ⟨_, j', y', n', g1, g2, g3, rfl⟩
    · exact absurd g0 h0
    · rcases Rt.two h1 g1 with ⟨hd, _⟩ | ⟨hd, _⟩
      · exact pw_same F hz h2 (mulmod h3 (mod_of_dvd hd g3))
      · exact pw_same F hz g2 (mulmod (mod_of_dvd hd h3) g3)
theorem Rt.gS (F : Full O P C O.length) (s : Shp O P C) (hz : Go.Grp.gS O z) {c : Int} (h : Rt O P C z c w) : Go.Grp.gS O w := by
  rcases h with ⟨_, rfl⟩ | ⟨_, j, y, n, _, _, _, rfl⟩
  · exact s.zv _
  · exact F.g.toMon.pw hz _
theorem Rt.neg (F : Full O P C O.length) (s : Shp O P C) (hz : Go.Grp.gS O z) {c : Int} (h : Rt O P C z c w) (g : Rt O P C z (-c) w') : w' = ginv (Go.Grp.gS O) (gm O P C) (zv O) w := by
  have G := F.g
  have wS := h.gS F s hz
  have wS' := g.gS F s hz
  refine G.inv_eq wS wS' ?_
  rcases h with ⟨h0, rfl⟩ | ⟨h0, j, y, n, h1, h2, h3, rfl⟩
  · rcases g with ⟨_, rfl⟩ | ⟨g0, _⟩
    · exact G.l1 G.one
    · exact absurd h0 g0
  · rcases g with ⟨g0, _⟩ | ⟨_, j', y', n', g1, g2, g3, rfl⟩
    · exact absurd g0 h0
    · rw [← G.toMon.pw_add hz]
      have key : ∀ {m : Nat}, Grp.pw (gm O P C) (zv O) z m = zv O → (c * y) % m = 1 % m → (-c * y') % m = 1 % m → Grp.pw (gm O P C) (zv O) z (y + y') = zv O := fun {m} e1 e2 e3 => by
        have e4 : (c * (-(y' : Int))) % m = 1 % m := by rw [show c * (-(y' : Int)) = -c * y' by grind]; exact e3
        have e5 := mulmod e2 e4
        have e6 : ((y + y' : Nat) : Int) % m = ((0 : Nat) : Int) % m := by
          have : ((y + y' : Nat) : Int) = (y : Int) - (-(y' : Int)) := by omega
          rw [this]
          rw [Int.emod_eq_emod_iff_emod_sub_eq_zero.1 e5]; simp
        exact pw_same F hz e1 e6
      rcases Rt.two h1 g1 with ⟨hd, _⟩ | ⟨hd, _⟩
      · exact key h2 h3 (mod_of_dvd hd g3)
      · exact key g2 (mod_of_dvd hd h3) g3
/-- Inverses of 2 and 12 for powers of 5 and 7. -/
theorem inv_ex {p n : Int} {j : Nat} (hp : p = 5 ∨ p = 7) (hn : n = p ^ j) (hb : n ≤ 729) {c : Int} (hc : c = 2 ∨ c = 12) : ∃ y : Int, (c * y) % n = 1 % n := by
  have hd : (p = 5 ∧ n ∣ 625) ∨ (p = 7 ∧ n ∣ 343) := by
    rcases hp with rfl | rfl
    · left
      refine ⟨rfl, ?_⟩
      rcases Nat.lt_or_ge 4 j with h | h
      · exfalso
        obtain ⟨k, rfl⟩ : ∃ k, j = 5 + k := ⟨j - 5, by omega⟩
        rw [Int.pow_add] at hn
        have : (1 : Int) ≤ 5 ^ k := Int.pow_pos (by decide)
        omega
      · rw [hn, show (625 : Int) = 5 ^ 4 by decide]; exact pow_dvd_of h
    · right
      refine ⟨rfl, ?_⟩
      rcases Nat.lt_or_ge 3 j with h | h
      · exfalso
        obtain ⟨k, rfl⟩ : ∃ k, j = 4 + k := ⟨j - 4, by omega⟩
        rw [Int.pow_add] at hn
        have : (1 : Int) ≤ 7 ^ k := Int.pow_pos (by decide)
        omega
      · rw [hn, show (343 : Int) = 7 ^ 3 by decide]; exact pow_dvd_of h
  rcases hd with ⟨_, hd⟩ | ⟨_, hd⟩
  · rcases hc with rfl | rfl
    · exact ⟨313, mod_of_dvd hd (by decide)⟩
    · exact ⟨573, mod_of_dvd hd (by decide)⟩
  · rcases hc with rfl | rfl
    · exact ⟨172, mod_of_dvd hd (by decide)⟩
    · exact ⟨143, mod_of_dvd hd (by decide)⟩
section
variable (s : Shp O P C) (F : Full O P C O.length) (hC : Cent O C)
include s F hC
theorem pw_next (ht : t < O.length) (hx : TT O t x) : TT O (t + 1) (Grp.pw (gm O P C) (zv O) x (at_ O t).toNat) := by
  obtain ⟨h1, h2⟩ := pw_deep s F hC ht hx (at_ O t).toNat
  refine ⟨h1.len, h1.bd, fun j hj => ?_⟩
  rcases Nat.lt_or_ge j t with h | h
  · exact h1.zero j h
  · rw [show j = t by omega, h2, Int.toNat_of_nonneg (by have := s.pr t ht; omega), Int.mul_emod_right]
omit hC in
theorem Lc_gam (k : Nat) (hx : gNC O P C (memL (Lc O P C k)) x) (hy : gS O y) : gNC O P C (memL (Lc O P C (k + 1))) (gcom O P C x y) := by
  have hL : ∀ x, memL (Lc O P C k) x → gS O x := fun x hx => (Lc_ok s F k x hx).1
  have hN : gN O P C (gNC O P C (memL (Lc O P C (k + 1)))) := NC.sub F.g fun l hl => (Lc_ok s F (k + 1) l hl).1
  have hNx : gN O P C (gNC O P C (memL (Lc O P C k))) := NC.sub F.g hL
  refine gen_all s F hN (hNx.inS hx) (fun i hi => ?_) hy
  have h1 := cs_le s F hL (B := gNC O P C (memL (Lc O P C k))) (fun x hx => hx) _ (NC.mem ⟨x, i, hx, hi, rfl⟩)
  refine NC.le hN (fun l hl => ?_) h1
  by_cases e : l = zv O
  · rw [e]; exact hN.one
  · exact NC.mem (mem_comL.2 ⟨hl, e⟩)
omit hC in
theorem Lc_start (hx : gS O x) : gNC O P C (memL (Lc O P C 0)) x := by
  have hN : gN O P C (gNC O P C (memL (Lc O P C 0))) := NC.sub F.g fun l hl => (Lc_ok s F 0 l hl).1
  have := F.g.toMon.ph_ind (Q := gNC O P C (memL (Lc O P C 0))) (h := unit O) (x := nx x) (d := O.length) (t := 0) hN.one (fun a b _ _ h1 h2 => hN.cl h1 h2)
    fun j h1 h2 => ⟨s.unit (by omega) (Nat.zero_le _), NC.mem (List.mem_map.2 ⟨j, List.mem_range.2 (by omega), rfl⟩)⟩
  rwa [F.nfx hx] at this
omit hC in
theorem Lc_triv {k : Nat} (hk : Lc O P C k = []) (hx : gNC O P C (memL (Lc O P C k)) x) : x = zv O :=
  NC.le (triv s F) (fun l hl => by rw [hk] at hl; cases hl) hx
omit hC in
theorem com_triv2 {k : Nat} (hk : Lc O P C k = []) (hk1 : k ≤ 1) (hx : gS O x) (hy : gS O y) : gcom O P C x y = zv O := by
  have h1 := Lc_nil s F hk 1 hk1
  exact Lc_triv s F h1 (Lc_gam s F 0 (Lc_start s F hx) hy)
omit hC in
theorem com_triv3 {k : Nat} (hk : Lc O P C k = []) (hk1 : k ≤ 2) (hx : gS O x) (hy : gS O y) (hz : gS O z) : gcom O P C (gcom O P C x y) z = zv O := by
  have h1 := Lc_nil s F hk 2 hk1
  exact Lc_triv s F h1 (Lc_gam s F 1 (Lc_gam s F 0 (Lc_start s F hx) hy) hz)
end
end Go.Grp
set_option linter.unusedSimpArgs false
set_option linter.unusedVariables false
namespace Go.Proofs
open Go.Ab Go.Lie
variable {σ : PHeap} {K : PV → PHeap → Prop}
/-- What the numbers of the division keep. -/
structure EucI (m a r nx x y : Int) : Prop where
  cof : ∃ s u v : Int, (s = 1 ∨ s = -1) ∧ 0 ≤ u ∧ u ≤ m ∧ 0 ≤ v ∧ x = s * u ∧ y = -s * v ∧ r * v + nx * u = m
  pos : 0 < r ∧ r ≤ m ∧ 0 ≤ nx ∧ nx < r
  xa : ∃ t, x * a = r + t * m
  ya : ∃ t, y * a = nx + t * m
  dm : ∃ c d, m = c * r + d * nx
  da : ∃ c d, a = c * r + d * nx
theorem le_of_mul {a b m : Int} (ha : 1 ≤ a) (hb : 0 ≤ b) (h : a * b ≤ m) : b ≤ m := by
  have := Int.mul_le_mul_of_nonneg_right ha hb
  omega
theorem EucI.start {m a : Int} (h1 : 0 ≤ a) (h2 : a < m) : EucI m a m a 0 1 where
  cof := ⟨-1, 0, 1, .inr rfl, by omega, by omega, by omega, by omega, by omega, by omega⟩
  pos := by omega
  xa := ⟨-1, by omega⟩
  ya := ⟨0, by omega⟩
  dm := ⟨1, 0, by omega⟩
  da := ⟨0, 1, by omega⟩
theorem EucI.step {m a r nx x y : Int} (h : EucI m a r nx x y) (hn : nx ≠ 0) : EucI m a nx (r - r / nx * nx) y (x - r / nx * y) ∧
    (-m ≤ x ∧ x ≤ m ∧ -m ≤ y ∧ y ≤ m ∧ -m ≤ r / nx * y ∧ r / nx * y ≤ m ∧ 0 ≤ r / nx ∧ r / nx ≤ m ∧ 0 ≤ r / nx * nx ∧ r / nx * nx ≤ m ∧ -m ≤ x - r / nx * y ∧ x - r / nx * y ≤ m) := by
  obtain ⟨s, u, v, hs, hu, hum, hv, hx, hy, he⟩ := h.cof
  obtain ⟨p1, p2, p3, p5⟩ := h.pos
  obtain ⟨tx, hxa⟩ := h.xa
  obtain ⟨ty, hya⟩ := h.ya
  obtain ⟨cm, dm, hdm⟩ := h.dm
  obtain ⟨ca, da, hda⟩ := h.da
  have hq0 : 0 ≤ r / nx := Int.ediv_nonneg (by omega) p3
  have e1 := Int.emod_nonneg r hn
  have e2 := Int.emod_lt_of_pos r (show 0 < nx by omega)
  have e3 : r % nx = r - r / nx * nx := by have := Int.mul_ediv_add_emod r nx; rw [Int.mul_comm]; omega
  generalize r / nx = q at *
  rw [e3] at e1 e2
  have hqv : 0 ≤ q * v := Int.mul_nonneg hq0 hv
  have hqn : 0 ≤ q * nx := Int.mul_nonneg hq0 p3
  have k1 : nx * (u + q * v) + (r - q * nx) * v = m := by grind
  have k2 : 0 ≤ (r - q * nx) * v := Int.mul_nonneg e1 hv
  have k3 : u + q * v ≤ m := le_of_mul (a := nx) (by omega) (by omega) (by omega)
  have k4 : 0 ≤ nx * u := Int.mul_nonneg p3 hu
  have k5 : v ≤ m := le_of_mul (a := r) (by omega) hv (by omega)
  have k6 : q ≤ m := le_of_mul (a := nx) (by omega) hq0 (by rw [Int.mul_comm]; omega)
  refine ⟨⟨⟨-s, v, u + q * v, by omega, hv, k5, by omega, by grind, by grind, by omega⟩, by omega, ⟨ty, hya⟩, ⟨tx - q * ty, by grind⟩, ⟨dm + cm * q, cm, by grind⟩, ⟨da + ca * q, ca, by grind⟩⟩, ?_⟩
  have k7 : q * y = -s * (q * v) := by grind
  have k8 : x - q * y = s * (u + q * v) := by grind
  rcases hs with rfl | rfl <;> omega
theorem inverseG_ok {a m : Int} (ha : 0 ≤ a) (ham : a < m) (hm : m ≤ 1000000) (hk : ∀ (x : Int) (b : Bool), 0 ≤ x → x < m → ((∃ z w : Int, a * z = 1 + w * m) → ∃ t, a * x = 1 + t * m) → K (.tup [.int .i64 x, .bool b]) σ) : PCalls Try.prog 163 [.int .i64 a, .int .i64 m] σ K := by
  refine pcalls_of_vp mix Try.func163 cf163 rfl ?_
  dsimp only [if163, qI, eI, nI, qD, eD]
  simp only [pwA, if_true, if_false, eq_self, nm_eq, reduceCtorEq, ↓reduceIte, Nat.reduceEqDiff, Nat.reduceLeDiff, Nat.reduceBEq, Nat.reduceAdd, Nat.reduceLT, Nat.reduceSub, Nat.reduceMul, Int.reduceEq, Int.reduceLT, Int.reduceLE, Int.reduceNeg, Int.reduceToNat, List.reduceReplicate, Int.ofNat_le, List.getElem?_drop]
  refine vp_loop (fun k vs h' => ∃ r nx x y : Int, k = nx.toNat ∧ vs = [.int .i64 m, .int .i64 r, .int .i64 nx, .int .i64 x, .int .i64 y] ∧ σ = h' ∧ EucI m a r nx x y) a.toNat ?_ ?_
  · exact ⟨m, a, 0, 1, rfl, rfl, rfl, EucI.start ha ham⟩
  rintro k vs h' ⟨r, nx, x, y, rfl, rfl, rfl, hI⟩
  obtain ⟨p1, p2, p3, p5⟩ := hI.pos
  by_cases h0 : nx = 0
  · subst h0
    simp only [pwA, if_true, if_false, eq_self, nm_eq, reduceCtorEq, ↓reduceIte, Nat.reduceEqDiff, Nat.reduceLeDiff, Nat.reduceBEq, Nat.reduceAdd, Nat.reduceLT, Nat.reduceSub, Nat.reduceMul, Int.reduceEq, Int.reduceLT, Int.reduceLE, Int.reduceNeg, Int.reduceToNat, List.reduceReplicate, Int.ofNat_le, List.getElem?_drop]
    refine residue_ok (by omega) (by omega) ?_
    simp only [pwA, if_true, if_false, eq_self, nm_eq, reduceCtorEq, ↓reduceIte, Nat.reduceEqDiff, Nat.reduceLeDiff, Nat.reduceBEq, Nat.reduceAdd, Nat.reduceLT, Nat.reduceSub, Nat.reduceMul, Int.reduceEq, Int.reduceLT, Int.reduceLE, Int.reduceNeg, Int.reduceToNat, List.reduceReplicate, Int.ofNat_le, List.getElem?_drop]
    refine hk _ _ (Int.emod_nonneg _ (by omega)) (Int.emod_lt_of_pos _ (by omega)) fun ⟨z, w, hz⟩ => ?_
    obtain ⟨tx, hxa⟩ := hI.xa
    obtain ⟨cm, dm, hdm⟩ := hI.dm
    obtain ⟨ca, da, hda⟩ := hI.da
    have e : r * (ca * z - w * cm) = 1 := by grind
    have hr1 : r = 1 := by
      have hd : r ∣ 1 := ⟨_, e.symm⟩
      have := Int.le_of_dvd (by omega) hd
      omega
    have em := Int.mul_ediv_add_emod x m
    exact ⟨tx - a * (x / m), by grind⟩
  · obtain ⟨hI', b⟩ := hI.step h0
    have ht : r.tdiv nx = r / nx := Int.tdiv_eq_ediv_of_nonneg (by omega)
    obtain ⟨p1', p2', p3', p5'⟩ := hI'.pos
    simp only [pwA, if_true, if_false, eq_self, nm_eq, reduceCtorEq, ↓reduceIte, Nat.reduceEqDiff, Nat.reduceLeDiff, Nat.reduceBEq, Nat.reduceAdd, Nat.reduceLT, Nat.reduceSub, Nat.reduceMul, Int.reduceEq, Int.reduceLT, Int.reduceLE, Int.reduceNeg, Int.reduceToNat, List.reduceReplicate, Int.ofNat_le, List.getElem?_drop, h0, ht, wrap64 (n := r / nx) (by omega) (by omega), wrap64 (n := r / nx * nx) (by omega) (by omega), wrap64 (n := r / nx * y) (by omega) (by omega), wrap64 (n := r - r / nx * nx) (by omega) (by omega), wrap64 (n := x - r / nx * y) (by omega) (by omega)]
    exact ⟨_, by omega, _, _, _, _, rfl, rfl, hI'⟩
end Go.Proofs
set_option linter.unusedSimpArgs false
set_option linter.unusedVariables false
namespace Go.Proofs
open Go.Ab Go.Lie Go.Grp
variable {σ : PHeap} {K : PV → PHeap → Prop} {O : List Int} {P : List (List Int)} {C : List (List (List Int))} {vO vP vC vx vy vz : PV} {x y z : List Int} {d j sp n : Nat}
/-- A Lazard group. -/
structure LG (O : List Int) (P : List (List Int)) (C : List (List (List Int))) : Prop where
  pr : isPres O P C
  co : Cons O P C
  ce : isCen O C
theorem LG.s (g : LG O P C) : Shp O P C := g.pr.shp
theorem LG.F (g : LG O P C) : Full O P C O.length := Cons.full g.s g.co
theorem LG.cent (g : LG O P C) : Cent O C := g.ce.cent g.s
theorem LG.eq (g : LG O P C) {i : Nat} (hi : i < O.length) : at_ O i = at_ O 0 := (g.ce i hi).1
theorem LG.isp (g : LG O P C) (h : 0 < O.length) : isP (at_ O 0) := by rw [at_eq h]; exact g.pr.isp _ (List.getElem_mem h)
theorem prodL_pow {p : Int} : ∀ {O : List Int}, (∀ o ∈ O, o = p) → prodL O = p ^ O.length
  | [], _ => by simp [prodL]
  | o :: O, h => by
    rw [prodL, prodL_pow fun o ho => h o (List.mem_cons_of_mem _ ho), h o (by simp), List.length_cons, Int.pow_succ, Int.mul_comm]
theorem LG.bound (g : LG O P C) {i : Nat} (h0 : 0 < O.length) (hi : i ≤ O.length) : 1 ≤ at_ O 0 ^ i ∧ at_ O 0 ^ i ≤ 729 := by
  have hp := (g.isp h0).bd
  have h1 : prodL O = at_ O 0 ^ O.length := prodL_pow fun o ho => by
    obtain ⟨k, hk, rfl⟩ := List.mem_iff_getElem.1 ho
    have := g.eq hk
    rwa [at_eq hk] at this
  have h2 := g.pr.2.2.2.2.1
  rw [h1] at h2
  have h3 : (1 : Int) ≤ at_ O 0 ^ i := Int.pow_pos (by omega)
  have h4 : (1 : Int) ≤ at_ O 0 ^ (O.length - i) := Int.pow_pos (by omega)
  have h5 : at_ O 0 ^ O.length = at_ O 0 ^ i * at_ O 0 ^ (O.length - i) := by rw [← Int.pow_add]; congr 1; omega
  have h6 : at_ O 0 ^ i * 1 ≤ at_ O 0 ^ i * at_ O 0 ^ (O.length - i) := Int.mul_le_mul_of_nonneg_left h4 (by omega)
  exact ⟨h3, by omega⟩
theorem l10Pow_ok (g : LG O P C) (hR : IsPr vO vP vC O P C) (hx : gS O x) (hvx : FI vx x) {k : Int} (hk0 : 0 ≤ k ∧ k ≤ 1000) (hk : ∀ v, FI v (Grp.pw (gm O P C) (zv O) x k.toNat) → K v σ) :
    PCalls Try.prog 173 [.agg [vO, vP, vC], vx, .int .i64 k] σ K := by
  have h0 := hR.O.one
  have h1 := hR.P.one
  have h2 := hR.C.one
  have M := g.F.g.toMon
  have hk1 : ¬ k < 0 := by omega
  refine PCalls.gh ?_
  refine pcalls_of_vp mix Try.func173 cf173 rfl ?_
  dsimp only [if173, qI, eI, nI, qD, eD]
  simp only [pwA, if_true, if_false, eq_self, nm_eq, reduceCtorEq, ↓reduceIte, Nat.reduceEqDiff, Nat.reduceLeDiff, Nat.reduceBEq, Nat.reduceAdd, Nat.reduceLT, Nat.reduceSub, Nat.reduceMul, Int.reduceEq, Int.reduceLT, Int.reduceLE, Int.reduceNeg, Int.reduceToNat, List.reduceReplicate, Int.ofNat_le, List.getElem?_drop, h0, h1, h2, hk1]
  refine l08Repeat_ok g.s (d := O.length) (i := 0) (by omega) (l08At_ok g.s (by omega)) M hR hx hvx hk0 fun v hv => ?_
  simp only [pwA, if_true, if_false, eq_self, nm_eq, reduceCtorEq, ↓reduceIte, Nat.reduceEqDiff, Nat.reduceLeDiff, Nat.reduceBEq, Nat.reduceAdd, Nat.reduceLT, Nat.reduceSub, Nat.reduceMul, Int.reduceEq, Int.reduceLT, Int.reduceLE, Int.reduceNeg, Int.reduceToNat, List.reduceReplicate, Int.ofNat_le, List.getElem?_drop]
  exact Gh.fin0 (keep_new σ _) (hv.bel _) (hk v hv)
theorem orderOfElement_ok (g : LG O P C) (hs : PtrG σ sp vO vP vC) (hR : IsPr vO vP vC O P C) (hx : gS O x) (hvx : FI vx x) (h0 : 0 < O.length)
    (hk : ∀ m : Nat, (∃ i, (m : Int) = at_ O 0 ^ i) → (m : Int) ≤ 729 → Grp.pw (gm O P C) (zv O) x m = zv O → K (.int .i64 m) σ) : PCalls Try.prog 179 [.ptr sp 0, vx] σ K := by
  have s := g.s
  have F := g.F
  have M := F.g.toMon
  have hn6 := s.le
  have up : ∀ {z : List Int}, gS O z → TT O (O.length - O.length) z := fun h => by rw [Nat.sub_self]; exact h
  have hR0 := hR
  obtain ⟨⟨w0, a0, rfl⟩, _, _⟩ := hR
  have e0 : σ.rd1 sp 0 = some (.fz w0 a0 O.length (pis O)) := by rw [obj_rd1 hs.obj]; rfl
  obtain ⟨wx, ax, rfl⟩ := hvx
  have hxl := hx.len
  refine pcalls_of_vp mix Try.func179 cf179 rfl ?_
  dsimp only [if179, qI, eI, nI, qD, eD]
  simp only [pwA, if_true, if_false, eq_self, nm_eq, reduceCtorEq, ↓reduceIte, Nat.reduceEqDiff, Nat.reduceLeDiff, Nat.reduceBEq, Nat.reduceAdd, Nat.reduceLT, Nat.reduceSub, Nat.reduceMul, Int.reduceEq, Int.reduceLT, Int.reduceLE, Int.reduceNeg, Int.reduceToNat, List.reduceReplicate, Int.ofNat_le, List.getElem?_drop]
  refine vp_loop (fun m us h' => ∃ (d k i : Nat) (w : Bool) (a : AV) (now : List Int), m = O.length - d ∧ us = [.ptr sp 0, .int .i64 k, .int .i64 d, .fz w a O.length (pis now)] ∧ σ = h' ∧ d ≤ O.length ∧ i ≤ d ∧ (k : Int) = at_ O 0 ^ i ∧ TT O d now ∧ now = Grp.pw (gm O P C) (zv O) x k) O.length ⟨0, 1, 0, wx, ax, x, by omega, by rw [hxl]; rfl, rfl, by omega, by omega, by simp, hx, (M.pw_one hx).symm⟩ ?_
  rintro m us h' ⟨d, k, i, w, a, now, rfl, rfl, rfl, hd, hid, hki, hnow, hpw⟩
  have hnl := hnow.len
  have hz := isZ_zv hnl
  have hbd := g.bound h0 (i := i) (by omega)
  simp only [pwA, if_true, if_false, eq_self, nm_eq, reduceCtorEq, ↓reduceIte, Nat.reduceEqDiff, Nat.reduceLeDiff, Nat.reduceBEq, Nat.reduceAdd, Nat.reduceLT, Nat.reduceSub, Nat.reduceMul, Int.reduceEq, Int.reduceLT, Int.reduceLE, Int.reduceNeg, Int.reduceToNat, List.reduceReplicate, Int.ofNat_le, List.getElem?_drop]
  refine isZero_ok hnl.symm (by omega) ?_
  by_cases hn0 : now = zv O
  · have hzz := hz.2 hn0
    simp only [pwA, if_true, if_false, eq_self, nm_eq, reduceCtorEq, ↓reduceIte, Nat.reduceEqDiff, Nat.reduceLeDiff, Nat.reduceBEq, Nat.reduceAdd, Nat.reduceLT, Nat.reduceSub, Nat.reduceMul, Int.reduceEq, Int.reduceLT, Int.reduceLE, Int.reduceNeg, Int.reduceToNat, List.reduceReplicate, Int.ofNat_le, List.getElem?_drop, hzz]
    exact hk k ⟨i, hki⟩ (by omega) (by rw [← hpw, hn0])
  have hzz : ¬ isZ now := fun h => hn0 (hz.1 h)
  have hdl : d < O.length := by
    rcases Nat.lt_or_ge d O.length with h | h
    · exact h
    · exact absurd (hnow.ext (s.zv _) fun j h1 h2 => by omega) hn0
  have hdn : d < now.length := by omega
  have bO := s.pr d hdl
  have eO := g.eq hdl
  have hdl' := hdl
  by_cases hdz : at_ now d = 0
  · simp only [pwA, if_true, if_false, eq_self, nm_eq, reduceCtorEq, ↓reduceIte, Nat.reduceEqDiff, Nat.reduceLeDiff, Nat.reduceBEq, Nat.reduceAdd, Nat.reduceLT, Nat.reduceSub, Nat.reduceMul, Int.reduceEq, Int.reduceLT, Int.reduceLE, Int.reduceNeg, Int.reduceToNat, List.reduceReplicate, Int.ofNat_le, List.getElem?_drop, hzz, hdl, pisAt hdn, hdz, wrapS hdl (by omega : O.length ≤ 4611686018427387904)]
    refine ⟨_, by omega, d + 1, k, i, w, a, now, rfl, rfl, by omega, by omega, hki, ⟨hnow.len, hnow.bd, fun j hj => ?_⟩, hpw⟩
    rcases Nat.lt_or_ge j d with h | h
    · exact hnow.zero j h
    · rw [show j = d by omega]; exact hdz
  · simp only [pwA, if_true, if_false, eq_self, nm_eq, reduceCtorEq, ↓reduceIte, Nat.reduceEqDiff, Nat.reduceLeDiff, Nat.reduceBEq, Nat.reduceAdd, Nat.reduceLT, Nat.reduceSub, Nat.reduceMul, Int.reduceEq, Int.reduceLT, Int.reduceLE, Int.reduceNeg, Int.reduceToNat, List.reduceReplicate, Int.ofNat_le, List.getElem?_drop, hzz, hdl, pisAt hdn, hdz, pisAt hdl, e0, List.getElem?_drop]
    have nS : gS O now := hnow.mono (Nat.zero_le _)
    refine power_fz s F hs hR0 (up nS) ⟨w, a, by rw [hnl]⟩ (k := at_ O d) (by omega) fun v1 f1 => ?_
    have hnx := pw_next s F g.cent hdl hnow
    have hlen := hnx.len
    obtain ⟨w1, a1, rfl⟩ := f1
    have hb2 := g.bound h0 (i := i + 1) (by omega)
    have hk2 : ((k * (at_ O d).toNat : Nat) : Int) = at_ O 0 ^ (i + 1) := by
      rw [Int.natCast_mul, Int.toNat_of_nonneg (by omega), hki, eO, Int.pow_succ]
    have ew : IntKind.i64.wrap ((k : Int) * at_ O d) = ((k * (at_ O d).toNat : Nat) : Int) := by
      rw [show (k : Int) * at_ O d = ((k * (at_ O d).toNat : Nat) : Int) by rw [Int.natCast_mul, Int.toNat_of_nonneg (by omega)]]
      exact wrap64 (by omega) (by omega)
    simp only [pwA, if_true, if_false, eq_self, nm_eq, reduceCtorEq, ↓reduceIte, Nat.reduceEqDiff, Nat.reduceLeDiff, Nat.reduceBEq, Nat.reduceAdd, Nat.reduceLT, Nat.reduceSub, Nat.reduceMul, Int.reduceEq, Int.reduceLT, Int.reduceLE, Int.reduceNeg, Int.reduceToNat, List.reduceReplicate, Int.ofNat_le, List.getElem?_drop, hzz, hdl, pisAt hdl, e0, List.getElem?_drop, ew, wrapS hdl' (by omega : O.length ≤ 4611686018427387904)]
    refine ⟨_, by omega, d + 1, k * (at_ O d).toNat, i + 1, w1, a1, Grp.pw (gm O P C) (zv O) now (at_ O d).toNat, rfl, by rw [show (Grp.pw (mu O P C O.length) (zv O) now (at_ O d).toNat).length = O.length from hlen], by omega, by omega, hk2, hnx, by rw [M.pw_mul hx, ← hpw]⟩
end Go.Proofs
set_option linter.unusedSimpArgs false
set_option linter.unusedVariables false
namespace Go.Proofs
open Go.Ab Go.Lie Go.Grp
variable {σ : PHeap} {K : PV → PHeap → Prop} {O : List Int} {P : List (List Int)} {C : List (List (List Int))} {vO vP vC vx vy vz : PV} {x y z : List Int} {d j sp n : Nat}
/-- A number that can be divided by. -/
def OkC (p c : Int) : Prop := p = 5 ∨ p = 7 ∨ (p = 3 ∧ (c = 2 ∨ c = -2))
theorem inv_ex3 {n : Int} {j : Nat} (hn : n = 3 ^ j) (hb : n ≤ 729) : ∃ y : Int, (2 * y) % n = 1 % n := by
  have hd : n ∣ 729 := by
    rcases Nat.lt_or_ge 6 j with h | h
    · exfalso
      obtain ⟨k, rfl⟩ : ∃ k, j = 7 + k := ⟨j - 7, by omega⟩
      rw [Int.pow_add] at hn
      have : (1 : Int) ≤ 3 ^ k := Int.pow_pos (by decide)
      omega
    · rw [hn, show (729 : Int) = 3 ^ 6 by decide]; exact pow_dvd_of h
  exact ⟨365, mod_of_dvd hd (by decide)⟩
theorem inv_ex2 {p n : Int} {j : Nat} {c : Int} (hp : OkC p c) (hn : n = p ^ j) (hb : n ≤ 729) (hc : c = 2 ∨ c = 12 ∨ c = -2 ∨ c = -12) : ∃ y : Int, (c * y) % n = 1 % n := by
  have key : ∃ y : Int, ((if 0 < c then c else -c) * y) % n = 1 % n := by
    rcases hp with h | h | ⟨h, h2⟩
    · exact inv_ex (.inl h) hn hb (by split <;> omega)
    · exact inv_ex (.inr h) hn hb (by split <;> omega)
    · rw [h] at hn
      rw [show (if 0 < c then c else -c) = 2 by split <;> omega]
      exact inv_ex3 hn hb
  obtain ⟨y, hy⟩ := key
  split at hy
  · exact ⟨y, hy⟩
  · exact ⟨-y, by rw [show c * -y = -c * y by grind]; exact hy⟩
theorem mod_to {c y m : Int} (h : (c * y) % m = 1 % m) : ∃ w, (c % m) * y = 1 + w * m := by
  obtain ⟨q, hq⟩ : m ∣ c * y - 1 := Int.dvd_of_emod_eq_zero (by rw [Int.sub_emod, h]; simp)
  refine ⟨q - c / m * y, ?_⟩
  have h1 := Int.emod_add_mul_ediv c m
  generalize c % m = r at *
  generalize c / m = t at *
  grind
theorem mod_of {c y m t : Int} (h : (c % m) * y = 1 + t * m) : (c * y) % m = 1 % m := by
  have h1 := Int.emod_add_mul_ediv c m
  have h2 : c * y = 1 + (t + c / m * y) * m := by
    generalize c % m = r at *
    generalize c / m = t at *
    grind
  rw [h2, Int.add_mul_emod_self_right]
theorem order_ge (g : LG O P C) (h0 : 0 < O.length) (hz : gS O z) (hz0 : z ≠ zv O) {m i : Nat} (hm : (m : Int) = at_ O 0 ^ i) (h : Grp.pw (gm O P C) (zv O) z m = zv O) : 2 ≤ m := by
  have hp := (g.isp h0).bd
  cases i with
  | zero =>
    have : m = 1 := by simp at hm; omega
    rw [this, g.F.g.toMon.pw_one hz] at h
    exact absurd h hz0
  | succ i =>
    have h1 : (1 : Int) ≤ at_ O 0 ^ i := Int.pow_pos (by omega)
    rw [Int.pow_succ] at hm
    have h2 : 1 * at_ O 0 ≤ at_ O 0 ^ i * at_ O 0 := Int.mul_le_mul_of_nonneg_right h1 (by omega)
    omega
theorem pos_of_ne (hz : gS O z) (hz0 : z ≠ zv O) : 0 < O.length := by
  rcases Nat.eq_zero_or_pos O.length with h | h
  · exact absurd (ext_at (by rw [hz.len]; simp) fun j hj => by have := hz.len; omega) hz0
  · exact h
theorem root_ok (g : LG O P C) (hs : PtrG σ sp vO vP vC) (hR : IsPr vO vP vC O P C) (hz : gS O z) (hvz : FI vz z) {c : Int} (hcp : z ≠ zv O → OkC (at_ O 0) c) (hc : c = 2 ∨ c = 12 ∨ c = -2 ∨ c = -12)
    (hk : ∀ v w, FI v w → Rt O P C z c w → K v σ) : PCalls Try.prog 123 [.ptr sp 0, vz, .int .i64 c] σ K := by
  have s := g.s
  have hn6 := s.le
  have up : ∀ {z : List Int}, gS O z → TT O (O.length - O.length) z := fun h => by rw [Nat.sub_self]; exact h
  have hvz0 := hvz
  obtain ⟨wz, az, rfl⟩ := hvz
  have hzl := hz.len
  have hzz := isZ_zv hzl
  refine pcalls_of_vp mix Try.func123 cf123 rfl ?_
  dsimp only [if123, qI, eI, nI, qD, eD]
  simp only [pwA, if_true, if_false, eq_self, nm_eq, reduceCtorEq, ↓reduceIte, Nat.reduceEqDiff, Nat.reduceLeDiff, Nat.reduceBEq, Nat.reduceAdd, Nat.reduceLT, Nat.reduceSub, Nat.reduceMul, Int.reduceEq, Int.reduceLT, Int.reduceLE, Int.reduceNeg, Int.reduceToNat, List.reduceReplicate, Int.ofNat_le, List.getElem?_drop]
  refine isZero_ok rfl (by omega) ?_
  by_cases hz0 : z = zv O
  · have h1 := hzz.2 hz0
    simp only [pwA, if_true, if_false, eq_self, nm_eq, reduceCtorEq, ↓reduceIte, Nat.reduceEqDiff, Nat.reduceLeDiff, Nat.reduceBEq, Nat.reduceAdd, Nat.reduceLT, Nat.reduceSub, Nat.reduceMul, Int.reduceEq, Int.reduceLT, Int.reduceLE, Int.reduceNeg, Int.reduceToNat, List.reduceReplicate, Int.ofNat_le, List.getElem?_drop, h1]
    refine PCalls.fzN (n := z.length) rfl (fun K' => Clone_ok rfl (by omega)) fun v0 => ?_
    simp only [pwA, if_true, if_false, eq_self, nm_eq, reduceCtorEq, ↓reduceIte, Nat.reduceEqDiff, Nat.reduceLeDiff, Nat.reduceBEq, Nat.reduceAdd, Nat.reduceLT, Nat.reduceSub, Nat.reduceMul, Int.reduceEq, Int.reduceLT, Int.reduceLE, Int.reduceNeg, Int.reduceToNat, List.reduceReplicate, Int.ofNat_le, List.getElem?_drop]
    exact hk _ z ⟨true, v0, rfl⟩ (.inl ⟨hz0, hz0⟩)
  have h1 : ¬ isZ z := fun h => hz0 (hzz.1 h)
  have h0 := pos_of_ne hz hz0
  simp only [pwA, if_true, if_false, eq_self, nm_eq, reduceCtorEq, ↓reduceIte, Nat.reduceEqDiff, Nat.reduceLeDiff, Nat.reduceBEq, Nat.reduceAdd, Nat.reduceLT, Nat.reduceSub, Nat.reduceMul, Int.reduceEq, Int.reduceLT, Int.reduceLE, Int.reduceNeg, Int.reduceToNat, List.reduceReplicate, Int.ofNat_le, List.getElem?_drop, h1]
  refine orderOfElement_ok g hs hR hz hvz0 h0 fun m ⟨i, hm⟩ hm2 hpw => ?_
  have hm1 := order_ge g h0 hz hz0 hm hpw
  obtain ⟨Y, hY⟩ := inv_ex2 (hcp hz0) hm hm2 hc
  obtain ⟨wY, hY2⟩ := mod_to hY
  have b1 := Int.emod_nonneg c (show (m : Int) ≠ 0 by omega)
  have b2 := Int.emod_lt_of_pos c (show 0 < (m : Int) by omega)
  simp only [pwA, if_true, if_false, eq_self, nm_eq, reduceCtorEq, ↓reduceIte, Nat.reduceEqDiff, Nat.reduceLeDiff, Nat.reduceBEq, Nat.reduceAdd, Nat.reduceLT, Nat.reduceSub, Nat.reduceMul, Int.reduceEq, Int.reduceLT, Int.reduceLE, Int.reduceNeg, Int.reduceToNat, List.reduceReplicate, Int.ofNat_le, List.getElem?_drop]
  refine residue_ok (by omega) (by omega) ?_
  simp only [pwA, if_true, if_false, eq_self, nm_eq, reduceCtorEq, ↓reduceIte, Nat.reduceEqDiff, Nat.reduceLeDiff, Nat.reduceBEq, Nat.reduceAdd, Nat.reduceLT, Nat.reduceSub, Nat.reduceMul, Int.reduceEq, Int.reduceLT, Int.reduceLE, Int.reduceNeg, Int.reduceToNat, List.reduceReplicate, Int.ofNat_le, List.getElem?_drop]
  refine inverseG_ok b1 b2 (by omega) fun q qb q1 q2 q3 => ?_
  obtain ⟨t, ht⟩ := q3 ⟨Y, wY, hY2⟩
  simp only [pwA, if_true, if_false, eq_self, nm_eq, reduceCtorEq, ↓reduceIte, Nat.reduceEqDiff, Nat.reduceLeDiff, Nat.reduceBEq, Nat.reduceAdd, Nat.reduceLT, Nat.reduceSub, Nat.reduceMul, Int.reduceEq, Int.reduceLT, Int.reduceLE, Int.reduceNeg, Int.reduceToNat, List.reduceReplicate, Int.ofNat_le, List.getElem?_drop]
  refine power_fz s g.F hs hR (up hz) hvz0 (k := q) (by omega) fun v1 f1 => ?_
  simp only [pwA, if_true, if_false, eq_self, nm_eq, reduceCtorEq, ↓reduceIte, Nat.reduceEqDiff, Nat.reduceLeDiff, Nat.reduceBEq, Nat.reduceAdd, Nat.reduceLT, Nat.reduceSub, Nat.reduceMul, Int.reduceEq, Int.reduceLT, Int.reduceLE, Int.reduceNeg, Int.reduceToNat, List.reduceReplicate, Int.ofNat_le, List.getElem?_drop]
  refine hk _ _ f1 (.inr ⟨hz0, i, q.toNat, m, hm, hpw, ?_, rfl⟩)
  rw [Int.toNat_of_nonneg q1]
  exact mod_of ht
theorem l34Root_ok (g : LG O P C) (hR : IsPr vO vP vC O P C) (hz : gS O z) (hvz : FI vz z) {c : Int} (hcp : z ≠ zv O → OkC (at_ O 0) c) (hc : c = 2 ∨ c = 12)
    (hk : ∀ v w, FI v w → Rt O P C z c w → K v σ) : PCalls Try.prog 119 [.agg [vO, vP, vC], vz, .int .i64 c] σ K := by
  have s := g.s
  have hn6 := s.le
  have F := g.F
  have M := F.g.toMon
  have hvz0 := hvz
  obtain ⟨wz, az, rfl⟩ := hvz
  have hzl := hz.len
  have hzz := isZ_zv hzl
  have hR0 := hR
  obtain ⟨⟨w0, a0, rfl⟩, ⟨w1, a1, rP, rfl, hP⟩, ⟨w3, a3, rC, rfl, hC3⟩⟩ := hR
  refine PCalls.gh ?_
  have hkp : Keep σ (σ.new [.fz w0 a0 O.length (pis O), .fz w1 a1 P.length rP, .fz w3 a3 C.length rC]) := keep_new σ _
  have r3 : (σ.new [.fz w0 a0 O.length (pis O), .fz w1 a1 P.length rP, .fz w3 a3 C.length rC]).rd σ.next 0 3 = some [.fz w0 a0 O.length (pis O), .fz w1 a1 P.length rP, .fz w3 a3 C.length rC] := by simp only [pwA, if_true, if_false, eq_self, nm_eq, reduceCtorEq, ↓reduceIte, Nat.reduceEqDiff, Nat.reduceLeDiff, Nat.reduceBEq, Nat.reduceAdd, Nat.reduceLT, Nat.reduceSub, Nat.reduceMul, Int.reduceEq, Int.reduceLT, Int.reduceLE, Int.reduceNeg, Int.reduceToNat, List.reduceReplicate, Int.ofNat_le, List.getElem?_drop]
  have r0 : (σ.new [.fz w0 a0 O.length (pis O), .fz w1 a1 P.length rP, .fz w3 a3 C.length rC]).rd1 σ.next 0 = some (.fz w0 a0 O.length (pis O)) := by simp only [pwA, if_true, if_false, eq_self, nm_eq, reduceCtorEq, ↓reduceIte, Nat.reduceEqDiff, Nat.reduceLeDiff, Nat.reduceBEq, Nat.reduceAdd, Nat.reduceLT, Nat.reduceSub, Nat.reduceMul, Int.reduceEq, Int.reduceLT, Int.reduceLE, Int.reduceNeg, Int.reduceToNat, List.reduceReplicate, Int.ofNat_le, List.getElem?_drop]
  refine pcalls_of_vp mix Try.func119 cf119 rfl ?_
  dsimp only [if119, qI, eI, nI, qD, eD]
  simp only [pwA, if_true, if_false, eq_self, nm_eq, reduceCtorEq, ↓reduceIte, Nat.reduceEqDiff, Nat.reduceLeDiff, Nat.reduceBEq, Nat.reduceAdd, Nat.reduceLT, Nat.reduceSub, Nat.reduceMul, Int.reduceEq, Int.reduceLT, Int.reduceLE, Int.reduceNeg, Int.reduceToNat, List.reduceReplicate, Int.ofNat_le, List.getElem?_drop]
  refine l01Zero_ok rfl (by omega) ?_
  by_cases hz0 : z = zv O
  · have h1 := hzz.2 hz0
    simp only [pwA, if_true, if_false, eq_self, nm_eq, reduceCtorEq, ↓reduceIte, Nat.reduceEqDiff, Nat.reduceLeDiff, Nat.reduceBEq, Nat.reduceAdd, Nat.reduceLT, Nat.reduceSub, Nat.reduceMul, Int.reduceEq, Int.reduceLT, Int.reduceLE, Int.reduceNeg, Int.reduceToNat, List.reduceReplicate, Int.ofNat_le, List.getElem?_drop, h1]
    exact Gh.fin0 hkp (hvz0.bel _) (hk _ z hvz0 (.inl ⟨hz0, hz0⟩))
  have h1 : ¬ isZ z := fun h => hz0 (hzz.1 h)
  have h0 := pos_of_ne hz hz0
  have h0I : (0 : Int) < (O.length : Int) := by omega
  have hpb := (g.isp h0).bd
  simp only [pwA, if_true, if_false, eq_self, nm_eq, reduceCtorEq, ↓reduceIte, Nat.reduceEqDiff, Nat.reduceLeDiff, Nat.reduceBEq, Nat.reduceAdd, Nat.reduceLT, Nat.reduceSub, Nat.reduceMul, Int.reduceEq, Int.reduceLT, Int.reduceLE, Int.reduceNeg, Int.reduceToNat, List.reduceReplicate, Int.ofNat_le, List.getElem?_drop, h1, h0, h0I, pisAt h0, List.getElem?_drop, r3, r0]
  refine l10Pow_ok g hR0 hz hvz0 (k := at_ O 0) (by omega) fun v1 f1 => ?_
  obtain ⟨w5, a5, rfl⟩ := f1
  have nx1 := pw_next s F g.cent h0 hz
  simp only [pwA, if_true, if_false, eq_self, nm_eq, reduceCtorEq, ↓reduceIte, Nat.reduceEqDiff, Nat.reduceLeDiff, Nat.reduceBEq, Nat.reduceAdd, Nat.reduceLT, Nat.reduceSub, Nat.reduceMul, Int.reduceEq, Int.reduceLT, Int.reduceLE, Int.reduceNeg, Int.reduceToNat, List.reduceReplicate, Int.ofNat_le, List.getElem?_drop]
  refine vp_loop (fun m us h' => ∃ (i k : Nat) (w : Bool) (a : AV) (now : List Int), m = O.length - i ∧ us = [.fz wz az z.length (pis z), .int .i64 c, .ptr σ.next 0, .int .i64 k, .fz w a now.length (pis now)] ∧ σ.new [.fz w0 a0 O.length (pis O), .fz w1 a1 P.length rP, .fz w3 a3 C.length rC] = h' ∧ i ≤ O.length ∧ (k : Int) = at_ O 0 ^ i ∧ TT O i now ∧ now = Grp.pw (gm O P C) (zv O) z k) (O.length - 1) ?_ ?_
  · refine ⟨1, (at_ O 0).toNat, w5, a5, _, rfl, ?_, rfl, by omega, by rw [Int.toNat_of_nonneg (by omega), Int.pow_succ, Int.pow_zero, Int.one_mul], nx1, rfl⟩
    simp only [pwA, if_true, if_false, eq_self, nm_eq, reduceCtorEq, ↓reduceIte, Nat.reduceEqDiff, Nat.reduceLeDiff, Nat.reduceBEq, Nat.reduceAdd, Nat.reduceLT, Nat.reduceSub, Nat.reduceMul, Int.reduceEq, Int.reduceLT, Int.reduceLE, Int.reduceNeg, Int.reduceToNat, List.reduceReplicate, Int.ofNat_le, List.getElem?_drop, Int.toNat_of_nonneg (show 0 ≤ at_ O 0 by omega)]
  rintro m us h' ⟨i, k, w, a, now, rfl, rfl, rfl, hi, hki, hnow, hpw⟩
  have hnl := hnow.len
  have hbd := g.bound h0 (i := i) hi
  have hzn := isZ_zv hnl
  simp only [pwA, if_true, if_false, eq_self, nm_eq, reduceCtorEq, ↓reduceIte, Nat.reduceEqDiff, Nat.reduceLeDiff, Nat.reduceBEq, Nat.reduceAdd, Nat.reduceLT, Nat.reduceSub, Nat.reduceMul, Int.reduceEq, Int.reduceLT, Int.reduceLE, Int.reduceNeg, Int.reduceToNat, List.reduceReplicate, Int.ofNat_le, List.getElem?_drop]
  refine l01Zero_ok rfl (by omega) ?_
  by_cases hn0 : now = zv O
  rotate_left
  · have h2 : ¬ isZ now := fun h => hn0 (hzn.1 h)
    have hil : i < O.length := by
      rcases Nat.lt_or_ge i O.length with h | h
      · exact h
      · exact absurd (hnow.ext (s.zv _) fun j h1 h2 => by omega) hn0
    have hb2 := g.bound h0 (i := i + 1) (by omega)
    have hk2 : ((k * (at_ O 0).toNat : Nat) : Int) = at_ O 0 ^ (i + 1) := by
      rw [Int.natCast_mul, Int.toNat_of_nonneg (by omega), hki, Int.pow_succ]
    have ew : IntKind.i64.wrap ((k : Int) * at_ O 0) = ((k * (at_ O 0).toNat : Nat) : Int) := by
      rw [show (k : Int) * at_ O 0 = ((k * (at_ O 0).toNat : Nat) : Int) by rw [Int.natCast_mul, Int.toNat_of_nonneg (by omega)]]
      exact wrap64 (by omega) (by omega)
    have nS : gS O now := hnow.mono (Nat.zero_le _)
    simp only [pwA, if_true, if_false, eq_self, nm_eq, reduceCtorEq, ↓reduceIte, Nat.reduceEqDiff, Nat.reduceLeDiff, Nat.reduceBEq, Nat.reduceAdd, Nat.reduceLT, Nat.reduceSub, Nat.reduceMul, Int.reduceEq, Int.reduceLT, Int.reduceLE, Int.reduceNeg, Int.reduceToNat, List.reduceReplicate, Int.ofNat_le, List.getElem?_drop, h2, h0, h0I, pisAt h0, List.getElem?_drop, r3, r0, ew]
    refine l10Pow_ok g hR0 nS ⟨w, a, rfl⟩ (k := at_ O 0) (by omega) fun v2 f2 => ?_
    obtain ⟨w6, a6, rfl⟩ := f2
    have nx2 := pw_next s F g.cent hil hnow
    rw [g.eq hil] at nx2
    simp only [pwA, if_true, if_false, eq_self, nm_eq, reduceCtorEq, ↓reduceIte, Nat.reduceEqDiff, Nat.reduceLeDiff, Nat.reduceBEq, Nat.reduceAdd, Nat.reduceLT, Nat.reduceSub, Nat.reduceMul, Int.reduceEq, Int.reduceLT, Int.reduceLE, Int.reduceNeg, Int.reduceToNat, List.reduceReplicate, Int.ofNat_le, List.getElem?_drop, h2, h0, h0I, pisAt h0, List.getElem?_drop, r3, r0]
    exact ⟨_, by omega, i + 1, k * (at_ O 0).toNat, w6, a6, _, rfl, rfl, by omega, hk2, nx2, by rw [M.pw_mul hz, ← hpw]⟩
  have h2 := hzn.2 hn0
  rw [hn0] at hpw
  have hm1 := order_ge g h0 hz hz0 hki hpw.symm
  obtain ⟨Y, hY⟩ := inv_ex2 (hcp hz0) hki (by omega) (c := c) (by omega)
  have b1 := Int.emod_nonneg c (show (k : Int) ≠ 0 by omega)
  have b2 := Int.emod_lt_of_pos c (show 0 < (k : Int) by omega)
  have hY2 : (c % k * (Y % k)) % (k : Int) = 1 := by
    rw [← Int.mul_emod, hY]; exact Int.emod_eq_of_lt (by omega) (by omega)
  have hY1 := Int.emod_nonneg Y (show (k : Int) ≠ 0 by omega)
  have hY3 := Int.emod_lt_of_pos Y (show 0 < (k : Int) by omega)
  have hY0 : Y % (k : Int) ≠ 0 := fun h => by rw [h, Int.mul_zero, Int.zero_emod] at hY2; omega
  simp only [pwA, if_true, if_false, eq_self, nm_eq, reduceCtorEq, ↓reduceIte, Nat.reduceEqDiff, Nat.reduceLeDiff, Nat.reduceBEq, Nat.reduceAdd, Nat.reduceLT, Nat.reduceSub, Nat.reduceMul, Int.reduceEq, Int.reduceLT, Int.reduceLE, Int.reduceNeg, Int.reduceToNat, List.reduceReplicate, Int.ofNat_le, List.getElem?_drop, h2]
  refine vp_loop (fun m us h' => ∃ (q : Nat), m = k - q ∧ us = [.fz wz az z.length (pis z), .int .i64 c, .ptr σ.next 0, .int .i64 k, .int .i64 q] ∧ σ.new [.fz w0 a0 O.length (pis O), .fz w1 a1 P.length rP, .fz w3 a3 C.length rC] = h' ∧ 1 ≤ q ∧ (q : Int) ≤ Y % (k : Int)) (k - 1) ⟨1, rfl, rfl, rfl, by omega, by omega⟩ ?_
  rintro m us h' ⟨q, rfl, rfl, rfl, hq1, hqY⟩
  have hqk : (q : Int) < (k : Int) := by omega
  have hqk' : q < k := by omega
  have hmul := Int.mul_nonneg b1 (show 0 ≤ (q : Int) by omega)
  have hmul2 : c % (k : Int) * q ≤ 729 * 729 := Int.mul_le_mul (by omega) (by omega) (by omega) (by omega)
  have ew : IntKind.i64.wrap (c % (k : Int) * q) = c % (k : Int) * q := wrap64 (by omega) (by omega)
  have et : (c % (k : Int) * q).tmod k = c % (k : Int) * q % k := Int.tmod_eq_emod_of_nonneg hmul
  have hk0 : ¬ (k : Int) = 0 := by omega
  have bm1 := Int.emod_nonneg (c % (k : Int) * q) hk0
  have bm2 := Int.emod_lt_of_pos (c % (k : Int) * q) (show 0 < (k : Int) by omega)
  have ew2 : IntKind.i64.wrap (c % (k : Int) * q % k) = c % (k : Int) * q % k := wrap64 (by omega) (by omega)
  simp only [pwA, if_true, if_false, eq_self, nm_eq, reduceCtorEq, ↓reduceIte, Nat.reduceEqDiff, Nat.reduceLeDiff, Nat.reduceBEq, Nat.reduceAdd, Nat.reduceLT, Nat.reduceSub, Nat.reduceMul, Int.reduceEq, Int.reduceLT, Int.reduceLE, Int.reduceNeg, Int.reduceToNat, List.reduceReplicate, Int.ofNat_le, List.getElem?_drop, hqk']
  refine l01Mod_ok (by omega) (by omega) ?_
  by_cases hone : c % (k : Int) * q % k = 1
  · simp only [pwA, if_true, if_false, eq_self, nm_eq, reduceCtorEq, ↓reduceIte, Nat.reduceEqDiff, Nat.reduceLeDiff, Nat.reduceBEq, Nat.reduceAdd, Nat.reduceLT, Nat.reduceSub, Nat.reduceMul, Int.reduceEq, Int.reduceLT, Int.reduceLE, Int.reduceNeg, Int.reduceToNat, List.reduceReplicate, Int.ofNat_le, List.getElem?_drop, hqk', ew, et, hk0, ew2, hone, r3]
    refine l10Pow_ok g hR0 hz hvz0 (k := q) (by omega) fun v3 f3 => ?_
    simp only [pwA, if_true, if_false, eq_self, nm_eq, reduceCtorEq, ↓reduceIte, Nat.reduceEqDiff, Nat.reduceLeDiff, Nat.reduceBEq, Nat.reduceAdd, Nat.reduceLT, Nat.reduceSub, Nat.reduceMul, Int.reduceEq, Int.reduceLT, Int.reduceLE, Int.reduceNeg, Int.reduceToNat, List.reduceReplicate, Int.ofNat_le, List.getElem?_drop]
    refine Gh.fin0 hkp (f3.bel _) (hk _ _ f3 (.inr ⟨hz0, i, q, k, hki, hpw.symm, ?_, by rw [Int.toNat_natCast]⟩))
    rw [Int.mul_emod, Int.emod_emod_of_dvd _ (Int.dvd_refl _)] at hone
    rw [Int.mul_emod, hone]
    exact (Int.emod_eq_of_lt (by omega) (by omega)).symm
  · have hne : (q : Int) ≠ Y % (k : Int) := fun e => hone (by rw [e]; exact hY2)
    have eq1 : IntKind.i64.wrap ((q : Int) + 1) = ((q + 1 : Nat) : Int) := by rw [wrap64 (by omega) (by omega)]; omega
    simp only [pwA, if_true, if_false, eq_self, nm_eq, reduceCtorEq, ↓reduceIte, Nat.reduceEqDiff, Nat.reduceLeDiff, Nat.reduceBEq, Nat.reduceAdd, Nat.reduceLT, Nat.reduceSub, Nat.reduceMul, Int.reduceEq, Int.reduceLT, Int.reduceLE, Int.reduceNeg, Int.reduceToNat, List.reduceReplicate, Int.ofNat_le, List.getElem?_drop, hqk', ew, et, hk0, ew2, hone, eq1]
    exact ⟨_, by omega, q + 1, rfl, rfl, by omega, by omega⟩
end Go.Proofs
set_option linter.unusedSimpArgs false
set_option linter.unusedVariables false
namespace Go.Proofs
open Go.Ab Go.Lie Go.Grp
variable {σ : PHeap} {K : PV → PHeap → Prop} {O : List Int} {P : List (List Int)} {C : List (List (List Int))} {vO vP vC vx vy vz vL : PV} {x y z : List Int} {xs : List (List Int)} {d j sp n : Nat}
theorem isExp.gS (h : isExp O x) : gS O x := ⟨h.1, fun j hj => by have := h.2 j (by rw [h.1]; exact hj); omega, fun j hj => by omega⟩
theorem isExp_tail : isTail O 0 x ↔ isExp O x := ⟨fun h => h.1, fun h => ⟨h, by simp [isZ]⟩⟩
theorem areElements_ok (hs : PtrG σ sp vO vP vC) (hR : IsPr vO vP vC O P C) (sz : SzP O P C) (hL : FII vL xs) (szL : SzL xs) (hk : ∀ t : Bool, (t = true ↔ (isPres O P C ∧ Cons O P C) ∧ ∀ x ∈ xs, isExp O x) → K (.bool t) σ) : PCalls Try.prog 120 [.ptr sp 0, vL] σ K := by
  have fl : ∀ {A : Prop}, ¬ A → ((false = true) ↔ A) := fun h => ⟨fun x => (by cases x), fun x => absurd x h⟩
  have r3 : σ.rd sp 0 3 = some [vO, vP, vC] := by rw [obj_rd hs.obj]; rfl
  have hxl := szL.l
  obtain ⟨wl, al, rl, rfl, hrl⟩ := hL
  refine pcalls_of_vp mix Try.func120 cf120 rfl ?_
  dsimp only [if120, qI, eI, nI, qD, eD]
  simp only [pwA, if_true, if_false, eq_self, nm_eq, reduceCtorEq, ↓reduceIte, Nat.reduceEqDiff, Nat.reduceLeDiff, Nat.reduceBEq, Nat.reduceAdd, Nat.reduceLT, Nat.reduceSub, Nat.reduceMul, Int.reduceEq, Int.reduceLT, Int.reduceLE, Int.reduceNeg, Int.reduceToNat, List.reduceReplicate, Int.ofNat_le, List.getElem?_drop, r3]
  refine IsConsistent_ok hR sz fun t ht => ?_
  cases t with
  | false =>
    simp only [pwA, if_true, if_false, eq_self, nm_eq, reduceCtorEq, ↓reduceIte, Nat.reduceEqDiff, Nat.reduceLeDiff, Nat.reduceBEq, Nat.reduceAdd, Nat.reduceLT, Nat.reduceSub, Nat.reduceMul, Int.reduceEq, Int.reduceLT, Int.reduceLE, Int.reduceNeg, Int.reduceToNat, List.reduceReplicate, Int.ofNat_le, List.getElem?_drop]
    exact hk _ (fl fun h => by cases ht.2 h.1)
  | true =>
  have hp := ht.1 rfl
  simp only [pwA, if_true, if_false, eq_self, nm_eq, reduceCtorEq, ↓reduceIte, Nat.reduceEqDiff, Nat.reduceLeDiff, Nat.reduceBEq, Nat.reduceAdd, Nat.reduceLT, Nat.reduceSub, Nat.reduceMul, Int.reduceEq, Int.reduceLT, Int.reduceLE, Int.reduceNeg, Int.reduceToNat, List.reduceReplicate, Int.ofNat_le, List.getElem?_drop]
  refine vp_loop (fun m us h' => ∃ i : Nat, i ≤ xs.length ∧ m = xs.length - i ∧ us = [.ptr sp 0, .fz wl al xs.length rl, .int .i64 xs.length, .int .i64 i] ∧ σ = h' ∧ ∀ x ∈ xs.take i, isExp O x) xs.length ⟨0, by omega, by omega, rfl, rfl, by simp⟩ ?_
  rintro m us h' ⟨i, hi, rfl, rfl, rfl, hall⟩
  simp only [pwA, if_true, if_false, eq_self, nm_eq, reduceCtorEq, ↓reduceIte, Nat.reduceEqDiff, Nat.reduceLeDiff, Nat.reduceBEq, Nat.reduceAdd, Nat.reduceLT, Nat.reduceSub, Nat.reduceMul, Int.reduceEq, Int.reduceLT, Int.reduceLE, Int.reduceNeg, Int.reduceToNat, List.reduceReplicate, Int.ofNat_le, List.getElem?_drop]
  refine iteI (fun hlt => ?_) fun hge => ?_
  rotate_left
  · have hie : i = xs.length := by omega
    subst hie
    rw [List.take_length] at hall
    exact hk _ ⟨fun _ => ⟨hp, hall⟩, fun _ => rfl⟩
  obtain ⟨w4, a4, hr⟩ := hrl.rowI hlt
  have hxi := szL.r _ (List.getElem_mem hlt)
  simp only [pwA, if_true, if_false, eq_self, nm_eq, reduceCtorEq, ↓reduceIte, Nat.reduceEqDiff, Nat.reduceLeDiff, Nat.reduceBEq, Nat.reduceAdd, Nat.reduceLT, Nat.reduceSub, Nat.reduceMul, Int.reduceEq, Int.reduceLT, Int.reduceLE, Int.reduceNeg, Int.reduceToNat, List.reduceReplicate, Int.ofNat_le, List.getElem?_drop, hlt, hr, List.getElem?_drop]
  refine isExponents_ok hs hR.O (by have := hp.1.1; omega) hp.1.isp ⟨w4, a4, rfl⟩ hxi fun t ht => ?_
  cases t with
  | false =>
    simp only [pwA, if_true, if_false, eq_self, nm_eq, reduceCtorEq, ↓reduceIte, Nat.reduceEqDiff, Nat.reduceLeDiff, Nat.reduceBEq, Nat.reduceAdd, Nat.reduceLT, Nat.reduceSub, Nat.reduceMul, Int.reduceEq, Int.reduceLT, Int.reduceLE, Int.reduceNeg, Int.reduceToNat, List.reduceReplicate, Int.ofNat_le, List.getElem?_drop]
    exact hk _ (fl fun h => by cases ht.2 (h.2 _ (List.getElem_mem hlt)))
  | true =>
  have h1 := ht.1 rfl
  simp only [pwA, if_true, if_false, eq_self, nm_eq, reduceCtorEq, ↓reduceIte, Nat.reduceEqDiff, Nat.reduceLeDiff, Nat.reduceBEq, Nat.reduceAdd, Nat.reduceLT, Nat.reduceSub, Nat.reduceMul, Int.reduceEq, Int.reduceLT, Int.reduceLE, Int.reduceNeg, Int.reduceToNat, List.reduceReplicate, Int.ofNat_le, List.getElem?_drop, wrapS hlt (by omega : xs.length ≤ 4611686018427387904)]
  refine ⟨_, by omega, i + 1, by omega, rfl, rfl, fun x hx => ?_⟩
  rw [List.take_succ_eq_append_getElem hlt, List.mem_append, List.mem_singleton] at hx
  rcases hx with hx | hx
  · exact hall x hx
  · rw [hx]; exact h1
open Classical in
/-- The code of a group and elements. -/
noncomputable def codeG (O : List Int) (P : List (List Int)) (C : List (List (List Int))) (xs : List (List Int)) : Int :=
  if (isPres O P C ∧ Cons O P C) ∧ ∀ x ∈ xs, isExp O x then (if isCen O C ∧ clsOk O P C then 0 else 5) else 1
theorem codeG_0 (h : codeG O P C xs = 0) : LG O P C ∧ clsOk O P C ∧ ∀ x ∈ xs, gS O x := by
  unfold codeG at h
  split at h
  · rename_i h1
    split at h
    · rename_i h2
      exact ⟨⟨h1.1.1, h1.1.2, h2.1⟩, h2.2, fun x hx => (h1.2 x hx).gS⟩
    · omega
  · omega
theorem lazardGroupCode_ok (hs : PtrG σ sp vO vP vC) (hR : IsPr vO vP vC O P C) (sz : SzP O P C) (hL : FII vL xs) (szL : SzL xs) (hk : K (.int .i64 (codeG O P C xs)) σ) : PCalls Try.prog 72 [.ptr sp 0, vL] σ K := by
  unfold codeG at hk
  have hL1 := hL
  obtain ⟨wl, al, rl, rfl, hrl⟩ := hL
  refine pcalls_of_vp mix Try.func72 cf72 rfl ?_
  dsimp only [if72, qI, eI, nI, qD, eD]
  simp only [pwA, if_true, if_false, eq_self, nm_eq, reduceCtorEq, ↓reduceIte, Nat.reduceEqDiff, Nat.reduceLeDiff, Nat.reduceBEq, Nat.reduceAdd, Nat.reduceLT, Nat.reduceSub, Nat.reduceMul, Int.reduceEq, Int.reduceLT, Int.reduceLE, Int.reduceNeg, Int.reduceToNat, List.reduceReplicate, Int.ofNat_le, List.getElem?_drop]
  refine areElements_ok hs hR sz hL1 szL fun t ht => ?_
  cases t with
  | false =>
    rw [if_neg fun h => by cases ht.2 h] at hk
    simp only [pwA, if_true, if_false, eq_self, nm_eq, reduceCtorEq, ↓reduceIte, Nat.reduceEqDiff, Nat.reduceLeDiff, Nat.reduceBEq, Nat.reduceAdd, Nat.reduceLT, Nat.reduceSub, Nat.reduceMul, Int.reduceEq, Int.reduceLT, Int.reduceLE, Int.reduceNeg, Int.reduceToNat, List.reduceReplicate, Int.ofNat_le, List.getElem?_drop]
    exact hk
  | true =>
  have h1 := ht.1 rfl
  rw [if_pos h1] at hk
  simp only [pwA, if_true, if_false, eq_self, nm_eq, reduceCtorEq, ↓reduceIte, Nat.reduceEqDiff, Nat.reduceLeDiff, Nat.reduceBEq, Nat.reduceAdd, Nat.reduceLT, Nat.reduceSub, Nat.reduceMul, Int.reduceEq, Int.reduceLT, Int.reduceLE, Int.reduceNeg, Int.reduceToNat, List.reduceReplicate, Int.ofNat_le, List.getElem?_drop]
  refine isLazardGroup_in h1.1.1 h1.1.2 hs hR fun t2 ht2 => ?_
  cases t2 with
  | false =>
    rw [if_neg fun h => by cases ht2.2 h] at hk
    simp only [pwA, if_true, if_false, eq_self, nm_eq, reduceCtorEq, ↓reduceIte, Nat.reduceEqDiff, Nat.reduceLeDiff, Nat.reduceBEq, Nat.reduceAdd, Nat.reduceLT, Nat.reduceSub, Nat.reduceMul, Int.reduceEq, Int.reduceLT, Int.reduceLE, Int.reduceNeg, Int.reduceToNat, List.reduceReplicate, Int.ofNat_le, List.getElem?_drop]
    exact hk
  | true =>
    rw [if_pos (ht2.1 rfl)] at hk
    simp only [pwA, if_true, if_false, eq_self, nm_eq, reduceCtorEq, ↓reduceIte, Nat.reduceEqDiff, Nat.reduceLeDiff, Nat.reduceBEq, Nat.reduceAdd, Nat.reduceLT, Nat.reduceSub, Nat.reduceMul, Int.reduceEq, Int.reduceLT, Int.reduceLE, Int.reduceNeg, Int.reduceToNat, List.reduceReplicate, Int.ofNat_le, List.getElem?_drop]
    exact hk
theorem l34Code_ok (hR : IsPr vO vP vC O P C) (sz : SzP O P C) (hL : FII vL xs) (szL : SzL xs) (hk : K (.int .i64 (codeG O P C xs)) σ) : PCalls Try.prog 70 [.agg [vO, vP, vC], vL] σ K := by
  unfold codeG at hk
  have hR0 := hR
  have hxl := szL.l
  obtain ⟨⟨w0, a0, rfl⟩, ⟨w1, a1, rP, rfl, hP⟩, ⟨w3, a3, rC, rfl, hC3⟩⟩ := hR
  obtain ⟨wl, al, rl, rfl, hrl⟩ := hL
  refine PCalls.gh ?_
  have hkp : Keep σ (σ.new [.fz w0 a0 O.length (pis O), .fz w1 a1 P.length rP, .fz w3 a3 C.length rC]) := keep_new σ _
  have r3 : (σ.new [.fz w0 a0 O.length (pis O), .fz w1 a1 P.length rP, .fz w3 a3 C.length rC]).rd σ.next 0 3 = some [.fz w0 a0 O.length (pis O), .fz w1 a1 P.length rP, .fz w3 a3 C.length rC] := by simp only [pwA, if_true, if_false, eq_self, nm_eq, reduceCtorEq, ↓reduceIte, Nat.reduceEqDiff, Nat.reduceLeDiff, Nat.reduceBEq, Nat.reduceAdd, Nat.reduceLT, Nat.reduceSub, Nat.reduceMul, Int.reduceEq, Int.reduceLT, Int.reduceLE, Int.reduceNeg, Int.reduceToNat, List.reduceReplicate, Int.ofNat_le, List.getElem?_drop]
  have r0 : (σ.new [.fz w0 a0 O.length (pis O), .fz w1 a1 P.length rP, .fz w3 a3 C.length rC]).rd1 σ.next 0 = some (.fz w0 a0 O.length (pis O)) := by simp only [pwA, if_true, if_false, eq_self, nm_eq, reduceCtorEq, ↓reduceIte, Nat.reduceEqDiff, Nat.reduceLeDiff, Nat.reduceBEq, Nat.reduceAdd, Nat.reduceLT, Nat.reduceSub, Nat.reduceMul, Int.reduceEq, Int.reduceLT, Int.reduceLE, Int.reduceNeg, Int.reduceToNat, List.reduceReplicate, Int.ofNat_le, List.getElem?_drop]
  refine pcalls_of_vp mix Try.func70 cf70 rfl ?_
  dsimp only [if70, qI, eI, nI, qD, eD]
  simp only [pwA, if_true, if_false, eq_self, nm_eq, reduceCtorEq, ↓reduceIte, Nat.reduceEqDiff, Nat.reduceLeDiff, Nat.reduceBEq, Nat.reduceAdd, Nat.reduceLT, Nat.reduceSub, Nat.reduceMul, Int.reduceEq, Int.reduceLT, Int.reduceLE, Int.reduceNeg, Int.reduceToNat, List.reduceReplicate, Int.ofNat_le, List.getElem?_drop, r3]
  refine l08Group_ok hR0 sz fun t ht => ?_
  cases t with
  | false =>
    rw [if_neg fun h => by cases ht.2 h.1] at hk
    simp only [pwA, if_true, if_false, eq_self, nm_eq, reduceCtorEq, ↓reduceIte, Nat.reduceEqDiff, Nat.reduceLeDiff, Nat.reduceBEq, Nat.reduceAdd, Nat.reduceLT, Nat.reduceSub, Nat.reduceMul, Int.reduceEq, Int.reduceLT, Int.reduceLE, Int.reduceNeg, Int.reduceToNat, List.reduceReplicate, Int.ofNat_le, List.getElem?_drop]
    exact Gh.fin0 hkp trivial hk
  | true =>
  have hp := ht.1 rfl
  simp only [pwA, if_true, if_false, eq_self, nm_eq, reduceCtorEq, ↓reduceIte, Nat.reduceEqDiff, Nat.reduceLeDiff, Nat.reduceBEq, Nat.reduceAdd, Nat.reduceLT, Nat.reduceSub, Nat.reduceMul, Int.reduceEq, Int.reduceLT, Int.reduceLE, Int.reduceNeg, Int.reduceToNat, List.reduceReplicate, Int.ofNat_le, List.getElem?_drop]
  refine vp_loop (fun m us h' => ∃ i : Nat, i ≤ xs.length ∧ m = xs.length - i ∧ us = [.fz wl al xs.length rl, .ptr σ.next 0, .int .i64 i] ∧ σ.new [.fz w0 a0 O.length (pis O), .fz w1 a1 P.length rP, .fz w3 a3 C.length rC] = h' ∧ ∀ x ∈ xs.take i, isExp O x) xs.length ⟨0, by omega, by omega, rfl, rfl, by simp⟩ ?_
  rintro m us h' ⟨i, hi, rfl, rfl, rfl, hall⟩
  simp only [pwA, if_true, if_false, eq_self, nm_eq, reduceCtorEq, ↓reduceIte, Nat.reduceEqDiff, Nat.reduceLeDiff, Nat.reduceBEq, Nat.reduceAdd, Nat.reduceLT, Nat.reduceSub, Nat.reduceMul, Int.reduceEq, Int.reduceLT, Int.reduceLE, Int.reduceNeg, Int.reduceToNat, List.reduceReplicate, Int.ofNat_le, List.getElem?_drop]
  refine iteI (fun hlt => ?_) fun hge => ?_
  rotate_left
  · have hie : i = xs.length := by omega
    subst hie
    rw [List.take_length] at hall
    rw [if_pos ⟨hp, hall⟩] at hk
    simp only [pwA, if_true, if_false, eq_self, nm_eq, reduceCtorEq, ↓reduceIte, Nat.reduceEqDiff, Nat.reduceLeDiff, Nat.reduceBEq, Nat.reduceAdd, Nat.reduceLT, Nat.reduceSub, Nat.reduceMul, Int.reduceEq, Int.reduceLT, Int.reduceLE, Int.reduceNeg, Int.reduceToNat, List.reduceReplicate, Int.ofNat_le, List.getElem?_drop, r3]
    refine l34IsLazard_ok hR0 sz fun t2 ht2 => ?_
    cases t2 with
    | false =>
      rw [if_neg fun h => by cases ht2.2 ⟨⟨hp, h.1⟩, h.2⟩] at hk
      simp only [pwA, if_true, if_false, eq_self, nm_eq, reduceCtorEq, ↓reduceIte, Nat.reduceEqDiff, Nat.reduceLeDiff, Nat.reduceBEq, Nat.reduceAdd, Nat.reduceLT, Nat.reduceSub, Nat.reduceMul, Int.reduceEq, Int.reduceLT, Int.reduceLE, Int.reduceNeg, Int.reduceToNat, List.reduceReplicate, Int.ofNat_le, List.getElem?_drop]
      exact Gh.fin0 hkp trivial hk
    | true =>
      have h2 := ht2.1 rfl
      rw [if_pos ⟨h2.1.2, h2.2⟩] at hk
      simp only [pwA, if_true, if_false, eq_self, nm_eq, reduceCtorEq, ↓reduceIte, Nat.reduceEqDiff, Nat.reduceLeDiff, Nat.reduceBEq, Nat.reduceAdd, Nat.reduceLT, Nat.reduceSub, Nat.reduceMul, Int.reduceEq, Int.reduceLT, Int.reduceLE, Int.reduceNeg, Int.reduceToNat, List.reduceReplicate, Int.ofNat_le, List.getElem?_drop]
      exact Gh.fin0 hkp trivial hk
  obtain ⟨w4, a4, hr⟩ := hrl.rowI hlt
  have hxi := szL.r _ (List.getElem_mem hlt)
  simp only [pwA, if_true, if_false, eq_self, nm_eq, reduceCtorEq, ↓reduceIte, Nat.reduceEqDiff, Nat.reduceLeDiff, Nat.reduceBEq, Nat.reduceAdd, Nat.reduceLT, Nat.reduceSub, Nat.reduceMul, Int.reduceEq, Int.reduceLT, Int.reduceLE, Int.reduceNeg, Int.reduceToNat, List.reduceReplicate, Int.ofNat_le, List.getElem?_drop, hlt, hr, List.getElem?_drop, r0]
  refine l07Exponents_ok (t := 0) (by omega) (by omega) hR0.O (by have := hp.1.1; omega) hp.1.isp ⟨w4, a4, rfl⟩ hxi fun t ht => ?_
  cases t with
  | false =>
    rw [if_neg fun h => by cases ht.2 (isExp_tail.2 (h.2 _ (List.getElem_mem hlt)))] at hk
    simp only [pwA, if_true, if_false, eq_self, nm_eq, reduceCtorEq, ↓reduceIte, Nat.reduceEqDiff, Nat.reduceLeDiff, Nat.reduceBEq, Nat.reduceAdd, Nat.reduceLT, Nat.reduceSub, Nat.reduceMul, Int.reduceEq, Int.reduceLT, Int.reduceLE, Int.reduceNeg, Int.reduceToNat, List.reduceReplicate, Int.ofNat_le, List.getElem?_drop]
    exact Gh.fin0 hkp trivial hk
  | true =>
  have h1 := isExp_tail.1 (ht.1 rfl)
  simp only [pwA, if_true, if_false, eq_self, nm_eq, reduceCtorEq, ↓reduceIte, Nat.reduceEqDiff, Nat.reduceLeDiff, Nat.reduceBEq, Nat.reduceAdd, Nat.reduceLT, Nat.reduceSub, Nat.reduceMul, Int.reduceEq, Int.reduceLT, Int.reduceLE, Int.reduceNeg, Int.reduceToNat, List.reduceReplicate, Int.ofNat_le, List.getElem?_drop, wrapS hlt (by omega : xs.length ≤ 4611686018427387904)]
  refine ⟨_, by omega, i + 1, by omega, rfl, rfl, fun x hx => ?_⟩
  rw [List.take_succ_eq_append_getElem hlt, List.mem_append, List.mem_singleton] at hx
  rcases hx with hx | hx
  · exact hall x hx
  · rw [hx]; exact h1
end Go.Proofs
set_option linter.unusedSimpArgs false
set_option linter.unusedVariables false
namespace Go.Proofs
open Go.Ab Go.Lie Go.Grp
variable {σ : PHeap} {K : PV → PHeap → Prop} {O : List Int} {P : List (List Int)} {C : List (List (List Int))} {vO vP vC vx vy vz vL : PV} {x y z w w' : List Int} {xs : List (List Int)} {d j sp n : Nat}
noncomputable def rt (O : List Int) (P : List (List Int)) (C : List (List (List Int))) (z : List Int) (c : Int) : List Int := Classical.epsilon fun w => Rt O P C z c w
noncomputable abbrev gi_ (O : List Int) (P : List (List Int)) (C : List (List (List Int))) (x : List Int) : List Int := ginv (gS O) (gm O P C) (zv O) x
theorem rt_spec {c : Int} (h : Rt O P C z c w) : Rt O P C z c (rt O P C z c) := Classical.epsilon_spec ⟨w, h⟩
theorem rt_eq (g : LG O P C) (hz : gS O z) {c : Int} (h : Rt O P C z c w) : w = rt O P C z c := Rt.unique g.F hz h (rt_spec h)
theorem Rt.flip (g : LG O P C) (hz : gS O z) {c : Int} (h : Rt O P C z (-c) w') : ∃ w, Rt O P C z c w := by
  rcases h with ⟨h0, rfl⟩ | ⟨h0, j, y, n, h1, h2, h3, rfl⟩
  · exact ⟨zv O, .inl ⟨h0, rfl⟩⟩
  · refine ⟨_, .inr ⟨h0, j, (n - 1) * y, n, h1, h2, ?_, rfl⟩⟩
    have hn : 1 ≤ n := by
      have hp := (g.isp (pos_of_ne hz h0)).bd
      have h4 : (1 : Int) ≤ at_ O 0 ^ j := Int.pow_pos (by omega)
      omega
    have e : c * (((n - 1) * y : Nat) : Int) = -c * y + (c * y) * n := by
      rw [Int.natCast_mul, show ((n - 1 : Nat) : Int) = (n : Int) - 1 by omega]; grind
    rw [e, Int.add_mul_emod_self_right]; exact h3
theorem rt_neg (g : LG O P C) (hz : gS O z) {c : Int} (h : Rt O P C z (-c) w') : w' = gi_ O P C (rt O P C z c) := by
  obtain ⟨w, hw⟩ := Rt.flip g hz h
  have := Rt.neg g.F g.s hz hw h
  rw [this, rt_eq g hz hw]
theorem ok2 (g : LG O P C) (k : clsOk O P C) (hx : gS O x) (hy : gS O y) {c : Int} (hc : c = 2 ∨ c = -2) (h : gcom O P C x y ≠ zv O) : OkC (at_ O 0) c := by
  have h0 := pos_of_ne (g.F.g.com_in hx hy) h
  rcases k with k | ⟨k, k1, k2⟩
  · rw [k] at h0; simp at h0
  · rcases g.isp h0 with e | e | e | e
    · exact absurd (com_triv2 g.s g.F k2 (by omega) hx hy) h
    · exact .inr (.inr ⟨e, hc⟩)
    · exact .inl e
    · exact .inr (.inl e)
theorem ok12 (g : LG O P C) (k : clsOk O P C) (hx : gS O x) (hy : gS O y) (hz : gS O z) {c : Int} (h : gcom O P C (gcom O P C x y) z ≠ zv O) : OkC (at_ O 0) c := by
  have hxy := g.F.g.com_in hx hy
  have h0 := pos_of_ne (g.F.g.com_in hxy hz) h
  rcases k with k | ⟨k, k1, k2⟩
  · rw [k] at h0; simp at h0
  · rcases g.isp h0 with e | e | e | e
    · exact absurd (com_triv2 g.s g.F k2 (by omega) hxy hz) h
    · exact absurd (com_triv3 g.s g.F k2 (by omega) hx hy hz) h
    · exact .inl e
    · exact .inr (.inl e)
/-- The sum and the bracket. -/
noncomputable def gsum (O : List Int) (P : List (List Int)) (C : List (List (List Int))) (x y : List Int) : List Int :=
  gm O P C (gm O P C (gm O P C (gm O P C x y) (gi_ O P C (rt O P C (gcom O P C x y) 2))) (rt O P C (gcom O P C (gcom O P C x y) x) 12)) (gi_ O P C (rt O P C (gcom O P C (gcom O P C x y) y) 12))
noncomputable def gbr (O : List Int) (P : List (List Int)) (C : List (List (List Int))) (x y : List Int) : List Int :=
  gm O P C (gm O P C (gcom O P C x y) (gi_ O P C (rt O P C (gcom O P C (gcom O P C x y) x) 2))) (gi_ O P C (rt O P C (gcom O P C (gcom O P C x y) y) 2))
theorem up_ (h : gS O z) : TT O (O.length - O.length) z := by rw [Nat.sub_self]; exact h
theorem groupSum_ok (g : LG O P C) (k : clsOk O P C) (hs : PtrG σ sp vO vP vC) (hR : IsPr vO vP vC O P C) (hx : gS O x) (hy : gS O y) (hvx : FI vx x) (hvy : FI vy y) (hk : gS O (gsum O P C x y) → ResI σ K (gsum O P C x y)) :
    PCalls Try.prog 73 [.ptr sp 0, vx, vy] σ K := by
  have s := g.s
  have F := g.F
  have G := F.g
  have cS := G.com_in hx hy
  have aS := G.com_in cS hx
  have bS := G.com_in cS hy
  have xyS := G.cl hx hy
  refine PCalls.gh ?_
  refine pcalls_of_vp mix Try.func73 cf73 rfl ?_
  dsimp only [if73, qI, eI, nI, qD, eD]
  simp only [pwA, if_true, if_false, eq_self, nm_eq, reduceCtorEq, ↓reduceIte, Nat.reduceEqDiff, Nat.reduceLeDiff, Nat.reduceBEq, Nat.reduceAdd, Nat.reduceLT, Nat.reduceSub, Nat.reduceMul, Int.reduceEq, Int.reduceLT, Int.reduceLE, Int.reduceNeg, Int.reduceToNat, List.reduceReplicate, Int.ofNat_le, List.getElem?_drop]
  refine commutator_fz s F hs hR hx hy hvx hvy fun v1 f1 => ?_
  simp only [pwA, if_true, if_false, eq_self, nm_eq, reduceCtorEq, ↓reduceIte, Nat.reduceEqDiff, Nat.reduceLeDiff, Nat.reduceBEq, Nat.reduceAdd, Nat.reduceLT, Nat.reduceSub, Nat.reduceMul, Int.reduceEq, Int.reduceLT, Int.reduceLE, Int.reduceNeg, Int.reduceToNat, List.reduceReplicate, Int.ofNat_le, List.getElem?_drop]
  refine multiply_fz s F hs hR (up_ hx) (up_ hy) hvx hvy fun v2 f2 => ?_
  simp only [pwA, if_true, if_false, eq_self, nm_eq, reduceCtorEq, ↓reduceIte, Nat.reduceEqDiff, Nat.reduceLeDiff, Nat.reduceBEq, Nat.reduceAdd, Nat.reduceLT, Nat.reduceSub, Nat.reduceMul, Int.reduceEq, Int.reduceLT, Int.reduceLE, Int.reduceNeg, Int.reduceToNat, List.reduceReplicate, Int.ofNat_le, List.getElem?_drop]
  refine root_ok g hs hR cS f1 (c := -2) (ok2 g k hx hy (.inr rfl)) (by omega) fun v3 w3 f3 r3 => ?_
  have e3 := rt_neg g cS (c := 2) r3
  have S3 : gS O w3 := r3.gS F s cS
  simp only [pwA, if_true, if_false, eq_self, nm_eq, reduceCtorEq, ↓reduceIte, Nat.reduceEqDiff, Nat.reduceLeDiff, Nat.reduceBEq, Nat.reduceAdd, Nat.reduceLT, Nat.reduceSub, Nat.reduceMul, Int.reduceEq, Int.reduceLT, Int.reduceLE, Int.reduceNeg, Int.reduceToNat, List.reduceReplicate, Int.ofNat_le, List.getElem?_drop]
  refine multiply_fz s F hs hR (up_ xyS) (up_ S3) f2 f3 fun v4 f4 => ?_
  have S4 := G.cl xyS S3
  simp only [pwA, if_true, if_false, eq_self, nm_eq, reduceCtorEq, ↓reduceIte, Nat.reduceEqDiff, Nat.reduceLeDiff, Nat.reduceBEq, Nat.reduceAdd, Nat.reduceLT, Nat.reduceSub, Nat.reduceMul, Int.reduceEq, Int.reduceLT, Int.reduceLE, Int.reduceNeg, Int.reduceToNat, List.reduceReplicate, Int.ofNat_le, List.getElem?_drop]
  refine commutator_fz s F hs hR cS hx f1 hvx fun v5 f5 => ?_
  simp only [pwA, if_true, if_false, eq_self, nm_eq, reduceCtorEq, ↓reduceIte, Nat.reduceEqDiff, Nat.reduceLeDiff, Nat.reduceBEq, Nat.reduceAdd, Nat.reduceLT, Nat.reduceSub, Nat.reduceMul, Int.reduceEq, Int.reduceLT, Int.reduceLE, Int.reduceNeg, Int.reduceToNat, List.reduceReplicate, Int.ofNat_le, List.getElem?_drop]
  refine root_ok g hs hR aS f5 (c := 12) (ok12 g k hx hy hx) (by omega) fun v6 w6 f6 r6 => ?_
  have e6 := rt_eq g aS r6
  have S6 : gS O w6 := r6.gS F s aS
  simp only [pwA, if_true, if_false, eq_self, nm_eq, reduceCtorEq, ↓reduceIte, Nat.reduceEqDiff, Nat.reduceLeDiff, Nat.reduceBEq, Nat.reduceAdd, Nat.reduceLT, Nat.reduceSub, Nat.reduceMul, Int.reduceEq, Int.reduceLT, Int.reduceLE, Int.reduceNeg, Int.reduceToNat, List.reduceReplicate, Int.ofNat_le, List.getElem?_drop]
  refine multiply_fz s F hs hR (up_ S4) (up_ S6) f4 f6 fun v7 f7 => ?_
  have S7 := G.cl S4 S6
  simp only [pwA, if_true, if_false, eq_self, nm_eq, reduceCtorEq, ↓reduceIte, Nat.reduceEqDiff, Nat.reduceLeDiff, Nat.reduceBEq, Nat.reduceAdd, Nat.reduceLT, Nat.reduceSub, Nat.reduceMul, Int.reduceEq, Int.reduceLT, Int.reduceLE, Int.reduceNeg, Int.reduceToNat, List.reduceReplicate, Int.ofNat_le, List.getElem?_drop]
  refine commutator_fz s F hs hR cS hy f1 hvy fun v8 f8 => ?_
  simp only [pwA, if_true, if_false, eq_self, nm_eq, reduceCtorEq, ↓reduceIte, Nat.reduceEqDiff, Nat.reduceLeDiff, Nat.reduceBEq, Nat.reduceAdd, Nat.reduceLT, Nat.reduceSub, Nat.reduceMul, Int.reduceEq, Int.reduceLT, Int.reduceLE, Int.reduceNeg, Int.reduceToNat, List.reduceReplicate, Int.ofNat_le, List.getElem?_drop]
  refine root_ok g hs hR bS f8 (c := -12) (ok12 g k hx hy hy) (by omega) fun v9 w9 f9 r9 => ?_
  have e9 := rt_neg g bS (c := 12) r9
  have S9 : gS O w9 := r9.gS F s bS
  have S10 := G.cl S7 S9
  have e : mu O P C O.length (gm O P C (gm O P C (gm O P C x y) w3) w6) w9 = gsum O P C x y := by unfold gsum; rw [← e3, ← e6, ← e9]
  have hr := hk (by rw [← e]; exact S10)
  rw [← e] at hr
  simp only [pwA, if_true, if_false, eq_self, nm_eq, reduceCtorEq, ↓reduceIte, Nat.reduceEqDiff, Nat.reduceLeDiff, Nat.reduceBEq, Nat.reduceAdd, Nat.reduceLT, Nat.reduceSub, Nat.reduceMul, Int.reduceEq, Int.reduceLT, Int.reduceLE, Int.reduceNeg, Int.reduceToNat, List.reduceReplicate, Int.ofNat_le, List.getElem?_drop]
  refine multiply_ok s F hs hR (up_ S7) (up_ S9) f7 f9 ⟨fun h0 => ?_, fun cap hc => ?_⟩
  · simp only [pwA, if_true, if_false, eq_self, nm_eq, reduceCtorEq, ↓reduceIte, Nat.reduceEqDiff, Nat.reduceLeDiff, Nat.reduceBEq, Nat.reduceAdd, Nat.reduceLT, Nat.reduceSub, Nat.reduceMul, Int.reduceEq, Int.reduceLT, Int.reduceLE, Int.reduceNeg, Int.reduceToNat, List.reduceReplicate, Int.ofNat_le, List.getElem?_drop]
    exact Gh.ret (hr.1 h0)
  · simp only [pwA, if_true, if_false, eq_self, nm_eq, reduceCtorEq, ↓reduceIte, Nat.reduceEqDiff, Nat.reduceLeDiff, Nat.reduceBEq, Nat.reduceAdd, Nat.reduceLT, Nat.reduceSub, Nat.reduceMul, Int.reduceEq, Int.reduceLT, Int.reduceLE, Int.reduceNeg, Int.reduceToNat, List.reduceReplicate, Int.ofNat_le, List.getElem?_drop]
    exact Gh.ret (hr.2 cap hc)
theorem groupBracket_ok (g : LG O P C) (k : clsOk O P C) (hs : PtrG σ sp vO vP vC) (hR : IsPr vO vP vC O P C) (hx : gS O x) (hy : gS O y) (hvx : FI vx x) (hvy : FI vy y) (hk : gS O (gbr O P C x y) → ResI σ K (gbr O P C x y)) :
    PCalls Try.prog 75 [.ptr sp 0, vx, vy] σ K := by
  have s := g.s
  have F := g.F
  have G := F.g
  have cS := G.com_in hx hy
  have aS := G.com_in cS hx
  have bS := G.com_in cS hy
  refine PCalls.gh ?_
  refine pcalls_of_vp mix Try.func75 cf75 rfl ?_
  dsimp only [if75, qI, eI, nI, qD, eD]
  simp only [pwA, if_true, if_false, eq_self, nm_eq, reduceCtorEq, ↓reduceIte, Nat.reduceEqDiff, Nat.reduceLeDiff, Nat.reduceBEq, Nat.reduceAdd, Nat.reduceLT, Nat.reduceSub, Nat.reduceMul, Int.reduceEq, Int.reduceLT, Int.reduceLE, Int.reduceNeg, Int.reduceToNat, List.reduceReplicate, Int.ofNat_le, List.getElem?_drop]
  refine commutator_fz s F hs hR hx hy hvx hvy fun v1 f1 => ?_
  simp only [pwA, if_true, if_false, eq_self, nm_eq, reduceCtorEq, ↓reduceIte, Nat.reduceEqDiff, Nat.reduceLeDiff, Nat.reduceBEq, Nat.reduceAdd, Nat.reduceLT, Nat.reduceSub, Nat.reduceMul, Int.reduceEq, Int.reduceLT, Int.reduceLE, Int.reduceNeg, Int.reduceToNat, List.reduceReplicate, Int.ofNat_le, List.getElem?_drop]
  refine commutator_fz s F hs hR cS hx f1 hvx fun v5 f5 => ?_
  simp only [pwA, if_true, if_false, eq_self, nm_eq, reduceCtorEq, ↓reduceIte, Nat.reduceEqDiff, Nat.reduceLeDiff, Nat.reduceBEq, Nat.reduceAdd, Nat.reduceLT, Nat.reduceSub, Nat.reduceMul, Int.reduceEq, Int.reduceLT, Int.reduceLE, Int.reduceNeg, Int.reduceToNat, List.reduceReplicate, Int.ofNat_le, List.getElem?_drop]
  refine root_ok g hs hR aS f5 (c := -2) (ok12 g k hx hy hx) (by omega) fun v6 w6 f6 r6 => ?_
  have e6 := rt_neg g aS (c := 2) r6
  have S6 : gS O w6 := r6.gS F s aS
  simp only [pwA, if_true, if_false, eq_self, nm_eq, reduceCtorEq, ↓reduceIte, Nat.reduceEqDiff, Nat.reduceLeDiff, Nat.reduceBEq, Nat.reduceAdd, Nat.reduceLT, Nat.reduceSub, Nat.reduceMul, Int.reduceEq, Int.reduceLT, Int.reduceLE, Int.reduceNeg, Int.reduceToNat, List.reduceReplicate, Int.ofNat_le, List.getElem?_drop]
  refine multiply_fz s F hs hR (up_ cS) (up_ S6) f1 f6 fun v7 f7 => ?_
  have S7 := G.cl cS S6
  simp only [pwA, if_true, if_false, eq_self, nm_eq, reduceCtorEq, ↓reduceIte, Nat.reduceEqDiff, Nat.reduceLeDiff, Nat.reduceBEq, Nat.reduceAdd, Nat.reduceLT, Nat.reduceSub, Nat.reduceMul, Int.reduceEq, Int.reduceLT, Int.reduceLE, Int.reduceNeg, Int.reduceToNat, List.reduceReplicate, Int.ofNat_le, List.getElem?_drop]
  refine commutator_fz s F hs hR cS hy f1 hvy fun v8 f8 => ?_
  simp only [pwA, if_true, if_false, eq_self, nm_eq, reduceCtorEq, ↓reduceIte, Nat.reduceEqDiff, Nat.reduceLeDiff, Nat.reduceBEq, Nat.reduceAdd, Nat.reduceLT, Nat.reduceSub, Nat.reduceMul, Int.reduceEq, Int.reduceLT, Int.reduceLE, Int.reduceNeg, Int.reduceToNat, List.reduceReplicate, Int.ofNat_le, List.getElem?_drop]
  refine root_ok g hs hR bS f8 (c := -2) (ok12 g k hx hy hy) (by omega) fun v9 w9 f9 r9 => ?_
  have e9 := rt_neg g bS (c := 2) r9
  have S9 : gS O w9 := r9.gS F s bS
  have S10 := G.cl S7 S9
  have e : mu O P C O.length (gm O P C (gcom O P C x y) w6) w9 = gbr O P C x y := by unfold gbr; rw [← e6, ← e9]
  have hr := hk (by rw [← e]; exact S10)
  rw [← e] at hr
  simp only [pwA, if_true, if_false, eq_self, nm_eq, reduceCtorEq, ↓reduceIte, Nat.reduceEqDiff, Nat.reduceLeDiff, Nat.reduceBEq, Nat.reduceAdd, Nat.reduceLT, Nat.reduceSub, Nat.reduceMul, Int.reduceEq, Int.reduceLT, Int.reduceLE, Int.reduceNeg, Int.reduceToNat, List.reduceReplicate, Int.ofNat_le, List.getElem?_drop]
  refine multiply_ok s F hs hR (up_ S7) (up_ S9) f7 f9 ⟨fun h0 => ?_, fun cap hc => ?_⟩
  · simp only [pwA, if_true, if_false, eq_self, nm_eq, reduceCtorEq, ↓reduceIte, Nat.reduceEqDiff, Nat.reduceLeDiff, Nat.reduceBEq, Nat.reduceAdd, Nat.reduceLT, Nat.reduceSub, Nat.reduceMul, Int.reduceEq, Int.reduceLT, Int.reduceLE, Int.reduceNeg, Int.reduceToNat, List.reduceReplicate, Int.ofNat_le, List.getElem?_drop]
    exact Gh.ret (hr.1 h0)
  · simp only [pwA, if_true, if_false, eq_self, nm_eq, reduceCtorEq, ↓reduceIte, Nat.reduceEqDiff, Nat.reduceLeDiff, Nat.reduceBEq, Nat.reduceAdd, Nat.reduceLT, Nat.reduceSub, Nat.reduceMul, Int.reduceEq, Int.reduceLT, Int.reduceLE, Int.reduceNeg, Int.reduceToNat, List.reduceReplicate, Int.ofNat_le, List.getElem?_drop]
    exact Gh.ret (hr.2 cap hc)
theorem l34Product_ok (g : LG O P C) (hR : IsPr vO vP vC O P C) (hL : FII vL xs) (hx : ∀ x ∈ xs, gS O x) (hxl : xs.length ≤ 1000) (hk : ∀ v, FI v (xs.foldl (gm O P C) (zv O)) → K v σ) : PCalls Try.prog 117 [.agg [vO, vP, vC], vL] σ K := by
  have s := g.s
  have hn6 := s.le
  have G := g.F.g
  have hR0 := hR
  obtain ⟨⟨w0, a0, rfl⟩, ⟨w1, a1, rP, rfl, hP⟩, ⟨w3, a3, rC, rfl, hC3⟩⟩ := hR
  obtain ⟨wl, al, rl, rfl, hrl⟩ := hL
  refine PCalls.gh ?_
  have hkp : Keep σ (σ.new [.fz w0 a0 O.length (pis O), .fz w1 a1 P.length rP, .fz w3 a3 C.length rC]) := keep_new σ _
  have r3 : ∀ {h : PHeap}, Keep (σ.new [.fz w0 a0 O.length (pis O), .fz w1 a1 P.length rP, .fz w3 a3 C.length rC]) h → h.rd σ.next 0 3 = some [.fz w0 a0 O.length (pis O), .fz w1 a1 P.length rP, .fz w3 a3 C.length rC] := fun {h} k => by
    have : h.obj σ.next = some [.fz w0 a0 O.length (pis O), .fz w1 a1 P.length rP, .fz w3 a3 C.length rC] := by rw [k.obj _ (by simp [PHeap.new])]; simp [PHeap.new]
    rw [obj_rd this]; rfl
  refine pcalls_of_vp mix Try.func117 cf117 rfl ?_
  dsimp only [if117, qI, eI, nI, qD, eD]
  simp only [pwA, if_true, if_false, eq_self, nm_eq, reduceCtorEq, ↓reduceIte, Nat.reduceEqDiff, Nat.reduceLeDiff, Nat.reduceBEq, Nat.reduceAdd, Nat.reduceLT, Nat.reduceSub, Nat.reduceMul, Int.reduceEq, Int.reduceLT, Int.reduceLE, Int.reduceNeg, Int.reduceToNat, List.reduceReplicate, Int.ofNat_le, List.getElem?_drop, mk8 (n := O.length) (by omega), mkL (n := O.length) (by omega), List.length_replicate, pis_rep]
  refine vp_loopG (fun m us h' => ∃ (i : Nat) (v : PV), i ≤ xs.length ∧ m = xs.length - i ∧ us = [.fz wl al xs.length rl, .ptr σ.next 0, v, .int .i64 i] ∧ Keep (σ.new [.fz w0 a0 O.length (pis O), .fz w1 a1 P.length rP, .fz w3 a3 C.length rC]) h' ∧ FI v ((xs.take i).foldl (gm O P C) (zv O)) ∧ gS O ((xs.take i).foldl (gm O P C) (zv O))) xs.length ?_ ?_
  · refine .fz (σ.next + 1) (pis (zv O)) (by simp only [pwA, if_true, if_false, eq_self, nm_eq, reduceCtorEq, ↓reduceIte, Nat.reduceEqDiff, Nat.reduceLeDiff, Nat.reduceBEq, Nat.reduceAdd, Nat.reduceLT, Nat.reduceSub, Nat.reduceMul, Int.reduceEq, Int.reduceLT, Int.reduceLE, Int.reduceNeg, Int.reduceToNat, List.reduceReplicate, Int.ofNat_le, List.getElem?_drop]) (pis_bel _ _) fun o1 => .here ⟨0, .fz true (.sl o1 0 O.length (.known O.length)) O.length (pis (zv O)), by omega, by omega, ?_, ((Keep.refl _).new _).kill (by simp only [pwA, if_true, if_false, eq_self, nm_eq, reduceCtorEq, ↓reduceIte, Nat.reduceEqDiff, Nat.reduceLeDiff, Nat.reduceBEq, Nat.reduceAdd, Nat.reduceLT, Nat.reduceSub, Nat.reduceMul, Int.reduceEq, Int.reduceLT, Int.reduceLE, Int.reduceNeg, Int.reduceToNat, List.reduceReplicate, Int.ofNat_le, List.getElem?_drop]), ⟨true, .sl o1 0 O.length (.known O.length), by simp⟩, s.zv _⟩
    simp only [pwA, if_true, if_false, eq_self, nm_eq, reduceCtorEq, ↓reduceIte, Nat.reduceEqDiff, Nat.reduceLeDiff, Nat.reduceBEq, Nat.reduceAdd, Nat.reduceLT, Nat.reduceSub, Nat.reduceMul, Int.reduceEq, Int.reduceLT, Int.reduceLE, Int.reduceNeg, Int.reduceToNat, List.reduceReplicate, Int.ofNat_le, List.getElem?_drop]
    simp [sbs, Go.Ab.sb, capOK]
  rintro m us h' ⟨i, v, hi, rfl, rfl, hk1, hv, hS⟩
  have hv0 := hv
  obtain ⟨wv, av, rfl⟩ := hv
  simp only [pwA, if_true, if_false, eq_self, nm_eq, reduceCtorEq, ↓reduceIte, Nat.reduceEqDiff, Nat.reduceLeDiff, Nat.reduceBEq, Nat.reduceAdd, Nat.reduceLT, Nat.reduceSub, Nat.reduceMul, Int.reduceEq, Int.reduceLT, Int.reduceLE, Int.reduceNeg, Int.reduceToNat, List.reduceReplicate, Int.ofNat_le, List.getElem?_drop]
  refine iteI (fun hlt => ?_) fun hge => ?_
  rotate_left
  · have hie : i = xs.length := by omega
    subst hie
    rw [List.take_length] at hv0 ⊢
    exact Gh.fin0 (hkp.trans hk1) (hv0.bel _) (hk _ hv0)
  obtain ⟨w4, a4, hr⟩ := hrl.rowI hlt
  have hxi := hx _ (List.getElem_mem hlt)
  simp only [pwA, if_true, if_false, eq_self, nm_eq, reduceCtorEq, ↓reduceIte, Nat.reduceEqDiff, Nat.reduceLeDiff, Nat.reduceBEq, Nat.reduceAdd, Nat.reduceLT, Nat.reduceSub, Nat.reduceMul, Int.reduceEq, Int.reduceLT, Int.reduceLE, Int.reduceNeg, Int.reduceToNat, List.reduceReplicate, Int.ofNat_le, List.getElem?_drop, hlt, hr, List.getElem?_drop, r3 hk1]
  refine l08Mul_ok s hR0 hS hxi hv0 ⟨w4, a4, rfl⟩ fun v2 f2 => ?_
  simp only [pwA, if_true, if_false, eq_self, nm_eq, reduceCtorEq, ↓reduceIte, Nat.reduceEqDiff, Nat.reduceLeDiff, Nat.reduceBEq, Nat.reduceAdd, Nat.reduceLT, Nat.reduceSub, Nat.reduceMul, Int.reduceEq, Int.reduceLT, Int.reduceLE, Int.reduceNeg, Int.reduceToNat, List.reduceReplicate, Int.ofNat_le, List.getElem?_drop, wrapS hlt (by omega : xs.length ≤ 4611686018427387904)]
  have e : (xs.take (i + 1)).foldl (gm O P C) (zv O) = gm O P C ((xs.take i).foldl (gm O P C) (zv O)) xs[i] := by
    rw [List.take_succ_eq_append_getElem hlt, List.foldl_append]; rfl
  exact ⟨_, by omega, .here ⟨i + 1, v2, by omega, rfl, rfl, hk1, by rw [e]; exact f2, by rw [e]; exact G.cl hS hxi⟩⟩
theorem l34Sum_ok (g : LG O P C) (k : clsOk O P C) (hR : IsPr vO vP vC O P C) (hx : gS O x) (hy : gS O y) (hvx : FI vx x) (hvy : FI vy y) (hk : ∀ v, FI v (gsum O P C x y) → K v σ) : PCalls Try.prog 71 [.agg [vO, vP, vC], vx, vy] σ K := by
  have s := g.s
  have F := g.F
  have G := F.g
  have cS := G.com_in hx hy
  have aS := G.com_in cS hx
  have bS := G.com_in cS hy
  have h0 := hR.O.one
  have h1 := hR.P.one
  have h2 := hR.C.one
  refine PCalls.gh ?_
  have hkp : Keep σ (σ.new [vO, vP, vC]) := keep_new σ _
  refine pcalls_of_vp mix Try.func71 cf71 rfl ?_
  dsimp only [if71, qI, eI, nI, qD, eD]
  simp only [pwA, if_true, if_false, eq_self, nm_eq, reduceCtorEq, ↓reduceIte, Nat.reduceEqDiff, Nat.reduceLeDiff, Nat.reduceBEq, Nat.reduceAdd, Nat.reduceLT, Nat.reduceSub, Nat.reduceMul, Int.reduceEq, Int.reduceLT, Int.reduceLE, Int.reduceNeg, Int.reduceToNat, List.reduceReplicate, Int.ofNat_le, List.getElem?_drop, h0, h1, h2]
  refine l10Comm_ok s g.co hR hx hy hvx hvy fun v1 f1 => ?_
  simp only [pwA, if_true, if_false, eq_self, nm_eq, reduceCtorEq, ↓reduceIte, Nat.reduceEqDiff, Nat.reduceLeDiff, Nat.reduceBEq, Nat.reduceAdd, Nat.reduceLT, Nat.reduceSub, Nat.reduceMul, Int.reduceEq, Int.reduceLT, Int.reduceLE, Int.reduceNeg, Int.reduceToNat, List.reduceReplicate, Int.ofNat_le, List.getElem?_drop]
  refine l10Comm_ok s g.co hR cS hx f1 hvx fun v2 f2 => ?_
  simp only [pwA, if_true, if_false, eq_self, nm_eq, reduceCtorEq, ↓reduceIte, Nat.reduceEqDiff, Nat.reduceLeDiff, Nat.reduceBEq, Nat.reduceAdd, Nat.reduceLT, Nat.reduceSub, Nat.reduceMul, Int.reduceEq, Int.reduceLT, Int.reduceLE, Int.reduceNeg, Int.reduceToNat, List.reduceReplicate, Int.ofNat_le, List.getElem?_drop]
  refine l10Comm_ok s g.co hR cS hy f1 hvy fun v3 f3 => ?_
  simp only [pwA, if_true, if_false, eq_self, nm_eq, reduceCtorEq, ↓reduceIte, Nat.reduceEqDiff, Nat.reduceLeDiff, Nat.reduceBEq, Nat.reduceAdd, Nat.reduceLT, Nat.reduceSub, Nat.reduceMul, Int.reduceEq, Int.reduceLT, Int.reduceLE, Int.reduceNeg, Int.reduceToNat, List.reduceReplicate, Int.ofNat_le, List.getElem?_drop]
  refine l34Root_ok g hR cS f1 (c := 2) (ok2 g k hx hy (.inl rfl)) (by omega) fun v4 w4 f4 r4 => ?_
  have e4 := rt_eq g cS r4
  have S4 : gS O w4 := r4.gS F s cS
  simp only [pwA, if_true, if_false, eq_self, nm_eq, reduceCtorEq, ↓reduceIte, Nat.reduceEqDiff, Nat.reduceLeDiff, Nat.reduceBEq, Nat.reduceAdd, Nat.reduceLT, Nat.reduceSub, Nat.reduceMul, Int.reduceEq, Int.reduceLT, Int.reduceLE, Int.reduceNeg, Int.reduceToNat, List.reduceReplicate, Int.ofNat_le, List.getElem?_drop]
  refine l10Inv_ok s g.co hR S4 f4 fun v5 f5 => ?_
  have S5 := (G.inv_in S4).1
  simp only [pwA, if_true, if_false, eq_self, nm_eq, reduceCtorEq, ↓reduceIte, Nat.reduceEqDiff, Nat.reduceLeDiff, Nat.reduceBEq, Nat.reduceAdd, Nat.reduceLT, Nat.reduceSub, Nat.reduceMul, Int.reduceEq, Int.reduceLT, Int.reduceLE, Int.reduceNeg, Int.reduceToNat, List.reduceReplicate, Int.ofNat_le, List.getElem?_drop]
  refine l34Root_ok g hR aS f2 (c := 12) (ok12 g k hx hy hx) (by omega) fun v6 w6 f6 r6 => ?_
  have e6 := rt_eq g aS r6
  have S6 : gS O w6 := r6.gS F s aS
  simp only [pwA, if_true, if_false, eq_self, nm_eq, reduceCtorEq, ↓reduceIte, Nat.reduceEqDiff, Nat.reduceLeDiff, Nat.reduceBEq, Nat.reduceAdd, Nat.reduceLT, Nat.reduceSub, Nat.reduceMul, Int.reduceEq, Int.reduceLT, Int.reduceLE, Int.reduceNeg, Int.reduceToNat, List.reduceReplicate, Int.ofNat_le, List.getElem?_drop]
  refine l34Root_ok g hR bS f3 (c := 12) (ok12 g k hx hy hy) (by omega) fun v7 w7 f7 r7 => ?_
  have e7 := rt_eq g bS r7
  have S7 : gS O w7 := r7.gS F s bS
  simp only [pwA, if_true, if_false, eq_self, nm_eq, reduceCtorEq, ↓reduceIte, Nat.reduceEqDiff, Nat.reduceLeDiff, Nat.reduceBEq, Nat.reduceAdd, Nat.reduceLT, Nat.reduceSub, Nat.reduceMul, Int.reduceEq, Int.reduceLT, Int.reduceLE, Int.reduceNeg, Int.reduceToNat, List.reduceReplicate, Int.ofNat_le, List.getElem?_drop]
  refine l10Inv_ok s g.co hR S7 f7 fun v8 f8 => ?_
  have S8 := (G.inv_in S7).1
  simp only [pwA, if_true, if_false, eq_self, nm_eq, reduceCtorEq, ↓reduceIte, Nat.reduceEqDiff, Nat.reduceLeDiff, Nat.reduceBEq, Nat.reduceAdd, Nat.reduceLT, Nat.reduceSub, Nat.reduceMul, Int.reduceEq, Int.reduceLT, Int.reduceLE, Int.reduceNeg, Int.reduceToNat, List.reduceReplicate, Int.ofNat_le, List.getElem?_drop, hvx.one, hvx.cells, hvy.one, hvy.cells, f5.one, f5.cells, f6.one, f6.cells, f8.one, f8.cells]
  have hrow : All2 FI [vx, vy, v5, v6, v8] [x, y, gi_ O P C w4, w6, gi_ O P C w7] := (((((All2.nil _).snoc hvx).snoc hvy).snoc f5).snoc f6).snoc f8
  refine PCalls.frz (s := σ.next + 1) (cs := [vx, vy, v5, v6, v8]) (by simp only [pwA, if_true, if_false, eq_self, nm_eq, reduceCtorEq, ↓reduceIte, Nat.reduceEqDiff, Nat.reduceLeDiff, Nat.reduceBEq, Nat.reduceAdd, Nat.reduceLT, Nat.reduceSub, Nat.reduceMul, Int.reduceEq, Int.reduceLT, Int.reduceLE, Int.reduceNeg, Int.reduceToNat, List.reduceReplicate, Int.ofNat_le, List.getElem?_drop]) (hrow.bI 0) fun o1 => ?_
  simp only [sbs, Go.Ab.sb, capOK, and_self, if_true, decide_true, Nat.le_refl, hR.O.sb, hR.P.sb, hR.C.sb]
  refine l34Product_ok g hR ⟨true, _, _, rfl, hrow⟩ (fun u hu => ?_) (by simp) fun v9 f9 => ?_
  · simp only [List.mem_cons, List.not_mem_nil, or_false] at hu
    rcases hu with rfl | rfl | rfl | rfl | rfl <;> assumption
  have e : [x, y, gi_ O P C w4, w6, gi_ O P C w7].foldl (gm O P C) (zv O) = gsum O P C x y := by
    simp only [List.foldl_cons, List.foldl_nil]
    rw [G.l1 hx, e4, e6, e7]; rfl
  rw [e] at f9
  simp only [pwA, if_true, if_false, eq_self, nm_eq, reduceCtorEq, ↓reduceIte, Nat.reduceEqDiff, Nat.reduceLeDiff, Nat.reduceBEq, Nat.reduceAdd, Nat.reduceLT, Nat.reduceSub, Nat.reduceMul, Int.reduceEq, Int.reduceLT, Int.reduceLE, Int.reduceNeg, Int.reduceToNat, List.reduceReplicate, Int.ofNat_le, List.getElem?_drop]
  exact Gh.fin0 ((hkp.new _).kill (by omega)) (f9.bel _) (hk _ f9)
theorem l34Bracket_ok (g : LG O P C) (k : clsOk O P C) (hR : IsPr vO vP vC O P C) (hx : gS O x) (hy : gS O y) (hvx : FI vx x) (hvy : FI vy y) (hk : ∀ v, FI v (gbr O P C x y) → K v σ) : PCalls Try.prog 74 [.agg [vO, vP, vC], vx, vy] σ K := by
  have s := g.s
  have F := g.F
  have G := F.g
  have cS := G.com_in hx hy
  have aS := G.com_in cS hx
  have bS := G.com_in cS hy
  have h0 := hR.O.one
  have h1 := hR.P.one
  have h2 := hR.C.one
  refine PCalls.gh ?_
  have hkp : Keep σ (σ.new [vO, vP, vC]) := keep_new σ _
  refine pcalls_of_vp mix Try.func74 cf74 rfl ?_
  dsimp only [if74, qI, eI, nI, qD, eD]
  simp only [pwA, if_true, if_false, eq_self, nm_eq, reduceCtorEq, ↓reduceIte, Nat.reduceEqDiff, Nat.reduceLeDiff, Nat.reduceBEq, Nat.reduceAdd, Nat.reduceLT, Nat.reduceSub, Nat.reduceMul, Int.reduceEq, Int.reduceLT, Int.reduceLE, Int.reduceNeg, Int.reduceToNat, List.reduceReplicate, Int.ofNat_le, List.getElem?_drop, h0, h1, h2]
  refine l10Comm_ok s g.co hR hx hy hvx hvy fun v1 f1 => ?_
  simp only [pwA, if_true, if_false, eq_self, nm_eq, reduceCtorEq, ↓reduceIte, Nat.reduceEqDiff, Nat.reduceLeDiff, Nat.reduceBEq, Nat.reduceAdd, Nat.reduceLT, Nat.reduceSub, Nat.reduceMul, Int.reduceEq, Int.reduceLT, Int.reduceLE, Int.reduceNeg, Int.reduceToNat, List.reduceReplicate, Int.ofNat_le, List.getElem?_drop]
  refine l10Comm_ok s g.co hR cS hx f1 hvx fun v2 f2 => ?_
  simp only [pwA, if_true, if_false, eq_self, nm_eq, reduceCtorEq, ↓reduceIte, Nat.reduceEqDiff, Nat.reduceLeDiff, Nat.reduceBEq, Nat.reduceAdd, Nat.reduceLT, Nat.reduceSub, Nat.reduceMul, Int.reduceEq, Int.reduceLT, Int.reduceLE, Int.reduceNeg, Int.reduceToNat, List.reduceReplicate, Int.ofNat_le, List.getElem?_drop]
  refine l10Comm_ok s g.co hR cS hy f1 hvy fun v3 f3 => ?_
  simp only [pwA, if_true, if_false, eq_self, nm_eq, reduceCtorEq, ↓reduceIte, Nat.reduceEqDiff, Nat.reduceLeDiff, Nat.reduceBEq, Nat.reduceAdd, Nat.reduceLT, Nat.reduceSub, Nat.reduceMul, Int.reduceEq, Int.reduceLT, Int.reduceLE, Int.reduceNeg, Int.reduceToNat, List.reduceReplicate, Int.ofNat_le, List.getElem?_drop]
  refine l34Root_ok g hR aS f2 (c := 2) (ok12 g k hx hy hx) (by omega) fun v6 w6 f6 r6 => ?_
  have e6 := rt_eq g aS r6
  have S6 : gS O w6 := r6.gS F s aS
  simp only [pwA, if_true, if_false, eq_self, nm_eq, reduceCtorEq, ↓reduceIte, Nat.reduceEqDiff, Nat.reduceLeDiff, Nat.reduceBEq, Nat.reduceAdd, Nat.reduceLT, Nat.reduceSub, Nat.reduceMul, Int.reduceEq, Int.reduceLT, Int.reduceLE, Int.reduceNeg, Int.reduceToNat, List.reduceReplicate, Int.ofNat_le, List.getElem?_drop]
  refine l10Inv_ok s g.co hR S6 f6 fun v5 f5 => ?_
  have S5 := (G.inv_in S6).1
  simp only [pwA, if_true, if_false, eq_self, nm_eq, reduceCtorEq, ↓reduceIte, Nat.reduceEqDiff, Nat.reduceLeDiff, Nat.reduceBEq, Nat.reduceAdd, Nat.reduceLT, Nat.reduceSub, Nat.reduceMul, Int.reduceEq, Int.reduceLT, Int.reduceLE, Int.reduceNeg, Int.reduceToNat, List.reduceReplicate, Int.ofNat_le, List.getElem?_drop]
  refine l34Root_ok g hR bS f3 (c := 2) (ok12 g k hx hy hy) (by omega) fun v7 w7 f7 r7 => ?_
  have e7 := rt_eq g bS r7
  have S7 : gS O w7 := r7.gS F s bS
  simp only [pwA, if_true, if_false, eq_self, nm_eq, reduceCtorEq, ↓reduceIte, Nat.reduceEqDiff, Nat.reduceLeDiff, Nat.reduceBEq, Nat.reduceAdd, Nat.reduceLT, Nat.reduceSub, Nat.reduceMul, Int.reduceEq, Int.reduceLT, Int.reduceLE, Int.reduceNeg, Int.reduceToNat, List.reduceReplicate, Int.ofNat_le, List.getElem?_drop]
  refine l10Inv_ok s g.co hR S7 f7 fun v8 f8 => ?_
  have S8 := (G.inv_in S7).1
  simp only [pwA, if_true, if_false, eq_self, nm_eq, reduceCtorEq, ↓reduceIte, Nat.reduceEqDiff, Nat.reduceLeDiff, Nat.reduceBEq, Nat.reduceAdd, Nat.reduceLT, Nat.reduceSub, Nat.reduceMul, Int.reduceEq, Int.reduceLT, Int.reduceLE, Int.reduceNeg, Int.reduceToNat, List.reduceReplicate, Int.ofNat_le, List.getElem?_drop, f1.one, f1.cells, f5.one, f5.cells, f8.one, f8.cells]
  have hrow : All2 FI [v1, v5, v8] [gcom O P C x y, gi_ O P C w6, gi_ O P C w7] := (((All2.nil _).snoc f1).snoc f5).snoc f8
  refine PCalls.frz (s := σ.next + 1) (cs := [v1, v5, v8]) (by simp only [pwA, if_true, if_false, eq_self, nm_eq, reduceCtorEq, ↓reduceIte, Nat.reduceEqDiff, Nat.reduceLeDiff, Nat.reduceBEq, Nat.reduceAdd, Nat.reduceLT, Nat.reduceSub, Nat.reduceMul, Int.reduceEq, Int.reduceLT, Int.reduceLE, Int.reduceNeg, Int.reduceToNat, List.reduceReplicate, Int.ofNat_le, List.getElem?_drop]) (hrow.bI 0) fun o1 => ?_
  simp only [sbs, Go.Ab.sb, capOK, and_self, if_true, decide_true, Nat.le_refl, hR.O.sb, hR.P.sb, hR.C.sb]
  refine l34Product_ok g hR ⟨true, _, _, rfl, hrow⟩ (fun u hu => ?_) (by simp) fun v9 f9 => ?_
  · simp only [List.mem_cons, List.not_mem_nil, or_false] at hu
    rcases hu with rfl | rfl | rfl <;> assumption
  have e : [gcom O P C x y, gi_ O P C w6, gi_ O P C w7].foldl (gm O P C) (zv O) = gbr O P C x y := by
    simp only [List.foldl_cons, List.foldl_nil]
    rw [G.l1 cS, e6, e7]; rfl
  rw [e] at f9
  simp only [pwA, if_true, if_false, eq_self, nm_eq, reduceCtorEq, ↓reduceIte, Nat.reduceEqDiff, Nat.reduceLeDiff, Nat.reduceBEq, Nat.reduceAdd, Nat.reduceLT, Nat.reduceSub, Nat.reduceMul, Int.reduceEq, Int.reduceLT, Int.reduceLE, Int.reduceNeg, Int.reduceToNat, List.reduceReplicate, Int.ofNat_le, List.getElem?_drop]
  exact Gh.fin0 ((hkp.new _).kill (by omega)) (f9.bel _) (hk _ f9)
end Go.Proofs
namespace Go.Proofs.Ytngdcibjjomfjaa
open Go.ChangeShapes Go.WideShapes Go.ChangeAt Go.RowKit Go.Ab Go.Joins Go.Lie Go.Proofs
set_option linter.unusedVariables false
theorem own : ownKnob Try.prog.godebug = none := by kernel_rfl
theorem laidOut : laidOutB Try.prog = true := by kernel_rfl
theorem cell22 : Try.prog.cellsOf 22 = 1 := by kernel_rfl
theorem cell2 : Try.prog.cellsOf 2 = 1 := by kernel_rfl
theorem cell26 : Try.prog.cellsOf 26 = 1 := by kernel_rfl
variable {H : Type} {enc : TypeId × Value → H} {W w0 : World} {j : Inj} {h : AHeap}
/-- Lists of lists. -/
def LII (v : PV) (xs : List (List Int)) : Prop := FII v xs ∧ xs.length ≤ 9223372036854775807 ∧ ∀ x ∈ xs, x.length ≤ 9223372036854775807
def LIII (v : PV) (xs : List (List (List Int))) : Prop := FIII v xs ∧ xs.length ≤ 9223372036854775807 ∧ ∀ q ∈ xs, q.length ≤ 9223372036854775807 ∧ ∀ x ∈ q, x.length ≤ 9223372036854775807
theorem layI : Lay1 enc Try.prog W 26 (fun v (xs : List Int) => FI v xs ∧ xs.length ≤ 9223372036854775807) := lay_ints (e := 2) Try.underlying26 cell2 Try.underlying2
theorem layII : Lay1 enc Try.prog W 22 LII := by
  intro w0 j h held fuel v x m hx
  obtain ⟨j', h', pv, a, g1, g2, g3, g4, g5, g6, g7, g8⟩ := lay_slice Try.underlying22 cell26 layI w0 j h held fuel v x m hx
  exact ⟨j', h', pv, a, g1, g2, g3, g4, g5, g6, g7.imp fun _ _ k => k.1, g8, g7.all fun _ _ k => k.2⟩
theorem layIII : Lay1 enc Try.prog W 23 LIII := by
  intro w0 j h held fuel v x m hx
  obtain ⟨j', h', pv, a, g1, g2, g3, g4, g5, g6, g7, g8⟩ := lay_slice Try.underlying23 cell22 layII w0 j h held fuel v x m hx
  exact ⟨j', h', pv, a, g1, g2, g3, g4, g5, g6, g7.imp fun _ _ k => k.1, g8, g7.all fun _ _ k => k.2⟩
end Go.Proofs.Ytngdcibjjomfjaa
namespace Go.Proofs.Ytngdcibjjomfjaa
open Go.ChangeShapes Go.WideShapes Go.ChangeAt Go.RowKit Go.Ab Go.Joins Go.Lie Go.Proofs
set_option linter.unusedVariables false
theorem cell42 : Try.prog.cellsOf 42 = 3 := by kernel_rfl
variable {H : Type} {enc : TypeId × Value → H} {W w0 : World} {j : Inj} {h : AHeap}
set_option maxRecDepth 100000 in
/-- A presentation that is handed over. -/
theorem layPr {b0 : Nat} {v : Value} {d : DataW H} {q : List MemPlace} (m : MR W.heap.size w0 j h W) (hv : Value.okWide Try.prog W .any b0 42 v) (ht : DataW.Trod enc Try.prog W 0 (fun _ => true) true 42 v d q) :
    ∃ (j' : Inj) (h' : AHeap) (vO vP vC : PV) (Os : List Int) (Ps : List (List Int)) (Cs : List (List (List Int))), MR W.heap.size w0 j' h' W ∧ j.le j' ∧ Ext h h' ∧ VI j' (er idz (.agg [vO, vP, vC])) v ∧ VOK (zlt h') h' 0 (.agg [vO, vP, vC]) ∧ IsPr vO vP vC Os Ps Cs ∧ MxP Os Ps Cs := by
  obtain ⟨v0, v1, v2, y0, y1, y2, n, rfl, rfl, rfl, t0, t1, t2⟩ := open_agg3 Try.underlying42 (by kernel_rfl) cell42 hv ht
  obtain ⟨j0, h0, vO, Os, m0, l0, e0, i0, o0, _, r1, r2⟩ := layI w0 j h true n v0 _ m t0
  obtain ⟨j1, h1, vP, Ws, m1, l1, e1, i1, o1, _, p1, p2, p3⟩ := layII w0 j0 h0 true n v1 _ m0 t1
  obtain ⟨j2, h2, vB, Bs, m2, l2, e2, i2, o2, _, q1, q2, q3⟩ := layIII w0 j1 h1 true n v2 _ m1 t2
  exact ⟨j2, h2, vO, vP, vB, Os, Ws, Bs, m2, (l0.trans l1).trans l2, (e0.trans e1).trans e2, ⟨_, ⟨_, _, rfl, VI.mono (l1.trans l2) _ _ i0, _, _, rfl, VI.mono l2 _ _ i1, _, _, rfl, i2, rfl⟩, rfl⟩, ⟨(e1.trans e2).vok o0, e2.vok o1, o2, trivial⟩, ⟨r1, p1, q1⟩, ⟨r2, p2, p3, q2, q3⟩⟩
end Go.Proofs.Ytngdcibjjomfjaa
namespace Go.Proofs
open Go.Ab
/-- loop.example/g01076/laws.FnExactGroupSum -/
def if8 : IFn := ⟨[0, 1, 2], [(.tmp 6)], (.seq (.region [1, 2, 3] [eI 3 (.box (.t 0)), qI 6 (.mv (.c (.bool false)))])
  (.seq (.seq (.region [1, 2, 3, 22] [qI 20 (.mv (.t 1)), qI 21 (.len (.t 20)), qI 22 (.bin .gtr .other (.t 21) (.c (.int .i64 1048576)))])
  (.cond (.t 22) (.seq (.region [6] [qI 6 (.mv (.c (.bool true)))])
  .ret) .skip))
  (.seq (.seq (.region [1, 2, 3, 25] [qI 23 (.mv (.t 2)), qI 24 (.len (.t 23)), qI 25 (.bin .gtr .other (.t 24) (.c (.int .i64 1048576)))])
  (.cond (.t 25) (.seq (.region [6] [qI 6 (.mv (.c (.bool true)))])
  .ret) .skip))
  (.seq (.region [1, 2, 3, 7] [qI 7 (.mv (.c (.int .i64 1048576)))])
  (.seq (.region [1, 2, 3, 7] [qI 26 (.load true 3 (.t 3)), qI 27 (.mv (.t 7)), eI 28 (.call 25 [(.t 26), (.t 27)]), qI 7 (.mv (.t 28))])
  (.seq (.seq (.region [1, 2, 3, 30] [qI 29 (.mv (.t 7)), qI 30 (.bin .lss .other (.t 29) (.c (.int .i64 0)))])
  (.cond (.t 30) (.seq (.region [6] [qI 6 (.mv (.c (.bool true)))])
  .ret) .skip))
  (.seq (.region [1, 2, 3, 8, 9] [qI 32 (.load true 3 (.t 3)), eI 33 (.call 27 [(.t 32)]), qI 34 (.mv (.t 1)), eI 35 (.call 14 [(.t 34)]), qI 36 (.mv (.t 2)), eI 37 (.call 14 [(.t 36)]), eI 38 (.call 32 [(.t 33), (.t 35), (.t 37)]), qI 31 (.mv (.t 38)), qI 39 (.extract (.t 31) 0), qI 40 (.extract (.t 31) 1), qI 8 (.mv (.t 39)), qI 9 (.mv (.t 40))])
  (.seq (.region [1, 2, 3, 8, 9, 10] [qI 41 (.load true 3 (.t 3)), eI 42 (.call 27 [(.t 41)]), eI 10 (.alloc [.nils, .nils, .nils]), nI (.store 3 (.t 10) (.t 42))])
  (.seq (.region [1, 2, 3, 8, 9, 10, 11] [qI 43 (.mv (.t 1)), eI 44 (.call 14 [(.t 43)]), qI 11 (.mv (.t 44))])
  (.seq (.region [1, 2, 3, 8, 9, 10, 11, 12] [qI 45 (.mv (.t 2)), eI 46 (.call 14 [(.t 45)]), qI 12 (.mv (.t 46))])
  (.seq (.region [1, 2, 3, 8, 9, 10, 11, 12, 13, 14] [qI 48 (.load true 3 (.t 10)), qI 49 (.mv (.t 11)), qI 50 (.mv (.t 12)), eI 51 (.call 33 [(.t 48), (.t 49), (.t 50)]), qI 47 (.mv (.t 51)), qI 52 (.extract (.t 47) 0), qI 53 (.extract (.t 47) 1), qI 13 (.mv (.t 52)), qI 14 (.mv (.t 53))])
  (.seq (.seq (.region [1, 2, 3, 8, 9, 10, 11, 12, 13, 14, 62] [qI 54 (.mv (.t 13)), qI 55 (.mv (.t 8)), eI 56 (.call 16 [(.t 54), (.t 55)]), qI 57 (.un .not (.t 56)), qI 58 (.mv (.t 57)), ⟨(some 59), .mv (.t 14), true, (some (58, false))⟩, ⟨(some 60), .mv (.t 9), true, (some (58, false))⟩, ⟨(some 61), .bin .neq .other (.t 59) (.t 60), true, (some (58, false))⟩, qI 62 (.pick (.t 58) (.c (.bool true)) (.t 61))])
  (.cond (.t 62) (.seq (.region [6] [qI 6 (.mv (.c (.bool false)))])
  .ret) .skip))
  (.seq (.seq (.draw [1, 2, 3, 8, 9, 10, 11, 12, 13, 14, 67] [] [qD 63 (.load true 3 (.t 10)) 0, qD 64 (.load true 3 (.t 3)) 1, eD 65 (.call 27 [(.t 64)]) 2 [0], eD 66 (.call 29 [(.t 63), (.t 65)]) 3 [], qD 67 (.un .not (.t 66)) 4])
  (.cond (.t 67) (.seq (.region [6] [qI 6 (.mv (.c (.bool false)))])
  .ret) .skip))
  (.seq (.seq (.region [1, 2, 3, 8, 9, 10, 11, 12, 13, 14, 72] [qI 68 (.mv (.t 11)), qI 69 (.mv (.t 1)), eI 70 (.call 14 [(.t 69)]), eI 71 (.call 16 [(.t 68), (.t 70)]), qI 72 (.un .not (.t 71))])
  (.cond (.t 72) (.seq (.region [6] [qI 6 (.mv (.c (.bool false)))])
  .ret) .skip))
  (.seq (.seq (.region [1, 2, 3, 8, 9, 10, 11, 12, 13, 14, 77] [qI 73 (.mv (.t 12)), qI 74 (.mv (.t 2)), eI 75 (.call 14 [(.t 74)]), eI 76 (.call 16 [(.t 73), (.t 75)]), qI 77 (.un .not (.t 76))])
  (.cond (.t 77) (.seq (.region [6] [qI 6 (.mv (.c (.bool false)))])
  .ret) .skip))
  (.seq (.region [1, 2, 3, 8, 9, 10, 11, 12, 13, 14, 15] [qI 15 (.mv (.c (.int .i64 1)))])
  (.seq (.region [1, 2, 3, 8, 9, 11, 12, 13, 14, 15] [qI 78 (.load true 3 (.t 10)), qI 79 (.mv (.t 15)), eI 80 (.call 34 [(.t 78), (.t 79)]), qI 15 (.mv (.t 80))])
  (.seq (.region [1, 2, 3, 8, 9, 12, 13, 14, 15] [qI 81 (.mv (.t 11)), qI 82 (.mv (.t 15)), eI 83 (.call 19 [(.t 81), (.t 82)]), qI 15 (.mv (.t 83))])
  (.seq (.region [1, 2, 3, 8, 9, 13, 14, 15] [qI 84 (.mv (.t 12)), qI 85 (.mv (.t 15)), eI 86 (.call 19 [(.t 84), (.t 85)]), qI 15 (.mv (.t 86))])
  (.seq (.seq (.region [1, 2, 3, 8, 9, 13, 99] [qI 87 (.mv (.t 15)), qI 88 (.bin .lss .other (.t 87) (.c (.int .i64 0))), qI 89 (.mv (.t 88)), ⟨(some 90), .mv (.t 13), true, (some (89, false))⟩, ⟨(some 91), .mv (.t 8), true, (some (89, false))⟩, ⟨(some 92), .call 16 [(.t 90), (.t 91)], false, (some (89, false))⟩, ⟨(some 93), .un .not (.t 92), true, (some (89, false))⟩, qI 94 (.pick (.t 89) (.c (.bool true)) (.t 93)), qI 95 (.mv (.t 94)), ⟨(some 96), .mv (.t 14), true, (some (95, false))⟩, ⟨(some 97), .mv (.t 9), true, (some (95, false))⟩, ⟨(some 98), .bin .neq .other (.t 96) (.t 97), true, (some (95, false))⟩, qI 99 (.pick (.t 95) (.c (.bool true)) (.t 98))])
  (.cond (.t 99) (.seq (.region [6] [qI 6 (.mv (.c (.bool false)))])
  .ret) .skip))
  (.seq (.region [1, 2, 3, 8, 9, 13, 16] [qI 16 (.mv (.c (.int .i64 1)))])
  (.seq (.region [1, 2, 3, 8, 9, 13, 16] [qI 100 (.mv (.t 13)), qI 101 (.mv (.t 16)), eI 102 (.call 19 [(.t 100), (.t 101)]), qI 16 (.mv (.t 102))])
  (.seq (.region [1, 2, 3, 8, 9, 13, 16, 17] [qI 17 (.mv (.c (.int .i64 1)))])
  (.seq (.region [1, 2, 3, 8, 9, 13, 16, 17] [qI 103 (.mv (.t 13)), qI 104 (.mv (.t 17)), eI 105 (.call 20 [(.t 103), (.t 104)]), qI 17 (.mv (.t 105))])
  (.seq (.seq (.region [1, 2, 3, 8, 9, 13, 16, 17, 107] [qI 106 (.mv (.t 17)), qI 107 (.bin .lss .other (.t 106) (.c (.int .i64 0)))])
  (.cond (.t 107) (.seq (.region [6] [qI 6 (.mv (.c (.bool false)))])
  .ret) .skip))
  (.seq (.seq (.region [1, 2, 3, 8, 9, 13, 16, 110] [qI 108 (.mv (.t 17)), qI 109 (.mv (.t 16)), qI 110 (.bin .neq .other (.t 108) (.t 109))])
  (.cond (.t 110) (.seq (.region [6] [qI 6 (.mv (.c (.bool false)))])
  .ret) .skip))
  (.seq (.region [8, 9, 13, 16, 18, 19] [qI 112 (.load true 3 (.t 3)), eI 113 (.call 27 [(.t 112)]), qI 114 (.mv (.t 1)), eI 115 (.call 14 [(.t 114)]), qI 116 (.mv (.t 2)), eI 117 (.call 14 [(.t 116)]), eI 118 (.call 33 [(.t 113), (.t 115), (.t 117)]), qI 111 (.mv (.t 118)), qI 119 (.extract (.t 111) 0), qI 120 (.extract (.t 111) 1), qI 18 (.mv (.t 119)), qI 19 (.mv (.t 120))])
  (.seq (.seq (.region [13, 16, 129] [qI 121 (.mv (.t 18)), qI 122 (.mv (.t 8)), eI 123 (.call 16 [(.t 121), (.t 122)]), qI 124 (.un .not (.t 123)), qI 125 (.mv (.t 124)), ⟨(some 126), .mv (.t 19), true, (some (125, false))⟩, ⟨(some 127), .mv (.t 9), true, (some (125, false))⟩, ⟨(some 128), .bin .neq .other (.t 126) (.t 127), true, (some (125, false))⟩, qI 129 (.pick (.t 125) (.c (.bool true)) (.t 128))])
  (.cond (.t 129) (.seq (.region [6] [qI 6 (.mv (.c (.bool false)))])
  .ret) .skip))
  (.seq (.region [13, 16, 17] [qI 17 (.mv (.c (.int .i64 1)))])
  (.seq (.region [16, 17] [qI 130 (.mv (.t 13)), qI 131 (.mv (.t 17)), eI 132 (.call 20 [(.t 130), (.t 131)]), qI 17 (.mv (.t 132))])
  (.seq (.seq (.region [16, 17, 134] [qI 133 (.mv (.t 17)), qI 134 (.bin .lss .other (.t 133) (.c (.int .i64 0)))])
  (.cond (.t 134) (.seq (.region [6] [qI 6 (.mv (.c (.bool false)))])
  .ret) .skip))
  (.seq (.seq (.region [137] [qI 135 (.mv (.t 17)), qI 136 (.mv (.t 16)), qI 137 (.bin .neq .other (.t 135) (.t 136))])
  (.cond (.t 137) (.seq (.region [6] [qI 6 (.mv (.c (.bool false)))])
  .ret) .skip))
  (.seq (.region [6] [qI 6 (.mv (.c (.bool true)))])
  .ret)))))))))))))))))))))))))))))))))⟩
theorem cf8 : cF Try.prog Try.f8 = some if8 := by kernel_rfl
/-- loop.example/g01076/laws.FnExactGroupBracket -/
def if9 : IFn := ⟨[0, 1, 2], [(.tmp 6)], (.seq (.region [1, 2, 3] [eI 3 (.box (.t 0)), qI 6 (.mv (.c (.bool false)))])
  (.seq (.seq (.region [1, 2, 3, 22] [qI 20 (.mv (.t 1)), qI 21 (.len (.t 20)), qI 22 (.bin .gtr .other (.t 21) (.c (.int .i64 1048576)))])
  (.cond (.t 22) (.seq (.region [6] [qI 6 (.mv (.c (.bool true)))])
  .ret) .skip))
  (.seq (.seq (.region [1, 2, 3, 25] [qI 23 (.mv (.t 2)), qI 24 (.len (.t 23)), qI 25 (.bin .gtr .other (.t 24) (.c (.int .i64 1048576)))])
  (.cond (.t 25) (.seq (.region [6] [qI 6 (.mv (.c (.bool true)))])
  .ret) .skip))
  (.seq (.region [1, 2, 3, 7] [qI 7 (.mv (.c (.int .i64 1048576)))])
  (.seq (.region [1, 2, 3, 7] [qI 26 (.load true 3 (.t 3)), qI 27 (.mv (.t 7)), eI 28 (.call 25 [(.t 26), (.t 27)]), qI 7 (.mv (.t 28))])
  (.seq (.seq (.region [1, 2, 3, 30] [qI 29 (.mv (.t 7)), qI 30 (.bin .lss .other (.t 29) (.c (.int .i64 0)))])
  (.cond (.t 30) (.seq (.region [6] [qI 6 (.mv (.c (.bool true)))])
  .ret) .skip))
  (.seq (.region [1, 2, 3, 8, 9] [qI 32 (.load true 3 (.t 3)), eI 33 (.call 27 [(.t 32)]), qI 34 (.mv (.t 1)), eI 35 (.call 14 [(.t 34)]), qI 36 (.mv (.t 2)), eI 37 (.call 14 [(.t 36)]), eI 38 (.call 35 [(.t 33), (.t 35), (.t 37)]), qI 31 (.mv (.t 38)), qI 39 (.extract (.t 31) 0), qI 40 (.extract (.t 31) 1), qI 8 (.mv (.t 39)), qI 9 (.mv (.t 40))])
  (.seq (.region [1, 2, 3, 8, 9, 10] [qI 41 (.load true 3 (.t 3)), eI 42 (.call 27 [(.t 41)]), eI 10 (.alloc [.nils, .nils, .nils]), nI (.store 3 (.t 10) (.t 42))])
  (.seq (.region [1, 2, 3, 8, 9, 10, 11] [qI 43 (.mv (.t 1)), eI 44 (.call 14 [(.t 43)]), qI 11 (.mv (.t 44))])
  (.seq (.region [1, 2, 3, 8, 9, 10, 11, 12] [qI 45 (.mv (.t 2)), eI 46 (.call 14 [(.t 45)]), qI 12 (.mv (.t 46))])
  (.seq (.region [1, 2, 3, 8, 9, 10, 11, 12, 13, 14] [qI 48 (.load true 3 (.t 10)), qI 49 (.mv (.t 11)), qI 50 (.mv (.t 12)), eI 51 (.call 36 [(.t 48), (.t 49), (.t 50)]), qI 47 (.mv (.t 51)), qI 52 (.extract (.t 47) 0), qI 53 (.extract (.t 47) 1), qI 13 (.mv (.t 52)), qI 14 (.mv (.t 53))])
  (.seq (.seq (.region [1, 2, 3, 8, 9, 10, 11, 12, 13, 14, 62] [qI 54 (.mv (.t 13)), qI 55 (.mv (.t 8)), eI 56 (.call 16 [(.t 54), (.t 55)]), qI 57 (.un .not (.t 56)), qI 58 (.mv (.t 57)), ⟨(some 59), .mv (.t 14), true, (some (58, false))⟩, ⟨(some 60), .mv (.t 9), true, (some (58, false))⟩, ⟨(some 61), .bin .neq .other (.t 59) (.t 60), true, (some (58, false))⟩, qI 62 (.pick (.t 58) (.c (.bool true)) (.t 61))])
  (.cond (.t 62) (.seq (.region [6] [qI 6 (.mv (.c (.bool false)))])
  .ret) .skip))
  (.seq (.seq (.draw [1, 2, 3, 8, 9, 10, 11, 12, 13, 14, 67] [] [qD 63 (.load true 3 (.t 10)) 0, qD 64 (.load true 3 (.t 3)) 1, eD 65 (.call 27 [(.t 64)]) 2 [0], eD 66 (.call 29 [(.t 63), (.t 65)]) 3 [], qD 67 (.un .not (.t 66)) 4])
  (.cond (.t 67) (.seq (.region [6] [qI 6 (.mv (.c (.bool false)))])
  .ret) .skip))
  (.seq (.seq (.region [1, 2, 3, 8, 9, 10, 11, 12, 13, 14, 72] [qI 68 (.mv (.t 11)), qI 69 (.mv (.t 1)), eI 70 (.call 14 [(.t 69)]), eI 71 (.call 16 [(.t 68), (.t 70)]), qI 72 (.un .not (.t 71))])
  (.cond (.t 72) (.seq (.region [6] [qI 6 (.mv (.c (.bool false)))])
  .ret) .skip))
  (.seq (.seq (.region [1, 2, 3, 8, 9, 10, 11, 12, 13, 14, 77] [qI 73 (.mv (.t 12)), qI 74 (.mv (.t 2)), eI 75 (.call 14 [(.t 74)]), eI 76 (.call 16 [(.t 73), (.t 75)]), qI 77 (.un .not (.t 76))])
  (.cond (.t 77) (.seq (.region [6] [qI 6 (.mv (.c (.bool false)))])
  .ret) .skip))
  (.seq (.region [1, 2, 3, 8, 9, 10, 11, 12, 13, 14, 15] [qI 15 (.mv (.c (.int .i64 1)))])
  (.seq (.region [1, 2, 3, 8, 9, 11, 12, 13, 14, 15] [qI 78 (.load true 3 (.t 10)), qI 79 (.mv (.t 15)), eI 80 (.call 34 [(.t 78), (.t 79)]), qI 15 (.mv (.t 80))])
  (.seq (.region [1, 2, 3, 8, 9, 12, 13, 14, 15] [qI 81 (.mv (.t 11)), qI 82 (.mv (.t 15)), eI 83 (.call 19 [(.t 81), (.t 82)]), qI 15 (.mv (.t 83))])
  (.seq (.region [1, 2, 3, 8, 9, 13, 14, 15] [qI 84 (.mv (.t 12)), qI 85 (.mv (.t 15)), eI 86 (.call 19 [(.t 84), (.t 85)]), qI 15 (.mv (.t 86))])
  (.seq (.seq (.region [1, 2, 3, 8, 9, 13, 99] [qI 87 (.mv (.t 15)), qI 88 (.bin .lss .other (.t 87) (.c (.int .i64 0))), qI 89 (.mv (.t 88)), ⟨(some 90), .mv (.t 13), true, (some (89, false))⟩, ⟨(some 91), .mv (.t 8), true, (some (89, false))⟩, ⟨(some 92), .call 16 [(.t 90), (.t 91)], false, (some (89, false))⟩, ⟨(some 93), .un .not (.t 92), true, (some (89, false))⟩, qI 94 (.pick (.t 89) (.c (.bool true)) (.t 93)), qI 95 (.mv (.t 94)), ⟨(some 96), .mv (.t 14), true, (some (95, false))⟩, ⟨(some 97), .mv (.t 9), true, (some (95, false))⟩, ⟨(some 98), .bin .neq .other (.t 96) (.t 97), true, (some (95, false))⟩, qI 99 (.pick (.t 95) (.c (.bool true)) (.t 98))])
  (.cond (.t 99) (.seq (.region [6] [qI 6 (.mv (.c (.bool false)))])
  .ret) .skip))
  (.seq (.region [1, 2, 3, 8, 9, 13, 16] [qI 16 (.mv (.c (.int .i64 1)))])
  (.seq (.region [1, 2, 3, 8, 9, 13, 16] [qI 100 (.mv (.t 13)), qI 101 (.mv (.t 16)), eI 102 (.call 19 [(.t 100), (.t 101)]), qI 16 (.mv (.t 102))])
  (.seq (.region [1, 2, 3, 8, 9, 13, 16, 17] [qI 17 (.mv (.c (.int .i64 1)))])
  (.seq (.region [1, 2, 3, 8, 9, 13, 16, 17] [qI 103 (.mv (.t 13)), qI 104 (.mv (.t 17)), eI 105 (.call 20 [(.t 103), (.t 104)]), qI 17 (.mv (.t 105))])
  (.seq (.seq (.region [1, 2, 3, 8, 9, 13, 16, 17, 107] [qI 106 (.mv (.t 17)), qI 107 (.bin .lss .other (.t 106) (.c (.int .i64 0)))])
  (.cond (.t 107) (.seq (.region [6] [qI 6 (.mv (.c (.bool false)))])
  .ret) .skip))
  (.seq (.seq (.region [1, 2, 3, 8, 9, 13, 16, 110] [qI 108 (.mv (.t 17)), qI 109 (.mv (.t 16)), qI 110 (.bin .neq .other (.t 108) (.t 109))])
  (.cond (.t 110) (.seq (.region [6] [qI 6 (.mv (.c (.bool false)))])
  .ret) .skip))
  (.seq (.region [8, 9, 13, 16, 18, 19] [qI 112 (.load true 3 (.t 3)), eI 113 (.call 27 [(.t 112)]), qI 114 (.mv (.t 1)), eI 115 (.call 14 [(.t 114)]), qI 116 (.mv (.t 2)), eI 117 (.call 14 [(.t 116)]), eI 118 (.call 36 [(.t 113), (.t 115), (.t 117)]), qI 111 (.mv (.t 118)), qI 119 (.extract (.t 111) 0), qI 120 (.extract (.t 111) 1), qI 18 (.mv (.t 119)), qI 19 (.mv (.t 120))])
  (.seq (.seq (.region [13, 16, 129] [qI 121 (.mv (.t 18)), qI 122 (.mv (.t 8)), eI 123 (.call 16 [(.t 121), (.t 122)]), qI 124 (.un .not (.t 123)), qI 125 (.mv (.t 124)), ⟨(some 126), .mv (.t 19), true, (some (125, false))⟩, ⟨(some 127), .mv (.t 9), true, (some (125, false))⟩, ⟨(some 128), .bin .neq .other (.t 126) (.t 127), true, (some (125, false))⟩, qI 129 (.pick (.t 125) (.c (.bool true)) (.t 128))])
  (.cond (.t 129) (.seq (.region [6] [qI 6 (.mv (.c (.bool false)))])
  .ret) .skip))
  (.seq (.region [13, 16, 17] [qI 17 (.mv (.c (.int .i64 1)))])
  (.seq (.region [16, 17] [qI 130 (.mv (.t 13)), qI 131 (.mv (.t 17)), eI 132 (.call 20 [(.t 130), (.t 131)]), qI 17 (.mv (.t 132))])
  (.seq (.seq (.region [16, 17, 134] [qI 133 (.mv (.t 17)), qI 134 (.bin .lss .other (.t 133) (.c (.int .i64 0)))])
  (.cond (.t 134) (.seq (.region [6] [qI 6 (.mv (.c (.bool false)))])
  .ret) .skip))
  (.seq (.seq (.region [137] [qI 135 (.mv (.t 17)), qI 136 (.mv (.t 16)), qI 137 (.bin .neq .other (.t 135) (.t 136))])
  (.cond (.t 137) (.seq (.region [6] [qI 6 (.mv (.c (.bool false)))])
  .ret) .skip))
  (.seq (.region [6] [qI 6 (.mv (.c (.bool true)))])
  .ret)))))))))))))))))))))))))))))))))⟩
theorem cf9 : cF Try.prog Try.f9 = some if9 := by kernel_rfl
end Go.Proofs
