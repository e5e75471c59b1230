/- What stays when a source has handed out numbers; drawn primes, combinations and elements. -/
import Derived.Test.YtpcjbkbcaiphmaaGreatAP29
import Derived.Test.YtpcjbkbcaiphmaaGreatAAbPn
import Derived.Test.YtpcjbkbcaiphmaaGreatAP33
import Derived.Test.YtpcjbkbcaiphmaaGreatAP30
import Derived.Test.YtpcjbkbcaiphmaaGreatAAbPa
import Derived.Test.YtpcjbkbcaiphmaaGreatAAbPz
open Nat renaming reduceLeDiff → nQ7, reduceEqDiff → nQ10, reduceBEq → nQ11, reduceAdd → nQ12, reduceLT → nQ16, reduceSub → nQ17, reduceMul → nQ18
open Int renaming reduceEq → iQ2, reduceLT → iQ3, reduceLE → iQ4, reduceNeg → iQ5, reduceToNat → iQ6, ofNat_le → iQ7
open List renaming reduceReplicate → lQ19, getElem?_drop → lQ20
set_option linter.unusedSimpArgs false
set_option linter.unusedVariables false
namespace Go.Proofs
open Go.Ab Go.Lie
variable {σ : PHeap} {K : PV → PHeap → Prop} {p p' : Int} {n : Nat} {W : List (List Int)} {B : List (List (List Int))} {vP vB vL vU vV : PV} {s : Nat}
theorem PCalls.fzITx {P : Program} {f : FuncId} {args : List PV} {D : List Int → Prop} (c : ∀ K' : PV → PHeap → Prop, (∀ z, D z → ResI σ K' z) → PCalls P f args σ K') (k : ∀ z v t, D z → FI v z → Own σ.top t v → σ.top ≤ t → K v (σ.up t)) : PCalls P f args σ K :=
  PCalls.gh (c _ fun z hz => ⟨fun h0 => by subst h0; exact Gh.ret (k _ _ σ.top hz ⟨true, .nils, rfl⟩ (Own.empty _ _ _ _ _) (Nat.le_refl _)), fun cap hc => Gh.own (keep_new σ _) (by simp [PHeap.new]) (Nat.le_refl _) (pis_bel _ _) hc.ok (Owns.pis _ _ _) fun o t h1 h2 => k _ _ t hz ⟨true, _, rfl⟩ h1 h2⟩)
theorem divideLie_res {l : Nat} {w : Bool} {av : AV} {k : Int} {x : List Int} (hs : PtrR σ s p vP vB) (hP : FII vP W) (o : OkW p n W) (hpow : ipow p n ≤ 729) (hx : El p n x) (hl : l = x.length)
    (hk : ∀ z, DivL p n W k x z → ResI σ K z) : PCalls Tryz.prog 110 [.ptr s 0, .fz w av l (pis x), .int .i64 k] σ K := by
  have hn6 := o.le
  have hpr := o.pr
  have hxl := hx.1
  have hp0 : σ.rd1 s 0 = some (.int .i64 p) := by rw [obj_rd1 hs.obj]; rfl
  subst hl
  refine pcalls_of_vp mix Tryz.func110 cf110 rfl ?_
  dsimp only [if110, qI, eI, nI, qD, eD]
  simp only [pwA, if_true, if_false, eq_self, nm_eq, reduceCtorEq, ↓reduceIte, nQ10, nQ7, nQ11, nQ12, nQ16, nQ17, nQ18, iQ2, iQ3, iQ4, iQ5, iQ6, lQ19, iQ7, lQ20]
  refine isZero_ok rfl (by omega) ?_
  by_cases hz : isZ x
  · simp only [pwA, if_true, if_false, eq_self, nm_eq, reduceCtorEq, ↓reduceIte, nQ10, nQ7, nQ11, nQ12, nQ16, nQ17, nQ18, iQ2, iQ3, iQ4, iQ5, iQ6, lQ19, iQ7, lQ20, hz, decide_true]
    have hd : DivL p n W k x x := ⟨hx, fun _ => rfl, fun _ => by
      refine Eqv.of_eq fun j => ?_
      rw [isZ_at hz, Int.mul_zero]⟩
    refine Clone_ok rfl (by omega) ⟨fun h0 => ?_, fun cap hc => ?_⟩
    · simp only [pwA, if_true, if_false, eq_self, nm_eq, reduceCtorEq, ↓reduceIte, nQ10, nQ7, nQ11, nQ12, nQ16, nQ17, nQ18, iQ2, iQ3, iQ4, iQ5, iQ6, lQ19, iQ7, lQ20]
      exact (hk x hd).1 h0
    · simp only [pwA, if_true, if_false, eq_self, nm_eq, reduceCtorEq, ↓reduceIte, nQ10, nQ7, nQ11, nQ12, nQ16, nQ17, nQ18, iQ2, iQ3, iQ4, iQ5, iQ6, lQ19, iQ7, lQ20]
      exact (hk x hd).2 cap hc
  · have hn : 0 < n := by
      rcases Nat.eq_zero_or_pos n with h | h
      · exact absurd (by rw [List.eq_nil_of_length_eq_zero (hxl.trans h)]; intro y hy; cases hy) hz
      · exact h
    have hm1 : 2 ≤ ipow p n := by
      obtain ⟨n', rfl⟩ : ∃ n', n = n' + 1 := ⟨n - 1, by omega⟩
      have h1 : ∀ k : Nat, 1 ≤ ipow p k := fun k => by
        induction k with
        | zero => simp [ipow]
        | succ k ih =>
          have := Int.mul_le_mul_of_nonneg_left (show (1 : Int) ≤ p by have := hpr.1; omega) (show 0 ≤ ipow p k by omega)
          rw [ipow]; omega
      have := Int.mul_le_mul_of_nonneg_left (show (2 : Int) ≤ p from hpr.1) (show 0 ≤ ipow p n' by have := h1 n'; omega)
      have := h1 n'
      rw [ipow]; omega
    simp only [pwA, if_true, if_false, eq_self, nm_eq, reduceCtorEq, ↓reduceIte, nQ10, nQ7, nQ11, nQ12, nQ16, nQ17, nQ18, iQ2, iQ3, iQ4, iQ5, iQ6, lQ19, iQ7, lQ20, hz, decide_false, hp0, hxl]
    refine integerPower_ok hpr hn6 ?_
    simp only [pwA, if_true, if_false, eq_self, nm_eq, reduceCtorEq, ↓reduceIte, nQ10, nQ7, nQ11, nQ12, nQ16, nQ17, nQ18, iQ2, iQ3, iQ4, iQ5, iQ6, lQ19, iQ7, lQ20]
    refine residue_ok (by omega) (by omega) ?_
    simp only [pwA, if_true, if_false, eq_self, nm_eq, reduceCtorEq, ↓reduceIte, nQ10, nQ7, nQ11, nQ12, nQ16, nQ17, nQ18, iQ2, iQ3, iQ4, iQ5, iQ6, lQ19, iQ7, lQ20]
    refine inverseG_ok (Int.emod_nonneg _ (by omega)) (Int.emod_lt_of_pos _ (by omega)) (by omega) fun y yb h1 h2 h3 => ?_
    simp only [pwA, if_true, if_false, eq_self, nm_eq, reduceCtorEq, ↓reduceIte, nQ10, nQ7, nQ11, nQ12, nQ16, nQ17, nQ18, iQ2, iQ3, iQ4, iQ5, iQ6, lQ19, iQ7, lQ20]
    have hd : DivL p n W k x (lmul p W y x) := DivL.mk' o hx hz (m := ipow p n) (by
      rw [ipow_pw]
      exact kill_all o fun j hj => hx.beyond hj) fun hc => by
        obtain ⟨z, w', hzw⟩ := cop_inv hc hn
        rw [← ipow_pw] at hzw
        have em := Int.mul_ediv_add_emod k (ipow p n)
        obtain ⟨t, ht⟩ := h3 ⟨z, w' - k / ipow p n * z, by grind⟩
        exact ⟨t + k / ipow p n * y, by grind⟩
    refine timesLie_ok hs hP o hx hxl.symm (by omega) ⟨fun h0 => ?_, fun cap hc => ?_⟩
    · simp only [pwA, if_true, if_false, eq_self, nm_eq, reduceCtorEq, ↓reduceIte, nQ10, nQ7, nQ11, nQ12, nQ16, nQ17, nQ18, iQ2, iQ3, iQ4, iQ5, iQ6, lQ19, iQ7, lQ20]
      exact (hk _ hd).1 h0
    · simp only [pwA, if_true, if_false, eq_self, nm_eq, reduceCtorEq, ↓reduceIte, nQ10, nQ7, nQ11, nQ12, nQ16, nQ17, nQ18, iQ2, iQ3, iQ4, iQ5, iQ6, lQ19, iQ7, lQ20]
      exact (hk _ hd).2 cap hc
theorem cop_of_mod {k : Int} (hp : isP p) (h : k % p ≠ 0) : Cop p k := by
  have hb := hp.bd
  have h1 := Int.emod_nonneg k (show p ≠ 0 by omega)
  have h2 := Int.emod_lt_of_pos k (show 0 < p by omega)
  obtain ⟨e, e1, e2, e3⟩ := inv_ex (p := p) (a := k % p) hp (by omega) h2
  have h4 := Int.mul_ediv_add_emod k p
  have h5 := Int.mul_ediv_add_emod (k % p * e) p
  rw [e3] at h5
  exact ⟨e, k % p * e / p + k / p * e, by grind⟩
theorem CodeL.zero {xs : List (List Int)} (h : CodeL p W B xs 0) : (isLie p W B ∧ Els p W.length xs) ∧ isLz p W.length W B := by
  rcases h with ⟨_, h⟩ | ⟨_, _, h⟩ | ⟨h1, h2, _⟩
  · omega
  · omega
  · exact ⟨h1, h2⟩
theorem one_row {v : PV} {x : List Int} {w : Bool} {a : AV} (hx : FI v x) : FII (.fz w a 1 [v]) [x] := ⟨w, a, [v], rfl, by simpa using (All2.nil _).snoc hx⟩
theorem two_row {v u : PV} {x y : List Int} {w : Bool} {a : AV} (hx : FI v x) (hy : FI u y) : FII (.fz w a 2 [v, u]) [x, y] := ⟨w, a, [v, u], rfl, by simpa using ((All2.nil _).snoc hx).snoc hy⟩
theorem SzL.one {x : List Int} (h : x.length ≤ 1048576) : SzL [x] := ⟨by simp, fun y hy => by rw [List.mem_singleton.1 hy]; exact h⟩
theorem SzL.two {x y : List Int} (h : x.length ≤ 1048576) (g : y.length ≤ 1048576) : SzL [x, y] := ⟨by simp, fun z hz => by simp at hz; rcases hz with rfl | rfl <;> assumption⟩
end Go.Proofs
namespace Go.Proofs
open Go.Ab Go.Lie
variable {p : Int} {n : Nat} {W : List (List Int)} {B : List (List (List Int))} {c k : Nat} {f g : Vec}
def Lw (p : Int) (n : Nat) (W : List (List Int)) (B : List (List (List Int))) (k : Nat) (f : Vec) : Prop := ∃ u, Low p n W B k u ∧ Gen p n W u f
structure Rg (p : Int) (n : Nat) (W : List (List Int)) (B : List (List (List Int))) (c : Nat) : Prop where
  o : OkW p n W
  q : OkB p n B
  nf : NoFault p W B n
  cls : Cls p n W B c
theorem low_down : ∀ {m : Nat} {u : List (List Int)}, Low p n W B m u → ∀ k, k ≤ m → ∃ v, Low p n W B k v
  | 0, u, h, k, hk => by
    have : k = 0 := by omega
    subst this; exact ⟨u, h⟩
  | m + 1, u, h, k, hk => by
    by_cases e : k = m + 1
    · subst e; exact ⟨u, h⟩
    · cases h with
      | succ h hc => exact low_down h k (by omega)
theorem Rg.low (r : Rg p n W B c) (k : Nat) : ∃ u, Low p n W B k u := by
  rcases Nat.le_total k c with x | x
  · exact low_down r.cls.1 k x
  · obtain ⟨u, ⟨h, _⟩ | h⟩ := cls_low r.o r.q r.cls k
    · exact ⟨u, h⟩
    · exact ⟨[], by omega⟩
theorem Rg.sub (r : Rg p n W B c) (k : Nat) : IsSub p n W (Lw p n W B k) := by
  obtain ⟨u, hu⟩ := r.low k
  have hs := gen_sub (p := p) (n := n) (W := W) u
  have e : ∀ {f : Vec}, Lw p n W B k f → Gen p n W u f := fun {f} ⟨v, hv, hg⟩ => by rw [hu.unique r.o hv]; exact hg
  exact ⟨⟨u, hu, hs.zero⟩, fun f g a b => ⟨u, hu, hs.add _ _ (e a) (e b)⟩, fun k f a => ⟨u, hu, hs.mul _ _ (e a)⟩, fun f g a b => ⟨u, hu, hs.eqv _ _ a (e b)⟩⟩
theorem Rg.all (r : Rg p n W B c) {x : List Int} (hx : El p n x) : Lw p n W B 0 (at_ x) := ⟨_, .zero, gen_units r.o hx⟩
theorem Rg.brk (r : Rg p n W B c) (hf : Lw p n W B k f) (g : Vec) : Lw p n W B (k + 1) (brv B n f g) := by
  obtain ⟨u, hu, hg⟩ := hf
  obtain ⟨v, hv⟩ := r.low (k + 1)
  cases hv with
  | succ h hc =>
    rw [h.unique r.o hu] at hc
    exact ⟨v, .succ hu hc, low_gen r.o r.q r.nf hc hg g⟩
theorem Rg.brk2 (r : Rg p n W B c) (hg : Lw p n W B k g) (f : Vec) : Lw p n W B (k + 1) (brv B n f g) :=
  (r.sub _).eqv _ _ (Eqv.of_eq fun t => brv_anti f g t) ((r.sub _).mul (-1) _ (r.brk hg f))
theorem Rg.top (r : Rg p n W B c) (hk : c ≤ k) (hf : Lw p n W B k f) : Eqv p n W f fun _ => 0 := by
  obtain ⟨u, hu, hg⟩ := hf
  obtain ⟨v, ⟨hv, h0⟩ | h⟩ := cls_low r.o r.q r.cls k
  · rw [hu.unique r.o hv, h0 hk] at hg
    exact gen_nil hg
  · omega
theorem Rg.down (r : Rg p n W B c) : ∀ {k : Nat} {f : Vec}, Lw p n W B (k + 1) f → Lw p n W B k f
  | 0, f, ⟨u, hu, hg⟩ => ⟨_, .zero, gen_mono (fun v hv => gen_units r.o ((hu.els r.o).1 v hv)) hg⟩
  | k + 1, f, ⟨u, hu, hg⟩ => by
    cases hu with
    | succ h hc =>
      rename_i w
      refine gen_le (r.sub (k + 1)) (fun v hv => ?_) ((hc.gen f).2 hg)
      obtain ⟨x, hx, hv⟩ := List.mem_flatMap.1 hv
      obtain ⟨e, he, rfl⟩ := List.mem_map.1 hv
      exact (r.sub _).eqv _ _ (br_eqv r.o r.q x e) (r.brk (r.down ⟨w, h, gen_mem hx⟩) (at_ e))
theorem Rg.le (r : Rg p n W B c) {j k : Nat} (h : j ≤ k) {f : Vec} (hf : Lw p n W B k f) : Lw p n W B j f := by
  induction k with
  | zero => have : j = 0 := by omega
            subst this; exact hf
  | succ k ih =>
    by_cases e : j = k + 1
    · subst e; exact hf
    · exact ih (by omega) (r.down hf)
theorem Rg.zero (r : Rg p n W B c) (hk : c ≤ k) {z : List Int} (hz : El p n z) (hf : Lw p n W B k (at_ z)) : isZ z := zero_of_eqv r.o hz (r.top hk hf)
theorem Rg.bL (r : Rg p n W B c) {x y : List Int} (hf : Lw p n W B k (at_ x)) : Lw p n W B (k + 1) (at_ (br p W B n x y)) := (r.sub _).eqv _ _ (br_eqv r.o r.q x y) (r.brk hf _)
theorem Rg.bR (r : Rg p n W B c) {x y : List Int} (hf : Lw p n W B k (at_ y)) : Lw p n W B (k + 1) (at_ (br p W B n x y)) := (r.sub _).eqv _ _ (br_eqv r.o r.q x y) (r.brk2 hf _)
theorem Rg.addL (r : Rg p n W B c) {x y : List Int} (hx : El p n x) (hy : El p n y) (h1 : Lw p n W B k (at_ x)) (h2 : Lw p n W B k (at_ y)) : Lw p n W B k (at_ (ladd p W x y)) := (r.sub _).eqv _ _ (ladd_eqv r.o hx hy) ((r.sub _).add _ _ h1 h2)
theorem Rg.mulL (r : Rg p n W B c) {x : List Int} (hx : El p n x) (m : Int) (h1 : Lw p n W B k (at_ x)) : Lw p n W B k (at_ (lmul p W m x)) := (r.sub _).eqv _ _ (lmul_eqv r.o hx m) ((r.sub _).mul m _ h1)
def third3 (p : Int) (W : List (List Int)) (B : List (List (List Int))) (n : Nat) (x y : List Int) : List Int := ladd p W (br p W B n x (br p W B n x y)) (br p W B n y (lmul p W (-1) (br p W B n x y)))
theorem third_el (o : OkW p n W) (q : OkB p n B) {x y : List Int} : El p n (third3 p W B n x y) := lmix_el o (br_el o q) (br_el o q)
theorem Rg.thd (r : Rg p n W B c) {x y : List Int} (hf : Lw p n W B k (at_ (br p W B n x y))) : Lw p n W B (k + 1) (at_ (third3 p W B n x y)) :=
  r.addL (br_el r.o r.q) (br_el r.o r.q) (r.bR hf) (r.bR (r.mulL (br_el r.o r.q) (-1) hf))
theorem cop_two {p : Int} (hp : isP p) (h : p ≠ 2) : Cop p 2 ∧ Cop p (-2) := by
  rcases hp with rfl | rfl | rfl | rfl
  · exact absurd rfl h
  · exact ⟨⟨2, 1, by decide⟩, ⟨1, -1, by decide⟩⟩
  · exact ⟨⟨3, 1, by decide⟩, ⟨2, -1, by decide⟩⟩
  · exact ⟨⟨4, 1, by decide⟩, ⟨3, -1, by decide⟩⟩
theorem cop_twelve {p : Int} (hp : isP p) (h : p ≠ 2) (h3 : p ≠ 3) : Cop p 12 ∧ Cop p (-12) := by
  rcases hp with rfl | rfl | rfl | rfl
  · exact absurd rfl h
  · exact absurd rfl h3
  · exact ⟨⟨3, 7, by decide⟩, ⟨2, -5, by decide⟩⟩
  · exact ⟨⟨3, 5, by decide⟩, ⟨4, -7, by decide⟩⟩
theorem Rg.two (r : Rg p n W B c) (hp : isP p) (hc : (c : Int) < p) {z : List Int} (hz : El p n z) (h : Lw p n W B 1 (at_ z)) : isZ z ∨ (Cop p 2 ∧ Cop p (-2)) := by
  by_cases h2 : p = 2
  · exact .inl (r.zero (by omega) hz h)
  · exact .inr (cop_two hp h2)
theorem Rg.twelve (r : Rg p n W B c) (hp : isP p) (hc : (c : Int) < p) {z : List Int} (hz : El p n z) (h : Lw p n W B 2 (at_ z)) : isZ z ∨ (Cop p 12 ∧ Cop p (-12)) := by
  by_cases h2 : p = 2
  · exact .inl (r.zero (by omega) hz h)
  · by_cases h3 : p = 3
    · exact .inl (r.zero (by omega) hz h)
    · exact .inr (cop_twelve hp h2 h3)
noncomputable def dv (p : Int) (n : Nat) (W : List (List Int)) (k : Int) (x : List Int) : List Int := Classical.epsilon (DivL p n W k x)
theorem dv_eq (o : OkW p n W) {k : Int} {x z : List Int} (hx : El p n x) (h : DivL p n W k x z) (hk : isZ x ∨ Cop p k) : z = dv p n W k x :=
  h.unique o hx (Classical.epsilon_spec ⟨z, h⟩) hk
theorem div_ex (o : OkW p n W) {k : Int} {x : List Int} (hx : El p n x) : ∃ z, DivL p n W k x z := by
  by_cases hz : isZ x
  · exact ⟨x, hx, fun _ => rfl, fun _ => Eqv.of_eq fun j => by rw [isZ_at hz, Int.mul_zero]⟩
  · by_cases hc : Cop p k
    · have hn : 0 < n := by
        rcases Nat.eq_zero_or_pos n with h | h
        · exact absurd (by rw [List.eq_nil_of_length_eq_zero (hx.1.trans h)]; intro y hy; cases hy) hz
        · exact h
      obtain ⟨y, w, hy⟩ := cop_inv hc hn
      exact ⟨_, DivL.mk' o hx hz (y := y) (kill_all o fun j hj => hx.beyond hj) fun _ => ⟨w, hy⟩⟩
    · exact ⟨x, hx, fun h => absurd h hz, fun h => absurd h hc⟩
theorem dv_spec (o : OkW p n W) {k : Int} {x : List Int} (hx : El p n x) : DivL p n W k x (dv p n W k x) := Classical.epsilon_spec (div_ex o hx)
theorem dv_el (o : OkW p n W) {k : Int} {x : List Int} (hx : El p n x) : El p n (dv p n W k x) := (dv_spec o hx).el
theorem div_in (o : OkW p n W) {S : Vec → Prop} (hs : IsSub p n W S) {k : Int} {x z : List Int} (h : DivL p n W k x z) (hk : isZ x ∨ Cop p k) (hx : S (at_ x)) : S (at_ z) := by
  rcases hk with hz | hc
  · rw [h.nil hz]; exact hx
  · rcases Nat.eq_zero_or_pos n with hn | hn
    · refine hs.eqv _ _ (Eqv.of_eq fun j => ?_) hs.zero
      exact h.el.beyond (by omega)
    · obtain ⟨a, w, ha⟩ := cop_inv (p := p) hc hn
      have k1 := (kill_all o (f := at_ z) (fun j hj => h.el.beyond hj)).mul w
      have k2 := (Eqv.refl (p := p) (n := n) (W := W) (at_ z)).add k1
      refine hs.eqv _ _ ?_ (hs.mul a _ hx)
      refine (((Eqv.of_eq fun j => ?_).trans k2.symm).trans (Eqv.of_eq fun j => ?_)).trans ((h.eqv hc).mul a)
      · omega
      · grind
noncomputable def bch (p : Int) (n : Nat) (W : List (List Int)) (B : List (List (List Int))) (x y : List Int) : List Int :=
  ladd p W (ladd p W (ladd p W x y) (dv p n W 2 (br p W B n x y))) (dv p n W 12 (third3 p W B n x y))
theorem bch_el (o : OkW p n W) (q : OkB p n B) {x y : List Int} (hx : El p n x) (hy : El p n y) : El p n (bch p n W B x y) :=
  lmix_el o (lmix_el o (lmix_el o hx hy) (dv_el o (br_el o q))) (dv_el o (third_el o q))
noncomputable def fold (p : Int) (n : Nat) (W : List (List Int)) (B : List (List (List Int))) (xs : List (List Int)) : List Int := xs.foldl (bch p n W B) (List.replicate n 0)
theorem fold_snoc (xs : List (List Int)) {i : Nat} (hi : i < xs.length) : fold p n W B (xs.take (i + 1)) = bch p n W B (fold p n W B (xs.take i)) xs[i] := by
  unfold fold
  rw [List.take_succ_eq_append_getElem hi, List.foldl_append]
  rfl
theorem fold_el (o : OkW p n W) (q : OkB p n B) : ∀ {xs : List (List Int)}, Els p n xs → El p n (fold p n W B xs) := by
  have : ∀ (xs : List (List Int)) (a : List Int), Els p n xs → El p n a → El p n (xs.foldl (bch p n W B) a) := by
    intro xs
    induction xs with
    | nil => exact fun a _ ha => ha
    | cons x xs ih => exact fun a hx ha => ih _ (fun y hy => hx y (by simp [hy])) (bch_el o q ha (hx x (by simp)))
  exact fun {xs} h => this xs _ h (rep_el o.pr)
noncomputable def comm (p : Int) (n : Nat) (W : List (List Int)) (B : List (List (List Int))) (x y : List Int) : List Int := fold p n W B [lmul p W (-1) x, lmul p W (-1) y, x, y]
theorem Rg.brD (r : Rg p n W B c) {x y : List Int} (hx : El p n x) : Lw p n W B 1 (at_ (br p W B n x y)) := r.bL (r.all hx)
theorem Rg.of_lie (hl : isLie p W B) (hz : isLz p W.length W B) : ∃ c, Rg p W.length W B c ∧ (c : Int) < p := by
  obtain ⟨c, hc, hp⟩ := hz
  exact ⟨c, ⟨hl.1.w, hl.1.b, hl.2, hc⟩, hp⟩
end Go.Proofs
namespace Go.Proofs
open Go.Ab Go.Lie
variable {σ : PHeap} {K : PV → PHeap → Prop} {p : Int} {n c : Nat} {W : List (List Int)} {B : List (List (List Int))} {vP vB vL : PV} {s : Nat} {x y : List Int} {vx vy : PV}
structure Lz (p : Int) (n : Nat) (W : List (List Int)) (B : List (List (List Int))) (c : Nat) : Prop where
  r : Rg p n W B c
  hp : isP p
  hc : (c : Int) < p
  pow : ipow p n ≤ 729
theorem Lz.of (hl : isLie p W B) (hz : isLz p W.length W B) : ∃ c, Lz p W.length W B c := by
  obtain ⟨c, r, hc⟩ := Rg.of_lie hl hz
  exact ⟨c, r, hl.1.1, hc, hl.1.2.2.2.1⟩
theorem Lz.d2 (z : Lz p n W B c) (hx : El p n x) : isZ (br p W B n x y) ∨ Cop p 2 := (z.r.two z.hp z.hc (br_el z.r.o z.r.q) (z.r.brD hx)).imp id (·.1)
theorem Lz.d12 (z : Lz p n W B c) (hx : El p n x) : isZ (third3 p W B n x y) ∨ Cop p 12 := (z.r.twelve z.hp z.hc (third_el z.r.o z.r.q) (z.r.thd (z.r.brD hx))).imp id (·.1)
theorem bchTerms_T (z : Lz p n W B c) (hs : PtrR σ s p vP vB) (hR : IsR vP vB W B) (hx : El p n x) (hy : El p n y) (hvx : FI vx x) (hvy : FI vy y)
    (hk : ∀ a v1 v2 v3 t, FI v1 (ladd p W x y) → FI v2 (dv p n W 2 (br p W B n x y)) → FI v3 (dv p n W 12 (third3 p W B n x y)) → Own σ.top t (.fz true a 3 [v1, v2, v3]) → σ.top ≤ t → K (.fz true a 3 [v1, v2, v3]) (σ.up t)) :
    PCalls Tryz.prog 111 [.ptr s 0, vx, vy] σ K := by
  have o := z.r.o
  have q := z.r.q
  have hxl := hx.1
  have hyl := hy.1
  obtain ⟨wx, ax, rfl⟩ := hvx
  obtain ⟨wy, ay, rfl⟩ := hvy
  refine PCalls.gh ?_
  have bel := br_el o q (a := x) (b := y)
  refine pcalls_of_vp mix Tryz.func111 cf111 rfl ?_
  dsimp only [if111, qI, eI, nI, qD, eD]
  simp only [pwA, if_true, if_false, eq_self, nm_eq, reduceCtorEq, ↓reduceIte, nQ10, nQ7, nQ11, nQ12, nQ16, nQ17, nQ18, iQ2, iQ3, iQ4, iQ5, iQ6, lQ19, iQ7, lQ20]
  refine bracket_fz hs hR o q hx hy rfl rfl fun v1 => ?_
  simp only [pwA, if_true, if_false, eq_self, nm_eq, reduceCtorEq, ↓reduceIte, nQ10, nQ7, nQ11, nQ12, nQ16, nQ17, nQ18, iQ2, iQ3, iQ4, iQ5, iQ6, lQ19, iQ7, lQ20]
  refine bracket_fz hs hR o q hx bel rfl bel.1.symm fun v2 => ?_
  simp only [pwA, if_true, if_false, eq_self, nm_eq, reduceCtorEq, ↓reduceIte, nQ10, nQ7, nQ11, nQ12, nQ16, nQ17, nQ18, iQ2, iQ3, iQ4, iQ5, iQ6, lQ19, iQ7, lQ20]
  refine timesLie_fz hs hR.P o bel bel.1.symm (by decide) fun v3 => ?_
  have m1 : El p n (lmul p W (-1) (br p W B n x y)) := lmix_el o bel bel
  simp only [pwA, if_true, if_false, eq_self, nm_eq, reduceCtorEq, ↓reduceIte, nQ10, nQ7, nQ11, nQ12, nQ16, nQ17, nQ18, iQ2, iQ3, iQ4, iQ5, iQ6, lQ19, iQ7, lQ20]
  refine bracket_fz hs hR o q hy m1 rfl m1.1.symm fun v4 => ?_
  simp only [pwA, if_true, if_false, eq_self, nm_eq, reduceCtorEq, ↓reduceIte, nQ10, nQ7, nQ11, nQ12, nQ16, nQ17, nQ18, iQ2, iQ3, iQ4, iQ5, iQ6, lQ19, iQ7, lQ20]
  have e2 : El p n (br p W B n x (br p W B n x y)) := br_el o q
  have e4 : El p n (br p W B n y (lmul p W (-1) (br p W B n x y))) := br_el o q
  refine addLie_fz hs hR.P o e2 e4 e2.1.symm e4.1.symm fun v5 => ?_
  simp only [pwA, if_true, if_false, eq_self, nm_eq, reduceCtorEq, ↓reduceIte, nQ10, nQ7, nQ11, nQ12, nQ16, nQ17, nQ18, iQ2, iQ3, iQ4, iQ5, iQ6, lQ19, iQ7, lQ20]
  refine PCalls.fzIT (fun K' => addLie_ok hs hR.P o hx hy rfl rfl) fun w1 t1 f1 o1 ht1 => ?_
  have hs1 : PtrR (σ.up t1) s p vP vB := ⟨hs.obj, hs.lt⟩
  simp only [pwA, if_true, if_false, eq_self, nm_eq, reduceCtorEq, ↓reduceIte, nQ10, nQ7, nQ11, nQ12, nQ16, nQ17, nQ18, iQ2, iQ3, iQ4, iQ5, iQ6, lQ19, iQ7, lQ20]
  refine PCalls.fzITx (fun K' => divideLie_res hs1 hR.P o z.pow bel bel.1.symm) fun z2 w2 t2 d2 f2 o2 ht2 => ?_
  have hs2 : PtrR (σ.up t2) s p vP vB := ⟨hs.obj, hs.lt⟩
  simp only [pwA, if_true, if_false, eq_self, nm_eq, reduceCtorEq, ↓reduceIte, nQ10, nQ7, nQ11, nQ12, nQ16, nQ17, nQ18, iQ2, iQ3, iQ4, iQ5, iQ6, lQ19, iQ7, lQ20]
  have te := third_el o q (x := x) (y := y)
  refine PCalls.fzITx (fun K' => divideLie_res hs2 hR.P o z.pow (x := third3 p W B n x y) te te.1.symm) fun z3 w3 t3 d3 f3 o3 ht3 => ?_
  rw [dv_eq o bel d2 (z.d2 hx)] at f2
  rw [dv_eq o te d3 (z.d12 hx)] at f3
  simp only [ptop_up] at o2 ht2 o3 ht3
  simp only [pwA, if_true, if_false, eq_self, nm_eq, reduceCtorEq, ↓reduceIte, nQ10, nQ7, nQ11, nQ12, nQ16, nQ17, nQ18, iQ2, iQ3, iQ4, iQ5, iQ6, lQ19, iQ7, lQ20, f1.cells, f1.one, f2.cells, f2.one, f3.cells, f3.one]
  have hoo := (((Owns.nil σ.top σ.top).snoc o1 (Nat.le_refl _) ht1).snoc o2 ht1 ht2).snoc o3 (Nat.le_trans ht1 ht2) ht3
  exact Gh.own (cs := [w1, w2, w3]) ((Keep.refl σ).new _ |>.up (by simp only [ptop_new]; omega)) (by simp only [pwA, if_true, if_false, eq_self, nm_eq, reduceCtorEq, ↓reduceIte, nQ10, nQ7, nQ11, nQ12, nQ16, nQ17, nQ18, iQ2, iQ3, iQ4, iQ5, iQ6, lQ19, iQ7, lQ20]) (Nat.le_refl _) ⟨f1.bel 0, f2.bel 0, f3.bel 0, trivial⟩ (by simp [capOK]) (hoo.mono (Nat.le_refl _) (Nat.le_refl _)) fun o4 t4 h1 h2 => hk _ w1 w2 w3 t4 f1 f2 f3 h1 h2
theorem bchTerms_fz (z : Lz p n W B c) (hs : PtrR σ s p vP vB) (hR : IsR vP vB W B) (hx : El p n x) (hy : El p n y) (hvx : FI vx x) (hvy : FI vy y)
    (hk : ∀ a v1 v2 v3, FI v1 (ladd p W x y) → FI v2 (dv p n W 2 (br p W B n x y)) → FI v3 (dv p n W 12 (third3 p W B n x y)) → K (.fz true a 3 [v1, v2, v3]) σ) :
    PCalls Tryz.prog 111 [.ptr s 0, vx, vy] σ K :=
  PCalls.gh (bchTerms_T z hs hR hx hy hvx hvy fun a v1 v2 v3 t f1 f2 f3 _ ht => Gh.fin0 ((Keep.refl σ).up ht) trivial (hk a v1 v2 v3 f1 f2 f3))
theorem bch_ok (z : Lz p n W B c) (hs : PtrR σ s p vP vB) (hR : IsR vP vB W B) (hx : El p n x) (hy : El p n y) (hvx : FI vx x) (hvy : FI vy y) (hk : ResI σ K (bch p n W B x y)) :
    PCalls Tryz.prog 98 [.ptr s 0, vx, vy] σ K := by
  have o := z.r.o
  have q := z.r.q
  refine pcalls_of_vp mix Tryz.func98 cf98 rfl ?_
  dsimp only [if98, qI, eI, nI, qD, eD]
  simp only [pwA, if_true, if_false, eq_self, nm_eq, reduceCtorEq, ↓reduceIte, nQ10, nQ7, nQ11, nQ12, nQ16, nQ17, nQ18, iQ2, iQ3, iQ4, iQ5, iQ6, lQ19, iQ7, lQ20]
  refine bchTerms_fz z hs hR hx hy hvx hvy fun a v1 v2 v3 f1 f2 f3 => ?_
  obtain ⟨w1, a1, rfl⟩ := f1
  obtain ⟨w2, a2, rfl⟩ := f2
  obtain ⟨w3, a3, rfl⟩ := f3
  have e1 : El p n (ladd p W x y) := lmix_el o hx hy
  have e2 := dv_el o (k := 2) (br_el o q (a := x) (b := y))
  have e3 := dv_el o (k := 12) (third_el o q (x := x) (y := y))
  have e4 : El p n (ladd p W (ladd p W x y) (dv p n W 2 (br p W B n x y))) := lmix_el o e1 e2
  have c0 : (0 : Int) < ((3 : Nat) : Int) := by decide
  have c1 : (1 : Int) < ((3 : Nat) : Int) := by decide
  have c2 : (2 : Int) < ((3 : Nat) : Int) := by decide
  simp only [pwA, if_true, if_false, eq_self, nm_eq, reduceCtorEq, ↓reduceIte, nQ10, nQ7, nQ11, nQ12, nQ16, nQ17, nQ18, iQ2, iQ3, iQ4, iQ5, iQ6, lQ19, iQ7, lQ20, c0, c1, c2]
  refine addLie_fz hs hR.P o e1 e2 rfl rfl fun v4 => ?_
  simp only [pwA, if_true, if_false, eq_self, nm_eq, reduceCtorEq, ↓reduceIte, nQ10, nQ7, nQ11, nQ12, nQ16, nQ17, nQ18, iQ2, iQ3, iQ4, iQ5, iQ6, lQ19, iQ7, lQ20]
  refine addLie_ok hs hR.P o e4 e3 e4.1.symm rfl ⟨fun h0 => ?_, fun cap hc => ?_⟩
  · simp only [pwA, if_true, if_false, eq_self, nm_eq, reduceCtorEq, ↓reduceIte, nQ10, nQ7, nQ11, nQ12, nQ16, nQ17, nQ18, iQ2, iQ3, iQ4, iQ5, iQ6, lQ19, iQ7, lQ20]
    exact hk.1 h0
  · simp only [pwA, if_true, if_false, eq_self, nm_eq, reduceCtorEq, ↓reduceIte, nQ10, nQ7, nQ11, nQ12, nQ16, nQ17, nQ18, iQ2, iQ3, iQ4, iQ5, iQ6, lQ19, iQ7, lQ20]
    exact hk.2 cap hc
theorem l33Terms_fz (z : Lz p n W B c) (hR : IsR vP vB W B) (hx : El p n x) (hy : El p n y) (hvx : FI vx x) (hvy : FI vy y)
    (hk : ∀ a v1 v2 v3, FI v1 (ladd p W x y) → FI v2 (dv p n W 2 (br p W B n x y)) → FI v3 (dv p n W 12 (third3 p W B n x y)) → K (.fz true a 3 [v1, v2, v3]) σ) :
    PCalls Tryz.prog 113 [.agg [.int .i64 p, vP, vB], vx, vy] σ K := by
  have o := z.r.o
  have q := z.r.q
  have hxl := hx.1
  have hyl := hy.1
  have h1 := hR.P.one
  have h2 := hR.B.one
  obtain ⟨wx, ax, rfl⟩ := hvx
  obtain ⟨wy, ay, rfl⟩ := hvy
  refine PCalls.gh ?_
  have bel := br_el o q (a := x) (b := y)
  refine pcalls_of_vp mix Tryz.func113 cf113 rfl ?_
  dsimp only [if113, qI, eI, nI, qD, eD]
  simp only [pwA, if_true, if_false, eq_self, nm_eq, reduceCtorEq, ↓reduceIte, nQ10, nQ7, nQ11, nQ12, nQ16, nQ17, nQ18, iQ2, iQ3, iQ4, iQ5, iQ6, lQ19, iQ7, lQ20, h1, h2]
  refine l31Bracket_ok hR o q hx hy rfl rfl fun v1 => ?_
  simp only [pwA, if_true, if_false, eq_self, nm_eq, reduceCtorEq, ↓reduceIte, nQ10, nQ7, nQ11, nQ12, nQ16, nQ17, nQ18, iQ2, iQ3, iQ4, iQ5, iQ6, lQ19, iQ7, lQ20]
  refine l31Bracket_ok hR o q hx bel rfl bel.1.symm fun v2 => ?_
  simp only [pwA, if_true, if_false, eq_self, nm_eq, reduceCtorEq, ↓reduceIte, nQ10, nQ7, nQ11, nQ12, nQ16, nQ17, nQ18, iQ2, iQ3, iQ4, iQ5, iQ6, lQ19, iQ7, lQ20]
  refine l31Bracket_ok hR o q hy bel rfl bel.1.symm fun v3 => ?_
  simp only [pwA, if_true, if_false, eq_self, nm_eq, reduceCtorEq, ↓reduceIte, nQ10, nQ7, nQ11, nQ12, nQ16, nQ17, nQ18, iQ2, iQ3, iQ4, iQ5, iQ6, lQ19, iQ7, lQ20]
  have e2 : El p n (br p W B n x (br p W B n x y)) := br_el o q
  have e3 : El p n (br p W B n y (br p W B n x y)) := br_el o q
  refine l31Mix_el hR o e2 e3 e2.1.symm e3.1.symm (by decide) (by decide) fun v4 => ?_
  have te := third_el o q (x := x) (y := y)
  have hth := third o q z.r.nf (x := x) (y := y) bel
  rw [← hth]
  simp only [pwA, if_true, if_false, eq_self, nm_eq, reduceCtorEq, ↓reduceIte, nQ10, nQ7, nQ11, nQ12, nQ16, nQ17, nQ18, iQ2, iQ3, iQ4, iQ5, iQ6, lQ19, iQ7, lQ20]
  refine l31Mix_el hR o hx hy rfl rfl (by decide) (by decide) fun v5 => ?_
  simp only [pwA, if_true, if_false, eq_self, nm_eq, reduceCtorEq, ↓reduceIte, nQ10, nQ7, nQ11, nQ12, nQ16, nQ17, nQ18, iQ2, iQ3, iQ4, iQ5, iQ6, lQ19, iQ7, lQ20]
  refine l33Part_ok hR o z.pow bel bel.1.symm fun w6 v6 z2 d2 => ?_
  simp only [pwA, if_true, if_false, eq_self, nm_eq, reduceCtorEq, ↓reduceIte, nQ10, nQ7, nQ11, nQ12, nQ16, nQ17, nQ18, iQ2, iQ3, iQ4, iQ5, iQ6, lQ19, iQ7, lQ20]
  refine l33Part_ok hR o z.pow (x := third3 p W B n x y) te te.1.symm fun w7 v7 z3 d3 => ?_
  have hz2 := dv_eq o bel d2 (z.d2 hx)
  have hz3 := dv_eq o te d3 (z.d12 hx)
  subst hz2
  subst hz3
  simp only [pwA, if_true, if_false, eq_self, nm_eq, reduceCtorEq, ↓reduceIte, nQ10, nQ7, nQ11, nQ12, nQ16, nQ17, nQ18, iQ2, iQ3, iQ4, iQ5, iQ6, lQ19, iQ7, lQ20]
  exact Gh.finF (s := σ.next + 1) (cs := [.fz true v5 n (pis (ladd p W x y)), .fz w6 v6 n (pis (dv p n W 2 (br p W B n x y))), .fz w7 v7 n (pis (dv p n W 12 (third3 p W B n x y)))]) (((keep_new σ _).new _)) (by simp only [pwA, if_true, if_false, eq_self, nm_eq, reduceCtorEq, ↓reduceIte, nQ10, nQ7, nQ11, nQ12, nQ16, nQ17, nQ18, iQ2, iQ3, iQ4, iQ5, iQ6, lQ19, iQ7, lQ20]) (by omega) ⟨trivial, trivial, trivial, trivial⟩ (by simp [capOK]) fun o4 => hk _ _ _ _ ⟨true, v5, by rw [show (ladd p W x y).length = n from (lmix_el o hx hy).1]⟩ ⟨w6, v6, by rw [d2.el.1]⟩ ⟨w7, v7, by rw [d3.el.1]⟩
theorem l33Mul_ok (z : Lz p n W B c) (hR : IsR vP vB W B) (hx : El p n x) (hy : El p n y) (hvx : FI vx x) (hvy : FI vy y) (hk : ∀ v, FI v (bch p n W B x y) → K v σ) :
    PCalls Tryz.prog 100 [.agg [.int .i64 p, vP, vB], vx, vy] σ K := by
  have o := z.r.o
  have q := z.r.q
  have h1 := hR.P.one
  have h2 := hR.B.one
  refine PCalls.gh ?_
  refine pcalls_of_vp mix Tryz.func100 cf100 rfl ?_
  dsimp only [if100, qI, eI, nI, qD, eD]
  simp only [pwA, if_true, if_false, eq_self, nm_eq, reduceCtorEq, ↓reduceIte, nQ10, nQ7, nQ11, nQ12, nQ16, nQ17, nQ18, iQ2, iQ3, iQ4, iQ5, iQ6, lQ19, iQ7, lQ20, h1, h2]
  refine l33Terms_fz z hR hx hy hvx hvy fun a v1 v2 v3 f1 f2 f3 => ?_
  obtain ⟨w1, a1, rfl⟩ := f1
  obtain ⟨w2, a2, rfl⟩ := f2
  obtain ⟨w3, a3, rfl⟩ := f3
  have e1 : El p n (ladd p W x y) := lmix_el o hx hy
  have e2 := dv_el o (k := 2) (br_el o q (a := x) (b := y))
  have e3 := dv_el o (k := 12) (third_el o q (x := x) (y := y))
  have e4 : El p n (ladd p W (ladd p W x y) (dv p n W 2 (br p W B n x y))) := lmix_el o e1 e2
  have c0 : (0 : Int) < ((3 : Nat) : Int) := by decide
  have c1 : (1 : Int) < ((3 : Nat) : Int) := by decide
  have c2 : (2 : Int) < ((3 : Nat) : Int) := by decide
  simp only [pwA, if_true, if_false, eq_self, nm_eq, reduceCtorEq, ↓reduceIte, nQ10, nQ7, nQ11, nQ12, nQ16, nQ17, nQ18, iQ2, iQ3, iQ4, iQ5, iQ6, lQ19, iQ7, lQ20, c0, c1, c2]
  refine l31Mix_el hR o e1 e2 rfl rfl (by decide) (by decide) fun v4 => ?_
  simp only [pwA, if_true, if_false, eq_self, nm_eq, reduceCtorEq, ↓reduceIte, nQ10, nQ7, nQ11, nQ12, nQ16, nQ17, nQ18, iQ2, iQ3, iQ4, iQ5, iQ6, lQ19, iQ7, lQ20]
  refine l31Mix_el hR o (a := ladd p W (ladd p W x y) (dv p n W 2 (br p W B n x y))) e4 e3 e4.1.symm rfl (by decide) (by decide) fun v5 => ?_
  simp only [pwA, if_true, if_false, eq_self, nm_eq, reduceCtorEq, ↓reduceIte, nQ10, nQ7, nQ11, nQ12, nQ16, nQ17, nQ18, iQ2, iQ3, iQ4, iQ5, iQ6, lQ19, iQ7, lQ20]
  exact Gh.fin0 (keep_new σ _) trivial (hk _ ⟨true, v5, by rw [(bch_el o q hx hy).1]; rfl⟩)
theorem l33Neg_ok (o : OkW p n W) (hR : IsR vP vB W B) (hx : El p n x) (hvx : FI vx x) (hk : ∀ v, FI v (lmul p W (-1) x) → K v σ) :
    PCalls Tryz.prog 205 [.agg [.int .i64 p, vP, vB], vx] σ K := by
  have h1 := hR.P.one
  have h2 := hR.B.one
  have hxl := hx.1
  obtain ⟨wx, ax, rfl⟩ := hvx
  refine PCalls.gh ?_
  refine pcalls_of_vp mix Tryz.func205 cf205 rfl ?_
  dsimp only [if205, qI, eI, nI, qD, eD]
  simp only [pwA, if_true, if_false, eq_self, nm_eq, reduceCtorEq, ↓reduceIte, nQ10, nQ7, nQ11, nQ12, nQ16, nQ17, nQ18, iQ2, iQ3, iQ4, iQ5, iQ6, lQ19, iQ7, lQ20, h1, h2]
  refine l31Mix_el hR o hx hx rfl rfl (by decide) (by decide) fun v5 => ?_
  simp only [pwA, if_true, if_false, eq_self, nm_eq, reduceCtorEq, ↓reduceIte, nQ10, nQ7, nQ11, nQ12, nQ16, nQ17, nQ18, iQ2, iQ3, iQ4, iQ5, iQ6, lQ19, iQ7, lQ20]
  exact Gh.fin0 (keep_new σ _) trivial (hk _ ⟨true, v5, by rw [show (lmul p W (-1) x).length = n from (lmix_el o hx hx).1]⟩)
end Go.Proofs
namespace Go.Proofs
open Go.Ab Go.Lie
variable {σ : PHeap} {K : PV → PHeap → Prop} {p : Int} {n c : Nat} {W : List (List Int)} {B : List (List (List Int))} {vP vB vL : PV} {s : Nat} {x y : List Int} {vx vy : PV} {xs : List (List Int)}
theorem bchFold_ok (z : Lz p n W B c) (hs : PtrR σ s p vP vB) (hR : IsR vP vB W B) (hL : FII vL xs) (hx : Els p n xs) (hb : xs.length ≤ 1048576) (hk : ResI σ K (fold p n W B xs)) : PCalls Tryz.prog 106 [.ptr s 0, vL] σ K := by
  have o := z.r.o
  have q := z.r.q
  have hn6 := o.le
  have hWl := o.len
  have hR0 := hR
  obtain ⟨wl, al, rl, rfl, hrl⟩ := hL
  obtain ⟨⟨w1, a1, rP, rfl, hP⟩, hB⟩ := hR
  refine PCalls.gh ?_
  have hne : ¬ s = σ.next := Nat.ne_of_lt hs.lt
  refine pcalls_of_vp mix Tryz.func106 cf106 rfl ?_
  dsimp only [if106, qI, eI, nI, qD, eD]
  simp only [pwA, if_true, if_false, eq_self, nm_eq, reduceCtorEq, ↓reduceIte, nQ10, nQ7, nQ11, nQ12, nQ16, nQ17, nQ18, iQ2, iQ3, iQ4, iQ5, iQ6, lQ19, iQ7, lQ20, obj_rd1 hs.obj, hne, List.length_replicate, pis_rep, mk8 (n := W.length) (by omega), mkL (n := W.length) (by omega)]
  refine vp_loop (fun m vs h' => ∃ i v, i ≤ xs.length ∧ m = xs.length - i ∧ vs = [.ptr s 0, v, .fz wl al xs.length rl, .int .i64 xs.length, .int .i64 (i : Nat)] ∧ Keep σ h' ∧ PAcc σ.next 1 h' v n (pis (fold p n W B (xs.take i)))) xs.length ?_ ?_
  · refine ⟨0, _, by omega, by omega, rfl, keep_new σ _, .inr ?_⟩
    rw [hWl]
    exact PSl.new σ.next 1 (h := σ) (n := n) (cs := pis (List.replicate n 0)) (by rw [pis_length]; simp) (Nat.le_refl _)
  · rintro m vs h' ⟨i, v, hi, rfl, rfl, hkp, ha⟩
    simp only [pwA, if_true, if_false, eq_self, nm_eq, reduceCtorEq, ↓reduceIte, nQ10, nQ7, nQ11, nQ12, nQ16, nQ17, nQ18, iQ2, iQ3, iQ4, iQ5, iQ6, lQ19, iQ7, lQ20]
    refine iteI (fun hlt => ?_) fun hge => ?_
    · obtain ⟨w4, a4, hrk⟩ := hrl.rowI hlt
      have hel := fold_el o q (xs := xs.take i) fun y hy => hx y (List.mem_of_mem_take hy)
      have hxi := hx _ (List.getElem_mem hlt)
      have e : ∀ {v' : PV} {H : PHeap}, Keep σ H → PAcc σ.next 1 H v' n (pis (bch p n W B (fold p n W B (xs.take i)) xs[i])) → ∃ n', n' < xs.length - i ∧ ∃ i' v, i' ≤ xs.length ∧ n' = xs.length - i' ∧ [PV.ptr s 0, v', .fz wl al xs.length rl, .int .i64 xs.length, .int .i64 ((i + 1 : Nat) : Int)] = [.ptr s 0, v, .fz wl al xs.length rl, .int .i64 xs.length, .int .i64 (i' : Nat)] ∧ Keep σ H ∧ PAcc σ.next 1 H v n (pis (fold p n W B (xs.take i'))) := fun {v' H} k1 k2 => by
        refine ⟨_, by omega, i + 1, v', by omega, rfl, rfl, k1, ?_⟩
        rw [fold_snoc xs hlt]
        exact k2
      have bl := (bch_el o q hel hxi).1
      simp only [pwA, if_true, if_false, eq_self, nm_eq, reduceCtorEq, ↓reduceIte, nQ10, nQ7, nQ11, nQ12, nQ16, nQ17, nQ18, iQ2, iQ3, iQ4, iQ5, iQ6, lQ19, iQ7, lQ20, hlt, hrk]
      rcases ha with ⟨rfl, h0, h1⟩ | ⟨s', cap, rfl, hc, q2, q3, q4, q5⟩
      · refine bch_ok z (hs.keep hkp) hR0 hel hxi ⟨true, .nils, by rw [h1, show (fold p n W B (xs.take i)).length = 0 by rw [hel.1]; exact h0]⟩ ⟨_, _, rfl⟩ ⟨fun h2 => ?_, fun cap hc => ?_⟩
        · simp only [pwA, if_true, if_false, eq_self, nm_eq, reduceCtorEq, ↓reduceIte, nQ10, nQ7, nQ11, nQ12, nQ16, nQ17, nQ18, iQ2, iQ3, iQ4, iQ5, iQ6, lQ19, iQ7, lQ20, wrapS hlt (by omega : xs.length ≤ 4611686018427387904)]
          exact e hkp (.inl ⟨rfl, h0, by rw [h2]; rfl⟩)
        · simp only [pwA, if_true, if_false, eq_self, nm_eq, reduceCtorEq, ↓reduceIte, nQ10, nQ7, nQ11, nQ12, nQ16, nQ17, nQ18, iQ2, iQ3, iQ4, iQ5, iQ6, lQ19, iQ7, lQ20, wrapS hlt (by omega : xs.length ≤ 4611686018427387904)]
          refine e (hkp.new _) (.inr ⟨_, cap, by rw [bl], by rw [← bl]; exact hc, by simp only [pwA, if_true, if_false, eq_self, nm_eq, reduceCtorEq, ↓reduceIte, nQ10, nQ7, nQ11, nQ12, nQ16, nQ17, nQ18, iQ2, iQ3, iQ4, iQ5, iQ6, lQ19, iQ7, lQ20], by rw [pis_length, bl, Nat.mul_one], hkp.next, by simp [PHeap.new]⟩)
      · refine PCalls.frz (s := s') (cs := pis (fold p n W B (xs.take i))) q2 (pis_bel _ _) fun o1 => ?_
        have hcok := hc.ok
        simp only [sbs, sb, hcok, and_self, if_true]
        have hk2 : Keep σ (h'.kill s') := hkp.kill q4
        refine bch_ok z (hs.keep hk2) hR0 hel hxi ⟨true, _, by rw [hel.1]⟩ ⟨_, _, rfl⟩ ⟨fun h2 => ?_, fun cap hc => ?_⟩
        · simp only [pwA, if_true, if_false, eq_self, nm_eq, reduceCtorEq, ↓reduceIte, nQ10, nQ7, nQ11, nQ12, nQ16, nQ17, nQ18, iQ2, iQ3, iQ4, iQ5, iQ6, lQ19, iQ7, lQ20, wrapS hlt (by omega : xs.length ≤ 4611686018427387904)]
          exact e hk2 (.inl ⟨rfl, by rw [← bl, h2]; rfl, by rw [h2]; rfl⟩)
        · simp only [pwA, if_true, if_false, eq_self, nm_eq, reduceCtorEq, ↓reduceIte, nQ10, nQ7, nQ11, nQ12, nQ16, nQ17, nQ18, iQ2, iQ3, iQ4, iQ5, iQ6, lQ19, iQ7, lQ20, wrapS hlt (by omega : xs.length ≤ 4611686018427387904)]
          refine e (hk2.new _) (.inr ⟨_, cap, by rw [bl]; rfl, by rw [← bl]; exact hc, by simp only [pwA, if_true, if_false, eq_self, nm_eq, reduceCtorEq, ↓reduceIte, nQ10, nQ7, nQ11, nQ12, nQ16, nQ17, nQ18, iQ2, iQ3, iQ4, iQ5, iQ6, lQ19, iQ7, lQ20], by rw [pis_length, bl, Nat.mul_one], hk2.next, by simp [PHeap.new]⟩)
    · have hie : i = xs.length := by omega
      subst hie
      rw [List.take_length] at ha
      exact ha.res hkp (fold_el o q hx).1.symm hk
theorem l33Fold_ok (z : Lz p n W B c) (hR : IsR vP vB W B) (hL : FII vL xs) (hx : Els p n xs) (hb : xs.length ≤ 1048576) (hk : ∀ v, FI v (fold p n W B xs) → K v σ) : PCalls Tryz.prog 204 [.agg [.int .i64 p, vP, vB], vL] σ K := by
  have o := z.r.o
  have q := z.r.q
  have hn6 := o.le
  have hWl := o.len
  have h1 := hR.P.one
  have h2 := hR.B.one
  obtain ⟨wl, al, rl, rfl, hrl⟩ := hL
  refine PCalls.gh ?_
  refine pcalls_of_vp mix Tryz.func204 cf204 rfl ?_
  dsimp only [if204, qI, eI, nI, qD, eD]
  simp only [pwA, if_true, if_false, eq_self, nm_eq, reduceCtorEq, ↓reduceIte, nQ10, nQ7, nQ11, nQ12, nQ16, nQ17, nQ18, iQ2, iQ3, iQ4, iQ5, iQ6, lQ19, iQ7, lQ20, h1, h2]
  refine l31Zero_ok hR hWl (by omega) fun v0 => ?_
  simp only [pwA, if_true, if_false, eq_self, nm_eq, reduceCtorEq, ↓reduceIte, nQ10, nQ7, nQ11, nQ12, nQ16, nQ17, nQ18, iQ2, iQ3, iQ4, iQ5, iQ6, lQ19, iQ7, lQ20]
  refine vp_loop (fun m vs h' => ∃ i v, i ≤ xs.length ∧ m = xs.length - i ∧ vs = [.fz wl al xs.length rl, .ptr σ.next 0, v, .int .i64 (i : Nat)] ∧ h' = σ.new [.int .i64 p, vP, vB] ∧ FI v (fold p n W B (xs.take i))) xs.length ?_ ?_
  · exact ⟨0, _, by omega, by omega, rfl, rfl, ⟨true, v0, by rw [List.take_zero, show fold p n W B [] = List.replicate n 0 from rfl, List.length_replicate]; rfl⟩⟩
  · rintro m vs h' ⟨i, v, hi, rfl, rfl, rfl, hv⟩
    simp only [pwA, if_true, if_false, eq_self, nm_eq, reduceCtorEq, ↓reduceIte, nQ10, nQ7, nQ11, nQ12, nQ16, nQ17, nQ18, iQ2, iQ3, iQ4, iQ5, iQ6, lQ19, iQ7, lQ20]
    refine iteI (fun hlt => ?_) fun hge => ?_
    · obtain ⟨w4, a4, hrk⟩ := hrl.rowI hlt
      have hel := fold_el o q (xs := xs.take i) fun y hy => hx y (List.mem_of_mem_take hy)
      have hxi := hx _ (List.getElem_mem hlt)
      simp only [pwA, if_true, if_false, eq_self, nm_eq, reduceCtorEq, ↓reduceIte, nQ10, nQ7, nQ11, nQ12, nQ16, nQ17, nQ18, iQ2, iQ3, iQ4, iQ5, iQ6, lQ19, iQ7, lQ20, hlt, hrk]
      refine l33Mul_ok z hR hel hxi hv ⟨_, _, rfl⟩ fun v' hv' => ?_
      simp only [pwA, if_true, if_false, eq_self, nm_eq, reduceCtorEq, ↓reduceIte, nQ10, nQ7, nQ11, nQ12, nQ16, nQ17, nQ18, iQ2, iQ3, iQ4, iQ5, iQ6, lQ19, iQ7, lQ20, wrapS hlt (by omega : xs.length ≤ 4611686018427387904)]
      exact ⟨_, by omega, i + 1, v', by omega, rfl, rfl, by rw [fold_snoc xs hlt]; exact hv'⟩
    · have hie : i = xs.length := by omega
      subst hie
      rw [List.take_length] at hv
      exact Gh.fin0 (keep_new σ _) (hv.bel _) (hk v hv)
theorem rows4 {v1 v2 v3 v4 : PV} {x1 x2 x3 x4 : List Int} {w : Bool} {a : AV} (h1 : FI v1 x1) (h2 : FI v2 x2) (h3 : FI v3 x3) (h4 : FI v4 x4) : FII (.fz w a 4 [v1, v2, v3, v4]) [x1, x2, x3, x4] := ⟨w, a, _, rfl, by simpa using ((((All2.nil _).snoc h1).snoc h2).snoc h3).snoc h4⟩
theorem rows3 {v1 v2 v3 : PV} {x1 x2 x3 : List Int} {w : Bool} {a : AV} (h1 : FI v1 x1) (h2 : FI v2 x2) (h3 : FI v3 x3) : FII (.fz w a 3 [v1, v2, v3]) [x1, x2, x3] := ⟨w, a, _, rfl, by simpa using (((All2.nil _).snoc h1).snoc h2).snoc h3⟩
theorem neg_el (o : OkW p n W) (hx : El p n x) : El p n (lmul p W (-1) x) := lmix_el o hx hx
theorem els4 {x1 x2 x3 x4 : List Int} (h1 : El p n x1) (h2 : El p n x2) (h3 : El p n x3) (h4 : El p n x4) : Els p n [x1, x2, x3, x4] := fun y hy => by simp at hy; rcases hy with rfl | rfl | rfl | rfl <;> assumption
theorem els3 {x1 x2 x3 : List Int} (h1 : El p n x1) (h2 : El p n x2) (h3 : El p n x3) : Els p n [x1, x2, x3] := fun y hy => by simp at hy; rcases hy with rfl | rfl | rfl <;> assumption
theorem timesLie_FI (o : OkW p n W) (hs : PtrR σ s p vP vB) (hP : FII vP W) (hx : El p n x) (hvx : FI vx x) {k : Int} (hkb : -1000000000 ≤ k ∧ k ≤ 1000000000) (hk : ∀ v, FI v (lmul p W k x) → K v σ) : PCalls Tryz.prog 102 [.ptr s 0, .int .i64 k, vx] σ K := by
  obtain ⟨wx, ax, rfl⟩ := hvx
  exact timesLie_fz hs hP o hx rfl hkb fun v => hk _ ⟨_, _, by rw [show (lmul p W k x).length = n from (lmix_el o hx hx).1]⟩
theorem bchCommutator_ok (z : Lz p n W B c) (hs : PtrR σ s p vP vB) (hR : IsR vP vB W B) (hx : El p n x) (hy : El p n y) (hvx : FI vx x) (hvy : FI vy y) (hk : ResI σ K (comm p n W B x y)) :
    PCalls Tryz.prog 109 [.ptr s 0, vx, vy] σ K := by
  have o := z.r.o
  have q := z.r.q
  refine PCalls.gh ?_
  refine pcalls_of_vp mix Tryz.func109 cf109 rfl ?_
  dsimp only [if109, qI, eI, nI, qD, eD]
  simp only [pwA, if_true, if_false, eq_self, nm_eq, reduceCtorEq, ↓reduceIte, nQ10, nQ7, nQ11, nQ12, nQ16, nQ17, nQ18, iQ2, iQ3, iQ4, iQ5, iQ6, lQ19, iQ7, lQ20]
  refine timesLie_FI o hs hR.P hx hvx (by decide) fun v1 f1 => ?_
  simp only [pwA, if_true, if_false, eq_self, nm_eq, reduceCtorEq, ↓reduceIte, nQ10, nQ7, nQ11, nQ12, nQ16, nQ17, nQ18, iQ2, iQ3, iQ4, iQ5, iQ6, lQ19, iQ7, lQ20]
  refine timesLie_FI o hs hR.P hy hvy (by decide) fun v2 f2 => ?_
  simp only [pwA, if_true, if_false, eq_self, nm_eq, reduceCtorEq, ↓reduceIte, nQ10, nQ7, nQ11, nQ12, nQ16, nQ17, nQ18, iQ2, iQ3, iQ4, iQ5, iQ6, lQ19, iQ7, lQ20, f1.one, f1.cells, f2.one, f2.cells, hvx.one, hvx.cells, hvy.one, hvy.cells]
  refine PCalls.frz (s := σ.next) (cs := [v1, v2, vx, vy]) (by simp only [pwA, if_true, if_false, eq_self, nm_eq, reduceCtorEq, ↓reduceIte, nQ10, nQ7, nQ11, nQ12, nQ16, nQ17, nQ18, iQ2, iQ3, iQ4, iQ5, iQ6, lQ19, iQ7, lQ20]) ⟨f1.bel 0, f2.bel 0, hvx.bel 0, hvy.bel 0, trivial⟩ fun o1 => ?_
  simp only [sbs, sb, capOK, and_self, if_true, decide_true, Nat.le_refl]
  have hkp : Keep σ ((σ.new [v1, v2, vx, vy]).kill σ.next) := (keep_new σ _).kill (Nat.le_refl _)
  refine bchFold_ok z (hs.keep hkp) hR (rows4 f1 f2 hvx hvy) (els4 (neg_el o hx) (neg_el o hy) hx hy) (by simp) ⟨fun h0 => ?_, fun cap hc => ?_⟩
  · simp only [pwA, if_true, if_false, eq_self, nm_eq, reduceCtorEq, ↓reduceIte, nQ10, nQ7, nQ11, nQ12, nQ16, nQ17, nQ18, iQ2, iQ3, iQ4, iQ5, iQ6, lQ19, iQ7, lQ20]
    exact Gh.fin0 hkp trivial (hk.1 h0)
  · simp only [pwA, if_true, if_false, eq_self, nm_eq, reduceCtorEq, ↓reduceIte, nQ10, nQ7, nQ11, nQ12, nQ16, nQ17, nQ18, iQ2, iQ3, iQ4, iQ5, iQ6, lQ19, iQ7, lQ20]
    exact Gh.finS (hkp.new _) (by simp only [pwA, if_true, if_false, eq_self, nm_eq, reduceCtorEq, ↓reduceIte, nQ10, nQ7, nQ11, nQ12, nQ16, nQ17, nQ18, iQ2, iQ3, iQ4, iQ5, iQ6, lQ19, iQ7, lQ20]; rfl) (by omega) (pis_bel _ _) (hk.2 cap hc)
theorem l33Comm_ok (z : Lz p n W B c) (hR : IsR vP vB W B) (hx : El p n x) (hy : El p n y) (hvx : FI vx x) (hvy : FI vy y) (hk : ∀ v, FI v (comm p n W B x y) → K v σ) :
    PCalls Tryz.prog 122 [.agg [.int .i64 p, vP, vB], vx, vy] σ K := by
  have o := z.r.o
  have q := z.r.q
  have h1 := hR.P.one
  have h2 := hR.B.one
  refine PCalls.gh ?_
  refine pcalls_of_vp mix Tryz.func122 cf122 rfl ?_
  dsimp only [if122, qI, eI, nI, qD, eD]
  simp only [pwA, if_true, if_false, eq_self, nm_eq, reduceCtorEq, ↓reduceIte, nQ10, nQ7, nQ11, nQ12, nQ16, nQ17, nQ18, iQ2, iQ3, iQ4, iQ5, iQ6, lQ19, iQ7, lQ20, h1, h2]
  refine l33Neg_ok o hR hx hvx fun v1 f1 => ?_
  simp only [pwA, if_true, if_false, eq_self, nm_eq, reduceCtorEq, ↓reduceIte, nQ10, nQ7, nQ11, nQ12, nQ16, nQ17, nQ18, iQ2, iQ3, iQ4, iQ5, iQ6, lQ19, iQ7, lQ20]
  refine l33Neg_ok o hR hy hvy fun v2 f2 => ?_
  simp only [pwA, if_true, if_false, eq_self, nm_eq, reduceCtorEq, ↓reduceIte, nQ10, nQ7, nQ11, nQ12, nQ16, nQ17, nQ18, iQ2, iQ3, iQ4, iQ5, iQ6, lQ19, iQ7, lQ20, f1.one, f1.cells, f2.one, f2.cells, hvx.one, hvx.cells, hvy.one, hvy.cells]
  refine PCalls.frz (s := σ.next + 1) (cs := [v1, v2, vx, vy]) (by simp only [pwA, if_true, if_false, eq_self, nm_eq, reduceCtorEq, ↓reduceIte, nQ10, nQ7, nQ11, nQ12, nQ16, nQ17, nQ18, iQ2, iQ3, iQ4, iQ5, iQ6, lQ19, iQ7, lQ20]) ⟨f1.bel 0, f2.bel 0, hvx.bel 0, hvy.bel 0, trivial⟩ fun o1 => ?_
  simp only [sbs, sb, capOK, and_self, if_true, decide_true, Nat.le_refl, hR.P.sb, hR.B.sb]
  refine l33Fold_ok z hR (rows4 f1 f2 hvx hvy) (els4 (neg_el o hx) (neg_el o hy) hx hy) (by simp) fun v hv => ?_
  simp only [pwA, if_true, if_false, eq_self, nm_eq, reduceCtorEq, ↓reduceIte, nQ10, nQ7, nQ11, nQ12, nQ16, nQ17, nQ18, iQ2, iQ3, iQ4, iQ5, iQ6, lQ19, iQ7, lQ20]
  exact Gh.fin0 (((keep_new σ _).new _).kill (by omega)) (hv.bel _) (hk v hv)
noncomputable def conj (p : Int) (n : Nat) (W : List (List Int)) (B : List (List (List Int))) (x y : List Int) : List Int := fold p n W B [lmul p W (-1) y, x, y]
theorem l33Conj_ok (z : Lz p n W B c) (hR : IsR vP vB W B) (hx : El p n x) (hy : El p n y) (hvx : FI vx x) (hvy : FI vy y) (hk : ∀ v, FI v (conj p n W B x y) → K v σ) :
    PCalls Tryz.prog 121 [.agg [.int .i64 p, vP, vB], vx, vy] σ K := by
  have o := z.r.o
  have q := z.r.q
  have h1 := hR.P.one
  have h2 := hR.B.one
  refine PCalls.gh ?_
  refine pcalls_of_vp mix Tryz.func121 cf121 rfl ?_
  dsimp only [if121, qI, eI, nI, qD, eD]
  simp only [pwA, if_true, if_false, eq_self, nm_eq, reduceCtorEq, ↓reduceIte, nQ10, nQ7, nQ11, nQ12, nQ16, nQ17, nQ18, iQ2, iQ3, iQ4, iQ5, iQ6, lQ19, iQ7, lQ20, h1, h2]
  refine l33Neg_ok o hR hy hvy fun v1 f1 => ?_
  simp only [pwA, if_true, if_false, eq_self, nm_eq, reduceCtorEq, ↓reduceIte, nQ10, nQ7, nQ11, nQ12, nQ16, nQ17, nQ18, iQ2, iQ3, iQ4, iQ5, iQ6, lQ19, iQ7, lQ20, f1.one, f1.cells, hvx.one, hvx.cells, hvy.one, hvy.cells]
  refine PCalls.frz (s := σ.next + 1) (cs := [v1, vx, vy]) (by simp only [pwA, if_true, if_false, eq_self, nm_eq, reduceCtorEq, ↓reduceIte, nQ10, nQ7, nQ11, nQ12, nQ16, nQ17, nQ18, iQ2, iQ3, iQ4, iQ5, iQ6, lQ19, iQ7, lQ20]) ⟨f1.bel 0, hvx.bel 0, hvy.bel 0, trivial⟩ fun o1 => ?_
  simp only [sbs, sb, capOK, and_self, if_true, decide_true, Nat.le_refl, hR.P.sb, hR.B.sb]
  refine l33Fold_ok z hR (rows3 f1 hvx hvy) (els3 (neg_el o hy) hx hy) (by simp) fun v hv => ?_
  simp only [pwA, if_true, if_false, eq_self, nm_eq, reduceCtorEq, ↓reduceIte, nQ10, nQ7, nQ11, nQ12, nQ16, nQ17, nQ18, iQ2, iQ3, iQ4, iQ5, iQ6, lQ19, iQ7, lQ20]
  exact Gh.fin0 (((keep_new σ _).new _).kill (by omega)) (hv.bel _) (hk v hv)
end Go.Proofs
namespace Go.Proofs
open Go.Ab Go.Lie
variable {σ : PHeap} {K : PV → PHeap → Prop} {p : Int} {n c m k : Nat} {W : List (List Int)} {B : List (List (List Int))} {vP vB vL : PV} {s : Nat} {x y u v : List Int} {vx vy : PV} {xs : List (List Int)}
theorem Lz.mod (z : Lz p n W B c) (hu : El p n u) (hv : El p n v) (h : Lw p n W B m (at_ (br p W B n u v))) : Lw p n W B m (fun j => at_ (bch p n W B u v) j - (at_ u j + at_ v j)) := by
  have o := z.r.o
  have q := z.r.q
  have hs := z.r.sub m
  have b1 := br_el o q (a := u) (b := v)
  have t1 := third_el o q (x := u) (y := v)
  have d1 := div_in o hs (dv_spec o b1) (z.d2 hu) h
  have d2 := div_in o hs (dv_spec o t1) (z.d12 hu) (z.r.down (z.r.thd h))
  have a1 : El p n (ladd p W u v) := lmix_el o hu hv
  have a2 : El p n (ladd p W (ladd p W u v) (dv p n W 2 (br p W B n u v))) := lmix_el o a1 (dv_el o b1)
  have e1 := ladd_eqv o a2 (dv_el o (k := 12) t1)
  have e2 := ladd_eqv o a1 (dv_el o (k := 2) b1)
  have e3 := ladd_eqv o hu hv
  refine hs.eqv _ _ ?_ (hs.add _ _ d1 d2)
  have e4 := (e1.trans (((e2.trans (e3.add (Eqv.refl _))).add (Eqv.refl _)))).add (Eqv.refl (p := p) (n := n) (W := W) fun j => -(at_ u j + at_ v j))
  refine (Eqv.of_eq fun j => ?_).trans (e4.trans (Eqv.of_eq fun j => ?_))
  · rw [bch]; omega
  · omega
theorem IsSub.of_mod {S : Vec → Prop} (hs : IsSub p n W S) {f g : Vec} (h : S fun j => f j - g j) (hg : S g) : S f :=
  hs.eqv _ _ (Eqv.of_eq fun j => by omega) (hs.add _ _ h hg)
theorem brv_self (f : Vec) (t : Nat) : brv B n f f t = 0 := by
  have := brv_anti (B := B) (n := n) f f t
  omega
theorem zero_lw (z : Lz p n W B c) : Lw p n W B m (at_ (List.replicate n 0)) := (z.r.sub m).eqv _ _ (Eqv.of_eq fun j => at_rep n j) (z.r.sub m).zero
theorem Lz.comm (z : Lz p n W B c) (hx : El p n x) (hy : El p n y) (h : Lw p n W B k (at_ x)) : Lw p n W B (k + 1) (at_ (comm p n W B x y)) := by
  have o := z.r.o
  have q := z.r.q
  have hs := z.r.sub (k + 1)
  have nx := neg_el o hx
  have ny := neg_el o hy
  have ex := lmul_eqv o hx (-1)
  have ey := lmul_eqv o hy (-1)
  have hz := rep_el (n := n) o.pr
  have i1 := bch_el o q hz nx
  have i2 := bch_el o q i1 ny
  have i3 := bch_el o q i2 hx
  show Lw p n W B (k + 1) (at_ (bch p n W B (bch p n W B (bch p n W B (bch p n W B (List.replicate n 0) (lmul p W (-1) x)) (lmul p W (-1) y)) x) y))
  have m1 := z.mod hz nx (m := k + 1) (z.r.bL (zero_lw z))
  have l1 : Lw p n W B k (at_ (bch p n W B (List.replicate n 0) (lmul p W (-1) x))) :=
    IsSub.of_mod (z.r.sub k) (z.r.down m1) ((z.r.sub k).add _ _ (zero_lw z) (z.r.mulL hx (-1) h))
  have m2 := z.mod i1 ny (m := k + 1) (z.r.bL l1)
  have m3 := z.mod i2 hx (m := k + 1) (z.r.bR h)
  generalize bch p n W B (List.replicate n 0) (lmul p W (-1) x) = s1 at *
  generalize bch p n W B s1 (lmul p W (-1) y) = s2 at *
  generalize bch p n W B s2 x = s3 at *
  have r3 : Lw p n W B (k + 1) fun j => at_ s3 j + at_ y j := by
    have a := hs.add _ _ (hs.add _ _ m1 m2) m3
    refine hs.eqv _ _ ?_ a
    have e := (ex.add ey).add (Eqv.refl (p := p) (n := n) (W := W) fun j => at_ s3 j + at_ y j - at_ (lmul p W (-1) x) j - at_ (lmul p W (-1) y) j)
    refine (Eqv.of_eq fun j => ?_).trans (e.trans (Eqv.of_eq fun j => ?_))
    · omega
    · rw [at_rep]; omega
  have b3 : Lw p n W B (k + 1) (at_ (br p W B n s3 y)) := by
    refine hs.eqv _ _ (br_eqv o q s3 y) ?_
    refine hs.eqv _ _ (Eqv.of_eq fun t => ?_) (z.r.down (z.r.brk r3 (at_ y)))
    rw [brv_add, brv_self]; omega
  have m4 := z.mod i3 hy b3
  have := hs.add _ _ m4 r3
  exact hs.eqv _ _ (Eqv.of_eq fun j => by omega) this
theorem comm_el (z : Lz p n W B c) (hx : El p n x) (hy : El p n y) : El p n (comm p n W B x y) := fold_el z.r.o z.r.q (els4 (neg_el z.r.o hx) (neg_el z.r.o hy) hx hy)
theorem norm0 (o : OkW p n W) (hx : El p n x) (hz : isZ x) : lmul p W (-1) x = x :=
  eqv_unique o (neg_el o hx).1 hx.1 (neg_el o hx).2 hx.2 ((lmul_eqv o hx (-1)).trans (Eqv.of_eq fun j => by rw [isZ_at hz]; rfl))
theorem DivL.neg (o : OkW p n W) {k : Int} {z : List Int} (hx : El p n x) (h : DivL p n W k x z) (hk : Cop p (-k) → Cop p k) : DivL p n W (-k) x (lmul p W (-1) z) where
  el := neg_el o h.el
  nil := fun hz => by rw [h.nil hz]; exact norm0 o hx hz
  eqv := fun hc => ((lmul_eqv o h.el (-1)).mul (-k)).trans ((Eqv.of_eq fun j => by grind).trans (h.eqv (hk hc)))
def CodR (p : Int) (W : List (List Int)) (B : List (List (List Int))) (xs : List (List Int)) {α : Type} (nil val z : α) (c : Int) : Prop :=
  (∃ d, CodeL p W B xs d ∧ d ≠ 0 ∧ c = d ∧ z = nil) ∨ (CodeL p W B xs 0 ∧ c = 0 ∧ z = val)
theorem CodR.unique {α : Type} {nil val z z' : α} {c c' : Int} (h : CodR p W B xs nil val z c) (g : CodR p W B xs nil val z' c') : z = z' ∧ c = c' := by
  rcases h with ⟨d, h1, h2, h3, h4⟩ | ⟨h1, h3, h4⟩ <;> rcases g with ⟨d', g1, g2, g3, g4⟩ | ⟨g1, g3, g4⟩
  · have := h1.unique g1
    subst h4; subst g4; exact ⟨rfl, by omega⟩
  · exact absurd (h1.unique g1) h2
  · exact absurd (g1.unique h1) g2
  · subst h4; subst g4; exact ⟨rfl, by omega⟩
theorem CodR.bd {val z : List Int} {c : Int} (h : CodR p W B xs [] val z c) (hv : (isLie p W B ∧ Els p W.length xs) ∧ isLz p W.length W B → El p W.length val) : z.length ≤ 6 := by
  rcases h with ⟨d, h1, h2, h3, rfl⟩ | ⟨h1, h3, rfl⟩
  · simp
  · have := (hv h1.zero).1; have := h1.zero.1.1.1.w.le; omega
end Go.Proofs
namespace Go.Proofs
open Go.Ab Go.Lie
variable {σ : PHeap} {K : PV → PHeap → Prop} {p : Int} {n c m k : Nat} {W : List (List Int)} {B : List (List (List Int))} {vP vB vL : PV} {s : Nat} {x y u v : List Int} {vx vy : PV} {xs : List (List Int)}
noncomputable def sumP (p : Int) (n : Nat) (W : List (List Int)) (B : List (List (List Int))) (x y : List Int) : List Int :=
  fold p n W B [x, y, lmul p W (-1) (dv p n W 2 (comm p n W B x y)), dv p n W 12 (comm p n W B (comm p n W B x y) x), lmul p W (-1) (dv p n W 12 (comm p n W B (comm p n W B x y) y))]
noncomputable def brkP (p : Int) (n : Nat) (W : List (List Int)) (B : List (List (List Int))) (x y : List Int) : List Int :=
  fold p n W B [comm p n W B x y, lmul p W (-1) (dv p n W 2 (comm p n W B (comm p n W B x y) x)), lmul p W (-1) (dv p n W 2 (comm p n W B (comm p n W B x y) y))]
theorem els5 {x1 x2 x3 x4 x5 : List Int} (h1 : El p n x1) (h2 : El p n x2) (h3 : El p n x3) (h4 : El p n x4) (h5 : El p n x5) : Els p n [x1, x2, x3, x4, x5] := fun y hy => by simp at hy; rcases hy with rfl | rfl | rfl | rfl | rfl <;> assumption
theorem rows5 {v1 v2 v3 v4 v5 : PV} {x1 x2 x3 x4 x5 : List Int} {w : Bool} {a : AV} (h1 : FI v1 x1) (h2 : FI v2 x2) (h3 : FI v3 x3) (h4 : FI v4 x4) (h5 : FI v5 x5) : FII (.fz w a 5 [v1, v2, v3, v4, v5]) [x1, x2, x3, x4, x5] := ⟨w, a, _, rfl, by simpa using (((((All2.nil _).snoc h1).snoc h2).snoc h3).snoc h4).snoc h5⟩
theorem c_two (z : Lz p n W B c) (hx : El p n x) (h : Lw p n W B 1 (at_ x)) : isZ x ∨ (Cop p 2 ∧ Cop p (-2)) := z.r.two z.hp z.hc hx h
theorem c_twelve (z : Lz p n W B c) (hx : El p n x) (h : Lw p n W B 2 (at_ x)) : isZ x ∨ (Cop p 12 ∧ Cop p (-12)) := z.r.twelve z.hp z.hc hx h
theorem part_eq (o : OkW p n W) {k : Int} {z : List Int} (hx : El p n x) (h : DivL p n W k x z) (hk : isZ x ∨ (Cop p k ∧ Cop p (-k))) : z = dv p n W k x := dv_eq o hx h (hk.imp id (·.1))
theorem part_neg (o : OkW p n W) {k : Int} {z : List Int} (hx : El p n x) (h : DivL p n W (-k) x z) (hk : isZ x ∨ (Cop p k ∧ Cop p (-k))) : z = lmul p W (-1) (dv p n W k x) := by
  rcases hk with hz | ⟨h1, h2⟩
  · have e : dv p n W k x = x := (dv_spec o hx).nil hz
    rw [e, h.nil hz]; exact (norm0 o hx hz).symm
  · exact h.unique o hx ((dv_spec o (k := k) hx).neg o hx fun _ => h1) (.inr h2)
theorem divideLie_FI (o : OkW p n W) (hs : PtrR σ s p vP vB) (hP : FII vP W) (hpow : ipow p n ≤ 729) (hx : El p n x) (hvx : FI vx x) {k : Int} (hk : ∀ v z, DivL p n W k x z → FI v z → K v σ) : PCalls Tryz.prog 110 [.ptr s 0, vx, .int .i64 k] σ K := by
  obtain ⟨wx, ax, rfl⟩ := hvx
  exact divideLie_ok hs hP o hpow hx rfl fun v z hd => hk _ z hd ⟨_, _, by rw [hd.el.1]⟩
theorem comm_FI (z : Lz p n W B c) (hs : PtrR σ s p vP vB) (hR : IsR vP vB W B) (hx : El p n x) (hy : El p n y) (hvx : FI vx x) (hvy : FI vy y) (hk : ∀ v, FI v (comm p n W B x y) → K v σ) : PCalls Tryz.prog 109 [.ptr s 0, vx, vy] σ K :=
  PCalls.fzI (fun K' => bchCommutator_ok z hs hR hx hy hvx hvy) fun a => hk _ ⟨_, _, rfl⟩
theorem BchProduct_T (hR : IsR vP vB W B) (szr : SzR W B) (hx : FI vx x) (szx : x.length ≤ 1048576) (hy : FI vy y) (szy : y.length ≤ 1048576)
    (hk : ∀ v z c t, CodR p W B [x, y] [] (bch p W.length W B x y) z c → FI v z → Own σ.top t v → σ.top ≤ t → K (.tup [v, .int .i64 c]) (σ.up t)) : PCalls Tryz.prog 14 [.agg [.int .i64 p, vP, vB], vx, vy] σ K := by
  have h1 := hR.P.one
  have h2 := hR.B.one
  refine PCalls.gh ?_
  refine pcalls_of_vp mix Tryz.func14 cf14 rfl ?_
  dsimp only [if14, qI, eI, nI, qD, eD]
  simp only [pwA, if_true, if_false, eq_self, nm_eq, reduceCtorEq, ↓reduceIte, nQ10, nQ7, nQ11, nQ12, nQ16, nQ17, nQ18, iQ2, iQ3, iQ4, iQ5, iQ6, lQ19, iQ7, lQ20, h1, h2, hx.one, hx.cells, hy.one, hy.cells]
  have hkp : Keep σ (((σ.new [.int .i64 p, vP, vB]).new [vx, vy]).kill (σ.next + 1)) := ((keep_new σ _).new _).kill (by omega)
  have hs : PtrR (((σ.new [.int .i64 p, vP, vB]).new [vx, vy]).kill (σ.next + 1)) σ.next p vP vB := ⟨by simp only [pwA, if_true, if_false, eq_self, nm_eq, reduceCtorEq, ↓reduceIte, nQ10, nQ7, nQ11, nQ12, nQ16, nQ17, nQ18, iQ2, iQ3, iQ4, iQ5, iQ6, lQ19, iQ7, lQ20], by simp only [pwA, if_true, if_false, eq_self, nm_eq, reduceCtorEq, ↓reduceIte, nQ10, nQ7, nQ11, nQ12, nQ16, nQ17, nQ18, iQ2, iQ3, iQ4, iQ5, iQ6, lQ19, iQ7, lQ20]; omega⟩
  refine PCalls.frz (s := σ.next + 1) (cs := [vx, vy]) (by simp only [pwA, if_true, if_false, eq_self, nm_eq, reduceCtorEq, ↓reduceIte, nQ10, nQ7, nQ11, nQ12, nQ16, nQ17, nQ18, iQ2, iQ3, iQ4, iQ5, iQ6, lQ19, iQ7, lQ20]) ⟨hx.bel 0, hy.bel 0, trivial⟩ fun o => ?_
  simp only [sbs, sb, capOK, and_self, if_true, decide_true, Nat.le_refl, hx.sb, hy.sb]
  refine lazardCode_ok (xs := [x, y]) hs hR szr (two_row hx hy) (SzL.two szx szy) fun c hc => ?_
  by_cases hc0 : c = 0
  rotate_left
  · simp only [pwA, if_true, if_false, eq_self, nm_eq, reduceCtorEq, ↓reduceIte, nQ10, nQ7, nQ11, nQ12, nQ16, nQ17, nQ18, iQ2, iQ3, iQ4, iQ5, iQ6, lQ19, iQ7, lQ20, hc0]
    exact Gh.fin0T (t := σ.top) hkp hkp.top ⟨trivial, trivial, trivial⟩ fun _ => hk _ [] _ σ.top (.inl ⟨c, hc, hc0, rfl, rfl⟩) ⟨_, _, rfl⟩ (Own.empty _ _ _ _ _) (Nat.le_refl _)
  subst hc0
  obtain ⟨⟨hl, he⟩, hz⟩ := hc.zero
  obtain ⟨cc, lz⟩ := Lz.of hl hz
  have ow := lz.r.o
  have hx' := he x (by simp)
  have hy' := he y (by simp)
  simp only [pwA, if_true, if_false, eq_self, nm_eq, reduceCtorEq, ↓reduceIte, nQ10, nQ7, nQ11, nQ12, nQ16, nQ17, nQ18, iQ2, iQ3, iQ4, iQ5, iQ6, lQ19, iQ7, lQ20]
  have hkp2 := hkp
  refine PCalls.fzIT (fun K' => bch_ok lz hs hR hx' hy' hx hy) fun v t hv ho ht => ?_
  simp only [pwA, if_true, if_false, eq_self, nm_eq, reduceCtorEq, ↓reduceIte, nQ10, nQ7, nQ11, nQ12, nQ16, nQ17, nQ18, iQ2, iQ3, iQ4, iQ5, iQ6, lQ19, iQ7, lQ20]
  exact Gh.fin0T (t := t) (hkp2.up ht) (Nat.le_refl _) ⟨hv.bel _, trivial, trivial⟩ fun _ => hk _ _ _ t (.inr ⟨hc, rfl, rfl⟩) hv ho ht
theorem l33Product_ok (hR : IsR vP vB W B) (szr : SzR W B) (hx : FI vx x) (szx : x.length ≤ 1048576) (hy : FI vy y) (szy : y.length ≤ 1048576)
    (hk : ∀ v z c, CodR p W B [x, y] [] (bch p W.length W B x y) z c → FI v z → K (.tup [v, .int .i64 c]) σ) : PCalls Tryz.prog 15 [.agg [.int .i64 p, vP, vB], vx, vy] σ K := by
  have h1 := hR.P.one
  have h2 := hR.B.one
  refine PCalls.gh ?_
  refine pcalls_of_vp mix Tryz.func15 cf15 rfl ?_
  dsimp only [if15, qI, eI, nI, qD, eD]
  simp only [pwA, if_true, if_false, eq_self, nm_eq, reduceCtorEq, ↓reduceIte, nQ10, nQ7, nQ11, nQ12, nQ16, nQ17, nQ18, iQ2, iQ3, iQ4, iQ5, iQ6, lQ19, iQ7, lQ20, h1, h2, hx.one, hx.cells, hy.one, hy.cells]
  have hkp : Keep σ (((σ.new [.int .i64 p, vP, vB]).new [vx, vy]).kill (σ.next + 1)) := ((keep_new σ _).new _).kill (by omega)
  refine PCalls.frz (s := σ.next + 1) (cs := [vx, vy]) (by simp only [pwA, if_true, if_false, eq_self, nm_eq, reduceCtorEq, ↓reduceIte, nQ10, nQ7, nQ11, nQ12, nQ16, nQ17, nQ18, iQ2, iQ3, iQ4, iQ5, iQ6, lQ19, iQ7, lQ20]) ⟨hx.bel 0, hy.bel 0, trivial⟩ fun o => ?_
  simp only [sbs, sb, capOK, and_self, if_true, decide_true, Nat.le_refl, hR.P.sb, hR.B.sb, hx.sb, hy.sb]
  refine l33Code_ok (xs := [x, y]) hR szr (two_row hx hy) (SzL.two szx szy) fun c hc => ?_
  by_cases hc0 : c = 0
  rotate_left
  · simp only [pwA, if_true, if_false, eq_self, nm_eq, reduceCtorEq, ↓reduceIte, nQ10, nQ7, nQ11, nQ12, nQ16, nQ17, nQ18, iQ2, iQ3, iQ4, iQ5, iQ6, lQ19, iQ7, lQ20, hc0]
    exact Gh.fin0 hkp ⟨trivial, trivial, trivial⟩ (hk _ [] _ (.inl ⟨c, hc, hc0, rfl, rfl⟩) ⟨_, _, rfl⟩)
  subst hc0
  obtain ⟨⟨hl, he⟩, hz⟩ := hc.zero
  obtain ⟨cc, lz⟩ := Lz.of hl hz
  have ow := lz.r.o
  have hx' := he x (by simp)
  have hy' := he y (by simp)
  simp only [pwA, if_true, if_false, eq_self, nm_eq, reduceCtorEq, ↓reduceIte, nQ10, nQ7, nQ11, nQ12, nQ16, nQ17, nQ18, iQ2, iQ3, iQ4, iQ5, iQ6, lQ19, iQ7, lQ20]
  have hkp2 := hkp
  refine l33Mul_ok lz hR hx' hy' hx hy fun v hv => ?_
  simp only [pwA, if_true, if_false, eq_self, nm_eq, reduceCtorEq, ↓reduceIte, nQ10, nQ7, nQ11, nQ12, nQ16, nQ17, nQ18, iQ2, iQ3, iQ4, iQ5, iQ6, lQ19, iQ7, lQ20]
  exact Gh.fin0 hkp2 ⟨hv.bel _, trivial, trivial⟩ (hk _ _ _ (.inr ⟨hc, rfl, rfl⟩) hv)
theorem BchCommutator_T (hR : IsR vP vB W B) (szr : SzR W B) (hx : FI vx x) (szx : x.length ≤ 1048576) (hy : FI vy y) (szy : y.length ≤ 1048576)
    (hk : ∀ v z c t, CodR p W B [x, y] [] (comm p W.length W B x y) z c → FI v z → Own σ.top t v → σ.top ≤ t → K (.tup [v, .int .i64 c]) (σ.up t)) : PCalls Tryz.prog 40 [.agg [.int .i64 p, vP, vB], vx, vy] σ K := by
  have h1 := hR.P.one
  have h2 := hR.B.one
  refine PCalls.gh ?_
  refine pcalls_of_vp mix Tryz.func40 cf40 rfl ?_
  dsimp only [if40, qI, eI, nI, qD, eD]
  simp only [pwA, if_true, if_false, eq_self, nm_eq, reduceCtorEq, ↓reduceIte, nQ10, nQ7, nQ11, nQ12, nQ16, nQ17, nQ18, iQ2, iQ3, iQ4, iQ5, iQ6, lQ19, iQ7, lQ20, h1, h2, hx.one, hx.cells, hy.one, hy.cells]
  have hkp : Keep σ (((σ.new [.int .i64 p, vP, vB]).new [vx, vy]).kill (σ.next + 1)) := ((keep_new σ _).new _).kill (by omega)
  have hs : PtrR (((σ.new [.int .i64 p, vP, vB]).new [vx, vy]).kill (σ.next + 1)) σ.next p vP vB := ⟨by simp only [pwA, if_true, if_false, eq_self, nm_eq, reduceCtorEq, ↓reduceIte, nQ10, nQ7, nQ11, nQ12, nQ16, nQ17, nQ18, iQ2, iQ3, iQ4, iQ5, iQ6, lQ19, iQ7, lQ20], by simp only [pwA, if_true, if_false, eq_self, nm_eq, reduceCtorEq, ↓reduceIte, nQ10, nQ7, nQ11, nQ12, nQ16, nQ17, nQ18, iQ2, iQ3, iQ4, iQ5, iQ6, lQ19, iQ7, lQ20]; omega⟩
  refine PCalls.frz (s := σ.next + 1) (cs := [vx, vy]) (by simp only [pwA, if_true, if_false, eq_self, nm_eq, reduceCtorEq, ↓reduceIte, nQ10, nQ7, nQ11, nQ12, nQ16, nQ17, nQ18, iQ2, iQ3, iQ4, iQ5, iQ6, lQ19, iQ7, lQ20]) ⟨hx.bel 0, hy.bel 0, trivial⟩ fun o => ?_
  simp only [sbs, sb, capOK, and_self, if_true, decide_true, Nat.le_refl, hx.sb, hy.sb]
  refine lazardCode_ok (xs := [x, y]) hs hR szr (two_row hx hy) (SzL.two szx szy) fun c hc => ?_
  by_cases hc0 : c = 0
  rotate_left
  · simp only [pwA, if_true, if_false, eq_self, nm_eq, reduceCtorEq, ↓reduceIte, nQ10, nQ7, nQ11, nQ12, nQ16, nQ17, nQ18, iQ2, iQ3, iQ4, iQ5, iQ6, lQ19, iQ7, lQ20, hc0]
    exact Gh.fin0T (t := σ.top) hkp hkp.top ⟨trivial, trivial, trivial⟩ fun _ => hk _ [] _ σ.top (.inl ⟨c, hc, hc0, rfl, rfl⟩) ⟨_, _, rfl⟩ (Own.empty _ _ _ _ _) (Nat.le_refl _)
  subst hc0
  obtain ⟨⟨hl, he⟩, hz⟩ := hc.zero
  obtain ⟨cc, lz⟩ := Lz.of hl hz
  have ow := lz.r.o
  have hx' := he x (by simp)
  have hy' := he y (by simp)
  simp only [pwA, if_true, if_false, eq_self, nm_eq, reduceCtorEq, ↓reduceIte, nQ10, nQ7, nQ11, nQ12, nQ16, nQ17, nQ18, iQ2, iQ3, iQ4, iQ5, iQ6, lQ19, iQ7, lQ20]
  have hkp2 := hkp
  refine PCalls.fzIT (fun K' => bchCommutator_ok lz hs hR hx' hy' hx hy) fun v t hv ho ht => ?_
  simp only [pwA, if_true, if_false, eq_self, nm_eq, reduceCtorEq, ↓reduceIte, nQ10, nQ7, nQ11, nQ12, nQ16, nQ17, nQ18, iQ2, iQ3, iQ4, iQ5, iQ6, lQ19, iQ7, lQ20]
  exact Gh.fin0T (t := t) (hkp2.up ht) (Nat.le_refl _) ⟨hv.bel _, trivial, trivial⟩ fun _ => hk _ _ _ t (.inr ⟨hc, rfl, rfl⟩) hv ho ht
theorem l33Commutator_ok (hR : IsR vP vB W B) (szr : SzR W B) (hx : FI vx x) (szx : x.length ≤ 1048576) (hy : FI vy y) (szy : y.length ≤ 1048576)
    (hk : ∀ v z c, CodR p W B [x, y] [] (comm p W.length W B x y) z c → FI v z → K (.tup [v, .int .i64 c]) σ) : PCalls Tryz.prog 41 [.agg [.int .i64 p, vP, vB], vx, vy] σ K := by
  have h1 := hR.P.one
  have h2 := hR.B.one
  refine PCalls.gh ?_
  refine pcalls_of_vp mix Tryz.func41 cf41 rfl ?_
  dsimp only [if41, qI, eI, nI, qD, eD]
  simp only [pwA, if_true, if_false, eq_self, nm_eq, reduceCtorEq, ↓reduceIte, nQ10, nQ7, nQ11, nQ12, nQ16, nQ17, nQ18, iQ2, iQ3, iQ4, iQ5, iQ6, lQ19, iQ7, lQ20, h1, h2, hx.one, hx.cells, hy.one, hy.cells]
  have hkp : Keep σ (((σ.new [.int .i64 p, vP, vB]).new [vx, vy]).kill (σ.next + 1)) := ((keep_new σ _).new _).kill (by omega)
  refine PCalls.frz (s := σ.next + 1) (cs := [vx, vy]) (by simp only [pwA, if_true, if_false, eq_self, nm_eq, reduceCtorEq, ↓reduceIte, nQ10, nQ7, nQ11, nQ12, nQ16, nQ17, nQ18, iQ2, iQ3, iQ4, iQ5, iQ6, lQ19, iQ7, lQ20]) ⟨hx.bel 0, hy.bel 0, trivial⟩ fun o => ?_
  simp only [sbs, sb, capOK, and_self, if_true, decide_true, Nat.le_refl, hR.P.sb, hR.B.sb, hx.sb, hy.sb]
  refine l33Code_ok (xs := [x, y]) hR szr (two_row hx hy) (SzL.two szx szy) fun c hc => ?_
  by_cases hc0 : c = 0
  rotate_left
  · simp only [pwA, if_true, if_false, eq_self, nm_eq, reduceCtorEq, ↓reduceIte, nQ10, nQ7, nQ11, nQ12, nQ16, nQ17, nQ18, iQ2, iQ3, iQ4, iQ5, iQ6, lQ19, iQ7, lQ20, hc0]
    exact Gh.fin0 hkp ⟨trivial, trivial, trivial⟩ (hk _ [] _ (.inl ⟨c, hc, hc0, rfl, rfl⟩) ⟨_, _, rfl⟩)
  subst hc0
  obtain ⟨⟨hl, he⟩, hz⟩ := hc.zero
  obtain ⟨cc, lz⟩ := Lz.of hl hz
  have ow := lz.r.o
  have hx' := he x (by simp)
  have hy' := he y (by simp)
  simp only [pwA, if_true, if_false, eq_self, nm_eq, reduceCtorEq, ↓reduceIte, nQ10, nQ7, nQ11, nQ12, nQ16, nQ17, nQ18, iQ2, iQ3, iQ4, iQ5, iQ6, lQ19, iQ7, lQ20]
  have hkp2 := hkp
  refine l33Comm_ok lz hR hx' hy' hx hy fun v hv => ?_
  simp only [pwA, if_true, if_false, eq_self, nm_eq, reduceCtorEq, ↓reduceIte, nQ10, nQ7, nQ11, nQ12, nQ16, nQ17, nQ18, iQ2, iQ3, iQ4, iQ5, iQ6, lQ19, iQ7, lQ20]
  exact Gh.fin0 hkp2 ⟨hv.bel _, trivial, trivial⟩ (hk _ _ _ (.inr ⟨hc, rfl, rfl⟩) hv)
theorem BchConjugate_T (hR : IsR vP vB W B) (szr : SzR W B) (hx : FI vx x) (szx : x.length ≤ 1048576) (hy : FI vy y) (szy : y.length ≤ 1048576)
    (hk : ∀ v z c t, CodR p W B [x, y] [] (conj p W.length W B x y) z c → FI v z → Own σ.top t v → σ.top ≤ t → K (.tup [v, .int .i64 c]) (σ.up t)) : PCalls Tryz.prog 38 [.agg [.int .i64 p, vP, vB], vx, vy] σ K := by
  have h1 := hR.P.one
  have h2 := hR.B.one
  refine PCalls.gh ?_
  refine pcalls_of_vp mix Tryz.func38 cf38 rfl ?_
  dsimp only [if38, qI, eI, nI, qD, eD]
  simp only [pwA, if_true, if_false, eq_self, nm_eq, reduceCtorEq, ↓reduceIte, nQ10, nQ7, nQ11, nQ12, nQ16, nQ17, nQ18, iQ2, iQ3, iQ4, iQ5, iQ6, lQ19, iQ7, lQ20, h1, h2, hx.one, hx.cells, hy.one, hy.cells]
  have hkp : Keep σ (((σ.new [.int .i64 p, vP, vB]).new [vx, vy]).kill (σ.next + 1)) := ((keep_new σ _).new _).kill (by omega)
  have hs : PtrR (((σ.new [.int .i64 p, vP, vB]).new [vx, vy]).kill (σ.next + 1)) σ.next p vP vB := ⟨by simp only [pwA, if_true, if_false, eq_self, nm_eq, reduceCtorEq, ↓reduceIte, nQ10, nQ7, nQ11, nQ12, nQ16, nQ17, nQ18, iQ2, iQ3, iQ4, iQ5, iQ6, lQ19, iQ7, lQ20], by simp only [pwA, if_true, if_false, eq_self, nm_eq, reduceCtorEq, ↓reduceIte, nQ10, nQ7, nQ11, nQ12, nQ16, nQ17, nQ18, iQ2, iQ3, iQ4, iQ5, iQ6, lQ19, iQ7, lQ20]; omega⟩
  refine PCalls.frz (s := σ.next + 1) (cs := [vx, vy]) (by simp only [pwA, if_true, if_false, eq_self, nm_eq, reduceCtorEq, ↓reduceIte, nQ10, nQ7, nQ11, nQ12, nQ16, nQ17, nQ18, iQ2, iQ3, iQ4, iQ5, iQ6, lQ19, iQ7, lQ20]) ⟨hx.bel 0, hy.bel 0, trivial⟩ fun o => ?_
  simp only [sbs, sb, capOK, and_self, if_true, decide_true, Nat.le_refl, hx.sb, hy.sb]
  refine lazardCode_ok (xs := [x, y]) hs hR szr (two_row hx hy) (SzL.two szx szy) fun c hc => ?_
  by_cases hc0 : c = 0
  rotate_left
  · simp only [pwA, if_true, if_false, eq_self, nm_eq, reduceCtorEq, ↓reduceIte, nQ10, nQ7, nQ11, nQ12, nQ16, nQ17, nQ18, iQ2, iQ3, iQ4, iQ5, iQ6, lQ19, iQ7, lQ20, hc0]
    exact Gh.fin0T (t := σ.top) hkp hkp.top ⟨trivial, trivial, trivial⟩ fun _ => hk _ [] _ σ.top (.inl ⟨c, hc, hc0, rfl, rfl⟩) ⟨_, _, rfl⟩ (Own.empty _ _ _ _ _) (Nat.le_refl _)
  subst hc0
  obtain ⟨⟨hl, he⟩, hz⟩ := hc.zero
  obtain ⟨cc, lz⟩ := Lz.of hl hz
  have ow := lz.r.o
  have hx' := he x (by simp)
  have hy' := he y (by simp)
  simp only [pwA, if_true, if_false, eq_self, nm_eq, reduceCtorEq, ↓reduceIte, nQ10, nQ7, nQ11, nQ12, nQ16, nQ17, nQ18, iQ2, iQ3, iQ4, iQ5, iQ6, lQ19, iQ7, lQ20]
  refine timesLie_FI ow hs hR.P hy' hy (by decide) fun v1 f1 => ?_
  simp only [pwA, if_true, if_false, eq_self, nm_eq, reduceCtorEq, ↓reduceIte, nQ10, nQ7, nQ11, nQ12, nQ16, nQ17, nQ18, iQ2, iQ3, iQ4, iQ5, iQ6, lQ19, iQ7, lQ20, f1.one, f1.cells, hx.one, hx.cells, hy.one, hy.cells]
  have hkp2 : Keep σ (((((σ.new [.int .i64 p, vP, vB]).new [vx, vy]).kill (σ.next + 1)).new [v1, vx, vy]).kill (σ.next + 2)) := (hkp.new _).kill (by omega)
  have hs2 : PtrR (((((σ.new [.int .i64 p, vP, vB]).new [vx, vy]).kill (σ.next + 1)).new [v1, vx, vy]).kill (σ.next + 2)) σ.next p vP vB := ⟨by simp only [pwA, if_true, if_false, eq_self, nm_eq, reduceCtorEq, ↓reduceIte, nQ10, nQ7, nQ11, nQ12, nQ16, nQ17, nQ18, iQ2, iQ3, iQ4, iQ5, iQ6, lQ19, iQ7, lQ20], by simp only [pwA, if_true, if_false, eq_self, nm_eq, reduceCtorEq, ↓reduceIte, nQ10, nQ7, nQ11, nQ12, nQ16, nQ17, nQ18, iQ2, iQ3, iQ4, iQ5, iQ6, lQ19, iQ7, lQ20]; omega⟩
  refine PCalls.frz (s := σ.next + 2) (cs := [v1, vx, vy]) (by simp only [pwA, if_true, if_false, eq_self, nm_eq, reduceCtorEq, ↓reduceIte, nQ10, nQ7, nQ11, nQ12, nQ16, nQ17, nQ18, iQ2, iQ3, iQ4, iQ5, iQ6, lQ19, iQ7, lQ20]) ⟨f1.bel 0, hx.bel 0, hy.bel 0, trivial⟩ fun o2 => ?_
  simp only [sbs, sb, capOK, and_self, if_true, decide_true, Nat.le_refl, f1.one, f1.cells, f1.sb, hx.one, hx.cells, hx.sb, hy.one, hy.cells, hy.sb]
  refine PCalls.fzIT (fun K' => bchFold_ok lz hs2 hR (rows3 f1 hx hy) (els3 (neg_el ow hy') hx' hy') (by simp)) fun v t hv ho ht => ?_
  simp only [pwA, if_true, if_false, eq_self, nm_eq, reduceCtorEq, ↓reduceIte, nQ10, nQ7, nQ11, nQ12, nQ16, nQ17, nQ18, iQ2, iQ3, iQ4, iQ5, iQ6, lQ19, iQ7, lQ20]
  exact Gh.fin0T (t := t) (hkp2.up ht) (Nat.le_refl _) ⟨hv.bel _, trivial, trivial⟩ fun _ => hk _ _ _ t (.inr ⟨hc, rfl, rfl⟩) hv ho ht
theorem l33Conjugate_ok (hR : IsR vP vB W B) (szr : SzR W B) (hx : FI vx x) (szx : x.length ≤ 1048576) (hy : FI vy y) (szy : y.length ≤ 1048576)
    (hk : ∀ v z c, CodR p W B [x, y] [] (conj p W.length W B x y) z c → FI v z → K (.tup [v, .int .i64 c]) σ) : PCalls Tryz.prog 39 [.agg [.int .i64 p, vP, vB], vx, vy] σ K := by
  have h1 := hR.P.one
  have h2 := hR.B.one
  refine PCalls.gh ?_
  refine pcalls_of_vp mix Tryz.func39 cf39 rfl ?_
  dsimp only [if39, qI, eI, nI, qD, eD]
  simp only [pwA, if_true, if_false, eq_self, nm_eq, reduceCtorEq, ↓reduceIte, nQ10, nQ7, nQ11, nQ12, nQ16, nQ17, nQ18, iQ2, iQ3, iQ4, iQ5, iQ6, lQ19, iQ7, lQ20, h1, h2, hx.one, hx.cells, hy.one, hy.cells]
  have hkp : Keep σ (((σ.new [.int .i64 p, vP, vB]).new [vx, vy]).kill (σ.next + 1)) := ((keep_new σ _).new _).kill (by omega)
  refine PCalls.frz (s := σ.next + 1) (cs := [vx, vy]) (by simp only [pwA, if_true, if_false, eq_self, nm_eq, reduceCtorEq, ↓reduceIte, nQ10, nQ7, nQ11, nQ12, nQ16, nQ17, nQ18, iQ2, iQ3, iQ4, iQ5, iQ6, lQ19, iQ7, lQ20]) ⟨hx.bel 0, hy.bel 0, trivial⟩ fun o => ?_
  simp only [sbs, sb, capOK, and_self, if_true, decide_true, Nat.le_refl, hR.P.sb, hR.B.sb, hx.sb, hy.sb]
  refine l33Code_ok (xs := [x, y]) hR szr (two_row hx hy) (SzL.two szx szy) fun c hc => ?_
  by_cases hc0 : c = 0
  rotate_left
  · simp only [pwA, if_true, if_false, eq_self, nm_eq, reduceCtorEq, ↓reduceIte, nQ10, nQ7, nQ11, nQ12, nQ16, nQ17, nQ18, iQ2, iQ3, iQ4, iQ5, iQ6, lQ19, iQ7, lQ20, hc0]
    exact Gh.fin0 hkp ⟨trivial, trivial, trivial⟩ (hk _ [] _ (.inl ⟨c, hc, hc0, rfl, rfl⟩) ⟨_, _, rfl⟩)
  subst hc0
  obtain ⟨⟨hl, he⟩, hz⟩ := hc.zero
  obtain ⟨cc, lz⟩ := Lz.of hl hz
  have ow := lz.r.o
  have hx' := he x (by simp)
  have hy' := he y (by simp)
  simp only [pwA, if_true, if_false, eq_self, nm_eq, reduceCtorEq, ↓reduceIte, nQ10, nQ7, nQ11, nQ12, nQ16, nQ17, nQ18, iQ2, iQ3, iQ4, iQ5, iQ6, lQ19, iQ7, lQ20]
  have hkp2 := hkp
  refine l33Conj_ok lz hR hx' hy' hx hy fun v hv => ?_
  simp only [pwA, if_true, if_false, eq_self, nm_eq, reduceCtorEq, ↓reduceIte, nQ10, nQ7, nQ11, nQ12, nQ16, nQ17, nQ18, iQ2, iQ3, iQ4, iQ5, iQ6, lQ19, iQ7, lQ20]
  exact Gh.fin0 hkp2 ⟨hv.bel _, trivial, trivial⟩ (hk _ _ _ (.inr ⟨hc, rfl, rfl⟩) hv)
theorem SumByProducts_T (hR : IsR vP vB W B) (szr : SzR W B) (hx : FI vx x) (szx : x.length ≤ 1048576) (hy : FI vy y) (szy : y.length ≤ 1048576)
    (hk : ∀ v z c t, CodR p W B [x, y] [] (sumP p W.length W B x y) z c → FI v z → Own σ.top t v → σ.top ≤ t → K (.tup [v, .int .i64 c]) (σ.up t)) : PCalls Tryz.prog 26 [.agg [.int .i64 p, vP, vB], vx, vy] σ K := by
  have h1 := hR.P.one
  have h2 := hR.B.one
  refine PCalls.gh ?_
  refine pcalls_of_vp mix Tryz.func26 cf26 rfl ?_
  dsimp only [if26, qI, eI, nI, qD, eD]
  simp only [pwA, if_true, if_false, eq_self, nm_eq, reduceCtorEq, ↓reduceIte, nQ10, nQ7, nQ11, nQ12, nQ16, nQ17, nQ18, iQ2, iQ3, iQ4, iQ5, iQ6, lQ19, iQ7, lQ20, h1, h2, hx.one, hx.cells, hy.one, hy.cells]
  have hkp : Keep σ (((σ.new [.int .i64 p, vP, vB]).new [vx, vy]).kill (σ.next + 1)) := ((keep_new σ _).new _).kill (by omega)
  have hs : PtrR (((σ.new [.int .i64 p, vP, vB]).new [vx, vy]).kill (σ.next + 1)) σ.next p vP vB := ⟨by simp only [pwA, if_true, if_false, eq_self, nm_eq, reduceCtorEq, ↓reduceIte, nQ10, nQ7, nQ11, nQ12, nQ16, nQ17, nQ18, iQ2, iQ3, iQ4, iQ5, iQ6, lQ19, iQ7, lQ20], by simp only [pwA, if_true, if_false, eq_self, nm_eq, reduceCtorEq, ↓reduceIte, nQ10, nQ7, nQ11, nQ12, nQ16, nQ17, nQ18, iQ2, iQ3, iQ4, iQ5, iQ6, lQ19, iQ7, lQ20]; omega⟩
  refine PCalls.frz (s := σ.next + 1) (cs := [vx, vy]) (by simp only [pwA, if_true, if_false, eq_self, nm_eq, reduceCtorEq, ↓reduceIte, nQ10, nQ7, nQ11, nQ12, nQ16, nQ17, nQ18, iQ2, iQ3, iQ4, iQ5, iQ6, lQ19, iQ7, lQ20]) ⟨hx.bel 0, hy.bel 0, trivial⟩ fun o => ?_
  simp only [sbs, sb, capOK, and_self, if_true, decide_true, Nat.le_refl, hx.sb, hy.sb]
  refine lazardCode_ok (xs := [x, y]) hs hR szr (two_row hx hy) (SzL.two szx szy) fun c hc => ?_
  by_cases hc0 : c = 0
  rotate_left
  · simp only [pwA, if_true, if_false, eq_self, nm_eq, reduceCtorEq, ↓reduceIte, nQ10, nQ7, nQ11, nQ12, nQ16, nQ17, nQ18, iQ2, iQ3, iQ4, iQ5, iQ6, lQ19, iQ7, lQ20, hc0]
    exact Gh.fin0T (t := σ.top) hkp hkp.top ⟨trivial, trivial, trivial⟩ fun _ => hk _ [] _ σ.top (.inl ⟨c, hc, hc0, rfl, rfl⟩) ⟨_, _, rfl⟩ (Own.empty _ _ _ _ _) (Nat.le_refl _)
  subst hc0
  obtain ⟨⟨hl, he⟩, hz⟩ := hc.zero
  obtain ⟨cc, lz⟩ := Lz.of hl hz
  have ow := lz.r.o
  have hx' := he x (by simp)
  have hy' := he y (by simp)
  simp only [pwA, if_true, if_false, eq_self, nm_eq, reduceCtorEq, ↓reduceIte, nQ10, nQ7, nQ11, nQ12, nQ16, nQ17, nQ18, iQ2, iQ3, iQ4, iQ5, iQ6, lQ19, iQ7, lQ20]
  refine comm_FI lz hs hR hx' hy' hx hy fun vc fc => ?_
  simp only [pwA, if_true, if_false, eq_self, nm_eq, reduceCtorEq, ↓reduceIte, nQ10, nQ7, nQ11, nQ12, nQ16, nQ17, nQ18, iQ2, iQ3, iQ4, iQ5, iQ6, lQ19, iQ7, lQ20]
  have ec := comm_el lz hx' hy'
  have ea := comm_el lz ec hx'
  have eb := comm_el lz ec hy'
  have lc := lz.comm hx' hy' (lz.r.all hx')
  have la := lz.comm ec hx' lc
  have lb := lz.comm ec hy' lc
  refine divideLie_FI ow hs hR.P lz.pow ec fc fun v1 z1 d1 f1 => ?_
  rw [part_neg ow ec d1 (c_two lz ec lc)] at f1
  simp only [pwA, if_true, if_false, eq_self, nm_eq, reduceCtorEq, ↓reduceIte, nQ10, nQ7, nQ11, nQ12, nQ16, nQ17, nQ18, iQ2, iQ3, iQ4, iQ5, iQ6, lQ19, iQ7, lQ20]
  refine comm_FI lz hs hR ec hx' fc hx fun va fa => ?_
  simp only [pwA, if_true, if_false, eq_self, nm_eq, reduceCtorEq, ↓reduceIte, nQ10, nQ7, nQ11, nQ12, nQ16, nQ17, nQ18, iQ2, iQ3, iQ4, iQ5, iQ6, lQ19, iQ7, lQ20]
  refine divideLie_FI ow hs hR.P lz.pow ea fa fun v2 z2 d2 f2 => ?_
  rw [part_eq ow ea d2 (c_twelve lz ea la)] at f2
  simp only [pwA, if_true, if_false, eq_self, nm_eq, reduceCtorEq, ↓reduceIte, nQ10, nQ7, nQ11, nQ12, nQ16, nQ17, nQ18, iQ2, iQ3, iQ4, iQ5, iQ6, lQ19, iQ7, lQ20]
  refine comm_FI lz hs hR ec hy' fc hy fun vb fb => ?_
  simp only [pwA, if_true, if_false, eq_self, nm_eq, reduceCtorEq, ↓reduceIte, nQ10, nQ7, nQ11, nQ12, nQ16, nQ17, nQ18, iQ2, iQ3, iQ4, iQ5, iQ6, lQ19, iQ7, lQ20]
  refine divideLie_FI ow hs hR.P lz.pow eb fb fun v3 z3 d3 f3 => ?_
  rw [part_neg ow eb d3 (c_twelve lz eb lb)] at f3
  simp only [pwA, if_true, if_false, eq_self, nm_eq, reduceCtorEq, ↓reduceIte, nQ10, nQ7, nQ11, nQ12, nQ16, nQ17, nQ18, iQ2, iQ3, iQ4, iQ5, iQ6, lQ19, iQ7, lQ20, hx.one, hx.cells, hy.one, hy.cells, f1.one, f1.cells, f2.one, f2.cells, f3.one, f3.cells]
  have hkp2 : Keep σ (((((σ.new [.int .i64 p, vP, vB]).new [vx, vy]).kill (σ.next + 1)).new [vx, vy, v1, v2, v3]).kill (σ.next + 2)) := (hkp.new _).kill (by omega)
  have hs2 : PtrR (((((σ.new [.int .i64 p, vP, vB]).new [vx, vy]).kill (σ.next + 1)).new [vx, vy, v1, v2, v3]).kill (σ.next + 2)) σ.next p vP vB := ⟨by simp only [pwA, if_true, if_false, eq_self, nm_eq, reduceCtorEq, ↓reduceIte, nQ10, nQ7, nQ11, nQ12, nQ16, nQ17, nQ18, iQ2, iQ3, iQ4, iQ5, iQ6, lQ19, iQ7, lQ20], by simp only [pwA, if_true, if_false, eq_self, nm_eq, reduceCtorEq, ↓reduceIte, nQ10, nQ7, nQ11, nQ12, nQ16, nQ17, nQ18, iQ2, iQ3, iQ4, iQ5, iQ6, lQ19, iQ7, lQ20]; omega⟩
  refine PCalls.frz (s := σ.next + 2) (cs := [vx, vy, v1, v2, v3]) (by simp only [pwA, if_true, if_false, eq_self, nm_eq, reduceCtorEq, ↓reduceIte, nQ10, nQ7, nQ11, nQ12, nQ16, nQ17, nQ18, iQ2, iQ3, iQ4, iQ5, iQ6, lQ19, iQ7, lQ20]) ⟨hx.bel 0, hy.bel 0, f1.bel 0, f2.bel 0, f3.bel 0, trivial⟩ fun o2 => ?_
  simp only [sbs, sb, capOK, and_self, if_true, decide_true, Nat.le_refl, hx.one, hx.cells, hx.sb, hy.one, hy.cells, hy.sb, f1.one, f1.cells, f1.sb, f2.one, f2.cells, f2.sb, f3.one, f3.cells, f3.sb]
  refine PCalls.fzIT (fun K' => bchFold_ok lz hs2 hR (rows5 hx hy f1 f2 f3) (els5 hx' hy' (neg_el ow (dv_el ow ec)) (dv_el ow ea) (neg_el ow (dv_el ow eb))) (by simp)) fun v t hv ho ht => ?_
  simp only [pwA, if_true, if_false, eq_self, nm_eq, reduceCtorEq, ↓reduceIte, nQ10, nQ7, nQ11, nQ12, nQ16, nQ17, nQ18, iQ2, iQ3, iQ4, iQ5, iQ6, lQ19, iQ7, lQ20]
  exact Gh.fin0T (t := t) (hkp2.up ht) (Nat.le_refl _) ⟨hv.bel _, trivial, trivial⟩ fun _ => hk _ _ _ t (.inr ⟨hc, rfl, rfl⟩) hv ho ht
theorem BracketByProducts_T (hR : IsR vP vB W B) (szr : SzR W B) (hx : FI vx x) (szx : x.length ≤ 1048576) (hy : FI vy y) (szy : y.length ≤ 1048576)
    (hk : ∀ v z c t, CodR p W B [x, y] [] (brkP p W.length W B x y) z c → FI v z → Own σ.top t v → σ.top ≤ t → K (.tup [v, .int .i64 c]) (σ.up t)) : PCalls Tryz.prog 27 [.agg [.int .i64 p, vP, vB], vx, vy] σ K := by
  have h1 := hR.P.one
  have h2 := hR.B.one
  refine PCalls.gh ?_
  refine pcalls_of_vp mix Tryz.func27 cf27 rfl ?_
  dsimp only [if27, qI, eI, nI, qD, eD]
  simp only [pwA, if_true, if_false, eq_self, nm_eq, reduceCtorEq, ↓reduceIte, nQ10, nQ7, nQ11, nQ12, nQ16, nQ17, nQ18, iQ2, iQ3, iQ4, iQ5, iQ6, lQ19, iQ7, lQ20, h1, h2, hx.one, hx.cells, hy.one, hy.cells]
  have hkp : Keep σ (((σ.new [.int .i64 p, vP, vB]).new [vx, vy]).kill (σ.next + 1)) := ((keep_new σ _).new _).kill (by omega)
  have hs : PtrR (((σ.new [.int .i64 p, vP, vB]).new [vx, vy]).kill (σ.next + 1)) σ.next p vP vB := ⟨by simp only [pwA, if_true, if_false, eq_self, nm_eq, reduceCtorEq, ↓reduceIte, nQ10, nQ7, nQ11, nQ12, nQ16, nQ17, nQ18, iQ2, iQ3, iQ4, iQ5, iQ6, lQ19, iQ7, lQ20], by simp only [pwA, if_true, if_false, eq_self, nm_eq, reduceCtorEq, ↓reduceIte, nQ10, nQ7, nQ11, nQ12, nQ16, nQ17, nQ18, iQ2, iQ3, iQ4, iQ5, iQ6, lQ19, iQ7, lQ20]; omega⟩
  refine PCalls.frz (s := σ.next + 1) (cs := [vx, vy]) (by simp only [pwA, if_true, if_false, eq_self, nm_eq, reduceCtorEq, ↓reduceIte, nQ10, nQ7, nQ11, nQ12, nQ16, nQ17, nQ18, iQ2, iQ3, iQ4, iQ5, iQ6, lQ19, iQ7, lQ20]) ⟨hx.bel 0, hy.bel 0, trivial⟩ fun o => ?_
  simp only [sbs, sb, capOK, and_self, if_true, decide_true, Nat.le_refl, hx.sb, hy.sb]
  refine lazardCode_ok (xs := [x, y]) hs hR szr (two_row hx hy) (SzL.two szx szy) fun c hc => ?_
  by_cases hc0 : c = 0
  rotate_left
  · simp only [pwA, if_true, if_false, eq_self, nm_eq, reduceCtorEq, ↓reduceIte, nQ10, nQ7, nQ11, nQ12, nQ16, nQ17, nQ18, iQ2, iQ3, iQ4, iQ5, iQ6, lQ19, iQ7, lQ20, hc0]
    exact Gh.fin0T (t := σ.top) hkp hkp.top ⟨trivial, trivial, trivial⟩ fun _ => hk _ [] _ σ.top (.inl ⟨c, hc, hc0, rfl, rfl⟩) ⟨_, _, rfl⟩ (Own.empty _ _ _ _ _) (Nat.le_refl _)
  subst hc0
  obtain ⟨⟨hl, he⟩, hz⟩ := hc.zero
  obtain ⟨cc, lz⟩ := Lz.of hl hz
  have ow := lz.r.o
  have hx' := he x (by simp)
  have hy' := he y (by simp)
  simp only [pwA, if_true, if_false, eq_self, nm_eq, reduceCtorEq, ↓reduceIte, nQ10, nQ7, nQ11, nQ12, nQ16, nQ17, nQ18, iQ2, iQ3, iQ4, iQ5, iQ6, lQ19, iQ7, lQ20]
  refine comm_FI lz hs hR hx' hy' hx hy fun vc fc => ?_
  simp only [pwA, if_true, if_false, eq_self, nm_eq, reduceCtorEq, ↓reduceIte, nQ10, nQ7, nQ11, nQ12, nQ16, nQ17, nQ18, iQ2, iQ3, iQ4, iQ5, iQ6, lQ19, iQ7, lQ20]
  have ec := comm_el lz hx' hy'
  have ea := comm_el lz ec hx'
  have eb := comm_el lz ec hy'
  have lc := lz.comm hx' hy' (lz.r.all hx')
  have la := lz.comm ec hx' lc
  have lb := lz.comm ec hy' lc
  refine comm_FI lz hs hR ec hx' fc hx fun va fa => ?_
  simp only [pwA, if_true, if_false, eq_self, nm_eq, reduceCtorEq, ↓reduceIte, nQ10, nQ7, nQ11, nQ12, nQ16, nQ17, nQ18, iQ2, iQ3, iQ4, iQ5, iQ6, lQ19, iQ7, lQ20]
  refine divideLie_FI ow hs hR.P lz.pow ea fa fun v2 z2 d2 f2 => ?_
  rw [part_neg ow ea d2 (c_two lz ea (lz.r.down la))] at f2
  simp only [pwA, if_true, if_false, eq_self, nm_eq, reduceCtorEq, ↓reduceIte, nQ10, nQ7, nQ11, nQ12, nQ16, nQ17, nQ18, iQ2, iQ3, iQ4, iQ5, iQ6, lQ19, iQ7, lQ20]
  refine comm_FI lz hs hR ec hy' fc hy fun vb fb => ?_
  simp only [pwA, if_true, if_false, eq_self, nm_eq, reduceCtorEq, ↓reduceIte, nQ10, nQ7, nQ11, nQ12, nQ16, nQ17, nQ18, iQ2, iQ3, iQ4, iQ5, iQ6, lQ19, iQ7, lQ20]
  refine divideLie_FI ow hs hR.P lz.pow eb fb fun v3 z3 d3 f3 => ?_
  rw [part_neg ow eb d3 (c_two lz eb (lz.r.down lb))] at f3
  simp only [pwA, if_true, if_false, eq_self, nm_eq, reduceCtorEq, ↓reduceIte, nQ10, nQ7, nQ11, nQ12, nQ16, nQ17, nQ18, iQ2, iQ3, iQ4, iQ5, iQ6, lQ19, iQ7, lQ20, hx.one, hx.cells, hy.one, hy.cells, fc.one, fc.cells, f2.one, f2.cells, f3.one, f3.cells]
  have hkp2 : Keep σ (((((σ.new [.int .i64 p, vP, vB]).new [vx, vy]).kill (σ.next + 1)).new [vc, v2, v3]).kill (σ.next + 2)) := (hkp.new _).kill (by omega)
  have hs2 : PtrR (((((σ.new [.int .i64 p, vP, vB]).new [vx, vy]).kill (σ.next + 1)).new [vc, v2, v3]).kill (σ.next + 2)) σ.next p vP vB := ⟨by simp only [pwA, if_true, if_false, eq_self, nm_eq, reduceCtorEq, ↓reduceIte, nQ10, nQ7, nQ11, nQ12, nQ16, nQ17, nQ18, iQ2, iQ3, iQ4, iQ5, iQ6, lQ19, iQ7, lQ20], by simp only [pwA, if_true, if_false, eq_self, nm_eq, reduceCtorEq, ↓reduceIte, nQ10, nQ7, nQ11, nQ12, nQ16, nQ17, nQ18, iQ2, iQ3, iQ4, iQ5, iQ6, lQ19, iQ7, lQ20]; omega⟩
  refine PCalls.frz (s := σ.next + 2) (cs := [vc, v2, v3]) (by simp only [pwA, if_true, if_false, eq_self, nm_eq, reduceCtorEq, ↓reduceIte, nQ10, nQ7, nQ11, nQ12, nQ16, nQ17, nQ18, iQ2, iQ3, iQ4, iQ5, iQ6, lQ19, iQ7, lQ20]) ⟨fc.bel 0, f2.bel 0, f3.bel 0, trivial⟩ fun o2 => ?_
  simp only [sbs, sb, capOK, and_self, if_true, decide_true, Nat.le_refl, fc.one, fc.cells, fc.sb, f2.one, f2.cells, f2.sb, f3.one, f3.cells, f3.sb]
  refine PCalls.fzIT (fun K' => bchFold_ok lz hs2 hR (rows3 fc f2 f3) (els3 ec (neg_el ow (dv_el ow ea)) (neg_el ow (dv_el ow eb))) (by simp)) fun v t hv ho ht => ?_
  simp only [pwA, if_true, if_false, eq_self, nm_eq, reduceCtorEq, ↓reduceIte, nQ10, nQ7, nQ11, nQ12, nQ16, nQ17, nQ18, iQ2, iQ3, iQ4, iQ5, iQ6, lQ19, iQ7, lQ20]
  exact Gh.fin0T (t := t) (hkp2.up ht) (Nat.le_refl _) ⟨hv.bel _, trivial, trivial⟩ fun _ => hk _ _ _ t (.inr ⟨hc, rfl, rfl⟩) hv ho ht
end Go.Proofs
namespace Go.Proofs
open Go.Ab Go.Lie
variable {σ : PHeap} {K : PV → PHeap → Prop} {p : Int} {n c m k : Nat} {W : List (List Int)} {B : List (List (List Int))} {vP vB vL : PV} {s : Nat} {x y u v : List Int} {vx vy : PV} {xs : List (List Int)}
theorem el2 (h : Els p n [x, y]) : El p n x ∧ El p n y := ⟨h x (by simp), h y (by simp)⟩
theorem prod_bd {z : List Int} {c : Int} (h : CodR p W B [x, y] [] (bch p W.length W B x y) z c) : z.length ≤ 6 := h.bd fun hh => bch_el hh.1.1.1.w hh.1.1.1.b (el2 hh.1.2).1 (el2 hh.1.2).2
theorem BchFold_T (hR : IsR vP vB W B) (szr : SzR W B) (hL : FII vL xs) (sz : SzL xs)
    (hk : ∀ v z c t, CodR p W B xs [] (fold p W.length W B xs) z c → FI v z → Own σ.top t v → σ.top ≤ t → K (.tup [v, .int .i64 c]) (σ.up t)) : PCalls Tryz.prog 22 [.agg [.int .i64 p, vP, vB], vL] σ K := by
  have h1 := hR.P.one
  have h2 := hR.B.one
  refine PCalls.gh ?_
  refine pcalls_of_vp mix Tryz.func22 cf22 rfl ?_
  dsimp only [if22, qI, eI, nI, qD, eD]
  simp only [pwA, if_true, if_false, eq_self, nm_eq, reduceCtorEq, ↓reduceIte, nQ10, nQ7, nQ11, nQ12, nQ16, nQ17, nQ18, iQ2, iQ3, iQ4, iQ5, iQ6, lQ19, iQ7, lQ20, h1, h2]
  have hkp : Keep σ (σ.new [.int .i64 p, vP, vB]) := keep_new σ _
  have hs : PtrR (σ.new [.int .i64 p, vP, vB]) σ.next p vP vB := ⟨by simp only [pwA, if_true, if_false, eq_self, nm_eq, reduceCtorEq, ↓reduceIte, nQ10, nQ7, nQ11, nQ12, nQ16, nQ17, nQ18, iQ2, iQ3, iQ4, iQ5, iQ6, lQ19, iQ7, lQ20], by simp only [pwA, if_true, if_false, eq_self, nm_eq, reduceCtorEq, ↓reduceIte, nQ10, nQ7, nQ11, nQ12, nQ16, nQ17, nQ18, iQ2, iQ3, iQ4, iQ5, iQ6, lQ19, iQ7, lQ20]⟩
  refine lazardCode_ok hs hR szr hL sz fun c hc => ?_
  by_cases hc0 : c = 0
  rotate_left
  · simp only [pwA, if_true, if_false, eq_self, nm_eq, reduceCtorEq, ↓reduceIte, nQ10, nQ7, nQ11, nQ12, nQ16, nQ17, nQ18, iQ2, iQ3, iQ4, iQ5, iQ6, lQ19, iQ7, lQ20, hc0]
    exact Gh.fin0T (t := σ.top) hkp hkp.top ⟨trivial, trivial, trivial⟩ fun _ => hk _ [] _ σ.top (.inl ⟨c, hc, hc0, rfl, rfl⟩) ⟨_, _, rfl⟩ (Own.empty _ _ _ _ _) (Nat.le_refl _)
  subst hc0
  obtain ⟨⟨hl, he⟩, hz⟩ := hc.zero
  obtain ⟨cc, lz⟩ := Lz.of hl hz
  simp only [pwA, if_true, if_false, eq_self, nm_eq, reduceCtorEq, ↓reduceIte, nQ10, nQ7, nQ11, nQ12, nQ16, nQ17, nQ18, iQ2, iQ3, iQ4, iQ5, iQ6, lQ19, iQ7, lQ20]
  refine PCalls.fzIT (fun K' => bchFold_ok lz hs hR hL he sz.l) fun v t hv ho ht => ?_
  simp only [pwA, if_true, if_false, eq_self, nm_eq, reduceCtorEq, ↓reduceIte, nQ10, nQ7, nQ11, nQ12, nQ16, nQ17, nQ18, iQ2, iQ3, iQ4, iQ5, iQ6, lQ19, iQ7, lQ20]
  exact Gh.fin0T (t := t) (hkp.up ht) (Nat.le_refl _) ⟨hv.bel _, trivial, trivial⟩ fun _ => hk _ _ _ t (.inr ⟨hc, rfl, rfl⟩) hv ho ht
end Go.Proofs
namespace Go.Proofs
open Go.Ab Go.Lie
variable {σ : PHeap} {K : PV → PHeap → Prop} {n : Nat} {p : Int}
structure LS where
  s : Nat
  cap : Cap
  cs : List PV
def LS.pv (q : LS) : PV := .sl q.s 0 q.cs.length q.cap
def LS.ok (h : PHeap) (b : Nat) (q : LS) : Prop := full 1 q.cap q.cs.length ∧ h.obj q.s = some q.cs ∧ b ≤ q.s ∧ q.s < h.next
theorem LS.ok.move {h h2 : PHeap} {b : Nat} {q : LS} (a : q.ok h b) (ho : h2.obj q.s = h.obj q.s) (hn : h.next ≤ h2.next) : q.ok h2 b := ⟨a.1, by rw [ho]; exact a.2.1, a.2.2.1, Nat.lt_of_lt_of_le a.2.2.2 hn⟩
theorem pacc_lt {b e m : Nat} {h : PHeap} {v : PV} {cs : List PV} (a : PAcc b e h v m cs) {s off l : Nat} {c : Cap} (hv : v = .sl s off l c) : s < h.next := by
  rcases a with ⟨rfl, _⟩ | ⟨s', cap, rfl, h1, h2', h3, h4, h5⟩
  · cases hv
  · cases hv; exact h5
variable {h : PHeap} {p0 sO : Nat} {vO vP vC : PV} {cO pc : List PV} {ls : List (Option LS)}
end Go.Proofs
namespace Go.Proofs
open Go.Ab Go.Lie
variable {σ : PHeap} {K : PV → PHeap → Prop} {p : Int} {n c m k : Nat} {W : List (List Int)} {B : List (List (List Int))} {vP vB vL : PV} {s : Nat} {x y u v : List Int} {vx vy : PV} {xs : List (List Int)}
theorem l01Own2_ok (hL : FII vL xs) (sz : SzL xs) (hk : ∀ v, FII v xs → K v σ) : PCalls Tryz.prog 112 [vL] σ K := by
  have hb := sz.l
  obtain ⟨wl, al, rl, rfl, hrl⟩ := hL
  refine PCalls.gh ?_
  refine pcalls_of_vp mix Tryz.func112 cf112 rfl ?_
  dsimp only [if112, qI, eI, nI, qD, eD]
  simp only [pwA, if_true, if_false, eq_self, nm_eq, reduceCtorEq, ↓reduceIte, nQ10, nQ7, nQ11, nQ12, nQ16, nQ17, nQ18, iQ2, iQ3, iQ4, iQ5, iQ6, lQ19, iQ7, lQ20]
  refine vp_loop (fun m vs h' => ∃ i v rows, i ≤ xs.length ∧ m = xs.length - i ∧ vs = [.fz wl al xs.length rl, v, .int .i64 (i : Nat)] ∧ Keep σ h' ∧ PSl σ.next 1 h' v i rows ∧ All2 FI rows (xs.take i)) xs.length ?_ ?_
  · exact ⟨0, _, [], by omega, by omega, rfl, keep_new σ _, PSl.new σ.next 1 rfl (Nat.le_refl _), by simpa using All2.nil _⟩
  · rintro m vs h' ⟨i, v, rows, hi, rfl, rfl, hkp, ha, hall⟩
    simp only [pwA, if_true, if_false, eq_self, nm_eq, reduceCtorEq, ↓reduceIte, nQ10, nQ7, nQ11, nQ12, nQ16, nQ17, nQ18, iQ2, iQ3, iQ4, iQ5, iQ6, lQ19, iQ7, lQ20]
    refine iteI (fun hlt => ?_) fun hge => ?_
    · obtain ⟨w4, a4, hrk⟩ := hrl.rowI hlt
      simp only [pwA, if_true, if_false, eq_self, nm_eq, reduceCtorEq, ↓reduceIte, nQ10, nQ7, nQ11, nQ12, nQ16, nQ17, nQ18, iQ2, iQ3, iQ4, iQ5, iQ6, lQ19, iQ7, lQ20, hlt, hrk]
      refine PCalls.fz (e := 1) (fun K' => l01Own_ok rfl (by have := sz.r _ (List.getElem_mem hlt); omega)) (pis_bel _ _) fun o cap => ?_
      simp only [pwA, if_true, if_false, eq_self, nm_eq, reduceCtorEq, ↓reduceIte, nQ10, nQ7, nQ11, nQ12, nQ16, nQ17, nQ18, iQ2, iQ3, iQ4, iQ5, iQ6, lQ19, iQ7, lQ20]
      refine PSl.push (bytes := 24) (σb := σ) hkp ha (by omega) (by omega) fun v2 h2 k2 a2 => ?_
      simp only [pwA, if_true, if_false, eq_self, nm_eq, reduceCtorEq, ↓reduceIte, nQ10, nQ7, nQ11, nQ12, nQ16, nQ17, nQ18, iQ2, iQ3, iQ4, iQ5, iQ6, lQ19, iQ7, lQ20, wrapS hlt (by omega : xs.length ≤ 4611686018427387904)]
      refine ⟨_, by omega, i + 1, v2, _, by omega, rfl, rfl, k2, a2, ?_⟩
      rw [List.take_succ_eq_append_getElem hlt]
      exact hall.snoc ⟨_, _, rfl⟩
    · have hie : i = xs.length := by omega
      subst hie
      rw [List.take_length] at hall
      exact ha.fin hkp (hall.bI 0) fun o cap => hk _ ⟨_, _, _, rfl, hall⟩
noncomputable def terms (p : Int) (n : Nat) (W : List (List Int)) (B : List (List (List Int))) (x y : List Int) : List (List Int) := [ladd p W x y, dv p n W 2 (br p W B n x y), dv p n W 12 (third3 p W B n x y)]
theorem terms_el (o : OkW p n W) (q : OkB p n B) (hx : El p n x) (hy : El p n y) : Els p n (terms p n W B x y) := els3 (lmix_el o hx hy) (dv_el o (br_el o q)) (dv_el o (third_el o q))
theorem szL_els (o : OkW p n W) {zs : List (List Int)} (h : Els p n zs) (hl : zs.length ≤ 1048576) : SzL zs := ⟨hl, fun x hx => by have := (h x hx).1; have := o.le; omega⟩
theorem CodR.bdL {val z : List (List Int)} {c : Int} (h : CodR p W B xs [] val z c) (hv : (isLie p W B ∧ Els p W.length xs) ∧ isLz p W.length W B → Els p W.length val ∧ val.length ≤ 1048576) : SzL z := by
  rcases h with ⟨d, h1, h2, h3, rfl⟩ | ⟨h1, h3, rfl⟩
  · exact ⟨by simp, fun x hx => by cases hx⟩
  · obtain ⟨a, b⟩ := hv h1.zero
    exact szL_els h1.zero.1.1.1.w a b
theorem terms_bd {z : List (List Int)} {c : Int} (h : CodR p W B [x, y] [] (terms p W.length W B x y) z c) : SzL z := h.bdL fun hh => ⟨terms_el hh.1.1.1.w hh.1.1.1.b (el2 hh.1.2).1 (el2 hh.1.2).2, by simp [terms]⟩
theorem BchTerms_T (hR : IsR vP vB W B) (szr : SzR W B) (hx : FI vx x) (szx : x.length ≤ 1048576) (hy : FI vy y) (szy : y.length ≤ 1048576)
    (hk : ∀ v z c t, CodR p W B [x, y] [] (terms p W.length W B x y) z c → FII v z → Own σ.top t v → σ.top ≤ t → K (.tup [v, .int .i64 c]) (σ.up t)) : PCalls Tryz.prog 28 [.agg [.int .i64 p, vP, vB], vx, vy] σ K := by
  have h1 := hR.P.one
  have h2 := hR.B.one
  refine PCalls.gh ?_
  refine pcalls_of_vp mix Tryz.func28 cf28 rfl ?_
  dsimp only [if28, qI, eI, nI, qD, eD]
  simp only [pwA, if_true, if_false, eq_self, nm_eq, reduceCtorEq, ↓reduceIte, nQ10, nQ7, nQ11, nQ12, nQ16, nQ17, nQ18, iQ2, iQ3, iQ4, iQ5, iQ6, lQ19, iQ7, lQ20, h1, h2, hx.one, hx.cells, hy.one, hy.cells]
  have hkp : Keep σ (((σ.new [.int .i64 p, vP, vB]).new [vx, vy]).kill (σ.next + 1)) := ((keep_new σ _).new _).kill (by omega)
  have hs : PtrR (((σ.new [.int .i64 p, vP, vB]).new [vx, vy]).kill (σ.next + 1)) σ.next p vP vB := ⟨by simp only [pwA, if_true, if_false, eq_self, nm_eq, reduceCtorEq, ↓reduceIte, nQ10, nQ7, nQ11, nQ12, nQ16, nQ17, nQ18, iQ2, iQ3, iQ4, iQ5, iQ6, lQ19, iQ7, lQ20], by simp only [pwA, if_true, if_false, eq_self, nm_eq, reduceCtorEq, ↓reduceIte, nQ10, nQ7, nQ11, nQ12, nQ16, nQ17, nQ18, iQ2, iQ3, iQ4, iQ5, iQ6, lQ19, iQ7, lQ20]; omega⟩
  refine PCalls.frz (s := σ.next + 1) (cs := [vx, vy]) (by simp only [pwA, if_true, if_false, eq_self, nm_eq, reduceCtorEq, ↓reduceIte, nQ10, nQ7, nQ11, nQ12, nQ16, nQ17, nQ18, iQ2, iQ3, iQ4, iQ5, iQ6, lQ19, iQ7, lQ20]) ⟨hx.bel 0, hy.bel 0, trivial⟩ fun o => ?_
  simp only [sbs, sb, capOK, and_self, if_true, decide_true, Nat.le_refl, hx.sb, hy.sb]
  refine lazardCode_ok (xs := [x, y]) hs hR szr (two_row hx hy) (SzL.two szx szy) fun c hc => ?_
  by_cases hc0 : c = 0
  rotate_left
  · simp only [pwA, if_true, if_false, eq_self, nm_eq, reduceCtorEq, ↓reduceIte, nQ10, nQ7, nQ11, nQ12, nQ16, nQ17, nQ18, iQ2, iQ3, iQ4, iQ5, iQ6, lQ19, iQ7, lQ20, hc0]
    exact Gh.fin0T (t := σ.top) hkp hkp.top ⟨trivial, trivial, trivial⟩ fun _ => hk _ [] _ σ.top (.inl ⟨c, hc, hc0, rfl, rfl⟩) ⟨_, _, [], rfl, All2.nil _⟩ (Own.empty _ _ _ _ _) (Nat.le_refl _)
  subst hc0
  obtain ⟨⟨hl, he⟩, hz⟩ := hc.zero
  obtain ⟨cc, lz⟩ := Lz.of hl hz
  have hx' := he x (by simp)
  have hy' := he y (by simp)
  simp only [pwA, if_true, if_false, eq_self, nm_eq, reduceCtorEq, ↓reduceIte, nQ10, nQ7, nQ11, nQ12, nQ16, nQ17, nQ18, iQ2, iQ3, iQ4, iQ5, iQ6, lQ19, iQ7, lQ20]
  refine bchTerms_T lz hs hR hx' hy' hx hy fun a v1 v2 v3 t f1 f2 f3 ho ht => ?_
  simp only [pwA, if_true, if_false, eq_self, nm_eq, reduceCtorEq, ↓reduceIte, nQ10, nQ7, nQ11, nQ12, nQ16, nQ17, nQ18, iQ2, iQ3, iQ4, iQ5, iQ6, lQ19, iQ7, lQ20]
  exact Gh.fin0T (t := t) (hkp.up ht) (Nat.le_refl _) ⟨trivial, trivial, trivial⟩ fun _ => hk _ _ _ t (.inr ⟨hc, rfl, rfl⟩) (rows3 f1 f2 f3) ho ht
theorem l33BchTerms_ok (hR : IsR vP vB W B) (szr : SzR W B) (hx : FI vx x) (szx : x.length ≤ 1048576) (hy : FI vy y) (szy : y.length ≤ 1048576)
    (hk : ∀ v z c, CodR p W B [x, y] [] (terms p W.length W B x y) z c → FII v z → K (.tup [v, .int .i64 c]) σ) : PCalls Tryz.prog 29 [.agg [.int .i64 p, vP, vB], vx, vy] σ K := by
  have h1 := hR.P.one
  have h2 := hR.B.one
  refine PCalls.gh ?_
  refine pcalls_of_vp mix Tryz.func29 cf29 rfl ?_
  dsimp only [if29, qI, eI, nI, qD, eD]
  simp only [pwA, if_true, if_false, eq_self, nm_eq, reduceCtorEq, ↓reduceIte, nQ10, nQ7, nQ11, nQ12, nQ16, nQ17, nQ18, iQ2, iQ3, iQ4, iQ5, iQ6, lQ19, iQ7, lQ20, h1, h2, hx.one, hx.cells, hy.one, hy.cells]
  have hkp : Keep σ (((σ.new [.int .i64 p, vP, vB]).new [vx, vy]).kill (σ.next + 1)) := ((keep_new σ _).new _).kill (by omega)
  refine PCalls.frz (s := σ.next + 1) (cs := [vx, vy]) (by simp only [pwA, if_true, if_false, eq_self, nm_eq, reduceCtorEq, ↓reduceIte, nQ10, nQ7, nQ11, nQ12, nQ16, nQ17, nQ18, iQ2, iQ3, iQ4, iQ5, iQ6, lQ19, iQ7, lQ20]) ⟨hx.bel 0, hy.bel 0, trivial⟩ fun o => ?_
  simp only [sbs, sb, capOK, and_self, if_true, decide_true, Nat.le_refl, hR.P.sb, hR.B.sb, hx.sb, hy.sb]
  refine l33Code_ok (xs := [x, y]) hR szr (two_row hx hy) (SzL.two szx szy) fun c hc => ?_
  by_cases hc0 : c = 0
  rotate_left
  · simp only [pwA, if_true, if_false, eq_self, nm_eq, reduceCtorEq, ↓reduceIte, nQ10, nQ7, nQ11, nQ12, nQ16, nQ17, nQ18, iQ2, iQ3, iQ4, iQ5, iQ6, lQ19, iQ7, lQ20, hc0]
    exact Gh.fin0 hkp ⟨trivial, trivial, trivial⟩ (hk _ [] _ (.inl ⟨c, hc, hc0, rfl, rfl⟩) ⟨_, _, [], rfl, All2.nil _⟩)
  subst hc0
  obtain ⟨⟨hl, he⟩, hz⟩ := hc.zero
  obtain ⟨cc, lz⟩ := Lz.of hl hz
  have hx' := he x (by simp)
  have hy' := he y (by simp)
  simp only [pwA, if_true, if_false, eq_self, nm_eq, reduceCtorEq, ↓reduceIte, nQ10, nQ7, nQ11, nQ12, nQ16, nQ17, nQ18, iQ2, iQ3, iQ4, iQ5, iQ6, lQ19, iQ7, lQ20]
  refine l33Terms_fz lz hR hx' hy' hx hy fun a v1 v2 v3 f1 f2 f3 => ?_
  simp only [pwA, if_true, if_false, eq_self, nm_eq, reduceCtorEq, ↓reduceIte, nQ10, nQ7, nQ11, nQ12, nQ16, nQ17, nQ18, iQ2, iQ3, iQ4, iQ5, iQ6, lQ19, iQ7, lQ20]
  have te := terms_el lz.r.o lz.r.q hx' hy'
  refine l01Own2_ok (xs := terms p W.length W B x y) (rows3 f1 f2 f3) (szL_els lz.r.o te (by simp [terms])) fun v hv => ?_
  simp only [pwA, if_true, if_false, eq_self, nm_eq, reduceCtorEq, ↓reduceIte, nQ10, nQ7, nQ11, nQ12, nQ16, nQ17, nQ18, iQ2, iQ3, iQ4, iQ5, iQ6, lQ19, iQ7, lQ20]
  exact Gh.fin0 hkp ⟨hv.bel _, trivial, trivial⟩ (hk _ _ _ (.inr ⟨hc, rfl, rfl⟩) hv)
def adj (p : Int) (n : Nat) (W : List (List Int)) (B : List (List (List Int))) (y x : List Int) : Nat → List Int
  | 0 => x
  | j + 1 => br p W B n (adj p n W B y x j) y
def fact : Nat → Int
  | 0 => 1
  | j + 1 => fact j * (j + 1 : Nat)
noncomputable def cterm (p : Int) (n : Nat) (W : List (List Int)) (B : List (List (List Int))) (y x : List Int) (j : Nat) : List Int := dv p n W (fact j) (adj p n W B y x j)
def IsTerms (p : Int) (n : Nat) (W : List (List Int)) (B : List (List (List Int))) (x y : List Int) (z : List (List Int)) : Prop :=
  ∃ m, z = (List.range m).map (cterm p n W B y x) ∧ isZ (adj p n W B y x m) ∧ ∀ j, j < m → ¬ isZ (adj p n W B y x j)
theorem IsTerms.unique {z z' : List (List Int)} (h : IsTerms p n W B x y z) (g : IsTerms p n W B x y z') : z = z' := by
  obtain ⟨m, rfl, h1, h2⟩ := h
  obtain ⟨m', rfl, g1, g2⟩ := g
  have : m = m' := by
    rcases Nat.lt_trichotomy m m' with e | e | e
    · exact absurd h1 (g2 m e)
    · exact e
    · exact absurd g1 (h2 m' e)
  rw [this]
noncomputable def cterms (p : Int) (n : Nat) (W : List (List Int)) (B : List (List (List Int))) (x y : List Int) : List (List Int) := Classical.epsilon (IsTerms p n W B x y)
theorem IsTerms.eq {z : List (List Int)} (h : IsTerms p n W B x y z) : z = cterms p n W B x y := h.unique (Classical.epsilon_spec ⟨z, h⟩)
theorem adj_el (o : OkW p n W) (q : OkB p n B) (hx : El p n x) : ∀ j, El p n (adj p n W B y x j)
  | 0 => hx
  | j + 1 => br_el o q
theorem adj_lw (r : Rg p n W B c) (hx : El p n x) : ∀ j, Lw p n W B j (at_ (adj p n W B y x j))
  | 0 => r.all hx
  | j + 1 => r.bL (adj_lw r hx j)
theorem adj_lt (z : Lz p n W B c) (hx : El p n x) {j : Nat} (h : ¬ isZ (adj p n W B y x j)) : j < c := by
  rcases Nat.lt_or_ge j c with e | e
  · exact e
  · exact absurd (z.r.zero e (adj_el z.r.o z.r.q hx j) (adj_lw z.r hx j)) h
theorem cop_fact {p : Int} (hp : isP p) {j : Nat} (h : (j : Int) < p) : Cop p (fact j) ∧ 1 ≤ fact j ∧ fact j ≤ 720 := by
  have e : j = 0 ∨ j = 1 ∨ j = 2 ∨ j = 3 ∨ j = 4 ∨ j = 5 ∨ j = 6 := by have := hp.bd; omega
  rcases e with rfl | rfl | rfl | rfl | rfl | rfl | rfl <;> refine ⟨cop_of_mod hp ?_, by decide, by decide⟩ <;> rcases hp with rfl | rfl | rfl | rfl <;> first | decide | omega
end Go.Proofs
namespace Go.Proofs
open Go.Ab Go.Lie
variable {σ : PHeap} {K : PV → PHeap → Prop} {p : Int} {n c m k : Nat} {W : List (List Int)} {B : List (List (List Int))} {vP vB vL : PV} {s : Nat} {x y u v : List Int} {vx vy : PV} {xs : List (List Int)}
theorem Gh.own2 {σ0 σ1 : PHeap} {s l : Nat} {cap : Cap} {cs : List PV} {kk : IntKind} {r : Int} (hk : Keep σ0 σ1) (hs : σ1.obj s = some cs) (h0 : σ0.next ≤ s) (hb : Bels 0 cs) (hcap : capOK cap l = true) (ho : Owns σ0.top σ1.top cs)
    (k : ∀ o t, Own σ0.top t (.fz true (.sl o 0 l cap) l cs) → σ0.top ≤ t → K (.tup [.fz true (.sl o 0 l cap) l cs, .int kk r]) (σ0.up t)) : Gh σ0 K (.tup [.sl s 0 l cap, .int kk r]) σ1 :=
  Gh.freeze hs h0 hb fun o h1 hc _ => by
    simp only [sb, sbs]
    rw [if_pos ⟨trivial, trivial, hcap⟩]
    exact Gh.fin0T (t := max σ1.top (o + 1)) ((hk.kill h0).up (by simp only [PHeap.kill]; omega)) (Nat.le_refl _) ⟨trivial, trivial, trivial⟩ fun w => k o _ ((ho.mono (Nat.le_refl _) (by omega)).fz h1 (by omega) fun hm => hc (eads_addrs hm)) (by have := hk.top; omega)
theorem PAcc.own2 {σ0 h : PHeap} {b e n : Nat} {v : PV} {cs : List PV} {kk : IntKind} {r : Int} (hk : Keep σ0 h) (hb0 : σ0.next ≤ b) (a : PAcc b e h v n cs) (hb : Bels 0 cs) (ho : Owns σ0.top h.top cs)
    (k : ∀ a t, Own σ0.top t (.fz true a n cs) → σ0.top ≤ t → K (.tup [.fz true a n cs, .int kk r]) (σ0.up t)) : Gh σ0 K (.tup [v, .int kk r]) h := by
  rcases a with ⟨rfl, rfl, rfl⟩ | ⟨s, cap, rfl, hc, q2, q3, q4, q5⟩
  · exact Gh.fin0T hk hk.top ⟨trivial, trivial, trivial⟩ fun _ => k _ σ0.top (Own.empty _ _ _ _ _) (Nat.le_refl _)
  · exact Gh.own2 hk q2 (by omega) hb hc.ok ho fun o t h1 h2 => k _ t h1 h2
theorem bracket_FI (o : OkW p n W) (q : OkB p n B) (hs : PtrR σ s p vP vB) (hR : IsR vP vB W B) (hx : El p n x) (hy : El p n y) (hvx : FI vx x) (hvy : FI vy y) (hk : ∀ v, FI v (br p W B n x y) → K v σ) : PCalls Tryz.prog 115 [.ptr s 0, vx, vy] σ K := by
  obtain ⟨wx, ax, rfl⟩ := hvx
  obtain ⟨wy, ay, rfl⟩ := hvy
  exact bracket_fz hs hR o q hx hy rfl rfl fun v => hk _ ⟨_, _, by rw [(br_el o q).1]⟩
theorem l31Bracket_FI (o : OkW p n W) (q : OkB p n B) (hR : IsR vP vB W B) (hx : El p n x) (hy : El p n y) (hvx : FI vx x) (hvy : FI vy y) (hk : ∀ v, FI v (br p W B n x y) → K v σ) : PCalls Tryz.prog 116 [.agg [.int .i64 p, vP, vB], vx, vy] σ K := by
  obtain ⟨wx, ax, rfl⟩ := hvx
  obtain ⟨wy, ay, rfl⟩ := hvy
  exact l31Bracket_ok hR o q hx hy rfl rfl fun v => hk _ ⟨_, _, by rw [show (norm p W (bsum B x y n)).length = n from (br_el o q).1]⟩
theorem map_range_succ {α : Type} (f : Nat → α) (j : Nat) : (List.range (j + 1)).map f = (List.range j).map f ++ [f j] := by rw [List.range_succ, List.map_append]; rfl
theorem ConjugateTerms_T (hR : IsR vP vB W B) (szr : SzR W B) (hx : FI vx x) (szx : x.length ≤ 1048576) (hy : FI vy y) (szy : y.length ≤ 1048576)
    (hk : ∀ v z c t, CodR p W B [x, y] [] (cterms p W.length W B x y) z c → FII v z → Own σ.top t v → σ.top ≤ t → K (.tup [v, .int .i64 c]) (σ.up t)) : PCalls Tryz.prog 36 [.agg [.int .i64 p, vP, vB], vx, vy] σ K := by
  have h1 := hR.P.one
  have h2 := hR.B.one
  refine PCalls.gh ?_
  refine pcalls_of_vp mix Tryz.func36 cf36 rfl ?_
  dsimp only [if36, qI, eI, nI, qD, eD]
  simp only [pwA, if_true, if_false, eq_self, nm_eq, reduceCtorEq, ↓reduceIte, nQ10, nQ7, nQ11, nQ12, nQ16, nQ17, nQ18, iQ2, iQ3, iQ4, iQ5, iQ6, lQ19, iQ7, lQ20, h1, h2, hx.one, hx.cells, hy.one, hy.cells]
  have hkp : Keep σ (((σ.new [.int .i64 p, vP, vB]).new [vx, vy]).kill (σ.next + 1)) := ((keep_new σ _).new _).kill (by omega)
  have hs : PtrR (((σ.new [.int .i64 p, vP, vB]).new [vx, vy]).kill (σ.next + 1)) σ.next p vP vB := ⟨by simp only [pwA, if_true, if_false, eq_self, nm_eq, reduceCtorEq, ↓reduceIte, nQ10, nQ7, nQ11, nQ12, nQ16, nQ17, nQ18, iQ2, iQ3, iQ4, iQ5, iQ6, lQ19, iQ7, lQ20], by simp only [pwA, if_true, if_false, eq_self, nm_eq, reduceCtorEq, ↓reduceIte, nQ10, nQ7, nQ11, nQ12, nQ16, nQ17, nQ18, iQ2, iQ3, iQ4, iQ5, iQ6, lQ19, iQ7, lQ20]; omega⟩
  refine PCalls.frz (s := σ.next + 1) (cs := [vx, vy]) (by simp only [pwA, if_true, if_false, eq_self, nm_eq, reduceCtorEq, ↓reduceIte, nQ10, nQ7, nQ11, nQ12, nQ16, nQ17, nQ18, iQ2, iQ3, iQ4, iQ5, iQ6, lQ19, iQ7, lQ20]) ⟨hx.bel 0, hy.bel 0, trivial⟩ fun o => ?_
  simp only [sbs, sb, capOK, and_self, if_true, decide_true, Nat.le_refl, hx.sb, hy.sb]
  refine lazardCode_ok (xs := [x, y]) hs hR szr (two_row hx hy) (SzL.two szx szy) fun c hc => ?_
  by_cases hc0 : c = 0
  rotate_left
  · simp only [pwA, if_true, if_false, eq_self, nm_eq, reduceCtorEq, ↓reduceIte, nQ10, nQ7, nQ11, nQ12, nQ16, nQ17, nQ18, iQ2, iQ3, iQ4, iQ5, iQ6, lQ19, iQ7, lQ20, hc0]
    exact Gh.fin0T (t := σ.top) hkp hkp.top ⟨trivial, trivial, trivial⟩ fun _ => hk _ [] _ σ.top (.inl ⟨c, hc, hc0, rfl, rfl⟩) ⟨_, _, [], rfl, All2.nil _⟩ (Own.empty _ _ _ _ _) (Nat.le_refl _)
  subst hc0
  obtain ⟨⟨hl, he⟩, hz⟩ := hc.zero
  obtain ⟨cc, lz⟩ := Lz.of hl hz
  have ow := lz.r.o
  have q := lz.r.q
  have hn6 := ow.le
  have hx' := he x (by simp)
  have hy' := he y (by simp)
  have hcc : (cc : Int) < p := lz.hc
  have hpb := lz.hp.bd
  generalize hH : ((σ.new [.int .i64 p, vP, vB]).new [vx, vy]).kill (σ.next + 1) = H at *
  have hHn : σ.next ≤ H.next := hkp.next
  simp only [pwA, if_true, if_false, eq_self, nm_eq, reduceCtorEq, ↓reduceIte, nQ10, nQ7, nQ11, nQ12, nQ16, nQ17, nQ18, iQ2, iQ3, iQ4, iQ5, iQ6, lQ19, iQ7, lQ20]
  refine vp_loop (fun mm vs h' => ∃ (j : Nat) (v vo : PV) (rows : List PV), mm = cc - j ∧ j ≤ cc ∧ vs = [v, vy, .ptr σ.next 0, vo, .int .i64 (fact j), .int .i64 ((j + 1 : Nat) : Int)] ∧ FI v (adj p W.length W B y x j) ∧ Keep H h' ∧ PAcc H.next 1 h' vo j rows ∧ All2 FI rows ((List.range j).map (cterm p W.length W B y x)) ∧ Owns σ.top h'.top rows ∧ ∀ i, i < j → ¬ isZ (adj p W.length W B y x i)) cc ?_ ?_
  · exact ⟨0, vx, _, [], rfl, Nat.zero_le _, rfl, hx, Keep.refl H, PAcc.nil _ _ _, by simpa using All2.nil _, Owns.nil _ _, fun i hi => by omega⟩
  · rintro mm vs h' ⟨j, v, vo, rows, rfl, hj, rfl, hv, hk1, ha, hall, hown, hnz⟩
    have hel := adj_el ow q hx' j (y := y)
    have hk0 := hkp.trans hk1
    simp only [pwA, if_true, if_false, eq_self, nm_eq, reduceCtorEq, ↓reduceIte, nQ10, nQ7, nQ11, nQ12, nQ16, nQ17, nQ18, iQ2, iQ3, iQ4, iQ5, iQ6, lQ19, iQ7, lQ20]
    obtain ⟨wv, av, rfl⟩ := hv
    refine isZero_ok rfl (by have := hel.1; omega) ?_
    by_cases hzz : isZ (adj p W.length W B y x j)
    · simp only [pwA, if_true, if_false, eq_self, nm_eq, reduceCtorEq, ↓reduceIte, nQ10, nQ7, nQ11, nQ12, nQ16, nQ17, nQ18, iQ2, iQ3, iQ4, iQ5, iQ6, lQ19, iQ7, lQ20, hzz]
      exact PAcc.own2 hk0 hHn ha (hall.bI 0) hown fun a t h3 h4 => hk _ _ _ t (.inr ⟨hc, rfl, IsTerms.eq ⟨j, rfl, hzz, hnz⟩⟩) ⟨true, a, rows, by rw [List.length_map, List.length_range], hall⟩ h3 h4
    · have hjc := adj_lt lz hx' hzz
      obtain ⟨cf1, cf2, cf3⟩ := cop_fact lz.hp (show (j : Int) < p by omega)
      simp only [pwA, if_true, if_false, eq_self, nm_eq, reduceCtorEq, ↓reduceIte, nQ10, nQ7, nQ11, nQ12, nQ16, nQ17, nQ18, iQ2, iQ3, iQ4, iQ5, iQ6, lQ19, iQ7, lQ20, hzz]
      refine PCalls.fzITx (fun K' => divideLie_res (hs.keep hk1) hR.P ow lz.pow hel rfl) fun z vz t hd fz oz ht => ?_
      rw [dv_eq ow hel hd (.inr cf1)] at fz
      have fz' : FI vz (cterm p W.length W B y x j) := fz
      simp only [pwA, if_true, if_false, eq_self, nm_eq, reduceCtorEq, ↓reduceIte, nQ10, nQ7, nQ11, nQ12, nQ16, nQ17, nQ18, iQ2, iQ3, iQ4, iQ5, iQ6, lQ19, iQ7, lQ20, fz'.one, fz'.cells]
      have hkt : Keep (H.up t) (h'.up t) := ⟨hk1.next, Nat.le_refl _, hk1.obj⟩
      have at' : PAcc (H.up t).next 1 (h'.up t) vo j rows := ha
      refine PAcc.push (bytes := 24) (σb := H.up t) (h := h'.up t) (n := j) (x := vz) hkt at' (by omega) (by omega) fun v2 h2 k2 a2 => ?_
      have hk2 : Keep H h2 := ⟨k2.next, Nat.le_trans hk1.top (Nat.le_trans ht k2.top), k2.obj⟩
      simp only [pwA, if_true, if_false, eq_self, nm_eq, reduceCtorEq, ↓reduceIte, nQ10, nQ7, nQ11, nQ12, nQ16, nQ17, nQ18, iQ2, iQ3, iQ4, iQ5, iQ6, lQ19, iQ7, lQ20]
      refine bracket_FI ow q (hs.keep hk2) hR hel hy' ⟨_, _, rfl⟩ hy fun v3 f3 => ?_
      have hfb : fact j * ((j + 1 : Nat) : Int) = fact (j + 1) := rfl
      have hjb : ((j + 1 : Nat) : Int) ≤ 7 := by omega
      have hfs : 0 ≤ fact j * ((j + 1 : Nat) : Int) ∧ fact j * ((j + 1 : Nat) : Int) ≤ 5040 := by
        have a1 := Int.mul_le_mul cf3 hjb (by omega) (by omega)
        have a2 := Int.mul_nonneg (show 0 ≤ fact j by omega) (show 0 ≤ ((j + 1 : Nat) : Int) by omega)
        omega
      have hw2 : IntKind.i64.wrap (((j + 1 : Nat) : Int) + 1) = ((j + 1 + 1 : Nat) : Int) := by rw [wrap64 (by omega) (by omega)]; omega
      have hw3 : IntKind.i64.wrap (fact j * ((j + 1 : Nat) : Int)) = fact (j + 1) := wrap64 (n := fact j * ((j + 1 : Nat) : Int)) (by omega) (by omega)
      simp only [pwA, if_true, if_false, eq_self, nm_eq, reduceCtorEq, ↓reduceIte, nQ10, nQ7, nQ11, nQ12, nQ16, nQ17, nQ18, iQ2, iQ3, iQ4, iQ5, iQ6, lQ19, iQ7, lQ20, hw3, hw2]
      refine ⟨_, ?_, j + 1, v3, v2, _, rfl, by omega, rfl, f3, hk2, .inr a2, ?_, ?_, fun i hi => ?_⟩
      · omega
      · rw [map_range_succ]; exact hall.snoc fz'
      · exact hown.snoc (hi := h2.top) (oz.mono (Nat.le_refl _) k2.top) (hk0.top) (Nat.le_trans ht k2.top)
      · by_cases e : i = j
        · subst e; exact hzz
        · exact hnz i (by omega)
end Go.Proofs
namespace Go.Proofs
open Go.Ab Go.Lie
variable {σ : PHeap} {K : PV → PHeap → Prop} {p : Int} {n c m k : Nat} {W : List (List Int)} {B : List (List (List Int))} {vP vB vL : PV} {s : Nat} {x y u v : List Int} {vx vy : PV} {xs : List (List Int)}
theorem l33Conjugates_ok (hR : IsR vP vB W B) (szr : SzR W B) (hx : FI vx x) (szx : x.length ≤ 1048576) (hy : FI vy y) (szy : y.length ≤ 1048576)
    (hk : ∀ v z c, CodR p W B [x, y] [] (cterms p W.length W B x y) z c → FII v z → K (.tup [v, .int .i64 c]) σ) : PCalls Tryz.prog 37 [.agg [.int .i64 p, vP, vB], vx, vy] σ K := by
  have h1 := hR.P.one
  have h2 := hR.B.one
  refine PCalls.gh ?_
  refine pcalls_of_vp mix Tryz.func37 cf37 rfl ?_
  dsimp only [if37, qI, eI, nI, qD, eD]
  simp only [pwA, if_true, if_false, eq_self, nm_eq, reduceCtorEq, ↓reduceIte, nQ10, nQ7, nQ11, nQ12, nQ16, nQ17, nQ18, iQ2, iQ3, iQ4, iQ5, iQ6, lQ19, iQ7, lQ20, h1, h2, hx.one, hx.cells, hy.one, hy.cells]
  have hkp : Keep σ (((σ.new [.int .i64 p, vP, vB]).new [vx, vy]).kill (σ.next + 1)) := ((keep_new σ _).new _).kill (by omega)
  have hs : PtrR (((σ.new [.int .i64 p, vP, vB]).new [vx, vy]).kill (σ.next + 1)) σ.next p vP vB := ⟨by simp only [pwA, if_true, if_false, eq_self, nm_eq, reduceCtorEq, ↓reduceIte, nQ10, nQ7, nQ11, nQ12, nQ16, nQ17, nQ18, iQ2, iQ3, iQ4, iQ5, iQ6, lQ19, iQ7, lQ20], by simp only [pwA, if_true, if_false, eq_self, nm_eq, reduceCtorEq, ↓reduceIte, nQ10, nQ7, nQ11, nQ12, nQ16, nQ17, nQ18, iQ2, iQ3, iQ4, iQ5, iQ6, lQ19, iQ7, lQ20]; omega⟩
  refine PCalls.frz (s := σ.next + 1) (cs := [vx, vy]) (by simp only [pwA, if_true, if_false, eq_self, nm_eq, reduceCtorEq, ↓reduceIte, nQ10, nQ7, nQ11, nQ12, nQ16, nQ17, nQ18, iQ2, iQ3, iQ4, iQ5, iQ6, lQ19, iQ7, lQ20]) ⟨hx.bel 0, hy.bel 0, trivial⟩ fun o => ?_
  simp only [sbs, sb, capOK, and_self, if_true, decide_true, Nat.le_refl, hR.P.sb, hR.B.sb, hx.sb, hy.sb]
  refine l33Code_ok (xs := [x, y]) hR szr (two_row hx hy) (SzL.two szx szy) fun c hc => ?_
  by_cases hc0 : c = 0
  rotate_left
  · simp only [pwA, if_true, if_false, eq_self, nm_eq, reduceCtorEq, ↓reduceIte, nQ10, nQ7, nQ11, nQ12, nQ16, nQ17, nQ18, iQ2, iQ3, iQ4, iQ5, iQ6, lQ19, iQ7, lQ20, hc0]
    exact Gh.fin0 hkp ⟨trivial, trivial, trivial⟩ (hk _ [] _ (.inl ⟨c, hc, hc0, rfl, rfl⟩) ⟨_, _, [], rfl, All2.nil _⟩)
  subst hc0
  obtain ⟨⟨hl, he⟩, hz⟩ := hc.zero
  obtain ⟨cc, lz⟩ := Lz.of hl hz
  have ow := lz.r.o
  have q := lz.r.q
  have hn6 := ow.le
  have hx' := he x (by simp)
  have hy' := he y (by simp)
  have hcc : (cc : Int) < p := lz.hc
  have hpb := lz.hp.bd
  generalize hH : ((σ.new [.int .i64 p, vP, vB]).new [vx, vy]).kill (σ.next + 1) = H at *
  have hHn : σ.next ≤ H.next := hkp.next
  simp only [pwA, if_true, if_false, eq_self, nm_eq, reduceCtorEq, ↓reduceIte, nQ10, nQ7, nQ11, nQ12, nQ16, nQ17, nQ18, iQ2, iQ3, iQ4, iQ5, iQ6, lQ19, iQ7, lQ20]
  obtain ⟨wx, ax, rfl⟩ := hx
  refine PCalls.fz (l := x.length) (e := 1) (fun K' => l01Own_ok rfl (by omega)) (pis_bel _ _) fun o1 cap1 => ?_
  simp only [pwA, if_true, if_false, eq_self, nm_eq, reduceCtorEq, ↓reduceIte, nQ10, nQ7, nQ11, nQ12, nQ16, nQ17, nQ18, iQ2, iQ3, iQ4, iQ5, iQ6, lQ19, iQ7, lQ20]
  refine vp_loop (fun mm vs h' => ∃ (j : Nat) (v vo : PV) (rows : List PV), mm = cc - j ∧ j ≤ cc ∧ vs = [vy, .ptr σ.next 0, vo, v, .int .i64 (fact j)] ∧ FI v (adj p W.length W B y x j) ∧ Keep H h' ∧ PSl H.next 1 h' vo j rows ∧ All2 FI rows ((List.range j).map (cterm p W.length W B y x)) ∧ ∀ i, i < j → ¬ isZ (adj p W.length W B y x i)) cc ?_ ?_
  · exact ⟨0, _, _, [], rfl, Nat.zero_le _, rfl, ⟨true, _, rfl⟩, keep_new H _, PSl.new _ 1 rfl (Nat.le_refl _), by simpa using All2.nil _, fun i hi => by omega⟩
  · rintro mm vs h' ⟨j, v, vo, rows, rfl, hj, rfl, hv, hk1, ha, hall, hnz⟩
    have hel := adj_el ow q hx' j (y := y)
    have hk0 := hkp.trans hk1
    have hrd : h'.rd σ.next 0 3 = some [.int .i64 p, vP, vB] := by
      have := (hs.keep hk1).obj
      rw [obj_rd this]; rfl
    simp only [pwA, if_true, if_false, eq_self, nm_eq, reduceCtorEq, ↓reduceIte, nQ10, nQ7, nQ11, nQ12, nQ16, nQ17, nQ18, iQ2, iQ3, iQ4, iQ5, iQ6, lQ19, iQ7, lQ20]
    obtain ⟨wv, av, rfl⟩ := hv
    refine l01Zero_ok rfl (by have := hel.1; omega) ?_
    by_cases hzz : isZ (adj p W.length W B y x j)
    · simp only [pwA, if_true, if_false, eq_self, nm_eq, reduceCtorEq, ↓reduceIte, nQ10, nQ7, nQ11, nQ12, nQ16, nQ17, nQ18, iQ2, iQ3, iQ4, iQ5, iQ6, lQ19, iQ7, lQ20, hzz]
      obtain ⟨s', cap, rfl, hc', q2, q3, q4, q5⟩ := ha
      exact Gh.freeze q2 (by omega) (hall.bI 0) fun o2 g1 g2 _ => by
        simp only [sb, sbs]
        rw [if_pos ⟨trivial, trivial, hc'.ok⟩]
        exact Gh.fin0 ((hk0.kill (by omega)).up (by simp only [PHeap.kill]; omega)) ⟨trivial, trivial, trivial⟩ (hk _ _ _ (.inr ⟨hc, rfl, IsTerms.eq ⟨j, rfl, hzz, hnz⟩⟩) ⟨true, _, rows, by rw [List.length_map, List.length_range], hall⟩)
    · have hjc := adj_lt lz hx' hzz
      obtain ⟨cf1, cf2, cf3⟩ := cop_fact lz.hp (show (j : Int) < p by omega)
      simp only [pwA, if_true, if_false, eq_self, nm_eq, reduceCtorEq, ↓reduceIte, nQ10, nQ7, nQ11, nQ12, nQ16, nQ17, nQ18, iQ2, iQ3, iQ4, iQ5, iQ6, lQ19, iQ7, lQ20, hzz, hrd]
      refine l33Part_ok hR ow lz.pow hel rfl fun w1 v1 z hd => ?_
      rw [dv_eq ow hel hd (.inr cf1)]
      have hcl : (cterm p W.length W B y x j).length = W.length := (dv_el ow hel).1
      simp only [pwA, if_true, if_false, eq_self, nm_eq, reduceCtorEq, ↓reduceIte, nQ10, nQ7, nQ11, nQ12, nQ16, nQ17, nQ18, iQ2, iQ3, iQ4, iQ5, iQ6, lQ19, iQ7, lQ20]
      refine PCalls.fz (l := W.length) (e := 1) (cs := pis (cterm p W.length W B y x j)) (fun K' => by
        have := @l01Own_ok h' K' w1 v1 (cterm p W.length W B y x j) W.length hcl.symm (by omega)
        rw [hcl] at this
        exact this) (pis_bel _ _) fun o3 cap3 => ?_
      simp only [pwA, if_true, if_false, eq_self, nm_eq, reduceCtorEq, ↓reduceIte, nQ10, nQ7, nQ11, nQ12, nQ16, nQ17, nQ18, iQ2, iQ3, iQ4, iQ5, iQ6, lQ19, iQ7, lQ20]
      refine PSl.push (bytes := 24) (σb := H) hk1 ha (by omega) (by omega) fun v2 h2 k2 a2 => ?_
      have hrd2 : h2.rd σ.next 0 3 = some [.int .i64 p, vP, vB] := by
        have := (hs.keep k2).obj
        rw [obj_rd this]; rfl
      simp only [pwA, if_true, if_false, eq_self, nm_eq, reduceCtorEq, ↓reduceIte, nQ10, nQ7, nQ11, nQ12, nQ16, nQ17, nQ18, iQ2, iQ3, iQ4, iQ5, iQ6, lQ19, iQ7, lQ20, hrd2]
      refine l31Bracket_FI ow q hR hel hy' ⟨_, _, rfl⟩ hy fun v3 f3 => ?_
      have hjb : ((j + 1 : Nat) : Int) ≤ 7 := by omega
      have hfs : 0 ≤ fact j * ((j + 1 : Nat) : Int) ∧ fact j * ((j + 1 : Nat) : Int) ≤ 5040 := by
        have a1 := Int.mul_le_mul cf3 hjb (by omega) (by omega)
        have a2 := Int.mul_nonneg (show 0 ≤ fact j by omega) (show 0 ≤ ((j + 1 : Nat) : Int) by omega)
        omega
      have hw3 : IntKind.i64.wrap (fact j * ((j + 1 : Nat) : Int)) = fact (j + 1) := wrap64 (n := fact j * ((j + 1 : Nat) : Int)) (by omega) (by omega)
      simp only [pwA, if_true, if_false, eq_self, nm_eq, reduceCtorEq, ↓reduceIte, nQ10, nQ7, nQ11, nQ12, nQ16, nQ17, nQ18, iQ2, iQ3, iQ4, iQ5, iQ6, lQ19, iQ7, lQ20, hw3, a2.pLen]
      refine ⟨_, ?_, j + 1, v3, v2, _, rfl, by omega, rfl, f3, k2, a2, ?_, fun i hi => ?_⟩
      · omega
      · rw [map_range_succ]; exact hall.snoc ⟨true, _, by rw [hcl]⟩
      · by_cases e : i = j
        · subst e; exact hzz
        · exact hnz i (by omega)
theorem least_z (P : Nat → Prop) : ∀ k, P k → ∃ m, P m ∧ ∀ j, j < m → ¬ P j := by
  intro k
  induction k using Nat.strongRecOn with
  | ind k ih =>
    intro h
    by_cases e : ∃ j, j < k ∧ P j
    · obtain ⟨j, hj, hp⟩ := e
      exact ih j hj hp
    · exact ⟨k, h, fun j hj hp => e ⟨j, hj, hp⟩⟩
theorem terms_ex (lz : Lz p n W B c) (hx : El p n x) : ∃ w, IsTerms p n W B x y w := by
  obtain ⟨m, h1, h2⟩ := least_z (fun j => isZ (adj p n W B y x j)) c (lz.r.zero (Nat.le_refl c) (adj_el lz.r.o lz.r.q hx c) (adj_lw lz.r hx c))
  exact ⟨_, m, rfl, h1, h2⟩
theorem cterms_bd {z : List (List Int)} {c : Int} (h : CodR p W B [x, y] [] (cterms p W.length W B x y) z c) : SzL z := h.bdL fun hh => by
  obtain ⟨cc, lz⟩ := Lz.of hh.1.1 hh.2
  have hx := (el2 hh.1.2).1
  obtain ⟨w, hw⟩ := terms_ex lz hx (y := y)
  rw [← hw.eq]
  obtain ⟨m, rfl, h1, h2⟩ := hw
  refine ⟨fun e hm => ?_, ?_⟩
  · obtain ⟨j, _, rfl⟩ := List.mem_map.1 hm
    exact dv_el lz.r.o (adj_el lz.r.o lz.r.q hx j)
  · rw [List.length_map, List.length_range]
    have := lz.hc
    have := lz.hp.bd
    rcases Nat.eq_zero_or_pos m with e | e
    · omega
    · have := adj_lt lz hx (h2 (m - 1) (by omega)); omega
end Go.Proofs
namespace Go.Proofs
open Go.Ab Go.Lie
variable {σ H h : PHeap} {K : PV → PHeap → Prop} {n c : Nat} {p : Int} {W : List (List Int)} {B : List (List (List Int))} {vP vB : PV} {s : Nat}
variable {T : PHeap} {p0 : Nat} {fs : List (PV × List PV)} {ls : List LS}
theorem psl_move {b e m : Nat} {h h2 : PHeap} {v : PV} {cs : List PV} (a : PSl b e h v m cs) (ho : ∀ s off l c, v = .sl s off l c → h2.obj s = h.obj s) (hn : h.next ≤ h2.next) : PSl b e h2 v m cs := by
  obtain ⟨s, cap, rfl, h1, h2', h3, h4, h5⟩ := a
  exact ⟨s, cap, rfl, h1, by rw [ho s 0 _ cap rfl]; exact h2', h3, h4, Nat.lt_of_lt_of_le h5 hn⟩
theorem psl_lt {b e m : Nat} {h : PHeap} {v : PV} {cs : List PV} (a : PSl b e h v m cs) {s off l : Nat} {c : Cap} (hv : v = .sl s off l c) : s < h.next := pacc_lt a.acc hv
theorem leafs_pvs : ∀ cs : List PV, TR.pvs (cs.map TR.leaf) = cs
  | [] => rfl
  | c :: cs => by simp only [List.map_cons, TR.pvs, TR.pv, leafs_pvs cs]
theorem leafs_fzs {a : Nat → Nat} : ∀ cs : List PV, TR.fzs a (cs.map TR.leaf) = cs
  | [] => rfl
  | c :: cs => by simp only [List.map_cons, TR.fzs, TR.fz, leafs_fzs cs]
theorem leafs_okF {b : Nat} : ∀ {cs : List PV}, Bels 0 cs → TR.okFs h b (cs.map TR.leaf)
  | [], _ => trivial
  | c :: cs, hb => ⟨hb.1, leafs_okF hb.2⟩
def LS.tr (q : LS) : TR := .lst q.s q.cap (q.cs.map TR.leaf)
theorem LS.tr_pvs : ∀ ls : List LS, TR.pvs (ls.map LS.tr) = ls.map LS.pv
  | [] => rfl
  | q :: ls => by simp only [List.map_cons, TR.pvs, LS.tr_pvs ls]; simp only [LS.tr, TR.pv, List.length_map, LS.pv]
theorem LS.tr_okF {b : Nat} {q : LS} (h1 : q.ok h b) (h2 : Bels 0 q.cs) : (LS.tr q).okF h b := ⟨⟨by rw [List.length_map]; exact h1.1, by rw [leafs_pvs]; exact h1.2.1, h1.2.2.1, h1.2.2.2⟩, leafs_okF h2⟩
theorem LS.trs_okF {b : Nat} : ∀ {ls : List LS}, (∀ q, q ∈ ls → q.ok h b ∧ Bels 0 q.cs) → TR.okFs h b (ls.map LS.tr)
  | [], _ => trivial
  | q :: ls, k => ⟨LS.tr_okF (k q (List.mem_cons_self ..)).1 (k q (List.mem_cons_self ..)).2, LS.trs_okF fun q' hq => k q' (List.mem_cons_of_mem _ hq)⟩
def RowsOf (ls : List LS) (Ms : List (List (List Int))) : Prop := All2 (fun (q : LS) (R : List (List Int)) => All2 FI q.cs R) ls Ms
theorem rowsOf_all2 {a : Nat → Nat} {ls : List LS} {Ms : List (List (List Int))} (k : RowsOf ls Ms) : All2 FII (TR.fzs a (ls.map LS.tr)) Ms := by
  have hl : ∀ ls : List LS, (TR.fzs a (ls.map LS.tr)).length = ls.length := fun ls => by rw [TR.fzs_length, List.length_map]
  have hg : ∀ (ls : List LS) (i : Nat), (TR.fzs a (ls.map LS.tr))[i]? = ls[i]?.map fun q => (LS.tr q).fz a := by
    intro ls
    induction ls with
    | nil => intro i; simp [TR.fzs]
    | cons q ls ih =>
      intro i
      cases i with
      | zero => simp [TR.fzs]
      | succ i => simpa [TR.fzs] using ih i
  refine ⟨by rw [hl]; exact k.1, fun i c R hc hR => ?_⟩
  rw [hg] at hc
  obtain ⟨q, hq, rfl⟩ := Option.map_eq_some_iff.1 hc
  have h2 := k.2 i q R hq hR
  exact ⟨true, .sl (a q.s) 0 q.cs.length q.cap, q.cs, by simp only [LS.tr, TR.fz, leafs_fzs, List.length_map]; rw [h2.1], h2⟩
end Go.Proofs
namespace Go.Grp
end Go.Grp
namespace Go.Proofs
open Go.Ab Go.Lie
section
variable {σ H h : PHeap} {K : PV → PHeap → Prop}
structure SU (T h : PHeap) (p0 : Nat) (v0 : PV) (fs : List (PV × List PV)) (ls : List LS) : Prop where
  keep : Keep T h
  obj : h.obj p0 = some (v0 :: fs.map Prod.fst)
  p0b : T.next ≤ p0 ∧ p0 < h.next
  acc : ∀ f, f ∈ fs → PSl T.next 1 h f.1 f.2.length f.2
  ne : ∀ f, f ∈ fs → ∀ off l c, f.1 ≠ .sl p0 off l c
  dis : ∀ (i j : Nat) f g, fs[i]? = some f → fs[j]? = some g → i ≠ j → ∀ s off l c, f.1 = .sl s off l c → ∀ off l c, g.1 ≠ .sl s off l c
  lok : ∀ q, q ∈ ls → q.ok h T.next
  lne : ∀ q, q ∈ ls → q.s ≠ p0 ∧ ∀ f, f ∈ fs → ∀ off l c, f.1 ≠ .sl q.s off l c
variable {T : PHeap} {p0 : Nat} {v0 : PV} {fs : List (PV × List PV)} {ls : List LS}
theorem SU.keepI {h2 : PHeap} (a : SU T h p0 v0 fs ls) (k : Keep h h2) : SU T h2 p0 v0 fs ls :=
  ⟨a.keep.trans k, by rw [k.obj _ a.p0b.2]; exact a.obj, ⟨a.p0b.1, Nat.lt_of_lt_of_le a.p0b.2 k.next⟩, fun f hf => (a.acc f hf).keep k, a.ne, a.dis, fun q hq => (a.lok q hq).move (k.obj _ (a.lok q hq).2.2.2) k.next, a.lne⟩
theorem SU.more {q : LS} (a : SU T h p0 v0 fs ls) (h1 : q.ok h T.next) (h2 : q.s ≠ p0 ∧ ∀ f, f ∈ fs → ∀ off l c, f.1 ≠ .sl q.s off l c) : SU T h p0 v0 fs (ls ++ [q]) :=
  ⟨a.keep, a.obj, a.p0b, a.acc, a.ne, a.dis, fun q' hq => (List.mem_append.1 hq).elim (a.lok q') fun e => by rw [List.mem_singleton.1 e]; exact h1, fun q' hq => (List.mem_append.1 hq).elim (a.lne q') fun e => by rw [List.mem_singleton.1 e]; exact h2⟩
theorem SU.push {K : PV × PHeap → Prop} {bytes j : Nat} {v x : PV} {cs : List PV} (a : SU T h p0 v0 fs ls) (hj : fs[j]? = some (v, cs)) (hb : cs.length ≤ 1000) (hby : bytes ≤ 24) (hone : ∀ f, f ∈ fs → f.1.one = true)
    (k : ∀ v' h2, v'.one = true → v'.cells = [v'] → h2.wr p0 (j + 1) [v'] = some (h2.set p0 (v0 :: (fs.set j (v', cs ++ [x])).map Prod.fst)) → SU T (h2.set p0 (v0 :: (fs.set j (v', cs ++ [x])).map Prod.fst)) p0 v0 (fs.set j (v', cs ++ [x])) ls → K (v', h2)) :
    optK (pappend 1 bytes (h.new [x]) v (.sl h.next 0 1 (.known 1))) K := by
  have hm : (v, cs) ∈ fs := List.mem_of_getElem? hj
  obtain ⟨hjl, hje⟩ := List.getElem?_eq_some_iff.1 hj
  have hb2 : (cs.length + 1) * bytes ≤ 1001 * 24 := Nat.mul_le_mul (by omega) hby
  refine PAcc.pushS (σb := T) (bytes := bytes) a.keep (a.acc _ hm).acc rfl (by show (cs.length + 1) * bytes ≤ _; omega) (by show cs.length + 1 ≤ _; omega) fun v' h2 k2 a2 o2 n2 l2 => ?_
  have hp := a.p0b
  have hob : h2.obj p0 = some (v0 :: fs.map Prod.fst) := by rw [o2 _ hp.2 (a.ne _ hm)]; exact a.obj
  have hset : (fs.set j (v', cs ++ [x])).map Prod.fst = (fs.map Prod.fst).set j v' := by rw [List.map_set]
  have hmem : ∀ f, f ∈ fs.set j (v', cs ++ [x]) → f = (v', cs ++ [x]) ∨ ∃ i, i ≠ j ∧ fs[i]? = some f := fun f hf => by
    obtain ⟨i, hi⟩ := List.getElem?_of_mem hf
    rw [List.getElem?_set] at hi
    split at hi
    · first
      | (cases hi; exact .inl rfl)
      | (split at hi
         · cases hi; exact .inl rfl
         · cases hi)
    · rename_i e; exact .inr ⟨i, fun e2 => e e2.symm, hi⟩
  refine k v' h2 a2.one a2.cells ?_ ⟨k2.set hp.1 _, by rw [pobj_set, if_pos rfl], ⟨hp.1, by show p0 < h2.next; omega⟩, fun f hf => ?_, fun f hf => ?_, fun i1 i2 f g hf hg hne s off l c e => ?_, fun q hq => ?_, fun q hq => ⟨(a.lne q hq).1, fun f hf => ?_⟩⟩
  · rw [obj_wr hob, if_pos ⟨by simp only [List.length_cons, List.length_map, List.length_nil]; omega, by simp only [List.all_cons, List.all_nil, a2.one]; rfl⟩, hset]
    congr 2
    rw [List.append_assoc, List.singleton_append, List.length_singleton, take_set _ (by rw [List.length_cons, List.length_map]; exact Nat.succ_lt_succ hjl), List.set_cons_succ]
  · rcases hmem f hf with rfl | ⟨i, hi, he⟩
    · have a3 : PSl T.next 1 (h2.set p0 (v0 :: (fs.set j (v', cs ++ [x])).map Prod.fst)) v' (cs.length + 1) (cs ++ [x]) := psl_move a2 (fun s off l c e => by rw [pobj_set, if_neg fun e2 => n2 p0 hp.2 off l c (by rw [e, e2])]) (Nat.le_refl _)
      simpa using a3
    · have hfm := List.mem_of_getElem? he
      refine psl_move (a.acc f hfm) (fun s off l c e => ?_) (Nat.le_of_lt l2)
      rw [pobj_set, if_neg fun e2 => a.ne f hfm off l c (by rw [e, e2]), o2 s (psl_lt (a.acc f hfm) e) (a.dis i j f _ he hj hi s off l c e)]
  · rcases hmem f hf with rfl | ⟨i, hi, he⟩
    · exact n2 p0 hp.2
    · exact a.ne f (List.mem_of_getElem? he)
  · rw [List.getElem?_set] at hf hg
    by_cases e1 : j = i1
    · rw [if_pos e1, if_pos hjl] at hf
      cases hf
      rw [if_neg fun e2 => hne (e1.symm.trans e2)] at hg
      have hgm := List.mem_of_getElem? hg
      intro off' l' c' e'
      exact n2 s (psl_lt (a.acc g hgm) e') off l c e
    · rw [if_neg e1] at hf
      have hfm := List.mem_of_getElem? hf
      by_cases e2 : j = i2
      · rw [if_pos e2, if_pos hjl] at hg
        cases hg
        exact n2 s (psl_lt (a.acc f hfm) e)
      · rw [if_neg e2] at hg
        exact a.dis i1 i2 f g hf hg hne s off l c e
  · have hq' := a.lok q hq
    refine hq'.move ?_ (Nat.le_of_lt l2)
    rw [pobj_set, if_neg (a.lne q hq).1, o2 _ hq'.2.2.2 ((a.lne q hq).2 _ hm)]
  · rcases hmem f hf with rfl | ⟨i, hi, he⟩
    · exact n2 _ (a.lok q hq).2.2.2
    · exact (a.lne q hq).2 f (List.mem_of_getElem? he)
end
end Go.Proofs
namespace Go.Grp
open Go.Lie Go.Ab
variable {O : List Int} {P : List (List Int)} {C : List (List (List Int))}
end Go.Grp
namespace Go.Proofs
open Go.Ab Go.Lie Go.Grp
variable {σ H h : PHeap} {K : PV → PHeap → Prop} {n c : Nat} {p : Int} {O : List Int} {P : List (List Int)} {C : List (List (List Int))} {vO vP vC : PV} {s : Nat}
end Go.Proofs
namespace Go.Proofs
open Go.Ab Go.Lie
variable {σ σ0 σ1 : PHeap} {K : PV → PHeap → Prop} {vC : PV} {bs : List Int} {s : Nat} {a sd : Int}
def FB (v : PV) (bs : List Int) : Prop := ∃ w a, v = .fz w a bs.length (bs.map (.int .u8))
structure Byt (bs : List Int) : Prop where
  len : bs.length ≤ 1048576
  bd : ∀ b ∈ bs, 0 ≤ b ∧ b ≤ 255
abbrev srcC (vC : PV) (a : Nat) (sd : Int) : List PV := [vC, .int .i64 (a : Int), .int .i64 sd]
structure Src (σ : PHeap) (s : Nat) (vC : PV) (bs : List Int) (a : Nat) (sd : Int) : Prop where
  obj : σ.obj s = some (srcC vC a sd)
  lt : s < σ.next
  fb : FB vC bs
  byt : Byt bs
  le : a ≤ bs.length
  sd : 0 ≤ sd ∧ sd < 2147483647
theorem FB.one {v : PV} (h : FB v bs) : v.one = true := by obtain ⟨w, a, rfl⟩ := h; rfl
theorem FB.cells {v : PV} (h : FB v bs) : v.cells = [v] := by obtain ⟨w, a, rfl⟩ := h; rfl
theorem FB.bel {v : PV} (h : FB v bs) (n : Nat) : Bel n v := by obtain ⟨w, a, rfl⟩ := h; trivial
theorem FB.bels {v : PV} (h : FB v bs) (n a : Nat) (sd : Int) : Bels n (srcC v a sd) := ⟨h.bel n, trivial, trivial, trivial⟩
theorem Gh.setS {v : PV} {s : Nat} {c0 c1 : List PV} (h0 : σ0.obj s = some c0) (hb : Bels 0 c1) (k : Gh (σ0.set s c1) K v σ1) : Gh σ0 K v σ1 := fun w ι Z h b r hv h1 h2 h3 h4 => by
  have hs : s < σ0.next := w.lt h0
  have w' : PWF (σ0.set s c1) := by
    refine ⟨fun t ht => ?_, fun t cs ht => ?_⟩
    · have ht' : σ0.next ≤ t := ht
      rw [pobj_set, if_neg (by omega)]
      exact w.wf t ht'
    · rw [pobj_set] at ht
      split at ht
      · cases ht
        exact Bels.up (Nat.zero_le _) hb
      · exact w.bel t cs ht
  obtain ⟨v2, σ2, ι2, Z2, g1, g2, g3, g4, g5, g6, g7, g8, g9⟩ := k w' ι Z h b r hv h1 h2 h3 (fun t ht hn => by
    rw [pobj_set] at hn
    split at hn
    · cases hn
    · exact h4 t ht hn)
  refine ⟨v2, σ2, ι2, Z2, g1, g2, g3, g4, g5, g6, fun t ht hn => g7 t ht ?_, g8, g9⟩
  rw [pobj_set, if_neg (by rintro rfl; rw [h0] at hn; cases hn)]
  exact hn
theorem Src.set {σ : PHeap} {a a' : Nat} {sd sd' : Int} (h : Src σ s vC bs a sd) (ha : a' ≤ bs.length) (hs : 0 ≤ sd' ∧ sd' < 2147483647) : Src (σ.set s (srcC vC a' sd')) s vC bs a' sd' :=
  ⟨by rw [pobj_set, if_pos rfl], h.lt, h.fb, h.byt, ha, hs⟩
theorem Src.keep {σ σ' : PHeap} {a : Nat} {sd : Int} (h : Src σ s vC bs a sd) (k : Keep σ σ') : Src σ' s vC bs a sd :=
  ⟨by rw [k.obj s h.lt]; exact h.obj, Nat.lt_of_lt_of_le h.lt k.next, h.fb, h.byt, h.le, h.sd⟩
theorem Src.q {σ : PHeap} {a : Nat} {sd : Int} (h : Src σ s vC bs a sd) : σ.rd1 s 0 = some vC ∧ σ.rd1 s 1 = some (.int .i64 a) ∧ σ.rd1 s 2 = some (.int .i64 sd) := by
  refine ⟨?_, ?_, ?_⟩ <;> (rw [obj_rd1 h.obj]; rfl)
theorem Src.w1 {σ : PHeap} {a : Nat} {sd x : Int} (h : Src σ s vC bs a sd) : σ.wr s 1 [.int .i64 x] = some (σ.set s [vC, .int .i64 x, .int .i64 sd]) := by
  rw [obj_wr h.obj, if_pos ⟨by simp, rfl⟩]; rfl
theorem Src.w2 {σ : PHeap} {a : Nat} {sd x : Int} (h : Src σ s vC bs a sd) : σ.wr s 2 [.int .i64 x] = some (σ.set s (srcC vC a x)) := by
  rw [obj_wr h.obj, if_pos ⟨by simp, rfl⟩]; rfl
theorem set_set_s (σ : PHeap) (s : Nat) (x y : List PV) : (σ.set s x).set s y = σ.set s y := by
  simp only [PHeap.set]
  congr 1
  funext t
  split <;> rfl
theorem byt_at {j : Nat} (hB : Byt bs) (hj : j < bs.length) : (bs.map (PV.int .u8))[j]? = some (.int .u8 (bs.getD j 0)) ∧ 0 ≤ bs.getD j 0 ∧ bs.getD j 0 ≤ 255 := by
  have e : bs.getD j 0 = bs[j] := by simp [List.getD_eq_getElem?_getD, List.getElem?_eq_getElem hj]
  rw [e]
  exact ⟨by rw [List.getElem?_map, List.getElem?_eq_getElem hj]; rfl, hB.bd _ (List.getElem_mem hj)⟩
def Nx (n x : Int) : Prop := 0 ≤ x ∧ (n ≤ 1 → x = 0) ∧ (1 < n → x < n)
theorem Nx.lt {n x : Int} (h : Nx n x) (hn : 1 ≤ n) : x < n := by
  obtain ⟨h0, h1, h2⟩ := h
  rcases Int.lt_or_le 1 n with g | g
  · exact h2 g
  · have := h1 g; omega
theorem nx_mod {n x : Int} (hn : 1 < n) (hx : 0 ≤ x) : Nx n (x.tmod n) := by
  rw [Int.tmod_eq_emod_of_nonneg hx]
  have h1 := Int.emod_nonneg x (show n ≠ 0 by omega)
  have h2 := Int.emod_lt_of_pos x (show 0 < n by omega)
  exact ⟨h1, fun h => by omega, fun _ => h2⟩
theorem l01From_ok (hb : FB vC bs) (hB : Byt bs) (hk : ∀ sd, 0 ≤ sd ∧ sd < 2147483647 → K (.ptr σ.next 0) (σ.new (srcC vC 0 sd))) : PCalls Tryz.prog 189 [vC] σ K := by
  obtain ⟨w, av, rfl⟩ := hb
  have hl := hB.len
  refine pcalls_of_vp mix Tryz.func189 cf189 rfl ?_
  dsimp only [if189, qI, eI, nI, qD, eD]
  simp only [pwA, if_true, if_false, eq_self, nm_eq, reduceCtorEq, ↓reduceIte, nQ10, nQ7, nQ11, nQ12, nQ16, nQ17, nQ18, iQ2, iQ3, iQ4, iQ5, iQ6, lQ19, iQ7, lQ20]
  generalize hC : (PV.fz w av bs.length (bs.map (.int .u8))) = vC at *
  refine vp_loop (fun m vs h' => ∃ (i : Nat) (sd : Int), i ≤ bs.length ∧ m = bs.length - i ∧ vs = [vC, .ptr σ.next 0, .int .i64 i] ∧ σ.new (srcC vC 0 sd) = h' ∧ 0 ≤ sd ∧ sd < 2147483647) bs.length ?_ ?_
  · exact ⟨0, 76001, by omega, by omega, rfl, rfl, by omega, by omega⟩
  rintro m vs h' ⟨i, sd, hi, rfl, rfl, rfl, h0, h1⟩
  have hlen : pLen vC = some (.int .i64 bs.length) := by rw [← hC]; rfl
  have wi1 : IntKind.i64.wrap ((i : Int) + 1) = ((i + 1 : Nat) : Int) := by rw [wrap64 (by omega) (by omega)]; omega
  have out : K (.ptr σ.next 0) (σ.new (srcC vC 0 sd)) := hk sd ⟨h0, h1⟩
  simp only [pwA, if_true, if_false, eq_self, nm_eq, reduceCtorEq, ↓reduceIte, nQ10, nQ7, nQ11, nQ12, nQ16, nQ17, nQ18, iQ2, iQ3, iQ4, iQ5, iQ6, lQ19, iQ7, lQ20, hlen]
  by_cases hlt : i < bs.length
  rotate_left
  · simp only [pwA, if_true, if_false, eq_self, nm_eq, reduceCtorEq, ↓reduceIte, nQ10, nQ7, nQ11, nQ12, nQ16, nQ17, nQ18, iQ2, iQ3, iQ4, iQ5, iQ6, lQ19, iQ7, lQ20, hlt, decide_false]
    exact out
  obtain ⟨b1, b2, b3⟩ := byt_at hB hlt
  by_cases h64 : i < 64
  rotate_left
  · have h64' : ¬ (i : Int) < 64 := by omega
    simp only [pwA, if_true, if_false, eq_self, nm_eq, reduceCtorEq, ↓reduceIte, nQ10, nQ7, nQ11, nQ12, nQ16, nQ17, nQ18, iQ2, iQ3, iQ4, iQ5, iQ6, lQ19, iQ7, lQ20, hlt, h64', decide_true, decide_false]
    exact out
  have h64' : (i : Int) < 64 := by omega
  generalize bs.getD i 0 = b at b1 b2 b3
  have e1 : IntKind.i64.wrap (sd * 71) = sd * 71 := wrap64 (by omega) (by omega)
  have e2 : IntKind.i64.wrap b = b := wrap64 (by omega) (by omega)
  have e3 : IntKind.i64.wrap (sd * 71 + b) = sd * 71 + b := wrap64 (by omega) (by omega)
  have e4 : (sd * 71 + b).tmod 2147483647 = (sd * 71 + b) % 2147483647 := Int.tmod_eq_emod_of_nonneg (by omega)
  subst hC
  simp only [pwA, if_true, if_false, eq_self, nm_eq, reduceCtorEq, ↓reduceIte, nQ10, nQ7, nQ11, nQ12, nQ16, nQ17, nQ18, iQ2, iQ3, iQ4, iQ5, iQ6, lQ19, iQ7, lQ20, hlt, h64', decide_true, b1, e1, e2, e3, e4, wi1]
  exact ⟨_, by omega, i + 1, _, by omega, rfl, rfl, rfl, by omega, by omega⟩
theorem l01Next_ok {a : Nat} {sd n : Int} (S : Src σ s vC bs a sd) (hn : n ≤ 4611686018427387904) (hk : ∀ x a' sd', Nx n x → a' ≤ bs.length → 0 ≤ sd' ∧ sd' < 2147483647 → K (.int .i64 x) (σ.set s (srcC vC a' sd'))) : PCalls Tryz.prog 230 [.ptr s 0, .int .i64 n] σ K := by
  have hl := S.byt.len
  have hsd := S.sd
  have ha := S.le
  obtain ⟨w, av, rfl⟩ := S.fb
  obtain ⟨q0, q1, q2⟩ := S.q
  have e1 : IntKind.i64.wrap (sd * 48271) = sd * 48271 := wrap64 (by omega) (by omega)
  have e2 : IntKind.i64.wrap (sd * 48271 + 71) = sd * 48271 + 71 := wrap64 (by omega) (by omega)
  have e4 : (sd * 48271 + 71).tmod 2147483647 = (sd * 48271 + 71) % 2147483647 := Int.tmod_eq_emod_of_nonneg (by omega)
  refine pcalls_of_vp mix Tryz.func230 cf230 rfl ?_
  dsimp only [if230, qI, eI, nI, qD, eD]
  simp only [pwA, if_true, if_false, eq_self, nm_eq, reduceCtorEq, ↓reduceIte, nQ10, nQ7, nQ11, nQ12, nQ16, nQ17, nQ18, iQ2, iQ3, iQ4, iQ5, iQ6, lQ19, iQ7, lQ20, q2, e1, e2, e4, S.w2]
  refine iteI (fun hlt => ?_) fun hge => ?_
  · have := hk 0 a sd ⟨Int.le_refl _, fun _ => rfl, fun h => by omega⟩ ha hsd
    rw [set_same S.obj] at this
    exact this
  have hsd1 : 0 ≤ (sd * 48271 + 71) % 2147483647 ∧ (sd * 48271 + 71) % 2147483647 < 2147483647 := by omega
  generalize (sd * 48271 + 71) % 2147483647 = sd1 at *
  have S1 := S.set (sd' := sd1) ha hsd1
  obtain ⟨p0, p1, p2⟩ := S1.q
  obtain ⟨x0, e5, hx0⟩ : ∃ x0, IntKind.i64.wrap (sd1.tdiv 47) = x0 ∧ 0 ≤ x0 ∧ x0 ≤ 2147483647 := by
    have d1 : sd1.tdiv 47 = sd1 / 47 := Int.tdiv_eq_ediv_of_nonneg (by omega)
    exact ⟨sd1 / 47, by rw [d1]; exact wrap64 (by omega) (by omega), by omega, by omega⟩
  have hn0 : n ≠ 0 := by omega
  generalize hs1 : σ.set s (srcC (PV.fz w av bs.length (bs.map (.int .u8))) a sd1) = σ1 at *
  have hT : ∀ (a' : Nat) (sd' : Int), σ1.set s (srcC (PV.fz w av bs.length (bs.map (.int .u8))) a' sd') = σ.set s (srcC (PV.fz w av bs.length (bs.map (.int .u8))) a' sd') := fun a' sd' => by rw [← hs1]; exact set_set_s _ _ _ _
  simp only [pwA, if_true, if_false, eq_self, nm_eq, reduceCtorEq, ↓reduceIte, nQ10, nQ7, nQ11, nQ12, nQ16, nQ17, nQ18, iQ2, iQ3, iQ4, iQ5, iQ6, lQ19, iQ7, lQ20, p0, p1, p2, e5]
  by_cases hlt' : a < bs.length
  rotate_left
  · simp only [pwA, if_true, if_false, eq_self, nm_eq, reduceCtorEq, ↓reduceIte, nQ10, nQ7, nQ11, nQ12, nQ16, nQ17, nQ18, iQ2, iQ3, iQ4, iQ5, iQ6, lQ19, iQ7, lQ20, hlt', decide_false]
    have := hk _ a sd1 (nx_mod (by omega) hx0.1) ha hsd1
    rw [hs1] at this
    simp only [pwA, if_true, if_false, eq_self, nm_eq, reduceCtorEq, ↓reduceIte, nQ10, nQ7, nQ11, nQ12, nQ16, nQ17, nQ18, iQ2, iQ3, iQ4, iQ5, iQ6, lQ19, iQ7, lQ20, hn0, e5]
    exact this
  obtain ⟨b1, b2, b3⟩ := byt_at S.byt hlt'
  generalize bs.getD a 0 = b at b1 b2 b3
  have e6 : IntKind.i64.wrap b = b := wrap64 (by omega) (by omega)
  have e7 : IntKind.i64.wrap (x0 + b) = x0 + b := wrap64 (by omega) (by omega)
  have wi1 : IntKind.i64.wrap ((a : Int) + 1) = ((a + 1 : Nat) : Int) := by rw [wrap64 (by omega) (by omega)]; omega
  simp only [pwA, if_true, if_false, eq_self, nm_eq, reduceCtorEq, ↓reduceIte, nQ10, nQ7, nQ11, nQ12, nQ16, nQ17, nQ18, iQ2, iQ3, iQ4, iQ5, iQ6, lQ19, iQ7, lQ20, hlt', decide_true, p0, p1, b1, e5, e6, e7, S1.w1, wi1]
  have Sb := S1.set (a' := a + 1) (sd' := sd1) (by omega) hsd1
  obtain ⟨r0, r1, r2⟩ := Sb.q
  generalize hs2 : σ1.set s (srcC (PV.fz w av bs.length (bs.map (.int .u8))) (a + 1) sd1) = σ2 at *
  have tm : ((a + 1 : Nat) : Int).tmod 2 = ((a + 1 : Nat) : Int) % 2 := Int.tmod_eq_emod_of_nonneg (by omega)
  have wi2 : IntKind.i64.wrap (((a + 1 : Nat) : Int) - 1) = (a : Int) := by rw [wrap64 (by omega) (by omega)]; omega
  have fin : ∀ x : Int, 0 ≤ x → K (.int .i64 (x.tmod n)) σ2 := fun x hx => by
    have := hk _ (a + 1) sd1 (nx_mod (by omega) hx) (by omega) hsd1
    rw [← hs2, hT]
    exact this
  by_cases hn256 : n ≤ 256
  rotate_left
  · simp only [pwA, if_true, if_false, eq_self, nm_eq, reduceCtorEq, ↓reduceIte, nQ10, nQ7, nQ11, nQ12, nQ16, nQ17, nQ18, iQ2, iQ3, iQ4, iQ5, iQ6, lQ19, iQ7, lQ20, hn256, decide_false, hn0, e5, e6, e7]
    exact fin _ (by omega)
  by_cases hev : ((a + 1 : Nat) : Int) % 2 = 0
  rotate_left
  · simp only [pwA, if_true, if_false, eq_self, nm_eq, reduceCtorEq, ↓reduceIte, nQ10, nQ7, nQ11, nQ12, nQ16, nQ17, nQ18, iQ2, iQ3, iQ4, iQ5, iQ6, lQ19, iQ7, lQ20, hn256, decide_true, r1, tm, hev, decide_false, hn0, e5, e6, e7]
    exact fin _ (by omega)
  simp only [pwA, if_true, if_false, eq_self, nm_eq, reduceCtorEq, ↓reduceIte, nQ10, nQ7, nQ11, nQ12, nQ16, nQ17, nQ18, iQ2, iQ3, iQ4, iQ5, iQ6, lQ19, iQ7, lQ20, hn256, decide_true, r0, r1, tm, hev, wi2, hlt', b1, hn0, e5, e6, e7]
  exact fin _ (by omega)
end Go.Proofs
namespace Go.Proofs
open Go.Ab Go.Lie
variable {σ σ0 σ1 h h' : PHeap} {K : PV → PHeap → Prop} {vC : PV} {bs : List Int} {s : Nat}
def So (σ : PHeap) (s : Nat) (vC : PV) (bs : List Int) : Prop := ∃ a sd, Src σ s vC bs a sd
def Mv (σ : PHeap) (s : Nat) (σ' : PHeap) : Prop := ∃ c0 c1, σ.obj s = some c0 ∧ Bels 0 c1 ∧ σ' = σ.set s c1
def KM (σ : PHeap) (s : Nat) (h : PHeap) : Prop := ∃ σ', Mv σ s σ' ∧ Keep σ' h
theorem Mv.next (m : Mv σ s h) : h.next = σ.next := by obtain ⟨_, _, _, _, rfl⟩ := m; rfl
theorem Mv.obj (m : Mv σ s h) {t : Nat} (ht : t ≠ s) : h.obj t = σ.obj t := by obtain ⟨_, _, _, _, rfl⟩ := m; rw [pobj_set, if_neg ht]
theorem So.lt (k : So σ s vC bs) : s < σ.next := by obtain ⟨_, _, k⟩ := k; exact k.lt
theorem So.mv (k : So σ s vC bs) {a : Nat} {sd : Int} (ha : a ≤ bs.length) (hs : 0 ≤ sd ∧ sd < 2147483647) : Mv σ s (σ.set s (srcC vC a sd)) ∧ So (σ.set s (srcC vC a sd)) s vC bs := by
  obtain ⟨a0, sd0, k⟩ := k
  exact ⟨⟨_, _, k.obj, k.fb.bels _ _ _, rfl⟩, a, sd, k.set ha hs⟩
theorem So.mv0 (k : So σ s vC bs) : Mv σ s σ := by
  obtain ⟨a0, sd0, k⟩ := k
  exact ⟨_, _, k.obj, k.fb.bels _ _ _, (set_same k.obj).symm⟩
theorem So.keep (k : So σ s vC bs) (hk : Keep σ h) : So h s vC bs := by
  obtain ⟨a0, sd0, k⟩ := k
  exact ⟨_, _, k.keep hk⟩
theorem So.set (k : So σ s vC bs) {t : Nat} (ht : s ≠ t) (cs : List PV) : So (σ.set t cs) s vC bs := by
  obtain ⟨a0, sd0, k⟩ := k
  exact ⟨a0, sd0, by rw [pobj_set, if_neg ht]; exact k.obj, k.lt, k.fb, k.byt, k.le, k.sd⟩
theorem KM.keep (k : KM σ s h) (hk : Keep h h') : KM σ s h' := by
  obtain ⟨σ', m, q⟩ := k
  exact ⟨σ', m, q.trans hk⟩
theorem KM.next (k : KM σ s h) : σ.next ≤ h.next := by
  obtain ⟨σ', m, q⟩ := k
  rw [← m.next]; exact q.next
theorem KM.obj (k : KM σ s h) {t : Nat} (ht : t < σ.next) (hn : t ≠ s) : h.obj t = σ.obj t := by
  obtain ⟨σ', m, q⟩ := k
  rw [q.obj t (by rw [m.next]; exact ht), m.obj hn]
theorem So.km (k : So σ s vC bs) : KM σ s σ := ⟨σ, k.mv0, Keep.refl _⟩
theorem So.kmK (k : So σ s vC bs) (hk : Keep σ h) : KM σ s h := ⟨σ, k.mv0, hk⟩
theorem KM.new (k : KM σ s h) (cs : List PV) : KM σ s (h.new cs) := k.keep (keep_new h cs)
theorem KM.set (k : KM σ s h) {t : Nat} (ht : σ.next ≤ t) (cs : List PV) : KM σ s (h.set t cs) := by
  obtain ⟨σ', m, q⟩ := k
  exact ⟨σ', m, q.set (by rw [m.next]; exact ht) cs⟩
theorem KM.kill (k : KM σ s h) {t : Nat} (ht : σ.next ≤ t) : KM σ s (h.kill t) := by
  obtain ⟨σ', m, q⟩ := k
  exact ⟨σ', m, q.kill (by rw [m.next]; exact ht)⟩
theorem KM.mv (k : KM σ s h) (hs : s < σ.next) (m' : Mv h s h') : KM σ s h' := by
  obtain ⟨σ', ⟨c0, c1, h0, h1, rfl⟩, q⟩ := k
  obtain ⟨d0, d1, g0, g1, rfl⟩ := m'
  refine ⟨σ.set s d1, ⟨c0, d1, h0, g1, rfl⟩, q.next, q.top, fun t ht => ?_⟩
  rw [pobj_set, pobj_set]
  split
  · rfl
  · rename_i e
    rw [q.obj t ht, pobj_set, if_neg e]
theorem KM.trans (k : KM σ s h) (hs : s < σ.next) (k' : KM h s h') : KM σ s h' := by
  obtain ⟨σ', m, q⟩ := k'
  exact (k.mv hs m).keep q
theorem Gh.km {v : PV} (k : KM σ s h) (so : So h s vC bs) (hs : s < σ.next) (c : ∀ σ', Mv σ s σ' → So σ' s vC bs → Keep σ' h → Gh σ' K v h) : Gh σ K v h := by
  obtain ⟨σ', m, q⟩ := k
  obtain ⟨c0, c1, h0, h1, e⟩ := m
  obtain ⟨a, sd, S⟩ := so
  have hs' : s < σ'.next := by rw [e]; exact hs
  have so' : So σ' s vC bs := ⟨a, sd, by rw [← q.obj s hs']; exact S.obj, hs', S.fb, S.byt, S.le, S.sd⟩
  have := c σ' ⟨c0, c1, h0, h1, e⟩ so' q
  rw [e] at this
  exact Gh.setS h0 h1 this
theorem l01Next_m {n : Int} (so : So σ s vC bs) (hn : n ≤ 4611686018427387904) (hk : ∀ x h, Nx n x → Mv σ s h → So h s vC bs → K (.int .i64 x) h) : PCalls Tryz.prog 230 [.ptr s 0, .int .i64 n] σ K := by
  obtain ⟨a, sd, S⟩ := so
  refine l01Next_ok S hn fun x a' sd' hx ha hs => ?_
  obtain ⟨m1, m2⟩ := So.mv ⟨a, sd, S⟩ ha hs
  exact hk x _ hx m1 m2
theorem l31Zero_sl {p : Int} {n : Nat} {vP vB : PV} (g1 : vP.one = true) (g2 : vB.one = true) (gl : pLen vP = some (.int .i64 n)) (hn : n ≤ 1048576) (hk : ∀ cap, full 1 cap n → K (.sl σ.next 0 n cap) (σ.new (pis (List.replicate n 0)))) : PCalls Tryz.prog 201 [.agg [.int .i64 p, vP, vB]] σ K := by
  refine PCalls.gh ?_
  refine pcalls_of_vp mix Tryz.func201 cf201 rfl ?_
  dsimp only [if201, qI, eI, nI, qD, eD]
  simp only [pwA, if_true, if_false, eq_self, nm_eq, reduceCtorEq, ↓reduceIte, nQ10, nQ7, nQ11, nQ12, nQ16, nQ17, nQ18, iQ2, iQ3, iQ4, iQ5, iQ6, lQ19, iQ7, lQ20, g1, g2, gl, pis_rep, mk8 (n := n) (by omega), mkL (n := n) (by omega)]
  exact Gh.finS (s := σ.next + 1) ((keep_new σ _).new _) (by simp only [pwA, if_true, if_false, eq_self, nm_eq, reduceCtorEq, ↓reduceIte, nQ10, nQ7, nQ11, nQ12, nQ16, nQ17, nQ18, iQ2, iQ3, iQ4, iQ5, iQ6, lQ19, iQ7, lQ20]) (by omega) (pis_bel _ _) (hk _ (.inr rfl))
theorem l31Unit_sl {p : Int} {n k : Nat} {vP vB : PV} (g1 : vP.one = true) (g2 : vB.one = true) (gl : pLen vP = some (.int .i64 n)) (hn : n ≤ 1048576) (hkn : k < n) (hk : ∀ v, FI v (unitL n k) → K v σ) : PCalls Tryz.prog 231 [.agg [.int .i64 p, vP, vB], .int .i64 k] σ K := by
  refine PCalls.gh ?_
  refine pcalls_of_vp mix Tryz.func231 cf231 rfl ?_
  dsimp only [if231, qI, eI, nI, qD, eD]
  simp only [pwA, if_true, if_false, eq_self, nm_eq, reduceCtorEq, ↓reduceIte, nQ10, nQ7, nQ11, nQ12, nQ16, nQ17, nQ18, iQ2, iQ3, iQ4, iQ5, iQ6, lQ19, iQ7, lQ20, g1, g2]
  refine l31Zero_sl g1 g2 gl hn fun cap hc => ?_
  simp only [pwA, if_true, if_false, eq_self, nm_eq, reduceCtorEq, ↓reduceIte, nQ10, nQ7, nQ11, nQ12, nQ16, nQ17, nQ18, iQ2, iQ3, iQ4, iQ5, iQ6, lQ19, iQ7, lQ20, hkn, pis_length, List.length_replicate, Nat.succ_le_of_lt hkn]
  rw [pis_set_at (by simpa using hkn)]
  exact Gh.finF (s := σ.next + 1) ((keep_new σ _).new _) (by simp only [pwA, if_true, if_false, eq_self, nm_eq, reduceCtorEq, ↓reduceIte, nQ10, nQ7, nQ11, nQ12, nQ16, nQ17, nQ18, iQ2, iQ3, iQ4, iQ5, iQ6, lQ19, iQ7, lQ20]; rfl) (by omega) (pis_bel _ _) hc.ok fun _ => hk _ ⟨_, _, by rw [unitL_length]; rfl⟩
theorem l31Primed_ok {n : Nat} (so : So σ s vC bs) (hn : n ≤ 6) (hk : ∀ p h, isP p → ipow p n ≤ 729 → Mv σ s h → So h s vC bs → K (.int .i64 p) h) : PCalls Tryz.prog 299 [.ptr s 0, .int .i64 n] σ K := by
  have hlt := so.lt
  refine PCalls.gh ?_
  refine pcalls_of_vp mix Tryz.func299 cf299 rfl ?_
  dsimp only [if299, qI, eI, nI, qD, eD]
  simp only [pwA, if_true, if_false, eq_self, nm_eq, reduceCtorEq, ↓reduceIte, nQ10, nQ7, nQ11, nQ12, nQ16, nQ17, nQ18, iQ2, iQ3, iQ4, iQ5, iQ6, lQ19, iQ7, lQ20]
  refine l01Next_m (so.keep (keep_new _ _)) (by decide) fun x h1 hx m1 so1 => ?_
  have hxl := hx.lt (by decide)
  have hx0 := hx.1
  have ob : h1.obj σ.next = some (pis [2, 3, 3, 5, 7, 2]) := by rw [m1.obj (by omega)]; simp only [pwA, if_true, if_false, eq_self, nm_eq, reduceCtorEq, ↓reduceIte, nQ10, nQ7, nQ11, nQ12, nQ16, nQ17, nQ18, iQ2, iQ3, iQ4, iQ5, iQ6, lQ19, iQ7, lQ20]; rfl
  obtain ⟨k, rfl⟩ : ∃ k : Nat, x = k := ⟨x.toNat, by omega⟩
  have hk6 : k < 6 := by omega
  obtain ⟨p0, hp0, hr⟩ : ∃ p0, isP p0 ∧ h1.rd1 σ.next k = some (.int .i64 p0) := by
    have e : k = 0 ∨ k = 1 ∨ k = 2 ∨ k = 3 ∨ k = 4 ∨ k = 5 := by omega
    rcases e with rfl | rfl | rfl | rfl | rfl | rfl
    · exact ⟨2, .inl rfl, by rw [obj_rd1 ob]; rfl⟩
    · exact ⟨3, .inr (.inl rfl), by rw [obj_rd1 ob]; rfl⟩
    · exact ⟨3, .inr (.inl rfl), by rw [obj_rd1 ob]; rfl⟩
    · exact ⟨5, .inr (.inr (.inl rfl)), by rw [obj_rd1 ob]; rfl⟩
    · exact ⟨7, .inr (.inr (.inr rfl)), by rw [obj_rd1 ob]; rfl⟩
    · exact ⟨2, .inl rfl, by rw [obj_rd1 ob]; rfl⟩
  simp only [pwA, if_true, if_false, eq_self, nm_eq, reduceCtorEq, ↓reduceIte, nQ10, nQ7, nQ11, nQ12, nQ16, nQ17, nQ18, iQ2, iQ3, iQ4, iQ5, iQ6, lQ19, iQ7, lQ20, hr, hk6]
  have hnc : n = 0 ∨ n = 1 ∨ n = 2 ∨ n = 3 ∨ n = 4 ∨ n = 5 ∨ n = 6 := by omega
  have big : ∀ q : Int, isP q → ¬ ipow q n ≤ 729 → q = 5 ∨ q = 7 := fun q hq hb => by
    rcases hq with rfl | rfl | rfl | rfl
    · exact absurd (by rcases hnc with rfl | rfl | rfl | rfl | rfl | rfl | rfl <;> decide) hb
    · exact absurd (by rcases hnc with rfl | rfl | rfl | rfl | rfl | rfl | rfl <;> decide) hb
    · exact .inl rfl
    · exact .inr rfl
  refine vp_loop (fun m vs h => ∃ q : Int, isP q ∧ m = q.toNat ∧ vs = [.int .i64 n, .int .i64 q] ∧ KM σ s h ∧ So h s vC bs) p0.toNat ?_ ?_
  · exact ⟨p0, hp0, rfl, rfl, (so.km.new _).mv hlt m1, so1⟩
  rintro m vs h2 ⟨q, hq, rfl, rfl, km, so2⟩
  simp only [pwA, if_true, if_false, eq_self, nm_eq, reduceCtorEq, ↓reduceIte, nQ10, nQ7, nQ11, nQ12, nQ16, nQ17, nQ18, iQ2, iQ3, iQ4, iQ5, iQ6, lQ19, iQ7, lQ20]
  refine l31Size_ok (p := q) (n := n) (by rcases hq with rfl | rfl | rfl | rfl <;> decide) hn fun k k1 k2 k3 k4 => ?_
  by_cases hk9 : k ≤ 729
  · have hk9' : ¬ k > 729 := by omega
    simp only [pwA, if_true, if_false, eq_self, nm_eq, reduceCtorEq, ↓reduceIte, nQ10, nQ7, nQ11, nQ12, nQ16, nQ17, nQ18, iQ2, iQ3, iQ4, iQ5, iQ6, lQ19, iQ7, lQ20, hk9', decide_false]
    exact Gh.km km so2 hlt fun σ' m' so' kp => Gh.fin0 kp trivial (hk q σ' hq (k1.1 hk9) m' so')
  · have hk9' : k > 729 := by omega
    rcases big q hq (fun e => hk9 (k1.2 e)) with rfl | rfl
    · simp only [pwA, if_true, if_false, eq_self, nm_eq, reduceCtorEq, ↓reduceIte, nQ10, nQ7, nQ11, nQ12, nQ16, nQ17, nQ18, iQ2, iQ3, iQ4, iQ5, iQ6, lQ19, iQ7, lQ20, hk9', decide_true, show ((5 : Int) < ((8 : Nat) : Int)) by decide]
      exact ⟨_, by decide, 3, .inr (.inl rfl), rfl, rfl, km.new _, so2.keep (keep_new _ _)⟩
    · simp only [pwA, if_true, if_false, eq_self, nm_eq, reduceCtorEq, ↓reduceIte, nQ10, nQ7, nQ11, nQ12, nQ16, nQ17, nQ18, iQ2, iQ3, iQ4, iQ5, iQ6, lQ19, iQ7, lQ20, hk9', decide_true, show ((7 : Int) < ((8 : Nat) : Int)) by decide]
      exact ⟨_, by decide, 5, .inr (.inr (.inl rfl)), rfl, rfl, km.new _, so2.keep (keep_new _ _)⟩
structure TailI (σ h : PHeap) (s : Nat) (vC : PV) (bs : List Int) (p : Int) (n k : Nat) (vP vB : PV) (x : List Int) : Prop where
  km : KM σ s h
  so : So h s vC bs
  o1 : h.obj σ.next = some [.int .i64 p, vP, vB]
  o2 : h.obj (σ.next + 1) = some (pis x)
  lt : σ.next + 1 < h.next
  el : El p n x
  z : ∀ j, j < k → at_ x j = 0
theorem l31Tail_sl {n k : Nat} {p : Int} {vP vB : PV} (so : So σ s vC bs) (hp : 2 ≤ p ∧ p ≤ 7) (g1 : vP.one = true) (g2 : vB.one = true) (gl : pLen vP = some (.int .i64 n)) (hn : n ≤ 1048576) (hkn : k ≤ n)
    (hk : ∀ x h cap, El p n x → (∀ j, j < k → at_ x j = 0) → full 1 cap n → Mv σ s h → So h s vC bs → K (.sl σ.next 0 n cap) (h.new (pis x))) : PCalls Tryz.prog 272 [.ptr s 0, .agg [.int .i64 p, vP, vB], .int .i64 k] σ K := by
  have hlt := so.lt
  refine PCalls.gh ?_
  refine pcalls_of_vp mix Tryz.func272 cf272 rfl ?_
  dsimp only [if272, qI, eI, nI, qD, eD]
  simp only [pwA, if_true, if_false, eq_self, nm_eq, reduceCtorEq, ↓reduceIte, nQ10, nQ7, nQ11, nQ12, nQ16, nQ17, nQ18, iQ2, iQ3, iQ4, iQ5, iQ6, lQ19, iQ7, lQ20, g1, g2]
  refine l31Zero_sl g1 g2 gl hn fun cap hc => ?_
  simp only [pwA, if_true, if_false, eq_self, nm_eq, reduceCtorEq, ↓reduceIte, nQ10, nQ7, nQ11, nQ12, nQ16, nQ17, nQ18, iQ2, iQ3, iQ4, iQ5, iQ6, lQ19, iQ7, lQ20]
  generalize hH : (σ.new [.int .i64 p, vP, vB]) = H
  have hkH : Keep σ H := by rw [← hH]; exact keep_new _ _
  have hHn : H.next = σ.next + 1 := by rw [← hH]; rfl
  have obR : H.obj σ.next = some [.int .i64 p, vP, vB] := by rw [← hH]; simp only [pwA, if_true, if_false, eq_self, nm_eq, reduceCtorEq, ↓reduceIte, nQ10, nQ7, nQ11, nQ12, nQ16, nQ17, nQ18, iQ2, iQ3, iQ4, iQ5, iQ6, lQ19, iQ7, lQ20]
  refine vp_loop (fun m vs h => ∃ (i : Nat) (x : List Int), k ≤ i ∧ i ≤ n ∧ m = n - i ∧ vs = [.ptr s 0, .ptr σ.next 0, .sl (σ.next + 1) 0 n cap, .int .i64 i] ∧ TailI σ h s vC bs p n k vP vB x) (n - k) ?_ ?_
  · refine ⟨k, List.replicate n 0, Nat.le_refl _, hkn, rfl, rfl, ⟨(so.kmK hkH).new _, (so.keep hkH).keep (keep_new _ _), by rw [pobj_new, if_neg (by omega)]; exact obR, by rw [pobj_new, if_pos hHn.symm], by show _ < H.next + 1; omega, ⟨by simp, fun y hy => by rw [List.eq_of_mem_replicate hy]; omega⟩, fun j _ => at_rep _ _⟩⟩
  rintro m vs h ⟨i, x, hki, hin, rfl, rfl, ⟨km, so2, o1, o2, hl2, hx, hz⟩⟩
  have hxl := hx.1
  simp only [pwA, if_true, if_false, eq_self, nm_eq, reduceCtorEq, ↓reduceIte, nQ10, nQ7, nQ11, nQ12, nQ16, nQ17, nQ18, iQ2, iQ3, iQ4, iQ5, iQ6, lQ19, iQ7, lQ20]
  refine iteI (fun hilt => ?_) fun hige => ?_
  rotate_left
  · have e : i = n := by omega
    refine Gh.km km so2 hlt fun σ' m' so' kp => ?_
    have hnx := m'.next
    rw [← hnx]
    refine Gh.finS (s := σ'.next + 1) kp (by rw [hnx]; exact o2) (by omega) (pis_bel _ _) ?_
    have := hk x σ' cap hx hz hc m' so'
    rw [hnx]
    exact this
  have r0 : h.rd1 σ.next 0 = some (.int .i64 p) := by rw [obj_rd1 o1]; rfl
  simp only [pwA, if_true, if_false, eq_self, nm_eq, reduceCtorEq, ↓reduceIte, nQ10, nQ7, nQ11, nQ12, nQ16, nQ17, nQ18, iQ2, iQ3, iQ4, iQ5, iQ6, lQ19, iQ7, lQ20, r0]
  refine l01Next_m so2 (by omega) fun y h3 hy m3 so3 => ?_
  have hyl := hy.lt (by omega)
  have hy0 := hy.1
  have hilt' : i < n := by omega
  have o3 : h3.obj (σ.next + 1) = some (pis x) := by rw [m3.obj (by omega)]; exact o2
  have w3 : h3.wr (σ.next + 1) i [.int .i64 y] = some (h3.set (σ.next + 1) (pis (x.set i y))) := by
    rw [obj_wr o3, if_pos ⟨by rw [pis_length, hxl]; simp; omega, rfl⟩]
    congr 2
    exact pis_set_at (by omega)
  have wi : IntKind.i64.wrap ((i : Int) + 1) = ((i + 1 : Nat) : Int) := by rw [wrap64 (by omega) (by omega)]; omega
  simp only [pwA, if_true, if_false, eq_self, nm_eq, reduceCtorEq, ↓reduceIte, nQ10, nQ7, nQ11, nQ12, nQ16, nQ17, nQ18, iQ2, iQ3, iQ4, iQ5, iQ6, lQ19, iQ7, lQ20, hilt', w3, wi]
  refine ⟨_, ?_, i + 1, x.set i y, by omega, by omega, rfl, rfl, ⟨(km.mv hlt m3).set (by omega) _, so3.set (by omega) _, by rw [pobj_set, if_neg (by omega), m3.obj (by omega)]; exact o1, by rw [pobj_set, if_pos rfl], by show _ < h3.next; rw [m3.next]; exact hl2, ⟨by rw [List.length_set]; exact hxl, fun z hzz => ?_⟩, fun j hj => ?_⟩⟩
  · omega
  · rcases List.mem_or_eq_of_mem_set hzz with e | e
    · exact hx.2 z e
    · omega
  · rw [at_set (by omega), if_neg (by omega)]
    exact hz j hj
theorem l31Tail_fz {n k : Nat} {p : Int} {vP vB : PV} (so : So σ s vC bs) (hp : 2 ≤ p ∧ p ≤ 7) (g1 : vP.one = true) (g2 : vB.one = true) (gl : pLen vP = some (.int .i64 n)) (hn : n ≤ 1048576) (hkn : k ≤ n)
    (hk : ∀ v x h, El p n x → (∀ j, j < k → at_ x j = 0) → FI v x → Mv σ s h → So h s vC bs → K v h) : PCalls Tryz.prog 272 [.ptr s 0, .agg [.int .i64 p, vP, vB], .int .i64 k] σ K := by
  refine PCalls.gh (l31Tail_sl so hp g1 g2 gl hn hkn fun x h cap hx hz hc m so2 => ?_)
  refine Gh.km (so.km.mv so.lt m |>.new _) (so2.keep (keep_new _ _)) so.lt fun σ' m' so' kp => ?_
  have hxl := hx.1
  subst hxl
  exact Gh.finF (s := σ.next) kp (by rw [pobj_new, if_pos m.next.symm]) (by rw [m'.next]; exact Nat.le_refl _) (pis_bel _ _) hc.ok fun o => hk _ x σ' hx hz ⟨_, _, rfl⟩ m' so'
end Go.Proofs
