/- Sequences of the program: what is sifted. -/
import Derived.Test.YtngdcibjjomfjaaGreatCP31
import Derived.Test.YtngdcibjjomfjaaGreatCAbPz
import Derived.Test.YtngdcibjjomfjaaGreatCP28
open Nat renaming reduceLeDiff → nQ7, reduceEqDiff → nQ10, reduceBEq → nQ11, reduceAdd → nQ12, reduceLT → nQ16, reduceSub → nQ17, reduceMul → nQ18
open Int renaming reduceEq → iQ2, reduceLT → iQ3, reduceLE → iQ4, reduceNeg → iQ5, reduceToNat → iQ6, ofNat_le → iQ7
open List renaming reduceReplicate → lQ19, getElem?_drop → lQ20
namespace Go.Grp
end Go.Grp
set_option linter.unusedSimpArgs false
set_option linter.unusedVariables false
namespace Go.Proofs
open Go.Ab Go.Lie Go.Grp
variable {σ : PHeap} {K : PV → PHeap → Prop} {O : List Int} {P : List (List Int)} {C : List (List (List Int))} {vO vP vC vx vf va vb : PV} {x y f a b : List Int} {rP rC : List PV} {d j sp : Nat}
theorem invert_ok (s : Shp O P C) (F : Full O P C d) (hs : PtrG σ sp vO vP vC) (hR : IsPr vO vP vC O P C) (ha : TT O (O.length - d) a) (hva : FI va a) (hk : ∀ z, TT O (O.length - d) z → mu O P C d a z = zv O → ResI σ K z) :
    PCalls Tryz.prog 87 [.ptr sp 0, va] σ K := by
  have hn6 := s.le
  have hle := F.le
  have hal := ha.len
  have M := F.gp.toMon
  have hne : sp ≠ σ.next := Nat.ne_of_lt hs.lt
  have hne2 : sp ≠ σ.next + 1 := by have := hs.lt; omega
  obtain ⟨wa, aa, rfl⟩ := hva
  refine PCalls.gh ?_
  refine pcalls_of_vp mix Tryz.func87 cf87 rfl ?_
  dsimp only [if87, qI, eI, nI, qD, eD]
  simp only [pwA, if_true, if_false, eq_self, nm_eq, reduceCtorEq, ↓reduceIte, nQ10, nQ7, nQ11, nQ12, nQ16, nQ17, nQ18, iQ2, iQ3, iQ4, iQ5, iQ6, lQ19, iQ7, lQ20]
  refine Clone_ok rfl (by omega) ⟨fun h0 => ?_, fun cap hc => ?_⟩
  · have hO0 : O = [] := List.eq_nil_of_length_eq_zero (by rw [← hal, h0]; rfl)
    subst hO0
    subst h0
    simp only [pwA, if_true, if_false, eq_self, nm_eq, reduceCtorEq, ↓reduceIte, nQ10, nQ7, nQ11, nQ12, nQ16, nQ17, nQ18, iQ2, iQ3, iQ4, iQ5, iQ6, lQ19, iQ7, lQ20, mk8 (n := 0) (by omega), mkL (n := 0) (by omega)]
    refine vp_loop (fun m vs h' => m = 0 ∧ vs = [.ptr sp 0, .fz true .nils 0 [], .sl σ.next 0 0 (.known 0), .int .i64 (0 : Nat), .int .i64 (0 : Nat)] ∧ h' = σ.new []) 0 ⟨rfl, rfl, rfl⟩ ?_
    rintro m vs h' ⟨rfl, rfl, rfl⟩
    simp only [pwA, if_true, if_false, eq_self, nm_eq, reduceCtorEq, ↓reduceIte, nQ10, nQ7, nQ11, nQ12, nQ16, nQ17, nQ18, iQ2, iQ3, iQ4, iQ5, iQ6, lQ19, iQ7, lQ20]
    have hd0 : d = 0 := by simpa using hle
    exact Gh.finS (cs := pis []) (keep_new σ _) (by simp only [pwA, if_true, if_false, eq_self, nm_eq, reduceCtorEq, ↓reduceIte, nQ10, nQ7, nQ11, nQ12, nQ16, nQ17, nQ18, iQ2, iQ3, iQ4, iQ5, iQ6, lQ19, iQ7, lQ20]; rfl) (Nat.le_refl _) (pis_bel _ _) ((hk [] (s.zv _) (by subst hd0; rfl)).2 _ (.inr rfl))
  rw [hal] at hc
  rw [hal]
  simp only [pwA, if_true, if_false, eq_self, nm_eq, reduceCtorEq, ↓reduceIte, nQ10, nQ7, nQ11, nQ12, nQ16, nQ17, nQ18, iQ2, iQ3, iQ4, iQ5, iQ6, lQ19, iQ7, lQ20, List.length_replicate, pis_rep, mk8 (n := O.length) (by omega), mkL (n := O.length) (by omega)]
  refine vp_loop (fun m vs h' => ∃ (i : Nat) (r z : List Int), i ≤ O.length ∧ m = O.length - i ∧ vs = [.ptr sp 0, .sl σ.next 0 O.length cap, .sl (σ.next + 1) 0 O.length (.known O.length), .int .i64 O.length, .int .i64 i] ∧ h' = (σ.new (pis r)).new (pis z) ∧ TT O (O.length - d) r ∧ TT O i r ∧ TT O (O.length - d) z ∧ mu O P C d a z = r) O.length ?_ ?_
  · exact ⟨0, a, zv O, by omega, by omega, rfl, rfl, ha, ha.mono (Nat.zero_le _), s.zv _, M.r1 ha⟩
  rintro m vs h' ⟨i, r, z, hi, rfl, rfl, rfl, hr, hri, hz, hinv⟩
  simp only [pwA, if_true, if_false, eq_self, nm_eq, reduceCtorEq, ↓reduceIte, nQ10, nQ7, nQ11, nQ12, nQ16, nQ17, nQ18, iQ2, iQ3, iQ4, iQ5, iQ6, lQ19, iQ7, lQ20]
  refine iteI (fun hlt => ?_) fun hge => ?_
  rotate_left
  · have hie : i = O.length := by omega
    subst hie
    have hr0 : r = zv O := hri.ext (s.zv _) fun j h1 h2 => by omega
    rw [hr0] at hinv
    have hzl := hz.len
    have := (hk z hz hinv).2 (.known O.length) (.inr (by rw [hzl]))
    rw [hzl] at this
    exact Gh.finS (s := σ.next + 1) ((keep_new σ _).new _) (by simp only [pwA, if_true, if_false, eq_self, nm_eq, reduceCtorEq, ↓reduceIte, nQ10, nQ7, nQ11, nQ12, nQ16, nQ17, nQ18, iQ2, iQ3, iQ4, iQ5, iQ6, lQ19, iQ7, lQ20]) (by omega) (pis_bel _ _) this
  simp only [pwA, if_true, if_false, eq_self, nm_eq, reduceCtorEq, ↓reduceIte, nQ10, nQ7, nQ11, nQ12, nQ16, nQ17, nQ18, iQ2, iQ3, iQ4, iQ5, iQ6, lQ19, iQ7, lQ20]
  have bO := s.pr i hlt
  refine vp_loop (fun m vs h' => ∃ (r z : List Int), m = ((at_ O i - at_ r i) % at_ O i).toNat ∧ vs = [.ptr sp 0, .sl σ.next 0 O.length cap, .sl (σ.next + 1) 0 O.length (.known O.length), .int .i64 i, .int .i64 O.length, .int .i64 i] ∧ h' = (σ.new (pis r)).new (pis z) ∧ TT O (O.length - d) r ∧ TT O i r ∧ TT O (O.length - d) z ∧ mu O P C d a z = r) _ ⟨r, z, rfl, rfl, rfl, hr, hri, hz, hinv⟩ ?_
  rintro m vs h' ⟨r, z, rfl, rfl, rfl, hr, hri, hz, hinv⟩
  have hrl : i < r.length := by rw [hr.len]; exact hlt
  have br := hr.bd i hlt
  simp only [pwA, if_true, if_false, eq_self, nm_eq, reduceCtorEq, ↓reduceIte, nQ10, nQ7, nQ11, nQ12, nQ16, nQ17, nQ18, iQ2, iQ3, iQ4, iQ5, iQ6, lQ19, iQ7, lQ20, hlt, pisAt hrl]
  refine iteI (fun heq => ?_) fun hneq => ?_
  · simp only [pwA, if_true, if_false, eq_self, nm_eq, reduceCtorEq, ↓reduceIte, nQ10, nQ7, nQ11, nQ12, nQ16, nQ17, nQ18, iQ2, iQ3, iQ4, iQ5, iQ6, lQ19, iQ7, lQ20, wrapS hlt (by omega : O.length ≤ 4611686018427387904)]
    refine ⟨_, by omega, i + 1, r, z, by omega, rfl, rfl, rfl, hr, ?_, hz, hinv⟩
    refine ⟨hri.len, hri.bd, fun t ht => ?_⟩
    by_cases e : t = i
    · subst e; exact heq
    · exact hri.zero t (by omega)
  · have hdi : O.length - d ≤ i := by
      rcases Nat.lt_or_ge i (O.length - d) with h | h
      · exact absurd (hr.zero i h) hneq
      · exact h
    have hu : TT O (O.length - d) (Grp.unit O i) := s.unit hlt hdi
    obtain ⟨m1, m2⟩ := mu_step s hdi hle hlt hri
    refine timesGenerator_ok s F O.length hdi hlt (by omega) _ _ sp σ.next cap r vO vP vC ((hs.new _).new _) hR (by simp only [pwA, if_true, if_false, eq_self, nm_eq, reduceCtorEq, ↓reduceIte, nQ10, nQ7, nQ11, nQ12, nQ16, nQ17, nQ18, iQ2, iQ3, iQ4, iQ5, iQ6, lQ19, iQ7, lQ20]) (by simp only [pwA, if_true, if_false, eq_self, nm_eq, reduceCtorEq, ↓reduceIte, nQ10, nQ7, nQ11, nQ12, nQ16, nQ17, nQ18, iQ2, iQ3, iQ4, iQ5, iQ6, lQ19, iQ7, lQ20]; omega) hne hc hr ?_
    simp only [pwA, if_true, if_false, eq_self, nm_eq, reduceCtorEq, ↓reduceIte, nQ10, nQ7, nQ11, nQ12, nQ16, nQ17, nQ18, iQ2, iQ3, iQ4, iQ5, iQ6, lQ19, iQ7, lQ20]
    refine timesGenerator_ok s F O.length hdi hlt (by omega) _ _ sp (σ.next + 1) (.known O.length) z vO vP vC ((hs.new _).new _) hR (by simp only [pwA, if_true, if_false, eq_self, nm_eq, reduceCtorEq, ↓reduceIte, nQ10, nQ7, nQ11, nQ12, nQ16, nQ17, nQ18, iQ2, iQ3, iQ4, iQ5, iQ6, lQ19, iQ7, lQ20]) (by simp only [pwA, if_true, if_false, eq_self, nm_eq, reduceCtorEq, ↓reduceIte, nQ10, nQ7, nQ11, nQ12, nQ16, nQ17, nQ18, iQ2, iQ3, iQ4, iQ5, iQ6, lQ19, iQ7, lQ20]) hne2 (.inr rfl) hz ?_
    simp only [pwA, if_true, if_false, eq_self, nm_eq, reduceCtorEq, ↓reduceIte, nQ10, nQ7, nQ11, nQ12, nQ16, nQ17, nQ18, iQ2, iQ3, iQ4, iQ5, iQ6, lQ19, iQ7, lQ20]
    refine ⟨_, ?_, _, _, rfl, rfl, M.cl hr hu, m1, M.cl hz hu, by rw [← M.as ha hz hu, hinv]⟩
    rw [m2]
    split
    · rename_i e
      rw [Int.sub_zero, Int.emod_self]
      have : (at_ O i - at_ r i) % at_ O i = at_ O i - at_ r i := Int.emod_eq_of_lt (by omega) (by omega)
      omega
    · rename_i e
      have h1 : (at_ O i - at_ r i) % at_ O i = at_ O i - at_ r i := Int.emod_eq_of_lt (by omega) (by omega)
      have h2 : (at_ O i - (at_ r i + 1)) % at_ O i = at_ O i - (at_ r i + 1) := Int.emod_eq_of_lt (by omega) (by omega)
      omega
theorem invert_fz (s : Shp O P C) (F : Full O P C d) (hs : PtrG σ sp vO vP vC) (hR : IsPr vO vP vC O P C) (ha : TT O (O.length - d) a) (hva : FI va a) (hk : ∀ v z, TT O (O.length - d) z → mu O P C d a z = zv O → FI v z → K v σ) :
    PCalls Tryz.prog 87 [.ptr sp 0, va] σ K :=
  PCalls.gh (invert_ok s F hs hR ha hva fun z h1 h2 => ⟨fun h0 => Gh.fin0 (Keep.refl σ) trivial (hk _ z h1 h2 ⟨true, .nils, by rw [h0]; rfl⟩), fun cap hc => Gh.finF (keep_new σ _) (by simp only [pwA, if_true, if_false, eq_self, nm_eq, reduceCtorEq, ↓reduceIte, nQ10, nQ7, nQ11, nQ12, nQ16, nQ17, nQ18, iQ2, iQ3, iQ4, iQ5, iQ6, lQ19, iQ7, lQ20]) (Nat.le_refl _) (pis_bel _ _) hc.ok fun o => hk _ z h1 h2 ⟨true, .sl o 0 z.length cap, rfl⟩⟩)
theorem conjugate_ok (s : Shp O P C) (F : Full O P C d) (hs : PtrG σ sp vO vP vC) (hR : IsPr vO vP vC O P C) (ha : TT O (O.length - d) a) (hb : TT O (O.length - d) b) (hva : FI va a) (hvb : FI vb b) (hk : ∀ z, TT O (O.length - d) z → mu O P C d b z = mu O P C d a b → ResI σ K z) :
    PCalls Tryz.prog 148 [.ptr sp 0, va, vb] σ K := by
  have M := F.gp.toMon
  refine PCalls.gh ?_
  refine pcalls_of_vp mix Tryz.func148 cf148 rfl ?_
  dsimp only [if148, qI, eI, nI, qD, eD]
  simp only [pwA, if_true, if_false, eq_self, nm_eq, reduceCtorEq, ↓reduceIte, nQ10, nQ7, nQ11, nQ12, nQ16, nQ17, nQ18, iQ2, iQ3, iQ4, iQ5, iQ6, lQ19, iQ7, lQ20]
  refine invert_fz s F hs hR hb hvb fun v1 z1 h1 h2 f1 => ?_
  simp only [pwA, if_true, if_false, eq_self, nm_eq, reduceCtorEq, ↓reduceIte, nQ10, nQ7, nQ11, nQ12, nQ16, nQ17, nQ18, iQ2, iQ3, iQ4, iQ5, iQ6, lQ19, iQ7, lQ20]
  refine multiply_fz s F hs hR ha hb hva hvb fun v2 f2 => ?_
  simp only [pwA, if_true, if_false, eq_self, nm_eq, reduceCtorEq, ↓reduceIte, nQ10, nQ7, nQ11, nQ12, nQ16, nQ17, nQ18, iQ2, iQ3, iQ4, iQ5, iQ6, lQ19, iQ7, lQ20]
  have hab := M.cl ha hb
  have hz := M.cl h1 hab
  have hr := hk _ hz (by rw [← M.as hb h1 hab, h2, M.l1 hab])
  refine multiply_ok s F hs hR h1 hab f1 f2 ⟨fun h0 => ?_, fun cap hc => ?_⟩
  · simp only [pwA, if_true, if_false, eq_self, nm_eq, reduceCtorEq, ↓reduceIte, nQ10, nQ7, nQ11, nQ12, nQ16, nQ17, nQ18, iQ2, iQ3, iQ4, iQ5, iQ6, lQ19, iQ7, lQ20]
    exact Gh.ret (hr.1 h0)
  · simp only [pwA, if_true, if_false, eq_self, nm_eq, reduceCtorEq, ↓reduceIte, nQ10, nQ7, nQ11, nQ12, nQ16, nQ17, nQ18, iQ2, iQ3, iQ4, iQ5, iQ6, lQ19, iQ7, lQ20]
    exact Gh.ret (hr.2 cap hc)
theorem conjugate_fz (s : Shp O P C) (F : Full O P C d) (hs : PtrG σ sp vO vP vC) (hR : IsPr vO vP vC O P C) (ha : TT O (O.length - d) a) (hb : TT O (O.length - d) b) (hva : FI va a) (hvb : FI vb b) (hk : ∀ v z, TT O (O.length - d) z → mu O P C d b z = mu O P C d a b → FI v z → K v σ) :
    PCalls Tryz.prog 148 [.ptr sp 0, va, vb] σ K :=
  PCalls.gh (conjugate_ok s F hs hR ha hb hva hvb fun z h1 h2 => ⟨fun h0 => Gh.fin0 (Keep.refl σ) trivial (hk _ z h1 h2 ⟨true, .nils, by rw [h0]; rfl⟩), fun cap hc => Gh.finF (keep_new σ _) (by simp only [pwA, if_true, if_false, eq_self, nm_eq, reduceCtorEq, ↓reduceIte, nQ10, nQ7, nQ11, nQ12, nQ16, nQ17, nQ18, iQ2, iQ3, iQ4, iQ5, iQ6, lQ19, iQ7, lQ20]) (Nat.le_refl _) (pis_bel _ _) hc.ok fun o => hk _ z h1 h2 ⟨true, .sl o 0 z.length cap, rfl⟩⟩)
theorem imageBy_fz (s : Shp O P C) (F : Full O P C d) {i : Nat} (hi : O.length = d + (i + 1)) (hs : PtrG σ sp vO vP vC) (hR : IsPr vO vP vC O P C) (hx : TT O 0 x) (hvx : FI vx x) (hk : ∀ v, FI v (Grp.img O C (mu O P C d) i x) → K v σ) :
    PCalls Tryz.prog 208 [.ptr sp 0, .int .i64 i, vx] σ K := by
  have hn6 := s.le
  have hxl := hx.len
  have hil : i < O.length := by omega
  have M := F.gp.toMon
  have hne : sp ≠ σ.next := Nat.ne_of_lt hs.lt
  have hR0 := hR
  have hs0 := hs
  have edi : O.length - d = i + 1 := by omega
  obtain ⟨⟨w0, a0, rfl⟩, ⟨w1, a1, rP, rfl, hP⟩, ⟨w3, a3, rC, rfl, hC⟩⟩ := hR
  obtain ⟨w5, a5, rs, hrb, hrs⟩ := cvRow s hC hil
  have hiC : i < C.length := by rw [s.cl]; exact hil
  have e2 : σ.rd1 sp 2 = some (.fz w3 a3 C.length rC) := by rw [obj_rd1 hs.obj]; rfl
  have wi1 : IntKind.i64.wrap ((i : Int) + 1) = ((i + 1 : Nat) : Int) := wrapS hil (by omega)
  obtain ⟨wx, ax, rfl⟩ := hvx
  rw [hxl]
  have hlr : O.length - 1 - i = d := by omega
  rw [hlr] at hrb hrs
  refine PCalls.gh ?_
  refine pcalls_of_vp mix Tryz.func208 cf208 rfl ?_
  dsimp only [if208, qI, eI, nI, qD, eD]
  simp only [pwA, if_true, if_false, eq_self, nm_eq, reduceCtorEq, ↓reduceIte, nQ10, nQ7, nQ11, nQ12, nQ16, nQ17, nQ18, iQ2, iQ3, iQ4, iQ5, iQ6, lQ19, iQ7, lQ20, List.length_replicate, pis_rep, mk8 (n := O.length) (by omega), mkL (n := O.length) (by omega), e2, hne, hiC, hrb]
  refine vp_loop (fun m vs h' => ∃ (k : Nat) (y : List Int), k ≤ d ∧ m = d - k ∧ vs = [.ptr sp 0, .int .i64 i, .fz wx ax O.length (pis x), .sl σ.next 0 O.length (.known O.length), .fz w5 a5 d rs, .int .i64 d, .int .i64 k] ∧ h' = σ.new (pis y) ∧ TT O (i + 1) y ∧ fo (mu O P C d) (cvec C i) (nx x) (i + (1 + k)) (d - k) y = Grp.img O C (mu O P C d) i x) d ?_ ?_
  · exact ⟨0, zv O, by omega, by omega, rfl, rfl, s.zv _, by rw [Grp.img, hlr]; rfl⟩
  rintro m vs h' ⟨k, y, hkd, rfl, rfl, rfl, hy, hfo⟩
  simp only [pwA, if_true, if_false, eq_self, nm_eq, reduceCtorEq, ↓reduceIte, nQ10, nQ7, nQ11, nQ12, nQ16, nQ17, nQ18, iQ2, iQ3, iQ4, iQ5, iQ6, lQ19, iQ7, lQ20]
  refine iteI (fun hlt => ?_) fun hge => ?_
  rotate_left
  · have hke : d - k = 0 := by omega
    rw [hke] at hfo
    rw [← hfo] at hk
    exact Gh.finF (keep_new σ _) (by simp only [pwA, if_true, if_false, eq_self, nm_eq, reduceCtorEq, ↓reduceIte, nQ10, nQ7, nQ11, nQ12, nQ16, nQ17, nQ18, iQ2, iQ3, iQ4, iQ5, iQ6, lQ19, iQ7, lQ20]; rfl) (Nat.le_refl _) (pis_bel _ _) (by simp [capOK]) fun o => hk _ (FI.mk hy.len)
  have hjl : i + (1 + k) < O.length := by omega
  have hjx : i + (1 + k) < x.length := by omega
  have bk := hx.bd (i + (1 + k)) hjl
  have bOk := s.pr _ hjl
  have hnx : ((nx x (i + (1 + k)) : Nat) : Int) = at_ x (i + (1 + k)) := Int.toNat_of_nonneg bk.1
  obtain ⟨w7, a7, hrk⟩ := hrs k hlt
  have hcv := s.cj i (i + (1 + k)) (by omega) hjl
  have e3 : IntKind.i64.wrap (((i + 1 : Nat) : Int) + (k : Int)) = ((i + (1 + k) : Nat) : Int) := by rw [wrap64 (by omega) (by omega)]; omega
  rw [show d - k = (d - k - 1) + 1 by omega] at hfo
  simp only [pwA, if_true, if_false, eq_self, nm_eq, reduceCtorEq, ↓reduceIte, nQ10, nQ7, nQ11, nQ12, nQ16, nQ17, nQ18, iQ2, iQ3, iQ4, iQ5, iQ6, lQ19, iQ7, lQ20, hlt, hrk, wi1, e3, hjl, pisAt hjx]
  refine vp_loop (fun m vs h' => ∃ (q : Nat) (y : List Int), q ≤ nx x (i + (1 + k)) ∧ m = nx x (i + (1 + k)) - q ∧ vs = [.ptr sp 0, .int .i64 i, .fz wx ax O.length (pis x), .sl σ.next 0 O.length (.known O.length), .fz w7 a7 O.length (pis (cvec C i (i + (1 + k)))), .fz w5 a5 d rs, .int .i64 d, .int .i64 k, .int .i64 (at_ x (i + (1 + k))), .int .i64 q] ∧ h' = σ.new (pis y) ∧ TT O (i + 1) y ∧ fo (mu O P C d) (cvec C i) (nx x) (i + (1 + k) + 1) (d - k - 1) (rep (mu O P C d) (cvec C i (i + (1 + k))) (nx x (i + (1 + k)) - q) y) = Grp.img O C (mu O P C d) i x) (nx x (i + (1 + k))) ?_ ?_
  · exact ⟨0, y, by omega, by omega, rfl, rfl, hy, hfo⟩
  rintro m vs h' ⟨q, y, hqn, rfl, rfl, rfl, hy, hfo⟩
  simp only [pwA, if_true, if_false, eq_self, nm_eq, reduceCtorEq, ↓reduceIte, nQ10, nQ7, nQ11, nQ12, nQ16, nQ17, nQ18, iQ2, iQ3, iQ4, iQ5, iQ6, lQ19, iQ7, lQ20]
  refine iteI (fun hlt2 => ?_) fun hge2 => ?_
  · have hlt3 : q < nx x (i + (1 + k)) := by omega
    refine timesVector_ok s F (hs0.new _) hR0 (x := y) (by simp only [pwA, if_true, if_false, eq_self, nm_eq, reduceCtorEq, ↓reduceIte, nQ10, nQ7, nQ11, nQ12, nQ16, nQ17, nQ18, iQ2, iQ3, iQ4, iQ5, iQ6, lQ19, iQ7, lQ20]) (by simp only [pwA, if_true, if_false, eq_self, nm_eq, reduceCtorEq, ↓reduceIte, nQ10, nQ7, nQ11, nQ12, nQ16, nQ17, nQ18, iQ2, iQ3, iQ4, iQ5, iQ6, lQ19, iQ7, lQ20]) hne (.inr rfl) (by rw [edi]; exact hy) (by rw [edi]; exact hcv) (FI.mk hcv.len) ?_
    simp only [pwA, if_true, if_false, eq_self, nm_eq, reduceCtorEq, ↓reduceIte, nQ10, nQ7, nQ11, nQ12, nQ16, nQ17, nQ18, iQ2, iQ3, iQ4, iQ5, iQ6, lQ19, iQ7, lQ20, wrapS hlt3 (by omega : nx x (i + (1 + k)) ≤ 4611686018427387904)]
    have hmy := M.cl (a := y) (b := cvec C i (i + (1 + k))) (by rw [edi]; exact hy) (by rw [edi]; exact hcv)
    rw [edi] at hmy
    refine ⟨_, by omega, q + 1, _, by omega, rfl, rfl, rfl, hmy, ?_⟩
    rw [show nx x (i + (1 + k)) - q = (nx x (i + (1 + k)) - (q + 1)) + 1 by omega] at hfo
    exact hfo
  · have hqe : q = nx x (i + (1 + k)) := by omega
    subst hqe
    rw [Nat.sub_self] at hfo
    simp only [pwA, if_true, if_false, eq_self, nm_eq, reduceCtorEq, ↓reduceIte, nQ10, nQ7, nQ11, nQ12, nQ16, nQ17, nQ18, iQ2, iQ3, iQ4, iQ5, iQ6, lQ19, iQ7, lQ20, wrapS hlt (by omega : d ≤ 4611686018427387904)]
    refine ⟨_, by omega, k + 1, y, by omega, rfl, rfl, rfl, hy, ?_⟩
    rw [show d - (k + 1) = d - k - 1 by omega]
    exact hfo
end Go.Proofs
namespace Go.Grp
end Go.Grp
namespace Go.Proofs
open Go.Ab Go.Lie Go.Grp
variable {σ : PHeap} {K : PV → PHeap → Prop} {O : List Int} {P : List (List Int)} {C : List (List (List Int))} {vO vP vC vx : PV} {s : Nat} {x : List Int} {rP rC : List PV}
theorem l08Level_ok (s : Shp O P C) {d i : Nat} (hi : O.length = d + (i + 1)) (B : Beh O P C d) (hR : IsPr vO vP vC O P C)
    (hk : ∀ f0 f1 f2 f3 : Int, (f0 = 0 ↔ Lv O P C i) → K (.agg [.int .i64 f0, .int .i64 f1, .int .i64 f2, .int .i64 f3]) σ) : PCalls Tryz.prog 202 [.agg [vO, vP, vC], .int .i64 i] σ K := by
  have hn6 := s.le
  have hR0 := hR
  have hil : i < O.length := by omega
  have hAt : AtOK O P C d (i + 1) := l08At_ok s (by omega)
  have M := B.gp.toMon
  rw [show O.length - d = i + 1 by omega] at M
  have ed : O.length - 1 - i = d := by omega
  have yes : ((∀ q, q < d → pw (mu O P C d) (zv O) (cvec C i (i + (1 + q))) (nx O (i + (1 + q))) = Grp.img O C (mu O P C d) i (pvec P (i + (1 + q)))) →
      (∀ q r, q + (1 + r) < d → mu O P C d (cvec C i (i + (1 + (q + (1 + r))))) (cvec C i (i + (1 + q))) = mu O P C d (cvec C i (i + (1 + q))) (Grp.img O C (mu O P C d) i (cvec C (i + (1 + q)) (i + (1 + (q + (1 + r))))))) →
      Grp.img O C (mu O P C d) i (pvec P i) = pvec P i →
      (∀ q, q < d → mu O P C d (pvec P i) (iter (Grp.img O C (mu O P C d) i) (nx O i) (unitL O.length (i + (1 + q)))) = mu O P C d (unitL O.length (i + (1 + q))) (pvec P i)) → Lv O P C i) := fun h1 h2 h3 h4 => by
    refine ⟨fun j g1 g2 => ?_, fun j k g1 g2 g3 => ?_, ?_, fun j g1 g2 => ?_⟩
    · have := h1 (j - i - 1) (by omega); rw [show i + (1 + (j - i - 1)) = j by omega] at this; rw [ed]; exact this
    · have := h2 (j - i - 1) (k - j - 1) (by omega); rw [show i + (1 + (j - i - 1)) = j by omega, show i + (1 + (j - i - 1 + (1 + (k - j - 1)))) = k by omega] at this; rw [ed]; exact this
    · rw [ed]; exact h3
    · have := h4 (j - i - 1) (by omega); rw [show i + (1 + (j - i - 1)) = j by omega] at this; rw [ed]; exact this
  obtain ⟨⟨w0, a0, rfl⟩, ⟨w1, a1, rP, rfl, hP⟩, ⟨w3, a3, rC, rfl, hC⟩⟩ := hR
  obtain ⟨w5, a5, rs, hrb, hrs⟩ := cvRow s hC hil
  have hiC : i < C.length := by rw [s.cl]; exact hil
  have hiP : i < P.length := by rw [s.pl]; exact hil
  refine PCalls.gh ?_
  have fin : ∀ {f0 f1 f2 f3 : Int} {σ' : PHeap}, (f0 = 0 ↔ Lv O P C i) → Keep σ σ' → Gh σ K (.agg [.int .i64 f0, .int .i64 f1, .int .i64 f2, .int .i64 f3]) σ' := fun h k => Gh.fin0 k ⟨trivial, trivial, trivial, trivial, trivial⟩ (hk _ _ _ _ h)
  have no : ∀ {f0 : Int}, f0 ≠ 0 → ¬ Lv O P C i → (f0 = 0 ↔ Lv O P C i) := fun h g => ⟨fun x => absurd x h, fun x => absurd x g⟩
  refine pcalls_of_vp mix Tryz.func202 cf202 rfl ?_
  dsimp only [if202, qI, eI, nI, qD, eD]
  simp only [pwA, if_true, if_false, eq_self, nm_eq, reduceCtorEq, ↓reduceIte, nQ10, nQ7, nQ11, nQ12, nQ16, nQ17, nQ18, iQ2, iQ3, iQ4, iQ5, iQ6, lQ19, iQ7, lQ20]
  have hkp : ∀ cs : List PV, Keep σ ((σ.new [.fz w0 a0 O.length (pis O), .fz w1 a1 P.length rP, .fz w3 a3 C.length rC]).new cs) := fun cs => (keep_new σ _).new _
  have wi1 : IntKind.i64.wrap ((i : Int) + 1) = ((i + 1 : Nat) : Int) := wrapS hil (by omega)
  -- first condition
  simp only [pwA, if_true, if_false, eq_self, nm_eq, reduceCtorEq, ↓reduceIte, nQ10, nQ7, nQ11, nQ12, nQ16, nQ17, nQ18, iQ2, iQ3, iQ4, iQ5, iQ6, lQ19, iQ7, lQ20, wi1]
  refine vp_loop (fun m vs h' => ∃ q : Nat, q ≤ d ∧ m = d - q ∧ vs = [.int .i64 i, .ptr σ.next 0, .ptr (σ.next + 1) 0, .int .i64 O.length, .int .i64 i, .int .i64 ((i + (1 + q) : Nat) : Int)] ∧
    h' = (σ.new [.fz w0 a0 O.length (pis O), .fz w1 a1 P.length rP, .fz w3 a3 C.length rC]).new [.int .i64 0, .int .i64 0, .int .i64 0, .int .i64 0] ∧ ∀ q', q' < q → pw (mu O P C d) (zv O) (cvec C i (i + (1 + q'))) (nx O (i + (1 + q'))) = Grp.img O C (mu O P C d) i (pvec P (i + (1 + q')))) d ?_ ?_
  · exact ⟨0, by omega, by omega, rfl, rfl, fun q h => by omega⟩
  rintro m vs h' ⟨q, hq, rfl, rfl, rfl, hall⟩
  simp only [pwA, if_true, if_false, eq_self, nm_eq, reduceCtorEq, ↓reduceIte, nQ10, nQ7, nQ11, nQ12, nQ16, nQ17, nQ18, iQ2, iQ3, iQ4, iQ5, iQ6, lQ19, iQ7, lQ20]
  refine iteI (fun hlt => ?_) fun hge => ?_
  · have hjO : i + (1 + q) < O.length := by omega
    have hjP : i + (1 + q) < P.length := by rw [s.pl]; exact hjO
    obtain ⟨w6, a6, hrk⟩ := hrs q (by omega)
    obtain ⟨w7, a7, hpr⟩ := pvRow s hP hjO
    have hjr : q < O.length - 1 - i := by omega
    have hcv := s.cj i (i + (1 + q)) (by omega) (by omega)
    have hpv := s.pw (i + (1 + q)) hjO
    have hO := s.pr _ hjO
    have e3 : IntKind.i64.wrap (((i + (1 + q) : Nat) : Int) - (i : Int)) = ((1 + q : Nat) : Int) := by rw [wrap64 (by omega) (by omega)]; omega
    have e4 : IntKind.i64.wrap (((1 + q : Nat) : Int) - 1) = (q : Int) := by rw [wrap64 (by omega) (by omega)]; omega
    have e5 : IntKind.i64.wrap (((i + (1 + q) : Nat) : Int) + 1) = ((i + (1 + (q + 1)) : Nat) : Int) := by rw [wrap64 (by omega) (by omega)]; omega
    simp only [pwA, if_true, if_false, eq_self, nm_eq, reduceCtorEq, ↓reduceIte, nQ10, nQ7, nQ11, nQ12, nQ16, nQ17, nQ18, iQ2, iQ3, iQ4, iQ5, iQ6, lQ19, iQ7, lQ20, wi1, hiC, hrb, e3, e4, hjr, hrk, hjO, pisAt hjO]
    refine l08Repeat_ok s (by omega) hAt M hR0 hcv (FI.mk hcv.len) (by omega) fun v hv => ?_
    simp only [pwA, if_true, if_false, eq_self, nm_eq, reduceCtorEq, ↓reduceIte, nQ10, nQ7, nQ11, nQ12, nQ16, nQ17, nQ18, iQ2, iQ3, iQ4, iQ5, iQ6, lQ19, iQ7, lQ20, wi1, hiC, hrb, e3, e4, hjr, hrk, hjO, pisAt hjO, hjP, hpr]
    refine l08Image_ok s (by omega) hAt hR0 (hpv.mono (Nat.zero_le _)) (FI.mk hpv.len) fun v2 hv2 => ?_
    obtain ⟨w8, a8, rfl⟩ := hv
    obtain ⟨w9, a9, rfl⟩ := hv2
    simp only [pwA, if_true, if_false, eq_self, nm_eq, reduceCtorEq, ↓reduceIte, nQ10, nQ7, nQ11, nQ12, nQ16, nQ17, nQ18, iQ2, iQ3, iQ4, iQ5, iQ6, lQ19, iQ7, lQ20, hjP, hpr]
    refine l01Same_ok rfl rfl (by have := (M.pw hcv (at_ O (i + (1 + q))).toNat).len; omega) ?_
    by_cases he : pw (mu O P C d) (zv O) (cvec C i (i + (1 + q))) (nx O (i + (1 + q))) = Grp.img O C (mu O P C d) i (pvec P (i + (1 + q)))
    · simp only [pwA, if_true, if_false, eq_self, nm_eq, reduceCtorEq, ↓reduceIte, nQ10, nQ7, nQ11, nQ12, nQ16, nQ17, nQ18, iQ2, iQ3, iQ4, iQ5, iQ6, lQ19, iQ7, lQ20, eq_true he, e5]
      refine ⟨_, by omega, q + 1, by omega, rfl, rfl, fun q' h => ?_⟩
      by_cases e : q' = q
      · subst e; exact he
      · exact hall q' (by omega)
    · simp only [pwA, if_true, if_false, eq_self, nm_eq, reduceCtorEq, ↓reduceIte, nQ10, nQ7, nQ11, nQ12, nQ16, nQ17, nQ18, iQ2, iQ3, iQ4, iQ5, iQ6, lQ19, iQ7, lQ20, he]
      exact fin (no (by decide) fun L => he (by have := L.pow (i + (1 + q)) (by omega) hjO; rwa [ed] at this)) (hkp _)
  have hqd : q = d := by omega
  subst hqd
  -- second condition
  simp only [pwA, if_true, if_false, eq_self, nm_eq, reduceCtorEq, ↓reduceIte, nQ10, nQ7, nQ11, nQ12, nQ16, nQ17, nQ18, iQ2, iQ3, iQ4, iQ5, iQ6, lQ19, iQ7, lQ20, wi1]
  refine vp_loop (fun m vs h' => ∃ q' : Nat, q' ≤ q ∧ m = q - q' ∧ vs = [.int .i64 i, .ptr σ.next 0, .ptr (σ.next + 1) 0, .int .i64 O.length, .int .i64 i, .int .i64 ((i + (1 + q') : Nat) : Int)] ∧
    h' = (σ.new [.fz w0 a0 O.length (pis O), .fz w1 a1 P.length rP, .fz w3 a3 C.length rC]).new [.int .i64 0, .int .i64 0, .int .i64 0, .int .i64 0] ∧
    ∀ t r, t < q' → t + (1 + r) < q → mu O P C q (cvec C i (i + (1 + (t + (1 + r))))) (cvec C i (i + (1 + t))) = mu O P C q (cvec C i (i + (1 + t))) (Grp.img O C (mu O P C q) i (cvec C (i + (1 + t)) (i + (1 + (t + (1 + r))))))) q ?_ ?_
  · exact ⟨0, by omega, by omega, rfl, rfl, fun t r h => by omega⟩
  rintro m vs h' ⟨t, ht, rfl, rfl, rfl, hall2⟩
  simp only [pwA, if_true, if_false, eq_self, nm_eq, reduceCtorEq, ↓reduceIte, nQ10, nQ7, nQ11, nQ12, nQ16, nQ17, nQ18, iQ2, iQ3, iQ4, iQ5, iQ6, lQ19, iQ7, lQ20]
  refine iteI (fun hlt => ?_) fun hge => ?_
  · have hjO : i + (1 + t) < O.length := by omega
    have hjC : i + (1 + t) < C.length := by rw [s.cl]; exact hjO
    obtain ⟨w6, a6, hrk⟩ := hrs t (by omega)
    obtain ⟨w7, a7, rs2, hrb2, hrs2⟩ := cvRow s hC hjO
    have hjr : t < O.length - 1 - i := by omega
    have hcv := s.cj i (i + (1 + t)) (by omega) (by omega)
    have e3 : IntKind.i64.wrap (((i + (1 + t) : Nat) : Int) - (i : Int)) = ((1 + t : Nat) : Int) := by rw [wrap64 (by omega) (by omega)]; omega
    have e4 : IntKind.i64.wrap (((1 + t : Nat) : Int) - 1) = (t : Int) := by rw [wrap64 (by omega) (by omega)]; omega
    have e5 : IntKind.i64.wrap (((i + (1 + t) : Nat) : Int) + 1) = ((i + (1 + (t + 1)) : Nat) : Int) := by rw [wrap64 (by omega) (by omega)]; omega
    simp only [pwA, if_true, if_false, eq_self, nm_eq, reduceCtorEq, ↓reduceIte, nQ10, nQ7, nQ11, nQ12, nQ16, nQ17, nQ18, iQ2, iQ3, iQ4, iQ5, iQ6, lQ19, iQ7, lQ20, e5]
    refine vp_loop (fun m vs h' => ∃ r : Nat, t + (1 + r) ≤ q ∧ m = q - (t + (1 + r)) ∧ vs = [.int .i64 i, .ptr σ.next 0, .ptr (σ.next + 1) 0, .int .i64 O.length, .int .i64 i, .int .i64 ((i + (1 + t) : Nat) : Int), .int .i64 ((i + (1 + (t + (1 + r))) : Nat) : Int)] ∧
      h' = (σ.new [.fz w0 a0 O.length (pis O), .fz w1 a1 P.length rP, .fz w3 a3 C.length rC]).new [.int .i64 0, .int .i64 0, .int .i64 0, .int .i64 0] ∧
      ∀ r', r' < r → t + (1 + r') < q → mu O P C q (cvec C i (i + (1 + (t + (1 + r'))))) (cvec C i (i + (1 + t))) = mu O P C q (cvec C i (i + (1 + t))) (Grp.img O C (mu O P C q) i (cvec C (i + (1 + t)) (i + (1 + (t + (1 + r'))))))) (q - (t + 1)) ?_ ?_
    · exact ⟨0, by omega, by omega, rfl, rfl, fun r' h => by omega⟩
    rintro m vs h' ⟨r, hr, rfl, rfl, rfl, hall3⟩
    simp only [pwA, if_true, if_false, eq_self, nm_eq, reduceCtorEq, ↓reduceIte, nQ10, nQ7, nQ11, nQ12, nQ16, nQ17, nQ18, iQ2, iQ3, iQ4, iQ5, iQ6, lQ19, iQ7, lQ20]
    refine iteI (fun hlt2 => ?_) fun hge2 => ?_
    · have hkO : i + (1 + (t + (1 + r))) < O.length := by omega
      obtain ⟨w8, a8, hrk2⟩ := hrs (t + (1 + r)) (by omega)
      obtain ⟨w9, a9, hrk3⟩ := hrs2 r (by omega)
      rw [show i + (1 + t) + (1 + r) = i + (1 + (t + (1 + r))) by omega] at hrk3
      have hcv2 := s.cj i (i + (1 + (t + (1 + r)))) (by omega) hkO
      have hcv3 := s.cj (i + (1 + t)) (i + (1 + (t + (1 + r)))) (by omega) hkO
      have hkr : t + (1 + r) < O.length - 1 - i := by omega
      have hkr2 : r < O.length - 1 - (i + (1 + t)) := by omega
      have f3 : IntKind.i64.wrap (((i + (1 + (t + (1 + r))) : Nat) : Int) - (i : Int)) = ((1 + (t + (1 + r)) : Nat) : Int) := by rw [wrap64 (by omega) (by omega)]; omega
      have f4 : IntKind.i64.wrap (((1 + (t + (1 + r)) : Nat) : Int) - 1) = ((t + (1 + r) : Nat) : Int) := by rw [wrap64 (by omega) (by omega)]; omega
      have f5 : IntKind.i64.wrap (((i + (1 + (t + (1 + r))) : Nat) : Int) + 1) = ((i + (1 + (t + (1 + (r + 1)))) : Nat) : Int) := by rw [wrap64 (by omega) (by omega)]; omega
      have f6 : IntKind.i64.wrap (((i + (1 + (t + (1 + r))) : Nat) : Int) - ((i + (1 + t) : Nat) : Int)) = ((1 + r : Nat) : Int) := by rw [wrap64 (by omega) (by omega)]; omega
      have f7 : IntKind.i64.wrap (((1 + r : Nat) : Int) - 1) = (r : Int) := by rw [wrap64 (by omega) (by omega)]; omega
      simp only [pwA, if_true, if_false, eq_self, nm_eq, reduceCtorEq, ↓reduceIte, nQ10, nQ7, nQ11, nQ12, nQ16, nQ17, nQ18, iQ2, iQ3, iQ4, iQ5, iQ6, lQ19, iQ7, lQ20, wi1, hiC, hrb, e3, e4, f3, f4, f6, f7, hjr, hrk, hkr, hrk2, hjC, hrb2, hkr2, hrk3]
      refine l08Image_ok s (by omega) hAt hR0 (hcv3.mono (Nat.zero_le _)) (FI.mk hcv3.len) fun v hv => ?_
      have hz := img_tt s (i := i) (m := mu O P C q) (fun a b ha hb => M.cl ha hb) (cvec C (i + (1 + t)) (i + (1 + (t + (1 + r)))))
      simp only [pwA, if_true, if_false, eq_self, nm_eq, reduceCtorEq, ↓reduceIte, nQ10, nQ7, nQ11, nQ12, nQ16, nQ17, nQ18, iQ2, iQ3, iQ4, iQ5, iQ6, lQ19, iQ7, lQ20, wi1, hiC, hrb, e3, e4, f3, f4, f6, f7, hjr, hrk, hkr, hrk2, hjC, hrb2, hkr2, hrk3]
      refine hAt hR0 hcv2 hcv (FI.mk hcv2.len) (FI.mk hcv.len) fun v2 hv2 => ?_
      simp only [pwA, if_true, if_false, eq_self, nm_eq, reduceCtorEq, ↓reduceIte, nQ10, nQ7, nQ11, nQ12, nQ16, nQ17, nQ18, iQ2, iQ3, iQ4, iQ5, iQ6, lQ19, iQ7, lQ20, wi1]
      refine hAt hR0 hcv hz (FI.mk hcv.len) hv fun v3 hv3 => ?_
      obtain ⟨w10, a10, rfl⟩ := hv2
      obtain ⟨w11, a11, rfl⟩ := hv3
      simp only [pwA, if_true, if_false, eq_self, nm_eq, reduceCtorEq, ↓reduceIte, nQ10, nQ7, nQ11, nQ12, nQ16, nQ17, nQ18, iQ2, iQ3, iQ4, iQ5, iQ6, lQ19, iQ7, lQ20]
      refine l01Same_ok rfl rfl (by have := (M.cl hcv2 hcv).len; omega) ?_
      by_cases he : mu O P C q (cvec C i (i + (1 + (t + (1 + r))))) (cvec C i (i + (1 + t))) = mu O P C q (cvec C i (i + (1 + t))) (Grp.img O C (mu O P C q) i (cvec C (i + (1 + t)) (i + (1 + (t + (1 + r))))))
      · simp only [pwA, if_true, if_false, eq_self, nm_eq, reduceCtorEq, ↓reduceIte, nQ10, nQ7, nQ11, nQ12, nQ16, nQ17, nQ18, iQ2, iQ3, iQ4, iQ5, iQ6, lQ19, iQ7, lQ20, eq_true he, f5]
        refine ⟨_, by omega, r + 1, by omega, rfl, rfl, fun r' h1 h2 => ?_⟩
        by_cases e : r' = r
        · subst e; exact he
        · exact hall3 r' (by omega) h2
      · simp only [pwA, if_true, if_false, eq_self, nm_eq, reduceCtorEq, ↓reduceIte, nQ10, nQ7, nQ11, nQ12, nQ16, nQ17, nQ18, iQ2, iQ3, iQ4, iQ5, iQ6, lQ19, iQ7, lQ20, he]
        exact fin (no (by decide) fun L => he (by have := L.cj (i + (1 + t)) (i + (1 + (t + (1 + r)))) (by omega) (by omega) hkO; rwa [ed] at this)) (hkp _)
    · simp only [pwA, if_true, if_false, eq_self, nm_eq, reduceCtorEq, ↓reduceIte, nQ10, nQ7, nQ11, nQ12, nQ16, nQ17, nQ18, iQ2, iQ3, iQ4, iQ5, iQ6, lQ19, iQ7, lQ20, e5]
      refine ⟨_, by omega, t + 1, by omega, rfl, rfl, fun t' r' h1 h2 => ?_⟩
      by_cases e : t' = t
      · subst e; exact hall3 r' (by omega) h2
      · exact hall2 t' r' (by omega) h2
  -- third condition
  obtain ⟨w6, a6, hpr⟩ := pvRow s hP hil
  have hpv := s.pw i hil
  simp only [pwA, if_true, if_false, eq_self, nm_eq, reduceCtorEq, ↓reduceIte, nQ10, nQ7, nQ11, nQ12, nQ16, nQ17, nQ18, iQ2, iQ3, iQ4, iQ5, iQ6, lQ19, iQ7, lQ20, hiP, hpr]
  refine l08Image_ok s (by omega) hAt hR0 (hpv.mono (Nat.zero_le _)) (FI.mk hpv.len) fun v hv => ?_
  obtain ⟨w7, a7, rfl⟩ := hv
  simp only [pwA, if_true, if_false, eq_self, nm_eq, reduceCtorEq, ↓reduceIte, nQ10, nQ7, nQ11, nQ12, nQ16, nQ17, nQ18, iQ2, iQ3, iQ4, iQ5, iQ6, lQ19, iQ7, lQ20]
  refine l01Same_ok rfl hpv.len.symm (by have := (img_tt s (i := i) (m := mu O P C q) (fun a b ha hb => M.cl ha hb) (pvec P i)).len; omega) ?_
  by_cases he3 : Grp.img O C (mu O P C q) i (pvec P i) = pvec P i
  rotate_left
  · simp only [pwA, if_true, if_false, eq_self, nm_eq, reduceCtorEq, ↓reduceIte, nQ10, nQ7, nQ11, nQ12, nQ16, nQ17, nQ18, iQ2, iQ3, iQ4, iQ5, iQ6, lQ19, iQ7, lQ20, he3]
    exact fin (no (by decide) fun L => he3 (by have := L.fix; rwa [ed] at this)) (hkp _)
  simp only [pwA, if_true, if_false, eq_self, nm_eq, reduceCtorEq, ↓reduceIte, nQ10, nQ7, nQ11, nQ12, nQ16, nQ17, nQ18, iQ2, iQ3, iQ4, iQ5, iQ6, lQ19, iQ7, lQ20, eq_true he3, wi1]
  -- fourth condition
  refine vp_loop (fun m vs h' => ∃ q' : Nat, q' ≤ q ∧ m = q - q' ∧ vs = [.int .i64 i, .ptr σ.next 0, .ptr (σ.next + 1) 0, .int .i64 O.length, .int .i64 i, .fz w6 a6 O.length (pis (pvec P i)), .int .i64 ((i + (1 + q') : Nat) : Int)] ∧
    h' = (σ.new [.fz w0 a0 O.length (pis O), .fz w1 a1 P.length rP, .fz w3 a3 C.length rC]).new [.int .i64 0, .int .i64 0, .int .i64 0, .int .i64 0] ∧
    ∀ t, t < q' → mu O P C q (pvec P i) (iter (Grp.img O C (mu O P C q) i) (nx O i) (unitL O.length (i + (1 + t)))) = mu O P C q (unitL O.length (i + (1 + t))) (pvec P i)) q ?_ ?_
  · exact ⟨0, by omega, by omega, rfl, rfl, fun t h => by omega⟩
  rintro m vs h' ⟨t, ht, rfl, rfl, rfl, hall4⟩
  simp only [pwA, if_true, if_false, eq_self, nm_eq, reduceCtorEq, ↓reduceIte, nQ10, nQ7, nQ11, nQ12, nQ16, nQ17, nQ18, iQ2, iQ3, iQ4, iQ5, iQ6, lQ19, iQ7, lQ20]
  refine iteI (fun hlt => ?_) fun hge => ?_
  rotate_left
  · exact fin ⟨fun _ => yes hall (fun t' r' h => hall2 t' r' (by omega) h) he3 (fun t' h => hall4 t' (by omega)), fun _ => rfl⟩ (hkp _)
  have hjO : i + (1 + t) < O.length := by omega
  have hO := s.pr i hil
  have e5 : IntKind.i64.wrap (((i + (1 + t) : Nat) : Int) + 1) = ((i + (1 + (t + 1)) : Nat) : Int) := by rw [wrap64 (by omega) (by omega)]; omega
  have hun : TT O (i + 1) (unitL O.length (i + (1 + t))) := s.unit hjO (by omega)
  simp only [pwA, if_true, if_false, eq_self, nm_eq, reduceCtorEq, ↓reduceIte, nQ10, nQ7, nQ11, nQ12, nQ16, nQ17, nQ18, iQ2, iQ3, iQ4, iQ5, iQ6, lQ19, iQ7, lQ20]
  refine l07Unit_ok (by omega) hjO fun v hv => ?_
  simp only [pwA, if_true, if_false, eq_self, nm_eq, reduceCtorEq, ↓reduceIte, nQ10, nQ7, nQ11, nQ12, nQ16, nQ17, nQ18, iQ2, iQ3, iQ4, iQ5, iQ6, lQ19, iQ7, lQ20]
  refine vp_loop (fun m vs h' => ∃ (k : Nat) (v2 : PV) (A : List Int), k ≤ nx O i ∧ m = nx O i - k ∧ vs = [.int .i64 i, .ptr σ.next 0, .ptr (σ.next + 1) 0, .int .i64 O.length, .int .i64 i, .fz w6 a6 O.length (pis (pvec P i)), .int .i64 ((i + (1 + t) : Nat) : Int), v, v2, .int .i64 k] ∧
    h' = (σ.new [.fz w0 a0 O.length (pis O), .fz w1 a1 P.length rP, .fz w3 a3 C.length rC]).new [.int .i64 0, .int .i64 0, .int .i64 0, .int .i64 0] ∧ FI v2 A ∧ TT O (i + 1) A ∧ iter (Grp.img O C (mu O P C q) i) (nx O i - k) A = iter (Grp.img O C (mu O P C q) i) (nx O i) (unitL O.length (i + (1 + t)))) (nx O i) ?_ ?_
  · exact ⟨0, v, _, by omega, by omega, rfl, rfl, hv, hun, rfl⟩
  rintro m vs h' ⟨k, v2, A, hkn, rfl, rfl, rfl, hv2, hA, hit⟩
  have hnx : ((nx O i : Nat) : Int) = at_ O i := Int.toNat_of_nonneg (by omega)
  simp only [pwA, if_true, if_false, eq_self, nm_eq, reduceCtorEq, ↓reduceIte, nQ10, nQ7, nQ11, nQ12, nQ16, nQ17, nQ18, iQ2, iQ3, iQ4, iQ5, iQ6, lQ19, iQ7, lQ20, pisAt hil, hil]
  refine iteI (fun hlt2 => ?_) fun hge2 => ?_
  · have hlt3 : k < nx O i := by omega
    refine l08Image_ok s (by omega) hAt hR0 (hA.mono (Nat.zero_le _)) hv2 fun v3 hv3 => ?_
    simp only [pwA, if_true, if_false, eq_self, nm_eq, reduceCtorEq, ↓reduceIte, nQ10, nQ7, nQ11, nQ12, nQ16, nQ17, nQ18, iQ2, iQ3, iQ4, iQ5, iQ6, lQ19, iQ7, lQ20, wrapS hlt3 (by omega : nx O i ≤ 4611686018427387904)]
    refine ⟨_, by omega, k + 1, v3, _, by omega, rfl, rfl, hv3, img_tt s (fun a b ha hb => M.cl ha hb) _, ?_⟩
    rw [show nx O i - k = (nx O i - (k + 1)) + 1 by omega] at hit
    exact hit
  have hke : k = nx O i := by omega
  subst hke
  rw [Nat.sub_self] at hit
  have hA' : A = iter (Grp.img O C (mu O P C q) i) (nx O i) (unitL O.length (i + (1 + t))) := hit
  subst hA'
  simp only [pwA, if_true, if_false, eq_self, nm_eq, reduceCtorEq, ↓reduceIte, nQ10, nQ7, nQ11, nQ12, nQ16, nQ17, nQ18, iQ2, iQ3, iQ4, iQ5, iQ6, lQ19, iQ7, lQ20, wi1]
  refine hAt hR0 hpv hA (FI.mk hpv.len) hv2 fun v3 hv3 => ?_
  simp only [pwA, if_true, if_false, eq_self, nm_eq, reduceCtorEq, ↓reduceIte, nQ10, nQ7, nQ11, nQ12, nQ16, nQ17, nQ18, iQ2, iQ3, iQ4, iQ5, iQ6, lQ19, iQ7, lQ20, wi1]
  refine hAt hR0 hun hpv hv (FI.mk hpv.len) fun v4 hv4 => ?_
  obtain ⟨w8, a8, rfl⟩ := hv3
  obtain ⟨w9, a9, rfl⟩ := hv4
  simp only [pwA, if_true, if_false, eq_self, nm_eq, reduceCtorEq, ↓reduceIte, nQ10, nQ7, nQ11, nQ12, nQ16, nQ17, nQ18, iQ2, iQ3, iQ4, iQ5, iQ6, lQ19, iQ7, lQ20]
  refine l01Same_ok rfl rfl (by have := (M.cl hpv hA).len; omega) ?_
  by_cases he : mu O P C q (pvec P i) (iter (Grp.img O C (mu O P C q) i) (nx O i) (unitL O.length (i + (1 + t)))) = mu O P C q (unitL O.length (i + (1 + t))) (pvec P i)
  · simp only [pwA, if_true, if_false, eq_self, nm_eq, reduceCtorEq, ↓reduceIte, nQ10, nQ7, nQ11, nQ12, nQ16, nQ17, nQ18, iQ2, iQ3, iQ4, iQ5, iQ6, lQ19, iQ7, lQ20, eq_true he, e5]
    refine ⟨_, by omega, t + 1, by omega, rfl, rfl, fun t' h => ?_⟩
    by_cases e : t' = t
    · subst e; exact he
    · exact hall4 t' (by omega)
  · simp only [pwA, if_true, if_false, eq_self, nm_eq, reduceCtorEq, ↓reduceIte, nQ10, nQ7, nQ11, nQ12, nQ16, nQ17, nQ18, iQ2, iQ3, iQ4, iQ5, iQ6, lQ19, iQ7, lQ20, he]
    exact fin (no (by decide) fun L => he (by have := L.inn (i + (1 + t)) (by omega) hjO; rwa [ed] at this)) (hkp _)
end Go.Proofs
namespace Go.Grp
end Go.Grp
namespace Go.Proofs
open Go.Ab Go.Lie Go.Grp
variable {σ : PHeap} {K : PV → PHeap → Prop} {O : List Int} {P : List (List Int)} {C : List (List (List Int))} {vO vP vC vx : PV} {s : Nat} {x : List Int} {rP rC : List PV}
theorem l08Fault_ok (s : Shp O P C) (hR : IsPr vO vP vC O P C)
    (hk : ∀ f0 f1 f2 f3 : Int, (f0 = 0 ↔ Cons O P C) → K (.agg [.int .i64 f0, .int .i64 f1, .int .i64 f2, .int .i64 f3]) σ) : PCalls Tryz.prog 185 [.agg [vO, vP, vC]] σ K := by
  have hn6 := s.le
  have hR0 := hR
  obtain ⟨⟨w0, a0, rfl⟩, ⟨w1, a1, rP, rfl, hP⟩, ⟨w3, a3, rC, rfl, hC⟩⟩ := hR
  refine PCalls.gh ?_
  have fin : ∀ {f0 f1 f2 f3 : Int} {σ' : PHeap}, (f0 = 0 ↔ Cons O P C) → Keep σ σ' → Gh σ K (.agg [.int .i64 f0, .int .i64 f1, .int .i64 f2, .int .i64 f3]) σ' := fun h k => Gh.fin0 k ⟨trivial, trivial, trivial, trivial, trivial⟩ (hk _ _ _ _ h)
  have hw1 : IntKind.i64.wrap ((O.length : Int) - 1) = (O.length : Int) - 1 := wrap64 (by omega) (by omega)
  refine pcalls_of_vp mix Tryz.func185 cf185 rfl ?_
  dsimp only [if185, qI, eI, nI, qD, eD]
  simp only [pwA, if_true, if_false, eq_self, nm_eq, reduceCtorEq, ↓reduceIte, nQ10, nQ7, nQ11, nQ12, nQ16, nQ17, nQ18, iQ2, iQ3, iQ4, iQ5, iQ6, lQ19, iQ7, lQ20, hw1]
  refine vp_loop (fun m vs h' => ∃ k : Nat, k ≤ O.length ∧ m = k ∧ vs = [.ptr σ.next 0, .ptr (σ.next + 1) 0, .int .i64 ((k : Int) - 1)] ∧ Keep ((σ.new [.fz w0 a0 O.length (pis O), .fz w1 a1 P.length rP, .fz w3 a3 C.length rC]).new [.int .i64 0, .int .i64 0, .int .i64 0, .int .i64 0]) h' ∧ ∀ j, k ≤ j → j < O.length → Lv O P C j) O.length ?_ ?_
  · exact ⟨O.length, Nat.le_refl _, rfl, rfl, Keep.refl _, fun j h1 h2 => by omega⟩
  rintro m vs h' ⟨k, hkO, rfl, rfl, hk1, hall⟩
  have hkp : Keep σ h' := ((keep_new σ _).new _).trans hk1
  have hn1 : σ.next + 2 ≤ h'.next := hk1.next
  have hobj1 : h'.obj σ.next = some [.fz w0 a0 O.length (pis O), .fz w1 a1 P.length rP, .fz w3 a3 C.length rC] := by rw [hk1.obj _ (by simp [PHeap.new]; omega)]; simp [PHeap.new]
  have hobj2 : h'.obj (σ.next + 1) = some [.int .i64 0, .int .i64 0, .int .i64 0, .int .i64 0] := by rw [hk1.obj _ (by simp [PHeap.new])]; simp [PHeap.new]
  have hrd3 : h'.rd σ.next 0 3 = some [.fz w0 a0 O.length (pis O), .fz w1 a1 P.length rP, .fz w3 a3 C.length rC] := by simp [PHeap.rd, hobj1]
  have hwr : ∀ f0 f1 f2 f3 : Int, h'.wr (σ.next + 1) 0 [.int .i64 f0, .int .i64 f1, .int .i64 f2, .int .i64 f3] = some (h'.set (σ.next + 1) [.int .i64 f0, .int .i64 f1, .int .i64 f2, .int .i64 f3]) := fun f0 f1 f2 f3 => by
    have : ∀ cs : List PV, cs.length = 4 → cs.all PV.one = true → h'.wr (σ.next + 1) 0 cs = some (h'.set (σ.next + 1) cs) := fun cs hl ho => by
      simp only [PHeap.wr, hobj2, Option.bind_some, ho, hl]
      simp [PHeap.set, List.drop_eq_nil_of_le, hl]
    exact this _ rfl rfl
  have hne1 : ¬ σ.next = h'.next := by omega
  have hne2 : ¬ σ.next + 1 = h'.next := by omega
  rcases Nat.eq_zero_or_pos m with rfl | hmp
  · simp only [pwA, if_true, if_false, eq_self, nm_eq, reduceCtorEq, ↓reduceIte, nQ10, nQ7, nQ11, nQ12, nQ16, nQ17, nQ18, iQ2, iQ3, iQ4, iQ5, iQ6, lQ19, iQ7, lQ20, show ¬ ((0 : Int) ≤ ((0 : Nat) : Int) - 1) by omega, hwr]
    exact fin ⟨fun _ j hj => hall j (Nat.zero_le _) hj, fun _ => rfl⟩ (hkp.set (by omega) _)
  obtain ⟨i, rfl⟩ : ∃ i, m = i + 1 := ⟨m - 1, by omega⟩
  have e : ((i + 1 : Nat) : Int) - 1 = (i : Int) := by omega
  rw [e]
  have hil : i < O.length := hkO
  have hw2 : IntKind.i64.wrap ((i : Int) - 1) = (i : Int) - 1 := wrap64 (by omega) (by omega)
  have B : Beh O P C (O.length - (i + 1)) := beh_of s (by omega) fun j h1 h2 => hall j (by omega) h2
  simp only [pwA, if_true, if_false, eq_self, nm_eq, reduceCtorEq, ↓reduceIte, nQ10, nQ7, nQ11, nQ12, nQ16, nQ17, nQ18, iQ2, iQ3, iQ4, iQ5, iQ6, lQ19, iQ7, lQ20, hrd3]
  refine l08Level_ok s (d := O.length - (i + 1)) (by omega) B hR0 fun f0 f1 f2 f3 hf => ?_
  simp only [pwA, if_true, if_false, eq_self, nm_eq, reduceCtorEq, ↓reduceIte, nQ10, nQ7, nQ11, nQ12, nQ16, nQ17, nQ18, iQ2, iQ3, iQ4, iQ5, iQ6, lQ19, iQ7, lQ20]
  refine iteI (fun h0 => ?_) fun h0 => ?_
  · simp only [pwA, if_true, if_false, eq_self, nm_eq, reduceCtorEq, ↓reduceIte, nQ10, nQ7, nQ11, nQ12, nQ16, nQ17, nQ18, iQ2, iQ3, iQ4, iQ5, iQ6, lQ19, iQ7, lQ20, hw2]
    refine ⟨i, by omega, i, by omega, rfl, rfl, hk1.new _, fun j h1 h2 => ?_⟩
    by_cases e : j = i
    · subst e; exact hf.1 h0
    · exact hall j (by omega) h2
  · simp only [pwA, if_true, if_false, eq_self, nm_eq, reduceCtorEq, ↓reduceIte, nQ10, nQ7, nQ11, nQ12, nQ16, nQ17, nQ18, iQ2, iQ3, iQ4, iQ5, iQ6, lQ19, iQ7, lQ20, hne1, hne2, hwr]
    exact fin ⟨fun h => absurd h h0, fun h => absurd (hf.2 (h i hil)) h0⟩ ((hkp.set (by omega) _).new _)
theorem l08Consistent_ok (s : Shp O P C) (hR : IsPr vO vP vC O P C) (hk : ∀ t : Bool, (t = true ↔ Cons O P C) → K (.bool t) σ) : PCalls Tryz.prog 137 [.agg [vO, vP, vC]] σ K := by
  have h0 := hR.O.one
  have h1 := hR.P.one
  have h2 := hR.C.one
  refine PCalls.gh ?_
  refine pcalls_of_vp mix Tryz.func137 cf137 rfl ?_
  dsimp only [if137, qI, eI, nI, qD, eD]
  simp only [pwA, if_true, if_false, eq_self, nm_eq, reduceCtorEq, ↓reduceIte, nQ10, nQ7, nQ11, nQ12, nQ16, nQ17, nQ18, iQ2, iQ3, iQ4, iQ5, iQ6, lQ19, iQ7, lQ20, h0, h1, h2]
  refine l08Fault_ok s hR fun f0 f1 f2 f3 hf => ?_
  simp only [pwA, if_true, if_false, eq_self, nm_eq, reduceCtorEq, ↓reduceIte, nQ10, nQ7, nQ11, nQ12, nQ16, nQ17, nQ18, iQ2, iQ3, iQ4, iQ5, iQ6, lQ19, iQ7, lQ20]
  exact Gh.fin0 (keep_new σ _) trivial (hk _ (by rw [decide_eq_true_iff]; exact hf))
theorem l08Group_ok (hR : IsPr vO vP vC O P C) (sz : SzP O P C) (hk : ∀ t : Bool, (t = true ↔ isPres O P C ∧ Cons O P C) → K (.bool t) σ) : PCalls Tryz.prog 78 [.agg [vO, vP, vC]] σ K := by
  have h0 := hR.O.one
  have h1 := hR.P.one
  have h2 := hR.C.one
  have fl : ∀ {A : Prop}, ¬ A → ((false = true) ↔ A) := fun h => ⟨fun x => (by cases x), fun x => absurd x h⟩
  refine PCalls.gh ?_
  refine pcalls_of_vp mix Tryz.func78 cf78 rfl ?_
  dsimp only [if78, qI, eI, nI, qD, eD]
  simp only [pwA, if_true, if_false, eq_self, nm_eq, reduceCtorEq, ↓reduceIte, nQ10, nQ7, nQ11, nQ12, nQ16, nQ17, nQ18, iQ2, iQ3, iQ4, iQ5, iQ6, lQ19, iQ7, lQ20, h0, h1, h2]
  refine l07IsPresentation_ok hR sz fun t ht => ?_
  cases t with
  | false =>
    simp only [pwA, if_true, if_false, eq_self, nm_eq, reduceCtorEq, ↓reduceIte, nQ10, nQ7, nQ11, nQ12, nQ16, nQ17, nQ18, iQ2, iQ3, iQ4, iQ5, iQ6, lQ19, iQ7, lQ20]
    exact Gh.fin0 (keep_new σ _) trivial (hk _ (fl fun h => by cases ht.2 h.1))
  | true =>
    have hp := ht.1 rfl
    simp only [pwA, if_true, if_false, eq_self, nm_eq, reduceCtorEq, ↓reduceIte, nQ10, nQ7, nQ11, nQ12, nQ16, nQ17, nQ18, iQ2, iQ3, iQ4, iQ5, iQ6, lQ19, iQ7, lQ20, h0, h1, h2]
    refine l08Consistent_ok hp.shp hR fun t ht => ?_
    simp only [pwA, if_true, if_false, eq_self, nm_eq, reduceCtorEq, ↓reduceIte, nQ10, nQ7, nQ11, nQ12, nQ16, nQ17, nQ18, iQ2, iQ3, iQ4, iQ5, iQ6, lQ19, iQ7, lQ20]
    exact Gh.fin0 (keep_new σ _) trivial (hk _ ⟨fun h => ⟨hp, ht.1 h⟩, fun h => ht.2 h.2⟩)
end Go.Proofs
namespace Go.Grp
end Go.Grp
namespace Go.Proofs
open Go.Ab Go.Lie Go.Grp
variable {σ : PHeap} {K : PV → PHeap → Prop} {O : List Int} {P : List (List Int)} {C : List (List (List Int))} {vO vP vC vx vf va vb : PV} {x y f a b : List Int} {rP rC : List PV} {d j sp : Nat}
theorem levelFault_ok (s : Shp O P C) (F : Full O P C d) {i : Nat} (hi : O.length = d + (i + 1)) (hs : PtrG σ sp vO vP vC) (hR : IsPr vO vP vC O P C)
    (hk : ∀ f0 f1 f2 f3 : Int, ((f0 = 0 ∧ f1 = 0 ∧ f2 = 0 ∧ f3 = 0 ∧ Lv O P C i) ∨ (f0 ≠ 0 ∧ ¬ Lv O P C i)) → K (.agg [.int .i64 f0, .int .i64 f1, .int .i64 f2, .int .i64 f3]) σ) : PCalls Tryz.prog 201 [.ptr sp 0, .int .i64 i] σ K := by
  have hn6 := s.le
  have hR0 := hR
  have hil : i < O.length := by omega
  have M := F.gp.toMon
  have G := F.gp
  have edi : O.length - d = i + 1 := by omega
  have ed : O.length - 1 - i = d := by omega
  have hne : ¬ sp = σ.next := Nat.ne_of_lt hs.lt
  have hs1 : ∀ cs, PtrG (σ.new cs) sp vO vP vC := fun cs => hs.new cs
  have yes : ((∀ q, q < d → pw (mu O P C d) (zv O) (cvec C i (i + (1 + q))) (nx O (i + (1 + q))) = Grp.img O C (mu O P C d) i (pvec P (i + (1 + q)))) →
      (∀ q r, q + (1 + r) < d → mu O P C d (cvec C i (i + (1 + (q + (1 + r))))) (cvec C i (i + (1 + q))) = mu O P C d (cvec C i (i + (1 + q))) (Grp.img O C (mu O P C d) i (cvec C (i + (1 + q)) (i + (1 + (q + (1 + r))))))) →
      Grp.img O C (mu O P C d) i (pvec P i) = pvec P i →
      (∀ q, q < d → mu O P C d (pvec P i) (iter (Grp.img O C (mu O P C d) i) (nx O i) (unitL O.length (i + (1 + q)))) = mu O P C d (unitL O.length (i + (1 + q))) (pvec P i)) → Lv O P C i) := fun h1 h2 h3 h4 => by
    refine ⟨fun j g1 g2 => ?_, fun j k g1 g2 g3 => ?_, ?_, fun j g1 g2 => ?_⟩
    · have := h1 (j - i - 1) (by omega); rw [show i + (1 + (j - i - 1)) = j by omega] at this; rw [ed]; exact this
    · have := h2 (j - i - 1) (k - j - 1) (by omega); rw [show i + (1 + (j - i - 1)) = j by omega, show i + (1 + (j - i - 1 + (1 + (k - j - 1)))) = k by omega] at this; rw [ed]; exact this
    · rw [ed]; exact h3
    · have := h4 (j - i - 1) (by omega); rw [show i + (1 + (j - i - 1)) = j by omega] at this; rw [ed]; exact this
  have imgt : ∀ x, TT O (O.length - d) (Grp.img O C (mu O P C d) i x) := fun x => by
    rw [edi]; exact img_tt s (fun a b ha hb => by have := M.cl (a := a) (b := b) (by rw [edi]; exact ha) (by rw [edi]; exact hb); rwa [edi] at this) x
  obtain ⟨⟨w0, a0, rfl⟩, ⟨w1, a1, rP, rfl, hP⟩, ⟨w3, a3, rC, rfl, hC⟩⟩ := hR
  obtain ⟨w5, a5, rs, hrb, hrs⟩ := cvRow s hC hil
  have hiC : i < C.length := by rw [s.cl]; exact hil
  have hiP : i < P.length := by rw [s.pl]; exact hil
  have e0 : σ.rd1 sp 0 = some (.fz w0 a0 O.length (pis O)) := by rw [obj_rd1 hs.obj]; rfl
  have e1 : σ.rd1 sp 1 = some (.fz w1 a1 P.length rP) := by rw [obj_rd1 hs.obj]; rfl
  have e2 : σ.rd1 sp 2 = some (.fz w3 a3 C.length rC) := by rw [obj_rd1 hs.obj]; rfl
  refine PCalls.gh ?_
  have fin : ∀ {f0 f1 f2 f3 : Int} {σ' : PHeap}, ((f0 = 0 ∧ f1 = 0 ∧ f2 = 0 ∧ f3 = 0 ∧ Lv O P C i) ∨ (f0 ≠ 0 ∧ ¬ Lv O P C i)) → Keep σ σ' → Gh σ K (.agg [.int .i64 f0, .int .i64 f1, .int .i64 f2, .int .i64 f3]) σ' := fun h k => Gh.fin0 k ⟨trivial, trivial, trivial, trivial, trivial⟩ (hk _ _ _ _ h)
  have no : ∀ {f0 f1 f2 f3 : Int}, f0 ≠ 0 → ¬ Lv O P C i → ((f0 = 0 ∧ f1 = 0 ∧ f2 = 0 ∧ f3 = 0 ∧ Lv O P C i) ∨ (f0 ≠ 0 ∧ ¬ Lv O P C i)) := fun h g => .inr ⟨h, g⟩
  have hkp : ∀ cs : List PV, Keep σ (σ.new cs) := fun cs => keep_new σ _
  have wi1 : IntKind.i64.wrap ((i : Int) + 1) = ((i + 1 : Nat) : Int) := wrapS hil (by omega)
  refine pcalls_of_vp mix Tryz.func201 cf201 rfl ?_
  dsimp only [if201, qI, eI, nI, qD, eD]
  simp only [pwA, if_true, if_false, eq_self, nm_eq, reduceCtorEq, ↓reduceIte, nQ10, nQ7, nQ11, nQ12, nQ16, nQ17, nQ18, iQ2, iQ3, iQ4, iQ5, iQ6, lQ19, iQ7, lQ20, e0, hne]
  -- first condition
  simp only [pwA, if_true, if_false, eq_self, nm_eq, reduceCtorEq, ↓reduceIte, nQ10, nQ7, nQ11, nQ12, nQ16, nQ17, nQ18, iQ2, iQ3, iQ4, iQ5, iQ6, lQ19, iQ7, lQ20, wi1]
  refine vp_loop (fun m vs h' => ∃ q : Nat, q ≤ d ∧ m = d - q ∧ vs = [.ptr sp 0, .int .i64 i, .ptr σ.next 0, .int .i64 O.length, .int .i64 i, .int .i64 ((i + (1 + q) : Nat) : Int)] ∧
    h' = σ.new [.int .i64 0, .int .i64 0, .int .i64 0, .int .i64 0] ∧ ∀ q', q' < q → pw (mu O P C d) (zv O) (cvec C i (i + (1 + q'))) (nx O (i + (1 + q'))) = Grp.img O C (mu O P C d) i (pvec P (i + (1 + q')))) d ?_ ?_
  · exact ⟨0, by omega, by omega, rfl, rfl, fun q h => by omega⟩
  rintro m vs h' ⟨q, hq, rfl, rfl, rfl, hall⟩
  simp only [pwA, if_true, if_false, eq_self, nm_eq, reduceCtorEq, ↓reduceIte, nQ10, nQ7, nQ11, nQ12, nQ16, nQ17, nQ18, iQ2, iQ3, iQ4, iQ5, iQ6, lQ19, iQ7, lQ20]
  refine iteI (fun hlt => ?_) fun hge => ?_
  · have hjO : i + (1 + q) < O.length := by omega
    have hjP : i + (1 + q) < P.length := by rw [s.pl]; exact hjO
    obtain ⟨w6, a6, hrk⟩ := hrs q (by omega)
    obtain ⟨w7, a7, hpr⟩ := pvRow s hP hjO
    have hjr : q < O.length - 1 - i := by omega
    have hcv := s.cj i (i + (1 + q)) (by omega) (by omega)
    have hcv' : TT O (O.length - d) (cvec C i (i + (1 + q))) := by rw [edi]; exact hcv
    have hpv := s.pw (i + (1 + q)) hjO
    have hO := s.pr _ hjO
    have e3 : IntKind.i64.wrap (((i + (1 + q) : Nat) : Int) - (i : Int)) = ((1 + q : Nat) : Int) := by rw [wrap64 (by omega) (by omega)]; omega
    have e4 : IntKind.i64.wrap (((1 + q : Nat) : Int) - 1) = (q : Int) := by rw [wrap64 (by omega) (by omega)]; omega
    have e5 : IntKind.i64.wrap (((i + (1 + q) : Nat) : Int) + 1) = ((i + (1 + (q + 1)) : Nat) : Int) := by rw [wrap64 (by omega) (by omega)]; omega
    simp only [pwA, if_true, if_false, eq_self, nm_eq, reduceCtorEq, ↓reduceIte, nQ10, nQ7, nQ11, nQ12, nQ16, nQ17, nQ18, iQ2, iQ3, iQ4, iQ5, iQ6, lQ19, iQ7, lQ20, e0, e1, e2, hne, wi1, hiC, hrb, e3, e4, hjr, hrk, hjO, pisAt hjO, hjP, hpr]
    refine power_fz s F (hs1 _) hR0 hcv' (FI.mk hcv.len) (by omega) fun v hv => ?_
    simp only [pwA, if_true, if_false, eq_self, nm_eq, reduceCtorEq, ↓reduceIte, nQ10, nQ7, nQ11, nQ12, nQ16, nQ17, nQ18, iQ2, iQ3, iQ4, iQ5, iQ6, lQ19, iQ7, lQ20, e0, e1, e2, hne, wi1, hiC, hrb, e3, e4, hjr, hrk, hjO, pisAt hjO, hjP, hpr]
    refine imageBy_fz s F hi (hs1 _) hR0 (hpv.mono (Nat.zero_le _)) (FI.mk hpv.len) fun v2 hv2 => ?_
    obtain ⟨w8, a8, rfl⟩ := hv
    obtain ⟨w9, a9, rfl⟩ := hv2
    simp only [pwA, if_true, if_false, eq_self, nm_eq, reduceCtorEq, ↓reduceIte, nQ10, nQ7, nQ11, nQ12, nQ16, nQ17, nQ18, iQ2, iQ3, iQ4, iQ5, iQ6, lQ19, iQ7, lQ20]
    refine Equal_ok rfl rfl (by have := (M.pw hcv' (at_ O (i + (1 + q))).toNat).len; omega) ?_
    by_cases he : pw (mu O P C d) (zv O) (cvec C i (i + (1 + q))) (nx O (i + (1 + q))) = Grp.img O C (mu O P C d) i (pvec P (i + (1 + q)))
    · simp only [pwA, if_true, if_false, eq_self, nm_eq, reduceCtorEq, ↓reduceIte, nQ10, nQ7, nQ11, nQ12, nQ16, nQ17, nQ18, iQ2, iQ3, iQ4, iQ5, iQ6, lQ19, iQ7, lQ20, eq_true he, e5]
      refine ⟨_, by omega, q + 1, by omega, rfl, rfl, fun q' h => ?_⟩
      by_cases e : q' = q
      · subst e; exact he
      · exact hall q' (by omega)
    · simp only [pwA, if_true, if_false, eq_self, nm_eq, reduceCtorEq, ↓reduceIte, nQ10, nQ7, nQ11, nQ12, nQ16, nQ17, nQ18, iQ2, iQ3, iQ4, iQ5, iQ6, lQ19, iQ7, lQ20, he]
      exact fin (no (by decide) fun L => he (by have := L.pow (i + (1 + q)) (by omega) hjO; rwa [ed] at this)) (hkp _)
  have hqd : q = d := by omega
  subst hqd
  -- second condition
  simp only [pwA, if_true, if_false, eq_self, nm_eq, reduceCtorEq, ↓reduceIte, nQ10, nQ7, nQ11, nQ12, nQ16, nQ17, nQ18, iQ2, iQ3, iQ4, iQ5, iQ6, lQ19, iQ7, lQ20, wi1]
  refine vp_loop (fun m vs h' => ∃ q' : Nat, q' ≤ q ∧ m = q - q' ∧ vs = [.ptr sp 0, .int .i64 i, .ptr σ.next 0, .int .i64 O.length, .int .i64 i, .int .i64 ((i + (1 + q') : Nat) : Int)] ∧
    h' = σ.new [.int .i64 0, .int .i64 0, .int .i64 0, .int .i64 0] ∧
    ∀ t r, t < q' → t + (1 + r) < q → mu O P C q (cvec C i (i + (1 + (t + (1 + r))))) (cvec C i (i + (1 + t))) = mu O P C q (cvec C i (i + (1 + t))) (Grp.img O C (mu O P C q) i (cvec C (i + (1 + t)) (i + (1 + (t + (1 + r))))))) q ?_ ?_
  · exact ⟨0, by omega, by omega, rfl, rfl, fun t r h => by omega⟩
  rintro m vs h' ⟨t, ht, rfl, rfl, rfl, hall2⟩
  simp only [pwA, if_true, if_false, eq_self, nm_eq, reduceCtorEq, ↓reduceIte, nQ10, nQ7, nQ11, nQ12, nQ16, nQ17, nQ18, iQ2, iQ3, iQ4, iQ5, iQ6, lQ19, iQ7, lQ20]
  refine iteI (fun hlt => ?_) fun hge => ?_
  · have hjO : i + (1 + t) < O.length := by omega
    have hjC : i + (1 + t) < C.length := by rw [s.cl]; exact hjO
    obtain ⟨w6, a6, hrk⟩ := hrs t (by omega)
    obtain ⟨w7, a7, rs2, hrb2, hrs2⟩ := cvRow s hC hjO
    have hjr : t < O.length - 1 - i := by omega
    have hcv := s.cj i (i + (1 + t)) (by omega) (by omega)
    have hcv' : TT O (O.length - q) (cvec C i (i + (1 + t))) := by rw [edi]; exact hcv
    have e3 : IntKind.i64.wrap (((i + (1 + t) : Nat) : Int) - (i : Int)) = ((1 + t : Nat) : Int) := by rw [wrap64 (by omega) (by omega)]; omega
    have e4 : IntKind.i64.wrap (((1 + t : Nat) : Int) - 1) = (t : Int) := by rw [wrap64 (by omega) (by omega)]; omega
    have e5 : IntKind.i64.wrap (((i + (1 + t) : Nat) : Int) + 1) = ((i + (1 + (t + 1)) : Nat) : Int) := by rw [wrap64 (by omega) (by omega)]; omega
    simp only [pwA, if_true, if_false, eq_self, nm_eq, reduceCtorEq, ↓reduceIte, nQ10, nQ7, nQ11, nQ12, nQ16, nQ17, nQ18, iQ2, iQ3, iQ4, iQ5, iQ6, lQ19, iQ7, lQ20, e5]
    refine vp_loop (fun m vs h' => ∃ r : Nat, t + (1 + r) ≤ q ∧ m = q - (t + (1 + r)) ∧ vs = [.ptr sp 0, .int .i64 i, .ptr σ.next 0, .int .i64 O.length, .int .i64 i, .int .i64 ((i + (1 + t) : Nat) : Int), .int .i64 ((i + (1 + (t + (1 + r))) : Nat) : Int)] ∧
      h' = σ.new [.int .i64 0, .int .i64 0, .int .i64 0, .int .i64 0] ∧
      ∀ r', r' < r → t + (1 + r') < q → mu O P C q (cvec C i (i + (1 + (t + (1 + r'))))) (cvec C i (i + (1 + t))) = mu O P C q (cvec C i (i + (1 + t))) (Grp.img O C (mu O P C q) i (cvec C (i + (1 + t)) (i + (1 + (t + (1 + r'))))))) (q - (t + 1)) ?_ ?_
    · exact ⟨0, by omega, by omega, rfl, rfl, fun r' h => by omega⟩
    rintro m vs h' ⟨r, hr, rfl, rfl, rfl, hall3⟩
    simp only [pwA, if_true, if_false, eq_self, nm_eq, reduceCtorEq, ↓reduceIte, nQ10, nQ7, nQ11, nQ12, nQ16, nQ17, nQ18, iQ2, iQ3, iQ4, iQ5, iQ6, lQ19, iQ7, lQ20]
    refine iteI (fun hlt2 => ?_) fun hge2 => ?_
    · have hkO : i + (1 + (t + (1 + r))) < O.length := by omega
      obtain ⟨w8, a8, hrk2⟩ := hrs (t + (1 + r)) (by omega)
      obtain ⟨w9, a9, hrk3⟩ := hrs2 r (by omega)
      rw [show i + (1 + t) + (1 + r) = i + (1 + (t + (1 + r))) by omega] at hrk3
      have hcv2 := s.cj i (i + (1 + (t + (1 + r)))) (by omega) hkO
      have hcv2' : TT O (O.length - q) (cvec C i (i + (1 + (t + (1 + r))))) := by rw [edi]; exact hcv2
      have hcv3 := s.cj (i + (1 + t)) (i + (1 + (t + (1 + r)))) (by omega) hkO
      have hkr : t + (1 + r) < O.length - 1 - i := by omega
      have hkr2 : r < O.length - 1 - (i + (1 + t)) := by omega
      have f3 : IntKind.i64.wrap (((i + (1 + (t + (1 + r))) : Nat) : Int) - (i : Int)) = ((1 + (t + (1 + r)) : Nat) : Int) := by rw [wrap64 (by omega) (by omega)]; omega
      have f4 : IntKind.i64.wrap (((1 + (t + (1 + r)) : Nat) : Int) - 1) = ((t + (1 + r) : Nat) : Int) := by rw [wrap64 (by omega) (by omega)]; omega
      have f5 : IntKind.i64.wrap (((i + (1 + (t + (1 + r))) : Nat) : Int) + 1) = ((i + (1 + (t + (1 + (r + 1)))) : Nat) : Int) := by rw [wrap64 (by omega) (by omega)]; omega
      have f6 : IntKind.i64.wrap (((i + (1 + (t + (1 + r))) : Nat) : Int) - ((i + (1 + t) : Nat) : Int)) = ((1 + r : Nat) : Int) := by rw [wrap64 (by omega) (by omega)]; omega
      have f7 : IntKind.i64.wrap (((1 + r : Nat) : Int) - 1) = (r : Int) := by rw [wrap64 (by omega) (by omega)]; omega
      simp only [pwA, if_true, if_false, eq_self, nm_eq, reduceCtorEq, ↓reduceIte, nQ10, nQ7, nQ11, nQ12, nQ16, nQ17, nQ18, iQ2, iQ3, iQ4, iQ5, iQ6, lQ19, iQ7, lQ20, e0, e1, e2, hne, wi1, hiC, hrb, e3, e4, f3, f4, f6, f7, hjr, hrk, hkr, hrk2, hjC, hrb2, hkr2, hrk3]
      refine conjugate_fz s F (hs1 _) hR0 hcv2' hcv' (FI.mk hcv2.len) (FI.mk hcv.len) fun v z hz1 hz2 hv => ?_
      simp only [pwA, if_true, if_false, eq_self, nm_eq, reduceCtorEq, ↓reduceIte, nQ10, nQ7, nQ11, nQ12, nQ16, nQ17, nQ18, iQ2, iQ3, iQ4, iQ5, iQ6, lQ19, iQ7, lQ20, e0, e1, e2, hne, wi1, hiC, hrb, e3, e4, f3, f4, f6, f7, hjr, hrk, hkr, hrk2, hjC, hrb2, hkr2, hrk3]
      refine imageBy_fz s F hi (hs1 _) hR0 (hcv3.mono (Nat.zero_le _)) (FI.mk hcv3.len) fun v2 hv2 => ?_
      have hz := imgt (cvec C (i + (1 + t)) (i + (1 + (t + (1 + r)))))
      obtain ⟨w10, a10, rfl⟩ := hv
      obtain ⟨w11, a11, rfl⟩ := hv2
      simp only [pwA, if_true, if_false, eq_self, nm_eq, reduceCtorEq, ↓reduceIte, nQ10, nQ7, nQ11, nQ12, nQ16, nQ17, nQ18, iQ2, iQ3, iQ4, iQ5, iQ6, lQ19, iQ7, lQ20]
      refine Equal_ok rfl rfl (by have := hz1.len; omega) ?_
      by_cases he : z = Grp.img O C (mu O P C q) i (cvec C (i + (1 + t)) (i + (1 + (t + (1 + r)))))
      · simp only [pwA, if_true, if_false, eq_self, nm_eq, reduceCtorEq, ↓reduceIte, nQ10, nQ7, nQ11, nQ12, nQ16, nQ17, nQ18, iQ2, iQ3, iQ4, iQ5, iQ6, lQ19, iQ7, lQ20, eq_true he, f5]
        refine ⟨_, by omega, r + 1, by omega, rfl, rfl, fun r' h1 h2 => ?_⟩
        by_cases e : r' = r
        · subst e; rw [← he]; exact hz2.symm
        · exact hall3 r' (by omega) h2
      · simp only [pwA, if_true, if_false, eq_self, nm_eq, reduceCtorEq, ↓reduceIte, nQ10, nQ7, nQ11, nQ12, nQ16, nQ17, nQ18, iQ2, iQ3, iQ4, iQ5, iQ6, lQ19, iQ7, lQ20, he]
        exact fin (no (by decide) fun L => he (by
          have := L.cj (i + (1 + t)) (i + (1 + (t + (1 + r)))) (by omega) (by omega) hkO
          rw [ed] at this
          exact G.cancel hcv' hz1 hz (hz2.trans this))) (hkp _)
    · simp only [pwA, if_true, if_false, eq_self, nm_eq, reduceCtorEq, ↓reduceIte, nQ10, nQ7, nQ11, nQ12, nQ16, nQ17, nQ18, iQ2, iQ3, iQ4, iQ5, iQ6, lQ19, iQ7, lQ20, e5]
      refine ⟨_, by omega, t + 1, by omega, rfl, rfl, fun t' r' h1 h2 => ?_⟩
      by_cases e : t' = t
      · subst e; exact hall3 r' (by omega) h2
      · exact hall2 t' r' (by omega) h2
  -- third condition
  obtain ⟨w6, a6, hpr⟩ := pvRow s hP hil
  have hpv := s.pw i hil
  have hpv' : TT O (O.length - q) (pvec P i) := by rw [edi]; exact hpv
  simp only [pwA, if_true, if_false, eq_self, nm_eq, reduceCtorEq, ↓reduceIte, nQ10, nQ7, nQ11, nQ12, nQ16, nQ17, nQ18, iQ2, iQ3, iQ4, iQ5, iQ6, lQ19, iQ7, lQ20, e1, hne, hiP, hpr]
  refine imageBy_fz s F hi (hs1 _) hR0 (hpv.mono (Nat.zero_le _)) (FI.mk hpv.len) fun v hv => ?_
  obtain ⟨w7, a7, rfl⟩ := hv
  simp only [pwA, if_true, if_false, eq_self, nm_eq, reduceCtorEq, ↓reduceIte, nQ10, nQ7, nQ11, nQ12, nQ16, nQ17, nQ18, iQ2, iQ3, iQ4, iQ5, iQ6, lQ19, iQ7, lQ20]
  refine Equal_ok rfl hpv.len.symm (by have := (imgt (pvec P i)).len; omega) ?_
  by_cases he3 : Grp.img O C (mu O P C q) i (pvec P i) = pvec P i
  rotate_left
  · simp only [pwA, if_true, if_false, eq_self, nm_eq, reduceCtorEq, ↓reduceIte, nQ10, nQ7, nQ11, nQ12, nQ16, nQ17, nQ18, iQ2, iQ3, iQ4, iQ5, iQ6, lQ19, iQ7, lQ20, he3]
    exact fin (no (by decide) fun L => he3 (by have := L.fix; rwa [ed] at this)) (hkp _)
  simp only [pwA, if_true, if_false, eq_self, nm_eq, reduceCtorEq, ↓reduceIte, nQ10, nQ7, nQ11, nQ12, nQ16, nQ17, nQ18, iQ2, iQ3, iQ4, iQ5, iQ6, lQ19, iQ7, lQ20, eq_true he3, wi1]
  -- fourth condition
  refine vp_loop (fun m vs h' => ∃ q' : Nat, q' ≤ q ∧ m = q - q' ∧ vs = [.ptr sp 0, .int .i64 i, .ptr σ.next 0, .int .i64 O.length, .int .i64 i, .fz w6 a6 O.length (pis (pvec P i)), .int .i64 ((i + (1 + q') : Nat) : Int)] ∧
    h' = σ.new [.int .i64 0, .int .i64 0, .int .i64 0, .int .i64 0] ∧
    ∀ t, t < q' → mu O P C q (pvec P i) (iter (Grp.img O C (mu O P C q) i) (nx O i) (unitL O.length (i + (1 + t)))) = mu O P C q (unitL O.length (i + (1 + t))) (pvec P i)) q ?_ ?_
  · exact ⟨0, by omega, by omega, rfl, rfl, fun t h => by omega⟩
  rintro m vs h' ⟨t, ht, rfl, rfl, rfl, hall4⟩
  simp only [pwA, if_true, if_false, eq_self, nm_eq, reduceCtorEq, ↓reduceIte, nQ10, nQ7, nQ11, nQ12, nQ16, nQ17, nQ18, iQ2, iQ3, iQ4, iQ5, iQ6, lQ19, iQ7, lQ20]
  refine iteI (fun hlt => ?_) fun hge => ?_
  rotate_left
  · exact fin (.inl ⟨rfl, rfl, rfl, rfl, yes hall (fun t' r' h => hall2 t' r' (by omega) h) he3 (fun t' h => hall4 t' (by omega))⟩) (hkp _)
  have hjO : i + (1 + t) < O.length := by omega
  have hO := s.pr i hil
  have e5 : IntKind.i64.wrap (((i + (1 + t) : Nat) : Int) + 1) = ((i + (1 + (t + 1)) : Nat) : Int) := by rw [wrap64 (by omega) (by omega)]; omega
  have hun : TT O (i + 1) (unitL O.length (i + (1 + t))) := s.unit hjO (by omega)
  have hun' : TT O (O.length - q) (unitL O.length (i + (1 + t))) := by rw [edi]; exact hun
  simp only [pwA, if_true, if_false, eq_self, nm_eq, reduceCtorEq, ↓reduceIte, nQ10, nQ7, nQ11, nQ12, nQ16, nQ17, nQ18, iQ2, iQ3, iQ4, iQ5, iQ6, lQ19, iQ7, lQ20]
  refine unitVector_fz (by omega) hjO fun av => ?_
  simp only [pwA, if_true, if_false, eq_self, nm_eq, reduceCtorEq, ↓reduceIte, nQ10, nQ7, nQ11, nQ12, nQ16, nQ17, nQ18, iQ2, iQ3, iQ4, iQ5, iQ6, lQ19, iQ7, lQ20, e0, hne, hil, pisAt hil]
  refine vp_loop (fun m vs h' => ∃ (k : Nat) (v2 : PV) (A : List Int), k ≤ nx O i ∧ m = nx O i - k ∧ vs = [.ptr sp 0, .int .i64 i, .ptr σ.next 0, .int .i64 O.length, .int .i64 i, .fz w6 a6 O.length (pis (pvec P i)), .int .i64 ((i + (1 + t) : Nat) : Int), v2, .int .i64 (at_ O i), .int .i64 k] ∧
    h' = σ.new [.int .i64 0, .int .i64 0, .int .i64 0, .int .i64 0] ∧ FI v2 A ∧ TT O (O.length - q) A ∧ iter (Grp.img O C (mu O P C q) i) (nx O i - k) A = iter (Grp.img O C (mu O P C q) i) (nx O i) (unitL O.length (i + (1 + t)))) (nx O i) ?_ ?_
  · exact ⟨0, .fz true av O.length (pis (unitL O.length (i + (1 + t)))), _, by omega, by omega, rfl, rfl, FI.mk (unitL_length _ _), hun', rfl⟩
  rintro m vs h' ⟨k, v2, A, hkn, rfl, rfl, rfl, hv2, hA, hit⟩
  have hnx : ((nx O i : Nat) : Int) = at_ O i := Int.toNat_of_nonneg (by omega)
  simp only [pwA, if_true, if_false, eq_self, nm_eq, reduceCtorEq, ↓reduceIte, nQ10, nQ7, nQ11, nQ12, nQ16, nQ17, nQ18, iQ2, iQ3, iQ4, iQ5, iQ6, lQ19, iQ7, lQ20]
  refine iteI (fun hlt2 => ?_) fun hge2 => ?_
  · have hlt3 : k < nx O i := by omega
    refine imageBy_fz s F hi (hs1 _) hR0 (hA.mono (Nat.zero_le _)) hv2 fun v3 hv3 => ?_
    simp only [pwA, if_true, if_false, eq_self, nm_eq, reduceCtorEq, ↓reduceIte, nQ10, nQ7, nQ11, nQ12, nQ16, nQ17, nQ18, iQ2, iQ3, iQ4, iQ5, iQ6, lQ19, iQ7, lQ20, wrapS hlt3 (by omega : nx O i ≤ 4611686018427387904)]
    refine ⟨_, by omega, k + 1, v3, _, by omega, rfl, rfl, hv3, imgt _, ?_⟩
    rw [show nx O i - k = (nx O i - (k + 1)) + 1 by omega] at hit
    exact hit
  have hke : k = nx O i := by omega
  subst hke
  rw [Nat.sub_self] at hit
  have hA' : A = iter (Grp.img O C (mu O P C q) i) (nx O i) (unitL O.length (i + (1 + t))) := hit
  subst hA'
  simp only [pwA, if_true, if_false, eq_self, nm_eq, reduceCtorEq, ↓reduceIte, nQ10, nQ7, nQ11, nQ12, nQ16, nQ17, nQ18, iQ2, iQ3, iQ4, iQ5, iQ6, lQ19, iQ7, lQ20]
  refine unitVector_fz (by omega) hjO fun av2 => ?_
  simp only [pwA, if_true, if_false, eq_self, nm_eq, reduceCtorEq, ↓reduceIte, nQ10, nQ7, nQ11, nQ12, nQ16, nQ17, nQ18, iQ2, iQ3, iQ4, iQ5, iQ6, lQ19, iQ7, lQ20]
  refine conjugate_fz s F (hs1 _) hR0 hun' hpv' (FI.mk (unitL_length _ _)) (FI.mk hpv.len) fun v z hz1 hz2 hv => ?_
  obtain ⟨w8, a8, rfl⟩ := hv2
  obtain ⟨w9, a9, rfl⟩ := hv
  simp only [pwA, if_true, if_false, eq_self, nm_eq, reduceCtorEq, ↓reduceIte, nQ10, nQ7, nQ11, nQ12, nQ16, nQ17, nQ18, iQ2, iQ3, iQ4, iQ5, iQ6, lQ19, iQ7, lQ20]
  refine Equal_ok rfl rfl (by have := hA.len; omega) ?_
  by_cases he : iter (Grp.img O C (mu O P C q) i) (nx O i) (unitL O.length (i + (1 + t))) = z
  · simp only [pwA, if_true, if_false, eq_self, nm_eq, reduceCtorEq, ↓reduceIte, nQ10, nQ7, nQ11, nQ12, nQ16, nQ17, nQ18, iQ2, iQ3, iQ4, iQ5, iQ6, lQ19, iQ7, lQ20, eq_true he, e5]
    refine ⟨_, by omega, t + 1, by omega, rfl, rfl, fun t' h => ?_⟩
    by_cases e : t' = t
    · subst e; rw [he]; exact hz2
    · exact hall4 t' (by omega)
  · simp only [pwA, if_true, if_false, eq_self, nm_eq, reduceCtorEq, ↓reduceIte, nQ10, nQ7, nQ11, nQ12, nQ16, nQ17, nQ18, iQ2, iQ3, iQ4, iQ5, iQ6, lQ19, iQ7, lQ20, he]
    exact fin (no (by decide) fun L => he (by
      have := L.inn (i + (1 + t)) (by omega) hjO
      rw [ed] at this
      exact G.cancel hpv' hA hz1 (this.trans hz2.symm))) (hkp _)
end Go.Proofs
namespace Go.Grp
end Go.Grp
namespace Go.Proofs
open Go.Ab Go.Lie Go.Grp
variable {σ : PHeap} {K : PV → PHeap → Prop} {O : List Int} {P : List (List Int)} {C : List (List (List Int))} {vO vP vC vx vf va vb : PV} {x y f a b : List Int} {rP rC : List PV} {d j sp : Nat}
theorem consistentFrom_ok (s : Shp O P C) (hs : PtrG σ sp vO vP vC) (hR : IsPr vO vP vC O P C) (hk : ∀ r : Int, (r = 0 ↔ Cons O P C) → K (.int .i64 r) σ) : PCalls Tryz.prog 174 [.ptr sp 0] σ K := by
  have hn6 := s.le
  have hR0 := hR
  have hs0 := hs
  obtain ⟨⟨w0, a0, rfl⟩, ⟨w1, a1, rP, rfl, hP⟩, ⟨w3, a3, rC, rfl, hC⟩⟩ := hR
  have e0 : σ.rd1 sp 0 = some (.fz w0 a0 O.length (pis O)) := by rw [obj_rd1 hs.obj]; rfl
  refine pcalls_of_vp mix Tryz.func174 cf174 rfl ?_
  dsimp only [if174, qI, eI, nI, qD, eD]
  simp only [pwA, if_true, if_false, eq_self, nm_eq, reduceCtorEq, ↓reduceIte, nQ10, nQ7, nQ11, nQ12, nQ16, nQ17, nQ18, iQ2, iQ3, iQ4, iQ5, iQ6, lQ19, iQ7, lQ20, e0]
  refine vp_loop (fun m vs h' => ∃ k : Nat, k ≤ O.length ∧ m = k ∧ vs = [.ptr sp 0, .int .i64 k] ∧ σ = h' ∧ ∀ j, k ≤ j → j < O.length → Lv O P C j) O.length ?_ ?_
  · exact ⟨O.length, Nat.le_refl _, rfl, rfl, rfl, fun j h1 h2 => by omega⟩
  rintro m vs h' ⟨k, hkO, rfl, rfl, rfl, hall⟩
  rcases Nat.eq_zero_or_pos m with rfl | hmp
  · have h00 : ¬ ((0 : Int) < ((0 : Nat) : Int)) := by omega
    simp only [pwA, if_true, if_false, eq_self, nm_eq, reduceCtorEq, ↓reduceIte, nQ10, nQ7, nQ11, nQ12, nQ16, nQ17, nQ18, iQ2, iQ3, iQ4, iQ5, iQ6, lQ19, iQ7, lQ20, h00]
    exact hk _ ⟨fun _ j hj => hall j (Nat.zero_le _) hj, fun _ => rfl⟩
  obtain ⟨i, rfl⟩ : ∃ i, m = i + 1 := ⟨m - 1, by omega⟩
  have hpos : (0 : Int) < ((i + 1 : Nat) : Int) := by omega
  have hw : IntKind.i64.wrap (((i + 1 : Nat) : Int) - 1) = (i : Int) := by rw [wrap64 (by omega) (by omega)]; omega
  have F : Full O P C (O.length - (i + 1)) := full_of s (by omega) fun j h1 h2 => hall j (by omega) h2
  simp only [pwA, if_true, if_false, eq_self, nm_eq, reduceCtorEq, ↓reduceIte, nQ10, nQ7, nQ11, nQ12, nQ16, nQ17, nQ18, iQ2, iQ3, iQ4, iQ5, iQ6, lQ19, iQ7, lQ20, hpos, hw]
  refine levelFault_ok s F (i := i) (by omega) hs0 hR0 fun f0 f1 f2 f3 hf => ?_
  rcases hf with ⟨rfl, rfl, rfl, rfl, L⟩ | ⟨h0, hn⟩
  · simp only [pwA, if_true, if_false, eq_self, nm_eq, reduceCtorEq, ↓reduceIte, nQ10, nQ7, nQ11, nQ12, nQ16, nQ17, nQ18, iQ2, iQ3, iQ4, iQ5, iQ6, lQ19, iQ7, lQ20, hpos, hw]
    refine ⟨i, by omega, i, by omega, rfl, rfl, fun j h1 h2 => ?_⟩
    by_cases e : j = i
    · subst e; exact L
    · exact hall j (by omega) h2
  · simp only [pwA, if_true, if_false, eq_self, nm_eq, reduceCtorEq, ↓reduceIte, nQ10, nQ7, nQ11, nQ12, nQ16, nQ17, nQ18, iQ2, iQ3, iQ4, iQ5, iQ6, lQ19, iQ7, lQ20, hpos, hw, h0, Bool.false_and]
    exact hk _ ⟨fun h => absurd h (by omega), fun h => absurd (h i (by omega)) hn⟩
theorem IsConsistent_ok (hR : IsPr vO vP vC O P C) (sz : SzP O P C) (hk : ∀ t : Bool, (t = true ↔ isPres O P C ∧ Cons O P C) → K (.bool t) σ) : PCalls Tryz.prog 120 [.agg [vO, vP, vC]] σ K := by
  have h0 := hR.O.one
  have h1 := hR.P.one
  have h2 := hR.C.one
  have fl : ∀ {A : Prop}, ¬ A → ((false = true) ↔ A) := fun h => ⟨fun x => (by cases x), fun x => absurd x h⟩
  have hpt : PtrG (σ.new [vO, vP, vC]) σ.next vO vP vC := ⟨by simp only [pwA, if_true, if_false, eq_self, nm_eq, reduceCtorEq, ↓reduceIte, nQ10, nQ7, nQ11, nQ12, nQ16, nQ17, nQ18, iQ2, iQ3, iQ4, iQ5, iQ6, lQ19, iQ7, lQ20], by simp only [pwA, if_true, if_false, eq_self, nm_eq, reduceCtorEq, ↓reduceIte, nQ10, nQ7, nQ11, nQ12, nQ16, nQ17, nQ18, iQ2, iQ3, iQ4, iQ5, iQ6, lQ19, iQ7, lQ20]⟩
  refine PCalls.gh ?_
  refine pcalls_of_vp mix Tryz.func120 cf120 rfl ?_
  dsimp only [if120, qI, eI, nI, qD, eD]
  simp only [pwA, if_true, if_false, eq_self, nm_eq, reduceCtorEq, ↓reduceIte, nQ10, nQ7, nQ11, nQ12, nQ16, nQ17, nQ18, iQ2, iQ3, iQ4, iQ5, iQ6, lQ19, iQ7, lQ20, h0, h1, h2]
  refine IsPresentation_ok hR sz fun t ht => ?_
  cases t with
  | false =>
    simp only [pwA, if_true, if_false, eq_self, nm_eq, reduceCtorEq, ↓reduceIte, nQ10, nQ7, nQ11, nQ12, nQ16, nQ17, nQ18, iQ2, iQ3, iQ4, iQ5, iQ6, lQ19, iQ7, lQ20]
    exact Gh.fin0 (keep_new σ _) trivial (hk _ (fl fun h => by cases ht.2 h.1))
  | true =>
    have hp := ht.1 rfl
    simp only [pwA, if_true, if_false, eq_self, nm_eq, reduceCtorEq, ↓reduceIte, nQ10, nQ7, nQ11, nQ12, nQ16, nQ17, nQ18, iQ2, iQ3, iQ4, iQ5, iQ6, lQ19, iQ7, lQ20]
    refine consistentFrom_ok hp.shp hpt hR fun r hr => ?_
    simp only [pwA, if_true, if_false, eq_self, nm_eq, reduceCtorEq, ↓reduceIte, nQ10, nQ7, nQ11, nQ12, nQ16, nQ17, nQ18, iQ2, iQ3, iQ4, iQ5, iQ6, lQ19, iQ7, lQ20]
    exact Gh.fin0 (keep_new σ _) trivial (hk _ (by rw [decide_eq_true_iff]; exact ⟨fun h => ⟨hp, hr.1 h⟩, fun h => hr.2 h.2⟩))
def cenE (C : List (List (List Int))) (i q : Nat) : Prop := at_ (cvec C i (i + (1 + q))) (i + (1 + q)) = 1 ∧ isZ ((cvec C i (i + (1 + q))).take (i + (1 + q)))
def isCen (O : List Int) (C : List (List (List Int))) : Prop := ∀ i, i < O.length → at_ O i = at_ O 0 ∧ ∀ q, i + (1 + q) < O.length → cenE C i q
theorem isCentral_ok (s : Shp O P C) (hs : PtrG σ sp vO vP vC) (hR : IsPr vO vP vC O P C) (hk : ∀ t : Bool, (t = true ↔ isCen O C) → K (.bool t) σ) : PCalls Tryz.prog 145 [.ptr sp 0] σ K := by
  have fl : ∀ {A : Prop}, ¬ A → ((false = true) ↔ A) := fun h => ⟨fun x => (by cases x), fun x => absurd x h⟩
  have hn6 := s.le
  obtain ⟨⟨w0, a0, rfl⟩, ⟨w1, a1, rP, rfl, hP⟩, ⟨w3, a3, rC, rfl, hC⟩⟩ := hR
  have e0 : σ.rd1 sp 0 = some (.fz w0 a0 O.length (pis O)) := by rw [obj_rd1 hs.obj]; rfl
  have e2 : σ.rd1 sp 2 = some (.fz w3 a3 C.length rC) := by rw [obj_rd1 hs.obj]; rfl
  refine pcalls_of_vp mix Tryz.func145 cf145 rfl ?_
  dsimp only [if145, qI, eI, nI, qD, eD]
  simp only [pwA, if_true, if_false, eq_self, nm_eq, reduceCtorEq, ↓reduceIte, nQ10, nQ7, nQ11, nQ12, nQ16, nQ17, nQ18, iQ2, iQ3, iQ4, iQ5, iQ6, lQ19, iQ7, lQ20, e0]
  refine vp_loop (fun m vs h' => ∃ i : Nat, i ≤ O.length ∧ m = O.length - i ∧ vs = [.ptr sp 0, .fz w0 a0 O.length (pis O), .int .i64 O.length, .int .i64 i] ∧ σ = h' ∧ ∀ t, t < i → at_ O t = at_ O 0 ∧ ∀ q, t + (1 + q) < O.length → cenE C t q) O.length ?_ ?_
  · exact ⟨0, by omega, by omega, rfl, rfl, fun t h => by omega⟩
  rintro m vs h' ⟨i, hi, rfl, rfl, rfl, hall⟩
  simp only [pwA, if_true, if_false, eq_self, nm_eq, reduceCtorEq, ↓reduceIte, nQ10, nQ7, nQ11, nQ12, nQ16, nQ17, nQ18, iQ2, iQ3, iQ4, iQ5, iQ6, lQ19, iQ7, lQ20]
  refine iteI (fun hlt => ?_) fun hge => ?_
  rotate_left
  · exact hk _ ⟨fun _ t ht => hall t (by omega), fun _ => rfl⟩
  have h0O : 0 < O.length := by omega
  have h0I : (0 : Int) < (O.length : Int) := by omega
  have hiC : i < C.length := by rw [s.cl]; exact hlt
  obtain ⟨w5, a5, rs, hrb, hrs⟩ := cvRow s hC hlt
  simp only [pwA, if_true, if_false, eq_self, nm_eq, reduceCtorEq, ↓reduceIte, nQ10, nQ7, nQ11, nQ12, nQ16, nQ17, nQ18, iQ2, iQ3, iQ4, iQ5, iQ6, lQ19, iQ7, lQ20, e0, hlt, h0O, h0I, pisAt hlt, pisAt h0O]
  by_cases heq : at_ O i = at_ O 0
  rotate_left
  · simp only [pwA, if_true, if_false, eq_self, nm_eq, reduceCtorEq, ↓reduceIte, nQ10, nQ7, nQ11, nQ12, nQ16, nQ17, nQ18, iQ2, iQ3, iQ4, iQ5, iQ6, lQ19, iQ7, lQ20, heq]
    exact hk _ (fl fun h => heq (h i hlt).1)
  simp only [pwA, if_true, if_false, eq_self, nm_eq, reduceCtorEq, ↓reduceIte, nQ10, nQ7, nQ11, nQ12, nQ16, nQ17, nQ18, iQ2, iQ3, iQ4, iQ5, iQ6, lQ19, iQ7, lQ20, eq_true heq, e2, hiC, hrb]
  refine vp_loop (fun m vs h' => ∃ k : Nat, k ≤ O.length - 1 - i ∧ m = O.length - 1 - i - k ∧ vs = [.ptr sp 0, .int .i64 i, .fz w0 a0 O.length (pis O), .int .i64 O.length, .int .i64 i, .fz w5 a5 (O.length - 1 - i) rs, .int .i64 ((O.length - 1 - i : Nat) : Int), .int .i64 k] ∧ σ = h' ∧ ∀ q, q < k → cenE C i q) (O.length - 1 - i) ?_ ?_
  · exact ⟨0, by omega, by omega, rfl, rfl, fun t h => by omega⟩
  rintro m vs h' ⟨k, hk1, rfl, rfl, rfl, hall2⟩
  simp only [pwA, if_true, if_false, eq_self, nm_eq, reduceCtorEq, ↓reduceIte, nQ10, nQ7, nQ11, nQ12, nQ16, nQ17, nQ18, iQ2, iQ3, iQ4, iQ5, iQ6, lQ19, iQ7, lQ20]
  refine iteI (fun hlt2 => ?_) fun hge2 => ?_
  rotate_left
  · simp only [pwA, if_true, if_false, eq_self, nm_eq, reduceCtorEq, ↓reduceIte, nQ10, nQ7, nQ11, nQ12, nQ16, nQ17, nQ18, iQ2, iQ3, iQ4, iQ5, iQ6, lQ19, iQ7, lQ20, wrapS hlt (by omega : O.length ≤ 4611686018427387904)]
    refine ⟨_, by omega, i + 1, by omega, rfl, rfl, fun t h => ?_⟩
    by_cases e : t = i
    · subst e; exact ⟨heq, fun q hq => hall2 q (by omega)⟩
    · exact hall t (by omega)
  obtain ⟨w6, a6, hrk⟩ := hrs k hlt2
  have hjl : i + (1 + k) < O.length := by omega
  have hcv := s.cj i (i + (1 + k)) (by omega) hjl
  have hjc : i + (1 + k) < (cvec C i (i + (1 + k))).length := by rw [hcv.len]; exact hjl
  have wi1 : IntKind.i64.wrap ((i : Int) + 1) = ((i + 1 : Nat) : Int) := wrapS hlt (by omega)
  have e3 : IntKind.i64.wrap (((i + 1 : Nat) : Int) + (k : Int)) = ((i + (1 + k) : Nat) : Int) := by rw [wrap64 (by omega) (by omega)]; omega
  have hle2 : ((i + (1 + k) : Nat) : Int) ≤ (O.length : Int) := by omega
  have h0le : (0 : Int) ≤ ((i + (1 + k) : Nat) : Int) := by omega
  by_cases hone : at_ (cvec C i (i + (1 + k))) (i + (1 + k)) = 1
  rotate_left
  · simp only [pwA, if_true, if_false, eq_self, nm_eq, reduceCtorEq, ↓reduceIte, nQ10, nQ7, nQ11, nQ12, nQ16, nQ17, nQ18, iQ2, iQ3, iQ4, iQ5, iQ6, lQ19, iQ7, lQ20, hlt2, hrk, wi1, e3, hjl, pisAt hjc, hone]
    exact hk _ (fl fun h => hone ((h i hlt).2 k hjl).1)
  simp only [pwA, if_true, if_false, eq_self, nm_eq, reduceCtorEq, ↓reduceIte, nQ10, nQ7, nQ11, nQ12, nQ16, nQ17, nQ18, iQ2, iQ3, iQ4, iQ5, iQ6, lQ19, iQ7, lQ20, hlt2, hrk, wi1, e3, hjl, pisAt hjc, hone, hle2, pis_take, Nat.sub_zero]
  refine isZero_ok (by rw [List.length_take, Nat.min_eq_left (by omega)]) (by rw [List.length_take]; omega) ?_
  by_cases hz : isZ ((cvec C i (i + (1 + k))).take (i + (1 + k)))
  · simp only [pwA, if_true, if_false, eq_self, nm_eq, reduceCtorEq, ↓reduceIte, nQ10, nQ7, nQ11, nQ12, nQ16, nQ17, nQ18, iQ2, iQ3, iQ4, iQ5, iQ6, lQ19, iQ7, lQ20, hz, wrapS hlt2 (by omega : O.length - 1 - i ≤ 4611686018427387904)]
    refine ⟨_, by omega, k + 1, by omega, rfl, rfl, fun q h => ?_⟩
    by_cases e : q = k
    · subst e; exact ⟨hone, hz⟩
    · exact hall2 q (by omega)
  · simp only [pwA, if_true, if_false, eq_self, nm_eq, reduceCtorEq, ↓reduceIte, nQ10, nQ7, nQ11, nQ12, nQ16, nQ17, nQ18, iQ2, iQ3, iQ4, iQ5, iQ6, lQ19, iQ7, lQ20, hz]
    exact hk _ (fl fun h => hz ((h i hlt).2 k hjl).2)
theorem l34Central_ok (hR : IsPr vO vP vC O P C) (sz : SzP O P C) (hk : ∀ t : Bool, (t = true ↔ (isPres O P C ∧ Cons O P C) ∧ isCen O C) → K (.bool t) σ) : PCalls Tryz.prog 139 [.agg [vO, vP, vC]] σ K := by
  have fl : ∀ {A : Prop}, ¬ A → ((false = true) ↔ A) := fun h => ⟨fun x => (by cases x), fun x => absurd x h⟩
  have hR0 := hR
  obtain ⟨⟨w0, a0, rfl⟩, ⟨w1, a1, rP, rfl, hP⟩, ⟨w3, a3, rC, rfl, hC⟩⟩ := hR
  refine PCalls.gh ?_
  have fin : ∀ {t : Bool} {σ' : PHeap}, (t = true ↔ (isPres O P C ∧ Cons O P C) ∧ isCen O C) → Keep σ σ' → Gh σ K (.bool t) σ' := fun h k => Gh.fin0 k trivial (hk _ h)
  have hkp := keep_new σ [.fz w0 a0 O.length (pis O), .fz w1 a1 P.length rP, .fz w3 a3 C.length rC]
  refine pcalls_of_vp mix Tryz.func139 cf139 rfl ?_
  dsimp only [if139, qI, eI, nI, qD, eD]
  simp only [pwA, if_true, if_false, eq_self, nm_eq, reduceCtorEq, ↓reduceIte, nQ10, nQ7, nQ11, nQ12, nQ16, nQ17, nQ18, iQ2, iQ3, iQ4, iQ5, iQ6, lQ19, iQ7, lQ20]
  refine l08Group_ok hR0 sz fun t ht => ?_
  cases t with
  | false =>
    simp only [pwA, if_true, if_false, eq_self, nm_eq, reduceCtorEq, ↓reduceIte, nQ10, nQ7, nQ11, nQ12, nQ16, nQ17, nQ18, iQ2, iQ3, iQ4, iQ5, iQ6, lQ19, iQ7, lQ20]
    exact fin (fl fun h => by cases ht.2 h.1) hkp
  | true =>
  have hp := ht.1 rfl
  have s := hp.1.shp
  have hn6 := s.le
  simp only [pwA, if_true, if_false, eq_self, nm_eq, reduceCtorEq, ↓reduceIte, nQ10, nQ7, nQ11, nQ12, nQ16, nQ17, nQ18, iQ2, iQ3, iQ4, iQ5, iQ6, lQ19, iQ7, lQ20]
  refine vp_loop (fun m vs h' => ∃ i : Nat, i ≤ O.length ∧ m = O.length - i ∧ vs = [.ptr σ.next 0, .int .i64 i] ∧ h' = σ.new [.fz w0 a0 O.length (pis O), .fz w1 a1 P.length rP, .fz w3 a3 C.length rC] ∧ ∀ t, t < i → at_ O t = at_ O 0 ∧ ∀ q, t + (1 + q) < O.length → cenE C t q) O.length ?_ ?_
  · exact ⟨0, by omega, by omega, rfl, rfl, fun t h => by omega⟩
  rintro m vs h' ⟨i, hi, rfl, rfl, rfl, hall⟩
  simp only [pwA, if_true, if_false, eq_self, nm_eq, reduceCtorEq, ↓reduceIte, nQ10, nQ7, nQ11, nQ12, nQ16, nQ17, nQ18, iQ2, iQ3, iQ4, iQ5, iQ6, lQ19, iQ7, lQ20]
  refine iteI (fun hlt => ?_) fun hge => ?_
  rotate_left
  · exact fin ⟨fun _ => ⟨hp, fun t ht => hall t (by omega)⟩, fun _ => rfl⟩ hkp
  have h0O : 0 < O.length := by omega
  have h0I : (0 : Int) < (O.length : Int) := by omega
  have hiC : i < C.length := by rw [s.cl]; exact hlt
  obtain ⟨w5, a5, rs, hrb, hrs⟩ := cvRow s hC hlt
  simp only [pwA, if_true, if_false, eq_self, nm_eq, reduceCtorEq, ↓reduceIte, nQ10, nQ7, nQ11, nQ12, nQ16, nQ17, nQ18, iQ2, iQ3, iQ4, iQ5, iQ6, lQ19, iQ7, lQ20, hlt, h0O, h0I, pisAt hlt, pisAt h0O]
  by_cases heq : at_ O i = at_ O 0
  rotate_left
  · simp only [pwA, if_true, if_false, eq_self, nm_eq, reduceCtorEq, ↓reduceIte, nQ10, nQ7, nQ11, nQ12, nQ16, nQ17, nQ18, iQ2, iQ3, iQ4, iQ5, iQ6, lQ19, iQ7, lQ20, heq]
    exact fin (fl fun h => heq (h.2 i hlt).1) hkp
  have wi1 : IntKind.i64.wrap ((i : Int) + 1) = ((i + 1 : Nat) : Int) := wrapS hlt (by omega)
  simp only [pwA, if_true, if_false, eq_self, nm_eq, reduceCtorEq, ↓reduceIte, nQ10, nQ7, nQ11, nQ12, nQ16, nQ17, nQ18, iQ2, iQ3, iQ4, iQ5, iQ6, lQ19, iQ7, lQ20, eq_true heq, wi1]
  refine vp_loop (fun m vs h' => ∃ k : Nat, i + (1 + k) ≤ O.length ∧ m = O.length - (i + (1 + k)) ∧ vs = [.ptr σ.next 0, .int .i64 i, .int .i64 ((i + (1 + k) : Nat) : Int)] ∧ h' = σ.new [.fz w0 a0 O.length (pis O), .fz w1 a1 P.length rP, .fz w3 a3 C.length rC] ∧ ∀ q, q < k → cenE C i q) (O.length - (i + 1)) ?_ ?_
  · exact ⟨0, by omega, by omega, rfl, rfl, fun t h => by omega⟩
  rintro m vs h' ⟨k, hk1, rfl, rfl, rfl, hall2⟩
  simp only [pwA, if_true, if_false, eq_self, nm_eq, reduceCtorEq, ↓reduceIte, nQ10, nQ7, nQ11, nQ12, nQ16, nQ17, nQ18, iQ2, iQ3, iQ4, iQ5, iQ6, lQ19, iQ7, lQ20]
  refine iteI (fun hlt2 => ?_) fun hge2 => ?_
  rotate_left
  · simp only [pwA, if_true, if_false, eq_self, nm_eq, reduceCtorEq, ↓reduceIte, nQ10, nQ7, nQ11, nQ12, nQ16, nQ17, nQ18, iQ2, iQ3, iQ4, iQ5, iQ6, lQ19, iQ7, lQ20, wi1]
    refine ⟨_, by omega, i + 1, by omega, rfl, rfl, fun t h => ?_⟩
    by_cases e : t = i
    · subst e; exact ⟨heq, fun q hq => hall2 q (by omega)⟩
    · exact hall t (by omega)
  have hjl : i + (1 + k) < O.length := hlt2
  have hkr : k < O.length - 1 - i := by omega
  obtain ⟨w6, a6, hrk⟩ := hrs k hkr
  have hcv := s.cj i (i + (1 + k)) (by omega) hjl
  have hjc : i + (1 + k) < (cvec C i (i + (1 + k))).length := by rw [hcv.len]; exact hjl
  have e3 : IntKind.i64.wrap (((i + (1 + k) : Nat) : Int) - (i : Int)) = ((1 + k : Nat) : Int) := by rw [wrap64 (by omega) (by omega)]; omega
  have e4 : IntKind.i64.wrap (((1 + k : Nat) : Int) - 1) = (k : Int) := by rw [wrap64 (by omega) (by omega)]; omega
  have e5 : IntKind.i64.wrap (((i + (1 + k) : Nat) : Int) + 1) = ((i + (1 + (k + 1)) : Nat) : Int) := by rw [wrap64 (by omega) (by omega)]; omega
  have hle2 : ((i + (1 + k) : Nat) : Int) ≤ (O.length : Int) := by omega
  by_cases hone : at_ (cvec C i (i + (1 + k))) (i + (1 + k)) = 1
  rotate_left
  · simp only [pwA, if_true, if_false, eq_self, nm_eq, reduceCtorEq, ↓reduceIte, nQ10, nQ7, nQ11, nQ12, nQ16, nQ17, nQ18, iQ2, iQ3, iQ4, iQ5, iQ6, lQ19, iQ7, lQ20, hiC, hrb, hkr, hrk, e3, e4, hjl, pisAt hjc, hone]
    exact fin (fl fun h => hone ((h.2 i hlt).2 k hjl).1) hkp
  simp only [pwA, if_true, if_false, eq_self, nm_eq, reduceCtorEq, ↓reduceIte, nQ10, nQ7, nQ11, nQ12, nQ16, nQ17, nQ18, iQ2, iQ3, iQ4, iQ5, iQ6, lQ19, iQ7, lQ20, hiC, hrb, hkr, hrk, e3, e4, hjl, pisAt hjc, hone, hle2, pis_take, Nat.sub_zero]
  refine l01Zero_ok (by rw [List.length_take, Nat.min_eq_left (by omega)]) (by rw [List.length_take]; omega) ?_
  by_cases hz : isZ ((cvec C i (i + (1 + k))).take (i + (1 + k)))
  · simp only [pwA, if_true, if_false, eq_self, nm_eq, reduceCtorEq, ↓reduceIte, nQ10, nQ7, nQ11, nQ12, nQ16, nQ17, nQ18, iQ2, iQ3, iQ4, iQ5, iQ6, lQ19, iQ7, lQ20, hz, e5]
    refine ⟨_, by omega, k + 1, by omega, rfl, rfl, fun q h => ?_⟩
    by_cases e : q = k
    · subst e; exact ⟨hone, hz⟩
    · exact hall2 q (by omega)
  · simp only [pwA, if_true, if_false, eq_self, nm_eq, reduceCtorEq, ↓reduceIte, nQ10, nQ7, nQ11, nQ12, nQ16, nQ17, nQ18, iQ2, iQ3, iQ4, iQ5, iQ6, lQ19, iQ7, lQ20, hz]
    exact fin (fl fun h => hz ((h.2 i hlt).2 k hjl).2) hkp
end Go.Proofs
set_option linter.unusedSectionVars false
namespace Go.Grp
open Go.Ab Go.Lie
variable {α : Type} {S : α → Prop} {m : α → α → α} {e : α} {a b c x y z g : α}
noncomputable def ginv [Inhabited α] (S : α → Prop) (m : α → α → α) (e a : α) : α := Classical.epsilon fun b => S b ∧ m a b = e
section
variable [Inhabited α]
theorem Gp.inv_in (G : Gp S m e) (ha : S a) : S (ginv S m e a) ∧ m a (ginv S m e a) = e := by
  obtain ⟨b, h1, h2, h3⟩ := G.inv ha
  exact Classical.epsilon_spec (p := fun b => S b ∧ m a b = e) ⟨b, h1, h2⟩
theorem Gp.inv_eq (G : Gp S m e) (ha : S a) (hb : S b) (h : m a b = e) : b = ginv S m e a := G.cancel ha hb (G.inv_in ha).1 (h.trans (G.inv_in ha).2.symm)
theorem Gp.inv_l (G : Gp S m e) (ha : S a) : m (ginv S m e a) a = e := by
  obtain ⟨b, h1, h2, h3⟩ := G.inv ha
  rw [← G.inv_eq ha h1 h2]; exact h3
theorem Gp.inv_r (G : Gp S m e) (ha : S a) : m a (ginv S m e a) = e := (G.inv_in ha).2
noncomputable def com (S : α → Prop) (m : α → α → α) (e x y : α) : α := m (ginv S m e x) (m (ginv S m e y) (m x y))
noncomputable def cnj (S : α → Prop) (m : α → α → α) (e x g : α) : α := m (ginv S m e g) (m x g)
theorem Gp.com_in (G : Gp S m e) (hx : S x) (hy : S y) : S (com S m e x y) := G.cl (G.inv_in hx).1 (G.cl (G.inv_in hy).1 (G.cl hx hy))
theorem Gp.cnj_in (G : Gp S m e) (hx : S x) (hg : S g) : S (cnj S m e x g) := G.cl (G.inv_in hg).1 (G.cl hx hg)
theorem Gp.com_spec (G : Gp S m e) (hx : S x) (hy : S y) : m (m y x) (com S m e x y) = m x y := by
  have ix := (G.inv_in hx).1
  have iy := (G.inv_in hy).1
  have xy := G.cl hx hy
  unfold com
  rw [G.as hy hx (G.cl ix (G.cl iy xy)), ← G.as hx ix (G.cl iy xy), G.inv_r hx, G.l1 (G.cl iy xy), ← G.as hy iy xy, G.inv_r hy, G.l1 xy]
theorem Gp.com_eq (G : Gp S m e) (hx : S x) (hy : S y) (hz : S z) (h : m (m y x) z = m x y) : z = com S m e x y :=
  G.cancel (G.cl hy hx) hz (G.com_in hx hy) (h.trans (G.com_spec hx hy).symm)
theorem Gp.cnj_spec (G : Gp S m e) (hx : S x) (hg : S g) : m g (cnj S m e x g) = m x g := by
  unfold cnj
  rw [← G.as hg (G.inv_in hg).1 (G.cl hx hg), G.inv_r hg, G.l1 (G.cl hx hg)]
theorem Gp.cnj_eq (G : Gp S m e) (hx : S x) (hg : S g) (hz : S z) (h : m g z = m x g) : z = cnj S m e x g :=
  G.cancel hg hz (G.cnj_in hx hg) (h.trans (G.cnj_spec hx hg).symm)
structure NSub (S : α → Prop) (m : α → α → α) (e : α) (N : α → Prop) : Prop where
  inS : ∀ {x}, N x → S x
  one : N e
  cl : ∀ {x y}, N x → N y → N (m x y)
  inv : ∀ {x}, N x → N (ginv S m e x)
  nor : ∀ {x g}, N x → S g → N (cnj S m e x g)
def NC (S : α → Prop) (m : α → α → α) (e : α) (L : α → Prop) (x : α) : Prop := ∀ N, NSub S m e N → (∀ l, L l → N l) → N x
theorem Gp.whole (G : Gp S m e) : NSub S m e S := ⟨id, G.one, fun a b => G.cl a b, fun a => (G.inv_in a).1, fun a b => G.cnj_in a b⟩
theorem NC.sub (G : Gp S m e) {L : α → Prop} (hL : ∀ l, L l → S l) : NSub S m e (NC S m e L) :=
  ⟨fun h => h S G.whole hL, fun N hN _ => hN.one, fun h1 h2 N hN hl => hN.cl (h1 N hN hl) (h2 N hN hl), fun h N hN hl => hN.inv (h N hN hl), fun h hg N hN hl => hN.nor (h N hN hl) hg⟩
theorem NC.mem {L : α → Prop} (h : L x) : NC S m e L x := fun N _ hl => hl x h
theorem NC.le {L : α → Prop} {N : α → Prop} (hN : NSub S m e N) (h : ∀ l, L l → N l) {x : α} (hx : NC S m e L x) : N x := hx N hN h
def Cen (S : α → Prop) (m : α → α → α) (e : α) (N : α → Prop) (x : α) : Prop := S x ∧ ∀ y, S y → N (com S m e x y)
theorem Gp.com_mul (G : Gp S m e) (hx : S x) (hz : S z) (hy : S y) : com S m e (m x z) y = m (cnj S m e (com S m e x y) z) (com S m e z y) := by
  have c1 := G.com_in hx hy
  have c2 := G.com_in hz hy
  have cj := G.cnj_in c1 hz
  refine (G.com_eq (G.cl hx hz) hy (G.cl cj c2) ?_).symm
  have xz := G.cl hx hz
  have yx := G.cl hy hx
  -- y x z (c1^z) c2 = y x c1 z c2 = x y z c2 = x z y
  rw [← G.as hy hx hz, G.as yx hz (G.cl cj c2), ← G.as hz cj c2, G.cnj_spec c1 hz, ← G.as yx (G.cl c1 hz) c2, ← G.as yx c1 hz, G.com_spec hx hy, G.as hx hy hz, G.as hx (G.cl hy hz) c2, G.com_spec hz hy, ← G.as hx hz hy]
theorem Gp.com_mul2 (G : Gp S m e) (hx : S x) (hy : S y) (hz : S z) : com S m e x (m y z) = m (com S m e x z) (cnj S m e (com S m e x y) z) := by
  have c1 := G.com_in hx hy
  have c2 := G.com_in hx hz
  have cj := G.cnj_in c1 hz
  refine (G.com_eq hx (G.cl hy hz) (G.cl c2 cj) ?_).symm
  -- y z x c2 c1^z = y x z c1^z = y x c1 z = x y z
  rw [G.as hy hz hx, G.as hy (G.cl hz hx) (G.cl c2 cj), ← G.as (G.cl hz hx) c2 cj, G.com_spec hx hz, G.as hx hz cj, G.cnj_spec c1 hz, ← G.as hy hx (G.cl c1 hz), ← G.as (G.cl hy hx) c1 hz, G.com_spec hx hy, G.as hx hy hz]
theorem Gp.com_one (G : Gp S m e) (hy : S y) : com S m e e y = e := (G.com_eq G.one hy G.one (by rw [G.r1 hy, G.r1 hy, G.l1 hy])).symm
theorem Gp.com_one2 (G : Gp S m e) (hx : S x) : com S m e x e = e := (G.com_eq hx G.one G.one (by rw [G.l1 hx, G.r1 hx])).symm
theorem Gp.cnj_one (G : Gp S m e) (hg : S g) : cnj S m e e g = e := (G.cnj_eq G.one hg G.one (by rw [G.r1 hg, G.l1 hg])).symm
theorem Gp.cnj_com (G : Gp S m e) (hx : S x) (hy : S y) : m x (com S m e x y) = cnj S m e x y := by
  have c1 := G.com_in hx hy
  exact G.cnj_eq hx hy (G.cl hx c1) (by rw [← G.as hy hx c1]; exact G.com_spec hx hy)
theorem Gp.cen (G : Gp S m e) {N : α → Prop} (hN : NSub S m e N) (hG : ∀ {x}, N x → ∀ {y}, S y → N (com S m e x y)) : NSub S m e (Cen S m e N) := by
  refine ⟨fun h => h.1, ⟨G.one, fun y hy => by rw [G.com_one hy]; exact hN.one⟩, fun h1 h2 => ⟨G.cl h1.1 h2.1, fun y hy => ?_⟩, fun h => ⟨(G.inv_in h.1).1, fun y hy => ?_⟩, fun {x g} h hg => ?_⟩
  · rw [G.com_mul h1.1 h2.1 hy]
    exact hN.cl (hN.nor (h1.2 y hy) h2.1) (h2.2 y hy)
  · rename_i x
    have ix := (G.inv_in h.1).1
    -- e = [x x^-1, y] = [x, y]^(x^-1) [x^-1, y]
    have h1 := G.com_mul h.1 ix hy
    rw [G.inv_r h.1, G.com_one hy] at h1
    have c := hN.nor (h.2 y hy) ix
    have := G.inv_eq (hN.inS c) (G.com_in ix hy) h1.symm
    rw [this]; exact hN.inv c
  · -- x^g = x [x, g]
    rw [← G.cnj_com h.1 hg]
    refine ⟨G.cl h.1 (hN.inS (h.2 g hg)), fun y hy => ?_⟩
    rw [G.com_mul h.1 (hN.inS (h.2 g hg)) hy]
    exact hN.cl (hN.nor (h.2 y hy) (hN.inS (h.2 g hg))) (hG (h.2 g hg) hy)
theorem NSub.com_in (G : Gp S m e) {N : α → Prop} (hN : NSub S m e N) (hx : N x) (hy : S y) : N (com S m e x y) := by
  have sx := hN.inS hx
  have h1 := G.cnj_com sx hy
  have ix := (G.inv_in sx).1
  have : com S m e x y = m (ginv S m e x) (cnj S m e x y) := by
    rw [← h1, ← G.as ix sx (G.com_in sx hy), G.inv_l sx, G.l1 (G.com_in sx hy)]
  rw [this]
  exact hN.cl (hN.inv hx) (hN.nor hx hy)
theorem Gp.cen' (G : Gp S m e) {N : α → Prop} (hN : NSub S m e N) : NSub S m e (Cen S m e N) := G.cen hN fun h _ hy => hN.com_in G h hy
end
end Go.Grp
namespace Go.Grp
open Go.Ab Go.Lie
variable {O : List Int} {P : List (List Int)} {C : List (List (List Int))} {x y z : List Int} {A B : List Int → Prop}
abbrev gS (O : List Int) : List Int → Prop := TT O 0
abbrev gm (O : List Int) (P : List (List Int)) (C : List (List (List Int))) : List Int → List Int → List Int := mu O P C O.length
theorem Full.g (F : Full O P C O.length) : Gp (gS O) (gm O P C) (zv O) := by
  have := F.gp
  rwa [Nat.sub_self] at this
noncomputable abbrev gcom (O : List Int) (P : List (List Int)) (C : List (List (List Int))) (x y : List Int) : List Int := com (gS O) (gm O P C) (zv O) x y
abbrev gN (O : List Int) (P : List (List Int)) (C : List (List (List Int))) (N : List Int → Prop) : Prop := NSub (gS O) (gm O P C) (zv O) N
abbrev gNC (O : List Int) (P : List (List Int)) (C : List (List (List Int))) (A : List Int → Prop) : List Int → Prop := NC (gS O) (gm O P C) (zv O) A
theorem Full.nfx (F : Full O P C O.length) (hx : gS O x) : ph (gm O P C) (zv O) (unit O) (nx x) 0 O.length = x := by
  have := F.nf (x := x) (by rw [Nat.sub_self]; exact hx)
  unfold Ph at this
  rwa [Nat.sub_self] at this
theorem gen_all (s : Shp O P C) (F : Full O P C O.length) {N : List Int → Prop} (hN : gN O P C N) (hx : gS O x) (h : ∀ i, i < O.length → N (gcom O P C x (unit O i))) (hy : gS O y) : N (gcom O P C x y) := by
  have G := F.g
  have := G.toMon.ph_ind (Q := fun y => N (gcom O P C x y)) (h := unit O) (x := nx y) (d := O.length) (t := 0) (by rw [gcom, G.com_one2 hx]; exact hN.one)
    (fun a b ha hb h1 h2 => by rw [gcom, G.com_mul2 hx ha hb]; exact hN.cl h2 (hN.nor h1 hb)) fun j h1 h2 => ⟨s.unit (by omega) (Nat.zero_le _), h j (by omega)⟩
  rwa [F.nfx hy] at this
def cs (O : List Int) (P : List (List Int)) (C : List (List (List Int))) (A : List Int → Prop) (c : List Int) : Prop := ∃ x i, A x ∧ i < O.length ∧ c = gcom O P C x (unit O i)
theorem cs_in (s : Shp O P C) (F : Full O P C O.length) (hA : ∀ x, A x → gS O x) : ∀ c, cs O P C A c → gS O c := by
  rintro c ⟨x, i, hx, hi, rfl⟩
  exact F.g.com_in (hA x hx) (s.unit hi (Nat.zero_le _))
theorem cs_le (s : Shp O P C) (F : Full O P C O.length) (hA : ∀ x, A x → gS O x) (hB : ∀ x, B x → gNC O P C A x) : ∀ c, gNC O P C (cs O P C B) c → gNC O P C (cs O P C A) c := by
  have G := F.g
  have hN : gN O P C (gNC O P C (cs O P C A)) := NC.sub G (cs_in s F hA)
  intro c hc
  refine NC.le hN ?_ hc
  rintro _ ⟨x, i, hx, hi, rfl⟩
  have hc2 := G.cen' hN
  have : Cen (gS O) (gm O P C) (zv O) (gNC O P C (cs O P C A)) x := NC.le hc2 (fun l hl => ⟨hA l hl, fun y hy => gen_all s F hN (hA l hl) (fun i hi => NC.mem ⟨l, i, hl, hi, rfl⟩) hy⟩) (hB x hx)
  exact this.2 _ (s.unit hi (Nat.zero_le _))
theorem cs_eq (s : Shp O P C) (F : Full O P C O.length) (hA : ∀ x, A x → gS O x) (hB : ∀ x, B x → gS O x) (h : ∀ x, gNC O P C A x ↔ gNC O P C B x) (c : List Int) : gNC O P C (cs O P C A) c ↔ gNC O P C (cs O P C B) c :=
  ⟨cs_le s F hB (fun x hx => (h x).1 (NC.mem hx)) c, cs_le s F hA (fun x hx => (h x).2 (NC.mem hx)) c⟩
end Go.Grp
namespace Go.Grp
open Go.Ab Go.Lie
variable {O : List Int} {P : List (List Int)} {C : List (List (List Int))} {x y z a b c : List Int} {A B : List Int → Prop} {d t i : Nat}
def Cent (O : List Int) (C : List (List (List Int))) : Prop := ∀ i j, i < j → j < O.length → TT O j (cvec C i j) ∧ at_ (cvec C i j) j = 1
def addm (o a b : Int) : Int := if a + b ≥ o then a + b - o else a + b
theorem addm_comm (o a b : Int) : addm o a b = addm o b a := by unfold addm; rw [Int.add_comm]
theorem addm_fix {o a b : Int} (ha : 0 ≤ a ∧ a < o) (hb : 0 ≤ b ∧ b < o) (h : addm o a b = a) : b = 0 := by
  unfold addm at h; split at h <;> omega
def Upto (O : List Int) (t : Nat) (x y : List Int) : Prop := ∀ j, j < t → at_ x j = at_ y j
theorem mu_same (s : Shp O P C) (hd : d + 1 ≤ O.length) (hi : i = O.length - (d + 1)) (h0 : at_ b i = 0) (ha : TT O i a) (hb : TT O i b) : mu O P C (d + 1) a b = (mu O P C d (a.set i 0) (b.set i 0)).set i (at_ a i) := by
  have ba := ha.bd i (by omega)
  subst hi
  simp only [mu]
  rw [h0, if_neg (by omega), show nx b (O.length - (d + 1)) = 0 by show (at_ b _).toNat = 0; rw [h0]; rfl, Int.add_zero]
  rfl
theorem mu_right (s : Shp O P C) : ∀ {d : Nat} {b : List Int}, d ≤ O.length → O.length - d ≤ t → t < O.length → TT O (O.length - d) b → TT O t a → Upto O t (mu O P C d b a) b ∧ at_ (mu O P C d b a) t = addm (at_ O t) (at_ b t) (at_ a t)
  | 0, b, hd, h1, h2, hb, ha => by omega
  | d + 1, b, hd, h1, h2, hb, ha => by
    have hi : O.length - (d + 1) < O.length := by omega
    have e : O.length - d = O.length - (d + 1) + 1 := by omega
    have hpos := s.pos hi
    have bl : O.length - (d + 1) < b.length := by rw [hb.len]; exact hi
    have hbs := hb.set0 hi hpos
    rw [← e] at hbs
    by_cases ht : O.length - (d + 1) = t
    · have hr := mu_tt s hd hb (ha.mono (by omega) : TT O (O.length - (d + 1)) a)
      refine ⟨fun j hj => by rw [hr.zero j (by omega), hb.zero j (by omega)], ?_⟩
      have hm : ∀ a b, TT O (O.length - d) a → TT O (O.length - d) b → TT O (O.length - d) (mu O P C d a b) := fun a b h1 h2 => mu_tt s (by omega) h1 h2
      have has := (ha.mono (by omega) : TT O (O.length - (d + 1)) a).set0 hi hpos
      rw [← e] at has
      have ir := hm _ _ (iter_in (fun x _ => by rw [e]; exact img_tt s (by rw [← e]; exact hm) x) (nx a (O.length - (d + 1))) hbs) has
      have hw : TT O (O.length - d) (pvec P (O.length - (d + 1))) := by rw [e]; exact s.pw _ hi
      have ir2 := hm _ _ hw ir
      rw [← ht]
      simp only [mu, addm]
      split
      · rw [at_set (by rw [ir2.len]; exact hi), if_pos rfl]
      · rw [at_set (by rw [ir.len]; exact hi), if_pos rfl]
    · have ha0 : at_ a (O.length - (d + 1)) = 0 := ha.zero _ (by omega)
      rw [mu_same s hd rfl ha0 hb (ha.mono (by omega)), set_set0 ha0 (by rw [ha.len]; exact hi)]
      obtain ⟨i1, i2⟩ := mu_right s (d := d) (by omega) (by omega) h2 hbs ha
      have hml := (mu_tt s (by omega : d ≤ O.length) hbs (ha.mono (by omega) : TT O (O.length - d) a)).len
      refine ⟨fun j hj => ?_, ?_⟩
      · rw [at_set (by rw [hml]; exact hi)]
        split
        · rename_i h; rw [h]
        · rename_i h; rw [i1 j hj, at_set bl, if_neg h]
      · rw [at_set (by rw [hml]; exact hi), if_neg (by omega), i2, at_set bl, if_neg (by omega)]
theorem img_keep (s : Shp O P C) (hC : Cent O C) (hi : O.length - d = i + 1) (hd : d ≤ O.length) (hit : i < t) (ht : t < O.length) (hx : TT O t x) : TT O t (Grp.img O C (mu O P C d) i x) ∧ at_ (Grp.img O C (mu O P C d) i x) t = at_ x t := by
  have bx := hx.bd t ht
  have hm : ∀ a b, TT O (i + 1) a → TT O (i + 1) b → TT O (i + 1) (mu O P C d a b) := fun a b h1 h2 => by
    have := mu_tt s hd (a := a) (b := b) (by rw [hi]; exact h1) (by rw [hi]; exact h2)
    rwa [hi] at this
  have sk : Grp.img O C (mu O P C d) i x = fo (mu O P C d) (cvec C i) (nx x) t (O.length - t) (zv O) := by
    unfold img
    have h := Nat.add_sub_of_le (show i + 1 ≤ t by omega)
    have : ∀ (k u : Nat) (a : List Int), u + k = t → (fo (mu O P C d) (cvec C i) (nx x) u (k + (O.length - t)) a = fo (mu O P C d) (cvec C i) (nx x) t (O.length - t) a) := by
      intro k
      induction k with
      | zero => intro u a h; rw [Nat.zero_add, show u = t by omega]
      | succ k ih =>
        intro u a h
        rw [show k + 1 + (O.length - t) = (k + (O.length - t)) + 1 by omega, fo, show nx x u = 0 by show (at_ x u).toNat = 0; rw [hx.zero u (by omega)]; rfl]
        exact ih (u + 1) a (by omega)
    have := this (t - (i + 1)) (i + 1) (zv O) (by omega)
    rwa [show t - (i + 1) + (O.length - t) = O.length - 1 - i by omega] at this
  rw [sk, show O.length - t = (O.length - (t + 1)) + 1 by omega, fo]
  obtain ⟨c1, c2⟩ := hC i t hit ht
  have st : ∀ k : Nat, (k : Int) ≤ at_ x t → ∀ {a : List Int} {q : Int}, TT O t a → at_ a t = q → 0 ≤ q → q + k ≤ at_ x t → TT O t (rep (mu O P C d) (cvec C i t) k a) ∧ at_ (rep (mu O P C d) (cvec C i t) k a) t = q + k := by
    intro k
    induction k with
    | zero => intro _ a q ha hq _ _; exact ⟨ha, by rw [rep, hq]; omega⟩
    | succ k ih =>
      intro hk a q ha hq hq0 hqk
      obtain ⟨r1, r2⟩ := mu_right s (d := d) (t := t) (a := cvec C i t) (b := a) hd (by omega) ht (ha.mono (by omega)) c1
      have hta : TT O t (mu O P C d a (cvec C i t)) := by
        have h0 := hm a (cvec C i t) (ha.mono (by omega)) (c1.mono (by omega))
        exact ⟨h0.len, h0.bd, fun j hj => by rw [r1 j hj]; exact ha.zero j hj⟩
      rw [c2, hq, addm, if_neg (by omega)] at r2
      have := ih (by omega) hta r2 (by omega) (by omega)
      rw [rep]
      exact ⟨this.1, by rw [this.2]; omega⟩
  have hnx : ((nx x t : Nat) : Int) = at_ x t := Int.toNat_of_nonneg bx.1
  obtain ⟨q1, q2⟩ := st (nx x t) (by omega) (a := zv O) (q := 0) (s.zv _) (at_rep _ t) (Int.le_refl _) (by omega)
  -- the later factors leave it
  have lat := fo_in (S := fun a => TT O t a ∧ at_ a t = at_ x t) (m := mu O P C d) (h := cvec C i) (x := nx x) (d := O.length - (t + 1)) (t := t + 1) (a := rep (mu O P C d) (cvec C i t) (nx x t) (zv O)) ?_ ⟨q1, by rw [q2]; omega⟩
  · exact lat
  · rintro j h1 h2 a ⟨ha, hat⟩
    obtain ⟨d1, d2⟩ := hC i j (by omega) (by omega)
    obtain ⟨r1, r2⟩ := mu_right s (d := d) (t := j) (a := cvec C i j) (b := a) hd (by omega) (by omega) (ha.mono (by omega)) d1
    have h0 := hm a (cvec C i j) (ha.mono (by omega)) (d1.mono (by omega))
    exact ⟨⟨h0.len, h0.bd, fun k hk => by rw [r1 k (by omega)]; exact ha.zero k hk⟩, by rw [r1 t (by omega)]; exact hat⟩
end Go.Grp
namespace Go.Grp
open Go.Ab Go.Lie
variable {O : List Int} {P : List (List Int)} {C : List (List (List Int))} {x y z a b c g : List Int} {A B : List Int → Prop} {t i : Nat}
theorem mu_left (s : Shp O P C) (hC : Cent O C) : ∀ {d : Nat} {a b : List Int}, d ≤ O.length → O.length - d ≤ t → t < O.length → TT O t a → TT O (O.length - d) b → Upto O t (mu O P C d a b) b ∧ at_ (mu O P C d a b) t = addm (at_ O t) (at_ a t) (at_ b t)
  | 0, a, b, hd, h1, h2, ha, hb => by omega
  | d + 1, a, b, hd, h1, h2, ha, hb => by
    have hi : O.length - (d + 1) < O.length := by omega
    have e : O.length - d = O.length - (d + 1) + 1 := by omega
    have hpos := s.pos hi
    have bl : O.length - (d + 1) < b.length := by rw [hb.len]; exact hi
    have hbs := hb.set0 hi hpos
    rw [← e] at hbs
    have ha' : TT O (O.length - (d + 1)) a := ha.mono (by omega)
    have has := ha'.set0 hi hpos
    rw [← e] at has
    have hm : ∀ a b, TT O (O.length - d) a → TT O (O.length - d) b → TT O (O.length - d) (mu O P C d a b) := fun a b h1 h2 => mu_tt s (by omega) h1 h2
    by_cases ht : O.length - (d + 1) = t
    · have hr := mu_tt s hd ha' hb
      refine ⟨fun j hj => by rw [hr.zero j (by omega), hb.zero j (by omega)], ?_⟩
      have ir := hm _ _ (iter_in (fun x _ => by rw [e]; exact img_tt s (by rw [← e]; exact hm) x) (nx b (O.length - (d + 1))) has) hbs
      have hw : TT O (O.length - d) (pvec P (O.length - (d + 1))) := by rw [e]; exact s.pw _ hi
      have ir2 := hm _ _ hw ir
      rw [← ht]
      simp only [mu, addm]
      split
      · rw [at_set (by rw [ir2.len]; exact hi), if_pos rfl]
      · rw [at_set (by rw [ir.len]; exact hi), if_pos rfl]
    · have ha0 : at_ a (O.length - (d + 1)) = 0 := ha.zero _ (by omega)
      have haa : a.set (O.length - (d + 1)) 0 = a := set_set0 ha0 (by rw [ha.len]; exact hi)
      have bb := hb.bd _ hi
      -- images of a
      have it : ∀ (k : Nat) {u : List Int}, TT O t u → at_ u t = at_ a t → TT O t (iter (Grp.img O C (mu O P C d) (O.length - (d + 1))) k u) ∧ at_ (iter (Grp.img O C (mu O P C d) (O.length - (d + 1))) k u) t = at_ a t := by
        intro k
        induction k with
        | zero => intro u h1 h2; exact ⟨h1, h2⟩
        | succ k ih =>
          intro u h3 h4
          obtain ⟨k1, k2⟩ := img_keep (P := P) (t := t) (d := d) s hC (i := O.length - (d + 1)) e (by omega) (by omega) h2 h3
          exact ih k1 (by rw [k2]; exact h4)
      obtain ⟨l1, l2⟩ := it (nx b (O.length - (d + 1))) ha rfl
      obtain ⟨i1, i2⟩ := mu_left s hC (d := d) (by omega) (by omega) h2 l1 hbs
      have hml := (hm _ _ (l1.mono (by omega)) hbs).len
      simp only [mu]
      rw [ha0, if_neg (by omega), haa, Int.zero_add]
      refine ⟨fun j hj => ?_, ?_⟩
      · show at_ ((mu O P C d _ _).set _ _) j = _
        rw [at_set (by rw [hml]; exact hi)]
        split
        · rename_i h; rw [h]
        · rename_i h; rw [i1 j hj, at_set bl, if_neg h]
      · show at_ ((mu O P C d _ _).set _ _) t = _
        rw [at_set (by rw [hml]; exact hi), if_neg (by omega), i2, l2, at_set bl, if_neg (by omega)]
section
variable (s : Shp O P C) (F : Full O P C O.length) (hC : Cent O C)
include s F hC
theorem behind (hz : gS O z) (hc : gS O c) (h : Upto O t (gm O P C z c) z) (ht : t ≤ O.length) : TT O t c := by
  have : ∀ k, k ≤ t → TT O k c := by
    intro k
    induction k with
    | zero => intro _; exact hc
    | succ k ih =>
      intro hk
      have hck := ih (by omega)
      obtain ⟨r1, r2⟩ := mu_right s (d := O.length) (t := k) (a := c) (b := z) (Nat.le_refl _) (by omega) (by omega) (by rw [Nat.sub_self]; exact hz) hck
      have e := h k (by omega)
      show TT O (k + 1) c
      have e2 : addm (at_ O k) (at_ z k) (at_ c k) = at_ z k := by rw [← r2]; exact e
      have := addm_fix (hz.bd k (by omega)) (hc.bd k (by omega)) e2
      refine ⟨hc.len, hc.bd, fun j hj => ?_⟩
      by_cases g : j = k
      · subst g; exact this
      · exact hck.zero j (by omega)
  exact this t (Nat.le_refl _)
theorem com_deep (ht : t < O.length) (hx : TT O t x) (hy : gS O y) : TT O (t + 1) (gcom O P C x y) := by
  have G := F.g
  have hx0 : gS O x := hx.mono (Nat.zero_le _)
  have hyx := G.cl hy hx0
  have hc := G.com_in hx0 hy
  refine behind s F hC hyx hc (fun j hj => ?_) ht
  have e : gm O P C (gm O P C y x) (gcom O P C x y) = gm O P C x y := G.com_spec hx0 hy
  rw [e]
  obtain ⟨r1, r2⟩ := mu_right s (d := O.length) (t := t) (a := x) (b := y) (Nat.le_refl _) (by omega) ht (by rw [Nat.sub_self]; exact hy) hx
  obtain ⟨l1, l2⟩ := mu_left s hC (d := O.length) (t := t) (a := x) (b := y) (Nat.le_refl _) (by omega) ht hx (by rw [Nat.sub_self]; exact hy)
  by_cases g : j = t
  · subst g
    exact (l2.trans (addm_comm _ _ _)).trans r2.symm
  · exact (l1 j (by omega)).trans (r1 j (by omega)).symm
theorem tt_upto (ht : t ≤ O.length) (hx : TT O t x) (hy : gS O y) : Upto O t (gm O P C x y) y := by
  rcases Nat.lt_or_ge t O.length with h | h
  · exact (mu_left s hC (d := O.length) (t := t) (a := x) (b := y) (Nat.le_refl _) (by omega) h hx (by rw [Nat.sub_self]; exact hy)).1
  · have hx0 : x = zv O := hx.ext (s.zv _) fun j h1 h2 => by omega
    rw [hx0, F.g.l1 hy]
    exact fun j _ => rfl
theorem tt_nsub (ht : t ≤ O.length) : gN O P C (TT O t) := by
  have G := F.g
  have up0 : ∀ {x : List Int}, TT O t x → gS O x := fun h => h.mono (Nat.zero_le _)
  refine ⟨up0, s.zv _, fun {x y} hx hy => ?_, fun {x} hx => ?_, fun {x g} hx hg => ?_⟩
  · have h0 := G.cl (up0 hx) (up0 hy)
    exact ⟨h0.len, h0.bd, fun j hj => by rw [tt_upto s F hC ht hx (up0 hy) j hj]; exact hy.zero j hj⟩
  · obtain ⟨i1, i2⟩ := G.inv_in (up0 hx)
    have := tt_upto s F hC ht hx i1
    rw [show gm O P C x (ginv (gS O) (gm O P C) (zv O) x) = zv O from i2] at this
    exact ⟨i1.len, i1.bd, fun j hj => by rw [← this j hj]; exact at_rep _ j⟩
  · refine behind s F hC hg (G.cnj_in (up0 hx) hg) (fun j hj => ?_) ht
    have e : gm O P C g (cnj (gS O) (gm O P C) (zv O) x g) = gm O P C x g := G.cnj_spec (up0 hx) hg
    rw [e]
    exact tt_upto s F hC ht hx hg j hj
theorem filled {N : List Int → Prop} (hN : gN O P C N) (h : ∀ x, N x → gNC O P C (cs O P C N) x) : ∀ x, N x → x = zv O := by
  have : ∀ t, t ≤ O.length → ∀ x, N x → TT O t x := by
    intro t
    induction t with
    | zero => intro _ x hx; exact hN.inS hx
    | succ t ih =>
      intro ht x hx
      refine NC.le (tt_nsub s F hC ht) ?_ (h x hx)
      rintro _ ⟨y, i, hy, hi, rfl⟩
      exact com_deep s F hC (by omega) (ih (by omega) y hy) (s.unit hi (Nat.zero_le _))
  exact fun x hx => (this O.length (Nat.le_refl _) x hx).ext (s.zv _) fun j h1 h2 => by omega
end
end Go.Grp
namespace Go.Grp
open Go.Ab Go.Lie
variable {O : List Int} {P : List (List Int)} {C : List (List (List Int))} {x y z a b c g : List Int} {u v L : List (List Int)} {t i k : Nat}
abbrev memL (u : List (List Int)) : List Int → Prop := fun x => x ∈ u
def okL (O : List Int) (u : List (List Int)) : Prop := ∀ x ∈ u, gS O x ∧ x ≠ zv O
def unitsG (O : List Int) : List (List Int) := (List.range O.length).map (unit O)
noncomputable def comL (O : List Int) (P : List (List Int)) (C : List (List (List Int))) (L : List (List Int)) : List (List Int) :=
  L.flatMap fun x => ((List.range O.length).map fun i => gcom O P C x (unit O i)).filter fun c => decide (c ≠ zv O)
theorem mem_comL : c ∈ comL O P C L ↔ cs O P C (memL L) c ∧ c ≠ zv O := by
  simp only [comL, List.mem_flatMap, List.mem_filter, List.mem_map, List.mem_range, decide_eq_true_eq, cs]
  constructor
  · rintro ⟨x, hx, ⟨i, hi, rfl⟩, hc⟩; exact ⟨⟨x, i, hx, hi, rfl⟩, hc⟩
  · rintro ⟨⟨x, i, hx, hi, rfl⟩, hc⟩; exact ⟨x, hx, ⟨i, hi, rfl⟩, hc⟩
noncomputable def Lc (O : List Int) (P : List (List Int)) (C : List (List (List Int))) : Nat → List (List Int)
  | 0 => unitsG O
  | k + 1 => comL O P C (Lc O P C k)
structure SStep (O : List Int) (P : List (List Int)) (C : List (List (List Int))) (u v : List (List Int)) : Prop where
  ok : okL O v
  nc : ∀ x, gNC O P C (memL v) x ↔ gNC O P C (cs O P C (memL u)) x
structure SRel (O : List Int) (P : List (List Int)) (C : List (List (List Int))) (u L : List (List Int)) : Prop where
  ou : okL O u
  oL : okL O L
  nc : ∀ x, gNC O P C (memL u) x ↔ gNC O P C (memL L) x
section
variable (s : Shp O P C) (F : Full O P C O.length)
include s F
theorem unitsG_ok : okL O (unitsG O) := by
  intro x hx
  simp only [unitsG, List.mem_map, List.mem_range] at hx
  obtain ⟨i, hi, rfl⟩ := hx
  refine ⟨s.unit hi (Nat.zero_le _), fun h => ?_⟩
  have := congrArg (fun v => at_ v i) h
  simp only [at_rep] at this
  rw [at_set (by simp; exact hi), if_pos rfl] at this
  omega
theorem comL_ok (h : okL O L) : okL O (comL O P C L) := fun c hc => by
  obtain ⟨h1, h2⟩ := mem_comL.1 hc
  exact ⟨cs_in s F (fun x hx => (h x hx).1) c h1, h2⟩
theorem SRel.start : SRel O P C (unitsG O) (unitsG O) := ⟨unitsG_ok s F, unitsG_ok s F, fun _ => Iff.rfl⟩
theorem SRel.step (r : SRel O P C u L) (h : SStep O P C u v) : SRel O P C v (comL O P C L) := by
  refine ⟨h.ok, comL_ok s F r.oL, fun x => ?_⟩
  rw [h.nc x, cs_eq s F (fun x hx => (r.ou x hx).1) (fun x hx => (r.oL x hx).1) r.nc x]
  have hcs := cs_in s F (A := memL L) fun x hx => (r.oL x hx).1
  constructor
  · intro hx
    refine NC.le (NC.sub F.g fun l hl => (comL_ok s F r.oL l hl).1) (fun l hl => ?_) hx
    by_cases hl0 : l = zv O
    · rw [hl0]; exact (NC.sub F.g fun l hl => (comL_ok s F r.oL l hl).1).one
    · exact NC.mem (mem_comL.2 ⟨hl, hl0⟩)
  · intro hx
    exact NC.le (NC.sub F.g hcs) (fun l hl => NC.mem (mem_comL.1 hl).1) hx
theorem triv : gN O P C (fun x => x = zv O) := by
  have G := F.g
  refine ⟨fun h => by rw [h]; exact G.one, rfl, fun h1 h2 => by rw [h1, h2]; exact G.l1 G.one, fun h => ?_, fun h hg => by rw [h]; exact G.cnj_one hg⟩
  rw [h]; exact (G.inv_eq G.one G.one (G.l1 G.one)).symm
theorem okL.nil (h : okL O u) (h0 : ∀ x, gNC O P C (memL u) x → x = zv O) : u = [] := by
  cases u with
  | nil => rfl
  | cons x u => exact absurd (h0 x (NC.mem (by simp))) (h x (by simp)).2
theorem SRel.nil (r : SRel O P C u L) : u = [] ↔ L = [] := by
  constructor
  · rintro rfl
    exact okL.nil s F r.oL fun x hx => NC.le (triv s F) (fun l hl => by cases hl) ((r.nc x).2 hx)
  · rintro rfl
    exact okL.nil s F r.ou fun x hx => NC.le (triv s F) (fun l hl => by cases hl) ((r.nc x).1 hx)
theorem SRel.stop (hC : Cent O C) (r : SRel O P C u L) (h : SStep O P C u u) : u = [] := by
  have hu : ∀ x, memL u x → gS O x := fun x hx => (r.ou x hx).1
  have hN : gN O P C (gNC O P C (memL u)) := NC.sub F.g hu
  refine okL.nil s F r.ou (filled s F hC hN fun x hx => ?_)
  refine NC.le (NC.sub F.g (cs_in s F fun y hy => hN.inS hy)) ?_ ((h.nc x).1 hx)
  rintro _ ⟨y, i, hy, hi, rfl⟩
  exact NC.mem ⟨y, i, NC.mem hy, hi, rfl⟩
theorem Lc_ok : ∀ k, okL O (Lc O P C k)
  | 0 => unitsG_ok s F
  | k + 1 => comL_ok s F (Lc_ok k)
theorem Lc_deep (hC : Cent O C) : ∀ k, k ≤ O.length → ∀ x ∈ Lc O P C k, TT O k x
  | 0, _, x, hx => (Lc_ok s F 0 x hx).1
  | k + 1, hk, x, hx => by
    obtain ⟨⟨y, i, hy, hi, rfl⟩, _⟩ := mem_comL.1 hx
    exact com_deep s F hC hk (Lc_deep hC k (by omega) y hy) (s.unit hi (Nat.zero_le _))
theorem Lc_lt (hC : Cent O C) (hk : Lc O P C k ≠ []) (hk' : k ≤ O.length) : k < O.length := by
  rcases Nat.lt_or_ge k O.length with h | h
  · exact h
  · exfalso
    obtain ⟨x, hx⟩ := List.exists_mem_of_ne_nil _ hk
    exact (Lc_ok s F k x hx).2 ((Lc_deep s F hC k hk' x hx).ext (s.zv _) fun j h1 h2 => by omega)
theorem Lc_nil (h : Lc O P C k = []) : ∀ j, k ≤ j → Lc O P C j = [] := by
  intro j hj
  induction j with
  | zero => have : k = 0 := by omega
            subst this; exact h
  | succ j ih =>
    by_cases e : k = j + 1
    · subst e; exact h
    · show comL O P C (Lc O P C j) = []
      rw [ih (by omega)]; rfl
end
end Go.Grp
namespace Go.Grp
end Go.Grp
namespace Go.Proofs
open Go.Ab Go.Lie Go.Grp
variable {σ : PHeap} {K : PV → PHeap → Prop} {O : List Int} {P : List (List Int)} {C : List (List (List Int))} {vO vP vC vx vf va vb : PV} {x y f a b : List Int} {rP rC : List PV} {d j sp : Nat}
theorem set_at2 {i : Nat} (xl : i < x.length) : (x.set i 0).set i (at_ x i) = x := set_at xl
theorem inv_from (s : Shp O P C) {d i : Nat} (hi : O.length = (d + 1) + i) (F : Full O P C d) (F1 : Full O P C (d + 1)) {y1 y2 : List Int} (hx : TT O i x) (h1 : TT O (i + 1) y1) (h2 : TT O (i + 1) y2) (e1 : mu O P C d (x.set i 0) y1 = zv O) (e2 : mu O P C d (pvec P i) y2 = zv O) :
    (at_ x i = 0 → mu O P C (d + 1) x y1 = zv O) ∧ (at_ x i ≠ 0 → mu O P C (d + 1) x (mu O P C (d + 1) (mu O P C (d + 1) y1 ((zv O).set i (at_ O i - at_ x i))) y2) = zv O) := by
  have hil : i < O.length := by omega
  have hn : O.length - d = i + 1 := by omega
  have hn1 : O.length - (d + 1) = i := by omega
  have hpos := s.pos hil
  have bx := hx.bd i hil
  have xl : i < x.length := by rw [hx.len]; exact hil
  have M := F.gp.toMon
  have G1 := F1.gp
  rw [hn1] at G1
  have hr : TT O (O.length - d) (x.set i 0) := by rw [hn]; exact hx.set0 hil hpos
  have h1' : TT O (O.length - d) y1 := by rw [hn]; exact h1
  have h2' : TT O (O.length - d) y2 := by rw [hn]; exact h2
  have hz : TT O (O.length - d) (zv O) := s.zv _
  have hw : TT O (O.length - d) (pvec P i) := by rw [hn]; exact s.pw i hil
  have sub : ∀ {u v : List Int}, TT O (O.length - d) u → TT O (O.length - d) v → mu O P C (d + 1) u v = mu O P C d u v := fun hu hv => mu_sub1 s (by omega) hu hv
  constructor
  · intro h0
    rw [set_set0 h0 xl] at e1 hr
    rw [sub hr h1']; exact e1
  · intro h0
    have z0 : (zv O).set i 0 = zv O := set_set0 (at_rep _ i) (by simp; exact hil)
    have ia : ∀ k, iter (al O P C d i) k (zv O) = zv O := fun k => it_fix (al_zv s F.toBeh hn) k
    have hg : TT O i ((zv O).set i (at_ x i)) := (s.zv i).set hil (Nat.le_refl _) bx
    have ht : TT O i ((zv O).set i (at_ O i - at_ x i)) := (s.zv i).set hil (Nat.le_refl _) ⟨by omega, by omega⟩
    have hrl : i < (x.set i 0).length := by rw [List.length_set]; exact xl
    have r0 : (x.set i 0).set i 0 = x.set i 0 := by rw [List.set_set]
    have up : ∀ {u : List Int}, TT O (O.length - d) u → TT O i u := fun h => h.mono (by omega)
    have ex : mu O P C (d + 1) ((zv O).set i (at_ x i)) (x.set i 0) = x := by
      have := mu_pair s F.toBeh hn (a := at_ x i) (b := 0) hz hr
      rw [r0, if_neg (by omega), ia, M.l1 hr, Int.add_zero, set_at2 xl] at this
      exact this
    have et : mu O P C (d + 1) ((zv O).set i (at_ x i)) ((zv O).set i (at_ O i - at_ x i)) = pvec P i := by
      have := mu_pair s F.toBeh hn (a := at_ x i) (b := at_ O i - at_ x i) hz hz
      rw [if_pos (by omega), ia, M.l1 hz, M.r1 hw, show at_ x i + (at_ O i - at_ x i) - at_ O i = 0 by omega, set_set0 (hw.zero i (by omega)) (by rw [hw.len]; exact hil)] at this
      exact this
    have key : ∀ Y, mu O P C (d + 1) x Y = mu O P C (d + 1) (mu O P C (d + 1) ((zv O).set i (at_ x i)) (x.set i 0)) Y := fun Y => by rw [ex]
    rw [key]
    have k1 := up h1'
    have k2 := up h2'
    have kr := up hr
    rw [G1.as hg kr (G1.cl (G1.cl k1 ht) k2), ← G1.as kr (G1.cl k1 ht) k2, ← G1.as kr k1 ht, sub hr h1', e1, G1.l1 ht, ← G1.as hg ht k2, et, sub hw h2', e2]
end Go.Proofs
namespace Go.Grp
end Go.Grp
namespace Go.Proofs
open Go.Ab Go.Lie Go.Grp
variable {σ : PHeap} {K : PV → PHeap → Prop} {O : List Int} {P : List (List Int)} {C : List (List (List Int))} {vO vP vC vx vf va vb : PV} {x y f a b : List Int} {rP rC : List PV} {d j sp : Nat}
def FromOK (O : List Int) (P : List (List Int)) (C : List (List (List Int))) (d i : Nat) : Prop :=
  ∀ (σ : PHeap) (K : PV → PHeap → Prop) (x : List Int) (vx vO vP vC : PV), IsPr vO vP vC O P C → TT O i x → FI vx x → (∀ v y, FI v y → TT O i y → mu O P C d x y = zv O → K v σ) → PCalls Tryz.prog 187 [.agg [vO, vP, vC], .int .i64 i, vx] σ K
theorem l10From_ok (s : Shp O P C) (hc : Cons O P C) : ∀ {d i : Nat}, O.length = d + i → FromOK O P C d i
  | 0, i, hi => by
    intro σ K x vx vO vP vC hR hx hvx hk
    have hn6 := s.le
    obtain ⟨⟨w0, a0, rfl⟩, ⟨w1, a1, rP, rfl, hP⟩, ⟨w3, a3, rC, rfl, hC⟩⟩ := hR
    refine PCalls.gh ?_
    have hge : (O.length : Int) ≤ (i : Int) := by omega
    refine pcalls_of_vp mix Tryz.func187 cf187 rfl ?_
    dsimp only [if187, qI, eI, nI, qD, eD]
    simp only [pwA, if_true, if_false, eq_self, nm_eq, reduceCtorEq, ↓reduceIte, nQ10, nQ7, nQ11, nQ12, nQ16, nQ17, nQ18, iQ2, iQ3, iQ4, iQ5, iQ6, lQ19, iQ7, lQ20, hge, List.length_replicate, pis_rep, mk8 (n := O.length) (by omega), mkL (n := O.length) (by omega)]
    exact Gh.finF (s := σ.next + 1) ((keep_new σ _).new _) (by simp only [pwA, if_true, if_false, eq_self, nm_eq, reduceCtorEq, ↓reduceIte, nQ10, nQ7, nQ11, nQ12, nQ16, nQ17, nQ18, iQ2, iQ3, iQ4, iQ5, iQ6, lQ19, iQ7, lQ20]) (by omega) (pis_bel _ _) (by simp [capOK]) fun o1 => hk _ (zv O) (FI.mk (by simp)) (s.zv _) rfl
  | d + 1, i, hi => by
    intro σ K x vx vO vP vC hR hx hvx hk
    have hFr : FromOK O P C d (i + 1) := l10From_ok s hc (by omega)
    have F : Full O P C d := full_of s (by omega) fun j h1 h2 => hc j h2
    have F1 : Full O P C (d + 1) := full_of s (by omega) fun j h1 h2 => hc j h2
    have hAt : AtOK O P C (d + 1) i := l08At_ok s (by omega)
    have hn6 := s.le
    have hR0 := hR
    have hil : i < O.length := by omega
    have hO := s.pr i hil
    have hpos := s.pos hil
    have hxl := hx.len
    have bx := hx.bd i hil
    have hn1 : O.length - (d + 1) = i := by omega
    have G1 := F1.gp
    rw [hn1] at G1
    obtain ⟨⟨w0, a0, rfl⟩, ⟨w1, a1, rP, rfl, hP⟩, ⟨w3, a3, rC, rfl, hC⟩⟩ := hR
    obtain ⟨w5, a5, hpr⟩ := pvRow s hP hil
    have hiP : i < P.length := by rw [s.pl]; exact hil
    have hpv := s.pw i hil
    obtain ⟨wx, ax, rfl⟩ := hvx
    have hilx : i < x.length := by omega
    have hge : ¬ (O.length : Int) ≤ (i : Int) := by omega
    have sx := hx.set0 hil hpos
    have wi1 : IntKind.i64.wrap ((i : Int) + 1) = ((i + 1 : Nat) : Int) := wrapS hil (by omega)
    have hilx1 : i + 1 ≤ x.length := hilx
    refine PCalls.gh ?_
    refine pcalls_of_vp mix Tryz.func187 cf187 rfl ?_
    dsimp only [if187, qI, eI, nI, qD, eD]
    simp only [pwA, if_true, if_false, eq_self, nm_eq, reduceCtorEq, ↓reduceIte, nQ10, nQ7, nQ11, nQ12, nQ16, nQ17, nQ18, iQ2, iQ3, iQ4, iQ5, iQ6, lQ19, iQ7, lQ20, hge]
    refine l01Own_ok rfl (by omega) fun cap1 hc1 => ?_
    simp only [pwA, if_true, if_false, eq_self, nm_eq, reduceCtorEq, ↓reduceIte, nQ10, nQ7, nQ11, nQ12, nQ16, nQ17, nQ18, iQ2, iQ3, iQ4, iQ5, iQ6, lQ19, iQ7, lQ20, hilx, hilx1, pis_length, pis_set_at hilx, wi1]
    refine PCalls.frz (s := σ.next + 1) (cs := pis (x.set i 0)) (by simp only [pwA, if_true, if_false, eq_self, nm_eq, reduceCtorEq, ↓reduceIte, nQ10, nQ7, nQ11, nQ12, nQ16, nQ17, nQ18, iQ2, iQ3, iQ4, iQ5, iQ6, lQ19, iQ7, lQ20]) (pis_bel _ _) fun o1 => ?_
    have hcok := hc1.ok
    simp only [sbs, sb, hcok, and_self, if_true, hR0.O.sb, hR0.P.sb, hR0.C.sb]
    refine hFr _ _ (x.set i 0) _ _ _ _ hR0 sx (FI.mk (by simp)) fun v1 y1 hv1 hy1 e1 => ?_
    have hkp : Keep σ (((σ.new [.fz w0 a0 O.length (pis O), .fz w1 a1 P.length rP, .fz w3 a3 C.length rC]).new (pis (x.set i 0))).kill (σ.next + 1)) := ((keep_new σ _).new _).kill (by omega)
    simp only [pwA, if_true, if_false, eq_self, nm_eq, reduceCtorEq, ↓reduceIte, nQ10, nQ7, nQ11, nQ12, nQ16, nQ17, nQ18, iQ2, iQ3, iQ4, iQ5, iQ6, lQ19, iQ7, lQ20, hilx, pisAt hilx]
    refine iteI (fun h0 => ?_) fun h0 => ?_
    · have hr := hFr
      -- the inverse of the power is not asked for; any will do
      obtain ⟨y2, h2a, h2b, _⟩ := F.gp.inv (a := pvec P i) (by rw [show O.length - d = i + 1 by omega]; exact hpv)
      rw [show O.length - d = i + 1 by omega] at h2a
      have := (inv_from s (by omega) F F1 hx hy1 h2a e1 h2b).1 h0
      exact Gh.fin0 hkp (hv1.bel _) (hk v1 y1 hv1 (hy1.mono (by omega)) this)
    have hol : i < (zv O).length := by simp; exact hil
    have hol1 : i + 1 ≤ O.length := hil
    have hsub : IntKind.i64.wrap (at_ O i - at_ x i) = at_ O i - at_ x i := wrap64 (by omega) (by omega)
    have hset := pis_set_at hol (x := at_ O i - at_ x i)
    have ht : TT O i ((zv O).set i (at_ O i - at_ x i)) := (s.zv i).set hil (Nat.le_refl _) ⟨by omega, by omega⟩
    simp only [pwA, if_true, if_false, eq_self, nm_eq, reduceCtorEq, ↓reduceIte, nQ10, nQ7, nQ11, nQ12, nQ16, nQ17, nQ18, iQ2, iQ3, iQ4, iQ5, iQ6, lQ19, iQ7, lQ20, List.length_replicate, pis_rep, mk8 (n := O.length) (by omega), mkL (n := O.length) (by omega), hilx, pisAt hilx, hil, hol1, pisAt hil, hsub, pis_length, hset, wi1, hiP, hpr]
    refine PCalls.frz (s := σ.next + 2) (cs := pis ((zv O).set i (at_ O i - at_ x i))) (by simp only [pwA, if_true, if_false, eq_self, nm_eq, reduceCtorEq, ↓reduceIte, nQ10, nQ7, nQ11, nQ12, nQ16, nQ17, nQ18, iQ2, iQ3, iQ4, iQ5, iQ6, lQ19, iQ7, lQ20]) (pis_bel _ _) fun o2 => ?_
    simp only [sbs, sb, capOK, Nat.le_refl, decide_true, and_self, if_true, hR0.O.sb, hR0.P.sb, hR0.C.sb, hv1.sb]
    have hy1' : TT O i y1 := hy1.mono (by omega)
    refine hAt hR0 hy1' ht hv1 (FI.mk (by simp)) fun v3 hv3 => ?_
    simp only [pwA, if_true, if_false, eq_self, nm_eq, reduceCtorEq, ↓reduceIte, nQ10, nQ7, nQ11, nQ12, nQ16, nQ17, nQ18, iQ2, iQ3, iQ4, iQ5, iQ6, lQ19, iQ7, lQ20, wi1, hiP, hpr]
    refine hFr _ _ (pvec P i) _ _ _ _ hR0 hpv (FI.mk hpv.len) fun v2 y2 hv2 hy2 e2 => ?_
    have hy2' : TT O i y2 := hy2.mono (by omega)
    have h12 := G1.cl hy1' ht
    simp only [pwA, if_true, if_false, eq_self, nm_eq, reduceCtorEq, ↓reduceIte, nQ10, nQ7, nQ11, nQ12, nQ16, nQ17, nQ18, iQ2, iQ3, iQ4, iQ5, iQ6, lQ19, iQ7, lQ20, wi1, hiP, hpr]
    refine hAt hR0 h12 hy2' hv3 hv2 fun v4 hv4 => ?_
    simp only [pwA, if_true, if_false, eq_self, nm_eq, reduceCtorEq, ↓reduceIte, nQ10, nQ7, nQ11, nQ12, nQ16, nQ17, nQ18, iQ2, iQ3, iQ4, iQ5, iQ6, lQ19, iQ7, lQ20]
    have := (inv_from s (by omega) F F1 hx hy1 hy2 e1 e2).2 h0
    exact Gh.fin0 (((((keep_new σ _).new _).kill (by omega)).new _).kill (by omega)) (hv4.bel _) (hk v4 _ hv4 (G1.cl h12 hy2') this)
theorem l10Inv_ok (s : Shp O P C) (hc : Cons O P C) (hR : IsPr vO vP vC O P C) (hx : gS O x) (hvx : FI vx x) (hk : ∀ v, FI v (ginv (gS O) (gm O P C) (zv O) x) → K v σ) : PCalls Tryz.prog 142 [.agg [vO, vP, vC], vx] σ K := by
  have h0 := hR.O.one
  have h1 := hR.P.one
  have h2 := hR.C.one
  have G := (full_of s (Nat.le_refl _) fun j _ h => hc j h).g
  refine PCalls.gh ?_
  refine pcalls_of_vp mix Tryz.func142 cf142 rfl ?_
  dsimp only [if142, qI, eI, nI, qD, eD]
  simp only [pwA, if_true, if_false, eq_self, nm_eq, reduceCtorEq, ↓reduceIte, nQ10, nQ7, nQ11, nQ12, nQ16, nQ17, nQ18, iQ2, iQ3, iQ4, iQ5, iQ6, lQ19, iQ7, lQ20, h0, h1, h2]
  refine l10From_ok s hc (d := O.length) (i := 0) (by omega) _ _ x _ _ _ _ hR hx hvx fun v y hv hy e => ?_
  simp only [pwA, if_true, if_false, eq_self, nm_eq, reduceCtorEq, ↓reduceIte, nQ10, nQ7, nQ11, nQ12, nQ16, nQ17, nQ18, iQ2, iQ3, iQ4, iQ5, iQ6, lQ19, iQ7, lQ20]
  have := G.inv_eq hx hy e
  rw [← this] at hk
  exact Gh.fin0 (keep_new σ _) (hv.bel _) (hk v hv)
end Go.Proofs
namespace Go.Grp
end Go.Grp
namespace Go.Proofs
open Go.Ab Go.Lie Go.Grp
variable {σ : PHeap} {K : PV → PHeap → Prop} {O : List Int} {P : List (List Int)} {C : List (List (List Int))} {vO vP vC vx vy vf va vb : PV} {x y f a b : List Int} {rP rC : List PV} {d j sp : Nat}
theorem l08Mul_ok (s : Shp O P C) (hR : IsPr vO vP vC O P C) (ha : gS O a) (hb : gS O b) (hva : FI va a) (hvb : FI vb b) (hk : ∀ v, FI v (gm O P C a b) → K v σ) : PCalls Tryz.prog 156 [.agg [vO, vP, vC], va, vb] σ K := by
  have h0 := hR.O.one
  have h1 := hR.P.one
  have h2 := hR.C.one
  refine PCalls.gh ?_
  refine pcalls_of_vp mix Tryz.func156 cf156 rfl ?_
  dsimp only [if156, qI, eI, nI, qD, eD]
  simp only [pwA, if_true, if_false, eq_self, nm_eq, reduceCtorEq, ↓reduceIte, nQ10, nQ7, nQ11, nQ12, nQ16, nQ17, nQ18, iQ2, iQ3, iQ4, iQ5, iQ6, lQ19, iQ7, lQ20, h0, h1, h2]
  refine l08At_ok s (d := O.length) (i := 0) (by omega) hR ha hb hva hvb fun v hv => ?_
  simp only [pwA, if_true, if_false, eq_self, nm_eq, reduceCtorEq, ↓reduceIte, nQ10, nQ7, nQ11, nQ12, nQ16, nQ17, nQ18, iQ2, iQ3, iQ4, iQ5, iQ6, lQ19, iQ7, lQ20]
  exact Gh.fin0 (keep_new σ _) (hv.bel _) (hk v hv)
theorem l10Comm_ok (s : Shp O P C) (hc : Cons O P C) (hR : IsPr vO vP vC O P C) (hx : gS O x) (hy : gS O y) (hvx : FI vx x) (hvy : FI vy y) (hk : ∀ v, FI v (gcom O P C x y) → K v σ) : PCalls Tryz.prog 103 [.agg [vO, vP, vC], vx, vy] σ K := by
  have h0 := hR.O.one
  have h1 := hR.P.one
  have h2 := hR.C.one
  have G := (full_of s (Nat.le_refl _) fun j _ h => hc j h).g
  have hyx := G.cl hy hx
  have hxy := G.cl hx hy
  have hi := (G.inv_in hyx).1
  refine PCalls.gh ?_
  refine pcalls_of_vp mix Tryz.func103 cf103 rfl ?_
  dsimp only [if103, qI, eI, nI, qD, eD]
  simp only [pwA, if_true, if_false, eq_self, nm_eq, reduceCtorEq, ↓reduceIte, nQ10, nQ7, nQ11, nQ12, nQ16, nQ17, nQ18, iQ2, iQ3, iQ4, iQ5, iQ6, lQ19, iQ7, lQ20, h0, h1, h2]
  refine l08Mul_ok s hR hy hx hvy hvx fun v1 f1 => ?_
  simp only [pwA, if_true, if_false, eq_self, nm_eq, reduceCtorEq, ↓reduceIte, nQ10, nQ7, nQ11, nQ12, nQ16, nQ17, nQ18, iQ2, iQ3, iQ4, iQ5, iQ6, lQ19, iQ7, lQ20, h0, h1, h2]
  refine l10Inv_ok s hc hR hyx f1 fun v2 f2 => ?_
  simp only [pwA, if_true, if_false, eq_self, nm_eq, reduceCtorEq, ↓reduceIte, nQ10, nQ7, nQ11, nQ12, nQ16, nQ17, nQ18, iQ2, iQ3, iQ4, iQ5, iQ6, lQ19, iQ7, lQ20, h0, h1, h2]
  refine l08Mul_ok s hR hx hy hvx hvy fun v3 f3 => ?_
  simp only [pwA, if_true, if_false, eq_self, nm_eq, reduceCtorEq, ↓reduceIte, nQ10, nQ7, nQ11, nQ12, nQ16, nQ17, nQ18, iQ2, iQ3, iQ4, iQ5, iQ6, lQ19, iQ7, lQ20, h0, h1, h2]
  refine l08Mul_ok s hR hi hxy f2 f3 fun v4 f4 => ?_
  simp only [pwA, if_true, if_false, eq_self, nm_eq, reduceCtorEq, ↓reduceIte, nQ10, nQ7, nQ11, nQ12, nQ16, nQ17, nQ18, iQ2, iQ3, iQ4, iQ5, iQ6, lQ19, iQ7, lQ20]
  have e : gm O P C (ginv (gS O) (gm O P C) (zv O) (gm O P C y x)) (gm O P C x y) = gcom O P C x y :=
    G.com_eq hx hy (G.cl hi hxy) (by rw [← G.as hyx hi hxy, G.inv_r hyx, G.l1 hxy])
  rw [e] at f4
  exact Gh.fin0 (keep_new σ _) (f4.bel _) (hk v4 f4)
end Go.Proofs
namespace Go.Grp
end Go.Grp
namespace Go.Proofs
open Go.Ab Go.Lie Go.Grp
variable {σ : PHeap} {K : PV → PHeap → Prop} {O : List Int} {P : List (List Int)} {C : List (List (List Int))} {vO vP vC vx vy vL : PV} {x y f a b : List Int} {L : List (List Int)} {rP rC : List PV} {d j sp : Nat}
theorem isZ_zv (hx : x.length = O.length) : isZ x ↔ x = zv O := by
  constructor
  · intro h
    refine ext_at (by simp [hx]) fun j hj => ?_
    rw [at_eq hj, at_rep]; exact h _ (List.getElem_mem hj)
  · rintro rfl y hy
    exact List.eq_of_mem_replicate hy
noncomputable def comR (O : List Int) (P : List (List Int)) (C : List (List (List Int))) (x : List Int) (i : Nat) : List (List Int) := ((List.range i).map fun i => gcom O P C x (Grp.unit O i)).filter fun c => decide (c ≠ zv O)
theorem comR_succ (x : List Int) (i : Nat) : comR O P C x (i + 1) = comR O P C x i ++ (if gcom O P C x (Grp.unit O i) = zv O then [] else [gcom O P C x (Grp.unit O i)]) := by
  unfold comR
  rw [List.range_succ, List.map_append, List.filter_append, List.map_cons, List.map_nil]
  congr 1
  by_cases h : gcom O P C x (Grp.unit O i) = zv O
  · rw [if_pos h, List.filter_cons_of_neg (by simp [h]), List.filter_nil]
  · rw [if_neg h, List.filter_cons_of_pos (by simp [h]), List.filter_nil]
theorem comR_len (x : List Int) (i : Nat) : (comR O P C x i).length ≤ i := by
  unfold comR
  exact Nat.le_trans (List.length_filter_le _ _) (by simp)
theorem comL_take {k : Nat} (hk : k < L.length) : comL O P C (L.take (k + 1)) = comL O P C (L.take k) ++ comR O P C L[k] O.length := by
  unfold comL
  rw [List.take_succ_eq_append_getElem hk, List.flatMap_append]
  simp [comR]
theorem comL_len (s : Shp O P C) : ∀ (L : List (List Int)), (comL O P C L).length ≤ 6 * L.length
  | [] => by simp [comL]
  | x :: L => by
    have h1 := comL_len s L
    have h2 := comR_len (O := O) (P := P) (C := C) x O.length
    have h3 : comL O P C (x :: L) = comR O P C x O.length ++ comL O P C L := by simp [comL, comR]
    have h4 := s.le
    rw [h3, List.length_append, List.length_cons]
    omega
theorem l34Comms_ok (s : Shp O P C) (hc : Cons O P C) (hR : IsPr vO vP vC O P C) (hL : FII vL L) (hg : ∀ x ∈ L, gS O x) (hb : L.length ≤ 600000) (hk : ∀ v, FII v (comL O P C L) → K v σ) : PCalls Tryz.prog 186 [.agg [vO, vP, vC], vL] σ K := by
  have hn6 := s.le
  have hR0 := hR
  have G := (full_of s (Nat.le_refl _) fun j _ h => hc j h).g
  obtain ⟨⟨w0, a0, rfl⟩, ⟨w1, a1, rP, rfl, hP⟩, ⟨w3, a3, rC, rfl, hC⟩⟩ := hR
  obtain ⟨wl, al, rl, rfl, hrl⟩ := hL
  refine PCalls.gh ?_
  have hkp0 : Keep σ (σ.new [.fz w0 a0 O.length (pis O), .fz w1 a1 P.length rP, .fz w3 a3 C.length rC]) := keep_new σ _
  have hobjK : ∀ {h' : PHeap}, Keep (σ.new [.fz w0 a0 O.length (pis O), .fz w1 a1 P.length rP, .fz w3 a3 C.length rC]) h' → h'.rd σ.next 0 3 = some [.fz w0 a0 O.length (pis O), .fz w1 a1 P.length rP, .fz w3 a3 C.length rC] := fun {h'} hk' => by
    have : h'.obj σ.next = some [.fz w0 a0 O.length (pis O), .fz w1 a1 P.length rP, .fz w3 a3 C.length rC] := by rw [hk'.obj _ (by simp [PHeap.new])]; simp [PHeap.new]
    simp [PHeap.rd, this]
  refine pcalls_of_vp mix Tryz.func186 cf186 rfl ?_
  dsimp only [if186, qI, eI, nI, qD, eD]
  simp only [pwA, if_true, if_false, eq_self, nm_eq, reduceCtorEq, ↓reduceIte, nQ10, nQ7, nQ11, nQ12, nQ16, nQ17, nQ18, iQ2, iQ3, iQ4, iQ5, iQ6, lQ19, iQ7, lQ20]
  refine vp_loop (fun m vs h' => ∃ k v rows, k ≤ L.length ∧ m = L.length - k ∧ vs = [.fz wl al L.length rl, .ptr σ.next 0, .int .i64 O.length, v, .int .i64 (k : Nat)] ∧ Keep (σ.new [.fz w0 a0 O.length (pis O), .fz w1 a1 P.length rP, .fz w3 a3 C.length rC]) h' ∧ PSl (σ.next + 1) 1 h' v (comL O P C (L.take k)).length rows ∧ All2 FI rows (comL O P C (L.take k))) L.length ?_ ?_
  · exact ⟨0, _, [], by omega, by omega, rfl, keep_new _ _, PSl.new (σ.next + 1) 1 rfl (Nat.le_refl _), by simpa [comL] using All2.nil _⟩
  rintro m vs h' ⟨k, v, rows, hkl, rfl, rfl, hkp, ha, hrows⟩
  simp only [pwA, if_true, if_false, eq_self, nm_eq, reduceCtorEq, ↓reduceIte, nQ10, nQ7, nQ11, nQ12, nQ16, nQ17, nQ18, iQ2, iQ3, iQ4, iQ5, iQ6, lQ19, iQ7, lQ20]
  refine iteI (fun hlt => ?_) fun hge => ?_
  rotate_left
  · have hke : k = L.length := by omega
    subst hke
    rw [List.take_length] at ha hrows
    exact (ha.acc.low (Nat.le_succ _)).fin (hkp0.trans hkp) (hrows.bI 0) fun a => hk _ ⟨true, a, rows, rfl, hrows⟩
  have hlk : k < L.length := by omega
  obtain ⟨w4, a4, hr⟩ := hrl.rowI hlk
  have gx := hg _ (List.getElem_mem hlk)
  simp only [pwA, if_true, if_false, eq_self, nm_eq, reduceCtorEq, ↓reduceIte, nQ10, nQ7, nQ11, nQ12, nQ16, nQ17, nQ18, iQ2, iQ3, iQ4, iQ5, iQ6, lQ19, iQ7, lQ20]
  refine vp_loop (fun m vs h2 => ∃ i v rows, i ≤ O.length ∧ m = O.length - i ∧ vs = [.fz wl al L.length rl, .ptr σ.next 0, .int .i64 O.length, v, .int .i64 (k : Nat), .int .i64 (i : Nat)] ∧ Keep (σ.new [.fz w0 a0 O.length (pis O), .fz w1 a1 P.length rP, .fz w3 a3 C.length rC]) h2 ∧ PSl (σ.next + 1) 1 h2 v (comL O P C (L.take k) ++ comR O P C L[k] i).length rows ∧ All2 FI rows (comL O P C (L.take k) ++ comR O P C L[k] i)) O.length ?_ ?_
  · exact ⟨0, v, rows, by omega, by omega, rfl, hkp, by simpa [comR] using ha, by simpa [comR] using hrows⟩
  clear ha hrows hkp v rows
  rintro m vs h2 ⟨i, v, rows, hi, rfl, rfl, hkp, ha, hrows⟩
  have e3 := hobjK hkp
  simp only [pwA, if_true, if_false, eq_self, nm_eq, reduceCtorEq, ↓reduceIte, nQ10, nQ7, nQ11, nQ12, nQ16, nQ17, nQ18, iQ2, iQ3, iQ4, iQ5, iQ6, lQ19, iQ7, lQ20]
  refine iteI (fun hlti => ?_) fun hgei => ?_
  rotate_left
  · have hie : i = O.length := by omega
    subst hie
    rw [← comL_take hlk] at ha hrows
    simp only [pwA, if_true, if_false, eq_self, nm_eq, reduceCtorEq, ↓reduceIte, nQ10, nQ7, nQ11, nQ12, nQ16, nQ17, nQ18, iQ2, iQ3, iQ4, iQ5, iQ6, lQ19, iQ7, lQ20, wrapS hlk (by omega : L.length ≤ 4611686018427387904)]
    exact ⟨_, by omega, k + 1, v, rows, by omega, rfl, rfl, hkp, ha, hrows⟩
  have hlti' : i < O.length := by omega
  have hl1 := comL_len s (L.take k)
  have hl2 := comR_len (O := O) (P := P) (C := C) L[k] i
  have hl3 : (L.take k).length ≤ L.length := by rw [List.length_take]; omega
  simp only [pwA, if_true, if_false, eq_self, nm_eq, reduceCtorEq, ↓reduceIte, nQ10, nQ7, nQ11, nQ12, nQ16, nQ17, nQ18, iQ2, iQ3, iQ4, iQ5, iQ6, lQ19, iQ7, lQ20, hlk, hr, e3]
  refine l07Unit_ok (by omega) hlti' fun vu fu => ?_
  simp only [pwA, if_true, if_false, eq_self, nm_eq, reduceCtorEq, ↓reduceIte, nQ10, nQ7, nQ11, nQ12, nQ16, nQ17, nQ18, iQ2, iQ3, iQ4, iQ5, iQ6, lQ19, iQ7, lQ20, hlk, hr, e3]
  refine l10Comm_ok s hc hR0 gx (s.unit (t := 0) hlti' (Nat.zero_le _)) ⟨w4, a4, rfl⟩ fu fun vc fc => ?_
  obtain ⟨wc, ac, rfl⟩ := fc
  have hcl := (G.com_in gx (s.unit (t := 0) hlti' (Nat.zero_le _))).len
  simp only [pwA, if_true, if_false, eq_self, nm_eq, reduceCtorEq, ↓reduceIte, nQ10, nQ7, nQ11, nQ12, nQ16, nQ17, nQ18, iQ2, iQ3, iQ4, iQ5, iQ6, lQ19, iQ7, lQ20]
  refine l01Zero_ok rfl (by rw [hcl]; omega) ?_
  have hz := isZ_zv hcl
  by_cases h0 : gcom O P C L[k] (Grp.unit O i) = zv O
  · have h0' := hz.2 h0
    simp only [pwA, if_true, if_false, eq_self, nm_eq, reduceCtorEq, ↓reduceIte, nQ10, nQ7, nQ11, nQ12, nQ16, nQ17, nQ18, iQ2, iQ3, iQ4, iQ5, iQ6, lQ19, iQ7, lQ20, h0', wrapS hlti' (by omega : O.length ≤ 4611686018427387904)]
    refine ⟨_, by omega, i + 1, v, rows, by omega, rfl, rfl, hkp, ?_, ?_⟩
    · rw [comR_succ, if_pos h0, List.append_nil]; exact ha
    · rw [comR_succ, if_pos h0, List.append_nil]; exact hrows
  · have h0' : ¬ isZ _ := fun h => h0 (hz.1 h)
    simp only [pwA, if_true, if_false, eq_self, nm_eq, reduceCtorEq, ↓reduceIte, nQ10, nQ7, nQ11, nQ12, nQ16, nQ17, nQ18, iQ2, iQ3, iQ4, iQ5, iQ6, lQ19, iQ7, lQ20, h0']
    refine PSl.push (bytes := 24) (σb := σ.new [.fz w0 a0 O.length (pis O), .fz w1 a1 P.length rP, .fz w3 a3 C.length rC]) hkp ha (by rw [List.length_append]; omega) (by rw [List.length_append]; omega) fun v' h3 k3 p3 => ?_
    simp only [pwA, if_true, if_false, eq_self, nm_eq, reduceCtorEq, ↓reduceIte, nQ10, nQ7, nQ11, nQ12, nQ16, nQ17, nQ18, iQ2, iQ3, iQ4, iQ5, iQ6, lQ19, iQ7, lQ20, wrapS hlti' (by omega : O.length ≤ 4611686018427387904)]
    refine ⟨_, by omega, i + 1, v', rows ++ [.fz wc ac (gcom O P C L[k] (Grp.unit O i)).length (pis (gcom O P C L[k] (Grp.unit O i)))], by omega, rfl, rfl, k3, ?_, ?_⟩
    rotate_left
    · rw [comR_succ, if_neg h0, ← List.append_assoc]
      exact hrows.snoc ⟨wc, ac, rfl⟩
    · rw [comR_succ, if_neg h0, ← List.append_assoc, List.length_append]
      exact p3
end Go.Proofs
namespace Go.Grp
open Go.Ab Go.Lie
variable {O : List Int} {P : List (List Int)} {C : List (List (List Int))} {x y z a b c g : List Int} {D : List (Option (List Int))} {t i k d : Nat} {N : List Int → Prop}
theorem tt_dep (hx : gS O x) : TT O (dep x) x := ⟨hx.len, hx.bd, fun j hj => dep_zero hj⟩
theorem dep_ge (hx : TT O t x) (ht : t ≤ O.length) : t ≤ dep x := by
  rcases Nat.lt_or_ge (dep x) t with h | h
  · have hl := hx.len
    exact absurd (hx.zero _ h) (dep_ne (by omega))
  · exact h
theorem dep_zv (hx : gS O x) (h : O.length ≤ dep x) : x = zv O := by
  refine ext_at (by rw [hx.len]; simp) fun j hj => ?_
  rw [at_rep]
  exact dep_zero (by have := hx.len; omega)
theorem zv_dep (s : Shp O P C) : dep (zv O) = O.length := by
  have h1 := dep_ge (t := O.length) (s.zv _) (Nat.le_refl _)
  have h2 := dep_le (zv O)
  rw [(s.zv 0).len] at h2
  omega
theorem dep_ne_zv (s : Shp O P C) (h : dep x < O.length) : x ≠ zv O := fun e => by
  rw [e, zv_dep s] at h; omega
theorem addm_mod {o a b : Int} (ha : 0 ≤ a ∧ a < o) (hb : 0 ≤ b ∧ b < o) : addm o a b = (a + b) % o := by
  unfold addm
  split
  · have : (a + b) % o = (a + b - o) % o := by rw [Int.sub_emod_right]
    rw [this, Int.emod_eq_of_lt (by omega) (by omega)]
  · rw [Int.emod_eq_of_lt (by omega) (by omega)]
section
variable (s : Shp O P C) (F : Full O P C O.length) (hC : Cent O C)
include s F hC
theorem pw_deep (ht : t < O.length) (hx : TT O t x) : ∀ k : Nat, TT O t (pw (gm O P C) (zv O) x k) ∧ at_ (pw (gm O P C) (zv O) x k) t = ((k : Int) * at_ x t) % at_ O t
  | 0 => ⟨s.zv _, by show at_ (zv O) t = _; rw [at_rep]; simp⟩
  | k + 1 => by
    obtain ⟨h1, h2⟩ := pw_deep ht hx k
    have hN := tt_nsub s F hC (Nat.le_of_lt ht)
    have hO := s.pr t ht
    obtain ⟨_, g2⟩ := mu_right s (d := O.length) (b := pw (gm O P C) (zv O) x k) (a := x) (t := t) (Nat.le_refl _) (by omega) ht (by rw [Nat.sub_self]; exact h1.mono (Nat.zero_le _)) hx
    refine ⟨hN.cl h1 hx, ?_⟩
    show at_ (mu O P C O.length (pw (gm O P C) (zv O) x k) x) t = _
    rw [g2, addm_mod (h1.bd t ht) (hx.bd t ht), h2, Int.emod_add_emod]
    congr 1
    grind
theorem sift_step (ht : t < O.length) (hx : TT O t x) (hb : TT O t b) (hb1 : at_ b t = 1) : TT O (t + 1) (gm O P C (pw (gm O P C) (zv O) b (at_ O t - at_ x t).toNat) x) := by
  obtain ⟨h1, h2⟩ := pw_deep s F hC ht hb (at_ O t - at_ x t).toNat
  have hN := tt_nsub s F hC (Nat.le_of_lt ht)
  have bx := hx.bd t ht
  obtain ⟨_, g2⟩ := mu_right s (d := O.length) (b := pw (gm O P C) (zv O) b (at_ O t - at_ x t).toNat) (a := x) (t := t) (Nat.le_refl _) (by omega) ht (by rw [Nat.sub_self]; exact h1.mono (Nat.zero_le _)) hx
  have h0 := hN.cl h1 hx
  have hz : at_ (gm O P C (pw (gm O P C) (zv O) b (at_ O t - at_ x t).toNat) x) t = 0 := by
    show at_ (mu O P C O.length _ _) t = 0
    rw [g2, addm_mod (h1.bd t ht) bx, h2, hb1, Int.mul_one, Int.emod_add_emod, Int.toNat_of_nonneg (by omega), show at_ O t - at_ x t + at_ x t = at_ O t by omega, Int.emod_self]
  refine ⟨h0.len, h0.bd, fun j hj => ?_⟩
  rcases Nat.lt_or_ge j t with h | h
  · exact h0.zero j h
  · rw [show j = t by omega]; exact hz
theorem rep_step (ht : t < O.length) (hx : gS O x) (hb : TT O t b) (hb1 : at_ b t = 1) : gS O (gm O P C x b) ∧ Upto O t (gm O P C x b) x ∧ at_ (gm O P C x b) t = (at_ x t + 1) % at_ O t := by
  obtain ⟨g1, g2⟩ := mu_right s (d := O.length) (b := x) (a := b) (t := t) (Nat.le_refl _) (by omega) ht (by rw [Nat.sub_self]; exact hx) hb
  refine ⟨F.g.cl hx (hb.mono (Nat.zero_le _)), g1, ?_⟩
  show at_ (mu O P C O.length x b) t = _
  rw [g2, addm_mod (hx.bd t ht) (hb.bd t ht), hb1]
end
theorem NSub.pw (hN : gN O P C N) (h : N x) : ∀ k : Nat, N (Grp.pw (gm O P C) (zv O) x k)
  | 0 => hN.one
  | k + 1 => hN.cl (NSub.pw hN h k) h
theorem NSub.quot (F : Full O P C O.length) (hN : gN O P C N) (ha : N a) (hx : gS O x) (h : N (gm O P C a x)) : N x := by
  have G := F.g
  have h1 := hN.cl (hN.inv ha) h
  have e : gm O P C (ginv (gS O) (gm O P C) (zv O) a) (gm O P C a x) = x := by rw [← G.as (hN.inS (hN.inv ha)) (hN.inS ha) hx, G.inv_l (hN.inS ha), G.l1 hx]
  rwa [e] at h1
theorem NSub.quotR (F : Full O P C O.length) (hN : gN O P C N) (ha : N a) (hx : gS O x) (h : N (gm O P C x a)) : N x := by
  have G := F.g
  have h1 := hN.cl h (hN.inv ha)
  have e : gm O P C (gm O P C x a) (ginv (gS O) (gm O P C) (zv O) a) = x := by rw [G.as hx (hN.inS ha) (hN.inS (hN.inv ha)), G.inv_r (hN.inS ha), G.r1 hx]
  rwa [e] at h1
theorem NSub.com_inR {α : Type} [Inhabited α] {S : α → Prop} {m : α → α → α} {e x y : α} (G : Gp S m e) {N : α → Prop} (hN : NSub S m e N) (hx : S x) (hy : N y) : N (com S m e x y) := by
  have h1 := hN.inv hy
  have e1 : com S m e x y = m (cnj S m e (ginv S m e y) x) y := by
    unfold com cnj
    rw [G.as (G.inv_in hx).1 (G.cl (hN.inS h1) hx) (hN.inS hy), G.as (hN.inS h1) hx (hN.inS hy)]
  rw [e1]
  exact hN.cl (hN.nor h1 hx) hy
structure OkD (O : List Int) (D : List (Option (List Int))) : Prop where
  len : D.length = O.length
  row : ∀ (d : Nat) (y : List Int), D[d]? = some (some y) → TT O d y ∧ at_ y d = 1
def InD (N : List Int → Prop) (D : List (Option (List Int))) : Prop := ∀ (d : Nat) (y : List Int), D[d]? = some (some y) → N y
def free : List (Option (List Int)) → Nat
  | [] => 0
  | none :: D => free D + 1
  | some _ :: D => free D
theorem free_le : ∀ D, free D ≤ D.length
  | [] => Nat.le_refl _
  | none :: D => by have := free_le D; simp only [free, List.length_cons]; omega
  | some _ :: D => by have := free_le D; simp only [free, List.length_cons]; omega
theorem free_put {y : List Int} : ∀ {D : List (Option (List Int))} {d : Nat}, D[d]? = some none → free (D.set d (some y)) + 1 = free D
  | [], d, h => by simp at h
  | v :: D, 0, h => by
    simp only [List.getElem?_cons_zero, Option.some.injEq] at h
    subst h; rfl
  | v :: D, d + 1, h => by
    have := free_put (y := y) (D := D) (d := d) (by simpa using h)
    cases v <;> simp only [List.set_cons_succ, free] <;> omega
theorem OkD.put (h : OkD O D) (hd : d < O.length) (hy : TT O d y) (h1 : at_ y d = 1) : OkD O (D.set d (some y)) := by
  refine ⟨by rw [List.length_set]; exact h.len, fun e v hv => ?_⟩
  rw [List.getElem?_set] at hv
  split at hv
  · rename_i he; subst he
    split at hv
    · cases hv; exact ⟨hy, h1⟩
    · cases hv
  · exact h.row e v hv
theorem InD.put (hd : D[d]? = some none) : InD N (D.set d (some y)) ↔ InD N D ∧ N y := by
  have hl : d < D.length := by
    rcases Nat.lt_or_ge d D.length with h | h
    · exact h
    · rw [List.getElem?_eq_none h] at hd; cases hd
  constructor
  · intro h
    refine ⟨fun e v hv => h e v ?_, h d y ?_⟩
    · rw [List.getElem?_set, if_neg fun he => by subst he; rw [hd] at hv; cases hv]; exact hv
    · rw [List.getElem?_set, if_pos rfl, if_pos hl]
  · rintro ⟨h1, h2⟩ e v hv
    rw [List.getElem?_set] at hv
    split at hv
    · rename_i he; subst he
      first
      | (cases hv; exact h2)
      | (split at hv
         · cases hv; exact h2
         · cases hv)
    · exact h1 e v hv
theorem OkD.start (n : Nat) (hn : n = O.length) : OkD O (List.replicate n none) := ⟨by simp [hn], fun d y h => by
  rw [List.getElem?_replicate] at h
  split at h <;> cases h⟩
theorem InD.start (n : Nat) : InD N (List.replicate n none) := fun d y h => by
  rw [List.getElem?_replicate] at h
  split at h <;> cases h
def SameD (O : List Int) (P : List (List Int)) (C : List (List (List Int))) (D D0 : List (Option (List Int))) (Q L : List (List Int)) : Prop := ∀ N, gN O P C N → ((InD N D ∧ ∀ q ∈ Q, N q) ↔ (InD N D0 ∧ ∀ q ∈ L, N q))
end Go.Grp
namespace Go.Grp
end Go.Grp
namespace Go.Proofs
open Go.Ab Go.Lie Go.Grp
variable {σ : PHeap} {K : PV → PHeap → Prop} {O : List Int} {P : List (List Int)} {C : List (List (List Int))} {vO vP vC vx vy vL va vb : PV} {x y f a b : List Int} {L : List (List Int)} {rP rC rb : List PV} {D : List (Option (List Int))} {d j sp ss sb n : Nat}
structure SeqG (σ : PHeap) (ss sb sp : Nat) (n : Nat) (rb : List PV) (vO vP vC : PV) : Prop where
  obj : σ.obj ss = some [.ptr sp 0, .sl sb 0 n (.known n)]
  lt : ss < σ.next
  bobj : σ.obj sb = some rb
  blt : sb < σ.next
  pg : PtrG σ sp vO vP vC
  ne1 : ss ≠ sb
  ne2 : sp ≠ sb
theorem SeqG.keep {h : PHeap} (q : SeqG σ ss sb sp n rb vO vP vC) (hk : Keep σ h) : SeqG h ss sb sp n rb vO vP vC :=
  ⟨by rw [hk.obj _ q.lt]; exact q.obj, Nat.lt_of_lt_of_le q.lt hk.next, by rw [hk.obj _ q.blt]; exact q.bobj, Nat.lt_of_lt_of_le q.blt hk.next, q.pg.keep hk, q.ne1, q.ne2⟩
theorem SeqG.setB (q : SeqG σ ss sb sp n rb vO vP vC) (rb' : List PV) : SeqG (σ.set sb rb') ss sb sp n rb' vO vP vC :=
  ⟨by rw [pobj_set, if_neg q.ne1]; exact q.obj, q.lt, by rw [pobj_set, if_pos rfl], q.blt, q.pg.set q.ne2 _, q.ne1, q.ne2⟩
def DRow (n : Nat) (c : PV) (r : Option (List Int)) : Prop := (c = .fz true .nils 0 [] ∧ r = none) ∨ ∃ o cap y, c = .fz true (.sl o 0 n cap) n (pis y) ∧ r = some y
theorem DRow.bel {c : PV} {r : Option (List Int)} (h : DRow n c r) : Bel 0 c := by
  rcases h with ⟨rfl, _⟩ | ⟨_, _, _, rfl, _⟩ <;> trivial
theorem DRow.bels {rb : List PV} {D : List (Option (List Int))} (h : All2 (DRow n) rb D) (m : Nat) : Bels m rb := by
  refine Bels_iff.2 fun c hc => ?_
  obtain ⟨k, hk, rfl⟩ := List.mem_iff_getElem.1 hc
  exact (DRow.bel (h.2 k _ _ (List.getElem?_eq_getElem hk) (List.getElem?_eq_getElem (by rw [← h.1]; exact hk)))).up (Nat.zero_le _)
theorem DRow.get {rb : List PV} {D : List (Option (List Int))} (h : All2 (DRow n) rb D) {d : Nat} (hd : d < D.length) : (rb[d]? = some (.fz true .nils 0 []) ∧ D[d]? = some none) ∨ ∃ o cap y, rb[d]? = some (.fz true (.sl o 0 n cap) n (pis y)) ∧ D[d]? = some (some y) := by
  have hb : d < rb.length := by rw [h.1]; exact hd
  rw [List.getElem?_eq_getElem hb, List.getElem?_eq_getElem hd]
  rcases h.2 d _ _ (List.getElem?_eq_getElem hb) (List.getElem?_eq_getElem hd) with ⟨e1, e2⟩ | ⟨o, cap, y, e1, e2⟩
  · exact .inl ⟨by rw [e1], by rw [e2]⟩
  · exact .inr ⟨o, cap, y, by rw [e1], by rw [e2]⟩
theorem DRow.put {rb : List PV} {D : List (Option (List Int))} (h : All2 (DRow n) rb D) {o d : Nat} {cap : Cap} : All2 (DRow n) (rb.set d (.fz true (.sl o 0 n cap) n (pis y))) (D.set d (some y)) := by
  refine ⟨by rw [List.length_set, List.length_set]; exact h.1, fun k c r hc hr => ?_⟩
  rw [List.getElem?_set] at hc hr
  by_cases e : d = k
  · rw [if_pos e] at hc hr
    split at hc
    · split at hr
      · cases hc; cases hr; exact .inr ⟨o, cap, y, rfl, rfl⟩
      · cases hr
    · cases hc
  · rw [if_neg e] at hc hr
    exact h.2 k c r hc hr
theorem power_sl (s : Shp O P C) (F : Full O P C O.length) (hn : 0 < O.length) (hs : PtrG σ sp vO vP vC) (hR : IsPr vO vP vC O P C) (ha : gS O a) (hva : FI va a) {k : Int} (hk0 : 0 ≤ k ∧ k ≤ 1000000) (hk : ∀ o cap, K (.fz true (.sl o 0 O.length cap) O.length (pis (Grp.pw (gm O P C) (zv O) a k.toNat))) σ) :
    PCalls Tryz.prog 49 [.ptr sp 0, va, .int .i64 k] σ K := by
  have hlen := (F.g.pw ha k.toNat).len
  refine PCalls.gh (power_ok s F hs hR (by rw [Nat.sub_self]; exact ha) hva hk0 ⟨fun h0 => ?_, fun cap hc => ?_⟩)
  · rw [h0] at hlen; simp at hlen; omega
  · rw [hlen] at hc ⊢
    exact Gh.finF (keep_new σ _) (by simp [PHeap.new]) (Nat.le_refl _) (pis_bel _ _) hc.ok fun o => hk o cap
theorem sift_ok (s : Shp O P C) (F : Full O P C O.length) (hC : Cent O C) (hq : SeqG σ ss sb sp O.length rb vO vP vC) (hR : IsPr vO vP vC O P C) (hD : OkD O D) (hrb : All2 (DRow O.length) rb D) (hx : gS O x) (hvx : FI vx x)
    (hk : ∀ v z, FI v z → gS O z → (dep z < O.length → D[dep z]? = some none) → (∀ N, gN O P C N → InD N D → (N x ↔ N z)) → K v σ) : PCalls Tryz.prog 169 [.ptr ss 0, vx] σ K := by
  have hn6 := s.le
  obtain ⟨wx, ax, rfl⟩ := hvx
  have hxl := hx.len
  have r0 : σ.rd1 ss 0 = some (.ptr sp 0) := by rw [obj_rd1 hq.obj]; rfl
  have r1 : σ.rd1 ss 1 = some (.sl sb 0 O.length (.known O.length)) := by rw [obj_rd1 hq.obj]; rfl
  have hR0 := hR
  obtain ⟨⟨w0, a0, rfl⟩, _, _⟩ := hR
  have e0 : σ.rd1 sp 0 = some (.fz w0 a0 O.length (pis O)) := by rw [obj_rd1 hq.pg.obj]; rfl
  refine pcalls_of_vp mix Tryz.func169 cf169 rfl ?_
  dsimp only [if169, qI, eI, nI, qD, eD]
  simp only [pwA, if_true, if_false, eq_self, nm_eq, reduceCtorEq, ↓reduceIte, nQ10, nQ7, nQ11, nQ12, nQ16, nQ17, nQ18, iQ2, iQ3, iQ4, iQ5, iQ6, lQ19, iQ7, lQ20]
  refine depthOf_ok rfl (by omega) ?_
  simp only [pwA, if_true, if_false, eq_self, nm_eq, reduceCtorEq, ↓reduceIte, nQ10, nQ7, nQ11, nQ12, nQ16, nQ17, nQ18, iQ2, iQ3, iQ4, iQ5, iQ6, lQ19, iQ7, lQ20]
  refine vp_loop (fun m vs h' => ∃ z w a, m = O.length - dep z ∧ vs = [.ptr ss 0, .fz w a O.length (pis z), .int .i64 (dep z)] ∧ σ = h' ∧ gS O z ∧ (∀ N, gN O P C N → InD N D → (N x ↔ N z))) _ ⟨x, wx, ax, rfl, by rw [hxl]; rfl, rfl, hx, fun _ _ _ => Iff.rfl⟩ ?_
  rintro m vs h' ⟨z, w, a, rfl, rfl, rfl, hz, hN⟩
  have hzl := hz.len
  by_cases hd : dep z < O.length
  · have hrd := obj_rd1 hq.bobj (dep z)
    have hdz : dep z < z.length := by omega
    have bz := hz.bd _ hd
    have bO := s.pr _ hd
    rw [at_eq hdz] at bz
    rw [at_eq hd] at bz bO
    rcases DRow.get hrb (d := dep z) (by rw [hD.len]; exact hd) with ⟨e1, e2⟩ | ⟨o, cap, y, e1, e2⟩
    · rw [e1] at hrd
      simp only [pwA, if_true, if_false, eq_self, nm_eq, reduceCtorEq, ↓reduceIte, nQ10, nQ7, nQ11, nQ12, nQ16, nQ17, nQ18, iQ2, iQ3, iQ4, iQ5, iQ6, lQ19, iQ7, lQ20, hd, r1, hrd]
      exact hk _ z ⟨w, a, by rw [hzl]⟩ hz (fun _ => e2) hN
    · rw [e1] at hrd
      obtain ⟨y1, y2⟩ := hD.row _ _ e2
      have ew : IntKind.i64.wrap (O[dep z] - z[dep z]) = O[dep z] - z[dep z] := wrap64 (by omega) (by omega)
      simp only [pwA, if_true, if_false, eq_self, nm_eq, reduceCtorEq, ↓reduceIte, nQ10, nQ7, nQ11, nQ12, nQ16, nQ17, nQ18, iQ2, iQ3, iQ4, iQ5, iQ6, lQ19, iQ7, lQ20, hd, r0, r1, hrd, e0, pis_get, gi hd, gi hdz, ew]
      refine power_fz s F hq.pg hR0 (by rw [Nat.sub_self]; exact y1.mono (Nat.zero_le _)) ⟨true, _, by rw [y1.len]⟩ (by omega) fun v1 f1 => ?_
      simp only [pwA, if_true, if_false, eq_self, nm_eq, reduceCtorEq, ↓reduceIte, nQ10, nQ7, nQ11, nQ12, nQ16, nQ17, nQ18, iQ2, iQ3, iQ4, iQ5, iQ6, lQ19, iQ7, lQ20, hd, r0, r1, hrd, e0]
      have g1 : gS O (Grp.pw (gm O P C) (zv O) y (O[dep z] - z[dep z]).toNat) := F.g.pw (y1.mono (Nat.zero_le _)) _
      refine multiply_fz s F hq.pg hR0 (by rw [Nat.sub_self]; exact g1) (by rw [Nat.sub_self]; exact hz) f1 ⟨w, a, by rw [hzl]⟩ fun v2 f2 => ?_
      have hst := sift_step s F hC hd (tt_dep hz) y1 y2
      rw [at_eq hd, at_eq hdz] at hst
      have hz2 : gS O (mu O P C O.length (Grp.pw (mu O P C O.length) (zv O) y (O[dep z] - z[dep z]).toNat) z) := F.g.cl g1 hz
      have hN2 : ∀ N, gN O P C N → InD N D → (N x ↔ N (mu O P C O.length (Grp.pw (mu O P C O.length) (zv O) y (O[dep z] - z[dep z]).toNat) z)) := fun N h1 h2 => (hN N h1 h2).trans ⟨fun h => h1.cl (NSub.pw h1 (h2 _ _ e2) _) h, fun h => NSub.quot F h1 (NSub.pw h1 (h2 _ _ e2) _) hz h⟩
      have hst2 : TT O (dep z + 1) (mu O P C O.length (Grp.pw (mu O P C O.length) (zv O) y (O[dep z] - z[dep z]).toNat) z) := hst
      generalize mu O P C O.length (Grp.pw (mu O P C O.length) (zv O) y (O[dep z] - z[dep z]).toNat) z = z' at *
      have hge := dep_ge hst2 (by omega)
      have hl' := hz2.len
      have h0 : z'[dep z]'(by omega) = 0 := by
        have := hst2.zero (dep z) (Nat.lt_succ_self _)
        rwa [at_eq (by omega)] at this
      obtain ⟨w2, a2, rfl⟩ := f2
      simp only [pwA, if_true, if_false, eq_self, nm_eq, reduceCtorEq, ↓reduceIte, nQ10, nQ7, nQ11, nQ12, nQ16, nQ17, nQ18, iQ2, iQ3, iQ4, iQ5, iQ6, lQ19, iQ7, lQ20, hl', hd, pis_get, gi (show dep z < z'.length by omega), h0]
      refine depthOf_ok hl'.symm (by omega) ?_
      simp only [pwA, if_true, if_false, eq_self, nm_eq, reduceCtorEq, ↓reduceIte, nQ10, nQ7, nQ11, nQ12, nQ16, nQ17, nQ18, iQ2, iQ3, iQ4, iQ5, iQ6, lQ19, iQ7, lQ20]
      exact ⟨_, by omega, z', w2, a2, rfl, rfl, hz2, hN2⟩
  · have hdn : dep z = O.length := by have := dep_le z; omega
    simp only [pwA, if_true, if_false, eq_self, nm_eq, reduceCtorEq, ↓reduceIte, nQ10, nQ7, nQ11, nQ12, nQ16, nQ17, nQ18, iQ2, iQ3, iQ4, iQ5, iQ6, lQ19, iQ7, lQ20, hdn, Nat.lt_irrefl]
    exact hk _ z ⟨w, a, by rw [hzl]⟩ hz (fun h => by omega) hN
end Go.Proofs
