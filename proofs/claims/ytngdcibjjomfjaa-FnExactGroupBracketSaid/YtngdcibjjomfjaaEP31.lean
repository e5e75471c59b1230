/- Commutators by the reference. -/
import Derived.Test.YtngdcibjjomfjaaEP30
set_option linter.unusedSimpArgs false
set_option linter.unusedVariables false
namespace Go.Proofs
open Go.Ab Go.Lie Go.Grp
variable {σ : PHeap} {K : PV → PHeap → Prop} {O : List Int} {P : List (List Int)} {C : List (List (List Int))} {vO vP vC vx vf va vb : PV} {x y f a b : List Int} {rP rC : List PV} {d j sp : Nat}
theorem set_at2 {i : Nat} (xl : i < x.length) : (x.set i 0).set i (at_ x i) = x := set_at xl
/-- An inverse, generator by generator. -/
theorem inv_from (s : Shp O P C) {d i : Nat} (hi : O.length = (d + 1) + i) (F : Full O P C d) (F1 : Full O P C (d + 1)) {y1 y2 : List Int} (hx : TT O i x) (h1 : TT O (i + 1) y1) (h2 : TT O (i + 1) y2) (e1 : mu O P C d (x.set i 0) y1 = zv O) (e2 : mu O P C d (pvec P i) y2 = zv O) :
    (at_ x i = 0 → mu O P C (d + 1) x y1 = zv O) ∧ (at_ x i ≠ 0 → mu O P C (d + 1) x (mu O P C (d + 1) (mu O P C (d + 1) y1 ((zv O).set i (at_ O i - at_ x i))) y2) = zv O) := by
  have hil : i < O.length := by omega
  have hn : O.length - d = i + 1 := by omega
  have hn1 : O.length - (d + 1) = i := by omega
  have hpos := s.pos hil
  have bx := hx.bd i hil
  have xl : i < x.length := by rw [hx.len]; exact hil
  have M := F.gp.toMon
  have G1 := F1.gp
  rw [hn1] at G1
  have hr : TT O (O.length - d) (x.set i 0) := by rw [hn]; exact hx.set0 hil hpos
  have h1' : TT O (O.length - d) y1 := by rw [hn]; exact h1
  have h2' : TT O (O.length - d) y2 := by rw [hn]; exact h2
  have hz : TT O (O.length - d) (zv O) := s.zv _
  have hw : TT O (O.length - d) (pvec P i) := by rw [hn]; exact s.pw i hil
  have sub : ∀ {u v : List Int}, TT O (O.length - d) u → TT O (O.length - d) v → mu O P C (d + 1) u v = mu O P C d u v := fun hu hv => mu_sub1 s (by omega) hu hv
  constructor
  · intro h0
    rw [set_set0 h0 xl] at e1 hr
    rw [sub hr h1']; exact e1
  · intro h0
    have z0 : (zv O).set i 0 = zv O := set_set0 (at_rep _ i) (by simp; exact hil)
    have ia : ∀ k, iter (al O P C d i) k (zv O) = zv O := fun k => it_fix (al_zv s F.toBeh hn) k
    have hg : TT O i ((zv O).set i (at_ x i)) := (s.zv i).set hil (Nat.le_refl _) bx
    have ht : TT O i ((zv O).set i (at_ O i - at_ x i)) := (s.zv i).set hil (Nat.le_refl _) ⟨by omega, by omega⟩
    have hrl : i < (x.set i 0).length := by rw [List.length_set]; exact xl
    have r0 : (x.set i 0).set i 0 = x.set i 0 := by rw [List.set_set]
    have up : ∀ {u : List Int}, TT O (O.length - d) u → TT O i u := fun h => h.mono (by omega)
    have ex : mu O P C (d + 1) ((zv O).set i (at_ x i)) (x.set i 0) = x := by
      have := mu_pair s F.toBeh hn (a := at_ x i) (b := 0) hz hr
      rw [r0, if_neg (by omega), ia, M.l1 hr, Int.add_zero, set_at2 xl] at this
      exact this
    have et : mu O P C (d + 1) ((zv O).set i (at_ x i)) ((zv O).set i (at_ O i - at_ x i)) = pvec P i := by
      have := mu_pair s F.toBeh hn (a := at_ x i) (b := at_ O i - at_ x i) hz hz
      rw [if_pos (by omega), ia, M.l1 hz, M.r1 hw, show at_ x i + (at_ O i - at_ x i) - at_ O i = 0 by omega, set_set0 (hw.zero i (by omega)) (by rw [hw.len]; exact hil)] at this
      exact this
    have key : ∀ Y, mu O P C (d + 1) x Y = mu O P C (d + 1) (mu O P C (d + 1) ((zv O).set i (at_ x i)) (x.set i 0)) Y := fun Y => by rw [ex]
    rw [key]
    have k1 := up h1'
    have k2 := up h2'
    have kr := up hr
    rw [G1.as hg kr (G1.cl (G1.cl k1 ht) k2), ← G1.as kr (G1.cl k1 ht) k2, ← G1.as kr k1 ht, sub hr h1', e1, G1.l1 ht, ← G1.as hg ht k2, et, sub hw h2', e2]
end Go.Proofs
set_option linter.unusedSimpArgs false
set_option linter.unusedVariables false
namespace Go.Proofs
open Go.Ab Go.Lie Go.Grp
variable {σ : PHeap} {K : PV → PHeap → Prop} {O : List Int} {P : List (List Int)} {C : List (List (List Int))} {vO vP vC vx vf va vb : PV} {x y f a b : List Int} {rP rC : List PV} {d j sp : Nat}
def FromOK (O : List Int) (P : List (List Int)) (C : List (List (List Int))) (d i : Nat) : Prop :=
  ∀ (σ : PHeap) (K : PV → PHeap → Prop) (x : List Int) (vx vO vP vC : PV), IsPr vO vP vC O P C → TT O i x → FI vx x → (∀ v y, FI v y → TT O i y → mu O P C d x y = zv O → K v σ) → PCalls Try.prog 172 [.agg [vO, vP, vC], .int .i64 i, vx] σ K
theorem l10From_ok (s : Shp O P C) (hc : Cons O P C) : ∀ {d i : Nat}, O.length = d + i → FromOK O P C d i
  | 0, i, hi => by
    intro σ K x vx vO vP vC hR hx hvx hk
    have hn6 := s.le
    obtain ⟨⟨w0, a0, rfl⟩, ⟨w1, a1, rP, rfl, hP⟩, ⟨w3, a3, rC, rfl, hC⟩⟩ := hR
    refine PCalls.gh ?_
    have hge : (O.length : Int) ≤ (i : Int) := by omega
    refine pcalls_of_vp mix Try.func172 cf172 rfl ?_
    dsimp only [if172, qI, eI, nI, qD, eD]
    simp only [pwA, if_true, if_false, eq_self, nm_eq, reduceCtorEq, ↓reduceIte, Nat.reduceEqDiff, Nat.reduceLeDiff, Nat.reduceBEq, Nat.reduceAdd, Nat.reduceLT, Nat.reduceSub, Nat.reduceMul, Int.reduceEq, Int.reduceLT, Int.reduceLE, Int.reduceNeg, Int.reduceToNat, List.reduceReplicate, Int.ofNat_le, List.getElem?_drop, hge, List.length_replicate, pis_rep, mk8 (n := O.length) (by omega), mkL (n := O.length) (by omega)]
    exact Gh.finF (s := σ.next + 1) ((keep_new σ _).new _) (by simp only [pwA, if_true, if_false, eq_self, nm_eq, reduceCtorEq, ↓reduceIte, Nat.reduceEqDiff, Nat.reduceLeDiff, Nat.reduceBEq, Nat.reduceAdd, Nat.reduceLT, Nat.reduceSub, Nat.reduceMul, Int.reduceEq, Int.reduceLT, Int.reduceLE, Int.reduceNeg, Int.reduceToNat, List.reduceReplicate, Int.ofNat_le, List.getElem?_drop]) (by omega) (pis_bel _ _) (by simp [capOK]) fun o1 => hk _ (zv O) (FI.mk (by simp)) (s.zv _) rfl
  | d + 1, i, hi => by
    intro σ K x vx vO vP vC hR hx hvx hk
    have hFr : FromOK O P C d (i + 1) := l10From_ok s hc (by omega)
    have F : Full O P C d := full_of s (by omega) fun j h1 h2 => hc j h2
    have F1 : Full O P C (d + 1) := full_of s (by omega) fun j h1 h2 => hc j h2
    have hAt : AtOK O P C (d + 1) i := l08At_ok s (by omega)
    have hn6 := s.le
    have hR0 := hR
    have hil : i < O.length := by omega
    have hO := s.pr i hil
    have hpos := s.pos hil
    have hxl := hx.len
    have bx := hx.bd i hil
    have hn1 : O.length - (d + 1) = i := by omega
    have G1 := F1.gp
    rw [hn1] at G1
    obtain ⟨⟨w0, a0, rfl⟩, ⟨w1, a1, rP, rfl, hP⟩, ⟨w3, a3, rC, rfl, hC⟩⟩ := hR
    obtain ⟨w5, a5, hpr⟩ := pvRow s hP hil
    have hiP : i < P.length := by rw [s.pl]; exact hil
    have hpv := s.pw i hil
    obtain ⟨wx, ax, rfl⟩ := hvx
    have hilx : i < x.length := by omega
    have hge : ¬ (O.length : Int) ≤ (i : Int) := by omega
    have sx := hx.set0 hil hpos
    have wi1 : IntKind.i64.wrap ((i : Int) + 1) = ((i + 1 : Nat) : Int) := wrapS hil (by omega)
    have hilx1 : i + 1 ≤ x.length := hilx
    refine PCalls.gh ?_
    refine pcalls_of_vp mix Try.func172 cf172 rfl ?_
    dsimp only [if172, qI, eI, nI, qD, eD]
    simp only [pwA, if_true, if_false, eq_self, nm_eq, reduceCtorEq, ↓reduceIte, Nat.reduceEqDiff, Nat.reduceLeDiff, Nat.reduceBEq, Nat.reduceAdd, Nat.reduceLT, Nat.reduceSub, Nat.reduceMul, Int.reduceEq, Int.reduceLT, Int.reduceLE, Int.reduceNeg, Int.reduceToNat, List.reduceReplicate, Int.ofNat_le, List.getElem?_drop, hge]
    refine l01Own_ok rfl (by omega) fun cap1 hc1 => ?_
    simp only [pwA, if_true, if_false, eq_self, nm_eq, reduceCtorEq, ↓reduceIte, Nat.reduceEqDiff, Nat.reduceLeDiff, Nat.reduceBEq, Nat.reduceAdd, Nat.reduceLT, Nat.reduceSub, Nat.reduceMul, Int.reduceEq, Int.reduceLT, Int.reduceLE, Int.reduceNeg, Int.reduceToNat, List.reduceReplicate, Int.ofNat_le, List.getElem?_drop, hilx, hilx1, pis_length, pis_set_at hilx, wi1]
    refine PCalls.frz (s := σ.next + 1) (cs := pis (x.set i 0)) (by simp only [pwA, if_true, if_false, eq_self, nm_eq, reduceCtorEq, ↓reduceIte, Nat.reduceEqDiff, Nat.reduceLeDiff, Nat.reduceBEq, Nat.reduceAdd, Nat.reduceLT, Nat.reduceSub, Nat.reduceMul, Int.reduceEq, Int.reduceLT, Int.reduceLE, Int.reduceNeg, Int.reduceToNat, List.reduceReplicate, Int.ofNat_le, List.getElem?_drop]) (pis_bel _ _) fun o1 => ?_
    have hcok := hc1.ok
    simp only [sbs, sb, hcok, and_self, if_true, hR0.O.sb, hR0.P.sb, hR0.C.sb]
    refine hFr _ _ (x.set i 0) _ _ _ _ hR0 sx (FI.mk (by simp)) fun v1 y1 hv1 hy1 e1 => ?_
    have hkp : Keep σ (((σ.new [.fz w0 a0 O.length (pis O), .fz w1 a1 P.length rP, .fz w3 a3 C.length rC]).new (pis (x.set i 0))).kill (σ.next + 1)) := ((keep_new σ _).new _).kill (by omega)
    simp only [pwA, if_true, if_false, eq_self, nm_eq, reduceCtorEq, ↓reduceIte, Nat.reduceEqDiff, Nat.reduceLeDiff, Nat.reduceBEq, Nat.reduceAdd, Nat.reduceLT, Nat.reduceSub, Nat.reduceMul, Int.reduceEq, Int.reduceLT, Int.reduceLE, Int.reduceNeg, Int.reduceToNat, List.reduceReplicate, Int.ofNat_le, List.getElem?_drop, hilx, pisAt hilx, List.getElem?_drop]
    refine iteI (fun h0 => ?_) fun h0 => ?_
    · have hr := hFr
      -- the inverse of the power is not asked for; any will do
      obtain ⟨y2, h2a, h2b, _⟩ := F.gp.inv (a := pvec P i) (by rw [show O.length - d = i + 1 by omega]; exact hpv)
      rw [show O.length - d = i + 1 by omega] at h2a
      have := (inv_from s (by omega) F F1 hx hy1 h2a e1 h2b).1 h0
      exact Gh.fin0 hkp (hv1.bel _) (hk v1 y1 hv1 (hy1.mono (by omega)) this)
    have hol : i < (zv O).length := by simp; exact hil
    have hol1 : i + 1 ≤ O.length := hil
    have hsub : IntKind.i64.wrap (at_ O i - at_ x i) = at_ O i - at_ x i := wrap64 (by omega) (by omega)
    have hset := pis_set_at hol (x := at_ O i - at_ x i)
    have ht : TT O i ((zv O).set i (at_ O i - at_ x i)) := (s.zv i).set hil (Nat.le_refl _) ⟨by omega, by omega⟩
    simp only [pwA, if_true, if_false, eq_self, nm_eq, reduceCtorEq, ↓reduceIte, Nat.reduceEqDiff, Nat.reduceLeDiff, Nat.reduceBEq, Nat.reduceAdd, Nat.reduceLT, Nat.reduceSub, Nat.reduceMul, Int.reduceEq, Int.reduceLT, Int.reduceLE, Int.reduceNeg, Int.reduceToNat, List.reduceReplicate, Int.ofNat_le, List.getElem?_drop, List.length_replicate, pis_rep, mk8 (n := O.length) (by omega), mkL (n := O.length) (by omega), hilx, pisAt hilx, hil, hol1, pisAt hil, List.getElem?_drop, hsub, pis_length, hset, wi1, hiP, hpr]
    refine PCalls.frz (s := σ.next + 2) (cs := pis ((zv O).set i (at_ O i - at_ x i))) (by simp only [pwA, if_true, if_false, eq_self, nm_eq, reduceCtorEq, ↓reduceIte, Nat.reduceEqDiff, Nat.reduceLeDiff, Nat.reduceBEq, Nat.reduceAdd, Nat.reduceLT, Nat.reduceSub, Nat.reduceMul, Int.reduceEq, Int.reduceLT, Int.reduceLE, Int.reduceNeg, Int.reduceToNat, List.reduceReplicate, Int.ofNat_le, List.getElem?_drop]) (pis_bel _ _) fun o2 => ?_
    simp only [sbs, sb, capOK, Nat.le_refl, decide_true, and_self, if_true, hR0.O.sb, hR0.P.sb, hR0.C.sb, hv1.sb]
    have hy1' : TT O i y1 := hy1.mono (by omega)
    refine hAt hR0 hy1' ht hv1 (FI.mk (by simp)) fun v3 hv3 => ?_
    simp only [pwA, if_true, if_false, eq_self, nm_eq, reduceCtorEq, ↓reduceIte, Nat.reduceEqDiff, Nat.reduceLeDiff, Nat.reduceBEq, Nat.reduceAdd, Nat.reduceLT, Nat.reduceSub, Nat.reduceMul, Int.reduceEq, Int.reduceLT, Int.reduceLE, Int.reduceNeg, Int.reduceToNat, List.reduceReplicate, Int.ofNat_le, List.getElem?_drop, wi1, hiP, hpr, List.getElem?_drop]
    refine hFr _ _ (pvec P i) _ _ _ _ hR0 hpv (FI.mk hpv.len) fun v2 y2 hv2 hy2 e2 => ?_
    have hy2' : TT O i y2 := hy2.mono (by omega)
    have h12 := G1.cl hy1' ht
    simp only [pwA, if_true, if_false, eq_self, nm_eq, reduceCtorEq, ↓reduceIte, Nat.reduceEqDiff, Nat.reduceLeDiff, Nat.reduceBEq, Nat.reduceAdd, Nat.reduceLT, Nat.reduceSub, Nat.reduceMul, Int.reduceEq, Int.reduceLT, Int.reduceLE, Int.reduceNeg, Int.reduceToNat, List.reduceReplicate, Int.ofNat_le, List.getElem?_drop, wi1, hiP, hpr, List.getElem?_drop]
    refine hAt hR0 h12 hy2' hv3 hv2 fun v4 hv4 => ?_
    simp only [pwA, if_true, if_false, eq_self, nm_eq, reduceCtorEq, ↓reduceIte, Nat.reduceEqDiff, Nat.reduceLeDiff, Nat.reduceBEq, Nat.reduceAdd, Nat.reduceLT, Nat.reduceSub, Nat.reduceMul, Int.reduceEq, Int.reduceLT, Int.reduceLE, Int.reduceNeg, Int.reduceToNat, List.reduceReplicate, Int.ofNat_le, List.getElem?_drop]
    have := (inv_from s (by omega) F F1 hx hy1 hy2 e1 e2).2 h0
    exact Gh.fin0 (((((keep_new σ _).new _).kill (by omega)).new _).kill (by omega)) (hv4.bel _) (hk v4 _ hv4 (G1.cl h12 hy2') this)
theorem l10Inv_ok (s : Shp O P C) (hc : Cons O P C) (hR : IsPr vO vP vC O P C) (hx : gS O x) (hvx : FI vx x) (hk : ∀ v, FI v (ginv (gS O) (gm O P C) (zv O) x) → K v σ) : PCalls Try.prog 118 [.agg [vO, vP, vC], vx] σ K := by
  have h0 := hR.O.one
  have h1 := hR.P.one
  have h2 := hR.C.one
  have G := (full_of s (Nat.le_refl _) fun j _ h => hc j h).g
  refine PCalls.gh ?_
  refine pcalls_of_vp mix Try.func118 cf118 rfl ?_
  dsimp only [if118, qI, eI, nI, qD, eD]
  simp only [pwA, if_true, if_false, eq_self, nm_eq, reduceCtorEq, ↓reduceIte, Nat.reduceEqDiff, Nat.reduceLeDiff, Nat.reduceBEq, Nat.reduceAdd, Nat.reduceLT, Nat.reduceSub, Nat.reduceMul, Int.reduceEq, Int.reduceLT, Int.reduceLE, Int.reduceNeg, Int.reduceToNat, List.reduceReplicate, Int.ofNat_le, List.getElem?_drop, h0, h1, h2]
  refine l10From_ok s hc (d := O.length) (i := 0) (by omega) _ _ x _ _ _ _ hR hx hvx fun v y hv hy e => ?_
  simp only [pwA, if_true, if_false, eq_self, nm_eq, reduceCtorEq, ↓reduceIte, Nat.reduceEqDiff, Nat.reduceLeDiff, Nat.reduceBEq, Nat.reduceAdd, Nat.reduceLT, Nat.reduceSub, Nat.reduceMul, Int.reduceEq, Int.reduceLT, Int.reduceLE, Int.reduceNeg, Int.reduceToNat, List.reduceReplicate, Int.ofNat_le, List.getElem?_drop]
  have := G.inv_eq hx hy e
  rw [← this] at hk
  exact Gh.fin0 (keep_new σ _) (hv.bel _) (hk v hv)
end Go.Proofs
set_option linter.unusedSimpArgs false
set_option linter.unusedVariables false
namespace Go.Proofs
open Go.Ab Go.Lie Go.Grp
variable {σ : PHeap} {K : PV → PHeap → Prop} {O : List Int} {P : List (List Int)} {C : List (List (List Int))} {vO vP vC vx vy vf va vb : PV} {x y f a b : List Int} {rP rC : List PV} {d j sp : Nat}
theorem l08Mul_ok (s : Shp O P C) (hR : IsPr vO vP vC O P C) (ha : gS O a) (hb : gS O b) (hva : FI va a) (hvb : FI vb b) (hk : ∀ v, FI v (gm O P C a b) → K v σ) : PCalls Try.prog 130 [.agg [vO, vP, vC], va, vb] σ K := by
  have h0 := hR.O.one
  have h1 := hR.P.one
  have h2 := hR.C.one
  refine PCalls.gh ?_
  refine pcalls_of_vp mix Try.func130 cf130 rfl ?_
  dsimp only [if130, qI, eI, nI, qD, eD]
  simp only [pwA, if_true, if_false, eq_self, nm_eq, reduceCtorEq, ↓reduceIte, Nat.reduceEqDiff, Nat.reduceLeDiff, Nat.reduceBEq, Nat.reduceAdd, Nat.reduceLT, Nat.reduceSub, Nat.reduceMul, Int.reduceEq, Int.reduceLT, Int.reduceLE, Int.reduceNeg, Int.reduceToNat, List.reduceReplicate, Int.ofNat_le, List.getElem?_drop, h0, h1, h2]
  refine l08At_ok s (d := O.length) (i := 0) (by omega) hR ha hb hva hvb fun v hv => ?_
  simp only [pwA, if_true, if_false, eq_self, nm_eq, reduceCtorEq, ↓reduceIte, Nat.reduceEqDiff, Nat.reduceLeDiff, Nat.reduceBEq, Nat.reduceAdd, Nat.reduceLT, Nat.reduceSub, Nat.reduceMul, Int.reduceEq, Int.reduceLT, Int.reduceLE, Int.reduceNeg, Int.reduceToNat, List.reduceReplicate, Int.ofNat_le, List.getElem?_drop]
  exact Gh.fin0 (keep_new σ _) (hv.bel _) (hk v hv)
theorem l10Comm_ok (s : Shp O P C) (hc : Cons O P C) (hR : IsPr vO vP vC O P C) (hx : gS O x) (hy : gS O y) (hvx : FI vx x) (hvy : FI vy y) (hk : ∀ v, FI v (gcom O P C x y) → K v σ) : PCalls Try.prog 116 [.agg [vO, vP, vC], vx, vy] σ K := by
  have h0 := hR.O.one
  have h1 := hR.P.one
  have h2 := hR.C.one
  have G := (full_of s (Nat.le_refl _) fun j _ h => hc j h).g
  have hyx := G.cl hy hx
  have hxy := G.cl hx hy
  have hi := (G.inv_in hyx).1
  refine PCalls.gh ?_
  refine pcalls_of_vp mix Try.func116 cf116 rfl ?_
  dsimp only [if116, qI, eI, nI, qD, eD]
  simp only [pwA, if_true, if_false, eq_self, nm_eq, reduceCtorEq, ↓reduceIte, Nat.reduceEqDiff, Nat.reduceLeDiff, Nat.reduceBEq, Nat.reduceAdd, Nat.reduceLT, Nat.reduceSub, Nat.reduceMul, Int.reduceEq, Int.reduceLT, Int.reduceLE, Int.reduceNeg, Int.reduceToNat, List.reduceReplicate, Int.ofNat_le, List.getElem?_drop, h0, h1, h2]
  refine l08Mul_ok s hR hy hx hvy hvx fun v1 f1 => ?_
  simp only [pwA, if_true, if_false, eq_self, nm_eq, reduceCtorEq, ↓reduceIte, Nat.reduceEqDiff, Nat.reduceLeDiff, Nat.reduceBEq, Nat.reduceAdd, Nat.reduceLT, Nat.reduceSub, Nat.reduceMul, Int.reduceEq, Int.reduceLT, Int.reduceLE, Int.reduceNeg, Int.reduceToNat, List.reduceReplicate, Int.ofNat_le, List.getElem?_drop, h0, h1, h2]
  refine l10Inv_ok s hc hR hyx f1 fun v2 f2 => ?_
  simp only [pwA, if_true, if_false, eq_self, nm_eq, reduceCtorEq, ↓reduceIte, Nat.reduceEqDiff, Nat.reduceLeDiff, Nat.reduceBEq, Nat.reduceAdd, Nat.reduceLT, Nat.reduceSub, Nat.reduceMul, Int.reduceEq, Int.reduceLT, Int.reduceLE, Int.reduceNeg, Int.reduceToNat, List.reduceReplicate, Int.ofNat_le, List.getElem?_drop, h0, h1, h2]
  refine l08Mul_ok s hR hx hy hvx hvy fun v3 f3 => ?_
  simp only [pwA, if_true, if_false, eq_self, nm_eq, reduceCtorEq, ↓reduceIte, Nat.reduceEqDiff, Nat.reduceLeDiff, Nat.reduceBEq, Nat.reduceAdd, Nat.reduceLT, Nat.reduceSub, Nat.reduceMul, Int.reduceEq, Int.reduceLT, Int.reduceLE, Int.reduceNeg, Int.reduceToNat, List.reduceReplicate, Int.ofNat_le, List.getElem?_drop, h0, h1, h2]
  refine l08Mul_ok s hR hi hxy f2 f3 fun v4 f4 => ?_
  simp only [pwA, if_true, if_false, eq_self, nm_eq, reduceCtorEq, ↓reduceIte, Nat.reduceEqDiff, Nat.reduceLeDiff, Nat.reduceBEq, Nat.reduceAdd, Nat.reduceLT, Nat.reduceSub, Nat.reduceMul, Int.reduceEq, Int.reduceLT, Int.reduceLE, Int.reduceNeg, Int.reduceToNat, List.reduceReplicate, Int.ofNat_le, List.getElem?_drop]
  have e : gm O P C (ginv (gS O) (gm O P C) (zv O) (gm O P C y x)) (gm O P C x y) = gcom O P C x y :=
    G.com_eq hx hy (G.cl hi hxy) (by rw [← G.as hyx hi hxy, G.inv_r hyx, G.l1 hxy])
  rw [e] at f4
  exact Gh.fin0 (keep_new σ _) (f4.bel _) (hk v4 f4)
end Go.Proofs
