/- What a law is handed, laid as frozen values: presentations. -/
import Derived.Test.YtngdcibjjomfjaaGreatCP32
import Derived.Test.YtngdcibjjomfjaaGreatCP28
import Derived.Test.YtngdcibjjomfjaaGreatCP27
import Derived.Test.YtngdcibjjomfjaaGreatCAbPt
import Derived.Test.YtngdcibjjomfjaaGreatCP31
import Derived.Test.YtngdcibjjomfjaaGreatChecked
import Derived.Test.YtngdcibjjomfjaaGreatRows
import Derived.Lib.SmallJoins
import Derived.WalkKit
import Derived.ProofKit
open Nat renaming reduceLeDiff → nQ7, reduceEqDiff → nQ10, reduceBEq → nQ11, reduceAdd → nQ12, reduceLT → nQ16, reduceSub → nQ17, reduceMul → nQ18
open Int renaming reduceEq → iQ2, reduceLT → iQ3, reduceLE → iQ4, reduceNeg → iQ5, reduceToNat → iQ6, ofNat_le → iQ7
open List renaming reduceReplicate → lQ19, getElem?_drop → lQ20
namespace Go.Grp
end Go.Grp
set_option linter.unusedSimpArgs false
set_option linter.unusedVariables false
namespace Go.Proofs
open Go.Ab Go.Lie Go.Grp
variable {σ : PHeap} {K : PV → PHeap → Prop} {O : List Int} {P : List (List Int)} {C : List (List (List Int))} {vO vP vC vx vy vL : PV} {x y f a b : List Int} {L : List (List Int)} {rP rC rb : List PV} {D : List (Option (List Int))} {d j sp ss sb n : Nat}
theorem Keep.self {rb : List PV} {h : PHeap} (hb : σ.obj sb = some rb) (k : Keep σ h) : Keep (σ.set sb rb) h := ⟨k.next, k.top, fun t ht => by
  rw [k.obj t ht, pobj_set]
  split
  · rename_i e; rw [e]; exact hb
  · rfl⟩
theorem Gh.finB {σ0 σ1 : PHeap} {rb : List PV} {v : PV} (hsb : sb < σ0.next) (hk : Keep (σ0.set sb rb) σ1) (hb : Bels 0 rb) (hv : Bel σ0.next v) (k : K v (σ0.set sb rb)) : Gh σ0 K v σ1 := fun w =>
  Gh.cut (σ2 := σ0.set sb rb) rfl hk.top (fun t cs ht => by
    have hlt : t < σ0.next := by
      rw [pobj_set] at ht
      split at ht
      · rename_i e; rw [e]; exact hsb
      · exact w.lt ht
    refine ⟨hlt, by rw [hk.obj t hlt]; exact ht, ?_⟩
    rw [pobj_set] at ht
    split at ht
    · cases ht; exact .inr (hb.up (Nat.zero_le _))
    · exact .inl ht) hv k w
theorem commutator_fz (s : Shp O P C) (F : Full O P C O.length) (hs : PtrG σ sp vO vP vC) (hR : IsPr vO vP vC O P C) (hx : gS O x) (hy : gS O y) (hvx : FI vx x) (hvy : FI vy y) (hk : ∀ v, FI v (gcom O P C x y) → K v σ) :
    PCalls Tryz.prog 89 [.ptr sp 0, vx, vy] σ K := by
  have G := F.g
  have up : ∀ {z : List Int}, gS O z → TT O (O.length - O.length) z := fun h => by rw [Nat.sub_self]; exact h
  have dn : ∀ {z : List Int}, TT O (O.length - O.length) z → gS O z := fun h => by rw [Nat.sub_self] at h; exact h
  refine pcalls_of_vp mix Tryz.func89 cf89 rfl ?_
  dsimp only [if89, qI, eI, nI, qD, eD]
  simp only [pwA, if_true, if_false, eq_self, nm_eq, reduceCtorEq, ↓reduceIte, nQ10, nQ7, nQ11, nQ12, nQ16, nQ17, nQ18, iQ2, iQ3, iQ4, iQ5, iQ6, lQ19, iQ7, lQ20]
  refine invert_fz s F hs hR (up hx) hvx fun v1 z1 h1 e1 f1 => ?_
  simp only [pwA, if_true, if_false, eq_self, nm_eq, reduceCtorEq, ↓reduceIte, nQ10, nQ7, nQ11, nQ12, nQ16, nQ17, nQ18, iQ2, iQ3, iQ4, iQ5, iQ6, lQ19, iQ7, lQ20]
  refine conjugate_fz s F hs hR (up hx) (up hy) hvx hvy fun v2 z2 h2 e2 f2 => ?_
  simp only [pwA, if_true, if_false, eq_self, nm_eq, reduceCtorEq, ↓reduceIte, nQ10, nQ7, nQ11, nQ12, nQ16, nQ17, nQ18, iQ2, iQ3, iQ4, iQ5, iQ6, lQ19, iQ7, lQ20]
  refine multiply_fz s F hs hR h1 h2 f1 f2 fun v3 f3 => ?_
  simp only [pwA, if_true, if_false, eq_self, nm_eq, reduceCtorEq, ↓reduceIte, nQ10, nQ7, nQ11, nQ12, nQ16, nQ17, nQ18, iQ2, iQ3, iQ4, iQ5, iQ6, lQ19, iQ7, lQ20]
  have e : mu O P C O.length z1 z2 = gcom O P C x y := by
    refine G.com_eq hx hy (G.cl (dn h1) (dn h2)) ?_
    have i1 : z1 = ginv (gS O) (gm O P C) (zv O) x := G.inv_eq hx (dn h1) e1
    show gm O P C (gm O P C y x) (gm O P C z1 z2) = gm O P C x y
    have hxz : gm O P C x (gm O P C z1 z2) = z2 := by rw [← G.as hx (dn h1) (dn h2), show gm O P C x z1 = zv O from e1, G.l1 (dn h2)]
    rw [G.as hy hx (G.cl (dn h1) (dn h2)), hxz]
    exact e2
  rw [e] at f3
  exact hk v3 f3
theorem add_ok (s : Shp O P C) (F : Full O P C O.length) (hC : Cent O C) (hp : ∀ o ∈ O, isP o) (hq : SeqG σ ss sb sp O.length rb vO vP vC) (hR : IsPr vO vP vC O P C) (hD : OkD O D) (hrb : All2 (DRow O.length) rb D) (hL : FII vL L) (hg : ∀ x ∈ L, gS O x) (hLl : L.length ≤ 1000000)
    (hk : ∀ (t : Bool) rb' D', All2 (DRow O.length) rb' D' → OkD O D' → (∀ N, gN O P C N → (InD N D' ↔ (InD N D ∧ ∀ q ∈ L, N q))) → free D' ≤ free D → (t = true → free D' < free D) → K (.bool t) (σ.set sb rb')) :
    PCalls Tryz.prog 113 [.ptr ss 0, vL] σ K := by
  have hn6 := s.le
  have hf6 := free_le D
  rw [hD.len] at hf6
  have G := F.g
  have up : ∀ {z : List Int}, gS O z → TT O (O.length - O.length) z := fun h => by rw [Nat.sub_self]; exact h
  obtain ⟨wl, al, rl, rfl, hrl⟩ := hL
  have hR0 := hR
  obtain ⟨⟨w0, a0, rfl⟩, _, _⟩ := hR
  refine PCalls.gh ?_
  refine pcalls_of_vp mix Tryz.func113 cf113 rfl ?_
  dsimp only [if113, qI, eI, nI, qD, eD]
  simp only [pwA, if_true, if_false, eq_self, nm_eq, reduceCtorEq, ↓reduceIte, nQ10, nQ7, nQ11, nQ12, nQ16, nQ17, nQ18, iQ2, iQ3, iQ4, iQ5, iQ6, lQ19, iQ7, lQ20]
  refine CloneL_q hrl.1 (hrl.bI 0) (by omega) fun vQ h1 k1 q1 => ?_
  simp only [pwA, if_true, if_false, eq_self, nm_eq, reduceCtorEq, ↓reduceIte, nQ10, nQ7, nQ11, nQ12, nQ16, nQ17, nQ18, iQ2, iQ3, iQ4, iQ5, iQ6, lQ19, iQ7, lQ20]
  refine vp_loop (fun m vs h' => ∃ g Q vQ rb' D' rq, m = 10 * free D' + Q.length ∧ vs = [.ptr ss 0, .bool g, vQ] ∧ Keep (σ.set sb rb') h' ∧ PQ σ.next h' vQ Q.length rq ∧ All2 FI rq Q ∧ (∀ x ∈ Q, gS O x) ∧ All2 (DRow O.length) rb' D' ∧ OkD O D' ∧ SameD O P C D' D Q L ∧ free D' ≤ free D ∧ (g = true → free D' < free D) ∧ Q.length + 10 * free D' ≤ L.length + 10 * free D) (10 * free D + L.length) ?_ ?_
  · exact ⟨false, L, vQ, rb, D, rl, rfl, rfl, Keep.self hq.bobj k1, q1, hrl, hg, hrb, hD, fun N _ => Iff.rfl, Nat.le_refl _, by simp, Nat.le_refl _⟩
  clear k1 q1 vQ h1
  as_aux_lemma =>
  rintro m vs h' ⟨g, Q, vQ, rb', D', rq, rfl, rfl, hkp, hqq, hrq, hgQ, hrb', hD', hS, hf1, hf2, hb⟩
  have hq' := (hq.setB rb').keep hkp
  cases Q with
  | nil =>
    have hlen : pLen vQ = some (.int .i64 0) := hqq.pLen
    simp only [pwA, if_true, if_false, eq_self, nm_eq, reduceCtorEq, ↓reduceIte, nQ10, nQ7, nQ11, nQ12, nQ16, nQ17, nQ18, iQ2, iQ3, iQ4, iQ5, iQ6, lQ19, iQ7, lQ20, hlen]
    exact Gh.finB hq.blt hkp (DRow.bels hrb' 0) trivial (hk g rb' D' hrb' hD' (fun N hN => ⟨fun h => (hS N hN).1 ⟨h, fun q hq => (by cases hq)⟩, fun h => ((hS N hN).2 h).1⟩) hf1 hf2)
  | cons x Q =>
    have hlen := hqq.pLen
    obtain ⟨c, rq', rfl, hc, hrq'⟩ : ∃ c rq', rq = c :: rq' ∧ FI c x ∧ All2 FI rq' Q := by
      cases rq with
      | nil => exact absurd hrq.1 (by simp)
      | cons c rq' => exact ⟨c, rq', rfl, hrq.2 0 c x rfl rfl, ⟨by simpa using hrq.1, fun k a b ha hb => hrq.2 (k + 1) a b (by simpa using ha) (by simpa using hb)⟩⟩
    obtain ⟨sq, off, cap, vQ', rfl, hrd, hpos, hsl', hqq'⟩ := hqq.uncons
    have hcc := hc
    obtain ⟨w4, a4, rfl⟩ := hc
    have hx := hgQ x (by simp)
    have hgQ' : ∀ q ∈ Q, gS O q := fun q hq => hgQ q (List.mem_cons_of_mem _ hq)
    have hf6' := free_le D'
    rw [hD'.len] at hf6'
    simp only [List.length_cons] at hlen hsl' hqq' hpos hb ⊢
    have hposI : (0 : Int) < ((Q.length + 1 : Nat) : Int) := by omega
    rw [Nat.add_sub_cancel] at hqq'
    simp only [pwA, if_true, if_false, eq_self, nm_eq, reduceCtorEq, ↓reduceIte, nQ10, nQ7, nQ11, nQ12, nQ16, nQ17, nQ18, iQ2, iQ3, iQ4, iQ5, iQ6, lQ19, iQ7, lQ20, hlen, hposI, hpos, hrd, hsl']
    refine sift_ok s F hC hq' hR0 hD' hrb' hx hcc fun vz z fz gz hz1 hz2 => ?_
    obtain ⟨wz, az, rfl⟩ := fz
    have hzl := gz.len
    simp only [pwA, if_true, if_false, eq_self, nm_eq, reduceCtorEq, ↓reduceIte, nQ10, nQ7, nQ11, nQ12, nQ16, nQ17, nQ18, iQ2, iQ3, iQ4, iQ5, iQ6, lQ19, iQ7, lQ20, hlen, hposI, hpos, hrd, hsl']
    refine depthOf_ok rfl (by omega) ?_
    by_cases hd : dep z < O.length
    rotate_left
    · have hdn : dep z = O.length := by have := dep_le z; omega
      have hz0 := dep_zv gz (by omega)
      simp only [pwA, if_true, if_false, eq_self, nm_eq, reduceCtorEq, ↓reduceIte, nQ10, nQ7, nQ11, nQ12, nQ16, nQ17, nQ18, iQ2, iQ3, iQ4, iQ5, iQ6, lQ19, iQ7, lQ20, hzl, hdn]
      refine ⟨_, ?_, g, Q, vQ', rb', D', rq', rfl, rfl, hkp, hqq', hrq', hgQ', hrb', hD', fun N hN => ?_, hf1, hf2, by omega⟩
      · omega
      · rw [← hS N hN]
        refine ⟨fun ⟨h1, h2⟩ => ⟨h1, fun q hq => ?_⟩, fun ⟨h1, h2⟩ => ⟨h1, fun q hq => h2 q (List.mem_cons_of_mem _ hq)⟩⟩
        rcases List.mem_cons.1 hq with rfl | hq
        · rw [hz2 N hN h1, hz0]; exact hN.one
        · exact h2 q hq
    have hdz : dep z < z.length := by omega
    have hOd := hp _ (List.getElem_mem hd)
    have bO := hOd.bd
    have bz := gz.bd _ hd
    have nz := dep_ne hdz
    rw [at_eq hdz] at bz nz
    rw [at_eq hd] at bz
    have hdn : ((dep z : Int) = (z.length : Int)) = False := by simp; omega
    have rr : ∀ {h : PHeap}, SeqG h ss sb sp O.length rb' (.fz w0 a0 O.length (pis O)) vP vC → h.rd1 ss 0 = some (.ptr sp 0) ∧ h.rd1 ss 1 = some (.sl sb 0 O.length (.known O.length)) ∧ h.rd1 sp 0 = some (.fz w0 a0 O.length (pis O)) := fun q => ⟨by rw [obj_rd1 q.obj]; rfl, by rw [obj_rd1 q.obj]; rfl, by rw [obj_rd1 q.pg.obj]; rfl⟩
    obtain ⟨r0, r1, e0⟩ := rr hq'
    simp only [pwA, if_true, if_false, eq_self, nm_eq, reduceCtorEq, ↓reduceIte, nQ10, nQ7, nQ11, nQ12, nQ16, nQ17, nQ18, iQ2, iQ3, iQ4, iQ5, iQ6, lQ19, iQ7, lQ20, hd, hdn, r0, e0, pis_get, gi hdz, gi hd, hdz]
    refine inverseMod_ok hOd ⟨by omega, bz.2⟩ fun q qb q1 q2 q3 => ?_
    simp only [pwA, if_true, if_false, eq_self, nm_eq, reduceCtorEq, ↓reduceIte, nQ10, nQ7, nQ11, nQ12, nQ16, nQ17, nQ18, iQ2, iQ3, iQ4, iQ5, iQ6, lQ19, iQ7, lQ20, hd, hdn, r0, e0, pis_get, gi hdz, gi hd, hdz]
    refine PQ.push (bytes := 24) (σb := σ.set sb rb') hkp hqq' (by omega) (by omega) fun v1 h1 k1 p1 => ?_
    have hq1 := (hq.setB rb').keep k1
    obtain ⟨s0, s1, f0⟩ := rr hq1
    simp only [pwA, if_true, if_false, eq_self, nm_eq, reduceCtorEq, ↓reduceIte, nQ10, nQ7, nQ11, nQ12, nQ16, nQ17, nQ18, iQ2, iQ3, iQ4, iQ5, iQ6, lQ19, iQ7, lQ20, s0, s1, f0]
    refine power_sl s F (by omega) hq1.pg hR0 gz ⟨wz, az, rfl⟩ (k := q) (by omega) fun oy capy => ?_
    obtain ⟨y1, y2⟩ := pw_deep s F hC hd (tt_dep gz) q.toNat
    have hy1 : at_ (Grp.pw (gm O P C) (zv O) z q.toNat) (dep z) = 1 := by
      rw [y2, at_eq hdz, at_eq hd, Int.toNat_of_nonneg q1, Int.mul_comm]; exact q3
    have hNy : ∀ N, gN O P C N → N z → N (Grp.pw (gm O P C) (zv O) z q.toNat) := fun N hN h => NSub.pw hN h _
    generalize Grp.pw (gm O P C) (zv O) z q.toNat = y at *
    have yS : gS O y := y1.mono (Nat.zero_le _)
    have hyl := yS.len
    simp only [pwA, if_true, if_false, eq_self, nm_eq, reduceCtorEq, ↓reduceIte, nQ10, nQ7, nQ11, nQ12, nQ16, nQ17, nQ18, iQ2, iQ3, iQ4, iQ5, iQ6, lQ19, iQ7, lQ20, s0, s1, f0, pis_get, gi hd, hd]
    refine power_fz s F hq1.pg hR0 (up yS) ⟨true, .sl oy 0 O.length capy, by rw [hyl]⟩ (k := O[dep z]) (by omega) fun vo fo => ?_
    have fo' := fo
    obtain ⟨wo, ao, rfl⟩ := fo
    simp only [pwA, if_true, if_false, eq_self, nm_eq, reduceCtorEq, ↓reduceIte, nQ10, nQ7, nQ11, nQ12, nQ16, nQ17, nQ18, iQ2, iQ3, iQ4, iQ5, iQ6, lQ19, iQ7, lQ20, s0, s1, f0, pis_get, gi hd, hd]
    refine PQ.push (bytes := 24) (σb := σ.set sb rb') k1 p1 (by omega) (by omega) fun v2 h2 k2 p2 => ?_
    have hq2 := (hq.setB rb').keep k2
    obtain ⟨t0, t1, g0⟩ := rr hq2
    have gpo : gS O (Grp.pw (gm O P C) (zv O) y O[dep z].toNat) := G.pw yS _
    have fz' : FI (.fz wz az z.length (pis z)) z := ⟨wz, az, rfl⟩
    have hrq2 : All2 FI ((rq' ++ [.fz wz az z.length (pis z)]) ++ [.fz wo ao _ (pis (Grp.pw (gm O P C) (zv O) y O[dep z].toNat))]) ((Q ++ [z]) ++ [Grp.pw (gm O P C) (zv O) y O[dep z].toNat]) := (hrq'.snoc fz').snoc fo'
    have hgQ2 : ∀ q ∈ (Q ++ [z]) ++ [Grp.pw (gm O P C) (zv O) y O[dep z].toNat], gS O q := fun q hq => by
      rcases List.mem_append.1 hq with hq | hq
      · rcases List.mem_append.1 hq with hq | hq
        · exact hgQ' q hq
        · rw [List.mem_singleton.1 hq]; exact gz
      · rw [List.mem_singleton.1 hq]; exact gpo
    simp only [pwA, if_true, if_false, eq_self, nm_eq, reduceCtorEq, ↓reduceIte, nQ10, nQ7, nQ11, nQ12, nQ16, nQ17, nQ18, iQ2, iQ3, iQ4, iQ5, iQ6, lQ19, iQ7, lQ20, t0, t1, g0]
    generalize hQ2 : (Q ++ [z]) ++ [Grp.pw (gm O P C) (zv O) y O[dep z].toNat] = Q2 at *
    have hQ2l : Q2.length = Q.length + 1 + 1 := by rw [← hQ2]; simp
    have hNQ2 : ∀ N, gN O P C N → N y → ((∀ q ∈ Q2, N q) ↔ (∀ q ∈ Q, N q) ∧ N z) := fun N hN hy => by
      rw [← hQ2]
      refine ⟨fun h => ⟨fun q hq => h q (by simp [hq]), h z (by simp)⟩, fun ⟨h3, h4⟩ q hq => ?_⟩
      rcases List.mem_append.1 hq with hq | hq
      · rcases List.mem_append.1 hq with hq | hq
        · exact h3 q hq
        · rw [List.mem_singleton.1 hq]; exact h4
      · rw [List.mem_singleton.1 hq]; exact NSub.pw hN hy _
    generalize (rq' ++ [PV.fz wz az z.length (pis z)]) ++ [.fz wo ao _ (pis (Grp.pw (gm O P C) (zv O) y O[dep z].toNat))] = rq2 at *
    rw [← hQ2l] at p2
    refine vp_loop (fun m us h3 => ∃ (i : Nat) (vQ : PV) (E : List (List Int)) (re : List PV), i ≤ O.length ∧ m = O.length - i ∧ us = [.ptr ss 0, .bool true, vQ, .fz true (.sl oy 0 O.length capy) O.length (pis y), .int .i64 (dep z), .sl sb 0 O.length (.known O.length), .int .i64 O.length, .int .i64 i] ∧ Keep (σ.set sb rb') h3 ∧ PQ σ.next h3 vQ (Q2 ++ E).length re ∧ All2 FI re (Q2 ++ E) ∧ (∀ q ∈ E, gS O q) ∧ E.length ≤ i ∧ ∀ N, gN O P C N → N y → ∀ q ∈ E, N q) O.length ?_ ?_
    · exact ⟨0, v2, [], _, by omega, by omega, rfl, k2, by rw [List.append_nil]; exact p2, by rw [List.append_nil]; exact hrq2, fun q hq => (by cases hq), Nat.le_refl _, fun N _ _ q hq => (by cases hq)⟩
    clear k2 p2 v2 h2 hq2 t0 t1 g0
    as_aux_lemma =>
    rintro m us h3 ⟨i, vQ, E, re, hi, rfl, rfl, k3, p3, hre, hgE, hEl, hNE⟩
    have hq3 := (hq.setB rb').keep k3
    obtain ⟨t0, t1, g0⟩ := rr hq3
    simp only [pwA, if_true, if_false, eq_self, nm_eq, reduceCtorEq, ↓reduceIte, nQ10, nQ7, nQ11, nQ12, nQ16, nQ17, nQ18, iQ2, iQ3, iQ4, iQ5, iQ6, lQ19, iQ7, lQ20]
    refine iteI (fun hlt => ?_) fun hge => ?_
    rotate_left
    · have hdb : dep z < rb'.length := by rw [hrb'.1, hD'.len]; exact hd
      have hwr : h3.wr sb (dep z) [.fz true (.sl oy 0 O.length capy) O.length (pis y)] = some (h3.set sb (rb'.set (dep z) (.fz true (.sl oy 0 O.length capy) O.length (pis y)))) := by
        rw [obj_wr hq3.bobj, if_pos ⟨by rw [List.length_singleton]; omega, rfl⟩, List.append_assoc, List.singleton_append, List.length_singleton, take_set _ hdb]
      simp only [pwA, if_true, if_false, eq_self, nm_eq, reduceCtorEq, ↓reduceIte, nQ10, nQ7, nQ11, nQ12, nQ16, nQ17, nQ18, iQ2, iQ3, iQ4, iQ5, iQ6, lQ19, iQ7, lQ20, t1, hd, hwr]
      have hnone : D'[dep z]? = some none := hz1 hd
      have hfree := free_put (y := y) hnone
      refine ⟨_, ?_, true, Q2 ++ E, vQ, _, D'.set (dep z) (some y), re, rfl, rfl, ?_, ?_, hre, ?_, DRow.put (o := oy) (cap := capy) hrb', hD'.put hd y1 hy1, fun N hN => ?_, by omega, fun _ => by omega, ?_⟩
      · simp only [List.length_append]; omega
      · exact ⟨k3.next, k3.top, fun t ht => by
          rw [pobj_set, pobj_set]
          split
          · rfl
          · rename_i e
            have := k3.obj t ht
            rw [pobj_set, if_neg e] at this
            exact this⟩
      · exact p3.set hq.blt _
      · intro q hq
        rcases List.mem_append.1 hq with hq | hq
        · exact hgQ2 q hq
        · exact hgE q hq
      · rw [← hS N hN, InD.put hnone]
        constructor
        · rintro ⟨⟨g1, g2⟩, g3⟩
          obtain ⟨g4, g5⟩ := (hNQ2 N hN g2).1 fun q hq => g3 q (by simp [hq])
          refine ⟨g1, fun q hq => ?_⟩
          rcases List.mem_cons.1 hq with rfl | hq
          · exact (hz2 N hN g1).2 g5
          · exact g4 q hq
        · rintro ⟨g1, g2⟩
          have gz' := (hz2 N hN g1).1 (g2 x (by simp))
          have gy := hNy N hN gz'
          refine ⟨⟨g1, gy⟩, fun q hq => ?_⟩
          rcases List.mem_append.1 hq with hq | hq
          · exact (hNQ2 N hN gy).2 ⟨fun q hq => g2 q (List.mem_cons_of_mem _ hq), gz'⟩ q hq
          · exact hNE N hN gy q hq
      · simp only [List.length_append]; omega
    have hlt' : i < O.length := by omega
    have hrd3 := obj_rd1 hq3.bobj i
    rcases DRow.get hrb' (d := i) (by rw [hD'.len]; exact hlt') with ⟨e1, e2⟩ | ⟨oo, cap, b, e1, e2⟩
    · rw [e1] at hrd3
      simp only [pwA, if_true, if_false, eq_self, nm_eq, reduceCtorEq, ↓reduceIte, nQ10, nQ7, nQ11, nQ12, nQ16, nQ17, nQ18, iQ2, iQ3, iQ4, iQ5, iQ6, lQ19, iQ7, lQ20, hlt', hrd3, wrapS hlt' (by omega : O.length ≤ 4611686018427387904)]
      exact ⟨_, by omega, i + 1, vQ, E, re, by omega, rfl, rfl, k3, p3, hre, hgE, by omega, hNE⟩
    · rw [e1] at hrd3
      have bS : gS O b := (hD'.row _ _ e2).1.mono (Nat.zero_le _)
      simp only [pwA, if_true, if_false, eq_self, nm_eq, reduceCtorEq, ↓reduceIte, nQ10, nQ7, nQ11, nQ12, nQ16, nQ17, nQ18, iQ2, iQ3, iQ4, iQ5, iQ6, lQ19, iQ7, lQ20, hlt', hrd3, t0]
      refine commutator_fz s F hq3.pg hR0 bS yS ⟨true, _, by rw [bS.len]⟩ ⟨true, _, by rw [hyl]⟩ fun vc fc => ?_
      have fc' := fc
      obtain ⟨wc, ac, rfl⟩ := fc
      simp only [pwA, if_true, if_false, eq_self, nm_eq, reduceCtorEq, ↓reduceIte, nQ10, nQ7, nQ11, nQ12, nQ16, nQ17, nQ18, iQ2, iQ3, iQ4, iQ5, iQ6, lQ19, iQ7, lQ20]
      refine PQ.push (bytes := 24) (σb := σ.set sb rb') k3 p3 (by rw [List.length_append]; omega) (by rw [List.length_append]; omega) fun v4 h4 k4 p4 => ?_
      simp only [pwA, if_true, if_false, eq_self, nm_eq, reduceCtorEq, ↓reduceIte, nQ10, nQ7, nQ11, nQ12, nQ16, nQ17, nQ18, iQ2, iQ3, iQ4, iQ5, iQ6, lQ19, iQ7, lQ20, wrapS hlt' (by omega : O.length ≤ 4611686018427387904)]
      refine ⟨_, by omega, i + 1, v4, E ++ [gcom O P C b y], re ++ [.fz wc ac (gcom O P C b y).length (pis (gcom O P C b y))], by omega, rfl, rfl, k4, ?_, ?_, ?_, ?_, ?_⟩
      rotate_left
      · rw [← List.append_assoc]; exact hre.snoc fc'
      · intro q hq
        rcases List.mem_append.1 hq with hq | hq
        · exact hgE q hq
        · rw [List.mem_singleton.1 hq]; exact G.com_in bS yS
      · simp; omega
      · intro N hN hy q hq
        rcases List.mem_append.1 hq with hq | hq
        · exact hNE N hN hy q hq
        · rw [List.mem_singleton.1 hq]; exact NSub.com_inR G hN bS hy
      · rw [← List.append_assoc, List.length_append, List.length_singleton]; exact p4
end Go.Proofs
namespace Go.Grp
end Go.Grp
namespace Go.Proofs
open Go.Ab Go.Lie Go.Grp
variable {σ : PHeap} {K : PV → PHeap → Prop} {O : List Int} {P : List (List Int)} {C : List (List (List Int))} {vO vP vC vx vy vL vU : PV} {x y z f a b : List Int} {L u : List (List Int)} {rP rC rb : List PV} {D : List (Option (List Int))} {d j sp ss sb n : Nat}
def Ones (O : List Int) (u : List (List Int)) : Prop := ∀ v ∈ u, gS O v ∧ dep v < O.length ∧ at_ v (dep v) = 1
theorem mod_less {o z : Int} (ho : 2 ≤ o) (hz : 0 ≤ z ∧ z < o) (h0 : z ≠ 0) : ((o - (z + 1) % o) % o).toNat < ((o - z) % o).toNat := by
  have e : (o - z) % o = o - z := Int.emod_eq_of_lt (by omega) (by omega)
  rw [e]
  by_cases h : z + 1 = o
  · rw [h, Int.emod_self, Int.sub_zero, Int.emod_self]; omega
  · rw [Int.emod_eq_of_lt (a := z + 1) (by omega) (by omega), Int.emod_eq_of_lt (by omega) (by omega)]; omega
theorem representative_ok (s : Shp O P C) (F : Full O P C O.length) (hC : Cent O C) (hn : 0 < O.length) (hs : PtrG σ sp vO vP vC) (hR : IsPr vO vP vC O P C) (hU : FII vU u) (hu : Ones O u) (hul : u.length ≤ 1000) (hx : gS O x) (hvx : FI vx x)
    (hk : ∀ o cap z, gS O z → (∀ t, (∀ v ∈ u, t < dep v) → ∀ j, j ≤ t → at_ z j = at_ x j) → (∀ N, gN O P C N → (∀ v ∈ u, N v) → (N x ↔ N z)) → K (.fz true (.sl o 0 O.length cap) O.length (pis z)) σ) :
    PCalls Tryz.prog 170 [.ptr sp 0, vU, vx] σ K := by
  have hn6 := s.le
  have hxl := hx.len
  have hsl := hs.lt
  obtain ⟨wx, ax, rfl⟩ := hvx
  have hUU := hU
  obtain ⟨wl, al, rl, rfl, hrl⟩ := hU
  refine PCalls.gh ?_
  refine pcalls_of_vp mix Tryz.func170 cf170 rfl ?_
  dsimp only [if170, qI, eI, nI, qD, eD]
  simp only [pwA, if_true, if_false, eq_self, nm_eq, reduceCtorEq, ↓reduceIte, nQ10, nQ7, nQ11, nQ12, nQ16, nQ17, nQ18, iQ2, iQ3, iQ4, iQ5, iQ6, lQ19, iQ7, lQ20]
  refine Clone_ok rfl (by omega) ⟨fun h0 => absurd hxl (by rw [h0]; simp; omega), fun cap hc => ?_⟩
  rw [hxl] at hc ⊢
  simp only [pwA, if_true, if_false, eq_self, nm_eq, reduceCtorEq, ↓reduceIte, nQ10, nQ7, nQ11, nQ12, nQ16, nQ17, nQ18, iQ2, iQ3, iQ4, iQ5, iQ6, lQ19, iQ7, lQ20]
  refine pivots_ok hUU (fun v hv => ⟨by rw [(hu v hv).1.len]; exact (hu v hv).2.1, by rw [(hu v hv).1.len]; omega⟩) (by omega) fun vp => ?_
  simp only [pwA, if_true, if_false, eq_self, nm_eq, reduceCtorEq, ↓reduceIte, nQ10, nQ7, nQ11, nQ12, nQ16, nQ17, nQ18, iQ2, iQ3, iQ4, iQ5, iQ6, lQ19, iQ7, lQ20]
  refine vp_loop (fun m vs h' => ∃ (i : Nat) (z : List Int), i ≤ u.length ∧ m = u.length - i ∧ vs = [.ptr sp 0, .fz wl al u.length rl, .sl σ.next 0 O.length cap, .fz true vp u.length (pis (deps u)), .int .i64 u.length, .int .i64 i] ∧ h' = σ.new (pis z) ∧ gS O z ∧ (∀ t, (∀ v ∈ u, t < dep v) → ∀ j, j ≤ t → at_ z j = at_ x j) ∧ (∀ N, gN O P C N → (∀ v ∈ u, N v) → (N x ↔ N z))) u.length ⟨0, x, by omega, by omega, rfl, rfl, hx, fun _ _ _ _ => rfl, fun _ _ _ => Iff.rfl⟩ ?_
  rintro m vs h' ⟨i, z, hi, rfl, rfl, rfl, hz, hj, hN⟩
  simp only [pwA, if_true, if_false, eq_self, nm_eq, reduceCtorEq, ↓reduceIte, nQ10, nQ7, nQ11, nQ12, nQ16, nQ17, nQ18, iQ2, iQ3, iQ4, iQ5, iQ6, lQ19, iQ7, lQ20]
  refine iteI (fun hlt => ?_) fun hge => ?_
  rotate_left
  · exact Gh.finF (keep_new σ _) (by simp only [pwA, if_true, if_false, eq_self, nm_eq, reduceCtorEq, ↓reduceIte, nQ10, nQ7, nQ11, nQ12, nQ16, nQ17, nQ18, iQ2, iQ3, iQ4, iQ5, iQ6, lQ19, iQ7, lQ20]) (Nat.le_refl _) (pis_bel _ _) hc.ok fun o => hk o cap z hz hj hN
  obtain ⟨w4, a4, hr⟩ := hrl.rowI hlt
  obtain ⟨u1, u2, u3⟩ := hu _ (List.getElem_mem hlt)
  have hmem : u[i] ∈ u := List.getElem_mem hlt
  have hpd : (deps u)[i]? = some (dep u[i] : Int) := by simp [deps, hlt]
  simp only [pwA, if_true, if_false, eq_self, nm_eq, reduceCtorEq, ↓reduceIte, nQ10, nQ7, nQ11, nQ12, nQ16, nQ17, nQ18, iQ2, iQ3, iQ4, iQ5, iQ6, lQ19, iQ7, lQ20, hlt, pis_get, hpd]
  refine vp_loop (fun m vs h' => ∃ (z : List Int), m = ((at_ O (dep u[i]) - at_ z (dep u[i])) % at_ O (dep u[i])).toNat ∧ vs = [.ptr sp 0, .fz wl al u.length rl, .sl σ.next 0 O.length cap, .int .i64 i, .int .i64 (dep u[i]), .fz true vp u.length (pis (deps u)), .int .i64 u.length, .int .i64 i] ∧ h' = σ.new (pis z) ∧ gS O z ∧ (∀ t, (∀ v ∈ u, t < dep v) → ∀ j, j ≤ t → at_ z j = at_ x j) ∧ (∀ N, gN O P C N → (∀ v ∈ u, N v) → (N x ↔ N z))) _ ⟨z, rfl, rfl, rfl, hz, hj, hN⟩ ?_
  clear hz hj hN z
  rintro m vs h' ⟨z, rfl, rfl, rfl, hz, hj, hN⟩
  have hzl := hz.len
  have hdz : dep u[i] < z.length := by omega
  have bz := hz.bd _ u2
  have bO := s.pr _ u2
  simp only [pwA, if_true, if_false, eq_self, nm_eq, reduceCtorEq, ↓reduceIte, nQ10, nQ7, nQ11, nQ12, nQ16, nQ17, nQ18, iQ2, iQ3, iQ4, iQ5, iQ6, lQ19, iQ7, lQ20, u2, pisAt hdz]
  refine iteI (fun heq => ?_) fun hneq => ?_
  · simp only [pwA, if_true, if_false, eq_self, nm_eq, reduceCtorEq, ↓reduceIte, nQ10, nQ7, nQ11, nQ12, nQ16, nQ17, nQ18, iQ2, iQ3, iQ4, iQ5, iQ6, lQ19, iQ7, lQ20, wrapS hlt (by omega : u.length ≤ 4611686018427387904)]
    exact ⟨_, by omega, i + 1, z, by omega, rfl, rfl, rfl, hz, hj, hN⟩
  · obtain ⟨g1, g2, g3⟩ := rep_step s F hC u2 hz (tt_dep u1) u3
    simp only [pwA, if_true, if_false, eq_self, nm_eq, reduceCtorEq, ↓reduceIte, nQ10, nQ7, nQ11, nQ12, nQ16, nQ17, nQ18, iQ2, iQ3, iQ4, iQ5, iQ6, lQ19, iQ7, lQ20, hlt, hr]
    refine timesVector_ok s F (hs.new _) hR (x := z) (by simp only [pwA, if_true, if_false, eq_self, nm_eq, reduceCtorEq, ↓reduceIte, nQ10, nQ7, nQ11, nQ12, nQ16, nQ17, nQ18, iQ2, iQ3, iQ4, iQ5, iQ6, lQ19, iQ7, lQ20]) (by simp only [pwA, if_true, if_false, eq_self, nm_eq, reduceCtorEq, ↓reduceIte, nQ10, nQ7, nQ11, nQ12, nQ16, nQ17, nQ18, iQ2, iQ3, iQ4, iQ5, iQ6, lQ19, iQ7, lQ20]) (by omega) hc (by rw [Nat.sub_self]; exact hz) (by rw [Nat.sub_self]; exact u1) ⟨w4, a4, rfl⟩ ?_
    simp only [pwA, if_true, if_false, eq_self, nm_eq, reduceCtorEq, ↓reduceIte, nQ10, nQ7, nQ11, nQ12, nQ16, nQ17, nQ18, iQ2, iQ3, iQ4, iQ5, iQ6, lQ19, iQ7, lQ20]
    refine ⟨_, ?_, _, rfl, rfl, g1, fun t ht j hjt => ?_, fun N h1 h2 => (hN N h1 h2).trans ⟨fun h => h1.cl h (h2 _ hmem), fun h => NSub.quotR F h1 (h2 _ hmem) hz h⟩⟩
    · show ((at_ O (dep u[i]) - at_ (gm O P C z u[i]) (dep u[i])) % at_ O (dep u[i])).toNat < _
      rw [g3]
      exact mod_less bO.1 bz hneq
    · show at_ (gm O P C z u[i]) j = _
      rw [g2 j (by have := ht _ hmem; omega)]
      exact hj t ht j hjt
end Go.Proofs
namespace Go.Grp
end Go.Grp
namespace Go.Proofs
open Go.Ab Go.Lie Go.Grp
variable {σ : PHeap} {K : PV → PHeap → Prop} {M : List (List PV)} {vM : PV}
def FC (v : PV) (cs : List PV) : Prop := ∃ w a, v = .fz w a cs.length cs
def RoomC (σ h : PHeap) (v : PV) : Prop := ∃ s cs, v = .sl s 0 0 (.grown 1) ∧ h.obj s = some cs ∧ σ.next ≤ s ∧ s < h.next
theorem GrowC_ok {c : Nat} (hc : c ≤ 1048576) (h0 : ∀ v h, Keep σ h → (PAcc σ.next 1 h v 0 [] ∨ (0 < c ∧ RoomC σ h v)) → K v h) : PCalls Tryz.prog 210 [.fz true .nils 0 [], .int .i64 c] σ K := by
  have hcn : ¬ (c : Int) < 0 := by omega
  have z0 : IntKind.i64.wrap ((0 : Int) - ((0 : Nat) : Int)) = 0 := rfl
  have z1 : IntKind.i64.wrap ((c : Int) - 0) = (c : Int) := by rw [wrap64 (by omega) (by omega)]; omega
  have z2 : pslA 1 .nils 0 0 = .nils := rfl
  refine pcalls_of_vp mix Tryz.func210 cf210 rfl ?_
  dsimp only [if210, qI, eI, nI, qD, eD]
  simp only [pwA, if_true, if_false, eq_self, nm_eq, reduceCtorEq, ↓reduceIte, nQ10, nQ7, nQ11, nQ12, nQ16, nQ17, nQ18, iQ2, iQ3, iQ4, iQ5, iQ6, lQ19, iQ7, lQ20, hcn, z0, z1]
  by_cases hz : c = 0
  · subst hz
    simp only [pwA, if_true, if_false, eq_self, nm_eq, reduceCtorEq, ↓reduceIte, nQ10, nQ7, nQ11, nQ12, nQ16, nQ17, nQ18, iQ2, iQ3, iQ4, iQ5, iQ6, lQ19, iQ7, lQ20]
    exact h0 _ _ (Keep.refl σ) (.inl (PAcc.nil _ _ _))
  · have hpos : (0 : Int) < (c : Int) := by omega
    have hb : (c : Int) * ((24 : Nat) : Int) ≤ 140737488355328 := by omega
    have hb2 : (c : Int) ≤ 4611686018427387904 := by omega
    simp only [pwA, if_true, if_false, eq_self, nm_eq, reduceCtorEq, ↓reduceIte, nQ10, nQ7, nQ11, nQ12, nQ16, nQ17, nQ18, iQ2, iQ3, iQ4, iQ5, iQ6, lQ19, iQ7, lQ20, hpos, hb, hb2, z2, pis_rep, Nat.zero_le]
    exact h0 _ _ (keep_new σ _) (.inr ⟨by omega, _, _, rfl, by rw [pobj_new, if_pos rfl], Nat.le_refl _, Nat.lt_succ_self _⟩)
theorem flatC_take {i : Nat} (hi : i < M.length) : (M.take (i + 1)).flatten = (M.take i).flatten ++ M[i] := by
  rw [List.take_succ_eq_append_getElem hi, List.flatten_append]; simp
theorem flatC_le (M : List (List PV)) (i : Nat) : (M.take i).flatten.length ≤ M.flatten.length := by
  have : M.flatten.length = (M.take i).flatten.length + (M.drop i).flatten.length := by
    rw [← List.length_append, ← List.flatten_append, List.take_append_drop]
  omega
theorem ConcatC_ok {wM : Bool} {aM : AV} {rM : List PV} (hrM : All2 FC rM M) (hbM : ∀ c ∈ M, Bels 0 c) (hml : M.length ≤ 1048576) (hb : M.flatten.length ≤ 1048576) (hk : ∀ a, K (.fz true a M.flatten.length M.flatten) σ) : PCalls Tryz.prog 205 [.fz wM aM M.length rM] σ K := by
  have hbf : Bels 0 M.flatten := Bels_iff.2 fun c hc => by
    obtain ⟨l, hl, hc⟩ := List.mem_flatten.1 hc
    exact Bels_iff.1 (hbM l hl) c hc
  refine PCalls.gh ?_
  refine pcalls_of_vp mix Tryz.func205 cf205 rfl ?_
  dsimp only [if205, qI, eI, nI, qD, eD]
  simp only [pwA, if_true, if_false, eq_self, nm_eq, reduceCtorEq, ↓reduceIte, nQ10, nQ7, nQ11, nQ12, nQ16, nQ17, nQ18, iQ2, iQ3, iQ4, iQ5, iQ6, lQ19, iQ7, lQ20]
  refine vp_loop (fun m us h' => ∃ i : Nat, i ≤ M.length ∧ m = M.length - i ∧ us = [.fz wM aM M.length rM, .int .i64 (M.take i).flatten.length, .fz wM aM M.length rM, .int .i64 M.length, .int .i64 i] ∧ σ = h') M.length ?_ ?_
  · exact ⟨0, by omega, by omega, rfl, rfl⟩
  rintro m us h' ⟨i, hi, rfl, rfl, rfl⟩
  have hfl := flatC_le M i
  simp only [pwA, if_true, if_false, eq_self, nm_eq, reduceCtorEq, ↓reduceIte, nQ10, nQ7, nQ11, nQ12, nQ16, nQ17, nQ18, iQ2, iQ3, iQ4, iQ5, iQ6, lQ19, iQ7, lQ20]
  refine iteI (fun hlt => ?_) fun hge => ?_
  · obtain ⟨_, hr, w4, a4, rfl⟩ := hrM.get hlt
    have hfl2 := flatC_le M (i + 1)
    have e := congrArg List.length (flatC_take hlt)
    rw [List.length_append] at e
    have ew : IntKind.i64.wrap (((M.take i).flatten.length : Int) + (M[i].length : Int)) = (((M.take i).flatten.length + M[i].length : Nat) : Int) := by rw [wrap64 (by omega) (by omega)]; omega
    have hnn : ¬ (((M.take i).flatten.length + M[i].length : Nat) : Int) < 0 := by omega
    simp only [pwA, if_true, if_false, eq_self, nm_eq, reduceCtorEq, ↓reduceIte, nQ10, nQ7, nQ11, nQ12, nQ16, nQ17, nQ18, iQ2, iQ3, iQ4, iQ5, iQ6, lQ19, iQ7, lQ20, hlt, hr, ew, hnn, wrapS hlt (by omega : M.length ≤ 4611686018427387904)]
    refine ⟨_, by omega, i + 1, by omega, rfl, ?_⟩
    rw [e]
  have hie : i = M.length := by omega
  subst hie
  rw [List.take_length]
  simp only [pwA, if_true, if_false, eq_self, nm_eq, reduceCtorEq, ↓reduceIte, nQ10, nQ7, nQ11, nQ12, nQ16, nQ17, nQ18, iQ2, iQ3, iQ4, iQ5, iQ6, lQ19, iQ7, lQ20]
  refine GrowC_ok (by omega) fun v0 h0 hk0 hv0 => ?_
  simp only [pwA, if_true, if_false, eq_self, nm_eq, reduceCtorEq, ↓reduceIte, nQ10, nQ7, nQ11, nQ12, nQ16, nQ17, nQ18, iQ2, iQ3, iQ4, iQ5, iQ6, lQ19, iQ7, lQ20]
  refine vp_loop (fun m us h' => ∃ (i : Nat) (vX : PV), i ≤ M.length ∧ m = M.length - i ∧ us = [vX, .fz wM aM M.length rM, .int .i64 M.length, .int .i64 i] ∧ Keep σ h' ∧ (PAcc σ.next 1 h' vX (M.take i).flatten.length (M.take i).flatten ∨ ((M.take i).flatten = [] ∧ 0 < M.flatten.length ∧ RoomC σ h' vX))) M.length ?_ ?_
  · exact ⟨0, v0, by omega, by omega, rfl, hk0, hv0.imp (fun h => h) fun h => ⟨rfl, h⟩⟩
  clear hi hge hfl hk0 hv0 v0 h0
  rintro m us h' ⟨i, vX, hi, rfl, rfl, hkp, ha⟩
  have hfl := flatC_le M i
  simp only [pwA, if_true, if_false, eq_self, nm_eq, reduceCtorEq, ↓reduceIte, nQ10, nQ7, nQ11, nQ12, nQ16, nQ17, nQ18, iQ2, iQ3, iQ4, iQ5, iQ6, lQ19, iQ7, lQ20]
  refine iteI (fun hlt => ?_) fun hge => ?_
  rotate_left
  · have hie : i = M.length := by omega
    subst hie
    rw [List.take_length] at ha
    rcases ha with ha | ⟨h1, h2, _⟩
    · exact ha.fin hkp hbf fun a => hk _
    · rw [h1] at h2; cases h2
  obtain ⟨_, hr, w4, a4, rfl⟩ := hrM.get hlt
  have hfl2 := flatC_le M (i + 1)
  have e := congrArg List.length (flatC_take hlt)
  rw [List.length_append] at e
  simp only [pwA, if_true, if_false, eq_self, nm_eq, reduceCtorEq, ↓reduceIte, nQ10, nQ7, nQ11, nQ12, nQ16, nQ17, nQ18, iQ2, iQ3, iQ4, iQ5, iQ6, lQ19, iQ7, lQ20, hlt, hr]
  have hnx : ∀ v' h2, Keep σ h2 → (PAcc σ.next 1 h2 v' ((M.take i).flatten.length + M[i].length) ((M.take i).flatten ++ M[i]) ∨ ((M.take (i + 1)).flatten = [] ∧ 0 < M.flatten.length ∧ RoomC σ h2 v')) → (PAcc σ.next 1 h2 v' (M.take (i + 1)).flatten.length (M.take (i + 1)).flatten ∨ ((M.take (i + 1)).flatten = [] ∧ 0 < M.flatten.length ∧ RoomC σ h2 v')) := fun v' h2 k h => h.imp (fun h => by rwa [e, flatC_take hlt]) fun h => h
  rcases ha with ha | ⟨h1, h2, s, cs, rfl, ho, hs1, hs2⟩
  · refine PAcc.cat (σb := σ) (bytes := 24) hkp ha rfl (by omega) (by omega) fun v' h2 k2 a2 => ?_
    simp only [pwA, if_true, if_false, eq_self, nm_eq, reduceCtorEq, ↓reduceIte, nQ10, nQ7, nQ11, nQ12, nQ16, nQ17, nQ18, iQ2, iQ3, iQ4, iQ5, iQ6, lQ19, iQ7, lQ20, wrapS hlt (by omega : M.length ≤ 4611686018427387904)]
    exact ⟨_, by omega, i + 1, v', by omega, rfl, rfl, k2, hnx _ _ k2 (.inl a2)⟩
  · by_cases hz : M[i].length = 0
    · have hnil : M[i] = [] := List.eq_nil_of_length_eq_zero hz
      have hap : pappend 1 24 h' (.sl s 0 0 (.grown 1)) (.fz w4 a4 M[i].length M[i]) = some (.sl s 0 0 (.grown 1), h') := by
        rw [pappend_eq, plen_fz, Option.bind_some, if_pos hz]; rfl
      simp only [pwA, if_true, if_false, eq_self, nm_eq, reduceCtorEq, ↓reduceIte, nQ10, nQ7, nQ11, nQ12, nQ16, nQ17, nQ18, iQ2, iQ3, iQ4, iQ5, iQ6, lQ19, iQ7, lQ20, hap, wrapS hlt (by omega : M.length ≤ 4611686018427387904)]
      refine ⟨_, by omega, i + 1, _, by omega, rfl, rfl, hkp, .inr ⟨by rw [flatC_take hlt, h1, hnil]; rfl, h2, s, cs, rfl, ho, hs1, hs2⟩⟩
    · have hap : pappend 1 24 h' (.sl s 0 0 (.grown 1)) (.fz w4 a4 M[i].length M[i]) = some (.sl h'.next 0 M[i].length (.grown 1), (h'.kill s).new M[i]) := by
        rw [pappend_eq, plen_fz, Option.bind_some, if_neg hz, pfirst_fz, if_neg hz, if_pos ⟨Nat.le_refl _, by omega, by omega⟩, Option.bind_some, pgrow_grown, if_pos ⟨by omega, by omega, rfl⟩, ho, Option.bind_some, if_pos (by omega)]
        rw [List.drop_zero, Nat.zero_mul, List.take_zero, List.nil_append, Nat.mul_one, List.take_of_length_le (Nat.le_refl _), Nat.zero_add]
      simp only [pwA, if_true, if_false, eq_self, nm_eq, reduceCtorEq, ↓reduceIte, nQ10, nQ7, nQ11, nQ12, nQ16, nQ17, nQ18, iQ2, iQ3, iQ4, iQ5, iQ6, lQ19, iQ7, lQ20, hap, wrapS hlt (by omega : M.length ≤ 4611686018427387904)]
      refine ⟨_, by omega, i + 1, _, by omega, rfl, rfl, (hkp.kill hs1).new _, .inl ?_⟩
      rw [flatC_take hlt, h1, List.nil_append]
      exact (PSl.own (.inl rfl) (by rw [pobj_new]; exact if_pos rfl) (by omega) hkp.next (Nat.lt_succ_self _)).acc
end Go.Proofs
namespace Go.Grp
end Go.Grp
namespace Go.Proofs
open Go.Ab Go.Lie Go.Grp
variable {σ : PHeap} {K : PV → PHeap → Prop} {O : List Int} {P : List (List Int)} {C : List (List (List Int))} {vO vP vC vx vy vL vU vB vg : PV} {x y z f a b g : List Int} {L u by_ : List (List Int)} {rP rC rb : List PV} {D : List (Option (List Int))} {d j sp ss sb n : Nat}
theorem newSequence_ok (s : Shp O P C) (hs : PtrG σ sp vO vP vC) (hR : IsPr vO vP vC O P C) (hk : ∀ ss sb h', Keep σ h' → σ.next ≤ ss → σ.next ≤ sb → SeqG h' ss sb sp O.length (List.replicate O.length (.fz true .nils 0 [])) vO vP vC → K (.ptr ss 0) h') :
    PCalls Tryz.prog 112 [.ptr sp 0] σ K := by
  have hn6 := s.le
  have hsl := hs.lt
  obtain ⟨⟨w0, a0, rfl⟩, _, _⟩ := hR
  have e0 : σ.rd1 sp 0 = some (.fz w0 a0 O.length (pis O)) := by rw [obj_rd1 hs.obj]; rfl
  refine pcalls_of_vp mix Tryz.func112 cf112 rfl ?_
  dsimp only [if112, qI, eI, nI, qD, eD]
  simp only [pwA, if_true, if_false, eq_self, nm_eq, reduceCtorEq, ↓reduceIte, nQ10, nQ7, nQ11, nQ12, nQ16, nQ17, nQ18, iQ2, iQ3, iQ4, iQ5, iQ6, lQ19, iQ7, lQ20, e0, mk24 (n := O.length) (by omega), mkL (n := O.length) (by omega)]
  exact hk (σ.next + 1) σ.next _ ((keep_new σ _).new _) (by omega) (Nat.le_refl _) ⟨by simp only [pwA, if_true, if_false, eq_self, nm_eq, reduceCtorEq, ↓reduceIte, nQ10, nQ7, nQ11, nQ12, nQ16, nQ17, nQ18, iQ2, iQ3, iQ4, iQ5, iQ6, lQ19, iQ7, lQ20], by simp only [pwA, if_true, if_false, eq_self, nm_eq, reduceCtorEq, ↓reduceIte, nQ10, nQ7, nQ11, nQ12, nQ16, nQ17, nQ18, iQ2, iQ3, iQ4, iQ5, iQ6, lQ19, iQ7, lQ20], by simp only [pwA, if_true, if_false, eq_self, nm_eq, reduceCtorEq, ↓reduceIte, nQ10, nQ7, nQ11, nQ12, nQ16, nQ17, nQ18, iQ2, iQ3, iQ4, iQ5, iQ6, lQ19, iQ7, lQ20], by simp only [pwA, if_true, if_false, eq_self, nm_eq, reduceCtorEq, ↓reduceIte, nQ10, nQ7, nQ11, nQ12, nQ16, nQ17, nQ18, iQ2, iQ3, iQ4, iQ5, iQ6, lQ19, iQ7, lQ20]; omega, (hs.new _).new _, by omega, by omega⟩
theorem canonical_ok (s : Shp O P C) (F : Full O P C O.length) (hC : Cent O C) (hq : SeqG σ ss sb sp O.length rb vO vP vC) (hR : IsPr vO vP vC O P C) (hD : OkD O D) (hrb : All2 (DRow O.length) rb D)
    (hk : ∀ v u, FII v u → Ones O u → u.length ≤ O.length → (∀ N, gN O P C N → ((∀ x ∈ u, N x) ↔ InD N D)) → K v σ) : PCalls Tryz.prog 114 [.ptr ss 0] σ K := by
  have hn6 := s.le
  have r0 : σ.rd1 ss 0 = some (.ptr sp 0) := by rw [obj_rd1 hq.obj]; rfl
  have r1 : σ.rd1 ss 1 = some (.sl sb 0 O.length (.known O.length)) := by rw [obj_rd1 hq.obj]; rfl
  have hw : IntKind.i64.wrap ((O.length : Int) - 1) = (O.length : Int) - 1 := wrap64 (by omega) (by omega)
  refine PCalls.gh ?_
  refine pcalls_of_vp mix Tryz.func114 cf114 rfl ?_
  dsimp only [if114, qI, eI, nI, qD, eD]
  simp only [pwA, if_true, if_false, eq_self, nm_eq, reduceCtorEq, ↓reduceIte, nQ10, nQ7, nQ11, nQ12, nQ16, nQ17, nQ18, iQ2, iQ3, iQ4, iQ5, iQ6, lQ19, iQ7, lQ20, r1, hw]
  refine vp_loopG (fun m vs h2 => ∃ (k : Nat) (vO : PV) (u : List (List Int)), k ≤ O.length ∧ m = k ∧ vs = [.ptr ss 0, vO, .int .i64 ((k : Int) - 1)] ∧ Keep σ h2 ∧ FII vO u ∧ Ones O u ∧ u.length + k ≤ O.length ∧ (∀ v ∈ u, k ≤ dep v) ∧ (∀ N, gN O P C N → ((∀ x ∈ u, N x) ↔ ∀ d y, k ≤ d → D[d]? = some (some y) → N y))) O.length (.here ⟨O.length, _, [], Nat.le_refl _, rfl, rfl, Keep.refl σ, ⟨_, _, _, rfl, All2.nil _⟩, fun v hv => (by cases hv), by simp, fun v hv => (by cases hv), fun N hN => ⟨fun _ d y h1 h2 => ?_, fun _ x hx => (by cases hx)⟩⟩) ?_
  · rw [List.getElem?_eq_none (by rw [hD.len]; exact h1)] at h2; cases h2
  rintro m vs h2 ⟨k, vU, u, hkn, rfl, rfl, hk2, hU, hu, hul, hud, hN⟩
  rcases Nat.eq_zero_or_pos m with rfl | hmp
  · simp only [pwA, if_true, if_false, eq_self, nm_eq, reduceCtorEq, ↓reduceIte, nQ10, nQ7, nQ11, nQ12, nQ16, nQ17, nQ18, iQ2, iQ3, iQ4, iQ5, iQ6, lQ19, iQ7, lQ20, show ¬ ((0 : Int) ≤ ((0 : Nat) : Int) - 1) by omega]
    exact Gh.fin0 hk2 (hU.bel _) (hk vU u hU hu (by omega) fun N h1 => (hN N h1).trans ⟨fun h d y hy => h d y (Nat.zero_le _) hy, fun h d y _ hy => h d y hy⟩)
  obtain ⟨k, rfl⟩ : ∃ k, m = k + 1 := ⟨m - 1, by omega⟩
  have e : ((k + 1 : Nat) : Int) - 1 = (k : Int) := by omega
  have hkn' : k < O.length := hkn
  have hrd := obj_rd1 (hq.keep hk2).bobj k
  have r0' : h2.rd1 ss 0 = some (.ptr sp 0) := by rw [obj_rd1 (hq.keep hk2).obj]; rfl
  have r1' : h2.rd1 ss 1 = some (.sl sb 0 O.length (.known O.length)) := by rw [obj_rd1 (hq.keep hk2).obj]; rfl
  rw [e]
  have hw2 : IntKind.i64.wrap ((k : Int) - 1) = (k : Int) - 1 := wrap64 (by omega) (by omega)
  rcases DRow.get hrb (d := k) (by rw [hD.len]; exact hkn') with ⟨e1, e2⟩ | ⟨oo, cap, y, e1, e2⟩
  · rw [e1] at hrd
    simp only [pwA, if_true, if_false, eq_self, nm_eq, reduceCtorEq, ↓reduceIte, nQ10, nQ7, nQ11, nQ12, nQ16, nQ17, nQ18, iQ2, iQ3, iQ4, iQ5, iQ6, lQ19, iQ7, lQ20, hkn', r1', hrd, hw2]
    refine ⟨_, Nat.lt_succ_self k, .here ⟨k, vU, u, by omega, rfl, rfl, hk2, hU, hu, by omega, fun v hv => by have := hud v hv; omega, fun N h1 => (hN N h1).trans ⟨fun h d y hd hy => ?_, fun h d y hd hy => h d y (by omega) hy⟩⟩⟩
    rcases Nat.lt_or_ge k d with x | x
    · exact h d y x hy
    · rw [show d = k by omega, e2] at hy; cases hy
  · rw [e1] at hrd
    obtain ⟨y1, y2⟩ := hD.row _ _ e2
    have yS : gS O y := y1.mono (Nat.zero_le _)
    simp only [pwA, if_true, if_false, eq_self, nm_eq, reduceCtorEq, ↓reduceIte, nQ10, nQ7, nQ11, nQ12, nQ16, nQ17, nQ18, iQ2, iQ3, iQ4, iQ5, iQ6, lQ19, iQ7, lQ20, hkn', r0', r1', hrd, hw2]
    refine representative_ok s F hC (by omega) (hq.keep hk2).pg hR hU hu (by omega) yS ⟨true, _, by rw [y1.len]⟩ fun oz capz z zS z1 z2 => ?_
    have za : ∀ j, j ≤ k → at_ z j = at_ y j := z1 k fun v hv => hud v hv
    have zt : TT O k z := ⟨zS.len, zS.bd, fun j hj => by rw [za j (by omega)]; exact y1.zero j hj⟩
    have zk : at_ z k = 1 := by rw [za k (Nat.le_refl _)]; exact y2
    have hzl := zS.len
    have zd : dep z = k := by
      have h1 := dep_ge zt (by omega)
      rcases Nat.lt_or_ge k (dep z) with h | h
      · rw [dep_zero h] at zk; omega
      · omega
    obtain ⟨wO, aO, rO, rfl, hrO⟩ := hU
    simp only [pwA, if_true, if_false, eq_self, nm_eq, reduceCtorEq, ↓reduceIte, nQ10, nQ7, nQ11, nQ12, nQ16, nQ17, nQ18, iQ2, iQ3, iQ4, iQ5, iQ6, lQ19, iQ7, lQ20]
    refine PSl.cat (bytes := 24) (σb := h2) (n := 1) (cs := [.fz true (.sl oz 0 O.length capz) O.length (pis z)]) (keep_new h2 _) (PSl.new _ 1 rfl (Nat.le_refl _)) hrO.1 (by omega) (by omega) fun v3 h3 k3 a3 => ?_
    obtain ⟨s3, cap3, rfl, hc3, ho3, hl3, hge3, hlt3⟩ := a3
    have hall : All2 FI ([.fz true (.sl oz 0 O.length capz) O.length (pis z)] ++ rO) (z :: u) := (All2.nil FI |>.snoc (⟨true, _, by rw [hzl]⟩ : FI (.fz true (.sl oz 0 O.length capz) O.length (pis z)) z)).append hrO
    have hkn2 := hk2.next
    simp only [pwA, if_true, if_false, eq_self, nm_eq, reduceCtorEq, ↓reduceIte, nQ10, nQ7, nQ11, nQ12, nQ16, nQ17, nQ18, iQ2, iQ3, iQ4, iQ5, iQ6, lQ19, iQ7, lQ20, hw2]
    refine ⟨k, Nat.lt_succ_self k, .fz s3 _ ho3 (hall.bI 0) fun o1 => .here ⟨k, .fz true (.sl o1 0 (1 + u.length) cap3) (1 + u.length) ([.fz true (.sl oz 0 O.length capz) O.length (pis z)] ++ rO), z :: u, by omega, rfl, ?_, (hk2.trans k3).kill (by omega), ⟨true, _, _, by rw [List.length_cons, Nat.add_comm], hall⟩, ?_, by simp; omega, ?_, fun N h1 => ?_⟩⟩
    · simp [sbs, Go.Ab.sb, hc3.ok]
    · intro v hv
      rcases List.mem_cons.1 hv with rfl | hv
      · exact ⟨zS, by omega, by rw [zd]; exact zk⟩
      · exact hu v hv
    · intro v hv
      rcases List.mem_cons.1 hv with rfl | hv
      · omega
      · have := hud v hv; omega
    · have hsplit : (∀ d y, k ≤ d → D[d]? = some (some y) → N y) ↔ (N y ∧ ∀ d y, k + 1 ≤ d → D[d]? = some (some y) → N y) := by
        refine ⟨fun h => ⟨h k y (Nat.le_refl _) e2, fun d y hd hy => h d y (by omega) hy⟩, fun ⟨h3, h4⟩ d y' hd hy => ?_⟩
        rcases Nat.lt_or_ge k d with x | x
        · exact h4 d y' x hy
        · rw [show d = k by omega, e2] at hy; cases hy; exact h3
      rw [hsplit, ← hN N h1, List.forall_mem_cons]
      refine ⟨fun ⟨h3, h4⟩ => ⟨(z2 N h1 h4).2 h3, h4⟩, fun ⟨h3, h4⟩ => ⟨(z2 N h1 h4).1 h3, h4⟩⟩
noncomputable abbrev gcnj (O : List Int) (P : List (List Int)) (C : List (List (List Int))) (x g : List Int) : List Int := cnj (gS O) (gm O P C) (zv O) x g
theorem conjugates_ok (s : Shp O P C) (F : Full O P C O.length) (hs : PtrG σ sp vO vP vC) (hR : IsPr vO vP vC O P C) (hU : FII vU u) (hu : ∀ x ∈ u, gS O x) (hul : u.length ≤ 1000) (hg : gS O g) (hvg : FI vg g) (hk : ∀ v, FII v (u.map fun y => gcnj O P C y g) → K v σ) :
    PCalls Tryz.prog 209 [.ptr sp 0, vU, vg] σ K := by
  have up : ∀ {z : List Int}, gS O z → TT O (O.length - O.length) z := fun h => by rw [Nat.sub_self]; exact h
  have dn : ∀ {z : List Int}, TT O (O.length - O.length) z → gS O z := fun h => by rw [Nat.sub_self] at h; exact h
  obtain ⟨wl, al, rl, rfl, hrl⟩ := hU
  have hvg0 := hvg
  obtain ⟨wg, ag, rfl⟩ := hvg
  refine PCalls.gh ?_
  refine pcalls_of_vp mix Tryz.func209 cf209 rfl ?_
  dsimp only [if209, qI, eI, nI, qD, eD]
  simp only [pwA, if_true, if_false, eq_self, nm_eq, reduceCtorEq, ↓reduceIte, nQ10, nQ7, nQ11, nQ12, nQ16, nQ17, nQ18, iQ2, iQ3, iQ4, iQ5, iQ6, lQ19, iQ7, lQ20]
  refine vp_loop (fun m vs h' => ∃ (i : Nat) (v : PV) (rows : List PV), i ≤ u.length ∧ m = u.length - i ∧ vs = [.ptr sp 0, .fz wg ag g.length (pis g), v, .fz wl al u.length rl, .int .i64 u.length, .int .i64 i] ∧ Keep σ h' ∧ PAcc σ.next 1 h' v i rows ∧ All2 FI rows ((u.take i).map fun y => gcnj O P C y g)) u.length ?_ ?_
  · exact ⟨0, _, [], by omega, by omega, rfl, Keep.refl σ, PAcc.nil _ _ _, by simpa using All2.nil _⟩
  rintro m vs h' ⟨i, v, rows, hi, rfl, rfl, hkp, ha, hall⟩
  simp only [pwA, if_true, if_false, eq_self, nm_eq, reduceCtorEq, ↓reduceIte, nQ10, nQ7, nQ11, nQ12, nQ16, nQ17, nQ18, iQ2, iQ3, iQ4, iQ5, iQ6, lQ19, iQ7, lQ20]
  refine iteI (fun hlt => ?_) fun hge => ?_
  rotate_left
  · have hie : i = u.length := by omega
    subst hie
    rw [List.take_length] at hall
    exact ha.fin hkp (hall.bI 0) fun a => hk _ ⟨true, a, rows, by rw [List.length_map], hall⟩
  obtain ⟨w4, a4, hr⟩ := hrl.rowI hlt
  have hui := hu _ (List.getElem_mem hlt)
  simp only [pwA, if_true, if_false, eq_self, nm_eq, reduceCtorEq, ↓reduceIte, nQ10, nQ7, nQ11, nQ12, nQ16, nQ17, nQ18, iQ2, iQ3, iQ4, iQ5, iQ6, lQ19, iQ7, lQ20, hlt, hr]
  refine conjugate_fz s F (hs.keep hkp) hR (up hui) (up hg) ⟨w4, a4, rfl⟩ hvg0 fun v1 z h1 h2 f1 => ?_
  obtain rfl : z = gcnj O P C u[i] g := F.g.cnj_eq hui hg (dn h1) h2
  have f1' := f1
  obtain ⟨w1, a1, rfl⟩ := f1
  simp only [pwA, if_true, if_false, eq_self, nm_eq, reduceCtorEq, ↓reduceIte, nQ10, nQ7, nQ11, nQ12, nQ16, nQ17, nQ18, iQ2, iQ3, iQ4, iQ5, iQ6, lQ19, iQ7, lQ20]
  refine PAcc.push (bytes := 24) hkp ha (by omega) (by omega) fun v' h2 k2 a2 => ?_
  simp only [pwA, if_true, if_false, eq_self, nm_eq, reduceCtorEq, ↓reduceIte, nQ10, nQ7, nQ11, nQ12, nQ16, nQ17, nQ18, iQ2, iQ3, iQ4, iQ5, iQ6, lQ19, iQ7, lQ20, wrapS hlt (by omega : u.length ≤ 4611686018427387904)]
  refine ⟨_, by omega, i + 1, v', rows ++ [.fz w1 a1 (gcnj O P C u[i] g).length (pis (gcnj O P C u[i] g))], by omega, rfl, rfl, k2, a2.acc, ?_⟩
  rw [List.take_succ_eq_append_getElem hlt, List.map_append]
  exact hall.snoc f1'
theorem closure_ok (s : Shp O P C) (F : Full O P C O.length) (hC : Cent O C) (hp : ∀ o ∈ O, isP o) (hs : PtrG σ sp vO vP vC) (hR : IsPr vO vP vC O P C) (hL : FII vL L) (hgL : ∀ x ∈ L, gS O x) (hLl : L.length ≤ 1000000) (hB : FII vB by_) (hb : ∀ x ∈ by_, gS O x) (hbl : by_.length ≤ 1000000)
    (hk : ∀ v u, FII v u → Ones O u → u.length ≤ O.length → (∀ N, gN O P C N → ((∀ x ∈ u, N x) ↔ ∀ x ∈ L, N x)) → K v σ) : PCalls Tryz.prog 204 [.ptr sp 0, vL, vB] σ K := by
  have hn6 := s.le
  have hLL := hL
  obtain ⟨wl, al, rl, rfl, hrl⟩ := hL
  obtain ⟨wb, ab, rb, rfl, hrb⟩ := hB
  refine PCalls.gh ?_
  refine pcalls_of_vp mix Tryz.func204 cf204 rfl ?_
  dsimp only [if204, qI, eI, nI, qD, eD]
  simp only [pwA, if_true, if_false, eq_self, nm_eq, reduceCtorEq, ↓reduceIte, nQ10, nQ7, nQ11, nQ12, nQ16, nQ17, nQ18, iQ2, iQ3, iQ4, iQ5, iQ6, lQ19, iQ7, lQ20]
  refine newSequence_ok s hs hR fun ss sb h1 k1 n1 n2 q1 => ?_
  simp only [pwA, if_true, if_false, eq_self, nm_eq, reduceCtorEq, ↓reduceIte, nQ10, nQ7, nQ11, nQ12, nQ16, nQ17, nQ18, iQ2, iQ3, iQ4, iQ5, iQ6, lQ19, iQ7, lQ20]
  refine add_ok s F hC hp q1 hR (OkD.start O.length rfl) ⟨by simp, fun k c r hc hr => ?_⟩ hLL hgL hLl fun t rb' D' hrb' hD' hN' hf hf' => ?_
  · rw [List.getElem?_replicate] at hc hr
    split at hc
    · rename_i h
      rw [if_pos h] at hr
      cases hc; cases hr; exact .inl ⟨rfl, rfl⟩
    · cases hc
  have hN0 : ∀ N, gN O P C N → (InD N D' ↔ ∀ q ∈ L, N q) := fun N hN => (hN' N hN).trans ⟨fun h => h.2, fun h => ⟨InD.start _, h⟩⟩
  simp only [pwA, if_true, if_false, eq_self, nm_eq, reduceCtorEq, ↓reduceIte, nQ10, nQ7, nQ11, nQ12, nQ16, nQ17, nQ18, iQ2, iQ3, iQ4, iQ5, iQ6, lQ19, iQ7, lQ20]
  refine vp_loop (fun m us h' => ∃ (g : Bool) (rb2 : List PV) (D2 : List (Option (List Int))), m = 2 * free D2 + (if g = true then 1 else 0) ∧ us = [.ptr sp 0, .fz wb ab by_.length rb, .ptr ss 0, .bool g] ∧ h' = h1.set sb rb2 ∧ All2 (DRow O.length) rb2 D2 ∧ OkD O D2 ∧ ∀ N, gN O P C N → (InD N D2 ↔ ∀ q ∈ L, N q)) (2 * free D' + 1) ⟨true, rb', D', by rw [if_pos rfl], rfl, rfl, hrb', hD', hN0⟩ ?_
  rintro m us h' ⟨g, rb2, D2, rfl, rfl, rfl, hrb2, hD2, hN2⟩
  have hq2 := q1.setB rb2
  cases g with
  | false =>
    simp only [pwA, if_true, if_false, eq_self, nm_eq, reduceCtorEq, ↓reduceIte, nQ10, nQ7, nQ11, nQ12, nQ16, nQ17, nQ18, iQ2, iQ3, iQ4, iQ5, iQ6, lQ19, iQ7, lQ20]
    refine canonical_ok s F hC hq2 hR hD2 hrb2 fun v u f1 f2 f3 f4 => ?_
    simp only [pwA, if_true, if_false, eq_self, nm_eq, reduceCtorEq, ↓reduceIte, nQ10, nQ7, nQ11, nQ12, nQ16, nQ17, nQ18, iQ2, iQ3, iQ4, iQ5, iQ6, lQ19, iQ7, lQ20]
    exact Gh.fin0 (k1.set n2 _) (f1.bel _) (hk v u f1 f2 f3 fun N hN => (f4 N hN).trans (hN2 N hN))
  | true =>
  simp only [pwA, if_true, if_false, eq_self, nm_eq, reduceCtorEq, ↓reduceIte, nQ10, nQ7, nQ11, nQ12, nQ16, nQ17, nQ18, iQ2, iQ3, iQ4, iQ5, iQ6, lQ19, iQ7, lQ20]
  refine canonical_ok s F hC hq2 hR hD2 hrb2 fun v u f1 f2 f3 f4 => ?_
  have f1' := f1
  obtain ⟨wu, au, ru, rfl, hru⟩ := f1
  simp only [pwA, if_true, if_false, eq_self, nm_eq, reduceCtorEq, ↓reduceIte, nQ10, nQ7, nQ11, nQ12, nQ16, nQ17, nQ18, iQ2, iQ3, iQ4, iQ5, iQ6, lQ19, iQ7, lQ20]
  refine vp_loop (fun m us h' => ∃ (i : Nat) (g : Bool) (rb3 : List PV) (D3 : List (Option (List Int))), i ≤ by_.length ∧ m = by_.length - i ∧ us = [.ptr sp 0, .fz wb ab by_.length rb, .ptr ss 0, .bool g, .fz wu au u.length ru, .fz wb ab by_.length rb, .int .i64 by_.length, .int .i64 i] ∧ h' = h1.set sb rb3 ∧ All2 (DRow O.length) rb3 D3 ∧ OkD O D3 ∧ (∀ N, gN O P C N → (InD N D3 ↔ ∀ q ∈ L, N q)) ∧ free D3 ≤ free D2 ∧ (g = true → free D3 < free D2)) by_.length ⟨0, false, rb2, D2, by omega, by omega, rfl, rfl, hrb2, hD2, hN2, Nat.le_refl _, by simp⟩ ?_
  rintro m us h' ⟨i, g, rb3, D3, hi, rfl, rfl, rfl, hrb3, hD3, hN3, hf3, hg3⟩
  have hq3 := q1.setB rb3
  simp only [pwA, if_true, if_false, eq_self, nm_eq, reduceCtorEq, ↓reduceIte, nQ10, nQ7, nQ11, nQ12, nQ16, nQ17, nQ18, iQ2, iQ3, iQ4, iQ5, iQ6, lQ19, iQ7, lQ20]
  refine iteI (fun hlt => ?_) fun hge => ?_
  rotate_left
  · cases g with
    | true =>
      have := hg3 rfl
      exact ⟨2 * free D3 + 1, by omega, true, rb3, D3, by simp, rfl, rfl, hrb3, hD3, hN3⟩
    | false => exact ⟨2 * free D3, by omega, false, rb3, D3, by simp, rfl, rfl, hrb3, hD3, hN3⟩
  obtain ⟨w4, a4, hr⟩ := hrb.rowI hlt
  have hgi := hb _ (List.getElem_mem hlt)
  simp only [pwA, if_true, if_false, eq_self, nm_eq, reduceCtorEq, ↓reduceIte, nQ10, nQ7, nQ11, nQ12, nQ16, nQ17, nQ18, iQ2, iQ3, iQ4, iQ5, iQ6, lQ19, iQ7, lQ20, hlt, hr]
  refine conjugates_ok s F hq3.pg hR f1' (fun x hx => (f2 x hx).1) (by omega) hgi ⟨w4, a4, rfl⟩ fun vc fc => ?_
  simp only [pwA, if_true, if_false, eq_self, nm_eq, reduceCtorEq, ↓reduceIte, nQ10, nQ7, nQ11, nQ12, nQ16, nQ17, nQ18, iQ2, iQ3, iQ4, iQ5, iQ6, lQ19, iQ7, lQ20]
  refine add_ok s F hC hp hq3 hR hD3 hrb3 fc (fun x hx => ?_) (by rw [List.length_map]; omega) fun t4 rb4 D4 hrb4 hD4 hN4 hf4 hg4 => ?_
  · obtain ⟨y, hy, rfl⟩ := List.mem_map.1 hx
    exact F.g.cnj_in (f2 y hy).1 hgi
  have hN5 : ∀ N, gN O P C N → (InD N D4 ↔ ∀ q ∈ L, N q) := fun N hN => (hN4 N hN).trans ⟨fun h => (hN3 N hN).1 h.1, fun h => ⟨(hN3 N hN).2 h, fun q hq => by
    obtain ⟨y, hy, rfl⟩ := List.mem_map.1 hq
    exact hN.nor ((f4 N hN).2 ((hN2 N hN).2 h) y hy) hgi⟩⟩
  have hss : (h1.set sb rb3).set sb rb4 = h1.set sb rb4 := by
    simp only [PHeap.set, PHeap.mk.injEq, true_and]
    funext t
    split <;> rfl
  rw [hss]
  cases t4 with
  | true =>
    have := hg4 rfl
    simp only [pwA, if_true, if_false, eq_self, nm_eq, reduceCtorEq, ↓reduceIte, nQ10, nQ7, nQ11, nQ12, nQ16, nQ17, nQ18, iQ2, iQ3, iQ4, iQ5, iQ6, lQ19, iQ7, lQ20, wrapS hlt (by omega : by_.length ≤ 4611686018427387904)]
    exact ⟨_, by omega, i + 1, true, rb4, D4, by omega, rfl, rfl, rfl, hrb4, hD4, hN5, by omega, fun _ => by omega⟩
  | false =>
    simp only [pwA, if_true, if_false, eq_self, nm_eq, reduceCtorEq, ↓reduceIte, nQ10, nQ7, nQ11, nQ12, nQ16, nQ17, nQ18, iQ2, iQ3, iQ4, iQ5, iQ6, lQ19, iQ7, lQ20, wrapS hlt (by omega : by_.length ≤ 4611686018427387904)]
    exact ⟨_, by omega, i + 1, g, rb4, D4, by omega, rfl, rfl, rfl, hrb4, hD4, hN5, by omega, fun h => by have := hg3 h; omega⟩
end Go.Proofs
namespace Go.Grp
end Go.Grp
namespace Go.Proofs
open Go.Ab Go.Lie Go.Grp
variable {σ : PHeap} {K : PV → PHeap → Prop} {O : List Int} {P : List (List Int)} {C : List (List (List Int))} {vO vP vC vx vy vL vU vV vB vg : PV} {x y z f a b g : List Int} {L u v z' : List (List Int)} {rP rC rb : List PV} {D : List (Option (List Int))} {d j sp ss sb n : Nat}
theorem isCen.cent (s : Shp O P C) (h : isCen O C) : Cent O C := fun i j hij hj => by
  obtain ⟨_, h2⟩ := h i (by omega)
  have hc := s.cj i j hij hj
  have h3 := h2 (j - i - 1) (by omega)
  unfold cenE at h3
  rw [show i + (1 + (j - i - 1)) = j by omega] at h3
  refine ⟨⟨hc.len, hc.bd, fun t ht => ?_⟩, h3.1⟩
  have hl : t < (cvec C i j).length := by rw [hc.len]; omega
  rw [at_eq hl]
  exact h3.2 _ (by rw [List.mem_take_iff_getElem]; exact ⟨t, by omega, rfl⟩)
theorem unitsG_take (i : Nat) : ((List.range (i + 1)).map (Grp.unit O)) = ((List.range i).map (Grp.unit O)) ++ [Grp.unit O i] := by
  rw [List.range_succ, List.map_append]; rfl
theorem generators_ok (s : Shp O P C) (hs : PtrG σ sp vO vP vC) (hR : IsPr vO vP vC O P C) (hk : ∀ v, FII v (unitsG O) → K v σ) : PCalls Tryz.prog 203 [.ptr sp 0] σ K := by
  have hn6 := s.le
  obtain ⟨⟨w0, a0, rfl⟩, _, _⟩ := hR
  have e0 : ∀ {h : PHeap}, Keep σ h → h.rd1 sp 0 = some (.fz w0 a0 O.length (pis O)) := fun k => by rw [obj_rd1 (hs.keep k).obj]; rfl
  refine PCalls.gh ?_
  refine pcalls_of_vp mix Tryz.func203 cf203 rfl ?_
  dsimp only [if203, qI, eI, nI, qD, eD]
  simp only [pwA, if_true, if_false, eq_self, nm_eq, reduceCtorEq, ↓reduceIte, nQ10, nQ7, nQ11, nQ12, nQ16, nQ17, nQ18, iQ2, iQ3, iQ4, iQ5, iQ6, lQ19, iQ7, lQ20, e0 (Keep.refl σ)]
  refine vp_loop (fun m vs h' => ∃ (i : Nat) (v : PV) (rows : List PV), i ≤ O.length ∧ m = O.length - i ∧ vs = [.ptr sp 0, v, .int .i64 O.length, .int .i64 i] ∧ Keep σ h' ∧ PAcc σ.next 1 h' v i rows ∧ All2 FI rows ((List.range i).map (Grp.unit O))) O.length ?_ ?_
  · exact ⟨0, _, [], by omega, by omega, rfl, Keep.refl σ, PAcc.nil _ _ _, All2.nil _⟩
  rintro m vs h' ⟨i, v, rows, hi, rfl, rfl, hkp, ha, hall⟩
  simp only [pwA, if_true, if_false, eq_self, nm_eq, reduceCtorEq, ↓reduceIte, nQ10, nQ7, nQ11, nQ12, nQ16, nQ17, nQ18, iQ2, iQ3, iQ4, iQ5, iQ6, lQ19, iQ7, lQ20]
  refine iteI (fun hlt => ?_) fun hge => ?_
  rotate_left
  · have hie : i = O.length := by omega
    subst hie
    exact ha.fin hkp (hall.bI 0) fun a => hk _ ⟨true, a, rows, by unfold unitsG; rw [List.length_map, List.length_range], hall⟩
  have hlt' : i < O.length := by omega
  simp only [pwA, if_true, if_false, eq_self, nm_eq, reduceCtorEq, ↓reduceIte, nQ10, nQ7, nQ11, nQ12, nQ16, nQ17, nQ18, iQ2, iQ3, iQ4, iQ5, iQ6, lQ19, iQ7, lQ20, e0 hkp]
  refine unitVector_fz (by omega) hlt' fun a1 => ?_
  simp only [pwA, if_true, if_false, eq_self, nm_eq, reduceCtorEq, ↓reduceIte, nQ10, nQ7, nQ11, nQ12, nQ16, nQ17, nQ18, iQ2, iQ3, iQ4, iQ5, iQ6, lQ19, iQ7, lQ20]
  refine PAcc.push (bytes := 24) hkp ha (by omega) (by omega) fun v' h2 k2 a2 => ?_
  simp only [pwA, if_true, if_false, eq_self, nm_eq, reduceCtorEq, ↓reduceIte, nQ10, nQ7, nQ11, nQ12, nQ16, nQ17, nQ18, iQ2, iQ3, iQ4, iQ5, iQ6, lQ19, iQ7, lQ20, wrapS hlt' (by omega : O.length ≤ 4611686018427387904)]
  refine ⟨_, by omega, i + 1, v', _, by omega, rfl, rfl, k2, a2.acc, ?_⟩
  rw [unitsG_take]
  exact hall.snoc ⟨true, a1, by simp; rfl⟩
theorem whole_ok (s : Shp O P C) (hs : PtrG σ sp vO vP vC) (hR : IsPr vO vP vC O P C) (hk : ∀ v, FII v (unitsG O) → K v σ) : PCalls Tryz.prog 188 [.ptr sp 0] σ K := by
  refine pcalls_of_vp mix Tryz.func188 cf188 rfl ?_
  dsimp only [if188, qI, eI, nI, qD, eD]
  simp only [pwA, if_true, if_false, eq_self, nm_eq, reduceCtorEq, ↓reduceIte, nQ10, nQ7, nQ11, nQ12, nQ16, nQ17, nQ18, iQ2, iQ3, iQ4, iQ5, iQ6, lQ19, iQ7, lQ20]
  refine generators_ok s hs hR fun v hv => ?_
  simp only [pwA, if_true, if_false, eq_self, nm_eq, reduceCtorEq, ↓reduceIte, nQ10, nQ7, nQ11, nQ12, nQ16, nQ17, nQ18, iQ2, iQ3, iQ4, iQ5, iQ6, lQ19, iQ7, lQ20]
  exact hk v hv
theorem commutatorSubgroup_ok (s : Shp O P C) (F : Full O P C O.length) (hC : Cent O C) (hp : ∀ o ∈ O, isP o) (hs : PtrG σ sp vO vP vC) (hR : IsPr vO vP vC O P C) (hU : FII vU u) (hu : ∀ x ∈ u, gS O x) (hul : u.length ≤ 100) (hV : FII vV v) (hv : ∀ x ∈ v, gS O x) (hvl : v.length ≤ 100)
    (hk : ∀ w z, FII w z → Ones O z → z.length ≤ O.length → (∀ N, gN O P C N → ((∀ x ∈ z, N x) ↔ ∀ x ∈ u, ∀ y ∈ v, N (gcom O P C x y))) → K w σ) : PCalls Tryz.prog 190 [.ptr sp 0, vU, vV] σ K := by
  have hn6 := s.le
  have G := F.g
  have hUU := hU
  have hVV := hV
  obtain ⟨wu, au, ru, rfl, hru⟩ := hU
  obtain ⟨wv, av, rv, rfl, hrv⟩ := hV
  refine PCalls.gh ?_
  refine pcalls_of_vp mix Tryz.func190 cf190 rfl ?_
  dsimp only [if190, qI, eI, nI, qD, eD]
  simp only [pwA, if_true, if_false, eq_self, nm_eq, reduceCtorEq, ↓reduceIte, nQ10, nQ7, nQ11, nQ12, nQ16, nQ17, nQ18, iQ2, iQ3, iQ4, iQ5, iQ6, lQ19, iQ7, lQ20]
  refine vp_loop (fun m vs h' => ∃ (i : Nat) (vA : PV) (rows : List PV) (E : List (List Int)), i ≤ u.length ∧ m = u.length - i ∧ vs = [.ptr sp 0, .fz wu au u.length ru, .fz wv av v.length rv, vA, .fz wu au u.length ru, .int .i64 u.length, .int .i64 i] ∧ Keep σ h' ∧ PAcc σ.next 1 h' vA E.length rows ∧ All2 FI rows E ∧ (∀ x ∈ E, gS O x) ∧ E.length ≤ i * v.length ∧ ∀ N, gN O P C N → ((∀ e ∈ E, N e) ↔ ∀ x ∈ u.take i, ∀ y ∈ v, N (gcom O P C x y))) u.length ?_ ?_
  · exact ⟨0, _, [], [], by omega, by omega, rfl, Keep.refl σ, PAcc.nil _ _ _, All2.nil _, by simp, by simp, fun N hN => by simp⟩
  rintro m vs h' ⟨i, vA, rows, E, hi, rfl, rfl, hkp, ha, hall, hE, hEl, hEN⟩
  have hil : i * v.length ≤ 100 * 100 := Nat.mul_le_mul (by omega) hvl
  simp only [pwA, if_true, if_false, eq_self, nm_eq, reduceCtorEq, ↓reduceIte, nQ10, nQ7, nQ11, nQ12, nQ16, nQ17, nQ18, iQ2, iQ3, iQ4, iQ5, iQ6, lQ19, iQ7, lQ20]
  refine iteI (fun hlt => ?_) fun hge => ?_
  rotate_left
  · have hie : i = u.length := by omega
    subst hie
    rw [List.take_length] at hEN
    have hkn := hkp.next
    simp only [pwA, if_true, if_false, eq_self, nm_eq, reduceCtorEq, ↓reduceIte, nQ10, nQ7, nQ11, nQ12, nQ16, nQ17, nQ18, iQ2, iQ3, iQ4, iQ5, iQ6, lQ19, iQ7, lQ20]
    refine PCalls.frz (s := h'.next) (cs := [.fz wu au u.length ru, .fz wv av v.length rv]) (by simp only [pwA, if_true, if_false, eq_self, nm_eq, reduceCtorEq, ↓reduceIte, nQ10, nQ7, nQ11, nQ12, nQ16, nQ17, nQ18, iQ2, iQ3, iQ4, iQ5, iQ6, lQ19, iQ7, lQ20]) ⟨trivial, trivial, trivial⟩ fun o1 => ?_
    simp only [pwA, if_true, if_false, eq_self, nm_eq, reduceCtorEq, ↓reduceIte, nQ10, nQ7, nQ11, nQ12, nQ16, nQ17, nQ18, iQ2, iQ3, iQ4, iQ5, iQ6, lQ19, iQ7, lQ20]
    simp only [sbs, Go.Ab.sb, capOK, decide_true, Nat.le_refl, and_self, if_true]
    refine ConcatC_ok (M := [ru, rv]) ⟨rfl, fun k c r hc hr => ?_⟩ ?_ (by simp) (by simp [hru.1, hrv.1]; omega) fun ac => ?_
    · match k with
      | 0 => cases hc; cases hr; exact ⟨wu, au, by rw [hru.1]⟩
      | 1 => cases hc; cases hr; exact ⟨wv, av, by rw [hrv.1]⟩
      | k + 2 => simp at hc
    · intro c hc
      simp only [List.mem_cons, List.not_mem_nil, or_false] at hc
      rcases hc with rfl | rfl
      · exact hru.bI 0
      · exact hrv.bI 0
    have hfl : [ru, rv].flatten = ru ++ rv := by simp
    have hrr : All2 FI (ru ++ rv) (u ++ v) := hru.append hrv
    have hkk : Keep σ ((h'.new [.fz wu au u.length ru, .fz wv av v.length rv]).kill h'.next) := (hkp.new _).kill hkn
    have hB : FII (.fz true ac (ru ++ rv).length (ru ++ rv)) (u ++ v) := ⟨true, ac, _, by rw [hrr.1], hrr⟩
    have hbb : ∀ x ∈ u ++ v, gS O x := fun x hx => (List.mem_append.1 hx).elim (hu x) (hv x)
    rw [hfl]
    simp only [pwA, if_true, if_false, eq_self, nm_eq, reduceCtorEq, ↓reduceIte, nQ10, nQ7, nQ11, nQ12, nQ16, nQ17, nQ18, iQ2, iQ3, iQ4, iQ5, iQ6, lQ19, iQ7, lQ20]
    rcases ha with ⟨rfl, h0, rfl⟩ | ⟨t, cap, rfl, hc1, q2, q3, q4, q5⟩
    · obtain rfl : E = [] := List.eq_nil_of_length_eq_zero h0
      refine closure_ok s F hC hp (hs.keep hkk) hR ⟨true, .nils, [], rfl, hall⟩ hE (by simp) hB hbb (by rw [List.length_append]; omega) fun w z f1 f2 f3 f4 => ?_
      simp only [pwA, if_true, if_false, eq_self, nm_eq, reduceCtorEq, ↓reduceIte, nQ10, nQ7, nQ11, nQ12, nQ16, nQ17, nQ18, iQ2, iQ3, iQ4, iQ5, iQ6, lQ19, iQ7, lQ20]
      exact Gh.fin0 hkk (f1.bel _) (hk w z f1 f2 f3 fun N hN => (f4 N hN).trans (hEN N hN))
    · have hne : ¬ t = h'.next := by omega
      refine PCalls.frz (s := t) (cs := rows) (by simp only [pwA, if_true, if_false, eq_self, nm_eq, reduceCtorEq, ↓reduceIte, nQ10, nQ7, nQ11, nQ12, nQ16, nQ17, nQ18, iQ2, iQ3, iQ4, iQ5, iQ6, lQ19, iQ7, lQ20, hne]; exact q2) (hall.bI 0) fun o2 => ?_
      simp only [sbs, Go.Ab.sb, hc1.ok, and_self, if_true]
      refine closure_ok s F hC hp (hs.keep (hkk.kill q4)) hR (L := E) ⟨true, _, rows, rfl, hall⟩ hE (by omega) hB hbb (by rw [List.length_append]; omega) fun w z f1 f2 f3 f4 => ?_
      simp only [pwA, if_true, if_false, eq_self, nm_eq, reduceCtorEq, ↓reduceIte, nQ10, nQ7, nQ11, nQ12, nQ16, nQ17, nQ18, iQ2, iQ3, iQ4, iQ5, iQ6, lQ19, iQ7, lQ20]
      exact Gh.fin0 (hkk.kill q4) (f1.bel _) (hk w z f1 f2 f3 fun N hN => (f4 N hN).trans (hEN N hN))
  obtain ⟨w4, a4, hr⟩ := hru.rowI hlt
  have hui := hu _ (List.getElem_mem hlt)
  simp only [pwA, if_true, if_false, eq_self, nm_eq, reduceCtorEq, ↓reduceIte, nQ10, nQ7, nQ11, nQ12, nQ16, nQ17, nQ18, iQ2, iQ3, iQ4, iQ5, iQ6, lQ19, iQ7, lQ20, hlt, hr]
  refine vp_loop (fun m vs h2 => ∃ (q : Nat) (vA : PV) (rows : List PV) (E : List (List Int)), q ≤ v.length ∧ m = v.length - q ∧ vs = [.ptr sp 0, .fz wu au u.length ru, .fz wv av v.length rv, vA, .fz w4 a4 u[i].length (pis u[i]), .fz wu au u.length ru, .int .i64 u.length, .int .i64 i, .fz wv av v.length rv, .int .i64 v.length, .int .i64 q] ∧ Keep σ h2 ∧ PAcc σ.next 1 h2 vA E.length rows ∧ All2 FI rows E ∧ (∀ x ∈ E, gS O x) ∧ E.length ≤ i * v.length + q ∧ ∀ N, gN O P C N → ((∀ e ∈ E, N e) ↔ ((∀ x ∈ u.take i, ∀ y ∈ v, N (gcom O P C x y)) ∧ ∀ y ∈ v.take q, N (gcom O P C u[i] y)))) v.length ?_ ?_
  · exact ⟨0, vA, rows, E, by omega, by omega, rfl, hkp, ha, hall, hE, hEl, fun N hN => (hEN N hN).trans (by simp)⟩
  clear hkp ha hall hE hEl hEN rows E vA
  rintro m vs h2 ⟨q, vA, rows, E, hq, rfl, rfl, hkp, ha, hall, hE, hEl, hEN⟩
  simp only [pwA, if_true, if_false, eq_self, nm_eq, reduceCtorEq, ↓reduceIte, nQ10, nQ7, nQ11, nQ12, nQ16, nQ17, nQ18, iQ2, iQ3, iQ4, iQ5, iQ6, lQ19, iQ7, lQ20]
  refine iteI (fun hltq => ?_) fun hgeq => ?_
  rotate_left
  · have hqe : q = v.length := by omega
    subst hqe
    rw [List.take_length] at hEN
    simp only [pwA, if_true, if_false, eq_self, nm_eq, reduceCtorEq, ↓reduceIte, nQ10, nQ7, nQ11, nQ12, nQ16, nQ17, nQ18, iQ2, iQ3, iQ4, iQ5, iQ6, lQ19, iQ7, lQ20, wrapS hlt (by omega : u.length ≤ 4611686018427387904)]
    refine ⟨_, by omega, i + 1, vA, rows, E, by omega, rfl, rfl, hkp, ha, hall, hE, by rw [Nat.succ_mul]; exact hEl, fun N hN => (hEN N hN).trans ?_⟩
    rw [List.take_succ_eq_append_getElem hlt]
    simp only [List.mem_append, List.mem_singleton]
    exact ⟨fun ⟨h1, h2⟩ x hx y hy => hx.elim (fun h => h1 x h y hy) (fun h => by rw [h]; exact h2 y hy), fun h => ⟨fun x hx y hy => h x (.inl hx) y hy, fun y hy => h _ (.inr rfl) y hy⟩⟩
  obtain ⟨w5, a5, hr5⟩ := hrv.rowI hltq
  have hvq := hv _ (List.getElem_mem hltq)
  simp only [pwA, if_true, if_false, eq_self, nm_eq, reduceCtorEq, ↓reduceIte, nQ10, nQ7, nQ11, nQ12, nQ16, nQ17, nQ18, iQ2, iQ3, iQ4, iQ5, iQ6, lQ19, iQ7, lQ20, hltq, hr5]
  refine commutator_fz s F (hs.keep hkp) hR hui hvq ⟨w4, a4, rfl⟩ ⟨w5, a5, rfl⟩ fun vc fc => ?_
  have fc' := fc
  obtain ⟨wc, ac, rfl⟩ := fc
  simp only [pwA, if_true, if_false, eq_self, nm_eq, reduceCtorEq, ↓reduceIte, nQ10, nQ7, nQ11, nQ12, nQ16, nQ17, nQ18, iQ2, iQ3, iQ4, iQ5, iQ6, lQ19, iQ7, lQ20]
  refine PAcc.push (bytes := 24) hkp ha (by omega) (by omega) fun v' h3 k3 a3 => ?_
  simp only [pwA, if_true, if_false, eq_self, nm_eq, reduceCtorEq, ↓reduceIte, nQ10, nQ7, nQ11, nQ12, nQ16, nQ17, nQ18, iQ2, iQ3, iQ4, iQ5, iQ6, lQ19, iQ7, lQ20, wrapS hltq (by omega : v.length ≤ 4611686018427387904)]
  refine ⟨_, by omega, q + 1, v', rows ++ [.fz wc ac (gcom O P C u[i] v[q]).length (pis (gcom O P C u[i] v[q]))], E ++ [gcom O P C u[i] v[q]], by omega, rfl, rfl, k3, by rw [List.length_append]; exact a3.acc, hall.snoc fc', fun x hx => ?_, by rw [List.length_append, List.length_singleton]; omega, fun N hN => ?_⟩
  · rcases List.mem_append.1 hx with hx | hx
    · exact hE x hx
    · rw [List.mem_singleton.1 hx]; exact G.com_in hui hvq
  · rw [List.take_succ_eq_append_getElem hltq]
    simp only [List.mem_append, List.mem_singleton]
    have := hEN N hN
    constructor
    · intro h
      obtain ⟨h1, h2⟩ := this.1 fun e he => h e (.inl he)
      exact ⟨h1, fun y hy => hy.elim (h2 y) (fun e => by rw [e]; exact h _ (.inr rfl))⟩
    · rintro ⟨h1, h2⟩ e he
      rcases he with he | he
      · exact this.2 ⟨h1, fun y hy => h2 y (.inl hy)⟩ e he
      · rw [he]; exact h2 _ (.inr rfl)
theorem next_step (hz : Ones O z') (s : Shp O P C) (hN : ∀ N, gN O P C N → ((∀ x ∈ z', N x) ↔ ∀ x ∈ u, ∀ y ∈ unitsG O, N (gcom O P C x y))) : SStep O P C u z' := by
  refine ⟨fun x hx => ⟨(hz x hx).1, dep_ne_zv s (hz x hx).2.1⟩, fun x => ?_⟩
  have e : ∀ N, gN O P C N → ((∀ l, memL z' l → N l) ↔ ∀ l, cs O P C (memL u) l → N l) := fun N h => (hN N h).trans ⟨fun h1 l hl => by
    obtain ⟨x, i, hx, hi, rfl⟩ := hl
    exact h1 x hx _ (List.mem_map.2 ⟨i, List.mem_range.2 hi, rfl⟩), fun h1 x hx y hy => by
    obtain ⟨i, hi, rfl⟩ := List.mem_map.1 hy
    exact h1 _ ⟨x, i, hx, List.mem_range.1 hi, rfl⟩⟩
  exact ⟨fun h N h1 h2 => h N h1 ((e N h1).2 h2), fun h N h1 h2 => h N h1 ((e N h1).1 h2)⟩
end Go.Proofs
namespace Go.Grp
end Go.Grp
namespace Go.Proofs
open Go.Ab Go.Lie Go.Grp
variable {σ : PHeap} {K : PV → PHeap → Prop} {O : List Int} {P : List (List Int)} {C : List (List (List Int))} {vO vP vC vx vy vL vU vV vB vg : PV} {x y z f a b g : List Int} {L u v z' : List (List Int)} {rP rC rb : List PV} {d j sp ss sb n : Nat}
theorem okFlc : okF Tryz.prog 189 = true := by kernel_rfl
theorem next1_ok {b : Nat} (s : Shp O P C) (F : Full O P C O.length) (hC : Cent O C) (hp : ∀ o ∈ O, isP o) (hb : σ.rd1 b 0 = some (.ptr sp 0)) (hs : PtrG σ sp vO vP vC) (hR : IsPr vO vP vC O P C) (hU : FII vU u) (hu : ∀ x ∈ u, gS O x) (hul : u.length ≤ 100)
    (hk : ∀ w z, FII w z → z.length ≤ O.length → SStep O P C u z → K w σ) : PCalls Tryz.prog 189 [vU, .ptr b 0] σ K := by
  have hn6 := s.le
  have hUU := hU
  obtain ⟨wu, au, ru, rfl, hru⟩ := hU
  refine pcalls_of_vp mix Tryz.func189 cf189 rfl ?_
  dsimp only [if189, qI, eI, nI, qD, eD]
  simp only [pwA, if_true, if_false, eq_self, nm_eq, reduceCtorEq, ↓reduceIte, nQ10, nQ7, nQ11, nQ12, nQ16, nQ17, nQ18, iQ2, iQ3, iQ4, iQ5, iQ6, lQ19, iQ7, lQ20, hb]
  refine whole_ok s hs hR fun vW hW => ?_
  have hWW := hW
  obtain ⟨ww, aw, rw_, rfl, hrw⟩ := hW
  simp only [pwA, if_true, if_false, eq_self, nm_eq, reduceCtorEq, ↓reduceIte, nQ10, nQ7, nQ11, nQ12, nQ16, nQ17, nQ18, iQ2, iQ3, iQ4, iQ5, iQ6, lQ19, iQ7, lQ20, hb]
  refine commutatorSubgroup_ok s F hC hp hs hR hUU hu hul hWW (fun x hx => (unitsG_ok s F x hx).1) (by unfold unitsG; simp; omega) fun w z f1 f2 f3 f4 => ?_
  simp only [pwA, if_true, if_false, eq_self, nm_eq, reduceCtorEq, ↓reduceIte, nQ10, nQ7, nQ11, nQ12, nQ16, nQ17, nQ18, iQ2, iQ3, iQ4, iQ5, iQ6, lQ19, iQ7, lQ20]
  exact hk w z f1 f3 (next_step f2 s f4)
theorem series_g {b : Nat} (s : Shp O P C) (F : Full O P C O.length) (hC : Cent O C) (hp : ∀ o ∈ O, isP o) (hb : σ.obj b = some [.ptr sp 0]) (hbl : b < σ.next) (hs : PtrG σ sp vO vP vC) (hR : IsPr vO vP vC O P C) (hU : FII vU (unitsG O))
    (hk : ∀ c a rows, (Lc O P C c = [] ∧ c ≤ O.length ∧ ∀ j, j < c → Lc O P C j ≠ []) → K (.fz true a (c + 1) rows) σ) : PCalls Tryz.prog 163 [vU, .clo 189 [] [.ptr b 0]] σ K := by
  have hn6 := s.le
  have h1 := hU.one
  have h1c := hU.cells
  refine PCalls.gh ?_
  refine pcalls_of_vp mix Tryz.func163 cf163 rfl ?_
  dsimp only [if163, qI, eI, nI, qD, eD]
  simp only [pwA, if_true, if_false, eq_self, nm_eq, reduceCtorEq, ↓reduceIte, nQ10, nQ7, nQ11, nQ12, nQ16, nQ17, nQ18, iQ2, iQ3, iQ4, iQ5, iQ6, lQ19, iQ7, lQ20, h1, h1c]
  refine vp_loop (fun m vs h' => ∃ k u us rows v, m = O.length + 1 - k ∧ k ≤ O.length ∧ vs = [.clo 189 [] [.ptr b 0], v] ∧ Keep σ h' ∧ PSl σ.next 1 h' v (k + 1) rows ∧ All2 FII rows us ∧ us.length = k + 1 ∧ us[k]? = some u ∧ SRel O P C u (Lc O P C k) ∧ u.length ≤ 6 ∧ ∀ j, j < k → Lc O P C j ≠ []) (O.length + 1) ?_ ?_
  · exact ⟨0, unitsG O, [unitsG O], [vU], _, by omega, by omega, rfl, keep_new σ _, PSl.new _ 1 rfl (Nat.le_refl _), All2.nil _ |>.snoc hU, rfl, rfl, SRel.start s F, by unfold unitsG; simp; omega, fun j hj => by omega⟩
  rintro m vs h' ⟨k, u, us, rows, v, rfl, hkn, rfl, hkp, ha, hall, hul, huk, hrel, hu6, hbef⟩
  obtain ⟨s', cap, rfl, hc, q2, q3, q4, q5⟩ := ha
  have hku : k < us.length := by omega
  obtain ⟨vk, hvk, hFk⟩ := hall.get hku
  have huk' : us[k] = u := by rw [List.getElem?_eq_getElem hku] at huk; exact Option.some.inj huk
  rw [huk'] at hFk
  have hrd : h'.rd1 s' k = some vk := by rw [obj_rd1 q2]; exact hvk
  have hw : IntKind.i64.wrap (((k + 1 : Nat) : Int) - 1) = (k : Int) := by rw [wrap64 (by omega) (by omega)]; omega
  have hkk : k < k + 1 := Nat.lt_succ_self k
  have hb' : h'.rd1 b 0 = some (.ptr sp 0) := by rw [obj_rd1 (by rw [hkp.obj b hbl]; exact hb)]; rfl
  have hFF := hFk
  obtain ⟨wk, ak, rk, rfl, hrk⟩ := hFk
  simp only [pwA, if_true, if_false, eq_self, nm_eq, reduceCtorEq, ↓reduceIte, nQ10, nQ7, nQ11, nQ12, nQ16, nQ17, nQ18, iQ2, iQ3, iQ4, iQ5, iQ6, lQ19, iQ7, lQ20, hw, hkk, hrd]
  refine ⟨okFlc, next1_ok s F hC hp hb' (hs.keep hkp) hR hFF (fun x hx => (hrel.ou x hx).1) (by omega) fun vo out hFo hol hst => ?_⟩
  have hFFo := hFo
  obtain ⟨wo, ao, ro, rfl, hro⟩ := hFo
  have hnx := SRel.step s F hrel hst
  simp only [pwA, if_true, if_false, eq_self, nm_eq, reduceCtorEq, ↓reduceIte, nQ10, nQ7, nQ11, nQ12, nQ16, nQ17, nQ18, iQ2, iQ3, iQ4, iQ5, iQ6, lQ19, iQ7, lQ20, hw, hkk, hrd]
  refine sameRows_ok hFFo hFF (by omega) (fun x hx => by rw [(hst.ok x hx).1.len]; omega) fun t ht => ?_
  cases t
  · have hne : out ≠ u := fun e => by have := ht.2 e; cases this
    have hLk : Lc O P C k ≠ [] := fun e => by
      have hu0 := (SRel.nil s F hrel).2 e
      have : out = [] := (SRel.nil s F hnx).2 (by rw [e]; rfl)
      exact hne (by rw [this, hu0])
    have hkn' := Lc_lt s F hC hLk hkn
    simp only [pwA, if_true, if_false, eq_self, nm_eq, reduceCtorEq, ↓reduceIte, nQ10, nQ7, nQ11, nQ12, nQ16, nQ17, nQ18, iQ2, iQ3, iQ4, iQ5, iQ6, lQ19, iQ7, lQ20]
    refine PSl.push (bytes := 24) (σb := σ) hkp ⟨s', cap, rfl, hc, q2, q3, q4, q5⟩ (by omega) (by omega) fun v2 h2 k2 a2 => ?_
    simp only [pwA, if_true, if_false, eq_self, nm_eq, reduceCtorEq, ↓reduceIte, nQ10, nQ7, nQ11, nQ12, nQ16, nQ17, nQ18, iQ2, iQ3, iQ4, iQ5, iQ6, lQ19, iQ7, lQ20]
    refine ⟨_, ?_, k + 1, out, us ++ [out], _, v2, rfl, by omega, rfl, k2, a2, hall.snoc hFFo, by rw [List.length_append, hul]; rfl, ?_, hnx, by omega, fun j hj => ?_⟩
    · omega
    · rw [List.getElem?_append_right (by omega), hul, Nat.sub_self]; rfl
    · by_cases x : j = k
      · subst x; exact hLk
      · exact hbef j (by omega)
  · obtain rfl : out = u := ht.1 rfl
    have hu0 := SRel.stop s F hC hrel hst
    simp only [pwA, if_true, if_false, eq_self, nm_eq, reduceCtorEq, ↓reduceIte, nQ10, nQ7, nQ11, nQ12, nQ16, nQ17, nQ18, iQ2, iQ3, iQ4, iQ5, iQ6, lQ19, iQ7, lQ20]
    exact Gh.finF hkp q2 q4 (hall.bL 0) hc.ok fun o1 => hk k _ _ ⟨(SRel.nil s F hrel).1 hu0, hkn, hbef⟩
theorem lowerCentral_ok (s : Shp O P C) (F : Full O P C O.length) (hC : Cent O C) (hp : ∀ o ∈ O, isP o) (hs : PtrG σ sp vO vP vC) (hR : IsPr vO vP vC O P C) (hk : ∀ c a rows, (Lc O P C c = [] ∧ c ≤ O.length ∧ ∀ j, j < c → Lc O P C j ≠ []) → K (.fz true a (c + 1) rows) σ) : PCalls Tryz.prog 146 [.ptr sp 0] σ K := by
  refine PCalls.gh ?_
  refine pcalls_of_vp mix Tryz.func146 cf146 rfl ?_
  dsimp only [if146, qI, eI, nI, qD, eD]
  simp only [pwA, if_true, if_false, eq_self, nm_eq, reduceCtorEq, ↓reduceIte, nQ10, nQ7, nQ11, nQ12, nQ16, nQ17, nQ18, iQ2, iQ3, iQ4, iQ5, iQ6, lQ19, iQ7, lQ20]
  have hs1 := hs.new [.ptr sp 0]
  refine whole_ok s hs1 hR fun vV hV => ?_
  have hVV := hV
  obtain ⟨wv, av, rv, rfl, hrv⟩ := hV
  simp only [pwA, if_true, if_false, eq_self, nm_eq, reduceCtorEq, ↓reduceIte, nQ10, nQ7, nQ11, nQ12, nQ16, nQ17, nQ18, iQ2, iQ3, iQ4, iQ5, iQ6, lQ19, iQ7, lQ20]
  refine series_g (b := σ.next) s F hC hp (by simp only [pwA, if_true, if_false, eq_self, nm_eq, reduceCtorEq, ↓reduceIte, nQ10, nQ7, nQ11, nQ12, nQ16, nQ17, nQ18, iQ2, iQ3, iQ4, iQ5, iQ6, lQ19, iQ7, lQ20]) (by simp only [pwA, if_true, if_false, eq_self, nm_eq, reduceCtorEq, ↓reduceIte, nQ10, nQ7, nQ11, nQ12, nQ16, nQ17, nQ18, iQ2, iQ3, iQ4, iQ5, iQ6, lQ19, iQ7, lQ20]) hs1 hR hVV fun c a rows hc => ?_
  simp only [pwA, if_true, if_false, eq_self, nm_eq, reduceCtorEq, ↓reduceIte, nQ10, nQ7, nQ11, nQ12, nQ16, nQ17, nQ18, iQ2, iQ3, iQ4, iQ5, iQ6, lQ19, iQ7, lQ20]
  exact Gh.fin0 (keep_new σ _) trivial (hk c a rows hc)
def clsOk (O : List Int) (P : List (List Int)) (C : List (List (List Int))) : Prop := O = [] ∨ ∃ k : Nat, (k : Int) < at_ O 0 ∧ Lc O P C k = []
def isLG (O : List Int) (P : List (List Int)) (C : List (List (List Int))) : Prop := ((isPres O P C ∧ Cons O P C) ∧ isCen O C) ∧ clsOk O P C
theorem Cons.full (s : Shp O P C) (hc : Cons O P C) : Full O P C O.length := full_of s (Nat.le_refl _) fun j _ h => hc j h
theorem isPres.isp (h : isPres O P C) : ∀ o ∈ O, isP o := h.2.2.2.1
theorem isLazardGroup_in (h : isPres O P C) (hc : Cons O P C) (hs : PtrG σ sp vO vP vC) (hR : IsPr vO vP vC O P C) (hk : ∀ t : Bool, (t = true ↔ isCen O C ∧ clsOk O P C) → K (.bool t) σ) : PCalls Tryz.prog 85 [.ptr sp 0] σ K := by
  have fl : ∀ {A : Prop}, ¬ A → ((false = true) ↔ A) := fun h => ⟨fun x => (by cases x), fun x => absurd x h⟩
  have s := h.shp
  have hn6 := s.le
  have F := Cons.full s hc
  have hR0 := hR
  obtain ⟨⟨w0, a0, rfl⟩, _, _⟩ := hR
  have e0 : σ.rd1 sp 0 = some (.fz w0 a0 O.length (pis O)) := by rw [obj_rd1 hs.obj]; rfl
  refine pcalls_of_vp mix Tryz.func85 cf85 rfl ?_
  dsimp only [if85, qI, eI, nI, qD, eD]
  simp only [pwA, if_true, if_false, eq_self, nm_eq, reduceCtorEq, ↓reduceIte, nQ10, nQ7, nQ11, nQ12, nQ16, nQ17, nQ18, iQ2, iQ3, iQ4, iQ5, iQ6, lQ19, iQ7, lQ20]
  refine isCentral_ok s hs hR0 fun t ht => ?_
  cases t with
  | false =>
    simp only [pwA, if_true, if_false, eq_self, nm_eq, reduceCtorEq, ↓reduceIte, nQ10, nQ7, nQ11, nQ12, nQ16, nQ17, nQ18, iQ2, iQ3, iQ4, iQ5, iQ6, lQ19, iQ7, lQ20]
    exact hk _ (fl fun h => by cases ht.2 h.1)
  | true =>
  have hcen := ht.1 rfl
  simp only [pwA, if_true, if_false, eq_self, nm_eq, reduceCtorEq, ↓reduceIte, nQ10, nQ7, nQ11, nQ12, nQ16, nQ17, nQ18, iQ2, iQ3, iQ4, iQ5, iQ6, lQ19, iQ7, lQ20]
  refine lowerCentral_ok s F (hcen.cent s) h.isp hs hR0 fun c a rows ⟨h1, h2, h3⟩ => ?_
  by_cases hO : O.length = 0
  · have hOn : O = [] := List.eq_nil_of_length_eq_zero hO
    have hOI : ((O.length : Int) = 0) = True := eq_true (by omega)
    simp only [pwA, if_true, if_false, eq_self, nm_eq, reduceCtorEq, ↓reduceIte, nQ10, nQ7, nQ11, nQ12, nQ16, nQ17, nQ18, iQ2, iQ3, iQ4, iQ5, iQ6, lQ19, iQ7, lQ20, e0, hOI]
    exact hk _ ⟨fun _ => ⟨hcen, .inl hOn⟩, fun _ => rfl⟩
  · have hw : IntKind.i64.wrap (((c + 1 : Nat) : Int) - 1) = (c : Int) := by rw [wrap64 (by omega) (by omega)]; omega
    have h0 : 0 < O.length := by omega
    have h0I : (0 : Int) < (O.length : Int) := by omega
    have hO' : ¬ (O.length : Int) = 0 := by omega
    simp only [pwA, if_true, if_false, eq_self, nm_eq, reduceCtorEq, ↓reduceIte, nQ10, nQ7, nQ11, nQ12, nQ16, nQ17, nQ18, iQ2, iQ3, iQ4, iQ5, iQ6, lQ19, iQ7, lQ20, e0, hO, hO', hw, h0, h0I, pisAt h0]
    refine hk _ ?_
    rw [decide_eq_true_iff]
    constructor
    · intro h; exact ⟨hcen, .inr ⟨c, h, h1⟩⟩
    · rintro ⟨_, h | ⟨k, hk1, hk2⟩⟩
      · rw [h] at h0; simp at h0
      · rcases Nat.lt_or_ge k c with x | x
        · exact absurd hk2 (h3 k x)
        · omega
end Go.Proofs
namespace Go.Grp
end Go.Grp
namespace Go.Proofs
open Go.Ab Go.Lie Go.Grp
variable {σ : PHeap} {K : PV → PHeap → Prop} {O : List Int} {P : List (List Int)} {C : List (List (List Int))} {vO vP vC vx vy vL vU vV vB vg : PV} {x y z f a b g : List Int} {L u v z' : List (List Int)} {rP rC rb : List PV} {d j sp ss sb n : Nat}
theorem Lc_len (s : Shp O P C) : ∀ k, (Lc O P C k).length ≤ 6 ^ (k + 1)
  | 0 => by
    have := s.le
    show (unitsG O).length ≤ _
    unfold unitsG; simp; omega
  | k + 1 => by
    have h1 := comL_len s (Lc O P C k)
    have h2 := Lc_len s k
    show (comL O P C (Lc O P C k)).length ≤ _
    rw [Nat.pow_succ]; omega
theorem l34Class_ok (h : isPres O P C) (hc : Cons O P C) (hcen : isCen O C) (hR : IsPr vO vP vC O P C) (hk : ∀ t : Bool, (t = true ↔ clsOk O P C) → K (.bool t) σ) : PCalls Tryz.prog 140 [.agg [vO, vP, vC]] σ K := by
  have s := h.shp
  have hn6 := s.le
  have F := Cons.full s hc
  have hC := hcen.cent s
  have hR0 := hR
  obtain ⟨⟨w0, a0, rfl⟩, ⟨w1, a1, rP, rfl, hP⟩, ⟨w3, a3, rC, rfl, hC3⟩⟩ := hR
  refine PCalls.gh ?_
  have hkp0 : Keep σ (σ.new [.fz w0 a0 O.length (pis O), .fz w1 a1 P.length rP, .fz w3 a3 C.length rC]) := keep_new σ _
  have hobj : ∀ {h' : PHeap}, Keep (σ.new [.fz w0 a0 O.length (pis O), .fz w1 a1 P.length rP, .fz w3 a3 C.length rC]) h' → h'.obj σ.next = some [.fz w0 a0 O.length (pis O), .fz w1 a1 P.length rP, .fz w3 a3 C.length rC] := fun {h'} hk' => by
    rw [hk'.obj _ (by simp [PHeap.new])]; simp [PHeap.new]
  have hrd3 : ∀ {h' : PHeap}, Keep (σ.new [.fz w0 a0 O.length (pis O), .fz w1 a1 P.length rP, .fz w3 a3 C.length rC]) h' → h'.rd σ.next 0 3 = some [.fz w0 a0 O.length (pis O), .fz w1 a1 P.length rP, .fz w3 a3 C.length rC] := fun {h'} hk' => by
    simp [PHeap.rd, hobj hk']
  have hrd0 : ∀ {h' : PHeap}, Keep (σ.new [.fz w0 a0 O.length (pis O), .fz w1 a1 P.length rP, .fz w3 a3 C.length rC]) h' → h'.rd1 σ.next 0 = some (.fz w0 a0 O.length (pis O)) := fun {h'} hk' => by
    rw [obj_rd1 (hobj hk')]; rfl
  refine pcalls_of_vp mix Tryz.func140 cf140 rfl ?_
  dsimp only [if140, qI, eI, nI, qD, eD]
  simp only [pwA, if_true, if_false, eq_self, nm_eq, reduceCtorEq, ↓reduceIte, nQ10, nQ7, nQ11, nQ12, nQ16, nQ17, nQ18, iQ2, iQ3, iQ4, iQ5, iQ6, lQ19, iQ7, lQ20]
  refine vp_loop (fun m vs h' => ∃ (i : Nat) (v : PV) (rows : List PV), i ≤ O.length ∧ m = O.length - i ∧ vs = [.ptr σ.next 0, .int .i64 O.length, v, .int .i64 i] ∧ Keep (σ.new [.fz w0 a0 O.length (pis O), .fz w1 a1 P.length rP, .fz w3 a3 C.length rC]) h' ∧ PSl (σ.next + 1) 1 h' v i rows ∧ All2 FI rows ((List.range i).map (Grp.unit O))) O.length ?_ ?_
  · exact ⟨0, _, [], by omega, by omega, rfl, keep_new _ _, PSl.new (σ.next + 1) 1 rfl (Nat.le_refl _), All2.nil _⟩
  rintro m vs h' ⟨i, v, rows, hi, rfl, rfl, hkp, ha, hall⟩
  simp only [pwA, if_true, if_false, eq_self, nm_eq, reduceCtorEq, ↓reduceIte, nQ10, nQ7, nQ11, nQ12, nQ16, nQ17, nQ18, iQ2, iQ3, iQ4, iQ5, iQ6, lQ19, iQ7, lQ20]
  refine iteI (fun hlt => ?_) fun hge => ?_
  · have hlt' : i < O.length := by omega
    simp only [pwA, if_true, if_false, eq_self, nm_eq, reduceCtorEq, ↓reduceIte, nQ10, nQ7, nQ11, nQ12, nQ16, nQ17, nQ18, iQ2, iQ3, iQ4, iQ5, iQ6, lQ19, iQ7, lQ20]
    refine l07Unit_ok (by omega) hlt' fun vu fu => ?_
    have fu' : FI vu (Grp.unit O i) := fu
    obtain ⟨wu, au, rfl⟩ := fu
    simp only [pwA, if_true, if_false, eq_self, nm_eq, reduceCtorEq, ↓reduceIte, nQ10, nQ7, nQ11, nQ12, nQ16, nQ17, nQ18, iQ2, iQ3, iQ4, iQ5, iQ6, lQ19, iQ7, lQ20]
    refine PSl.push (bytes := 24) (σb := σ.new [.fz w0 a0 O.length (pis O), .fz w1 a1 P.length rP, .fz w3 a3 C.length rC]) hkp ha (by omega) (by omega) fun v' h2 k2 a2 => ?_
    simp only [pwA, if_true, if_false, eq_self, nm_eq, reduceCtorEq, ↓reduceIte, nQ10, nQ7, nQ11, nQ12, nQ16, nQ17, nQ18, iQ2, iQ3, iQ4, iQ5, iQ6, lQ19, iQ7, lQ20, wrapS hlt' (by omega : O.length ≤ 4611686018427387904)]
    refine ⟨_, by omega, i + 1, v', _, by omega, rfl, rfl, k2, a2, ?_⟩
    rw [unitsG_take]
    exact hall.snoc fu'
  have hie : i = O.length := by omega
  subst hie
  obtain ⟨t, cap, rfl, hc1, q2, q3, q4, q5⟩ := ha
  simp only [pwA, if_true, if_false, eq_self, nm_eq, reduceCtorEq, ↓reduceIte, nQ10, nQ7, nQ11, nQ12, nQ16, nQ17, nQ18, iQ2, iQ3, iQ4, iQ5, iQ6, lQ19, iQ7, lQ20]
  refine vp_loopG (fun m vs h' => ∃ (k : Nat) (v : PV), m = 7 - k ∧ k < 7 ∧ (O ≠ [] → (k : Int) < at_ O 0) ∧ vs = [.ptr σ.next 0, .int .i64 O.length, v, .int .i64 ((k + 1 : Nat) : Int)] ∧ Keep (σ.new [.fz w0 a0 O.length (pis O), .fz w1 a1 P.length rP, .fz w3 a3 C.length rC]) h' ∧ FII v (Lc O P C k) ∧ (O = [] → k = 0)) 7 ?_ ?_
  · refine .fz t rows q2 (hall.bI 0) fun o1 => .here ⟨0, .fz true (.sl o1 0 O.length cap) O.length rows, rfl, by omega, fun hO => ?_, ?_, hkp.kill q4, ⟨true, _, rows, by rw [show (Lc O P C 0).length = O.length by simp [Lc, unitsG]], hall⟩, fun _ => rfl⟩
    · have := (s.pr 0 (List.length_pos_iff.2 hO)).1; omega
    · simp only [pwA, if_true, if_false, eq_self, nm_eq, reduceCtorEq, ↓reduceIte, nQ10, nQ7, nQ11, nQ12, nQ16, nQ17, nQ18, iQ2, iQ3, iQ4, iQ5, iQ6, lQ19, iQ7, lQ20]
      simp [sbs, Go.Ab.sb, hc1.ok]
  clear hkp hall q2 q3 q4 q5 hge hi
  rintro m vs h' ⟨k, v, rfl, hk7, hkO, rfl, hkp, hv, hk0⟩
  have hLl := Lc_len (O := O) (P := P) (C := C) s k
  have hLl2 : (Lc O P C k).length ≤ 600000 := by
    have : 6 ^ (k + 1) ≤ 6 ^ 7 := Nat.pow_le_pow_right (by omega) (by omega)
    omega
  have hvv := hv
  obtain ⟨wv, av, rv, rfl, hrv⟩ := hv
  have hkk := hkp0.trans hkp
  by_cases hO : O = []
  · have hO0 : ((O.length : Int) = 0) = True := eq_true (by rw [hO]; rfl)
    have hO1 : ¬ (0 : Int) < (O.length : Int) := by rw [hO]; simp
    simp only [pwA, if_true, if_false, eq_self, nm_eq, reduceCtorEq, ↓reduceIte, nQ10, nQ7, nQ11, nQ12, nQ16, nQ17, nQ18, iQ2, iQ3, iQ4, iQ5, iQ6, lQ19, iQ7, lQ20, hO0, hO1]
    exact Gh.fin0 hkk trivial (hk _ ⟨fun _ => .inl hO, fun _ => rfl⟩)
  have h0 : 0 < O.length := List.length_pos_iff.2 hO
  have h0I : (0 : Int) < (O.length : Int) := by omega
  have hO' : ¬ (O.length : Int) = 0 := by omega
  have bO := s.pr 0 h0
  have hkO' := hkO hO
  by_cases hlt : ((k + 1 : Nat) : Int) < at_ O 0
  rotate_left
  · simp only [pwA, if_true, if_false, eq_self, nm_eq, reduceCtorEq, ↓reduceIte, nQ10, nQ7, nQ11, nQ12, nQ16, nQ17, nQ18, iQ2, iQ3, iQ4, iQ5, iQ6, lQ19, iQ7, lQ20, h0I, hO', hrd0 hkp, h0, pisAt h0, hlt]
    refine Gh.fin0 hkk trivial (hk _ ?_)
    rw [decide_eq_true_iff]
    constructor
    · intro h; exact .inr ⟨k, hkO', List.eq_nil_of_length_eq_zero (by omega)⟩
    · rintro (h | ⟨j, hj1, hj2⟩)
      · exact absurd h hO
      · rw [Lc_nil s F hj2 k (by omega)]; rfl
  by_cases hnil : Lc O P C k = []
  · have hz : ((Lc O P C k).length : Int) = 0 := by rw [hnil]; rfl
    have hz1 : ¬ (0 : Int) < ((Lc O P C k).length : Int) := by omega
    have hz2 : (((Lc O P C k).length : Int) = 0) = True := eq_true hz
    simp only [pwA, if_true, if_false, eq_self, nm_eq, reduceCtorEq, ↓reduceIte, nQ10, nQ7, nQ11, nQ12, nQ16, nQ17, nQ18, iQ2, iQ3, iQ4, iQ5, iQ6, lQ19, iQ7, lQ20, h0I, hO', hrd0 hkp, h0, pisAt h0, hlt, hz1, hz2]
    exact Gh.fin0 hkk trivial (hk _ ⟨fun _ => .inr ⟨k, hkO', hnil⟩, fun _ => rfl⟩)
  have hz1 : (0 : Int) < ((Lc O P C k).length : Int) := by have := List.length_pos_iff.2 hnil; omega
  simp only [pwA, if_true, if_false, eq_self, nm_eq, reduceCtorEq, ↓reduceIte, nQ10, nQ7, nQ11, nQ12, nQ16, nQ17, nQ18, iQ2, iQ3, iQ4, iQ5, iQ6, lQ19, iQ7, lQ20, h0I, hO', hrd0 hkp, hrd3 hkp, h0, pisAt h0, hlt, hz1]
  refine l34Comms_ok s hc hR0 hvv (fun x hx => (Lc_ok s F k x hx).1) hLl2 fun v2 hv2 => ?_
  have ew : IntKind.i64.wrap (((k + 1 : Nat) : Int) + 1) = ((k + 1 + 1 : Nat) : Int) := by rw [wrap64 (by omega) (by omega)]; omega
  simp only [pwA, if_true, if_false, eq_self, nm_eq, reduceCtorEq, ↓reduceIte, nQ10, nQ7, nQ11, nQ12, nQ16, nQ17, nQ18, iQ2, iQ3, iQ4, iQ5, iQ6, lQ19, iQ7, lQ20, ew]
  refine ⟨7 - (k + 1), by omega, .here ⟨k + 1, v2, rfl, by omega, fun _ => hlt, rfl, hkp, hv2, fun h => absurd h hO⟩⟩
theorem l34IsLazard_ok (hR : IsPr vO vP vC O P C) (sz : SzP O P C) (hk : ∀ t : Bool, (t = true ↔ isLG O P C) → K (.bool t) σ) : PCalls Tryz.prog 80 [.agg [vO, vP, vC]] σ K := by
  have h0 := hR.O.one
  have h1 := hR.P.one
  have h2 := hR.C.one
  have fl : ∀ {A : Prop}, ¬ A → ((false = true) ↔ A) := fun h => ⟨fun x => (by cases x), fun x => absurd x h⟩
  refine PCalls.gh ?_
  refine pcalls_of_vp mix Tryz.func80 cf80 rfl ?_
  dsimp only [if80, qI, eI, nI, qD, eD]
  simp only [pwA, if_true, if_false, eq_self, nm_eq, reduceCtorEq, ↓reduceIte, nQ10, nQ7, nQ11, nQ12, nQ16, nQ17, nQ18, iQ2, iQ3, iQ4, iQ5, iQ6, lQ19, iQ7, lQ20, h0, h1, h2]
  refine l34Central_ok hR sz fun t ht => ?_
  cases t with
  | false =>
    simp only [pwA, if_true, if_false, eq_self, nm_eq, reduceCtorEq, ↓reduceIte, nQ10, nQ7, nQ11, nQ12, nQ16, nQ17, nQ18, iQ2, iQ3, iQ4, iQ5, iQ6, lQ19, iQ7, lQ20]
    exact Gh.fin0 (keep_new σ _) trivial (hk _ (fl fun h => by cases ht.2 h.1))
  | true =>
  have hp := ht.1 rfl
  simp only [pwA, if_true, if_false, eq_self, nm_eq, reduceCtorEq, ↓reduceIte, nQ10, nQ7, nQ11, nQ12, nQ16, nQ17, nQ18, iQ2, iQ3, iQ4, iQ5, iQ6, lQ19, iQ7, lQ20, h0, h1, h2]
  refine l34Class_ok hp.1.1 hp.1.2 hp.2 hR fun r hr => ?_
  simp only [pwA, if_true, if_false, eq_self, nm_eq, reduceCtorEq, ↓reduceIte, nQ10, nQ7, nQ11, nQ12, nQ16, nQ17, nQ18, iQ2, iQ3, iQ4, iQ5, iQ6, lQ19, iQ7, lQ20]
  exact Gh.fin0 (keep_new σ _) trivial (hk _ ⟨fun h => ⟨hp, hr.1 h⟩, fun h => hr.2 h.2⟩)
end Go.Proofs
set_option linter.unusedSectionVars false
namespace Go.Grp
open Go.Ab Go.Lie
variable {O : List Int} {P : List (List Int)} {C : List (List (List Int))} {x y z a b c g w w' : List Int} {t i k d : Nat} {N : List Int → Prop}
section
variable {α : Type} {S : α → Prop} {m : α → α → α} {e : α}
theorem Mon.pw_e (M : Mon S m e) : ∀ k, Grp.pw m e e k = e
  | 0 => rfl
  | k + 1 => by
    show m (Grp.pw m e e k) e = e
    rw [M.pw_e k]; exact M.l1 M.one
theorem Mon.pw_mul (M : Mon S m e) {x : α} (hx : S x) (a : Nat) : ∀ b, Grp.pw m e x (a * b) = Grp.pw m e (Grp.pw m e x a) b
  | 0 => rfl
  | b + 1 => by
    rw [Nat.mul_succ, M.pw_add hx, M.pw_mul hx a b]; rfl
theorem Mon.pw_mod (M : Mon S m e) {x : α} (hx : S x) {n a : Nat} (hn : Grp.pw m e x n = e) : Grp.pw m e x a = Grp.pw m e x (a % n) := by
  have h1 := M.pw_add hx (n * (a / n)) (a % n)
  rw [Nat.div_add_mod, M.pw_mul hx, hn, M.pw_e, M.l1 (M.pw hx _)] at h1
  exact h1
end
def Rt (O : List Int) (P : List (List Int)) (C : List (List (List Int))) (z : List Int) (c : Int) (w : List Int) : Prop :=
  (z = zv O ∧ w = zv O) ∨ (z ≠ zv O ∧ ∃ j y n : Nat, (n : Int) = at_ O 0 ^ j ∧ Grp.pw (gm O P C) (zv O) z n = zv O ∧ (c * y) % n = 1 % n ∧ w = Grp.pw (gm O P C) (zv O) z y)
theorem pow_dvd_of {p : Int} {j j' : Nat} (h : j ≤ j') : p ^ j ∣ p ^ j' := by
  obtain ⟨k, rfl⟩ : ∃ k, j' = j + k := ⟨j' - j, by omega⟩
  rw [Int.pow_add]; exact Int.dvd_mul_right _ _
theorem mod_of_dvd {a b m n : Int} (h : m ∣ n) (he : a % n = b % n) : a % m = b % m := by
  rw [← Int.emod_emod_of_dvd a h, he, Int.emod_emod_of_dvd b h]
theorem mulmod {c y y' m : Int} (h1 : (c * y) % m = 1 % m) (h2 : (c * y') % m = 1 % m) : y % m = y' % m := by
  have d1 : m ∣ c * y - 1 := Int.dvd_of_emod_eq_zero (by rw [Int.sub_emod, h1]; simp)
  have d2 : m ∣ c * y' - 1 := Int.dvd_of_emod_eq_zero (by rw [Int.sub_emod, h2]; simp)
  have : m ∣ y - y' := by
    have h3 : y - y' = y' * (c * y - 1) - y * (c * y' - 1) := by grind
    rw [h3]
    exact Int.dvd_sub (Int.dvd_mul_of_dvd_right d1) (Int.dvd_mul_of_dvd_right d2)
  exact Int.emod_eq_emod_iff_emod_sub_eq_zero.2 (Int.emod_eq_zero_of_dvd this)
theorem pw_same (F : Full O P C O.length) (hz : gS O z) {n y y' : Nat} (hn : Grp.pw (gm O P C) (zv O) z n = zv O) (h : (y : Int) % n = (y' : Int) % n) : Grp.pw (gm O P C) (zv O) z y = Grp.pw (gm O P C) (zv O) z y' := by
  rw [F.g.toMon.pw_mod hz (a := y) hn, F.g.toMon.pw_mod hz (a := y') hn]
  congr 1
  omega
theorem Rt.two {n n' : Nat} {j j' : Nat} (h1 : (n : Int) = at_ O 0 ^ j) (h2 : (n' : Int) = at_ O 0 ^ j') : ((n : Int) ∣ n' ∧ j ≤ j') ∨ ((n' : Int) ∣ n ∧ j' ≤ j) := by
  rcases Nat.le_total j j' with h | h
  · exact .inl ⟨by rw [h1, h2]; exact pow_dvd_of h, h⟩
  · exact .inr ⟨by rw [h1, h2]; exact pow_dvd_of h, h⟩
theorem Rt.unique (F : Full O P C O.length) (hz : gS O z) {c : Int} (h : Rt O P C z c w) (g : Rt O P C z c w') : w = w' := by
  rcases h with ⟨h0, rfl⟩ | ⟨h0, j, y, n, h1, h2, h3, rfl⟩
  · rcases g with ⟨_, rfl⟩ | ⟨g0, _⟩
    · rfl
    · exact absurd h0 g0
  · rcases g with ⟨g0, _⟩ | ⟨_, j', y', n', g1, g2, g3, rfl⟩
    · exact absurd g0 h0
    · rcases Rt.two h1 g1 with ⟨hd, _⟩ | ⟨hd, _⟩
      · exact pw_same F hz h2 (mulmod h3 (mod_of_dvd hd g3))
      · exact pw_same F hz g2 (mulmod (mod_of_dvd hd h3) g3)
theorem Rt.gS (F : Full O P C O.length) (s : Shp O P C) (hz : Go.Grp.gS O z) {c : Int} (h : Rt O P C z c w) : Go.Grp.gS O w := by
  rcases h with ⟨_, rfl⟩ | ⟨_, j, y, n, _, _, _, rfl⟩
  · exact s.zv _
  · exact F.g.toMon.pw hz _
theorem Rt.neg (F : Full O P C O.length) (s : Shp O P C) (hz : Go.Grp.gS O z) {c : Int} (h : Rt O P C z c w) (g : Rt O P C z (-c) w') : w' = ginv (Go.Grp.gS O) (gm O P C) (zv O) w := by
  have G := F.g
  have wS := h.gS F s hz
  have wS' := g.gS F s hz
  refine G.inv_eq wS wS' ?_
  rcases h with ⟨h0, rfl⟩ | ⟨h0, j, y, n, h1, h2, h3, rfl⟩
  · rcases g with ⟨_, rfl⟩ | ⟨g0, _⟩
    · exact G.l1 G.one
    · exact absurd h0 g0
  · rcases g with ⟨g0, _⟩ | ⟨_, j', y', n', g1, g2, g3, rfl⟩
    · exact absurd g0 h0
    · rw [← G.toMon.pw_add hz]
      have key : ∀ {m : Nat}, Grp.pw (gm O P C) (zv O) z m = zv O → (c * y) % m = 1 % m → (-c * y') % m = 1 % m → Grp.pw (gm O P C) (zv O) z (y + y') = zv O := fun {m} e1 e2 e3 => by
        have e4 : (c * (-(y' : Int))) % m = 1 % m := by rw [show c * (-(y' : Int)) = -c * y' by grind]; exact e3
        have e5 := mulmod e2 e4
        have e6 : ((y + y' : Nat) : Int) % m = ((0 : Nat) : Int) % m := by
          have : ((y + y' : Nat) : Int) = (y : Int) - (-(y' : Int)) := by omega
          rw [this]
          rw [Int.emod_eq_emod_iff_emod_sub_eq_zero.1 e5]; simp
        exact pw_same F hz e1 e6
      rcases Rt.two h1 g1 with ⟨hd, _⟩ | ⟨hd, _⟩
      · exact key h2 h3 (mod_of_dvd hd g3)
      · exact key g2 (mod_of_dvd hd h3) g3
theorem inv_ex {p n : Int} {j : Nat} (hp : p = 5 ∨ p = 7) (hn : n = p ^ j) (hb : n ≤ 729) {c : Int} (hc : c = 2 ∨ c = 12) : ∃ y : Int, (c * y) % n = 1 % n := by
  have hd : (p = 5 ∧ n ∣ 625) ∨ (p = 7 ∧ n ∣ 343) := by
    rcases hp with rfl | rfl
    · left
      refine ⟨rfl, ?_⟩
      rcases Nat.lt_or_ge 4 j with h | h
      · exfalso
        obtain ⟨k, rfl⟩ : ∃ k, j = 5 + k := ⟨j - 5, by omega⟩
        rw [Int.pow_add] at hn
        have : (1 : Int) ≤ 5 ^ k := Int.pow_pos (by decide)
        omega
      · rw [hn, show (625 : Int) = 5 ^ 4 by decide]; exact pow_dvd_of h
    · right
      refine ⟨rfl, ?_⟩
      rcases Nat.lt_or_ge 3 j with h | h
      · exfalso
        obtain ⟨k, rfl⟩ : ∃ k, j = 4 + k := ⟨j - 4, by omega⟩
        rw [Int.pow_add] at hn
        have : (1 : Int) ≤ 7 ^ k := Int.pow_pos (by decide)
        omega
      · rw [hn, show (343 : Int) = 7 ^ 3 by decide]; exact pow_dvd_of h
  rcases hd with ⟨_, hd⟩ | ⟨_, hd⟩
  · rcases hc with rfl | rfl
    · exact ⟨313, mod_of_dvd hd (by decide)⟩
    · exact ⟨573, mod_of_dvd hd (by decide)⟩
  · rcases hc with rfl | rfl
    · exact ⟨172, mod_of_dvd hd (by decide)⟩
    · exact ⟨143, mod_of_dvd hd (by decide)⟩
section
variable (s : Shp O P C) (F : Full O P C O.length) (hC : Cent O C)
include s F hC
theorem pw_next (ht : t < O.length) (hx : TT O t x) : TT O (t + 1) (Grp.pw (gm O P C) (zv O) x (at_ O t).toNat) := by
  obtain ⟨h1, h2⟩ := pw_deep s F hC ht hx (at_ O t).toNat
  refine ⟨h1.len, h1.bd, fun j hj => ?_⟩
  rcases Nat.lt_or_ge j t with h | h
  · exact h1.zero j h
  · rw [show j = t by omega, h2, Int.toNat_of_nonneg (by have := s.pr t ht; omega), Int.mul_emod_right]
omit hC in
theorem Lc_gam (k : Nat) (hx : gNC O P C (memL (Lc O P C k)) x) (hy : gS O y) : gNC O P C (memL (Lc O P C (k + 1))) (gcom O P C x y) := by
  have hL : ∀ x, memL (Lc O P C k) x → gS O x := fun x hx => (Lc_ok s F k x hx).1
  have hN : gN O P C (gNC O P C (memL (Lc O P C (k + 1)))) := NC.sub F.g fun l hl => (Lc_ok s F (k + 1) l hl).1
  have hNx : gN O P C (gNC O P C (memL (Lc O P C k))) := NC.sub F.g hL
  refine gen_all s F hN (hNx.inS hx) (fun i hi => ?_) hy
  have h1 := cs_le s F hL (B := gNC O P C (memL (Lc O P C k))) (fun x hx => hx) _ (NC.mem ⟨x, i, hx, hi, rfl⟩)
  refine NC.le hN (fun l hl => ?_) h1
  by_cases e : l = zv O
  · rw [e]; exact hN.one
  · exact NC.mem (mem_comL.2 ⟨hl, e⟩)
omit hC in
theorem Lc_start (hx : gS O x) : gNC O P C (memL (Lc O P C 0)) x := by
  have hN : gN O P C (gNC O P C (memL (Lc O P C 0))) := NC.sub F.g fun l hl => (Lc_ok s F 0 l hl).1
  have := F.g.toMon.ph_ind (Q := gNC O P C (memL (Lc O P C 0))) (h := unit O) (x := nx x) (d := O.length) (t := 0) hN.one (fun a b _ _ h1 h2 => hN.cl h1 h2)
    fun j h1 h2 => ⟨s.unit (by omega) (Nat.zero_le _), NC.mem (List.mem_map.2 ⟨j, List.mem_range.2 (by omega), rfl⟩)⟩
  rwa [F.nfx hx] at this
omit hC in
theorem Lc_triv {k : Nat} (hk : Lc O P C k = []) (hx : gNC O P C (memL (Lc O P C k)) x) : x = zv O :=
  NC.le (triv s F) (fun l hl => by rw [hk] at hl; cases hl) hx
omit hC in
theorem com_triv2 {k : Nat} (hk : Lc O P C k = []) (hk1 : k ≤ 1) (hx : gS O x) (hy : gS O y) : gcom O P C x y = zv O := by
  have h1 := Lc_nil s F hk 1 hk1
  exact Lc_triv s F h1 (Lc_gam s F 0 (Lc_start s F hx) hy)
omit hC in
theorem com_triv3 {k : Nat} (hk : Lc O P C k = []) (hk1 : k ≤ 2) (hx : gS O x) (hy : gS O y) (hz : gS O z) : gcom O P C (gcom O P C x y) z = zv O := by
  have h1 := Lc_nil s F hk 2 hk1
  exact Lc_triv s F h1 (Lc_gam s F 1 (Lc_gam s F 0 (Lc_start s F hx) hy) hz)
end
end Go.Grp
namespace Go.Grp
end Go.Grp
namespace Go.Proofs
open Go.Ab Go.Lie Go.Grp
variable {σ : PHeap} {K : PV → PHeap → Prop} {O : List Int} {P : List (List Int)} {C : List (List (List Int))} {vO vP vC vx vy vz : PV} {x y z : List Int} {d j sp n : Nat}
structure LG (O : List Int) (P : List (List Int)) (C : List (List (List Int))) : Prop where
  pr : isPres O P C
  co : Cons O P C
  ce : isCen O C
theorem LG.s (g : LG O P C) : Shp O P C := g.pr.shp
theorem LG.F (g : LG O P C) : Full O P C O.length := Cons.full g.s g.co
theorem LG.cent (g : LG O P C) : Cent O C := g.ce.cent g.s
theorem LG.eq (g : LG O P C) {i : Nat} (hi : i < O.length) : at_ O i = at_ O 0 := (g.ce i hi).1
theorem LG.isp (g : LG O P C) (h : 0 < O.length) : isP (at_ O 0) := by rw [at_eq h]; exact g.pr.isp _ (List.getElem_mem h)
theorem prodL_pow {p : Int} : ∀ {O : List Int}, (∀ o ∈ O, o = p) → prodL O = p ^ O.length
  | [], _ => by simp [prodL]
  | o :: O, h => by
    rw [prodL, prodL_pow fun o ho => h o (List.mem_cons_of_mem _ ho), h o (by simp), List.length_cons, Int.pow_succ, Int.mul_comm]
theorem LG.bound (g : LG O P C) {i : Nat} (h0 : 0 < O.length) (hi : i ≤ O.length) : 1 ≤ at_ O 0 ^ i ∧ at_ O 0 ^ i ≤ 729 := by
  have hp := (g.isp h0).bd
  have h1 : prodL O = at_ O 0 ^ O.length := prodL_pow fun o ho => by
    obtain ⟨k, hk, rfl⟩ := List.mem_iff_getElem.1 ho
    have := g.eq hk
    rwa [at_eq hk] at this
  have h2 := g.pr.2.2.2.2.1
  rw [h1] at h2
  have h3 : (1 : Int) ≤ at_ O 0 ^ i := Int.pow_pos (by omega)
  have h4 : (1 : Int) ≤ at_ O 0 ^ (O.length - i) := Int.pow_pos (by omega)
  have h5 : at_ O 0 ^ O.length = at_ O 0 ^ i * at_ O 0 ^ (O.length - i) := by rw [← Int.pow_add]; congr 1; omega
  have h6 : at_ O 0 ^ i * 1 ≤ at_ O 0 ^ i * at_ O 0 ^ (O.length - i) := Int.mul_le_mul_of_nonneg_left h4 (by omega)
  exact ⟨h3, by omega⟩
theorem l10Pow_ok (g : LG O P C) (hR : IsPr vO vP vC O P C) (hx : gS O x) (hvx : FI vx x) {k : Int} (hk0 : 0 ≤ k ∧ k ≤ 1000) (hk : ∀ v, FI v (Grp.pw (gm O P C) (zv O) x k.toNat) → K v σ) :
    PCalls Tryz.prog 101 [.agg [vO, vP, vC], vx, .int .i64 k] σ K := by
  have h0 := hR.O.one
  have h1 := hR.P.one
  have h2 := hR.C.one
  have M := g.F.g.toMon
  have hk1 : ¬ k < 0 := by omega
  refine PCalls.gh ?_
  refine pcalls_of_vp mix Tryz.func101 cf101 rfl ?_
  dsimp only [if101, qI, eI, nI, qD, eD]
  simp only [pwA, if_true, if_false, eq_self, nm_eq, reduceCtorEq, ↓reduceIte, nQ10, nQ7, nQ11, nQ12, nQ16, nQ17, nQ18, iQ2, iQ3, iQ4, iQ5, iQ6, lQ19, iQ7, lQ20, h0, h1, h2, hk1]
  refine l08Repeat_ok g.s (d := O.length) (i := 0) (by omega) (l08At_ok g.s (by omega)) M hR hx hvx hk0 fun v hv => ?_
  simp only [pwA, if_true, if_false, eq_self, nm_eq, reduceCtorEq, ↓reduceIte, nQ10, nQ7, nQ11, nQ12, nQ16, nQ17, nQ18, iQ2, iQ3, iQ4, iQ5, iQ6, lQ19, iQ7, lQ20]
  exact Gh.fin0 (keep_new σ _) (hv.bel _) (hk v hv)
theorem orderOfElement_ok (g : LG O P C) (hs : PtrG σ sp vO vP vC) (hR : IsPr vO vP vC O P C) (hx : gS O x) (hvx : FI vx x) (h0 : 0 < O.length)
    (hk : ∀ m : Nat, (∃ i, (m : Int) = at_ O 0 ^ i) → (m : Int) ≤ 729 → Grp.pw (gm O P C) (zv O) x m = zv O → K (.int .i64 m) σ) : PCalls Tryz.prog 149 [.ptr sp 0, vx] σ K := by
  have s := g.s
  have F := g.F
  have M := F.g.toMon
  have hn6 := s.le
  have up : ∀ {z : List Int}, gS O z → TT O (O.length - O.length) z := fun h => by rw [Nat.sub_self]; exact h
  have hR0 := hR
  obtain ⟨⟨w0, a0, rfl⟩, _, _⟩ := hR
  have e0 : σ.rd1 sp 0 = some (.fz w0 a0 O.length (pis O)) := by rw [obj_rd1 hs.obj]; rfl
  obtain ⟨wx, ax, rfl⟩ := hvx
  have hxl := hx.len
  refine pcalls_of_vp mix Tryz.func149 cf149 rfl ?_
  dsimp only [if149, qI, eI, nI, qD, eD]
  simp only [pwA, if_true, if_false, eq_self, nm_eq, reduceCtorEq, ↓reduceIte, nQ10, nQ7, nQ11, nQ12, nQ16, nQ17, nQ18, iQ2, iQ3, iQ4, iQ5, iQ6, lQ19, iQ7, lQ20]
  refine vp_loop (fun m us h' => ∃ (d k i : Nat) (w : Bool) (a : AV) (now : List Int), m = O.length - d ∧ us = [.ptr sp 0, .int .i64 k, .int .i64 d, .fz w a O.length (pis now)] ∧ σ = h' ∧ d ≤ O.length ∧ i ≤ d ∧ (k : Int) = at_ O 0 ^ i ∧ TT O d now ∧ now = Grp.pw (gm O P C) (zv O) x k) O.length ⟨0, 1, 0, wx, ax, x, by omega, by rw [hxl]; rfl, rfl, by omega, by omega, by simp, hx, (M.pw_one hx).symm⟩ ?_
  rintro m us h' ⟨d, k, i, w, a, now, rfl, rfl, rfl, hd, hid, hki, hnow, hpw⟩
  have hnl := hnow.len
  have hz := isZ_zv hnl
  have hbd := g.bound h0 (i := i) (by omega)
  simp only [pwA, if_true, if_false, eq_self, nm_eq, reduceCtorEq, ↓reduceIte, nQ10, nQ7, nQ11, nQ12, nQ16, nQ17, nQ18, iQ2, iQ3, iQ4, iQ5, iQ6, lQ19, iQ7, lQ20]
  refine isZero_ok hnl.symm (by omega) ?_
  by_cases hn0 : now = zv O
  · have hzz := hz.2 hn0
    simp only [pwA, if_true, if_false, eq_self, nm_eq, reduceCtorEq, ↓reduceIte, nQ10, nQ7, nQ11, nQ12, nQ16, nQ17, nQ18, iQ2, iQ3, iQ4, iQ5, iQ6, lQ19, iQ7, lQ20, hzz]
    exact hk k ⟨i, hki⟩ (by omega) (by rw [← hpw, hn0])
  have hzz : ¬ isZ now := fun h => hn0 (hz.1 h)
  have hdl : d < O.length := by
    rcases Nat.lt_or_ge d O.length with h | h
    · exact h
    · exact absurd (hnow.ext (s.zv _) fun j h1 h2 => by omega) hn0
  have hdn : d < now.length := by omega
  have bO := s.pr d hdl
  have eO := g.eq hdl
  have hdl' := hdl
  by_cases hdz : at_ now d = 0
  · simp only [pwA, if_true, if_false, eq_self, nm_eq, reduceCtorEq, ↓reduceIte, nQ10, nQ7, nQ11, nQ12, nQ16, nQ17, nQ18, iQ2, iQ3, iQ4, iQ5, iQ6, lQ19, iQ7, lQ20, hzz, hdl, pisAt hdn, hdz, wrapS hdl (by omega : O.length ≤ 4611686018427387904)]
    refine ⟨_, by omega, d + 1, k, i, w, a, now, rfl, rfl, by omega, by omega, hki, ⟨hnow.len, hnow.bd, fun j hj => ?_⟩, hpw⟩
    rcases Nat.lt_or_ge j d with h | h
    · exact hnow.zero j h
    · rw [show j = d by omega]; exact hdz
  · simp only [pwA, if_true, if_false, eq_self, nm_eq, reduceCtorEq, ↓reduceIte, nQ10, nQ7, nQ11, nQ12, nQ16, nQ17, nQ18, iQ2, iQ3, iQ4, iQ5, iQ6, lQ19, iQ7, lQ20, hzz, hdl, pisAt hdn, hdz, pisAt hdl, e0]
    have nS : gS O now := hnow.mono (Nat.zero_le _)
    refine power_fz s F hs hR0 (up nS) ⟨w, a, by rw [hnl]⟩ (k := at_ O d) (by omega) fun v1 f1 => ?_
    have hnx := pw_next s F g.cent hdl hnow
    have hlen := hnx.len
    obtain ⟨w1, a1, rfl⟩ := f1
    have hb2 := g.bound h0 (i := i + 1) (by omega)
    have hk2 : ((k * (at_ O d).toNat : Nat) : Int) = at_ O 0 ^ (i + 1) := by
      rw [Int.natCast_mul, Int.toNat_of_nonneg (by omega), hki, eO, Int.pow_succ]
    have ew : IntKind.i64.wrap ((k : Int) * at_ O d) = ((k * (at_ O d).toNat : Nat) : Int) := by
      rw [show (k : Int) * at_ O d = ((k * (at_ O d).toNat : Nat) : Int) by rw [Int.natCast_mul, Int.toNat_of_nonneg (by omega)]]
      exact wrap64 (by omega) (by omega)
    simp only [pwA, if_true, if_false, eq_self, nm_eq, reduceCtorEq, ↓reduceIte, nQ10, nQ7, nQ11, nQ12, nQ16, nQ17, nQ18, iQ2, iQ3, iQ4, iQ5, iQ6, lQ19, iQ7, lQ20, hzz, hdl, pisAt hdl, e0, ew, wrapS hdl' (by omega : O.length ≤ 4611686018427387904)]
    refine ⟨_, by omega, d + 1, k * (at_ O d).toNat, i + 1, w1, a1, Grp.pw (gm O P C) (zv O) now (at_ O d).toNat, rfl, by rw [show (Grp.pw (mu O P C O.length) (zv O) now (at_ O d).toNat).length = O.length from hlen], by omega, by omega, hk2, hnx, by rw [M.pw_mul hx, ← hpw]⟩
end Go.Proofs
namespace Go.Grp
end Go.Grp
namespace Go.Proofs
open Go.Ab Go.Lie Go.Grp
variable {σ : PHeap} {K : PV → PHeap → Prop} {O : List Int} {P : List (List Int)} {C : List (List (List Int))} {vO vP vC vx vy vz : PV} {x y z : List Int} {d j sp n : Nat}
def OkC (p c : Int) : Prop := p = 5 ∨ p = 7 ∨ (p = 3 ∧ (c = 2 ∨ c = -2))
theorem inv_ex3 {n : Int} {j : Nat} (hn : n = 3 ^ j) (hb : n ≤ 729) : ∃ y : Int, (2 * y) % n = 1 % n := by
  have hd : n ∣ 729 := by
    rcases Nat.lt_or_ge 6 j with h | h
    · exfalso
      obtain ⟨k, rfl⟩ : ∃ k, j = 7 + k := ⟨j - 7, by omega⟩
      rw [Int.pow_add] at hn
      have : (1 : Int) ≤ 3 ^ k := Int.pow_pos (by decide)
      omega
    · rw [hn, show (729 : Int) = 3 ^ 6 by decide]; exact pow_dvd_of h
  exact ⟨365, mod_of_dvd hd (by decide)⟩
theorem inv_ex2 {p n : Int} {j : Nat} {c : Int} (hp : OkC p c) (hn : n = p ^ j) (hb : n ≤ 729) (hc : c = 2 ∨ c = 12 ∨ c = -2 ∨ c = -12) : ∃ y : Int, (c * y) % n = 1 % n := by
  have key : ∃ y : Int, ((if 0 < c then c else -c) * y) % n = 1 % n := by
    rcases hp with h | h | ⟨h, h2⟩
    · exact inv_ex (.inl h) hn hb (by split <;> omega)
    · exact inv_ex (.inr h) hn hb (by split <;> omega)
    · rw [h] at hn
      rw [show (if 0 < c then c else -c) = 2 by split <;> omega]
      exact inv_ex3 hn hb
  obtain ⟨y, hy⟩ := key
  split at hy
  · exact ⟨y, hy⟩
  · exact ⟨-y, by rw [show c * -y = -c * y by grind]; exact hy⟩
theorem mod_to {c y m : Int} (h : (c * y) % m = 1 % m) : ∃ w, (c % m) * y = 1 + w * m := by
  obtain ⟨q, hq⟩ : m ∣ c * y - 1 := Int.dvd_of_emod_eq_zero (by rw [Int.sub_emod, h]; simp)
  refine ⟨q - c / m * y, ?_⟩
  have h1 := Int.emod_add_mul_ediv c m
  generalize c % m = r at *
  generalize c / m = t at *
  grind
theorem mod_of {c y m t : Int} (h : (c % m) * y = 1 + t * m) : (c * y) % m = 1 % m := by
  have h1 := Int.emod_add_mul_ediv c m
  have h2 : c * y = 1 + (t + c / m * y) * m := by
    generalize c % m = r at *
    generalize c / m = t at *
    grind
  rw [h2, Int.add_mul_emod_self_right]
theorem order_ge (g : LG O P C) (h0 : 0 < O.length) (hz : gS O z) (hz0 : z ≠ zv O) {m i : Nat} (hm : (m : Int) = at_ O 0 ^ i) (h : Grp.pw (gm O P C) (zv O) z m = zv O) : 2 ≤ m := by
  have hp := (g.isp h0).bd
  cases i with
  | zero =>
    have : m = 1 := by simp at hm; omega
    rw [this, g.F.g.toMon.pw_one hz] at h
    exact absurd h hz0
  | succ i =>
    have h1 : (1 : Int) ≤ at_ O 0 ^ i := Int.pow_pos (by omega)
    rw [Int.pow_succ] at hm
    have h2 : 1 * at_ O 0 ≤ at_ O 0 ^ i * at_ O 0 := Int.mul_le_mul_of_nonneg_right h1 (by omega)
    omega
theorem pos_of_ne (hz : gS O z) (hz0 : z ≠ zv O) : 0 < O.length := by
  rcases Nat.eq_zero_or_pos O.length with h | h
  · exact absurd (ext_at (by rw [hz.len]; simp) fun j hj => by have := hz.len; omega) hz0
  · exact h
theorem root_ok (g : LG O P C) (hs : PtrG σ sp vO vP vC) (hR : IsPr vO vP vC O P C) (hz : gS O z) (hvz : FI vz z) {c : Int} (hcp : z ≠ zv O → OkC (at_ O 0) c) (hc : c = 2 ∨ c = 12 ∨ c = -2 ∨ c = -12)
    (hk : ∀ v w, FI v w → Rt O P C z c w → K v σ) : PCalls Tryz.prog 91 [.ptr sp 0, vz, .int .i64 c] σ K := by
  have s := g.s
  have hn6 := s.le
  have up : ∀ {z : List Int}, gS O z → TT O (O.length - O.length) z := fun h => by rw [Nat.sub_self]; exact h
  have hvz0 := hvz
  obtain ⟨wz, az, rfl⟩ := hvz
  have hzl := hz.len
  have hzz := isZ_zv hzl
  refine pcalls_of_vp mix Tryz.func91 cf91 rfl ?_
  dsimp only [if91, qI, eI, nI, qD, eD]
  simp only [pwA, if_true, if_false, eq_self, nm_eq, reduceCtorEq, ↓reduceIte, nQ10, nQ7, nQ11, nQ12, nQ16, nQ17, nQ18, iQ2, iQ3, iQ4, iQ5, iQ6, lQ19, iQ7, lQ20]
  refine isZero_ok rfl (by omega) ?_
  by_cases hz0 : z = zv O
  · have h1 := hzz.2 hz0
    simp only [pwA, if_true, if_false, eq_self, nm_eq, reduceCtorEq, ↓reduceIte, nQ10, nQ7, nQ11, nQ12, nQ16, nQ17, nQ18, iQ2, iQ3, iQ4, iQ5, iQ6, lQ19, iQ7, lQ20, h1]
    refine PCalls.fzN (n := z.length) rfl (fun K' => Clone_ok rfl (by omega)) fun v0 => ?_
    simp only [pwA, if_true, if_false, eq_self, nm_eq, reduceCtorEq, ↓reduceIte, nQ10, nQ7, nQ11, nQ12, nQ16, nQ17, nQ18, iQ2, iQ3, iQ4, iQ5, iQ6, lQ19, iQ7, lQ20]
    exact hk _ z ⟨true, v0, rfl⟩ (.inl ⟨hz0, hz0⟩)
  have h1 : ¬ isZ z := fun h => hz0 (hzz.1 h)
  have h0 := pos_of_ne hz hz0
  simp only [pwA, if_true, if_false, eq_self, nm_eq, reduceCtorEq, ↓reduceIte, nQ10, nQ7, nQ11, nQ12, nQ16, nQ17, nQ18, iQ2, iQ3, iQ4, iQ5, iQ6, lQ19, iQ7, lQ20, h1]
  refine orderOfElement_ok g hs hR hz hvz0 h0 fun m ⟨i, hm⟩ hm2 hpw => ?_
  have hm1 := order_ge g h0 hz hz0 hm hpw
  obtain ⟨Y, hY⟩ := inv_ex2 (hcp hz0) hm hm2 hc
  obtain ⟨wY, hY2⟩ := mod_to hY
  have b1 := Int.emod_nonneg c (show (m : Int) ≠ 0 by omega)
  have b2 := Int.emod_lt_of_pos c (show 0 < (m : Int) by omega)
  simp only [pwA, if_true, if_false, eq_self, nm_eq, reduceCtorEq, ↓reduceIte, nQ10, nQ7, nQ11, nQ12, nQ16, nQ17, nQ18, iQ2, iQ3, iQ4, iQ5, iQ6, lQ19, iQ7, lQ20]
  refine residue_ok (by omega) (by omega) ?_
  simp only [pwA, if_true, if_false, eq_self, nm_eq, reduceCtorEq, ↓reduceIte, nQ10, nQ7, nQ11, nQ12, nQ16, nQ17, nQ18, iQ2, iQ3, iQ4, iQ5, iQ6, lQ19, iQ7, lQ20]
  refine inverseG_ok b1 b2 (by omega) fun q qb q1 q2 q3 => ?_
  obtain ⟨t, ht⟩ := q3 ⟨Y, wY, hY2⟩
  simp only [pwA, if_true, if_false, eq_self, nm_eq, reduceCtorEq, ↓reduceIte, nQ10, nQ7, nQ11, nQ12, nQ16, nQ17, nQ18, iQ2, iQ3, iQ4, iQ5, iQ6, lQ19, iQ7, lQ20]
  refine power_fz s g.F hs hR (up hz) hvz0 (k := q) (by omega) fun v1 f1 => ?_
  simp only [pwA, if_true, if_false, eq_self, nm_eq, reduceCtorEq, ↓reduceIte, nQ10, nQ7, nQ11, nQ12, nQ16, nQ17, nQ18, iQ2, iQ3, iQ4, iQ5, iQ6, lQ19, iQ7, lQ20]
  refine hk _ _ f1 (.inr ⟨hz0, i, q.toNat, m, hm, hpw, ?_, rfl⟩)
  rw [Int.toNat_of_nonneg q1]
  exact mod_of ht
theorem l34Root_ok (g : LG O P C) (hR : IsPr vO vP vC O P C) (hz : gS O z) (hvz : FI vz z) {c : Int} (hcp : z ≠ zv O → OkC (at_ O 0) c) (hc : c = 2 ∨ c = 12)
    (hk : ∀ v w, FI v w → Rt O P C z c w → K v σ) : PCalls Tryz.prog 144 [.agg [vO, vP, vC], vz, .int .i64 c] σ K := by
  have s := g.s
  have hn6 := s.le
  have F := g.F
  have M := F.g.toMon
  have hvz0 := hvz
  obtain ⟨wz, az, rfl⟩ := hvz
  have hzl := hz.len
  have hzz := isZ_zv hzl
  have hR0 := hR
  obtain ⟨⟨w0, a0, rfl⟩, ⟨w1, a1, rP, rfl, hP⟩, ⟨w3, a3, rC, rfl, hC3⟩⟩ := hR
  refine PCalls.gh ?_
  have hkp : Keep σ (σ.new [.fz w0 a0 O.length (pis O), .fz w1 a1 P.length rP, .fz w3 a3 C.length rC]) := keep_new σ _
  have r3 : (σ.new [.fz w0 a0 O.length (pis O), .fz w1 a1 P.length rP, .fz w3 a3 C.length rC]).rd σ.next 0 3 = some [.fz w0 a0 O.length (pis O), .fz w1 a1 P.length rP, .fz w3 a3 C.length rC] := by simp only [pwA, if_true, if_false, eq_self, nm_eq, reduceCtorEq, ↓reduceIte, nQ10, nQ7, nQ11, nQ12, nQ16, nQ17, nQ18, iQ2, iQ3, iQ4, iQ5, iQ6, lQ19, iQ7, lQ20]
  have r0 : (σ.new [.fz w0 a0 O.length (pis O), .fz w1 a1 P.length rP, .fz w3 a3 C.length rC]).rd1 σ.next 0 = some (.fz w0 a0 O.length (pis O)) := by simp only [pwA, if_true, if_false, eq_self, nm_eq, reduceCtorEq, ↓reduceIte, nQ10, nQ7, nQ11, nQ12, nQ16, nQ17, nQ18, iQ2, iQ3, iQ4, iQ5, iQ6, lQ19, iQ7, lQ20]
  refine pcalls_of_vp mix Tryz.func144 cf144 rfl ?_
  dsimp only [if144, qI, eI, nI, qD, eD]
  simp only [pwA, if_true, if_false, eq_self, nm_eq, reduceCtorEq, ↓reduceIte, nQ10, nQ7, nQ11, nQ12, nQ16, nQ17, nQ18, iQ2, iQ3, iQ4, iQ5, iQ6, lQ19, iQ7, lQ20]
  refine l01Zero_ok rfl (by omega) ?_
  by_cases hz0 : z = zv O
  · have h1 := hzz.2 hz0
    simp only [pwA, if_true, if_false, eq_self, nm_eq, reduceCtorEq, ↓reduceIte, nQ10, nQ7, nQ11, nQ12, nQ16, nQ17, nQ18, iQ2, iQ3, iQ4, iQ5, iQ6, lQ19, iQ7, lQ20, h1]
    exact Gh.fin0 hkp (hvz0.bel _) (hk _ z hvz0 (.inl ⟨hz0, hz0⟩))
  have h1 : ¬ isZ z := fun h => hz0 (hzz.1 h)
  have h0 := pos_of_ne hz hz0
  have h0I : (0 : Int) < (O.length : Int) := by omega
  have hpb := (g.isp h0).bd
  simp only [pwA, if_true, if_false, eq_self, nm_eq, reduceCtorEq, ↓reduceIte, nQ10, nQ7, nQ11, nQ12, nQ16, nQ17, nQ18, iQ2, iQ3, iQ4, iQ5, iQ6, lQ19, iQ7, lQ20, h1, h0, h0I, pisAt h0, r3, r0]
  refine l10Pow_ok g hR0 hz hvz0 (k := at_ O 0) (by omega) fun v1 f1 => ?_
  obtain ⟨w5, a5, rfl⟩ := f1
  have nx1 := pw_next s F g.cent h0 hz
  simp only [pwA, if_true, if_false, eq_self, nm_eq, reduceCtorEq, ↓reduceIte, nQ10, nQ7, nQ11, nQ12, nQ16, nQ17, nQ18, iQ2, iQ3, iQ4, iQ5, iQ6, lQ19, iQ7, lQ20]
  refine vp_loop (fun m us h' => ∃ (i k : Nat) (w : Bool) (a : AV) (now : List Int), m = O.length - i ∧ us = [.fz wz az z.length (pis z), .int .i64 c, .ptr σ.next 0, .int .i64 k, .fz w a now.length (pis now)] ∧ σ.new [.fz w0 a0 O.length (pis O), .fz w1 a1 P.length rP, .fz w3 a3 C.length rC] = h' ∧ i ≤ O.length ∧ (k : Int) = at_ O 0 ^ i ∧ TT O i now ∧ now = Grp.pw (gm O P C) (zv O) z k) (O.length - 1) ?_ ?_
  · refine ⟨1, (at_ O 0).toNat, w5, a5, _, rfl, ?_, rfl, by omega, by rw [Int.toNat_of_nonneg (by omega), Int.pow_succ, Int.pow_zero, Int.one_mul], nx1, rfl⟩
    simp only [pwA, if_true, if_false, eq_self, nm_eq, reduceCtorEq, ↓reduceIte, nQ10, nQ7, nQ11, nQ12, nQ16, nQ17, nQ18, iQ2, iQ3, iQ4, iQ5, iQ6, lQ19, iQ7, lQ20, Int.toNat_of_nonneg (show 0 ≤ at_ O 0 by omega)]
  rintro m us h' ⟨i, k, w, a, now, rfl, rfl, rfl, hi, hki, hnow, hpw⟩
  have hnl := hnow.len
  have hbd := g.bound h0 (i := i) hi
  have hzn := isZ_zv hnl
  simp only [pwA, if_true, if_false, eq_self, nm_eq, reduceCtorEq, ↓reduceIte, nQ10, nQ7, nQ11, nQ12, nQ16, nQ17, nQ18, iQ2, iQ3, iQ4, iQ5, iQ6, lQ19, iQ7, lQ20]
  refine l01Zero_ok rfl (by omega) ?_
  by_cases hn0 : now = zv O
  rotate_left
  · have h2 : ¬ isZ now := fun h => hn0 (hzn.1 h)
    have hil : i < O.length := by
      rcases Nat.lt_or_ge i O.length with h | h
      · exact h
      · exact absurd (hnow.ext (s.zv _) fun j h1 h2 => by omega) hn0
    have hb2 := g.bound h0 (i := i + 1) (by omega)
    have hk2 : ((k * (at_ O 0).toNat : Nat) : Int) = at_ O 0 ^ (i + 1) := by
      rw [Int.natCast_mul, Int.toNat_of_nonneg (by omega), hki, Int.pow_succ]
    have ew : IntKind.i64.wrap ((k : Int) * at_ O 0) = ((k * (at_ O 0).toNat : Nat) : Int) := by
      rw [show (k : Int) * at_ O 0 = ((k * (at_ O 0).toNat : Nat) : Int) by rw [Int.natCast_mul, Int.toNat_of_nonneg (by omega)]]
      exact wrap64 (by omega) (by omega)
    have nS : gS O now := hnow.mono (Nat.zero_le _)
    simp only [pwA, if_true, if_false, eq_self, nm_eq, reduceCtorEq, ↓reduceIte, nQ10, nQ7, nQ11, nQ12, nQ16, nQ17, nQ18, iQ2, iQ3, iQ4, iQ5, iQ6, lQ19, iQ7, lQ20, h2, h0, h0I, pisAt h0, r3, r0, ew]
    refine l10Pow_ok g hR0 nS ⟨w, a, rfl⟩ (k := at_ O 0) (by omega) fun v2 f2 => ?_
    obtain ⟨w6, a6, rfl⟩ := f2
    have nx2 := pw_next s F g.cent hil hnow
    rw [g.eq hil] at nx2
    simp only [pwA, if_true, if_false, eq_self, nm_eq, reduceCtorEq, ↓reduceIte, nQ10, nQ7, nQ11, nQ12, nQ16, nQ17, nQ18, iQ2, iQ3, iQ4, iQ5, iQ6, lQ19, iQ7, lQ20, h2, h0, h0I, pisAt h0, r3, r0]
    exact ⟨_, by omega, i + 1, k * (at_ O 0).toNat, w6, a6, _, rfl, rfl, by omega, hk2, nx2, by rw [M.pw_mul hz, ← hpw]⟩
  have h2 := hzn.2 hn0
  rw [hn0] at hpw
  have hm1 := order_ge g h0 hz hz0 hki hpw.symm
  obtain ⟨Y, hY⟩ := inv_ex2 (hcp hz0) hki (by omega) (c := c) (by omega)
  have b1 := Int.emod_nonneg c (show (k : Int) ≠ 0 by omega)
  have b2 := Int.emod_lt_of_pos c (show 0 < (k : Int) by omega)
  have hY2 : (c % k * (Y % k)) % (k : Int) = 1 := by
    rw [← Int.mul_emod, hY]; exact Int.emod_eq_of_lt (by omega) (by omega)
  have hY1 := Int.emod_nonneg Y (show (k : Int) ≠ 0 by omega)
  have hY3 := Int.emod_lt_of_pos Y (show 0 < (k : Int) by omega)
  have hY0 : Y % (k : Int) ≠ 0 := fun h => by rw [h, Int.mul_zero, Int.zero_emod] at hY2; omega
  simp only [pwA, if_true, if_false, eq_self, nm_eq, reduceCtorEq, ↓reduceIte, nQ10, nQ7, nQ11, nQ12, nQ16, nQ17, nQ18, iQ2, iQ3, iQ4, iQ5, iQ6, lQ19, iQ7, lQ20, h2]
  refine vp_loop (fun m us h' => ∃ (q : Nat), m = k - q ∧ us = [.fz wz az z.length (pis z), .int .i64 c, .ptr σ.next 0, .int .i64 k, .int .i64 q] ∧ σ.new [.fz w0 a0 O.length (pis O), .fz w1 a1 P.length rP, .fz w3 a3 C.length rC] = h' ∧ 1 ≤ q ∧ (q : Int) ≤ Y % (k : Int)) (k - 1) ⟨1, rfl, rfl, rfl, by omega, by omega⟩ ?_
  rintro m us h' ⟨q, rfl, rfl, rfl, hq1, hqY⟩
  have hqk : (q : Int) < (k : Int) := by omega
  have hqk' : q < k := by omega
  have hmul := Int.mul_nonneg b1 (show 0 ≤ (q : Int) by omega)
  have hmul2 : c % (k : Int) * q ≤ 729 * 729 := Int.mul_le_mul (by omega) (by omega) (by omega) (by omega)
  have ew : IntKind.i64.wrap (c % (k : Int) * q) = c % (k : Int) * q := wrap64 (by omega) (by omega)
  have et : (c % (k : Int) * q).tmod k = c % (k : Int) * q % k := Int.tmod_eq_emod_of_nonneg hmul
  have hk0 : ¬ (k : Int) = 0 := by omega
  have bm1 := Int.emod_nonneg (c % (k : Int) * q) hk0
  have bm2 := Int.emod_lt_of_pos (c % (k : Int) * q) (show 0 < (k : Int) by omega)
  have ew2 : IntKind.i64.wrap (c % (k : Int) * q % k) = c % (k : Int) * q % k := wrap64 (by omega) (by omega)
  simp only [pwA, if_true, if_false, eq_self, nm_eq, reduceCtorEq, ↓reduceIte, nQ10, nQ7, nQ11, nQ12, nQ16, nQ17, nQ18, iQ2, iQ3, iQ4, iQ5, iQ6, lQ19, iQ7, lQ20, hqk']
  refine l01Mod_ok (by omega) (by omega) ?_
  by_cases hone : c % (k : Int) * q % k = 1
  · simp only [pwA, if_true, if_false, eq_self, nm_eq, reduceCtorEq, ↓reduceIte, nQ10, nQ7, nQ11, nQ12, nQ16, nQ17, nQ18, iQ2, iQ3, iQ4, iQ5, iQ6, lQ19, iQ7, lQ20, hqk', ew, et, hk0, ew2, hone, r3]
    refine l10Pow_ok g hR0 hz hvz0 (k := q) (by omega) fun v3 f3 => ?_
    simp only [pwA, if_true, if_false, eq_self, nm_eq, reduceCtorEq, ↓reduceIte, nQ10, nQ7, nQ11, nQ12, nQ16, nQ17, nQ18, iQ2, iQ3, iQ4, iQ5, iQ6, lQ19, iQ7, lQ20]
    refine Gh.fin0 hkp (f3.bel _) (hk _ _ f3 (.inr ⟨hz0, i, q, k, hki, hpw.symm, ?_, by rw [Int.toNat_natCast]⟩))
    rw [Int.mul_emod, Int.emod_emod_of_dvd _ (Int.dvd_refl _)] at hone
    rw [Int.mul_emod, hone]
    exact (Int.emod_eq_of_lt (by omega) (by omega)).symm
  · have hne : (q : Int) ≠ Y % (k : Int) := fun e => hone (by rw [e]; exact hY2)
    have eq1 : IntKind.i64.wrap ((q : Int) + 1) = ((q + 1 : Nat) : Int) := by rw [wrap64 (by omega) (by omega)]; omega
    simp only [pwA, if_true, if_false, eq_self, nm_eq, reduceCtorEq, ↓reduceIte, nQ10, nQ7, nQ11, nQ12, nQ16, nQ17, nQ18, iQ2, iQ3, iQ4, iQ5, iQ6, lQ19, iQ7, lQ20, hqk', ew, et, hk0, ew2, hone, eq1]
    exact ⟨_, by omega, q + 1, rfl, rfl, by omega, by omega⟩
end Go.Proofs
namespace Go.Grp
end Go.Grp
namespace Go.Proofs
open Go.Ab Go.Lie Go.Grp
variable {σ : PHeap} {K : PV → PHeap → Prop} {O : List Int} {P : List (List Int)} {C : List (List (List Int))} {vO vP vC vx vy vz vL : PV} {x y z : List Int} {xs : List (List Int)} {d j sp n : Nat}
theorem isExp.gS (h : isExp O x) : gS O x := ⟨h.1, fun j hj => by have := h.2 j (by rw [h.1]; exact hj); omega, fun j hj => by omega⟩
theorem isExp_tail : isTail O 0 x ↔ isExp O x := ⟨fun h => h.1, fun h => ⟨h, by simp [isZ]⟩⟩
theorem areElements_ok (hs : PtrG σ sp vO vP vC) (hR : IsPr vO vP vC O P C) (sz : SzP O P C) (hL : FII vL xs) (szL : SzL xs) (hk : ∀ t : Bool, (t = true ↔ (isPres O P C ∧ Cons O P C) ∧ ∀ x ∈ xs, isExp O x) → K (.bool t) σ) : PCalls Tryz.prog 84 [.ptr sp 0, vL] σ K := by
  have fl : ∀ {A : Prop}, ¬ A → ((false = true) ↔ A) := fun h => ⟨fun x => (by cases x), fun x => absurd x h⟩
  have r3 : σ.rd sp 0 3 = some [vO, vP, vC] := by rw [obj_rd hs.obj]; rfl
  have hxl := szL.l
  obtain ⟨wl, al, rl, rfl, hrl⟩ := hL
  refine pcalls_of_vp mix Tryz.func84 cf84 rfl ?_
  dsimp only [if84, qI, eI, nI, qD, eD]
  simp only [pwA, if_true, if_false, eq_self, nm_eq, reduceCtorEq, ↓reduceIte, nQ10, nQ7, nQ11, nQ12, nQ16, nQ17, nQ18, iQ2, iQ3, iQ4, iQ5, iQ6, lQ19, iQ7, lQ20, r3]
  refine IsConsistent_ok hR sz fun t ht => ?_
  cases t with
  | false =>
    simp only [pwA, if_true, if_false, eq_self, nm_eq, reduceCtorEq, ↓reduceIte, nQ10, nQ7, nQ11, nQ12, nQ16, nQ17, nQ18, iQ2, iQ3, iQ4, iQ5, iQ6, lQ19, iQ7, lQ20]
    exact hk _ (fl fun h => by cases ht.2 h.1)
  | true =>
  have hp := ht.1 rfl
  simp only [pwA, if_true, if_false, eq_self, nm_eq, reduceCtorEq, ↓reduceIte, nQ10, nQ7, nQ11, nQ12, nQ16, nQ17, nQ18, iQ2, iQ3, iQ4, iQ5, iQ6, lQ19, iQ7, lQ20]
  refine vp_loop (fun m us h' => ∃ i : Nat, i ≤ xs.length ∧ m = xs.length - i ∧ us = [.ptr sp 0, .fz wl al xs.length rl, .int .i64 xs.length, .int .i64 i] ∧ σ = h' ∧ ∀ x ∈ xs.take i, isExp O x) xs.length ⟨0, by omega, by omega, rfl, rfl, by simp⟩ ?_
  rintro m us h' ⟨i, hi, rfl, rfl, rfl, hall⟩
  simp only [pwA, if_true, if_false, eq_self, nm_eq, reduceCtorEq, ↓reduceIte, nQ10, nQ7, nQ11, nQ12, nQ16, nQ17, nQ18, iQ2, iQ3, iQ4, iQ5, iQ6, lQ19, iQ7, lQ20]
  refine iteI (fun hlt => ?_) fun hge => ?_
  rotate_left
  · have hie : i = xs.length := by omega
    subst hie
    rw [List.take_length] at hall
    exact hk _ ⟨fun _ => ⟨hp, hall⟩, fun _ => rfl⟩
  obtain ⟨w4, a4, hr⟩ := hrl.rowI hlt
  have hxi := szL.r _ (List.getElem_mem hlt)
  simp only [pwA, if_true, if_false, eq_self, nm_eq, reduceCtorEq, ↓reduceIte, nQ10, nQ7, nQ11, nQ12, nQ16, nQ17, nQ18, iQ2, iQ3, iQ4, iQ5, iQ6, lQ19, iQ7, lQ20, hlt, hr]
  refine isExponents_ok hs hR.O (by have := hp.1.1; omega) hp.1.isp ⟨w4, a4, rfl⟩ hxi fun t ht => ?_
  cases t with
  | false =>
    simp only [pwA, if_true, if_false, eq_self, nm_eq, reduceCtorEq, ↓reduceIte, nQ10, nQ7, nQ11, nQ12, nQ16, nQ17, nQ18, iQ2, iQ3, iQ4, iQ5, iQ6, lQ19, iQ7, lQ20]
    exact hk _ (fl fun h => by cases ht.2 (h.2 _ (List.getElem_mem hlt)))
  | true =>
  have h1 := ht.1 rfl
  simp only [pwA, if_true, if_false, eq_self, nm_eq, reduceCtorEq, ↓reduceIte, nQ10, nQ7, nQ11, nQ12, nQ16, nQ17, nQ18, iQ2, iQ3, iQ4, iQ5, iQ6, lQ19, iQ7, lQ20, wrapS hlt (by omega : xs.length ≤ 4611686018427387904)]
  refine ⟨_, by omega, i + 1, by omega, rfl, rfl, fun x hx => ?_⟩
  rw [List.take_succ_eq_append_getElem hlt, List.mem_append, List.mem_singleton] at hx
  rcases hx with hx | hx
  · exact hall x hx
  · rw [hx]; exact h1
open Classical in
noncomputable def codeG (O : List Int) (P : List (List Int)) (C : List (List (List Int))) (xs : List (List Int)) : Int :=
  if (isPres O P C ∧ Cons O P C) ∧ ∀ x ∈ xs, isExp O x then (if isCen O C ∧ clsOk O P C then 0 else 5) else 1
theorem codeG_0 (h : codeG O P C xs = 0) : LG O P C ∧ clsOk O P C ∧ ∀ x ∈ xs, gS O x := by
  unfold codeG at h
  split at h
  · rename_i h1
    split at h
    · rename_i h2
      exact ⟨⟨h1.1.1, h1.1.2, h2.1⟩, h2.2, fun x hx => (h1.2 x hx).gS⟩
    · omega
  · omega
theorem lazardGroupCode_ok (hs : PtrG σ sp vO vP vC) (hR : IsPr vO vP vC O P C) (sz : SzP O P C) (hL : FII vL xs) (szL : SzL xs) (hk : K (.int .i64 (codeG O P C xs)) σ) : PCalls Tryz.prog 46 [.ptr sp 0, vL] σ K := by
  unfold codeG at hk
  have hL1 := hL
  obtain ⟨wl, al, rl, rfl, hrl⟩ := hL
  refine pcalls_of_vp mix Tryz.func46 cf46 rfl ?_
  dsimp only [if46, qI, eI, nI, qD, eD]
  simp only [pwA, if_true, if_false, eq_self, nm_eq, reduceCtorEq, ↓reduceIte, nQ10, nQ7, nQ11, nQ12, nQ16, nQ17, nQ18, iQ2, iQ3, iQ4, iQ5, iQ6, lQ19, iQ7, lQ20]
  refine areElements_ok hs hR sz hL1 szL fun t ht => ?_
  cases t with
  | false =>
    rw [if_neg fun h => by cases ht.2 h] at hk
    simp only [pwA, if_true, if_false, eq_self, nm_eq, reduceCtorEq, ↓reduceIte, nQ10, nQ7, nQ11, nQ12, nQ16, nQ17, nQ18, iQ2, iQ3, iQ4, iQ5, iQ6, lQ19, iQ7, lQ20]
    exact hk
  | true =>
  have h1 := ht.1 rfl
  rw [if_pos h1] at hk
  simp only [pwA, if_true, if_false, eq_self, nm_eq, reduceCtorEq, ↓reduceIte, nQ10, nQ7, nQ11, nQ12, nQ16, nQ17, nQ18, iQ2, iQ3, iQ4, iQ5, iQ6, lQ19, iQ7, lQ20]
  refine isLazardGroup_in h1.1.1 h1.1.2 hs hR fun t2 ht2 => ?_
  cases t2 with
  | false =>
    rw [if_neg fun h => by cases ht2.2 h] at hk
    simp only [pwA, if_true, if_false, eq_self, nm_eq, reduceCtorEq, ↓reduceIte, nQ10, nQ7, nQ11, nQ12, nQ16, nQ17, nQ18, iQ2, iQ3, iQ4, iQ5, iQ6, lQ19, iQ7, lQ20]
    exact hk
  | true =>
    rw [if_pos (ht2.1 rfl)] at hk
    simp only [pwA, if_true, if_false, eq_self, nm_eq, reduceCtorEq, ↓reduceIte, nQ10, nQ7, nQ11, nQ12, nQ16, nQ17, nQ18, iQ2, iQ3, iQ4, iQ5, iQ6, lQ19, iQ7, lQ20]
    exact hk
theorem l34Code_ok (hR : IsPr vO vP vC O P C) (sz : SzP O P C) (hL : FII vL xs) (szL : SzL xs) (hk : K (.int .i64 (codeG O P C xs)) σ) : PCalls Tryz.prog 43 [.agg [vO, vP, vC], vL] σ K := by
  unfold codeG at hk
  have hR0 := hR
  have hxl := szL.l
  obtain ⟨⟨w0, a0, rfl⟩, ⟨w1, a1, rP, rfl, hP⟩, ⟨w3, a3, rC, rfl, hC3⟩⟩ := hR
  obtain ⟨wl, al, rl, rfl, hrl⟩ := hL
  refine PCalls.gh ?_
  have hkp : Keep σ (σ.new [.fz w0 a0 O.length (pis O), .fz w1 a1 P.length rP, .fz w3 a3 C.length rC]) := keep_new σ _
  have r3 : (σ.new [.fz w0 a0 O.length (pis O), .fz w1 a1 P.length rP, .fz w3 a3 C.length rC]).rd σ.next 0 3 = some [.fz w0 a0 O.length (pis O), .fz w1 a1 P.length rP, .fz w3 a3 C.length rC] := by simp only [pwA, if_true, if_false, eq_self, nm_eq, reduceCtorEq, ↓reduceIte, nQ10, nQ7, nQ11, nQ12, nQ16, nQ17, nQ18, iQ2, iQ3, iQ4, iQ5, iQ6, lQ19, iQ7, lQ20]
  have r0 : (σ.new [.fz w0 a0 O.length (pis O), .fz w1 a1 P.length rP, .fz w3 a3 C.length rC]).rd1 σ.next 0 = some (.fz w0 a0 O.length (pis O)) := by simp only [pwA, if_true, if_false, eq_self, nm_eq, reduceCtorEq, ↓reduceIte, nQ10, nQ7, nQ11, nQ12, nQ16, nQ17, nQ18, iQ2, iQ3, iQ4, iQ5, iQ6, lQ19, iQ7, lQ20]
  refine pcalls_of_vp mix Tryz.func43 cf43 rfl ?_
  dsimp only [if43, qI, eI, nI, qD, eD]
  simp only [pwA, if_true, if_false, eq_self, nm_eq, reduceCtorEq, ↓reduceIte, nQ10, nQ7, nQ11, nQ12, nQ16, nQ17, nQ18, iQ2, iQ3, iQ4, iQ5, iQ6, lQ19, iQ7, lQ20, r3]
  refine l08Group_ok hR0 sz fun t ht => ?_
  cases t with
  | false =>
    rw [if_neg fun h => by cases ht.2 h.1] at hk
    simp only [pwA, if_true, if_false, eq_self, nm_eq, reduceCtorEq, ↓reduceIte, nQ10, nQ7, nQ11, nQ12, nQ16, nQ17, nQ18, iQ2, iQ3, iQ4, iQ5, iQ6, lQ19, iQ7, lQ20]
    exact Gh.fin0 hkp trivial hk
  | true =>
  have hp := ht.1 rfl
  simp only [pwA, if_true, if_false, eq_self, nm_eq, reduceCtorEq, ↓reduceIte, nQ10, nQ7, nQ11, nQ12, nQ16, nQ17, nQ18, iQ2, iQ3, iQ4, iQ5, iQ6, lQ19, iQ7, lQ20]
  refine vp_loop (fun m us h' => ∃ i : Nat, i ≤ xs.length ∧ m = xs.length - i ∧ us = [.fz wl al xs.length rl, .ptr σ.next 0, .int .i64 i] ∧ σ.new [.fz w0 a0 O.length (pis O), .fz w1 a1 P.length rP, .fz w3 a3 C.length rC] = h' ∧ ∀ x ∈ xs.take i, isExp O x) xs.length ⟨0, by omega, by omega, rfl, rfl, by simp⟩ ?_
  rintro m us h' ⟨i, hi, rfl, rfl, rfl, hall⟩
  simp only [pwA, if_true, if_false, eq_self, nm_eq, reduceCtorEq, ↓reduceIte, nQ10, nQ7, nQ11, nQ12, nQ16, nQ17, nQ18, iQ2, iQ3, iQ4, iQ5, iQ6, lQ19, iQ7, lQ20]
  refine iteI (fun hlt => ?_) fun hge => ?_
  rotate_left
  · have hie : i = xs.length := by omega
    subst hie
    rw [List.take_length] at hall
    rw [if_pos ⟨hp, hall⟩] at hk
    simp only [pwA, if_true, if_false, eq_self, nm_eq, reduceCtorEq, ↓reduceIte, nQ10, nQ7, nQ11, nQ12, nQ16, nQ17, nQ18, iQ2, iQ3, iQ4, iQ5, iQ6, lQ19, iQ7, lQ20, r3]
    refine l34IsLazard_ok hR0 sz fun t2 ht2 => ?_
    cases t2 with
    | false =>
      rw [if_neg fun h => by cases ht2.2 ⟨⟨hp, h.1⟩, h.2⟩] at hk
      simp only [pwA, if_true, if_false, eq_self, nm_eq, reduceCtorEq, ↓reduceIte, nQ10, nQ7, nQ11, nQ12, nQ16, nQ17, nQ18, iQ2, iQ3, iQ4, iQ5, iQ6, lQ19, iQ7, lQ20]
      exact Gh.fin0 hkp trivial hk
    | true =>
      have h2 := ht2.1 rfl
      rw [if_pos ⟨h2.1.2, h2.2⟩] at hk
      simp only [pwA, if_true, if_false, eq_self, nm_eq, reduceCtorEq, ↓reduceIte, nQ10, nQ7, nQ11, nQ12, nQ16, nQ17, nQ18, iQ2, iQ3, iQ4, iQ5, iQ6, lQ19, iQ7, lQ20]
      exact Gh.fin0 hkp trivial hk
  obtain ⟨w4, a4, hr⟩ := hrl.rowI hlt
  have hxi := szL.r _ (List.getElem_mem hlt)
  simp only [pwA, if_true, if_false, eq_self, nm_eq, reduceCtorEq, ↓reduceIte, nQ10, nQ7, nQ11, nQ12, nQ16, nQ17, nQ18, iQ2, iQ3, iQ4, iQ5, iQ6, lQ19, iQ7, lQ20, hlt, hr, r0]
  refine l07Exponents_ok (t := 0) (by omega) (by omega) hR0.O (by have := hp.1.1; omega) hp.1.isp ⟨w4, a4, rfl⟩ hxi fun t ht => ?_
  cases t with
  | false =>
    rw [if_neg fun h => by cases ht.2 (isExp_tail.2 (h.2 _ (List.getElem_mem hlt)))] at hk
    simp only [pwA, if_true, if_false, eq_self, nm_eq, reduceCtorEq, ↓reduceIte, nQ10, nQ7, nQ11, nQ12, nQ16, nQ17, nQ18, iQ2, iQ3, iQ4, iQ5, iQ6, lQ19, iQ7, lQ20]
    exact Gh.fin0 hkp trivial hk
  | true =>
  have h1 := isExp_tail.1 (ht.1 rfl)
  simp only [pwA, if_true, if_false, eq_self, nm_eq, reduceCtorEq, ↓reduceIte, nQ10, nQ7, nQ11, nQ12, nQ16, nQ17, nQ18, iQ2, iQ3, iQ4, iQ5, iQ6, lQ19, iQ7, lQ20, wrapS hlt (by omega : xs.length ≤ 4611686018427387904)]
  refine ⟨_, by omega, i + 1, by omega, rfl, rfl, fun x hx => ?_⟩
  rw [List.take_succ_eq_append_getElem hlt, List.mem_append, List.mem_singleton] at hx
  rcases hx with hx | hx
  · exact hall x hx
  · rw [hx]; exact h1
end Go.Proofs
namespace Go.Grp
end Go.Grp
namespace Go.Proofs
open Go.Ab Go.Lie Go.Grp
variable {σ : PHeap} {K : PV → PHeap → Prop} {O : List Int} {P : List (List Int)} {C : List (List (List Int))} {vO vP vC vx vy vz vL : PV} {x y z w w' : List Int} {xs : List (List Int)} {d j sp n : Nat}
noncomputable def rt (O : List Int) (P : List (List Int)) (C : List (List (List Int))) (z : List Int) (c : Int) : List Int := Classical.epsilon fun w => Rt O P C z c w
noncomputable abbrev gi_ (O : List Int) (P : List (List Int)) (C : List (List (List Int))) (x : List Int) : List Int := ginv (gS O) (gm O P C) (zv O) x
theorem rt_spec {c : Int} (h : Rt O P C z c w) : Rt O P C z c (rt O P C z c) := Classical.epsilon_spec ⟨w, h⟩
theorem rt_eq (g : LG O P C) (hz : gS O z) {c : Int} (h : Rt O P C z c w) : w = rt O P C z c := Rt.unique g.F hz h (rt_spec h)
theorem Rt.flip (g : LG O P C) (hz : gS O z) {c : Int} (h : Rt O P C z (-c) w') : ∃ w, Rt O P C z c w := by
  rcases h with ⟨h0, rfl⟩ | ⟨h0, j, y, n, h1, h2, h3, rfl⟩
  · exact ⟨zv O, .inl ⟨h0, rfl⟩⟩
  · refine ⟨_, .inr ⟨h0, j, (n - 1) * y, n, h1, h2, ?_, rfl⟩⟩
    have hn : 1 ≤ n := by
      have hp := (g.isp (pos_of_ne hz h0)).bd
      have h4 : (1 : Int) ≤ at_ O 0 ^ j := Int.pow_pos (by omega)
      omega
    have e : c * (((n - 1) * y : Nat) : Int) = -c * y + (c * y) * n := by
      rw [Int.natCast_mul, show ((n - 1 : Nat) : Int) = (n : Int) - 1 by omega]; grind
    rw [e, Int.add_mul_emod_self_right]; exact h3
theorem rt_neg (g : LG O P C) (hz : gS O z) {c : Int} (h : Rt O P C z (-c) w') : w' = gi_ O P C (rt O P C z c) := by
  obtain ⟨w, hw⟩ := Rt.flip g hz h
  have := Rt.neg g.F g.s hz hw h
  rw [this, rt_eq g hz hw]
theorem ok2 (g : LG O P C) (k : clsOk O P C) (hx : gS O x) (hy : gS O y) {c : Int} (hc : c = 2 ∨ c = -2) (h : gcom O P C x y ≠ zv O) : OkC (at_ O 0) c := by
  have h0 := pos_of_ne (g.F.g.com_in hx hy) h
  rcases k with k | ⟨k, k1, k2⟩
  · rw [k] at h0; simp at h0
  · rcases g.isp h0 with e | e | e | e
    · exact absurd (com_triv2 g.s g.F k2 (by omega) hx hy) h
    · exact .inr (.inr ⟨e, hc⟩)
    · exact .inl e
    · exact .inr (.inl e)
theorem ok12 (g : LG O P C) (k : clsOk O P C) (hx : gS O x) (hy : gS O y) (hz : gS O z) {c : Int} (h : gcom O P C (gcom O P C x y) z ≠ zv O) : OkC (at_ O 0) c := by
  have hxy := g.F.g.com_in hx hy
  have h0 := pos_of_ne (g.F.g.com_in hxy hz) h
  rcases k with k | ⟨k, k1, k2⟩
  · rw [k] at h0; simp at h0
  · rcases g.isp h0 with e | e | e | e
    · exact absurd (com_triv2 g.s g.F k2 (by omega) hxy hz) h
    · exact absurd (com_triv3 g.s g.F k2 (by omega) hx hy hz) h
    · exact .inl e
    · exact .inr (.inl e)
noncomputable def gsum (O : List Int) (P : List (List Int)) (C : List (List (List Int))) (x y : List Int) : List Int :=
  gm O P C (gm O P C (gm O P C (gm O P C x y) (gi_ O P C (rt O P C (gcom O P C x y) 2))) (rt O P C (gcom O P C (gcom O P C x y) x) 12)) (gi_ O P C (rt O P C (gcom O P C (gcom O P C x y) y) 12))
noncomputable def gbr (O : List Int) (P : List (List Int)) (C : List (List (List Int))) (x y : List Int) : List Int :=
  gm O P C (gm O P C (gcom O P C x y) (gi_ O P C (rt O P C (gcom O P C (gcom O P C x y) x) 2))) (gi_ O P C (rt O P C (gcom O P C (gcom O P C x y) y) 2))
theorem up_ (h : gS O z) : TT O (O.length - O.length) z := by rw [Nat.sub_self]; exact h
theorem groupSum_ok (g : LG O P C) (k : clsOk O P C) (hs : PtrG σ sp vO vP vC) (hR : IsPr vO vP vC O P C) (hx : gS O x) (hy : gS O y) (hvx : FI vx x) (hvy : FI vy y) (hk : gS O (gsum O P C x y) → ResI σ K (gsum O P C x y)) :
    PCalls Tryz.prog 86 [.ptr sp 0, vx, vy] σ K := by
  have s := g.s
  have F := g.F
  have G := F.g
  have cS := G.com_in hx hy
  have aS := G.com_in cS hx
  have bS := G.com_in cS hy
  have xyS := G.cl hx hy
  refine PCalls.gh ?_
  refine pcalls_of_vp mix Tryz.func86 cf86 rfl ?_
  dsimp only [if86, qI, eI, nI, qD, eD]
  simp only [pwA, if_true, if_false, eq_self, nm_eq, reduceCtorEq, ↓reduceIte, nQ10, nQ7, nQ11, nQ12, nQ16, nQ17, nQ18, iQ2, iQ3, iQ4, iQ5, iQ6, lQ19, iQ7, lQ20]
  refine commutator_fz s F hs hR hx hy hvx hvy fun v1 f1 => ?_
  simp only [pwA, if_true, if_false, eq_self, nm_eq, reduceCtorEq, ↓reduceIte, nQ10, nQ7, nQ11, nQ12, nQ16, nQ17, nQ18, iQ2, iQ3, iQ4, iQ5, iQ6, lQ19, iQ7, lQ20]
  refine multiply_fz s F hs hR (up_ hx) (up_ hy) hvx hvy fun v2 f2 => ?_
  simp only [pwA, if_true, if_false, eq_self, nm_eq, reduceCtorEq, ↓reduceIte, nQ10, nQ7, nQ11, nQ12, nQ16, nQ17, nQ18, iQ2, iQ3, iQ4, iQ5, iQ6, lQ19, iQ7, lQ20]
  refine root_ok g hs hR cS f1 (c := -2) (ok2 g k hx hy (.inr rfl)) (by omega) fun v3 w3 f3 r3 => ?_
  have e3 := rt_neg g cS (c := 2) r3
  have S3 : gS O w3 := r3.gS F s cS
  simp only [pwA, if_true, if_false, eq_self, nm_eq, reduceCtorEq, ↓reduceIte, nQ10, nQ7, nQ11, nQ12, nQ16, nQ17, nQ18, iQ2, iQ3, iQ4, iQ5, iQ6, lQ19, iQ7, lQ20]
  refine multiply_fz s F hs hR (up_ xyS) (up_ S3) f2 f3 fun v4 f4 => ?_
  have S4 := G.cl xyS S3
  simp only [pwA, if_true, if_false, eq_self, nm_eq, reduceCtorEq, ↓reduceIte, nQ10, nQ7, nQ11, nQ12, nQ16, nQ17, nQ18, iQ2, iQ3, iQ4, iQ5, iQ6, lQ19, iQ7, lQ20]
  refine commutator_fz s F hs hR cS hx f1 hvx fun v5 f5 => ?_
  simp only [pwA, if_true, if_false, eq_self, nm_eq, reduceCtorEq, ↓reduceIte, nQ10, nQ7, nQ11, nQ12, nQ16, nQ17, nQ18, iQ2, iQ3, iQ4, iQ5, iQ6, lQ19, iQ7, lQ20]
  refine root_ok g hs hR aS f5 (c := 12) (ok12 g k hx hy hx) (by omega) fun v6 w6 f6 r6 => ?_
  have e6 := rt_eq g aS r6
  have S6 : gS O w6 := r6.gS F s aS
  simp only [pwA, if_true, if_false, eq_self, nm_eq, reduceCtorEq, ↓reduceIte, nQ10, nQ7, nQ11, nQ12, nQ16, nQ17, nQ18, iQ2, iQ3, iQ4, iQ5, iQ6, lQ19, iQ7, lQ20]
  refine multiply_fz s F hs hR (up_ S4) (up_ S6) f4 f6 fun v7 f7 => ?_
  have S7 := G.cl S4 S6
  simp only [pwA, if_true, if_false, eq_self, nm_eq, reduceCtorEq, ↓reduceIte, nQ10, nQ7, nQ11, nQ12, nQ16, nQ17, nQ18, iQ2, iQ3, iQ4, iQ5, iQ6, lQ19, iQ7, lQ20]
  refine commutator_fz s F hs hR cS hy f1 hvy fun v8 f8 => ?_
  simp only [pwA, if_true, if_false, eq_self, nm_eq, reduceCtorEq, ↓reduceIte, nQ10, nQ7, nQ11, nQ12, nQ16, nQ17, nQ18, iQ2, iQ3, iQ4, iQ5, iQ6, lQ19, iQ7, lQ20]
  refine root_ok g hs hR bS f8 (c := -12) (ok12 g k hx hy hy) (by omega) fun v9 w9 f9 r9 => ?_
  have e9 := rt_neg g bS (c := 12) r9
  have S9 : gS O w9 := r9.gS F s bS
  have S10 := G.cl S7 S9
  have e : mu O P C O.length (gm O P C (gm O P C (gm O P C x y) w3) w6) w9 = gsum O P C x y := by unfold gsum; rw [← e3, ← e6, ← e9]
  have hr := hk (by rw [← e]; exact S10)
  rw [← e] at hr
  simp only [pwA, if_true, if_false, eq_self, nm_eq, reduceCtorEq, ↓reduceIte, nQ10, nQ7, nQ11, nQ12, nQ16, nQ17, nQ18, iQ2, iQ3, iQ4, iQ5, iQ6, lQ19, iQ7, lQ20]
  refine multiply_ok s F hs hR (up_ S7) (up_ S9) f7 f9 ⟨fun h0 => ?_, fun cap hc => ?_⟩
  · simp only [pwA, if_true, if_false, eq_self, nm_eq, reduceCtorEq, ↓reduceIte, nQ10, nQ7, nQ11, nQ12, nQ16, nQ17, nQ18, iQ2, iQ3, iQ4, iQ5, iQ6, lQ19, iQ7, lQ20]
    exact Gh.ret (hr.1 h0)
  · simp only [pwA, if_true, if_false, eq_self, nm_eq, reduceCtorEq, ↓reduceIte, nQ10, nQ7, nQ11, nQ12, nQ16, nQ17, nQ18, iQ2, iQ3, iQ4, iQ5, iQ6, lQ19, iQ7, lQ20]
    exact Gh.ret (hr.2 cap hc)
theorem groupBracket_ok (g : LG O P C) (k : clsOk O P C) (hs : PtrG σ sp vO vP vC) (hR : IsPr vO vP vC O P C) (hx : gS O x) (hy : gS O y) (hvx : FI vx x) (hvy : FI vy y) (hk : gS O (gbr O P C x y) → ResI σ K (gbr O P C x y)) :
    PCalls Tryz.prog 51 [.ptr sp 0, vx, vy] σ K := by
  have s := g.s
  have F := g.F
  have G := F.g
  have cS := G.com_in hx hy
  have aS := G.com_in cS hx
  have bS := G.com_in cS hy
  refine PCalls.gh ?_
  refine pcalls_of_vp mix Tryz.func51 cf51 rfl ?_
  dsimp only [if51, qI, eI, nI, qD, eD]
  simp only [pwA, if_true, if_false, eq_self, nm_eq, reduceCtorEq, ↓reduceIte, nQ10, nQ7, nQ11, nQ12, nQ16, nQ17, nQ18, iQ2, iQ3, iQ4, iQ5, iQ6, lQ19, iQ7, lQ20]
  refine commutator_fz s F hs hR hx hy hvx hvy fun v1 f1 => ?_
  simp only [pwA, if_true, if_false, eq_self, nm_eq, reduceCtorEq, ↓reduceIte, nQ10, nQ7, nQ11, nQ12, nQ16, nQ17, nQ18, iQ2, iQ3, iQ4, iQ5, iQ6, lQ19, iQ7, lQ20]
  refine commutator_fz s F hs hR cS hx f1 hvx fun v5 f5 => ?_
  simp only [pwA, if_true, if_false, eq_self, nm_eq, reduceCtorEq, ↓reduceIte, nQ10, nQ7, nQ11, nQ12, nQ16, nQ17, nQ18, iQ2, iQ3, iQ4, iQ5, iQ6, lQ19, iQ7, lQ20]
  refine root_ok g hs hR aS f5 (c := -2) (ok12 g k hx hy hx) (by omega) fun v6 w6 f6 r6 => ?_
  have e6 := rt_neg g aS (c := 2) r6
  have S6 : gS O w6 := r6.gS F s aS
  simp only [pwA, if_true, if_false, eq_self, nm_eq, reduceCtorEq, ↓reduceIte, nQ10, nQ7, nQ11, nQ12, nQ16, nQ17, nQ18, iQ2, iQ3, iQ4, iQ5, iQ6, lQ19, iQ7, lQ20]
  refine multiply_fz s F hs hR (up_ cS) (up_ S6) f1 f6 fun v7 f7 => ?_
  have S7 := G.cl cS S6
  simp only [pwA, if_true, if_false, eq_self, nm_eq, reduceCtorEq, ↓reduceIte, nQ10, nQ7, nQ11, nQ12, nQ16, nQ17, nQ18, iQ2, iQ3, iQ4, iQ5, iQ6, lQ19, iQ7, lQ20]
  refine commutator_fz s F hs hR cS hy f1 hvy fun v8 f8 => ?_
  simp only [pwA, if_true, if_false, eq_self, nm_eq, reduceCtorEq, ↓reduceIte, nQ10, nQ7, nQ11, nQ12, nQ16, nQ17, nQ18, iQ2, iQ3, iQ4, iQ5, iQ6, lQ19, iQ7, lQ20]
  refine root_ok g hs hR bS f8 (c := -2) (ok12 g k hx hy hy) (by omega) fun v9 w9 f9 r9 => ?_
  have e9 := rt_neg g bS (c := 2) r9
  have S9 : gS O w9 := r9.gS F s bS
  have S10 := G.cl S7 S9
  have e : mu O P C O.length (gm O P C (gcom O P C x y) w6) w9 = gbr O P C x y := by unfold gbr; rw [← e6, ← e9]
  have hr := hk (by rw [← e]; exact S10)
  rw [← e] at hr
  simp only [pwA, if_true, if_false, eq_self, nm_eq, reduceCtorEq, ↓reduceIte, nQ10, nQ7, nQ11, nQ12, nQ16, nQ17, nQ18, iQ2, iQ3, iQ4, iQ5, iQ6, lQ19, iQ7, lQ20]
  refine multiply_ok s F hs hR (up_ S7) (up_ S9) f7 f9 ⟨fun h0 => ?_, fun cap hc => ?_⟩
  · simp only [pwA, if_true, if_false, eq_self, nm_eq, reduceCtorEq, ↓reduceIte, nQ10, nQ7, nQ11, nQ12, nQ16, nQ17, nQ18, iQ2, iQ3, iQ4, iQ5, iQ6, lQ19, iQ7, lQ20]
    exact Gh.ret (hr.1 h0)
  · simp only [pwA, if_true, if_false, eq_self, nm_eq, reduceCtorEq, ↓reduceIte, nQ10, nQ7, nQ11, nQ12, nQ16, nQ17, nQ18, iQ2, iQ3, iQ4, iQ5, iQ6, lQ19, iQ7, lQ20]
    exact Gh.ret (hr.2 cap hc)
theorem l34Product_ok (g : LG O P C) (hR : IsPr vO vP vC O P C) (hL : FII vL xs) (hx : ∀ x ∈ xs, gS O x) (hxl : xs.length ≤ 1000) (hk : ∀ v, FI v (xs.foldl (gm O P C) (zv O)) → K v σ) : PCalls Tryz.prog 143 [.agg [vO, vP, vC], vL] σ K := by
  have s := g.s
  have hn6 := s.le
  have G := g.F.g
  have hR0 := hR
  obtain ⟨⟨w0, a0, rfl⟩, ⟨w1, a1, rP, rfl, hP⟩, ⟨w3, a3, rC, rfl, hC3⟩⟩ := hR
  obtain ⟨wl, al, rl, rfl, hrl⟩ := hL
  refine PCalls.gh ?_
  have hkp : Keep σ (σ.new [.fz w0 a0 O.length (pis O), .fz w1 a1 P.length rP, .fz w3 a3 C.length rC]) := keep_new σ _
  have r3 : ∀ {h : PHeap}, Keep (σ.new [.fz w0 a0 O.length (pis O), .fz w1 a1 P.length rP, .fz w3 a3 C.length rC]) h → h.rd σ.next 0 3 = some [.fz w0 a0 O.length (pis O), .fz w1 a1 P.length rP, .fz w3 a3 C.length rC] := fun {h} k => by
    have : h.obj σ.next = some [.fz w0 a0 O.length (pis O), .fz w1 a1 P.length rP, .fz w3 a3 C.length rC] := by rw [k.obj _ (by simp [PHeap.new])]; simp [PHeap.new]
    rw [obj_rd this]; rfl
  refine pcalls_of_vp mix Tryz.func143 cf143 rfl ?_
  dsimp only [if143, qI, eI, nI, qD, eD]
  simp only [pwA, if_true, if_false, eq_self, nm_eq, reduceCtorEq, ↓reduceIte, nQ10, nQ7, nQ11, nQ12, nQ16, nQ17, nQ18, iQ2, iQ3, iQ4, iQ5, iQ6, lQ19, iQ7, lQ20, mk8 (n := O.length) (by omega), mkL (n := O.length) (by omega), List.length_replicate, pis_rep]
  refine vp_loopG (fun m us h' => ∃ (i : Nat) (v : PV), i ≤ xs.length ∧ m = xs.length - i ∧ us = [.fz wl al xs.length rl, .ptr σ.next 0, v, .int .i64 i] ∧ Keep (σ.new [.fz w0 a0 O.length (pis O), .fz w1 a1 P.length rP, .fz w3 a3 C.length rC]) h' ∧ FI v ((xs.take i).foldl (gm O P C) (zv O)) ∧ gS O ((xs.take i).foldl (gm O P C) (zv O))) xs.length ?_ ?_
  · refine .fz (σ.next + 1) (pis (zv O)) (by simp only [pwA, if_true, if_false, eq_self, nm_eq, reduceCtorEq, ↓reduceIte, nQ10, nQ7, nQ11, nQ12, nQ16, nQ17, nQ18, iQ2, iQ3, iQ4, iQ5, iQ6, lQ19, iQ7, lQ20]) (pis_bel _ _) fun o1 => .here ⟨0, .fz true (.sl o1 0 O.length (.known O.length)) O.length (pis (zv O)), by omega, by omega, ?_, ((Keep.refl _).new _).kill (by simp only [pwA, if_true, if_false, eq_self, nm_eq, reduceCtorEq, ↓reduceIte, nQ10, nQ7, nQ11, nQ12, nQ16, nQ17, nQ18, iQ2, iQ3, iQ4, iQ5, iQ6, lQ19, iQ7, lQ20]), ⟨true, .sl o1 0 O.length (.known O.length), by simp⟩, s.zv _⟩
    simp only [pwA, if_true, if_false, eq_self, nm_eq, reduceCtorEq, ↓reduceIte, nQ10, nQ7, nQ11, nQ12, nQ16, nQ17, nQ18, iQ2, iQ3, iQ4, iQ5, iQ6, lQ19, iQ7, lQ20]
    simp [sbs, Go.Ab.sb, capOK]
  rintro m us h' ⟨i, v, hi, rfl, rfl, hk1, hv, hS⟩
  have hv0 := hv
  obtain ⟨wv, av, rfl⟩ := hv
  simp only [pwA, if_true, if_false, eq_self, nm_eq, reduceCtorEq, ↓reduceIte, nQ10, nQ7, nQ11, nQ12, nQ16, nQ17, nQ18, iQ2, iQ3, iQ4, iQ5, iQ6, lQ19, iQ7, lQ20]
  refine iteI (fun hlt => ?_) fun hge => ?_
  rotate_left
  · have hie : i = xs.length := by omega
    subst hie
    rw [List.take_length] at hv0 ⊢
    exact Gh.fin0 (hkp.trans hk1) (hv0.bel _) (hk _ hv0)
  obtain ⟨w4, a4, hr⟩ := hrl.rowI hlt
  have hxi := hx _ (List.getElem_mem hlt)
  simp only [pwA, if_true, if_false, eq_self, nm_eq, reduceCtorEq, ↓reduceIte, nQ10, nQ7, nQ11, nQ12, nQ16, nQ17, nQ18, iQ2, iQ3, iQ4, iQ5, iQ6, lQ19, iQ7, lQ20, hlt, hr, r3 hk1]
  refine l08Mul_ok s hR0 hS hxi hv0 ⟨w4, a4, rfl⟩ fun v2 f2 => ?_
  simp only [pwA, if_true, if_false, eq_self, nm_eq, reduceCtorEq, ↓reduceIte, nQ10, nQ7, nQ11, nQ12, nQ16, nQ17, nQ18, iQ2, iQ3, iQ4, iQ5, iQ6, lQ19, iQ7, lQ20, wrapS hlt (by omega : xs.length ≤ 4611686018427387904)]
  have e : (xs.take (i + 1)).foldl (gm O P C) (zv O) = gm O P C ((xs.take i).foldl (gm O P C) (zv O)) xs[i] := by
    rw [List.take_succ_eq_append_getElem hlt, List.foldl_append]; rfl
  exact ⟨_, by omega, .here ⟨i + 1, v2, by omega, rfl, rfl, hk1, by rw [e]; exact f2, by rw [e]; exact G.cl hS hxi⟩⟩
theorem l34Sum_ok (g : LG O P C) (k : clsOk O P C) (hR : IsPr vO vP vC O P C) (hx : gS O x) (hy : gS O y) (hvx : FI vx x) (hvy : FI vy y) (hk : ∀ v, FI v (gsum O P C x y) → K v σ) : PCalls Tryz.prog 141 [.agg [vO, vP, vC], vx, vy] σ K := by
  have s := g.s
  have F := g.F
  have G := F.g
  have cS := G.com_in hx hy
  have aS := G.com_in cS hx
  have bS := G.com_in cS hy
  have h0 := hR.O.one
  have h1 := hR.P.one
  have h2 := hR.C.one
  refine PCalls.gh ?_
  have hkp : Keep σ (σ.new [vO, vP, vC]) := keep_new σ _
  refine pcalls_of_vp mix Tryz.func141 cf141 rfl ?_
  dsimp only [if141, qI, eI, nI, qD, eD]
  simp only [pwA, if_true, if_false, eq_self, nm_eq, reduceCtorEq, ↓reduceIte, nQ10, nQ7, nQ11, nQ12, nQ16, nQ17, nQ18, iQ2, iQ3, iQ4, iQ5, iQ6, lQ19, iQ7, lQ20, h0, h1, h2]
  refine l10Comm_ok s g.co hR hx hy hvx hvy fun v1 f1 => ?_
  simp only [pwA, if_true, if_false, eq_self, nm_eq, reduceCtorEq, ↓reduceIte, nQ10, nQ7, nQ11, nQ12, nQ16, nQ17, nQ18, iQ2, iQ3, iQ4, iQ5, iQ6, lQ19, iQ7, lQ20]
  refine l10Comm_ok s g.co hR cS hx f1 hvx fun v2 f2 => ?_
  simp only [pwA, if_true, if_false, eq_self, nm_eq, reduceCtorEq, ↓reduceIte, nQ10, nQ7, nQ11, nQ12, nQ16, nQ17, nQ18, iQ2, iQ3, iQ4, iQ5, iQ6, lQ19, iQ7, lQ20]
  refine l10Comm_ok s g.co hR cS hy f1 hvy fun v3 f3 => ?_
  simp only [pwA, if_true, if_false, eq_self, nm_eq, reduceCtorEq, ↓reduceIte, nQ10, nQ7, nQ11, nQ12, nQ16, nQ17, nQ18, iQ2, iQ3, iQ4, iQ5, iQ6, lQ19, iQ7, lQ20]
  refine l34Root_ok g hR cS f1 (c := 2) (ok2 g k hx hy (.inl rfl)) (by omega) fun v4 w4 f4 r4 => ?_
  have e4 := rt_eq g cS r4
  have S4 : gS O w4 := r4.gS F s cS
  simp only [pwA, if_true, if_false, eq_self, nm_eq, reduceCtorEq, ↓reduceIte, nQ10, nQ7, nQ11, nQ12, nQ16, nQ17, nQ18, iQ2, iQ3, iQ4, iQ5, iQ6, lQ19, iQ7, lQ20]
  refine l10Inv_ok s g.co hR S4 f4 fun v5 f5 => ?_
  have S5 := (G.inv_in S4).1
  simp only [pwA, if_true, if_false, eq_self, nm_eq, reduceCtorEq, ↓reduceIte, nQ10, nQ7, nQ11, nQ12, nQ16, nQ17, nQ18, iQ2, iQ3, iQ4, iQ5, iQ6, lQ19, iQ7, lQ20]
  refine l34Root_ok g hR aS f2 (c := 12) (ok12 g k hx hy hx) (by omega) fun v6 w6 f6 r6 => ?_
  have e6 := rt_eq g aS r6
  have S6 : gS O w6 := r6.gS F s aS
  simp only [pwA, if_true, if_false, eq_self, nm_eq, reduceCtorEq, ↓reduceIte, nQ10, nQ7, nQ11, nQ12, nQ16, nQ17, nQ18, iQ2, iQ3, iQ4, iQ5, iQ6, lQ19, iQ7, lQ20]
  refine l34Root_ok g hR bS f3 (c := 12) (ok12 g k hx hy hy) (by omega) fun v7 w7 f7 r7 => ?_
  have e7 := rt_eq g bS r7
  have S7 : gS O w7 := r7.gS F s bS
  simp only [pwA, if_true, if_false, eq_self, nm_eq, reduceCtorEq, ↓reduceIte, nQ10, nQ7, nQ11, nQ12, nQ16, nQ17, nQ18, iQ2, iQ3, iQ4, iQ5, iQ6, lQ19, iQ7, lQ20]
  refine l10Inv_ok s g.co hR S7 f7 fun v8 f8 => ?_
  have S8 := (G.inv_in S7).1
  simp only [pwA, if_true, if_false, eq_self, nm_eq, reduceCtorEq, ↓reduceIte, nQ10, nQ7, nQ11, nQ12, nQ16, nQ17, nQ18, iQ2, iQ3, iQ4, iQ5, iQ6, lQ19, iQ7, lQ20, hvx.one, hvx.cells, hvy.one, hvy.cells, f5.one, f5.cells, f6.one, f6.cells, f8.one, f8.cells]
  have hrow : All2 FI [vx, vy, v5, v6, v8] [x, y, gi_ O P C w4, w6, gi_ O P C w7] := (((((All2.nil _).snoc hvx).snoc hvy).snoc f5).snoc f6).snoc f8
  refine PCalls.frz (s := σ.next + 1) (cs := [vx, vy, v5, v6, v8]) (by simp only [pwA, if_true, if_false, eq_self, nm_eq, reduceCtorEq, ↓reduceIte, nQ10, nQ7, nQ11, nQ12, nQ16, nQ17, nQ18, iQ2, iQ3, iQ4, iQ5, iQ6, lQ19, iQ7, lQ20]) (hrow.bI 0) fun o1 => ?_
  simp only [sbs, Go.Ab.sb, capOK, and_self, if_true, decide_true, Nat.le_refl, hR.O.sb, hR.P.sb, hR.C.sb]
  refine l34Product_ok g hR ⟨true, _, _, rfl, hrow⟩ (fun u hu => ?_) (by simp) fun v9 f9 => ?_
  · simp only [List.mem_cons, List.not_mem_nil, or_false] at hu
    rcases hu with rfl | rfl | rfl | rfl | rfl <;> assumption
  have e : [x, y, gi_ O P C w4, w6, gi_ O P C w7].foldl (gm O P C) (zv O) = gsum O P C x y := by
    simp only [List.foldl_cons, List.foldl_nil]
    rw [G.l1 hx, e4, e6, e7]; rfl
  rw [e] at f9
  simp only [pwA, if_true, if_false, eq_self, nm_eq, reduceCtorEq, ↓reduceIte, nQ10, nQ7, nQ11, nQ12, nQ16, nQ17, nQ18, iQ2, iQ3, iQ4, iQ5, iQ6, lQ19, iQ7, lQ20]
  exact Gh.fin0 ((hkp.new _).kill (by omega)) (f9.bel _) (hk _ f9)
theorem l34Bracket_ok (g : LG O P C) (k : clsOk O P C) (hR : IsPr vO vP vC O P C) (hx : gS O x) (hy : gS O y) (hvx : FI vx x) (hvy : FI vy y) (hk : ∀ v, FI v (gbr O P C x y) → K v σ) : PCalls Tryz.prog 82 [.agg [vO, vP, vC], vx, vy] σ K := by
  have s := g.s
  have F := g.F
  have G := F.g
  have cS := G.com_in hx hy
  have aS := G.com_in cS hx
  have bS := G.com_in cS hy
  have h0 := hR.O.one
  have h1 := hR.P.one
  have h2 := hR.C.one
  refine PCalls.gh ?_
  have hkp : Keep σ (σ.new [vO, vP, vC]) := keep_new σ _
  refine pcalls_of_vp mix Tryz.func82 cf82 rfl ?_
  dsimp only [if82, qI, eI, nI, qD, eD]
  simp only [pwA, if_true, if_false, eq_self, nm_eq, reduceCtorEq, ↓reduceIte, nQ10, nQ7, nQ11, nQ12, nQ16, nQ17, nQ18, iQ2, iQ3, iQ4, iQ5, iQ6, lQ19, iQ7, lQ20, h0, h1, h2]
  refine l10Comm_ok s g.co hR hx hy hvx hvy fun v1 f1 => ?_
  simp only [pwA, if_true, if_false, eq_self, nm_eq, reduceCtorEq, ↓reduceIte, nQ10, nQ7, nQ11, nQ12, nQ16, nQ17, nQ18, iQ2, iQ3, iQ4, iQ5, iQ6, lQ19, iQ7, lQ20]
  refine l10Comm_ok s g.co hR cS hx f1 hvx fun v2 f2 => ?_
  simp only [pwA, if_true, if_false, eq_self, nm_eq, reduceCtorEq, ↓reduceIte, nQ10, nQ7, nQ11, nQ12, nQ16, nQ17, nQ18, iQ2, iQ3, iQ4, iQ5, iQ6, lQ19, iQ7, lQ20]
  refine l10Comm_ok s g.co hR cS hy f1 hvy fun v3 f3 => ?_
  simp only [pwA, if_true, if_false, eq_self, nm_eq, reduceCtorEq, ↓reduceIte, nQ10, nQ7, nQ11, nQ12, nQ16, nQ17, nQ18, iQ2, iQ3, iQ4, iQ5, iQ6, lQ19, iQ7, lQ20]
  refine l34Root_ok g hR aS f2 (c := 2) (ok12 g k hx hy hx) (by omega) fun v6 w6 f6 r6 => ?_
  have e6 := rt_eq g aS r6
  have S6 : gS O w6 := r6.gS F s aS
  simp only [pwA, if_true, if_false, eq_self, nm_eq, reduceCtorEq, ↓reduceIte, nQ10, nQ7, nQ11, nQ12, nQ16, nQ17, nQ18, iQ2, iQ3, iQ4, iQ5, iQ6, lQ19, iQ7, lQ20]
  refine l10Inv_ok s g.co hR S6 f6 fun v5 f5 => ?_
  have S5 := (G.inv_in S6).1
  simp only [pwA, if_true, if_false, eq_self, nm_eq, reduceCtorEq, ↓reduceIte, nQ10, nQ7, nQ11, nQ12, nQ16, nQ17, nQ18, iQ2, iQ3, iQ4, iQ5, iQ6, lQ19, iQ7, lQ20]
  refine l34Root_ok g hR bS f3 (c := 2) (ok12 g k hx hy hy) (by omega) fun v7 w7 f7 r7 => ?_
  have e7 := rt_eq g bS r7
  have S7 : gS O w7 := r7.gS F s bS
  simp only [pwA, if_true, if_false, eq_self, nm_eq, reduceCtorEq, ↓reduceIte, nQ10, nQ7, nQ11, nQ12, nQ16, nQ17, nQ18, iQ2, iQ3, iQ4, iQ5, iQ6, lQ19, iQ7, lQ20]
  refine l10Inv_ok s g.co hR S7 f7 fun v8 f8 => ?_
  have S8 := (G.inv_in S7).1
  simp only [pwA, if_true, if_false, eq_self, nm_eq, reduceCtorEq, ↓reduceIte, nQ10, nQ7, nQ11, nQ12, nQ16, nQ17, nQ18, iQ2, iQ3, iQ4, iQ5, iQ6, lQ19, iQ7, lQ20, f1.one, f1.cells, f5.one, f5.cells, f8.one, f8.cells]
  have hrow : All2 FI [v1, v5, v8] [gcom O P C x y, gi_ O P C w6, gi_ O P C w7] := (((All2.nil _).snoc f1).snoc f5).snoc f8
  refine PCalls.frz (s := σ.next + 1) (cs := [v1, v5, v8]) (by simp only [pwA, if_true, if_false, eq_self, nm_eq, reduceCtorEq, ↓reduceIte, nQ10, nQ7, nQ11, nQ12, nQ16, nQ17, nQ18, iQ2, iQ3, iQ4, iQ5, iQ6, lQ19, iQ7, lQ20]) (hrow.bI 0) fun o1 => ?_
  simp only [sbs, Go.Ab.sb, capOK, and_self, if_true, decide_true, Nat.le_refl, hR.O.sb, hR.P.sb, hR.C.sb]
  refine l34Product_ok g hR ⟨true, _, _, rfl, hrow⟩ (fun u hu => ?_) (by simp) fun v9 f9 => ?_
  · simp only [List.mem_cons, List.not_mem_nil, or_false] at hu
    rcases hu with rfl | rfl | rfl <;> assumption
  have e : [gcom O P C x y, gi_ O P C w6, gi_ O P C w7].foldl (gm O P C) (zv O) = gbr O P C x y := by
    simp only [List.foldl_cons, List.foldl_nil]
    rw [G.l1 cS, e6, e7]; rfl
  rw [e] at f9
  simp only [pwA, if_true, if_false, eq_self, nm_eq, reduceCtorEq, ↓reduceIte, nQ10, nQ7, nQ11, nQ12, nQ16, nQ17, nQ18, iQ2, iQ3, iQ4, iQ5, iQ6, lQ19, iQ7, lQ20]
  exact Gh.fin0 ((hkp.new _).kill (by omega)) (f9.bel _) (hk _ f9)
end Go.Proofs
namespace Go.Proofs
open Go.Ab
def if4 : IFn := ⟨[0], [(.tmp 2)], (.seq (.region [1] [eI 1 (.box (.t 0)), qI 2 (.mv (.c (.bool false)))])
  (.seq (.region [1, 3] [qI 3 (.mv (.c (.int .i64 1048576)))])
  (.seq (.region [1, 3] [qI 14 (.load true 3 (.t 1)), qI 15 (.mv (.t 3)), eI 16 (.call 16 [(.t 14), (.t 15)]), qI 3 (.mv (.t 16))])
  (.seq (.seq (.region [1, 18] [qI 17 (.mv (.t 3)), qI 18 (.bin .lss .other (.t 17) (.c (.int .i64 0)))])
  (.cond (.t 18) (.seq (.region [2] [qI 2 (.mv (.c (.bool true)))])
  .ret) .skip))
  (.seq (.region [1, 4, 5] [qI 20 (.load true 3 (.t 1)), eI 21 (.call 18 [(.t 20)]), eI 22 (.call 17 [(.t 21)]), qI 19 (.mv (.t 22)), qI 23 (.extract (.t 19) 0), qI 24 (.extract (.t 19) 1), eI 4 (.alloc [(.int .i64 0), .nils, .nils]), nI (.store 3 (.t 4) (.t 23)), qI 5 (.mv (.t 24))])
  (.seq (.region [1, 4, 5, 6] [qI 25 (.load true 3 (.t 1)), eI 26 (.call 18 [(.t 25)]), eI 6 (.alloc [.nils, .nils, .nils]), nI (.store 3 (.t 6) (.t 26))])
  (.seq (.region [1, 4, 5, 6, 7, 8] [qI 28 (.load true 3 (.t 6)), eI 29 (.call 19 [(.t 28)]), qI 27 (.mv (.t 29)), qI 30 (.extract (.t 27) 0), qI 31 (.extract (.t 27) 1), eI 7 (.alloc [(.int .i64 0), .nils, .nils]), nI (.store 3 (.t 7) (.t 30)), qI 8 (.mv (.t 31))])
  (.seq (.seq (.region [1, 4, 5, 6, 7, 8, 40] [qI 32 (.load true 3 (.t 7)), qI 33 (.load true 3 (.t 4)), eI 34 (.call 12 [(.t 32), (.t 33)]), qI 35 (.un .not (.t 34)), qI 36 (.mv (.t 35)), ⟨(some 37), .mv (.t 8), true, (some (36, false))⟩, ⟨(some 38), .mv (.t 5), true, (some (36, false))⟩, ⟨(some 39), .bin .neq .other (.t 37) (.t 38), true, (some (36, false))⟩, qI 40 (.pick (.t 36) (.c (.bool true)) (.t 39))])
  (.cond (.t 40) (.seq (.region [2] [qI 2 (.mv (.c (.bool false)))])
  .ret) .skip))
  (.seq (.seq (.draw [1, 4, 5, 6, 7, 8, 45] [] [qD 41 (.load true 3 (.t 6)) 0, qD 42 (.load true 3 (.t 1)) 1, eD 43 (.call 18 [(.t 42)]) 2 [0], eD 44 (.call 11 [(.t 41), (.t 43)]) 3 [], qD 45 (.un .not (.t 44)) 4])
  (.cond (.t 45) (.seq (.region [2] [qI 2 (.mv (.c (.bool false)))])
  .ret) .skip))
  (.seq (.region [1, 4, 5, 6, 7, 8, 9] [qI 9 (.mv (.c (.int .i64 1)))])
  (.seq (.region [1, 4, 5, 7, 8, 9] [qI 46 (.load true 3 (.t 6)), qI 47 (.mv (.t 9)), eI 48 (.call 14 [(.t 46), (.t 47)]), qI 9 (.mv (.t 48))])
  (.seq (.seq (.region [1, 4, 5, 7, 61] [qI 49 (.mv (.t 9)), qI 50 (.bin .lss .other (.t 49) (.c (.int .i64 0))), qI 51 (.mv (.t 50)), ⟨(some 52), .load true 3 (.t 7), true, (some (51, false))⟩, ⟨(some 53), .load true 3 (.t 4), true, (some (51, false))⟩, ⟨(some 54), .call 12 [(.t 52), (.t 53)], false, (some (51, false))⟩, ⟨(some 55), .un .not (.t 54), true, (some (51, false))⟩, qI 56 (.pick (.t 51) (.c (.bool true)) (.t 55)), qI 57 (.mv (.t 56)), ⟨(some 58), .mv (.t 8), true, (some (57, false))⟩, ⟨(some 59), .mv (.t 5), true, (some (57, false))⟩, ⟨(some 60), .bin .neq .other (.t 58) (.t 59), true, (some (57, false))⟩, qI 61 (.pick (.t 57) (.c (.bool true)) (.t 60))])
  (.cond (.t 61) (.seq (.region [2] [qI 2 (.mv (.c (.bool false)))])
  .ret) .skip))
  (.seq (.region [1, 4, 5, 7, 10] [qI 10 (.mv (.c (.int .i64 1)))])
  (.seq (.region [1, 4, 5, 7, 10] [qI 62 (.load true 3 (.t 7)), qI 63 (.mv (.t 10)), eI 64 (.call 13 [(.t 62), (.t 63)]), qI 10 (.mv (.t 64))])
  (.seq (.region [1, 4, 5, 7, 10, 11] [qI 11 (.mv (.c (.int .i64 1)))])
  (.seq (.region [1, 4, 5, 7, 10, 11] [qI 65 (.load true 3 (.t 7)), qI 66 (.mv (.t 11)), eI 67 (.call 20 [(.t 65), (.t 66)]), qI 11 (.mv (.t 67))])
  (.seq (.seq (.region [1, 4, 5, 7, 10, 11, 69] [qI 68 (.mv (.t 11)), qI 69 (.bin .lss .other (.t 68) (.c (.int .i64 0)))])
  (.cond (.t 69) (.seq (.region [2] [qI 2 (.mv (.c (.bool false)))])
  .ret) .skip))
  (.seq (.seq (.region [1, 4, 5, 7, 10, 72] [qI 70 (.mv (.t 11)), qI 71 (.mv (.t 10)), qI 72 (.bin .neq .other (.t 70) (.t 71))])
  (.cond (.t 72) (.seq (.region [2] [qI 2 (.mv (.c (.bool false)))])
  .ret) .skip))
  (.seq (.region [4, 5, 7, 10, 12, 13] [qI 74 (.load true 3 (.t 1)), eI 75 (.call 18 [(.t 74)]), eI 76 (.call 19 [(.t 75)]), qI 73 (.mv (.t 76)), qI 77 (.extract (.t 73) 0), qI 78 (.extract (.t 73) 1), eI 12 (.alloc [(.int .i64 0), .nils, .nils]), nI (.store 3 (.t 12) (.t 77)), qI 13 (.mv (.t 78))])
  (.seq (.seq (.region [7, 10, 87] [qI 79 (.load true 3 (.t 12)), qI 80 (.load true 3 (.t 4)), eI 81 (.call 12 [(.t 79), (.t 80)]), qI 82 (.un .not (.t 81)), qI 83 (.mv (.t 82)), ⟨(some 84), .mv (.t 13), true, (some (83, false))⟩, ⟨(some 85), .mv (.t 5), true, (some (83, false))⟩, ⟨(some 86), .bin .neq .other (.t 84) (.t 85), true, (some (83, false))⟩, qI 87 (.pick (.t 83) (.c (.bool true)) (.t 86))])
  (.cond (.t 87) (.seq (.region [2] [qI 2 (.mv (.c (.bool false)))])
  .ret) .skip))
  (.seq (.region [7, 10, 11] [qI 11 (.mv (.c (.int .i64 1)))])
  (.seq (.region [10, 11] [qI 88 (.load true 3 (.t 7)), qI 89 (.mv (.t 11)), eI 90 (.call 20 [(.t 88), (.t 89)]), qI 11 (.mv (.t 90))])
  (.seq (.seq (.region [10, 11, 92] [qI 91 (.mv (.t 11)), qI 92 (.bin .lss .other (.t 91) (.c (.int .i64 0)))])
  (.cond (.t 92) (.seq (.region [2] [qI 2 (.mv (.c (.bool false)))])
  .ret) .skip))
  (.seq (.seq (.region [95] [qI 93 (.mv (.t 11)), qI 94 (.mv (.t 10)), qI 95 (.bin .neq .other (.t 93) (.t 94))])
  (.cond (.t 95) (.seq (.region [2] [qI 2 (.mv (.c (.bool false)))])
  .ret) .skip))
  (.seq (.region [2] [qI 2 (.mv (.c (.bool true)))])
  .ret)))))))))))))))))))))))))⟩
theorem cf4 : cF Tryz.prog Tryz.f4 = some if4 := by kernel_rfl
end Go.Proofs
namespace Go.Proofs.YtngdcibjjomfjaaGreat
open Go.ChangeShapes Go.WideShapes Go.ChangeAt Go.RowKit Go.Ab Go.Joins Go.Lie Go.Proofs
theorem own : ownKnob Tryz.prog.godebug = none := by kernel_rfl
theorem laidOut : laidOutB Tryz.prog = true := by kernel_rfl
theorem cell22 : Tryz.prog.cellsOf 22 = 1 := by kernel_rfl
theorem cell2 : Tryz.prog.cellsOf 2 = 1 := by kernel_rfl
theorem cell27 : Tryz.prog.cellsOf 27 = 1 := by kernel_rfl
variable {H : Type} {enc : TypeId × Value → H} {W w0 : World} {j : Inj} {h : AHeap}
def LII (v : PV) (xs : List (List Int)) : Prop := FII v xs ∧ xs.length ≤ 9223372036854775807 ∧ ∀ x ∈ xs, x.length ≤ 9223372036854775807
def LIII (v : PV) (xs : List (List (List Int))) : Prop := FIII v xs ∧ xs.length ≤ 9223372036854775807 ∧ ∀ q ∈ xs, q.length ≤ 9223372036854775807 ∧ ∀ x ∈ q, x.length ≤ 9223372036854775807
theorem layI : Lay1 enc Tryz.prog W 27 (fun v (xs : List Int) => FI v xs ∧ xs.length ≤ 9223372036854775807) := lay_ints (e := 2) Tryz.underlying27 cell2 Tryz.underlying2
theorem layII : Lay1 enc Tryz.prog W 22 LII := by
  intro w0 j h held fuel v x m hx
  obtain ⟨j', h', pv, a, g1, g2, g3, g4, g5, g6, g7, g8⟩ := lay_slice Tryz.underlying22 cell27 layI w0 j h held fuel v x m hx
  exact ⟨j', h', pv, a, g1, g2, g3, g4, g5, g6, g7.imp fun _ _ k => k.1, g8, g7.all fun _ _ k => k.2⟩
theorem layIII : Lay1 enc Tryz.prog W 23 LIII := by
  intro w0 j h held fuel v x m hx
  obtain ⟨j', h', pv, a, g1, g2, g3, g4, g5, g6, g7, g8⟩ := lay_slice Tryz.underlying23 cell22 layII w0 j h held fuel v x m hx
  exact ⟨j', h', pv, a, g1, g2, g3, g4, g5, g6, g7.imp fun _ _ k => k.1, g8, g7.all fun _ _ k => k.2⟩
end Go.Proofs.YtngdcibjjomfjaaGreat
namespace Go.Proofs.YtngdcibjjomfjaaGreat
open Go.ChangeShapes Go.WideShapes Go.ChangeAt Go.RowKit Go.Ab Go.Joins Go.Lie Go.Proofs
theorem cell39 : Tryz.prog.cellsOf 39 = 3 := by kernel_rfl
variable {H : Type} {enc : TypeId × Value → H} {W w0 : World} {j : Inj} {h : AHeap}
set_option maxRecDepth 100000 in
theorem layPr {b0 : Nat} {v : Value} {d : DataW H} {q : List MemPlace} (m : MR W.heap.size w0 j h W) (hv : Value.okWide Tryz.prog W .any b0 39 v) (ht : DataW.Trod enc Tryz.prog W 0 (fun _ => true) true 39 v d q) :
    ∃ (j' : Inj) (h' : AHeap) (vO vP vC : PV) (Os : List Int) (Ps : List (List Int)) (Cs : List (List (List Int))), MR W.heap.size w0 j' h' W ∧ j.le j' ∧ Ext h h' ∧ VI j' (er idz (.agg [vO, vP, vC])) v ∧ VOK (zlt h') h' 0 (.agg [vO, vP, vC]) ∧ IsPr vO vP vC Os Ps Cs ∧ MxP Os Ps Cs := by
  obtain ⟨v0, v1, v2, y0, y1, y2, n, rfl, rfl, rfl, t0, t1, t2⟩ := open_agg3 Tryz.underlying39 (by kernel_rfl) cell39 hv ht
  obtain ⟨j0, h0, vO, Os, m0, l0, e0, i0, o0, _, r1, r2⟩ := layI w0 j h true n v0 _ m t0
  obtain ⟨j1, h1, vP, Ws, m1, l1, e1, i1, o1, _, p1, p2, p3⟩ := layII w0 j0 h0 true n v1 _ m0 t1
  obtain ⟨j2, h2, vB, Bs, m2, l2, e2, i2, o2, _, q1, q2, q3⟩ := layIII w0 j1 h1 true n v2 _ m1 t2
  exact ⟨j2, h2, vO, vP, vB, Os, Ws, Bs, m2, (l0.trans l1).trans l2, (e0.trans e1).trans e2, ⟨_, ⟨_, _, rfl, VI.mono (l1.trans l2) _ _ i0, _, _, rfl, VI.mono l2 _ _ i1, _, _, rfl, i2, rfl⟩, rfl⟩, ⟨(e1.trans e2).vok o0, e2.vok o1, o2, trivial⟩, ⟨r1, p1, q1⟩, ⟨r2, p2, p3, q2, q3⟩⟩
end Go.Proofs.YtngdcibjjomfjaaGreat
