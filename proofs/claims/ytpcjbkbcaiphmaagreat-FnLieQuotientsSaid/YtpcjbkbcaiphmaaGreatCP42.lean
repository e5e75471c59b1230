/- Dice, and draws of a Lazard ring with two elements. -/
import Derived.Test.YtpcjbkbcaiphmaaGreatCP41
import Derived.Test.YtpcjbkbcaiphmaaGreatCP36
import Derived.Test.YtpcjbkbcaiphmaaGreatCP33
import Derived.Test.YtpcjbkbcaiphmaaGreatCP31
import Derived.Test.YtpcjbkbcaiphmaaGreatCAbPz
open Nat renaming reduceLeDiff → nQ7, reduceEqDiff → nQ10, reduceBEq → nQ11, reduceAdd → nQ12, reduceLT → nQ16, reduceSub → nQ17, reduceMul → nQ18
open Int renaming reduceEq → iQ2, reduceLT → iQ3, reduceLE → iQ4, reduceNeg → iQ5, reduceToNat → iQ6, ofNat_le → iQ7
open List renaming reduceReplicate → lQ19, getElem?_drop → lQ20
set_option linter.unusedSimpArgs false
set_option linter.unusedVariables false
set_option linter.unusedSectionVars false
namespace Go.Proofs
open Go.Ab Go.Lie
variable {σ σ0 h h' : PHeap} {K : PV → PHeap → Prop} {vC : PV} {bs : List Int} {s b n r0 : Nat} {p : Int} {sP sB : Nat} {capP capB : Cap} {cs : List PV} {ls : List LS} {W : List (List Int)} {B : List (List (List Int))} {R : PV → List Int → Prop} {F F' : List (List Int) → List (List (List Int)) → Prop}
theorem l31Good_ok (so : So σ s vC bs)
    (hk : ∀ p n sP capP cs sB capB ls h W B, isP p → 1 ≤ n → ipow p n ≤ 729 → OkF p n W B → KM σ s h → So h s vC bs → RS FI FI σ.next h n sP capP cs sB capB ls W B → K (.agg [.int .i64 p, .sl sP 0 n capP, .sl sB 0 n capB]) h) :
    PCalls Tryz.prog 271 [.ptr s 0] σ K := by
  refine PCalls.pwf fun w => ?_
  have hsl := so.lt
  refine PCalls.gh ?_
  generalize hT : σ.new [.int .i64 0, .fz true .nils 0 [], .fz true .nils 0 []] = T
  have hTn : T.next = σ.next + 1 := by rw [← hT]; rfl
  have hkT : Keep σ T := by rw [← hT]; exact keep_new σ _
  have soT : So T s vC bs := so.keep hkT
  have hsT : s < T.next := soT.lt
  have obT : T.obj σ.next = some [.int .i64 0, .fz true .nils 0 [], .fz true .nils 0 []] := by rw [← hT]; simp only [pwA, if_true, if_false, eq_self, nm_eq, reduceCtorEq, ↓reduceIte, nQ10, nQ7, nQ11, nQ12, nQ16, nQ17, nQ18, iQ2, iQ3, iQ4, iQ5, iQ6, lQ19, iQ7, lQ20]
  refine pcalls_of_vp mix Tryz.func271 cf271 rfl ?_
  dsimp only [if271, qI, eI, nI, qD, eD]
  simp only [pwA, if_true, if_false, eq_self, nm_eq, reduceCtorEq, ↓reduceIte, nQ10, nQ7, nQ11, nQ12, nQ16, nQ17, nQ18, iQ2, iQ3, iQ4, iQ5, iQ6, lQ19, iQ7, lQ20]
  rw [hT]
  refine l01Next_m soT (by decide) fun kd h1 hkd m1 so1 => ?_
  have kd0 := hkd.1
  have kd8 := hkd.lt (by decide)
  simp only [pwA, if_true, if_false, eq_self, nm_eq, reduceCtorEq, ↓reduceIte, nQ10, nQ7, nQ11, nQ12, nQ16, nQ17, nQ18, iQ2, iQ3, iQ4, iQ5, iQ6, lQ19, iQ7, lQ20]
  refine l01Next_m so1 (by decide) fun x h2 hx m2 so2 => ?_
  have x0 := hx.1
  have x4 := hx.lt (by decide)
  have wx : IntKind.i64.wrap (1 + x) = 1 + x := wrap64 (by omega) (by omega)
  obtain ⟨n, hn1, hn6, hnr, hnc⟩ : ∃ n : Nat, 1 ≤ n ∧ n ≤ 6 ∧ ([1 + x, 3, 4, 4, 5, 5, 6, 3] : List Int)[kd.toNat]? = some (n : Int) ∧ (kd = 0 ∨ (kd = 1 ∧ n = 3) ∨ (kd = 2 ∧ n = 4) ∨ (kd = 3 ∧ n = 4) ∨ (kd = 4 ∧ n = 5) ∨ (kd = 5 ∧ n = 5) ∨ (kd = 6 ∧ n = 6) ∨ (kd = 7 ∧ n = 3)) := by
    have e : kd = 0 ∨ kd = 1 ∨ kd = 2 ∨ kd = 3 ∨ kd = 4 ∨ kd = 5 ∨ kd = 6 ∨ kd = 7 := by omega
    rcases e with rfl | rfl | rfl | rfl | rfl | rfl | rfl | rfl
    · exact ⟨(1 + x).toNat, by omega, by omega, by simp; omega, .inl rfl⟩
    · exact ⟨3, by omega, by omega, rfl, by simp⟩
    · exact ⟨4, by omega, by omega, rfl, by simp⟩
    · exact ⟨4, by omega, by omega, rfl, by simp⟩
    · exact ⟨5, by omega, by omega, rfl, by simp⟩
    · exact ⟨5, by omega, by omega, rfl, by simp⟩
    · exact ⟨6, by omega, by omega, rfl, by simp⟩
    · exact ⟨3, by omega, by omega, rfl, by simp⟩
  have hread : ([PV.int .i64 (1 + x), .int .i64 3, .int .i64 4, .int .i64 4, .int .i64 5, .int .i64 5, .int .i64 6, .int .i64 3] : List PV)[kd.toNat]? = some (.int .i64 (n : Int)) := by
    have := congrArg (Option.map (PV.int .i64)) hnr
    rw [← List.getElem?_map] at this
    exact this
  have hkd8 : 0 ≤ kd ∧ kd < ((8 : Nat) : Int) := ⟨kd0, kd8⟩
  simp only [pwA, if_true, if_false, eq_self, nm_eq, reduceCtorEq, ↓reduceIte, nQ10, nQ7, nQ11, nQ12, nQ16, nQ17, nQ18, iQ2, iQ3, iQ4, iQ5, iQ6, lQ19, iQ7, lQ20, wx, hread, hkd8]
  have so3 : So (h2.new [PV.int .i64 (1 + x), .int .i64 3, .int .i64 4, .int .i64 4, .int .i64 5, .int .i64 5, .int .i64 6, .int .i64 3]) s vC bs := so2.keep (keep_new _ _)
  have km3 : KM T s (h2.new [PV.int .i64 (1 + x), .int .i64 3, .int .i64 4, .int .i64 4, .int .i64 5, .int .i64 5, .int .i64 6, .int .i64 3]) := ((soT.km.mv hsT m1).mv hsT m2).new _
  generalize h2.new [PV.int .i64 (1 + x), .int .i64 3, .int .i64 4, .int .i64 4, .int .i64 5, .int .i64 5, .int .i64 6, .int .i64 3] = h3 at *
  clear hnr hread
  refine l31Primed_ok so3 hn6 fun p h4 hp hpow m4 so4 => ?_
  have km4 := km3.mv hsT m4
  have hpb := hp.bd
  have hp27 : 2 ≤ p ∧ p ≤ 7 := by omega
  simp only [pwA, if_true, if_false, eq_self, nm_eq, reduceCtorEq, ↓reduceIte, nQ10, nQ7, nQ11, nQ12, nQ16, nQ17, nQ18, iQ2, iQ3, iQ4, iQ5, iQ6, lQ19, iQ7, lQ20]
  refine l31Flat_ok hn1 hn6 fun sP capP cs sB capB ls h5 k5 rs5 => ?_
  have so5 := so4.keep k5
  have km5 := km4.keep k5
  have h45 := k5.next
  have h04 := km4.next
  have wn1 : IntKind.i64.wrap ((n : Int) - 1) = ((n - 1 : Nat) : Int) := by rw [wrap64 (by omega) (by omega)]; omega
  have okp0 : okp p := hpb
  have gs : GS E0 FI (OkF p n) T (h5.new [.int .i64 p, .sl sP 0 n capP, .sl sB 0 n capB]) s vC bs h5.next p n sP capP sB capB :=
    ⟨km5.new _, so5.keep (keep_new _ _), hsT, by rw [pobj_new, if_pos rfl], ⟨by omega, Nat.lt_succ_self _⟩, ⟨cs, ls, _, _, (rs5.low h04).new _, OkF.zero okp0 hn6, fun t ht e => by have := (rs5.lt ht).2; omega, fun u x e => e.elim⟩, fun u x e => e.elim⟩
  clear rs5
  have fin : ∀ {g : PHeap}, GS E0 FI (OkF p n) T g s vC bs h5.next p n sP capP sB capB → g.rd h5.next 0 3 = some [.int .i64 p, .sl sP 0 n capP, .sl sB 0 n capB] ∧ g.wr σ.next 0 [.int .i64 p, .sl sP 0 n capP, .sl sB 0 n capB] = some (g.set σ.next [.int .i64 p, .sl sP 0 n capP, .sl sB 0 n capB])
      ∧ (g.set σ.next [.int .i64 p, .sl sP 0 n capP, .sl sB 0 n capB]).rd σ.next 0 3 = some [.int .i64 p, .sl sP 0 n capP, .sl sB 0 n capB] ∧ Gh σ K (.agg [.int .i64 p, .sl sP 0 n capP, .sl sB 0 n capB]) (g.set σ.next [.int .i64 p, .sl sP 0 n capP, .sl sB 0 n capB]) := fun {g} a => by
    have hres : g.obj σ.next = some [.int .i64 0, .fz true .nils 0 [], .fz true .nils 0 []] := by rw [a.km.obj (by omega) (by omega)]; exact obT
    obtain ⟨cs, ls, W, B, rs, f, ne, _⟩ := a.rs
    refine ⟨a.rd.1, by rw [obj_wr hres, if_pos ⟨by simp, by rfl⟩]; rfl, by rw [prd_set, if_pos rfl]; rfl, Gh.ret (hk p n sP capP cs sB capB ls _ W B hp hn1 hpow f ?_ (a.so.set (by omega) _) ((rs.low (by omega)).move (fun t ht => ?_) (Nat.le_refl _)))⟩
    · exact ((so.kmK hkT).trans hsl a.km).set (Nat.le_refl _) _
    · have := (rs.lt ht).1
      rw [pobj_set, if_neg (by omega)]
  have rowB : ∀ {W : List (List Int)} {B : List (List (List Int))} {i : Nat}, OkF p n W B → i < n → (B.getD i []).length = n - 1 - i := fun {W B i} q hi => by
    have h1 : i < B.length := by rw [q.b.len]; exact hi
    rw [getD_row' h1]; exact q.b.row i h1
  have hle : El p n (unitL n (n - 1)) := unit_el okp0 (by omega)
  simp only [pwA, if_true, if_false, eq_self, nm_eq, reduceCtorEq, ↓reduceIte, nQ10, nQ7, nQ11, nQ12, nQ16, nQ17, nQ18, iQ2, iQ3, iQ4, iQ5, iQ6, lQ19, iQ7, lQ20, wn1]
  refine l31Unit_sl (n := n) (k := n - 1) rfl rfl rfl (by omega) (by omega) fun vl hlv => ?_
  generalize h5.new [PV.int .i64 p, .sl sP 0 n capP, .sl sB 0 n capB] = g5 at *
  generalize h5.next = r0 at *
  clear m1 m2 m4 so1 so2 so3 so4 so5 km3 km4 km5 k5 h45 h04
  rcases hnc with rfl | ⟨rfl, rfl⟩ | ⟨rfl, rfl⟩ | ⟨rfl, rfl⟩ | ⟨rfl, rfl⟩ | ⟨rfl, rfl⟩ | ⟨rfl, rfl⟩ | ⟨rfl, rfl⟩
  · as_aux_lemma =>
    simp only [pwA, if_true, if_false, eq_self, nm_eq, reduceCtorEq, ↓reduceIte, nQ10, nQ7, nQ11, nQ12, nQ16, nQ17, nQ18, iQ2, iQ3, iQ4, iQ5, iQ6, lQ19, iQ7, lQ20]
    refine vp_loop (fun m us g => ∃ i : Nat, i ≤ n ∧ m = n - i ∧ us = [.ptr s 0, .ptr σ.next 0, .int .i64 n, .ptr r0 0, .int .i64 i] ∧ GS E0 FI (OkF p n) T g s vC bs r0 p n sP capP sB capB) n ⟨0, by omega, by omega, rfl, gs⟩ ?_
    rintro m us g ⟨i, hi, rfl, rfl, a⟩
    simp only [pwA, if_true, if_false, eq_self, nm_eq, reduceCtorEq, ↓reduceIte, nQ10, nQ7, nQ11, nQ12, nQ16, nQ17, nQ18, iQ2, iQ3, iQ4, iQ5, iQ6, lQ19, iQ7, lQ20]
    refine iteI (fun hlt => ?_) fun hge => ?_
    rotate_left
    · obtain ⟨e1, e2, e3, e4⟩ := fin a
      simp only [pwA, if_true, if_false, eq_self, nm_eq, reduceCtorEq, ↓reduceIte, nQ10, nQ7, nQ11, nQ12, nQ16, nQ17, nQ18, iQ2, iQ3, iQ4, iQ5, iQ6, lQ19, iQ7, lQ20, e1, e2, e3]
      exact e4
    have hlt' : i < n := by omega
    have wi1 : IntKind.i64.wrap ((i : Int) + 1) = ((i + 1 : Nat) : Int) := wrapS hlt' (by omega)
    obtain ⟨f3, f0, f1, f2⟩ := a.rd
    simp only [pwA, if_true, if_false, eq_self, nm_eq, reduceCtorEq, ↓reduceIte, nQ10, nQ7, nQ11, nQ12, nQ16, nQ17, nQ18, iQ2, iQ3, iQ4, iQ5, iQ6, lQ19, iQ7, lQ20, f3, f1, wi1]
    refine l31Tail_fz (vP := .sl sP 0 n capP) (vB := .sl sB 0 n capB) (n := n) (k := i + 1) a.so hp27 rfl rfl rfl (by omega) (by omega) fun v x k hx hz hv m so => ?_
    have gt := a.mv m so
    obtain ⟨p3, p0, p1, p2⟩ := gt.rd
    obtain ⟨h9, w9, gs9⟩ := gt.putP (F' := OkF p n) (i := i) (w := x) hlt' hv (fun W B q => q.setP hx (fun j hj => hz j (by omega)))
    simp only [pwA, if_true, if_false, eq_self, nm_eq, reduceCtorEq, ↓reduceIte, nQ10, nQ7, nQ11, nQ12, nQ16, nQ17, nQ18, iQ2, iQ3, iQ4, iQ5, iQ6, lQ19, iQ7, lQ20, p1, w9, hv.cells, hlt', wi1]
    exact ⟨_, by omega, i + 1, by omega, rfl, rfl, gs9⟩
  · as_aux_lemma =>
    simp only [pwA, if_true, if_false, eq_self, nm_eq, reduceCtorEq, ↓reduceIte, nQ10, nQ7, nQ11, nQ12, nQ16, nQ17, nQ18, iQ2, iQ3, iQ4, iQ5, iQ6, lQ19, iQ7, lQ20]
    obtain ⟨f3_1, f0_1, f1_1, f2_1⟩ := gs.rd
    obtain ⟨t_1, c_1, rB_1⟩ := gs.rdB (i := 0) (by omega) (fun W B q => rowB q (by omega))
    obtain ⟨h_1, w_1, gs_1, _⟩ := gs.putB (F' := OkF p 3) (i := 0) (k := 0) (by omega) rB_1 (by omega) (fun _ _ h => h) hlv hlv.one (fun W B _ q => q.setB (by omega) hle (fun j hj => by rw [unit_at (by omega), if_neg (by omega)]))
    simp only [pwA, if_true, if_false, eq_self, nm_eq, reduceCtorEq, ↓reduceIte, nQ10, nQ7, nQ11, nQ12, nQ16, nQ17, nQ18, iQ2, iQ3, iQ4, iQ5, iQ6, lQ19, iQ7, lQ20, f2_1, rB_1, w_1, natlt, hlv.cells]
    obtain ⟨f3_2, f0_2, f1_2, f2_2⟩ := gs_1.rd
    simp only [pwA, if_true, if_false, eq_self, nm_eq, reduceCtorEq, ↓reduceIte, nQ10, nQ7, nQ11, nQ12, nQ16, nQ17, nQ18, iQ2, iQ3, iQ4, iQ5, iQ6, lQ19, iQ7, lQ20, f3_2, f1_2, natlt]
    refine l31Tail_fz (vP := .sl sP 0 3 capP) (vB := .sl sB 0 3 capB) (n := 3) (k := 2) gs_1.so hp27 rfl rfl rfl (by omega) (by omega) fun v_2 x_2 k_2 hx_2 hz_2 hv_2 m_2 so_2 => ?_
    have gt_2 := gs_1.mv m_2 so_2
    obtain ⟨p3_2, p0_2, p1_2, p2_2⟩ := gt_2.rd
    obtain ⟨h_2, w_2, gs_2⟩ := gt_2.putP (F' := OkF p 3) (i := 0) (w := x_2) (by omega) hv_2 (fun W B q => q.setP hx_2 (fun j hj => hz_2 j (by omega)))
    simp only [pwA, if_true, if_false, eq_self, nm_eq, reduceCtorEq, ↓reduceIte, nQ10, nQ7, nQ11, nQ12, nQ16, nQ17, nQ18, iQ2, iQ3, iQ4, iQ5, iQ6, lQ19, iQ7, lQ20, p1_2, w_2, natlt, hv_2.cells]
    obtain ⟨f3_3, f0_3, f1_3, f2_3⟩ := gs_2.rd
    simp only [pwA, if_true, if_false, eq_self, nm_eq, reduceCtorEq, ↓reduceIte, nQ10, nQ7, nQ11, nQ12, nQ16, nQ17, nQ18, iQ2, iQ3, iQ4, iQ5, iQ6, lQ19, iQ7, lQ20, f3_3, f1_3, natlt]
    refine l31Tail_fz (vP := .sl sP 0 3 capP) (vB := .sl sB 0 3 capB) (n := 3) (k := 2) gs_2.so hp27 rfl rfl rfl (by omega) (by omega) fun v_3 x_3 k_3 hx_3 hz_3 hv_3 m_3 so_3 => ?_
    have gt_3 := gs_2.mv m_3 so_3
    obtain ⟨p3_3, p0_3, p1_3, p2_3⟩ := gt_3.rd
    obtain ⟨h_3, w_3, gs_3⟩ := gt_3.putP (F' := OkF p 3) (i := 1) (w := x_3) (by omega) hv_3 (fun W B q => q.setP hx_3 (fun j hj => hz_3 j (by omega)))
    simp only [pwA, if_true, if_false, eq_self, nm_eq, reduceCtorEq, ↓reduceIte, nQ10, nQ7, nQ11, nQ12, nQ16, nQ17, nQ18, iQ2, iQ3, iQ4, iQ5, iQ6, lQ19, iQ7, lQ20, p1_3, w_3, natlt, hv_3.cells]
    obtain ⟨e1, e2, e3, e4⟩ := fin gs_3
    simp only [pwA, if_true, if_false, eq_self, nm_eq, reduceCtorEq, ↓reduceIte, nQ10, nQ7, nQ11, nQ12, nQ16, nQ17, nQ18, iQ2, iQ3, iQ4, iQ5, iQ6, lQ19, iQ7, lQ20, e1, e2, e3]
    exact e4
  · as_aux_lemma =>
    simp only [pwA, if_true, if_false, eq_self, nm_eq, reduceCtorEq, ↓reduceIte, nQ10, nQ7, nQ11, nQ12, nQ16, nQ17, nQ18, iQ2, iQ3, iQ4, iQ5, iQ6, lQ19, iQ7, lQ20]
    obtain ⟨f3, f0, f1, f2⟩ := gs.rd
    obtain ⟨t, c, rB⟩ := gs.rdB (i := 0) (by omega) (fun W B q => rowB q (by omega))
    have hsB := gs.sBb
    simp only [pwA, if_true, if_false, eq_self, nm_eq, reduceCtorEq, ↓reduceIte, nQ10, nQ7, nQ11, nQ12, nQ16, nQ17, nQ18, iQ2, iQ3, iQ4, iQ5, iQ6, lQ19, iQ7, lQ20, f3, f2, rB, natlt]
    refine l31Tail_sl (vP := .sl sP 0 4 capP) (vB := .sl sB 0 4 capB) (n := 4) (k := 2) gs.so hp27 rfl rfl rfl (by omega) (by omega) fun x k cap hx hz hcap m soK => ?_
    have gt := (gs.mv m soK).newE (t := g5.next) (x := x) m.next.symm
    obtain ⟨p3, p0, p1, p2⟩ := gt.rd
    have rB' : (k.new (pis x)).rd1 sB 0 = some (.sl t 0 (4 - 1 - 0) c) := by rw [prd1_new, if_neg (by rw [m.next]; omega), m.rd1 (by omega)]; exact rB
    have hxl := hx.1
    have hX : El p 4 (x.set 2 1) := ⟨by rw [List.length_set]; exact hxl, fun z hzz => by
      rcases List.mem_or_eq_of_mem_set hzz with e | e
      · exact hx.2 z e
      · omega⟩
    have hXl := hX.1
    obtain ⟨h_1, w_1, gs_1, q1, q2⟩ := gt.putB (R' := FI2 g5.next 4 cap (x.set 2 1)) (F' := OkF p 4) (i := 0) (k := 0) (w := x.set 2 1) (v := .sl g5.next 0 4 cap) (by omega) rB' (by omega) (fun _ _ h => .inl h) (.inr ⟨rfl, rfl⟩) rfl (fun W B _ q => q.setB (by omega) hX (fun j hj => by rw [at_set (by omega), if_neg (by omega)]; exact hz j (by omega)))
    generalize g5.next = t0 at *
    generalize k.new (pis x) = g6 at *
    simp only [pwA, if_true, if_false, eq_self, nm_eq, reduceCtorEq, ↓reduceIte, nQ10, nQ7, nQ11, nQ12, nQ16, nQ17, nQ18, iQ2, iQ3, iQ4, iQ5, iQ6, lQ19, iQ7, lQ20, p2, rB', natlt, w_1]
    clear f3 f0 f1 f2 rB p3 p0 p1 p2 rB' w_1
    obtain ⟨f3, f0, f1, f2⟩ := gs_1.rd
    obtain ⟨h_2, w_2, gs_2⟩ := gs_1.setE (i := 2) (y := 1) (by omega)
    simp only [pwA, if_true, if_false, eq_self, nm_eq, reduceCtorEq, ↓reduceIte, nQ10, nQ7, nQ11, nQ12, nQ16, nQ17, nQ18, iQ2, iQ3, iQ4, iQ5, iQ6, lQ19, iQ7, lQ20, f2, q1, q2, natlt, w_2]
    clear f3 f0 f1 f2 q1 q2 w_2
    obtain ⟨f3, f0, f1, f2⟩ := gs_2.rd
    obtain ⟨t3, c3, rB⟩ := gs_2.rdB (i := 0) (by omega) (fun W B q => rowB q (by omega))
    obtain ⟨h_3, w_3, gs_3, _⟩ := gs_2.putB (R' := FI2 t0 4 cap (x.set 2 1)) (F' := OkF p 4) (i := 0) (k := 1) (by omega) rB (by omega) (fun _ _ h => h) (.inl hlv) hlv.one (fun W B _ q => q.setB (by omega) hle (fun j hj => by rw [unit_at (by omega), if_neg (by omega)]))
    simp only [pwA, if_true, if_false, eq_self, nm_eq, reduceCtorEq, ↓reduceIte, nQ10, nQ7, nQ11, nQ12, nQ16, nQ17, nQ18, iQ2, iQ3, iQ4, iQ5, iQ6, lQ19, iQ7, lQ20, f2, rB, w_3, natlt, hlv.cells]
    clear f3 f0 f1 f2 rB w_3
    obtain ⟨f3, f0, f1, f2⟩ := gs_3.rd
    simp only [pwA, if_true, if_false, eq_self, nm_eq, reduceCtorEq, ↓reduceIte, nQ10, nQ7, nQ11, nQ12, nQ16, nQ17, nQ18, iQ2, iQ3, iQ4, iQ5, iQ6, lQ19, iQ7, lQ20, f3, f1, natlt]
    refine l31Tail_fz (vP := .sl sP 0 4 capP) (vB := .sl sB 0 4 capB) (n := 4) (k := 3) gs_3.so hp27 rfl rfl rfl (by omega) (by omega) fun v4 x4 k4 hx4 hz4 hv4 m4 so4 => ?_
    have gt4 := gs_3.mv m4 so4
    obtain ⟨p3, p0, p1, p2⟩ := gt4.rd
    obtain ⟨h_4, w_4, gs_4⟩ := gt4.putP (F' := OkF p 4) (i := 0) (w := x4) (by omega) hv4 (fun W B q => q.setP hx4 (fun j hj => hz4 j (by omega)))
    simp only [pwA, if_true, if_false, eq_self, nm_eq, reduceCtorEq, ↓reduceIte, nQ10, nQ7, nQ11, nQ12, nQ16, nQ17, nQ18, iQ2, iQ3, iQ4, iQ5, iQ6, lQ19, iQ7, lQ20, p1, w_4, natlt, hv4.cells]
    clear f3 f0 f1 f2 p3 p0 p1 p2 w_4
    obtain ⟨f3, f0, f1, f2⟩ := gs_4.rd
    simp only [pwA, if_true, if_false, eq_self, nm_eq, reduceCtorEq, ↓reduceIte, nQ10, nQ7, nQ11, nQ12, nQ16, nQ17, nQ18, iQ2, iQ3, iQ4, iQ5, iQ6, lQ19, iQ7, lQ20, f3, f1, natlt]
    refine l31Tail_fz (vP := .sl sP 0 4 capP) (vB := .sl sB 0 4 capB) (n := 4) (k := 3) gs_4.so hp27 rfl rfl rfl (by omega) (by omega) fun v5 x5 k5 hx5 hz5 hv5 m5 so5 => ?_
    have gt5 := gs_4.mv m5 so5
    obtain ⟨p3, p0, p1, p2⟩ := gt5.rd
    obtain ⟨h_5, w_5, a⟩ := gt5.putP (F' := OkF p 4) (i := 1) (w := x5) (by omega) hv5 (fun W B q => q.setP hx5 (fun j hj => hz5 j (by omega)))
    have hres : h_5.obj σ.next = some [.int .i64 0, .fz true .nils 0 [], .fz true .nils 0 []] := by rw [a.km.obj (by omega) (by omega)]; exact obT
    have u1 : h_5.wr σ.next 0 [.int .i64 p, .sl sP 0 4 capP, .sl sB 0 4 capB] = some (h_5.set σ.next [.int .i64 p, .sl sP 0 4 capP, .sl sB 0 4 capB]) := by rw [obj_wr hres, if_pos ⟨by simp, by rfl⟩]; rfl
    have u2 : (h_5.set σ.next [.int .i64 p, .sl sP 0 4 capP, .sl sB 0 4 capB]).rd σ.next 0 3 = some [.int .i64 p, .sl sP 0 4 capP, .sl sB 0 4 capB] := by rw [prd_set, if_pos rfl]; rfl
    obtain ⟨y3, y0, y1, y2⟩ := a.rd
    simp only [pwA, if_true, if_false, eq_self, nm_eq, reduceCtorEq, ↓reduceIte, nQ10, nQ7, nQ11, nQ12, nQ16, nQ17, nQ18, iQ2, iQ3, iQ4, iQ5, iQ6, lQ19, iQ7, lQ20, p1, w_5, natlt, hv5.cells, y3, u1, u2]
    obtain ⟨cs, ls, W, B, rs, f, ne, nx⟩ := a.rs
    obtain ⟨z1, z2, z3, z4⟩ := a.ex t0 _ ⟨rfl, rfl⟩
    have nx' := nx t0 _ ⟨rfl, rfl⟩
    have rs6 : RS FI (FI2 t0 4 cap (x.set 2 1)) T.next (h_5.set σ.next [.int .i64 p, .sl sP 0 4 capP, .sl sB 0 4 capB]) 4 sP capP cs sB capB ls W B := rs.move (fun t ht => by
      have := (rs.lt ht).1
      rw [pobj_set, if_neg (by omega)]) (Nat.le_refl _)
    have km6 : KM σ s (h_5.set σ.next [.int .i64 p, .sl sP 0 4 capP, .sl sB 0 4 capB]) := ((so.kmK hkT).trans hsl a.km).set (Nat.le_refl _) _
    have so6 : So (h_5.set σ.next [.int .i64 p, .sl sP 0 4 capP, .sl sB 0 4 capB]) s vC bs := a.so.set (by omega) _
    refine Gh.freezeH (s := t0) (cs := pis (x.set 2 1)) (by rw [pobj_set, if_neg (by omega)]; exact z1) (by omega) (pis_bel _ _) fun o1 g1 g2 g3 => ?_
    have n1 : sP ≠ t0 := Ne.symm (nx' _ (.inl rfl))
    have n2 : sB ≠ t0 := Ne.symm (nx' _ (.inr (.inl rfl)))
    have rs7 := rs6.fzh (RP' := FI) (R' := FI) (t := t0) (o := o1) (xs := pis (x.set 2 1)) ⟨nx' _ (.inl rfl), nx' _ (.inr (.inl rfl)), fun q hq => Ne.symm (nx' _ (.inr (.inr ⟨q, hq, rfl⟩)))⟩ (fun v w hv => by rw [hv.sb]; exact hv) (fun v w hv => by
      rcases hv with e | ⟨e, e2⟩
      · rw [e.sb]; exact e
      · rw [e, e2]
        simp only [sb, hcap.ok, and_self, if_true]
        exact ⟨true, _, by rw [hXl]⟩)
    simp only [sb, sbs, n1, n2, false_and, if_false]
    exact Gh.ret (hk p 4 sP capP _ sB capB _ _ W B hp (by omega) hpow f (km6.fr w (by omega) (by show _ ≤ max _ _; omega)) (so6.fr (by omega)) ((rs7.low (by omega)).move (fun _ _ => rfl) (Nat.le_refl _)))
  · as_aux_lemma =>
    simp only [pwA, if_true, if_false, eq_self, nm_eq, reduceCtorEq, ↓reduceIte, nQ10, nQ7, nQ11, nQ12, nQ16, nQ17, nQ18, iQ2, iQ3, iQ4, iQ5, iQ6, lQ19, iQ7, lQ20]
    obtain ⟨f3_4, f0_4, f1_4, f2_4⟩ := gs.rd
    obtain ⟨t_4, c_4, rB_4⟩ := gs.rdB (i := 0) (by omega) (fun W B q => rowB q (by omega))
    obtain ⟨h_4, w_4, gs_4, _⟩ := gs.putB (F' := OkF p 4) (i := 0) (k := 0) (by omega) rB_4 (by omega) (fun _ _ h => h) hlv hlv.one (fun W B _ q => q.setB (by omega) hle (fun j hj => by rw [unit_at (by omega), if_neg (by omega)]))
    simp only [pwA, if_true, if_false, eq_self, nm_eq, reduceCtorEq, ↓reduceIte, nQ10, nQ7, nQ11, nQ12, nQ16, nQ17, nQ18, iQ2, iQ3, iQ4, iQ5, iQ6, lQ19, iQ7, lQ20, f2_4, rB_4, w_4, natlt, hlv.cells]
    obtain ⟨f3_5, f0_5, f1_5, f2_5⟩ := gs_4.rd
    simp only [pwA, if_true, if_false, eq_self, nm_eq, reduceCtorEq, ↓reduceIte, nQ10, nQ7, nQ11, nQ12, nQ16, nQ17, nQ18, iQ2, iQ3, iQ4, iQ5, iQ6, lQ19, iQ7, lQ20, f3_5, f1_5, natlt]
    refine l31Tail_fz (vP := .sl sP 0 4 capP) (vB := .sl sB 0 4 capB) (n := 4) (k := 2) gs_4.so hp27 rfl rfl rfl (by omega) (by omega) fun v_5 x_5 k_5 hx_5 hz_5 hv_5 m_5 so_5 => ?_
    have gt_5 := gs_4.mv m_5 so_5
    obtain ⟨p3_5, p0_5, p1_5, p2_5⟩ := gt_5.rd
    obtain ⟨h_5, w_5, gs_5⟩ := gt_5.putP (F' := OkF p 4) (i := 0) (w := x_5) (by omega) hv_5 (fun W B q => q.setP hx_5 (fun j hj => hz_5 j (by omega)))
    simp only [pwA, if_true, if_false, eq_self, nm_eq, reduceCtorEq, ↓reduceIte, nQ10, nQ7, nQ11, nQ12, nQ16, nQ17, nQ18, iQ2, iQ3, iQ4, iQ5, iQ6, lQ19, iQ7, lQ20, p1_5, w_5, natlt, hv_5.cells]
    obtain ⟨f3_6, f0_6, f1_6, f2_6⟩ := gs_5.rd
    simp only [pwA, if_true, if_false, eq_self, nm_eq, reduceCtorEq, ↓reduceIte, nQ10, nQ7, nQ11, nQ12, nQ16, nQ17, nQ18, iQ2, iQ3, iQ4, iQ5, iQ6, lQ19, iQ7, lQ20, f3_6, f1_6, natlt]
    refine l31Tail_fz (vP := .sl sP 0 4 capP) (vB := .sl sB 0 4 capB) (n := 4) (k := 2) gs_5.so hp27 rfl rfl rfl (by omega) (by omega) fun v_6 x_6 k_6 hx_6 hz_6 hv_6 m_6 so_6 => ?_
    have gt_6 := gs_5.mv m_6 so_6
    obtain ⟨p3_6, p0_6, p1_6, p2_6⟩ := gt_6.rd
    obtain ⟨h_6, w_6, gs_6⟩ := gt_6.putP (F' := OkF p 4) (i := 1) (w := x_6) (by omega) hv_6 (fun W B q => q.setP hx_6 (fun j hj => hz_6 j (by omega)))
    simp only [pwA, if_true, if_false, eq_self, nm_eq, reduceCtorEq, ↓reduceIte, nQ10, nQ7, nQ11, nQ12, nQ16, nQ17, nQ18, iQ2, iQ3, iQ4, iQ5, iQ6, lQ19, iQ7, lQ20, p1_6, w_6, natlt, hv_6.cells]
    obtain ⟨f3_7, f0_7, f1_7, f2_7⟩ := gs_6.rd
    simp only [pwA, if_true, if_false, eq_self, nm_eq, reduceCtorEq, ↓reduceIte, nQ10, nQ7, nQ11, nQ12, nQ16, nQ17, nQ18, iQ2, iQ3, iQ4, iQ5, iQ6, lQ19, iQ7, lQ20, f3_7, f1_7, natlt]
    refine l31Tail_fz (vP := .sl sP 0 4 capP) (vB := .sl sB 0 4 capB) (n := 4) (k := 3) gs_6.so hp27 rfl rfl rfl (by omega) (by omega) fun v_7 x_7 k_7 hx_7 hz_7 hv_7 m_7 so_7 => ?_
    have gt_7 := gs_6.mv m_7 so_7
    obtain ⟨p3_7, p0_7, p1_7, p2_7⟩ := gt_7.rd
    obtain ⟨h_7, w_7, gs_7⟩ := gt_7.putP (F' := OkF p 4) (i := 2) (w := x_7) (by omega) hv_7 (fun W B q => q.setP hx_7 (fun j hj => hz_7 j (by omega)))
    simp only [pwA, if_true, if_false, eq_self, nm_eq, reduceCtorEq, ↓reduceIte, nQ10, nQ7, nQ11, nQ12, nQ16, nQ17, nQ18, iQ2, iQ3, iQ4, iQ5, iQ6, lQ19, iQ7, lQ20, p1_7, w_7, natlt, hv_7.cells]
    obtain ⟨e1, e2, e3, e4⟩ := fin gs_7
    simp only [pwA, if_true, if_false, eq_self, nm_eq, reduceCtorEq, ↓reduceIte, nQ10, nQ7, nQ11, nQ12, nQ16, nQ17, nQ18, iQ2, iQ3, iQ4, iQ5, iQ6, lQ19, iQ7, lQ20, e1, e2, e3]
    exact e4
  · as_aux_lemma =>
    simp only [pwA, if_true, if_false, eq_self, nm_eq, reduceCtorEq, ↓reduceIte, nQ10, nQ7, nQ11, nQ12, nQ16, nQ17, nQ18, iQ2, iQ3, iQ4, iQ5, iQ6, lQ19, iQ7, lQ20]
    obtain ⟨f3_8, f0_8, f1_8, f2_8⟩ := gs.rd
    obtain ⟨t_8, c_8, rB_8⟩ := gs.rdB (i := 0) (by omega) (fun W B q => rowB q (by omega))
    obtain ⟨h_8, w_8, gs_8, _⟩ := gs.putB (F' := OkF p 5) (i := 0) (k := 0) (by omega) rB_8 (by omega) (fun _ _ h => h) hlv hlv.one (fun W B _ q => q.setB (by omega) hle (fun j hj => by rw [unit_at (by omega), if_neg (by omega)]))
    simp only [pwA, if_true, if_false, eq_self, nm_eq, reduceCtorEq, ↓reduceIte, nQ10, nQ7, nQ11, nQ12, nQ16, nQ17, nQ18, iQ2, iQ3, iQ4, iQ5, iQ6, lQ19, iQ7, lQ20, f2_8, rB_8, w_8, natlt, hlv.cells]
    obtain ⟨f3_9, f0_9, f1_9, f2_9⟩ := gs_8.rd
    obtain ⟨t_9, c_9, rB_9⟩ := gs_8.rdB (i := 2) (by omega) (fun W B q => rowB q (by omega))
    simp only [pwA, if_true, if_false, eq_self, nm_eq, reduceCtorEq, ↓reduceIte, nQ10, nQ7, nQ11, nQ12, nQ16, nQ17, nQ18, iQ2, iQ3, iQ4, iQ5, iQ6, lQ19, iQ7, lQ20, f2_9, rB_9, natlt]
    refine ownFI hlv (by rw [unitL_length]; omega) fun v_9 hv_9 => ?_
    obtain ⟨h_9, w_9, gs_9, _⟩ := gs_8.putB (F' := OkF p 5) (i := 2) (k := 0) (by omega) rB_9 (by omega) (fun _ _ h => h) hv_9 hv_9.one (fun W B _ q => q.setB (by omega) hle (fun j hj => by rw [unit_at (by omega), if_neg (by omega)]))
    simp only [pwA, if_true, if_false, eq_self, nm_eq, reduceCtorEq, ↓reduceIte, nQ10, nQ7, nQ11, nQ12, nQ16, nQ17, nQ18, iQ2, iQ3, iQ4, iQ5, iQ6, lQ19, iQ7, lQ20, f2_9, rB_9, w_9, natlt, hv_9.cells]
    obtain ⟨f3_10, f0_10, f1_10, f2_10⟩ := gs_9.rd
    simp only [pwA, if_true, if_false, eq_self, nm_eq, reduceCtorEq, ↓reduceIte, nQ10, nQ7, nQ11, nQ12, nQ16, nQ17, nQ18, iQ2, iQ3, iQ4, iQ5, iQ6, lQ19, iQ7, lQ20, f3_10, f1_10, natlt]
    refine l31Tail_fz (vP := .sl sP 0 5 capP) (vB := .sl sB 0 5 capB) (n := 5) (k := 4) gs_9.so hp27 rfl rfl rfl (by omega) (by omega) fun v_10 x_10 k_10 hx_10 hz_10 hv_10 m_10 so_10 => ?_
    have gt_10 := gs_9.mv m_10 so_10
    obtain ⟨p3_10, p0_10, p1_10, p2_10⟩ := gt_10.rd
    obtain ⟨h_10, w_10, gs_10⟩ := gt_10.putP (F' := OkF p 5) (i := 0) (w := x_10) (by omega) hv_10 (fun W B q => q.setP hx_10 (fun j hj => hz_10 j (by omega)))
    simp only [pwA, if_true, if_false, eq_self, nm_eq, reduceCtorEq, ↓reduceIte, nQ10, nQ7, nQ11, nQ12, nQ16, nQ17, nQ18, iQ2, iQ3, iQ4, iQ5, iQ6, lQ19, iQ7, lQ20, p1_10, w_10, natlt, hv_10.cells]
    obtain ⟨e1, e2, e3, e4⟩ := fin gs_10
    simp only [pwA, if_true, if_false, eq_self, nm_eq, reduceCtorEq, ↓reduceIte, nQ10, nQ7, nQ11, nQ12, nQ16, nQ17, nQ18, iQ2, iQ3, iQ4, iQ5, iQ6, lQ19, iQ7, lQ20, e1, e2, e3]
    exact e4
  · as_aux_lemma =>
    simp only [pwA, if_true, if_false, eq_self, nm_eq, reduceCtorEq, ↓reduceIte, nQ10, nQ7, nQ11, nQ12, nQ16, nQ17, nQ18, iQ2, iQ3, iQ4, iQ5, iQ6, lQ19, iQ7, lQ20]
    obtain ⟨f3_11, f0_11, f1_11, f2_11⟩ := gs.rd
    obtain ⟨t_11, c_11, rB_11⟩ := gs.rdB (i := 0) (by omega) (fun W B q => rowB q (by omega))
    simp only [pwA, if_true, if_false, eq_self, nm_eq, reduceCtorEq, ↓reduceIte, nQ10, nQ7, nQ11, nQ12, nQ16, nQ17, nQ18, iQ2, iQ3, iQ4, iQ5, iQ6, lQ19, iQ7, lQ20, f3_11, f2_11, rB_11, natlt]
    refine l31Unit_sl (vP := .sl sP 0 5 capP) (vB := .sl sB 0 5 capB) (n := 5) (k := 3) rfl rfl rfl (by omega) (by omega) fun v_11 hv_11 => ?_
    obtain ⟨h_11, w_11, gs_11, _⟩ := gs.putB (F' := OkF p 5) (i := 0) (k := 0) (by omega) rB_11 (by omega) (fun _ _ h => h) hv_11 hv_11.one (fun W B _ q => q.setB (by omega) (unit_el q.w.pr (by omega)) (fun j hj => by rw [unit_at (by omega), if_neg (by omega)]))
    simp only [pwA, if_true, if_false, eq_self, nm_eq, reduceCtorEq, ↓reduceIte, nQ10, nQ7, nQ11, nQ12, nQ16, nQ17, nQ18, iQ2, iQ3, iQ4, iQ5, iQ6, lQ19, iQ7, lQ20, f2_11, rB_11, w_11, natlt, hv_11.cells]
    obtain ⟨f3_12, f0_12, f1_12, f2_12⟩ := gs_11.rd
    obtain ⟨t_12, c_12, rB_12⟩ := gs_11.rdB (i := 0) (by omega) (fun W B q => rowB q (by omega))
    obtain ⟨h_12, w_12, gs_12, _⟩ := gs_11.putB (F' := OkF p 5) (i := 0) (k := 1) (by omega) rB_12 (by omega) (fun _ _ h => h) hlv hlv.one (fun W B _ q => q.setB (by omega) hle (fun j hj => by rw [unit_at (by omega), if_neg (by omega)]))
    simp only [pwA, if_true, if_false, eq_self, nm_eq, reduceCtorEq, ↓reduceIte, nQ10, nQ7, nQ11, nQ12, nQ16, nQ17, nQ18, iQ2, iQ3, iQ4, iQ5, iQ6, lQ19, iQ7, lQ20, f2_12, rB_12, w_12, natlt, hlv.cells]
    obtain ⟨f3_13, f0_13, f1_13, f2_13⟩ := gs_12.rd
    simp only [pwA, if_true, if_false, eq_self, nm_eq, reduceCtorEq, ↓reduceIte, nQ10, nQ7, nQ11, nQ12, nQ16, nQ17, nQ18, iQ2, iQ3, iQ4, iQ5, iQ6, lQ19, iQ7, lQ20, f3_13, f1_13, natlt]
    refine l31Tail_fz (vP := .sl sP 0 5 capP) (vB := .sl sB 0 5 capB) (n := 5) (k := 3) gs_12.so hp27 rfl rfl rfl (by omega) (by omega) fun v_13 x_13 k_13 hx_13 hz_13 hv_13 m_13 so_13 => ?_
    have gt_13 := gs_12.mv m_13 so_13
    obtain ⟨p3_13, p0_13, p1_13, p2_13⟩ := gt_13.rd
    obtain ⟨h_13, w_13, gs_13⟩ := gt_13.putP (F' := OkF p 5) (i := 1) (w := x_13) (by omega) hv_13 (fun W B q => q.setP hx_13 (fun j hj => hz_13 j (by omega)))
    simp only [pwA, if_true, if_false, eq_self, nm_eq, reduceCtorEq, ↓reduceIte, nQ10, nQ7, nQ11, nQ12, nQ16, nQ17, nQ18, iQ2, iQ3, iQ4, iQ5, iQ6, lQ19, iQ7, lQ20, p1_13, w_13, natlt, hv_13.cells]
    obtain ⟨f3_14, f0_14, f1_14, f2_14⟩ := gs_13.rd
    simp only [pwA, if_true, if_false, eq_self, nm_eq, reduceCtorEq, ↓reduceIte, nQ10, nQ7, nQ11, nQ12, nQ16, nQ17, nQ18, iQ2, iQ3, iQ4, iQ5, iQ6, lQ19, iQ7, lQ20, f3_14, f1_14, natlt]
    refine l31Tail_fz (vP := .sl sP 0 5 capP) (vB := .sl sB 0 5 capB) (n := 5) (k := 3) gs_13.so hp27 rfl rfl rfl (by omega) (by omega) fun v_14 x_14 k_14 hx_14 hz_14 hv_14 m_14 so_14 => ?_
    have gt_14 := gs_13.mv m_14 so_14
    obtain ⟨p3_14, p0_14, p1_14, p2_14⟩ := gt_14.rd
    obtain ⟨h_14, w_14, gs_14⟩ := gt_14.putP (F' := OkF p 5) (i := 0) (w := x_14) (by omega) hv_14 (fun W B q => q.setP hx_14 (fun j hj => hz_14 j (by omega)))
    simp only [pwA, if_true, if_false, eq_self, nm_eq, reduceCtorEq, ↓reduceIte, nQ10, nQ7, nQ11, nQ12, nQ16, nQ17, nQ18, iQ2, iQ3, iQ4, iQ5, iQ6, lQ19, iQ7, lQ20, p1_14, w_14, natlt, hv_14.cells]
    obtain ⟨e1, e2, e3, e4⟩ := fin gs_14
    simp only [pwA, if_true, if_false, eq_self, nm_eq, reduceCtorEq, ↓reduceIte, nQ10, nQ7, nQ11, nQ12, nQ16, nQ17, nQ18, iQ2, iQ3, iQ4, iQ5, iQ6, lQ19, iQ7, lQ20, e1, e2, e3]
    exact e4
  · as_aux_lemma =>
    simp only [pwA, if_true, if_false, eq_self, nm_eq, reduceCtorEq, ↓reduceIte, nQ10, nQ7, nQ11, nQ12, nQ16, nQ17, nQ18, iQ2, iQ3, iQ4, iQ5, iQ6, lQ19, iQ7, lQ20]
    obtain ⟨f3_15, f0_15, f1_15, f2_15⟩ := gs.rd
    obtain ⟨t_15, c_15, rB_15⟩ := gs.rdB (i := 0) (by omega) (fun W B q => rowB q (by omega))
    simp only [pwA, if_true, if_false, eq_self, nm_eq, reduceCtorEq, ↓reduceIte, nQ10, nQ7, nQ11, nQ12, nQ16, nQ17, nQ18, iQ2, iQ3, iQ4, iQ5, iQ6, lQ19, iQ7, lQ20, f3_15, f2_15, rB_15, natlt]
    refine l31Unit_sl (vP := .sl sP 0 6 capP) (vB := .sl sB 0 6 capB) (n := 6) (k := 3) rfl rfl rfl (by omega) (by omega) fun v_15 hv_15 => ?_
    obtain ⟨h_15, w_15, gs_15, _⟩ := gs.putB (F' := OkF p 6) (i := 0) (k := 0) (by omega) rB_15 (by omega) (fun _ _ h => h) hv_15 hv_15.one (fun W B _ q => q.setB (by omega) (unit_el q.w.pr (by omega)) (fun j hj => by rw [unit_at (by omega), if_neg (by omega)]))
    simp only [pwA, if_true, if_false, eq_self, nm_eq, reduceCtorEq, ↓reduceIte, nQ10, nQ7, nQ11, nQ12, nQ16, nQ17, nQ18, iQ2, iQ3, iQ4, iQ5, iQ6, lQ19, iQ7, lQ20, f2_15, rB_15, w_15, natlt, hv_15.cells]
    obtain ⟨f3_16, f0_16, f1_16, f2_16⟩ := gs_15.rd
    obtain ⟨t_16, c_16, rB_16⟩ := gs_15.rdB (i := 0) (by omega) (fun W B q => rowB q (by omega))
    simp only [pwA, if_true, if_false, eq_self, nm_eq, reduceCtorEq, ↓reduceIte, nQ10, nQ7, nQ11, nQ12, nQ16, nQ17, nQ18, iQ2, iQ3, iQ4, iQ5, iQ6, lQ19, iQ7, lQ20, f3_16, f2_16, rB_16, natlt]
    refine l31Unit_sl (vP := .sl sP 0 6 capP) (vB := .sl sB 0 6 capB) (n := 6) (k := 4) rfl rfl rfl (by omega) (by omega) fun v_16 hv_16 => ?_
    obtain ⟨h_16, w_16, gs_16, _⟩ := gs_15.putB (F' := OkF p 6) (i := 0) (k := 1) (by omega) rB_16 (by omega) (fun _ _ h => h) hv_16 hv_16.one (fun W B _ q => q.setB (by omega) (unit_el q.w.pr (by omega)) (fun j hj => by rw [unit_at (by omega), if_neg (by omega)]))
    simp only [pwA, if_true, if_false, eq_self, nm_eq, reduceCtorEq, ↓reduceIte, nQ10, nQ7, nQ11, nQ12, nQ16, nQ17, nQ18, iQ2, iQ3, iQ4, iQ5, iQ6, lQ19, iQ7, lQ20, f2_16, rB_16, w_16, natlt, hv_16.cells]
    obtain ⟨f3_17, f0_17, f1_17, f2_17⟩ := gs_16.rd
    obtain ⟨t_17, c_17, rB_17⟩ := gs_16.rdB (i := 1) (by omega) (fun W B q => rowB q (by omega))
    obtain ⟨h_17, w_17, gs_17, _⟩ := gs_16.putB (F' := OkF p 6) (i := 1) (k := 0) (by omega) rB_17 (by omega) (fun _ _ h => h) hlv hlv.one (fun W B _ q => q.setB (by omega) hle (fun j hj => by rw [unit_at (by omega), if_neg (by omega)]))
    simp only [pwA, if_true, if_false, eq_self, nm_eq, reduceCtorEq, ↓reduceIte, nQ10, nQ7, nQ11, nQ12, nQ16, nQ17, nQ18, iQ2, iQ3, iQ4, iQ5, iQ6, lQ19, iQ7, lQ20, f2_17, rB_17, w_17, natlt, hlv.cells]
    obtain ⟨e1, e2, e3, e4⟩ := fin gs_17
    simp only [pwA, if_true, if_false, eq_self, nm_eq, reduceCtorEq, ↓reduceIte, nQ10, nQ7, nQ11, nQ12, nQ16, nQ17, nQ18, iQ2, iQ3, iQ4, iQ5, iQ6, lQ19, iQ7, lQ20, e1, e2, e3]
    exact e4
  · as_aux_lemma =>
    simp only [pwA, if_true, if_false, eq_self, nm_eq, reduceCtorEq, ↓reduceIte, nQ10, nQ7, nQ11, nQ12, nQ16, nQ17, nQ18, iQ2, iQ3, iQ4, iQ5, iQ6, lQ19, iQ7, lQ20]
    obtain ⟨f3_18, f0_18, f1_18, f2_18⟩ := gs.rd
    obtain ⟨t_18, c_18, rB_18⟩ := gs.rdB (i := 0) (by omega) (fun W B q => rowB q (by omega))
    obtain ⟨h_18, w_18, gs_18, _⟩ := gs.putB (F' := OkF p 3) (i := 0) (k := 0) (by omega) rB_18 (by omega) (fun _ _ h => h) hlv hlv.one (fun W B _ q => q.setB (by omega) hle (fun j hj => by rw [unit_at (by omega), if_neg (by omega)]))
    simp only [pwA, if_true, if_false, eq_self, nm_eq, reduceCtorEq, ↓reduceIte, nQ10, nQ7, nQ11, nQ12, nQ16, nQ17, nQ18, iQ2, iQ3, iQ4, iQ5, iQ6, lQ19, iQ7, lQ20, f2_18, rB_18, w_18, natlt, hlv.cells]
    obtain ⟨f3_19, f0_19, f1_19, f2_19⟩ := gs_18.rd
    simp only [pwA, if_true, if_false, eq_self, nm_eq, reduceCtorEq, ↓reduceIte, nQ10, nQ7, nQ11, nQ12, nQ16, nQ17, nQ18, iQ2, iQ3, iQ4, iQ5, iQ6, lQ19, iQ7, lQ20, f3_19, f1_19, natlt]
    refine l31Tail_fz (vP := .sl sP 0 3 capP) (vB := .sl sB 0 3 capB) (n := 3) (k := 2) gs_18.so hp27 rfl rfl rfl (by omega) (by omega) fun v_19 x_19 k_19 hx_19 hz_19 hv_19 m_19 so_19 => ?_
    have gt_19 := gs_18.mv m_19 so_19
    obtain ⟨p3_19, p0_19, p1_19, p2_19⟩ := gt_19.rd
    obtain ⟨h_19, w_19, gs_19⟩ := gt_19.putP (F' := OkF p 3) (i := 0) (w := x_19) (by omega) hv_19 (fun W B q => q.setP hx_19 (fun j hj => hz_19 j (by omega)))
    simp only [pwA, if_true, if_false, eq_self, nm_eq, reduceCtorEq, ↓reduceIte, nQ10, nQ7, nQ11, nQ12, nQ16, nQ17, nQ18, iQ2, iQ3, iQ4, iQ5, iQ6, lQ19, iQ7, lQ20, p1_19, w_19, natlt, hv_19.cells]
    obtain ⟨f3_20, f0_20, f1_20, f2_20⟩ := gs_19.rd
    simp only [pwA, if_true, if_false, eq_self, nm_eq, reduceCtorEq, ↓reduceIte, nQ10, nQ7, nQ11, nQ12, nQ16, nQ17, nQ18, iQ2, iQ3, iQ4, iQ5, iQ6, lQ19, iQ7, lQ20, f3_20, f1_20, natlt]
    refine l31Tail_fz (vP := .sl sP 0 3 capP) (vB := .sl sB 0 3 capB) (n := 3) (k := 2) gs_19.so hp27 rfl rfl rfl (by omega) (by omega) fun v_20 x_20 k_20 hx_20 hz_20 hv_20 m_20 so_20 => ?_
    have gt_20 := gs_19.mv m_20 so_20
    obtain ⟨p3_20, p0_20, p1_20, p2_20⟩ := gt_20.rd
    obtain ⟨h_20, w_20, gs_20⟩ := gt_20.putP (F' := OkF p 3) (i := 1) (w := x_20) (by omega) hv_20 (fun W B q => q.setP hx_20 (fun j hj => hz_20 j (by omega)))
    simp only [pwA, if_true, if_false, eq_self, nm_eq, reduceCtorEq, ↓reduceIte, nQ10, nQ7, nQ11, nQ12, nQ16, nQ17, nQ18, iQ2, iQ3, iQ4, iQ5, iQ6, lQ19, iQ7, lQ20, p1_20, w_20, natlt, hv_20.cells]
    obtain ⟨e1, e2, e3, e4⟩ := fin gs_20
    simp only [pwA, if_true, if_false, eq_self, nm_eq, reduceCtorEq, ↓reduceIte, nQ10, nQ7, nQ11, nQ12, nQ16, nQ17, nQ18, iQ2, iQ3, iQ4, iQ5, iQ6, lQ19, iQ7, lQ20, e1, e2, e3]
    exact e4
end Go.Proofs
namespace Go.Proofs
open Go.Ab Go.Lie
variable {σ σ0 h h' : PHeap} {K : PV → PHeap → Prop} {vC vP vB : PV} {bs : List Int} {s b n r0 : Nat} {p : Int} {W : List (List Int)} {B : List (List (List Int))}
theorem psl_mv {b e m : Nat} {v : PV} {cs : List PV} (a : PSl b e h v m cs) (hs : s < b) (mv : Mv h s h') : PSl b e h' v m cs := psl_move a (fun t off l c e => mv.obj (by
  obtain ⟨s', cap, rfl, _, _, _, h4, _⟩ := a
  cases e
  omega)) (by rw [mv.next]; exact Nat.le_refl _)
theorem push_km {T h : PHeap} {bytes n : Nat} {v x : PV} {cs : List PV} {K : PV × PHeap → Prop} (so : So h s vC bs) (hs : s < T.next) (km : KM T s h) (a : PSl T.next 1 h v n cs)
    (h1 : (n + 1) * bytes ≤ 140737488355328) (h2 : n + 1 ≤ 4611686018427387904) (k : ∀ v' h', KM T s h' → So h' s vC bs → PSl T.next 1 h' v' (n + 1) (cs ++ [x]) → K (v', h')) : optK (pappend 1 bytes (h.new [x]) v (.sl h.next 0 1 (.known 1))) K := by
  obtain ⟨σ', m, q⟩ := km
  have hn := m.next
  have so' : So σ' s vC bs := by
    obtain ⟨a0, sd0, S⟩ := so
    exact ⟨a0, sd0, by rw [← q.obj s (by omega)]; exact S.obj, by omega, S.fb, S.byt, S.le, S.sd⟩
  refine PSl.push (σb := σ') (bytes := bytes) q (by rw [hn]; exact a) h1 h2 fun v' h' k1 k2 => k v' h' ⟨σ', m, k1⟩ (so'.keep k1) (by rw [← hn]; exact k2)
structure ElI (T h : PHeap) (s : Nat) (vC : PV) (bs : List Int) (v : PV) (x : List Int) : Prop where
  km : KM T s h
  so : So h s vC bs
  ps : PSl T.next 1 h v x.length (pis x)
theorem l31Element_sl (so : So σ s vC bs) (hR : IsR vP vB W B) (hp : -4611686018427387904 ≤ p ∧ p ≤ 4611686018427387904) (hl : W.length ≤ 1048576)
    (hk : ∀ x h cap, full 1 cap x.length → x.length ≤ W.length + 1 → Mv σ s h → So h s vC bs → K (.sl σ.next 0 x.length cap) (h.new (pis x))) : PCalls Tryz.prog 191 [.ptr s 0, .agg [.int .i64 p, vP, vB]] σ K := by
  have g1 := hR.P.one
  have g2 := hR.B.one
  obtain ⟨⟨wp, ap, rp, rfl, hrp⟩, hB⟩ := hR
  have hsl := so.lt
  refine PCalls.gh ?_
  generalize hT : σ.new [.int .i64 p, .fz wp ap W.length rp, vB] = T
  have hTn : T.next = σ.next + 1 := by rw [← hT]; rfl
  have hkT : Keep σ T := by rw [← hT]; exact keep_new σ _
  have soT : So T s vC bs := so.keep hkT
  have hsT : s < T.next := soT.lt
  have obT : T.obj σ.next = some [.int .i64 p, .fz wp ap W.length rp, vB] := by rw [← hT]; simp only [pwA, if_true, if_false, eq_self, nm_eq, reduceCtorEq, ↓reduceIte, nQ10, nQ7, nQ11, nQ12, nQ16, nQ17, nQ18, iQ2, iQ3, iQ4, iQ5, iQ6, lQ19, iQ7, lQ20]
  have rdT : ∀ {g : PHeap}, KM T s g → g.rd1 σ.next 0 = some (.int .i64 p) ∧ g.rd1 σ.next 1 = some (.fz wp ap W.length rp) := fun {g} k => by
    have ob := k.obj (t := σ.next) (by omega) (by omega)
    rw [obT] at ob
    exact ⟨by rw [obj_rd1 ob]; rfl, by rw [obj_rd1 ob]; rfl⟩
  have fin : ∀ {g v x}, ElI T g s vC bs v x → x.length ≤ W.length + 1 → Gh σ K v g := fun {g v x} a hx => by
    refine Gh.km ((so.kmK hkT).trans hsl a.km) a.so hsl fun σ' m' so' kp => ?_
    obtain ⟨t, cap, rfl, hc, q2, q3, q4, q5⟩ := a.ps
    refine Gh.finS (s := t) kp q2 (by rw [m'.next]; omega) (pis_bel _ _) ?_
    rw [m'.next]
    exact hk x σ' cap hc hx m' so'
  refine pcalls_of_vp mix Tryz.func191 cf191 rfl ?_
  dsimp only [if191, qI, eI, nI, qD, eD]
  simp only [pwA, if_true, if_false, eq_self, nm_eq, reduceCtorEq, ↓reduceIte, nQ10, nQ7, nQ11, nQ12, nQ16, nQ17, nQ18, iQ2, iQ3, iQ4, iQ5, iQ6, lQ19, iQ7, lQ20, g1, g2]
  rw [hT]
  refine vp_loop (fun m us h => ∃ (i : Nat) (v : PV) (x : List Int), i ≤ W.length ∧ m = W.length - i ∧ us = [.ptr s 0, .ptr σ.next 0, v, .int .i64 i] ∧ x.length = i ∧ ElI T h s vC bs v x) W.length ⟨0, .sl T.next 0 0 (.known 0), [], by omega, by omega, by first | (rw [hTn]; rfl) | rfl, rfl, ⟨soT.kmK (keep_new _ _), soT.keep (keep_new _ _), PSl.new _ 1 rfl (Nat.le_refl _)⟩⟩ ?_
  rintro m us h ⟨i, v, x, hi, rfl, rfl, hx, a⟩
  obtain ⟨r0_, r1_⟩ := rdT a.km
  simp only [pwA, if_true, if_false, eq_self, nm_eq, reduceCtorEq, ↓reduceIte, nQ10, nQ7, nQ11, nQ12, nQ16, nQ17, nQ18, iQ2, iQ3, iQ4, iQ5, iQ6, lQ19, iQ7, lQ20, r1_]
  refine iteI (fun hlt => ?_) fun hge => ?_
  · have hlt' : i < W.length := by omega
    have wi1 : IntKind.i64.wrap ((i : Int) + 1) = ((i + 1 : Nat) : Int) := wrapS hlt' (by omega)
    simp only [pwA, if_true, if_false, eq_self, nm_eq, reduceCtorEq, ↓reduceIte, nQ10, nQ7, nQ11, nQ12, nQ16, nQ17, nQ18, iQ2, iQ3, iQ4, iQ5, iQ6, lQ19, iQ7, lQ20, r0_]
    refine l01Next_m a.so (by omega) fun y h3 hy m3 so3 => ?_
    simp only [pwA, if_true, if_false, eq_self, nm_eq, reduceCtorEq, ↓reduceIte, nQ10, nQ7, nQ11, nQ12, nQ16, nQ17, nQ18, iQ2, iQ3, iQ4, iQ5, iQ6, lQ19, iQ7, lQ20]
    refine push_km (bytes := 8) so3 hsT (a.km.mv hsT m3) (psl_mv a.ps hsT m3) (by omega) (by omega) fun v' h4 k4 so4 p4 => ?_
    simp only [pwA, if_true, if_false, eq_self, nm_eq, reduceCtorEq, ↓reduceIte, nQ10, nQ7, nQ11, nQ12, nQ16, nQ17, nQ18, iQ2, iQ3, iQ4, iQ5, iQ6, lQ19, iQ7, lQ20, wi1]
    exact ⟨_, by omega, i + 1, v', x ++ [y], by omega, rfl, rfl, by simp; omega, k4, so4, by rw [← pis_append, List.length_append]; exact p4⟩
  have hie : i = W.length := by omega
  simp only [pwA, if_true, if_false, eq_self, nm_eq, reduceCtorEq, ↓reduceIte, nQ10, nQ7, nQ11, nQ12, nQ16, nQ17, nQ18, iQ2, iQ3, iQ4, iQ5, iQ6, lQ19, iQ7, lQ20]
  refine l01Next_m a.so (by decide) fun y h3 hy m3 so3 => ?_
  have a3 : ElI T h3 s vC bs v x := ⟨a.km.mv hsT m3, so3, psl_mv a.ps hsT m3⟩
  by_cases hy0 : y = 0
  · have hy0' : y = 0 := hy0
    simp only [pwA, if_true, if_false, eq_self, nm_eq, reduceCtorEq, ↓reduceIte, nQ10, nQ7, nQ11, nQ12, nQ16, nQ17, nQ18, iQ2, iQ3, iQ4, iQ5, iQ6, lQ19, iQ7, lQ20, hy0', decide_true]
    refine push_km (bytes := 8) a3.so hsT a3.km a3.ps (by omega) (by omega) fun v' h4 k4 so4 p4 => ?_
    have a4 : ElI T h4 s vC bs v' (x ++ [0]) := ⟨k4, so4, by rw [← pis_append, List.length_append]; exact p4⟩
    simp only [pwA, if_true, if_false, eq_self, nm_eq, reduceCtorEq, ↓reduceIte, nQ10, nQ7, nQ11, nQ12, nQ16, nQ17, nQ18, iQ2, iQ3, iQ4, iQ5, iQ6, lQ19, iQ7, lQ20]
    refine l01Next_m a4.so (by decide) fun z h5 hz m5 so5 => ?_
    have a5 : ElI T h5 s vC bs v' (x ++ [0]) := ⟨a4.km.mv hsT m5, so5, psl_mv a4.ps hsT m5⟩
    obtain ⟨r0_, r1_⟩ := rdT a5.km
    obtain ⟨t, cap, ev, q1, q2, q3, q4, q5⟩ := a5.ps
    have hlv : pLen v' = some (.int .i64 (x ++ [0]).length) := by rw [ev]; rfl
    by_cases hz0 : z = 0
    · have hz0' : z = 0 := hz0
      by_cases hx0 : 0 < (x ++ [0]).length
      · have hx0' : ((x ++ [0]).length : Int) > 0 := by omega
        have hw := wr_one (v := .int .i64 p) (i := 0) q2 (by rw [pis_length]; exact hx0) rfl
        rw [pis_set] at hw
        have a6 : ElI T (h5.set t (pis ((x ++ [0]).set 0 p))) s vC bs v' ((x ++ [0]).set 0 p) := ⟨a5.km.set (by omega) _, a5.so.set (by omega) _, t, cap, by rw [List.length_set]; exact ev, by rw [List.length_set]; exact q1, by rw [pobj_set, if_pos rfl], by rw [pis_length, Nat.mul_one], q4, q5⟩
        subst ev
        have hx0'' : (0 : Int) < ((x ++ [0]).length : Int) := by omega
        simp only [pwA, if_true, if_false, eq_self, nm_eq, reduceCtorEq, ↓reduceIte, nQ10, nQ7, nQ11, nQ12, nQ16, nQ17, nQ18, iQ2, iQ3, iQ4, iQ5, iQ6, lQ19, iQ7, lQ20, hz0', decide_true, hx0', hx0'', r0_, hw]
        exact fin a6 (by rw [List.length_set]; simp; omega)
      · have hx0' : ¬ ((x ++ [0]).length : Int) > 0 := by omega
        simp only [pwA, if_true, if_false, eq_self, nm_eq, reduceCtorEq, ↓reduceIte, nQ10, nQ7, nQ11, nQ12, nQ16, nQ17, nQ18, iQ2, iQ3, iQ4, iQ5, iQ6, lQ19, iQ7, lQ20, hz0', decide_true, hlv, hx0', decide_false]
        exact fin a5 (by simp; omega)
    · have hz0' : ¬ z = 0 := hz0
      simp only [pwA, if_true, if_false, eq_self, nm_eq, reduceCtorEq, ↓reduceIte, nQ10, nQ7, nQ11, nQ12, nQ16, nQ17, nQ18, iQ2, iQ3, iQ4, iQ5, iQ6, lQ19, iQ7, lQ20, hz0', decide_false]
      exact fin a5 (by simp; omega)
  · have hy0' : ¬ y = 0 := hy0
    simp only [pwA, if_true, if_false, eq_self, nm_eq, reduceCtorEq, ↓reduceIte, nQ10, nQ7, nQ11, nQ12, nQ16, nQ17, nQ18, iQ2, iQ3, iQ4, iQ5, iQ6, lQ19, iQ7, lQ20, hy0', decide_false]
    refine l01Next_m a3.so (by decide) fun z h5 hz m5 so5 => ?_
    have a5 : ElI T h5 s vC bs v x := ⟨a3.km.mv hsT m5, so5, psl_mv a3.ps hsT m5⟩
    obtain ⟨r0_, r1_⟩ := rdT a5.km
    obtain ⟨t, cap, ev, q1, q2, q3, q4, q5⟩ := a5.ps
    have hlv : pLen v = some (.int .i64 (x).length) := by rw [ev]; rfl
    by_cases hz0 : z = 0
    · have hz0' : z = 0 := hz0
      by_cases hx0 : 0 < (x).length
      · have hx0' : ((x).length : Int) > 0 := by omega
        have hw := wr_one (v := .int .i64 p) (i := 0) q2 (by rw [pis_length]; exact hx0) rfl
        rw [pis_set] at hw
        have a6 : ElI T (h5.set t (pis ((x).set 0 p))) s vC bs v ((x).set 0 p) := ⟨a5.km.set (by omega) _, a5.so.set (by omega) _, t, cap, by rw [List.length_set]; exact ev, by rw [List.length_set]; exact q1, by rw [pobj_set, if_pos rfl], by rw [pis_length, Nat.mul_one], q4, q5⟩
        subst ev
        have hx0'' : (0 : Int) < ((x).length : Int) := by omega
        simp only [pwA, if_true, if_false, eq_self, nm_eq, reduceCtorEq, ↓reduceIte, nQ10, nQ7, nQ11, nQ12, nQ16, nQ17, nQ18, iQ2, iQ3, iQ4, iQ5, iQ6, lQ19, iQ7, lQ20, hz0', decide_true, hx0', hx0'', r0_, hw]
        exact fin a6 (by rw [List.length_set]; omega)
      · have hx0' : ¬ ((x).length : Int) > 0 := by omega
        simp only [pwA, if_true, if_false, eq_self, nm_eq, reduceCtorEq, ↓reduceIte, nQ10, nQ7, nQ11, nQ12, nQ16, nQ17, nQ18, iQ2, iQ3, iQ4, iQ5, iQ6, lQ19, iQ7, lQ20, hz0', decide_true, hlv, hx0', decide_false]
        exact fin a5 (by omega)
    · have hz0' : ¬ z = 0 := hz0
      simp only [pwA, if_true, if_false, eq_self, nm_eq, reduceCtorEq, ↓reduceIte, nQ10, nQ7, nQ11, nQ12, nQ16, nQ17, nQ18, iQ2, iQ3, iQ4, iQ5, iQ6, lQ19, iQ7, lQ20, hz0', decide_false]
      exact fin a5 (by omega)
end Go.Proofs
namespace Go.Proofs
open Go.Ab Go.Lie
variable {σ σ0 h h' : PHeap} {K : PV → PHeap → Prop} {vC vP vB : PV} {bs : List Int} {s b n r0 : Nat} {p : Int} {sP sB : Nat} {capP capB : Cap} {W : List (List Int)} {B : List (List (List Int))}
structure DrR (p : Int) (W : List (List Int)) (B : List (List (List Int))) : Prop where
  p : 1 ≤ p ∧ p ≤ 11
  wl : W.length ≤ 6
  bl : B.length ≤ 6
  sm : SmF W B
theorem DrR.sz (a : DrR p W B) : SzR W B := ⟨by have := a.wl; omega, fun r hr => by have := a.sm.w r hr; omega, by have := a.bl; omega, fun q hq => by have := a.sm.bl q hq; omega, fun q hq r hr => by have := a.sm.b q hq r hr; omega⟩
theorem pslice_one {cap : Cap} (hc : full 1 cap n) (hn : 1 ≤ n) : ∃ off cap', pslice 1 (.sl s 0 n cap) (some (.int .i64 1)) none none = some (.sl s off (n - 1) cap') ∧ (off = 1 ∨ (off = 0 ∧ n = 1)) ∧ ∀ c, cap' = .known c → n - 1 ≤ c := by
  have h1 : (0 : Int) ≤ 1 ∧ (1 : Int) ≤ (n : Int) := by omega
  rcases hc with rfl | rfl
  · refine ⟨1, .grown 1, ?_, .inl rfl, fun c e => by cases e⟩
    rw [pslice_grown]
    simp [pobound, pbound, h1]
  · rw [pslice_known]
    by_cases e : n = 1
    · subst e
      exact ⟨0, .known 0, by simp [pobound, pbound], .inr ⟨rfl, rfl⟩, fun c e => by omega⟩
    · refine ⟨1, .known (n - 1), ?_, .inl rfl, fun c e => by cases e; exact Nat.le_refl _⟩
      simp [pobound, pbound, h1, e]
theorem RS.finCut {off : Nat} {cap : Cap} {cs : List PV} {ls : List LS} (a : RS FI FI b h n sP capP cs sB capB ls W B) (hk : Keep σ h) (hb : σ.next ≤ b) (hn : 1 ≤ n) (hoff : off = 1 ∨ (off = 0 ∧ n = 1)) (hc : ∀ c, cap = .known c → n - 1 ≤ c) (k : ∀ vP vB, IsR vP vB W (B.drop 1) → K (.agg [.int .i64 p, vP, vB]) σ) : Gh σ K (.agg [.int .i64 p, .sl sP 0 n capP, .sl sB off (n - 1) cap]) h := by
  obtain ⟨p1, p2, p3, p4⟩ := a.P
  obtain ⟨q1, q2, q3, q4⟩ := a.Q
  have e1 := a.csl
  have e2 := a.lsl
  have et : (TR.agg [.leaf (.int .i64 p), .lst sP capP (cs.map TR.leaf), .cut sB off (n - 1) cap (ls.map LS.tr)]).pv = .agg [.int .i64 p, .sl sP 0 n capP, .sl sB off (n - 1) cap] := by
    simp only [TR.pv, TR.pvs, List.length_map]; rw [e1]
  rw [← et]
  refine Gh.treeF hk ⟨trivial, ⟨⟨by rw [List.length_map, e1]; exact p1, by rw [leafs_pvs]; exact p2, by omega, p4⟩, leafs_okF (a.aP.bI 0)⟩, ⟨⟨hc, by rw [LS.tr_pvs]; exact q2, by omega, q4, by rw [List.length_map, e2]; omega⟩, LS.trs_okF fun q hq => ?_⟩, trivial⟩ fun aa => k _ _ ⟨⟨true, .sl (aa sP) 0 cs.length capP, cs, ?_, a.aP⟩, ⟨false, .sl (aa sB) off (n - 1) cap, ((TR.fzs aa (ls.map LS.tr)).drop off).take (n - 1), ?_, ?_⟩⟩
  · obtain ⟨g1, g2, g3, g4⟩ := a.lok q hq
    refine ⟨⟨g1, g2, by omega, g4⟩, ?_⟩
    obtain ⟨k, hk9, rfl⟩ := List.mem_iff_getElem.1 hq
    exact (a.aB.2 k _ _ (List.getElem?_eq_getElem hk9) (List.getElem?_eq_getElem (by rw [← a.aB.1]; exact hk9))).bI 0
  · simp only [TR.fz, leafs_fzs, List.length_map]; rw [e1, a.lW]
  · simp only [TR.fz, List.length_drop]; rw [a.lB]
  · rcases hoff with rfl | ⟨rfl, rfl⟩
    · have := ((rowsOf_all2 (a := aa) a.aB).drop 1).take (n - 1)
      rw [List.take_of_length_le (l := B.drop 1) (by rw [List.length_drop, a.lB]; exact Nat.le_refl _)] at this
      exact this
    · rw [List.eq_nil_of_length_eq_zero (l := B.drop 1) (by rw [List.length_drop, a.lB])]
      exact All2.nil _
theorem l31Draw_ok (so : So σ s vC bs) (hk : ∀ p vP vB W B h, DrR p W B → IsR vP vB W B → Mv σ s h → So h s vC bs → K (.agg [.int .i64 p, vP, vB]) h) : PCalls Tryz.prog 206 [.ptr s 0] σ K := by
  have hsl := so.lt
  refine PCalls.gh ?_
  generalize hT : σ.new [.int .i64 0, .fz true .nils 0 [], .fz true .nils 0 []] = T
  have hTn : T.next = σ.next + 1 := by rw [← hT]; rfl
  have hkT : Keep σ T := by rw [← hT]; exact keep_new σ _
  have soT : So T s vC bs := so.keep hkT
  have hsT : s < T.next := soT.lt
  have obT : T.obj σ.next = some [.int .i64 0, .fz true .nils 0 [], .fz true .nils 0 []] := by rw [← hT]; simp only [pwA, if_true, if_false, eq_self, nm_eq, reduceCtorEq, ↓reduceIte, nQ10, nQ7, nQ11, nQ12, nQ16, nQ17, nQ18, iQ2, iQ3, iQ4, iQ5, iQ6, lQ19, iQ7, lQ20]
  have hres : ∀ {g : PHeap} {u0 u1 u2 : PV}, KM T s g → u0.one = true → u1.one = true → u2.one = true → g.wr σ.next 0 [u0, u1, u2] = some (g.set σ.next [u0, u1, u2]) ∧ (g.set σ.next [u0, u1, u2]).rd σ.next 0 3 = some [u0, u1, u2] := fun {g u0 u1 u2} k z0 z1 z2 => by
    have hres : g.obj σ.next = some [.int .i64 0, .fz true .nils 0 [], .fz true .nils 0 []] := by rw [k.obj (by omega) (by omega)]; exact obT
    exact ⟨by rw [obj_wr hres, if_pos ⟨by simp, by simp only [List.all_cons, List.all_nil, z0, z1, z2]; rfl⟩]; rfl, by rw [prd_set, if_pos rfl]; rfl⟩
  refine pcalls_of_vp mix Tryz.func206 cf206 rfl ?_
  dsimp only [if206, qI, eI, nI, qD, eD]
  simp only [pwA, if_true, if_false, eq_self, nm_eq, reduceCtorEq, ↓reduceIte, nQ10, nQ7, nQ11, nQ12, nQ16, nQ17, nQ18, iQ2, iQ3, iQ4, iQ5, iQ6, lQ19, iQ7, lQ20]
  rw [hT]
  refine l31Good_ok soT fun p n sP capP cs sB capB ls h1 W B hp hn1 hpow hF km1 so1 rs1 => ?_
  have hn6 := hF.w.le
  have hpb := hp.bd
  have hp27 : 2 ≤ p ∧ p ≤ 7 := by omega
  have h01 := km1.next
  have gs : GS E0 FI (OkF p n) T (h1.new [.int .i64 p, .sl sP 0 n capP, .sl sB 0 n capB]) s vC bs h1.next p n sP capP sB capB :=
    ⟨km1.new _, so1.keep (keep_new _ _), hsT, by rw [pobj_new, if_pos rfl], ⟨by omega, Nat.lt_succ_self _⟩, ⟨cs, ls, W, B, rs1.new _, hF, fun t ht e => by have := (rs1.lt ht).2; omega, fun u x e => e.elim⟩, fun u x e => e.elim⟩
  clear rs1 hF W B cs ls
  have fin : ∀ {g : PHeap} {q : Int}, 1 ≤ q ∧ q ≤ 11 → GS E0 FI SmF T g s vC bs h1.next q n sP capP sB capB → g.rd h1.next 0 3 = some [.int .i64 q, .sl sP 0 n capP, .sl sB 0 n capB] ∧ g.wr σ.next 0 [.int .i64 q, .sl sP 0 n capP, .sl sB 0 n capB] = some (g.set σ.next [.int .i64 q, .sl sP 0 n capP, .sl sB 0 n capB])
      ∧ (g.set σ.next [.int .i64 q, .sl sP 0 n capP, .sl sB 0 n capB]).rd σ.next 0 3 = some [.int .i64 q, .sl sP 0 n capP, .sl sB 0 n capB] ∧ Gh σ K (.agg [.int .i64 q, .sl sP 0 n capP, .sl sB 0 n capB]) (g.set σ.next [.int .i64 q, .sl sP 0 n capP, .sl sB 0 n capB]) := fun {g q} hq a => by
    obtain ⟨x1, x2⟩ := hres (u0 := .int .i64 q) (u1 := .sl sP 0 n capP) (u2 := .sl sB 0 n capB) a.km rfl rfl rfl
    refine ⟨a.rd.1, x1, x2, ?_⟩
    obtain ⟨cs, ls, W, B, rs, f, ne, _⟩ := a.rs
    refine Gh.km (((so.kmK hkT).trans hsl a.km).set (Nat.le_refl _) _) (a.so.set (by omega) _) hsl fun σ' m' so' kp => ?_
    refine RS.fin ((rs.low (b' := σ'.next) (by rw [m'.next]; omega)).move (fun t ht => ?_) (Nat.le_refl _)) kp (Nat.le_refl _) fun vP vB hR => hk q vP vB W B σ' ⟨hq, by rw [rs.lW]; exact hn6, by rw [rs.lB]; exact hn6, f⟩ hR m' so'
    have := (rs.lt ht).1
    rw [pobj_set, if_neg (by omega)]
  have rowB : ∀ {W : List (List Int)} {B : List (List (List Int))} {i : Nat}, OkF p n W B → i < n → (B.getD i []).length = n - 1 - i := fun {W B i} q hi => by
    have h1 : i < B.length := by rw [q.b.len]; exact hi
    rw [getD_row' h1]; exact q.b.row i h1
  simp only [pwA, if_true, if_false, eq_self, nm_eq, reduceCtorEq, ↓reduceIte, nQ10, nQ7, nQ11, nQ12, nQ16, nQ17, nQ18, iQ2, iQ3, iQ4, iQ5, iQ6, lQ19, iQ7, lQ20]
  generalize h1.new [PV.int .i64 p, .sl sP 0 n capP, .sl sB 0 n capB] = g1 at *
  have h1b : σ.next < h1.next := by omega
  generalize h1.next = r0 at *
  refine l01Next_m gs.so (by omega) fun i0 g2 hi0 m2 so2 => ?_
  have gs2 := gs.mv m2 so2
  have i00 := hi0.1
  have i0n := hi0.lt (by omega)
  obtain ⟨i, rfl⟩ : ∃ i : Nat, i0 = i := ⟨i0.toNat, by omega⟩
  have hin : i < n := by omega
  have wi1 : IntKind.i64.wrap ((i : Int) + 1) = ((i + 1 : Nat) : Int) := by rw [wrap64 (by omega) (by omega)]; omega
  have wi2 : IntKind.i64.wrap ((i : Int) + 2) = ((i + 2 : Nat) : Int) := by rw [wrap64 (by omega) (by omega)]; omega
  have wi0 : IntKind.i64.wrap (i : Int) = (i : Int) := by rw [wrap64 (by omega) (by omega)]
  simp only [pwA, if_true, if_false, eq_self, nm_eq, reduceCtorEq, ↓reduceIte, nQ10, nQ7, nQ11, nQ12, nQ16, nQ17, nQ18, iQ2, iQ3, iQ4, iQ5, iQ6, lQ19, iQ7, lQ20, wi0]
  refine l01Next_m gs2.so (by decide) fun kd g3 hkd m3 so3 => ?_
  have gs3 := gs2.mv m3 so3
  clear gs gs2
  have kd0 := hkd.1
  by_cases e0 : kd = 0
  · subst e0
    have so4 := gs3.so
    simp only [pwA, if_true, if_false, eq_self, nm_eq, reduceCtorEq, ↓reduceIte, nQ10, nQ7, nQ11, nQ12, nQ16, nQ17, nQ18, iQ2, iQ3, iQ4, iQ5, iQ6, lQ19, iQ7, lQ20]
    refine l01Next_m (gs3.new _).so (by decide) fun y g4 hy m4 so5 => ?_
    have gs4 := (gs3.new _).mv m4 so5
    have y0 := hy.1
    have y5 := hy.lt (by decide)
    have hT3 := gs3.km.next
    have ob : g4.obj g3.next = some (pis [1, 4, 11, 7, 2]) := by rw [m4.obj (by omega), pobj_new, if_pos rfl]; rfl
    obtain ⟨k, rfl⟩ : ∃ k : Nat, y = k := ⟨y.toNat, by omega⟩
    have hk5 : k < 5 := by omega
    obtain ⟨q, hq, hr⟩ : ∃ q : Int, (1 ≤ q ∧ q ≤ 11) ∧ g4.rd1 g3.next k = some (.int .i64 q) := by
      have e : k = 0 ∨ k = 1 ∨ k = 2 ∨ k = 3 ∨ k = 4 := by omega
      rcases e with rfl | rfl | rfl | rfl | rfl
      · exact ⟨1, by decide, by rw [obj_rd1 ob]; rfl⟩
      · exact ⟨4, by decide, by rw [obj_rd1 ob]; rfl⟩
      · exact ⟨11, by decide, by rw [obj_rd1 ob]; rfl⟩
      · exact ⟨7, by decide, by rw [obj_rd1 ob]; rfl⟩
      · exact ⟨2, by decide, by rw [obj_rd1 ob]; rfl⟩
    obtain ⟨g5, w5, gs5⟩ := gs4.setp q
    have a := gs5.imp fun W B f => f.sm
    simp only [pwA, if_true, if_false, eq_self, nm_eq, reduceCtorEq, ↓reduceIte, nQ10, nQ7, nQ11, nQ12, nQ16, nQ17, nQ18, iQ2, iQ3, iQ4, iQ5, iQ6, lQ19, iQ7, lQ20, hr, hk5, w5]
    obtain ⟨e1, e2, e3, e4⟩ := fin hq a
    simp only [pwA, if_true, if_false, eq_self, nm_eq, reduceCtorEq, ↓reduceIte, nQ10, nQ7, nQ11, nQ12, nQ16, nQ17, nQ18, iQ2, iQ3, iQ4, iQ5, iQ6, lQ19, iQ7, lQ20, e1, e2, e3]
    exact e4
  have hq : 1 ≤ p ∧ p ≤ 11 := by omega
  by_cases e1 : kd = 1
  · subst e1
    obtain ⟨f3, f0, f1, f2⟩ := gs3.rd
    simp only [pwA, if_true, if_false, eq_self, nm_eq, reduceCtorEq, ↓reduceIte, nQ10, nQ7, nQ11, nQ12, nQ16, nQ17, nQ18, iQ2, iQ3, iQ4, iQ5, iQ6, lQ19, iQ7, lQ20, f3, f1, wi1]
    refine l31Tail_fz (vP := .sl sP 0 n capP) (vB := .sl sB 0 n capB) (n := n) (k := i + 1) gs3.so hp27 rfl rfl rfl (by omega) (by omega) fun v x g4 hx hz hv m4 so4 => ?_
    have gs4 := gs3.mv m4 so4
    obtain ⟨p3, p0, p1, p2⟩ := gs4.rd
    have hxl := hx.1
    obtain ⟨g5, w5, a⟩ := gs4.putP (F' := SmF) (i := i) (w := x) hin hv (fun W B q => q.sm.setP (by omega))
    simp only [pwA, if_true, if_false, eq_self, nm_eq, reduceCtorEq, ↓reduceIte, nQ10, nQ7, nQ11, nQ12, nQ16, nQ17, nQ18, iQ2, iQ3, iQ4, iQ5, iQ6, lQ19, iQ7, lQ20, p1, w5, hv.cells, hin, wi1]
    obtain ⟨e1, e2, e3, e4⟩ := fin hq a
    simp only [pwA, if_true, if_false, eq_self, nm_eq, reduceCtorEq, ↓reduceIte, nQ10, nQ7, nQ11, nQ12, nQ16, nQ17, nQ18, iQ2, iQ3, iQ4, iQ5, iQ6, lQ19, iQ7, lQ20, e1, e2, e3]
    exact e4
  by_cases e2 : kd = 2
  · subst e2
    obtain ⟨f3, f0, f1, f2⟩ := gs3.rd
    simp only [pwA, if_true, if_false, eq_self, nm_eq, reduceCtorEq, ↓reduceIte, nQ10, nQ7, nQ11, nQ12, nQ16, nQ17, nQ18, iQ2, iQ3, iQ4, iQ5, iQ6, lQ19, iQ7, lQ20, f3, f1]
    refine l31Tail_fz (vP := .sl sP 0 n capP) (vB := .sl sB 0 n capB) (n := n) (k := i) gs3.so hp27 rfl rfl rfl (by omega) (by omega) fun v x g4 hx hz hv m4 so4 => ?_
    have gs4 := gs3.mv m4 so4
    obtain ⟨p3, p0, p1, p2⟩ := gs4.rd
    have hxl := hx.1
    obtain ⟨g5, w5, a⟩ := gs4.putP (F' := SmF) (i := i) (w := x) hin hv (fun W B q => q.sm.setP (by omega))
    simp only [pwA, if_true, if_false, eq_self, nm_eq, reduceCtorEq, ↓reduceIte, nQ10, nQ7, nQ11, nQ12, nQ16, nQ17, nQ18, iQ2, iQ3, iQ4, iQ5, iQ6, lQ19, iQ7, lQ20, p1, w5, hv.cells, hin]
    obtain ⟨e1, e2, e3, e4⟩ := fin hq a
    simp only [pwA, if_true, if_false, eq_self, nm_eq, reduceCtorEq, ↓reduceIte, nQ10, nQ7, nQ11, nQ12, nQ16, nQ17, nQ18, iQ2, iQ3, iQ4, iQ5, iQ6, lQ19, iQ7, lQ20, e1, e2, e3]
    exact e4
  by_cases e3 : kd = 3
  · subst e3
    obtain ⟨f3, f0, f1, f2⟩ := gs3.rd
    obtain ⟨t, c, rB⟩ := gs3.rdB hin (fun W B q => rowB q hin)
    have hsB := gs3.sBb
    by_cases hl0 : 0 < n - 1 - i
    · have hl0' : (0 : Int) < ((n - 1 - i : Nat) : Int) := by omega
      have hl0'' : ((n - 1 - i : Nat) : Int) > 0 := by omega
      simp only [pwA, if_true, if_false, eq_self, nm_eq, reduceCtorEq, ↓reduceIte, nQ10, nQ7, nQ11, nQ12, nQ16, nQ17, nQ18, iQ2, iQ3, iQ4, iQ5, iQ6, lQ19, iQ7, lQ20, f3, f2, rB, hin, hl0', hl0'', decide_true, wi2]
      refine l31Tail_fz (vP := .sl sP 0 n capP) (vB := .sl sB 0 n capB) (n := n) (k := i + 2) gs3.so hp27 rfl rfl rfl (by omega) (by omega) fun v x g4 hx hz hv m4 so4 => ?_
      have gs4 := gs3.mv m4 so4
      obtain ⟨p3, p0, p1, p2⟩ := gs4.rd
      have hxl := hx.1
      have rB' : g4.rd1 sB i = some (.sl t 0 (n - 1 - i) c) := by rw [m4.rd1 (by omega)]; exact rB
      obtain ⟨g5, w5, a, _⟩ := gs4.putB (F' := SmF) (i := i) (k := 0) (w := x) hin rB' hl0 (fun _ _ h => h) hv hv.one (fun W B hB q => q.sm.setB hB (by omega))
      simp only [pwA, if_true, if_false, eq_self, nm_eq, reduceCtorEq, ↓reduceIte, nQ10, nQ7, nQ11, nQ12, nQ16, nQ17, nQ18, iQ2, iQ3, iQ4, iQ5, iQ6, lQ19, iQ7, lQ20, p2, rB', w5, hv.cells, hin, hl0']
      obtain ⟨e1, e2, e3, e4⟩ := fin hq a
      simp only [pwA, if_true, if_false, eq_self, nm_eq, reduceCtorEq, ↓reduceIte, nQ10, nQ7, nQ11, nQ12, nQ16, nQ17, nQ18, iQ2, iQ3, iQ4, iQ5, iQ6, lQ19, iQ7, lQ20, e1, e2, e3]
      exact e4
    · have hl0'' : ¬ ((n - 1 - i : Nat) : Int) > 0 := by omega
      have a := gs3.imp fun W B f => f.sm
      simp only [pwA, if_true, if_false, eq_self, nm_eq, reduceCtorEq, ↓reduceIte, nQ10, nQ7, nQ11, nQ12, nQ16, nQ17, nQ18, iQ2, iQ3, iQ4, iQ5, iQ6, lQ19, iQ7, lQ20, f2, rB, hin, hl0'', decide_false]
      obtain ⟨e1, e2, e3, e4⟩ := fin hq a
      simp only [pwA, if_true, if_false, eq_self, nm_eq, reduceCtorEq, ↓reduceIte, nQ10, nQ7, nQ11, nQ12, nQ16, nQ17, nQ18, iQ2, iQ3, iQ4, iQ5, iQ6, lQ19, iQ7, lQ20, e1, e2, e3]
      exact e4
  by_cases e4 : kd = 4
  · subst e4
    obtain ⟨f3, f0, f1, f2⟩ := gs3.rd
    obtain ⟨cs, ls, W, B, rs, f, ne, _⟩ := gs3.rs
    obtain ⟨off, cap', z1, z2, z3⟩ := pslice_one (s := sB) rs.Q.1 hn1
    have w5 := wr_one (v := .sl sB off (n - 1) cap') (i := 2) gs3.obj (by simp) rfl
    simp only [List.set_cons_succ, List.set_cons_zero] at w5
    have hr0 := gs3.r0b
    have hsl3 := gs3.sl
    have km5 : KM T s (g3.set r0 [.int .i64 p, .sl sP 0 n capP, .sl sB off (n - 1) cap']) := gs3.km.set gs3.r0b.1 _
    obtain ⟨x1, x2⟩ := hres (u0 := .int .i64 p) (u1 := .sl sP 0 n capP) (u2 := .sl sB off (n - 1) cap') km5 rfl rfl rfl
    have x0 : (g3.set r0 [.int .i64 p, .sl sP 0 n capP, .sl sB off (n - 1) cap']).rd r0 0 3 = some [.int .i64 p, .sl sP 0 n capP, .sl sB off (n - 1) cap'] := by rw [prd_set, if_pos rfl]; rfl
    have so5 : So (g3.set r0 [.int .i64 p, .sl sP 0 n capP, .sl sB off (n - 1) cap']) s vC bs := gs3.so.set (by omega) _
    have rs5 := rs.move (h' := g3.set r0 [.int .i64 p, .sl sP 0 n capP, .sl sB off (n - 1) cap']) (fun t ht => by rw [pobj_set, if_neg (Ne.symm (ne t ht))]) (Nat.le_refl _)
    simp only [pwA, if_true, if_false, eq_self, nm_eq, reduceCtorEq, ↓reduceIte, nQ10, nQ7, nQ11, nQ12, nQ16, nQ17, nQ18, iQ2, iQ3, iQ4, iQ5, iQ6, lQ19, iQ7, lQ20, f2, z1, w5]
    generalize g3.set r0 [.int .i64 p, .sl sP 0 n capP, .sl sB off (n - 1) cap'] = g5 at *
    simp only [pwA, if_true, if_false, eq_self, nm_eq, reduceCtorEq, ↓reduceIte, nQ10, nQ7, nQ11, nQ12, nQ16, nQ17, nQ18, iQ2, iQ3, iQ4, iQ5, iQ6, lQ19, iQ7, lQ20, x0, x1, x2]
    refine Gh.km (((so.kmK hkT).trans hsl km5).set (Nat.le_refl _) _) (so5.set (by omega) _) hsl fun σ' m' so' kp => ?_
    refine RS.finCut ((rs5.low (b' := σ'.next) (by rw [m'.next]; omega)).move (fun t ht => ?_) (Nat.le_refl _)) kp (Nat.le_refl _) hn1 z2 z3 fun vP vB hR => hk p vP vB W _ σ' ⟨hq, by rw [rs.lW]; exact hn6, by rw [List.length_drop, rs.lB]; omega, f.sm.w, fun q hq => f.sm.bl q (List.mem_of_mem_drop hq), fun q hq => f.sm.b q (List.mem_of_mem_drop hq)⟩ hR m' so'
    have := (rs5.lt ht).1
    rw [pobj_set, if_neg (by omega)]
  by_cases e5 : kd = 5
  · subst e5
    have hr0 := gs3.r0b
    have w5 : g3.wr r0 0 [.int .i64 3, .fz true .nils 0 [], .fz true .nils 0 []] = some (g3.set r0 [.int .i64 3, .fz true .nils 0 [], .fz true .nils 0 []]) := by rw [obj_wr gs3.obj, if_pos ⟨by simp, by rfl⟩]; rfl
    have km5 : KM T s (g3.set r0 [.int .i64 3, .fz true .nils 0 [], .fz true .nils 0 []]) := gs3.km.set gs3.r0b.1 _
    obtain ⟨x1, x2⟩ := hres (u0 := .int .i64 3) (u1 := .fz true .nils 0 []) (u2 := .fz true .nils 0 []) km5 rfl rfl rfl
    have x0 : (g3.set r0 [.int .i64 3, .fz true .nils 0 [], .fz true .nils 0 []]).rd r0 0 3 = some [.int .i64 3, .fz true .nils 0 [], .fz true .nils 0 []] := by rw [prd_set, if_pos rfl]; rfl
    have so5 : So (g3.set r0 [.int .i64 3, .fz true .nils 0 [], .fz true .nils 0 []]) s vC bs := gs3.so.set (by omega) _
    simp only [pwA, if_true, if_false, eq_self, nm_eq, reduceCtorEq, ↓reduceIte, nQ10, nQ7, nQ11, nQ12, nQ16, nQ17, nQ18, iQ2, iQ3, iQ4, iQ5, iQ6, lQ19, iQ7, lQ20, w5]
    generalize g3.set r0 [.int .i64 3, .fz true .nils 0 [], .fz true .nils 0 []] = g5 at *
    simp only [pwA, if_true, if_false, eq_self, nm_eq, reduceCtorEq, ↓reduceIte, nQ10, nQ7, nQ11, nQ12, nQ16, nQ17, nQ18, iQ2, iQ3, iQ4, iQ5, iQ6, lQ19, iQ7, lQ20, x0, x1, x2]
    refine Gh.km (((so.kmK hkT).trans hsl km5).set (Nat.le_refl _) _) (so5.set (by omega) _) hsl fun σ' m' so' kp => ?_
    exact Gh.fin0 kp ⟨trivial, trivial, trivial, trivial⟩ (hk 3 _ _ [] [] σ' ⟨by decide, by decide, by decide, ⟨fun r hr => (by cases hr), fun r hr => (by cases hr), fun r hr => (by cases hr)⟩⟩ ⟨⟨true, .nils, [], rfl, All2.nil _⟩, ⟨true, .nils, [], rfl, All2.nil _⟩⟩ m' so')
  have a := gs3.imp fun W B f => f.sm
  simp only [pwA, if_true, if_false, eq_self, nm_eq, reduceCtorEq, ↓reduceIte, nQ10, nQ7, nQ11, nQ12, nQ16, nQ17, nQ18, iQ2, iQ3, iQ4, iQ5, iQ6, lQ19, iQ7, lQ20, e0, e1, e2, e3, e4, e5]
  obtain ⟨e1, e2, e3, e4⟩ := fin hq a
  simp only [pwA, if_true, if_false, eq_self, nm_eq, reduceCtorEq, ↓reduceIte, nQ10, nQ7, nQ11, nQ12, nQ16, nQ17, nQ18, iQ2, iQ3, iQ4, iQ5, iQ6, lQ19, iQ7, lQ20, e1, e2, e3]
  exact e4
end Go.Proofs
namespace Go.Proofs
open Go.Ab Go.Lie
variable {σ σ0 h h' : PHeap} {K : PV → PHeap → Prop} {vC vP vB : PV} {bs : List Int} {s b n r0 : Nat} {p : Int} {W : List (List Int)} {B : List (List (List Int))}
theorem push_ks {T h : PHeap} {n t l : Nat} {v : PV} {cs : List PV} {cap : Cap} {x : List Int} {K : PV × PHeap → Prop} (w : PWF T) (so : So h s vC bs) (hs : s < T.next) (km : KM T s h) (a : PSl T.next 1 h v n cs)
    (h1 : (n + 1) * 24 ≤ 140737488355328) (h2 : n + 1 ≤ 4611686018427387904) (hx : h.obj t = some (pis x)) (ht : T.next ≤ t) (htl : t < h.next) (hne : ∀ off l c, v ≠ .sl t off l c) (hc : capOK cap l = true) (hb : Bels 0 cs)
    (k : ∀ v' h', h'.obj t = some (pis x) → (∀ o, KM T s ((h'.kill t).sub t o (pis x)) ∧ So ((h'.kill t).sub t o (pis x)) s vC bs ∧ PSl T.next 1 ((h'.kill t).sub t o (pis x)) v' (n + 1) (cs ++ [.fz true (.sl o 0 l cap) l (pis x)]) ∧ sb t o (pis x) v' = v' ∧ (∀ u ds, u ≠ t → Bels 0 ds → h'.obj u = some ds → ((h'.kill t).sub t o (pis x)).obj u = some ds)) →
      KM T s h' → K (v', h')) : optK (pappend 1 24 (h.new [.sl t 0 l cap]) v (.sl h.next 0 1 (.known 1))) K := by
  have km0 := km
  obtain ⟨σ', m, q⟩ := km
  have hn := m.next
  have so' : So σ' s vC bs := by
    obtain ⟨a0, sd0, S⟩ := so
    exact ⟨a0, sd0, by rw [← q.obj s (by omega)]; exact S.obj, by omega, S.fb, S.byt, S.le, S.sd⟩
  have w' : PWF σ' := by
    obtain ⟨c0, c1, g0, g1, rfl⟩ := m
    exact PWF.setS w g0 g1
  refine PAcc.pushS (bytes := 24) (σb := σ') q (by rw [hn]; exact a.acc) rfl h1 h2 fun v' h' k1 a1 o1 n1 l1 => ?_
  refine k v' h' (by rw [o1 t htl hne]; exact hx) (fun o => ?_) ⟨σ', m, k1⟩
  have f := PSl.fzr w' k1 a1 (s := t) (cs := pis x) (by omega) (n1 t htl) o
  refine ⟨⟨σ', m, f.1⟩, so'.keep f.1, ?_, f.2.2, fun u ds hu hd ho => ?_⟩
  · have := f.2.1
    rw [sbs_row hb hc, hn] at this
    exact this
  · have := sub_obj (o := o) (xs := pis x) hu ho
    rw [sbs_bel (Nat.zero_le _) hd] at this
    exact this
theorem l32Gens_ok (so : So σ s vC bs) (hR : IsR vP vB W B) (hp : -4611686018427387904 ≤ p ∧ p ≤ 4611686018427387904) (hl : W.length ≤ 1048000)
    (hk : ∀ v xs h, FII v xs → xs.length ≤ 3 → (∀ x ∈ xs, x.length ≤ W.length + 1) → Mv σ s h → So h s vC bs → K v h) : PCalls Tryz.prog 207 [.ptr s 0, .agg [.int .i64 p, vP, vB]] σ K := by
  have g1 := hR.P.one
  have g2 := hR.B.one
  have hsl := so.lt
  refine PCalls.pwf fun w => PCalls.gh ?_
  generalize hT : σ.new [.int .i64 p, vP, vB] = T
  have hTn : T.next = σ.next + 1 := by rw [← hT]; rfl
  have hkT : Keep σ T := by rw [← hT]; exact keep_new σ _
  have soT : So T s vC bs := so.keep hkT
  have hsT : s < T.next := soT.lt
  have wT : PWF T := by rw [← hT]; exact w.newB ⟨trivial, hR.P.bel _, hR.B.bel _, trivial⟩
  have obT : T.obj σ.next = some [.int .i64 p, vP, vB] := by rw [← hT]; simp only [pwA, if_true, if_false, eq_self, nm_eq, reduceCtorEq, ↓reduceIte, nQ10, nQ7, nQ11, nQ12, nQ16, nQ17, nQ18, iQ2, iQ3, iQ4, iQ5, iQ6, lQ19, iQ7, lQ20]
  have rdT : ∀ {g : PHeap}, KM T s g → g.rd σ.next 0 3 = some [.int .i64 p, vP, vB] := fun {g} k => by
    have ob := k.obj (t := σ.next) (by omega) (by omega)
    rw [obT] at ob
    rw [obj_rd ob]; rfl
  refine pcalls_of_vp mix Tryz.func207 cf207 rfl ?_
  dsimp only [if207, qI, eI, nI, qD, eD]
  simp only [pwA, if_true, if_false, eq_self, nm_eq, reduceCtorEq, ↓reduceIte, nQ10, nQ7, nQ11, nQ12, nQ16, nQ17, nQ18, iQ2, iQ3, iQ4, iQ5, iQ6, lQ19, iQ7, lQ20, g1, g2]
  rw [hT]
  refine l01Next_m (soT.keep (keep_new _ _)) (by decide) fun c h0 hc m0 so0 => ?_
  have hc0 := hc.1
  have hc1 : c < 4 := hc.2.2 (by decide)
  obtain ⟨k0, rfl⟩ := Int.eq_ofNat_of_zero_le hc0
  simp only [pwA, if_true, if_false, eq_self, nm_eq, reduceCtorEq, ↓reduceIte, nQ10, nQ7, nQ11, nQ12, nQ16, nQ17, nQ18, iQ2, iQ3, iQ4, iQ5, iQ6, lQ19, iQ7, lQ20]
  refine vp_loopG (fun m us h => ∃ (k : Nat) (v : PV) (xs : List (List Int)) (rows : List PV), m = k ∧ k + xs.length ≤ 3 ∧ us = [.ptr s 0, .ptr σ.next 0, v, .int .i64 k] ∧ KM T s h ∧ So h s vC bs ∧ PSl T.next 1 h v xs.length rows ∧ All2 FI rows xs ∧ ∀ x ∈ xs, x.length ≤ W.length + 1) k0 ?_ ?_
  · refine .here ⟨k0, .sl T.next 0 0 (.known 0), [], [], rfl, by simp; omega, by first | (rw [hTn]; rfl) | rfl, ((soT.kmK (keep_new _ _)).mv hsT m0), so0, psl_mv (PSl.new _ 1 rfl (Nat.le_refl _)) hsT m0, All2.nil _, fun x hx => by cases hx⟩
  rintro m us h ⟨k, v, xs, rows, rfl, hkx, rfl, km, so1, ps, hrows, hxl⟩
  have r3 := rdT km
  simp only [pwA, if_true, if_false, eq_self, nm_eq, reduceCtorEq, ↓reduceIte, nQ10, nQ7, nQ11, nQ12, nQ16, nQ17, nQ18, iQ2, iQ3, iQ4, iQ5, iQ6, lQ19, iQ7, lQ20]
  by_cases hk0 : m = 0
  · subst hk0
    have hk0' : ¬ ((0 : Nat) : Int) > 0 := by omega
    simp only [pwA, if_true, if_false, eq_self, nm_eq, reduceCtorEq, ↓reduceIte, nQ10, nQ7, nQ11, nQ12, nQ16, nQ17, nQ18, iQ2, iQ3, iQ4, iQ5, iQ6, lQ19, iQ7, lQ20, hk0']
    refine Gh.km ((so.kmK hkT).trans hsl km) so1 hsl fun σ' m' so' kp => ?_
    obtain ⟨t, cap, rfl, hcp, q2, q3, q4, q5⟩ := ps
    exact Gh.finF (s := t) kp q2 (by rw [m'.next]; omega) (hrows.bI 0) hcp.ok fun o => hk _ xs σ' ⟨_, _, _, rfl, hrows⟩ (by omega) hxl m' so'
  have hkp : (m : Int) > 0 := by omega
  have hkp' : (0 : Int) < (m : Int) := hkp
  simp only [pwA, if_true, if_false, eq_self, nm_eq, reduceCtorEq, ↓reduceIte, nQ10, nQ7, nQ11, nQ12, nQ16, nQ17, nQ18, iQ2, iQ3, iQ4, iQ5, iQ6, lQ19, iQ7, lQ20, hkp, hkp', r3]
  refine l31Element_sl so1 hR hp (by omega) fun x h2 cap hcap hx m2 so2 => ?_
  simp only [pwA, if_true, if_false, eq_self, nm_eq, reduceCtorEq, ↓reduceIte, nQ10, nQ7, nQ11, nQ12, nQ16, nQ17, nQ18, iQ2, iQ3, iQ4, iQ5, iQ6, lQ19, iQ7, lQ20]
  have hn2 : h.next = h2.next := m2.next.symm
  have hTh := km.next
  refine vp_loop (fun mm us h3 => ∃ (i : Nat) (y : List Int), i ≤ x.length ∧ mm = x.length - i ∧ us = [.ptr s 0, .ptr σ.next 0, v, .int .i64 m, .sl h.next 0 x.length cap, .int .i64 i] ∧ y.length = x.length ∧ KM T s h3 ∧ So h3 s vC bs ∧ PSl T.next 1 h3 v xs.length rows ∧ h3.obj h.next = some (pis y) ∧ h.next < h3.next ∧ (∀ off l c, v ≠ .sl h.next off l c)) x.length ?_ ?_
  · refine ⟨0, x, Nat.zero_le _, rfl, rfl, rfl, (km.mv hsT m2).new _, so2.keep (keep_new _ _), (psl_mv ps hsT m2).keep (keep_new _ _), by rw [pobj_new, if_pos hn2], by rw [hn2]; exact Nat.lt_succ_self _, fun off l c e => ?_⟩
    obtain ⟨t, cap, rfl, hcp, q2, q3, q4, q5⟩ := ps
    cases e
    omega
  rintro mm us h3 ⟨i, y, hi, rfl, rfl, hyl, km3, so3, ps3, o3, lt3, ne3⟩
  have fin : ∀ {g : PHeap} {Q : PV × PHeap → Prop}, KM T s g → So g s vC bs → PSl T.next 1 g v xs.length rows → g.obj h.next = some (pis y) → h.next < g.next → (∀ off l c, v ≠ .sl h.next off l c) →
      (∀ v' h', GL (fun us h => ∃ (k : Nat) (v : PV) (xs : List (List Int)) (rows : List PV), m - 1 = k ∧ k + xs.length ≤ 3 ∧ us = [.ptr s 0, .ptr σ.next 0, v, .int .i64 k] ∧ KM T s h ∧ So h s vC bs ∧ PSl T.next 1 h v xs.length rows ∧ All2 FI rows xs ∧ ∀ x ∈ xs, x.length ≤ W.length + 1) [.ptr s 0, .ptr σ.next 0, v', .int .i64 ((m - 1 : Nat) : Int)] h' → Q (v', h')) →
      optK (pappend 1 24 (g.new [.sl h.next 0 x.length cap]) v (.sl g.next 0 1 (.known 1))) Q := by
    intro g Q kg sg pg og lg ng hQ
    refine push_ks wT sg hsT kg pg (by omega) (by omega) og (by omega) lg ng hcap.ok (hrows.bI 0) fun v' h' ho hfr _ => ?_
    refine hQ v' h' (.fzh h.next _ ho (pis_bel _ _) fun o => ?_)
    obtain ⟨f1, f2, f3, f4, _⟩ := hfr o
    refine .here ⟨m - 1, v', xs ++ [y], _, rfl, by simp; omega, by simp only [sbs, sb, f4], f1, f2, by rw [List.length_append]; exact f3, hrows.snoc ⟨true, .sl o 0 x.length cap, by rw [hyl]⟩, fun z hz => ?_⟩
    rcases List.mem_append.1 hz with e | e
    · exact hxl z e
    · rw [List.mem_singleton.1 e, hyl]; exact hx
  have wk : IntKind.i64.wrap ((m : Int) - 1) = ((m - 1 : Nat) : Int) := by rw [wrap64 (by omega) (by omega)]; omega
  by_cases hlt : i < x.length
  rotate_left
  · have hlt' : ¬ (i : Int) < (x.length : Int) := by omega
    simp only [pwA, if_true, if_false, eq_self, nm_eq, reduceCtorEq, ↓reduceIte, nQ10, nQ7, nQ11, nQ12, nQ16, nQ17, nQ18, iQ2, iQ3, iQ4, iQ5, iQ6, lQ19, iQ7, lQ20, hlt', decide_false, wk]
    refine fin km3 so3 ps3 o3 lt3 ne3 fun v' h' gl => ?_
    simp only [pwA, if_true, if_false, eq_self, nm_eq, reduceCtorEq, ↓reduceIte, nQ10, nQ7, nQ11, nQ12, nQ16, nQ17, nQ18, iQ2, iQ3, iQ4, iQ5, iQ6, lQ19, iQ7, lQ20, wk]
    exact ⟨m - 1, by omega, gl⟩
  have hlt' : (i : Int) < (x.length : Int) := by omega
  have wi1 : IntKind.i64.wrap ((i : Int) + 1) = ((i + 1 : Nat) : Int) := wrapS hlt (by omega)
  simp only [pwA, if_true, if_false, eq_self, nm_eq, reduceCtorEq, ↓reduceIte, nQ10, nQ7, nQ11, nQ12, nQ16, nQ17, nQ18, iQ2, iQ3, iQ4, iQ5, iQ6, lQ19, iQ7, lQ20, hlt', hlt, decide_true]
  refine l01Next_m so3 (by decide) fun z h4 hz m4 so4 => ?_
  have km4 := km3.mv hsT m4
  have ps4 := psl_mv ps3 hsT m4
  have o4 : h4.obj h.next = some (pis y) := by rw [m4.obj (by omega)]; exact o3
  have lt4 : h.next < h4.next := by rw [m4.next]; exact lt3
  by_cases hz0 : z = 0
  rotate_left
  · simp only [pwA, if_true, if_false, eq_self, nm_eq, reduceCtorEq, ↓reduceIte, nQ10, nQ7, nQ11, nQ12, nQ16, nQ17, nQ18, iQ2, iQ3, iQ4, iQ5, iQ6, lQ19, iQ7, lQ20, hz0, decide_false, wk]
    refine fin km4 so4 ps4 o4 lt4 ne3 fun v' h' gl => ?_
    simp only [pwA, if_true, if_false, eq_self, nm_eq, reduceCtorEq, ↓reduceIte, nQ10, nQ7, nQ11, nQ12, nQ16, nQ17, nQ18, iQ2, iQ3, iQ4, iQ5, iQ6, lQ19, iQ7, lQ20, wk]
    exact ⟨m - 1, by omega, gl⟩
  have hw := wr_one (v := .int .i64 0) (i := i) o4 (by rw [pis_length, hyl]; exact hlt) rfl
  rw [pis_set] at hw
  simp only [pwA, if_true, if_false, eq_self, nm_eq, reduceCtorEq, ↓reduceIte, nQ10, nQ7, nQ11, nQ12, nQ16, nQ17, nQ18, iQ2, iQ3, iQ4, iQ5, iQ6, lQ19, iQ7, lQ20, hz0, decide_true, hlt, hlt', hw, wi1]
  refine ⟨_, by omega, i + 1, y.set i 0, by omega, rfl, rfl, by rw [List.length_set]; exact hyl, km4.set (by omega) _, so4.set (by omega) _, ?_, by first | rfl | rw [pobj_set, if_pos rfl], lt4, ne3⟩
  exact psl_move ps4 (fun t off l c e => by rw [pobj_set, if_neg (fun e2 => by subst e2; exact ne3 off l c e)]) (Nat.le_refl _)
end Go.Proofs
namespace Go.Proofs
open Go.Ab Go.Lie
variable {σ : PHeap} {K : PV → PHeap → Prop} {p : Int} {n : Nat} {W : List (List Int)} {B : List (List (List Int))} {vP vB vL vU vV vX : PV} {s : Nat} {u v gens : List (List Int)} {id : Prop}
theorem Cat2_ok {wM : Bool} {aM : AV} (hU : FII vU u) (hV : FII vV v) (hl : u.length + v.length ≤ 1048576) (hk : ∀ z, FII z (u ++ v) → K z σ) : PCalls Tryz.prog 132 [.fz wM aM 2 [vU, vV]] σ K := by
  obtain ⟨wu, au, ru, rfl, hru⟩ := hU
  obtain ⟨wv, av, rv, rfl, hrv⟩ := hV
  have e1 := hru.1
  have e2 := hrv.1
  refine ConcatC_ok (M := [ru, rv]) (((All2.nil FC).snoc ⟨wu, au, by rw [e1]⟩).snoc ⟨wv, av, by rw [e2]⟩) (fun c hc => ?_) (by simp) (by simp [e1, e2]; omega) fun a => ?_
  · simp only [List.mem_cons, List.not_mem_nil, or_false] at hc
    rcases hc with rfl | rfl
    · exact hru.bI 0
    · exact hrv.bI 0
  · have hf : [ru, rv].flatten = ru ++ rv := by simp
    rw [hf]
    have hl2 : (ru ++ rv).length = (u ++ v).length := by simp [e1, e2]
    exact hk _ ⟨true, a, ru ++ rv, by rw [hl2], hru.append hrv⟩
def isSpan (p : Int) (W : List (List Int)) (u : List (List Int)) : Prop := Els p W.length u ∧ Canon p W.length W u u
theorem isZ_of {xs : List Int} (h : ∀ j, at_ xs j = 0) : isZ xs := fun x hx => by
  obtain ⟨j, hj, rfl⟩ := List.mem_iff_getElem.1 hx
  rw [← at_eq hj]; exact h j
theorem Grw.canon (g : Grw p n W B id gens u) : Canon p n W u u := ⟨g.base, g.red, fun f => Iff.rfl⟩
theorem szl_els (o : OkW p n W) (he : Els p n u) (hl : u.length ≤ 1048576) : SzL u := ⟨hl, fun x hx => by rw [(he x hx).1]; have := o.le; omega⟩
theorem areLieSpans_ok {us : List (List (List Int))} {wL : Bool} {aL : AV} {rL : List PV} (hs : PtrR σ s p vP vB) (hR : IsR vP vB W B) (szr : SzR W B) (hL : All2 FII rL us) (hul : us.length ≤ 2) (hne : us ≠ []) (sz : ∀ u ∈ us, SzL u)
    (hk : ∀ t : Bool, (t = true ↔ isLie p W B ∧ ∀ u ∈ us, isSpan p W u) → K (.bool t) σ) : PCalls Tryz.prog 127 [.ptr s 0, .fz wL aL us.length rL] σ K := by
  have fl : ∀ {A : Prop}, ¬ A → ((false = true) ↔ A) := fun h => ⟨fun x => (by cases x), fun x => absurd x h⟩
  have hPP := hR.P
  obtain ⟨wp, ap, rp, rfl, hrp⟩ := hR.P
  refine pcalls_of_vp mix Tryz.func127 cf127 rfl ?_
  dsimp only [if127, qI, eI, nI, qD, eD]
  simp only [pwA, if_true, if_false, eq_self, nm_eq, reduceCtorEq, ↓reduceIte, nQ10, nQ7, nQ11, nQ12, nQ16, nQ17, nQ18, iQ2, iQ3, iQ4, iQ5, iQ6, lQ19, iQ7, lQ20]
  refine vp_loop (fun m vs h' => ∃ i : Nat, i ≤ us.length ∧ m = us.length - i ∧ vs = [.ptr s 0, .fz wL aL us.length rL, .int .i64 us.length, .int .i64 i] ∧ σ = h' ∧ ∀ j (h : j < us.length), j < i → isLie p W B ∧ isSpan p W us[j]) us.length ⟨0, by omega, by omega, rfl, rfl, fun j h hj => by omega⟩ ?_
  rintro m vs h' ⟨i, hi, rfl, rfl, rfl, hall⟩
  simp only [pwA, if_true, if_false, eq_self, nm_eq, reduceCtorEq, ↓reduceIte, nQ10, nQ7, nQ11, nQ12, nQ16, nQ17, nQ18, iQ2, iQ3, iQ4, iQ5, iQ6, lQ19, iQ7, lQ20]
  refine iteI (fun hlt => ?_) fun hge => ?_
  rotate_left
  · have hie : i = us.length := by omega
    have hr3 : σ.rd s 0 3 = some [.int .i64 p, .fz wp ap W.length rp, vB] := by rw [obj_rd hs.obj]; rfl
    simp only [pwA, if_true, if_false, eq_self, nm_eq, reduceCtorEq, ↓reduceIte, nQ10, nQ7, nQ11, nQ12, nQ16, nQ17, nQ18, iQ2, iQ3, iQ4, iQ5, iQ6, lQ19, iQ7, lQ20, hr3]
    refine IsLieRing_ok hR szr fun t ht => ?_
    simp only [pwA, if_true, if_false, eq_self, nm_eq, reduceCtorEq, ↓reduceIte, nQ10, nQ7, nQ11, nQ12, nQ16, nQ17, nQ18, iQ2, iQ3, iQ4, iQ5, iQ6, lQ19, iQ7, lQ20]
    refine hk _ ⟨fun e => ⟨ht.1 e, fun x hx => ?_⟩, fun x => ht.2 x.1⟩
    obtain ⟨j, hj, rfl⟩ := List.mem_iff_getElem.1 hx
    exact (hall j hj (by omega)).2
  obtain ⟨w4, a4, rs, hr, hrs⟩ := hL.rowL hlt
  have hF : FII (.fz w4 a4 us[i].length rs) us[i] := ⟨w4, a4, rs, rfl, hrs⟩
  have szi := sz _ (List.getElem_mem hlt)
  have r1 : σ.rd1 s 1 = some (.fz wp ap W.length rp) := by rw [obj_rd1 hs.obj]; rfl
  have bad : ¬ (isLie p W B ∧ isSpan p W us[i]) → ¬ (isLie p W B ∧ ∀ u ∈ us, isSpan p W u) := fun h x => h ⟨x.1, x.2 _ (List.getElem_mem hlt)⟩
  by_cases hg : W.length < us[i].length
  · have hg' : (us[i].length : Int) > (W.length : Int) := by omega
    have hg'' : (W.length : Int) < (us[i].length : Int) := by omega
    simp only [pwA, if_true, if_false, eq_self, nm_eq, reduceCtorEq, ↓reduceIte, nQ10, nQ7, nQ11, nQ12, nQ16, nQ17, nQ18, iQ2, iQ3, iQ4, iQ5, iQ6, lQ19, iQ7, lQ20, hlt, hr, r1, hg', hg'', decide_true]
    exact hk _ (fl (bad fun x => by have := x.2.2.len; omega))
  have hg' : ¬ (us[i].length : Int) > (W.length : Int) := by omega
  have hg'' : ¬ (W.length : Int) < (us[i].length : Int) := by omega
  simp only [pwA, if_true, if_false, eq_self, nm_eq, reduceCtorEq, ↓reduceIte, nQ10, nQ7, nQ11, nQ12, nQ16, nQ17, nQ18, iQ2, iQ3, iQ4, iQ5, iQ6, lQ19, iQ7, lQ20, hlt, hr, r1, hg', hg'', decide_false]
  refine lieElements_ok hs hR szr hF szi fun t ht => ?_
  cases t with
  | false =>
    simp only [pwA, if_true, if_false, eq_self, nm_eq, reduceCtorEq, ↓reduceIte, nQ10, nQ7, nQ11, nQ12, nQ16, nQ17, nQ18, iQ2, iQ3, iQ4, iQ5, iQ6, lQ19, iQ7, lQ20]
    exact hk _ (fl (bad fun x => by have := ht.2 ⟨x.1, x.2.1⟩; cases this))
  | true =>
  obtain ⟨hl, he⟩ := ht.1 rfl
  have o := hl.1.w
  simp only [pwA, if_true, if_false, eq_self, nm_eq, reduceCtorEq, ↓reduceIte, nQ10, nQ7, nQ11, nQ12, nQ16, nQ17, nQ18, iQ2, iQ3, iQ4, iQ5, iQ6, lQ19, iQ7, lQ20]
  refine lieSpan_ok hs hPP o hl.1.1 hF he szi.l fun vO out c hO => ?_
  simp only [pwA, if_true, if_false, eq_self, nm_eq, reduceCtorEq, ↓reduceIte, nQ10, nQ7, nQ11, nQ12, nQ16, nQ17, nQ18, iQ2, iQ3, iQ4, iQ5, iQ6, lQ19, iQ7, lQ20]
  have hn6 := o.le
  have hol := c.len
  have hiff : (out = us[i]) ↔ isSpan p W us[i] := ⟨fun e => by rw [e] at c; exact ⟨he, c⟩, fun x => c.unique o x.2⟩
  refine sameRows_ok hO hF (by omega) (fun x hx => by rw [(c.els x hx).1]; omega) fun t ht => ?_
  cases t with
  | false =>
    simp only [pwA, if_true, if_false, eq_self, nm_eq, reduceCtorEq, ↓reduceIte, nQ10, nQ7, nQ11, nQ12, nQ16, nQ17, nQ18, iQ2, iQ3, iQ4, iQ5, iQ6, lQ19, iQ7, lQ20]
    exact hk _ (fl (bad fun x => by have := ht.2 (hiff.2 x.2); cases this))
  | true =>
  simp only [pwA, if_true, if_false, eq_self, nm_eq, reduceCtorEq, ↓reduceIte, nQ10, nQ7, nQ11, nQ12, nQ16, nQ17, nQ18, iQ2, iQ3, iQ4, iQ5, iQ6, lQ19, iQ7, lQ20, wrapS hlt (by omega : us.length ≤ 4611686018427387904)]
  refine ⟨_, by omega, i + 1, by omega, rfl, rfl, fun j h hj => ?_⟩
  by_cases e : j = i
  · subst e; exact ⟨hl, hiff.1 (ht.1 rfl)⟩
  · exact hall j h (by omega)
theorem bracketsIn_ok {x y : List (List Int)} {vY : PV} (hs : PtrR σ s p vP vB) (hR : IsR vP vB W B) (o : OkW p n W) (q : OkB p n B) (hX : FII vX x) (hY : FII vY y) (hU : FII vU u) (ex : Els p n x) (ey : Els p n y) (hxl : x.length ≤ 6) (hyl : y.length ≤ 6) (hb : Base p n W u)
    (hk : ∀ t : Bool, (t = true ↔ ∀ a ∈ x, ∀ b ∈ y, Gen p n W u (at_ (br p W B n a b))) → K (.bool t) σ) : PCalls Tryz.prog 128 [.ptr s 0, vX, vY, vU] σ K := by
  have fl : ∀ {A : Prop}, ¬ A → ((false = true) ↔ A) := fun h => ⟨fun x => (by cases x), fun x => absurd x h⟩
  have hn6 := o.le
  have hul : u.length ≤ n := asc_length (fun v hv => (hb.led v hv).2.1) hb.asc
  refine pcalls_of_vp mix Tryz.func128 cf128 rfl ?_
  dsimp only [if128, qI, eI, nI, qD, eD]
  simp only [pwA, if_true, if_false, eq_self, nm_eq, reduceCtorEq, ↓reduceIte, nQ10, nQ7, nQ11, nQ12, nQ16, nQ17, nQ18, iQ2, iQ3, iQ4, iQ5, iQ6, lQ19, iQ7, lQ20]
  refine brackets_ok hs hR o q hX hY ex ey hxl hyl fun vZ hZ => ?_
  have ez := brL_els o q x y
  have hlz : (brL p W B n x y).length ≤ 36 := by
    rw [brL_length]
    have : x.length * y.length ≤ 6 * 6 := Nat.mul_le_mul hxl hyl
    omega
  have hiff : (∀ a ∈ x, ∀ b ∈ y, Gen p n W u (at_ (br p W B n a b))) ↔ ∀ z ∈ brL p W B n x y, Gen p n W u (at_ z) := ⟨fun h z hz => by
    obtain ⟨a, ha, b, hb, rfl⟩ := brL_mem.1 hz
    exact h a ha b hb, fun h a ha b hb => h _ (brL_mem.2 ⟨a, ha, b, hb, rfl⟩)⟩
  rw [hiff] at hk
  clear hiff
  generalize brL p W B n x y = Z at *
  obtain ⟨wz, az, rz, rfl, hrz⟩ := hZ
  simp only [pwA, if_true, if_false, eq_self, nm_eq, reduceCtorEq, ↓reduceIte, nQ10, nQ7, nQ11, nQ12, nQ16, nQ17, nQ18, iQ2, iQ3, iQ4, iQ5, iQ6, lQ19, iQ7, lQ20]
  refine vp_loop (fun m vs h' => ∃ i : Nat, i ≤ Z.length ∧ m = Z.length - i ∧ vs = [.ptr s 0, vU, .fz wz az Z.length rz, .int .i64 Z.length, .int .i64 i] ∧ σ = h' ∧ ∀ j (h : j < Z.length), j < i → Gen p n W u (at_ Z[j])) Z.length ⟨0, by omega, by omega, rfl, rfl, fun j h hj => by omega⟩ ?_
  rintro m vs h' ⟨i, hi, rfl, rfl, rfl, hall⟩
  simp only [pwA, if_true, if_false, eq_self, nm_eq, reduceCtorEq, ↓reduceIte, nQ10, nQ7, nQ11, nQ12, nQ16, nQ17, nQ18, iQ2, iQ3, iQ4, iQ5, iQ6, lQ19, iQ7, lQ20]
  refine iteI (fun hlt => ?_) fun hge => ?_
  rotate_left
  · have hie : i = Z.length := by omega
    refine hk _ ⟨fun _ z hz => ?_, fun _ => rfl⟩
    obtain ⟨j, hj, rfl⟩ := List.mem_iff_getElem.1 hz
    exact hall j hj (by omega)
  obtain ⟨w4, a4, hr⟩ := hrz.rowI hlt
  have hzi := ez _ (List.getElem_mem hlt)
  simp only [pwA, if_true, if_false, eq_self, nm_eq, reduceCtorEq, ↓reduceIte, nQ10, nQ7, nQ11, nQ12, nQ16, nQ17, nQ18, iQ2, iQ3, iQ4, iQ5, iQ6, lQ19, iQ7, lQ20, hlt, hr]
  refine reduceLie_ok hs hR.P o hU (fun v hv => ⟨(hb.led v hv).1, (hb.led v hv).2.1⟩) (by omega) hzi rfl fun v1 => ?_
  simp only [pwA, if_true, if_false, eq_self, nm_eq, reduceCtorEq, ↓reduceIte, nQ10, nQ7, nQ11, nQ12, nQ16, nQ17, nQ18, iQ2, iQ3, iQ4, iQ5, iQ6, lQ19, iQ7, lQ20]
  have hrl := (redL_el o hb.els hzi).1
  have hin := redL_in o hb hzi
  refine isZero_ok hrl.symm (by omega) ?_
  by_cases hz0 : isZ (redL p W u Z[i])
  · simp only [pwA, if_true, if_false, eq_self, nm_eq, reduceCtorEq, ↓reduceIte, nQ10, nQ7, nQ11, nQ12, nQ16, nQ17, nQ18, iQ2, iQ3, iQ4, iQ5, iQ6, lQ19, iQ7, lQ20, hz0, decide_true, wrapS hlt (by omega : Z.length ≤ 4611686018427387904)]
    refine ⟨_, by omega, i + 1, by omega, rfl, rfl, fun j h hj => ?_⟩
    by_cases e : j = i
    · subst e; exact hin.1 (isZ_at hz0)
    · exact hall j h (by omega)
  · simp only [pwA, if_true, if_false, eq_self, nm_eq, reduceCtorEq, ↓reduceIte, nQ10, nQ7, nQ11, nQ12, nQ16, nQ17, nQ18, iQ2, iQ3, iQ4, iQ5, iQ6, lQ19, iQ7, lQ20, hz0, decide_false]
    refine hk _ (fl fun x => hz0 ?_)
    have := hin.2 (x _ (List.getElem_mem hlt))
    exact isZ_of fun j => this j
theorem lieClosure_ok {ws : List (List Int)} (hs : PtrR σ s p vP vB) (hR : IsR vP vB W B) (o : OkW p n W) (q : OkB p n B) (nf : NoFault p W B n) (hp : isP p) (hL : FII vL gens) (he : Els p n gens) (hgl : gens.length ≤ 1048576) (hV : FII vV ws) (hw : wl n id ws)
    (hk : ∀ v u, ClsOf p n W B id gens u → FII v u → K v σ) : PCalls Tryz.prog 124 [.ptr s 0, vL, vV] σ K := by
  have hn6 := o.le
  have ews : Els p n ws := by
    rcases hw with ⟨_, rfl⟩ | ⟨_, rfl⟩
    · exact units_els o.pr
    · intro x hx; cases hx
  have hwl : ws.length ≤ 6 := by
    rcases hw with ⟨_, rfl⟩ | ⟨_, rfl⟩
    · rw [units_length]; omega
    · simp
  refine PCalls.gh ?_
  refine pcalls_of_vp mix Tryz.func124 cf124 rfl ?_
  dsimp only [if124, qI, eI, nI, qD, eD]
  simp only [pwA, if_true, if_false, eq_self, nm_eq, reduceCtorEq, ↓reduceIte, nQ10, nQ7, nQ11, nQ12, nQ16, nQ17, nQ18, iQ2, iQ3, iQ4, iQ5, iQ6, lQ19, iQ7, lQ20]
  refine lieSpan_ok hs hR.P o hp hL he hgl fun vU u c hU => ?_
  simp only [pwA, if_true, if_false, eq_self, nm_eq, reduceCtorEq, ↓reduceIte, nQ10, nQ7, nQ11, nQ12, nQ16, nQ17, nQ18, iQ2, iQ3, iQ4, iQ5, iQ6, lQ19, iQ7, lQ20]
  refine vp_loop (fun m us h => ∃ vU u, m = n - u.length ∧ us = [.ptr s 0, vV, vU] ∧ Keep σ h ∧ FII vU u ∧ Grw p n W B id gens u) (n - u.length) ⟨vU, u, rfl, rfl, Keep.refl σ, hU, Grw.start c⟩ ?_
  clear c hU u vU
  rintro m us h ⟨vU, u, rfl, rfl, hkp, hU, hg⟩
  have hul := hg.len o
  have eu := hg.base.els
  have hlt := hs.lt
  have hnx := hkp.next
  simp only [pwA, if_true, if_false, eq_self, nm_eq, reduceCtorEq, ↓reduceIte, nQ10, nQ7, nQ11, nQ12, nQ16, nQ17, nQ18, iQ2, iQ3, iQ4, iQ5, iQ6, lQ19, iQ7, lQ20, hU.one, hU.cells, hV.one, hV.cells]
  refine PCalls.frz (s := h.next) (cs := [vU, vV]) (by simp only [pwA, if_true, if_false, eq_self, nm_eq, reduceCtorEq, ↓reduceIte, nQ10, nQ7, nQ11, nQ12, nQ16, nQ17, nQ18, iQ2, iQ3, iQ4, iQ5, iQ6, lQ19, iQ7, lQ20]) ⟨hU.bel 0, hV.bel 0, trivial⟩ fun o1 => ?_
  have k1 : Keep σ ((h.new [vU, vV]).kill h.next) := (hkp.new _).kill (by omega)
  have n1 : ((h.new [vU, vV]).kill h.next).next = h.next + 1 := rfl
  generalize (h.new [vU, vV]).kill h.next = H1 at *
  simp only [sbs, sb, capOK, and_self, if_true, decide_true, Nat.le_refl]
  refine Cat2_ok hU hV (by omega) fun vX hX => ?_
  have ex : Els p n (u ++ ws) := fun x hx => by
    rcases List.mem_append.1 hx with e | e
    · exact eu x e
    · exact ews x e
  simp only [pwA, if_true, if_false, eq_self, nm_eq, reduceCtorEq, ↓reduceIte, nQ10, nQ7, nQ11, nQ12, nQ16, nQ17, nQ18, iQ2, iQ3, iQ4, iQ5, iQ6, lQ19, iQ7, lQ20]
  refine brackets_ok' (hs.keep k1) hR o q hU hX eu ex (by omega) (by rw [List.length_append]; omega) fun vY hY => ?_
  have ey := brL_els o q u (u ++ ws)
  have hyl : (brL p W B n u (u ++ ws)).length ≤ 72 := by
    rw [brL_length, List.length_append]
    have : u.length * (u.length + ws.length) ≤ 6 * 12 := Nat.mul_le_mul (by omega) (by omega)
    omega
  simp only [pwA, if_true, if_false, eq_self, nm_eq, reduceCtorEq, ↓reduceIte, nQ10, nQ7, nQ11, nQ12, nQ16, nQ17, nQ18, iQ2, iQ3, iQ4, iQ5, iQ6, lQ19, iQ7, lQ20, hU.one, hU.cells, hY.one, hY.cells]
  refine PCalls.frz (s := H1.next) (cs := [vU, vY]) (by simp only [pwA, if_true, if_false, eq_self, nm_eq, reduceCtorEq, ↓reduceIte, nQ10, nQ7, nQ11, nQ12, nQ16, nQ17, nQ18, iQ2, iQ3, iQ4, iQ5, iQ6, lQ19, iQ7, lQ20]) ⟨hU.bel 0, hY.bel 0, trivial⟩ fun o2 => ?_
  have k2 : Keep σ ((H1.new [vU, vY]).kill H1.next) := (k1.new _).kill (by omega)
  generalize (H1.new [vU, vY]).kill H1.next = H2 at *
  simp only [sbs, sb, capOK, and_self, if_true, decide_true, Nat.le_refl]
  refine Cat2_ok hU hY (by omega) fun vZ hZ => ?_
  simp only [pwA, if_true, if_false, eq_self, nm_eq, reduceCtorEq, ↓reduceIte, nQ10, nQ7, nQ11, nQ12, nQ16, nQ17, nQ18, iQ2, iQ3, iQ4, iQ5, iQ6, lQ19, iQ7, lQ20]
  refine lieSpan_ok (hs.keep k2) hR.P o hp hZ (fun x hx => by
    rcases List.mem_append.1 hx with e | e
    · exact eu x e
    · exact ey x e) (by rw [List.length_append]; omega) fun vO out c hO => ?_
  have r := rnd_impl o q nf hw c
  have hol := c.len
  simp only [pwA, if_true, if_false, eq_self, nm_eq, reduceCtorEq, ↓reduceIte, nQ10, nQ7, nQ11, nQ12, nQ16, nQ17, nQ18, iQ2, iQ3, iQ4, iQ5, iQ6, lQ19, iQ7, lQ20]
  refine sameRows_ok hO hU (by omega) (fun x hx => by rw [(c.els x hx).1]; omega) fun t ht => ?_
  have hsame := r.same o hg.base hg.red
  cases t with
  | true =>
    simp only [pwA, if_true, if_false, eq_self, nm_eq, reduceCtorEq, ↓reduceIte, nQ10, nQ7, nQ11, nQ12, nQ16, nQ17, nQ18, iQ2, iQ3, iQ4, iQ5, iQ6, lQ19, iQ7, lQ20]
    exact Gh.fin0 k2 (hU.bel _) (hk vU u (hg.done o r (by rw [ht.1 rfl]; exact Nat.le_refl _)) hU)
  | false =>
    have hne : out.length ≠ u.length := fun e => by have := ht.2 (hsame.2 e); cases this
    have hless := hg.less o r hne
    simp only [pwA, if_true, if_false, eq_self, nm_eq, reduceCtorEq, ↓reduceIte, nQ10, nQ7, nQ11, nQ12, nQ16, nQ17, nQ18, iQ2, iQ3, iQ4, iQ5, iQ6, lQ19, iQ7, lQ20]
    exact ⟨n - out.length, by omega, vO, out, rfl, rfl, k2, hO, hg.next r⟩
end Go.Proofs
namespace Go.Proofs
open Go.Ab Go.Lie
variable {σ : PHeap} {K : PV → PHeap → Prop} {p : Int} {n : Nat} {W : List (List Int)} {B : List (List (List Int))} {vP vB vL vU vV vX : PV} {s : Nat} {u v gens : List (List Int)} {id : Prop}
def LsV (ok : Prop) (R : List (List Int) → Prop) (z : List (List Int)) (c : Int) : Prop := (¬ ok ∧ z = [] ∧ c = 1) ∨ (ok ∧ R z ∧ c = 0)
theorem LsV.yes {ok : Prop} {R : List (List Int) → Prop} {z : List (List Int)} {c : Int} (h : LsV ok R z c) (g : ok) : R z ∧ c = 0 := by
  rcases h with ⟨h1, _⟩ | ⟨_, h2⟩
  · exact absurd g h1
  · exact h2
theorem LsV.no {ok : Prop} {R : List (List Int) → Prop} {z : List (List Int)} {c : Int} (h : LsV ok R z c) (g : ¬ ok) : z = [] ∧ c = 1 := by
  rcases h with ⟨h1, h2⟩ | ⟨h1, _⟩
  · exact h2
  · exact absurd h1 g
theorem nil_FII : FII (.fz true .nils 0 []) [] := ⟨true, .nils, [], rfl, All2.nil _⟩
theorem IdealOf_F (hR : IsR vP vB W B) (szr : SzR W B) (hL : FII vL gens) (sz : SzL gens)
    (hk : ∀ v z c, LsV (isLie p W B ∧ Els p W.length gens) (ClsOf p W.length W B True gens) z c → FII v z → K (.tup [v, .int .i64 c]) σ) : PCalls Tryz.prog 46 [.agg [.int .i64 p, vP, vB], vL] σ K := by
  have h1 := hR.P.one
  have h2 := hR.B.one
  refine PCalls.gh ?_
  refine pcalls_of_vp mix Tryz.func46 cf46 rfl ?_
  dsimp only [if46, qI, eI, nI, qD, eD]
  simp only [pwA, if_true, if_false, eq_self, nm_eq, reduceCtorEq, ↓reduceIte, nQ10, nQ7, nQ11, nQ12, nQ16, nQ17, nQ18, iQ2, iQ3, iQ4, iQ5, iQ6, lQ19, iQ7, lQ20, h1, h2]
  have hkp : Keep σ (σ.new [.int .i64 p, vP, vB]) := keep_new σ _
  have hp2 : PtrR (σ.new [.int .i64 p, vP, vB]) σ.next p vP vB := ⟨by simp only [pwA, if_true, if_false, eq_self, nm_eq, reduceCtorEq, ↓reduceIte, nQ10, nQ7, nQ11, nQ12, nQ16, nQ17, nQ18, iQ2, iQ3, iQ4, iQ5, iQ6, lQ19, iQ7, lQ20], Nat.lt_succ_self _⟩
  generalize σ.new [.int .i64 p, vP, vB] = H at *
  refine lieElements_ok hp2 hR szr hL sz fun t ht => ?_
  cases t with
  | false =>
    simp only [pwA, if_true, if_false, eq_self, nm_eq, reduceCtorEq, ↓reduceIte, nQ10, nQ7, nQ11, nQ12, nQ16, nQ17, nQ18, iQ2, iQ3, iQ4, iQ5, iQ6, lQ19, iQ7, lQ20]
    exact Gh.fin0 hkp ⟨trivial, trivial, trivial⟩ (hk _ [] 1 (.inl ⟨fun e => (by have := ht.2 e; cases this), rfl, rfl⟩) nil_FII)
  | true =>
  have hl := ht.1 rfl
  simp only [pwA, if_true, if_false, eq_self, nm_eq, reduceCtorEq, ↓reduceIte, nQ10, nQ7, nQ11, nQ12, nQ16, nQ17, nQ18, iQ2, iQ3, iQ4, iQ5, iQ6, lQ19, iQ7, lQ20]
  refine wholeLie_ok hp2 hR.P rfl (by have := hl.1.1.w.le; omega) fun vW hW => ?_
  simp only [pwA, if_true, if_false, eq_self, nm_eq, reduceCtorEq, ↓reduceIte, nQ10, nQ7, nQ11, nQ12, nQ16, nQ17, nQ18, iQ2, iQ3, iQ4, iQ5, iQ6, lQ19, iQ7, lQ20]
  refine lieClosure_ok (id := True) hp2 hR hl.1.1.w hl.1.1.b hl.1.2 hl.1.1.1 hL hl.2 sz.l hW (.inl ⟨trivial, rfl⟩) fun v z c hz => ?_
  simp only [pwA, if_true, if_false, eq_self, nm_eq, reduceCtorEq, ↓reduceIte, nQ10, nQ7, nQ11, nQ12, nQ16, nQ17, nQ18, iQ2, iQ3, iQ4, iQ5, iQ6, lQ19, iQ7, lQ20]
  exact Gh.fin0 hkp ⟨hz.bel _, trivial, trivial⟩ (hk v z 0 (.inr ⟨hl, c, rfl⟩) hz)
end Go.Proofs
namespace Go.Proofs
open Go.Ab Go.Lie
variable {σ : PHeap} {K : PV → PHeap → Prop} {p : Int} {n : Nat} {W : List (List Int)} {B : List (List (List Int))} {vP vB vL vU vV vX : PV} {s : Nat} {u v gens : List (List Int)} {id : Prop}
theorem l01Same2_ok {xs ys : List (List Int)} (hU : FII vU xs) (hV : FII vV ys) (hx : xs.length ≤ 1048576) (hxl : ∀ x ∈ xs, x.length ≤ 1048576) (hk : ∀ t : Bool, (t = true ↔ xs = ys) → K (.bool t) σ) : PCalls Tryz.prog 218 [vU, vV] σ K := by
  have fl : ∀ {A : Prop}, ¬ A → ((false = true) ↔ A) := fun h => ⟨fun x => (by cases x), fun x => absurd x h⟩
  obtain ⟨wA, aA, rA, rfl, hrA⟩ := hU
  obtain ⟨wB, aB, rB, rfl, hrB⟩ := hV
  refine pcalls_of_vp mix Tryz.func218 cf218 rfl ?_
  dsimp only [if218, qI, eI, nI, qD, eD]
  by_cases hl : xs.length = ys.length
  rotate_left
  · have hl' : ¬ (xs.length : Int) = (ys.length : Int) := by omega
    simp only [pwA, if_true, if_false, eq_self, nm_eq, reduceCtorEq, ↓reduceIte, nQ10, nQ7, nQ11, nQ12, nQ16, nQ17, nQ18, iQ2, iQ3, iQ4, iQ5, iQ6, lQ19, iQ7, lQ20, hl']
    exact hk _ (fl fun h => hl (by rw [h]))
  have hl' : (xs.length : Int) = (ys.length : Int) := by omega
  simp only [pwA, if_true, if_false, eq_self, nm_eq, reduceCtorEq, ↓reduceIte, nQ10, nQ7, nQ11, nQ12, nQ16, nQ17, nQ18, iQ2, iQ3, iQ4, iQ5, iQ6, lQ19, iQ7, lQ20, eq_true hl']
  refine vp_loop (fun m vs h' => ∃ i : Nat, i ≤ xs.length ∧ m = xs.length - i ∧ vs = [.fz wA aA xs.length rA, .fz wB aB ys.length rB, .int .i64 i] ∧ σ = h' ∧ xs.take i = ys.take i) xs.length ?_ ?_
  · exact ⟨0, by omega, by omega, rfl, rfl, rfl⟩
  rintro m vs h' ⟨i, hi, rfl, rfl, rfl, heq⟩
  simp only [pwA, if_true, if_false, eq_self, nm_eq, reduceCtorEq, ↓reduceIte, nQ10, nQ7, nQ11, nQ12, nQ16, nQ17, nQ18, iQ2, iQ3, iQ4, iQ5, iQ6, lQ19, iQ7, lQ20]
  refine iteI (fun hlt => ?_) fun hge => ?_
  rotate_left
  · have hie : i = xs.length := by omega
    subst hie
    rw [List.take_length, hl, List.take_length] at heq
    exact hk _ ⟨fun _ => heq, fun _ => rfl⟩
  have hlt2 : i < ys.length := by omega
  obtain ⟨w4, a4, hr⟩ := hrA.rowI hlt
  obtain ⟨w5, a5, hr2⟩ := hrB.rowI hlt2
  have hb := hxl _ (List.getElem_mem hlt)
  simp only [pwA, if_true, if_false, eq_self, nm_eq, reduceCtorEq, ↓reduceIte, nQ10, nQ7, nQ11, nQ12, nQ16, nQ17, nQ18, iQ2, iQ3, iQ4, iQ5, iQ6, lQ19, iQ7, lQ20, hlt, hlt2, hr, hr2]
  refine l01Same_ok rfl rfl (by omega) ?_
  by_cases he : xs[i] = ys[i]
  · simp only [pwA, if_true, if_false, eq_self, nm_eq, reduceCtorEq, ↓reduceIte, nQ10, nQ7, nQ11, nQ12, nQ16, nQ17, nQ18, iQ2, iQ3, iQ4, iQ5, iQ6, lQ19, iQ7, lQ20, he, wrapS hlt (by omega : xs.length ≤ 4611686018427387904)]
    refine ⟨_, by omega, i + 1, by omega, rfl, rfl, ?_⟩
    rw [List.take_succ_eq_append_getElem hlt, List.take_succ_eq_append_getElem hlt2, heq, he]
  · simp only [pwA, if_true, if_false, eq_self, nm_eq, reduceCtorEq, ↓reduceIte, nQ10, nQ7, nQ11, nQ12, nQ16, nQ17, nQ18, iQ2, iQ3, iQ4, iQ5, iQ6, lQ19, iQ7, lQ20, he]
    refine hk _ (fl fun h => he ?_)
    subst h; rfl
theorem IsLieSpan_S (hR : IsR vP vB W B) (szr : SzR W B) (hU : FII vU u) (sz : SzL u) (hk : ∀ t : Bool, (t = true ↔ isLie p W B ∧ isSpan p W u) → K (.bool t) σ) : PCalls Tryz.prog 134 [.agg [.int .i64 p, vP, vB], vU] σ K := by
  have fl : ∀ {A : Prop}, ¬ A → ((false = true) ↔ A) := fun h => ⟨fun x => (by cases x), fun x => absurd x h⟩
  have h1 := hR.P.one
  have h2 := hR.B.one
  have hRR := hR
  obtain ⟨⟨wp, ap, rp, rfl, hrp⟩, hB⟩ := hR
  obtain ⟨wu, au, ru, rfl, hru⟩ := hU
  have hU : FII (.fz wu au u.length ru) u := ⟨wu, au, ru, rfl, hru⟩
  refine PCalls.gh ?_
  refine pcalls_of_vp mix Tryz.func134 cf134 rfl ?_
  dsimp only [if134, qI, eI, nI, qD, eD]
  simp only [pwA, if_true, if_false, eq_self, nm_eq, reduceCtorEq, ↓reduceIte, nQ10, nQ7, nQ11, nQ12, nQ16, nQ17, nQ18, iQ2, iQ3, iQ4, iQ5, iQ6, lQ19, iQ7, lQ20, h1, h2]
  have hkp : Keep σ (σ.new [.int .i64 p, .fz wp ap W.length rp, vB]) := keep_new σ _
  have hr3 : (σ.new [.int .i64 p, .fz wp ap W.length rp, vB]).rd σ.next 0 3 = some [.int .i64 p, .fz wp ap W.length rp, vB] := by simp only [pwA, if_true, if_false, eq_self, nm_eq, reduceCtorEq, ↓reduceIte, nQ10, nQ7, nQ11, nQ12, nQ16, nQ17, nQ18, iQ2, iQ3, iQ4, iQ5, iQ6, lQ19, iQ7, lQ20]
  have hr1 : (σ.new [.int .i64 p, .fz wp ap W.length rp, vB]).rd1 σ.next 1 = some (.fz wp ap W.length rp) := by simp only [pwA, if_true, if_false, eq_self, nm_eq, reduceCtorEq, ↓reduceIte, nQ10, nQ7, nQ11, nQ12, nQ16, nQ17, nQ18, iQ2, iQ3, iQ4, iQ5, iQ6, lQ19, iQ7, lQ20]
  generalize σ.new [.int .i64 p, .fz wp ap W.length rp, vB] = H at *
  refine l31Ring_ok hRR szr fun t ht => ?_
  cases t with
  | false =>
    simp only [pwA, if_true, if_false, eq_self, nm_eq, reduceCtorEq, ↓reduceIte, nQ10, nQ7, nQ11, nQ12, nQ16, nQ17, nQ18, iQ2, iQ3, iQ4, iQ5, iQ6, lQ19, iQ7, lQ20, hr3, hr1]
    exact Gh.fin0 hkp trivial (hk _ (fl fun x => by have := ht.2 x.1; cases this))
  | true =>
  have hl := ht.1 rfl
  have o := hl.1.w
  have hn6 := o.le
  by_cases hle : u.length ≤ W.length
  rotate_left
  · have hle' : ¬ (u.length : Int) ≤ (W.length : Int) := by omega
    simp only [pwA, if_true, if_false, eq_self, nm_eq, reduceCtorEq, ↓reduceIte, nQ10, nQ7, nQ11, nQ12, nQ16, nQ17, nQ18, iQ2, iQ3, iQ4, iQ5, iQ6, lQ19, iQ7, lQ20, hr3, hr1, hle', hle, decide_false]
    exact Gh.fin0 hkp trivial (hk _ (fl fun x => hle x.2.2.len))
  have hle' : (u.length : Int) ≤ (W.length : Int) := by omega
  simp only [pwA, if_true, if_false, eq_self, nm_eq, reduceCtorEq, ↓reduceIte, nQ10, nQ7, nQ11, nQ12, nQ16, nQ17, nQ18, iQ2, iQ3, iQ4, iQ5, iQ6, lQ19, iQ7, lQ20, hr3, hr1, hle', hle, decide_true]
  refine l32Elements_ok hRR hU sz o.pr fun t ht2 => ?_
  cases t with
  | false =>
    simp only [pwA, if_true, if_false, eq_self, nm_eq, reduceCtorEq, ↓reduceIte, nQ10, nQ7, nQ11, nQ12, nQ16, nQ17, nQ18, iQ2, iQ3, iQ4, iQ5, iQ6, lQ19, iQ7, lQ20, hr3]
    exact Gh.fin0 hkp trivial (hk _ (fl fun x => by have := ht2.2 x.2.1; cases this))
  | true =>
  have he := ht2.1 rfl
  simp only [pwA, if_true, if_false, eq_self, nm_eq, reduceCtorEq, ↓reduceIte, nQ10, nQ7, nQ11, nQ12, nQ16, nQ17, nQ18, iQ2, iQ3, iQ4, iQ5, iQ6, lQ19, iQ7, lQ20, hr3]
  refine l32Span_ok hRR o hl.1.1 hU he sz.l fun vO out c hO => ?_
  simp only [pwA, if_true, if_false, eq_self, nm_eq, reduceCtorEq, ↓reduceIte, nQ10, nQ7, nQ11, nQ12, nQ16, nQ17, nQ18, iQ2, iQ3, iQ4, iQ5, iQ6, lQ19, iQ7, lQ20]
  refine l01Same2_ok hU hO sz.l sz.r fun t ht3 => ?_
  simp only [pwA, if_true, if_false, eq_self, nm_eq, reduceCtorEq, ↓reduceIte, nQ10, nQ7, nQ11, nQ12, nQ16, nQ17, nQ18, iQ2, iQ3, iQ4, iQ5, iQ6, lQ19, iQ7, lQ20]
  refine Gh.fin0 hkp trivial (hk _ (ht3.trans ⟨fun e => ⟨hl, he, by rw [← e] at c; exact c⟩, fun x => x.2.2.unique o c⟩))
theorem l32In_ok {x : List Int} (hR : IsR vP vB W B) (o : OkW p n W) (hU : FII vU u) (hb : Base p n W u) (hx : FI vX x) (ex : El p n x) (hk : ∀ t : Bool, (t = true ↔ Gen p n W u (at_ x)) → K (.bool t) σ) : PCalls Tryz.prog 221 [.agg [.int .i64 p, vP, vB], vU, vX] σ K := by
  have h1 := hR.P.one
  have h2 := hR.B.one
  have hn6 := o.le
  have hul : u.length ≤ n := asc_length (fun v hv => (hb.led v hv).2.1) hb.asc
  obtain ⟨wx, ax, rfl⟩ := hx
  refine PCalls.gh ?_
  refine pcalls_of_vp mix Tryz.func221 cf221 rfl ?_
  dsimp only [if221, qI, eI, nI, qD, eD]
  simp only [pwA, if_true, if_false, eq_self, nm_eq, reduceCtorEq, ↓reduceIte, nQ10, nQ7, nQ11, nQ12, nQ16, nQ17, nQ18, iQ2, iQ3, iQ4, iQ5, iQ6, lQ19, iQ7, lQ20, h1, h2]
  have hkp : Keep σ (σ.new [.int .i64 p, vP, vB]) := keep_new σ _
  generalize σ.new [.int .i64 p, vP, vB] = H at *
  refine l32Reduce_ok hR o hU (fun v hv => ⟨(hb.led v hv).1, (hb.led v hv).2.1⟩) (by omega) ex rfl fun v1 => ?_
  have hrl := (redL_el o hb.els ex).1
  have hin := redL_in o hb ex
  simp only [pwA, if_true, if_false, eq_self, nm_eq, reduceCtorEq, ↓reduceIte, nQ10, nQ7, nQ11, nQ12, nQ16, nQ17, nQ18, iQ2, iQ3, iQ4, iQ5, iQ6, lQ19, iQ7, lQ20]
  refine l01Zero_ok hrl.symm (by omega) ?_
  simp only [pwA, if_true, if_false, eq_self, nm_eq, reduceCtorEq, ↓reduceIte, nQ10, nQ7, nQ11, nQ12, nQ16, nQ17, nQ18, iQ2, iQ3, iQ4, iQ5, iQ6, lQ19, iQ7, lQ20]
  refine Gh.fin0 hkp trivial (hk _ ?_)
  rw [decide_eq_true_eq, ← hin]
  exact ⟨fun h j => isZ_at h j, fun h => isZ_of h⟩
theorem l32Grown_ok (hR : IsR vP vB W B) (o : OkW p n W) (hp : isP p) (hU : FII vU u) (hV : FII vV v) (eu : Els p n u) (ev : Els p n v) (hl : u.length + v.length ≤ 1048576)
    (hk : ∀ z out, Canon p n W (u ++ v) out → FII z out → K z σ) : PCalls Tryz.prog 209 [.agg [.int .i64 p, vP, vB], vU, vV] σ K := by
  have h1 := hR.P.one
  have h2 := hR.B.one
  obtain ⟨wu, au, ru, rfl, hru⟩ := hU
  obtain ⟨wv, av, rv, rfl, hrv⟩ := hV
  refine PCalls.gh ?_
  refine pcalls_of_vp mix Tryz.func209 cf209 rfl ?_
  dsimp only [if209, qI, eI, nI, qD, eD]
  simp only [pwA, if_true, if_false, eq_self, nm_eq, reduceCtorEq, ↓reduceIte, nQ10, nQ7, nQ11, nQ12, nQ16, nQ17, nQ18, iQ2, iQ3, iQ4, iQ5, iQ6, lQ19, iQ7, lQ20, h1, h2]
  generalize hH : σ.new [.int .i64 p, vP, vB] = H
  have hHn : H.next = σ.next + 1 := by rw [← hH]; rfl
  have hHk : Keep σ H := by rw [← hH]; exact keep_new σ _
  have hob : H.obj σ.next = some [.int .i64 p, vP, vB] := by rw [← hH]; simp only [pwA, if_true, if_false, eq_self, nm_eq, reduceCtorEq, ↓reduceIte, nQ10, nQ7, nQ11, nQ12, nQ16, nQ17, nQ18, iQ2, iQ3, iQ4, iQ5, iQ6, lQ19, iQ7, lQ20]
  refine PSl.cat (bytes := 24) (σb := H) (n := 0) (cs := []) (keep_new H _) (by rw [← hHn]; exact PSl.new _ 1 rfl (Nat.le_refl _)) hru.1 (by omega) (by omega) fun v1 g1 k1 a1 => ?_
  rw [Nat.zero_add, List.nil_append] at a1
  have hr31 : g1.rd σ.next 0 3 = some [.int .i64 p, vP, vB] := by rw [obj_rd (show g1.obj σ.next = some _ by rw [k1.obj _ (by omega)]; exact hob)]; rfl
  simp only [pwA, if_true, if_false, eq_self, nm_eq, reduceCtorEq, ↓reduceIte, nQ10, nQ7, nQ11, nQ12, nQ16, nQ17, nQ18, iQ2, iQ3, iQ4, iQ5, iQ6, lQ19, iQ7, lQ20, hr31]
  refine PSl.cat (bytes := 24) (σb := H) k1 a1 hrv.1 (by omega) (by omega) fun v2 g2 k2 a2 => ?_
  obtain ⟨t, cap, rfl, hc, q2, q3, q4, q5⟩ := a2
  have hr3 : g2.rd σ.next 0 3 = some [.int .i64 p, vP, vB] := by rw [obj_rd (show g2.obj σ.next = some _ by rw [k2.obj _ (by omega)]; exact hob)]; rfl
  have hrow := hru.append hrv
  simp only [pwA, if_true, if_false, eq_self, nm_eq, reduceCtorEq, ↓reduceIte, nQ10, nQ7, nQ11, nQ12, nQ16, nQ17, nQ18, iQ2, iQ3, iQ4, iQ5, iQ6, lQ19, iQ7, lQ20, hr3]
  refine PCalls.frz q2 (hrow.bI 0) fun o1 => ?_
  have e1 := hR.P.sb t o1 (ru ++ rv)
  have e2 := hR.B.sb t o1 (ru ++ rv)
  simp only [sbs, sb, hc.ok, and_self, if_true, e1, e2]
  refine l32Span_ok hR o hp ⟨true, _, _, by rw [List.length_append], hrow⟩ (fun x hx => by
    rcases List.mem_append.1 hx with e | e
    · exact eu x e
    · exact ev x e) (by rw [List.length_append]; omega) fun z out c hz => ?_
  simp only [pwA, if_true, if_false, eq_self, nm_eq, reduceCtorEq, ↓reduceIte, nQ10, nQ7, nQ11, nQ12, nQ16, nQ17, nQ18, iQ2, iQ3, iQ4, iQ5, iQ6, lQ19, iQ7, lQ20]
  exact Gh.fin0 ((hHk.trans k2).kill (by omega)) (hz.bel _) (hk z out c hz)
theorem l32Ideal_ok (hR : IsR vP vB W B) (o : OkW p n W) (q : OkB p n B) (nf : NoFault p W B n) (hp : isP p) (hL : FII vL gens) (he : Els p n gens) (hgl : gens.length ≤ 1048576)
    (hk : ∀ v u, ClsOf p n W B True gens u → FII v u → K v σ) : PCalls Tryz.prog 130 [.agg [.int .i64 p, vP, vB], vL] σ K := by
  have h1 := hR.P.one
  have h2 := hR.B.one
  have hn6 := o.le
  refine PCalls.gh ?_
  refine pcalls_of_vp mix Tryz.func130 cf130 rfl ?_
  dsimp only [if130, qI, eI, nI, qD, eD]
  simp only [pwA, if_true, if_false, eq_self, nm_eq, reduceCtorEq, ↓reduceIte, nQ10, nQ7, nQ11, nQ12, nQ16, nQ17, nQ18, iQ2, iQ3, iQ4, iQ5, iQ6, lQ19, iQ7, lQ20, h1, h2]
  have hkp : Keep σ (σ.new [.int .i64 p, vP, vB]) := keep_new σ _
  have hr3 : (σ.new [.int .i64 p, vP, vB]).rd σ.next 0 3 = some [.int .i64 p, vP, vB] := by simp only [pwA, if_true, if_false, eq_self, nm_eq, reduceCtorEq, ↓reduceIte, nQ10, nQ7, nQ11, nQ12, nQ16, nQ17, nQ18, iQ2, iQ3, iQ4, iQ5, iQ6, lQ19, iQ7, lQ20]
  generalize σ.new [.int .i64 p, vP, vB] = H at *
  refine l32Span_ok hR o hp hL he hgl fun vU u c hU => ?_
  simp only [pwA, if_true, if_false, eq_self, nm_eq, reduceCtorEq, ↓reduceIte, nQ10, nQ7, nQ11, nQ12, nQ16, nQ17, nQ18, iQ2, iQ3, iQ4, iQ5, iQ6, lQ19, iQ7, lQ20]
  refine vp_loop (fun m us h => ∃ vU u, m = n - u.length ∧ us = [.ptr σ.next 0, vU] ∧ H = h ∧ FII vU u ∧ Grw p n W B True gens u) (n - u.length) ⟨vU, u, rfl, rfl, rfl, hU, Grw.start c⟩ ?_
  clear c hU u vU
  rintro m us h ⟨vU, u, rfl, rfl, rfl, hU, hg⟩
  have hul := hg.len o
  have eu := hg.base.els
  simp only [pwA, if_true, if_false, eq_self, nm_eq, reduceCtorEq, ↓reduceIte, nQ10, nQ7, nQ11, nQ12, nQ16, nQ17, nQ18, iQ2, iQ3, iQ4, iQ5, iQ6, lQ19, iQ7, lQ20, hr3]
  refine l32Whole_ok hR o.len (by omega) fun vW hW => ?_
  simp only [pwA, if_true, if_false, eq_self, nm_eq, reduceCtorEq, ↓reduceIte, nQ10, nQ7, nQ11, nQ12, nQ16, nQ17, nQ18, iQ2, iQ3, iQ4, iQ5, iQ6, lQ19, iQ7, lQ20, hr3]
  refine l32Brackets_ok hR o q hp hU hW eu (units_els o.pr) (by omega) (by rw [units_length]; omega) fun vY y cy hY => ?_
  have hyl := cy.len
  simp only [pwA, if_true, if_false, eq_self, nm_eq, reduceCtorEq, ↓reduceIte, nQ10, nQ7, nQ11, nQ12, nQ16, nQ17, nQ18, iQ2, iQ3, iQ4, iQ5, iQ6, lQ19, iQ7, lQ20, hr3]
  refine l32Grown_ok hR o hp hU hY eu cy.els (by omega) fun vO out c hO => ?_
  have r := rnd_spec o q nf (.inl ⟨trivial, rfl⟩) cy c
  have hol := c.len
  obtain ⟨wo, ao, ro, rfl, hro⟩ := hO
  obtain ⟨wu, au, ru, rfl, hru⟩ := hU
  by_cases hlen : out.length = u.length
  · have hlen' : (out.length : Int) = (u.length : Int) := by omega
    simp only [pwA, if_true, if_false, eq_self, nm_eq, reduceCtorEq, ↓reduceIte, nQ10, nQ7, nQ11, nQ12, nQ16, nQ17, nQ18, iQ2, iQ3, iQ4, iQ5, iQ6, lQ19, iQ7, lQ20, hlen', hlen, decide_true]
    exact Gh.fin0 hkp trivial (hk _ u (hg.done o r (by omega)) ⟨wu, au, ru, rfl, hru⟩)
  · have hlen' : ¬ (out.length : Int) = (u.length : Int) := by omega
    have hless := hg.less o r hlen
    simp only [pwA, if_true, if_false, eq_self, nm_eq, reduceCtorEq, ↓reduceIte, nQ10, nQ7, nQ11, nQ12, nQ16, nQ17, nQ18, iQ2, iQ3, iQ4, iQ5, iQ6, lQ19, iQ7, lQ20, hlen', hlen, decide_false]
    exact ⟨n - out.length, by omega, _, out, rfl, rfl, ⟨wo, ao, ro, rfl, hro⟩, hg.next r⟩
theorem IdealOf_S (hR : IsR vP vB W B) (szr : SzR W B) (hL : FII vL gens) (sz : SzL gens)
    (hk : ∀ v z c, LsV (isLie p W B ∧ Els p W.length gens) (ClsOf p W.length W B True gens) z c → FII v z → K (.tup [v, .int .i64 c]) σ) : PCalls Tryz.prog 47 [.agg [.int .i64 p, vP, vB], vL] σ K := by
  have h1 := hR.P.one
  have h2 := hR.B.one
  refine PCalls.gh ?_
  refine pcalls_of_vp mix Tryz.func47 cf47 rfl ?_
  dsimp only [if47, qI, eI, nI, qD, eD]
  simp only [pwA, if_true, if_false, eq_self, nm_eq, reduceCtorEq, ↓reduceIte, nQ10, nQ7, nQ11, nQ12, nQ16, nQ17, nQ18, iQ2, iQ3, iQ4, iQ5, iQ6, lQ19, iQ7, lQ20, h1, h2]
  have hkp : Keep σ (σ.new [.int .i64 p, vP, vB]) := keep_new σ _
  have hr3 : (σ.new [.int .i64 p, vP, vB]).rd σ.next 0 3 = some [.int .i64 p, vP, vB] := by simp only [pwA, if_true, if_false, eq_self, nm_eq, reduceCtorEq, ↓reduceIte, nQ10, nQ7, nQ11, nQ12, nQ16, nQ17, nQ18, iQ2, iQ3, iQ4, iQ5, iQ6, lQ19, iQ7, lQ20]
  generalize σ.new [.int .i64 p, vP, vB] = H at *
  have bad : ¬ (isLie p W B ∧ Els p W.length gens) → Gh σ K (.tup [.fz true .nils 0 [], .int .i64 1]) H := fun e => Gh.fin0 hkp ⟨trivial, trivial, trivial⟩ (hk _ [] 1 (.inl ⟨e, rfl, rfl⟩) nil_FII)
  refine l31Ring_ok hR szr fun t ht => ?_
  cases t with
  | false =>
    simp only [pwA, if_true, if_false, eq_self, nm_eq, reduceCtorEq, ↓reduceIte, nQ10, nQ7, nQ11, nQ12, nQ16, nQ17, nQ18, iQ2, iQ3, iQ4, iQ5, iQ6, lQ19, iQ7, lQ20, hr3]
    exact bad fun e => (by have := ht.2 e.1; cases this)
  | true =>
  have hl := ht.1 rfl
  simp only [pwA, if_true, if_false, eq_self, nm_eq, reduceCtorEq, ↓reduceIte, nQ10, nQ7, nQ11, nQ12, nQ16, nQ17, nQ18, iQ2, iQ3, iQ4, iQ5, iQ6, lQ19, iQ7, lQ20, hr3]
  refine l32Elements_ok hR hL sz hl.1.w.pr fun t ht2 => ?_
  cases t with
  | false =>
    simp only [pwA, if_true, if_false, eq_self, nm_eq, reduceCtorEq, ↓reduceIte, nQ10, nQ7, nQ11, nQ12, nQ16, nQ17, nQ18, iQ2, iQ3, iQ4, iQ5, iQ6, lQ19, iQ7, lQ20, hr3]
    exact bad fun e => (by have := ht2.2 e.2; cases this)
  | true =>
  simp only [pwA, if_true, if_false, eq_self, nm_eq, reduceCtorEq, ↓reduceIte, nQ10, nQ7, nQ11, nQ12, nQ16, nQ17, nQ18, iQ2, iQ3, iQ4, iQ5, iQ6, lQ19, iQ7, lQ20, hr3]
  refine l32Ideal_ok hR hl.1.w hl.1.b hl.2 hl.1.1 hL (ht2.1 rfl) sz.l fun v z c hz => ?_
  simp only [pwA, if_true, if_false, eq_self, nm_eq, reduceCtorEq, ↓reduceIte, nQ10, nQ7, nQ11, nQ12, nQ16, nQ17, nQ18, iQ2, iQ3, iQ4, iQ5, iQ6, lQ19, iQ7, lQ20]
  exact Gh.fin0 hkp ⟨hz.bel _, trivial, trivial⟩ (hk v z 0 (.inr ⟨⟨hl, ht2.1 rfl⟩, c, rfl⟩) hz)
end Go.Proofs
namespace Go.Proofs
open Go.Ab Go.Lie
variable {σ σ0 h h' : PHeap} {K : PV → PHeap → Prop} {vC vP vB : PV} {bs : List Int} {s b n r0 : Nat} {p : Int} {W : List (List Int)} {B : List (List (List Int))}
theorem KM.keepOf (k : KM σ s h) (hk : Keep σ0 σ) (hs : σ0.next ≤ s) : Keep σ0 h := by
  obtain ⟨σ', ⟨c0, c1, h0, h1, rfl⟩, q⟩ := k
  exact (hk.set hs _).trans q
end Go.Proofs
namespace Go.Proofs
open Go.Ab Go.Lie
variable {σ σ0 h h' : PHeap} {K : PV → PHeap → Prop} {vC vP vB vL : PV} {bs : List Int} {s b n r0 : Nat} {p : Int} {W : List (List Int)} {B : List (List (List Int))} {gens u c d : List (List Int)}
theorem DrawLieSpan_ok (hb : FB vC bs) (hB : Byt bs) (hk : ∀ p vP vB W B vL gens, DrR p W B → IsR vP vB W B → FII vL gens → gens.length ≤ 3 → (∀ x ∈ gens, x.length ≤ 7) → K (.tup [.agg [.int .i64 p, vP, vB], vL]) σ) : PCalls Tryz.prog 123 [vC] σ K := by
  refine PCalls.gh ?_
  generalize hT : σ.new [.int .i64 0, .fz true .nils 0 [], .fz true .nils 0 []] = T
  have hTn : T.next = σ.next + 1 := by rw [← hT]; rfl
  have hkT : Keep σ T := by rw [← hT]; exact keep_new σ _
  have obT : T.obj σ.next = some [.int .i64 0, .fz true .nils 0 [], .fz true .nils 0 []] := by rw [← hT]; simp only [pwA, if_true, if_false, eq_self, nm_eq, reduceCtorEq, ↓reduceIte, nQ10, nQ7, nQ11, nQ12, nQ16, nQ17, nQ18, iQ2, iQ3, iQ4, iQ5, iQ6, lQ19, iQ7, lQ20]
  refine pcalls_of_vp mix Tryz.func123 cf123 rfl ?_
  dsimp only [if123, qI, eI, nI, qD, eD]
  simp only [pwA, if_true, if_false, eq_self, nm_eq, reduceCtorEq, ↓reduceIte, nQ10, nQ7, nQ11, nQ12, nQ16, nQ17, nQ18, iQ2, iQ3, iQ4, iQ5, iQ6, lQ19, iQ7, lQ20, hb.one]
  rw [hT]
  refine l01From_ok hb hB fun sd hsd => ?_
  have so1 : So (T.new (srcC vC 0 sd)) T.next vC bs := ⟨0, sd, by rw [pobj_new, if_pos rfl], Nat.lt_succ_self _, hb, hB, Nat.zero_le _, hsd⟩
  have km1 : KM (T.new (srcC vC 0 sd)) T.next (T.new (srcC vC 0 sd)) := so1.km
  have kT1 : Keep T (T.new (srcC vC 0 sd)) := keep_new _ _
  have hs1 : T.next < (T.new (srcC vC 0 sd)).next := Nat.lt_succ_self _
  generalize hU : T.new (srcC vC 0 sd) = U at *
  have hUn : U.next = T.next + 1 := by rw [← hU]; rfl
  simp only [pwA, if_true, if_false, eq_self, nm_eq, reduceCtorEq, ↓reduceIte, nQ10, nQ7, nQ11, nQ12, nQ16, nQ17, nQ18, iQ2, iQ3, iQ4, iQ5, iQ6, lQ19, iQ7, lQ20]
  refine l31Draw_ok so1 fun p vP vB W B h2 d hR m2 so2 => ?_
  have km2 := km1.mv hs1 m2
  have g1 := hR.P.one
  have g2 := hR.B.one
  have h2n := km2.next
  have so3 : So (h2.new [.int .i64 p, vP, vB]) T.next vC bs := so2.keep (keep_new _ _)
  have km3 : KM U T.next (h2.new [.int .i64 p, vP, vB]) := km2.new _
  have hr3 : (h2.new [.int .i64 p, vP, vB]).rd h2.next 0 3 = some [.int .i64 p, vP, vB] := by simp only [pwA, if_true, if_false, eq_self, nm_eq, reduceCtorEq, ↓reduceIte, nQ10, nQ7, nQ11, nQ12, nQ16, nQ17, nQ18, iQ2, iQ3, iQ4, iQ5, iQ6, lQ19, iQ7, lQ20]
  have hob3 : (h2.new [.int .i64 p, vP, vB]).obj h2.next = some [.int .i64 p, vP, vB] := by simp only [pwA, if_true, if_false, eq_self, nm_eq, reduceCtorEq, ↓reduceIte, nQ10, nQ7, nQ11, nQ12, nQ16, nQ17, nQ18, iQ2, iQ3, iQ4, iQ5, iQ6, lQ19, iQ7, lQ20]
  simp only [pwA, if_true, if_false, eq_self, nm_eq, reduceCtorEq, ↓reduceIte, nQ10, nQ7, nQ11, nQ12, nQ16, nQ17, nQ18, iQ2, iQ3, iQ4, iQ5, iQ6, lQ19, iQ7, lQ20, g1, g2]
  refine l32Gens_ok so3 hR (by have := d.p; omega) (by have := d.wl; omega) fun vL gens h6 hvL hgl hgx m6 so6 => ?_
  have km6 := km3.mv hs1 m6
  have rd6 : h6.rd h2.next 0 3 = some [.int .i64 p, vP, vB] := by rw [obj_rd (by rw [m6.obj (by omega)]; exact hob3)]; rfl
  have hU6 : Keep T h6 := km6.keepOf kT1 (Nat.le_refl _)
  have hres : h6.obj σ.next = some [.int .i64 0, .fz true .nils 0 [], .fz true .nils 0 []] := by rw [hU6.obj _ (by omega)]; exact obT
  have x1 : h6.wr σ.next 0 [.int .i64 p, vP, vB] = some (h6.set σ.next [.int .i64 p, vP, vB]) := by rw [obj_wr hres, if_pos ⟨by simp, by simp only [List.all_cons, List.all_nil, g1, g2]; rfl⟩]; rfl
  have x2 : (h6.set σ.next [.int .i64 p, vP, vB]).rd σ.next 0 3 = some [.int .i64 p, vP, vB] := by rw [prd_set, if_pos rfl]; rfl
  have x3 : (h6.set σ.next [.int .i64 p, vP, vB]).rd h2.next 0 3 = some [.int .i64 p, vP, vB] := by rw [prd_set, if_neg (by omega)]; exact rd6
  simp only [pwA, if_true, if_false, eq_self, nm_eq, reduceCtorEq, ↓reduceIte, nQ10, nQ7, nQ11, nQ12, nQ16, nQ17, nQ18, iQ2, iQ3, iQ4, iQ5, iQ6, lQ19, iQ7, lQ20, rd6, x1, x2, x3, g1, g2]
  exact Gh.fin0 ((hkT.trans hU6).set (Nat.le_refl _) _) ⟨⟨trivial, hR.P.bel _, hR.B.bel _, trivial⟩, hvL.bel _, trivial⟩ (hk p vP vB W B vL gens d hR hvL hgl fun x hx => by have := hgx x hx; have := d.wl; omega)
end Go.Proofs
namespace Go.Proofs
open Go.Ab Go.Lie
variable {σ : PHeap} {K : PV → PHeap → Prop} {p : Int} {n : Nat} {W : List (List Int)} {B : List (List (List Int))} {vP vB vL vU vV vX vC : PV} {s : Nat} {u gens : List (List Int)} {x bs : List Int}
def lftI (u : List (List Int)) (n : Nat) : List Int := (lft u n).map fun i : Nat => (i : Int)
theorem lftI_length : (lftI u n).length = (lft u n).length := by simp [lftI]
theorem lftI_get {a : Nat} (h : a < (lft u n).length) : (pis (lftI u n))[a]? = some (.int .i64 (lf u n a)) := by
  rw [lf_eq h]
  simp [pis, lftI, h]
theorem lft_yes {i : Nat} (h : ∀ v ∈ u, dep v ≠ i) : lft u (i + 1) = lft u i ++ [i] := by
  unfold lft
  rw [List.range_succ, List.filter_append]
  congr 1
  rw [List.filter_cons_of_pos (by simpa using h)]; rfl
theorem lft_no {i : Nat} (h : ¬ ∀ v ∈ u, dep v ≠ i) : lft u (i + 1) = lft u i := by
  unfold lft
  rw [List.range_succ, List.filter_append, List.filter_cons_of_neg (by simpa using h), List.filter_nil, List.append_nil]
theorem lft_le (u : List (List Int)) (n : Nat) : (lft u n).length ≤ n := by
  unfold lft
  have := List.length_filter_le (fun i => u.all fun v => dep v != i) (List.range n)
  rwa [List.length_range] at this
theorem Index_ok {w : Bool} {a : AV} {xs : List Int} {k : Int} (hb : xs.length ≤ 1048576) (hk : ∀ r : Int, (0 ≤ r ↔ k ∈ xs) → K (.int .i64 r) σ) : PCalls Tryz.prog 274 [.fz w a xs.length (pis xs), .int .i64 k] σ K := by
  refine pcalls_of_vp mix Tryz.func274 cf274 rfl ?_
  dsimp only [if274, qI, eI, nI, qD, eD]
  simp only [pwA, if_true, if_false, eq_self, nm_eq, reduceCtorEq, ↓reduceIte, nQ10, nQ7, nQ11, nQ12, nQ16, nQ17, nQ18, iQ2, iQ3, iQ4, iQ5, iQ6, lQ19, iQ7, lQ20]
  refine vp_loop (fun m us h => ∃ i : Nat, i ≤ xs.length ∧ m = xs.length - i ∧ us = [.fz w a xs.length (pis xs), .int .i64 k, .int .i64 xs.length, .int .i64 i] ∧ σ = h ∧ ∀ j (h : j < xs.length), j < i → xs[j] ≠ k) xs.length ⟨0, by omega, by omega, rfl, rfl, fun j h hj => by omega⟩ ?_
  rintro m us h ⟨i, hi, rfl, rfl, rfl, hall⟩
  simp only [pwA, if_true, if_false, eq_self, nm_eq, reduceCtorEq, ↓reduceIte, nQ10, nQ7, nQ11, nQ12, nQ16, nQ17, nQ18, iQ2, iQ3, iQ4, iQ5, iQ6, lQ19, iQ7, lQ20]
  refine iteI (fun hlt => ?_) fun hge => ?_
  rotate_left
  · refine hk _ ⟨fun h => by omega, fun h => ?_⟩
    obtain ⟨j, hj, e⟩ := List.mem_iff_getElem.1 h
    exact absurd e (hall j hj (by omega))
  by_cases he : k = xs[i]
  · simp only [pwA, if_true, if_false, eq_self, nm_eq, reduceCtorEq, ↓reduceIte, nQ10, nQ7, nQ11, nQ12, nQ16, nQ17, nQ18, iQ2, iQ3, iQ4, iQ5, iQ6, lQ19, iQ7, lQ20, hlt, gi hlt, pis_get, he, eq_true he]
    exact hk _ ⟨fun _ => by rw [he]; exact List.getElem_mem hlt, fun _ => by omega⟩
  · simp only [pwA, if_true, if_false, eq_self, nm_eq, reduceCtorEq, ↓reduceIte, nQ10, nQ7, nQ11, nQ12, nQ16, nQ17, nQ18, iQ2, iQ3, iQ4, iQ5, iQ6, lQ19, iQ7, lQ20, hlt, gi hlt, pis_get, he, wrapS hlt (by omega : xs.length ≤ 4611686018427387904)]
    refine ⟨_, by omega, i + 1, by omega, rfl, rfl, fun j h hj e => ?_⟩
    by_cases e2 : j = i
    · subst e2; exact he e.symm
    · exact hall j h (by omega) e
theorem Contains_ok {w : Bool} {a : AV} {xs : List Int} {k : Int} (hb : xs.length ≤ 1048576) (hk : ∀ t : Bool, (t = true ↔ k ∈ xs) → K (.bool t) σ) : PCalls Tryz.prog 222 [.fz w a xs.length (pis xs), .int .i64 k] σ K := by
  refine pcalls_of_vp mix Tryz.func222 cf222 rfl ?_
  dsimp only [if222, qI, eI, nI, qD, eD]
  simp only [pwA, if_true, if_false, eq_self, nm_eq, reduceCtorEq, ↓reduceIte, nQ10, nQ7, nQ11, nQ12, nQ16, nQ17, nQ18, iQ2, iQ3, iQ4, iQ5, iQ6, lQ19, iQ7, lQ20]
  refine Index_ok hb fun r hr => ?_
  simp only [pwA, if_true, if_false, eq_self, nm_eq, reduceCtorEq, ↓reduceIte, nQ10, nQ7, nQ11, nQ12, nQ16, nQ17, nQ18, iQ2, iQ3, iQ4, iQ5, iQ6, lQ19, iQ7, lQ20]
  exact hk _ (by rw [decide_eq_true_eq]; exact hr)
theorem deps_mem {i : Nat} : ((i : Int) ∈ deps u) ↔ ¬ ∀ v ∈ u, dep v ≠ i := by
  unfold deps
  simp only [List.mem_map]
  constructor
  · rintro ⟨v, hv, e⟩ h
    exact h v hv (by omega)
  · intro h
    by_cases g : ∃ v ∈ u, dep v = i
    · obtain ⟨v, hv, e⟩ := g
      exact ⟨v, hv, by omega⟩
    · exact absurd (fun v hv e => g ⟨v, hv, e⟩) h
theorem otherDepths_ok (hs : PtrR σ s p vP vB) (hP : FII vP W) (o : OkW p n W) (hU : FII vU u) (hb : Base p n W u) (hk : ∀ v, FI v (lftI u n) → K v σ) : PCalls Tryz.prog 137 [.ptr s 0, vU] σ K := by
  have hWn := o.len
  have hn6 := o.le
  have hul : u.length ≤ n := asc_length (fun v hv => (hb.led v hv).2.1) hb.asc
  obtain ⟨wp, ap, rp, rfl, hrp⟩ := hP
  have hP1 : σ.rd1 s 1 = some (.fz wp ap W.length rp) := by rw [obj_rd1 hs.obj]; rfl
  refine PCalls.gh ?_
  refine pcalls_of_vp mix Tryz.func137 cf137 rfl ?_
  dsimp only [if137, qI, eI, nI, qD, eD]
  simp only [pwA, if_true, if_false, eq_self, nm_eq, reduceCtorEq, ↓reduceIte, nQ10, nQ7, nQ11, nQ12, nQ16, nQ17, nQ18, iQ2, iQ3, iQ4, iQ5, iQ6, lQ19, iQ7, lQ20, hP1, hWn]
  refine vp_loop (fun m us h => ∃ (i : Nat) (v : PV), i ≤ n ∧ m = n - i ∧ us = [vU, v, .int .i64 n, .int .i64 i] ∧ Keep σ h ∧ PAcc σ.next 1 h v (lft u i).length (pis (lftI u i))) n ?_ ?_
  · exact ⟨0, _, by omega, by omega, rfl, Keep.refl σ, PAcc.nil _ _ _⟩
  rintro m us h ⟨i, v, hi, rfl, rfl, hkp, ha⟩
  have hil := lft_le u i
  simp only [pwA, if_true, if_false, eq_self, nm_eq, reduceCtorEq, ↓reduceIte, nQ10, nQ7, nQ11, nQ12, nQ16, nQ17, nQ18, iQ2, iQ3, iQ4, iQ5, iQ6, lQ19, iQ7, lQ20]
  refine iteI (fun hlt => ?_) fun hge => ?_
  rotate_left
  · have hie : i = n := by omega
    subst hie
    exact ha.fin hkp (pis_bel _ _) fun a => hk _ ⟨true, a, by rw [lftI_length]⟩
  simp only [pwA, if_true, if_false, eq_self, nm_eq, reduceCtorEq, ↓reduceIte, nQ10, nQ7, nQ11, nQ12, nQ16, nQ17, nQ18, iQ2, iQ3, iQ4, iQ5, iQ6, lQ19, iQ7, lQ20]
  refine pivots_ok hU (fun v hv => ⟨by rw [(hb.led v hv).1.1]; exact (hb.led v hv).2.1, by rw [(hb.led v hv).1.1]; omega⟩) (by omega) fun vp => ?_
  have hdl : (deps u).length = u.length := by simp [deps]
  simp only [pwA, if_true, if_false, eq_self, nm_eq, reduceCtorEq, ↓reduceIte, nQ10, nQ7, nQ11, nQ12, nQ16, nQ17, nQ18, iQ2, iQ3, iQ4, iQ5, iQ6, lQ19, iQ7, lQ20]
  rw [← hdl]
  refine Contains_ok (by omega) fun t ht => ?_
  rw [deps_mem] at ht
  cases t with
  | true =>
    simp only [pwA, if_true, if_false, eq_self, nm_eq, reduceCtorEq, ↓reduceIte, nQ10, nQ7, nQ11, nQ12, nQ16, nQ17, nQ18, iQ2, iQ3, iQ4, iQ5, iQ6, lQ19, iQ7, lQ20, wrapS hlt (by omega : n ≤ 4611686018427387904)]
    refine ⟨_, by omega, i + 1, v, by omega, rfl, rfl, hkp, ?_⟩
    unfold lftI
    rw [lft_no (ht.1 rfl)]
    exact ha
  | false =>
    have hy : ∀ v ∈ u, dep v ≠ i := by
      by_cases g : ∀ v ∈ u, dep v ≠ i
      · exact g
      · have := ht.2 g; cases this
    simp only [pwA, if_true, if_false, eq_self, nm_eq, reduceCtorEq, ↓reduceIte, nQ10, nQ7, nQ11, nQ12, nQ16, nQ17, nQ18, iQ2, iQ3, iQ4, iQ5, iQ6, lQ19, iQ7, lQ20]
    refine PAcc.push (bytes := 8) (σb := σ) hkp ha (by omega) (by omega) fun v2 h2 k2 a2 => ?_
    simp only [pwA, if_true, if_false, eq_self, nm_eq, reduceCtorEq, ↓reduceIte, nQ10, nQ7, nQ11, nQ12, nQ16, nQ17, nQ18, iQ2, iQ3, iQ4, iQ5, iQ6, lQ19, iQ7, lQ20, wrapS hlt (by omega : n ≤ 4611686018427387904)]
    refine ⟨_, by omega, i + 1, v2, by omega, rfl, rfl, k2, ?_⟩
    unfold lftI
    rw [lft_yes hy, List.length_append, List.map_append, ← pis_append]
    exact a2.acc
theorem lieImage_sl (hs : PtrR σ s p vP vB) (hP : FII vP W) (o : OkW p n W) (hU : FII vU u) (hb : Base p n W u) (hx : FI vX x) (ex : El p n x)
    (hk : ∀ cap, full 1 cap (lft u n).length → K (.sl σ.next 0 (lft u n).length cap) (σ.new (pis (im1 p W u n x)))) : PCalls Tryz.prog 139 [.ptr s 0, vU, vX] σ K := by
  have hn6 := o.le
  have hul : u.length ≤ n := asc_length (fun v hv => (hb.led v hv).2.1) hb.asc
  have hll := lft_le u n
  have hrl := (redL_el o hb.els ex).1
  obtain ⟨wx, ax, rfl⟩ := hx
  refine PCalls.gh ?_
  refine pcalls_of_vp mix Tryz.func139 cf139 rfl ?_
  dsimp only [if139, qI, eI, nI, qD, eD]
  simp only [pwA, if_true, if_false, eq_self, nm_eq, reduceCtorEq, ↓reduceIte, nQ10, nQ7, nQ11, nQ12, nQ16, nQ17, nQ18, iQ2, iQ3, iQ4, iQ5, iQ6, lQ19, iQ7, lQ20]
  refine reduceLie_ok hs hP o hU (fun v hv => ⟨(hb.led v hv).1, (hb.led v hv).2.1⟩) (by omega) ex rfl fun v1 => ?_
  have hat : ∀ i, i < n → (pis (redL p W u x))[i]? = some (.int .i64 (at_ (redL p W u x) i)) := fun i hi => by
    have h : i < (redL p W u x).length := by rw [hrl]; exact hi
    rw [at_eq h]; simp [pis, h]
  have himl := im1_length (p := p) (W := W) (u := u) (n := n) x
  have himt : ∀ a, a < (lft u n).length → (im1 p W u n x).take (a + 1) = (im1 p W u n x).take a ++ [at_ (redL p W u x) (lf u n a)] := fun a ha => by
    have h : a < (im1 p W u n x).length := by rw [himl]; exact ha
    rw [List.take_succ_eq_append_getElem h, ← at_eq h, im1_at x ha]
  generalize im1 p W u n x = X at *
  generalize redL p W u x = z at *
  simp only [pwA, if_true, if_false, eq_self, nm_eq, reduceCtorEq, ↓reduceIte, nQ10, nQ7, nQ11, nQ12, nQ16, nQ17, nQ18, iQ2, iQ3, iQ4, iQ5, iQ6, lQ19, iQ7, lQ20]
  refine otherDepths_ok (n := n) (hs.new _) hP o hU hb fun vO hO => ?_
  obtain ⟨wo, ao, rfl⟩ := hO
  have hlI := lftI_length (u := u) (n := n)
  simp only [pwA, if_true, if_false, eq_self, nm_eq, reduceCtorEq, ↓reduceIte, nQ10, nQ7, nQ11, nQ12, nQ16, nQ17, nQ18, iQ2, iQ3, iQ4, iQ5, iQ6, lQ19, iQ7, lQ20, hlI]
  refine vp_loop (fun m us h => ∃ (a : Nat) (v : PV), a ≤ (lft u n).length ∧ m = (lft u n).length - a ∧ us = [.fz true v1 n (pis z), v, .fz wo ao (lft u n).length (pis (lftI u n)), .int .i64 (lft u n).length, .int .i64 a] ∧ Keep σ h ∧ PSl σ.next 1 h v a (pis (X.take a))) (lft u n).length ?_ ?_
  · exact ⟨0, _, by omega, by omega, rfl, keep_new σ _, PSl.new _ 1 rfl (Nat.le_refl _)⟩
  rintro m us h ⟨a, v, ha, rfl, rfl, hkp, ps⟩
  simp only [pwA, if_true, if_false, eq_self, nm_eq, reduceCtorEq, ↓reduceIte, nQ10, nQ7, nQ11, nQ12, nQ16, nQ17, nQ18, iQ2, iQ3, iQ4, iQ5, iQ6, lQ19, iQ7, lQ20, hlI]
  refine iteI (fun hlt => ?_) fun hge => ?_
  rotate_left
  · have hae : a = (lft u n).length := by omega
    subst hae
    rw [List.take_of_length_le (by omega)] at ps
    obtain ⟨t, cap, rfl, hc, q2, q3, q4, q5⟩ := ps
    exact Gh.finS (s := t) hkp q2 q4 (pis_bel _ _) (hk cap hc)
  have hl := lftI_get (u := u) (n := n) hlt
  have hln := (lf_spec hlt).1
  have hz := hat _ hln
  simp only [pwA, if_true, if_false, eq_self, nm_eq, reduceCtorEq, ↓reduceIte, nQ10, nQ7, nQ11, nQ12, nQ16, nQ17, nQ18, iQ2, iQ3, iQ4, iQ5, iQ6, lQ19, iQ7, lQ20, hlt, hlI, hl, hln, hz]
  refine PSl.push (bytes := 8) (σb := σ) hkp ps (by omega) (by omega) fun v2 h2 k2 a2 => ?_
  simp only [pwA, if_true, if_false, eq_self, nm_eq, reduceCtorEq, ↓reduceIte, nQ10, nQ7, nQ11, nQ12, nQ16, nQ17, nQ18, iQ2, iQ3, iQ4, iQ5, iQ6, lQ19, iQ7, lQ20, wrapS hlt (by omega : (lft u n).length ≤ 4611686018427387904)]
  refine ⟨_, by omega, a + 1, v2, by omega, rfl, rfl, k2, ?_⟩
  rw [himt a hlt, ← pis_append]
  exact a2
theorem lieImage_ok (hs : PtrR σ s p vP vB) (hP : FII vP W) (o : OkW p n W) (hU : FII vU u) (hb : Base p n W u) (hx : FI vX x) (ex : El p n x)
    (hk : ∀ v, FI v (im1 p W u n x) → K v σ) : PCalls Tryz.prog 139 [.ptr s 0, vU, vX] σ K :=
  PCalls.fz (fun K' h' => lieImage_sl hs hP o hU hb hx ex h') (pis_bel _ _) fun a cap => hk _ ⟨true, _, by rw [im1_length]⟩
end Go.Proofs
namespace Go.Proofs
open Go.Ab Go.Lie
variable {σ : PHeap} {K : PV → PHeap → Prop} {p : Int} {n : Nat} {W : List (List Int)} {B : List (List (List Int))} {vP vB vL vU vV vX vC : PV} {s : Nat} {u gens : List (List Int)} {x bs : List Int}
theorem l32Left_ok (hR : IsR vP vB W B) (o : OkW p n W) (hU : FII vU u) (hb : Base p n W u) (hk : ∀ v, FI v (lftI u n) → K v σ) : PCalls Tryz.prog 224 [.agg [.int .i64 p, vP, vB], vU] σ K := by
  have hWn := o.len
  have hn6 := o.le
  have h1 := hR.P.one
  have h2 := hR.B.one
  have hul : u.length ≤ n := asc_length (fun v hv => (hb.led v hv).2.1) hb.asc
  obtain ⟨⟨wp, ap, rp, rfl, hrp⟩, hBB⟩ := hR
  obtain ⟨wu, au, ru, rfl, hru⟩ := hU
  refine PCalls.gh ?_
  refine pcalls_of_vp mix Tryz.func224 cf224 rfl ?_
  dsimp only [if224, qI, eI, nI, qD, eD]
  simp only [pwA, if_true, if_false, eq_self, nm_eq, reduceCtorEq, ↓reduceIte, nQ10, nQ7, nQ11, nQ12, nQ16, nQ17, nQ18, iQ2, iQ3, iQ4, iQ5, iQ6, lQ19, iQ7, lQ20, h1, h2]
  have hob : (σ.new [.int .i64 p, .fz wp ap W.length rp, vB]).obj σ.next = some [.int .i64 p, .fz wp ap W.length rp, vB] := by simp only [pwA, if_true, if_false, eq_self, nm_eq, reduceCtorEq, ↓reduceIte, nQ10, nQ7, nQ11, nQ12, nQ16, nQ17, nQ18, iQ2, iQ3, iQ4, iQ5, iQ6, lQ19, iQ7, lQ20]
  have hHk : Keep σ (σ.new [.int .i64 p, .fz wp ap W.length rp, vB]) := keep_new σ _
  have hHn : (σ.new [.int .i64 p, .fz wp ap W.length rp, vB]).next = σ.next + 1 := rfl
  generalize σ.new [.int .i64 p, .fz wp ap W.length rp, vB] = H at *
  refine vp_loop (fun m us h => ∃ (i : Nat) (v : PV), i ≤ n ∧ m = n - i ∧ us = [.fz wu au u.length ru, .ptr σ.next 0, v, .int .i64 i] ∧ Keep H h ∧ PSl H.next 1 h v (lft u i).length (pis (lftI u i))) n ?_ ?_
  · refine ⟨0, _, by omega, by omega, rfl, keep_new H _, ?_⟩
    rw [← hHn]
    exact PSl.new _ 1 rfl (Nat.le_refl _)
  rintro m us h ⟨i, v, hi, rfl, rfl, hkp, ps⟩
  have hil := lft_le u i
  have hob' : h.obj σ.next = some [.int .i64 p, .fz wp ap W.length rp, vB] := by rw [hkp.obj _ (by omega)]; exact hob
  have hr1 : h.rd1 σ.next 1 = some (.fz wp ap W.length rp) := by rw [obj_rd1 hob']; rfl
  simp only [pwA, if_true, if_false, eq_self, nm_eq, reduceCtorEq, ↓reduceIte, nQ10, nQ7, nQ11, nQ12, nQ16, nQ17, nQ18, iQ2, iQ3, iQ4, iQ5, iQ6, lQ19, iQ7, lQ20, hr1, hWn]
  refine iteI (fun hlt => ?_) fun hge => ?_
  rotate_left
  · have hie : i = n := by omega
    subst hie
    obtain ⟨t, cap, rfl, hc, q2, q3, q4, q5⟩ := ps
    exact Gh.finF (hHk.trans hkp) q2 (by omega) (pis_bel _ _) hc.ok fun o1 => hk _ ⟨true, .sl o1 0 (lft u i).length cap, by rw [lftI_length]⟩
  simp only [pwA, if_true, if_false, eq_self, nm_eq, reduceCtorEq, ↓reduceIte, nQ10, nQ7, nQ11, nQ12, nQ16, nQ17, nQ18, iQ2, iQ3, iQ4, iQ5, iQ6, lQ19, iQ7, lQ20]
  refine vp_loop (fun m us g => ∃ (k : Nat) (b : Bool), k ≤ u.length ∧ m = u.length - k ∧ us = [.fz wu au u.length ru, .ptr σ.next 0, v, .int .i64 i, .bool b, .int .i64 k] ∧ h = g ∧ (b = true ↔ ∀ j (hj : j < u.length), j < k → dep u[j] ≠ i)) u.length ⟨0, true, by omega, by omega, rfl, rfl, ⟨fun _ j hj h0 => by omega, fun _ => rfl⟩⟩ ?_
  rintro m us g ⟨k, b, hku, rfl, rfl, rfl, hbk⟩
  simp only [pwA, if_true, if_false, eq_self, nm_eq, reduceCtorEq, ↓reduceIte, nQ10, nQ7, nQ11, nQ12, nQ16, nQ17, nQ18, iQ2, iQ3, iQ4, iQ5, iQ6, lQ19, iQ7, lQ20]
  refine iteI (fun hltk => ?_) fun hgek => ?_
  rotate_left
  · have hke : k = u.length := by omega
    have hb2 : b = true ↔ ∀ v ∈ u, dep v ≠ i := hbk.trans ⟨fun h v hv => by
      obtain ⟨j, hj, rfl⟩ := List.mem_iff_getElem.1 hv
      exact h j hj (by omega), fun h j hj _ => h _ (List.getElem_mem hj)⟩
    cases b with
    | false =>
      simp only [pwA, if_true, if_false, eq_self, nm_eq, reduceCtorEq, ↓reduceIte, nQ10, nQ7, nQ11, nQ12, nQ16, nQ17, nQ18, iQ2, iQ3, iQ4, iQ5, iQ6, lQ19, iQ7, lQ20, wrapS hlt (by omega : n ≤ 4611686018427387904)]
      refine ⟨_, by omega, i + 1, v, by omega, rfl, rfl, hkp, ?_⟩
      unfold lftI
      rw [lft_no fun h => by have := hb2.2 h; cases this]
      exact ps
    | true =>
      simp only [pwA, if_true, if_false, eq_self, nm_eq, reduceCtorEq, ↓reduceIte, nQ10, nQ7, nQ11, nQ12, nQ16, nQ17, nQ18, iQ2, iQ3, iQ4, iQ5, iQ6, lQ19, iQ7, lQ20]
      refine PSl.push (bytes := 8) (σb := H) hkp ps (by omega) (by omega) fun v2 h2 k2 a2 => ?_
      simp only [pwA, if_true, if_false, eq_self, nm_eq, reduceCtorEq, ↓reduceIte, nQ10, nQ7, nQ11, nQ12, nQ16, nQ17, nQ18, iQ2, iQ3, iQ4, iQ5, iQ6, lQ19, iQ7, lQ20, wrapS hlt (by omega : n ≤ 4611686018427387904)]
      refine ⟨_, by omega, i + 1, v2, by omega, rfl, rfl, k2, ?_⟩
      unfold lftI
      rw [lft_yes (hb2.1 rfl), List.length_append, List.map_append, ← pis_append]
      exact a2
  have wk1 : IntKind.i64.wrap ((k : Int) + 1) = ((k + 1 : Nat) : Int) := wrapS hltk (by omega)
  cases b with
  | false =>
    simp only [pwA, if_true, if_false, eq_self, nm_eq, reduceCtorEq, ↓reduceIte, nQ10, nQ7, nQ11, nQ12, nQ16, nQ17, nQ18, iQ2, iQ3, iQ4, iQ5, iQ6, lQ19, iQ7, lQ20, wk1]
    refine ⟨_, by omega, k + 1, false, by omega, rfl, rfl, ⟨fun e => (by cases e), fun h => ?_⟩⟩
    exact hbk.2 fun j hj hjk => h j hj (by omega)
  | true =>
  obtain ⟨w5, a5, hr5⟩ := hru.rowI hltk
  have hle := (hb.led _ (List.getElem_mem hltk)).1.1
  simp only [pwA, if_true, if_false, eq_self, nm_eq, reduceCtorEq, ↓reduceIte, nQ10, nQ7, nQ11, nQ12, nQ16, nQ17, nQ18, iQ2, iQ3, iQ4, iQ5, iQ6, lQ19, iQ7, lQ20, hltk, hr5]
  refine l32Depth_ok rfl (by omega) ?_
  have hd : (¬ (dep u[k] : Int) = (i : Int)) ↔ dep u[k] ≠ i := by omega
  simp only [pwA, if_true, if_false, eq_self, nm_eq, reduceCtorEq, ↓reduceIte, nQ10, nQ7, nQ11, nQ12, nQ16, nQ17, nQ18, iQ2, iQ3, iQ4, iQ5, iQ6, lQ19, iQ7, lQ20, wk1]
  refine ⟨_, by omega, k + 1, _, by omega, rfl, rfl, ?_⟩
  simp only [Bool.not_eq_true', decide_eq_false_iff_not, decide_eq_true_eq, ne_eq]
  refine ⟨fun e j hj hjk => ?_, fun h => ?_⟩
  · by_cases e2 : j = k
    · subst e2; omega
    · exact hbk.1 rfl j hj (by omega)
  · have := h k hltk (by omega)
    omega
theorem l32Image_ok (hR : IsR vP vB W B) (o : OkW p n W) (hU : FII vU u) (hb : Base p n W u) (hx : FI vX x) (ex : El p n x)
    (hk : ∀ v, FI v (im1 p W u n x) → K v σ) : PCalls Tryz.prog 146 [.agg [.int .i64 p, vP, vB], vU, vX] σ K := by
  have hn6 := o.le
  have h1 := hR.P.one
  have h2 := hR.B.one
  have hul : u.length ≤ n := asc_length (fun v hv => (hb.led v hv).2.1) hb.asc
  have hll := lft_le u n
  have hrl := (redL_el o hb.els ex).1
  obtain ⟨wx, ax, rfl⟩ := hx
  refine PCalls.gh ?_
  refine pcalls_of_vp mix Tryz.func146 cf146 rfl ?_
  dsimp only [if146, qI, eI, nI, qD, eD]
  simp only [pwA, if_true, if_false, eq_self, nm_eq, reduceCtorEq, ↓reduceIte, nQ10, nQ7, nQ11, nQ12, nQ16, nQ17, nQ18, iQ2, iQ3, iQ4, iQ5, iQ6, lQ19, iQ7, lQ20, h1, h2]
  have hr3 : (σ.new [.int .i64 p, vP, vB]).rd σ.next 0 3 = some [.int .i64 p, vP, vB] := by simp only [pwA, if_true, if_false, eq_self, nm_eq, reduceCtorEq, ↓reduceIte, nQ10, nQ7, nQ11, nQ12, nQ16, nQ17, nQ18, iQ2, iQ3, iQ4, iQ5, iQ6, lQ19, iQ7, lQ20]
  have hHk : Keep σ (σ.new [.int .i64 p, vP, vB]) := keep_new σ _
  generalize σ.new [.int .i64 p, vP, vB] = H at *
  refine l32Reduce_ok hR o hU (fun v hv => ⟨(hb.led v hv).1, (hb.led v hv).2.1⟩) (by omega) ex rfl fun v1 => ?_
  have hat : ∀ i, i < n → (pis (redL p W u x))[i]? = some (.int .i64 (at_ (redL p W u x) i)) := fun i hi => by
    have h : i < (redL p W u x).length := by rw [hrl]; exact hi
    rw [at_eq h]; simp [pis, h]
  have himl := im1_length (p := p) (W := W) (u := u) (n := n) x
  have himt : ∀ a, a < (lft u n).length → (im1 p W u n x).take (a + 1) = (im1 p W u n x).take a ++ [at_ (redL p W u x) (lf u n a)] := fun a ha => by
    have h : a < (im1 p W u n x).length := by rw [himl]; exact ha
    rw [List.take_succ_eq_append_getElem h, ← at_eq h, im1_at x ha]
  generalize im1 p W u n x = X at *
  generalize redL p W u x = z at *
  simp only [pwA, if_true, if_false, eq_self, nm_eq, reduceCtorEq, ↓reduceIte, nQ10, nQ7, nQ11, nQ12, nQ16, nQ17, nQ18, iQ2, iQ3, iQ4, iQ5, iQ6, lQ19, iQ7, lQ20, hr3]
  refine l32Left_ok hR o hU hb fun vO hO => ?_
  obtain ⟨wo, ao, rfl⟩ := hO
  have hlI := lftI_length (u := u) (n := n)
  simp only [pwA, if_true, if_false, eq_self, nm_eq, reduceCtorEq, ↓reduceIte, nQ10, nQ7, nQ11, nQ12, nQ16, nQ17, nQ18, iQ2, iQ3, iQ4, iQ5, iQ6, lQ19, iQ7, lQ20, hlI, hr3]
  refine vp_loop (fun m us h => ∃ (a : Nat) (v : PV), a ≤ (lft u n).length ∧ m = (lft u n).length - a ∧ us = [.fz true v1 n (pis z), .fz wo ao (lft u n).length (pis (lftI u n)), v, .int .i64 a] ∧ Keep H h ∧ PSl H.next 1 h v a (pis (X.take a))) (lft u n).length ?_ ?_
  · exact ⟨0, _, by omega, by omega, rfl, keep_new H _, PSl.new _ 1 rfl (Nat.le_refl _)⟩
  rintro m us h ⟨a, v, ha, rfl, rfl, hkp, ps⟩
  simp only [pwA, if_true, if_false, eq_self, nm_eq, reduceCtorEq, ↓reduceIte, nQ10, nQ7, nQ11, nQ12, nQ16, nQ17, nQ18, iQ2, iQ3, iQ4, iQ5, iQ6, lQ19, iQ7, lQ20, hlI]
  refine iteI (fun hlt => ?_) fun hge => ?_
  rotate_left
  · have hae : a = (lft u n).length := by omega
    subst hae
    rw [List.take_of_length_le (by omega)] at ps
    obtain ⟨t, cap, rfl, hc, q2, q3, q4, q5⟩ := ps
    exact Gh.finF (hHk.trans hkp) q2 (by have := hHk.next; omega) (pis_bel _ _) hc.ok fun o1 => hk _ ⟨true, .sl o1 0 (lft u n).length cap, by rw [himl]⟩
  have hl := lftI_get (u := u) (n := n) hlt
  have hln := (lf_spec hlt).1
  have hz := hat _ hln
  simp only [pwA, if_true, if_false, eq_self, nm_eq, reduceCtorEq, ↓reduceIte, nQ10, nQ7, nQ11, nQ12, nQ16, nQ17, nQ18, iQ2, iQ3, iQ4, iQ5, iQ6, lQ19, iQ7, lQ20, hlt, hlI, hl, hln, hz]
  refine PSl.push (bytes := 8) (σb := H) hkp ps (by omega) (by omega) fun v2 h2 k2 a2 => ?_
  simp only [pwA, if_true, if_false, eq_self, nm_eq, reduceCtorEq, ↓reduceIte, nQ10, nQ7, nQ11, nQ12, nQ16, nQ17, nQ18, iQ2, iQ3, iQ4, iQ5, iQ6, lQ19, iQ7, lQ20, wrapS hlt (by omega : (lft u n).length ≤ 4611686018427387904)]
  refine ⟨_, by omega, a + 1, v2, by omega, rfl, rfl, k2, ?_⟩
  rw [himt a hlt, ← pis_append]
  exact a2
theorem l32Within_ok {list : List (List Int)} (hR : IsR vP vB W B) (o : OkW p n W) (hU : FII vU u) (hb : Base p n W u) (hL : FII vL list) (eL : Els p n list) (hll : list.length ≤ 1048576)
    (hk : ∀ t : Bool, (t = true ↔ ∀ x ∈ list, Gen p n W u (at_ x)) → K (.bool t) σ) : PCalls Tryz.prog 159 [.agg [.int .i64 p, vP, vB], vU, vL] σ K := by
  have h1 := hR.P.one
  have h2 := hR.B.one
  obtain ⟨wl, al, rl, rfl, hrl⟩ := hL
  refine PCalls.gh ?_
  refine pcalls_of_vp mix Tryz.func159 cf159 rfl ?_
  dsimp only [if159, qI, eI, nI, qD, eD]
  simp only [pwA, if_true, if_false, eq_self, nm_eq, reduceCtorEq, ↓reduceIte, nQ10, nQ7, nQ11, nQ12, nQ16, nQ17, nQ18, iQ2, iQ3, iQ4, iQ5, iQ6, lQ19, iQ7, lQ20, h1, h2]
  have hr3 : (σ.new [.int .i64 p, vP, vB]).rd σ.next 0 3 = some [.int .i64 p, vP, vB] := by simp only [pwA, if_true, if_false, eq_self, nm_eq, reduceCtorEq, ↓reduceIte, nQ10, nQ7, nQ11, nQ12, nQ16, nQ17, nQ18, iQ2, iQ3, iQ4, iQ5, iQ6, lQ19, iQ7, lQ20]
  have hHk : Keep σ (σ.new [.int .i64 p, vP, vB]) := keep_new σ _
  generalize σ.new [.int .i64 p, vP, vB] = H at *
  refine vp_loop (fun m us h => ∃ i : Nat, i ≤ list.length ∧ m = list.length - i ∧ us = [vU, .fz wl al list.length rl, .ptr σ.next 0, .int .i64 i] ∧ H = h ∧ ∀ j (hj : j < list.length), j < i → Gen p n W u (at_ list[j])) list.length ⟨0, by omega, by omega, rfl, rfl, fun j hj h0 => by omega⟩ ?_
  rintro m us h ⟨i, hi, rfl, rfl, rfl, hall⟩
  simp only [pwA, if_true, if_false, eq_self, nm_eq, reduceCtorEq, ↓reduceIte, nQ10, nQ7, nQ11, nQ12, nQ16, nQ17, nQ18, iQ2, iQ3, iQ4, iQ5, iQ6, lQ19, iQ7, lQ20]
  refine iteI (fun hlt => ?_) fun hge => ?_
  rotate_left
  · refine Gh.fin0 hHk trivial (hk _ ⟨fun _ x hx => ?_, fun _ => rfl⟩)
    obtain ⟨j, hj, rfl⟩ := List.mem_iff_getElem.1 hx
    exact hall j hj (by omega)
  obtain ⟨w5, a5, hr5⟩ := hrl.rowI hlt
  simp only [pwA, if_true, if_false, eq_self, nm_eq, reduceCtorEq, ↓reduceIte, nQ10, nQ7, nQ11, nQ12, nQ16, nQ17, nQ18, iQ2, iQ3, iQ4, iQ5, iQ6, lQ19, iQ7, lQ20, hlt, hr5, hr3]
  refine l32In_ok hR o hU hb (x := list[i]) ⟨w5, a5, rfl⟩ (eL _ (List.getElem_mem hlt)) fun t ht => ?_
  cases t with
  | false =>
    simp only [pwA, if_true, if_false, eq_self, nm_eq, reduceCtorEq, ↓reduceIte, nQ10, nQ7, nQ11, nQ12, nQ16, nQ17, nQ18, iQ2, iQ3, iQ4, iQ5, iQ6, lQ19, iQ7, lQ20, hlt, hr5, hr3]
    exact Gh.fin0 hHk trivial (hk _ ⟨fun e => (by cases e), fun h => by have := ht.2 (h _ (List.getElem_mem hlt)); cases this⟩)
  | true =>
    simp only [pwA, if_true, if_false, eq_self, nm_eq, reduceCtorEq, ↓reduceIte, nQ10, nQ7, nQ11, nQ12, nQ16, nQ17, nQ18, iQ2, iQ3, iQ4, iQ5, iQ6, lQ19, iQ7, lQ20, hlt, hr5, hr3, wrapS hlt (by omega : list.length ≤ 4611686018427387904)]
    refine ⟨_, by omega, i + 1, by omega, rfl, rfl, fun j hj hji => ?_⟩
    by_cases e : j = i
    · subst e; exact ht.1 rfl
    · exact hall j hj (by omega)
def isId (p : Int) (n : Nat) (W : List (List Int)) (B : List (List (List Int))) (u : List (List Int)) : Prop := ∀ a ∈ u, ∀ b ∈ units n, Gen p n W u (at_ (br p W B n a b))
theorem Idl.isId (d : Idl p n W B u) : isId p n W B u := fun a ha b _ => (gen_sub u).eqv _ _ (br_eqv d.o d.q a b) (d.s _ _ (gen_mem ha))
theorem l32IsIdeal_ok (hR : IsR vP vB W B) (o : OkW p n W) (q : OkB p n B) (hp : isP p) (hU : FII vU u) (hb : Base p n W u)
    (hk : ∀ t : Bool, (t = true ↔ isId p n W B u) → K (.bool t) σ) : PCalls Tryz.prog 140 [.agg [.int .i64 p, vP, vB], vU] σ K := by
  have h1 := hR.P.one
  have h2 := hR.B.one
  have hn6 := o.le
  have hul : u.length ≤ n := asc_length (fun v hv => (hb.led v hv).2.1) hb.asc
  refine PCalls.gh ?_
  refine pcalls_of_vp mix Tryz.func140 cf140 rfl ?_
  dsimp only [if140, qI, eI, nI, qD, eD]
  simp only [pwA, if_true, if_false, eq_self, nm_eq, reduceCtorEq, ↓reduceIte, nQ10, nQ7, nQ11, nQ12, nQ16, nQ17, nQ18, iQ2, iQ3, iQ4, iQ5, iQ6, lQ19, iQ7, lQ20, h1, h2]
  have hr3 : (σ.new [.int .i64 p, vP, vB]).rd σ.next 0 3 = some [.int .i64 p, vP, vB] := by simp only [pwA, if_true, if_false, eq_self, nm_eq, reduceCtorEq, ↓reduceIte, nQ10, nQ7, nQ11, nQ12, nQ16, nQ17, nQ18, iQ2, iQ3, iQ4, iQ5, iQ6, lQ19, iQ7, lQ20]
  have hHk : Keep σ (σ.new [.int .i64 p, vP, vB]) := keep_new σ _
  generalize σ.new [.int .i64 p, vP, vB] = H at *
  refine l32Whole_ok hR o.len (by omega) fun vW hW => ?_
  simp only [pwA, if_true, if_false, eq_self, nm_eq, reduceCtorEq, ↓reduceIte, nQ10, nQ7, nQ11, nQ12, nQ16, nQ17, nQ18, iQ2, iQ3, iQ4, iQ5, iQ6, lQ19, iQ7, lQ20, hr3]
  refine l32Brackets_ok hR o q hp hU hW hb.els (units_els o.pr) (by omega) (by rw [units_length]; omega) fun vY y cy hY => ?_
  have hyl := cy.len
  simp only [pwA, if_true, if_false, eq_self, nm_eq, reduceCtorEq, ↓reduceIte, nQ10, nQ7, nQ11, nQ12, nQ16, nQ17, nQ18, iQ2, iQ3, iQ4, iQ5, iQ6, lQ19, iQ7, lQ20, hr3]
  refine l32Within_ok hR o hU hb hY cy.els (by omega) fun t ht => ?_
  simp only [pwA, if_true, if_false, eq_self, nm_eq, reduceCtorEq, ↓reduceIte, nQ10, nQ7, nQ11, nQ12, nQ16, nQ17, nQ18, iQ2, iQ3, iQ4, iQ5, iQ6, lQ19, iQ7, lQ20]
  refine Gh.fin0 hHk trivial (hk t (ht.trans ⟨fun h a ha b hb => ?_, fun h x hx => ?_⟩))
  · exact gen_mono h ((cy.gen _).1 (gen_mem (brL_mem.2 ⟨a, ha, b, hb, rfl⟩)))
  · refine gen_mono (fun z hz => ?_) ((cy.gen _).2 (gen_mem hx))
    obtain ⟨a, ha, b, hb, rfl⟩ := brL_mem.1 hz
    exact h a ha b hb
end Go.Proofs
namespace Go.Proofs
open Go.Ab Go.Lie
variable {σ σ0 h h' : PHeap} {K : PV → PHeap → Prop} {vC vP vB vx vy : PV} {bs x y : List Int} {s b n r0 : Nat} {p : Int} {W : List (List Int)} {B : List (List (List Int))}
def ElV (p : Int) (W : List (List Int)) (B : List (List (List Int))) (xs : List (List Int)) (P : Prop) (val z : List Int) (c : Int) : Prop :=
  (¬ (isLie p W B ∧ Els p W.length xs) ∧ z = [] ∧ c = 1) ∨ ((isLie p W B ∧ Els p W.length xs) ∧ ¬ P ∧ z = [] ∧ c = 2) ∨ ((isLie p W B ∧ Els p W.length xs) ∧ P ∧ z = val ∧ c = 0)
theorem ElV.ok {xs : List (List Int)} {P : Prop} {val z : List Int} {c : Int} (h : ElV p W B xs P val z c) (h1 : isLie p W B) (h2 : Els p W.length xs) (h3 : P) : z = val ∧ c = 0 := by
  rcases h with ⟨g, _⟩ | ⟨_, g, _⟩ | ⟨_, _, g1, g2⟩
  · exact absurd ⟨h1, h2⟩ g
  · exact absurd h3 g
  · exact ⟨g1, g2⟩
theorem el2' (h : El p n x) (g : El p n y) : Els p n [x, y] := fun z hz => by simp at hz; rcases hz with rfl | rfl <;> assumption
theorem likeInts_ok (hx : FI vx x) (hy : FI vy y) (hl : x.length ≤ 1048576) (hk : ∀ t : Bool, (t = true ↔ x = y) → K (.bool t) σ) : PCalls Tryz.prog 16 [vx, vy] σ K := by
  obtain ⟨wx, ax, rfl⟩ := hx
  obtain ⟨wy, ay, rfl⟩ := hy
  refine pcalls_of_vp mix Tryz.func16 cf16 rfl ?_
  dsimp only [if16, qI, eI, nI, qD, eD]
  simp only [pwA, if_true, if_false, eq_self, nm_eq, reduceCtorEq, ↓reduceIte, nQ10, nQ7, nQ11, nQ12, nQ16, nQ17, nQ18, iQ2, iQ3, iQ4, iQ5, iQ6, lQ19, iQ7, lQ20]
  by_cases hxy : x.length = y.length
  rotate_left
  · have hne : ¬ (x.length : Int) = (y.length : Int) := by omega
    simp only [pwA, if_true, if_false, eq_self, nm_eq, reduceCtorEq, ↓reduceIte, nQ10, nQ7, nQ11, nQ12, nQ16, nQ17, nQ18, iQ2, iQ3, iQ4, iQ5, iQ6, lQ19, iQ7, lQ20, hne]
    exact hk false ⟨fun h => (by cases h), fun h => absurd (by rw [h]) hxy⟩
  have heq : (x.length : Int) = (y.length : Int) := by omega
  simp only [pwA, if_true, if_false, eq_self, nm_eq, reduceCtorEq, ↓reduceIte, nQ10, nQ7, nQ11, nQ12, nQ16, nQ17, nQ18, iQ2, iQ3, iQ4, iQ5, iQ6, lQ19, iQ7, lQ20, heq]
  refine vp_loop (fun m us g => ∃ i : Nat, i ≤ y.length ∧ m = y.length - i ∧ us = [.fz wx ax x.length (pis x), .fz wy ay y.length (pis y), .int .i64 i] ∧ g = σ ∧ ∀ j, j < i → x[j]? = y[j]?) y.length ⟨0, by omega, by omega, rfl, rfl, fun j hj => absurd hj (Nat.not_lt_zero _)⟩ ?_
  rintro m us g ⟨i, hi, rfl, rfl, rfl, he⟩
  simp only [pwA, if_true, if_false, eq_self, nm_eq, reduceCtorEq, ↓reduceIte, nQ10, nQ7, nQ11, nQ12, nQ16, nQ17, nQ18, iQ2, iQ3, iQ4, iQ5, iQ6, lQ19, iQ7, lQ20, heq]
  refine iteI (fun hlt => ?_) fun hge => ?_
  rotate_left
  · refine hk true ⟨fun _ => List.ext_getElem? fun j => ?_, fun _ => rfl⟩
    rcases Nat.lt_or_ge j i with e | e
    · exact he j e
    · rw [List.getElem?_eq_none (by omega), List.getElem?_eq_none (by omega)]
  have hltx : i < x.length := by omega
  have hlty : i < y.length := by omega
  have wi1 : IntKind.i64.wrap ((i : Int) + 1) = ((i + 1 : Nat) : Int) := wrapS hlty (by omega)
  simp only [pwA, if_true, if_false, eq_self, nm_eq, reduceCtorEq, ↓reduceIte, nQ10, nQ7, nQ11, nQ12, nQ16, nQ17, nQ18, iQ2, iQ3, iQ4, iQ5, iQ6, lQ19, iQ7, lQ20, pisAt hltx, pisAt hlty, hltx, hlty, wi1]
  refine iteI (fun hv => ?_) fun hv => ?_
  · refine ⟨_, by omega, i + 1, by omega, rfl, rfl, fun j hj => ?_⟩
    rcases Nat.lt_or_ge j i with e | e
    · exact he j e
    · obtain rfl : j = i := by omega
      rw [List.getElem?_eq_getElem hltx, List.getElem?_eq_getElem hlty, ← at_eq hltx, ← at_eq hlty, hv]
  · refine hk false ⟨fun h => (by cases h), fun h => absurd ?_ hv⟩
    rw [h]
theorem big_ok (hb : FB vC bs) (hk : ∀ t : Bool, (t = true ↔ 4096 < bs.length) → K (.bool t) σ) : PCalls Tryz.prog 12 [vC] σ K := by
  obtain ⟨w, a, rfl⟩ := hb
  refine pcalls_of_vp mix Tryz.func12 cf12 rfl ?_
  dsimp only [if12, qI, eI, nI, qD, eD]
  simp only [pwA, if_true, if_false, eq_self, nm_eq, reduceCtorEq, ↓reduceIte, nQ10, nQ7, nQ11, nQ12, nQ16, nQ17, nQ18, iQ2, iQ3, iQ4, iQ5, iQ6, lQ19, iQ7, lQ20]
  refine hk _ ?_
  rw [decide_eq_true_eq]
  omega
theorem has_FI (hR : IsR vP vB W B) (hx : FI vx x) (hb : x.length ≤ 1048576) (hp : okp p) (hk : ∀ t : Bool, (t = true ↔ El p W.length x) → K (.bool t) σ) : PCalls Tryz.prog 104 [.agg [.int .i64 p, vP, vB], vx] σ K := by
  obtain ⟨w, a, rfl⟩ := hx
  exact l31Has_ok hR rfl hb hp hk
theorem mix_FI {k m : Int} (hR : IsR vP vB W B) (o : OkW p n W) (ex : El p n x) (ey : El p n y) (hx : FI vx x) (hy : FI vy y) (hkb : -1000000000 ≤ k ∧ k ≤ 1000000000) (hm : -1000000000 ≤ m ∧ m ≤ 1000000000) (hk : ∀ v, FI v (norm p W (lmix k x m y)) → K v σ) : PCalls Tryz.prog 105 [.agg [.int .i64 p, vP, vB], .int .i64 k, vx, .int .i64 m, vy] σ K := by
  obtain ⟨w, a, rfl⟩ := hx
  obtain ⟨w', a', rfl⟩ := hy
  have hl := (lmix_el o ex ey (k := k) (m := m)).1
  exact l31Mix_el hR o ex ey rfl rfl hkb hm fun v => hk _ ⟨true, v, by rw [hl]⟩
theorem add_FI (o : OkW p n W) (hs : PtrR σ s p vP vB) (hP : FII vP W) (ex : El p n x) (ey : El p n y) (hx : FI vx x) (hy : FI vy y) (hk : ∀ v, FI v (ladd p W x y) → K v σ) : PCalls Tryz.prog 114 [.ptr s 0, vx, vy] σ K := by
  obtain ⟨w, a, rfl⟩ := hx
  obtain ⟨w', a', rfl⟩ := hy
  have hl := (lmix_el o ex ey (k := 1) (m := 1)).1
  exact addLie_fz hs hP o ex ey rfl rfl fun v => hk _ ⟨true, v, by rw [hl]⟩
theorem AddLie_F (hR : IsR vP vB W B) (szr : SzR W B) (hx : FI vx x) (szx : x.length ≤ 1048576) (hy : FI vy y) (szy : y.length ≤ 1048576)
    (hk : ∀ v z c, ElV p W B [x, y] True (ladd p W x y) z c → FI v z → K (.tup [v, .int .i64 c]) σ) : PCalls Tryz.prog 31 [.agg [.int .i64 p, vP, vB], vx, vy] σ K := by
  have h1 := hR.P.one
  have h2 := hR.B.one
  refine PCalls.gh ?_
  refine pcalls_of_vp mix Tryz.func31 cf31 rfl ?_
  dsimp only [if31, qI, eI, nI, qD, eD]
  simp only [pwA, if_true, if_false, eq_self, nm_eq, reduceCtorEq, ↓reduceIte, nQ10, nQ7, nQ11, nQ12, nQ16, nQ17, nQ18, iQ2, iQ3, iQ4, iQ5, iQ6, lQ19, iQ7, lQ20, h1, h2, hx.one, hx.cells, hy.one, hy.cells]
  have hkp : Keep σ (((σ.new [.int .i64 p, vP, vB]).new [vx, vy]).kill (σ.next + 1)) := ((keep_new σ _).new _).kill (by omega)
  refine PCalls.frz (s := σ.next + 1) (cs := [vx, vy]) (by simp only [pwA, if_true, if_false, eq_self, nm_eq, reduceCtorEq, ↓reduceIte, nQ10, nQ7, nQ11, nQ12, nQ16, nQ17, nQ18, iQ2, iQ3, iQ4, iQ5, iQ6, lQ19, iQ7, lQ20]) ⟨hx.bel 0, hy.bel 0, trivial⟩ fun o => ?_
  simp only [sbs, sb, capOK, and_self, if_true, decide_true, Nat.le_refl]
  refine lieElements_ok (p := p) (vP := vP) (vB := vB) (xs := [x, y]) ⟨by simp only [pwA, if_true, if_false, eq_self, nm_eq, reduceCtorEq, ↓reduceIte, nQ10, nQ7, nQ11, nQ12, nQ16, nQ17, nQ18, iQ2, iQ3, iQ4, iQ5, iQ6, lQ19, iQ7, lQ20], by simp only [pwA, if_true, if_false, eq_self, nm_eq, reduceCtorEq, ↓reduceIte, nQ10, nQ7, nQ11, nQ12, nQ16, nQ17, nQ18, iQ2, iQ3, iQ4, iQ5, iQ6, lQ19, iQ7, lQ20]; omega⟩ hR szr (two_row hx hy) (SzL.two szx szy) fun t ht => ?_
  cases t with
  | false =>
    simp only [pwA, if_true, if_false, eq_self, nm_eq, reduceCtorEq, ↓reduceIte, nQ10, nQ7, nQ11, nQ12, nQ16, nQ17, nQ18, iQ2, iQ3, iQ4, iQ5, iQ6, lQ19, iQ7, lQ20]
    exact Gh.fin0 hkp ⟨trivial, trivial, trivial⟩ (hk _ [] 1 (.inl ⟨fun e => (by have := ht.2 e; cases this), rfl, rfl⟩) ⟨_, _, rfl⟩)
  | true =>
  obtain ⟨hl, he⟩ := ht.1 rfl
  have ex := he x (by simp)
  have ey := he y (by simp)
  simp only [pwA, if_true, if_false, eq_self, nm_eq, reduceCtorEq, ↓reduceIte, nQ10, nQ7, nQ11, nQ12, nQ16, nQ17, nQ18, iQ2, iQ3, iQ4, iQ5, iQ6, lQ19, iQ7, lQ20]
  refine add_FI (p := p) (vP := vP) (vB := vB) hl.1.w ⟨by simp only [pwA, if_true, if_false, eq_self, nm_eq, reduceCtorEq, ↓reduceIte, nQ10, nQ7, nQ11, nQ12, nQ16, nQ17, nQ18, iQ2, iQ3, iQ4, iQ5, iQ6, lQ19, iQ7, lQ20], by simp only [pwA, if_true, if_false, eq_self, nm_eq, reduceCtorEq, ↓reduceIte, nQ10, nQ7, nQ11, nQ12, nQ16, nQ17, nQ18, iQ2, iQ3, iQ4, iQ5, iQ6, lQ19, iQ7, lQ20]; omega⟩ hR.P ex ey hx hy fun v hv => ?_
  simp only [pwA, if_true, if_false, eq_self, nm_eq, reduceCtorEq, ↓reduceIte, nQ10, nQ7, nQ11, nQ12, nQ16, nQ17, nQ18, iQ2, iQ3, iQ4, iQ5, iQ6, lQ19, iQ7, lQ20]
  exact Gh.fin0 hkp ⟨hv.bel _, trivial, trivial⟩ (hk _ _ 0 (.inr (.inr ⟨⟨hl, he⟩, trivial, rfl, rfl⟩)) hv)
theorem AddLie_S (hR : IsR vP vB W B) (szr : SzR W B) (hx : FI vx x) (szx : x.length ≤ 1048576) (hy : FI vy y) (szy : y.length ≤ 1048576)
    (hk : ∀ v z c, ElV p W B [x, y] True (ladd p W x y) z c → FI v z → K (.tup [v, .int .i64 c]) σ) : PCalls Tryz.prog 33 [.agg [.int .i64 p, vP, vB], vx, vy] σ K := by
  have h1 := hR.P.one
  have h2 := hR.B.one
  refine PCalls.gh ?_
  refine pcalls_of_vp mix Tryz.func33 cf33 rfl ?_
  dsimp only [if33, qI, eI, nI, qD, eD]
  simp only [pwA, if_true, if_false, eq_self, nm_eq, reduceCtorEq, ↓reduceIte, nQ10, nQ7, nQ11, nQ12, nQ16, nQ17, nQ18, iQ2, iQ3, iQ4, iQ5, iQ6, lQ19, iQ7, lQ20, h1, h2]
  have hkp : Keep σ (σ.new [.int .i64 p, vP, vB]) := keep_new σ _
  have bad : ¬ (isLie p W B ∧ Els p W.length [x, y]) → Gh σ K (.tup [.fz true .nils 0 [], .int .i64 1]) (σ.new [.int .i64 p, vP, vB]) := fun e => Gh.fin0 hkp ⟨trivial, trivial, trivial⟩ (hk _ [] 1 (.inl ⟨e, rfl, rfl⟩) ⟨_, _, rfl⟩)
  refine l31Ring_ok hR szr fun t ht => ?_
  cases t with
  | false =>
    simp only [pwA, if_true, if_false, eq_self, nm_eq, reduceCtorEq, ↓reduceIte, nQ10, nQ7, nQ11, nQ12, nQ16, nQ17, nQ18, iQ2, iQ3, iQ4, iQ5, iQ6, lQ19, iQ7, lQ20]
    exact bad fun e => (by have := ht.2 e.1; cases this)
  | true =>
  have hl := ht.1 rfl
  simp only [pwA, if_true, if_false, eq_self, nm_eq, reduceCtorEq, ↓reduceIte, nQ10, nQ7, nQ11, nQ12, nQ16, nQ17, nQ18, iQ2, iQ3, iQ4, iQ5, iQ6, lQ19, iQ7, lQ20, h1, h2]
  refine has_FI hR hx szx hl.1.1.bd fun t2 ht2 => ?_
  cases t2 with
  | false =>
    simp only [pwA, if_true, if_false, eq_self, nm_eq, reduceCtorEq, ↓reduceIte, nQ10, nQ7, nQ11, nQ12, nQ16, nQ17, nQ18, iQ2, iQ3, iQ4, iQ5, iQ6, lQ19, iQ7, lQ20]
    exact bad fun e => (by have := ht2.2 (e.2 x (by simp)); cases this)
  | true =>
  have ex := ht2.1 rfl
  simp only [pwA, if_true, if_false, eq_self, nm_eq, reduceCtorEq, ↓reduceIte, nQ10, nQ7, nQ11, nQ12, nQ16, nQ17, nQ18, iQ2, iQ3, iQ4, iQ5, iQ6, lQ19, iQ7, lQ20, h1, h2]
  refine has_FI hR hy szy hl.1.1.bd fun t3 ht3 => ?_
  cases t3 with
  | false =>
    simp only [pwA, if_true, if_false, eq_self, nm_eq, reduceCtorEq, ↓reduceIte, nQ10, nQ7, nQ11, nQ12, nQ16, nQ17, nQ18, iQ2, iQ3, iQ4, iQ5, iQ6, lQ19, iQ7, lQ20]
    exact bad fun e => (by have := ht3.2 (e.2 y (by simp)); cases this)
  | true =>
  have ey := ht3.1 rfl
  have he := el2' ex ey
  simp only [pwA, if_true, if_false, eq_self, nm_eq, reduceCtorEq, ↓reduceIte, nQ10, nQ7, nQ11, nQ12, nQ16, nQ17, nQ18, iQ2, iQ3, iQ4, iQ5, iQ6, lQ19, iQ7, lQ20, h1, h2]
  refine mix_FI hR hl.1.w ex ey hx hy (by omega) (by omega) fun v hv => ?_
  simp only [pwA, if_true, if_false, eq_self, nm_eq, reduceCtorEq, ↓reduceIte, nQ10, nQ7, nQ11, nQ12, nQ16, nQ17, nQ18, iQ2, iQ3, iQ4, iQ5, iQ6, lQ19, iQ7, lQ20]
  exact Gh.fin0 hkp ⟨hv.bel _, trivial, trivial⟩ (hk _ _ 0 (.inr (.inr ⟨⟨hl, he⟩, trivial, rfl, rfl⟩)) hv)
theorem Bracket_F (hR : IsR vP vB W B) (szr : SzR W B) (hx : FI vx x) (szx : x.length ≤ 1048576) (hy : FI vy y) (szy : y.length ≤ 1048576)
    (hk : ∀ v z c, ElV p W B [x, y] True (br p W B W.length x y) z c → FI v z → K (.tup [v, .int .i64 c]) σ) : PCalls Tryz.prog 32 [.agg [.int .i64 p, vP, vB], vx, vy] σ K := by
  have h1 := hR.P.one
  have h2 := hR.B.one
  refine PCalls.gh ?_
  refine pcalls_of_vp mix Tryz.func32 cf32 rfl ?_
  dsimp only [if32, qI, eI, nI, qD, eD]
  simp only [pwA, if_true, if_false, eq_self, nm_eq, reduceCtorEq, ↓reduceIte, nQ10, nQ7, nQ11, nQ12, nQ16, nQ17, nQ18, iQ2, iQ3, iQ4, iQ5, iQ6, lQ19, iQ7, lQ20, h1, h2, hx.one, hx.cells, hy.one, hy.cells]
  have hkp : Keep σ (((σ.new [.int .i64 p, vP, vB]).new [vx, vy]).kill (σ.next + 1)) := ((keep_new σ _).new _).kill (by omega)
  refine PCalls.frz (s := σ.next + 1) (cs := [vx, vy]) (by simp only [pwA, if_true, if_false, eq_self, nm_eq, reduceCtorEq, ↓reduceIte, nQ10, nQ7, nQ11, nQ12, nQ16, nQ17, nQ18, iQ2, iQ3, iQ4, iQ5, iQ6, lQ19, iQ7, lQ20]) ⟨hx.bel 0, hy.bel 0, trivial⟩ fun o => ?_
  simp only [sbs, sb, capOK, and_self, if_true, decide_true, Nat.le_refl]
  refine lieElements_ok (p := p) (vP := vP) (vB := vB) (xs := [x, y]) ⟨by simp only [pwA, if_true, if_false, eq_self, nm_eq, reduceCtorEq, ↓reduceIte, nQ10, nQ7, nQ11, nQ12, nQ16, nQ17, nQ18, iQ2, iQ3, iQ4, iQ5, iQ6, lQ19, iQ7, lQ20], by simp only [pwA, if_true, if_false, eq_self, nm_eq, reduceCtorEq, ↓reduceIte, nQ10, nQ7, nQ11, nQ12, nQ16, nQ17, nQ18, iQ2, iQ3, iQ4, iQ5, iQ6, lQ19, iQ7, lQ20]; omega⟩ hR szr (two_row hx hy) (SzL.two szx szy) fun t ht => ?_
  cases t with
  | false =>
    simp only [pwA, if_true, if_false, eq_self, nm_eq, reduceCtorEq, ↓reduceIte, nQ10, nQ7, nQ11, nQ12, nQ16, nQ17, nQ18, iQ2, iQ3, iQ4, iQ5, iQ6, lQ19, iQ7, lQ20]
    exact Gh.fin0 hkp ⟨trivial, trivial, trivial⟩ (hk _ [] 1 (.inl ⟨fun e => (by have := ht.2 e; cases this), rfl, rfl⟩) ⟨_, _, rfl⟩)
  | true =>
  obtain ⟨hl, he⟩ := ht.1 rfl
  have ex := he x (by simp)
  have ey := he y (by simp)
  simp only [pwA, if_true, if_false, eq_self, nm_eq, reduceCtorEq, ↓reduceIte, nQ10, nQ7, nQ11, nQ12, nQ16, nQ17, nQ18, iQ2, iQ3, iQ4, iQ5, iQ6, lQ19, iQ7, lQ20]
  refine bracket_FI (p := p) (vP := vP) (vB := vB) hl.1.w hl.1.b ⟨by simp only [pwA, if_true, if_false, eq_self, nm_eq, reduceCtorEq, ↓reduceIte, nQ10, nQ7, nQ11, nQ12, nQ16, nQ17, nQ18, iQ2, iQ3, iQ4, iQ5, iQ6, lQ19, iQ7, lQ20], by simp only [pwA, if_true, if_false, eq_self, nm_eq, reduceCtorEq, ↓reduceIte, nQ10, nQ7, nQ11, nQ12, nQ16, nQ17, nQ18, iQ2, iQ3, iQ4, iQ5, iQ6, lQ19, iQ7, lQ20]; omega⟩ hR ex ey hx hy fun v hv => ?_
  simp only [pwA, if_true, if_false, eq_self, nm_eq, reduceCtorEq, ↓reduceIte, nQ10, nQ7, nQ11, nQ12, nQ16, nQ17, nQ18, iQ2, iQ3, iQ4, iQ5, iQ6, lQ19, iQ7, lQ20]
  exact Gh.fin0 hkp ⟨hv.bel _, trivial, trivial⟩ (hk _ _ 0 (.inr (.inr ⟨⟨hl, he⟩, trivial, rfl, rfl⟩)) hv)
theorem Bracket_S (hR : IsR vP vB W B) (szr : SzR W B) (hx : FI vx x) (szx : x.length ≤ 1048576) (hy : FI vy y) (szy : y.length ≤ 1048576)
    (hk : ∀ v z c, ElV p W B [x, y] True (br p W B W.length x y) z c → FI v z → K (.tup [v, .int .i64 c]) σ) : PCalls Tryz.prog 34 [.agg [.int .i64 p, vP, vB], vx, vy] σ K := by
  have h1 := hR.P.one
  have h2 := hR.B.one
  refine PCalls.gh ?_
  refine pcalls_of_vp mix Tryz.func34 cf34 rfl ?_
  dsimp only [if34, qI, eI, nI, qD, eD]
  simp only [pwA, if_true, if_false, eq_self, nm_eq, reduceCtorEq, ↓reduceIte, nQ10, nQ7, nQ11, nQ12, nQ16, nQ17, nQ18, iQ2, iQ3, iQ4, iQ5, iQ6, lQ19, iQ7, lQ20, h1, h2]
  have hkp : Keep σ (σ.new [.int .i64 p, vP, vB]) := keep_new σ _
  have bad : ¬ (isLie p W B ∧ Els p W.length [x, y]) → Gh σ K (.tup [.fz true .nils 0 [], .int .i64 1]) (σ.new [.int .i64 p, vP, vB]) := fun e => Gh.fin0 hkp ⟨trivial, trivial, trivial⟩ (hk _ [] 1 (.inl ⟨e, rfl, rfl⟩) ⟨_, _, rfl⟩)
  refine l31Ring_ok hR szr fun t ht => ?_
  cases t with
  | false =>
    simp only [pwA, if_true, if_false, eq_self, nm_eq, reduceCtorEq, ↓reduceIte, nQ10, nQ7, nQ11, nQ12, nQ16, nQ17, nQ18, iQ2, iQ3, iQ4, iQ5, iQ6, lQ19, iQ7, lQ20]
    exact bad fun e => (by have := ht.2 e.1; cases this)
  | true =>
  have hl := ht.1 rfl
  simp only [pwA, if_true, if_false, eq_self, nm_eq, reduceCtorEq, ↓reduceIte, nQ10, nQ7, nQ11, nQ12, nQ16, nQ17, nQ18, iQ2, iQ3, iQ4, iQ5, iQ6, lQ19, iQ7, lQ20, h1, h2]
  refine has_FI hR hx szx hl.1.1.bd fun t2 ht2 => ?_
  cases t2 with
  | false =>
    simp only [pwA, if_true, if_false, eq_self, nm_eq, reduceCtorEq, ↓reduceIte, nQ10, nQ7, nQ11, nQ12, nQ16, nQ17, nQ18, iQ2, iQ3, iQ4, iQ5, iQ6, lQ19, iQ7, lQ20]
    exact bad fun e => (by have := ht2.2 (e.2 x (by simp)); cases this)
  | true =>
  have ex := ht2.1 rfl
  simp only [pwA, if_true, if_false, eq_self, nm_eq, reduceCtorEq, ↓reduceIte, nQ10, nQ7, nQ11, nQ12, nQ16, nQ17, nQ18, iQ2, iQ3, iQ4, iQ5, iQ6, lQ19, iQ7, lQ20, h1, h2]
  refine has_FI hR hy szy hl.1.1.bd fun t3 ht3 => ?_
  cases t3 with
  | false =>
    simp only [pwA, if_true, if_false, eq_self, nm_eq, reduceCtorEq, ↓reduceIte, nQ10, nQ7, nQ11, nQ12, nQ16, nQ17, nQ18, iQ2, iQ3, iQ4, iQ5, iQ6, lQ19, iQ7, lQ20]
    exact bad fun e => (by have := ht3.2 (e.2 y (by simp)); cases this)
  | true =>
  have ey := ht3.1 rfl
  have he := el2' ex ey
  simp only [pwA, if_true, if_false, eq_self, nm_eq, reduceCtorEq, ↓reduceIte, nQ10, nQ7, nQ11, nQ12, nQ16, nQ17, nQ18, iQ2, iQ3, iQ4, iQ5, iQ6, lQ19, iQ7, lQ20, h1, h2]
  refine l31Bracket_FI hl.1.w hl.1.b hR ex ey hx hy fun v hv => ?_
  simp only [pwA, if_true, if_false, eq_self, nm_eq, reduceCtorEq, ↓reduceIte, nQ10, nQ7, nQ11, nQ12, nQ16, nQ17, nQ18, iQ2, iQ3, iQ4, iQ5, iQ6, lQ19, iQ7, lQ20]
  exact Gh.fin0 hkp ⟨hv.bel _, trivial, trivial⟩ (hk _ _ 0 (.inr (.inr ⟨⟨hl, he⟩, trivial, rfl, rfl⟩)) hv)
end Go.Proofs
namespace Go.Proofs
open Go.Ab Go.Lie
variable {σ σ0 h h' : PHeap} {K : PV → PHeap → Prop} {vC vP vB : PV} {bs : List Int} {s b n r0 : Nat} {p : Int} {W : List (List Int)} {B : List (List (List Int))}
abbrev diC (vC : PV) (i : Nat) (hh : Int) : List PV := [vC, .int .i64 (i : Int), .int .u64 hh]
structure Di (σ : PHeap) (s : Nat) (vC : PV) (bs : List Int) : Prop where
  ex : ∃ i hh, σ.obj s = some (diC vC i hh) ∧ i ≤ bs.length
  lt : s < σ.next
  fb : FB vC bs
  byt : Byt bs
theorem u64_33 (a : Int) : pbin .shr .other (.int .u64 a) (.int .u64 33) = some (.int .u64 (a.fdiv (2 ^ 33))) := rfl
theorem u64_mask (a : Int) : ∃ r : Int, pbin .and .other (.int .u64 a) (.int .u64 16777215) = some (.int .u64 r) ∧ 0 ≤ r ∧ r ≤ 16777215 := by
  have h1 : (BitVec.ofInt 64 a &&& BitVec.ofInt 64 16777215).toNat ≤ 16777215 := by
    rw [BitVec.toNat_and]
    exact Nat.le_trans Nat.and_le_right (by decide)
  refine ⟨_, rfl, ?_⟩
  have : ∀ m : Nat, m ≤ 16777215 → IntKind.u64.wrap (m : Int) = (m : Int) := fun m hm => by
    show (m : Int) % _ = _
    exact Int.emod_eq_of_lt (by omega) (by show (m : Int) < 18446744073709551616; omega)
  rw [show IntKind.u64.bits = 64 from rfl, this _ h1]
  omega
theorem Di.keep (a : Di σ s vC bs) (k : Keep σ h) : Di h s vC bs := by
  obtain ⟨i, hh, e, hi⟩ := a.ex
  exact ⟨⟨i, hh, by rw [k.obj _ a.lt]; exact e, hi⟩, Nat.lt_of_lt_of_le a.lt k.next, a.fb, a.byt⟩
theorem roll_ok {sd : Int} (hb : FB vC bs) (hB : Byt bs) (hk : ∀ h, Keep σ h → Di h σ.next vC bs → h.next = σ.next + 1 → K (.ptr σ.next 0) h) : PCalls Tryz.prog 17 [vC, .int .u64 sd] σ K := by
  have hb0 := hb
  obtain ⟨w, av, rfl⟩ := hb
  have hl := hB.len
  refine pcalls_of_vp mix Tryz.func17 cf17 rfl ?_
  dsimp only [if17, qI, eI, nI, qD, eD]
  simp only [pwA, if_true, if_false, eq_self, nm_eq, reduceCtorEq, ↓reduceIte, nQ10, nQ7, nQ11, nQ12, nQ16, nQ17, nQ18, iQ2, iQ3, iQ4, iQ5, iQ6, lQ19, iQ7, lQ20]
  generalize hC : (PV.fz w av bs.length (bs.map (.int .u8))) = vC at *
  refine vp_loop (fun m vs h' => ∃ (i : Nat) (hh : Int), i ≤ bs.length ∧ m = bs.length - i ∧ vs = [vC, .ptr σ.next 0, .int .i64 i] ∧ σ.new (diC vC 0 hh) = h') bs.length ?_ ?_
  · exact ⟨0, _, by omega, by omega, rfl, rfl⟩
  rintro m vs h' ⟨i, hh, hi, rfl, rfl, rfl⟩
  have hlen : pLen vC = some (.int .i64 bs.length) := by rw [← hC]; rfl
  have wi1 : IntKind.i64.wrap ((i : Int) + 1) = ((i + 1 : Nat) : Int) := by rw [wrap64 (by omega) (by omega)]; omega
  simp only [pwA, if_true, if_false, eq_self, nm_eq, reduceCtorEq, ↓reduceIte, nQ10, nQ7, nQ11, nQ12, nQ16, nQ17, nQ18, iQ2, iQ3, iQ4, iQ5, iQ6, lQ19, iQ7, lQ20, hlen]
  by_cases hlt : i < bs.length
  rotate_left
  · simp only [pwA, if_true, if_false, eq_self, nm_eq, reduceCtorEq, ↓reduceIte, nQ10, nQ7, nQ11, nQ12, nQ16, nQ17, nQ18, iQ2, iQ3, iQ4, iQ5, iQ6, lQ19, iQ7, lQ20, hlt, decide_false]
    exact hk _ (keep_new _ _) ⟨⟨0, hh, by rw [pobj_new, if_pos rfl], Nat.zero_le _⟩, Nat.lt_succ_self _, hb0, hB⟩ rfl
  obtain ⟨b1, b2, b3⟩ := byt_at hB hlt
  generalize bs.getD i 0 = b at b1 b2 b3
  subst hC
  simp only [pwA, if_true, if_false, eq_self, nm_eq, reduceCtorEq, ↓reduceIte, nQ10, nQ7, nQ11, nQ12, nQ16, nQ17, nQ18, iQ2, iQ3, iQ4, iQ5, iQ6, lQ19, iQ7, lQ20, hlt, decide_true, b1, wi1]
  exact ⟨_, by omega, i + 1, _, by omega, rfl, rfl, rfl⟩
theorem below_ok {n : Int} (D : Di σ s vC bs) (hn : 1 ≤ n) (hk : ∀ x h, 0 ≤ x → x < n → Mv σ s h → Di h s vC bs → K (.int .i64 x) h) : PCalls Tryz.prog 18 [.ptr s 0, .int .i64 n] σ K := by
  obtain ⟨i, hh, ob, hi⟩ := D.ex
  have hl := D.byt.len
  have hlt := D.lt
  have fb := D.fb
  obtain ⟨w, av, rfl⟩ := D.fb
  have q2 : σ.rd1 s 2 = some (.int .u64 hh) := by rw [obj_rd1 ob]; rfl
  have w2 : ∀ y, σ.wr s 2 [.int .u64 y] = some (σ.set s (diC (.fz w av bs.length (bs.map (.int .u8))) i y)) := fun y => by rw [obj_wr ob, if_pos ⟨by simp, rfl⟩]; rfl
  refine pcalls_of_vp mix Tryz.func18 cf18 rfl ?_
  dsimp only [if18, qI, eI, nI, qD, eD]
  simp only [pwA, if_true, if_false, eq_self, nm_eq, reduceCtorEq, ↓reduceIte, nQ10, nQ7, nQ11, nQ12, nQ16, nQ17, nQ18, iQ2, iQ3, iQ4, iQ5, iQ6, lQ19, iQ7, lQ20, q2, w2]
  generalize IntKind.u64.wrap (IntKind.u64.wrap (hh * 6364136223846793005) + 1442695040888963407) = hh1
  have bel : ∀ (j : Nat) (y : Int), Bels 0 (diC (.fz w av bs.length (bs.map (.int .u8))) j y) := fun j y => ⟨trivial, trivial, trivial, trivial⟩
  have ob1 : (σ.set s (diC (.fz w av bs.length (bs.map (.int .u8))) i hh1)).obj s = some (diC (.fz w av bs.length (bs.map (.int .u8))) i hh1) := by rw [pobj_set, if_pos rfl]
  have fin : ∀ (j : Nat) (y x : Int), j ≤ bs.length → 0 ≤ x → K (.int .i64 (x.tmod n)) (σ.set s (diC (.fz w av bs.length (bs.map (.int .u8))) j y)) := fun j y x hj hx => by
    rw [Int.tmod_eq_emod_of_nonneg hx]
    exact hk _ _ (Int.emod_nonneg x (by omega)) (Int.emod_lt_of_pos x (by omega)) ⟨_, _, ob, bel _ _, rfl⟩ ⟨⟨j, y, by rw [pobj_set, if_pos rfl], hj⟩, hlt, fb, D.byt⟩
  have hset : ∀ (j : Nat) (y : Int), (σ.set s (diC (.fz w av bs.length (bs.map (.int .u8))) i hh1)).set s (diC (.fz w av bs.length (bs.map (.int .u8))) j y) = σ.set s (diC (.fz w av bs.length (bs.map (.int .u8))) j y) := fun j y => set_set_s _ _ _ _
  have finI := fin i hh1
  have p0 : (σ.set s (diC (.fz w av bs.length (bs.map (.int .u8))) i hh1)).rd1 s 0 = some (.fz w av bs.length (bs.map (.int .u8))) := by rw [obj_rd1 ob1]; rfl
  have p1 : (σ.set s (diC (.fz w av bs.length (bs.map (.int .u8))) i hh1)).rd1 s 1 = some (.int .i64 i) := by rw [obj_rd1 ob1]; rfl
  have p2 : (σ.set s (diC (.fz w av bs.length (bs.map (.int .u8))) i hh1)).rd1 s 2 = some (.int .u64 hh1) := by rw [obj_rd1 ob1]; rfl
  have w1 : (σ.set s (diC (.fz w av bs.length (bs.map (.int .u8))) i hh1)).wr s 1 [.int .i64 ((i + 1 : Nat) : Int)] = some (σ.set s (diC (.fz w av bs.length (bs.map (.int .u8))) (i + 1) hh1)) := by
    rw [obj_wr ob1, if_pos ⟨by simp, rfl⟩, ← hset (i + 1) hh1]; rfl
  generalize σ.set s (diC (.fz w av bs.length (bs.map (.int .u8))) i hh1) = σ1 at *
  obtain ⟨x, hm, x0, x1⟩ := u64_mask (hh1.fdiv (2 ^ 33))
  have wx : IntKind.i64.wrap x = x := wrap64 (by omega) (by omega)
  have hn0 : n ≠ 0 := by omega
  simp only [pwA, if_true, if_false, eq_self, nm_eq, reduceCtorEq, ↓reduceIte, nQ10, nQ7, nQ11, nQ12, nQ16, nQ17, nQ18, iQ2, iQ3, iQ4, iQ5, iQ6, lQ19, iQ7, lQ20, p2, u64_33, hm, wx]
  by_cases hlt' : i < bs.length
  rotate_left
  · simp only [pwA, if_true, if_false, eq_self, nm_eq, reduceCtorEq, ↓reduceIte, nQ10, nQ7, nQ11, nQ12, nQ16, nQ17, nQ18, iQ2, iQ3, iQ4, iQ5, iQ6, lQ19, iQ7, lQ20, p0, p1, hlt', decide_false, hn0]
    exact finI x (by omega) x0
  obtain ⟨b1, b2, b3⟩ := byt_at D.byt hlt'
  generalize bs.getD i 0 = b at b1 b2 b3
  have e6 : IntKind.i64.wrap b = b := wrap64 (by omega) (by omega)
  have e7 : IntKind.i64.wrap (x + b) = x + b := wrap64 (by omega) (by omega)
  have wi1 : IntKind.i64.wrap ((i : Int) + 1) = ((i + 1 : Nat) : Int) := by rw [wrap64 (by omega) (by omega)]; omega
  simp only [pwA, if_true, if_false, eq_self, nm_eq, reduceCtorEq, ↓reduceIte, nQ10, nQ7, nQ11, nQ12, nQ16, nQ17, nQ18, iQ2, iQ3, iQ4, iQ5, iQ6, lQ19, iQ7, lQ20, p0, p1, hlt', decide_true, b1, e6, e7, wi1, w1, hn0]
  exact fin (i + 1) hh1 _ (by omega) (by omega)
end Go.Proofs
