/- A list of bytes that a law is handed, laid as a frozen value. -/
import Derived.Test.YtpcjbkbcaiphmaaHP38
import Derived.Test.YtpcjbkbcaiphmaaHP30
import Derived.Test.YtpcjbkbcaiphmaaHP33
open Nat renaming reduceLeDiff → nQ7, reduceEqDiff → nQ10, reduceBEq → nQ11, reduceAdd → nQ12, reduceLT → nQ16, reduceSub → nQ17, reduceMul → nQ18
open Int renaming reduceEq → iQ2, reduceLT → iQ3, reduceLE → iQ4, reduceNeg → iQ5, reduceToNat → iQ6, ofNat_le → iQ7
open List renaming reduceReplicate → lQ19, getElem?_drop → lQ20
set_option linter.unusedSimpArgs false
set_option linter.unusedVariables false
set_option linter.unusedSectionVars false
namespace Go.Proofs
open Go.Ab Go.Lie
variable {σ σ0 h h' : PHeap} {K : PV → PHeap → Prop} {vC vP vB : PV} {bs : List Int} {s b n r0 : Nat} {p : Int} {sP sB : Nat} {capP capB : Cap} {W : List (List Int)} {B : List (List (List Int))}
structure DrR (p : Int) (W : List (List Int)) (B : List (List (List Int))) : Prop where
  p : 1 ≤ p ∧ p ≤ 11
  wl : W.length ≤ 6
  bl : B.length ≤ 6
  sm : SmF W B
theorem DrR.sz (a : DrR p W B) : SzR W B := ⟨by have := a.wl; omega, fun r hr => by have := a.sm.w r hr; omega, by have := a.bl; omega, fun q hq => by have := a.sm.bl q hq; omega, fun q hq r hr => by have := a.sm.b q hq r hr; omega⟩
theorem pslice_one {cap : Cap} (hc : full 1 cap n) (hn : 1 ≤ n) : ∃ off cap', pslice 1 (.sl s 0 n cap) (some (.int .i64 1)) none none = some (.sl s off (n - 1) cap') ∧ (off = 1 ∨ (off = 0 ∧ n = 1)) ∧ ∀ c, cap' = .known c → n - 1 ≤ c := by
  have h1 : (0 : Int) ≤ 1 ∧ (1 : Int) ≤ (n : Int) := by omega
  rcases hc with rfl | rfl
  · refine ⟨1, .grown 1, ?_, .inl rfl, fun c e => by cases e⟩
    rw [pslice_grown]
    simp [pobound, pbound, h1]
  · rw [pslice_known]
    by_cases e : n = 1
    · subst e
      exact ⟨0, .known 0, by simp [pobound, pbound], .inr ⟨rfl, rfl⟩, fun c e => by omega⟩
    · refine ⟨1, .known (n - 1), ?_, .inl rfl, fun c e => by cases e; exact Nat.le_refl _⟩
      simp [pobound, pbound, h1, e]
theorem RS.finCut {off : Nat} {cap : Cap} {cs : List PV} {ls : List LS} (a : RS FI FI b h n sP capP cs sB capB ls W B) (hk : Keep σ h) (hb : σ.next ≤ b) (hn : 1 ≤ n) (hoff : off = 1 ∨ (off = 0 ∧ n = 1)) (hc : ∀ c, cap = .known c → n - 1 ≤ c) (k : ∀ vP vB, IsR vP vB W (B.drop 1) → K (.agg [.int .i64 p, vP, vB]) σ) : Gh σ K (.agg [.int .i64 p, .sl sP 0 n capP, .sl sB off (n - 1) cap]) h := by
  obtain ⟨p1, p2, p3, p4⟩ := a.P
  obtain ⟨q1, q2, q3, q4⟩ := a.Q
  have e1 := a.csl
  have e2 := a.lsl
  have et : (TR.agg [.leaf (.int .i64 p), .lst sP capP (cs.map TR.leaf), .cut sB off (n - 1) cap (ls.map LS.tr)]).pv = .agg [.int .i64 p, .sl sP 0 n capP, .sl sB off (n - 1) cap] := by
    simp only [TR.pv, TR.pvs, List.length_map]; rw [e1]
  rw [← et]
  refine Gh.treeF hk ⟨trivial, ⟨⟨by rw [List.length_map, e1]; exact p1, by rw [leafs_pvs]; exact p2, by omega, p4⟩, leafs_okF (a.aP.bI 0)⟩, ⟨⟨hc, by rw [LS.tr_pvs]; exact q2, by omega, q4, by rw [List.length_map, e2]; omega⟩, LS.trs_okF fun q hq => ?_⟩, trivial⟩ fun aa => k _ _ ⟨⟨true, .sl (aa sP) 0 cs.length capP, cs, ?_, a.aP⟩, ⟨false, .sl (aa sB) off (n - 1) cap, ((TR.fzs aa (ls.map LS.tr)).drop off).take (n - 1), ?_, ?_⟩⟩
  · obtain ⟨g1, g2, g3, g4⟩ := a.lok q hq
    refine ⟨⟨g1, g2, by omega, g4⟩, ?_⟩
    obtain ⟨k, hk9, rfl⟩ := List.mem_iff_getElem.1 hq
    exact (a.aB.2 k _ _ (List.getElem?_eq_getElem hk9) (List.getElem?_eq_getElem (by rw [← a.aB.1]; exact hk9))).bI 0
  · simp only [TR.fz, leafs_fzs, List.length_map]; rw [e1, a.lW]
  · simp only [TR.fz, List.length_drop]; rw [a.lB]
  · rcases hoff with rfl | ⟨rfl, rfl⟩
    · have := ((rowsOf_all2 (a := aa) a.aB).drop 1).take (n - 1)
      rw [List.take_of_length_le (l := B.drop 1) (by rw [List.length_drop, a.lB]; exact Nat.le_refl _)] at this
      exact this
    · rw [List.eq_nil_of_length_eq_zero (l := B.drop 1) (by rw [List.length_drop, a.lB])]
      exact All2.nil _
theorem l31Draw_ok (so : So σ s vC bs) (hk : ∀ p vP vB W B h, DrR p W B → IsR vP vB W B → Mv σ s h → So h s vC bs → K (.agg [.int .i64 p, vP, vB]) h) : PCalls Try.prog 87 [.ptr s 0] σ K := by
  have hsl := so.lt
  refine PCalls.gh ?_
  generalize hT : σ.new [.int .i64 0, .fz true .nils 0 [], .fz true .nils 0 []] = T
  have hTn : T.next = σ.next + 1 := by rw [← hT]; rfl
  have hkT : Keep σ T := by rw [← hT]; exact keep_new σ _
  have soT : So T s vC bs := so.keep hkT
  have hsT : s < T.next := soT.lt
  have obT : T.obj σ.next = some [.int .i64 0, .fz true .nils 0 [], .fz true .nils 0 []] := by rw [← hT]; simp only [pwA, if_true, if_false, eq_self, nm_eq, reduceCtorEq, ↓reduceIte, nQ10, nQ7, nQ11, nQ12, nQ16, nQ17, nQ18, iQ2, iQ3, iQ4, iQ5, iQ6, lQ19, iQ7, lQ20]
  have hres : ∀ {g : PHeap} {u0 u1 u2 : PV}, KM T s g → u0.one = true → u1.one = true → u2.one = true → g.wr σ.next 0 [u0, u1, u2] = some (g.set σ.next [u0, u1, u2]) ∧ (g.set σ.next [u0, u1, u2]).rd σ.next 0 3 = some [u0, u1, u2] := fun {g u0 u1 u2} k z0 z1 z2 => by
    have hres : g.obj σ.next = some [.int .i64 0, .fz true .nils 0 [], .fz true .nils 0 []] := by rw [k.obj (by omega) (by omega)]; exact obT
    exact ⟨by rw [obj_wr hres, if_pos ⟨by simp, by simp only [List.all_cons, List.all_nil, z0, z1, z2]; rfl⟩]; rfl, by rw [prd_set, if_pos rfl]; rfl⟩
  refine pcalls_of_vp mix Try.func87 cf87 rfl ?_
  dsimp only [if87, qI, eI, nI, qD, eD]
  simp only [pwA, if_true, if_false, eq_self, nm_eq, reduceCtorEq, ↓reduceIte, nQ10, nQ7, nQ11, nQ12, nQ16, nQ17, nQ18, iQ2, iQ3, iQ4, iQ5, iQ6, lQ19, iQ7, lQ20]
  rw [hT]
  refine l31Good_ok soT fun p n sP capP cs sB capB ls h1 W B hp hn1 hpow hF km1 so1 rs1 => ?_
  have hn6 := hF.w.le
  have hpb := hp.bd
  have hp27 : 2 ≤ p ∧ p ≤ 7 := by omega
  have h01 := km1.next
  have gs : GS E0 FI (OkF p n) T (h1.new [.int .i64 p, .sl sP 0 n capP, .sl sB 0 n capB]) s vC bs h1.next p n sP capP sB capB :=
    ⟨km1.new _, so1.keep (keep_new _ _), hsT, by rw [pobj_new, if_pos rfl], ⟨by omega, Nat.lt_succ_self _⟩, ⟨cs, ls, W, B, rs1.new _, hF, fun t ht e => by have := (rs1.lt ht).2; omega, fun u x e => e.elim⟩, fun u x e => e.elim⟩
  clear rs1 hF W B cs ls
  have fin : ∀ {g : PHeap} {q : Int}, 1 ≤ q ∧ q ≤ 11 → GS E0 FI SmF T g s vC bs h1.next q n sP capP sB capB → g.rd h1.next 0 3 = some [.int .i64 q, .sl sP 0 n capP, .sl sB 0 n capB] ∧ g.wr σ.next 0 [.int .i64 q, .sl sP 0 n capP, .sl sB 0 n capB] = some (g.set σ.next [.int .i64 q, .sl sP 0 n capP, .sl sB 0 n capB])
      ∧ (g.set σ.next [.int .i64 q, .sl sP 0 n capP, .sl sB 0 n capB]).rd σ.next 0 3 = some [.int .i64 q, .sl sP 0 n capP, .sl sB 0 n capB] ∧ Gh σ K (.agg [.int .i64 q, .sl sP 0 n capP, .sl sB 0 n capB]) (g.set σ.next [.int .i64 q, .sl sP 0 n capP, .sl sB 0 n capB]) := fun {g q} hq a => by
    obtain ⟨x1, x2⟩ := hres (u0 := .int .i64 q) (u1 := .sl sP 0 n capP) (u2 := .sl sB 0 n capB) a.km rfl rfl rfl
    refine ⟨a.rd.1, x1, x2, ?_⟩
    obtain ⟨cs, ls, W, B, rs, f, ne, _⟩ := a.rs
    refine Gh.km (((so.kmK hkT).trans hsl a.km).set (Nat.le_refl _) _) (a.so.set (by omega) _) hsl fun σ' m' so' kp => ?_
    refine RS.fin ((rs.low (b' := σ'.next) (by rw [m'.next]; omega)).move (fun t ht => ?_) (Nat.le_refl _)) kp (Nat.le_refl _) fun vP vB hR => hk q vP vB W B σ' ⟨hq, by rw [rs.lW]; exact hn6, by rw [rs.lB]; exact hn6, f⟩ hR m' so'
    have := (rs.lt ht).1
    rw [pobj_set, if_neg (by omega)]
  have rowB : ∀ {W : List (List Int)} {B : List (List (List Int))} {i : Nat}, OkF p n W B → i < n → (B.getD i []).length = n - 1 - i := fun {W B i} q hi => by
    have h1 : i < B.length := by rw [q.b.len]; exact hi
    rw [getD_row' h1]; exact q.b.row i h1
  simp only [pwA, if_true, if_false, eq_self, nm_eq, reduceCtorEq, ↓reduceIte, nQ10, nQ7, nQ11, nQ12, nQ16, nQ17, nQ18, iQ2, iQ3, iQ4, iQ5, iQ6, lQ19, iQ7, lQ20]
  generalize h1.new [PV.int .i64 p, .sl sP 0 n capP, .sl sB 0 n capB] = g1 at *
  have h1b : σ.next < h1.next := by omega
  generalize h1.next = r0 at *
  refine l01Next_m gs.so (by omega) fun i0 g2 hi0 m2 so2 => ?_
  have gs2 := gs.mv m2 so2
  have i00 := hi0.1
  have i0n := hi0.lt (by omega)
  obtain ⟨i, rfl⟩ : ∃ i : Nat, i0 = i := ⟨i0.toNat, by omega⟩
  have hin : i < n := by omega
  have wi1 : IntKind.i64.wrap ((i : Int) + 1) = ((i + 1 : Nat) : Int) := by rw [wrap64 (by omega) (by omega)]; omega
  have wi2 : IntKind.i64.wrap ((i : Int) + 2) = ((i + 2 : Nat) : Int) := by rw [wrap64 (by omega) (by omega)]; omega
  have wi0 : IntKind.i64.wrap (i : Int) = (i : Int) := by rw [wrap64 (by omega) (by omega)]
  simp only [pwA, if_true, if_false, eq_self, nm_eq, reduceCtorEq, ↓reduceIte, nQ10, nQ7, nQ11, nQ12, nQ16, nQ17, nQ18, iQ2, iQ3, iQ4, iQ5, iQ6, lQ19, iQ7, lQ20, wi0]
  refine l01Next_m gs2.so (by decide) fun kd g3 hkd m3 so3 => ?_
  have gs3 := gs2.mv m3 so3
  clear gs gs2
  have kd0 := hkd.1
  by_cases e0 : kd = 0
  · subst e0
    have so4 := gs3.so
    simp only [pwA, if_true, if_false, eq_self, nm_eq, reduceCtorEq, ↓reduceIte, nQ10, nQ7, nQ11, nQ12, nQ16, nQ17, nQ18, iQ2, iQ3, iQ4, iQ5, iQ6, lQ19, iQ7, lQ20]
    refine l01Next_m (gs3.new _).so (by decide) fun y g4 hy m4 so5 => ?_
    have gs4 := (gs3.new _).mv m4 so5
    have y0 := hy.1
    have y5 := hy.lt (by decide)
    have hT3 := gs3.km.next
    have ob : g4.obj g3.next = some (pis [1, 4, 11, 7, 2]) := by rw [m4.obj (by omega), pobj_new, if_pos rfl]; rfl
    obtain ⟨k, rfl⟩ : ∃ k : Nat, y = k := ⟨y.toNat, by omega⟩
    have hk5 : k < 5 := by omega
    obtain ⟨q, hq, hr⟩ : ∃ q : Int, (1 ≤ q ∧ q ≤ 11) ∧ g4.rd1 g3.next k = some (.int .i64 q) := by
      have e : k = 0 ∨ k = 1 ∨ k = 2 ∨ k = 3 ∨ k = 4 := by omega
      rcases e with rfl | rfl | rfl | rfl | rfl
      · exact ⟨1, by decide, by rw [obj_rd1 ob]; rfl⟩
      · exact ⟨4, by decide, by rw [obj_rd1 ob]; rfl⟩
      · exact ⟨11, by decide, by rw [obj_rd1 ob]; rfl⟩
      · exact ⟨7, by decide, by rw [obj_rd1 ob]; rfl⟩
      · exact ⟨2, by decide, by rw [obj_rd1 ob]; rfl⟩
    obtain ⟨g5, w5, gs5⟩ := gs4.setp q
    have a := gs5.imp fun W B f => f.sm
    simp only [pwA, if_true, if_false, eq_self, nm_eq, reduceCtorEq, ↓reduceIte, nQ10, nQ7, nQ11, nQ12, nQ16, nQ17, nQ18, iQ2, iQ3, iQ4, iQ5, iQ6, lQ19, iQ7, lQ20, hr, hk5, w5]
    obtain ⟨e1, e2, e3, e4⟩ := fin hq a
    simp only [pwA, if_true, if_false, eq_self, nm_eq, reduceCtorEq, ↓reduceIte, nQ10, nQ7, nQ11, nQ12, nQ16, nQ17, nQ18, iQ2, iQ3, iQ4, iQ5, iQ6, lQ19, iQ7, lQ20, e1, e2, e3]
    exact e4
  have hq : 1 ≤ p ∧ p ≤ 11 := by omega
  by_cases e1 : kd = 1
  · subst e1
    obtain ⟨f3, f0, f1, f2⟩ := gs3.rd
    simp only [pwA, if_true, if_false, eq_self, nm_eq, reduceCtorEq, ↓reduceIte, nQ10, nQ7, nQ11, nQ12, nQ16, nQ17, nQ18, iQ2, iQ3, iQ4, iQ5, iQ6, lQ19, iQ7, lQ20, f3, f1, wi1]
    refine l31Tail_fz (vP := .sl sP 0 n capP) (vB := .sl sB 0 n capB) (n := n) (k := i + 1) gs3.so hp27 rfl rfl rfl (by omega) (by omega) fun v x g4 hx hz hv m4 so4 => ?_
    have gs4 := gs3.mv m4 so4
    obtain ⟨p3, p0, p1, p2⟩ := gs4.rd
    have hxl := hx.1
    obtain ⟨g5, w5, a⟩ := gs4.putP (F' := SmF) (i := i) (w := x) hin hv (fun W B q => q.sm.setP (by omega))
    simp only [pwA, if_true, if_false, eq_self, nm_eq, reduceCtorEq, ↓reduceIte, nQ10, nQ7, nQ11, nQ12, nQ16, nQ17, nQ18, iQ2, iQ3, iQ4, iQ5, iQ6, lQ19, iQ7, lQ20, p1, w5, hv.cells, hin, wi1]
    obtain ⟨e1, e2, e3, e4⟩ := fin hq a
    simp only [pwA, if_true, if_false, eq_self, nm_eq, reduceCtorEq, ↓reduceIte, nQ10, nQ7, nQ11, nQ12, nQ16, nQ17, nQ18, iQ2, iQ3, iQ4, iQ5, iQ6, lQ19, iQ7, lQ20, e1, e2, e3]
    exact e4
  by_cases e2 : kd = 2
  · subst e2
    obtain ⟨f3, f0, f1, f2⟩ := gs3.rd
    simp only [pwA, if_true, if_false, eq_self, nm_eq, reduceCtorEq, ↓reduceIte, nQ10, nQ7, nQ11, nQ12, nQ16, nQ17, nQ18, iQ2, iQ3, iQ4, iQ5, iQ6, lQ19, iQ7, lQ20, f3, f1]
    refine l31Tail_fz (vP := .sl sP 0 n capP) (vB := .sl sB 0 n capB) (n := n) (k := i) gs3.so hp27 rfl rfl rfl (by omega) (by omega) fun v x g4 hx hz hv m4 so4 => ?_
    have gs4 := gs3.mv m4 so4
    obtain ⟨p3, p0, p1, p2⟩ := gs4.rd
    have hxl := hx.1
    obtain ⟨g5, w5, a⟩ := gs4.putP (F' := SmF) (i := i) (w := x) hin hv (fun W B q => q.sm.setP (by omega))
    simp only [pwA, if_true, if_false, eq_self, nm_eq, reduceCtorEq, ↓reduceIte, nQ10, nQ7, nQ11, nQ12, nQ16, nQ17, nQ18, iQ2, iQ3, iQ4, iQ5, iQ6, lQ19, iQ7, lQ20, p1, w5, hv.cells, hin]
    obtain ⟨e1, e2, e3, e4⟩ := fin hq a
    simp only [pwA, if_true, if_false, eq_self, nm_eq, reduceCtorEq, ↓reduceIte, nQ10, nQ7, nQ11, nQ12, nQ16, nQ17, nQ18, iQ2, iQ3, iQ4, iQ5, iQ6, lQ19, iQ7, lQ20, e1, e2, e3]
    exact e4
  by_cases e3 : kd = 3
  · subst e3
    obtain ⟨f3, f0, f1, f2⟩ := gs3.rd
    obtain ⟨t, c, rB⟩ := gs3.rdB hin (fun W B q => rowB q hin)
    have hsB := gs3.sBb
    by_cases hl0 : 0 < n - 1 - i
    · have hl0' : (0 : Int) < ((n - 1 - i : Nat) : Int) := by omega
      have hl0'' : ((n - 1 - i : Nat) : Int) > 0 := by omega
      simp only [pwA, if_true, if_false, eq_self, nm_eq, reduceCtorEq, ↓reduceIte, nQ10, nQ7, nQ11, nQ12, nQ16, nQ17, nQ18, iQ2, iQ3, iQ4, iQ5, iQ6, lQ19, iQ7, lQ20, f3, f2, rB, hin, hl0', hl0'', decide_true, wi2]
      refine l31Tail_fz (vP := .sl sP 0 n capP) (vB := .sl sB 0 n capB) (n := n) (k := i + 2) gs3.so hp27 rfl rfl rfl (by omega) (by omega) fun v x g4 hx hz hv m4 so4 => ?_
      have gs4 := gs3.mv m4 so4
      obtain ⟨p3, p0, p1, p2⟩ := gs4.rd
      have hxl := hx.1
      have rB' : g4.rd1 sB i = some (.sl t 0 (n - 1 - i) c) := by rw [m4.rd1 (by omega)]; exact rB
      obtain ⟨g5, w5, a, _⟩ := gs4.putB (F' := SmF) (i := i) (k := 0) (w := x) hin rB' hl0 (fun _ _ h => h) hv hv.one (fun W B hB q => q.sm.setB hB (by omega))
      simp only [pwA, if_true, if_false, eq_self, nm_eq, reduceCtorEq, ↓reduceIte, nQ10, nQ7, nQ11, nQ12, nQ16, nQ17, nQ18, iQ2, iQ3, iQ4, iQ5, iQ6, lQ19, iQ7, lQ20, p2, rB', w5, hv.cells, hin, hl0']
      obtain ⟨e1, e2, e3, e4⟩ := fin hq a
      simp only [pwA, if_true, if_false, eq_self, nm_eq, reduceCtorEq, ↓reduceIte, nQ10, nQ7, nQ11, nQ12, nQ16, nQ17, nQ18, iQ2, iQ3, iQ4, iQ5, iQ6, lQ19, iQ7, lQ20, e1, e2, e3]
      exact e4
    · have hl0'' : ¬ ((n - 1 - i : Nat) : Int) > 0 := by omega
      have a := gs3.imp fun W B f => f.sm
      simp only [pwA, if_true, if_false, eq_self, nm_eq, reduceCtorEq, ↓reduceIte, nQ10, nQ7, nQ11, nQ12, nQ16, nQ17, nQ18, iQ2, iQ3, iQ4, iQ5, iQ6, lQ19, iQ7, lQ20, f2, rB, hin, hl0'', decide_false]
      obtain ⟨e1, e2, e3, e4⟩ := fin hq a
      simp only [pwA, if_true, if_false, eq_self, nm_eq, reduceCtorEq, ↓reduceIte, nQ10, nQ7, nQ11, nQ12, nQ16, nQ17, nQ18, iQ2, iQ3, iQ4, iQ5, iQ6, lQ19, iQ7, lQ20, e1, e2, e3]
      exact e4
  by_cases e4 : kd = 4
  · subst e4
    obtain ⟨f3, f0, f1, f2⟩ := gs3.rd
    obtain ⟨cs, ls, W, B, rs, f, ne, _⟩ := gs3.rs
    obtain ⟨off, cap', z1, z2, z3⟩ := pslice_one (s := sB) rs.Q.1 hn1
    have w5 := wr_one (v := .sl sB off (n - 1) cap') (i := 2) gs3.obj (by simp) rfl
    simp only [List.set_cons_succ, List.set_cons_zero] at w5
    have hr0 := gs3.r0b
    have hsl3 := gs3.sl
    have km5 : KM T s (g3.set r0 [.int .i64 p, .sl sP 0 n capP, .sl sB off (n - 1) cap']) := gs3.km.set gs3.r0b.1 _
    obtain ⟨x1, x2⟩ := hres (u0 := .int .i64 p) (u1 := .sl sP 0 n capP) (u2 := .sl sB off (n - 1) cap') km5 rfl rfl rfl
    have x0 : (g3.set r0 [.int .i64 p, .sl sP 0 n capP, .sl sB off (n - 1) cap']).rd r0 0 3 = some [.int .i64 p, .sl sP 0 n capP, .sl sB off (n - 1) cap'] := by rw [prd_set, if_pos rfl]; rfl
    have so5 : So (g3.set r0 [.int .i64 p, .sl sP 0 n capP, .sl sB off (n - 1) cap']) s vC bs := gs3.so.set (by omega) _
    have rs5 := rs.move (h' := g3.set r0 [.int .i64 p, .sl sP 0 n capP, .sl sB off (n - 1) cap']) (fun t ht => by rw [pobj_set, if_neg (Ne.symm (ne t ht))]) (Nat.le_refl _)
    simp only [pwA, if_true, if_false, eq_self, nm_eq, reduceCtorEq, ↓reduceIte, nQ10, nQ7, nQ11, nQ12, nQ16, nQ17, nQ18, iQ2, iQ3, iQ4, iQ5, iQ6, lQ19, iQ7, lQ20, f2, z1, w5]
    generalize g3.set r0 [.int .i64 p, .sl sP 0 n capP, .sl sB off (n - 1) cap'] = g5 at *
    simp only [pwA, if_true, if_false, eq_self, nm_eq, reduceCtorEq, ↓reduceIte, nQ10, nQ7, nQ11, nQ12, nQ16, nQ17, nQ18, iQ2, iQ3, iQ4, iQ5, iQ6, lQ19, iQ7, lQ20, x0, x1, x2]
    refine Gh.km (((so.kmK hkT).trans hsl km5).set (Nat.le_refl _) _) (so5.set (by omega) _) hsl fun σ' m' so' kp => ?_
    refine RS.finCut ((rs5.low (b' := σ'.next) (by rw [m'.next]; omega)).move (fun t ht => ?_) (Nat.le_refl _)) kp (Nat.le_refl _) hn1 z2 z3 fun vP vB hR => hk p vP vB W _ σ' ⟨hq, by rw [rs.lW]; exact hn6, by rw [List.length_drop, rs.lB]; omega, f.sm.w, fun q hq => f.sm.bl q (List.mem_of_mem_drop hq), fun q hq => f.sm.b q (List.mem_of_mem_drop hq)⟩ hR m' so'
    have := (rs5.lt ht).1
    rw [pobj_set, if_neg (by omega)]
  by_cases e5 : kd = 5
  · subst e5
    have hr0 := gs3.r0b
    have w5 : g3.wr r0 0 [.int .i64 3, .fz true .nils 0 [], .fz true .nils 0 []] = some (g3.set r0 [.int .i64 3, .fz true .nils 0 [], .fz true .nils 0 []]) := by rw [obj_wr gs3.obj, if_pos ⟨by simp, by rfl⟩]; rfl
    have km5 : KM T s (g3.set r0 [.int .i64 3, .fz true .nils 0 [], .fz true .nils 0 []]) := gs3.km.set gs3.r0b.1 _
    obtain ⟨x1, x2⟩ := hres (u0 := .int .i64 3) (u1 := .fz true .nils 0 []) (u2 := .fz true .nils 0 []) km5 rfl rfl rfl
    have x0 : (g3.set r0 [.int .i64 3, .fz true .nils 0 [], .fz true .nils 0 []]).rd r0 0 3 = some [.int .i64 3, .fz true .nils 0 [], .fz true .nils 0 []] := by rw [prd_set, if_pos rfl]; rfl
    have so5 : So (g3.set r0 [.int .i64 3, .fz true .nils 0 [], .fz true .nils 0 []]) s vC bs := gs3.so.set (by omega) _
    simp only [pwA, if_true, if_false, eq_self, nm_eq, reduceCtorEq, ↓reduceIte, nQ10, nQ7, nQ11, nQ12, nQ16, nQ17, nQ18, iQ2, iQ3, iQ4, iQ5, iQ6, lQ19, iQ7, lQ20, w5]
    generalize g3.set r0 [.int .i64 3, .fz true .nils 0 [], .fz true .nils 0 []] = g5 at *
    simp only [pwA, if_true, if_false, eq_self, nm_eq, reduceCtorEq, ↓reduceIte, nQ10, nQ7, nQ11, nQ12, nQ16, nQ17, nQ18, iQ2, iQ3, iQ4, iQ5, iQ6, lQ19, iQ7, lQ20, x0, x1, x2]
    refine Gh.km (((so.kmK hkT).trans hsl km5).set (Nat.le_refl _) _) (so5.set (by omega) _) hsl fun σ' m' so' kp => ?_
    exact Gh.fin0 kp ⟨trivial, trivial, trivial, trivial⟩ (hk 3 _ _ [] [] σ' ⟨by decide, by decide, by decide, ⟨fun r hr => (by cases hr), fun r hr => (by cases hr), fun r hr => (by cases hr)⟩⟩ ⟨⟨true, .nils, [], rfl, All2.nil _⟩, ⟨true, .nils, [], rfl, All2.nil _⟩⟩ m' so')
  have a := gs3.imp fun W B f => f.sm
  simp only [pwA, if_true, if_false, eq_self, nm_eq, reduceCtorEq, ↓reduceIte, nQ10, nQ7, nQ11, nQ12, nQ16, nQ17, nQ18, iQ2, iQ3, iQ4, iQ5, iQ6, lQ19, iQ7, lQ20, e0, e1, e2, e3, e4, e5]
  obtain ⟨e1, e2, e3, e4⟩ := fin hq a
  simp only [pwA, if_true, if_false, eq_self, nm_eq, reduceCtorEq, ↓reduceIte, nQ10, nQ7, nQ11, nQ12, nQ16, nQ17, nQ18, iQ2, iQ3, iQ4, iQ5, iQ6, lQ19, iQ7, lQ20, e1, e2, e3]
  exact e4
end Go.Proofs
namespace Go.Proofs
open Go.Ab Go.Lie
variable {σ σ0 h h' : PHeap} {K : PV → PHeap → Prop} {vC vP vB : PV} {bs : List Int} {s b n r0 : Nat} {p : Int} {sP sB : Nat} {capP capB : Cap} {W : List (List Int)} {B : List (List (List Int))}
theorem DrR.ok (hp : isP p) (hF : OkF p n W B) : DrR p W B := ⟨by have := hp.bd; omega, by rw [hF.w.len]; exact hF.w.le, by rw [hF.b.len]; exact hF.w.le, hF.sm⟩
theorem l31Good_fz (so : So σ s vC bs) (hk : ∀ p n vP vB W B h, isP p → OkF p n W B → IsR vP vB W B → Mv σ s h → So h s vC bs → K (.agg [.int .i64 p, vP, vB]) h) : PCalls Try.prog 139 [.ptr s 0] σ K :=
  PCalls.gh (l31Good_ok so fun p n sP capP cs sB capB ls h W B hp hn1 hpow hF km so2 rs => Gh.km km so2 so.lt fun σ' m' so' kp => RS.fin (rs.low (b' := σ'.next) (by rw [m'.next]; exact Nat.le_refl _)) kp (Nat.le_refl _) fun vP vB hR => hk p n vP vB W B σ' hp hF hR m' so')
theorem l33Good_ok (so : So σ s vC bs) (hk : ∀ p vP vB W B h, DrR p W B → IsR vP vB W B → Mv σ s h → So h s vC bs → K (.agg [.int .i64 p, vP, vB]) h) : PCalls Try.prog 88 [.ptr s 0] σ K := by
  have hsl := so.lt
  refine PCalls.gh ?_
  generalize hT : σ.new [.int .i64 0, .fz true .nils 0 [], .fz true .nils 0 []] = T
  have hTn : T.next = σ.next + 1 := by rw [← hT]; rfl
  have hkT : Keep σ T := by rw [← hT]; exact keep_new σ _
  have soT : So T s vC bs := so.keep hkT
  have hsT : s < T.next := soT.lt
  have obT : T.obj σ.next = some [.int .i64 0, .fz true .nils 0 [], .fz true .nils 0 []] := by rw [← hT]; simp only [pwA, if_true, if_false, eq_self, nm_eq, reduceCtorEq, ↓reduceIte, nQ10, nQ7, nQ11, nQ12, nQ16, nQ17, nQ18, iQ2, iQ3, iQ4, iQ5, iQ6, lQ19, iQ7, lQ20]
  have hres : ∀ {g : PHeap} {u0 u1 u2 : PV}, KM T s g → u0.one = true → u1.one = true → u2.one = true → g.wr σ.next 0 [u0, u1, u2] = some (g.set σ.next [u0, u1, u2]) ∧ (g.set σ.next [u0, u1, u2]).rd σ.next 0 3 = some [u0, u1, u2] := fun {g u0 u1 u2} k z0 z1 z2 => by
    have hres : g.obj σ.next = some [.int .i64 0, .fz true .nils 0 [], .fz true .nils 0 []] := by rw [k.obj (by omega) (by omega)]; exact obT
    exact ⟨by rw [obj_wr hres, if_pos ⟨by simp, by simp only [List.all_cons, List.all_nil, z0, z1, z2]; rfl⟩]; rfl, by rw [prd_set, if_pos rfl]; rfl⟩
  refine pcalls_of_vp mix Try.func88 cf88 rfl ?_
  dsimp only [if88, qI, eI, nI, qD, eD]
  simp only [pwA, if_true, if_false, eq_self, nm_eq, reduceCtorEq, ↓reduceIte, nQ10, nQ7, nQ11, nQ12, nQ16, nQ17, nQ18, iQ2, iQ3, iQ4, iQ5, iQ6, lQ19, iQ7, lQ20]
  rw [hT]
  refine l31Good_fz soT fun p1 n1 vP1 vB1 W1 B1 h1 hp1 hF1 hR1 m1 so1 => ?_
  have km1 := soT.km.mv hsT m1
  have g1 := hR1.P.one
  have g2 := hR1.B.one
  have h01 := km1.next
  have km1' : KM T s (h1.new [.int .i64 p1, vP1, vB1]) := km1.new _
  have so1' : So (h1.new [.int .i64 p1, vP1, vB1]) s vC bs := so1.keep (keep_new _ _)
  have ob1 : (h1.new [.int .i64 p1, vP1, vB1]).obj h1.next = some [.int .i64 p1, vP1, vB1] := by rw [pobj_new, if_pos rfl]
  have lt1 : h1.next < (h1.new [.int .i64 p1, vP1, vB1]).next := Nat.lt_succ_self _
  simp only [pwA, if_true, if_false, eq_self, nm_eq, reduceCtorEq, ↓reduceIte, nQ10, nQ7, nQ11, nQ12, nQ16, nQ17, nQ18, iQ2, iQ3, iQ4, iQ5, iQ6, lQ19, iQ7, lQ20, g1, g2]
  generalize h1.new [PV.int .i64 p1, vP1, vB1] = g1_ at *
  have hr0 : T.next ≤ h1.next := h01
  generalize h1.next = r0 at *
  refine l33Is_ok hR1 hF1.w hF1.b hp1 fun t ht => ?_
  cases t with
  | true =>
    have x0 : g1_.rd r0 0 3 = some [.int .i64 p1, vP1, vB1] := by rw [obj_rd ob1]; rfl
    obtain ⟨x1, x2⟩ := hres (u0 := .int .i64 p1) (u1 := vP1) (u2 := vB1) km1' rfl g1 g2
    simp only [pwA, if_true, if_false, eq_self, nm_eq, reduceCtorEq, ↓reduceIte, nQ10, nQ7, nQ11, nQ12, nQ16, nQ17, nQ18, iQ2, iQ3, iQ4, iQ5, iQ6, lQ19, iQ7, lQ20, x0, x1, x2]
    refine Gh.km (((so.kmK hkT).trans hsl km1').set (Nat.le_refl _) _) (so1'.set (by omega) _) hsl fun σ' m' so' kp => ?_
    exact Gh.fin0 kp ⟨trivial, hR1.P.bel _, hR1.B.bel _, trivial⟩ (hk p1 vP1 vB1 W1 B1 σ' (DrR.ok hp1 hF1) hR1 m' so')
  | false =>
  simp only [pwA, if_true, if_false, eq_self, nm_eq, reduceCtorEq, ↓reduceIte, nQ10, nQ7, nQ11, nQ12, nQ16, nQ17, nQ18, iQ2, iQ3, iQ4, iQ5, iQ6, lQ19, iQ7, lQ20]
  refine l01Next_m so1' (by decide) fun x h2 hx m2 so2 => ?_
  have km2 := km1'.mv hsT m2
  have x0 := hx.1
  have x2 := hx.lt (by decide)
  obtain ⟨n, hn3, hn4, wn⟩ : ∃ n : Nat, 3 ≤ n ∧ n ≤ 4 ∧ IntKind.i64.wrap (3 + x) = (n : Int) := ⟨(3 + x).toNat, by omega, by omega, by rw [wrap64 (by omega) (by omega)]; omega⟩
  simp only [pwA, if_true, if_false, eq_self, nm_eq, reduceCtorEq, ↓reduceIte, nQ10, nQ7, nQ11, nQ12, nQ16, nQ17, nQ18, iQ2, iQ3, iQ4, iQ5, iQ6, lQ19, iQ7, lQ20, wn]
  refine l01Next_m (so2.keep (keep_new _ _)) (by decide) fun y h3 hy m3 so3 => ?_
  have km3 := (km2.new [.int .i64 3, .int .i64 5]).mv hsT m3
  have y0 := hy.1
  have y2 := hy.lt (by decide)
  have h02 := km2.next
  have ob3 : h3.obj h2.next = some (pis [3, 5]) := by rw [m3.obj (by omega), pobj_new, if_pos rfl]; rfl
  obtain ⟨k, rfl⟩ : ∃ k : Nat, y = k := ⟨y.toNat, by omega⟩
  have hk2 : k < 2 := by omega
  obtain ⟨p, hp, hp35, hr⟩ : ∃ p : Int, isP p ∧ (p = 3 ∨ p = 5) ∧ h3.rd1 h2.next k = some (.int .i64 p) := by
    have e : k = 0 ∨ k = 1 := by omega
    rcases e with rfl | rfl
    · exact ⟨3, .inr (.inl rfl), .inl rfl, by rw [obj_rd1 ob3]; rfl⟩
    · exact ⟨5, .inr (.inr (.inl rfl)), .inr rfl, by rw [obj_rd1 ob3]; rfl⟩
  have r0h2 : r0 < h2.next := by rw [m2.next]; exact lt1
  have ob3' : h3.obj r0 = some [.int .i64 p1, vP1, vB1] := by rw [m3.obj (by omega), pobj_new, if_neg (by omega), m2.obj (by omega)]; exact ob1
  have lt3 : r0 < h3.next := by rw [m3.next]; show r0 < h2.next + 1; omega
  have hn1 : 1 ≤ n := by omega
  have hn6 : n ≤ 6 := by omega
  have hpb := hp.bd
  have hp27 : 2 ≤ p ∧ p ≤ 7 := by omega
  simp only [pwA, if_true, if_false, eq_self, nm_eq, reduceCtorEq, ↓reduceIte, nQ10, nQ7, nQ11, nQ12, nQ16, nQ17, nQ18, iQ2, iQ3, iQ4, iQ5, iQ6, lQ19, iQ7, lQ20, hr, hk2]
  refine l31Flat_ok hn1 hn6 fun sP capP cs sB capB ls h5 k5 rs5 => ?_
  have so5 := so3.keep k5
  have km5 := km3.keep k5
  have ob5 : h5.obj r0 = some [.int .i64 p1, vP1, vB1] := by rw [k5.obj r0 lt3]; exact ob3'
  have lt5 : r0 < h5.next := Nat.lt_of_lt_of_le lt3 k5.next
  have h03 := km3.next
  have w5 : h5.wr r0 0 [.int .i64 p, .sl sP 0 n capP, .sl sB 0 n capB] = some (h5.set r0 [.int .i64 p, .sl sP 0 n capP, .sl sB 0 n capB]) := by rw [obj_wr ob5, if_pos ⟨by simp, by rfl⟩]; rfl
  have okp0 : okp p := hpb
  have gs : GS E0 FI (OkF p n) T (h5.set r0 [.int .i64 p, .sl sP 0 n capP, .sl sB 0 n capB]) s vC bs r0 p n sP capP sB capB :=
    ⟨km5.set hr0 _, so5.set (by omega) _, hsT, by rw [pobj_set, if_pos rfl], ⟨hr0, lt5⟩, ⟨cs, ls, _, _, (rs5.low h03).move (fun t ht => by rw [pobj_set, if_neg (by have := (rs5.lt ht).1; omega)]) (Nat.le_refl _), OkF.zero okp0 hn6, fun t ht e => by have := (rs5.lt ht).1; omega, fun u x e => e.elim⟩, fun u x e => e.elim⟩
  clear rs5
  have wn1 : IntKind.i64.wrap ((n : Int) - 1) = ((n - 1 : Nat) : Int) := by rw [wrap64 (by omega) (by omega)]; omega
  have fin : ∀ {g : PHeap}, GS E0 FI (OkF p n) T g s vC bs r0 p n sP capP sB capB → g.rd r0 0 3 = some [.int .i64 p, .sl sP 0 n capP, .sl sB 0 n capB] ∧ g.wr σ.next 0 [.int .i64 p, .sl sP 0 n capP, .sl sB 0 n capB] = some (g.set σ.next [.int .i64 p, .sl sP 0 n capP, .sl sB 0 n capB])
      ∧ (g.set σ.next [.int .i64 p, .sl sP 0 n capP, .sl sB 0 n capB]).rd σ.next 0 3 = some [.int .i64 p, .sl sP 0 n capP, .sl sB 0 n capB] ∧ Gh σ K (.agg [.int .i64 p, .sl sP 0 n capP, .sl sB 0 n capB]) (g.set σ.next [.int .i64 p, .sl sP 0 n capP, .sl sB 0 n capB]) := fun {g} a => by
    obtain ⟨x1, x2⟩ := hres (u0 := .int .i64 p) (u1 := .sl sP 0 n capP) (u2 := .sl sB 0 n capB) a.km rfl rfl rfl
    refine ⟨a.rd.1, x1, x2, ?_⟩
    obtain ⟨cs, ls, W, B, rs, f, ne, _⟩ := a.rs
    refine Gh.km (((so.kmK hkT).trans hsl a.km).set (Nat.le_refl _) _) (a.so.set (by omega) _) hsl fun σ' m' so' kp => ?_
    refine RS.fin ((rs.low (b' := σ'.next) (by rw [m'.next]; omega)).move (fun t ht => ?_) (Nat.le_refl _)) kp (Nat.le_refl _) fun vP vB hR => hk p vP vB W B σ' (DrR.ok hp f) hR m' so'
    have := (rs.lt ht).1
    rw [pobj_set, if_neg (by omega)]
  have rowB : ∀ {W : List (List Int)} {B : List (List (List Int))} {i : Nat}, OkF p n W B → i < n → (B.getD i []).length = n - 1 - i := fun {W B i} q hi => by
    have h1 : i < B.length := by rw [q.b.len]; exact hi
    rw [getD_row' h1]; exact q.b.row i h1
  have hle : El p n (unitL n (n - 1)) := unit_el okp0 (by omega)
  have i0n : (0 : Int) < (n : Int) := by omega
  have i1n : (1 : Int) < (n : Int) := by omega
  have i0m : (0 : Int) < ((n - 1 - 0 : Nat) : Int) := by omega
  have i1m : (1 : Int) < ((n - 1 - 0 : Nat) : Int) := by omega
  have i0q : (0 : Int) < ((n - 1 - 1 : Nat) : Int) := by omega
  simp only [pwA, if_true, if_false, eq_self, nm_eq, reduceCtorEq, ↓reduceIte, nQ10, nQ7, nQ11, nQ12, nQ16, nQ17, nQ18, iQ2, iQ3, iQ4, iQ5, iQ6, lQ19, iQ7, lQ20, w5]
  clear w5
  generalize h5.set r0 [PV.int .i64 p, .sl sP 0 n capP, .sl sB 0 n capB] = g5 at *
  obtain ⟨f3, f0, f1, f2⟩ := gs.rd
  simp only [pwA, if_true, if_false, eq_self, nm_eq, reduceCtorEq, ↓reduceIte, nQ10, nQ7, nQ11, nQ12, nQ16, nQ17, nQ18, iQ2, iQ3, iQ4, iQ5, iQ6, lQ19, iQ7, lQ20, f3, wn1]
  refine l31Unit_sl (vP := .sl sP 0 n capP) (vB := .sl sB 0 n capB) (n := n) (k := n - 1) rfl rfl rfl (by omega) (by omega) fun vl hlv => ?_
  obtain ⟨t6, c6, rB⟩ := gs.rdB (i := 0) (by omega) (fun W B q => rowB q (by omega))
  simp only [pwA, if_true, if_false, eq_self, nm_eq, reduceCtorEq, ↓reduceIte, nQ10, nQ7, nQ11, nQ12, nQ16, nQ17, nQ18, iQ2, iQ3, iQ4, iQ5, iQ6, lQ19, iQ7, lQ20, f3, f2, rB, i0n]
  refine l31Unit_sl (vP := .sl sP 0 n capP) (vB := .sl sB 0 n capB) (n := n) (k := 2) rfl rfl rfl (by omega) (by omega) fun v6 hv6 => ?_
  obtain ⟨g6, w6, gs6, _⟩ := gs.putB (F' := OkF p n) (i := 0) (k := 0) (by omega) rB (by omega) (fun _ _ h => h) hv6 hv6.one (fun W B _ q => q.setB (by omega) (unit_el q.w.pr (by omega)) (fun j hj => by rw [unit_at (by omega), if_neg (by omega)]))
  simp only [pwA, if_true, if_false, eq_self, nm_eq, reduceCtorEq, ↓reduceIte, nQ10, nQ7, nQ11, nQ12, nQ16, nQ17, nQ18, iQ2, iQ3, iQ4, iQ5, iQ6, lQ19, iQ7, lQ20, f2, rB, w6, i0n, i0m, hv6.cells]
  clear f3 f0 f1 f2 rB w6 gs
  by_cases hn4' : n = 4
  rotate_left
  · as_aux_lemma =>
    have hn4'' : ¬ (n : Int) = 4 := by omega
    simp only [pwA, if_true, if_false, eq_self, nm_eq, reduceCtorEq, ↓reduceIte, nQ10, nQ7, nQ11, nQ12, nQ16, nQ17, nQ18, iQ2, iQ3, iQ4, iQ5, iQ6, lQ19, iQ7, lQ20, hn4'', decide_false]
    obtain ⟨f3, f0, f1, f2⟩ := gs6.rd
    simp only [pwA, if_true, if_false, eq_self, nm_eq, reduceCtorEq, ↓reduceIte, nQ10, nQ7, nQ11, nQ12, nQ16, nQ17, nQ18, iQ2, iQ3, iQ4, iQ5, iQ6, lQ19, iQ7, lQ20, f3, f1, wn1]
    refine l31Tail_fz (vP := .sl sP 0 n capP) (vB := .sl sB 0 n capB) (n := n) (k := n - 1) gs6.so hp27 rfl rfl rfl (by omega) (by omega) fun v9 x9 k9 hx9 hz9 hv9 m9 so9 => ?_
    have gt9 := gs6.mv m9 so9
    obtain ⟨p3, p0, p1, p2⟩ := gt9.rd
    obtain ⟨h9, w9, gs9⟩ := gt9.putP (F' := OkF p n) (i := 1) (w := x9) (by omega) hv9 (fun W B q => q.setP hx9 (fun j hj => hz9 j (by omega)))
    simp only [pwA, if_true, if_false, eq_self, nm_eq, reduceCtorEq, ↓reduceIte, nQ10, nQ7, nQ11, nQ12, nQ16, nQ17, nQ18, iQ2, iQ3, iQ4, iQ5, iQ6, lQ19, iQ7, lQ20, p1, w9, i1n, hv9.cells]
    obtain ⟨e1, e2, e3, e4⟩ := fin gs9
    simp only [pwA, if_true, if_false, eq_self, nm_eq, reduceCtorEq, ↓reduceIte, nQ10, nQ7, nQ11, nQ12, nQ16, nQ17, nQ18, iQ2, iQ3, iQ4, iQ5, iQ6, lQ19, iQ7, lQ20, e1, e2, e3]
    exact e4
  have hd4 : decide ((n : Int) = 4) = true := decide_eq_true (by omega)
  by_cases hp5 : p = 5
  rotate_left
  · as_aux_lemma =>
    simp only [pwA, if_true, if_false, eq_self, nm_eq, reduceCtorEq, ↓reduceIte, nQ10, nQ7, nQ11, nQ12, nQ16, nQ17, nQ18, iQ2, iQ3, iQ4, iQ5, iQ6, lQ19, iQ7, lQ20, hd4, hp5, decide_true, decide_false]
    obtain ⟨f3, f0, f1, f2⟩ := gs6.rd
    simp only [pwA, if_true, if_false, eq_self, nm_eq, reduceCtorEq, ↓reduceIte, nQ10, nQ7, nQ11, nQ12, nQ16, nQ17, nQ18, iQ2, iQ3, iQ4, iQ5, iQ6, lQ19, iQ7, lQ20, f3, f1, wn1]
    refine l31Tail_fz (vP := .sl sP 0 n capP) (vB := .sl sB 0 n capB) (n := n) (k := n - 1) gs6.so hp27 rfl rfl rfl (by omega) (by omega) fun v9 x9 k9 hx9 hz9 hv9 m9 so9 => ?_
    have gt9 := gs6.mv m9 so9
    obtain ⟨p3, p0, p1, p2⟩ := gt9.rd
    obtain ⟨h9, w9, gs9⟩ := gt9.putP (F' := OkF p n) (i := 1) (w := x9) (by omega) hv9 (fun W B q => q.setP hx9 (fun j hj => hz9 j (by omega)))
    simp only [pwA, if_true, if_false, eq_self, nm_eq, reduceCtorEq, ↓reduceIte, nQ10, nQ7, nQ11, nQ12, nQ16, nQ17, nQ18, iQ2, iQ3, iQ4, iQ5, iQ6, lQ19, iQ7, lQ20, p1, w9, i1n, hv9.cells]
    obtain ⟨e1, e2, e3, e4⟩ := fin gs9
    simp only [pwA, if_true, if_false, eq_self, nm_eq, reduceCtorEq, ↓reduceIte, nQ10, nQ7, nQ11, nQ12, nQ16, nQ17, nQ18, iQ2, iQ3, iQ4, iQ5, iQ6, lQ19, iQ7, lQ20, e1, e2, e3]
    exact e4
  obtain ⟨f3, f0, f1, f2⟩ := gs6.rd
  obtain ⟨t7, c7, rB⟩ := gs6.rdB (i := 0) (by omega) (fun W B q => rowB q (by omega))
  obtain ⟨g7, w7, gs7, _⟩ := gs6.putB (F' := OkF p n) (i := 0) (k := 1) (by omega) rB (by omega) (fun _ _ h => h) hlv hlv.one (fun W B _ q => q.setB (by omega) hle (fun j hj => by rw [unit_at (by omega), if_neg (by omega)]))
  have hp5' : decide (p = 5) = true := decide_eq_true hp5
  simp only [pwA, if_true, if_false, eq_self, nm_eq, reduceCtorEq, ↓reduceIte, nQ10, nQ7, nQ11, nQ12, nQ16, nQ17, nQ18, iQ2, iQ3, iQ4, iQ5, iQ6, lQ19, iQ7, lQ20, hd4, hp5', decide_true, f2, rB, w7, i0n, i1m, hlv.cells]
  clear f3 f0 f1 f2 rB w7
  refine l01Next_m gs7.so (by decide) fun z g8 hz8 m8 so8 => ?_
  have gs8 := gs7.mv m8 so8
  by_cases hz0 : z = 0
  · as_aux_lemma =>
    obtain ⟨f3, f0, f1, f2⟩ := gs8.rd
    obtain ⟨t, c, rB⟩ := gs8.rdB (i := 1) (by omega) (fun W B q => rowB q (by omega))
    have hsB := gs8.sBb
    simp only [pwA, if_true, if_false, eq_self, nm_eq, reduceCtorEq, ↓reduceIte, nQ10, nQ7, nQ11, nQ12, nQ16, nQ17, nQ18, iQ2, iQ3, iQ4, iQ5, iQ6, lQ19, iQ7, lQ20, hz0, decide_true, f3, f2, rB, i1n]
    refine l31Tail_fz (vP := .sl sP 0 n capP) (vB := .sl sB 0 n capB) (n := n) (k := 3) gs8.so hp27 rfl rfl rfl (by omega) (by omega) fun v x g4 hx hz hv m4 so4 => ?_
    have gs4 := gs8.mv m4 so4
    obtain ⟨p3, p0, p1, p2⟩ := gs4.rd
    have rB' : g4.rd1 sB 1 = some (.sl t 0 (n - 1 - 1) c) := by rw [m4.rd1 (by omega)]; exact rB
    obtain ⟨gb, w5, gsb, _⟩ := gs4.putB (F' := OkF p n) (i := 1) (k := 0) (w := x) (by omega) rB' (by omega) (fun _ _ h => h) hv hv.one (fun W B hB q => q.setB (by omega) hx (fun j hj => hz j (by omega)))
    simp only [pwA, if_true, if_false, eq_self, nm_eq, reduceCtorEq, ↓reduceIte, nQ10, nQ7, nQ11, nQ12, nQ16, nQ17, nQ18, iQ2, iQ3, iQ4, iQ5, iQ6, lQ19, iQ7, lQ20, p2, rB', w5, hv.cells, i1n, i0q]
    clear f3 f0 f1 f2 rB p3 p0 p1 p2 rB' w5
    obtain ⟨f3, f0, f1, f2⟩ := gsb.rd
    simp only [pwA, if_true, if_false, eq_self, nm_eq, reduceCtorEq, ↓reduceIte, nQ10, nQ7, nQ11, nQ12, nQ16, nQ17, nQ18, iQ2, iQ3, iQ4, iQ5, iQ6, lQ19, iQ7, lQ20, f3, f1]
    refine l31Tail_fz (vP := .sl sP 0 n capP) (vB := .sl sB 0 n capB) (n := n) (k := 3) gsb.so hp27 rfl rfl rfl (by omega) (by omega) fun va xa ka hxa hza hva ma soa => ?_
    have gta := gsb.mv ma soa
    obtain ⟨p3, p0, p1, p2⟩ := gta.rd
    obtain ⟨ha, wa, gsa⟩ := gta.putP (F' := OkF p n) (i := 0) (w := xa) (by omega) hva (fun W B q => q.setP hxa (fun j hj => hza j (by omega)))
    simp only [pwA, if_true, if_false, eq_self, nm_eq, reduceCtorEq, ↓reduceIte, nQ10, nQ7, nQ11, nQ12, nQ16, nQ17, nQ18, iQ2, iQ3, iQ4, iQ5, iQ6, lQ19, iQ7, lQ20, p1, wa, i0n, hva.cells]
    clear f3 f0 f1 f2 p3 p0 p1 p2 wa
    obtain ⟨f3, f0, f1, f2⟩ := gsa.rd
    simp only [pwA, if_true, if_false, eq_self, nm_eq, reduceCtorEq, ↓reduceIte, nQ10, nQ7, nQ11, nQ12, nQ16, nQ17, nQ18, iQ2, iQ3, iQ4, iQ5, iQ6, lQ19, iQ7, lQ20, f3, f1, wn1]
    refine l31Tail_fz (vP := .sl sP 0 n capP) (vB := .sl sB 0 n capB) (n := n) (k := n - 1) gsa.so hp27 rfl rfl rfl (by omega) (by omega) fun v9 x9 k9 hx9 hz9 hv9 m9 so9 => ?_
    have gt9 := gsa.mv m9 so9
    obtain ⟨p3, p0, p1, p2⟩ := gt9.rd
    obtain ⟨h9, w9, gs9⟩ := gt9.putP (F' := OkF p n) (i := 1) (w := x9) (by omega) hv9 (fun W B q => q.setP hx9 (fun j hj => hz9 j (by omega)))
    simp only [pwA, if_true, if_false, eq_self, nm_eq, reduceCtorEq, ↓reduceIte, nQ10, nQ7, nQ11, nQ12, nQ16, nQ17, nQ18, iQ2, iQ3, iQ4, iQ5, iQ6, lQ19, iQ7, lQ20, p1, w9, i1n, hv9.cells]
    obtain ⟨e1, e2, e3, e4⟩ := fin gs9
    simp only [pwA, if_true, if_false, eq_self, nm_eq, reduceCtorEq, ↓reduceIte, nQ10, nQ7, nQ11, nQ12, nQ16, nQ17, nQ18, iQ2, iQ3, iQ4, iQ5, iQ6, lQ19, iQ7, lQ20, e1, e2, e3]
    exact e4
  · as_aux_lemma =>
    simp only [pwA, if_true, if_false, eq_self, nm_eq, reduceCtorEq, ↓reduceIte, nQ10, nQ7, nQ11, nQ12, nQ16, nQ17, nQ18, iQ2, iQ3, iQ4, iQ5, iQ6, lQ19, iQ7, lQ20, hz0, decide_false]
    obtain ⟨f3, f0, f1, f2⟩ := gs8.rd
    simp only [pwA, if_true, if_false, eq_self, nm_eq, reduceCtorEq, ↓reduceIte, nQ10, nQ7, nQ11, nQ12, nQ16, nQ17, nQ18, iQ2, iQ3, iQ4, iQ5, iQ6, lQ19, iQ7, lQ20, f3, f1]
    refine l31Tail_fz (vP := .sl sP 0 n capP) (vB := .sl sB 0 n capB) (n := n) (k := 3) gs8.so hp27 rfl rfl rfl (by omega) (by omega) fun va xa ka hxa hza hva ma soa => ?_
    have gta := gs8.mv ma soa
    obtain ⟨p3, p0, p1, p2⟩ := gta.rd
    obtain ⟨ha, wa, gsa⟩ := gta.putP (F' := OkF p n) (i := 0) (w := xa) (by omega) hva (fun W B q => q.setP hxa (fun j hj => hza j (by omega)))
    simp only [pwA, if_true, if_false, eq_self, nm_eq, reduceCtorEq, ↓reduceIte, nQ10, nQ7, nQ11, nQ12, nQ16, nQ17, nQ18, iQ2, iQ3, iQ4, iQ5, iQ6, lQ19, iQ7, lQ20, p1, wa, i0n, hva.cells]
    clear f3 f0 f1 f2 p3 p0 p1 p2 wa
    obtain ⟨f3, f0, f1, f2⟩ := gsa.rd
    simp only [pwA, if_true, if_false, eq_self, nm_eq, reduceCtorEq, ↓reduceIte, nQ10, nQ7, nQ11, nQ12, nQ16, nQ17, nQ18, iQ2, iQ3, iQ4, iQ5, iQ6, lQ19, iQ7, lQ20, f3, f1, wn1]
    refine l31Tail_fz (vP := .sl sP 0 n capP) (vB := .sl sB 0 n capB) (n := n) (k := n - 1) gsa.so hp27 rfl rfl rfl (by omega) (by omega) fun v9 x9 k9 hx9 hz9 hv9 m9 so9 => ?_
    have gt9 := gsa.mv m9 so9
    obtain ⟨p3, p0, p1, p2⟩ := gt9.rd
    obtain ⟨h9, w9, gs9⟩ := gt9.putP (F' := OkF p n) (i := 1) (w := x9) (by omega) hv9 (fun W B q => q.setP hx9 (fun j hj => hz9 j (by omega)))
    simp only [pwA, if_true, if_false, eq_self, nm_eq, reduceCtorEq, ↓reduceIte, nQ10, nQ7, nQ11, nQ12, nQ16, nQ17, nQ18, iQ2, iQ3, iQ4, iQ5, iQ6, lQ19, iQ7, lQ20, p1, w9, i1n, hv9.cells]
    obtain ⟨e1, e2, e3, e4⟩ := fin gs9
    simp only [pwA, if_true, if_false, eq_self, nm_eq, reduceCtorEq, ↓reduceIte, nQ10, nQ7, nQ11, nQ12, nQ16, nQ17, nQ18, iQ2, iQ3, iQ4, iQ5, iQ6, lQ19, iQ7, lQ20, e1, e2, e3]
    exact e4
theorem l33Draw_ok (so : So σ s vC bs) (hk : ∀ p vP vB W B h, DrR p W B → IsR vP vB W B → Mv σ s h → So h s vC bs → K (.agg [.int .i64 p, vP, vB]) h) : PCalls Try.prog 32 [.ptr s 0] σ K := by
  have hsl := so.lt
  refine PCalls.gh ?_
  generalize hT : σ.new [.int .i64 0, .fz true .nils 0 [], .fz true .nils 0 []] = T
  have hTn : T.next = σ.next + 1 := by rw [← hT]; rfl
  have hkT : Keep σ T := by rw [← hT]; exact keep_new σ _
  have soT : So T s vC bs := so.keep hkT
  have hsT : s < T.next := soT.lt
  have obT : T.obj σ.next = some [.int .i64 0, .fz true .nils 0 [], .fz true .nils 0 []] := by rw [← hT]; simp only [pwA, if_true, if_false, eq_self, nm_eq, reduceCtorEq, ↓reduceIte, nQ10, nQ7, nQ11, nQ12, nQ16, nQ17, nQ18, iQ2, iQ3, iQ4, iQ5, iQ6, lQ19, iQ7, lQ20]
  have hres : ∀ {g : PHeap} {u0 u1 u2 : PV}, KM T s g → u0.one = true → u1.one = true → u2.one = true → g.wr σ.next 0 [u0, u1, u2] = some (g.set σ.next [u0, u1, u2]) ∧ (g.set σ.next [u0, u1, u2]).rd σ.next 0 3 = some [u0, u1, u2] := fun {g u0 u1 u2} k z0 z1 z2 => by
    have hres : g.obj σ.next = some [.int .i64 0, .fz true .nils 0 [], .fz true .nils 0 []] := by rw [k.obj (by omega) (by omega)]; exact obT
    exact ⟨by rw [obj_wr hres, if_pos ⟨by simp, by simp only [List.all_cons, List.all_nil, z0, z1, z2]; rfl⟩]; rfl, by rw [prd_set, if_pos rfl]; rfl⟩
  have fin : ∀ {g : PHeap} {p : Int} {vP vB : PV} {W : List (List Int)} {B : List (List (List Int))}, DrR p W B → IsR vP vB W B → KM T s g → So g s vC bs → Gh σ K (.agg [.int .i64 p, vP, vB]) (g.set σ.next [.int .i64 p, vP, vB]) := fun {g p vP vB W B} d hR km so1 => by
    refine Gh.km (((so.kmK hkT).trans hsl km).set (Nat.le_refl _) _) (so1.set (by omega) _) hsl fun σ' m' so' kp => ?_
    exact Gh.fin0 kp ⟨trivial, hR.P.bel _, hR.B.bel _, trivial⟩ (hk p vP vB W B σ' d hR m' so')
  refine pcalls_of_vp mix Try.func32 cf32 rfl ?_
  dsimp only [if32, qI, eI, nI, qD, eD]
  simp only [pwA, if_true, if_false, eq_self, nm_eq, reduceCtorEq, ↓reduceIte, nQ10, nQ7, nQ11, nQ12, nQ16, nQ17, nQ18, iQ2, iQ3, iQ4, iQ5, iQ6, lQ19, iQ7, lQ20]
  rw [hT]
  refine l01Next_m soT (by decide) fun x h1 hx m1 so1 => ?_
  have km1 := soT.km.mv hsT m1
  by_cases hx0 : x = 0
  · simp only [pwA, if_true, if_false, eq_self, nm_eq, reduceCtorEq, ↓reduceIte, nQ10, nQ7, nQ11, nQ12, nQ16, nQ17, nQ18, iQ2, iQ3, iQ4, iQ5, iQ6, lQ19, iQ7, lQ20, hx0, decide_true]
    refine l31Draw_ok so1 fun p vP vB W B h2 d hR m2 so2 => ?_
    have km2 := km1.mv hsT m2
    have g1 := hR.P.one
    have g2 := hR.B.one
    obtain ⟨x1, x2⟩ := hres (u0 := .int .i64 p) (u1 := vP) (u2 := vB) km2 rfl g1 g2
    simp only [pwA, if_true, if_false, eq_self, nm_eq, reduceCtorEq, ↓reduceIte, nQ10, nQ7, nQ11, nQ12, nQ16, nQ17, nQ18, iQ2, iQ3, iQ4, iQ5, iQ6, lQ19, iQ7, lQ20, g1, g2, x1, x2]
    exact fin d hR km2 so2
  · simp only [pwA, if_true, if_false, eq_self, nm_eq, reduceCtorEq, ↓reduceIte, nQ10, nQ7, nQ11, nQ12, nQ16, nQ17, nQ18, iQ2, iQ3, iQ4, iQ5, iQ6, lQ19, iQ7, lQ20, hx0, decide_false]
    refine l33Good_ok so1 fun p vP vB W B h2 d hR m2 so2 => ?_
    have km2 := km1.mv hsT m2
    have g1 := hR.P.one
    have g2 := hR.B.one
    obtain ⟨x1, x2⟩ := hres (u0 := .int .i64 p) (u1 := vP) (u2 := vB) km2 rfl g1 g2
    simp only [pwA, if_true, if_false, eq_self, nm_eq, reduceCtorEq, ↓reduceIte, nQ10, nQ7, nQ11, nQ12, nQ16, nQ17, nQ18, iQ2, iQ3, iQ4, iQ5, iQ6, lQ19, iQ7, lQ20, g1, g2, x1, x2]
    exact fin d hR km2 so2
end Go.Proofs
namespace Go.Proofs
open Go.Ab Go.Lie
variable {σ σ0 h h' : PHeap} {K : PV → PHeap → Prop} {vC vP vB : PV} {bs : List Int} {s b n r0 : Nat} {p : Int} {W : List (List Int)} {B : List (List (List Int))}
theorem KM.keepOf (k : KM σ s h) (hk : Keep σ0 σ) (hs : σ0.next ≤ s) : Keep σ0 h := by
  obtain ⟨σ', ⟨c0, c1, h0, h1, rfl⟩, q⟩ := k
  exact (hk.set hs _).trans q
theorem DrawRootOf_ok (hb : FB vC bs) (hB : Byt bs) (hk : ∀ p vP vB W B k vx x, DrR p W B → IsR vP vB W B → 0 ≤ k ∧ k ≤ 1000001 → FI vx x → x.length ≤ 7 → K (.tup [.agg [.int .i64 p, vP, vB], .int .i64 k, vx]) σ) : PCalls Try.prog 7 [vC] σ K := by
  refine PCalls.gh ?_
  generalize hT : σ.new [.int .i64 0, .fz true .nils 0 [], .fz true .nils 0 []] = T
  have hTn : T.next = σ.next + 1 := by rw [← hT]; rfl
  have hkT : Keep σ T := by rw [← hT]; exact keep_new σ _
  have obT : T.obj σ.next = some [.int .i64 0, .fz true .nils 0 [], .fz true .nils 0 []] := by rw [← hT]; simp only [pwA, if_true, if_false, eq_self, nm_eq, reduceCtorEq, ↓reduceIte, nQ10, nQ7, nQ11, nQ12, nQ16, nQ17, nQ18, iQ2, iQ3, iQ4, iQ5, iQ6, lQ19, iQ7, lQ20]
  refine pcalls_of_vp mix Try.func7 cf7 rfl ?_
  dsimp only [if7, qI, eI, nI, qD, eD]
  simp only [pwA, if_true, if_false, eq_self, nm_eq, reduceCtorEq, ↓reduceIte, nQ10, nQ7, nQ11, nQ12, nQ16, nQ17, nQ18, iQ2, iQ3, iQ4, iQ5, iQ6, lQ19, iQ7, lQ20, hb.one]
  rw [hT]
  refine l01From_ok hb hB fun sd hsd => ?_
  have so1 : So (T.new (srcC vC 0 sd)) T.next vC bs := ⟨0, sd, by rw [pobj_new, if_pos rfl], Nat.lt_succ_self _, hb, hB, Nat.zero_le _, hsd⟩
  have km1 : KM (T.new (srcC vC 0 sd)) T.next (T.new (srcC vC 0 sd)) := so1.km
  have kT1 : Keep T (T.new (srcC vC 0 sd)) := keep_new _ _
  have hs1 : T.next < (T.new (srcC vC 0 sd)).next := Nat.lt_succ_self _
  generalize hU : T.new (srcC vC 0 sd) = U at *
  have hUn : U.next = T.next + 1 := by rw [← hU]; rfl
  simp only [pwA, if_true, if_false, eq_self, nm_eq, reduceCtorEq, ↓reduceIte, nQ10, nQ7, nQ11, nQ12, nQ16, nQ17, nQ18, iQ2, iQ3, iQ4, iQ5, iQ6, lQ19, iQ7, lQ20]
  refine l33Draw_ok so1 fun p vP vB W B h2 d hR m2 so2 => ?_
  have km2 := km1.mv hs1 m2
  have g1 := hR.P.one
  have g2 := hR.B.one
  have h2n := km2.next
  simp only [pwA, if_true, if_false, eq_self, nm_eq, reduceCtorEq, ↓reduceIte, nQ10, nQ7, nQ11, nQ12, nQ16, nQ17, nQ18, iQ2, iQ3, iQ4, iQ5, iQ6, lQ19, iQ7, lQ20, g1, g2]
  have so3 : So (h2.new [.int .i64 p, vP, vB]) T.next vC bs := so2.keep (keep_new _ _)
  have km3 : KM U T.next (h2.new [.int .i64 p, vP, vB]) := km2.new _
  refine l01Next_m so3 (by decide) fun x h4 hx m4 so4 => ?_
  have km4 := km3.mv hs1 m4
  have x0 := hx.1
  have x30 := hx.lt (by decide)
  have wx : IntKind.i64.wrap (1 + x) = 1 + x := wrap64 (by omega) (by omega)
  have ob4 : h4.obj h2.next = some [.int .i64 p, vP, vB] := by rw [m4.obj (by omega), pobj_new, if_pos rfl]
  have lt4 : h2.next < h4.next := by rw [m4.next]; exact Nat.lt_succ_self _
  simp only [pwA, if_true, if_false, eq_self, nm_eq, reduceCtorEq, ↓reduceIte, nQ10, nQ7, nQ11, nQ12, nQ16, nQ17, nQ18, iQ2, iQ3, iQ4, iQ5, iQ6, lQ19, iQ7, lQ20, wx]
  refine l01Next_m (so4.keep (keep_new _ _)) (by decide) fun y h5 hy m5 so5 => ?_
  have km5 := (km4.new [.int .i64 1, .int .i64 2, .int .i64 3, .int .i64 5, .int .i64 7, .int .i64 0, .int .i64 1000000, .int .i64 1000001, .int .i64 999999, .int .i64 (1 + x)]).mv hs1 m5
  have y0 := hy.1
  have y10 := hy.lt (by decide)
  have ob5 : h5.obj h4.next = some (pis [1, 2, 3, 5, 7, 0, 1000000, 1000001, 999999, 1 + x]) := by rw [m5.obj (by have := km4.next; omega), pobj_new, if_pos rfl]; rfl
  obtain ⟨i, rfl⟩ : ∃ i : Nat, y = i := ⟨y.toNat, by omega⟩
  have hi10 : i < 10 := by omega
  obtain ⟨k, hkb, hr⟩ : ∃ k : Int, (0 ≤ k ∧ k ≤ 1000001) ∧ h5.rd1 h4.next i = some (.int .i64 k) := by
    have e : i = 0 ∨ i = 1 ∨ i = 2 ∨ i = 3 ∨ i = 4 ∨ i = 5 ∨ i = 6 ∨ i = 7 ∨ i = 8 ∨ i = 9 := by omega
    rcases e with rfl | rfl | rfl | rfl | rfl | rfl | rfl | rfl | rfl | rfl
    · exact ⟨1, by decide, by rw [obj_rd1 ob5]; rfl⟩
    · exact ⟨2, by decide, by rw [obj_rd1 ob5]; rfl⟩
    · exact ⟨3, by decide, by rw [obj_rd1 ob5]; rfl⟩
    · exact ⟨5, by decide, by rw [obj_rd1 ob5]; rfl⟩
    · exact ⟨7, by decide, by rw [obj_rd1 ob5]; rfl⟩
    · exact ⟨0, by decide, by rw [obj_rd1 ob5]; rfl⟩
    · exact ⟨1000000, by decide, by rw [obj_rd1 ob5]; rfl⟩
    · exact ⟨1000001, by decide, by rw [obj_rd1 ob5]; rfl⟩
    · exact ⟨999999, by decide, by rw [obj_rd1 ob5]; rfl⟩
    · exact ⟨1 + x, by omega, by rw [obj_rd1 ob5]; rfl⟩
  have ob5' : h5.obj h2.next = some [.int .i64 p, vP, vB] := by rw [m5.obj (by omega), pobj_new, if_neg (by omega)]; exact ob4
  have rd5 : h5.rd h2.next 0 3 = some [.int .i64 p, vP, vB] := by rw [obj_rd ob5']; rfl
  simp only [pwA, if_true, if_false, eq_self, nm_eq, reduceCtorEq, ↓reduceIte, nQ10, nQ7, nQ11, nQ12, nQ16, nQ17, nQ18, iQ2, iQ3, iQ4, iQ5, iQ6, lQ19, iQ7, lQ20, hr, hi10, rd5]
  refine l31Element_ok so5 hR (by have := d.p; omega) (by have := d.wl; omega) fun vx xs h6 hvx hxl m6 so6 => ?_
  have km6 := km5.mv hs1 m6
  have rd6 : h6.rd h2.next 0 3 = some [.int .i64 p, vP, vB] := by rw [obj_rd (by rw [m6.obj (by omega)]; exact ob5')]; rfl
  have hU6 : Keep T h6 := km6.keepOf kT1 (Nat.le_refl _)
  have hres : h6.obj σ.next = some [.int .i64 0, .fz true .nils 0 [], .fz true .nils 0 []] := by rw [hU6.obj _ (by omega)]; exact obT
  have x1 : h6.wr σ.next 0 [.int .i64 p, vP, vB] = some (h6.set σ.next [.int .i64 p, vP, vB]) := by rw [obj_wr hres, if_pos ⟨by simp, by simp only [List.all_cons, List.all_nil, g1, g2]; rfl⟩]; rfl
  have x2 : (h6.set σ.next [.int .i64 p, vP, vB]).rd σ.next 0 3 = some [.int .i64 p, vP, vB] := by rw [prd_set, if_pos rfl]; rfl
  simp only [pwA, if_true, if_false, eq_self, nm_eq, reduceCtorEq, ↓reduceIte, nQ10, nQ7, nQ11, nQ12, nQ16, nQ17, nQ18, iQ2, iQ3, iQ4, iQ5, iQ6, lQ19, iQ7, lQ20, rd6, x1, x2, g1, g2]
  exact Gh.fin0 ((hkT.trans hU6).set (Nat.le_refl _) _) ⟨⟨trivial, hR.P.bel _, hR.B.bel _, trivial⟩, trivial, hvx.bel _, trivial⟩ (hk p vP vB W B k vx xs d hR hkb hvx (by have := d.wl; omega))
end Go.Proofs
namespace Go.Proofs
open Go.Ab Go.Lie
variable {σ σ0 h h' : PHeap} {K : PV → PHeap → Prop} {vC vP vB vx vy : PV} {bs x y : List Int} {s b n r0 : Nat} {p : Int} {W : List (List Int)} {B : List (List (List Int))}
def ElV (p : Int) (W : List (List Int)) (B : List (List (List Int))) (xs : List (List Int)) (P : Prop) (val z : List Int) (c : Int) : Prop :=
  (¬ (isLie p W B ∧ Els p W.length xs) ∧ z = [] ∧ c = 1) ∨ ((isLie p W B ∧ Els p W.length xs) ∧ ¬ P ∧ z = [] ∧ c = 2) ∨ ((isLie p W B ∧ Els p W.length xs) ∧ P ∧ z = val ∧ c = 0)
theorem ElV.ok {xs : List (List Int)} {P : Prop} {val z : List Int} {c : Int} (h : ElV p W B xs P val z c) (h1 : isLie p W B) (h2 : Els p W.length xs) (h3 : P) : z = val ∧ c = 0 := by
  rcases h with ⟨g, _⟩ | ⟨_, g, _⟩ | ⟨_, _, g1, g2⟩
  · exact absurd ⟨h1, h2⟩ g
  · exact absurd h3 g
  · exact ⟨g1, g2⟩
theorem el1 (h : El p n x) : Els p n [x] := fun y hy => by rw [List.mem_singleton.1 hy]; exact h
theorem likeInts_ok (hx : FI vx x) (hy : FI vy y) (hl : x.length ≤ 1048576) (hk : ∀ t : Bool, (t = true ↔ x = y) → K (.bool t) σ) : PCalls Try.prog 10 [vx, vy] σ K := by
  obtain ⟨wx, ax, rfl⟩ := hx
  obtain ⟨wy, ay, rfl⟩ := hy
  refine pcalls_of_vp mix Try.func10 cf10 rfl ?_
  dsimp only [if10, qI, eI, nI, qD, eD]
  simp only [pwA, if_true, if_false, eq_self, nm_eq, reduceCtorEq, ↓reduceIte, nQ10, nQ7, nQ11, nQ12, nQ16, nQ17, nQ18, iQ2, iQ3, iQ4, iQ5, iQ6, lQ19, iQ7, lQ20]
  by_cases hxy : x.length = y.length
  rotate_left
  · have hne : ¬ (x.length : Int) = (y.length : Int) := by omega
    simp only [pwA, if_true, if_false, eq_self, nm_eq, reduceCtorEq, ↓reduceIte, nQ10, nQ7, nQ11, nQ12, nQ16, nQ17, nQ18, iQ2, iQ3, iQ4, iQ5, iQ6, lQ19, iQ7, lQ20, hne]
    exact hk false ⟨fun h => (by cases h), fun h => absurd (by rw [h]) hxy⟩
  have heq : (x.length : Int) = (y.length : Int) := by omega
  simp only [pwA, if_true, if_false, eq_self, nm_eq, reduceCtorEq, ↓reduceIte, nQ10, nQ7, nQ11, nQ12, nQ16, nQ17, nQ18, iQ2, iQ3, iQ4, iQ5, iQ6, lQ19, iQ7, lQ20, heq]
  refine vp_loop (fun m us g => ∃ i : Nat, i ≤ y.length ∧ m = y.length - i ∧ us = [.fz wx ax x.length (pis x), .fz wy ay y.length (pis y), .int .i64 i] ∧ g = σ ∧ ∀ j, j < i → x[j]? = y[j]?) y.length ⟨0, by omega, by omega, rfl, rfl, fun j hj => absurd hj (Nat.not_lt_zero _)⟩ ?_
  rintro m us g ⟨i, hi, rfl, rfl, rfl, he⟩
  simp only [pwA, if_true, if_false, eq_self, nm_eq, reduceCtorEq, ↓reduceIte, nQ10, nQ7, nQ11, nQ12, nQ16, nQ17, nQ18, iQ2, iQ3, iQ4, iQ5, iQ6, lQ19, iQ7, lQ20, heq]
  refine iteI (fun hlt => ?_) fun hge => ?_
  rotate_left
  · refine hk true ⟨fun _ => List.ext_getElem? fun j => ?_, fun _ => rfl⟩
    rcases Nat.lt_or_ge j i with e | e
    · exact he j e
    · rw [List.getElem?_eq_none (by omega), List.getElem?_eq_none (by omega)]
  have hltx : i < x.length := by omega
  have hlty : i < y.length := by omega
  have wi1 : IntKind.i64.wrap ((i : Int) + 1) = ((i + 1 : Nat) : Int) := wrapS hlty (by omega)
  simp only [pwA, if_true, if_false, eq_self, nm_eq, reduceCtorEq, ↓reduceIte, nQ10, nQ7, nQ11, nQ12, nQ16, nQ17, nQ18, iQ2, iQ3, iQ4, iQ5, iQ6, lQ19, iQ7, lQ20, pisAt hltx, pisAt hlty, hltx, hlty, wi1]
  refine iteI (fun hv => ?_) fun hv => ?_
  · refine ⟨_, by omega, i + 1, by omega, rfl, rfl, fun j hj => ?_⟩
    rcases Nat.lt_or_ge j i with e | e
    · exact he j e
    · obtain rfl : j = i := by omega
      rw [List.getElem?_eq_getElem hltx, List.getElem?_eq_getElem hlty, ← at_eq hltx, ← at_eq hlty, hv]
  · refine hk false ⟨fun h => (by cases h), fun h => absurd ?_ hv⟩
    rw [h]
theorem big_ok (hb : FB vC bs) (hk : ∀ t : Bool, (t = true ↔ 4096 < bs.length) → K (.bool t) σ) : PCalls Try.prog 6 [vC] σ K := by
  obtain ⟨w, a, rfl⟩ := hb
  refine pcalls_of_vp mix Try.func6 cf6 rfl ?_
  dsimp only [if6, qI, eI, nI, qD, eD]
  simp only [pwA, if_true, if_false, eq_self, nm_eq, reduceCtorEq, ↓reduceIte, nQ10, nQ7, nQ11, nQ12, nQ16, nQ17, nQ18, iQ2, iQ3, iQ4, iQ5, iQ6, lQ19, iQ7, lQ20]
  refine hk _ ?_
  rw [decide_eq_true_eq]
  omega
theorem has_FI (hR : IsR vP vB W B) (hx : FI vx x) (hb : x.length ≤ 1048576) (hp : okp p) (hk : ∀ t : Bool, (t = true ↔ El p W.length x) → K (.bool t) σ) : PCalls Try.prog 45 [.agg [.int .i64 p, vP, vB], vx] σ K := by
  obtain ⟨w, a, rfl⟩ := hx
  exact l31Has_ok hR rfl hb hp hk
theorem mix_FI {k m : Int} (hR : IsR vP vB W B) (o : OkW p n W) (ex : El p n x) (ey : El p n y) (hx : FI vx x) (hy : FI vy y) (hkb : -1000000000 ≤ k ∧ k ≤ 1000000000) (hm : -1000000000 ≤ m ∧ m ≤ 1000000000) (hk : ∀ v, FI v (norm p W (lmix k x m y)) → K v σ) : PCalls Try.prog 46 [.agg [.int .i64 p, vP, vB], .int .i64 k, vx, .int .i64 m, vy] σ K := by
  obtain ⟨w, a, rfl⟩ := hx
  obtain ⟨w', a', rfl⟩ := hy
  have hl := (lmix_el o ex ey (k := k) (m := m)).1
  exact l31Mix_el hR o ex ey rfl rfl hkb hm fun v => hk _ ⟨true, v, by rw [hl]⟩
theorem TimesLie_F {k : Int} (hR : IsR vP vB W B) (szr : SzR W B) (hx : FI vx x) (szx : x.length ≤ 1048576)
    (hk : ∀ v z c, ElV p W B [x] (-1000000 ≤ k ∧ k ≤ 1000000) (lmul p W k x) z c → FI v z → K (.tup [v, .int .i64 c]) σ) : PCalls Try.prog 11 [.agg [.int .i64 p, vP, vB], .int .i64 k, vx] σ K := by
  have h1 := hR.P.one
  have h2 := hR.B.one
  refine PCalls.gh ?_
  refine pcalls_of_vp mix Try.func11 cf11 rfl ?_
  dsimp only [if11, qI, eI, nI, qD, eD]
  simp only [pwA, if_true, if_false, eq_self, nm_eq, reduceCtorEq, ↓reduceIte, nQ10, nQ7, nQ11, nQ12, nQ16, nQ17, nQ18, iQ2, iQ3, iQ4, iQ5, iQ6, lQ19, iQ7, lQ20, h1, h2, hx.one, hx.cells]
  have hkp : Keep σ (((σ.new [.int .i64 p, vP, vB]).new [vx]).kill (σ.next + 1)) := ((keep_new σ _).new _).kill (by omega)
  refine PCalls.frz (s := σ.next + 1) (cs := [vx]) (by simp only [pwA, if_true, if_false, eq_self, nm_eq, reduceCtorEq, ↓reduceIte, nQ10, nQ7, nQ11, nQ12, nQ16, nQ17, nQ18, iQ2, iQ3, iQ4, iQ5, iQ6, lQ19, iQ7, lQ20]) ⟨hx.bel 0, trivial⟩ fun o => ?_
  simp only [sbs, sb, capOK, and_self, if_true, decide_true, Nat.le_refl]
  refine lieElements_ok (p := p) (vP := vP) (vB := vB) (xs := [x]) ⟨by simp only [pwA, if_true, if_false, eq_self, nm_eq, reduceCtorEq, ↓reduceIte, nQ10, nQ7, nQ11, nQ12, nQ16, nQ17, nQ18, iQ2, iQ3, iQ4, iQ5, iQ6, lQ19, iQ7, lQ20], by simp only [pwA, if_true, if_false, eq_self, nm_eq, reduceCtorEq, ↓reduceIte, nQ10, nQ7, nQ11, nQ12, nQ16, nQ17, nQ18, iQ2, iQ3, iQ4, iQ5, iQ6, lQ19, iQ7, lQ20]; omega⟩ hR szr (one_row hx) (SzL.one szx) fun t ht => ?_
  cases t with
  | false =>
    simp only [pwA, if_true, if_false, eq_self, nm_eq, reduceCtorEq, ↓reduceIte, nQ10, nQ7, nQ11, nQ12, nQ16, nQ17, nQ18, iQ2, iQ3, iQ4, iQ5, iQ6, lQ19, iQ7, lQ20]
    exact Gh.fin0 hkp ⟨trivial, trivial, trivial⟩ (hk _ [] 1 (.inl ⟨fun e => (by have := ht.2 e; cases this), rfl, rfl⟩) ⟨_, _, rfl⟩)
  | true =>
  obtain ⟨hl, he⟩ := ht.1 rfl
  have ex := he x (by simp)
  simp only [pwA, if_true, if_false, eq_self, nm_eq, reduceCtorEq, ↓reduceIte, nQ10, nQ7, nQ11, nQ12, nQ16, nQ17, nQ18, iQ2, iQ3, iQ4, iQ5, iQ6, lQ19, iQ7, lQ20]
  refine inside_ok ?_
  by_cases hin : -1000000 ≤ k ∧ k ≤ 1000000
  rotate_left
  · simp only [pwA, if_true, if_false, eq_self, nm_eq, reduceCtorEq, ↓reduceIte, nQ10, nQ7, nQ11, nQ12, nQ16, nQ17, nQ18, iQ2, iQ3, iQ4, iQ5, iQ6, lQ19, iQ7, lQ20, hin, decide_false]
    exact Gh.fin0 hkp ⟨trivial, trivial, trivial⟩ (hk _ [] 2 (.inr (.inl ⟨⟨hl, he⟩, hin, rfl, rfl⟩)) ⟨_, _, rfl⟩)
  have hin' : decide (-1000000 ≤ k ∧ k ≤ 1000000) = true := decide_eq_true hin
  simp only [pwA, if_true, if_false, eq_self, nm_eq, reduceCtorEq, ↓reduceIte, nQ10, nQ7, nQ11, nQ12, nQ16, nQ17, nQ18, iQ2, iQ3, iQ4, iQ5, iQ6, lQ19, iQ7, lQ20, hin']
  refine timesLie_FI (p := p) (vP := vP) (vB := vB) hl.1.w ⟨by simp only [pwA, if_true, if_false, eq_self, nm_eq, reduceCtorEq, ↓reduceIte, nQ10, nQ7, nQ11, nQ12, nQ16, nQ17, nQ18, iQ2, iQ3, iQ4, iQ5, iQ6, lQ19, iQ7, lQ20], by simp only [pwA, if_true, if_false, eq_self, nm_eq, reduceCtorEq, ↓reduceIte, nQ10, nQ7, nQ11, nQ12, nQ16, nQ17, nQ18, iQ2, iQ3, iQ4, iQ5, iQ6, lQ19, iQ7, lQ20]; omega⟩ hR.P ex hx (by omega) fun v hv => ?_
  simp only [pwA, if_true, if_false, eq_self, nm_eq, reduceCtorEq, ↓reduceIte, nQ10, nQ7, nQ11, nQ12, nQ16, nQ17, nQ18, iQ2, iQ3, iQ4, iQ5, iQ6, lQ19, iQ7, lQ20]
  exact Gh.fin0 hkp ⟨hv.bel _, trivial, trivial⟩ (hk _ _ 0 (.inr (.inr ⟨⟨hl, he⟩, hin, rfl, rfl⟩)) hv)
theorem TimesLie_S {k : Int} (hR : IsR vP vB W B) (szr : SzR W B) (hx : FI vx x) (szx : x.length ≤ 1048576)
    (hk : ∀ v z c, ElV p W B [x] (-1000000 ≤ k ∧ k ≤ 1000000) (lmul p W k x) z c → FI v z → K (.tup [v, .int .i64 c]) σ) : PCalls Try.prog 12 [.agg [.int .i64 p, vP, vB], .int .i64 k, vx] σ K := by
  have h1 := hR.P.one
  have h2 := hR.B.one
  refine PCalls.gh ?_
  refine pcalls_of_vp mix Try.func12 cf12 rfl ?_
  dsimp only [if12, qI, eI, nI, qD, eD]
  simp only [pwA, if_true, if_false, eq_self, nm_eq, reduceCtorEq, ↓reduceIte, nQ10, nQ7, nQ11, nQ12, nQ16, nQ17, nQ18, iQ2, iQ3, iQ4, iQ5, iQ6, lQ19, iQ7, lQ20, h1, h2]
  have hkp : Keep σ (σ.new [.int .i64 p, vP, vB]) := keep_new σ _
  have bad : ¬ (isLie p W B ∧ Els p W.length [x]) → Gh σ K (.tup [.fz true .nils 0 [], .int .i64 1]) (σ.new [.int .i64 p, vP, vB]) := fun e => Gh.fin0 hkp ⟨trivial, trivial, trivial⟩ (hk _ [] 1 (.inl ⟨e, rfl, rfl⟩) ⟨_, _, rfl⟩)
  refine l31Ring_ok hR szr fun t ht => ?_
  cases t with
  | false =>
    simp only [pwA, if_true, if_false, eq_self, nm_eq, reduceCtorEq, ↓reduceIte, nQ10, nQ7, nQ11, nQ12, nQ16, nQ17, nQ18, iQ2, iQ3, iQ4, iQ5, iQ6, lQ19, iQ7, lQ20]
    exact bad fun e => (by have := ht.2 e.1; cases this)
  | true =>
  have hl := ht.1 rfl
  simp only [pwA, if_true, if_false, eq_self, nm_eq, reduceCtorEq, ↓reduceIte, nQ10, nQ7, nQ11, nQ12, nQ16, nQ17, nQ18, iQ2, iQ3, iQ4, iQ5, iQ6, lQ19, iQ7, lQ20, h1, h2]
  refine has_FI hR hx szx hl.1.1.bd fun t2 ht2 => ?_
  cases t2 with
  | false =>
    simp only [pwA, if_true, if_false, eq_self, nm_eq, reduceCtorEq, ↓reduceIte, nQ10, nQ7, nQ11, nQ12, nQ16, nQ17, nQ18, iQ2, iQ3, iQ4, iQ5, iQ6, lQ19, iQ7, lQ20]
    exact bad fun e => (by have := ht2.2 (e.2 x (by simp)); cases this)
  | true =>
  have ex := ht2.1 rfl
  have he := el1 ex
  simp only [pwA, if_true, if_false, eq_self, nm_eq, reduceCtorEq, ↓reduceIte, nQ10, nQ7, nQ11, nQ12, nQ16, nQ17, nQ18, iQ2, iQ3, iQ4, iQ5, iQ6, lQ19, iQ7, lQ20, h1, h2]
  refine l01In_ok ?_
  by_cases hin : -1000000 ≤ k ∧ k ≤ 1000000
  rotate_left
  · simp only [pwA, if_true, if_false, eq_self, nm_eq, reduceCtorEq, ↓reduceIte, nQ10, nQ7, nQ11, nQ12, nQ16, nQ17, nQ18, iQ2, iQ3, iQ4, iQ5, iQ6, lQ19, iQ7, lQ20, hin, decide_false]
    exact Gh.fin0 hkp ⟨trivial, trivial, trivial⟩ (hk _ [] 2 (.inr (.inl ⟨⟨hl, he⟩, hin, rfl, rfl⟩)) ⟨_, _, rfl⟩)
  have hin' : decide (-1000000 ≤ k ∧ k ≤ 1000000) = true := decide_eq_true hin
  simp only [pwA, if_true, if_false, eq_self, nm_eq, reduceCtorEq, ↓reduceIte, nQ10, nQ7, nQ11, nQ12, nQ16, nQ17, nQ18, iQ2, iQ3, iQ4, iQ5, iQ6, lQ19, iQ7, lQ20, hin', h1, h2]
  refine mix_FI hR hl.1.w ex ex hx hx (by omega) (by omega) fun v hv => ?_
  simp only [pwA, if_true, if_false, eq_self, nm_eq, reduceCtorEq, ↓reduceIte, nQ10, nQ7, nQ11, nQ12, nQ16, nQ17, nQ18, iQ2, iQ3, iQ4, iQ5, iQ6, lQ19, iQ7, lQ20]
  exact Gh.fin0 hkp ⟨hv.bel _, trivial, trivial⟩ (hk _ _ 0 (.inr (.inr ⟨⟨hl, he⟩, hin, rfl, rfl⟩)) hv)
end Go.Proofs
namespace Go.Proofs
open Go.Ab Go.Lie
variable {p : Int} {n : Nat} {W : List (List Int)} {B : List (List (List Int))} {c k : Nat} {f g h : Vec}
section
variable {X Y Z : Vec}
def ev1 (X Y Z : Vec) (a : List Int) : Vec := fun t => at_ a 0 * X t + at_ a 1 * Y t + at_ a 2 * Z t
def ev2 (B : List (List (List Int))) (n : Nat) (X Y Z : Vec) (a : List Int) : Vec := fun t => at_ a 3 * brv B n X Y t + at_ a 4 * brv B n X Z t + at_ a 5 * brv B n Y Z t
def ev3 (B : List (List (List Int))) (n : Nat) (X Y Z : Vec) (a : List Int) : Vec := fun t =>
  at_ a 6 * brv B n X (brv B n X Y) t + at_ a 7 * brv B n Y (brv B n X Y) t + at_ a 8 * brv B n Z (brv B n X Y) t + at_ a 9 * brv B n X (brv B n X Z) t
  + at_ a 10 * brv B n Y (brv B n X Z) t + at_ a 11 * brv B n Z (brv B n X Z) t + at_ a 12 * brv B n Y (brv B n Y Z) t + at_ a 13 * brv B n Z (brv B n Y Z) t
end
end Go.Proofs
namespace Go.Proofs
open Go.Ab Go.Lie
variable {p : Int} {n m : Nat} {W : List (List Int)} {B : List (List (List Int))} {c : Nat} {X Y Z : Vec} {a b : List Int} {x y : List Int}
theorem dv_of (o : OkW p n W) {k : Int} {x z : List Int} (hk : Cop p k) (hx : El p n x) (hz : El p n z) (h : Eqv p n W (fun j => k * at_ z j) (at_ x)) : z = dv p n W k x := by
  refine dv_eq o hx ⟨hz, fun h0 => ?_, fun _ => h⟩ (.inr hk)
  rcases Nat.eq_zero_or_pos n with hn | hn
  · have ev1 := hz.1
    have ev2 := hx.1
    rw [List.eq_nil_of_length_eq_zero (ev1.trans hn), List.eq_nil_of_length_eq_zero (ev2.trans hn)]
  · obtain ⟨a, w, ha⟩ := cop_inv (p := p) hk hn
    have e : Eqv p n W (fun j => k * at_ z j) (fun j => 0) := h.trans (Eqv.of_eq (isZ_at h0))
    have k1 := (kill_all o (f := at_ z) (fun j hj => hz.beyond hj)).mul w
    have k2 := (Eqv.refl (p := p) (n := n) (W := W) (at_ z)).add k1
    have ev3 : Eqv p n W (at_ z) (at_ x) := (((Eqv.of_eq fun j => (by omega)).trans k2.symm).trans (Eqv.of_eq fun j => (by grind))).trans ((e.mul a).trans (Eqv.of_eq fun j => (by rw [isZ_at h0, Int.mul_zero])))
    exact eqv_unique o hz.1 hx.1 hz.2 hx.2 ev3
end Go.Proofs
namespace Go.Proofs.Ytpcjbkbcaiphmaa
open Go.ChangeShapes Go.WideShapes Go.ChangeAt Go.RowKit Go.Ab Go.Joins Go.Lie Go.Proofs
variable {H : Type} {enc : TypeId × Value → H} {W w0 : World} {j : Inj} {h : AHeap}
theorem cell8 : Try.prog.cellsOf 5 = 1 := by kernel_rfl
theorem lay8 : Lay1 enc Try.prog W 5 (fun pv (n : Int) => pv = .int .u8 n ∧ 0 ≤ n ∧ n ≤ 255) := by
  intro w0 j h held fuel v x m hx
  obtain ⟨n, hn, _, hw⟩ := DataW.trod_int Try.underlying5 hx
  simp only [List.cons.injEq, and_true] at hn
  subst hn
  simp only [Lit.wf, Bool.and_eq_true, decide_eq_true_eq] at hw
  have h1 : IntKind.u8.min = 0 := by rfl
  have h2 : IntKind.u8.max = 255 := by rfl
  rw [h1, h2] at hw
  exact ⟨j, h, .int .u8 n, n, m, Inj.le.refl _, Ext.refl m.wf, rfl, trivial, rfl, rfl, hw.1, hw.2⟩
theorem FL.bytes {v : PV} {xs : List Int} (h : FL (fun pv (n : Int) => pv = .int .u8 n ∧ 0 ≤ n ∧ n ≤ 255) v xs) : FB v xs := by
  obtain ⟨w, a, rows, rfl, hr⟩ := h
  refine ⟨w, a, ?_⟩
  congr 1
  apply List.ext_getElem?
  intro k
  rw [List.getElem?_map]
  rcases Nat.lt_or_ge k xs.length with x | x
  · obtain ⟨pv, h1, h2⟩ := hr.get x
    rw [h1, gi x, h2.1]; rfl
  · rw [List.getElem?_eq_none (by rw [hr.1]; exact x), List.getElem?_eq_none x]; rfl
theorem layB : Lay1 enc Try.prog W 22 (fun v (xs : List Int) => FB v xs ∧ ∀ b ∈ xs, 0 ≤ b ∧ b ≤ 255) := by
  intro w0 j h held fuel v x m hx
  obtain ⟨j', h', pv, a, g1, g2, g3, g4, g5, g6, g7, g8⟩ := lay_slice Try.underlying22 cell8 lay8 w0 j h held fuel v x m hx
  exact ⟨j', h', pv, a, g1, g2, g3, g4, g5, g6, FL.bytes g7, g7.all fun _ _ k => k.2⟩
end Go.Proofs.Ytpcjbkbcaiphmaa
