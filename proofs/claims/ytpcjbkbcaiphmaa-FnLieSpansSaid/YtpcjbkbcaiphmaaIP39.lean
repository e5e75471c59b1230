/- A list of bytes that a law is handed, laid as a frozen value. -/
import Derived.Test.YtpcjbkbcaiphmaaIP38
import Derived.Test.YtpcjbkbcaiphmaaIP31
import Derived.Test.YtpcjbkbcaiphmaaIP35
import Derived.Test.YtpcjbkbcaiphmaaIP33
open Nat renaming reduceLeDiff → nQ7, reduceEqDiff → nQ10, reduceBEq → nQ11, reduceAdd → nQ12, reduceLT → nQ16, reduceSub → nQ17, reduceMul → nQ18
open Int renaming reduceEq → iQ2, reduceLT → iQ3, reduceLE → iQ4, reduceNeg → iQ5, reduceToNat → iQ6, ofNat_le → iQ7
open List renaming reduceReplicate → lQ19, getElem?_drop → lQ20
set_option linter.unusedSimpArgs false
set_option linter.unusedVariables false
set_option linter.unusedSectionVars false
namespace Go.Proofs
open Go.Ab Go.Lie
variable {σ σ0 h h' : PHeap} {K : PV → PHeap → Prop} {vC vP vB : PV} {bs : List Int} {s b n r0 : Nat} {p : Int} {W : List (List Int)} {B : List (List (List Int))}
theorem push_ks {T h : PHeap} {n t l : Nat} {v : PV} {cs : List PV} {cap : Cap} {x : List Int} {K : PV × PHeap → Prop} (w : PWF T) (so : So h s vC bs) (hs : s < T.next) (km : KM T s h) (a : PSl T.next 1 h v n cs)
    (h1 : (n + 1) * 24 ≤ 140737488355328) (h2 : n + 1 ≤ 4611686018427387904) (hx : h.obj t = some (pis x)) (ht : T.next ≤ t) (htl : t < h.next) (hne : ∀ off l c, v ≠ .sl t off l c) (hc : capOK cap l = true) (hb : Bels 0 cs)
    (k : ∀ v' h', h'.obj t = some (pis x) → (∀ o, KM T s ((h'.kill t).sub t o (pis x)) ∧ So ((h'.kill t).sub t o (pis x)) s vC bs ∧ PSl T.next 1 ((h'.kill t).sub t o (pis x)) v' (n + 1) (cs ++ [.fz true (.sl o 0 l cap) l (pis x)]) ∧ sb t o (pis x) v' = v' ∧ (∀ u ds, u ≠ t → Bels 0 ds → h'.obj u = some ds → ((h'.kill t).sub t o (pis x)).obj u = some ds)) →
      KM T s h' → K (v', h')) : optK (pappend 1 24 (h.new [.sl t 0 l cap]) v (.sl h.next 0 1 (.known 1))) K := by
  have km0 := km
  obtain ⟨σ', m, q⟩ := km
  have hn := m.next
  have so' : So σ' s vC bs := by
    obtain ⟨a0, sd0, S⟩ := so
    exact ⟨a0, sd0, by rw [← q.obj s (by omega)]; exact S.obj, by omega, S.fb, S.byt, S.le, S.sd⟩
  have w' : PWF σ' := by
    obtain ⟨c0, c1, g0, g1, rfl⟩ := m
    exact PWF.setS w g0 g1
  refine PAcc.pushS (bytes := 24) (σb := σ') q (by rw [hn]; exact a.acc) rfl h1 h2 fun v' h' k1 a1 o1 n1 l1 => ?_
  refine k v' h' (by rw [o1 t htl hne]; exact hx) (fun o => ?_) ⟨σ', m, k1⟩
  have f := PSl.fzr w' k1 a1 (s := t) (cs := pis x) (by omega) (n1 t htl) o
  refine ⟨⟨σ', m, f.1⟩, so'.keep f.1, ?_, f.2.2, fun u ds hu hd ho => ?_⟩
  · have := f.2.1
    rw [sbs_row hb hc, hn] at this
    exact this
  · have := sub_obj (o := o) (xs := pis x) hu ho
    rw [sbs_bel (Nat.zero_le _) hd] at this
    exact this
theorem l32Gens_ok (so : So σ s vC bs) (hR : IsR vP vB W B) (hp : -4611686018427387904 ≤ p ∧ p ≤ 4611686018427387904) (hl : W.length ≤ 1048000)
    (hk : ∀ v xs h, FII v xs → xs.length ≤ 3 → (∀ x ∈ xs, x.length ≤ W.length + 1) → Mv σ s h → So h s vC bs → K v h) : PCalls Try.prog 152 [.ptr s 0, .agg [.int .i64 p, vP, vB]] σ K := by
  have g1 := hR.P.one
  have g2 := hR.B.one
  have hsl := so.lt
  refine PCalls.pwf fun w => PCalls.gh ?_
  generalize hT : σ.new [.int .i64 p, vP, vB] = T
  have hTn : T.next = σ.next + 1 := by rw [← hT]; rfl
  have hkT : Keep σ T := by rw [← hT]; exact keep_new σ _
  have soT : So T s vC bs := so.keep hkT
  have hsT : s < T.next := soT.lt
  have wT : PWF T := by rw [← hT]; exact w.newB ⟨trivial, hR.P.bel _, hR.B.bel _, trivial⟩
  have obT : T.obj σ.next = some [.int .i64 p, vP, vB] := by rw [← hT]; simp only [pwA, if_true, if_false, eq_self, nm_eq, reduceCtorEq, ↓reduceIte, nQ10, nQ7, nQ11, nQ12, nQ16, nQ17, nQ18, iQ2, iQ3, iQ4, iQ5, iQ6, lQ19, iQ7, lQ20]
  have rdT : ∀ {g : PHeap}, KM T s g → g.rd σ.next 0 3 = some [.int .i64 p, vP, vB] := fun {g} k => by
    have ob := k.obj (t := σ.next) (by omega) (by omega)
    rw [obT] at ob
    rw [obj_rd ob]; rfl
  refine pcalls_of_vp mix Try.func152 cf152 rfl ?_
  dsimp only [if152, qI, eI, nI, qD, eD]
  simp only [pwA, if_true, if_false, eq_self, nm_eq, reduceCtorEq, ↓reduceIte, nQ10, nQ7, nQ11, nQ12, nQ16, nQ17, nQ18, iQ2, iQ3, iQ4, iQ5, iQ6, lQ19, iQ7, lQ20, g1, g2]
  rw [hT]
  refine l01Next_m (soT.keep (keep_new _ _)) (by decide) fun c h0 hc m0 so0 => ?_
  have hc0 := hc.1
  have hc1 : c < 4 := hc.2.2 (by decide)
  obtain ⟨k0, rfl⟩ := Int.eq_ofNat_of_zero_le hc0
  simp only [pwA, if_true, if_false, eq_self, nm_eq, reduceCtorEq, ↓reduceIte, nQ10, nQ7, nQ11, nQ12, nQ16, nQ17, nQ18, iQ2, iQ3, iQ4, iQ5, iQ6, lQ19, iQ7, lQ20]
  refine vp_loopG (fun m us h => ∃ (k : Nat) (v : PV) (xs : List (List Int)) (rows : List PV), m = k ∧ k + xs.length ≤ 3 ∧ us = [.ptr s 0, .ptr σ.next 0, v, .int .i64 k] ∧ KM T s h ∧ So h s vC bs ∧ PSl T.next 1 h v xs.length rows ∧ All2 FI rows xs ∧ ∀ x ∈ xs, x.length ≤ W.length + 1) k0 ?_ ?_
  · refine .here ⟨k0, .sl T.next 0 0 (.known 0), [], [], rfl, by simp; omega, by first | (rw [hTn]; rfl) | rfl, ((soT.kmK (keep_new _ _)).mv hsT m0), so0, psl_mv (PSl.new _ 1 rfl (Nat.le_refl _)) hsT m0, All2.nil _, fun x hx => by cases hx⟩
  rintro m us h ⟨k, v, xs, rows, rfl, hkx, rfl, km, so1, ps, hrows, hxl⟩
  have r3 := rdT km
  simp only [pwA, if_true, if_false, eq_self, nm_eq, reduceCtorEq, ↓reduceIte, nQ10, nQ7, nQ11, nQ12, nQ16, nQ17, nQ18, iQ2, iQ3, iQ4, iQ5, iQ6, lQ19, iQ7, lQ20]
  by_cases hk0 : m = 0
  · subst hk0
    have hk0' : ¬ ((0 : Nat) : Int) > 0 := by omega
    simp only [pwA, if_true, if_false, eq_self, nm_eq, reduceCtorEq, ↓reduceIte, nQ10, nQ7, nQ11, nQ12, nQ16, nQ17, nQ18, iQ2, iQ3, iQ4, iQ5, iQ6, lQ19, iQ7, lQ20, hk0']
    refine Gh.km ((so.kmK hkT).trans hsl km) so1 hsl fun σ' m' so' kp => ?_
    obtain ⟨t, cap, rfl, hcp, q2, q3, q4, q5⟩ := ps
    exact Gh.finF (s := t) kp q2 (by rw [m'.next]; omega) (hrows.bI 0) hcp.ok fun o => hk _ xs σ' ⟨_, _, _, rfl, hrows⟩ (by omega) hxl m' so'
  have hkp : (m : Int) > 0 := by omega
  have hkp' : (0 : Int) < (m : Int) := hkp
  simp only [pwA, if_true, if_false, eq_self, nm_eq, reduceCtorEq, ↓reduceIte, nQ10, nQ7, nQ11, nQ12, nQ16, nQ17, nQ18, iQ2, iQ3, iQ4, iQ5, iQ6, lQ19, iQ7, lQ20, hkp, hkp', r3]
  refine l31Element_sl so1 hR hp (by omega) fun x h2 cap hcap hx m2 so2 => ?_
  simp only [pwA, if_true, if_false, eq_self, nm_eq, reduceCtorEq, ↓reduceIte, nQ10, nQ7, nQ11, nQ12, nQ16, nQ17, nQ18, iQ2, iQ3, iQ4, iQ5, iQ6, lQ19, iQ7, lQ20]
  have hn2 : h.next = h2.next := m2.next.symm
  have hTh := km.next
  refine vp_loop (fun mm us h3 => ∃ (i : Nat) (y : List Int), i ≤ x.length ∧ mm = x.length - i ∧ us = [.ptr s 0, .ptr σ.next 0, v, .int .i64 m, .sl h.next 0 x.length cap, .int .i64 i] ∧ y.length = x.length ∧ KM T s h3 ∧ So h3 s vC bs ∧ PSl T.next 1 h3 v xs.length rows ∧ h3.obj h.next = some (pis y) ∧ h.next < h3.next ∧ (∀ off l c, v ≠ .sl h.next off l c)) x.length ?_ ?_
  · refine ⟨0, x, Nat.zero_le _, rfl, rfl, rfl, (km.mv hsT m2).new _, so2.keep (keep_new _ _), (psl_mv ps hsT m2).keep (keep_new _ _), by rw [pobj_new, if_pos hn2], by rw [hn2]; exact Nat.lt_succ_self _, fun off l c e => ?_⟩
    obtain ⟨t, cap, rfl, hcp, q2, q3, q4, q5⟩ := ps
    cases e
    omega
  rintro mm us h3 ⟨i, y, hi, rfl, rfl, hyl, km3, so3, ps3, o3, lt3, ne3⟩
  have fin : ∀ {g : PHeap} {Q : PV × PHeap → Prop}, KM T s g → So g s vC bs → PSl T.next 1 g v xs.length rows → g.obj h.next = some (pis y) → h.next < g.next → (∀ off l c, v ≠ .sl h.next off l c) →
      (∀ v' h', GL (fun us h => ∃ (k : Nat) (v : PV) (xs : List (List Int)) (rows : List PV), m - 1 = k ∧ k + xs.length ≤ 3 ∧ us = [.ptr s 0, .ptr σ.next 0, v, .int .i64 k] ∧ KM T s h ∧ So h s vC bs ∧ PSl T.next 1 h v xs.length rows ∧ All2 FI rows xs ∧ ∀ x ∈ xs, x.length ≤ W.length + 1) [.ptr s 0, .ptr σ.next 0, v', .int .i64 ((m - 1 : Nat) : Int)] h' → Q (v', h')) →
      optK (pappend 1 24 (g.new [.sl h.next 0 x.length cap]) v (.sl g.next 0 1 (.known 1))) Q := by
    intro g Q kg sg pg og lg ng hQ
    refine push_ks wT sg hsT kg pg (by omega) (by omega) og (by omega) lg ng hcap.ok (hrows.bI 0) fun v' h' ho hfr _ => ?_
    refine hQ v' h' (.fzh h.next _ ho (pis_bel _ _) fun o => ?_)
    obtain ⟨f1, f2, f3, f4, _⟩ := hfr o
    refine .here ⟨m - 1, v', xs ++ [y], _, rfl, by simp; omega, by simp only [sbs, sb, f4], f1, f2, by rw [List.length_append]; exact f3, hrows.snoc ⟨true, .sl o 0 x.length cap, by rw [hyl]⟩, fun z hz => ?_⟩
    rcases List.mem_append.1 hz with e | e
    · exact hxl z e
    · rw [List.mem_singleton.1 e, hyl]; exact hx
  have wk : IntKind.i64.wrap ((m : Int) - 1) = ((m - 1 : Nat) : Int) := by rw [wrap64 (by omega) (by omega)]; omega
  by_cases hlt : i < x.length
  rotate_left
  · have hlt' : ¬ (i : Int) < (x.length : Int) := by omega
    simp only [pwA, if_true, if_false, eq_self, nm_eq, reduceCtorEq, ↓reduceIte, nQ10, nQ7, nQ11, nQ12, nQ16, nQ17, nQ18, iQ2, iQ3, iQ4, iQ5, iQ6, lQ19, iQ7, lQ20, hlt', decide_false, wk]
    refine fin km3 so3 ps3 o3 lt3 ne3 fun v' h' gl => ?_
    simp only [pwA, if_true, if_false, eq_self, nm_eq, reduceCtorEq, ↓reduceIte, nQ10, nQ7, nQ11, nQ12, nQ16, nQ17, nQ18, iQ2, iQ3, iQ4, iQ5, iQ6, lQ19, iQ7, lQ20, wk]
    exact ⟨m - 1, by omega, gl⟩
  have hlt' : (i : Int) < (x.length : Int) := by omega
  have wi1 : IntKind.i64.wrap ((i : Int) + 1) = ((i + 1 : Nat) : Int) := wrapS hlt (by omega)
  simp only [pwA, if_true, if_false, eq_self, nm_eq, reduceCtorEq, ↓reduceIte, nQ10, nQ7, nQ11, nQ12, nQ16, nQ17, nQ18, iQ2, iQ3, iQ4, iQ5, iQ6, lQ19, iQ7, lQ20, hlt', hlt, decide_true]
  refine l01Next_m so3 (by decide) fun z h4 hz m4 so4 => ?_
  have km4 := km3.mv hsT m4
  have ps4 := psl_mv ps3 hsT m4
  have o4 : h4.obj h.next = some (pis y) := by rw [m4.obj (by omega)]; exact o3
  have lt4 : h.next < h4.next := by rw [m4.next]; exact lt3
  by_cases hz0 : z = 0
  rotate_left
  · simp only [pwA, if_true, if_false, eq_self, nm_eq, reduceCtorEq, ↓reduceIte, nQ10, nQ7, nQ11, nQ12, nQ16, nQ17, nQ18, iQ2, iQ3, iQ4, iQ5, iQ6, lQ19, iQ7, lQ20, hz0, decide_false, wk]
    refine fin km4 so4 ps4 o4 lt4 ne3 fun v' h' gl => ?_
    simp only [pwA, if_true, if_false, eq_self, nm_eq, reduceCtorEq, ↓reduceIte, nQ10, nQ7, nQ11, nQ12, nQ16, nQ17, nQ18, iQ2, iQ3, iQ4, iQ5, iQ6, lQ19, iQ7, lQ20, wk]
    exact ⟨m - 1, by omega, gl⟩
  have hw := wr_one (v := .int .i64 0) (i := i) o4 (by rw [pis_length, hyl]; exact hlt) rfl
  rw [pis_set] at hw
  simp only [pwA, if_true, if_false, eq_self, nm_eq, reduceCtorEq, ↓reduceIte, nQ10, nQ7, nQ11, nQ12, nQ16, nQ17, nQ18, iQ2, iQ3, iQ4, iQ5, iQ6, lQ19, iQ7, lQ20, hz0, decide_true, hlt, hlt', hw, wi1]
  refine ⟨_, by omega, i + 1, y.set i 0, by omega, rfl, rfl, by rw [List.length_set]; exact hyl, km4.set (by omega) _, so4.set (by omega) _, ?_, by first | rfl | rw [pobj_set, if_pos rfl], lt4, ne3⟩
  exact psl_move ps4 (fun t off l c e => by rw [pobj_set, if_neg (fun e2 => by subst e2; exact ne3 off l c e)]) (Nat.le_refl _)
end Go.Proofs
namespace Go.Proofs
open Go.Ab Go.Lie
variable {σ σ0 h h' : PHeap} {K : PV → PHeap → Prop} {vC vP vB : PV} {bs : List Int} {s b n r0 : Nat} {p : Int} {W : List (List Int)} {B : List (List (List Int))}
theorem KM.keepOf (k : KM σ s h) (hk : Keep σ0 σ) (hs : σ0.next ≤ s) : Keep σ0 h := by
  obtain ⟨σ', ⟨c0, c1, h0, h1, rfl⟩, q⟩ := k
  exact (hk.set hs _).trans q
end Go.Proofs
namespace Go.Proofs
open Go.Ab Go.Lie
variable {σ σ0 h h' : PHeap} {K : PV → PHeap → Prop} {vC vP vB vL : PV} {bs : List Int} {s b n r0 : Nat} {p : Int} {W : List (List Int)} {B : List (List (List Int))} {gens u c d : List (List Int)}
theorem l32Sequence_ok (so : So σ s vC bs) (hR : IsR vP vB W B) (dr : DrR p W B)
    (hk : ∀ v xs h, FII v xs → xs.length ≤ 6 → (∀ x ∈ xs, x.length ≤ 7) → Mv σ s h → So h s vC bs → K v h) : PCalls Try.prog 106 [.ptr s 0, .agg [.int .i64 p, vP, vB]] σ K := by
  have g1 := hR.P.one
  have g2 := hR.B.one
  have hRR := hR
  have hsl := so.lt
  have hw6 := dr.wl
  have hpd := dr.p
  have hsz := dr.sz
  obtain ⟨⟨wp, ap, rp, rfl, hrp⟩, hBB⟩ := hR
  refine PCalls.gh ?_
  generalize hT : σ.new [.int .i64 p, .fz wp ap W.length rp, vB] = T
  have hTn : T.next = σ.next + 1 := by rw [← hT]; rfl
  have hkT : Keep σ T := by rw [← hT]; exact keep_new σ _
  have soT : So T s vC bs := so.keep hkT
  have hsT : s < T.next := soT.lt
  have obT : T.obj σ.next = some [.int .i64 p, .fz wp ap W.length rp, vB] := by rw [← hT]; simp only [pwA, if_true, if_false, eq_self, nm_eq, reduceCtorEq, ↓reduceIte, nQ10, nQ7, nQ11, nQ12, nQ16, nQ17, nQ18, iQ2, iQ3, iQ4, iQ5, iQ6, lQ19, iQ7, lQ20]
  have rdT : ∀ {g : PHeap}, KM T s g → g.rd σ.next 0 3 = some [.int .i64 p, .fz wp ap W.length rp, vB] ∧ g.rd1 σ.next 1 = some (.fz wp ap W.length rp) := fun {g} k => by
    have ob := k.obj (t := σ.next) (by omega) (by omega)
    rw [obT] at ob
    exact ⟨by rw [obj_rd ob]; rfl, by rw [obj_rd1 ob]; rfl⟩
  have fin : ∀ {g : PHeap} {v : PV} {xs : List (List Int)}, KM T s g → So g s vC bs → FII v xs → xs.length ≤ 6 → (∀ x ∈ xs, x.length ≤ 7) → Gh σ K v g := fun {g v xs} km sg hv hl hx => by
    refine Gh.km ((so.kmK hkT).trans hsl km) sg hsl fun σ' m' so' kp => ?_
    exact Gh.fin0 kp (hv.bel _) (hk v xs σ' hv hl hx m' so')
  have kmT : KM T s T := soT.kmK (Keep.refl T)
  have rd0 := (rdT kmT).1
  refine pcalls_of_vp mix Try.func106 cf106 rfl ?_
  dsimp only [if106, qI, eI, nI, qD, eD]
  simp only [pwA, if_true, if_false, eq_self, nm_eq, reduceCtorEq, ↓reduceIte, nQ10, nQ7, nQ11, nQ12, nQ16, nQ17, nQ18, iQ2, iQ3, iQ4, iQ5, iQ6, lQ19, iQ7, lQ20, g1, g2]
  rw [hT]
  simp only [pwA, if_true, if_false, eq_self, nm_eq, reduceCtorEq, ↓reduceIte, nQ10, nQ7, nQ11, nQ12, nQ16, nQ17, nQ18, iQ2, iQ3, iQ4, iQ5, iQ6, lQ19, iQ7, lQ20, rd0]
  refine l31Ring_ok hRR hsz fun t ht => ?_
  cases t with
  | false =>
    simp only [pwA, if_true, if_false, eq_self, nm_eq, reduceCtorEq, ↓reduceIte, nQ10, nQ7, nQ11, nQ12, nQ16, nQ17, nQ18, iQ2, iQ3, iQ4, iQ5, iQ6, lQ19, iQ7, lQ20, rd0]
    refine l32Gens_ok soT hRR (by omega) (by omega) fun v xs h1 hv hxl hxx m1 so1 => ?_
    simp only [pwA, if_true, if_false, eq_self, nm_eq, reduceCtorEq, ↓reduceIte, nQ10, nQ7, nQ11, nQ12, nQ16, nQ17, nQ18, iQ2, iQ3, iQ4, iQ5, iQ6, lQ19, iQ7, lQ20]
    exact fin (kmT.mv hsT m1) so1 hv (by omega) fun x hx => by have := hxx x hx; omega
  | true =>
  have hl := ht.1 rfl
  have o := hl.1.w
  have q := hl.1.b
  have hn6 := o.le
  simp only [pwA, if_true, if_false, eq_self, nm_eq, reduceCtorEq, ↓reduceIte, nQ10, nQ7, nQ11, nQ12, nQ16, nQ17, nQ18, iQ2, iQ3, iQ4, iQ5, iQ6, lQ19, iQ7, lQ20, rd0]
  refine l32Gens_ok soT hRR (by omega) (by omega) fun vG gs h1 hG hgl hgx m1 so1 => ?_
  have km1 := kmT.mv hsT m1
  have rd1 := (rdT km1).1
  have szg : SzL gs := ⟨by omega, fun x hx => by have := hgx x hx; omega⟩
  have gx7 : ∀ x ∈ gs, x.length ≤ 7 := fun x hx => by have := hgx x hx; omega
  simp only [pwA, if_true, if_false, eq_self, nm_eq, reduceCtorEq, ↓reduceIte, nQ10, nQ7, nQ11, nQ12, nQ16, nQ17, nQ18, iQ2, iQ3, iQ4, iQ5, iQ6, lQ19, iQ7, lQ20, rd1]
  refine l32Elements_ok hRR hG szg o.pr fun t ht2 => ?_
  cases t with
  | false =>
    simp only [pwA, if_true, if_false, eq_self, nm_eq, reduceCtorEq, ↓reduceIte, nQ10, nQ7, nQ11, nQ12, nQ16, nQ17, nQ18, iQ2, iQ3, iQ4, iQ5, iQ6, lQ19, iQ7, lQ20, rd1]
    exact fin km1 so1 hG (by omega) gx7
  | true =>
  have he := ht2.1 rfl
  have els7 : ∀ {xs : List (List Int)}, Els p W.length xs → ∀ x ∈ xs, x.length ≤ 7 := fun {xs} h x hx => by rw [(h x hx).1]; omega
  simp only [pwA, if_true, if_false, eq_self, nm_eq, reduceCtorEq, ↓reduceIte, nQ10, nQ7, nQ11, nQ12, nQ16, nQ17, nQ18, iQ2, iQ3, iQ4, iQ5, iQ6, lQ19, iQ7, lQ20]
  refine l01Next_m so1 (by decide) fun y h2 hy m2 so2 => ?_
  have km2 := km1.mv hsT m2
  by_cases hy0 : y = 0
  · simp only [pwA, if_true, if_false, eq_self, nm_eq, reduceCtorEq, ↓reduceIte, nQ10, nQ7, nQ11, nQ12, nQ16, nQ17, nQ18, iQ2, iQ3, iQ4, iQ5, iQ6, lQ19, iQ7, lQ20, hy0, decide_true]
    exact fin km2 so2 hG (by omega) gx7
  simp only [pwA, if_true, if_false, eq_self, nm_eq, reduceCtorEq, ↓reduceIte, nQ10, nQ7, nQ11, nQ12, nQ16, nQ17, nQ18, iQ2, iQ3, iQ4, iQ5, iQ6, lQ19, iQ7, lQ20, hy0, decide_false]
  refine l01Next_m so2 (by decide) fun z h3 hz m3 so3 => ?_
  have km3 := km2.mv hsT m3
  have rd3 := (rdT km3).1
  have rd31 := (rdT km3).2
  by_cases hz0 : z = 0
  · simp only [pwA, if_true, if_false, eq_self, nm_eq, reduceCtorEq, ↓reduceIte, nQ10, nQ7, nQ11, nQ12, nQ16, nQ17, nQ18, iQ2, iQ3, iQ4, iQ5, iQ6, lQ19, iQ7, lQ20, hz0, decide_true, rd3]
    refine l32Span_ok hRR o hl.1.1 hG he szg.l fun v out c hv => ?_
    simp only [pwA, if_true, if_false, eq_self, nm_eq, reduceCtorEq, ↓reduceIte, nQ10, nQ7, nQ11, nQ12, nQ16, nQ17, nQ18, iQ2, iQ3, iQ4, iQ5, iQ6, lQ19, iQ7, lQ20]
    exact fin km3 so3 hv (by have := c.len; omega) (els7 c.els)
  by_cases hz1 : z = 1
  · simp only [pwA, if_true, if_false, eq_self, nm_eq, reduceCtorEq, ↓reduceIte, nQ10, nQ7, nQ11, nQ12, nQ16, nQ17, nQ18, iQ2, iQ3, iQ4, iQ5, iQ6, lQ19, iQ7, lQ20, hz0, hz1, decide_true, decide_false, rd3]
    refine l32Ring_ok hRR o q hl.2 hl.1.1 hG he szg.l fun v out c hv => ?_
    simp only [pwA, if_true, if_false, eq_self, nm_eq, reduceCtorEq, ↓reduceIte, nQ10, nQ7, nQ11, nQ12, nQ16, nQ17, nQ18, iQ2, iQ3, iQ4, iQ5, iQ6, lQ19, iQ7, lQ20]
    exact fin km3 so3 hv (by have := c.len o; omega) (els7 c.base.els)
  by_cases hz2 : z = 2
  · simp only [pwA, if_true, if_false, eq_self, nm_eq, reduceCtorEq, ↓reduceIte, nQ10, nQ7, nQ11, nQ12, nQ16, nQ17, nQ18, iQ2, iQ3, iQ4, iQ5, iQ6, lQ19, iQ7, lQ20, hz0, hz1, hz2, decide_true, decide_false, rd3, rd31]
    refine l32Whole_ok hRR rfl (by omega) fun vW hW => ?_
    obtain ⟨ww, aw, rw', rfl, hrw⟩ := hW
    have wn : IntKind.i64.wrap ((W.length : Int) + 1) = (W.length : Int) + 1 := wrap64 (by omega) (by omega)
    simp only [pwA, if_true, if_false, eq_self, nm_eq, reduceCtorEq, ↓reduceIte, nQ10, nQ7, nQ11, nQ12, nQ16, nQ17, nQ18, iQ2, iQ3, iQ4, iQ5, iQ6, lQ19, iQ7, lQ20, rd31, wn]
    refine l01Next_m so3 (by omega) fun c h4 hc m4 so4 => ?_
    have km4 := km3.mv hsT m4
    have rd4 := (rdT km4).1
    have rd41 := (rdT km4).2
    have hc0 := hc.1
    have hc1 : c < (W.length : Int) + 1 := hc.lt (by omega)
    obtain ⟨k, rfl⟩ := Int.eq_ofNat_of_zero_le hc0
    have hkn : k ≤ W.length := by omega
    have hul := units_length (n := W.length)
    have hdl : ((units W.length).drop k).length = W.length - k := by rw [List.length_drop, hul]
    have htk : (rw'.drop k).take (W.length - k) = rw'.drop k := List.take_of_length_le (by rw [List.length_drop, hrw.1, hul]; omega)
    have hk' : k ≤ (units W.length).length := by omega
    simp only [pwA, if_true, if_false, eq_self, nm_eq, reduceCtorEq, ↓reduceIte, nQ10, nQ7, nQ11, nQ12, nQ16, nQ17, nQ18, iQ2, iQ3, iQ4, iQ5, iQ6, lQ19, iQ7, lQ20, rd4, rd41, hul, hkn, htk, hk']
    refine fin km4 so4 (xs := (units W.length).drop k) ⟨false, pslA 1 aw k W.length, rw'.drop k, by rw [hdl], hrw.drop k⟩ (by omega) (els7 fun x hx => units_els o.pr x (List.mem_of_mem_drop hx))
  · simp only [pwA, if_true, if_false, eq_self, nm_eq, reduceCtorEq, ↓reduceIte, nQ10, nQ7, nQ11, nQ12, nQ16, nQ17, nQ18, iQ2, iQ3, iQ4, iQ5, iQ6, lQ19, iQ7, lQ20, hz0, hz1, hz2, decide_false, rd3]
    refine l32Ideal_ok hRR o q hl.2 hl.1.1 hG he szg.l fun v out c hv => ?_
    simp only [pwA, if_true, if_false, eq_self, nm_eq, reduceCtorEq, ↓reduceIte, nQ10, nQ7, nQ11, nQ12, nQ16, nQ17, nQ18, iQ2, iQ3, iQ4, iQ5, iQ6, lQ19, iQ7, lQ20]
    exact fin km3 so3 hv (by have := c.len o; omega) (els7 c.base.els)
theorem l32Two_ok (hb : FB vC bs) (hB : Byt bs) (hk : ∀ p vP vB W B vU u vV v, DrR p W B → IsR vP vB W B → FII vU u → u.length ≤ 6 → (∀ x ∈ u, x.length ≤ 7) → FII vV v → v.length ≤ 6 → (∀ x ∈ v, x.length ≤ 7) → K (.tup [.agg [.int .i64 p, vP, vB], vU, vV]) σ) : PCalls Try.prog 47 [vC] σ K := by
  refine PCalls.gh ?_
  generalize hT : σ.new [.int .i64 0, .fz true .nils 0 [], .fz true .nils 0 []] = T
  have hTn : T.next = σ.next + 1 := by rw [← hT]; rfl
  have hkT : Keep σ T := by rw [← hT]; exact keep_new σ _
  have obT : T.obj σ.next = some [.int .i64 0, .fz true .nils 0 [], .fz true .nils 0 []] := by rw [← hT]; simp only [pwA, if_true, if_false, eq_self, nm_eq, reduceCtorEq, ↓reduceIte, nQ10, nQ7, nQ11, nQ12, nQ16, nQ17, nQ18, iQ2, iQ3, iQ4, iQ5, iQ6, lQ19, iQ7, lQ20]
  refine pcalls_of_vp mix Try.func47 cf47 rfl ?_
  dsimp only [if47, qI, eI, nI, qD, eD]
  simp only [pwA, if_true, if_false, eq_self, nm_eq, reduceCtorEq, ↓reduceIte, nQ10, nQ7, nQ11, nQ12, nQ16, nQ17, nQ18, iQ2, iQ3, iQ4, iQ5, iQ6, lQ19, iQ7, lQ20, hb.one]
  rw [hT]
  refine l01From_ok hb hB fun sd hsd => ?_
  have so1 : So (T.new (srcC vC 0 sd)) T.next vC bs := ⟨0, sd, by rw [pobj_new, if_pos rfl], Nat.lt_succ_self _, hb, hB, Nat.zero_le _, hsd⟩
  have km1 : KM (T.new (srcC vC 0 sd)) T.next (T.new (srcC vC 0 sd)) := so1.km
  have kT1 : Keep T (T.new (srcC vC 0 sd)) := keep_new _ _
  have hs1 : T.next < (T.new (srcC vC 0 sd)).next := Nat.lt_succ_self _
  generalize hU : T.new (srcC vC 0 sd) = U at *
  have hUn : U.next = T.next + 1 := by rw [← hU]; rfl
  simp only [pwA, if_true, if_false, eq_self, nm_eq, reduceCtorEq, ↓reduceIte, nQ10, nQ7, nQ11, nQ12, nQ16, nQ17, nQ18, iQ2, iQ3, iQ4, iQ5, iQ6, lQ19, iQ7, lQ20]
  refine l31Draw_ok so1 fun p vP vB W B h2 d hR m2 so2 => ?_
  have km2 := km1.mv hs1 m2
  have g1 := hR.P.one
  have g2 := hR.B.one
  have h2n := km2.next
  have so3 : So (h2.new [.int .i64 p, vP, vB]) T.next vC bs := so2.keep (keep_new _ _)
  have km3 : KM U T.next (h2.new [.int .i64 p, vP, vB]) := km2.new _
  have hob3 : (h2.new [.int .i64 p, vP, vB]).obj h2.next = some [.int .i64 p, vP, vB] := by simp only [pwA, if_true, if_false, eq_self, nm_eq, reduceCtorEq, ↓reduceIte, nQ10, nQ7, nQ11, nQ12, nQ16, nQ17, nQ18, iQ2, iQ3, iQ4, iQ5, iQ6, lQ19, iQ7, lQ20]
  simp only [pwA, if_true, if_false, eq_self, nm_eq, reduceCtorEq, ↓reduceIte, nQ10, nQ7, nQ11, nQ12, nQ16, nQ17, nQ18, iQ2, iQ3, iQ4, iQ5, iQ6, lQ19, iQ7, lQ20, g1, g2]
  refine l32Sequence_ok so3 hR d fun vU u h4 hvU hul hux m4 so4 => ?_
  have km4 := km3.mv hs1 m4
  have ob4 : h4.obj h2.next = some [.int .i64 p, vP, vB] := by rw [m4.obj (by omega)]; exact hob3
  have rd4 : h4.rd h2.next 0 3 = some [.int .i64 p, vP, vB] := by rw [obj_rd ob4]; rfl
  simp only [pwA, if_true, if_false, eq_self, nm_eq, reduceCtorEq, ↓reduceIte, nQ10, nQ7, nQ11, nQ12, nQ16, nQ17, nQ18, iQ2, iQ3, iQ4, iQ5, iQ6, lQ19, iQ7, lQ20, rd4]
  refine l32Sequence_ok so4 hR d fun vV v h6 hvV hvl hvx m6 so6 => ?_
  have km6 := km4.mv hs1 m6
  have rd6 : h6.rd h2.next 0 3 = some [.int .i64 p, vP, vB] := by rw [obj_rd (by rw [m6.obj (by omega)]; exact ob4)]; rfl
  have hU6 : Keep T h6 := km6.keepOf kT1 (Nat.le_refl _)
  have hres : h6.obj σ.next = some [.int .i64 0, .fz true .nils 0 [], .fz true .nils 0 []] := by rw [hU6.obj _ (by omega)]; exact obT
  have x1 : h6.wr σ.next 0 [.int .i64 p, vP, vB] = some (h6.set σ.next [.int .i64 p, vP, vB]) := by rw [obj_wr hres, if_pos ⟨by simp, by simp only [List.all_cons, List.all_nil, g1, g2]; rfl⟩]; rfl
  have x2 : (h6.set σ.next [.int .i64 p, vP, vB]).rd σ.next 0 3 = some [.int .i64 p, vP, vB] := by rw [prd_set, if_pos rfl]; rfl
  have x3 : (h6.set σ.next [.int .i64 p, vP, vB]).rd h2.next 0 3 = some [.int .i64 p, vP, vB] := by rw [prd_set, if_neg (by omega)]; exact rd6
  simp only [pwA, if_true, if_false, eq_self, nm_eq, reduceCtorEq, ↓reduceIte, nQ10, nQ7, nQ11, nQ12, nQ16, nQ17, nQ18, iQ2, iQ3, iQ4, iQ5, iQ6, lQ19, iQ7, lQ20, rd4, rd6, x1, x2, x3, g1, g2]
  exact Gh.fin0 ((hkT.trans hU6).set (Nat.le_refl _) _) ⟨⟨trivial, hR.P.bel _, hR.B.bel _, trivial⟩, hvU.bel _, hvV.bel _, trivial⟩ (hk p vP vB W B vU u vV v d hR hvU hul hux hvV hvl hvx)
theorem DrawSumLie_ok (hb : FB vC bs) (hB : Byt bs) (hk : ∀ p vP vB W B vU u vV v, DrR p W B → IsR vP vB W B → FII vU u → u.length ≤ 6 → (∀ x ∈ u, x.length ≤ 7) → FII vV v → v.length ≤ 6 → (∀ x ∈ v, x.length ≤ 7) → K (.tup [.agg [.int .i64 p, vP, vB], vU, vV]) σ) : PCalls Try.prog 13 [vC] σ K := by
  refine PCalls.gh ?_
  refine pcalls_of_vp mix Try.func13 cf13 rfl ?_
  dsimp only [if13, qI, eI, nI, qD, eD]
  simp only [pwA, if_true, if_false, eq_self, nm_eq, reduceCtorEq, ↓reduceIte, nQ10, nQ7, nQ11, nQ12, nQ16, nQ17, nQ18, iQ2, iQ3, iQ4, iQ5, iQ6, lQ19, iQ7, lQ20, hb.one]
  refine l32Two_ok hb hB fun p vP vB W B vU u vV v d hR hU hul hux hV hvl hvx => ?_
  have g1 := hR.P.one
  have g2 := hR.B.one
  simp only [pwA, if_true, if_false, eq_self, nm_eq, reduceCtorEq, ↓reduceIte, nQ10, nQ7, nQ11, nQ12, nQ16, nQ17, nQ18, iQ2, iQ3, iQ4, iQ5, iQ6, lQ19, iQ7, lQ20, g1, g2]
  exact Gh.fin0 (keep_new σ _) ⟨⟨trivial, hR.P.bel _, hR.B.bel _, trivial⟩, hU.bel _, hV.bel _, trivial⟩ (hk p vP vB W B vU u vV v d hR hU hul hux hV hvl hvx)
end Go.Proofs
namespace Go.Proofs
open Go.Ab Go.Lie
variable {σ σ0 h h' : PHeap} {K : PV → PHeap → Prop} {vC vP vB vx vy : PV} {bs x y : List Int} {s b n r0 : Nat} {p : Int} {W : List (List Int)} {B : List (List (List Int))}
theorem likeInts_ok (hx : FI vx x) (hy : FI vy y) (hl : x.length ≤ 1048576) (hk : ∀ t : Bool, (t = true ↔ x = y) → K (.bool t) σ) : PCalls Try.prog 10 [vx, vy] σ K := by
  obtain ⟨wx, ax, rfl⟩ := hx
  obtain ⟨wy, ay, rfl⟩ := hy
  refine pcalls_of_vp mix Try.func10 cf10 rfl ?_
  dsimp only [if10, qI, eI, nI, qD, eD]
  simp only [pwA, if_true, if_false, eq_self, nm_eq, reduceCtorEq, ↓reduceIte, nQ10, nQ7, nQ11, nQ12, nQ16, nQ17, nQ18, iQ2, iQ3, iQ4, iQ5, iQ6, lQ19, iQ7, lQ20]
  by_cases hxy : x.length = y.length
  rotate_left
  · have hne : ¬ (x.length : Int) = (y.length : Int) := by omega
    simp only [pwA, if_true, if_false, eq_self, nm_eq, reduceCtorEq, ↓reduceIte, nQ10, nQ7, nQ11, nQ12, nQ16, nQ17, nQ18, iQ2, iQ3, iQ4, iQ5, iQ6, lQ19, iQ7, lQ20, hne]
    exact hk false ⟨fun h => (by cases h), fun h => absurd (by rw [h]) hxy⟩
  have heq : (x.length : Int) = (y.length : Int) := by omega
  simp only [pwA, if_true, if_false, eq_self, nm_eq, reduceCtorEq, ↓reduceIte, nQ10, nQ7, nQ11, nQ12, nQ16, nQ17, nQ18, iQ2, iQ3, iQ4, iQ5, iQ6, lQ19, iQ7, lQ20, heq]
  refine vp_loop (fun m us g => ∃ i : Nat, i ≤ y.length ∧ m = y.length - i ∧ us = [.fz wx ax x.length (pis x), .fz wy ay y.length (pis y), .int .i64 i] ∧ g = σ ∧ ∀ j, j < i → x[j]? = y[j]?) y.length ⟨0, by omega, by omega, rfl, rfl, fun j hj => absurd hj (Nat.not_lt_zero _)⟩ ?_
  rintro m us g ⟨i, hi, rfl, rfl, rfl, he⟩
  simp only [pwA, if_true, if_false, eq_self, nm_eq, reduceCtorEq, ↓reduceIte, nQ10, nQ7, nQ11, nQ12, nQ16, nQ17, nQ18, iQ2, iQ3, iQ4, iQ5, iQ6, lQ19, iQ7, lQ20, heq]
  refine iteI (fun hlt => ?_) fun hge => ?_
  rotate_left
  · refine hk true ⟨fun _ => List.ext_getElem? fun j => ?_, fun _ => rfl⟩
    rcases Nat.lt_or_ge j i with e | e
    · exact he j e
    · rw [List.getElem?_eq_none (by omega), List.getElem?_eq_none (by omega)]
  have hltx : i < x.length := by omega
  have hlty : i < y.length := by omega
  have wi1 : IntKind.i64.wrap ((i : Int) + 1) = ((i + 1 : Nat) : Int) := wrapS hlty (by omega)
  simp only [pwA, if_true, if_false, eq_self, nm_eq, reduceCtorEq, ↓reduceIte, nQ10, nQ7, nQ11, nQ12, nQ16, nQ17, nQ18, iQ2, iQ3, iQ4, iQ5, iQ6, lQ19, iQ7, lQ20, pisAt hltx, pisAt hlty, hltx, hlty, wi1]
  refine iteI (fun hv => ?_) fun hv => ?_
  · refine ⟨_, by omega, i + 1, by omega, rfl, rfl, fun j hj => ?_⟩
    rcases Nat.lt_or_ge j i with e | e
    · exact he j e
    · obtain rfl : j = i := by omega
      rw [List.getElem?_eq_getElem hltx, List.getElem?_eq_getElem hlty, ← at_eq hltx, ← at_eq hlty, hv]
  · refine hk false ⟨fun h => (by cases h), fun h => absurd ?_ hv⟩
    rw [h]
theorem big_ok (hb : FB vC bs) (hk : ∀ t : Bool, (t = true ↔ 4096 < bs.length) → K (.bool t) σ) : PCalls Try.prog 6 [vC] σ K := by
  obtain ⟨w, a, rfl⟩ := hb
  refine pcalls_of_vp mix Try.func6 cf6 rfl ?_
  dsimp only [if6, qI, eI, nI, qD, eD]
  simp only [pwA, if_true, if_false, eq_self, nm_eq, reduceCtorEq, ↓reduceIte, nQ10, nQ7, nQ11, nQ12, nQ16, nQ17, nQ18, iQ2, iQ3, iQ4, iQ5, iQ6, lQ19, iQ7, lQ20]
  refine hk _ ?_
  rw [decide_eq_true_eq]
  omega
end Go.Proofs
namespace Go.Proofs
open Go.Ab Go.Lie
variable {σ : PHeap} {K : PV → PHeap → Prop} {va vb vx : PV} {p : Int} {W : List (List Int)} {B : List (List (List Int))} {xs ys : List (List Int)} {x : List Int}
theorem likeRows5_ok (ha : FII va xs) (hb : FII vb ys) (sz : SzL xs) (hk : ∀ t : Bool, (t = true ↔ xs = ys) → K (.bool t) σ) : PCalls Try.prog 18 [va, vb] σ K := by
  obtain ⟨wx, ax, rx, rfl, hrx⟩ := ha
  obtain ⟨wy, ay, ry, rfl, hry⟩ := hb
  have hl := sz.l
  refine pcalls_of_vp mix Try.func18 cf18 rfl ?_
  dsimp only [if18, qI, eI, nI, qD, eD]
  simp only [pwA, if_true, if_false, eq_self, nm_eq, reduceCtorEq, ↓reduceIte, nQ10, nQ7, nQ11, nQ12, nQ16, nQ17, nQ18, iQ2, iQ3, iQ4, iQ5, iQ6, lQ19, iQ7, lQ20]
  by_cases hxy : xs.length = ys.length
  rotate_left
  · have hne : ¬ (xs.length : Int) = (ys.length : Int) := by omega
    simp only [pwA, if_true, if_false, eq_self, nm_eq, reduceCtorEq, ↓reduceIte, nQ10, nQ7, nQ11, nQ12, nQ16, nQ17, nQ18, iQ2, iQ3, iQ4, iQ5, iQ6, lQ19, iQ7, lQ20, hne]
    exact hk false ⟨fun h => (by cases h), fun h => absurd (by rw [h]) hxy⟩
  have heq : (xs.length : Int) = (ys.length : Int) := by omega
  simp only [pwA, if_true, if_false, eq_self, nm_eq, reduceCtorEq, ↓reduceIte, nQ10, nQ7, nQ11, nQ12, nQ16, nQ17, nQ18, iQ2, iQ3, iQ4, iQ5, iQ6, lQ19, iQ7, lQ20, heq]
  refine vp_loop (fun m us g => ∃ i : Nat, i ≤ ys.length ∧ m = ys.length - i ∧ us = [.fz wx ax xs.length rx, .fz wy ay ys.length ry, .int .i64 i] ∧ g = σ ∧ ∀ j, j < i → xs[j]? = ys[j]?) ys.length ⟨0, by omega, by omega, rfl, rfl, fun j hj => absurd hj (Nat.not_lt_zero _)⟩ ?_
  rintro m us g ⟨i, hi, rfl, rfl, rfl, he⟩
  simp only [pwA, if_true, if_false, eq_self, nm_eq, reduceCtorEq, ↓reduceIte, nQ10, nQ7, nQ11, nQ12, nQ16, nQ17, nQ18, iQ2, iQ3, iQ4, iQ5, iQ6, lQ19, iQ7, lQ20, heq]
  refine iteI (fun hlt => ?_) fun hge => ?_
  rotate_left
  · refine hk true ⟨fun _ => List.ext_getElem? fun j => ?_, fun _ => rfl⟩
    rcases Nat.lt_or_ge j i with e | e
    · exact he j e
    · rw [List.getElem?_eq_none (by omega), List.getElem?_eq_none (by omega)]
  have hltx : i < xs.length := by omega
  have hlty : i < ys.length := by omega
  have wi1 : IntKind.i64.wrap ((i : Int) + 1) = ((i + 1 : Nat) : Int) := wrapS hlty (by omega)
  obtain ⟨w1, a1, h1⟩ := hrx.rowI hltx
  obtain ⟨w2, a2, h2⟩ := hry.rowI hlty
  have hle := sz.r _ (List.getElem_mem hltx)
  simp only [pwA, if_true, if_false, eq_self, nm_eq, reduceCtorEq, ↓reduceIte, nQ10, nQ7, nQ11, nQ12, nQ16, nQ17, nQ18, iQ2, iQ3, iQ4, iQ5, iQ6, lQ19, iQ7, lQ20, h1, h2, hltx, hlty]
  refine likeInts_ok ⟨w1, a1, rfl⟩ ⟨w2, a2, rfl⟩ hle fun t ht => ?_
  cases t with
  | false =>
    simp only [pwA, if_true, if_false, eq_self, nm_eq, reduceCtorEq, ↓reduceIte, nQ10, nQ7, nQ11, nQ12, nQ16, nQ17, nQ18, iQ2, iQ3, iQ4, iQ5, iQ6, lQ19, iQ7, lQ20]
    refine hk false ⟨fun h => (by cases h), fun h => ?_⟩
    have := ht.2 (by simp only [h])
    cases this
  | true =>
    have hv := ht.1 rfl
    simp only [pwA, if_true, if_false, eq_self, nm_eq, reduceCtorEq, ↓reduceIte, nQ10, nQ7, nQ11, nQ12, nQ16, nQ17, nQ18, iQ2, iQ3, iQ4, iQ5, iQ6, lQ19, iQ7, lQ20, wi1]
    refine ⟨_, by omega, i + 1, by omega, rfl, rfl, fun j hj => ?_⟩
    rcases Nat.lt_or_ge j i with e | e
    · exact he j e
    · obtain rfl : j = i := by omega
      rw [List.getElem?_eq_getElem hltx, List.getElem?_eq_getElem hlty, hv]
end Go.Proofs
namespace Go.Proofs.Ytpcjbkbcaiphmaa
open Go.ChangeShapes Go.WideShapes Go.ChangeAt Go.RowKit Go.Ab Go.Joins Go.Lie Go.Proofs
variable {H : Type} {enc : TypeId × Value → H} {W w0 : World} {j : Inj} {h : AHeap}
theorem cell8 : Try.prog.cellsOf 5 = 1 := by kernel_rfl
theorem lay8 : Lay1 enc Try.prog W 5 (fun pv (n : Int) => pv = .int .u8 n ∧ 0 ≤ n ∧ n ≤ 255) := by
  intro w0 j h held fuel v x m hx
  obtain ⟨n, hn, _, hw⟩ := DataW.trod_int Try.underlying5 hx
  simp only [List.cons.injEq, and_true] at hn
  subst hn
  simp only [Lit.wf, Bool.and_eq_true, decide_eq_true_eq] at hw
  have h1 : IntKind.u8.min = 0 := by rfl
  have h2 : IntKind.u8.max = 255 := by rfl
  rw [h1, h2] at hw
  exact ⟨j, h, .int .u8 n, n, m, Inj.le.refl _, Ext.refl m.wf, rfl, trivial, rfl, rfl, hw.1, hw.2⟩
theorem FL.bytes {v : PV} {xs : List Int} (h : FL (fun pv (n : Int) => pv = .int .u8 n ∧ 0 ≤ n ∧ n ≤ 255) v xs) : FB v xs := by
  obtain ⟨w, a, rows, rfl, hr⟩ := h
  refine ⟨w, a, ?_⟩
  congr 1
  apply List.ext_getElem?
  intro k
  rw [List.getElem?_map]
  rcases Nat.lt_or_ge k xs.length with x | x
  · obtain ⟨pv, h1, h2⟩ := hr.get x
    rw [h1, gi x, h2.1]; rfl
  · rw [List.getElem?_eq_none (by rw [hr.1]; exact x), List.getElem?_eq_none x]; rfl
theorem layB : Lay1 enc Try.prog W 22 (fun v (xs : List Int) => FB v xs ∧ ∀ b ∈ xs, 0 ≤ b ∧ b ≤ 255) := by
  intro w0 j h held fuel v x m hx
  obtain ⟨j', h', pv, a, g1, g2, g3, g4, g5, g6, g7, g8⟩ := lay_slice Try.underlying22 cell8 lay8 w0 j h held fuel v x m hx
  exact ⟨j', h', pv, a, g1, g2, g3, g4, g5, g6, FL.bytes g7, g7.all fun _ _ k => k.2⟩
end Go.Proofs.Ytpcjbkbcaiphmaa
