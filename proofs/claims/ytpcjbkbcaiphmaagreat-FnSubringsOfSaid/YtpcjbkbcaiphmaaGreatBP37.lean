/- A list of bytes that a law is handed, laid as a frozen value. -/
import Derived.Test.YtpcjbkbcaiphmaaGreatBP36
import Derived.Test.YtpcjbkbcaiphmaaGreatBP32
import Derived.Test.YtpcjbkbcaiphmaaGreatBP29
open Nat renaming reduceLeDiff → nQ7, reduceEqDiff → nQ10, reduceBEq → nQ11, reduceAdd → nQ12, reduceLT → nQ16, reduceSub → nQ17, reduceMul → nQ18
open Int renaming reduceEq → iQ2, reduceLT → iQ3, reduceLE → iQ4, reduceNeg → iQ5, reduceToNat → iQ6, ofNat_le → iQ7
open List renaming reduceReplicate → lQ19, getElem?_drop → lQ20
set_option linter.unusedSimpArgs false
set_option linter.unusedVariables false
set_option linter.unusedSectionVars false
namespace Go.Proofs
open Go.Ab Go.Lie
variable {σ σ0 h h' : PHeap} {K : PV → PHeap → Prop} {vC vP vB : PV} {bs : List Int} {s b n r0 : Nat} {p : Int} {W : List (List Int)} {B : List (List (List Int))}
theorem push_ks {T h : PHeap} {n t l : Nat} {v : PV} {cs : List PV} {cap : Cap} {x : List Int} {K : PV × PHeap → Prop} (w : PWF T) (so : So h s vC bs) (hs : s < T.next) (km : KM T s h) (a : PSl T.next 1 h v n cs)
    (h1 : (n + 1) * 24 ≤ 140737488355328) (h2 : n + 1 ≤ 4611686018427387904) (hx : h.obj t = some (pis x)) (ht : T.next ≤ t) (htl : t < h.next) (hne : ∀ off l c, v ≠ .sl t off l c) (hc : capOK cap l = true) (hb : Bels 0 cs)
    (k : ∀ v' h', h'.obj t = some (pis x) → (∀ o, KM T s ((h'.kill t).sub t o (pis x)) ∧ So ((h'.kill t).sub t o (pis x)) s vC bs ∧ PSl T.next 1 ((h'.kill t).sub t o (pis x)) v' (n + 1) (cs ++ [.fz true (.sl o 0 l cap) l (pis x)]) ∧ sb t o (pis x) v' = v' ∧ (∀ u ds, u ≠ t → Bels 0 ds → h'.obj u = some ds → ((h'.kill t).sub t o (pis x)).obj u = some ds)) →
      KM T s h' → K (v', h')) : optK (pappend 1 24 (h.new [.sl t 0 l cap]) v (.sl h.next 0 1 (.known 1))) K := by
  have km0 := km
  obtain ⟨σ', m, q⟩ := km
  have hn := m.next
  have so' : So σ' s vC bs := by
    obtain ⟨a0, sd0, S⟩ := so
    exact ⟨a0, sd0, by rw [← q.obj s (by omega)]; exact S.obj, by omega, S.fb, S.byt, S.le, S.sd⟩
  have w' : PWF σ' := by
    obtain ⟨c0, c1, g0, g1, rfl⟩ := m
    exact PWF.setS w g0 g1
  refine PAcc.pushS (bytes := 24) (σb := σ') q (by rw [hn]; exact a.acc) rfl h1 h2 fun v' h' k1 a1 o1 n1 l1 => ?_
  refine k v' h' (by rw [o1 t htl hne]; exact hx) (fun o => ?_) ⟨σ', m, k1⟩
  have f := PSl.fzr w' k1 a1 (s := t) (cs := pis x) (by omega) (n1 t htl) o
  refine ⟨⟨σ', m, f.1⟩, so'.keep f.1, ?_, f.2.2, fun u ds hu hd ho => ?_⟩
  · have := f.2.1
    rw [sbs_row hb hc, hn] at this
    exact this
  · have := sub_obj (o := o) (xs := pis x) hu ho
    rw [sbs_bel (Nat.zero_le _) hd] at this
    exact this
theorem l32Gens_ok (so : So σ s vC bs) (hR : IsR vP vB W B) (hp : -4611686018427387904 ≤ p ∧ p ≤ 4611686018427387904) (hl : W.length ≤ 1048000)
    (hk : ∀ v xs h, FII v xs → xs.length ≤ 3 → (∀ x ∈ xs, x.length ≤ W.length + 1) → Mv σ s h → So h s vC bs → K v h) : PCalls Tryz.prog 207 [.ptr s 0, .agg [.int .i64 p, vP, vB]] σ K := by
  have g1 := hR.P.one
  have g2 := hR.B.one
  have hsl := so.lt
  refine PCalls.pwf fun w => PCalls.gh ?_
  generalize hT : σ.new [.int .i64 p, vP, vB] = T
  have hTn : T.next = σ.next + 1 := by rw [← hT]; rfl
  have hkT : Keep σ T := by rw [← hT]; exact keep_new σ _
  have soT : So T s vC bs := so.keep hkT
  have hsT : s < T.next := soT.lt
  have wT : PWF T := by rw [← hT]; exact w.newB ⟨trivial, hR.P.bel _, hR.B.bel _, trivial⟩
  have obT : T.obj σ.next = some [.int .i64 p, vP, vB] := by rw [← hT]; simp only [pwA, if_true, if_false, eq_self, nm_eq, reduceCtorEq, ↓reduceIte, nQ10, nQ7, nQ11, nQ12, nQ16, nQ17, nQ18, iQ2, iQ3, iQ4, iQ5, iQ6, lQ19, iQ7, lQ20]
  have rdT : ∀ {g : PHeap}, KM T s g → g.rd σ.next 0 3 = some [.int .i64 p, vP, vB] := fun {g} k => by
    have ob := k.obj (t := σ.next) (by omega) (by omega)
    rw [obT] at ob
    rw [obj_rd ob]; rfl
  refine pcalls_of_vp mix Tryz.func207 cf207 rfl ?_
  dsimp only [if207, qI, eI, nI, qD, eD]
  simp only [pwA, if_true, if_false, eq_self, nm_eq, reduceCtorEq, ↓reduceIte, nQ10, nQ7, nQ11, nQ12, nQ16, nQ17, nQ18, iQ2, iQ3, iQ4, iQ5, iQ6, lQ19, iQ7, lQ20, g1, g2]
  rw [hT]
  refine l01Next_m (soT.keep (keep_new _ _)) (by decide) fun c h0 hc m0 so0 => ?_
  have hc0 := hc.1
  have hc1 : c < 4 := hc.2.2 (by decide)
  obtain ⟨k0, rfl⟩ := Int.eq_ofNat_of_zero_le hc0
  simp only [pwA, if_true, if_false, eq_self, nm_eq, reduceCtorEq, ↓reduceIte, nQ10, nQ7, nQ11, nQ12, nQ16, nQ17, nQ18, iQ2, iQ3, iQ4, iQ5, iQ6, lQ19, iQ7, lQ20]
  refine vp_loopG (fun m us h => ∃ (k : Nat) (v : PV) (xs : List (List Int)) (rows : List PV), m = k ∧ k + xs.length ≤ 3 ∧ us = [.ptr s 0, .ptr σ.next 0, v, .int .i64 k] ∧ KM T s h ∧ So h s vC bs ∧ PSl T.next 1 h v xs.length rows ∧ All2 FI rows xs ∧ ∀ x ∈ xs, x.length ≤ W.length + 1) k0 ?_ ?_
  · refine .here ⟨k0, .sl T.next 0 0 (.known 0), [], [], rfl, by simp; omega, by first | (rw [hTn]; rfl) | rfl, ((soT.kmK (keep_new _ _)).mv hsT m0), so0, psl_mv (PSl.new _ 1 rfl (Nat.le_refl _)) hsT m0, All2.nil _, fun x hx => by cases hx⟩
  rintro m us h ⟨k, v, xs, rows, rfl, hkx, rfl, km, so1, ps, hrows, hxl⟩
  have r3 := rdT km
  simp only [pwA, if_true, if_false, eq_self, nm_eq, reduceCtorEq, ↓reduceIte, nQ10, nQ7, nQ11, nQ12, nQ16, nQ17, nQ18, iQ2, iQ3, iQ4, iQ5, iQ6, lQ19, iQ7, lQ20]
  by_cases hk0 : m = 0
  · subst hk0
    have hk0' : ¬ ((0 : Nat) : Int) > 0 := by omega
    simp only [pwA, if_true, if_false, eq_self, nm_eq, reduceCtorEq, ↓reduceIte, nQ10, nQ7, nQ11, nQ12, nQ16, nQ17, nQ18, iQ2, iQ3, iQ4, iQ5, iQ6, lQ19, iQ7, lQ20, hk0']
    refine Gh.km ((so.kmK hkT).trans hsl km) so1 hsl fun σ' m' so' kp => ?_
    obtain ⟨t, cap, rfl, hcp, q2, q3, q4, q5⟩ := ps
    exact Gh.finF (s := t) kp q2 (by rw [m'.next]; omega) (hrows.bI 0) hcp.ok fun o => hk _ xs σ' ⟨_, _, _, rfl, hrows⟩ (by omega) hxl m' so'
  have hkp : (m : Int) > 0 := by omega
  have hkp' : (0 : Int) < (m : Int) := hkp
  simp only [pwA, if_true, if_false, eq_self, nm_eq, reduceCtorEq, ↓reduceIte, nQ10, nQ7, nQ11, nQ12, nQ16, nQ17, nQ18, iQ2, iQ3, iQ4, iQ5, iQ6, lQ19, iQ7, lQ20, hkp, hkp', r3]
  refine l31Element_sl so1 hR hp (by omega) fun x h2 cap hcap hx m2 so2 => ?_
  simp only [pwA, if_true, if_false, eq_self, nm_eq, reduceCtorEq, ↓reduceIte, nQ10, nQ7, nQ11, nQ12, nQ16, nQ17, nQ18, iQ2, iQ3, iQ4, iQ5, iQ6, lQ19, iQ7, lQ20]
  have hn2 : h.next = h2.next := m2.next.symm
  have hTh := km.next
  refine vp_loop (fun mm us h3 => ∃ (i : Nat) (y : List Int), i ≤ x.length ∧ mm = x.length - i ∧ us = [.ptr s 0, .ptr σ.next 0, v, .int .i64 m, .sl h.next 0 x.length cap, .int .i64 i] ∧ y.length = x.length ∧ KM T s h3 ∧ So h3 s vC bs ∧ PSl T.next 1 h3 v xs.length rows ∧ h3.obj h.next = some (pis y) ∧ h.next < h3.next ∧ (∀ off l c, v ≠ .sl h.next off l c)) x.length ?_ ?_
  · refine ⟨0, x, Nat.zero_le _, rfl, rfl, rfl, (km.mv hsT m2).new _, so2.keep (keep_new _ _), (psl_mv ps hsT m2).keep (keep_new _ _), by rw [pobj_new, if_pos hn2], by rw [hn2]; exact Nat.lt_succ_self _, fun off l c e => ?_⟩
    obtain ⟨t, cap, rfl, hcp, q2, q3, q4, q5⟩ := ps
    cases e
    omega
  rintro mm us h3 ⟨i, y, hi, rfl, rfl, hyl, km3, so3, ps3, o3, lt3, ne3⟩
  have fin : ∀ {g : PHeap} {Q : PV × PHeap → Prop}, KM T s g → So g s vC bs → PSl T.next 1 g v xs.length rows → g.obj h.next = some (pis y) → h.next < g.next → (∀ off l c, v ≠ .sl h.next off l c) →
      (∀ v' h', GL (fun us h => ∃ (k : Nat) (v : PV) (xs : List (List Int)) (rows : List PV), m - 1 = k ∧ k + xs.length ≤ 3 ∧ us = [.ptr s 0, .ptr σ.next 0, v, .int .i64 k] ∧ KM T s h ∧ So h s vC bs ∧ PSl T.next 1 h v xs.length rows ∧ All2 FI rows xs ∧ ∀ x ∈ xs, x.length ≤ W.length + 1) [.ptr s 0, .ptr σ.next 0, v', .int .i64 ((m - 1 : Nat) : Int)] h' → Q (v', h')) →
      optK (pappend 1 24 (g.new [.sl h.next 0 x.length cap]) v (.sl g.next 0 1 (.known 1))) Q := by
    intro g Q kg sg pg og lg ng hQ
    refine push_ks wT sg hsT kg pg (by omega) (by omega) og (by omega) lg ng hcap.ok (hrows.bI 0) fun v' h' ho hfr _ => ?_
    refine hQ v' h' (.fzh h.next _ ho (pis_bel _ _) fun o => ?_)
    obtain ⟨f1, f2, f3, f4, _⟩ := hfr o
    refine .here ⟨m - 1, v', xs ++ [y], _, rfl, by simp; omega, by simp only [sbs, sb, f4], f1, f2, by rw [List.length_append]; exact f3, hrows.snoc ⟨true, .sl o 0 x.length cap, by rw [hyl]⟩, fun z hz => ?_⟩
    rcases List.mem_append.1 hz with e | e
    · exact hxl z e
    · rw [List.mem_singleton.1 e, hyl]; exact hx
  have wk : IntKind.i64.wrap ((m : Int) - 1) = ((m - 1 : Nat) : Int) := by rw [wrap64 (by omega) (by omega)]; omega
  by_cases hlt : i < x.length
  rotate_left
  · have hlt' : ¬ (i : Int) < (x.length : Int) := by omega
    simp only [pwA, if_true, if_false, eq_self, nm_eq, reduceCtorEq, ↓reduceIte, nQ10, nQ7, nQ11, nQ12, nQ16, nQ17, nQ18, iQ2, iQ3, iQ4, iQ5, iQ6, lQ19, iQ7, lQ20, hlt', decide_false, wk]
    refine fin km3 so3 ps3 o3 lt3 ne3 fun v' h' gl => ?_
    simp only [pwA, if_true, if_false, eq_self, nm_eq, reduceCtorEq, ↓reduceIte, nQ10, nQ7, nQ11, nQ12, nQ16, nQ17, nQ18, iQ2, iQ3, iQ4, iQ5, iQ6, lQ19, iQ7, lQ20, wk]
    exact ⟨m - 1, by omega, gl⟩
  have hlt' : (i : Int) < (x.length : Int) := by omega
  have wi1 : IntKind.i64.wrap ((i : Int) + 1) = ((i + 1 : Nat) : Int) := wrapS hlt (by omega)
  simp only [pwA, if_true, if_false, eq_self, nm_eq, reduceCtorEq, ↓reduceIte, nQ10, nQ7, nQ11, nQ12, nQ16, nQ17, nQ18, iQ2, iQ3, iQ4, iQ5, iQ6, lQ19, iQ7, lQ20, hlt', hlt, decide_true]
  refine l01Next_m so3 (by decide) fun z h4 hz m4 so4 => ?_
  have km4 := km3.mv hsT m4
  have ps4 := psl_mv ps3 hsT m4
  have o4 : h4.obj h.next = some (pis y) := by rw [m4.obj (by omega)]; exact o3
  have lt4 : h.next < h4.next := by rw [m4.next]; exact lt3
  by_cases hz0 : z = 0
  rotate_left
  · simp only [pwA, if_true, if_false, eq_self, nm_eq, reduceCtorEq, ↓reduceIte, nQ10, nQ7, nQ11, nQ12, nQ16, nQ17, nQ18, iQ2, iQ3, iQ4, iQ5, iQ6, lQ19, iQ7, lQ20, hz0, decide_false, wk]
    refine fin km4 so4 ps4 o4 lt4 ne3 fun v' h' gl => ?_
    simp only [pwA, if_true, if_false, eq_self, nm_eq, reduceCtorEq, ↓reduceIte, nQ10, nQ7, nQ11, nQ12, nQ16, nQ17, nQ18, iQ2, iQ3, iQ4, iQ5, iQ6, lQ19, iQ7, lQ20, wk]
    exact ⟨m - 1, by omega, gl⟩
  have hw := wr_one (v := .int .i64 0) (i := i) o4 (by rw [pis_length, hyl]; exact hlt) rfl
  rw [pis_set] at hw
  simp only [pwA, if_true, if_false, eq_self, nm_eq, reduceCtorEq, ↓reduceIte, nQ10, nQ7, nQ11, nQ12, nQ16, nQ17, nQ18, iQ2, iQ3, iQ4, iQ5, iQ6, lQ19, iQ7, lQ20, hz0, decide_true, hlt, hlt', hw, wi1]
  refine ⟨_, by omega, i + 1, y.set i 0, by omega, rfl, rfl, by rw [List.length_set]; exact hyl, km4.set (by omega) _, so4.set (by omega) _, ?_, by first | rfl | rw [pobj_set, if_pos rfl], lt4, ne3⟩
  exact psl_move ps4 (fun t off l c e => by rw [pobj_set, if_neg (fun e2 => by subst e2; exact ne3 off l c e)]) (Nat.le_refl _)
end Go.Proofs
namespace Go.Proofs
open Go.Ab Go.Lie
variable {p : Int} {n : Nat} {W : List (List Int)} {B : List (List (List Int))} {c k : Nat} {f g h : Vec}
theorem brv_add2 (f g g' : Vec) (t : Nat) : brv B n f (fun j => g j + g' j) t = brv B n f g t + brv B n f g' t := by
  rw [brv_anti, brv_add, brv_anti g f, brv_anti g' f]
  grind
theorem brv_units1 (f g : Vec) (t : Nat) : brv B n f g t = sumN n fun k => f k * brv B n (at_ (unitL n k)) g t := by
  rw [brv_anti, brv_units f g, ← sumN_mul]
  refine sumN_congr fun k hk => ?_
  rw [brv_anti g (at_ (unitL n k))]
  grind
theorem brv_fcongr {f f' g g' : Vec} (h : ∀ j, f j = f' j) (h' : ∀ j, g j = g' j) (t : Nat) : brv B n f g t = brv B n f' g' t := brv_congr (fun j _ => h j) (fun j _ => h' j) t
def jac (B : List (List (List Int))) (n : Nat) (f g h : Vec) : Vec := fun t => brv B n (brv B n f g) h t + brv B n (brv B n g h) f t + brv B n (brv B n h f) g t
theorem jac_cyc (f g h : Vec) (t : Nat) : jac B n f g h t = jac B n g h f t := by
  simp only [jac]
  omega
theorem brv_neg1 (f g h : Vec) (t : Nat) : brv B n (brv B n f g) h t = -1 * brv B n (brv B n g f) h t := by
  rw [brv_fcongr (f' := fun j => -1 * brv B n g f j) (g' := h) (fun j => brv_anti f g j) (fun _ => rfl), brv_mul]
theorem jac_swap (f g h : Vec) (t : Nat) : jac B n f g h t = -1 * jac B n g f h t := by
  simp only [jac]
  rw [brv_neg1 f g, brv_neg1 g h, brv_neg1 h f]
  omega
theorem jac_same (f h : Vec) (t : Nat) : jac B n f f h t = 0 := by
  have := jac_swap (B := B) (n := n) f f h t
  omega
theorem jac_lin (f g h : Vec) (t : Nat) : jac B n f g h t = sumN n fun k => f k * jac B n (at_ (unitL n k)) g h t := by
  simp only [jac]
  rw [brv_fcongr (f' := fun j => sumN n fun k => f k * brv B n (at_ (unitL n k)) g j) (g' := h) (fun j => brv_units1 f g j) (fun _ => rfl), brv_sum (t := t) (g := h) n (fun k j => f k * brv B n (at_ (unitL n k)) g j),
    brv_units f (brv B n g h), brv_fcongr (f' := fun j => sumN n fun k => f k * brv B n h (at_ (unitL n k)) j) (g' := g) (fun j => brv_units f h j) (fun _ => rfl), brv_sum (t := t) (g := g) n (fun k j => f k * brv B n h (at_ (unitL n k)) j), ← sumN_add, ← sumN_add]
  refine sumN_congr fun k hk => ?_
  rw [brv_mul, brv_mul]
  grind
theorem jac_of (hu : ∀ k, k < n → Eqv p n W (jac B n (at_ (unitL n k)) g h) fun _ => 0) : Eqv p n W (jac B n f g h) fun _ => 0 :=
  (Eqv.of_eq fun t => jac_lin f g h t).trans (eqv_sum0 n (fun k t => f k * jac B n (at_ (unitL n k)) g h t) fun k hk => ((hu k hk).mul (f k)).trans (Eqv.of_eq fun t => by grind))
theorem jac_unit (o : OkW p n W) (q : OkB p n B) (nf : NoFault p W B n) {i j k : Nat} (hij : i < j) (hjk : j < k) (hk : k < n) : Eqv p n W (jac B n (at_ (unitL n i)) (at_ (unitL n j)) (at_ (unitL n k))) fun _ => 0 := by
  have h := nf.2 i j k hij hjk hk
  unfold F2 at h
  have e : ∀ a b c : List Int, Eqv p n W (at_ (br p W B n (br p W B n a b) c)) (brv B n (brv B n (at_ a) (at_ b)) (at_ c)) := fun a b c => (br_eqv o q _ _).trans (brv_eqv o q nf _ (br_eqv o q a b))
  have ev2 := (((ladd_eqv o (lmix_el o (br_el o q) (br_el o q)) (br_el o q)).symm.trans (Eqv.of_eq (isZ_at h))))
  refine Eqv.trans ?_ ev2
  refine (Eqv.of_eq fun t => rfl).trans (Eqv.add (Eqv.trans ?_ (ladd_eqv o (br_el o q) (br_el o q)).symm) (e _ _ _).symm)
  exact Eqv.add (e _ _ _).symm (e _ _ _).symm
theorem jac_units (o : OkW p n W) (q : OkB p n B) (nf : NoFault p W B n) {i j k : Nat} (hi : i < n) (hj : j < n) (hk : k < n) : Eqv p n W (jac B n (at_ (unitL n i)) (at_ (unitL n j)) (at_ (unitL n k))) fun _ => 0 := by
  have cyc : ∀ {a b c : Vec}, Eqv p n W (jac B n b c a) (fun _ => 0) → Eqv p n W (jac B n a b c) fun _ => 0 := fun h => (Eqv.of_eq fun t => jac_cyc _ _ _ t).trans h
  have swp : ∀ {a b c : Vec}, Eqv p n W (jac B n b a c) (fun _ => 0) → Eqv p n W (jac B n a b c) fun _ => 0 := fun h => (Eqv.of_eq fun t => jac_swap _ _ _ t).trans ((h.mul (-1)).trans (Eqv.of_eq fun t => rfl))
  have sam : ∀ {a c : Vec}, Eqv p n W (jac B n a a c) (fun _ => 0) := Eqv.of_eq fun t => jac_same _ _ t
  rcases Nat.lt_trichotomy i j with h1 | rfl | h1
  · rcases Nat.lt_trichotomy j k with h2 | rfl | h2
    · exact jac_unit o q nf h1 h2 hk
    · exact cyc sam
    · rcases Nat.lt_trichotomy i k with h3 | rfl | h3
      · exact cyc (swp (cyc (cyc (jac_unit o q nf h3 h2 hj))))
      · exact cyc (cyc sam)
      · exact cyc (cyc (jac_unit o q nf h3 h1 hj))
  · exact sam
  · rcases Nat.lt_trichotomy j k with h2 | rfl | h2
    · rcases Nat.lt_trichotomy i k with h3 | rfl | h3
      · exact swp (jac_unit o q nf h1 h3 hk)
      · exact cyc (cyc sam)
      · exact cyc (jac_unit o q nf h2 h3 hi)
    · exact cyc sam
    · exact swp (cyc (cyc (jac_unit o q nf h2 h1 hi)))
theorem jac_zero (o : OkW p n W) (q : OkB p n B) (nf : NoFault p W B n) (f g h : Vec) : Eqv p n W (jac B n f g h) fun _ => 0 := by
  have cyc : ∀ {a b c : Vec}, Eqv p n W (jac B n b c a) (fun _ => 0) → Eqv p n W (jac B n a b c) fun _ => 0 := fun h => (Eqv.of_eq fun t => jac_cyc _ _ _ t).trans h
  refine jac_of fun i hi => cyc (jac_of fun j hj => cyc (jac_of fun k hk => cyc ?_))
  exact jac_units o q nf hi hj hk
section
variable {X Y Z : Vec}
def ev2 (B : List (List (List Int))) (n : Nat) (X Y Z : Vec) (a : List Int) : Vec := fun t => at_ a 3 * brv B n X Y t + at_ a 4 * brv B n X Z t + at_ a 5 * brv B n Y Z t
end
end Go.Proofs
namespace Go.Proofs
open Go.Ab Go.Lie
variable {p : Int} {n : Nat} {W : List (List Int)} {B : List (List (List Int))} {id : Prop}
theorem gen_brL (o : OkW p n W) (q : OkB p n B) (nf : NoFault p W B n) {u w : List (List Int)} {f g : Vec} (hf : Gen p n W u f) (hg : Gen p n W w g) : Gen p n W (brL p W B n u w) (brv B n f g) := by
  have hS := gen_sub (p := p) (n := n) (W := W) (brL p W B n u w)
  have z1 : ∀ (f : Vec) (t : Nat), brv B n (fun _ => 0) f t = 0 := fun f t => by
    have := brv_mul (B := B) (n := n) 0 (fun _ => 0) f t
    simpa using this
  refine gen_le (S := fun f => Gen p n W (brL p W B n u w) (brv B n f g)) ⟨hS.eqv _ _ (Eqv.of_eq (z1 g)) hS.zero, fun f f' h h' => hS.eqv _ _ (Eqv.of_eq fun t => brv_add f f' g t) (hS.add _ _ h h'), fun k f h => hS.eqv _ _ (Eqv.of_eq fun t => brv_mul k f g t) (hS.mul k _ h), fun f f' h h' => hS.eqv _ _ (brv_eqv o q nf g h) h'⟩ (fun x hx => ?_) hf
  refine gen_le (S := fun g => Gen p n W (brL p W B n u w) (brv B n (at_ x) g)) ⟨hS.eqv _ _ (Eqv.of_eq fun t => by rw [brv_anti, z1]; rfl) hS.zero, fun f f' h h' => hS.eqv _ _ (Eqv.of_eq fun t => brv_add2 (at_ x) f f' t) (hS.add _ _ h h'), fun k f h => hS.eqv _ _ (Eqv.of_eq fun t => brv_mul2 k (at_ x) f t) (hS.mul k _ h), fun f f' h h' => hS.eqv _ _ (brv_eqv2 o q nf (at_ x) h) h'⟩ (fun y hy => ?_) hg
  exact hS.eqv _ _ (br_eqv o q x y).symm (gen_mem (List.mem_flatMap.2 ⟨x, hx, List.mem_map.2 ⟨y, hy, rfl⟩⟩))
def Shut (B : List (List (List Int))) (n : Nat) (id : Prop) (S : Vec → Prop) : Prop := ∀ f g, S f → (id ∨ S g) → S (brv B n f g)
structure Grw (p : Int) (n : Nat) (W : List (List Int)) (B : List (List (List Int))) (id : Prop) (gens u : List (List Int)) : Prop where
  base : Base p n W u
  red : Red u
  mem : ∀ v ∈ gens, Gen p n W u (at_ v)
  low : ∀ S, IsSub p n W S → (∀ v ∈ gens, S (at_ v)) → Shut B n id S → ∀ f, Gen p n W u f → S f
structure ClsOf (p : Int) (n : Nat) (W : List (List Int)) (B : List (List (List Int))) (id : Prop) (gens u : List (List Int)) : Prop extends Grw p n W B id gens u where
  clo : Shut B n id (Gen p n W u)
theorem ClsOf.unique (o : OkW p n W) {gens u v : List (List Int)} (a : ClsOf p n W B id gens u) (b : ClsOf p n W B id gens v) : u = v :=
  canon_unique o a.base a.red b.base b.red (a.low _ (gen_sub v) b.mem b.clo) (b.low _ (gen_sub u) a.mem a.clo)
theorem Grw.start {gens u : List (List Int)} (c : Canon p n W gens u) : Grw p n W B id gens u :=
  ⟨c.base, c.red, fun v hv => (c.gen _).1 (gen_mem hv), fun S hS hg _ f hf => gen_le hS hg ((c.gen f).2 hf)⟩
theorem Grw.len (o : OkW p n W) {gens u : List (List Int)} (a : Grw p n W B id gens u) : u.length ≤ n := asc_length (fun v hv => (a.base.led v hv).2.1) a.base.asc
structure Rnd (p : Int) (n : Nat) (W : List (List Int)) (B : List (List (List Int))) (id : Prop) (u v : List (List Int)) : Prop where
  base : Base p n W v
  red : Red v
  up : ∀ f, Gen p n W u f → Gen p n W v f
  br : ∀ f g, Gen p n W u f → (id ∨ Gen p n W u g) → Gen p n W v (brv B n f g)
  low : ∀ S, IsSub p n W S → (∀ x ∈ u, S (at_ x)) → Shut B n id S → ∀ f, Gen p n W v f → S f
theorem Grw.next {gens u v : List (List Int)} (a : Grw p n W B id gens u) (r : Rnd p n W B id u v) : Grw p n W B id gens v :=
  ⟨r.base, r.red, fun x hx => r.up _ (a.mem x hx), fun S hS hg hs => r.low S hS (fun x hx => a.low S hS hg hs _ (gen_mem hx)) hs⟩
theorem Grw.done (o : OkW p n W) {gens u v : List (List Int)} (a : Grw p n W B id gens u) (r : Rnd p n W B id u v) (hl : v.length ≤ u.length) : ClsOf p n W B id gens u :=
  ⟨a, fun f g hf hg => (base_le o a.base r.base r.up).2 hl _ (r.br f g hf hg)⟩
theorem Grw.less (o : OkW p n W) {gens u v : List (List Int)} (a : Grw p n W B id gens u) (r : Rnd p n W B id u v) (hl : v.length ≠ u.length) : u.length < v.length := by
  have := (base_le o a.base r.base r.up).1
  omega
theorem Rnd.same (o : OkW p n W) {u v : List (List Int)} (hu : Base p n W u) (ru : Red u) (r : Rnd p n W B id u v) : v = u ↔ v.length = u.length :=
  ⟨fun e => by rw [e], fun e => (canon_unique o hu ru r.base r.red r.up ((base_le o hu r.base r.up).2 (by omega))).symm⟩
theorem rnd_of (o : OkW p n W) (q : OkB p n B) {u L v : List (List Int)} (c : Canon p n W L v) (h1 : ∀ x ∈ u, Gen p n W L (at_ x)) (h2 : ∀ f g, Gen p n W u f → (id ∨ Gen p n W u g) → Gen p n W L (brv B n f g))
    (h3 : ∀ S, IsSub p n W S → (∀ x ∈ u, S (at_ x)) → Shut B n id S → ∀ x ∈ L, S (at_ x)) : Rnd p n W B id u v :=
  ⟨c.base, c.red, fun f hf => (c.gen f).1 (gen_mono h1 hf), fun f g hf hg => (c.gen _).1 (h2 f g hf hg), fun S hS hu hs f hf => gen_le hS (h3 S hS hu hs) ((c.gen f).2 hf)⟩
theorem brL_mem {u w : List (List Int)} {z : List Int} : z ∈ brL p W B n u w ↔ ∃ x ∈ u, ∃ y ∈ w, z = br p W B n x y := by
  constructor
  · intro h
    obtain ⟨x, hx, h⟩ := List.mem_flatMap.1 h
    obtain ⟨y, hy, rfl⟩ := List.mem_map.1 h
    exact ⟨x, hx, y, hy, rfl⟩
  · rintro ⟨x, hx, y, hy, rfl⟩
    exact List.mem_flatMap.2 ⟨x, hx, List.mem_map.2 ⟨y, hy, rfl⟩⟩
theorem shut_br (o : OkW p n W) (q : OkB p n B) {S : Vec → Prop} (hS : IsSub p n W S) (hs : Shut B n id S) {x y : List Int} (hx : S (at_ x)) (hy : id ∨ S (at_ y)) : S (at_ (br p W B n x y)) := hS.eqv _ _ (br_eqv o q x y) (hs _ _ hx hy)
def wl (n : Nat) (id : Prop) (w : List (List Int)) : Prop := (id ∧ w = units n) ∨ (¬ id ∧ w = [])
theorem rnd_impl (o : OkW p n W) (q : OkB p n B) (nf : NoFault p W B n) {u w v : List (List Int)} (hw : wl n id w) (c : Canon p n W (u ++ brL p W B n u (u ++ w)) v) : Rnd p n W B id u v := by
  refine rnd_of o q c (fun x hx => gen_mem (by simp [hx])) (fun f g hf hg => ?_) fun S hS hu hs x hx => ?_
  · rcases hg with hi | hg
    · rcases hw with ⟨_, rfl⟩ | ⟨h, _⟩
      · refine gen_sublist (fun z hz => ?_) (gen_br o q nf hf g)
        obtain ⟨x, hx, y, hy, rfl⟩ := brL_mem.1 hz
        exact List.mem_append_right _ (brL_mem.2 ⟨x, hx, y, List.mem_append_right _ hy, rfl⟩)
      · exact absurd hi h
    · refine gen_sublist (fun z hz => ?_) (gen_brL o q nf hf hg)
      obtain ⟨x, hx, y, hy, rfl⟩ := brL_mem.1 hz
      exact List.mem_append_right _ (brL_mem.2 ⟨x, hx, y, List.mem_append_left _ hy, rfl⟩)
  · rcases List.mem_append.1 hx with h | h
    · exact hu x h
    · obtain ⟨x', hx', y, hy, rfl⟩ := brL_mem.1 h
      refine shut_br o q hS hs (hu x' hx') ?_
      rcases List.mem_append.1 hy with e | e
      · exact .inr (hu y e)
      · rcases hw with ⟨hi, _⟩ | ⟨_, rfl⟩
        · exact .inl hi
        · cases e
theorem rnd_spec (o : OkW p n W) (q : OkB p n B) (nf : NoFault p W B n) {u w b v : List (List Int)} (hw : (id ∧ w = units n) ∨ (¬ id ∧ w = u)) (cb : Canon p n W (brL p W B n u w) b) (c : Canon p n W (u ++ b) v) : Rnd p n W B id u v := by
  have hb : ∀ {f}, Gen p n W (brL p W B n u w) f → Gen p n W (u ++ b) f := fun {f} hf => gen_sublist (fun z hz => List.mem_append_right _ hz) ((cb.gen f).1 hf)
  refine rnd_of o q c (fun x hx => gen_mem (by simp [hx])) (fun f g hf hg => ?_) fun S hS hu hs x hx => ?_
  · rcases hw with ⟨hi, rfl⟩ | ⟨hi, rfl⟩
    · exact hb (gen_br o q nf hf g)
    · rcases hg with h | h
      · exact absurd h hi
      · exact hb (gen_brL o q nf hf h)
  · rcases List.mem_append.1 hx with h | h
    · exact hu x h
    · refine gen_le hS (fun z hz => ?_) ((cb.gen _).2 (gen_mem h))
      obtain ⟨x, hx, y, hy, rfl⟩ := brL_mem.1 hz
      refine shut_br o q hS hs (hu x hx) ?_
      rcases hw with ⟨hi, rfl⟩ | ⟨hi, rfl⟩
      · exact .inl hi
      · exact .inr (hu y hy)
theorem ring_ideal (o : OkW p n W) {gens r i s : List (List Int)} (a : ClsOf p n W B False gens r) (b : ClsOf p n W B True gens i) (c : Canon p n W (r ++ i) s) : s = i := by
  have hs : Shut B n False (Gen p n W i) := fun f g hf hg => b.clo f g hf (.inl trivial)
  have hri : ∀ x ∈ r, Gen p n W i (at_ x) := fun x hx => a.low _ (gen_sub i) b.mem hs _ (gen_mem hx)
  refine canon_unique o c.base c.red b.base b.red (fun f hf => ?_) (fun f hf => (c.gen f).1 (gen_sublist (fun z hz => List.mem_append_right _ hz) hf))
  refine gen_mono (fun x hx => ?_) ((c.gen f).2 hf)
  rcases List.mem_append.1 hx with h | h
  · exact hri x h
  · exact gen_mem h
theorem ring_sub (o : OkW p n W) (q : OkB p n B) {gens r : List (List Int)} (a : ClsOf p n W B id gens r) {x y : List Int} (hx : x ∈ r) (hy : y ∈ r) : Gen p n W r (at_ (br p W B n x y)) :=
  (gen_sub r).eqv _ _ (br_eqv o q x y) (a.clo _ _ (gen_mem hx) (.inr (gen_mem hy)))
def Cent (p : Int) (n : Nat) (W : List (List Int)) (B : List (List (List Int))) (u : List (List Int)) (f : Vec) : Prop := ∀ y ∈ u, Eqv p n W (brv B n f (at_ y)) fun _ => 0
theorem cent_sub (o : OkW p n W) (q : OkB p n B) (nf : NoFault p W B n) (u : List (List Int)) : IsSub p n W (Cent p n W B u) := by
  refine ⟨fun y hy => Eqv.of_eq fun t => ?_, fun f f' h h' y hy => ?_, fun k f h y hy => ?_, fun f f' h h' y hy => (brv_eqv o q nf _ h).trans (h' y hy)⟩
  · have := brv_mul (B := B) (n := n) 0 (fun _ => 0) (at_ y) t
    simpa using this
  · exact (Eqv.of_eq fun t => brv_add f f' (at_ y) t).trans (((h y hy).add (h' y hy)).trans (Eqv.of_eq fun t => by omega))
  · exact (Eqv.of_eq fun t => brv_mul k f (at_ y) t).trans (((h y hy).mul k).trans (Eqv.of_eq fun t => by omega))
theorem cent_shut (o : OkW p n W) (q : OkB p n B) (nf : NoFault p W B n) (u : List (List Int)) : Shut B n False (Cent p n W B u) := by
  intro f g hf hg y hy
  have hg := hg.resolve_left id
  have j := jac_zero o q nf f g (at_ y)
  have z : ∀ (h : Vec) {k : Vec}, Eqv p n W k (fun _ => 0) → Eqv p n W (brv B n k h) fun _ => 0 := fun h {k} e => (brv_eqv o q nf h e).trans (Eqv.of_eq fun t => by
    have := brv_mul (B := B) (n := n) 0 (fun _ => 0) h t
    simpa using this)
  have e1 := z f (hg y hy)
  have e2 : Eqv p n W (brv B n (brv B n (at_ y) f) g) fun _ => 0 := by
    refine z g ((Eqv.of_eq fun t => brv_anti (at_ y) f t).trans (((hf y hy).mul (-1)).trans (Eqv.of_eq fun t => by omega)))
  have e3 := (e1.add e2).mul (-1)
  exact (Eqv.of_eq fun t => by show _ = jac B n f g (at_ y) t + -1 * (brv B n (brv B n g (at_ y)) f t + brv B n (brv B n (at_ y) f) g t); unfold jac; omega).trans ((j.add e3).trans (Eqv.of_eq fun t => by omega))
def cz (p : Int) (n : Nat) (W : List (List Int)) (B : List (List (List Int))) (u : List (List Int)) (x : List Int) : Prop := ∀ y ∈ u, ∀ j, at_ (br p W B n x y) j = 0
theorem eqv0_el (o : OkW p n W) {x : List Int} (hx : El p n x) : (∀ j, at_ x j = 0) ↔ Eqv p n W (at_ x) fun _ => 0 := by
  refine ⟨fun h => Eqv.of_eq h, fun h j => ?_⟩
  rcases Nat.lt_or_ge j n with g | g
  · exact eqv_zero o hx h (Nat.le_refl _) (fun _ _ => rfl) j g
  · exact hx.beyond g
theorem cz_iff (o : OkW p n W) (q : OkB p n B) {u : List (List Int)} {x : List Int} : cz p n W B u x ↔ Cent p n W B u (at_ x) :=
  ⟨fun h y hy => ((br_eqv o q x y).symm.trans (Eqv.of_eq (h y hy))), fun h y hy => (eqv0_el o (br_el o q)).2 ((br_eqv o q x y).trans (h y hy))⟩
theorem centralizer {P : Nat} (hP : 0 < P) (hp : p = (P : Int)) (o : OkW p n W) (q : OkB p n B) (nf : NoFault p W B n) {u c L : List (List Int)} (hc : Canon p n W L c) (hL : ∀ x, x ∈ L ↔ x ∈ allE P n ∧ cz p n W B u x) :
    (∀ x ∈ c, ∀ y ∈ c, Gen p n W c (at_ (br p W B n x y))) ∧ ∀ x ∈ u, ∀ y ∈ c, ∀ j, at_ (br p W B n x y) j = 0 := by
  subst hp
  have h1 : ∀ f, Gen _ n W c f → Cent _ n W B u f := fun f hf => gen_le (cent_sub o q nf u) (fun x hx => (cz_iff o q).1 ((hL x).1 hx).2) ((hc.gen f).2 hf)
  refine ⟨fun x hx y hy => ?_, fun x hx y hy => ?_⟩
  · have hb := cent_shut o q nf u _ _ (h1 _ (gen_mem hx)) (.inr (h1 _ (gen_mem hy)))
    refine (hc.gen _).1 (gen_mem ((hL _).2 ⟨el_all hP (br_el o q), (cz_iff o q).2 ((cent_sub o q nf u).eqv _ _ (br_eqv o q x y) hb)⟩))
  · refine (eqv0_el o (br_el o q)).2 ((br_eqv o q x y).trans ((Eqv.of_eq fun t => brv_anti (at_ x) (at_ y) t).trans (((h1 _ (gen_mem hy) x hx).mul (-1)).trans (Eqv.of_eq fun t => by omega))))
end Go.Proofs
namespace Go.Proofs
open Go.Ab Go.Lie
variable {σ : PHeap} {K : PV → PHeap → Prop} {p : Int} {n : Nat} {W : List (List Int)} {B : List (List (List Int))} {vP vB vL vU vV vX : PV} {s : Nat} {u v gens : List (List Int)} {id : Prop}
theorem Cat2_ok {wM : Bool} {aM : AV} (hU : FII vU u) (hV : FII vV v) (hl : u.length + v.length ≤ 1048576) (hk : ∀ z, FII z (u ++ v) → K z σ) : PCalls Tryz.prog 132 [.fz wM aM 2 [vU, vV]] σ K := by
  obtain ⟨wu, au, ru, rfl, hru⟩ := hU
  obtain ⟨wv, av, rv, rfl, hrv⟩ := hV
  have e1 := hru.1
  have e2 := hrv.1
  refine ConcatC_ok (M := [ru, rv]) (((All2.nil FC).snoc ⟨wu, au, by rw [e1]⟩).snoc ⟨wv, av, by rw [e2]⟩) (fun c hc => ?_) (by simp) (by simp [e1, e2]; omega) fun a => ?_
  · simp only [List.mem_cons, List.not_mem_nil, or_false] at hc
    rcases hc with rfl | rfl
    · exact hru.bI 0
    · exact hrv.bI 0
  · have hf : [ru, rv].flatten = ru ++ rv := by simp
    rw [hf]
    have hl2 : (ru ++ rv).length = (u ++ v).length := by simp [e1, e2]
    exact hk _ ⟨true, a, ru ++ rv, by rw [hl2], hru.append hrv⟩
def isSpan (p : Int) (W : List (List Int)) (u : List (List Int)) : Prop := Els p W.length u ∧ Canon p W.length W u u
theorem isZ_of {xs : List Int} (h : ∀ j, at_ xs j = 0) : isZ xs := fun x hx => by
  obtain ⟨j, hj, rfl⟩ := List.mem_iff_getElem.1 hx
  rw [← at_eq hj]; exact h j
theorem canon_span {L : List (List Int)} (c : Canon p W.length W L u) : isSpan p W u := ⟨c.els, c.self⟩
theorem Grw.canon (g : Grw p n W B id gens u) : Canon p n W u u := ⟨g.base, g.red, fun f => Iff.rfl⟩
theorem szl_els (o : OkW p n W) (he : Els p n u) (hl : u.length ≤ 1048576) : SzL u := ⟨hl, fun x hx => by rw [(he x hx).1]; have := o.le; omega⟩
theorem areLieSpans_ok {us : List (List (List Int))} {wL : Bool} {aL : AV} {rL : List PV} (hs : PtrR σ s p vP vB) (hR : IsR vP vB W B) (szr : SzR W B) (hL : All2 FII rL us) (hul : us.length ≤ 2) (hne : us ≠ []) (sz : ∀ u ∈ us, SzL u)
    (hk : ∀ t : Bool, (t = true ↔ isLie p W B ∧ ∀ u ∈ us, isSpan p W u) → K (.bool t) σ) : PCalls Tryz.prog 127 [.ptr s 0, .fz wL aL us.length rL] σ K := by
  have fl : ∀ {A : Prop}, ¬ A → ((false = true) ↔ A) := fun h => ⟨fun x => (by cases x), fun x => absurd x h⟩
  have hPP := hR.P
  obtain ⟨wp, ap, rp, rfl, hrp⟩ := hR.P
  refine pcalls_of_vp mix Tryz.func127 cf127 rfl ?_
  dsimp only [if127, qI, eI, nI, qD, eD]
  simp only [pwA, if_true, if_false, eq_self, nm_eq, reduceCtorEq, ↓reduceIte, nQ10, nQ7, nQ11, nQ12, nQ16, nQ17, nQ18, iQ2, iQ3, iQ4, iQ5, iQ6, lQ19, iQ7, lQ20]
  refine vp_loop (fun m vs h' => ∃ i : Nat, i ≤ us.length ∧ m = us.length - i ∧ vs = [.ptr s 0, .fz wL aL us.length rL, .int .i64 us.length, .int .i64 i] ∧ σ = h' ∧ ∀ j (h : j < us.length), j < i → isLie p W B ∧ isSpan p W us[j]) us.length ⟨0, by omega, by omega, rfl, rfl, fun j h hj => by omega⟩ ?_
  rintro m vs h' ⟨i, hi, rfl, rfl, rfl, hall⟩
  simp only [pwA, if_true, if_false, eq_self, nm_eq, reduceCtorEq, ↓reduceIte, nQ10, nQ7, nQ11, nQ12, nQ16, nQ17, nQ18, iQ2, iQ3, iQ4, iQ5, iQ6, lQ19, iQ7, lQ20]
  refine iteI (fun hlt => ?_) fun hge => ?_
  rotate_left
  · have hie : i = us.length := by omega
    have hr3 : σ.rd s 0 3 = some [.int .i64 p, .fz wp ap W.length rp, vB] := by rw [obj_rd hs.obj]; rfl
    simp only [pwA, if_true, if_false, eq_self, nm_eq, reduceCtorEq, ↓reduceIte, nQ10, nQ7, nQ11, nQ12, nQ16, nQ17, nQ18, iQ2, iQ3, iQ4, iQ5, iQ6, lQ19, iQ7, lQ20, hr3]
    refine IsLieRing_ok hR szr fun t ht => ?_
    simp only [pwA, if_true, if_false, eq_self, nm_eq, reduceCtorEq, ↓reduceIte, nQ10, nQ7, nQ11, nQ12, nQ16, nQ17, nQ18, iQ2, iQ3, iQ4, iQ5, iQ6, lQ19, iQ7, lQ20]
    refine hk _ ⟨fun e => ⟨ht.1 e, fun x hx => ?_⟩, fun x => ht.2 x.1⟩
    obtain ⟨j, hj, rfl⟩ := List.mem_iff_getElem.1 hx
    exact (hall j hj (by omega)).2
  obtain ⟨w4, a4, rs, hr, hrs⟩ := hL.rowL hlt
  have hF : FII (.fz w4 a4 us[i].length rs) us[i] := ⟨w4, a4, rs, rfl, hrs⟩
  have szi := sz _ (List.getElem_mem hlt)
  have r1 : σ.rd1 s 1 = some (.fz wp ap W.length rp) := by rw [obj_rd1 hs.obj]; rfl
  have bad : ¬ (isLie p W B ∧ isSpan p W us[i]) → ¬ (isLie p W B ∧ ∀ u ∈ us, isSpan p W u) := fun h x => h ⟨x.1, x.2 _ (List.getElem_mem hlt)⟩
  by_cases hg : W.length < us[i].length
  · have hg' : (us[i].length : Int) > (W.length : Int) := by omega
    have hg'' : (W.length : Int) < (us[i].length : Int) := by omega
    simp only [pwA, if_true, if_false, eq_self, nm_eq, reduceCtorEq, ↓reduceIte, nQ10, nQ7, nQ11, nQ12, nQ16, nQ17, nQ18, iQ2, iQ3, iQ4, iQ5, iQ6, lQ19, iQ7, lQ20, hlt, hr, r1, hg', hg'', decide_true]
    exact hk _ (fl (bad fun x => by have := x.2.2.len; omega))
  have hg' : ¬ (us[i].length : Int) > (W.length : Int) := by omega
  have hg'' : ¬ (W.length : Int) < (us[i].length : Int) := by omega
  simp only [pwA, if_true, if_false, eq_self, nm_eq, reduceCtorEq, ↓reduceIte, nQ10, nQ7, nQ11, nQ12, nQ16, nQ17, nQ18, iQ2, iQ3, iQ4, iQ5, iQ6, lQ19, iQ7, lQ20, hlt, hr, r1, hg', hg'', decide_false]
  refine lieElements_ok hs hR szr hF szi fun t ht => ?_
  cases t with
  | false =>
    simp only [pwA, if_true, if_false, eq_self, nm_eq, reduceCtorEq, ↓reduceIte, nQ10, nQ7, nQ11, nQ12, nQ16, nQ17, nQ18, iQ2, iQ3, iQ4, iQ5, iQ6, lQ19, iQ7, lQ20]
    exact hk _ (fl (bad fun x => by have := ht.2 ⟨x.1, x.2.1⟩; cases this))
  | true =>
  obtain ⟨hl, he⟩ := ht.1 rfl
  have o := hl.1.w
  simp only [pwA, if_true, if_false, eq_self, nm_eq, reduceCtorEq, ↓reduceIte, nQ10, nQ7, nQ11, nQ12, nQ16, nQ17, nQ18, iQ2, iQ3, iQ4, iQ5, iQ6, lQ19, iQ7, lQ20]
  refine lieSpan_ok hs hPP o hl.1.1 hF he szi.l fun vO out c hO => ?_
  simp only [pwA, if_true, if_false, eq_self, nm_eq, reduceCtorEq, ↓reduceIte, nQ10, nQ7, nQ11, nQ12, nQ16, nQ17, nQ18, iQ2, iQ3, iQ4, iQ5, iQ6, lQ19, iQ7, lQ20]
  have hn6 := o.le
  have hol := c.len
  have hiff : (out = us[i]) ↔ isSpan p W us[i] := ⟨fun e => by rw [e] at c; exact ⟨he, c⟩, fun x => c.unique o x.2⟩
  refine sameRows_ok hO hF (by omega) (fun x hx => by rw [(c.els x hx).1]; omega) fun t ht => ?_
  cases t with
  | false =>
    simp only [pwA, if_true, if_false, eq_self, nm_eq, reduceCtorEq, ↓reduceIte, nQ10, nQ7, nQ11, nQ12, nQ16, nQ17, nQ18, iQ2, iQ3, iQ4, iQ5, iQ6, lQ19, iQ7, lQ20]
    exact hk _ (fl (bad fun x => by have := ht.2 (hiff.2 x.2); cases this))
  | true =>
  simp only [pwA, if_true, if_false, eq_self, nm_eq, reduceCtorEq, ↓reduceIte, nQ10, nQ7, nQ11, nQ12, nQ16, nQ17, nQ18, iQ2, iQ3, iQ4, iQ5, iQ6, lQ19, iQ7, lQ20, wrapS hlt (by omega : us.length ≤ 4611686018427387904)]
  refine ⟨_, by omega, i + 1, by omega, rfl, rfl, fun j h hj => ?_⟩
  by_cases e : j = i
  · subst e; exact ⟨hl, hiff.1 (ht.1 rfl)⟩
  · exact hall j h (by omega)
theorem bracketsIn_ok {x y : List (List Int)} {vY : PV} (hs : PtrR σ s p vP vB) (hR : IsR vP vB W B) (o : OkW p n W) (q : OkB p n B) (hX : FII vX x) (hY : FII vY y) (hU : FII vU u) (ex : Els p n x) (ey : Els p n y) (hxl : x.length ≤ 6) (hyl : y.length ≤ 6) (hb : Base p n W u)
    (hk : ∀ t : Bool, (t = true ↔ ∀ a ∈ x, ∀ b ∈ y, Gen p n W u (at_ (br p W B n a b))) → K (.bool t) σ) : PCalls Tryz.prog 128 [.ptr s 0, vX, vY, vU] σ K := by
  have fl : ∀ {A : Prop}, ¬ A → ((false = true) ↔ A) := fun h => ⟨fun x => (by cases x), fun x => absurd x h⟩
  have hn6 := o.le
  have hul : u.length ≤ n := asc_length (fun v hv => (hb.led v hv).2.1) hb.asc
  refine pcalls_of_vp mix Tryz.func128 cf128 rfl ?_
  dsimp only [if128, qI, eI, nI, qD, eD]
  simp only [pwA, if_true, if_false, eq_self, nm_eq, reduceCtorEq, ↓reduceIte, nQ10, nQ7, nQ11, nQ12, nQ16, nQ17, nQ18, iQ2, iQ3, iQ4, iQ5, iQ6, lQ19, iQ7, lQ20]
  refine brackets_ok hs hR o q hX hY ex ey hxl hyl fun vZ hZ => ?_
  have ez := brL_els o q x y
  have hlz : (brL p W B n x y).length ≤ 36 := by
    rw [brL_length]
    have : x.length * y.length ≤ 6 * 6 := Nat.mul_le_mul hxl hyl
    omega
  have hiff : (∀ a ∈ x, ∀ b ∈ y, Gen p n W u (at_ (br p W B n a b))) ↔ ∀ z ∈ brL p W B n x y, Gen p n W u (at_ z) := ⟨fun h z hz => by
    obtain ⟨a, ha, b, hb, rfl⟩ := brL_mem.1 hz
    exact h a ha b hb, fun h a ha b hb => h _ (brL_mem.2 ⟨a, ha, b, hb, rfl⟩)⟩
  rw [hiff] at hk
  clear hiff
  generalize brL p W B n x y = Z at *
  obtain ⟨wz, az, rz, rfl, hrz⟩ := hZ
  simp only [pwA, if_true, if_false, eq_self, nm_eq, reduceCtorEq, ↓reduceIte, nQ10, nQ7, nQ11, nQ12, nQ16, nQ17, nQ18, iQ2, iQ3, iQ4, iQ5, iQ6, lQ19, iQ7, lQ20]
  refine vp_loop (fun m vs h' => ∃ i : Nat, i ≤ Z.length ∧ m = Z.length - i ∧ vs = [.ptr s 0, vU, .fz wz az Z.length rz, .int .i64 Z.length, .int .i64 i] ∧ σ = h' ∧ ∀ j (h : j < Z.length), j < i → Gen p n W u (at_ Z[j])) Z.length ⟨0, by omega, by omega, rfl, rfl, fun j h hj => by omega⟩ ?_
  rintro m vs h' ⟨i, hi, rfl, rfl, rfl, hall⟩
  simp only [pwA, if_true, if_false, eq_self, nm_eq, reduceCtorEq, ↓reduceIte, nQ10, nQ7, nQ11, nQ12, nQ16, nQ17, nQ18, iQ2, iQ3, iQ4, iQ5, iQ6, lQ19, iQ7, lQ20]
  refine iteI (fun hlt => ?_) fun hge => ?_
  rotate_left
  · have hie : i = Z.length := by omega
    refine hk _ ⟨fun _ z hz => ?_, fun _ => rfl⟩
    obtain ⟨j, hj, rfl⟩ := List.mem_iff_getElem.1 hz
    exact hall j hj (by omega)
  obtain ⟨w4, a4, hr⟩ := hrz.rowI hlt
  have hzi := ez _ (List.getElem_mem hlt)
  simp only [pwA, if_true, if_false, eq_self, nm_eq, reduceCtorEq, ↓reduceIte, nQ10, nQ7, nQ11, nQ12, nQ16, nQ17, nQ18, iQ2, iQ3, iQ4, iQ5, iQ6, lQ19, iQ7, lQ20, hlt, hr]
  refine reduceLie_ok hs hR.P o hU (fun v hv => ⟨(hb.led v hv).1, (hb.led v hv).2.1⟩) (by omega) hzi rfl fun v1 => ?_
  simp only [pwA, if_true, if_false, eq_self, nm_eq, reduceCtorEq, ↓reduceIte, nQ10, nQ7, nQ11, nQ12, nQ16, nQ17, nQ18, iQ2, iQ3, iQ4, iQ5, iQ6, lQ19, iQ7, lQ20]
  have hrl := (redL_el o hb.els hzi).1
  have hin := redL_in o hb hzi
  refine isZero_ok hrl.symm (by omega) ?_
  by_cases hz0 : isZ (redL p W u Z[i])
  · simp only [pwA, if_true, if_false, eq_self, nm_eq, reduceCtorEq, ↓reduceIte, nQ10, nQ7, nQ11, nQ12, nQ16, nQ17, nQ18, iQ2, iQ3, iQ4, iQ5, iQ6, lQ19, iQ7, lQ20, hz0, decide_true, wrapS hlt (by omega : Z.length ≤ 4611686018427387904)]
    refine ⟨_, by omega, i + 1, by omega, rfl, rfl, fun j h hj => ?_⟩
    by_cases e : j = i
    · subst e; exact hin.1 (isZ_at hz0)
    · exact hall j h (by omega)
  · simp only [pwA, if_true, if_false, eq_self, nm_eq, reduceCtorEq, ↓reduceIte, nQ10, nQ7, nQ11, nQ12, nQ16, nQ17, nQ18, iQ2, iQ3, iQ4, iQ5, iQ6, lQ19, iQ7, lQ20, hz0, decide_false]
    refine hk _ (fl fun x => hz0 ?_)
    have := hin.2 (x _ (List.getElem_mem hlt))
    exact isZ_of fun j => this j
theorem lieClosure_ok {ws : List (List Int)} (hs : PtrR σ s p vP vB) (hR : IsR vP vB W B) (o : OkW p n W) (q : OkB p n B) (nf : NoFault p W B n) (hp : isP p) (hL : FII vL gens) (he : Els p n gens) (hgl : gens.length ≤ 1048576) (hV : FII vV ws) (hw : wl n id ws)
    (hk : ∀ v u, ClsOf p n W B id gens u → FII v u → K v σ) : PCalls Tryz.prog 124 [.ptr s 0, vL, vV] σ K := by
  have hn6 := o.le
  have ews : Els p n ws := by
    rcases hw with ⟨_, rfl⟩ | ⟨_, rfl⟩
    · exact units_els o.pr
    · intro x hx; cases hx
  have hwl : ws.length ≤ 6 := by
    rcases hw with ⟨_, rfl⟩ | ⟨_, rfl⟩
    · rw [units_length]; omega
    · simp
  refine PCalls.gh ?_
  refine pcalls_of_vp mix Tryz.func124 cf124 rfl ?_
  dsimp only [if124, qI, eI, nI, qD, eD]
  simp only [pwA, if_true, if_false, eq_self, nm_eq, reduceCtorEq, ↓reduceIte, nQ10, nQ7, nQ11, nQ12, nQ16, nQ17, nQ18, iQ2, iQ3, iQ4, iQ5, iQ6, lQ19, iQ7, lQ20]
  refine lieSpan_ok hs hR.P o hp hL he hgl fun vU u c hU => ?_
  simp only [pwA, if_true, if_false, eq_self, nm_eq, reduceCtorEq, ↓reduceIte, nQ10, nQ7, nQ11, nQ12, nQ16, nQ17, nQ18, iQ2, iQ3, iQ4, iQ5, iQ6, lQ19, iQ7, lQ20]
  refine vp_loop (fun m us h => ∃ vU u, m = n - u.length ∧ us = [.ptr s 0, vV, vU] ∧ Keep σ h ∧ FII vU u ∧ Grw p n W B id gens u) (n - u.length) ⟨vU, u, rfl, rfl, Keep.refl σ, hU, Grw.start c⟩ ?_
  clear c hU u vU
  rintro m us h ⟨vU, u, rfl, rfl, hkp, hU, hg⟩
  have hul := hg.len o
  have eu := hg.base.els
  have hlt := hs.lt
  have hnx := hkp.next
  simp only [pwA, if_true, if_false, eq_self, nm_eq, reduceCtorEq, ↓reduceIte, nQ10, nQ7, nQ11, nQ12, nQ16, nQ17, nQ18, iQ2, iQ3, iQ4, iQ5, iQ6, lQ19, iQ7, lQ20, hU.one, hU.cells, hV.one, hV.cells]
  refine PCalls.frz (s := h.next) (cs := [vU, vV]) (by simp only [pwA, if_true, if_false, eq_self, nm_eq, reduceCtorEq, ↓reduceIte, nQ10, nQ7, nQ11, nQ12, nQ16, nQ17, nQ18, iQ2, iQ3, iQ4, iQ5, iQ6, lQ19, iQ7, lQ20]) ⟨hU.bel 0, hV.bel 0, trivial⟩ fun o1 => ?_
  have k1 : Keep σ ((h.new [vU, vV]).kill h.next) := (hkp.new _).kill (by omega)
  have n1 : ((h.new [vU, vV]).kill h.next).next = h.next + 1 := rfl
  generalize (h.new [vU, vV]).kill h.next = H1 at *
  simp only [sbs, sb, capOK, and_self, if_true, decide_true, Nat.le_refl]
  refine Cat2_ok hU hV (by omega) fun vX hX => ?_
  have ex : Els p n (u ++ ws) := fun x hx => by
    rcases List.mem_append.1 hx with e | e
    · exact eu x e
    · exact ews x e
  simp only [pwA, if_true, if_false, eq_self, nm_eq, reduceCtorEq, ↓reduceIte, nQ10, nQ7, nQ11, nQ12, nQ16, nQ17, nQ18, iQ2, iQ3, iQ4, iQ5, iQ6, lQ19, iQ7, lQ20]
  refine brackets_ok' (hs.keep k1) hR o q hU hX eu ex (by omega) (by rw [List.length_append]; omega) fun vY hY => ?_
  have ey := brL_els o q u (u ++ ws)
  have hyl : (brL p W B n u (u ++ ws)).length ≤ 72 := by
    rw [brL_length, List.length_append]
    have : u.length * (u.length + ws.length) ≤ 6 * 12 := Nat.mul_le_mul (by omega) (by omega)
    omega
  simp only [pwA, if_true, if_false, eq_self, nm_eq, reduceCtorEq, ↓reduceIte, nQ10, nQ7, nQ11, nQ12, nQ16, nQ17, nQ18, iQ2, iQ3, iQ4, iQ5, iQ6, lQ19, iQ7, lQ20, hU.one, hU.cells, hY.one, hY.cells]
  refine PCalls.frz (s := H1.next) (cs := [vU, vY]) (by simp only [pwA, if_true, if_false, eq_self, nm_eq, reduceCtorEq, ↓reduceIte, nQ10, nQ7, nQ11, nQ12, nQ16, nQ17, nQ18, iQ2, iQ3, iQ4, iQ5, iQ6, lQ19, iQ7, lQ20]) ⟨hU.bel 0, hY.bel 0, trivial⟩ fun o2 => ?_
  have k2 : Keep σ ((H1.new [vU, vY]).kill H1.next) := (k1.new _).kill (by omega)
  generalize (H1.new [vU, vY]).kill H1.next = H2 at *
  simp only [sbs, sb, capOK, and_self, if_true, decide_true, Nat.le_refl]
  refine Cat2_ok hU hY (by omega) fun vZ hZ => ?_
  simp only [pwA, if_true, if_false, eq_self, nm_eq, reduceCtorEq, ↓reduceIte, nQ10, nQ7, nQ11, nQ12, nQ16, nQ17, nQ18, iQ2, iQ3, iQ4, iQ5, iQ6, lQ19, iQ7, lQ20]
  refine lieSpan_ok (hs.keep k2) hR.P o hp hZ (fun x hx => by
    rcases List.mem_append.1 hx with e | e
    · exact eu x e
    · exact ey x e) (by rw [List.length_append]; omega) fun vO out c hO => ?_
  have r := rnd_impl o q nf hw c
  have hol := c.len
  simp only [pwA, if_true, if_false, eq_self, nm_eq, reduceCtorEq, ↓reduceIte, nQ10, nQ7, nQ11, nQ12, nQ16, nQ17, nQ18, iQ2, iQ3, iQ4, iQ5, iQ6, lQ19, iQ7, lQ20]
  refine sameRows_ok hO hU (by omega) (fun x hx => by rw [(c.els x hx).1]; omega) fun t ht => ?_
  have hsame := r.same o hg.base hg.red
  cases t with
  | true =>
    simp only [pwA, if_true, if_false, eq_self, nm_eq, reduceCtorEq, ↓reduceIte, nQ10, nQ7, nQ11, nQ12, nQ16, nQ17, nQ18, iQ2, iQ3, iQ4, iQ5, iQ6, lQ19, iQ7, lQ20]
    exact Gh.fin0 k2 (hU.bel _) (hk vU u (hg.done o r (by rw [ht.1 rfl]; exact Nat.le_refl _)) hU)
  | false =>
    have hne : out.length ≠ u.length := fun e => by have := ht.2 (hsame.2 e); cases this
    have hless := hg.less o r hne
    simp only [pwA, if_true, if_false, eq_self, nm_eq, reduceCtorEq, ↓reduceIte, nQ10, nQ7, nQ11, nQ12, nQ16, nQ17, nQ18, iQ2, iQ3, iQ4, iQ5, iQ6, lQ19, iQ7, lQ20]
    exact ⟨n - out.length, by omega, vO, out, rfl, rfl, k2, hO, hg.next r⟩
end Go.Proofs
namespace Go.Proofs
open Go.Ab Go.Lie
variable {σ : PHeap} {K : PV → PHeap → Prop} {p : Int} {n : Nat} {W : List (List Int)} {B : List (List (List Int))} {vP vB vL vU vV vX : PV} {s : Nat} {u v gens : List (List Int)} {id : Prop}
theorem lieWith_ok {f : FuncId} {caps : List PV} {good : List Int → Prop} {P : Nat} (hs : PtrR σ s p vP vB) (hP : FII vP W) (o : OkW p n W) (hp : isP p) (hpP : p = (P : Int)) (hb : P ^ n ≤ 729) (hf : okF Tryz.prog f = true)
    (hc : ∀ {h : PHeap} {x : List Int} {v : PV} {K' : PV → PHeap → Prop}, Keep σ h → El p n x → FI v x → (∀ t : Bool, (t = true ↔ good x) → K' (.bool t) h) → PCalls Tryz.prog f ([] ++ [v] ++ caps) h K')
    (hk : ∀ v out L, Canon p n W L out → (∀ x, x ∈ L ↔ x ∈ allE P n ∧ good x) → FII v out → K v σ) : PCalls Tryz.prog 216 [.ptr s 0, .clo f [] caps] σ K := by
  have hn6 := o.le
  have hpb := hp.bd
  refine PCalls.gh ?_
  refine pcalls_of_vp mix Tryz.func216 cf216 rfl ?_
  dsimp only [if216, qI, eI, nI, qD, eD]
  simp only [pwA, if_true, if_false, eq_self, nm_eq, reduceCtorEq, ↓reduceIte, nQ10, nQ7, nQ11, nQ12, nQ16, nQ17, nQ18, iQ2, iQ3, iQ4, iQ5, iQ6, lQ19, iQ7, lQ20]
  refine allLie_ok hs hP o.len hn6 hpP (by omega) hb fun vA hA => ?_
  obtain ⟨wa, aa, ra, rfl, hra⟩ := hA
  have hAl := allE_length P n
  have hAe : ∀ x ∈ allE P n, El p n x := fun x hx => by rw [hpP]; exact all_el (by omega) hx
  generalize allE P n = A at *
  simp only [pwA, if_true, if_false, eq_self, nm_eq, reduceCtorEq, ↓reduceIte, nQ10, nQ7, nQ11, nQ12, nQ16, nQ17, nQ18, iQ2, iQ3, iQ4, iQ5, iQ6, lQ19, iQ7, lQ20]
  refine vp_loop (fun m us h => ∃ (i : Nat) (vL : PV) (L : List (List Int)) (rows : List PV), i ≤ A.length ∧ m = A.length - i ∧ us = [.ptr s 0, .clo f [] caps, vL, .fz wa aa A.length ra, .int .i64 A.length, .int .i64 i] ∧ Keep σ h ∧ PAcc σ.next 1 h vL L.length rows ∧ All2 FI rows L ∧ L.length ≤ i ∧ ∀ x, x ∈ L ↔ x ∈ A.take i ∧ good x) A.length ?_ ?_
  · exact ⟨0, _, [], [], by omega, by omega, rfl, Keep.refl σ, PAcc.nil _ _ _, All2.nil _, Nat.le_refl _, fun x => by simp⟩
  rintro m us h ⟨i, vL, L, rows, hi, rfl, rfl, hkp, ha, hrows, hLi, hmem⟩
  simp only [pwA, if_true, if_false, eq_self, nm_eq, reduceCtorEq, ↓reduceIte, nQ10, nQ7, nQ11, nQ12, nQ16, nQ17, nQ18, iQ2, iQ3, iQ4, iQ5, iQ6, lQ19, iQ7, lQ20]
  refine iteI (fun hlt => ?_) fun hge => ?_
  rotate_left
  · have hie : i = A.length := by omega
    subst hie
    rw [List.take_length] at hmem
    have eL : Els p n L := fun x hx => hAe x ((hmem x).1 hx).1
    have fin : ∀ {g : PHeap} {v : PV} {Q : PV → PHeap → Prop}, Keep σ g → FII v L → (∀ w, Gh σ K w g → Q w g) → PCalls Tryz.prog 131 [.ptr s 0, v] g Q := fun {g v Q} kg hv hQ =>
      lieSpan_ok (hs.keep kg) hP o hp hv eL (by omega) fun v' out c hO => hQ _ (Gh.fin0 kg (hO.bel _) (hk v' out L c hmem hO))
    rcases ha with ⟨rfl, h1, h2⟩ | ⟨t, cap, rfl, hcp, q2, q3, q4, q5⟩
    · have hL0 : L = [] := List.eq_nil_of_length_eq_zero h1
      subst hL0
      simp only [pwA, if_true, if_false, eq_self, nm_eq, reduceCtorEq, ↓reduceIte, nQ10, nQ7, nQ11, nQ12, nQ16, nQ17, nQ18, iQ2, iQ3, iQ4, iQ5, iQ6, lQ19, iQ7, lQ20]
      refine fin hkp ⟨true, .nils, [], rfl, All2.nil _⟩ fun w hg => ?_
      simp only [pwA, if_true, if_false, eq_self, nm_eq, reduceCtorEq, ↓reduceIte, nQ10, nQ7, nQ11, nQ12, nQ16, nQ17, nQ18, iQ2, iQ3, iQ4, iQ5, iQ6, lQ19, iQ7, lQ20]
      exact hg
    · have hst : s < σ.next := hs.lt
      have hne : s ≠ t := by omega
      simp only [pwA, if_true, if_false, eq_self, nm_eq, reduceCtorEq, ↓reduceIte, nQ10, nQ7, nQ11, nQ12, nQ16, nQ17, nQ18, iQ2, iQ3, iQ4, iQ5, iQ6, lQ19, iQ7, lQ20]
      refine PCalls.frz q2 (hrows.bI 0) fun o1 => ?_
      simp only [sbs, sb, hcp.ok, and_self, if_true, hne, false_and, if_false]
      refine fin (hkp.kill q4) ⟨true, _, rows, rfl, hrows⟩ fun w hg => ?_
      simp only [pwA, if_true, if_false, eq_self, nm_eq, reduceCtorEq, ↓reduceIte, nQ10, nQ7, nQ11, nQ12, nQ16, nQ17, nQ18, iQ2, iQ3, iQ4, iQ5, iQ6, lQ19, iQ7, lQ20]
      exact hg
  obtain ⟨w4, a4, hr⟩ := hra.rowI hlt
  have hxe := hAe _ (List.getElem_mem hlt)
  have htk : A.take (i + 1) = A.take i ++ [A[i]] := List.take_succ_eq_append_getElem hlt
  simp only [pwA, if_true, if_false, eq_self, nm_eq, reduceCtorEq, ↓reduceIte, nQ10, nQ7, nQ11, nQ12, nQ16, nQ17, nQ18, iQ2, iQ3, iQ4, iQ5, iQ6, lQ19, iQ7, lQ20, hlt, hr, hf]
  refine hc hkp hxe ⟨w4, a4, rfl⟩ fun t ht => ?_
  cases t with
  | false =>
    have hng : ¬ good A[i] := fun g => by have := ht.2 g; cases this
    simp only [pwA, if_true, if_false, eq_self, nm_eq, reduceCtorEq, ↓reduceIte, nQ10, nQ7, nQ11, nQ12, nQ16, nQ17, nQ18, iQ2, iQ3, iQ4, iQ5, iQ6, lQ19, iQ7, lQ20, wrapS hlt (by omega : A.length ≤ 4611686018427387904)]
    refine ⟨_, by omega, i + 1, vL, L, rows, by omega, rfl, rfl, hkp, ha, hrows, by omega, fun x => ?_⟩
    rw [htk, List.mem_append, List.mem_singleton, hmem]
    exact ⟨fun h => ⟨.inl h.1, h.2⟩, fun h => ⟨h.1.resolve_right (fun e => hng (by rw [← e]; exact h.2)), h.2⟩⟩
  | true =>
    have hg := ht.1 rfl
    simp only [pwA, if_true, if_false, eq_self, nm_eq, reduceCtorEq, ↓reduceIte, nQ10, nQ7, nQ11, nQ12, nQ16, nQ17, nQ18, iQ2, iQ3, iQ4, iQ5, iQ6, lQ19, iQ7, lQ20]
    refine PAcc.push (bytes := 24) hkp ha (by omega) (by omega) fun v' h2 k2 a2 => ?_
    simp only [pwA, if_true, if_false, eq_self, nm_eq, reduceCtorEq, ↓reduceIte, nQ10, nQ7, nQ11, nQ12, nQ16, nQ17, nQ18, iQ2, iQ3, iQ4, iQ5, iQ6, lQ19, iQ7, lQ20, wrapS hlt (by omega : A.length ≤ 4611686018427387904)]
    refine ⟨_, by omega, i + 1, v', L ++ [A[i]], _, by omega, rfl, rfl, k2, by rw [List.length_append]; exact a2.acc, hrows.snoc ⟨w4, a4, rfl⟩, by rw [List.length_append]; exact Nat.succ_le_succ hLi, fun x => ?_⟩
    rw [htk, List.mem_append, List.mem_append, List.mem_singleton, hmem]
    refine ⟨fun h => ?_, fun h => ?_⟩
    · rcases h with h | h
      · exact ⟨.inl h.1, h.2⟩
      · exact ⟨.inr h, by rw [h]; exact hg⟩
    · rcases h.1 with h1 | h1
      · exact .inl ⟨h1, h.2⟩
      · exact .inr h1
theorem lieAbove1_ok {x : List Int} {vx : PV} {b1 b2 b3 : Nat} (hs : PtrR σ s p vP vB) (hR : IsR vP vB W B) (o : OkW p n W) (q : OkB p n B) (h1 : σ.rd1 b1 0 = some (.ptr s 0)) (h2 : σ.rd1 b2 0 = some vV) (h3 : σ.rd1 b3 0 = some vU) (hx : FI vx x) (ex : El p n x) (hV : FII vV v) (hU : FII vU u) (ev : Els p n v) (hvl : v.length ≤ 6) (hb : Base p n W u) (hbn : b1 < σ.next ∧ b2 < σ.next ∧ b3 < σ.next)
    (hk : ∀ t : Bool, (t = true ↔ ∀ b ∈ v, Gen p n W u (at_ (br p W B n x b))) → K (.bool t) σ) : PCalls Tryz.prog 217 [vx, .ptr b1 0, .ptr b2 0, .ptr b3 0] σ K := by
  refine PCalls.gh ?_
  refine pcalls_of_vp mix Tryz.func217 cf217 rfl ?_
  dsimp only [if217, qI, eI, nI, qD, eD]
  have r1 : (σ.new [vx]).rd1 b1 0 = some (.ptr s 0) := by rw [(keep_new σ _).rd1 hbn.1]; exact h1
  have r2 : (σ.new [vx]).rd1 b2 0 = some vV := by rw [(keep_new σ _).rd1 hbn.2.1]; exact h2
  have r3 : (σ.new [vx]).rd1 b3 0 = some vU := by rw [(keep_new σ _).rd1 hbn.2.2]; exact h3
  have hlt := hs.lt
  have hne : s ≠ σ.next := by omega
  have hn1 : ¬ b1 = σ.next := by omega
  have hn2 : ¬ b2 = σ.next := by omega
  have hn3 : ¬ b3 = σ.next := by omega
  simp only [pwA, if_true, if_false, eq_self, nm_eq, reduceCtorEq, ↓reduceIte, nQ10, nQ7, nQ11, nQ12, nQ16, nQ17, nQ18, iQ2, iQ3, iQ4, iQ5, iQ6, lQ19, iQ7, lQ20, h1, h2, h3, r1, r2, r3, hx.one, hx.cells, hn1, hn2, hn3]
  refine PCalls.frz (s := σ.next) (cs := [vx]) (by simp only [pwA, if_true, if_false, eq_self, nm_eq, reduceCtorEq, ↓reduceIte, nQ10, nQ7, nQ11, nQ12, nQ16, nQ17, nQ18, iQ2, iQ3, iQ4, iQ5, iQ6, lQ19, iQ7, lQ20]) ⟨hx.bel 0, trivial⟩ fun o1 => ?_
  have k1 : Keep σ ((σ.new [vx]).kill σ.next) := (keep_new σ _).kill (Nat.le_refl _)
  have e1 := hU.sb σ.next o1 [vx]
  have e2 := hV.sb σ.next o1 [vx]
  generalize (σ.new [vx]).kill σ.next = H at *
  simp only [sbs, sb, capOK, and_self, if_true, decide_true, Nat.le_refl, e1, e2, hne, false_and, if_false]
  refine bracketsIn_ok (hs.keep k1) hR o q (one_row hx) hV hU (fun y hy => by rw [List.mem_singleton.1 hy]; exact ex) ev (by simp) hvl hb fun t ht => ?_
  simp only [pwA, if_true, if_false, eq_self, nm_eq, reduceCtorEq, ↓reduceIte, nQ10, nQ7, nQ11, nQ12, nQ16, nQ17, nQ18, iQ2, iQ3, iQ4, iQ5, iQ6, lQ19, iQ7, lQ20]
  refine Gh.fin0 k1 trivial (hk t ?_)
  rw [ht]
  exact ⟨fun h => h x (by simp), fun h a ha => by rw [List.mem_singleton.1 ha]; exact h⟩
theorem lieAbove_ok {P : Nat} (hs : PtrR σ s p vP vB) (hR : IsR vP vB W B) (o : OkW p n W) (q : OkB p n B) (hp : isP p) (hpP : p = (P : Int)) (hb : P ^ n ≤ 729) (hU : FII vU u) (hV : FII vV v) (ev : Els p n v) (hvl : v.length ≤ 6) (hbu : Base p n W u)
    (hk : ∀ w out L, Canon p n W L out → (∀ x, x ∈ L ↔ x ∈ allE P n ∧ ∀ b ∈ v, Gen p n W u (at_ (br p W B n x b))) → FII w out → K w σ) : PCalls Tryz.prog 133 [.ptr s 0, vU, vV] σ K := by
  refine PCalls.gh ?_
  refine pcalls_of_vp mix Tryz.func133 cf133 rfl ?_
  dsimp only [if133, qI, eI, nI, qD, eD]
  simp only [pwA, if_true, if_false, eq_self, nm_eq, reduceCtorEq, ↓reduceIte, nQ10, nQ7, nQ11, nQ12, nQ16, nQ17, nQ18, iQ2, iQ3, iQ4, iQ5, iQ6, lQ19, iQ7, lQ20, hU.one, hU.cells, hV.one, hV.cells]
  have hlt := hs.lt
  have k1 : Keep σ (((σ.new [.ptr s 0]).new [vU]).new [vV]) := ((keep_new σ _).new _).new _
  have q1 : (((σ.new [.ptr s 0]).new [vU]).new [vV]).rd1 σ.next 0 = some (.ptr s 0) := by simp only [pwA, if_true, if_false, eq_self, nm_eq, reduceCtorEq, ↓reduceIte, nQ10, nQ7, nQ11, nQ12, nQ16, nQ17, nQ18, iQ2, iQ3, iQ4, iQ5, iQ6, lQ19, iQ7, lQ20]
  have q2 : (((σ.new [.ptr s 0]).new [vU]).new [vV]).rd1 (σ.next + 1) 0 = some vU := by simp only [pwA, if_true, if_false, eq_self, nm_eq, reduceCtorEq, ↓reduceIte, nQ10, nQ7, nQ11, nQ12, nQ16, nQ17, nQ18, iQ2, iQ3, iQ4, iQ5, iQ6, lQ19, iQ7, lQ20]
  have q3 : (((σ.new [.ptr s 0]).new [vU]).new [vV]).rd1 (σ.next + 2) 0 = some vV := by simp only [pwA, if_true, if_false, eq_self, nm_eq, reduceCtorEq, ↓reduceIte, nQ10, nQ7, nQ11, nQ12, nQ16, nQ17, nQ18, iQ2, iQ3, iQ4, iQ5, iQ6, lQ19, iQ7, lQ20]
  have hn : (((σ.new [.ptr s 0]).new [vU]).new [vV]).next = σ.next + 3 := rfl
  generalize ((σ.new [.ptr s 0]).new [vU]).new [vV] = H at *
  refine lieWith_ok (good := fun x => ∀ b ∈ v, Gen p n W u (at_ (br p W B n x b))) (hs.keep k1) hR.P o hp hpP hb (by kernel_rfl) (fun {h x vx K'} hkp hx hvx hk' => ?_) fun w out L c hL hO => ?_
  · have hnx := hkp.next
    exact lieAbove1_ok (hs.keep (k1.trans hkp)) hR o q (by rw [hkp.rd1 (by omega)]; exact q1) (by rw [hkp.rd1 (by omega)]; exact q3) (by rw [hkp.rd1 (by omega)]; exact q2) hvx hx hV hU ev hvl hbu ⟨by omega, by omega, by omega⟩ hk'
  · simp only [pwA, if_true, if_false, eq_self, nm_eq, reduceCtorEq, ↓reduceIte, nQ10, nQ7, nQ11, nQ12, nQ16, nQ17, nQ18, iQ2, iQ3, iQ4, iQ5, iQ6, lQ19, iQ7, lQ20]
    exact Gh.fin0 k1 (hO.bel _) (hk w out L c hL hO)
theorem ipowN (P : Nat) : ∀ k, ipow (P : Int) k = ((P ^ k : Nat) : Int)
  | 0 => rfl
  | k + 1 => by rw [ipow, ipowN P k, Nat.pow_succ]; push_cast; rfl
def LsV (ok : Prop) (R : List (List Int) → Prop) (z : List (List Int)) (c : Int) : Prop := (¬ ok ∧ z = [] ∧ c = 1) ∨ (ok ∧ R z ∧ c = 0)
theorem LsV.yes {ok : Prop} {R : List (List Int) → Prop} {z : List (List Int)} {c : Int} (h : LsV ok R z c) (g : ok) : R z ∧ c = 0 := by
  rcases h with ⟨h1, _⟩ | ⟨_, h2⟩
  · exact absurd g h1
  · exact h2
theorem LsV.no {ok : Prop} {R : List (List Int) → Prop} {z : List (List Int)} {c : Int} (h : LsV ok R z c) (g : ¬ ok) : z = [] ∧ c = 1 := by
  rcases h with ⟨h1, h2⟩ | ⟨h1, _⟩
  · exact h2
  · exact absurd h1 g
theorem nil_FII : FII (.fz true .nils 0 []) [] := ⟨true, .nils, [], rfl, All2.nil _⟩
theorem SubringOf_F (hR : IsR vP vB W B) (szr : SzR W B) (hL : FII vL gens) (sz : SzL gens)
    (hk : ∀ v z c, LsV (isLie p W B ∧ Els p W.length gens) (ClsOf p W.length W B False gens) z c → FII v z → K (.tup [v, .int .i64 c]) σ) : PCalls Tryz.prog 43 [.agg [.int .i64 p, vP, vB], vL] σ K := by
  have h1 := hR.P.one
  have h2 := hR.B.one
  refine PCalls.gh ?_
  refine pcalls_of_vp mix Tryz.func43 cf43 rfl ?_
  dsimp only [if43, qI, eI, nI, qD, eD]
  simp only [pwA, if_true, if_false, eq_self, nm_eq, reduceCtorEq, ↓reduceIte, nQ10, nQ7, nQ11, nQ12, nQ16, nQ17, nQ18, iQ2, iQ3, iQ4, iQ5, iQ6, lQ19, iQ7, lQ20, h1, h2]
  have hkp : Keep σ (σ.new [.int .i64 p, vP, vB]) := keep_new σ _
  have hp2 : PtrR (σ.new [.int .i64 p, vP, vB]) σ.next p vP vB := ⟨by simp only [pwA, if_true, if_false, eq_self, nm_eq, reduceCtorEq, ↓reduceIte, nQ10, nQ7, nQ11, nQ12, nQ16, nQ17, nQ18, iQ2, iQ3, iQ4, iQ5, iQ6, lQ19, iQ7, lQ20], Nat.lt_succ_self _⟩
  generalize σ.new [.int .i64 p, vP, vB] = H at *
  refine lieElements_ok hp2 hR szr hL sz fun t ht => ?_
  cases t with
  | false =>
    simp only [pwA, if_true, if_false, eq_self, nm_eq, reduceCtorEq, ↓reduceIte, nQ10, nQ7, nQ11, nQ12, nQ16, nQ17, nQ18, iQ2, iQ3, iQ4, iQ5, iQ6, lQ19, iQ7, lQ20]
    exact Gh.fin0 hkp ⟨trivial, trivial, trivial⟩ (hk _ [] 1 (.inl ⟨fun e => (by have := ht.2 e; cases this), rfl, rfl⟩) nil_FII)
  | true =>
  have hl := ht.1 rfl
  simp only [pwA, if_true, if_false, eq_self, nm_eq, reduceCtorEq, ↓reduceIte, nQ10, nQ7, nQ11, nQ12, nQ16, nQ17, nQ18, iQ2, iQ3, iQ4, iQ5, iQ6, lQ19, iQ7, lQ20]
  refine lieClosure_ok (id := False) hp2 hR hl.1.1.w hl.1.1.b hl.1.2 hl.1.1.1 hL hl.2 sz.l nil_FII (.inr ⟨fun h => h, rfl⟩) fun v z c hz => ?_
  simp only [pwA, if_true, if_false, eq_self, nm_eq, reduceCtorEq, ↓reduceIte, nQ10, nQ7, nQ11, nQ12, nQ16, nQ17, nQ18, iQ2, iQ3, iQ4, iQ5, iQ6, lQ19, iQ7, lQ20]
  exact Gh.fin0 hkp ⟨hz.bel _, trivial, trivial⟩ (hk v z 0 (.inr ⟨hl, c, rfl⟩) hz)
theorem IdealOf_F (hR : IsR vP vB W B) (szr : SzR W B) (hL : FII vL gens) (sz : SzL gens)
    (hk : ∀ v z c, LsV (isLie p W B ∧ Els p W.length gens) (ClsOf p W.length W B True gens) z c → FII v z → K (.tup [v, .int .i64 c]) σ) : PCalls Tryz.prog 46 [.agg [.int .i64 p, vP, vB], vL] σ K := by
  have h1 := hR.P.one
  have h2 := hR.B.one
  refine PCalls.gh ?_
  refine pcalls_of_vp mix Tryz.func46 cf46 rfl ?_
  dsimp only [if46, qI, eI, nI, qD, eD]
  simp only [pwA, if_true, if_false, eq_self, nm_eq, reduceCtorEq, ↓reduceIte, nQ10, nQ7, nQ11, nQ12, nQ16, nQ17, nQ18, iQ2, iQ3, iQ4, iQ5, iQ6, lQ19, iQ7, lQ20, h1, h2]
  have hkp : Keep σ (σ.new [.int .i64 p, vP, vB]) := keep_new σ _
  have hp2 : PtrR (σ.new [.int .i64 p, vP, vB]) σ.next p vP vB := ⟨by simp only [pwA, if_true, if_false, eq_self, nm_eq, reduceCtorEq, ↓reduceIte, nQ10, nQ7, nQ11, nQ12, nQ16, nQ17, nQ18, iQ2, iQ3, iQ4, iQ5, iQ6, lQ19, iQ7, lQ20], Nat.lt_succ_self _⟩
  generalize σ.new [.int .i64 p, vP, vB] = H at *
  refine lieElements_ok hp2 hR szr hL sz fun t ht => ?_
  cases t with
  | false =>
    simp only [pwA, if_true, if_false, eq_self, nm_eq, reduceCtorEq, ↓reduceIte, nQ10, nQ7, nQ11, nQ12, nQ16, nQ17, nQ18, iQ2, iQ3, iQ4, iQ5, iQ6, lQ19, iQ7, lQ20]
    exact Gh.fin0 hkp ⟨trivial, trivial, trivial⟩ (hk _ [] 1 (.inl ⟨fun e => (by have := ht.2 e; cases this), rfl, rfl⟩) nil_FII)
  | true =>
  have hl := ht.1 rfl
  simp only [pwA, if_true, if_false, eq_self, nm_eq, reduceCtorEq, ↓reduceIte, nQ10, nQ7, nQ11, nQ12, nQ16, nQ17, nQ18, iQ2, iQ3, iQ4, iQ5, iQ6, lQ19, iQ7, lQ20]
  refine wholeLie_ok hp2 hR.P rfl (by have := hl.1.1.w.le; omega) fun vW hW => ?_
  simp only [pwA, if_true, if_false, eq_self, nm_eq, reduceCtorEq, ↓reduceIte, nQ10, nQ7, nQ11, nQ12, nQ16, nQ17, nQ18, iQ2, iQ3, iQ4, iQ5, iQ6, lQ19, iQ7, lQ20]
  refine lieClosure_ok (id := True) hp2 hR hl.1.1.w hl.1.1.b hl.1.2 hl.1.1.1 hL hl.2 sz.l hW (.inl ⟨trivial, rfl⟩) fun v z c hz => ?_
  simp only [pwA, if_true, if_false, eq_self, nm_eq, reduceCtorEq, ↓reduceIte, nQ10, nQ7, nQ11, nQ12, nQ16, nQ17, nQ18, iQ2, iQ3, iQ4, iQ5, iQ6, lQ19, iQ7, lQ20]
  exact Gh.fin0 hkp ⟨hz.bel _, trivial, trivial⟩ (hk v z 0 (.inr ⟨hl, c, rfl⟩) hz)
theorem IsSubring_F (hR : IsR vP vB W B) (szr : SzR W B) (hU : FII vU u) (sz : SzL u)
    (hk : ∀ (t : Bool) (c : Int), ((¬ (isLie p W B ∧ isSpan p W u) ∧ t = false ∧ c = 1) ∨ ((isLie p W B ∧ isSpan p W u) ∧ (t = true ↔ ∀ x ∈ u, ∀ y ∈ u, Gen p W.length W u (at_ (br p W B W.length x y))) ∧ c = 0)) → K (.tup [.bool t, .int .i64 c]) σ) : PCalls Tryz.prog 45 [.agg [.int .i64 p, vP, vB], vU] σ K := by
  have h1 := hR.P.one
  have h2 := hR.B.one
  refine PCalls.gh ?_
  refine pcalls_of_vp mix Tryz.func45 cf45 rfl ?_
  dsimp only [if45, qI, eI, nI, qD, eD]
  simp only [pwA, if_true, if_false, eq_self, nm_eq, reduceCtorEq, ↓reduceIte, nQ10, nQ7, nQ11, nQ12, nQ16, nQ17, nQ18, iQ2, iQ3, iQ4, iQ5, iQ6, lQ19, iQ7, lQ20, h1, h2, hU.one, hU.cells]
  refine PCalls.frz (s := σ.next + 1) (cs := [vU]) (by simp only [pwA, if_true, if_false, eq_self, nm_eq, reduceCtorEq, ↓reduceIte, nQ10, nQ7, nQ11, nQ12, nQ16, nQ17, nQ18, iQ2, iQ3, iQ4, iQ5, iQ6, lQ19, iQ7, lQ20]) ⟨hU.bel 0, trivial⟩ fun o1 => ?_
  have hkp : Keep σ (((σ.new [.int .i64 p, vP, vB]).new [vU]).kill (σ.next + 1)) := ((keep_new σ _).new _).kill (by omega)
  have hp2 : PtrR (((σ.new [.int .i64 p, vP, vB]).new [vU]).kill (σ.next + 1)) σ.next p vP vB := ⟨by simp only [pwA, if_true, if_false, eq_self, nm_eq, reduceCtorEq, ↓reduceIte, nQ10, nQ7, nQ11, nQ12, nQ16, nQ17, nQ18, iQ2, iQ3, iQ4, iQ5, iQ6, lQ19, iQ7, lQ20], by simp only [pwA, if_true, if_false, eq_self, nm_eq, reduceCtorEq, ↓reduceIte, nQ10, nQ7, nQ11, nQ12, nQ16, nQ17, nQ18, iQ2, iQ3, iQ4, iQ5, iQ6, lQ19, iQ7, lQ20]; omega⟩
  generalize ((σ.new [.int .i64 p, vP, vB]).new [vU]).kill (σ.next + 1) = H at *
  simp only [sbs, sb, capOK, and_self, if_true, decide_true, Nat.le_refl]
  refine areLieSpans_ok (us := [u]) hp2 hR szr ((All2.nil FII).snoc hU) (by simp) (by simp) (fun x hx => by rw [List.mem_singleton.1 hx]; exact sz) fun t ht => ?_
  have ht' : t = true ↔ isLie p W B ∧ isSpan p W u := by rw [ht]; simp
  cases t with
  | false =>
    simp only [pwA, if_true, if_false, eq_self, nm_eq, reduceCtorEq, ↓reduceIte, nQ10, nQ7, nQ11, nQ12, nQ16, nQ17, nQ18, iQ2, iQ3, iQ4, iQ5, iQ6, lQ19, iQ7, lQ20]
    exact Gh.fin0 hkp ⟨trivial, trivial, trivial⟩ (hk false 1 (.inl ⟨fun e => (by have := ht'.2 e; cases this), rfl, rfl⟩))
  | true =>
  have hl := ht'.1 rfl
  have o := hl.1.1.w
  have hn6 := o.le
  have hul := hl.2.2.len
  simp only [pwA, if_true, if_false, eq_self, nm_eq, reduceCtorEq, ↓reduceIte, nQ10, nQ7, nQ11, nQ12, nQ16, nQ17, nQ18, iQ2, iQ3, iQ4, iQ5, iQ6, lQ19, iQ7, lQ20]
  refine bracketsIn_ok hp2 hR o hl.1.1.b hU hU hU hl.2.1 hl.2.1 (by omega) (by omega) hl.2.2.base fun t ht => ?_
  simp only [pwA, if_true, if_false, eq_self, nm_eq, reduceCtorEq, ↓reduceIte, nQ10, nQ7, nQ11, nQ12, nQ16, nQ17, nQ18, iQ2, iQ3, iQ4, iQ5, iQ6, lQ19, iQ7, lQ20]
  exact Gh.fin0 hkp ⟨trivial, trivial, trivial⟩ (hk t 0 (.inr ⟨hl, ht, rfl⟩))
theorem SumLie_F (hR : IsR vP vB W B) (szr : SzR W B) (hU : FII vU u) (sz : SzL u) (hV : FII vV v) (szv : SzL v)
    (hk : ∀ w z c, LsV (isLie p W B ∧ isSpan p W u ∧ isSpan p W v) (Canon p W.length W (u ++ v)) z c → FII w z → K (.tup [w, .int .i64 c]) σ) : PCalls Tryz.prog 48 [.agg [.int .i64 p, vP, vB], vU, vV] σ K := by
  have h1 := hR.P.one
  have h2 := hR.B.one
  refine PCalls.gh ?_
  refine pcalls_of_vp mix Tryz.func48 cf48 rfl ?_
  dsimp only [if48, qI, eI, nI, qD, eD]
  simp only [pwA, if_true, if_false, eq_self, nm_eq, reduceCtorEq, ↓reduceIte, nQ10, nQ7, nQ11, nQ12, nQ16, nQ17, nQ18, iQ2, iQ3, iQ4, iQ5, iQ6, lQ19, iQ7, lQ20, h1, h2, hU.one, hU.cells, hV.one, hV.cells]
  refine PCalls.frz (s := σ.next + 1) (cs := [vU, vV]) (by simp only [pwA, if_true, if_false, eq_self, nm_eq, reduceCtorEq, ↓reduceIte, nQ10, nQ7, nQ11, nQ12, nQ16, nQ17, nQ18, iQ2, iQ3, iQ4, iQ5, iQ6, lQ19, iQ7, lQ20]) ⟨hU.bel 0, hV.bel 0, trivial⟩ fun o1 => ?_
  have hkp : Keep σ (((σ.new [.int .i64 p, vP, vB]).new [vU, vV]).kill (σ.next + 1)) := ((keep_new σ _).new _).kill (by omega)
  have hp2 : PtrR (((σ.new [.int .i64 p, vP, vB]).new [vU, vV]).kill (σ.next + 1)) σ.next p vP vB := ⟨by simp only [pwA, if_true, if_false, eq_self, nm_eq, reduceCtorEq, ↓reduceIte, nQ10, nQ7, nQ11, nQ12, nQ16, nQ17, nQ18, iQ2, iQ3, iQ4, iQ5, iQ6, lQ19, iQ7, lQ20], by simp only [pwA, if_true, if_false, eq_self, nm_eq, reduceCtorEq, ↓reduceIte, nQ10, nQ7, nQ11, nQ12, nQ16, nQ17, nQ18, iQ2, iQ3, iQ4, iQ5, iQ6, lQ19, iQ7, lQ20]; omega⟩
  generalize ((σ.new [.int .i64 p, vP, vB]).new [vU, vV]).kill (σ.next + 1) = H at *
  simp only [sbs, sb, capOK, and_self, if_true, decide_true, Nat.le_refl]
  refine areLieSpans_ok (us := [u, v]) hp2 hR szr (((All2.nil FII).snoc hU).snoc hV) (by simp) (by simp) (fun x hx => by
    simp only [List.mem_cons, List.not_mem_nil, or_false] at hx
    rcases hx with rfl | rfl
    · exact sz
    · exact szv) fun t ht => ?_
  have ht' : t = true ↔ isLie p W B ∧ isSpan p W u ∧ isSpan p W v := by rw [ht]; simp
  cases t with
  | false =>
    simp only [pwA, if_true, if_false, eq_self, nm_eq, reduceCtorEq, ↓reduceIte, nQ10, nQ7, nQ11, nQ12, nQ16, nQ17, nQ18, iQ2, iQ3, iQ4, iQ5, iQ6, lQ19, iQ7, lQ20]
    exact Gh.fin0 hkp ⟨trivial, trivial, trivial⟩ (hk _ [] 1 (.inl ⟨fun e => (by have := ht'.2 e; cases this), rfl, rfl⟩) nil_FII)
  | true =>
  have hl := ht'.1 rfl
  have o := hl.1.1.w
  have hn6 := o.le
  have hul := hl.2.1.2.len
  have hvl := hl.2.2.2.len
  have hpl := hp2.lt
  have hnx := hkp.next
  simp only [pwA, if_true, if_false, eq_self, nm_eq, reduceCtorEq, ↓reduceIte, nQ10, nQ7, nQ11, nQ12, nQ16, nQ17, nQ18, iQ2, iQ3, iQ4, iQ5, iQ6, lQ19, iQ7, lQ20, hU.one, hU.cells, hV.one, hV.cells]
  refine PCalls.frz (s := H.next) (cs := [vU, vV]) (by simp only [pwA, if_true, if_false, eq_self, nm_eq, reduceCtorEq, ↓reduceIte, nQ10, nQ7, nQ11, nQ12, nQ16, nQ17, nQ18, iQ2, iQ3, iQ4, iQ5, iQ6, lQ19, iQ7, lQ20]) ⟨hU.bel 0, hV.bel 0, trivial⟩ fun o2 => ?_
  have k2 : Keep H ((H.new [vU, vV]).kill H.next) := (keep_new H _).kill (Nat.le_refl _)
  generalize (H.new [vU, vV]).kill H.next = H2 at *
  simp only [sbs, sb, capOK, and_self, if_true, decide_true, Nat.le_refl]
  refine Cat2_ok hU hV (by omega) fun vZ hZ => ?_
  simp only [pwA, if_true, if_false, eq_self, nm_eq, reduceCtorEq, ↓reduceIte, nQ10, nQ7, nQ11, nQ12, nQ16, nQ17, nQ18, iQ2, iQ3, iQ4, iQ5, iQ6, lQ19, iQ7, lQ20]
  refine lieSpan_ok (hp2.keep k2) hR.P o hl.1.1.1 hZ (fun x hx => by
    rcases List.mem_append.1 hx with e | e
    · exact hl.2.1.1 x e
    · exact hl.2.2.1 x e) (by rw [List.length_append]; omega) fun w z c hz => ?_
  simp only [pwA, if_true, if_false, eq_self, nm_eq, reduceCtorEq, ↓reduceIte, nQ10, nQ7, nQ11, nQ12, nQ16, nQ17, nQ18, iQ2, iQ3, iQ4, iQ5, iQ6, lQ19, iQ7, lQ20]
  exact Gh.fin0 (hkp.trans k2) ⟨hz.bel _, trivial, trivial⟩ (hk w z 0 (.inr ⟨hl, c, rfl⟩) hz)
theorem BracketLie_F (hR : IsR vP vB W B) (szr : SzR W B) (hU : FII vU u) (sz : SzL u) (hV : FII vV v) (szv : SzL v)
    (hk : ∀ w z c, LsV (isLie p W B ∧ isSpan p W u ∧ isSpan p W v) (Canon p W.length W (brL p W B W.length u v)) z c → FII w z → K (.tup [w, .int .i64 c]) σ) : PCalls Tryz.prog 51 [.agg [.int .i64 p, vP, vB], vU, vV] σ K := by
  have h1 := hR.P.one
  have h2 := hR.B.one
  refine PCalls.gh ?_
  refine pcalls_of_vp mix Tryz.func51 cf51 rfl ?_
  dsimp only [if51, qI, eI, nI, qD, eD]
  simp only [pwA, if_true, if_false, eq_self, nm_eq, reduceCtorEq, ↓reduceIte, nQ10, nQ7, nQ11, nQ12, nQ16, nQ17, nQ18, iQ2, iQ3, iQ4, iQ5, iQ6, lQ19, iQ7, lQ20, h1, h2, hU.one, hU.cells, hV.one, hV.cells]
  refine PCalls.frz (s := σ.next + 1) (cs := [vU, vV]) (by simp only [pwA, if_true, if_false, eq_self, nm_eq, reduceCtorEq, ↓reduceIte, nQ10, nQ7, nQ11, nQ12, nQ16, nQ17, nQ18, iQ2, iQ3, iQ4, iQ5, iQ6, lQ19, iQ7, lQ20]) ⟨hU.bel 0, hV.bel 0, trivial⟩ fun o1 => ?_
  have hkp : Keep σ (((σ.new [.int .i64 p, vP, vB]).new [vU, vV]).kill (σ.next + 1)) := ((keep_new σ _).new _).kill (by omega)
  have hp2 : PtrR (((σ.new [.int .i64 p, vP, vB]).new [vU, vV]).kill (σ.next + 1)) σ.next p vP vB := ⟨by simp only [pwA, if_true, if_false, eq_self, nm_eq, reduceCtorEq, ↓reduceIte, nQ10, nQ7, nQ11, nQ12, nQ16, nQ17, nQ18, iQ2, iQ3, iQ4, iQ5, iQ6, lQ19, iQ7, lQ20], by simp only [pwA, if_true, if_false, eq_self, nm_eq, reduceCtorEq, ↓reduceIte, nQ10, nQ7, nQ11, nQ12, nQ16, nQ17, nQ18, iQ2, iQ3, iQ4, iQ5, iQ6, lQ19, iQ7, lQ20]; omega⟩
  generalize ((σ.new [.int .i64 p, vP, vB]).new [vU, vV]).kill (σ.next + 1) = H at *
  simp only [sbs, sb, capOK, and_self, if_true, decide_true, Nat.le_refl]
  refine areLieSpans_ok (us := [u, v]) hp2 hR szr (((All2.nil FII).snoc hU).snoc hV) (by simp) (by simp) (fun x hx => by
    simp only [List.mem_cons, List.not_mem_nil, or_false] at hx
    rcases hx with rfl | rfl
    · exact sz
    · exact szv) fun t ht => ?_
  have ht' : t = true ↔ isLie p W B ∧ isSpan p W u ∧ isSpan p W v := by rw [ht]; simp
  cases t with
  | false =>
    simp only [pwA, if_true, if_false, eq_self, nm_eq, reduceCtorEq, ↓reduceIte, nQ10, nQ7, nQ11, nQ12, nQ16, nQ17, nQ18, iQ2, iQ3, iQ4, iQ5, iQ6, lQ19, iQ7, lQ20]
    exact Gh.fin0 hkp ⟨trivial, trivial, trivial⟩ (hk _ [] 1 (.inl ⟨fun e => (by have := ht'.2 e; cases this), rfl, rfl⟩) nil_FII)
  | true =>
  have hl := ht'.1 rfl
  have o := hl.1.1.w
  have q := hl.1.1.b
  have hn6 := o.le
  have hul := hl.2.1.2.len
  have hvl := hl.2.2.2.len
  simp only [pwA, if_true, if_false, eq_self, nm_eq, reduceCtorEq, ↓reduceIte, nQ10, nQ7, nQ11, nQ12, nQ16, nQ17, nQ18, iQ2, iQ3, iQ4, iQ5, iQ6, lQ19, iQ7, lQ20]
  refine brackets_ok hp2 hR o q hU hV hl.2.1.1 hl.2.2.1 (by omega) (by omega) fun vZ hZ => ?_
  simp only [pwA, if_true, if_false, eq_self, nm_eq, reduceCtorEq, ↓reduceIte, nQ10, nQ7, nQ11, nQ12, nQ16, nQ17, nQ18, iQ2, iQ3, iQ4, iQ5, iQ6, lQ19, iQ7, lQ20]
  refine lieSpan_ok hp2 hR.P o hl.1.1.1 hZ (brL_els o q u v) (by
    rw [brL_length]
    have : u.length * v.length ≤ 6 * 6 := Nat.mul_le_mul (by omega) (by omega)
    omega) fun w z c hz => ?_
  simp only [pwA, if_true, if_false, eq_self, nm_eq, reduceCtorEq, ↓reduceIte, nQ10, nQ7, nQ11, nQ12, nQ16, nQ17, nQ18, iQ2, iQ3, iQ4, iQ5, iQ6, lQ19, iQ7, lQ20]
  exact Gh.fin0 hkp ⟨hz.bel _, trivial, trivial⟩ (hk w z 0 (.inr ⟨hl, c, rfl⟩) hz)
def CzL (p : Int) (W : List (List Int)) (B : List (List (List Int))) (u c : List (List Int)) : Prop := ∃ (P : Nat) (L : List (List Int)), p = (P : Int) ∧ Canon p W.length W L c ∧ ∀ x, x ∈ L ↔ x ∈ allE P W.length ∧ cz p W.length W B u x
theorem gen_nil_iff (o : OkW p n W) {x : List Int} (hx : El p n x) : Gen p n W [] (at_ x) ↔ ∀ j, at_ x j = 0 :=
  ⟨fun h => (eqv0_el o hx).2 (gen_nil h), fun h => (gen_sub []).eqv _ _ (Eqv.of_eq h) (gen_sub []).zero⟩
theorem LieCentralizer_F (hR : IsR vP vB W B) (szr : SzR W B) (hU : FII vU u) (sz : SzL u)
    (hk : ∀ w z c, LsV (isLie p W B ∧ isSpan p W u) (CzL p W B u) z c → FII w z → K (.tup [w, .int .i64 c]) σ) : PCalls Tryz.prog 49 [.agg [.int .i64 p, vP, vB], vU] σ K := by
  have h1 := hR.P.one
  have h2 := hR.B.one
  refine PCalls.gh ?_
  refine pcalls_of_vp mix Tryz.func49 cf49 rfl ?_
  dsimp only [if49, qI, eI, nI, qD, eD]
  simp only [pwA, if_true, if_false, eq_self, nm_eq, reduceCtorEq, ↓reduceIte, nQ10, nQ7, nQ11, nQ12, nQ16, nQ17, nQ18, iQ2, iQ3, iQ4, iQ5, iQ6, lQ19, iQ7, lQ20, h1, h2, hU.one, hU.cells]
  refine PCalls.frz (s := σ.next + 1) (cs := [vU]) (by simp only [pwA, if_true, if_false, eq_self, nm_eq, reduceCtorEq, ↓reduceIte, nQ10, nQ7, nQ11, nQ12, nQ16, nQ17, nQ18, iQ2, iQ3, iQ4, iQ5, iQ6, lQ19, iQ7, lQ20]) ⟨hU.bel 0, trivial⟩ fun o1 => ?_
  have hkp : Keep σ (((σ.new [.int .i64 p, vP, vB]).new [vU]).kill (σ.next + 1)) := ((keep_new σ _).new _).kill (by omega)
  have hp2 : PtrR (((σ.new [.int .i64 p, vP, vB]).new [vU]).kill (σ.next + 1)) σ.next p vP vB := ⟨by simp only [pwA, if_true, if_false, eq_self, nm_eq, reduceCtorEq, ↓reduceIte, nQ10, nQ7, nQ11, nQ12, nQ16, nQ17, nQ18, iQ2, iQ3, iQ4, iQ5, iQ6, lQ19, iQ7, lQ20], by simp only [pwA, if_true, if_false, eq_self, nm_eq, reduceCtorEq, ↓reduceIte, nQ10, nQ7, nQ11, nQ12, nQ16, nQ17, nQ18, iQ2, iQ3, iQ4, iQ5, iQ6, lQ19, iQ7, lQ20]; omega⟩
  generalize ((σ.new [.int .i64 p, vP, vB]).new [vU]).kill (σ.next + 1) = H at *
  simp only [sbs, sb, capOK, and_self, if_true, decide_true, Nat.le_refl]
  refine areLieSpans_ok (us := [u]) hp2 hR szr ((All2.nil FII).snoc hU) (by simp) (by simp) (fun x hx => by rw [List.mem_singleton.1 hx]; exact sz) fun t ht => ?_
  have ht' : t = true ↔ isLie p W B ∧ isSpan p W u := by rw [ht]; simp
  cases t with
  | false =>
    simp only [pwA, if_true, if_false, eq_self, nm_eq, reduceCtorEq, ↓reduceIte, nQ10, nQ7, nQ11, nQ12, nQ16, nQ17, nQ18, iQ2, iQ3, iQ4, iQ5, iQ6, lQ19, iQ7, lQ20]
    exact Gh.fin0 hkp ⟨trivial, trivial, trivial⟩ (hk _ [] 1 (.inl ⟨fun e => (by have := ht'.2 e; cases this), rfl, rfl⟩) nil_FII)
  | true =>
  have hl := ht'.1 rfl
  have o := hl.1.1.w
  have q := hl.1.1.b
  have hn6 := o.le
  have hul := hl.2.2.len
  have hpb := hl.1.1.1.bd
  obtain ⟨P, hP⟩ := Int.eq_ofNat_of_zero_le (show 0 ≤ p by omega)
  have hpw : P ^ W.length ≤ 729 := by
    have h := hl.1.1.2.2.2.1
    rw [hP, ipowN] at h
    omega
  simp only [pwA, if_true, if_false, eq_self, nm_eq, reduceCtorEq, ↓reduceIte, nQ10, nQ7, nQ11, nQ12, nQ16, nQ17, nQ18, iQ2, iQ3, iQ4, iQ5, iQ6, lQ19, iQ7, lQ20]
  refine lieAbove_ok hp2 hR o q hl.1.1.1 hP hpw nil_FII hU hl.2.1 (by omega) .nil fun w z L c hL hz => ?_
  simp only [pwA, if_true, if_false, eq_self, nm_eq, reduceCtorEq, ↓reduceIte, nQ10, nQ7, nQ11, nQ12, nQ16, nQ17, nQ18, iQ2, iQ3, iQ4, iQ5, iQ6, lQ19, iQ7, lQ20]
  refine Gh.fin0 hkp ⟨hz.bel _, trivial, trivial⟩ (hk w z 0 (.inr ⟨hl, ⟨P, L, hP, c, fun x => ?_⟩, rfl⟩) hz)
  rw [hL]
  refine and_congr_right fun hx => forall_congr' fun b => forall_congr' fun hb => ?_
  exact gen_nil_iff o (br_el o q)
end Go.Proofs
namespace Go.Proofs
open Go.Ab Go.Lie
variable {σ : PHeap} {K : PV → PHeap → Prop} {p : Int} {n : Nat} {W : List (List Int)} {B : List (List (List Int))} {vP vB vL vU vV vX : PV} {s : Nat} {u v gens : List (List Int)} {id : Prop}
theorem l01Same2_ok {xs ys : List (List Int)} (hU : FII vU xs) (hV : FII vV ys) (hx : xs.length ≤ 1048576) (hxl : ∀ x ∈ xs, x.length ≤ 1048576) (hk : ∀ t : Bool, (t = true ↔ xs = ys) → K (.bool t) σ) : PCalls Tryz.prog 218 [vU, vV] σ K := by
  have fl : ∀ {A : Prop}, ¬ A → ((false = true) ↔ A) := fun h => ⟨fun x => (by cases x), fun x => absurd x h⟩
  obtain ⟨wA, aA, rA, rfl, hrA⟩ := hU
  obtain ⟨wB, aB, rB, rfl, hrB⟩ := hV
  refine pcalls_of_vp mix Tryz.func218 cf218 rfl ?_
  dsimp only [if218, qI, eI, nI, qD, eD]
  by_cases hl : xs.length = ys.length
  rotate_left
  · have hl' : ¬ (xs.length : Int) = (ys.length : Int) := by omega
    simp only [pwA, if_true, if_false, eq_self, nm_eq, reduceCtorEq, ↓reduceIte, nQ10, nQ7, nQ11, nQ12, nQ16, nQ17, nQ18, iQ2, iQ3, iQ4, iQ5, iQ6, lQ19, iQ7, lQ20, hl']
    exact hk _ (fl fun h => hl (by rw [h]))
  have hl' : (xs.length : Int) = (ys.length : Int) := by omega
  simp only [pwA, if_true, if_false, eq_self, nm_eq, reduceCtorEq, ↓reduceIte, nQ10, nQ7, nQ11, nQ12, nQ16, nQ17, nQ18, iQ2, iQ3, iQ4, iQ5, iQ6, lQ19, iQ7, lQ20, eq_true hl']
  refine vp_loop (fun m vs h' => ∃ i : Nat, i ≤ xs.length ∧ m = xs.length - i ∧ vs = [.fz wA aA xs.length rA, .fz wB aB ys.length rB, .int .i64 i] ∧ σ = h' ∧ xs.take i = ys.take i) xs.length ?_ ?_
  · exact ⟨0, by omega, by omega, rfl, rfl, rfl⟩
  rintro m vs h' ⟨i, hi, rfl, rfl, rfl, heq⟩
  simp only [pwA, if_true, if_false, eq_self, nm_eq, reduceCtorEq, ↓reduceIte, nQ10, nQ7, nQ11, nQ12, nQ16, nQ17, nQ18, iQ2, iQ3, iQ4, iQ5, iQ6, lQ19, iQ7, lQ20]
  refine iteI (fun hlt => ?_) fun hge => ?_
  rotate_left
  · have hie : i = xs.length := by omega
    subst hie
    rw [List.take_length, hl, List.take_length] at heq
    exact hk _ ⟨fun _ => heq, fun _ => rfl⟩
  have hlt2 : i < ys.length := by omega
  obtain ⟨w4, a4, hr⟩ := hrA.rowI hlt
  obtain ⟨w5, a5, hr2⟩ := hrB.rowI hlt2
  have hb := hxl _ (List.getElem_mem hlt)
  simp only [pwA, if_true, if_false, eq_self, nm_eq, reduceCtorEq, ↓reduceIte, nQ10, nQ7, nQ11, nQ12, nQ16, nQ17, nQ18, iQ2, iQ3, iQ4, iQ5, iQ6, lQ19, iQ7, lQ20, hlt, hlt2, hr, hr2]
  refine l01Same_ok rfl rfl (by omega) ?_
  by_cases he : xs[i] = ys[i]
  · simp only [pwA, if_true, if_false, eq_self, nm_eq, reduceCtorEq, ↓reduceIte, nQ10, nQ7, nQ11, nQ12, nQ16, nQ17, nQ18, iQ2, iQ3, iQ4, iQ5, iQ6, lQ19, iQ7, lQ20, he, wrapS hlt (by omega : xs.length ≤ 4611686018427387904)]
    refine ⟨_, by omega, i + 1, by omega, rfl, rfl, ?_⟩
    rw [List.take_succ_eq_append_getElem hlt, List.take_succ_eq_append_getElem hlt2, heq, he]
  · simp only [pwA, if_true, if_false, eq_self, nm_eq, reduceCtorEq, ↓reduceIte, nQ10, nQ7, nQ11, nQ12, nQ16, nQ17, nQ18, iQ2, iQ3, iQ4, iQ5, iQ6, lQ19, iQ7, lQ20, he]
    refine hk _ (fl fun h => he ?_)
    subst h; rfl
theorem IsLieSpan_S (hR : IsR vP vB W B) (szr : SzR W B) (hU : FII vU u) (sz : SzL u) (hk : ∀ t : Bool, (t = true ↔ isLie p W B ∧ isSpan p W u) → K (.bool t) σ) : PCalls Tryz.prog 134 [.agg [.int .i64 p, vP, vB], vU] σ K := by
  have fl : ∀ {A : Prop}, ¬ A → ((false = true) ↔ A) := fun h => ⟨fun x => (by cases x), fun x => absurd x h⟩
  have h1 := hR.P.one
  have h2 := hR.B.one
  have hRR := hR
  obtain ⟨⟨wp, ap, rp, rfl, hrp⟩, hB⟩ := hR
  obtain ⟨wu, au, ru, rfl, hru⟩ := hU
  have hU : FII (.fz wu au u.length ru) u := ⟨wu, au, ru, rfl, hru⟩
  refine PCalls.gh ?_
  refine pcalls_of_vp mix Tryz.func134 cf134 rfl ?_
  dsimp only [if134, qI, eI, nI, qD, eD]
  simp only [pwA, if_true, if_false, eq_self, nm_eq, reduceCtorEq, ↓reduceIte, nQ10, nQ7, nQ11, nQ12, nQ16, nQ17, nQ18, iQ2, iQ3, iQ4, iQ5, iQ6, lQ19, iQ7, lQ20, h1, h2]
  have hkp : Keep σ (σ.new [.int .i64 p, .fz wp ap W.length rp, vB]) := keep_new σ _
  have hr3 : (σ.new [.int .i64 p, .fz wp ap W.length rp, vB]).rd σ.next 0 3 = some [.int .i64 p, .fz wp ap W.length rp, vB] := by simp only [pwA, if_true, if_false, eq_self, nm_eq, reduceCtorEq, ↓reduceIte, nQ10, nQ7, nQ11, nQ12, nQ16, nQ17, nQ18, iQ2, iQ3, iQ4, iQ5, iQ6, lQ19, iQ7, lQ20]
  have hr1 : (σ.new [.int .i64 p, .fz wp ap W.length rp, vB]).rd1 σ.next 1 = some (.fz wp ap W.length rp) := by simp only [pwA, if_true, if_false, eq_self, nm_eq, reduceCtorEq, ↓reduceIte, nQ10, nQ7, nQ11, nQ12, nQ16, nQ17, nQ18, iQ2, iQ3, iQ4, iQ5, iQ6, lQ19, iQ7, lQ20]
  generalize σ.new [.int .i64 p, .fz wp ap W.length rp, vB] = H at *
  refine l31Ring_ok hRR szr fun t ht => ?_
  cases t with
  | false =>
    simp only [pwA, if_true, if_false, eq_self, nm_eq, reduceCtorEq, ↓reduceIte, nQ10, nQ7, nQ11, nQ12, nQ16, nQ17, nQ18, iQ2, iQ3, iQ4, iQ5, iQ6, lQ19, iQ7, lQ20, hr3, hr1]
    exact Gh.fin0 hkp trivial (hk _ (fl fun x => by have := ht.2 x.1; cases this))
  | true =>
  have hl := ht.1 rfl
  have o := hl.1.w
  have hn6 := o.le
  by_cases hle : u.length ≤ W.length
  rotate_left
  · have hle' : ¬ (u.length : Int) ≤ (W.length : Int) := by omega
    simp only [pwA, if_true, if_false, eq_self, nm_eq, reduceCtorEq, ↓reduceIte, nQ10, nQ7, nQ11, nQ12, nQ16, nQ17, nQ18, iQ2, iQ3, iQ4, iQ5, iQ6, lQ19, iQ7, lQ20, hr3, hr1, hle', hle, decide_false]
    exact Gh.fin0 hkp trivial (hk _ (fl fun x => hle x.2.2.len))
  have hle' : (u.length : Int) ≤ (W.length : Int) := by omega
  simp only [pwA, if_true, if_false, eq_self, nm_eq, reduceCtorEq, ↓reduceIte, nQ10, nQ7, nQ11, nQ12, nQ16, nQ17, nQ18, iQ2, iQ3, iQ4, iQ5, iQ6, lQ19, iQ7, lQ20, hr3, hr1, hle', hle, decide_true]
  refine l32Elements_ok hRR hU sz o.pr fun t ht2 => ?_
  cases t with
  | false =>
    simp only [pwA, if_true, if_false, eq_self, nm_eq, reduceCtorEq, ↓reduceIte, nQ10, nQ7, nQ11, nQ12, nQ16, nQ17, nQ18, iQ2, iQ3, iQ4, iQ5, iQ6, lQ19, iQ7, lQ20, hr3]
    exact Gh.fin0 hkp trivial (hk _ (fl fun x => by have := ht2.2 x.2.1; cases this))
  | true =>
  have he := ht2.1 rfl
  simp only [pwA, if_true, if_false, eq_self, nm_eq, reduceCtorEq, ↓reduceIte, nQ10, nQ7, nQ11, nQ12, nQ16, nQ17, nQ18, iQ2, iQ3, iQ4, iQ5, iQ6, lQ19, iQ7, lQ20, hr3]
  refine l32Span_ok hRR o hl.1.1 hU he sz.l fun vO out c hO => ?_
  simp only [pwA, if_true, if_false, eq_self, nm_eq, reduceCtorEq, ↓reduceIte, nQ10, nQ7, nQ11, nQ12, nQ16, nQ17, nQ18, iQ2, iQ3, iQ4, iQ5, iQ6, lQ19, iQ7, lQ20]
  refine l01Same2_ok hU hO sz.l sz.r fun t ht3 => ?_
  simp only [pwA, if_true, if_false, eq_self, nm_eq, reduceCtorEq, ↓reduceIte, nQ10, nQ7, nQ11, nQ12, nQ16, nQ17, nQ18, iQ2, iQ3, iQ4, iQ5, iQ6, lQ19, iQ7, lQ20]
  refine Gh.fin0 hkp trivial (hk _ (ht3.trans ⟨fun e => ⟨hl, he, by rw [← e] at c; exact c⟩, fun x => x.2.2.unique o c⟩))
theorem l32In_ok {x : List Int} (hR : IsR vP vB W B) (o : OkW p n W) (hU : FII vU u) (hb : Base p n W u) (hx : FI vX x) (ex : El p n x) (hk : ∀ t : Bool, (t = true ↔ Gen p n W u (at_ x)) → K (.bool t) σ) : PCalls Tryz.prog 221 [.agg [.int .i64 p, vP, vB], vU, vX] σ K := by
  have h1 := hR.P.one
  have h2 := hR.B.one
  have hn6 := o.le
  have hul : u.length ≤ n := asc_length (fun v hv => (hb.led v hv).2.1) hb.asc
  obtain ⟨wx, ax, rfl⟩ := hx
  refine PCalls.gh ?_
  refine pcalls_of_vp mix Tryz.func221 cf221 rfl ?_
  dsimp only [if221, qI, eI, nI, qD, eD]
  simp only [pwA, if_true, if_false, eq_self, nm_eq, reduceCtorEq, ↓reduceIte, nQ10, nQ7, nQ11, nQ12, nQ16, nQ17, nQ18, iQ2, iQ3, iQ4, iQ5, iQ6, lQ19, iQ7, lQ20, h1, h2]
  have hkp : Keep σ (σ.new [.int .i64 p, vP, vB]) := keep_new σ _
  generalize σ.new [.int .i64 p, vP, vB] = H at *
  refine l32Reduce_ok hR o hU (fun v hv => ⟨(hb.led v hv).1, (hb.led v hv).2.1⟩) (by omega) ex rfl fun v1 => ?_
  have hrl := (redL_el o hb.els ex).1
  have hin := redL_in o hb ex
  simp only [pwA, if_true, if_false, eq_self, nm_eq, reduceCtorEq, ↓reduceIte, nQ10, nQ7, nQ11, nQ12, nQ16, nQ17, nQ18, iQ2, iQ3, iQ4, iQ5, iQ6, lQ19, iQ7, lQ20]
  refine l01Zero_ok hrl.symm (by omega) ?_
  simp only [pwA, if_true, if_false, eq_self, nm_eq, reduceCtorEq, ↓reduceIte, nQ10, nQ7, nQ11, nQ12, nQ16, nQ17, nQ18, iQ2, iQ3, iQ4, iQ5, iQ6, lQ19, iQ7, lQ20]
  refine Gh.fin0 hkp trivial (hk _ ?_)
  rw [decide_eq_true_eq, ← hin]
  exact ⟨fun h j => isZ_at h j, fun h => isZ_of h⟩
theorem l32Grown_ok (hR : IsR vP vB W B) (o : OkW p n W) (hp : isP p) (hU : FII vU u) (hV : FII vV v) (eu : Els p n u) (ev : Els p n v) (hl : u.length + v.length ≤ 1048576)
    (hk : ∀ z out, Canon p n W (u ++ v) out → FII z out → K z σ) : PCalls Tryz.prog 209 [.agg [.int .i64 p, vP, vB], vU, vV] σ K := by
  have h1 := hR.P.one
  have h2 := hR.B.one
  obtain ⟨wu, au, ru, rfl, hru⟩ := hU
  obtain ⟨wv, av, rv, rfl, hrv⟩ := hV
  refine PCalls.gh ?_
  refine pcalls_of_vp mix Tryz.func209 cf209 rfl ?_
  dsimp only [if209, qI, eI, nI, qD, eD]
  simp only [pwA, if_true, if_false, eq_self, nm_eq, reduceCtorEq, ↓reduceIte, nQ10, nQ7, nQ11, nQ12, nQ16, nQ17, nQ18, iQ2, iQ3, iQ4, iQ5, iQ6, lQ19, iQ7, lQ20, h1, h2]
  generalize hH : σ.new [.int .i64 p, vP, vB] = H
  have hHn : H.next = σ.next + 1 := by rw [← hH]; rfl
  have hHk : Keep σ H := by rw [← hH]; exact keep_new σ _
  have hob : H.obj σ.next = some [.int .i64 p, vP, vB] := by rw [← hH]; simp only [pwA, if_true, if_false, eq_self, nm_eq, reduceCtorEq, ↓reduceIte, nQ10, nQ7, nQ11, nQ12, nQ16, nQ17, nQ18, iQ2, iQ3, iQ4, iQ5, iQ6, lQ19, iQ7, lQ20]
  refine PSl.cat (bytes := 24) (σb := H) (n := 0) (cs := []) (keep_new H _) (by rw [← hHn]; exact PSl.new _ 1 rfl (Nat.le_refl _)) hru.1 (by omega) (by omega) fun v1 g1 k1 a1 => ?_
  rw [Nat.zero_add, List.nil_append] at a1
  have hr31 : g1.rd σ.next 0 3 = some [.int .i64 p, vP, vB] := by rw [obj_rd (show g1.obj σ.next = some _ by rw [k1.obj _ (by omega)]; exact hob)]; rfl
  simp only [pwA, if_true, if_false, eq_self, nm_eq, reduceCtorEq, ↓reduceIte, nQ10, nQ7, nQ11, nQ12, nQ16, nQ17, nQ18, iQ2, iQ3, iQ4, iQ5, iQ6, lQ19, iQ7, lQ20, hr31]
  refine PSl.cat (bytes := 24) (σb := H) k1 a1 hrv.1 (by omega) (by omega) fun v2 g2 k2 a2 => ?_
  obtain ⟨t, cap, rfl, hc, q2, q3, q4, q5⟩ := a2
  have hr3 : g2.rd σ.next 0 3 = some [.int .i64 p, vP, vB] := by rw [obj_rd (show g2.obj σ.next = some _ by rw [k2.obj _ (by omega)]; exact hob)]; rfl
  have hrow := hru.append hrv
  simp only [pwA, if_true, if_false, eq_self, nm_eq, reduceCtorEq, ↓reduceIte, nQ10, nQ7, nQ11, nQ12, nQ16, nQ17, nQ18, iQ2, iQ3, iQ4, iQ5, iQ6, lQ19, iQ7, lQ20, hr3]
  refine PCalls.frz q2 (hrow.bI 0) fun o1 => ?_
  have e1 := hR.P.sb t o1 (ru ++ rv)
  have e2 := hR.B.sb t o1 (ru ++ rv)
  simp only [sbs, sb, hc.ok, and_self, if_true, e1, e2]
  refine l32Span_ok hR o hp ⟨true, _, _, by rw [List.length_append], hrow⟩ (fun x hx => by
    rcases List.mem_append.1 hx with e | e
    · exact eu x e
    · exact ev x e) (by rw [List.length_append]; omega) fun z out c hz => ?_
  simp only [pwA, if_true, if_false, eq_self, nm_eq, reduceCtorEq, ↓reduceIte, nQ10, nQ7, nQ11, nQ12, nQ16, nQ17, nQ18, iQ2, iQ3, iQ4, iQ5, iQ6, lQ19, iQ7, lQ20]
  exact Gh.fin0 ((hHk.trans k2).kill (by omega)) (hz.bel _) (hk z out c hz)
theorem l32Ring_ok (hR : IsR vP vB W B) (o : OkW p n W) (q : OkB p n B) (nf : NoFault p W B n) (hp : isP p) (hL : FII vL gens) (he : Els p n gens) (hgl : gens.length ≤ 1048576)
    (hk : ∀ v u, ClsOf p n W B False gens u → FII v u → K v σ) : PCalls Tryz.prog 126 [.agg [.int .i64 p, vP, vB], vL] σ K := by
  have h1 := hR.P.one
  have h2 := hR.B.one
  have hn6 := o.le
  refine PCalls.gh ?_
  refine pcalls_of_vp mix Tryz.func126 cf126 rfl ?_
  dsimp only [if126, qI, eI, nI, qD, eD]
  simp only [pwA, if_true, if_false, eq_self, nm_eq, reduceCtorEq, ↓reduceIte, nQ10, nQ7, nQ11, nQ12, nQ16, nQ17, nQ18, iQ2, iQ3, iQ4, iQ5, iQ6, lQ19, iQ7, lQ20, h1, h2]
  have hkp : Keep σ (σ.new [.int .i64 p, vP, vB]) := keep_new σ _
  have hr3 : (σ.new [.int .i64 p, vP, vB]).rd σ.next 0 3 = some [.int .i64 p, vP, vB] := by simp only [pwA, if_true, if_false, eq_self, nm_eq, reduceCtorEq, ↓reduceIte, nQ10, nQ7, nQ11, nQ12, nQ16, nQ17, nQ18, iQ2, iQ3, iQ4, iQ5, iQ6, lQ19, iQ7, lQ20]
  generalize σ.new [.int .i64 p, vP, vB] = H at *
  refine l32Span_ok hR o hp hL he hgl fun vU u c hU => ?_
  simp only [pwA, if_true, if_false, eq_self, nm_eq, reduceCtorEq, ↓reduceIte, nQ10, nQ7, nQ11, nQ12, nQ16, nQ17, nQ18, iQ2, iQ3, iQ4, iQ5, iQ6, lQ19, iQ7, lQ20]
  refine vp_loop (fun m us h => ∃ vU u, m = n - u.length ∧ us = [.ptr σ.next 0, vU] ∧ H = h ∧ FII vU u ∧ Grw p n W B False gens u) (n - u.length) ⟨vU, u, rfl, rfl, rfl, hU, Grw.start c⟩ ?_
  clear c hU u vU
  rintro m us h ⟨vU, u, rfl, rfl, rfl, hU, hg⟩
  have hul := hg.len o
  have eu := hg.base.els
  simp only [pwA, if_true, if_false, eq_self, nm_eq, reduceCtorEq, ↓reduceIte, nQ10, nQ7, nQ11, nQ12, nQ16, nQ17, nQ18, iQ2, iQ3, iQ4, iQ5, iQ6, lQ19, iQ7, lQ20, hr3]
  refine l32Brackets_ok hR o q hp hU hU eu eu (by omega) (by omega) fun vY y cy hY => ?_
  have hyl := cy.len
  simp only [pwA, if_true, if_false, eq_self, nm_eq, reduceCtorEq, ↓reduceIte, nQ10, nQ7, nQ11, nQ12, nQ16, nQ17, nQ18, iQ2, iQ3, iQ4, iQ5, iQ6, lQ19, iQ7, lQ20, hr3]
  refine l32Grown_ok hR o hp hU hY eu cy.els (by omega) fun vO out c hO => ?_
  have r := rnd_spec o q nf (.inr ⟨fun h => h, rfl⟩) cy c
  have hol := c.len
  obtain ⟨wo, ao, ro, rfl, hro⟩ := hO
  obtain ⟨wu, au, ru, rfl, hru⟩ := hU
  by_cases hlen : out.length = u.length
  · have hlen' : (out.length : Int) = (u.length : Int) := by omega
    simp only [pwA, if_true, if_false, eq_self, nm_eq, reduceCtorEq, ↓reduceIte, nQ10, nQ7, nQ11, nQ12, nQ16, nQ17, nQ18, iQ2, iQ3, iQ4, iQ5, iQ6, lQ19, iQ7, lQ20, hlen', hlen, decide_true]
    exact Gh.fin0 hkp trivial (hk _ u (hg.done o r (by omega)) ⟨wu, au, ru, rfl, hru⟩)
  · have hlen' : ¬ (out.length : Int) = (u.length : Int) := by omega
    have hless := hg.less o r hlen
    simp only [pwA, if_true, if_false, eq_self, nm_eq, reduceCtorEq, ↓reduceIte, nQ10, nQ7, nQ11, nQ12, nQ16, nQ17, nQ18, iQ2, iQ3, iQ4, iQ5, iQ6, lQ19, iQ7, lQ20, hlen', hlen, decide_false]
    exact ⟨n - out.length, by omega, _, out, rfl, rfl, ⟨wo, ao, ro, rfl, hro⟩, hg.next r⟩
theorem l32Ideal_ok (hR : IsR vP vB W B) (o : OkW p n W) (q : OkB p n B) (nf : NoFault p W B n) (hp : isP p) (hL : FII vL gens) (he : Els p n gens) (hgl : gens.length ≤ 1048576)
    (hk : ∀ v u, ClsOf p n W B True gens u → FII v u → K v σ) : PCalls Tryz.prog 130 [.agg [.int .i64 p, vP, vB], vL] σ K := by
  have h1 := hR.P.one
  have h2 := hR.B.one
  have hn6 := o.le
  refine PCalls.gh ?_
  refine pcalls_of_vp mix Tryz.func130 cf130 rfl ?_
  dsimp only [if130, qI, eI, nI, qD, eD]
  simp only [pwA, if_true, if_false, eq_self, nm_eq, reduceCtorEq, ↓reduceIte, nQ10, nQ7, nQ11, nQ12, nQ16, nQ17, nQ18, iQ2, iQ3, iQ4, iQ5, iQ6, lQ19, iQ7, lQ20, h1, h2]
  have hkp : Keep σ (σ.new [.int .i64 p, vP, vB]) := keep_new σ _
  have hr3 : (σ.new [.int .i64 p, vP, vB]).rd σ.next 0 3 = some [.int .i64 p, vP, vB] := by simp only [pwA, if_true, if_false, eq_self, nm_eq, reduceCtorEq, ↓reduceIte, nQ10, nQ7, nQ11, nQ12, nQ16, nQ17, nQ18, iQ2, iQ3, iQ4, iQ5, iQ6, lQ19, iQ7, lQ20]
  generalize σ.new [.int .i64 p, vP, vB] = H at *
  refine l32Span_ok hR o hp hL he hgl fun vU u c hU => ?_
  simp only [pwA, if_true, if_false, eq_self, nm_eq, reduceCtorEq, ↓reduceIte, nQ10, nQ7, nQ11, nQ12, nQ16, nQ17, nQ18, iQ2, iQ3, iQ4, iQ5, iQ6, lQ19, iQ7, lQ20]
  refine vp_loop (fun m us h => ∃ vU u, m = n - u.length ∧ us = [.ptr σ.next 0, vU] ∧ H = h ∧ FII vU u ∧ Grw p n W B True gens u) (n - u.length) ⟨vU, u, rfl, rfl, rfl, hU, Grw.start c⟩ ?_
  clear c hU u vU
  rintro m us h ⟨vU, u, rfl, rfl, rfl, hU, hg⟩
  have hul := hg.len o
  have eu := hg.base.els
  simp only [pwA, if_true, if_false, eq_self, nm_eq, reduceCtorEq, ↓reduceIte, nQ10, nQ7, nQ11, nQ12, nQ16, nQ17, nQ18, iQ2, iQ3, iQ4, iQ5, iQ6, lQ19, iQ7, lQ20, hr3]
  refine l32Whole_ok hR o.len (by omega) fun vW hW => ?_
  simp only [pwA, if_true, if_false, eq_self, nm_eq, reduceCtorEq, ↓reduceIte, nQ10, nQ7, nQ11, nQ12, nQ16, nQ17, nQ18, iQ2, iQ3, iQ4, iQ5, iQ6, lQ19, iQ7, lQ20, hr3]
  refine l32Brackets_ok hR o q hp hU hW eu (units_els o.pr) (by omega) (by rw [units_length]; omega) fun vY y cy hY => ?_
  have hyl := cy.len
  simp only [pwA, if_true, if_false, eq_self, nm_eq, reduceCtorEq, ↓reduceIte, nQ10, nQ7, nQ11, nQ12, nQ16, nQ17, nQ18, iQ2, iQ3, iQ4, iQ5, iQ6, lQ19, iQ7, lQ20, hr3]
  refine l32Grown_ok hR o hp hU hY eu cy.els (by omega) fun vO out c hO => ?_
  have r := rnd_spec o q nf (.inl ⟨trivial, rfl⟩) cy c
  have hol := c.len
  obtain ⟨wo, ao, ro, rfl, hro⟩ := hO
  obtain ⟨wu, au, ru, rfl, hru⟩ := hU
  by_cases hlen : out.length = u.length
  · have hlen' : (out.length : Int) = (u.length : Int) := by omega
    simp only [pwA, if_true, if_false, eq_self, nm_eq, reduceCtorEq, ↓reduceIte, nQ10, nQ7, nQ11, nQ12, nQ16, nQ17, nQ18, iQ2, iQ3, iQ4, iQ5, iQ6, lQ19, iQ7, lQ20, hlen', hlen, decide_true]
    exact Gh.fin0 hkp trivial (hk _ u (hg.done o r (by omega)) ⟨wu, au, ru, rfl, hru⟩)
  · have hlen' : ¬ (out.length : Int) = (u.length : Int) := by omega
    have hless := hg.less o r hlen
    simp only [pwA, if_true, if_false, eq_self, nm_eq, reduceCtorEq, ↓reduceIte, nQ10, nQ7, nQ11, nQ12, nQ16, nQ17, nQ18, iQ2, iQ3, iQ4, iQ5, iQ6, lQ19, iQ7, lQ20, hlen', hlen, decide_false]
    exact ⟨n - out.length, by omega, _, out, rfl, rfl, ⟨wo, ao, ro, rfl, hro⟩, hg.next r⟩
theorem SubringOf_S (hR : IsR vP vB W B) (szr : SzR W B) (hL : FII vL gens) (sz : SzL gens)
    (hk : ∀ v z c, LsV (isLie p W B ∧ Els p W.length gens) (ClsOf p W.length W B False gens) z c → FII v z → K (.tup [v, .int .i64 c]) σ) : PCalls Tryz.prog 44 [.agg [.int .i64 p, vP, vB], vL] σ K := by
  have h1 := hR.P.one
  have h2 := hR.B.one
  refine PCalls.gh ?_
  refine pcalls_of_vp mix Tryz.func44 cf44 rfl ?_
  dsimp only [if44, qI, eI, nI, qD, eD]
  simp only [pwA, if_true, if_false, eq_self, nm_eq, reduceCtorEq, ↓reduceIte, nQ10, nQ7, nQ11, nQ12, nQ16, nQ17, nQ18, iQ2, iQ3, iQ4, iQ5, iQ6, lQ19, iQ7, lQ20, h1, h2]
  have hkp : Keep σ (σ.new [.int .i64 p, vP, vB]) := keep_new σ _
  have hr3 : (σ.new [.int .i64 p, vP, vB]).rd σ.next 0 3 = some [.int .i64 p, vP, vB] := by simp only [pwA, if_true, if_false, eq_self, nm_eq, reduceCtorEq, ↓reduceIte, nQ10, nQ7, nQ11, nQ12, nQ16, nQ17, nQ18, iQ2, iQ3, iQ4, iQ5, iQ6, lQ19, iQ7, lQ20]
  generalize σ.new [.int .i64 p, vP, vB] = H at *
  have bad : ¬ (isLie p W B ∧ Els p W.length gens) → Gh σ K (.tup [.fz true .nils 0 [], .int .i64 1]) H := fun e => Gh.fin0 hkp ⟨trivial, trivial, trivial⟩ (hk _ [] 1 (.inl ⟨e, rfl, rfl⟩) nil_FII)
  refine l31Ring_ok hR szr fun t ht => ?_
  cases t with
  | false =>
    simp only [pwA, if_true, if_false, eq_self, nm_eq, reduceCtorEq, ↓reduceIte, nQ10, nQ7, nQ11, nQ12, nQ16, nQ17, nQ18, iQ2, iQ3, iQ4, iQ5, iQ6, lQ19, iQ7, lQ20, hr3]
    exact bad fun e => (by have := ht.2 e.1; cases this)
  | true =>
  have hl := ht.1 rfl
  simp only [pwA, if_true, if_false, eq_self, nm_eq, reduceCtorEq, ↓reduceIte, nQ10, nQ7, nQ11, nQ12, nQ16, nQ17, nQ18, iQ2, iQ3, iQ4, iQ5, iQ6, lQ19, iQ7, lQ20, hr3]
  refine l32Elements_ok hR hL sz hl.1.w.pr fun t ht2 => ?_
  cases t with
  | false =>
    simp only [pwA, if_true, if_false, eq_self, nm_eq, reduceCtorEq, ↓reduceIte, nQ10, nQ7, nQ11, nQ12, nQ16, nQ17, nQ18, iQ2, iQ3, iQ4, iQ5, iQ6, lQ19, iQ7, lQ20, hr3]
    exact bad fun e => (by have := ht2.2 e.2; cases this)
  | true =>
  simp only [pwA, if_true, if_false, eq_self, nm_eq, reduceCtorEq, ↓reduceIte, nQ10, nQ7, nQ11, nQ12, nQ16, nQ17, nQ18, iQ2, iQ3, iQ4, iQ5, iQ6, lQ19, iQ7, lQ20, hr3]
  refine l32Ring_ok hR hl.1.w hl.1.b hl.2 hl.1.1 hL (ht2.1 rfl) sz.l fun v z c hz => ?_
  simp only [pwA, if_true, if_false, eq_self, nm_eq, reduceCtorEq, ↓reduceIte, nQ10, nQ7, nQ11, nQ12, nQ16, nQ17, nQ18, iQ2, iQ3, iQ4, iQ5, iQ6, lQ19, iQ7, lQ20]
  exact Gh.fin0 hkp ⟨hz.bel _, trivial, trivial⟩ (hk v z 0 (.inr ⟨⟨hl, ht2.1 rfl⟩, c, rfl⟩) hz)
theorem IdealOf_S (hR : IsR vP vB W B) (szr : SzR W B) (hL : FII vL gens) (sz : SzL gens)
    (hk : ∀ v z c, LsV (isLie p W B ∧ Els p W.length gens) (ClsOf p W.length W B True gens) z c → FII v z → K (.tup [v, .int .i64 c]) σ) : PCalls Tryz.prog 47 [.agg [.int .i64 p, vP, vB], vL] σ K := by
  have h1 := hR.P.one
  have h2 := hR.B.one
  refine PCalls.gh ?_
  refine pcalls_of_vp mix Tryz.func47 cf47 rfl ?_
  dsimp only [if47, qI, eI, nI, qD, eD]
  simp only [pwA, if_true, if_false, eq_self, nm_eq, reduceCtorEq, ↓reduceIte, nQ10, nQ7, nQ11, nQ12, nQ16, nQ17, nQ18, iQ2, iQ3, iQ4, iQ5, iQ6, lQ19, iQ7, lQ20, h1, h2]
  have hkp : Keep σ (σ.new [.int .i64 p, vP, vB]) := keep_new σ _
  have hr3 : (σ.new [.int .i64 p, vP, vB]).rd σ.next 0 3 = some [.int .i64 p, vP, vB] := by simp only [pwA, if_true, if_false, eq_self, nm_eq, reduceCtorEq, ↓reduceIte, nQ10, nQ7, nQ11, nQ12, nQ16, nQ17, nQ18, iQ2, iQ3, iQ4, iQ5, iQ6, lQ19, iQ7, lQ20]
  generalize σ.new [.int .i64 p, vP, vB] = H at *
  have bad : ¬ (isLie p W B ∧ Els p W.length gens) → Gh σ K (.tup [.fz true .nils 0 [], .int .i64 1]) H := fun e => Gh.fin0 hkp ⟨trivial, trivial, trivial⟩ (hk _ [] 1 (.inl ⟨e, rfl, rfl⟩) nil_FII)
  refine l31Ring_ok hR szr fun t ht => ?_
  cases t with
  | false =>
    simp only [pwA, if_true, if_false, eq_self, nm_eq, reduceCtorEq, ↓reduceIte, nQ10, nQ7, nQ11, nQ12, nQ16, nQ17, nQ18, iQ2, iQ3, iQ4, iQ5, iQ6, lQ19, iQ7, lQ20, hr3]
    exact bad fun e => (by have := ht.2 e.1; cases this)
  | true =>
  have hl := ht.1 rfl
  simp only [pwA, if_true, if_false, eq_self, nm_eq, reduceCtorEq, ↓reduceIte, nQ10, nQ7, nQ11, nQ12, nQ16, nQ17, nQ18, iQ2, iQ3, iQ4, iQ5, iQ6, lQ19, iQ7, lQ20, hr3]
  refine l32Elements_ok hR hL sz hl.1.w.pr fun t ht2 => ?_
  cases t with
  | false =>
    simp only [pwA, if_true, if_false, eq_self, nm_eq, reduceCtorEq, ↓reduceIte, nQ10, nQ7, nQ11, nQ12, nQ16, nQ17, nQ18, iQ2, iQ3, iQ4, iQ5, iQ6, lQ19, iQ7, lQ20, hr3]
    exact bad fun e => (by have := ht2.2 e.2; cases this)
  | true =>
  simp only [pwA, if_true, if_false, eq_self, nm_eq, reduceCtorEq, ↓reduceIte, nQ10, nQ7, nQ11, nQ12, nQ16, nQ17, nQ18, iQ2, iQ3, iQ4, iQ5, iQ6, lQ19, iQ7, lQ20, hr3]
  refine l32Ideal_ok hR hl.1.w hl.1.b hl.2 hl.1.1 hL (ht2.1 rfl) sz.l fun v z c hz => ?_
  simp only [pwA, if_true, if_false, eq_self, nm_eq, reduceCtorEq, ↓reduceIte, nQ10, nQ7, nQ11, nQ12, nQ16, nQ17, nQ18, iQ2, iQ3, iQ4, iQ5, iQ6, lQ19, iQ7, lQ20]
  exact Gh.fin0 hkp ⟨hz.bel _, trivial, trivial⟩ (hk v z 0 (.inr ⟨⟨hl, ht2.1 rfl⟩, c, rfl⟩) hz)
theorem all_take {P n k : Nat} (h : k < P ^ n) : (allE P n).take (k + 1) = (allE P n).take k ++ [digs P n k] := by
  have hl : k < (allE P n).length := by rw [allE_length]; exact h
  rw [List.take_succ_eq_append_getElem hl, allE_get hl]
theorem l32Above_ok {list : List (List Int)} {P : Nat} (hR : IsR vP vB W B) (o : OkW p n W) (q : OkB p n B) (hp : isP p) (hpP : p = (P : Int)) (hb : P ^ n ≤ 729) (hL : FII vL list) (eL : Els p n list) (hll : list.length ≤ 1048576) (hU : FII vU u) (hbu : Base p n W u)
    (hk : ∀ w out L, Canon p n W L out → (∀ x, x ∈ L ↔ x ∈ allE P n ∧ ∀ b ∈ list, Gen p n W u (at_ (br p W B n x b))) → FII w out → K w σ) : PCalls Tryz.prog 135 [.agg [.int .i64 p, vP, vB], vL, vU] σ K := by
  have hRR := hR
  have hn6 := o.le
  have hpb := hp.bd
  have hWn := o.len
  have h1 := hR.P.one
  have h2 := hR.B.one
  obtain ⟨⟨wp, ap, rp, rfl, hrp⟩, hBB⟩ := hR
  obtain ⟨wl, al, rl, rfl, hrl⟩ := hL
  refine PCalls.gh ?_
  refine pcalls_of_vp mix Tryz.func135 cf135 rfl ?_
  dsimp only [if135, qI, eI, nI, qD, eD]
  simp only [pwA, if_true, if_false, eq_self, nm_eq, reduceCtorEq, ↓reduceIte, nQ10, nQ7, nQ11, nQ12, nQ16, nQ17, nQ18, iQ2, iQ3, iQ4, iQ5, iQ6, lQ19, iQ7, lQ20, h1, h2]
  generalize hH : σ.new [.int .i64 p, .fz wp ap W.length rp, vB] = H
  have hHn : H.next = σ.next + 1 := by rw [← hH]; rfl
  have hHk : Keep σ H := by rw [← hH]; exact keep_new σ _
  have hob : H.obj σ.next = some [.int .i64 p, .fz wp ap W.length rp, vB] := by rw [← hH]; simp only [pwA, if_true, if_false, eq_self, nm_eq, reduceCtorEq, ↓reduceIte, nQ10, nQ7, nQ11, nQ12, nQ16, nQ17, nQ18, iQ2, iQ3, iQ4, iQ5, iQ6, lQ19, iQ7, lQ20]
  refine vp_loop (fun m us h => ∃ (k : Nat) (v : PV) (out L : List (List Int)) (rows : List PV), k ≤ P ^ n ∧ m = P ^ n - k ∧ us = [.fz wl al list.length rl, vU, .ptr σ.next 0, v, .int .i64 k] ∧ Keep H h ∧ PSl H.next 1 h v out.length rows ∧ All2 FI rows out ∧ Canon p n W L out ∧ ∀ x, x ∈ L ↔ x ∈ (allE P n).take k ∧ ∀ b ∈ list, Gen p n W u (at_ (br p W B n x b))) (P ^ n) ?_ ?_
  · refine ⟨0, _, [], [], [], by omega, by omega, rfl, keep_new H _, ?_, All2.nil _, ⟨.nil, List.Pairwise.nil, fun f => Iff.rfl⟩, fun x => by simp⟩
    rw [← hHn]
    exact PSl.new H.next 1 rfl (Nat.le_refl _)
  rintro m us h ⟨k, v, out, L, rows, hkP, rfl, rfl, hkp, ps, hrows, hcan, hmem⟩
  have hob' : h.obj σ.next = some [.int .i64 p, .fz wp ap W.length rp, vB] := by rw [hkp.obj _ (by omega)]; exact hob
  have hr3 : h.rd σ.next 0 3 = some [.int .i64 p, .fz wp ap W.length rp, vB] := by rw [obj_rd hob']; rfl
  have hr0 : h.rd1 σ.next 0 = some (.int .i64 p) := by rw [obj_rd1 hob']; rfl
  have hr1 : h.rd1 σ.next 1 = some (.fz wp ap W.length rp) := by rw [obj_rd1 hob']; rfl
  have hol := hcan.len
  simp only [pwA, if_true, if_false, eq_self, nm_eq, reduceCtorEq, ↓reduceIte, nQ10, nQ7, nQ11, nQ12, nQ16, nQ17, nQ18, iQ2, iQ3, iQ4, iQ5, iQ6, lQ19, iQ7, lQ20, hr0, hr1]
  refine l31Size_ok hpb (by omega) fun kk a1 a2 a3 a4 => ?_
  have hkk : kk = ((P ^ n : Nat) : Int) := by
    rw [hpP, ipowN, hWn] at a1 a2
    exact a2 (a1.2 (by omega))
  subst hkk
  clear a1 a2 a3 a4
  simp only [pwA, if_true, if_false, eq_self, nm_eq, reduceCtorEq, ↓reduceIte, nQ10, nQ7, nQ11, nQ12, nQ16, nQ17, nQ18, iQ2, iQ3, iQ4, iQ5, iQ6, lQ19, iQ7, lQ20]
  refine iteI (fun hlt => ?_) fun hge => ?_
  rotate_left
  · have hke : k = P ^ n := by omega
    subst hke
    rw [List.take_of_length_le (by rw [allE_length]; exact Nat.le_refl _)] at hmem
    obtain ⟨t, cap, rfl, hc, q2, q3, q4, q5⟩ := ps
    exact Gh.finF (hHk.trans hkp) q2 (by omega) (hrows.bI 0) hc.ok fun o1 => hk _ out L hcan hmem ⟨true, .sl o1 0 out.length cap, rows, rfl, hrows⟩
  have hkl : k < P ^ n := by omega
  simp only [pwA, if_true, if_false, eq_self, nm_eq, reduceCtorEq, ↓reduceIte, nQ10, nQ7, nQ11, nQ12, nQ16, nQ17, nQ18, iQ2, iQ3, iQ4, iQ5, iQ6, lQ19, iQ7, lQ20, hr3]
  refine l31At_ok hRR hWn hn6 hpP (by omega) (by omega) fun vX hX => ?_
  have ex := digs_el (P := P) (by omega) n k
  rw [← hpP] at ex
  have htk := all_take (P := P) (n := n) hkl
  generalize digs P n k = x at *
  simp only [pwA, if_true, if_false, eq_self, nm_eq, reduceCtorEq, ↓reduceIte, nQ10, nQ7, nQ11, nQ12, nQ16, nQ17, nQ18, iQ2, iQ3, iQ4, iQ5, iQ6, lQ19, iQ7, lQ20, hr3]
  obtain ⟨t, cap, rfl, hc, q2, q3, q4, q5⟩ := ps
  refine PCalls.lend (s := t) q2 (hrows.bI 0) fun o1 => ?_
  have hXs := hX.sb t o1 rows
  have hBs := hBB.sb t o1 rows
  simp only [sbs, sb, hc.ok, and_self, if_true, hXs, hBs, nm_eq]
  refine l32In_ok hRR o ⟨true, _, rows, rfl, hrows⟩ hcan.base hX ex fun tt htt => ⟨rfl, ⟨_, rfl⟩, ?_⟩
  have wk1 : IntKind.i64.wrap ((k : Int) + 1) = ((k + 1 : Nat) : Int) := by rw [wrap64 (by omega) (by omega)]; omega
  obtain ⟨wx, ax, rfl⟩ := hX
  have hX : FI (.fz wx ax x.length (pis x)) x := ⟨wx, ax, rfl⟩
  -- what is left to do when the checks are over
  have skip : (Gen p n W out (at_ x) ∨ ¬ ∀ b ∈ list, Gen p n W u (at_ (br p W B n x b))) → ∃ L', Canon p n W L' out ∧ ∀ y, y ∈ L' ↔ y ∈ (allE P n).take (k + 1) ∧ ∀ b ∈ list, Gen p n W u (at_ (br p W B n y b)) := fun hs => by
    by_cases hg : ∀ b ∈ list, Gen p n W u (at_ (br p W B n x b))
    · have hx := hs.resolve_right fun h => h hg
      refine ⟨L ++ [x], hcan.trans fun f => ⟨fun hf => gen_mono (fun y hy => ?_) hf, gen_sublist fun y hy => List.mem_append_left _ hy⟩, fun y => ?_⟩
      · rcases List.mem_append.1 hy with e | e
        · exact gen_mem e
        · rw [List.mem_singleton.1 e]; exact (hcan.gen _).2 hx
      · rw [htk, List.mem_append, List.mem_append, List.mem_singleton, hmem]
        refine ⟨fun h => ?_, fun h => ?_⟩
        · rcases h with h | h
          · exact ⟨.inl h.1, h.2⟩
          · exact ⟨.inr h, by rw [h]; exact hg⟩
        · rcases h.1 with h1 | h1
          · exact .inl ⟨h1, h.2⟩
          · exact .inr h1
    · refine ⟨L, hcan, fun y => ?_⟩
      rw [htk, List.mem_append, List.mem_singleton, hmem]
      exact ⟨fun h => ⟨.inl h.1, h.2⟩, fun h => ⟨h.1.resolve_right fun e => hg (by rw [← e]; exact h.2), h.2⟩⟩
  have take : (∀ b ∈ list, Gen p n W u (at_ (br p W B n x b))) → ∀ out', Canon p n W (out ++ [x]) out' → ∃ L', Canon p n W L' out' ∧ ∀ y, y ∈ L' ↔ y ∈ (allE P n).take (k + 1) ∧ ∀ b ∈ list, Gen p n W u (at_ (br p W B n y b)) := fun hg out' c' => by
    refine ⟨L ++ [x], ⟨c'.base, c'.red, fun f => Iff.trans ⟨gen_mono fun y hy => ?_, gen_mono fun y hy => ?_⟩ (c'.gen f)⟩, fun y => ?_⟩
    · rcases List.mem_append.1 hy with e | e
      · exact gen_sublist (fun z hz => List.mem_append_left _ hz) ((hcan.gen _).1 (gen_mem e))
      · exact gen_mem (List.mem_append_right _ e)
    · rcases List.mem_append.1 hy with e | e
      · exact gen_sublist (fun z hz => List.mem_append_left _ hz) ((hcan.gen _).2 (gen_mem e))
      · exact gen_mem (List.mem_append_right _ e)
    · rw [htk, List.mem_append, List.mem_append, List.mem_singleton, hmem]
      refine ⟨fun h => ?_, fun h => ?_⟩
      · rcases h with h | h
        · exact ⟨.inl h.1, h.2⟩
        · exact ⟨.inr h, by rw [h]; exact hg⟩
      · rcases h.1 with h1 | h1
        · exact .inl ⟨h1, h.2⟩
        · exact .inr h1
  simp only [pwA, if_true, if_false, eq_self, nm_eq, reduceCtorEq, ↓reduceIte, nQ10, nQ7, nQ11, nQ12, nQ16, nQ17, nQ18, iQ2, iQ3, iQ4, iQ5, iQ6, lQ19, iQ7, lQ20]
  refine vp_loop (fun m us g => ∃ (i : Nat) (b : Bool), i ≤ list.length ∧ m = list.length - i ∧ us = [.fz wl al list.length rl, vU, .ptr σ.next 0, .sl t 0 out.length cap, .int .i64 k, .fz wx ax x.length (pis x), .bool b, .int .i64 i] ∧ h = g ∧ (b = true → ¬ Gen p n W out (at_ x) ∧ ∀ j (hj : j < list.length), j < i → Gen p n W u (at_ (br p W B n x list[j]))) ∧ (b = false → Gen p n W out (at_ x) ∨ ¬ ∀ b ∈ list, Gen p n W u (at_ (br p W B n x b)))) list.length ?_ ?_
  · refine ⟨0, !tt, by omega, by omega, rfl, rfl, fun hb => ⟨fun hg => ?_, fun j hj h0 => by omega⟩, fun hb => .inl (htt.1 (by simpa using hb))⟩
    have := htt.2 hg
    rw [this] at hb; cases hb
  rintro m us g ⟨i, b, hi, rfl, rfl, rfl, hbt, hbf⟩
  simp only [pwA, if_true, if_false, eq_self, nm_eq, reduceCtorEq, ↓reduceIte, nQ10, nQ7, nQ11, nQ12, nQ16, nQ17, nQ18, iQ2, iQ3, iQ4, iQ5, iQ6, lQ19, iQ7, lQ20]
  cases b with
  | false =>
    obtain ⟨L', c', m'⟩ := skip (hbf rfl)
    by_cases hil : i < list.length
    · have hil' : (i : Int) < (list.length : Int) := by omega
      simp only [pwA, if_true, if_false, eq_self, nm_eq, reduceCtorEq, ↓reduceIte, nQ10, nQ7, nQ11, nQ12, nQ16, nQ17, nQ18, iQ2, iQ3, iQ4, iQ5, iQ6, lQ19, iQ7, lQ20, hil, hil', decide_true, wk1]
      exact ⟨_, by omega, k + 1, _, out, L', rows, by omega, rfl, rfl, hkp, ⟨t, cap, rfl, hc, q2, q3, q4, q5⟩, hrows, c', m'⟩
    · have hil' : ¬ (i : Int) < (list.length : Int) := by omega
      simp only [pwA, if_true, if_false, eq_self, nm_eq, reduceCtorEq, ↓reduceIte, nQ10, nQ7, nQ11, nQ12, nQ16, nQ17, nQ18, iQ2, iQ3, iQ4, iQ5, iQ6, lQ19, iQ7, lQ20, hil, hil', decide_false, wk1]
      exact ⟨_, by omega, k + 1, _, out, L', rows, by omega, rfl, rfl, hkp, ⟨t, cap, rfl, hc, q2, q3, q4, q5⟩, hrows, c', m'⟩
  | true =>
  obtain ⟨hng, hall⟩ := hbt rfl
  by_cases hil : i < list.length
  · have hil' : (i : Int) < (list.length : Int) := by omega
    obtain ⟨w5, a5, hr5⟩ := hrl.rowI hil
    have eli := eL _ (List.getElem_mem hil)
    simp only [pwA, if_true, if_false, eq_self, nm_eq, reduceCtorEq, ↓reduceIte, nQ10, nQ7, nQ11, nQ12, nQ16, nQ17, nQ18, iQ2, iQ3, iQ4, iQ5, iQ6, lQ19, iQ7, lQ20, hil, hil', decide_true, hr3, hr5]
    refine l31Bracket_ok hRR o q ex eli rfl rfl fun a6 => ?_
    have hbe := br_el o q (a := x) (b := list[i])
    have hbl := hbe.1
    simp only [pwA, if_true, if_false, eq_self, nm_eq, reduceCtorEq, ↓reduceIte, nQ10, nQ7, nQ11, nQ12, nQ16, nQ17, nQ18, iQ2, iQ3, iQ4, iQ5, iQ6, lQ19, iQ7, lQ20, hr3, hr5, hil]
    refine l32In_ok hRR o hU hbu (x := br p W B n x list[i]) ⟨true, a6, by rw [hbl]⟩ hbe fun t2 ht2 => ?_
    simp only [pwA, if_true, if_false, eq_self, nm_eq, reduceCtorEq, ↓reduceIte, nQ10, nQ7, nQ11, nQ12, nQ16, nQ17, nQ18, iQ2, iQ3, iQ4, iQ5, iQ6, lQ19, iQ7, lQ20, hr3, hr5, hil, wrapS hil (by omega : list.length ≤ 4611686018427387904)]
    refine ⟨_, by omega, i + 1, t2, by omega, rfl, rfl, fun e => ⟨hng, fun j hj hji => ?_⟩, fun e => .inr fun hg => ?_⟩
    · by_cases e2 : j = i
      · subst e2; exact ht2.1 e
      · exact hall j hj (by omega)
    · have := ht2.2 (hg _ (List.getElem_mem hil))
      rw [this] at e; cases e
  have hil' : ¬ (i : Int) < (list.length : Int) := by omega
  have hg : ∀ b ∈ list, Gen p n W u (at_ (br p W B n x b)) := fun b hb => by
    obtain ⟨j, hj, rfl⟩ := List.mem_iff_getElem.1 hb
    exact hall j hj (by omega)
  have hneh : ¬ σ.next = h.next := by have := hkp.next; omega
  simp only [pwA, if_true, if_false, eq_self, nm_eq, reduceCtorEq, ↓reduceIte, nQ10, nQ7, nQ11, nQ12, nQ16, nQ17, nQ18, iQ2, iQ3, iQ4, iQ5, iQ6, lQ19, iQ7, lQ20, hil, hil', decide_false, hr3, hneh]
  refine PSl.push (bytes := 24) (σb := H) hkp ⟨t, cap, rfl, hc, q2, q3, q4, q5⟩ (by omega) (by omega) fun v2 h2 k2 a2 => ?_
  obtain ⟨t2, cap2, rfl, hc2, b2, b3, b4, b5⟩ := a2
  have hob2 : h2.obj σ.next = some [.int .i64 p, .fz wp ap W.length rp, vB] := by rw [k2.obj _ (by omega)]; exact hob
  have hr32 : h2.rd σ.next 0 3 = some [.int .i64 p, .fz wp ap W.length rp, vB] := by rw [obj_rd hob2]; rfl
  have hrow := hrows.snoc hX
  simp only [pwA, if_true, if_false, eq_self, nm_eq, reduceCtorEq, ↓reduceIte, nQ10, nQ7, nQ11, nQ12, nQ16, nQ17, nQ18, iQ2, iQ3, iQ4, iQ5, iQ6, lQ19, iQ7, lQ20, hr32]
  refine PCalls.frz b2 (hrow.bI 0) fun o2 => ?_
  have hBs2 := hBB.sb t2 o2 (rows ++ [.fz wx ax x.length (pis x)])
  simp only [sbs, sb, hc2.ok, and_self, if_true, hBs2, nm_eq]
  refine l32Span_u hRR o hp (gens := out ++ [x]) ⟨true, _, _, by rw [List.length_append]; rfl, hrow⟩ (fun y hy => by
    rcases List.mem_append.1 hy with e | e
    · exact hcan.els y e
    · rw [List.mem_singleton.1 e]; exact ex) (by rw [List.length_append, List.length_singleton]; omega) fun out' rows' cap' c' hr' hcap' => ?_
  obtain ⟨L', d', m'⟩ := take hg out' c'
  have kk2 : Keep H (h2.kill t2) := k2.kill b4
  simp only [pwA, if_true, if_false, eq_self, nm_eq, reduceCtorEq, ↓reduceIte, nQ10, nQ7, nQ11, nQ12, nQ16, nQ17, nQ18, iQ2, iQ3, iQ4, iQ5, iQ6, lQ19, iQ7, lQ20, wk1]
  exact ⟨_, by omega, k + 1, _, out', L', rows', by omega, rfl, rfl, kk2.new _, ⟨_, cap', rfl, hcap', by rw [pobj_new]; exact if_pos rfl, by rw [hr'.1, Nat.mul_one], kk2.next, Nat.lt_succ_self _⟩, hr', d', m'⟩
theorem LieCentralizer_S (hR : IsR vP vB W B) (szr : SzR W B) (hU : FII vU u) (sz : SzL u)
    (hk : ∀ w z c, LsV (isLie p W B ∧ isSpan p W u) (CzL p W B u) z c → FII w z → K (.tup [w, .int .i64 c]) σ) : PCalls Tryz.prog 50 [.agg [.int .i64 p, vP, vB], vU] σ K := by
  have h1 := hR.P.one
  have h2 := hR.B.one
  refine PCalls.gh ?_
  refine pcalls_of_vp mix Tryz.func50 cf50 rfl ?_
  dsimp only [if50, qI, eI, nI, qD, eD]
  simp only [pwA, if_true, if_false, eq_self, nm_eq, reduceCtorEq, ↓reduceIte, nQ10, nQ7, nQ11, nQ12, nQ16, nQ17, nQ18, iQ2, iQ3, iQ4, iQ5, iQ6, lQ19, iQ7, lQ20, h1, h2]
  have hkp : Keep σ (σ.new [.int .i64 p, vP, vB]) := keep_new σ _
  have hr3 : (σ.new [.int .i64 p, vP, vB]).rd σ.next 0 3 = some [.int .i64 p, vP, vB] := by simp only [pwA, if_true, if_false, eq_self, nm_eq, reduceCtorEq, ↓reduceIte, nQ10, nQ7, nQ11, nQ12, nQ16, nQ17, nQ18, iQ2, iQ3, iQ4, iQ5, iQ6, lQ19, iQ7, lQ20]
  have hob : (σ.new [.int .i64 p, vP, vB]).obj σ.next = some [.int .i64 p, vP, vB] := by simp only [pwA, if_true, if_false, eq_self, nm_eq, reduceCtorEq, ↓reduceIte, nQ10, nQ7, nQ11, nQ12, nQ16, nQ17, nQ18, iQ2, iQ3, iQ4, iQ5, iQ6, lQ19, iQ7, lQ20]
  have hHn : (σ.new [.int .i64 p, vP, vB]).next = σ.next + 1 := rfl
  generalize σ.new [.int .i64 p, vP, vB] = H at *
  refine IsLieSpan_S hR szr hU sz fun t ht => ?_
  cases t with
  | false =>
    simp only [pwA, if_true, if_false, eq_self, nm_eq, reduceCtorEq, ↓reduceIte, nQ10, nQ7, nQ11, nQ12, nQ16, nQ17, nQ18, iQ2, iQ3, iQ4, iQ5, iQ6, lQ19, iQ7, lQ20, hr3]
    exact Gh.fin0 hkp ⟨trivial, trivial, trivial⟩ (hk _ [] 1 (.inl ⟨fun e => (by have := ht.2 e; cases this), rfl, rfl⟩) nil_FII)
  | true =>
  have hl := ht.1 rfl
  have o := hl.1.1.w
  have q := hl.1.1.b
  have hn6 := o.le
  have hul := hl.2.2.len
  have hpb := hl.1.1.1.bd
  obtain ⟨P, hP⟩ := Int.eq_ofNat_of_zero_le (show 0 ≤ p by omega)
  have hpw : P ^ W.length ≤ 729 := by
    have h := hl.1.1.2.2.2.1
    rw [hP, ipowN] at h
    omega
  have hr3' : (H.new []).rd σ.next 0 3 = some [.int .i64 p, vP, vB] := by rw [(keep_new H _).rd (by omega)]; exact hr3
  simp only [pwA, if_true, if_false, eq_self, nm_eq, reduceCtorEq, ↓reduceIte, nQ10, nQ7, nQ11, nQ12, nQ16, nQ17, nQ18, iQ2, iQ3, iQ4, iQ5, iQ6, lQ19, iQ7, lQ20, hr3, hr3']
  refine PCalls.frz (s := H.next) (cs := []) (by rw [pobj_new, if_pos rfl]) trivial fun o1 => ?_
  have e1 := hR.P.sb H.next o1 []
  have e2 := hR.B.sb H.next o1 []
  have e3 := hU.sb H.next o1 []
  simp only [sbs, sb, capOK, and_self, if_true, decide_true, Nat.le_refl, e1, e2, e3]
  have k1 : Keep H ((H.new []).kill H.next) := (keep_new H _).kill (Nat.le_refl _)
  refine l32Above_ok hR o q hl.1.1.1 hP hpw hU hl.2.1 (by omega) ⟨true, _, [], rfl, All2.nil _⟩ .nil fun w z L c hL hz => ?_
  simp only [pwA, if_true, if_false, eq_self, nm_eq, reduceCtorEq, ↓reduceIte, nQ10, nQ7, nQ11, nQ12, nQ16, nQ17, nQ18, iQ2, iQ3, iQ4, iQ5, iQ6, lQ19, iQ7, lQ20]
  refine Gh.fin0 (hkp.trans k1) ⟨hz.bel _, trivial, trivial⟩ (hk w z 0 (.inr ⟨hl, ⟨P, L, hP, c, fun x => ?_⟩, rfl⟩) hz)
  rw [hL]
  refine and_congr_right fun hx => forall_congr' fun b => forall_congr' fun hb => ?_
  exact gen_nil_iff o (br_el o q)
end Go.Proofs
namespace Go.Proofs
open Go.Ab Go.Lie
variable {σ σ0 h h' : PHeap} {K : PV → PHeap → Prop} {vC vP vB : PV} {bs : List Int} {s b n r0 : Nat} {p : Int} {W : List (List Int)} {B : List (List (List Int))}
theorem KM.keepOf (k : KM σ s h) (hk : Keep σ0 σ) (hs : σ0.next ≤ s) : Keep σ0 h := by
  obtain ⟨σ', ⟨c0, c1, h0, h1, rfl⟩, q⟩ := k
  exact (hk.set hs _).trans q
end Go.Proofs
namespace Go.Proofs
open Go.Ab Go.Lie
variable {σ σ0 h h' : PHeap} {K : PV → PHeap → Prop} {vC vP vB vL : PV} {bs : List Int} {s b n r0 : Nat} {p : Int} {W : List (List Int)} {B : List (List (List Int))} {gens u c d : List (List Int)}
theorem CzL.unique (o : OkW p W.length W) (h : CzL p W B u c) (g : CzL p W B u d) : c = d := by
  obtain ⟨P, L, hp, hc, hL⟩ := h
  obtain ⟨Q, M, hq, hd, hM⟩ := g
  obtain rfl : P = Q := by omega
  have e : ∀ x, x ∈ L ↔ x ∈ M := fun x => (hL x).trans (hM x).symm
  exact canon_unique o hc.base hc.red hd.base hd.red (fun f hf => (hd.gen f).1 (gen_sublist (fun x hx => (e x).1 hx) ((hc.gen f).2 hf))) (fun f hf => (hc.gen f).1 (gen_sublist (fun x hx => (e x).2 hx) ((hd.gen f).2 hf)))
theorem DrawLieSpan_ok (hb : FB vC bs) (hB : Byt bs) (hk : ∀ p vP vB W B vL gens, DrR p W B → IsR vP vB W B → FII vL gens → gens.length ≤ 3 → (∀ x ∈ gens, x.length ≤ 7) → K (.tup [.agg [.int .i64 p, vP, vB], vL]) σ) : PCalls Tryz.prog 123 [vC] σ K := by
  refine PCalls.gh ?_
  generalize hT : σ.new [.int .i64 0, .fz true .nils 0 [], .fz true .nils 0 []] = T
  have hTn : T.next = σ.next + 1 := by rw [← hT]; rfl
  have hkT : Keep σ T := by rw [← hT]; exact keep_new σ _
  have obT : T.obj σ.next = some [.int .i64 0, .fz true .nils 0 [], .fz true .nils 0 []] := by rw [← hT]; simp only [pwA, if_true, if_false, eq_self, nm_eq, reduceCtorEq, ↓reduceIte, nQ10, nQ7, nQ11, nQ12, nQ16, nQ17, nQ18, iQ2, iQ3, iQ4, iQ5, iQ6, lQ19, iQ7, lQ20]
  refine pcalls_of_vp mix Tryz.func123 cf123 rfl ?_
  dsimp only [if123, qI, eI, nI, qD, eD]
  simp only [pwA, if_true, if_false, eq_self, nm_eq, reduceCtorEq, ↓reduceIte, nQ10, nQ7, nQ11, nQ12, nQ16, nQ17, nQ18, iQ2, iQ3, iQ4, iQ5, iQ6, lQ19, iQ7, lQ20, hb.one]
  rw [hT]
  refine l01From_ok hb hB fun sd hsd => ?_
  have so1 : So (T.new (srcC vC 0 sd)) T.next vC bs := ⟨0, sd, by rw [pobj_new, if_pos rfl], Nat.lt_succ_self _, hb, hB, Nat.zero_le _, hsd⟩
  have km1 : KM (T.new (srcC vC 0 sd)) T.next (T.new (srcC vC 0 sd)) := so1.km
  have kT1 : Keep T (T.new (srcC vC 0 sd)) := keep_new _ _
  have hs1 : T.next < (T.new (srcC vC 0 sd)).next := Nat.lt_succ_self _
  generalize hU : T.new (srcC vC 0 sd) = U at *
  have hUn : U.next = T.next + 1 := by rw [← hU]; rfl
  simp only [pwA, if_true, if_false, eq_self, nm_eq, reduceCtorEq, ↓reduceIte, nQ10, nQ7, nQ11, nQ12, nQ16, nQ17, nQ18, iQ2, iQ3, iQ4, iQ5, iQ6, lQ19, iQ7, lQ20]
  refine l31Draw_ok so1 fun p vP vB W B h2 d hR m2 so2 => ?_
  have km2 := km1.mv hs1 m2
  have g1 := hR.P.one
  have g2 := hR.B.one
  have h2n := km2.next
  have so3 : So (h2.new [.int .i64 p, vP, vB]) T.next vC bs := so2.keep (keep_new _ _)
  have km3 : KM U T.next (h2.new [.int .i64 p, vP, vB]) := km2.new _
  have hr3 : (h2.new [.int .i64 p, vP, vB]).rd h2.next 0 3 = some [.int .i64 p, vP, vB] := by simp only [pwA, if_true, if_false, eq_self, nm_eq, reduceCtorEq, ↓reduceIte, nQ10, nQ7, nQ11, nQ12, nQ16, nQ17, nQ18, iQ2, iQ3, iQ4, iQ5, iQ6, lQ19, iQ7, lQ20]
  have hob3 : (h2.new [.int .i64 p, vP, vB]).obj h2.next = some [.int .i64 p, vP, vB] := by simp only [pwA, if_true, if_false, eq_self, nm_eq, reduceCtorEq, ↓reduceIte, nQ10, nQ7, nQ11, nQ12, nQ16, nQ17, nQ18, iQ2, iQ3, iQ4, iQ5, iQ6, lQ19, iQ7, lQ20]
  simp only [pwA, if_true, if_false, eq_self, nm_eq, reduceCtorEq, ↓reduceIte, nQ10, nQ7, nQ11, nQ12, nQ16, nQ17, nQ18, iQ2, iQ3, iQ4, iQ5, iQ6, lQ19, iQ7, lQ20, g1, g2]
  refine l32Gens_ok so3 hR (by have := d.p; omega) (by have := d.wl; omega) fun vL gens h6 hvL hgl hgx m6 so6 => ?_
  have km6 := km3.mv hs1 m6
  have rd6 : h6.rd h2.next 0 3 = some [.int .i64 p, vP, vB] := by rw [obj_rd (by rw [m6.obj (by omega)]; exact hob3)]; rfl
  have hU6 : Keep T h6 := km6.keepOf kT1 (Nat.le_refl _)
  have hres : h6.obj σ.next = some [.int .i64 0, .fz true .nils 0 [], .fz true .nils 0 []] := by rw [hU6.obj _ (by omega)]; exact obT
  have x1 : h6.wr σ.next 0 [.int .i64 p, vP, vB] = some (h6.set σ.next [.int .i64 p, vP, vB]) := by rw [obj_wr hres, if_pos ⟨by simp, by simp only [List.all_cons, List.all_nil, g1, g2]; rfl⟩]; rfl
  have x2 : (h6.set σ.next [.int .i64 p, vP, vB]).rd σ.next 0 3 = some [.int .i64 p, vP, vB] := by rw [prd_set, if_pos rfl]; rfl
  have x3 : (h6.set σ.next [.int .i64 p, vP, vB]).rd h2.next 0 3 = some [.int .i64 p, vP, vB] := by rw [prd_set, if_neg (by omega)]; exact rd6
  simp only [pwA, if_true, if_false, eq_self, nm_eq, reduceCtorEq, ↓reduceIte, nQ10, nQ7, nQ11, nQ12, nQ16, nQ17, nQ18, iQ2, iQ3, iQ4, iQ5, iQ6, lQ19, iQ7, lQ20, rd6, x1, x2, x3, g1, g2]
  exact Gh.fin0 ((hkT.trans hU6).set (Nat.le_refl _) _) ⟨⟨trivial, hR.P.bel _, hR.B.bel _, trivial⟩, hvL.bel _, trivial⟩ (hk p vP vB W B vL gens d hR hvL hgl fun x hx => by have := hgx x hx; have := d.wl; omega)
theorem DrawSubringOf_ok (hb : FB vC bs) (hB : Byt bs) (hk : ∀ p vP vB W B vL gens, DrR p W B → IsR vP vB W B → FII vL gens → gens.length ≤ 3 → (∀ x ∈ gens, x.length ≤ 7) → K (.tup [.agg [.int .i64 p, vP, vB], vL]) σ) : PCalls Tryz.prog 42 [vC] σ K := by
  refine PCalls.gh ?_
  refine pcalls_of_vp mix Tryz.func42 cf42 rfl ?_
  dsimp only [if42, qI, eI, nI, qD, eD]
  simp only [pwA, if_true, if_false, eq_self, nm_eq, reduceCtorEq, ↓reduceIte, nQ10, nQ7, nQ11, nQ12, nQ16, nQ17, nQ18, iQ2, iQ3, iQ4, iQ5, iQ6, lQ19, iQ7, lQ20, hb.one]
  refine DrawLieSpan_ok hb hB fun p vP vB W B vL gens d hR hL hgl hgx => ?_
  have g1 := hR.P.one
  have g2 := hR.B.one
  simp only [pwA, if_true, if_false, eq_self, nm_eq, reduceCtorEq, ↓reduceIte, nQ10, nQ7, nQ11, nQ12, nQ16, nQ17, nQ18, iQ2, iQ3, iQ4, iQ5, iQ6, lQ19, iQ7, lQ20, g1, g2]
  exact Gh.fin0 (keep_new σ _) ⟨⟨trivial, hR.P.bel _, hR.B.bel _, trivial⟩, hL.bel _, trivial⟩ (hk p vP vB W B vL gens d hR hL hgl hgx)
end Go.Proofs
namespace Go.Proofs
open Go.Ab Go.Lie
variable {σ σ0 h h' : PHeap} {K : PV → PHeap → Prop} {vC vP vB vx vy : PV} {bs x y : List Int} {s b n r0 : Nat} {p : Int} {W : List (List Int)} {B : List (List (List Int))}
theorem likeInts_ok (hx : FI vx x) (hy : FI vy y) (hl : x.length ≤ 1048576) (hk : ∀ t : Bool, (t = true ↔ x = y) → K (.bool t) σ) : PCalls Tryz.prog 16 [vx, vy] σ K := by
  obtain ⟨wx, ax, rfl⟩ := hx
  obtain ⟨wy, ay, rfl⟩ := hy
  refine pcalls_of_vp mix Tryz.func16 cf16 rfl ?_
  dsimp only [if16, qI, eI, nI, qD, eD]
  simp only [pwA, if_true, if_false, eq_self, nm_eq, reduceCtorEq, ↓reduceIte, nQ10, nQ7, nQ11, nQ12, nQ16, nQ17, nQ18, iQ2, iQ3, iQ4, iQ5, iQ6, lQ19, iQ7, lQ20]
  by_cases hxy : x.length = y.length
  rotate_left
  · have hne : ¬ (x.length : Int) = (y.length : Int) := by omega
    simp only [pwA, if_true, if_false, eq_self, nm_eq, reduceCtorEq, ↓reduceIte, nQ10, nQ7, nQ11, nQ12, nQ16, nQ17, nQ18, iQ2, iQ3, iQ4, iQ5, iQ6, lQ19, iQ7, lQ20, hne]
    exact hk false ⟨fun h => (by cases h), fun h => absurd (by rw [h]) hxy⟩
  have heq : (x.length : Int) = (y.length : Int) := by omega
  simp only [pwA, if_true, if_false, eq_self, nm_eq, reduceCtorEq, ↓reduceIte, nQ10, nQ7, nQ11, nQ12, nQ16, nQ17, nQ18, iQ2, iQ3, iQ4, iQ5, iQ6, lQ19, iQ7, lQ20, heq]
  refine vp_loop (fun m us g => ∃ i : Nat, i ≤ y.length ∧ m = y.length - i ∧ us = [.fz wx ax x.length (pis x), .fz wy ay y.length (pis y), .int .i64 i] ∧ g = σ ∧ ∀ j, j < i → x[j]? = y[j]?) y.length ⟨0, by omega, by omega, rfl, rfl, fun j hj => absurd hj (Nat.not_lt_zero _)⟩ ?_
  rintro m us g ⟨i, hi, rfl, rfl, rfl, he⟩
  simp only [pwA, if_true, if_false, eq_self, nm_eq, reduceCtorEq, ↓reduceIte, nQ10, nQ7, nQ11, nQ12, nQ16, nQ17, nQ18, iQ2, iQ3, iQ4, iQ5, iQ6, lQ19, iQ7, lQ20, heq]
  refine iteI (fun hlt => ?_) fun hge => ?_
  rotate_left
  · refine hk true ⟨fun _ => List.ext_getElem? fun j => ?_, fun _ => rfl⟩
    rcases Nat.lt_or_ge j i with e | e
    · exact he j e
    · rw [List.getElem?_eq_none (by omega), List.getElem?_eq_none (by omega)]
  have hltx : i < x.length := by omega
  have hlty : i < y.length := by omega
  have wi1 : IntKind.i64.wrap ((i : Int) + 1) = ((i + 1 : Nat) : Int) := wrapS hlty (by omega)
  simp only [pwA, if_true, if_false, eq_self, nm_eq, reduceCtorEq, ↓reduceIte, nQ10, nQ7, nQ11, nQ12, nQ16, nQ17, nQ18, iQ2, iQ3, iQ4, iQ5, iQ6, lQ19, iQ7, lQ20, pisAt hltx, pisAt hlty, hltx, hlty, wi1]
  refine iteI (fun hv => ?_) fun hv => ?_
  · refine ⟨_, by omega, i + 1, by omega, rfl, rfl, fun j hj => ?_⟩
    rcases Nat.lt_or_ge j i with e | e
    · exact he j e
    · obtain rfl : j = i := by omega
      rw [List.getElem?_eq_getElem hltx, List.getElem?_eq_getElem hlty, ← at_eq hltx, ← at_eq hlty, hv]
  · refine hk false ⟨fun h => (by cases h), fun h => absurd ?_ hv⟩
    rw [h]
theorem big_ok (hb : FB vC bs) (hk : ∀ t : Bool, (t = true ↔ 4096 < bs.length) → K (.bool t) σ) : PCalls Tryz.prog 12 [vC] σ K := by
  obtain ⟨w, a, rfl⟩ := hb
  refine pcalls_of_vp mix Tryz.func12 cf12 rfl ?_
  dsimp only [if12, qI, eI, nI, qD, eD]
  simp only [pwA, if_true, if_false, eq_self, nm_eq, reduceCtorEq, ↓reduceIte, nQ10, nQ7, nQ11, nQ12, nQ16, nQ17, nQ18, iQ2, iQ3, iQ4, iQ5, iQ6, lQ19, iQ7, lQ20]
  refine hk _ ?_
  rw [decide_eq_true_eq]
  omega
end Go.Proofs
namespace Go.Proofs
open Go.Ab Go.Lie
variable {σ : PHeap} {K : PV → PHeap → Prop} {va vb vx : PV} {p : Int} {W : List (List Int)} {B : List (List (List Int))} {xs ys : List (List Int)} {x : List Int}
theorem likeRows5_ok (ha : FII va xs) (hb : FII vb ys) (sz : SzL xs) (hk : ∀ t : Bool, (t = true ↔ xs = ys) → K (.bool t) σ) : PCalls Tryz.prog 30 [va, vb] σ K := by
  obtain ⟨wx, ax, rx, rfl, hrx⟩ := ha
  obtain ⟨wy, ay, ry, rfl, hry⟩ := hb
  have hl := sz.l
  refine pcalls_of_vp mix Tryz.func30 cf30 rfl ?_
  dsimp only [if30, qI, eI, nI, qD, eD]
  simp only [pwA, if_true, if_false, eq_self, nm_eq, reduceCtorEq, ↓reduceIte, nQ10, nQ7, nQ11, nQ12, nQ16, nQ17, nQ18, iQ2, iQ3, iQ4, iQ5, iQ6, lQ19, iQ7, lQ20]
  by_cases hxy : xs.length = ys.length
  rotate_left
  · have hne : ¬ (xs.length : Int) = (ys.length : Int) := by omega
    simp only [pwA, if_true, if_false, eq_self, nm_eq, reduceCtorEq, ↓reduceIte, nQ10, nQ7, nQ11, nQ12, nQ16, nQ17, nQ18, iQ2, iQ3, iQ4, iQ5, iQ6, lQ19, iQ7, lQ20, hne]
    exact hk false ⟨fun h => (by cases h), fun h => absurd (by rw [h]) hxy⟩
  have heq : (xs.length : Int) = (ys.length : Int) := by omega
  simp only [pwA, if_true, if_false, eq_self, nm_eq, reduceCtorEq, ↓reduceIte, nQ10, nQ7, nQ11, nQ12, nQ16, nQ17, nQ18, iQ2, iQ3, iQ4, iQ5, iQ6, lQ19, iQ7, lQ20, heq]
  refine vp_loop (fun m us g => ∃ i : Nat, i ≤ ys.length ∧ m = ys.length - i ∧ us = [.fz wx ax xs.length rx, .fz wy ay ys.length ry, .int .i64 i] ∧ g = σ ∧ ∀ j, j < i → xs[j]? = ys[j]?) ys.length ⟨0, by omega, by omega, rfl, rfl, fun j hj => absurd hj (Nat.not_lt_zero _)⟩ ?_
  rintro m us g ⟨i, hi, rfl, rfl, rfl, he⟩
  simp only [pwA, if_true, if_false, eq_self, nm_eq, reduceCtorEq, ↓reduceIte, nQ10, nQ7, nQ11, nQ12, nQ16, nQ17, nQ18, iQ2, iQ3, iQ4, iQ5, iQ6, lQ19, iQ7, lQ20, heq]
  refine iteI (fun hlt => ?_) fun hge => ?_
  rotate_left
  · refine hk true ⟨fun _ => List.ext_getElem? fun j => ?_, fun _ => rfl⟩
    rcases Nat.lt_or_ge j i with e | e
    · exact he j e
    · rw [List.getElem?_eq_none (by omega), List.getElem?_eq_none (by omega)]
  have hltx : i < xs.length := by omega
  have hlty : i < ys.length := by omega
  have wi1 : IntKind.i64.wrap ((i : Int) + 1) = ((i + 1 : Nat) : Int) := wrapS hlty (by omega)
  obtain ⟨w1, a1, h1⟩ := hrx.rowI hltx
  obtain ⟨w2, a2, h2⟩ := hry.rowI hlty
  have hle := sz.r _ (List.getElem_mem hltx)
  simp only [pwA, if_true, if_false, eq_self, nm_eq, reduceCtorEq, ↓reduceIte, nQ10, nQ7, nQ11, nQ12, nQ16, nQ17, nQ18, iQ2, iQ3, iQ4, iQ5, iQ6, lQ19, iQ7, lQ20, h1, h2, hltx, hlty]
  refine likeInts_ok ⟨w1, a1, rfl⟩ ⟨w2, a2, rfl⟩ hle fun t ht => ?_
  cases t with
  | false =>
    simp only [pwA, if_true, if_false, eq_self, nm_eq, reduceCtorEq, ↓reduceIte, nQ10, nQ7, nQ11, nQ12, nQ16, nQ17, nQ18, iQ2, iQ3, iQ4, iQ5, iQ6, lQ19, iQ7, lQ20]
    refine hk false ⟨fun h => (by cases h), fun h => ?_⟩
    have := ht.2 (by simp only [h])
    cases this
  | true =>
    have hv := ht.1 rfl
    simp only [pwA, if_true, if_false, eq_self, nm_eq, reduceCtorEq, ↓reduceIte, nQ10, nQ7, nQ11, nQ12, nQ16, nQ17, nQ18, iQ2, iQ3, iQ4, iQ5, iQ6, lQ19, iQ7, lQ20, wi1]
    refine ⟨_, by omega, i + 1, by omega, rfl, rfl, fun j hj => ?_⟩
    rcases Nat.lt_or_ge j i with e | e
    · exact he j e
    · obtain rfl : j = i := by omega
      rw [List.getElem?_eq_getElem hltx, List.getElem?_eq_getElem hlty, hv]
end Go.Proofs
namespace Go.Proofs.YtpcjbkbcaiphmaaGreat
open Go.ChangeShapes Go.WideShapes Go.ChangeAt Go.RowKit Go.Ab Go.Joins Go.Lie Go.Proofs
variable {H : Type} {enc : TypeId × Value → H} {W w0 : World} {j : Inj} {h : AHeap}
theorem cell8 : Tryz.prog.cellsOf 5 = 1 := by kernel_rfl
theorem lay8 : Lay1 enc Tryz.prog W 5 (fun pv (n : Int) => pv = .int .u8 n ∧ 0 ≤ n ∧ n ≤ 255) := by
  intro w0 j h held fuel v x m hx
  obtain ⟨n, hn, _, hw⟩ := DataW.trod_int Tryz.underlying5 hx
  simp only [List.cons.injEq, and_true] at hn
  subst hn
  simp only [Lit.wf, Bool.and_eq_true, decide_eq_true_eq] at hw
  have h1 : IntKind.u8.min = 0 := by rfl
  have h2 : IntKind.u8.max = 255 := by rfl
  rw [h1, h2] at hw
  exact ⟨j, h, .int .u8 n, n, m, Inj.le.refl _, Ext.refl m.wf, rfl, trivial, rfl, rfl, hw.1, hw.2⟩
theorem FL.bytes {v : PV} {xs : List Int} (h : FL (fun pv (n : Int) => pv = .int .u8 n ∧ 0 ≤ n ∧ n ≤ 255) v xs) : FB v xs := by
  obtain ⟨w, a, rows, rfl, hr⟩ := h
  refine ⟨w, a, ?_⟩
  congr 1
  apply List.ext_getElem?
  intro k
  rw [List.getElem?_map]
  rcases Nat.lt_or_ge k xs.length with x | x
  · obtain ⟨pv, h1, h2⟩ := hr.get x
    rw [h1, gi x, h2.1]; rfl
  · rw [List.getElem?_eq_none (by rw [hr.1]; exact x), List.getElem?_eq_none x]; rfl
theorem layB : Lay1 enc Tryz.prog W 22 (fun v (xs : List Int) => FB v xs ∧ ∀ b ∈ xs, 0 ≤ b ∧ b ≤ 255) := by
  intro w0 j h held fuel v x m hx
  obtain ⟨j', h', pv, a, g1, g2, g3, g4, g5, g6, g7, g8⟩ := lay_slice Tryz.underlying22 cell8 lay8 w0 j h held fuel v x m hx
  exact ⟨j', h', pv, a, g1, g2, g3, g4, g5, g6, FL.bytes g7, g7.all fun _ _ k => k.2⟩
end Go.Proofs.YtpcjbkbcaiphmaaGreat
