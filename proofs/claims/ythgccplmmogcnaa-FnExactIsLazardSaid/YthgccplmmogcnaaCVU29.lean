/- The whole ring and the brackets of two lists, the reference's side; the step of the series. -/
import Derived.Test.YthgccplmmogcnaaCVU22
import Derived.Test.YthgccplmmogcnaaCVIl
set_option linter.unusedSimpArgs false
set_option linter.unusedVariables false
namespace Go.Proofs
open Go.Ab Go.Lie
variable {σ : PHeap} {K : PV → PHeap → Prop} {p p' : Int} {n : Nat} {W : List (List Int)} {B : List (List (List Int))} {vP vB vL vU vV : PV} {s : Nat}

theorem l32Whole_ok (hR : IsR vP vB W B) (hWn : W.length = n) (hn : n ≤ 1048576) (hk : ∀ v, FII v (units n) → K v σ) : PCalls Try.prog 139 [.agg [.int .i64 p, vP, vB]] σ K := by
  have h1 := hR.P.one
  have h2 := hR.B.one
  have hRR := hR
  obtain ⟨⟨wp, ap, rp, rfl, hrp⟩, hB⟩ := hR
  refine PCalls.gh ?_
  refine pcalls_of_vp mix Try.func139 cf139 rfl ?_
  dsimp only [if139, qI, eI, nI, qD, eD]
  simp only [pw0, pw1, pw2, pw3, pw4, pw5, pw6, pw7, pw8, pw9, if_true, if_false, eq_self, nm_eq, reduceCtorEq, ↓reduceIte, Nat.reduceEqDiff, Nat.reduceLeDiff, Nat.reduceBEq, Nat.reduceAdd, Nat.reduceLT, Nat.reduceSub, Nat.reduceMul, Int.reduceEq, Int.reduceLT, Int.reduceLE, Int.reduceNeg, Int.reduceToNat, List.reduceReplicate, Int.ofNat_le, List.getElem?_drop, h1, h2]
  generalize hH : σ.new [.int .i64 p, .fz wp ap W.length rp, vB] = H
  have hHn : H.next = σ.next + 1 := by rw [← hH]; simp only [pw0, pw1, pw2, pw3, pw4, pw5, pw6, pw7, pw8, pw9, if_true, if_false, eq_self, nm_eq, reduceCtorEq, ↓reduceIte, Nat.reduceEqDiff, Nat.reduceLeDiff, Nat.reduceBEq, Nat.reduceAdd, Nat.reduceLT, Nat.reduceSub, Nat.reduceMul, Int.reduceEq, Int.reduceLT, Int.reduceLE, Int.reduceNeg, Int.reduceToNat, List.reduceReplicate, Int.ofNat_le, List.getElem?_drop]
  have hHk : Keep σ H := by rw [← hH]; exact keep_new σ _
  have hob : H.obj σ.next = some [.int .i64 p, .fz wp ap W.length rp, vB] := by rw [← hH]; simp only [pw0, pw1, pw2, pw3, pw4, pw5, pw6, pw7, pw8, pw9, if_true, if_false, eq_self, nm_eq, reduceCtorEq, ↓reduceIte, Nat.reduceEqDiff, Nat.reduceLeDiff, Nat.reduceBEq, Nat.reduceAdd, Nat.reduceLT, Nat.reduceSub, Nat.reduceMul, Int.reduceEq, Int.reduceLT, Int.reduceLE, Int.reduceNeg, Int.reduceToNat, List.reduceReplicate, Int.ofNat_le, List.getElem?_drop]
  refine vp_loop (fun m vs h' => ∃ (i : Nat) (v : PV) (rows : List PV), i ≤ n ∧ m = n - i ∧ vs = [.ptr σ.next 0, v, .int .i64 i] ∧ Keep H h' ∧ PSl H.next 1 h' v i rows ∧ All2 FI rows ((units n).take i)) n ?_ ?_
  · refine ⟨0, _, [], by omega, by omega, rfl, keep_new H _, ?_, by rw [List.take_zero]; exact All2.nil _⟩
    rw [← hHn]
    exact PSl.new H.next 1 rfl (Nat.le_refl _)
  rintro m vs h' ⟨i, v, rows, hi, rfl, rfl, hkp, ha, hrows⟩
  have hob' : h'.obj σ.next = some [.int .i64 p, .fz wp ap W.length rp, vB] := by rw [hkp.obj _ (by omega)]; exact hob
  have hr1 : h'.rd1 σ.next 1 = some (.fz wp ap W.length rp) := by rw [obj_rd1 hob']; rfl
  have hr3 : h'.rd σ.next 0 3 = some [.int .i64 p, .fz wp ap W.length rp, vB] := by rw [obj_rd hob']; rfl
  simp only [pw0, pw1, pw2, pw3, pw4, pw5, pw6, pw7, pw8, pw9, if_true, if_false, eq_self, nm_eq, reduceCtorEq, ↓reduceIte, Nat.reduceEqDiff, Nat.reduceLeDiff, Nat.reduceBEq, Nat.reduceAdd, Nat.reduceLT, Nat.reduceSub, Nat.reduceMul, Int.reduceEq, Int.reduceLT, Int.reduceLE, Int.reduceNeg, Int.reduceToNat, List.reduceReplicate, Int.ofNat_le, List.getElem?_drop, hr1, hWn]
  refine iteI (fun hlt => ?_) fun hge => ?_
  · simp only [pw0, pw1, pw2, pw3, pw4, pw5, pw6, pw7, pw8, pw9, if_true, if_false, eq_self, nm_eq, reduceCtorEq, ↓reduceIte, Nat.reduceEqDiff, Nat.reduceLeDiff, Nat.reduceBEq, Nat.reduceAdd, Nat.reduceLT, Nat.reduceSub, Nat.reduceMul, Int.reduceEq, Int.reduceLT, Int.reduceLE, Int.reduceNeg, Int.reduceToNat, List.reduceReplicate, Int.ofNat_le, List.getElem?_drop, hr3]
    refine l31Unit_ok hRR hWn hn hlt fun a1 => ?_
    simp only [pw0, pw1, pw2, pw3, pw4, pw5, pw6, pw7, pw8, pw9, if_true, if_false, eq_self, nm_eq, reduceCtorEq, ↓reduceIte, Nat.reduceEqDiff, Nat.reduceLeDiff, Nat.reduceBEq, Nat.reduceAdd, Nat.reduceLT, Nat.reduceSub, Nat.reduceMul, Int.reduceEq, Int.reduceLT, Int.reduceLE, Int.reduceNeg, Int.reduceToNat, List.reduceReplicate, Int.ofNat_le, List.getElem?_drop]
    refine PSl.push (bytes := 24) hkp ha (by omega) (by omega) fun v' h2 k2 a2 => ?_
    simp only [pw0, pw1, pw2, pw3, pw4, pw5, pw6, pw7, pw8, pw9, if_true, if_false, eq_self, nm_eq, reduceCtorEq, ↓reduceIte, Nat.reduceEqDiff, Nat.reduceLeDiff, Nat.reduceBEq, Nat.reduceAdd, Nat.reduceLT, Nat.reduceSub, Nat.reduceMul, Int.reduceEq, Int.reduceLT, Int.reduceLE, Int.reduceNeg, Int.reduceToNat, List.reduceReplicate, Int.ofNat_le, List.getElem?_drop, wrapS hlt (by omega : n ≤ 4611686018427387904)]
    refine ⟨_, by omega, i + 1, v', _, by omega, rfl, rfl, k2, a2, ?_⟩
    rw [units_take hlt]
    exact hrows.snoc ⟨true, a1, by rw [unitL_length]⟩
  · have hie : i = n := by omega
    subst hie
    rw [List.take_of_length_le (by rw [units_length]; exact Nat.le_refl _)] at hrows
    obtain ⟨s', cap, rfl, hc, q2, q3, q4, q5⟩ := ha
    exact Gh.finF (hHk.trans hkp) q2 (by omega) (hrows.bI 0) hc.ok fun o1 => hk _ ⟨true, .sl o1 0 i cap, rows, by rw [units_length], hrows⟩

theorem next_ok {b : Nat} {u : List (List Int)} (hb : σ.rd1 b 0 = some (.ptr s 0)) (hs : PtrR σ s p vP vB) (hR : IsR vP vB W B) (o : OkW p n W) (q : OkB p n B) (hp : isP p) (hU : FII vU u) (eu : Els p n u) (hul : u.length ≤ 6)
    (hk : ∀ v out, Canon p n W (brL p W B n u (units n)) out → FII v out → K v σ) : PCalls Try.prog 132 [vU, .ptr b 0] σ K := by
  have hn6 := o.le
  have hUU := hU
  obtain ⟨wu, au, ru, rfl, hru⟩ := hU
  refine pcalls_of_vp mix Try.func132 cf132 rfl ?_
  dsimp only [if132, qI, eI, nI, qD, eD]
  simp only [pw0, pw1, pw2, pw3, pw4, pw5, pw6, pw7, pw8, pw9, if_true, if_false, eq_self, nm_eq, reduceCtorEq, ↓reduceIte, Nat.reduceEqDiff, Nat.reduceLeDiff, Nat.reduceBEq, Nat.reduceAdd, Nat.reduceLT, Nat.reduceSub, Nat.reduceMul, Int.reduceEq, Int.reduceLT, Int.reduceLE, Int.reduceNeg, Int.reduceToNat, List.reduceReplicate, Int.ofNat_le, List.getElem?_drop, hb]
  refine wholeLie_ok hs hR.P o.len (by omega) fun vV hV => ?_
  have hVV := hV
  obtain ⟨wv, av, rv, rfl, hrv⟩ := hV
  simp only [pw0, pw1, pw2, pw3, pw4, pw5, pw6, pw7, pw8, pw9, if_true, if_false, eq_self, nm_eq, reduceCtorEq, ↓reduceIte, Nat.reduceEqDiff, Nat.reduceLeDiff, Nat.reduceBEq, Nat.reduceAdd, Nat.reduceLT, Nat.reduceSub, Nat.reduceMul, Int.reduceEq, Int.reduceLT, Int.reduceLE, Int.reduceNeg, Int.reduceToNat, List.reduceReplicate, Int.ofNat_le, List.getElem?_drop, hb]
  refine brackets_ok hs hR o q hUU hVV eu (units_els o.pr) hul (by rw [units_length]; exact hn6) fun vZ hZ => ?_
  have hZZ := hZ
  obtain ⟨wz, az, rz, rfl, hrz⟩ := hZ
  have hzl : (brL p W B n u (units n)).length ≤ 1048576 := by
    rw [brL_length, units_length]
    have : u.length * n ≤ 6 * 6 := Nat.mul_le_mul hul hn6
    omega
  simp only [pw0, pw1, pw2, pw3, pw4, pw5, pw6, pw7, pw8, pw9, if_true, if_false, eq_self, nm_eq, reduceCtorEq, ↓reduceIte, Nat.reduceEqDiff, Nat.reduceLeDiff, Nat.reduceBEq, Nat.reduceAdd, Nat.reduceLT, Nat.reduceSub, Nat.reduceMul, Int.reduceEq, Int.reduceLT, Int.reduceLE, Int.reduceNeg, Int.reduceToNat, List.reduceReplicate, Int.ofNat_le, List.getElem?_drop, hb]
  refine lieSpan_ok hs hR.P o hp hZZ (brL_els o q _ _) hzl fun v out hc hv => ?_
  simp only [pw0, pw1, pw2, pw3, pw4, pw5, pw6, pw7, pw8, pw9, if_true, if_false, eq_self, nm_eq, reduceCtorEq, ↓reduceIte, Nat.reduceEqDiff, Nat.reduceLeDiff, Nat.reduceBEq, Nat.reduceAdd, Nat.reduceLT, Nat.reduceSub, Nat.reduceMul, Int.reduceEq, Int.reduceLT, Int.reduceLE, Int.reduceNeg, Int.reduceToNat, List.reduceReplicate, Int.ofNat_le, List.getElem?_drop]
  exact hk v out hc hv
end Go.Proofs
/- The lower central series: plain law; lists compared. -/
set_option linter.unusedSimpArgs false
set_option linter.unusedVariables false
namespace Go.Proofs
open Go.Ab Go.Lie
variable {σ : PHeap} {K : PV → PHeap → Prop} {p p' : Int} {n : Nat} {W : List (List Int)} {B : List (List (List Int))} {vP vB vL vU vV : PV} {s : Nat}

theorem br_head (o : OkW p n W) (q : OkB p n B) {a b : List Int} {k : Nat} (ha : ∀ j, j < k → at_ a j = 0) : ∀ j, j < k + 1 → at_ (br p W B n a b) j = 0 := by
  have hs : ∀ t, t < k + 1 → at_ (bsum B a b n) t = 0 := fun t ht => by
    rw [bsum, bi_at q t (Nat.le_refl _)]
    refine sumN_zero _ fun i hi => sumN_zero _ fun j hj => ?_
    rcases Nat.lt_or_ge (i + 1 + j) k with x | x
    · rw [coef, ha i (by omega), ha _ x, Int.zero_mul, Int.zero_mul, Int.sub_zero, Int.zero_mul]
    · rw [(q.get hi hj).2 t (by omega), Int.mul_zero]
  intro j hj
  rcases Nat.lt_or_ge j n with x | x
  · exact norm_head o (bsum_length q) (d := min (k + 1) n) (Nat.min_le_right _ _) (fun j hj => hs j (by omega)) j (by omega)
  · exact at_ge (by rw [(br_el o q).1]; exact x)

theorem step_dep (o : OkW p n W) (q : OkB p n B) {u out : List (List Int)} (hc : Canon p n W (brL p W B n u (units n)) out) {m : Nat} (hu : ∀ x ∈ u, m ≤ dep x) : ∀ y ∈ out, m + 1 ≤ dep y := fun y hy => by
  have hl := hc.base.led y hy
  have hg : Gen p n W (brL p W B n u (units n)) (at_ y) := (hc.gen _).2 (gen_mem hy)
  have hz := gen_zero o (m := min (m + 1) n) (brL_els o q _ _) (Nat.min_le_right _ _) (fun v hv j hj => by
    obtain ⟨x, hx, h⟩ := List.mem_flatMap.1 hv
    obtain ⟨e, he, rfl⟩ := List.mem_map.1 h
    exact br_head o q (k := m) (fun j hj => dep_zero (by have := hu x hx; omega)) j (by omega)) hl.1 hg
  have hd := dep_ge (v := y) (d := min (m + 1) n) (by rw [hl.1.1]; exact Nat.min_le_right _ _) hz
  have := hl.2.1
  omega

theorem same_nil (o : OkW p n W) (q : OkB p n B) {u : List (List Int)} (hc : Canon p n W (brL p W B n u (units n)) u) : u = [] := by
  have h : ∀ m : Nat, ∀ x ∈ u, m ≤ dep x := fun m => by
    induction m with
    | zero => exact fun x hx => Nat.zero_le _
    | succ m ih => exact step_dep o q hc ih
  cases u with
  | nil => rfl
  | cons x t =>
    have h1 := h n x (by simp)
    have h2 := (hc.base.led x (by simp)).2.1
    omega
theorem nil_nil (o : OkW p n W) (q : OkB p n B) {out : List (List Int)} (hc : Canon p n W (brL p W B n [] (units n)) out) : out = [] := by
  cases out with
  | nil => rfl
  | cons y t =>
    have h1 := step_dep o q hc (m := n) (fun x hx => by cases hx) y (by simp)
    have h2 := (hc.base.led y (by simp)).2.1
    omega

/-- The members of the lower central series. -/
inductive Low (p : Int) (n : Nat) (W : List (List Int)) (B : List (List (List Int))) : Nat → List (List Int) → Prop where
  | zero : Low p n W B 0 (units n)
  | succ {k : Nat} {u out : List (List Int)} (h : Low p n W B k u) (hc : Canon p n W (brL p W B n u (units n)) out) : Low p n W B (k + 1) out
theorem Low.unique (o : OkW p n W) : ∀ {k : Nat} {u v : List (List Int)}, Low p n W B k u → Low p n W B k v → u = v
  | _, _, _, .zero, .zero => rfl
  | _, _, _, .succ h hc, .succ h' hc' => by
    have := Low.unique o h h'
    subst this
    exact hc.unique o hc'
theorem Low.els (o : OkW p n W) : ∀ {k : Nat} {u : List (List Int)}, Low p n W B k u → Els p n u ∧ u.length ≤ n
  | _, _, .zero => ⟨units_els o.pr, by rw [units_length]; exact Nat.le_refl _⟩
  | _, _, .succ _ hc => ⟨hc.base.els, asc_length (fun v hv => (hc.base.led v hv).2.1) hc.base.asc⟩
theorem Low.dep (o : OkW p n W) (q : OkB p n B) : ∀ {k : Nat} {u : List (List Int)}, Low p n W B k u → ∀ x ∈ u, k ≤ Go.Lie.dep x
  | _, _, .zero => fun x hx => Nat.zero_le _
  | _, _, .succ h hc => step_dep o q hc (Low.dep o q h)
theorem Low.le (o : OkW p n W) (q : OkB p n B) {k : Nat} {u : List (List Int)} (h : Low p n W B k u) (hu : u ≠ []) : k ≤ n := by
  cases u with
  | nil => exact absurd rfl hu
  | cons x t =>
    have h1 := h.dep o q x (by simp)
    have h2 := dep_le x
    have h3 := ((h.els o).1 x (by simp)).1
    omega
/-- The class. -/
def Cls (p : Int) (n : Nat) (W : List (List Int)) (B : List (List (List Int))) (c : Nat) : Prop := Low p n W B c [] ∧ ∀ k u, k < c → Low p n W B k u → u ≠ []
theorem Cls.unique {c d : Nat} (h : Cls p n W B c) (g : Cls p n W B d) : c = d := by
  rcases Nat.lt_trichotomy c d with x | x | x
  · exact absurd rfl (g.2 c _ x h.1)
  · exact x
  · exact absurd rfl (h.2 d _ x g.1)

theorem okF125 : okF Try.prog 125 = true := by kernel_rfl
theorem EqualFunc_ok {xs ys : List (List Int)} (hU : FII vU xs) (hV : FII vV ys) (hx : xs.length ≤ 1048576) (hxl : ∀ x ∈ xs, x.length ≤ 1048576) (hk : ∀ t : Bool, (t = true ↔ xs = ys) → K (.bool t) σ) :
    PCalls Try.prog 144 [vU, vV, .clo 125 [] []] σ K := by
  have fl : ∀ {A : Prop}, ¬ A → ((false = true) ↔ A) := fun h => ⟨fun x => (by cases x), fun x => absurd x h⟩
  obtain ⟨wu, au, ru, rfl, hru⟩ := hU
  obtain ⟨wv, av, rv, rfl, hrv⟩ := hV
  refine pcalls_of_vp mix Try.func144 cf144 rfl ?_
  dsimp only [if144, qI, eI, nI, qD, eD]
  by_cases hl : xs.length = ys.length
  · simp only [pw0, pw1, pw2, pw3, pw4, pw5, pw6, pw7, pw8, pw9, if_true, if_false, eq_self, nm_eq, reduceCtorEq, ↓reduceIte, Nat.reduceEqDiff, Nat.reduceLeDiff, Nat.reduceBEq, Nat.reduceAdd, Nat.reduceLT, Nat.reduceSub, Nat.reduceMul, Int.reduceEq, Int.reduceLT, Int.reduceLE, Int.reduceNeg, Int.reduceToNat, List.reduceReplicate, Int.ofNat_le, List.getElem?_drop, hl]
    refine vp_loop (fun m vs h' => ∃ i : Nat, i ≤ ys.length ∧ m = ys.length - i ∧ vs = [.fz wv av ys.length rv, .clo 125 [] [], .fz wu au ys.length ru, .int .i64 ys.length, .int .i64 i] ∧ σ = h' ∧ xs.take i = ys.take i) ys.length ?_ ?_
    · exact ⟨0, by omega, by omega, rfl, rfl, by simp⟩
    rintro m vs h' ⟨i, hi, rfl, rfl, rfl, heq⟩
    simp only [pw0, pw1, pw2, pw3, pw4, pw5, pw6, pw7, pw8, pw9, if_true, if_false, eq_self, nm_eq, reduceCtorEq, ↓reduceIte, Nat.reduceEqDiff, Nat.reduceLeDiff, Nat.reduceBEq, Nat.reduceAdd, Nat.reduceLT, Nat.reduceSub, Nat.reduceMul, Int.reduceEq, Int.reduceLT, Int.reduceLE, Int.reduceNeg, Int.reduceToNat, List.reduceReplicate, Int.ofNat_le, List.getElem?_drop]
    refine iteI (fun hlt => ?_) fun hge => ?_
    · have hlx : i < xs.length := by omega
      obtain ⟨w4, a4, hr⟩ := hru.rowI hlx
      obtain ⟨w5, a5, hr5⟩ := hrv.rowI hlt
      simp only [pw0, pw1, pw2, pw3, pw4, pw5, pw6, pw7, pw8, pw9, if_true, if_false, eq_self, nm_eq, reduceCtorEq, ↓reduceIte, Nat.reduceEqDiff, Nat.reduceLeDiff, Nat.reduceBEq, Nat.reduceAdd, Nat.reduceLT, Nat.reduceSub, Nat.reduceMul, Int.reduceEq, Int.reduceLT, Int.reduceLE, Int.reduceNeg, Int.reduceToNat, List.reduceReplicate, Int.ofNat_le, List.getElem?_drop, hlt, hr, hr5, List.getElem?_drop]
      refine ⟨okF125, Equal_ok rfl rfl (by have := hxl _ (List.getElem_mem hlx); omega) ?_⟩
      by_cases he : xs[i] = ys[i]
      · simp only [pw0, pw1, pw2, pw3, pw4, pw5, pw6, pw7, pw8, pw9, if_true, if_false, eq_self, nm_eq, reduceCtorEq, ↓reduceIte, Nat.reduceEqDiff, Nat.reduceLeDiff, Nat.reduceBEq, Nat.reduceAdd, Nat.reduceLT, Nat.reduceSub, Nat.reduceMul, Int.reduceEq, Int.reduceLT, Int.reduceLE, Int.reduceNeg, Int.reduceToNat, List.reduceReplicate, Int.ofNat_le, List.getElem?_drop, he, wrapS hlt (by omega : ys.length ≤ 4611686018427387904)]
        exact ⟨_, by omega, i + 1, by omega, rfl, rfl, eqTake hl hlx heq he⟩
      · simp only [pw0, pw1, pw2, pw3, pw4, pw5, pw6, pw7, pw8, pw9, if_true, if_false, eq_self, nm_eq, reduceCtorEq, ↓reduceIte, Nat.reduceEqDiff, Nat.reduceLeDiff, Nat.reduceBEq, Nat.reduceAdd, Nat.reduceLT, Nat.reduceSub, Nat.reduceMul, Int.reduceEq, Int.reduceLT, Int.reduceLE, Int.reduceNeg, Int.reduceToNat, List.reduceReplicate, Int.ofNat_le, List.getElem?_drop, he]
        refine hk _ (fl fun e => ?_)
        subst e
        exact he rfl
    · have hie : i = ys.length := by omega
      subst hie
      refine hk _ ⟨fun _ => ?_, fun _ => rfl⟩
      rw [List.take_of_length_le (by omega), List.take_of_length_le (Nat.le_refl _)] at heq
      exact heq
  · have hlI : ((xs.length : Int) = (ys.length : Int)) = False := by simp; omega
    simp only [pw0, pw1, pw2, pw3, pw4, pw5, pw6, pw7, pw8, pw9, if_true, if_false, eq_self, nm_eq, reduceCtorEq, ↓reduceIte, Nat.reduceEqDiff, Nat.reduceLeDiff, Nat.reduceBEq, Nat.reduceAdd, Nat.reduceLT, Nat.reduceSub, Nat.reduceMul, Int.reduceEq, Int.reduceLT, Int.reduceLE, Int.reduceNeg, Int.reduceToNat, List.reduceReplicate, Int.ofNat_le, List.getElem?_drop, hlI]
    exact hk _ (fl fun e => hl (by rw [e]))
theorem sameRows_ok {xs ys : List (List Int)} (hU : FII vU xs) (hV : FII vV ys) (hx : xs.length ≤ 1048576) (hxl : ∀ x ∈ xs, x.length ≤ 1048576) (hk : ∀ t : Bool, (t = true ↔ xs = ys) → K (.bool t) σ) :
    PCalls Try.prog 141 [vU, vV] σ K := by
  refine pcalls_of_vp mix Try.func141 cf141 rfl ?_
  dsimp only [if141, qI, eI, nI, qD, eD]
  simp only [pw0, pw1, pw2, pw3, pw4, pw5, pw6, pw7, pw8, pw9, if_true, if_false, eq_self, nm_eq, reduceCtorEq, ↓reduceIte, Nat.reduceEqDiff, Nat.reduceLeDiff, Nat.reduceBEq, Nat.reduceAdd, Nat.reduceLT, Nat.reduceSub, Nat.reduceMul, Int.reduceEq, Int.reduceLT, Int.reduceLE, Int.reduceNeg, Int.reduceToNat, List.reduceReplicate, Int.ofNat_le, List.getElem?_drop]
  refine EqualFunc_ok hU hV hx hxl fun t ht => ?_
  simp only [pw0, pw1, pw2, pw3, pw4, pw5, pw6, pw7, pw8, pw9, if_true, if_false, eq_self, nm_eq, reduceCtorEq, ↓reduceIte, Nat.reduceEqDiff, Nat.reduceLeDiff, Nat.reduceBEq, Nat.reduceAdd, Nat.reduceLT, Nat.reduceSub, Nat.reduceMul, Int.reduceEq, Int.reduceLT, Int.reduceLE, Int.reduceNeg, Int.reduceToNat, List.reduceReplicate, Int.ofNat_le, List.getElem?_drop]
  exact hk t ht
end Go.Proofs
/- The lower central series and the Lazard property, both sides. -/
set_option linter.unusedSimpArgs false
set_option linter.unusedVariables false
namespace Go.Proofs
open Go.Ab Go.Lie
variable {σ : PHeap} {K : PV → PHeap → Prop} {p p' : Int} {n : Nat} {W : List (List Int)} {B : List (List (List Int))} {vP vB vL vU vV : PV} {s : Nat}

theorem okF132 : okF Try.prog 132 = true := by kernel_rfl
theorem series_ok {b : Nat} (hb : σ.obj b = some [.ptr s 0]) (hbl : b < σ.next) (hs : PtrR σ s p vP vB) (hR : IsR vP vB W B) (o : OkW p n W) (q : OkB p n B) (hp : isP p) (hU : FII vU (units n))
    (hk : ∀ c a rows, Cls p n W B c → K (.fz true a (c + 1) rows) σ) : PCalls Try.prog 130 [vU, .clo 132 [] [.ptr b 0]] σ K := by
  have hn6 := o.le
  have h1 := hU.one
  have h1c := hU.cells
  refine PCalls.gh ?_
  refine pcalls_of_vp mix Try.func130 cf130 rfl ?_
  dsimp only [if130, qI, eI, nI, qD, eD]
  simp only [pw0, pw1, pw2, pw3, pw4, pw5, pw6, pw7, pw8, pw9, if_true, if_false, eq_self, nm_eq, reduceCtorEq, ↓reduceIte, Nat.reduceEqDiff, Nat.reduceLeDiff, Nat.reduceBEq, Nat.reduceAdd, Nat.reduceLT, Nat.reduceSub, Nat.reduceMul, Int.reduceEq, Int.reduceLT, Int.reduceLE, Int.reduceNeg, Int.reduceToNat, List.reduceReplicate, Int.ofNat_le, List.getElem?_drop, h1, h1c]
  refine vp_loop (fun m vs h' => ∃ k u us rows v, m = n + 1 - k ∧ k ≤ n + 1 ∧ vs = [.clo 132 [] [.ptr b 0], v] ∧ Keep σ h' ∧ PSl σ.next 1 h' v (k + 1) rows ∧ All2 FII rows us ∧ us.length = k + 1 ∧ us[k]? = some u ∧ Low p n W B k u ∧ ∀ j u', j < k → Low p n W B j u' → u' ≠ []) (n + 1) ?_ ?_
  · exact ⟨0, units n, [units n], [vU], _, by omega, by omega, rfl, keep_new σ _, PSl.new _ 1 rfl (Nat.le_refl _), All2.nil _ |>.snoc hU, rfl, rfl, .zero, fun j u' hj => by omega⟩
  rintro m vs h' ⟨k, u, us, rows, v, rfl, hkn, rfl, hkp, ha, hall, hul, huk, hlow, hbef⟩
  obtain ⟨s', cap, rfl, hc, q2, q3, q4, q5⟩ := ha
  have hku : k < us.length := by omega
  obtain ⟨vk, hvk, hFk⟩ := hall.get hku
  have huk' : us[k] = u := by rw [List.getElem?_eq_getElem hku] at huk; exact Option.some.inj huk
  rw [huk'] at hFk
  have hrd : h'.rd1 s' k = some vk := by rw [obj_rd1 q2]; exact hvk
  have hw : IntKind.i64.wrap (((k + 1 : Nat) : Int) - 1) = (k : Int) := by rw [wrap64 (by omega) (by omega)]; omega
  have hkk : k < k + 1 := Nat.lt_succ_self k
  obtain ⟨e1, e2⟩ := hlow.els o
  have hb' : h'.rd1 b 0 = some (.ptr s 0) := by rw [obj_rd1 (by rw [hkp.obj b hbl]; exact hb)]; rfl
  have hFF := hFk
  obtain ⟨wk, ak, rk, rfl, hrk⟩ := hFk
  simp only [pw0, pw1, pw2, pw3, pw4, pw5, pw6, pw7, pw8, pw9, if_true, if_false, eq_self, nm_eq, reduceCtorEq, ↓reduceIte, Nat.reduceEqDiff, Nat.reduceLeDiff, Nat.reduceBEq, Nat.reduceAdd, Nat.reduceLT, Nat.reduceSub, Nat.reduceMul, Int.reduceEq, Int.reduceLT, Int.reduceLE, Int.reduceNeg, Int.reduceToNat, List.reduceReplicate, Int.ofNat_le, List.getElem?_drop, hw, hkk, hrd]
  refine ⟨okF132, next_ok hb' (hs.keep hkp) hR o q hp hFF e1 (by omega) fun vo out hcan hFo => ?_⟩
  have hFFo := hFo
  obtain ⟨wo, ao, ro, rfl, hro⟩ := hFo
  have hol : out.length ≤ n := asc_length (fun v hv => (hcan.base.led v hv).2.1) hcan.base.asc
  simp only [pw0, pw1, pw2, pw3, pw4, pw5, pw6, pw7, pw8, pw9, if_true, if_false, eq_self, nm_eq, reduceCtorEq, ↓reduceIte, Nat.reduceEqDiff, Nat.reduceLeDiff, Nat.reduceBEq, Nat.reduceAdd, Nat.reduceLT, Nat.reduceSub, Nat.reduceMul, Int.reduceEq, Int.reduceLT, Int.reduceLE, Int.reduceNeg, Int.reduceToNat, List.reduceReplicate, Int.ofNat_le, List.getElem?_drop, hw, hkk, hrd]
  refine sameRows_ok hFFo hFF (by omega) (fun x hx => by rw [(hcan.base.els x hx).1]; omega) fun t ht => ?_
  cases t
  · have hne : out ≠ u := fun e => by have := ht.2 e; cases this
    have hune : u ≠ [] := fun e => by
      subst e
      exact hne (nil_nil o q hcan)
    have hkn' := hlow.le o q hune
    simp only [pw0, pw1, pw2, pw3, pw4, pw5, pw6, pw7, pw8, pw9, if_true, if_false, eq_self, nm_eq, reduceCtorEq, ↓reduceIte, Nat.reduceEqDiff, Nat.reduceLeDiff, Nat.reduceBEq, Nat.reduceAdd, Nat.reduceLT, Nat.reduceSub, Nat.reduceMul, Int.reduceEq, Int.reduceLT, Int.reduceLE, Int.reduceNeg, Int.reduceToNat, List.reduceReplicate, Int.ofNat_le, List.getElem?_drop]
    refine PSl.push (bytes := 24) (σb := σ) hkp ⟨s', cap, rfl, hc, q2, q3, q4, q5⟩ (by omega) (by omega) fun v2 h2 k2 a2 => ?_
    simp only [pw0, pw1, pw2, pw3, pw4, pw5, pw6, pw7, pw8, pw9, if_true, if_false, eq_self, nm_eq, reduceCtorEq, ↓reduceIte, Nat.reduceEqDiff, Nat.reduceLeDiff, Nat.reduceBEq, Nat.reduceAdd, Nat.reduceLT, Nat.reduceSub, Nat.reduceMul, Int.reduceEq, Int.reduceLT, Int.reduceLE, Int.reduceNeg, Int.reduceToNat, List.reduceReplicate, Int.ofNat_le, List.getElem?_drop]
    refine ⟨_, ?_, k + 1, out, us ++ [out], _, v2, rfl, by omega, rfl, k2, a2, hall.snoc hFFo, by rw [List.length_append, hul]; rfl, ?_, .succ hlow hcan, fun j u' hj hl => ?_⟩
    · omega
    · rw [List.getElem?_append_right (by omega), hul, Nat.sub_self]; rfl
    · by_cases x : j = k
      · subst x
        rw [hl.unique o hlow]; exact hune
      · exact hbef j u' (by omega) hl
  · obtain rfl : out = u := ht.1 rfl
    obtain rfl : out = [] := same_nil o q hcan
    simp only [pw0, pw1, pw2, pw3, pw4, pw5, pw6, pw7, pw8, pw9, if_true, if_false, eq_self, nm_eq, reduceCtorEq, ↓reduceIte, Nat.reduceEqDiff, Nat.reduceLeDiff, Nat.reduceBEq, Nat.reduceAdd, Nat.reduceLT, Nat.reduceSub, Nat.reduceMul, Int.reduceEq, Int.reduceLT, Int.reduceLE, Int.reduceNeg, Int.reduceToNat, List.reduceReplicate, Int.ofNat_le, List.getElem?_drop]
    exact Gh.finF hkp q2 q4 (hall.bL 0) hc.ok fun o1 => hk k _ _ ⟨hlow, hbef⟩

theorem lowerLie_ok (hs : PtrR σ s p vP vB) (hR : IsR vP vB W B) (o : OkW p n W) (q : OkB p n B) (hp : isP p) (hk : ∀ c a rows, Cls p n W B c → K (.fz true a (c + 1) rows) σ) : PCalls Try.prog 100 [.ptr s 0] σ K := by
  have hn6 := o.le
  refine PCalls.gh ?_
  refine pcalls_of_vp mix Try.func100 cf100 rfl ?_
  dsimp only [if100, qI, eI, nI, qD, eD]
  simp only [pw0, pw1, pw2, pw3, pw4, pw5, pw6, pw7, pw8, pw9, if_true, if_false, eq_self, nm_eq, reduceCtorEq, ↓reduceIte, Nat.reduceEqDiff, Nat.reduceLeDiff, Nat.reduceBEq, Nat.reduceAdd, Nat.reduceLT, Nat.reduceSub, Nat.reduceMul, Int.reduceEq, Int.reduceLT, Int.reduceLE, Int.reduceNeg, Int.reduceToNat, List.reduceReplicate, Int.ofNat_le, List.getElem?_drop]
  have hs1 := hs.new [.ptr s 0]
  refine wholeLie_ok hs1 hR.P o.len (by omega) fun vV hV => ?_
  have hVV := hV
  obtain ⟨wv, av, rv, rfl, hrv⟩ := hV
  simp only [pw0, pw1, pw2, pw3, pw4, pw5, pw6, pw7, pw8, pw9, if_true, if_false, eq_self, nm_eq, reduceCtorEq, ↓reduceIte, Nat.reduceEqDiff, Nat.reduceLeDiff, Nat.reduceBEq, Nat.reduceAdd, Nat.reduceLT, Nat.reduceSub, Nat.reduceMul, Int.reduceEq, Int.reduceLT, Int.reduceLE, Int.reduceNeg, Int.reduceToNat, List.reduceReplicate, Int.ofNat_le, List.getElem?_drop]
  refine series_ok (b := σ.next) (by simp only [pw0, pw1, pw2, pw3, pw4, pw5, pw6, pw7, pw8, pw9, if_true, if_false, eq_self, nm_eq, reduceCtorEq, ↓reduceIte, Nat.reduceEqDiff, Nat.reduceLeDiff, Nat.reduceBEq, Nat.reduceAdd, Nat.reduceLT, Nat.reduceSub, Nat.reduceMul, Int.reduceEq, Int.reduceLT, Int.reduceLE, Int.reduceNeg, Int.reduceToNat, List.reduceReplicate, Int.ofNat_le, List.getElem?_drop]) (by simp only [pw0, pw1, pw2, pw3, pw4, pw5, pw6, pw7, pw8, pw9, if_true, if_false, eq_self, nm_eq, reduceCtorEq, ↓reduceIte, Nat.reduceEqDiff, Nat.reduceLeDiff, Nat.reduceBEq, Nat.reduceAdd, Nat.reduceLT, Nat.reduceSub, Nat.reduceMul, Int.reduceEq, Int.reduceLT, Int.reduceLE, Int.reduceNeg, Int.reduceToNat, List.reduceReplicate, Int.ofNat_le, List.getElem?_drop]) hs1 hR o q hp hVV fun c a rows hc => ?_
  simp only [pw0, pw1, pw2, pw3, pw4, pw5, pw6, pw7, pw8, pw9, if_true, if_false, eq_self, nm_eq, reduceCtorEq, ↓reduceIte, Nat.reduceEqDiff, Nat.reduceLeDiff, Nat.reduceBEq, Nat.reduceAdd, Nat.reduceLT, Nat.reduceSub, Nat.reduceMul, Int.reduceEq, Int.reduceLT, Int.reduceLE, Int.reduceNeg, Int.reduceToNat, List.reduceReplicate, Int.ofNat_le, List.getElem?_drop]
  exact Gh.fin0 (keep_new σ _) trivial (hk c a rows hc)

def isLz (p : Int) (n : Nat) (W : List (List Int)) (B : List (List (List Int))) : Prop := ∃ c, Cls p n W B c ∧ (c : Int) < p
theorem lz_iff {c : Nat} (h : Cls p n W B c) : isLz p n W B ↔ (c : Int) < p := ⟨fun ⟨d, h1, h2⟩ => by rw [h.unique h1]; exact h2, fun e => ⟨c, h, e⟩⟩

theorem isLazard_ok (hs : PtrR σ s p vP vB) (hR : IsR vP vB W B) (o : OkW p n W) (q : OkB p n B) (hp : isP p) (hk : ∀ t : Bool, (t = true ↔ isLz p n W B) → K (.bool t) σ) : PCalls Try.prog 62 [.ptr s 0] σ K := by
  have hn6 := o.le
  have hp0 : σ.rd1 s 0 = some (.int .i64 p) := by rw [obj_rd1 hs.obj]; rfl
  refine pcalls_of_vp mix Try.func62 cf62 rfl ?_
  dsimp only [if62, qI, eI, nI, qD, eD]
  simp only [pw0, pw1, pw2, pw3, pw4, pw5, pw6, pw7, pw8, pw9, if_true, if_false, eq_self, nm_eq, reduceCtorEq, ↓reduceIte, Nat.reduceEqDiff, Nat.reduceLeDiff, Nat.reduceBEq, Nat.reduceAdd, Nat.reduceLT, Nat.reduceSub, Nat.reduceMul, Int.reduceEq, Int.reduceLT, Int.reduceLE, Int.reduceNeg, Int.reduceToNat, List.reduceReplicate, Int.ofNat_le, List.getElem?_drop, hp0]
  refine lowerLie_ok hs hR o q hp fun c a rows hc => ?_
  have hcn : c ≤ n + 1 := by
    rcases Nat.lt_or_ge n c with x | x
    · obtain ⟨c', rfl⟩ : ∃ c', c = c' + 1 := ⟨c - 1, by omega⟩
      obtain ⟨h1, h2⟩ := hc
      cases h1 with
      | succ h hcan => exact Nat.succ_le_succ (h.le o q (h2 _ _ (Nat.lt_succ_self _) h))
    · omega
  have hw : IntKind.i64.wrap (((c + 1 : Nat) : Int) - 1) = (c : Int) := by rw [wrap64 (by omega) (by omega)]; omega
  simp only [pw0, pw1, pw2, pw3, pw4, pw5, pw6, pw7, pw8, pw9, if_true, if_false, eq_self, nm_eq, reduceCtorEq, ↓reduceIte, Nat.reduceEqDiff, Nat.reduceLeDiff, Nat.reduceBEq, Nat.reduceAdd, Nat.reduceLT, Nat.reduceSub, Nat.reduceMul, Int.reduceEq, Int.reduceLT, Int.reduceLE, Int.reduceNeg, Int.reduceToNat, List.reduceReplicate, Int.ofNat_le, List.getElem?_drop, hw]
  refine ⟨hp0, hk _ ?_⟩
  rw [lz_iff hc, decide_eq_true_eq]

def isLaz (p : Int) (W : List (List Int)) (B : List (List (List Int))) : Prop := isLie p W B ∧ isLz p W.length W B
theorem IsLazard_ok (hR : IsR vP vB W B) (sz : SzR W B) (hk : ∀ t : Bool, (t = true ↔ isLaz p W B) → K (.bool t) σ) : PCalls Try.prog 24 [.agg [.int .i64 p, vP, vB]] σ K := by
  have fl : ∀ {A : Prop}, ¬ A → ((false = true) ↔ A) := fun h => ⟨fun x => (by cases x), fun x => absurd x h⟩
  have h1 := hR.P.one
  have h2 := hR.B.one
  refine PCalls.gh ?_
  refine pcalls_of_vp mix Try.func24 cf24 rfl ?_
  dsimp only [if24, qI, eI, nI, qD, eD]
  simp only [pw0, pw1, pw2, pw3, pw4, pw5, pw6, pw7, pw8, pw9, if_true, if_false, eq_self, nm_eq, reduceCtorEq, ↓reduceIte, Nat.reduceEqDiff, Nat.reduceLeDiff, Nat.reduceBEq, Nat.reduceAdd, Nat.reduceLT, Nat.reduceSub, Nat.reduceMul, Int.reduceEq, Int.reduceLT, Int.reduceLE, Int.reduceNeg, Int.reduceToNat, List.reduceReplicate, Int.ofNat_le, List.getElem?_drop, h1, h2]
  refine IsLieRing_ok hR sz fun t ht => ?_
  cases t
  · simp only [pw0, pw1, pw2, pw3, pw4, pw5, pw6, pw7, pw8, pw9, if_true, if_false, eq_self, nm_eq, reduceCtorEq, ↓reduceIte, Nat.reduceEqDiff, Nat.reduceLeDiff, Nat.reduceBEq, Nat.reduceAdd, Nat.reduceLT, Nat.reduceSub, Nat.reduceMul, Int.reduceEq, Int.reduceLT, Int.reduceLE, Int.reduceNeg, Int.reduceToNat, List.reduceReplicate, Int.ofNat_le, List.getElem?_drop]
    exact Gh.fin0 (keep_new σ _) trivial (hk _ (fl fun x => absurd (ht.2 x.1) (by simp)))
  · have hl := ht.1 rfl
    simp only [pw0, pw1, pw2, pw3, pw4, pw5, pw6, pw7, pw8, pw9, if_true, if_false, eq_self, nm_eq, reduceCtorEq, ↓reduceIte, Nat.reduceEqDiff, Nat.reduceLeDiff, Nat.reduceBEq, Nat.reduceAdd, Nat.reduceLT, Nat.reduceSub, Nat.reduceMul, Int.reduceEq, Int.reduceLT, Int.reduceLE, Int.reduceNeg, Int.reduceToNat, List.reduceReplicate, Int.ofNat_le, List.getElem?_drop]
    refine isLazard_ok (p := p) (vP := vP) (vB := vB) ⟨by simp only [pw0, pw1, pw2, pw3, pw4, pw5, pw6, pw7, pw8, pw9, if_true, if_false, eq_self, nm_eq, reduceCtorEq, ↓reduceIte, Nat.reduceEqDiff, Nat.reduceLeDiff, Nat.reduceBEq, Nat.reduceAdd, Nat.reduceLT, Nat.reduceSub, Nat.reduceMul, Int.reduceEq, Int.reduceLT, Int.reduceLE, Int.reduceNeg, Int.reduceToNat, List.reduceReplicate, Int.ofNat_le, List.getElem?_drop], by simp only [pw0, pw1, pw2, pw3, pw4, pw5, pw6, pw7, pw8, pw9, if_true, if_false, eq_self, nm_eq, reduceCtorEq, ↓reduceIte, Nat.reduceEqDiff, Nat.reduceLeDiff, Nat.reduceBEq, Nat.reduceAdd, Nat.reduceLT, Nat.reduceSub, Nat.reduceMul, Int.reduceEq, Int.reduceLT, Int.reduceLE, Int.reduceNeg, Int.reduceToNat, List.reduceReplicate, Int.ofNat_le, List.getElem?_drop]⟩ hR hl.1.w hl.1.b hl.1.1 fun t ht => ?_
    simp only [pw0, pw1, pw2, pw3, pw4, pw5, pw6, pw7, pw8, pw9, if_true, if_false, eq_self, nm_eq, reduceCtorEq, ↓reduceIte, Nat.reduceEqDiff, Nat.reduceLeDiff, Nat.reduceBEq, Nat.reduceAdd, Nat.reduceLT, Nat.reduceSub, Nat.reduceMul, Int.reduceEq, Int.reduceLT, Int.reduceLE, Int.reduceNeg, Int.reduceToNat, List.reduceReplicate, Int.ofNat_le, List.getElem?_drop]
    exact Gh.fin0 (keep_new σ _) trivial (hk _ ⟨fun e => ⟨hl, ht.1 e⟩, fun x => ht.2 x.2⟩)
end Go.Proofs
/- The lower central series and the Lazard property, the reference's side. -/
set_option linter.unusedSimpArgs false
set_option linter.unusedVariables false
namespace Go.Proofs
open Go.Ab Go.Lie
variable {σ : PHeap} {K : PV → PHeap → Prop} {p p' : Int} {n : Nat} {W : List (List Int)} {B : List (List (List Int))} {vP vB vL vU vV : PV} {s : Nat}

theorem l32Brackets_ok {u v : List (List Int)} (hR : IsR vP vB W B) (o : OkW p n W) (q : OkB p n B) (hp : isP p) (hU : FII vU u) (hV : FII vV v) (eu : Els p n u) (ev : Els p n v) (hul : u.length ≤ 6) (hvl : v.length ≤ 6)
    (hk : ∀ z out, Canon p n W (brL p W B n u v) out → FII z out → K z σ) : PCalls Try.prog 140 [.agg [.int .i64 p, vP, vB], vU, vV] σ K := by
  have h1 := hR.P.one
  have h2 := hR.B.one
  obtain ⟨wu, au, ru, rfl, hru⟩ := hU
  obtain ⟨wv, av, rv, rfl, hrv⟩ := hV
  have bnd : ∀ (i j : Nat), i < u.length → j ≤ v.length → (brL p W B n (u.take i) v ++ (v.take j).map fun y => br p W B n (u.getD i []) y).length ≤ 42 := fun i j hi hj => by
    rw [List.length_append, brL_length, List.length_map, List.length_take, List.length_take]
    have : min i u.length * v.length ≤ 6 * 6 := Nat.mul_le_mul (by omega) hvl
    omega
  refine PCalls.gh ?_
  refine pcalls_of_vp mix Try.func140 cf140 rfl ?_
  dsimp only [if140, qI, eI, nI, qD, eD]
  simp only [pw0, pw1, pw2, pw3, pw4, pw5, pw6, pw7, pw8, pw9, if_true, if_false, eq_self, nm_eq, reduceCtorEq, ↓reduceIte, Nat.reduceEqDiff, Nat.reduceLeDiff, Nat.reduceBEq, Nat.reduceAdd, Nat.reduceLT, Nat.reduceSub, Nat.reduceMul, Int.reduceEq, Int.reduceLT, Int.reduceLE, Int.reduceNeg, Int.reduceToNat, List.reduceReplicate, Int.ofNat_le, List.getElem?_drop, h1, h2]
  generalize hH : σ.new [.int .i64 p, vP, vB] = H
  have hHn : H.next = σ.next + 1 := by rw [← hH]; simp only [pw0, pw1, pw2, pw3, pw4, pw5, pw6, pw7, pw8, pw9, if_true, if_false, eq_self, nm_eq, reduceCtorEq, ↓reduceIte, Nat.reduceEqDiff, Nat.reduceLeDiff, Nat.reduceBEq, Nat.reduceAdd, Nat.reduceLT, Nat.reduceSub, Nat.reduceMul, Int.reduceEq, Int.reduceLT, Int.reduceLE, Int.reduceNeg, Int.reduceToNat, List.reduceReplicate, Int.ofNat_le, List.getElem?_drop]
  have hHk : Keep σ H := by rw [← hH]; exact keep_new σ _
  have hob : H.obj σ.next = some [.int .i64 p, vP, vB] := by rw [← hH]; simp only [pw0, pw1, pw2, pw3, pw4, pw5, pw6, pw7, pw8, pw9, if_true, if_false, eq_self, nm_eq, reduceCtorEq, ↓reduceIte, Nat.reduceEqDiff, Nat.reduceLeDiff, Nat.reduceBEq, Nat.reduceAdd, Nat.reduceLT, Nat.reduceSub, Nat.reduceMul, Int.reduceEq, Int.reduceLT, Int.reduceLE, Int.reduceNeg, Int.reduceToNat, List.reduceReplicate, Int.ofNat_le, List.getElem?_drop]
  refine vp_loop (fun m vs h' => ∃ (i : Nat) (z : PV) (rows : List PV), i ≤ u.length ∧ m = u.length - i ∧ vs = [.fz wu au u.length ru, .fz wv av v.length rv, .ptr σ.next 0, z, .int .i64 i] ∧ Keep H h' ∧ PSl H.next 1 h' z (brL p W B n (u.take i) v).length rows ∧ All2 FI rows (brL p W B n (u.take i) v)) u.length ?_ ?_
  · refine ⟨0, _, [], by omega, by omega, rfl, keep_new H _, ?_, by rw [List.take_zero]; exact All2.nil _⟩
    rw [← hHn]
    exact PSl.new H.next 1 rfl (Nat.le_refl _)
  rintro m vs h' ⟨i, z, rows, hi, rfl, rfl, hkp, ha, hrows⟩
  simp only [pw0, pw1, pw2, pw3, pw4, pw5, pw6, pw7, pw8, pw9, if_true, if_false, eq_self, nm_eq, reduceCtorEq, ↓reduceIte, Nat.reduceEqDiff, Nat.reduceLeDiff, Nat.reduceBEq, Nat.reduceAdd, Nat.reduceLT, Nat.reduceSub, Nat.reduceMul, Int.reduceEq, Int.reduceLT, Int.reduceLE, Int.reduceNeg, Int.reduceToNat, List.reduceReplicate, Int.ofNat_le, List.getElem?_drop]
  refine iteI (fun hlt => ?_) fun hge => ?_
  · obtain ⟨w4, a4, hr⟩ := hru.rowI hlt
    have hui := eu _ (List.getElem_mem hlt)
    have hgd : u.getD i [] = u[i] := by simp [List.getD_eq_getElem?_getD, hlt]
    refine vp_loop (fun m vs h' => ∃ (j : Nat) (z : PV) (rows : List PV), j ≤ v.length ∧ m = v.length - j ∧ vs = [.fz wu au u.length ru, .fz wv av v.length rv, .ptr σ.next 0, z, .int .i64 i, .int .i64 j] ∧ Keep H h' ∧
      PSl H.next 1 h' z (brL p W B n (u.take i) v ++ (v.take j).map fun y => br p W B n (u.getD i []) y).length rows ∧ All2 FI rows (brL p W B n (u.take i) v ++ (v.take j).map fun y => br p W B n (u.getD i []) y)) v.length ?_ ?_
    · exact ⟨0, z, rows, by omega, by omega, rfl, hkp, by simpa using ha, by simpa using hrows⟩
    clear hkp ha hrows z rows
    rintro m vs h' ⟨j, z, rows, hj, rfl, rfl, hkp, ha, hrows⟩
    have hob' : h'.obj σ.next = some [.int .i64 p, vP, vB] := by rw [hkp.obj _ (by omega)]; exact hob
    have hr3 : h'.rd σ.next 0 3 = some [.int .i64 p, vP, vB] := by rw [obj_rd hob']; rfl
    simp only [pw0, pw1, pw2, pw3, pw4, pw5, pw6, pw7, pw8, pw9, if_true, if_false, eq_self, nm_eq, reduceCtorEq, ↓reduceIte, Nat.reduceEqDiff, Nat.reduceLeDiff, Nat.reduceBEq, Nat.reduceAdd, Nat.reduceLT, Nat.reduceSub, Nat.reduceMul, Int.reduceEq, Int.reduceLT, Int.reduceLE, Int.reduceNeg, Int.reduceToNat, List.reduceReplicate, Int.ofNat_le, List.getElem?_drop]
    refine iteI (fun hlj => ?_) fun hgj => ?_
    · obtain ⟨w5, a5, hr5⟩ := hrv.rowI hlj
      have hvj := ev _ (List.getElem_mem hlj)
      simp only [pw0, pw1, pw2, pw3, pw4, pw5, pw6, pw7, pw8, pw9, if_true, if_false, eq_self, nm_eq, reduceCtorEq, ↓reduceIte, Nat.reduceEqDiff, Nat.reduceLeDiff, Nat.reduceBEq, Nat.reduceAdd, Nat.reduceLT, Nat.reduceSub, Nat.reduceMul, Int.reduceEq, Int.reduceLT, Int.reduceLE, Int.reduceNeg, Int.reduceToNat, List.reduceReplicate, Int.ofNat_le, List.getElem?_drop, hlj, hr5, hlt, hr, hr3, List.getElem?_drop]
      refine l31Bracket_ok hR o q hui hvj rfl rfl fun a6 => ?_
      have hb := bnd i j hlt hj
      simp only [pw0, pw1, pw2, pw3, pw4, pw5, pw6, pw7, pw8, pw9, if_true, if_false, eq_self, nm_eq, reduceCtorEq, ↓reduceIte, Nat.reduceEqDiff, Nat.reduceLeDiff, Nat.reduceBEq, Nat.reduceAdd, Nat.reduceLT, Nat.reduceSub, Nat.reduceMul, Int.reduceEq, Int.reduceLT, Int.reduceLE, Int.reduceNeg, Int.reduceToNat, List.reduceReplicate, Int.ofNat_le, List.getElem?_drop]
      refine PSl.push (bytes := 24) hkp ha (by omega) (by omega) fun v' h2 k2 a2 => ?_
      simp only [pw0, pw1, pw2, pw3, pw4, pw5, pw6, pw7, pw8, pw9, if_true, if_false, eq_self, nm_eq, reduceCtorEq, ↓reduceIte, Nat.reduceEqDiff, Nat.reduceLeDiff, Nat.reduceBEq, Nat.reduceAdd, Nat.reduceLT, Nat.reduceSub, Nat.reduceMul, Int.reduceEq, Int.reduceLT, Int.reduceLE, Int.reduceNeg, Int.reduceToNat, List.reduceReplicate, Int.ofNat_le, List.getElem?_drop, wrapS hlj (by omega : v.length ≤ 4611686018427387904)]
      have e : (brL p W B n (u.take i) v ++ (v.take (j + 1)).map fun y => br p W B n (u.getD i []) y) = (brL p W B n (u.take i) v ++ (v.take j).map fun y => br p W B n (u.getD i []) y) ++ [br p W B n u[i] v[j]] := by
        rw [List.take_succ_eq_append_getElem hlj, List.map_append, List.append_assoc, hgd]; rfl
      refine ⟨_, by omega, j + 1, v', rows ++ [.fz true a6 n (pis (br p W B n u[i] v[j]))], by omega, rfl, rfl, k2, ?_, ?_⟩
      · rw [e, List.length_append]
        exact a2
      · rw [e]
        exact hrows.snoc ⟨true, a6, by rw [(br_el o q).1]⟩
    · have hje : j = v.length := by omega
      subst hje
      have e : (brL p W B n (u.take i) v ++ (v.take v.length).map fun y => br p W B n (u.getD i []) y) = brL p W B n (u.take (i + 1)) v := by
        rw [List.take_length, List.take_succ_eq_append_getElem hlt, brL_snoc, hgd]
      rw [e] at ha hrows
      simp only [pw0, pw1, pw2, pw3, pw4, pw5, pw6, pw7, pw8, pw9, if_true, if_false, eq_self, nm_eq, reduceCtorEq, ↓reduceIte, Nat.reduceEqDiff, Nat.reduceLeDiff, Nat.reduceBEq, Nat.reduceAdd, Nat.reduceLT, Nat.reduceSub, Nat.reduceMul, Int.reduceEq, Int.reduceLT, Int.reduceLE, Int.reduceNeg, Int.reduceToNat, List.reduceReplicate, Int.ofNat_le, List.getElem?_drop, wrapS hlt (by omega : u.length ≤ 4611686018427387904)]
      exact ⟨_, by omega, i + 1, z, rows, by omega, rfl, rfl, hkp, ha, hrows⟩
  · have hie : i = u.length := by omega
    subst hie
    rw [List.take_length] at ha hrows
    obtain ⟨s', cap, rfl, hc, q2, q3, q4, q5⟩ := ha
    have hob' : h'.obj σ.next = some [.int .i64 p, vP, vB] := by rw [hkp.obj _ (by omega)]; exact hob
    have hr3 : h'.rd σ.next 0 3 = some [.int .i64 p, vP, vB] := by rw [obj_rd hob']; rfl
    simp only [pw0, pw1, pw2, pw3, pw4, pw5, pw6, pw7, pw8, pw9, if_true, if_false, eq_self, nm_eq, reduceCtorEq, ↓reduceIte, Nat.reduceEqDiff, Nat.reduceLeDiff, Nat.reduceBEq, Nat.reduceAdd, Nat.reduceLT, Nat.reduceSub, Nat.reduceMul, Int.reduceEq, Int.reduceLT, Int.reduceLE, Int.reduceNeg, Int.reduceToNat, List.reduceReplicate, Int.ofNat_le, List.getElem?_drop, hr3]
    refine PCalls.frz q2 (hrows.bI 0) fun o1 => ?_
    have hl : (brL p W B n u v).length ≤ 1048576 := by
      rw [brL_length]
      have : u.length * v.length ≤ 6 * 6 := Nat.mul_le_mul hul hvl
      omega
    obtain ⟨⟨wp, ap, rp, rfl, hrp⟩, wb, ab, rb, rfl, hrb⟩ := hR
    simp only [sbs, sb, hc.ok, and_self, if_true]
    refine l32Span_ok ⟨⟨wp, ap, rp, rfl, hrp⟩, wb, ab, rb, rfl, hrb⟩ o hp ⟨true, _, rows, rfl, hrows⟩ (brL_els o q _ _) hl fun z out hcan hz => ?_
    obtain ⟨wz, az, rz, rfl, hrz⟩ := hz
    simp only [pw0, pw1, pw2, pw3, pw4, pw5, pw6, pw7, pw8, pw9, if_true, if_false, eq_self, nm_eq, reduceCtorEq, ↓reduceIte, Nat.reduceEqDiff, Nat.reduceLeDiff, Nat.reduceBEq, Nat.reduceAdd, Nat.reduceLT, Nat.reduceSub, Nat.reduceMul, Int.reduceEq, Int.reduceLT, Int.reduceLE, Int.reduceNeg, Int.reduceToNat, List.reduceReplicate, Int.ofNat_le, List.getElem?_drop]
    exact Gh.fin0 ((hHk.trans hkp).kill (by omega)) trivial (hk _ out hcan ⟨wz, az, rz, rfl, hrz⟩)

theorem l32Lower_ok (hR : IsR vP vB W B) (o : OkW p n W) (q : OkB p n B) (hp : isP p) (hk : ∀ c a rows, Cls p n W B c → K (.fz true a (c + 1) rows) σ) : PCalls Try.prog 127 [.agg [.int .i64 p, vP, vB]] σ K := by
  have hn6 := o.le
  have h1 := hR.P.one
  have h2 := hR.B.one
  refine PCalls.gh ?_
  refine pcalls_of_vp mix Try.func127 cf127 rfl ?_
  dsimp only [if127, qI, eI, nI, qD, eD]
  simp only [pw0, pw1, pw2, pw3, pw4, pw5, pw6, pw7, pw8, pw9, if_true, if_false, eq_self, nm_eq, reduceCtorEq, ↓reduceIte, Nat.reduceEqDiff, Nat.reduceLeDiff, Nat.reduceBEq, Nat.reduceAdd, Nat.reduceLT, Nat.reduceSub, Nat.reduceMul, Int.reduceEq, Int.reduceLT, Int.reduceLE, Int.reduceNeg, Int.reduceToNat, List.reduceReplicate, Int.ofNat_le, List.getElem?_drop, h1, h2]
  generalize hH : σ.new [.int .i64 p, vP, vB] = H
  have hHn : H.next = σ.next + 1 := by rw [← hH]; simp only [pw0, pw1, pw2, pw3, pw4, pw5, pw6, pw7, pw8, pw9, if_true, if_false, eq_self, nm_eq, reduceCtorEq, ↓reduceIte, Nat.reduceEqDiff, Nat.reduceLeDiff, Nat.reduceBEq, Nat.reduceAdd, Nat.reduceLT, Nat.reduceSub, Nat.reduceMul, Int.reduceEq, Int.reduceLT, Int.reduceLE, Int.reduceNeg, Int.reduceToNat, List.reduceReplicate, Int.ofNat_le, List.getElem?_drop]
  have hHk : Keep σ H := by rw [← hH]; exact keep_new σ _
  have hob : H.obj σ.next = some [.int .i64 p, vP, vB] := by rw [← hH]; simp only [pw0, pw1, pw2, pw3, pw4, pw5, pw6, pw7, pw8, pw9, if_true, if_false, eq_self, nm_eq, reduceCtorEq, ↓reduceIte, Nat.reduceEqDiff, Nat.reduceLeDiff, Nat.reduceBEq, Nat.reduceAdd, Nat.reduceLT, Nat.reduceSub, Nat.reduceMul, Int.reduceEq, Int.reduceLT, Int.reduceLE, Int.reduceNeg, Int.reduceToNat, List.reduceReplicate, Int.ofNat_le, List.getElem?_drop]
  refine l32Whole_ok hR o.len (by omega) fun vV hV => ?_
  have hVV := hV
  obtain ⟨wv, av, rv, rfl, hrv⟩ := hV
  simp only [pw0, pw1, pw2, pw3, pw4, pw5, pw6, pw7, pw8, pw9, if_true, if_false, eq_self, nm_eq, reduceCtorEq, ↓reduceIte, Nat.reduceEqDiff, Nat.reduceLeDiff, Nat.reduceBEq, Nat.reduceAdd, Nat.reduceLT, Nat.reduceSub, Nat.reduceMul, Int.reduceEq, Int.reduceLT, Int.reduceLE, Int.reduceNeg, Int.reduceToNat, List.reduceReplicate, Int.ofNat_le, List.getElem?_drop]
  refine vp_loop (fun m vs h' => ∃ k u us rows v vU, m = n + 1 - k ∧ k ≤ n + 1 ∧ vs = [.ptr σ.next 0, vU, v] ∧ Keep H h' ∧ PSl H.next 1 h' v (k + 1) rows ∧ All2 FII rows us ∧ us.length = k + 1 ∧ FII vU u ∧ Low p n W B k u ∧ ∀ j u', j < k → Low p n W B j u' → u' ≠ []) (n + 1) ?_ ?_
  · refine ⟨0, units n, [units n], [_], _, _, by omega, by omega, rfl, keep_new H _, PSl.new _ 1 rfl (Nat.le_refl _), All2.nil _ |>.snoc hVV, rfl, hVV, .zero, fun j u' hj => by omega⟩
  rintro m vs h' ⟨k, u, us, rows, v, vU, rfl, hkn, rfl, hkp, ha, hall, hul, hFU, hlow, hbef⟩
  have hob' : h'.obj σ.next = some [.int .i64 p, vP, vB] := by rw [hkp.obj _ (by omega)]; exact hob
  have hr3 : h'.rd σ.next 0 3 = some [.int .i64 p, vP, vB] := by rw [obj_rd hob']; rfl
  obtain ⟨e1, e2⟩ := hlow.els o
  have hFF := hFU
  obtain ⟨wk, ak, rk, rfl, hrk⟩ := hFU
  by_cases hu : u = []
  · subst hu
    obtain ⟨s', cap, rfl, hc, q2, q3, q4, q5⟩ := ha
    simp only [pw0, pw1, pw2, pw3, pw4, pw5, pw6, pw7, pw8, pw9, if_true, if_false, eq_self, nm_eq, reduceCtorEq, ↓reduceIte, Nat.reduceEqDiff, Nat.reduceLeDiff, Nat.reduceBEq, Nat.reduceAdd, Nat.reduceLT, Nat.reduceSub, Nat.reduceMul, Int.reduceEq, Int.reduceLT, Int.reduceLE, Int.reduceNeg, Int.reduceToNat, List.reduceReplicate, Int.ofNat_le, List.getElem?_drop, List.length_nil]
    exact Gh.finF (hHk.trans hkp) q2 (by omega) (hall.bL 0) hc.ok fun o1 => hk k _ _ ⟨hlow, hbef⟩
  · have hkn' := hlow.le o q hu
    have hpos : (0 : Int) < (u.length : Int) := by
      have : 0 < u.length := List.length_pos_iff.2 hu
      omega
    simp only [pw0, pw1, pw2, pw3, pw4, pw5, pw6, pw7, pw8, pw9, if_true, if_false, eq_self, nm_eq, reduceCtorEq, ↓reduceIte, Nat.reduceEqDiff, Nat.reduceLeDiff, Nat.reduceBEq, Nat.reduceAdd, Nat.reduceLT, Nat.reduceSub, Nat.reduceMul, Int.reduceEq, Int.reduceLT, Int.reduceLE, Int.reduceNeg, Int.reduceToNat, List.reduceReplicate, Int.ofNat_le, List.getElem?_drop, hpos, hr3]
    refine l32Whole_ok hR o.len (by omega) fun vW hW => ?_
    have hWW := hW
    obtain ⟨ww, aw, rw', rfl, hrw⟩ := hW
    simp only [pw0, pw1, pw2, pw3, pw4, pw5, pw6, pw7, pw8, pw9, if_true, if_false, eq_self, nm_eq, reduceCtorEq, ↓reduceIte, Nat.reduceEqDiff, Nat.reduceLeDiff, Nat.reduceBEq, Nat.reduceAdd, Nat.reduceLT, Nat.reduceSub, Nat.reduceMul, Int.reduceEq, Int.reduceLT, Int.reduceLE, Int.reduceNeg, Int.reduceToNat, List.reduceReplicate, Int.ofNat_le, List.getElem?_drop, hr3]
    refine l32Brackets_ok hR o q hp hFF hWW e1 (units_els o.pr) (by omega) (by rw [units_length]; omega) fun z out hcan hz => ?_
    have hzz := hz
    obtain ⟨wz, az, rz, rfl, hrz⟩ := hz
    simp only [pw0, pw1, pw2, pw3, pw4, pw5, pw6, pw7, pw8, pw9, if_true, if_false, eq_self, nm_eq, reduceCtorEq, ↓reduceIte, Nat.reduceEqDiff, Nat.reduceLeDiff, Nat.reduceBEq, Nat.reduceAdd, Nat.reduceLT, Nat.reduceSub, Nat.reduceMul, Int.reduceEq, Int.reduceLT, Int.reduceLE, Int.reduceNeg, Int.reduceToNat, List.reduceReplicate, Int.ofNat_le, List.getElem?_drop, hr3]
    refine PSl.push (bytes := 24) hkp ha (by omega) (by omega) fun v2 h2 k2 a2 => ?_
    simp only [pw0, pw1, pw2, pw3, pw4, pw5, pw6, pw7, pw8, pw9, if_true, if_false, eq_self, nm_eq, reduceCtorEq, ↓reduceIte, Nat.reduceEqDiff, Nat.reduceLeDiff, Nat.reduceBEq, Nat.reduceAdd, Nat.reduceLT, Nat.reduceSub, Nat.reduceMul, Int.reduceEq, Int.reduceLT, Int.reduceLE, Int.reduceNeg, Int.reduceToNat, List.reduceReplicate, Int.ofNat_le, List.getElem?_drop]
    refine ⟨_, ?_, k + 1, out, us ++ [out], _, v2, _, rfl, by omega, rfl, k2, a2, hall.snoc hzz, by rw [List.length_append, hul]; rfl, hzz, .succ hlow hcan, fun j u' hj hl => ?_⟩
    · omega
    · by_cases x : j = k
      · subst x
        rw [hl.unique o hlow]; exact hu
      · exact hbef j u' (by omega) hl
end Go.Proofs
/- The Lazard property, the reference's side. -/
set_option linter.unusedSimpArgs false
set_option linter.unusedVariables false
namespace Go.Proofs
open Go.Ab Go.Lie
variable {σ : PHeap} {K : PV → PHeap → Prop} {p p' : Int} {n : Nat} {W : List (List Int)} {B : List (List (List Int))} {vP vB vL vU vV : PV} {s : Nat}

theorem Cls.le (o : OkW p n W) (q : OkB p n B) {c : Nat} (hc : Cls p n W B c) : c ≤ n + 1 := by
  rcases Nat.lt_or_ge n c with x | x
  · obtain ⟨c', rfl⟩ : ∃ c', c = c' + 1 := ⟨c - 1, by omega⟩
    obtain ⟨h1, h2⟩ := hc
    cases h1 with
    | succ h hcan => exact Nat.succ_le_succ (h.le o q (h2 _ _ (Nat.lt_succ_self _) h))
  · omega
theorem l32Class_ok (hR : IsR vP vB W B) (o : OkW p n W) (q : OkB p n B) (hp : isP p) (hk : ∀ c : Nat, Cls p n W B c → K (.int .i64 c) σ) : PCalls Try.prog 97 [.agg [.int .i64 p, vP, vB]] σ K := by
  have hn6 := o.le
  have h1 := hR.P.one
  have h2 := hR.B.one
  refine PCalls.gh ?_
  refine pcalls_of_vp mix Try.func97 cf97 rfl ?_
  dsimp only [if97, qI, eI, nI, qD, eD]
  simp only [pw0, pw1, pw2, pw3, pw4, pw5, pw6, pw7, pw8, pw9, if_true, if_false, eq_self, nm_eq, reduceCtorEq, ↓reduceIte, Nat.reduceEqDiff, Nat.reduceLeDiff, Nat.reduceBEq, Nat.reduceAdd, Nat.reduceLT, Nat.reduceSub, Nat.reduceMul, Int.reduceEq, Int.reduceLT, Int.reduceLE, Int.reduceNeg, Int.reduceToNat, List.reduceReplicate, Int.ofNat_le, List.getElem?_drop, h1, h2]
  refine l32Lower_ok hR o q hp fun c a rows hc => ?_
  have hcn := hc.le o q
  have hw : IntKind.i64.wrap (((c + 1 : Nat) : Int) - 1) = (c : Int) := by rw [wrap64 (by omega) (by omega)]; omega
  simp only [pw0, pw1, pw2, pw3, pw4, pw5, pw6, pw7, pw8, pw9, if_true, if_false, eq_self, nm_eq, reduceCtorEq, ↓reduceIte, Nat.reduceEqDiff, Nat.reduceLeDiff, Nat.reduceBEq, Nat.reduceAdd, Nat.reduceLT, Nat.reduceSub, Nat.reduceMul, Int.reduceEq, Int.reduceLT, Int.reduceLE, Int.reduceNeg, Int.reduceToNat, List.reduceReplicate, Int.ofNat_le, List.getElem?_drop, hw]
  exact Gh.fin0 (keep_new σ _) trivial (hk c hc)
theorem l33Is_ok (hR : IsR vP vB W B) (o : OkW p n W) (q : OkB p n B) (hp : isP p) (hk : ∀ t : Bool, (t = true ↔ isLz p n W B) → K (.bool t) σ) : PCalls Try.prog 60 [.agg [.int .i64 p, vP, vB]] σ K := by
  have h1 := hR.P.one
  have h2 := hR.B.one
  refine PCalls.gh ?_
  refine pcalls_of_vp mix Try.func60 cf60 rfl ?_
  dsimp only [if60, qI, eI, nI, qD, eD]
  simp only [pw0, pw1, pw2, pw3, pw4, pw5, pw6, pw7, pw8, pw9, if_true, if_false, eq_self, nm_eq, reduceCtorEq, ↓reduceIte, Nat.reduceEqDiff, Nat.reduceLeDiff, Nat.reduceBEq, Nat.reduceAdd, Nat.reduceLT, Nat.reduceSub, Nat.reduceMul, Int.reduceEq, Int.reduceLT, Int.reduceLE, Int.reduceNeg, Int.reduceToNat, List.reduceReplicate, Int.ofNat_le, List.getElem?_drop, h1, h2]
  refine l32Class_ok hR o q hp fun c hc => ?_
  simp only [pw0, pw1, pw2, pw3, pw4, pw5, pw6, pw7, pw8, pw9, if_true, if_false, eq_self, nm_eq, reduceCtorEq, ↓reduceIte, Nat.reduceEqDiff, Nat.reduceLeDiff, Nat.reduceBEq, Nat.reduceAdd, Nat.reduceLT, Nat.reduceSub, Nat.reduceMul, Int.reduceEq, Int.reduceLT, Int.reduceLE, Int.reduceNeg, Int.reduceToNat, List.reduceReplicate, Int.ofNat_le, List.getElem?_drop, h1, h2]
  refine Gh.fin0 (keep_new σ _) trivial (hk _ ?_)
  rw [lz_iff hc, decide_eq_true_eq]
theorem l33Lazard_ok (hR : IsR vP vB W B) (sz : SzR W B) (hk : ∀ t : Bool, (t = true ↔ isLaz p W B) → K (.bool t) σ) : PCalls Try.prog 23 [.agg [.int .i64 p, vP, vB]] σ K := by
  have fl : ∀ {A : Prop}, ¬ A → ((false = true) ↔ A) := fun h => ⟨fun x => (by cases x), fun x => absurd x h⟩
  have h1 := hR.P.one
  have h2 := hR.B.one
  refine PCalls.gh ?_
  refine pcalls_of_vp mix Try.func23 cf23 rfl ?_
  dsimp only [if23, qI, eI, nI, qD, eD]
  simp only [pw0, pw1, pw2, pw3, pw4, pw5, pw6, pw7, pw8, pw9, if_true, if_false, eq_self, nm_eq, reduceCtorEq, ↓reduceIte, Nat.reduceEqDiff, Nat.reduceLeDiff, Nat.reduceBEq, Nat.reduceAdd, Nat.reduceLT, Nat.reduceSub, Nat.reduceMul, Int.reduceEq, Int.reduceLT, Int.reduceLE, Int.reduceNeg, Int.reduceToNat, List.reduceReplicate, Int.ofNat_le, List.getElem?_drop, h1, h2]
  refine l31Ring_ok hR sz fun t ht => ?_
  cases t
  · simp only [pw0, pw1, pw2, pw3, pw4, pw5, pw6, pw7, pw8, pw9, if_true, if_false, eq_self, nm_eq, reduceCtorEq, ↓reduceIte, Nat.reduceEqDiff, Nat.reduceLeDiff, Nat.reduceBEq, Nat.reduceAdd, Nat.reduceLT, Nat.reduceSub, Nat.reduceMul, Int.reduceEq, Int.reduceLT, Int.reduceLE, Int.reduceNeg, Int.reduceToNat, List.reduceReplicate, Int.ofNat_le, List.getElem?_drop]
    exact Gh.fin0 (keep_new σ _) trivial (hk _ (fl fun x => absurd (ht.2 x.1) (by simp)))
  · have hl := ht.1 rfl
    simp only [pw0, pw1, pw2, pw3, pw4, pw5, pw6, pw7, pw8, pw9, if_true, if_false, eq_self, nm_eq, reduceCtorEq, ↓reduceIte, Nat.reduceEqDiff, Nat.reduceLeDiff, Nat.reduceBEq, Nat.reduceAdd, Nat.reduceLT, Nat.reduceSub, Nat.reduceMul, Int.reduceEq, Int.reduceLT, Int.reduceLE, Int.reduceNeg, Int.reduceToNat, List.reduceReplicate, Int.ofNat_le, List.getElem?_drop, h1, h2]
    refine l33Is_ok hR hl.1.w hl.1.b hl.1.1 fun t ht => ?_
    simp only [pw0, pw1, pw2, pw3, pw4, pw5, pw6, pw7, pw8, pw9, if_true, if_false, eq_self, nm_eq, reduceCtorEq, ↓reduceIte, Nat.reduceEqDiff, Nat.reduceLeDiff, Nat.reduceBEq, Nat.reduceAdd, Nat.reduceLT, Nat.reduceSub, Nat.reduceMul, Int.reduceEq, Int.reduceLT, Int.reduceLE, Int.reduceNeg, Int.reduceToNat, List.reduceReplicate, Int.ofNat_le, List.getElem?_drop]
    exact Gh.fin0 (keep_new σ _) trivial (hk _ ⟨fun e => ⟨hl, ht.1 e⟩, fun x => ht.2 x.2⟩)
end Go.Proofs
/- The law of Lazard rings: its function answers true. -/
set_option linter.unusedSimpArgs false
set_option linter.unusedVariables false
namespace Go.Proofs
open Go.Ab Go.Lie
variable {σ : PHeap} {K : PV → PHeap → Prop} {p : Int} {W : List (List Int)} {B : List (List (List Int))} {vP vB : PV}

theorem FnExactIsLazard_ok (hR : IsR vP vB W B) (mx : MxR W B)
    (hk : ∀ σ', K (.bool true) σ') : PCalls Try.prog 4 [.agg [.int .i64 p, vP, vB]] σ K := by
  have h1 := hR.P.one
  have h2 := hR.B.one
  refine pcalls_of_vp mix Try.func4 cf4 rfl ?_
  dsimp only [if4, qI, eI, nI, qD, eD]
  simp only [pw0, pw1, pw2, pw3, pw4, pw5, pw6, pw7, pw8, pw9, if_true, if_false, eq_self, nm_eq, reduceCtorEq, ↓reduceIte, Nat.reduceEqDiff, Nat.reduceLeDiff, Nat.reduceBEq, Nat.reduceAdd, Nat.reduceLT, Nat.reduceSub, Nat.reduceMul, Int.reduceEq, Int.reduceLT, Int.reduceLE, Int.reduceNeg, Int.reduceToNat, List.reduceReplicate, Int.ofNat_le, List.getElem?_drop, h1, h2]
  refine szLieRing_ok hR mx (by unfold left_; omega) fun r h => ?_
  rcases h with rfl | ⟨l1, sz⟩
  · simp only [pw0, pw1, pw2, pw3, pw4, pw5, pw6, pw7, pw8, pw9, if_true, if_false, eq_self, nm_eq, reduceCtorEq, ↓reduceIte, Nat.reduceEqDiff, Nat.reduceLeDiff, Nat.reduceBEq, Nat.reduceAdd, Nat.reduceLT, Nat.reduceSub, Nat.reduceMul, Int.reduceEq, Int.reduceLT, Int.reduceLE, Int.reduceNeg, Int.reduceToNat, List.reduceReplicate, Int.ofNat_le, List.getElem?_drop]
    exact hk _
  have : ¬ r < 0 := by unfold left_ at l1; omega
  simp only [pw0, pw1, pw2, pw3, pw4, pw5, pw6, pw7, pw8, pw9, if_true, if_false, eq_self, nm_eq, reduceCtorEq, ↓reduceIte, Nat.reduceEqDiff, Nat.reduceLeDiff, Nat.reduceBEq, Nat.reduceAdd, Nat.reduceLT, Nat.reduceSub, Nat.reduceMul, Int.reduceEq, Int.reduceLT, Int.reduceLE, Int.reduceNeg, Int.reduceToNat, List.reduceReplicate, Int.ofNat_le, List.getElem?_drop, this]
  refine toLieRing_fz hR sz fun a1 a2 q1 => ?_
  simp only [pw0, pw1, pw2, pw3, pw4, pw5, pw6, pw7, pw8, pw9, if_true, if_false, eq_self, nm_eq, reduceCtorEq, ↓reduceIte, Nat.reduceEqDiff, Nat.reduceLeDiff, Nat.reduceBEq, Nat.reduceAdd, Nat.reduceLT, Nat.reduceSub, Nat.reduceMul, Int.reduceEq, Int.reduceLT, Int.reduceLE, Int.reduceNeg, Int.reduceToNat, List.reduceReplicate, Int.ofNat_le, List.getElem?_drop]
  refine l33Lazard_ok q1 sz fun t1 ht1 => ?_
  simp only [pw0, pw1, pw2, pw3, pw4, pw5, pw6, pw7, pw8, pw9, if_true, if_false, eq_self, nm_eq, reduceCtorEq, ↓reduceIte, Nat.reduceEqDiff, Nat.reduceLeDiff, Nat.reduceBEq, Nat.reduceAdd, Nat.reduceLT, Nat.reduceSub, Nat.reduceMul, Int.reduceEq, Int.reduceLT, Int.reduceLE, Int.reduceNeg, Int.reduceToNat, List.reduceReplicate, Int.ofNat_le, List.getElem?_drop]
  refine toLieRing_fz hR sz fun b1 b2 r1 => ?_
  simp only [pw0, pw1, pw2, pw3, pw4, pw5, pw6, pw7, pw8, pw9, if_true, if_false, eq_self, nm_eq, reduceCtorEq, ↓reduceIte, Nat.reduceEqDiff, Nat.reduceLeDiff, Nat.reduceBEq, Nat.reduceAdd, Nat.reduceLT, Nat.reduceSub, Nat.reduceMul, Int.reduceEq, Int.reduceLT, Int.reduceLE, Int.reduceNeg, Int.reduceToNat, List.reduceReplicate, Int.ofNat_le, List.getElem?_drop, r1.P.one, r1.B.one]
  refine IsLazard_ok r1 sz fun t2 ht2 => ?_
  have ht : t2 = t1 := by
    rw [Bool.eq_iff_iff]; exact ht2.trans ht1.symm
  subst ht
  simp only [pw0, pw1, pw2, pw3, pw4, pw5, pw6, pw7, pw8, pw9, if_true, if_false, eq_self, nm_eq, reduceCtorEq, ↓reduceIte, Nat.reduceEqDiff, Nat.reduceLeDiff, Nat.reduceBEq, Nat.reduceAdd, Nat.reduceLT, Nat.reduceSub, Nat.reduceMul, Int.reduceEq, Int.reduceLT, Int.reduceLE, Int.reduceNeg, Int.reduceToNat, List.reduceReplicate, Int.ofNat_le, List.getElem?_drop, beq_self_eq_true]
  refine toLieRing_fz hR sz fun c1 c2 s1 => ?_
  simp only [pw0, pw1, pw2, pw3, pw4, pw5, pw6, pw7, pw8, pw9, if_true, if_false, eq_self, nm_eq, reduceCtorEq, ↓reduceIte, Nat.reduceEqDiff, Nat.reduceLeDiff, Nat.reduceBEq, Nat.reduceAdd, Nat.reduceLT, Nat.reduceSub, Nat.reduceMul, Int.reduceEq, Int.reduceLT, Int.reduceLE, Int.reduceNeg, Int.reduceToNat, List.reduceReplicate, Int.ofNat_le, List.getElem?_drop]
  refine eqLieRing_ok r1 s1 sz fun t ht => ?_
  obtain rfl := ht.2 ⟨rfl, rfl, rfl⟩
  simp only [pw0, pw1, pw2, pw3, pw4, pw5, pw6, pw7, pw8, pw9, if_true, if_false, eq_self, nm_eq, reduceCtorEq, ↓reduceIte, Nat.reduceEqDiff, Nat.reduceLeDiff, Nat.reduceBEq, Nat.reduceAdd, Nat.reduceLT, Nat.reduceSub, Nat.reduceMul, Int.reduceEq, Int.reduceLT, Int.reduceLE, Int.reduceNeg, Int.reduceToNat, List.reduceReplicate, Int.ofNat_le, List.getElem?_drop]
  exact hk _
end Go.Proofs
