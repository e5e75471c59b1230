/- Spans of Lie rings, the reference's side. -/
import Derived.Test.YthgccplmmogcnaaCVU11
import Derived.Test.YthgccplmmogcnaaCVM05
set_option linter.unusedSimpArgs false
set_option linter.unusedVariables false
namespace Go.Proofs
open Go.Ab Go.Lie
variable {σ : PHeap} {K : PV → PHeap → Prop} {p p' : Int} {n : Nat} {W : List (List Int)} {B : List (List (List Int))} {vP vB vL vU : PV}

theorem l01Inv_ok {a p : Int} (hp : isP p) (ha : 0 < a ∧ a < p) (hk : ∀ x, 1 ≤ x → x < p → a * x % p = 1 → K (.int .i64 x) σ) : PCalls Try.prog 102 [.int .i64 a, .int .i64 p] σ K := by
  have hpb := hp.bd
  obtain ⟨y, hy1, hy2, hy3⟩ := inv_ex hp ha.1 ha.2
  refine pcalls_of_vp mix Try.func102 cf102 rfl ?_
  dsimp only [if102, qI, eI, nI, qD, eD]
  simp only [pw0, pw1, pw2, pw3, pw4, pw5, pw6, pw7, pw8, pw9, if_true, if_false, eq_self, nm_eq, reduceCtorEq, ↓reduceIte, Nat.reduceEqDiff, Nat.reduceLeDiff, Nat.reduceBEq, Nat.reduceAdd, Nat.reduceLT, Nat.reduceSub, Nat.reduceMul, Int.reduceEq, Int.reduceLT, Int.reduceLE, Int.reduceNeg, Int.reduceToNat, List.reduceReplicate, Int.ofNat_le, List.getElem?_drop]
  refine vp_loop (fun m vs h' => ∃ i : Int, 1 ≤ i ∧ i ≤ y ∧ m = (y - i).toNat ∧ vs = [.int .i64 a, .int .i64 p, .int .i64 i] ∧ σ = h') (y - 1).toNat ?_ ?_
  · exact ⟨1, by omega, hy1, rfl, rfl, rfl⟩
  rintro m vs h' ⟨i, hi, hiy, rfl, rfl, rfl⟩
  have hip : i < p := by omega
  simp only [pw0, pw1, pw2, pw3, pw4, pw5, pw6, pw7, pw8, pw9, if_true, if_false, eq_self, nm_eq, reduceCtorEq, ↓reduceIte, Nat.reduceEqDiff, Nat.reduceLeDiff, Nat.reduceBEq, Nat.reduceAdd, Nat.reduceLT, Nat.reduceSub, Nat.reduceMul, Int.reduceEq, Int.reduceLT, Int.reduceLE, Int.reduceNeg, Int.reduceToNat, List.reduceReplicate, Int.ofNat_le, List.getElem?_drop, hip]
  refine l01Mod_ok (by omega) (by omega) ?_
  have hap : a % p = a := Int.emod_eq_of_lt (by omega) (by omega)
  have hm : a * i ≤ 49 ∧ 0 ≤ a * i := by
    have h1 := Int.mul_le_mul_of_nonneg_left (show i ≤ 7 by omega) (show 0 ≤ a by omega)
    have h2 := Int.mul_nonneg (show 0 ≤ a by omega) (show 0 ≤ i by omega)
    omega
  have hp0 : p ≠ 0 := by omega
  rw [hap]
  simp only [pw0, pw1, pw2, pw3, pw4, pw5, pw6, pw7, pw8, pw9, if_true, if_false, eq_self, nm_eq, reduceCtorEq, ↓reduceIte, Nat.reduceEqDiff, Nat.reduceLeDiff, Nat.reduceBEq, Nat.reduceAdd, Nat.reduceLT, Nat.reduceSub, Nat.reduceMul, Int.reduceEq, Int.reduceLT, Int.reduceLE, Int.reduceNeg, Int.reduceToNat, List.reduceReplicate, Int.ofNat_le, List.getElem?_drop, wrap64 (n := a * i) (by omega) (by omega), hp0]
  have e : (a * i).tmod p = a * i % p := Int.tmod_eq_emod_of_nonneg hm.2
  rw [e]
  by_cases h1 : a * i % p = 1
  · simp only [pw0, pw1, pw2, pw3, pw4, pw5, pw6, pw7, pw8, pw9, if_true, if_false, eq_self, nm_eq, reduceCtorEq, ↓reduceIte, Nat.reduceEqDiff, Nat.reduceLeDiff, Nat.reduceBEq, Nat.reduceAdd, Nat.reduceLT, Nat.reduceSub, Nat.reduceMul, Int.reduceEq, Int.reduceLT, Int.reduceLE, Int.reduceNeg, Int.reduceToNat, List.reduceReplicate, Int.ofNat_le, List.getElem?_drop, h1]
    exact hk i hi hip h1
  · have hne : i ≠ y := fun e => h1 (by rw [e]; exact hy3)
    simp only [pw0, pw1, pw2, pw3, pw4, pw5, pw6, pw7, pw8, pw9, if_true, if_false, eq_self, nm_eq, reduceCtorEq, ↓reduceIte, Nat.reduceEqDiff, Nat.reduceLeDiff, Nat.reduceBEq, Nat.reduceAdd, Nat.reduceLT, Nat.reduceSub, Nat.reduceMul, Int.reduceEq, Int.reduceLT, Int.reduceLE, Int.reduceNeg, Int.reduceToNat, List.reduceReplicate, Int.ofNat_le, List.getElem?_drop, h1, wrap64 (n := i + 1) (by omega) (by omega)]
    exact ⟨_, by omega, i + 1, by omega, by omega, rfl, rfl⟩

theorem l04Pivot_ok {l : Nat} {w : Bool} {a : AV} {xs : List Int} (hl : l = xs.length) (hb : xs.length ≤ 1048576) (hk : K (.int .i64 (dep xs)) σ) : PCalls Try.prog 134 [.fz w a l (pis xs)] σ K := by
  subst hl
  refine pcalls_of_vp mix Try.func134 cf134 rfl ?_
  dsimp only [if134, qI, eI, nI, qD, eD]
  simp only [pw0, pw1, pw2, pw3, pw4, pw5, pw6, pw7, pw8, pw9, if_true, if_false, eq_self, nm_eq, reduceCtorEq, ↓reduceIte, Nat.reduceEqDiff, Nat.reduceLeDiff, Nat.reduceBEq, Nat.reduceAdd, Nat.reduceLT, Nat.reduceSub, Nat.reduceMul, Int.reduceEq, Int.reduceLT, Int.reduceLE, Int.reduceNeg, Int.reduceToNat, List.reduceReplicate, Int.ofNat_le, List.getElem?_drop]
  refine vp_loop (fun m vs h' => ∃ i : Nat, i ≤ dep xs ∧ m = dep xs - i ∧ vs = [.fz w a xs.length (pis xs), .int .i64 i] ∧ σ = h') (dep xs) ?_ ?_
  · exact ⟨0, by omega, by omega, rfl, rfl⟩
  rintro m vs h' ⟨i, hi, rfl, rfl, rfl⟩
  have hdl := dep_le xs
  by_cases hlt : i < xs.length
  · simp only [pw0, pw1, pw2, pw3, pw4, pw5, pw6, pw7, pw8, pw9, if_true, if_false, eq_self, nm_eq, reduceCtorEq, ↓reduceIte, Nat.reduceEqDiff, Nat.reduceLeDiff, Nat.reduceBEq, Nat.reduceAdd, Nat.reduceLT, Nat.reduceSub, Nat.reduceMul, Int.reduceEq, Int.reduceLT, Int.reduceLE, Int.reduceNeg, Int.reduceToNat, List.reduceReplicate, Int.ofNat_le, List.getElem?_drop, hlt, List.getElem?_drop, pis_get, gi hlt]
    refine iteI (fun h0 => ?_) fun h0 => ?_
    · have hid : i < dep xs := by
        rcases Nat.lt_or_ge i (dep xs) with x | x
        · exact x
        · have : i = dep xs := by omega
          subst this
          exact absurd (by rw [at_eq hlt]; exact h0) (dep_ne hlt)
      simp only [pw0, pw1, pw2, pw3, pw4, pw5, pw6, pw7, pw8, pw9, if_true, if_false, eq_self, nm_eq, reduceCtorEq, ↓reduceIte, Nat.reduceEqDiff, Nat.reduceLeDiff, Nat.reduceBEq, Nat.reduceAdd, Nat.reduceLT, Nat.reduceSub, Nat.reduceMul, Int.reduceEq, Int.reduceLT, Int.reduceLE, Int.reduceNeg, Int.reduceToNat, List.reduceReplicate, Int.ofNat_le, List.getElem?_drop, wrapS hlt (by omega : xs.length ≤ 4611686018427387904)]
      exact ⟨_, by omega, i + 1, by omega, rfl, rfl⟩
    · have hid : i = dep xs := by
        rcases Nat.lt_or_ge i (dep xs) with x | x
        · exact absurd (by rw [← at_eq hlt]; exact dep_zero x) h0
        · omega
      subst hid
      exact hk
  · have hid : i = dep xs := by omega
    subst hid
    simp only [pw0, pw1, pw2, pw3, pw4, pw5, pw6, pw7, pw8, pw9, if_true, if_false, eq_self, nm_eq, reduceCtorEq, ↓reduceIte, Nat.reduceEqDiff, Nat.reduceLeDiff, Nat.reduceBEq, Nat.reduceAdd, Nat.reduceLT, Nat.reduceSub, Nat.reduceMul, Int.reduceEq, Int.reduceLT, Int.reduceLE, Int.reduceNeg, Int.reduceToNat, List.reduceReplicate, Int.ofNat_le, List.getElem?_drop, hlt]
    exact hk
theorem l32Depth_ok {l : Nat} {w : Bool} {a : AV} {xs : List Int} (hl : l = xs.length) (hb : xs.length ≤ 1048576) (hk : K (.int .i64 (dep xs)) σ) : PCalls Try.prog 103 [.fz w a l (pis xs)] σ K := by
  refine pcalls_of_vp mix Try.func103 cf103 rfl ?_
  dsimp only [if103, qI, eI, nI, qD, eD]
  simp only [pw0, pw1, pw2, pw3, pw4, pw5, pw6, pw7, pw8, pw9, if_true, if_false, eq_self, nm_eq, reduceCtorEq, ↓reduceIte, Nat.reduceEqDiff, Nat.reduceLeDiff, Nat.reduceBEq, Nat.reduceAdd, Nat.reduceLT, Nat.reduceSub, Nat.reduceMul, Int.reduceEq, Int.reduceLT, Int.reduceLE, Int.reduceNeg, Int.reduceToNat, List.reduceReplicate, Int.ofNat_le, List.getElem?_drop]
  refine l04Pivot_ok hl hb ?_
  simp only [pw0, pw1, pw2, pw3, pw4, pw5, pw6, pw7, pw8, pw9, if_true, if_false, eq_self, nm_eq, reduceCtorEq, ↓reduceIte, Nat.reduceEqDiff, Nat.reduceLeDiff, Nat.reduceBEq, Nat.reduceAdd, Nat.reduceLT, Nat.reduceSub, Nat.reduceMul, Int.reduceEq, Int.reduceLT, Int.reduceLE, Int.reduceNeg, Int.reduceToNat, List.reduceReplicate, Int.ofNat_le, List.getElem?_drop]
  exact hk

theorem l01Own_fz {l : Nat} {w : Bool} {a : AV} {xs : List Int} (hl : l = xs.length) (hb : xs.length ≤ 4294967296) (hk : ∀ v, K (.fz true v xs.length (pis xs)) σ) : PCalls Try.prog 67 [.fz w a l (pis xs)] σ K :=
  PCalls.fz (fun K' => l01Own_ok hl hb) (pis_bel _ _) fun o cap => hk _

theorem redL_snoc (u : List (List Int)) (v x : List Int) : redL p W (u ++ [v]) x = red1 p W (redL p W u x) v := by
  induction u generalizing x with
  | nil => rfl
  | cons w u ih => rw [List.cons_append, redL, ih, redL]

theorem l32Reduce_ok {l : Nat} {w : Bool} {a : AV} {u : List (List Int)} {x : List Int} (hR : IsR vP vB W B) (o : OkW p n W) (hL : FII vU u) (hu : ∀ v ∈ u, El p n v ∧ dep v < n) (hul : u.length ≤ 1048576) (hx : El p n x) (hl : l = x.length)
    (hk : ∀ v, K (.fz true v n (pis (redL p W u x))) σ) : PCalls Try.prog 101 [.agg [.int .i64 p, vP, vB], vU, .fz w a l (pis x)] σ K := by
  have h1 := hR.P.one
  have h2 := hR.B.one
  have hn6 := o.le
  have hp := o.pr
  unfold okp at hp
  obtain ⟨wl, al, rl, rfl, hrl⟩ := hL
  refine PCalls.gh ?_
  refine pcalls_of_vp mix Try.func101 cf101 rfl ?_
  dsimp only [if101, qI, eI, nI, qD, eD]
  simp only [pw0, pw1, pw2, pw3, pw4, pw5, pw6, pw7, pw8, pw9, if_true, if_false, eq_self, nm_eq, reduceCtorEq, ↓reduceIte, Nat.reduceEqDiff, Nat.reduceLeDiff, Nat.reduceBEq, Nat.reduceAdd, Nat.reduceLT, Nat.reduceSub, Nat.reduceMul, Int.reduceEq, Int.reduceLT, Int.reduceLE, Int.reduceNeg, Int.reduceToNat, List.reduceReplicate, Int.ofNat_le, List.getElem?_drop, h1, h2]
  refine l01Own_fz hl (by rw [hx.1]; omega) fun v0 => ?_
  rw [hx.1]
  simp only [pw0, pw1, pw2, pw3, pw4, pw5, pw6, pw7, pw8, pw9, if_true, if_false, eq_self, nm_eq, reduceCtorEq, ↓reduceIte, Nat.reduceEqDiff, Nat.reduceLeDiff, Nat.reduceBEq, Nat.reduceAdd, Nat.reduceLT, Nat.reduceSub, Nat.reduceMul, Int.reduceEq, Int.reduceLT, Int.reduceLE, Int.reduceNeg, Int.reduceToNat, List.reduceReplicate, Int.ofNat_le, List.getElem?_drop]
  refine vp_loop (fun m vs h' => ∃ i : Nat, i ≤ u.length ∧ m = u.length - i ∧ ∃ v, vs = [.fz wl al u.length rl, .ptr σ.next 0, .fz true v n (pis (redL p W (u.take i) x)), .int .i64 i] ∧ σ.new [.int .i64 p, vP, vB] = h') u.length ?_ ?_
  · exact ⟨0, by omega, by omega, v0, by rw [List.take_zero, redL]; rfl, rfl⟩
  rintro m vs h' ⟨i, hi, rfl, v, rfl, rfl⟩
  simp only [pw0, pw1, pw2, pw3, pw4, pw5, pw6, pw7, pw8, pw9, if_true, if_false, eq_self, nm_eq, reduceCtorEq, ↓reduceIte, Nat.reduceEqDiff, Nat.reduceLeDiff, Nat.reduceBEq, Nat.reduceAdd, Nat.reduceLT, Nat.reduceSub, Nat.reduceMul, Int.reduceEq, Int.reduceLT, Int.reduceLE, Int.reduceNeg, Int.reduceToNat, List.reduceReplicate, Int.ofNat_le, List.getElem?_drop]
  have hel : El p n (redL p W (u.take i) x) := redL_el o (fun v hv => (hu v (List.mem_of_mem_take hv)).1) hx
  refine iteI (fun hlt => ?_) fun hge => ?_
  · obtain ⟨w4, a4, hr⟩ := hrl.rowI hlt
    have hui := hu _ (List.getElem_mem hlt)
    have hstep : redL p W (u.take (i + 1)) x = red1 p W (redL p W (u.take i) x) u[i] := by rw [List.take_succ_eq_append_getElem hlt, redL_snoc]
    generalize hy : redL p W (u.take i) x = y at *
    have hdl : dep u[i] < y.length := by rw [hel.1]; exact hui.2
    have hya := hel.at o.pr (dep u[i])
    rw [at_eq hdl] at hya
    simp only [pw0, pw1, pw2, pw3, pw4, pw5, pw6, pw7, pw8, pw9, if_true, if_false, eq_self, nm_eq, reduceCtorEq, ↓reduceIte, Nat.reduceEqDiff, Nat.reduceLeDiff, Nat.reduceBEq, Nat.reduceAdd, Nat.reduceLT, Nat.reduceSub, Nat.reduceMul, Int.reduceEq, Int.reduceLT, Int.reduceLE, Int.reduceNeg, Int.reduceToNat, List.reduceReplicate, Int.ofNat_le, List.getElem?_drop, hlt, hr, List.getElem?_drop]
    refine l32Depth_ok rfl (by rw [hui.1.1]; omega) ?_
    have hneg : IntKind.i64.wrap (0 - y[dep u[i]]) = -y[dep u[i]] := by rw [wrap64 (by omega) (by omega)]; omega
    simp only [pw0, pw1, pw2, pw3, pw4, pw5, pw6, pw7, pw8, pw9, if_true, if_false, eq_self, nm_eq, reduceCtorEq, ↓reduceIte, Nat.reduceEqDiff, Nat.reduceLeDiff, Nat.reduceBEq, Nat.reduceAdd, Nat.reduceLT, Nat.reduceSub, Nat.reduceMul, Int.reduceEq, Int.reduceLT, Int.reduceLE, Int.reduceNeg, Int.reduceToNat, List.reduceReplicate, Int.ofNat_le, List.getElem?_drop, hlt, hr, hui.2, List.getElem?_drop, pis_get, gi hdl, hneg]
    refine l31Mix_el hR o hel hui.1 hel.1.symm rfl (by decide) (by omega) fun v' => ?_
    simp only [pw0, pw1, pw2, pw3, pw4, pw5, pw6, pw7, pw8, pw9, if_true, if_false, eq_self, nm_eq, reduceCtorEq, ↓reduceIte, Nat.reduceEqDiff, Nat.reduceLeDiff, Nat.reduceBEq, Nat.reduceAdd, Nat.reduceLT, Nat.reduceSub, Nat.reduceMul, Int.reduceEq, Int.reduceLT, Int.reduceLE, Int.reduceNeg, Int.reduceToNat, List.reduceReplicate, Int.ofNat_le, List.getElem?_drop, wrapS hlt (by omega : u.length ≤ 4611686018427387904)]
    refine ⟨_, by omega, i + 1, by omega, rfl, v', ?_⟩
    rw [hstep, red1, at_eq hdl]
  · have hie : i = u.length := by omega
    subst hie
    rw [List.take_length]
    exact Gh.fin0 (keep_new σ _) trivial (hk v)
theorem insD_take : ∀ (u : List (List Int)) (x : List Int) (k : Nat), k ≤ u.length → (∀ j (h : j < u.length), j < k → dep u[j] < dep x) → (∀ h : k < u.length, ¬ dep u[k] < dep x) → insD u x = u.take k ++ [x] ++ u.drop k
  | [], x, k, hk, _, _ => by
    have : k = 0 := by simpa using hk
    subst this; rfl
  | v :: u, x, 0, _, _, h2 => by
    have := h2 (by simp)
    simp only [List.getElem_cons_zero] at this
    rw [insD, if_neg this]; rfl
  | v :: u, x, k + 1, hk, h1, h2 => by
    have := h1 0 (by simp) (by omega)
    simp only [List.getElem_cons_zero] at this
    rw [insD, if_pos this, insD_take u x k (by simpa using hk) (fun j h hj => by have := h1 (j + 1) (by simpa using h) (by omega); simpa using this) (fun h => by have := h2 (by simpa using h); simpa using this)]
    rfl

theorem FL.take {α : Type} {R : PV → α → Prop} {rows : List PV} {xs : List α} (h : All2 R rows xs) (k : Nat) : All2 R (rows.take k) (xs.take k) := All2.take h k

theorem l32Insert_ok {l : Nat} {w : Bool} {a : AV} {u : List (List Int)} {x : List Int} (hL : FII vU u) (hu : ∀ v ∈ u, v.length ≤ 1048576) (hul : u.length ≤ 1048576) (hxl : x.length ≤ 1048576) (hl : l = x.length)
    (hk : ∀ v, FII v (insD u x) → K v σ) : PCalls Try.prog 104 [vU, .fz w a l (pis x)] σ K := by
  subst hl
  obtain ⟨wl, al, rl, rfl, hrl⟩ := hL
  refine PCalls.gh ?_
  refine pcalls_of_vp mix Try.func104 cf104 rfl ?_
  dsimp only [if104, qI, eI, nI, qD, eD]
  simp only [pw0, pw1, pw2, pw3, pw4, pw5, pw6, pw7, pw8, pw9, if_true, if_false, eq_self, nm_eq, reduceCtorEq, ↓reduceIte, Nat.reduceEqDiff, Nat.reduceLeDiff, Nat.reduceBEq, Nat.reduceAdd, Nat.reduceLT, Nat.reduceSub, Nat.reduceMul, Int.reduceEq, Int.reduceLT, Int.reduceLE, Int.reduceNeg, Int.reduceToNat, List.reduceReplicate, Int.ofNat_le, List.getElem?_drop]
  refine vp_loop (fun m vs h' => ∃ i : Nat, i ≤ u.length ∧ m = u.length - i ∧ vs = [.fz wl al u.length rl, .fz w a x.length (pis x), .int .i64 i] ∧ σ = h' ∧ ∀ j (h : j < u.length), j < i → dep u[j] < dep x) u.length ?_ ?_
  · exact ⟨0, by omega, by omega, rfl, rfl, fun j h hj => by omega⟩
  rintro m vs h' ⟨i, hi, rfl, rfl, rfl, hall⟩
  have fin : (∀ h : i < u.length, ¬ dep u[i] < dep x) → insD u x = u.take i ++ [x] ++ u.drop i := insD_take u x i hi hall
  have tail : (∀ h : i < u.length, ¬ dep u[i] < dep x) → ∀ v' h', Keep σ h' → PSl σ.next 1 h' v' (u.length + 1) (rl.take i ++ [PV.fz w a x.length (pis x)] ++ rl.drop i) → Gh σ K v' h' := fun hs v' h' hk' ha => by
    have hall2 : All2 FI (rl.take i ++ [PV.fz w a x.length (pis x)] ++ rl.drop i) (insD u x) := by
      rw [fin hs]
      exact ((hrl.take i).append (All2.nil FI |>.snoc ⟨w, a, rfl⟩)).append (hrl.drop i)
    exact ha.fin hk' (hall2.bI 0) fun o cap => hk _ ⟨true, .sl o 0 (u.length + 1) cap, _, by rw [insD_length], hall2⟩
  have hrll := hrl.1
  have hz' : i ≤ u.length := hi
  have hdrop : (rl.drop i).take (u.length - i) = rl.drop i := List.take_of_length_le (by rw [List.length_drop]; omega)
  by_cases hlt : i < u.length
  · obtain ⟨w4, a4, hr⟩ := hrl.rowI hlt
    simp only [pw0, pw1, pw2, pw3, pw4, pw5, pw6, pw7, pw8, pw9, if_true, if_false, eq_self, nm_eq, reduceCtorEq, ↓reduceIte, Nat.reduceEqDiff, Nat.reduceLeDiff, Nat.reduceBEq, Nat.reduceAdd, Nat.reduceLT, Nat.reduceSub, Nat.reduceMul, Int.reduceEq, Int.reduceLT, Int.reduceLE, Int.reduceNeg, Int.reduceToNat, List.reduceReplicate, Int.ofNat_le, List.getElem?_drop, hlt, hr, List.getElem?_drop]
    refine l32Depth_ok rfl (hu _ (List.getElem_mem hlt)) ?_
    simp only [pw0, pw1, pw2, pw3, pw4, pw5, pw6, pw7, pw8, pw9, if_true, if_false, eq_self, nm_eq, reduceCtorEq, ↓reduceIte, Nat.reduceEqDiff, Nat.reduceLeDiff, Nat.reduceBEq, Nat.reduceAdd, Nat.reduceLT, Nat.reduceSub, Nat.reduceMul, Int.reduceEq, Int.reduceLT, Int.reduceLE, Int.reduceNeg, Int.reduceToNat, List.reduceReplicate, Int.ofNat_le, List.getElem?_drop, hlt, hr, List.getElem?_drop]
    refine l32Depth_ok rfl hxl ?_
    simp only [pw0, pw1, pw2, pw3, pw4, pw5, pw6, pw7, pw8, pw9, if_true, if_false, eq_self, nm_eq, reduceCtorEq, ↓reduceIte, Nat.reduceEqDiff, Nat.reduceLeDiff, Nat.reduceBEq, Nat.reduceAdd, Nat.reduceLT, Nat.reduceSub, Nat.reduceMul, Int.reduceEq, Int.reduceLT, Int.reduceLE, Int.reduceNeg, Int.reduceToNat, List.reduceReplicate, Int.ofNat_le, List.getElem?_drop]
    refine iteI (fun hd => ?_) fun hd => ?_
    · simp only [pw0, pw1, pw2, pw3, pw4, pw5, pw6, pw7, pw8, pw9, if_true, if_false, eq_self, nm_eq, reduceCtorEq, ↓reduceIte, Nat.reduceEqDiff, Nat.reduceLeDiff, Nat.reduceBEq, Nat.reduceAdd, Nat.reduceLT, Nat.reduceSub, Nat.reduceMul, Int.reduceEq, Int.reduceLT, Int.reduceLE, Int.reduceNeg, Int.reduceToNat, List.reduceReplicate, Int.ofNat_le, List.getElem?_drop, wrapS hlt (by omega : u.length ≤ 4611686018427387904)]
      refine ⟨_, by omega, i + 1, by omega, rfl, rfl, fun j h hj => ?_⟩
      by_cases e : j = i
      · subst e; exact hd
      · exact hall j h (by omega)
    · simp only [pw0, pw1, pw2, pw3, pw4, pw5, pw6, pw7, pw8, pw9, if_true, if_false, eq_self, nm_eq, reduceCtorEq, ↓reduceIte, Nat.reduceEqDiff, Nat.reduceLeDiff, Nat.reduceBEq, Nat.reduceAdd, Nat.reduceLT, Nat.reduceSub, Nat.reduceMul, Int.reduceEq, Int.reduceLT, Int.reduceLE, Int.reduceNeg, Int.reduceToNat, List.reduceReplicate, Int.ofNat_le, List.getElem?_drop, Int.ofNat_le, hz', Nat.sub_zero]
      refine PSl.cat (bytes := 24) (σb := σ) (n := 0) (cs := []) (keep_new σ _) (PSl.new _ 1 rfl (Nat.le_refl _)) (by rw [List.length_take]; omega) (by omega) (by omega) fun v1 h1 k1 a1 => ?_
      rw [List.nil_append, Nat.zero_add] at a1
      simp only [pw0, pw1, pw2, pw3, pw4, pw5, pw6, pw7, pw8, pw9, if_true, if_false, eq_self, nm_eq, reduceCtorEq, ↓reduceIte, Nat.reduceEqDiff, Nat.reduceLeDiff, Nat.reduceBEq, Nat.reduceAdd, Nat.reduceLT, Nat.reduceSub, Nat.reduceMul, Int.reduceEq, Int.reduceLT, Int.reduceLE, Int.reduceNeg, Int.reduceToNat, List.reduceReplicate, Int.ofNat_le, List.getElem?_drop]
      refine PSl.push (bytes := 24) k1 a1 (by omega) (by omega) fun v2 h2 k2 a2 => ?_
      simp only [pw0, pw1, pw2, pw3, pw4, pw5, pw6, pw7, pw8, pw9, if_true, if_false, eq_self, nm_eq, reduceCtorEq, ↓reduceIte, Nat.reduceEqDiff, Nat.reduceLeDiff, Nat.reduceBEq, Nat.reduceAdd, Nat.reduceLT, Nat.reduceSub, Nat.reduceMul, Int.reduceEq, Int.reduceLT, Int.reduceLE, Int.reduceNeg, Int.reduceToNat, List.reduceReplicate, Int.ofNat_le, List.getElem?_drop, Int.ofNat_le, hz', hdrop]
      refine PSl.cat (bytes := 24) k2 a2 (by rw [List.length_drop]; omega) (by omega) (by omega) fun v3 h3 k3 a3 => ?_
      simp only [pw0, pw1, pw2, pw3, pw4, pw5, pw6, pw7, pw8, pw9, if_true, if_false, eq_self, nm_eq, reduceCtorEq, ↓reduceIte, Nat.reduceEqDiff, Nat.reduceLeDiff, Nat.reduceBEq, Nat.reduceAdd, Nat.reduceLT, Nat.reduceSub, Nat.reduceMul, Int.reduceEq, Int.reduceLT, Int.reduceLE, Int.reduceNeg, Int.reduceToNat, List.reduceReplicate, Int.ofNat_le, List.getElem?_drop]
      refine tail ?_ v3 h3 k3 ?_
      · exact fun _ => hd
      · have : i + 1 + (u.length - i) = u.length + 1 := by omega
        rw [this] at a3
        exact a3
  · simp only [pw0, pw1, pw2, pw3, pw4, pw5, pw6, pw7, pw8, pw9, if_true, if_false, eq_self, nm_eq, reduceCtorEq, ↓reduceIte, Nat.reduceEqDiff, Nat.reduceLeDiff, Nat.reduceBEq, Nat.reduceAdd, Nat.reduceLT, Nat.reduceSub, Nat.reduceMul, Int.reduceEq, Int.reduceLT, Int.reduceLE, Int.reduceNeg, Int.reduceToNat, List.reduceReplicate, Int.ofNat_le, List.getElem?_drop, hlt]
    simp only [pw0, pw1, pw2, pw3, pw4, pw5, pw6, pw7, pw8, pw9, if_true, if_false, eq_self, nm_eq, reduceCtorEq, ↓reduceIte, Nat.reduceEqDiff, Nat.reduceLeDiff, Nat.reduceBEq, Nat.reduceAdd, Nat.reduceLT, Nat.reduceSub, Nat.reduceMul, Int.reduceEq, Int.reduceLT, Int.reduceLE, Int.reduceNeg, Int.reduceToNat, List.reduceReplicate, Int.ofNat_le, List.getElem?_drop, hlt, Int.ofNat_le, hz', Nat.sub_zero]
    refine PSl.cat (bytes := 24) (σb := σ) (n := 0) (cs := []) (keep_new σ _) (PSl.new _ 1 rfl (Nat.le_refl _)) (by rw [List.length_take]; omega) (by omega) (by omega) fun v1 h1 k1 a1 => ?_
    rw [List.nil_append, Nat.zero_add] at a1
    simp only [pw0, pw1, pw2, pw3, pw4, pw5, pw6, pw7, pw8, pw9, if_true, if_false, eq_self, nm_eq, reduceCtorEq, ↓reduceIte, Nat.reduceEqDiff, Nat.reduceLeDiff, Nat.reduceBEq, Nat.reduceAdd, Nat.reduceLT, Nat.reduceSub, Nat.reduceMul, Int.reduceEq, Int.reduceLT, Int.reduceLE, Int.reduceNeg, Int.reduceToNat, List.reduceReplicate, Int.ofNat_le, List.getElem?_drop]
    refine PSl.push (bytes := 24) k1 a1 (by omega) (by omega) fun v2 h2 k2 a2 => ?_
    simp only [pw0, pw1, pw2, pw3, pw4, pw5, pw6, pw7, pw8, pw9, if_true, if_false, eq_self, nm_eq, reduceCtorEq, ↓reduceIte, Nat.reduceEqDiff, Nat.reduceLeDiff, Nat.reduceBEq, Nat.reduceAdd, Nat.reduceLT, Nat.reduceSub, Nat.reduceMul, Int.reduceEq, Int.reduceLT, Int.reduceLE, Int.reduceNeg, Int.reduceToNat, List.reduceReplicate, Int.ofNat_le, List.getElem?_drop, Int.ofNat_le, hz', hdrop]
    refine PSl.cat (bytes := 24) k2 a2 (by rw [List.length_drop]; omega) (by omega) (by omega) fun v3 h3 k3 a3 => ?_
    simp only [pw0, pw1, pw2, pw3, pw4, pw5, pw6, pw7, pw8, pw9, if_true, if_false, eq_self, nm_eq, reduceCtorEq, ↓reduceIte, Nat.reduceEqDiff, Nat.reduceLeDiff, Nat.reduceBEq, Nat.reduceAdd, Nat.reduceLT, Nat.reduceSub, Nat.reduceMul, Int.reduceEq, Int.reduceLT, Int.reduceLE, Int.reduceNeg, Int.reduceToNat, List.reduceReplicate, Int.ofNat_le, List.getElem?_drop]
    refine tail ?_ v3 h3 k3 ?_
    · exact fun h => absurd h hlt
    · have : i + 1 + (u.length - i) = u.length + 1 := by omega
      rw [this] at a3
      exact a3
end Go.Proofs
