/- Modules that were marked are held; the bound of a tensor product. -/
import Derived.Test.YtpkibanhkjboeaaHP39
import Derived.Test.YtpkibanhkjboeaaHAbPh
set_option linter.unusedSimpArgs false
set_option linter.unusedVariables false
namespace Go.Proofs
open Go.Ab Go.Lie Go.Grp Go.Mx
variable {σ : PHeap} {K : PV → PHeap → Prop} {p d p' d' : Int} {n n' : Nat} {As Bs : List (List (List Int))} {vA vB : PV} {O : List Int} {P : List (List Int)} {C : List (List (List Int))} {vO vP vC : PV} {s s' sp : Nat}
open Classical in
noncomputable def tensRes (O : List Int) (P : List (List Int)) (C : List (List (List Int))) (p d : Int) (As : List (List (List Int))) (p' d' : Int) (Bs : List (List (List Int))) : (Int × Int × List (List (List Int))) × Int :=
  if codeM O P C p d As p' d' Bs = 0 then (if 3 < d * d' then ((0, 0, []), 3) else ((p, d * d', tens p As Bs O.length), 0)) else ((0, 0, []), codeM O P C p d As p' d' Bs)
theorem trow_take {a b : List Int} {j : Nat} (hj : j < a.length) : trow p (a.take (j + 1)) b = trow p (a.take j) b ++ b.map fun y => a[j] * y % p := by
  unfold trow
  rw [List.take_succ_eq_append_getElem hj, List.flatMap_append]; simp
theorem tmat_take {A B : List (List Int)} {i : Nat} (hi : i < A.length) : tmat p (A.take (i + 1)) B = tmat p (A.take i) B ++ B.map fun b => trow p A[i] b := by
  unfold tmat
  rw [List.take_succ_eq_append_getElem hi, List.flatMap_append]; simp
theorem map_take_snoc {α β : Type} {f : α → β} {xs : List α} {i : Nat} (hi : i < xs.length) : (xs.take (i + 1)).map f = (xs.take i).map f ++ [f xs[i]] := by
  rw [List.take_succ_eq_append_getElem hi, List.map_append]; rfl
theorem trow_len {a b : List Int} : (trow p a b).length = a.length * b.length := by
  induction a with
  | nil => simp [trow]
  | cons x a ih =>
    unfold trow at ih ⊢
    rw [List.flatMap_cons, List.length_append, ih, List.length_map, List.length_cons, Nat.succ_mul]; omega
theorem tmat_len {A B : List (List Int)} : (tmat p A B).length = A.length * B.length := by
  induction A with
  | nil => simp [tmat]
  | cons x a ih =>
    unfold tmat at ih ⊢
    rw [List.flatMap_cons, List.length_append, ih, List.length_map, List.length_cons, Nat.succ_mul]; omega
/-- What stands behind a loop is left open: it is reached by one exit. -/
theorem vp_abs {P : Program} {c : IC} {Q : Exit → PEnv → PHeap → Prop} {e : PEnv} {h : PHeap} (id : Nat) (J : PEnv → PHeap → Prop) (h1 : ∀ Q' : Exit → PEnv → PHeap → Prop, (∀ e h, J e h → Q' (.exit id) e h) → vp P c Q' e h) (h2 : ∀ e h, J e h → Q (.exit id) e h) : vp P c Q e h := h1 Q h2
set_option maxHeartbeats 2000000 in
theorem TensorModule_T (hR : IsPr vO vP vC O P C) (sz : SzP O P C) (hA : FIII vA As) (szA : SzM As) (hB : FIII vB Bs) (szB : SzM Bs)
    (hk : ∀ v z1 z2 z c t, ResR (tensRes O P C p d As p' d' Bs) (z1, z2, z) c → FIII v z → Own σ.top t v → σ.top ≤ t → K (.tup [.agg [.int .i64 z1, .int .i64 z2, v], .int .i64 c]) (σ.up t)) :
    PCalls Try.prog 38 [.agg [vO, vP, vC], .agg [.int .i64 p, .int .i64 d, vA], .agg [.int .i64 p', .int .i64 d', vB]] σ K := by
  have h0 := hR.O.one
  have h1 := hR.P.one
  have h2 := hR.C.one
  have h3 := hA.one
  have h4 := hB.one
  have hR0 := hR
  have hA0 := hA
  have hB0 := hB
  obtain ⟨⟨w0, a0, rfl⟩, _, _⟩ := hR
  obtain ⟨wA, aA, rA, rfl, hrA⟩ := hA
  obtain ⟨wB, aB, rB, rfl, hrB⟩ := hB
  refine PCalls.pwf fun wf => PCalls.gh ?_
  generalize hH : (((σ.new [.fz w0 a0 O.length (pis O), vP, vC]).new [.int .i64 p, .int .i64 d, .fz wA aA As.length rA]).new [.int .i64 p', .int .i64 d', .fz wB aB Bs.length rB]).new [.int .i64 0, .int .i64 0, .fz true .nils 0 []] = H
  have hkp : Keep σ H := by rw [← hH]; exact (((keep_new σ _).new _).new _).new _
  have hHn : H.next = σ.next + 4 := by rw [← hH]; rfl
  have htop : H.top = σ.top := by rw [← hH]; rfl
  have hsp : PtrG H σ.next (.fz w0 a0 O.length (pis O)) vP vC := by rw [← hH]; exact ⟨by simp only [pwA, if_true, if_false, eq_self, nm_eq, reduceCtorEq, ↓reduceIte, Nat.reduceEqDiff, Nat.reduceLeDiff, Nat.reduceBEq, Nat.reduceAdd, Nat.reduceLT, Nat.reduceSub, Nat.reduceMul, Int.reduceEq, Int.reduceLT, Int.reduceLE, Int.reduceNeg, Int.reduceToNat, List.reduceReplicate, Int.ofNat_le, List.getElem?_drop], by simp only [pwA, if_true, if_false, eq_self, nm_eq, reduceCtorEq, ↓reduceIte, Nat.reduceEqDiff, Nat.reduceLeDiff, Nat.reduceBEq, Nat.reduceAdd, Nat.reduceLT, Nat.reduceSub, Nat.reduceMul, Int.reduceEq, Int.reduceLT, Int.reduceLE, Int.reduceNeg, Int.reduceToNat, List.reduceReplicate, Int.ofNat_le, List.getElem?_drop]; omega⟩
  have hs : PtrR H (σ.next + 1) p (.int .i64 d) (.fz wA aA As.length rA) := by rw [← hH]; exact ⟨by simp only [pwA, if_true, if_false, eq_self, nm_eq, reduceCtorEq, ↓reduceIte, Nat.reduceEqDiff, Nat.reduceLeDiff, Nat.reduceBEq, Nat.reduceAdd, Nat.reduceLT, Nat.reduceSub, Nat.reduceMul, Int.reduceEq, Int.reduceLT, Int.reduceLE, Int.reduceNeg, Int.reduceToNat, List.reduceReplicate, Int.ofNat_le, List.getElem?_drop], by simp only [pwA, if_true, if_false, eq_self, nm_eq, reduceCtorEq, ↓reduceIte, Nat.reduceEqDiff, Nat.reduceLeDiff, Nat.reduceBEq, Nat.reduceAdd, Nat.reduceLT, Nat.reduceSub, Nat.reduceMul, Int.reduceEq, Int.reduceLT, Int.reduceLE, Int.reduceNeg, Int.reduceToNat, List.reduceReplicate, Int.ofNat_le, List.getElem?_drop]; omega⟩
  have hs' : PtrR H (σ.next + 2) p' (.int .i64 d') (.fz wB aB Bs.length rB) := by rw [← hH]; exact ⟨by simp only [pwA, if_true, if_false, eq_self, nm_eq, reduceCtorEq, ↓reduceIte, Nat.reduceEqDiff, Nat.reduceLeDiff, Nat.reduceBEq, Nat.reduceAdd, Nat.reduceLT, Nat.reduceSub, Nat.reduceMul, Int.reduceEq, Int.reduceLT, Int.reduceLE, Int.reduceNeg, Int.reduceToNat, List.reduceReplicate, Int.ofNat_le, List.getElem?_drop], by simp only [pwA, if_true, if_false, eq_self, nm_eq, reduceCtorEq, ↓reduceIte, Nat.reduceEqDiff, Nat.reduceLeDiff, Nat.reduceBEq, Nat.reduceAdd, Nat.reduceLT, Nat.reduceSub, Nat.reduceMul, Int.reduceEq, Int.reduceLT, Int.reduceLE, Int.reduceNeg, Int.reduceToNat, List.reduceReplicate, Int.ofNat_le, List.getElem?_drop]; omega⟩
  have hor : H.obj (σ.next + 3) = some [.int .i64 0, .int .i64 0, .fz true .nils 0 []] := by rw [← hH]; simp only [pwA, if_true, if_false, eq_self, nm_eq, reduceCtorEq, ↓reduceIte, Nat.reduceEqDiff, Nat.reduceLeDiff, Nat.reduceBEq, Nat.reduceAdd, Nat.reduceLT, Nat.reduceSub, Nat.reduceMul, Int.reduceEq, Int.reduceLT, Int.reduceLE, Int.reduceNeg, Int.reduceToNat, List.reduceReplicate, Int.ofNat_le, List.getElem?_drop]
  have no : ∀ {c : Int}, tensRes O P C p d As p' d' Bs = ((0, 0, []), c) → Gh σ K (.tup [.agg [.int .i64 0, .int .i64 0, .fz true .nils 0 []], .int .i64 c]) (H.set (σ.next + 3) [.int .i64 0, .int .i64 0, .fz true .nils 0 []]) := fun h => Gh.fin0T (t := σ.top) (hkp.set (by omega) _) hkp.top ⟨⟨trivial, trivial, trivial, trivial⟩, trivial, trivial⟩ fun _ => hk _ 0 0 [] _ σ.top ⟨by rw [h]⟩ ⟨_, _, [], rfl, All2.nil _⟩ (Own.empty _ _ _ _ _) (Nat.le_refl _)
  have hwr0 : H.wr (σ.next + 3) 0 [.int .i64 0, .int .i64 0, .fz true .nils 0 []] = some (H.set (σ.next + 3) [.int .i64 0, .int .i64 0, .fz true .nils 0 []]) := by
    rw [obj_wr hor, if_pos ⟨by simp, by rfl⟩]; rfl
  have hrd0 : (H.set (σ.next + 3) [.int .i64 0, .int .i64 0, .fz true .nils 0 []]).rd (σ.next + 3) 0 3 = some [.int .i64 0, .int .i64 0, .fz true .nils 0 []] := by rw [prd_set, if_pos rfl]; rfl
  have m0 : H.rd1 (σ.next + 1) 0 = some (.int .i64 p) := by rw [obj_rd1 hs.obj]; rfl
  have m1 : H.rd1 (σ.next + 1) 1 = some (.int .i64 d) := by rw [obj_rd1 hs.obj]; rfl
  have m1' : H.rd1 (σ.next + 2) 1 = some (.int .i64 d') := by rw [obj_rd1 hs'.obj]; rfl
  have g0 : H.rd1 σ.next 0 = some (.fz w0 a0 O.length (pis O)) := by rw [obj_rd1 hsp.obj]; rfl
  refine pcalls_of_vp mix Try.func38 cf38 rfl ?_
  dsimp only [if38, qI, eI, nI, qD, eD]
  simp only [pwA, if_true, if_false, eq_self, nm_eq, reduceCtorEq, ↓reduceIte, Nat.reduceEqDiff, Nat.reduceLeDiff, Nat.reduceBEq, Nat.reduceAdd, Nat.reduceLT, Nat.reduceSub, Nat.reduceMul, Int.reduceEq, Int.reduceLT, Int.reduceLE, Int.reduceNeg, Int.reduceToNat, List.reduceReplicate, Int.ofNat_le, List.getElem?_drop, h0, h1, h2, h3, h4]
  rw [hH]
  refine modulesCode_ok hsp hR0 sz hs hA0 szA hs' hB0 szB ?_
  by_cases hc : codeM O P C p d As p' d' Bs = 0
  rotate_left
  · simp only [pwA, if_true, if_false, eq_self, nm_eq, reduceCtorEq, ↓reduceIte, Nat.reduceEqDiff, Nat.reduceLeDiff, Nat.reduceBEq, Nat.reduceAdd, Nat.reduceLT, Nat.reduceSub, Nat.reduceMul, Int.reduceEq, Int.reduceLT, Int.reduceLE, Int.reduceNeg, Int.reduceToNat, List.reduceReplicate, Int.ofNat_le, List.getElem?_drop, hc, hwr0, hrd0]
    exact no (by unfold tensRes; rw [if_neg hc])
  have hmods : isMod O P C p d As ∧ isMod O P C p' d' Bs ∧ p = p' := by
    unfold codeM at hc
    split at hc
    · rename_i h
      split at hc
      · rename_i h'; exact ⟨h.1, h.2, h'⟩
      · omega
    · omega
  obtain ⟨hm, hm', rfl⟩ := hmods
  obtain ⟨n, hn⟩ : ∃ n : Nat, d = (n : Int) := ⟨d.toNat, by have := hm.2.2.1; omega⟩
  obtain ⟨n', hn'⟩ : ∃ n' : Nat, d' = (n' : Int) := ⟨d'.toNat, by have := hm'.2.2.1; omega⟩
  subst hn hn'
  have b1 := hm.2.2.1
  have b2 := hm'.2.2.1
  have hpb := hm.2.1.bd
  have hq : SqL p n As := hm.2.2.2.2.1
  have hq' : SqL p n' Bs := hm'.2.2.2.2.1
  have hal := hm.2.2.2.1
  have hbl := hm'.2.2.2.1
  have hn6 := hm.1.1.shp.le
  have hmul : (n : Int) * (n' : Int) = ((n * n' : Nat) : Int) := by rw [Int.natCast_mul]
  have hnn9 : n * n' ≤ 9 := Nat.mul_le_mul (by omega : n ≤ 3) (by omega : n' ≤ 3)
  have ewm : IntKind.i64.wrap ((n : Int) * (n' : Int)) = ((n * n' : Nat) : Int) := by rw [hmul, wrap64 (by omega) (by omega)]
  by_cases hlim : n * n' ≤ 3
  rotate_left
  · have hl' : (3 : Int) < ((n * n' : Nat) : Int) := by omega
    simp only [pwA, if_true, if_false, eq_self, nm_eq, reduceCtorEq, ↓reduceIte, Nat.reduceEqDiff, Nat.reduceLeDiff, Nat.reduceBEq, Nat.reduceAdd, Nat.reduceLT, Nat.reduceSub, Nat.reduceMul, Int.reduceEq, Int.reduceLT, Int.reduceLE, Int.reduceNeg, Int.reduceToNat, List.reduceReplicate, Int.ofNat_le, List.getElem?_drop, hc, m1, m1', ewm, hl', hwr0, hrd0]
    exact no (by unfold tensRes; rw [if_pos hc, if_pos (by rw [hmul]; exact hl')])
  have hl' : ¬ (3 : Int) < ((n * n' : Nat) : Int) := by omega
  have hne0 : ¬ σ.next = H.next := by omega
  simp only [pwA, if_true, if_false, eq_self, nm_eq, reduceCtorEq, ↓reduceIte, Nat.reduceEqDiff, Nat.reduceLeDiff, Nat.reduceBEq, Nat.reduceAdd, Nat.reduceLT, Nat.reduceSub, Nat.reduceMul, Int.reduceEq, Int.reduceLT, Int.reduceLE, Int.reduceNeg, Int.reduceToNat, List.reduceReplicate, Int.ofNat_le, List.getElem?_drop, hc, m0, m1, m1', ewm, hl', g0, hne0]
  refine vp_loop (fun m us h' => ∃ (g : Nat) (v : PV) (ms : List SM), g ≤ O.length ∧ m = O.length - g ∧ us = [.ptr (σ.next + 1) 0, .ptr (σ.next + 2) 0, .ptr (σ.next + 3) 0, .ptr H.next 0, .int .i64 O.length, .int .i64 g] ∧ MatsI H h' H.next p ((n * n' : Nat) : Int) v ms ∧ ms.length = g ∧ ms.map SM.val = tens p As Bs g) O.length ?_ ?_
  · exact ⟨0, _, [], by omega, by omega, rfl, ⟨keep_new H _, by rw [pobj_new, if_pos rfl], Nat.lt_succ_self _, Nat.le_refl _, PAcc.nil _ _ _, fun m hm => (by cases hm), List.nodup_nil, fun r hr => (by cases hr), fun _ _ _ h => (by cases h), fun h => (by cases h)⟩, rfl, rfl⟩
  as_aux_lemma =>
  rintro m us hg ⟨g, v, ms, hgO, rfl, rfl, a, hml, hmv⟩
  have hgn := a.keep.next
  have k1 : hg.rd1 (σ.next + 1) 2 = some (.fz wA aA As.length rA) := by rw [obj_rd1 (hs.keep a.keep).obj]; rfl
  have k2 : hg.rd1 (σ.next + 2) 2 = some (.fz wB aB Bs.length rB) := by rw [obj_rd1 (hs'.keep a.keep).obj]; rfl
  have r3 : hg.rd H.next 0 3 = some [.int .i64 p, .int .i64 ((n * n' : Nat) : Int), v] := by rw [obj_rd a.obj]; rfl
  simp only [pwA, if_true, if_false, eq_self, nm_eq, reduceCtorEq, ↓reduceIte, Nat.reduceEqDiff, Nat.reduceLeDiff, Nat.reduceBEq, Nat.reduceAdd, Nat.reduceLT, Nat.reduceSub, Nat.reduceMul, Int.reduceEq, Int.reduceLT, Int.reduceLE, Int.reduceNeg, Int.reduceToNat, List.reduceReplicate, Int.ofNat_le, List.getElem?_drop]
  refine iteI (fun hlt => ?_) fun hge => ?_
  rotate_left
  · as_aux_lemma =>
    have hge' : g = O.length := by omega
    rw [hge'] at hmv
    have hv1 := a.acc.one
    have hor' : hg.obj (σ.next + 3) = some [.int .i64 0, .int .i64 0, .fz true .nils 0 []] := by rw [a.keep.obj _ (by omega)]; exact hor
    have hwr : hg.wr (σ.next + 3) 0 [.int .i64 p, .int .i64 ((n * n' : Nat) : Int), v] = some (hg.set (σ.next + 3) [.int .i64 p, .int .i64 ((n * n' : Nat) : Int), v]) := by
      rw [obj_wr hor', if_pos ⟨by simp, by simp only [List.all_cons, List.all_nil, hv1]; rfl⟩]; rfl
    have hrd : (hg.set (σ.next + 3) [.int .i64 p, .int .i64 ((n * n' : Nat) : Int), v]).rd (σ.next + 3) 0 3 = some [.int .i64 p, .int .i64 ((n * n' : Nat) : Int), v] := by rw [prd_set, if_pos rfl]; rfl
    simp only [pwA, if_true, if_false, eq_self, nm_eq, reduceCtorEq, ↓reduceIte, Nat.reduceEqDiff, Nat.reduceLeDiff, Nat.reduceBEq, Nat.reduceAdd, Nat.reduceLT, Nat.reduceSub, Nat.reduceMul, Int.reduceEq, Int.reduceLT, Int.reduceLE, Int.reduceNeg, Int.reduceToNat, List.reduceReplicate, Int.ofNat_le, List.getElem?_drop, r3, hwr, hrd]
    refine Gh.tagg3 (Gh.finMats wf ms (FR := []) (N1 := []) ((hkp.trans a.keep).set (by omega) _) ((a.acc.setX (by omega)).low (by omega)) (All2.nil _) (Owns.nil _ _) (fun m hm => ?_) a.nd a.ne fun v t h1 h2 h3 => hk v p _ (tens p As Bs O.length) 0 t ⟨?_⟩ (by rw [← hmv]; simpa using h1) h2 h3)
    · refine ((a.ok m hm).low (by omega)).mono (Nat.le_refl _) fun u hu => ?_
      have hu' : u ∈ slotsM ms := List.mem_flatMap.2 ⟨m, hm, hu⟩
      have := slotsM_lt a.ok hu'
      rw [pobj_set, if_neg (by omega)]
    · unfold tensRes
      rw [if_pos hc, if_neg (by rw [hmul]; exact hl'), hmul]
  have hgA : g < As.length := by omega
  have hgB : g < Bs.length := by omega
  obtain ⟨w4, a4, rs, hr, hrs⟩ := hrA.rowL hgA
  obtain ⟨w5, a5, rt, hr5, hrt⟩ := hrB.rowL hgB
  have hmA := hq.mat hgA
  rw [mat_eq hgA] at hmA
  have hmB := hq'.mat hgB
  rw [mat_eq hgB] at hmB
  simp only [pwA, if_true, if_false, eq_self, nm_eq, reduceCtorEq, ↓reduceIte, Nat.reduceEqDiff, Nat.reduceLeDiff, Nat.reduceBEq, Nat.reduceAdd, Nat.reduceLT, Nat.reduceSub, Nat.reduceMul, Int.reduceEq, Int.reduceLT, Int.reduceLE, Int.reduceNeg, Int.reduceToNat, List.reduceReplicate, Int.ofNat_le, List.getElem?_drop, k1, hgA, hr, List.getElem?_drop]
  generalize hAg : As[g] = A at *
  generalize hBg : Bs[g] = B at *
  have hAl := hmA.1
  have hBl := hmB.1
  refine vp_abs 2 (fun e h => ∃ vR rows b, e = PEnv.mk [4, 5, 6, 9, 10, 11, 43, 44, 51, 52, 53, 54] [.ptr (σ.next + 1) 0, .ptr (σ.next + 2) 0, .ptr (σ.next + 3) 0, .ptr H.next 0, .int .i64 g, vR, .int .i64 O.length, .int .i64 g, .fz w4 a4 A.length rs, .int .i64 A.length, .int .i64 A.length, b] ∧ RowsI hg h vR rows ∧ rows.map SR.x = tmat p A B) (fun Q1 hQ1 => ?_) ?_
  rotate_left
  · as_aux_lemma =>
    rintro e h2 ⟨vR, rows, b, rfl, ar, hrv⟩
    have o2 : h2.obj H.next = some [.int .i64 p, .int .i64 ((n * n' : Nat) : Int), v] := by rw [ar.keep.obj _ a.lt]; exact a.obj
    have q2 : h2.rd1 H.next 2 = some v := by rw [obj_rd1 o2]; rfl
    have hpos : 0 < rows.length := by
      have h1 := congrArg List.length hrv
      rw [List.length_map, tmat_len, hmA.1, hmB.1] at h1
      have : 1 ≤ n * n' := Nat.mul_le_mul (by omega : 1 ≤ n) (by omega : 1 ≤ n')
      omega
    have hRone := ar.acc.one
    have hRc : vR.cells = [vR] := by
      obtain ⟨t, cap, rfl, _⟩ := ar.acc.pos hpos
      rfl
    have hnl : ¬ H.next = h2.next := by have := a.lt; have := ar.keep.next; omega
    simp only [pwA, if_true, if_false, eq_self, nm_eq, reduceCtorEq, ↓reduceIte, Nat.reduceEqDiff, Nat.reduceLeDiff, Nat.reduceBEq, Nat.reduceAdd, Nat.reduceLT, Nat.reduceSub, Nat.reduceMul, Int.reduceEq, Int.reduceLT, Int.reduceLE, Int.reduceNeg, Int.reduceToNat, List.reduceReplicate, Int.ofNat_le, List.getElem?_drop, q2, hRone, hRc, hnl]
    refine MatsI.push a ar hpos (by omega) fun v' h6 ms' u1 u2 u3 u4 u5 u6 => ?_
    simp only [pwA, if_true, if_false, eq_self, nm_eq, reduceCtorEq, ↓reduceIte, Nat.reduceEqDiff, Nat.reduceLeDiff, Nat.reduceBEq, Nat.reduceAdd, Nat.reduceLT, Nat.reduceSub, Nat.reduceMul, Int.reduceEq, Int.reduceLT, Int.reduceLE, Int.reduceNeg, Int.reduceToNat, List.reduceReplicate, Int.ofNat_le, List.getElem?_drop, u1, u2, u3, wrapS hlt (by omega : O.length ≤ 4611686018427387904)]
    refine ⟨_, by omega, g + 1, v', ms', by omega, rfl, rfl, u4, by omega, ?_⟩
    rw [u5, hmv, hrv]
    unfold tens
    rw [List.range_succ, List.map_append]
    simp only [List.map_cons, List.map_nil]
    rw [mat_eq hgA, mat_eq hgB, hAg, hBg]
  as_aux_lemma =>
  refine vp_loop (fun m us h2 => ∃ (i : Nat) (vR : PV) (rows : List SR), i ≤ A.length ∧ m = A.length - i ∧ us = [.ptr (σ.next + 1) 0, .ptr (σ.next + 2) 0, .ptr (σ.next + 3) 0, .ptr H.next 0, .int .i64 g, vR, .int .i64 O.length, .int .i64 g, .fz w4 a4 A.length rs, .int .i64 A.length, .int .i64 i] ∧ RowsI hg h2 vR rows ∧ rows.map SR.x = tmat p (A.take i) B) A.length ?_ ?_
  · exact ⟨0, _, [], by omega, by omega, rfl, RowsI.nil hg, by simp [tmat]⟩
  as_aux_lemma =>
  rintro m us h2 ⟨i, vR, rows, hi, rfl, rfl, ar, hrv⟩
  have hkg2 := a.keep.trans ar.keep
  have k2' : h2.rd1 (σ.next + 2) 2 = some (.fz wB aB Bs.length rB) := by rw [obj_rd1 (hs'.keep hkg2).obj]; rfl
  simp only [pwA, if_true, if_false, eq_self, nm_eq, reduceCtorEq, ↓reduceIte, Nat.reduceEqDiff, Nat.reduceLeDiff, Nat.reduceBEq, Nat.reduceAdd, Nat.reduceLT, Nat.reduceSub, Nat.reduceMul, Int.reduceEq, Int.reduceLT, Int.reduceLE, Int.reduceNeg, Int.reduceToNat, List.reduceReplicate, Int.ofNat_le, List.getElem?_drop]
  refine iteI (fun hlti => ?_) fun hgei => ?_
  rotate_left
  · as_aux_lemma =>
    have hie : i = A.length := by omega
    subst hie
    rw [List.take_length] at hrv
    exact hQ1 _ _ ⟨vR, rows, _, rfl, ar, hrv⟩
  obtain ⟨w6, a6, hr6⟩ := hrs.rowI hlti
  simp only [pwA, if_true, if_false, eq_self, nm_eq, reduceCtorEq, ↓reduceIte, Nat.reduceEqDiff, Nat.reduceLeDiff, Nat.reduceBEq, Nat.reduceAdd, Nat.reduceLT, Nat.reduceSub, Nat.reduceMul, Int.reduceEq, Int.reduceLT, Int.reduceLE, Int.reduceNeg, Int.reduceToNat, List.reduceReplicate, Int.ofNat_le, List.getElem?_drop, hlti, hr6, k2', hgB, hr5, List.getElem?_drop]
  refine vp_abs 4 (fun e h => ∃ vR rows b, e = PEnv.mk [4, 5, 6, 9, 10, 11, 13, 43, 44, 51, 52, 53, 61, 62, 63, 64] [.ptr (σ.next + 1) 0, .ptr (σ.next + 2) 0, .ptr (σ.next + 3) 0, .ptr H.next 0, .int .i64 g, vR, .fz w6 a6 A[i].length (pis A[i]), .int .i64 O.length, .int .i64 g, .fz w4 a4 A.length rs, .int .i64 A.length, .int .i64 i, .fz w5 a5 B.length rt, .int .i64 B.length, .int .i64 B.length, b] ∧ RowsI hg h vR rows ∧ rows.map SR.x = tmat p (A.take (i + 1)) B) (fun Q2 hQ2 => ?_) ?_
  rotate_left
  · as_aux_lemma =>
    rintro e h3 ⟨vR, rows, b, rfl, ar, hrv⟩
    simp only [pwA, if_true, if_false, eq_self, nm_eq, reduceCtorEq, ↓reduceIte, Nat.reduceEqDiff, Nat.reduceLeDiff, Nat.reduceBEq, Nat.reduceAdd, Nat.reduceLT, Nat.reduceSub, Nat.reduceMul, Int.reduceEq, Int.reduceLT, Int.reduceLE, Int.reduceNeg, Int.reduceToNat, List.reduceReplicate, Int.ofNat_le, List.getElem?_drop, wrapS hlti (by omega : A.length ≤ 4611686018427387904)]
    exact ⟨_, by omega, i + 1, vR, rows, by omega, rfl, rfl, ar, hrv⟩
  as_aux_lemma =>
  refine vp_loop (fun m us h3 => ∃ (q : Nat) (vR : PV) (rows : List SR), q ≤ B.length ∧ m = B.length - q ∧ us = [.ptr (σ.next + 1) 0, .ptr (σ.next + 2) 0, .ptr (σ.next + 3) 0, .ptr H.next 0, .int .i64 g, vR, .fz w6 a6 A[i].length (pis A[i]), .int .i64 O.length, .int .i64 g, .fz w4 a4 A.length rs, .int .i64 A.length, .int .i64 i, .fz w5 a5 B.length rt, .int .i64 B.length, .int .i64 q] ∧ RowsI hg h3 vR rows ∧ rows.map SR.x = tmat p (A.take i) B ++ (B.take q).map fun b => trow p A[i] b) B.length ?_ ?_
  · exact ⟨0, vR, rows, by omega, by omega, rfl, ar, by simpa using hrv⟩
  clear ar hrv hkg2 k2' vR rows
  as_aux_lemma =>
  rintro m us h3 ⟨q, vR, rows, hqB, rfl, rfl, ar, hrv⟩
  simp only [pwA, if_true, if_false, eq_self, nm_eq, reduceCtorEq, ↓reduceIte, Nat.reduceEqDiff, Nat.reduceLeDiff, Nat.reduceBEq, Nat.reduceAdd, Nat.reduceLT, Nat.reduceSub, Nat.reduceMul, Int.reduceEq, Int.reduceLT, Int.reduceLE, Int.reduceNeg, Int.reduceToNat, List.reduceReplicate, Int.ofNat_le, List.getElem?_drop]
  refine iteI (fun hltq => ?_) fun hgeq => ?_
  rotate_left
  · as_aux_lemma =>
    have hqe : q = B.length := by omega
    subst hqe
    rw [List.take_length, ← tmat_take hlti] at hrv
    exact hQ2 _ _ ⟨vR, rows, _, rfl, ar, hrv⟩
  obtain ⟨w7, a7, hr7⟩ := hrt.rowI hltq
  have hkg3 := a.keep.trans ar.keep
  simp only [pwA, if_true, if_false, eq_self, nm_eq, reduceCtorEq, ↓reduceIte, Nat.reduceEqDiff, Nat.reduceLeDiff, Nat.reduceBEq, Nat.reduceAdd, Nat.reduceLT, Nat.reduceSub, Nat.reduceMul, Int.reduceEq, Int.reduceLT, Int.reduceLE, Int.reduceNeg, Int.reduceToNat, List.reduceReplicate, Int.ofNat_le, List.getElem?_drop, hltq, hr7, List.getElem?_drop]
  refine vp_abs 6 (fun e h => ∃ vW b, e = PEnv.mk [4, 5, 6, 9, 10, 11, 13, 15, 16, 43, 44, 51, 52, 53, 61, 62, 63, 67, 68, 69, 70] [.ptr (σ.next + 1) 0, .ptr (σ.next + 2) 0, .ptr (σ.next + 3) 0, .ptr H.next 0, .int .i64 g, vR, .fz w6 a6 A[i].length (pis A[i]), .fz w7 a7 B[q].length (pis B[q]), vW, .int .i64 O.length, .int .i64 g, .fz w4 a4 A.length rs, .int .i64 A.length, .int .i64 i, .fz w5 a5 B.length rt, .int .i64 B.length, .int .i64 q, .fz w6 a6 A[i].length (pis A[i]), .int .i64 A[i].length, .int .i64 A[i].length, b] ∧ Keep h3 h ∧ PAcc h3.next 1 h vW (trow p A[i] B[q]).length (pis (trow p A[i] B[q]))) (fun Q3 hQ3 => ?_) ?_
  rotate_left
  · as_aux_lemma =>
    rintro e h4 ⟨vW, b, rfl, kw, aw⟩
    have hlA := (hmA.2 _ (List.getElem_mem hlti)).len
    have hlB := (hmB.2 _ (List.getElem_mem hltq)).len
    have hwl : (trow p A[i] B[q]).length = n * n' := by rw [trow_len, hlA, hlB]
    have hnn1 : 1 ≤ n * n' := Nat.mul_le_mul (by omega : 1 ≤ n) (by omega : 1 ≤ n')
    obtain ⟨t, cap, rfl, hf, z2, z3, z4, z5⟩ := aw.pos (by omega)
    have hrl : rows.length ≤ 1000 := by
      have h1 := congrArg List.length hrv
      rw [List.length_map, List.length_append, tmat_len, List.length_map, List.length_take, List.length_take] at h1
      have h2 : min i A.length * B.length ≤ 3 * 3 := Nat.mul_le_mul (by omega) (by omega)
      omega
    simp only [pwA, if_true, if_false, eq_self, nm_eq, reduceCtorEq, ↓reduceIte, Nat.reduceEqDiff, Nat.reduceLeDiff, Nat.reduceBEq, Nat.reduceAdd, Nat.reduceLT, Nat.reduceSub, Nat.reduceMul, Int.reduceEq, Int.reduceLT, Int.reduceLE, Int.reduceNeg, Int.reduceToNat, List.reduceReplicate, Int.ofNat_le, List.getElem?_drop]
    refine RowsI.push (x := trow p A[i] B[q]) ar kw z4 z5 z2 hf hrl fun v' h6 r6 k6 l6 => ?_
    simp only [pwA, if_true, if_false, eq_self, nm_eq, reduceCtorEq, ↓reduceIte, Nat.reduceEqDiff, Nat.reduceLeDiff, Nat.reduceBEq, Nat.reduceAdd, Nat.reduceLT, Nat.reduceSub, Nat.reduceMul, Int.reduceEq, Int.reduceLT, Int.reduceLE, Int.reduceNeg, Int.reduceToNat, List.reduceReplicate, Int.ofNat_le, List.getElem?_drop, wrapS hltq (by omega : B.length ≤ 4611686018427387904)]
    refine ⟨_, by omega, q + 1, v', rows ++ [⟨t, cap, trow p A[i] B[q]⟩], by omega, rfl, rfl, r6, ?_⟩
    rw [List.map_append, hrv, map_take_snoc hltq, List.append_assoc]; rfl
  as_aux_lemma =>
  refine vp_loop (fun m us h4 => ∃ (j : Nat) (vW : PV), j ≤ A[i].length ∧ m = A[i].length - j ∧ us = [.ptr (σ.next + 1) 0, .ptr (σ.next + 2) 0, .ptr (σ.next + 3) 0, .ptr H.next 0, .int .i64 g, vR, .fz w6 a6 A[i].length (pis A[i]), .fz w7 a7 B[q].length (pis B[q]), vW, .int .i64 O.length, .int .i64 g, .fz w4 a4 A.length rs, .int .i64 A.length, .int .i64 i, .fz w5 a5 B.length rt, .int .i64 B.length, .int .i64 q, .fz w6 a6 A[i].length (pis A[i]), .int .i64 A[i].length, .int .i64 j] ∧ Keep h3 h4 ∧ PAcc h3.next 1 h4 vW (trow p (A[i].take j) B[q]).length (pis (trow p (A[i].take j) B[q]))) A[i].length ?_ ?_
  · exact ⟨0, _, by omega, by omega, rfl, Keep.refl _, PAcc.nil _ _ _⟩
  as_aux_lemma =>
  rintro m us h4 ⟨j, vW, hj, rfl, rfl, kw, aw⟩
  simp only [pwA, if_true, if_false, eq_self, nm_eq, reduceCtorEq, ↓reduceIte, Nat.reduceEqDiff, Nat.reduceLeDiff, Nat.reduceBEq, Nat.reduceAdd, Nat.reduceLT, Nat.reduceSub, Nat.reduceMul, Int.reduceEq, Int.reduceLT, Int.reduceLE, Int.reduceNeg, Int.reduceToNat, List.reduceReplicate, Int.ofNat_le, List.getElem?_drop]
  refine iteI (fun hltj => ?_) fun hgej => ?_
  rotate_left
  · as_aux_lemma =>
    have hje : j = A[i].length := by omega
    subst hje
    rw [List.take_length] at aw
    exact hQ3 _ _ ⟨vW, _, rfl, kw, aw⟩
  have hlA := (hmA.2 _ (List.getElem_mem hlti)).len
  have hlB := (hmB.2 _ (List.getElem_mem hltq)).len
  have bx := (hmA.2 _ (List.getElem_mem hlti)).bd j
  rw [at_eq hltj] at bx
  have htl : (trow p (A[i].take j) B[q]).length ≤ 9 := by
    rw [trow_len]
    have h2 : (A[i].take j).length * B[q].length ≤ 3 * 3 := Nat.mul_le_mul (by rw [List.length_take]; omega) (by omega)
    omega
  simp only [pwA, if_true, if_false, eq_self, nm_eq, reduceCtorEq, ↓reduceIte, Nat.reduceEqDiff, Nat.reduceLeDiff, Nat.reduceBEq, Nat.reduceAdd, Nat.reduceLT, Nat.reduceSub, Nat.reduceMul, Int.reduceEq, Int.reduceLT, Int.reduceLE, Int.reduceNeg, Int.reduceToNat, List.reduceReplicate, Int.ofNat_le, List.getElem?_drop, hltj, gi hltj, pis_get, List.getElem?_drop]
  refine vp_abs 8 (fun e h => ∃ vW b, e = PEnv.mk [4, 5, 6, 9, 10, 11, 13, 15, 16, 18, 43, 44, 51, 52, 53, 61, 62, 63, 67, 68, 69, 73, 74, 75, 76] [.ptr (σ.next + 1) 0, .ptr (σ.next + 2) 0, .ptr (σ.next + 3) 0, .ptr H.next 0, .int .i64 g, vR, .fz w6 a6 A[i].length (pis A[i]), .fz w7 a7 B[q].length (pis B[q]), vW, .int .i64 A[i][j], .int .i64 O.length, .int .i64 g, .fz w4 a4 A.length rs, .int .i64 A.length, .int .i64 i, .fz w5 a5 B.length rt, .int .i64 B.length, .int .i64 q, .fz w6 a6 A[i].length (pis A[i]), .int .i64 A[i].length, .int .i64 j, .fz w7 a7 B[q].length (pis B[q]), .int .i64 B[q].length, .int .i64 B[q].length, b] ∧ Keep h3 h ∧ PAcc h3.next 1 h vW (trow p (A[i].take (j + 1)) B[q]).length (pis (trow p (A[i].take (j + 1)) B[q]))) (fun Q4 hQ4 => ?_) ?_
  rotate_left
  · as_aux_lemma =>
    rintro e h5 ⟨vW, b, rfl, kw, aw⟩
    simp only [pwA, if_true, if_false, eq_self, nm_eq, reduceCtorEq, ↓reduceIte, Nat.reduceEqDiff, Nat.reduceLeDiff, Nat.reduceBEq, Nat.reduceAdd, Nat.reduceLT, Nat.reduceSub, Nat.reduceMul, Int.reduceEq, Int.reduceLT, Int.reduceLE, Int.reduceNeg, Int.reduceToNat, List.reduceReplicate, Int.ofNat_le, List.getElem?_drop, wrapS hltj (by omega : A[i].length ≤ 4611686018427387904)]
    exact ⟨_, by omega, j + 1, vW, by omega, rfl, rfl, kw, aw⟩
  as_aux_lemma =>
  refine vp_loop (fun m us h5 => ∃ (l : Nat) (vW : PV), l ≤ B[q].length ∧ m = B[q].length - l ∧ us = [.ptr (σ.next + 1) 0, .ptr (σ.next + 2) 0, .ptr (σ.next + 3) 0, .ptr H.next 0, .int .i64 g, vR, .fz w6 a6 A[i].length (pis A[i]), .fz w7 a7 B[q].length (pis B[q]), vW, .int .i64 A[i][j], .int .i64 O.length, .int .i64 g, .fz w4 a4 A.length rs, .int .i64 A.length, .int .i64 i, .fz w5 a5 B.length rt, .int .i64 B.length, .int .i64 q, .fz w6 a6 A[i].length (pis A[i]), .int .i64 A[i].length, .int .i64 j, .fz w7 a7 B[q].length (pis B[q]), .int .i64 B[q].length, .int .i64 l] ∧ Keep h3 h5 ∧ PAcc h3.next 1 h5 vW (trow p (A[i].take j) B[q] ++ (B[q].take l).map fun y => A[i][j] * y % p).length (pis (trow p (A[i].take j) B[q] ++ (B[q].take l).map fun y => A[i][j] * y % p))) B[q].length ?_ ?_
  · exact ⟨0, vW, by omega, by omega, rfl, kw, by simpa using aw⟩
  clear kw aw vW h4
  as_aux_lemma =>
  rintro m us h5 ⟨l, vW, hl, rfl, rfl, kw, aw⟩
  have p5 : h5.rd1 (σ.next + 1) 0 = some (.int .i64 p) := by rw [obj_rd1 (hs.keep (hkg3.trans kw)).obj]; rfl
  simp only [pwA, if_true, if_false, eq_self, nm_eq, reduceCtorEq, ↓reduceIte, Nat.reduceEqDiff, Nat.reduceLeDiff, Nat.reduceBEq, Nat.reduceAdd, Nat.reduceLT, Nat.reduceSub, Nat.reduceMul, Int.reduceEq, Int.reduceLT, Int.reduceLE, Int.reduceNeg, Int.reduceToNat, List.reduceReplicate, Int.ofNat_le, List.getElem?_drop]
  refine iteI (fun hltl => ?_) fun hgel => ?_
  rotate_left
  · as_aux_lemma =>
    have hle : l = B[q].length := by omega
    subst hle
    rw [List.take_length, ← trow_take hltj] at aw
    exact hQ4 _ _ ⟨vW, _, rfl, kw, aw⟩
  have by_ := (hmB.2 _ (List.getElem_mem hltq)).bd l
  rw [at_eq hltl] at by_
  have c3 := sm6 (a := A[i][j]) (b := B[q][l]) (by omega) (by omega)
  have hp0 : ¬ p = 0 := by omega
  have et : (A[i][j] * B[q][l]).tmod p = A[i][j] * B[q][l] % p := Int.tmod_eq_emod_of_nonneg (by omega)
  have hem := Int.emod_nonneg (A[i][j] * B[q][l]) hp0
  have hem2 := Int.emod_lt_of_pos (A[i][j] * B[q][l]) (by omega : 0 < p)
  have ew1 : IntKind.i64.wrap (A[i][j] * B[q][l]) = A[i][j] * B[q][l] := wrap64 (by omega) (by omega)
  have ew3 : IntKind.i64.wrap (A[i][j] * B[q][l] % p) = A[i][j] * B[q][l] % p := wrap64 (by omega) (by omega)
  have hll : (trow p (A[i].take j) B[q] ++ (B[q].take l).map fun y => A[i][j] * y % p).length ≤ 12 := by rw [List.length_append, List.length_map, List.length_take]; omega
  simp only [pwA, if_true, if_false, eq_self, nm_eq, reduceCtorEq, ↓reduceIte, Nat.reduceEqDiff, Nat.reduceLeDiff, Nat.reduceBEq, Nat.reduceAdd, Nat.reduceLT, Nat.reduceSub, Nat.reduceMul, Int.reduceEq, Int.reduceLT, Int.reduceLE, Int.reduceNeg, Int.reduceToNat, List.reduceReplicate, Int.ofNat_le, List.getElem?_drop, hltl, gi hltl, pis_get, List.getElem?_drop, p5, ew1, hp0, et, ew3]
  refine PAcc.push (bytes := 8) (σb := h3) kw aw (by omega) (by omega) fun v' h6 k6 a6' => ?_
  simp only [pwA, if_true, if_false, eq_self, nm_eq, reduceCtorEq, ↓reduceIte, Nat.reduceEqDiff, Nat.reduceLeDiff, Nat.reduceBEq, Nat.reduceAdd, Nat.reduceLT, Nat.reduceSub, Nat.reduceMul, Int.reduceEq, Int.reduceLT, Int.reduceLE, Int.reduceNeg, Int.reduceToNat, List.reduceReplicate, Int.ofNat_le, List.getElem?_drop, wrapS hltl (by omega : B[q].length ≤ 4611686018427387904)]
  refine ⟨_, by omega, l + 1, v', by omega, rfl, rfl, k6, ?_⟩
  rw [map_take_snoc hltl, ← List.append_assoc]
  have := a6'.acc
  simpa [pis, Nat.add_assoc] using this
end Go.Proofs
set_option linter.unusedSimpArgs false
set_option linter.unusedVariables false
namespace Go.Proofs
open Go.Ab Go.Lie Go.Grp Go.Mx
variable {σ : PHeap} {K : PV → PHeap → Prop} {p d p' d' : Int} {n n' : Nat} {As Bs : List (List (List Int))} {vA vB : PV} {O : List Int} {P : List (List Int)} {C : List (List (List Int))} {vO vP vC : PV} {s s' sp : Nat}
set_option maxHeartbeats 2000000 in
theorem l21Tensor_T (hR : IsPr vO vP vC O P C) (sz : SzP O P C) (hA : FIII vA As) (szA : SzM As) (hB : FIII vB Bs) (szB : SzM Bs)
    (hk : ∀ v z1 z2 z c t, ResR (tensRes O P C p d As p' d' Bs) (z1, z2, z) c → FIII v z → Own σ.top t v → σ.top ≤ t → K (.tup [.agg [.int .i64 z1, .int .i64 z2, v], .int .i64 c]) (σ.up t)) :
    PCalls Try.prog 37 [.agg [vO, vP, vC], .agg [.int .i64 p, .int .i64 d, vA], .agg [.int .i64 p', .int .i64 d', vB]] σ K := by
  have h0 := hR.O.one
  have h1 := hR.P.one
  have h2 := hR.C.one
  have h3 := hA.one
  have h4 := hB.one
  have hR0 := hR
  have hA0 := hA
  have hB0 := hB
  obtain ⟨⟨w0, a0, rfl⟩, _, _⟩ := hR
  obtain ⟨wA, aA, rA, rfl, hrA⟩ := hA
  obtain ⟨wB, aB, rB, rfl, hrB⟩ := hB
  refine PCalls.pwf fun wf => PCalls.gh ?_
  generalize hH : (((σ.new [.fz w0 a0 O.length (pis O), vP, vC]).new [.int .i64 p, .int .i64 d, .fz wA aA As.length rA]).new [.int .i64 p', .int .i64 d', .fz wB aB Bs.length rB]).new [.int .i64 0, .int .i64 0, .fz true .nils 0 []] = H
  have hkp : Keep σ H := by rw [← hH]; exact (((keep_new σ _).new _).new _).new _
  have hHn : H.next = σ.next + 4 := by rw [← hH]; rfl
  have hsp : H.rd σ.next 0 3 = some [.fz w0 a0 O.length (pis O), vP, vC] := by rw [← hH]; simp only [pwA, if_true, if_false, eq_self, nm_eq, reduceCtorEq, ↓reduceIte, Nat.reduceEqDiff, Nat.reduceLeDiff, Nat.reduceBEq, Nat.reduceAdd, Nat.reduceLT, Nat.reduceSub, Nat.reduceMul, Int.reduceEq, Int.reduceLT, Int.reduceLE, Int.reduceNeg, Int.reduceToNat, List.reduceReplicate, Int.ofNat_le, List.getElem?_drop]
  have hs : PtrR H (σ.next + 1) p (.int .i64 d) (.fz wA aA As.length rA) := by rw [← hH]; exact ⟨by simp only [pwA, if_true, if_false, eq_self, nm_eq, reduceCtorEq, ↓reduceIte, Nat.reduceEqDiff, Nat.reduceLeDiff, Nat.reduceBEq, Nat.reduceAdd, Nat.reduceLT, Nat.reduceSub, Nat.reduceMul, Int.reduceEq, Int.reduceLT, Int.reduceLE, Int.reduceNeg, Int.reduceToNat, List.reduceReplicate, Int.ofNat_le, List.getElem?_drop], by simp only [pwA, if_true, if_false, eq_self, nm_eq, reduceCtorEq, ↓reduceIte, Nat.reduceEqDiff, Nat.reduceLeDiff, Nat.reduceBEq, Nat.reduceAdd, Nat.reduceLT, Nat.reduceSub, Nat.reduceMul, Int.reduceEq, Int.reduceLT, Int.reduceLE, Int.reduceNeg, Int.reduceToNat, List.reduceReplicate, Int.ofNat_le, List.getElem?_drop]; omega⟩
  have hs' : PtrR H (σ.next + 2) p' (.int .i64 d') (.fz wB aB Bs.length rB) := by rw [← hH]; exact ⟨by simp only [pwA, if_true, if_false, eq_self, nm_eq, reduceCtorEq, ↓reduceIte, Nat.reduceEqDiff, Nat.reduceLeDiff, Nat.reduceBEq, Nat.reduceAdd, Nat.reduceLT, Nat.reduceSub, Nat.reduceMul, Int.reduceEq, Int.reduceLT, Int.reduceLE, Int.reduceNeg, Int.reduceToNat, List.reduceReplicate, Int.ofNat_le, List.getElem?_drop], by simp only [pwA, if_true, if_false, eq_self, nm_eq, reduceCtorEq, ↓reduceIte, Nat.reduceEqDiff, Nat.reduceLeDiff, Nat.reduceBEq, Nat.reduceAdd, Nat.reduceLT, Nat.reduceSub, Nat.reduceMul, Int.reduceEq, Int.reduceLT, Int.reduceLE, Int.reduceNeg, Int.reduceToNat, List.reduceReplicate, Int.ofNat_le, List.getElem?_drop]; omega⟩
  have hsr : H.rd (σ.next + 1) 0 3 = some [.int .i64 p, .int .i64 d, .fz wA aA As.length rA] := by rw [obj_rd hs.obj]; rfl
  have hsr' : H.rd (σ.next + 2) 0 3 = some [.int .i64 p', .int .i64 d', .fz wB aB Bs.length rB] := by rw [obj_rd hs'.obj]; rfl
  have hor : H.obj (σ.next + 3) = some [.int .i64 0, .int .i64 0, .fz true .nils 0 []] := by rw [← hH]; simp only [pwA, if_true, if_false, eq_self, nm_eq, reduceCtorEq, ↓reduceIte, Nat.reduceEqDiff, Nat.reduceLeDiff, Nat.reduceBEq, Nat.reduceAdd, Nat.reduceLT, Nat.reduceSub, Nat.reduceMul, Int.reduceEq, Int.reduceLT, Int.reduceLE, Int.reduceNeg, Int.reduceToNat, List.reduceReplicate, Int.ofNat_le, List.getElem?_drop]
  have no : ∀ {c : Int}, tensRes O P C p d As p' d' Bs = ((0, 0, []), c) → Gh σ K (.tup [.agg [.int .i64 0, .int .i64 0, .fz true .nils 0 []], .int .i64 c]) (H.set (σ.next + 3) [.int .i64 0, .int .i64 0, .fz true .nils 0 []]) := fun h => Gh.fin0T (t := σ.top) (hkp.set (by omega) _) hkp.top ⟨⟨trivial, trivial, trivial, trivial⟩, trivial, trivial⟩ fun _ => hk _ 0 0 [] _ σ.top ⟨by rw [h]⟩ ⟨_, _, [], rfl, All2.nil _⟩ (Own.empty _ _ _ _ _) (Nat.le_refl _)
  have hwr0 : H.wr (σ.next + 3) 0 [.int .i64 0, .int .i64 0, .fz true .nils 0 []] = some (H.set (σ.next + 3) [.int .i64 0, .int .i64 0, .fz true .nils 0 []]) := by
    rw [obj_wr hor, if_pos ⟨by simp, by rfl⟩]; rfl
  have hrd0 : (H.set (σ.next + 3) [.int .i64 0, .int .i64 0, .fz true .nils 0 []]).rd (σ.next + 3) 0 3 = some [.int .i64 0, .int .i64 0, .fz true .nils 0 []] := by rw [prd_set, if_pos rfl]; rfl
  have m0 : H.rd1 (σ.next + 1) 0 = some (.int .i64 p) := by rw [obj_rd1 hs.obj]; rfl
  have m1 : H.rd1 (σ.next + 1) 1 = some (.int .i64 d) := by rw [obj_rd1 hs.obj]; rfl
  have m1' : H.rd1 (σ.next + 2) 1 = some (.int .i64 d') := by rw [obj_rd1 hs'.obj]; rfl
  refine pcalls_of_vp mix Try.func37 cf37 rfl ?_
  dsimp only [if37, qI, eI, nI, qD, eD]
  simp only [pwA, if_true, if_false, eq_self, nm_eq, reduceCtorEq, ↓reduceIte, Nat.reduceEqDiff, Nat.reduceLeDiff, Nat.reduceBEq, Nat.reduceAdd, Nat.reduceLT, Nat.reduceSub, Nat.reduceMul, Int.reduceEq, Int.reduceLT, Int.reduceLE, Int.reduceNeg, Int.reduceToNat, List.reduceReplicate, Int.ofNat_le, List.getElem?_drop, h0, h1, h2, h3, h4]
  rw [hH]
  simp only [pwA, if_true, if_false, eq_self, nm_eq, reduceCtorEq, ↓reduceIte, Nat.reduceEqDiff, Nat.reduceLeDiff, Nat.reduceBEq, Nat.reduceAdd, Nat.reduceLT, Nat.reduceSub, Nat.reduceMul, Int.reduceEq, Int.reduceLT, Int.reduceLE, Int.reduceNeg, Int.reduceToNat, List.reduceReplicate, Int.ofNat_le, List.getElem?_drop, hsp, hsr, hsr']
  refine l21Code_ok hR0 sz hA0 szA hB0 szB ?_
  by_cases hc : codeM O P C p d As p' d' Bs = 0
  rotate_left
  · simp only [pwA, if_true, if_false, eq_self, nm_eq, reduceCtorEq, ↓reduceIte, Nat.reduceEqDiff, Nat.reduceLeDiff, Nat.reduceBEq, Nat.reduceAdd, Nat.reduceLT, Nat.reduceSub, Nat.reduceMul, Int.reduceEq, Int.reduceLT, Int.reduceLE, Int.reduceNeg, Int.reduceToNat, List.reduceReplicate, Int.ofNat_le, List.getElem?_drop, hc, hwr0, hrd0]
    exact no (by unfold tensRes; rw [if_neg hc])
  have hmods : isMod O P C p d As ∧ isMod O P C p' d' Bs ∧ p = p' := by
    unfold codeM at hc
    split at hc
    · rename_i h
      split at hc
      · rename_i h'; exact ⟨h.1, h.2, h'⟩
      · omega
    · omega
  obtain ⟨hm, hm', rfl⟩ := hmods
  obtain ⟨n, hn⟩ : ∃ n : Nat, d = (n : Int) := ⟨d.toNat, by have := hm.2.2.1; omega⟩
  obtain ⟨n', hn'⟩ : ∃ n' : Nat, d' = (n' : Int) := ⟨d'.toNat, by have := hm'.2.2.1; omega⟩
  subst hn hn'
  have b1 := hm.2.2.1
  have b2 := hm'.2.2.1
  have hpb := hm.2.1.bd
  have hq : SqL p n As := hm.2.2.2.2.1
  have hq' : SqL p n' Bs := hm'.2.2.2.2.1
  have hal := hm.2.2.2.1
  have hbl := hm'.2.2.2.1
  have hn6 := hm.1.1.shp.le
  have hmul : (n : Int) * (n' : Int) = ((n * n' : Nat) : Int) := by rw [Int.natCast_mul]
  have hnn9 : n * n' ≤ 9 := Nat.mul_le_mul (by omega : n ≤ 3) (by omega : n' ≤ 3)
  have ewm : IntKind.i64.wrap ((n : Int) * (n' : Int)) = ((n * n' : Nat) : Int) := by rw [hmul, wrap64 (by omega) (by omega)]
  by_cases hlim : n * n' ≤ 3
  rotate_left
  · have hl' : (3 : Int) < ((n * n' : Nat) : Int) := by omega
    simp only [pwA, if_true, if_false, eq_self, nm_eq, reduceCtorEq, ↓reduceIte, Nat.reduceEqDiff, Nat.reduceLeDiff, Nat.reduceBEq, Nat.reduceAdd, Nat.reduceLT, Nat.reduceSub, Nat.reduceMul, Int.reduceEq, Int.reduceLT, Int.reduceLE, Int.reduceNeg, Int.reduceToNat, List.reduceReplicate, Int.ofNat_le, List.getElem?_drop, hc, m1, m1', ewm, hl', hwr0, hrd0]
    exact no (by unfold tensRes; rw [if_pos hc, if_pos (by rw [hmul]; exact hl')])
  have hl' : ¬ (3 : Int) < ((n * n' : Nat) : Int) := by omega
  have hne0 : ¬ σ.next + 1 = H.next := by omega
  have hne1 : ¬ σ.next + 2 = H.next := by omega
  simp only [pwA, if_true, if_false, eq_self, nm_eq, reduceCtorEq, ↓reduceIte, Nat.reduceEqDiff, Nat.reduceLeDiff, Nat.reduceBEq, Nat.reduceAdd, Nat.reduceLT, Nat.reduceSub, Nat.reduceMul, Int.reduceEq, Int.reduceLT, Int.reduceLE, Int.reduceNeg, Int.reduceToNat, List.reduceReplicate, Int.ofNat_le, List.getElem?_drop, hc, m0, m1, m1', ewm, hl', hne0, hne1]
  refine vp_loop (fun m us h' => ∃ (g : Nat) (v : PV) (ms : List SM), g ≤ O.length ∧ m = O.length - g ∧ us = [.ptr (σ.next + 1) 0, .ptr (σ.next + 2) 0, .ptr (σ.next + 3) 0, .ptr (H.next + 1) 0, .int .i64 g] ∧ MatsI H h' (H.next + 1) p ((n * n' : Nat) : Int) v ms ∧ ms.length = g ∧ ms.map SM.val = tens p As Bs g) O.length ?_ ?_
  · exact ⟨0, _, [], by omega, by omega, rfl, ⟨(keep_new H _).new _, by simp only [pwA, if_true, if_false, eq_self, nm_eq, reduceCtorEq, ↓reduceIte, Nat.reduceEqDiff, Nat.reduceLeDiff, Nat.reduceBEq, Nat.reduceAdd, Nat.reduceLT, Nat.reduceSub, Nat.reduceMul, Int.reduceEq, Int.reduceLT, Int.reduceLE, Int.reduceNeg, Int.reduceToNat, List.reduceReplicate, Int.ofNat_le, List.getElem?_drop], by simp only [pwA, if_true, if_false, eq_self, nm_eq, reduceCtorEq, ↓reduceIte, Nat.reduceEqDiff, Nat.reduceLeDiff, Nat.reduceBEq, Nat.reduceAdd, Nat.reduceLT, Nat.reduceSub, Nat.reduceMul, Int.reduceEq, Int.reduceLT, Int.reduceLE, Int.reduceNeg, Int.reduceToNat, List.reduceReplicate, Int.ofNat_le, List.getElem?_drop], by omega, (PSl.own (.inr rfl) (by first | (simp only [pwA, if_true, if_false, eq_self, nm_eq, reduceCtorEq, ↓reduceIte, Nat.reduceEqDiff, Nat.reduceLeDiff, Nat.reduceBEq, Nat.reduceAdd, Nat.reduceLT, Nat.reduceSub, Nat.reduceMul, Int.reduceEq, Int.reduceLT, Int.reduceLE, Int.reduceNeg, Int.reduceToNat, List.reduceReplicate, Int.ofNat_le, List.getElem?_drop]; done) | (simp only [pwA, if_true, if_false, eq_self, nm_eq, reduceCtorEq, ↓reduceIte, Nat.reduceEqDiff, Nat.reduceLeDiff, Nat.reduceBEq, Nat.reduceAdd, Nat.reduceLT, Nat.reduceSub, Nat.reduceMul, Int.reduceEq, Int.reduceLT, Int.reduceLE, Int.reduceNeg, Int.reduceToNat, List.reduceReplicate, Int.ofNat_le, List.getElem?_drop]; rfl)) rfl (Nat.le_refl _) (by first | (simp only [pwA, if_true, if_false, eq_self, nm_eq, reduceCtorEq, ↓reduceIte, Nat.reduceEqDiff, Nat.reduceLeDiff, Nat.reduceBEq, Nat.reduceAdd, Nat.reduceLT, Nat.reduceSub, Nat.reduceMul, Int.reduceEq, Int.reduceLT, Int.reduceLE, Int.reduceNeg, Int.reduceToNat, List.reduceReplicate, Int.ofNat_le, List.getElem?_drop]; done) | (simp only [pwA, if_true, if_false, eq_self, nm_eq, reduceCtorEq, ↓reduceIte, Nat.reduceEqDiff, Nat.reduceLeDiff, Nat.reduceBEq, Nat.reduceAdd, Nat.reduceLT, Nat.reduceSub, Nat.reduceMul, Int.reduceEq, Int.reduceLT, Int.reduceLE, Int.reduceNeg, Int.reduceToNat, List.reduceReplicate, Int.ofNat_le, List.getElem?_drop]; omega))).acc, fun m hm => (by cases hm), List.nodup_nil, fun r hr => (by cases hr), fun _ _ _ h => (by simp only [PV.sl.injEq] at h; omega), fun h => (by cases h)⟩, rfl, rfl⟩
  as_aux_lemma =>
  rintro m us hg ⟨g, v, ms, hgO, rfl, rfl, a, hml, hmv⟩
  have hgn := a.keep.next
  have ld : ∀ {h : PHeap}, Keep hg h → h.rd1 (σ.next + 1) 0 = some (.int .i64 p) ∧ h.rd1 (σ.next + 1) 1 = some (.int .i64 n) ∧ h.rd1 (σ.next + 2) 1 = some (.int .i64 n') ∧ h.rd1 (σ.next + 1) 2 = some (.fz wA aA As.length rA) ∧ h.rd1 (σ.next + 2) 2 = some (.fz wB aB Bs.length rB) := fun k =>
    ⟨by rw [obj_rd1 (hs.keep (a.keep.trans k)).obj]; rfl, by rw [obj_rd1 (hs.keep (a.keep.trans k)).obj]; rfl, by rw [obj_rd1 (hs'.keep (a.keep.trans k)).obj]; rfl, by rw [obj_rd1 (hs.keep (a.keep.trans k)).obj]; rfl, by rw [obj_rd1 (hs'.keep (a.keep.trans k)).obj]; rfl⟩
  obtain ⟨l1, l2, l3, l4, l5⟩ := ld (Keep.refl hg)
  have r3 : hg.rd (H.next + 1) 0 3 = some [.int .i64 p, .int .i64 ((n * n' : Nat) : Int), v] := by rw [obj_rd a.obj]; rfl
  have hAO : As.length = O.length := by omega
  simp only [pwA, if_true, if_false, eq_self, nm_eq, reduceCtorEq, ↓reduceIte, Nat.reduceEqDiff, Nat.reduceLeDiff, Nat.reduceBEq, Nat.reduceAdd, Nat.reduceLT, Nat.reduceSub, Nat.reduceMul, Int.reduceEq, Int.reduceLT, Int.reduceLE, Int.reduceNeg, Int.reduceToNat, List.reduceReplicate, Int.ofNat_le, List.getElem?_drop, l4, hAO]
  refine iteI (fun hlt => ?_) fun hge => ?_
  rotate_left
  · as_aux_lemma =>
    have hge' : g = O.length := by omega
    rw [hge'] at hmv
    have hv1 := a.acc.one
    have hor' : hg.obj (σ.next + 3) = some [.int .i64 0, .int .i64 0, .fz true .nils 0 []] := by rw [a.keep.obj _ (by omega)]; exact hor
    have hwr : hg.wr (σ.next + 3) 0 [.int .i64 p, .int .i64 ((n * n' : Nat) : Int), v] = some (hg.set (σ.next + 3) [.int .i64 p, .int .i64 ((n * n' : Nat) : Int), v]) := by
      rw [obj_wr hor', if_pos ⟨by simp, by simp only [List.all_cons, List.all_nil, hv1]; rfl⟩]; rfl
    have hrd : (hg.set (σ.next + 3) [.int .i64 p, .int .i64 ((n * n' : Nat) : Int), v]).rd (σ.next + 3) 0 3 = some [.int .i64 p, .int .i64 ((n * n' : Nat) : Int), v] := by rw [prd_set, if_pos rfl]; rfl
    simp only [pwA, if_true, if_false, eq_self, nm_eq, reduceCtorEq, ↓reduceIte, Nat.reduceEqDiff, Nat.reduceLeDiff, Nat.reduceBEq, Nat.reduceAdd, Nat.reduceLT, Nat.reduceSub, Nat.reduceMul, Int.reduceEq, Int.reduceLT, Int.reduceLE, Int.reduceNeg, Int.reduceToNat, List.reduceReplicate, Int.ofNat_le, List.getElem?_drop, r3, hwr, hrd]
    refine Gh.tagg3 (Gh.finMats wf ms (FR := []) (N1 := []) ((hkp.trans a.keep).set (by omega) _) ((a.acc.setX (by omega)).low (by omega)) (All2.nil _) (Owns.nil _ _) (fun m hm => ?_) a.nd a.ne fun v t h1 h2 h3 => hk v p _ (tens p As Bs O.length) 0 t ⟨?_⟩ (by rw [← hmv]; simpa using h1) h2 h3)
    · refine ((a.ok m hm).low (by omega)).mono (Nat.le_refl _) fun u hu => ?_
      have hu' : u ∈ slotsM ms := List.mem_flatMap.2 ⟨m, hm, hu⟩
      have := slotsM_lt a.ok hu'
      rw [pobj_set, if_neg (by omega)]
    · unfold tensRes
      rw [if_pos hc, if_neg (by rw [hmul]; exact hl'), hmul]
  have hgA : g < As.length := by omega
  have hgB : g < Bs.length := by omega
  obtain ⟨w4, a4, rs, hr, hrs⟩ := hrA.rowL hgA
  obtain ⟨w5, a5, rt, hr5, hrt⟩ := hrB.rowL hgB
  have hmA := hq.mat hgA
  rw [mat_eq hgA] at hmA
  have hmB := hq'.mat hgB
  rw [mat_eq hgB] at hmB
  simp only [pwA, if_true, if_false, eq_self, nm_eq, reduceCtorEq, ↓reduceIte, Nat.reduceEqDiff, Nat.reduceLeDiff, Nat.reduceBEq, Nat.reduceAdd, Nat.reduceLT, Nat.reduceSub, Nat.reduceMul, Int.reduceEq, Int.reduceLT, Int.reduceLE, Int.reduceNeg, Int.reduceToNat, List.reduceReplicate, Int.ofNat_le, List.getElem?_drop]
  generalize hAg : As[g] = A at *
  generalize hBg : Bs[g] = B at *
  have hAl := hmA.1
  have hBl := hmB.1
  have hA3 : A.length ≤ 3 := by omega
  have hB3 : B.length ≤ 3 := by omega
  refine vp_abs 2 (fun e h => ∃ vR rows b, e = PEnv.mk [4, 5, 6, 9, 10, 11, 12, 52] [.ptr (σ.next + 1) 0, .ptr (σ.next + 2) 0, .ptr (σ.next + 3) 0, .ptr (H.next + 1) 0, .int .i64 g, vR, .int .i64 n, b] ∧ RowsI hg h vR rows ∧ rows.map SR.x = tmat p A B) (fun Q' hQ => ?_) ?_
  rotate_left
  · as_aux_lemma =>
    rintro e h2 ⟨vR, rows, b, rfl, ar, hrv⟩
    have o2 : h2.obj (H.next + 1) = some [.int .i64 p, .int .i64 ((n * n' : Nat) : Int), v] := by rw [ar.keep.obj _ a.lt]; exact a.obj
    have q2 : h2.rd1 (H.next + 1) 2 = some v := by rw [obj_rd1 o2]; rfl
    have hpos : 0 < rows.length := by
      have h1 := congrArg List.length hrv
      rw [List.length_map, tmat_len, hmA.1, hmB.1] at h1
      have : 1 ≤ n * n' := Nat.mul_le_mul (by omega : 1 ≤ n) (by omega : 1 ≤ n')
      omega
    have hRone := ar.acc.one
    have hRc : vR.cells = [vR] := by
      obtain ⟨t, cap, rfl, _⟩ := ar.acc.pos hpos
      rfl
    have hnl : ¬ H.next + 1 = h2.next := by have := a.lt; have := ar.keep.next; omega
    simp only [pwA, if_true, if_false, eq_self, nm_eq, reduceCtorEq, ↓reduceIte, Nat.reduceEqDiff, Nat.reduceLeDiff, Nat.reduceBEq, Nat.reduceAdd, Nat.reduceLT, Nat.reduceSub, Nat.reduceMul, Int.reduceEq, Int.reduceLT, Int.reduceLE, Int.reduceNeg, Int.reduceToNat, List.reduceReplicate, Int.ofNat_le, List.getElem?_drop, q2, hRone, hRc, hnl]
    refine MatsI.push a ar hpos (by omega) fun v' h6 ms' u1 u2 u3 u4 u5 u6 => ?_
    simp only [pwA, if_true, if_false, eq_self, nm_eq, reduceCtorEq, ↓reduceIte, Nat.reduceEqDiff, Nat.reduceLeDiff, Nat.reduceBEq, Nat.reduceAdd, Nat.reduceLT, Nat.reduceSub, Nat.reduceMul, Int.reduceEq, Int.reduceLT, Int.reduceLE, Int.reduceNeg, Int.reduceToNat, List.reduceReplicate, Int.ofNat_le, List.getElem?_drop, u1, u2, u3, wrapS (show g < O.length by omega) (by omega : O.length ≤ 4611686018427387904)]
    refine ⟨_, by omega, g + 1, v', ms', by omega, rfl, rfl, u4, by omega, ?_⟩
    rw [u5, hmv, hrv]
    unfold tens
    rw [List.range_succ, List.map_append]
    simp only [List.map_cons, List.map_nil]
    rw [mat_eq hgA, mat_eq hgB, hAg, hBg]
  as_aux_lemma =>
  refine vp_loop (fun m us h2 => ∃ (i : Nat) (vR : PV) (rows : List SR), i ≤ n ∧ m = n - i ∧ us = [.ptr (σ.next + 1) 0, .ptr (σ.next + 2) 0, .ptr (σ.next + 3) 0, .ptr (H.next + 1) 0, .int .i64 g, vR, .int .i64 i] ∧ RowsI hg h2 vR rows ∧ rows.map SR.x = tmat p (A.take i) B) n ?_ ?_
  · exact ⟨0, _, [], by omega, by omega, rfl, RowsI.new hg, by simp [tmat]⟩
  rintro m us h2 ⟨i, vR, rows, hi, rfl, rfl, ar, hrv⟩
  obtain ⟨l1, l2, l3, l4, l5⟩ := ld ar.keep
  simp only [pwA, if_true, if_false, eq_self, nm_eq, reduceCtorEq, ↓reduceIte, Nat.reduceEqDiff, Nat.reduceLeDiff, Nat.reduceBEq, Nat.reduceAdd, Nat.reduceLT, Nat.reduceSub, Nat.reduceMul, Int.reduceEq, Int.reduceLT, Int.reduceLE, Int.reduceNeg, Int.reduceToNat, List.reduceReplicate, Int.ofNat_le, List.getElem?_drop, l2]
  refine iteI (fun hlti => ?_) fun hgei => ?_
  rotate_left
  · have hie : i = A.length := by omega
    rw [hie, List.take_length] at hrv
    have hin : i = n := by omega
    subst hin
    exact hQ _ _ ⟨vR, rows, _, rfl, ar, hrv⟩
  have hiA : i < A.length := by omega
  obtain ⟨w6, a6, hr6⟩ := hrs.rowI hiA
  have hlA := (hmA.2 _ (List.getElem_mem hiA)).len
  simp only [pwA, if_true, if_false, eq_self, nm_eq, reduceCtorEq, ↓reduceIte, Nat.reduceEqDiff, Nat.reduceLeDiff, Nat.reduceBEq, Nat.reduceAdd, Nat.reduceLT, Nat.reduceSub, Nat.reduceMul, Int.reduceEq, Int.reduceLT, Int.reduceLE, Int.reduceNeg, Int.reduceToNat, List.reduceReplicate, Int.ofNat_le, List.getElem?_drop]
  refine vp_abs 4 (fun e h => ∃ vR rows b, e = PEnv.mk [4, 5, 6, 9, 10, 11, 12, 13, 58] [.ptr (σ.next + 1) 0, .ptr (σ.next + 2) 0, .ptr (σ.next + 3) 0, .ptr (H.next + 1) 0, .int .i64 g, vR, .int .i64 i, .int .i64 n', b] ∧ RowsI hg h vR rows ∧ rows.map SR.x = tmat p (A.take (i + 1)) B) (fun Q'' hQ'' => ?_) ?_
  rotate_left
  · rintro e h3 ⟨vR, rows, b, rfl, ar, hrv⟩
    simp only [pwA, if_true, if_false, eq_self, nm_eq, reduceCtorEq, ↓reduceIte, Nat.reduceEqDiff, Nat.reduceLeDiff, Nat.reduceBEq, Nat.reduceAdd, Nat.reduceLT, Nat.reduceSub, Nat.reduceMul, Int.reduceEq, Int.reduceLT, Int.reduceLE, Int.reduceNeg, Int.reduceToNat, List.reduceReplicate, Int.ofNat_le, List.getElem?_drop, wrapS (show i < n by omega) (by omega : n ≤ 4611686018427387904)]
    exact ⟨_, by omega, i + 1, vR, rows, by omega, rfl, rfl, ar, hrv⟩
  as_aux_lemma =>
  refine vp_loop (fun m us h3 => ∃ (q : Nat) (vR : PV) (rows : List SR), q ≤ n' ∧ m = n' - q ∧ us = [.ptr (σ.next + 1) 0, .ptr (σ.next + 2) 0, .ptr (σ.next + 3) 0, .ptr (H.next + 1) 0, .int .i64 g, vR, .int .i64 i, .int .i64 q] ∧ RowsI hg h3 vR rows ∧ rows.map SR.x = tmat p (A.take i) B ++ (B.take q).map fun b => trow p A[i] b) n' ?_ ?_
  · exact ⟨0, vR, rows, by omega, by omega, rfl, ar, by simpa using hrv⟩
  clear ar hrv vR rows l1 l2 l3 l4 l5
  rintro m us h3 ⟨q, vR, rows, hqB, rfl, rfl, ar, hrv⟩
  obtain ⟨l1, l2, l3, l4, l5⟩ := ld ar.keep
  simp only [pwA, if_true, if_false, eq_self, nm_eq, reduceCtorEq, ↓reduceIte, Nat.reduceEqDiff, Nat.reduceLeDiff, Nat.reduceBEq, Nat.reduceAdd, Nat.reduceLT, Nat.reduceSub, Nat.reduceMul, Int.reduceEq, Int.reduceLT, Int.reduceLE, Int.reduceNeg, Int.reduceToNat, List.reduceReplicate, Int.ofNat_le, List.getElem?_drop, l3]
  refine iteI (fun hltq => ?_) fun hgeq => ?_
  rotate_left
  · have hqe : q = B.length := by omega
    rw [hqe, List.take_length, ← tmat_take hiA] at hrv
    have hqn : q = n' := by omega
    subst hqn
    exact hQ'' _ _ ⟨vR, rows, _, rfl, ar, hrv⟩
  have hqB' : q < B.length := by omega
  obtain ⟨w7, a7, hr7⟩ := hrt.rowI hqB'
  have hlB := (hmB.2 _ (List.getElem_mem hqB')).len
  simp only [pwA, if_true, if_false, eq_self, nm_eq, reduceCtorEq, ↓reduceIte, Nat.reduceEqDiff, Nat.reduceLeDiff, Nat.reduceBEq, Nat.reduceAdd, Nat.reduceLT, Nat.reduceSub, Nat.reduceMul, Int.reduceEq, Int.reduceLT, Int.reduceLE, Int.reduceNeg, Int.reduceToNat, List.reduceReplicate, Int.ofNat_le, List.getElem?_drop]
  refine vp_abs 6 (fun e h => ∃ vW b, e = PEnv.mk [4, 5, 6, 9, 10, 11, 12, 13, 14, 15, 65] [.ptr (σ.next + 1) 0, .ptr (σ.next + 2) 0, .ptr (σ.next + 3) 0, .ptr (H.next + 1) 0, .int .i64 g, vR, .int .i64 i, .int .i64 q, vW, .int .i64 n, b] ∧ Keep h3 h ∧ PAcc h3.next 1 h vW (trow p A[i] B[q]).length (pis (trow p A[i] B[q]))) (fun Q3 hQ3 => ?_) ?_
  rotate_left
  · as_aux_lemma =>
    rintro e h4 ⟨vW, b, rfl, kw, aw⟩
    have hwl : (trow p A[i] B[q]).length = n * n' := by rw [trow_len, hlA, hlB]
    have hnn1 : 1 ≤ n * n' := Nat.mul_le_mul (by omega : 1 ≤ n) (by omega : 1 ≤ n')
    obtain ⟨t, cap, rfl, hf, z2, z3, z4, z5⟩ := aw.pos (by omega)
    have hrl : rows.length ≤ 1000 := by
      have h1 := congrArg List.length hrv
      rw [List.length_map, List.length_append, tmat_len, List.length_map, List.length_take, List.length_take] at h1
      have h2 : min i A.length * B.length ≤ 3 * 3 := Nat.mul_le_mul (by omega) (by omega)
      omega
    simp only [pwA, if_true, if_false, eq_self, nm_eq, reduceCtorEq, ↓reduceIte, Nat.reduceEqDiff, Nat.reduceLeDiff, Nat.reduceBEq, Nat.reduceAdd, Nat.reduceLT, Nat.reduceSub, Nat.reduceMul, Int.reduceEq, Int.reduceLT, Int.reduceLE, Int.reduceNeg, Int.reduceToNat, List.reduceReplicate, Int.ofNat_le, List.getElem?_drop]
    refine RowsI.push (x := trow p A[i] B[q]) ar kw z4 z5 z2 hf hrl fun v' h6 r6 k6 l6 => ?_
    simp only [pwA, if_true, if_false, eq_self, nm_eq, reduceCtorEq, ↓reduceIte, Nat.reduceEqDiff, Nat.reduceLeDiff, Nat.reduceBEq, Nat.reduceAdd, Nat.reduceLT, Nat.reduceSub, Nat.reduceMul, Int.reduceEq, Int.reduceLT, Int.reduceLE, Int.reduceNeg, Int.reduceToNat, List.reduceReplicate, Int.ofNat_le, List.getElem?_drop, wrapS (show q < n' by omega) (by omega : n' ≤ 4611686018427387904)]
    refine ⟨_, by omega, q + 1, v', rows ++ [⟨t, cap, trow p A[i] B[q]⟩], by omega, rfl, rfl, r6, ?_⟩
    rw [List.map_append, hrv, map_take_snoc hqB', List.append_assoc]; rfl
  as_aux_lemma =>
  refine vp_loop (fun m us h4 => ∃ (j : Nat) (vW : PV), j ≤ n ∧ m = n - j ∧ us = [.ptr (σ.next + 1) 0, .ptr (σ.next + 2) 0, .ptr (σ.next + 3) 0, .ptr (H.next + 1) 0, .int .i64 g, vR, .int .i64 i, .int .i64 q, vW, .int .i64 j] ∧ Keep h3 h4 ∧ PAcc h3.next 1 h4 vW (trow p (A[i].take j) B[q]).length (pis (trow p (A[i].take j) B[q]))) n ?_ ?_
  · exact ⟨0, _, by omega, by omega, rfl, keep_new _ _, (PSl.new _ 1 rfl (Nat.le_refl _)).acc⟩
  rintro m us h4 ⟨j, vW, hj, rfl, rfl, kw, aw⟩
  obtain ⟨l1, l2, l3, l4, l5⟩ := ld (ar.keep.trans kw)
  simp only [pwA, if_true, if_false, eq_self, nm_eq, reduceCtorEq, ↓reduceIte, Nat.reduceEqDiff, Nat.reduceLeDiff, Nat.reduceBEq, Nat.reduceAdd, Nat.reduceLT, Nat.reduceSub, Nat.reduceMul, Int.reduceEq, Int.reduceLT, Int.reduceLE, Int.reduceNeg, Int.reduceToNat, List.reduceReplicate, Int.ofNat_le, List.getElem?_drop, l2]
  refine iteI (fun hltj => ?_) fun hgej => ?_
  rotate_left
  · have hje : j = A[i].length := by omega
    rw [hje, List.take_length] at aw
    have hjn : j = n := by omega
    subst hjn
    exact hQ3 _ _ ⟨vW, _, rfl, kw, aw⟩
  have hjA : j < A[i].length := by omega
  have bx := (hmA.2 _ (List.getElem_mem hiA)).bd j
  rw [at_eq hjA] at bx
  have htl : (trow p (A[i].take j) B[q]).length ≤ 9 := by
    rw [trow_len]
    have h2 : (A[i].take j).length * B[q].length ≤ 3 * 3 := Nat.mul_le_mul (by rw [List.length_take]; omega) (by omega)
    omega
  simp only [pwA, if_true, if_false, eq_self, nm_eq, reduceCtorEq, ↓reduceIte, Nat.reduceEqDiff, Nat.reduceLeDiff, Nat.reduceBEq, Nat.reduceAdd, Nat.reduceLT, Nat.reduceSub, Nat.reduceMul, Int.reduceEq, Int.reduceLT, Int.reduceLE, Int.reduceNeg, Int.reduceToNat, List.reduceReplicate, Int.ofNat_le, List.getElem?_drop]
  refine vp_abs 8 (fun e h => ∃ vW b, e = PEnv.mk [4, 5, 6, 9, 10, 11, 12, 13, 14, 15, 16, 71] [.ptr (σ.next + 1) 0, .ptr (σ.next + 2) 0, .ptr (σ.next + 3) 0, .ptr (H.next + 1) 0, .int .i64 g, vR, .int .i64 i, .int .i64 q, vW, .int .i64 j, .int .i64 n', b] ∧ Keep h3 h ∧ PAcc h3.next 1 h vW (trow p (A[i].take (j + 1)) B[q]).length (pis (trow p (A[i].take (j + 1)) B[q]))) (fun Q4 hQ4 => ?_) ?_
  rotate_left
  · rintro e h5 ⟨vW, b, rfl, kw, aw⟩
    simp only [pwA, if_true, if_false, eq_self, nm_eq, reduceCtorEq, ↓reduceIte, Nat.reduceEqDiff, Nat.reduceLeDiff, Nat.reduceBEq, Nat.reduceAdd, Nat.reduceLT, Nat.reduceSub, Nat.reduceMul, Int.reduceEq, Int.reduceLT, Int.reduceLE, Int.reduceNeg, Int.reduceToNat, List.reduceReplicate, Int.ofNat_le, List.getElem?_drop, wrapS (show j < n by omega) (by omega : n ≤ 4611686018427387904)]
    exact ⟨_, by omega, j + 1, vW, by omega, rfl, rfl, kw, aw⟩
  as_aux_lemma =>
  refine vp_loop (fun m us h5 => ∃ (l : Nat) (vW : PV), l ≤ n' ∧ m = n' - l ∧ us = [.ptr (σ.next + 1) 0, .ptr (σ.next + 2) 0, .ptr (σ.next + 3) 0, .ptr (H.next + 1) 0, .int .i64 g, vR, .int .i64 i, .int .i64 q, vW, .int .i64 j, .int .i64 l] ∧ Keep h3 h5 ∧ PAcc h3.next 1 h5 vW (trow p (A[i].take j) B[q] ++ (B[q].take l).map fun y => A[i][j] * y % p).length (pis (trow p (A[i].take j) B[q] ++ (B[q].take l).map fun y => A[i][j] * y % p))) n' ?_ ?_
  · exact ⟨0, vW, by omega, by omega, rfl, kw, by simpa using aw⟩
  clear kw aw vW l1 l2 l3 l4 l5
  rintro m us h5 ⟨l, vW, hl, rfl, rfl, kw, aw⟩
  obtain ⟨l1, l2, l3, l4, l5⟩ := ld (ar.keep.trans kw)
  simp only [pwA, if_true, if_false, eq_self, nm_eq, reduceCtorEq, ↓reduceIte, Nat.reduceEqDiff, Nat.reduceLeDiff, Nat.reduceBEq, Nat.reduceAdd, Nat.reduceLT, Nat.reduceSub, Nat.reduceMul, Int.reduceEq, Int.reduceLT, Int.reduceLE, Int.reduceNeg, Int.reduceToNat, List.reduceReplicate, Int.ofNat_le, List.getElem?_drop, l3]
  refine iteI (fun hltl => ?_) fun hgel => ?_
  rotate_left
  · have hle : l = B[q].length := by omega
    rw [hle, List.take_length, ← trow_take hjA] at aw
    have hln : l = n' := by omega
    subst hln
    exact hQ4 _ _ ⟨vW, _, rfl, kw, aw⟩
  have hlB' : l < B[q].length := by omega
  have by_ := (hmB.2 _ (List.getElem_mem hqB')).bd l
  rw [at_eq hlB'] at by_
  have c3 := sm6 (a := A[i][j]) (b := B[q][l]) (by omega) (by omega)
  have hp0 : ¬ p = 0 := by omega
  have et : (A[i][j] * B[q][l]).tmod p = A[i][j] * B[q][l] % p := Int.tmod_eq_emod_of_nonneg (by omega)
  have hem := Int.emod_nonneg (A[i][j] * B[q][l]) hp0
  have hem2 := Int.emod_lt_of_pos (A[i][j] * B[q][l]) (by omega : 0 < p)
  have ew1 : IntKind.i64.wrap (A[i][j] * B[q][l]) = A[i][j] * B[q][l] := wrap64 (by omega) (by omega)
  have ew3 : IntKind.i64.wrap (A[i][j] * B[q][l] % p) = A[i][j] * B[q][l] % p := wrap64 (by omega) (by omega)
  have hll : (trow p (A[i].take j) B[q] ++ (B[q].take l).map fun y => A[i][j] * y % p).length ≤ 12 := by rw [List.length_append, List.length_map, List.length_take]; omega
  simp only [pwA, if_true, if_false, eq_self, nm_eq, reduceCtorEq, ↓reduceIte, Nat.reduceEqDiff, Nat.reduceLeDiff, Nat.reduceBEq, Nat.reduceAdd, Nat.reduceLT, Nat.reduceSub, Nat.reduceMul, Int.reduceEq, Int.reduceLT, Int.reduceLE, Int.reduceNeg, Int.reduceToNat, List.reduceReplicate, Int.ofNat_le, List.getElem?_drop, l1, l4, l5, hgA, hgB, hr, hr5, hiA, hqB', hr6, hr7, hjA, hlB', gi hjA, gi hlB', pis_get, List.getElem?_drop, ew1, hp0, et, ew3]
  refine PAcc.push (bytes := 8) (σb := h3) kw aw (by omega) (by omega) fun v' h6 k6 a6' => ?_
  simp only [pwA, if_true, if_false, eq_self, nm_eq, reduceCtorEq, ↓reduceIte, Nat.reduceEqDiff, Nat.reduceLeDiff, Nat.reduceBEq, Nat.reduceAdd, Nat.reduceLT, Nat.reduceSub, Nat.reduceMul, Int.reduceEq, Int.reduceLT, Int.reduceLE, Int.reduceNeg, Int.reduceToNat, List.reduceReplicate, Int.ofNat_le, List.getElem?_drop, wrapS (show l < n' by omega) (by omega : n' ≤ 4611686018427387904)]
  refine ⟨_, by omega, l + 1, v', by omega, rfl, rfl, k6, ?_⟩
  rw [map_take_snoc hlB', ← List.append_assoc]
  have := a6'.acc
  simpa [pis, Nat.add_assoc] using this
end Go.Proofs
set_option linter.unusedSimpArgs false
set_option linter.unusedVariables false
namespace Go.Proofs
open Go.Ab Go.Lie Go.Grp Go.Mx
variable {σ : PHeap} {K : PV → PHeap → Prop} {p d p' d' : Int} {n n' : Nat} {As Bs : List (List (List Int))} {vA vB vM : PV} {O : List Int} {P : List (List Int)} {C : List (List (List Int))} {vO vP vC : PV} {s s' sp : Nat}
theorem heldInt64SSS_ok {v : PV} {xs : List (List (List Int))} {k : Int} (hI : FIII v (sqL (sqL sqI List.length) (totL List.length) k xs)) (sz : SzM xs) (hk0 : 0 ≤ k) (hk1 : k + totL (totL List.length) xs ≤ 4611686018427387904) (hk : K (.int .i64 (k + totL (totL List.length) xs)) σ) : PCalls Try.prog 80 [v, .int .i64 k] σ K := by
  have hb := sz.l
  obtain ⟨w, a, rows, rfl, hr⟩ := hI
  have hl := sqL_length (sqL sqI List.length) (totL List.length) xs k
  have hg : ∀ (i : Nat) (hi : i < xs.length) (h2 : i < (sqL (sqL sqI List.length) (totL List.length) k xs).length), (sqL (sqL sqI List.length) (totL List.length) k xs)[i] = sqL sqI List.length (k + totL (totL List.length) (xs.take i)) xs[i] := fun i hi _ => sqL_get (sqL sqI List.length) (totL List.length) xs k i hi
  generalize sqL (sqL sqI List.length) (totL List.length) k xs = ys at *
  refine pcalls_of_vp mix Try.func80 cf80 rfl ?_
  dsimp only [if80, qI, eI, nI, qD, eD]
  simp only [pwA, if_true, if_false, eq_self, nm_eq, reduceCtorEq, ↓reduceIte, Nat.reduceEqDiff, Nat.reduceLeDiff, Nat.reduceBEq, Nat.reduceAdd, Nat.reduceLT, Nat.reduceSub, Nat.reduceMul, Int.reduceEq, Int.reduceLT, Int.reduceLE, Int.reduceNeg, Int.reduceToNat, List.reduceReplicate, Int.ofNat_le, List.getElem?_drop]
  refine vp_loop (fun m vs h' => ∃ i : Nat, i ≤ ys.length ∧ m = ys.length - i ∧ vs = [.fz w a ys.length rows, .int .i64 (k + totL (totL List.length) (xs.take i)), .int .i64 i] ∧ σ = h') ys.length ?_ ?_
  · exact ⟨0, by omega, by omega, by rw [List.take_zero, totL_nil, show k + ((0 : Nat) : Int) = k by omega]; rfl, rfl⟩
  rintro m vs h' ⟨i, hi, rfl, rfl, rfl⟩
  simp only [pwA, if_true, if_false, eq_self, nm_eq, reduceCtorEq, ↓reduceIte, Nat.reduceEqDiff, Nat.reduceLeDiff, Nat.reduceBEq, Nat.reduceAdd, Nat.reduceLT, Nat.reduceSub, Nat.reduceMul, Int.reduceEq, Int.reduceLT, Int.reduceLE, Int.reduceNeg, Int.reduceToNat, List.reduceReplicate, Int.ofNat_le, List.getElem?_drop]
  refine iteI (fun hlt => ?_) fun hge => ?_
  · have hlx : i < xs.length := by omega
    obtain ⟨w4, a4, rk, hrk, hrk2⟩ := hr.rowL hlt
    have ht := totL_snoc (len := totL List.length) hlx
    have htl := totL_le (totL List.length) xs (i + 1)
    have hgi := hg i hlx hlt
    simp only [pwA, if_true, if_false, eq_self, nm_eq, reduceCtorEq, ↓reduceIte, Nat.reduceEqDiff, Nat.reduceLeDiff, Nat.reduceBEq, Nat.reduceAdd, Nat.reduceLT, Nat.reduceSub, Nat.reduceMul, Int.reduceEq, Int.reduceLT, Int.reduceLE, Int.reduceNeg, Int.reduceToNat, List.reduceReplicate, Int.ofNat_le, List.getElem?_drop, hlt, hrk, List.getElem?_drop]
    have hbi := sz.r _ (List.getElem_mem hlx)
    refine heldInt64SS_ok (xs := xs[i]) ⟨w4, a4, rk, by rw [← hgi], by rw [← hgi]; exact hrk2⟩ (by have := hbi.l; omega) (fun y hy => by have := hbi.r y hy; omega) (by omega) (by omega) ?_
    have hn : ¬ (k + (totL (totL List.length) (xs.take i) : Int) + (totL List.length xs[i] : Int) < 0) := by omega
    simp only [pwA, if_true, if_false, eq_self, nm_eq, reduceCtorEq, ↓reduceIte, Nat.reduceEqDiff, Nat.reduceLeDiff, Nat.reduceBEq, Nat.reduceAdd, Nat.reduceLT, Nat.reduceSub, Nat.reduceMul, Int.reduceEq, Int.reduceLT, Int.reduceLE, Int.reduceNeg, Int.reduceToNat, List.reduceReplicate, Int.ofNat_le, List.getElem?_drop, hn, wrapS hlt (by omega : ys.length ≤ 4611686018427387904)]
    refine ⟨_, by omega, i + 1, by omega, rfl, ?_⟩
    have : k + (totL (totL List.length) (xs.take i) : Int) + (totL List.length xs[i] : Int) = k + (totL (totL List.length) (xs.take (i + 1)) : Int) := by omega
    rw [this]
  · have hie : i = xs.length := by omega
    subst hie
    rw [List.take_length]
    exact hk
theorem heldModule_ok {k : Int} (hI : FIII vM (sqL (sqL sqI List.length) (totL List.length) k As)) (sz : SzM As) (hk0 : 0 ≤ k) (hk1 : k + totL (totL List.length) As ≤ 4611686018427387904) (hk : K (.int .i64 (k + totL (totL List.length) As)) σ) : PCalls Try.prog 39 [.agg [.int .i64 p, .int .i64 d, vM], .int .i64 k] σ K := by
  have h1 := hI.one
  refine PCalls.gh ?_
  refine pcalls_of_vp mix Try.func39 cf39 rfl ?_
  dsimp only [if39, qI, eI, nI, qD, eD]
  simp only [pwA, if_true, if_false, eq_self, nm_eq, reduceCtorEq, ↓reduceIte, Nat.reduceEqDiff, Nat.reduceLeDiff, Nat.reduceBEq, Nat.reduceAdd, Nat.reduceLT, Nat.reduceSub, Nat.reduceMul, Int.reduceEq, Int.reduceLT, Int.reduceLE, Int.reduceNeg, Int.reduceToNat, List.reduceReplicate, Int.ofNat_le, List.getElem?_drop, h1]
  refine heldInt64SSS_ok hI sz hk0 hk1 ?_
  have hn : ¬ (k + (totL (totL List.length) As : Int) < 0) := by omega
  simp only [pwA, if_true, if_false, eq_self, nm_eq, reduceCtorEq, ↓reduceIte, Nat.reduceEqDiff, Nat.reduceLeDiff, Nat.reduceBEq, Nat.reduceAdd, Nat.reduceLT, Nat.reduceSub, Nat.reduceMul, Int.reduceEq, Int.reduceLT, Int.reduceLE, Int.reduceNeg, Int.reduceToNat, List.reduceReplicate, Int.ofNat_le, List.getElem?_drop, hn]
  exact Gh.fin0 (keep_new σ _) trivial hk
theorem l21Tensor_ok (hR : IsPr vO vP vC O P C) (sz : SzP O P C) (hA : FIII vA As) (szA : SzM As) (hB : FIII vB Bs) (szB : SzM Bs)
    (hk : ∀ v z1 z2 z c, ResR (tensRes O P C p d As p' d' Bs) (z1, z2, z) c → FIII v z → K (.tup [.agg [.int .i64 z1, .int .i64 z2, v], .int .i64 c]) σ) :
    PCalls Try.prog 37 [.agg [vO, vP, vC], .agg [.int .i64 p, .int .i64 d, vA], .agg [.int .i64 p', .int .i64 d', vB]] σ K :=
  PCalls.gh (l21Tensor_T hR sz hA szA hB szB fun v z1 z2 z c t h1 h2 h3 h4 => Gh.fin0 ((Keep.refl σ).up h4) ⟨⟨trivial, trivial, h2.bel _, trivial⟩, trivial, trivial⟩ (hk v z1 z2 z c h1 h2))
theorem tens_bd {z1 z2 : Int} {z : List (List (List Int))} {c : Int} (h : ResR (tensRes O P C p d As p' d' Bs) (z1, z2, z) c) : SzM z := by
  have e := h.eq
  unfold tensRes at e
  split at e
  · rename_i hc
    have hmods : isMod O P C p d As ∧ isMod O P C p' d' Bs ∧ p = p' := by
      unfold codeM at hc
      split at hc
      · rename_i h
        split at hc
        · rename_i h'; exact ⟨h.1, h.2, h'⟩
        · omega
      · omega
    obtain ⟨hm, hm', _⟩ := hmods
    split at e
    · simp only [Prod.mk.injEq] at e
      obtain ⟨⟨_, _, rfl⟩, _⟩ := e
      exact ⟨by simp, fun q hq => by cases hq⟩
    · simp only [Prod.mk.injEq] at e
      obtain ⟨⟨_, _, rfl⟩, _⟩ := e
      have hn6 := hm.1.1.shp.le
      have b1 := hm.2.2.1
      have b2 := hm'.2.2.1
      have hal := hm.2.2.2.1
      have hbl := hm'.2.2.2.1
      have hq : SqL p d.toNat As := by have := hm.2.2.2.2.1; exact this
      have hq' : SqL p' d'.toNat Bs := by have := hm'.2.2.2.2.1; exact this
      refine ⟨by unfold tens; simp; omega, fun q hq2 => ?_⟩
      unfold tens at hq2
      obtain ⟨i, hi, rfl⟩ := List.mem_map.1 hq2
      have hi' := List.mem_range.1 hi
      have m1 := hq.mat (i := i) (by omega)
      have m2 := hq'.mat (i := i) (by omega)
      have n1 := m1.1
      have n2 := m2.1
      have q1 : (mat As i).length ≤ 3 := by omega
      have q2 : (mat Bs i).length ≤ 3 := by omega
      refine ⟨by rw [tmat_len]; have := Nat.mul_le_mul q1 q2; omega, fun r hr => ?_⟩
      unfold tmat at hr
      obtain ⟨a, ha, hr⟩ := List.mem_flatMap.1 hr
      obtain ⟨b, hb, rfl⟩ := List.mem_map.1 hr
      have l1 := (m1.2 a ha).len
      have l2 := (m2.2 b hb).len
      rw [trow_len]
      have := Nat.mul_le_mul (show a.length ≤ 3 by omega) (show b.length ≤ 3 by omega)
      omega
  · simp only [Prod.mk.injEq] at e
    obtain ⟨⟨_, _, rfl⟩, _⟩ := e
    exact ⟨by simp, fun q hq => by cases hq⟩
end Go.Proofs
