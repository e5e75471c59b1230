/- Matrices of elements: the whole functions. -/
import Derived.Test.YtpkibanhkjboeaaFP36
import Derived.Test.YtpkibanhkjboeaaFAbPj
import Derived.Test.YtpkibanhkjboeaaFP27
import Derived.Test.YtpkibanhkjboeaaFAbPn
import Derived.Test.YtpkibanhkjboeaaFP32
set_option linter.unusedSimpArgs false
set_option linter.unusedVariables false
namespace Go.Proofs
open Go.Ab Go.Lie Go.Grp Go.Mx
variable {σ : PHeap} {K : PV → PHeap → Prop} {p d : Int} {n na : Nat} {v w x y xs ys : List Int} {A B M vals : List (List Int)} {As : List (List (List Int))} {vA vB vM vv vx vw vV v0 : PV} {O : List Int} {P : List (List Int)} {C : List (List (List Int))} {vO vP vC : PV} {s sp : Nat}
theorem identityOf_T (hn : n ≤ 8) (hk : ∀ v t, FII v (idm n) → Own σ.top t v → σ.top ≤ t → K (.agg [.int .i64 p, .int .i64 n, v]) (σ.up t)) : PCalls Try.prog 111 [.int .i64 p, .int .i64 n] σ K := by
  refine PCalls.pwf fun w0 => PCalls.gh ?_
  generalize hH : σ.new [.int .i64 0, .int .i64 0, .fz true .nils 0 []] = H
  have hHn : H.next = σ.next + 1 := by rw [← hH]; rfl
  have hHk : Keep σ H := by rw [← hH]; exact keep_new σ _
  have wH : PWF H := by rw [← hH]; exact w0.newB ⟨trivial, trivial, trivial, trivial⟩
  refine pcalls_of_vp mix Try.func111 cf111 rfl ?_
  dsimp only [if111, qI, eI, nI, qD, eD]
  simp only [pwA, if_true, if_false, eq_self, nm_eq, reduceCtorEq, ↓reduceIte, Nat.reduceEqDiff, Nat.reduceLeDiff, Nat.reduceBEq, Nat.reduceAdd, Nat.reduceLT, Nat.reduceSub, Nat.reduceMul, Int.reduceEq, Int.reduceLT, Int.reduceLE, Int.reduceNeg, Int.reduceToNat, List.reduceReplicate, Int.ofNat_le, List.getElem?_drop]
  rw [hH]
  refine vp_loop (fun m vs h' => ∃ (i : Nat) (vC : PV) (rows : List PV), i ≤ n ∧ m = n - i ∧ vs = [.int .i64 n, .ptr σ.next 0, .ptr (σ.next + 1) 0, .int .i64 n, .int .i64 i] ∧ Acc3 H h' p n vC i rows ∧ SlRows h' (H.next + 1) vC rows ((idm n).take i)) n ?_ ?_
  · exact ⟨0, _, [], by omega, by omega, rfl, ⟨keep_new H _, by rw [pobj_new, if_pos rfl], Nat.lt_succ_self _, PAcc.nil _ _ _⟩, by rw [List.take_zero]; exact SlRows.nil _ _ _⟩
  rintro m vs h' ⟨i, vC, rows, hi, rfl, rfl, a, hall⟩
  have hob := a.obj
  have hlt0 := a.lt
  rw [hHn] at hob hlt0
  have r2 : h'.rd1 (σ.next + 1) 2 = some vC := by rw [obj_rd1 hob]; rfl
  have hor : h'.obj σ.next = some [.int .i64 0, .int .i64 0, .fz true .nils 0 []] := by rw [a.keep.obj _ (by omega), ← hH]; simp only [pwA, if_true, if_false, eq_self, nm_eq, reduceCtorEq, ↓reduceIte, Nat.reduceEqDiff, Nat.reduceLeDiff, Nat.reduceBEq, Nat.reduceAdd, Nat.reduceLT, Nat.reduceSub, Nat.reduceMul, Int.reduceEq, Int.reduceLT, Int.reduceLE, Int.reduceNeg, Int.reduceToNat, List.reduceReplicate, Int.ofNat_le, List.getElem?_drop]
  simp only [pwA, if_true, if_false, eq_self, nm_eq, reduceCtorEq, ↓reduceIte, Nat.reduceEqDiff, Nat.reduceLeDiff, Nat.reduceBEq, Nat.reduceAdd, Nat.reduceLT, Nat.reduceSub, Nat.reduceMul, Int.reduceEq, Int.reduceLT, Int.reduceLE, Int.reduceNeg, Int.reduceToNat, List.reduceReplicate, Int.ofNat_le, List.getElem?_drop]
  refine iteI (fun hlt => ?_) fun hge => ?_
  rotate_left
  · have hie : i = n := by omega
    subst hie
    have rd : h'.rd (σ.next + 1) 0 3 = some [.int .i64 p, .int .i64 i, vC] := by rw [obj_rd hob]; rfl
    have hwr : h'.wr σ.next 0 [.int .i64 p, .int .i64 i, vC] = some (h'.set σ.next [.int .i64 p, .int .i64 i, vC]) := by
      rw [obj_wr hor, if_pos ⟨by simp, by simp only [List.all_cons, List.all_nil, a.acc.one]; rfl⟩]; rfl
    simp only [pwA, if_true, if_false, eq_self, nm_eq, reduceCtorEq, ↓reduceIte, Nat.reduceEqDiff, Nat.reduceLeDiff, Nat.reduceBEq, Nat.reduceAdd, Nat.reduceLT, Nat.reduceSub, Nat.reduceMul, Int.reduceEq, Int.reduceLT, Int.reduceLE, Int.reduceNeg, Int.reduceToNat, List.reduceReplicate, Int.ofNat_le, List.getElem?_drop, rd, hwr]
    rw [List.take_of_length_le (by rw [idm_length]; exact Nat.le_refl _)] at hall
    exact Gh.agg3 (Gh.finRows w0 rows _ (fr := []) (M1 := []) ((hHk.trans a.keep).set (Nat.le_refl _) _) ((a.acc.setX (by omega)).low (by omega)) (All2.nil _) (Owns.nil _ _) ((hall.setX (by omega)).low (by omega)) fun v t h1 h2 h3 => hk v t (by simpa using h1) h2 h3)
  have hlt' : i < n := by omega
  have hne : ¬ σ.next + 1 = h'.next := by omega
  have hne2 : ¬ σ.next + 1 = h'.next + 1 := by omega
  have hset : (pis (List.replicate n 0)).take i ++ [PV.int .i64 1] ++ (pis (List.replicate n 0)).drop (i + 1) = pis (uv n i) := pis_set_at (by simpa using hlt')
  simp only [pwA, if_true, if_false, eq_self, nm_eq, reduceCtorEq, ↓reduceIte, Nat.reduceEqDiff, Nat.reduceLeDiff, Nat.reduceBEq, Nat.reduceAdd, Nat.reduceLT, Nat.reduceSub, Nat.reduceMul, Int.reduceEq, Int.reduceLT, Int.reduceLE, Int.reduceNeg, Int.reduceToNat, List.reduceReplicate, Int.ofNat_le, List.getElem?_drop, hlt', r2, hne, hne2, List.length_replicate, pis_rep, pis_length, hset, mk8 (n := n) (by omega), mkL (n := n) (by omega), Nat.succ_le_of_lt hlt']
  have hul : (uv n i).length = n := by simp [uv]
  refine PAcc.pushS (σb := H) (bytes := 24) (a.keep.new _) ((a.acc.keep (keep_new _ _)).low (Nat.le_succ _)) rfl (by omega) (by omega) fun v' h2 k2 a2 o2 n2 l2 => ?_
  have hnx : (h'.new (pis (uv n i))).next = h'.next + 1 := rfl
  rw [hnx] at o2 n2 l2
  have hob2 : h2.obj (σ.next + 1) = some [.int .i64 p, .int .i64 n, vC] := by
    rw [o2 _ (by omega) (a.acc.ne' (by omega)), pobj_new, if_neg hne]; exact hob
  have hrow2 : h2.obj h'.next = some (pis (uv n i)) := by rw [o2 _ (by omega) (a.acc.ne (Nat.le_refl _)), pobj_new, if_pos rfl]
  have hwr : h2.wr (σ.next + 1) 2 [v'] = some (h2.set (σ.next + 1) [.int .i64 p, .int .i64 n, v']) := by
    rw [obj_wr hob2, if_pos ⟨by simp, by simp [a2.one]⟩]; rfl
  simp only [pwA, if_true, if_false, eq_self, nm_eq, reduceCtorEq, ↓reduceIte, Nat.reduceEqDiff, Nat.reduceLeDiff, Nat.reduceBEq, Nat.reduceAdd, Nat.reduceLT, Nat.reduceSub, Nat.reduceMul, Int.reduceEq, Int.reduceLT, Int.reduceLE, Int.reduceNeg, Int.reduceToNat, List.reduceReplicate, Int.ofNat_le, List.getElem?_drop, hwr, a2.cells, wrapS hlt' (by omega : n ≤ 4611686018427387904)]
  have hk3 : Keep H (h2.set (σ.next + 1) [.int .i64 p, .int .i64 n, v']) := k2.set (by omega) _
  have a3 : PSl (H.next + 1) 1 (h2.set (σ.next + 1) [.int .i64 p, .int .i64 n, v']) v' (i + 1) (rows ++ [.sl h'.next 0 n (.known n)]) := PSl.setO (a2.high fun t ht => n2 t (by omega)) (by omega) _
  refine ⟨_, by omega, i + 1, v', rows ++ [.sl h'.next 0 n (.known n)], by omega, rfl, rfl, ⟨hk3, by rw [hHn, pobj_set, if_pos rfl], by rw [hHn]; show σ.next + 1 < h2.next; omega, a3.acc⟩, ?_⟩
  rw [idm_take hlt']
  have r2 := (hall.keep (keep_new h' (pis (uv n i)))).mono (σ' := h2) (v' := v') (by rw [hnx]; omega) (by rw [hnx]; exact o2) (by rw [hnx]; exact n2)
  refine (r2.snoc (m := h'.next) ⟨h'.next, .known n, by rw [hul], by rw [hul]; exact .inr rfl, hrow2, by omega, by omega, n2 _ (by omega)⟩ (fun d hd => hall.lt d hd) (Nat.le_refl _)).setX (by omega)
theorem product_T (hp : 2 ≤ p ∧ p ≤ 7) (hA : Ma p B.length A) (hB : Ma p n B) (hn : n ≤ 8) (hbl : B.length ≤ 8) (hal : A.length ≤ 8) (hvA : FII vA A) (hvB : FII vB B) {ca : PV} (hca : ca.one = true) (hk : ∀ v t, FII v (mm p n A B) → Own σ.top t v → σ.top ≤ t → K (.agg [.int .i64 p, .int .i64 n, v]) (σ.up t)) :
    PCalls Try.prog 112 [.agg [.int .i64 p, ca, vA], .agg [.int .i64 p, .int .i64 n, vB]] σ K := by
  have h1 := hvA.one
  have h2 := hvB.one
  have hvBB := hvB
  obtain ⟨wA, aA, rA, rfl, hrA⟩ := hvA
  refine PCalls.gh ?_
  generalize hH : ((σ.new [.int .i64 p, ca, .fz wA aA A.length rA]).new [.int .i64 p, .int .i64 n, vB]).new [.int .i64 0, .int .i64 0, .fz true .nils 0 []] = H
  have hHn : H.next = σ.next + 3 := by rw [← hH]; rfl
  have hHt : H.top = σ.top := by rw [← hH]; rfl
  have hHk : Keep σ H := by rw [← hH]; exact ((keep_new σ _).new _).new _
  have ho1 : H.obj (σ.next + 1) = some [.int .i64 p, .int .i64 n, vB] := by rw [← hH]; simp only [pwA, if_true, if_false, eq_self, nm_eq, reduceCtorEq, ↓reduceIte, Nat.reduceEqDiff, Nat.reduceLeDiff, Nat.reduceBEq, Nat.reduceAdd, Nat.reduceLT, Nat.reduceSub, Nat.reduceMul, Int.reduceEq, Int.reduceLT, Int.reduceLE, Int.reduceNeg, Int.reduceToNat, List.reduceReplicate, Int.ofNat_le, List.getElem?_drop]
  refine pcalls_of_vp mix Try.func112 cf112 rfl ?_
  dsimp only [if112, qI, eI, nI, qD, eD]
  simp only [pwA, if_true, if_false, eq_self, nm_eq, reduceCtorEq, ↓reduceIte, Nat.reduceEqDiff, Nat.reduceLeDiff, Nat.reduceBEq, Nat.reduceAdd, Nat.reduceLT, Nat.reduceSub, Nat.reduceMul, Int.reduceEq, Int.reduceLT, Int.reduceLE, Int.reduceNeg, Int.reduceToNat, List.reduceReplicate, Int.ofNat_le, List.getElem?_drop, h1, h2, hca]
  rw [hH]
  refine vp_loop (fun m vs h' => ∃ (i : Nat) (vC : PV) (rows : List PV), i ≤ A.length ∧ m = A.length - i ∧ vs = [.ptr (σ.next + 1) 0, .ptr (σ.next + 2) 0, .ptr (σ.next + 3) 0, .fz wA aA A.length rA, .int .i64 A.length, .int .i64 i] ∧ Acc3 H h' p n vC i rows ∧ All2 FI rows ((mm p n A B).take i) ∧ Owns σ.top h'.top rows) A.length ?_ ?_
  · exact ⟨0, _, [], by omega, by omega, rfl, ⟨keep_new H _, by rw [pobj_new, if_pos rfl], Nat.lt_succ_self _, PAcc.nil _ _ _⟩, by rw [List.take_zero]; exact All2.nil _, Owns.nil _ _⟩
  rintro m vs h' ⟨i, vC, rows, hi, rfl, rfl, a, hall, hown⟩
  have hob := a.obj
  have hlt0 := a.lt
  rw [hHn] at hob hlt0
  have r2 : h'.rd1 (σ.next + 3) 2 = some vC := by rw [obj_rd1 hob]; rfl
  have hor : h'.obj (σ.next + 2) = some [.int .i64 0, .int .i64 0, .fz true .nils 0 []] := by rw [a.keep.obj _ (by omega), ← hH]; simp only [pwA, if_true, if_false, eq_self, nm_eq, reduceCtorEq, ↓reduceIte, Nat.reduceEqDiff, Nat.reduceLeDiff, Nat.reduceBEq, Nat.reduceAdd, Nat.reduceLT, Nat.reduceSub, Nat.reduceMul, Int.reduceEq, Int.reduceLT, Int.reduceLE, Int.reduceNeg, Int.reduceToNat, List.reduceReplicate, Int.ofNat_le, List.getElem?_drop]
  have ho1' : h'.obj (σ.next + 1) = some [.int .i64 p, .int .i64 n, vB] := by rw [a.keep.obj _ (by omega)]; exact ho1
  have rb : h'.rd (σ.next + 1) 0 3 = some [.int .i64 p, .int .i64 n, vB] := by rw [obj_rd ho1']; rfl
  simp only [pwA, if_true, if_false, eq_self, nm_eq, reduceCtorEq, ↓reduceIte, Nat.reduceEqDiff, Nat.reduceLeDiff, Nat.reduceBEq, Nat.reduceAdd, Nat.reduceLT, Nat.reduceSub, Nat.reduceMul, Int.reduceEq, Int.reduceLT, Int.reduceLE, Int.reduceNeg, Int.reduceToNat, List.reduceReplicate, Int.ofNat_le, List.getElem?_drop]
  refine iteI (fun hlt => ?_) fun hge => ?_
  rotate_left
  · have hie : i = A.length := by omega
    subst hie
    have rd : h'.rd (σ.next + 3) 0 3 = some [.int .i64 p, .int .i64 n, vC] := by rw [obj_rd hob]; rfl
    have hwr : h'.wr (σ.next + 2) 0 [.int .i64 p, .int .i64 n, vC] = some (h'.set (σ.next + 2) [.int .i64 p, .int .i64 n, vC]) := by
      rw [obj_wr hor, if_pos ⟨by simp, by simp only [List.all_cons, List.all_nil, a.acc.one]; rfl⟩]; rfl
    simp only [pwA, if_true, if_false, eq_self, nm_eq, reduceCtorEq, ↓reduceIte, Nat.reduceEqDiff, Nat.reduceLeDiff, Nat.reduceBEq, Nat.reduceAdd, Nat.reduceLT, Nat.reduceSub, Nat.reduceMul, Int.reduceEq, Int.reduceLT, Int.reduceLE, Int.reduceNeg, Int.reduceToNat, List.reduceReplicate, Int.ofNat_le, List.getElem?_drop, rd, hwr]
    rw [List.take_of_length_le (by rw [mm_length]; exact Nat.le_refl _)] at hall
    have hln : (mm p n A B).length = A.length := mm_length ..
    refine Gh.agg3 (PAcc.own ((hHk.trans a.keep).set (by omega) _) ((a.acc.setX (by omega)).low (by omega)) (hall.bI 0) hown fun av t h1 h2 => hk _ t ⟨true, av, rows, by rw [hln], hall⟩ h1 h2)
  obtain ⟨w4, a4, hr⟩ := hrA.rowI hlt
  have hrow := hA _ (List.getElem_mem hlt)
  have hvl := (vt_ve (by omega : 0 < p) hB hrow.len).len
  simp only [pwA, if_true, if_false, eq_self, nm_eq, reduceCtorEq, ↓reduceIte, Nat.reduceEqDiff, Nat.reduceLeDiff, Nat.reduceBEq, Nat.reduceAdd, Nat.reduceLT, Nat.reduceSub, Nat.reduceMul, Int.reduceEq, Int.reduceLT, Int.reduceLE, Int.reduceNeg, Int.reduceToNat, List.reduceReplicate, Int.ofNat_le, List.getElem?_drop, hlt, hr, r2, rb, List.getElem?_drop]
  refine vectorTimes_T hp hB hrow hn hbl hvBB ⟨w4, a4, rfl⟩ fun z t hz ho ht => ?_
  have hzz := hz
  obtain ⟨wz, az, rfl⟩ := hz
  have hne : ¬ σ.next + 3 = h'.next := by omega
  simp only [pwA, if_true, if_false, eq_self, nm_eq, reduceCtorEq, ↓reduceIte, Nat.reduceEqDiff, Nat.reduceLeDiff, Nat.reduceBEq, Nat.reduceAdd, Nat.reduceLT, Nat.reduceSub, Nat.reduceMul, Int.reduceEq, Int.reduceLT, Int.reduceLE, Int.reduceNeg, Int.reduceToNat, List.reduceReplicate, Int.ofNat_le, List.getElem?_drop, r2, hne]
  refine optK_top ?_
  refine PAcc.pushS (σb := H) (bytes := 24) (a.keep.up ht) (a.acc.upX.low (Nat.le_succ _)) rfl (by omega) (by omega) fun v' h2 k2 a2 o2 n2 l2 htp => ?_
  have hnu : (h'.up t).next = h'.next := rfl
  rw [hnu] at o2 n2 l2
  have htp' : h2.top = t := htp
  have hob2 : h2.obj (σ.next + 3) = some [.int .i64 p, .int .i64 n, vC] := by rw [o2 _ hlt0 (a.acc.ne' (by omega))]; exact hob
  have hwr : h2.wr (σ.next + 3) 2 [v'] = some (h2.set (σ.next + 3) [.int .i64 p, .int .i64 n, v']) := by
    rw [obj_wr hob2, if_pos ⟨by simp, by simp [a2.one]⟩]; rfl
  simp only [pwA, if_true, if_false, eq_self, nm_eq, reduceCtorEq, ↓reduceIte, Nat.reduceEqDiff, Nat.reduceLeDiff, Nat.reduceBEq, Nat.reduceAdd, Nat.reduceLT, Nat.reduceSub, Nat.reduceMul, Int.reduceEq, Int.reduceLT, Int.reduceLE, Int.reduceNeg, Int.reduceToNat, List.reduceReplicate, Int.ofNat_le, List.getElem?_drop, hwr, a2.cells, wrapS hlt (by omega : A.length ≤ 4611686018427387904)]
  refine ⟨_, by omega, i + 1, v', rows ++ [.fz wz az (vt p n A[i] B).length (pis (vt p n A[i] B))], by omega, rfl, rfl, ⟨k2.set (by omega) _, by rw [hHn, pobj_set, if_pos rfl], by rw [hHn]; show σ.next + 3 < h2.next; omega, ?_⟩, ?_⟩
  · exact (PSl.setO (a2.high (b' := H.next + 1) fun t ht => n2 t (by omega)) (by omega) _).acc
  · rw [mm_take hlt]
    exact ⟨hall.snoc hzz, (hown.snoc ho (Nat.le_trans hHk.top a.keep.top) ht).mono (Nat.le_refl _) (by show t ≤ (h2.set _ _).top; show t ≤ h2.top; omega)⟩
theorem actionOf_T (hp : 2 ≤ p ∧ p ≤ 7) (hn : n ≤ 3) (hq : SqL p n As) (hw : ∀ l ∈ w, 1 ≤ l ∧ l ≤ (As.length : Int)) (hwl : w.length ≤ 1048576) (hal : As.length ≤ 1048576) (hs : PtrR σ s p (.int .i64 n) vA) (hvA : FIII vA As) (hvw : FI vw w)
    (hk : ∀ v t, FII v (foldW (ms p n As) w (idm n)) → Own σ.top t v → σ.top ≤ t → K (.agg [.int .i64 p, .int .i64 n, v]) (σ.up t)) : PCalls Try.prog 70 [.ptr s 0, vw] σ K := by
  have hvA0 := hvA
  obtain ⟨ww, aw, rfl⟩ := hvw
  have hsl := hs.lt
  have e0 : σ.rd1 s 0 = some (.int .i64 p) := by rw [obj_rd1 hs.obj]; rfl
  have e1 : σ.rd1 s 1 = some (.int .i64 n) := by rw [obj_rd1 hs.obj]; rfl
  have hne : ¬ s = σ.next := by omega
  have hne1 : ¬ s = σ.next + 1 := by omega
  refine PCalls.gh ?_
  refine pcalls_of_vp mix Try.func70 cf70 rfl ?_
  dsimp only [if70, qI, eI, nI, qD, eD]
  simp only [pwA, if_true, if_false, eq_self, nm_eq, reduceCtorEq, ↓reduceIte, Nat.reduceEqDiff, Nat.reduceLeDiff, Nat.reduceBEq, Nat.reduceAdd, Nat.reduceLT, Nat.reduceSub, Nat.reduceMul, Int.reduceEq, Int.reduceLT, Int.reduceLE, Int.reduceNeg, Int.reduceToNat, List.reduceReplicate, Int.ofNat_le, List.getElem?_drop, e0, e1, hne, hne1]
  refine identityOf_T (by omega) fun v1 t1 hv1 ho1 ht1 => ?_
  simp only [ptop_new] at ho1 ht1
  simp only [pwA, if_true, if_false, eq_self, nm_eq, reduceCtorEq, ↓reduceIte, Nat.reduceEqDiff, Nat.reduceLeDiff, Nat.reduceBEq, Nat.reduceAdd, Nat.reduceLT, Nat.reduceSub, Nat.reduceMul, Int.reduceEq, Int.reduceLT, Int.reduceLE, Int.reduceNeg, Int.reduceToNat, List.reduceReplicate, Int.ofNat_le, List.getElem?_drop, e0, e1, hne, hne1, hv1.one, hv1.cells]
  refine vp_loop (fun m vs h' => ∃ (i : Nat) (vX : PV) (t : Nat), i ≤ w.length ∧ m = w.length - i ∧ vs = [.ptr s 0, .ptr σ.next 0, .ptr (σ.next + 1) 0, .fz ww aw w.length (pis w), .int .i64 w.length, .int .i64 i] ∧ h' = ((σ.new [.int .i64 0, .int .i64 0, .fz true .nils 0 []]).new [.int .i64 p, .int .i64 n, vX]).up t ∧ FII vX (foldW (ms p n As) (w.take i) (idm n)) ∧ Own σ.top t vX ∧ σ.top ≤ t) w.length ?_ ?_
  · exact ⟨0, v1, t1, by omega, by omega, rfl, rfl, hv1, ho1, ht1⟩
  rintro m vs h' ⟨i, vX, t, hi, rfl, rfl, rfl, hX, hoX, htX⟩
  simp only [pwA, if_true, if_false, eq_self, nm_eq, reduceCtorEq, ↓reduceIte, Nat.reduceEqDiff, Nat.reduceLeDiff, Nat.reduceBEq, Nat.reduceAdd, Nat.reduceLT, Nat.reduceSub, Nat.reduceMul, Int.reduceEq, Int.reduceLT, Int.reduceLE, Int.reduceNeg, Int.reduceToNat, List.reduceReplicate, Int.ofNat_le, List.getElem?_drop]
  refine iteI (fun hlt => ?_) fun hge => ?_
  rotate_left
  · have hie : i = w.length := by omega
    subst hie
    rw [List.take_length] at hX
    simp only [pwA, if_true, if_false, eq_self, nm_eq, reduceCtorEq, ↓reduceIte, Nat.reduceEqDiff, Nat.reduceLeDiff, Nat.reduceBEq, Nat.reduceAdd, Nat.reduceLT, Nat.reduceSub, Nat.reduceMul, Int.reduceEq, Int.reduceLT, Int.reduceLE, Int.reduceNeg, Int.reduceToNat, List.reduceReplicate, Int.ofNat_le, List.getElem?_drop, hX.one, hX.cells]
    exact Gh.fin0T (t := t) (((keep_new σ _).new _).up htX) (Nat.le_refl _) ⟨trivial, trivial, hX.bel _, trivial⟩ fun _ => hk _ t hX hoX htX
  have hl := hw _ (List.getElem_mem hlt)
  obtain ⟨j, hj⟩ : ∃ j : Nat, w[i] = (j : Int) + 1 := ⟨w[i].toNat - 1, by omega⟩
  have hjl : j < As.length := by omega
  have ew : IntKind.i64.wrap ((j : Int) + 1 - 1) = (j : Int) := by rw [wrap64 (by omega) (by omega)]; omega
  simp only [pwA, if_true, if_false, eq_self, nm_eq, reduceCtorEq, ↓reduceIte, Nat.reduceEqDiff, Nat.reduceLeDiff, Nat.reduceBEq, Nat.reduceAdd, Nat.reduceLT, Nat.reduceSub, Nat.reduceMul, Int.reduceEq, Int.reduceLT, Int.reduceLE, Int.reduceNeg, Int.reduceToNat, List.reduceReplicate, Int.ofNat_le, List.getElem?_drop, hlt, gi hlt, pis_get, List.getElem?_drop, hj, ew]
  have hs4 : PtrR (((σ.new [.int .i64 0, .int .i64 0, .fz true .nils 0 []]).new [.int .i64 p, .int .i64 n, vX]).up t) s p (.int .i64 n) vA := by
    have h1 := (hs.new [.int .i64 0, .int .i64 0, .fz true .nils 0 []]).new [.int .i64 p, .int .i64 n, vX]
    exact ⟨h1.obj, h1.lt⟩
  refine actionAt_ok hs4 hvA0 hjl fun v2 hv2 => ?_
  have hsq := fold_in (S := Sq p n) (f := ms p n As) (n := As.length) (fun a i hi ha => ms_in (by omega) hq hi ha) (w.take i) (fun l hl => hw l (List.mem_of_mem_take hl)) (sq_mon (by omega : 1 < p) n).one
  have hm := hq.mat hjl
  rw [mat_eq hjl] at hm
  simp only [pwA, if_true, if_false, eq_self, nm_eq, reduceCtorEq, ↓reduceIte, Nat.reduceEqDiff, Nat.reduceLeDiff, Nat.reduceBEq, Nat.reduceAdd, Nat.reduceLT, Nat.reduceSub, Nat.reduceMul, Int.reduceEq, Int.reduceLT, Int.reduceLE, Int.reduceNeg, Int.reduceToNat, List.reduceReplicate, Int.ofNat_le, List.getElem?_drop, hX.one, hX.cells, hv2.one, hv2.cells]
  refine product_T hp (by rw [hm.1]; exact hsq.2) hm.2 (by omega) (by rw [hm.1]; omega) (by rw [hsq.1]; omega) hX hv2 rfl fun v3 t3 hv3 ho3 ht3 => ?_
  simp only [ptop_new, ptop_up] at ho3 ht3
  simp only [pwA, if_true, if_false, eq_self, nm_eq, reduceCtorEq, ↓reduceIte, Nat.reduceEqDiff, Nat.reduceLeDiff, Nat.reduceBEq, Nat.reduceAdd, Nat.reduceLT, Nat.reduceSub, Nat.reduceMul, Int.reduceEq, Int.reduceLT, Int.reduceLE, Int.reduceNeg, Int.reduceToNat, List.reduceReplicate, Int.ofNat_le, List.getElem?_drop, hX.one, hX.cells, hv3.one, hv3.cells, up_up, wrapS hlt (by omega : w.length ≤ 4611686018427387904)]
  refine ⟨_, by omega, i + 1, v3, t3, by omega, rfl, rfl, rfl, ?_, ho3.mono htX (Nat.le_refl _), by omega⟩
  rw [foldW_take _ hlt, hj, show ((j : Int) + 1).toNat - 1 = j by omega]
  show FII v3 (mm p n _ (Mx.mat As j))
  rw [mat_eq hjl]
  exact hv3
end Go.Proofs
set_option linter.unusedSimpArgs false
set_option linter.unusedVariables false
namespace Go.Proofs
open Go.Ab Go.Lie
section
variable {h : AHeap} {K : AV → AHeap → Prop}
theorem markInt64S_A {v : PV} {xs : List Int} {k : Int} (hI : FI v xs) (hW : Wh v) (hw : HWF h) (hv : VOK (zlt h) h 0 v) (hb : xs.length ≤ 4294967296) (hk0 : 0 ≤ k) (hk1 : k ≤ 4611686018427387904)
    (hk : ∀ h', Upd h (mkI k v xs) h' → K (.int .i64 (k + xs.length)) h') : ACalls Try.prog 26 [er idz v, .int .i64 k] h K := by
  refine acalls_of_vc mix Try.func26 cf26 rfl ?_
  dsimp only [if26]
  by_cases hne : xs = []
  · subst hne
    have hlen : aLen (er idz v) = some (.int .i64 ((0 : Nat) : Int)) := by
      obtain ⟨w, a, rfl⟩ := hI
      obtain ⟨rfl, _⟩ | ⟨o, off, cap, rfl, _⟩ := hv.1 <;> rfl
    simp only [nm_eq, ↓reduceIte, vc_skip, vc_region, vc_draw, vc_seq, vc_cond, vc_block, vc_exit, vc_ret, RV_nil, RV_q, RV_e, DV_nil, DV_q, DV_e, gq_none, gq_some, ge_none, ge_some, condK_true, condK_false, condK_dec, condK_ndec, guardK_bool, guardO_bool, guardO_skip, guardK_skip, ev_t, ev_c, mk_cons, put_some, put_none, qv_mv, qv_pick, qv_bin, qv_un, qv_conv, qv_nilCheck, qv_build, qv_field, qv_fieldAddr, qv_indexAddr, qv_indexStr, qv_extract, qv_len, qv_lenStr, qv_cap, qv_slice, qv_sliceStr, qv_maxmin, qv_makeFunc, qv_load, qv_rev, eff_alloc, eff_box, eff_buildSl, eff_store, aStore_ptr, eff_makeSl, aMake_int, eff_append, eff_copy, eff_call, eff_callV, aCallV_clo, abin_add, abin_sub, abin_mul, abin_quo, abin_rem, abin_eql, abin_neq, abin_lss, abin_leq, abin_gtr, abin_geq, abin_beql, abin_bneq, abin_nn, abin_sn, abin_ns, abin_nnx, abin_snx, abin_nsx, abin_str, aun_neg, aun_not, aPick_true, aPick_false, aConv_int, aNil_ptr, aNil_clo, aField_agg, aField_one, aFieldAddr_ptr, Int.toNat_natCast, rd1_new, rd_new, new_next, Nat.left_eq_add, Nat.add_eq_left, Nat.succ_ne_self, Nat.one_ne_zero, Nat.add_left_cancel_iff, Nat.add_assoc, List.getElem?_cons_zero, List.getElem?_cons_succ, List.take_succ_cons, List.take_zero, List.drop_succ_cons, List.drop_zero, List.take_nil, List.drop_nil, Nat.reduceLeDiff, Nat.le_refl, afill_nil, afill_cons, zeros_zero, zeros_one1, zeros_single, Nat.lt_add_one, Int.reduceEq, Int.reduceLT, Int.reduceLE, Int.reduceNeg, aExtract_tup, aLen_sl, aLen_nils, aLenStr_str, aMaxmin_int, ldv_one, ldv_agg, news_nil, news_cons, RecOK_nil, RecOK_none, RecOK_cons, recOf, wantedI, rvals_nil, rvals_tmp, rvals_cell, retQ_normal, retQ_ret, packR_one, packR_nil, packR_two, optK_some, optK_none, optK_bind, optK_map, List.map_cons, List.map_nil, Nat.reduceEqDiff, if_true, if_false, ite_true, ite_false, List.nil_append, List.cons_append, Option.map_some, Option.map_none, reduceCtorEq, decide_true, decide_false, Bool.not_true, Bool.not_false, cells_int, cells_bool, cells_str, cells_nilp, cells_ptr, cells_nils, cells_sl, cells_nilf, cells_clo, cells_agg, List.all_cons, List.all_nil, one_int, one_bool, one_str, one_nilp, one_ptr, one_nils, one_sl, one_nilf, one_clo, List.length_cons, List.length_nil, Bool.and_true, Bool.true_and, Bool.and_self, true_and, and_true, Bool.true_eq_false, Bool.false_eq_true, List.contains_cons, List.contains_nil, Bool.or_false, Bool.or_true, Bool.true_or, Bool.false_or, eq_self, Nat.reduceBEq, Nat.reduceAdd, Nat.mul_one, Nat.zero_add, Nat.add_zero]
    refine vc_loop (fun m vs h' => vs = [er idz v, .int .i64 k, .int .i64 0] ∧ h' = h) 0 ⟨rfl, rfl⟩ ?_
    rintro m vs h' ⟨rfl, rfl⟩
    simp only [nm_eq, ↓reduceIte, vc_skip, vc_region, vc_draw, vc_seq, vc_cond, vc_block, vc_exit, vc_ret, RV_nil, RV_q, RV_e, DV_nil, DV_q, DV_e, gq_none, gq_some, ge_none, ge_some, condK_true, condK_false, condK_dec, condK_ndec, guardK_bool, guardO_bool, guardO_skip, guardK_skip, ev_t, ev_c, mk_cons, put_some, put_none, qv_mv, qv_pick, qv_bin, qv_un, qv_conv, qv_nilCheck, qv_build, qv_field, qv_fieldAddr, qv_indexAddr, qv_indexStr, qv_extract, qv_len, qv_lenStr, qv_cap, qv_slice, qv_sliceStr, qv_maxmin, qv_makeFunc, qv_load, qv_rev, eff_alloc, eff_box, eff_buildSl, eff_store, aStore_ptr, eff_makeSl, aMake_int, eff_append, eff_copy, eff_call, eff_callV, aCallV_clo, abin_add, abin_sub, abin_mul, abin_quo, abin_rem, abin_eql, abin_neq, abin_lss, abin_leq, abin_gtr, abin_geq, abin_beql, abin_bneq, abin_nn, abin_sn, abin_ns, abin_nnx, abin_snx, abin_nsx, abin_str, aun_neg, aun_not, aPick_true, aPick_false, aConv_int, aNil_ptr, aNil_clo, aField_agg, aField_one, aFieldAddr_ptr, Int.toNat_natCast, rd1_new, rd_new, new_next, Nat.left_eq_add, Nat.add_eq_left, Nat.succ_ne_self, Nat.one_ne_zero, Nat.add_left_cancel_iff, Nat.add_assoc, List.getElem?_cons_zero, List.getElem?_cons_succ, List.take_succ_cons, List.take_zero, List.drop_succ_cons, List.drop_zero, List.take_nil, List.drop_nil, Nat.reduceLeDiff, Nat.le_refl, afill_nil, afill_cons, zeros_zero, zeros_one1, zeros_single, Nat.lt_add_one, Int.reduceEq, Int.reduceLT, Int.reduceLE, Int.reduceNeg, aExtract_tup, aLen_sl, aLen_nils, aLenStr_str, aMaxmin_int, ldv_one, ldv_agg, news_nil, news_cons, RecOK_nil, RecOK_none, RecOK_cons, recOf, wantedI, rvals_nil, rvals_tmp, rvals_cell, retQ_normal, retQ_ret, packR_one, packR_nil, packR_two, optK_some, optK_none, optK_bind, optK_map, List.map_cons, List.map_nil, Nat.reduceEqDiff, if_true, if_false, ite_true, ite_false, List.nil_append, List.cons_append, Option.map_some, Option.map_none, reduceCtorEq, decide_true, decide_false, Bool.not_true, Bool.not_false, cells_int, cells_bool, cells_str, cells_nilp, cells_ptr, cells_nils, cells_sl, cells_nilf, cells_clo, cells_agg, List.all_cons, List.all_nil, one_int, one_bool, one_str, one_nilp, one_ptr, one_nils, one_sl, one_nilf, one_clo, List.length_cons, List.length_nil, Bool.and_true, Bool.true_and, Bool.and_self, true_and, and_true, Bool.true_eq_false, Bool.false_eq_true, List.contains_cons, List.contains_nil, Bool.or_false, Bool.or_true, Bool.true_or, Bool.false_or, eq_self, Nat.reduceBEq, Nat.reduceAdd, Nat.mul_one, Nat.zero_add, Nat.add_zero, hlen, Int.lt_irrefl]
    have := hk h' (Upd.refl hw)
    simpa using this
  · obtain ⟨w, a, rfl⟩ := hI
    obtain ⟨hwt, _, _⟩ := hW.resolve_left (pis_ne hne)
    obtain ⟨o, cap, rfl, ho, hz⟩ := hv.whole hwt (pis_ne hne)
    have ho' : h.obj o = some ⟨true, ints xs⟩ := by rw [ho, ers_map]; congr 2; simp only [pis, ints, List.map_map]; rfl
    simp only [nm_eq, ↓reduceIte, vc_skip, vc_region, vc_draw, vc_seq, vc_cond, vc_block, vc_exit, vc_ret, RV_nil, RV_q, RV_e, DV_nil, DV_q, DV_e, gq_none, gq_some, ge_none, ge_some, condK_true, condK_false, condK_dec, condK_ndec, guardK_bool, guardO_bool, guardO_skip, guardK_skip, ev_t, ev_c, mk_cons, put_some, put_none, qv_mv, qv_pick, qv_bin, qv_un, qv_conv, qv_nilCheck, qv_build, qv_field, qv_fieldAddr, qv_indexAddr, qv_indexStr, qv_extract, qv_len, qv_lenStr, qv_cap, qv_slice, qv_sliceStr, qv_maxmin, qv_makeFunc, qv_load, qv_rev, eff_alloc, eff_box, eff_buildSl, eff_store, aStore_ptr, eff_makeSl, aMake_int, eff_append, eff_copy, eff_call, eff_callV, aCallV_clo, abin_add, abin_sub, abin_mul, abin_quo, abin_rem, abin_eql, abin_neq, abin_lss, abin_leq, abin_gtr, abin_geq, abin_beql, abin_bneq, abin_nn, abin_sn, abin_ns, abin_nnx, abin_snx, abin_nsx, abin_str, aun_neg, aun_not, aPick_true, aPick_false, aConv_int, aNil_ptr, aNil_clo, aField_agg, aField_one, aFieldAddr_ptr, Int.toNat_natCast, rd1_new, rd_new, new_next, Nat.left_eq_add, Nat.add_eq_left, Nat.succ_ne_self, Nat.one_ne_zero, Nat.add_left_cancel_iff, Nat.add_assoc, List.getElem?_cons_zero, List.getElem?_cons_succ, List.take_succ_cons, List.take_zero, List.drop_succ_cons, List.drop_zero, List.take_nil, List.drop_nil, Nat.reduceLeDiff, Nat.le_refl, afill_nil, afill_cons, zeros_zero, zeros_one1, zeros_single, Nat.lt_add_one, Int.reduceEq, Int.reduceLT, Int.reduceLE, Int.reduceNeg, aExtract_tup, aLen_sl, aLen_nils, aLenStr_str, aMaxmin_int, ldv_one, ldv_agg, news_nil, news_cons, RecOK_nil, RecOK_none, RecOK_cons, recOf, wantedI, rvals_nil, rvals_tmp, rvals_cell, retQ_normal, retQ_ret, packR_one, packR_nil, packR_two, optK_some, optK_none, optK_bind, optK_map, List.map_cons, List.map_nil, Nat.reduceEqDiff, if_true, if_false, ite_true, ite_false, List.nil_append, List.cons_append, Option.map_some, Option.map_none, reduceCtorEq, decide_true, decide_false, Bool.not_true, Bool.not_false, cells_int, cells_bool, cells_str, cells_nilp, cells_ptr, cells_nils, cells_sl, cells_nilf, cells_clo, cells_agg, List.all_cons, List.all_nil, one_int, one_bool, one_str, one_nilp, one_ptr, one_nils, one_sl, one_nilf, one_clo, List.length_cons, List.length_nil, Bool.and_true, Bool.true_and, Bool.and_self, true_and, and_true, Bool.true_eq_false, Bool.false_eq_true, List.contains_cons, List.contains_nil, Bool.or_false, Bool.or_true, Bool.true_or, Bool.false_or, eq_self, Nat.reduceBEq, Nat.reduceAdd, Nat.mul_one, Nat.zero_add, Nat.add_zero, er]
    refine vc_loop (fun m vs h' => ∃ i : Nat, i ≤ xs.length ∧ m = xs.length - i ∧ vs = [.sl o 0 xs.length cap, .int .i64 (k + i), .int .i64 i] ∧ h' = h.set o (ints ((seqI k xs.length).take i ++ xs.drop i))) xs.length ?_ ?_
    · exact ⟨0, by omega, by omega, (by (simp only [nm_eq, ↓reduceIte, vc_skip, vc_region, vc_draw, vc_seq, vc_cond, vc_block, vc_exit, vc_ret, RV_nil, RV_q, RV_e, DV_nil, DV_q, DV_e, gq_none, gq_some, ge_none, ge_some, condK_true, condK_false, condK_dec, condK_ndec, guardK_bool, guardO_bool, guardO_skip, guardK_skip, ev_t, ev_c, mk_cons, put_some, put_none, qv_mv, qv_pick, qv_bin, qv_un, qv_conv, qv_nilCheck, qv_build, qv_field, qv_fieldAddr, qv_indexAddr, qv_indexStr, qv_extract, qv_len, qv_lenStr, qv_cap, qv_slice, qv_sliceStr, qv_maxmin, qv_makeFunc, qv_load, qv_rev, eff_alloc, eff_box, eff_buildSl, eff_store, aStore_ptr, eff_makeSl, aMake_int, eff_append, eff_copy, eff_call, eff_callV, aCallV_clo, abin_add, abin_sub, abin_mul, abin_quo, abin_rem, abin_eql, abin_neq, abin_lss, abin_leq, abin_gtr, abin_geq, abin_beql, abin_bneq, abin_nn, abin_sn, abin_ns, abin_nnx, abin_snx, abin_nsx, abin_str, aun_neg, aun_not, aPick_true, aPick_false, aConv_int, aNil_ptr, aNil_clo, aField_agg, aField_one, aFieldAddr_ptr, Int.toNat_natCast, rd1_new, rd_new, new_next, Nat.left_eq_add, Nat.add_eq_left, Nat.succ_ne_self, Nat.one_ne_zero, Nat.add_left_cancel_iff, Nat.add_assoc, List.getElem?_cons_zero, List.getElem?_cons_succ, List.take_succ_cons, List.take_zero, List.drop_succ_cons, List.drop_zero, List.take_nil, List.drop_nil, Nat.reduceLeDiff, Nat.le_refl, afill_nil, afill_cons, zeros_zero, zeros_one1, zeros_single, Nat.lt_add_one, Int.reduceEq, Int.reduceLT, Int.reduceLE, Int.reduceNeg, aExtract_tup, aLen_sl, aLen_nils, aLenStr_str, aMaxmin_int, ldv_one, ldv_agg, news_nil, news_cons, RecOK_nil, RecOK_none, RecOK_cons, recOf, wantedI, rvals_nil, rvals_tmp, rvals_cell, retQ_normal, retQ_ret, packR_one, packR_nil, packR_two, optK_some, optK_none, optK_bind, optK_map, List.map_cons, List.map_nil, Nat.reduceEqDiff, if_true, if_false, ite_true, ite_false, List.nil_append, List.cons_append, Option.map_some, Option.map_none, reduceCtorEq, decide_true, decide_false, Bool.not_true, Bool.not_false, cells_int, cells_bool, cells_str, cells_nilp, cells_ptr, cells_nils, cells_sl, cells_nilf, cells_clo, cells_agg, List.all_cons, List.all_nil, one_int, one_bool, one_str, one_nilp, one_ptr, one_nils, one_sl, one_nilf, one_clo, List.length_cons, List.length_nil, Bool.and_true, Bool.true_and, Bool.and_self, true_and, and_true, Bool.true_eq_false, Bool.false_eq_true, List.contains_cons, List.contains_nil, Bool.or_false, Bool.or_true, Bool.true_or, Bool.false_or, eq_self, Nat.reduceBEq, Nat.reduceAdd, Nat.mul_one, Nat.zero_add, Nat.add_zero, List.cons.injEq, AV.int.injEq, AV.sl.injEq, and_self]) <;> omega), by simp [set_self ho']⟩
    · rintro m vs h' ⟨i, hi, rfl, rfl, rfl⟩
      simp only [nm_eq, ↓reduceIte, vc_skip, vc_region, vc_draw, vc_seq, vc_cond, vc_block, vc_exit, vc_ret, RV_nil, RV_q, RV_e, DV_nil, DV_q, DV_e, gq_none, gq_some, ge_none, ge_some, condK_true, condK_false, condK_dec, condK_ndec, guardK_bool, guardO_bool, guardO_skip, guardK_skip, ev_t, ev_c, mk_cons, put_some, put_none, qv_mv, qv_pick, qv_bin, qv_un, qv_conv, qv_nilCheck, qv_build, qv_field, qv_fieldAddr, qv_indexAddr, qv_indexStr, qv_extract, qv_len, qv_lenStr, qv_cap, qv_slice, qv_sliceStr, qv_maxmin, qv_makeFunc, qv_load, qv_rev, eff_alloc, eff_box, eff_buildSl, eff_store, aStore_ptr, eff_makeSl, aMake_int, eff_append, eff_copy, eff_call, eff_callV, aCallV_clo, abin_add, abin_sub, abin_mul, abin_quo, abin_rem, abin_eql, abin_neq, abin_lss, abin_leq, abin_gtr, abin_geq, abin_beql, abin_bneq, abin_nn, abin_sn, abin_ns, abin_nnx, abin_snx, abin_nsx, abin_str, aun_neg, aun_not, aPick_true, aPick_false, aConv_int, aNil_ptr, aNil_clo, aField_agg, aField_one, aFieldAddr_ptr, Int.toNat_natCast, rd1_new, rd_new, new_next, Nat.left_eq_add, Nat.add_eq_left, Nat.succ_ne_self, Nat.one_ne_zero, Nat.add_left_cancel_iff, Nat.add_assoc, List.getElem?_cons_zero, List.getElem?_cons_succ, List.take_succ_cons, List.take_zero, List.drop_succ_cons, List.drop_zero, List.take_nil, List.drop_nil, Nat.reduceLeDiff, Nat.le_refl, afill_nil, afill_cons, zeros_zero, zeros_one1, zeros_single, Nat.lt_add_one, Int.reduceEq, Int.reduceLT, Int.reduceLE, Int.reduceNeg, aExtract_tup, aLen_sl, aLen_nils, aLenStr_str, aMaxmin_int, ldv_one, ldv_agg, news_nil, news_cons, RecOK_nil, RecOK_none, RecOK_cons, recOf, wantedI, rvals_nil, rvals_tmp, rvals_cell, retQ_normal, retQ_ret, packR_one, packR_nil, packR_two, optK_some, optK_none, optK_bind, optK_map, List.map_cons, List.map_nil, Nat.reduceEqDiff, if_true, if_false, ite_true, ite_false, List.nil_append, List.cons_append, Option.map_some, Option.map_none, reduceCtorEq, decide_true, decide_false, Bool.not_true, Bool.not_false, cells_int, cells_bool, cells_str, cells_nilp, cells_ptr, cells_nils, cells_sl, cells_nilf, cells_clo, cells_agg, List.all_cons, List.all_nil, one_int, one_bool, one_str, one_nilp, one_ptr, one_nils, one_sl, one_nilf, one_clo, List.length_cons, List.length_nil, Bool.and_true, Bool.true_and, Bool.and_self, true_and, and_true, Bool.true_eq_false, Bool.false_eq_true, List.contains_cons, List.contains_nil, Bool.or_false, Bool.or_true, Bool.true_or, Bool.false_or, eq_self, Nat.reduceBEq, Nat.reduceAdd, Nat.mul_one, Nat.zero_add, Nat.add_zero]
      split
      · have hlt : i < xs.length := by omega
        simp only [nm_eq, ↓reduceIte, vc_skip, vc_region, vc_draw, vc_seq, vc_cond, vc_block, vc_exit, vc_ret, RV_nil, RV_q, RV_e, DV_nil, DV_q, DV_e, gq_none, gq_some, ge_none, ge_some, condK_true, condK_false, condK_dec, condK_ndec, guardK_bool, guardO_bool, guardO_skip, guardK_skip, ev_t, ev_c, mk_cons, put_some, put_none, qv_mv, qv_pick, qv_bin, qv_un, qv_conv, qv_nilCheck, qv_build, qv_field, qv_fieldAddr, qv_indexAddr, qv_indexStr, qv_extract, qv_len, qv_lenStr, qv_cap, qv_slice, qv_sliceStr, qv_maxmin, qv_makeFunc, qv_load, qv_rev, eff_alloc, eff_box, eff_buildSl, eff_store, aStore_ptr, eff_makeSl, aMake_int, eff_append, eff_copy, eff_call, eff_callV, aCallV_clo, abin_add, abin_sub, abin_mul, abin_quo, abin_rem, abin_eql, abin_neq, abin_lss, abin_leq, abin_gtr, abin_geq, abin_beql, abin_bneq, abin_nn, abin_sn, abin_ns, abin_nnx, abin_snx, abin_nsx, abin_str, aun_neg, aun_not, aPick_true, aPick_false, aConv_int, aNil_ptr, aNil_clo, aField_agg, aField_one, aFieldAddr_ptr, Int.toNat_natCast, rd1_new, rd_new, new_next, Nat.left_eq_add, Nat.add_eq_left, Nat.succ_ne_self, Nat.one_ne_zero, Nat.add_left_cancel_iff, Nat.add_assoc, List.getElem?_cons_zero, List.getElem?_cons_succ, List.take_succ_cons, List.take_zero, List.drop_succ_cons, List.drop_zero, List.take_nil, List.drop_nil, Nat.reduceLeDiff, Nat.le_refl, afill_nil, afill_cons, zeros_zero, zeros_one1, zeros_single, Nat.lt_add_one, Int.reduceEq, Int.reduceLT, Int.reduceLE, Int.reduceNeg, aExtract_tup, aLen_sl, aLen_nils, aLenStr_str, aMaxmin_int, ldv_one, ldv_agg, news_nil, news_cons, RecOK_nil, RecOK_none, RecOK_cons, recOf, wantedI, rvals_nil, rvals_tmp, rvals_cell, retQ_normal, retQ_ret, packR_one, packR_nil, packR_two, optK_some, optK_none, optK_bind, optK_map, List.map_cons, List.map_nil, Nat.reduceEqDiff, if_true, if_false, ite_true, ite_false, List.nil_append, List.cons_append, Option.map_some, Option.map_none, reduceCtorEq, decide_true, decide_false, Bool.not_true, Bool.not_false, cells_int, cells_bool, cells_str, cells_nilp, cells_ptr, cells_nils, cells_sl, cells_nilf, cells_clo, cells_agg, List.all_cons, List.all_nil, one_int, one_bool, one_str, one_nilp, one_ptr, one_nils, one_sl, one_nilf, one_clo, List.length_cons, List.length_nil, Bool.and_true, Bool.true_and, Bool.and_self, true_and, and_true, Bool.true_eq_false, Bool.false_eq_true, List.contains_cons, List.contains_nil, Bool.or_false, Bool.or_true, Bool.true_or, Bool.false_or, eq_self, Nat.reduceBEq, Nat.reduceAdd, Nat.mul_one, Nat.zero_add, Nat.add_zero, aIndex_nat hlt, wrapS hlt (by omega : xs.length ≤ 4611686018427387904), wrap64 (n := k + (i : Int) + 1) (by omega) (by omega)]
        have hls : i < (seqI k xs.length).length := by rw [seqI_length]; exact hlt
        rw [wr_one (set_obj_eq _ _) (by rw [ints_length]; simp [seqI_length]; omega) rfl, optK_some]
        refine ⟨_, by omega, i + 1, by omega, rfl, (by (simp only [nm_eq, ↓reduceIte, vc_skip, vc_region, vc_draw, vc_seq, vc_cond, vc_block, vc_exit, vc_ret, RV_nil, RV_q, RV_e, DV_nil, DV_q, DV_e, gq_none, gq_some, ge_none, ge_some, condK_true, condK_false, condK_dec, condK_ndec, guardK_bool, guardO_bool, guardO_skip, guardK_skip, ev_t, ev_c, mk_cons, put_some, put_none, qv_mv, qv_pick, qv_bin, qv_un, qv_conv, qv_nilCheck, qv_build, qv_field, qv_fieldAddr, qv_indexAddr, qv_indexStr, qv_extract, qv_len, qv_lenStr, qv_cap, qv_slice, qv_sliceStr, qv_maxmin, qv_makeFunc, qv_load, qv_rev, eff_alloc, eff_box, eff_buildSl, eff_store, aStore_ptr, eff_makeSl, aMake_int, eff_append, eff_copy, eff_call, eff_callV, aCallV_clo, abin_add, abin_sub, abin_mul, abin_quo, abin_rem, abin_eql, abin_neq, abin_lss, abin_leq, abin_gtr, abin_geq, abin_beql, abin_bneq, abin_nn, abin_sn, abin_ns, abin_nnx, abin_snx, abin_nsx, abin_str, aun_neg, aun_not, aPick_true, aPick_false, aConv_int, aNil_ptr, aNil_clo, aField_agg, aField_one, aFieldAddr_ptr, Int.toNat_natCast, rd1_new, rd_new, new_next, Nat.left_eq_add, Nat.add_eq_left, Nat.succ_ne_self, Nat.one_ne_zero, Nat.add_left_cancel_iff, Nat.add_assoc, List.getElem?_cons_zero, List.getElem?_cons_succ, List.take_succ_cons, List.take_zero, List.drop_succ_cons, List.drop_zero, List.take_nil, List.drop_nil, Nat.reduceLeDiff, Nat.le_refl, afill_nil, afill_cons, zeros_zero, zeros_one1, zeros_single, Nat.lt_add_one, Int.reduceEq, Int.reduceLT, Int.reduceLE, Int.reduceNeg, aExtract_tup, aLen_sl, aLen_nils, aLenStr_str, aMaxmin_int, ldv_one, ldv_agg, news_nil, news_cons, RecOK_nil, RecOK_none, RecOK_cons, recOf, wantedI, rvals_nil, rvals_tmp, rvals_cell, retQ_normal, retQ_ret, packR_one, packR_nil, packR_two, optK_some, optK_none, optK_bind, optK_map, List.map_cons, List.map_nil, Nat.reduceEqDiff, if_true, if_false, ite_true, ite_false, List.nil_append, List.cons_append, Option.map_some, Option.map_none, reduceCtorEq, decide_true, decide_false, Bool.not_true, Bool.not_false, cells_int, cells_bool, cells_str, cells_nilp, cells_ptr, cells_nils, cells_sl, cells_nilf, cells_clo, cells_agg, List.all_cons, List.all_nil, one_int, one_bool, one_str, one_nilp, one_ptr, one_nils, one_sl, one_nilf, one_clo, List.length_cons, List.length_nil, Bool.and_true, Bool.true_and, Bool.and_self, true_and, and_true, Bool.true_eq_false, Bool.false_eq_true, List.contains_cons, List.contains_nil, Bool.or_false, Bool.or_true, Bool.true_or, Bool.false_or, eq_self, Nat.reduceBEq, Nat.reduceAdd, Nat.mul_one, Nat.zero_add, Nat.add_zero, List.cons.injEq, AV.int.injEq, AV.sl.injEq, and_self]) <;> omega), ?_⟩
        rw [set_set, ints_set, ← mix_set _ _ hlt hls, seqI_get]
      · have hie : i = xs.length := by omega
        subst hie
        rw [List.take_of_length_le (by rw [seqI_length]; exact Nat.le_refl _), List.drop_length, List.append_nil]
        have hlt := hw.lt ho
        refine hk _ ⟨Nat.le_refl _, hw.set hlt _, fun x hx hn => set_obj_ne (fun e => ?_) _, fun x ms hx => ?_⟩
        · subst e
          rw [mkI, if_neg hne] at hn
          simp [aof] at hn
        · rw [mkI, if_neg hne] at hx
          simp only [List.lookup_cons, List.lookup_nil, aof] at hx
          split at hx
          · rename_i hxo
            cases hx
            have hxo : x = o := by simpa using hxo
            subst hxo
            refine ⟨?_, pis_flat _, pis_ne fun e => ?_, _, ho', by rw [ints_length, pis_length, seqI_length]⟩
            · rw [set_obj_eq, ers_map]; congr 2; simp only [pis, ints, List.map_map]; rfl
            · have := seqI_length xs.length k
              rw [e] at this
              exact hne (List.eq_nil_of_length_eq_zero this.symm)
          · cases hx
theorem markInt64SS_A {v : PV} {xs : List (List Int)} {k : Int} (hI : FII v xs) (hW : Wh v) (hnd : (ead v).Nodup) (hw : HWF h) (hv : VOK (zlt h) h 0 v) (hb : xs.length ≤ 4294967296) (hb2 : ∀ x ∈ xs, x.length ≤ 4294967296) (hk0 : 0 ≤ k) (hk1 : k + totL List.length xs ≤ 4611686018427387904)
    (hk : ∀ h', Upd h (mkF mkI List.length k v xs) h' → K (.int .i64 (k + totL List.length xs)) h') : ACalls Try.prog 43 [er idz v, .int .i64 k] h K := by
  refine acalls_of_vc mix Try.func43 cf43 rfl ?_
  dsimp only [if43]
  obtain ⟨w, a, rows, rfl, hr⟩ := hI
  by_cases hne : rows = []
  · have hx := hr.nil_iff.1 hne
    subst hne
    subst hx
    have hlen : aLen a = some (.int .i64 ((0 : Nat) : Int)) := by
      obtain ⟨rfl, _⟩ | ⟨o, off, cap, rfl, _⟩ := hv.1 <;> rfl
    simp only [nm_eq, ↓reduceIte, vc_skip, vc_region, vc_draw, vc_seq, vc_cond, vc_block, vc_exit, vc_ret, RV_nil, RV_q, RV_e, DV_nil, DV_q, DV_e, gq_none, gq_some, ge_none, ge_some, condK_true, condK_false, condK_dec, condK_ndec, guardK_bool, guardO_bool, guardO_skip, guardK_skip, ev_t, ev_c, mk_cons, put_some, put_none, qv_mv, qv_pick, qv_bin, qv_un, qv_conv, qv_nilCheck, qv_build, qv_field, qv_fieldAddr, qv_indexAddr, qv_indexStr, qv_extract, qv_len, qv_lenStr, qv_cap, qv_slice, qv_sliceStr, qv_maxmin, qv_makeFunc, qv_load, qv_rev, eff_alloc, eff_box, eff_buildSl, eff_store, aStore_ptr, eff_makeSl, aMake_int, eff_append, eff_copy, eff_call, eff_callV, aCallV_clo, abin_add, abin_sub, abin_mul, abin_quo, abin_rem, abin_eql, abin_neq, abin_lss, abin_leq, abin_gtr, abin_geq, abin_beql, abin_bneq, abin_nn, abin_sn, abin_ns, abin_nnx, abin_snx, abin_nsx, abin_str, aun_neg, aun_not, aPick_true, aPick_false, aConv_int, aNil_ptr, aNil_clo, aField_agg, aField_one, aFieldAddr_ptr, Int.toNat_natCast, rd1_new, rd_new, new_next, Nat.left_eq_add, Nat.add_eq_left, Nat.succ_ne_self, Nat.one_ne_zero, Nat.add_left_cancel_iff, Nat.add_assoc, List.getElem?_cons_zero, List.getElem?_cons_succ, List.take_succ_cons, List.take_zero, List.drop_succ_cons, List.drop_zero, List.take_nil, List.drop_nil, Nat.reduceLeDiff, Nat.le_refl, afill_nil, afill_cons, zeros_zero, zeros_one1, zeros_single, Nat.lt_add_one, Int.reduceEq, Int.reduceLT, Int.reduceLE, Int.reduceNeg, aExtract_tup, aLen_sl, aLen_nils, aLenStr_str, aMaxmin_int, ldv_one, ldv_agg, news_nil, news_cons, RecOK_nil, RecOK_none, RecOK_cons, recOf, wantedI, rvals_nil, rvals_tmp, rvals_cell, retQ_normal, retQ_ret, packR_one, packR_nil, packR_two, optK_some, optK_none, optK_bind, optK_map, List.map_cons, List.map_nil, Nat.reduceEqDiff, if_true, if_false, ite_true, ite_false, List.nil_append, List.cons_append, Option.map_some, Option.map_none, reduceCtorEq, decide_true, decide_false, Bool.not_true, Bool.not_false, cells_int, cells_bool, cells_str, cells_nilp, cells_ptr, cells_nils, cells_sl, cells_nilf, cells_clo, cells_agg, List.all_cons, List.all_nil, one_int, one_bool, one_str, one_nilp, one_ptr, one_nils, one_sl, one_nilf, one_clo, List.length_cons, List.length_nil, Bool.and_true, Bool.true_and, Bool.and_self, true_and, and_true, Bool.true_eq_false, Bool.false_eq_true, List.contains_cons, List.contains_nil, Bool.or_false, Bool.or_true, Bool.true_or, Bool.false_or, eq_self, Nat.reduceBEq, Nat.reduceAdd, Nat.mul_one, Nat.zero_add, Nat.add_zero, er]
    refine vc_loop (fun m vs h' => vs = [a, .int .i64 k, .int .i64 0] ∧ h' = h) 0 ⟨rfl, rfl⟩ ?_
    rintro m vs h' ⟨rfl, rfl⟩
    simp only [nm_eq, ↓reduceIte, vc_skip, vc_region, vc_draw, vc_seq, vc_cond, vc_block, vc_exit, vc_ret, RV_nil, RV_q, RV_e, DV_nil, DV_q, DV_e, gq_none, gq_some, ge_none, ge_some, condK_true, condK_false, condK_dec, condK_ndec, guardK_bool, guardO_bool, guardO_skip, guardK_skip, ev_t, ev_c, mk_cons, put_some, put_none, qv_mv, qv_pick, qv_bin, qv_un, qv_conv, qv_nilCheck, qv_build, qv_field, qv_fieldAddr, qv_indexAddr, qv_indexStr, qv_extract, qv_len, qv_lenStr, qv_cap, qv_slice, qv_sliceStr, qv_maxmin, qv_makeFunc, qv_load, qv_rev, eff_alloc, eff_box, eff_buildSl, eff_store, aStore_ptr, eff_makeSl, aMake_int, eff_append, eff_copy, eff_call, eff_callV, aCallV_clo, abin_add, abin_sub, abin_mul, abin_quo, abin_rem, abin_eql, abin_neq, abin_lss, abin_leq, abin_gtr, abin_geq, abin_beql, abin_bneq, abin_nn, abin_sn, abin_ns, abin_nnx, abin_snx, abin_nsx, abin_str, aun_neg, aun_not, aPick_true, aPick_false, aConv_int, aNil_ptr, aNil_clo, aField_agg, aField_one, aFieldAddr_ptr, Int.toNat_natCast, rd1_new, rd_new, new_next, Nat.left_eq_add, Nat.add_eq_left, Nat.succ_ne_self, Nat.one_ne_zero, Nat.add_left_cancel_iff, Nat.add_assoc, List.getElem?_cons_zero, List.getElem?_cons_succ, List.take_succ_cons, List.take_zero, List.drop_succ_cons, List.drop_zero, List.take_nil, List.drop_nil, Nat.reduceLeDiff, Nat.le_refl, afill_nil, afill_cons, zeros_zero, zeros_one1, zeros_single, Nat.lt_add_one, Int.reduceEq, Int.reduceLT, Int.reduceLE, Int.reduceNeg, aExtract_tup, aLen_sl, aLen_nils, aLenStr_str, aMaxmin_int, ldv_one, ldv_agg, news_nil, news_cons, RecOK_nil, RecOK_none, RecOK_cons, recOf, wantedI, rvals_nil, rvals_tmp, rvals_cell, retQ_normal, retQ_ret, packR_one, packR_nil, packR_two, optK_some, optK_none, optK_bind, optK_map, List.map_cons, List.map_nil, Nat.reduceEqDiff, if_true, if_false, ite_true, ite_false, List.nil_append, List.cons_append, Option.map_some, Option.map_none, reduceCtorEq, decide_true, decide_false, Bool.not_true, Bool.not_false, cells_int, cells_bool, cells_str, cells_nilp, cells_ptr, cells_nils, cells_sl, cells_nilf, cells_clo, cells_agg, List.all_cons, List.all_nil, one_int, one_bool, one_str, one_nilp, one_ptr, one_nils, one_sl, one_nilf, one_clo, List.length_cons, List.length_nil, Bool.and_true, Bool.true_and, Bool.and_self, true_and, and_true, Bool.true_eq_false, Bool.false_eq_true, List.contains_cons, List.contains_nil, Bool.or_false, Bool.or_true, Bool.true_or, Bool.false_or, eq_self, Nat.reduceBEq, Nat.reduceAdd, Nat.mul_one, Nat.zero_add, Nat.add_zero, hlen, Int.lt_irrefl]
    have := hk h' (Upd.refl hw)
    simpa [totL] using this
  · obtain ⟨hwt, _, hWs⟩ := hW.resolve_left hne
    obtain ⟨o, cap, rfl, ho, hz⟩ := hv.whole hwt hne
    rw [ead_fz hne] at hnd
    obtain ⟨n1, n2⟩ := List.nodup_cons.1 hnd
    simp only [nm_eq, ↓reduceIte, vc_skip, vc_region, vc_draw, vc_seq, vc_cond, vc_block, vc_exit, vc_ret, RV_nil, RV_q, RV_e, DV_nil, DV_q, DV_e, gq_none, gq_some, ge_none, ge_some, condK_true, condK_false, condK_dec, condK_ndec, guardK_bool, guardO_bool, guardO_skip, guardK_skip, ev_t, ev_c, mk_cons, put_some, put_none, qv_mv, qv_pick, qv_bin, qv_un, qv_conv, qv_nilCheck, qv_build, qv_field, qv_fieldAddr, qv_indexAddr, qv_indexStr, qv_extract, qv_len, qv_lenStr, qv_cap, qv_slice, qv_sliceStr, qv_maxmin, qv_makeFunc, qv_load, qv_rev, eff_alloc, eff_box, eff_buildSl, eff_store, aStore_ptr, eff_makeSl, aMake_int, eff_append, eff_copy, eff_call, eff_callV, aCallV_clo, abin_add, abin_sub, abin_mul, abin_quo, abin_rem, abin_eql, abin_neq, abin_lss, abin_leq, abin_gtr, abin_geq, abin_beql, abin_bneq, abin_nn, abin_sn, abin_ns, abin_nnx, abin_snx, abin_nsx, abin_str, aun_neg, aun_not, aPick_true, aPick_false, aConv_int, aNil_ptr, aNil_clo, aField_agg, aField_one, aFieldAddr_ptr, Int.toNat_natCast, rd1_new, rd_new, new_next, Nat.left_eq_add, Nat.add_eq_left, Nat.succ_ne_self, Nat.one_ne_zero, Nat.add_left_cancel_iff, Nat.add_assoc, List.getElem?_cons_zero, List.getElem?_cons_succ, List.take_succ_cons, List.take_zero, List.drop_succ_cons, List.drop_zero, List.take_nil, List.drop_nil, Nat.reduceLeDiff, Nat.le_refl, afill_nil, afill_cons, zeros_zero, zeros_one1, zeros_single, Nat.lt_add_one, Int.reduceEq, Int.reduceLT, Int.reduceLE, Int.reduceNeg, aExtract_tup, aLen_sl, aLen_nils, aLenStr_str, aMaxmin_int, ldv_one, ldv_agg, news_nil, news_cons, RecOK_nil, RecOK_none, RecOK_cons, recOf, wantedI, rvals_nil, rvals_tmp, rvals_cell, retQ_normal, retQ_ret, packR_one, packR_nil, packR_two, optK_some, optK_none, optK_bind, optK_map, List.map_cons, List.map_nil, Nat.reduceEqDiff, if_true, if_false, ite_true, ite_false, List.nil_append, List.cons_append, Option.map_some, Option.map_none, reduceCtorEq, decide_true, decide_false, Bool.not_true, Bool.not_false, cells_int, cells_bool, cells_str, cells_nilp, cells_ptr, cells_nils, cells_sl, cells_nilf, cells_clo, cells_agg, List.all_cons, List.all_nil, one_int, one_bool, one_str, one_nilp, one_ptr, one_nils, one_sl, one_nilf, one_clo, List.length_cons, List.length_nil, Bool.and_true, Bool.true_and, Bool.and_self, true_and, and_true, Bool.true_eq_false, Bool.false_eq_true, List.contains_cons, List.contains_nil, Bool.or_false, Bool.or_true, Bool.true_or, Bool.false_or, eq_self, Nat.reduceBEq, Nat.reduceAdd, Nat.mul_one, Nat.zero_add, Nat.add_zero, er]
    refine vc_loop (fun m vs h' => ∃ i : Nat, i ≤ xs.length ∧ m = xs.length - i ∧ vs = [.sl o 0 xs.length cap, .int .i64 (k + totL List.length (xs.take i)), .int .i64 i] ∧ Upd h (mkS mkI List.length k (rows.take i) (xs.take i)) h') xs.length ?_ ?_
    · exact ⟨0, by omega, by omega, by rw [List.take_zero, totL_nil]; exact (by (simp only [nm_eq, ↓reduceIte, vc_skip, vc_region, vc_draw, vc_seq, vc_cond, vc_block, vc_exit, vc_ret, RV_nil, RV_q, RV_e, DV_nil, DV_q, DV_e, gq_none, gq_some, ge_none, ge_some, condK_true, condK_false, condK_dec, condK_ndec, guardK_bool, guardO_bool, guardO_skip, guardK_skip, ev_t, ev_c, mk_cons, put_some, put_none, qv_mv, qv_pick, qv_bin, qv_un, qv_conv, qv_nilCheck, qv_build, qv_field, qv_fieldAddr, qv_indexAddr, qv_indexStr, qv_extract, qv_len, qv_lenStr, qv_cap, qv_slice, qv_sliceStr, qv_maxmin, qv_makeFunc, qv_load, qv_rev, eff_alloc, eff_box, eff_buildSl, eff_store, aStore_ptr, eff_makeSl, aMake_int, eff_append, eff_copy, eff_call, eff_callV, aCallV_clo, abin_add, abin_sub, abin_mul, abin_quo, abin_rem, abin_eql, abin_neq, abin_lss, abin_leq, abin_gtr, abin_geq, abin_beql, abin_bneq, abin_nn, abin_sn, abin_ns, abin_nnx, abin_snx, abin_nsx, abin_str, aun_neg, aun_not, aPick_true, aPick_false, aConv_int, aNil_ptr, aNil_clo, aField_agg, aField_one, aFieldAddr_ptr, Int.toNat_natCast, rd1_new, rd_new, new_next, Nat.left_eq_add, Nat.add_eq_left, Nat.succ_ne_self, Nat.one_ne_zero, Nat.add_left_cancel_iff, Nat.add_assoc, List.getElem?_cons_zero, List.getElem?_cons_succ, List.take_succ_cons, List.take_zero, List.drop_succ_cons, List.drop_zero, List.take_nil, List.drop_nil, Nat.reduceLeDiff, Nat.le_refl, afill_nil, afill_cons, zeros_zero, zeros_one1, zeros_single, Nat.lt_add_one, Int.reduceEq, Int.reduceLT, Int.reduceLE, Int.reduceNeg, aExtract_tup, aLen_sl, aLen_nils, aLenStr_str, aMaxmin_int, ldv_one, ldv_agg, news_nil, news_cons, RecOK_nil, RecOK_none, RecOK_cons, recOf, wantedI, rvals_nil, rvals_tmp, rvals_cell, retQ_normal, retQ_ret, packR_one, packR_nil, packR_two, optK_some, optK_none, optK_bind, optK_map, List.map_cons, List.map_nil, Nat.reduceEqDiff, if_true, if_false, ite_true, ite_false, List.nil_append, List.cons_append, Option.map_some, Option.map_none, reduceCtorEq, decide_true, decide_false, Bool.not_true, Bool.not_false, cells_int, cells_bool, cells_str, cells_nilp, cells_ptr, cells_nils, cells_sl, cells_nilf, cells_clo, cells_agg, List.all_cons, List.all_nil, one_int, one_bool, one_str, one_nilp, one_ptr, one_nils, one_sl, one_nilf, one_clo, List.length_cons, List.length_nil, Bool.and_true, Bool.true_and, Bool.and_self, true_and, and_true, Bool.true_eq_false, Bool.false_eq_true, List.contains_cons, List.contains_nil, Bool.or_false, Bool.or_true, Bool.true_or, Bool.false_or, eq_self, Nat.reduceBEq, Nat.reduceAdd, Nat.mul_one, Nat.zero_add, Nat.add_zero, List.cons.injEq, AV.int.injEq, AV.sl.injEq, and_self]) <;> omega), by simp only [List.take_zero, mkS_nil]; exact Upd.refl hw⟩
    · rintro m vs h' ⟨i, hi, rfl, rfl, u⟩
      simp only [nm_eq, ↓reduceIte, vc_skip, vc_region, vc_draw, vc_seq, vc_cond, vc_block, vc_exit, vc_ret, RV_nil, RV_q, RV_e, DV_nil, DV_q, DV_e, gq_none, gq_some, ge_none, ge_some, condK_true, condK_false, condK_dec, condK_ndec, guardK_bool, guardO_bool, guardO_skip, guardK_skip, ev_t, ev_c, mk_cons, put_some, put_none, qv_mv, qv_pick, qv_bin, qv_un, qv_conv, qv_nilCheck, qv_build, qv_field, qv_fieldAddr, qv_indexAddr, qv_indexStr, qv_extract, qv_len, qv_lenStr, qv_cap, qv_slice, qv_sliceStr, qv_maxmin, qv_makeFunc, qv_load, qv_rev, eff_alloc, eff_box, eff_buildSl, eff_store, aStore_ptr, eff_makeSl, aMake_int, eff_append, eff_copy, eff_call, eff_callV, aCallV_clo, abin_add, abin_sub, abin_mul, abin_quo, abin_rem, abin_eql, abin_neq, abin_lss, abin_leq, abin_gtr, abin_geq, abin_beql, abin_bneq, abin_nn, abin_sn, abin_ns, abin_nnx, abin_snx, abin_nsx, abin_str, aun_neg, aun_not, aPick_true, aPick_false, aConv_int, aNil_ptr, aNil_clo, aField_agg, aField_one, aFieldAddr_ptr, Int.toNat_natCast, rd1_new, rd_new, new_next, Nat.left_eq_add, Nat.add_eq_left, Nat.succ_ne_self, Nat.one_ne_zero, Nat.add_left_cancel_iff, Nat.add_assoc, List.getElem?_cons_zero, List.getElem?_cons_succ, List.take_succ_cons, List.take_zero, List.drop_succ_cons, List.drop_zero, List.take_nil, List.drop_nil, Nat.reduceLeDiff, Nat.le_refl, afill_nil, afill_cons, zeros_zero, zeros_one1, zeros_single, Nat.lt_add_one, Int.reduceEq, Int.reduceLT, Int.reduceLE, Int.reduceNeg, aExtract_tup, aLen_sl, aLen_nils, aLenStr_str, aMaxmin_int, ldv_one, ldv_agg, news_nil, news_cons, RecOK_nil, RecOK_none, RecOK_cons, recOf, wantedI, rvals_nil, rvals_tmp, rvals_cell, retQ_normal, retQ_ret, packR_one, packR_nil, packR_two, optK_some, optK_none, optK_bind, optK_map, List.map_cons, List.map_nil, Nat.reduceEqDiff, if_true, if_false, ite_true, ite_false, List.nil_append, List.cons_append, Option.map_some, Option.map_none, reduceCtorEq, decide_true, decide_false, Bool.not_true, Bool.not_false, cells_int, cells_bool, cells_str, cells_nilp, cells_ptr, cells_nils, cells_sl, cells_nilf, cells_clo, cells_agg, List.all_cons, List.all_nil, one_int, one_bool, one_str, one_nilp, one_ptr, one_nils, one_sl, one_nilf, one_clo, List.length_cons, List.length_nil, Bool.and_true, Bool.true_and, Bool.and_self, true_and, and_true, Bool.true_eq_false, Bool.false_eq_true, List.contains_cons, List.contains_nil, Bool.or_false, Bool.or_true, Bool.true_or, Bool.false_or, eq_self, Nat.reduceBEq, Nat.reduceAdd, Nat.mul_one, Nat.zero_add, Nat.add_zero]
      split
      · have hlt : i < xs.length := by omega
        obtain ⟨v, hv1, hv2, hv3, hv4, hv5, hv6⟩ := mkT_I.step hr hWs n2 hv.2 hlt u
        have hld : h'.rd1 o i = some (er idz v) := by
          rw [rd1_of_obj (by rw [u.same o hz (lookup_none.2 fun hm => n1 (eads_take (mkT_I.keysS (hr.take i) (Whs_iff.2 fun c hc => Whs_iff.1 hWs c (List.mem_of_mem_take hc)) o hm)))]; exact ho)]
          rw [ers_get, hv1]; rfl
        have ht := totL_snoc (len := List.length) hlt
        have htl := totL_le List.length xs (i + 1)
        have hbi := hb2 _ (List.getElem_mem hlt)
        simp only [nm_eq, ↓reduceIte, vc_skip, vc_region, vc_draw, vc_seq, vc_cond, vc_block, vc_exit, vc_ret, RV_nil, RV_q, RV_e, DV_nil, DV_q, DV_e, gq_none, gq_some, ge_none, ge_some, condK_true, condK_false, condK_dec, condK_ndec, guardK_bool, guardO_bool, guardO_skip, guardK_skip, ev_t, ev_c, mk_cons, put_some, put_none, qv_mv, qv_pick, qv_bin, qv_un, qv_conv, qv_nilCheck, qv_build, qv_field, qv_fieldAddr, qv_indexAddr, qv_indexStr, qv_extract, qv_len, qv_lenStr, qv_cap, qv_slice, qv_sliceStr, qv_maxmin, qv_makeFunc, qv_load, qv_rev, eff_alloc, eff_box, eff_buildSl, eff_store, aStore_ptr, eff_makeSl, aMake_int, eff_append, eff_copy, eff_call, eff_callV, aCallV_clo, abin_add, abin_sub, abin_mul, abin_quo, abin_rem, abin_eql, abin_neq, abin_lss, abin_leq, abin_gtr, abin_geq, abin_beql, abin_bneq, abin_nn, abin_sn, abin_ns, abin_nnx, abin_snx, abin_nsx, abin_str, aun_neg, aun_not, aPick_true, aPick_false, aConv_int, aNil_ptr, aNil_clo, aField_agg, aField_one, aFieldAddr_ptr, Int.toNat_natCast, rd1_new, rd_new, new_next, Nat.left_eq_add, Nat.add_eq_left, Nat.succ_ne_self, Nat.one_ne_zero, Nat.add_left_cancel_iff, Nat.add_assoc, List.getElem?_cons_zero, List.getElem?_cons_succ, List.take_succ_cons, List.take_zero, List.drop_succ_cons, List.drop_zero, List.take_nil, List.drop_nil, Nat.reduceLeDiff, Nat.le_refl, afill_nil, afill_cons, zeros_zero, zeros_one1, zeros_single, Nat.lt_add_one, Int.reduceEq, Int.reduceLT, Int.reduceLE, Int.reduceNeg, aExtract_tup, aLen_sl, aLen_nils, aLenStr_str, aMaxmin_int, ldv_one, ldv_agg, news_nil, news_cons, RecOK_nil, RecOK_none, RecOK_cons, recOf, wantedI, rvals_nil, rvals_tmp, rvals_cell, retQ_normal, retQ_ret, packR_one, packR_nil, packR_two, optK_some, optK_none, optK_bind, optK_map, List.map_cons, List.map_nil, Nat.reduceEqDiff, if_true, if_false, ite_true, ite_false, List.nil_append, List.cons_append, Option.map_some, Option.map_none, reduceCtorEq, decide_true, decide_false, Bool.not_true, Bool.not_false, cells_int, cells_bool, cells_str, cells_nilp, cells_ptr, cells_nils, cells_sl, cells_nilf, cells_clo, cells_agg, List.all_cons, List.all_nil, one_int, one_bool, one_str, one_nilp, one_ptr, one_nils, one_sl, one_nilf, one_clo, List.length_cons, List.length_nil, Bool.and_true, Bool.true_and, Bool.and_self, true_and, and_true, Bool.true_eq_false, Bool.false_eq_true, List.contains_cons, List.contains_nil, Bool.or_false, Bool.or_true, Bool.true_or, Bool.false_or, eq_self, Nat.reduceBEq, Nat.reduceAdd, Nat.mul_one, Nat.zero_add, Nat.add_zero, aIndex_nat hlt, hld, wrapS hlt (by omega : xs.length ≤ 4611686018427387904)]
        refine markInt64S_A hv2 hv3 u.wf hv5 hbi (by omega) (by omega) fun h'' u' => ?_
        simp only [nm_eq, ↓reduceIte, vc_skip, vc_region, vc_draw, vc_seq, vc_cond, vc_block, vc_exit, vc_ret, RV_nil, RV_q, RV_e, DV_nil, DV_q, DV_e, gq_none, gq_some, ge_none, ge_some, condK_true, condK_false, condK_dec, condK_ndec, guardK_bool, guardO_bool, guardO_skip, guardK_skip, ev_t, ev_c, mk_cons, put_some, put_none, qv_mv, qv_pick, qv_bin, qv_un, qv_conv, qv_nilCheck, qv_build, qv_field, qv_fieldAddr, qv_indexAddr, qv_indexStr, qv_extract, qv_len, qv_lenStr, qv_cap, qv_slice, qv_sliceStr, qv_maxmin, qv_makeFunc, qv_load, qv_rev, eff_alloc, eff_box, eff_buildSl, eff_store, aStore_ptr, eff_makeSl, aMake_int, eff_append, eff_copy, eff_call, eff_callV, aCallV_clo, abin_add, abin_sub, abin_mul, abin_quo, abin_rem, abin_eql, abin_neq, abin_lss, abin_leq, abin_gtr, abin_geq, abin_beql, abin_bneq, abin_nn, abin_sn, abin_ns, abin_nnx, abin_snx, abin_nsx, abin_str, aun_neg, aun_not, aPick_true, aPick_false, aConv_int, aNil_ptr, aNil_clo, aField_agg, aField_one, aFieldAddr_ptr, Int.toNat_natCast, rd1_new, rd_new, new_next, Nat.left_eq_add, Nat.add_eq_left, Nat.succ_ne_self, Nat.one_ne_zero, Nat.add_left_cancel_iff, Nat.add_assoc, List.getElem?_cons_zero, List.getElem?_cons_succ, List.take_succ_cons, List.take_zero, List.drop_succ_cons, List.drop_zero, List.take_nil, List.drop_nil, Nat.reduceLeDiff, Nat.le_refl, afill_nil, afill_cons, zeros_zero, zeros_one1, zeros_single, Nat.lt_add_one, Int.reduceEq, Int.reduceLT, Int.reduceLE, Int.reduceNeg, aExtract_tup, aLen_sl, aLen_nils, aLenStr_str, aMaxmin_int, ldv_one, ldv_agg, news_nil, news_cons, RecOK_nil, RecOK_none, RecOK_cons, recOf, wantedI, rvals_nil, rvals_tmp, rvals_cell, retQ_normal, retQ_ret, packR_one, packR_nil, packR_two, optK_some, optK_none, optK_bind, optK_map, List.map_cons, List.map_nil, Nat.reduceEqDiff, if_true, if_false, ite_true, ite_false, List.nil_append, List.cons_append, Option.map_some, Option.map_none, reduceCtorEq, decide_true, decide_false, Bool.not_true, Bool.not_false, cells_int, cells_bool, cells_str, cells_nilp, cells_ptr, cells_nils, cells_sl, cells_nilf, cells_clo, cells_agg, List.all_cons, List.all_nil, one_int, one_bool, one_str, one_nilp, one_ptr, one_nils, one_sl, one_nilf, one_clo, List.length_cons, List.length_nil, Bool.and_true, Bool.true_and, Bool.and_self, true_and, and_true, Bool.true_eq_false, Bool.false_eq_true, List.contains_cons, List.contains_nil, Bool.or_false, Bool.or_true, Bool.true_or, Bool.false_or, eq_self, Nat.reduceBEq, Nat.reduceAdd, Nat.mul_one, Nat.zero_add, Nat.add_zero, wrapS hlt (by omega : xs.length ≤ 4611686018427387904)]
        exact ⟨_, by omega, i + 1, by omega, rfl, (by (simp only [nm_eq, ↓reduceIte, vc_skip, vc_region, vc_draw, vc_seq, vc_cond, vc_block, vc_exit, vc_ret, RV_nil, RV_q, RV_e, DV_nil, DV_q, DV_e, gq_none, gq_some, ge_none, ge_some, condK_true, condK_false, condK_dec, condK_ndec, guardK_bool, guardO_bool, guardO_skip, guardK_skip, ev_t, ev_c, mk_cons, put_some, put_none, qv_mv, qv_pick, qv_bin, qv_un, qv_conv, qv_nilCheck, qv_build, qv_field, qv_fieldAddr, qv_indexAddr, qv_indexStr, qv_extract, qv_len, qv_lenStr, qv_cap, qv_slice, qv_sliceStr, qv_maxmin, qv_makeFunc, qv_load, qv_rev, eff_alloc, eff_box, eff_buildSl, eff_store, aStore_ptr, eff_makeSl, aMake_int, eff_append, eff_copy, eff_call, eff_callV, aCallV_clo, abin_add, abin_sub, abin_mul, abin_quo, abin_rem, abin_eql, abin_neq, abin_lss, abin_leq, abin_gtr, abin_geq, abin_beql, abin_bneq, abin_nn, abin_sn, abin_ns, abin_nnx, abin_snx, abin_nsx, abin_str, aun_neg, aun_not, aPick_true, aPick_false, aConv_int, aNil_ptr, aNil_clo, aField_agg, aField_one, aFieldAddr_ptr, Int.toNat_natCast, rd1_new, rd_new, new_next, Nat.left_eq_add, Nat.add_eq_left, Nat.succ_ne_self, Nat.one_ne_zero, Nat.add_left_cancel_iff, Nat.add_assoc, List.getElem?_cons_zero, List.getElem?_cons_succ, List.take_succ_cons, List.take_zero, List.drop_succ_cons, List.drop_zero, List.take_nil, List.drop_nil, Nat.reduceLeDiff, Nat.le_refl, afill_nil, afill_cons, zeros_zero, zeros_one1, zeros_single, Nat.lt_add_one, Int.reduceEq, Int.reduceLT, Int.reduceLE, Int.reduceNeg, aExtract_tup, aLen_sl, aLen_nils, aLenStr_str, aMaxmin_int, ldv_one, ldv_agg, news_nil, news_cons, RecOK_nil, RecOK_none, RecOK_cons, recOf, wantedI, rvals_nil, rvals_tmp, rvals_cell, retQ_normal, retQ_ret, packR_one, packR_nil, packR_two, optK_some, optK_none, optK_bind, optK_map, List.map_cons, List.map_nil, Nat.reduceEqDiff, if_true, if_false, ite_true, ite_false, List.nil_append, List.cons_append, Option.map_some, Option.map_none, reduceCtorEq, decide_true, decide_false, Bool.not_true, Bool.not_false, cells_int, cells_bool, cells_str, cells_nilp, cells_ptr, cells_nils, cells_sl, cells_nilf, cells_clo, cells_agg, List.all_cons, List.all_nil, one_int, one_bool, one_str, one_nilp, one_ptr, one_nils, one_sl, one_nilf, one_clo, List.length_cons, List.length_nil, Bool.and_true, Bool.true_and, Bool.and_self, true_and, and_true, Bool.true_eq_false, Bool.false_eq_true, List.contains_cons, List.contains_nil, Bool.or_false, Bool.or_true, Bool.true_or, Bool.false_or, eq_self, Nat.reduceBEq, Nat.reduceAdd, Nat.mul_one, Nat.zero_add, Nat.add_zero, List.cons.injEq, AV.int.injEq, AV.sl.injEq, and_self]) <;> omega), hv6 _ u'⟩
      · have hie : i = xs.length := by omega
        subst hie
        rw [List.take_length, List.take_of_length_le (by rw [hr.1]; exact Nat.le_refl _)] at u
        rw [List.take_length]
        exact hk _ u
theorem markInt64SSS_A {v : PV} {xs : List (List (List Int))} {k : Int} (hI : FIII v xs) (hW : Wh v) (hnd : (ead v).Nodup) (hw : HWF h) (hv : VOK (zlt h) h 0 v) (hb : xs.length ≤ 4294967296) (hb2 : ∀ x ∈ xs, x.length ≤ 4294967296 ∧ ∀ y ∈ x, y.length ≤ 4294967296) (hk0 : 0 ≤ k) (hk1 : k + totL (totL List.length) xs ≤ 4611686018427387904)
    (hk : ∀ h', Upd h (mkF (mkF mkI List.length) (totL List.length) k v xs) h' → K (.int .i64 (k + totL (totL List.length) xs)) h') : ACalls Try.prog 72 [er idz v, .int .i64 k] h K := by
  refine acalls_of_vc mix Try.func72 cf72 rfl ?_
  dsimp only [if72]
  obtain ⟨w, a, rows, rfl, hr⟩ := hI
  by_cases hne : rows = []
  · have hx := hr.nil_iff.1 hne
    subst hne
    subst hx
    have hlen : aLen a = some (.int .i64 ((0 : Nat) : Int)) := by
      obtain ⟨rfl, _⟩ | ⟨o, off, cap, rfl, _⟩ := hv.1 <;> rfl
    simp only [nm_eq, ↓reduceIte, vc_skip, vc_region, vc_draw, vc_seq, vc_cond, vc_block, vc_exit, vc_ret, RV_nil, RV_q, RV_e, DV_nil, DV_q, DV_e, gq_none, gq_some, ge_none, ge_some, condK_true, condK_false, condK_dec, condK_ndec, guardK_bool, guardO_bool, guardO_skip, guardK_skip, ev_t, ev_c, mk_cons, put_some, put_none, qv_mv, qv_pick, qv_bin, qv_un, qv_conv, qv_nilCheck, qv_build, qv_field, qv_fieldAddr, qv_indexAddr, qv_indexStr, qv_extract, qv_len, qv_lenStr, qv_cap, qv_slice, qv_sliceStr, qv_maxmin, qv_makeFunc, qv_load, qv_rev, eff_alloc, eff_box, eff_buildSl, eff_store, aStore_ptr, eff_makeSl, aMake_int, eff_append, eff_copy, eff_call, eff_callV, aCallV_clo, abin_add, abin_sub, abin_mul, abin_quo, abin_rem, abin_eql, abin_neq, abin_lss, abin_leq, abin_gtr, abin_geq, abin_beql, abin_bneq, abin_nn, abin_sn, abin_ns, abin_nnx, abin_snx, abin_nsx, abin_str, aun_neg, aun_not, aPick_true, aPick_false, aConv_int, aNil_ptr, aNil_clo, aField_agg, aField_one, aFieldAddr_ptr, Int.toNat_natCast, rd1_new, rd_new, new_next, Nat.left_eq_add, Nat.add_eq_left, Nat.succ_ne_self, Nat.one_ne_zero, Nat.add_left_cancel_iff, Nat.add_assoc, List.getElem?_cons_zero, List.getElem?_cons_succ, List.take_succ_cons, List.take_zero, List.drop_succ_cons, List.drop_zero, List.take_nil, List.drop_nil, Nat.reduceLeDiff, Nat.le_refl, afill_nil, afill_cons, zeros_zero, zeros_one1, zeros_single, Nat.lt_add_one, Int.reduceEq, Int.reduceLT, Int.reduceLE, Int.reduceNeg, aExtract_tup, aLen_sl, aLen_nils, aLenStr_str, aMaxmin_int, ldv_one, ldv_agg, news_nil, news_cons, RecOK_nil, RecOK_none, RecOK_cons, recOf, wantedI, rvals_nil, rvals_tmp, rvals_cell, retQ_normal, retQ_ret, packR_one, packR_nil, packR_two, optK_some, optK_none, optK_bind, optK_map, List.map_cons, List.map_nil, Nat.reduceEqDiff, if_true, if_false, ite_true, ite_false, List.nil_append, List.cons_append, Option.map_some, Option.map_none, reduceCtorEq, decide_true, decide_false, Bool.not_true, Bool.not_false, cells_int, cells_bool, cells_str, cells_nilp, cells_ptr, cells_nils, cells_sl, cells_nilf, cells_clo, cells_agg, List.all_cons, List.all_nil, one_int, one_bool, one_str, one_nilp, one_ptr, one_nils, one_sl, one_nilf, one_clo, List.length_cons, List.length_nil, Bool.and_true, Bool.true_and, Bool.and_self, true_and, and_true, Bool.true_eq_false, Bool.false_eq_true, List.contains_cons, List.contains_nil, Bool.or_false, Bool.or_true, Bool.true_or, Bool.false_or, eq_self, Nat.reduceBEq, Nat.reduceAdd, Nat.mul_one, Nat.zero_add, Nat.add_zero, er]
    refine vc_loop (fun m vs h' => vs = [a, .int .i64 k, .int .i64 0] ∧ h' = h) 0 ⟨rfl, rfl⟩ ?_
    rintro m vs h' ⟨rfl, rfl⟩
    simp only [nm_eq, ↓reduceIte, vc_skip, vc_region, vc_draw, vc_seq, vc_cond, vc_block, vc_exit, vc_ret, RV_nil, RV_q, RV_e, DV_nil, DV_q, DV_e, gq_none, gq_some, ge_none, ge_some, condK_true, condK_false, condK_dec, condK_ndec, guardK_bool, guardO_bool, guardO_skip, guardK_skip, ev_t, ev_c, mk_cons, put_some, put_none, qv_mv, qv_pick, qv_bin, qv_un, qv_conv, qv_nilCheck, qv_build, qv_field, qv_fieldAddr, qv_indexAddr, qv_indexStr, qv_extract, qv_len, qv_lenStr, qv_cap, qv_slice, qv_sliceStr, qv_maxmin, qv_makeFunc, qv_load, qv_rev, eff_alloc, eff_box, eff_buildSl, eff_store, aStore_ptr, eff_makeSl, aMake_int, eff_append, eff_copy, eff_call, eff_callV, aCallV_clo, abin_add, abin_sub, abin_mul, abin_quo, abin_rem, abin_eql, abin_neq, abin_lss, abin_leq, abin_gtr, abin_geq, abin_beql, abin_bneq, abin_nn, abin_sn, abin_ns, abin_nnx, abin_snx, abin_nsx, abin_str, aun_neg, aun_not, aPick_true, aPick_false, aConv_int, aNil_ptr, aNil_clo, aField_agg, aField_one, aFieldAddr_ptr, Int.toNat_natCast, rd1_new, rd_new, new_next, Nat.left_eq_add, Nat.add_eq_left, Nat.succ_ne_self, Nat.one_ne_zero, Nat.add_left_cancel_iff, Nat.add_assoc, List.getElem?_cons_zero, List.getElem?_cons_succ, List.take_succ_cons, List.take_zero, List.drop_succ_cons, List.drop_zero, List.take_nil, List.drop_nil, Nat.reduceLeDiff, Nat.le_refl, afill_nil, afill_cons, zeros_zero, zeros_one1, zeros_single, Nat.lt_add_one, Int.reduceEq, Int.reduceLT, Int.reduceLE, Int.reduceNeg, aExtract_tup, aLen_sl, aLen_nils, aLenStr_str, aMaxmin_int, ldv_one, ldv_agg, news_nil, news_cons, RecOK_nil, RecOK_none, RecOK_cons, recOf, wantedI, rvals_nil, rvals_tmp, rvals_cell, retQ_normal, retQ_ret, packR_one, packR_nil, packR_two, optK_some, optK_none, optK_bind, optK_map, List.map_cons, List.map_nil, Nat.reduceEqDiff, if_true, if_false, ite_true, ite_false, List.nil_append, List.cons_append, Option.map_some, Option.map_none, reduceCtorEq, decide_true, decide_false, Bool.not_true, Bool.not_false, cells_int, cells_bool, cells_str, cells_nilp, cells_ptr, cells_nils, cells_sl, cells_nilf, cells_clo, cells_agg, List.all_cons, List.all_nil, one_int, one_bool, one_str, one_nilp, one_ptr, one_nils, one_sl, one_nilf, one_clo, List.length_cons, List.length_nil, Bool.and_true, Bool.true_and, Bool.and_self, true_and, and_true, Bool.true_eq_false, Bool.false_eq_true, List.contains_cons, List.contains_nil, Bool.or_false, Bool.or_true, Bool.true_or, Bool.false_or, eq_self, Nat.reduceBEq, Nat.reduceAdd, Nat.mul_one, Nat.zero_add, Nat.add_zero, hlen, Int.lt_irrefl]
    have := hk h' (Upd.refl hw)
    simpa [totL] using this
  · obtain ⟨hwt, _, hWs⟩ := hW.resolve_left hne
    obtain ⟨o, cap, rfl, ho, hz⟩ := hv.whole hwt hne
    rw [ead_fz hne] at hnd
    obtain ⟨n1, n2⟩ := List.nodup_cons.1 hnd
    simp only [nm_eq, ↓reduceIte, vc_skip, vc_region, vc_draw, vc_seq, vc_cond, vc_block, vc_exit, vc_ret, RV_nil, RV_q, RV_e, DV_nil, DV_q, DV_e, gq_none, gq_some, ge_none, ge_some, condK_true, condK_false, condK_dec, condK_ndec, guardK_bool, guardO_bool, guardO_skip, guardK_skip, ev_t, ev_c, mk_cons, put_some, put_none, qv_mv, qv_pick, qv_bin, qv_un, qv_conv, qv_nilCheck, qv_build, qv_field, qv_fieldAddr, qv_indexAddr, qv_indexStr, qv_extract, qv_len, qv_lenStr, qv_cap, qv_slice, qv_sliceStr, qv_maxmin, qv_makeFunc, qv_load, qv_rev, eff_alloc, eff_box, eff_buildSl, eff_store, aStore_ptr, eff_makeSl, aMake_int, eff_append, eff_copy, eff_call, eff_callV, aCallV_clo, abin_add, abin_sub, abin_mul, abin_quo, abin_rem, abin_eql, abin_neq, abin_lss, abin_leq, abin_gtr, abin_geq, abin_beql, abin_bneq, abin_nn, abin_sn, abin_ns, abin_nnx, abin_snx, abin_nsx, abin_str, aun_neg, aun_not, aPick_true, aPick_false, aConv_int, aNil_ptr, aNil_clo, aField_agg, aField_one, aFieldAddr_ptr, Int.toNat_natCast, rd1_new, rd_new, new_next, Nat.left_eq_add, Nat.add_eq_left, Nat.succ_ne_self, Nat.one_ne_zero, Nat.add_left_cancel_iff, Nat.add_assoc, List.getElem?_cons_zero, List.getElem?_cons_succ, List.take_succ_cons, List.take_zero, List.drop_succ_cons, List.drop_zero, List.take_nil, List.drop_nil, Nat.reduceLeDiff, Nat.le_refl, afill_nil, afill_cons, zeros_zero, zeros_one1, zeros_single, Nat.lt_add_one, Int.reduceEq, Int.reduceLT, Int.reduceLE, Int.reduceNeg, aExtract_tup, aLen_sl, aLen_nils, aLenStr_str, aMaxmin_int, ldv_one, ldv_agg, news_nil, news_cons, RecOK_nil, RecOK_none, RecOK_cons, recOf, wantedI, rvals_nil, rvals_tmp, rvals_cell, retQ_normal, retQ_ret, packR_one, packR_nil, packR_two, optK_some, optK_none, optK_bind, optK_map, List.map_cons, List.map_nil, Nat.reduceEqDiff, if_true, if_false, ite_true, ite_false, List.nil_append, List.cons_append, Option.map_some, Option.map_none, reduceCtorEq, decide_true, decide_false, Bool.not_true, Bool.not_false, cells_int, cells_bool, cells_str, cells_nilp, cells_ptr, cells_nils, cells_sl, cells_nilf, cells_clo, cells_agg, List.all_cons, List.all_nil, one_int, one_bool, one_str, one_nilp, one_ptr, one_nils, one_sl, one_nilf, one_clo, List.length_cons, List.length_nil, Bool.and_true, Bool.true_and, Bool.and_self, true_and, and_true, Bool.true_eq_false, Bool.false_eq_true, List.contains_cons, List.contains_nil, Bool.or_false, Bool.or_true, Bool.true_or, Bool.false_or, eq_self, Nat.reduceBEq, Nat.reduceAdd, Nat.mul_one, Nat.zero_add, Nat.add_zero, er]
    refine vc_loop (fun m vs h' => ∃ i : Nat, i ≤ xs.length ∧ m = xs.length - i ∧ vs = [.sl o 0 xs.length cap, .int .i64 (k + totL (totL List.length) (xs.take i)), .int .i64 i] ∧ Upd h (mkS (mkF mkI List.length) (totL List.length) k (rows.take i) (xs.take i)) h') xs.length ?_ ?_
    · exact ⟨0, by omega, by omega, by rw [List.take_zero, totL_nil]; exact (by (simp only [nm_eq, ↓reduceIte, vc_skip, vc_region, vc_draw, vc_seq, vc_cond, vc_block, vc_exit, vc_ret, RV_nil, RV_q, RV_e, DV_nil, DV_q, DV_e, gq_none, gq_some, ge_none, ge_some, condK_true, condK_false, condK_dec, condK_ndec, guardK_bool, guardO_bool, guardO_skip, guardK_skip, ev_t, ev_c, mk_cons, put_some, put_none, qv_mv, qv_pick, qv_bin, qv_un, qv_conv, qv_nilCheck, qv_build, qv_field, qv_fieldAddr, qv_indexAddr, qv_indexStr, qv_extract, qv_len, qv_lenStr, qv_cap, qv_slice, qv_sliceStr, qv_maxmin, qv_makeFunc, qv_load, qv_rev, eff_alloc, eff_box, eff_buildSl, eff_store, aStore_ptr, eff_makeSl, aMake_int, eff_append, eff_copy, eff_call, eff_callV, aCallV_clo, abin_add, abin_sub, abin_mul, abin_quo, abin_rem, abin_eql, abin_neq, abin_lss, abin_leq, abin_gtr, abin_geq, abin_beql, abin_bneq, abin_nn, abin_sn, abin_ns, abin_nnx, abin_snx, abin_nsx, abin_str, aun_neg, aun_not, aPick_true, aPick_false, aConv_int, aNil_ptr, aNil_clo, aField_agg, aField_one, aFieldAddr_ptr, Int.toNat_natCast, rd1_new, rd_new, new_next, Nat.left_eq_add, Nat.add_eq_left, Nat.succ_ne_self, Nat.one_ne_zero, Nat.add_left_cancel_iff, Nat.add_assoc, List.getElem?_cons_zero, List.getElem?_cons_succ, List.take_succ_cons, List.take_zero, List.drop_succ_cons, List.drop_zero, List.take_nil, List.drop_nil, Nat.reduceLeDiff, Nat.le_refl, afill_nil, afill_cons, zeros_zero, zeros_one1, zeros_single, Nat.lt_add_one, Int.reduceEq, Int.reduceLT, Int.reduceLE, Int.reduceNeg, aExtract_tup, aLen_sl, aLen_nils, aLenStr_str, aMaxmin_int, ldv_one, ldv_agg, news_nil, news_cons, RecOK_nil, RecOK_none, RecOK_cons, recOf, wantedI, rvals_nil, rvals_tmp, rvals_cell, retQ_normal, retQ_ret, packR_one, packR_nil, packR_two, optK_some, optK_none, optK_bind, optK_map, List.map_cons, List.map_nil, Nat.reduceEqDiff, if_true, if_false, ite_true, ite_false, List.nil_append, List.cons_append, Option.map_some, Option.map_none, reduceCtorEq, decide_true, decide_false, Bool.not_true, Bool.not_false, cells_int, cells_bool, cells_str, cells_nilp, cells_ptr, cells_nils, cells_sl, cells_nilf, cells_clo, cells_agg, List.all_cons, List.all_nil, one_int, one_bool, one_str, one_nilp, one_ptr, one_nils, one_sl, one_nilf, one_clo, List.length_cons, List.length_nil, Bool.and_true, Bool.true_and, Bool.and_self, true_and, and_true, Bool.true_eq_false, Bool.false_eq_true, List.contains_cons, List.contains_nil, Bool.or_false, Bool.or_true, Bool.true_or, Bool.false_or, eq_self, Nat.reduceBEq, Nat.reduceAdd, Nat.mul_one, Nat.zero_add, Nat.add_zero, List.cons.injEq, AV.int.injEq, AV.sl.injEq, and_self]) <;> omega), by simp only [List.take_zero, mkS_nil]; exact Upd.refl hw⟩
    · rintro m vs h' ⟨i, hi, rfl, rfl, u⟩
      simp only [nm_eq, ↓reduceIte, vc_skip, vc_region, vc_draw, vc_seq, vc_cond, vc_block, vc_exit, vc_ret, RV_nil, RV_q, RV_e, DV_nil, DV_q, DV_e, gq_none, gq_some, ge_none, ge_some, condK_true, condK_false, condK_dec, condK_ndec, guardK_bool, guardO_bool, guardO_skip, guardK_skip, ev_t, ev_c, mk_cons, put_some, put_none, qv_mv, qv_pick, qv_bin, qv_un, qv_conv, qv_nilCheck, qv_build, qv_field, qv_fieldAddr, qv_indexAddr, qv_indexStr, qv_extract, qv_len, qv_lenStr, qv_cap, qv_slice, qv_sliceStr, qv_maxmin, qv_makeFunc, qv_load, qv_rev, eff_alloc, eff_box, eff_buildSl, eff_store, aStore_ptr, eff_makeSl, aMake_int, eff_append, eff_copy, eff_call, eff_callV, aCallV_clo, abin_add, abin_sub, abin_mul, abin_quo, abin_rem, abin_eql, abin_neq, abin_lss, abin_leq, abin_gtr, abin_geq, abin_beql, abin_bneq, abin_nn, abin_sn, abin_ns, abin_nnx, abin_snx, abin_nsx, abin_str, aun_neg, aun_not, aPick_true, aPick_false, aConv_int, aNil_ptr, aNil_clo, aField_agg, aField_one, aFieldAddr_ptr, Int.toNat_natCast, rd1_new, rd_new, new_next, Nat.left_eq_add, Nat.add_eq_left, Nat.succ_ne_self, Nat.one_ne_zero, Nat.add_left_cancel_iff, Nat.add_assoc, List.getElem?_cons_zero, List.getElem?_cons_succ, List.take_succ_cons, List.take_zero, List.drop_succ_cons, List.drop_zero, List.take_nil, List.drop_nil, Nat.reduceLeDiff, Nat.le_refl, afill_nil, afill_cons, zeros_zero, zeros_one1, zeros_single, Nat.lt_add_one, Int.reduceEq, Int.reduceLT, Int.reduceLE, Int.reduceNeg, aExtract_tup, aLen_sl, aLen_nils, aLenStr_str, aMaxmin_int, ldv_one, ldv_agg, news_nil, news_cons, RecOK_nil, RecOK_none, RecOK_cons, recOf, wantedI, rvals_nil, rvals_tmp, rvals_cell, retQ_normal, retQ_ret, packR_one, packR_nil, packR_two, optK_some, optK_none, optK_bind, optK_map, List.map_cons, List.map_nil, Nat.reduceEqDiff, if_true, if_false, ite_true, ite_false, List.nil_append, List.cons_append, Option.map_some, Option.map_none, reduceCtorEq, decide_true, decide_false, Bool.not_true, Bool.not_false, cells_int, cells_bool, cells_str, cells_nilp, cells_ptr, cells_nils, cells_sl, cells_nilf, cells_clo, cells_agg, List.all_cons, List.all_nil, one_int, one_bool, one_str, one_nilp, one_ptr, one_nils, one_sl, one_nilf, one_clo, List.length_cons, List.length_nil, Bool.and_true, Bool.true_and, Bool.and_self, true_and, and_true, Bool.true_eq_false, Bool.false_eq_true, List.contains_cons, List.contains_nil, Bool.or_false, Bool.or_true, Bool.true_or, Bool.false_or, eq_self, Nat.reduceBEq, Nat.reduceAdd, Nat.mul_one, Nat.zero_add, Nat.add_zero]
      split
      · have hlt : i < xs.length := by omega
        obtain ⟨v, hv1, hv2, hv3, hv4, hv5, hv6⟩ := mkT_I.F.step hr hWs n2 hv.2 hlt u
        have hld : h'.rd1 o i = some (er idz v) := by
          rw [rd1_of_obj (by rw [u.same o hz (lookup_none.2 fun hm => n1 (eads_take (mkT_I.F.keysS (hr.take i) (Whs_iff.2 fun c hc => Whs_iff.1 hWs c (List.mem_of_mem_take hc)) o hm)))]; exact ho)]
          rw [ers_get, hv1]; rfl
        have ht := totL_snoc (len := totL List.length) hlt
        have htl := totL_le (totL List.length) xs (i + 1)
        have hbi := hb2 _ (List.getElem_mem hlt)
        simp only [nm_eq, ↓reduceIte, vc_skip, vc_region, vc_draw, vc_seq, vc_cond, vc_block, vc_exit, vc_ret, RV_nil, RV_q, RV_e, DV_nil, DV_q, DV_e, gq_none, gq_some, ge_none, ge_some, condK_true, condK_false, condK_dec, condK_ndec, guardK_bool, guardO_bool, guardO_skip, guardK_skip, ev_t, ev_c, mk_cons, put_some, put_none, qv_mv, qv_pick, qv_bin, qv_un, qv_conv, qv_nilCheck, qv_build, qv_field, qv_fieldAddr, qv_indexAddr, qv_indexStr, qv_extract, qv_len, qv_lenStr, qv_cap, qv_slice, qv_sliceStr, qv_maxmin, qv_makeFunc, qv_load, qv_rev, eff_alloc, eff_box, eff_buildSl, eff_store, aStore_ptr, eff_makeSl, aMake_int, eff_append, eff_copy, eff_call, eff_callV, aCallV_clo, abin_add, abin_sub, abin_mul, abin_quo, abin_rem, abin_eql, abin_neq, abin_lss, abin_leq, abin_gtr, abin_geq, abin_beql, abin_bneq, abin_nn, abin_sn, abin_ns, abin_nnx, abin_snx, abin_nsx, abin_str, aun_neg, aun_not, aPick_true, aPick_false, aConv_int, aNil_ptr, aNil_clo, aField_agg, aField_one, aFieldAddr_ptr, Int.toNat_natCast, rd1_new, rd_new, new_next, Nat.left_eq_add, Nat.add_eq_left, Nat.succ_ne_self, Nat.one_ne_zero, Nat.add_left_cancel_iff, Nat.add_assoc, List.getElem?_cons_zero, List.getElem?_cons_succ, List.take_succ_cons, List.take_zero, List.drop_succ_cons, List.drop_zero, List.take_nil, List.drop_nil, Nat.reduceLeDiff, Nat.le_refl, afill_nil, afill_cons, zeros_zero, zeros_one1, zeros_single, Nat.lt_add_one, Int.reduceEq, Int.reduceLT, Int.reduceLE, Int.reduceNeg, aExtract_tup, aLen_sl, aLen_nils, aLenStr_str, aMaxmin_int, ldv_one, ldv_agg, news_nil, news_cons, RecOK_nil, RecOK_none, RecOK_cons, recOf, wantedI, rvals_nil, rvals_tmp, rvals_cell, retQ_normal, retQ_ret, packR_one, packR_nil, packR_two, optK_some, optK_none, optK_bind, optK_map, List.map_cons, List.map_nil, Nat.reduceEqDiff, if_true, if_false, ite_true, ite_false, List.nil_append, List.cons_append, Option.map_some, Option.map_none, reduceCtorEq, decide_true, decide_false, Bool.not_true, Bool.not_false, cells_int, cells_bool, cells_str, cells_nilp, cells_ptr, cells_nils, cells_sl, cells_nilf, cells_clo, cells_agg, List.all_cons, List.all_nil, one_int, one_bool, one_str, one_nilp, one_ptr, one_nils, one_sl, one_nilf, one_clo, List.length_cons, List.length_nil, Bool.and_true, Bool.true_and, Bool.and_self, true_and, and_true, Bool.true_eq_false, Bool.false_eq_true, List.contains_cons, List.contains_nil, Bool.or_false, Bool.or_true, Bool.true_or, Bool.false_or, eq_self, Nat.reduceBEq, Nat.reduceAdd, Nat.mul_one, Nat.zero_add, Nat.add_zero, aIndex_nat hlt, hld, wrapS hlt (by omega : xs.length ≤ 4611686018427387904)]
        refine markInt64SS_A hv2 hv3 hv4 u.wf hv5 hbi.1 hbi.2 (by omega) (by omega) fun h'' u' => ?_
        simp only [nm_eq, ↓reduceIte, vc_skip, vc_region, vc_draw, vc_seq, vc_cond, vc_block, vc_exit, vc_ret, RV_nil, RV_q, RV_e, DV_nil, DV_q, DV_e, gq_none, gq_some, ge_none, ge_some, condK_true, condK_false, condK_dec, condK_ndec, guardK_bool, guardO_bool, guardO_skip, guardK_skip, ev_t, ev_c, mk_cons, put_some, put_none, qv_mv, qv_pick, qv_bin, qv_un, qv_conv, qv_nilCheck, qv_build, qv_field, qv_fieldAddr, qv_indexAddr, qv_indexStr, qv_extract, qv_len, qv_lenStr, qv_cap, qv_slice, qv_sliceStr, qv_maxmin, qv_makeFunc, qv_load, qv_rev, eff_alloc, eff_box, eff_buildSl, eff_store, aStore_ptr, eff_makeSl, aMake_int, eff_append, eff_copy, eff_call, eff_callV, aCallV_clo, abin_add, abin_sub, abin_mul, abin_quo, abin_rem, abin_eql, abin_neq, abin_lss, abin_leq, abin_gtr, abin_geq, abin_beql, abin_bneq, abin_nn, abin_sn, abin_ns, abin_nnx, abin_snx, abin_nsx, abin_str, aun_neg, aun_not, aPick_true, aPick_false, aConv_int, aNil_ptr, aNil_clo, aField_agg, aField_one, aFieldAddr_ptr, Int.toNat_natCast, rd1_new, rd_new, new_next, Nat.left_eq_add, Nat.add_eq_left, Nat.succ_ne_self, Nat.one_ne_zero, Nat.add_left_cancel_iff, Nat.add_assoc, List.getElem?_cons_zero, List.getElem?_cons_succ, List.take_succ_cons, List.take_zero, List.drop_succ_cons, List.drop_zero, List.take_nil, List.drop_nil, Nat.reduceLeDiff, Nat.le_refl, afill_nil, afill_cons, zeros_zero, zeros_one1, zeros_single, Nat.lt_add_one, Int.reduceEq, Int.reduceLT, Int.reduceLE, Int.reduceNeg, aExtract_tup, aLen_sl, aLen_nils, aLenStr_str, aMaxmin_int, ldv_one, ldv_agg, news_nil, news_cons, RecOK_nil, RecOK_none, RecOK_cons, recOf, wantedI, rvals_nil, rvals_tmp, rvals_cell, retQ_normal, retQ_ret, packR_one, packR_nil, packR_two, optK_some, optK_none, optK_bind, optK_map, List.map_cons, List.map_nil, Nat.reduceEqDiff, if_true, if_false, ite_true, ite_false, List.nil_append, List.cons_append, Option.map_some, Option.map_none, reduceCtorEq, decide_true, decide_false, Bool.not_true, Bool.not_false, cells_int, cells_bool, cells_str, cells_nilp, cells_ptr, cells_nils, cells_sl, cells_nilf, cells_clo, cells_agg, List.all_cons, List.all_nil, one_int, one_bool, one_str, one_nilp, one_ptr, one_nils, one_sl, one_nilf, one_clo, List.length_cons, List.length_nil, Bool.and_true, Bool.true_and, Bool.and_self, true_and, and_true, Bool.true_eq_false, Bool.false_eq_true, List.contains_cons, List.contains_nil, Bool.or_false, Bool.or_true, Bool.true_or, Bool.false_or, eq_self, Nat.reduceBEq, Nat.reduceAdd, Nat.mul_one, Nat.zero_add, Nat.add_zero, wrapS hlt (by omega : xs.length ≤ 4611686018427387904)]
        exact ⟨_, by omega, i + 1, by omega, rfl, (by (simp only [nm_eq, ↓reduceIte, vc_skip, vc_region, vc_draw, vc_seq, vc_cond, vc_block, vc_exit, vc_ret, RV_nil, RV_q, RV_e, DV_nil, DV_q, DV_e, gq_none, gq_some, ge_none, ge_some, condK_true, condK_false, condK_dec, condK_ndec, guardK_bool, guardO_bool, guardO_skip, guardK_skip, ev_t, ev_c, mk_cons, put_some, put_none, qv_mv, qv_pick, qv_bin, qv_un, qv_conv, qv_nilCheck, qv_build, qv_field, qv_fieldAddr, qv_indexAddr, qv_indexStr, qv_extract, qv_len, qv_lenStr, qv_cap, qv_slice, qv_sliceStr, qv_maxmin, qv_makeFunc, qv_load, qv_rev, eff_alloc, eff_box, eff_buildSl, eff_store, aStore_ptr, eff_makeSl, aMake_int, eff_append, eff_copy, eff_call, eff_callV, aCallV_clo, abin_add, abin_sub, abin_mul, abin_quo, abin_rem, abin_eql, abin_neq, abin_lss, abin_leq, abin_gtr, abin_geq, abin_beql, abin_bneq, abin_nn, abin_sn, abin_ns, abin_nnx, abin_snx, abin_nsx, abin_str, aun_neg, aun_not, aPick_true, aPick_false, aConv_int, aNil_ptr, aNil_clo, aField_agg, aField_one, aFieldAddr_ptr, Int.toNat_natCast, rd1_new, rd_new, new_next, Nat.left_eq_add, Nat.add_eq_left, Nat.succ_ne_self, Nat.one_ne_zero, Nat.add_left_cancel_iff, Nat.add_assoc, List.getElem?_cons_zero, List.getElem?_cons_succ, List.take_succ_cons, List.take_zero, List.drop_succ_cons, List.drop_zero, List.take_nil, List.drop_nil, Nat.reduceLeDiff, Nat.le_refl, afill_nil, afill_cons, zeros_zero, zeros_one1, zeros_single, Nat.lt_add_one, Int.reduceEq, Int.reduceLT, Int.reduceLE, Int.reduceNeg, aExtract_tup, aLen_sl, aLen_nils, aLenStr_str, aMaxmin_int, ldv_one, ldv_agg, news_nil, news_cons, RecOK_nil, RecOK_none, RecOK_cons, recOf, wantedI, rvals_nil, rvals_tmp, rvals_cell, retQ_normal, retQ_ret, packR_one, packR_nil, packR_two, optK_some, optK_none, optK_bind, optK_map, List.map_cons, List.map_nil, Nat.reduceEqDiff, if_true, if_false, ite_true, ite_false, List.nil_append, List.cons_append, Option.map_some, Option.map_none, reduceCtorEq, decide_true, decide_false, Bool.not_true, Bool.not_false, cells_int, cells_bool, cells_str, cells_nilp, cells_ptr, cells_nils, cells_sl, cells_nilf, cells_clo, cells_agg, List.all_cons, List.all_nil, one_int, one_bool, one_str, one_nilp, one_ptr, one_nils, one_sl, one_nilf, one_clo, List.length_cons, List.length_nil, Bool.and_true, Bool.true_and, Bool.and_self, true_and, and_true, Bool.true_eq_false, Bool.false_eq_true, List.contains_cons, List.contains_nil, Bool.or_false, Bool.or_true, Bool.true_or, Bool.false_or, eq_self, Nat.reduceBEq, Nat.reduceAdd, Nat.mul_one, Nat.zero_add, Nat.add_zero, List.cons.injEq, AV.int.injEq, AV.sl.injEq, and_self]) <;> omega), hv6 _ u'⟩
      · have hie : i = xs.length := by omega
        subst hie
        rw [List.take_length, List.take_of_length_le (by rw [hr.1]; exact Nat.le_refl _)] at u
        rw [List.take_length]
        exact hk _ u
end
section
variable {σ : PHeap} {K : PV → PHeap → Prop} {p : Int} {W : List (List Int)} {B : List (List (List Int))} {vP vB : PV} {lo hi : Nat}
theorem keysI {v : PV} {xs : List Int} {k : Int} (hI : FI v xs) (ho : Own lo hi v) : ∀ o ∈ (mkI k v xs).map Prod.fst, lo ≤ o ∧ o < hi := fun o hm => ho.lt o (mkT_I.keys hI ho.wh o hm)
theorem keysII {v : PV} {xs : List (List Int)} {k : Int} (hI : FII v xs) (ho : Own lo hi v) : ∀ o ∈ (mkF mkI List.length k v xs).map Prod.fst, lo ≤ o ∧ o < hi := fun o hm => ho.lt o (mkT_I.F.keys hI ho.wh o hm)
theorem markInt64S_M {v : PV} {xs : List Int} {k : Int} (hI : FI v xs) (ho : Own lo hi v) (hb : xs.length ≤ 4294967296) (hk0 : 0 ≤ k) (hk1 : k ≤ 4611686018427387904) : MarkOK Try.prog 26 [v, .int .i64 k] σ (mkI k v xs) .i64 (k + xs.length) :=
  MarkOK.of (hI.bel 0) (mkT_I.keys hI ho.wh) fun h hw hv => markInt64S_A hI ho.wh hw hv hb hk0 hk1 fun h' u => ⟨rfl, u⟩
theorem heldInt64S_ok {v : PV} {xs : List Int} {k : Int} (hI : FI v (seqI k xs.length)) (hb : xs.length ≤ 4294967296) (hk0 : 0 ≤ k) (hk1 : k ≤ 4611686018427387904) (hk : K (.int .i64 (k + xs.length)) σ) : PCalls Try.prog 27 [v, .int .i64 k] σ K := by
  obtain ⟨w, a, rfl⟩ := hI
  have hl := seqI_length xs.length k
  have hg := seqI_get xs.length k
  generalize seqI k xs.length = ys at *
  refine pcalls_of_vp mix Try.func27 cf27 rfl ?_
  dsimp only [if27, qI, eI, nI, qD, eD]
  simp only [pwA, if_true, if_false, eq_self, nm_eq, reduceCtorEq, ↓reduceIte, Nat.reduceEqDiff, Nat.reduceLeDiff, Nat.reduceBEq, Nat.reduceAdd, Nat.reduceLT, Nat.reduceSub, Nat.reduceMul, Int.reduceEq, Int.reduceLT, Int.reduceLE, Int.reduceNeg, Int.reduceToNat, List.reduceReplicate, Int.ofNat_le, List.getElem?_drop]
  refine vp_loop (fun m vs h' => ∃ i : Nat, i ≤ ys.length ∧ m = ys.length - i ∧ vs = [.fz w a ys.length (pis ys), .int .i64 (k + (i : Int)), .int .i64 i] ∧ σ = h') ys.length ?_ ?_
  · exact ⟨0, by omega, by omega, by rw [show k + ((0 : Nat) : Int) = k by omega]; rfl, rfl⟩
  rintro m vs h' ⟨i, hi, rfl, rfl, rfl⟩
  simp only [pwA, if_true, if_false, eq_self, nm_eq, reduceCtorEq, ↓reduceIte, Nat.reduceEqDiff, Nat.reduceLeDiff, Nat.reduceBEq, Nat.reduceAdd, Nat.reduceLT, Nat.reduceSub, Nat.reduceMul, Int.reduceEq, Int.reduceLT, Int.reduceLE, Int.reduceNeg, Int.reduceToNat, List.reduceReplicate, Int.ofNat_le, List.getElem?_drop]
  refine iteI (fun hlt => ?_) fun hge => ?_
  · simp only [pwA, if_true, if_false, eq_self, nm_eq, reduceCtorEq, ↓reduceIte, Nat.reduceEqDiff, Nat.reduceLeDiff, Nat.reduceBEq, Nat.reduceAdd, Nat.reduceLT, Nat.reduceSub, Nat.reduceMul, Int.reduceEq, Int.reduceLT, Int.reduceLE, Int.reduceNeg, Int.reduceToNat, List.reduceReplicate, Int.ofNat_le, List.getElem?_drop, hlt, gi hlt, hg i hlt, pis_get, List.getElem?_drop, wrapS hlt (by omega : ys.length ≤ 4611686018427387904), wrap64 (n := k + (i : Int) + 1) (by omega) (by omega)]
    refine ⟨_, by omega, i + 1, by omega, rfl, ?_⟩
    have : k + (i : Int) + 1 = k + ((i + 1 : Nat) : Int) := by omega
    rw [this]
  · have hie : i = xs.length := by omega
    subst hie
    exact hk
theorem heldInt64SS_ok {v : PV} {xs : List (List Int)} {k : Int} (hI : FII v (sqL sqI List.length k xs)) (hb : xs.length ≤ 4294967296) (hb2 : ∀ x ∈ xs, x.length ≤ 4294967296) (hk0 : 0 ≤ k) (hk1 : k + totL List.length xs ≤ 4611686018427387904) (hk : K (.int .i64 (k + totL List.length xs)) σ) : PCalls Try.prog 44 [v, .int .i64 k] σ K := by
  obtain ⟨w, a, rows, rfl, hr⟩ := hI
  have hl := sqL_length sqI List.length xs k
  have hg : ∀ (i : Nat) (hi : i < xs.length) (h2 : i < (sqL sqI List.length k xs).length), (sqL sqI List.length k xs)[i] = sqI (k + totL List.length (xs.take i)) xs[i] := fun i hi _ => sqL_get sqI List.length xs k i hi
  generalize sqL sqI List.length k xs = ys at *
  refine pcalls_of_vp mix Try.func44 cf44 rfl ?_
  dsimp only [if44, qI, eI, nI, qD, eD]
  simp only [pwA, if_true, if_false, eq_self, nm_eq, reduceCtorEq, ↓reduceIte, Nat.reduceEqDiff, Nat.reduceLeDiff, Nat.reduceBEq, Nat.reduceAdd, Nat.reduceLT, Nat.reduceSub, Nat.reduceMul, Int.reduceEq, Int.reduceLT, Int.reduceLE, Int.reduceNeg, Int.reduceToNat, List.reduceReplicate, Int.ofNat_le, List.getElem?_drop]
  refine vp_loop (fun m vs h' => ∃ i : Nat, i ≤ ys.length ∧ m = ys.length - i ∧ vs = [.fz w a ys.length rows, .int .i64 (k + totL List.length (xs.take i)), .int .i64 i] ∧ σ = h') ys.length ?_ ?_
  · exact ⟨0, by omega, by omega, by rw [List.take_zero, totL_nil, show k + ((0 : Nat) : Int) = k by omega]; rfl, rfl⟩
  rintro m vs h' ⟨i, hi, rfl, rfl, rfl⟩
  simp only [pwA, if_true, if_false, eq_self, nm_eq, reduceCtorEq, ↓reduceIte, Nat.reduceEqDiff, Nat.reduceLeDiff, Nat.reduceBEq, Nat.reduceAdd, Nat.reduceLT, Nat.reduceSub, Nat.reduceMul, Int.reduceEq, Int.reduceLT, Int.reduceLE, Int.reduceNeg, Int.reduceToNat, List.reduceReplicate, Int.ofNat_le, List.getElem?_drop]
  refine iteI (fun hlt => ?_) fun hge => ?_
  · have hlx : i < xs.length := by omega
    obtain ⟨w4, a4, hrk⟩ := hr.rowI hlt
    have ht := totL_snoc (len := List.length) hlx
    have htl := totL_le List.length xs (i + 1)
    have hgi := hg i hlx hlt
    simp only [pwA, if_true, if_false, eq_self, nm_eq, reduceCtorEq, ↓reduceIte, Nat.reduceEqDiff, Nat.reduceLeDiff, Nat.reduceBEq, Nat.reduceAdd, Nat.reduceLT, Nat.reduceSub, Nat.reduceMul, Int.reduceEq, Int.reduceLT, Int.reduceLE, Int.reduceNeg, Int.reduceToNat, List.reduceReplicate, Int.ofNat_le, List.getElem?_drop, hlt, hrk, List.getElem?_drop]
    have hbi := hb2 _ (List.getElem_mem hlx)
    refine heldInt64S_ok (xs := xs[i]) ⟨w4, a4, by rw [hgi, sqI]⟩ hbi (by omega) (by omega) ?_
    have hn : ¬ (k + (totL List.length (xs.take i) : Int) + (xs[i].length : Int) < 0) := by omega
    simp only [pwA, if_true, if_false, eq_self, nm_eq, reduceCtorEq, ↓reduceIte, Nat.reduceEqDiff, Nat.reduceLeDiff, Nat.reduceBEq, Nat.reduceAdd, Nat.reduceLT, Nat.reduceSub, Nat.reduceMul, Int.reduceEq, Int.reduceLT, Int.reduceLE, Int.reduceNeg, Int.reduceToNat, List.reduceReplicate, Int.ofNat_le, List.getElem?_drop, hn, wrapS hlt (by omega : ys.length ≤ 4611686018427387904)]
    refine ⟨_, by omega, i + 1, by omega, rfl, ?_⟩
    have : k + (totL List.length (xs.take i) : Int) + (xs[i].length : Int) = k + (totL List.length (xs.take (i + 1)) : Int) := by omega
    rw [this]
  · have hie : i = xs.length := by omega
    subst hie
    rw [List.take_length]
    exact hk
theorem toInt64S_T {v : PV} {xs : List Int} (hI : FI v xs) (hb : xs.length ≤ 1048576) (hk : ∀ v t, FI v xs → Own σ.top t v → σ.top ≤ t → K v (σ.up t)) : PCalls Try.prog 21 [v] σ K :=
  PCalls.fzT (fun K' => toInt64S_ok hI hb) (pis_bel _ _) (Owns.pis _ _ _) fun o cap t h1 h2 => hk _ t ⟨_, _, rfl⟩ h1 h2
theorem toInt64SS_T {v : PV} {xs : List (List Int)} (hI : FII v xs) (sz : SzL xs) (hk : ∀ v t, FII v xs → Own σ.top t v → σ.top ≤ t → K v (σ.up t)) : PCalls Try.prog 47 [v] σ K := by
  obtain ⟨w, a, rs, rfl, hr⟩ := hI
  have hb := sz.l
  refine PCalls.gh ?_
  refine pcalls_of_vp mix Try.func47 cf47 rfl ?_
  dsimp only [if47, qI, eI, nI, qD, eD]
  simp only [pwA, if_true, if_false, eq_self, nm_eq, reduceCtorEq, ↓reduceIte, Nat.reduceEqDiff, Nat.reduceLeDiff, Nat.reduceBEq, Nat.reduceAdd, Nat.reduceLT, Nat.reduceSub, Nat.reduceMul, Int.reduceEq, Int.reduceLT, Int.reduceLE, Int.reduceNeg, Int.reduceToNat, List.reduceReplicate, Int.ofNat_le, List.getElem?_drop, mk24 (n := xs.length) (by omega), mkL (n := xs.length) (by omega)]
  refine vp_loop (fun m vs h' => ∃ i : Nat, i ≤ xs.length ∧ m = xs.length - i ∧ vs = [.fz w a xs.length rs, .sl σ.next 0 xs.length (.known xs.length), .int .i64 i] ∧ ∃ rows t, rows.length = i ∧ All2 FI rows (xs.take i) ∧ Owns σ.top t rows ∧ σ.top ≤ t ∧ h' = (σ.new (rows ++ List.replicate (xs.length - i) (.fz true .nils 0 []))).up t) xs.length ?_ ?_
  · exact ⟨0, by omega, by omega, rfl, [], σ.top, rfl, by simpa using All2.nil _, Owns.nil _ _, Nat.le_refl _, by simp [PHeap.up, PHeap.new]⟩
  rintro m vs h' ⟨i, hi, rfl, rfl, rows, t, hrl, hra, hro, htt, rfl⟩
  simp only [pwA, if_true, if_false, eq_self, nm_eq, reduceCtorEq, ↓reduceIte, Nat.reduceEqDiff, Nat.reduceLeDiff, Nat.reduceBEq, Nat.reduceAdd, Nat.reduceLT, Nat.reduceSub, Nat.reduceMul, Int.reduceEq, Int.reduceLT, Int.reduceLE, Int.reduceNeg, Int.reduceToNat, List.reduceReplicate, Int.ofNat_le, List.getElem?_drop]
  refine iteI (fun hlt => ?_) fun hge => ?_
  · obtain ⟨w4, a4, hrk⟩ := hr.rowI hlt
    simp only [pwA, if_true, if_false, eq_self, nm_eq, reduceCtorEq, ↓reduceIte, Nat.reduceEqDiff, Nat.reduceLeDiff, Nat.reduceBEq, Nat.reduceAdd, Nat.reduceLT, Nat.reduceSub, Nat.reduceMul, Int.reduceEq, Int.reduceLT, Int.reduceLE, Int.reduceNeg, Int.reduceToNat, List.reduceReplicate, Int.ofNat_le, List.getElem?_drop, hlt, hrk, List.getElem?_drop]
    refine toInt64S_T ⟨_, _, rfl⟩ (sz.r _ (List.getElem_mem hlt)) fun r t2 hr' ho' ht' => ?_
    have hlen : i + 1 ≤ (rows ++ List.replicate (xs.length - i) (PV.fz true .nils 0 [])).length := by simp; omega
    simp only [pwA, if_true, if_false, eq_self, nm_eq, reduceCtorEq, ↓reduceIte, Nat.reduceEqDiff, Nat.reduceLeDiff, Nat.reduceBEq, Nat.reduceAdd, Nat.reduceLT, Nat.reduceSub, Nat.reduceMul, Int.reduceEq, Int.reduceLT, Int.reduceLE, Int.reduceNeg, Int.reduceToNat, List.reduceReplicate, Int.ofNat_le, List.getElem?_drop, hlt, hlen, hr'.cells, hr'.one, wrapS hlt (by omega : xs.length ≤ 4611686018427387904)]
    refine ⟨_, by omega, i + 1, by omega, rfl, rfl, rows ++ [r], t2, by simp [hrl], ?_, hro.snoc ho' htt ht', Nat.le_trans htt ht', ?_⟩
    · rw [List.take_succ_eq_append_getElem hlt]; exact hra.snoc hr'
    · rw [rows_set hrl hlt]; rfl
  · have hie : i = xs.length := by omega
    subst hie
    rw [List.take_length] at hra
    rw [Nat.sub_self, List.replicate_zero, List.append_nil]
    exact Gh.own ((keep_new σ _).up htt) (by simp only [pwA, if_true, if_false, eq_self, nm_eq, reduceCtorEq, ↓reduceIte, Nat.reduceEqDiff, Nat.reduceLeDiff, Nat.reduceBEq, Nat.reduceAdd, Nat.reduceLT, Nat.reduceSub, Nat.reduceMul, Int.reduceEq, Int.reduceLT, Int.reduceLE, Int.reduceNeg, Int.reduceToNat, List.reduceReplicate, Int.ofNat_le, List.getElem?_drop]) (Nat.le_refl _) (hra.bI 0) (by simp [capOK]) hro fun o t h1 h2 => hk _ t ⟨_, _, _, rfl, hra⟩ h1 h2
theorem toInt64SSS_T {v : PV} {xs : List (List (List Int))} (hI : FIII v xs) (sz : SzM xs) (hk : ∀ v t, FIII v xs → Own σ.top t v → σ.top ≤ t → K v (σ.up t)) : PCalls Try.prog 60 [v] σ K := by
  obtain ⟨w, a, rs, rfl, hr⟩ := hI
  have hb := sz.l
  refine PCalls.gh ?_
  refine pcalls_of_vp mix Try.func60 cf60 rfl ?_
  dsimp only [if60, qI, eI, nI, qD, eD]
  simp only [pwA, if_true, if_false, eq_self, nm_eq, reduceCtorEq, ↓reduceIte, Nat.reduceEqDiff, Nat.reduceLeDiff, Nat.reduceBEq, Nat.reduceAdd, Nat.reduceLT, Nat.reduceSub, Nat.reduceMul, Int.reduceEq, Int.reduceLT, Int.reduceLE, Int.reduceNeg, Int.reduceToNat, List.reduceReplicate, Int.ofNat_le, List.getElem?_drop, mk24 (n := xs.length) (by omega), mkL (n := xs.length) (by omega)]
  refine vp_loop (fun m vs h' => ∃ i : Nat, i ≤ xs.length ∧ m = xs.length - i ∧ vs = [.fz w a xs.length rs, .sl σ.next 0 xs.length (.known xs.length), .int .i64 i] ∧ ∃ rows t, rows.length = i ∧ All2 FII rows (xs.take i) ∧ Owns σ.top t rows ∧ σ.top ≤ t ∧ h' = (σ.new (rows ++ List.replicate (xs.length - i) (.fz true .nils 0 []))).up t) xs.length ?_ ?_
  · exact ⟨0, by omega, by omega, rfl, [], σ.top, rfl, by simpa using All2.nil _, Owns.nil _ _, Nat.le_refl _, by simp [PHeap.up, PHeap.new]⟩
  rintro m vs h' ⟨i, hi, rfl, rfl, rows, t, hrl, hra, hro, htt, rfl⟩
  simp only [pwA, if_true, if_false, eq_self, nm_eq, reduceCtorEq, ↓reduceIte, Nat.reduceEqDiff, Nat.reduceLeDiff, Nat.reduceBEq, Nat.reduceAdd, Nat.reduceLT, Nat.reduceSub, Nat.reduceMul, Int.reduceEq, Int.reduceLT, Int.reduceLE, Int.reduceNeg, Int.reduceToNat, List.reduceReplicate, Int.ofNat_le, List.getElem?_drop]
  refine iteI (fun hlt => ?_) fun hge => ?_
  · obtain ⟨w4, a4, rk, hrk, hrs⟩ := hr.rowL hlt
    simp only [pwA, if_true, if_false, eq_self, nm_eq, reduceCtorEq, ↓reduceIte, Nat.reduceEqDiff, Nat.reduceLeDiff, Nat.reduceBEq, Nat.reduceAdd, Nat.reduceLT, Nat.reduceSub, Nat.reduceMul, Int.reduceEq, Int.reduceLT, Int.reduceLE, Int.reduceNeg, Int.reduceToNat, List.reduceReplicate, Int.ofNat_le, List.getElem?_drop, hlt, hrk, List.getElem?_drop]
    refine toInt64SS_T ⟨_, _, _, rfl, hrs⟩ (sz.r _ (List.getElem_mem hlt)) fun r t2 hr' ho' ht' => ?_
    have hlen : i + 1 ≤ (rows ++ List.replicate (xs.length - i) (PV.fz true .nils 0 [])).length := by simp; omega
    simp only [pwA, if_true, if_false, eq_self, nm_eq, reduceCtorEq, ↓reduceIte, Nat.reduceEqDiff, Nat.reduceLeDiff, Nat.reduceBEq, Nat.reduceAdd, Nat.reduceLT, Nat.reduceSub, Nat.reduceMul, Int.reduceEq, Int.reduceLT, Int.reduceLE, Int.reduceNeg, Int.reduceToNat, List.reduceReplicate, Int.ofNat_le, List.getElem?_drop, hlt, hlen, hr'.cells, hr'.one, wrapS hlt (by omega : xs.length ≤ 4611686018427387904)]
    refine ⟨_, by omega, i + 1, by omega, rfl, rfl, rows ++ [r], t2, by simp [hrl], ?_, hro.snoc ho' htt ht', Nat.le_trans htt ht', ?_⟩
    · rw [List.take_succ_eq_append_getElem hlt]; exact hra.snoc hr'
    · rw [rows_set hrl hlt]; rfl
  · have hie : i = xs.length := by omega
    subst hie
    rw [List.take_length] at hra
    rw [Nat.sub_self, List.replicate_zero, List.append_nil]
    exact Gh.own ((keep_new σ _).up htt) (by simp only [pwA, if_true, if_false, eq_self, nm_eq, reduceCtorEq, ↓reduceIte, Nat.reduceEqDiff, Nat.reduceLeDiff, Nat.reduceBEq, Nat.reduceAdd, Nat.reduceLT, Nat.reduceSub, Nat.reduceMul, Int.reduceEq, Int.reduceLT, Int.reduceLE, Int.reduceNeg, Int.reduceToNat, List.reduceReplicate, Int.ofNat_le, List.getElem?_drop]) (Nat.le_refl _) (hra.bL 0) (by simp [capOK]) hro fun o t h1 h2 => hk _ t ⟨_, _, _, rfl, hra⟩ h1 h2
end
end Go.Proofs
set_option linter.unusedSimpArgs false
set_option linter.unusedVariables false
namespace Go.Proofs
open Go.Ab Go.Lie Go.Grp Go.Mx
section
variable {h : AHeap} {K : AV → AHeap → Prop}
/-- What marking a presentation writes. -/
def mkPr (k : Int) (vO vP vC : PV) (O : List Int) (P : List (List Int)) (C : List (List (List Int))) : List (Nat × List PV) :=
  mkI k vO O ++ (mkF mkI List.length (k + O.length) vP P ++ mkF (mkF mkI List.length) (totL List.length) (k + O.length + totL List.length P) vC C)
def totP (O : List Int) (P : List (List Int)) (C : List (List (List Int))) : Nat := O.length + totL List.length P + totL (totL List.length) C
theorem markPresentation_A {k : Int} {vO vP vC : PV} {O : List Int} {P : List (List Int)} {C : List (List (List Int))} (hR : IsPr vO vP vC O P C) (hW : Wh (.agg [vO, vP, vC])) (hnd : (ead (.agg [vO, vP, vC])).Nodup) (hw : HWF h) (hv : VOK (zlt h) h 0 (.agg [vO, vP, vC])) (sz : SzP O P C) (hk0 : 0 ≤ k) (hk1 : k + totP O P C ≤ 4611686018427387904)
    (hk : ∀ h', Upd h (mkPr k vO vP vC O P C) h' → K (.int .i64 (k + totP O P C)) h') : ACalls Try.prog 24 [er idz (.agg [vO, vP, vC]), .int .i64 k] h K := by
  refine acalls_of_vc mix Try.func24 cf24 rfl ?_
  dsimp only [if24]
  simp only [er, ers]
  unfold totP at hk hk1
  obtain ⟨hvO, hvP, hvC, _⟩ := hv
  obtain ⟨wO, wP, wC, _⟩ := hW
  have oO : (er idz vO).one = true := by rw [er_one hvO]; exact hR.O.one
  have oP : (er idz vP).one = true := by rw [er_one hvP]; exact hR.P.one
  have oC : (er idz vC).one = true := by rw [er_one hvC]; exact hR.C.one
  have cO := cells_of_one oO
  have cP := cells_of_one oP
  have cC := cells_of_one oC
  simp only [ead, eads, List.nil_append, List.append_nil, List.nodup_append] at hnd
  obtain ⟨dO, ⟨dP, dC, dd⟩, dd0⟩ := hnd
  obtain ⟨hh, he, hx1, hn, qq⟩ := box1 hw [er idz vO, er idz vP, er idz vC]
  have hzz : ∀ o, zlt h o → zlt hh o ∧ hh.obj o = h.obj o := fun o ho => ⟨Nat.lt_of_lt_of_le ho hx1.next, hx1.obj o ho⟩
  have q := qq _ (Ext.refl hx1.wf)
  have kO := mkT_I.keys (k := k) hR.O wO
  have kP := (mkT_I.F).keys (k := k + O.length) hR.P wP
  have kC := (mkT_I.F.F).keys (k := k + O.length + totL List.length P) hR.C wC
  have szO := sz.O
  simp only [nm_eq, ↓reduceIte, vc_skip, vc_region, vc_draw, vc_seq, vc_cond, vc_block, vc_exit, vc_ret, RV_nil, RV_q, RV_e, DV_nil, DV_q, DV_e, gq_none, gq_some, ge_none, ge_some, condK_true, condK_false, condK_dec, condK_ndec, guardK_bool, guardO_bool, guardO_skip, guardK_skip, ev_t, ev_c, mk_cons, put_some, put_none, qv_mv, qv_pick, qv_bin, qv_un, qv_conv, qv_nilCheck, qv_build, qv_field, qv_fieldAddr, qv_indexAddr, qv_indexStr, qv_extract, qv_len, qv_lenStr, qv_cap, qv_slice, qv_sliceStr, qv_maxmin, qv_makeFunc, qv_load, qv_rev, eff_alloc, eff_box, eff_buildSl, eff_store, aStore_ptr, eff_makeSl, aMake_int, eff_append, eff_copy, eff_call, eff_callV, aCallV_clo, abin_add, abin_sub, abin_mul, abin_quo, abin_rem, abin_eql, abin_neq, abin_lss, abin_leq, abin_gtr, abin_geq, abin_beql, abin_bneq, abin_nn, abin_sn, abin_ns, abin_nnx, abin_snx, abin_nsx, abin_str, aun_neg, aun_not, aPick_true, aPick_false, aConv_int, aNil_ptr, aNil_clo, aField_agg, aField_one, aFieldAddr_ptr, Int.toNat_natCast, rd1_new, rd_new, new_next, Nat.left_eq_add, Nat.add_eq_left, Nat.succ_ne_self, Nat.one_ne_zero, Nat.add_left_cancel_iff, Nat.add_assoc, List.getElem?_cons_zero, List.getElem?_cons_succ, List.take_succ_cons, List.take_zero, List.drop_succ_cons, List.drop_zero, List.take_nil, List.drop_nil, Nat.reduceLeDiff, Nat.le_refl, afill_nil, afill_cons, zeros_zero, zeros_one1, zeros_single, Nat.lt_add_one, Int.reduceEq, Int.reduceLT, Int.reduceLE, Int.reduceNeg, aExtract_tup, aLen_sl, aLen_nils, aLenStr_str, aMaxmin_int, ldv_one, ldv_agg, news_nil, news_cons, RecOK_nil, RecOK_none, RecOK_cons, recOf, wantedI, rvals_nil, rvals_tmp, rvals_cell, retQ_normal, retQ_ret, packR_one, packR_nil, packR_two, optK_some, optK_none, optK_bind, optK_map, List.map_cons, List.map_nil, Nat.reduceEqDiff, if_true, if_false, ite_true, ite_false, List.nil_append, List.cons_append, Option.map_some, Option.map_none, reduceCtorEq, decide_true, decide_false, Bool.not_true, Bool.not_false, cells_int, cells_bool, cells_str, cells_nilp, cells_ptr, cells_nils, cells_sl, cells_nilf, cells_clo, cells_agg, List.all_cons, List.all_nil, one_int, one_bool, one_str, one_nilp, one_ptr, one_nils, one_sl, one_nilf, one_clo, List.length_cons, List.length_nil, Bool.and_true, Bool.true_and, Bool.and_self, true_and, and_true, Bool.true_eq_false, Bool.false_eq_true, List.contains_cons, List.contains_nil, Bool.or_false, Bool.or_true, Bool.true_or, Bool.false_or, eq_self, Nat.reduceBEq, Nat.reduceAdd, Nat.mul_one, Nat.zero_add, Nat.add_zero, he, oO, oP, oC, cO, cP, cC, rd1_of_obj q]
  refine markInt64S_A hR.O wO hx1.wf (hvO.mono hzz (Nat.le_refl _)) (by omega) hk0 (by omega) fun h1 u1 => ?_
  have qB : h1.obj h.next = some ⟨true, [er idz vO, er idz vP, er idz vC]⟩ := by
    rw [u1.same _ (by omega) (lookup_none.2 fun hm => by have : h.next < h.next := ead_z hvO _ (kO _ hm); omega)]; exact q
  have mv : ∀ {v : PV}, VOK (zlt hh) hh 0 v → (∀ o ∈ ead v, o ∉ (mkI k vO O).map Prod.fst) → VOK (zlt h1) h1 0 v := fun {v} hv' hno => by
    have h2 := rm_vok u1 (fun o ho => ho) hv'
    rw [rm_out fun o ho hm => hno o hm ho] at h2
    exact h2.mono (fun o ho => ⟨Nat.lt_of_lt_of_le ho u1.next, rfl⟩) (Nat.le_refl _)
  have hvP1 := mv (hvP.mono hzz (Nat.le_refl _)) fun o ho hm => dd0 o (kO o hm) o (List.mem_append.2 (.inl ho)) rfl
  have hvC1 := mv (hvC.mono hzz (Nat.le_refl _)) fun o ho hm => dd0 o (kO o hm) o (List.mem_append.2 (.inr ho)) rfl
  have hneg0 : ¬ (k + (O.length : Int) < 0) := by omega
  simp only [nm_eq, ↓reduceIte, vc_skip, vc_region, vc_draw, vc_seq, vc_cond, vc_block, vc_exit, vc_ret, RV_nil, RV_q, RV_e, DV_nil, DV_q, DV_e, gq_none, gq_some, ge_none, ge_some, condK_true, condK_false, condK_dec, condK_ndec, guardK_bool, guardO_bool, guardO_skip, guardK_skip, ev_t, ev_c, mk_cons, put_some, put_none, qv_mv, qv_pick, qv_bin, qv_un, qv_conv, qv_nilCheck, qv_build, qv_field, qv_fieldAddr, qv_indexAddr, qv_indexStr, qv_extract, qv_len, qv_lenStr, qv_cap, qv_slice, qv_sliceStr, qv_maxmin, qv_makeFunc, qv_load, qv_rev, eff_alloc, eff_box, eff_buildSl, eff_store, aStore_ptr, eff_makeSl, aMake_int, eff_append, eff_copy, eff_call, eff_callV, aCallV_clo, abin_add, abin_sub, abin_mul, abin_quo, abin_rem, abin_eql, abin_neq, abin_lss, abin_leq, abin_gtr, abin_geq, abin_beql, abin_bneq, abin_nn, abin_sn, abin_ns, abin_nnx, abin_snx, abin_nsx, abin_str, aun_neg, aun_not, aPick_true, aPick_false, aConv_int, aNil_ptr, aNil_clo, aField_agg, aField_one, aFieldAddr_ptr, Int.toNat_natCast, rd1_new, rd_new, new_next, Nat.left_eq_add, Nat.add_eq_left, Nat.succ_ne_self, Nat.one_ne_zero, Nat.add_left_cancel_iff, Nat.add_assoc, List.getElem?_cons_zero, List.getElem?_cons_succ, List.take_succ_cons, List.take_zero, List.drop_succ_cons, List.drop_zero, List.take_nil, List.drop_nil, Nat.reduceLeDiff, Nat.le_refl, afill_nil, afill_cons, zeros_zero, zeros_one1, zeros_single, Nat.lt_add_one, Int.reduceEq, Int.reduceLT, Int.reduceLE, Int.reduceNeg, aExtract_tup, aLen_sl, aLen_nils, aLenStr_str, aMaxmin_int, ldv_one, ldv_agg, news_nil, news_cons, RecOK_nil, RecOK_none, RecOK_cons, recOf, wantedI, rvals_nil, rvals_tmp, rvals_cell, retQ_normal, retQ_ret, packR_one, packR_nil, packR_two, optK_some, optK_none, optK_bind, optK_map, List.map_cons, List.map_nil, Nat.reduceEqDiff, if_true, if_false, ite_true, ite_false, List.nil_append, List.cons_append, Option.map_some, Option.map_none, reduceCtorEq, decide_true, decide_false, Bool.not_true, Bool.not_false, cells_int, cells_bool, cells_str, cells_nilp, cells_ptr, cells_nils, cells_sl, cells_nilf, cells_clo, cells_agg, List.all_cons, List.all_nil, one_int, one_bool, one_str, one_nilp, one_ptr, one_nils, one_sl, one_nilf, one_clo, List.length_cons, List.length_nil, Bool.and_true, Bool.true_and, Bool.and_self, true_and, and_true, Bool.true_eq_false, Bool.false_eq_true, List.contains_cons, List.contains_nil, Bool.or_false, Bool.or_true, Bool.true_or, Bool.false_or, eq_self, Nat.reduceBEq, Nat.reduceAdd, Nat.mul_one, Nat.zero_add, Nat.add_zero, rd1_of_obj qB, hneg0]
  refine markInt64SS_A hR.P wP dP u1.wf hvP1 (by have := sz.P.l; omega) (fun x hx => by have := sz.P.r x hx; omega) (by omega) (by omega) fun h2 u2 => ?_
  have qC : h2.obj h.next = some ⟨true, [er idz vO, er idz vP, er idz vC]⟩ := by
    rw [u2.same _ (by have := u1.next; omega) (lookup_none.2 fun hm => by have : h.next < h.next := ead_z hvP _ (kP _ hm); omega)]; exact qB
  have hvC2 : VOK (zlt h2) h2 0 vC := by
    have h3 := rm_vok u2 (fun o ho => ho) hvC1
    rw [rm_out fun o ho hm => dd o (kP o ho) o hm rfl] at h3
    exact h3.mono (fun o ho => ⟨Nat.lt_of_lt_of_le ho u2.next, rfl⟩) (Nat.le_refl _)
  have hneg : ¬ (k + (O.length : Int) + (totL List.length P : Int) < 0) := by omega
  simp only [nm_eq, ↓reduceIte, vc_skip, vc_region, vc_draw, vc_seq, vc_cond, vc_block, vc_exit, vc_ret, RV_nil, RV_q, RV_e, DV_nil, DV_q, DV_e, gq_none, gq_some, ge_none, ge_some, condK_true, condK_false, condK_dec, condK_ndec, guardK_bool, guardO_bool, guardO_skip, guardK_skip, ev_t, ev_c, mk_cons, put_some, put_none, qv_mv, qv_pick, qv_bin, qv_un, qv_conv, qv_nilCheck, qv_build, qv_field, qv_fieldAddr, qv_indexAddr, qv_indexStr, qv_extract, qv_len, qv_lenStr, qv_cap, qv_slice, qv_sliceStr, qv_maxmin, qv_makeFunc, qv_load, qv_rev, eff_alloc, eff_box, eff_buildSl, eff_store, aStore_ptr, eff_makeSl, aMake_int, eff_append, eff_copy, eff_call, eff_callV, aCallV_clo, abin_add, abin_sub, abin_mul, abin_quo, abin_rem, abin_eql, abin_neq, abin_lss, abin_leq, abin_gtr, abin_geq, abin_beql, abin_bneq, abin_nn, abin_sn, abin_ns, abin_nnx, abin_snx, abin_nsx, abin_str, aun_neg, aun_not, aPick_true, aPick_false, aConv_int, aNil_ptr, aNil_clo, aField_agg, aField_one, aFieldAddr_ptr, Int.toNat_natCast, rd1_new, rd_new, new_next, Nat.left_eq_add, Nat.add_eq_left, Nat.succ_ne_self, Nat.one_ne_zero, Nat.add_left_cancel_iff, Nat.add_assoc, List.getElem?_cons_zero, List.getElem?_cons_succ, List.take_succ_cons, List.take_zero, List.drop_succ_cons, List.drop_zero, List.take_nil, List.drop_nil, Nat.reduceLeDiff, Nat.le_refl, afill_nil, afill_cons, zeros_zero, zeros_one1, zeros_single, Nat.lt_add_one, Int.reduceEq, Int.reduceLT, Int.reduceLE, Int.reduceNeg, aExtract_tup, aLen_sl, aLen_nils, aLenStr_str, aMaxmin_int, ldv_one, ldv_agg, news_nil, news_cons, RecOK_nil, RecOK_none, RecOK_cons, recOf, wantedI, rvals_nil, rvals_tmp, rvals_cell, retQ_normal, retQ_ret, packR_one, packR_nil, packR_two, optK_some, optK_none, optK_bind, optK_map, List.map_cons, List.map_nil, Nat.reduceEqDiff, if_true, if_false, ite_true, ite_false, List.nil_append, List.cons_append, Option.map_some, Option.map_none, reduceCtorEq, decide_true, decide_false, Bool.not_true, Bool.not_false, cells_int, cells_bool, cells_str, cells_nilp, cells_ptr, cells_nils, cells_sl, cells_nilf, cells_clo, cells_agg, List.all_cons, List.all_nil, one_int, one_bool, one_str, one_nilp, one_ptr, one_nils, one_sl, one_nilf, one_clo, List.length_cons, List.length_nil, Bool.and_true, Bool.true_and, Bool.and_self, true_and, and_true, Bool.true_eq_false, Bool.false_eq_true, List.contains_cons, List.contains_nil, Bool.or_false, Bool.or_true, Bool.true_or, Bool.false_or, eq_self, Nat.reduceBEq, Nat.reduceAdd, Nat.mul_one, Nat.zero_add, Nat.add_zero, rd1_of_obj qC, hneg]
  refine markInt64SSS_A hR.C wC dC u2.wf hvC2 (by have := sz.C.l; omega) (fun x hx => ⟨by have := (sz.C.r x hx).l; omega, fun y hy => by have := (sz.C.r x hx).r y hy; omega⟩) (by omega) (by omega) fun h3 u3 => ?_
  have u23 : Upd h1 (mkF mkI List.length (k + O.length) vP P ++ mkF (mkF mkI List.length) (totL List.length) (k + O.length + totL List.length P) vC C) h3 := u2.trans u3 (fun o ho hm => dd o (kP o ho) o (kC o hm) rfl) fun o ho => by have : o < h.next := ead_z hvC o (kC o ho); have := u1.next; omega
  have kPC : ∀ o ∈ (mkF mkI List.length (k + O.length) vP P ++ mkF (mkF mkI List.length) (totL List.length) (k + O.length + totL List.length P) vC C).map Prod.fst, o ∈ ead vP ++ ead vC := fun o ho => by
    rw [List.map_append, List.mem_append] at ho
    exact List.mem_append.2 (ho.imp (kP o) (kC o))
  have hlt : ∀ o ∈ ead vP ++ ead vC, o < h.next := fun o ho => (List.mem_append.1 ho).elim (fun hm => ead_z hvP o hm) fun hm => ead_z hvC o hm
  have u4 : Upd hh (mkPr k vO vP vC O P C) h3 := u1.trans u23 (fun o ho hm => dd0 o (kO o ho) o (kPC o hm) rfl) fun o ho => by have := hlt o (kPC o ho); omega
  have u5 := hx1.upd.trans u4 (fun o ho => by cases ho) fun o ho => by
    unfold mkPr at ho
    rw [List.map_append, List.mem_append] at ho
    exact ho.elim (fun hm => ead_z hvO o (kO o hm)) fun hm => hlt o (kPC o hm)
  have e : k + (O.length : Int) + (totL List.length P : Int) + (totL (totL List.length) C : Int) = k + ((O.length + totL List.length P + totL (totL List.length) C : Nat) : Int) := by omega
  rw [e]
  simp only [nm_eq, ↓reduceIte, vc_skip, vc_region, vc_draw, vc_seq, vc_cond, vc_block, vc_exit, vc_ret, RV_nil, RV_q, RV_e, DV_nil, DV_q, DV_e, gq_none, gq_some, ge_none, ge_some, condK_true, condK_false, condK_dec, condK_ndec, guardK_bool, guardO_bool, guardO_skip, guardK_skip, ev_t, ev_c, mk_cons, put_some, put_none, qv_mv, qv_pick, qv_bin, qv_un, qv_conv, qv_nilCheck, qv_build, qv_field, qv_fieldAddr, qv_indexAddr, qv_indexStr, qv_extract, qv_len, qv_lenStr, qv_cap, qv_slice, qv_sliceStr, qv_maxmin, qv_makeFunc, qv_load, qv_rev, eff_alloc, eff_box, eff_buildSl, eff_store, aStore_ptr, eff_makeSl, aMake_int, eff_append, eff_copy, eff_call, eff_callV, aCallV_clo, abin_add, abin_sub, abin_mul, abin_quo, abin_rem, abin_eql, abin_neq, abin_lss, abin_leq, abin_gtr, abin_geq, abin_beql, abin_bneq, abin_nn, abin_sn, abin_ns, abin_nnx, abin_snx, abin_nsx, abin_str, aun_neg, aun_not, aPick_true, aPick_false, aConv_int, aNil_ptr, aNil_clo, aField_agg, aField_one, aFieldAddr_ptr, Int.toNat_natCast, rd1_new, rd_new, new_next, Nat.left_eq_add, Nat.add_eq_left, Nat.succ_ne_self, Nat.one_ne_zero, Nat.add_left_cancel_iff, Nat.add_assoc, List.getElem?_cons_zero, List.getElem?_cons_succ, List.take_succ_cons, List.take_zero, List.drop_succ_cons, List.drop_zero, List.take_nil, List.drop_nil, Nat.reduceLeDiff, Nat.le_refl, afill_nil, afill_cons, zeros_zero, zeros_one1, zeros_single, Nat.lt_add_one, Int.reduceEq, Int.reduceLT, Int.reduceLE, Int.reduceNeg, aExtract_tup, aLen_sl, aLen_nils, aLenStr_str, aMaxmin_int, ldv_one, ldv_agg, news_nil, news_cons, RecOK_nil, RecOK_none, RecOK_cons, recOf, wantedI, rvals_nil, rvals_tmp, rvals_cell, retQ_normal, retQ_ret, packR_one, packR_nil, packR_two, optK_some, optK_none, optK_bind, optK_map, List.map_cons, List.map_nil, Nat.reduceEqDiff, if_true, if_false, ite_true, ite_false, List.nil_append, List.cons_append, Option.map_some, Option.map_none, reduceCtorEq, decide_true, decide_false, Bool.not_true, Bool.not_false, cells_int, cells_bool, cells_str, cells_nilp, cells_ptr, cells_nils, cells_sl, cells_nilf, cells_clo, cells_agg, List.all_cons, List.all_nil, one_int, one_bool, one_str, one_nilp, one_ptr, one_nils, one_sl, one_nilf, one_clo, List.length_cons, List.length_nil, Bool.and_true, Bool.true_and, Bool.and_self, true_and, and_true, Bool.true_eq_false, Bool.false_eq_true, List.contains_cons, List.contains_nil, Bool.or_false, Bool.or_true, Bool.true_or, Bool.false_or, eq_self, Nat.reduceBEq, Nat.reduceAdd, Nat.mul_one, Nat.zero_add, Nat.add_zero]
  have e2 := hk h3 (by simpa using u5)
  simpa only [Nat.add_assoc] using e2
theorem markModule_A {p d k : Int} {vA : PV} {As : List (List (List Int))} (hA : FIII vA As) (hW : Wh (.agg [.int .i64 p, .int .i64 d, vA])) (hnd : (ead (.agg [.int .i64 p, .int .i64 d, vA])).Nodup) (hw : HWF h) (hv : VOK (zlt h) h 0 (.agg [.int .i64 p, .int .i64 d, vA])) (sz : SzM As) (hk0 : 0 ≤ k) (hk1 : k + totL (totL List.length) As ≤ 4611686018427387904)
    (hk : ∀ h', Upd h (mkF (mkF mkI List.length) (totL List.length) k vA As) h' → K (.int .i64 (k + totL (totL List.length) As)) h') : ACalls Try.prog 25 [er idz (.agg [.int .i64 p, .int .i64 d, vA]), .int .i64 k] h K := by
  refine acalls_of_vc mix Try.func25 cf25 rfl ?_
  dsimp only [if25]
  simp only [er, ers]
  obtain ⟨_, _, hvA, _⟩ := hv
  obtain ⟨_, _, wA, _⟩ := hW
  have oA : (er idz vA).one = true := by rw [er_one hvA]; exact hA.one
  have cA := cells_of_one oA
  simp only [ead, eads, List.nil_append, List.append_nil] at hnd
  obtain ⟨hh, he, hx1, hn, qq⟩ := box1 hw [.int .i64 p, .int .i64 d, er idz vA]
  have hzz : ∀ o, zlt h o → zlt hh o ∧ hh.obj o = h.obj o := fun o ho => ⟨Nat.lt_of_lt_of_le ho hx1.next, hx1.obj o ho⟩
  have q := qq _ (Ext.refl hx1.wf)
  have kA := (mkT_I.F.F).keys (k := k) hA wA
  simp only [nm_eq, ↓reduceIte, vc_skip, vc_region, vc_draw, vc_seq, vc_cond, vc_block, vc_exit, vc_ret, RV_nil, RV_q, RV_e, DV_nil, DV_q, DV_e, gq_none, gq_some, ge_none, ge_some, condK_true, condK_false, condK_dec, condK_ndec, guardK_bool, guardO_bool, guardO_skip, guardK_skip, ev_t, ev_c, mk_cons, put_some, put_none, qv_mv, qv_pick, qv_bin, qv_un, qv_conv, qv_nilCheck, qv_build, qv_field, qv_fieldAddr, qv_indexAddr, qv_indexStr, qv_extract, qv_len, qv_lenStr, qv_cap, qv_slice, qv_sliceStr, qv_maxmin, qv_makeFunc, qv_load, qv_rev, eff_alloc, eff_box, eff_buildSl, eff_store, aStore_ptr, eff_makeSl, aMake_int, eff_append, eff_copy, eff_call, eff_callV, aCallV_clo, abin_add, abin_sub, abin_mul, abin_quo, abin_rem, abin_eql, abin_neq, abin_lss, abin_leq, abin_gtr, abin_geq, abin_beql, abin_bneq, abin_nn, abin_sn, abin_ns, abin_nnx, abin_snx, abin_nsx, abin_str, aun_neg, aun_not, aPick_true, aPick_false, aConv_int, aNil_ptr, aNil_clo, aField_agg, aField_one, aFieldAddr_ptr, Int.toNat_natCast, rd1_new, rd_new, new_next, Nat.left_eq_add, Nat.add_eq_left, Nat.succ_ne_self, Nat.one_ne_zero, Nat.add_left_cancel_iff, Nat.add_assoc, List.getElem?_cons_zero, List.getElem?_cons_succ, List.take_succ_cons, List.take_zero, List.drop_succ_cons, List.drop_zero, List.take_nil, List.drop_nil, Nat.reduceLeDiff, Nat.le_refl, afill_nil, afill_cons, zeros_zero, zeros_one1, zeros_single, Nat.lt_add_one, Int.reduceEq, Int.reduceLT, Int.reduceLE, Int.reduceNeg, aExtract_tup, aLen_sl, aLen_nils, aLenStr_str, aMaxmin_int, ldv_one, ldv_agg, news_nil, news_cons, RecOK_nil, RecOK_none, RecOK_cons, recOf, wantedI, rvals_nil, rvals_tmp, rvals_cell, retQ_normal, retQ_ret, packR_one, packR_nil, packR_two, optK_some, optK_none, optK_bind, optK_map, List.map_cons, List.map_nil, Nat.reduceEqDiff, if_true, if_false, ite_true, ite_false, List.nil_append, List.cons_append, Option.map_some, Option.map_none, reduceCtorEq, decide_true, decide_false, Bool.not_true, Bool.not_false, cells_int, cells_bool, cells_str, cells_nilp, cells_ptr, cells_nils, cells_sl, cells_nilf, cells_clo, cells_agg, List.all_cons, List.all_nil, one_int, one_bool, one_str, one_nilp, one_ptr, one_nils, one_sl, one_nilf, one_clo, List.length_cons, List.length_nil, Bool.and_true, Bool.true_and, Bool.and_self, true_and, and_true, Bool.true_eq_false, Bool.false_eq_true, List.contains_cons, List.contains_nil, Bool.or_false, Bool.or_true, Bool.true_or, Bool.false_or, eq_self, Nat.reduceBEq, Nat.reduceAdd, Nat.mul_one, Nat.zero_add, Nat.add_zero, he, oA, cA, rd1_of_obj q]
  refine markInt64SSS_A hA wA hnd hx1.wf (hvA.mono hzz (Nat.le_refl _)) (by have := sz.l; omega) (fun x hx => ⟨by have := (sz.r x hx).l; omega, fun y hy => by have := (sz.r x hx).r y hy; omega⟩) (by omega) (by omega) fun h1 u1 => ?_
  have u4 := hx1.upd.trans u1 (fun o ho => by cases ho) fun o ho => ead_z hvA o (kA o ho)
  simp only [nm_eq, ↓reduceIte, vc_skip, vc_region, vc_draw, vc_seq, vc_cond, vc_block, vc_exit, vc_ret, RV_nil, RV_q, RV_e, DV_nil, DV_q, DV_e, gq_none, gq_some, ge_none, ge_some, condK_true, condK_false, condK_dec, condK_ndec, guardK_bool, guardO_bool, guardO_skip, guardK_skip, ev_t, ev_c, mk_cons, put_some, put_none, qv_mv, qv_pick, qv_bin, qv_un, qv_conv, qv_nilCheck, qv_build, qv_field, qv_fieldAddr, qv_indexAddr, qv_indexStr, qv_extract, qv_len, qv_lenStr, qv_cap, qv_slice, qv_sliceStr, qv_maxmin, qv_makeFunc, qv_load, qv_rev, eff_alloc, eff_box, eff_buildSl, eff_store, aStore_ptr, eff_makeSl, aMake_int, eff_append, eff_copy, eff_call, eff_callV, aCallV_clo, abin_add, abin_sub, abin_mul, abin_quo, abin_rem, abin_eql, abin_neq, abin_lss, abin_leq, abin_gtr, abin_geq, abin_beql, abin_bneq, abin_nn, abin_sn, abin_ns, abin_nnx, abin_snx, abin_nsx, abin_str, aun_neg, aun_not, aPick_true, aPick_false, aConv_int, aNil_ptr, aNil_clo, aField_agg, aField_one, aFieldAddr_ptr, Int.toNat_natCast, rd1_new, rd_new, new_next, Nat.left_eq_add, Nat.add_eq_left, Nat.succ_ne_self, Nat.one_ne_zero, Nat.add_left_cancel_iff, Nat.add_assoc, List.getElem?_cons_zero, List.getElem?_cons_succ, List.take_succ_cons, List.take_zero, List.drop_succ_cons, List.drop_zero, List.take_nil, List.drop_nil, Nat.reduceLeDiff, Nat.le_refl, afill_nil, afill_cons, zeros_zero, zeros_one1, zeros_single, Nat.lt_add_one, Int.reduceEq, Int.reduceLT, Int.reduceLE, Int.reduceNeg, aExtract_tup, aLen_sl, aLen_nils, aLenStr_str, aMaxmin_int, ldv_one, ldv_agg, news_nil, news_cons, RecOK_nil, RecOK_none, RecOK_cons, recOf, wantedI, rvals_nil, rvals_tmp, rvals_cell, retQ_normal, retQ_ret, packR_one, packR_nil, packR_two, optK_some, optK_none, optK_bind, optK_map, List.map_cons, List.map_nil, Nat.reduceEqDiff, if_true, if_false, ite_true, ite_false, List.nil_append, List.cons_append, Option.map_some, Option.map_none, reduceCtorEq, decide_true, decide_false, Bool.not_true, Bool.not_false, cells_int, cells_bool, cells_str, cells_nilp, cells_ptr, cells_nils, cells_sl, cells_nilf, cells_clo, cells_agg, List.all_cons, List.all_nil, one_int, one_bool, one_str, one_nilp, one_ptr, one_nils, one_sl, one_nilf, one_clo, List.length_cons, List.length_nil, Bool.and_true, Bool.true_and, Bool.and_self, true_and, and_true, Bool.true_eq_false, Bool.false_eq_true, List.contains_cons, List.contains_nil, Bool.or_false, Bool.or_true, Bool.true_or, Bool.false_or, eq_self, Nat.reduceBEq, Nat.reduceAdd, Nat.mul_one, Nat.zero_add, Nat.add_zero]
  exact hk _ (by simpa using u4)
theorem markMatrix_A {p d k : Int} {vA : PV} {F : List (List Int)} (hA : FII vA F) (hW : Wh (.agg [.int .i64 p, .int .i64 d, vA])) (hnd : (ead (.agg [.int .i64 p, .int .i64 d, vA])).Nodup) (hw : HWF h) (hv : VOK (zlt h) h 0 (.agg [.int .i64 p, .int .i64 d, vA])) (sz : SzL F) (hk0 : 0 ≤ k) (hk1 : k + totL List.length F ≤ 4611686018427387904)
    (hk : ∀ h', Upd h (mkF mkI List.length k vA F) h' → K (.int .i64 (k + totL List.length F)) h') : ACalls Try.prog 31 [er idz (.agg [.int .i64 p, .int .i64 d, vA]), .int .i64 k] h K := by
  refine acalls_of_vc mix Try.func31 cf31 rfl ?_
  dsimp only [if31]
  simp only [er, ers]
  obtain ⟨_, _, hvA, _⟩ := hv
  obtain ⟨_, _, wA, _⟩ := hW
  have oA : (er idz vA).one = true := by rw [er_one hvA]; exact hA.one
  have cA := cells_of_one oA
  simp only [ead, eads, List.nil_append, List.append_nil] at hnd
  obtain ⟨hh, he, hx1, hn, qq⟩ := box1 hw [.int .i64 p, .int .i64 d, er idz vA]
  have hzz : ∀ o, zlt h o → zlt hh o ∧ hh.obj o = h.obj o := fun o ho => ⟨Nat.lt_of_lt_of_le ho hx1.next, hx1.obj o ho⟩
  have q := qq _ (Ext.refl hx1.wf)
  have kA := (mkT_I.F).keys (k := k) hA wA
  simp only [nm_eq, ↓reduceIte, vc_skip, vc_region, vc_draw, vc_seq, vc_cond, vc_block, vc_exit, vc_ret, RV_nil, RV_q, RV_e, DV_nil, DV_q, DV_e, gq_none, gq_some, ge_none, ge_some, condK_true, condK_false, condK_dec, condK_ndec, guardK_bool, guardO_bool, guardO_skip, guardK_skip, ev_t, ev_c, mk_cons, put_some, put_none, qv_mv, qv_pick, qv_bin, qv_un, qv_conv, qv_nilCheck, qv_build, qv_field, qv_fieldAddr, qv_indexAddr, qv_indexStr, qv_extract, qv_len, qv_lenStr, qv_cap, qv_slice, qv_sliceStr, qv_maxmin, qv_makeFunc, qv_load, qv_rev, eff_alloc, eff_box, eff_buildSl, eff_store, aStore_ptr, eff_makeSl, aMake_int, eff_append, eff_copy, eff_call, eff_callV, aCallV_clo, abin_add, abin_sub, abin_mul, abin_quo, abin_rem, abin_eql, abin_neq, abin_lss, abin_leq, abin_gtr, abin_geq, abin_beql, abin_bneq, abin_nn, abin_sn, abin_ns, abin_nnx, abin_snx, abin_nsx, abin_str, aun_neg, aun_not, aPick_true, aPick_false, aConv_int, aNil_ptr, aNil_clo, aField_agg, aField_one, aFieldAddr_ptr, Int.toNat_natCast, rd1_new, rd_new, new_next, Nat.left_eq_add, Nat.add_eq_left, Nat.succ_ne_self, Nat.one_ne_zero, Nat.add_left_cancel_iff, Nat.add_assoc, List.getElem?_cons_zero, List.getElem?_cons_succ, List.take_succ_cons, List.take_zero, List.drop_succ_cons, List.drop_zero, List.take_nil, List.drop_nil, Nat.reduceLeDiff, Nat.le_refl, afill_nil, afill_cons, zeros_zero, zeros_one1, zeros_single, Nat.lt_add_one, Int.reduceEq, Int.reduceLT, Int.reduceLE, Int.reduceNeg, aExtract_tup, aLen_sl, aLen_nils, aLenStr_str, aMaxmin_int, ldv_one, ldv_agg, news_nil, news_cons, RecOK_nil, RecOK_none, RecOK_cons, recOf, wantedI, rvals_nil, rvals_tmp, rvals_cell, retQ_normal, retQ_ret, packR_one, packR_nil, packR_two, optK_some, optK_none, optK_bind, optK_map, List.map_cons, List.map_nil, Nat.reduceEqDiff, if_true, if_false, ite_true, ite_false, List.nil_append, List.cons_append, Option.map_some, Option.map_none, reduceCtorEq, decide_true, decide_false, Bool.not_true, Bool.not_false, cells_int, cells_bool, cells_str, cells_nilp, cells_ptr, cells_nils, cells_sl, cells_nilf, cells_clo, cells_agg, List.all_cons, List.all_nil, one_int, one_bool, one_str, one_nilp, one_ptr, one_nils, one_sl, one_nilf, one_clo, List.length_cons, List.length_nil, Bool.and_true, Bool.true_and, Bool.and_self, true_and, and_true, Bool.true_eq_false, Bool.false_eq_true, List.contains_cons, List.contains_nil, Bool.or_false, Bool.or_true, Bool.true_or, Bool.false_or, eq_self, Nat.reduceBEq, Nat.reduceAdd, Nat.mul_one, Nat.zero_add, Nat.add_zero, he, oA, cA, rd1_of_obj q]
  refine markInt64SS_A hA wA hnd hx1.wf (hvA.mono hzz (Nat.le_refl _)) (by have := sz.l; omega) (fun x hx => by have := sz.r x hx; omega) (by omega) (by omega) fun h1 u1 => ?_
  have u4 := hx1.upd.trans u1 (fun o ho => by cases ho) fun o ho => ead_z hvA o (kA o ho)
  simp only [nm_eq, ↓reduceIte, vc_skip, vc_region, vc_draw, vc_seq, vc_cond, vc_block, vc_exit, vc_ret, RV_nil, RV_q, RV_e, DV_nil, DV_q, DV_e, gq_none, gq_some, ge_none, ge_some, condK_true, condK_false, condK_dec, condK_ndec, guardK_bool, guardO_bool, guardO_skip, guardK_skip, ev_t, ev_c, mk_cons, put_some, put_none, qv_mv, qv_pick, qv_bin, qv_un, qv_conv, qv_nilCheck, qv_build, qv_field, qv_fieldAddr, qv_indexAddr, qv_indexStr, qv_extract, qv_len, qv_lenStr, qv_cap, qv_slice, qv_sliceStr, qv_maxmin, qv_makeFunc, qv_load, qv_rev, eff_alloc, eff_box, eff_buildSl, eff_store, aStore_ptr, eff_makeSl, aMake_int, eff_append, eff_copy, eff_call, eff_callV, aCallV_clo, abin_add, abin_sub, abin_mul, abin_quo, abin_rem, abin_eql, abin_neq, abin_lss, abin_leq, abin_gtr, abin_geq, abin_beql, abin_bneq, abin_nn, abin_sn, abin_ns, abin_nnx, abin_snx, abin_nsx, abin_str, aun_neg, aun_not, aPick_true, aPick_false, aConv_int, aNil_ptr, aNil_clo, aField_agg, aField_one, aFieldAddr_ptr, Int.toNat_natCast, rd1_new, rd_new, new_next, Nat.left_eq_add, Nat.add_eq_left, Nat.succ_ne_self, Nat.one_ne_zero, Nat.add_left_cancel_iff, Nat.add_assoc, List.getElem?_cons_zero, List.getElem?_cons_succ, List.take_succ_cons, List.take_zero, List.drop_succ_cons, List.drop_zero, List.take_nil, List.drop_nil, Nat.reduceLeDiff, Nat.le_refl, afill_nil, afill_cons, zeros_zero, zeros_one1, zeros_single, Nat.lt_add_one, Int.reduceEq, Int.reduceLT, Int.reduceLE, Int.reduceNeg, aExtract_tup, aLen_sl, aLen_nils, aLenStr_str, aMaxmin_int, ldv_one, ldv_agg, news_nil, news_cons, RecOK_nil, RecOK_none, RecOK_cons, recOf, wantedI, rvals_nil, rvals_tmp, rvals_cell, retQ_normal, retQ_ret, packR_one, packR_nil, packR_two, optK_some, optK_none, optK_bind, optK_map, List.map_cons, List.map_nil, Nat.reduceEqDiff, if_true, if_false, ite_true, ite_false, List.nil_append, List.cons_append, Option.map_some, Option.map_none, reduceCtorEq, decide_true, decide_false, Bool.not_true, Bool.not_false, cells_int, cells_bool, cells_str, cells_nilp, cells_ptr, cells_nils, cells_sl, cells_nilf, cells_clo, cells_agg, List.all_cons, List.all_nil, one_int, one_bool, one_str, one_nilp, one_ptr, one_nils, one_sl, one_nilf, one_clo, List.length_cons, List.length_nil, Bool.and_true, Bool.true_and, Bool.and_self, true_and, and_true, Bool.true_eq_false, Bool.false_eq_true, List.contains_cons, List.contains_nil, Bool.or_false, Bool.or_true, Bool.true_or, Bool.false_or, eq_self, Nat.reduceBEq, Nat.reduceAdd, Nat.mul_one, Nat.zero_add, Nat.add_zero]
  exact hk _ (by simpa using u4)
end
section
variable {σ : PHeap} {K : PV → PHeap → Prop} {p d : Int} {O : List Int} {P : List (List Int)} {C As : List (List (List Int))} {F : List (List Int)} {vO vP vC vA : PV} {lo hi : Nat}
theorem mkPr_keys {k : Int} (hR : IsPr vO vP vC O P C) (hW : Wh (.agg [vO, vP, vC])) : ∀ o ∈ (mkPr k vO vP vC O P C).map Prod.fst, o ∈ ead (.agg [vO, vP, vC]) := by
  obtain ⟨wO, wP, wC, _⟩ := hW
  intro o ho
  unfold mkPr at ho
  rw [List.map_append, List.mem_append, List.map_append, List.mem_append] at ho
  simp only [ead, eads, List.nil_append, List.append_nil, List.mem_append]
  exact ho.imp (mkT_I.keys hR.O wO o) fun h => h.imp (mkT_I.F.keys hR.P wP o) (mkT_I.F.F.keys hR.C wC o)
theorem keysP {k : Int} (hR : IsPr vO vP vC O P C) (ho : Own lo hi (.agg [vO, vP, vC])) : ∀ o ∈ (mkPr k vO vP vC O P C).map Prod.fst, lo ≤ o ∧ o < hi := fun o hm => ho.lt o (mkPr_keys hR ho.wh o hm)
theorem markPresentation_M {k : Int} (hR : IsPr vO vP vC O P C) (ho : Own lo hi (.agg [vO, vP, vC])) (sz : SzP O P C) (hk0 : 0 ≤ k) (hk1 : k + totP O P C ≤ 4611686018427387904) :
    MarkOK Try.prog 24 [.agg [vO, vP, vC], .int .i64 k] σ (mkPr k vO vP vC O P C) .i64 (k + totP O P C) :=
  MarkOK.of ⟨hR.O.bel 0, hR.P.bel 0, hR.C.bel 0, trivial⟩ (mkPr_keys hR ho.wh) fun h hw hv => markPresentation_A hR ho.wh ho.nd hw hv sz hk0 hk1 fun h' u => ⟨rfl, u⟩
theorem mkMo_keys {k : Int} (hA : FIII vA As) (hW : Wh (.agg [.int .i64 p, .int .i64 d, vA])) : ∀ o ∈ (mkF (mkF mkI List.length) (totL List.length) k vA As).map Prod.fst, o ∈ ead (.agg [.int .i64 p, .int .i64 d, vA]) := by
  obtain ⟨_, _, wA, _⟩ := hW
  intro o ho
  simp only [ead, eads, List.nil_append, List.append_nil]
  exact mkT_I.F.F.keys hA wA o ho
theorem keysM {k : Int} (hA : FIII vA As) (ho : Own lo hi (.agg [.int .i64 p, .int .i64 d, vA])) : ∀ o ∈ (mkF (mkF mkI List.length) (totL List.length) k vA As).map Prod.fst, lo ≤ o ∧ o < hi := fun o hm => ho.lt o (mkMo_keys hA ho.wh o hm)
theorem markModule_M {k : Int} (hA : FIII vA As) (ho : Own lo hi (.agg [.int .i64 p, .int .i64 d, vA])) (sz : SzM As) (hk0 : 0 ≤ k) (hk1 : k + totL (totL List.length) As ≤ 4611686018427387904) :
    MarkOK Try.prog 25 [.agg [.int .i64 p, .int .i64 d, vA], .int .i64 k] σ (mkF (mkF mkI List.length) (totL List.length) k vA As) .i64 (k + totL (totL List.length) As) :=
  MarkOK.of ⟨trivial, trivial, hA.bel 0, trivial⟩ (mkMo_keys hA ho.wh) fun h hw hv => markModule_A hA ho.wh ho.nd hw hv sz hk0 hk1 fun h' u => ⟨rfl, u⟩
theorem mkMx_keys {k : Int} (hA : FII vA F) (hW : Wh (.agg [.int .i64 p, .int .i64 d, vA])) : ∀ o ∈ (mkF mkI List.length k vA F).map Prod.fst, o ∈ ead (.agg [.int .i64 p, .int .i64 d, vA]) := by
  obtain ⟨_, _, wA, _⟩ := hW
  intro o ho
  simp only [ead, eads, List.nil_append, List.append_nil]
  exact mkT_I.F.keys hA wA o ho
theorem markMatrix_M {k : Int} (hA : FII vA F) (ho : Own lo hi (.agg [.int .i64 p, .int .i64 d, vA])) (sz : SzL F) (hk0 : 0 ≤ k) (hk1 : k + totL List.length F ≤ 4611686018427387904) :
    MarkOK Try.prog 31 [.agg [.int .i64 p, .int .i64 d, vA], .int .i64 k] σ (mkF mkI List.length k vA F) .i64 (k + totL List.length F) :=
  MarkOK.of ⟨trivial, trivial, hA.bel 0, trivial⟩ (mkMx_keys hA ho.wh) fun h hw hv => markMatrix_A hA ho.wh ho.nd hw hv sz hk0 hk1 fun h' u => ⟨rfl, u⟩
theorem toPresentation_T (hR : IsPr vO vP vC O P C) (sz : SzP O P C) (hk : ∀ vO vP vC t, IsPr vO vP vC O P C → Own σ.top t (.agg [vO, vP, vC]) → σ.top ≤ t → K (.agg [vO, vP, vC]) (σ.up t)) : PCalls Try.prog 15 [.agg [vO, vP, vC]] σ K := by
  have h0 := hR.O.one
  have h1 := hR.P.one
  have h2 := hR.C.one
  refine PCalls.gh ?_
  refine pcalls_of_vp mix Try.func15 cf15 rfl ?_
  dsimp only [if15, qI, eI, nI, qD, eD]
  simp only [pwA, if_true, if_false, eq_self, nm_eq, reduceCtorEq, ↓reduceIte, Nat.reduceEqDiff, Nat.reduceLeDiff, Nat.reduceBEq, Nat.reduceAdd, Nat.reduceLT, Nat.reduceSub, Nat.reduceMul, Int.reduceEq, Int.reduceLT, Int.reduceLE, Int.reduceNeg, Int.reduceToNat, List.reduceReplicate, Int.ofNat_le, List.getElem?_drop, h0, h1, h2]
  refine toInt64S_T hR.O sz.O fun v0 t0 hv0 ho0 ht0 => ?_
  simp only [pwA, if_true, if_false, eq_self, nm_eq, reduceCtorEq, ↓reduceIte, Nat.reduceEqDiff, Nat.reduceLeDiff, Nat.reduceBEq, Nat.reduceAdd, Nat.reduceLT, Nat.reduceSub, Nat.reduceMul, Int.reduceEq, Int.reduceLT, Int.reduceLE, Int.reduceNeg, Int.reduceToNat, List.reduceReplicate, Int.ofNat_le, List.getElem?_drop, hv0.cells, hv0.one]
  refine toInt64SS_T hR.P sz.P fun v1 t1 hv1 ho1 ht1 => ?_
  simp only [pwA, if_true, if_false, eq_self, nm_eq, reduceCtorEq, ↓reduceIte, Nat.reduceEqDiff, Nat.reduceLeDiff, Nat.reduceBEq, Nat.reduceAdd, Nat.reduceLT, Nat.reduceSub, Nat.reduceMul, Int.reduceEq, Int.reduceLT, Int.reduceLE, Int.reduceNeg, Int.reduceToNat, List.reduceReplicate, Int.ofNat_le, List.getElem?_drop, hv0.one, hv1.cells, hv1.one]
  refine toInt64SSS_T hR.C sz.C fun v2 t2 hv2 ho2 ht2 => ?_
  simp only [pwA, if_true, if_false, eq_self, nm_eq, reduceCtorEq, ↓reduceIte, Nat.reduceEqDiff, Nat.reduceLeDiff, Nat.reduceBEq, Nat.reduceAdd, Nat.reduceLT, Nat.reduceSub, Nat.reduceMul, Int.reduceEq, Int.reduceLT, Int.reduceLE, Int.reduceNeg, Int.reduceToNat, List.reduceReplicate, Int.ofNat_le, List.getElem?_drop, hv2.cells, hv2.one, hv1.one, hv0.one]
  have hoo := (((Owns.nil σ.top σ.top).snoc ho0 (Nat.le_refl _) ht0).snoc ho1 ht0 ht1).snoc ho2 (Nat.le_trans ht0 ht1) ht2
  exact Gh.fin0T (t := t2) (v := .agg [v0, v1, v2]) (Keep.up (((keep_new σ _).new _).new _) (Nat.le_trans (Nat.le_trans ht0 ht1) ht2)) (Nat.le_refl _) ⟨hv0.bel _, hv1.bel _, hv2.bel _, trivial⟩ fun _ => hk v0 v1 v2 t2 ⟨hv0, hv1, hv2⟩ hoo.agg (Nat.le_trans (Nat.le_trans ht0 ht1) ht2)
theorem Owns.mod {lo t : Nat} {v : PV} (h : Own lo t v) (hl : lo ≤ t) : Own lo t (.agg [.int .i64 p, .int .i64 d, v]) :=
  ((((Owns.nil lo lo).snoc (Own.int _ _ .i64 p) (Nat.le_refl _) (Nat.le_refl _)).snoc (Own.int _ _ .i64 d) (Nat.le_refl _) (Nat.le_refl _)).snoc h (Nat.le_refl _) hl).agg
theorem toModule_T (hA : FIII vA As) (sz : SzM As) (hk : ∀ vA t, FIII vA As → Own σ.top t (.agg [.int .i64 p, .int .i64 d, vA]) → σ.top ≤ t → K (.agg [.int .i64 p, .int .i64 d, vA]) (σ.up t)) : PCalls Try.prog 16 [.agg [.int .i64 p, .int .i64 d, vA]] σ K := by
  have h1 := hA.one
  refine PCalls.gh ?_
  refine pcalls_of_vp mix Try.func16 cf16 rfl ?_
  dsimp only [if16, qI, eI, nI, qD, eD]
  simp only [pwA, if_true, if_false, eq_self, nm_eq, reduceCtorEq, ↓reduceIte, Nat.reduceEqDiff, Nat.reduceLeDiff, Nat.reduceBEq, Nat.reduceAdd, Nat.reduceLT, Nat.reduceSub, Nat.reduceMul, Int.reduceEq, Int.reduceLT, Int.reduceLE, Int.reduceNeg, Int.reduceToNat, List.reduceReplicate, Int.ofNat_le, List.getElem?_drop, h1]
  refine toInt64SSS_T hA sz fun v2 t2 hv2 ho2 ht2 => ?_
  simp only [pwA, if_true, if_false, eq_self, nm_eq, reduceCtorEq, ↓reduceIte, Nat.reduceEqDiff, Nat.reduceLeDiff, Nat.reduceBEq, Nat.reduceAdd, Nat.reduceLT, Nat.reduceSub, Nat.reduceMul, Int.reduceEq, Int.reduceLT, Int.reduceLE, Int.reduceNeg, Int.reduceToNat, List.reduceReplicate, Int.ofNat_le, List.getElem?_drop, hv2.cells, hv2.one]
  exact Gh.fin0T (t := t2) (v := .agg [.int .i64 p, .int .i64 d, v2]) (Keep.up (((keep_new σ _).new _).new _) ht2) (Nat.le_refl _) ⟨trivial, trivial, hv2.bel _, trivial⟩ fun _ => hk v2 t2 hv2 (Owns.mod ho2 ht2) ht2
theorem totII_bdx {xs : List (List Int)} (sz : SzL xs) : totL List.length xs ≤ 1099511627776 := by
  have h3 := totL_bd (m := 1048576) (len := List.length) sz.r
  have h4 := sz.l
  omega
theorem totM_bdx {As : List (List (List Int))} (sz : SzM As) : totL (totL List.length) As ≤ 1152921504606846976 := by
  have h3 := totL_bd (m := 1099511627776) (len := totL List.length) (xs := As) fun q hq => totII_bdx (sz.r q hq)
  have h4 := sz.l
  omega
theorem totP_bdx (sz : SzP O P C) : totP O P C ≤ 1153000000000000000 := by
  have h1 := totII_bdx sz.P
  have h2 := totM_bdx sz.C
  have h3 := sz.O
  unfold totP
  omega
end
end Go.Proofs
set_option linter.unusedSimpArgs false
set_option linter.unusedVariables false
namespace Go.Proofs
open Go.Ab Go.Lie Go.Grp Go.Mx
variable {σ : PHeap} {K : PV → PHeap → Prop} {p d : Int} {n na : Nat} {v w x y xs ys : List Int} {A B M F vals : List (List Int)} {As : List (List (List Int))} {vA vB vM vv vx vw vV v0 : PV} {O : List Int} {P : List (List Int)} {C : List (List (List Int))} {vO vP vC : PV} {s sp : Nat}
open Classical in
noncomputable def moRes (O : List Int) (P : List (List Int)) (C : List (List (List Int))) (p d : Int) (As : List (List (List Int))) (y : List Int) : (Int × Int × List (List Int)) × Int :=
  if isMod O P C p d As ∧ isExp O y then ((p, d, act p d.toNat As y), 0) else ((0, 0, []), 1)
theorem mo_bd {z1 z2 : Int} {z : List (List Int)} {c : Int} (h : ResR (moRes O P C p d As y) (z1, z2, z) c) : SzL z := by
  have e := h.eq
  unfold moRes at e
  split at e
  · rename_i hf
    simp only [Prod.mk.injEq] at e
    obtain ⟨⟨_, _, rfl⟩, _⟩ := e
    have hd := hf.1.2.2.1
    have hpb := hf.1.2.1.bd
    have ha := act_in (p := p) (n := d.toNat) (by omega) hf.1.2.2.2.2.1 (x := y) (by rw [hf.2.1, hf.1.2.2.2.1]; exact Nat.le_refl _)
    refine ⟨by rw [ha.1]; omega, fun r hr => ?_⟩
    rw [(ha.2 r hr).len]; omega
  · simp only [Prod.mk.injEq] at e
    obtain ⟨⟨_, _, rfl⟩, _⟩ := e
    exact ⟨by simp, fun r hr => by cases hr⟩
theorem ActionOf_T (hR : IsPr vO vP vC O P C) (sz : SzP O P C) (hA : FIII vA As) (szA : SzM As) (hy : FI vv y) (szy : y.length ≤ 1048576) (hk : ∀ v z1 z2 z c t, ResR (moRes O P C p d As y) (z1, z2, z) c → FII v z → Own σ.top t v → σ.top ≤ t → K (.tup [.agg [.int .i64 z1, .int .i64 z2, v], .int .i64 c]) (σ.up t)) :
    PCalls Try.prog 29 [.agg [vO, vP, vC], .agg [.int .i64 p, .int .i64 d, vA], vv] σ K := by
  have h0 := hR.O.one
  have h1 := hR.P.one
  have h2 := hR.C.one
  have h3 := hA.one
  have hy0 := hy
  refine PCalls.gh ?_
  generalize hH : ((σ.new [vO, vP, vC]).new [.int .i64 p, .int .i64 d, vA]).new [.int .i64 0, .int .i64 0, .fz true .nils 0 []] = H
  have hkp : Keep σ H := by rw [← hH]; exact ((keep_new σ _).new _).new _
  have htop : H.top = σ.top := by rw [← hH]; rfl
  have hsp : PtrG H σ.next vO vP vC := by rw [← hH]; exact ⟨by simp only [pwA, if_true, if_false, eq_self, nm_eq, reduceCtorEq, ↓reduceIte, Nat.reduceEqDiff, Nat.reduceLeDiff, Nat.reduceBEq, Nat.reduceAdd, Nat.reduceLT, Nat.reduceSub, Nat.reduceMul, Int.reduceEq, Int.reduceLT, Int.reduceLE, Int.reduceNeg, Int.reduceToNat, List.reduceReplicate, Int.ofNat_le, List.getElem?_drop], by simp only [pwA, if_true, if_false, eq_self, nm_eq, reduceCtorEq, ↓reduceIte, Nat.reduceEqDiff, Nat.reduceLeDiff, Nat.reduceBEq, Nat.reduceAdd, Nat.reduceLT, Nat.reduceSub, Nat.reduceMul, Int.reduceEq, Int.reduceLT, Int.reduceLE, Int.reduceNeg, Int.reduceToNat, List.reduceReplicate, Int.ofNat_le, List.getElem?_drop]; omega⟩
  have hs : PtrR H (σ.next + 1) p (.int .i64 d) vA := by rw [← hH]; exact ⟨by simp only [pwA, if_true, if_false, eq_self, nm_eq, reduceCtorEq, ↓reduceIte, Nat.reduceEqDiff, Nat.reduceLeDiff, Nat.reduceBEq, Nat.reduceAdd, Nat.reduceLT, Nat.reduceSub, Nat.reduceMul, Int.reduceEq, Int.reduceLT, Int.reduceLE, Int.reduceNeg, Int.reduceToNat, List.reduceReplicate, Int.ofNat_le, List.getElem?_drop], by simp only [pwA, if_true, if_false, eq_self, nm_eq, reduceCtorEq, ↓reduceIte, Nat.reduceEqDiff, Nat.reduceLeDiff, Nat.reduceBEq, Nat.reduceAdd, Nat.reduceLT, Nat.reduceSub, Nat.reduceMul, Int.reduceEq, Int.reduceLT, Int.reduceLE, Int.reduceNeg, Int.reduceToNat, List.reduceReplicate, Int.ofNat_le, List.getElem?_drop]; omega⟩
  have hor : H.obj (σ.next + 2) = some [.int .i64 0, .int .i64 0, .fz true .nils 0 []] := by rw [← hH]; simp only [pwA, if_true, if_false, eq_self, nm_eq, reduceCtorEq, ↓reduceIte, Nat.reduceEqDiff, Nat.reduceLeDiff, Nat.reduceBEq, Nat.reduceAdd, Nat.reduceLT, Nat.reduceSub, Nat.reduceMul, Int.reduceEq, Int.reduceLT, Int.reduceLE, Int.reduceNeg, Int.reduceToNat, List.reduceReplicate, Int.ofNat_le, List.getElem?_drop]
  have no : ¬ (isMod O P C p d As ∧ isExp O y) → Gh σ K (.tup [.agg [.int .i64 0, .int .i64 0, .fz true .nils 0 []], .int .i64 1]) (H.set (σ.next + 2) [.int .i64 0, .int .i64 0, .fz true .nils 0 []]) := fun h => Gh.fin0T (t := σ.top) (hkp.set (by omega) _) hkp.top ⟨⟨trivial, trivial, trivial, trivial⟩, trivial, trivial⟩ fun _ => hk _ 0 0 [] _ σ.top ⟨by unfold moRes; rw [if_neg h]⟩ ⟨_, _, [], rfl, All2.nil _⟩ (Own.empty _ _ _ _ _) (Nat.le_refl _)
  have hwr0 : H.wr (σ.next + 2) 0 [.int .i64 0, .int .i64 0, .fz true .nils 0 []] = some (H.set (σ.next + 2) [.int .i64 0, .int .i64 0, .fz true .nils 0 []]) := by
    rw [obj_wr hor, if_pos ⟨by simp, by rfl⟩]; rfl
  have hrd0 : (H.set (σ.next + 2) [.int .i64 0, .int .i64 0, .fz true .nils 0 []]).rd (σ.next + 2) 0 3 = some [.int .i64 0, .int .i64 0, .fz true .nils 0 []] := by rw [prd_set, if_pos rfl]; rfl
  refine pcalls_of_vp mix Try.func29 cf29 rfl ?_
  dsimp only [if29, qI, eI, nI, qD, eD]
  simp only [pwA, if_true, if_false, eq_self, nm_eq, reduceCtorEq, ↓reduceIte, Nat.reduceEqDiff, Nat.reduceLeDiff, Nat.reduceBEq, Nat.reduceAdd, Nat.reduceLT, Nat.reduceSub, Nat.reduceMul, Int.reduceEq, Int.reduceLT, Int.reduceLE, Int.reduceNeg, Int.reduceToNat, List.reduceReplicate, Int.ofNat_le, List.getElem?_drop, h0, h1, h2, h3]
  rw [hH]
  refine isModule_ok hsp hR sz hs hA szA fun t ht => ?_
  cases t with
  | false =>
    simp only [pwA, if_true, if_false, eq_self, nm_eq, reduceCtorEq, ↓reduceIte, Nat.reduceEqDiff, Nat.reduceLeDiff, Nat.reduceBEq, Nat.reduceAdd, Nat.reduceLT, Nat.reduceSub, Nat.reduceMul, Int.reduceEq, Int.reduceLT, Int.reduceLE, Int.reduceNeg, Int.reduceToNat, List.reduceReplicate, Int.ofNat_le, List.getElem?_drop, hwr0, hrd0]
    exact no fun h => by cases ht.2 h.1
  | true =>
  have hm := ht.1 rfl
  obtain ⟨n, hn⟩ : ∃ n : Nat, d = (n : Int) := ⟨d.toNat, by have := hm.2.2.1; omega⟩
  subst hn
  have b1 := hm.2.2.1
  have hpb := hm.2.1.bd
  have sh := hm.1.1.shp
  have hn6 := sh.le
  have hal := hm.2.2.2.1
  have hq : SqL p n As := hm.2.2.2.2.1
  simp only [pwA, if_true, if_false, eq_self, nm_eq, reduceCtorEq, ↓reduceIte, Nat.reduceEqDiff, Nat.reduceLeDiff, Nat.reduceBEq, Nat.reduceAdd, Nat.reduceLT, Nat.reduceSub, Nat.reduceMul, Int.reduceEq, Int.reduceLT, Int.reduceLE, Int.reduceNeg, Int.reduceToNat, List.reduceReplicate, Int.ofNat_le, List.getElem?_drop]
  refine isExponents_ok hsp hR.O sz.O (pres_isP hm.1.1) hy0 szy fun t ht => ?_
  cases t with
  | false =>
    simp only [pwA, if_true, if_false, eq_self, nm_eq, reduceCtorEq, ↓reduceIte, Nat.reduceEqDiff, Nat.reduceLeDiff, Nat.reduceBEq, Nat.reduceAdd, Nat.reduceLT, Nat.reduceSub, Nat.reduceMul, Int.reduceEq, Int.reduceLT, Int.reduceLE, Int.reduceNeg, Int.reduceToNat, List.reduceReplicate, Int.ofNat_le, List.getElem?_drop, hwr0, hrd0]
    exact no fun h => by cases ht.2 h.2
  | true =>
  have hex := ht.1 rfl
  have hnw := hex.nx7 sh
  have hyl := hex.1
  simp only [pwA, if_true, if_false, eq_self, nm_eq, reduceCtorEq, ↓reduceIte, Nat.reduceEqDiff, Nat.reduceLeDiff, Nat.reduceBEq, Nat.reduceAdd, Nat.reduceLT, Nat.reduceSub, Nat.reduceMul, Int.reduceEq, Int.reduceLT, Int.reduceLE, Int.reduceNeg, Int.reduceToNat, List.reduceReplicate, Int.ofNat_le, List.getElem?_drop]
  refine normalWord_fz hnw (by omega) hy0 fun v1 hv1 => ?_
  simp only [pwA, if_true, if_false, eq_self, nm_eq, reduceCtorEq, ↓reduceIte, Nat.reduceEqDiff, Nat.reduceLeDiff, Nat.reduceBEq, Nat.reduceAdd, Nat.reduceLT, Nat.reduceSub, Nat.reduceMul, Int.reduceEq, Int.reduceLT, Int.reduceLE, Int.reduceNeg, Int.reduceToNat, List.reduceReplicate, Int.ofNat_le, List.getElem?_drop]
  have hwl : (nw y).length ≤ 42 := by
    have h1 := nword_length (x := y) (b := 7) (fun j => by have := hnw j; unfold nx; omega) y.length
    have e : y.length * 7 ≤ 42 := by omega
    show (nword y y.length).length ≤ 42
    omega
  refine actionOf_T (by omega) (by omega) hq (w := nw y) (fun l hl => by have := nword_in (x := y) (n := y.length) (Nat.le_refl _) l hl; omega) (by omega) (by omega) hs hA hv1 fun v2 t hv2 ho ht => ?_
  rw [show foldW (ms p n As) (nw y) (idm n) = act p n As y from foldW_nword _ _ _ _] at hv2
  rw [htop] at ho ht
  have hwr : (H.up t).wr (σ.next + 2) 0 [.int .i64 p, .int .i64 n, v2] = some ((H.up t).set (σ.next + 2) [.int .i64 p, .int .i64 n, v2]) := by
    rw [obj_wr (h := H.up t) (cs := [.int .i64 0, .int .i64 0, .fz true .nils 0 []]) hor, if_pos ⟨by simp, by simp only [List.all_cons, List.all_nil, hv2.one]; rfl⟩]; rfl
  have hrd : ((H.up t).set (σ.next + 2) [.int .i64 p, .int .i64 n, v2]).rd (σ.next + 2) 0 3 = some [.int .i64 p, .int .i64 n, v2] := by rw [prd_set, if_pos rfl]; rfl
  have hwr' : (H.wr (σ.next + 2) 0 [.int .i64 p, .int .i64 n, v2]).map (fun h' => h'.up t) = some ((H.up t).set (σ.next + 2) [.int .i64 p, .int .i64 n, v2]) := by rw [← pwr_up]; exact hwr
  simp only [pwA, if_true, if_false, eq_self, nm_eq, reduceCtorEq, ↓reduceIte, Nat.reduceEqDiff, Nat.reduceLeDiff, Nat.reduceBEq, Nat.reduceAdd, Nat.reduceLT, Nat.reduceSub, Nat.reduceMul, Int.reduceEq, Int.reduceLT, Int.reduceLE, Int.reduceNeg, Int.reduceToNat, List.reduceReplicate, Int.ofNat_le, List.getElem?_drop, hwr', hrd, hv2.one, hv2.cells]
  exact Gh.fin0T (t := t) ((hkp.up (by rw [htop]; exact ht)).set (by omega) _) (Nat.le_refl _) ⟨⟨trivial, trivial, hv2.bel _, trivial⟩, trivial, trivial⟩ fun _ => hk _ p n (act p n As y) _ t ⟨by unfold moRes; rw [if_pos ⟨hm, hex⟩]; rfl⟩ hv2 ho ht
theorem l01Own2_x {vL : PV} {xs : List (List Int)} (hL : FII vL xs) (sz : SzL xs) (hk : ∀ v, FII v xs → K v σ) : PCalls Try.prog 113 [vL] σ K := by
  have hb := sz.l
  obtain ⟨wl, al, rl, rfl, hrl⟩ := hL
  refine PCalls.gh ?_
  refine pcalls_of_vp mix Try.func113 cf113 rfl ?_
  dsimp only [if113, qI, eI, nI, qD, eD]
  simp only [pwA, if_true, if_false, eq_self, nm_eq, reduceCtorEq, ↓reduceIte, Nat.reduceEqDiff, Nat.reduceLeDiff, Nat.reduceBEq, Nat.reduceAdd, Nat.reduceLT, Nat.reduceSub, Nat.reduceMul, Int.reduceEq, Int.reduceLT, Int.reduceLE, Int.reduceNeg, Int.reduceToNat, List.reduceReplicate, Int.ofNat_le, List.getElem?_drop]
  refine vp_loop (fun m vs h' => ∃ i v rows, i ≤ xs.length ∧ m = xs.length - i ∧ vs = [.fz wl al xs.length rl, v, .int .i64 (i : Nat)] ∧ Keep σ h' ∧ PSl σ.next 1 h' v i rows ∧ All2 FI rows (xs.take i)) xs.length ?_ ?_
  · exact ⟨0, _, [], by omega, by omega, rfl, keep_new σ _, PSl.new σ.next 1 rfl (Nat.le_refl _), by simpa using All2.nil _⟩
  · rintro m vs h' ⟨i, v, rows, hi, rfl, rfl, hkp, ha, hall⟩
    simp only [pwA, if_true, if_false, eq_self, nm_eq, reduceCtorEq, ↓reduceIte, Nat.reduceEqDiff, Nat.reduceLeDiff, Nat.reduceBEq, Nat.reduceAdd, Nat.reduceLT, Nat.reduceSub, Nat.reduceMul, Int.reduceEq, Int.reduceLT, Int.reduceLE, Int.reduceNeg, Int.reduceToNat, List.reduceReplicate, Int.ofNat_le, List.getElem?_drop]
    refine iteI (fun hlt => ?_) fun hge => ?_
    · obtain ⟨w4, a4, hrk⟩ := hrl.rowI hlt
      simp only [pwA, if_true, if_false, eq_self, nm_eq, reduceCtorEq, ↓reduceIte, Nat.reduceEqDiff, Nat.reduceLeDiff, Nat.reduceBEq, Nat.reduceAdd, Nat.reduceLT, Nat.reduceSub, Nat.reduceMul, Int.reduceEq, Int.reduceLT, Int.reduceLE, Int.reduceNeg, Int.reduceToNat, List.reduceReplicate, Int.ofNat_le, List.getElem?_drop, hlt, hrk, List.getElem?_drop]
      refine PCalls.fz (e := 1) (fun K' => l01Own_ok rfl (by have := sz.r _ (List.getElem_mem hlt); omega)) (pis_bel _ _) fun o cap => ?_
      simp only [pwA, if_true, if_false, eq_self, nm_eq, reduceCtorEq, ↓reduceIte, Nat.reduceEqDiff, Nat.reduceLeDiff, Nat.reduceBEq, Nat.reduceAdd, Nat.reduceLT, Nat.reduceSub, Nat.reduceMul, Int.reduceEq, Int.reduceLT, Int.reduceLE, Int.reduceNeg, Int.reduceToNat, List.reduceReplicate, Int.ofNat_le, List.getElem?_drop]
      refine PSl.push (bytes := 24) (σb := σ) hkp ha (by omega) (by omega) fun v2 h2 k2 a2 => ?_
      simp only [pwA, if_true, if_false, eq_self, nm_eq, reduceCtorEq, ↓reduceIte, Nat.reduceEqDiff, Nat.reduceLeDiff, Nat.reduceBEq, Nat.reduceAdd, Nat.reduceLT, Nat.reduceSub, Nat.reduceMul, Int.reduceEq, Int.reduceLT, Int.reduceLE, Int.reduceNeg, Int.reduceToNat, List.reduceReplicate, Int.ofNat_le, List.getElem?_drop, wrapS hlt (by omega : xs.length ≤ 4611686018427387904)]
      refine ⟨_, by omega, i + 1, v2, _, by omega, rfl, rfl, k2, a2, ?_⟩
      rw [List.take_succ_eq_append_getElem hlt]
      exact hall.snoc ⟨_, _, rfl⟩
    · have hie : i = xs.length := by omega
      subst hie
      rw [List.take_length] at hall
      exact ha.fin hkp (hall.bI 0) fun o cap => hk _ ⟨_, _, _, rfl, hall⟩
theorem l02Make_ok (hF : FII vM F) (sz : SzL F) (hk : ∀ v, FII v F → K (.agg [.int .i64 p, .int .i64 d, v]) σ) : PCalls Try.prog 73 [.int .i64 p, .int .i64 d, vM] σ K := by
  refine PCalls.gh ?_
  refine pcalls_of_vp mix Try.func73 cf73 rfl ?_
  dsimp only [if73, qI, eI, nI, qD, eD]
  simp only [pwA, if_true, if_false, eq_self, nm_eq, reduceCtorEq, ↓reduceIte, Nat.reduceEqDiff, Nat.reduceLeDiff, Nat.reduceBEq, Nat.reduceAdd, Nat.reduceLT, Nat.reduceSub, Nat.reduceMul, Int.reduceEq, Int.reduceLT, Int.reduceLE, Int.reduceNeg, Int.reduceToNat, List.reduceReplicate, Int.ofNat_le, List.getElem?_drop]
  refine l01Own2_x hF sz fun v hv => ?_
  simp only [pwA, if_true, if_false, eq_self, nm_eq, reduceCtorEq, ↓reduceIte, Nat.reduceEqDiff, Nat.reduceLeDiff, Nat.reduceBEq, Nat.reduceAdd, Nat.reduceLT, Nat.reduceSub, Nat.reduceMul, Int.reduceEq, Int.reduceLT, Int.reduceLE, Int.reduceNeg, Int.reduceToNat, List.reduceReplicate, Int.ofNat_le, List.getElem?_drop, hv.one, hv.cells]
  exact Gh.fin0 (keep_new σ _) ⟨trivial, trivial, hv.bel _, trivial⟩ (hk _ hv)
theorem l21ActionOf_ok (hR : IsPr vO vP vC O P C) (sz : SzP O P C) (hA : FIII vA As) (szA : SzM As) (hy : FI vv y) (szy : y.length ≤ 1048576) (hk : ∀ v z1 z2 z c, ResR (moRes O P C p d As y) (z1, z2, z) c → FII v z → K (.tup [.agg [.int .i64 z1, .int .i64 z2, v], .int .i64 c]) σ) :
    PCalls Try.prog 28 [.agg [vO, vP, vC], .agg [.int .i64 p, .int .i64 d, vA], vv] σ K := by
  have h0 := hR.O.one
  have h1 := hR.P.one
  have h2 := hR.C.one
  have h3 := hA.one
  have hy0 := hy
  refine PCalls.gh ?_
  generalize hH : ((σ.new [vO, vP, vC]).new [.int .i64 p, .int .i64 d, vA]).new [.int .i64 0, .int .i64 0, .fz true .nils 0 []] = H
  have hkp : Keep σ H := by rw [← hH]; exact ((keep_new σ _).new _).new _
  have gp : H.rd σ.next 0 3 = some [vO, vP, vC] := by rw [← hH]; simp only [pwA, if_true, if_false, eq_self, nm_eq, reduceCtorEq, ↓reduceIte, Nat.reduceEqDiff, Nat.reduceLeDiff, Nat.reduceBEq, Nat.reduceAdd, Nat.reduceLT, Nat.reduceSub, Nat.reduceMul, Int.reduceEq, Int.reduceLT, Int.reduceLE, Int.reduceNeg, Int.reduceToNat, List.reduceReplicate, Int.ofNat_le, List.getElem?_drop]
  have g1 : H.rd (σ.next + 1) 0 3 = some [.int .i64 p, .int .i64 d, vA] := by rw [← hH]; simp only [pwA, if_true, if_false, eq_self, nm_eq, reduceCtorEq, ↓reduceIte, Nat.reduceEqDiff, Nat.reduceLeDiff, Nat.reduceBEq, Nat.reduceAdd, Nat.reduceLT, Nat.reduceSub, Nat.reduceMul, Int.reduceEq, Int.reduceLT, Int.reduceLE, Int.reduceNeg, Int.reduceToNat, List.reduceReplicate, Int.ofNat_le, List.getElem?_drop]
  have m0 : H.rd1 (σ.next + 1) 0 = some (.int .i64 p) := by rw [← hH]; simp only [pwA, if_true, if_false, eq_self, nm_eq, reduceCtorEq, ↓reduceIte, Nat.reduceEqDiff, Nat.reduceLeDiff, Nat.reduceBEq, Nat.reduceAdd, Nat.reduceLT, Nat.reduceSub, Nat.reduceMul, Int.reduceEq, Int.reduceLT, Int.reduceLE, Int.reduceNeg, Int.reduceToNat, List.reduceReplicate, Int.ofNat_le, List.getElem?_drop]
  have m1 : H.rd1 (σ.next + 1) 1 = some (.int .i64 d) := by rw [← hH]; simp only [pwA, if_true, if_false, eq_self, nm_eq, reduceCtorEq, ↓reduceIte, Nat.reduceEqDiff, Nat.reduceLeDiff, Nat.reduceBEq, Nat.reduceAdd, Nat.reduceLT, Nat.reduceSub, Nat.reduceMul, Int.reduceEq, Int.reduceLT, Int.reduceLE, Int.reduceNeg, Int.reduceToNat, List.reduceReplicate, Int.ofNat_le, List.getElem?_drop]
  have hor : H.obj (σ.next + 2) = some [.int .i64 0, .int .i64 0, .fz true .nils 0 []] := by rw [← hH]; simp only [pwA, if_true, if_false, eq_self, nm_eq, reduceCtorEq, ↓reduceIte, Nat.reduceEqDiff, Nat.reduceLeDiff, Nat.reduceBEq, Nat.reduceAdd, Nat.reduceLT, Nat.reduceSub, Nat.reduceMul, Int.reduceEq, Int.reduceLT, Int.reduceLE, Int.reduceNeg, Int.reduceToNat, List.reduceReplicate, Int.ofNat_le, List.getElem?_drop]
  have no : ¬ (isMod O P C p d As ∧ isExp O y) → Gh σ K (.tup [.agg [.int .i64 0, .int .i64 0, .fz true .nils 0 []], .int .i64 1]) (H.set (σ.next + 2) [.int .i64 0, .int .i64 0, .fz true .nils 0 []]) := fun h => Gh.fin0 (hkp.set (by omega) _) ⟨⟨trivial, trivial, trivial, trivial⟩, trivial, trivial⟩ (hk _ 0 0 [] _ ⟨by unfold moRes; rw [if_neg h]⟩ ⟨_, _, [], rfl, All2.nil _⟩)
  have hwr0 : H.wr (σ.next + 2) 0 [.int .i64 0, .int .i64 0, .fz true .nils 0 []] = some (H.set (σ.next + 2) [.int .i64 0, .int .i64 0, .fz true .nils 0 []]) := by
    rw [obj_wr hor, if_pos ⟨by simp, by rfl⟩]; rfl
  have hrd0 : (H.set (σ.next + 2) [.int .i64 0, .int .i64 0, .fz true .nils 0 []]).rd (σ.next + 2) 0 3 = some [.int .i64 0, .int .i64 0, .fz true .nils 0 []] := by rw [prd_set, if_pos rfl]; rfl
  refine pcalls_of_vp mix Try.func28 cf28 rfl ?_
  dsimp only [if28, qI, eI, nI, qD, eD]
  simp only [pwA, if_true, if_false, eq_self, nm_eq, reduceCtorEq, ↓reduceIte, Nat.reduceEqDiff, Nat.reduceLeDiff, Nat.reduceBEq, Nat.reduceAdd, Nat.reduceLT, Nat.reduceSub, Nat.reduceMul, Int.reduceEq, Int.reduceLT, Int.reduceLE, Int.reduceNeg, Int.reduceToNat, List.reduceReplicate, Int.ofNat_le, List.getElem?_drop, h0, h1, h2, h3, hH, gp, g1]
  refine l21Module_ok hR sz hA szA fun t ht => ?_
  cases t with
  | false =>
    simp only [pwA, if_true, if_false, eq_self, nm_eq, reduceCtorEq, ↓reduceIte, Nat.reduceEqDiff, Nat.reduceLeDiff, Nat.reduceBEq, Nat.reduceAdd, Nat.reduceLT, Nat.reduceSub, Nat.reduceMul, Int.reduceEq, Int.reduceLT, Int.reduceLE, Int.reduceNeg, Int.reduceToNat, List.reduceReplicate, Int.ofNat_le, List.getElem?_drop, hH, hwr0, hrd0]
    exact no fun h => by cases ht.2 h.1
  | true =>
  have hm := ht.1 rfl
  obtain ⟨n, hn⟩ : ∃ n : Nat, d = (n : Int) := ⟨d.toNat, by have := hm.2.2.1; omega⟩
  subst hn
  have b1 := hm.2.2.1
  have hpb := hm.2.1.bd
  have sh := hm.1.1.shp
  have hn6 := sh.le
  have hal := hm.2.2.2.1
  have hq : SqL p n As := hm.2.2.2.2.1
  simp only [pwA, if_true, if_false, eq_self, nm_eq, reduceCtorEq, ↓reduceIte, Nat.reduceEqDiff, Nat.reduceLeDiff, Nat.reduceBEq, Nat.reduceAdd, Nat.reduceLT, Nat.reduceSub, Nat.reduceMul, Int.reduceEq, Int.reduceLT, Int.reduceLE, Int.reduceNeg, Int.reduceToNat, List.reduceReplicate, Int.ofNat_le, List.getElem?_drop, hH, gp]
  refine l10Element_ok hR sz.O (pres_isP hm.1.1) hy0 szy fun t ht => ?_
  cases t with
  | false =>
    simp only [pwA, if_true, if_false, eq_self, nm_eq, reduceCtorEq, ↓reduceIte, Nat.reduceEqDiff, Nat.reduceLeDiff, Nat.reduceBEq, Nat.reduceAdd, Nat.reduceLT, Nat.reduceSub, Nat.reduceMul, Int.reduceEq, Int.reduceLT, Int.reduceLE, Int.reduceNeg, Int.reduceToNat, List.reduceReplicate, Int.ofNat_le, List.getElem?_drop, hwr0, hrd0]
    exact no fun h => by cases ht.2 h.2
  | true =>
  have hex := ht.1 rfl
  have hyl := hex.1
  simp only [pwA, if_true, if_false, eq_self, nm_eq, reduceCtorEq, ↓reduceIte, Nat.reduceEqDiff, Nat.reduceLeDiff, Nat.reduceBEq, Nat.reduceAdd, Nat.reduceLT, Nat.reduceSub, Nat.reduceMul, Int.reduceEq, Int.reduceLT, Int.reduceLE, Int.reduceNeg, Int.reduceToNat, List.reduceReplicate, Int.ofNat_le, List.getElem?_drop, m0, m1, g1]
  refine l21Act_ok (by omega) (by omega) hq (hex.nx7 sh) (by omega) (by omega) hA hy0 fun v2 hv2 => ?_
  have ha := act_in (p := p) (n := n) (by omega) hq (x := y) (by omega)
  simp only [pwA, if_true, if_false, eq_self, nm_eq, reduceCtorEq, ↓reduceIte, Nat.reduceEqDiff, Nat.reduceLeDiff, Nat.reduceBEq, Nat.reduceAdd, Nat.reduceLT, Nat.reduceSub, Nat.reduceMul, Int.reduceEq, Int.reduceLT, Int.reduceLE, Int.reduceNeg, Int.reduceToNat, List.reduceReplicate, Int.ofNat_le, List.getElem?_drop, m0, m1, g1]
  refine l02Make_ok (F := act p n As y) hv2 ⟨by rw [ha.1]; omega, fun r hr => by rw [(ha.2 r hr).len]; omega⟩ fun v3 hv3 => ?_
  have hwr : H.wr (σ.next + 2) 0 [.int .i64 p, .int .i64 n, v3] = some (H.set (σ.next + 2) [.int .i64 p, .int .i64 n, v3]) := by
    rw [obj_wr hor, if_pos ⟨by simp, by simp only [List.all_cons, List.all_nil, hv3.one]; rfl⟩]; rfl
  have hrd : (H.set (σ.next + 2) [.int .i64 p, .int .i64 n, v3]).rd (σ.next + 2) 0 3 = some [.int .i64 p, .int .i64 n, v3] := by rw [prd_set, if_pos rfl]; rfl
  simp only [pwA, if_true, if_false, eq_self, nm_eq, reduceCtorEq, ↓reduceIte, Nat.reduceEqDiff, Nat.reduceLeDiff, Nat.reduceBEq, Nat.reduceAdd, Nat.reduceLT, Nat.reduceSub, Nat.reduceMul, Int.reduceEq, Int.reduceLT, Int.reduceLE, Int.reduceNeg, Int.reduceToNat, List.reduceReplicate, Int.ofNat_le, List.getElem?_drop, hwr, hrd, hv3.one, hv3.cells]
  exact Gh.fin0 (hkp.set (by omega) _) ⟨⟨trivial, trivial, hv3.bel _, trivial⟩, trivial, trivial⟩ (hk _ p n (act p n As y) _ ⟨by unfold moRes; rw [if_pos ⟨hm, hex⟩]; rfl⟩ hv3)
theorem heldMatrix_ok {k : Int} (hI : FII vM (sqL sqI List.length k F)) (sz : SzL F) (hk0 : 0 ≤ k) (hk1 : k + totL List.length F ≤ 4611686018427387904) (hk : K (.int .i64 (k + totL List.length F)) σ) : PCalls Try.prog 32 [.agg [.int .i64 p, .int .i64 d, vM], .int .i64 k] σ K := by
  have h1 := hI.one
  refine PCalls.gh ?_
  refine pcalls_of_vp mix Try.func32 cf32 rfl ?_
  dsimp only [if32, qI, eI, nI, qD, eD]
  simp only [pwA, if_true, if_false, eq_self, nm_eq, reduceCtorEq, ↓reduceIte, Nat.reduceEqDiff, Nat.reduceLeDiff, Nat.reduceBEq, Nat.reduceAdd, Nat.reduceLT, Nat.reduceSub, Nat.reduceMul, Int.reduceEq, Int.reduceLT, Int.reduceLE, Int.reduceNeg, Int.reduceToNat, List.reduceReplicate, Int.ofNat_le, List.getElem?_drop, h1]
  refine heldInt64SS_ok hI (by have := sz.l; omega) (fun y hy => by have := sz.r y hy; omega) hk0 hk1 ?_
  have hn : ¬ (k + (totL List.length F : Int) < 0) := by omega
  simp only [pwA, if_true, if_false, eq_self, nm_eq, reduceCtorEq, ↓reduceIte, Nat.reduceEqDiff, Nat.reduceLeDiff, Nat.reduceBEq, Nat.reduceAdd, Nat.reduceLT, Nat.reduceSub, Nat.reduceMul, Int.reduceEq, Int.reduceLT, Int.reduceLE, Int.reduceNeg, Int.reduceToNat, List.reduceReplicate, Int.ofNat_le, List.getElem?_drop, hn]
  exact Gh.fin0 (keep_new σ _) trivial hk
end Go.Proofs
