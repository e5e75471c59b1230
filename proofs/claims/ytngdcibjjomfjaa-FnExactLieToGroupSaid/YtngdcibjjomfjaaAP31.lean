/- What a law is handed, laid as frozen values: Lie rings, lists of elements. -/
import Derived.Test.YtngdcibjjomfjaaAP30
import Derived.Test.YtngdcibjjomfjaaAP26
import Derived.Test.YtngdcibjjomfjaaAP28
import Derived.Test.YtngdcibjjomfjaaAAbPt
import Derived.Test.YtngdcibjjomfjaaChecked
import Derived.Test.YtngdcibjjomfjaaRows
import Derived.Lib.SmallJoins
import Derived.WalkKit
import Derived.ProofKit
set_option linter.unusedSimpArgs false
set_option linter.unusedVariables false
namespace Go.Proofs
open Go.Ab Go.Lie
variable {σ : PHeap} {K : PV → PHeap → Prop} {p p' : Int} {n : Nat} {W : List (List Int)} {B : List (List (List Int))} {vP vB vL vU vV : PV} {s : Nat}
theorem okF132 : okF Try.prog 191 = true := by kernel_rfl
theorem series_ok {b : Nat} (hb : σ.obj b = some [.ptr s 0]) (hbl : b < σ.next) (hs : PtrR σ s p vP vB) (hR : IsR vP vB W B) (o : OkW p n W) (q : OkB p n B) (hp : isP p) (hU : FII vU (units n))
    (hk : ∀ c a rows, Cls p n W B c → K (.fz true a (c + 1) rows) σ) : PCalls Try.prog 167 [vU, .clo 191 [] [.ptr b 0]] σ K := by
  have hn6 := o.le
  have h1 := hU.one
  have h1c := hU.cells
  refine PCalls.gh ?_
  refine pcalls_of_vp mix Try.func167 cf167 rfl ?_
  dsimp only [if167, qI, eI, nI, qD, eD]
  simp only [pwA, if_true, if_false, eq_self, nm_eq, reduceCtorEq, ↓reduceIte, Nat.reduceEqDiff, Nat.reduceLeDiff, Nat.reduceBEq, Nat.reduceAdd, Nat.reduceLT, Nat.reduceSub, Nat.reduceMul, Int.reduceEq, Int.reduceLT, Int.reduceLE, Int.reduceNeg, Int.reduceToNat, List.reduceReplicate, Int.ofNat_le, List.getElem?_drop, h1, h1c]
  refine vp_loop (fun m vs h' => ∃ k u us rows v, m = n + 1 - k ∧ k ≤ n + 1 ∧ vs = [.clo 191 [] [.ptr b 0], v] ∧ Keep σ h' ∧ PSl σ.next 1 h' v (k + 1) rows ∧ All2 FII rows us ∧ us.length = k + 1 ∧ us[k]? = some u ∧ Low p n W B k u ∧ ∀ j u', j < k → Low p n W B j u' → u' ≠ []) (n + 1) ?_ ?_
  · exact ⟨0, units n, [units n], [vU], _, by omega, by omega, rfl, keep_new σ _, PSl.new _ 1 rfl (Nat.le_refl _), All2.nil _ |>.snoc hU, rfl, rfl, .zero, fun j u' hj => by omega⟩
  rintro m vs h' ⟨k, u, us, rows, v, rfl, hkn, rfl, hkp, ha, hall, hul, huk, hlow, hbef⟩
  obtain ⟨s', cap, rfl, hc, q2, q3, q4, q5⟩ := ha
  have hku : k < us.length := by omega
  obtain ⟨vk, hvk, hFk⟩ := hall.get hku
  have huk' : us[k] = u := by rw [List.getElem?_eq_getElem hku] at huk; exact Option.some.inj huk
  rw [huk'] at hFk
  have hrd : h'.rd1 s' k = some vk := by rw [obj_rd1 q2]; exact hvk
  have hw : IntKind.i64.wrap (((k + 1 : Nat) : Int) - 1) = (k : Int) := by rw [wrap64 (by omega) (by omega)]; omega
  have hkk : k < k + 1 := Nat.lt_succ_self k
  obtain ⟨e1, e2⟩ := hlow.els o
  have hb' : h'.rd1 b 0 = some (.ptr s 0) := by rw [obj_rd1 (by rw [hkp.obj b hbl]; exact hb)]; rfl
  have hFF := hFk
  obtain ⟨wk, ak, rk, rfl, hrk⟩ := hFk
  simp only [pwA, if_true, if_false, eq_self, nm_eq, reduceCtorEq, ↓reduceIte, Nat.reduceEqDiff, Nat.reduceLeDiff, Nat.reduceBEq, Nat.reduceAdd, Nat.reduceLT, Nat.reduceSub, Nat.reduceMul, Int.reduceEq, Int.reduceLT, Int.reduceLE, Int.reduceNeg, Int.reduceToNat, List.reduceReplicate, Int.ofNat_le, List.getElem?_drop, hw, hkk, hrd]
  refine ⟨okF132, next_ok hb' (hs.keep hkp) hR o q hp hFF e1 (by omega) fun vo out hcan hFo => ?_⟩
  have hFFo := hFo
  obtain ⟨wo, ao, ro, rfl, hro⟩ := hFo
  have hol : out.length ≤ n := asc_length (fun v hv => (hcan.base.led v hv).2.1) hcan.base.asc
  simp only [pwA, if_true, if_false, eq_self, nm_eq, reduceCtorEq, ↓reduceIte, Nat.reduceEqDiff, Nat.reduceLeDiff, Nat.reduceBEq, Nat.reduceAdd, Nat.reduceLT, Nat.reduceSub, Nat.reduceMul, Int.reduceEq, Int.reduceLT, Int.reduceLE, Int.reduceNeg, Int.reduceToNat, List.reduceReplicate, Int.ofNat_le, List.getElem?_drop, hw, hkk, hrd]
  refine sameRows_ok hFFo hFF (by omega) (fun x hx => by rw [(hcan.base.els x hx).1]; omega) fun t ht => ?_
  cases t
  · have hne : out ≠ u := fun e => by have := ht.2 e; cases this
    have hune : u ≠ [] := fun e => by
      subst e
      exact hne (nil_nil o q hcan)
    have hkn' := hlow.le o q hune
    simp only [pwA, if_true, if_false, eq_self, nm_eq, reduceCtorEq, ↓reduceIte, Nat.reduceEqDiff, Nat.reduceLeDiff, Nat.reduceBEq, Nat.reduceAdd, Nat.reduceLT, Nat.reduceSub, Nat.reduceMul, Int.reduceEq, Int.reduceLT, Int.reduceLE, Int.reduceNeg, Int.reduceToNat, List.reduceReplicate, Int.ofNat_le, List.getElem?_drop]
    refine PSl.push (bytes := 24) (σb := σ) hkp ⟨s', cap, rfl, hc, q2, q3, q4, q5⟩ (by omega) (by omega) fun v2 h2 k2 a2 => ?_
    simp only [pwA, if_true, if_false, eq_self, nm_eq, reduceCtorEq, ↓reduceIte, Nat.reduceEqDiff, Nat.reduceLeDiff, Nat.reduceBEq, Nat.reduceAdd, Nat.reduceLT, Nat.reduceSub, Nat.reduceMul, Int.reduceEq, Int.reduceLT, Int.reduceLE, Int.reduceNeg, Int.reduceToNat, List.reduceReplicate, Int.ofNat_le, List.getElem?_drop]
    refine ⟨_, ?_, k + 1, out, us ++ [out], _, v2, rfl, by omega, rfl, k2, a2, hall.snoc hFFo, by rw [List.length_append, hul]; rfl, ?_, .succ hlow hcan, fun j u' hj hl => ?_⟩
    · omega
    · rw [List.getElem?_append_right (by omega), hul, Nat.sub_self]; rfl
    · by_cases x : j = k
      · subst x
        rw [hl.unique o hlow]; exact hune
      · exact hbef j u' (by omega) hl
  · obtain rfl : out = u := ht.1 rfl
    obtain rfl : out = [] := same_nil o q hcan
    simp only [pwA, if_true, if_false, eq_self, nm_eq, reduceCtorEq, ↓reduceIte, Nat.reduceEqDiff, Nat.reduceLeDiff, Nat.reduceBEq, Nat.reduceAdd, Nat.reduceLT, Nat.reduceSub, Nat.reduceMul, Int.reduceEq, Int.reduceLT, Int.reduceLE, Int.reduceNeg, Int.reduceToNat, List.reduceReplicate, Int.ofNat_le, List.getElem?_drop]
    exact Gh.finF hkp q2 q4 (hall.bL 0) hc.ok fun o1 => hk k _ _ ⟨hlow, hbef⟩
theorem lowerLie_ok (hs : PtrR σ s p vP vB) (hR : IsR vP vB W B) (o : OkW p n W) (q : OkB p n B) (hp : isP p) (hk : ∀ c a rows, Cls p n W B c → K (.fz true a (c + 1) rows) σ) : PCalls Try.prog 145 [.ptr s 0] σ K := by
  have hn6 := o.le
  refine PCalls.gh ?_
  refine pcalls_of_vp mix Try.func145 cf145 rfl ?_
  dsimp only [if145, qI, eI, nI, qD, eD]
  simp only [pwA, if_true, if_false, eq_self, nm_eq, reduceCtorEq, ↓reduceIte, Nat.reduceEqDiff, Nat.reduceLeDiff, Nat.reduceBEq, Nat.reduceAdd, Nat.reduceLT, Nat.reduceSub, Nat.reduceMul, Int.reduceEq, Int.reduceLT, Int.reduceLE, Int.reduceNeg, Int.reduceToNat, List.reduceReplicate, Int.ofNat_le, List.getElem?_drop]
  have hs1 := hs.new [.ptr s 0]
  refine wholeLie_ok hs1 hR.P o.len (by omega) fun vV hV => ?_
  have hVV := hV
  obtain ⟨wv, av, rv, rfl, hrv⟩ := hV
  simp only [pwA, if_true, if_false, eq_self, nm_eq, reduceCtorEq, ↓reduceIte, Nat.reduceEqDiff, Nat.reduceLeDiff, Nat.reduceBEq, Nat.reduceAdd, Nat.reduceLT, Nat.reduceSub, Nat.reduceMul, Int.reduceEq, Int.reduceLT, Int.reduceLE, Int.reduceNeg, Int.reduceToNat, List.reduceReplicate, Int.ofNat_le, List.getElem?_drop]
  refine series_ok (b := σ.next) (by simp only [pwA, if_true, if_false, eq_self, nm_eq, reduceCtorEq, ↓reduceIte, Nat.reduceEqDiff, Nat.reduceLeDiff, Nat.reduceBEq, Nat.reduceAdd, Nat.reduceLT, Nat.reduceSub, Nat.reduceMul, Int.reduceEq, Int.reduceLT, Int.reduceLE, Int.reduceNeg, Int.reduceToNat, List.reduceReplicate, Int.ofNat_le, List.getElem?_drop]) (by simp only [pwA, if_true, if_false, eq_self, nm_eq, reduceCtorEq, ↓reduceIte, Nat.reduceEqDiff, Nat.reduceLeDiff, Nat.reduceBEq, Nat.reduceAdd, Nat.reduceLT, Nat.reduceSub, Nat.reduceMul, Int.reduceEq, Int.reduceLT, Int.reduceLE, Int.reduceNeg, Int.reduceToNat, List.reduceReplicate, Int.ofNat_le, List.getElem?_drop]) hs1 hR o q hp hVV fun c a rows hc => ?_
  simp only [pwA, if_true, if_false, eq_self, nm_eq, reduceCtorEq, ↓reduceIte, Nat.reduceEqDiff, Nat.reduceLeDiff, Nat.reduceBEq, Nat.reduceAdd, Nat.reduceLT, Nat.reduceSub, Nat.reduceMul, Int.reduceEq, Int.reduceLT, Int.reduceLE, Int.reduceNeg, Int.reduceToNat, List.reduceReplicate, Int.ofNat_le, List.getElem?_drop]
  exact Gh.fin0 (keep_new σ _) trivial (hk c a rows hc)
def isLz (p : Int) (n : Nat) (W : List (List Int)) (B : List (List (List Int))) : Prop := ∃ c, Cls p n W B c ∧ (c : Int) < p
theorem lz_iff {c : Nat} (h : Cls p n W B c) : isLz p n W B ↔ (c : Int) < p := ⟨fun ⟨d, h1, h2⟩ => by rw [h.unique h1]; exact h2, fun e => ⟨c, h, e⟩⟩
theorem isLazard_ok (hs : PtrR σ s p vP vB) (hR : IsR vP vB W B) (o : OkW p n W) (q : OkB p n B) (hp : isP p) (hk : ∀ t : Bool, (t = true ↔ isLz p n W B) → K (.bool t) σ) : PCalls Try.prog 95 [.ptr s 0] σ K := by
  have hn6 := o.le
  have hp0 : σ.rd1 s 0 = some (.int .i64 p) := by rw [obj_rd1 hs.obj]; rfl
  refine pcalls_of_vp mix Try.func95 cf95 rfl ?_
  dsimp only [if95, qI, eI, nI, qD, eD]
  simp only [pwA, if_true, if_false, eq_self, nm_eq, reduceCtorEq, ↓reduceIte, Nat.reduceEqDiff, Nat.reduceLeDiff, Nat.reduceBEq, Nat.reduceAdd, Nat.reduceLT, Nat.reduceSub, Nat.reduceMul, Int.reduceEq, Int.reduceLT, Int.reduceLE, Int.reduceNeg, Int.reduceToNat, List.reduceReplicate, Int.ofNat_le, List.getElem?_drop, hp0]
  refine lowerLie_ok hs hR o q hp fun c a rows hc => ?_
  have hcn : c ≤ n + 1 := by
    rcases Nat.lt_or_ge n c with x | x
    · obtain ⟨c', rfl⟩ : ∃ c', c = c' + 1 := ⟨c - 1, by omega⟩
      obtain ⟨h1, h2⟩ := hc
      cases h1 with
      | succ h hcan => exact Nat.succ_le_succ (h.le o q (h2 _ _ (Nat.lt_succ_self _) h))
    · omega
  have hw : IntKind.i64.wrap (((c + 1 : Nat) : Int) - 1) = (c : Int) := by rw [wrap64 (by omega) (by omega)]; omega
  simp only [pwA, if_true, if_false, eq_self, nm_eq, reduceCtorEq, ↓reduceIte, Nat.reduceEqDiff, Nat.reduceLeDiff, Nat.reduceBEq, Nat.reduceAdd, Nat.reduceLT, Nat.reduceSub, Nat.reduceMul, Int.reduceEq, Int.reduceLT, Int.reduceLE, Int.reduceNeg, Int.reduceToNat, List.reduceReplicate, Int.ofNat_le, List.getElem?_drop, hw]
  refine ⟨hp0, hk _ ?_⟩
  rw [lz_iff hc, decide_eq_true_eq]
end Go.Proofs
set_option linter.unusedSimpArgs false
set_option linter.unusedVariables false
namespace Go.Proofs
open Go.Ab Go.Lie
variable {σ : PHeap} {K : PV → PHeap → Prop} {p p' : Int} {n : Nat} {W : List (List Int)} {B : List (List (List Int))} {vP vB vL vU vV : PV} {s : Nat}
theorem l32Brackets_ok {u v : List (List Int)} (hR : IsR vP vB W B) (o : OkW p n W) (q : OkB p n B) (hp : isP p) (hU : FII vU u) (hV : FII vV v) (eu : Els p n u) (ev : Els p n v) (hul : u.length ≤ 6) (hvl : v.length ≤ 6)
    (hk : ∀ z out, Canon p n W (brL p W B n u v) out → FII z out → K z σ) : PCalls Try.prog 207 [.agg [.int .i64 p, vP, vB], vU, vV] σ K := by
  have h1 := hR.P.one
  have h2 := hR.B.one
  obtain ⟨wu, au, ru, rfl, hru⟩ := hU
  obtain ⟨wv, av, rv, rfl, hrv⟩ := hV
  have bnd : ∀ (i j : Nat), i < u.length → j ≤ v.length → (brL p W B n (u.take i) v ++ (v.take j).map fun y => br p W B n (u.getD i []) y).length ≤ 42 := fun i j hi hj => by
    rw [List.length_append, brL_length, List.length_map, List.length_take, List.length_take]
    have : min i u.length * v.length ≤ 6 * 6 := Nat.mul_le_mul (by omega) hvl
    omega
  refine PCalls.gh ?_
  refine pcalls_of_vp mix Try.func207 cf207 rfl ?_
  dsimp only [if207, qI, eI, nI, qD, eD]
  simp only [pwA, if_true, if_false, eq_self, nm_eq, reduceCtorEq, ↓reduceIte, Nat.reduceEqDiff, Nat.reduceLeDiff, Nat.reduceBEq, Nat.reduceAdd, Nat.reduceLT, Nat.reduceSub, Nat.reduceMul, Int.reduceEq, Int.reduceLT, Int.reduceLE, Int.reduceNeg, Int.reduceToNat, List.reduceReplicate, Int.ofNat_le, List.getElem?_drop, h1, h2]
  generalize hH : σ.new [.int .i64 p, vP, vB] = H
  have hHn : H.next = σ.next + 1 := by rw [← hH]; simp only [pwA, if_true, if_false, eq_self, nm_eq, reduceCtorEq, ↓reduceIte, Nat.reduceEqDiff, Nat.reduceLeDiff, Nat.reduceBEq, Nat.reduceAdd, Nat.reduceLT, Nat.reduceSub, Nat.reduceMul, Int.reduceEq, Int.reduceLT, Int.reduceLE, Int.reduceNeg, Int.reduceToNat, List.reduceReplicate, Int.ofNat_le, List.getElem?_drop]
  have hHk : Keep σ H := by rw [← hH]; exact keep_new σ _
  have hob : H.obj σ.next = some [.int .i64 p, vP, vB] := by rw [← hH]; simp only [pwA, if_true, if_false, eq_self, nm_eq, reduceCtorEq, ↓reduceIte, Nat.reduceEqDiff, Nat.reduceLeDiff, Nat.reduceBEq, Nat.reduceAdd, Nat.reduceLT, Nat.reduceSub, Nat.reduceMul, Int.reduceEq, Int.reduceLT, Int.reduceLE, Int.reduceNeg, Int.reduceToNat, List.reduceReplicate, Int.ofNat_le, List.getElem?_drop]
  refine vp_loop (fun m vs h' => ∃ (i : Nat) (z : PV) (rows : List PV), i ≤ u.length ∧ m = u.length - i ∧ vs = [.fz wu au u.length ru, .fz wv av v.length rv, .ptr σ.next 0, z, .int .i64 i] ∧ Keep H h' ∧ PSl H.next 1 h' z (brL p W B n (u.take i) v).length rows ∧ All2 FI rows (brL p W B n (u.take i) v)) u.length ?_ ?_
  · refine ⟨0, _, [], by omega, by omega, rfl, keep_new H _, ?_, by rw [List.take_zero]; exact All2.nil _⟩
    rw [← hHn]
    exact PSl.new H.next 1 rfl (Nat.le_refl _)
  rintro m vs h' ⟨i, z, rows, hi, rfl, rfl, hkp, ha, hrows⟩
  simp only [pwA, if_true, if_false, eq_self, nm_eq, reduceCtorEq, ↓reduceIte, Nat.reduceEqDiff, Nat.reduceLeDiff, Nat.reduceBEq, Nat.reduceAdd, Nat.reduceLT, Nat.reduceSub, Nat.reduceMul, Int.reduceEq, Int.reduceLT, Int.reduceLE, Int.reduceNeg, Int.reduceToNat, List.reduceReplicate, Int.ofNat_le, List.getElem?_drop]
  refine iteI (fun hlt => ?_) fun hge => ?_
  · obtain ⟨w4, a4, hr⟩ := hru.rowI hlt
    have hui := eu _ (List.getElem_mem hlt)
    have hgd : u.getD i [] = u[i] := by simp [List.getD_eq_getElem?_getD, hlt]
    refine vp_loop (fun m vs h' => ∃ (j : Nat) (z : PV) (rows : List PV), j ≤ v.length ∧ m = v.length - j ∧ vs = [.fz wu au u.length ru, .fz wv av v.length rv, .ptr σ.next 0, z, .int .i64 i, .int .i64 j] ∧ Keep H h' ∧
      PSl H.next 1 h' z (brL p W B n (u.take i) v ++ (v.take j).map fun y => br p W B n (u.getD i []) y).length rows ∧ All2 FI rows (brL p W B n (u.take i) v ++ (v.take j).map fun y => br p W B n (u.getD i []) y)) v.length ?_ ?_
    · exact ⟨0, z, rows, by omega, by omega, rfl, hkp, by simpa using ha, by simpa using hrows⟩
    clear hkp ha hrows z rows
    rintro m vs h' ⟨j, z, rows, hj, rfl, rfl, hkp, ha, hrows⟩
    have hob' : h'.obj σ.next = some [.int .i64 p, vP, vB] := by rw [hkp.obj _ (by omega)]; exact hob
    have hr3 : h'.rd σ.next 0 3 = some [.int .i64 p, vP, vB] := by rw [obj_rd hob']; rfl
    simp only [pwA, if_true, if_false, eq_self, nm_eq, reduceCtorEq, ↓reduceIte, Nat.reduceEqDiff, Nat.reduceLeDiff, Nat.reduceBEq, Nat.reduceAdd, Nat.reduceLT, Nat.reduceSub, Nat.reduceMul, Int.reduceEq, Int.reduceLT, Int.reduceLE, Int.reduceNeg, Int.reduceToNat, List.reduceReplicate, Int.ofNat_le, List.getElem?_drop]
    refine iteI (fun hlj => ?_) fun hgj => ?_
    · obtain ⟨w5, a5, hr5⟩ := hrv.rowI hlj
      have hvj := ev _ (List.getElem_mem hlj)
      simp only [pwA, if_true, if_false, eq_self, nm_eq, reduceCtorEq, ↓reduceIte, Nat.reduceEqDiff, Nat.reduceLeDiff, Nat.reduceBEq, Nat.reduceAdd, Nat.reduceLT, Nat.reduceSub, Nat.reduceMul, Int.reduceEq, Int.reduceLT, Int.reduceLE, Int.reduceNeg, Int.reduceToNat, List.reduceReplicate, Int.ofNat_le, List.getElem?_drop, hlj, hr5, hlt, hr, hr3, List.getElem?_drop]
      refine l31Bracket_ok hR o q hui hvj rfl rfl fun a6 => ?_
      have hb := bnd i j hlt hj
      simp only [pwA, if_true, if_false, eq_self, nm_eq, reduceCtorEq, ↓reduceIte, Nat.reduceEqDiff, Nat.reduceLeDiff, Nat.reduceBEq, Nat.reduceAdd, Nat.reduceLT, Nat.reduceSub, Nat.reduceMul, Int.reduceEq, Int.reduceLT, Int.reduceLE, Int.reduceNeg, Int.reduceToNat, List.reduceReplicate, Int.ofNat_le, List.getElem?_drop]
      refine PSl.push (bytes := 24) hkp ha (by omega) (by omega) fun v' h2 k2 a2 => ?_
      simp only [pwA, if_true, if_false, eq_self, nm_eq, reduceCtorEq, ↓reduceIte, Nat.reduceEqDiff, Nat.reduceLeDiff, Nat.reduceBEq, Nat.reduceAdd, Nat.reduceLT, Nat.reduceSub, Nat.reduceMul, Int.reduceEq, Int.reduceLT, Int.reduceLE, Int.reduceNeg, Int.reduceToNat, List.reduceReplicate, Int.ofNat_le, List.getElem?_drop, wrapS hlj (by omega : v.length ≤ 4611686018427387904)]
      have e : (brL p W B n (u.take i) v ++ (v.take (j + 1)).map fun y => br p W B n (u.getD i []) y) = (brL p W B n (u.take i) v ++ (v.take j).map fun y => br p W B n (u.getD i []) y) ++ [br p W B n u[i] v[j]] := by
        rw [List.take_succ_eq_append_getElem hlj, List.map_append, List.append_assoc, hgd]; rfl
      refine ⟨_, by omega, j + 1, v', rows ++ [.fz true a6 n (pis (br p W B n u[i] v[j]))], by omega, rfl, rfl, k2, ?_, ?_⟩
      · rw [e, List.length_append]
        exact a2
      · rw [e]
        exact hrows.snoc ⟨true, a6, by rw [(br_el o q).1]⟩
    · have hje : j = v.length := by omega
      subst hje
      have e : (brL p W B n (u.take i) v ++ (v.take v.length).map fun y => br p W B n (u.getD i []) y) = brL p W B n (u.take (i + 1)) v := by
        rw [List.take_length, List.take_succ_eq_append_getElem hlt, brL_snoc, hgd]
      rw [e] at ha hrows
      simp only [pwA, if_true, if_false, eq_self, nm_eq, reduceCtorEq, ↓reduceIte, Nat.reduceEqDiff, Nat.reduceLeDiff, Nat.reduceBEq, Nat.reduceAdd, Nat.reduceLT, Nat.reduceSub, Nat.reduceMul, Int.reduceEq, Int.reduceLT, Int.reduceLE, Int.reduceNeg, Int.reduceToNat, List.reduceReplicate, Int.ofNat_le, List.getElem?_drop, wrapS hlt (by omega : u.length ≤ 4611686018427387904)]
      exact ⟨_, by omega, i + 1, z, rows, by omega, rfl, rfl, hkp, ha, hrows⟩
  · have hie : i = u.length := by omega
    subst hie
    rw [List.take_length] at ha hrows
    obtain ⟨s', cap, rfl, hc, q2, q3, q4, q5⟩ := ha
    have hob' : h'.obj σ.next = some [.int .i64 p, vP, vB] := by rw [hkp.obj _ (by omega)]; exact hob
    have hr3 : h'.rd σ.next 0 3 = some [.int .i64 p, vP, vB] := by rw [obj_rd hob']; rfl
    simp only [pwA, if_true, if_false, eq_self, nm_eq, reduceCtorEq, ↓reduceIte, Nat.reduceEqDiff, Nat.reduceLeDiff, Nat.reduceBEq, Nat.reduceAdd, Nat.reduceLT, Nat.reduceSub, Nat.reduceMul, Int.reduceEq, Int.reduceLT, Int.reduceLE, Int.reduceNeg, Int.reduceToNat, List.reduceReplicate, Int.ofNat_le, List.getElem?_drop, hr3]
    refine PCalls.frz q2 (hrows.bI 0) fun o1 => ?_
    have hl : (brL p W B n u v).length ≤ 1048576 := by
      rw [brL_length]
      have : u.length * v.length ≤ 6 * 6 := Nat.mul_le_mul hul hvl
      omega
    obtain ⟨⟨wp, ap, rp, rfl, hrp⟩, wb, ab, rb, rfl, hrb⟩ := hR
    simp only [sbs, sb, hc.ok, and_self, if_true]
    refine l32Span_ok ⟨⟨wp, ap, rp, rfl, hrp⟩, wb, ab, rb, rfl, hrb⟩ o hp ⟨true, _, rows, rfl, hrows⟩ (brL_els o q _ _) hl fun z out hcan hz => ?_
    obtain ⟨wz, az, rz, rfl, hrz⟩ := hz
    simp only [pwA, if_true, if_false, eq_self, nm_eq, reduceCtorEq, ↓reduceIte, Nat.reduceEqDiff, Nat.reduceLeDiff, Nat.reduceBEq, Nat.reduceAdd, Nat.reduceLT, Nat.reduceSub, Nat.reduceMul, Int.reduceEq, Int.reduceLT, Int.reduceLE, Int.reduceNeg, Int.reduceToNat, List.reduceReplicate, Int.ofNat_le, List.getElem?_drop]
    exact Gh.fin0 ((hHk.trans hkp).kill (by omega)) trivial (hk _ out hcan ⟨wz, az, rz, rfl, hrz⟩)
theorem l32Lower_ok (hR : IsR vP vB W B) (o : OkW p n W) (q : OkB p n B) (hp : isP p) (hk : ∀ c a rows, Cls p n W B c → K (.fz true a (c + 1) rows) σ) : PCalls Try.prog 186 [.agg [.int .i64 p, vP, vB]] σ K := by
  have hn6 := o.le
  have h1 := hR.P.one
  have h2 := hR.B.one
  refine PCalls.gh ?_
  refine pcalls_of_vp mix Try.func186 cf186 rfl ?_
  dsimp only [if186, qI, eI, nI, qD, eD]
  simp only [pwA, if_true, if_false, eq_self, nm_eq, reduceCtorEq, ↓reduceIte, Nat.reduceEqDiff, Nat.reduceLeDiff, Nat.reduceBEq, Nat.reduceAdd, Nat.reduceLT, Nat.reduceSub, Nat.reduceMul, Int.reduceEq, Int.reduceLT, Int.reduceLE, Int.reduceNeg, Int.reduceToNat, List.reduceReplicate, Int.ofNat_le, List.getElem?_drop, h1, h2]
  generalize hH : σ.new [.int .i64 p, vP, vB] = H
  have hHn : H.next = σ.next + 1 := by rw [← hH]; simp only [pwA, if_true, if_false, eq_self, nm_eq, reduceCtorEq, ↓reduceIte, Nat.reduceEqDiff, Nat.reduceLeDiff, Nat.reduceBEq, Nat.reduceAdd, Nat.reduceLT, Nat.reduceSub, Nat.reduceMul, Int.reduceEq, Int.reduceLT, Int.reduceLE, Int.reduceNeg, Int.reduceToNat, List.reduceReplicate, Int.ofNat_le, List.getElem?_drop]
  have hHk : Keep σ H := by rw [← hH]; exact keep_new σ _
  have hob : H.obj σ.next = some [.int .i64 p, vP, vB] := by rw [← hH]; simp only [pwA, if_true, if_false, eq_self, nm_eq, reduceCtorEq, ↓reduceIte, Nat.reduceEqDiff, Nat.reduceLeDiff, Nat.reduceBEq, Nat.reduceAdd, Nat.reduceLT, Nat.reduceSub, Nat.reduceMul, Int.reduceEq, Int.reduceLT, Int.reduceLE, Int.reduceNeg, Int.reduceToNat, List.reduceReplicate, Int.ofNat_le, List.getElem?_drop]
  refine l32Whole_ok hR o.len (by omega) fun vV hV => ?_
  have hVV := hV
  obtain ⟨wv, av, rv, rfl, hrv⟩ := hV
  simp only [pwA, if_true, if_false, eq_self, nm_eq, reduceCtorEq, ↓reduceIte, Nat.reduceEqDiff, Nat.reduceLeDiff, Nat.reduceBEq, Nat.reduceAdd, Nat.reduceLT, Nat.reduceSub, Nat.reduceMul, Int.reduceEq, Int.reduceLT, Int.reduceLE, Int.reduceNeg, Int.reduceToNat, List.reduceReplicate, Int.ofNat_le, List.getElem?_drop]
  refine vp_loop (fun m vs h' => ∃ k u us rows v vU, m = n + 1 - k ∧ k ≤ n + 1 ∧ vs = [.ptr σ.next 0, vU, v] ∧ Keep H h' ∧ PSl H.next 1 h' v (k + 1) rows ∧ All2 FII rows us ∧ us.length = k + 1 ∧ FII vU u ∧ Low p n W B k u ∧ ∀ j u', j < k → Low p n W B j u' → u' ≠ []) (n + 1) ?_ ?_
  · refine ⟨0, units n, [units n], [_], _, _, by omega, by omega, rfl, keep_new H _, PSl.new _ 1 rfl (Nat.le_refl _), All2.nil _ |>.snoc hVV, rfl, hVV, .zero, fun j u' hj => by omega⟩
  rintro m vs h' ⟨k, u, us, rows, v, vU, rfl, hkn, rfl, hkp, ha, hall, hul, hFU, hlow, hbef⟩
  have hob' : h'.obj σ.next = some [.int .i64 p, vP, vB] := by rw [hkp.obj _ (by omega)]; exact hob
  have hr3 : h'.rd σ.next 0 3 = some [.int .i64 p, vP, vB] := by rw [obj_rd hob']; rfl
  obtain ⟨e1, e2⟩ := hlow.els o
  have hFF := hFU
  obtain ⟨wk, ak, rk, rfl, hrk⟩ := hFU
  by_cases hu : u = []
  · subst hu
    obtain ⟨s', cap, rfl, hc, q2, q3, q4, q5⟩ := ha
    simp only [pwA, if_true, if_false, eq_self, nm_eq, reduceCtorEq, ↓reduceIte, Nat.reduceEqDiff, Nat.reduceLeDiff, Nat.reduceBEq, Nat.reduceAdd, Nat.reduceLT, Nat.reduceSub, Nat.reduceMul, Int.reduceEq, Int.reduceLT, Int.reduceLE, Int.reduceNeg, Int.reduceToNat, List.reduceReplicate, Int.ofNat_le, List.getElem?_drop, List.length_nil]
    exact Gh.finF (hHk.trans hkp) q2 (by omega) (hall.bL 0) hc.ok fun o1 => hk k _ _ ⟨hlow, hbef⟩
  · have hkn' := hlow.le o q hu
    have hpos : (0 : Int) < (u.length : Int) := by
      have : 0 < u.length := List.length_pos_iff.2 hu
      omega
    simp only [pwA, if_true, if_false, eq_self, nm_eq, reduceCtorEq, ↓reduceIte, Nat.reduceEqDiff, Nat.reduceLeDiff, Nat.reduceBEq, Nat.reduceAdd, Nat.reduceLT, Nat.reduceSub, Nat.reduceMul, Int.reduceEq, Int.reduceLT, Int.reduceLE, Int.reduceNeg, Int.reduceToNat, List.reduceReplicate, Int.ofNat_le, List.getElem?_drop, hpos, hr3]
    refine l32Whole_ok hR o.len (by omega) fun vW hW => ?_
    have hWW := hW
    obtain ⟨ww, aw, rw', rfl, hrw⟩ := hW
    simp only [pwA, if_true, if_false, eq_self, nm_eq, reduceCtorEq, ↓reduceIte, Nat.reduceEqDiff, Nat.reduceLeDiff, Nat.reduceBEq, Nat.reduceAdd, Nat.reduceLT, Nat.reduceSub, Nat.reduceMul, Int.reduceEq, Int.reduceLT, Int.reduceLE, Int.reduceNeg, Int.reduceToNat, List.reduceReplicate, Int.ofNat_le, List.getElem?_drop, hr3]
    refine l32Brackets_ok hR o q hp hFF hWW e1 (units_els o.pr) (by omega) (by rw [units_length]; omega) fun z out hcan hz => ?_
    have hzz := hz
    obtain ⟨wz, az, rz, rfl, hrz⟩ := hz
    simp only [pwA, if_true, if_false, eq_self, nm_eq, reduceCtorEq, ↓reduceIte, Nat.reduceEqDiff, Nat.reduceLeDiff, Nat.reduceBEq, Nat.reduceAdd, Nat.reduceLT, Nat.reduceSub, Nat.reduceMul, Int.reduceEq, Int.reduceLT, Int.reduceLE, Int.reduceNeg, Int.reduceToNat, List.reduceReplicate, Int.ofNat_le, List.getElem?_drop, hr3]
    refine PSl.push (bytes := 24) hkp ha (by omega) (by omega) fun v2 h2 k2 a2 => ?_
    simp only [pwA, if_true, if_false, eq_self, nm_eq, reduceCtorEq, ↓reduceIte, Nat.reduceEqDiff, Nat.reduceLeDiff, Nat.reduceBEq, Nat.reduceAdd, Nat.reduceLT, Nat.reduceSub, Nat.reduceMul, Int.reduceEq, Int.reduceLT, Int.reduceLE, Int.reduceNeg, Int.reduceToNat, List.reduceReplicate, Int.ofNat_le, List.getElem?_drop]
    refine ⟨_, ?_, k + 1, out, us ++ [out], _, v2, _, rfl, by omega, rfl, k2, a2, hall.snoc hzz, by rw [List.length_append, hul]; rfl, hzz, .succ hlow hcan, fun j u' hj hl => ?_⟩
    · omega
    · by_cases x : j = k
      · subst x
        rw [hl.unique o hlow]; exact hu
      · exact hbef j u' (by omega) hl
end Go.Proofs
set_option linter.unusedSimpArgs false
set_option linter.unusedVariables false
namespace Go.Proofs
open Go.Ab Go.Lie
variable {σ : PHeap} {K : PV → PHeap → Prop} {p p' : Int} {n : Nat} {W : List (List Int)} {B : List (List (List Int))} {vP vB vL vU vV : PV} {s : Nat}
theorem Cls.le (o : OkW p n W) (q : OkB p n B) {c : Nat} (hc : Cls p n W B c) : c ≤ n + 1 := by
  rcases Nat.lt_or_ge n c with x | x
  · obtain ⟨c', rfl⟩ : ∃ c', c = c' + 1 := ⟨c - 1, by omega⟩
    obtain ⟨h1, h2⟩ := hc
    cases h1 with
    | succ h hcan => exact Nat.succ_le_succ (h.le o q (h2 _ _ (Nat.lt_succ_self _) h))
  · omega
theorem l32Class_ok (hR : IsR vP vB W B) (o : OkW p n W) (q : OkB p n B) (hp : isP p) (hk : ∀ c : Nat, Cls p n W B c → K (.int .i64 c) σ) : PCalls Try.prog 141 [.agg [.int .i64 p, vP, vB]] σ K := by
  have hn6 := o.le
  have h1 := hR.P.one
  have h2 := hR.B.one
  refine PCalls.gh ?_
  refine pcalls_of_vp mix Try.func141 cf141 rfl ?_
  dsimp only [if141, qI, eI, nI, qD, eD]
  simp only [pwA, if_true, if_false, eq_self, nm_eq, reduceCtorEq, ↓reduceIte, Nat.reduceEqDiff, Nat.reduceLeDiff, Nat.reduceBEq, Nat.reduceAdd, Nat.reduceLT, Nat.reduceSub, Nat.reduceMul, Int.reduceEq, Int.reduceLT, Int.reduceLE, Int.reduceNeg, Int.reduceToNat, List.reduceReplicate, Int.ofNat_le, List.getElem?_drop, h1, h2]
  refine l32Lower_ok hR o q hp fun c a rows hc => ?_
  have hcn := hc.le o q
  have hw : IntKind.i64.wrap (((c + 1 : Nat) : Int) - 1) = (c : Int) := by rw [wrap64 (by omega) (by omega)]; omega
  simp only [pwA, if_true, if_false, eq_self, nm_eq, reduceCtorEq, ↓reduceIte, Nat.reduceEqDiff, Nat.reduceLeDiff, Nat.reduceBEq, Nat.reduceAdd, Nat.reduceLT, Nat.reduceSub, Nat.reduceMul, Int.reduceEq, Int.reduceLT, Int.reduceLE, Int.reduceNeg, Int.reduceToNat, List.reduceReplicate, Int.ofNat_le, List.getElem?_drop, hw]
  exact Gh.fin0 (keep_new σ _) trivial (hk c hc)
theorem l33Is_ok (hR : IsR vP vB W B) (o : OkW p n W) (q : OkB p n B) (hp : isP p) (hk : ∀ t : Bool, (t = true ↔ isLz p n W B) → K (.bool t) σ) : PCalls Try.prog 90 [.agg [.int .i64 p, vP, vB]] σ K := by
  have h1 := hR.P.one
  have h2 := hR.B.one
  refine PCalls.gh ?_
  refine pcalls_of_vp mix Try.func90 cf90 rfl ?_
  dsimp only [if90, qI, eI, nI, qD, eD]
  simp only [pwA, if_true, if_false, eq_self, nm_eq, reduceCtorEq, ↓reduceIte, Nat.reduceEqDiff, Nat.reduceLeDiff, Nat.reduceBEq, Nat.reduceAdd, Nat.reduceLT, Nat.reduceSub, Nat.reduceMul, Int.reduceEq, Int.reduceLT, Int.reduceLE, Int.reduceNeg, Int.reduceToNat, List.reduceReplicate, Int.ofNat_le, List.getElem?_drop, h1, h2]
  refine l32Class_ok hR o q hp fun c hc => ?_
  simp only [pwA, if_true, if_false, eq_self, nm_eq, reduceCtorEq, ↓reduceIte, Nat.reduceEqDiff, Nat.reduceLeDiff, Nat.reduceBEq, Nat.reduceAdd, Nat.reduceLT, Nat.reduceSub, Nat.reduceMul, Int.reduceEq, Int.reduceLT, Int.reduceLE, Int.reduceNeg, Int.reduceToNat, List.reduceReplicate, Int.ofNat_le, List.getElem?_drop, h1, h2]
  refine Gh.fin0 (keep_new σ _) trivial (hk _ ?_)
  rw [lz_iff hc, decide_eq_true_eq]
end Go.Proofs
set_option linter.unusedSimpArgs false
set_option linter.unusedVariables false
namespace Go.Proofs
open Go.Ab Go.Lie
variable {σ : PHeap} {K : PV → PHeap → Prop}
/-- What the numbers of the division keep. -/
structure EucI (m a r nx x y : Int) : Prop where
  cof : ∃ s u v : Int, (s = 1 ∨ s = -1) ∧ 0 ≤ u ∧ u ≤ m ∧ 0 ≤ v ∧ x = s * u ∧ y = -s * v ∧ r * v + nx * u = m
  pos : 0 < r ∧ r ≤ m ∧ 0 ≤ nx ∧ nx < r
  xa : ∃ t, x * a = r + t * m
  ya : ∃ t, y * a = nx + t * m
  dm : ∃ c d, m = c * r + d * nx
  da : ∃ c d, a = c * r + d * nx
theorem le_of_mul {a b m : Int} (ha : 1 ≤ a) (hb : 0 ≤ b) (h : a * b ≤ m) : b ≤ m := by
  have := Int.mul_le_mul_of_nonneg_right ha hb
  omega
theorem EucI.start {m a : Int} (h1 : 0 ≤ a) (h2 : a < m) : EucI m a m a 0 1 where
  cof := ⟨-1, 0, 1, .inr rfl, by omega, by omega, by omega, by omega, by omega, by omega⟩
  pos := by omega
  xa := ⟨-1, by omega⟩
  ya := ⟨0, by omega⟩
  dm := ⟨1, 0, by omega⟩
  da := ⟨0, 1, by omega⟩
theorem EucI.step {m a r nx x y : Int} (h : EucI m a r nx x y) (hn : nx ≠ 0) : EucI m a nx (r - r / nx * nx) y (x - r / nx * y) ∧
    (-m ≤ x ∧ x ≤ m ∧ -m ≤ y ∧ y ≤ m ∧ -m ≤ r / nx * y ∧ r / nx * y ≤ m ∧ 0 ≤ r / nx ∧ r / nx ≤ m ∧ 0 ≤ r / nx * nx ∧ r / nx * nx ≤ m ∧ -m ≤ x - r / nx * y ∧ x - r / nx * y ≤ m) := by
  obtain ⟨s, u, v, hs, hu, hum, hv, hx, hy, he⟩ := h.cof
  obtain ⟨p1, p2, p3, p5⟩ := h.pos
  obtain ⟨tx, hxa⟩ := h.xa
  obtain ⟨ty, hya⟩ := h.ya
  obtain ⟨cm, dm, hdm⟩ := h.dm
  obtain ⟨ca, da, hda⟩ := h.da
  have hq0 : 0 ≤ r / nx := Int.ediv_nonneg (by omega) p3
  have e1 := Int.emod_nonneg r hn
  have e2 := Int.emod_lt_of_pos r (show 0 < nx by omega)
  have e3 : r % nx = r - r / nx * nx := by have := Int.mul_ediv_add_emod r nx; rw [Int.mul_comm]; omega
  generalize r / nx = q at *
  rw [e3] at e1 e2
  have hqv : 0 ≤ q * v := Int.mul_nonneg hq0 hv
  have hqn : 0 ≤ q * nx := Int.mul_nonneg hq0 p3
  have k1 : nx * (u + q * v) + (r - q * nx) * v = m := by grind
  have k2 : 0 ≤ (r - q * nx) * v := Int.mul_nonneg e1 hv
  have k3 : u + q * v ≤ m := le_of_mul (a := nx) (by omega) (by omega) (by omega)
  have k4 : 0 ≤ nx * u := Int.mul_nonneg p3 hu
  have k5 : v ≤ m := le_of_mul (a := r) (by omega) hv (by omega)
  have k6 : q ≤ m := le_of_mul (a := nx) (by omega) hq0 (by rw [Int.mul_comm]; omega)
  refine ⟨⟨⟨-s, v, u + q * v, by omega, hv, k5, by omega, by grind, by grind, by omega⟩, by omega, ⟨ty, hya⟩, ⟨tx - q * ty, by grind⟩, ⟨dm + cm * q, cm, by grind⟩, ⟨da + ca * q, ca, by grind⟩⟩, ?_⟩
  have k7 : q * y = -s * (q * v) := by grind
  have k8 : x - q * y = s * (u + q * v) := by grind
  rcases hs with rfl | rfl <;> omega
theorem inverseG_ok {a m : Int} (ha : 0 ≤ a) (ham : a < m) (hm : m ≤ 1000000) (hk : ∀ (x : Int) (b : Bool), 0 ≤ x → x < m → ((∃ z w : Int, a * z = 1 + w * m) → ∃ t, a * x = 1 + t * m) → K (.tup [.int .i64 x, .bool b]) σ) : PCalls Try.prog 163 [.int .i64 a, .int .i64 m] σ K := by
  refine pcalls_of_vp mix Try.func163 cf163 rfl ?_
  dsimp only [if163, qI, eI, nI, qD, eD]
  simp only [pwA, if_true, if_false, eq_self, nm_eq, reduceCtorEq, ↓reduceIte, Nat.reduceEqDiff, Nat.reduceLeDiff, Nat.reduceBEq, Nat.reduceAdd, Nat.reduceLT, Nat.reduceSub, Nat.reduceMul, Int.reduceEq, Int.reduceLT, Int.reduceLE, Int.reduceNeg, Int.reduceToNat, List.reduceReplicate, Int.ofNat_le, List.getElem?_drop]
  refine vp_loop (fun k vs h' => ∃ r nx x y : Int, k = nx.toNat ∧ vs = [.int .i64 m, .int .i64 r, .int .i64 nx, .int .i64 x, .int .i64 y] ∧ σ = h' ∧ EucI m a r nx x y) a.toNat ?_ ?_
  · exact ⟨m, a, 0, 1, rfl, rfl, rfl, EucI.start ha ham⟩
  rintro k vs h' ⟨r, nx, x, y, rfl, rfl, rfl, hI⟩
  obtain ⟨p1, p2, p3, p5⟩ := hI.pos
  by_cases h0 : nx = 0
  · subst h0
    simp only [pwA, if_true, if_false, eq_self, nm_eq, reduceCtorEq, ↓reduceIte, Nat.reduceEqDiff, Nat.reduceLeDiff, Nat.reduceBEq, Nat.reduceAdd, Nat.reduceLT, Nat.reduceSub, Nat.reduceMul, Int.reduceEq, Int.reduceLT, Int.reduceLE, Int.reduceNeg, Int.reduceToNat, List.reduceReplicate, Int.ofNat_le, List.getElem?_drop]
    refine residue_ok (by omega) (by omega) ?_
    simp only [pwA, if_true, if_false, eq_self, nm_eq, reduceCtorEq, ↓reduceIte, Nat.reduceEqDiff, Nat.reduceLeDiff, Nat.reduceBEq, Nat.reduceAdd, Nat.reduceLT, Nat.reduceSub, Nat.reduceMul, Int.reduceEq, Int.reduceLT, Int.reduceLE, Int.reduceNeg, Int.reduceToNat, List.reduceReplicate, Int.ofNat_le, List.getElem?_drop]
    refine hk _ _ (Int.emod_nonneg _ (by omega)) (Int.emod_lt_of_pos _ (by omega)) fun ⟨z, w, hz⟩ => ?_
    obtain ⟨tx, hxa⟩ := hI.xa
    obtain ⟨cm, dm, hdm⟩ := hI.dm
    obtain ⟨ca, da, hda⟩ := hI.da
    have e : r * (ca * z - w * cm) = 1 := by grind
    have hr1 : r = 1 := by
      have hd : r ∣ 1 := ⟨_, e.symm⟩
      have := Int.le_of_dvd (by omega) hd
      omega
    have em := Int.mul_ediv_add_emod x m
    exact ⟨tx - a * (x / m), by grind⟩
  · obtain ⟨hI', b⟩ := hI.step h0
    have ht : r.tdiv nx = r / nx := Int.tdiv_eq_ediv_of_nonneg (by omega)
    obtain ⟨p1', p2', p3', p5'⟩ := hI'.pos
    simp only [pwA, if_true, if_false, eq_self, nm_eq, reduceCtorEq, ↓reduceIte, Nat.reduceEqDiff, Nat.reduceLeDiff, Nat.reduceBEq, Nat.reduceAdd, Nat.reduceLT, Nat.reduceSub, Nat.reduceMul, Int.reduceEq, Int.reduceLT, Int.reduceLE, Int.reduceNeg, Int.reduceToNat, List.reduceReplicate, Int.ofNat_le, List.getElem?_drop, h0, ht, wrap64 (n := r / nx) (by omega) (by omega), wrap64 (n := r / nx * nx) (by omega) (by omega), wrap64 (n := r / nx * y) (by omega) (by omega), wrap64 (n := r - r / nx * nx) (by omega) (by omega), wrap64 (n := x - r / nx * y) (by omega) (by omega)]
    exact ⟨_, by omega, _, _, _, _, rfl, rfl, hI'⟩
end Go.Proofs
set_option linter.unusedSimpArgs false
set_option linter.unusedVariables false
namespace Go.Proofs
open Go.Ab Go.Lie
variable {σ : PHeap} {K : PV → PHeap → Prop} {p p' : Int} {n : Nat} {W : List (List Int)} {B : List (List (List Int))} {vP vB vL vU vV : PV} {s : Nat}
theorem ipow_pw : ∀ n : Nat, ipow p n = pw_ p n
  | 0 => rfl
  | n + 1 => by rw [ipow, pw_, ipow_pw n, Int.mul_comm]
/-- A number that is prime to p. -/
def Cop (p k : Int) : Prop := ∃ e t : Int, k * e = 1 + p * t
/-- z is x divided by k, where that has a meaning. -/
structure DivL (p : Int) (n : Nat) (W : List (List Int)) (k : Int) (x z : List Int) : Prop where
  el : El p n z
  nil : isZ x → z = x
  eqv : Cop p k → Eqv p n W (fun j => k * at_ z j) (at_ x)
theorem cop_inv {k : Int} (h : Cop p k) (hn : 0 < n) : ∃ z w : Int, k * z = 1 + w * pw_ p n := by
  obtain ⟨e, t, h⟩ := h
  obtain ⟨f, s, g⟩ := inv_one (p := p) t n hn
  exact ⟨e * f, s, by grind⟩
theorem DivL.unique (o : OkW p n W) {k : Int} {x z z' : List Int} (hx : El p n x) (h : DivL p n W k x z) (h' : DivL p n W k x z') (hk : isZ x ∨ Cop p k) : z = z' := by
  rcases hk with hk | hk
  · rw [h.nil hk, h'.nil hk]
  · rcases Nat.eq_zero_or_pos n with hn | hn
    · have e1 := h.el.1
      have e2 := h'.el.1
      rw [List.eq_nil_of_length_eq_zero (e1.trans hn), List.eq_nil_of_length_eq_zero (e2.trans hn)]
    · obtain ⟨a, w, ha⟩ := cop_inv (p := p) hk hn
      have e : Eqv p n W (fun j => k * at_ z j) (fun j => k * at_ z' j) := (h.eqv hk).trans (h'.eqv hk).symm
      have e2 := e.mul a
      have one : ∀ {v : List Int}, El p n v → Eqv p n W (fun j => a * (k * at_ v j)) (at_ v) := fun {v} hv => by
        have k1 := (kill_all o (f := at_ v) (fun j hj => hv.beyond hj)).mul w
        have k2 := (Eqv.refl (p := p) (n := n) (W := W) (at_ v)).add k1
        exact ((Eqv.of_eq fun j => by grind).trans k2).trans (Eqv.of_eq fun j => by omega)
      exact eqv_unique o h.el.1 h'.el.1 h.el.2 h'.el.2 (((one h.el).symm.trans e2).trans (one h'.el))
/-- A multiple with a number that inverts k where x lives. -/
theorem DivL.mk' (o : OkW p n W) {k y m : Int} {x : List Int} (hx : El p n x) (hz : ¬ isZ x) (hm : Eqv p n W (fun j => m * at_ x j) fun _ => 0) (hy : Cop p k → ∃ t, k * y = 1 + t * m) : DivL p n W k x (lmul p W y x) where
  el := (mul_eqv o hx y).1
  nil := fun h => absurd h hz
  eqv := fun hk => by
    obtain ⟨t, ht⟩ := hy hk
    have k1 := (mul_eqv o hx y).2.mul k
    have k2 := (Eqv.refl (p := p) (n := n) (W := W) (at_ x)).add (hm.mul t)
    exact (k1.trans (Eqv.of_eq fun j => by grind)).trans (k2.trans (Eqv.of_eq fun j => by omega))
end Go.Proofs
set_option linter.unusedSimpArgs false
set_option linter.unusedVariables false
namespace Go.Proofs
open Go.Ab Go.Lie
variable {σ : PHeap} {K : PV → PHeap → Prop} {p p' : Int} {n : Nat} {W : List (List Int)} {B : List (List (List Int))} {vP vB vL vU vV : PV} {s : Nat}
theorem pw_pos (hp : okp p) : ∀ k : Nat, 1 ≤ pw_ p k
  | 0 => by simp [pw_]
  | k + 1 => by
    have h := pw_pos hp k
    have := Int.mul_le_mul_of_nonneg_right (show (1 : Int) ≤ p by have := hp.1; omega) (show 0 ≤ pw_ p k by omega)
    rw [pw_]; omega
theorem pw_mono (hp : okp p) {j : Nat} : ∀ {k : Nat}, j ≤ k → pw_ p j ≤ pw_ p k
  | 0, h => by have : j = 0 := by omega
               subst this; exact Int.le_refl _
  | k + 1, h => by
    by_cases e : j = k + 1
    · subst e; exact Int.le_refl _
    · have h1 := pw_mono hp (j := j) (k := k) (by omega)
      have h2 := pw_pos hp k
      have := Int.mul_le_mul_of_nonneg_right (show (1 : Int) ≤ p by have := hp.1; omega) (show 0 ≤ pw_ p k by omega)
      have e2 : pw_ p (k + 1) = p * pw_ p k := rfl
      omega
theorem l31Order_ok {l : Nat} {w : Bool} {av : AV} {x : List Int} (hR : IsR vP vB W B) (o : OkW p n W) (hpow : ipow p n ≤ 729) (hx : El p n x) (hl : l = x.length)
    (hk : ∀ j, j ≤ n → Eqv p n W (fun i => pw_ p j * at_ x i) (fun _ => 0) → K (.int .i64 (pw_ p j)) σ) : PCalls Try.prog 208 [.agg [.int .i64 p, vP, vB], .fz w av l (pis x)] σ K := by
  have h1 := hR.P.one
  have h2 := hR.B.one
  have hn6 := o.le
  have hpr := o.pr
  have hpb := hpr
  unfold okp at hpb
  have hxl := hx.1
  subst hl
  refine PCalls.gh ?_
  refine pcalls_of_vp mix Try.func208 cf208 rfl ?_
  dsimp only [if208, qI, eI, nI, qD, eD]
  simp only [pwA, if_true, if_false, eq_self, nm_eq, reduceCtorEq, ↓reduceIte, Nat.reduceEqDiff, Nat.reduceLeDiff, Nat.reduceBEq, Nat.reduceAdd, Nat.reduceLT, Nat.reduceSub, Nat.reduceMul, Int.reduceEq, Int.reduceLT, Int.reduceLE, Int.reduceNeg, Int.reduceToNat, List.reduceReplicate, Int.ofNat_le, List.getElem?_drop, h1, h2]
  generalize hH : σ.new [.int .i64 p, vP, vB] = H
  have hHk : Keep σ H := by rw [← hH]; exact keep_new σ _
  have hb3 : H.rd σ.next 0 3 = some [.int .i64 p, vP, vB] := by rw [← hH]; simp only [pwA, if_true, if_false, eq_self, nm_eq, reduceCtorEq, ↓reduceIte, Nat.reduceEqDiff, Nat.reduceLeDiff, Nat.reduceBEq, Nat.reduceAdd, Nat.reduceLT, Nat.reduceSub, Nat.reduceMul, Int.reduceEq, Int.reduceLT, Int.reduceLE, Int.reduceNeg, Int.reduceToNat, List.reduceReplicate, Int.ofNat_le, List.getElem?_drop]
  have hb1 : H.rd1 σ.next 0 = some (.int .i64 p) := by rw [← hH]; simp only [pwA, if_true, if_false, eq_self, nm_eq, reduceCtorEq, ↓reduceIte, Nat.reduceEqDiff, Nat.reduceLeDiff, Nat.reduceBEq, Nat.reduceAdd, Nat.reduceLT, Nat.reduceSub, Nat.reduceMul, Int.reduceEq, Int.reduceLT, Int.reduceLE, Int.reduceNeg, Int.reduceToNat, List.reduceReplicate, Int.ofNat_le, List.getElem?_drop]
  refine vp_loop (fun m vs h' => ∃ (j : Nat) (y : List Int) (wy : Bool) (vy : AV), m = n - dep y ∧ j ≤ dep y ∧ vs = [.fz wy vy n (pis y), .ptr σ.next 0, .int .i64 (pw_ p j)] ∧ H = h' ∧ El p n y ∧ Eqv p n W (at_ y) fun i => pw_ p j * at_ x i) (n - dep x) ?_ ?_
  · exact ⟨0, x, w, av, rfl, by omega, by rw [hxl]; rfl, rfl, hx, Eqv.of_eq fun i => by simp [pw_]⟩
  rintro m vs h' ⟨j, y, wy, vy, rfl, hj, rfl, rfl, hy, he⟩
  have hyl := hy.1
  have hdl := dep_le y
  simp only [pwA, if_true, if_false, eq_self, nm_eq, reduceCtorEq, ↓reduceIte, Nat.reduceEqDiff, Nat.reduceLeDiff, Nat.reduceBEq, Nat.reduceAdd, Nat.reduceLT, Nat.reduceSub, Nat.reduceMul, Int.reduceEq, Int.reduceLT, Int.reduceLE, Int.reduceNeg, Int.reduceToNat, List.reduceReplicate, Int.ofNat_le, List.getElem?_drop]
  refine l01Zero_ok hyl.symm (by omega) ?_
  by_cases hz : isZ y
  · simp only [pwA, if_true, if_false, eq_self, nm_eq, reduceCtorEq, ↓reduceIte, Nat.reduceEqDiff, Nat.reduceLeDiff, Nat.reduceBEq, Nat.reduceAdd, Nat.reduceLT, Nat.reduceSub, Nat.reduceMul, Int.reduceEq, Int.reduceLT, Int.reduceLE, Int.reduceNeg, Int.reduceToNat, List.reduceReplicate, Int.ofNat_le, List.getElem?_drop, hz, decide_true]
    refine Gh.fin0 hHk trivial (hk j (by omega) (he.symm.trans (Eqv.of_eq fun i => isZ_at hz i)))
  · have hd : dep y < n := by have := not_isZ_dep hz; omega
    have hj1 : pw_ p (j + 1) ≤ pw_ p n := pw_mono hpr (by omega)
    have hj0 := pw_pos hpr (j + 1)
    rw [ipow_pw] at hpow
    have hc : pw_ p j * p = pw_ p (j + 1) := by rw [pw_, Int.mul_comm]
    have hw : IntKind.i64.wrap (pw_ p j * p) = pw_ p (j + 1) := by rw [hc]; exact wrap64 (by omega) (by omega)
    simp only [pwA, if_true, if_false, eq_self, nm_eq, reduceCtorEq, ↓reduceIte, Nat.reduceEqDiff, Nat.reduceLeDiff, Nat.reduceBEq, Nat.reduceAdd, Nat.reduceLT, Nat.reduceSub, Nat.reduceMul, Int.reduceEq, Int.reduceLT, Int.reduceLE, Int.reduceNeg, Int.reduceToNat, List.reduceReplicate, Int.ofNat_le, List.getElem?_drop, hz, decide_false, hb3, hb1]
    refine l31Mix_el hR o hy hy hyl.symm hyl.symm (by omega) (by decide) fun v1 => ?_
    have hdep := pmul_dep o hy hd
    obtain ⟨z1, z2⟩ := mul_eqv o hy p
    simp only [pwA, if_true, if_false, eq_self, nm_eq, reduceCtorEq, ↓reduceIte, Nat.reduceEqDiff, Nat.reduceLeDiff, Nat.reduceBEq, Nat.reduceAdd, Nat.reduceLT, Nat.reduceSub, Nat.reduceMul, Int.reduceEq, Int.reduceLT, Int.reduceLE, Int.reduceNeg, Int.reduceToNat, List.reduceReplicate, Int.ofNat_le, List.getElem?_drop, hb1, hw]
    refine ⟨_, ?_, j + 1, _, true, v1, rfl, by omega, rfl, z1, (z2.trans (he.mul p)).trans (Eqv.of_eq fun i => by rw [← hc]; grind)⟩
    omega
end Go.Proofs
set_option linter.unusedSimpArgs false
set_option linter.unusedVariables false
namespace Go.Proofs
open Go.Ab Go.Lie
variable {σ : PHeap} {K : PV → PHeap → Prop} {p p' : Int} {n : Nat} {W : List (List Int)} {B : List (List (List Int))} {vP vB vL vU vV : PV} {s : Nat}
theorem l33Part_ok {l : Nat} {w : Bool} {av : AV} {k : Int} {x : List Int} (hR : IsR vP vB W B) (o : OkW p n W) (hpow : ipow p n ≤ 729) (hx : El p n x) (hl : l = x.length)
    (hk : ∀ w v z, DivL p n W k x z → K (.fz w v n (pis z)) σ) : PCalls Try.prog 187 [.agg [.int .i64 p, vP, vB], .fz w av l (pis x), .int .i64 k] σ K := by
  have h1 := hR.P.one
  have h2 := hR.B.one
  have hn6 := o.le
  have hpr := o.pr
  have hxl := hx.1
  subst hl
  refine PCalls.gh ?_
  refine pcalls_of_vp mix Try.func187 cf187 rfl ?_
  dsimp only [if187, qI, eI, nI, qD, eD]
  simp only [pwA, if_true, if_false, eq_self, nm_eq, reduceCtorEq, ↓reduceIte, Nat.reduceEqDiff, Nat.reduceLeDiff, Nat.reduceBEq, Nat.reduceAdd, Nat.reduceLT, Nat.reduceSub, Nat.reduceMul, Int.reduceEq, Int.reduceLT, Int.reduceLE, Int.reduceNeg, Int.reduceToNat, List.reduceReplicate, Int.ofNat_le, List.getElem?_drop, h1, h2]
  generalize hH : σ.new [.int .i64 p, vP, vB] = H
  have hHk : Keep σ H := by rw [← hH]; exact keep_new σ _
  have hb3 : H.rd σ.next 0 3 = some [.int .i64 p, vP, vB] := by rw [← hH]; simp only [pwA, if_true, if_false, eq_self, nm_eq, reduceCtorEq, ↓reduceIte, Nat.reduceEqDiff, Nat.reduceLeDiff, Nat.reduceBEq, Nat.reduceAdd, Nat.reduceLT, Nat.reduceSub, Nat.reduceMul, Int.reduceEq, Int.reduceLT, Int.reduceLE, Int.reduceNeg, Int.reduceToNat, List.reduceReplicate, Int.ofNat_le, List.getElem?_drop]
  refine l01Zero_ok rfl (by omega) ?_
  by_cases hz : isZ x
  · simp only [pwA, if_true, if_false, eq_self, nm_eq, reduceCtorEq, ↓reduceIte, Nat.reduceEqDiff, Nat.reduceLeDiff, Nat.reduceBEq, Nat.reduceAdd, Nat.reduceLT, Nat.reduceSub, Nat.reduceMul, Int.reduceEq, Int.reduceLT, Int.reduceLE, Int.reduceNeg, Int.reduceToNat, List.reduceReplicate, Int.ofNat_le, List.getElem?_drop, hz, decide_true]
    refine Gh.fin0 hHk trivial ?_
    rw [hxl]
    exact hk _ _ x ⟨hx, fun _ => rfl, fun _ => Eqv.of_eq fun j => by rw [isZ_at hz, Int.mul_zero]⟩
  · have hdx : dep x < n := by have := not_isZ_dep hz; omega
    simp only [pwA, if_true, if_false, eq_self, nm_eq, reduceCtorEq, ↓reduceIte, Nat.reduceEqDiff, Nat.reduceLeDiff, Nat.reduceBEq, Nat.reduceAdd, Nat.reduceLT, Nat.reduceSub, Nat.reduceMul, Int.reduceEq, Int.reduceLT, Int.reduceLE, Int.reduceNeg, Int.reduceToNat, List.reduceReplicate, Int.ofNat_le, List.getElem?_drop, hz, decide_false, hb3]
    refine l31Order_ok hR o hpow hx rfl fun j hj he => ?_
    have hj0 : j ≠ 0 := fun e => by
      subst e
      have e0 : Eqv p n W (at_ x) fun _ => 0 := (Eqv.of_eq fun i => by simp [pw_]).trans he
      have := eqv_zero o hx e0 (Nat.le_refl n) (fun _ _ => rfl) (dep x) hdx
      exact dep_ne (by omega) this
    have hm1 : pw_ p j ≤ pw_ p n := pw_mono hpr hj
    have hm2 : pw_ p 1 ≤ pw_ p j := pw_mono hpr (by omega)
    have hm3 : pw_ p 1 = p := by simp [pw_]
    rw [ipow_pw] at hpow
    have hp2 := hpr.1
    generalize hm : pw_ p j = m at *
    simp only [pwA, if_true, if_false, eq_self, nm_eq, reduceCtorEq, ↓reduceIte, Nat.reduceEqDiff, Nat.reduceLeDiff, Nat.reduceBEq, Nat.reduceAdd, Nat.reduceLT, Nat.reduceSub, Nat.reduceMul, Int.reduceEq, Int.reduceLT, Int.reduceLE, Int.reduceNeg, Int.reduceToNat, List.reduceReplicate, Int.ofNat_le, List.getElem?_drop]
    refine vp_loop (fun q vs h' => ∃ y : Int, q = (m - y).toNat ∧ 1 ≤ y ∧ y ≤ m ∧ vs = [.fz w av x.length (pis x), .int .i64 k, .ptr σ.next 0, .int .i64 m, .int .i64 y] ∧ H = h' ∧ ∀ y', 1 ≤ y' → y' < y → k % m * y' % m ≠ 1) (m - 1).toNat ?_ ?_
    · exact ⟨1, rfl, by omega, by omega, rfl, rfl, fun y' _ _ => by omega⟩
    rintro q vs h' ⟨y, rfl, hy1, hym, rfl, rfl, hall⟩
    have em1 := Int.emod_nonneg k (show m ≠ 0 by omega)
    have em2 := Int.emod_lt_of_pos k (show 0 < m by omega)
    have em := Int.mul_ediv_add_emod k m
    have fin : (Cop p k → ∃ t, k * y = 1 + t * m) → ∀ v, Gh σ K (.fz true v n (pis (lmul p W y x))) H := fun h v => Gh.fin0 hHk trivial (hk _ v _ (DivL.mk' o hx hz he h))
    by_cases hlt : y < m
    · have hb : 0 ≤ k % m * y ∧ k % m * y ≤ 531441 := by
        have a1 := Int.mul_le_mul (show k % m ≤ 729 by omega) (show y ≤ 729 by omega) (by omega) (by omega)
        have a2 := Int.mul_nonneg em1 (show 0 ≤ y by omega)
        omega
      simp only [pwA, if_true, if_false, eq_self, nm_eq, reduceCtorEq, ↓reduceIte, Nat.reduceEqDiff, Nat.reduceLeDiff, Nat.reduceBEq, Nat.reduceAdd, Nat.reduceLT, Nat.reduceSub, Nat.reduceMul, Int.reduceEq, Int.reduceLT, Int.reduceLE, Int.reduceNeg, Int.reduceToNat, List.reduceReplicate, Int.ofNat_le, List.getElem?_drop, hlt, decide_true]
      refine l01Mod_ok (by omega) (by omega) ?_
      have hmne : m ≠ 0 := by omega
      have ht : (k % m * y).tmod m = k % m * y % m := Int.tmod_eq_emod_of_nonneg hb.1
      by_cases h1 : k % m * y % m = 1
      · simp only [pwA, if_true, if_false, eq_self, nm_eq, reduceCtorEq, ↓reduceIte, Nat.reduceEqDiff, Nat.reduceLeDiff, Nat.reduceBEq, Nat.reduceAdd, Nat.reduceLT, Nat.reduceSub, Nat.reduceMul, Int.reduceEq, Int.reduceLT, Int.reduceLE, Int.reduceNeg, Int.reduceToNat, List.reduceReplicate, Int.ofNat_le, List.getElem?_drop, hlt, hmne, wrap64 (n := k % m * y) (by omega) (by omega), ht, h1, hb3]
        refine l31Mix_el hR o hx hx rfl rfl (by omega) (by decide) fun v1 => ?_
        simp only [pwA, if_true, if_false, eq_self, nm_eq, reduceCtorEq, ↓reduceIte, Nat.reduceEqDiff, Nat.reduceLeDiff, Nat.reduceBEq, Nat.reduceAdd, Nat.reduceLT, Nat.reduceSub, Nat.reduceMul, Int.reduceEq, Int.reduceLT, Int.reduceLE, Int.reduceNeg, Int.reduceToNat, List.reduceReplicate, Int.ofNat_le, List.getElem?_drop]
        refine fin (fun _ => ?_) v1
        have e := Int.mul_ediv_add_emod (k % m * y) m
        exact ⟨k % m * y / m + k / m * y, by grind⟩
      · simp only [pwA, if_true, if_false, eq_self, nm_eq, reduceCtorEq, ↓reduceIte, Nat.reduceEqDiff, Nat.reduceLeDiff, Nat.reduceBEq, Nat.reduceAdd, Nat.reduceLT, Nat.reduceSub, Nat.reduceMul, Int.reduceEq, Int.reduceLT, Int.reduceLE, Int.reduceNeg, Int.reduceToNat, List.reduceReplicate, Int.ofNat_le, List.getElem?_drop, hlt, hmne, wrap64 (n := k % m * y) (by omega) (by omega), ht, h1, wrap64 (n := y + 1) (by omega) (by omega)]
        refine ⟨_, ?_, y + 1, rfl, by omega, by omega, rfl, fun y' h2 h3 => ?_⟩
        · omega
        · by_cases e : y' = y
          · subst e; exact h1
          · exact hall y' h2 (by omega)
    · have hye : y = m := by omega
      simp only [pwA, if_true, if_false, eq_self, nm_eq, reduceCtorEq, ↓reduceIte, Nat.reduceEqDiff, Nat.reduceLeDiff, Nat.reduceBEq, Nat.reduceAdd, Nat.reduceLT, Nat.reduceSub, Nat.reduceMul, Int.reduceEq, Int.reduceLT, Int.reduceLE, Int.reduceNeg, Int.reduceToNat, List.reduceReplicate, Int.ofNat_le, List.getElem?_drop, hlt, decide_false, hb3]
      refine l31Mix_el hR o hx hx rfl rfl (by omega) (by decide) fun v1 => ?_
      simp only [pwA, if_true, if_false, eq_self, nm_eq, reduceCtorEq, ↓reduceIte, Nat.reduceEqDiff, Nat.reduceLeDiff, Nat.reduceBEq, Nat.reduceAdd, Nat.reduceLT, Nat.reduceSub, Nat.reduceMul, Int.reduceEq, Int.reduceLT, Int.reduceLE, Int.reduceNeg, Int.reduceToNat, List.reduceReplicate, Int.ofNat_le, List.getElem?_drop]
      refine fin (fun hc => ?_) v1
      exfalso
      obtain ⟨z, w', hzw⟩ := cop_inv (p := p) hc (show 0 < j by omega)
      rw [hm] at hzw
      have f1 := Int.emod_nonneg z (show m ≠ 0 by omega)
      have f2 := Int.emod_lt_of_pos z (show 0 < m by omega)
      have f3 := Int.mul_ediv_add_emod z m
      have hone : k % m * (z % m) % m = 1 := by
        have e1 : k % m * (z % m) = 1 + (w' - k / m * z - k % m * (z / m)) * m := by grind
        rw [e1, Int.add_mul_emod_self_right]
        exact Int.emod_eq_of_lt (by omega) (by omega)
      have hz0 : z % m ≠ 0 := fun e => by
        rw [e, Int.mul_zero, Int.zero_emod] at hone
        omega
      exact hall (z % m) (by omega) (by omega) hone
end Go.Proofs
set_option linter.unusedSimpArgs false
set_option linter.unusedVariables false
namespace Go.Proofs
open Go.Ab Go.Lie
variable {σ : PHeap} {K : PV → PHeap → Prop} {p p' : Int} {n : Nat} {W : List (List Int)} {B : List (List (List Int))} {vP vB vL vU vV : PV} {s : Nat}
/-- The code of a ring and elements. -/
def CodeL (p : Int) (W : List (List Int)) (B : List (List (List Int))) (xs : List (List Int)) (c : Int) : Prop :=
  (¬ (isLie p W B ∧ Els p W.length xs) ∧ c = 1) ∨ ((isLie p W B ∧ Els p W.length xs) ∧ ¬ isLz p W.length W B ∧ c = 5) ∨ ((isLie p W B ∧ Els p W.length xs) ∧ isLz p W.length W B ∧ c = 0)
theorem CodeL.unique {xs : List (List Int)} {c d : Int} (h : CodeL p W B xs c) (g : CodeL p W B xs d) : c = d := by
  rcases h with ⟨h1, h2⟩ | ⟨h1, h2, h3⟩ | ⟨h1, h2, h3⟩ <;> rcases g with ⟨g1, g2⟩ | ⟨g1, g2, g3⟩ | ⟨g1, g2, g3⟩ <;> first | omega | exact absurd g1 h1 | exact absurd h1 g1 | exact absurd g2 h2 | exact absurd h2 g2
theorem lazardCode_ok {xs : List (List Int)} (hs : PtrR σ s p vP vB) (hR : IsR vP vB W B) (szr : SzR W B) (hL : FII vL xs) (sz : SzL xs) (hk : ∀ c : Int, CodeL p W B xs c → K (.int .i64 c) σ) : PCalls Try.prog 48 [.ptr s 0, vL] σ K := by
  have hLL := hL
  obtain ⟨wl, al, rl, rfl, hrl⟩ := hL
  refine pcalls_of_vp mix Try.func48 cf48 rfl ?_
  dsimp only [if48, qI, eI, nI, qD, eD]
  simp only [pwA, if_true, if_false, eq_self, nm_eq, reduceCtorEq, ↓reduceIte, Nat.reduceEqDiff, Nat.reduceLeDiff, Nat.reduceBEq, Nat.reduceAdd, Nat.reduceLT, Nat.reduceSub, Nat.reduceMul, Int.reduceEq, Int.reduceLT, Int.reduceLE, Int.reduceNeg, Int.reduceToNat, List.reduceReplicate, Int.ofNat_le, List.getElem?_drop]
  refine lieElements_ok hs hR szr hLL sz fun t ht => ?_
  cases t
  · simp only [pwA, if_true, if_false, eq_self, nm_eq, reduceCtorEq, ↓reduceIte, Nat.reduceEqDiff, Nat.reduceLeDiff, Nat.reduceBEq, Nat.reduceAdd, Nat.reduceLT, Nat.reduceSub, Nat.reduceMul, Int.reduceEq, Int.reduceLT, Int.reduceLE, Int.reduceNeg, Int.reduceToNat, List.reduceReplicate, Int.ofNat_le, List.getElem?_drop]
    exact hk 1 (.inl ⟨fun h => (by have := ht.2 h; simp at this), rfl⟩)
  · have hl := ht.1 rfl
    simp only [pwA, if_true, if_false, eq_self, nm_eq, reduceCtorEq, ↓reduceIte, Nat.reduceEqDiff, Nat.reduceLeDiff, Nat.reduceBEq, Nat.reduceAdd, Nat.reduceLT, Nat.reduceSub, Nat.reduceMul, Int.reduceEq, Int.reduceLT, Int.reduceLE, Int.reduceNeg, Int.reduceToNat, List.reduceReplicate, Int.ofNat_le, List.getElem?_drop]
    refine isLazard_ok hs hR hl.1.1.w hl.1.1.b hl.1.1.1 fun t ht => ?_
    cases t
    · simp only [pwA, if_true, if_false, eq_self, nm_eq, reduceCtorEq, ↓reduceIte, Nat.reduceEqDiff, Nat.reduceLeDiff, Nat.reduceBEq, Nat.reduceAdd, Nat.reduceLT, Nat.reduceSub, Nat.reduceMul, Int.reduceEq, Int.reduceLT, Int.reduceLE, Int.reduceNeg, Int.reduceToNat, List.reduceReplicate, Int.ofNat_le, List.getElem?_drop]
      exact hk 5 (.inr (.inl ⟨hl, fun h => (by have := ht.2 h; simp at this), rfl⟩))
    · simp only [pwA, if_true, if_false, eq_self, nm_eq, reduceCtorEq, ↓reduceIte, Nat.reduceEqDiff, Nat.reduceLeDiff, Nat.reduceBEq, Nat.reduceAdd, Nat.reduceLT, Nat.reduceSub, Nat.reduceMul, Int.reduceEq, Int.reduceLT, Int.reduceLE, Int.reduceNeg, Int.reduceToNat, List.reduceReplicate, Int.ofNat_le, List.getElem?_drop]
      exact hk 0 (.inr (.inr ⟨hl, ht.1 rfl, rfl⟩))
theorem l33Code_ok {xs : List (List Int)} (hR : IsR vP vB W B) (szr : SzR W B) (hL : FII vL xs) (sz : SzL xs) (hk : ∀ c : Int, CodeL p W B xs c → K (.int .i64 c) σ) : PCalls Try.prog 44 [.agg [.int .i64 p, vP, vB], vL] σ K := by
  have h1 := hR.P.one
  have h2 := hR.B.one
  have hLL := hL
  obtain ⟨wl, al, rl, rfl, hrl⟩ := hL
  refine PCalls.gh ?_
  refine pcalls_of_vp mix Try.func44 cf44 rfl ?_
  dsimp only [if44, qI, eI, nI, qD, eD]
  simp only [pwA, if_true, if_false, eq_self, nm_eq, reduceCtorEq, ↓reduceIte, Nat.reduceEqDiff, Nat.reduceLeDiff, Nat.reduceBEq, Nat.reduceAdd, Nat.reduceLT, Nat.reduceSub, Nat.reduceMul, Int.reduceEq, Int.reduceLT, Int.reduceLE, Int.reduceNeg, Int.reduceToNat, List.reduceReplicate, Int.ofNat_le, List.getElem?_drop, h1, h2]
  refine l31Ring_ok hR szr fun t ht => ?_
  cases t
  · simp only [pwA, if_true, if_false, eq_self, nm_eq, reduceCtorEq, ↓reduceIte, Nat.reduceEqDiff, Nat.reduceLeDiff, Nat.reduceBEq, Nat.reduceAdd, Nat.reduceLT, Nat.reduceSub, Nat.reduceMul, Int.reduceEq, Int.reduceLT, Int.reduceLE, Int.reduceNeg, Int.reduceToNat, List.reduceReplicate, Int.ofNat_le, List.getElem?_drop]
    exact Gh.fin0 (keep_new σ _) trivial (hk 1 (.inl ⟨fun h => (by have := ht.2 h.1; simp at this), rfl⟩))
  · have hl := ht.1 rfl
    simp only [pwA, if_true, if_false, eq_self, nm_eq, reduceCtorEq, ↓reduceIte, Nat.reduceEqDiff, Nat.reduceLeDiff, Nat.reduceBEq, Nat.reduceAdd, Nat.reduceLT, Nat.reduceSub, Nat.reduceMul, Int.reduceEq, Int.reduceLT, Int.reduceLE, Int.reduceNeg, Int.reduceToNat, List.reduceReplicate, Int.ofNat_le, List.getElem?_drop, h1, h2]
    refine l32Elements_ok hR hLL sz hl.1.1.bd fun t ht => ?_
    cases t
    · simp only [pwA, if_true, if_false, eq_self, nm_eq, reduceCtorEq, ↓reduceIte, Nat.reduceEqDiff, Nat.reduceLeDiff, Nat.reduceBEq, Nat.reduceAdd, Nat.reduceLT, Nat.reduceSub, Nat.reduceMul, Int.reduceEq, Int.reduceLT, Int.reduceLE, Int.reduceNeg, Int.reduceToNat, List.reduceReplicate, Int.ofNat_le, List.getElem?_drop]
      exact Gh.fin0 (keep_new σ _) trivial (hk 1 (.inl ⟨fun h => (by have := ht.2 h.2; simp at this), rfl⟩))
    · have he := ht.1 rfl
      simp only [pwA, if_true, if_false, eq_self, nm_eq, reduceCtorEq, ↓reduceIte, Nat.reduceEqDiff, Nat.reduceLeDiff, Nat.reduceBEq, Nat.reduceAdd, Nat.reduceLT, Nat.reduceSub, Nat.reduceMul, Int.reduceEq, Int.reduceLT, Int.reduceLE, Int.reduceNeg, Int.reduceToNat, List.reduceReplicate, Int.ofNat_le, List.getElem?_drop, h1, h2]
      refine l33Is_ok hR hl.1.w hl.1.b hl.1.1 fun t ht => ?_
      cases t
      · simp only [pwA, if_true, if_false, eq_self, nm_eq, reduceCtorEq, ↓reduceIte, Nat.reduceEqDiff, Nat.reduceLeDiff, Nat.reduceBEq, Nat.reduceAdd, Nat.reduceLT, Nat.reduceSub, Nat.reduceMul, Int.reduceEq, Int.reduceLT, Int.reduceLE, Int.reduceNeg, Int.reduceToNat, List.reduceReplicate, Int.ofNat_le, List.getElem?_drop]
        exact Gh.fin0 (keep_new σ _) trivial (hk 5 (.inr (.inl ⟨⟨hl, he⟩, fun h => (by have := ht.2 h; simp at this), rfl⟩)))
      · simp only [pwA, if_true, if_false, eq_self, nm_eq, reduceCtorEq, ↓reduceIte, Nat.reduceEqDiff, Nat.reduceLeDiff, Nat.reduceBEq, Nat.reduceAdd, Nat.reduceLT, Nat.reduceSub, Nat.reduceMul, Int.reduceEq, Int.reduceLT, Int.reduceLE, Int.reduceNeg, Int.reduceToNat, List.reduceReplicate, Int.ofNat_le, List.getElem?_drop]
        exact Gh.fin0 (keep_new σ _) trivial (hk 0 (.inr (.inr ⟨⟨hl, he⟩, ht.1 rfl, rfl⟩)))
end Go.Proofs
set_option linter.unusedSimpArgs false
set_option linter.unusedVariables false
namespace Go.Proofs
open Go.Ab Go.Lie
variable {p : Int} {n : Nat} {W : List (List Int)} {B : List (List (List Int))}
/-- The bracket of two vectors, as a combination. -/
def brv (B : List (List (List Int))) (n : Nat) (f g : Vec) : Vec := fun t => sumN n fun i => sumN (n - 1 - i) fun j => (f i * g (i + 1 + j) - f (i + 1 + j) * g i) * at_ ((B.getD i []).getD j []) t
theorem bsum_brv (q : OkB p n B) (a b : List Int) (t : Nat) : at_ (bsum B a b n) t = brv B n (at_ a) (at_ b) t := bi_at q t (Nat.le_refl _)
theorem brv_add (f f' g : Vec) (t : Nat) : brv B n (fun j => f j + f' j) g t = brv B n f g t + brv B n f' g t := by
  simp only [brv]
  rw [← sumN_add]
  refine sumN_congr fun i _ => ?_
  rw [← sumN_add]
  refine sumN_congr fun j _ => ?_
  grind
theorem brv_mul (k : Int) (f g : Vec) (t : Nat) : brv B n (fun j => k * f j) g t = k * brv B n f g t := by
  simp only [brv]
  rw [← sumN_mul]
  refine sumN_congr fun i _ => ?_
  rw [← sumN_mul]
  refine sumN_congr fun j _ => ?_
  grind
theorem brv_anti (f g : Vec) (t : Nat) : brv B n f g t = -1 * brv B n g f t := by
  simp only [brv]
  rw [← sumN_mul]
  refine sumN_congr fun i _ => ?_
  rw [← sumN_mul]
  refine sumN_congr fun j _ => ?_
  grind
theorem brv_congr {f f' g g' : Vec} (h : ∀ j, j < n → f j = f' j) (h' : ∀ j, j < n → g j = g' j) (t : Nat) : brv B n f g t = brv B n f' g' t := by
  simp only [brv]
  refine sumN_congr fun i hi => sumN_congr fun j hj => ?_
  rw [h i hi, h _ (by omega : i + 1 + j < n), h' i hi, h' _ (by omega : i + 1 + j < n)]
theorem brv_sum (g : Vec) (t : Nat) : ∀ (m : Nat) (F : Nat → Vec), brv B n (fun j => sumN m fun k => F k j) g t = sumN m fun k => brv B n (F k) g t
  | 0, F => by
    simp only [sumN]
    have := brv_mul (B := B) (n := n) 0 (fun _ => 0) g t
    simpa using this
  | m + 1, F => by
    simp only [sumN]
    rw [brv_add, brv_sum g t m F]
end Go.Proofs
set_option linter.unusedSimpArgs false
set_option linter.unusedVariables false
namespace Go.Proofs
open Go.Ab Go.Lie
variable {p : Int} {n : Nat} {W : List (List Int)} {B : List (List (List Int))}
theorem eqv_sum0 : ∀ (m : Nat) (F : Nat → Vec), (∀ k, k < m → Eqv p n W (F k) fun _ => 0) → Eqv p n W (fun j => sumN m fun k => F k j) fun _ => 0
  | 0, F, _ => Eqv.of_eq fun j => rfl
  | m + 1, F, h => ((eqv_sum0 m F fun k hk => h k (by omega)).add (h m (by omega))).trans (Eqv.of_eq fun j => rfl)
theorem unit_at {j i : Nat} (hj : j < n) : at_ (unitL n j) i = if i = j then 1 else 0 := by
  rw [unitL, at_set (by simpa using hj), at_rep]
/-- A vector is the sum of its entries times the units. -/
theorem vec_sum (g : Vec) {i : Nat} (hi : i < n) : g i = sumN n fun k => g k * at_ (unitL n k) i := by
  rw [sumN_one hi fun k hk hne => by rw [unit_at hk, if_neg (fun e => hne e.symm), Int.mul_zero]]
  rw [unit_at hi, if_pos rfl, Int.mul_one]
theorem brv_rel (o : OkW p n W) (q : OkB p n B) (nf : NoFault p W B n) {i : Nat} (hi : i < n) (g : Vec) : Eqv p n W (brv B n (rel p W i) g) fun _ => 0 := by
  have one : ∀ j, j < n → Eqv p n W (brv B n (rel p W i) (at_ (unitL n j))) fun _ => 0 := fun j hj => by
    have hF := nf.1 i j hi hj
    unfold F1 at hF
    have ha := (mul_eqv o (br_el o q (a := unitL n i) (b := unitL n j)) p).2
    have hb : Eqv p n W (at_ (br p W B n (unitL n i) (unitL n j))) (at_ (bsum B (unitL n i) (unitL n j) n)) := norm_eqv o (bsum_length q)
    have hc : Eqv p n W (at_ (br p W B n (W.getD i []) (unitL n j))) (at_ (bsum B (W.getD i []) (unitL n j) n)) := norm_eqv o (bsum_length q)
    rw [← hF] at hc
    have hd : Eqv p n W (fun t => p * at_ (bsum B (unitL n i) (unitL n j) n) t) (at_ (bsum B (W.getD i []) (unitL n j) n)) := ((hb.mul p).symm.trans ha.symm).trans hc
    have he := hd.symm.add (Eqv.refl (p := p) (n := n) (W := W) fun t => -1 * (p * at_ (bsum B (unitL n i) (unitL n j) n) t))
    refine (Eqv.of_eq fun t => ?_).trans (he.trans (Eqv.of_eq fun t => by grind))
    rw [bsum_brv q, bsum_brv q, ← brv_mul, ← brv_mul, ← brv_add]
    refine brv_congr (fun k hk => ?_) (fun _ _ => rfl) t
    rw [unit_at hi, rel]
    by_cases e : k = i
    · rw [if_pos e, if_pos e]; grind
    · rw [if_neg e, if_neg e]; grind
  refine (Eqv.of_eq fun t => ?_).trans (eqv_sum0 n (fun k t => g k * brv B n (rel p W i) (at_ (unitL n k)) t) fun k hk => ((one k hk).mul (g k)).trans (Eqv.of_eq fun t => by grind))
  rw [brv_anti, brv_congr (f' := fun j => sumN n fun k => g k * at_ (unitL n k) j) (g' := rel p W i) (fun j hj => vec_sum g hj) (fun _ _ => rfl), brv_sum (t := t) (g := rel p W i) n (fun k j => g k * at_ (unitL n k) j), ← sumN_mul]
  refine sumN_congr fun k hk => ?_
  rw [brv_mul, brv_anti (f := at_ (unitL n k))]
  grind
theorem brv_eqv (o : OkW p n W) (q : OkB p n B) (nf : NoFault p W B n) {f f' : Vec} (g : Vec) (h : Eqv p n W f f') : Eqv p n W (brv B n f g) (brv B n f' g) := by
  obtain ⟨c, hc⟩ := h
  have h0 := eqv_sum0 n (fun i t => c i * brv B n (rel p W i) g t) fun k hk => ((brv_rel o q nf hk g).mul (c k)).trans (Eqv.of_eq fun t => by grind)
  refine (Eqv.of_eq fun t => ?_).trans (((Eqv.refl (brv B n f' g)).add h0).trans (Eqv.of_eq fun t => by grind))
  rw [brv_congr (f' := fun j => f' j + sumN n fun i => c i * rel p W i j) (g' := g) (fun j _ => hc j) (fun _ _ => rfl), brv_add, brv_sum (t := t) (g := g) n (fun i j => c i * rel p W i j)]
  congr 1
  exact sumN_congr fun k hk => by rw [brv_mul]
theorem brv_eqv2 (o : OkW p n W) (q : OkB p n B) (nf : NoFault p W B n) {g g' : Vec} (f : Vec) (h : Eqv p n W g g') : Eqv p n W (brv B n f g) (brv B n f g') :=
  ((Eqv.of_eq fun t => brv_anti f g t).trans ((brv_eqv o q nf f h).mul (-1))).trans (Eqv.of_eq fun t => (brv_anti f g' t).symm)
end Go.Proofs
set_option linter.unusedSimpArgs false
set_option linter.unusedVariables false
namespace Go.Proofs
open Go.Ab Go.Lie
variable {p : Int} {n : Nat} {W : List (List Int)} {B : List (List (List Int))}
theorem br_eqv (o : OkW p n W) (q : OkB p n B) (a b : List Int) : Eqv p n W (at_ (br p W B n a b)) (brv B n (at_ a) (at_ b)) :=
  (norm_eqv o (bsum_length q)).trans (Eqv.of_eq fun t => bsum_brv q a b t)
theorem lmul_eqv (o : OkW p n W) {x : List Int} (hx : El p n x) (k : Int) : Eqv p n W (at_ (lmul p W k x)) fun j => k * at_ x j := (mul_eqv o hx k).2
theorem ladd_eqv (o : OkW p n W) {x y : List Int} (hx : El p n x) (hy : El p n y) : Eqv p n W (at_ (ladd p W x y)) fun j => at_ x j + at_ y j :=
  (norm_eqv o (by rw [lmix_length (hx.1.trans hy.1.symm)]; exact hx.1)).trans (Eqv.of_eq fun j => by rw [lmix_at (hx.1.trans hy.1.symm)]; omega)
theorem brv_mul2 (k : Int) (f g : Vec) (t : Nat) : brv B n f (fun j => k * g j) t = k * brv B n f g t := by
  rw [brv_anti, brv_mul, brv_anti g f]; grind
/-- The third term of a product: both sides write it differently. -/
theorem third (o : OkW p n W) (q : OkB p n B) (nf : NoFault p W B n) {x y b : List Int} (hb : El p n b) :
    ladd p W (br p W B n x b) (br p W B n y (lmul p W (-1) b)) = norm p W (lmix 1 (br p W B n x b) (-1) (br p W B n y b)) := by
  have e1 : El p n (br p W B n x b) := br_el o q
  have e2 : El p n (br p W B n y b) := br_el o q
  have e3 : El p n (br p W B n y (lmul p W (-1) b)) := br_el o q
  have k1 : Eqv p n W (at_ (br p W B n y (lmul p W (-1) b))) fun j => -1 * at_ (br p W B n y b) j :=
    (br_eqv o q _ _).trans (((brv_eqv2 o q nf (at_ y) (lmul_eqv o hb (-1))).trans (Eqv.of_eq fun t => brv_mul2 (-1) _ _ t)).trans ((br_eqv o q y b).symm.mul (-1)))
  refine norm_congr o (by rw [lmix_length (e1.1.trans e3.1.symm)]; exact e1.1) (by rw [lmix_length (e1.1.trans e2.1.symm)]; exact e1.1) ?_
  refine (Eqv.of_eq fun j => ?_).trans (((Eqv.refl (at_ (br p W B n x b))).add k1).trans (Eqv.of_eq fun j => ?_))
  · rw [lmix_at (e1.1.trans e3.1.symm)]; omega
  · rw [lmix_at (e1.1.trans e2.1.symm)]; omega
end Go.Proofs
set_option linter.unusedSimpArgs false
set_option linter.unusedVariables false
namespace Go.Proofs
open Go.Ab Go.Lie
variable {p : Int} {n : Nat} {W : List (List Int)} {B : List (List (List Int))}
theorem brv_units (g f : Vec) (t : Nat) : brv B n f g t = sumN n fun k => g k * brv B n f (at_ (unitL n k)) t := by
  rw [brv_anti, brv_congr (f' := fun j => sumN n fun k => g k * at_ (unitL n k) j) (g' := f) (fun j hj => vec_sum g hj) (fun _ _ => rfl), brv_sum (t := t) (g := f) n (fun k j => g k * at_ (unitL n k) j), ← sumN_mul]
  refine sumN_congr fun k hk => ?_
  rw [brv_mul, brv_anti (f := at_ (unitL n k))]
  grind
theorem gen_br (o : OkW p n W) (q : OkB p n B) (nf : NoFault p W B n) {u : List (List Int)} {f : Vec} (hf : Gen p n W u f) : ∀ g : Vec, Gen p n W (brL p W B n u (units n)) (brv B n f g) := by
  have hS := gen_sub (p := p) (n := n) (W := W) (brL p W B n u (units n))
  refine gen_le (S := fun f => ∀ g : Vec, Gen p n W (brL p W B n u (units n)) (brv B n f g)) ⟨fun g => ?_, fun f f' h h' g => ?_, fun k f h g => ?_, fun f f' h h' g => ?_⟩ (fun v hv g => ?_) hf
  · refine hS.eqv _ _ (Eqv.of_eq fun t => ?_) hS.zero
    have := brv_mul (B := B) (n := n) 0 (fun _ => 0) g t
    simpa using this
  · exact hS.eqv _ _ (Eqv.of_eq fun t => brv_add f f' g t) (hS.add _ _ (h g) (h' g))
  · exact hS.eqv _ _ (Eqv.of_eq fun t => brv_mul k f g t) (hS.mul k _ (h g))
  · exact hS.eqv _ _ (brv_eqv o q nf g h) (h' g)
  · refine hS.eqv _ _ (Eqv.of_eq fun t => brv_units g (at_ v) t) (hS.sum fun k hk => hS.mul (g k) _ ?_)
    refine hS.eqv _ _ (br_eqv o q v (unitL n k)).symm (gen_mem (List.mem_flatMap.2 ⟨v, hv, List.mem_map.2 ⟨unitL n k, ?_, rfl⟩⟩))
    exact List.mem_map.2 ⟨k, List.mem_range.2 hk, rfl⟩
theorem gen_units (o : OkW p n W) {x : List Int} (hx : El p n x) : Gen p n W (units n) (at_ x) := by
  have hS := gen_sub (p := p) (n := n) (W := W) (units n)
  refine hS.eqv _ _ (Eqv.of_eq fun t => ?_) (hS.sum (m := n) (F := fun k j => at_ x k * at_ (unitL n k) j) fun k hk => hS.mul (at_ x k) _ (gen_mem (List.mem_map.2 ⟨k, List.mem_range.2 hk, rfl⟩)))
  rcases Nat.lt_or_ge t n with h | h
  · exact vec_sum (at_ x) h
  · rw [hx.beyond h, sumN_zero]
    intro k hk
    rw [unit_at hk, if_neg (by omega), Int.mul_zero]
end Go.Proofs
set_option linter.unusedSimpArgs false
set_option linter.unusedVariables false
namespace Go.Proofs
open Go.Ab Go.Lie
variable {p : Int} {n : Nat} {W : List (List Int)} {B : List (List (List Int))}
theorem low_gen (o : OkW p n W) (q : OkB p n B) (nf : NoFault p W B n) {u out : List (List Int)} (hc : Canon p n W (brL p W B n u (units n)) out) {f : Vec} (hf : Gen p n W u f) (g : Vec) : Gen p n W out (brv B n f g) :=
  (hc.gen _).1 (gen_br o q nf hf g)
/-- Behind the class everything is zero. -/
theorem cls_low (o : OkW p n W) (q : OkB p n B) {c : Nat} (h : Cls p n W B c) : ∀ k, ∃ u, Low p n W B k u ∧ (c ≤ k → u = []) ∨ k < c := fun k => by
  rcases Nat.lt_or_ge k c with x | x
  · exact ⟨[], .inr x⟩
  · obtain ⟨d, rfl⟩ : ∃ d, k = c + d := ⟨k - c, by omega⟩
    have : Low p n W B (c + d) [] := by
      clear x
      induction d with
      | zero => exact h.1
      | succ d ih =>
        refine .succ ih ?_
        have hb : brL p W B n [] (units n) = [] := rfl
        rw [hb]
        exact ⟨.nil, List.Pairwise.nil, fun f => Iff.rfl⟩
    exact ⟨[], .inl ⟨this, fun _ => rfl⟩⟩
theorem zero_of_eqv (o : OkW p n W) {z : List Int} (hz : El p n z) (h : Eqv p n W (at_ z) fun _ => 0) : isZ z := by
  have h1 := eqv_zero o hz h (Nat.le_refl n) fun _ _ => rfl
  intro x hx
  obtain ⟨j, hj, rfl⟩ := List.mem_iff_getElem.1 hx
  rw [← at_eq hj]
  exact h1 j (by rw [← hz.1]; exact hj)
end Go.Proofs
namespace Go.Proofs
open Go.Ab
/-- loop.example/g01076/laws.FnExactGroupToLie -/
def if3 : IFn := ⟨[0, 1], [(.tmp 4)], (.seq (.region [1, 2] [eI 2 (.box (.t 0)), qI 4 (.mv (.c (.bool false)))])
  (.seq (.seq (.region [1, 2, 19] [qI 17 (.mv (.t 1)), qI 18 (.len (.t 17)), qI 19 (.bin .gtr .other (.t 18) (.c (.int .i64 1048576)))])
  (.cond (.t 19) (.seq (.region [4] [qI 4 (.mv (.c (.bool true)))])
  .ret) .skip))
  (.seq (.region [1, 2, 5] [qI 5 (.mv (.c (.int .i64 1048576)))])
  (.seq (.region [1, 2, 5] [qI 20 (.load true 3 (.t 2)), qI 21 (.mv (.t 5)), eI 22 (.call 11 [(.t 20), (.t 21)]), qI 5 (.mv (.t 22))])
  (.seq (.seq (.region [1, 2, 24] [qI 23 (.mv (.t 5)), qI 24 (.bin .lss .other (.t 23) (.c (.int .i64 0)))])
  (.cond (.t 24) (.seq (.region [4] [qI 4 (.mv (.c (.bool true)))])
  .ret) .skip))
  (.seq (.region [1, 2, 6, 7] [qI 26 (.load true 3 (.t 2)), eI 27 (.call 13 [(.t 26)]), qI 28 (.mv (.t 1)), eI 29 (.call 14 [(.t 28)]), eI 30 (.call 12 [(.t 27), (.t 29)]), qI 25 (.mv (.t 30)), qI 31 (.extract (.t 25) 0), qI 32 (.extract (.t 25) 1), qI 6 (.mv (.t 31)), qI 7 (.mv (.t 32))])
  (.seq (.region [1, 2, 6, 7, 8] [qI 33 (.load true 3 (.t 2)), eI 34 (.call 13 [(.t 33)]), eI 8 (.alloc [(.int .i64 0), .nils, .nils]), nI (.store 3 (.t 8) (.t 34))])
  (.seq (.region [1, 2, 6, 7, 8, 9] [qI 35 (.mv (.t 1)), eI 36 (.call 14 [(.t 35)]), qI 9 (.mv (.t 36))])
  (.seq (.region [1, 2, 6, 7, 8, 9, 10, 11] [qI 38 (.load true 3 (.t 8)), qI 39 (.mv (.t 9)), eI 40 (.call 15 [(.t 38), (.t 39)]), qI 37 (.mv (.t 40)), qI 41 (.extract (.t 37) 0), qI 42 (.extract (.t 37) 1), qI 10 (.mv (.t 41)), qI 11 (.mv (.t 42))])
  (.seq (.seq (.region [1, 2, 6, 7, 8, 9, 10, 11, 51] [qI 43 (.mv (.t 10)), qI 44 (.mv (.t 6)), eI 45 (.call 16 [(.t 43), (.t 44)]), qI 46 (.un .not (.t 45)), qI 47 (.mv (.t 46)), ⟨(some 48), .mv (.t 11), true, (some (47, false))⟩, ⟨(some 49), .mv (.t 7), true, (some (47, false))⟩, ⟨(some 50), .bin .neq .other (.t 48) (.t 49), true, (some (47, false))⟩, qI 51 (.pick (.t 47) (.c (.bool true)) (.t 50))])
  (.cond (.t 51) (.seq (.region [4] [qI 4 (.mv (.c (.bool false)))])
  .ret) .skip))
  (.seq (.seq (.draw [1, 2, 6, 7, 8, 9, 10, 11, 56] [] [qD 52 (.load true 3 (.t 8)) 0, qD 53 (.load true 3 (.t 2)) 1, eD 54 (.call 13 [(.t 53)]) 2 [0], eD 55 (.call 17 [(.t 52), (.t 54)]) 3 [], qD 56 (.un .not (.t 55)) 4])
  (.cond (.t 56) (.seq (.region [4] [qI 4 (.mv (.c (.bool false)))])
  .ret) .skip))
  (.seq (.seq (.region [1, 2, 6, 7, 8, 9, 10, 11, 61] [qI 57 (.mv (.t 9)), qI 58 (.mv (.t 1)), eI 59 (.call 14 [(.t 58)]), eI 60 (.call 16 [(.t 57), (.t 59)]), qI 61 (.un .not (.t 60))])
  (.cond (.t 61) (.seq (.region [4] [qI 4 (.mv (.c (.bool false)))])
  .ret) .skip))
  (.seq (.region [1, 2, 6, 7, 8, 9, 10, 11, 12] [qI 12 (.mv (.c (.int .i64 1)))])
  (.seq (.region [1, 2, 6, 7, 9, 10, 11, 12] [qI 62 (.load true 3 (.t 8)), qI 63 (.mv (.t 12)), eI 64 (.call 18 [(.t 62), (.t 63)]), qI 12 (.mv (.t 64))])
  (.seq (.region [1, 2, 6, 7, 10, 11, 12] [qI 65 (.mv (.t 9)), qI 66 (.mv (.t 12)), eI 67 (.call 19 [(.t 65), (.t 66)]), qI 12 (.mv (.t 67))])
  (.seq (.seq (.region [1, 2, 6, 7, 10, 80] [qI 68 (.mv (.t 12)), qI 69 (.bin .lss .other (.t 68) (.c (.int .i64 0))), qI 70 (.mv (.t 69)), ⟨(some 71), .mv (.t 10), true, (some (70, false))⟩, ⟨(some 72), .mv (.t 6), true, (some (70, false))⟩, ⟨(some 73), .call 16 [(.t 71), (.t 72)], false, (some (70, false))⟩, ⟨(some 74), .un .not (.t 73), true, (some (70, false))⟩, qI 75 (.pick (.t 70) (.c (.bool true)) (.t 74)), qI 76 (.mv (.t 75)), ⟨(some 77), .mv (.t 11), true, (some (76, false))⟩, ⟨(some 78), .mv (.t 7), true, (some (76, false))⟩, ⟨(some 79), .bin .neq .other (.t 77) (.t 78), true, (some (76, false))⟩, qI 80 (.pick (.t 76) (.c (.bool true)) (.t 79))])
  (.cond (.t 80) (.seq (.region [4] [qI 4 (.mv (.c (.bool false)))])
  .ret) .skip))
  (.seq (.region [1, 2, 6, 7, 10, 13] [qI 13 (.mv (.c (.int .i64 1)))])
  (.seq (.region [1, 2, 6, 7, 10, 13] [qI 81 (.mv (.t 10)), qI 82 (.mv (.t 13)), eI 83 (.call 19 [(.t 81), (.t 82)]), qI 13 (.mv (.t 83))])
  (.seq (.region [1, 2, 6, 7, 10, 13, 14] [qI 14 (.mv (.c (.int .i64 1)))])
  (.seq (.region [1, 2, 6, 7, 10, 13, 14] [qI 84 (.mv (.t 10)), qI 85 (.mv (.t 14)), eI 86 (.call 20 [(.t 84), (.t 85)]), qI 14 (.mv (.t 86))])
  (.seq (.seq (.region [1, 2, 6, 7, 10, 13, 14, 88] [qI 87 (.mv (.t 14)), qI 88 (.bin .lss .other (.t 87) (.c (.int .i64 0)))])
  (.cond (.t 88) (.seq (.region [4] [qI 4 (.mv (.c (.bool false)))])
  .ret) .skip))
  (.seq (.seq (.region [1, 2, 6, 7, 10, 13, 91] [qI 89 (.mv (.t 14)), qI 90 (.mv (.t 13)), qI 91 (.bin .neq .other (.t 89) (.t 90))])
  (.cond (.t 91) (.seq (.region [4] [qI 4 (.mv (.c (.bool false)))])
  .ret) .skip))
  (.seq (.region [6, 7, 10, 13, 15, 16] [qI 93 (.load true 3 (.t 2)), eI 94 (.call 13 [(.t 93)]), qI 95 (.mv (.t 1)), eI 96 (.call 14 [(.t 95)]), eI 97 (.call 15 [(.t 94), (.t 96)]), qI 92 (.mv (.t 97)), qI 98 (.extract (.t 92) 0), qI 99 (.extract (.t 92) 1), qI 15 (.mv (.t 98)), qI 16 (.mv (.t 99))])
  (.seq (.seq (.region [10, 13, 108] [qI 100 (.mv (.t 15)), qI 101 (.mv (.t 6)), eI 102 (.call 16 [(.t 100), (.t 101)]), qI 103 (.un .not (.t 102)), qI 104 (.mv (.t 103)), ⟨(some 105), .mv (.t 16), true, (some (104, false))⟩, ⟨(some 106), .mv (.t 7), true, (some (104, false))⟩, ⟨(some 107), .bin .neq .other (.t 105) (.t 106), true, (some (104, false))⟩, qI 108 (.pick (.t 104) (.c (.bool true)) (.t 107))])
  (.cond (.t 108) (.seq (.region [4] [qI 4 (.mv (.c (.bool false)))])
  .ret) .skip))
  (.seq (.region [10, 13, 14] [qI 14 (.mv (.c (.int .i64 1)))])
  (.seq (.region [13, 14] [qI 109 (.mv (.t 10)), qI 110 (.mv (.t 14)), eI 111 (.call 20 [(.t 109), (.t 110)]), qI 14 (.mv (.t 111))])
  (.seq (.seq (.region [13, 14, 113] [qI 112 (.mv (.t 14)), qI 113 (.bin .lss .other (.t 112) (.c (.int .i64 0)))])
  (.cond (.t 113) (.seq (.region [4] [qI 4 (.mv (.c (.bool false)))])
  .ret) .skip))
  (.seq (.seq (.region [116] [qI 114 (.mv (.t 14)), qI 115 (.mv (.t 13)), qI 116 (.bin .neq .other (.t 114) (.t 115))])
  (.cond (.t 116) (.seq (.region [4] [qI 4 (.mv (.c (.bool false)))])
  .ret) .skip))
  (.seq (.region [4] [qI 4 (.mv (.c (.bool true)))])
  .ret)))))))))))))))))))))))))))))⟩
theorem cf3 : cF Try.prog Try.f3 = some if3 := by kernel_rfl
/-- loop.example/g01076/laws.FnExactLieToGroup -/
def if4 : IFn := ⟨[0, 1], [(.tmp 4)], (.seq (.region [1, 2] [eI 2 (.box (.t 0)), qI 4 (.mv (.c (.bool false)))])
  (.seq (.seq (.region [1, 2, 19] [qI 17 (.mv (.t 1)), qI 18 (.len (.t 17)), qI 19 (.bin .gtr .other (.t 18) (.c (.int .i64 1048576)))])
  (.cond (.t 19) (.seq (.region [4] [qI 4 (.mv (.c (.bool true)))])
  .ret) .skip))
  (.seq (.region [1, 2, 5] [qI 5 (.mv (.c (.int .i64 1048576)))])
  (.seq (.region [1, 2, 5] [qI 20 (.load true 3 (.t 2)), qI 21 (.mv (.t 5)), eI 22 (.call 11 [(.t 20), (.t 21)]), qI 5 (.mv (.t 22))])
  (.seq (.seq (.region [1, 2, 24] [qI 23 (.mv (.t 5)), qI 24 (.bin .lss .other (.t 23) (.c (.int .i64 0)))])
  (.cond (.t 24) (.seq (.region [4] [qI 4 (.mv (.c (.bool true)))])
  .ret) .skip))
  (.seq (.region [1, 2, 6, 7] [qI 26 (.load true 3 (.t 2)), eI 27 (.call 13 [(.t 26)]), qI 28 (.mv (.t 1)), eI 29 (.call 14 [(.t 28)]), eI 30 (.call 21 [(.t 27), (.t 29)]), qI 25 (.mv (.t 30)), qI 31 (.extract (.t 25) 0), qI 32 (.extract (.t 25) 1), qI 6 (.mv (.t 31)), qI 7 (.mv (.t 32))])
  (.seq (.region [1, 2, 6, 7, 8] [qI 33 (.load true 3 (.t 2)), eI 34 (.call 13 [(.t 33)]), eI 8 (.alloc [(.int .i64 0), .nils, .nils]), nI (.store 3 (.t 8) (.t 34))])
  (.seq (.region [1, 2, 6, 7, 8, 9] [qI 35 (.mv (.t 1)), eI 36 (.call 14 [(.t 35)]), qI 9 (.mv (.t 36))])
  (.seq (.region [1, 2, 6, 7, 8, 9, 10, 11] [qI 38 (.load true 3 (.t 8)), qI 39 (.mv (.t 9)), eI 40 (.call 22 [(.t 38), (.t 39)]), qI 37 (.mv (.t 40)), qI 41 (.extract (.t 37) 0), qI 42 (.extract (.t 37) 1), qI 10 (.mv (.t 41)), qI 11 (.mv (.t 42))])
  (.seq (.seq (.region [1, 2, 6, 7, 8, 9, 10, 11, 51] [qI 43 (.mv (.t 10)), qI 44 (.mv (.t 6)), eI 45 (.call 16 [(.t 43), (.t 44)]), qI 46 (.un .not (.t 45)), qI 47 (.mv (.t 46)), ⟨(some 48), .mv (.t 11), true, (some (47, false))⟩, ⟨(some 49), .mv (.t 7), true, (some (47, false))⟩, ⟨(some 50), .bin .neq .other (.t 48) (.t 49), true, (some (47, false))⟩, qI 51 (.pick (.t 47) (.c (.bool true)) (.t 50))])
  (.cond (.t 51) (.seq (.region [4] [qI 4 (.mv (.c (.bool false)))])
  .ret) .skip))
  (.seq (.seq (.draw [1, 2, 6, 7, 8, 9, 10, 11, 56] [] [qD 52 (.load true 3 (.t 8)) 0, qD 53 (.load true 3 (.t 2)) 1, eD 54 (.call 13 [(.t 53)]) 2 [0], eD 55 (.call 17 [(.t 52), (.t 54)]) 3 [], qD 56 (.un .not (.t 55)) 4])
  (.cond (.t 56) (.seq (.region [4] [qI 4 (.mv (.c (.bool false)))])
  .ret) .skip))
  (.seq (.seq (.region [1, 2, 6, 7, 8, 9, 10, 11, 61] [qI 57 (.mv (.t 9)), qI 58 (.mv (.t 1)), eI 59 (.call 14 [(.t 58)]), eI 60 (.call 16 [(.t 57), (.t 59)]), qI 61 (.un .not (.t 60))])
  (.cond (.t 61) (.seq (.region [4] [qI 4 (.mv (.c (.bool false)))])
  .ret) .skip))
  (.seq (.region [1, 2, 6, 7, 8, 9, 10, 11, 12] [qI 12 (.mv (.c (.int .i64 1)))])
  (.seq (.region [1, 2, 6, 7, 9, 10, 11, 12] [qI 62 (.load true 3 (.t 8)), qI 63 (.mv (.t 12)), eI 64 (.call 18 [(.t 62), (.t 63)]), qI 12 (.mv (.t 64))])
  (.seq (.region [1, 2, 6, 7, 10, 11, 12] [qI 65 (.mv (.t 9)), qI 66 (.mv (.t 12)), eI 67 (.call 19 [(.t 65), (.t 66)]), qI 12 (.mv (.t 67))])
  (.seq (.seq (.region [1, 2, 6, 7, 10, 80] [qI 68 (.mv (.t 12)), qI 69 (.bin .lss .other (.t 68) (.c (.int .i64 0))), qI 70 (.mv (.t 69)), ⟨(some 71), .mv (.t 10), true, (some (70, false))⟩, ⟨(some 72), .mv (.t 6), true, (some (70, false))⟩, ⟨(some 73), .call 16 [(.t 71), (.t 72)], false, (some (70, false))⟩, ⟨(some 74), .un .not (.t 73), true, (some (70, false))⟩, qI 75 (.pick (.t 70) (.c (.bool true)) (.t 74)), qI 76 (.mv (.t 75)), ⟨(some 77), .mv (.t 11), true, (some (76, false))⟩, ⟨(some 78), .mv (.t 7), true, (some (76, false))⟩, ⟨(some 79), .bin .neq .other (.t 77) (.t 78), true, (some (76, false))⟩, qI 80 (.pick (.t 76) (.c (.bool true)) (.t 79))])
  (.cond (.t 80) (.seq (.region [4] [qI 4 (.mv (.c (.bool false)))])
  .ret) .skip))
  (.seq (.region [1, 2, 6, 7, 10, 13] [qI 13 (.mv (.c (.int .i64 1)))])
  (.seq (.region [1, 2, 6, 7, 10, 13] [qI 81 (.mv (.t 10)), qI 82 (.mv (.t 13)), eI 83 (.call 19 [(.t 81), (.t 82)]), qI 13 (.mv (.t 83))])
  (.seq (.region [1, 2, 6, 7, 10, 13, 14] [qI 14 (.mv (.c (.int .i64 1)))])
  (.seq (.region [1, 2, 6, 7, 10, 13, 14] [qI 84 (.mv (.t 10)), qI 85 (.mv (.t 14)), eI 86 (.call 20 [(.t 84), (.t 85)]), qI 14 (.mv (.t 86))])
  (.seq (.seq (.region [1, 2, 6, 7, 10, 13, 14, 88] [qI 87 (.mv (.t 14)), qI 88 (.bin .lss .other (.t 87) (.c (.int .i64 0)))])
  (.cond (.t 88) (.seq (.region [4] [qI 4 (.mv (.c (.bool false)))])
  .ret) .skip))
  (.seq (.seq (.region [1, 2, 6, 7, 10, 13, 91] [qI 89 (.mv (.t 14)), qI 90 (.mv (.t 13)), qI 91 (.bin .neq .other (.t 89) (.t 90))])
  (.cond (.t 91) (.seq (.region [4] [qI 4 (.mv (.c (.bool false)))])
  .ret) .skip))
  (.seq (.region [6, 7, 10, 13, 15, 16] [qI 93 (.load true 3 (.t 2)), eI 94 (.call 13 [(.t 93)]), qI 95 (.mv (.t 1)), eI 96 (.call 14 [(.t 95)]), eI 97 (.call 22 [(.t 94), (.t 96)]), qI 92 (.mv (.t 97)), qI 98 (.extract (.t 92) 0), qI 99 (.extract (.t 92) 1), qI 15 (.mv (.t 98)), qI 16 (.mv (.t 99))])
  (.seq (.seq (.region [10, 13, 108] [qI 100 (.mv (.t 15)), qI 101 (.mv (.t 6)), eI 102 (.call 16 [(.t 100), (.t 101)]), qI 103 (.un .not (.t 102)), qI 104 (.mv (.t 103)), ⟨(some 105), .mv (.t 16), true, (some (104, false))⟩, ⟨(some 106), .mv (.t 7), true, (some (104, false))⟩, ⟨(some 107), .bin .neq .other (.t 105) (.t 106), true, (some (104, false))⟩, qI 108 (.pick (.t 104) (.c (.bool true)) (.t 107))])
  (.cond (.t 108) (.seq (.region [4] [qI 4 (.mv (.c (.bool false)))])
  .ret) .skip))
  (.seq (.region [10, 13, 14] [qI 14 (.mv (.c (.int .i64 1)))])
  (.seq (.region [13, 14] [qI 109 (.mv (.t 10)), qI 110 (.mv (.t 14)), eI 111 (.call 20 [(.t 109), (.t 110)]), qI 14 (.mv (.t 111))])
  (.seq (.seq (.region [13, 14, 113] [qI 112 (.mv (.t 14)), qI 113 (.bin .lss .other (.t 112) (.c (.int .i64 0)))])
  (.cond (.t 113) (.seq (.region [4] [qI 4 (.mv (.c (.bool false)))])
  .ret) .skip))
  (.seq (.seq (.region [116] [qI 114 (.mv (.t 14)), qI 115 (.mv (.t 13)), qI 116 (.bin .neq .other (.t 114) (.t 115))])
  (.cond (.t 116) (.seq (.region [4] [qI 4 (.mv (.c (.bool false)))])
  .ret) .skip))
  (.seq (.region [4] [qI 4 (.mv (.c (.bool true)))])
  .ret)))))))))))))))))))))))))))))⟩
theorem cf4 : cF Try.prog Try.f4 = some if4 := by kernel_rfl
end Go.Proofs
namespace Go.Proofs.Ytngdcibjjomfjaa
open Go.ChangeShapes Go.WideShapes Go.ChangeAt Go.RowKit Go.Ab Go.Joins Go.Lie Go.Proofs
set_option linter.unusedVariables false
theorem own : ownKnob Try.prog.godebug = none := by kernel_rfl
theorem laidOut : laidOutB Try.prog = true := by kernel_rfl
theorem cell22 : Try.prog.cellsOf 22 = 1 := by kernel_rfl
theorem cell2 : Try.prog.cellsOf 2 = 1 := by kernel_rfl
theorem cell26 : Try.prog.cellsOf 26 = 1 := by kernel_rfl
theorem cell25 : Try.prog.cellsOf 25 = 3 := by kernel_rfl
variable {H : Type} {enc : TypeId × Value → H} {W w0 : World} {j : Inj} {h : AHeap}
/-- Lists of lists. -/
def LII (v : PV) (xs : List (List Int)) : Prop := FII v xs ∧ xs.length ≤ 9223372036854775807 ∧ ∀ x ∈ xs, x.length ≤ 9223372036854775807
def LIII (v : PV) (xs : List (List (List Int))) : Prop := FIII v xs ∧ xs.length ≤ 9223372036854775807 ∧ ∀ q ∈ xs, q.length ≤ 9223372036854775807 ∧ ∀ x ∈ q, x.length ≤ 9223372036854775807
theorem layI : Lay1 enc Try.prog W 26 (fun v (xs : List Int) => FI v xs ∧ xs.length ≤ 9223372036854775807) := lay_ints (e := 2) Try.underlying26 cell2 Try.underlying2
theorem layII : Lay1 enc Try.prog W 22 LII := by
  intro w0 j h held fuel v x m hx
  obtain ⟨j', h', pv, a, g1, g2, g3, g4, g5, g6, g7, g8⟩ := lay_slice Try.underlying22 cell26 layI w0 j h held fuel v x m hx
  exact ⟨j', h', pv, a, g1, g2, g3, g4, g5, g6, g7.imp fun _ _ k => k.1, g8, g7.all fun _ _ k => k.2⟩
theorem layIII : Lay1 enc Try.prog W 23 LIII := by
  intro w0 j h held fuel v x m hx
  obtain ⟨j', h', pv, a, g1, g2, g3, g4, g5, g6, g7, g8⟩ := lay_slice Try.underlying23 cell22 layII w0 j h held fuel v x m hx
  exact ⟨j', h', pv, a, g1, g2, g3, g4, g5, g6, g7.imp fun _ _ k => k.1, g8, g7.all fun _ _ k => k.2⟩
set_option maxRecDepth 100000 in
/-- A ring that is handed over. -/
theorem layLie {b0 : Nat} {v : Value} {d : DataW H} {q : List MemPlace} (m : MR W.heap.size w0 j h W) (hv : Value.okWide Try.prog W .any b0 25 v) (ht : DataW.Trod enc Try.prog W 0 (fun _ => true) true 25 v d q) :
    ∃ (j' : Inj) (h' : AHeap) (p : Int) (vP vB : PV) (Ws : List (List Int)) (Bs : List (List (List Int))), MR W.heap.size w0 j' h' W ∧ j.le j' ∧ Ext h h' ∧ VI j' (er idz (.agg [.int .i64 p, vP, vB])) v ∧ VOK (zlt h') h' 0 (.agg [.int .i64 p, vP, vB]) ∧ IsR vP vB Ws Bs ∧ MxR Ws Bs := by
  obtain ⟨v0, v1, v2, y0, y1, y2, n, rfl, rfl, rfl, t0, t1, t2⟩ := open_agg3 Try.underlying25 (by kernel_rfl) cell25 hv ht
  obtain ⟨a, ha, _, _⟩ := DataW.trod_int Try.underlying2 t0
  simp only [List.cons.injEq, and_true] at ha
  subst ha
  obtain ⟨j1, h1, vP, Ws, m1, l1, e1, i1, o1, _, p1, p2, p3⟩ := layII w0 j h true n v1 _ m t1
  obtain ⟨j2, h2, vB, Bs, m2, l2, e2, i2, o2, _, q1, q2, q3⟩ := layIII w0 j1 h1 true n v2 _ m1 t2
  exact ⟨j2, h2, a, vP, vB, Ws, Bs, m2, l1.trans l2, e1.trans e2, ⟨_, ⟨_, _, rfl, rfl, _, _, rfl, VI.mono l2 _ _ i1, _, _, rfl, i2, rfl⟩, rfl⟩, ⟨trivial, e2.vok o1, o2, trivial⟩, ⟨p1, q1⟩, ⟨p2, p3, q2, q3⟩⟩
end Go.Proofs.Ytngdcibjjomfjaa
