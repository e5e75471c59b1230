/- Spans of Lie rings, the reference's side: the whole. -/
import Derived.Test.YthgccplmmogcnaaCVU15
set_option linter.unusedSimpArgs false
set_option linter.unusedVariables false
namespace Go.Proofs
open Go.Ab Go.Lie
variable {σ : PHeap} {K : PV → PHeap → Prop} {p p' : Int} {n : Nat} {W : List (List Int)} {B : List (List (List Int))} {vP vB vL vU : PV}

theorem finS_length : ∀ u : List (List Int), (finS p W u).length = u.length
  | [] => rfl
  | v :: t => by simp [finS, finS_length t]
theorem finS_get : ∀ (u : List (List Int)) (k : Nat) (h : k < u.length), (finS p W u)[k]? = some (redL p W (u.drop (k + 1)) u[k])
  | [], k, h => by simp at h
  | v :: t, 0, h => by simp [finS]
  | v :: t, k + 1, h => by
    have := finS_get t k (by simpa using h)
    simp only [finS, List.getElem?_cons_succ, List.drop_succ_cons, List.getElem_cons_succ]
    exact this
theorem isZ_at {xs : List Int} (h : isZ xs) (j : Nat) : at_ xs j = 0 := by
  rcases Nat.lt_or_ge j xs.length with x | x
  · rw [at_eq x]; exact h _ (List.getElem_mem x)
  · exact at_ge x
theorem not_isZ_dep {xs : List Int} (h : ¬ isZ xs) : dep xs < xs.length := by
  rcases Nat.lt_or_ge (dep xs) xs.length with x | x
  · exact x
  · exact absurd (dep_full (by have := dep_le xs; omega)) h
theorem led_ne {u : List (List Int)} {x : List Int} (hz : ∀ v ∈ u, at_ x (dep v) = 0) (hx : dep x < x.length) : ∀ v ∈ u, dep v ≠ dep x := fun v hv e => dep_ne hx (by rw [← e]; exact hz v hv)

theorem l32Span_ok {gens : List (List Int)} (hR : IsR vP vB W B) (o : OkW p n W) (hp : isP p) (hL : FII vL gens) (he : Els p n gens) (hgl : gens.length ≤ 1048576) (hk : ∀ v out, Canon p n W gens out → FII v out → K v σ) :
    PCalls Try.prog 63 [.agg [.int .i64 p, vP, vB], vL] σ K := by
  have h1 := hR.P.one
  have h2 := hR.B.one
  have hn6 := o.le
  have hpb := hp.bd
  have hpk : -1000000000 ≤ p ∧ p ≤ 1000000000 := by omega
  obtain ⟨wl, al, rl, rfl, hrl⟩ := hL
  refine PCalls.gh ?_
  refine pcalls_of_vp mix Try.func63 cf63 rfl ?_
  dsimp only [if63, qI, eI, nI, qD, eD]
  simp only [pw0, pw1, pw2, pw3, pw4, pw5, pw6, pw7, pw8, pw9, if_true, if_false, eq_self, nm_eq, reduceCtorEq, ↓reduceIte, Nat.reduceEqDiff, Nat.reduceLeDiff, Nat.reduceBEq, Nat.reduceAdd, Nat.reduceLT, Nat.reduceSub, Nat.reduceMul, Int.reduceEq, Int.reduceLT, Int.reduceLE, Int.reduceNeg, Int.reduceToNat, List.reduceReplicate, Int.ofNat_le, List.getElem?_drop, h1, h2]
  generalize hH : ((σ.new [.int .i64 p, vP, vB]).new []).kill (σ.next + 1) = H
  have hHn : H.next = σ.next + 2 := by rw [← hH]; simp only [pw0, pw1, pw2, pw3, pw4, pw5, pw6, pw7, pw8, pw9, if_true, if_false, eq_self, nm_eq, reduceCtorEq, ↓reduceIte, Nat.reduceEqDiff, Nat.reduceLeDiff, Nat.reduceBEq, Nat.reduceAdd, Nat.reduceLT, Nat.reduceSub, Nat.reduceMul, Int.reduceEq, Int.reduceLT, Int.reduceLE, Int.reduceNeg, Int.reduceToNat, List.reduceReplicate, Int.ofNat_le, List.getElem?_drop]
  have hHk : Keep σ H := by rw [← hH]; exact ((keep_new σ _).new _).kill (by omega)
  have hb3 : H.rd σ.next 0 3 = some [.int .i64 p, vP, vB] := by rw [← hH]; simp only [pw0, pw1, pw2, pw3, pw4, pw5, pw6, pw7, pw8, pw9, if_true, if_false, eq_self, nm_eq, reduceCtorEq, ↓reduceIte, Nat.reduceEqDiff, Nat.reduceLeDiff, Nat.reduceBEq, Nat.reduceAdd, Nat.reduceLT, Nat.reduceSub, Nat.reduceMul, Int.reduceEq, Int.reduceLT, Int.reduceLE, Int.reduceNeg, Int.reduceToNat, List.reduceReplicate, Int.ofNat_le, List.getElem?_drop]
  have hb1 : H.rd1 σ.next 0 = some (.int .i64 p) := by rw [← hH]; simp only [pw0, pw1, pw2, pw3, pw4, pw5, pw6, pw7, pw8, pw9, if_true, if_false, eq_self, nm_eq, reduceCtorEq, ↓reduceIte, Nat.reduceEqDiff, Nat.reduceLeDiff, Nat.reduceBEq, Nat.reduceAdd, Nat.reduceLT, Nat.reduceSub, Nat.reduceMul, Int.reduceEq, Int.reduceLT, Int.reduceLE, Int.reduceNeg, Int.reduceToNat, List.reduceReplicate, Int.ofNat_le, List.getElem?_drop]
  have elU : ∀ {u Q : List (List Int)}, Grow p n W gens u Q → (∀ v ∈ u, El p n v ∧ dep v < n) ∧ u.length ≤ n := fun g => ⟨fun v hv => ⟨(g.led v hv).1, (g.led v hv).2.1⟩, asc_length (fun v hv => (g.led v hv).2.1) g.asc⟩
  refine vp_loopG (fun m vs h' => ∃ i : Nat, i ≤ gens.length ∧ m = gens.length - i ∧ ∃ vU u, vs = [.fz wl al gens.length rl, .ptr σ.next 0, vU, .int .i64 i] ∧ H = h' ∧ FII vU u ∧ Grow p n W gens u (gens.drop i)) gens.length ?_ ?_
  · refine .fz (σ.next + 1) [] (by simp only [pw0, pw1, pw2, pw3, pw4, pw5, pw6, pw7, pw8, pw9, if_true, if_false, eq_self, nm_eq, reduceCtorEq, ↓reduceIte, Nat.reduceEqDiff, Nat.reduceLeDiff, Nat.reduceBEq, Nat.reduceAdd, Nat.reduceLT, Nat.reduceSub, Nat.reduceMul, Int.reduceEq, Int.reduceLT, Int.reduceLE, Int.reduceNeg, Int.reduceToNat, List.reduceReplicate, Int.ofNat_le, List.getElem?_drop]) trivial fun o1 => .here ?_
    rw [hH]
    refine ⟨0, by omega, by omega, .fz true (.sl o1 0 0 (.known 0)) 0 [], [], ?_, rfl, ⟨_, _, _, rfl, All2.nil _⟩, by rw [List.drop_zero]; exact Grow.start he⟩
    simp only [pw0, pw1, pw2, pw3, pw4, pw5, pw6, pw7, pw8, pw9, if_true, if_false, eq_self, nm_eq, reduceCtorEq, ↓reduceIte, Nat.reduceEqDiff, Nat.reduceLeDiff, Nat.reduceBEq, Nat.reduceAdd, Nat.reduceLT, Nat.reduceSub, Nat.reduceMul, Int.reduceEq, Int.reduceLT, Int.reduceLE, Int.reduceNeg, Int.reduceToNat, List.reduceReplicate, Int.ofNat_le, List.getElem?_drop]
    simp only [sbs, sb, capOK, Nat.le_refl, decide_true, and_self, if_true]
    rfl
  rintro m vs h' ⟨i, hi, rfl, vU, u, rfl, rfl, hU, hg⟩
  simp only [pw0, pw1, pw2, pw3, pw4, pw5, pw6, pw7, pw8, pw9, if_true, if_false, eq_self, nm_eq, reduceCtorEq, ↓reduceIte, Nat.reduceEqDiff, Nat.reduceLeDiff, Nat.reduceBEq, Nat.reduceAdd, Nat.reduceLT, Nat.reduceSub, Nat.reduceMul, Int.reduceEq, Int.reduceLT, Int.reduceLE, Int.reduceNeg, Int.reduceToNat, List.reduceReplicate, Int.ofNat_le, List.getElem?_drop]
  refine iteI (fun hlt => ?_) fun hge => ?_
  · obtain ⟨w4, a4, hr⟩ := hrl.rowI hlt
    have hge := he _ (List.getElem_mem hlt)
    have hd : gens.drop i = gens[i] :: gens.drop (i + 1) := List.drop_eq_getElem_cons hlt
    rw [hd] at hg
    simp only [pw0, pw1, pw2, pw3, pw4, pw5, pw6, pw7, pw8, pw9, if_true, if_false, eq_self, nm_eq, reduceCtorEq, ↓reduceIte, Nat.reduceEqDiff, Nat.reduceLeDiff, Nat.reduceBEq, Nat.reduceAdd, Nat.reduceLT, Nat.reduceSub, Nat.reduceMul, Int.reduceEq, Int.reduceLT, Int.reduceLE, Int.reduceNeg, Int.reduceToNat, List.reduceReplicate, Int.ofNat_le, List.getElem?_drop, hlt, hr, hb3, hb1]
    refine l32Reduce_ok hR o hU (elU hg).1 (by have := (elU hg).2; omega) hge rfl fun v0 => ?_
    simp only [pw0, pw1, pw2, pw3, pw4, pw5, pw6, pw7, pw8, pw9, if_true, if_false, eq_self, nm_eq, reduceCtorEq, ↓reduceIte, Nat.reduceEqDiff, Nat.reduceLeDiff, Nat.reduceBEq, Nat.reduceAdd, Nat.reduceLT, Nat.reduceSub, Nat.reduceMul, Int.reduceEq, Int.reduceLT, Int.reduceLE, Int.reduceNeg, Int.reduceToNat, List.reduceReplicate, Int.ofNat_le, List.getElem?_drop]
    refine vp_loop (fun m vs h' => ∃ vU u vX x, m = n - u.length ∧ vs = [.fz wl al gens.length rl, .ptr σ.next 0, vU, .int .i64 i, .fz true vX n (pis x)] ∧ H = h' ∧ FII vU u ∧ Grow p n W gens u (x :: gens.drop (i + 1)) ∧ ∀ v ∈ u, at_ x (dep v) = 0) (n - u.length) ?_ ?_
    · exact ⟨vU, u, v0, _, rfl, rfl, rfl, hU, hg.reduce o, (redL_at o hg.led hg.asc hge).1⟩
    rintro m vs h' ⟨vU, u, vX, x, rfl, rfl, rfl, hU, hg, hz⟩
    have hx := hg.els x (by simp)
    have hxl := hx.1
    simp only [pw0, pw1, pw2, pw3, pw4, pw5, pw6, pw7, pw8, pw9, if_true, if_false, eq_self, nm_eq, reduceCtorEq, ↓reduceIte, Nat.reduceEqDiff, Nat.reduceLeDiff, Nat.reduceBEq, Nat.reduceAdd, Nat.reduceLT, Nat.reduceSub, Nat.reduceMul, Int.reduceEq, Int.reduceLT, Int.reduceLE, Int.reduceNeg, Int.reduceToNat, List.reduceReplicate, Int.ofNat_le, List.getElem?_drop]
    refine l01Zero_ok hxl.symm (by omega) ?_
    by_cases h0 : isZ x
    · simp only [pw0, pw1, pw2, pw3, pw4, pw5, pw6, pw7, pw8, pw9, if_true, if_false, eq_self, nm_eq, reduceCtorEq, ↓reduceIte, Nat.reduceEqDiff, Nat.reduceLeDiff, Nat.reduceBEq, Nat.reduceAdd, Nat.reduceLT, Nat.reduceSub, Nat.reduceMul, Int.reduceEq, Int.reduceLT, Int.reduceLE, Int.reduceNeg, Int.reduceToNat, List.reduceReplicate, Int.ofNat_le, List.getElem?_drop, h0, wrapS hlt (by omega : gens.length ≤ 4611686018427387904)]
      exact ⟨_, by omega, .here ⟨i + 1, by omega, rfl, vU, u, rfl, rfl, hU, hg.drop (isZ_at h0)⟩⟩
    · have hdx : dep x < x.length := not_isZ_dep h0
      have hdn : dep x < n := by omega
      have hxd := hx.at0 o (dep x)
      have hne := dep_ne hdx
      rw [at_eq hdx] at hxd hne
      simp only [pw0, pw1, pw2, pw3, pw4, pw5, pw6, pw7, pw8, pw9, if_true, if_false, eq_self, nm_eq, reduceCtorEq, ↓reduceIte, Nat.reduceEqDiff, Nat.reduceLeDiff, Nat.reduceBEq, Nat.reduceAdd, Nat.reduceLT, Nat.reduceSub, Nat.reduceMul, Int.reduceEq, Int.reduceLT, Int.reduceLE, Int.reduceNeg, Int.reduceToNat, List.reduceReplicate, Int.ofNat_le, List.getElem?_drop, h0, hb3, hb1]
      refine l32Depth_ok hxl.symm (by omega) ?_
      simp only [pw0, pw1, pw2, pw3, pw4, pw5, pw6, pw7, pw8, pw9, if_true, if_false, eq_self, nm_eq, reduceCtorEq, ↓reduceIte, Nat.reduceEqDiff, Nat.reduceLeDiff, Nat.reduceBEq, Nat.reduceAdd, Nat.reduceLT, Nat.reduceSub, Nat.reduceMul, Int.reduceEq, Int.reduceLT, Int.reduceLE, Int.reduceNeg, Int.reduceToNat, List.reduceReplicate, Int.ofNat_le, List.getElem?_drop, hdn, hdx, gi hdx, pis_get, hb3, hb1]
      refine l01Inv_ok hp (by omega) fun k hk1 hk2 hk3 => ?_
      simp only [pw0, pw1, pw2, pw3, pw4, pw5, pw6, pw7, pw8, pw9, if_true, if_false, eq_self, nm_eq, reduceCtorEq, ↓reduceIte, Nat.reduceEqDiff, Nat.reduceLeDiff, Nat.reduceBEq, Nat.reduceAdd, Nat.reduceLT, Nat.reduceSub, Nat.reduceMul, Int.reduceEq, Int.reduceLT, Int.reduceLE, Int.reduceNeg, Int.reduceToNat, List.reduceReplicate, Int.ofNat_le, List.getElem?_drop, hdn, hdx, gi hdx, pis_get, hb3, hb1]
      refine l31Mix_el hR o hx hx hxl.symm hxl.symm (by omega) (by decide) fun v1 => ?_
      have hT := hg.take o hdn (led_ne hz hdx) (k := k) (by rw [at_eq hdx]; exact hk3)
      obtain ⟨y1, y2, y3, y4⟩ := scale_led o hx hdn (k := k) (by rw [at_eq hdx]; exact hk3)
      generalize norm p W (lmix k x 0 x) = y at *
      simp only [pw0, pw1, pw2, pw3, pw4, pw5, pw6, pw7, pw8, pw9, if_true, if_false, eq_self, nm_eq, reduceCtorEq, ↓reduceIte, Nat.reduceEqDiff, Nat.reduceLeDiff, Nat.reduceBEq, Nat.reduceAdd, Nat.reduceLT, Nat.reduceSub, Nat.reduceMul, Int.reduceEq, Int.reduceLT, Int.reduceLE, Int.reduceNeg, Int.reduceToNat, List.reduceReplicate, Int.ofNat_le, List.getElem?_drop]
      refine l32Insert_ok hU (fun v hv => by rw [((elU hg).1 v hv).1.1]; omega) (by have := (elU hg).2; omega) (by rw [y1.1.1]; omega) y1.1.1.symm fun vU' hU' => ?_
      simp only [pw0, pw1, pw2, pw3, pw4, pw5, pw6, pw7, pw8, pw9, if_true, if_false, eq_self, nm_eq, reduceCtorEq, ↓reduceIte, Nat.reduceEqDiff, Nat.reduceLeDiff, Nat.reduceBEq, Nat.reduceAdd, Nat.reduceLT, Nat.reduceSub, Nat.reduceMul, Int.reduceEq, Int.reduceLT, Int.reduceLE, Int.reduceNeg, Int.reduceToNat, List.reduceReplicate, Int.ofNat_le, List.getElem?_drop, hb3, hb1]
      refine l31Mix_el hR o y1.1 y1.1 y1.1.1.symm y1.1.1.symm hpk (by decide) fun v2 => ?_
      obtain ⟨z1, z2⟩ := mul_eqv o y1.1 p
      generalize norm p W (lmix p y 0 y) = z at *
      simp only [pw0, pw1, pw2, pw3, pw4, pw5, pw6, pw7, pw8, pw9, if_true, if_false, eq_self, nm_eq, reduceCtorEq, ↓reduceIte, Nat.reduceEqDiff, Nat.reduceLeDiff, Nat.reduceBEq, Nat.reduceAdd, Nat.reduceLT, Nat.reduceSub, Nat.reduceMul, Int.reduceEq, Int.reduceLT, Int.reduceLE, Int.reduceNeg, Int.reduceToNat, List.reduceReplicate, Int.ofNat_le, List.getElem?_drop, hb3, hb1]
      refine l32Reduce_ok hR o hU' (elU hT).1 (by have := (elU hT).2; omega) z1 z1.1.symm fun v3 => ?_
      simp only [pw0, pw1, pw2, pw3, pw4, pw5, pw6, pw7, pw8, pw9, if_true, if_false, eq_self, nm_eq, reduceCtorEq, ↓reduceIte, Nat.reduceEqDiff, Nat.reduceLeDiff, Nat.reduceBEq, Nat.reduceAdd, Nat.reduceLT, Nat.reduceSub, Nat.reduceMul, Int.reduceEq, Int.reduceLT, Int.reduceLE, Int.reduceNeg, Int.reduceToNat, List.reduceReplicate, Int.ofNat_le, List.getElem?_drop]
      have hlen := (elU hT).2
      rw [insD_length] at hlen
      exact ⟨_, by rw [insD_length]; omega, vU', insD u y, v3, _, rfl, rfl, hU', hT.reduce o, (redL_at o hT.led hT.asc z1).1⟩
  · have hie : i = gens.length := by omega
    subst hie
    rw [List.drop_length] at hg
    have hbase := hg.base
    have hlu := (elU hg).2
    obtain ⟨hcan, _⟩ := finS_ok o hbase
    obtain ⟨wu, au, ru, rfl, hru⟩ := hU
    have hrul := hru.1
    refine vp_loop (fun m vs h' => ∃ k : Nat, k ≤ u.length ∧ m = u.length - k ∧ ∃ vO rows, vs = [.ptr σ.next 0, .fz wu au u.length ru, vO, .int .i64 k] ∧ Keep H h' ∧ PSl H.next 1 h' vO k rows ∧ All2 FI rows ((finS p W u).take k)) u.length ?_ ?_
    · exact ⟨0, by omega, by omega, _, [], rfl, keep_new H _, PSl.new _ 1 rfl (Nat.le_refl _), by simpa using All2.nil _⟩
    rintro m vs h' ⟨k, hk', rfl, vO, rows, rfl, hkp, ha, hrows⟩
    simp only [pw0, pw1, pw2, pw3, pw4, pw5, pw6, pw7, pw8, pw9, if_true, if_false, eq_self, nm_eq, reduceCtorEq, ↓reduceIte, Nat.reduceEqDiff, Nat.reduceLeDiff, Nat.reduceBEq, Nat.reduceAdd, Nat.reduceLT, Nat.reduceSub, Nat.reduceMul, Int.reduceEq, Int.reduceLT, Int.reduceLE, Int.reduceNeg, Int.reduceToNat, List.reduceReplicate, Int.ofNat_le, List.getElem?_drop]
    refine iteI (fun hlt => ?_) fun hge => ?_
    · obtain ⟨w5, a5, hrk⟩ := hru.rowI hlt
      have hle : k + 1 ≤ u.length := hlt
      have hdrop : (ru.drop (k + 1)).take (u.length - (k + 1)) = ru.drop (k + 1) := List.take_of_length_le (by rw [List.length_drop]; omega)
      have hb3' : h'.rd σ.next 0 3 = some [.int .i64 p, vP, vB] := by rw [hkp.rd (by omega)]; exact hb3
      simp only [pw0, pw1, pw2, pw3, pw4, pw5, pw6, pw7, pw8, pw9, if_true, if_false, eq_self, nm_eq, reduceCtorEq, ↓reduceIte, Nat.reduceEqDiff, Nat.reduceLeDiff, Nat.reduceBEq, Nat.reduceAdd, Nat.reduceLT, Nat.reduceSub, Nat.reduceMul, Int.reduceEq, Int.reduceLT, Int.reduceLE, Int.reduceNeg, Int.reduceToNat, List.reduceReplicate, Int.ofNat_le, List.getElem?_drop, hlt, hrk, hb3', hle, hdrop, wrapS hlt (by omega : u.length ≤ 4611686018427387904)]
      refine l32Reduce_ok hR o (u := u.drop (k + 1)) ⟨false, pslA 1 au (k + 1) u.length, _, by rw [List.length_drop], hru.drop _⟩ (fun v hv => (elU hg).1 v (List.mem_of_mem_drop hv)) (by rw [List.length_drop]; omega) (hbase.led _ (List.getElem_mem hlt)).1 rfl fun v1 => ?_
      simp only [pw0, pw1, pw2, pw3, pw4, pw5, pw6, pw7, pw8, pw9, if_true, if_false, eq_self, nm_eq, reduceCtorEq, ↓reduceIte, Nat.reduceEqDiff, Nat.reduceLeDiff, Nat.reduceBEq, Nat.reduceAdd, Nat.reduceLT, Nat.reduceSub, Nat.reduceMul, Int.reduceEq, Int.reduceLT, Int.reduceLE, Int.reduceNeg, Int.reduceToNat, List.reduceReplicate, Int.ofNat_le, List.getElem?_drop]
      refine PSl.push (bytes := 24) hkp ha (by omega) (by omega) fun vO' h2 k2 a2 => ?_
      simp only [pw0, pw1, pw2, pw3, pw4, pw5, pw6, pw7, pw8, pw9, if_true, if_false, eq_self, nm_eq, reduceCtorEq, ↓reduceIte, Nat.reduceEqDiff, Nat.reduceLeDiff, Nat.reduceBEq, Nat.reduceAdd, Nat.reduceLT, Nat.reduceSub, Nat.reduceMul, Int.reduceEq, Int.reduceLT, Int.reduceLE, Int.reduceNeg, Int.reduceToNat, List.reduceReplicate, Int.ofNat_le, List.getElem?_drop, wrapS hlt (by omega : u.length ≤ 4611686018427387904)]
      refine ⟨_, by omega, k + 1, by omega, rfl, vO', _, rfl, k2, a2, ?_⟩
      have hg2 := finS_get (p := p) (W := W) u k hlt
      have hl2 : k < (finS p W u).length := by rw [finS_length]; exact hlt
      rw [List.take_succ_eq_append_getElem hl2]
      rw [List.getElem?_eq_getElem hl2] at hg2
      rw [Option.some.inj hg2]
      have hrl2 := (redL_el o (u := u.drop (k + 1)) (fun v hv => ((elU hg).1 v (List.mem_of_mem_drop hv)).1) (hbase.led _ (List.getElem_mem hlt)).1).1
      exact hrows.snoc ⟨true, v1, by rw [hrl2]⟩
    · have hie : k = u.length := by omega
      subst hie
      rw [List.take_of_length_le (by rw [finS_length]; exact Nat.le_refl _)] at hrows
      obtain ⟨s, cap, rfl, hc, q2, q3, q4, q5⟩ := ha
      exact Gh.finF (hHk.trans hkp) q2 (by omega) (hrows.bI 0) hc.ok fun o1 => hk _ _ (hg.done hcan) ⟨true, .sl o1 0 u.length cap, rows, by rw [finS_length], hrows⟩
end Go.Proofs
