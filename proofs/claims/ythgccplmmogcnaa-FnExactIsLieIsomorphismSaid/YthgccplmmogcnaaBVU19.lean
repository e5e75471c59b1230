/- Spans of Lie rings, the program's side: the walk. -/
import Derived.Test.YthgccplmmogcnaaBVU18
set_option linter.unusedSimpArgs false
set_option linter.unusedVariables false
namespace Go.Proofs
open Go.Ab Go.Lie
variable {σ : PHeap} {K : PV → PHeap → Prop} {p p' : Int} {n : Nat} {W : List (List Int)} {B : List (List (List Int))} {vP vB vL vU : PV} {s : Nat}

theorem lieSpan_ok {gens : List (List Int)} (hs : PtrR σ s p vP vB) (hP : FII vP W) (o : OkW p n W) (hp : isP p) (hL : FII vL gens) (he : Els p n gens) (hgl : gens.length ≤ 1048576) (hk : ∀ v out, Canon p n W gens out → FII v out → K v σ) :
    PCalls Try.prog 64 [.ptr s 0, vL] σ K := by
  have hn6 := o.le
  have hpb := hp.bd
  have hpk : -1000000000 ≤ p ∧ p ≤ 1000000000 := by omega
  have hWn := o.len
  obtain ⟨wl, al, rl, rfl, hrl⟩ := hL
  have hP' := hP
  obtain ⟨wp, ap, rp, rfl, hrp⟩ := hP
  have hsl := hs.lt
  have hP1 : σ.rd1 s 1 = some (.fz wp ap W.length rp) := by rw [obj_rd1 hs.obj]; rfl
  refine PCalls.gh ?_
  refine pcalls_of_vp mix Try.func64 cf64 rfl ?_
  dsimp only [if64, qI, eI, nI, qD, eD]
  simp only [pw0, pw1, pw2, pw3, pw4, pw5, pw6, pw7, pw8, pw9, if_true, if_false, eq_self, nm_eq, reduceCtorEq, ↓reduceIte, Nat.reduceEqDiff, Nat.reduceLeDiff, Nat.reduceBEq, Nat.reduceAdd, Nat.reduceLT, Nat.reduceSub, Nat.reduceMul, Int.reduceEq, Int.reduceLT, Int.reduceLE, Int.reduceNeg, Int.reduceToNat, List.reduceReplicate, Int.ofNat_le, List.getElem?_drop, hP1, hWn, mk24 (n := n) (by omega), mkL (n := n) (by omega)]
  have elU : ∀ {u Q : List (List Int)}, Grow p n W gens u Q → (∀ v ∈ u, El p n v ∧ dep v < n) ∧ u.length ≤ n := fun g => ⟨fun v hv => ⟨(g.led v hv).1, (g.led v hv).2.1⟩, asc_length (fun v hv => (g.led v hv).2.1) g.asc⟩
  refine CloneL_q hrl.1 (hrl.bI 0) hgl fun vQ h1 k1 q1 => ?_
  simp only [pw0, pw1, pw2, pw3, pw4, pw5, pw6, pw7, pw8, pw9, if_true, if_false, eq_self, nm_eq, reduceCtorEq, ↓reduceIte, Nat.reduceEqDiff, Nat.reduceLeDiff, Nat.reduceBEq, Nat.reduceAdd, Nat.reduceLT, Nat.reduceSub, Nat.reduceMul, Int.reduceEq, Int.reduceLT, Int.reduceLE, Int.reduceNeg, Int.reduceToNat, List.reduceReplicate, Int.ofNat_le, List.getElem?_drop]
  refine vp_loop (fun m vs h' => ∃ u Q vQ rb rq, m = 2 * (n - u.length) + Q.length ∧ vs = [.ptr s 0, .sl σ.next 0 n (.known n), vQ] ∧ Keep (σ.new rb) h' ∧ PQ (σ.next + 1) h' vQ Q.length rq ∧ All2 FI rq Q ∧ Grow p n W gens u Q ∧ BRows n u rb ∧ Q.length ≤ gens.length) (2 * n + gens.length) ?_ ?_
  · refine ⟨[], gens, vQ, _, rl, rfl, rfl, k1, q1, hrl, Grow.start he, ⟨by simp, fun d hd => .inl ⟨by simp, fun y hy => by cases hy⟩⟩, Nat.le_refl _⟩
  rintro m vs h' ⟨u, Q, vQ, rb, rq, rfl, rfl, hkp, hq, hrq, hg, hb, hQl⟩
  have hk0 : Keep σ h' := hkp.of
  have hs' := hs.keep hk0
  have hp0 : h'.rd1 s 0 = some (.int .i64 p) := by rw [obj_rd1 hs'.obj]; rfl
  have hobj : h'.obj σ.next = some rb := by rw [hkp.obj _ (by simp [PHeap.new])]; simp [PHeap.new]
  cases Q with
  | nil =>
    have hlen : pLen vQ = some (.int .i64 0) := hq.pLen
    have hw : IntKind.i64.wrap ((n : Int) - 1) = (n : Int) - 1 := wrap64 (by omega) (by omega)
    have hbase := hg.base
    have hFn : Fp u n = [] := List.filter_eq_nil_iff.2 fun v hv => by have := ((elU hg).1 v hv).2; simp; omega
    simp only [pw0, pw1, pw2, pw3, pw4, pw5, pw6, pw7, pw8, pw9, if_true, if_false, eq_self, nm_eq, reduceCtorEq, ↓reduceIte, Nat.reduceEqDiff, Nat.reduceLeDiff, Nat.reduceBEq, Nat.reduceAdd, Nat.reduceLT, Nat.reduceSub, Nat.reduceMul, Int.reduceEq, Int.reduceLT, Int.reduceLE, Int.reduceNeg, Int.reduceToNat, List.reduceReplicate, Int.ofNat_le, List.getElem?_drop, hlen, hw]
    refine vp_loopG (fun m vs h2 => ∃ (k : Nat) (vO : PV), k ≤ n ∧ m = k ∧ vs = [.ptr s 0, .sl σ.next 0 n (.known n), vO, .int .i64 ((k : Int) - 1)] ∧ Keep (σ.new rb) h2 ∧ FII vO (finI p W (Fp u k))) n (.here ⟨n, _, Nat.le_refl _, rfl, rfl, hkp, by rw [hFn]; exact ⟨_, _, _, rfl, All2.nil _⟩⟩) ?_
    rintro m vs h2 ⟨k, vO, hkn, rfl, rfl, hk2, hO⟩
    have hk02 : Keep σ h2 := hk2.of
    have hs2 := hs.keep hk02
    have hobj2 : h2.obj σ.next = some rb := by rw [hk2.obj _ (by simp [PHeap.new])]; simp [PHeap.new]
    rcases Nat.eq_zero_or_pos m with rfl | hmp
    · simp only [pw0, pw1, pw2, pw3, pw4, pw5, pw6, pw7, pw8, pw9, if_true, if_false, eq_self, nm_eq, reduceCtorEq, ↓reduceIte, Nat.reduceEqDiff, Nat.reduceLeDiff, Nat.reduceBEq, Nat.reduceAdd, Nat.reduceLT, Nat.reduceSub, Nat.reduceMul, Int.reduceEq, Int.reduceLT, Int.reduceLE, Int.reduceNeg, Int.reduceToNat, List.reduceReplicate, Int.ofNat_le, List.getElem?_drop, show ¬ ((0 : Int) ≤ ((0 : Nat) : Int) - 1) by omega]
      have hF0 : Fp u 0 = u := Fp_all fun v hv => Nat.zero_le _
      rw [hF0] at hO
      exact Gh.fin0 hk02 (hO.bel _) (hk vO _ (hg.done (finI_ok o hbase).1) hO)
    · obtain ⟨k, rfl⟩ : ∃ k, m = k + 1 := ⟨m - 1, by omega⟩
      have e : ((k + 1 : Nat) : Int) - 1 = (k : Int) := by omega
      have hkn' : k < n := hkn
      have hkl : k < rb.length := by rw [hb.1]; exact hkn'
      have hrd := obj_rd1 hobj2 k
      rw [List.getElem?_eq_getElem hkl] at hrd
      have hbs := hbase.fp' (k := k + 1)
      rw [e]
      have hw2 : IntKind.i64.wrap ((k : Int) - 1) = (k : Int) - 1 := wrap64 (by omega) (by omega)
      rcases hb.2 k hkl with ⟨e1, e2⟩ | ⟨oo, cap, y, e1, e2, e3⟩
      · rw [e1] at hrd
        simp only [pw0, pw1, pw2, pw3, pw4, pw5, pw6, pw7, pw8, pw9, if_true, if_false, eq_self, nm_eq, reduceCtorEq, ↓reduceIte, Nat.reduceEqDiff, Nat.reduceLeDiff, Nat.reduceBEq, Nat.reduceAdd, Nat.reduceLT, Nat.reduceSub, Nat.reduceMul, Int.reduceEq, Int.reduceLT, Int.reduceLE, Int.reduceNeg, Int.reduceToNat, List.reduceReplicate, Int.ofNat_le, List.getElem?_drop, hkn', hrd, hw2]
        refine ⟨_, Nat.lt_succ_self k, .here ⟨k, vO, by omega, rfl, rfl, hk2, ?_⟩⟩
        rw [Fp_skip e2]
        exact hO
      · rw [e1] at hrd
        obtain ⟨y', y1, y2, y3⟩ := Fp_le hg.asc ⟨y, e2, e3⟩
        obtain rfl : y' = y := by
          rcases pairwise_two hg.asc y1 e2 with x | x | x
          · exact x
          · omega
          · omega
        simp only [pw0, pw1, pw2, pw3, pw4, pw5, pw6, pw7, pw8, pw9, if_true, if_false, eq_self, nm_eq, reduceCtorEq, ↓reduceIte, Nat.reduceEqDiff, Nat.reduceLeDiff, Nat.reduceBEq, Nat.reduceAdd, Nat.reduceLT, Nat.reduceSub, Nat.reduceMul, Int.reduceEq, Int.reduceLT, Int.reduceLE, Int.reduceNeg, Int.reduceToNat, List.reduceReplicate, Int.ofNat_le, List.getElem?_drop, hkn', hrd, hw2]
        have hF := (finI_ok o hbs).1
        have hLl : (finI p W (Fp u (k + 1))).length ≤ n := asc_length (fun v hv => (hF.base.led v hv).2.1) hF.base.asc
        have hy := ((elU hg).1 y' e2).1
        refine reduceLie_ok hs2 hP' o hO (fun v hv => ⟨(hF.base.led v hv).1, (hF.base.led v hv).2.1⟩) (by omega) hy hy.1.symm fun v1 => ?_
        have hrl := (redL_el o (u := finI p W (Fp u (k + 1))) (fun v hv => (hF.base.led v hv).1) hy).1
        have hFk : finI p W (Fp u k) = redL p W (finI p W (Fp u (k + 1))) y' :: finI p W (Fp u (k + 1)) := by rw [y3]; rfl
        generalize finI p W (Fp u (k + 1)) = L at *
        generalize redL p W L y' = z at *
        obtain ⟨wO, aO, rO, rfl, hrO⟩ := hO
        simp only [pw0, pw1, pw2, pw3, pw4, pw5, pw6, pw7, pw8, pw9, if_true, if_false, eq_self, nm_eq, reduceCtorEq, ↓reduceIte, Nat.reduceEqDiff, Nat.reduceLeDiff, Nat.reduceBEq, Nat.reduceAdd, Nat.reduceLT, Nat.reduceSub, Nat.reduceMul, Int.reduceEq, Int.reduceLT, Int.reduceLE, Int.reduceNeg, Int.reduceToNat, List.reduceReplicate, Int.ofNat_le, List.getElem?_drop]
        refine PSl.cat (bytes := 24) (σb := h2) (n := 1) (cs := [.fz true v1 n (pis z)]) (keep_new h2 _) (PSl.new _ 1 rfl (Nat.le_refl _)) hrO.1 (by omega) (by omega) fun v3 h3 k3 a3 => ?_
        obtain ⟨s3, cap3, rfl, hc3, ho3, hl3, hge3, hlt3⟩ := a3
        have hall : All2 FI ([.fz true v1 n (pis z)] ++ rO) (z :: L) := (All2.nil FI |>.snoc (⟨true, v1, by rw [hrl]⟩ : FI (.fz true v1 n (pis z)) z)).append hrO
        have hne : σ.next ≠ s3 := by
          have := hk2.next
          simp only [PHeap.new] at this
          omega
        simp only [pw0, pw1, pw2, pw3, pw4, pw5, pw6, pw7, pw8, pw9, if_true, if_false, eq_self, nm_eq, reduceCtorEq, ↓reduceIte, Nat.reduceEqDiff, Nat.reduceLeDiff, Nat.reduceBEq, Nat.reduceAdd, Nat.reduceLT, Nat.reduceSub, Nat.reduceMul, Int.reduceEq, Int.reduceLT, Int.reduceLE, Int.reduceNeg, Int.reduceToNat, List.reduceReplicate, Int.ofNat_le, List.getElem?_drop, hw2]
        refine ⟨k, Nat.lt_succ_self k, .fz s3 _ ho3 (hall.bI 0) fun o1 => .here ⟨k, .fz true (.sl o1 0 (1 + L.length) cap3) (1 + L.length) ([.fz true v1 n (pis z)] ++ rO), by omega, rfl, ?_, (hk2.trans k3).kill (by have := hk2.next; simp only [PHeap.new] at this ⊢; omega), by rw [hFk]; exact ⟨true, _, _, by rw [List.length_cons, Nat.add_comm], hall⟩⟩⟩
        simp only [pw0, pw1, pw2, pw3, pw4, pw5, pw6, pw7, pw8, pw9, if_true, if_false, eq_self, nm_eq, reduceCtorEq, ↓reduceIte, Nat.reduceEqDiff, Nat.reduceLeDiff, Nat.reduceBEq, Nat.reduceAdd, Nat.reduceLT, Nat.reduceSub, Nat.reduceMul, Int.reduceEq, Int.reduceLT, Int.reduceLE, Int.reduceNeg, Int.reduceToNat, List.reduceReplicate, Int.ofNat_le, List.getElem?_drop]
        simp only [sbs, sb, hne, hc3.ok, false_and, and_self, if_true, if_false]
  | cons x Q =>
    have hlen := hq.pLen
    obtain ⟨c, rq', rfl, hc, hrq'⟩ : ∃ c rq', rq = c :: rq' ∧ FI c x ∧ All2 FI rq' Q := by
      cases rq with
      | nil => exact absurd hrq.1 (by simp)
      | cons c rq' => exact ⟨c, rq', rfl, hrq.2 0 c x rfl rfl, ⟨by simpa using hrq.1, fun k a b ha hb => hrq.2 (k + 1) a b (by simpa using ha) (by simpa using hb)⟩⟩
    obtain ⟨sq, off, cap, vQ', rfl, hrd, hpos, hsl', hq'⟩ := hq.uncons
    obtain ⟨w4, a4, rfl⟩ := hc
    generalize hkl : (x :: Q).length = k at *
    have hQk : Q.length = k - 1 := by rw [← hkl]; simp
    have hposI : (0 : Int) < (k : Int) := by omega
    have hx := hg.els x (by simp)
    simp only [pw0, pw1, pw2, pw3, pw4, pw5, pw6, pw7, pw8, pw9, if_true, if_false, eq_self, nm_eq, reduceCtorEq, ↓reduceIte, Nat.reduceEqDiff, Nat.reduceLeDiff, Nat.reduceBEq, Nat.reduceAdd, Nat.reduceLT, Nat.reduceSub, Nat.reduceMul, Int.reduceEq, Int.reduceLT, Int.reduceLE, Int.reduceNeg, Int.reduceToNat, List.reduceReplicate, Int.ofNat_le, List.getElem?_drop, hlen, hposI, hpos, hrd, hsl']
    refine depthOf_ok rfl (by rw [hx.1]; omega) ?_
    simp only [pw0, pw1, pw2, pw3, pw4, pw5, pw6, pw7, pw8, pw9, if_true, if_false, eq_self, nm_eq, reduceCtorEq, ↓reduceIte, Nat.reduceEqDiff, Nat.reduceLeDiff, Nat.reduceBEq, Nat.reduceAdd, Nat.reduceLT, Nat.reduceSub, Nat.reduceMul, Int.reduceEq, Int.reduceLT, Int.reduceLE, Int.reduceNeg, Int.reduceToNat, List.reduceReplicate, Int.ofNat_le, List.getElem?_drop]
    refine vp_loop (fun m vs h2 => ∃ x wX vX, m = n - dep x ∧ vs = [.ptr s 0, .sl σ.next 0 n (.known n), vQ', .fz wX vX n (pis x), .int .i64 (dep x)] ∧ h' = h2 ∧ Grow p n W gens u (x :: Q)) (n - dep x) ?_ ?_
    · exact ⟨x, _, _, rfl, by rw [hx.1]; rfl, rfl, hg⟩
    clear hg hx hlen hkl
    rintro m vs h2 ⟨x, wX, vX, rfl, rfl, rfl, hg⟩
    have hx := hg.els x (by simp)
    have hxl := hx.1
    have hdle := dep_le x
    by_cases hd : dep x < n
    · have hdx : dep x < x.length := by omega
      have hxd := hx.at0 o (dep x)
      have hne := dep_ne hdx
      rw [at_eq hdx] at hxd hne
      have hdb : dep x < rb.length := by rw [hb.1]; exact hd
      have hrd2 := obj_rd1 hobj (dep x)
      rw [List.getElem?_eq_getElem hdb] at hrd2
      rcases hb.2 _ hdb with ⟨e1, e2⟩ | ⟨oo, cap2, y, e1, e2, e3⟩
      · rw [e1] at hrd2
        have hdn : ((dep x : Int) = (n : Int)) = False := by simp; omega
        simp only [pw0, pw1, pw2, pw3, pw4, pw5, pw6, pw7, pw8, pw9, if_true, if_false, eq_self, nm_eq, reduceCtorEq, ↓reduceIte, Nat.reduceEqDiff, Nat.reduceLeDiff, Nat.reduceBEq, Nat.reduceAdd, Nat.reduceLT, Nat.reduceSub, Nat.reduceMul, Int.reduceEq, Int.reduceLT, Int.reduceLE, Int.reduceNeg, Int.reduceToNat, List.reduceReplicate, Int.ofNat_le, List.getElem?_drop, hd, hrd2, hdn, hp0, pis_get, gi hdx]
        refine inverseMod_ok hp (by omega) fun q qb hq1 hq2 hq3 => ?_
        simp only [pw0, pw1, pw2, pw3, pw4, pw5, pw6, pw7, pw8, pw9, if_true, if_false, eq_self, nm_eq, reduceCtorEq, ↓reduceIte, Nat.reduceEqDiff, Nat.reduceLeDiff, Nat.reduceBEq, Nat.reduceAdd, Nat.reduceLT, Nat.reduceSub, Nat.reduceMul, Int.reduceEq, Int.reduceLT, Int.reduceLE, Int.reduceNeg, Int.reduceToNat, List.reduceReplicate, Int.ofNat_le, List.getElem?_drop, hd, hrd2, hp0, pis_get, gi hdx]
        refine timesLie_sl hs' hP' o hx hxl.symm (by omega) (by omega) fun oz capz => ?_
        have hT : Grow p n W gens (insD u (lmul p W q x)) (lmul p W p (lmul p W q x) :: Q) := hg.take o hd e2 (k := q) (by rw [at_eq hdx]; exact hq3)
        obtain ⟨y1, y2⟩ : Led p n (lmul p W q x) ∧ dep (lmul p W q x) = dep x := ⟨(scale_led o hx hd (k := q) (by rw [at_eq hdx]; exact hq3)).1, (scale_led o hx hd (k := q) (by rw [at_eq hdx]; exact hq3)).2.1⟩
        have hb2 := hb.take (o := oz) (cap := capz) hd y2
        generalize lmul p W q x = y at *
        have hy := y1.1
        have hwr : h'.wr σ.next (dep x) [.fz true (.sl oz 0 n capz) n (pis y)] = some (h'.set σ.next (rb.set (dep x) (.fz true (.sl oz 0 n capz) n (pis y)))) := by
          rw [obj_wr hobj, if_pos ⟨by rw [List.length_singleton]; omega, rfl⟩]
          rw [List.append_assoc, List.singleton_append, List.length_singleton, take_set _ hdb]
        have hk3 : Keep (σ.new (rb.set (dep x) (.fz true (.sl oz 0 n capz) n (pis y)))) (h'.set σ.next (rb.set (dep x) (.fz true (.sl oz 0 n capz) n (pis y)))) := hkp.setN _
        have hq3' := hq'.set (Nat.lt_succ_self _) (rb.set (dep x) (.fz true (.sl oz 0 n capz) n (pis y)))
        have hrd3 : (h'.set σ.next (rb.set (dep x) (.fz true (.sl oz 0 n capz) n (pis y)))).rd1 σ.next (dep x) = some (.fz true (.sl oz 0 n capz) n (pis y)) := by
          rw [obj_rd1 (by rw [pobj_set, if_pos rfl]), List.getElem?_set_self hdb]
        have hs3 := hs'.set (by omega) (rb.set (dep x) (.fz true (.sl oz 0 n capz) n (pis y))) (t := σ.next)
        have hp3 : (h'.set σ.next (rb.set (dep x) (.fz true (.sl oz 0 n capz) n (pis y)))).rd1 s 0 = some (.int .i64 p) := by rw [obj_rd1 hs3.obj]; rfl
        have hset : (rb.set (dep x) (.fz true (.sl oz 0 n capz) n (pis y)))[dep x]? = some (.fz true (.sl oz 0 n capz) n (pis y)) := List.getElem?_set_self hdb
        simp only [pw0, pw1, pw2, pw3, pw4, pw5, pw6, pw7, pw8, pw9, if_true, if_false, eq_self, nm_eq, reduceCtorEq, ↓reduceIte, Nat.reduceEqDiff, Nat.reduceLeDiff, Nat.reduceBEq, Nat.reduceAdd, Nat.reduceLT, Nat.reduceSub, Nat.reduceMul, Int.reduceEq, Int.reduceLT, Int.reduceLE, Int.reduceNeg, Int.reduceToNat, List.reduceReplicate, Int.ofNat_le, List.getElem?_drop, hd, hwr, Nat.ne_of_lt hsl, hp0, hset]
        generalize h'.set σ.next (rb.set (dep x) (.fz true (.sl oz 0 n capz) n (pis y))) = h3 at *
        generalize rb.set (dep x) (.fz true (.sl oz 0 n capz) n (pis y)) = rb' at *
        refine timesLie_fz hs3 hP' o hy hy.1.symm (by omega) fun v2 => ?_
        have hz : El p n (lmul p W p y) := (mul_eqv o hy p).1
        generalize lmul p W p y = z at *
        simp only [pw0, pw1, pw2, pw3, pw4, pw5, pw6, pw7, pw8, pw9, if_true, if_false, eq_self, nm_eq, reduceCtorEq, ↓reduceIte, Nat.reduceEqDiff, Nat.reduceLeDiff, Nat.reduceBEq, Nat.reduceAdd, Nat.reduceLT, Nat.reduceSub, Nat.reduceMul, Int.reduceEq, Int.reduceLT, Int.reduceLE, Int.reduceNeg, Int.reduceToNat, List.reduceReplicate, Int.ofNat_le, List.getElem?_drop]
        refine PQ.push (bytes := 24) (σb := σ.new rb') hk3 hq3' (by omega) (by omega) fun v4 h4 k4 q4 => ?_
        simp only [pw0, pw1, pw2, pw3, pw4, pw5, pw6, pw7, pw8, pw9, if_true, if_false, eq_self, nm_eq, reduceCtorEq, ↓reduceIte, Nat.reduceEqDiff, Nat.reduceLeDiff, Nat.reduceBEq, Nat.reduceAdd, Nat.reduceLT, Nat.reduceSub, Nat.reduceMul, Int.reduceEq, Int.reduceLT, Int.reduceLE, Int.reduceNeg, Int.reduceToNat, List.reduceReplicate, Int.ofNat_le, List.getElem?_drop]
        have hul := (elU hT).2
        rw [insD_length] at hul
        refine ⟨_, ?_, insD u y, Q ++ [z], v4, rb', rq' ++ [.fz true v2 n (pis z)], rfl, rfl, k4, ?_, hrq'.append (All2.nil FI |>.snoc ⟨true, v2, by rw [hz.1]⟩), hT.perm fun v => by simp [or_comm], hb2, by rw [List.length_append, List.length_singleton]; omega⟩
        · rw [insD_length, List.length_append, List.length_singleton]; omega
        · rw [List.length_append, List.length_singleton, hQk]
          exact q4
      · rw [e1] at hrd2
        have hy := ((elU hg).1 y e2).1
        have hneg : IntKind.i64.wrap (0 - x[dep x]) = -x[dep x] := by rw [wrap64 (by omega) (by omega)]; omega
        simp only [pw0, pw1, pw2, pw3, pw4, pw5, pw6, pw7, pw8, pw9, if_true, if_false, eq_self, nm_eq, reduceCtorEq, ↓reduceIte, Nat.reduceEqDiff, Nat.reduceLeDiff, Nat.reduceBEq, Nat.reduceAdd, Nat.reduceLT, Nat.reduceSub, Nat.reduceMul, Int.reduceEq, Int.reduceLT, Int.reduceLE, Int.reduceNeg, Int.reduceToNat, List.reduceReplicate, Int.ofNat_le, List.getElem?_drop, hd, hrd2, pis_get, gi hdx, hneg]
        refine timesLie_fz hs' hP' o hy hy.1.symm (by omega) fun v1 => ?_
        simp only [pw0, pw1, pw2, pw3, pw4, pw5, pw6, pw7, pw8, pw9, if_true, if_false, eq_self, nm_eq, reduceCtorEq, ↓reduceIte, Nat.reduceEqDiff, Nat.reduceLeDiff, Nat.reduceBEq, Nat.reduceAdd, Nat.reduceLT, Nat.reduceSub, Nat.reduceMul, Int.reduceEq, Int.reduceLT, Int.reduceLE, Int.reduceNeg, Int.reduceToNat, List.reduceReplicate, Int.ofNat_le, List.getElem?_drop]
        refine addLie_fz hs' hP' o hx (lmix_el o hy hy) hxl.symm (lmix_el o hy hy).1.symm fun v2 => ?_
        obtain ⟨g2, g3⟩ := hg.reduce1 o e2 e3
        have hr1 : ladd p W x (lmul p W (-x[dep x]) y) = red1 p W x y := by rw [add_red o hx hy, red1, e3, at_eq hdx]
        have hz := g2.els _ (List.mem_cons_self ..)
        rw [hr1]
        simp only [pw0, pw1, pw2, pw3, pw4, pw5, pw6, pw7, pw8, pw9, if_true, if_false, eq_self, nm_eq, reduceCtorEq, ↓reduceIte, Nat.reduceEqDiff, Nat.reduceLeDiff, Nat.reduceBEq, Nat.reduceAdd, Nat.reduceLT, Nat.reduceSub, Nat.reduceMul, Int.reduceEq, Int.reduceLT, Int.reduceLE, Int.reduceNeg, Int.reduceToNat, List.reduceReplicate, Int.ofNat_le, List.getElem?_drop]
        refine depthOf_ok hz.1.symm (by rw [hz.1]; omega) ?_
        simp only [pw0, pw1, pw2, pw3, pw4, pw5, pw6, pw7, pw8, pw9, if_true, if_false, eq_self, nm_eq, reduceCtorEq, ↓reduceIte, Nat.reduceEqDiff, Nat.reduceLeDiff, Nat.reduceBEq, Nat.reduceAdd, Nat.reduceLT, Nat.reduceSub, Nat.reduceMul, Int.reduceEq, Int.reduceLT, Int.reduceLE, Int.reduceNeg, Int.reduceToNat, List.reduceReplicate, Int.ofNat_le, List.getElem?_drop]
        exact ⟨_, by omega, _, _, _, rfl, rfl, g2⟩
    · have hdn : dep x = n := by omega
      simp only [pw0, pw1, pw2, pw3, pw4, pw5, pw6, pw7, pw8, pw9, if_true, if_false, eq_self, nm_eq, reduceCtorEq, ↓reduceIte, Nat.reduceEqDiff, Nat.reduceLeDiff, Nat.reduceBEq, Nat.reduceAdd, Nat.reduceLT, Nat.reduceSub, Nat.reduceMul, Int.reduceEq, Int.reduceLT, Int.reduceLE, Int.reduceNeg, Int.reduceToNat, List.reduceReplicate, Int.ofNat_le, List.getElem?_drop, hdn, Nat.lt_irrefl]
      refine ⟨_, ?_, u, Q, vQ', rb, rq', rfl, rfl, hkp, by rw [hQk]; exact hq', hrq', hg.drop fun j => ?_, hb, by omega⟩
      · omega
      · rcases Nat.lt_or_ge j n with h | h
        · exact dep_zero (by omega)
        · exact hx.beyond h
end Go.Proofs
