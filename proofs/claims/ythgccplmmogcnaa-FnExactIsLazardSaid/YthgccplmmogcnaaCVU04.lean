/- Lie rings: brackets of both sides. -/
import Derived.Test.YthgccplmmogcnaaCVU03
set_option linter.unusedSimpArgs false
set_option linter.unusedVariables false
namespace Go.Proofs
open Go.Ab Go.Lie
variable {σ : PHeap} {K : PV → PHeap → Prop} {p : Int} {n : Nat} {W : List (List Int)} {B : List (List (List Int))} {vP vB : PV} {s : Nat}

theorem mul36 {x y : Int} (hx : 0 ≤ x ∧ x ≤ 6) (hy : 0 ≤ y ∧ y ≤ 6) : 0 ≤ x * y ∧ x * y ≤ 36 := by
  obtain rfl | rfl | rfl | rfl | rfl | rfl | rfl : x = 0 ∨ x = 1 ∨ x = 2 ∨ x = 3 ∨ x = 4 ∨ x = 5 ∨ x = 6 := by omega
  all_goals omega
/-- What a bracket's coefficient needs. -/
theorem coef_facts {a b : List Int} (hp : okp p) (ha : El p n a) (hb : El p n b) {i j : Nat} (hi : i < n) (hj : j < n) (h1 : i < a.length) (h2 : j < a.length) (h3 : i < b.length) (h4 : j < b.length) :
    sm (a[j] * b[i]) ∧ sm (a[i] * b[j]) ∧ sm (a[j] * b[i] - a[i] * b[j]) ∧ sm (a[i] * b[j] - a[j] * b[i]) ∧ a[j] * b[i] - a[i] * b[j] = -(coef a b i j) ∧ a[i] * b[j] - a[j] * b[i] = coef a b i j := by
  have b1 := mul36 (ha.at hp j) (hb.at hp i)
  have b2 := mul36 (ha.at hp i) (hb.at hp j)
  unfold coef
  rw [at_eq h2, at_eq h3] at b1
  rw [at_eq h1, at_eq h4] at b2
  rw [at_eq h1, at_eq h4, at_eq h2, at_eq h3]
  unfold sm
  omega

theorem bracket_ok {l l' : Nat} {w w' : Bool} {av bv : AV} {a b : List Int} (hs : PtrR σ s p vP vB) (hR : IsR vP vB W B) (o : OkW p n W) (q : OkB p n B) (ha : El p n a) (hb : El p n b) (hl : l = a.length) (hl' : l' = b.length)
    (hk : ResI σ K (norm p W (bsum B a b n))) : PCalls Try.prog 78 [.ptr s 0, .fz w av l (pis a), .fz w' bv l' (pis b)] σ K := by
  subst hl
  subst hl'
  have hn6 := o.le
  have hal := ha.1
  have hbl := hb.1
  have hWl := o.len
  have hBl := q.len
  have hPP := hR.P
  obtain ⟨⟨w1, a1, rP, rfl, hP⟩, ⟨w3, a3, rB, rfl, hB⟩⟩ := hR
  refine PCalls.gh ?_
  have hne : ¬ s = σ.next := Nat.ne_of_lt hs.lt
  refine pcalls_of_vp mix Try.func78 cf78 rfl ?_
  dsimp only [if78, qI, eI, nI, qD, eD]
  simp only [pw0, pw1, pw2, pw3, pw4, pw5, pw6, pw7, pw8, pw9, if_true, if_false, eq_self, nm_eq, reduceCtorEq, ↓reduceIte, Nat.reduceEqDiff, Nat.reduceLeDiff, Nat.reduceBEq, Nat.reduceAdd, Nat.reduceLT, Nat.reduceSub, Nat.reduceMul, Int.reduceEq, Int.reduceLT, Int.reduceLE, Int.reduceNeg, Int.reduceToNat, obj_rd1 hs.obj, hne, List.length_replicate, pis_rep, mk8 (n := W.length) (by omega), mkL (n := W.length) (by omega)]
  refine vp_loop (fun m vs h' => ∃ i : Nat, i ≤ n ∧ m = n - i ∧ vs = [.ptr s 0, .fz w av a.length (pis a), .fz w' bv b.length (pis b), .sl σ.next 0 W.length (.known W.length), .fz w3 a3 B.length rB, .int .i64 B.length, .int .i64 i] ∧ h' = σ.new (pis (bi B a b n i))) n ?_ ?_
  · exact ⟨0, by omega, by omega, rfl, by rw [bi, hWl]⟩
  · rintro m vs h' ⟨i, hi, rfl, rfl, rfl⟩
    simp only [pw0, pw1, pw2, pw3, pw4, pw5, pw6, pw7, pw8, pw9, if_true, if_false, eq_self, nm_eq, reduceCtorEq, ↓reduceIte, Nat.reduceEqDiff, Nat.reduceLeDiff, Nat.reduceBEq, Nat.reduceAdd, Nat.reduceLT, Nat.reduceSub, Nat.reduceMul, Int.reduceEq, Int.reduceLT, Int.reduceLE, Int.reduceNeg, Int.reduceToNat]
    refine iteI (fun hlt => ?_) fun hge => ?_
    · obtain ⟨w4, a4, rs, hr, hrs⟩ := hB.rowL hlt
      have hrow := q.row i hlt
      simp only [pw0, pw1, pw2, pw3, pw4, pw5, pw6, pw7, pw8, pw9, if_true, if_false, eq_self, nm_eq, reduceCtorEq, ↓reduceIte, Nat.reduceEqDiff, Nat.reduceLeDiff, Nat.reduceBEq, Nat.reduceAdd, Nat.reduceLT, Nat.reduceSub, Nat.reduceMul, Int.reduceEq, Int.reduceLT, Int.reduceLE, Int.reduceNeg, Int.reduceToNat, hlt, hr, List.getElem?_drop]
      have hbil := bi_length q (a := a) (b := b) hi
      have hbib := bi_bd q o.pr hn6 ha hb hi
      have hgd := getD_row' hlt
      refine vp_loop (fun m vs h' => ∃ k : Nat, k ≤ n - 1 - i ∧ m = n - 1 - i - k ∧ vs = [.ptr s 0, .fz w av a.length (pis a), .fz w' bv b.length (pis b), .sl σ.next 0 W.length (.known W.length), .int .i64 i, .fz w3 a3 B.length rB, .int .i64 B.length, .int .i64 i,
        .fz w4 a4 B[i].length rs, .int .i64 B[i].length, .int .i64 k] ∧ h' = σ.new (pis (bk (B.getD i []) a b i k (bi B a b n i)))) (n - 1 - i) ?_ ?_
      · exact ⟨0, by omega, by omega, rfl, rfl⟩
      · rintro m vs h' ⟨k, hk', rfl, rfl, rfl⟩
        simp only [pw0, pw1, pw2, pw3, pw4, pw5, pw6, pw7, pw8, pw9, if_true, if_false, eq_self, nm_eq, reduceCtorEq, ↓reduceIte, Nat.reduceEqDiff, Nat.reduceLeDiff, Nat.reduceBEq, Nat.reduceAdd, Nat.reduceLT, Nat.reduceSub, Nat.reduceMul, Int.reduceEq, Int.reduceLT, Int.reduceLE, Int.reduceNeg, Int.reduceToNat]
        refine iteI (fun hlt2 => ?_) fun hge => ?_
        · obtain ⟨w5, a5, hrk⟩ := hrs.rowI hlt2
          have hj : i + (1 + k) < a.length := by omega
          have hj' : i + (1 + k) < b.length := by omega
          have hia : i < a.length := by omega
          have hib : i < b.length := by omega
          obtain ⟨f1, f2, f3, _, f4, _⟩ := coef_facts o.pr ha hb (i := i) (j := i + (1 + k)) (by omega) (by omega) hia hj hib hj'
          have hent := (q.ent i hlt k hlt2).1
          have hacc := bk_length q (a := a) (b := b) (by omega : i < n) hbil (k := k) (by omega)
          have haccb := bk_bd q o.pr ha hb (by omega : i < n) hbil hbib (k := k) (by omega)
          simp only [pw0, pw1, pw2, pw3, pw4, pw5, pw6, pw7, pw8, pw9, if_true, if_false, eq_self, nm_eq, reduceCtorEq, ↓reduceIte, Nat.reduceEqDiff, Nat.reduceLeDiff, Nat.reduceBEq, Nat.reduceAdd, Nat.reduceLT, Nat.reduceSub, Nat.reduceMul, Int.reduceEq, Int.reduceLT, Int.reduceLE, Int.reduceNeg, Int.reduceToNat, hlt2, hrk, hj, hj', hia, hib, gi hj, gi hj', gi hia, gi hib, pis_get, List.getElem?_drop, wrapS (n := n) (i := i) (by omega) (by omega), wrapA (a := i + 1) (b := k) (by omega), f1.w, f2.w, f3.w]
          refine subtractMultiple_ok' (xs := bk (B.getD i []) a b i k (bi B a b n i)) (by omega) rfl (by simp only [pw0, pw1, pw2, pw3, pw4, pw5, pw6, pw7, pw8, pw9, if_true, if_false, eq_self, nm_eq, reduceCtorEq, ↓reduceIte, Nat.reduceEqDiff, Nat.reduceLeDiff, Nat.reduceBEq, Nat.reduceAdd, Nat.reduceLT, Nat.reduceSub, Nat.reduceMul, Int.reduceEq, Int.reduceLT, Int.reduceLE, Int.reduceNeg, Int.reduceToNat]) (by rw [hent.1]; omega) (by omega) (fun t h1 h2 => ?_) ?_
          · have c1 := coef_mul o.pr ha hb hent i (i + (1 + k)) t
            have c2 := haccb t
            rw [at_eq h2] at c1
            rw [at_eq h1] at c2
            rw [f4, Int.neg_mul]
            unfold sm
            omega
          · simp only [pw0, pw1, pw2, pw3, pw4, pw5, pw6, pw7, pw8, pw9, if_true, if_false, eq_self, nm_eq, reduceCtorEq, ↓reduceIte, Nat.reduceEqDiff, Nat.reduceLeDiff, Nat.reduceBEq, Nat.reduceAdd, Nat.reduceLT, Nat.reduceSub, Nat.reduceMul, Int.reduceEq, Int.reduceLT, Int.reduceLE, Int.reduceNeg, Int.reduceToNat, wrapS hlt2 (by omega : B[i].length ≤ 4611686018427387904)]
            refine ⟨_, by omega, k + 1, by omega, rfl, rfl, ?_⟩
            rw [f4, subm_neg, bk, getD_row' (B := B) hlt, getD_row' (B := B[i]) hlt2, Nat.add_assoc]
        · have hkn : k = n - 1 - i := by omega
          subst hkn
          simp only [pw0, pw1, pw2, pw3, pw4, pw5, pw6, pw7, pw8, pw9, if_true, if_false, eq_self, nm_eq, reduceCtorEq, ↓reduceIte, Nat.reduceEqDiff, Nat.reduceLeDiff, Nat.reduceBEq, Nat.reduceAdd, Nat.reduceLT, Nat.reduceSub, Nat.reduceMul, Int.reduceEq, Int.reduceLT, Int.reduceLE, Int.reduceNeg, Int.reduceToNat, wrapS hlt (by omega : B.length ≤ 4611686018427387904)]
          exact ⟨_, by omega, i + 1, by omega, rfl, rfl, rfl⟩
    · have hie : i = n := by omega
      subst hie
      exact (normal_fin hs hPP o (bsum_length q) (bsum_bd q o.pr hn6 ha hb) (by rw [bsum_length q]; exact hWl) (by simp [capOK]) hk).mono fun v σ' hg => by simp only [pw0, pw1, pw2, pw3, pw4, pw5, pw6, pw7, pw8, pw9, if_true, if_false, eq_self, nm_eq, reduceCtorEq, ↓reduceIte, Nat.reduceEqDiff, Nat.reduceLeDiff, Nat.reduceBEq, Nat.reduceAdd, Nat.reduceLT, Nat.reduceSub, Nat.reduceMul, Int.reduceEq, Int.reduceLT, Int.reduceLE, Int.reduceNeg, Int.reduceToNat]; exact hg

theorem rep_el (hp : okp p) : El p n (List.replicate n 0) := ⟨by simp, fun x hx => by rw [List.eq_of_mem_replicate hx]; have := hp.1; omega⟩

theorem l31Bracket_ok {l l' : Nat} {w w' : Bool} {av bv : AV} {a b : List Int} (hR : IsR vP vB W B) (o : OkW p n W) (q : OkB p n B) (ha : El p n a) (hb : El p n b) (hl : l = a.length) (hl' : l' = b.length)
    (hk : ∀ v, K (.fz true v n (pis (norm p W (bsum B a b n)))) σ) : PCalls Try.prog 76 [.agg [.int .i64 p, vP, vB], .fz w av l (pis a), .fz w' bv l' (pis b)] σ K := by
  subst hl
  subst hl'
  have hn6 := o.le
  have hal := ha.1
  have hbl := hb.1
  have hWl := o.len
  have hBl := q.len
  have hR0 := hR
  obtain ⟨⟨w1, a1, rP, rfl, hP⟩, ⟨w3, a3, rB, rfl, hB⟩⟩ := hR
  refine PCalls.gh ?_
  refine pcalls_of_vp mix Try.func76 cf76 rfl ?_
  dsimp only [if76, qI, eI, nI, qD, eD]
  simp only [pw0, pw1, pw2, pw3, pw4, pw5, pw6, pw7, pw8, pw9, if_true, if_false, eq_self, nm_eq, reduceCtorEq, ↓reduceIte, Nat.reduceEqDiff, Nat.reduceLeDiff, Nat.reduceBEq, Nat.reduceAdd, Nat.reduceLT, Nat.reduceSub, Nat.reduceMul, Int.reduceEq, Int.reduceLT, Int.reduceLE, Int.reduceNeg, Int.reduceToNat]
  refine l31Zero_ok hR0 hWl (by omega) fun v0 => ?_
  simp only [pw0, pw1, pw2, pw3, pw4, pw5, pw6, pw7, pw8, pw9, if_true, if_false, eq_self, nm_eq, reduceCtorEq, ↓reduceIte, Nat.reduceEqDiff, Nat.reduceLeDiff, Nat.reduceBEq, Nat.reduceAdd, Nat.reduceLT, Nat.reduceSub, Nat.reduceMul, Int.reduceEq, Int.reduceLT, Int.reduceLE, Int.reduceNeg, Int.reduceToNat]
  refine vp_loop (fun m vs h' => ∃ i : Nat, i ≤ n ∧ m = n - i ∧ ∃ v out, vs = [.fz w av a.length (pis a), .fz w' bv b.length (pis b), .ptr σ.next 0, .fz true v n (pis out), .int .i64 i] ∧ h' = σ.new [.int .i64 p, .fz w1 a1 W.length rP, .fz w3 a3 B.length rB] ∧
    El p n out ∧ Eqv p n W (at_ out) (at_ (bi B a b n i))) n ?_ ?_
  · exact ⟨0, by omega, by omega, v0, _, rfl, rfl, rep_el o.pr, Eqv.refl _⟩
  · rintro m vs h' ⟨i, hi, rfl, v, out, rfl, rfl, hout, heqv⟩
    simp only [pw0, pw1, pw2, pw3, pw4, pw5, pw6, pw7, pw8, pw9, if_true, if_false, eq_self, nm_eq, reduceCtorEq, ↓reduceIte, Nat.reduceEqDiff, Nat.reduceLeDiff, Nat.reduceBEq, Nat.reduceAdd, Nat.reduceLT, Nat.reduceSub, Nat.reduceMul, Int.reduceEq, Int.reduceLT, Int.reduceLE, Int.reduceNeg, Int.reduceToNat]
    refine iteI (fun hlt => ?_) fun hge => ?_
    · have hiB : i < B.length := by omega
      obtain ⟨w4, a4, rs, hr, hrs⟩ := hB.rowL hiB
      have hrow := q.row i hiB
      have hbil := bi_length q (a := a) (b := b) hi
      simp only [pw0, pw1, pw2, pw3, pw4, pw5, pw6, pw7, pw8, pw9, if_true, if_false, eq_self, nm_eq, reduceCtorEq, ↓reduceIte, Nat.reduceEqDiff, Nat.reduceLeDiff, Nat.reduceBEq, Nat.reduceAdd, Nat.reduceLT, Nat.reduceSub, Nat.reduceMul, Int.reduceEq, Int.reduceLT, Int.reduceLE, Int.reduceNeg, Int.reduceToNat, wrapS (n := n) (i := i) (by omega) (by omega)]
      refine vp_loop (fun m vs h' => ∃ k : Nat, k ≤ n - 1 - i ∧ m = n - 1 - i - k ∧ ∃ v out, vs = [.fz w av a.length (pis a), .fz w' bv b.length (pis b), .ptr σ.next 0, .fz true v n (pis out), .int .i64 i, .int .i64 ((i + (1 + k) : Nat) : Int)] ∧ h' = σ.new [.int .i64 p, .fz w1 a1 W.length rP, .fz w3 a3 B.length rB] ∧
        El p n out ∧ Eqv p n W (at_ out) (at_ (bk (B.getD i []) a b i k (bi B a b n i)))) (n - 1 - i) ?_ ?_
      · exact ⟨0, by omega, by omega, v, out, rfl, rfl, hout, heqv⟩
      · rintro m vs h' ⟨k, hk', rfl, v, out, rfl, rfl, hout, heqv⟩
        simp only [pw0, pw1, pw2, pw3, pw4, pw5, pw6, pw7, pw8, pw9, if_true, if_false, eq_self, nm_eq, reduceCtorEq, ↓reduceIte, Nat.reduceEqDiff, Nat.reduceLeDiff, Nat.reduceBEq, Nat.reduceAdd, Nat.reduceLT, Nat.reduceSub, Nat.reduceMul, Int.reduceEq, Int.reduceLT, Int.reduceLE, Int.reduceNeg, Int.reduceToNat]
        refine iteI (fun hj => ?_) fun hge => ?_
        · have hkB : k < B[i].length := by omega
          obtain ⟨w5, a5, hrk⟩ := hrs.rowI hkB
          have hj' : i + (1 + k) < b.length := by omega
          have hia : i < a.length := by omega
          have hib : i < b.length := by omega
          obtain ⟨f1, f2, _, f3, _, f4⟩ := coef_facts o.pr ha hb (i := i) (j := i + (1 + k)) (by omega) (by omega) hia hj hib hj'
          have hent := (q.ent i hiB k hkB).1
          have hcb := coef_bd o.pr ha hb i (i + (1 + k))
          have e1 : IntKind.i64.wrap (((i + (1 + k) : Nat) : Int) - (i : Int)) = ((1 + k : Nat) : Int) := by rw [wrap64 (by omega) (by omega)]; omega
          have e2 : IntKind.i64.wrap (((1 + k : Nat) : Int) - 1) = (k : Int) := by rw [wrap64 (by omega) (by omega)]; omega
          simp only [pw0, pw1, pw2, pw3, pw4, pw5, pw6, pw7, pw8, pw9, if_true, if_false, eq_self, nm_eq, reduceCtorEq, ↓reduceIte, Nat.reduceEqDiff, Nat.reduceLeDiff, Nat.reduceBEq, Nat.reduceAdd, Nat.reduceLT, Nat.reduceSub, Nat.reduceMul, Int.reduceEq, Int.reduceLT, Int.reduceLE, Int.reduceNeg, Int.reduceToNat, hiB, hr, hkB, hrk, hj, hj', hia, hib, gi hj, gi hj', gi hia, gi hib, pis_get, List.getElem?_drop, f1.w, f2.w, f3.w, e1, e2]
          refine l31Mix_el hR0 o hout hent hout.1.symm rfl (by decide) (by rw [f4]; omega) fun v' => ?_
          have e3 : IntKind.i64.wrap (((i + (1 + k) : Nat) : Int) + 1) = ((i + (1 + (k + 1)) : Nat) : Int) := by rw [wrap64 (by omega) (by omega)]; omega
          simp only [pw0, pw1, pw2, pw3, pw4, pw5, pw6, pw7, pw8, pw9, if_true, if_false, eq_self, nm_eq, reduceCtorEq, ↓reduceIte, Nat.reduceEqDiff, Nat.reduceLeDiff, Nat.reduceBEq, Nat.reduceAdd, Nat.reduceLT, Nat.reduceSub, Nat.reduceMul, Int.reduceEq, Int.reduceLT, Int.reduceLE, Int.reduceNeg, Int.reduceToNat, e3]
          refine ⟨_, by omega, k + 1, by omega, rfl, v', _, rfl, norm_el o (by rw [lmix_length (hout.1.trans hent.1.symm), hout.1]), ?_⟩
          refine (norm_eqv o (by rw [lmix_length (hout.1.trans hent.1.symm), hout.1])).trans ?_
          have hacc := bk_length q (a := a) (b := b) (by omega : i < n) hbil (k := k) (by omega)
          have hg : (B.getD i []).getD k [] = B[i][k] := by rw [getD_row' (B := B) hiB, getD_row' (B := B[i]) hkB]
          have h1 := heqv.add (Eqv.refl (p := p) (n := n) (W := W) (fun j => coef a b i (i + (1 + k)) * at_ B[i][k] j))
          refine (Eqv.of_eq fun j => ?_).trans (h1.trans (Eqv.of_eq fun j => ?_))
          · rw [lmix_at (hout.1.trans hent.1.symm), f4]; omega
          · rw [bk, addm_at (by rw [hacc, hg, hent.1]), hg, Nat.add_assoc]
        · have hkn : k = n - 1 - i := by omega
          subst hkn
          simp only [pw0, pw1, pw2, pw3, pw4, pw5, pw6, pw7, pw8, pw9, if_true, if_false, eq_self, nm_eq, reduceCtorEq, ↓reduceIte, Nat.reduceEqDiff, Nat.reduceLeDiff, Nat.reduceBEq, Nat.reduceAdd, Nat.reduceLT, Nat.reduceSub, Nat.reduceMul, Int.reduceEq, Int.reduceLT, Int.reduceLE, Int.reduceNeg, Int.reduceToNat, wrapS hlt (by omega : a.length ≤ 4611686018427387904)]
          exact ⟨_, by omega, i + 1, by omega, rfl, v, out, rfl, hout, heqv⟩
    · have hie : i = n := by omega
      subst hie
      have : out = norm p W (bsum B a b i) := eqv_unique o hout.1 (norm_length o (bsum_length q)) hout.2 (norm_box o (bsum_length q)) (heqv.trans (norm_eqv o (bsum_length q)).symm)
      rw [this]
      exact Gh.fin0 (keep_new σ _) trivial (hk v)
end Go.Proofs
