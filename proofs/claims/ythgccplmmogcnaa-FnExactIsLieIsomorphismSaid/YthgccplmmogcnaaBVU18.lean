/- Spans of Lie rings, the program's side: the whole. -/
import Derived.Test.YthgccplmmogcnaaBVU17
set_option linter.unusedSimpArgs false
set_option linter.unusedVariables false
namespace Go.Proofs
open Go.Ab Go.Lie
variable {σ : PHeap} {K : PV → PHeap → Prop} {p p' : Int} {n : Nat} {W : List (List Int)} {B : List (List (List Int))} {vP vB vL vU : PV} {s : Nat}

/-- A slice that is taken off at the front and grows at the end. -/
def PQ (b : Nat) (h : PHeap) (v : PV) (m : Nat) (cs : List PV) : Prop :=
  (v = .fz true .nils 0 [] ∧ m = 0 ∧ cs = []) ∨ ∃ s off cap row, v = .sl s off m cap ∧ full 1 cap m ∧ h.obj s = some row ∧ (row.drop off).take m = cs ∧ off + m ≤ row.length ∧ b ≤ s ∧ s < h.next
theorem PQ.of {b m : Nat} {h : PHeap} {v : PV} {cs : List PV} (a : PAcc b 1 h v m cs) : PQ b h v m cs := by
  rcases a with a | ⟨s, cap, rfl, h1, h2, h3, h4, h5⟩
  · exact .inl a
  · exact .inr ⟨s, 0, cap, cs, rfl, h1, h2, by rw [List.drop_zero, List.take_of_length_le (by omega)], by omega, h4, h5⟩
theorem PQ.keep {b m : Nat} {h h' : PHeap} {v : PV} {cs : List PV} (a : PQ b h v m cs) (hk : Keep h h') : PQ b h' v m cs := by
  rcases a with a | ⟨s, off, cap, row, rfl, h1, h2, h3, h4, h5, h6⟩
  · exact .inl a
  · exact .inr ⟨s, off, cap, row, rfl, h1, by rw [hk.obj s h6]; exact h2, h3, h4, h5, Nat.lt_of_lt_of_le h6 hk.next⟩
theorem PQ.set {b m t : Nat} {h : PHeap} {v : PV} {cs : List PV} (a : PQ b h v m cs) (ht : t < b) (ds : List PV) : PQ b (h.set t ds) v m cs := by
  rcases a with a | ⟨s, off, cap, row, rfl, h1, h2, h3, h4, h5, h6⟩
  · exact .inl a
  · exact .inr ⟨s, off, cap, row, rfl, h1, by rw [pobj_set, if_neg (by omega)]; exact h2, h3, h4, h5, h6⟩
theorem PQ.pLen {b m : Nat} {h : PHeap} {v : PV} {cs : List PV} (a : PQ b h v m cs) : pLen v = some (.int .i64 m) := by
  rcases a with ⟨rfl, rfl, _⟩ | ⟨s, off, cap, row, rfl, _⟩ <;> rfl
theorem PQ.uncons {b m : Nat} {h : PHeap} {v c : PV} {cs : List PV} (a : PQ b h v m (c :: cs)) : ∃ s off cap v', v = .sl s off m cap ∧ h.rd1 s off = some c ∧ 0 < m ∧ pslice 1 v (some (.int .i64 1)) none none = some v' ∧ PQ b h v' (m - 1) cs := by
  rcases a with ⟨_, _, e⟩ | ⟨s, off, cap, row, rfl, h1, h2, h3, h4, h5, h6⟩
  · cases e
  · have hm : 0 < m := by
      rcases Nat.eq_zero_or_pos m with x | x
      · subst x; cases h3
      · exact x
    have e2 : row.drop off = c :: row.drop (off + 1) := by
      have hlt : off < row.length := by omega
      rw [List.drop_eq_getElem_cons hlt] at h3 ⊢
      obtain ⟨m', rfl⟩ : ∃ m', m = m' + 1 := ⟨m - 1, by omega⟩
      rw [List.take_succ_cons] at h3
      cases h3; rfl
    have e3 : (row.drop (off + 1)).take (m - 1) = cs := by
      rw [e2] at h3
      obtain ⟨m', rfl⟩ : ∃ m', m = m' + 1 := ⟨m - 1, by omega⟩
      rw [List.take_succ_cons] at h3
      cases h3; rfl
    have e4 : row[off]? = some c := by
      have hlt : off < row.length := by omega
      rw [List.drop_eq_getElem_cons hlt] at e2
      rw [List.getElem?_eq_getElem hlt]
      cases e2; rfl
    have hz : (1 : Int) ≤ (m : Int) := by omega
    rcases h1 with rfl | rfl
    · refine ⟨s, off, _, .sl s (off + 1) (m - 1) (.grown 1), rfl, by rw [obj_rd1 h2]; exact e4, hm, ?_, .inr ⟨s, off + 1, _, row, rfl, .inl rfl, h2, e3, by omega, h5, h6⟩⟩
      simp only [pw0, pw1, pw2, pw3, pw4, pw5, pw6, pw7, pw8, pw9, if_true, if_false, eq_self, nm_eq, reduceCtorEq, ↓reduceIte, Nat.reduceEqDiff, Nat.reduceLeDiff, Nat.reduceBEq, Nat.reduceAdd, Nat.reduceLT, Nat.reduceSub, Nat.reduceMul, Int.reduceEq, Int.reduceLT, Int.reduceLE, Int.reduceNeg, Int.reduceToNat, List.reduceReplicate, Int.ofNat_le, List.getElem?_drop, hm, hz]
    · by_cases h10 : m = 1
      · subst h10
        refine ⟨s, off, _, .sl s off 0 (.known 0), rfl, by rw [obj_rd1 h2]; exact e4, hm, ?_, .inr ⟨s, off, _, row, rfl, .inr rfl, h2, by simpa using e3, by omega, h5, h6⟩⟩
        rfl
      · refine ⟨s, off, _, .sl s (off + 1) (m - 1) (.known (m - 1)), rfl, by rw [obj_rd1 h2]; exact e4, hm, ?_, .inr ⟨s, off + 1, _, row, rfl, .inr rfl, h2, e3, by omega, h5, h6⟩⟩
        simp only [pw0, pw1, pw2, pw3, pw4, pw5, pw6, pw7, pw8, pw9, if_true, if_false, eq_self, nm_eq, reduceCtorEq, ↓reduceIte, Nat.reduceEqDiff, Nat.reduceLeDiff, Nat.reduceBEq, Nat.reduceAdd, Nat.reduceLT, Nat.reduceSub, Nat.reduceMul, Int.reduceEq, Int.reduceLT, Int.reduceLE, Int.reduceNeg, Int.reduceToNat, List.reduceReplicate, Int.ofNat_le, List.getElem?_drop, hm, hz, h10]
        rfl
theorem PQ.push {σb h : PHeap} {bytes m : Nat} {v x : PV} {cs : List PV} {K : PV × PHeap → Prop} (hk : Keep σb h) (a : PQ σb.next h v m cs)
    (h1 : (m + 1) * bytes ≤ 140737488355328) (h2 : m + 1 ≤ 4611686018427387904) (k : ∀ v' h', Keep σb h' → PQ σb.next h' v' (m + 1) (cs ++ [x]) → K (v', h')) : optK (pappend 1 bytes (h.new [x]) v (.sl h.next 0 1 (.known 1))) K := by
  rcases a with ⟨rfl, rfl, rfl⟩ | ⟨s, off, cap, row, rfl, q1, q2, q3, q4, q5, q6⟩
  · exact PAcc.push hk (PAcc.nil _ _ _) h1 h2 fun v' h' k1 k2 => k v' h' k1 (.of k2.acc)
  · rw [pappend_eq]
    have hp : pfirst 1 (h.new [x]) (.sl h.next 0 1 (.known 1)) 1 = some [x] := by simp [pfirst_sl, prd_new]
    have hobj : (h.new [x]).obj s = some row := by simp only [PHeap.new]; rw [if_neg (by omega)]; exact q2
    have hn := hk.next
    simp only [plen, Option.bind_some]
    rw [if_neg (by omega), hp]
    simp only [Option.bind_some]
    have hl : cs.length = m := by rw [← q3, List.length_take, List.length_drop]; omega
    rcases q1 with rfl | rfl
    · rw [pgrow_grown, if_pos ⟨h1, h2, rfl⟩, hobj]
      simp only [Option.bind_some]
      rw [if_pos (by omega), Nat.mul_one, q3]
      refine optK_of rfl (k _ _ (((hk.new _).kill (by omega)).new _) (.inr ⟨(h.new [x]).next, 0, _, cs ++ [x], rfl, .inl rfl, by simp [PHeap.new, PHeap.kill], ?_, by simp [hl], by simp [PHeap.new]; omega, by simp [PHeap.new, PHeap.kill]⟩))
      rw [List.drop_zero, List.take_of_length_le (by simp [hl])]
    · rw [pgrow_known, if_neg (by omega), if_pos ⟨h1, h2⟩, obj_rd hobj, if_pos (by omega), Nat.mul_one, q3]
      simp only [Option.map_some]
      refine optK_of rfl (k _ _ ((hk.new _).new _) (.inr ⟨(h.new [x]).next, 0, _, cs ++ [x], rfl, .inl rfl, by simp [PHeap.new], ?_, by simp [hl], by simp [PHeap.new]; omega, by simp [PHeap.new]⟩))
      rw [List.drop_zero, List.take_of_length_le (by simp [hl])]

theorem CloneL_ok {w : Bool} {a : AV} {m : Nat} {rows : List PV} (hl : rows.length = m) (hb : Bels 0 rows) (hm : m ≤ 1048576) (hk0 : rows = [] → K (.fz true .nils 0 []) σ) (hk1 : ∀ cap, full 1 cap m → K (.sl σ.next 0 m cap) (σ.new rows)) :
    PCalls Try.prog 105 [.fz w a m rows] σ K := by
  refine PCalls.nil0 fun hnil => PCalls.gh ?_
  refine pcalls_of_vp mix Try.func105 cf105 rfl ?_
  dsimp only [if105, qI, eI, nI, qD, eD]
  simp only [pw0, pw1, pw2, pw3, pw4, pw5, pw6, pw7, pw8, pw9, if_true, if_false, eq_self, nm_eq, reduceCtorEq, ↓reduceIte, Nat.reduceEqDiff, Nat.reduceLeDiff, Nat.reduceBEq, Nat.reduceAdd, Nat.reduceLT, Nat.reduceSub, Nat.reduceMul, Int.reduceEq, Int.reduceLT, Int.reduceLE, Int.reduceNeg, Int.reduceToNat, List.reduceReplicate, Int.ofNat_le, List.getElem?_drop]
  cases hn : isNils a
  · simp only [pw0, pw1, pw2, pw3, pw4, pw5, pw6, pw7, pw8, pw9, if_true, if_false, eq_self, nm_eq, reduceCtorEq, ↓reduceIte, Nat.reduceEqDiff, Nat.reduceLeDiff, Nat.reduceBEq, Nat.reduceAdd, Nat.reduceLT, Nat.reduceSub, Nat.reduceMul, Int.reduceEq, Int.reduceLT, Int.reduceLE, Int.reduceNeg, Int.reduceToNat, List.reduceReplicate, Int.ofNat_le, List.getElem?_drop]
    refine PSl.cat (bytes := 24) (σb := σ) (n := 0) (cs := []) (keep_new σ _) (PSl.new _ 1 rfl (Nat.le_refl _)) hl (by omega) (by omega) fun v' h' hk' ha => ?_
    simp only [pw0, pw1, pw2, pw3, pw4, pw5, pw6, pw7, pw8, pw9, if_true, if_false, eq_self, nm_eq, reduceCtorEq, ↓reduceIte, Nat.reduceEqDiff, Nat.reduceLeDiff, Nat.reduceBEq, Nat.reduceAdd, Nat.reduceLT, Nat.reduceSub, Nat.reduceMul, Int.reduceEq, Int.reduceLT, Int.reduceLE, Int.reduceNeg, Int.reduceToNat, List.reduceReplicate, Int.ofNat_le, List.getElem?_drop] at ha ⊢
    exact ha.out hk' (hb.up (Nat.zero_le _)) hk1
  · simp only [pw0, pw1, pw2, pw3, pw4, pw5, pw6, pw7, pw8, pw9, if_true, if_false, eq_self, nm_eq, reduceCtorEq, ↓reduceIte, Nat.reduceEqDiff, Nat.reduceLeDiff, Nat.reduceBEq, Nat.reduceAdd, Nat.reduceLT, Nat.reduceSub, Nat.reduceMul, Int.reduceEq, Int.reduceLT, Int.reduceLE, Int.reduceNeg, Int.reduceToNat, List.reduceReplicate, Int.ofNat_le, List.getElem?_drop]
    exact Gh.ret (hk0 (hnil hn).2)

theorem CloneL_q {w : Bool} {a : AV} {m : Nat} {rows : List PV} (hl : rows.length = m) (hb : Bels 0 rows) (hm : m ≤ 1048576) (hk : ∀ v h', Keep σ h' → PQ σ.next h' v m rows → K v h') :
    PCalls Try.prog 105 [.fz w a m rows] σ K :=
  CloneL_ok hl hb hm (fun h0 => hk _ _ (Keep.refl _) (.inl ⟨rfl, by rw [← hl, h0]; rfl, h0⟩)) fun cap hc => hk _ _ (keep_new _ _) (.of (.inr (PSl.own hc (by simp [PHeap.new]) (by omega) (Nat.le_refl _) (by simp [PHeap.new]))))

theorem timesLie_sl {l : Nat} {w : Bool} {av : AV} {k : Int} {a : List Int} (hs : PtrR σ s p vP vB) (hP : FII vP W) (o : OkW p n W) (ha : El p n a) (hl : l = a.length) (hkb : -1000000000 ≤ k ∧ k ≤ 1000000000) (hn : 0 < n)
    (hk : ∀ o cap, K (.fz true (.sl o 0 n cap) n (pis (lmul p W k a))) σ) : PCalls Try.prog 85 [.ptr s 0, .int .i64 k, .fz w av l (pis a)] σ K := by
  have hlen := (lmix_el o ha ha (k := k) (m := 0)).1
  refine PCalls.gh (timesLie_ok hs hP o ha hl hkb ⟨fun h0 => ?_, fun cap hc => ?_⟩)
  · exact absurd hlen (by rw [h0]; simp; omega)
  · rw [hlen] at hc ⊢
    exact Gh.finF (keep_new σ _) (by simp [PHeap.new]) (Nat.le_refl _) (pis_bel _ _) hc.ok fun o => hk o cap

theorem PtrR.keep {h : PHeap} (hs : PtrR σ s p vP vB) (hk : Keep σ h) : PtrR h s p vP vB := ⟨by rw [hk.obj s hs.lt]; exact hs.obj, Nat.lt_of_lt_of_le hs.lt hk.next⟩

/-- What lies at a depth of the subgroup that grows. -/
def BRow (n : Nat) (u : List (List Int)) (d : Nat) (v : PV) : Prop :=
  (v = .fz true .nils 0 [] ∧ ∀ y ∈ u, dep y ≠ d) ∨ ∃ o cap y, v = .fz true (.sl o 0 n cap) n (pis y) ∧ y ∈ u ∧ dep y = d
def BRows (n : Nat) (u : List (List Int)) (rb : List PV) : Prop := rb.length = n ∧ ∀ d (h : d < rb.length), BRow n u d rb[d]
theorem BRows.take {u : List (List Int)} {rb : List PV} {o d : Nat} {cap : Cap} {y : List Int} (h : BRows n u rb) (hd : d < n) (hy : dep y = d) : BRows n (insD u y) (rb.set d (.fz true (.sl o 0 n cap) n (pis y))) := by
  refine ⟨by rw [List.length_set]; exact h.1, fun e he => ?_⟩
  rw [List.length_set] at he
  rw [List.getElem_set]
  by_cases x : d = e
  · subst x
    rw [if_pos rfl]
    exact .inr ⟨o, cap, y, rfl, insD_mem.2 (.inl rfl), hy⟩
  · rw [if_neg x]
    rcases h.2 e he with ⟨h1, h2⟩ | ⟨o', c', y', h1, h2, h3⟩
    · exact .inl ⟨h1, fun v hv => by
        rcases insD_mem.1 hv with rfl | hv
        · omega
        · exact h2 v hv⟩
    · exact .inr ⟨o', c', y', h1, insD_mem.2 (.inr h2), h3⟩

theorem Fp_le {u : List (List Int)} {k : Nat} (ha : Asc u) : (∃ y ∈ u, dep y = k) → ∃ y ∈ u, dep y = k ∧ Fp u k = y :: Fp u (k + 1) := by
  induction u with
  | nil => rintro ⟨y, hy, _⟩; cases hy
  | cons v t ih =>
    have ht : ∀ w ∈ t, dep v < dep w := fun w hw => List.rel_of_pairwise_cons ha hw
    have hta : Asc t := (List.pairwise_cons.1 ha).2
    rintro ⟨y, hy, rfl⟩
    rcases List.mem_cons.1 hy with rfl | hy
    · refine ⟨y, by simp, rfl, ?_⟩
      have e1 : Fp t (dep y) = t := Fp_all fun w hw => Nat.le_of_lt (ht w hw)
      have e2 : Fp t (dep y + 1) = t := Fp_all fun w hw => ht w hw
      rw [Fp, List.filter_cons, if_pos (by simp)]
      rw [show (List.filter (fun v => decide (dep y ≤ dep v)) t) = t from e1]
      rw [Fp, List.filter_cons, if_neg (by simp)]
      rw [show (List.filter (fun v => decide (dep y + 1 ≤ dep v)) t) = t from e2]
    · obtain ⟨y', h1, h2, h3⟩ := ih hta ⟨y, hy, rfl⟩
      have := ht y hy
      refine ⟨y', List.mem_cons_of_mem _ h1, h2, ?_⟩
      rw [Fp, List.filter_cons, if_neg (by simp; omega)]
      rw [Fp, List.filter_cons, if_neg (by simp; omega)]
      exact h3
theorem Fp_skip {u : List (List Int)} {k : Nat} (h : ∀ y ∈ u, dep y ≠ k) : Fp u k = Fp u (k + 1) := List.filter_congr fun v hv => by
  have := h v hv
  simp only [decide_eq_decide]
  omega
theorem base_fp : ∀ {u : List (List Int)} {k : Nat}, Base p n W u → Base p n W (Fp u k)
  | [], k, h => h
  | v :: t, k, h => by
    by_cases x : k ≤ dep v
    · have e : Fp (v :: t) k = v :: t := Fp_all fun w hw => by
        rcases List.mem_cons.1 hw with rfl | hw
        · exact x
        · have := List.rel_of_pairwise_cons h.asc hw
          omega
      rw [e]; exact h
    · rw [Fp, List.filter_cons, if_neg (by simpa using x)]
      cases h with
      | cons _ _ _ h4 => exact base_fp (by assumption)
theorem _root_.Go.Lie.Base.fp' {u : List (List Int)} {k : Nat} (h : Base p n W u) : Base p n W (Fp u k) := base_fp h
end Go.Proofs
