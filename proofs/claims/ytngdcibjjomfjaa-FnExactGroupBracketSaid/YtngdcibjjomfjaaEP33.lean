/- Lazard groups by the reference. -/
import Derived.Test.YtngdcibjjomfjaaEP31
import Derived.Test.YtngdcibjjomfjaaEAbPz
import Derived.Test.YtngdcibjjomfjaaEP27
import Derived.Test.YtngdcibjjomfjaaEP30
set_option linter.unusedSimpArgs false
set_option linter.unusedVariables false
namespace Go.Proofs
open Go.Ab Go.Lie Go.Grp
variable {σ : PHeap} {K : PV → PHeap → Prop} {O : List Int} {P : List (List Int)} {C : List (List (List Int))} {vO vP vC vx vy vL : PV} {x y f a b : List Int} {L : List (List Int)} {rP rC : List PV} {d j sp : Nat}
theorem isZ_zv (hx : x.length = O.length) : isZ x ↔ x = zv O := by
  constructor
  · intro h
    refine ext_at (by simp [hx]) fun j hj => ?_
    rw [at_eq hj, at_rep]; exact h _ (List.getElem_mem hj)
  · rintro rfl y hy
    exact List.eq_of_mem_replicate hy
/-- The commutators of one row with the first i generators. -/
noncomputable def comR (O : List Int) (P : List (List Int)) (C : List (List (List Int))) (x : List Int) (i : Nat) : List (List Int) := ((List.range i).map fun i => gcom O P C x (Grp.unit O i)).filter fun c => decide (c ≠ zv O)
theorem comR_succ (x : List Int) (i : Nat) : comR O P C x (i + 1) = comR O P C x i ++ (if gcom O P C x (Grp.unit O i) = zv O then [] else [gcom O P C x (Grp.unit O i)]) := by
  unfold comR
  rw [List.range_succ, List.map_append, List.filter_append, List.map_cons, List.map_nil]
  congr 1
  by_cases h : gcom O P C x (Grp.unit O i) = zv O
  · rw [if_pos h, List.filter_cons_of_neg (by simp [h]), List.filter_nil]
  · rw [if_neg h, List.filter_cons_of_pos (by simp [h]), List.filter_nil]
theorem comR_len (x : List Int) (i : Nat) : (comR O P C x i).length ≤ i := by
  unfold comR
  exact Nat.le_trans (List.length_filter_le _ _) (by simp)
theorem comL_take {k : Nat} (hk : k < L.length) : comL O P C (L.take (k + 1)) = comL O P C (L.take k) ++ comR O P C L[k] O.length := by
  unfold comL
  rw [List.take_succ_eq_append_getElem hk, List.flatMap_append]
  simp [comR]
theorem comL_len (s : Shp O P C) : ∀ (L : List (List Int)), (comL O P C L).length ≤ 6 * L.length
  | [] => by simp [comL]
  | x :: L => by
    have h1 := comL_len s L
    have h2 := comR_len (O := O) (P := P) (C := C) x O.length
    have h3 : comL O P C (x :: L) = comR O P C x O.length ++ comL O P C L := by simp [comL, comR]
    have h4 := s.le
    rw [h3, List.length_append, List.length_cons]
    omega
theorem l34Comms_ok (s : Shp O P C) (hc : Cons O P C) (hR : IsPr vO vP vC O P C) (hL : FII vL L) (hg : ∀ x ∈ L, gS O x) (hb : L.length ≤ 600000) (hk : ∀ v, FII v (comL O P C L) → K v σ) : PCalls Try.prog 113 [.agg [vO, vP, vC], vL] σ K := by
  have hn6 := s.le
  have hR0 := hR
  have G := (full_of s (Nat.le_refl _) fun j _ h => hc j h).g
  obtain ⟨⟨w0, a0, rfl⟩, ⟨w1, a1, rP, rfl, hP⟩, ⟨w3, a3, rC, rfl, hC⟩⟩ := hR
  obtain ⟨wl, al, rl, rfl, hrl⟩ := hL
  refine PCalls.gh ?_
  have hkp0 : Keep σ (σ.new [.fz w0 a0 O.length (pis O), .fz w1 a1 P.length rP, .fz w3 a3 C.length rC]) := keep_new σ _
  have hobjK : ∀ {h' : PHeap}, Keep (σ.new [.fz w0 a0 O.length (pis O), .fz w1 a1 P.length rP, .fz w3 a3 C.length rC]) h' → h'.rd σ.next 0 3 = some [.fz w0 a0 O.length (pis O), .fz w1 a1 P.length rP, .fz w3 a3 C.length rC] := fun {h'} hk' => by
    have : h'.obj σ.next = some [.fz w0 a0 O.length (pis O), .fz w1 a1 P.length rP, .fz w3 a3 C.length rC] := by rw [hk'.obj _ (by simp [PHeap.new])]; simp [PHeap.new]
    simp [PHeap.rd, this]
  refine pcalls_of_vp mix Try.func113 cf113 rfl ?_
  dsimp only [if113, qI, eI, nI, qD, eD]
  simp only [pwA, if_true, if_false, eq_self, nm_eq, reduceCtorEq, ↓reduceIte, Nat.reduceEqDiff, Nat.reduceLeDiff, Nat.reduceBEq, Nat.reduceAdd, Nat.reduceLT, Nat.reduceSub, Nat.reduceMul, Int.reduceEq, Int.reduceLT, Int.reduceLE, Int.reduceNeg, Int.reduceToNat, List.reduceReplicate, Int.ofNat_le, List.getElem?_drop]
  refine vp_loop (fun m vs h' => ∃ k v rows, k ≤ L.length ∧ m = L.length - k ∧ vs = [.fz wl al L.length rl, .ptr σ.next 0, .int .i64 O.length, v, .int .i64 (k : Nat)] ∧ Keep (σ.new [.fz w0 a0 O.length (pis O), .fz w1 a1 P.length rP, .fz w3 a3 C.length rC]) h' ∧ PSl (σ.next + 1) 1 h' v (comL O P C (L.take k)).length rows ∧ All2 FI rows (comL O P C (L.take k))) L.length ?_ ?_
  · exact ⟨0, _, [], by omega, by omega, rfl, keep_new _ _, PSl.new (σ.next + 1) 1 rfl (Nat.le_refl _), by simpa [comL] using All2.nil _⟩
  rintro m vs h' ⟨k, v, rows, hkl, rfl, rfl, hkp, ha, hrows⟩
  simp only [pwA, if_true, if_false, eq_self, nm_eq, reduceCtorEq, ↓reduceIte, Nat.reduceEqDiff, Nat.reduceLeDiff, Nat.reduceBEq, Nat.reduceAdd, Nat.reduceLT, Nat.reduceSub, Nat.reduceMul, Int.reduceEq, Int.reduceLT, Int.reduceLE, Int.reduceNeg, Int.reduceToNat, List.reduceReplicate, Int.ofNat_le, List.getElem?_drop]
  refine iteI (fun hlt => ?_) fun hge => ?_
  rotate_left
  · have hke : k = L.length := by omega
    subst hke
    rw [List.take_length] at ha hrows
    exact (ha.acc.low (Nat.le_succ _)).fin (hkp0.trans hkp) (hrows.bI 0) fun a => hk _ ⟨true, a, rows, rfl, hrows⟩
  have hlk : k < L.length := by omega
  obtain ⟨w4, a4, hr⟩ := hrl.rowI hlk
  have gx := hg _ (List.getElem_mem hlk)
  simp only [pwA, if_true, if_false, eq_self, nm_eq, reduceCtorEq, ↓reduceIte, Nat.reduceEqDiff, Nat.reduceLeDiff, Nat.reduceBEq, Nat.reduceAdd, Nat.reduceLT, Nat.reduceSub, Nat.reduceMul, Int.reduceEq, Int.reduceLT, Int.reduceLE, Int.reduceNeg, Int.reduceToNat, List.reduceReplicate, Int.ofNat_le, List.getElem?_drop]
  refine vp_loop (fun m vs h2 => ∃ i v rows, i ≤ O.length ∧ m = O.length - i ∧ vs = [.fz wl al L.length rl, .ptr σ.next 0, .int .i64 O.length, v, .int .i64 (k : Nat), .int .i64 (i : Nat)] ∧ Keep (σ.new [.fz w0 a0 O.length (pis O), .fz w1 a1 P.length rP, .fz w3 a3 C.length rC]) h2 ∧ PSl (σ.next + 1) 1 h2 v (comL O P C (L.take k) ++ comR O P C L[k] i).length rows ∧ All2 FI rows (comL O P C (L.take k) ++ comR O P C L[k] i)) O.length ?_ ?_
  · exact ⟨0, v, rows, by omega, by omega, rfl, hkp, by simpa [comR] using ha, by simpa [comR] using hrows⟩
  clear ha hrows hkp v rows
  rintro m vs h2 ⟨i, v, rows, hi, rfl, rfl, hkp, ha, hrows⟩
  have e3 := hobjK hkp
  simp only [pwA, if_true, if_false, eq_self, nm_eq, reduceCtorEq, ↓reduceIte, Nat.reduceEqDiff, Nat.reduceLeDiff, Nat.reduceBEq, Nat.reduceAdd, Nat.reduceLT, Nat.reduceSub, Nat.reduceMul, Int.reduceEq, Int.reduceLT, Int.reduceLE, Int.reduceNeg, Int.reduceToNat, List.reduceReplicate, Int.ofNat_le, List.getElem?_drop]
  refine iteI (fun hlti => ?_) fun hgei => ?_
  rotate_left
  · have hie : i = O.length := by omega
    subst hie
    rw [← comL_take hlk] at ha hrows
    simp only [pwA, if_true, if_false, eq_self, nm_eq, reduceCtorEq, ↓reduceIte, Nat.reduceEqDiff, Nat.reduceLeDiff, Nat.reduceBEq, Nat.reduceAdd, Nat.reduceLT, Nat.reduceSub, Nat.reduceMul, Int.reduceEq, Int.reduceLT, Int.reduceLE, Int.reduceNeg, Int.reduceToNat, List.reduceReplicate, Int.ofNat_le, List.getElem?_drop, wrapS hlk (by omega : L.length ≤ 4611686018427387904)]
    exact ⟨_, by omega, k + 1, v, rows, by omega, rfl, rfl, hkp, ha, hrows⟩
  have hlti' : i < O.length := by omega
  have hl1 := comL_len s (L.take k)
  have hl2 := comR_len (O := O) (P := P) (C := C) L[k] i
  have hl3 : (L.take k).length ≤ L.length := by rw [List.length_take]; omega
  simp only [pwA, if_true, if_false, eq_self, nm_eq, reduceCtorEq, ↓reduceIte, Nat.reduceEqDiff, Nat.reduceLeDiff, Nat.reduceBEq, Nat.reduceAdd, Nat.reduceLT, Nat.reduceSub, Nat.reduceMul, Int.reduceEq, Int.reduceLT, Int.reduceLE, Int.reduceNeg, Int.reduceToNat, List.reduceReplicate, Int.ofNat_le, List.getElem?_drop, hlk, hr, List.getElem?_drop, e3]
  refine l07Unit_ok (by omega) hlti' fun vu fu => ?_
  simp only [pwA, if_true, if_false, eq_self, nm_eq, reduceCtorEq, ↓reduceIte, Nat.reduceEqDiff, Nat.reduceLeDiff, Nat.reduceBEq, Nat.reduceAdd, Nat.reduceLT, Nat.reduceSub, Nat.reduceMul, Int.reduceEq, Int.reduceLT, Int.reduceLE, Int.reduceNeg, Int.reduceToNat, List.reduceReplicate, Int.ofNat_le, List.getElem?_drop, hlk, hr, List.getElem?_drop, e3]
  refine l10Comm_ok s hc hR0 gx (s.unit (t := 0) hlti' (Nat.zero_le _)) ⟨w4, a4, rfl⟩ fu fun vc fc => ?_
  obtain ⟨wc, ac, rfl⟩ := fc
  have hcl := (G.com_in gx (s.unit (t := 0) hlti' (Nat.zero_le _))).len
  simp only [pwA, if_true, if_false, eq_self, nm_eq, reduceCtorEq, ↓reduceIte, Nat.reduceEqDiff, Nat.reduceLeDiff, Nat.reduceBEq, Nat.reduceAdd, Nat.reduceLT, Nat.reduceSub, Nat.reduceMul, Int.reduceEq, Int.reduceLT, Int.reduceLE, Int.reduceNeg, Int.reduceToNat, List.reduceReplicate, Int.ofNat_le, List.getElem?_drop]
  refine l01Zero_ok rfl (by rw [hcl]; omega) ?_
  have hz := isZ_zv hcl
  by_cases h0 : gcom O P C L[k] (Grp.unit O i) = zv O
  · have h0' := hz.2 h0
    simp only [pwA, if_true, if_false, eq_self, nm_eq, reduceCtorEq, ↓reduceIte, Nat.reduceEqDiff, Nat.reduceLeDiff, Nat.reduceBEq, Nat.reduceAdd, Nat.reduceLT, Nat.reduceSub, Nat.reduceMul, Int.reduceEq, Int.reduceLT, Int.reduceLE, Int.reduceNeg, Int.reduceToNat, List.reduceReplicate, Int.ofNat_le, List.getElem?_drop, h0', wrapS hlti' (by omega : O.length ≤ 4611686018427387904)]
    refine ⟨_, by omega, i + 1, v, rows, by omega, rfl, rfl, hkp, ?_, ?_⟩
    · rw [comR_succ, if_pos h0, List.append_nil]; exact ha
    · rw [comR_succ, if_pos h0, List.append_nil]; exact hrows
  · have h0' : ¬ isZ _ := fun h => h0 (hz.1 h)
    simp only [pwA, if_true, if_false, eq_self, nm_eq, reduceCtorEq, ↓reduceIte, Nat.reduceEqDiff, Nat.reduceLeDiff, Nat.reduceBEq, Nat.reduceAdd, Nat.reduceLT, Nat.reduceSub, Nat.reduceMul, Int.reduceEq, Int.reduceLT, Int.reduceLE, Int.reduceNeg, Int.reduceToNat, List.reduceReplicate, Int.ofNat_le, List.getElem?_drop, h0']
    refine PSl.push (bytes := 24) (σb := σ.new [.fz w0 a0 O.length (pis O), .fz w1 a1 P.length rP, .fz w3 a3 C.length rC]) hkp ha (by rw [List.length_append]; omega) (by rw [List.length_append]; omega) fun v' h3 k3 p3 => ?_
    simp only [pwA, if_true, if_false, eq_self, nm_eq, reduceCtorEq, ↓reduceIte, Nat.reduceEqDiff, Nat.reduceLeDiff, Nat.reduceBEq, Nat.reduceAdd, Nat.reduceLT, Nat.reduceSub, Nat.reduceMul, Int.reduceEq, Int.reduceLT, Int.reduceLE, Int.reduceNeg, Int.reduceToNat, List.reduceReplicate, Int.ofNat_le, List.getElem?_drop, wrapS hlti' (by omega : O.length ≤ 4611686018427387904)]
    refine ⟨_, by omega, i + 1, v', rows ++ [.fz wc ac (gcom O P C L[k] (Grp.unit O i)).length (pis (gcom O P C L[k] (Grp.unit O i)))], by omega, rfl, rfl, k3, ?_, ?_⟩
    rotate_left
    · rw [comR_succ, if_neg h0, ← List.append_assoc]
      exact hrows.snoc ⟨wc, ac, rfl⟩
    · rw [comR_succ, if_neg h0, ← List.append_assoc, List.length_append]
      exact p3
end Go.Proofs
set_option linter.unusedVariables false
set_option linter.unusedSimpArgs false
namespace Go.Lie
open Go.Ab
variable {p : Int} {n : Nat} {W : List (List Int)}
/-- The place of the first entry that is not 0, or the length. -/
def dep : List Int → Nat
  | [] => 0
  | x :: xs => if x = 0 then dep xs + 1 else 0
theorem dep_le : ∀ v : List Int, dep v ≤ v.length
  | [] => Nat.le_refl _
  | x :: xs => by simp only [dep, List.length_cons]; have := dep_le xs; split <;> omega
theorem dep_zero : ∀ {v : List Int} {j : Nat}, j < dep v → at_ v j = 0
  | [], j, h => by simp [at_]
  | x :: xs, j, h => by
    simp only [dep] at h
    split at h
    · rename_i hx
      cases j with
      | zero => simp [at_, hx]
      | succ j =>
        have := dep_zero (v := xs) (j := j) (by omega)
        simpa [at_] using this
    · omega
theorem dep_ne : ∀ {v : List Int}, dep v < v.length → at_ v (dep v) ≠ 0
  | [], h => by simp at h
  | x :: xs, h => by
    simp only [dep, List.length_cons] at h ⊢
    split at h
    · rename_i hx
      rw [if_pos hx]
      have := dep_ne (v := xs) (by omega)
      simpa [at_] using this
    · rename_i hx
      rw [if_neg hx]
      simpa [at_] using hx
end Go.Lie
set_option linter.unusedSimpArgs false
set_option linter.unusedVariables false
namespace Go.Proofs
open Go.Ab Go.Lie
variable {σ : PHeap} {K : PV → PHeap → Prop} {p p' : Int} {n : Nat} {W : List (List Int)} {B : List (List (List Int))} {vP vB vL vU : PV} {s : Nat}
/-- The numbers of the division with remainder. -/
def euc (p a : Int) : Nat → Int × Int × Int × Int
  | 0 => (p, a, 0, 1)
  | k + 1 => let t := euc p a k
    if t.2.1 = 0 then t else (t.2.1, t.1 - t.1.tdiv t.2.1 * t.2.1, t.2.2.2, t.2.2.1 - t.1.tdiv t.2.1 * t.2.2.2)
def eucOK (p a : Int) (k : Nat) : Bool :=
  let t := euc p a k
  decide (-7 ≤ t.1 ∧ t.1 ≤ 7 ∧ -7 ≤ t.2.1 ∧ t.2.1 ≤ 7 ∧ -7 ≤ t.2.2.1 ∧ t.2.2.1 ≤ 7 ∧ -7 ≤ t.2.2.2 ∧ t.2.2.2 ≤ 7 ∧ -7 ≤ t.1.tdiv t.2.1 ∧ t.1.tdiv t.2.1 ≤ 7 ∧ -49 ≤ t.1.tdiv t.2.1 * t.2.1 ∧ t.1.tdiv t.2.1 * t.2.1 ≤ 49 ∧ -49 ≤ t.1.tdiv t.2.1 * t.2.2.2 ∧ t.1.tdiv t.2.1 * t.2.2.2 ≤ 49 ∧ (k = 8 → t.2.1 = 0) ∧ (t.2.1 = 0 → a * (t.2.2.1 % p) % p = 1 % p))
theorem euc_all : ∀ p ∈ [2, 3, 5, 7], ∀ a ∈ [1, 2, 3, 4, 5, 6], (a : Int) < p → ∀ k ∈ [0, 1, 2, 3, 4, 5, 6, 7, 8], eucOK p a k = true := by decide +kernel
theorem euc_ok {a : Int} (hp : isP p) (ha : 0 < a ∧ a < p) {k : Nat} (hk : k ≤ 8) : eucOK p a k = true := by
  have hpb := hp.bd
  refine euc_all p ?_ a ?_ ha.2 k ?_
  · rcases hp with h | h | h | h <;> simp [h]
  · have : a = 1 ∨ a = 2 ∨ a = 3 ∨ a = 4 ∨ a = 5 ∨ a = 6 := by omega
    rcases this with h | h | h | h | h | h <;> simp [h]
  · have : k = 0 ∨ k = 1 ∨ k = 2 ∨ k = 3 ∨ k = 4 ∨ k = 5 ∨ k = 6 ∨ k = 7 ∨ k = 8 := by omega
    rcases this with h | h | h | h | h | h | h | h | h <;> simp [h]
theorem inverseMod_ok {a : Int} (hp : isP p) (ha : 0 < a ∧ a < p) (hk : ∀ (x : Int) (b : Bool), 0 ≤ x → x < p → a * x % p = 1 → K (.tup [.int .i64 x, .bool b]) σ) : PCalls Try.prog 163 [.int .i64 a, .int .i64 p] σ K := by
  have hpb := hp.bd
  refine pcalls_of_vp mix Try.func163 cf163 rfl ?_
  dsimp only [if163, qI, eI, nI, qD, eD]
  simp only [pwA, if_true, if_false, eq_self, nm_eq, reduceCtorEq, ↓reduceIte, Nat.reduceEqDiff, Nat.reduceLeDiff, Nat.reduceBEq, Nat.reduceAdd, Nat.reduceLT, Nat.reduceSub, Nat.reduceMul, Int.reduceEq, Int.reduceLT, Int.reduceLE, Int.reduceNeg, Int.reduceToNat, List.reduceReplicate, Int.ofNat_le, List.getElem?_drop]
  refine vp_loop (fun m vs h' => ∃ k : Nat, k ≤ 8 ∧ m = 8 - k ∧ vs = [.int .i64 p, .int .i64 (euc p a k).1, .int .i64 (euc p a k).2.1, .int .i64 (euc p a k).2.2.1, .int .i64 (euc p a k).2.2.2] ∧ σ = h') 8 ?_ ?_
  · exact ⟨0, by omega, by omega, rfl, rfl⟩
  rintro m vs h' ⟨k, hk8, rfl, rfl, rfl⟩
  have hok := euc_ok hp ha hk8
  unfold eucOK at hok
  have hst : euc p a (k + 1) = if (euc p a k).2.1 = 0 then euc p a k else ((euc p a k).2.1, (euc p a k).1 - (euc p a k).1.tdiv (euc p a k).2.1 * (euc p a k).2.1, (euc p a k).2.2.2, (euc p a k).2.2.1 - (euc p a k).1.tdiv (euc p a k).2.1 * (euc p a k).2.2.2) := rfl
  generalize hT : euc p a k = T at *
  obtain ⟨r, nx, x, y⟩ := T
  dsimp only at hok hst ⊢
  simp only [decide_eq_true_eq] at hok
  obtain ⟨b1, b2, b3, b4, b5, b6, b7, b8, b9, b10, b11, b12, b13, b14, b15, b16⟩ := hok
  by_cases h0 : nx = 0
  · subst h0
    simp only [pwA, if_true, if_false, eq_self, nm_eq, reduceCtorEq, ↓reduceIte, Nat.reduceEqDiff, Nat.reduceLeDiff, Nat.reduceBEq, Nat.reduceAdd, Nat.reduceLT, Nat.reduceSub, Nat.reduceMul, Int.reduceEq, Int.reduceLT, Int.reduceLE, Int.reduceNeg, Int.reduceToNat, List.reduceReplicate, Int.ofNat_le, List.getElem?_drop]
    refine residue_ok (by omega) (by omega) ?_
    simp only [pwA, if_true, if_false, eq_self, nm_eq, reduceCtorEq, ↓reduceIte, Nat.reduceEqDiff, Nat.reduceLeDiff, Nat.reduceBEq, Nat.reduceAdd, Nat.reduceLT, Nat.reduceSub, Nat.reduceMul, Int.reduceEq, Int.reduceLT, Int.reduceLE, Int.reduceNeg, Int.reduceToNat, List.reduceReplicate, Int.ofNat_le, List.getElem?_drop]
    refine hk _ _ (Int.emod_nonneg _ (by omega)) (Int.emod_lt_of_pos _ (by omega)) ?_
    rw [b16 rfl]
    exact Int.emod_eq_of_lt (by omega) (by omega)
  · rw [if_neg h0] at hst
    have hk9 : k ≠ 8 := fun e => h0 (b15 e)
    simp only [pwA, if_true, if_false, eq_self, nm_eq, reduceCtorEq, ↓reduceIte, Nat.reduceEqDiff, Nat.reduceLeDiff, Nat.reduceBEq, Nat.reduceAdd, Nat.reduceLT, Nat.reduceSub, Nat.reduceMul, Int.reduceEq, Int.reduceLT, Int.reduceLE, Int.reduceNeg, Int.reduceToNat, List.reduceReplicate, Int.ofNat_le, List.getElem?_drop, h0, wrap64 (n := r.tdiv nx) (by omega) (by omega), wrap64 (n := r.tdiv nx * nx) (by omega) (by omega), wrap64 (n := r.tdiv nx * y) (by omega) (by omega), wrap64 (n := r - r.tdiv nx * nx) (by omega) (by omega), wrap64 (n := x - r.tdiv nx * y) (by omega) (by omega)]
    refine ⟨_, by omega, k + 1, by omega, rfl, ?_⟩
    rw [hst]
theorem depthOf_ok {l : Nat} {w : Bool} {a : AV} {xs : List Int} (hl : l = xs.length) (hb : xs.length ≤ 1048576) (hk : K (.int .i64 (dep xs)) σ) : PCalls Try.prog 162 [.fz w a l (pis xs)] σ K := by
  subst hl
  refine pcalls_of_vp mix Try.func162 cf162 rfl ?_
  dsimp only [if162, qI, eI, nI, qD, eD]
  simp only [pwA, if_true, if_false, eq_self, nm_eq, reduceCtorEq, ↓reduceIte, Nat.reduceEqDiff, Nat.reduceLeDiff, Nat.reduceBEq, Nat.reduceAdd, Nat.reduceLT, Nat.reduceSub, Nat.reduceMul, Int.reduceEq, Int.reduceLT, Int.reduceLE, Int.reduceNeg, Int.reduceToNat, List.reduceReplicate, Int.ofNat_le, List.getElem?_drop]
  refine vp_loop (fun m vs h' => ∃ i : Nat, i ≤ dep xs ∧ m = dep xs - i ∧ vs = [.fz w a xs.length (pis xs), .fz w a xs.length (pis xs), .int .i64 xs.length, .int .i64 i] ∧ σ = h') (dep xs) ?_ ?_
  · exact ⟨0, by omega, by omega, rfl, rfl⟩
  rintro m vs h' ⟨i, hi, rfl, rfl, rfl⟩
  have hdl := dep_le xs
  by_cases hlt : i < xs.length
  · by_cases h0 : xs[i] = 0
    · have hid : i < dep xs := by
        rcases Nat.lt_or_ge i (dep xs) with x | x
        · exact x
        · have : i = dep xs := by omega
          subst this
          exact absurd (by rw [at_eq hlt]; exact h0) (dep_ne hlt)
      simp only [pwA, if_true, if_false, eq_self, nm_eq, reduceCtorEq, ↓reduceIte, Nat.reduceEqDiff, Nat.reduceLeDiff, Nat.reduceBEq, Nat.reduceAdd, Nat.reduceLT, Nat.reduceSub, Nat.reduceMul, Int.reduceEq, Int.reduceLT, Int.reduceLE, Int.reduceNeg, Int.reduceToNat, List.reduceReplicate, Int.ofNat_le, List.getElem?_drop, hlt, List.getElem?_drop, pis_get, gi hlt, h0, wrapS hlt (by omega : xs.length ≤ 4611686018427387904)]
      exact ⟨_, by omega, i + 1, by omega, rfl, rfl⟩
    · have hid : i = dep xs := by
        rcases Nat.lt_or_ge i (dep xs) with x | x
        · exact absurd (by rw [← at_eq hlt]; exact dep_zero x) h0
        · omega
      subst hid
      simp only [pwA, if_true, if_false, eq_self, nm_eq, reduceCtorEq, ↓reduceIte, Nat.reduceEqDiff, Nat.reduceLeDiff, Nat.reduceBEq, Nat.reduceAdd, Nat.reduceLT, Nat.reduceSub, Nat.reduceMul, Int.reduceEq, Int.reduceLT, Int.reduceLE, Int.reduceNeg, Int.reduceToNat, List.reduceReplicate, Int.ofNat_le, List.getElem?_drop, hlt, List.getElem?_drop, pis_get, gi hlt, h0]
      exact hk
  · have hid : i = dep xs := by omega
    subst hid
    simp only [pwA, if_true, if_false, eq_self, nm_eq, reduceCtorEq, ↓reduceIte, Nat.reduceEqDiff, Nat.reduceLeDiff, Nat.reduceBEq, Nat.reduceAdd, Nat.reduceLT, Nat.reduceSub, Nat.reduceMul, Int.reduceEq, Int.reduceLT, Int.reduceLE, Int.reduceNeg, Int.reduceToNat, List.reduceReplicate, Int.ofNat_le, List.getElem?_drop, hlt]
    have hd : dep xs = xs.length := by omega
    rw [hd] at hk
    exact hk
theorem piv1_ok {x : Int} (hk : K (.bool (!decide (x = 0))) σ) : PCalls Try.prog 197 [.int .i64 x] σ K := by
  refine pcalls_of_vp mix Try.func197 cf197 rfl ?_
  dsimp only [if197, qI, eI, nI, qD, eD]
  simp only [pwA, if_true, if_false, eq_self, nm_eq, reduceCtorEq, ↓reduceIte, Nat.reduceEqDiff, Nat.reduceLeDiff, Nat.reduceBEq, Nat.reduceAdd, Nat.reduceLT, Nat.reduceSub, Nat.reduceMul, Int.reduceEq, Int.reduceLT, Int.reduceLE, Int.reduceNeg, Int.reduceToNat, List.reduceReplicate, Int.ofNat_le, List.getElem?_drop]
  exact hk
theorem okF143 : okF Try.prog 197 = true := by kernel_rfl
theorem IndexFunc_ok {l : Nat} {w : Bool} {a : AV} {xs : List Int} (hl : l = xs.length) (hb : xs.length ≤ 1048576) (hd : dep xs < xs.length) (hk : K (.int .i64 (dep xs)) σ) :
    PCalls Try.prog 196 [.fz w a l (pis xs), .clo 197 [] []] σ K := by
  subst hl
  refine pcalls_of_vp mix Try.func196 cf196 rfl ?_
  dsimp only [if196, qI, eI, nI, qD, eD]
  simp only [pwA, if_true, if_false, eq_self, nm_eq, reduceCtorEq, ↓reduceIte, Nat.reduceEqDiff, Nat.reduceLeDiff, Nat.reduceBEq, Nat.reduceAdd, Nat.reduceLT, Nat.reduceSub, Nat.reduceMul, Int.reduceEq, Int.reduceLT, Int.reduceLE, Int.reduceNeg, Int.reduceToNat, List.reduceReplicate, Int.ofNat_le, List.getElem?_drop]
  refine vp_loop (fun m vs h' => ∃ i : Nat, i ≤ dep xs ∧ m = dep xs - i ∧ vs = [.fz w a xs.length (pis xs), .clo 197 [] [], .int .i64 xs.length, .int .i64 i] ∧ σ = h') (dep xs) ?_ ?_
  · exact ⟨0, by omega, by omega, rfl, rfl⟩
  rintro m vs h' ⟨i, hi, rfl, rfl, rfl⟩
  have hlt : i < xs.length := by omega
  simp only [pwA, if_true, if_false, eq_self, nm_eq, reduceCtorEq, ↓reduceIte, Nat.reduceEqDiff, Nat.reduceLeDiff, Nat.reduceBEq, Nat.reduceAdd, Nat.reduceLT, Nat.reduceSub, Nat.reduceMul, Int.reduceEq, Int.reduceLT, Int.reduceLE, Int.reduceNeg, Int.reduceToNat, List.reduceReplicate, Int.ofNat_le, List.getElem?_drop, hlt, List.getElem?_drop, pis_get, gi hlt]
  refine ⟨okF143, piv1_ok ?_⟩
  by_cases h0 : xs[i] = 0
  · have hid : i < dep xs := by
      rcases Nat.lt_or_ge i (dep xs) with x | x
      · exact x
      · have : i = dep xs := by omega
        subst this
        exact absurd (by rw [at_eq hlt]; exact h0) (dep_ne hlt)
    simp only [pwA, if_true, if_false, eq_self, nm_eq, reduceCtorEq, ↓reduceIte, Nat.reduceEqDiff, Nat.reduceLeDiff, Nat.reduceBEq, Nat.reduceAdd, Nat.reduceLT, Nat.reduceSub, Nat.reduceMul, Int.reduceEq, Int.reduceLT, Int.reduceLE, Int.reduceNeg, Int.reduceToNat, List.reduceReplicate, Int.ofNat_le, List.getElem?_drop, h0, ne_eq, not_true, decide_false, wrapS hlt (by omega : xs.length ≤ 4611686018427387904)]
    exact ⟨_, by omega, i + 1, by omega, rfl, rfl⟩
  · have hid : i = dep xs := by
      rcases Nat.lt_or_ge i (dep xs) with x | x
      · exact absurd (by rw [← at_eq hlt]; exact dep_zero x) h0
      · omega
    subst hid
    simp only [pwA, if_true, if_false, eq_self, nm_eq, reduceCtorEq, ↓reduceIte, Nat.reduceEqDiff, Nat.reduceLeDiff, Nat.reduceBEq, Nat.reduceAdd, Nat.reduceLT, Nat.reduceSub, Nat.reduceMul, Int.reduceEq, Int.reduceLT, Int.reduceLE, Int.reduceNeg, Int.reduceToNat, List.reduceReplicate, Int.ofNat_le, List.getElem?_drop, h0, ne_eq, not_false_iff, decide_true]
    exact hk
abbrev deps (u : List (List Int)) : List Int := u.map fun v => (dep v : Int)
theorem pivots_ok {u : List (List Int)} (hL : FII vU u) (hu : ∀ v ∈ u, dep v < v.length ∧ v.length ≤ 1048576) (hul : u.length ≤ 1048576) (hk : ∀ v, K (.fz true v u.length (pis (deps u))) σ) : PCalls Try.prog 164 [vU] σ K := by
  obtain ⟨wl, al, rl, rfl, hrl⟩ := hL
  refine PCalls.gh ?_
  refine pcalls_of_vp mix Try.func164 cf164 rfl ?_
  dsimp only [if164, qI, eI, nI, qD, eD]
  simp only [pwA, if_true, if_false, eq_self, nm_eq, reduceCtorEq, ↓reduceIte, Nat.reduceEqDiff, Nat.reduceLeDiff, Nat.reduceBEq, Nat.reduceAdd, Nat.reduceLT, Nat.reduceSub, Nat.reduceMul, Int.reduceEq, Int.reduceLT, Int.reduceLE, Int.reduceNeg, Int.reduceToNat, List.reduceReplicate, Int.ofNat_le, List.getElem?_drop]
  refine vp_loop (fun m vs h' => ∃ (i : Nat) (v : PV), i ≤ u.length ∧ m = u.length - i ∧ vs = [v, .fz wl al u.length rl, .int .i64 u.length, .int .i64 i] ∧ Keep σ h' ∧ PAcc σ.next 1 h' v i (pis (deps (u.take i)))) u.length ?_ ?_
  · exact ⟨0, _, by omega, by omega, rfl, Keep.refl σ, PAcc.nil _ _ _⟩
  rintro m vs h' ⟨i, v, hi, rfl, rfl, hkp, ha⟩
  simp only [pwA, if_true, if_false, eq_self, nm_eq, reduceCtorEq, ↓reduceIte, Nat.reduceEqDiff, Nat.reduceLeDiff, Nat.reduceBEq, Nat.reduceAdd, Nat.reduceLT, Nat.reduceSub, Nat.reduceMul, Int.reduceEq, Int.reduceLT, Int.reduceLE, Int.reduceNeg, Int.reduceToNat, List.reduceReplicate, Int.ofNat_le, List.getElem?_drop]
  refine iteI (fun hlt => ?_) fun hge => ?_
  · obtain ⟨w4, a4, hr⟩ := hrl.rowI hlt
    have hui := hu _ (List.getElem_mem hlt)
    simp only [pwA, if_true, if_false, eq_self, nm_eq, reduceCtorEq, ↓reduceIte, Nat.reduceEqDiff, Nat.reduceLeDiff, Nat.reduceBEq, Nat.reduceAdd, Nat.reduceLT, Nat.reduceSub, Nat.reduceMul, Int.reduceEq, Int.reduceLT, Int.reduceLE, Int.reduceNeg, Int.reduceToNat, List.reduceReplicate, Int.ofNat_le, List.getElem?_drop, hlt, hr, List.getElem?_drop]
    refine IndexFunc_ok rfl hui.2 hui.1 ?_
    simp only [pwA, if_true, if_false, eq_self, nm_eq, reduceCtorEq, ↓reduceIte, Nat.reduceEqDiff, Nat.reduceLeDiff, Nat.reduceBEq, Nat.reduceAdd, Nat.reduceLT, Nat.reduceSub, Nat.reduceMul, Int.reduceEq, Int.reduceLT, Int.reduceLE, Int.reduceNeg, Int.reduceToNat, List.reduceReplicate, Int.ofNat_le, List.getElem?_drop]
    refine PAcc.push (bytes := 8) hkp ha (by omega) (by omega) fun v' h2 k2 a2 => ?_
    simp only [pwA, if_true, if_false, eq_self, nm_eq, reduceCtorEq, ↓reduceIte, Nat.reduceEqDiff, Nat.reduceLeDiff, Nat.reduceBEq, Nat.reduceAdd, Nat.reduceLT, Nat.reduceSub, Nat.reduceMul, Int.reduceEq, Int.reduceLT, Int.reduceLE, Int.reduceNeg, Int.reduceToNat, List.reduceReplicate, Int.ofNat_le, List.getElem?_drop, wrapS hlt (by omega : u.length ≤ 4611686018427387904)]
    refine ⟨_, by omega, i + 1, v', by omega, rfl, rfl, k2, ?_⟩
    have e : pis (deps (u.take (i + 1))) = pis (deps (u.take i)) ++ [.int .i64 (dep u[i])] := by rw [List.take_succ_eq_append_getElem hlt, deps, List.map_append, ← pis_append]; rfl
    rw [e]
    exact a2.acc
  · have hie : i = u.length := by omega
    subst hie
    rw [List.take_length] at ha
    exact ha.fin hkp (pis_bel _ _) hk
end Go.Proofs
set_option linter.unusedSimpArgs false
set_option linter.unusedVariables false
namespace Go.Proofs
open Go.Ab Go.Lie
variable {σ : PHeap} {K : PV → PHeap → Prop} {p p' : Int} {n : Nat} {W : List (List Int)} {B : List (List (List Int))} {vP vB vL vU : PV} {s : Nat}
/-- A slice that is taken off at the front and grows at the end. -/
def PQ (b : Nat) (h : PHeap) (v : PV) (m : Nat) (cs : List PV) : Prop :=
  (v = .fz true .nils 0 [] ∧ m = 0 ∧ cs = []) ∨ ∃ s off cap row, v = .sl s off m cap ∧ full 1 cap m ∧ h.obj s = some row ∧ (row.drop off).take m = cs ∧ off + m ≤ row.length ∧ b ≤ s ∧ s < h.next
theorem PQ.of {b m : Nat} {h : PHeap} {v : PV} {cs : List PV} (a : PAcc b 1 h v m cs) : PQ b h v m cs := by
  rcases a with a | ⟨s, cap, rfl, h1, h2, h3, h4, h5⟩
  · exact .inl a
  · exact .inr ⟨s, 0, cap, cs, rfl, h1, h2, by rw [List.drop_zero, List.take_of_length_le (by omega)], by omega, h4, h5⟩
theorem PQ.set {b m t : Nat} {h : PHeap} {v : PV} {cs : List PV} (a : PQ b h v m cs) (ht : t < b) (ds : List PV) : PQ b (h.set t ds) v m cs := by
  rcases a with a | ⟨s, off, cap, row, rfl, h1, h2, h3, h4, h5, h6⟩
  · exact .inl a
  · exact .inr ⟨s, off, cap, row, rfl, h1, by rw [pobj_set, if_neg (by omega)]; exact h2, h3, h4, h5, h6⟩
theorem PQ.pLen {b m : Nat} {h : PHeap} {v : PV} {cs : List PV} (a : PQ b h v m cs) : pLen v = some (.int .i64 m) := by
  rcases a with ⟨rfl, rfl, _⟩ | ⟨s, off, cap, row, rfl, _⟩ <;> rfl
theorem PQ.uncons {b m : Nat} {h : PHeap} {v c : PV} {cs : List PV} (a : PQ b h v m (c :: cs)) : ∃ s off cap v', v = .sl s off m cap ∧ h.rd1 s off = some c ∧ 0 < m ∧ pslice 1 v (some (.int .i64 1)) none none = some v' ∧ PQ b h v' (m - 1) cs := by
  rcases a with ⟨_, _, e⟩ | ⟨s, off, cap, row, rfl, h1, h2, h3, h4, h5, h6⟩
  · cases e
  · have hm : 0 < m := by
      rcases Nat.eq_zero_or_pos m with x | x
      · subst x; cases h3
      · exact x
    have e2 : row.drop off = c :: row.drop (off + 1) := by
      have hlt : off < row.length := by omega
      rw [List.drop_eq_getElem_cons hlt] at h3 ⊢
      obtain ⟨m', rfl⟩ : ∃ m', m = m' + 1 := ⟨m - 1, by omega⟩
      rw [List.take_succ_cons] at h3
      cases h3; rfl
    have e3 : (row.drop (off + 1)).take (m - 1) = cs := by
      rw [e2] at h3
      obtain ⟨m', rfl⟩ : ∃ m', m = m' + 1 := ⟨m - 1, by omega⟩
      rw [List.take_succ_cons] at h3
      cases h3; rfl
    have e4 : row[off]? = some c := by
      have hlt : off < row.length := by omega
      rw [List.drop_eq_getElem_cons hlt] at e2
      rw [List.getElem?_eq_getElem hlt]
      cases e2; rfl
    have hz : (1 : Int) ≤ (m : Int) := by omega
    rcases h1 with rfl | rfl
    · refine ⟨s, off, _, .sl s (off + 1) (m - 1) (.grown 1), rfl, by rw [obj_rd1 h2]; exact e4, hm, ?_, .inr ⟨s, off + 1, _, row, rfl, .inl rfl, h2, e3, by omega, h5, h6⟩⟩
      simp only [pwA, if_true, if_false, eq_self, nm_eq, reduceCtorEq, ↓reduceIte, Nat.reduceEqDiff, Nat.reduceLeDiff, Nat.reduceBEq, Nat.reduceAdd, Nat.reduceLT, Nat.reduceSub, Nat.reduceMul, Int.reduceEq, Int.reduceLT, Int.reduceLE, Int.reduceNeg, Int.reduceToNat, List.reduceReplicate, Int.ofNat_le, List.getElem?_drop, hm, hz]
    · by_cases h10 : m = 1
      · subst h10
        refine ⟨s, off, _, .sl s off 0 (.known 0), rfl, by rw [obj_rd1 h2]; exact e4, hm, ?_, .inr ⟨s, off, _, row, rfl, .inr rfl, h2, by simpa using e3, by omega, h5, h6⟩⟩
        rfl
      · refine ⟨s, off, _, .sl s (off + 1) (m - 1) (.known (m - 1)), rfl, by rw [obj_rd1 h2]; exact e4, hm, ?_, .inr ⟨s, off + 1, _, row, rfl, .inr rfl, h2, e3, by omega, h5, h6⟩⟩
        simp only [pwA, if_true, if_false, eq_self, nm_eq, reduceCtorEq, ↓reduceIte, Nat.reduceEqDiff, Nat.reduceLeDiff, Nat.reduceBEq, Nat.reduceAdd, Nat.reduceLT, Nat.reduceSub, Nat.reduceMul, Int.reduceEq, Int.reduceLT, Int.reduceLE, Int.reduceNeg, Int.reduceToNat, List.reduceReplicate, Int.ofNat_le, List.getElem?_drop, hm, hz, h10]
        rfl
theorem PQ.push {σb h : PHeap} {bytes m : Nat} {v x : PV} {cs : List PV} {K : PV × PHeap → Prop} (hk : Keep σb h) (a : PQ σb.next h v m cs)
    (h1 : (m + 1) * bytes ≤ 140737488355328) (h2 : m + 1 ≤ 4611686018427387904) (k : ∀ v' h', Keep σb h' → PQ σb.next h' v' (m + 1) (cs ++ [x]) → K (v', h')) : optK (pappend 1 bytes (h.new [x]) v (.sl h.next 0 1 (.known 1))) K := by
  rcases a with ⟨rfl, rfl, rfl⟩ | ⟨s, off, cap, row, rfl, q1, q2, q3, q4, q5, q6⟩
  · exact PAcc.push hk (PAcc.nil _ _ _) h1 h2 fun v' h' k1 k2 => k v' h' k1 (.of k2.acc)
  · rw [pappend_eq]
    have hp : pfirst 1 (h.new [x]) (.sl h.next 0 1 (.known 1)) 1 = some [x] := by simp [pfirst_sl, prd_new]
    have hobj : (h.new [x]).obj s = some row := by simp only [PHeap.new]; rw [if_neg (by omega)]; exact q2
    have hn := hk.next
    simp only [plen, Option.bind_some]
    rw [if_neg (by omega), hp]
    simp only [Option.bind_some]
    have hl : cs.length = m := by rw [← q3, List.length_take, List.length_drop]; omega
    rcases q1 with rfl | rfl
    · rw [pgrow_grown, if_pos ⟨h1, h2, rfl⟩, hobj]
      simp only [Option.bind_some]
      rw [if_pos (by omega), Nat.mul_one, q3]
      refine optK_of rfl (k _ _ (((hk.new _).kill (by omega)).new _) (.inr ⟨(h.new [x]).next, 0, _, cs ++ [x], rfl, .inl rfl, by simp [PHeap.new, PHeap.kill], ?_, by simp [hl], by simp [PHeap.new]; omega, by simp [PHeap.new, PHeap.kill]⟩))
      rw [List.drop_zero, List.take_of_length_le (by simp [hl])]
    · rw [pgrow_known, if_neg (by omega), if_pos ⟨h1, h2⟩, obj_rd hobj, if_pos (by omega), Nat.mul_one, q3]
      simp only [Option.map_some]
      refine optK_of rfl (k _ _ ((hk.new _).new _) (.inr ⟨(h.new [x]).next, 0, _, cs ++ [x], rfl, .inl rfl, by simp [PHeap.new], ?_, by simp [hl], by simp [PHeap.new]; omega, by simp [PHeap.new]⟩))
      rw [List.drop_zero, List.take_of_length_le (by simp [hl])]
theorem CloneL_ok {w : Bool} {a : AV} {m : Nat} {rows : List PV} (hl : rows.length = m) (hb : Bels 0 rows) (hm : m ≤ 1048576) (hk0 : rows = [] → K (.fz true .nils 0 []) σ) (hk1 : ∀ cap, full 1 cap m → K (.sl σ.next 0 m cap) (σ.new rows)) :
    PCalls Try.prog 161 [.fz w a m rows] σ K := by
  refine PCalls.nil0 fun hnil => PCalls.gh ?_
  refine pcalls_of_vp mix Try.func161 cf161 rfl ?_
  dsimp only [if161, qI, eI, nI, qD, eD]
  simp only [pwA, if_true, if_false, eq_self, nm_eq, reduceCtorEq, ↓reduceIte, Nat.reduceEqDiff, Nat.reduceLeDiff, Nat.reduceBEq, Nat.reduceAdd, Nat.reduceLT, Nat.reduceSub, Nat.reduceMul, Int.reduceEq, Int.reduceLT, Int.reduceLE, Int.reduceNeg, Int.reduceToNat, List.reduceReplicate, Int.ofNat_le, List.getElem?_drop]
  cases hn : isNils a
  · simp only [pwA, if_true, if_false, eq_self, nm_eq, reduceCtorEq, ↓reduceIte, Nat.reduceEqDiff, Nat.reduceLeDiff, Nat.reduceBEq, Nat.reduceAdd, Nat.reduceLT, Nat.reduceSub, Nat.reduceMul, Int.reduceEq, Int.reduceLT, Int.reduceLE, Int.reduceNeg, Int.reduceToNat, List.reduceReplicate, Int.ofNat_le, List.getElem?_drop]
    refine PSl.cat (bytes := 24) (σb := σ) (n := 0) (cs := []) (keep_new σ _) (PSl.new _ 1 rfl (Nat.le_refl _)) hl (by omega) (by omega) fun v' h' hk' ha => ?_
    simp only [pwA, if_true, if_false, eq_self, nm_eq, reduceCtorEq, ↓reduceIte, Nat.reduceEqDiff, Nat.reduceLeDiff, Nat.reduceBEq, Nat.reduceAdd, Nat.reduceLT, Nat.reduceSub, Nat.reduceMul, Int.reduceEq, Int.reduceLT, Int.reduceLE, Int.reduceNeg, Int.reduceToNat, List.reduceReplicate, Int.ofNat_le, List.getElem?_drop] at ha ⊢
    exact ha.out hk' (hb.up (Nat.zero_le _)) hk1
  · simp only [pwA, if_true, if_false, eq_self, nm_eq, reduceCtorEq, ↓reduceIte, Nat.reduceEqDiff, Nat.reduceLeDiff, Nat.reduceBEq, Nat.reduceAdd, Nat.reduceLT, Nat.reduceSub, Nat.reduceMul, Int.reduceEq, Int.reduceLT, Int.reduceLE, Int.reduceNeg, Int.reduceToNat, List.reduceReplicate, Int.ofNat_le, List.getElem?_drop]
    exact Gh.ret (hk0 (hnil hn).2)
theorem CloneL_q {w : Bool} {a : AV} {m : Nat} {rows : List PV} (hl : rows.length = m) (hb : Bels 0 rows) (hm : m ≤ 1048576) (hk : ∀ v h', Keep σ h' → PQ σ.next h' v m rows → K v h') :
    PCalls Try.prog 161 [.fz w a m rows] σ K :=
  CloneL_ok hl hb hm (fun h0 => hk _ _ (Keep.refl _) (.inl ⟨rfl, by rw [← hl, h0]; rfl, h0⟩)) fun cap hc => hk _ _ (keep_new _ _) (.of (.inr (PSl.own hc (by simp [PHeap.new]) (by omega) (Nat.le_refl _) (by simp [PHeap.new]))))
end Go.Proofs
set_option linter.unusedVariables false
set_option linter.unusedSimpArgs false
set_option linter.unusedSectionVars false
namespace Go.Grp
open Go.Ab Go.Lie
variable {O : List Int} {P : List (List Int)} {C : List (List (List Int))} {x y z a b c g : List Int} {D : List (Option (List Int))} {t i k d : Nat} {N : List Int → Prop}
theorem tt_dep (hx : gS O x) : TT O (dep x) x := ⟨hx.len, hx.bd, fun j hj => dep_zero hj⟩
theorem dep_ge (hx : TT O t x) (ht : t ≤ O.length) : t ≤ dep x := by
  rcases Nat.lt_or_ge (dep x) t with h | h
  · have hl := hx.len
    exact absurd (hx.zero _ h) (dep_ne (by omega))
  · exact h
theorem dep_zv (hx : gS O x) (h : O.length ≤ dep x) : x = zv O := by
  refine ext_at (by rw [hx.len]; simp) fun j hj => ?_
  rw [at_rep]
  exact dep_zero (by have := hx.len; omega)
theorem zv_dep (s : Shp O P C) : dep (zv O) = O.length := by
  have h1 := dep_ge (t := O.length) (s.zv _) (Nat.le_refl _)
  have h2 := dep_le (zv O)
  rw [(s.zv 0).len] at h2
  omega
theorem dep_ne_zv (s : Shp O P C) (h : dep x < O.length) : x ≠ zv O := fun e => by
  rw [e, zv_dep s] at h; omega
theorem addm_mod {o a b : Int} (ha : 0 ≤ a ∧ a < o) (hb : 0 ≤ b ∧ b < o) : addm o a b = (a + b) % o := by
  unfold addm
  split
  · have : (a + b) % o = (a + b - o) % o := by rw [Int.sub_emod_right]
    rw [this, Int.emod_eq_of_lt (by omega) (by omega)]
  · rw [Int.emod_eq_of_lt (by omega) (by omega)]
section
variable (s : Shp O P C) (F : Full O P C O.length) (hC : Cent O C)
include s F hC
theorem pw_deep (ht : t < O.length) (hx : TT O t x) : ∀ k : Nat, TT O t (pw (gm O P C) (zv O) x k) ∧ at_ (pw (gm O P C) (zv O) x k) t = ((k : Int) * at_ x t) % at_ O t
  | 0 => ⟨s.zv _, by show at_ (zv O) t = _; rw [at_rep]; simp⟩
  | k + 1 => by
    obtain ⟨h1, h2⟩ := pw_deep ht hx k
    have hN := tt_nsub s F hC (Nat.le_of_lt ht)
    have hO := s.pr t ht
    obtain ⟨_, g2⟩ := mu_right s (d := O.length) (b := pw (gm O P C) (zv O) x k) (a := x) (t := t) (Nat.le_refl _) (by omega) ht (by rw [Nat.sub_self]; exact h1.mono (Nat.zero_le _)) hx
    refine ⟨hN.cl h1 hx, ?_⟩
    show at_ (mu O P C O.length (pw (gm O P C) (zv O) x k) x) t = _
    rw [g2, addm_mod (h1.bd t ht) (hx.bd t ht), h2, Int.emod_add_emod]
    congr 1
    grind
theorem sift_step (ht : t < O.length) (hx : TT O t x) (hb : TT O t b) (hb1 : at_ b t = 1) : TT O (t + 1) (gm O P C (pw (gm O P C) (zv O) b (at_ O t - at_ x t).toNat) x) := by
  obtain ⟨h1, h2⟩ := pw_deep s F hC ht hb (at_ O t - at_ x t).toNat
  have hN := tt_nsub s F hC (Nat.le_of_lt ht)
  have bx := hx.bd t ht
  obtain ⟨_, g2⟩ := mu_right s (d := O.length) (b := pw (gm O P C) (zv O) b (at_ O t - at_ x t).toNat) (a := x) (t := t) (Nat.le_refl _) (by omega) ht (by rw [Nat.sub_self]; exact h1.mono (Nat.zero_le _)) hx
  have h0 := hN.cl h1 hx
  have hz : at_ (gm O P C (pw (gm O P C) (zv O) b (at_ O t - at_ x t).toNat) x) t = 0 := by
    show at_ (mu O P C O.length _ _) t = 0
    rw [g2, addm_mod (h1.bd t ht) bx, h2, hb1, Int.mul_one, Int.emod_add_emod, Int.toNat_of_nonneg (by omega), show at_ O t - at_ x t + at_ x t = at_ O t by omega, Int.emod_self]
  refine ⟨h0.len, h0.bd, fun j hj => ?_⟩
  rcases Nat.lt_or_ge j t with h | h
  · exact h0.zero j h
  · rw [show j = t by omega]; exact hz
/-- A factor behind whose first entry is 1. -/
theorem rep_step (ht : t < O.length) (hx : gS O x) (hb : TT O t b) (hb1 : at_ b t = 1) : gS O (gm O P C x b) ∧ Upto O t (gm O P C x b) x ∧ at_ (gm O P C x b) t = (at_ x t + 1) % at_ O t := by
  obtain ⟨g1, g2⟩ := mu_right s (d := O.length) (b := x) (a := b) (t := t) (Nat.le_refl _) (by omega) ht (by rw [Nat.sub_self]; exact hx) hb
  refine ⟨F.g.cl hx (hb.mono (Nat.zero_le _)), g1, ?_⟩
  show at_ (mu O P C O.length x b) t = _
  rw [g2, addm_mod (hx.bd t ht) (hb.bd t ht), hb1]
end
theorem NSub.pw (hN : gN O P C N) (h : N x) : ∀ k : Nat, N (Grp.pw (gm O P C) (zv O) x k)
  | 0 => hN.one
  | k + 1 => hN.cl (NSub.pw hN h k) h
theorem NSub.quot (F : Full O P C O.length) (hN : gN O P C N) (ha : N a) (hx : gS O x) (h : N (gm O P C a x)) : N x := by
  have G := F.g
  have h1 := hN.cl (hN.inv ha) h
  have e : gm O P C (ginv (gS O) (gm O P C) (zv O) a) (gm O P C a x) = x := by rw [← G.as (hN.inS (hN.inv ha)) (hN.inS ha) hx, G.inv_l (hN.inS ha), G.l1 hx]
  rwa [e] at h1
theorem NSub.quotR (F : Full O P C O.length) (hN : gN O P C N) (ha : N a) (hx : gS O x) (h : N (gm O P C x a)) : N x := by
  have G := F.g
  have h1 := hN.cl h (hN.inv ha)
  have e : gm O P C (gm O P C x a) (ginv (gS O) (gm O P C) (zv O) a) = x := by rw [G.as hx (hN.inS ha) (hN.inS (hN.inv ha)), G.inv_r (hN.inS ha), G.r1 hx]
  rwa [e] at h1
theorem NSub.com_inR {α : Type} [Inhabited α] {S : α → Prop} {m : α → α → α} {e x y : α} (G : Gp S m e) {N : α → Prop} (hN : NSub S m e N) (hx : S x) (hy : N y) : N (com S m e x y) := by
  have h1 := hN.inv hy
  have e1 : com S m e x y = m (cnj S m e (ginv S m e y) x) y := by
    unfold com cnj
    rw [G.as (G.inv_in hx).1 (G.cl (hN.inS h1) hx) (hN.inS hy), G.as (hN.inS h1) hx (hN.inS hy)]
  rw [e1]
  exact hN.cl (hN.nor h1 hx) hy
/-- What lies at the depths. -/
structure OkD (O : List Int) (D : List (Option (List Int))) : Prop where
  len : D.length = O.length
  row : ∀ (d : Nat) (y : List Int), D[d]? = some (some y) → TT O d y ∧ at_ y d = 1
def InD (N : List Int → Prop) (D : List (Option (List Int))) : Prop := ∀ (d : Nat) (y : List Int), D[d]? = some (some y) → N y
/-- How many depths are free. -/
def free : List (Option (List Int)) → Nat
  | [] => 0
  | none :: D => free D + 1
  | some _ :: D => free D
theorem free_le : ∀ D, free D ≤ D.length
  | [] => Nat.le_refl _
  | none :: D => by have := free_le D; simp only [free, List.length_cons]; omega
  | some _ :: D => by have := free_le D; simp only [free, List.length_cons]; omega
theorem free_put {y : List Int} : ∀ {D : List (Option (List Int))} {d : Nat}, D[d]? = some none → free (D.set d (some y)) + 1 = free D
  | [], d, h => by simp at h
  | v :: D, 0, h => by
    simp only [List.getElem?_cons_zero, Option.some.injEq] at h
    subst h; rfl
  | v :: D, d + 1, h => by
    have := free_put (y := y) (D := D) (d := d) (by simpa using h)
    cases v <;> simp only [List.set_cons_succ, free] <;> omega
theorem OkD.put (h : OkD O D) (hd : d < O.length) (hy : TT O d y) (h1 : at_ y d = 1) : OkD O (D.set d (some y)) := by
  refine ⟨by rw [List.length_set]; exact h.len, fun e v hv => ?_⟩
  rw [List.getElem?_set] at hv
  split at hv
  · rename_i he; subst he
    split at hv
    · cases hv; exact ⟨hy, h1⟩
    · cases hv
  · exact h.row e v hv
theorem InD.put (hd : D[d]? = some none) : InD N (D.set d (some y)) ↔ InD N D ∧ N y := by
  have hl : d < D.length := by
    rcases Nat.lt_or_ge d D.length with h | h
    · exact h
    · rw [List.getElem?_eq_none h] at hd; cases hd
  constructor
  · intro h
    refine ⟨fun e v hv => h e v ?_, h d y ?_⟩
    · rw [List.getElem?_set, if_neg fun he => by subst he; rw [hd] at hv; cases hv]; exact hv
    · rw [List.getElem?_set, if_pos rfl, if_pos hl]
  · rintro ⟨h1, h2⟩ e v hv
    rw [List.getElem?_set] at hv
    split at hv
    · rename_i he; subst he
      first
      | (cases hv; exact h2)
      | (split at hv
         · cases hv; exact h2
         · cases hv)
    · exact h1 e v hv
theorem OkD.start (n : Nat) (hn : n = O.length) : OkD O (List.replicate n none) := ⟨by simp [hn], fun d y h => by
  rw [List.getElem?_replicate] at h
  split at h <;> cases h⟩
theorem InD.start (n : Nat) : InD N (List.replicate n none) := fun d y h => by
  rw [List.getElem?_replicate] at h
  split at h <;> cases h
/-- A queue and what lies at the depths hold the same as others. -/
def SameD (O : List Int) (P : List (List Int)) (C : List (List (List Int))) (D D0 : List (Option (List Int))) (Q L : List (List Int)) : Prop := ∀ N, gN O P C N → ((InD N D ∧ ∀ q ∈ Q, N q) ↔ (InD N D0 ∧ ∀ q ∈ L, N q))
end Go.Grp
set_option linter.unusedSimpArgs false
set_option linter.unusedVariables false
namespace Go.Proofs
open Go.Ab Go.Lie Go.Grp
variable {σ : PHeap} {K : PV → PHeap → Prop} {O : List Int} {P : List (List Int)} {C : List (List (List Int))} {vO vP vC vx vy vL va vb : PV} {x y f a b : List Int} {L : List (List Int)} {rP rC rb : List PV} {D : List (Option (List Int))} {d j sp ss sb n : Nat}
/-- The slots of a sequence. -/
structure SeqG (σ : PHeap) (ss sb sp : Nat) (n : Nat) (rb : List PV) (vO vP vC : PV) : Prop where
  obj : σ.obj ss = some [.ptr sp 0, .sl sb 0 n (.known n)]
  lt : ss < σ.next
  bobj : σ.obj sb = some rb
  blt : sb < σ.next
  pg : PtrG σ sp vO vP vC
  ne1 : ss ≠ sb
  ne2 : sp ≠ sb
theorem SeqG.keep {h : PHeap} (q : SeqG σ ss sb sp n rb vO vP vC) (hk : Keep σ h) : SeqG h ss sb sp n rb vO vP vC :=
  ⟨by rw [hk.obj _ q.lt]; exact q.obj, Nat.lt_of_lt_of_le q.lt hk.next, by rw [hk.obj _ q.blt]; exact q.bobj, Nat.lt_of_lt_of_le q.blt hk.next, q.pg.keep hk, q.ne1, q.ne2⟩
theorem SeqG.setB (q : SeqG σ ss sb sp n rb vO vP vC) (rb' : List PV) : SeqG (σ.set sb rb') ss sb sp n rb' vO vP vC :=
  ⟨by rw [pobj_set, if_neg q.ne1]; exact q.obj, q.lt, by rw [pobj_set, if_pos rfl], q.blt, q.pg.set q.ne2 _, q.ne1, q.ne2⟩
/-- What lies at a depth: nothing, or a row. -/
def DRow (n : Nat) (c : PV) (r : Option (List Int)) : Prop := (c = .fz true .nils 0 [] ∧ r = none) ∨ ∃ o cap y, c = .fz true (.sl o 0 n cap) n (pis y) ∧ r = some y
theorem DRow.bel {c : PV} {r : Option (List Int)} (h : DRow n c r) : Bel 0 c := by
  rcases h with ⟨rfl, _⟩ | ⟨_, _, _, rfl, _⟩ <;> trivial
theorem DRow.bels {rb : List PV} {D : List (Option (List Int))} (h : All2 (DRow n) rb D) (m : Nat) : Bels m rb := by
  refine Bels_iff.2 fun c hc => ?_
  obtain ⟨k, hk, rfl⟩ := List.mem_iff_getElem.1 hc
  exact (DRow.bel (h.2 k _ _ (List.getElem?_eq_getElem hk) (List.getElem?_eq_getElem (by rw [← h.1]; exact hk)))).up (Nat.zero_le _)
theorem DRow.get {rb : List PV} {D : List (Option (List Int))} (h : All2 (DRow n) rb D) {d : Nat} (hd : d < D.length) : (rb[d]? = some (.fz true .nils 0 []) ∧ D[d]? = some none) ∨ ∃ o cap y, rb[d]? = some (.fz true (.sl o 0 n cap) n (pis y)) ∧ D[d]? = some (some y) := by
  have hb : d < rb.length := by rw [h.1]; exact hd
  rw [List.getElem?_eq_getElem hb, List.getElem?_eq_getElem hd]
  rcases h.2 d _ _ (List.getElem?_eq_getElem hb) (List.getElem?_eq_getElem hd) with ⟨e1, e2⟩ | ⟨o, cap, y, e1, e2⟩
  · exact .inl ⟨by rw [e1], by rw [e2]⟩
  · exact .inr ⟨o, cap, y, by rw [e1], by rw [e2]⟩
theorem DRow.put {rb : List PV} {D : List (Option (List Int))} (h : All2 (DRow n) rb D) {o d : Nat} {cap : Cap} : All2 (DRow n) (rb.set d (.fz true (.sl o 0 n cap) n (pis y))) (D.set d (some y)) := by
  refine ⟨by rw [List.length_set, List.length_set]; exact h.1, fun k c r hc hr => ?_⟩
  rw [List.getElem?_set] at hc hr
  by_cases e : d = k
  · rw [if_pos e] at hc hr
    split at hc
    · split at hr
      · cases hc; cases hr; exact .inr ⟨o, cap, y, rfl, rfl⟩
      · cases hr
    · cases hc
  · rw [if_neg e] at hc hr
    exact h.2 k c r hc hr
theorem power_sl (s : Shp O P C) (F : Full O P C O.length) (hn : 0 < O.length) (hs : PtrG σ sp vO vP vC) (hR : IsPr vO vP vC O P C) (ha : gS O a) (hva : FI va a) {k : Int} (hk0 : 0 ≤ k ∧ k ≤ 1000000) (hk : ∀ o cap, K (.fz true (.sl o 0 O.length cap) O.length (pis (Grp.pw (gm O P C) (zv O) a k.toNat))) σ) :
    PCalls Try.prog 181 [.ptr sp 0, va, .int .i64 k] σ K := by
  have hlen := (F.g.pw ha k.toNat).len
  refine PCalls.gh (power_ok s F hs hR (by rw [Nat.sub_self]; exact ha) hva hk0 ⟨fun h0 => ?_, fun cap hc => ?_⟩)
  · rw [h0] at hlen; simp at hlen; omega
  · rw [hlen] at hc ⊢
    exact Gh.finF (keep_new σ _) (by simp [PHeap.new]) (Nat.le_refl _) (pis_bel _ _) hc.ok fun o => hk o cap
theorem sift_ok (s : Shp O P C) (F : Full O P C O.length) (hC : Cent O C) (hq : SeqG σ ss sb sp O.length rb vO vP vC) (hR : IsPr vO vP vC O P C) (hD : OkD O D) (hrb : All2 (DRow O.length) rb D) (hx : gS O x) (hvx : FI vx x)
    (hk : ∀ v z, FI v z → gS O z → (dep z < O.length → D[dep z]? = some none) → (∀ N, gN O P C N → InD N D → (N x ↔ N z)) → K v σ) : PCalls Try.prog 215 [.ptr ss 0, vx] σ K := by
  have hn6 := s.le
  obtain ⟨wx, ax, rfl⟩ := hvx
  have hxl := hx.len
  have r0 : σ.rd1 ss 0 = some (.ptr sp 0) := by rw [obj_rd1 hq.obj]; rfl
  have r1 : σ.rd1 ss 1 = some (.sl sb 0 O.length (.known O.length)) := by rw [obj_rd1 hq.obj]; rfl
  have hR0 := hR
  obtain ⟨⟨w0, a0, rfl⟩, _, _⟩ := hR
  have e0 : σ.rd1 sp 0 = some (.fz w0 a0 O.length (pis O)) := by rw [obj_rd1 hq.pg.obj]; rfl
  refine pcalls_of_vp mix Try.func215 cf215 rfl ?_
  dsimp only [if215, qI, eI, nI, qD, eD]
  simp only [pwA, if_true, if_false, eq_self, nm_eq, reduceCtorEq, ↓reduceIte, Nat.reduceEqDiff, Nat.reduceLeDiff, Nat.reduceBEq, Nat.reduceAdd, Nat.reduceLT, Nat.reduceSub, Nat.reduceMul, Int.reduceEq, Int.reduceLT, Int.reduceLE, Int.reduceNeg, Int.reduceToNat, List.reduceReplicate, Int.ofNat_le, List.getElem?_drop]
  refine depthOf_ok rfl (by omega) ?_
  simp only [pwA, if_true, if_false, eq_self, nm_eq, reduceCtorEq, ↓reduceIte, Nat.reduceEqDiff, Nat.reduceLeDiff, Nat.reduceBEq, Nat.reduceAdd, Nat.reduceLT, Nat.reduceSub, Nat.reduceMul, Int.reduceEq, Int.reduceLT, Int.reduceLE, Int.reduceNeg, Int.reduceToNat, List.reduceReplicate, Int.ofNat_le, List.getElem?_drop]
  refine vp_loop (fun m vs h' => ∃ z w a, m = O.length - dep z ∧ vs = [.ptr ss 0, .fz w a O.length (pis z), .int .i64 (dep z)] ∧ σ = h' ∧ gS O z ∧ (∀ N, gN O P C N → InD N D → (N x ↔ N z))) _ ⟨x, wx, ax, rfl, by rw [hxl]; rfl, rfl, hx, fun _ _ _ => Iff.rfl⟩ ?_
  rintro m vs h' ⟨z, w, a, rfl, rfl, rfl, hz, hN⟩
  have hzl := hz.len
  by_cases hd : dep z < O.length
  · have hrd := obj_rd1 hq.bobj (dep z)
    have hdz : dep z < z.length := by omega
    have bz := hz.bd _ hd
    have bO := s.pr _ hd
    rw [at_eq hdz] at bz
    rw [at_eq hd] at bz bO
    rcases DRow.get hrb (d := dep z) (by rw [hD.len]; exact hd) with ⟨e1, e2⟩ | ⟨o, cap, y, e1, e2⟩
    · rw [e1] at hrd
      simp only [pwA, if_true, if_false, eq_self, nm_eq, reduceCtorEq, ↓reduceIte, Nat.reduceEqDiff, Nat.reduceLeDiff, Nat.reduceBEq, Nat.reduceAdd, Nat.reduceLT, Nat.reduceSub, Nat.reduceMul, Int.reduceEq, Int.reduceLT, Int.reduceLE, Int.reduceNeg, Int.reduceToNat, List.reduceReplicate, Int.ofNat_le, List.getElem?_drop, hd, r1, hrd]
      exact hk _ z ⟨w, a, by rw [hzl]⟩ hz (fun _ => e2) hN
    · rw [e1] at hrd
      obtain ⟨y1, y2⟩ := hD.row _ _ e2
      have ew : IntKind.i64.wrap (O[dep z] - z[dep z]) = O[dep z] - z[dep z] := wrap64 (by omega) (by omega)
      simp only [pwA, if_true, if_false, eq_self, nm_eq, reduceCtorEq, ↓reduceIte, Nat.reduceEqDiff, Nat.reduceLeDiff, Nat.reduceBEq, Nat.reduceAdd, Nat.reduceLT, Nat.reduceSub, Nat.reduceMul, Int.reduceEq, Int.reduceLT, Int.reduceLE, Int.reduceNeg, Int.reduceToNat, List.reduceReplicate, Int.ofNat_le, List.getElem?_drop, hd, r0, r1, hrd, e0, pis_get, gi hd, gi hdz, ew]
      refine power_fz s F hq.pg hR0 (by rw [Nat.sub_self]; exact y1.mono (Nat.zero_le _)) ⟨true, _, by rw [y1.len]⟩ (by omega) fun v1 f1 => ?_
      simp only [pwA, if_true, if_false, eq_self, nm_eq, reduceCtorEq, ↓reduceIte, Nat.reduceEqDiff, Nat.reduceLeDiff, Nat.reduceBEq, Nat.reduceAdd, Nat.reduceLT, Nat.reduceSub, Nat.reduceMul, Int.reduceEq, Int.reduceLT, Int.reduceLE, Int.reduceNeg, Int.reduceToNat, List.reduceReplicate, Int.ofNat_le, List.getElem?_drop, hd, r0, r1, hrd, e0]
      have g1 : gS O (Grp.pw (gm O P C) (zv O) y (O[dep z] - z[dep z]).toNat) := F.g.pw (y1.mono (Nat.zero_le _)) _
      refine multiply_fz s F hq.pg hR0 (by rw [Nat.sub_self]; exact g1) (by rw [Nat.sub_self]; exact hz) f1 ⟨w, a, by rw [hzl]⟩ fun v2 f2 => ?_
      have hst := sift_step s F hC hd (tt_dep hz) y1 y2
      rw [at_eq hd, at_eq hdz] at hst
      have hz2 : gS O (mu O P C O.length (Grp.pw (mu O P C O.length) (zv O) y (O[dep z] - z[dep z]).toNat) z) := F.g.cl g1 hz
      have hN2 : ∀ N, gN O P C N → InD N D → (N x ↔ N (mu O P C O.length (Grp.pw (mu O P C O.length) (zv O) y (O[dep z] - z[dep z]).toNat) z)) := fun N h1 h2 => (hN N h1 h2).trans ⟨fun h => h1.cl (NSub.pw h1 (h2 _ _ e2) _) h, fun h => NSub.quot F h1 (NSub.pw h1 (h2 _ _ e2) _) hz h⟩
      have hst2 : TT O (dep z + 1) (mu O P C O.length (Grp.pw (mu O P C O.length) (zv O) y (O[dep z] - z[dep z]).toNat) z) := hst
      generalize mu O P C O.length (Grp.pw (mu O P C O.length) (zv O) y (O[dep z] - z[dep z]).toNat) z = z' at *
      have hge := dep_ge hst2 (by omega)
      have hl' := hz2.len
      have h0 : z'[dep z]'(by omega) = 0 := by
        have := hst2.zero (dep z) (Nat.lt_succ_self _)
        rwa [at_eq (by omega)] at this
      obtain ⟨w2, a2, rfl⟩ := f2
      simp only [pwA, if_true, if_false, eq_self, nm_eq, reduceCtorEq, ↓reduceIte, Nat.reduceEqDiff, Nat.reduceLeDiff, Nat.reduceBEq, Nat.reduceAdd, Nat.reduceLT, Nat.reduceSub, Nat.reduceMul, Int.reduceEq, Int.reduceLT, Int.reduceLE, Int.reduceNeg, Int.reduceToNat, List.reduceReplicate, Int.ofNat_le, List.getElem?_drop, hl', hd, pis_get, gi (show dep z < z'.length by omega), h0]
      refine depthOf_ok hl'.symm (by omega) ?_
      simp only [pwA, if_true, if_false, eq_self, nm_eq, reduceCtorEq, ↓reduceIte, Nat.reduceEqDiff, Nat.reduceLeDiff, Nat.reduceBEq, Nat.reduceAdd, Nat.reduceLT, Nat.reduceSub, Nat.reduceMul, Int.reduceEq, Int.reduceLT, Int.reduceLE, Int.reduceNeg, Int.reduceToNat, List.reduceReplicate, Int.ofNat_le, List.getElem?_drop]
      exact ⟨_, by omega, z', w2, a2, rfl, rfl, hz2, hN2⟩
  · have hdn : dep z = O.length := by have := dep_le z; omega
    simp only [pwA, if_true, if_false, eq_self, nm_eq, reduceCtorEq, ↓reduceIte, Nat.reduceEqDiff, Nat.reduceLeDiff, Nat.reduceBEq, Nat.reduceAdd, Nat.reduceLT, Nat.reduceSub, Nat.reduceMul, Int.reduceEq, Int.reduceLT, Int.reduceLE, Int.reduceNeg, Int.reduceToNat, List.reduceReplicate, Int.ofNat_le, List.getElem?_drop, hdn, Nat.lt_irrefl]
    exact hk _ z ⟨w, a, by rw [hzl]⟩ hz (fun h => by omega) hN
end Go.Proofs
set_option linter.unusedSimpArgs false
set_option linter.unusedVariables false
namespace Go.Proofs
open Go.Ab Go.Lie Go.Grp
variable {σ : PHeap} {K : PV → PHeap → Prop} {O : List Int} {P : List (List Int)} {C : List (List (List Int))} {vO vP vC vx vy vL : PV} {x y f a b : List Int} {L : List (List Int)} {rP rC rb : List PV} {D : List (Option (List Int))} {d j sp ss sb n : Nat}
theorem Keep.self {rb : List PV} {h : PHeap} (hb : σ.obj sb = some rb) (k : Keep σ h) : Keep (σ.set sb rb) h := ⟨k.next, k.top, fun t ht => by
  rw [k.obj t ht, pobj_set]
  split
  · rename_i e; rw [e]; exact hb
  · rfl⟩
theorem Gh.finB {σ0 σ1 : PHeap} {rb : List PV} {v : PV} (hsb : sb < σ0.next) (hk : Keep (σ0.set sb rb) σ1) (hb : Bels 0 rb) (hv : Bel σ0.next v) (k : K v (σ0.set sb rb)) : Gh σ0 K v σ1 := fun w =>
  Gh.cut (σ2 := σ0.set sb rb) rfl hk.top (fun t cs ht => by
    have hlt : t < σ0.next := by
      rw [pobj_set] at ht
      split at ht
      · rename_i e; rw [e]; exact hsb
      · exact w.lt ht
    refine ⟨hlt, by rw [hk.obj t hlt]; exact ht, ?_⟩
    rw [pobj_set] at ht
    split at ht
    · cases ht; exact .inr (hb.up (Nat.zero_le _))
    · exact .inl ht) hv k w
theorem commutator_fz (s : Shp O P C) (F : Full O P C O.length) (hs : PtrG σ sp vO vP vC) (hR : IsPr vO vP vC O P C) (hx : gS O x) (hy : gS O y) (hvx : FI vx x) (hvy : FI vy y) (hk : ∀ v, FI v (gcom O P C x y) → K v σ) :
    PCalls Try.prog 121 [.ptr sp 0, vx, vy] σ K := by
  have G := F.g
  have up : ∀ {z : List Int}, gS O z → TT O (O.length - O.length) z := fun h => by rw [Nat.sub_self]; exact h
  have dn : ∀ {z : List Int}, TT O (O.length - O.length) z → gS O z := fun h => by rw [Nat.sub_self] at h; exact h
  refine pcalls_of_vp mix Try.func121 cf121 rfl ?_
  dsimp only [if121, qI, eI, nI, qD, eD]
  simp only [pwA, if_true, if_false, eq_self, nm_eq, reduceCtorEq, ↓reduceIte, Nat.reduceEqDiff, Nat.reduceLeDiff, Nat.reduceBEq, Nat.reduceAdd, Nat.reduceLT, Nat.reduceSub, Nat.reduceMul, Int.reduceEq, Int.reduceLT, Int.reduceLE, Int.reduceNeg, Int.reduceToNat, List.reduceReplicate, Int.ofNat_le, List.getElem?_drop]
  refine invert_fz s F hs hR (up hx) hvx fun v1 z1 h1 e1 f1 => ?_
  simp only [pwA, if_true, if_false, eq_self, nm_eq, reduceCtorEq, ↓reduceIte, Nat.reduceEqDiff, Nat.reduceLeDiff, Nat.reduceBEq, Nat.reduceAdd, Nat.reduceLT, Nat.reduceSub, Nat.reduceMul, Int.reduceEq, Int.reduceLT, Int.reduceLE, Int.reduceNeg, Int.reduceToNat, List.reduceReplicate, Int.ofNat_le, List.getElem?_drop]
  refine conjugate_fz s F hs hR (up hx) (up hy) hvx hvy fun v2 z2 h2 e2 f2 => ?_
  simp only [pwA, if_true, if_false, eq_self, nm_eq, reduceCtorEq, ↓reduceIte, Nat.reduceEqDiff, Nat.reduceLeDiff, Nat.reduceBEq, Nat.reduceAdd, Nat.reduceLT, Nat.reduceSub, Nat.reduceMul, Int.reduceEq, Int.reduceLT, Int.reduceLE, Int.reduceNeg, Int.reduceToNat, List.reduceReplicate, Int.ofNat_le, List.getElem?_drop]
  refine multiply_fz s F hs hR h1 h2 f1 f2 fun v3 f3 => ?_
  simp only [pwA, if_true, if_false, eq_self, nm_eq, reduceCtorEq, ↓reduceIte, Nat.reduceEqDiff, Nat.reduceLeDiff, Nat.reduceBEq, Nat.reduceAdd, Nat.reduceLT, Nat.reduceSub, Nat.reduceMul, Int.reduceEq, Int.reduceLT, Int.reduceLE, Int.reduceNeg, Int.reduceToNat, List.reduceReplicate, Int.ofNat_le, List.getElem?_drop]
  have e : mu O P C O.length z1 z2 = gcom O P C x y := by
    refine G.com_eq hx hy (G.cl (dn h1) (dn h2)) ?_
    have i1 : z1 = ginv (gS O) (gm O P C) (zv O) x := G.inv_eq hx (dn h1) e1
    show gm O P C (gm O P C y x) (gm O P C z1 z2) = gm O P C x y
    have hxz : gm O P C x (gm O P C z1 z2) = z2 := by rw [← G.as hx (dn h1) (dn h2), show gm O P C x z1 = zv O from e1, G.l1 (dn h2)]
    rw [G.as hy hx (G.cl (dn h1) (dn h2)), hxz]
    exact e2
  rw [e] at f3
  exact hk v3 f3
theorem add_ok (s : Shp O P C) (F : Full O P C O.length) (hC : Cent O C) (hp : ∀ o ∈ O, isP o) (hq : SeqG σ ss sb sp O.length rb vO vP vC) (hR : IsPr vO vP vC O P C) (hD : OkD O D) (hrb : All2 (DRow O.length) rb D) (hL : FII vL L) (hg : ∀ x ∈ L, gS O x) (hLl : L.length ≤ 1000000)
    (hk : ∀ (t : Bool) rb' D', All2 (DRow O.length) rb' D' → OkD O D' → (∀ N, gN O P C N → (InD N D' ↔ (InD N D ∧ ∀ q ∈ L, N q))) → free D' ≤ free D → (t = true → free D' < free D) → K (.bool t) (σ.set sb rb')) :
    PCalls Try.prog 211 [.ptr ss 0, vL] σ K := by
  have hn6 := s.le
  have hf6 := free_le D
  rw [hD.len] at hf6
  have G := F.g
  have up : ∀ {z : List Int}, gS O z → TT O (O.length - O.length) z := fun h => by rw [Nat.sub_self]; exact h
  obtain ⟨wl, al, rl, rfl, hrl⟩ := hL
  have hR0 := hR
  obtain ⟨⟨w0, a0, rfl⟩, _, _⟩ := hR
  refine PCalls.gh ?_
  refine pcalls_of_vp mix Try.func211 cf211 rfl ?_
  dsimp only [if211, qI, eI, nI, qD, eD]
  simp only [pwA, if_true, if_false, eq_self, nm_eq, reduceCtorEq, ↓reduceIte, Nat.reduceEqDiff, Nat.reduceLeDiff, Nat.reduceBEq, Nat.reduceAdd, Nat.reduceLT, Nat.reduceSub, Nat.reduceMul, Int.reduceEq, Int.reduceLT, Int.reduceLE, Int.reduceNeg, Int.reduceToNat, List.reduceReplicate, Int.ofNat_le, List.getElem?_drop]
  refine CloneL_q hrl.1 (hrl.bI 0) (by omega) fun vQ h1 k1 q1 => ?_
  simp only [pwA, if_true, if_false, eq_self, nm_eq, reduceCtorEq, ↓reduceIte, Nat.reduceEqDiff, Nat.reduceLeDiff, Nat.reduceBEq, Nat.reduceAdd, Nat.reduceLT, Nat.reduceSub, Nat.reduceMul, Int.reduceEq, Int.reduceLT, Int.reduceLE, Int.reduceNeg, Int.reduceToNat, List.reduceReplicate, Int.ofNat_le, List.getElem?_drop]
  refine vp_loop (fun m vs h' => ∃ g Q vQ rb' D' rq, m = 10 * free D' + Q.length ∧ vs = [.ptr ss 0, .bool g, vQ] ∧ Keep (σ.set sb rb') h' ∧ PQ σ.next h' vQ Q.length rq ∧ All2 FI rq Q ∧ (∀ x ∈ Q, gS O x) ∧ All2 (DRow O.length) rb' D' ∧ OkD O D' ∧ SameD O P C D' D Q L ∧ free D' ≤ free D ∧ (g = true → free D' < free D) ∧ Q.length + 10 * free D' ≤ L.length + 10 * free D) (10 * free D + L.length) ?_ ?_
  · exact ⟨false, L, vQ, rb, D, rl, rfl, rfl, Keep.self hq.bobj k1, q1, hrl, hg, hrb, hD, fun N _ => Iff.rfl, Nat.le_refl _, by simp, Nat.le_refl _⟩
  clear k1 q1 vQ h1
  as_aux_lemma =>
  rintro m vs h' ⟨g, Q, vQ, rb', D', rq, rfl, rfl, hkp, hqq, hrq, hgQ, hrb', hD', hS, hf1, hf2, hb⟩
  have hq' := (hq.setB rb').keep hkp
  cases Q with
  | nil =>
    have hlen : pLen vQ = some (.int .i64 0) := hqq.pLen
    simp only [pwA, if_true, if_false, eq_self, nm_eq, reduceCtorEq, ↓reduceIte, Nat.reduceEqDiff, Nat.reduceLeDiff, Nat.reduceBEq, Nat.reduceAdd, Nat.reduceLT, Nat.reduceSub, Nat.reduceMul, Int.reduceEq, Int.reduceLT, Int.reduceLE, Int.reduceNeg, Int.reduceToNat, List.reduceReplicate, Int.ofNat_le, List.getElem?_drop, hlen]
    exact Gh.finB hq.blt hkp (DRow.bels hrb' 0) trivial (hk g rb' D' hrb' hD' (fun N hN => ⟨fun h => (hS N hN).1 ⟨h, fun q hq => (by cases hq)⟩, fun h => ((hS N hN).2 h).1⟩) hf1 hf2)
  | cons x Q =>
    have hlen := hqq.pLen
    obtain ⟨c, rq', rfl, hc, hrq'⟩ : ∃ c rq', rq = c :: rq' ∧ FI c x ∧ All2 FI rq' Q := by
      cases rq with
      | nil => exact absurd hrq.1 (by simp)
      | cons c rq' => exact ⟨c, rq', rfl, hrq.2 0 c x rfl rfl, ⟨by simpa using hrq.1, fun k a b ha hb => hrq.2 (k + 1) a b (by simpa using ha) (by simpa using hb)⟩⟩
    obtain ⟨sq, off, cap, vQ', rfl, hrd, hpos, hsl', hqq'⟩ := hqq.uncons
    have hcc := hc
    obtain ⟨w4, a4, rfl⟩ := hc
    have hx := hgQ x (by simp)
    have hgQ' : ∀ q ∈ Q, gS O q := fun q hq => hgQ q (List.mem_cons_of_mem _ hq)
    have hf6' := free_le D'
    rw [hD'.len] at hf6'
    simp only [List.length_cons] at hlen hsl' hqq' hpos hb ⊢
    have hposI : (0 : Int) < ((Q.length + 1 : Nat) : Int) := by omega
    rw [Nat.add_sub_cancel] at hqq'
    simp only [pwA, if_true, if_false, eq_self, nm_eq, reduceCtorEq, ↓reduceIte, Nat.reduceEqDiff, Nat.reduceLeDiff, Nat.reduceBEq, Nat.reduceAdd, Nat.reduceLT, Nat.reduceSub, Nat.reduceMul, Int.reduceEq, Int.reduceLT, Int.reduceLE, Int.reduceNeg, Int.reduceToNat, List.reduceReplicate, Int.ofNat_le, List.getElem?_drop, hlen, hposI, hpos, hrd, hsl']
    refine sift_ok s F hC hq' hR0 hD' hrb' hx hcc fun vz z fz gz hz1 hz2 => ?_
    obtain ⟨wz, az, rfl⟩ := fz
    have hzl := gz.len
    simp only [pwA, if_true, if_false, eq_self, nm_eq, reduceCtorEq, ↓reduceIte, Nat.reduceEqDiff, Nat.reduceLeDiff, Nat.reduceBEq, Nat.reduceAdd, Nat.reduceLT, Nat.reduceSub, Nat.reduceMul, Int.reduceEq, Int.reduceLT, Int.reduceLE, Int.reduceNeg, Int.reduceToNat, List.reduceReplicate, Int.ofNat_le, List.getElem?_drop, hlen, hposI, hpos, hrd, hsl']
    refine depthOf_ok rfl (by omega) ?_
    by_cases hd : dep z < O.length
    rotate_left
    · have hdn : dep z = O.length := by have := dep_le z; omega
      have hz0 := dep_zv gz (by omega)
      simp only [pwA, if_true, if_false, eq_self, nm_eq, reduceCtorEq, ↓reduceIte, Nat.reduceEqDiff, Nat.reduceLeDiff, Nat.reduceBEq, Nat.reduceAdd, Nat.reduceLT, Nat.reduceSub, Nat.reduceMul, Int.reduceEq, Int.reduceLT, Int.reduceLE, Int.reduceNeg, Int.reduceToNat, List.reduceReplicate, Int.ofNat_le, List.getElem?_drop, hzl, hdn]
      refine ⟨_, ?_, g, Q, vQ', rb', D', rq', rfl, rfl, hkp, hqq', hrq', hgQ', hrb', hD', fun N hN => ?_, hf1, hf2, by omega⟩
      · omega
      · rw [← hS N hN]
        refine ⟨fun ⟨h1, h2⟩ => ⟨h1, fun q hq => ?_⟩, fun ⟨h1, h2⟩ => ⟨h1, fun q hq => h2 q (List.mem_cons_of_mem _ hq)⟩⟩
        rcases List.mem_cons.1 hq with rfl | hq
        · rw [hz2 N hN h1, hz0]; exact hN.one
        · exact h2 q hq
    have hdz : dep z < z.length := by omega
    have hOd := hp _ (List.getElem_mem hd)
    have bO := hOd.bd
    have bz := gz.bd _ hd
    have nz := dep_ne hdz
    rw [at_eq hdz] at bz nz
    rw [at_eq hd] at bz
    have hdn : ((dep z : Int) = (z.length : Int)) = False := by simp; omega
    have rr : ∀ {h : PHeap}, SeqG h ss sb sp O.length rb' (.fz w0 a0 O.length (pis O)) vP vC → h.rd1 ss 0 = some (.ptr sp 0) ∧ h.rd1 ss 1 = some (.sl sb 0 O.length (.known O.length)) ∧ h.rd1 sp 0 = some (.fz w0 a0 O.length (pis O)) := fun q => ⟨by rw [obj_rd1 q.obj]; rfl, by rw [obj_rd1 q.obj]; rfl, by rw [obj_rd1 q.pg.obj]; rfl⟩
    obtain ⟨r0, r1, e0⟩ := rr hq'
    simp only [pwA, if_true, if_false, eq_self, nm_eq, reduceCtorEq, ↓reduceIte, Nat.reduceEqDiff, Nat.reduceLeDiff, Nat.reduceBEq, Nat.reduceAdd, Nat.reduceLT, Nat.reduceSub, Nat.reduceMul, Int.reduceEq, Int.reduceLT, Int.reduceLE, Int.reduceNeg, Int.reduceToNat, List.reduceReplicate, Int.ofNat_le, List.getElem?_drop, hd, hdn, r0, e0, pis_get, gi hdz, gi hd, hdz]
    refine inverseMod_ok hOd ⟨by omega, bz.2⟩ fun q qb q1 q2 q3 => ?_
    simp only [pwA, if_true, if_false, eq_self, nm_eq, reduceCtorEq, ↓reduceIte, Nat.reduceEqDiff, Nat.reduceLeDiff, Nat.reduceBEq, Nat.reduceAdd, Nat.reduceLT, Nat.reduceSub, Nat.reduceMul, Int.reduceEq, Int.reduceLT, Int.reduceLE, Int.reduceNeg, Int.reduceToNat, List.reduceReplicate, Int.ofNat_le, List.getElem?_drop, hd, hdn, r0, e0, pis_get, gi hdz, gi hd, hdz]
    refine PQ.push (bytes := 24) (σb := σ.set sb rb') hkp hqq' (by omega) (by omega) fun v1 h1 k1 p1 => ?_
    have hq1 := (hq.setB rb').keep k1
    obtain ⟨s0, s1, f0⟩ := rr hq1
    simp only [pwA, if_true, if_false, eq_self, nm_eq, reduceCtorEq, ↓reduceIte, Nat.reduceEqDiff, Nat.reduceLeDiff, Nat.reduceBEq, Nat.reduceAdd, Nat.reduceLT, Nat.reduceSub, Nat.reduceMul, Int.reduceEq, Int.reduceLT, Int.reduceLE, Int.reduceNeg, Int.reduceToNat, List.reduceReplicate, Int.ofNat_le, List.getElem?_drop, s0, s1, f0]
    refine power_sl s F (by omega) hq1.pg hR0 gz ⟨wz, az, rfl⟩ (k := q) (by omega) fun oy capy => ?_
    obtain ⟨y1, y2⟩ := pw_deep s F hC hd (tt_dep gz) q.toNat
    have hy1 : at_ (Grp.pw (gm O P C) (zv O) z q.toNat) (dep z) = 1 := by
      rw [y2, at_eq hdz, at_eq hd, Int.toNat_of_nonneg q1, Int.mul_comm]; exact q3
    have hNy : ∀ N, gN O P C N → N z → N (Grp.pw (gm O P C) (zv O) z q.toNat) := fun N hN h => NSub.pw hN h _
    generalize Grp.pw (gm O P C) (zv O) z q.toNat = y at *
    have yS : gS O y := y1.mono (Nat.zero_le _)
    have hyl := yS.len
    simp only [pwA, if_true, if_false, eq_self, nm_eq, reduceCtorEq, ↓reduceIte, Nat.reduceEqDiff, Nat.reduceLeDiff, Nat.reduceBEq, Nat.reduceAdd, Nat.reduceLT, Nat.reduceSub, Nat.reduceMul, Int.reduceEq, Int.reduceLT, Int.reduceLE, Int.reduceNeg, Int.reduceToNat, List.reduceReplicate, Int.ofNat_le, List.getElem?_drop, s0, s1, f0, pis_get, gi hd, hd]
    refine power_fz s F hq1.pg hR0 (up yS) ⟨true, .sl oy 0 O.length capy, by rw [hyl]⟩ (k := O[dep z]) (by omega) fun vo fo => ?_
    have fo' := fo
    obtain ⟨wo, ao, rfl⟩ := fo
    simp only [pwA, if_true, if_false, eq_self, nm_eq, reduceCtorEq, ↓reduceIte, Nat.reduceEqDiff, Nat.reduceLeDiff, Nat.reduceBEq, Nat.reduceAdd, Nat.reduceLT, Nat.reduceSub, Nat.reduceMul, Int.reduceEq, Int.reduceLT, Int.reduceLE, Int.reduceNeg, Int.reduceToNat, List.reduceReplicate, Int.ofNat_le, List.getElem?_drop, s0, s1, f0, pis_get, gi hd, hd]
    refine PQ.push (bytes := 24) (σb := σ.set sb rb') k1 p1 (by omega) (by omega) fun v2 h2 k2 p2 => ?_
    have hq2 := (hq.setB rb').keep k2
    obtain ⟨t0, t1, g0⟩ := rr hq2
    have gpo : gS O (Grp.pw (gm O P C) (zv O) y O[dep z].toNat) := G.pw yS _
    have fz' : FI (.fz wz az z.length (pis z)) z := ⟨wz, az, rfl⟩
    have hrq2 : All2 FI ((rq' ++ [.fz wz az z.length (pis z)]) ++ [.fz wo ao _ (pis (Grp.pw (gm O P C) (zv O) y O[dep z].toNat))]) ((Q ++ [z]) ++ [Grp.pw (gm O P C) (zv O) y O[dep z].toNat]) := (hrq'.snoc fz').snoc fo'
    have hgQ2 : ∀ q ∈ (Q ++ [z]) ++ [Grp.pw (gm O P C) (zv O) y O[dep z].toNat], gS O q := fun q hq => by
      rcases List.mem_append.1 hq with hq | hq
      · rcases List.mem_append.1 hq with hq | hq
        · exact hgQ' q hq
        · rw [List.mem_singleton.1 hq]; exact gz
      · rw [List.mem_singleton.1 hq]; exact gpo
    simp only [pwA, if_true, if_false, eq_self, nm_eq, reduceCtorEq, ↓reduceIte, Nat.reduceEqDiff, Nat.reduceLeDiff, Nat.reduceBEq, Nat.reduceAdd, Nat.reduceLT, Nat.reduceSub, Nat.reduceMul, Int.reduceEq, Int.reduceLT, Int.reduceLE, Int.reduceNeg, Int.reduceToNat, List.reduceReplicate, Int.ofNat_le, List.getElem?_drop, t0, t1, g0]
    generalize hQ2 : (Q ++ [z]) ++ [Grp.pw (gm O P C) (zv O) y O[dep z].toNat] = Q2 at *
    have hQ2l : Q2.length = Q.length + 1 + 1 := by rw [← hQ2]; simp
    have hNQ2 : ∀ N, gN O P C N → N y → ((∀ q ∈ Q2, N q) ↔ (∀ q ∈ Q, N q) ∧ N z) := fun N hN hy => by
      rw [← hQ2]
      refine ⟨fun h => ⟨fun q hq => h q (by simp [hq]), h z (by simp)⟩, fun ⟨h3, h4⟩ q hq => ?_⟩
      rcases List.mem_append.1 hq with hq | hq
      · rcases List.mem_append.1 hq with hq | hq
        · exact h3 q hq
        · rw [List.mem_singleton.1 hq]; exact h4
      · rw [List.mem_singleton.1 hq]; exact NSub.pw hN hy _
    generalize (rq' ++ [PV.fz wz az z.length (pis z)]) ++ [.fz wo ao _ (pis (Grp.pw (gm O P C) (zv O) y O[dep z].toNat))] = rq2 at *
    rw [← hQ2l] at p2
    refine vp_loop (fun m us h3 => ∃ (i : Nat) (vQ : PV) (E : List (List Int)) (re : List PV), i ≤ O.length ∧ m = O.length - i ∧ us = [.ptr ss 0, .bool true, vQ, .fz true (.sl oy 0 O.length capy) O.length (pis y), .int .i64 (dep z), .sl sb 0 O.length (.known O.length), .int .i64 O.length, .int .i64 i] ∧ Keep (σ.set sb rb') h3 ∧ PQ σ.next h3 vQ (Q2 ++ E).length re ∧ All2 FI re (Q2 ++ E) ∧ (∀ q ∈ E, gS O q) ∧ E.length ≤ i ∧ ∀ N, gN O P C N → N y → ∀ q ∈ E, N q) O.length ?_ ?_
    · exact ⟨0, v2, [], _, by omega, by omega, rfl, k2, by rw [List.append_nil]; exact p2, by rw [List.append_nil]; exact hrq2, fun q hq => (by cases hq), Nat.le_refl _, fun N _ _ q hq => (by cases hq)⟩
    clear k2 p2 v2 h2 hq2 t0 t1 g0
    as_aux_lemma =>
    rintro m us h3 ⟨i, vQ, E, re, hi, rfl, rfl, k3, p3, hre, hgE, hEl, hNE⟩
    have hq3 := (hq.setB rb').keep k3
    obtain ⟨t0, t1, g0⟩ := rr hq3
    simp only [pwA, if_true, if_false, eq_self, nm_eq, reduceCtorEq, ↓reduceIte, Nat.reduceEqDiff, Nat.reduceLeDiff, Nat.reduceBEq, Nat.reduceAdd, Nat.reduceLT, Nat.reduceSub, Nat.reduceMul, Int.reduceEq, Int.reduceLT, Int.reduceLE, Int.reduceNeg, Int.reduceToNat, List.reduceReplicate, Int.ofNat_le, List.getElem?_drop]
    refine iteI (fun hlt => ?_) fun hge => ?_
    rotate_left
    · have hdb : dep z < rb'.length := by rw [hrb'.1, hD'.len]; exact hd
      have hwr : h3.wr sb (dep z) [.fz true (.sl oy 0 O.length capy) O.length (pis y)] = some (h3.set sb (rb'.set (dep z) (.fz true (.sl oy 0 O.length capy) O.length (pis y)))) := by
        rw [obj_wr hq3.bobj, if_pos ⟨by rw [List.length_singleton]; omega, rfl⟩, List.append_assoc, List.singleton_append, List.length_singleton, take_set _ hdb]
      simp only [pwA, if_true, if_false, eq_self, nm_eq, reduceCtorEq, ↓reduceIte, Nat.reduceEqDiff, Nat.reduceLeDiff, Nat.reduceBEq, Nat.reduceAdd, Nat.reduceLT, Nat.reduceSub, Nat.reduceMul, Int.reduceEq, Int.reduceLT, Int.reduceLE, Int.reduceNeg, Int.reduceToNat, List.reduceReplicate, Int.ofNat_le, List.getElem?_drop, t1, hd, hwr]
      have hnone : D'[dep z]? = some none := hz1 hd
      have hfree := free_put (y := y) hnone
      refine ⟨_, ?_, true, Q2 ++ E, vQ, _, D'.set (dep z) (some y), re, rfl, rfl, ?_, ?_, hre, ?_, DRow.put (o := oy) (cap := capy) hrb', hD'.put hd y1 hy1, fun N hN => ?_, by omega, fun _ => by omega, ?_⟩
      · simp only [List.length_append]; omega
      · exact ⟨k3.next, k3.top, fun t ht => by
          rw [pobj_set, pobj_set]
          split
          · rfl
          · rename_i e
            have := k3.obj t ht
            rw [pobj_set, if_neg e] at this
            exact this⟩
      · exact p3.set hq.blt _
      · intro q hq
        rcases List.mem_append.1 hq with hq | hq
        · exact hgQ2 q hq
        · exact hgE q hq
      · rw [← hS N hN, InD.put hnone]
        constructor
        · rintro ⟨⟨g1, g2⟩, g3⟩
          obtain ⟨g4, g5⟩ := (hNQ2 N hN g2).1 fun q hq => g3 q (by simp [hq])
          refine ⟨g1, fun q hq => ?_⟩
          rcases List.mem_cons.1 hq with rfl | hq
          · exact (hz2 N hN g1).2 g5
          · exact g4 q hq
        · rintro ⟨g1, g2⟩
          have gz' := (hz2 N hN g1).1 (g2 x (by simp))
          have gy := hNy N hN gz'
          refine ⟨⟨g1, gy⟩, fun q hq => ?_⟩
          rcases List.mem_append.1 hq with hq | hq
          · exact (hNQ2 N hN gy).2 ⟨fun q hq => g2 q (List.mem_cons_of_mem _ hq), gz'⟩ q hq
          · exact hNE N hN gy q hq
      · simp only [List.length_append]; omega
    have hlt' : i < O.length := by omega
    have hrd3 := obj_rd1 hq3.bobj i
    rcases DRow.get hrb' (d := i) (by rw [hD'.len]; exact hlt') with ⟨e1, e2⟩ | ⟨oo, cap, b, e1, e2⟩
    · rw [e1] at hrd3
      simp only [pwA, if_true, if_false, eq_self, nm_eq, reduceCtorEq, ↓reduceIte, Nat.reduceEqDiff, Nat.reduceLeDiff, Nat.reduceBEq, Nat.reduceAdd, Nat.reduceLT, Nat.reduceSub, Nat.reduceMul, Int.reduceEq, Int.reduceLT, Int.reduceLE, Int.reduceNeg, Int.reduceToNat, List.reduceReplicate, Int.ofNat_le, List.getElem?_drop, hlt', hrd3, wrapS hlt' (by omega : O.length ≤ 4611686018427387904)]
      exact ⟨_, by omega, i + 1, vQ, E, re, by omega, rfl, rfl, k3, p3, hre, hgE, by omega, hNE⟩
    · rw [e1] at hrd3
      have bS : gS O b := (hD'.row _ _ e2).1.mono (Nat.zero_le _)
      simp only [pwA, if_true, if_false, eq_self, nm_eq, reduceCtorEq, ↓reduceIte, Nat.reduceEqDiff, Nat.reduceLeDiff, Nat.reduceBEq, Nat.reduceAdd, Nat.reduceLT, Nat.reduceSub, Nat.reduceMul, Int.reduceEq, Int.reduceLT, Int.reduceLE, Int.reduceNeg, Int.reduceToNat, List.reduceReplicate, Int.ofNat_le, List.getElem?_drop, hlt', hrd3, t0]
      refine commutator_fz s F hq3.pg hR0 bS yS ⟨true, _, by rw [bS.len]⟩ ⟨true, _, by rw [hyl]⟩ fun vc fc => ?_
      have fc' := fc
      obtain ⟨wc, ac, rfl⟩ := fc
      simp only [pwA, if_true, if_false, eq_self, nm_eq, reduceCtorEq, ↓reduceIte, Nat.reduceEqDiff, Nat.reduceLeDiff, Nat.reduceBEq, Nat.reduceAdd, Nat.reduceLT, Nat.reduceSub, Nat.reduceMul, Int.reduceEq, Int.reduceLT, Int.reduceLE, Int.reduceNeg, Int.reduceToNat, List.reduceReplicate, Int.ofNat_le, List.getElem?_drop]
      refine PQ.push (bytes := 24) (σb := σ.set sb rb') k3 p3 (by rw [List.length_append]; omega) (by rw [List.length_append]; omega) fun v4 h4 k4 p4 => ?_
      simp only [pwA, if_true, if_false, eq_self, nm_eq, reduceCtorEq, ↓reduceIte, Nat.reduceEqDiff, Nat.reduceLeDiff, Nat.reduceBEq, Nat.reduceAdd, Nat.reduceLT, Nat.reduceSub, Nat.reduceMul, Int.reduceEq, Int.reduceLT, Int.reduceLE, Int.reduceNeg, Int.reduceToNat, List.reduceReplicate, Int.ofNat_le, List.getElem?_drop, wrapS hlt' (by omega : O.length ≤ 4611686018427387904)]
      refine ⟨_, by omega, i + 1, v4, E ++ [gcom O P C b y], re ++ [.fz wc ac (gcom O P C b y).length (pis (gcom O P C b y))], by omega, rfl, rfl, k4, ?_, ?_, ?_, ?_, ?_⟩
      rotate_left
      · rw [← List.append_assoc]; exact hre.snoc fc'
      · intro q hq
        rcases List.mem_append.1 hq with hq | hq
        · exact hgE q hq
        · rw [List.mem_singleton.1 hq]; exact G.com_in bS yS
      · simp; omega
      · intro N hN hy q hq
        rcases List.mem_append.1 hq with hq | hq
        · exact hNE N hN hy q hq
        · rw [List.mem_singleton.1 hq]; exact NSub.com_inR G hN bS hy
      · rw [← List.append_assoc, List.length_append, List.length_singleton]; exact p4
end Go.Proofs
set_option linter.unusedSimpArgs false
set_option linter.unusedVariables false
namespace Go.Proofs
open Go.Ab Go.Lie Go.Grp
variable {σ : PHeap} {K : PV → PHeap → Prop} {O : List Int} {P : List (List Int)} {C : List (List (List Int))} {vO vP vC vx vy vL vU : PV} {x y z f a b : List Int} {L u : List (List Int)} {rP rC rb : List PV} {D : List (Option (List Int))} {d j sp ss sb n : Nat}
/-- Rows that begin with 1. -/
def Ones (O : List Int) (u : List (List Int)) : Prop := ∀ v ∈ u, gS O v ∧ dep v < O.length ∧ at_ v (dep v) = 1
theorem mod_less {o z : Int} (ho : 2 ≤ o) (hz : 0 ≤ z ∧ z < o) (h0 : z ≠ 0) : ((o - (z + 1) % o) % o).toNat < ((o - z) % o).toNat := by
  have e : (o - z) % o = o - z := Int.emod_eq_of_lt (by omega) (by omega)
  rw [e]
  by_cases h : z + 1 = o
  · rw [h, Int.emod_self, Int.sub_zero, Int.emod_self]; omega
  · rw [Int.emod_eq_of_lt (a := z + 1) (by omega) (by omega), Int.emod_eq_of_lt (by omega) (by omega)]; omega
theorem representative_ok (s : Shp O P C) (F : Full O P C O.length) (hC : Cent O C) (hn : 0 < O.length) (hs : PtrG σ sp vO vP vC) (hR : IsPr vO vP vC O P C) (hU : FII vU u) (hu : Ones O u) (hul : u.length ≤ 1000) (hx : gS O x) (hvx : FI vx x)
    (hk : ∀ o cap z, gS O z → (∀ t, (∀ v ∈ u, t < dep v) → ∀ j, j ≤ t → at_ z j = at_ x j) → (∀ N, gN O P C N → (∀ v ∈ u, N v) → (N x ↔ N z)) → K (.fz true (.sl o 0 O.length cap) O.length (pis z)) σ) :
    PCalls Try.prog 216 [.ptr sp 0, vU, vx] σ K := by
  have hn6 := s.le
  have hxl := hx.len
  have hsl := hs.lt
  obtain ⟨wx, ax, rfl⟩ := hvx
  have hUU := hU
  obtain ⟨wl, al, rl, rfl, hrl⟩ := hU
  refine PCalls.gh ?_
  refine pcalls_of_vp mix Try.func216 cf216 rfl ?_
  dsimp only [if216, qI, eI, nI, qD, eD]
  simp only [pwA, if_true, if_false, eq_self, nm_eq, reduceCtorEq, ↓reduceIte, Nat.reduceEqDiff, Nat.reduceLeDiff, Nat.reduceBEq, Nat.reduceAdd, Nat.reduceLT, Nat.reduceSub, Nat.reduceMul, Int.reduceEq, Int.reduceLT, Int.reduceLE, Int.reduceNeg, Int.reduceToNat, List.reduceReplicate, Int.ofNat_le, List.getElem?_drop]
  refine Clone_ok rfl (by omega) ⟨fun h0 => absurd hxl (by rw [h0]; simp; omega), fun cap hc => ?_⟩
  rw [hxl] at hc ⊢
  simp only [pwA, if_true, if_false, eq_self, nm_eq, reduceCtorEq, ↓reduceIte, Nat.reduceEqDiff, Nat.reduceLeDiff, Nat.reduceBEq, Nat.reduceAdd, Nat.reduceLT, Nat.reduceSub, Nat.reduceMul, Int.reduceEq, Int.reduceLT, Int.reduceLE, Int.reduceNeg, Int.reduceToNat, List.reduceReplicate, Int.ofNat_le, List.getElem?_drop]
  refine pivots_ok hUU (fun v hv => ⟨by rw [(hu v hv).1.len]; exact (hu v hv).2.1, by rw [(hu v hv).1.len]; omega⟩) (by omega) fun vp => ?_
  simp only [pwA, if_true, if_false, eq_self, nm_eq, reduceCtorEq, ↓reduceIte, Nat.reduceEqDiff, Nat.reduceLeDiff, Nat.reduceBEq, Nat.reduceAdd, Nat.reduceLT, Nat.reduceSub, Nat.reduceMul, Int.reduceEq, Int.reduceLT, Int.reduceLE, Int.reduceNeg, Int.reduceToNat, List.reduceReplicate, Int.ofNat_le, List.getElem?_drop]
  refine vp_loop (fun m vs h' => ∃ (i : Nat) (z : List Int), i ≤ u.length ∧ m = u.length - i ∧ vs = [.ptr sp 0, .fz wl al u.length rl, .sl σ.next 0 O.length cap, .fz true vp u.length (pis (deps u)), .int .i64 u.length, .int .i64 i] ∧ h' = σ.new (pis z) ∧ gS O z ∧ (∀ t, (∀ v ∈ u, t < dep v) → ∀ j, j ≤ t → at_ z j = at_ x j) ∧ (∀ N, gN O P C N → (∀ v ∈ u, N v) → (N x ↔ N z))) u.length ⟨0, x, by omega, by omega, rfl, rfl, hx, fun _ _ _ _ => rfl, fun _ _ _ => Iff.rfl⟩ ?_
  rintro m vs h' ⟨i, z, hi, rfl, rfl, rfl, hz, hj, hN⟩
  simp only [pwA, if_true, if_false, eq_self, nm_eq, reduceCtorEq, ↓reduceIte, Nat.reduceEqDiff, Nat.reduceLeDiff, Nat.reduceBEq, Nat.reduceAdd, Nat.reduceLT, Nat.reduceSub, Nat.reduceMul, Int.reduceEq, Int.reduceLT, Int.reduceLE, Int.reduceNeg, Int.reduceToNat, List.reduceReplicate, Int.ofNat_le, List.getElem?_drop]
  refine iteI (fun hlt => ?_) fun hge => ?_
  rotate_left
  · exact Gh.finF (keep_new σ _) (by simp only [pwA, if_true, if_false, eq_self, nm_eq, reduceCtorEq, ↓reduceIte, Nat.reduceEqDiff, Nat.reduceLeDiff, Nat.reduceBEq, Nat.reduceAdd, Nat.reduceLT, Nat.reduceSub, Nat.reduceMul, Int.reduceEq, Int.reduceLT, Int.reduceLE, Int.reduceNeg, Int.reduceToNat, List.reduceReplicate, Int.ofNat_le, List.getElem?_drop]) (Nat.le_refl _) (pis_bel _ _) hc.ok fun o => hk o cap z hz hj hN
  obtain ⟨w4, a4, hr⟩ := hrl.rowI hlt
  obtain ⟨u1, u2, u3⟩ := hu _ (List.getElem_mem hlt)
  have hmem : u[i] ∈ u := List.getElem_mem hlt
  have hpd : (deps u)[i]? = some (dep u[i] : Int) := by simp [deps, hlt]
  simp only [pwA, if_true, if_false, eq_self, nm_eq, reduceCtorEq, ↓reduceIte, Nat.reduceEqDiff, Nat.reduceLeDiff, Nat.reduceBEq, Nat.reduceAdd, Nat.reduceLT, Nat.reduceSub, Nat.reduceMul, Int.reduceEq, Int.reduceLT, Int.reduceLE, Int.reduceNeg, Int.reduceToNat, List.reduceReplicate, Int.ofNat_le, List.getElem?_drop, hlt, pis_get, hpd, List.getElem?_drop]
  refine vp_loop (fun m vs h' => ∃ (z : List Int), m = ((at_ O (dep u[i]) - at_ z (dep u[i])) % at_ O (dep u[i])).toNat ∧ vs = [.ptr sp 0, .fz wl al u.length rl, .sl σ.next 0 O.length cap, .int .i64 i, .int .i64 (dep u[i]), .fz true vp u.length (pis (deps u)), .int .i64 u.length, .int .i64 i] ∧ h' = σ.new (pis z) ∧ gS O z ∧ (∀ t, (∀ v ∈ u, t < dep v) → ∀ j, j ≤ t → at_ z j = at_ x j) ∧ (∀ N, gN O P C N → (∀ v ∈ u, N v) → (N x ↔ N z))) _ ⟨z, rfl, rfl, rfl, hz, hj, hN⟩ ?_
  clear hz hj hN z
  rintro m vs h' ⟨z, rfl, rfl, rfl, hz, hj, hN⟩
  have hzl := hz.len
  have hdz : dep u[i] < z.length := by omega
  have bz := hz.bd _ u2
  have bO := s.pr _ u2
  simp only [pwA, if_true, if_false, eq_self, nm_eq, reduceCtorEq, ↓reduceIte, Nat.reduceEqDiff, Nat.reduceLeDiff, Nat.reduceBEq, Nat.reduceAdd, Nat.reduceLT, Nat.reduceSub, Nat.reduceMul, Int.reduceEq, Int.reduceLT, Int.reduceLE, Int.reduceNeg, Int.reduceToNat, List.reduceReplicate, Int.ofNat_le, List.getElem?_drop, u2, pisAt hdz]
  refine iteI (fun heq => ?_) fun hneq => ?_
  · simp only [pwA, if_true, if_false, eq_self, nm_eq, reduceCtorEq, ↓reduceIte, Nat.reduceEqDiff, Nat.reduceLeDiff, Nat.reduceBEq, Nat.reduceAdd, Nat.reduceLT, Nat.reduceSub, Nat.reduceMul, Int.reduceEq, Int.reduceLT, Int.reduceLE, Int.reduceNeg, Int.reduceToNat, List.reduceReplicate, Int.ofNat_le, List.getElem?_drop, wrapS hlt (by omega : u.length ≤ 4611686018427387904)]
    exact ⟨_, by omega, i + 1, z, by omega, rfl, rfl, rfl, hz, hj, hN⟩
  · obtain ⟨g1, g2, g3⟩ := rep_step s F hC u2 hz (tt_dep u1) u3
    simp only [pwA, if_true, if_false, eq_self, nm_eq, reduceCtorEq, ↓reduceIte, Nat.reduceEqDiff, Nat.reduceLeDiff, Nat.reduceBEq, Nat.reduceAdd, Nat.reduceLT, Nat.reduceSub, Nat.reduceMul, Int.reduceEq, Int.reduceLT, Int.reduceLE, Int.reduceNeg, Int.reduceToNat, List.reduceReplicate, Int.ofNat_le, List.getElem?_drop, hlt, hr, List.getElem?_drop]
    refine timesVector_ok s F (hs.new _) hR (x := z) (by simp only [pwA, if_true, if_false, eq_self, nm_eq, reduceCtorEq, ↓reduceIte, Nat.reduceEqDiff, Nat.reduceLeDiff, Nat.reduceBEq, Nat.reduceAdd, Nat.reduceLT, Nat.reduceSub, Nat.reduceMul, Int.reduceEq, Int.reduceLT, Int.reduceLE, Int.reduceNeg, Int.reduceToNat, List.reduceReplicate, Int.ofNat_le, List.getElem?_drop]) (by simp only [pwA, if_true, if_false, eq_self, nm_eq, reduceCtorEq, ↓reduceIte, Nat.reduceEqDiff, Nat.reduceLeDiff, Nat.reduceBEq, Nat.reduceAdd, Nat.reduceLT, Nat.reduceSub, Nat.reduceMul, Int.reduceEq, Int.reduceLT, Int.reduceLE, Int.reduceNeg, Int.reduceToNat, List.reduceReplicate, Int.ofNat_le, List.getElem?_drop]) (by omega) hc (by rw [Nat.sub_self]; exact hz) (by rw [Nat.sub_self]; exact u1) ⟨w4, a4, rfl⟩ ?_
    simp only [pwA, if_true, if_false, eq_self, nm_eq, reduceCtorEq, ↓reduceIte, Nat.reduceEqDiff, Nat.reduceLeDiff, Nat.reduceBEq, Nat.reduceAdd, Nat.reduceLT, Nat.reduceSub, Nat.reduceMul, Int.reduceEq, Int.reduceLT, Int.reduceLE, Int.reduceNeg, Int.reduceToNat, List.reduceReplicate, Int.ofNat_le, List.getElem?_drop]
    refine ⟨_, ?_, _, rfl, rfl, g1, fun t ht j hjt => ?_, fun N h1 h2 => (hN N h1 h2).trans ⟨fun h => h1.cl h (h2 _ hmem), fun h => NSub.quotR F h1 (h2 _ hmem) hz h⟩⟩
    · show ((at_ O (dep u[i]) - at_ (gm O P C z u[i]) (dep u[i])) % at_ O (dep u[i])).toNat < _
      rw [g3]
      exact mod_less bO.1 bz hneq
    · show at_ (gm O P C z u[i]) j = _
      rw [g2 j (by have := ht _ hmem; omega)]
      exact hj t ht j hjt
end Go.Proofs
set_option linter.unusedSimpArgs false
set_option linter.unusedVariables false
namespace Go.Proofs
open Go.Ab Go.Lie Go.Grp
variable {σ : PHeap} {K : PV → PHeap → Prop} {M : List (List PV)} {vM : PV}
/-- A frozen slice of these cells. -/
def FC (v : PV) (cs : List PV) : Prop := ∃ w a, v = .fz w a cs.length cs
/-- An empty list with room. -/
def RoomC (σ h : PHeap) (v : PV) : Prop := ∃ s cs, v = .sl s 0 0 (.grown 1) ∧ h.obj s = some cs ∧ σ.next ≤ s ∧ s < h.next
theorem GrowC_ok {c : Nat} (hc : c ≤ 1048576) (h0 : ∀ v h, Keep σ h → (PAcc σ.next 1 h v 0 [] ∨ (0 < c ∧ RoomC σ h v)) → K v h) : PCalls Try.prog 214 [.fz true .nils 0 [], .int .i64 c] σ K := by
  have hcn : ¬ (c : Int) < 0 := by omega
  have z0 : IntKind.i64.wrap ((0 : Int) - ((0 : Nat) : Int)) = 0 := rfl
  have z1 : IntKind.i64.wrap ((c : Int) - 0) = (c : Int) := by rw [wrap64 (by omega) (by omega)]; omega
  have z2 : pslA 1 .nils 0 0 = .nils := rfl
  refine pcalls_of_vp mix Try.func214 cf214 rfl ?_
  dsimp only [if214, qI, eI, nI, qD, eD]
  simp only [pwA, if_true, if_false, eq_self, nm_eq, reduceCtorEq, ↓reduceIte, Nat.reduceEqDiff, Nat.reduceLeDiff, Nat.reduceBEq, Nat.reduceAdd, Nat.reduceLT, Nat.reduceSub, Nat.reduceMul, Int.reduceEq, Int.reduceLT, Int.reduceLE, Int.reduceNeg, Int.reduceToNat, List.reduceReplicate, Int.ofNat_le, List.getElem?_drop, hcn, z0, z1]
  by_cases hz : c = 0
  · subst hz
    simp only [pwA, if_true, if_false, eq_self, nm_eq, reduceCtorEq, ↓reduceIte, Nat.reduceEqDiff, Nat.reduceLeDiff, Nat.reduceBEq, Nat.reduceAdd, Nat.reduceLT, Nat.reduceSub, Nat.reduceMul, Int.reduceEq, Int.reduceLT, Int.reduceLE, Int.reduceNeg, Int.reduceToNat, List.reduceReplicate, Int.ofNat_le, List.getElem?_drop]
    exact h0 _ _ (Keep.refl σ) (.inl (PAcc.nil _ _ _))
  · have hpos : (0 : Int) < (c : Int) := by omega
    have hb : (c : Int) * ((24 : Nat) : Int) ≤ 140737488355328 := by omega
    have hb2 : (c : Int) ≤ 4611686018427387904 := by omega
    simp only [pwA, if_true, if_false, eq_self, nm_eq, reduceCtorEq, ↓reduceIte, Nat.reduceEqDiff, Nat.reduceLeDiff, Nat.reduceBEq, Nat.reduceAdd, Nat.reduceLT, Nat.reduceSub, Nat.reduceMul, Int.reduceEq, Int.reduceLT, Int.reduceLE, Int.reduceNeg, Int.reduceToNat, List.reduceReplicate, Int.ofNat_le, List.getElem?_drop, hpos, hb, hb2, z2, pis_rep, Nat.zero_le]
    exact h0 _ _ (keep_new σ _) (.inr ⟨by omega, _, _, rfl, by rw [pobj_new, if_pos rfl], Nat.le_refl _, Nat.lt_succ_self _⟩)
theorem flatC_take {i : Nat} (hi : i < M.length) : (M.take (i + 1)).flatten = (M.take i).flatten ++ M[i] := by
  rw [List.take_succ_eq_append_getElem hi, List.flatten_append]; simp
theorem flatC_le (M : List (List PV)) (i : Nat) : (M.take i).flatten.length ≤ M.flatten.length := by
  have : M.flatten.length = (M.take i).flatten.length + (M.drop i).flatten.length := by
    rw [← List.length_append, ← List.flatten_append, List.take_append_drop]
  omega
theorem ConcatC_ok {wM : Bool} {aM : AV} {rM : List PV} (hrM : All2 FC rM M) (hbM : ∀ c ∈ M, Bels 0 c) (hml : M.length ≤ 1048576) (hb : M.flatten.length ≤ 1048576) (hk : ∀ a, K (.fz true a M.flatten.length M.flatten) σ) : PCalls Try.prog 202 [.fz wM aM M.length rM] σ K := by
  have hbf : Bels 0 M.flatten := Bels_iff.2 fun c hc => by
    obtain ⟨l, hl, hc⟩ := List.mem_flatten.1 hc
    exact Bels_iff.1 (hbM l hl) c hc
  refine PCalls.gh ?_
  refine pcalls_of_vp mix Try.func202 cf202 rfl ?_
  dsimp only [if202, qI, eI, nI, qD, eD]
  simp only [pwA, if_true, if_false, eq_self, nm_eq, reduceCtorEq, ↓reduceIte, Nat.reduceEqDiff, Nat.reduceLeDiff, Nat.reduceBEq, Nat.reduceAdd, Nat.reduceLT, Nat.reduceSub, Nat.reduceMul, Int.reduceEq, Int.reduceLT, Int.reduceLE, Int.reduceNeg, Int.reduceToNat, List.reduceReplicate, Int.ofNat_le, List.getElem?_drop]
  refine vp_loop (fun m us h' => ∃ i : Nat, i ≤ M.length ∧ m = M.length - i ∧ us = [.fz wM aM M.length rM, .int .i64 (M.take i).flatten.length, .fz wM aM M.length rM, .int .i64 M.length, .int .i64 i] ∧ σ = h') M.length ?_ ?_
  · exact ⟨0, by omega, by omega, rfl, rfl⟩
  rintro m us h' ⟨i, hi, rfl, rfl, rfl⟩
  have hfl := flatC_le M i
  simp only [pwA, if_true, if_false, eq_self, nm_eq, reduceCtorEq, ↓reduceIte, Nat.reduceEqDiff, Nat.reduceLeDiff, Nat.reduceBEq, Nat.reduceAdd, Nat.reduceLT, Nat.reduceSub, Nat.reduceMul, Int.reduceEq, Int.reduceLT, Int.reduceLE, Int.reduceNeg, Int.reduceToNat, List.reduceReplicate, Int.ofNat_le, List.getElem?_drop]
  refine iteI (fun hlt => ?_) fun hge => ?_
  · obtain ⟨_, hr, w4, a4, rfl⟩ := hrM.get hlt
    have hfl2 := flatC_le M (i + 1)
    have e := congrArg List.length (flatC_take hlt)
    rw [List.length_append] at e
    have ew : IntKind.i64.wrap (((M.take i).flatten.length : Int) + (M[i].length : Int)) = (((M.take i).flatten.length + M[i].length : Nat) : Int) := by rw [wrap64 (by omega) (by omega)]; omega
    have hnn : ¬ (((M.take i).flatten.length + M[i].length : Nat) : Int) < 0 := by omega
    simp only [pwA, if_true, if_false, eq_self, nm_eq, reduceCtorEq, ↓reduceIte, Nat.reduceEqDiff, Nat.reduceLeDiff, Nat.reduceBEq, Nat.reduceAdd, Nat.reduceLT, Nat.reduceSub, Nat.reduceMul, Int.reduceEq, Int.reduceLT, Int.reduceLE, Int.reduceNeg, Int.reduceToNat, List.reduceReplicate, Int.ofNat_le, List.getElem?_drop, hlt, hr, List.getElem?_drop, ew, hnn, wrapS hlt (by omega : M.length ≤ 4611686018427387904)]
    refine ⟨_, by omega, i + 1, by omega, rfl, ?_⟩
    rw [e]
  have hie : i = M.length := by omega
  subst hie
  rw [List.take_length]
  simp only [pwA, if_true, if_false, eq_self, nm_eq, reduceCtorEq, ↓reduceIte, Nat.reduceEqDiff, Nat.reduceLeDiff, Nat.reduceBEq, Nat.reduceAdd, Nat.reduceLT, Nat.reduceSub, Nat.reduceMul, Int.reduceEq, Int.reduceLT, Int.reduceLE, Int.reduceNeg, Int.reduceToNat, List.reduceReplicate, Int.ofNat_le, List.getElem?_drop]
  refine GrowC_ok (by omega) fun v0 h0 hk0 hv0 => ?_
  simp only [pwA, if_true, if_false, eq_self, nm_eq, reduceCtorEq, ↓reduceIte, Nat.reduceEqDiff, Nat.reduceLeDiff, Nat.reduceBEq, Nat.reduceAdd, Nat.reduceLT, Nat.reduceSub, Nat.reduceMul, Int.reduceEq, Int.reduceLT, Int.reduceLE, Int.reduceNeg, Int.reduceToNat, List.reduceReplicate, Int.ofNat_le, List.getElem?_drop]
  refine vp_loop (fun m us h' => ∃ (i : Nat) (vX : PV), i ≤ M.length ∧ m = M.length - i ∧ us = [vX, .fz wM aM M.length rM, .int .i64 M.length, .int .i64 i] ∧ Keep σ h' ∧ (PAcc σ.next 1 h' vX (M.take i).flatten.length (M.take i).flatten ∨ ((M.take i).flatten = [] ∧ 0 < M.flatten.length ∧ RoomC σ h' vX))) M.length ?_ ?_
  · exact ⟨0, v0, by omega, by omega, rfl, hk0, hv0.imp (fun h => h) fun h => ⟨rfl, h⟩⟩
  clear hi hge hfl hk0 hv0 v0 h0
  rintro m us h' ⟨i, vX, hi, rfl, rfl, hkp, ha⟩
  have hfl := flatC_le M i
  simp only [pwA, if_true, if_false, eq_self, nm_eq, reduceCtorEq, ↓reduceIte, Nat.reduceEqDiff, Nat.reduceLeDiff, Nat.reduceBEq, Nat.reduceAdd, Nat.reduceLT, Nat.reduceSub, Nat.reduceMul, Int.reduceEq, Int.reduceLT, Int.reduceLE, Int.reduceNeg, Int.reduceToNat, List.reduceReplicate, Int.ofNat_le, List.getElem?_drop]
  refine iteI (fun hlt => ?_) fun hge => ?_
  rotate_left
  · have hie : i = M.length := by omega
    subst hie
    rw [List.take_length] at ha
    rcases ha with ha | ⟨h1, h2, _⟩
    · exact ha.fin hkp hbf fun a => hk _
    · rw [h1] at h2; cases h2
  obtain ⟨_, hr, w4, a4, rfl⟩ := hrM.get hlt
  have hfl2 := flatC_le M (i + 1)
  have e := congrArg List.length (flatC_take hlt)
  rw [List.length_append] at e
  simp only [pwA, if_true, if_false, eq_self, nm_eq, reduceCtorEq, ↓reduceIte, Nat.reduceEqDiff, Nat.reduceLeDiff, Nat.reduceBEq, Nat.reduceAdd, Nat.reduceLT, Nat.reduceSub, Nat.reduceMul, Int.reduceEq, Int.reduceLT, Int.reduceLE, Int.reduceNeg, Int.reduceToNat, List.reduceReplicate, Int.ofNat_le, List.getElem?_drop, hlt, hr, List.getElem?_drop]
  have hnx : ∀ v' h2, Keep σ h2 → (PAcc σ.next 1 h2 v' ((M.take i).flatten.length + M[i].length) ((M.take i).flatten ++ M[i]) ∨ ((M.take (i + 1)).flatten = [] ∧ 0 < M.flatten.length ∧ RoomC σ h2 v')) → (PAcc σ.next 1 h2 v' (M.take (i + 1)).flatten.length (M.take (i + 1)).flatten ∨ ((M.take (i + 1)).flatten = [] ∧ 0 < M.flatten.length ∧ RoomC σ h2 v')) := fun v' h2 k h => h.imp (fun h => by rwa [e, flatC_take hlt]) fun h => h
  rcases ha with ha | ⟨h1, h2, s, cs, rfl, ho, hs1, hs2⟩
  · refine PAcc.cat (σb := σ) (bytes := 24) hkp ha rfl (by omega) (by omega) fun v' h2 k2 a2 => ?_
    simp only [pwA, if_true, if_false, eq_self, nm_eq, reduceCtorEq, ↓reduceIte, Nat.reduceEqDiff, Nat.reduceLeDiff, Nat.reduceBEq, Nat.reduceAdd, Nat.reduceLT, Nat.reduceSub, Nat.reduceMul, Int.reduceEq, Int.reduceLT, Int.reduceLE, Int.reduceNeg, Int.reduceToNat, List.reduceReplicate, Int.ofNat_le, List.getElem?_drop, wrapS hlt (by omega : M.length ≤ 4611686018427387904)]
    exact ⟨_, by omega, i + 1, v', by omega, rfl, rfl, k2, hnx _ _ k2 (.inl a2)⟩
  · by_cases hz : M[i].length = 0
    · have hnil : M[i] = [] := List.eq_nil_of_length_eq_zero hz
      have hap : pappend 1 24 h' (.sl s 0 0 (.grown 1)) (.fz w4 a4 M[i].length M[i]) = some (.sl s 0 0 (.grown 1), h') := by
        rw [pappend_eq, plen_fz, Option.bind_some, if_pos hz]; rfl
      simp only [pwA, if_true, if_false, eq_self, nm_eq, reduceCtorEq, ↓reduceIte, Nat.reduceEqDiff, Nat.reduceLeDiff, Nat.reduceBEq, Nat.reduceAdd, Nat.reduceLT, Nat.reduceSub, Nat.reduceMul, Int.reduceEq, Int.reduceLT, Int.reduceLE, Int.reduceNeg, Int.reduceToNat, List.reduceReplicate, Int.ofNat_le, List.getElem?_drop, hap, wrapS hlt (by omega : M.length ≤ 4611686018427387904)]
      refine ⟨_, by omega, i + 1, _, by omega, rfl, rfl, hkp, .inr ⟨by rw [flatC_take hlt, h1, hnil]; rfl, h2, s, cs, rfl, ho, hs1, hs2⟩⟩
    · have hap : pappend 1 24 h' (.sl s 0 0 (.grown 1)) (.fz w4 a4 M[i].length M[i]) = some (.sl h'.next 0 M[i].length (.grown 1), (h'.kill s).new M[i]) := by
        rw [pappend_eq, plen_fz, Option.bind_some, if_neg hz, pfirst_fz, if_neg hz, if_pos ⟨Nat.le_refl _, by omega, by omega⟩, Option.bind_some, pgrow_grown, if_pos ⟨by omega, by omega, rfl⟩, ho, Option.bind_some, if_pos (by omega)]
        rw [List.drop_zero, Nat.zero_mul, List.take_zero, List.nil_append, Nat.mul_one, List.take_of_length_le (Nat.le_refl _), Nat.zero_add]
      simp only [pwA, if_true, if_false, eq_self, nm_eq, reduceCtorEq, ↓reduceIte, Nat.reduceEqDiff, Nat.reduceLeDiff, Nat.reduceBEq, Nat.reduceAdd, Nat.reduceLT, Nat.reduceSub, Nat.reduceMul, Int.reduceEq, Int.reduceLT, Int.reduceLE, Int.reduceNeg, Int.reduceToNat, List.reduceReplicate, Int.ofNat_le, List.getElem?_drop, hap, wrapS hlt (by omega : M.length ≤ 4611686018427387904)]
      refine ⟨_, by omega, i + 1, _, by omega, rfl, rfl, (hkp.kill hs1).new _, .inl ?_⟩
      rw [flatC_take hlt, h1, List.nil_append]
      exact (PSl.own (.inl rfl) (by rw [pobj_new]; exact if_pos rfl) (by omega) hkp.next (Nat.lt_succ_self _)).acc
end Go.Proofs
set_option linter.unusedSimpArgs false
set_option linter.unusedVariables false
namespace Go.Proofs
open Go.Ab Go.Lie Go.Grp
variable {σ : PHeap} {K : PV → PHeap → Prop} {O : List Int} {P : List (List Int)} {C : List (List (List Int))} {vO vP vC vx vy vL vU vB vg : PV} {x y z f a b g : List Int} {L u by_ : List (List Int)} {rP rC rb : List PV} {D : List (Option (List Int))} {d j sp ss sb n : Nat}
theorem newSequence_ok (s : Shp O P C) (hs : PtrG σ sp vO vP vC) (hR : IsPr vO vP vC O P C) (hk : ∀ ss sb h', Keep σ h' → σ.next ≤ ss → σ.next ≤ sb → SeqG h' ss sb sp O.length (List.replicate O.length (.fz true .nils 0 [])) vO vP vC → K (.ptr ss 0) h') :
    PCalls Try.prog 210 [.ptr sp 0] σ K := by
  have hn6 := s.le
  have hsl := hs.lt
  obtain ⟨⟨w0, a0, rfl⟩, _, _⟩ := hR
  have e0 : σ.rd1 sp 0 = some (.fz w0 a0 O.length (pis O)) := by rw [obj_rd1 hs.obj]; rfl
  refine pcalls_of_vp mix Try.func210 cf210 rfl ?_
  dsimp only [if210, qI, eI, nI, qD, eD]
  simp only [pwA, if_true, if_false, eq_self, nm_eq, reduceCtorEq, ↓reduceIte, Nat.reduceEqDiff, Nat.reduceLeDiff, Nat.reduceBEq, Nat.reduceAdd, Nat.reduceLT, Nat.reduceSub, Nat.reduceMul, Int.reduceEq, Int.reduceLT, Int.reduceLE, Int.reduceNeg, Int.reduceToNat, List.reduceReplicate, Int.ofNat_le, List.getElem?_drop, e0, mk24 (n := O.length) (by omega), mkL (n := O.length) (by omega)]
  exact hk (σ.next + 1) σ.next _ ((keep_new σ _).new _) (by omega) (Nat.le_refl _) ⟨by simp only [pwA, if_true, if_false, eq_self, nm_eq, reduceCtorEq, ↓reduceIte, Nat.reduceEqDiff, Nat.reduceLeDiff, Nat.reduceBEq, Nat.reduceAdd, Nat.reduceLT, Nat.reduceSub, Nat.reduceMul, Int.reduceEq, Int.reduceLT, Int.reduceLE, Int.reduceNeg, Int.reduceToNat, List.reduceReplicate, Int.ofNat_le, List.getElem?_drop], by simp only [pwA, if_true, if_false, eq_self, nm_eq, reduceCtorEq, ↓reduceIte, Nat.reduceEqDiff, Nat.reduceLeDiff, Nat.reduceBEq, Nat.reduceAdd, Nat.reduceLT, Nat.reduceSub, Nat.reduceMul, Int.reduceEq, Int.reduceLT, Int.reduceLE, Int.reduceNeg, Int.reduceToNat, List.reduceReplicate, Int.ofNat_le, List.getElem?_drop], by simp only [pwA, if_true, if_false, eq_self, nm_eq, reduceCtorEq, ↓reduceIte, Nat.reduceEqDiff, Nat.reduceLeDiff, Nat.reduceBEq, Nat.reduceAdd, Nat.reduceLT, Nat.reduceSub, Nat.reduceMul, Int.reduceEq, Int.reduceLT, Int.reduceLE, Int.reduceNeg, Int.reduceToNat, List.reduceReplicate, Int.ofNat_le, List.getElem?_drop], by simp only [pwA, if_true, if_false, eq_self, nm_eq, reduceCtorEq, ↓reduceIte, Nat.reduceEqDiff, Nat.reduceLeDiff, Nat.reduceBEq, Nat.reduceAdd, Nat.reduceLT, Nat.reduceSub, Nat.reduceMul, Int.reduceEq, Int.reduceLT, Int.reduceLE, Int.reduceNeg, Int.reduceToNat, List.reduceReplicate, Int.ofNat_le, List.getElem?_drop]; omega, (hs.new _).new _, by omega, by omega⟩
/-- The list of what lies at the depths from k on. -/
theorem canonical_ok (s : Shp O P C) (F : Full O P C O.length) (hC : Cent O C) (hq : SeqG σ ss sb sp O.length rb vO vP vC) (hR : IsPr vO vP vC O P C) (hD : OkD O D) (hrb : All2 (DRow O.length) rb D)
    (hk : ∀ v u, FII v u → Ones O u → u.length ≤ O.length → (∀ N, gN O P C N → ((∀ x ∈ u, N x) ↔ InD N D)) → K v σ) : PCalls Try.prog 212 [.ptr ss 0] σ K := by
  have hn6 := s.le
  have r0 : σ.rd1 ss 0 = some (.ptr sp 0) := by rw [obj_rd1 hq.obj]; rfl
  have r1 : σ.rd1 ss 1 = some (.sl sb 0 O.length (.known O.length)) := by rw [obj_rd1 hq.obj]; rfl
  have hw : IntKind.i64.wrap ((O.length : Int) - 1) = (O.length : Int) - 1 := wrap64 (by omega) (by omega)
  refine PCalls.gh ?_
  refine pcalls_of_vp mix Try.func212 cf212 rfl ?_
  dsimp only [if212, qI, eI, nI, qD, eD]
  simp only [pwA, if_true, if_false, eq_self, nm_eq, reduceCtorEq, ↓reduceIte, Nat.reduceEqDiff, Nat.reduceLeDiff, Nat.reduceBEq, Nat.reduceAdd, Nat.reduceLT, Nat.reduceSub, Nat.reduceMul, Int.reduceEq, Int.reduceLT, Int.reduceLE, Int.reduceNeg, Int.reduceToNat, List.reduceReplicate, Int.ofNat_le, List.getElem?_drop, r1, hw]
  refine vp_loopG (fun m vs h2 => ∃ (k : Nat) (vO : PV) (u : List (List Int)), k ≤ O.length ∧ m = k ∧ vs = [.ptr ss 0, vO, .int .i64 ((k : Int) - 1)] ∧ Keep σ h2 ∧ FII vO u ∧ Ones O u ∧ u.length + k ≤ O.length ∧ (∀ v ∈ u, k ≤ dep v) ∧ (∀ N, gN O P C N → ((∀ x ∈ u, N x) ↔ ∀ d y, k ≤ d → D[d]? = some (some y) → N y))) O.length (.here ⟨O.length, _, [], Nat.le_refl _, rfl, rfl, Keep.refl σ, ⟨_, _, _, rfl, All2.nil _⟩, fun v hv => (by cases hv), by simp, fun v hv => (by cases hv), fun N hN => ⟨fun _ d y h1 h2 => ?_, fun _ x hx => (by cases hx)⟩⟩) ?_
  · rw [List.getElem?_eq_none (by rw [hD.len]; exact h1)] at h2; cases h2
  rintro m vs h2 ⟨k, vU, u, hkn, rfl, rfl, hk2, hU, hu, hul, hud, hN⟩
  rcases Nat.eq_zero_or_pos m with rfl | hmp
  · simp only [pwA, if_true, if_false, eq_self, nm_eq, reduceCtorEq, ↓reduceIte, Nat.reduceEqDiff, Nat.reduceLeDiff, Nat.reduceBEq, Nat.reduceAdd, Nat.reduceLT, Nat.reduceSub, Nat.reduceMul, Int.reduceEq, Int.reduceLT, Int.reduceLE, Int.reduceNeg, Int.reduceToNat, List.reduceReplicate, Int.ofNat_le, List.getElem?_drop, show ¬ ((0 : Int) ≤ ((0 : Nat) : Int) - 1) by omega]
    exact Gh.fin0 hk2 (hU.bel _) (hk vU u hU hu (by omega) fun N h1 => (hN N h1).trans ⟨fun h d y hy => h d y (Nat.zero_le _) hy, fun h d y _ hy => h d y hy⟩)
  obtain ⟨k, rfl⟩ : ∃ k, m = k + 1 := ⟨m - 1, by omega⟩
  have e : ((k + 1 : Nat) : Int) - 1 = (k : Int) := by omega
  have hkn' : k < O.length := hkn
  have hrd := obj_rd1 (hq.keep hk2).bobj k
  have r0' : h2.rd1 ss 0 = some (.ptr sp 0) := by rw [obj_rd1 (hq.keep hk2).obj]; rfl
  have r1' : h2.rd1 ss 1 = some (.sl sb 0 O.length (.known O.length)) := by rw [obj_rd1 (hq.keep hk2).obj]; rfl
  rw [e]
  have hw2 : IntKind.i64.wrap ((k : Int) - 1) = (k : Int) - 1 := wrap64 (by omega) (by omega)
  rcases DRow.get hrb (d := k) (by rw [hD.len]; exact hkn') with ⟨e1, e2⟩ | ⟨oo, cap, y, e1, e2⟩
  · rw [e1] at hrd
    simp only [pwA, if_true, if_false, eq_self, nm_eq, reduceCtorEq, ↓reduceIte, Nat.reduceEqDiff, Nat.reduceLeDiff, Nat.reduceBEq, Nat.reduceAdd, Nat.reduceLT, Nat.reduceSub, Nat.reduceMul, Int.reduceEq, Int.reduceLT, Int.reduceLE, Int.reduceNeg, Int.reduceToNat, List.reduceReplicate, Int.ofNat_le, List.getElem?_drop, hkn', r1', hrd, hw2]
    refine ⟨_, Nat.lt_succ_self k, .here ⟨k, vU, u, by omega, rfl, rfl, hk2, hU, hu, by omega, fun v hv => by have := hud v hv; omega, fun N h1 => (hN N h1).trans ⟨fun h d y hd hy => ?_, fun h d y hd hy => h d y (by omega) hy⟩⟩⟩
    rcases Nat.lt_or_ge k d with x | x
    · exact h d y x hy
    · rw [show d = k by omega, e2] at hy; cases hy
  · rw [e1] at hrd
    obtain ⟨y1, y2⟩ := hD.row _ _ e2
    have yS : gS O y := y1.mono (Nat.zero_le _)
    simp only [pwA, if_true, if_false, eq_self, nm_eq, reduceCtorEq, ↓reduceIte, Nat.reduceEqDiff, Nat.reduceLeDiff, Nat.reduceBEq, Nat.reduceAdd, Nat.reduceLT, Nat.reduceSub, Nat.reduceMul, Int.reduceEq, Int.reduceLT, Int.reduceLE, Int.reduceNeg, Int.reduceToNat, List.reduceReplicate, Int.ofNat_le, List.getElem?_drop, hkn', r0', r1', hrd, hw2]
    refine representative_ok s F hC (by omega) (hq.keep hk2).pg hR hU hu (by omega) yS ⟨true, _, by rw [y1.len]⟩ fun oz capz z zS z1 z2 => ?_
    have za : ∀ j, j ≤ k → at_ z j = at_ y j := z1 k fun v hv => hud v hv
    have zt : TT O k z := ⟨zS.len, zS.bd, fun j hj => by rw [za j (by omega)]; exact y1.zero j hj⟩
    have zk : at_ z k = 1 := by rw [za k (Nat.le_refl _)]; exact y2
    have hzl := zS.len
    have zd : dep z = k := by
      have h1 := dep_ge zt (by omega)
      rcases Nat.lt_or_ge k (dep z) with h | h
      · rw [dep_zero h] at zk; omega
      · omega
    obtain ⟨wO, aO, rO, rfl, hrO⟩ := hU
    simp only [pwA, if_true, if_false, eq_self, nm_eq, reduceCtorEq, ↓reduceIte, Nat.reduceEqDiff, Nat.reduceLeDiff, Nat.reduceBEq, Nat.reduceAdd, Nat.reduceLT, Nat.reduceSub, Nat.reduceMul, Int.reduceEq, Int.reduceLT, Int.reduceLE, Int.reduceNeg, Int.reduceToNat, List.reduceReplicate, Int.ofNat_le, List.getElem?_drop]
    refine PSl.cat (bytes := 24) (σb := h2) (n := 1) (cs := [.fz true (.sl oz 0 O.length capz) O.length (pis z)]) (keep_new h2 _) (PSl.new _ 1 rfl (Nat.le_refl _)) hrO.1 (by omega) (by omega) fun v3 h3 k3 a3 => ?_
    obtain ⟨s3, cap3, rfl, hc3, ho3, hl3, hge3, hlt3⟩ := a3
    have hall : All2 FI ([.fz true (.sl oz 0 O.length capz) O.length (pis z)] ++ rO) (z :: u) := (All2.nil FI |>.snoc (⟨true, _, by rw [hzl]⟩ : FI (.fz true (.sl oz 0 O.length capz) O.length (pis z)) z)).append hrO
    have hkn2 := hk2.next
    simp only [pwA, if_true, if_false, eq_self, nm_eq, reduceCtorEq, ↓reduceIte, Nat.reduceEqDiff, Nat.reduceLeDiff, Nat.reduceBEq, Nat.reduceAdd, Nat.reduceLT, Nat.reduceSub, Nat.reduceMul, Int.reduceEq, Int.reduceLT, Int.reduceLE, Int.reduceNeg, Int.reduceToNat, List.reduceReplicate, Int.ofNat_le, List.getElem?_drop, hw2]
    refine ⟨k, Nat.lt_succ_self k, .fz s3 _ ho3 (hall.bI 0) fun o1 => .here ⟨k, .fz true (.sl o1 0 (1 + u.length) cap3) (1 + u.length) ([.fz true (.sl oz 0 O.length capz) O.length (pis z)] ++ rO), z :: u, by omega, rfl, ?_, (hk2.trans k3).kill (by omega), ⟨true, _, _, by rw [List.length_cons, Nat.add_comm], hall⟩, ?_, by simp; omega, ?_, fun N h1 => ?_⟩⟩
    · simp [sbs, Go.Ab.sb, hc3.ok]
    · intro v hv
      rcases List.mem_cons.1 hv with rfl | hv
      · exact ⟨zS, by omega, by rw [zd]; exact zk⟩
      · exact hu v hv
    · intro v hv
      rcases List.mem_cons.1 hv with rfl | hv
      · omega
      · have := hud v hv; omega
    · have hsplit : (∀ d y, k ≤ d → D[d]? = some (some y) → N y) ↔ (N y ∧ ∀ d y, k + 1 ≤ d → D[d]? = some (some y) → N y) := by
        refine ⟨fun h => ⟨h k y (Nat.le_refl _) e2, fun d y hd hy => h d y (by omega) hy⟩, fun ⟨h3, h4⟩ d y' hd hy => ?_⟩
        rcases Nat.lt_or_ge k d with x | x
        · exact h4 d y' x hy
        · rw [show d = k by omega, e2] at hy; cases hy; exact h3
      rw [hsplit, ← hN N h1, List.forall_mem_cons]
      refine ⟨fun ⟨h3, h4⟩ => ⟨(z2 N h1 h4).2 h3, h4⟩, fun ⟨h3, h4⟩ => ⟨(z2 N h1 h4).1 h3, h4⟩⟩
noncomputable abbrev gcnj (O : List Int) (P : List (List Int)) (C : List (List (List Int))) (x g : List Int) : List Int := cnj (gS O) (gm O P C) (zv O) x g
theorem conjugates_ok (s : Shp O P C) (F : Full O P C O.length) (hs : PtrG σ sp vO vP vC) (hR : IsPr vO vP vC O P C) (hU : FII vU u) (hu : ∀ x ∈ u, gS O x) (hul : u.length ≤ 1000) (hg : gS O g) (hvg : FI vg g) (hk : ∀ v, FII v (u.map fun y => gcnj O P C y g) → K v σ) :
    PCalls Try.prog 213 [.ptr sp 0, vU, vg] σ K := by
  have up : ∀ {z : List Int}, gS O z → TT O (O.length - O.length) z := fun h => by rw [Nat.sub_self]; exact h
  have dn : ∀ {z : List Int}, TT O (O.length - O.length) z → gS O z := fun h => by rw [Nat.sub_self] at h; exact h
  obtain ⟨wl, al, rl, rfl, hrl⟩ := hU
  have hvg0 := hvg
  obtain ⟨wg, ag, rfl⟩ := hvg
  refine PCalls.gh ?_
  refine pcalls_of_vp mix Try.func213 cf213 rfl ?_
  dsimp only [if213, qI, eI, nI, qD, eD]
  simp only [pwA, if_true, if_false, eq_self, nm_eq, reduceCtorEq, ↓reduceIte, Nat.reduceEqDiff, Nat.reduceLeDiff, Nat.reduceBEq, Nat.reduceAdd, Nat.reduceLT, Nat.reduceSub, Nat.reduceMul, Int.reduceEq, Int.reduceLT, Int.reduceLE, Int.reduceNeg, Int.reduceToNat, List.reduceReplicate, Int.ofNat_le, List.getElem?_drop]
  refine vp_loop (fun m vs h' => ∃ (i : Nat) (v : PV) (rows : List PV), i ≤ u.length ∧ m = u.length - i ∧ vs = [.ptr sp 0, .fz wg ag g.length (pis g), v, .fz wl al u.length rl, .int .i64 u.length, .int .i64 i] ∧ Keep σ h' ∧ PAcc σ.next 1 h' v i rows ∧ All2 FI rows ((u.take i).map fun y => gcnj O P C y g)) u.length ?_ ?_
  · exact ⟨0, _, [], by omega, by omega, rfl, Keep.refl σ, PAcc.nil _ _ _, by simpa using All2.nil _⟩
  rintro m vs h' ⟨i, v, rows, hi, rfl, rfl, hkp, ha, hall⟩
  simp only [pwA, if_true, if_false, eq_self, nm_eq, reduceCtorEq, ↓reduceIte, Nat.reduceEqDiff, Nat.reduceLeDiff, Nat.reduceBEq, Nat.reduceAdd, Nat.reduceLT, Nat.reduceSub, Nat.reduceMul, Int.reduceEq, Int.reduceLT, Int.reduceLE, Int.reduceNeg, Int.reduceToNat, List.reduceReplicate, Int.ofNat_le, List.getElem?_drop]
  refine iteI (fun hlt => ?_) fun hge => ?_
  rotate_left
  · have hie : i = u.length := by omega
    subst hie
    rw [List.take_length] at hall
    exact ha.fin hkp (hall.bI 0) fun a => hk _ ⟨true, a, rows, by rw [List.length_map], hall⟩
  obtain ⟨w4, a4, hr⟩ := hrl.rowI hlt
  have hui := hu _ (List.getElem_mem hlt)
  simp only [pwA, if_true, if_false, eq_self, nm_eq, reduceCtorEq, ↓reduceIte, Nat.reduceEqDiff, Nat.reduceLeDiff, Nat.reduceBEq, Nat.reduceAdd, Nat.reduceLT, Nat.reduceSub, Nat.reduceMul, Int.reduceEq, Int.reduceLT, Int.reduceLE, Int.reduceNeg, Int.reduceToNat, List.reduceReplicate, Int.ofNat_le, List.getElem?_drop, hlt, hr, List.getElem?_drop]
  refine conjugate_fz s F (hs.keep hkp) hR (up hui) (up hg) ⟨w4, a4, rfl⟩ hvg0 fun v1 z h1 h2 f1 => ?_
  obtain rfl : z = gcnj O P C u[i] g := F.g.cnj_eq hui hg (dn h1) h2
  have f1' := f1
  obtain ⟨w1, a1, rfl⟩ := f1
  simp only [pwA, if_true, if_false, eq_self, nm_eq, reduceCtorEq, ↓reduceIte, Nat.reduceEqDiff, Nat.reduceLeDiff, Nat.reduceBEq, Nat.reduceAdd, Nat.reduceLT, Nat.reduceSub, Nat.reduceMul, Int.reduceEq, Int.reduceLT, Int.reduceLE, Int.reduceNeg, Int.reduceToNat, List.reduceReplicate, Int.ofNat_le, List.getElem?_drop]
  refine PAcc.push (bytes := 24) hkp ha (by omega) (by omega) fun v' h2 k2 a2 => ?_
  simp only [pwA, if_true, if_false, eq_self, nm_eq, reduceCtorEq, ↓reduceIte, Nat.reduceEqDiff, Nat.reduceLeDiff, Nat.reduceBEq, Nat.reduceAdd, Nat.reduceLT, Nat.reduceSub, Nat.reduceMul, Int.reduceEq, Int.reduceLT, Int.reduceLE, Int.reduceNeg, Int.reduceToNat, List.reduceReplicate, Int.ofNat_le, List.getElem?_drop, wrapS hlt (by omega : u.length ≤ 4611686018427387904)]
  refine ⟨_, by omega, i + 1, v', rows ++ [.fz w1 a1 (gcnj O P C u[i] g).length (pis (gcnj O P C u[i] g))], by omega, rfl, rfl, k2, a2.acc, ?_⟩
  rw [List.take_succ_eq_append_getElem hlt, List.map_append]
  exact hall.snoc f1'
theorem closure_ok (s : Shp O P C) (F : Full O P C O.length) (hC : Cent O C) (hp : ∀ o ∈ O, isP o) (hs : PtrG σ sp vO vP vC) (hR : IsPr vO vP vC O P C) (hL : FII vL L) (hgL : ∀ x ∈ L, gS O x) (hLl : L.length ≤ 1000000) (hB : FII vB by_) (hb : ∀ x ∈ by_, gS O x) (hbl : by_.length ≤ 1000000)
    (hk : ∀ v u, FII v u → Ones O u → u.length ≤ O.length → (∀ N, gN O P C N → ((∀ x ∈ u, N x) ↔ ∀ x ∈ L, N x)) → K v σ) : PCalls Try.prog 201 [.ptr sp 0, vL, vB] σ K := by
  have hn6 := s.le
  have hLL := hL
  obtain ⟨wl, al, rl, rfl, hrl⟩ := hL
  obtain ⟨wb, ab, rb, rfl, hrb⟩ := hB
  refine PCalls.gh ?_
  refine pcalls_of_vp mix Try.func201 cf201 rfl ?_
  dsimp only [if201, qI, eI, nI, qD, eD]
  simp only [pwA, if_true, if_false, eq_self, nm_eq, reduceCtorEq, ↓reduceIte, Nat.reduceEqDiff, Nat.reduceLeDiff, Nat.reduceBEq, Nat.reduceAdd, Nat.reduceLT, Nat.reduceSub, Nat.reduceMul, Int.reduceEq, Int.reduceLT, Int.reduceLE, Int.reduceNeg, Int.reduceToNat, List.reduceReplicate, Int.ofNat_le, List.getElem?_drop]
  refine newSequence_ok s hs hR fun ss sb h1 k1 n1 n2 q1 => ?_
  simp only [pwA, if_true, if_false, eq_self, nm_eq, reduceCtorEq, ↓reduceIte, Nat.reduceEqDiff, Nat.reduceLeDiff, Nat.reduceBEq, Nat.reduceAdd, Nat.reduceLT, Nat.reduceSub, Nat.reduceMul, Int.reduceEq, Int.reduceLT, Int.reduceLE, Int.reduceNeg, Int.reduceToNat, List.reduceReplicate, Int.ofNat_le, List.getElem?_drop]
  refine add_ok s F hC hp q1 hR (OkD.start O.length rfl) ⟨by simp, fun k c r hc hr => ?_⟩ hLL hgL hLl fun t rb' D' hrb' hD' hN' hf hf' => ?_
  · rw [List.getElem?_replicate] at hc hr
    split at hc
    · rename_i h
      rw [if_pos h] at hr
      cases hc; cases hr; exact .inl ⟨rfl, rfl⟩
    · cases hc
  have hN0 : ∀ N, gN O P C N → (InD N D' ↔ ∀ q ∈ L, N q) := fun N hN => (hN' N hN).trans ⟨fun h => h.2, fun h => ⟨InD.start _, h⟩⟩
  simp only [pwA, if_true, if_false, eq_self, nm_eq, reduceCtorEq, ↓reduceIte, Nat.reduceEqDiff, Nat.reduceLeDiff, Nat.reduceBEq, Nat.reduceAdd, Nat.reduceLT, Nat.reduceSub, Nat.reduceMul, Int.reduceEq, Int.reduceLT, Int.reduceLE, Int.reduceNeg, Int.reduceToNat, List.reduceReplicate, Int.ofNat_le, List.getElem?_drop]
  refine vp_loop (fun m us h' => ∃ (g : Bool) (rb2 : List PV) (D2 : List (Option (List Int))), m = 2 * free D2 + (if g = true then 1 else 0) ∧ us = [.ptr sp 0, .fz wb ab by_.length rb, .ptr ss 0, .bool g] ∧ h' = h1.set sb rb2 ∧ All2 (DRow O.length) rb2 D2 ∧ OkD O D2 ∧ ∀ N, gN O P C N → (InD N D2 ↔ ∀ q ∈ L, N q)) (2 * free D' + 1) ⟨true, rb', D', by rw [if_pos rfl], rfl, rfl, hrb', hD', hN0⟩ ?_
  rintro m us h' ⟨g, rb2, D2, rfl, rfl, rfl, hrb2, hD2, hN2⟩
  have hq2 := q1.setB rb2
  cases g with
  | false =>
    simp only [pwA, if_true, if_false, eq_self, nm_eq, reduceCtorEq, ↓reduceIte, Nat.reduceEqDiff, Nat.reduceLeDiff, Nat.reduceBEq, Nat.reduceAdd, Nat.reduceLT, Nat.reduceSub, Nat.reduceMul, Int.reduceEq, Int.reduceLT, Int.reduceLE, Int.reduceNeg, Int.reduceToNat, List.reduceReplicate, Int.ofNat_le, List.getElem?_drop]
    refine canonical_ok s F hC hq2 hR hD2 hrb2 fun v u f1 f2 f3 f4 => ?_
    simp only [pwA, if_true, if_false, eq_self, nm_eq, reduceCtorEq, ↓reduceIte, Nat.reduceEqDiff, Nat.reduceLeDiff, Nat.reduceBEq, Nat.reduceAdd, Nat.reduceLT, Nat.reduceSub, Nat.reduceMul, Int.reduceEq, Int.reduceLT, Int.reduceLE, Int.reduceNeg, Int.reduceToNat, List.reduceReplicate, Int.ofNat_le, List.getElem?_drop]
    exact Gh.fin0 (k1.set n2 _) (f1.bel _) (hk v u f1 f2 f3 fun N hN => (f4 N hN).trans (hN2 N hN))
  | true =>
  simp only [pwA, if_true, if_false, eq_self, nm_eq, reduceCtorEq, ↓reduceIte, Nat.reduceEqDiff, Nat.reduceLeDiff, Nat.reduceBEq, Nat.reduceAdd, Nat.reduceLT, Nat.reduceSub, Nat.reduceMul, Int.reduceEq, Int.reduceLT, Int.reduceLE, Int.reduceNeg, Int.reduceToNat, List.reduceReplicate, Int.ofNat_le, List.getElem?_drop]
  refine canonical_ok s F hC hq2 hR hD2 hrb2 fun v u f1 f2 f3 f4 => ?_
  have f1' := f1
  obtain ⟨wu, au, ru, rfl, hru⟩ := f1
  simp only [pwA, if_true, if_false, eq_self, nm_eq, reduceCtorEq, ↓reduceIte, Nat.reduceEqDiff, Nat.reduceLeDiff, Nat.reduceBEq, Nat.reduceAdd, Nat.reduceLT, Nat.reduceSub, Nat.reduceMul, Int.reduceEq, Int.reduceLT, Int.reduceLE, Int.reduceNeg, Int.reduceToNat, List.reduceReplicate, Int.ofNat_le, List.getElem?_drop]
  refine vp_loop (fun m us h' => ∃ (i : Nat) (g : Bool) (rb3 : List PV) (D3 : List (Option (List Int))), i ≤ by_.length ∧ m = by_.length - i ∧ us = [.ptr sp 0, .fz wb ab by_.length rb, .ptr ss 0, .bool g, .fz wu au u.length ru, .fz wb ab by_.length rb, .int .i64 by_.length, .int .i64 i] ∧ h' = h1.set sb rb3 ∧ All2 (DRow O.length) rb3 D3 ∧ OkD O D3 ∧ (∀ N, gN O P C N → (InD N D3 ↔ ∀ q ∈ L, N q)) ∧ free D3 ≤ free D2 ∧ (g = true → free D3 < free D2)) by_.length ⟨0, false, rb2, D2, by omega, by omega, rfl, rfl, hrb2, hD2, hN2, Nat.le_refl _, by simp⟩ ?_
  rintro m us h' ⟨i, g, rb3, D3, hi, rfl, rfl, rfl, hrb3, hD3, hN3, hf3, hg3⟩
  have hq3 := q1.setB rb3
  simp only [pwA, if_true, if_false, eq_self, nm_eq, reduceCtorEq, ↓reduceIte, Nat.reduceEqDiff, Nat.reduceLeDiff, Nat.reduceBEq, Nat.reduceAdd, Nat.reduceLT, Nat.reduceSub, Nat.reduceMul, Int.reduceEq, Int.reduceLT, Int.reduceLE, Int.reduceNeg, Int.reduceToNat, List.reduceReplicate, Int.ofNat_le, List.getElem?_drop]
  refine iteI (fun hlt => ?_) fun hge => ?_
  rotate_left
  · cases g with
    | true =>
      have := hg3 rfl
      exact ⟨2 * free D3 + 1, by omega, true, rb3, D3, by simp, rfl, rfl, hrb3, hD3, hN3⟩
    | false => exact ⟨2 * free D3, by omega, false, rb3, D3, by simp, rfl, rfl, hrb3, hD3, hN3⟩
  obtain ⟨w4, a4, hr⟩ := hrb.rowI hlt
  have hgi := hb _ (List.getElem_mem hlt)
  simp only [pwA, if_true, if_false, eq_self, nm_eq, reduceCtorEq, ↓reduceIte, Nat.reduceEqDiff, Nat.reduceLeDiff, Nat.reduceBEq, Nat.reduceAdd, Nat.reduceLT, Nat.reduceSub, Nat.reduceMul, Int.reduceEq, Int.reduceLT, Int.reduceLE, Int.reduceNeg, Int.reduceToNat, List.reduceReplicate, Int.ofNat_le, List.getElem?_drop, hlt, hr, List.getElem?_drop]
  refine conjugates_ok s F hq3.pg hR f1' (fun x hx => (f2 x hx).1) (by omega) hgi ⟨w4, a4, rfl⟩ fun vc fc => ?_
  simp only [pwA, if_true, if_false, eq_self, nm_eq, reduceCtorEq, ↓reduceIte, Nat.reduceEqDiff, Nat.reduceLeDiff, Nat.reduceBEq, Nat.reduceAdd, Nat.reduceLT, Nat.reduceSub, Nat.reduceMul, Int.reduceEq, Int.reduceLT, Int.reduceLE, Int.reduceNeg, Int.reduceToNat, List.reduceReplicate, Int.ofNat_le, List.getElem?_drop]
  refine add_ok s F hC hp hq3 hR hD3 hrb3 fc (fun x hx => ?_) (by rw [List.length_map]; omega) fun t4 rb4 D4 hrb4 hD4 hN4 hf4 hg4 => ?_
  · obtain ⟨y, hy, rfl⟩ := List.mem_map.1 hx
    exact F.g.cnj_in (f2 y hy).1 hgi
  have hN5 : ∀ N, gN O P C N → (InD N D4 ↔ ∀ q ∈ L, N q) := fun N hN => (hN4 N hN).trans ⟨fun h => (hN3 N hN).1 h.1, fun h => ⟨(hN3 N hN).2 h, fun q hq => by
    obtain ⟨y, hy, rfl⟩ := List.mem_map.1 hq
    exact hN.nor ((f4 N hN).2 ((hN2 N hN).2 h) y hy) hgi⟩⟩
  have hss : (h1.set sb rb3).set sb rb4 = h1.set sb rb4 := by
    simp only [PHeap.set, PHeap.mk.injEq, true_and]
    funext t
    split <;> rfl
  rw [hss]
  cases t4 with
  | true =>
    have := hg4 rfl
    simp only [pwA, if_true, if_false, eq_self, nm_eq, reduceCtorEq, ↓reduceIte, Nat.reduceEqDiff, Nat.reduceLeDiff, Nat.reduceBEq, Nat.reduceAdd, Nat.reduceLT, Nat.reduceSub, Nat.reduceMul, Int.reduceEq, Int.reduceLT, Int.reduceLE, Int.reduceNeg, Int.reduceToNat, List.reduceReplicate, Int.ofNat_le, List.getElem?_drop, wrapS hlt (by omega : by_.length ≤ 4611686018427387904)]
    exact ⟨_, by omega, i + 1, true, rb4, D4, by omega, rfl, rfl, rfl, hrb4, hD4, hN5, by omega, fun _ => by omega⟩
  | false =>
    simp only [pwA, if_true, if_false, eq_self, nm_eq, reduceCtorEq, ↓reduceIte, Nat.reduceEqDiff, Nat.reduceLeDiff, Nat.reduceBEq, Nat.reduceAdd, Nat.reduceLT, Nat.reduceSub, Nat.reduceMul, Int.reduceEq, Int.reduceLT, Int.reduceLE, Int.reduceNeg, Int.reduceToNat, List.reduceReplicate, Int.ofNat_le, List.getElem?_drop, wrapS hlt (by omega : by_.length ≤ 4611686018427387904)]
    exact ⟨_, by omega, i + 1, g, rb4, D4, by omega, rfl, rfl, rfl, hrb4, hD4, hN5, by omega, fun h => by have := hg3 h; omega⟩
end Go.Proofs
set_option linter.unusedSimpArgs false
set_option linter.unusedVariables false
namespace Go.Proofs
open Go.Ab Go.Lie
variable {σ : PHeap} {K : PV → PHeap → Prop} {p p' : Int} {n : Nat} {W : List (List Int)} {B : List (List (List Int))} {vP vB vL vU vV : PV} {s : Nat}
theorem okF125 : okF Try.prog 159 = true := by kernel_rfl
theorem EqualFunc_ok {xs ys : List (List Int)} (hU : FII vU xs) (hV : FII vV ys) (hx : xs.length ≤ 1048576) (hxl : ∀ x ∈ xs, x.length ≤ 1048576) (hk : ∀ t : Bool, (t = true ↔ xs = ys) → K (.bool t) σ) :
    PCalls Try.prog 209 [vU, vV, .clo 159 [] []] σ K := by
  have fl : ∀ {A : Prop}, ¬ A → ((false = true) ↔ A) := fun h => ⟨fun x => (by cases x), fun x => absurd x h⟩
  obtain ⟨wu, au, ru, rfl, hru⟩ := hU
  obtain ⟨wv, av, rv, rfl, hrv⟩ := hV
  refine pcalls_of_vp mix Try.func209 cf209 rfl ?_
  dsimp only [if209, qI, eI, nI, qD, eD]
  by_cases hl : xs.length = ys.length
  · simp only [pwA, if_true, if_false, eq_self, nm_eq, reduceCtorEq, ↓reduceIte, Nat.reduceEqDiff, Nat.reduceLeDiff, Nat.reduceBEq, Nat.reduceAdd, Nat.reduceLT, Nat.reduceSub, Nat.reduceMul, Int.reduceEq, Int.reduceLT, Int.reduceLE, Int.reduceNeg, Int.reduceToNat, List.reduceReplicate, Int.ofNat_le, List.getElem?_drop, hl]
    refine vp_loop (fun m vs h' => ∃ i : Nat, i ≤ ys.length ∧ m = ys.length - i ∧ vs = [.fz wv av ys.length rv, .clo 159 [] [], .fz wu au ys.length ru, .int .i64 ys.length, .int .i64 i] ∧ σ = h' ∧ xs.take i = ys.take i) ys.length ?_ ?_
    · exact ⟨0, by omega, by omega, rfl, rfl, by simp⟩
    rintro m vs h' ⟨i, hi, rfl, rfl, rfl, heq⟩
    simp only [pwA, if_true, if_false, eq_self, nm_eq, reduceCtorEq, ↓reduceIte, Nat.reduceEqDiff, Nat.reduceLeDiff, Nat.reduceBEq, Nat.reduceAdd, Nat.reduceLT, Nat.reduceSub, Nat.reduceMul, Int.reduceEq, Int.reduceLT, Int.reduceLE, Int.reduceNeg, Int.reduceToNat, List.reduceReplicate, Int.ofNat_le, List.getElem?_drop]
    refine iteI (fun hlt => ?_) fun hge => ?_
    · have hlx : i < xs.length := by omega
      obtain ⟨w4, a4, hr⟩ := hru.rowI hlx
      obtain ⟨w5, a5, hr5⟩ := hrv.rowI hlt
      simp only [pwA, if_true, if_false, eq_self, nm_eq, reduceCtorEq, ↓reduceIte, Nat.reduceEqDiff, Nat.reduceLeDiff, Nat.reduceBEq, Nat.reduceAdd, Nat.reduceLT, Nat.reduceSub, Nat.reduceMul, Int.reduceEq, Int.reduceLT, Int.reduceLE, Int.reduceNeg, Int.reduceToNat, List.reduceReplicate, Int.ofNat_le, List.getElem?_drop, hlt, hr, hr5, List.getElem?_drop]
      refine ⟨okF125, Equal_ok rfl rfl (by have := hxl _ (List.getElem_mem hlx); omega) ?_⟩
      by_cases he : xs[i] = ys[i]
      · simp only [pwA, if_true, if_false, eq_self, nm_eq, reduceCtorEq, ↓reduceIte, Nat.reduceEqDiff, Nat.reduceLeDiff, Nat.reduceBEq, Nat.reduceAdd, Nat.reduceLT, Nat.reduceSub, Nat.reduceMul, Int.reduceEq, Int.reduceLT, Int.reduceLE, Int.reduceNeg, Int.reduceToNat, List.reduceReplicate, Int.ofNat_le, List.getElem?_drop, he, wrapS hlt (by omega : ys.length ≤ 4611686018427387904)]
        exact ⟨_, by omega, i + 1, by omega, rfl, rfl, eqTake hl hlx heq he⟩
      · simp only [pwA, if_true, if_false, eq_self, nm_eq, reduceCtorEq, ↓reduceIte, Nat.reduceEqDiff, Nat.reduceLeDiff, Nat.reduceBEq, Nat.reduceAdd, Nat.reduceLT, Nat.reduceSub, Nat.reduceMul, Int.reduceEq, Int.reduceLT, Int.reduceLE, Int.reduceNeg, Int.reduceToNat, List.reduceReplicate, Int.ofNat_le, List.getElem?_drop, he]
        refine hk _ (fl fun e => ?_)
        subst e
        exact he rfl
    · have hie : i = ys.length := by omega
      subst hie
      refine hk _ ⟨fun _ => ?_, fun _ => rfl⟩
      rw [List.take_of_length_le (by omega), List.take_of_length_le (Nat.le_refl _)] at heq
      exact heq
  · have hlI : ((xs.length : Int) = (ys.length : Int)) = False := by simp; omega
    simp only [pwA, if_true, if_false, eq_self, nm_eq, reduceCtorEq, ↓reduceIte, Nat.reduceEqDiff, Nat.reduceLeDiff, Nat.reduceBEq, Nat.reduceAdd, Nat.reduceLT, Nat.reduceSub, Nat.reduceMul, Int.reduceEq, Int.reduceLT, Int.reduceLE, Int.reduceNeg, Int.reduceToNat, List.reduceReplicate, Int.ofNat_le, List.getElem?_drop, hlI]
    exact hk _ (fl fun e => hl (by rw [e]))
theorem sameRows_ok {xs ys : List (List Int)} (hU : FII vU xs) (hV : FII vV ys) (hx : xs.length ≤ 1048576) (hxl : ∀ x ∈ xs, x.length ≤ 1048576) (hk : ∀ t : Bool, (t = true ↔ xs = ys) → K (.bool t) σ) :
    PCalls Try.prog 199 [vU, vV] σ K := by
  refine pcalls_of_vp mix Try.func199 cf199 rfl ?_
  dsimp only [if199, qI, eI, nI, qD, eD]
  simp only [pwA, if_true, if_false, eq_self, nm_eq, reduceCtorEq, ↓reduceIte, Nat.reduceEqDiff, Nat.reduceLeDiff, Nat.reduceBEq, Nat.reduceAdd, Nat.reduceLT, Nat.reduceSub, Nat.reduceMul, Int.reduceEq, Int.reduceLT, Int.reduceLE, Int.reduceNeg, Int.reduceToNat, List.reduceReplicate, Int.ofNat_le, List.getElem?_drop]
  refine EqualFunc_ok hU hV hx hxl fun t ht => ?_
  simp only [pwA, if_true, if_false, eq_self, nm_eq, reduceCtorEq, ↓reduceIte, Nat.reduceEqDiff, Nat.reduceLeDiff, Nat.reduceBEq, Nat.reduceAdd, Nat.reduceLT, Nat.reduceSub, Nat.reduceMul, Int.reduceEq, Int.reduceLT, Int.reduceLE, Int.reduceNeg, Int.reduceToNat, List.reduceReplicate, Int.ofNat_le, List.getElem?_drop]
  exact hk t ht
end Go.Proofs
set_option linter.unusedSimpArgs false
set_option linter.unusedVariables false
namespace Go.Proofs
open Go.Ab Go.Lie Go.Grp
variable {σ : PHeap} {K : PV → PHeap → Prop} {O : List Int} {P : List (List Int)} {C : List (List (List Int))} {vO vP vC vx vy vL vU vV vB vg : PV} {x y z f a b g : List Int} {L u v z' : List (List Int)} {rP rC rb : List PV} {D : List (Option (List Int))} {d j sp ss sb n : Nat}
theorem isCen.cent (s : Shp O P C) (h : isCen O C) : Cent O C := fun i j hij hj => by
  obtain ⟨_, h2⟩ := h i (by omega)
  have hc := s.cj i j hij hj
  have h3 := h2 (j - i - 1) (by omega)
  unfold cenE at h3
  rw [show i + (1 + (j - i - 1)) = j by omega] at h3
  refine ⟨⟨hc.len, hc.bd, fun t ht => ?_⟩, h3.1⟩
  have hl : t < (cvec C i j).length := by rw [hc.len]; omega
  rw [at_eq hl]
  exact h3.2 _ (by rw [List.mem_take_iff_getElem]; exact ⟨t, by omega, rfl⟩)
theorem unitsG_take (i : Nat) : ((List.range (i + 1)).map (Grp.unit O)) = ((List.range i).map (Grp.unit O)) ++ [Grp.unit O i] := by
  rw [List.range_succ, List.map_append]; rfl
theorem generators_ok (s : Shp O P C) (hs : PtrG σ sp vO vP vC) (hR : IsPr vO vP vC O P C) (hk : ∀ v, FII v (unitsG O) → K v σ) : PCalls Try.prog 200 [.ptr sp 0] σ K := by
  have hn6 := s.le
  obtain ⟨⟨w0, a0, rfl⟩, _, _⟩ := hR
  have e0 : ∀ {h : PHeap}, Keep σ h → h.rd1 sp 0 = some (.fz w0 a0 O.length (pis O)) := fun k => by rw [obj_rd1 (hs.keep k).obj]; rfl
  refine PCalls.gh ?_
  refine pcalls_of_vp mix Try.func200 cf200 rfl ?_
  dsimp only [if200, qI, eI, nI, qD, eD]
  simp only [pwA, if_true, if_false, eq_self, nm_eq, reduceCtorEq, ↓reduceIte, Nat.reduceEqDiff, Nat.reduceLeDiff, Nat.reduceBEq, Nat.reduceAdd, Nat.reduceLT, Nat.reduceSub, Nat.reduceMul, Int.reduceEq, Int.reduceLT, Int.reduceLE, Int.reduceNeg, Int.reduceToNat, List.reduceReplicate, Int.ofNat_le, List.getElem?_drop, e0 (Keep.refl σ)]
  refine vp_loop (fun m vs h' => ∃ (i : Nat) (v : PV) (rows : List PV), i ≤ O.length ∧ m = O.length - i ∧ vs = [.ptr sp 0, v, .int .i64 O.length, .int .i64 i] ∧ Keep σ h' ∧ PAcc σ.next 1 h' v i rows ∧ All2 FI rows ((List.range i).map (Grp.unit O))) O.length ?_ ?_
  · exact ⟨0, _, [], by omega, by omega, rfl, Keep.refl σ, PAcc.nil _ _ _, All2.nil _⟩
  rintro m vs h' ⟨i, v, rows, hi, rfl, rfl, hkp, ha, hall⟩
  simp only [pwA, if_true, if_false, eq_self, nm_eq, reduceCtorEq, ↓reduceIte, Nat.reduceEqDiff, Nat.reduceLeDiff, Nat.reduceBEq, Nat.reduceAdd, Nat.reduceLT, Nat.reduceSub, Nat.reduceMul, Int.reduceEq, Int.reduceLT, Int.reduceLE, Int.reduceNeg, Int.reduceToNat, List.reduceReplicate, Int.ofNat_le, List.getElem?_drop]
  refine iteI (fun hlt => ?_) fun hge => ?_
  rotate_left
  · have hie : i = O.length := by omega
    subst hie
    exact ha.fin hkp (hall.bI 0) fun a => hk _ ⟨true, a, rows, by unfold unitsG; rw [List.length_map, List.length_range], hall⟩
  have hlt' : i < O.length := by omega
  simp only [pwA, if_true, if_false, eq_self, nm_eq, reduceCtorEq, ↓reduceIte, Nat.reduceEqDiff, Nat.reduceLeDiff, Nat.reduceBEq, Nat.reduceAdd, Nat.reduceLT, Nat.reduceSub, Nat.reduceMul, Int.reduceEq, Int.reduceLT, Int.reduceLE, Int.reduceNeg, Int.reduceToNat, List.reduceReplicate, Int.ofNat_le, List.getElem?_drop, e0 hkp]
  refine unitVector_fz (by omega) hlt' fun a1 => ?_
  simp only [pwA, if_true, if_false, eq_self, nm_eq, reduceCtorEq, ↓reduceIte, Nat.reduceEqDiff, Nat.reduceLeDiff, Nat.reduceBEq, Nat.reduceAdd, Nat.reduceLT, Nat.reduceSub, Nat.reduceMul, Int.reduceEq, Int.reduceLT, Int.reduceLE, Int.reduceNeg, Int.reduceToNat, List.reduceReplicate, Int.ofNat_le, List.getElem?_drop]
  refine PAcc.push (bytes := 24) hkp ha (by omega) (by omega) fun v' h2 k2 a2 => ?_
  simp only [pwA, if_true, if_false, eq_self, nm_eq, reduceCtorEq, ↓reduceIte, Nat.reduceEqDiff, Nat.reduceLeDiff, Nat.reduceBEq, Nat.reduceAdd, Nat.reduceLT, Nat.reduceSub, Nat.reduceMul, Int.reduceEq, Int.reduceLT, Int.reduceLE, Int.reduceNeg, Int.reduceToNat, List.reduceReplicate, Int.ofNat_le, List.getElem?_drop, wrapS hlt' (by omega : O.length ≤ 4611686018427387904)]
  refine ⟨_, by omega, i + 1, v', _, by omega, rfl, rfl, k2, a2.acc, ?_⟩
  rw [unitsG_take]
  exact hall.snoc ⟨true, a1, by simp; rfl⟩
theorem whole_ok (s : Shp O P C) (hs : PtrG σ sp vO vP vC) (hR : IsPr vO vP vC O P C) (hk : ∀ v, FII v (unitsG O) → K v σ) : PCalls Try.prog 168 [.ptr sp 0] σ K := by
  refine pcalls_of_vp mix Try.func168 cf168 rfl ?_
  dsimp only [if168, qI, eI, nI, qD, eD]
  simp only [pwA, if_true, if_false, eq_self, nm_eq, reduceCtorEq, ↓reduceIte, Nat.reduceEqDiff, Nat.reduceLeDiff, Nat.reduceBEq, Nat.reduceAdd, Nat.reduceLT, Nat.reduceSub, Nat.reduceMul, Int.reduceEq, Int.reduceLT, Int.reduceLE, Int.reduceNeg, Int.reduceToNat, List.reduceReplicate, Int.ofNat_le, List.getElem?_drop]
  refine generators_ok s hs hR fun v hv => ?_
  simp only [pwA, if_true, if_false, eq_self, nm_eq, reduceCtorEq, ↓reduceIte, Nat.reduceEqDiff, Nat.reduceLeDiff, Nat.reduceBEq, Nat.reduceAdd, Nat.reduceLT, Nat.reduceSub, Nat.reduceMul, Int.reduceEq, Int.reduceLT, Int.reduceLE, Int.reduceNeg, Int.reduceToNat, List.reduceReplicate, Int.ofNat_le, List.getElem?_drop]
  exact hk v hv
theorem commutatorSubgroup_ok (s : Shp O P C) (F : Full O P C O.length) (hC : Cent O C) (hp : ∀ o ∈ O, isP o) (hs : PtrG σ sp vO vP vC) (hR : IsPr vO vP vC O P C) (hU : FII vU u) (hu : ∀ x ∈ u, gS O x) (hul : u.length ≤ 100) (hV : FII vV v) (hv : ∀ x ∈ v, gS O x) (hvl : v.length ≤ 100)
    (hk : ∀ w z, FII w z → Ones O z → z.length ≤ O.length → (∀ N, gN O P C N → ((∀ x ∈ z, N x) ↔ ∀ x ∈ u, ∀ y ∈ v, N (gcom O P C x y))) → K w σ) : PCalls Try.prog 170 [.ptr sp 0, vU, vV] σ K := by
  have hn6 := s.le
  have G := F.g
  have hUU := hU
  have hVV := hV
  obtain ⟨wu, au, ru, rfl, hru⟩ := hU
  obtain ⟨wv, av, rv, rfl, hrv⟩ := hV
  refine PCalls.gh ?_
  refine pcalls_of_vp mix Try.func170 cf170 rfl ?_
  dsimp only [if170, qI, eI, nI, qD, eD]
  simp only [pwA, if_true, if_false, eq_self, nm_eq, reduceCtorEq, ↓reduceIte, Nat.reduceEqDiff, Nat.reduceLeDiff, Nat.reduceBEq, Nat.reduceAdd, Nat.reduceLT, Nat.reduceSub, Nat.reduceMul, Int.reduceEq, Int.reduceLT, Int.reduceLE, Int.reduceNeg, Int.reduceToNat, List.reduceReplicate, Int.ofNat_le, List.getElem?_drop]
  refine vp_loop (fun m vs h' => ∃ (i : Nat) (vA : PV) (rows : List PV) (E : List (List Int)), i ≤ u.length ∧ m = u.length - i ∧ vs = [.ptr sp 0, .fz wu au u.length ru, .fz wv av v.length rv, vA, .fz wu au u.length ru, .int .i64 u.length, .int .i64 i] ∧ Keep σ h' ∧ PAcc σ.next 1 h' vA E.length rows ∧ All2 FI rows E ∧ (∀ x ∈ E, gS O x) ∧ E.length ≤ i * v.length ∧ ∀ N, gN O P C N → ((∀ e ∈ E, N e) ↔ ∀ x ∈ u.take i, ∀ y ∈ v, N (gcom O P C x y))) u.length ?_ ?_
  · exact ⟨0, _, [], [], by omega, by omega, rfl, Keep.refl σ, PAcc.nil _ _ _, All2.nil _, by simp, by simp, fun N hN => by simp⟩
  rintro m vs h' ⟨i, vA, rows, E, hi, rfl, rfl, hkp, ha, hall, hE, hEl, hEN⟩
  have hil : i * v.length ≤ 100 * 100 := Nat.mul_le_mul (by omega) hvl
  simp only [pwA, if_true, if_false, eq_self, nm_eq, reduceCtorEq, ↓reduceIte, Nat.reduceEqDiff, Nat.reduceLeDiff, Nat.reduceBEq, Nat.reduceAdd, Nat.reduceLT, Nat.reduceSub, Nat.reduceMul, Int.reduceEq, Int.reduceLT, Int.reduceLE, Int.reduceNeg, Int.reduceToNat, List.reduceReplicate, Int.ofNat_le, List.getElem?_drop]
  refine iteI (fun hlt => ?_) fun hge => ?_
  rotate_left
  · have hie : i = u.length := by omega
    subst hie
    rw [List.take_length] at hEN
    have hkn := hkp.next
    simp only [pwA, if_true, if_false, eq_self, nm_eq, reduceCtorEq, ↓reduceIte, Nat.reduceEqDiff, Nat.reduceLeDiff, Nat.reduceBEq, Nat.reduceAdd, Nat.reduceLT, Nat.reduceSub, Nat.reduceMul, Int.reduceEq, Int.reduceLT, Int.reduceLE, Int.reduceNeg, Int.reduceToNat, List.reduceReplicate, Int.ofNat_le, List.getElem?_drop]
    refine PCalls.frz (s := h'.next) (cs := [.fz wu au u.length ru, .fz wv av v.length rv]) (by simp only [pwA, if_true, if_false, eq_self, nm_eq, reduceCtorEq, ↓reduceIte, Nat.reduceEqDiff, Nat.reduceLeDiff, Nat.reduceBEq, Nat.reduceAdd, Nat.reduceLT, Nat.reduceSub, Nat.reduceMul, Int.reduceEq, Int.reduceLT, Int.reduceLE, Int.reduceNeg, Int.reduceToNat, List.reduceReplicate, Int.ofNat_le, List.getElem?_drop]) ⟨trivial, trivial, trivial⟩ fun o1 => ?_
    simp only [pwA, if_true, if_false, eq_self, nm_eq, reduceCtorEq, ↓reduceIte, Nat.reduceEqDiff, Nat.reduceLeDiff, Nat.reduceBEq, Nat.reduceAdd, Nat.reduceLT, Nat.reduceSub, Nat.reduceMul, Int.reduceEq, Int.reduceLT, Int.reduceLE, Int.reduceNeg, Int.reduceToNat, List.reduceReplicate, Int.ofNat_le, List.getElem?_drop]
    simp only [sbs, Go.Ab.sb, capOK, decide_true, Nat.le_refl, and_self, if_true]
    refine ConcatC_ok (M := [ru, rv]) ⟨rfl, fun k c r hc hr => ?_⟩ ?_ (by simp) (by simp [hru.1, hrv.1]; omega) fun ac => ?_
    · match k with
      | 0 => cases hc; cases hr; exact ⟨wu, au, by rw [hru.1]⟩
      | 1 => cases hc; cases hr; exact ⟨wv, av, by rw [hrv.1]⟩
      | k + 2 => simp at hc
    · intro c hc
      simp only [List.mem_cons, List.not_mem_nil, or_false] at hc
      rcases hc with rfl | rfl
      · exact hru.bI 0
      · exact hrv.bI 0
    have hfl : [ru, rv].flatten = ru ++ rv := by simp
    have hrr : All2 FI (ru ++ rv) (u ++ v) := hru.append hrv
    have hkk : Keep σ ((h'.new [.fz wu au u.length ru, .fz wv av v.length rv]).kill h'.next) := (hkp.new _).kill hkn
    have hB : FII (.fz true ac (ru ++ rv).length (ru ++ rv)) (u ++ v) := ⟨true, ac, _, by rw [hrr.1], hrr⟩
    have hbb : ∀ x ∈ u ++ v, gS O x := fun x hx => (List.mem_append.1 hx).elim (hu x) (hv x)
    rw [hfl]
    simp only [pwA, if_true, if_false, eq_self, nm_eq, reduceCtorEq, ↓reduceIte, Nat.reduceEqDiff, Nat.reduceLeDiff, Nat.reduceBEq, Nat.reduceAdd, Nat.reduceLT, Nat.reduceSub, Nat.reduceMul, Int.reduceEq, Int.reduceLT, Int.reduceLE, Int.reduceNeg, Int.reduceToNat, List.reduceReplicate, Int.ofNat_le, List.getElem?_drop]
    rcases ha with ⟨rfl, h0, rfl⟩ | ⟨t, cap, rfl, hc1, q2, q3, q4, q5⟩
    · obtain rfl : E = [] := List.eq_nil_of_length_eq_zero h0
      refine closure_ok s F hC hp (hs.keep hkk) hR ⟨true, .nils, [], rfl, hall⟩ hE (by simp) hB hbb (by rw [List.length_append]; omega) fun w z f1 f2 f3 f4 => ?_
      simp only [pwA, if_true, if_false, eq_self, nm_eq, reduceCtorEq, ↓reduceIte, Nat.reduceEqDiff, Nat.reduceLeDiff, Nat.reduceBEq, Nat.reduceAdd, Nat.reduceLT, Nat.reduceSub, Nat.reduceMul, Int.reduceEq, Int.reduceLT, Int.reduceLE, Int.reduceNeg, Int.reduceToNat, List.reduceReplicate, Int.ofNat_le, List.getElem?_drop]
      exact Gh.fin0 hkk (f1.bel _) (hk w z f1 f2 f3 fun N hN => (f4 N hN).trans (hEN N hN))
    · have hne : ¬ t = h'.next := by omega
      refine PCalls.frz (s := t) (cs := rows) (by simp only [pwA, if_true, if_false, eq_self, nm_eq, reduceCtorEq, ↓reduceIte, Nat.reduceEqDiff, Nat.reduceLeDiff, Nat.reduceBEq, Nat.reduceAdd, Nat.reduceLT, Nat.reduceSub, Nat.reduceMul, Int.reduceEq, Int.reduceLT, Int.reduceLE, Int.reduceNeg, Int.reduceToNat, List.reduceReplicate, Int.ofNat_le, List.getElem?_drop, hne]; exact q2) (hall.bI 0) fun o2 => ?_
      simp only [sbs, Go.Ab.sb, hc1.ok, and_self, if_true]
      refine closure_ok s F hC hp (hs.keep (hkk.kill q4)) hR (L := E) ⟨true, _, rows, rfl, hall⟩ hE (by omega) hB hbb (by rw [List.length_append]; omega) fun w z f1 f2 f3 f4 => ?_
      simp only [pwA, if_true, if_false, eq_self, nm_eq, reduceCtorEq, ↓reduceIte, Nat.reduceEqDiff, Nat.reduceLeDiff, Nat.reduceBEq, Nat.reduceAdd, Nat.reduceLT, Nat.reduceSub, Nat.reduceMul, Int.reduceEq, Int.reduceLT, Int.reduceLE, Int.reduceNeg, Int.reduceToNat, List.reduceReplicate, Int.ofNat_le, List.getElem?_drop]
      exact Gh.fin0 (hkk.kill q4) (f1.bel _) (hk w z f1 f2 f3 fun N hN => (f4 N hN).trans (hEN N hN))
  obtain ⟨w4, a4, hr⟩ := hru.rowI hlt
  have hui := hu _ (List.getElem_mem hlt)
  simp only [pwA, if_true, if_false, eq_self, nm_eq, reduceCtorEq, ↓reduceIte, Nat.reduceEqDiff, Nat.reduceLeDiff, Nat.reduceBEq, Nat.reduceAdd, Nat.reduceLT, Nat.reduceSub, Nat.reduceMul, Int.reduceEq, Int.reduceLT, Int.reduceLE, Int.reduceNeg, Int.reduceToNat, List.reduceReplicate, Int.ofNat_le, List.getElem?_drop, hlt, hr, List.getElem?_drop]
  refine vp_loop (fun m vs h2 => ∃ (q : Nat) (vA : PV) (rows : List PV) (E : List (List Int)), q ≤ v.length ∧ m = v.length - q ∧ vs = [.ptr sp 0, .fz wu au u.length ru, .fz wv av v.length rv, vA, .fz w4 a4 u[i].length (pis u[i]), .fz wu au u.length ru, .int .i64 u.length, .int .i64 i, .fz wv av v.length rv, .int .i64 v.length, .int .i64 q] ∧ Keep σ h2 ∧ PAcc σ.next 1 h2 vA E.length rows ∧ All2 FI rows E ∧ (∀ x ∈ E, gS O x) ∧ E.length ≤ i * v.length + q ∧ ∀ N, gN O P C N → ((∀ e ∈ E, N e) ↔ ((∀ x ∈ u.take i, ∀ y ∈ v, N (gcom O P C x y)) ∧ ∀ y ∈ v.take q, N (gcom O P C u[i] y)))) v.length ?_ ?_
  · exact ⟨0, vA, rows, E, by omega, by omega, rfl, hkp, ha, hall, hE, hEl, fun N hN => (hEN N hN).trans (by simp)⟩
  clear hkp ha hall hE hEl hEN rows E vA
  rintro m vs h2 ⟨q, vA, rows, E, hq, rfl, rfl, hkp, ha, hall, hE, hEl, hEN⟩
  simp only [pwA, if_true, if_false, eq_self, nm_eq, reduceCtorEq, ↓reduceIte, Nat.reduceEqDiff, Nat.reduceLeDiff, Nat.reduceBEq, Nat.reduceAdd, Nat.reduceLT, Nat.reduceSub, Nat.reduceMul, Int.reduceEq, Int.reduceLT, Int.reduceLE, Int.reduceNeg, Int.reduceToNat, List.reduceReplicate, Int.ofNat_le, List.getElem?_drop]
  refine iteI (fun hltq => ?_) fun hgeq => ?_
  rotate_left
  · have hqe : q = v.length := by omega
    subst hqe
    rw [List.take_length] at hEN
    simp only [pwA, if_true, if_false, eq_self, nm_eq, reduceCtorEq, ↓reduceIte, Nat.reduceEqDiff, Nat.reduceLeDiff, Nat.reduceBEq, Nat.reduceAdd, Nat.reduceLT, Nat.reduceSub, Nat.reduceMul, Int.reduceEq, Int.reduceLT, Int.reduceLE, Int.reduceNeg, Int.reduceToNat, List.reduceReplicate, Int.ofNat_le, List.getElem?_drop, wrapS hlt (by omega : u.length ≤ 4611686018427387904)]
    refine ⟨_, by omega, i + 1, vA, rows, E, by omega, rfl, rfl, hkp, ha, hall, hE, by rw [Nat.succ_mul]; exact hEl, fun N hN => (hEN N hN).trans ?_⟩
    rw [List.take_succ_eq_append_getElem hlt]
    simp only [List.mem_append, List.mem_singleton]
    exact ⟨fun ⟨h1, h2⟩ x hx y hy => hx.elim (fun h => h1 x h y hy) (fun h => by rw [h]; exact h2 y hy), fun h => ⟨fun x hx y hy => h x (.inl hx) y hy, fun y hy => h _ (.inr rfl) y hy⟩⟩
  obtain ⟨w5, a5, hr5⟩ := hrv.rowI hltq
  have hvq := hv _ (List.getElem_mem hltq)
  simp only [pwA, if_true, if_false, eq_self, nm_eq, reduceCtorEq, ↓reduceIte, Nat.reduceEqDiff, Nat.reduceLeDiff, Nat.reduceBEq, Nat.reduceAdd, Nat.reduceLT, Nat.reduceSub, Nat.reduceMul, Int.reduceEq, Int.reduceLT, Int.reduceLE, Int.reduceNeg, Int.reduceToNat, List.reduceReplicate, Int.ofNat_le, List.getElem?_drop, hltq, hr5, List.getElem?_drop]
  refine commutator_fz s F (hs.keep hkp) hR hui hvq ⟨w4, a4, rfl⟩ ⟨w5, a5, rfl⟩ fun vc fc => ?_
  have fc' := fc
  obtain ⟨wc, ac, rfl⟩ := fc
  simp only [pwA, if_true, if_false, eq_self, nm_eq, reduceCtorEq, ↓reduceIte, Nat.reduceEqDiff, Nat.reduceLeDiff, Nat.reduceBEq, Nat.reduceAdd, Nat.reduceLT, Nat.reduceSub, Nat.reduceMul, Int.reduceEq, Int.reduceLT, Int.reduceLE, Int.reduceNeg, Int.reduceToNat, List.reduceReplicate, Int.ofNat_le, List.getElem?_drop]
  refine PAcc.push (bytes := 24) hkp ha (by omega) (by omega) fun v' h3 k3 a3 => ?_
  simp only [pwA, if_true, if_false, eq_self, nm_eq, reduceCtorEq, ↓reduceIte, Nat.reduceEqDiff, Nat.reduceLeDiff, Nat.reduceBEq, Nat.reduceAdd, Nat.reduceLT, Nat.reduceSub, Nat.reduceMul, Int.reduceEq, Int.reduceLT, Int.reduceLE, Int.reduceNeg, Int.reduceToNat, List.reduceReplicate, Int.ofNat_le, List.getElem?_drop, wrapS hltq (by omega : v.length ≤ 4611686018427387904)]
  refine ⟨_, by omega, q + 1, v', rows ++ [.fz wc ac (gcom O P C u[i] v[q]).length (pis (gcom O P C u[i] v[q]))], E ++ [gcom O P C u[i] v[q]], by omega, rfl, rfl, k3, by rw [List.length_append]; exact a3.acc, hall.snoc fc', fun x hx => ?_, by rw [List.length_append, List.length_singleton]; omega, fun N hN => ?_⟩
  · rcases List.mem_append.1 hx with hx | hx
    · exact hE x hx
    · rw [List.mem_singleton.1 hx]; exact G.com_in hui hvq
  · rw [List.take_succ_eq_append_getElem hltq]
    simp only [List.mem_append, List.mem_singleton]
    have := hEN N hN
    constructor
    · intro h
      obtain ⟨h1, h2⟩ := this.1 fun e he => h e (.inl he)
      exact ⟨h1, fun y hy => hy.elim (h2 y) (fun e => by rw [e]; exact h _ (.inr rfl))⟩
    · rintro ⟨h1, h2⟩ e he
      rcases he with he | he
      · exact this.2 ⟨h1, fun y hy => h2 y (.inl hy)⟩ e he
      · rw [he]; exact h2 _ (.inr rfl)
theorem next_step (hz : Ones O z') (s : Shp O P C) (hN : ∀ N, gN O P C N → ((∀ x ∈ z', N x) ↔ ∀ x ∈ u, ∀ y ∈ unitsG O, N (gcom O P C x y))) : SStep O P C u z' := by
  refine ⟨fun x hx => ⟨(hz x hx).1, dep_ne_zv s (hz x hx).2.1⟩, fun x => ?_⟩
  have e : ∀ N, gN O P C N → ((∀ l, memL z' l → N l) ↔ ∀ l, cs O P C (memL u) l → N l) := fun N h => (hN N h).trans ⟨fun h1 l hl => by
    obtain ⟨x, i, hx, hi, rfl⟩ := hl
    exact h1 x hx _ (List.mem_map.2 ⟨i, List.mem_range.2 hi, rfl⟩), fun h1 x hx y hy => by
    obtain ⟨i, hi, rfl⟩ := List.mem_map.1 hy
    exact h1 _ ⟨x, i, hx, List.mem_range.1 hi, rfl⟩⟩
  exact ⟨fun h N h1 h2 => h N h1 ((e N h1).2 h2), fun h N h1 h2 => h N h1 ((e N h1).1 h2)⟩
end Go.Proofs
set_option linter.unusedSimpArgs false
set_option linter.unusedVariables false
namespace Go.Proofs
open Go.Ab Go.Lie Go.Grp
variable {σ : PHeap} {K : PV → PHeap → Prop} {O : List Int} {P : List (List Int)} {C : List (List (List Int))} {vO vP vC vx vy vL vU vV vB vg : PV} {x y z f a b g : List Int} {L u v z' : List (List Int)} {rP rC rb : List PV} {d j sp ss sb n : Nat}
theorem okFlc : okF Try.prog 169 = true := by kernel_rfl
theorem next1_ok {b : Nat} (s : Shp O P C) (F : Full O P C O.length) (hC : Cent O C) (hp : ∀ o ∈ O, isP o) (hb : σ.rd1 b 0 = some (.ptr sp 0)) (hs : PtrG σ sp vO vP vC) (hR : IsPr vO vP vC O P C) (hU : FII vU u) (hu : ∀ x ∈ u, gS O x) (hul : u.length ≤ 100)
    (hk : ∀ w z, FII w z → z.length ≤ O.length → SStep O P C u z → K w σ) : PCalls Try.prog 169 [vU, .ptr b 0] σ K := by
  have hn6 := s.le
  have hUU := hU
  obtain ⟨wu, au, ru, rfl, hru⟩ := hU
  refine pcalls_of_vp mix Try.func169 cf169 rfl ?_
  dsimp only [if169, qI, eI, nI, qD, eD]
  simp only [pwA, if_true, if_false, eq_self, nm_eq, reduceCtorEq, ↓reduceIte, Nat.reduceEqDiff, Nat.reduceLeDiff, Nat.reduceBEq, Nat.reduceAdd, Nat.reduceLT, Nat.reduceSub, Nat.reduceMul, Int.reduceEq, Int.reduceLT, Int.reduceLE, Int.reduceNeg, Int.reduceToNat, List.reduceReplicate, Int.ofNat_le, List.getElem?_drop, hb]
  refine whole_ok s hs hR fun vW hW => ?_
  have hWW := hW
  obtain ⟨ww, aw, rw_, rfl, hrw⟩ := hW
  simp only [pwA, if_true, if_false, eq_self, nm_eq, reduceCtorEq, ↓reduceIte, Nat.reduceEqDiff, Nat.reduceLeDiff, Nat.reduceBEq, Nat.reduceAdd, Nat.reduceLT, Nat.reduceSub, Nat.reduceMul, Int.reduceEq, Int.reduceLT, Int.reduceLE, Int.reduceNeg, Int.reduceToNat, List.reduceReplicate, Int.ofNat_le, List.getElem?_drop, hb]
  refine commutatorSubgroup_ok s F hC hp hs hR hUU hu hul hWW (fun x hx => (unitsG_ok s F x hx).1) (by unfold unitsG; simp; omega) fun w z f1 f2 f3 f4 => ?_
  simp only [pwA, if_true, if_false, eq_self, nm_eq, reduceCtorEq, ↓reduceIte, Nat.reduceEqDiff, Nat.reduceLeDiff, Nat.reduceBEq, Nat.reduceAdd, Nat.reduceLT, Nat.reduceSub, Nat.reduceMul, Int.reduceEq, Int.reduceLT, Int.reduceLE, Int.reduceNeg, Int.reduceToNat, List.reduceReplicate, Int.ofNat_le, List.getElem?_drop]
  exact hk w z f1 f3 (next_step f2 s f4)
theorem series_g {b : Nat} (s : Shp O P C) (F : Full O P C O.length) (hC : Cent O C) (hp : ∀ o ∈ O, isP o) (hb : σ.obj b = some [.ptr sp 0]) (hbl : b < σ.next) (hs : PtrG σ sp vO vP vC) (hR : IsPr vO vP vC O P C) (hU : FII vU (unitsG O))
    (hk : ∀ c a rows, (Lc O P C c = [] ∧ c ≤ O.length ∧ ∀ j, j < c → Lc O P C j ≠ []) → K (.fz true a (c + 1) rows) σ) : PCalls Try.prog 167 [vU, .clo 169 [] [.ptr b 0]] σ K := by
  have hn6 := s.le
  have h1 := hU.one
  have h1c := hU.cells
  refine PCalls.gh ?_
  refine pcalls_of_vp mix Try.func167 cf167 rfl ?_
  dsimp only [if167, qI, eI, nI, qD, eD]
  simp only [pwA, if_true, if_false, eq_self, nm_eq, reduceCtorEq, ↓reduceIte, Nat.reduceEqDiff, Nat.reduceLeDiff, Nat.reduceBEq, Nat.reduceAdd, Nat.reduceLT, Nat.reduceSub, Nat.reduceMul, Int.reduceEq, Int.reduceLT, Int.reduceLE, Int.reduceNeg, Int.reduceToNat, List.reduceReplicate, Int.ofNat_le, List.getElem?_drop, h1, h1c]
  refine vp_loop (fun m vs h' => ∃ k u us rows v, m = O.length + 1 - k ∧ k ≤ O.length ∧ vs = [.clo 169 [] [.ptr b 0], v] ∧ Keep σ h' ∧ PSl σ.next 1 h' v (k + 1) rows ∧ All2 FII rows us ∧ us.length = k + 1 ∧ us[k]? = some u ∧ SRel O P C u (Lc O P C k) ∧ u.length ≤ 6 ∧ ∀ j, j < k → Lc O P C j ≠ []) (O.length + 1) ?_ ?_
  · exact ⟨0, unitsG O, [unitsG O], [vU], _, by omega, by omega, rfl, keep_new σ _, PSl.new _ 1 rfl (Nat.le_refl _), All2.nil _ |>.snoc hU, rfl, rfl, SRel.start s F, by unfold unitsG; simp; omega, fun j hj => by omega⟩
  rintro m vs h' ⟨k, u, us, rows, v, rfl, hkn, rfl, hkp, ha, hall, hul, huk, hrel, hu6, hbef⟩
  obtain ⟨s', cap, rfl, hc, q2, q3, q4, q5⟩ := ha
  have hku : k < us.length := by omega
  obtain ⟨vk, hvk, hFk⟩ := hall.get hku
  have huk' : us[k] = u := by rw [List.getElem?_eq_getElem hku] at huk; exact Option.some.inj huk
  rw [huk'] at hFk
  have hrd : h'.rd1 s' k = some vk := by rw [obj_rd1 q2]; exact hvk
  have hw : IntKind.i64.wrap (((k + 1 : Nat) : Int) - 1) = (k : Int) := by rw [wrap64 (by omega) (by omega)]; omega
  have hkk : k < k + 1 := Nat.lt_succ_self k
  have hb' : h'.rd1 b 0 = some (.ptr sp 0) := by rw [obj_rd1 (by rw [hkp.obj b hbl]; exact hb)]; rfl
  have hFF := hFk
  obtain ⟨wk, ak, rk, rfl, hrk⟩ := hFk
  simp only [pwA, if_true, if_false, eq_self, nm_eq, reduceCtorEq, ↓reduceIte, Nat.reduceEqDiff, Nat.reduceLeDiff, Nat.reduceBEq, Nat.reduceAdd, Nat.reduceLT, Nat.reduceSub, Nat.reduceMul, Int.reduceEq, Int.reduceLT, Int.reduceLE, Int.reduceNeg, Int.reduceToNat, List.reduceReplicate, Int.ofNat_le, List.getElem?_drop, hw, hkk, hrd]
  refine ⟨okFlc, next1_ok s F hC hp hb' (hs.keep hkp) hR hFF (fun x hx => (hrel.ou x hx).1) (by omega) fun vo out hFo hol hst => ?_⟩
  have hFFo := hFo
  obtain ⟨wo, ao, ro, rfl, hro⟩ := hFo
  have hnx := SRel.step s F hrel hst
  simp only [pwA, if_true, if_false, eq_self, nm_eq, reduceCtorEq, ↓reduceIte, Nat.reduceEqDiff, Nat.reduceLeDiff, Nat.reduceBEq, Nat.reduceAdd, Nat.reduceLT, Nat.reduceSub, Nat.reduceMul, Int.reduceEq, Int.reduceLT, Int.reduceLE, Int.reduceNeg, Int.reduceToNat, List.reduceReplicate, Int.ofNat_le, List.getElem?_drop, hw, hkk, hrd]
  refine sameRows_ok hFFo hFF (by omega) (fun x hx => by rw [(hst.ok x hx).1.len]; omega) fun t ht => ?_
  cases t
  · have hne : out ≠ u := fun e => by have := ht.2 e; cases this
    have hLk : Lc O P C k ≠ [] := fun e => by
      have hu0 := (SRel.nil s F hrel).2 e
      have : out = [] := (SRel.nil s F hnx).2 (by rw [e]; rfl)
      exact hne (by rw [this, hu0])
    have hkn' := Lc_lt s F hC hLk hkn
    simp only [pwA, if_true, if_false, eq_self, nm_eq, reduceCtorEq, ↓reduceIte, Nat.reduceEqDiff, Nat.reduceLeDiff, Nat.reduceBEq, Nat.reduceAdd, Nat.reduceLT, Nat.reduceSub, Nat.reduceMul, Int.reduceEq, Int.reduceLT, Int.reduceLE, Int.reduceNeg, Int.reduceToNat, List.reduceReplicate, Int.ofNat_le, List.getElem?_drop]
    refine PSl.push (bytes := 24) (σb := σ) hkp ⟨s', cap, rfl, hc, q2, q3, q4, q5⟩ (by omega) (by omega) fun v2 h2 k2 a2 => ?_
    simp only [pwA, if_true, if_false, eq_self, nm_eq, reduceCtorEq, ↓reduceIte, Nat.reduceEqDiff, Nat.reduceLeDiff, Nat.reduceBEq, Nat.reduceAdd, Nat.reduceLT, Nat.reduceSub, Nat.reduceMul, Int.reduceEq, Int.reduceLT, Int.reduceLE, Int.reduceNeg, Int.reduceToNat, List.reduceReplicate, Int.ofNat_le, List.getElem?_drop]
    refine ⟨_, ?_, k + 1, out, us ++ [out], _, v2, rfl, by omega, rfl, k2, a2, hall.snoc hFFo, by rw [List.length_append, hul]; rfl, ?_, hnx, by omega, fun j hj => ?_⟩
    · omega
    · rw [List.getElem?_append_right (by omega), hul, Nat.sub_self]; rfl
    · by_cases x : j = k
      · subst x; exact hLk
      · exact hbef j (by omega)
  · obtain rfl : out = u := ht.1 rfl
    have hu0 := SRel.stop s F hC hrel hst
    simp only [pwA, if_true, if_false, eq_self, nm_eq, reduceCtorEq, ↓reduceIte, Nat.reduceEqDiff, Nat.reduceLeDiff, Nat.reduceBEq, Nat.reduceAdd, Nat.reduceLT, Nat.reduceSub, Nat.reduceMul, Int.reduceEq, Int.reduceLT, Int.reduceLE, Int.reduceNeg, Int.reduceToNat, List.reduceReplicate, Int.ofNat_le, List.getElem?_drop]
    exact Gh.finF hkp q2 q4 (hall.bL 0) hc.ok fun o1 => hk k _ _ ⟨(SRel.nil s F hrel).1 hu0, hkn, hbef⟩
theorem lowerCentral_ok (s : Shp O P C) (F : Full O P C O.length) (hC : Cent O C) (hp : ∀ o ∈ O, isP o) (hs : PtrG σ sp vO vP vC) (hR : IsPr vO vP vC O P C) (hk : ∀ c a rows, (Lc O P C c = [] ∧ c ≤ O.length ∧ ∀ j, j < c → Lc O P C j ≠ []) → K (.fz true a (c + 1) rows) σ) : PCalls Try.prog 114 [.ptr sp 0] σ K := by
  refine PCalls.gh ?_
  refine pcalls_of_vp mix Try.func114 cf114 rfl ?_
  dsimp only [if114, qI, eI, nI, qD, eD]
  simp only [pwA, if_true, if_false, eq_self, nm_eq, reduceCtorEq, ↓reduceIte, Nat.reduceEqDiff, Nat.reduceLeDiff, Nat.reduceBEq, Nat.reduceAdd, Nat.reduceLT, Nat.reduceSub, Nat.reduceMul, Int.reduceEq, Int.reduceLT, Int.reduceLE, Int.reduceNeg, Int.reduceToNat, List.reduceReplicate, Int.ofNat_le, List.getElem?_drop]
  have hs1 := hs.new [.ptr sp 0]
  refine whole_ok s hs1 hR fun vV hV => ?_
  have hVV := hV
  obtain ⟨wv, av, rv, rfl, hrv⟩ := hV
  simp only [pwA, if_true, if_false, eq_self, nm_eq, reduceCtorEq, ↓reduceIte, Nat.reduceEqDiff, Nat.reduceLeDiff, Nat.reduceBEq, Nat.reduceAdd, Nat.reduceLT, Nat.reduceSub, Nat.reduceMul, Int.reduceEq, Int.reduceLT, Int.reduceLE, Int.reduceNeg, Int.reduceToNat, List.reduceReplicate, Int.ofNat_le, List.getElem?_drop]
  refine series_g (b := σ.next) s F hC hp (by simp only [pwA, if_true, if_false, eq_self, nm_eq, reduceCtorEq, ↓reduceIte, Nat.reduceEqDiff, Nat.reduceLeDiff, Nat.reduceBEq, Nat.reduceAdd, Nat.reduceLT, Nat.reduceSub, Nat.reduceMul, Int.reduceEq, Int.reduceLT, Int.reduceLE, Int.reduceNeg, Int.reduceToNat, List.reduceReplicate, Int.ofNat_le, List.getElem?_drop]) (by simp only [pwA, if_true, if_false, eq_self, nm_eq, reduceCtorEq, ↓reduceIte, Nat.reduceEqDiff, Nat.reduceLeDiff, Nat.reduceBEq, Nat.reduceAdd, Nat.reduceLT, Nat.reduceSub, Nat.reduceMul, Int.reduceEq, Int.reduceLT, Int.reduceLE, Int.reduceNeg, Int.reduceToNat, List.reduceReplicate, Int.ofNat_le, List.getElem?_drop]) hs1 hR hVV fun c a rows hc => ?_
  simp only [pwA, if_true, if_false, eq_self, nm_eq, reduceCtorEq, ↓reduceIte, Nat.reduceEqDiff, Nat.reduceLeDiff, Nat.reduceBEq, Nat.reduceAdd, Nat.reduceLT, Nat.reduceSub, Nat.reduceMul, Int.reduceEq, Int.reduceLT, Int.reduceLE, Int.reduceNeg, Int.reduceToNat, List.reduceReplicate, Int.ofNat_le, List.getElem?_drop]
  exact Gh.fin0 (keep_new σ _) trivial (hk c a rows hc)
/-- The class is less than the prime. -/
def clsOk (O : List Int) (P : List (List Int)) (C : List (List (List Int))) : Prop := O = [] ∨ ∃ k : Nat, (k : Int) < at_ O 0 ∧ Lc O P C k = []
def isLG (O : List Int) (P : List (List Int)) (C : List (List (List Int))) : Prop := ((isPres O P C ∧ Cons O P C) ∧ isCen O C) ∧ clsOk O P C
theorem Cons.full (s : Shp O P C) (hc : Cons O P C) : Full O P C O.length := full_of s (Nat.le_refl _) fun j _ h => hc j h
theorem isPres.isp (h : isPres O P C) : ∀ o ∈ O, isP o := h.2.2.2.1
theorem isLazardGroup_in (h : isPres O P C) (hc : Cons O P C) (hs : PtrG σ sp vO vP vC) (hR : IsPr vO vP vC O P C) (hk : ∀ t : Bool, (t = true ↔ isCen O C ∧ clsOk O P C) → K (.bool t) σ) : PCalls Try.prog 69 [.ptr sp 0] σ K := by
  have fl : ∀ {A : Prop}, ¬ A → ((false = true) ↔ A) := fun h => ⟨fun x => (by cases x), fun x => absurd x h⟩
  have s := h.shp
  have hn6 := s.le
  have F := Cons.full s hc
  have hR0 := hR
  obtain ⟨⟨w0, a0, rfl⟩, _, _⟩ := hR
  have e0 : σ.rd1 sp 0 = some (.fz w0 a0 O.length (pis O)) := by rw [obj_rd1 hs.obj]; rfl
  refine pcalls_of_vp mix Try.func69 cf69 rfl ?_
  dsimp only [if69, qI, eI, nI, qD, eD]
  simp only [pwA, if_true, if_false, eq_self, nm_eq, reduceCtorEq, ↓reduceIte, Nat.reduceEqDiff, Nat.reduceLeDiff, Nat.reduceBEq, Nat.reduceAdd, Nat.reduceLT, Nat.reduceSub, Nat.reduceMul, Int.reduceEq, Int.reduceLT, Int.reduceLE, Int.reduceNeg, Int.reduceToNat, List.reduceReplicate, Int.ofNat_le, List.getElem?_drop]
  refine isCentral_ok s hs hR0 fun t ht => ?_
  cases t with
  | false =>
    simp only [pwA, if_true, if_false, eq_self, nm_eq, reduceCtorEq, ↓reduceIte, Nat.reduceEqDiff, Nat.reduceLeDiff, Nat.reduceBEq, Nat.reduceAdd, Nat.reduceLT, Nat.reduceSub, Nat.reduceMul, Int.reduceEq, Int.reduceLT, Int.reduceLE, Int.reduceNeg, Int.reduceToNat, List.reduceReplicate, Int.ofNat_le, List.getElem?_drop]
    exact hk _ (fl fun h => by cases ht.2 h.1)
  | true =>
  have hcen := ht.1 rfl
  simp only [pwA, if_true, if_false, eq_self, nm_eq, reduceCtorEq, ↓reduceIte, Nat.reduceEqDiff, Nat.reduceLeDiff, Nat.reduceBEq, Nat.reduceAdd, Nat.reduceLT, Nat.reduceSub, Nat.reduceMul, Int.reduceEq, Int.reduceLT, Int.reduceLE, Int.reduceNeg, Int.reduceToNat, List.reduceReplicate, Int.ofNat_le, List.getElem?_drop]
  refine lowerCentral_ok s F (hcen.cent s) h.isp hs hR0 fun c a rows ⟨h1, h2, h3⟩ => ?_
  by_cases hO : O.length = 0
  · have hOn : O = [] := List.eq_nil_of_length_eq_zero hO
    have hOI : ((O.length : Int) = 0) = True := eq_true (by omega)
    simp only [pwA, if_true, if_false, eq_self, nm_eq, reduceCtorEq, ↓reduceIte, Nat.reduceEqDiff, Nat.reduceLeDiff, Nat.reduceBEq, Nat.reduceAdd, Nat.reduceLT, Nat.reduceSub, Nat.reduceMul, Int.reduceEq, Int.reduceLT, Int.reduceLE, Int.reduceNeg, Int.reduceToNat, List.reduceReplicate, Int.ofNat_le, List.getElem?_drop, e0, hOI]
    exact hk _ ⟨fun _ => ⟨hcen, .inl hOn⟩, fun _ => rfl⟩
  · have hw : IntKind.i64.wrap (((c + 1 : Nat) : Int) - 1) = (c : Int) := by rw [wrap64 (by omega) (by omega)]; omega
    have h0 : 0 < O.length := by omega
    have h0I : (0 : Int) < (O.length : Int) := by omega
    have hO' : ¬ (O.length : Int) = 0 := by omega
    simp only [pwA, if_true, if_false, eq_self, nm_eq, reduceCtorEq, ↓reduceIte, Nat.reduceEqDiff, Nat.reduceLeDiff, Nat.reduceBEq, Nat.reduceAdd, Nat.reduceLT, Nat.reduceSub, Nat.reduceMul, Int.reduceEq, Int.reduceLT, Int.reduceLE, Int.reduceNeg, Int.reduceToNat, List.reduceReplicate, Int.ofNat_le, List.getElem?_drop, e0, hO, hO', hw, h0, h0I, pisAt h0, List.getElem?_drop]
    refine hk _ ?_
    rw [decide_eq_true_iff]
    constructor
    · intro h; exact ⟨hcen, .inr ⟨c, h, h1⟩⟩
    · rintro ⟨_, h | ⟨k, hk1, hk2⟩⟩
      · rw [h] at h0; simp at h0
      · rcases Nat.lt_or_ge k c with x | x
        · exact absurd hk2 (h3 k x)
        · omega
end Go.Proofs
set_option linter.unusedSimpArgs false
set_option linter.unusedVariables false
namespace Go.Proofs
open Go.Ab Go.Lie Go.Grp
variable {σ : PHeap} {K : PV → PHeap → Prop} {O : List Int} {P : List (List Int)} {C : List (List (List Int))} {vO vP vC vx vy vL vU vV vB vg : PV} {x y z f a b g : List Int} {L u v z' : List (List Int)} {rP rC rb : List PV} {d j sp ss sb n : Nat}
theorem Lc_len (s : Shp O P C) : ∀ k, (Lc O P C k).length ≤ 6 ^ (k + 1)
  | 0 => by
    have := s.le
    show (unitsG O).length ≤ _
    unfold unitsG; simp; omega
  | k + 1 => by
    have h1 := comL_len s (Lc O P C k)
    have h2 := Lc_len s k
    show (comL O P C (Lc O P C k)).length ≤ _
    rw [Nat.pow_succ]; omega
theorem l34Class_ok (h : isPres O P C) (hc : Cons O P C) (hcen : isCen O C) (hR : IsPr vO vP vC O P C) (hk : ∀ t : Bool, (t = true ↔ clsOk O P C) → K (.bool t) σ) : PCalls Try.prog 68 [.agg [vO, vP, vC]] σ K := by
  have s := h.shp
  have hn6 := s.le
  have F := Cons.full s hc
  have hC := hcen.cent s
  have hR0 := hR
  obtain ⟨⟨w0, a0, rfl⟩, ⟨w1, a1, rP, rfl, hP⟩, ⟨w3, a3, rC, rfl, hC3⟩⟩ := hR
  refine PCalls.gh ?_
  have hkp0 : Keep σ (σ.new [.fz w0 a0 O.length (pis O), .fz w1 a1 P.length rP, .fz w3 a3 C.length rC]) := keep_new σ _
  have hobj : ∀ {h' : PHeap}, Keep (σ.new [.fz w0 a0 O.length (pis O), .fz w1 a1 P.length rP, .fz w3 a3 C.length rC]) h' → h'.obj σ.next = some [.fz w0 a0 O.length (pis O), .fz w1 a1 P.length rP, .fz w3 a3 C.length rC] := fun {h'} hk' => by
    rw [hk'.obj _ (by simp [PHeap.new])]; simp [PHeap.new]
  have hrd3 : ∀ {h' : PHeap}, Keep (σ.new [.fz w0 a0 O.length (pis O), .fz w1 a1 P.length rP, .fz w3 a3 C.length rC]) h' → h'.rd σ.next 0 3 = some [.fz w0 a0 O.length (pis O), .fz w1 a1 P.length rP, .fz w3 a3 C.length rC] := fun {h'} hk' => by
    simp [PHeap.rd, hobj hk']
  have hrd0 : ∀ {h' : PHeap}, Keep (σ.new [.fz w0 a0 O.length (pis O), .fz w1 a1 P.length rP, .fz w3 a3 C.length rC]) h' → h'.rd1 σ.next 0 = some (.fz w0 a0 O.length (pis O)) := fun {h'} hk' => by
    rw [obj_rd1 (hobj hk')]; rfl
  refine pcalls_of_vp mix Try.func68 cf68 rfl ?_
  dsimp only [if68, qI, eI, nI, qD, eD]
  simp only [pwA, if_true, if_false, eq_self, nm_eq, reduceCtorEq, ↓reduceIte, Nat.reduceEqDiff, Nat.reduceLeDiff, Nat.reduceBEq, Nat.reduceAdd, Nat.reduceLT, Nat.reduceSub, Nat.reduceMul, Int.reduceEq, Int.reduceLT, Int.reduceLE, Int.reduceNeg, Int.reduceToNat, List.reduceReplicate, Int.ofNat_le, List.getElem?_drop]
  refine vp_loop (fun m vs h' => ∃ (i : Nat) (v : PV) (rows : List PV), i ≤ O.length ∧ m = O.length - i ∧ vs = [.ptr σ.next 0, .int .i64 O.length, v, .int .i64 i] ∧ Keep (σ.new [.fz w0 a0 O.length (pis O), .fz w1 a1 P.length rP, .fz w3 a3 C.length rC]) h' ∧ PSl (σ.next + 1) 1 h' v i rows ∧ All2 FI rows ((List.range i).map (Grp.unit O))) O.length ?_ ?_
  · exact ⟨0, _, [], by omega, by omega, rfl, keep_new _ _, PSl.new (σ.next + 1) 1 rfl (Nat.le_refl _), All2.nil _⟩
  rintro m vs h' ⟨i, v, rows, hi, rfl, rfl, hkp, ha, hall⟩
  simp only [pwA, if_true, if_false, eq_self, nm_eq, reduceCtorEq, ↓reduceIte, Nat.reduceEqDiff, Nat.reduceLeDiff, Nat.reduceBEq, Nat.reduceAdd, Nat.reduceLT, Nat.reduceSub, Nat.reduceMul, Int.reduceEq, Int.reduceLT, Int.reduceLE, Int.reduceNeg, Int.reduceToNat, List.reduceReplicate, Int.ofNat_le, List.getElem?_drop]
  refine iteI (fun hlt => ?_) fun hge => ?_
  · have hlt' : i < O.length := by omega
    simp only [pwA, if_true, if_false, eq_self, nm_eq, reduceCtorEq, ↓reduceIte, Nat.reduceEqDiff, Nat.reduceLeDiff, Nat.reduceBEq, Nat.reduceAdd, Nat.reduceLT, Nat.reduceSub, Nat.reduceMul, Int.reduceEq, Int.reduceLT, Int.reduceLE, Int.reduceNeg, Int.reduceToNat, List.reduceReplicate, Int.ofNat_le, List.getElem?_drop]
    refine l07Unit_ok (by omega) hlt' fun vu fu => ?_
    have fu' : FI vu (Grp.unit O i) := fu
    obtain ⟨wu, au, rfl⟩ := fu
    simp only [pwA, if_true, if_false, eq_self, nm_eq, reduceCtorEq, ↓reduceIte, Nat.reduceEqDiff, Nat.reduceLeDiff, Nat.reduceBEq, Nat.reduceAdd, Nat.reduceLT, Nat.reduceSub, Nat.reduceMul, Int.reduceEq, Int.reduceLT, Int.reduceLE, Int.reduceNeg, Int.reduceToNat, List.reduceReplicate, Int.ofNat_le, List.getElem?_drop]
    refine PSl.push (bytes := 24) (σb := σ.new [.fz w0 a0 O.length (pis O), .fz w1 a1 P.length rP, .fz w3 a3 C.length rC]) hkp ha (by omega) (by omega) fun v' h2 k2 a2 => ?_
    simp only [pwA, if_true, if_false, eq_self, nm_eq, reduceCtorEq, ↓reduceIte, Nat.reduceEqDiff, Nat.reduceLeDiff, Nat.reduceBEq, Nat.reduceAdd, Nat.reduceLT, Nat.reduceSub, Nat.reduceMul, Int.reduceEq, Int.reduceLT, Int.reduceLE, Int.reduceNeg, Int.reduceToNat, List.reduceReplicate, Int.ofNat_le, List.getElem?_drop, wrapS hlt' (by omega : O.length ≤ 4611686018427387904)]
    refine ⟨_, by omega, i + 1, v', _, by omega, rfl, rfl, k2, a2, ?_⟩
    rw [unitsG_take]
    exact hall.snoc fu'
  have hie : i = O.length := by omega
  subst hie
  obtain ⟨t, cap, rfl, hc1, q2, q3, q4, q5⟩ := ha
  simp only [pwA, if_true, if_false, eq_self, nm_eq, reduceCtorEq, ↓reduceIte, Nat.reduceEqDiff, Nat.reduceLeDiff, Nat.reduceBEq, Nat.reduceAdd, Nat.reduceLT, Nat.reduceSub, Nat.reduceMul, Int.reduceEq, Int.reduceLT, Int.reduceLE, Int.reduceNeg, Int.reduceToNat, List.reduceReplicate, Int.ofNat_le, List.getElem?_drop]
  refine vp_loopG (fun m vs h' => ∃ (k : Nat) (v : PV), m = 7 - k ∧ k < 7 ∧ (O ≠ [] → (k : Int) < at_ O 0) ∧ vs = [.ptr σ.next 0, .int .i64 O.length, v, .int .i64 ((k + 1 : Nat) : Int)] ∧ Keep (σ.new [.fz w0 a0 O.length (pis O), .fz w1 a1 P.length rP, .fz w3 a3 C.length rC]) h' ∧ FII v (Lc O P C k) ∧ (O = [] → k = 0)) 7 ?_ ?_
  · refine .fz t rows q2 (hall.bI 0) fun o1 => .here ⟨0, .fz true (.sl o1 0 O.length cap) O.length rows, rfl, by omega, fun hO => ?_, ?_, hkp.kill q4, ⟨true, _, rows, by rw [show (Lc O P C 0).length = O.length by simp [Lc, unitsG]], hall⟩, fun _ => rfl⟩
    · have := (s.pr 0 (List.length_pos_iff.2 hO)).1; omega
    · simp only [pwA, if_true, if_false, eq_self, nm_eq, reduceCtorEq, ↓reduceIte, Nat.reduceEqDiff, Nat.reduceLeDiff, Nat.reduceBEq, Nat.reduceAdd, Nat.reduceLT, Nat.reduceSub, Nat.reduceMul, Int.reduceEq, Int.reduceLT, Int.reduceLE, Int.reduceNeg, Int.reduceToNat, List.reduceReplicate, Int.ofNat_le, List.getElem?_drop]
      simp [sbs, Go.Ab.sb, hc1.ok]
  clear hkp hall q2 q3 q4 q5 hge hi
  rintro m vs h' ⟨k, v, rfl, hk7, hkO, rfl, hkp, hv, hk0⟩
  have hLl := Lc_len (O := O) (P := P) (C := C) s k
  have hLl2 : (Lc O P C k).length ≤ 600000 := by
    have : 6 ^ (k + 1) ≤ 6 ^ 7 := Nat.pow_le_pow_right (by omega) (by omega)
    omega
  have hvv := hv
  obtain ⟨wv, av, rv, rfl, hrv⟩ := hv
  have hkk := hkp0.trans hkp
  by_cases hO : O = []
  · have hO0 : ((O.length : Int) = 0) = True := eq_true (by rw [hO]; rfl)
    have hO1 : ¬ (0 : Int) < (O.length : Int) := by rw [hO]; simp
    simp only [pwA, if_true, if_false, eq_self, nm_eq, reduceCtorEq, ↓reduceIte, Nat.reduceEqDiff, Nat.reduceLeDiff, Nat.reduceBEq, Nat.reduceAdd, Nat.reduceLT, Nat.reduceSub, Nat.reduceMul, Int.reduceEq, Int.reduceLT, Int.reduceLE, Int.reduceNeg, Int.reduceToNat, List.reduceReplicate, Int.ofNat_le, List.getElem?_drop, hO0, hO1]
    exact Gh.fin0 hkk trivial (hk _ ⟨fun _ => .inl hO, fun _ => rfl⟩)
  have h0 : 0 < O.length := List.length_pos_iff.2 hO
  have h0I : (0 : Int) < (O.length : Int) := by omega
  have hO' : ¬ (O.length : Int) = 0 := by omega
  have bO := s.pr 0 h0
  have hkO' := hkO hO
  by_cases hlt : ((k + 1 : Nat) : Int) < at_ O 0
  rotate_left
  · simp only [pwA, if_true, if_false, eq_self, nm_eq, reduceCtorEq, ↓reduceIte, Nat.reduceEqDiff, Nat.reduceLeDiff, Nat.reduceBEq, Nat.reduceAdd, Nat.reduceLT, Nat.reduceSub, Nat.reduceMul, Int.reduceEq, Int.reduceLT, Int.reduceLE, Int.reduceNeg, Int.reduceToNat, List.reduceReplicate, Int.ofNat_le, List.getElem?_drop, h0I, hO', hrd0 hkp, h0, pisAt h0, List.getElem?_drop, hlt]
    refine Gh.fin0 hkk trivial (hk _ ?_)
    rw [decide_eq_true_iff]
    constructor
    · intro h; exact .inr ⟨k, hkO', List.eq_nil_of_length_eq_zero (by omega)⟩
    · rintro (h | ⟨j, hj1, hj2⟩)
      · exact absurd h hO
      · rw [Lc_nil s F hj2 k (by omega)]; rfl
  by_cases hnil : Lc O P C k = []
  · have hz : ((Lc O P C k).length : Int) = 0 := by rw [hnil]; rfl
    have hz1 : ¬ (0 : Int) < ((Lc O P C k).length : Int) := by omega
    have hz2 : (((Lc O P C k).length : Int) = 0) = True := eq_true hz
    simp only [pwA, if_true, if_false, eq_self, nm_eq, reduceCtorEq, ↓reduceIte, Nat.reduceEqDiff, Nat.reduceLeDiff, Nat.reduceBEq, Nat.reduceAdd, Nat.reduceLT, Nat.reduceSub, Nat.reduceMul, Int.reduceEq, Int.reduceLT, Int.reduceLE, Int.reduceNeg, Int.reduceToNat, List.reduceReplicate, Int.ofNat_le, List.getElem?_drop, h0I, hO', hrd0 hkp, h0, pisAt h0, List.getElem?_drop, hlt, hz1, hz2]
    exact Gh.fin0 hkk trivial (hk _ ⟨fun _ => .inr ⟨k, hkO', hnil⟩, fun _ => rfl⟩)
  have hz1 : (0 : Int) < ((Lc O P C k).length : Int) := by have := List.length_pos_iff.2 hnil; omega
  simp only [pwA, if_true, if_false, eq_self, nm_eq, reduceCtorEq, ↓reduceIte, Nat.reduceEqDiff, Nat.reduceLeDiff, Nat.reduceBEq, Nat.reduceAdd, Nat.reduceLT, Nat.reduceSub, Nat.reduceMul, Int.reduceEq, Int.reduceLT, Int.reduceLE, Int.reduceNeg, Int.reduceToNat, List.reduceReplicate, Int.ofNat_le, List.getElem?_drop, h0I, hO', hrd0 hkp, hrd3 hkp, h0, pisAt h0, List.getElem?_drop, hlt, hz1]
  refine l34Comms_ok s hc hR0 hvv (fun x hx => (Lc_ok s F k x hx).1) hLl2 fun v2 hv2 => ?_
  have ew : IntKind.i64.wrap (((k + 1 : Nat) : Int) + 1) = ((k + 1 + 1 : Nat) : Int) := by rw [wrap64 (by omega) (by omega)]; omega
  simp only [pwA, if_true, if_false, eq_self, nm_eq, reduceCtorEq, ↓reduceIte, Nat.reduceEqDiff, Nat.reduceLeDiff, Nat.reduceBEq, Nat.reduceAdd, Nat.reduceLT, Nat.reduceSub, Nat.reduceMul, Int.reduceEq, Int.reduceLT, Int.reduceLE, Int.reduceNeg, Int.reduceToNat, List.reduceReplicate, Int.ofNat_le, List.getElem?_drop, ew]
  refine ⟨7 - (k + 1), by omega, .here ⟨k + 1, v2, rfl, by omega, fun _ => hlt, rfl, hkp, hv2, fun h => absurd h hO⟩⟩
theorem l34IsLazard_ok (hR : IsPr vO vP vC O P C) (sz : SzP O P C) (hk : ∀ t : Bool, (t = true ↔ isLG O P C) → K (.bool t) σ) : PCalls Try.prog 30 [.agg [vO, vP, vC]] σ K := by
  have h0 := hR.O.one
  have h1 := hR.P.one
  have h2 := hR.C.one
  have fl : ∀ {A : Prop}, ¬ A → ((false = true) ↔ A) := fun h => ⟨fun x => (by cases x), fun x => absurd x h⟩
  refine PCalls.gh ?_
  refine pcalls_of_vp mix Try.func30 cf30 rfl ?_
  dsimp only [if30, qI, eI, nI, qD, eD]
  simp only [pwA, if_true, if_false, eq_self, nm_eq, reduceCtorEq, ↓reduceIte, Nat.reduceEqDiff, Nat.reduceLeDiff, Nat.reduceBEq, Nat.reduceAdd, Nat.reduceLT, Nat.reduceSub, Nat.reduceMul, Int.reduceEq, Int.reduceLT, Int.reduceLE, Int.reduceNeg, Int.reduceToNat, List.reduceReplicate, Int.ofNat_le, List.getElem?_drop, h0, h1, h2]
  refine l34Central_ok hR sz fun t ht => ?_
  cases t with
  | false =>
    simp only [pwA, if_true, if_false, eq_self, nm_eq, reduceCtorEq, ↓reduceIte, Nat.reduceEqDiff, Nat.reduceLeDiff, Nat.reduceBEq, Nat.reduceAdd, Nat.reduceLT, Nat.reduceSub, Nat.reduceMul, Int.reduceEq, Int.reduceLT, Int.reduceLE, Int.reduceNeg, Int.reduceToNat, List.reduceReplicate, Int.ofNat_le, List.getElem?_drop]
    exact Gh.fin0 (keep_new σ _) trivial (hk _ (fl fun h => by cases ht.2 h.1))
  | true =>
  have hp := ht.1 rfl
  simp only [pwA, if_true, if_false, eq_self, nm_eq, reduceCtorEq, ↓reduceIte, Nat.reduceEqDiff, Nat.reduceLeDiff, Nat.reduceBEq, Nat.reduceAdd, Nat.reduceLT, Nat.reduceSub, Nat.reduceMul, Int.reduceEq, Int.reduceLT, Int.reduceLE, Int.reduceNeg, Int.reduceToNat, List.reduceReplicate, Int.ofNat_le, List.getElem?_drop, h0, h1, h2]
  refine l34Class_ok hp.1.1 hp.1.2 hp.2 hR fun r hr => ?_
  simp only [pwA, if_true, if_false, eq_self, nm_eq, reduceCtorEq, ↓reduceIte, Nat.reduceEqDiff, Nat.reduceLeDiff, Nat.reduceBEq, Nat.reduceAdd, Nat.reduceLT, Nat.reduceSub, Nat.reduceMul, Int.reduceEq, Int.reduceLT, Int.reduceLE, Int.reduceNeg, Int.reduceToNat, List.reduceReplicate, Int.ofNat_le, List.getElem?_drop]
  exact Gh.fin0 (keep_new σ _) trivial (hk _ ⟨fun h => ⟨hp, hr.1 h⟩, fun h => hr.2 h.2⟩)
end Go.Proofs
