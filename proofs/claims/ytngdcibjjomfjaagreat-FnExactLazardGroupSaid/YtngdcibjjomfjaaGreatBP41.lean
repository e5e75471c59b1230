/- The presentation of a Lazard ring: the program's walk. -/
import Derived.Test.YtngdcibjjomfjaaGreatBP32
import Derived.Test.YtngdcibjjomfjaaGreatBAbPa
import Derived.Test.YtngdcibjjomfjaaGreatBP37
import Derived.Test.YtngdcibjjomfjaaGreatBP34
set_option linter.unusedSimpArgs false
set_option linter.unusedVariables false
namespace Go.Proofs
open Go.Ab Go.Lie
variable {σ : PHeap} {K : PV → PHeap → Prop} {n : Nat} {p : Int}
theorem u64_and {n : Nat} (hn : n ≤ 6) : pbin .and .other (.int .u64 n) (.int .u64 4294967295) = some (.int .u64 n) := by
  have hc : n = 0 ∨ n = 1 ∨ n = 2 ∨ n = 3 ∨ n = 4 ∨ n = 5 ∨ n = 6 := by omega
  rcases hc with rfl | rfl | rfl | rfl | rfl | rfl | rfl <;> rfl
theorem u64_shr {n : Nat} (hn : n ≤ 6) : pbin .shr .other (.int .u64 n) (.int .u64 32) = some (.int .u64 0) := by
  have hc : n = 0 ∨ n = 1 ∨ n = 2 ∨ n = 3 ∨ n = 4 ∨ n = 5 ∨ n = 6 := by omega
  rcases hc with rfl | rfl | rfl | rfl | rfl | rfl | rfl <;> rfl
theorem u64_wrap {n : Nat} (hn : n ≤ 6) : IntKind.u64.wrap (n : Int) = n := by
  have hc : n = 0 ∨ n = 1 ∨ n = 2 ∨ n = 3 ∨ n = 4 ∨ n = 5 ∨ n = 6 := by omega
  rcases hc with rfl | rfl | rfl | rfl | rfl | rfl | rfl <;> rfl
theorem Mul64_ok (hn : n ≤ 6) (hk : K (.tup [.int .u64 0, .int .u64 n]) σ) : PCalls Tryz.prog 182 [.int .u64 1, .int .u64 n] σ K := by
  have a1 : pbin .and .other (.int .u64 1) (.int .u64 4294967295) = some (.int .u64 1) := rfl
  have a0 : pbin .and .other (.int .u64 0) (.int .u64 4294967295) = some (.int .u64 0) := rfl
  have s1 : pbin .shr .other (.int .u64 1) (.int .u64 32) = some (.int .u64 0) := rfl
  have s0 : pbin .shr .other (.int .u64 0) (.int .u64 32) = some (.int .u64 0) := rfl
  have w0 : IntKind.u64.wrap 0 = 0 := rfl
  refine pcalls_of_vp mix Tryz.func182 cf182 rfl ?_
  dsimp only [if182, qI, eI, nI, qD, eD]
  simp only [pwA, if_true, if_false, eq_self, nm_eq, reduceCtorEq, ↓reduceIte, Nat.reduceEqDiff, Nat.reduceLeDiff, Nat.reduceBEq, Nat.reduceAdd, Nat.reduceLT, Nat.reduceSub, Nat.reduceMul, Int.reduceEq, Int.reduceLT, Int.reduceLE, Int.reduceNeg, Int.reduceToNat, List.reduceReplicate, Int.ofNat_le, List.getElem?_drop, a1, a0, s1, s0, u64_and hn, u64_shr hn, u64_wrap hn, w0, Int.one_mul, Int.zero_mul, Int.mul_zero, Int.add_zero]
  exact hk
theorem Mul_ok (hn : n ≤ 6) (hk : K (.tup [.int .u64 0, .int .u64 n]) σ) : PCalls Tryz.prog 133 [.int .u64 1, .int .u64 n] σ K := by
  refine pcalls_of_vp mix Tryz.func133 cf133 rfl ?_
  dsimp only [if133, qI, eI, nI, qD, eD]
  simp only [pwA, if_true, if_false, eq_self, nm_eq, reduceCtorEq, ↓reduceIte, Nat.reduceEqDiff, Nat.reduceLeDiff, Nat.reduceBEq, Nat.reduceAdd, Nat.reduceLT, Nat.reduceSub, Nat.reduceMul, Int.reduceEq, Int.reduceLT, Int.reduceLE, Int.reduceNeg, Int.reduceToNat, List.reduceReplicate, Int.ofNat_le, List.getElem?_drop]
  refine Mul64_ok hn ?_
  simp only [pwA, if_true, if_false, eq_self, nm_eq, reduceCtorEq, ↓reduceIte, Nat.reduceEqDiff, Nat.reduceLeDiff, Nat.reduceBEq, Nat.reduceAdd, Nat.reduceLT, Nat.reduceSub, Nat.reduceMul, Int.reduceEq, Int.reduceLT, Int.reduceLE, Int.reduceNeg, Int.reduceToNat, List.reduceReplicate, Int.ofNat_le, List.getElem?_drop]
  exact hk
def fillR (p : Int) (n d : Nat) : List Int := List.replicate d p ++ List.replicate (n - d) 0
theorem fillR_len {d : Nat} (hd : d ≤ n) : (fillR p n d).length = n := by simp [fillR]; omega
theorem pcopy_sl {h : PHeap} {o d m len : Nat} {c1 : Cap} {x : PV} {cs : List PV} (hx : plen x = some m) (hm : min m len ≠ 0) (hf : pfirst 1 h x (min m len) = some cs) {h' : PHeap} (hw : h.wr o d cs = some h') : pcopy 1 h (.sl o d len c1) x = some (.int .i64 (min m len : Nat), h') := by
  unfold pcopy
  rw [show plen (.sl o d len c1) = some len from rfl, hx]
  simp only [Option.bind_some]
  rw [if_neg hm]
  simp only [hf, Option.bind_some, hw, Option.map_some]
theorem fill_step {d m : Nat} (hd : d + m ≤ n) (hm : m ≤ d) : (pis (fillR p n d)).take d ++ (pis (fillR p n d)).take m ++ (pis (fillR p n d)).drop (d + m) = pis (fillR p n (d + m)) := by
  unfold fillR pis
  simp only [← List.map_take, ← List.map_drop, ← List.map_append]
  congr 1
  refine List.ext_getElem (by simp; omega) fun i h1 h2 => ?_
  simp only [List.getElem_append, List.getElem_take, List.getElem_drop, List.getElem_replicate, List.length_append, List.length_take, List.length_replicate]
  repeat' split
  all_goals first | rfl | (exfalso; simp at *; omega) | omega
theorem Repeat_ok {w : Bool} {a : AV} {l : Nat} (hl : l = 1) (hn : n ≤ 6) (hk : ∀ v, FI v (List.replicate n p) → K v σ) : PCalls Tryz.prog 75 [.fz w a l (pis [p]), .int .i64 n] σ K := by
  subst hl
  have c1 : IntKind.u64.wrap ((1 : Nat) : Int) = 1 := rfl
  have hneg : ¬ (n : Int) < 0 := by omega
  have hbig : ¬ (n : Int) > 9223372036854775807 := by omega
  refine PCalls.gh ?_
  refine pcalls_of_vp mix Tryz.func75 cf75 rfl ?_
  dsimp only [if75, qI, eI, nI, qD, eD]
  simp only [pwA, if_true, if_false, eq_self, nm_eq, reduceCtorEq, ↓reduceIte, Nat.reduceEqDiff, Nat.reduceLeDiff, Nat.reduceBEq, Nat.reduceAdd, Nat.reduceLT, Nat.reduceSub, Nat.reduceMul, Int.reduceEq, Int.reduceLT, Int.reduceLE, Int.reduceNeg, Int.reduceToNat, List.reduceReplicate, Int.ofNat_le, List.getElem?_drop, hneg, c1, u64_wrap hn]
  refine Mul_ok hn ?_
  have w64 : IntKind.i64.wrap (n : Int) = n := wrap64 (by omega) (by omega)
  simp only [pwA, if_true, if_false, eq_self, nm_eq, reduceCtorEq, ↓reduceIte, Nat.reduceEqDiff, Nat.reduceLeDiff, Nat.reduceBEq, Nat.reduceAdd, Nat.reduceLT, Nat.reduceSub, Nat.reduceMul, Int.reduceEq, Int.reduceLT, Int.reduceLE, Int.reduceNeg, Int.reduceToNat, List.reduceReplicate, Int.ofNat_le, List.getElem?_drop, hbig, w64, mk8 (n := n) (by omega), mkL (n := n) (by omega)]
  have fin : ∀ {h : PHeap}, h = σ.new (pis (List.replicate n p)) → Gh σ K (.sl σ.next 0 n (.known n)) h := fun {h} e => by
    subst e
    exact Gh.finF (cs := pis (List.replicate n p)) (keep_new σ _) (by simp only [pwA, if_true, if_false, eq_self, nm_eq, reduceCtorEq, ↓reduceIte, Nat.reduceEqDiff, Nat.reduceLeDiff, Nat.reduceBEq, Nat.reduceAdd, Nat.reduceLT, Nat.reduceSub, Nat.reduceMul, Int.reduceEq, Int.reduceLT, Int.reduceLE, Int.reduceNeg, Int.reduceToNat, List.reduceReplicate, Int.ofNat_le, List.getElem?_drop]) (Nat.le_refl _) (pis_bel _ _) (by simp [capOK]) fun o => hk _ ⟨true, .sl o 0 n (.known n), by simp⟩
  rcases Nat.eq_zero_or_pos n with rfl | hpos
  · have hc : pcopy 1 (σ.new []) (PV.sl σ.next 0 0 (Cap.known 0)) (PV.fz w a 1 (pis [p])) = some (.int .i64 0, σ.new []) := rfl
    simp only [pwA, if_true, if_false, eq_self, nm_eq, reduceCtorEq, ↓reduceIte, Nat.reduceEqDiff, Nat.reduceLeDiff, Nat.reduceBEq, Nat.reduceAdd, Nat.reduceLT, Nat.reduceSub, Nat.reduceMul, Int.reduceEq, Int.reduceLT, Int.reduceLE, Int.reduceNeg, Int.reduceToNat, List.reduceReplicate, Int.ofNat_le, List.getElem?_drop, hc]
    refine vp_loop (fun m us h' => m = 0 ∧ us = [.sl σ.next 0 0 (.known 0), .int .i64 0] ∧ h' = σ.new []) 0 ⟨rfl, rfl, rfl⟩ ?_
    rintro m us h' ⟨rfl, rfl, rfl⟩
    simp only [pwA, if_true, if_false, eq_self, nm_eq, reduceCtorEq, ↓reduceIte, Nat.reduceEqDiff, Nat.reduceLeDiff, Nat.reduceBEq, Nat.reduceAdd, Nat.reduceLT, Nat.reduceSub, Nat.reduceMul, Int.reduceEq, Int.reduceLT, Int.reduceLE, Int.reduceNeg, Int.reduceToNat, List.reduceReplicate, Int.ofNat_le, List.getElem?_drop]
    exact fin rfl
  have hc : pcopy 1 (σ.new (List.replicate n (PV.int IntKind.i64 0))) (PV.sl σ.next 0 n (Cap.known n)) (PV.fz w a 1 (pis [p])) = some (.int .i64 1, σ.new (pis (fillR p n 1))) := by
    refine (pcopy_sl (m := 1) (len := n) rfl (by rw [Nat.min_eq_left hpos]; decide) (cs := pis [p]) (by rw [Nat.min_eq_left hpos]; rfl) (h' := σ.new (pis (fillR p n 1))) ?_).trans (by rw [Nat.min_eq_left hpos]; rfl)
    have ho : (σ.new (List.replicate n (PV.int IntKind.i64 0))).obj σ.next = some (List.replicate n (PV.int IntKind.i64 0)) := by simp only [pwA, if_true, if_false, eq_self, nm_eq, reduceCtorEq, ↓reduceIte, Nat.reduceEqDiff, Nat.reduceLeDiff, Nat.reduceBEq, Nat.reduceAdd, Nat.reduceLT, Nat.reduceSub, Nat.reduceMul, Int.reduceEq, Int.reduceLT, Int.reduceLE, Int.reduceNeg, Int.reduceToNat, List.reduceReplicate, Int.ofNat_le, List.getElem?_drop]
    rw [obj_wr ho, if_pos ⟨by rw [List.length_replicate]; show 0 + 1 ≤ n; omega, rfl⟩]
    congr 1
    simp only [PHeap.set, PHeap.new, PHeap.mk.injEq, true_and]
    funext t
    split
    · simp [fillR, pis, hpos]
    · rfl
  simp only [pwA, if_true, if_false, eq_self, nm_eq, reduceCtorEq, ↓reduceIte, Nat.reduceEqDiff, Nat.reduceLeDiff, Nat.reduceBEq, Nat.reduceAdd, Nat.reduceLT, Nat.reduceSub, Nat.reduceMul, Int.reduceEq, Int.reduceLT, Int.reduceLE, Int.reduceNeg, Int.reduceToNat, List.reduceReplicate, Int.ofNat_le, List.getElem?_drop, hc]
  refine vp_loop (fun m us h' => ∃ d : Nat, m = n - d ∧ us = [.sl σ.next 0 n (.known n), .int .i64 d] ∧ 1 ≤ d ∧ d ≤ n ∧ h' = σ.new (pis (fillR p n d))) (n - 1) ⟨1, rfl, rfl, by omega, hpos, rfl⟩ ?_
  rintro m us h' ⟨d, rfl, rfl, hd1, hdn, rfl⟩
  simp only [pwA, if_true, if_false, eq_self, nm_eq, reduceCtorEq, ↓reduceIte, Nat.reduceEqDiff, Nat.reduceLeDiff, Nat.reduceBEq, Nat.reduceAdd, Nat.reduceLT, Nat.reduceSub, Nat.reduceMul, Int.reduceEq, Int.reduceLT, Int.reduceLE, Int.reduceNeg, Int.reduceToNat, List.reduceReplicate, Int.ofNat_le, List.getElem?_drop]
  refine iteI (fun hlt => ?_) fun hge => ?_
  rotate_left
  · refine fin ?_
    rw [show d = n by omega]; simp [fillR]
  have hlt' : d < n := by omega
  have ps1 : pslice 1 (.sl σ.next 0 n (.known n)) (some (.int .i64 d)) none none = some (.sl σ.next d (n - d) (.known (n - d))) := by
    have h1 : (0 : Int) ≤ (d : Int) ∧ (d : Int) ≤ (n : Int) := by omega
    have h2 : ¬ n = d := by omega
    have h3 : d ≤ n := by omega
    simp [pslice, pobound, pbound, h1, h2, h3]
  have ps2 : pslice 1 (.sl σ.next 0 n (.known n)) none (some (.int .i64 d)) none = some (.sl σ.next 0 d (.known n)) := by
    have h1 : (0 : Int) ≤ (d : Int) ∧ (d : Int) ≤ (n : Int) := by omega
    have h2 : d ≤ n := by omega
    have h3 : ¬ n = 0 := by omega
    simp [pslice, pobound, pbound, h1, h2, h3]
  have ho : (σ.new (pis (fillR p n d))).obj σ.next = some (pis (fillR p n d)) := by simp only [pwA, if_true, if_false, eq_self, nm_eq, reduceCtorEq, ↓reduceIte, Nat.reduceEqDiff, Nat.reduceLeDiff, Nat.reduceBEq, Nat.reduceAdd, Nat.reduceLT, Nat.reduceSub, Nat.reduceMul, Int.reduceEq, Int.reduceLT, Int.reduceLE, Int.reduceNeg, Int.reduceToNat, List.reduceReplicate, Int.ofNat_le, List.getElem?_drop]
  have hcp : pcopy 1 (σ.new (pis (fillR p n d))) (.sl σ.next d (n - d) (.known (n - d))) (.sl σ.next 0 d (.known n)) = some (.int .i64 (min d (n - d) : Nat), σ.new (pis (fillR p n (d + min d (n - d))))) := by
    refine pcopy_sl (m := d) (len := n - d) rfl (by rw [Nat.min_def]; split <;> omega) (cs := (pis (fillR p n d)).take (min d (n - d))) ?_ ?_
    · rw [pfirst_sl, if_neg (by omega), if_pos (by omega), obj_rd ho, if_pos (by rw [pis_length, fillR_len (by omega)]; omega)]; simp
    · rw [obj_wr ho, if_pos ⟨by rw [List.length_take, pis_length, fillR_len (by omega)]; omega, by simp [List.all_eq_true, pis]; intro x hx; obtain ⟨y, _, rfl⟩ := List.mem_map.1 (List.mem_of_mem_take hx); rfl⟩]
      congr 1
      have e := fill_step (p := p) (n := n) (d := d) (m := min d (n - d)) (by omega) (by omega)
      have hl : ((pis (fillR p n d)).take (min d (n - d))).length = min d (n - d) := by rw [List.length_take, pis_length, fillR_len (by omega)]; omega
      rw [hl, e]
      simp only [PHeap.set, PHeap.new, PHeap.mk.injEq, true_and]
      funext t
      split <;> rfl
  have ew : IntKind.i64.wrap ((d : Int) + ((min d (n - d) : Nat) : Int)) = ((d + min d (n - d) : Nat) : Int) := by rw [wrap64 (by omega) (by omega)]; omega
  have hdle : d ≤ n := by omega
  have hnd : ¬ n = d := by omega
  have hn0 : ¬ n = 0 := by omega
  simp only [pwA, if_true, if_false, eq_self, nm_eq, reduceCtorEq, ↓reduceIte, Nat.reduceEqDiff, Nat.reduceLeDiff, Nat.reduceBEq, Nat.reduceAdd, Nat.reduceLT, Nat.reduceSub, Nat.reduceMul, Int.reduceEq, Int.reduceLT, Int.reduceLE, Int.reduceNeg, Int.reduceToNat, List.reduceReplicate, Int.ofNat_le, List.getElem?_drop, hdle, hnd, hn0, hcp, ew, Nat.sub_zero, Option.isNone_none, Option.isSome_none, Option.isNone_some, Option.isSome_some, Bool.false_eq_true, and_false, false_and, if_false]
  have hmin : 1 ≤ min d (n - d) ∧ min d (n - d) ≤ n - d := by rw [Nat.min_def]; split <;> omega
  exact ⟨_, by omega, d + min d (n - d), rfl, rfl, by omega, by omega, rfl⟩
end Go.Proofs
namespace Go.Proofs
open Go.Ab Go.Lie
variable {σ : PHeap} {K : PV → PHeap → Prop} {p p' : Int} {n : Nat} {W : List (List Int)} {B : List (List (List Int))} {vP vB vL vU vV : PV} {s : Nat}
theorem PCalls.fzITx {P : Program} {f : FuncId} {args : List PV} {D : List Int → Prop} (c : ∀ K' : PV → PHeap → Prop, (∀ z, D z → ResI σ K' z) → PCalls P f args σ K') (k : ∀ z v t, D z → FI v z → Own σ.top t v → σ.top ≤ t → K v (σ.up t)) : PCalls P f args σ K :=
  PCalls.gh (c _ fun z hz => ⟨fun h0 => by subst h0; exact Gh.ret (k _ _ σ.top hz ⟨true, .nils, rfl⟩ (Own.empty _ _ _ _ _) (Nat.le_refl _)), fun cap hc => Gh.own (keep_new σ _) (by simp [PHeap.new]) (Nat.le_refl _) (pis_bel _ _) hc.ok (Owns.pis _ _ _) fun o t h1 h2 => k _ _ t hz ⟨true, _, rfl⟩ h1 h2⟩)
theorem divideLie_res {l : Nat} {w : Bool} {av : AV} {k : Int} {x : List Int} (hs : PtrR σ s p vP vB) (hP : FII vP W) (o : OkW p n W) (hpow : ipow p n ≤ 729) (hx : El p n x) (hl : l = x.length)
    (hk : ∀ z, DivL p n W k x z → ResI σ K z) : PCalls Tryz.prog 199 [.ptr s 0, .fz w av l (pis x), .int .i64 k] σ K := by
  have hn6 := o.le
  have hpr := o.pr
  have hxl := hx.1
  have hp0 : σ.rd1 s 0 = some (.int .i64 p) := by rw [obj_rd1 hs.obj]; rfl
  subst hl
  refine pcalls_of_vp mix Tryz.func199 cf199 rfl ?_
  dsimp only [if199, qI, eI, nI, qD, eD]
  simp only [pwA, if_true, if_false, eq_self, nm_eq, reduceCtorEq, ↓reduceIte, Nat.reduceEqDiff, Nat.reduceLeDiff, Nat.reduceBEq, Nat.reduceAdd, Nat.reduceLT, Nat.reduceSub, Nat.reduceMul, Int.reduceEq, Int.reduceLT, Int.reduceLE, Int.reduceNeg, Int.reduceToNat, List.reduceReplicate, Int.ofNat_le, List.getElem?_drop]
  refine isZero_ok rfl (by omega) ?_
  by_cases hz : isZ x
  · simp only [pwA, if_true, if_false, eq_self, nm_eq, reduceCtorEq, ↓reduceIte, Nat.reduceEqDiff, Nat.reduceLeDiff, Nat.reduceBEq, Nat.reduceAdd, Nat.reduceLT, Nat.reduceSub, Nat.reduceMul, Int.reduceEq, Int.reduceLT, Int.reduceLE, Int.reduceNeg, Int.reduceToNat, List.reduceReplicate, Int.ofNat_le, List.getElem?_drop, hz, decide_true]
    have hd : DivL p n W k x x := ⟨hx, fun _ => rfl, fun _ => by
      refine Eqv.of_eq fun j => ?_
      rw [isZ_at hz, Int.mul_zero]⟩
    refine Clone_ok rfl (by omega) ⟨fun h0 => ?_, fun cap hc => ?_⟩
    · simp only [pwA, if_true, if_false, eq_self, nm_eq, reduceCtorEq, ↓reduceIte, Nat.reduceEqDiff, Nat.reduceLeDiff, Nat.reduceBEq, Nat.reduceAdd, Nat.reduceLT, Nat.reduceSub, Nat.reduceMul, Int.reduceEq, Int.reduceLT, Int.reduceLE, Int.reduceNeg, Int.reduceToNat, List.reduceReplicate, Int.ofNat_le, List.getElem?_drop]
      exact (hk x hd).1 h0
    · simp only [pwA, if_true, if_false, eq_self, nm_eq, reduceCtorEq, ↓reduceIte, Nat.reduceEqDiff, Nat.reduceLeDiff, Nat.reduceBEq, Nat.reduceAdd, Nat.reduceLT, Nat.reduceSub, Nat.reduceMul, Int.reduceEq, Int.reduceLT, Int.reduceLE, Int.reduceNeg, Int.reduceToNat, List.reduceReplicate, Int.ofNat_le, List.getElem?_drop]
      exact (hk x hd).2 cap hc
  · have hn : 0 < n := by
      rcases Nat.eq_zero_or_pos n with h | h
      · exact absurd (by rw [List.eq_nil_of_length_eq_zero (hxl.trans h)]; intro y hy; cases hy) hz
      · exact h
    have hm1 : 2 ≤ ipow p n := by
      obtain ⟨n', rfl⟩ : ∃ n', n = n' + 1 := ⟨n - 1, by omega⟩
      have h1 : ∀ k : Nat, 1 ≤ ipow p k := fun k => by
        induction k with
        | zero => simp [ipow]
        | succ k ih =>
          have := Int.mul_le_mul_of_nonneg_left (show (1 : Int) ≤ p by have := hpr.1; omega) (show 0 ≤ ipow p k by omega)
          rw [ipow]; omega
      have := Int.mul_le_mul_of_nonneg_left (show (2 : Int) ≤ p from hpr.1) (show 0 ≤ ipow p n' by have := h1 n'; omega)
      have := h1 n'
      rw [ipow]; omega
    simp only [pwA, if_true, if_false, eq_self, nm_eq, reduceCtorEq, ↓reduceIte, Nat.reduceEqDiff, Nat.reduceLeDiff, Nat.reduceBEq, Nat.reduceAdd, Nat.reduceLT, Nat.reduceSub, Nat.reduceMul, Int.reduceEq, Int.reduceLT, Int.reduceLE, Int.reduceNeg, Int.reduceToNat, List.reduceReplicate, Int.ofNat_le, List.getElem?_drop, hz, decide_false, hp0, hxl]
    refine integerPower_ok hpr hn6 ?_
    simp only [pwA, if_true, if_false, eq_self, nm_eq, reduceCtorEq, ↓reduceIte, Nat.reduceEqDiff, Nat.reduceLeDiff, Nat.reduceBEq, Nat.reduceAdd, Nat.reduceLT, Nat.reduceSub, Nat.reduceMul, Int.reduceEq, Int.reduceLT, Int.reduceLE, Int.reduceNeg, Int.reduceToNat, List.reduceReplicate, Int.ofNat_le, List.getElem?_drop]
    refine residue_ok (by omega) (by omega) ?_
    simp only [pwA, if_true, if_false, eq_self, nm_eq, reduceCtorEq, ↓reduceIte, Nat.reduceEqDiff, Nat.reduceLeDiff, Nat.reduceBEq, Nat.reduceAdd, Nat.reduceLT, Nat.reduceSub, Nat.reduceMul, Int.reduceEq, Int.reduceLT, Int.reduceLE, Int.reduceNeg, Int.reduceToNat, List.reduceReplicate, Int.ofNat_le, List.getElem?_drop]
    refine inverseG_ok (Int.emod_nonneg _ (by omega)) (Int.emod_lt_of_pos _ (by omega)) (by omega) fun y yb h1 h2 h3 => ?_
    simp only [pwA, if_true, if_false, eq_self, nm_eq, reduceCtorEq, ↓reduceIte, Nat.reduceEqDiff, Nat.reduceLeDiff, Nat.reduceBEq, Nat.reduceAdd, Nat.reduceLT, Nat.reduceSub, Nat.reduceMul, Int.reduceEq, Int.reduceLT, Int.reduceLE, Int.reduceNeg, Int.reduceToNat, List.reduceReplicate, Int.ofNat_le, List.getElem?_drop]
    have hd : DivL p n W k x (lmul p W y x) := DivL.mk' o hx hz (m := ipow p n) (by
      rw [ipow_pw]
      exact kill_all o fun j hj => hx.beyond hj) fun hc => by
        obtain ⟨z, w', hzw⟩ := cop_inv hc hn
        rw [← ipow_pw] at hzw
        have em := Int.mul_ediv_add_emod k (ipow p n)
        obtain ⟨t, ht⟩ := h3 ⟨z, w' - k / ipow p n * z, by grind⟩
        exact ⟨t + k / ipow p n * y, by grind⟩
    refine timesLie_ok hs hP o hx hxl.symm (by omega) ⟨fun h0 => ?_, fun cap hc => ?_⟩
    · simp only [pwA, if_true, if_false, eq_self, nm_eq, reduceCtorEq, ↓reduceIte, Nat.reduceEqDiff, Nat.reduceLeDiff, Nat.reduceBEq, Nat.reduceAdd, Nat.reduceLT, Nat.reduceSub, Nat.reduceMul, Int.reduceEq, Int.reduceLT, Int.reduceLE, Int.reduceNeg, Int.reduceToNat, List.reduceReplicate, Int.ofNat_le, List.getElem?_drop]
      exact (hk _ hd).1 h0
    · simp only [pwA, if_true, if_false, eq_self, nm_eq, reduceCtorEq, ↓reduceIte, Nat.reduceEqDiff, Nat.reduceLeDiff, Nat.reduceBEq, Nat.reduceAdd, Nat.reduceLT, Nat.reduceSub, Nat.reduceMul, Int.reduceEq, Int.reduceLT, Int.reduceLE, Int.reduceNeg, Int.reduceToNat, List.reduceReplicate, Int.ofNat_le, List.getElem?_drop]
      exact (hk _ hd).2 cap hc
theorem CodeL.zero {xs : List (List Int)} (h : CodeL p W B xs 0) : (isLie p W B ∧ Els p W.length xs) ∧ isLz p W.length W B := by
  rcases h with ⟨_, h⟩ | ⟨_, _, h⟩ | ⟨h1, h2, _⟩
  · omega
  · omega
  · exact ⟨h1, h2⟩
end Go.Proofs
namespace Go.Proofs
open Go.Ab Go.Lie
variable {p : Int} {n : Nat} {W : List (List Int)} {B : List (List (List Int))} {c k : Nat} {f g : Vec}
def Lw (p : Int) (n : Nat) (W : List (List Int)) (B : List (List (List Int))) (k : Nat) (f : Vec) : Prop := ∃ u, Low p n W B k u ∧ Gen p n W u f
structure Rg (p : Int) (n : Nat) (W : List (List Int)) (B : List (List (List Int))) (c : Nat) : Prop where
  o : OkW p n W
  q : OkB p n B
  nf : NoFault p W B n
  cls : Cls p n W B c
theorem low_down : ∀ {m : Nat} {u : List (List Int)}, Low p n W B m u → ∀ k, k ≤ m → ∃ v, Low p n W B k v
  | 0, u, h, k, hk => by
    have : k = 0 := by omega
    subst this; exact ⟨u, h⟩
  | m + 1, u, h, k, hk => by
    by_cases e : k = m + 1
    · subst e; exact ⟨u, h⟩
    · cases h with
      | succ h hc => exact low_down h k (by omega)
theorem Rg.low (r : Rg p n W B c) (k : Nat) : ∃ u, Low p n W B k u := by
  rcases Nat.le_total k c with x | x
  · exact low_down r.cls.1 k x
  · obtain ⟨u, ⟨h, _⟩ | h⟩ := cls_low r.o r.q r.cls k
    · exact ⟨u, h⟩
    · exact ⟨[], by omega⟩
theorem Rg.sub (r : Rg p n W B c) (k : Nat) : IsSub p n W (Lw p n W B k) := by
  obtain ⟨u, hu⟩ := r.low k
  have hs := gen_sub (p := p) (n := n) (W := W) u
  have e : ∀ {f : Vec}, Lw p n W B k f → Gen p n W u f := fun {f} ⟨v, hv, hg⟩ => by rw [hu.unique r.o hv]; exact hg
  exact ⟨⟨u, hu, hs.zero⟩, fun f g a b => ⟨u, hu, hs.add _ _ (e a) (e b)⟩, fun k f a => ⟨u, hu, hs.mul _ _ (e a)⟩, fun f g a b => ⟨u, hu, hs.eqv _ _ a (e b)⟩⟩
theorem Rg.all (r : Rg p n W B c) {x : List Int} (hx : El p n x) : Lw p n W B 0 (at_ x) := ⟨_, .zero, gen_units r.o hx⟩
theorem Rg.brk (r : Rg p n W B c) (hf : Lw p n W B k f) (g : Vec) : Lw p n W B (k + 1) (brv B n f g) := by
  obtain ⟨u, hu, hg⟩ := hf
  obtain ⟨v, hv⟩ := r.low (k + 1)
  cases hv with
  | succ h hc =>
    rw [h.unique r.o hu] at hc
    exact ⟨v, .succ hu hc, low_gen r.o r.q r.nf hc hg g⟩
theorem Rg.brk2 (r : Rg p n W B c) (hg : Lw p n W B k g) (f : Vec) : Lw p n W B (k + 1) (brv B n f g) :=
  (r.sub _).eqv _ _ (Eqv.of_eq fun t => brv_anti f g t) ((r.sub _).mul (-1) _ (r.brk hg f))
theorem Rg.top (r : Rg p n W B c) (hk : c ≤ k) (hf : Lw p n W B k f) : Eqv p n W f fun _ => 0 := by
  obtain ⟨u, hu, hg⟩ := hf
  obtain ⟨v, ⟨hv, h0⟩ | h⟩ := cls_low r.o r.q r.cls k
  · rw [hu.unique r.o hv, h0 hk] at hg
    exact gen_nil hg
  · omega
theorem Rg.zero (r : Rg p n W B c) (hk : c ≤ k) {z : List Int} (hz : El p n z) (hf : Lw p n W B k (at_ z)) : isZ z := zero_of_eqv r.o hz (r.top hk hf)
theorem Rg.bL (r : Rg p n W B c) {x y : List Int} (hf : Lw p n W B k (at_ x)) : Lw p n W B (k + 1) (at_ (br p W B n x y)) := (r.sub _).eqv _ _ (br_eqv r.o r.q x y) (r.brk hf _)
theorem Rg.bR (r : Rg p n W B c) {x y : List Int} (hf : Lw p n W B k (at_ y)) : Lw p n W B (k + 1) (at_ (br p W B n x y)) := (r.sub _).eqv _ _ (br_eqv r.o r.q x y) (r.brk2 hf _)
theorem Rg.addL (r : Rg p n W B c) {x y : List Int} (hx : El p n x) (hy : El p n y) (h1 : Lw p n W B k (at_ x)) (h2 : Lw p n W B k (at_ y)) : Lw p n W B k (at_ (ladd p W x y)) := (r.sub _).eqv _ _ (ladd_eqv r.o hx hy) ((r.sub _).add _ _ h1 h2)
theorem Rg.mulL (r : Rg p n W B c) {x : List Int} (hx : El p n x) (m : Int) (h1 : Lw p n W B k (at_ x)) : Lw p n W B k (at_ (lmul p W m x)) := (r.sub _).eqv _ _ (lmul_eqv r.o hx m) ((r.sub _).mul m _ h1)
def third3 (p : Int) (W : List (List Int)) (B : List (List (List Int))) (n : Nat) (x y : List Int) : List Int := ladd p W (br p W B n x (br p W B n x y)) (br p W B n y (lmul p W (-1) (br p W B n x y)))
theorem third_el (o : OkW p n W) (q : OkB p n B) {x y : List Int} : El p n (third3 p W B n x y) := lmix_el o (br_el o q) (br_el o q)
theorem Rg.thd (r : Rg p n W B c) {x y : List Int} (hf : Lw p n W B k (at_ (br p W B n x y))) : Lw p n W B (k + 1) (at_ (third3 p W B n x y)) :=
  r.addL (br_el r.o r.q) (br_el r.o r.q) (r.bR hf) (r.bR (r.mulL (br_el r.o r.q) (-1) hf))
theorem cop_two {p : Int} (hp : isP p) (h : p ≠ 2) : Cop p 2 ∧ Cop p (-2) := by
  rcases hp with rfl | rfl | rfl | rfl
  · exact absurd rfl h
  · exact ⟨⟨2, 1, by decide⟩, ⟨1, -1, by decide⟩⟩
  · exact ⟨⟨3, 1, by decide⟩, ⟨2, -1, by decide⟩⟩
  · exact ⟨⟨4, 1, by decide⟩, ⟨3, -1, by decide⟩⟩
theorem cop_twelve {p : Int} (hp : isP p) (h : p ≠ 2) (h3 : p ≠ 3) : Cop p 12 ∧ Cop p (-12) := by
  rcases hp with rfl | rfl | rfl | rfl
  · exact absurd rfl h
  · exact absurd rfl h3
  · exact ⟨⟨3, 7, by decide⟩, ⟨2, -5, by decide⟩⟩
  · exact ⟨⟨3, 5, by decide⟩, ⟨4, -7, by decide⟩⟩
theorem Rg.two (r : Rg p n W B c) (hp : isP p) (hc : (c : Int) < p) {z : List Int} (hz : El p n z) (h : Lw p n W B 1 (at_ z)) : isZ z ∨ (Cop p 2 ∧ Cop p (-2)) := by
  by_cases h2 : p = 2
  · exact .inl (r.zero (by omega) hz h)
  · exact .inr (cop_two hp h2)
theorem Rg.twelve (r : Rg p n W B c) (hp : isP p) (hc : (c : Int) < p) {z : List Int} (hz : El p n z) (h : Lw p n W B 2 (at_ z)) : isZ z ∨ (Cop p 12 ∧ Cop p (-12)) := by
  by_cases h2 : p = 2
  · exact .inl (r.zero (by omega) hz h)
  · by_cases h3 : p = 3
    · exact .inl (r.zero (by omega) hz h)
    · exact .inr (cop_twelve hp h2 h3)
noncomputable def dv (p : Int) (n : Nat) (W : List (List Int)) (k : Int) (x : List Int) : List Int := Classical.epsilon (DivL p n W k x)
theorem dv_eq (o : OkW p n W) {k : Int} {x z : List Int} (hx : El p n x) (h : DivL p n W k x z) (hk : isZ x ∨ Cop p k) : z = dv p n W k x :=
  h.unique o hx (Classical.epsilon_spec ⟨z, h⟩) hk
theorem div_ex (o : OkW p n W) {k : Int} {x : List Int} (hx : El p n x) : ∃ z, DivL p n W k x z := by
  by_cases hz : isZ x
  · exact ⟨x, hx, fun _ => rfl, fun _ => Eqv.of_eq fun j => by rw [isZ_at hz, Int.mul_zero]⟩
  · by_cases hc : Cop p k
    · have hn : 0 < n := by
        rcases Nat.eq_zero_or_pos n with h | h
        · exact absurd (by rw [List.eq_nil_of_length_eq_zero (hx.1.trans h)]; intro y hy; cases hy) hz
        · exact h
      obtain ⟨y, w, hy⟩ := cop_inv hc hn
      exact ⟨_, DivL.mk' o hx hz (y := y) (kill_all o fun j hj => hx.beyond hj) fun _ => ⟨w, hy⟩⟩
    · exact ⟨x, hx, fun h => absurd h hz, fun h => absurd h hc⟩
theorem dv_spec (o : OkW p n W) {k : Int} {x : List Int} (hx : El p n x) : DivL p n W k x (dv p n W k x) := Classical.epsilon_spec (div_ex o hx)
theorem dv_el (o : OkW p n W) {k : Int} {x : List Int} (hx : El p n x) : El p n (dv p n W k x) := (dv_spec o hx).el
noncomputable def bch (p : Int) (n : Nat) (W : List (List Int)) (B : List (List (List Int))) (x y : List Int) : List Int :=
  ladd p W (ladd p W (ladd p W x y) (dv p n W 2 (br p W B n x y))) (dv p n W 12 (third3 p W B n x y))
theorem bch_el (o : OkW p n W) (q : OkB p n B) {x y : List Int} (hx : El p n x) (hy : El p n y) : El p n (bch p n W B x y) :=
  lmix_el o (lmix_el o (lmix_el o hx hy) (dv_el o (br_el o q))) (dv_el o (third_el o q))
noncomputable def fold (p : Int) (n : Nat) (W : List (List Int)) (B : List (List (List Int))) (xs : List (List Int)) : List Int := xs.foldl (bch p n W B) (List.replicate n 0)
theorem fold_snoc (xs : List (List Int)) {i : Nat} (hi : i < xs.length) : fold p n W B (xs.take (i + 1)) = bch p n W B (fold p n W B (xs.take i)) xs[i] := by
  unfold fold
  rw [List.take_succ_eq_append_getElem hi, List.foldl_append]
  rfl
theorem fold_el (o : OkW p n W) (q : OkB p n B) : ∀ {xs : List (List Int)}, Els p n xs → El p n (fold p n W B xs) := by
  have : ∀ (xs : List (List Int)) (a : List Int), Els p n xs → El p n a → El p n (xs.foldl (bch p n W B) a) := by
    intro xs
    induction xs with
    | nil => exact fun a _ ha => ha
    | cons x xs ih => exact fun a hx ha => ih _ (fun y hy => hx y (by simp [hy])) (bch_el o q ha (hx x (by simp)))
  exact fun {xs} h => this xs _ h (rep_el o.pr)
theorem Rg.brD (r : Rg p n W B c) {x y : List Int} (hx : El p n x) : Lw p n W B 1 (at_ (br p W B n x y)) := r.bL (r.all hx)
theorem Rg.of_lie (hl : isLie p W B) (hz : isLz p W.length W B) : ∃ c, Rg p W.length W B c ∧ (c : Int) < p := by
  obtain ⟨c, hc, hp⟩ := hz
  exact ⟨c, ⟨hl.1.w, hl.1.b, hl.2, hc⟩, hp⟩
end Go.Proofs
namespace Go.Proofs
open Go.Ab Go.Lie
variable {σ : PHeap} {K : PV → PHeap → Prop} {p : Int} {n c : Nat} {W : List (List Int)} {B : List (List (List Int))} {vP vB vL : PV} {s : Nat} {x y : List Int} {vx vy : PV}
structure Lz (p : Int) (n : Nat) (W : List (List Int)) (B : List (List (List Int))) (c : Nat) : Prop where
  r : Rg p n W B c
  hp : isP p
  hc : (c : Int) < p
  pow : ipow p n ≤ 729
theorem Lz.of (hl : isLie p W B) (hz : isLz p W.length W B) : ∃ c, Lz p W.length W B c := by
  obtain ⟨c, r, hc⟩ := Rg.of_lie hl hz
  exact ⟨c, r, hl.1.1, hc, hl.1.2.2.2.1⟩
theorem Lz.d2 (z : Lz p n W B c) (hx : El p n x) : isZ (br p W B n x y) ∨ Cop p 2 := (z.r.two z.hp z.hc (br_el z.r.o z.r.q) (z.r.brD hx)).imp id (·.1)
theorem Lz.d12 (z : Lz p n W B c) (hx : El p n x) : isZ (third3 p W B n x y) ∨ Cop p 12 := (z.r.twelve z.hp z.hc (third_el z.r.o z.r.q) (z.r.thd (z.r.brD hx))).imp id (·.1)
theorem bchTerms_T (z : Lz p n W B c) (hs : PtrR σ s p vP vB) (hR : IsR vP vB W B) (hx : El p n x) (hy : El p n y) (hvx : FI vx x) (hvy : FI vy y)
    (hk : ∀ a v1 v2 v3 t, FI v1 (ladd p W x y) → FI v2 (dv p n W 2 (br p W B n x y)) → FI v3 (dv p n W 12 (third3 p W B n x y)) → Own σ.top t (.fz true a 3 [v1, v2, v3]) → σ.top ≤ t → K (.fz true a 3 [v1, v2, v3]) (σ.up t)) :
    PCalls Tryz.prog 168 [.ptr s 0, vx, vy] σ K := by
  have o := z.r.o
  have q := z.r.q
  have hxl := hx.1
  have hyl := hy.1
  obtain ⟨wx, ax, rfl⟩ := hvx
  obtain ⟨wy, ay, rfl⟩ := hvy
  refine PCalls.gh ?_
  have bel := br_el o q (a := x) (b := y)
  refine pcalls_of_vp mix Tryz.func168 cf168 rfl ?_
  dsimp only [if168, qI, eI, nI, qD, eD]
  simp only [pwA, if_true, if_false, eq_self, nm_eq, reduceCtorEq, ↓reduceIte, Nat.reduceEqDiff, Nat.reduceLeDiff, Nat.reduceBEq, Nat.reduceAdd, Nat.reduceLT, Nat.reduceSub, Nat.reduceMul, Int.reduceEq, Int.reduceLT, Int.reduceLE, Int.reduceNeg, Int.reduceToNat, List.reduceReplicate, Int.ofNat_le, List.getElem?_drop]
  refine bracket_fz hs hR o q hx hy rfl rfl fun v1 => ?_
  simp only [pwA, if_true, if_false, eq_self, nm_eq, reduceCtorEq, ↓reduceIte, Nat.reduceEqDiff, Nat.reduceLeDiff, Nat.reduceBEq, Nat.reduceAdd, Nat.reduceLT, Nat.reduceSub, Nat.reduceMul, Int.reduceEq, Int.reduceLT, Int.reduceLE, Int.reduceNeg, Int.reduceToNat, List.reduceReplicate, Int.ofNat_le, List.getElem?_drop]
  refine bracket_fz hs hR o q hx bel rfl bel.1.symm fun v2 => ?_
  simp only [pwA, if_true, if_false, eq_self, nm_eq, reduceCtorEq, ↓reduceIte, Nat.reduceEqDiff, Nat.reduceLeDiff, Nat.reduceBEq, Nat.reduceAdd, Nat.reduceLT, Nat.reduceSub, Nat.reduceMul, Int.reduceEq, Int.reduceLT, Int.reduceLE, Int.reduceNeg, Int.reduceToNat, List.reduceReplicate, Int.ofNat_le, List.getElem?_drop]
  refine timesLie_fz hs hR.P o bel bel.1.symm (by decide) fun v3 => ?_
  have m1 : El p n (lmul p W (-1) (br p W B n x y)) := lmix_el o bel bel
  simp only [pwA, if_true, if_false, eq_self, nm_eq, reduceCtorEq, ↓reduceIte, Nat.reduceEqDiff, Nat.reduceLeDiff, Nat.reduceBEq, Nat.reduceAdd, Nat.reduceLT, Nat.reduceSub, Nat.reduceMul, Int.reduceEq, Int.reduceLT, Int.reduceLE, Int.reduceNeg, Int.reduceToNat, List.reduceReplicate, Int.ofNat_le, List.getElem?_drop]
  refine bracket_fz hs hR o q hy m1 rfl m1.1.symm fun v4 => ?_
  simp only [pwA, if_true, if_false, eq_self, nm_eq, reduceCtorEq, ↓reduceIte, Nat.reduceEqDiff, Nat.reduceLeDiff, Nat.reduceBEq, Nat.reduceAdd, Nat.reduceLT, Nat.reduceSub, Nat.reduceMul, Int.reduceEq, Int.reduceLT, Int.reduceLE, Int.reduceNeg, Int.reduceToNat, List.reduceReplicate, Int.ofNat_le, List.getElem?_drop]
  have e2 : El p n (br p W B n x (br p W B n x y)) := br_el o q
  have e4 : El p n (br p W B n y (lmul p W (-1) (br p W B n x y))) := br_el o q
  refine addLie_fz hs hR.P o e2 e4 e2.1.symm e4.1.symm fun v5 => ?_
  simp only [pwA, if_true, if_false, eq_self, nm_eq, reduceCtorEq, ↓reduceIte, Nat.reduceEqDiff, Nat.reduceLeDiff, Nat.reduceBEq, Nat.reduceAdd, Nat.reduceLT, Nat.reduceSub, Nat.reduceMul, Int.reduceEq, Int.reduceLT, Int.reduceLE, Int.reduceNeg, Int.reduceToNat, List.reduceReplicate, Int.ofNat_le, List.getElem?_drop]
  refine PCalls.fzIT (fun K' => addLie_ok hs hR.P o hx hy rfl rfl) fun w1 t1 f1 o1 ht1 => ?_
  have hs1 : PtrR (σ.up t1) s p vP vB := ⟨hs.obj, hs.lt⟩
  simp only [pwA, if_true, if_false, eq_self, nm_eq, reduceCtorEq, ↓reduceIte, Nat.reduceEqDiff, Nat.reduceLeDiff, Nat.reduceBEq, Nat.reduceAdd, Nat.reduceLT, Nat.reduceSub, Nat.reduceMul, Int.reduceEq, Int.reduceLT, Int.reduceLE, Int.reduceNeg, Int.reduceToNat, List.reduceReplicate, Int.ofNat_le, List.getElem?_drop]
  refine PCalls.fzITx (fun K' => divideLie_res hs1 hR.P o z.pow bel bel.1.symm) fun z2 w2 t2 d2 f2 o2 ht2 => ?_
  have hs2 : PtrR (σ.up t2) s p vP vB := ⟨hs.obj, hs.lt⟩
  simp only [pwA, if_true, if_false, eq_self, nm_eq, reduceCtorEq, ↓reduceIte, Nat.reduceEqDiff, Nat.reduceLeDiff, Nat.reduceBEq, Nat.reduceAdd, Nat.reduceLT, Nat.reduceSub, Nat.reduceMul, Int.reduceEq, Int.reduceLT, Int.reduceLE, Int.reduceNeg, Int.reduceToNat, List.reduceReplicate, Int.ofNat_le, List.getElem?_drop]
  have te := third_el o q (x := x) (y := y)
  refine PCalls.fzITx (fun K' => divideLie_res hs2 hR.P o z.pow (x := third3 p W B n x y) te te.1.symm) fun z3 w3 t3 d3 f3 o3 ht3 => ?_
  rw [dv_eq o bel d2 (z.d2 hx)] at f2
  rw [dv_eq o te d3 (z.d12 hx)] at f3
  simp only [ptop_up] at o2 ht2 o3 ht3
  simp only [pwA, if_true, if_false, eq_self, nm_eq, reduceCtorEq, ↓reduceIte, Nat.reduceEqDiff, Nat.reduceLeDiff, Nat.reduceBEq, Nat.reduceAdd, Nat.reduceLT, Nat.reduceSub, Nat.reduceMul, Int.reduceEq, Int.reduceLT, Int.reduceLE, Int.reduceNeg, Int.reduceToNat, List.reduceReplicate, Int.ofNat_le, List.getElem?_drop, f1.cells, f1.one, f2.cells, f2.one, f3.cells, f3.one]
  have hoo := (((Owns.nil σ.top σ.top).snoc o1 (Nat.le_refl _) ht1).snoc o2 ht1 ht2).snoc o3 (Nat.le_trans ht1 ht2) ht3
  exact Gh.own (cs := [w1, w2, w3]) ((Keep.refl σ).new _ |>.up (by simp only [ptop_new]; omega)) (by simp only [pwA, if_true, if_false, eq_self, nm_eq, reduceCtorEq, ↓reduceIte, Nat.reduceEqDiff, Nat.reduceLeDiff, Nat.reduceBEq, Nat.reduceAdd, Nat.reduceLT, Nat.reduceSub, Nat.reduceMul, Int.reduceEq, Int.reduceLT, Int.reduceLE, Int.reduceNeg, Int.reduceToNat, List.reduceReplicate, Int.ofNat_le, List.getElem?_drop]) (Nat.le_refl _) ⟨f1.bel 0, f2.bel 0, f3.bel 0, trivial⟩ (by simp [capOK]) (hoo.mono (Nat.le_refl _) (Nat.le_refl _)) fun o4 t4 h1 h2 => hk _ w1 w2 w3 t4 f1 f2 f3 h1 h2
theorem bchTerms_fz (z : Lz p n W B c) (hs : PtrR σ s p vP vB) (hR : IsR vP vB W B) (hx : El p n x) (hy : El p n y) (hvx : FI vx x) (hvy : FI vy y)
    (hk : ∀ a v1 v2 v3, FI v1 (ladd p W x y) → FI v2 (dv p n W 2 (br p W B n x y)) → FI v3 (dv p n W 12 (third3 p W B n x y)) → K (.fz true a 3 [v1, v2, v3]) σ) :
    PCalls Tryz.prog 168 [.ptr s 0, vx, vy] σ K :=
  PCalls.gh (bchTerms_T z hs hR hx hy hvx hvy fun a v1 v2 v3 t f1 f2 f3 _ ht => Gh.fin0 ((Keep.refl σ).up ht) trivial (hk a v1 v2 v3 f1 f2 f3))
theorem bch_ok (z : Lz p n W B c) (hs : PtrR σ s p vP vB) (hR : IsR vP vB W B) (hx : El p n x) (hy : El p n y) (hvx : FI vx x) (hvy : FI vy y) (hk : ResI σ K (bch p n W B x y)) :
    PCalls Tryz.prog 111 [.ptr s 0, vx, vy] σ K := by
  have o := z.r.o
  have q := z.r.q
  refine pcalls_of_vp mix Tryz.func111 cf111 rfl ?_
  dsimp only [if111, qI, eI, nI, qD, eD]
  simp only [pwA, if_true, if_false, eq_self, nm_eq, reduceCtorEq, ↓reduceIte, Nat.reduceEqDiff, Nat.reduceLeDiff, Nat.reduceBEq, Nat.reduceAdd, Nat.reduceLT, Nat.reduceSub, Nat.reduceMul, Int.reduceEq, Int.reduceLT, Int.reduceLE, Int.reduceNeg, Int.reduceToNat, List.reduceReplicate, Int.ofNat_le, List.getElem?_drop]
  refine bchTerms_fz z hs hR hx hy hvx hvy fun a v1 v2 v3 f1 f2 f3 => ?_
  obtain ⟨w1, a1, rfl⟩ := f1
  obtain ⟨w2, a2, rfl⟩ := f2
  obtain ⟨w3, a3, rfl⟩ := f3
  have e1 : El p n (ladd p W x y) := lmix_el o hx hy
  have e2 := dv_el o (k := 2) (br_el o q (a := x) (b := y))
  have e3 := dv_el o (k := 12) (third_el o q (x := x) (y := y))
  have e4 : El p n (ladd p W (ladd p W x y) (dv p n W 2 (br p W B n x y))) := lmix_el o e1 e2
  have c0 : (0 : Int) < ((3 : Nat) : Int) := by decide
  have c1 : (1 : Int) < ((3 : Nat) : Int) := by decide
  have c2 : (2 : Int) < ((3 : Nat) : Int) := by decide
  simp only [pwA, if_true, if_false, eq_self, nm_eq, reduceCtorEq, ↓reduceIte, Nat.reduceEqDiff, Nat.reduceLeDiff, Nat.reduceBEq, Nat.reduceAdd, Nat.reduceLT, Nat.reduceSub, Nat.reduceMul, Int.reduceEq, Int.reduceLT, Int.reduceLE, Int.reduceNeg, Int.reduceToNat, List.reduceReplicate, Int.ofNat_le, List.getElem?_drop, c0, c1, c2]
  refine addLie_fz hs hR.P o e1 e2 rfl rfl fun v4 => ?_
  simp only [pwA, if_true, if_false, eq_self, nm_eq, reduceCtorEq, ↓reduceIte, Nat.reduceEqDiff, Nat.reduceLeDiff, Nat.reduceBEq, Nat.reduceAdd, Nat.reduceLT, Nat.reduceSub, Nat.reduceMul, Int.reduceEq, Int.reduceLT, Int.reduceLE, Int.reduceNeg, Int.reduceToNat, List.reduceReplicate, Int.ofNat_le, List.getElem?_drop]
  refine addLie_ok hs hR.P o e4 e3 e4.1.symm rfl ⟨fun h0 => ?_, fun cap hc => ?_⟩
  · simp only [pwA, if_true, if_false, eq_self, nm_eq, reduceCtorEq, ↓reduceIte, Nat.reduceEqDiff, Nat.reduceLeDiff, Nat.reduceBEq, Nat.reduceAdd, Nat.reduceLT, Nat.reduceSub, Nat.reduceMul, Int.reduceEq, Int.reduceLT, Int.reduceLE, Int.reduceNeg, Int.reduceToNat, List.reduceReplicate, Int.ofNat_le, List.getElem?_drop]
    exact hk.1 h0
  · simp only [pwA, if_true, if_false, eq_self, nm_eq, reduceCtorEq, ↓reduceIte, Nat.reduceEqDiff, Nat.reduceLeDiff, Nat.reduceBEq, Nat.reduceAdd, Nat.reduceLT, Nat.reduceSub, Nat.reduceMul, Int.reduceEq, Int.reduceLT, Int.reduceLE, Int.reduceNeg, Int.reduceToNat, List.reduceReplicate, Int.ofNat_le, List.getElem?_drop]
    exact hk.2 cap hc
theorem l33Terms_fz (z : Lz p n W B c) (hR : IsR vP vB W B) (hx : El p n x) (hy : El p n y) (hvx : FI vx x) (hvy : FI vy y)
    (hk : ∀ a v1 v2 v3, FI v1 (ladd p W x y) → FI v2 (dv p n W 2 (br p W B n x y)) → FI v3 (dv p n W 12 (third3 p W B n x y)) → K (.fz true a 3 [v1, v2, v3]) σ) :
    PCalls Tryz.prog 154 [.agg [.int .i64 p, vP, vB], vx, vy] σ K := by
  have o := z.r.o
  have q := z.r.q
  have hxl := hx.1
  have hyl := hy.1
  have h1 := hR.P.one
  have h2 := hR.B.one
  obtain ⟨wx, ax, rfl⟩ := hvx
  obtain ⟨wy, ay, rfl⟩ := hvy
  refine PCalls.gh ?_
  have bel := br_el o q (a := x) (b := y)
  refine pcalls_of_vp mix Tryz.func154 cf154 rfl ?_
  dsimp only [if154, qI, eI, nI, qD, eD]
  simp only [pwA, if_true, if_false, eq_self, nm_eq, reduceCtorEq, ↓reduceIte, Nat.reduceEqDiff, Nat.reduceLeDiff, Nat.reduceBEq, Nat.reduceAdd, Nat.reduceLT, Nat.reduceSub, Nat.reduceMul, Int.reduceEq, Int.reduceLT, Int.reduceLE, Int.reduceNeg, Int.reduceToNat, List.reduceReplicate, Int.ofNat_le, List.getElem?_drop, h1, h2]
  refine l31Bracket_ok hR o q hx hy rfl rfl fun v1 => ?_
  simp only [pwA, if_true, if_false, eq_self, nm_eq, reduceCtorEq, ↓reduceIte, Nat.reduceEqDiff, Nat.reduceLeDiff, Nat.reduceBEq, Nat.reduceAdd, Nat.reduceLT, Nat.reduceSub, Nat.reduceMul, Int.reduceEq, Int.reduceLT, Int.reduceLE, Int.reduceNeg, Int.reduceToNat, List.reduceReplicate, Int.ofNat_le, List.getElem?_drop]
  refine l31Bracket_ok hR o q hx bel rfl bel.1.symm fun v2 => ?_
  simp only [pwA, if_true, if_false, eq_self, nm_eq, reduceCtorEq, ↓reduceIte, Nat.reduceEqDiff, Nat.reduceLeDiff, Nat.reduceBEq, Nat.reduceAdd, Nat.reduceLT, Nat.reduceSub, Nat.reduceMul, Int.reduceEq, Int.reduceLT, Int.reduceLE, Int.reduceNeg, Int.reduceToNat, List.reduceReplicate, Int.ofNat_le, List.getElem?_drop]
  refine l31Bracket_ok hR o q hy bel rfl bel.1.symm fun v3 => ?_
  simp only [pwA, if_true, if_false, eq_self, nm_eq, reduceCtorEq, ↓reduceIte, Nat.reduceEqDiff, Nat.reduceLeDiff, Nat.reduceBEq, Nat.reduceAdd, Nat.reduceLT, Nat.reduceSub, Nat.reduceMul, Int.reduceEq, Int.reduceLT, Int.reduceLE, Int.reduceNeg, Int.reduceToNat, List.reduceReplicate, Int.ofNat_le, List.getElem?_drop]
  have e2 : El p n (br p W B n x (br p W B n x y)) := br_el o q
  have e3 : El p n (br p W B n y (br p W B n x y)) := br_el o q
  refine l31Mix_el hR o e2 e3 e2.1.symm e3.1.symm (by decide) (by decide) fun v4 => ?_
  have te := third_el o q (x := x) (y := y)
  have hth := third o q z.r.nf (x := x) (y := y) bel
  rw [← hth]
  simp only [pwA, if_true, if_false, eq_self, nm_eq, reduceCtorEq, ↓reduceIte, Nat.reduceEqDiff, Nat.reduceLeDiff, Nat.reduceBEq, Nat.reduceAdd, Nat.reduceLT, Nat.reduceSub, Nat.reduceMul, Int.reduceEq, Int.reduceLT, Int.reduceLE, Int.reduceNeg, Int.reduceToNat, List.reduceReplicate, Int.ofNat_le, List.getElem?_drop]
  refine l31Mix_el hR o hx hy rfl rfl (by decide) (by decide) fun v5 => ?_
  simp only [pwA, if_true, if_false, eq_self, nm_eq, reduceCtorEq, ↓reduceIte, Nat.reduceEqDiff, Nat.reduceLeDiff, Nat.reduceBEq, Nat.reduceAdd, Nat.reduceLT, Nat.reduceSub, Nat.reduceMul, Int.reduceEq, Int.reduceLT, Int.reduceLE, Int.reduceNeg, Int.reduceToNat, List.reduceReplicate, Int.ofNat_le, List.getElem?_drop]
  refine l33Part_ok hR o z.pow bel bel.1.symm fun w6 v6 z2 d2 => ?_
  simp only [pwA, if_true, if_false, eq_self, nm_eq, reduceCtorEq, ↓reduceIte, Nat.reduceEqDiff, Nat.reduceLeDiff, Nat.reduceBEq, Nat.reduceAdd, Nat.reduceLT, Nat.reduceSub, Nat.reduceMul, Int.reduceEq, Int.reduceLT, Int.reduceLE, Int.reduceNeg, Int.reduceToNat, List.reduceReplicate, Int.ofNat_le, List.getElem?_drop]
  refine l33Part_ok hR o z.pow (x := third3 p W B n x y) te te.1.symm fun w7 v7 z3 d3 => ?_
  have hz2 := dv_eq o bel d2 (z.d2 hx)
  have hz3 := dv_eq o te d3 (z.d12 hx)
  subst hz2
  subst hz3
  simp only [pwA, if_true, if_false, eq_self, nm_eq, reduceCtorEq, ↓reduceIte, Nat.reduceEqDiff, Nat.reduceLeDiff, Nat.reduceBEq, Nat.reduceAdd, Nat.reduceLT, Nat.reduceSub, Nat.reduceMul, Int.reduceEq, Int.reduceLT, Int.reduceLE, Int.reduceNeg, Int.reduceToNat, List.reduceReplicate, Int.ofNat_le, List.getElem?_drop]
  exact Gh.finF (s := σ.next + 1) (cs := [.fz true v5 n (pis (ladd p W x y)), .fz w6 v6 n (pis (dv p n W 2 (br p W B n x y))), .fz w7 v7 n (pis (dv p n W 12 (third3 p W B n x y)))]) (((keep_new σ _).new _)) (by simp only [pwA, if_true, if_false, eq_self, nm_eq, reduceCtorEq, ↓reduceIte, Nat.reduceEqDiff, Nat.reduceLeDiff, Nat.reduceBEq, Nat.reduceAdd, Nat.reduceLT, Nat.reduceSub, Nat.reduceMul, Int.reduceEq, Int.reduceLT, Int.reduceLE, Int.reduceNeg, Int.reduceToNat, List.reduceReplicate, Int.ofNat_le, List.getElem?_drop]) (by omega) ⟨trivial, trivial, trivial, trivial⟩ (by simp [capOK]) fun o4 => hk _ _ _ _ ⟨true, v5, by rw [show (ladd p W x y).length = n from (lmix_el o hx hy).1]⟩ ⟨w6, v6, by rw [d2.el.1]⟩ ⟨w7, v7, by rw [d3.el.1]⟩
theorem l33Mul_ok (z : Lz p n W B c) (hR : IsR vP vB W B) (hx : El p n x) (hy : El p n y) (hvx : FI vx x) (hvy : FI vy y) (hk : ∀ v, FI v (bch p n W B x y) → K v σ) :
    PCalls Tryz.prog 98 [.agg [.int .i64 p, vP, vB], vx, vy] σ K := by
  have o := z.r.o
  have q := z.r.q
  have h1 := hR.P.one
  have h2 := hR.B.one
  refine PCalls.gh ?_
  refine pcalls_of_vp mix Tryz.func98 cf98 rfl ?_
  dsimp only [if98, qI, eI, nI, qD, eD]
  simp only [pwA, if_true, if_false, eq_self, nm_eq, reduceCtorEq, ↓reduceIte, Nat.reduceEqDiff, Nat.reduceLeDiff, Nat.reduceBEq, Nat.reduceAdd, Nat.reduceLT, Nat.reduceSub, Nat.reduceMul, Int.reduceEq, Int.reduceLT, Int.reduceLE, Int.reduceNeg, Int.reduceToNat, List.reduceReplicate, Int.ofNat_le, List.getElem?_drop, h1, h2]
  refine l33Terms_fz z hR hx hy hvx hvy fun a v1 v2 v3 f1 f2 f3 => ?_
  obtain ⟨w1, a1, rfl⟩ := f1
  obtain ⟨w2, a2, rfl⟩ := f2
  obtain ⟨w3, a3, rfl⟩ := f3
  have e1 : El p n (ladd p W x y) := lmix_el o hx hy
  have e2 := dv_el o (k := 2) (br_el o q (a := x) (b := y))
  have e3 := dv_el o (k := 12) (third_el o q (x := x) (y := y))
  have e4 : El p n (ladd p W (ladd p W x y) (dv p n W 2 (br p W B n x y))) := lmix_el o e1 e2
  have c0 : (0 : Int) < ((3 : Nat) : Int) := by decide
  have c1 : (1 : Int) < ((3 : Nat) : Int) := by decide
  have c2 : (2 : Int) < ((3 : Nat) : Int) := by decide
  simp only [pwA, if_true, if_false, eq_self, nm_eq, reduceCtorEq, ↓reduceIte, Nat.reduceEqDiff, Nat.reduceLeDiff, Nat.reduceBEq, Nat.reduceAdd, Nat.reduceLT, Nat.reduceSub, Nat.reduceMul, Int.reduceEq, Int.reduceLT, Int.reduceLE, Int.reduceNeg, Int.reduceToNat, List.reduceReplicate, Int.ofNat_le, List.getElem?_drop, c0, c1, c2]
  refine l31Mix_el hR o e1 e2 rfl rfl (by decide) (by decide) fun v4 => ?_
  simp only [pwA, if_true, if_false, eq_self, nm_eq, reduceCtorEq, ↓reduceIte, Nat.reduceEqDiff, Nat.reduceLeDiff, Nat.reduceBEq, Nat.reduceAdd, Nat.reduceLT, Nat.reduceSub, Nat.reduceMul, Int.reduceEq, Int.reduceLT, Int.reduceLE, Int.reduceNeg, Int.reduceToNat, List.reduceReplicate, Int.ofNat_le, List.getElem?_drop]
  refine l31Mix_el hR o (a := ladd p W (ladd p W x y) (dv p n W 2 (br p W B n x y))) e4 e3 e4.1.symm rfl (by decide) (by decide) fun v5 => ?_
  simp only [pwA, if_true, if_false, eq_self, nm_eq, reduceCtorEq, ↓reduceIte, Nat.reduceEqDiff, Nat.reduceLeDiff, Nat.reduceBEq, Nat.reduceAdd, Nat.reduceLT, Nat.reduceSub, Nat.reduceMul, Int.reduceEq, Int.reduceLT, Int.reduceLE, Int.reduceNeg, Int.reduceToNat, List.reduceReplicate, Int.ofNat_le, List.getElem?_drop]
  exact Gh.fin0 (keep_new σ _) trivial (hk _ ⟨true, v5, by rw [(bch_el o q hx hy).1]; rfl⟩)
theorem l33Neg_ok (o : OkW p n W) (hR : IsR vP vB W B) (hx : El p n x) (hvx : FI vx x) (hk : ∀ v, FI v (lmul p W (-1) x) → K v σ) :
    PCalls Tryz.prog 130 [.agg [.int .i64 p, vP, vB], vx] σ K := by
  have h1 := hR.P.one
  have h2 := hR.B.one
  have hxl := hx.1
  obtain ⟨wx, ax, rfl⟩ := hvx
  refine PCalls.gh ?_
  refine pcalls_of_vp mix Tryz.func130 cf130 rfl ?_
  dsimp only [if130, qI, eI, nI, qD, eD]
  simp only [pwA, if_true, if_false, eq_self, nm_eq, reduceCtorEq, ↓reduceIte, Nat.reduceEqDiff, Nat.reduceLeDiff, Nat.reduceBEq, Nat.reduceAdd, Nat.reduceLT, Nat.reduceSub, Nat.reduceMul, Int.reduceEq, Int.reduceLT, Int.reduceLE, Int.reduceNeg, Int.reduceToNat, List.reduceReplicate, Int.ofNat_le, List.getElem?_drop, h1, h2]
  refine l31Mix_el hR o hx hx rfl rfl (by decide) (by decide) fun v5 => ?_
  simp only [pwA, if_true, if_false, eq_self, nm_eq, reduceCtorEq, ↓reduceIte, Nat.reduceEqDiff, Nat.reduceLeDiff, Nat.reduceBEq, Nat.reduceAdd, Nat.reduceLT, Nat.reduceSub, Nat.reduceMul, Int.reduceEq, Int.reduceLT, Int.reduceLE, Int.reduceNeg, Int.reduceToNat, List.reduceReplicate, Int.ofNat_le, List.getElem?_drop]
  exact Gh.fin0 (keep_new σ _) trivial (hk _ ⟨true, v5, by rw [show (lmul p W (-1) x).length = n from (lmix_el o hx hx).1]⟩)
end Go.Proofs
namespace Go.Proofs
open Go.Ab Go.Lie
variable {σ : PHeap} {K : PV → PHeap → Prop} {p : Int} {n c : Nat} {W : List (List Int)} {B : List (List (List Int))} {vP vB vL : PV} {s : Nat} {x y : List Int} {vx vy : PV} {xs : List (List Int)}
theorem bchFold_ok (z : Lz p n W B c) (hs : PtrR σ s p vP vB) (hR : IsR vP vB W B) (hL : FII vL xs) (hx : Els p n xs) (hb : xs.length ≤ 1048576) (hk : ResI σ K (fold p n W B xs)) : PCalls Tryz.prog 77 [.ptr s 0, vL] σ K := by
  have o := z.r.o
  have q := z.r.q
  have hn6 := o.le
  have hWl := o.len
  have hR0 := hR
  obtain ⟨wl, al, rl, rfl, hrl⟩ := hL
  obtain ⟨⟨w1, a1, rP, rfl, hP⟩, hB⟩ := hR
  refine PCalls.gh ?_
  have hne : ¬ s = σ.next := Nat.ne_of_lt hs.lt
  refine pcalls_of_vp mix Tryz.func77 cf77 rfl ?_
  dsimp only [if77, qI, eI, nI, qD, eD]
  simp only [pwA, if_true, if_false, eq_self, nm_eq, reduceCtorEq, ↓reduceIte, Nat.reduceEqDiff, Nat.reduceLeDiff, Nat.reduceBEq, Nat.reduceAdd, Nat.reduceLT, Nat.reduceSub, Nat.reduceMul, Int.reduceEq, Int.reduceLT, Int.reduceLE, Int.reduceNeg, Int.reduceToNat, List.reduceReplicate, Int.ofNat_le, List.getElem?_drop, obj_rd1 hs.obj, hne, List.length_replicate, pis_rep, mk8 (n := W.length) (by omega), mkL (n := W.length) (by omega)]
  refine vp_loop (fun m vs h' => ∃ i v, i ≤ xs.length ∧ m = xs.length - i ∧ vs = [.ptr s 0, v, .fz wl al xs.length rl, .int .i64 xs.length, .int .i64 (i : Nat)] ∧ Keep σ h' ∧ PAcc σ.next 1 h' v n (pis (fold p n W B (xs.take i)))) xs.length ?_ ?_
  · refine ⟨0, _, by omega, by omega, rfl, keep_new σ _, .inr ?_⟩
    rw [hWl]
    exact PSl.new σ.next 1 (h := σ) (n := n) (cs := pis (List.replicate n 0)) (by rw [pis_length]; simp) (Nat.le_refl _)
  · rintro m vs h' ⟨i, v, hi, rfl, rfl, hkp, ha⟩
    simp only [pwA, if_true, if_false, eq_self, nm_eq, reduceCtorEq, ↓reduceIte, Nat.reduceEqDiff, Nat.reduceLeDiff, Nat.reduceBEq, Nat.reduceAdd, Nat.reduceLT, Nat.reduceSub, Nat.reduceMul, Int.reduceEq, Int.reduceLT, Int.reduceLE, Int.reduceNeg, Int.reduceToNat, List.reduceReplicate, Int.ofNat_le, List.getElem?_drop]
    refine iteI (fun hlt => ?_) fun hge => ?_
    · obtain ⟨w4, a4, hrk⟩ := hrl.rowI hlt
      have hel := fold_el o q (xs := xs.take i) fun y hy => hx y (List.mem_of_mem_take hy)
      have hxi := hx _ (List.getElem_mem hlt)
      have e : ∀ {v' : PV} {H : PHeap}, Keep σ H → PAcc σ.next 1 H v' n (pis (bch p n W B (fold p n W B (xs.take i)) xs[i])) → ∃ n', n' < xs.length - i ∧ ∃ i' v, i' ≤ xs.length ∧ n' = xs.length - i' ∧ [PV.ptr s 0, v', .fz wl al xs.length rl, .int .i64 xs.length, .int .i64 ((i + 1 : Nat) : Int)] = [.ptr s 0, v, .fz wl al xs.length rl, .int .i64 xs.length, .int .i64 (i' : Nat)] ∧ Keep σ H ∧ PAcc σ.next 1 H v n (pis (fold p n W B (xs.take i'))) := fun {v' H} k1 k2 => by
        refine ⟨_, by omega, i + 1, v', by omega, rfl, rfl, k1, ?_⟩
        rw [fold_snoc xs hlt]
        exact k2
      have bl := (bch_el o q hel hxi).1
      simp only [pwA, if_true, if_false, eq_self, nm_eq, reduceCtorEq, ↓reduceIte, Nat.reduceEqDiff, Nat.reduceLeDiff, Nat.reduceBEq, Nat.reduceAdd, Nat.reduceLT, Nat.reduceSub, Nat.reduceMul, Int.reduceEq, Int.reduceLT, Int.reduceLE, Int.reduceNeg, Int.reduceToNat, List.reduceReplicate, Int.ofNat_le, List.getElem?_drop, hlt, hrk]
      rcases ha with ⟨rfl, h0, h1⟩ | ⟨s', cap, rfl, hc, q2, q3, q4, q5⟩
      · refine bch_ok z (hs.keep hkp) hR0 hel hxi ⟨true, .nils, by rw [h1, show (fold p n W B (xs.take i)).length = 0 by rw [hel.1]; exact h0]⟩ ⟨_, _, rfl⟩ ⟨fun h2 => ?_, fun cap hc => ?_⟩
        · simp only [pwA, if_true, if_false, eq_self, nm_eq, reduceCtorEq, ↓reduceIte, Nat.reduceEqDiff, Nat.reduceLeDiff, Nat.reduceBEq, Nat.reduceAdd, Nat.reduceLT, Nat.reduceSub, Nat.reduceMul, Int.reduceEq, Int.reduceLT, Int.reduceLE, Int.reduceNeg, Int.reduceToNat, List.reduceReplicate, Int.ofNat_le, List.getElem?_drop, wrapS hlt (by omega : xs.length ≤ 4611686018427387904)]
          exact e hkp (.inl ⟨rfl, h0, by rw [h2]; rfl⟩)
        · simp only [pwA, if_true, if_false, eq_self, nm_eq, reduceCtorEq, ↓reduceIte, Nat.reduceEqDiff, Nat.reduceLeDiff, Nat.reduceBEq, Nat.reduceAdd, Nat.reduceLT, Nat.reduceSub, Nat.reduceMul, Int.reduceEq, Int.reduceLT, Int.reduceLE, Int.reduceNeg, Int.reduceToNat, List.reduceReplicate, Int.ofNat_le, List.getElem?_drop, wrapS hlt (by omega : xs.length ≤ 4611686018427387904)]
          refine e (hkp.new _) (.inr ⟨_, cap, by rw [bl], by rw [← bl]; exact hc, by simp only [pwA, if_true, if_false, eq_self, nm_eq, reduceCtorEq, ↓reduceIte, Nat.reduceEqDiff, Nat.reduceLeDiff, Nat.reduceBEq, Nat.reduceAdd, Nat.reduceLT, Nat.reduceSub, Nat.reduceMul, Int.reduceEq, Int.reduceLT, Int.reduceLE, Int.reduceNeg, Int.reduceToNat, List.reduceReplicate, Int.ofNat_le, List.getElem?_drop], by rw [pis_length, bl, Nat.mul_one], hkp.next, by simp [PHeap.new]⟩)
      · refine PCalls.frz (s := s') (cs := pis (fold p n W B (xs.take i))) q2 (pis_bel _ _) fun o1 => ?_
        have hcok := hc.ok
        simp only [sbs, sb, hcok, and_self, if_true]
        have hk2 : Keep σ (h'.kill s') := hkp.kill q4
        refine bch_ok z (hs.keep hk2) hR0 hel hxi ⟨true, _, by rw [hel.1]⟩ ⟨_, _, rfl⟩ ⟨fun h2 => ?_, fun cap hc => ?_⟩
        · simp only [pwA, if_true, if_false, eq_self, nm_eq, reduceCtorEq, ↓reduceIte, Nat.reduceEqDiff, Nat.reduceLeDiff, Nat.reduceBEq, Nat.reduceAdd, Nat.reduceLT, Nat.reduceSub, Nat.reduceMul, Int.reduceEq, Int.reduceLT, Int.reduceLE, Int.reduceNeg, Int.reduceToNat, List.reduceReplicate, Int.ofNat_le, List.getElem?_drop, wrapS hlt (by omega : xs.length ≤ 4611686018427387904)]
          exact e hk2 (.inl ⟨rfl, by rw [← bl, h2]; rfl, by rw [h2]; rfl⟩)
        · simp only [pwA, if_true, if_false, eq_self, nm_eq, reduceCtorEq, ↓reduceIte, Nat.reduceEqDiff, Nat.reduceLeDiff, Nat.reduceBEq, Nat.reduceAdd, Nat.reduceLT, Nat.reduceSub, Nat.reduceMul, Int.reduceEq, Int.reduceLT, Int.reduceLE, Int.reduceNeg, Int.reduceToNat, List.reduceReplicate, Int.ofNat_le, List.getElem?_drop, wrapS hlt (by omega : xs.length ≤ 4611686018427387904)]
          refine e (hk2.new _) (.inr ⟨_, cap, by rw [bl]; rfl, by rw [← bl]; exact hc, by simp only [pwA, if_true, if_false, eq_self, nm_eq, reduceCtorEq, ↓reduceIte, Nat.reduceEqDiff, Nat.reduceLeDiff, Nat.reduceBEq, Nat.reduceAdd, Nat.reduceLT, Nat.reduceSub, Nat.reduceMul, Int.reduceEq, Int.reduceLT, Int.reduceLE, Int.reduceNeg, Int.reduceToNat, List.reduceReplicate, Int.ofNat_le, List.getElem?_drop], by rw [pis_length, bl, Nat.mul_one], hk2.next, by simp [PHeap.new]⟩)
    · have hie : i = xs.length := by omega
      subst hie
      rw [List.take_length] at ha
      exact ha.res hkp (fold_el o q hx).1.symm hk
theorem l33Fold_ok (z : Lz p n W B c) (hR : IsR vP vB W B) (hL : FII vL xs) (hx : Els p n xs) (hb : xs.length ≤ 1048576) (hk : ∀ v, FI v (fold p n W B xs) → K v σ) : PCalls Tryz.prog 129 [.agg [.int .i64 p, vP, vB], vL] σ K := by
  have o := z.r.o
  have q := z.r.q
  have hn6 := o.le
  have hWl := o.len
  have h1 := hR.P.one
  have h2 := hR.B.one
  obtain ⟨wl, al, rl, rfl, hrl⟩ := hL
  refine PCalls.gh ?_
  refine pcalls_of_vp mix Tryz.func129 cf129 rfl ?_
  dsimp only [if129, qI, eI, nI, qD, eD]
  simp only [pwA, if_true, if_false, eq_self, nm_eq, reduceCtorEq, ↓reduceIte, Nat.reduceEqDiff, Nat.reduceLeDiff, Nat.reduceBEq, Nat.reduceAdd, Nat.reduceLT, Nat.reduceSub, Nat.reduceMul, Int.reduceEq, Int.reduceLT, Int.reduceLE, Int.reduceNeg, Int.reduceToNat, List.reduceReplicate, Int.ofNat_le, List.getElem?_drop, h1, h2]
  refine l31Zero_ok hR hWl (by omega) fun v0 => ?_
  simp only [pwA, if_true, if_false, eq_self, nm_eq, reduceCtorEq, ↓reduceIte, Nat.reduceEqDiff, Nat.reduceLeDiff, Nat.reduceBEq, Nat.reduceAdd, Nat.reduceLT, Nat.reduceSub, Nat.reduceMul, Int.reduceEq, Int.reduceLT, Int.reduceLE, Int.reduceNeg, Int.reduceToNat, List.reduceReplicate, Int.ofNat_le, List.getElem?_drop]
  refine vp_loop (fun m vs h' => ∃ i v, i ≤ xs.length ∧ m = xs.length - i ∧ vs = [.fz wl al xs.length rl, .ptr σ.next 0, v, .int .i64 (i : Nat)] ∧ h' = σ.new [.int .i64 p, vP, vB] ∧ FI v (fold p n W B (xs.take i))) xs.length ?_ ?_
  · exact ⟨0, _, by omega, by omega, rfl, rfl, ⟨true, v0, by rw [List.take_zero, show fold p n W B [] = List.replicate n 0 from rfl, List.length_replicate]; rfl⟩⟩
  · rintro m vs h' ⟨i, v, hi, rfl, rfl, rfl, hv⟩
    simp only [pwA, if_true, if_false, eq_self, nm_eq, reduceCtorEq, ↓reduceIte, Nat.reduceEqDiff, Nat.reduceLeDiff, Nat.reduceBEq, Nat.reduceAdd, Nat.reduceLT, Nat.reduceSub, Nat.reduceMul, Int.reduceEq, Int.reduceLT, Int.reduceLE, Int.reduceNeg, Int.reduceToNat, List.reduceReplicate, Int.ofNat_le, List.getElem?_drop]
    refine iteI (fun hlt => ?_) fun hge => ?_
    · obtain ⟨w4, a4, hrk⟩ := hrl.rowI hlt
      have hel := fold_el o q (xs := xs.take i) fun y hy => hx y (List.mem_of_mem_take hy)
      have hxi := hx _ (List.getElem_mem hlt)
      simp only [pwA, if_true, if_false, eq_self, nm_eq, reduceCtorEq, ↓reduceIte, Nat.reduceEqDiff, Nat.reduceLeDiff, Nat.reduceBEq, Nat.reduceAdd, Nat.reduceLT, Nat.reduceSub, Nat.reduceMul, Int.reduceEq, Int.reduceLT, Int.reduceLE, Int.reduceNeg, Int.reduceToNat, List.reduceReplicate, Int.ofNat_le, List.getElem?_drop, hlt, hrk]
      refine l33Mul_ok z hR hel hxi hv ⟨_, _, rfl⟩ fun v' hv' => ?_
      simp only [pwA, if_true, if_false, eq_self, nm_eq, reduceCtorEq, ↓reduceIte, Nat.reduceEqDiff, Nat.reduceLeDiff, Nat.reduceBEq, Nat.reduceAdd, Nat.reduceLT, Nat.reduceSub, Nat.reduceMul, Int.reduceEq, Int.reduceLT, Int.reduceLE, Int.reduceNeg, Int.reduceToNat, List.reduceReplicate, Int.ofNat_le, List.getElem?_drop, wrapS hlt (by omega : xs.length ≤ 4611686018427387904)]
      exact ⟨_, by omega, i + 1, v', by omega, rfl, rfl, by rw [fold_snoc xs hlt]; exact hv'⟩
    · have hie : i = xs.length := by omega
      subst hie
      rw [List.take_length] at hv
      exact Gh.fin0 (keep_new σ _) (hv.bel _) (hk v hv)
theorem rows3 {v1 v2 v3 : PV} {x1 x2 x3 : List Int} {w : Bool} {a : AV} (h1 : FI v1 x1) (h2 : FI v2 x2) (h3 : FI v3 x3) : FII (.fz w a 3 [v1, v2, v3]) [x1, x2, x3] := ⟨w, a, _, rfl, by simpa using (((All2.nil _).snoc h1).snoc h2).snoc h3⟩
theorem neg_el (o : OkW p n W) (hx : El p n x) : El p n (lmul p W (-1) x) := lmix_el o hx hx
theorem els3 {x1 x2 x3 : List Int} (h1 : El p n x1) (h2 : El p n x2) (h3 : El p n x3) : Els p n [x1, x2, x3] := fun y hy => by simp at hy; rcases hy with rfl | rfl | rfl <;> assumption
theorem timesLie_FI (o : OkW p n W) (hs : PtrR σ s p vP vB) (hP : FII vP W) (hx : El p n x) (hvx : FI vx x) {k : Int} (hkb : -1000000000 ≤ k ∧ k ≤ 1000000000) (hk : ∀ v, FI v (lmul p W k x) → K v σ) : PCalls Tryz.prog 76 [.ptr s 0, .int .i64 k, vx] σ K := by
  obtain ⟨wx, ax, rfl⟩ := hvx
  exact timesLie_fz hs hP o hx rfl hkb fun v => hk _ ⟨_, _, by rw [show (lmul p W k x).length = n from (lmix_el o hx hx).1]⟩
noncomputable def conj (p : Int) (n : Nat) (W : List (List Int)) (B : List (List (List Int))) (x y : List Int) : List Int := fold p n W B [lmul p W (-1) y, x, y]
theorem l33Conj_ok (z : Lz p n W B c) (hR : IsR vP vB W B) (hx : El p n x) (hy : El p n y) (hvx : FI vx x) (hvy : FI vy y) (hk : ∀ v, FI v (conj p n W B x y) → K v σ) :
    PCalls Tryz.prog 71 [.agg [.int .i64 p, vP, vB], vx, vy] σ K := by
  have o := z.r.o
  have q := z.r.q
  have h1 := hR.P.one
  have h2 := hR.B.one
  refine PCalls.gh ?_
  refine pcalls_of_vp mix Tryz.func71 cf71 rfl ?_
  dsimp only [if71, qI, eI, nI, qD, eD]
  simp only [pwA, if_true, if_false, eq_self, nm_eq, reduceCtorEq, ↓reduceIte, Nat.reduceEqDiff, Nat.reduceLeDiff, Nat.reduceBEq, Nat.reduceAdd, Nat.reduceLT, Nat.reduceSub, Nat.reduceMul, Int.reduceEq, Int.reduceLT, Int.reduceLE, Int.reduceNeg, Int.reduceToNat, List.reduceReplicate, Int.ofNat_le, List.getElem?_drop, h1, h2]
  refine l33Neg_ok o hR hy hvy fun v1 f1 => ?_
  simp only [pwA, if_true, if_false, eq_self, nm_eq, reduceCtorEq, ↓reduceIte, Nat.reduceEqDiff, Nat.reduceLeDiff, Nat.reduceBEq, Nat.reduceAdd, Nat.reduceLT, Nat.reduceSub, Nat.reduceMul, Int.reduceEq, Int.reduceLT, Int.reduceLE, Int.reduceNeg, Int.reduceToNat, List.reduceReplicate, Int.ofNat_le, List.getElem?_drop, f1.one, f1.cells, hvx.one, hvx.cells, hvy.one, hvy.cells]
  refine PCalls.frz (s := σ.next + 1) (cs := [v1, vx, vy]) (by simp only [pwA, if_true, if_false, eq_self, nm_eq, reduceCtorEq, ↓reduceIte, Nat.reduceEqDiff, Nat.reduceLeDiff, Nat.reduceBEq, Nat.reduceAdd, Nat.reduceLT, Nat.reduceSub, Nat.reduceMul, Int.reduceEq, Int.reduceLT, Int.reduceLE, Int.reduceNeg, Int.reduceToNat, List.reduceReplicate, Int.ofNat_le, List.getElem?_drop]) ⟨f1.bel 0, hvx.bel 0, hvy.bel 0, trivial⟩ fun o1 => ?_
  simp only [sbs, sb, capOK, and_self, if_true, decide_true, Nat.le_refl, hR.P.sb, hR.B.sb]
  refine l33Fold_ok z hR (rows3 f1 hvx hvy) (els3 (neg_el o hy) hx hy) (by simp) fun v hv => ?_
  simp only [pwA, if_true, if_false, eq_self, nm_eq, reduceCtorEq, ↓reduceIte, Nat.reduceEqDiff, Nat.reduceLeDiff, Nat.reduceBEq, Nat.reduceAdd, Nat.reduceLT, Nat.reduceSub, Nat.reduceMul, Int.reduceEq, Int.reduceLT, Int.reduceLE, Int.reduceNeg, Int.reduceToNat, List.reduceReplicate, Int.ofNat_le, List.getElem?_drop]
  exact Gh.fin0 (((keep_new σ _).new _).kill (by omega)) (hv.bel _) (hk v hv)
end Go.Proofs
namespace Go.Proofs
open Go.Ab Go.Lie
variable {σ : PHeap} {K : PV → PHeap → Prop} {p : Int} {n c m k : Nat} {W : List (List Int)} {B : List (List (List Int))} {vP vB vL : PV} {s : Nat} {x y u v : List Int} {vx vy : PV} {xs : List (List Int)}
theorem totR_bd (sz : SzR W B) : totR W B ≤ 1153000000000000000 := by
  have h1 := totL_bd (m := 1048576) (len := List.length) sz.w
  have h2 : ∀ q ∈ B, totL List.length q ≤ 1099511627776 := fun q hq => by
    have h3 := totL_bd (m := 1048576) (len := List.length) (sz.c q hq)
    have h4 := sz.b q hq
    omega
  have h3 := totL_bd (m := 1099511627776) (len := totL List.length) h2
  have h4 := sz.Wl
  have h5 := sz.Bl
  unfold totR
  omega
end Go.Proofs
namespace Go.Proofs
open Go.Ab Go.Lie
variable {σ : PHeap} {K : PV → PHeap → Prop} {p : Int} {n c m k : Nat} {W : List (List Int)} {B : List (List (List Int))} {vP vB vL : PV} {s : Nat} {x y u v : List Int} {vx vy : PV} {xs : List (List Int)}
theorem lmix0 {k : Int} {a b : List Int} (h : b.length = a.length) : lmix k a 0 b = lmix k a 0 a := by
  unfold lmix
  refine List.ext_getElem (by simp [h]) fun i h1 h2 => ?_
  simp
theorem el_rng (hx : El p n x) (hp : isP p) (i : Nat) : 0 ≤ at_ x i ∧ at_ x i ≤ 1000000 := by
  have := hp.bd
  rcases Nat.lt_or_ge i x.length with h | h
  · have := hx.2 _ (List.getElem_mem h); rw [at_eq h]; omega
  · rw [at_ge h]; omega
theorem pisA {i : Nat} (h : i < x.length) : (pis x)[i]? = some (.int .i64 (at_ x i)) := by rw [pis_get, gi h, at_eq h]; rfl
noncomputable def ptG (p : Int) (n : Nat) (W : List (List Int)) (B : List (List (List Int))) (e : List Int) : Nat → List Int
  | 0 => List.replicate n 0
  | i + 1 => bch p n W B (ptG p n W B e i) (lmul p W (at_ e i) (unitL n i))
noncomputable def stG (p : Int) (n : Nat) (W : List (List Int)) (B : List (List (List Int))) (x : List Int) : Nat → List Int × List Int
  | 0 => (List.replicate n 0, x)
  | i + 1 => ((stG p n W B x i).1.set i (at_ (stG p n W B x i).2 i), bch p n W B (lmul p W (-at_ (stG p n W B x i).2 i) (unitL n i)) (stG p n W B x i).2)
theorem stG_len : ∀ i, (stG p n W B x i).1.length = n
  | 0 => List.length_replicate ..
  | i + 1 => by rw [stG, List.length_set]; exact stG_len i
theorem stG_el (o : OkW p n W) (q : OkB p n B) (hx : El p n x) : ∀ {i : Nat}, i ≤ n → El p n (stG p n W B x i).2
  | 0, _ => hx
  | i + 1, hi => bch_el o q (lmix_el o (unit_el o.pr (by omega)) (unit_el o.pr (by omega))) (stG_el o q hx (by omega))
noncomputable def vcG (p : Int) (n : Nat) (W : List (List Int)) (B : List (List (List Int))) (x : List Int) : List Int := (stG p n W B x n).1
theorem lieToGroup_ok (z : Lz p n W B c) (hs : PtrR σ s p vP vB) (hR : IsR vP vB W B) (hx : El p n x) (hvx : FI vx x) (hk : ∀ cap, full 1 cap n → K (.sl σ.next 0 n cap) (σ.new (pis (vcG p n W B x)))) : PCalls Tryz.prog 61 [.ptr s 0, vx] σ K := by
  have o := z.r.o
  have q := z.r.q
  have hn6 := o.le
  have hxl := hx.1
  obtain ⟨wx, ax, rfl⟩ := hvx
  refine PCalls.gh ?_
  have hne : ¬ s = σ.next := Nat.ne_of_lt hs.lt
  refine pcalls_of_vp mix Tryz.func61 cf61 rfl ?_
  dsimp only [if61, qI, eI, nI, qD, eD]
  simp only [pwA, if_true, if_false, eq_self, nm_eq, reduceCtorEq, ↓reduceIte, Nat.reduceEqDiff, Nat.reduceLeDiff, Nat.reduceBEq, Nat.reduceAdd, Nat.reduceLT, Nat.reduceSub, Nat.reduceMul, Int.reduceEq, Int.reduceLT, Int.reduceLE, Int.reduceNeg, Int.reduceToNat, List.reduceReplicate, Int.ofNat_le, List.getElem?_drop, hxl, List.length_replicate, pis_rep, mk8 (n := n) (by omega), mkL (n := n) (by omega)]
  refine vp_loop (fun m vs h' => ∃ i v, i ≤ n ∧ m = n - i ∧ vs = [.ptr s 0, v, .int .i64 n, .sl σ.next 0 n (.known n), .int .i64 n, .int .i64 (i : Nat)] ∧ h' = σ.new (pis (stG p n W B x i).1) ∧ FI v (stG p n W B x i).2) n ?_ ?_
  · exact ⟨0, .fz wx ax n (pis x), by omega, by omega, rfl, rfl, ⟨_, _, by rw [show (stG p n W B x 0).2 = x from rfl, hxl]⟩⟩
  · rintro m vs h' ⟨i, v, hi, rfl, rfl, rfl, hv⟩
    simp only [pwA, if_true, if_false, eq_self, nm_eq, reduceCtorEq, ↓reduceIte, Nat.reduceEqDiff, Nat.reduceLeDiff, Nat.reduceBEq, Nat.reduceAdd, Nat.reduceLT, Nat.reduceSub, Nat.reduceMul, Int.reduceEq, Int.reduceLT, Int.reduceLE, Int.reduceNeg, Int.reduceToNat, List.reduceReplicate, Int.ofNat_le, List.getElem?_drop]
    refine iteI (fun hlt => ?_) fun hge => ?_
    · have hel := stG_el (B := B) o q hx hi
      have hu := unit_el (n := n) o.pr hlt
      have hb := el_rng hel z.hp i
      have hol := stG_len (p := p) (n := n) (W := W) (B := B) (x := x) i
      have hlx : i < (stG p n W B x i).2.length := by rw [hel.1]; exact hlt
      have hlo : i < (stG p n W B x i).1.length := by omega
      obtain ⟨w0, a0, rfl⟩ := hv
      have hset : (pis (stG p n W B x i).1).take i ++ [.int .i64 (at_ (stG p n W B x i).2 i)] ++ (pis (stG p n W B x i).1).drop (i + 1) = pis (stG p n W B x (i + 1)).1 := pis_set_at hlo
      have hat : at_ (stG p n W B x (i + 1)).1 i = at_ (stG p n W B x i).2 i := by rw [stG, at_eq (by rw [List.length_set]; exact hlo)]; simp
      have hl2 : i < (stG p n W B x (i + 1)).1.length := by rw [stG_len]; exact hlt
      have ne := lmix_el o (k := -at_ (stG p n W B x i).2 i) (m := 0) hu hu
      have hneg : IntKind.i64.wrap (0 - at_ (stG p n W B x i).2 i) = -at_ (stG p n W B x i).2 i := by rw [wrap64 (by omega) (by omega)]; omega
      have hs2 : PtrR (σ.new (pis (stG p n W B x (i + 1)).1)) s p vP vB := hs.new _
      simp only [pwA, if_true, if_false, eq_self, nm_eq, reduceCtorEq, ↓reduceIte, Nat.reduceEqDiff, Nat.reduceLeDiff, Nat.reduceBEq, Nat.reduceAdd, Nat.reduceLT, Nat.reduceSub, Nat.reduceMul, Int.reduceEq, Int.reduceLT, Int.reduceLE, Int.reduceNeg, Int.reduceToNat, List.reduceReplicate, Int.ofNat_le, List.getElem?_drop, hlt, pisA hlx, hlx, hlo, Nat.succ_le_of_lt hlo, pis_length, hset, pisA hl2, hat, hneg]
      refine unitVector_fz (by omega) hlt fun a1 => ?_
      simp only [pwA, if_true, if_false, eq_self, nm_eq, reduceCtorEq, ↓reduceIte, Nat.reduceEqDiff, Nat.reduceLeDiff, Nat.reduceBEq, Nat.reduceAdd, Nat.reduceLT, Nat.reduceSub, Nat.reduceMul, Int.reduceEq, Int.reduceLT, Int.reduceLE, Int.reduceNeg, Int.reduceToNat, List.reduceReplicate, Int.ofNat_le, List.getElem?_drop, pisA hl2, hat]
      refine timesLie_FI o hs2 hR.P hu ⟨true, a1, by rw [hu.1]⟩ (k := -at_ (stG p n W B x i).2 i) (by omega) fun v1 f1 => ?_
      simp only [pwA, if_true, if_false, eq_self, nm_eq, reduceCtorEq, ↓reduceIte, Nat.reduceEqDiff, Nat.reduceLeDiff, Nat.reduceBEq, Nat.reduceAdd, Nat.reduceLT, Nat.reduceSub, Nat.reduceMul, Int.reduceEq, Int.reduceLT, Int.reduceLE, Int.reduceNeg, Int.reduceToNat, List.reduceReplicate, Int.ofNat_le, List.getElem?_drop]
      refine PCalls.fzI (fun K' => bch_ok z hs2 hR ne hel f1 ⟨_, _, rfl⟩) fun a2 => ?_
      simp only [pwA, if_true, if_false, eq_self, nm_eq, reduceCtorEq, ↓reduceIte, Nat.reduceEqDiff, Nat.reduceLeDiff, Nat.reduceBEq, Nat.reduceAdd, Nat.reduceLT, Nat.reduceSub, Nat.reduceMul, Int.reduceEq, Int.reduceLT, Int.reduceLE, Int.reduceNeg, Int.reduceToNat, List.reduceReplicate, Int.ofNat_le, List.getElem?_drop, wrapS hlt (by omega : n ≤ 4611686018427387904)]
      exact ⟨_, by omega, i + 1, _, by omega, rfl, rfl, rfl, ⟨_, _, rfl⟩⟩
    · have hie : i = n := by omega
      subst hie
      exact Gh.finS (keep_new σ _) (by simp only [pwA, if_true, if_false, eq_self, nm_eq, reduceCtorEq, ↓reduceIte, Nat.reduceEqDiff, Nat.reduceLeDiff, Nat.reduceBEq, Nat.reduceAdd, Nat.reduceLT, Nat.reduceSub, Nat.reduceMul, Int.reduceEq, Int.reduceLT, Int.reduceLE, Int.reduceNeg, Int.reduceToNat, List.reduceReplicate, Int.ofNat_le, List.getElem?_drop]; rfl) (Nat.le_refl _) (pis_bel _ _) (hk _ (.inr rfl))
theorem l34Vector_ok (z : Lz p n W B c) (hR : IsR vP vB W B) (hx : El p n x) (hvx : FI vx x) (hk : ∀ v, FI v (vcG p n W B x) → K v σ) : PCalls Tryz.prog 56 [.agg [.int .i64 p, vP, vB], vx] σ K := by
  have o := z.r.o
  have q := z.r.q
  have hn6 := o.le
  have hWl := o.len
  have hxl := hx.1
  have h1 := hR.P.one
  have h2 := hR.B.one
  obtain ⟨wx, ax, rfl⟩ := hvx
  refine PCalls.gh ?_
  refine pcalls_of_vp mix Tryz.func56 cf56 rfl ?_
  dsimp only [if56, qI, eI, nI, qD, eD]
  simp only [pwA, if_true, if_false, eq_self, nm_eq, reduceCtorEq, ↓reduceIte, Nat.reduceEqDiff, Nat.reduceLeDiff, Nat.reduceBEq, Nat.reduceAdd, Nat.reduceLT, Nat.reduceSub, Nat.reduceMul, Int.reduceEq, Int.reduceLT, Int.reduceLE, Int.reduceNeg, Int.reduceToNat, List.reduceReplicate, Int.ofNat_le, List.getElem?_drop, h1, h2, hxl]
  refine l31Zero_own hR hWl (by omega) fun cap hc => ?_
  simp only [pwA, if_true, if_false, eq_self, nm_eq, reduceCtorEq, ↓reduceIte, Nat.reduceEqDiff, Nat.reduceLeDiff, Nat.reduceBEq, Nat.reduceAdd, Nat.reduceLT, Nat.reduceSub, Nat.reduceMul, Int.reduceEq, Int.reduceLT, Int.reduceLE, Int.reduceNeg, Int.reduceToNat, List.reduceReplicate, Int.ofNat_le, List.getElem?_drop]
  refine vp_loop (fun m vs h' => ∃ i v, i ≤ n ∧ m = n - i ∧ vs = [.fz wx ax n (pis x), .ptr σ.next 0, .sl (σ.next + 1) 0 n cap, v, .int .i64 (i : Nat)] ∧ h' = (σ.new [.int .i64 p, vP, vB]).new (pis (stG p n W B x i).1) ∧ FI v (stG p n W B x i).2) n ?_ ?_
  · exact ⟨0, .fz wx ax n (pis x), by omega, by omega, rfl, rfl, ⟨_, _, by rw [show (stG p n W B x 0).2 = x from rfl, hxl]⟩⟩
  · rintro m vs h' ⟨i, v, hi, rfl, rfl, rfl, hv⟩
    simp only [pwA, if_true, if_false, eq_self, nm_eq, reduceCtorEq, ↓reduceIte, Nat.reduceEqDiff, Nat.reduceLeDiff, Nat.reduceBEq, Nat.reduceAdd, Nat.reduceLT, Nat.reduceSub, Nat.reduceMul, Int.reduceEq, Int.reduceLT, Int.reduceLE, Int.reduceNeg, Int.reduceToNat, List.reduceReplicate, Int.ofNat_le, List.getElem?_drop]
    refine iteI (fun hlt => ?_) fun hge => ?_
    · have hel := stG_el (B := B) o q hx hi
      have hu := unit_el (n := n) o.pr hlt
      have hb := el_rng hel z.hp i
      have hol := stG_len (p := p) (n := n) (W := W) (B := B) (x := x) i
      have hlx : i < (stG p n W B x i).2.length := by rw [hel.1]; exact hlt
      have hlo : i < (stG p n W B x i).1.length := by omega
      obtain ⟨w0, a0, rfl⟩ := hv
      have hset : (pis (stG p n W B x i).1).take i ++ [.int .i64 (at_ (stG p n W B x i).2 i)] ++ (pis (stG p n W B x i).1).drop (i + 1) = pis (stG p n W B x (i + 1)).1 := pis_set_at hlo
      have hat : at_ (stG p n W B x (i + 1)).1 i = at_ (stG p n W B x i).2 i := by rw [stG, at_eq (by rw [List.length_set]; exact hlo)]; simp
      have hl2 : i < (stG p n W B x (i + 1)).1.length := by rw [stG_len]; exact hlt
      have ne := lmix_el o (k := -at_ (stG p n W B x i).2 i) (m := 0) hu hu
      have hneg : IntKind.i64.wrap (0 - at_ (stG p n W B x i).2 i) = -at_ (stG p n W B x i).2 i := by rw [wrap64 (by omega) (by omega)]; omega
      simp only [pwA, if_true, if_false, eq_self, nm_eq, reduceCtorEq, ↓reduceIte, Nat.reduceEqDiff, Nat.reduceLeDiff, Nat.reduceBEq, Nat.reduceAdd, Nat.reduceLT, Nat.reduceSub, Nat.reduceMul, Int.reduceEq, Int.reduceLT, Int.reduceLE, Int.reduceNeg, Int.reduceToNat, List.reduceReplicate, Int.ofNat_le, List.getElem?_drop, hlt, pisA hlx, hlx, hlo, Nat.succ_le_of_lt hlo, pis_length, hset, pisA hl2, hat, hneg]
      refine l31Unit_ok hR hWl (by omega) hlt fun a1 => ?_
      simp only [pwA, if_true, if_false, eq_self, nm_eq, reduceCtorEq, ↓reduceIte, Nat.reduceEqDiff, Nat.reduceLeDiff, Nat.reduceBEq, Nat.reduceAdd, Nat.reduceLT, Nat.reduceSub, Nat.reduceMul, Int.reduceEq, Int.reduceLT, Int.reduceLE, Int.reduceNeg, Int.reduceToNat, List.reduceReplicate, Int.ofNat_le, List.getElem?_drop, pisA hl2, hat]
      refine l31Mix_el hR o hu hel hu.1.symm rfl (k := -at_ (stG p n W B x i).2 i) (m := 0) (by omega) (by decide) fun v1 => ?_
      rw [lmix0 (hel.1.trans hu.1.symm)]
      simp only [pwA, if_true, if_false, eq_self, nm_eq, reduceCtorEq, ↓reduceIte, Nat.reduceEqDiff, Nat.reduceLeDiff, Nat.reduceBEq, Nat.reduceAdd, Nat.reduceLT, Nat.reduceSub, Nat.reduceMul, Int.reduceEq, Int.reduceLT, Int.reduceLE, Int.reduceNeg, Int.reduceToNat, List.reduceReplicate, Int.ofNat_le, List.getElem?_drop]
      refine l33Mul_ok z hR ne hel ⟨true, v1, by rw [ne.1]⟩ ⟨_, _, rfl⟩ fun v' hv' => ?_
      simp only [pwA, if_true, if_false, eq_self, nm_eq, reduceCtorEq, ↓reduceIte, Nat.reduceEqDiff, Nat.reduceLeDiff, Nat.reduceBEq, Nat.reduceAdd, Nat.reduceLT, Nat.reduceSub, Nat.reduceMul, Int.reduceEq, Int.reduceLT, Int.reduceLE, Int.reduceNeg, Int.reduceToNat, List.reduceReplicate, Int.ofNat_le, List.getElem?_drop, wrapS hlt (by omega : n ≤ 4611686018427387904)]
      exact ⟨_, by omega, i + 1, v', by omega, rfl, rfl, rfl, hv'⟩
    · have hie : i = n := by omega
      subst hie
      exact Gh.finF (s := σ.next + 1) ((keep_new σ _).new _) (by simp only [pwA, if_true, if_false, eq_self, nm_eq, reduceCtorEq, ↓reduceIte, Nat.reduceEqDiff, Nat.reduceLeDiff, Nat.reduceBEq, Nat.reduceAdd, Nat.reduceLT, Nat.reduceSub, Nat.reduceMul, Int.reduceEq, Int.reduceLT, Int.reduceLE, Int.reduceNeg, Int.reduceToNat, List.reduceReplicate, Int.ofNat_le, List.getElem?_drop]; rfl) (by omega) (pis_bel _ _) hc.ok fun o1 => hk _ ⟨true, .sl o1 0 i cap, by rw [show (vcG p i W B x).length = i from stG_len i]; rfl⟩
end Go.Proofs
namespace Go.Proofs
open Go.Ab Go.Lie
variable {σ : PHeap} {K : PV → PHeap → Prop} {n : Nat} {p : Int}
structure LS where
  s : Nat
  cap : Cap
  cs : List PV
def LS.pv (q : LS) : PV := .sl q.s 0 q.cs.length q.cap
def LS.ok (h : PHeap) (b : Nat) (q : LS) : Prop := full 1 q.cap q.cs.length ∧ h.obj q.s = some q.cs ∧ b ≤ q.s ∧ q.s < h.next
def LS.pvo : Option LS → PV
  | none => .fz true .nils 0 []
  | some q => q.pv
def LS.slots : List (Option LS) → List Nat
  | [] => []
  | none :: ls => LS.slots ls
  | some q :: ls => q.s :: LS.slots ls
theorem LS.slots_app : ∀ (a b : List (Option LS)), LS.slots (a ++ b) = LS.slots a ++ LS.slots b
  | [], b => rfl
  | none :: a, b => by simp only [List.cons_append, LS.slots, LS.slots_app a b]
  | some q :: a, b => by simp only [List.cons_append, LS.slots, LS.slots_app a b]
theorem LS.mem_slots {s : Nat} : ∀ {ls : List (Option LS)}, s ∈ LS.slots ls ↔ ∃ q, some q ∈ ls ∧ q.s = s
  | [] => by simp [LS.slots]
  | none :: ls => by simp [LS.slots, LS.mem_slots (ls := ls)]
  | some q :: ls => by
    simp only [LS.slots, List.mem_cons, LS.mem_slots (ls := ls)]
    constructor
    · rintro (rfl | ⟨q', h1, h2⟩)
      · exact ⟨q, .inl rfl, rfl⟩
      · exact ⟨q', .inr h1, h2⟩
    · rintro ⟨q', h1 | h1, h2⟩
      · cases h1; exact .inl h2.symm
      · exact .inr ⟨q', h1, h2⟩
theorem LS.ok.move {h h2 : PHeap} {b : Nat} {q : LS} (a : q.ok h b) (ho : h2.obj q.s = h.obj q.s) (hn : h.next ≤ h2.next) : q.ok h2 b := ⟨a.1, by rw [ho]; exact a.2.1, a.2.2.1, Nat.lt_of_lt_of_le a.2.2.2 hn⟩
theorem pacc_move {b e m : Nat} {h h2 : PHeap} {v : PV} {cs : List PV} (a : PAcc b e h v m cs) (ho : ∀ s off l c, v = .sl s off l c → h2.obj s = h.obj s) (hn : h.next ≤ h2.next) : PAcc b e h2 v m cs := by
  rcases a with a | ⟨s, cap, rfl, h1, h2', h3, h4, h5⟩
  · exact .inl a
  · exact .inr ⟨s, cap, rfl, h1, by rw [ho s 0 _ cap rfl]; exact h2', h3, h4, Nat.lt_of_lt_of_le h5 hn⟩
theorem pacc_lt {b e m : Nat} {h : PHeap} {v : PV} {cs : List PV} (a : PAcc b e h v m cs) {s off l : Nat} {c : Cap} (hv : v = .sl s off l c) : s < h.next := by
  rcases a with ⟨rfl, _⟩ | ⟨s', cap, rfl, h1, h2', h3, h4, h5⟩
  · cases hv
  · cases hv; exact h5
structure TI (σ h : PHeap) (p0 sO : Nat) (vO vP vC : PV) (cO pc : List PV) (ls : List (Option LS)) : Prop where
  keep : Keep σ h
  obj : h.obj p0 = some [vO, vP, vC]
  p0b : σ.next ≤ p0 ∧ p0 < h.next
  oO : h.obj sO = some cO
  sOb : σ.next ≤ sO ∧ sO < h.next
  pO : p0 ≠ sO
  accP : PAcc σ.next 1 h vP pc.length pc
  accC : PAcc σ.next 1 h vC ls.length (ls.map LS.pvo)
  ok : ∀ q, some q ∈ ls → q.ok h σ.next
  nd : (LS.slots ls).Nodup
  neP : ∀ s, s ∈ LS.slots ls ∨ s = p0 ∨ s = sO → ∀ off l c, vP ≠ .sl s off l c
  neC : ∀ s, s ∈ LS.slots ls ∨ s = p0 ∨ s = sO → ∀ off l c, vC ≠ .sl s off l c
  neL : p0 ∉ LS.slots ls ∧ sO ∉ LS.slots ls
  nePC : ∀ s off l c, vP = .sl s off l c → ∀ off l c, vC ≠ .sl s off l c
variable {h : PHeap} {p0 sO : Nat} {vO vP vC : PV} {cO pc : List PV} {ls : List (Option LS)}
theorem TI.lt (a : TI σ h p0 sO vO vP vC cO pc ls) {s : Nat} (hs : s ∈ LS.slots ls) : σ.next ≤ s ∧ s < h.next := by
  obtain ⟨q, hq, rfl⟩ := LS.mem_slots.1 hs
  have := a.ok q hq
  exact ⟨this.2.2.1, this.2.2.2⟩
theorem TI.keepI {h2 : PHeap} (a : TI σ h p0 sO vO vP vC cO pc ls) (k : Keep h h2) : TI σ h2 p0 sO vO vP vC cO pc ls :=
  ⟨a.keep.trans k, by rw [k.obj _ a.p0b.2]; exact a.obj, ⟨a.p0b.1, Nat.lt_of_lt_of_le a.p0b.2 k.next⟩, by rw [k.obj _ a.sOb.2]; exact a.oO, ⟨a.sOb.1, Nat.lt_of_lt_of_le a.sOb.2 k.next⟩, a.pO, a.accP.keep k, a.accC.keep k,
   fun q hq => (a.ok q hq).move (k.obj _ (a.ok q hq).2.2.2) k.next, a.nd, a.neP, a.neC, a.neL, a.nePC⟩
theorem TI.pushP {K : PV × PHeap → Prop} {row : PV} (a : TI σ h p0 sO vO vP vC cO pc ls) (hone : vO.one = true ∧ vC.one = true) (hb : pc.length ≤ 1000)
    (k : ∀ v' h2, v'.one = true → v'.cells = [v'] → h2.wr p0 1 [v'] = some (h2.set p0 [vO, v', vC]) → TI σ (h2.set p0 [vO, v', vC]) p0 sO vO v' vC cO (pc ++ [row]) ls → h.next < h2.next → K (v', h2)) :
    optK (pappend 1 24 (h.new [row]) vP (.sl h.next 0 1 (.known 1))) K := by
  refine PAcc.pushS (σb := σ) (bytes := 24) a.keep a.accP rfl (by omega) (by omega) fun v' h2 k2 a2 o2 n2 l2 => ?_
  have hp := a.p0b
  have hs := a.sOb
  have hob : h2.obj p0 = some [vO, vP, vC] := by rw [o2 _ hp.2 (a.neP _ (.inr (.inl rfl)))]; exact a.obj
  refine k v' h2 a2.one a2.cells (by rw [obj_wr hob, if_pos ⟨by simp, by simp [a2.one]⟩]; rfl) ⟨k2.set hp.1 _, by rw [pobj_set, if_pos rfl], ⟨hp.1, by show p0 < h2.next; omega⟩, ?_, ⟨hs.1, by show sO < h2.next; omega⟩, a.pO, ?_, ?_, fun q hq => ?_, a.nd, fun s hs => ?_, a.neC, a.neL, fun s off l c e => ?_⟩ l2
  · rw [pobj_set, if_neg (Ne.symm a.pO), o2 _ hs.2 (a.neP _ (.inr (.inr rfl)))]; exact a.oO
  · have a3 : PAcc σ.next 1 (h2.set p0 [vO, v', vC]) v' (pc.length + 1) (pc ++ [row]) := pacc_move a2.acc (fun s off l c e => by rw [pobj_set, if_neg fun e2 => n2 p0 hp.2 off l c (by rw [e, e2])]) (Nat.le_refl _)
    simpa using a3
  · refine pacc_move a.accC (fun s off l c e => ?_) (Nat.le_of_lt l2)
    have hsp : s ≠ p0 := fun e2 => a.neC p0 (.inr (.inl rfl)) off l c (by rw [e, e2])
    rw [pobj_set, if_neg hsp, o2 s (pacc_lt a.accC e) fun off' l' c' e' => a.nePC s off' l' c' e' off l c e]
  · have hq' := a.ok q hq
    have hm : q.s ∈ LS.slots ls := LS.mem_slots.2 ⟨q, hq, rfl⟩
    refine hq'.move ?_ (Nat.le_of_lt l2)
    rw [pobj_set, if_neg fun e => a.neL.1 (by rw [← e]; exact hm), o2 _ hq'.2.2.2 (a.neP _ (.inl hm))]
  · have : s < h.next := by
      rcases hs with hs | rfl | rfl
      · exact (a.lt hs).2
      · exact hp.2
      · omega
    exact n2 s this
  · intro off' l' c' e'
    exact n2 s (pacc_lt a.accC e') off l c e
theorem TI.pushC {K : PV × PHeap → Prop} {o : Option LS} (a : TI σ h p0 sO vO vP vC cO pc ls) (hone : vO.one = true ∧ vP.one = true) (hb : ls.length ≤ 1000)
    (ho : ∀ q, o = some q → q.ok h σ.next ∧ q.s ∉ LS.slots ls ∧ q.s ≠ p0 ∧ q.s ≠ sO ∧ (∀ off l c, vP ≠ .sl q.s off l c) ∧ ∀ off l c, vC ≠ .sl q.s off l c)
    (k : ∀ v' h2, v'.one = true → v'.cells = [v'] → h2.wr p0 2 [v'] = some (h2.set p0 [vO, vP, v']) → TI σ (h2.set p0 [vO, vP, v']) p0 sO vO vP v' cO pc (ls ++ [o]) → h.next < h2.next → K (v', h2)) :
    optK (pappend 1 24 (h.new [LS.pvo o]) vC (.sl h.next 0 1 (.known 1))) K := by
  refine PAcc.pushS (σb := σ) (bytes := 24) a.keep a.accC rfl (by omega) (by omega) fun v' h2 k2 a2 o2 n2 l2 => ?_
  have hp := a.p0b
  have hs := a.sOb
  have hob : h2.obj p0 = some [vO, vP, vC] := by rw [o2 _ hp.2 (a.neC _ (.inr (.inl rfl)))]; exact a.obj
  have mo : ∀ s, s ∈ LS.slots (ls ++ [o]) → s ∈ LS.slots ls ∨ ∃ q, o = some q ∧ q.s = s := fun s hs => by
    rw [LS.slots_app, List.mem_append] at hs
    refine hs.imp id fun hs => ?_
    obtain ⟨q, hq, e⟩ := LS.mem_slots.1 hs
    exact ⟨q, (List.mem_singleton.1 hq).symm, e⟩
  refine k v' h2 a2.one a2.cells (by rw [obj_wr hob, if_pos ⟨by simp, by simp [a2.one]⟩]; rfl) ⟨k2.set hp.1 _, by rw [pobj_set, if_pos rfl], ⟨hp.1, by show p0 < h2.next; omega⟩, ?_, ⟨hs.1, by show sO < h2.next; omega⟩, a.pO, ?_, ?_, fun q hq => ?_, ?_, fun s hs => ?_, fun s hs => ?_, ⟨fun hm => ?_, fun hm => ?_⟩, fun s off l c e => ?_⟩ l2
  · rw [pobj_set, if_neg (Ne.symm a.pO), o2 _ hs.2 (a.neC _ (.inr (.inr rfl)))]; exact a.oO
  · refine pacc_move a.accP (fun s off l c e => ?_) (Nat.le_of_lt l2)
    have hsp : s ≠ p0 := fun e2 => a.neP p0 (.inr (.inl rfl)) off l c (by rw [e, e2])
    rw [pobj_set, if_neg hsp, o2 s (pacc_lt a.accP e) (a.nePC s off l c e)]
  · have a3 : PAcc σ.next 1 (h2.set p0 [vO, vP, v']) v' (ls.length + 1) (ls.map LS.pvo ++ [LS.pvo o]) := pacc_move a2.acc (fun s off l c e => by rw [pobj_set, if_neg fun e2 => n2 p0 hp.2 off l c (by rw [e, e2])]) (Nat.le_refl _)
    simpa using a3
  · rcases List.mem_append.1 hq with hq | hq
    · have hq' := a.ok q hq
      have hm : q.s ∈ LS.slots ls := LS.mem_slots.2 ⟨q, hq, rfl⟩
      refine hq'.move ?_ (Nat.le_of_lt l2)
      rw [pobj_set, if_neg fun e => a.neL.1 (by rw [← e]; exact hm), o2 _ hq'.2.2.2 (a.neC _ (.inl hm))]
    · obtain ⟨h1, h3, h4, h5, h6, h7⟩ := ho q (List.mem_singleton.1 hq).symm
      refine h1.move ?_ (Nat.le_of_lt l2)
      rw [pobj_set, if_neg h4, o2 _ h1.2.2.2 h7]
  · rw [LS.slots_app, List.nodup_append]
    refine ⟨a.nd, ?_, fun x hx y hy e => ?_⟩
    · cases o <;> simp [LS.slots]
    · cases o with
      | none => cases hy
      | some q =>
        simp only [LS.slots, List.mem_singleton] at hy
        exact (ho q rfl).2.1 (by rw [← hy, ← e]; exact hx)
  · rcases hs with hs | hs
    · rcases mo s hs with hs | ⟨q, e, rfl⟩
      · exact a.neP s (.inl hs)
      · exact (ho q e).2.2.2.2.1
    · exact a.neP s (.inr hs)
  · have : s < h.next := by
      rcases hs with hs | rfl | rfl
      · rcases mo s hs with hs | ⟨q, e, rfl⟩
        · exact (a.lt hs).2
        · exact (ho q e).1.2.2.2
      · exact hp.2
      · omega
    exact n2 s this
  · rcases mo _ hm with hm | ⟨q, e, e2⟩
    · exact a.neL.1 hm
    · exact (ho q e).2.2.1 e2
  · rcases mo _ hm with hm | ⟨q, e, e2⟩
    · exact a.neL.2 hm
    · exact (ho q e).2.2.2.1 e2
  · exact n2 s (pacc_lt a.accP e)
end Go.Proofs
namespace Go.Proofs
open Go.Ab Go.Lie
variable {σ h : PHeap} {K : PV → PHeap → Prop} {n : Nat} {p : Int} {p0 sO : Nat} {vO vP vC : PV} {cO pc : List PV} {ls : List (Option LS)} {O : List Int}
theorem TI.res {X Y : List PV} (a : TI (σ.new X) h p0 sO vO vP vC cO pc ls) : TI σ (h.set σ.next Y) p0 sO vO vP vC cO pc ls := by
  have hn : (σ.new X).next = σ.next + 1 := rfl
  have hp := a.p0b
  have hs := a.sOb
  refine ⟨((keep_new σ X).trans a.keep).set (Nat.le_refl _) _, by rw [pobj_set, if_neg (by omega)]; exact a.obj, ⟨by omega, hp.2⟩, by rw [pobj_set, if_neg (by omega)]; exact a.oO, ⟨by omega, hs.2⟩, a.pO, ?_, ?_, fun q hq => ?_, a.nd, a.neP, a.neC, a.neL, a.nePC⟩
  · rcases a.accP with g | ⟨s, cap, e, h1, h2, h3, h4, h5⟩
    · exact .inl g
    · exact .inr ⟨s, cap, e, h1, by rw [pobj_set, if_neg (by omega)]; exact h2, h3, by omega, h5⟩
  · rcases a.accC with g | ⟨s, cap, e, h1, h2, h3, h4, h5⟩
    · exact .inl g
    · exact .inr ⟨s, cap, e, h1, by rw [pobj_set, if_neg (by omega)]; exact h2, h3, by omega, h5⟩
  · obtain ⟨h1, h2, h3, h4⟩ := a.ok q hq
    exact ⟨h1, by rw [pobj_set, if_neg (by omega)]; exact h2, by omega, h4⟩
def LShape (n : Nat) (ls : List (Option LS)) : Prop := ∀ j (h : j < ls.length), (j + 1 = n → ls[j] = none) ∧ (j + 1 < n → ∃ q, ls[j] = some q ∧ q.cs.length = n - 1 - j)
theorem LShape.snoc {o : Option LS} (h : LShape n ls) (h1 : ls.length + 1 = n → o = none) (h2 : ls.length + 1 < n → ∃ q, o = some q ∧ q.cs.length = n - 1 - ls.length) : LShape n (ls ++ [o]) := by
  intro j hj
  rw [List.length_append, List.length_singleton] at hj
  rcases Nat.lt_or_ge j ls.length with x | x
  · rw [List.getElem_append_left x]; exact h j x
  · have e : j = ls.length := by omega
    subst e
    rw [List.getElem_append_right (Nat.le_refl _)]
    simp only [Nat.sub_self, List.getElem_cons_zero]
    exact ⟨h1, h2⟩
theorem trivialRelations_0 (hv : FI vO []) (hk : ∀ h, Keep σ h → K (.agg [.fz true .nils 0 [], .fz true .nils 0 [], .fz true .nils 0 []]) h)
    (hk2 : ∀ h cap, full 1 cap 0 → Keep σ h → h.obj (σ.next + 1) = some [] → σ.next + 1 < h.next → K (.agg [.sl (σ.next + 1) 0 0 cap, .fz true .nils 0 [], .fz true .nils 0 []]) h) : PCalls Tryz.prog 74 [vO] σ K := by
  obtain ⟨w, a, rfl⟩ := hv
  refine pcalls_of_vp mix Tryz.func74 cf74 rfl ?_
  dsimp only [if74, qI, eI, nI, qD, eD]
  simp only [pwA, if_true, if_false, eq_self, nm_eq, reduceCtorEq, ↓reduceIte, Nat.reduceEqDiff, Nat.reduceLeDiff, Nat.reduceBEq, Nat.reduceAdd, Nat.reduceLT, Nat.reduceSub, Nat.reduceMul, Int.reduceEq, Int.reduceLT, Int.reduceLE, Int.reduceNeg, Int.reduceToNat, List.reduceReplicate, Int.ofNat_le, List.getElem?_drop]
  refine Clone_ok rfl (by simp) ⟨fun h0 => ?_, fun cap hc => ?_⟩
  · simp only [pwA, if_true, if_false, eq_self, nm_eq, reduceCtorEq, ↓reduceIte, Nat.reduceEqDiff, Nat.reduceLeDiff, Nat.reduceBEq, Nat.reduceAdd, Nat.reduceLT, Nat.reduceSub, Nat.reduceMul, Int.reduceEq, Int.reduceLT, Int.reduceLE, Int.reduceNeg, Int.reduceToNat, List.reduceReplicate, Int.ofNat_le, List.getElem?_drop]
    refine vp_loop (fun m us h' => m = 0 ∧ us = [.ptr σ.next 0, .int .i64 (0 : Nat), .ptr (σ.next + 1) 0, .int .i64 (0 : Nat), .int .i64 (0 : Nat)] ∧ h' = (σ.new [.fz true .nils 0 [], .fz true .nils 0 [], .fz true .nils 0 []]).new [.fz true .nils 0 [], .fz true .nils 0 [], .fz true .nils 0 []]) 0 ⟨rfl, rfl, rfl⟩ ?_
    rintro m us h' ⟨rfl, rfl, rfl⟩
    simp only [pwA, if_true, if_false, eq_self, nm_eq, reduceCtorEq, ↓reduceIte, Nat.reduceEqDiff, Nat.reduceLeDiff, Nat.reduceBEq, Nat.reduceAdd, Nat.reduceLT, Nat.reduceSub, Nat.reduceMul, Int.reduceEq, Int.reduceLT, Int.reduceLE, Int.reduceNeg, Int.reduceToNat, List.reduceReplicate, Int.ofNat_le, List.getElem?_drop]
    exact hk _ ((keep_new σ _).new _)
  · simp only [pwA, if_true, if_false, eq_self, nm_eq, reduceCtorEq, ↓reduceIte, Nat.reduceEqDiff, Nat.reduceLeDiff, Nat.reduceBEq, Nat.reduceAdd, Nat.reduceLT, Nat.reduceSub, Nat.reduceMul, Int.reduceEq, Int.reduceLT, Int.reduceLE, Int.reduceNeg, Int.reduceToNat, List.reduceReplicate, Int.ofNat_le, List.getElem?_drop]
    refine vp_loop (fun m us h' => m = 0 ∧ us = [.ptr σ.next 0, .int .i64 (0 : Nat), .ptr (σ.next + 2) 0, .int .i64 (0 : Nat), .int .i64 (0 : Nat)] ∧ h' = ((σ.new [.fz true .nils 0 [], .fz true .nils 0 [], .fz true .nils 0 []]).new []).new [.sl (σ.next + 1) 0 0 cap, .fz true .nils 0 [], .fz true .nils 0 []]) 0 ⟨rfl, rfl, rfl⟩ ?_
    rintro m us h' ⟨rfl, rfl, rfl⟩
    simp only [pwA, if_true, if_false, eq_self, nm_eq, reduceCtorEq, ↓reduceIte, Nat.reduceEqDiff, Nat.reduceLeDiff, Nat.reduceBEq, Nat.reduceAdd, Nat.reduceLT, Nat.reduceSub, Nat.reduceMul, Int.reduceEq, Int.reduceLT, Int.reduceLE, Int.reduceNeg, Int.reduceToNat, List.reduceReplicate, Int.ofNat_le, List.getElem?_drop]
    refine hk2 _ cap hc (((keep_new σ _).new _).new _) ?_ ?_
    · simp only [pwA, if_true, if_false, eq_self, nm_eq, reduceCtorEq, ↓reduceIte, Nat.reduceEqDiff, Nat.reduceLeDiff, Nat.reduceBEq, Nat.reduceAdd, Nat.reduceLT, Nat.reduceSub, Nat.reduceMul, Int.reduceEq, Int.reduceLT, Int.reduceLE, Int.reduceNeg, Int.reduceToNat, List.reduceReplicate, Int.ofNat_le, List.getElem?_drop]
    · simp only [pwA, if_true, if_false, eq_self, nm_eq, reduceCtorEq, ↓reduceIte, Nat.reduceEqDiff, Nat.reduceLeDiff, Nat.reduceBEq, Nat.reduceAdd, Nat.reduceLT, Nat.reduceSub, Nat.reduceMul, Int.reduceEq, Int.reduceLT, Int.reduceLE, Int.reduceNeg, Int.reduceToNat, List.reduceReplicate, Int.ofNat_le, List.getElem?_drop]; omega
theorem trivialRelations_ok (hv : FI vO O) (hn : O.length = n) (hn1 : 1 ≤ n) (hn6 : n ≤ 6)
    (hk : ∀ cap vP vC pc ls h, full 1 cap n → TI σ h (σ.next + 2) (σ.next + 1) (.sl (σ.next + 1) 0 n cap) vP vC (pis O) pc ls → pc.length = n → ls.length = n → LShape n ls → K (.agg [.sl (σ.next + 1) 0 n cap, vP, vC]) h) :
    PCalls Tryz.prog 74 [vO] σ K := by
  obtain ⟨w, a, rfl⟩ := hv
  subst hn
  refine pcalls_of_vp mix Tryz.func74 cf74 rfl ?_
  dsimp only [if74, qI, eI, nI, qD, eD]
  simp only [pwA, if_true, if_false, eq_self, nm_eq, reduceCtorEq, ↓reduceIte, Nat.reduceEqDiff, Nat.reduceLeDiff, Nat.reduceBEq, Nat.reduceAdd, Nat.reduceLT, Nat.reduceSub, Nat.reduceMul, Int.reduceEq, Int.reduceLT, Int.reduceLE, Int.reduceNeg, Int.reduceToNat, List.reduceReplicate, Int.ofNat_le, List.getElem?_drop]
  refine Clone_ok rfl (by omega) ⟨fun h0 => by rw [h0] at hn1; simp at hn1, fun cap hc => ?_⟩
  generalize hS : σ.new [.fz true .nils 0 [], .fz true .nils 0 [], .fz true .nils 0 []] = S
  have hSn : S.next = σ.next + 1 := by rw [← hS]; rfl
  simp only [pwA, if_true, if_false, eq_self, nm_eq, reduceCtorEq, ↓reduceIte, Nat.reduceEqDiff, Nat.reduceLeDiff, Nat.reduceBEq, Nat.reduceAdd, Nat.reduceLT, Nat.reduceSub, Nat.reduceMul, Int.reduceEq, Int.reduceLT, Int.reduceLE, Int.reduceNeg, Int.reduceToNat, List.reduceReplicate, Int.ofNat_le, List.getElem?_drop]
  refine vp_loop (fun m us h' => ∃ (i : Nat) (vP vC : PV) (pc : List PV) (ls : List (Option LS)), i ≤ O.length ∧ m = O.length - i ∧ us = [.ptr σ.next 0, .int .i64 O.length, .ptr (S.next + 1) 0, .int .i64 O.length, .int .i64 i] ∧ TI S h' (S.next + 1) S.next (.sl S.next 0 O.length cap) vP vC (pis O) pc ls ∧ pc.length = i ∧ ls.length = i ∧ LShape O.length ls) O.length ?_ ?_
  · exact ⟨0, _, _, [], [], by omega, by omega, rfl, ⟨(keep_new S _).new _, by simp only [pwA, if_true, if_false, eq_self, nm_eq, reduceCtorEq, ↓reduceIte, Nat.reduceEqDiff, Nat.reduceLeDiff, Nat.reduceBEq, Nat.reduceAdd, Nat.reduceLT, Nat.reduceSub, Nat.reduceMul, Int.reduceEq, Int.reduceLT, Int.reduceLE, Int.reduceNeg, Int.reduceToNat, List.reduceReplicate, Int.ofNat_le, List.getElem?_drop], ⟨by omega, by simp only [pwA, if_true, if_false, eq_self, nm_eq, reduceCtorEq, ↓reduceIte, Nat.reduceEqDiff, Nat.reduceLeDiff, Nat.reduceBEq, Nat.reduceAdd, Nat.reduceLT, Nat.reduceSub, Nat.reduceMul, Int.reduceEq, Int.reduceLT, Int.reduceLE, Int.reduceNeg, Int.reduceToNat, List.reduceReplicate, Int.ofNat_le, List.getElem?_drop]⟩, by simp only [pwA, if_true, if_false, eq_self, nm_eq, reduceCtorEq, ↓reduceIte, Nat.reduceEqDiff, Nat.reduceLeDiff, Nat.reduceBEq, Nat.reduceAdd, Nat.reduceLT, Nat.reduceSub, Nat.reduceMul, Int.reduceEq, Int.reduceLT, Int.reduceLE, Int.reduceNeg, Int.reduceToNat, List.reduceReplicate, Int.ofNat_le, List.getElem?_drop], ⟨Nat.le_refl _, by simp only [pwA, if_true, if_false, eq_self, nm_eq, reduceCtorEq, ↓reduceIte, Nat.reduceEqDiff, Nat.reduceLeDiff, Nat.reduceBEq, Nat.reduceAdd, Nat.reduceLT, Nat.reduceSub, Nat.reduceMul, Int.reduceEq, Int.reduceLT, Int.reduceLE, Int.reduceNeg, Int.reduceToNat, List.reduceReplicate, Int.ofNat_le, List.getElem?_drop]; omega⟩, by omega, PAcc.nil _ _ _, PAcc.nil _ _ _, fun q hq => (by cases hq), List.nodup_nil, fun s hs off l c e => (by cases e), fun s hs off l c e => (by cases e), ⟨fun h => (by cases h), fun h => (by cases h)⟩, fun s off l c e => (by cases e)⟩, rfl, rfl, fun j hj => absurd hj (by simp)⟩
  as_aux_lemma =>
  rintro m us h' ⟨i, vP, vC, pc, ls, hi, rfl, rfl, a, hpl, hll, hsh⟩
  have hone : vP.one = true ∧ vC.one = true := ⟨a.accP.one, a.accC.one⟩
  have q0 : h'.rd1 (S.next + 1) 1 = some vP := by rw [obj_rd1 a.obj]; rfl
  have q3 : h'.rd (S.next + 1) 0 3 = some [.sl S.next 0 O.length cap, vP, vC] := by rw [obj_rd a.obj]; rfl
  simp only [pwA, if_true, if_false, eq_self, nm_eq, reduceCtorEq, ↓reduceIte, Nat.reduceEqDiff, Nat.reduceLeDiff, Nat.reduceBEq, Nat.reduceAdd, Nat.reduceLT, Nat.reduceSub, Nat.reduceMul, Int.reduceEq, Int.reduceLT, Int.reduceLE, Int.reduceNeg, Int.reduceToNat, List.reduceReplicate, Int.ofNat_le, List.getElem?_drop]
  refine iteI (fun hlt => ?_) fun hge => ?_
  rotate_left
  · have hie : i = O.length := by omega
    have hres : h'.obj σ.next = some [.fz true .nils 0 [], .fz true .nils 0 [], .fz true .nils 0 []] := by rw [a.keep.obj _ (by omega), ← hS]; simp only [pwA, if_true, if_false, eq_self, nm_eq, reduceCtorEq, ↓reduceIte, Nat.reduceEqDiff, Nat.reduceLeDiff, Nat.reduceBEq, Nat.reduceAdd, Nat.reduceLT, Nat.reduceSub, Nat.reduceMul, Int.reduceEq, Int.reduceLT, Int.reduceLE, Int.reduceNeg, Int.reduceToNat, List.reduceReplicate, Int.ofNat_le, List.getElem?_drop]
    have hwr : h'.wr σ.next 0 [.sl S.next 0 O.length cap, vP, vC] = some (h'.set σ.next [.sl S.next 0 O.length cap, vP, vC]) := by
      rw [obj_wr hres, if_pos ⟨by simp, by simp only [List.all_cons, List.all_nil, hone.1, hone.2]; rfl⟩]; rfl
    have hrd : (h'.set σ.next [.sl S.next 0 O.length cap, vP, vC]).rd σ.next 0 3 = some [.sl S.next 0 O.length cap, vP, vC] := by rw [prd_set, if_pos rfl]; rfl
    rw [← hS] at a
    have a2 := a.res (Y := [.sl S.next 0 O.length cap, vP, vC])
    rw [hS] at a2
    rw [hSn] at a2
    have := hk cap vP vC pc ls _ hc a2 (by omega) (by omega) hsh
    simp only [pwA, if_true, if_false, eq_self, nm_eq, reduceCtorEq, ↓reduceIte, Nat.reduceEqDiff, Nat.reduceLeDiff, Nat.reduceBEq, Nat.reduceAdd, Nat.reduceLT, Nat.reduceSub, Nat.reduceMul, Int.reduceEq, Int.reduceLT, Int.reduceLE, Int.reduceNeg, Int.reduceToNat, List.reduceReplicate, Int.ofNat_le, List.getElem?_drop, q3, hwr, hrd]
    rw [hSn]
    exact this
  have hlt' : i < O.length := by omega
  have mk := mk8 (n := O.length) (by omega)
  have hne1 : ¬ S.next + 1 = h'.next := by have := a.p0b.2; omega
  have hne2 : ¬ S.next = h'.next := by have := a.sOb.2; omega
  simp only [pwA, if_true, if_false, eq_self, nm_eq, reduceCtorEq, ↓reduceIte, Nat.reduceEqDiff, Nat.reduceLeDiff, Nat.reduceBEq, Nat.reduceAdd, Nat.reduceLT, Nat.reduceSub, Nat.reduceMul, Int.reduceEq, Int.reduceLT, Int.reduceLE, Int.reduceNeg, Int.reduceToNat, List.reduceReplicate, Int.ofNat_le, List.getElem?_drop, q0, mk, mkL (n := O.length) (by omega), List.length_replicate, hne1, hne2]
  refine TI.pushP (a.keepI (keep_new h' _)) ⟨rfl, hone.2⟩ (by omega) fun v2 h2 u1 u2 u3 a2 l2 => ?_
  simp only [pwA, if_true, if_false, eq_self, nm_eq, reduceCtorEq, ↓reduceIte, Nat.reduceEqDiff, Nat.reduceLeDiff, Nat.reduceBEq, Nat.reduceAdd, Nat.reduceLT, Nat.reduceSub, Nat.reduceMul, Int.reduceEq, Int.reduceLT, Int.reduceLE, Int.reduceNeg, Int.reduceToNat, List.reduceReplicate, Int.ofNat_le, List.getElem?_drop, u1, u2, u3]
  clear u1 u2 u3 q0 q3 hne1 hne2
  generalize h2.set (S.next + 1) [.sl S.next 0 O.length cap, v2, vC] = hb at *
  have wi1 : IntKind.i64.wrap ((i : Int) + 1) = ((i + 1 : Nat) : Int) := wrapS hlt' (by omega)
  simp only [pwA, if_true, if_false, eq_self, nm_eq, reduceCtorEq, ↓reduceIte, Nat.reduceEqDiff, Nat.reduceLeDiff, Nat.reduceBEq, Nat.reduceAdd, Nat.reduceLT, Nat.reduceSub, Nat.reduceMul, Int.reduceEq, Int.reduceLT, Int.reduceLE, Int.reduceNeg, Int.reduceToNat, List.reduceReplicate, Int.ofNat_le, List.getElem?_drop, wi1]
  refine vp_loop (fun m us h3 => ∃ (q : Nat) (vL : PV) (cells : List PV), i + (1 + q) ≤ O.length ∧ m = O.length - (i + (1 + q)) ∧ us = [.ptr σ.next 0, .int .i64 O.length, .ptr (S.next + 1) 0, vL, .int .i64 ((i + (1 + q) : Nat) : Int), .int .i64 O.length, .int .i64 i] ∧ Keep hb h3 ∧ PAcc hb.next 1 h3 vL q cells ∧ (q = 0 → vL = .fz true .nils 0 [])) (O.length - (i + 1)) ⟨0, _, [], by omega, rfl, rfl, Keep.refl _, PAcc.nil _ _ _, fun _ => rfl⟩ ?_
  rintro m us h3 ⟨q, vL, cells, hq, rfl, rfl, k3, p3, hnil⟩
  have b := a2.keepI k3
  have q2 : h3.rd1 (S.next + 1) 2 = some vC := by rw [obj_rd1 b.obj]; rfl
  simp only [pwA, if_true, if_false, eq_self, nm_eq, reduceCtorEq, ↓reduceIte, Nat.reduceEqDiff, Nat.reduceLeDiff, Nat.reduceBEq, Nat.reduceAdd, Nat.reduceLT, Nat.reduceSub, Nat.reduceMul, Int.reduceEq, Int.reduceLT, Int.reduceLE, Int.reduceNeg, Int.reduceToNat, List.reduceReplicate, Int.ofNat_le, List.getElem?_drop]
  refine iteI (fun hltq => ?_) fun hgeq => ?_
  · have hq' : i + (1 + q) < O.length := by omega
    have e5 : IntKind.i64.wrap (((i + (1 + q) : Nat) : Int) + 1) = ((i + (1 + (q + 1)) : Nat) : Int) := by rw [wrap64 (by omega) (by omega)]; omega
    simp only [pwA, if_true, if_false, eq_self, nm_eq, reduceCtorEq, ↓reduceIte, Nat.reduceEqDiff, Nat.reduceLeDiff, Nat.reduceBEq, Nat.reduceAdd, Nat.reduceLT, Nat.reduceSub, Nat.reduceMul, Int.reduceEq, Int.reduceLT, Int.reduceLE, Int.reduceNeg, Int.reduceToNat, List.reduceReplicate, Int.ofNat_le, List.getElem?_drop]
    refine unitVector_fz (by omega) hq' fun av => ?_
    simp only [pwA, if_true, if_false, eq_self, nm_eq, reduceCtorEq, ↓reduceIte, Nat.reduceEqDiff, Nat.reduceLeDiff, Nat.reduceBEq, Nat.reduceAdd, Nat.reduceLT, Nat.reduceSub, Nat.reduceMul, Int.reduceEq, Int.reduceLT, Int.reduceLE, Int.reduceNeg, Int.reduceToNat, List.reduceReplicate, Int.ofNat_le, List.getElem?_drop]
    refine PAcc.push (bytes := 24) (σb := hb) k3 p3 (by omega) (by omega) fun v' h4 k4 p4 => ?_
    simp only [pwA, if_true, if_false, eq_self, nm_eq, reduceCtorEq, ↓reduceIte, Nat.reduceEqDiff, Nat.reduceLeDiff, Nat.reduceBEq, Nat.reduceAdd, Nat.reduceLT, Nat.reduceSub, Nat.reduceMul, Int.reduceEq, Int.reduceLT, Int.reduceLE, Int.reduceNeg, Int.reduceToNat, List.reduceReplicate, Int.ofNat_le, List.getElem?_drop, e5]
    exact ⟨_, by omega, q + 1, v', _, by omega, rfl, rfl, k4, p4.acc, fun h => by omega⟩
  have hqe : q = O.length - 1 - i := by omega
  have hne : ¬ S.next + 1 = h3.next := by have := b.p0b.2; omega
  have hL1 := p3.one
  have hL2 := p3.cells
  have hbn : hb.next ≤ h3.next := k3.next
  obtain ⟨o, ho, hov⟩ : ∃ o : Option LS, LS.pvo o = vL ∧ ((o = none ∧ q = 0) ∨ ∃ s c, o = some ⟨s, c, cells⟩ ∧ cells.length = q ∧ 0 < q ∧ full 1 c q ∧ h3.obj s = some cells ∧ hb.next ≤ s ∧ s < h3.next) := by
    rcases Nat.eq_zero_or_pos q with e | e
    · exact ⟨none, (hnil e).symm, .inl ⟨rfl, e⟩⟩
    · obtain ⟨s, c, rfl, z1, z2, z3, z4, z5⟩ := p3.pos e
      exact ⟨some ⟨s, c, cells⟩, by simp only [LS.pvo, LS.pv]; rw [show cells.length = q by omega], .inr ⟨s, c, rfl, by omega, e, z1, z2, z4, z5⟩⟩
  subst ho
  simp only [pwA, if_true, if_false, eq_self, nm_eq, reduceCtorEq, ↓reduceIte, Nat.reduceEqDiff, Nat.reduceLeDiff, Nat.reduceBEq, Nat.reduceAdd, Nat.reduceLT, Nat.reduceSub, Nat.reduceMul, Int.reduceEq, Int.reduceLT, Int.reduceLE, Int.reduceNeg, Int.reduceToNat, List.reduceReplicate, Int.ofNat_le, List.getElem?_drop, q2, hL1, hL2, hne]
  refine TI.pushC b ⟨rfl, b.accP.one⟩ (by omega) (fun q' e => ?_) fun v5 h5 u1 u2 u3 a5 l5 => ?_
  · rcases hov with ⟨e1, _⟩ | ⟨s, c, e1, z0, z1, z2, z3, z4, z5⟩
    · rw [e1] at e; cases e
    · rw [e1] at e
      cases e
      have hb0 := a2.p0b
      have hb1 := a2.sOb
      refine ⟨⟨by rw [z0]; exact z2, z3, by have := a2.keep.next; show S.next ≤ s; omega, z5⟩, fun hm => ?_, by show s ≠ _; omega, by show s ≠ _; omega, fun off l c' e2 => ?_, fun off l c' e2 => ?_⟩
      · have := (a2.lt hm).2
        have : s < hb.next := this
        omega
      · have : s < hb.next := pacc_lt a2.accP e2
        omega
      · have : s < hb.next := pacc_lt a2.accC e2
        omega
  simp only [pwA, if_true, if_false, eq_self, nm_eq, reduceCtorEq, ↓reduceIte, Nat.reduceEqDiff, Nat.reduceLeDiff, Nat.reduceBEq, Nat.reduceAdd, Nat.reduceLT, Nat.reduceSub, Nat.reduceMul, Int.reduceEq, Int.reduceLT, Int.reduceLE, Int.reduceNeg, Int.reduceToNat, List.reduceReplicate, Int.ofNat_le, List.getElem?_drop, u1, u2, u3, wrapS hlt' (by omega : O.length ≤ 4611686018427387904)]
  refine ⟨_, by omega, i + 1, v2, v5, _, ls ++ [o], by omega, rfl, rfl, a5, by rw [List.length_append]; simp; omega, by rw [List.length_append]; simp; omega, hsh.snoc (fun e => ?_) fun e => ?_⟩
  · rcases hov with ⟨e1, _⟩ | ⟨s, c, e1, z0, z1, z2, z3, z4, z5⟩
    · exact e1
    · omega
  · rcases hov with ⟨e1, e2⟩ | ⟨s, c, e1, z0, z1, z2, z3, z4, z5⟩
    · omega
    · exact ⟨_, e1, by rw [hll]; show cells.length = _; omega⟩
end Go.Proofs
namespace Go.Proofs
open Go.Ab Go.Lie
variable {σ H h : PHeap} {K : PV → PHeap → Prop} {n : Nat} {p : Int} {tp sO sP sC : Nat} {vO : PV} {pc : List PV} {ls : List (Option LS)} {O x : List Int} {capO capP capC cap : Cap} {rows cur : List SR} {Rs : List (List SR)}
structure BF (σ H : PHeap) (tp sO sP sC : Nat) (ls : List (Option LS)) : Prop where
  b : ∀ s, s ∈ [tp, sO, sP, sC] ++ LS.slots ls → σ.next ≤ s ∧ s < H.next
  nd : ([tp, sO, sP, sC] ++ LS.slots ls).Nodup
def cont (Rs : List (List SR)) (cur : List SR) (j : Nat) (q : LS) : List PV :=
  if j < Rs.length then (Rs.getD j []).map SR.pv else if j = Rs.length then cur.map SR.pv ++ q.cs.drop cur.length else q.cs
structure LI (σ H h : PHeap) (tp sO sP sC : Nat) (vO : PV) (capP capC : Cap) (n : Nat) (O : List Int) (pc : List PV) (ls : List (Option LS)) (rows : List SR) (Rs : List (List SR)) (cur : List SR) : Prop where
  keep : Keep σ h
  nx : H.next ≤ h.next
  tpo : h.obj tp = some [vO, .sl sP 0 n capP, .sl sC 0 n capC]
  oO : h.obj sO = some (pis O)
  oP : h.obj sP = some (rows.map SR.pv ++ pc.drop rows.length)
  oC : h.obj sC = some (ls.map LS.pvo)
  oL : ∀ j q, ls[j]? = some (some q) → h.obj q.s = some (cont Rs cur j q)
  ok : ∀ q, q ∈ rows ∨ q ∈ Rs.flatten ∨ q ∈ cur → q.ok h H.next
  nd : (slotsR (rows ++ (Rs.flatten ++ cur))).Nodup
theorem LS.mem_of_get {j : Nat} {q : LS} (h : ls[j]? = some (some q)) : q.s ∈ LS.slots ls := LS.mem_slots.2 ⟨q, List.mem_of_getElem? h, rfl⟩
theorem LI.keepI {h2 : PHeap} (b : BF σ H tp sO sP sC ls) (a : LI σ H h tp sO sP sC vO capP capC n O pc ls rows Rs cur) (k : Keep h h2) : LI σ H h2 tp sO sP sC vO capP capC n O pc ls rows Rs cur := by
  have hn := a.nx
  have o : ∀ s, s ∈ [tp, sO, sP, sC] ++ LS.slots ls → h2.obj s = h.obj s := fun s hs => k.obj s (by have := (b.b s hs).2; omega)
  refine ⟨a.keep.trans k, Nat.le_trans a.nx k.next, by rw [o tp (by simp)]; exact a.tpo, by rw [o sO (by simp)]; exact a.oO, by rw [o sP (by simp)]; exact a.oP, by rw [o sC (by simp)]; exact a.oC, fun j q hq => ?_, fun q hq => (a.ok q hq).keep k, a.nd⟩
  rw [o q.s (List.mem_append.2 (.inr (LS.mem_of_get hq)))]; exact a.oL j q hq
theorem LS.slots_inj : ∀ {ls : List (Option LS)} {i j : Nat} {q q' : LS}, (LS.slots ls).Nodup → ls[i]? = some (some q) → ls[j]? = some (some q') → q.s = q'.s → i = j
  | [], i, j, q, q', _, h, _, _ => by simp at h
  | o :: ls, 0, 0, q, q', _, _, _, _ => rfl
  | none :: ls, 0, j + 1, q, q', _, h, _, _ => by simp at h
  | none :: ls, i + 1, 0, q, q', _, _, h, _ => by simp at h
  | some r :: ls, 0, j + 1, q, q', hn, h, g, e => by
    simp only [List.getElem?_cons_zero, Option.some.injEq, List.getElem?_cons_succ, LS.slots, List.nodup_cons] at h g hn
    subst h
    exact absurd (LS.mem_of_get g) (by rw [← e]; exact hn.1)
  | some r :: ls, i + 1, 0, q, q', hn, h, g, e => by
    simp only [List.getElem?_cons_zero, Option.some.injEq, List.getElem?_cons_succ, LS.slots, List.nodup_cons] at h g hn
    subst g
    exact absurd (LS.mem_of_get h) (by rw [e]; exact hn.1)
  | none :: ls, i + 1, j + 1, q, q', hn, h, g, e => by have := LS.slots_inj (ls := ls) hn (by simpa using h) (by simpa using g) e; omega
  | some r :: ls, i + 1, j + 1, q, q', hn, h, g, e => by
    simp only [LS.slots, List.nodup_cons] at hn
    have := LS.slots_inj (ls := ls) hn.2 (by simpa using h) (by simpa using g) e
    omega
theorem drop_mid {a b : List PV} : (a ++ b).drop (a.length + 1) = b.drop 1 := by
  rw [← List.drop_drop, List.drop_left']; rfl
theorem sr_put {q : SR} {s : Nat} {cs : List PV} (a : q.ok h H.next) (hs : s < H.next) : q.ok (h.set s cs) H.next := ⟨a.1, by rw [pobj_set, if_neg (by have := a.2.2.1; omega)]; exact a.2.1, a.2.2.1, a.2.2.2⟩
theorem mem_rows {q : SR} (hq : q ∈ rows ++ (Rs.flatten ++ cur)) : q ∈ rows ∨ q ∈ Rs.flatten ∨ q ∈ cur := by
  simpa only [List.mem_append] using hq
theorem LI.fresh (a : LI σ H h tp sO sP sC vO capP capC n O pc ls rows Rs cur) : h.next ∉ slotsR (rows ++ (Rs.flatten ++ cur)) := fun hm => by
  obtain ⟨q, hq, e⟩ := List.mem_map.1 hm
  have := (a.ok q (mem_rows hq)).2.2.2
  omega
theorem LI.putP (b : BF σ H tp sO sP sC ls) (a : LI σ H h tp sO sP sC vO capP capC n O pc ls rows Rs cur) (hf : full 1 cap x.length) (hl : rows.length < pc.length) :
    (h.new (pis x)).wr sP rows.length [.sl h.next 0 x.length cap] = some ((h.new (pis x)).set sP ((rows ++ [(⟨h.next, cap, x⟩ : SR)]).map SR.pv ++ pc.drop (rows.length + 1))) ∧
    LI σ H ((h.new (pis x)).set sP ((rows ++ [(⟨h.next, cap, x⟩ : SR)]).map SR.pv ++ pc.drop (rows.length + 1))) tp sO sP sC vO capP capC n O pc ls (rows ++ [(⟨h.next, cap, x⟩ : SR)]) Rs cur := by
  have a1 := a.keepI b (keep_new h (pis x))
  have hnx := a.nx
  have bP := b.b sP (by simp)
  have nd := b.nd
  simp only [List.cons_append, List.nil_append, List.nodup_cons, List.mem_cons, not_or] at nd
  obtain ⟨⟨n1, n2, n3, n4⟩, ⟨n5, n6, n7⟩, ⟨n8, n9⟩, _⟩ := nd
  have ob := a1.oP
  refine ⟨?_, a1.keep.set bP.1 _, a1.nx, by rw [pobj_set, if_neg n2]; exact a1.tpo, by rw [pobj_set, if_neg n5]; exact a1.oO, by rw [pobj_set, if_pos rfl, List.length_append, List.length_singleton], by rw [pobj_set, if_neg (Ne.symm n8)]; exact a1.oC, fun j q hq => ?_, fun q hq => ?_, ?_⟩
  · rw [obj_wr ob, if_pos ⟨by simp only [List.length_append, List.length_map, List.length_drop, List.length_singleton]; omega, rfl⟩]
    congr 2
    have e1 : (rows.map SR.pv ++ pc.drop rows.length).take rows.length = rows.map SR.pv := by
      have : (rows.map SR.pv).length = rows.length := List.length_map _
      rw [← this, List.take_left']; rfl
    have e2 : (rows.map SR.pv ++ pc.drop rows.length).drop (rows.length + 1) = pc.drop (rows.length + 1) := by
      have := drop_mid (a := rows.map SR.pv) (b := pc.drop rows.length)
      rwa [List.length_map, List.drop_drop] at this
    rw [List.length_singleton, e1, e2, List.map_append]; rfl
  · have hm := LS.mem_of_get hq
    rw [pobj_set, if_neg fun e => n9 (by rw [← e]; exact hm)]
    exact a1.oL j q hq
  · have new : SR.ok (h.new (pis x)) H.next (⟨h.next, cap, x⟩ : SR) := ⟨hf, by rw [pobj_new, if_pos rfl], hnx, Nat.lt_succ_self _⟩
    rcases hq with hq | hq
    · rcases List.mem_append.1 hq with hq | hq
      · exact sr_put (a1.ok q (.inl hq)) bP.2
      · rw [List.mem_singleton.1 hq]; exact sr_put new bP.2
    · exact sr_put (a1.ok q (.inr hq)) bP.2
  · have hp : (slotsR ((rows ++ [(⟨h.next, cap, x⟩ : SR)]) ++ (Rs.flatten ++ cur))).Perm (h.next :: slotsR (rows ++ (Rs.flatten ++ cur))) := by
      simp only [slotsR, List.append_assoc, List.map_append, List.map_cons, List.map_nil, List.cons_append, List.nil_append]
      exact List.perm_middle
    exact hp.nodup_iff.2 (List.nodup_cons.2 ⟨a.fresh, a.nd⟩)
theorem LI.putC {q0 : LS} (b : BF σ H tp sO sP sC ls) (a : LI σ H h tp sO sP sC vO capP capC n O pc ls rows Rs cur) (hf : full 1 cap x.length) (hq0 : ls[Rs.length]? = some (some q0)) (hl : cur.length < q0.cs.length) :
    (h.new (pis x)).wr q0.s cur.length [.sl h.next 0 x.length cap] = some ((h.new (pis x)).set q0.s ((cur ++ [(⟨h.next, cap, x⟩ : SR)]).map SR.pv ++ q0.cs.drop (cur.length + 1))) ∧
    LI σ H ((h.new (pis x)).set q0.s ((cur ++ [(⟨h.next, cap, x⟩ : SR)]).map SR.pv ++ q0.cs.drop (cur.length + 1))) tp sO sP sC vO capP capC n O pc ls rows Rs (cur ++ [(⟨h.next, cap, x⟩ : SR)]) := by
  have a1 := a.keepI b (keep_new h (pis x))
  have hnx := a.nx
  have hm0 := LS.mem_of_get hq0
  have bP := b.b q0.s (List.mem_append.2 (.inr hm0))
  have nd := b.nd
  simp only [List.cons_append, List.nil_append, List.nodup_cons, List.mem_cons, not_or] at nd
  obtain ⟨⟨n1, n2, n3, n4⟩, ⟨n5, n6, n7⟩, ⟨n8, n9⟩, n10, n11⟩ := nd
  have ob := a1.oL _ _ hq0
  have hc : cont Rs cur Rs.length q0 = cur.map SR.pv ++ q0.cs.drop cur.length := by unfold cont; rw [if_neg (Nat.lt_irrefl _), if_pos rfl]
  rw [hc] at ob
  refine ⟨?_, a1.keep.set bP.1 _, a1.nx, by rw [pobj_set, if_neg fun e => n4 (by rw [e]; exact hm0)]; exact a1.tpo, by rw [pobj_set, if_neg fun e => n7 (by rw [e]; exact hm0)]; exact a1.oO, by rw [pobj_set, if_neg fun e => n9 (by rw [e]; exact hm0)]; exact a1.oP, by rw [pobj_set, if_neg fun e => n10 (by rw [e]; exact hm0)]; exact a1.oC, fun j q hq => ?_, fun q hq => ?_, ?_⟩
  · rw [obj_wr ob, if_pos ⟨by simp only [List.length_append, List.length_map, List.length_drop, List.length_singleton]; omega, rfl⟩]
    congr 2
    have e1 : (cur.map SR.pv ++ q0.cs.drop cur.length).take cur.length = cur.map SR.pv := by
      have : (cur.map SR.pv).length = cur.length := List.length_map _
      rw [← this, List.take_left']; rfl
    have e2 : (cur.map SR.pv ++ q0.cs.drop cur.length).drop (cur.length + 1) = q0.cs.drop (cur.length + 1) := by
      have := drop_mid (a := cur.map SR.pv) (b := q0.cs.drop cur.length)
      rwa [List.length_map, List.drop_drop] at this
    rw [List.length_singleton, e1, e2, List.map_append]; rfl
  · by_cases e : j = Rs.length
    · subst e
      rw [hq0] at hq
      cases hq
      rw [pobj_set, if_pos rfl]
      unfold cont
      rw [if_neg (Nat.lt_irrefl _), if_pos rfl, List.length_append, List.length_singleton]
    · have hne : q.s ≠ q0.s := fun es => by
        exact e (LS.slots_inj n11 hq hq0 es)
      rw [pobj_set, if_neg hne, a1.oL j q hq]
      unfold cont
      rw [if_neg (show ¬ j = Rs.length from e), if_neg (show ¬ j = Rs.length from e)]
  · have new : SR.ok (h.new (pis x)) H.next (⟨h.next, cap, x⟩ : SR) := ⟨hf, by rw [pobj_new, if_pos rfl], hnx, Nat.lt_succ_self _⟩
    rcases hq with hq | hq | hq
    · exact sr_put (a1.ok q (.inl hq)) bP.2
    · exact sr_put (a1.ok q (.inr (.inl hq))) bP.2
    · rcases List.mem_append.1 hq with hq | hq
      · exact sr_put (a1.ok q (.inr (.inr hq))) bP.2
      · rw [List.mem_singleton.1 hq]; exact sr_put new bP.2
  · have hp : (slotsR (rows ++ (Rs.flatten ++ (cur ++ [(⟨h.next, cap, x⟩ : SR)])))).Perm (h.next :: slotsR (rows ++ (Rs.flatten ++ cur))) := by
      simp only [slotsR, List.map_append, List.map_cons, List.map_nil]
      rw [← List.append_assoc, ← List.append_assoc, List.append_assoc (List.map SR.s rows)]
      exact List.perm_append_singleton _ _
    exact hp.nodup_iff.2 (List.nodup_cons.2 ⟨a.fresh, a.nd⟩)
theorem LI.close (a : LI σ H h tp sO sP sC vO capP capC n O pc ls rows Rs cur) (hl : ∀ q, ls[Rs.length]? = some (some q) → cur.length = q.cs.length) : LI σ H h tp sO sP sC vO capP capC n O pc ls rows (Rs ++ [cur]) [] := by
  refine ⟨a.keep, a.nx, a.tpo, a.oO, a.oP, a.oC, fun j q hq => ?_, fun q hq => a.ok q ?_, ?_⟩
  · rw [a.oL j q hq]
    unfold cont
    rw [List.length_append, List.length_singleton]
    rcases Nat.lt_trichotomy j Rs.length with x | x | x
    · rw [if_pos x, if_pos (by omega)]
      simp [List.getD_eq_getElem?_getD, List.getElem?_append_left x]
    · subst x
      rw [if_neg (Nat.lt_irrefl _), if_pos rfl, if_pos (by omega), List.drop_of_length_le (by rw [hl q hq]; exact Nat.le_refl _)]
      simp [List.getD_eq_getElem?_getD]
    · rw [if_neg (by omega), if_neg (by omega), if_neg (by omega)]
      split <;> simp
  · rcases hq with hq | hq | hq
    · exact .inl hq
    · simp only [List.flatten_append, List.flatten_cons, List.flatten_nil, List.append_nil, List.mem_append] at hq
      exact .inr hq
    · cases hq
  · have := a.nd
    simpa [List.flatten_append] using this
end Go.Proofs
namespace Go.Proofs
open Go.Ab Go.Lie
variable {σ H h : PHeap} {K : PV → PHeap → Prop} {n : Nat} {a : Nat → Nat} {b : Nat} {tp sO sP sC : Nat} {vO : PV} {pc : List PV} {ls : List (Option LS)} {O x : List Int} {capO capP capC cap : Cap} {rows cur : List SR} {Rs : List (List SR)}
def lrT : Option LS → List SR → TR
  | none, _ => .nil
  | some q, R => TR.rows q.s q.cap R
def Fit1 : Option LS → List SR → Prop
  | none, R => R = []
  | some q, R => R.length = q.cs.length
def Fits (ls : List (Option LS)) (Rs : List (List SR)) : Prop := All2 Fit1 ls Rs
theorem Fits.tl {o : Option LS} {R : List SR} (h : Fits (o :: ls) (R :: Rs)) : Fit1 o R ∧ Fits ls Rs :=
  ⟨h.2 0 o R rfl rfl, by have := h.1; simpa using this, fun k a b ha hb => h.2 (k + 1) a b (by simpa using ha) (by simpa using hb)⟩
theorem lr_pvs : ∀ {ls : List (Option LS)} {Rs : List (List SR)}, Fits ls Rs → TR.pvs (List.zipWith lrT ls Rs) = ls.map LS.pvo
  | [], [], _ => rfl
  | [], R :: Rs, h => by have := h.1; simp at this
  | o :: ls, [], h => by have := h.1; simp at this
  | none :: ls, R :: Rs, h => by
    simp only [List.zipWith_cons_cons, TR.pvs, List.map_cons, lr_pvs h.tl.2]; rfl
  | some q :: ls, R :: Rs, h => by
    have hl : R.length = q.cs.length := h.tl.1
    simp only [List.zipWith_cons_cons, TR.pvs, List.map_cons, lr_pvs h.tl.2]
    simp only [lrT, TR.rows, TR.pv, LS.pvo, LS.pv, List.length_map, hl]
theorem lr_slots : ∀ {ls : List (Option LS)} {Rs : List (List SR)}, Fits ls Rs → (TR.slotss (List.zipWith lrT ls Rs)).Perm (LS.slots ls ++ slotsR Rs.flatten)
  | [], [], _ => List.Perm.refl _
  | [], R :: Rs, h => by have := h.1; simp at this
  | o :: ls, [], h => by have := h.1; simp at this
  | none :: ls, R :: Rs, h => by
    have hR : R = [] := h.tl.1
    subst hR
    simp only [List.zipWith_cons_cons, TR.slotss, lrT, TR.slots, List.nil_append, List.flatten_cons, LS.slots]
    exact lr_slots h.tl.2
  | some q :: ls, R :: Rs, h => by
    have ih := lr_slots h.tl.2
    simp only [List.zipWith_cons_cons, TR.slotss, lrT, TR.rows, TR.slots, TR.rows_slots, List.flatten_cons, LS.slots, List.cons_append]
    refine List.Perm.cons _ ?_
    have e : slotsR (R ++ Rs.flatten) = slotsR R ++ slotsR Rs.flatten := by simp [slotsR]
    rw [e]
    refine ((ih.append_left (slotsR R)).trans ?_)
    rw [← List.append_assoc, ← List.append_assoc]
    exact List.perm_append_comm.append_right _
theorem lr_oks : ∀ {ls : List (Option LS)} {Rs : List (List SR)}, (∀ (j : Nat) (o : Option LS) (R : List SR), ls[j]? = some o → Rs[j]? = some R → (lrT o R).ok h b) → TR.oks h b (List.zipWith lrT ls Rs)
  | [], _, _ => trivial
  | o :: ls, [], _ => trivial
  | o :: ls, R :: Rs, k => ⟨k 0 o R rfl rfl, lr_oks fun j o' R' h1 h2 => k (j + 1) o' R' (by simpa using h1) (by simpa using h2)⟩
theorem lr_all2 : ∀ {ls : List (Option LS)} {Rs : List (List SR)}, Fits ls Rs → All2 FII (TR.fzs a (List.zipWith lrT ls Rs)) (Rs.map fun R => R.map SR.x)
  | [], [], _ => All2.nil _
  | [], R :: Rs, h => by have := h.1; simp at this
  | o :: ls, [], h => by have := h.1; simp at this
  | o :: ls, R :: Rs, h => by
    have ih := lr_all2 h.tl.2
    refine ⟨by simp only [List.zipWith_cons_cons, TR.fzs, List.map_cons, List.length_cons, ih.1], fun k c y hc hy => ?_⟩
    cases k with
    | zero =>
      simp only [List.zipWith_cons_cons, TR.fzs, List.map_cons, List.getElem?_cons_zero, Option.some.injEq] at hc hy
      rw [← hc, ← hy]
      cases o with
      | none =>
        have hR : R = [] := h.tl.1
        subst hR
        exact ⟨true, .nils, [], rfl, All2.nil _⟩
      | some q => exact TR.rows_FII
    | succ k =>
      simp only [List.zipWith_cons_cons, TR.fzs, List.map_cons, List.getElem?_cons_succ] at hc hy
      exact ih.2 k c y hc hy
theorem LI.fin {σ0 T : PHeap} {Y : List PV} {res : Nat} (hT : Keep σ0 T) (hres : σ0.next ≤ res ∧ res < T.next) (hOc : full 1 capO O.length) (hPc : full 1 capP rows.length) (hCc : full 1 capC Rs.length) (hpc : pc.length = rows.length)
    (hfull : ∀ q, some q ∈ ls → full 1 q.cap q.cs.length) (bf : BF T H tp sO sP sC ls) (l : LI T H h tp sO sP sC vO capP capC n O pc ls rows Rs []) (hf : Fits ls Rs)
    (hk : ∀ vO vQ vC t, FI vO O → FII vQ (rows.map SR.x) → FIII vC (Rs.map fun R => R.map SR.x) → Own σ0.top t (.agg [vO, vQ, vC]) → σ0.top ≤ t → K (.agg [vO, vQ, vC]) (σ0.up t)) :
    Gh σ0 K (.agg [.sl sO 0 O.length capO, .sl sP 0 rows.length capP, .sl sC 0 Rs.length capC]) (h.set res Y) := by
  have hTn := hT.next
  have bO := bf.b sO (by simp)
  have bP := bf.b sP (by simp)
  have bC := bf.b sC (by simp)
  have hHn := l.nx
  have hlen : ls.length = Rs.length := hf.1
  have hzl : (List.zipWith lrT ls Rs).length = Rs.length := by rw [List.length_zipWith]; omega
  have e : (TR.agg [TR.row sO capO O, TR.rows sP capP rows, .lst sC capC (List.zipWith lrT ls Rs)]).pv = .agg [.sl sO 0 O.length capO, .sl sP 0 rows.length capP, .sl sC 0 Rs.length capC] := by
    simp only [TR.pv, TR.pvs, TR.row_pv, TR.rows, List.length_map, hzl]
  rw [← e]
  have ob : ∀ s, s ≠ res → (h.set res Y).obj s = h.obj s := fun s hs => by rw [pobj_set, if_neg hs]
  have rok : ∀ q : SR, q.ok h H.next → q.ok (h.set res Y) σ0.next := fun q ⟨g1, g2, g3, g4⟩ => ⟨g1, by rw [ob _ (by have := (bf.b sO (by simp)); omega)]; exact g2, by have := (bf.b sO (by simp)); omega, g4⟩
  have okR : ∀ q ∈ rows, q.ok (h.set res Y) σ0.next := fun q hq => rok q (l.ok q (.inl hq))
  refine Gh.treeO ((hT.trans l.keep).set hres.1 _) ⟨TR.row_ok hOc (by rw [ob _ (by omega)]; exact l.oO) (by omega) (by show sO < h.next; omega), TR.rows_ok hPc (by rw [ob _ (by omega), l.oP, List.drop_of_length_le (by omega), List.append_nil]) (by omega) (by show sP < h.next; omega) okR, ⟨⟨by rw [hzl]; exact hCc, by rw [ob _ (by omega), l.oC, lr_pvs hf], by omega, by show sC < h.next; omega⟩, lr_oks fun j o R ho hR => ?_⟩, trivial⟩ ?_ fun a T' g1 g2 => ?_
  · cases o with
    | none => trivial
    | some q =>
      have hm := LS.mem_of_get ho
      have bq := bf.b q.s (List.mem_append.2 (.inr hm))
      have hRl : R.length = q.cs.length := hf.2 j _ _ ho hR
      obtain ⟨hj, hje⟩ := List.getElem?_eq_some_iff.1 hR
      refine TR.rows_ok (by rw [hRl]; exact hfull q (List.mem_of_getElem? ho)) ?_ (by omega) (by show q.s < h.next; omega) fun q' hq' => rok q' (l.ok q' (.inr (.inl (List.mem_flatten.2 ⟨R, List.mem_of_getElem? hR, hq'⟩))))
      rw [ob _ (by omega), l.oL j q ho]
      unfold cont
      rw [if_pos hj, List.getD_eq_getElem?_getD, hR]; rfl
  · have nd := bf.nd
    have nr := l.nd
    rw [List.append_nil] at nr
    have hp : ((TR.agg [TR.row sO capO O, TR.rows sP capP rows, .lst sC capC (List.zipWith lrT ls Rs)]).slots).Perm (([sO, sP, sC] ++ LS.slots ls) ++ slotsR (rows ++ Rs.flatten)) := by
      have e2 : slotsR (rows ++ Rs.flatten) = slotsR rows ++ slotsR Rs.flatten := by simp [slotsR]
      simp only [TR.slots, TR.slotss, TR.row_slots, TR.rows, TR.rows_slots, List.append_nil, List.cons_append, List.nil_append, e2]
      refine List.Perm.cons _ (List.Perm.cons _ ?_)
      have h3 := (lr_slots hf).cons sC |>.append_left (slotsR rows)
      refine h3.trans ?_
      simp only [← List.cons_append]
      rw [← List.append_assoc, ← List.append_assoc]
      exact List.perm_append_comm.append_right _
    refine hp.nodup_iff.2 (List.nodup_append.2 ⟨?_, nr, fun x hx y hy e => ?_⟩)
    · simp only [List.cons_append, List.nil_append, List.nodup_cons] at nd ⊢
      exact nd.2
    · have h1 := (bf.b x (by simp only [List.cons_append, List.nil_append, List.mem_cons] at hx ⊢; exact .inr hx)).2
      obtain ⟨q, hq, e3⟩ := List.mem_map.1 hy
      have h2 := (l.ok q (by rcases List.mem_append.1 hq with hq | hq; exact .inl hq; exact .inr (.inl hq))).2.2.1
      omega
  · exact hk _ _ _ T' TR.row_FI TR.rows_FII ⟨true, .sl (a sC) 0 Rs.length capC, TR.fzs a (List.zipWith lrT ls Rs), by simp only [TR.fz, hzl, List.length_map], lr_all2 hf⟩ g1 g2
end Go.Proofs
namespace Go.Proofs
open Go.Ab Go.Lie
variable {σ H h : PHeap} {K : PV → PHeap → Prop} {n c : Nat} {p : Int} {W : List (List Int)} {B : List (List (List Int))} {vP vB : PV} {s : Nat}
theorem vp_abs {P : Program} {c : IC} {Q : Exit → PEnv → PHeap → Prop} {e : PEnv} {h : PHeap} (id : Nat) (J : PEnv → PHeap → Prop) (h1 : ∀ Q' : Exit → PEnv → PHeap → Prop, (∀ e h, J e h → Q' (.exit id) e h) → vp P c Q' e h) (h2 : ∀ e h, J e h → Q (.exit id) e h) : vp P c Q e h := h1 Q h2
noncomputable def lgP (p : Int) (n : Nat) (W : List (List Int)) (B : List (List (List Int))) (i : Nat) : List Int := vcG p n W B (lmul p W p (unitL n i))
noncomputable def lgC (p : Int) (n : Nat) (W : List (List Int)) (B : List (List (List Int))) (i k : Nat) : List Int := vcG p n W B (conj p n W B (unitL n (i + (1 + k))) (unitL n i))
noncomputable def lgPs (p : Int) (n : Nat) (W : List (List Int)) (B : List (List (List Int))) (m : Nat) : List (List Int) := (List.range m).map (lgP p n W B)
noncomputable def lgR (p : Int) (n : Nat) (W : List (List Int)) (B : List (List (List Int))) (i m : Nat) : List (List Int) := (List.range m).map (lgC p n W B i)
noncomputable def lgCs (p : Int) (n : Nat) (W : List (List Int)) (B : List (List (List Int))) (m : Nat) : List (List (List Int)) := (List.range m).map fun i => lgR p n W B i (n - 1 - i)
theorem lazardGroup_T (z : Lz p n W B c) (hs : PtrR σ s p vP vB) (hR : IsR vP vB W B)
    (hk : ∀ vO vQ vC t, FI vO (List.replicate n p) → FII vQ (lgPs p n W B n) → FIII vC (lgCs p n W B n) → Own σ.top t (.agg [vO, vQ, vC]) → σ.top ≤ t → K (.agg [vO, vQ, vC]) (σ.up t)) :
    PCalls Tryz.prog 35 [.ptr s 0] σ K := by
  have o := z.r.o
  have q := z.r.q
  have hn6 := o.le
  have hWl := o.len
  have hsl := hs.lt
  have hpb := z.hp.bd
  have hR0 := hR
  obtain ⟨⟨wp, ap, rp, rfl, hrp⟩, hB⟩ := hR
  have e1 : σ.rd1 s 1 = some (.fz wp ap W.length rp) := by rw [obj_rd1 hs.obj]; rfl
  have e0 : σ.rd1 s 0 = some (.int .i64 p) := by rw [obj_rd1 hs.obj]; rfl
  have hn1 : ¬ s = σ.next := by omega
  refine PCalls.gh ?_
  refine pcalls_of_vp mix Tryz.func35 cf35 rfl ?_
  dsimp only [if35, qI, eI, nI, qD, eD]
  simp only [pwA, if_true, if_false, eq_self, nm_eq, reduceCtorEq, ↓reduceIte, Nat.reduceEqDiff, Nat.reduceLeDiff, Nat.reduceBEq, Nat.reduceAdd, Nat.reduceLT, Nat.reduceSub, Nat.reduceMul, Int.reduceEq, Int.reduceLT, Int.reduceLE, Int.reduceNeg, Int.reduceToNat, List.reduceReplicate, Int.ofNat_le, List.getElem?_drop, e0, e1, hn1, hWl]
  refine PCalls.frz (s := σ.next + 1) (cs := pis [p]) (by simp only [pwA, if_true, if_false, eq_self, nm_eq, reduceCtorEq, ↓reduceIte, Nat.reduceEqDiff, Nat.reduceLeDiff, Nat.reduceBEq, Nat.reduceAdd, Nat.reduceLT, Nat.reduceSub, Nat.reduceMul, Int.reduceEq, Int.reduceLT, Int.reduceLE, Int.reduceNeg, Int.reduceToNat, List.reduceReplicate, Int.ofNat_le, List.getElem?_drop]; rfl) (pis_bel _ _) fun o1 => ?_
  simp only [sbs, Go.Ab.sb, capOK, and_self, if_true, decide_true, Nat.le_refl]
  refine Repeat_ok rfl hn6 fun vr hr => ?_
  simp only [pwA, if_true, if_false, eq_self, nm_eq, reduceCtorEq, ↓reduceIte, Nat.reduceEqDiff, Nat.reduceLeDiff, Nat.reduceBEq, Nat.reduceAdd, Nat.reduceLT, Nat.reduceSub, Nat.reduceMul, Int.reduceEq, Int.reduceLT, Int.reduceLE, Int.reduceNeg, Int.reduceToNat, List.reduceReplicate, Int.ofNat_le, List.getElem?_drop]
  have hO3 : ∀ {g : PHeap} {u0 u1 u2 : PV}, Keep (σ.new [.fz true .nils 0 [], .fz true .nils 0 [], .fz true .nils 0 []]) g → u0.one = true → u1.one = true → u2.one = true → g.wr σ.next 0 [u0, u1, u2] = some (g.set σ.next [u0, u1, u2]) ∧ (g.set σ.next [u0, u1, u2]).rd σ.next 0 3 = some [u0, u1, u2] := fun {g u0 u1 u2} k z0 z1 z2 => by
    have hres : g.obj σ.next = some [.fz true .nils 0 [], .fz true .nils 0 [], .fz true .nils 0 []] := by rw [k.obj _ (Nat.lt_succ_self _), pobj_new, if_pos rfl]
    exact ⟨by rw [obj_wr hres, if_pos ⟨by simp, by simp only [List.all_cons, List.all_nil, z0, z1, z2]; rfl⟩]; rfl, by rw [prd_set, if_pos rfl]; rfl⟩
  generalize hS : ((σ.new [.fz true .nils 0 [], .fz true .nils 0 [], .fz true .nils 0 []]).new [.int .i64 p]).kill (σ.next + 1) = S
  have hSn : S.next = σ.next + 2 := by rw [← hS]; rfl
  have hkS : Keep (σ.new [.fz true .nils 0 [], .fz true .nils 0 [], .fz true .nils 0 []]) S := by rw [← hS]; exact (keep_new _ _).kill (Nat.le_refl _)
  have hk0 := keep_new σ [.fz true .nils 0 [], .fz true .nils 0 [], .fz true .nils 0 []]
  rcases Nat.eq_zero_or_pos n with hn0 | hpos
  · as_aux_lemma =>
    subst hn0
    refine trivialRelations_0 hr (fun h1 k1 => ?_) fun h1 cap hc k1 ho hlt => ?_
    · have k2 := (hkS.trans k1).new [.fz true .nils 0 [], .fz true .nils 0 [], .fz true .nils 0 []]
      obtain ⟨g1, g2⟩ := hO3 k2 (u0 := .fz true .nils 0 []) (u1 := .fz true .nils 0 []) (u2 := .fz true .nils 0 []) rfl rfl rfl
      have g3 : (h1.new [.fz true .nils 0 [], .fz true .nils 0 [], .fz true .nils 0 []]).rd h1.next 0 3 = some [.fz true .nils 0 [], .fz true .nils 0 [], .fz true .nils 0 []] := by simp only [pwA, if_true, if_false, eq_self, nm_eq, reduceCtorEq, ↓reduceIte, Nat.reduceEqDiff, Nat.reduceLeDiff, Nat.reduceBEq, Nat.reduceAdd, Nat.reduceLT, Nat.reduceSub, Nat.reduceMul, Int.reduceEq, Int.reduceLT, Int.reduceLE, Int.reduceNeg, Int.reduceToNat, List.reduceReplicate, Int.ofNat_le, List.getElem?_drop]
      simp only [pwA, if_true, if_false, eq_self, nm_eq, reduceCtorEq, ↓reduceIte, Nat.reduceEqDiff, Nat.reduceLeDiff, Nat.reduceBEq, Nat.reduceAdd, Nat.reduceLT, Nat.reduceSub, Nat.reduceMul, Int.reduceEq, Int.reduceLT, Int.reduceLE, Int.reduceNeg, Int.reduceToNat, List.reduceReplicate, Int.ofNat_le, List.getElem?_drop]
      refine vp_loop (fun m us h' => m = 0 ∧ us = [.ptr s 0, .ptr σ.next 0, .int .i64 (0 : Nat), .ptr h1.next 0, .int .i64 (0 : Nat), .int .i64 (0 : Nat)] ∧ h' = h1.new [.fz true .nils 0 [], .fz true .nils 0 [], .fz true .nils 0 []]) 0 ⟨rfl, rfl, rfl⟩ ?_
      rintro m us h' ⟨rfl, rfl, rfl⟩
      generalize hg : h1.new [.fz true .nils 0 [], .fz true .nils 0 [], .fz true .nils 0 []] = g at *
      simp only [pwA, if_true, if_false, eq_self, nm_eq, reduceCtorEq, ↓reduceIte, Nat.reduceEqDiff, Nat.reduceLeDiff, Nat.reduceBEq, Nat.reduceAdd, Nat.reduceLT, Nat.reduceSub, Nat.reduceMul, Int.reduceEq, Int.reduceLT, Int.reduceLE, Int.reduceNeg, Int.reduceToNat, List.reduceReplicate, Int.ofNat_le, List.getElem?_drop, g1, g2, g3]
      exact Gh.treeO (t := .agg [.nil, .nil, .nil]) ((hk0.trans k2).set (Nat.le_refl _) _) ⟨trivial, trivial, trivial, trivial⟩ List.nodup_nil fun a T h1 h2 => hk _ _ _ T ⟨true, .nils, rfl⟩ ⟨true, .nils, [], rfl, All2.nil _⟩ ⟨true, .nils, [], rfl, All2.nil _⟩ h1 h2
    · have k2 := (hkS.trans k1).new [.sl (S.next + 1) 0 0 cap, .fz true .nils 0 [], .fz true .nils 0 []]
      obtain ⟨g1, g2⟩ := hO3 k2 (u0 := .sl (S.next + 1) 0 0 cap) (u1 := .fz true .nils 0 []) (u2 := .fz true .nils 0 []) rfl rfl rfl
      have g3 : (h1.new [.sl (S.next + 1) 0 0 cap, .fz true .nils 0 [], .fz true .nils 0 []]).rd h1.next 0 3 = some [.sl (S.next + 1) 0 0 cap, .fz true .nils 0 [], .fz true .nils 0 []] := by simp only [pwA, if_true, if_false, eq_self, nm_eq, reduceCtorEq, ↓reduceIte, Nat.reduceEqDiff, Nat.reduceLeDiff, Nat.reduceBEq, Nat.reduceAdd, Nat.reduceLT, Nat.reduceSub, Nat.reduceMul, Int.reduceEq, Int.reduceLT, Int.reduceLE, Int.reduceNeg, Int.reduceToNat, List.reduceReplicate, Int.ofNat_le, List.getElem?_drop]
      simp only [pwA, if_true, if_false, eq_self, nm_eq, reduceCtorEq, ↓reduceIte, Nat.reduceEqDiff, Nat.reduceLeDiff, Nat.reduceBEq, Nat.reduceAdd, Nat.reduceLT, Nat.reduceSub, Nat.reduceMul, Int.reduceEq, Int.reduceLT, Int.reduceLE, Int.reduceNeg, Int.reduceToNat, List.reduceReplicate, Int.ofNat_le, List.getElem?_drop]
      refine vp_loop (fun m us h' => m = 0 ∧ us = [.ptr s 0, .ptr σ.next 0, .int .i64 (0 : Nat), .ptr h1.next 0, .int .i64 (0 : Nat), .int .i64 (0 : Nat)] ∧ h' = h1.new [.sl (S.next + 1) 0 0 cap, .fz true .nils 0 [], .fz true .nils 0 []]) 0 ⟨rfl, rfl, rfl⟩ ?_
      rintro m us h' ⟨rfl, rfl, rfl⟩
      generalize hg : h1.new [.sl (S.next + 1) 0 0 cap, .fz true .nils 0 [], .fz true .nils 0 []] = g at *
      simp only [pwA, if_true, if_false, eq_self, nm_eq, reduceCtorEq, ↓reduceIte, Nat.reduceEqDiff, Nat.reduceLeDiff, Nat.reduceBEq, Nat.reduceAdd, Nat.reduceLT, Nat.reduceSub, Nat.reduceMul, Int.reduceEq, Int.reduceLT, Int.reduceLE, Int.reduceNeg, Int.reduceToNat, List.reduceReplicate, Int.ofNat_le, List.getElem?_drop, g1, g2, g3]
      refine Gh.treeO (t := .agg [TR.row (S.next + 1) cap [], .nil, .nil]) ((hk0.trans k2).set (Nat.le_refl _) _) ⟨TR.row_ok hc ?_ (by omega) ?_, trivial, trivial, trivial⟩ (by simp [TR.slots, TR.slotss, TR.row]) fun a T h1 h2 => hk _ _ _ T TR.row_FI ⟨true, .nils, [], rfl, All2.nil _⟩ ⟨true, .nils, [], rfl, All2.nil _⟩ h1 h2
      · rw [pobj_set, if_neg (by omega), ← hg, pobj_new, if_neg (by omega)]; exact ho
      · rw [← hg]; show S.next + 1 < h1.next + 1; omega
  refine trivialRelations_ok (n := n) hr (by simp) hpos hn6 fun capO vQ vC pc ls h1 hcO ti hpl hll hsh => ?_
  obtain ⟨sP, capP, rfl, cP, oP, lP, bP, xP⟩ := ti.accP.pos (by omega)
  obtain ⟨sC, capC, rfl, cC, oC, lC, bC, xC⟩ := ti.accC.pos (by omega)
  rw [hpl] at cP
  rw [hll] at cC
  have tiO := ti.oO
  have tiOb := ti.sOb
  have b : BF (σ.new [.fz true .nils 0 [], .fz true .nils 0 [], .fz true .nils 0 []]) (h1.new [.sl (S.next + 1) 0 n capO, .sl sP 0 n capP, .sl sC 0 n capC]) h1.next (S.next + 1) sP sC ls := by
    have hb : ∀ s, s ∈ [h1.next, S.next + 1, sP, sC] ++ LS.slots ls → S.next ≤ s ∧ s < h1.next + 1 := fun s hs => by
      simp only [List.cons_append, List.nil_append, List.mem_cons] at hs
      have := ti.keep.next
      rcases hs with rfl | rfl | rfl | rfl | hs
      · omega
      · omega
      · omega
      · omega
      · have := ti.lt hs; omega
    refine ⟨fun s hs => ⟨by have := (hb s hs).1; show σ.next + 1 ≤ s; omega, (hb s hs).2⟩, ?_⟩
    simp only [List.cons_append, List.nil_append, List.nodup_cons, List.mem_cons, not_or]
    refine ⟨⟨by omega, by omega, by omega, fun hm => by have := (ti.lt hm).2; omega⟩, ⟨fun e => ti.neP (S.next + 1) (.inr (.inr rfl)) 0 _ capP (by rw [← e]), fun e => ti.neC (S.next + 1) (.inr (.inr rfl)) 0 _ capC (by rw [← e]), ti.neL.2⟩, ⟨fun e => ti.nePC sP 0 _ capP rfl 0 _ capC (by rw [e]), fun hm => ti.neP sP (.inl hm) 0 _ capP rfl⟩, fun hm => ti.neC sC (.inl hm) 0 _ capC rfl, ti.nd⟩
  have li : LI (σ.new [.fz true .nils 0 [], .fz true .nils 0 [], .fz true .nils 0 []]) (h1.new [.sl (S.next + 1) 0 n capO, .sl sP 0 n capP, .sl sC 0 n capC]) (h1.new [.sl (S.next + 1) 0 n capO, .sl sP 0 n capP, .sl sC 0 n capC]) h1.next (S.next + 1) sP sC (.sl (S.next + 1) 0 n capO) capP capC n (List.replicate n p) pc ls [] [] [] := by
    refine ⟨(hkS.trans ti.keep).new _, Nat.le_refl _, by rw [pobj_new, if_pos rfl], by rw [pobj_new, if_neg (by omega)]; exact tiO, by rw [pobj_new, if_neg (by omega)]; simpa using oP, by rw [pobj_new, if_neg (by omega)]; exact oC, fun j q hq => ?_, fun q hq => (by simp at hq), by simp [slotsR]⟩
    have := (ti.ok q (List.mem_of_getElem? hq))
    rw [pobj_new, if_neg (by have := this.2.2.2; omega), this.2.1]
    unfold cont
    simp
  rw [hpl, hll]
  simp only [pwA, if_true, if_false, eq_self, nm_eq, reduceCtorEq, ↓reduceIte, Nat.reduceEqDiff, Nat.reduceLeDiff, Nat.reduceBEq, Nat.reduceAdd, Nat.reduceLT, Nat.reduceSub, Nat.reduceMul, Int.reduceEq, Int.reduceLT, Int.reduceLE, Int.reduceNeg, Int.reduceToNat, List.reduceReplicate, Int.ofNat_le, List.getElem?_drop]
  clear oP oC lP lC bP bC tiO tiOb
  generalize h1.new [.sl (S.next + 1) 0 n capO, .sl sP 0 n capP, .sl sC 0 n capC] = H at *
  generalize h1.next = tp at *
  refine vp_loop (fun m us h => ∃ (i : Nat) (rows : List SR) (Rs : List (List SR)), i ≤ n ∧ m = n - i ∧ us = [.ptr s 0, .ptr σ.next 0, .int .i64 n, .ptr tp 0, .int .i64 n, .int .i64 i] ∧ LI (σ.new [.fz true .nils 0 [], .fz true .nils 0 [], .fz true .nils 0 []]) H h tp (S.next + 1) sP sC (.sl (S.next + 1) 0 n capO) capP capC n (List.replicate n p) pc ls rows Rs [] ∧ rows.length = i ∧ Rs.length = i ∧ rows.map SR.x = lgPs p n W B i ∧ Rs.map (fun R => R.map SR.x) = lgCs p n W B i) n ⟨0, [], [], by omega, by omega, rfl, li, rfl, rfl, rfl, rfl⟩ ?_
  as_aux_lemma =>
  rintro m us h ⟨i, rows, Rs, hi, rfl, rfl, a, hrl, hRl, hrv, hRv⟩
  have hsT : PtrR (σ.new [.fz true .nils 0 [], .fz true .nils 0 [], .fz true .nils 0 []]) s p (.fz wp ap W.length rp) vB := hs.new _
  have hsp := hsT.keep a.keep
  have p0 : h.rd1 s 0 = some (.int .i64 p) := by rw [obj_rd1 hsp.obj]; rfl
  have f1 : h.rd1 tp 1 = some (.sl sP 0 n capP) := by rw [obj_rd1 a.tpo]; rfl
  have f2 : h.rd1 tp 2 = some (.sl sC 0 n capC) := by rw [obj_rd1 a.tpo]; rfl
  have f3 : h.rd tp 0 3 = some [.sl (S.next + 1) 0 n capO, .sl sP 0 n capP, .sl sC 0 n capC] := by rw [obj_rd a.tpo]; rfl
  simp only [pwA, if_true, if_false, eq_self, nm_eq, reduceCtorEq, ↓reduceIte, Nat.reduceEqDiff, Nat.reduceLeDiff, Nat.reduceBEq, Nat.reduceAdd, Nat.reduceLT, Nat.reduceSub, Nat.reduceMul, Int.reduceEq, Int.reduceLT, Int.reduceLE, Int.reduceNeg, Int.reduceToNat, List.reduceReplicate, Int.ofNat_le, List.getElem?_drop]
  refine iteI (fun hlt => ?_) fun hge => ?_
  rotate_left
  · as_aux_lemma =>
    have hie : i = n := by omega
    rw [hie] at hrl hRl hrv hRv
    obtain ⟨g1, g2⟩ := hO3 a.keep (u0 := .sl (S.next + 1) 0 n capO) (u1 := .sl sP 0 n capP) (u2 := .sl sC 0 n capC) rfl rfl rfl
    simp only [pwA, if_true, if_false, eq_self, nm_eq, reduceCtorEq, ↓reduceIte, Nat.reduceEqDiff, Nat.reduceLeDiff, Nat.reduceBEq, Nat.reduceAdd, Nat.reduceLT, Nat.reduceSub, Nat.reduceMul, Int.reduceEq, Int.reduceLT, Int.reduceLE, Int.reduceNeg, Int.reduceToNat, List.reduceReplicate, Int.ofNat_le, List.getElem?_drop, f3, g1, g2]
    have hf : Fits ls Rs := by
      refine ⟨by omega, fun j o' R ho hR => ?_⟩
      obtain ⟨hj, hje⟩ := List.getElem?_eq_some_iff.1 ho
      obtain ⟨hj2, hje2⟩ := List.getElem?_eq_some_iff.1 hR
      have hRl2 : R.length = n - 1 - j := by
        have e := congrArg (fun L => L[j]?) hRv
        simp only [List.getElem?_map, hR, Option.map_some] at e
        unfold lgCs at e
        rw [List.getElem?_map, List.getElem?_range (by omega)] at e
        simp only [Option.map_some, Option.some.injEq] at e
        have := congrArg List.length e
        simpa [lgR] using this
      obtain ⟨s1, s2⟩ := hsh j hj
      rw [hje] at s1 s2
      by_cases e : j + 1 = n
      · rw [s1 e]; exact List.eq_nil_of_length_eq_zero (by omega)
      · obtain ⟨q, e1, e2⟩ := s2 (by omega)
        rw [e1]; show R.length = _; omega
    have fin := LI.fin (K := K) (Y := [.sl (S.next + 1) 0 n capO, .sl sP 0 n capP, .sl sC 0 n capC]) (res := σ.next) (capO := capO) (capP := capP) (capC := capC) hk0 ⟨Nat.le_refl _, Nat.lt_succ_self _⟩ (by rw [List.length_replicate]; exact hcO) (by rw [hrl]; exact cP) (by rw [hRl]; exact cC) (by omega) (fun q hq => (ti.ok q hq).1) b a hf fun vO vQ vC t h1 h2 h3 h4 h5 => hk vO vQ vC t h1 (by rw [← hrv]; exact h2) (by rw [← hRv]; exact h3) h4 h5
    rw [List.length_replicate, hrl, hRl] at fin
    exact fin
  have hlt' : i < n := by omega
  have hu := unit_el (n := n) o.pr hlt'
  have hne : ¬ tp = h.next := by have := (b.b tp (by simp)).2; have := a.nx; omega
  simp only [pwA, if_true, if_false, eq_self, nm_eq, reduceCtorEq, ↓reduceIte, Nat.reduceEqDiff, Nat.reduceLeDiff, Nat.reduceBEq, Nat.reduceAdd, Nat.reduceLT, Nat.reduceSub, Nat.reduceMul, Int.reduceEq, Int.reduceLT, Int.reduceLE, Int.reduceNeg, Int.reduceToNat, List.reduceReplicate, Int.ofNat_le, List.getElem?_drop]
  refine unitVector_fz (by omega) hlt' fun a1 => ?_
  simp only [pwA, if_true, if_false, eq_self, nm_eq, reduceCtorEq, ↓reduceIte, Nat.reduceEqDiff, Nat.reduceLeDiff, Nat.reduceBEq, Nat.reduceAdd, Nat.reduceLT, Nat.reduceSub, Nat.reduceMul, Int.reduceEq, Int.reduceLT, Int.reduceLE, Int.reduceNeg, Int.reduceToNat, List.reduceReplicate, Int.ofNat_le, List.getElem?_drop, f1, p0, hWl]
  refine timesLie_FI o hsp hR0.P hu ⟨true, a1, by rw [hu.1]⟩ (k := p) (by omega) fun v1 fv1 => ?_
  have hel := lmix_el o (k := p) (m := 0) hu hu
  simp only [pwA, if_true, if_false, eq_self, nm_eq, reduceCtorEq, ↓reduceIte, Nat.reduceEqDiff, Nat.reduceLeDiff, Nat.reduceBEq, Nat.reduceAdd, Nat.reduceLT, Nat.reduceSub, Nat.reduceMul, Int.reduceEq, Int.reduceLT, Int.reduceLE, Int.reduceNeg, Int.reduceToNat, List.reduceReplicate, Int.ofNat_le, List.getElem?_drop, f1]
  refine lieToGroup_ok z hsp hR0 (x := lmul p W p (unitL n i)) hel fv1 fun cap1 hc1 => ?_
  have hxl : (vcG p n W B (lmul p W p (unitL n i))).length = n := stG_len n
  have hxv : vcG p n W B (lmul p W p (unitL n i)) = lgP p n W B i := rfl
  rw [hxv] at hxl ⊢
  have a9 := a
  obtain ⟨u1, a2⟩ := LI.putP b a (x := lgP p n W B i) (cap := cap1) (by rw [hxl]; exact hc1) (by omega)
  rw [hrl, hxl] at u1
  rw [hrl] at a2
  have f1n : (h.new (pis (lgP p n W B i))).rd1 tp 1 = some (.sl sP 0 n capP) := by rw [obj_rd1 (a.keepI b (keep_new h _)).tpo]; rfl
  generalize h.new (pis (lgP p n W B i)) = hN at *
  have hv2 : (rows ++ [(⟨h.next, cap1, lgP p n W B i⟩ : SR)]).map SR.x = lgPs p n W B (i + 1) := by
    rw [List.map_append, hrv]; unfold lgPs; rw [List.range_succ, List.map_append]; rfl
  have hr2 : (rows ++ [(⟨h.next, cap1, lgP p n W B i⟩ : SR)]).length = i + 1 := by rw [List.length_append, hrl]; rfl
  generalize rows ++ [(⟨h.next, cap1, lgP p n W B i⟩ : SR)] = rows2 at *
  clear f1 f2 f3 p0 hrv hrl a9
  generalize hN.set sP (rows2.map SR.pv ++ pc.drop (i + 1)) = h0 at *
  have lC : ∀ {g : PHeap} {cur : List SR}, LI (σ.new [.fz true .nils 0 [], .fz true .nils 0 [], .fz true .nils 0 []]) H g tp (S.next + 1) sP sC (.sl (S.next + 1) 0 n capO) capP capC n (List.replicate n p) pc ls rows2 Rs cur → g.rd1 tp 2 = some (.sl sC 0 n capC) ∧ g.rd1 sC i = some (LS.pvo (ls[i]'(by omega))) ∧ g.rd1 s 0 = some (.int .i64 p) := fun {g cur} l => by
    refine ⟨by rw [obj_rd1 l.tpo]; rfl, ?_, by rw [obj_rd1 (hsT.keep l.keep).obj]; rfl⟩
    rw [obj_rd1 l.oC, List.getElem?_map, List.getElem?_eq_getElem (by omega)]; rfl
  obtain ⟨g2, gC, gp⟩ := lC a2
  obtain ⟨s1, s2⟩ := hsh i (by omega)
  have hpl : pLen (LS.pvo (ls[i]'(by omega))) = some (.int .i64 ((n - 1 - i : Nat) : Int)) := by
    by_cases e : i + 1 = n
    · rw [s1 e, show n - 1 - i = 0 by omega]; rfl
    · obtain ⟨q', e1, e2⟩ := s2 (by omega)
      rw [e1, ← e2]; rfl
  simp only [pwA, if_true, if_false, eq_self, nm_eq, reduceCtorEq, ↓reduceIte, Nat.reduceEqDiff, Nat.reduceLeDiff, Nat.reduceBEq, Nat.reduceAdd, Nat.reduceLT, Nat.reduceSub, Nat.reduceMul, Int.reduceEq, Int.reduceLT, Int.reduceLE, Int.reduceNeg, Int.reduceToNat, List.reduceReplicate, Int.ofNat_le, List.getElem?_drop, f1n, hlt', u1, g2, gC, hpl]
  clear u1 f1n
  refine vp_abs 2 (fun e h => ∃ (cur : List SR) (b0 : PV), e = PEnv.mk [0, 2, 3, 4, 5, 6, 21, 22, 46, 47, 48] [.ptr s 0, .ptr σ.next 0, .int .i64 n, .ptr tp 0, .int .i64 i, .fz true a1 n (pis (unitL n i)), .int .i64 n, .int .i64 i, .int .i64 ((n - 1 - i : Nat) : Int), .int .i64 ((n - 1 - i : Nat) : Int), b0] ∧ LI (σ.new [.fz true .nils 0 [], .fz true .nils 0 [], .fz true .nils 0 []]) H h tp (S.next + 1) sP sC (.sl (S.next + 1) 0 n capO) capP capC n (List.replicate n p) pc ls rows2 Rs cur ∧ cur.map SR.x = lgR p n W B i (n - 1 - i)) (fun Q hQ => ?_) ?_
  rotate_left
  · as_aux_lemma =>
    rintro e h9 ⟨cur, b0, rfl, l, hcv⟩
    have hcl : cur.length = n - 1 - i := by have := congrArg List.length hcv; simpa [lgR] using this
    have l2 := l.close (fun q' hq' => by
      rw [hRl] at hq'
      obtain ⟨hj, hje⟩ := List.getElem?_eq_some_iff.1 hq'
      by_cases e : i + 1 = n
      · rw [s1 e] at hje; cases hje
      · obtain ⟨q2, e1, e2⟩ := s2 (by omega)
        rw [e1] at hje; cases hje; omega)
    simp only [pwA, if_true, if_false, eq_self, nm_eq, reduceCtorEq, ↓reduceIte, Nat.reduceEqDiff, Nat.reduceLeDiff, Nat.reduceBEq, Nat.reduceAdd, Nat.reduceLT, Nat.reduceSub, Nat.reduceMul, Int.reduceEq, Int.reduceLT, Int.reduceLE, Int.reduceNeg, Int.reduceToNat, List.reduceReplicate, Int.ofNat_le, List.getElem?_drop, wrapS hlt' (by omega : n ≤ 4611686018427387904)]
    refine ⟨_, by omega, i + 1, rows2, Rs ++ [cur], by omega, rfl, rfl, l2, hr2, by rw [List.length_append, hRl]; rfl, hv2, ?_⟩
    rw [List.map_append, hRv]
    unfold lgCs
    rw [List.range_succ, List.map_append]
    simp only [List.map_cons, List.map_nil, hcv]
  as_aux_lemma =>
  refine vp_loop (fun m us h => ∃ (k : Nat) (cur : List SR), k ≤ n - 1 - i ∧ m = n - 1 - i - k ∧ us = [.ptr s 0, .ptr σ.next 0, .int .i64 n, .ptr tp 0, .int .i64 i, .fz true a1 n (pis (unitL n i)), .int .i64 n, .int .i64 i, .int .i64 ((n - 1 - i : Nat) : Int), .int .i64 k] ∧ LI (σ.new [.fz true .nils 0 [], .fz true .nils 0 [], .fz true .nils 0 []]) H h tp (S.next + 1) sP sC (.sl (S.next + 1) 0 n capO) capP capC n (List.replicate n p) pc ls rows2 Rs cur ∧ cur.length = k ∧ cur.map SR.x = lgR p n W B i k) (n - 1 - i) ⟨0, [], by omega, by omega, rfl, a2, rfl, rfl⟩ ?_
  rintro m us h8 ⟨k, cur, hk8, rfl, rfl, l, hcl, hcv⟩
  obtain ⟨g2, gC, gp⟩ := lC l
  simp only [pwA, if_true, if_false, eq_self, nm_eq, reduceCtorEq, ↓reduceIte, Nat.reduceEqDiff, Nat.reduceLeDiff, Nat.reduceBEq, Nat.reduceAdd, Nat.reduceLT, Nat.reduceSub, Nat.reduceMul, Int.reduceEq, Int.reduceLT, Int.reduceLE, Int.reduceNeg, Int.reduceToNat, List.reduceReplicate, Int.ofNat_le, List.getElem?_drop]
  refine iteI (fun hltk => ?_) fun hgek => ?_
  rotate_left
  · have hke : k = n - 1 - i := by omega
    rw [hke] at hcv
    exact hQ _ _ ⟨cur, _, by rw [hke], l, hcv⟩
  have hkn : k < n - 1 - i := by omega
  obtain ⟨q0, e1, e2⟩ := s2 (by omega)
  have hj : i + (1 + k) < n := by omega
  have huj := unit_el (n := n) o.pr hj
  have ew1 : IntKind.i64.wrap ((i : Int) + 1) = ((i + 1 : Nat) : Int) := by rw [wrap64 (by omega) (by omega)]; omega
  have ew2 : IntKind.i64.wrap (((i + 1 : Nat) : Int) + (k : Int)) = ((i + (1 + k) : Nat) : Int) := by rw [wrap64 (by omega) (by omega)]; omega
  rw [e1] at gC
  have gC' : h8.rd1 sC i = some (.sl q0.s 0 q0.cs.length q0.cap) := gC
  simp only [pwA, if_true, if_false, eq_self, nm_eq, reduceCtorEq, ↓reduceIte, Nat.reduceEqDiff, Nat.reduceLeDiff, Nat.reduceBEq, Nat.reduceAdd, Nat.reduceLT, Nat.reduceSub, Nat.reduceMul, Int.reduceEq, Int.reduceLT, Int.reduceLE, Int.reduceNeg, Int.reduceToNat, List.reduceReplicate, Int.ofNat_le, List.getElem?_drop, g2, gC', hlt', ew1, ew2]
  have hsp8 := hsT.keep l.keep
  refine timesLie_FI o hsp8 hR0.P hu ⟨true, a1, by rw [hu.1]⟩ (k := -1) (by omega) fun v1 fv1 => ?_
  have hel1 : El p n (lmul p W (-1) (unitL n i)) := neg_el o hu
  have fv1' := fv1
  obtain ⟨w1, x1, rfl⟩ := fv1
  simp only [pwA, if_true, if_false, eq_self, nm_eq, reduceCtorEq, ↓reduceIte, Nat.reduceEqDiff, Nat.reduceLeDiff, Nat.reduceBEq, Nat.reduceAdd, Nat.reduceLT, Nat.reduceSub, Nat.reduceMul, Int.reduceEq, Int.reduceLT, Int.reduceLE, Int.reduceNeg, Int.reduceToNat, List.reduceReplicate, Int.ofNat_le, List.getElem?_drop, g2, gC', ew1, ew2]
  refine unitVector_fz (by omega) hj fun a2 => ?_
  have hnt : ¬ tp = h8.next := by have := (b.b tp (by simp)).2; have := l.nx; omega
  have hnC : ¬ sC = h8.next := by have := (b.b sC (by simp)).2; have := l.nx; omega
  have hn8 : ¬ s = h8.next := by have := hsp8.lt; omega
  simp only [pwA, if_true, if_false, eq_self, nm_eq, reduceCtorEq, ↓reduceIte, Nat.reduceEqDiff, Nat.reduceLeDiff, Nat.reduceBEq, Nat.reduceAdd, Nat.reduceLT, Nat.reduceSub, Nat.reduceMul, Int.reduceEq, Int.reduceLT, Int.reduceLE, Int.reduceNeg, Int.reduceToNat, List.reduceReplicate, Int.ofNat_le, List.getElem?_drop, g2, gC', hnt, hnC]
  have hrow : All2 FI [.fz w1 x1 (lmul p W (-1) (unitL n i)).length (pis (lmul p W (-1) (unitL n i))), .fz true a2 n (pis (unitL n (i + (1 + k)))), .fz true a1 n (pis (unitL n i))] [lmul p W (-1) (unitL n i), unitL n (i + (1 + k)), unitL n i] :=
    (((All2.nil _).snoc fv1').snoc ⟨true, a2, by rw [huj.1]⟩).snoc ⟨true, a1, by rw [hu.1]⟩
  refine PCalls.frz (s := h8.next) (by rw [pobj_new, if_pos rfl]) (hrow.bI 0) fun o2 => ?_
  simp only [sbs, Go.Ab.sb, capOK, and_self, if_true, decide_true, Nat.le_refl]
  have lk := l.keepI b (((Keep.refl h8).new [.fz w1 x1 (lmul p W (-1) (unitL n i)).length (pis (lmul p W (-1) (unitL n i))), .fz true a2 n (pis (unitL n (i + (1 + k)))), .fz true a1 n (pis (unitL n i))]).kill (Nat.le_refl _))
  generalize (h8.new [.fz w1 x1 (lmul p W (-1) (unitL n i)).length (pis (lmul p W (-1) (unitL n i))), .fz true a2 n (pis (unitL n (i + (1 + k)))), .fz true a1 n (pis (unitL n i))]).kill h8.next = h7 at *
  obtain ⟨k2, kC, kp⟩ := lC lk
  rw [e1] at kC
  have kC' : h7.rd1 sC i = some (.sl q0.s 0 q0.cs.length q0.cap) := kC
  have hsp7 := hsT.keep lk.keep
  have hels : Els p n [lmul p W (-1) (unitL n i), unitL n (i + (1 + k)), unitL n i] := fun y hy => by
    simp only [List.mem_cons, List.not_mem_nil, or_false] at hy
    rcases hy with rfl | rfl | rfl <;> assumption
  refine PCalls.fzI (fun K' h' => bchFold_ok z hsp7 hR0 ⟨true, _, _, rfl, hrow⟩ hels (by simp) h') fun a3 => ?_
  have hfe := fold_el o q hels
  simp only [pwA, if_true, if_false, eq_self, nm_eq, reduceCtorEq, ↓reduceIte, Nat.reduceEqDiff, Nat.reduceLeDiff, Nat.reduceBEq, Nat.reduceAdd, Nat.reduceLT, Nat.reduceSub, Nat.reduceMul, Int.reduceEq, Int.reduceLT, Int.reduceLE, Int.reduceNeg, Int.reduceToNat, List.reduceReplicate, Int.ofNat_le, List.getElem?_drop, k2, kC']
  refine lieToGroup_ok z hsp7 hR0 (x := conj p n W B (unitL n (i + (1 + k))) (unitL n i)) hfe ⟨true, a3, rfl⟩ fun cap2 hc2 => ?_
  have hxl : (vcG p n W B (conj p n W B (unitL n (i + (1 + k))) (unitL n i))).length = n := stG_len n
  have hxv : vcG p n W B (conj p n W B (unitL n (i + (1 + k))) (unitL n i)) = lgC p n W B i k := rfl
  rw [hxv] at hxl ⊢
  have hq0 : ls[Rs.length]? = some (some q0) := by rw [hRl, List.getElem?_eq_getElem (by omega), e1]
  obtain ⟨u1, l2⟩ := LI.putC b lk (x := lgC p n W B i k) (cap := cap2) (by rw [hxl]; exact hc2) hq0 (by omega)
  rw [hcl, hxl] at u1
  rw [hcl] at l2
  have lN := lk.keepI b (keep_new h7 (pis (lgC p n W B i k)))
  obtain ⟨j2, jC, jp⟩ := lC lN
  rw [e1] at jC
  have jC' : (h7.new (pis (lgC p n W B i k))).rd1 sC i = some (.sl q0.s 0 q0.cs.length q0.cap) := jC
  generalize h7.new (pis (lgC p n W B i k)) = hN at *
  have hcv2 : (cur ++ [(⟨h7.next, cap2, lgC p n W B i k⟩ : SR)]).map SR.x = lgR p n W B i (k + 1) := by
    rw [List.map_append, hcv]; unfold lgR; rw [List.range_succ, List.map_append]; rfl
  have hcl2 : (cur ++ [(⟨h7.next, cap2, lgC p n W B i k⟩ : SR)]).length = k + 1 := by rw [List.length_append, hcl]; rfl
  generalize cur ++ [(⟨h7.next, cap2, lgC p n W B i k⟩ : SR)] = cur2 at *
  generalize hN.set q0.s (cur2.map SR.pv ++ q0.cs.drop (k + 1)) = hE at *
  have hkq : k < q0.cs.length := by omega
  simp only [pwA, if_true, if_false, eq_self, nm_eq, reduceCtorEq, ↓reduceIte, Nat.reduceEqDiff, Nat.reduceLeDiff, Nat.reduceBEq, Nat.reduceAdd, Nat.reduceLT, Nat.reduceSub, Nat.reduceMul, Int.reduceEq, Int.reduceLT, Int.reduceLE, Int.reduceNeg, Int.reduceToNat, List.reduceReplicate, Int.ofNat_le, List.getElem?_drop, j2, jC', hkq, u1, wrapS hkn (by omega : n - 1 - i ≤ 4611686018427387904)]
  exact ⟨_, by omega, k + 1, cur2, by omega, rfl, rfl, l2, hcl2, hcv2⟩
end Go.Proofs
