/- Marks of presentations. -/
import Derived.Test.YtngdcibjjomfjaaGreatBP41
import Derived.Test.YtngdcibjjomfjaaGreatBP34
import Derived.Test.YtngdcibjjomfjaaGreatBP37
set_option linter.unusedSimpArgs false
set_option linter.unusedVariables false
namespace Go.Proofs
open Go.Ab Go.Lie
variable {σ H h : PHeap} {K : PV → PHeap → Prop} {n c : Nat} {p : Int} {W : List (List Int)} {B : List (List (List Int))} {vP vB : PV} {s : Nat}
theorem unitL_at_ {i j : Nat} (hi : i < n) : at_ (unitL n i) j = if j = i then 1 else 0 := by
  unfold unitL
  rw [at_set (by simp; exact hi), at_rep]
theorem p_unit (o : OkW p n W) {i : Nat} (hi : i < n) : lmul p W p (unitL n i) = W.getD i [] := by
  have hl := o.len
  have hiW : i < W.length := by omega
  obtain ⟨r1, r2, r3⟩ := o.row i hiW
  rw [getD_row hiW]
  obtain ⟨e1, e2⟩ := mul_eqv o (unit_el (n := n) o.pr hi) p
  refine eqv_unique o e1.1 r1 e1.2 r2 (e2.trans ?_)
  have h1 := ((Eqv.rel (p := p) (n := n) (W := W) hi).symm).add (Eqv.refl (fun j => p * at_ (unitL n i) j))
  refine ((Eqv.of_eq fun j => by omega).trans h1).trans (Eqv.of_eq fun j => ?_)
  rw [unitL_at_ hi]
  unfold rel w_
  rw [getD_row hiW]
  split <;> omega
structure ST (T h : PHeap) (p0 : Nat) (fs : List (PV × List PV)) (ls : List LS) : Prop where
  keep : Keep T h
  obj : h.obj p0 = some (fs.map Prod.fst)
  p0b : T.next ≤ p0 ∧ p0 < h.next
  acc : ∀ f, f ∈ fs → PSl T.next 1 h f.1 f.2.length f.2
  ne : ∀ f, f ∈ fs → ∀ off l c, f.1 ≠ .sl p0 off l c
  dis : ∀ (i j : Nat) f g, fs[i]? = some f → fs[j]? = some g → i ≠ j → ∀ s off l c, f.1 = .sl s off l c → ∀ off l c, g.1 ≠ .sl s off l c
  lok : ∀ q, q ∈ ls → q.ok h T.next
  lne : ∀ q, q ∈ ls → q.s ≠ p0 ∧ ∀ f, f ∈ fs → ∀ off l c, f.1 ≠ .sl q.s off l c
variable {T : PHeap} {p0 : Nat} {fs : List (PV × List PV)} {ls : List LS}
theorem psl_move {b e m : Nat} {h h2 : PHeap} {v : PV} {cs : List PV} (a : PSl b e h v m cs) (ho : ∀ s off l c, v = .sl s off l c → h2.obj s = h.obj s) (hn : h.next ≤ h2.next) : PSl b e h2 v m cs := by
  obtain ⟨s, cap, rfl, h1, h2', h3, h4, h5⟩ := a
  exact ⟨s, cap, rfl, h1, by rw [ho s 0 _ cap rfl]; exact h2', h3, h4, Nat.lt_of_lt_of_le h5 hn⟩
theorem psl_lt {b e m : Nat} {h : PHeap} {v : PV} {cs : List PV} (a : PSl b e h v m cs) {s off l : Nat} {c : Cap} (hv : v = .sl s off l c) : s < h.next := pacc_lt a.acc hv
theorem ST.keepI {h2 : PHeap} (a : ST T h p0 fs ls) (k : Keep h h2) : ST T h2 p0 fs ls :=
  ⟨a.keep.trans k, by rw [k.obj _ a.p0b.2]; exact a.obj, ⟨a.p0b.1, Nat.lt_of_lt_of_le a.p0b.2 k.next⟩, fun f hf => (a.acc f hf).keep k, a.ne, a.dis, fun q hq => (a.lok q hq).move (k.obj _ (a.lok q hq).2.2.2) k.next, a.lne⟩
theorem ST.more {q : LS} (a : ST T h p0 fs ls) (h1 : q.ok h T.next) (h2 : q.s ≠ p0 ∧ ∀ f, f ∈ fs → ∀ off l c, f.1 ≠ .sl q.s off l c) : ST T h p0 fs (ls ++ [q]) :=
  ⟨a.keep, a.obj, a.p0b, a.acc, a.ne, a.dis, fun q' hq => (List.mem_append.1 hq).elim (a.lok q') fun e => by rw [List.mem_singleton.1 e]; exact h1, fun q' hq => (List.mem_append.1 hq).elim (a.lne q') fun e => by rw [List.mem_singleton.1 e]; exact h2⟩
theorem ST.push {K : PV × PHeap → Prop} {bytes j : Nat} {v x : PV} {cs : List PV} (a : ST T h p0 fs ls) (hj : fs[j]? = some (v, cs)) (hb : cs.length ≤ 1000) (hby : bytes ≤ 24) (hone : ∀ f, f ∈ fs → f.1.one = true)
    (k : ∀ v' h2, v'.one = true → v'.cells = [v'] → h2.wr p0 j [v'] = some (h2.set p0 ((fs.set j (v', cs ++ [x])).map Prod.fst)) → ST T (h2.set p0 ((fs.set j (v', cs ++ [x])).map Prod.fst)) p0 (fs.set j (v', cs ++ [x])) ls → K (v', h2)) :
    optK (pappend 1 bytes (h.new [x]) v (.sl h.next 0 1 (.known 1))) K := by
  have hm : (v, cs) ∈ fs := List.mem_of_getElem? hj
  obtain ⟨hjl, hje⟩ := List.getElem?_eq_some_iff.1 hj
  have hb2 : (cs.length + 1) * bytes ≤ 1001 * 24 := Nat.mul_le_mul (by omega) hby
  refine PAcc.pushS (σb := T) (bytes := bytes) a.keep (a.acc _ hm).acc rfl (by show (cs.length + 1) * bytes ≤ _; omega) (by show cs.length + 1 ≤ _; omega) fun v' h2 k2 a2 o2 n2 l2 => ?_
  have hp := a.p0b
  have hob : h2.obj p0 = some (fs.map Prod.fst) := by rw [o2 _ hp.2 (a.ne _ hm)]; exact a.obj
  have hset : (fs.set j (v', cs ++ [x])).map Prod.fst = (fs.map Prod.fst).set j v' := by rw [List.map_set]
  have hmem : ∀ f, f ∈ fs.set j (v', cs ++ [x]) → f = (v', cs ++ [x]) ∨ ∃ i, i ≠ j ∧ fs[i]? = some f := fun f hf => by
    obtain ⟨i, hi⟩ := List.getElem?_of_mem hf
    rw [List.getElem?_set] at hi
    split at hi
    · first
      | (cases hi; exact .inl rfl)
      | (split at hi
         · cases hi; exact .inl rfl
         · cases hi)
    · rename_i e; exact .inr ⟨i, fun e2 => e e2.symm, hi⟩
  refine k v' h2 a2.one a2.cells ?_ ⟨k2.set hp.1 _, by rw [pobj_set, if_pos rfl], ⟨hp.1, by show p0 < h2.next; omega⟩, fun f hf => ?_, fun f hf => ?_, fun i1 i2 f g hf hg hne s off l c e => ?_, fun q hq => ?_, fun q hq => ⟨(a.lne q hq).1, fun f hf => ?_⟩⟩
  · rw [obj_wr hob, if_pos ⟨by rw [List.length_map, List.length_singleton]; omega, by simp only [List.all_cons, List.all_nil, a2.one]; rfl⟩, hset]
    congr 2
    rw [List.append_assoc, List.singleton_append, List.length_singleton, take_set _ (by rw [List.length_map]; exact hjl)]
  · rcases hmem f hf with rfl | ⟨i, hi, he⟩
    · have a3 : PSl T.next 1 (h2.set p0 ((fs.set j (v', cs ++ [x])).map Prod.fst)) v' (cs.length + 1) (cs ++ [x]) := psl_move a2 (fun s off l c e => by rw [pobj_set, if_neg fun e2 => n2 p0 hp.2 off l c (by rw [e, e2])]) (Nat.le_refl _)
      simpa using a3
    · have hfm := List.mem_of_getElem? he
      refine psl_move (a.acc f hfm) (fun s off l c e => ?_) (Nat.le_of_lt l2)
      rw [pobj_set, if_neg fun e2 => a.ne f hfm off l c (by rw [e, e2]), o2 s (psl_lt (a.acc f hfm) e) (a.dis i j f _ he hj hi s off l c e)]
  · rcases hmem f hf with rfl | ⟨i, hi, he⟩
    · exact n2 p0 hp.2
    · exact a.ne f (List.mem_of_getElem? he)
  · rw [List.getElem?_set] at hf hg
    by_cases e1 : j = i1
    · rw [if_pos e1, if_pos hjl] at hf
      cases hf
      rw [if_neg fun e2 => hne (e1.symm.trans e2)] at hg
      have hgm := List.mem_of_getElem? hg
      intro off' l' c' e'
      exact n2 s (psl_lt (a.acc g hgm) e') off l c e
    · rw [if_neg e1] at hf
      have hfm := List.mem_of_getElem? hf
      by_cases e2 : j = i2
      · rw [if_pos e2, if_pos hjl] at hg
        cases hg
        exact n2 s (psl_lt (a.acc f hfm) e)
      · rw [if_neg e2] at hg
        exact a.dis i1 i2 f g hf hg hne s off l c e
  · have hq' := a.lok q hq
    refine hq'.move ?_ (Nat.le_of_lt l2)
    rw [pobj_set, if_neg (a.lne q hq).1, o2 _ hq'.2.2.2 ((a.lne q hq).2 _ hm)]
  · rcases hmem f hf with rfl | ⟨i, hi, he⟩
    · exact n2 _ (a.lok q hq).2.2.2
    · exact (a.lne q hq).2 f (List.mem_of_getElem? he)
theorem leafs_pvs : ∀ cs : List PV, TR.pvs (cs.map TR.leaf) = cs
  | [] => rfl
  | c :: cs => by simp only [List.map_cons, TR.pvs, TR.pv, leafs_pvs cs]
theorem leafs_fzs {a : Nat → Nat} : ∀ cs : List PV, TR.fzs a (cs.map TR.leaf) = cs
  | [] => rfl
  | c :: cs => by simp only [List.map_cons, TR.fzs, TR.fz, leafs_fzs cs]
theorem leafs_okF {b : Nat} : ∀ {cs : List PV}, Bels 0 cs → TR.okFs h b (cs.map TR.leaf)
  | [], _ => trivial
  | c :: cs, hb => ⟨hb.1, leafs_okF hb.2⟩
def LS.tr (q : LS) : TR := .lst q.s q.cap (q.cs.map TR.leaf)
theorem LS.tr_pvs : ∀ ls : List LS, TR.pvs (ls.map LS.tr) = ls.map LS.pv
  | [] => rfl
  | q :: ls => by simp only [List.map_cons, TR.pvs, LS.tr_pvs ls]; simp only [LS.tr, TR.pv, List.length_map, LS.pv]
theorem LS.tr_okF {b : Nat} {q : LS} (h1 : q.ok h b) (h2 : Bels 0 q.cs) : (LS.tr q).okF h b := ⟨⟨by rw [List.length_map]; exact h1.1, by rw [leafs_pvs]; exact h1.2.1, h1.2.2.1, h1.2.2.2⟩, leafs_okF h2⟩
theorem LS.trs_okF {b : Nat} : ∀ {ls : List LS}, (∀ q, q ∈ ls → q.ok h b ∧ Bels 0 q.cs) → TR.okFs h b (ls.map LS.tr)
  | [], _ => trivial
  | q :: ls, k => ⟨LS.tr_okF (k q (List.mem_cons_self ..)).1 (k q (List.mem_cons_self ..)).2, LS.trs_okF fun q' hq => k q' (List.mem_cons_of_mem _ hq)⟩
def RowsOf (ls : List LS) (Ms : List (List (List Int))) : Prop := All2 (fun (q : LS) (R : List (List Int)) => All2 FI q.cs R) ls Ms
theorem rowsOf_all2 {a : Nat → Nat} {ls : List LS} {Ms : List (List (List Int))} (k : RowsOf ls Ms) : All2 FII (TR.fzs a (ls.map LS.tr)) Ms := by
  have hl : ∀ ls : List LS, (TR.fzs a (ls.map LS.tr)).length = ls.length := fun ls => by rw [TR.fzs_length, List.length_map]
  have hg : ∀ (ls : List LS) (i : Nat), (TR.fzs a (ls.map LS.tr))[i]? = ls[i]?.map fun q => (LS.tr q).fz a := by
    intro ls
    induction ls with
    | nil => intro i; simp [TR.fzs]
    | cons q ls ih =>
      intro i
      cases i with
      | zero => simp [TR.fzs]
      | succ i => simpa [TR.fzs] using ih i
  refine ⟨by rw [hl]; exact k.1, fun i c R hc hR => ?_⟩
  rw [hg] at hc
  obtain ⟨q, hq, rfl⟩ := Option.map_eq_some_iff.1 hc
  have h2 := k.2 i q R hq hR
  exact ⟨true, .sl (a q.s) 0 q.cs.length q.cap, q.cs, by simp only [LS.tr, TR.fz, leafs_fzs, List.length_map]; rw [h2.1], h2⟩
theorem l34Group_ok (z : Lz p n W B c) (hR : IsR vP vB W B) (hk : ∀ vO vQ vC, FI vO (List.replicate n p) → FII vQ (lgPs p n W B n) → FIII vC (lgCs p n W B n) → K (.agg [vO, vQ, vC]) σ) : PCalls Tryz.prog 32 [.agg [.int .i64 p, vP, vB]] σ K := by
  have o := z.r.o
  have q := z.r.q
  have hn6 := o.le
  have hWl := o.len
  have hpb := z.hp.bd
  have hR0 := hR
  have hB1 := hR.B.one
  obtain ⟨⟨wp, ap, rp, rfl, hrp⟩, hB⟩ := hR
  refine PCalls.gh ?_
  generalize hT : (σ.new [.int .i64 p, .fz wp ap W.length rp, vB]).new [.fz true .nils 0 [], .fz true .nils 0 [], .fz true .nils 0 []] = T
  have hTn : T.next = σ.next + 2 := by rw [← hT]; rfl
  have hkT : Keep σ T := by rw [← hT]; exact (keep_new σ _).new _
  have ld : ∀ {g : PHeap}, Keep T g → g.rd σ.next 0 3 = some [.int .i64 p, .fz wp ap W.length rp, vB] ∧ g.rd1 σ.next 0 = some (.int .i64 p) ∧ g.rd1 σ.next 1 = some (.fz wp ap W.length rp) := fun {g} k => by
    have ob : g.obj σ.next = some [.int .i64 p, .fz wp ap W.length rp, vB] := by rw [k.obj _ (by omega), ← hT]; simp only [pwA, if_true, if_false, eq_self, nm_eq, reduceCtorEq, ↓reduceIte, Nat.reduceEqDiff, Nat.reduceLeDiff, Nat.reduceBEq, Nat.reduceAdd, Nat.reduceLT, Nat.reduceSub, Nat.reduceMul, Int.reduceEq, Int.reduceLT, Int.reduceLE, Int.reduceNeg, Int.reduceToNat, List.reduceReplicate, Int.ofNat_le, List.getElem?_drop]
    exact ⟨by rw [obj_rd ob]; rfl, by rw [obj_rd1 ob]; rfl, by rw [obj_rd1 ob]; rfl⟩
  have hO3 : ∀ {g : PHeap} {u0 u1 u2 : PV}, Keep T g → u0.one = true → u1.one = true → u2.one = true → g.wr (σ.next + 1) 0 [u0, u1, u2] = some (g.set (σ.next + 1) [u0, u1, u2]) ∧ (g.set (σ.next + 1) [u0, u1, u2]).rd (σ.next + 1) 0 3 = some [u0, u1, u2] := fun {g u0 u1 u2} k z0 z1 z2 => by
    have hres : g.obj (σ.next + 1) = some [.fz true .nils 0 [], .fz true .nils 0 [], .fz true .nils 0 []] := by rw [k.obj _ (by omega), ← hT]; simp only [pwA, if_true, if_false, eq_self, nm_eq, reduceCtorEq, ↓reduceIte, Nat.reduceEqDiff, Nat.reduceLeDiff, Nat.reduceBEq, Nat.reduceAdd, Nat.reduceLT, Nat.reduceSub, Nat.reduceMul, Int.reduceEq, Int.reduceLT, Int.reduceLE, Int.reduceNeg, Int.reduceToNat, List.reduceReplicate, Int.ofNat_le, List.getElem?_drop]
    exact ⟨by rw [obj_wr hres, if_pos ⟨by simp, by simp only [List.all_cons, List.all_nil, z0, z1, z2]; rfl⟩]; rfl, by rw [prd_set, if_pos rfl]; rfl⟩
  obtain ⟨l3, l0, l1⟩ := ld (Keep.refl T)
  refine pcalls_of_vp mix Tryz.func32 cf32 rfl ?_
  dsimp only [if32, qI, eI, nI, qD, eD]
  simp only [pwA, if_true, if_false, eq_self, nm_eq, reduceCtorEq, ↓reduceIte, Nat.reduceEqDiff, Nat.reduceLeDiff, Nat.reduceBEq, Nat.reduceAdd, Nat.reduceLT, Nat.reduceSub, Nat.reduceMul, Int.reduceEq, Int.reduceLT, Int.reduceLE, Int.reduceNeg, Int.reduceToNat, List.reduceReplicate, Int.ofNat_le, List.getElem?_drop, hB1]
  rw [hT]
  simp only [pwA, if_true, if_false, eq_self, nm_eq, reduceCtorEq, ↓reduceIte, Nat.reduceEqDiff, Nat.reduceLeDiff, Nat.reduceBEq, Nat.reduceAdd, Nat.reduceLT, Nat.reduceSub, Nat.reduceMul, Int.reduceEq, Int.reduceLT, Int.reduceLE, Int.reduceNeg, Int.reduceToNat, List.reduceReplicate, Int.ofNat_le, List.getElem?_drop, l1, hWl]
  refine vp_loop (fun m us h => ∃ (i : Nat) (vO vP vC : PV) (cO cP cC : List PV) (ls : List LS), i ≤ n ∧ m = n - i ∧ us = [.ptr σ.next 0, .ptr (σ.next + 1) 0, .int .i64 n, .ptr (σ.next + 5) 0, .int .i64 i] ∧ ST T h (σ.next + 5) [(vO, cO), (vP, cP), (vC, cC)] ls ∧ cO = pis (List.replicate i p) ∧ All2 FI cP (lgPs p n W B i) ∧ cC = ls.map LS.pv ∧ RowsOf ls (lgCs p n W B i)) n ?_ ?_
  · refine ⟨0, .sl (σ.next + 2) 0 0 (.known 0), .sl (σ.next + 3) 0 0 (.known 0), .sl (σ.next + 4) 0 0 (.known 0), [], [], [], [], by omega, by omega, rfl, ⟨(((keep_new T _).new _).new _).new _, by simp only [pwA, if_true, if_false, eq_self, nm_eq, reduceCtorEq, ↓reduceIte, Nat.reduceEqDiff, Nat.reduceLeDiff, Nat.reduceBEq, Nat.reduceAdd, Nat.reduceLT, Nat.reduceSub, Nat.reduceMul, Int.reduceEq, Int.reduceLT, Int.reduceLE, Int.reduceNeg, Int.reduceToNat, List.reduceReplicate, Int.ofNat_le, List.getElem?_drop, hTn], ⟨by omega, by first | (simp only [pwA, if_true, if_false, eq_self, nm_eq, reduceCtorEq, ↓reduceIte, Nat.reduceEqDiff, Nat.reduceLeDiff, Nat.reduceBEq, Nat.reduceAdd, Nat.reduceLT, Nat.reduceSub, Nat.reduceMul, Int.reduceEq, Int.reduceLT, Int.reduceLE, Int.reduceNeg, Int.reduceToNat, List.reduceReplicate, Int.ofNat_le, List.getElem?_drop, hTn]; done) | (simp only [pwA, if_true, if_false, eq_self, nm_eq, reduceCtorEq, ↓reduceIte, Nat.reduceEqDiff, Nat.reduceLeDiff, Nat.reduceBEq, Nat.reduceAdd, Nat.reduceLT, Nat.reduceSub, Nat.reduceMul, Int.reduceEq, Int.reduceLT, Int.reduceLE, Int.reduceNeg, Int.reduceToNat, List.reduceReplicate, Int.ofNat_le, List.getElem?_drop, hTn]; omega)⟩, fun f hf => ?_, fun f hf off l c e => ?_, fun i j f g hf hg hne s off l c e off' l' c' e' => ?_, fun q hq => (by cases hq), fun q hq => (by cases hq)⟩, rfl, All2.nil _, rfl, All2.nil _⟩
    · simp only [List.mem_cons, List.not_mem_nil, or_false] at hf
      rcases hf with rfl | rfl | rfl
      · exact PSl.own (.inr rfl) (by simp only [pwA, if_true, if_false, eq_self, nm_eq, reduceCtorEq, ↓reduceIte, Nat.reduceEqDiff, Nat.reduceLeDiff, Nat.reduceBEq, Nat.reduceAdd, Nat.reduceLT, Nat.reduceSub, Nat.reduceMul, Int.reduceEq, Int.reduceLT, Int.reduceLE, Int.reduceNeg, Int.reduceToNat, List.reduceReplicate, Int.ofNat_le, List.getElem?_drop, hTn]) rfl (by omega) (by first | (simp only [pwA, if_true, if_false, eq_self, nm_eq, reduceCtorEq, ↓reduceIte, Nat.reduceEqDiff, Nat.reduceLeDiff, Nat.reduceBEq, Nat.reduceAdd, Nat.reduceLT, Nat.reduceSub, Nat.reduceMul, Int.reduceEq, Int.reduceLT, Int.reduceLE, Int.reduceNeg, Int.reduceToNat, List.reduceReplicate, Int.ofNat_le, List.getElem?_drop, hTn]; done) | (simp only [pwA, if_true, if_false, eq_self, nm_eq, reduceCtorEq, ↓reduceIte, Nat.reduceEqDiff, Nat.reduceLeDiff, Nat.reduceBEq, Nat.reduceAdd, Nat.reduceLT, Nat.reduceSub, Nat.reduceMul, Int.reduceEq, Int.reduceLT, Int.reduceLE, Int.reduceNeg, Int.reduceToNat, List.reduceReplicate, Int.ofNat_le, List.getElem?_drop, hTn]; omega))
      · exact PSl.own (.inr rfl) (by simp only [pwA, if_true, if_false, eq_self, nm_eq, reduceCtorEq, ↓reduceIte, Nat.reduceEqDiff, Nat.reduceLeDiff, Nat.reduceBEq, Nat.reduceAdd, Nat.reduceLT, Nat.reduceSub, Nat.reduceMul, Int.reduceEq, Int.reduceLT, Int.reduceLE, Int.reduceNeg, Int.reduceToNat, List.reduceReplicate, Int.ofNat_le, List.getElem?_drop, hTn]) rfl (by omega) (by first | (simp only [pwA, if_true, if_false, eq_self, nm_eq, reduceCtorEq, ↓reduceIte, Nat.reduceEqDiff, Nat.reduceLeDiff, Nat.reduceBEq, Nat.reduceAdd, Nat.reduceLT, Nat.reduceSub, Nat.reduceMul, Int.reduceEq, Int.reduceLT, Int.reduceLE, Int.reduceNeg, Int.reduceToNat, List.reduceReplicate, Int.ofNat_le, List.getElem?_drop, hTn]; done) | (simp only [pwA, if_true, if_false, eq_self, nm_eq, reduceCtorEq, ↓reduceIte, Nat.reduceEqDiff, Nat.reduceLeDiff, Nat.reduceBEq, Nat.reduceAdd, Nat.reduceLT, Nat.reduceSub, Nat.reduceMul, Int.reduceEq, Int.reduceLT, Int.reduceLE, Int.reduceNeg, Int.reduceToNat, List.reduceReplicate, Int.ofNat_le, List.getElem?_drop, hTn]; omega))
      · exact PSl.own (.inr rfl) (by simp only [pwA, if_true, if_false, eq_self, nm_eq, reduceCtorEq, ↓reduceIte, Nat.reduceEqDiff, Nat.reduceLeDiff, Nat.reduceBEq, Nat.reduceAdd, Nat.reduceLT, Nat.reduceSub, Nat.reduceMul, Int.reduceEq, Int.reduceLT, Int.reduceLE, Int.reduceNeg, Int.reduceToNat, List.reduceReplicate, Int.ofNat_le, List.getElem?_drop, hTn]) rfl (by omega) (by first | (simp only [pwA, if_true, if_false, eq_self, nm_eq, reduceCtorEq, ↓reduceIte, Nat.reduceEqDiff, Nat.reduceLeDiff, Nat.reduceBEq, Nat.reduceAdd, Nat.reduceLT, Nat.reduceSub, Nat.reduceMul, Int.reduceEq, Int.reduceLT, Int.reduceLE, Int.reduceNeg, Int.reduceToNat, List.reduceReplicate, Int.ofNat_le, List.getElem?_drop, hTn]; done) | (simp only [pwA, if_true, if_false, eq_self, nm_eq, reduceCtorEq, ↓reduceIte, Nat.reduceEqDiff, Nat.reduceLeDiff, Nat.reduceBEq, Nat.reduceAdd, Nat.reduceLT, Nat.reduceSub, Nat.reduceMul, Int.reduceEq, Int.reduceLT, Int.reduceLE, Int.reduceNeg, Int.reduceToNat, List.reduceReplicate, Int.ofNat_le, List.getElem?_drop, hTn]; omega))
    · simp only [List.mem_cons, List.not_mem_nil, or_false] at hf
      rcases hf with rfl | rfl | rfl <;> (simp only [PV.sl.injEq] at e; omega)
    · match i, j with
      | 0, 0 => exact hne rfl
      | 1, 1 => exact hne rfl
      | 2, 2 => exact hne rfl
      | 0, 1 | 0, 2 | 1, 0 | 1, 2 | 2, 0 | 2, 1 => cases hf; cases hg; simp only [PV.sl.injEq] at e e'; omega
      | i + 3, _ => simp at hf
      | 0, j + 3 | 1, j + 3 | 2, j + 3 => simp at hg
  as_aux_lemma =>
  rintro m us h ⟨i, vO, vP, vC, cO, cP, cC, ls, hi, rfl, rfl, a, hcO, hcP, hcC, hcR⟩
  obtain ⟨l3, l0, l1⟩ := ld a.keep
  have aO := a.acc (vO, cO) (by simp)
  have aP := a.acc (vP, cP) (by simp)
  have aC := a.acc (vC, cC) (by simp)
  have f0 : h.rd1 (σ.next + 5) 0 = some vO := by rw [obj_rd1 a.obj]; rfl
  have f3 : h.rd (σ.next + 5) 0 3 = some [vO, vP, vC] := by rw [obj_rd a.obj]; rfl
  simp only [pwA, if_true, if_false, eq_self, nm_eq, reduceCtorEq, ↓reduceIte, Nat.reduceEqDiff, Nat.reduceLeDiff, Nat.reduceBEq, Nat.reduceAdd, Nat.reduceLT, Nat.reduceSub, Nat.reduceMul, Int.reduceEq, Int.reduceLT, Int.reduceLE, Int.reduceNeg, Int.reduceToNat, List.reduceReplicate, Int.ofNat_le, List.getElem?_drop]
  refine iteI (fun hlt => ?_) fun hge => ?_
  rotate_left
  · as_aux_lemma =>
    have hie : i = n := by omega
    subst hie
    obtain ⟨g1, g2⟩ := hO3 a.keep aO.one aP.one aC.one
    simp only [pwA, if_true, if_false, eq_self, nm_eq, reduceCtorEq, ↓reduceIte, Nat.reduceEqDiff, Nat.reduceLeDiff, Nat.reduceBEq, Nat.reduceAdd, Nat.reduceLT, Nat.reduceSub, Nat.reduceMul, Int.reduceEq, Int.reduceLT, Int.reduceLE, Int.reduceNeg, Int.reduceToNat, List.reduceReplicate, Int.ofNat_le, List.getElem?_drop, f3, g1, g2]
    obtain ⟨sO, capO, e1, o1, o2, o3, o4, o5⟩ := aO
    obtain ⟨sP, capP, e2, q1, q2, q3, q4, q5⟩ := aP
    obtain ⟨sC, capC, e3, r1, r2, r3, r4, r5⟩ := aC
    dsimp only at e1 o1 o2 o3 e2 q1 q2 q3 e3 r1 r2 r3
    subst e1 e2 e3
    have et : (TR.agg [.lst sO capO (cO.map TR.leaf), .lst sP capP (cP.map TR.leaf), .lst sC capC (ls.map LS.tr)]).pv = .agg [.sl sO 0 cO.length capO, .sl sP 0 cP.length capP, .sl sC 0 cC.length capC] := by
      simp only [TR.pv, TR.pvs, List.length_map]; rw [hcC, List.length_map]
    rw [← et]
    have ob : ∀ s, T.next ≤ s → (h.set (σ.next + 1) [.sl sO 0 cO.length capO, .sl sP 0 cP.length capP, .sl sC 0 cC.length capC]).obj s = h.obj s := fun s hs => by rw [pobj_set, if_neg (by omega)]
    refine Gh.treeF ((hkT.trans a.keep).set (by omega) _) ⟨⟨⟨by rw [List.length_map]; exact o1, by rw [ob _ o4, leafs_pvs]; exact o2, by omega, o5⟩, leafs_okF (by rw [hcO]; exact pis_bel _ _)⟩, ⟨⟨by rw [List.length_map]; exact q1, by rw [ob _ q4, leafs_pvs]; exact q2, by omega, q5⟩, leafs_okF (hcP.bI 0)⟩, ⟨⟨by rw [List.length_map]; rw [hcC, List.length_map] at r1; exact r1, by rw [ob _ r4, LS.tr_pvs, ← hcC]; exact r2, by omega, r5⟩, LS.trs_okF fun q hq => ?_⟩, trivial⟩ fun aa => hk _ _ _ ⟨true, .sl (aa sO) 0 cO.length capO, ?_⟩ ⟨true, .sl (aa sP) 0 cP.length capP, cP, ?_, hcP⟩ ⟨true, .sl (aa sC) 0 ls.length capC, TR.fzs aa (ls.map LS.tr), ?_, rowsOf_all2 hcR⟩
    · obtain ⟨g1, g2, g3, g4⟩ := a.lok q hq
      refine ⟨⟨g1, by rw [ob _ g3]; exact g2, by omega, g4⟩, ?_⟩
      obtain ⟨k, hk9, rfl⟩ := List.mem_iff_getElem.1 hq
      exact (hcR.2 k _ _ (List.getElem?_eq_getElem hk9) (List.getElem?_eq_getElem (by rw [← hcR.1]; exact hk9))).bI 0
    · simp only [TR.fz, leafs_fzs, List.length_map]; rw [hcO]; simp [pis_length]
    · simp only [TR.fz, leafs_fzs, List.length_map]; rw [hcP.1]
    · simp only [TR.fz, List.length_map]; rw [hcR.1]
  have hlt' : i < n := by omega
  have hiW : i < W.length := by omega
  have hone : ∀ f, f ∈ [(vO, cO), (vP, cP), (vC, cC)] → f.1.one = true := fun f hf => (a.acc f hf).one
  have hcOl : cO.length = i := by rw [hcO]; simp [pis_length]
  have hcPl : cP.length = i := by rw [hcP.1]; simp [lgPs]
  have hcCl : cC.length = i := by rw [hcC, List.length_map, hcR.1]; simp [lgCs]
  simp only [pwA, if_true, if_false, eq_self, nm_eq, reduceCtorEq, ↓reduceIte, Nat.reduceEqDiff, Nat.reduceLeDiff, Nat.reduceBEq, Nat.reduceAdd, Nat.reduceLT, Nat.reduceSub, Nat.reduceMul, Int.reduceEq, Int.reduceLT, Int.reduceLE, Int.reduceNeg, Int.reduceToNat, List.reduceReplicate, Int.ofNat_le, List.getElem?_drop, f0, l0]
  refine ST.push a (j := 0) (bytes := 8) rfl (by omega) (by omega) hone fun v1 h1 z1 z2 z3 a1 => ?_
  simp only [List.set_cons_zero, List.map_cons, List.map_nil] at z3 a1
  generalize h1.set (σ.next + 5) [v1, vP, vC] = h2 at *
  obtain ⟨l3, l0, l1⟩ := ld a1.keep
  have f1 : h2.rd1 (σ.next + 5) 1 = some vP := by rw [obj_rd1 a1.obj]; rfl
  obtain ⟨w4, a4, hr4⟩ := hrp.rowI hiW
  simp only [pwA, if_true, if_false, eq_self, nm_eq, reduceCtorEq, ↓reduceIte, Nat.reduceEqDiff, Nat.reduceLeDiff, Nat.reduceBEq, Nat.reduceAdd, Nat.reduceLT, Nat.reduceSub, Nat.reduceMul, Int.reduceEq, Int.reduceLT, Int.reduceLE, Int.reduceNeg, Int.reduceToNat, List.reduceReplicate, Int.ofNat_le, List.getElem?_drop, z1, z2, z3, l3, l1, f1, hiW, hr4]
  obtain ⟨wr1, wr2, wr3⟩ := o.row i hiW
  refine l34Vector_ok z hR0 (x := W[i]) ⟨wr1, wr2⟩ ⟨w4, a4, rfl⟩ fun v2 hv2 => ?_
  have hv2' : FI v2 (lgP p n W B i) := by unfold lgP; rw [p_unit o hlt', getD_row hiW]; exact hv2
  have y1 := hv2'.one
  have y2 := hv2'.cells
  have hn5 : ¬ σ.next + 5 = h2.next := by have := a1.p0b.2; omega
  simp only [pwA, if_true, if_false, eq_self, nm_eq, reduceCtorEq, ↓reduceIte, Nat.reduceEqDiff, Nat.reduceLeDiff, Nat.reduceBEq, Nat.reduceAdd, Nat.reduceLT, Nat.reduceSub, Nat.reduceMul, Int.reduceEq, Int.reduceLT, Int.reduceLE, Int.reduceNeg, Int.reduceToNat, List.reduceReplicate, Int.ofNat_le, List.getElem?_drop, y1, y2, f1, hn5]
  have hone1 : ∀ f, f ∈ [(v1, cO ++ [.int .i64 p]), (vP, cP), (vC, cC)] → f.1.one = true := fun f hf => (a1.acc f hf).one
  refine ST.push a1 (j := 1) (bytes := 24) rfl (by omega) (by omega) hone1 fun v3 h3 z4 z5 z6 a3 => ?_
  simp only [List.set_cons_zero, List.set_cons_succ, List.map_cons, List.map_nil] at z6 a3
  generalize h3.set (σ.next + 5) [v1, v3, vC] = h4 at *
  have wi1 : IntKind.i64.wrap ((i : Int) + 1) = ((i + 1 : Nat) : Int) := wrapS hlt' (by omega)
  simp only [pwA, if_true, if_false, eq_self, nm_eq, reduceCtorEq, ↓reduceIte, Nat.reduceEqDiff, Nat.reduceLeDiff, Nat.reduceBEq, Nat.reduceAdd, Nat.reduceLT, Nat.reduceSub, Nat.reduceMul, Int.reduceEq, Int.reduceLT, Int.reduceLE, Int.reduceNeg, Int.reduceToNat, List.reduceReplicate, Int.ofNat_le, List.getElem?_drop, z4, z5, z6, wi1]
  clear z1 z2 z3 z4 z5 z6 f0 f1 f3 l3 l0 l1 y1 y2
  refine vp_abs 2 (fun e h => ∃ (vR : PV) (cells : List PV) (b0 : PV), e = PEnv.mk [1, 2, 3, 4, 5, 6, 7, 44] [.ptr σ.next 0, .ptr (σ.next + 1) 0, .int .i64 n, .ptr (σ.next + 5) 0, .int .i64 i, vR, .int .i64 n, b0] ∧ Keep h4 h ∧ PSl h4.next 1 h vR (n - 1 - i) cells ∧ All2 FI cells (lgR p n W B i (n - 1 - i))) (fun Q hQ => ?_) ?_
  rotate_left
  · as_aux_lemma =>
    rintro e h9 ⟨vR, cells, b0, rfl, k9, p9, hcl⟩
    have a9 := a3.keepI k9
    obtain ⟨t, cap, rfl, hf, q2, q3, q4, q5⟩ := p9
    have f2 : h9.rd1 (σ.next + 5) 2 = some vC := by rw [obj_rd1 a9.obj]; rfl
    have hn9 : ¬ σ.next + 5 = h9.next := by have := a9.p0b.2; omega
    have hone3 : ∀ f, f ∈ [(v1, cO ++ [.int .i64 p]), (v3, cP ++ [v2]), (vC, cC)] → f.1.one = true := fun f hf => (a9.acc f hf).one
    have hct : cells.length = n - 1 - i := by omega
    have a10 := ST.more (q := ⟨t, cap, cells⟩) a9 ⟨by rw [hct]; exact hf, q2, by have := a3.keep.next; show T.next ≤ t; omega, q5⟩ ⟨by have := a3.p0b.2; show t ≠ σ.next + 5; omega, fun f hf off l c e => by
      have := psl_lt (a3.acc f hf) e
      have : t < h4.next := this
      omega⟩
    simp only [pwA, if_true, if_false, eq_self, nm_eq, reduceCtorEq, ↓reduceIte, Nat.reduceEqDiff, Nat.reduceLeDiff, Nat.reduceBEq, Nat.reduceAdd, Nat.reduceLT, Nat.reduceSub, Nat.reduceMul, Int.reduceEq, Int.reduceLT, Int.reduceLE, Int.reduceNeg, Int.reduceToNat, List.reduceReplicate, Int.ofNat_le, List.getElem?_drop, f2, hn9]
    refine ST.push a10 (j := 2) (bytes := 24) rfl (by omega) (by omega) hone3 fun v5 h5 z1 z2 z3 a5 => ?_
    simp only [List.set_cons_zero, List.set_cons_succ, List.map_cons, List.map_nil] at z3 a5
    generalize h5.set (σ.next + 5) [v1, v3, v5] = h6 at *
    simp only [pwA, if_true, if_false, eq_self, nm_eq, reduceCtorEq, ↓reduceIte, Nat.reduceEqDiff, Nat.reduceLeDiff, Nat.reduceBEq, Nat.reduceAdd, Nat.reduceLT, Nat.reduceSub, Nat.reduceMul, Int.reduceEq, Int.reduceLT, Int.reduceLE, Int.reduceNeg, Int.reduceToNat, List.reduceReplicate, Int.ofNat_le, List.getElem?_drop, z1, z2, z3, wrapS hlt' (by omega : n ≤ 4611686018427387904)]
    refine ⟨_, by omega, i + 1, v1, v3, v5, _, _, _, ls ++ [⟨t, cap, cells⟩], by omega, rfl, rfl, a5, ?_, ?_, ?_, ?_⟩
    · rw [hcO, List.replicate_succ', ← pis_append]; rfl
    · unfold lgPs; rw [List.range_succ, List.map_append]; exact hcP.snoc hv2'
    · rw [hcC, List.map_append]; simp only [List.map_cons, List.map_nil, LS.pv]; rw [hct]
    · unfold lgCs; rw [List.range_succ, List.map_append]; exact hcR.snoc hcl
  as_aux_lemma =>
  refine vp_loop (fun m us h => ∃ (k : Nat) (vR : PV) (cells : List PV), i + (1 + k) ≤ n ∧ m = n - (i + (1 + k)) ∧ us = [.ptr σ.next 0, .ptr (σ.next + 1) 0, .int .i64 n, .ptr (σ.next + 5) 0, .int .i64 i, vR, .int .i64 ((i + (1 + k) : Nat) : Int)] ∧ Keep h4 h ∧ PSl h4.next 1 h vR k cells ∧ All2 FI cells (lgR p n W B i k)) (n - (i + 1)) ⟨0, _, [], by omega, rfl, rfl, keep_new _ _, PSl.new _ 1 rfl (Nat.le_refl _), All2.nil _⟩ ?_
  rintro m us h7 ⟨k, vR, cells, hk7, rfl, rfl, k7, p7, hcl⟩
  obtain ⟨l3, l0, l1⟩ := ld (a3.keepI k7).keep
  simp only [pwA, if_true, if_false, eq_self, nm_eq, reduceCtorEq, ↓reduceIte, Nat.reduceEqDiff, Nat.reduceLeDiff, Nat.reduceBEq, Nat.reduceAdd, Nat.reduceLT, Nat.reduceSub, Nat.reduceMul, Int.reduceEq, Int.reduceLT, Int.reduceLE, Int.reduceNeg, Int.reduceToNat, List.reduceReplicate, Int.ofNat_le, List.getElem?_drop]
  refine iteI (fun hltj => ?_) fun hgej => ?_
  rotate_left
  · have hke : k = n - 1 - i := by omega
    subst hke
    exact hQ _ _ ⟨vR, cells, _, by rw [show ((i + (1 + (n - 1 - i)) : Nat) : Int) = (n : Int) by omega], k7, p7, hcl⟩
  have hj : i + (1 + k) < n := by omega
  have hui := unit_el (n := n) o.pr hlt'
  have huj := unit_el (n := n) o.pr hj
  simp only [pwA, if_true, if_false, eq_self, nm_eq, reduceCtorEq, ↓reduceIte, Nat.reduceEqDiff, Nat.reduceLeDiff, Nat.reduceBEq, Nat.reduceAdd, Nat.reduceLT, Nat.reduceSub, Nat.reduceMul, Int.reduceEq, Int.reduceLT, Int.reduceLE, Int.reduceNeg, Int.reduceToNat, List.reduceReplicate, Int.ofNat_le, List.getElem?_drop, l3]
  refine l31Unit_ok hR0 hWl (by omega) hj fun b1 => ?_
  simp only [pwA, if_true, if_false, eq_self, nm_eq, reduceCtorEq, ↓reduceIte, Nat.reduceEqDiff, Nat.reduceLeDiff, Nat.reduceBEq, Nat.reduceAdd, Nat.reduceLT, Nat.reduceSub, Nat.reduceMul, Int.reduceEq, Int.reduceLT, Int.reduceLE, Int.reduceNeg, Int.reduceToNat, List.reduceReplicate, Int.ofNat_le, List.getElem?_drop, l3]
  refine l31Unit_ok hR0 hWl (by omega) hlt' fun b2 => ?_
  simp only [pwA, if_true, if_false, eq_self, nm_eq, reduceCtorEq, ↓reduceIte, Nat.reduceEqDiff, Nat.reduceLeDiff, Nat.reduceBEq, Nat.reduceAdd, Nat.reduceLT, Nat.reduceSub, Nat.reduceMul, Int.reduceEq, Int.reduceLT, Int.reduceLE, Int.reduceNeg, Int.reduceToNat, List.reduceReplicate, Int.ofNat_le, List.getElem?_drop, l3]
  refine l33Conj_ok z hR0 huj hui ⟨true, b1, by rw [huj.1]⟩ ⟨true, b2, by rw [hui.1]⟩ fun v6 hv6 => ?_
  have hce : El p n (conj p n W B (unitL n (i + (1 + k))) (unitL n i)) := fold_el o q fun y hy => by
    simp only [List.mem_cons, List.not_mem_nil, or_false] at hy
    rcases hy with rfl | rfl | rfl
    · exact neg_el o hui
    · exact huj
    · exact hui
  simp only [pwA, if_true, if_false, eq_self, nm_eq, reduceCtorEq, ↓reduceIte, Nat.reduceEqDiff, Nat.reduceLeDiff, Nat.reduceBEq, Nat.reduceAdd, Nat.reduceLT, Nat.reduceSub, Nat.reduceMul, Int.reduceEq, Int.reduceLT, Int.reduceLE, Int.reduceNeg, Int.reduceToNat, List.reduceReplicate, Int.ofNat_le, List.getElem?_drop, l3]
  refine l34Vector_ok z hR0 hce hv6 fun v8 hv8 => ?_
  have y1 := hv8.one
  have y2 := hv8.cells
  have hkl : k ≤ 10 := by omega
  simp only [pwA, if_true, if_false, eq_self, nm_eq, reduceCtorEq, ↓reduceIte, Nat.reduceEqDiff, Nat.reduceLeDiff, Nat.reduceBEq, Nat.reduceAdd, Nat.reduceLT, Nat.reduceSub, Nat.reduceMul, Int.reduceEq, Int.reduceLT, Int.reduceLE, Int.reduceNeg, Int.reduceToNat, List.reduceReplicate, Int.ofNat_le, List.getElem?_drop, y1, y2]
  refine PSl.push (bytes := 24) (σb := h4) k7 p7 (by omega) (by omega) fun v9 h8 k8 p8 => ?_
  have e5 : IntKind.i64.wrap (((i + (1 + k) : Nat) : Int) + 1) = ((i + (1 + (k + 1)) : Nat) : Int) := by rw [wrap64 (by omega) (by omega)]; omega
  simp only [pwA, if_true, if_false, eq_self, nm_eq, reduceCtorEq, ↓reduceIte, Nat.reduceEqDiff, Nat.reduceLeDiff, Nat.reduceBEq, Nat.reduceAdd, Nat.reduceLT, Nat.reduceSub, Nat.reduceMul, Int.reduceEq, Int.reduceLT, Int.reduceLE, Int.reduceNeg, Int.reduceToNat, List.reduceReplicate, Int.ofNat_le, List.getElem?_drop, e5]
  refine ⟨_, by omega, k + 1, v9, _, by omega, rfl, rfl, k8, p8, ?_⟩
  unfold lgR
  rw [List.range_succ, List.map_append]
  exact hcl.snoc hv8
end Go.Proofs
namespace Go.Grp
end Go.Grp
namespace Go.Proofs
open Go.Ab Go.Lie Go.Grp
variable {σ : PHeap} {K : PV → PHeap → Prop} {n c : Nat} {p : Int} {W : List (List Int)} {B : List (List (List Int))} {vP vB vM : PV} {s : Nat} {O : List Int} {P : List (List Int)} {C : List (List (List Int))} {vO vQ vC : PV} {lo hi : Nat}
def LGR (p : Int) (W : List (List Int)) (B : List (List (List Int))) (O : List Int) (P : List (List Int)) (C : List (List (List Int))) (c : Int) : Prop :=
  (CodeL p W B [] c ∧ c ≠ 0 ∧ O = [] ∧ P = [] ∧ C = []) ∨ (CodeL p W B [] 0 ∧ c = 0 ∧ O = List.replicate W.length p ∧ P = lgPs p W.length W B W.length ∧ C = lgCs p W.length W B W.length)
theorem LGR.unique {O' : List Int} {P' : List (List Int)} {C' : List (List (List Int))} {c c' : Int} (h : LGR p W B O P C c) (g : LGR p W B O' P' C' c') : (O = O' ∧ P = P' ∧ C = C') ∧ c = c' := by
  rcases h with ⟨h1, h2, h3, h4, h5⟩ | ⟨h1, h2, h3, h4, h5⟩ <;> rcases g with ⟨g1, g2, g3, g4, g5⟩ | ⟨g1, g2, g3, g4, g5⟩
  · exact ⟨⟨by rw [h3, g3], by rw [h4, g4], by rw [h5, g5]⟩, h1.unique g1⟩
  · exact absurd (h1.unique g1) h2
  · exact absurd (g1.unique h1) g2
  · exact ⟨⟨by rw [h3, g3], by rw [h4, g4], by rw [h5, g5]⟩, by rw [h2, g2]⟩
theorem lg_bd {c : Int} (h : LGR p W B O P C c) : SzP O P C := by
  rcases h with ⟨_, _, rfl, rfl, rfl⟩ | ⟨h1, _, rfl, rfl, rfl⟩
  · exact ⟨by simp, ⟨by simp, fun y hy => by cases hy⟩, ⟨by simp, fun y hy => by cases hy⟩⟩
  · have h6 := h1.zero.1.1.1.w.le
    refine ⟨by simp; omega, ⟨by simp [lgPs]; omega, fun y hy => ?_⟩, ⟨by simp [lgCs]; omega, fun q hq => ?_⟩⟩
    · obtain ⟨i, _, rfl⟩ := List.mem_map.1 hy
      rw [show (lgP p W.length W B i).length = W.length from stG_len _]; omega
    · obtain ⟨i, _, rfl⟩ := List.mem_map.1 hq
      refine ⟨by simp [lgR]; omega, fun y hy => ?_⟩
      obtain ⟨k, _, rfl⟩ := List.mem_map.1 hy
      rw [show (lgC p W.length W B i k).length = W.length from stG_len _]; omega
theorem LazardGroup_T (hR : IsR vP vB W B) (szr : SzR W B)
    (hk : ∀ vO vQ vC O P C c t, LGR p W B O P C c → IsPr vO vQ vC O P C → Own σ.top t (.agg [vO, vQ, vC]) → σ.top ≤ t → K (.tup [.agg [vO, vQ, vC], .int .i64 c]) (σ.up t)) : PCalls Tryz.prog 10 [.agg [.int .i64 p, vP, vB]] σ K := by
  have h1 := hR.P.one
  have h2 := hR.B.one
  refine PCalls.gh ?_
  generalize hT : (σ.new [.int .i64 p, vP, vB]).new [.fz true .nils 0 [], .fz true .nils 0 [], .fz true .nils 0 []] = T
  have hTn : T.next = σ.next + 2 := by rw [← hT]; rfl
  have hTt : T.top = σ.top := by rw [← hT]; rfl
  have hkT : Keep σ T := by rw [← hT]; exact (keep_new σ _).new _
  have hs : PtrR T σ.next p vP vB := ⟨by rw [← hT]; simp only [pwA, if_true, if_false, eq_self, nm_eq, reduceCtorEq, ↓reduceIte, Nat.reduceEqDiff, Nat.reduceLeDiff, Nat.reduceBEq, Nat.reduceAdd, Nat.reduceLT, Nat.reduceSub, Nat.reduceMul, Int.reduceEq, Int.reduceLT, Int.reduceLE, Int.reduceNeg, Int.reduceToNat, List.reduceReplicate, Int.ofNat_le, List.getElem?_drop], by omega⟩
  have hO3 : ∀ {g : PHeap} {u0 u1 u2 : PV}, Keep T g → u0.one = true → u1.one = true → u2.one = true → g.wr (σ.next + 1) 0 [u0, u1, u2] = some (g.set (σ.next + 1) [u0, u1, u2]) ∧ (g.set (σ.next + 1) [u0, u1, u2]).rd (σ.next + 1) 0 3 = some [u0, u1, u2] := fun {g u0 u1 u2} k z0 z1 z2 => by
    have hres : g.obj (σ.next + 1) = some [.fz true .nils 0 [], .fz true .nils 0 [], .fz true .nils 0 []] := by rw [k.obj _ (by omega), ← hT]; simp only [pwA, if_true, if_false, eq_self, nm_eq, reduceCtorEq, ↓reduceIte, Nat.reduceEqDiff, Nat.reduceLeDiff, Nat.reduceBEq, Nat.reduceAdd, Nat.reduceLT, Nat.reduceSub, Nat.reduceMul, Int.reduceEq, Int.reduceLT, Int.reduceLE, Int.reduceNeg, Int.reduceToNat, List.reduceReplicate, Int.ofNat_le, List.getElem?_drop]
    exact ⟨by rw [obj_wr hres, if_pos ⟨by simp, by simp only [List.all_cons, List.all_nil, z0, z1, z2]; rfl⟩]; rfl, by rw [prd_set, if_pos rfl]; rfl⟩
  refine pcalls_of_vp mix Tryz.func10 cf10 rfl ?_
  dsimp only [if10, qI, eI, nI, qD, eD]
  simp only [pwA, if_true, if_false, eq_self, nm_eq, reduceCtorEq, ↓reduceIte, Nat.reduceEqDiff, Nat.reduceLeDiff, Nat.reduceBEq, Nat.reduceAdd, Nat.reduceLT, Nat.reduceSub, Nat.reduceMul, Int.reduceEq, Int.reduceLT, Int.reduceLE, Int.reduceNeg, Int.reduceToNat, List.reduceReplicate, Int.ofNat_le, List.getElem?_drop, h1, h2]
  rw [hT]
  refine lazardCode_ok (xs := []) hs hR szr ⟨true, .nils, [], rfl, All2.nil _⟩ ⟨by simp, fun y hy => by cases hy⟩ fun c hc => ?_
  by_cases hc0 : c = 0
  rotate_left
  · obtain ⟨g1, g2⟩ := hO3 (Keep.refl T) (u0 := .fz true .nils 0 []) (u1 := .fz true .nils 0 []) (u2 := .fz true .nils 0 []) rfl rfl rfl
    simp only [pwA, if_true, if_false, eq_self, nm_eq, reduceCtorEq, ↓reduceIte, Nat.reduceEqDiff, Nat.reduceLeDiff, Nat.reduceBEq, Nat.reduceAdd, Nat.reduceLT, Nat.reduceSub, Nat.reduceMul, Int.reduceEq, Int.reduceLT, Int.reduceLE, Int.reduceNeg, Int.reduceToNat, List.reduceReplicate, Int.ofNat_le, List.getElem?_drop, hc0, g1, g2]
    exact Gh.fin0T (t := σ.top) (hkT.set (by omega) _) (by show σ.top ≤ T.top; omega) ⟨⟨trivial, trivial, trivial, trivial⟩, trivial, trivial⟩ fun _ => hk _ _ _ [] [] [] _ σ.top (.inl ⟨hc, hc0, rfl, rfl, rfl⟩) ⟨⟨true, .nils, rfl⟩, ⟨true, .nils, [], rfl, All2.nil _⟩, ⟨true, .nils, [], rfl, All2.nil _⟩⟩ ⟨⟨.inl rfl, .inl rfl, .inl rfl, trivial⟩, List.nodup_nil, fun o ho => by cases ho⟩ (Nat.le_refl _)
  subst hc0
  obtain ⟨⟨hl, _⟩, hz⟩ := hc.zero
  obtain ⟨cc, lz⟩ := Lz.of hl hz
  simp only [pwA, if_true, if_false, eq_self, nm_eq, reduceCtorEq, ↓reduceIte, Nat.reduceEqDiff, Nat.reduceLeDiff, Nat.reduceBEq, Nat.reduceAdd, Nat.reduceLT, Nat.reduceSub, Nat.reduceMul, Int.reduceEq, Int.reduceLT, Int.reduceLE, Int.reduceNeg, Int.reduceToNat, List.reduceReplicate, Int.ofNat_le, List.getElem?_drop]
  refine lazardGroup_T lz hs hR fun vO vQ vC t f1 f2 f3 ho ht => ?_
  have hpr : IsPr vO vQ vC (List.replicate W.length p) (lgPs p W.length W B W.length) (lgCs p W.length W B W.length) := ⟨f1, f2, f3⟩
  obtain ⟨g1, g2⟩ := hO3 ((Keep.refl T).up ht) f1.one f2.one f3.one
  simp only [pwA, if_true, if_false, eq_self, nm_eq, reduceCtorEq, ↓reduceIte, Nat.reduceEqDiff, Nat.reduceLeDiff, Nat.reduceBEq, Nat.reduceAdd, Nat.reduceLT, Nat.reduceSub, Nat.reduceMul, Int.reduceEq, Int.reduceLT, Int.reduceLE, Int.reduceNeg, Int.reduceToNat, List.reduceReplicate, Int.ofNat_le, List.getElem?_drop, g1, g2]
  refine Gh.fin0T (t := t) ((hkT.up ht).set (by omega) _) (Nat.le_refl _) ⟨⟨f1.bel _, f2.bel _, f3.bel _, trivial⟩, trivial, trivial⟩ fun _ => hk _ _ _ _ _ _ _ t (.inr ⟨hc, rfl, rfl, rfl, rfl⟩) hpr (by rw [hTt] at ho; exact ho) (by omega)
theorem l34LazardGroup_ok (hR : IsR vP vB W B) (szr : SzR W B)
    (hk : ∀ vO vQ vC O P C c, LGR p W B O P C c → IsPr vO vQ vC O P C → K (.tup [.agg [vO, vQ, vC], .int .i64 c]) σ) : PCalls Tryz.prog 8 [.agg [.int .i64 p, vP, vB]] σ K := by
  have h1 := hR.P.one
  have h2 := hR.B.one
  refine PCalls.gh ?_
  generalize hT : (σ.new [.int .i64 p, vP, vB]).new [.fz true .nils 0 [], .fz true .nils 0 [], .fz true .nils 0 []] = T
  have hTn : T.next = σ.next + 2 := by rw [← hT]; rfl
  have hkT : Keep σ T := by rw [← hT]; exact (keep_new σ _).new _
  have ld : ∀ {g : PHeap}, Keep T g → g.rd σ.next 0 3 = some [.int .i64 p, vP, vB] := fun {g} k => by
    have ob : g.obj σ.next = some [.int .i64 p, vP, vB] := by rw [k.obj _ (by omega), ← hT]; simp only [pwA, if_true, if_false, eq_self, nm_eq, reduceCtorEq, ↓reduceIte, Nat.reduceEqDiff, Nat.reduceLeDiff, Nat.reduceBEq, Nat.reduceAdd, Nat.reduceLT, Nat.reduceSub, Nat.reduceMul, Int.reduceEq, Int.reduceLT, Int.reduceLE, Int.reduceNeg, Int.reduceToNat, List.reduceReplicate, Int.ofNat_le, List.getElem?_drop]
    rw [obj_rd ob]; rfl
  have hO3 : ∀ {g : PHeap} {u0 u1 u2 : PV}, Keep T g → u0.one = true → u1.one = true → u2.one = true → g.wr (σ.next + 1) 0 [u0, u1, u2] = some (g.set (σ.next + 1) [u0, u1, u2]) ∧ (g.set (σ.next + 1) [u0, u1, u2]).rd (σ.next + 1) 0 3 = some [u0, u1, u2] := fun {g u0 u1 u2} k z0 z1 z2 => by
    have hres : g.obj (σ.next + 1) = some [.fz true .nils 0 [], .fz true .nils 0 [], .fz true .nils 0 []] := by rw [k.obj _ (by omega), ← hT]; simp only [pwA, if_true, if_false, eq_self, nm_eq, reduceCtorEq, ↓reduceIte, Nat.reduceEqDiff, Nat.reduceLeDiff, Nat.reduceBEq, Nat.reduceAdd, Nat.reduceLT, Nat.reduceSub, Nat.reduceMul, Int.reduceEq, Int.reduceLT, Int.reduceLE, Int.reduceNeg, Int.reduceToNat, List.reduceReplicate, Int.ofNat_le, List.getElem?_drop]
    exact ⟨by rw [obj_wr hres, if_pos ⟨by simp, by simp only [List.all_cons, List.all_nil, z0, z1, z2]; rfl⟩]; rfl, by rw [prd_set, if_pos rfl]; rfl⟩
  have l3 := ld (Keep.refl T)
  refine pcalls_of_vp mix Tryz.func8 cf8 rfl ?_
  dsimp only [if8, qI, eI, nI, qD, eD]
  simp only [pwA, if_true, if_false, eq_self, nm_eq, reduceCtorEq, ↓reduceIte, Nat.reduceEqDiff, Nat.reduceLeDiff, Nat.reduceBEq, Nat.reduceAdd, Nat.reduceLT, Nat.reduceSub, Nat.reduceMul, Int.reduceEq, Int.reduceLT, Int.reduceLE, Int.reduceNeg, Int.reduceToNat, List.reduceReplicate, Int.ofNat_le, List.getElem?_drop, h1, h2]
  rw [hT]
  simp only [pwA, if_true, if_false, eq_self, nm_eq, reduceCtorEq, ↓reduceIte, Nat.reduceEqDiff, Nat.reduceLeDiff, Nat.reduceBEq, Nat.reduceAdd, Nat.reduceLT, Nat.reduceSub, Nat.reduceMul, Int.reduceEq, Int.reduceLT, Int.reduceLE, Int.reduceNeg, Int.reduceToNat, List.reduceReplicate, Int.ofNat_le, List.getElem?_drop, l3]
  have kT2 : Keep T ((T.new []).kill (σ.next + 2)) := ((Keep.refl T).new _).kill (by omega)
  refine PCalls.frz (s := σ.next + 2) (cs := []) (by rw [pobj_new, if_pos hTn.symm]) trivial fun o1 => ?_
  simp only [sbs, Go.Ab.sb, capOK, and_self, if_true, decide_true, Nat.le_refl, hR.P.sb, hR.B.sb]
  generalize (T.new []).kill (σ.next + 2) = T2 at *
  have l4 := ld kT2
  refine l33Code_ok (xs := []) hR szr ⟨true, _, [], rfl, All2.nil _⟩ ⟨by simp, fun y hy => by cases hy⟩ fun c hc => ?_
  by_cases hc0 : c = 0
  rotate_left
  · obtain ⟨g1, g2⟩ := hO3 kT2 (u0 := .fz true .nils 0 []) (u1 := .fz true .nils 0 []) (u2 := .fz true .nils 0 []) rfl rfl rfl
    simp only [pwA, if_true, if_false, eq_self, nm_eq, reduceCtorEq, ↓reduceIte, Nat.reduceEqDiff, Nat.reduceLeDiff, Nat.reduceBEq, Nat.reduceAdd, Nat.reduceLT, Nat.reduceSub, Nat.reduceMul, Int.reduceEq, Int.reduceLT, Int.reduceLE, Int.reduceNeg, Int.reduceToNat, List.reduceReplicate, Int.ofNat_le, List.getElem?_drop, hc0, g1, g2]
    exact Gh.fin0 ((hkT.trans kT2).set (by omega) _) ⟨⟨trivial, trivial, trivial, trivial⟩, trivial, trivial⟩ (hk _ _ _ [] [] [] _ (.inl ⟨hc, hc0, rfl, rfl, rfl⟩) ⟨⟨true, .nils, rfl⟩, ⟨true, .nils, [], rfl, All2.nil _⟩, ⟨true, .nils, [], rfl, All2.nil _⟩⟩)
  subst hc0
  obtain ⟨⟨hl, _⟩, hz⟩ := hc.zero
  obtain ⟨cc, lz⟩ := Lz.of hl hz
  simp only [pwA, if_true, if_false, eq_self, nm_eq, reduceCtorEq, ↓reduceIte, Nat.reduceEqDiff, Nat.reduceLeDiff, Nat.reduceBEq, Nat.reduceAdd, Nat.reduceLT, Nat.reduceSub, Nat.reduceMul, Int.reduceEq, Int.reduceLT, Int.reduceLE, Int.reduceNeg, Int.reduceToNat, List.reduceReplicate, Int.ofNat_le, List.getElem?_drop, l4]
  refine l34Group_ok lz hR fun vO vQ vC f1 f2 f3 => ?_
  obtain ⟨g1, g2⟩ := hO3 kT2 f1.one f2.one f3.one
  simp only [pwA, if_true, if_false, eq_self, nm_eq, reduceCtorEq, ↓reduceIte, Nat.reduceEqDiff, Nat.reduceLeDiff, Nat.reduceBEq, Nat.reduceAdd, Nat.reduceLT, Nat.reduceSub, Nat.reduceMul, Int.reduceEq, Int.reduceLT, Int.reduceLE, Int.reduceNeg, Int.reduceToNat, List.reduceReplicate, Int.ofNat_le, List.getElem?_drop, g1, g2]
  exact Gh.fin0 ((hkT.trans kT2).set (by omega) _) ⟨⟨f1.bel _, f2.bel _, f3.bel _, trivial⟩, trivial, trivial⟩ (hk _ _ _ _ _ _ _ (.inr ⟨hc, rfl, rfl, rfl, rfl⟩) ⟨f1, f2, f3⟩)
theorem heldInt64SSS_ok {v : PV} {xs : List (List (List Int))} {k : Int} (hI : FIII v (sqL (sqL sqI List.length) (totL List.length) k xs)) (sz : SzM xs) (hk0 : 0 ≤ k) (hk1 : k + totL (totL List.length) xs ≤ 4611686018427387904) (hk : K (.int .i64 (k + totL (totL List.length) xs)) σ) : PCalls Tryz.prog 41 [v, .int .i64 k] σ K := by
  have hb := sz.l
  obtain ⟨w, a, rows, rfl, hr⟩ := hI
  have hl := sqL_length (sqL sqI List.length) (totL List.length) xs k
  have hg : ∀ (i : Nat) (hi : i < xs.length) (h2 : i < (sqL (sqL sqI List.length) (totL List.length) k xs).length), (sqL (sqL sqI List.length) (totL List.length) k xs)[i] = sqL sqI List.length (k + totL (totL List.length) (xs.take i)) xs[i] := fun i hi _ => sqL_get (sqL sqI List.length) (totL List.length) xs k i hi
  generalize sqL (sqL sqI List.length) (totL List.length) k xs = ys at *
  refine pcalls_of_vp mix Tryz.func41 cf41 rfl ?_
  dsimp only [if41, qI, eI, nI, qD, eD]
  simp only [pwA, if_true, if_false, eq_self, nm_eq, reduceCtorEq, ↓reduceIte, Nat.reduceEqDiff, Nat.reduceLeDiff, Nat.reduceBEq, Nat.reduceAdd, Nat.reduceLT, Nat.reduceSub, Nat.reduceMul, Int.reduceEq, Int.reduceLT, Int.reduceLE, Int.reduceNeg, Int.reduceToNat, List.reduceReplicate, Int.ofNat_le, List.getElem?_drop]
  refine vp_loop (fun m vs h' => ∃ i : Nat, i ≤ ys.length ∧ m = ys.length - i ∧ vs = [.fz w a ys.length rows, .int .i64 (k + totL (totL List.length) (xs.take i)), .int .i64 i] ∧ σ = h') ys.length ?_ ?_
  · exact ⟨0, by omega, by omega, by rw [List.take_zero, totL_nil, show k + ((0 : Nat) : Int) = k by omega]; rfl, rfl⟩
  rintro m vs h' ⟨i, hi, rfl, rfl, rfl⟩
  simp only [pwA, if_true, if_false, eq_self, nm_eq, reduceCtorEq, ↓reduceIte, Nat.reduceEqDiff, Nat.reduceLeDiff, Nat.reduceBEq, Nat.reduceAdd, Nat.reduceLT, Nat.reduceSub, Nat.reduceMul, Int.reduceEq, Int.reduceLT, Int.reduceLE, Int.reduceNeg, Int.reduceToNat, List.reduceReplicate, Int.ofNat_le, List.getElem?_drop]
  refine iteI (fun hlt => ?_) fun hge => ?_
  · have hlx : i < xs.length := by omega
    obtain ⟨w4, a4, rk, hrk, hrk2⟩ := hr.rowL hlt
    have ht := totL_snoc (len := totL List.length) hlx
    have htl := totL_le (totL List.length) xs (i + 1)
    have hgi := hg i hlx hlt
    simp only [pwA, if_true, if_false, eq_self, nm_eq, reduceCtorEq, ↓reduceIte, Nat.reduceEqDiff, Nat.reduceLeDiff, Nat.reduceBEq, Nat.reduceAdd, Nat.reduceLT, Nat.reduceSub, Nat.reduceMul, Int.reduceEq, Int.reduceLT, Int.reduceLE, Int.reduceNeg, Int.reduceToNat, List.reduceReplicate, Int.ofNat_le, List.getElem?_drop, hlt, hrk]
    have hbi := sz.r _ (List.getElem_mem hlx)
    refine heldInt64SS_ok (xs := xs[i]) ⟨w4, a4, rk, by rw [← hgi], by rw [← hgi]; exact hrk2⟩ (by have := hbi.l; omega) (fun y hy => by have := hbi.r y hy; omega) (by omega) (by omega) ?_
    have hn : ¬ (k + (totL (totL List.length) (xs.take i) : Int) + (totL List.length xs[i] : Int) < 0) := by omega
    simp only [pwA, if_true, if_false, eq_self, nm_eq, reduceCtorEq, ↓reduceIte, Nat.reduceEqDiff, Nat.reduceLeDiff, Nat.reduceBEq, Nat.reduceAdd, Nat.reduceLT, Nat.reduceSub, Nat.reduceMul, Int.reduceEq, Int.reduceLT, Int.reduceLE, Int.reduceNeg, Int.reduceToNat, List.reduceReplicate, Int.ofNat_le, List.getElem?_drop, hn, wrapS hlt (by omega : ys.length ≤ 4611686018427387904)]
    refine ⟨_, by omega, i + 1, by omega, rfl, ?_⟩
    have : k + (totL (totL List.length) (xs.take i) : Int) + (totL List.length xs[i] : Int) = k + (totL (totL List.length) (xs.take (i + 1)) : Int) := by omega
    rw [this]
  · have hie : i = xs.length := by omega
    subst hie
    rw [List.take_length]
    exact hk
theorem heldPresentation_ok {k : Int} (h0 : FI vO (sqI k O)) (h1 : FII vQ (sqL sqI List.length (k + O.length) P)) (h2 : FIII vC (sqL (sqL sqI List.length) (totL List.length) (k + O.length + totL List.length P) C)) (sz : SzP O P C) (hk0 : 0 ≤ k) (hk1 : k + O.length + totL List.length P + totL (totL List.length) C ≤ 4611686018427387904)
    (hk : K (.int .i64 (k + O.length + totL List.length P + totL (totL List.length) C)) σ) : PCalls Tryz.prog 15 [.agg [vO, vQ, vC], .int .i64 k] σ K := by
  have y0 := h0.one
  have y1 := h1.one
  have y2 := h2.one
  refine PCalls.gh ?_
  refine pcalls_of_vp mix Tryz.func15 cf15 rfl ?_
  dsimp only [if15, qI, eI, nI, qD, eD]
  simp only [pwA, if_true, if_false, eq_self, nm_eq, reduceCtorEq, ↓reduceIte, Nat.reduceEqDiff, Nat.reduceLeDiff, Nat.reduceBEq, Nat.reduceAdd, Nat.reduceLT, Nat.reduceSub, Nat.reduceMul, Int.reduceEq, Int.reduceLT, Int.reduceLE, Int.reduceNeg, Int.reduceToNat, List.reduceReplicate, Int.ofNat_le, List.getElem?_drop, y0, y1, y2]
  refine heldInt64S_ok (xs := O) (by unfold sqI at h0; exact h0) (by have := sz.O; omega) hk0 (by omega) ?_
  have n1 : ¬ (k + (O.length : Int) < 0) := by omega
  simp only [pwA, if_true, if_false, eq_self, nm_eq, reduceCtorEq, ↓reduceIte, Nat.reduceEqDiff, Nat.reduceLeDiff, Nat.reduceBEq, Nat.reduceAdd, Nat.reduceLT, Nat.reduceSub, Nat.reduceMul, Int.reduceEq, Int.reduceLT, Int.reduceLE, Int.reduceNeg, Int.reduceToNat, List.reduceReplicate, Int.ofNat_le, List.getElem?_drop, n1]
  refine heldInt64SS_ok h1 (by have := sz.P.l; omega) (fun y hy => by have := sz.P.r y hy; omega) (by omega) (by omega) ?_
  have n2 : ¬ (k + (O.length : Int) + (totL List.length P : Int) < 0) := by omega
  simp only [pwA, if_true, if_false, eq_self, nm_eq, reduceCtorEq, ↓reduceIte, Nat.reduceEqDiff, Nat.reduceLeDiff, Nat.reduceBEq, Nat.reduceAdd, Nat.reduceLT, Nat.reduceSub, Nat.reduceMul, Int.reduceEq, Int.reduceLT, Int.reduceLE, Int.reduceNeg, Int.reduceToNat, List.reduceReplicate, Int.ofNat_le, List.getElem?_drop, n2]
  refine heldInt64SSS_ok h2 sz.C (by omega) (by omega) ?_
  have n3 : ¬ (k + (O.length : Int) + (totL List.length P : Int) + (totL (totL List.length) C : Int) < 0) := by omega
  simp only [pwA, if_true, if_false, eq_self, nm_eq, reduceCtorEq, ↓reduceIte, Nat.reduceEqDiff, Nat.reduceLeDiff, Nat.reduceBEq, Nat.reduceAdd, Nat.reduceLT, Nat.reduceSub, Nat.reduceMul, Int.reduceEq, Int.reduceLT, Int.reduceLE, Int.reduceNeg, Int.reduceToNat, List.reduceReplicate, Int.ofNat_le, List.getElem?_drop, n3]
  exact Gh.fin0 (keep_new σ _) trivial hk
end Go.Proofs
namespace Go.Grp
end Go.Grp
namespace Go.Proofs
open Go.Ab Go.Lie Go.Grp
section
variable {h : AHeap} {K : AV → AHeap → Prop}
def mkPr (k : Int) (vO vP vC : PV) (O : List Int) (P : List (List Int)) (C : List (List (List Int))) : List (Nat × List PV) :=
  mkI k vO O ++ (mkF mkI List.length (k + O.length) vP P ++ mkF (mkF mkI List.length) (totL List.length) (k + O.length + totL List.length P) vC C)
def totP (O : List Int) (P : List (List Int)) (C : List (List (List Int))) : Nat := O.length + totL List.length P + totL (totL List.length) C
theorem markPresentation_A {k : Int} {vO vP vC : PV} {O : List Int} {P : List (List Int)} {C : List (List (List Int))} (hR : IsPr vO vP vC O P C) (hW : Wh (.agg [vO, vP, vC])) (hnd : (ead (.agg [vO, vP, vC])).Nodup) (hw : HWF h) (hv : VOK (zlt h) h 0 (.agg [vO, vP, vC])) (sz : SzP O P C) (hk0 : 0 ≤ k) (hk1 : k + totP O P C ≤ 4611686018427387904)
    (hk : ∀ h', Upd h (mkPr k vO vP vC O P C) h' → K (.int .i64 (k + totP O P C)) h') : ACalls Tryz.prog 14 [er idz (.agg [vO, vP, vC]), .int .i64 k] h K := by
  refine acalls_of_vc mix Tryz.func14 cf14 rfl ?_
  dsimp only [if14]
  simp only [er, ers]
  unfold totP at hk hk1
  obtain ⟨hvO, hvP, hvC, _⟩ := hv
  obtain ⟨wO, wP, wC, _⟩ := hW
  have oO : (er idz vO).one = true := by rw [er_one hvO]; exact hR.O.one
  have oP : (er idz vP).one = true := by rw [er_one hvP]; exact hR.P.one
  have oC : (er idz vC).one = true := by rw [er_one hvC]; exact hR.C.one
  have cO := cells_of_one oO
  have cP := cells_of_one oP
  have cC := cells_of_one oC
  simp only [ead, eads, List.nil_append, List.append_nil, List.nodup_append] at hnd
  obtain ⟨dO, ⟨dP, dC, dd⟩, dd0⟩ := hnd
  obtain ⟨hh, he, hx1, hn, qq⟩ := box1 hw [er idz vO, er idz vP, er idz vC]
  have hzz : ∀ o, zlt h o → zlt hh o ∧ hh.obj o = h.obj o := fun o ho => ⟨Nat.lt_of_lt_of_le ho hx1.next, hx1.obj o ho⟩
  have q := qq _ (Ext.refl hx1.wf)
  have kO := mkT_I.keys (k := k) hR.O wO
  have kP := (mkT_I.F).keys (k := k + O.length) hR.P wP
  have kC := (mkT_I.F.F).keys (k := k + O.length + totL List.length P) hR.C wC
  have szO := sz.O
  simp only [nm_eq, nm_eq, abQ, ↓reduceIte, Int.toNat_natCast, rd1_new, rd_new, new_next, Nat.left_eq_add, Nat.add_eq_left, Nat.succ_ne_self, Nat.one_ne_zero, Nat.add_left_cancel_iff, Nat.add_assoc, List.getElem?_cons_zero, List.getElem?_cons_succ, List.take_succ_cons, List.take_zero, List.drop_succ_cons, List.drop_zero, List.take_nil, List.drop_nil, Nat.reduceLeDiff, Nat.le_refl, afill_nil, afill_cons, zeros_zero, zeros_one1, zeros_single, Nat.lt_add_one, Int.reduceEq, Int.reduceLT, Int.reduceLE, Int.reduceNeg, ldv_one, ldv_agg, news_nil, news_cons, RecOK_nil, RecOK_none, RecOK_cons, recOf, wantedI, optK_some, optK_none, optK_bind, optK_map, List.map_cons, List.map_nil, Nat.reduceEqDiff, if_true, if_false, ite_true, ite_false, List.nil_append, List.cons_append, Option.map_some, Option.map_none, reduceCtorEq, decide_true, decide_false, Bool.not_true, Bool.not_false, cells_int, cells_bool, cells_str, cells_nilp, cells_ptr, cells_nils, cells_sl, cells_nilf, cells_clo, cells_agg, List.all_cons, List.all_nil, one_int, one_bool, one_str, one_nilp, one_ptr, one_nils, one_sl, one_nilf, one_clo, List.length_cons, List.length_nil, Bool.and_true, Bool.true_and, Bool.and_self, true_and, and_true, Bool.true_eq_false, Bool.false_eq_true, List.contains_cons, List.contains_nil, Bool.or_false, Bool.or_true, Bool.true_or, Bool.false_or, eq_self, Nat.reduceBEq, Nat.reduceAdd, Nat.mul_one, Nat.zero_add, Nat.add_zero, he, oO, oP, oC, cO, cP, cC, rd1_of_obj q]
  refine markInt64S_A hR.O wO hx1.wf (hvO.mono hzz (Nat.le_refl _)) (by omega) hk0 (by omega) fun h1 u1 => ?_
  have qB : h1.obj h.next = some ⟨true, [er idz vO, er idz vP, er idz vC]⟩ := by
    rw [u1.same _ (by omega) (lookup_none.2 fun hm => by have : h.next < h.next := ead_z hvO _ (kO _ hm); omega)]; exact q
  have mv : ∀ {v : PV}, VOK (zlt hh) hh 0 v → (∀ o ∈ ead v, o ∉ (mkI k vO O).map Prod.fst) → VOK (zlt h1) h1 0 v := fun {v} hv' hno => by
    have h2 := rm_vok u1 (fun o ho => ho) hv'
    rw [rm_out fun o ho hm => hno o hm ho] at h2
    exact h2.mono (fun o ho => ⟨Nat.lt_of_lt_of_le ho u1.next, rfl⟩) (Nat.le_refl _)
  have hvP1 := mv (hvP.mono hzz (Nat.le_refl _)) fun o ho hm => dd0 o (kO o hm) o (List.mem_append.2 (.inl ho)) rfl
  have hvC1 := mv (hvC.mono hzz (Nat.le_refl _)) fun o ho hm => dd0 o (kO o hm) o (List.mem_append.2 (.inr ho)) rfl
  have hneg0 : ¬ (k + (O.length : Int) < 0) := by omega
  simp only [nm_eq, nm_eq, abQ, ↓reduceIte, Int.toNat_natCast, rd1_new, rd_new, new_next, Nat.left_eq_add, Nat.add_eq_left, Nat.succ_ne_self, Nat.one_ne_zero, Nat.add_left_cancel_iff, Nat.add_assoc, List.getElem?_cons_zero, List.getElem?_cons_succ, List.take_succ_cons, List.take_zero, List.drop_succ_cons, List.drop_zero, List.take_nil, List.drop_nil, Nat.reduceLeDiff, Nat.le_refl, afill_nil, afill_cons, zeros_zero, zeros_one1, zeros_single, Nat.lt_add_one, Int.reduceEq, Int.reduceLT, Int.reduceLE, Int.reduceNeg, ldv_one, ldv_agg, news_nil, news_cons, RecOK_nil, RecOK_none, RecOK_cons, recOf, wantedI, optK_some, optK_none, optK_bind, optK_map, List.map_cons, List.map_nil, Nat.reduceEqDiff, if_true, if_false, ite_true, ite_false, List.nil_append, List.cons_append, Option.map_some, Option.map_none, reduceCtorEq, decide_true, decide_false, Bool.not_true, Bool.not_false, cells_int, cells_bool, cells_str, cells_nilp, cells_ptr, cells_nils, cells_sl, cells_nilf, cells_clo, cells_agg, List.all_cons, List.all_nil, one_int, one_bool, one_str, one_nilp, one_ptr, one_nils, one_sl, one_nilf, one_clo, List.length_cons, List.length_nil, Bool.and_true, Bool.true_and, Bool.and_self, true_and, and_true, Bool.true_eq_false, Bool.false_eq_true, List.contains_cons, List.contains_nil, Bool.or_false, Bool.or_true, Bool.true_or, Bool.false_or, eq_self, Nat.reduceBEq, Nat.reduceAdd, Nat.mul_one, Nat.zero_add, Nat.add_zero, rd1_of_obj qB, hneg0]
  refine markInt64SS_A hR.P wP dP u1.wf hvP1 (by have := sz.P.l; omega) (fun x hx => by have := sz.P.r x hx; omega) (by omega) (by omega) fun h2 u2 => ?_
  have qC : h2.obj h.next = some ⟨true, [er idz vO, er idz vP, er idz vC]⟩ := by
    rw [u2.same _ (by have := u1.next; omega) (lookup_none.2 fun hm => by have : h.next < h.next := ead_z hvP _ (kP _ hm); omega)]; exact qB
  have hvC2 : VOK (zlt h2) h2 0 vC := by
    have h3 := rm_vok u2 (fun o ho => ho) hvC1
    rw [rm_out fun o ho hm => dd o (kP o ho) o hm rfl] at h3
    exact h3.mono (fun o ho => ⟨Nat.lt_of_lt_of_le ho u2.next, rfl⟩) (Nat.le_refl _)
  have hneg : ¬ (k + (O.length : Int) + (totL List.length P : Int) < 0) := by omega
  simp only [nm_eq, nm_eq, abQ, ↓reduceIte, Int.toNat_natCast, rd1_new, rd_new, new_next, Nat.left_eq_add, Nat.add_eq_left, Nat.succ_ne_self, Nat.one_ne_zero, Nat.add_left_cancel_iff, Nat.add_assoc, List.getElem?_cons_zero, List.getElem?_cons_succ, List.take_succ_cons, List.take_zero, List.drop_succ_cons, List.drop_zero, List.take_nil, List.drop_nil, Nat.reduceLeDiff, Nat.le_refl, afill_nil, afill_cons, zeros_zero, zeros_one1, zeros_single, Nat.lt_add_one, Int.reduceEq, Int.reduceLT, Int.reduceLE, Int.reduceNeg, ldv_one, ldv_agg, news_nil, news_cons, RecOK_nil, RecOK_none, RecOK_cons, recOf, wantedI, optK_some, optK_none, optK_bind, optK_map, List.map_cons, List.map_nil, Nat.reduceEqDiff, if_true, if_false, ite_true, ite_false, List.nil_append, List.cons_append, Option.map_some, Option.map_none, reduceCtorEq, decide_true, decide_false, Bool.not_true, Bool.not_false, cells_int, cells_bool, cells_str, cells_nilp, cells_ptr, cells_nils, cells_sl, cells_nilf, cells_clo, cells_agg, List.all_cons, List.all_nil, one_int, one_bool, one_str, one_nilp, one_ptr, one_nils, one_sl, one_nilf, one_clo, List.length_cons, List.length_nil, Bool.and_true, Bool.true_and, Bool.and_self, true_and, and_true, Bool.true_eq_false, Bool.false_eq_true, List.contains_cons, List.contains_nil, Bool.or_false, Bool.or_true, Bool.true_or, Bool.false_or, eq_self, Nat.reduceBEq, Nat.reduceAdd, Nat.mul_one, Nat.zero_add, Nat.add_zero, rd1_of_obj qC, hneg]
  refine markInt64SSS_A hR.C wC dC u2.wf hvC2 (by have := sz.C.l; omega) (fun x hx => ⟨by have := (sz.C.r x hx).l; omega, fun y hy => by have := (sz.C.r x hx).r y hy; omega⟩) (by omega) (by omega) fun h3 u3 => ?_
  have u23 : Upd h1 (mkF mkI List.length (k + O.length) vP P ++ mkF (mkF mkI List.length) (totL List.length) (k + O.length + totL List.length P) vC C) h3 := u2.trans u3 (fun o ho hm => dd o (kP o ho) o (kC o hm) rfl) fun o ho => by have : o < h.next := ead_z hvC o (kC o ho); have := u1.next; omega
  have kPC : ∀ o ∈ (mkF mkI List.length (k + O.length) vP P ++ mkF (mkF mkI List.length) (totL List.length) (k + O.length + totL List.length P) vC C).map Prod.fst, o ∈ ead vP ++ ead vC := fun o ho => by
    rw [List.map_append, List.mem_append] at ho
    exact List.mem_append.2 (ho.imp (kP o) (kC o))
  have hlt : ∀ o ∈ ead vP ++ ead vC, o < h.next := fun o ho => (List.mem_append.1 ho).elim (fun hm => ead_z hvP o hm) fun hm => ead_z hvC o hm
  have u4 : Upd hh (mkPr k vO vP vC O P C) h3 := u1.trans u23 (fun o ho hm => dd0 o (kO o ho) o (kPC o hm) rfl) fun o ho => by have := hlt o (kPC o ho); omega
  have u5 := hx1.upd.trans u4 (fun o ho => by cases ho) fun o ho => by
    unfold mkPr at ho
    rw [List.map_append, List.mem_append] at ho
    exact ho.elim (fun hm => ead_z hvO o (kO o hm)) fun hm => hlt o (kPC o hm)
  have e : k + (O.length : Int) + (totL List.length P : Int) + (totL (totL List.length) C : Int) = k + ((O.length + totL List.length P + totL (totL List.length) C : Nat) : Int) := by omega
  rw [e]
  simp only [nm_eq, nm_eq, abQ, ↓reduceIte, Int.toNat_natCast, rd1_new, rd_new, new_next, Nat.left_eq_add, Nat.add_eq_left, Nat.succ_ne_self, Nat.one_ne_zero, Nat.add_left_cancel_iff, Nat.add_assoc, List.getElem?_cons_zero, List.getElem?_cons_succ, List.take_succ_cons, List.take_zero, List.drop_succ_cons, List.drop_zero, List.take_nil, List.drop_nil, Nat.reduceLeDiff, Nat.le_refl, afill_nil, afill_cons, zeros_zero, zeros_one1, zeros_single, Nat.lt_add_one, Int.reduceEq, Int.reduceLT, Int.reduceLE, Int.reduceNeg, ldv_one, ldv_agg, news_nil, news_cons, RecOK_nil, RecOK_none, RecOK_cons, recOf, wantedI, optK_some, optK_none, optK_bind, optK_map, List.map_cons, List.map_nil, Nat.reduceEqDiff, if_true, if_false, ite_true, ite_false, List.nil_append, List.cons_append, Option.map_some, Option.map_none, reduceCtorEq, decide_true, decide_false, Bool.not_true, Bool.not_false, cells_int, cells_bool, cells_str, cells_nilp, cells_ptr, cells_nils, cells_sl, cells_nilf, cells_clo, cells_agg, List.all_cons, List.all_nil, one_int, one_bool, one_str, one_nilp, one_ptr, one_nils, one_sl, one_nilf, one_clo, List.length_cons, List.length_nil, Bool.and_true, Bool.true_and, Bool.and_self, true_and, and_true, Bool.true_eq_false, Bool.false_eq_true, List.contains_cons, List.contains_nil, Bool.or_false, Bool.or_true, Bool.true_or, Bool.false_or, eq_self, Nat.reduceBEq, Nat.reduceAdd, Nat.mul_one, Nat.zero_add, Nat.add_zero]
  have e2 := hk h3 (by simpa using u5)
  simpa only [Nat.add_assoc] using e2
end
section
variable {σ : PHeap} {K : PV → PHeap → Prop} {p d : Int} {O : List Int} {P : List (List Int)} {C As : List (List (List Int))} {F : List (List Int)} {vO vP vC vA : PV} {lo hi : Nat}
theorem mkPr_keys {k : Int} (hR : IsPr vO vP vC O P C) (hW : Wh (.agg [vO, vP, vC])) : ∀ o ∈ (mkPr k vO vP vC O P C).map Prod.fst, o ∈ ead (.agg [vO, vP, vC]) := by
  obtain ⟨wO, wP, wC, _⟩ := hW
  intro o ho
  unfold mkPr at ho
  rw [List.map_append, List.mem_append, List.map_append, List.mem_append] at ho
  simp only [ead, eads, List.nil_append, List.append_nil, List.mem_append]
  exact ho.imp (mkT_I.keys hR.O wO o) fun h => h.imp (mkT_I.F.keys hR.P wP o) (mkT_I.F.F.keys hR.C wC o)
theorem keysP {k : Int} (hR : IsPr vO vP vC O P C) (ho : Own lo hi (.agg [vO, vP, vC])) : ∀ o ∈ (mkPr k vO vP vC O P C).map Prod.fst, lo ≤ o ∧ o < hi := fun o hm => ho.lt o (mkPr_keys hR ho.wh o hm)
theorem markPresentation_M {k : Int} (hR : IsPr vO vP vC O P C) (ho : Own lo hi (.agg [vO, vP, vC])) (sz : SzP O P C) (hk0 : 0 ≤ k) (hk1 : k + totP O P C ≤ 4611686018427387904) :
    MarkOK Tryz.prog 14 [.agg [vO, vP, vC], .int .i64 k] σ (mkPr k vO vP vC O P C) .i64 (k + totP O P C) :=
  MarkOK.of ⟨hR.O.bel 0, hR.P.bel 0, hR.C.bel 0, trivial⟩ (mkPr_keys hR ho.wh) fun h hw hv => markPresentation_A hR ho.wh ho.nd hw hv sz hk0 hk1 fun h' u => ⟨rfl, u⟩
theorem totII_bdx {xs : List (List Int)} (sz : SzL xs) : totL List.length xs ≤ 1099511627776 := by
  have h3 := totL_bd (m := 1048576) (len := List.length) sz.r
  have h4 := sz.l
  omega
theorem totM_bdx {As : List (List (List Int))} (sz : SzM As) : totL (totL List.length) As ≤ 1152921504606846976 := by
  have h3 := totL_bd (m := 1099511627776) (len := totL List.length) (xs := As) fun q hq => totII_bdx (sz.r q hq)
  have h4 := sz.l
  omega
theorem totP_bdx (sz : SzP O P C) : totP O P C ≤ 1153000000000000000 := by
  have h1 := totII_bdx sz.P
  have h2 := totM_bdx sz.C
  have h3 := sz.O
  unfold totP
  omega
end
theorem rmP {lo hi : Nat} {k : Int} {vO vP vC : PV} {O : List Int} {P : List (List Int)} {C : List (List (List Int))} (hR : IsPr vO vP vC O P C) (ho : Own lo hi (.agg [vO, vP, vC])) :
    FI (rm (mkPr k vO vP vC O P C) vO) (sqI k O) ∧ FII (rm (mkPr k vO vP vC O P C) vP) (sqL sqI List.length (k + O.length) P) ∧ FIII (rm (mkPr k vO vP vC O P C) vC) (sqL (sqL sqI List.length) (totL List.length) (k + O.length + totL List.length P) C) := by
  obtain ⟨⟨w0, w1, w2, _⟩, hnd, _⟩ := ho
  simp only [ead, eads, List.append_nil, List.nodup_append] at hnd
  obtain ⟨n0, ⟨n1, n2, d12⟩, d0⟩ := hnd
  have k0 := mkT_I.keys (k := k) hR.O w0
  have k1 := mkT_I.F.keys (k := k + O.length) hR.P w1
  have k2 := mkT_I.F.F.keys (k := k + O.length + totL List.length P) hR.C w2
  have r0 := mkT_I.rd (k := k) hR.O w0 n0
  have r1 := mkT_I.F.rd (k := k + O.length) hR.P w1 n1
  have r2 := mkT_I.F.F.rd (k := k + O.length + totL List.length P) hR.C w2 n2
  have e0 : rm (mkPr k vO vP vC O P C) vO = rm (mkI k vO O) vO := rm_congr fun o hm => by
    unfold mkPr
    rw [lookup_out]
    intro hx
    rw [List.map_append, List.mem_append] at hx
    rcases hx with hx | hx
    · exact d0 o hm o (List.mem_append.2 (.inl (k1 o hx))) rfl
    · exact d0 o hm o (List.mem_append.2 (.inr (k2 o hx))) rfl
  have e1 : rm (mkPr k vO vP vC O P C) vP = rm (mkF mkI List.length (k + O.length) vP P) vP := rm_congr fun o hm => by
    unfold mkPr
    rw [lookup_out' fun hx => d0 o (k0 o hx) o (List.mem_append.2 (.inl hm)) rfl, lookup_out fun hx => d12 o hm o (k2 o hx) rfl]
  have e2 : rm (mkPr k vO vP vC O P C) vC = rm (mkF (mkF mkI List.length) (totL List.length) (k + O.length + totL List.length P) vC C) vC := rm_congr fun o hm => by
    unfold mkPr
    rw [lookup_out' fun hx => d0 o (k0 o hx) o (List.mem_append.2 (.inr hm)) rfl, lookup_out' fun hx => d12 o (k1 o hx) o hm rfl]
  rw [e0, e1, e2]
  exact ⟨r0, r1, r2⟩
end Go.Proofs
