/- Products of lists, the exported functions; bounds of what is marked. -/
import Derived.Test.YthgccplmmogcnaaEP34
set_option linter.unusedSimpArgs false
set_option linter.unusedVariables false
namespace Go.Proofs
open Go.Ab Go.Lie
variable {σ : PHeap} {K : PV → PHeap → Prop} {p : Int} {n c m k : Nat} {W : List (List Int)} {B : List (List (List Int))} {vP vB vL : PV} {s : Nat} {x y u v : List Int} {vx vy : PV} {xs : List (List Int)}
/-- x + y by products. -/
noncomputable def sumP (p : Int) (n : Nat) (W : List (List Int)) (B : List (List (List Int))) (x y : List Int) : List Int :=
  fold p n W B [x, y, lmul p W (-1) (dv p n W 2 (comm p n W B x y)), dv p n W 12 (comm p n W B (comm p n W B x y) x), lmul p W (-1) (dv p n W 12 (comm p n W B (comm p n W B x y) y))]
/-- [x, y] by products. -/
noncomputable def brkP (p : Int) (n : Nat) (W : List (List Int)) (B : List (List (List Int))) (x y : List Int) : List Int :=
  fold p n W B [comm p n W B x y, lmul p W (-1) (dv p n W 2 (comm p n W B (comm p n W B x y) x)), lmul p W (-1) (dv p n W 2 (comm p n W B (comm p n W B x y) y))]
theorem els5 {x1 x2 x3 x4 x5 : List Int} (h1 : El p n x1) (h2 : El p n x2) (h3 : El p n x3) (h4 : El p n x4) (h5 : El p n x5) : Els p n [x1, x2, x3, x4, x5] := fun y hy => by simp at hy; rcases hy with rfl | rfl | rfl | rfl | rfl <;> assumption
theorem rows5 {v1 v2 v3 v4 v5 : PV} {x1 x2 x3 x4 x5 : List Int} {w : Bool} {a : AV} (h1 : FI v1 x1) (h2 : FI v2 x2) (h3 : FI v3 x3) (h4 : FI v4 x4) (h5 : FI v5 x5) : FII (.fz w a 5 [v1, v2, v3, v4, v5]) [x1, x2, x3, x4, x5] := ⟨w, a, _, rfl, by simpa using (((((All2.nil _).snoc h1).snoc h2).snoc h3).snoc h4).snoc h5⟩
theorem c_two (z : Lz p n W B c) (hx : El p n x) (h : Lw p n W B 1 (at_ x)) : isZ x ∨ (Cop p 2 ∧ Cop p (-2)) := z.r.two z.hp z.hc hx h
theorem c_twelve (z : Lz p n W B c) (hx : El p n x) (h : Lw p n W B 2 (at_ x)) : isZ x ∨ (Cop p 12 ∧ Cop p (-12)) := z.r.twelve z.hp z.hc hx h
/-- A part is the one. -/
theorem part_eq (o : OkW p n W) {k : Int} {z : List Int} (hx : El p n x) (h : DivL p n W k x z) (hk : isZ x ∨ (Cop p k ∧ Cop p (-k))) : z = dv p n W k x := dv_eq o hx h (hk.imp id (·.1))
theorem part_neg (o : OkW p n W) {k : Int} {z : List Int} (hx : El p n x) (h : DivL p n W (-k) x z) (hk : isZ x ∨ (Cop p k ∧ Cop p (-k))) : z = lmul p W (-1) (dv p n W k x) := by
  rcases hk with hz | ⟨h1, h2⟩
  · have e : dv p n W k x = x := (dv_spec o hx).nil hz
    rw [e, h.nil hz]; exact (norm0 o hx hz).symm
  · exact h.unique o hx ((dv_spec o (k := k) hx).neg o hx fun _ => h1) (.inr h2)
theorem divideLie_FI (o : OkW p n W) (hs : PtrR σ s p vP vB) (hP : FII vP W) (hpow : ipow p n ≤ 729) (hx : El p n x) (hvx : FI vx x) {k : Int} (hk : ∀ v z, DivL p n W k x z → FI v z → K v σ) : PCalls Try.prog 71 [.ptr s 0, vx, .int .i64 k] σ K := by
  obtain ⟨wx, ax, rfl⟩ := hvx
  exact divideLie_ok hs hP o hpow hx rfl fun v z hd => hk _ z hd ⟨_, _, by rw [hd.el.1]⟩
theorem l33Part_FI (o : OkW p n W) (hR : IsR vP vB W B) (hpow : ipow p n ≤ 729) (hx : El p n x) (hvx : FI vx x) {k : Int} (hk : ∀ v z, DivL p n W k x z → FI v z → K v σ) : PCalls Try.prog 68 [.agg [.int .i64 p, vP, vB], vx, .int .i64 k] σ K := by
  obtain ⟨wx, ax, rfl⟩ := hvx
  exact l33Part_ok hR o hpow hx rfl fun w v z hd => hk _ z hd ⟨_, _, by rw [hd.el.1]⟩
theorem comm_FI (z : Lz p n W B c) (hs : PtrR σ s p vP vB) (hR : IsR vP vB W B) (hx : El p n x) (hy : El p n y) (hvx : FI vx x) (hvy : FI vy y) (hk : ∀ v, FI v (comm p n W B x y) → K v σ) : PCalls Try.prog 87 [.ptr s 0, vx, vy] σ K :=
  PCalls.fzI (fun K' => bchCommutator_ok z hs hR hx hy hvx hvy) fun a => hk _ ⟨_, _, rfl⟩
theorem BchProduct_T (hR : IsR vP vB W B) (szr : SzR W B) (hx : FI vx x) (szx : x.length ≤ 1048576) (hy : FI vy y) (szy : y.length ≤ 1048576)
    (hk : ∀ v z c t, CodR p W B [x, y] [] (bch p W.length W B x y) z c → FI v z → Own σ.top t v → σ.top ≤ t → K (.tup [v, .int .i64 c]) (σ.up t)) : PCalls Try.prog 35 [.agg [.int .i64 p, vP, vB], vx, vy] σ K := by
  have h1 := hR.P.one
  have h2 := hR.B.one
  refine PCalls.gh ?_
  refine pcalls_of_vp mix Try.func35 cf35 rfl ?_
  dsimp only [if35, qI, eI, nI, qD, eD]
  simp only [pwA, if_true, if_false, eq_self, nm_eq, reduceCtorEq, ↓reduceIte, Nat.reduceEqDiff, Nat.reduceLeDiff, Nat.reduceBEq, Nat.reduceAdd, Nat.reduceLT, Nat.reduceSub, Nat.reduceMul, Int.reduceEq, Int.reduceLT, Int.reduceLE, Int.reduceNeg, Int.reduceToNat, List.reduceReplicate, Int.ofNat_le, List.getElem?_drop, h1, h2, hx.one, hx.cells, hy.one, hy.cells]
  have hkp : Keep σ (((σ.new [.int .i64 p, vP, vB]).new [vx, vy]).kill (σ.next + 1)) := ((keep_new σ _).new _).kill (by omega)
  have hs : PtrR (((σ.new [.int .i64 p, vP, vB]).new [vx, vy]).kill (σ.next + 1)) σ.next p vP vB := ⟨by simp only [pwA, if_true, if_false, eq_self, nm_eq, reduceCtorEq, ↓reduceIte, Nat.reduceEqDiff, Nat.reduceLeDiff, Nat.reduceBEq, Nat.reduceAdd, Nat.reduceLT, Nat.reduceSub, Nat.reduceMul, Int.reduceEq, Int.reduceLT, Int.reduceLE, Int.reduceNeg, Int.reduceToNat, List.reduceReplicate, Int.ofNat_le, List.getElem?_drop], by simp only [pwA, if_true, if_false, eq_self, nm_eq, reduceCtorEq, ↓reduceIte, Nat.reduceEqDiff, Nat.reduceLeDiff, Nat.reduceBEq, Nat.reduceAdd, Nat.reduceLT, Nat.reduceSub, Nat.reduceMul, Int.reduceEq, Int.reduceLT, Int.reduceLE, Int.reduceNeg, Int.reduceToNat, List.reduceReplicate, Int.ofNat_le, List.getElem?_drop]; omega⟩
  refine PCalls.frz (s := σ.next + 1) (cs := [vx, vy]) (by simp only [pwA, if_true, if_false, eq_self, nm_eq, reduceCtorEq, ↓reduceIte, Nat.reduceEqDiff, Nat.reduceLeDiff, Nat.reduceBEq, Nat.reduceAdd, Nat.reduceLT, Nat.reduceSub, Nat.reduceMul, Int.reduceEq, Int.reduceLT, Int.reduceLE, Int.reduceNeg, Int.reduceToNat, List.reduceReplicate, Int.ofNat_le, List.getElem?_drop]) ⟨hx.bel 0, hy.bel 0, trivial⟩ fun o => ?_
  simp only [sbs, sb, capOK, and_self, if_true, decide_true, Nat.le_refl, hx.sb, hy.sb]
  refine lazardCode_ok (xs := [x, y]) hs hR szr (two_row hx hy) (SzL.two szx szy) fun c hc => ?_
  by_cases hc0 : c = 0
  rotate_left
  · simp only [pwA, if_true, if_false, eq_self, nm_eq, reduceCtorEq, ↓reduceIte, Nat.reduceEqDiff, Nat.reduceLeDiff, Nat.reduceBEq, Nat.reduceAdd, Nat.reduceLT, Nat.reduceSub, Nat.reduceMul, Int.reduceEq, Int.reduceLT, Int.reduceLE, Int.reduceNeg, Int.reduceToNat, List.reduceReplicate, Int.ofNat_le, List.getElem?_drop, hc0]
    exact Gh.fin0T (t := σ.top) hkp hkp.top ⟨trivial, trivial, trivial⟩ fun _ => hk _ [] _ σ.top (.inl ⟨c, hc, hc0, rfl, rfl⟩) ⟨_, _, rfl⟩ (Own.empty _ _ _ _ _) (Nat.le_refl _)
  subst hc0
  obtain ⟨⟨hl, he⟩, hz⟩ := hc.zero
  obtain ⟨cc, lz⟩ := Lz.of hl hz
  have ow := lz.r.o
  have hx' := he x (by simp)
  have hy' := he y (by simp)
  simp only [pwA, if_true, if_false, eq_self, nm_eq, reduceCtorEq, ↓reduceIte, Nat.reduceEqDiff, Nat.reduceLeDiff, Nat.reduceBEq, Nat.reduceAdd, Nat.reduceLT, Nat.reduceSub, Nat.reduceMul, Int.reduceEq, Int.reduceLT, Int.reduceLE, Int.reduceNeg, Int.reduceToNat, List.reduceReplicate, Int.ofNat_le, List.getElem?_drop]
  have hkp2 := hkp
  refine PCalls.fzIT (fun K' => bch_ok lz hs hR hx' hy' hx hy) fun v t hv ho ht => ?_
  simp only [pwA, if_true, if_false, eq_self, nm_eq, reduceCtorEq, ↓reduceIte, Nat.reduceEqDiff, Nat.reduceLeDiff, Nat.reduceBEq, Nat.reduceAdd, Nat.reduceLT, Nat.reduceSub, Nat.reduceMul, Int.reduceEq, Int.reduceLT, Int.reduceLE, Int.reduceNeg, Int.reduceToNat, List.reduceReplicate, Int.ofNat_le, List.getElem?_drop]
  exact Gh.fin0T (t := t) (hkp2.up ht) (Nat.le_refl _) ⟨hv.bel _, trivial, trivial⟩ fun _ => hk _ _ _ t (.inr ⟨hc, rfl, rfl⟩) hv ho ht
theorem l33Product_ok (hR : IsR vP vB W B) (szr : SzR W B) (hx : FI vx x) (szx : x.length ≤ 1048576) (hy : FI vy y) (szy : y.length ≤ 1048576)
    (hk : ∀ v z c, CodR p W B [x, y] [] (bch p W.length W B x y) z c → FI v z → K (.tup [v, .int .i64 c]) σ) : PCalls Try.prog 34 [.agg [.int .i64 p, vP, vB], vx, vy] σ K := by
  have h1 := hR.P.one
  have h2 := hR.B.one
  refine PCalls.gh ?_
  refine pcalls_of_vp mix Try.func34 cf34 rfl ?_
  dsimp only [if34, qI, eI, nI, qD, eD]
  simp only [pwA, if_true, if_false, eq_self, nm_eq, reduceCtorEq, ↓reduceIte, Nat.reduceEqDiff, Nat.reduceLeDiff, Nat.reduceBEq, Nat.reduceAdd, Nat.reduceLT, Nat.reduceSub, Nat.reduceMul, Int.reduceEq, Int.reduceLT, Int.reduceLE, Int.reduceNeg, Int.reduceToNat, List.reduceReplicate, Int.ofNat_le, List.getElem?_drop, h1, h2, hx.one, hx.cells, hy.one, hy.cells]
  have hkp : Keep σ (((σ.new [.int .i64 p, vP, vB]).new [vx, vy]).kill (σ.next + 1)) := ((keep_new σ _).new _).kill (by omega)
  refine PCalls.frz (s := σ.next + 1) (cs := [vx, vy]) (by simp only [pwA, if_true, if_false, eq_self, nm_eq, reduceCtorEq, ↓reduceIte, Nat.reduceEqDiff, Nat.reduceLeDiff, Nat.reduceBEq, Nat.reduceAdd, Nat.reduceLT, Nat.reduceSub, Nat.reduceMul, Int.reduceEq, Int.reduceLT, Int.reduceLE, Int.reduceNeg, Int.reduceToNat, List.reduceReplicate, Int.ofNat_le, List.getElem?_drop]) ⟨hx.bel 0, hy.bel 0, trivial⟩ fun o => ?_
  simp only [sbs, sb, capOK, and_self, if_true, decide_true, Nat.le_refl, hR.P.sb, hR.B.sb, hx.sb, hy.sb]
  refine l33Code_ok (xs := [x, y]) hR szr (two_row hx hy) (SzL.two szx szy) fun c hc => ?_
  by_cases hc0 : c = 0
  rotate_left
  · simp only [pwA, if_true, if_false, eq_self, nm_eq, reduceCtorEq, ↓reduceIte, Nat.reduceEqDiff, Nat.reduceLeDiff, Nat.reduceBEq, Nat.reduceAdd, Nat.reduceLT, Nat.reduceSub, Nat.reduceMul, Int.reduceEq, Int.reduceLT, Int.reduceLE, Int.reduceNeg, Int.reduceToNat, List.reduceReplicate, Int.ofNat_le, List.getElem?_drop, hc0]
    exact Gh.fin0 hkp ⟨trivial, trivial, trivial⟩ (hk _ [] _ (.inl ⟨c, hc, hc0, rfl, rfl⟩) ⟨_, _, rfl⟩)
  subst hc0
  obtain ⟨⟨hl, he⟩, hz⟩ := hc.zero
  obtain ⟨cc, lz⟩ := Lz.of hl hz
  have ow := lz.r.o
  have hx' := he x (by simp)
  have hy' := he y (by simp)
  simp only [pwA, if_true, if_false, eq_self, nm_eq, reduceCtorEq, ↓reduceIte, Nat.reduceEqDiff, Nat.reduceLeDiff, Nat.reduceBEq, Nat.reduceAdd, Nat.reduceLT, Nat.reduceSub, Nat.reduceMul, Int.reduceEq, Int.reduceLT, Int.reduceLE, Int.reduceNeg, Int.reduceToNat, List.reduceReplicate, Int.ofNat_le, List.getElem?_drop]
  have hkp2 := hkp
  refine l33Mul_ok lz hR hx' hy' hx hy fun v hv => ?_
  simp only [pwA, if_true, if_false, eq_self, nm_eq, reduceCtorEq, ↓reduceIte, Nat.reduceEqDiff, Nat.reduceLeDiff, Nat.reduceBEq, Nat.reduceAdd, Nat.reduceLT, Nat.reduceSub, Nat.reduceMul, Int.reduceEq, Int.reduceLT, Int.reduceLE, Int.reduceNeg, Int.reduceToNat, List.reduceReplicate, Int.ofNat_le, List.getElem?_drop]
  exact Gh.fin0 hkp2 ⟨hv.bel _, trivial, trivial⟩ (hk _ _ _ (.inr ⟨hc, rfl, rfl⟩) hv)
theorem BchCommutator_T (hR : IsR vP vB W B) (szr : SzR W B) (hx : FI vx x) (szx : x.length ≤ 1048576) (hy : FI vy y) (szy : y.length ≤ 1048576)
    (hk : ∀ v z c t, CodR p W B [x, y] [] (comm p W.length W B x y) z c → FI v z → Own σ.top t v → σ.top ≤ t → K (.tup [v, .int .i64 c]) (σ.up t)) : PCalls Try.prog 47 [.agg [.int .i64 p, vP, vB], vx, vy] σ K := by
  have h1 := hR.P.one
  have h2 := hR.B.one
  refine PCalls.gh ?_
  refine pcalls_of_vp mix Try.func47 cf47 rfl ?_
  dsimp only [if47, qI, eI, nI, qD, eD]
  simp only [pwA, if_true, if_false, eq_self, nm_eq, reduceCtorEq, ↓reduceIte, Nat.reduceEqDiff, Nat.reduceLeDiff, Nat.reduceBEq, Nat.reduceAdd, Nat.reduceLT, Nat.reduceSub, Nat.reduceMul, Int.reduceEq, Int.reduceLT, Int.reduceLE, Int.reduceNeg, Int.reduceToNat, List.reduceReplicate, Int.ofNat_le, List.getElem?_drop, h1, h2, hx.one, hx.cells, hy.one, hy.cells]
  have hkp : Keep σ (((σ.new [.int .i64 p, vP, vB]).new [vx, vy]).kill (σ.next + 1)) := ((keep_new σ _).new _).kill (by omega)
  have hs : PtrR (((σ.new [.int .i64 p, vP, vB]).new [vx, vy]).kill (σ.next + 1)) σ.next p vP vB := ⟨by simp only [pwA, if_true, if_false, eq_self, nm_eq, reduceCtorEq, ↓reduceIte, Nat.reduceEqDiff, Nat.reduceLeDiff, Nat.reduceBEq, Nat.reduceAdd, Nat.reduceLT, Nat.reduceSub, Nat.reduceMul, Int.reduceEq, Int.reduceLT, Int.reduceLE, Int.reduceNeg, Int.reduceToNat, List.reduceReplicate, Int.ofNat_le, List.getElem?_drop], by simp only [pwA, if_true, if_false, eq_self, nm_eq, reduceCtorEq, ↓reduceIte, Nat.reduceEqDiff, Nat.reduceLeDiff, Nat.reduceBEq, Nat.reduceAdd, Nat.reduceLT, Nat.reduceSub, Nat.reduceMul, Int.reduceEq, Int.reduceLT, Int.reduceLE, Int.reduceNeg, Int.reduceToNat, List.reduceReplicate, Int.ofNat_le, List.getElem?_drop]; omega⟩
  refine PCalls.frz (s := σ.next + 1) (cs := [vx, vy]) (by simp only [pwA, if_true, if_false, eq_self, nm_eq, reduceCtorEq, ↓reduceIte, Nat.reduceEqDiff, Nat.reduceLeDiff, Nat.reduceBEq, Nat.reduceAdd, Nat.reduceLT, Nat.reduceSub, Nat.reduceMul, Int.reduceEq, Int.reduceLT, Int.reduceLE, Int.reduceNeg, Int.reduceToNat, List.reduceReplicate, Int.ofNat_le, List.getElem?_drop]) ⟨hx.bel 0, hy.bel 0, trivial⟩ fun o => ?_
  simp only [sbs, sb, capOK, and_self, if_true, decide_true, Nat.le_refl, hx.sb, hy.sb]
  refine lazardCode_ok (xs := [x, y]) hs hR szr (two_row hx hy) (SzL.two szx szy) fun c hc => ?_
  by_cases hc0 : c = 0
  rotate_left
  · simp only [pwA, if_true, if_false, eq_self, nm_eq, reduceCtorEq, ↓reduceIte, Nat.reduceEqDiff, Nat.reduceLeDiff, Nat.reduceBEq, Nat.reduceAdd, Nat.reduceLT, Nat.reduceSub, Nat.reduceMul, Int.reduceEq, Int.reduceLT, Int.reduceLE, Int.reduceNeg, Int.reduceToNat, List.reduceReplicate, Int.ofNat_le, List.getElem?_drop, hc0]
    exact Gh.fin0T (t := σ.top) hkp hkp.top ⟨trivial, trivial, trivial⟩ fun _ => hk _ [] _ σ.top (.inl ⟨c, hc, hc0, rfl, rfl⟩) ⟨_, _, rfl⟩ (Own.empty _ _ _ _ _) (Nat.le_refl _)
  subst hc0
  obtain ⟨⟨hl, he⟩, hz⟩ := hc.zero
  obtain ⟨cc, lz⟩ := Lz.of hl hz
  have ow := lz.r.o
  have hx' := he x (by simp)
  have hy' := he y (by simp)
  simp only [pwA, if_true, if_false, eq_self, nm_eq, reduceCtorEq, ↓reduceIte, Nat.reduceEqDiff, Nat.reduceLeDiff, Nat.reduceBEq, Nat.reduceAdd, Nat.reduceLT, Nat.reduceSub, Nat.reduceMul, Int.reduceEq, Int.reduceLT, Int.reduceLE, Int.reduceNeg, Int.reduceToNat, List.reduceReplicate, Int.ofNat_le, List.getElem?_drop]
  have hkp2 := hkp
  refine PCalls.fzIT (fun K' => bchCommutator_ok lz hs hR hx' hy' hx hy) fun v t hv ho ht => ?_
  simp only [pwA, if_true, if_false, eq_self, nm_eq, reduceCtorEq, ↓reduceIte, Nat.reduceEqDiff, Nat.reduceLeDiff, Nat.reduceBEq, Nat.reduceAdd, Nat.reduceLT, Nat.reduceSub, Nat.reduceMul, Int.reduceEq, Int.reduceLT, Int.reduceLE, Int.reduceNeg, Int.reduceToNat, List.reduceReplicate, Int.ofNat_le, List.getElem?_drop]
  exact Gh.fin0T (t := t) (hkp2.up ht) (Nat.le_refl _) ⟨hv.bel _, trivial, trivial⟩ fun _ => hk _ _ _ t (.inr ⟨hc, rfl, rfl⟩) hv ho ht
theorem l33Commutator_ok (hR : IsR vP vB W B) (szr : SzR W B) (hx : FI vx x) (szx : x.length ≤ 1048576) (hy : FI vy y) (szy : y.length ≤ 1048576)
    (hk : ∀ v z c, CodR p W B [x, y] [] (comm p W.length W B x y) z c → FI v z → K (.tup [v, .int .i64 c]) σ) : PCalls Try.prog 46 [.agg [.int .i64 p, vP, vB], vx, vy] σ K := by
  have h1 := hR.P.one
  have h2 := hR.B.one
  refine PCalls.gh ?_
  refine pcalls_of_vp mix Try.func46 cf46 rfl ?_
  dsimp only [if46, qI, eI, nI, qD, eD]
  simp only [pwA, if_true, if_false, eq_self, nm_eq, reduceCtorEq, ↓reduceIte, Nat.reduceEqDiff, Nat.reduceLeDiff, Nat.reduceBEq, Nat.reduceAdd, Nat.reduceLT, Nat.reduceSub, Nat.reduceMul, Int.reduceEq, Int.reduceLT, Int.reduceLE, Int.reduceNeg, Int.reduceToNat, List.reduceReplicate, Int.ofNat_le, List.getElem?_drop, h1, h2, hx.one, hx.cells, hy.one, hy.cells]
  have hkp : Keep σ (((σ.new [.int .i64 p, vP, vB]).new [vx, vy]).kill (σ.next + 1)) := ((keep_new σ _).new _).kill (by omega)
  refine PCalls.frz (s := σ.next + 1) (cs := [vx, vy]) (by simp only [pwA, if_true, if_false, eq_self, nm_eq, reduceCtorEq, ↓reduceIte, Nat.reduceEqDiff, Nat.reduceLeDiff, Nat.reduceBEq, Nat.reduceAdd, Nat.reduceLT, Nat.reduceSub, Nat.reduceMul, Int.reduceEq, Int.reduceLT, Int.reduceLE, Int.reduceNeg, Int.reduceToNat, List.reduceReplicate, Int.ofNat_le, List.getElem?_drop]) ⟨hx.bel 0, hy.bel 0, trivial⟩ fun o => ?_
  simp only [sbs, sb, capOK, and_self, if_true, decide_true, Nat.le_refl, hR.P.sb, hR.B.sb, hx.sb, hy.sb]
  refine l33Code_ok (xs := [x, y]) hR szr (two_row hx hy) (SzL.two szx szy) fun c hc => ?_
  by_cases hc0 : c = 0
  rotate_left
  · simp only [pwA, if_true, if_false, eq_self, nm_eq, reduceCtorEq, ↓reduceIte, Nat.reduceEqDiff, Nat.reduceLeDiff, Nat.reduceBEq, Nat.reduceAdd, Nat.reduceLT, Nat.reduceSub, Nat.reduceMul, Int.reduceEq, Int.reduceLT, Int.reduceLE, Int.reduceNeg, Int.reduceToNat, List.reduceReplicate, Int.ofNat_le, List.getElem?_drop, hc0]
    exact Gh.fin0 hkp ⟨trivial, trivial, trivial⟩ (hk _ [] _ (.inl ⟨c, hc, hc0, rfl, rfl⟩) ⟨_, _, rfl⟩)
  subst hc0
  obtain ⟨⟨hl, he⟩, hz⟩ := hc.zero
  obtain ⟨cc, lz⟩ := Lz.of hl hz
  have ow := lz.r.o
  have hx' := he x (by simp)
  have hy' := he y (by simp)
  simp only [pwA, if_true, if_false, eq_self, nm_eq, reduceCtorEq, ↓reduceIte, Nat.reduceEqDiff, Nat.reduceLeDiff, Nat.reduceBEq, Nat.reduceAdd, Nat.reduceLT, Nat.reduceSub, Nat.reduceMul, Int.reduceEq, Int.reduceLT, Int.reduceLE, Int.reduceNeg, Int.reduceToNat, List.reduceReplicate, Int.ofNat_le, List.getElem?_drop]
  have hkp2 := hkp
  refine l33Comm_ok lz hR hx' hy' hx hy fun v hv => ?_
  simp only [pwA, if_true, if_false, eq_self, nm_eq, reduceCtorEq, ↓reduceIte, Nat.reduceEqDiff, Nat.reduceLeDiff, Nat.reduceBEq, Nat.reduceAdd, Nat.reduceLT, Nat.reduceSub, Nat.reduceMul, Int.reduceEq, Int.reduceLT, Int.reduceLE, Int.reduceNeg, Int.reduceToNat, List.reduceReplicate, Int.ofNat_le, List.getElem?_drop]
  exact Gh.fin0 hkp2 ⟨hv.bel _, trivial, trivial⟩ (hk _ _ _ (.inr ⟨hc, rfl, rfl⟩) hv)
theorem BchConjugate_T (hR : IsR vP vB W B) (szr : SzR W B) (hx : FI vx x) (szx : x.length ≤ 1048576) (hy : FI vy y) (szy : y.length ≤ 1048576)
    (hk : ∀ v z c t, CodR p W B [x, y] [] (conj p W.length W B x y) z c → FI v z → Own σ.top t v → σ.top ≤ t → K (.tup [v, .int .i64 c]) (σ.up t)) : PCalls Try.prog 45 [.agg [.int .i64 p, vP, vB], vx, vy] σ K := by
  have h1 := hR.P.one
  have h2 := hR.B.one
  refine PCalls.gh ?_
  refine pcalls_of_vp mix Try.func45 cf45 rfl ?_
  dsimp only [if45, qI, eI, nI, qD, eD]
  simp only [pwA, if_true, if_false, eq_self, nm_eq, reduceCtorEq, ↓reduceIte, Nat.reduceEqDiff, Nat.reduceLeDiff, Nat.reduceBEq, Nat.reduceAdd, Nat.reduceLT, Nat.reduceSub, Nat.reduceMul, Int.reduceEq, Int.reduceLT, Int.reduceLE, Int.reduceNeg, Int.reduceToNat, List.reduceReplicate, Int.ofNat_le, List.getElem?_drop, h1, h2, hx.one, hx.cells, hy.one, hy.cells]
  have hkp : Keep σ (((σ.new [.int .i64 p, vP, vB]).new [vx, vy]).kill (σ.next + 1)) := ((keep_new σ _).new _).kill (by omega)
  have hs : PtrR (((σ.new [.int .i64 p, vP, vB]).new [vx, vy]).kill (σ.next + 1)) σ.next p vP vB := ⟨by simp only [pwA, if_true, if_false, eq_self, nm_eq, reduceCtorEq, ↓reduceIte, Nat.reduceEqDiff, Nat.reduceLeDiff, Nat.reduceBEq, Nat.reduceAdd, Nat.reduceLT, Nat.reduceSub, Nat.reduceMul, Int.reduceEq, Int.reduceLT, Int.reduceLE, Int.reduceNeg, Int.reduceToNat, List.reduceReplicate, Int.ofNat_le, List.getElem?_drop], by simp only [pwA, if_true, if_false, eq_self, nm_eq, reduceCtorEq, ↓reduceIte, Nat.reduceEqDiff, Nat.reduceLeDiff, Nat.reduceBEq, Nat.reduceAdd, Nat.reduceLT, Nat.reduceSub, Nat.reduceMul, Int.reduceEq, Int.reduceLT, Int.reduceLE, Int.reduceNeg, Int.reduceToNat, List.reduceReplicate, Int.ofNat_le, List.getElem?_drop]; omega⟩
  refine PCalls.frz (s := σ.next + 1) (cs := [vx, vy]) (by simp only [pwA, if_true, if_false, eq_self, nm_eq, reduceCtorEq, ↓reduceIte, Nat.reduceEqDiff, Nat.reduceLeDiff, Nat.reduceBEq, Nat.reduceAdd, Nat.reduceLT, Nat.reduceSub, Nat.reduceMul, Int.reduceEq, Int.reduceLT, Int.reduceLE, Int.reduceNeg, Int.reduceToNat, List.reduceReplicate, Int.ofNat_le, List.getElem?_drop]) ⟨hx.bel 0, hy.bel 0, trivial⟩ fun o => ?_
  simp only [sbs, sb, capOK, and_self, if_true, decide_true, Nat.le_refl, hx.sb, hy.sb]
  refine lazardCode_ok (xs := [x, y]) hs hR szr (two_row hx hy) (SzL.two szx szy) fun c hc => ?_
  by_cases hc0 : c = 0
  rotate_left
  · simp only [pwA, if_true, if_false, eq_self, nm_eq, reduceCtorEq, ↓reduceIte, Nat.reduceEqDiff, Nat.reduceLeDiff, Nat.reduceBEq, Nat.reduceAdd, Nat.reduceLT, Nat.reduceSub, Nat.reduceMul, Int.reduceEq, Int.reduceLT, Int.reduceLE, Int.reduceNeg, Int.reduceToNat, List.reduceReplicate, Int.ofNat_le, List.getElem?_drop, hc0]
    exact Gh.fin0T (t := σ.top) hkp hkp.top ⟨trivial, trivial, trivial⟩ fun _ => hk _ [] _ σ.top (.inl ⟨c, hc, hc0, rfl, rfl⟩) ⟨_, _, rfl⟩ (Own.empty _ _ _ _ _) (Nat.le_refl _)
  subst hc0
  obtain ⟨⟨hl, he⟩, hz⟩ := hc.zero
  obtain ⟨cc, lz⟩ := Lz.of hl hz
  have ow := lz.r.o
  have hx' := he x (by simp)
  have hy' := he y (by simp)
  simp only [pwA, if_true, if_false, eq_self, nm_eq, reduceCtorEq, ↓reduceIte, Nat.reduceEqDiff, Nat.reduceLeDiff, Nat.reduceBEq, Nat.reduceAdd, Nat.reduceLT, Nat.reduceSub, Nat.reduceMul, Int.reduceEq, Int.reduceLT, Int.reduceLE, Int.reduceNeg, Int.reduceToNat, List.reduceReplicate, Int.ofNat_le, List.getElem?_drop]
  refine timesLie_FI ow hs hR.P hy' hy (by decide) fun v1 f1 => ?_
  simp only [pwA, if_true, if_false, eq_self, nm_eq, reduceCtorEq, ↓reduceIte, Nat.reduceEqDiff, Nat.reduceLeDiff, Nat.reduceBEq, Nat.reduceAdd, Nat.reduceLT, Nat.reduceSub, Nat.reduceMul, Int.reduceEq, Int.reduceLT, Int.reduceLE, Int.reduceNeg, Int.reduceToNat, List.reduceReplicate, Int.ofNat_le, List.getElem?_drop, f1.one, f1.cells, hx.one, hx.cells, hy.one, hy.cells]
  have hkp2 : Keep σ (((((σ.new [.int .i64 p, vP, vB]).new [vx, vy]).kill (σ.next + 1)).new [v1, vx, vy]).kill (σ.next + 2)) := (hkp.new _).kill (by omega)
  have hs2 : PtrR (((((σ.new [.int .i64 p, vP, vB]).new [vx, vy]).kill (σ.next + 1)).new [v1, vx, vy]).kill (σ.next + 2)) σ.next p vP vB := ⟨by simp only [pwA, if_true, if_false, eq_self, nm_eq, reduceCtorEq, ↓reduceIte, Nat.reduceEqDiff, Nat.reduceLeDiff, Nat.reduceBEq, Nat.reduceAdd, Nat.reduceLT, Nat.reduceSub, Nat.reduceMul, Int.reduceEq, Int.reduceLT, Int.reduceLE, Int.reduceNeg, Int.reduceToNat, List.reduceReplicate, Int.ofNat_le, List.getElem?_drop], by simp only [pwA, if_true, if_false, eq_self, nm_eq, reduceCtorEq, ↓reduceIte, Nat.reduceEqDiff, Nat.reduceLeDiff, Nat.reduceBEq, Nat.reduceAdd, Nat.reduceLT, Nat.reduceSub, Nat.reduceMul, Int.reduceEq, Int.reduceLT, Int.reduceLE, Int.reduceNeg, Int.reduceToNat, List.reduceReplicate, Int.ofNat_le, List.getElem?_drop]; omega⟩
  refine PCalls.frz (s := σ.next + 2) (cs := [v1, vx, vy]) (by simp only [pwA, if_true, if_false, eq_self, nm_eq, reduceCtorEq, ↓reduceIte, Nat.reduceEqDiff, Nat.reduceLeDiff, Nat.reduceBEq, Nat.reduceAdd, Nat.reduceLT, Nat.reduceSub, Nat.reduceMul, Int.reduceEq, Int.reduceLT, Int.reduceLE, Int.reduceNeg, Int.reduceToNat, List.reduceReplicate, Int.ofNat_le, List.getElem?_drop]) ⟨f1.bel 0, hx.bel 0, hy.bel 0, trivial⟩ fun o2 => ?_
  simp only [sbs, sb, capOK, and_self, if_true, decide_true, Nat.le_refl, f1.one, f1.cells, f1.sb, hx.one, hx.cells, hx.sb, hy.one, hy.cells, hy.sb]
  refine PCalls.fzIT (fun K' => bchFold_ok lz hs2 hR (rows3 f1 hx hy) (els3 (neg_el ow hy') hx' hy') (by simp)) fun v t hv ho ht => ?_
  simp only [pwA, if_true, if_false, eq_self, nm_eq, reduceCtorEq, ↓reduceIte, Nat.reduceEqDiff, Nat.reduceLeDiff, Nat.reduceBEq, Nat.reduceAdd, Nat.reduceLT, Nat.reduceSub, Nat.reduceMul, Int.reduceEq, Int.reduceLT, Int.reduceLE, Int.reduceNeg, Int.reduceToNat, List.reduceReplicate, Int.ofNat_le, List.getElem?_drop]
  exact Gh.fin0T (t := t) (hkp2.up ht) (Nat.le_refl _) ⟨hv.bel _, trivial, trivial⟩ fun _ => hk _ _ _ t (.inr ⟨hc, rfl, rfl⟩) hv ho ht
theorem l33Conjugate_ok (hR : IsR vP vB W B) (szr : SzR W B) (hx : FI vx x) (szx : x.length ≤ 1048576) (hy : FI vy y) (szy : y.length ≤ 1048576)
    (hk : ∀ v z c, CodR p W B [x, y] [] (conj p W.length W B x y) z c → FI v z → K (.tup [v, .int .i64 c]) σ) : PCalls Try.prog 44 [.agg [.int .i64 p, vP, vB], vx, vy] σ K := by
  have h1 := hR.P.one
  have h2 := hR.B.one
  refine PCalls.gh ?_
  refine pcalls_of_vp mix Try.func44 cf44 rfl ?_
  dsimp only [if44, qI, eI, nI, qD, eD]
  simp only [pwA, if_true, if_false, eq_self, nm_eq, reduceCtorEq, ↓reduceIte, Nat.reduceEqDiff, Nat.reduceLeDiff, Nat.reduceBEq, Nat.reduceAdd, Nat.reduceLT, Nat.reduceSub, Nat.reduceMul, Int.reduceEq, Int.reduceLT, Int.reduceLE, Int.reduceNeg, Int.reduceToNat, List.reduceReplicate, Int.ofNat_le, List.getElem?_drop, h1, h2, hx.one, hx.cells, hy.one, hy.cells]
  have hkp : Keep σ (((σ.new [.int .i64 p, vP, vB]).new [vx, vy]).kill (σ.next + 1)) := ((keep_new σ _).new _).kill (by omega)
  refine PCalls.frz (s := σ.next + 1) (cs := [vx, vy]) (by simp only [pwA, if_true, if_false, eq_self, nm_eq, reduceCtorEq, ↓reduceIte, Nat.reduceEqDiff, Nat.reduceLeDiff, Nat.reduceBEq, Nat.reduceAdd, Nat.reduceLT, Nat.reduceSub, Nat.reduceMul, Int.reduceEq, Int.reduceLT, Int.reduceLE, Int.reduceNeg, Int.reduceToNat, List.reduceReplicate, Int.ofNat_le, List.getElem?_drop]) ⟨hx.bel 0, hy.bel 0, trivial⟩ fun o => ?_
  simp only [sbs, sb, capOK, and_self, if_true, decide_true, Nat.le_refl, hR.P.sb, hR.B.sb, hx.sb, hy.sb]
  refine l33Code_ok (xs := [x, y]) hR szr (two_row hx hy) (SzL.two szx szy) fun c hc => ?_
  by_cases hc0 : c = 0
  rotate_left
  · simp only [pwA, if_true, if_false, eq_self, nm_eq, reduceCtorEq, ↓reduceIte, Nat.reduceEqDiff, Nat.reduceLeDiff, Nat.reduceBEq, Nat.reduceAdd, Nat.reduceLT, Nat.reduceSub, Nat.reduceMul, Int.reduceEq, Int.reduceLT, Int.reduceLE, Int.reduceNeg, Int.reduceToNat, List.reduceReplicate, Int.ofNat_le, List.getElem?_drop, hc0]
    exact Gh.fin0 hkp ⟨trivial, trivial, trivial⟩ (hk _ [] _ (.inl ⟨c, hc, hc0, rfl, rfl⟩) ⟨_, _, rfl⟩)
  subst hc0
  obtain ⟨⟨hl, he⟩, hz⟩ := hc.zero
  obtain ⟨cc, lz⟩ := Lz.of hl hz
  have ow := lz.r.o
  have hx' := he x (by simp)
  have hy' := he y (by simp)
  simp only [pwA, if_true, if_false, eq_self, nm_eq, reduceCtorEq, ↓reduceIte, Nat.reduceEqDiff, Nat.reduceLeDiff, Nat.reduceBEq, Nat.reduceAdd, Nat.reduceLT, Nat.reduceSub, Nat.reduceMul, Int.reduceEq, Int.reduceLT, Int.reduceLE, Int.reduceNeg, Int.reduceToNat, List.reduceReplicate, Int.ofNat_le, List.getElem?_drop]
  have hkp2 := hkp
  refine l33Conj_ok lz hR hx' hy' hx hy fun v hv => ?_
  simp only [pwA, if_true, if_false, eq_self, nm_eq, reduceCtorEq, ↓reduceIte, Nat.reduceEqDiff, Nat.reduceLeDiff, Nat.reduceBEq, Nat.reduceAdd, Nat.reduceLT, Nat.reduceSub, Nat.reduceMul, Int.reduceEq, Int.reduceLT, Int.reduceLE, Int.reduceNeg, Int.reduceToNat, List.reduceReplicate, Int.ofNat_le, List.getElem?_drop]
  exact Gh.fin0 hkp2 ⟨hv.bel _, trivial, trivial⟩ (hk _ _ _ (.inr ⟨hc, rfl, rfl⟩) hv)
theorem SumByProducts_T (hR : IsR vP vB W B) (szr : SzR W B) (hx : FI vx x) (szx : x.length ≤ 1048576) (hy : FI vy y) (szy : y.length ≤ 1048576)
    (hk : ∀ v z c t, CodR p W B [x, y] [] (sumP p W.length W B x y) z c → FI v z → Own σ.top t v → σ.top ≤ t → K (.tup [v, .int .i64 c]) (σ.up t)) : PCalls Try.prog 51 [.agg [.int .i64 p, vP, vB], vx, vy] σ K := by
  have h1 := hR.P.one
  have h2 := hR.B.one
  refine PCalls.gh ?_
  refine pcalls_of_vp mix Try.func51 cf51 rfl ?_
  dsimp only [if51, qI, eI, nI, qD, eD]
  simp only [pwA, if_true, if_false, eq_self, nm_eq, reduceCtorEq, ↓reduceIte, Nat.reduceEqDiff, Nat.reduceLeDiff, Nat.reduceBEq, Nat.reduceAdd, Nat.reduceLT, Nat.reduceSub, Nat.reduceMul, Int.reduceEq, Int.reduceLT, Int.reduceLE, Int.reduceNeg, Int.reduceToNat, List.reduceReplicate, Int.ofNat_le, List.getElem?_drop, h1, h2, hx.one, hx.cells, hy.one, hy.cells]
  have hkp : Keep σ (((σ.new [.int .i64 p, vP, vB]).new [vx, vy]).kill (σ.next + 1)) := ((keep_new σ _).new _).kill (by omega)
  have hs : PtrR (((σ.new [.int .i64 p, vP, vB]).new [vx, vy]).kill (σ.next + 1)) σ.next p vP vB := ⟨by simp only [pwA, if_true, if_false, eq_self, nm_eq, reduceCtorEq, ↓reduceIte, Nat.reduceEqDiff, Nat.reduceLeDiff, Nat.reduceBEq, Nat.reduceAdd, Nat.reduceLT, Nat.reduceSub, Nat.reduceMul, Int.reduceEq, Int.reduceLT, Int.reduceLE, Int.reduceNeg, Int.reduceToNat, List.reduceReplicate, Int.ofNat_le, List.getElem?_drop], by simp only [pwA, if_true, if_false, eq_self, nm_eq, reduceCtorEq, ↓reduceIte, Nat.reduceEqDiff, Nat.reduceLeDiff, Nat.reduceBEq, Nat.reduceAdd, Nat.reduceLT, Nat.reduceSub, Nat.reduceMul, Int.reduceEq, Int.reduceLT, Int.reduceLE, Int.reduceNeg, Int.reduceToNat, List.reduceReplicate, Int.ofNat_le, List.getElem?_drop]; omega⟩
  refine PCalls.frz (s := σ.next + 1) (cs := [vx, vy]) (by simp only [pwA, if_true, if_false, eq_self, nm_eq, reduceCtorEq, ↓reduceIte, Nat.reduceEqDiff, Nat.reduceLeDiff, Nat.reduceBEq, Nat.reduceAdd, Nat.reduceLT, Nat.reduceSub, Nat.reduceMul, Int.reduceEq, Int.reduceLT, Int.reduceLE, Int.reduceNeg, Int.reduceToNat, List.reduceReplicate, Int.ofNat_le, List.getElem?_drop]) ⟨hx.bel 0, hy.bel 0, trivial⟩ fun o => ?_
  simp only [sbs, sb, capOK, and_self, if_true, decide_true, Nat.le_refl, hx.sb, hy.sb]
  refine lazardCode_ok (xs := [x, y]) hs hR szr (two_row hx hy) (SzL.two szx szy) fun c hc => ?_
  by_cases hc0 : c = 0
  rotate_left
  · simp only [pwA, if_true, if_false, eq_self, nm_eq, reduceCtorEq, ↓reduceIte, Nat.reduceEqDiff, Nat.reduceLeDiff, Nat.reduceBEq, Nat.reduceAdd, Nat.reduceLT, Nat.reduceSub, Nat.reduceMul, Int.reduceEq, Int.reduceLT, Int.reduceLE, Int.reduceNeg, Int.reduceToNat, List.reduceReplicate, Int.ofNat_le, List.getElem?_drop, hc0]
    exact Gh.fin0T (t := σ.top) hkp hkp.top ⟨trivial, trivial, trivial⟩ fun _ => hk _ [] _ σ.top (.inl ⟨c, hc, hc0, rfl, rfl⟩) ⟨_, _, rfl⟩ (Own.empty _ _ _ _ _) (Nat.le_refl _)
  subst hc0
  obtain ⟨⟨hl, he⟩, hz⟩ := hc.zero
  obtain ⟨cc, lz⟩ := Lz.of hl hz
  have ow := lz.r.o
  have hx' := he x (by simp)
  have hy' := he y (by simp)
  simp only [pwA, if_true, if_false, eq_self, nm_eq, reduceCtorEq, ↓reduceIte, Nat.reduceEqDiff, Nat.reduceLeDiff, Nat.reduceBEq, Nat.reduceAdd, Nat.reduceLT, Nat.reduceSub, Nat.reduceMul, Int.reduceEq, Int.reduceLT, Int.reduceLE, Int.reduceNeg, Int.reduceToNat, List.reduceReplicate, Int.ofNat_le, List.getElem?_drop]
  refine comm_FI lz hs hR hx' hy' hx hy fun vc fc => ?_
  simp only [pwA, if_true, if_false, eq_self, nm_eq, reduceCtorEq, ↓reduceIte, Nat.reduceEqDiff, Nat.reduceLeDiff, Nat.reduceBEq, Nat.reduceAdd, Nat.reduceLT, Nat.reduceSub, Nat.reduceMul, Int.reduceEq, Int.reduceLT, Int.reduceLE, Int.reduceNeg, Int.reduceToNat, List.reduceReplicate, Int.ofNat_le, List.getElem?_drop]
  have ec := comm_el lz hx' hy'
  have ea := comm_el lz ec hx'
  have eb := comm_el lz ec hy'
  have lc := lz.comm hx' hy' (lz.r.all hx')
  have la := lz.comm ec hx' lc
  have lb := lz.comm ec hy' lc
  refine divideLie_FI ow hs hR.P lz.pow ec fc fun v1 z1 d1 f1 => ?_
  rw [part_neg ow ec d1 (c_two lz ec lc)] at f1
  simp only [pwA, if_true, if_false, eq_self, nm_eq, reduceCtorEq, ↓reduceIte, Nat.reduceEqDiff, Nat.reduceLeDiff, Nat.reduceBEq, Nat.reduceAdd, Nat.reduceLT, Nat.reduceSub, Nat.reduceMul, Int.reduceEq, Int.reduceLT, Int.reduceLE, Int.reduceNeg, Int.reduceToNat, List.reduceReplicate, Int.ofNat_le, List.getElem?_drop]
  refine comm_FI lz hs hR ec hx' fc hx fun va fa => ?_
  simp only [pwA, if_true, if_false, eq_self, nm_eq, reduceCtorEq, ↓reduceIte, Nat.reduceEqDiff, Nat.reduceLeDiff, Nat.reduceBEq, Nat.reduceAdd, Nat.reduceLT, Nat.reduceSub, Nat.reduceMul, Int.reduceEq, Int.reduceLT, Int.reduceLE, Int.reduceNeg, Int.reduceToNat, List.reduceReplicate, Int.ofNat_le, List.getElem?_drop]
  refine divideLie_FI ow hs hR.P lz.pow ea fa fun v2 z2 d2 f2 => ?_
  rw [part_eq ow ea d2 (c_twelve lz ea la)] at f2
  simp only [pwA, if_true, if_false, eq_self, nm_eq, reduceCtorEq, ↓reduceIte, Nat.reduceEqDiff, Nat.reduceLeDiff, Nat.reduceBEq, Nat.reduceAdd, Nat.reduceLT, Nat.reduceSub, Nat.reduceMul, Int.reduceEq, Int.reduceLT, Int.reduceLE, Int.reduceNeg, Int.reduceToNat, List.reduceReplicate, Int.ofNat_le, List.getElem?_drop]
  refine comm_FI lz hs hR ec hy' fc hy fun vb fb => ?_
  simp only [pwA, if_true, if_false, eq_self, nm_eq, reduceCtorEq, ↓reduceIte, Nat.reduceEqDiff, Nat.reduceLeDiff, Nat.reduceBEq, Nat.reduceAdd, Nat.reduceLT, Nat.reduceSub, Nat.reduceMul, Int.reduceEq, Int.reduceLT, Int.reduceLE, Int.reduceNeg, Int.reduceToNat, List.reduceReplicate, Int.ofNat_le, List.getElem?_drop]
  refine divideLie_FI ow hs hR.P lz.pow eb fb fun v3 z3 d3 f3 => ?_
  rw [part_neg ow eb d3 (c_twelve lz eb lb)] at f3
  simp only [pwA, if_true, if_false, eq_self, nm_eq, reduceCtorEq, ↓reduceIte, Nat.reduceEqDiff, Nat.reduceLeDiff, Nat.reduceBEq, Nat.reduceAdd, Nat.reduceLT, Nat.reduceSub, Nat.reduceMul, Int.reduceEq, Int.reduceLT, Int.reduceLE, Int.reduceNeg, Int.reduceToNat, List.reduceReplicate, Int.ofNat_le, List.getElem?_drop, hx.one, hx.cells, hy.one, hy.cells, f1.one, f1.cells, f2.one, f2.cells, f3.one, f3.cells]
  have hkp2 : Keep σ (((((σ.new [.int .i64 p, vP, vB]).new [vx, vy]).kill (σ.next + 1)).new [vx, vy, v1, v2, v3]).kill (σ.next + 2)) := (hkp.new _).kill (by omega)
  have hs2 : PtrR (((((σ.new [.int .i64 p, vP, vB]).new [vx, vy]).kill (σ.next + 1)).new [vx, vy, v1, v2, v3]).kill (σ.next + 2)) σ.next p vP vB := ⟨by simp only [pwA, if_true, if_false, eq_self, nm_eq, reduceCtorEq, ↓reduceIte, Nat.reduceEqDiff, Nat.reduceLeDiff, Nat.reduceBEq, Nat.reduceAdd, Nat.reduceLT, Nat.reduceSub, Nat.reduceMul, Int.reduceEq, Int.reduceLT, Int.reduceLE, Int.reduceNeg, Int.reduceToNat, List.reduceReplicate, Int.ofNat_le, List.getElem?_drop], by simp only [pwA, if_true, if_false, eq_self, nm_eq, reduceCtorEq, ↓reduceIte, Nat.reduceEqDiff, Nat.reduceLeDiff, Nat.reduceBEq, Nat.reduceAdd, Nat.reduceLT, Nat.reduceSub, Nat.reduceMul, Int.reduceEq, Int.reduceLT, Int.reduceLE, Int.reduceNeg, Int.reduceToNat, List.reduceReplicate, Int.ofNat_le, List.getElem?_drop]; omega⟩
  refine PCalls.frz (s := σ.next + 2) (cs := [vx, vy, v1, v2, v3]) (by simp only [pwA, if_true, if_false, eq_self, nm_eq, reduceCtorEq, ↓reduceIte, Nat.reduceEqDiff, Nat.reduceLeDiff, Nat.reduceBEq, Nat.reduceAdd, Nat.reduceLT, Nat.reduceSub, Nat.reduceMul, Int.reduceEq, Int.reduceLT, Int.reduceLE, Int.reduceNeg, Int.reduceToNat, List.reduceReplicate, Int.ofNat_le, List.getElem?_drop]) ⟨hx.bel 0, hy.bel 0, f1.bel 0, f2.bel 0, f3.bel 0, trivial⟩ fun o2 => ?_
  simp only [sbs, sb, capOK, and_self, if_true, decide_true, Nat.le_refl, hx.one, hx.cells, hx.sb, hy.one, hy.cells, hy.sb, f1.one, f1.cells, f1.sb, f2.one, f2.cells, f2.sb, f3.one, f3.cells, f3.sb]
  refine PCalls.fzIT (fun K' => bchFold_ok lz hs2 hR (rows5 hx hy f1 f2 f3) (els5 hx' hy' (neg_el ow (dv_el ow ec)) (dv_el ow ea) (neg_el ow (dv_el ow eb))) (by simp)) fun v t hv ho ht => ?_
  simp only [pwA, if_true, if_false, eq_self, nm_eq, reduceCtorEq, ↓reduceIte, Nat.reduceEqDiff, Nat.reduceLeDiff, Nat.reduceBEq, Nat.reduceAdd, Nat.reduceLT, Nat.reduceSub, Nat.reduceMul, Int.reduceEq, Int.reduceLT, Int.reduceLE, Int.reduceNeg, Int.reduceToNat, List.reduceReplicate, Int.ofNat_le, List.getElem?_drop]
  exact Gh.fin0T (t := t) (hkp2.up ht) (Nat.le_refl _) ⟨hv.bel _, trivial, trivial⟩ fun _ => hk _ _ _ t (.inr ⟨hc, rfl, rfl⟩) hv ho ht
theorem l33Sum_ok (hR : IsR vP vB W B) (szr : SzR W B) (hx : FI vx x) (szx : x.length ≤ 1048576) (hy : FI vy y) (szy : y.length ≤ 1048576)
    (hk : ∀ v z c, CodR p W B [x, y] [] (sumP p W.length W B x y) z c → FI v z → K (.tup [v, .int .i64 c]) σ) : PCalls Try.prog 50 [.agg [.int .i64 p, vP, vB], vx, vy] σ K := by
  have h1 := hR.P.one
  have h2 := hR.B.one
  refine PCalls.gh ?_
  refine pcalls_of_vp mix Try.func50 cf50 rfl ?_
  dsimp only [if50, qI, eI, nI, qD, eD]
  simp only [pwA, if_true, if_false, eq_self, nm_eq, reduceCtorEq, ↓reduceIte, Nat.reduceEqDiff, Nat.reduceLeDiff, Nat.reduceBEq, Nat.reduceAdd, Nat.reduceLT, Nat.reduceSub, Nat.reduceMul, Int.reduceEq, Int.reduceLT, Int.reduceLE, Int.reduceNeg, Int.reduceToNat, List.reduceReplicate, Int.ofNat_le, List.getElem?_drop, h1, h2, hx.one, hx.cells, hy.one, hy.cells]
  have hkp : Keep σ (((σ.new [.int .i64 p, vP, vB]).new [vx, vy]).kill (σ.next + 1)) := ((keep_new σ _).new _).kill (by omega)
  refine PCalls.frz (s := σ.next + 1) (cs := [vx, vy]) (by simp only [pwA, if_true, if_false, eq_self, nm_eq, reduceCtorEq, ↓reduceIte, Nat.reduceEqDiff, Nat.reduceLeDiff, Nat.reduceBEq, Nat.reduceAdd, Nat.reduceLT, Nat.reduceSub, Nat.reduceMul, Int.reduceEq, Int.reduceLT, Int.reduceLE, Int.reduceNeg, Int.reduceToNat, List.reduceReplicate, Int.ofNat_le, List.getElem?_drop]) ⟨hx.bel 0, hy.bel 0, trivial⟩ fun o => ?_
  simp only [sbs, sb, capOK, and_self, if_true, decide_true, Nat.le_refl, hR.P.sb, hR.B.sb, hx.sb, hy.sb]
  refine l33Code_ok (xs := [x, y]) hR szr (two_row hx hy) (SzL.two szx szy) fun c hc => ?_
  by_cases hc0 : c = 0
  rotate_left
  · simp only [pwA, if_true, if_false, eq_self, nm_eq, reduceCtorEq, ↓reduceIte, Nat.reduceEqDiff, Nat.reduceLeDiff, Nat.reduceBEq, Nat.reduceAdd, Nat.reduceLT, Nat.reduceSub, Nat.reduceMul, Int.reduceEq, Int.reduceLT, Int.reduceLE, Int.reduceNeg, Int.reduceToNat, List.reduceReplicate, Int.ofNat_le, List.getElem?_drop, hc0]
    exact Gh.fin0 hkp ⟨trivial, trivial, trivial⟩ (hk _ [] _ (.inl ⟨c, hc, hc0, rfl, rfl⟩) ⟨_, _, rfl⟩)
  subst hc0
  obtain ⟨⟨hl, he⟩, hz⟩ := hc.zero
  obtain ⟨cc, lz⟩ := Lz.of hl hz
  have ow := lz.r.o
  have hx' := he x (by simp)
  have hy' := he y (by simp)
  simp only [pwA, if_true, if_false, eq_self, nm_eq, reduceCtorEq, ↓reduceIte, Nat.reduceEqDiff, Nat.reduceLeDiff, Nat.reduceBEq, Nat.reduceAdd, Nat.reduceLT, Nat.reduceSub, Nat.reduceMul, Int.reduceEq, Int.reduceLT, Int.reduceLE, Int.reduceNeg, Int.reduceToNat, List.reduceReplicate, Int.ofNat_le, List.getElem?_drop]
  refine l33Comm_ok lz hR hx' hy' hx hy fun vc fc => ?_
  simp only [pwA, if_true, if_false, eq_self, nm_eq, reduceCtorEq, ↓reduceIte, Nat.reduceEqDiff, Nat.reduceLeDiff, Nat.reduceBEq, Nat.reduceAdd, Nat.reduceLT, Nat.reduceSub, Nat.reduceMul, Int.reduceEq, Int.reduceLT, Int.reduceLE, Int.reduceNeg, Int.reduceToNat, List.reduceReplicate, Int.ofNat_le, List.getElem?_drop]
  have ec := comm_el lz hx' hy'
  have ea := comm_el lz ec hx'
  have eb := comm_el lz ec hy'
  have lc := lz.comm hx' hy' (lz.r.all hx')
  have la := lz.comm ec hx' lc
  have lb := lz.comm ec hy' lc
  refine l33Comm_ok lz hR ec hx' fc hx fun va fa => ?_
  simp only [pwA, if_true, if_false, eq_self, nm_eq, reduceCtorEq, ↓reduceIte, Nat.reduceEqDiff, Nat.reduceLeDiff, Nat.reduceBEq, Nat.reduceAdd, Nat.reduceLT, Nat.reduceSub, Nat.reduceMul, Int.reduceEq, Int.reduceLT, Int.reduceLE, Int.reduceNeg, Int.reduceToNat, List.reduceReplicate, Int.ofNat_le, List.getElem?_drop]
  refine l33Comm_ok lz hR ec hy' fc hy fun vb fb => ?_
  simp only [pwA, if_true, if_false, eq_self, nm_eq, reduceCtorEq, ↓reduceIte, Nat.reduceEqDiff, Nat.reduceLeDiff, Nat.reduceBEq, Nat.reduceAdd, Nat.reduceLT, Nat.reduceSub, Nat.reduceMul, Int.reduceEq, Int.reduceLT, Int.reduceLE, Int.reduceNeg, Int.reduceToNat, List.reduceReplicate, Int.ofNat_le, List.getElem?_drop]
  refine l33Part_FI ow hR lz.pow ec fc fun v1 z1 d1 f1 => ?_
  rw [part_eq ow ec d1 (c_two lz ec lc)] at f1
  simp only [pwA, if_true, if_false, eq_self, nm_eq, reduceCtorEq, ↓reduceIte, Nat.reduceEqDiff, Nat.reduceLeDiff, Nat.reduceBEq, Nat.reduceAdd, Nat.reduceLT, Nat.reduceSub, Nat.reduceMul, Int.reduceEq, Int.reduceLT, Int.reduceLE, Int.reduceNeg, Int.reduceToNat, List.reduceReplicate, Int.ofNat_le, List.getElem?_drop]
  refine l33Neg_ok ow hR (dv_el ow ec) f1 fun w1 g1 => ?_
  simp only [pwA, if_true, if_false, eq_self, nm_eq, reduceCtorEq, ↓reduceIte, Nat.reduceEqDiff, Nat.reduceLeDiff, Nat.reduceBEq, Nat.reduceAdd, Nat.reduceLT, Nat.reduceSub, Nat.reduceMul, Int.reduceEq, Int.reduceLT, Int.reduceLE, Int.reduceNeg, Int.reduceToNat, List.reduceReplicate, Int.ofNat_le, List.getElem?_drop]
  refine l33Part_FI ow hR lz.pow ea fa fun v2 z2 d2 f2 => ?_
  rw [part_eq ow ea d2 (c_twelve lz ea la)] at f2
  simp only [pwA, if_true, if_false, eq_self, nm_eq, reduceCtorEq, ↓reduceIte, Nat.reduceEqDiff, Nat.reduceLeDiff, Nat.reduceBEq, Nat.reduceAdd, Nat.reduceLT, Nat.reduceSub, Nat.reduceMul, Int.reduceEq, Int.reduceLT, Int.reduceLE, Int.reduceNeg, Int.reduceToNat, List.reduceReplicate, Int.ofNat_le, List.getElem?_drop]
  refine l33Part_FI ow hR lz.pow eb fb fun v3 z3 d3 f3 => ?_
  rw [part_eq ow eb d3 (c_twelve lz eb lb)] at f3
  simp only [pwA, if_true, if_false, eq_self, nm_eq, reduceCtorEq, ↓reduceIte, Nat.reduceEqDiff, Nat.reduceLeDiff, Nat.reduceBEq, Nat.reduceAdd, Nat.reduceLT, Nat.reduceSub, Nat.reduceMul, Int.reduceEq, Int.reduceLT, Int.reduceLE, Int.reduceNeg, Int.reduceToNat, List.reduceReplicate, Int.ofNat_le, List.getElem?_drop]
  refine l33Neg_ok ow hR (dv_el ow eb) f3 fun w3 g3 => ?_
  simp only [pwA, if_true, if_false, eq_self, nm_eq, reduceCtorEq, ↓reduceIte, Nat.reduceEqDiff, Nat.reduceLeDiff, Nat.reduceBEq, Nat.reduceAdd, Nat.reduceLT, Nat.reduceSub, Nat.reduceMul, Int.reduceEq, Int.reduceLT, Int.reduceLE, Int.reduceNeg, Int.reduceToNat, List.reduceReplicate, Int.ofNat_le, List.getElem?_drop, hx.one, hx.cells, hy.one, hy.cells, g1.one, g1.cells, f2.one, f2.cells, g3.one, g3.cells]
  have hkp2 : Keep σ (((((σ.new [.int .i64 p, vP, vB]).new [vx, vy]).kill (σ.next + 1)).new [vx, vy, w1, v2, w3]).kill (σ.next + 2)) := (hkp.new _).kill (by omega)
  refine PCalls.frz (s := σ.next + 2) (cs := [vx, vy, w1, v2, w3]) (by simp only [pwA, if_true, if_false, eq_self, nm_eq, reduceCtorEq, ↓reduceIte, Nat.reduceEqDiff, Nat.reduceLeDiff, Nat.reduceBEq, Nat.reduceAdd, Nat.reduceLT, Nat.reduceSub, Nat.reduceMul, Int.reduceEq, Int.reduceLT, Int.reduceLE, Int.reduceNeg, Int.reduceToNat, List.reduceReplicate, Int.ofNat_le, List.getElem?_drop]) ⟨hx.bel 0, hy.bel 0, g1.bel 0, f2.bel 0, g3.bel 0, trivial⟩ fun o2 => ?_
  simp only [sbs, sb, capOK, and_self, if_true, decide_true, Nat.le_refl, hR.P.sb, hR.B.sb, hx.one, hx.cells, hx.sb, hy.one, hy.cells, hy.sb, g1.one, g1.cells, g1.sb, f2.one, f2.cells, f2.sb, g3.one, g3.cells, g3.sb]
  refine l33Fold_ok lz hR (rows5 hx hy g1 f2 g3) (els5 hx' hy' (neg_el ow (dv_el ow ec)) (dv_el ow ea) (neg_el ow (dv_el ow eb))) (by simp) fun v hv => ?_
  simp only [pwA, if_true, if_false, eq_self, nm_eq, reduceCtorEq, ↓reduceIte, Nat.reduceEqDiff, Nat.reduceLeDiff, Nat.reduceBEq, Nat.reduceAdd, Nat.reduceLT, Nat.reduceSub, Nat.reduceMul, Int.reduceEq, Int.reduceLT, Int.reduceLE, Int.reduceNeg, Int.reduceToNat, List.reduceReplicate, Int.ofNat_le, List.getElem?_drop]
  exact Gh.fin0 hkp2 ⟨hv.bel _, trivial, trivial⟩ (hk _ _ _ (.inr ⟨hc, rfl, rfl⟩) hv)
theorem BracketByProducts_T (hR : IsR vP vB W B) (szr : SzR W B) (hx : FI vx x) (szx : x.length ≤ 1048576) (hy : FI vy y) (szy : y.length ≤ 1048576)
    (hk : ∀ v z c t, CodR p W B [x, y] [] (brkP p W.length W B x y) z c → FI v z → Own σ.top t v → σ.top ≤ t → K (.tup [v, .int .i64 c]) (σ.up t)) : PCalls Try.prog 49 [.agg [.int .i64 p, vP, vB], vx, vy] σ K := by
  have h1 := hR.P.one
  have h2 := hR.B.one
  refine PCalls.gh ?_
  refine pcalls_of_vp mix Try.func49 cf49 rfl ?_
  dsimp only [if49, qI, eI, nI, qD, eD]
  simp only [pwA, if_true, if_false, eq_self, nm_eq, reduceCtorEq, ↓reduceIte, Nat.reduceEqDiff, Nat.reduceLeDiff, Nat.reduceBEq, Nat.reduceAdd, Nat.reduceLT, Nat.reduceSub, Nat.reduceMul, Int.reduceEq, Int.reduceLT, Int.reduceLE, Int.reduceNeg, Int.reduceToNat, List.reduceReplicate, Int.ofNat_le, List.getElem?_drop, h1, h2, hx.one, hx.cells, hy.one, hy.cells]
  have hkp : Keep σ (((σ.new [.int .i64 p, vP, vB]).new [vx, vy]).kill (σ.next + 1)) := ((keep_new σ _).new _).kill (by omega)
  have hs : PtrR (((σ.new [.int .i64 p, vP, vB]).new [vx, vy]).kill (σ.next + 1)) σ.next p vP vB := ⟨by simp only [pwA, if_true, if_false, eq_self, nm_eq, reduceCtorEq, ↓reduceIte, Nat.reduceEqDiff, Nat.reduceLeDiff, Nat.reduceBEq, Nat.reduceAdd, Nat.reduceLT, Nat.reduceSub, Nat.reduceMul, Int.reduceEq, Int.reduceLT, Int.reduceLE, Int.reduceNeg, Int.reduceToNat, List.reduceReplicate, Int.ofNat_le, List.getElem?_drop], by simp only [pwA, if_true, if_false, eq_self, nm_eq, reduceCtorEq, ↓reduceIte, Nat.reduceEqDiff, Nat.reduceLeDiff, Nat.reduceBEq, Nat.reduceAdd, Nat.reduceLT, Nat.reduceSub, Nat.reduceMul, Int.reduceEq, Int.reduceLT, Int.reduceLE, Int.reduceNeg, Int.reduceToNat, List.reduceReplicate, Int.ofNat_le, List.getElem?_drop]; omega⟩
  refine PCalls.frz (s := σ.next + 1) (cs := [vx, vy]) (by simp only [pwA, if_true, if_false, eq_self, nm_eq, reduceCtorEq, ↓reduceIte, Nat.reduceEqDiff, Nat.reduceLeDiff, Nat.reduceBEq, Nat.reduceAdd, Nat.reduceLT, Nat.reduceSub, Nat.reduceMul, Int.reduceEq, Int.reduceLT, Int.reduceLE, Int.reduceNeg, Int.reduceToNat, List.reduceReplicate, Int.ofNat_le, List.getElem?_drop]) ⟨hx.bel 0, hy.bel 0, trivial⟩ fun o => ?_
  simp only [sbs, sb, capOK, and_self, if_true, decide_true, Nat.le_refl, hx.sb, hy.sb]
  refine lazardCode_ok (xs := [x, y]) hs hR szr (two_row hx hy) (SzL.two szx szy) fun c hc => ?_
  by_cases hc0 : c = 0
  rotate_left
  · simp only [pwA, if_true, if_false, eq_self, nm_eq, reduceCtorEq, ↓reduceIte, Nat.reduceEqDiff, Nat.reduceLeDiff, Nat.reduceBEq, Nat.reduceAdd, Nat.reduceLT, Nat.reduceSub, Nat.reduceMul, Int.reduceEq, Int.reduceLT, Int.reduceLE, Int.reduceNeg, Int.reduceToNat, List.reduceReplicate, Int.ofNat_le, List.getElem?_drop, hc0]
    exact Gh.fin0T (t := σ.top) hkp hkp.top ⟨trivial, trivial, trivial⟩ fun _ => hk _ [] _ σ.top (.inl ⟨c, hc, hc0, rfl, rfl⟩) ⟨_, _, rfl⟩ (Own.empty _ _ _ _ _) (Nat.le_refl _)
  subst hc0
  obtain ⟨⟨hl, he⟩, hz⟩ := hc.zero
  obtain ⟨cc, lz⟩ := Lz.of hl hz
  have ow := lz.r.o
  have hx' := he x (by simp)
  have hy' := he y (by simp)
  simp only [pwA, if_true, if_false, eq_self, nm_eq, reduceCtorEq, ↓reduceIte, Nat.reduceEqDiff, Nat.reduceLeDiff, Nat.reduceBEq, Nat.reduceAdd, Nat.reduceLT, Nat.reduceSub, Nat.reduceMul, Int.reduceEq, Int.reduceLT, Int.reduceLE, Int.reduceNeg, Int.reduceToNat, List.reduceReplicate, Int.ofNat_le, List.getElem?_drop]
  refine comm_FI lz hs hR hx' hy' hx hy fun vc fc => ?_
  simp only [pwA, if_true, if_false, eq_self, nm_eq, reduceCtorEq, ↓reduceIte, Nat.reduceEqDiff, Nat.reduceLeDiff, Nat.reduceBEq, Nat.reduceAdd, Nat.reduceLT, Nat.reduceSub, Nat.reduceMul, Int.reduceEq, Int.reduceLT, Int.reduceLE, Int.reduceNeg, Int.reduceToNat, List.reduceReplicate, Int.ofNat_le, List.getElem?_drop]
  have ec := comm_el lz hx' hy'
  have ea := comm_el lz ec hx'
  have eb := comm_el lz ec hy'
  have lc := lz.comm hx' hy' (lz.r.all hx')
  have la := lz.comm ec hx' lc
  have lb := lz.comm ec hy' lc
  refine comm_FI lz hs hR ec hx' fc hx fun va fa => ?_
  simp only [pwA, if_true, if_false, eq_self, nm_eq, reduceCtorEq, ↓reduceIte, Nat.reduceEqDiff, Nat.reduceLeDiff, Nat.reduceBEq, Nat.reduceAdd, Nat.reduceLT, Nat.reduceSub, Nat.reduceMul, Int.reduceEq, Int.reduceLT, Int.reduceLE, Int.reduceNeg, Int.reduceToNat, List.reduceReplicate, Int.ofNat_le, List.getElem?_drop]
  refine divideLie_FI ow hs hR.P lz.pow ea fa fun v2 z2 d2 f2 => ?_
  rw [part_neg ow ea d2 (c_two lz ea (lz.r.down la))] at f2
  simp only [pwA, if_true, if_false, eq_self, nm_eq, reduceCtorEq, ↓reduceIte, Nat.reduceEqDiff, Nat.reduceLeDiff, Nat.reduceBEq, Nat.reduceAdd, Nat.reduceLT, Nat.reduceSub, Nat.reduceMul, Int.reduceEq, Int.reduceLT, Int.reduceLE, Int.reduceNeg, Int.reduceToNat, List.reduceReplicate, Int.ofNat_le, List.getElem?_drop]
  refine comm_FI lz hs hR ec hy' fc hy fun vb fb => ?_
  simp only [pwA, if_true, if_false, eq_self, nm_eq, reduceCtorEq, ↓reduceIte, Nat.reduceEqDiff, Nat.reduceLeDiff, Nat.reduceBEq, Nat.reduceAdd, Nat.reduceLT, Nat.reduceSub, Nat.reduceMul, Int.reduceEq, Int.reduceLT, Int.reduceLE, Int.reduceNeg, Int.reduceToNat, List.reduceReplicate, Int.ofNat_le, List.getElem?_drop]
  refine divideLie_FI ow hs hR.P lz.pow eb fb fun v3 z3 d3 f3 => ?_
  rw [part_neg ow eb d3 (c_two lz eb (lz.r.down lb))] at f3
  simp only [pwA, if_true, if_false, eq_self, nm_eq, reduceCtorEq, ↓reduceIte, Nat.reduceEqDiff, Nat.reduceLeDiff, Nat.reduceBEq, Nat.reduceAdd, Nat.reduceLT, Nat.reduceSub, Nat.reduceMul, Int.reduceEq, Int.reduceLT, Int.reduceLE, Int.reduceNeg, Int.reduceToNat, List.reduceReplicate, Int.ofNat_le, List.getElem?_drop, hx.one, hx.cells, hy.one, hy.cells, fc.one, fc.cells, f2.one, f2.cells, f3.one, f3.cells]
  have hkp2 : Keep σ (((((σ.new [.int .i64 p, vP, vB]).new [vx, vy]).kill (σ.next + 1)).new [vc, v2, v3]).kill (σ.next + 2)) := (hkp.new _).kill (by omega)
  have hs2 : PtrR (((((σ.new [.int .i64 p, vP, vB]).new [vx, vy]).kill (σ.next + 1)).new [vc, v2, v3]).kill (σ.next + 2)) σ.next p vP vB := ⟨by simp only [pwA, if_true, if_false, eq_self, nm_eq, reduceCtorEq, ↓reduceIte, Nat.reduceEqDiff, Nat.reduceLeDiff, Nat.reduceBEq, Nat.reduceAdd, Nat.reduceLT, Nat.reduceSub, Nat.reduceMul, Int.reduceEq, Int.reduceLT, Int.reduceLE, Int.reduceNeg, Int.reduceToNat, List.reduceReplicate, Int.ofNat_le, List.getElem?_drop], by simp only [pwA, if_true, if_false, eq_self, nm_eq, reduceCtorEq, ↓reduceIte, Nat.reduceEqDiff, Nat.reduceLeDiff, Nat.reduceBEq, Nat.reduceAdd, Nat.reduceLT, Nat.reduceSub, Nat.reduceMul, Int.reduceEq, Int.reduceLT, Int.reduceLE, Int.reduceNeg, Int.reduceToNat, List.reduceReplicate, Int.ofNat_le, List.getElem?_drop]; omega⟩
  refine PCalls.frz (s := σ.next + 2) (cs := [vc, v2, v3]) (by simp only [pwA, if_true, if_false, eq_self, nm_eq, reduceCtorEq, ↓reduceIte, Nat.reduceEqDiff, Nat.reduceLeDiff, Nat.reduceBEq, Nat.reduceAdd, Nat.reduceLT, Nat.reduceSub, Nat.reduceMul, Int.reduceEq, Int.reduceLT, Int.reduceLE, Int.reduceNeg, Int.reduceToNat, List.reduceReplicate, Int.ofNat_le, List.getElem?_drop]) ⟨fc.bel 0, f2.bel 0, f3.bel 0, trivial⟩ fun o2 => ?_
  simp only [sbs, sb, capOK, and_self, if_true, decide_true, Nat.le_refl, fc.one, fc.cells, fc.sb, f2.one, f2.cells, f2.sb, f3.one, f3.cells, f3.sb]
  refine PCalls.fzIT (fun K' => bchFold_ok lz hs2 hR (rows3 fc f2 f3) (els3 ec (neg_el ow (dv_el ow ea)) (neg_el ow (dv_el ow eb))) (by simp)) fun v t hv ho ht => ?_
  simp only [pwA, if_true, if_false, eq_self, nm_eq, reduceCtorEq, ↓reduceIte, Nat.reduceEqDiff, Nat.reduceLeDiff, Nat.reduceBEq, Nat.reduceAdd, Nat.reduceLT, Nat.reduceSub, Nat.reduceMul, Int.reduceEq, Int.reduceLT, Int.reduceLE, Int.reduceNeg, Int.reduceToNat, List.reduceReplicate, Int.ofNat_le, List.getElem?_drop]
  exact Gh.fin0T (t := t) (hkp2.up ht) (Nat.le_refl _) ⟨hv.bel _, trivial, trivial⟩ fun _ => hk _ _ _ t (.inr ⟨hc, rfl, rfl⟩) hv ho ht
theorem l33Brk_ok (hR : IsR vP vB W B) (szr : SzR W B) (hx : FI vx x) (szx : x.length ≤ 1048576) (hy : FI vy y) (szy : y.length ≤ 1048576)
    (hk : ∀ v z c, CodR p W B [x, y] [] (brkP p W.length W B x y) z c → FI v z → K (.tup [v, .int .i64 c]) σ) : PCalls Try.prog 48 [.agg [.int .i64 p, vP, vB], vx, vy] σ K := by
  have h1 := hR.P.one
  have h2 := hR.B.one
  refine PCalls.gh ?_
  refine pcalls_of_vp mix Try.func48 cf48 rfl ?_
  dsimp only [if48, qI, eI, nI, qD, eD]
  simp only [pwA, if_true, if_false, eq_self, nm_eq, reduceCtorEq, ↓reduceIte, Nat.reduceEqDiff, Nat.reduceLeDiff, Nat.reduceBEq, Nat.reduceAdd, Nat.reduceLT, Nat.reduceSub, Nat.reduceMul, Int.reduceEq, Int.reduceLT, Int.reduceLE, Int.reduceNeg, Int.reduceToNat, List.reduceReplicate, Int.ofNat_le, List.getElem?_drop, h1, h2, hx.one, hx.cells, hy.one, hy.cells]
  have hkp : Keep σ (((σ.new [.int .i64 p, vP, vB]).new [vx, vy]).kill (σ.next + 1)) := ((keep_new σ _).new _).kill (by omega)
  refine PCalls.frz (s := σ.next + 1) (cs := [vx, vy]) (by simp only [pwA, if_true, if_false, eq_self, nm_eq, reduceCtorEq, ↓reduceIte, Nat.reduceEqDiff, Nat.reduceLeDiff, Nat.reduceBEq, Nat.reduceAdd, Nat.reduceLT, Nat.reduceSub, Nat.reduceMul, Int.reduceEq, Int.reduceLT, Int.reduceLE, Int.reduceNeg, Int.reduceToNat, List.reduceReplicate, Int.ofNat_le, List.getElem?_drop]) ⟨hx.bel 0, hy.bel 0, trivial⟩ fun o => ?_
  simp only [sbs, sb, capOK, and_self, if_true, decide_true, Nat.le_refl, hR.P.sb, hR.B.sb, hx.sb, hy.sb]
  refine l33Code_ok (xs := [x, y]) hR szr (two_row hx hy) (SzL.two szx szy) fun c hc => ?_
  by_cases hc0 : c = 0
  rotate_left
  · simp only [pwA, if_true, if_false, eq_self, nm_eq, reduceCtorEq, ↓reduceIte, Nat.reduceEqDiff, Nat.reduceLeDiff, Nat.reduceBEq, Nat.reduceAdd, Nat.reduceLT, Nat.reduceSub, Nat.reduceMul, Int.reduceEq, Int.reduceLT, Int.reduceLE, Int.reduceNeg, Int.reduceToNat, List.reduceReplicate, Int.ofNat_le, List.getElem?_drop, hc0]
    exact Gh.fin0 hkp ⟨trivial, trivial, trivial⟩ (hk _ [] _ (.inl ⟨c, hc, hc0, rfl, rfl⟩) ⟨_, _, rfl⟩)
  subst hc0
  obtain ⟨⟨hl, he⟩, hz⟩ := hc.zero
  obtain ⟨cc, lz⟩ := Lz.of hl hz
  have ow := lz.r.o
  have hx' := he x (by simp)
  have hy' := he y (by simp)
  simp only [pwA, if_true, if_false, eq_self, nm_eq, reduceCtorEq, ↓reduceIte, Nat.reduceEqDiff, Nat.reduceLeDiff, Nat.reduceBEq, Nat.reduceAdd, Nat.reduceLT, Nat.reduceSub, Nat.reduceMul, Int.reduceEq, Int.reduceLT, Int.reduceLE, Int.reduceNeg, Int.reduceToNat, List.reduceReplicate, Int.ofNat_le, List.getElem?_drop]
  refine l33Comm_ok lz hR hx' hy' hx hy fun vc fc => ?_
  simp only [pwA, if_true, if_false, eq_self, nm_eq, reduceCtorEq, ↓reduceIte, Nat.reduceEqDiff, Nat.reduceLeDiff, Nat.reduceBEq, Nat.reduceAdd, Nat.reduceLT, Nat.reduceSub, Nat.reduceMul, Int.reduceEq, Int.reduceLT, Int.reduceLE, Int.reduceNeg, Int.reduceToNat, List.reduceReplicate, Int.ofNat_le, List.getElem?_drop]
  have ec := comm_el lz hx' hy'
  have ea := comm_el lz ec hx'
  have eb := comm_el lz ec hy'
  have lc := lz.comm hx' hy' (lz.r.all hx')
  have la := lz.comm ec hx' lc
  have lb := lz.comm ec hy' lc
  refine l33Comm_ok lz hR ec hx' fc hx fun va fa => ?_
  simp only [pwA, if_true, if_false, eq_self, nm_eq, reduceCtorEq, ↓reduceIte, Nat.reduceEqDiff, Nat.reduceLeDiff, Nat.reduceBEq, Nat.reduceAdd, Nat.reduceLT, Nat.reduceSub, Nat.reduceMul, Int.reduceEq, Int.reduceLT, Int.reduceLE, Int.reduceNeg, Int.reduceToNat, List.reduceReplicate, Int.ofNat_le, List.getElem?_drop]
  refine l33Comm_ok lz hR ec hy' fc hy fun vb fb => ?_
  simp only [pwA, if_true, if_false, eq_self, nm_eq, reduceCtorEq, ↓reduceIte, Nat.reduceEqDiff, Nat.reduceLeDiff, Nat.reduceBEq, Nat.reduceAdd, Nat.reduceLT, Nat.reduceSub, Nat.reduceMul, Int.reduceEq, Int.reduceLT, Int.reduceLE, Int.reduceNeg, Int.reduceToNat, List.reduceReplicate, Int.ofNat_le, List.getElem?_drop]
  refine l33Part_FI ow hR lz.pow ea fa fun v2 z2 d2 f2 => ?_
  rw [part_eq ow ea d2 (c_two lz ea (lz.r.down la))] at f2
  simp only [pwA, if_true, if_false, eq_self, nm_eq, reduceCtorEq, ↓reduceIte, Nat.reduceEqDiff, Nat.reduceLeDiff, Nat.reduceBEq, Nat.reduceAdd, Nat.reduceLT, Nat.reduceSub, Nat.reduceMul, Int.reduceEq, Int.reduceLT, Int.reduceLE, Int.reduceNeg, Int.reduceToNat, List.reduceReplicate, Int.ofNat_le, List.getElem?_drop]
  refine l33Neg_ok ow hR (dv_el ow ea) f2 fun w2 g2 => ?_
  simp only [pwA, if_true, if_false, eq_self, nm_eq, reduceCtorEq, ↓reduceIte, Nat.reduceEqDiff, Nat.reduceLeDiff, Nat.reduceBEq, Nat.reduceAdd, Nat.reduceLT, Nat.reduceSub, Nat.reduceMul, Int.reduceEq, Int.reduceLT, Int.reduceLE, Int.reduceNeg, Int.reduceToNat, List.reduceReplicate, Int.ofNat_le, List.getElem?_drop]
  refine l33Part_FI ow hR lz.pow eb fb fun v3 z3 d3 f3 => ?_
  rw [part_eq ow eb d3 (c_two lz eb (lz.r.down lb))] at f3
  simp only [pwA, if_true, if_false, eq_self, nm_eq, reduceCtorEq, ↓reduceIte, Nat.reduceEqDiff, Nat.reduceLeDiff, Nat.reduceBEq, Nat.reduceAdd, Nat.reduceLT, Nat.reduceSub, Nat.reduceMul, Int.reduceEq, Int.reduceLT, Int.reduceLE, Int.reduceNeg, Int.reduceToNat, List.reduceReplicate, Int.ofNat_le, List.getElem?_drop]
  refine l33Neg_ok ow hR (dv_el ow eb) f3 fun w3 g3 => ?_
  simp only [pwA, if_true, if_false, eq_self, nm_eq, reduceCtorEq, ↓reduceIte, Nat.reduceEqDiff, Nat.reduceLeDiff, Nat.reduceBEq, Nat.reduceAdd, Nat.reduceLT, Nat.reduceSub, Nat.reduceMul, Int.reduceEq, Int.reduceLT, Int.reduceLE, Int.reduceNeg, Int.reduceToNat, List.reduceReplicate, Int.ofNat_le, List.getElem?_drop, fc.one, fc.cells, g2.one, g2.cells, g3.one, g3.cells]
  have hkp2 : Keep σ (((((σ.new [.int .i64 p, vP, vB]).new [vx, vy]).kill (σ.next + 1)).new [vc, w2, w3]).kill (σ.next + 2)) := (hkp.new _).kill (by omega)
  refine PCalls.frz (s := σ.next + 2) (cs := [vc, w2, w3]) (by simp only [pwA, if_true, if_false, eq_self, nm_eq, reduceCtorEq, ↓reduceIte, Nat.reduceEqDiff, Nat.reduceLeDiff, Nat.reduceBEq, Nat.reduceAdd, Nat.reduceLT, Nat.reduceSub, Nat.reduceMul, Int.reduceEq, Int.reduceLT, Int.reduceLE, Int.reduceNeg, Int.reduceToNat, List.reduceReplicate, Int.ofNat_le, List.getElem?_drop]) ⟨fc.bel 0, g2.bel 0, g3.bel 0, trivial⟩ fun o2 => ?_
  simp only [sbs, sb, capOK, and_self, if_true, decide_true, Nat.le_refl, hR.P.sb, hR.B.sb, fc.one, fc.cells, fc.sb, g2.one, g2.cells, g2.sb, g3.one, g3.cells, g3.sb]
  refine l33Fold_ok lz hR (rows3 fc g2 g3) (els3 ec (neg_el ow (dv_el ow ea)) (neg_el ow (dv_el ow eb))) (by simp) fun v hv => ?_
  simp only [pwA, if_true, if_false, eq_self, nm_eq, reduceCtorEq, ↓reduceIte, Nat.reduceEqDiff, Nat.reduceLeDiff, Nat.reduceBEq, Nat.reduceAdd, Nat.reduceLT, Nat.reduceSub, Nat.reduceMul, Int.reduceEq, Int.reduceLT, Int.reduceLE, Int.reduceNeg, Int.reduceToNat, List.reduceReplicate, Int.ofNat_le, List.getElem?_drop]
  exact Gh.fin0 hkp2 ⟨hv.bel _, trivial, trivial⟩ (hk _ _ _ (.inr ⟨hc, rfl, rfl⟩) hv)
end Go.Proofs
set_option linter.unusedSimpArgs false
set_option linter.unusedVariables false
namespace Go.Proofs
open Go.Ab Go.Lie
variable {σ : PHeap} {K : PV → PHeap → Prop} {p : Int} {n c m k : Nat} {W : List (List Int)} {B : List (List (List Int))} {vP vB vL : PV} {s : Nat} {x y u v : List Int} {vx vy : PV} {xs : List (List Int)}
theorem totR_bd (sz : SzR W B) : totR W B ≤ 1153000000000000000 := by
  have h1 := totL_bd (m := 1048576) (len := List.length) sz.w
  have h2 : ∀ q ∈ B, totL List.length q ≤ 1099511627776 := fun q hq => by
    have h3 := totL_bd (m := 1048576) (len := List.length) (sz.c q hq)
    have h4 := sz.b q hq
    omega
  have h3 := totL_bd (m := 1099511627776) (len := totL List.length) h2
  have h4 := sz.Wl
  have h5 := sz.Bl
  unfold totR
  omega
theorem totII_bd (sz : SzL xs) : totL List.length xs ≤ 1099511627776 := by
  have h3 := totL_bd (m := 1048576) (len := List.length) sz.r
  have h4 := sz.l
  omega
theorem CodR.fold_bd {z : List Int} {c : Int} {ys : List (List Int)} (h : CodR p W B ys [] (fold p W.length W B xs) z c) (hx : (isLie p W B ∧ Els p W.length ys) ∧ isLz p W.length W B → Els p W.length xs) : z.length ≤ 6 :=
  h.bd fun hh => fold_el hh.1.1.1.w hh.1.1.1.b (hx hh)
theorem el2 (h : Els p n [x, y]) : El p n x ∧ El p n y := ⟨h x (by simp), h y (by simp)⟩
theorem prod_bd {z : List Int} {c : Int} (h : CodR p W B [x, y] [] (bch p W.length W B x y) z c) : z.length ≤ 6 := h.bd fun hh => bch_el hh.1.1.1.w hh.1.1.1.b (el2 hh.1.2).1 (el2 hh.1.2).2
theorem comm_bd {z : List Int} {c : Int} (h : CodR p W B [x, y] [] (comm p W.length W B x y) z c) : z.length ≤ 6 := h.fold_bd fun hh => els4 (neg_el hh.1.1.1.w (el2 hh.1.2).1) (neg_el hh.1.1.1.w (el2 hh.1.2).2) (el2 hh.1.2).1 (el2 hh.1.2).2
theorem conj_bd {z : List Int} {c : Int} (h : CodR p W B [x, y] [] (conj p W.length W B x y) z c) : z.length ≤ 6 := h.fold_bd fun hh => els3 (neg_el hh.1.1.1.w (el2 hh.1.2).2) (el2 hh.1.2).1 (el2 hh.1.2).2
theorem sum_bd {z : List Int} {c : Int} (h : CodR p W B [x, y] [] (sumP p W.length W B x y) z c) : z.length ≤ 6 := h.fold_bd fun hh => by
  obtain ⟨cc, lz⟩ := Lz.of hh.1.1 hh.2
  obtain ⟨hx, hy⟩ := el2 hh.1.2
  have ec := comm_el lz hx hy
  exact els5 hx hy (neg_el lz.r.o (dv_el lz.r.o ec)) (dv_el lz.r.o (comm_el lz ec hx)) (neg_el lz.r.o (dv_el lz.r.o (comm_el lz ec hy)))
theorem brk_bd {z : List Int} {c : Int} (h : CodR p W B [x, y] [] (brkP p W.length W B x y) z c) : z.length ≤ 6 := h.fold_bd fun hh => by
  obtain ⟨cc, lz⟩ := Lz.of hh.1.1 hh.2
  obtain ⟨hx, hy⟩ := el2 hh.1.2
  have ec := comm_el lz hx hy
  exact els3 ec (neg_el lz.r.o (dv_el lz.r.o (comm_el lz ec hx))) (neg_el lz.r.o (dv_el lz.r.o (comm_el lz ec hy)))
theorem RootR.bd {k : Int} {z : List Int} {c : Int} (hz : RootR p W B k x z c) : z.length ≤ 6 := by
  rcases hz with ⟨_, _, _, _, rfl⟩ | ⟨_, _, _, rfl⟩ | ⟨hc, _, _, hd⟩
  · simp
  · simp
  · have := hd.el.1; have := hc.zero.1.1.1.w.le; omega
theorem BchFold_T (hR : IsR vP vB W B) (szr : SzR W B) (hL : FII vL xs) (sz : SzL xs)
    (hk : ∀ v z c t, CodR p W B xs [] (fold p W.length W B xs) z c → FI v z → Own σ.top t v → σ.top ≤ t → K (.tup [v, .int .i64 c]) (σ.up t)) : PCalls Try.prog 43 [.agg [.int .i64 p, vP, vB], vL] σ K := by
  have h1 := hR.P.one
  have h2 := hR.B.one
  refine PCalls.gh ?_
  refine pcalls_of_vp mix Try.func43 cf43 rfl ?_
  dsimp only [if43, qI, eI, nI, qD, eD]
  simp only [pwA, if_true, if_false, eq_self, nm_eq, reduceCtorEq, ↓reduceIte, Nat.reduceEqDiff, Nat.reduceLeDiff, Nat.reduceBEq, Nat.reduceAdd, Nat.reduceLT, Nat.reduceSub, Nat.reduceMul, Int.reduceEq, Int.reduceLT, Int.reduceLE, Int.reduceNeg, Int.reduceToNat, List.reduceReplicate, Int.ofNat_le, List.getElem?_drop, h1, h2]
  have hkp : Keep σ (σ.new [.int .i64 p, vP, vB]) := keep_new σ _
  have hs : PtrR (σ.new [.int .i64 p, vP, vB]) σ.next p vP vB := ⟨by simp only [pwA, if_true, if_false, eq_self, nm_eq, reduceCtorEq, ↓reduceIte, Nat.reduceEqDiff, Nat.reduceLeDiff, Nat.reduceBEq, Nat.reduceAdd, Nat.reduceLT, Nat.reduceSub, Nat.reduceMul, Int.reduceEq, Int.reduceLT, Int.reduceLE, Int.reduceNeg, Int.reduceToNat, List.reduceReplicate, Int.ofNat_le, List.getElem?_drop], by simp only [pwA, if_true, if_false, eq_self, nm_eq, reduceCtorEq, ↓reduceIte, Nat.reduceEqDiff, Nat.reduceLeDiff, Nat.reduceBEq, Nat.reduceAdd, Nat.reduceLT, Nat.reduceSub, Nat.reduceMul, Int.reduceEq, Int.reduceLT, Int.reduceLE, Int.reduceNeg, Int.reduceToNat, List.reduceReplicate, Int.ofNat_le, List.getElem?_drop]⟩
  refine lazardCode_ok hs hR szr hL sz fun c hc => ?_
  by_cases hc0 : c = 0
  rotate_left
  · simp only [pwA, if_true, if_false, eq_self, nm_eq, reduceCtorEq, ↓reduceIte, Nat.reduceEqDiff, Nat.reduceLeDiff, Nat.reduceBEq, Nat.reduceAdd, Nat.reduceLT, Nat.reduceSub, Nat.reduceMul, Int.reduceEq, Int.reduceLT, Int.reduceLE, Int.reduceNeg, Int.reduceToNat, List.reduceReplicate, Int.ofNat_le, List.getElem?_drop, hc0]
    exact Gh.fin0T (t := σ.top) hkp hkp.top ⟨trivial, trivial, trivial⟩ fun _ => hk _ [] _ σ.top (.inl ⟨c, hc, hc0, rfl, rfl⟩) ⟨_, _, rfl⟩ (Own.empty _ _ _ _ _) (Nat.le_refl _)
  subst hc0
  obtain ⟨⟨hl, he⟩, hz⟩ := hc.zero
  obtain ⟨cc, lz⟩ := Lz.of hl hz
  simp only [pwA, if_true, if_false, eq_self, nm_eq, reduceCtorEq, ↓reduceIte, Nat.reduceEqDiff, Nat.reduceLeDiff, Nat.reduceBEq, Nat.reduceAdd, Nat.reduceLT, Nat.reduceSub, Nat.reduceMul, Int.reduceEq, Int.reduceLT, Int.reduceLE, Int.reduceNeg, Int.reduceToNat, List.reduceReplicate, Int.ofNat_le, List.getElem?_drop]
  refine PCalls.fzIT (fun K' => bchFold_ok lz hs hR hL he sz.l) fun v t hv ho ht => ?_
  simp only [pwA, if_true, if_false, eq_self, nm_eq, reduceCtorEq, ↓reduceIte, Nat.reduceEqDiff, Nat.reduceLeDiff, Nat.reduceBEq, Nat.reduceAdd, Nat.reduceLT, Nat.reduceSub, Nat.reduceMul, Int.reduceEq, Int.reduceLT, Int.reduceLE, Int.reduceNeg, Int.reduceToNat, List.reduceReplicate, Int.ofNat_le, List.getElem?_drop]
  exact Gh.fin0T (t := t) (hkp.up ht) (Nat.le_refl _) ⟨hv.bel _, trivial, trivial⟩ fun _ => hk _ _ _ t (.inr ⟨hc, rfl, rfl⟩) hv ho ht
theorem l33BchFold_ok (hR : IsR vP vB W B) (szr : SzR W B) (hL : FII vL xs) (sz : SzL xs)
    (hk : ∀ v z c, CodR p W B xs [] (fold p W.length W B xs) z c → FI v z → K (.tup [v, .int .i64 c]) σ) : PCalls Try.prog 42 [.agg [.int .i64 p, vP, vB], vL] σ K := by
  have h1 := hR.P.one
  have h2 := hR.B.one
  refine PCalls.gh ?_
  refine pcalls_of_vp mix Try.func42 cf42 rfl ?_
  dsimp only [if42, qI, eI, nI, qD, eD]
  simp only [pwA, if_true, if_false, eq_self, nm_eq, reduceCtorEq, ↓reduceIte, Nat.reduceEqDiff, Nat.reduceLeDiff, Nat.reduceBEq, Nat.reduceAdd, Nat.reduceLT, Nat.reduceSub, Nat.reduceMul, Int.reduceEq, Int.reduceLT, Int.reduceLE, Int.reduceNeg, Int.reduceToNat, List.reduceReplicate, Int.ofNat_le, List.getElem?_drop, h1, h2]
  have hkp : Keep σ (σ.new [.int .i64 p, vP, vB]) := keep_new σ _
  refine l33Code_ok hR szr hL sz fun c hc => ?_
  by_cases hc0 : c = 0
  rotate_left
  · simp only [pwA, if_true, if_false, eq_self, nm_eq, reduceCtorEq, ↓reduceIte, Nat.reduceEqDiff, Nat.reduceLeDiff, Nat.reduceBEq, Nat.reduceAdd, Nat.reduceLT, Nat.reduceSub, Nat.reduceMul, Int.reduceEq, Int.reduceLT, Int.reduceLE, Int.reduceNeg, Int.reduceToNat, List.reduceReplicate, Int.ofNat_le, List.getElem?_drop, hc0]
    exact Gh.fin0 hkp ⟨trivial, trivial, trivial⟩ (hk _ [] _ (.inl ⟨c, hc, hc0, rfl, rfl⟩) ⟨_, _, rfl⟩)
  subst hc0
  obtain ⟨⟨hl, he⟩, hz⟩ := hc.zero
  obtain ⟨cc, lz⟩ := Lz.of hl hz
  simp only [pwA, if_true, if_false, eq_self, nm_eq, reduceCtorEq, ↓reduceIte, Nat.reduceEqDiff, Nat.reduceLeDiff, Nat.reduceBEq, Nat.reduceAdd, Nat.reduceLT, Nat.reduceSub, Nat.reduceMul, Int.reduceEq, Int.reduceLT, Int.reduceLE, Int.reduceNeg, Int.reduceToNat, List.reduceReplicate, Int.ofNat_le, List.getElem?_drop]
  refine l33Fold_ok lz hR hL he sz.l fun v hv => ?_
  simp only [pwA, if_true, if_false, eq_self, nm_eq, reduceCtorEq, ↓reduceIte, Nat.reduceEqDiff, Nat.reduceLeDiff, Nat.reduceBEq, Nat.reduceAdd, Nat.reduceLT, Nat.reduceSub, Nat.reduceMul, Int.reduceEq, Int.reduceLT, Int.reduceLE, Int.reduceNeg, Int.reduceToNat, List.reduceReplicate, Int.ofNat_le, List.getElem?_drop]
  exact Gh.fin0 hkp ⟨hv.bel _, trivial, trivial⟩ (hk _ _ _ (.inr ⟨hc, rfl, rfl⟩) hv)
end Go.Proofs
