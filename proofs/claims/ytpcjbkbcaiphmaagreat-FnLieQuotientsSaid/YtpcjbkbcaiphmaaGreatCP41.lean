/- What holds while a ring is drawn. -/
import Derived.Test.YtpcjbkbcaiphmaaGreatCP31
import Derived.Test.YtpcjbkbcaiphmaaGreatCAbPa
import Derived.Test.YtpcjbkbcaiphmaaGreatCP36
import Derived.Test.YtpcjbkbcaiphmaaGreatCP29
import Derived.Test.YtpcjbkbcaiphmaaGreatCP33
open Nat renaming reduceLeDiff → nQ7, reduceEqDiff → nQ10, reduceBEq → nQ11, reduceAdd → nQ12, reduceLT → nQ16, reduceSub → nQ17, reduceMul → nQ18
open Int renaming reduceEq → iQ2, reduceLT → iQ3, reduceLE → iQ4, reduceNeg → iQ5, reduceToNat → iQ6, ofNat_le → iQ7
open List renaming reduceReplicate → lQ19, getElem?_drop → lQ20
set_option linter.unusedSimpArgs false
set_option linter.unusedVariables false
namespace Go.Proofs
open Go.Ab Go.Lie
variable {σ : PHeap} {K : PV → PHeap → Prop} {n : Nat} {p : Int}
structure LS where
  s : Nat
  cap : Cap
  cs : List PV
def LS.pv (q : LS) : PV := .sl q.s 0 q.cs.length q.cap
def LS.ok (h : PHeap) (b : Nat) (q : LS) : Prop := full 1 q.cap q.cs.length ∧ h.obj q.s = some q.cs ∧ b ≤ q.s ∧ q.s < h.next
def LS.pvo : Option LS → PV
  | none => .fz true .nils 0 []
  | some q => q.pv
def LS.slots : List (Option LS) → List Nat
  | [] => []
  | none :: ls => LS.slots ls
  | some q :: ls => q.s :: LS.slots ls
theorem LS.slots_app : ∀ (a b : List (Option LS)), LS.slots (a ++ b) = LS.slots a ++ LS.slots b
  | [], b => rfl
  | none :: a, b => by simp only [List.cons_append, LS.slots, LS.slots_app a b]
  | some q :: a, b => by simp only [List.cons_append, LS.slots, LS.slots_app a b]
theorem LS.mem_slots {s : Nat} : ∀ {ls : List (Option LS)}, s ∈ LS.slots ls ↔ ∃ q, some q ∈ ls ∧ q.s = s
  | [] => by simp [LS.slots]
  | none :: ls => by simp [LS.slots, LS.mem_slots (ls := ls)]
  | some q :: ls => by
    simp only [LS.slots, List.mem_cons, LS.mem_slots (ls := ls)]
    constructor
    · rintro (rfl | ⟨q', h1, h2⟩)
      · exact ⟨q, .inl rfl, rfl⟩
      · exact ⟨q', .inr h1, h2⟩
    · rintro ⟨q', h1 | h1, h2⟩
      · cases h1; exact .inl h2.symm
      · exact .inr ⟨q', h1, h2⟩
theorem LS.ok.move {h h2 : PHeap} {b : Nat} {q : LS} (a : q.ok h b) (ho : h2.obj q.s = h.obj q.s) (hn : h.next ≤ h2.next) : q.ok h2 b := ⟨a.1, by rw [ho]; exact a.2.1, a.2.2.1, Nat.lt_of_lt_of_le a.2.2.2 hn⟩
theorem pacc_move {b e m : Nat} {h h2 : PHeap} {v : PV} {cs : List PV} (a : PAcc b e h v m cs) (ho : ∀ s off l c, v = .sl s off l c → h2.obj s = h.obj s) (hn : h.next ≤ h2.next) : PAcc b e h2 v m cs := by
  rcases a with a | ⟨s, cap, rfl, h1, h2', h3, h4, h5⟩
  · exact .inl a
  · exact .inr ⟨s, cap, rfl, h1, by rw [ho s 0 _ cap rfl]; exact h2', h3, h4, Nat.lt_of_lt_of_le h5 hn⟩
theorem pacc_lt {b e m : Nat} {h : PHeap} {v : PV} {cs : List PV} (a : PAcc b e h v m cs) {s off l : Nat} {c : Cap} (hv : v = .sl s off l c) : s < h.next := by
  rcases a with ⟨rfl, _⟩ | ⟨s', cap, rfl, h1, h2', h3, h4, h5⟩
  · cases hv
  · cases hv; exact h5
structure TI (σ h : PHeap) (p0 sO : Nat) (vO vP vC : PV) (cO pc : List PV) (ls : List (Option LS)) : Prop where
  keep : Keep σ h
  obj : h.obj p0 = some [vO, vP, vC]
  p0b : σ.next ≤ p0 ∧ p0 < h.next
  oO : h.obj sO = some cO
  sOb : σ.next ≤ sO ∧ sO < h.next
  pO : p0 ≠ sO
  accP : PAcc σ.next 1 h vP pc.length pc
  accC : PAcc σ.next 1 h vC ls.length (ls.map LS.pvo)
  ok : ∀ q, some q ∈ ls → q.ok h σ.next
  nd : (LS.slots ls).Nodup
  neP : ∀ s, s ∈ LS.slots ls ∨ s = p0 ∨ s = sO → ∀ off l c, vP ≠ .sl s off l c
  neC : ∀ s, s ∈ LS.slots ls ∨ s = p0 ∨ s = sO → ∀ off l c, vC ≠ .sl s off l c
  neL : p0 ∉ LS.slots ls ∧ sO ∉ LS.slots ls
  nePC : ∀ s off l c, vP = .sl s off l c → ∀ off l c, vC ≠ .sl s off l c
variable {h : PHeap} {p0 sO : Nat} {vO vP vC : PV} {cO pc : List PV} {ls : List (Option LS)}
theorem TI.lt (a : TI σ h p0 sO vO vP vC cO pc ls) {s : Nat} (hs : s ∈ LS.slots ls) : σ.next ≤ s ∧ s < h.next := by
  obtain ⟨q, hq, rfl⟩ := LS.mem_slots.1 hs
  have := a.ok q hq
  exact ⟨this.2.2.1, this.2.2.2⟩
theorem TI.keepI {h2 : PHeap} (a : TI σ h p0 sO vO vP vC cO pc ls) (k : Keep h h2) : TI σ h2 p0 sO vO vP vC cO pc ls :=
  ⟨a.keep.trans k, by rw [k.obj _ a.p0b.2]; exact a.obj, ⟨a.p0b.1, Nat.lt_of_lt_of_le a.p0b.2 k.next⟩, by rw [k.obj _ a.sOb.2]; exact a.oO, ⟨a.sOb.1, Nat.lt_of_lt_of_le a.sOb.2 k.next⟩, a.pO, a.accP.keep k, a.accC.keep k,
   fun q hq => (a.ok q hq).move (k.obj _ (a.ok q hq).2.2.2) k.next, a.nd, a.neP, a.neC, a.neL, a.nePC⟩
theorem TI.pushP {K : PV × PHeap → Prop} {row : PV} (a : TI σ h p0 sO vO vP vC cO pc ls) (hone : vO.one = true ∧ vC.one = true) (hb : pc.length ≤ 1000)
    (k : ∀ v' h2, v'.one = true → v'.cells = [v'] → h2.wr p0 1 [v'] = some (h2.set p0 [vO, v', vC]) → TI σ (h2.set p0 [vO, v', vC]) p0 sO vO v' vC cO (pc ++ [row]) ls → h.next < h2.next → K (v', h2)) :
    optK (pappend 1 24 (h.new [row]) vP (.sl h.next 0 1 (.known 1))) K := by
  refine PAcc.pushS (σb := σ) (bytes := 24) a.keep a.accP rfl (by omega) (by omega) fun v' h2 k2 a2 o2 n2 l2 => ?_
  have hp := a.p0b
  have hs := a.sOb
  have hob : h2.obj p0 = some [vO, vP, vC] := by rw [o2 _ hp.2 (a.neP _ (.inr (.inl rfl)))]; exact a.obj
  refine k v' h2 a2.one a2.cells (by rw [obj_wr hob, if_pos ⟨by simp, by simp [a2.one]⟩]; rfl) ⟨k2.set hp.1 _, by rw [pobj_set, if_pos rfl], ⟨hp.1, by show p0 < h2.next; omega⟩, ?_, ⟨hs.1, by show sO < h2.next; omega⟩, a.pO, ?_, ?_, fun q hq => ?_, a.nd, fun s hs => ?_, a.neC, a.neL, fun s off l c e => ?_⟩ l2
  · rw [pobj_set, if_neg (Ne.symm a.pO), o2 _ hs.2 (a.neP _ (.inr (.inr rfl)))]; exact a.oO
  · have a3 : PAcc σ.next 1 (h2.set p0 [vO, v', vC]) v' (pc.length + 1) (pc ++ [row]) := pacc_move a2.acc (fun s off l c e => by rw [pobj_set, if_neg fun e2 => n2 p0 hp.2 off l c (by rw [e, e2])]) (Nat.le_refl _)
    simpa using a3
  · refine pacc_move a.accC (fun s off l c e => ?_) (Nat.le_of_lt l2)
    have hsp : s ≠ p0 := fun e2 => a.neC p0 (.inr (.inl rfl)) off l c (by rw [e, e2])
    rw [pobj_set, if_neg hsp, o2 s (pacc_lt a.accC e) fun off' l' c' e' => a.nePC s off' l' c' e' off l c e]
  · have hq' := a.ok q hq
    have hm : q.s ∈ LS.slots ls := LS.mem_slots.2 ⟨q, hq, rfl⟩
    refine hq'.move ?_ (Nat.le_of_lt l2)
    rw [pobj_set, if_neg fun e => a.neL.1 (by rw [← e]; exact hm), o2 _ hq'.2.2.2 (a.neP _ (.inl hm))]
  · have : s < h.next := by
      rcases hs with hs | rfl | rfl
      · exact (a.lt hs).2
      · exact hp.2
      · omega
    exact n2 s this
  · intro off' l' c' e'
    exact n2 s (pacc_lt a.accC e') off l c e
theorem TI.pushC {K : PV × PHeap → Prop} {o : Option LS} (a : TI σ h p0 sO vO vP vC cO pc ls) (hone : vO.one = true ∧ vP.one = true) (hb : ls.length ≤ 1000)
    (ho : ∀ q, o = some q → q.ok h σ.next ∧ q.s ∉ LS.slots ls ∧ q.s ≠ p0 ∧ q.s ≠ sO ∧ (∀ off l c, vP ≠ .sl q.s off l c) ∧ ∀ off l c, vC ≠ .sl q.s off l c)
    (k : ∀ v' h2, v'.one = true → v'.cells = [v'] → h2.wr p0 2 [v'] = some (h2.set p0 [vO, vP, v']) → TI σ (h2.set p0 [vO, vP, v']) p0 sO vO vP v' cO pc (ls ++ [o]) → h.next < h2.next → K (v', h2)) :
    optK (pappend 1 24 (h.new [LS.pvo o]) vC (.sl h.next 0 1 (.known 1))) K := by
  refine PAcc.pushS (σb := σ) (bytes := 24) a.keep a.accC rfl (by omega) (by omega) fun v' h2 k2 a2 o2 n2 l2 => ?_
  have hp := a.p0b
  have hs := a.sOb
  have hob : h2.obj p0 = some [vO, vP, vC] := by rw [o2 _ hp.2 (a.neC _ (.inr (.inl rfl)))]; exact a.obj
  have mo : ∀ s, s ∈ LS.slots (ls ++ [o]) → s ∈ LS.slots ls ∨ ∃ q, o = some q ∧ q.s = s := fun s hs => by
    rw [LS.slots_app, List.mem_append] at hs
    refine hs.imp id fun hs => ?_
    obtain ⟨q, hq, e⟩ := LS.mem_slots.1 hs
    exact ⟨q, (List.mem_singleton.1 hq).symm, e⟩
  refine k v' h2 a2.one a2.cells (by rw [obj_wr hob, if_pos ⟨by simp, by simp [a2.one]⟩]; rfl) ⟨k2.set hp.1 _, by rw [pobj_set, if_pos rfl], ⟨hp.1, by show p0 < h2.next; omega⟩, ?_, ⟨hs.1, by show sO < h2.next; omega⟩, a.pO, ?_, ?_, fun q hq => ?_, ?_, fun s hs => ?_, fun s hs => ?_, ⟨fun hm => ?_, fun hm => ?_⟩, fun s off l c e => ?_⟩ l2
  · rw [pobj_set, if_neg (Ne.symm a.pO), o2 _ hs.2 (a.neC _ (.inr (.inr rfl)))]; exact a.oO
  · refine pacc_move a.accP (fun s off l c e => ?_) (Nat.le_of_lt l2)
    have hsp : s ≠ p0 := fun e2 => a.neP p0 (.inr (.inl rfl)) off l c (by rw [e, e2])
    rw [pobj_set, if_neg hsp, o2 s (pacc_lt a.accP e) (a.nePC s off l c e)]
  · have a3 : PAcc σ.next 1 (h2.set p0 [vO, vP, v']) v' (ls.length + 1) (ls.map LS.pvo ++ [LS.pvo o]) := pacc_move a2.acc (fun s off l c e => by rw [pobj_set, if_neg fun e2 => n2 p0 hp.2 off l c (by rw [e, e2])]) (Nat.le_refl _)
    simpa using a3
  · rcases List.mem_append.1 hq with hq | hq
    · have hq' := a.ok q hq
      have hm : q.s ∈ LS.slots ls := LS.mem_slots.2 ⟨q, hq, rfl⟩
      refine hq'.move ?_ (Nat.le_of_lt l2)
      rw [pobj_set, if_neg fun e => a.neL.1 (by rw [← e]; exact hm), o2 _ hq'.2.2.2 (a.neC _ (.inl hm))]
    · obtain ⟨h1, h3, h4, h5, h6, h7⟩ := ho q (List.mem_singleton.1 hq).symm
      refine h1.move ?_ (Nat.le_of_lt l2)
      rw [pobj_set, if_neg h4, o2 _ h1.2.2.2 h7]
  · rw [LS.slots_app, List.nodup_append]
    refine ⟨a.nd, ?_, fun x hx y hy e => ?_⟩
    · cases o <;> simp [LS.slots]
    · cases o with
      | none => cases hy
      | some q =>
        simp only [LS.slots, List.mem_singleton] at hy
        exact (ho q rfl).2.1 (by rw [← hy, ← e]; exact hx)
  · rcases hs with hs | hs
    · rcases mo s hs with hs | ⟨q, e, rfl⟩
      · exact a.neP s (.inl hs)
      · exact (ho q e).2.2.2.2.1
    · exact a.neP s (.inr hs)
  · have : s < h.next := by
      rcases hs with hs | rfl | rfl
      · rcases mo s hs with hs | ⟨q, e, rfl⟩
        · exact (a.lt hs).2
        · exact (ho q e).1.2.2.2
      · exact hp.2
      · omega
    exact n2 s this
  · rcases mo _ hm with hm | ⟨q, e, e2⟩
    · exact a.neL.1 hm
    · exact (ho q e).2.2.1 e2
  · rcases mo _ hm with hm | ⟨q, e, e2⟩
    · exact a.neL.2 hm
    · exact (ho q e).2.2.2.1 e2
  · exact n2 s (pacc_lt a.accP e)
end Go.Proofs
namespace Go.Proofs
open Go.Ab Go.Lie
variable {σ h : PHeap} {K : PV → PHeap → Prop} {n : Nat} {p : Int} {p0 sO : Nat} {vO vP vC : PV} {cO pc : List PV} {ls : List (Option LS)} {O : List Int}
def LShape (n : Nat) (ls : List (Option LS)) : Prop := ∀ j (h : j < ls.length), (j + 1 = n → ls[j] = none) ∧ (j + 1 < n → ∃ q, ls[j] = some q ∧ q.cs.length = n - 1 - j)
theorem LShape.snoc {o : Option LS} (h : LShape n ls) (h1 : ls.length + 1 = n → o = none) (h2 : ls.length + 1 < n → ∃ q, o = some q ∧ q.cs.length = n - 1 - ls.length) : LShape n (ls ++ [o]) := by
  intro j hj
  rw [List.length_append, List.length_singleton] at hj
  rcases Nat.lt_or_ge j ls.length with x | x
  · rw [List.getElem_append_left x]; exact h j x
  · have e : j = ls.length := by omega
    subst e
    rw [List.getElem_append_right (Nat.le_refl _)]
    simp only [Nat.sub_self, List.getElem_cons_zero]
    exact ⟨h1, h2⟩
end Go.Proofs
namespace Go.Proofs
open Go.Ab Go.Lie
variable {σ H h : PHeap} {K : PV → PHeap → Prop} {n : Nat} {p : Int} {tp sO sP sC : Nat} {vO : PV} {pc cO : List PV} {ls : List (Option LS)} {O x : List Int} {capO capP capC cap : Cap} {rows cur : List SR} {Rs : List (List SR)}
structure BF (σ H : PHeap) (tp sO sP sC : Nat) (ls : List (Option LS)) : Prop where
  b : ∀ s, s ∈ [tp, sO, sP, sC] ++ LS.slots ls → σ.next ≤ s ∧ s < H.next
  nd : ([tp, sO, sP, sC] ++ LS.slots ls).Nodup
def cont (Rs : List (List SR)) (cur : List SR) (j : Nat) (q : LS) : List PV :=
  if j < Rs.length then (Rs.getD j []).map SR.pv else if j = Rs.length then cur.map SR.pv ++ q.cs.drop cur.length else q.cs
structure LI (σ H h : PHeap) (tp sO sP sC : Nat) (vO : PV) (capP capC : Cap) (n : Nat) (cO : List PV) (pc : List PV) (ls : List (Option LS)) (rows : List SR) (Rs : List (List SR)) (cur : List SR) : Prop where
  keep : Keep σ h
  nx : H.next ≤ h.next
  tpo : h.obj tp = some [vO, .sl sP 0 n capP, .sl sC 0 n capC]
  oO : h.obj sO = some cO
  oP : h.obj sP = some (rows.map SR.pv ++ pc.drop rows.length)
  oC : h.obj sC = some (ls.map LS.pvo)
  oL : ∀ j q, ls[j]? = some (some q) → h.obj q.s = some (cont Rs cur j q)
  ok : ∀ q, q ∈ rows ∨ q ∈ Rs.flatten ∨ q ∈ cur → q.ok h H.next
  nd : (slotsR (rows ++ (Rs.flatten ++ cur))).Nodup
theorem LS.mem_of_get {j : Nat} {q : LS} (h : ls[j]? = some (some q)) : q.s ∈ LS.slots ls := LS.mem_slots.2 ⟨q, List.mem_of_getElem? h, rfl⟩
theorem LI.keepI {h2 : PHeap} (b : BF σ H tp sO sP sC ls) (a : LI σ H h tp sO sP sC vO capP capC n cO pc ls rows Rs cur) (k : Keep h h2) : LI σ H h2 tp sO sP sC vO capP capC n cO pc ls rows Rs cur := by
  have hn := a.nx
  have o : ∀ s, s ∈ [tp, sO, sP, sC] ++ LS.slots ls → h2.obj s = h.obj s := fun s hs => k.obj s (by have := (b.b s hs).2; omega)
  refine ⟨a.keep.trans k, Nat.le_trans a.nx k.next, by rw [o tp (by simp)]; exact a.tpo, by rw [o sO (by simp)]; exact a.oO, by rw [o sP (by simp)]; exact a.oP, by rw [o sC (by simp)]; exact a.oC, fun j q hq => ?_, fun q hq => (a.ok q hq).keep k, a.nd⟩
  rw [o q.s (List.mem_append.2 (.inr (LS.mem_of_get hq)))]; exact a.oL j q hq
theorem LS.slots_inj : ∀ {ls : List (Option LS)} {i j : Nat} {q q' : LS}, (LS.slots ls).Nodup → ls[i]? = some (some q) → ls[j]? = some (some q') → q.s = q'.s → i = j
  | [], i, j, q, q', _, h, _, _ => by simp at h
  | o :: ls, 0, 0, q, q', _, _, _, _ => rfl
  | none :: ls, 0, j + 1, q, q', _, h, _, _ => by simp at h
  | none :: ls, i + 1, 0, q, q', _, _, h, _ => by simp at h
  | some r :: ls, 0, j + 1, q, q', hn, h, g, e => by
    simp only [List.getElem?_cons_zero, Option.some.injEq, List.getElem?_cons_succ, LS.slots, List.nodup_cons] at h g hn
    subst h
    exact absurd (LS.mem_of_get g) (by rw [← e]; exact hn.1)
  | some r :: ls, i + 1, 0, q, q', hn, h, g, e => by
    simp only [List.getElem?_cons_zero, Option.some.injEq, List.getElem?_cons_succ, LS.slots, List.nodup_cons] at h g hn
    subst g
    exact absurd (LS.mem_of_get h) (by rw [e]; exact hn.1)
  | none :: ls, i + 1, j + 1, q, q', hn, h, g, e => by have := LS.slots_inj (ls := ls) hn (by simpa using h) (by simpa using g) e; omega
  | some r :: ls, i + 1, j + 1, q, q', hn, h, g, e => by
    simp only [LS.slots, List.nodup_cons] at hn
    have := LS.slots_inj (ls := ls) hn.2 (by simpa using h) (by simpa using g) e
    omega
theorem drop_mid {a b : List PV} : (a ++ b).drop (a.length + 1) = b.drop 1 := by
  rw [← List.drop_drop, List.drop_left']; rfl
theorem sr_put {q : SR} {s : Nat} {cs : List PV} (a : q.ok h H.next) (hs : s < H.next) : q.ok (h.set s cs) H.next := ⟨a.1, by rw [pobj_set, if_neg (by have := a.2.2.1; omega)]; exact a.2.1, a.2.2.1, a.2.2.2⟩
theorem mem_rows {q : SR} (hq : q ∈ rows ++ (Rs.flatten ++ cur)) : q ∈ rows ∨ q ∈ Rs.flatten ∨ q ∈ cur := by
  simpa only [List.mem_append] using hq
theorem LI.fresh (a : LI σ H h tp sO sP sC vO capP capC n cO pc ls rows Rs cur) : h.next ∉ slotsR (rows ++ (Rs.flatten ++ cur)) := fun hm => by
  obtain ⟨q, hq, e⟩ := List.mem_map.1 hm
  have := (a.ok q (mem_rows hq)).2.2.2
  omega
theorem LI.putP (b : BF σ H tp sO sP sC ls) (a : LI σ H h tp sO sP sC vO capP capC n cO pc ls rows Rs cur) (hf : full 1 cap x.length) (hl : rows.length < pc.length) :
    (h.new (pis x)).wr sP rows.length [.sl h.next 0 x.length cap] = some ((h.new (pis x)).set sP ((rows ++ [(⟨h.next, cap, x⟩ : SR)]).map SR.pv ++ pc.drop (rows.length + 1))) ∧
    LI σ H ((h.new (pis x)).set sP ((rows ++ [(⟨h.next, cap, x⟩ : SR)]).map SR.pv ++ pc.drop (rows.length + 1))) tp sO sP sC vO capP capC n cO pc ls (rows ++ [(⟨h.next, cap, x⟩ : SR)]) Rs cur := by
  have a1 := a.keepI b (keep_new h (pis x))
  have hnx := a.nx
  have bP := b.b sP (by simp)
  have nd := b.nd
  simp only [List.cons_append, List.nil_append, List.nodup_cons, List.mem_cons, not_or] at nd
  obtain ⟨⟨n1, n2, n3, n4⟩, ⟨n5, n6, n7⟩, ⟨n8, n9⟩, _⟩ := nd
  have ob := a1.oP
  refine ⟨?_, a1.keep.set bP.1 _, a1.nx, by rw [pobj_set, if_neg n2]; exact a1.tpo, by rw [pobj_set, if_neg n5]; exact a1.oO, by rw [pobj_set, if_pos rfl, List.length_append, List.length_singleton], by rw [pobj_set, if_neg (Ne.symm n8)]; exact a1.oC, fun j q hq => ?_, fun q hq => ?_, ?_⟩
  · rw [obj_wr ob, if_pos ⟨by simp only [List.length_append, List.length_map, List.length_drop, List.length_singleton]; omega, rfl⟩]
    congr 2
    have e1 : (rows.map SR.pv ++ pc.drop rows.length).take rows.length = rows.map SR.pv := by
      have : (rows.map SR.pv).length = rows.length := List.length_map _
      rw [← this, List.take_left']; rfl
    have e2 : (rows.map SR.pv ++ pc.drop rows.length).drop (rows.length + 1) = pc.drop (rows.length + 1) := by
      have := drop_mid (a := rows.map SR.pv) (b := pc.drop rows.length)
      rwa [List.length_map, List.drop_drop] at this
    rw [List.length_singleton, e1, e2, List.map_append]; rfl
  · have hm := LS.mem_of_get hq
    rw [pobj_set, if_neg fun e => n9 (by rw [← e]; exact hm)]
    exact a1.oL j q hq
  · have new : SR.ok (h.new (pis x)) H.next (⟨h.next, cap, x⟩ : SR) := ⟨hf, by rw [pobj_new, if_pos rfl], hnx, Nat.lt_succ_self _⟩
    rcases hq with hq | hq
    · rcases List.mem_append.1 hq with hq | hq
      · exact sr_put (a1.ok q (.inl hq)) bP.2
      · rw [List.mem_singleton.1 hq]; exact sr_put new bP.2
    · exact sr_put (a1.ok q (.inr hq)) bP.2
  · have hp : (slotsR ((rows ++ [(⟨h.next, cap, x⟩ : SR)]) ++ (Rs.flatten ++ cur))).Perm (h.next :: slotsR (rows ++ (Rs.flatten ++ cur))) := by
      simp only [slotsR, List.append_assoc, List.map_append, List.map_cons, List.map_nil, List.cons_append, List.nil_append]
      exact List.perm_middle
    exact hp.nodup_iff.2 (List.nodup_cons.2 ⟨a.fresh, a.nd⟩)
theorem LI.putC {q0 : LS} (b : BF σ H tp sO sP sC ls) (a : LI σ H h tp sO sP sC vO capP capC n cO pc ls rows Rs cur) (hf : full 1 cap x.length) (hq0 : ls[Rs.length]? = some (some q0)) (hl : cur.length < q0.cs.length) :
    (h.new (pis x)).wr q0.s cur.length [.sl h.next 0 x.length cap] = some ((h.new (pis x)).set q0.s ((cur ++ [(⟨h.next, cap, x⟩ : SR)]).map SR.pv ++ q0.cs.drop (cur.length + 1))) ∧
    LI σ H ((h.new (pis x)).set q0.s ((cur ++ [(⟨h.next, cap, x⟩ : SR)]).map SR.pv ++ q0.cs.drop (cur.length + 1))) tp sO sP sC vO capP capC n cO pc ls rows Rs (cur ++ [(⟨h.next, cap, x⟩ : SR)]) := by
  have a1 := a.keepI b (keep_new h (pis x))
  have hnx := a.nx
  have hm0 := LS.mem_of_get hq0
  have bP := b.b q0.s (List.mem_append.2 (.inr hm0))
  have nd := b.nd
  simp only [List.cons_append, List.nil_append, List.nodup_cons, List.mem_cons, not_or] at nd
  obtain ⟨⟨n1, n2, n3, n4⟩, ⟨n5, n6, n7⟩, ⟨n8, n9⟩, n10, n11⟩ := nd
  have ob := a1.oL _ _ hq0
  have hc : cont Rs cur Rs.length q0 = cur.map SR.pv ++ q0.cs.drop cur.length := by unfold cont; rw [if_neg (Nat.lt_irrefl _), if_pos rfl]
  rw [hc] at ob
  refine ⟨?_, a1.keep.set bP.1 _, a1.nx, by rw [pobj_set, if_neg fun e => n4 (by rw [e]; exact hm0)]; exact a1.tpo, by rw [pobj_set, if_neg fun e => n7 (by rw [e]; exact hm0)]; exact a1.oO, by rw [pobj_set, if_neg fun e => n9 (by rw [e]; exact hm0)]; exact a1.oP, by rw [pobj_set, if_neg fun e => n10 (by rw [e]; exact hm0)]; exact a1.oC, fun j q hq => ?_, fun q hq => ?_, ?_⟩
  · rw [obj_wr ob, if_pos ⟨by simp only [List.length_append, List.length_map, List.length_drop, List.length_singleton]; omega, rfl⟩]
    congr 2
    have e1 : (cur.map SR.pv ++ q0.cs.drop cur.length).take cur.length = cur.map SR.pv := by
      have : (cur.map SR.pv).length = cur.length := List.length_map _
      rw [← this, List.take_left']; rfl
    have e2 : (cur.map SR.pv ++ q0.cs.drop cur.length).drop (cur.length + 1) = q0.cs.drop (cur.length + 1) := by
      have := drop_mid (a := cur.map SR.pv) (b := q0.cs.drop cur.length)
      rwa [List.length_map, List.drop_drop] at this
    rw [List.length_singleton, e1, e2, List.map_append]; rfl
  · by_cases e : j = Rs.length
    · subst e
      rw [hq0] at hq
      cases hq
      rw [pobj_set, if_pos rfl]
      unfold cont
      rw [if_neg (Nat.lt_irrefl _), if_pos rfl, List.length_append, List.length_singleton]
    · have hne : q.s ≠ q0.s := fun es => by
        exact e (LS.slots_inj n11 hq hq0 es)
      rw [pobj_set, if_neg hne, a1.oL j q hq]
      unfold cont
      rw [if_neg (show ¬ j = Rs.length from e), if_neg (show ¬ j = Rs.length from e)]
  · have new : SR.ok (h.new (pis x)) H.next (⟨h.next, cap, x⟩ : SR) := ⟨hf, by rw [pobj_new, if_pos rfl], hnx, Nat.lt_succ_self _⟩
    rcases hq with hq | hq | hq
    · exact sr_put (a1.ok q (.inl hq)) bP.2
    · exact sr_put (a1.ok q (.inr (.inl hq))) bP.2
    · rcases List.mem_append.1 hq with hq | hq
      · exact sr_put (a1.ok q (.inr (.inr hq))) bP.2
      · rw [List.mem_singleton.1 hq]; exact sr_put new bP.2
  · have hp : (slotsR (rows ++ (Rs.flatten ++ (cur ++ [(⟨h.next, cap, x⟩ : SR)])))).Perm (h.next :: slotsR (rows ++ (Rs.flatten ++ cur))) := by
      simp only [slotsR, List.map_append, List.map_cons, List.map_nil]
      rw [← List.append_assoc, ← List.append_assoc, List.append_assoc (List.map SR.s rows)]
      exact List.perm_append_singleton _ _
    exact hp.nodup_iff.2 (List.nodup_cons.2 ⟨a.fresh, a.nd⟩)
theorem LI.close (a : LI σ H h tp sO sP sC vO capP capC n cO pc ls rows Rs cur) (hl : ∀ q, ls[Rs.length]? = some (some q) → cur.length = q.cs.length) : LI σ H h tp sO sP sC vO capP capC n cO pc ls rows (Rs ++ [cur]) [] := by
  refine ⟨a.keep, a.nx, a.tpo, a.oO, a.oP, a.oC, fun j q hq => ?_, fun q hq => a.ok q ?_, ?_⟩
  · rw [a.oL j q hq]
    unfold cont
    rw [List.length_append, List.length_singleton]
    rcases Nat.lt_trichotomy j Rs.length with x | x | x
    · rw [if_pos x, if_pos (by omega)]
      simp [List.getD_eq_getElem?_getD, List.getElem?_append_left x]
    · subst x
      rw [if_neg (Nat.lt_irrefl _), if_pos rfl, if_pos (by omega), List.drop_of_length_le (by rw [hl q hq]; exact Nat.le_refl _)]
      simp [List.getD_eq_getElem?_getD]
    · rw [if_neg (by omega), if_neg (by omega), if_neg (by omega)]
      split <;> simp
  · rcases hq with hq | hq | hq
    · exact .inl hq
    · simp only [List.flatten_append, List.flatten_cons, List.flatten_nil, List.append_nil, List.mem_append] at hq
      exact .inr hq
    · cases hq
  · have := a.nd
    simpa [List.flatten_append] using this
end Go.Proofs
namespace Go.Proofs
open Go.Ab Go.Lie
variable {σ H h : PHeap} {K : PV → PHeap → Prop} {n : Nat} {a : Nat → Nat} {b : Nat} {tp sO sP sC : Nat} {vO : PV} {pc : List PV} {ls : List (Option LS)} {O x : List Int} {capO capP capC cap : Cap} {rows cur : List SR} {Rs : List (List SR)}
def lrT : Option LS → List SR → TR
  | none, _ => .nil
  | some q, R => TR.rows q.s q.cap R
def Fit1 : Option LS → List SR → Prop
  | none, R => R = []
  | some q, R => R.length = q.cs.length
def Fits (ls : List (Option LS)) (Rs : List (List SR)) : Prop := All2 Fit1 ls Rs
theorem Fits.tl {o : Option LS} {R : List SR} (h : Fits (o :: ls) (R :: Rs)) : Fit1 o R ∧ Fits ls Rs :=
  ⟨h.2 0 o R rfl rfl, by have := h.1; simpa using this, fun k a b ha hb => h.2 (k + 1) a b (by simpa using ha) (by simpa using hb)⟩
theorem lr_pvs : ∀ {ls : List (Option LS)} {Rs : List (List SR)}, Fits ls Rs → TR.pvs (List.zipWith lrT ls Rs) = ls.map LS.pvo
  | [], [], _ => rfl
  | [], R :: Rs, h => by have := h.1; simp at this
  | o :: ls, [], h => by have := h.1; simp at this
  | none :: ls, R :: Rs, h => by
    simp only [List.zipWith_cons_cons, TR.pvs, List.map_cons, lr_pvs h.tl.2]; rfl
  | some q :: ls, R :: Rs, h => by
    have hl : R.length = q.cs.length := h.tl.1
    simp only [List.zipWith_cons_cons, TR.pvs, List.map_cons, lr_pvs h.tl.2]
    simp only [lrT, TR.rows, TR.pv, LS.pvo, LS.pv, List.length_map, hl]
theorem lr_slots : ∀ {ls : List (Option LS)} {Rs : List (List SR)}, Fits ls Rs → (TR.slotss (List.zipWith lrT ls Rs)).Perm (LS.slots ls ++ slotsR Rs.flatten)
  | [], [], _ => List.Perm.refl _
  | [], R :: Rs, h => by have := h.1; simp at this
  | o :: ls, [], h => by have := h.1; simp at this
  | none :: ls, R :: Rs, h => by
    have hR : R = [] := h.tl.1
    subst hR
    simp only [List.zipWith_cons_cons, TR.slotss, lrT, TR.slots, List.nil_append, List.flatten_cons, LS.slots]
    exact lr_slots h.tl.2
  | some q :: ls, R :: Rs, h => by
    have ih := lr_slots h.tl.2
    simp only [List.zipWith_cons_cons, TR.slotss, lrT, TR.rows, TR.slots, TR.rows_slots, List.flatten_cons, LS.slots, List.cons_append]
    refine List.Perm.cons _ ?_
    have e : slotsR (R ++ Rs.flatten) = slotsR R ++ slotsR Rs.flatten := by simp [slotsR]
    rw [e]
    refine ((ih.append_left (slotsR R)).trans ?_)
    rw [← List.append_assoc, ← List.append_assoc]
    exact List.perm_append_comm.append_right _
theorem lr_oks : ∀ {ls : List (Option LS)} {Rs : List (List SR)}, (∀ (j : Nat) (o : Option LS) (R : List SR), ls[j]? = some o → Rs[j]? = some R → (lrT o R).ok h b) → TR.oks h b (List.zipWith lrT ls Rs)
  | [], _, _ => trivial
  | o :: ls, [], _ => trivial
  | o :: ls, R :: Rs, k => ⟨k 0 o R rfl rfl, lr_oks fun j o' R' h1 h2 => k (j + 1) o' R' (by simpa using h1) (by simpa using h2)⟩
theorem lr_all2 : ∀ {ls : List (Option LS)} {Rs : List (List SR)}, Fits ls Rs → All2 FII (TR.fzs a (List.zipWith lrT ls Rs)) (Rs.map fun R => R.map SR.x)
  | [], [], _ => All2.nil _
  | [], R :: Rs, h => by have := h.1; simp at this
  | o :: ls, [], h => by have := h.1; simp at this
  | o :: ls, R :: Rs, h => by
    have ih := lr_all2 h.tl.2
    refine ⟨by simp only [List.zipWith_cons_cons, TR.fzs, List.map_cons, List.length_cons, ih.1], fun k c y hc hy => ?_⟩
    cases k with
    | zero =>
      simp only [List.zipWith_cons_cons, TR.fzs, List.map_cons, List.getElem?_cons_zero, Option.some.injEq] at hc hy
      rw [← hc, ← hy]
      cases o with
      | none =>
        have hR : R = [] := h.tl.1
        subst hR
        exact ⟨true, .nils, [], rfl, All2.nil _⟩
      | some q => exact TR.rows_FII
    | succ k =>
      simp only [List.zipWith_cons_cons, TR.fzs, List.map_cons, List.getElem?_cons_succ] at hc hy
      exact ih.2 k c y hc hy
end Go.Proofs
namespace Go.Proofs
open Go.Ab Go.Lie
variable {σ H h : PHeap} {K : PV → PHeap → Prop} {n c : Nat} {p : Int} {W : List (List Int)} {B : List (List (List Int))} {vP vB : PV} {s : Nat}
theorem vp_abs {P : Program} {c : IC} {Q : Exit → PEnv → PHeap → Prop} {e : PEnv} {h : PHeap} (id : Nat) (J : PEnv → PHeap → Prop) (h1 : ∀ Q' : Exit → PEnv → PHeap → Prop, (∀ e h, J e h → Q' (.exit id) e h) → vp P c Q' e h) (h2 : ∀ e h, J e h → Q (.exit id) e h) : vp P c Q e h := h1 Q h2
end Go.Proofs
namespace Go.Proofs
open Go.Ab Go.Lie
variable {σ H h : PHeap} {K : PV → PHeap → Prop} {n c : Nat} {p : Int} {W : List (List Int)} {B : List (List (List Int))} {vP vB : PV} {s : Nat}
variable {T : PHeap} {p0 : Nat} {fs : List (PV × List PV)} {ls : List LS}
theorem psl_move {b e m : Nat} {h h2 : PHeap} {v : PV} {cs : List PV} (a : PSl b e h v m cs) (ho : ∀ s off l c, v = .sl s off l c → h2.obj s = h.obj s) (hn : h.next ≤ h2.next) : PSl b e h2 v m cs := by
  obtain ⟨s, cap, rfl, h1, h2', h3, h4, h5⟩ := a
  exact ⟨s, cap, rfl, h1, by rw [ho s 0 _ cap rfl]; exact h2', h3, h4, Nat.lt_of_lt_of_le h5 hn⟩
theorem psl_lt {b e m : Nat} {h : PHeap} {v : PV} {cs : List PV} (a : PSl b e h v m cs) {s off l : Nat} {c : Cap} (hv : v = .sl s off l c) : s < h.next := pacc_lt a.acc hv
theorem leafs_pvs : ∀ cs : List PV, TR.pvs (cs.map TR.leaf) = cs
  | [] => rfl
  | c :: cs => by simp only [List.map_cons, TR.pvs, TR.pv, leafs_pvs cs]
theorem leafs_fzs {a : Nat → Nat} : ∀ cs : List PV, TR.fzs a (cs.map TR.leaf) = cs
  | [] => rfl
  | c :: cs => by simp only [List.map_cons, TR.fzs, TR.fz, leafs_fzs cs]
theorem leafs_okF {b : Nat} : ∀ {cs : List PV}, Bels 0 cs → TR.okFs h b (cs.map TR.leaf)
  | [], _ => trivial
  | c :: cs, hb => ⟨hb.1, leafs_okF hb.2⟩
def LS.tr (q : LS) : TR := .lst q.s q.cap (q.cs.map TR.leaf)
theorem LS.tr_pvs : ∀ ls : List LS, TR.pvs (ls.map LS.tr) = ls.map LS.pv
  | [] => rfl
  | q :: ls => by simp only [List.map_cons, TR.pvs, LS.tr_pvs ls]; simp only [LS.tr, TR.pv, List.length_map, LS.pv]
theorem LS.tr_okF {b : Nat} {q : LS} (h1 : q.ok h b) (h2 : Bels 0 q.cs) : (LS.tr q).okF h b := ⟨⟨by rw [List.length_map]; exact h1.1, by rw [leafs_pvs]; exact h1.2.1, h1.2.2.1, h1.2.2.2⟩, leafs_okF h2⟩
theorem LS.trs_okF {b : Nat} : ∀ {ls : List LS}, (∀ q, q ∈ ls → q.ok h b ∧ Bels 0 q.cs) → TR.okFs h b (ls.map LS.tr)
  | [], _ => trivial
  | q :: ls, k => ⟨LS.tr_okF (k q (List.mem_cons_self ..)).1 (k q (List.mem_cons_self ..)).2, LS.trs_okF fun q' hq => k q' (List.mem_cons_of_mem _ hq)⟩
def RowsOf (ls : List LS) (Ms : List (List (List Int))) : Prop := All2 (fun (q : LS) (R : List (List Int)) => All2 FI q.cs R) ls Ms
theorem rowsOf_all2 {a : Nat → Nat} {ls : List LS} {Ms : List (List (List Int))} (k : RowsOf ls Ms) : All2 FII (TR.fzs a (ls.map LS.tr)) Ms := by
  have hl : ∀ ls : List LS, (TR.fzs a (ls.map LS.tr)).length = ls.length := fun ls => by rw [TR.fzs_length, List.length_map]
  have hg : ∀ (ls : List LS) (i : Nat), (TR.fzs a (ls.map LS.tr))[i]? = ls[i]?.map fun q => (LS.tr q).fz a := by
    intro ls
    induction ls with
    | nil => intro i; simp [TR.fzs]
    | cons q ls ih =>
      intro i
      cases i with
      | zero => simp [TR.fzs]
      | succ i => simpa [TR.fzs] using ih i
  refine ⟨by rw [hl]; exact k.1, fun i c R hc hR => ?_⟩
  rw [hg] at hc
  obtain ⟨q, hq, rfl⟩ := Option.map_eq_some_iff.1 hc
  have h2 := k.2 i q R hq hR
  exact ⟨true, .sl (a q.s) 0 q.cs.length q.cap, q.cs, by simp only [LS.tr, TR.fz, leafs_fzs, List.length_map]; rw [h2.1], h2⟩
end Go.Proofs
namespace Go.Proofs
open Go.Ab Go.Lie
variable {σ h : PHeap} {K : PV → PHeap → Prop} {n : Nat} {p : Int} {p0 sO : Nat} {vO vP vC : PV} {cO pc : List PV} {ls : List (Option LS)} {O : List Int}
theorem TI.setO (a : TI σ h p0 sO vO vP vC cO pc ls) (Y : List PV) : TI σ (h.set sO Y) p0 sO vO vP vC Y pc ls := by
  have hp := a.p0b
  have hs := a.sOb
  refine ⟨a.keep.set hs.1 _, by rw [pobj_set, if_neg a.pO]; exact a.obj, hp, by rw [pobj_set, if_pos rfl], hs, a.pO, ?_, ?_, fun q hq => ?_, a.nd, a.neP, a.neC, a.neL, a.nePC⟩
  · exact pacc_move a.accP (fun s off l c e => by rw [pobj_set, if_neg fun e2 => a.neP sO (.inr (.inr rfl)) off l c (by rw [e, e2])]) (Nat.le_refl _)
  · exact pacc_move a.accC (fun s off l c e => by rw [pobj_set, if_neg fun e2 => a.neC sO (.inr (.inr rfl)) off l c (by rw [e, e2])]) (Nat.le_refl _)
  · refine (a.ok q hq).move ?_ (Nat.le_refl _)
    rw [pobj_set, if_neg fun e => a.neL.2 (by rw [← e]; exact LS.mem_slots.2 ⟨q, hq, rfl⟩)]
theorem zeroRing_ok (hn1 : 1 ≤ n) (hn6 : n ≤ 6)
    (hk : ∀ vP vC pc ls h, TI σ h (σ.next + 1) σ.next (.int .i64 p) vP vC [.int .i64 p, vP, vC] pc ls → pc.length = n → ls.length = n → LShape n ls → K (.agg [.int .i64 p, vP, vC]) h) :
    PCalls Tryz.prog 138 [.int .i64 p, .int .i64 n] σ K := by
  refine pcalls_of_vp mix Tryz.func138 cf138 rfl ?_
  dsimp only [if138, qI, eI, nI, qD, eD]
  simp only [pwA, if_true, if_false, eq_self, nm_eq, reduceCtorEq, ↓reduceIte, nQ10, nQ7, nQ11, nQ12, nQ16, nQ17, nQ18, iQ2, iQ3, iQ4, iQ5, iQ6, lQ19, iQ7, lQ20]
  refine vp_loop (fun m us h' => ∃ (i : Nat) (vP vC : PV) (pc : List PV) (ls : List (Option LS)), i ≤ n ∧ m = n - i ∧ us = [.int .i64 n, .ptr σ.next 0, .ptr (σ.next + 1) 0, .int .i64 n, .int .i64 i] ∧ TI σ h' (σ.next + 1) σ.next (.int .i64 p) vP vC [.int .i64 0, .fz true .nils 0 [], .fz true .nils 0 []] pc ls ∧ pc.length = i ∧ ls.length = i ∧ LShape n ls) n ?_ ?_
  · exact ⟨0, _, _, [], [], by omega, by omega, rfl, ⟨(keep_new σ _).new _, by simp only [pwA, if_true, if_false, eq_self, nm_eq, reduceCtorEq, ↓reduceIte, nQ10, nQ7, nQ11, nQ12, nQ16, nQ17, nQ18, iQ2, iQ3, iQ4, iQ5, iQ6, lQ19, iQ7, lQ20], ⟨by omega, by simp only [pwA, if_true, if_false, eq_self, nm_eq, reduceCtorEq, ↓reduceIte, nQ10, nQ7, nQ11, nQ12, nQ16, nQ17, nQ18, iQ2, iQ3, iQ4, iQ5, iQ6, lQ19, iQ7, lQ20]⟩, by simp only [pwA, if_true, if_false, eq_self, nm_eq, reduceCtorEq, ↓reduceIte, nQ10, nQ7, nQ11, nQ12, nQ16, nQ17, nQ18, iQ2, iQ3, iQ4, iQ5, iQ6, lQ19, iQ7, lQ20], ⟨Nat.le_refl _, by simp only [pwA, if_true, if_false, eq_self, nm_eq, reduceCtorEq, ↓reduceIte, nQ10, nQ7, nQ11, nQ12, nQ16, nQ17, nQ18, iQ2, iQ3, iQ4, iQ5, iQ6, lQ19, iQ7, lQ20]; omega⟩, by omega, PAcc.nil _ _ _, PAcc.nil _ _ _, fun q hq => (by cases hq), List.nodup_nil, fun s hs off l c e => (by cases e), fun s hs off l c e => (by cases e), ⟨fun h => (by cases h), fun h => (by cases h)⟩, fun s off l c e => (by cases e)⟩, rfl, rfl, fun j hj => absurd hj (by simp)⟩
  as_aux_lemma =>
  rintro m us h' ⟨i, vP, vC, pc, ls, hi, rfl, rfl, a, hpl, hll, hsh⟩
  have hone : vP.one = true ∧ vC.one = true := ⟨a.accP.one, a.accC.one⟩
  have q0 : h'.rd1 (σ.next + 1) 1 = some vP := by rw [obj_rd1 a.obj]; rfl
  have q3 : h'.rd (σ.next + 1) 0 3 = some [.int .i64 p, vP, vC] := by rw [obj_rd a.obj]; rfl
  simp only [pwA, if_true, if_false, eq_self, nm_eq, reduceCtorEq, ↓reduceIte, nQ10, nQ7, nQ11, nQ12, nQ16, nQ17, nQ18, iQ2, iQ3, iQ4, iQ5, iQ6, lQ19, iQ7, lQ20]
  refine iteI (fun hlt => ?_) fun hge => ?_
  rotate_left
  · have hie : i = n := by omega
    have hwr : h'.wr σ.next 0 [.int .i64 p, vP, vC] = some (h'.set σ.next [.int .i64 p, vP, vC]) := by
      rw [obj_wr a.oO, if_pos ⟨by simp, by simp only [List.all_cons, List.all_nil, hone.1, hone.2]; rfl⟩]; rfl
    have hrd : (h'.set σ.next [.int .i64 p, vP, vC]).rd σ.next 0 3 = some [.int .i64 p, vP, vC] := by rw [prd_set, if_pos rfl]; rfl
    have := hk vP vC pc ls _ (a.setO _) (by omega) (by omega) hsh
    simp only [pwA, if_true, if_false, eq_self, nm_eq, reduceCtorEq, ↓reduceIte, nQ10, nQ7, nQ11, nQ12, nQ16, nQ17, nQ18, iQ2, iQ3, iQ4, iQ5, iQ6, lQ19, iQ7, lQ20, q3, hwr, hrd]
    exact this
  have hlt' : i < n := by omega
  have mk := mk8 (n := n) (by omega)
  have hne1 : ¬ σ.next + 1 = h'.next := by have := a.p0b.2; omega
  have hne2 : ¬ σ.next = h'.next := by have := a.sOb.2; omega
  simp only [pwA, if_true, if_false, eq_self, nm_eq, reduceCtorEq, ↓reduceIte, nQ10, nQ7, nQ11, nQ12, nQ16, nQ17, nQ18, iQ2, iQ3, iQ4, iQ5, iQ6, lQ19, iQ7, lQ20, q0, mk, mkL (n := n) (by omega), List.length_replicate, hne1, hne2]
  refine TI.pushP (a.keepI (keep_new h' _)) ⟨rfl, hone.2⟩ (by omega) fun v2 h2 u1 u2 u3 a2 l2 => ?_
  simp only [pwA, if_true, if_false, eq_self, nm_eq, reduceCtorEq, ↓reduceIte, nQ10, nQ7, nQ11, nQ12, nQ16, nQ17, nQ18, iQ2, iQ3, iQ4, iQ5, iQ6, lQ19, iQ7, lQ20, u1, u2, u3]
  clear u1 u2 u3 q0 q3 hne1 hne2
  generalize h2.set (σ.next + 1) [.int .i64 p, v2, vC] = hb at *
  have wi1 : IntKind.i64.wrap ((n : Int) - 1) = ((n - 1 : Nat) : Int) := by rw [wrap64 (by omega) (by omega)]; omega
  have wi2 : IntKind.i64.wrap (((n - 1 : Nat) : Int) - i) = ((n - 1 - i : Nat) : Int) := by rw [wrap64 (by omega) (by omega)]; omega
  simp only [pwA, if_true, if_false, eq_self, nm_eq, reduceCtorEq, ↓reduceIte, nQ10, nQ7, nQ11, nQ12, nQ16, nQ17, nQ18, iQ2, iQ3, iQ4, iQ5, iQ6, lQ19, iQ7, lQ20, wi1, wi2]
  refine vp_loop (fun m us h3 => ∃ (q : Nat) (vL : PV) (cells : List PV), q ≤ n - 1 - i ∧ m = n - 1 - i - q ∧ us = [.int .i64 n, .ptr σ.next 0, .ptr (σ.next + 1) 0, vL, .int .i64 n, .int .i64 i, .int .i64 ((n - 1 - i : Nat) : Int), .int .i64 q] ∧ Keep hb h3 ∧ PAcc hb.next 1 h3 vL q cells ∧ (q = 0 → vL = .fz true .nils 0 [])) (n - 1 - i) ⟨0, _, [], by omega, rfl, rfl, Keep.refl _, PAcc.nil _ _ _, fun _ => rfl⟩ ?_
  rintro m us h3 ⟨q, vL, cells, hq, rfl, rfl, k3, p3, hnil⟩
  have b := a2.keepI k3
  have q2 : h3.rd1 (σ.next + 1) 2 = some vC := by rw [obj_rd1 b.obj]; rfl
  simp only [pwA, if_true, if_false, eq_self, nm_eq, reduceCtorEq, ↓reduceIte, nQ10, nQ7, nQ11, nQ12, nQ16, nQ17, nQ18, iQ2, iQ3, iQ4, iQ5, iQ6, lQ19, iQ7, lQ20]
  refine iteI (fun hltq => ?_) fun hgeq => ?_
  · have hq' : q < n - 1 - i := by omega
    have e5 : IntKind.i64.wrap ((q : Int) + 1) = ((q + 1 : Nat) : Int) := wrapS hq' (by omega)
    simp only [pwA, if_true, if_false, eq_self, nm_eq, reduceCtorEq, ↓reduceIte, nQ10, nQ7, nQ11, nQ12, nQ16, nQ17, nQ18, iQ2, iQ3, iQ4, iQ5, iQ6, lQ19, iQ7, lQ20, mk, mkL (n := n) (by omega), List.length_replicate]
    refine PAcc.push (bytes := 24) (σb := hb) (k3.new _) (p3.keep (keep_new _ _)) (by omega) (by omega) fun v' h4 k4 p4 => ?_
    simp only [pwA, if_true, if_false, eq_self, nm_eq, reduceCtorEq, ↓reduceIte, nQ10, nQ7, nQ11, nQ12, nQ16, nQ17, nQ18, iQ2, iQ3, iQ4, iQ5, iQ6, lQ19, iQ7, lQ20, e5]
    exact ⟨_, by omega, q + 1, v', _, by omega, rfl, rfl, k4, p4.acc, fun h => by omega⟩
  have hqe : q = n - 1 - i := by omega
  have hne : ¬ σ.next + 1 = h3.next := by have := b.p0b.2; omega
  have hL1 := p3.one
  have hL2 := p3.cells
  have hbn : hb.next ≤ h3.next := k3.next
  obtain ⟨o, ho, hov⟩ : ∃ o : Option LS, LS.pvo o = vL ∧ ((o = none ∧ q = 0) ∨ ∃ s c, o = some ⟨s, c, cells⟩ ∧ cells.length = q ∧ 0 < q ∧ full 1 c q ∧ h3.obj s = some cells ∧ hb.next ≤ s ∧ s < h3.next) := by
    rcases Nat.eq_zero_or_pos q with e | e
    · exact ⟨none, (hnil e).symm, .inl ⟨rfl, e⟩⟩
    · obtain ⟨s, c, rfl, z1, z2, z3, z4, z5⟩ := p3.pos e
      exact ⟨some ⟨s, c, cells⟩, by simp only [LS.pvo, LS.pv]; rw [show cells.length = q by omega], .inr ⟨s, c, rfl, by omega, e, z1, z2, z4, z5⟩⟩
  subst ho
  simp only [pwA, if_true, if_false, eq_self, nm_eq, reduceCtorEq, ↓reduceIte, nQ10, nQ7, nQ11, nQ12, nQ16, nQ17, nQ18, iQ2, iQ3, iQ4, iQ5, iQ6, lQ19, iQ7, lQ20, q2, hL1, hL2, hne]
  refine TI.pushC b ⟨rfl, b.accP.one⟩ (by omega) (fun q' e => ?_) fun v5 h5 u1 u2 u3 a5 l5 => ?_
  · rcases hov with ⟨e1, _⟩ | ⟨s, c, e1, z0, z1, z2, z3, z4, z5⟩
    · rw [e1] at e; cases e
    · rw [e1] at e
      cases e
      have hb0 := a2.p0b
      have hb1 := a2.sOb
      refine ⟨⟨by rw [z0]; exact z2, z3, by have := a2.keep.next; show σ.next ≤ s; omega, z5⟩, fun hm => ?_, by show s ≠ _; omega, by show s ≠ _; omega, fun off l c' e2 => ?_, fun off l c' e2 => ?_⟩
      · have := (a2.lt hm).2
        have : s < hb.next := this
        omega
      · have : s < hb.next := pacc_lt a2.accP e2
        omega
      · have : s < hb.next := pacc_lt a2.accC e2
        omega
  simp only [pwA, if_true, if_false, eq_self, nm_eq, reduceCtorEq, ↓reduceIte, nQ10, nQ7, nQ11, nQ12, nQ16, nQ17, nQ18, iQ2, iQ3, iQ4, iQ5, iQ6, lQ19, iQ7, lQ20, u1, u2, u3, wrapS hlt' (by omega : n ≤ 4611686018427387904)]
  refine ⟨_, by omega, i + 1, v2, v5, _, ls ++ [o], by omega, rfl, rfl, a5, by rw [List.length_append]; simp; omega, by rw [List.length_append]; simp; omega, hsh.snoc (fun e => ?_) fun e => ?_⟩
  · rcases hov with ⟨e1, _⟩ | ⟨s, c, e1, z0, z1, z2, z3, z4, z5⟩
    · exact e1
    · omega
  · rcases hov with ⟨e1, e2⟩ | ⟨s, c, e1, z0, z1, z2, z3, z4, z5⟩
    · omega
    · exact ⟨_, e1, by rw [hll]; show cells.length = _; omega⟩
end Go.Proofs
namespace Go.Grp
end Go.Grp
namespace Go.Proofs
open Go.Ab Go.Lie
section
variable {σ H h : PHeap} {K : PV → PHeap → Prop} {n : Nat} {a : Nat → Nat} {b : Nat} {p : Int} {tp sO sP sC : Nat} {vO : PV} {pc cO : List PV} {ls : List (Option LS)} {O x : List Int} {capO capP capC cap : Cap} {rows cur : List SR} {Rs : List (List SR)}
theorem LI.finR {σ0 T : PHeap} {Y : List PV} {res : Nat} (hT : Keep σ0 T) (hres : σ0.next ≤ res ∧ res < T.next) (hPc : full 1 capP rows.length) (hCc : full 1 capC Rs.length) (hpc : pc.length = rows.length)
    (hfull : ∀ q, some q ∈ ls → full 1 q.cap q.cs.length) (bf : BF T H tp sO sP sC ls) (l : LI T H h tp sO sP sC vO capP capC n cO pc ls rows Rs []) (hf : Fits ls Rs)
    (hk : ∀ vQ vC t, FII vQ (rows.map SR.x) → FIII vC (Rs.map fun R => R.map SR.x) → Own σ0.top t (.agg [.int .i64 p, vQ, vC]) → σ0.top ≤ t → K (.tup [.agg [.int .i64 p, vQ, vC], .int .i64 0]) (σ0.up t)) :
    Gh σ0 K (.tup [.agg [.int .i64 p, .sl sP 0 rows.length capP, .sl sC 0 Rs.length capC], .int .i64 0]) (h.set res Y) := by
  have hTn := hT.next
  have bO := bf.b sO (by simp)
  have bP := bf.b sP (by simp)
  have bC := bf.b sC (by simp)
  have hHn := l.nx
  have hlen : ls.length = Rs.length := hf.1
  have hzl : (List.zipWith lrT ls Rs).length = Rs.length := by rw [List.length_zipWith]; omega
  have e : (TR.tup [.agg [.leaf (.int .i64 p), TR.rows sP capP rows, .lst sC capC (List.zipWith lrT ls Rs)], .leaf (.int .i64 0)]).pv = .tup [.agg [.int .i64 p, .sl sP 0 rows.length capP, .sl sC 0 Rs.length capC], .int .i64 0] := by
    simp only [TR.pv, TR.pvs, TR.row_pv, TR.rows, List.length_map, hzl]
  rw [← e]
  have ob : ∀ s, s ≠ res → (h.set res Y).obj s = h.obj s := fun s hs => by rw [pobj_set, if_neg hs]
  have rok : ∀ q : SR, q.ok h H.next → q.ok (h.set res Y) σ0.next := fun q ⟨g1, g2, g3, g4⟩ => ⟨g1, by rw [ob _ (by have := (bf.b sO (by simp)); omega)]; exact g2, by have := (bf.b sO (by simp)); omega, g4⟩
  have okR : ∀ q ∈ rows, q.ok (h.set res Y) σ0.next := fun q hq => rok q (l.ok q (.inl hq))
  refine Gh.treeO ((hT.trans l.keep).set hres.1 _) ⟨⟨trivial, TR.rows_ok hPc (by rw [ob _ (by omega), l.oP, List.drop_of_length_le (by omega), List.append_nil]) (by omega) (by show sP < h.next; omega) okR, ⟨⟨by rw [hzl]; exact hCc, by rw [ob _ (by omega), l.oC, lr_pvs hf], by omega, by show sC < h.next; omega⟩, lr_oks fun j o R ho hR => ?_⟩, trivial⟩, trivial, trivial⟩ ?_ fun a T' g1 g2 => ?_
  · cases o with
    | none => trivial
    | some q =>
      have hm := LS.mem_of_get ho
      have bq := bf.b q.s (List.mem_append.2 (.inr hm))
      have hRl : R.length = q.cs.length := hf.2 j _ _ ho hR
      obtain ⟨hj, hje⟩ := List.getElem?_eq_some_iff.1 hR
      refine TR.rows_ok (by rw [hRl]; exact hfull q (List.mem_of_getElem? ho)) ?_ (by omega) (by show q.s < h.next; omega) fun q' hq' => rok q' (l.ok q' (.inr (.inl (List.mem_flatten.2 ⟨R, List.mem_of_getElem? hR, hq'⟩))))
      rw [ob _ (by omega), l.oL j q ho]
      unfold cont
      rw [if_pos hj, List.getD_eq_getElem?_getD, hR]; rfl
  · have nd := bf.nd
    have nr := l.nd
    rw [List.append_nil] at nr
    have hp : ((TR.tup [.agg [.leaf (.int .i64 p), TR.rows sP capP rows, .lst sC capC (List.zipWith lrT ls Rs)], .leaf (.int .i64 0)]).slots).Perm (([sP, sC] ++ LS.slots ls) ++ slotsR (rows ++ Rs.flatten)) := by
      have e2 : slotsR (rows ++ Rs.flatten) = slotsR rows ++ slotsR Rs.flatten := by simp [slotsR]
      simp only [TR.slots, TR.slotss, TR.rows, TR.rows_slots, List.append_nil, List.cons_append, List.nil_append, e2]
      refine List.Perm.cons _ ?_
      have h3 := (lr_slots hf).cons sC |>.append_left (slotsR rows)
      refine h3.trans ?_
      simp only [← List.cons_append]
      rw [← List.append_assoc, ← List.append_assoc]
      exact List.perm_append_comm.append_right _
    refine hp.nodup_iff.2 (List.nodup_append.2 ⟨?_, nr, fun x hx y hy e => ?_⟩)
    · simp only [List.cons_append, List.nil_append, List.nodup_cons] at nd ⊢
      exact nd.2.2
    · have h1 := (bf.b x (by simp only [List.cons_append, List.nil_append, List.mem_cons] at hx ⊢; exact .inr (.inr hx))).2
      obtain ⟨q, hq, e3⟩ := List.mem_map.1 hy
      have h2 := (l.ok q (by rcases List.mem_append.1 hq with hq | hq; exact .inl hq; exact .inr (.inl hq))).2.2.1
      omega
  · obtain ⟨⟨w, _⟩, nd, lt⟩ := g1
    refine hk _ _ T' TR.rows_FII ⟨true, .sl (a sC) 0 Rs.length capC, TR.fzs a (List.zipWith lrT ls Rs), by simp only [TR.fz, hzl, List.length_map], lr_all2 hf⟩ ⟨w, ?_, fun o ho => lt o ?_⟩ g2
    · simpa [TR.fz, TR.fzs, ead, eads] using nd
    · simpa [TR.fz, TR.fzs, ead, eads] using ho
end
end Go.Proofs
namespace Go.Proofs
open Go.Ab Go.Lie Go.Grp
variable {σ H h : PHeap} {K : PV → PHeap → Prop} {n c : Nat} {p : Int} {O : List Int} {P : List (List Int)} {C : List (List (List Int))} {vO vP vC : PV} {s : Nat}
end Go.Proofs
namespace Go.Grp
end Go.Grp
namespace Go.Proofs
open Go.Ab Go.Lie
section
variable {σ H h : PHeap} {K : PV → PHeap → Prop}
structure SU (T h : PHeap) (p0 : Nat) (v0 : PV) (fs : List (PV × List PV)) (ls : List LS) : Prop where
  keep : Keep T h
  obj : h.obj p0 = some (v0 :: fs.map Prod.fst)
  p0b : T.next ≤ p0 ∧ p0 < h.next
  acc : ∀ f, f ∈ fs → PSl T.next 1 h f.1 f.2.length f.2
  ne : ∀ f, f ∈ fs → ∀ off l c, f.1 ≠ .sl p0 off l c
  dis : ∀ (i j : Nat) f g, fs[i]? = some f → fs[j]? = some g → i ≠ j → ∀ s off l c, f.1 = .sl s off l c → ∀ off l c, g.1 ≠ .sl s off l c
  lok : ∀ q, q ∈ ls → q.ok h T.next
  lne : ∀ q, q ∈ ls → q.s ≠ p0 ∧ ∀ f, f ∈ fs → ∀ off l c, f.1 ≠ .sl q.s off l c
variable {T : PHeap} {p0 : Nat} {v0 : PV} {fs : List (PV × List PV)} {ls : List LS}
theorem SU.keepI {h2 : PHeap} (a : SU T h p0 v0 fs ls) (k : Keep h h2) : SU T h2 p0 v0 fs ls :=
  ⟨a.keep.trans k, by rw [k.obj _ a.p0b.2]; exact a.obj, ⟨a.p0b.1, Nat.lt_of_lt_of_le a.p0b.2 k.next⟩, fun f hf => (a.acc f hf).keep k, a.ne, a.dis, fun q hq => (a.lok q hq).move (k.obj _ (a.lok q hq).2.2.2) k.next, a.lne⟩
theorem SU.more {q : LS} (a : SU T h p0 v0 fs ls) (h1 : q.ok h T.next) (h2 : q.s ≠ p0 ∧ ∀ f, f ∈ fs → ∀ off l c, f.1 ≠ .sl q.s off l c) : SU T h p0 v0 fs (ls ++ [q]) :=
  ⟨a.keep, a.obj, a.p0b, a.acc, a.ne, a.dis, fun q' hq => (List.mem_append.1 hq).elim (a.lok q') fun e => by rw [List.mem_singleton.1 e]; exact h1, fun q' hq => (List.mem_append.1 hq).elim (a.lne q') fun e => by rw [List.mem_singleton.1 e]; exact h2⟩
theorem SU.push {K : PV × PHeap → Prop} {bytes j : Nat} {v x : PV} {cs : List PV} (a : SU T h p0 v0 fs ls) (hj : fs[j]? = some (v, cs)) (hb : cs.length ≤ 1000) (hby : bytes ≤ 24) (hone : ∀ f, f ∈ fs → f.1.one = true)
    (k : ∀ v' h2, v'.one = true → v'.cells = [v'] → h2.wr p0 (j + 1) [v'] = some (h2.set p0 (v0 :: (fs.set j (v', cs ++ [x])).map Prod.fst)) → SU T (h2.set p0 (v0 :: (fs.set j (v', cs ++ [x])).map Prod.fst)) p0 v0 (fs.set j (v', cs ++ [x])) ls → K (v', h2)) :
    optK (pappend 1 bytes (h.new [x]) v (.sl h.next 0 1 (.known 1))) K := by
  have hm : (v, cs) ∈ fs := List.mem_of_getElem? hj
  obtain ⟨hjl, hje⟩ := List.getElem?_eq_some_iff.1 hj
  have hb2 : (cs.length + 1) * bytes ≤ 1001 * 24 := Nat.mul_le_mul (by omega) hby
  refine PAcc.pushS (σb := T) (bytes := bytes) a.keep (a.acc _ hm).acc rfl (by show (cs.length + 1) * bytes ≤ _; omega) (by show cs.length + 1 ≤ _; omega) fun v' h2 k2 a2 o2 n2 l2 => ?_
  have hp := a.p0b
  have hob : h2.obj p0 = some (v0 :: fs.map Prod.fst) := by rw [o2 _ hp.2 (a.ne _ hm)]; exact a.obj
  have hset : (fs.set j (v', cs ++ [x])).map Prod.fst = (fs.map Prod.fst).set j v' := by rw [List.map_set]
  have hmem : ∀ f, f ∈ fs.set j (v', cs ++ [x]) → f = (v', cs ++ [x]) ∨ ∃ i, i ≠ j ∧ fs[i]? = some f := fun f hf => by
    obtain ⟨i, hi⟩ := List.getElem?_of_mem hf
    rw [List.getElem?_set] at hi
    split at hi
    · first
      | (cases hi; exact .inl rfl)
      | (split at hi
         · cases hi; exact .inl rfl
         · cases hi)
    · rename_i e; exact .inr ⟨i, fun e2 => e e2.symm, hi⟩
  refine k v' h2 a2.one a2.cells ?_ ⟨k2.set hp.1 _, by rw [pobj_set, if_pos rfl], ⟨hp.1, by show p0 < h2.next; omega⟩, fun f hf => ?_, fun f hf => ?_, fun i1 i2 f g hf hg hne s off l c e => ?_, fun q hq => ?_, fun q hq => ⟨(a.lne q hq).1, fun f hf => ?_⟩⟩
  · rw [obj_wr hob, if_pos ⟨by simp only [List.length_cons, List.length_map, List.length_nil]; omega, by simp only [List.all_cons, List.all_nil, a2.one]; rfl⟩, hset]
    congr 2
    rw [List.append_assoc, List.singleton_append, List.length_singleton, take_set _ (by rw [List.length_cons, List.length_map]; exact Nat.succ_lt_succ hjl), List.set_cons_succ]
  · rcases hmem f hf with rfl | ⟨i, hi, he⟩
    · have a3 : PSl T.next 1 (h2.set p0 (v0 :: (fs.set j (v', cs ++ [x])).map Prod.fst)) v' (cs.length + 1) (cs ++ [x]) := psl_move a2 (fun s off l c e => by rw [pobj_set, if_neg fun e2 => n2 p0 hp.2 off l c (by rw [e, e2])]) (Nat.le_refl _)
      simpa using a3
    · have hfm := List.mem_of_getElem? he
      refine psl_move (a.acc f hfm) (fun s off l c e => ?_) (Nat.le_of_lt l2)
      rw [pobj_set, if_neg fun e2 => a.ne f hfm off l c (by rw [e, e2]), o2 s (psl_lt (a.acc f hfm) e) (a.dis i j f _ he hj hi s off l c e)]
  · rcases hmem f hf with rfl | ⟨i, hi, he⟩
    · exact n2 p0 hp.2
    · exact a.ne f (List.mem_of_getElem? he)
  · rw [List.getElem?_set] at hf hg
    by_cases e1 : j = i1
    · rw [if_pos e1, if_pos hjl] at hf
      cases hf
      rw [if_neg fun e2 => hne (e1.symm.trans e2)] at hg
      have hgm := List.mem_of_getElem? hg
      intro off' l' c' e'
      exact n2 s (psl_lt (a.acc g hgm) e') off l c e
    · rw [if_neg e1] at hf
      have hfm := List.mem_of_getElem? hf
      by_cases e2 : j = i2
      · rw [if_pos e2, if_pos hjl] at hg
        cases hg
        exact n2 s (psl_lt (a.acc f hfm) e)
      · rw [if_neg e2] at hg
        exact a.dis i1 i2 f g hf hg hne s off l c e
  · have hq' := a.lok q hq
    refine hq'.move ?_ (Nat.le_of_lt l2)
    rw [pobj_set, if_neg (a.lne q hq).1, o2 _ hq'.2.2.2 ((a.lne q hq).2 _ hm)]
  · rcases hmem f hf with rfl | ⟨i, hi, he⟩
    · exact n2 _ (a.lok q hq).2.2.2
    · exact (a.lne q hq).2 f (List.mem_of_getElem? he)
end
end Go.Proofs
namespace Go.Grp
open Go.Lie Go.Ab
variable {O : List Int} {P : List (List Int)} {C : List (List (List Int))}
end Go.Grp
namespace Go.Proofs
open Go.Ab Go.Lie Go.Grp
variable {σ H h : PHeap} {K : PV → PHeap → Prop} {n c : Nat} {p : Int} {O : List Int} {P : List (List Int)} {C : List (List (List Int))} {vO vP vC : PV} {s : Nat}
end Go.Proofs
namespace Go.Proofs
open Go.Ab Go.Lie
variable {σ σ0 σ1 : PHeap} {K : PV → PHeap → Prop} {vC : PV} {bs : List Int} {s : Nat} {a sd : Int}
def FB (v : PV) (bs : List Int) : Prop := ∃ w a, v = .fz w a bs.length (bs.map (.int .u8))
structure Byt (bs : List Int) : Prop where
  len : bs.length ≤ 1048576
  bd : ∀ b ∈ bs, 0 ≤ b ∧ b ≤ 255
abbrev srcC (vC : PV) (a : Nat) (sd : Int) : List PV := [vC, .int .i64 (a : Int), .int .i64 sd]
structure Src (σ : PHeap) (s : Nat) (vC : PV) (bs : List Int) (a : Nat) (sd : Int) : Prop where
  obj : σ.obj s = some (srcC vC a sd)
  lt : s < σ.next
  fb : FB vC bs
  byt : Byt bs
  le : a ≤ bs.length
  sd : 0 ≤ sd ∧ sd < 2147483647
theorem FB.one {v : PV} (h : FB v bs) : v.one = true := by obtain ⟨w, a, rfl⟩ := h; rfl
theorem FB.cells {v : PV} (h : FB v bs) : v.cells = [v] := by obtain ⟨w, a, rfl⟩ := h; rfl
theorem FB.bel {v : PV} (h : FB v bs) (n : Nat) : Bel n v := by obtain ⟨w, a, rfl⟩ := h; trivial
theorem FB.bels {v : PV} (h : FB v bs) (n a : Nat) (sd : Int) : Bels n (srcC v a sd) := ⟨h.bel n, trivial, trivial, trivial⟩
theorem Gh.setS {v : PV} {s : Nat} {c0 c1 : List PV} (h0 : σ0.obj s = some c0) (hb : Bels 0 c1) (k : Gh (σ0.set s c1) K v σ1) : Gh σ0 K v σ1 := fun w ι Z h b r hv h1 h2 h3 h4 => by
  have hs : s < σ0.next := w.lt h0
  have w' : PWF (σ0.set s c1) := by
    refine ⟨fun t ht => ?_, fun t cs ht => ?_⟩
    · have ht' : σ0.next ≤ t := ht
      rw [pobj_set, if_neg (by omega)]
      exact w.wf t ht'
    · rw [pobj_set] at ht
      split at ht
      · cases ht
        exact Bels.up (Nat.zero_le _) hb
      · exact w.bel t cs ht
  obtain ⟨v2, σ2, ι2, Z2, g1, g2, g3, g4, g5, g6, g7, g8, g9⟩ := k w' ι Z h b r hv h1 h2 h3 (fun t ht hn => by
    rw [pobj_set] at hn
    split at hn
    · cases hn
    · exact h4 t ht hn)
  refine ⟨v2, σ2, ι2, Z2, g1, g2, g3, g4, g5, g6, fun t ht hn => g7 t ht ?_, g8, g9⟩
  rw [pobj_set, if_neg (by rintro rfl; rw [h0] at hn; cases hn)]
  exact hn
theorem Src.set {σ : PHeap} {a a' : Nat} {sd sd' : Int} (h : Src σ s vC bs a sd) (ha : a' ≤ bs.length) (hs : 0 ≤ sd' ∧ sd' < 2147483647) : Src (σ.set s (srcC vC a' sd')) s vC bs a' sd' :=
  ⟨by rw [pobj_set, if_pos rfl], h.lt, h.fb, h.byt, ha, hs⟩
theorem Src.keep {σ σ' : PHeap} {a : Nat} {sd : Int} (h : Src σ s vC bs a sd) (k : Keep σ σ') : Src σ' s vC bs a sd :=
  ⟨by rw [k.obj s h.lt]; exact h.obj, Nat.lt_of_lt_of_le h.lt k.next, h.fb, h.byt, h.le, h.sd⟩
theorem Src.q {σ : PHeap} {a : Nat} {sd : Int} (h : Src σ s vC bs a sd) : σ.rd1 s 0 = some vC ∧ σ.rd1 s 1 = some (.int .i64 a) ∧ σ.rd1 s 2 = some (.int .i64 sd) := by
  refine ⟨?_, ?_, ?_⟩ <;> (rw [obj_rd1 h.obj]; rfl)
theorem Src.w1 {σ : PHeap} {a : Nat} {sd x : Int} (h : Src σ s vC bs a sd) : σ.wr s 1 [.int .i64 x] = some (σ.set s [vC, .int .i64 x, .int .i64 sd]) := by
  rw [obj_wr h.obj, if_pos ⟨by simp, rfl⟩]; rfl
theorem Src.w2 {σ : PHeap} {a : Nat} {sd x : Int} (h : Src σ s vC bs a sd) : σ.wr s 2 [.int .i64 x] = some (σ.set s (srcC vC a x)) := by
  rw [obj_wr h.obj, if_pos ⟨by simp, rfl⟩]; rfl
theorem set_set_s (σ : PHeap) (s : Nat) (x y : List PV) : (σ.set s x).set s y = σ.set s y := by
  simp only [PHeap.set]
  congr 1
  funext t
  split <;> rfl
theorem byt_at {j : Nat} (hB : Byt bs) (hj : j < bs.length) : (bs.map (PV.int .u8))[j]? = some (.int .u8 (bs.getD j 0)) ∧ 0 ≤ bs.getD j 0 ∧ bs.getD j 0 ≤ 255 := by
  have e : bs.getD j 0 = bs[j] := by simp [List.getD_eq_getElem?_getD, List.getElem?_eq_getElem hj]
  rw [e]
  exact ⟨by rw [List.getElem?_map, List.getElem?_eq_getElem hj]; rfl, hB.bd _ (List.getElem_mem hj)⟩
def Nx (n x : Int) : Prop := 0 ≤ x ∧ (n ≤ 1 → x = 0) ∧ (1 < n → x < n)
theorem Nx.lt {n x : Int} (h : Nx n x) (hn : 1 ≤ n) : x < n := by
  obtain ⟨h0, h1, h2⟩ := h
  rcases Int.lt_or_le 1 n with g | g
  · exact h2 g
  · have := h1 g; omega
theorem nx_mod {n x : Int} (hn : 1 < n) (hx : 0 ≤ x) : Nx n (x.tmod n) := by
  rw [Int.tmod_eq_emod_of_nonneg hx]
  have h1 := Int.emod_nonneg x (show n ≠ 0 by omega)
  have h2 := Int.emod_lt_of_pos x (show 0 < n by omega)
  exact ⟨h1, fun h => by omega, fun _ => h2⟩
theorem l01From_ok (hb : FB vC bs) (hB : Byt bs) (hk : ∀ sd, 0 ≤ sd ∧ sd < 2147483647 → K (.ptr σ.next 0) (σ.new (srcC vC 0 sd))) : PCalls Tryz.prog 189 [vC] σ K := by
  obtain ⟨w, av, rfl⟩ := hb
  have hl := hB.len
  refine pcalls_of_vp mix Tryz.func189 cf189 rfl ?_
  dsimp only [if189, qI, eI, nI, qD, eD]
  simp only [pwA, if_true, if_false, eq_self, nm_eq, reduceCtorEq, ↓reduceIte, nQ10, nQ7, nQ11, nQ12, nQ16, nQ17, nQ18, iQ2, iQ3, iQ4, iQ5, iQ6, lQ19, iQ7, lQ20]
  generalize hC : (PV.fz w av bs.length (bs.map (.int .u8))) = vC at *
  refine vp_loop (fun m vs h' => ∃ (i : Nat) (sd : Int), i ≤ bs.length ∧ m = bs.length - i ∧ vs = [vC, .ptr σ.next 0, .int .i64 i] ∧ σ.new (srcC vC 0 sd) = h' ∧ 0 ≤ sd ∧ sd < 2147483647) bs.length ?_ ?_
  · exact ⟨0, 76001, by omega, by omega, rfl, rfl, by omega, by omega⟩
  rintro m vs h' ⟨i, sd, hi, rfl, rfl, rfl, h0, h1⟩
  have hlen : pLen vC = some (.int .i64 bs.length) := by rw [← hC]; rfl
  have wi1 : IntKind.i64.wrap ((i : Int) + 1) = ((i + 1 : Nat) : Int) := by rw [wrap64 (by omega) (by omega)]; omega
  have out : K (.ptr σ.next 0) (σ.new (srcC vC 0 sd)) := hk sd ⟨h0, h1⟩
  simp only [pwA, if_true, if_false, eq_self, nm_eq, reduceCtorEq, ↓reduceIte, nQ10, nQ7, nQ11, nQ12, nQ16, nQ17, nQ18, iQ2, iQ3, iQ4, iQ5, iQ6, lQ19, iQ7, lQ20, hlen]
  by_cases hlt : i < bs.length
  rotate_left
  · simp only [pwA, if_true, if_false, eq_self, nm_eq, reduceCtorEq, ↓reduceIte, nQ10, nQ7, nQ11, nQ12, nQ16, nQ17, nQ18, iQ2, iQ3, iQ4, iQ5, iQ6, lQ19, iQ7, lQ20, hlt, decide_false]
    exact out
  obtain ⟨b1, b2, b3⟩ := byt_at hB hlt
  by_cases h64 : i < 64
  rotate_left
  · have h64' : ¬ (i : Int) < 64 := by omega
    simp only [pwA, if_true, if_false, eq_self, nm_eq, reduceCtorEq, ↓reduceIte, nQ10, nQ7, nQ11, nQ12, nQ16, nQ17, nQ18, iQ2, iQ3, iQ4, iQ5, iQ6, lQ19, iQ7, lQ20, hlt, h64', decide_true, decide_false]
    exact out
  have h64' : (i : Int) < 64 := by omega
  generalize bs.getD i 0 = b at b1 b2 b3
  have e1 : IntKind.i64.wrap (sd * 71) = sd * 71 := wrap64 (by omega) (by omega)
  have e2 : IntKind.i64.wrap b = b := wrap64 (by omega) (by omega)
  have e3 : IntKind.i64.wrap (sd * 71 + b) = sd * 71 + b := wrap64 (by omega) (by omega)
  have e4 : (sd * 71 + b).tmod 2147483647 = (sd * 71 + b) % 2147483647 := Int.tmod_eq_emod_of_nonneg (by omega)
  subst hC
  simp only [pwA, if_true, if_false, eq_self, nm_eq, reduceCtorEq, ↓reduceIte, nQ10, nQ7, nQ11, nQ12, nQ16, nQ17, nQ18, iQ2, iQ3, iQ4, iQ5, iQ6, lQ19, iQ7, lQ20, hlt, h64', decide_true, b1, e1, e2, e3, e4, wi1]
  exact ⟨_, by omega, i + 1, _, by omega, rfl, rfl, rfl, by omega, by omega⟩
theorem l01Next_ok {a : Nat} {sd n : Int} (S : Src σ s vC bs a sd) (hn : n ≤ 4611686018427387904) (hk : ∀ x a' sd', Nx n x → a' ≤ bs.length → 0 ≤ sd' ∧ sd' < 2147483647 → K (.int .i64 x) (σ.set s (srcC vC a' sd'))) : PCalls Tryz.prog 230 [.ptr s 0, .int .i64 n] σ K := by
  have hl := S.byt.len
  have hsd := S.sd
  have ha := S.le
  obtain ⟨w, av, rfl⟩ := S.fb
  obtain ⟨q0, q1, q2⟩ := S.q
  have e1 : IntKind.i64.wrap (sd * 48271) = sd * 48271 := wrap64 (by omega) (by omega)
  have e2 : IntKind.i64.wrap (sd * 48271 + 71) = sd * 48271 + 71 := wrap64 (by omega) (by omega)
  have e4 : (sd * 48271 + 71).tmod 2147483647 = (sd * 48271 + 71) % 2147483647 := Int.tmod_eq_emod_of_nonneg (by omega)
  refine pcalls_of_vp mix Tryz.func230 cf230 rfl ?_
  dsimp only [if230, qI, eI, nI, qD, eD]
  simp only [pwA, if_true, if_false, eq_self, nm_eq, reduceCtorEq, ↓reduceIte, nQ10, nQ7, nQ11, nQ12, nQ16, nQ17, nQ18, iQ2, iQ3, iQ4, iQ5, iQ6, lQ19, iQ7, lQ20, q2, e1, e2, e4, S.w2]
  refine iteI (fun hlt => ?_) fun hge => ?_
  · have := hk 0 a sd ⟨Int.le_refl _, fun _ => rfl, fun h => by omega⟩ ha hsd
    rw [set_same S.obj] at this
    exact this
  have hsd1 : 0 ≤ (sd * 48271 + 71) % 2147483647 ∧ (sd * 48271 + 71) % 2147483647 < 2147483647 := by omega
  generalize (sd * 48271 + 71) % 2147483647 = sd1 at *
  have S1 := S.set (sd' := sd1) ha hsd1
  obtain ⟨p0, p1, p2⟩ := S1.q
  obtain ⟨x0, e5, hx0⟩ : ∃ x0, IntKind.i64.wrap (sd1.tdiv 47) = x0 ∧ 0 ≤ x0 ∧ x0 ≤ 2147483647 := by
    have d1 : sd1.tdiv 47 = sd1 / 47 := Int.tdiv_eq_ediv_of_nonneg (by omega)
    exact ⟨sd1 / 47, by rw [d1]; exact wrap64 (by omega) (by omega), by omega, by omega⟩
  have hn0 : n ≠ 0 := by omega
  generalize hs1 : σ.set s (srcC (PV.fz w av bs.length (bs.map (.int .u8))) a sd1) = σ1 at *
  have hT : ∀ (a' : Nat) (sd' : Int), σ1.set s (srcC (PV.fz w av bs.length (bs.map (.int .u8))) a' sd') = σ.set s (srcC (PV.fz w av bs.length (bs.map (.int .u8))) a' sd') := fun a' sd' => by rw [← hs1]; exact set_set_s _ _ _ _
  simp only [pwA, if_true, if_false, eq_self, nm_eq, reduceCtorEq, ↓reduceIte, nQ10, nQ7, nQ11, nQ12, nQ16, nQ17, nQ18, iQ2, iQ3, iQ4, iQ5, iQ6, lQ19, iQ7, lQ20, p0, p1, p2, e5]
  by_cases hlt' : a < bs.length
  rotate_left
  · simp only [pwA, if_true, if_false, eq_self, nm_eq, reduceCtorEq, ↓reduceIte, nQ10, nQ7, nQ11, nQ12, nQ16, nQ17, nQ18, iQ2, iQ3, iQ4, iQ5, iQ6, lQ19, iQ7, lQ20, hlt', decide_false]
    have := hk _ a sd1 (nx_mod (by omega) hx0.1) ha hsd1
    rw [hs1] at this
    simp only [pwA, if_true, if_false, eq_self, nm_eq, reduceCtorEq, ↓reduceIte, nQ10, nQ7, nQ11, nQ12, nQ16, nQ17, nQ18, iQ2, iQ3, iQ4, iQ5, iQ6, lQ19, iQ7, lQ20, hn0, e5]
    exact this
  obtain ⟨b1, b2, b3⟩ := byt_at S.byt hlt'
  generalize bs.getD a 0 = b at b1 b2 b3
  have e6 : IntKind.i64.wrap b = b := wrap64 (by omega) (by omega)
  have e7 : IntKind.i64.wrap (x0 + b) = x0 + b := wrap64 (by omega) (by omega)
  have wi1 : IntKind.i64.wrap ((a : Int) + 1) = ((a + 1 : Nat) : Int) := by rw [wrap64 (by omega) (by omega)]; omega
  simp only [pwA, if_true, if_false, eq_self, nm_eq, reduceCtorEq, ↓reduceIte, nQ10, nQ7, nQ11, nQ12, nQ16, nQ17, nQ18, iQ2, iQ3, iQ4, iQ5, iQ6, lQ19, iQ7, lQ20, hlt', decide_true, p0, p1, b1, e5, e6, e7, S1.w1, wi1]
  have Sb := S1.set (a' := a + 1) (sd' := sd1) (by omega) hsd1
  obtain ⟨r0, r1, r2⟩ := Sb.q
  generalize hs2 : σ1.set s (srcC (PV.fz w av bs.length (bs.map (.int .u8))) (a + 1) sd1) = σ2 at *
  have tm : ((a + 1 : Nat) : Int).tmod 2 = ((a + 1 : Nat) : Int) % 2 := Int.tmod_eq_emod_of_nonneg (by omega)
  have wi2 : IntKind.i64.wrap (((a + 1 : Nat) : Int) - 1) = (a : Int) := by rw [wrap64 (by omega) (by omega)]; omega
  have fin : ∀ x : Int, 0 ≤ x → K (.int .i64 (x.tmod n)) σ2 := fun x hx => by
    have := hk _ (a + 1) sd1 (nx_mod (by omega) hx) (by omega) hsd1
    rw [← hs2, hT]
    exact this
  by_cases hn256 : n ≤ 256
  rotate_left
  · simp only [pwA, if_true, if_false, eq_self, nm_eq, reduceCtorEq, ↓reduceIte, nQ10, nQ7, nQ11, nQ12, nQ16, nQ17, nQ18, iQ2, iQ3, iQ4, iQ5, iQ6, lQ19, iQ7, lQ20, hn256, decide_false, hn0, e5, e6, e7]
    exact fin _ (by omega)
  by_cases hev : ((a + 1 : Nat) : Int) % 2 = 0
  rotate_left
  · simp only [pwA, if_true, if_false, eq_self, nm_eq, reduceCtorEq, ↓reduceIte, nQ10, nQ7, nQ11, nQ12, nQ16, nQ17, nQ18, iQ2, iQ3, iQ4, iQ5, iQ6, lQ19, iQ7, lQ20, hn256, decide_true, r1, tm, hev, decide_false, hn0, e5, e6, e7]
    exact fin _ (by omega)
  simp only [pwA, if_true, if_false, eq_self, nm_eq, reduceCtorEq, ↓reduceIte, nQ10, nQ7, nQ11, nQ12, nQ16, nQ17, nQ18, iQ2, iQ3, iQ4, iQ5, iQ6, lQ19, iQ7, lQ20, hn256, decide_true, r0, r1, tm, hev, wi2, hlt', b1, hn0, e5, e6, e7]
  exact fin _ (by omega)
end Go.Proofs
namespace Go.Proofs
open Go.Ab Go.Lie
variable {σ σ0 σ1 h h' : PHeap} {K : PV → PHeap → Prop} {vC : PV} {bs : List Int} {s : Nat}
def So (σ : PHeap) (s : Nat) (vC : PV) (bs : List Int) : Prop := ∃ a sd, Src σ s vC bs a sd
def Mv (σ : PHeap) (s : Nat) (σ' : PHeap) : Prop := ∃ c0 c1, σ.obj s = some c0 ∧ Bels 0 c1 ∧ σ' = σ.set s c1
def KM (σ : PHeap) (s : Nat) (h : PHeap) : Prop := ∃ σ', Mv σ s σ' ∧ Keep σ' h
theorem Mv.next (m : Mv σ s h) : h.next = σ.next := by obtain ⟨_, _, _, _, rfl⟩ := m; rfl
theorem Mv.obj (m : Mv σ s h) {t : Nat} (ht : t ≠ s) : h.obj t = σ.obj t := by obtain ⟨_, _, _, _, rfl⟩ := m; rw [pobj_set, if_neg ht]
theorem So.lt (k : So σ s vC bs) : s < σ.next := by obtain ⟨_, _, k⟩ := k; exact k.lt
theorem So.mv (k : So σ s vC bs) {a : Nat} {sd : Int} (ha : a ≤ bs.length) (hs : 0 ≤ sd ∧ sd < 2147483647) : Mv σ s (σ.set s (srcC vC a sd)) ∧ So (σ.set s (srcC vC a sd)) s vC bs := by
  obtain ⟨a0, sd0, k⟩ := k
  exact ⟨⟨_, _, k.obj, k.fb.bels _ _ _, rfl⟩, a, sd, k.set ha hs⟩
theorem So.mv0 (k : So σ s vC bs) : Mv σ s σ := by
  obtain ⟨a0, sd0, k⟩ := k
  exact ⟨_, _, k.obj, k.fb.bels _ _ _, (set_same k.obj).symm⟩
theorem So.keep (k : So σ s vC bs) (hk : Keep σ h) : So h s vC bs := by
  obtain ⟨a0, sd0, k⟩ := k
  exact ⟨_, _, k.keep hk⟩
theorem So.set (k : So σ s vC bs) {t : Nat} (ht : s ≠ t) (cs : List PV) : So (σ.set t cs) s vC bs := by
  obtain ⟨a0, sd0, k⟩ := k
  exact ⟨a0, sd0, by rw [pobj_set, if_neg ht]; exact k.obj, k.lt, k.fb, k.byt, k.le, k.sd⟩
theorem KM.keep (k : KM σ s h) (hk : Keep h h') : KM σ s h' := by
  obtain ⟨σ', m, q⟩ := k
  exact ⟨σ', m, q.trans hk⟩
theorem KM.next (k : KM σ s h) : σ.next ≤ h.next := by
  obtain ⟨σ', m, q⟩ := k
  rw [← m.next]; exact q.next
theorem KM.obj (k : KM σ s h) {t : Nat} (ht : t < σ.next) (hn : t ≠ s) : h.obj t = σ.obj t := by
  obtain ⟨σ', m, q⟩ := k
  rw [q.obj t (by rw [m.next]; exact ht), m.obj hn]
theorem So.km (k : So σ s vC bs) : KM σ s σ := ⟨σ, k.mv0, Keep.refl _⟩
theorem So.kmK (k : So σ s vC bs) (hk : Keep σ h) : KM σ s h := ⟨σ, k.mv0, hk⟩
theorem KM.new (k : KM σ s h) (cs : List PV) : KM σ s (h.new cs) := k.keep (keep_new h cs)
theorem KM.set (k : KM σ s h) {t : Nat} (ht : σ.next ≤ t) (cs : List PV) : KM σ s (h.set t cs) := by
  obtain ⟨σ', m, q⟩ := k
  exact ⟨σ', m, q.set (by rw [m.next]; exact ht) cs⟩
theorem KM.kill (k : KM σ s h) {t : Nat} (ht : σ.next ≤ t) : KM σ s (h.kill t) := by
  obtain ⟨σ', m, q⟩ := k
  exact ⟨σ', m, q.kill (by rw [m.next]; exact ht)⟩
theorem KM.mv (k : KM σ s h) (hs : s < σ.next) (m' : Mv h s h') : KM σ s h' := by
  obtain ⟨σ', ⟨c0, c1, h0, h1, rfl⟩, q⟩ := k
  obtain ⟨d0, d1, g0, g1, rfl⟩ := m'
  refine ⟨σ.set s d1, ⟨c0, d1, h0, g1, rfl⟩, q.next, q.top, fun t ht => ?_⟩
  rw [pobj_set, pobj_set]
  split
  · rfl
  · rename_i e
    rw [q.obj t ht, pobj_set, if_neg e]
theorem KM.trans (k : KM σ s h) (hs : s < σ.next) (k' : KM h s h') : KM σ s h' := by
  obtain ⟨σ', m, q⟩ := k'
  exact (k.mv hs m).keep q
theorem Gh.km {v : PV} (k : KM σ s h) (so : So h s vC bs) (hs : s < σ.next) (c : ∀ σ', Mv σ s σ' → So σ' s vC bs → Keep σ' h → Gh σ' K v h) : Gh σ K v h := by
  obtain ⟨σ', m, q⟩ := k
  obtain ⟨c0, c1, h0, h1, e⟩ := m
  obtain ⟨a, sd, S⟩ := so
  have hs' : s < σ'.next := by rw [e]; exact hs
  have so' : So σ' s vC bs := ⟨a, sd, by rw [← q.obj s hs']; exact S.obj, hs', S.fb, S.byt, S.le, S.sd⟩
  have := c σ' ⟨c0, c1, h0, h1, e⟩ so' q
  rw [e] at this
  exact Gh.setS h0 h1 this
theorem l01Next_m {n : Int} (so : So σ s vC bs) (hn : n ≤ 4611686018427387904) (hk : ∀ x h, Nx n x → Mv σ s h → So h s vC bs → K (.int .i64 x) h) : PCalls Tryz.prog 230 [.ptr s 0, .int .i64 n] σ K := by
  obtain ⟨a, sd, S⟩ := so
  refine l01Next_ok S hn fun x a' sd' hx ha hs => ?_
  obtain ⟨m1, m2⟩ := So.mv ⟨a, sd, S⟩ ha hs
  exact hk x _ hx m1 m2
theorem l31Zero_sl {p : Int} {n : Nat} {vP vB : PV} (g1 : vP.one = true) (g2 : vB.one = true) (gl : pLen vP = some (.int .i64 n)) (hn : n ≤ 1048576) (hk : ∀ cap, full 1 cap n → K (.sl σ.next 0 n cap) (σ.new (pis (List.replicate n 0)))) : PCalls Tryz.prog 201 [.agg [.int .i64 p, vP, vB]] σ K := by
  refine PCalls.gh ?_
  refine pcalls_of_vp mix Tryz.func201 cf201 rfl ?_
  dsimp only [if201, qI, eI, nI, qD, eD]
  simp only [pwA, if_true, if_false, eq_self, nm_eq, reduceCtorEq, ↓reduceIte, nQ10, nQ7, nQ11, nQ12, nQ16, nQ17, nQ18, iQ2, iQ3, iQ4, iQ5, iQ6, lQ19, iQ7, lQ20, g1, g2, gl, pis_rep, mk8 (n := n) (by omega), mkL (n := n) (by omega)]
  exact Gh.finS (s := σ.next + 1) ((keep_new σ _).new _) (by simp only [pwA, if_true, if_false, eq_self, nm_eq, reduceCtorEq, ↓reduceIte, nQ10, nQ7, nQ11, nQ12, nQ16, nQ17, nQ18, iQ2, iQ3, iQ4, iQ5, iQ6, lQ19, iQ7, lQ20]) (by omega) (pis_bel _ _) (hk _ (.inr rfl))
theorem l31Unit_sl {p : Int} {n k : Nat} {vP vB : PV} (g1 : vP.one = true) (g2 : vB.one = true) (gl : pLen vP = some (.int .i64 n)) (hn : n ≤ 1048576) (hkn : k < n) (hk : ∀ v, FI v (unitL n k) → K v σ) : PCalls Tryz.prog 231 [.agg [.int .i64 p, vP, vB], .int .i64 k] σ K := by
  refine PCalls.gh ?_
  refine pcalls_of_vp mix Tryz.func231 cf231 rfl ?_
  dsimp only [if231, qI, eI, nI, qD, eD]
  simp only [pwA, if_true, if_false, eq_self, nm_eq, reduceCtorEq, ↓reduceIte, nQ10, nQ7, nQ11, nQ12, nQ16, nQ17, nQ18, iQ2, iQ3, iQ4, iQ5, iQ6, lQ19, iQ7, lQ20, g1, g2]
  refine l31Zero_sl g1 g2 gl hn fun cap hc => ?_
  simp only [pwA, if_true, if_false, eq_self, nm_eq, reduceCtorEq, ↓reduceIte, nQ10, nQ7, nQ11, nQ12, nQ16, nQ17, nQ18, iQ2, iQ3, iQ4, iQ5, iQ6, lQ19, iQ7, lQ20, hkn, pis_length, List.length_replicate, Nat.succ_le_of_lt hkn]
  rw [pis_set_at (by simpa using hkn)]
  exact Gh.finF (s := σ.next + 1) ((keep_new σ _).new _) (by simp only [pwA, if_true, if_false, eq_self, nm_eq, reduceCtorEq, ↓reduceIte, nQ10, nQ7, nQ11, nQ12, nQ16, nQ17, nQ18, iQ2, iQ3, iQ4, iQ5, iQ6, lQ19, iQ7, lQ20]; rfl) (by omega) (pis_bel _ _) hc.ok fun _ => hk _ ⟨_, _, by rw [unitL_length]; rfl⟩
theorem l31Primed_ok {n : Nat} (so : So σ s vC bs) (hn : n ≤ 6) (hk : ∀ p h, isP p → ipow p n ≤ 729 → Mv σ s h → So h s vC bs → K (.int .i64 p) h) : PCalls Tryz.prog 299 [.ptr s 0, .int .i64 n] σ K := by
  have hlt := so.lt
  refine PCalls.gh ?_
  refine pcalls_of_vp mix Tryz.func299 cf299 rfl ?_
  dsimp only [if299, qI, eI, nI, qD, eD]
  simp only [pwA, if_true, if_false, eq_self, nm_eq, reduceCtorEq, ↓reduceIte, nQ10, nQ7, nQ11, nQ12, nQ16, nQ17, nQ18, iQ2, iQ3, iQ4, iQ5, iQ6, lQ19, iQ7, lQ20]
  refine l01Next_m (so.keep (keep_new _ _)) (by decide) fun x h1 hx m1 so1 => ?_
  have hxl := hx.lt (by decide)
  have hx0 := hx.1
  have ob : h1.obj σ.next = some (pis [2, 3, 3, 5, 7, 2]) := by rw [m1.obj (by omega)]; simp only [pwA, if_true, if_false, eq_self, nm_eq, reduceCtorEq, ↓reduceIte, nQ10, nQ7, nQ11, nQ12, nQ16, nQ17, nQ18, iQ2, iQ3, iQ4, iQ5, iQ6, lQ19, iQ7, lQ20]; rfl
  obtain ⟨k, rfl⟩ : ∃ k : Nat, x = k := ⟨x.toNat, by omega⟩
  have hk6 : k < 6 := by omega
  obtain ⟨p0, hp0, hr⟩ : ∃ p0, isP p0 ∧ h1.rd1 σ.next k = some (.int .i64 p0) := by
    have e : k = 0 ∨ k = 1 ∨ k = 2 ∨ k = 3 ∨ k = 4 ∨ k = 5 := by omega
    rcases e with rfl | rfl | rfl | rfl | rfl | rfl
    · exact ⟨2, .inl rfl, by rw [obj_rd1 ob]; rfl⟩
    · exact ⟨3, .inr (.inl rfl), by rw [obj_rd1 ob]; rfl⟩
    · exact ⟨3, .inr (.inl rfl), by rw [obj_rd1 ob]; rfl⟩
    · exact ⟨5, .inr (.inr (.inl rfl)), by rw [obj_rd1 ob]; rfl⟩
    · exact ⟨7, .inr (.inr (.inr rfl)), by rw [obj_rd1 ob]; rfl⟩
    · exact ⟨2, .inl rfl, by rw [obj_rd1 ob]; rfl⟩
  simp only [pwA, if_true, if_false, eq_self, nm_eq, reduceCtorEq, ↓reduceIte, nQ10, nQ7, nQ11, nQ12, nQ16, nQ17, nQ18, iQ2, iQ3, iQ4, iQ5, iQ6, lQ19, iQ7, lQ20, hr, hk6]
  have hnc : n = 0 ∨ n = 1 ∨ n = 2 ∨ n = 3 ∨ n = 4 ∨ n = 5 ∨ n = 6 := by omega
  have big : ∀ q : Int, isP q → ¬ ipow q n ≤ 729 → q = 5 ∨ q = 7 := fun q hq hb => by
    rcases hq with rfl | rfl | rfl | rfl
    · exact absurd (by rcases hnc with rfl | rfl | rfl | rfl | rfl | rfl | rfl <;> decide) hb
    · exact absurd (by rcases hnc with rfl | rfl | rfl | rfl | rfl | rfl | rfl <;> decide) hb
    · exact .inl rfl
    · exact .inr rfl
  refine vp_loop (fun m vs h => ∃ q : Int, isP q ∧ m = q.toNat ∧ vs = [.int .i64 n, .int .i64 q] ∧ KM σ s h ∧ So h s vC bs) p0.toNat ?_ ?_
  · exact ⟨p0, hp0, rfl, rfl, (so.km.new _).mv hlt m1, so1⟩
  rintro m vs h2 ⟨q, hq, rfl, rfl, km, so2⟩
  simp only [pwA, if_true, if_false, eq_self, nm_eq, reduceCtorEq, ↓reduceIte, nQ10, nQ7, nQ11, nQ12, nQ16, nQ17, nQ18, iQ2, iQ3, iQ4, iQ5, iQ6, lQ19, iQ7, lQ20]
  refine l31Size_ok (p := q) (n := n) (by rcases hq with rfl | rfl | rfl | rfl <;> decide) hn fun k k1 k2 k3 k4 => ?_
  by_cases hk9 : k ≤ 729
  · have hk9' : ¬ k > 729 := by omega
    simp only [pwA, if_true, if_false, eq_self, nm_eq, reduceCtorEq, ↓reduceIte, nQ10, nQ7, nQ11, nQ12, nQ16, nQ17, nQ18, iQ2, iQ3, iQ4, iQ5, iQ6, lQ19, iQ7, lQ20, hk9', decide_false]
    exact Gh.km km so2 hlt fun σ' m' so' kp => Gh.fin0 kp trivial (hk q σ' hq (k1.1 hk9) m' so')
  · have hk9' : k > 729 := by omega
    rcases big q hq (fun e => hk9 (k1.2 e)) with rfl | rfl
    · simp only [pwA, if_true, if_false, eq_self, nm_eq, reduceCtorEq, ↓reduceIte, nQ10, nQ7, nQ11, nQ12, nQ16, nQ17, nQ18, iQ2, iQ3, iQ4, iQ5, iQ6, lQ19, iQ7, lQ20, hk9', decide_true, show ((5 : Int) < ((8 : Nat) : Int)) by decide]
      exact ⟨_, by decide, 3, .inr (.inl rfl), rfl, rfl, km.new _, so2.keep (keep_new _ _)⟩
    · simp only [pwA, if_true, if_false, eq_self, nm_eq, reduceCtorEq, ↓reduceIte, nQ10, nQ7, nQ11, nQ12, nQ16, nQ17, nQ18, iQ2, iQ3, iQ4, iQ5, iQ6, lQ19, iQ7, lQ20, hk9', decide_true, show ((7 : Int) < ((8 : Nat) : Int)) by decide]
      exact ⟨_, by decide, 5, .inr (.inr (.inl rfl)), rfl, rfl, km.new _, so2.keep (keep_new _ _)⟩
structure TailI (σ h : PHeap) (s : Nat) (vC : PV) (bs : List Int) (p : Int) (n k : Nat) (vP vB : PV) (x : List Int) : Prop where
  km : KM σ s h
  so : So h s vC bs
  o1 : h.obj σ.next = some [.int .i64 p, vP, vB]
  o2 : h.obj (σ.next + 1) = some (pis x)
  lt : σ.next + 1 < h.next
  el : El p n x
  z : ∀ j, j < k → at_ x j = 0
theorem l31Tail_sl {n k : Nat} {p : Int} {vP vB : PV} (so : So σ s vC bs) (hp : 2 ≤ p ∧ p ≤ 7) (g1 : vP.one = true) (g2 : vB.one = true) (gl : pLen vP = some (.int .i64 n)) (hn : n ≤ 1048576) (hkn : k ≤ n)
    (hk : ∀ x h cap, El p n x → (∀ j, j < k → at_ x j = 0) → full 1 cap n → Mv σ s h → So h s vC bs → K (.sl σ.next 0 n cap) (h.new (pis x))) : PCalls Tryz.prog 272 [.ptr s 0, .agg [.int .i64 p, vP, vB], .int .i64 k] σ K := by
  have hlt := so.lt
  refine PCalls.gh ?_
  refine pcalls_of_vp mix Tryz.func272 cf272 rfl ?_
  dsimp only [if272, qI, eI, nI, qD, eD]
  simp only [pwA, if_true, if_false, eq_self, nm_eq, reduceCtorEq, ↓reduceIte, nQ10, nQ7, nQ11, nQ12, nQ16, nQ17, nQ18, iQ2, iQ3, iQ4, iQ5, iQ6, lQ19, iQ7, lQ20, g1, g2]
  refine l31Zero_sl g1 g2 gl hn fun cap hc => ?_
  simp only [pwA, if_true, if_false, eq_self, nm_eq, reduceCtorEq, ↓reduceIte, nQ10, nQ7, nQ11, nQ12, nQ16, nQ17, nQ18, iQ2, iQ3, iQ4, iQ5, iQ6, lQ19, iQ7, lQ20]
  generalize hH : (σ.new [.int .i64 p, vP, vB]) = H
  have hkH : Keep σ H := by rw [← hH]; exact keep_new _ _
  have hHn : H.next = σ.next + 1 := by rw [← hH]; rfl
  have obR : H.obj σ.next = some [.int .i64 p, vP, vB] := by rw [← hH]; simp only [pwA, if_true, if_false, eq_self, nm_eq, reduceCtorEq, ↓reduceIte, nQ10, nQ7, nQ11, nQ12, nQ16, nQ17, nQ18, iQ2, iQ3, iQ4, iQ5, iQ6, lQ19, iQ7, lQ20]
  refine vp_loop (fun m vs h => ∃ (i : Nat) (x : List Int), k ≤ i ∧ i ≤ n ∧ m = n - i ∧ vs = [.ptr s 0, .ptr σ.next 0, .sl (σ.next + 1) 0 n cap, .int .i64 i] ∧ TailI σ h s vC bs p n k vP vB x) (n - k) ?_ ?_
  · refine ⟨k, List.replicate n 0, Nat.le_refl _, hkn, rfl, rfl, ⟨(so.kmK hkH).new _, (so.keep hkH).keep (keep_new _ _), by rw [pobj_new, if_neg (by omega)]; exact obR, by rw [pobj_new, if_pos hHn.symm], by show _ < H.next + 1; omega, ⟨by simp, fun y hy => by rw [List.eq_of_mem_replicate hy]; omega⟩, fun j _ => at_rep _ _⟩⟩
  rintro m vs h ⟨i, x, hki, hin, rfl, rfl, ⟨km, so2, o1, o2, hl2, hx, hz⟩⟩
  have hxl := hx.1
  simp only [pwA, if_true, if_false, eq_self, nm_eq, reduceCtorEq, ↓reduceIte, nQ10, nQ7, nQ11, nQ12, nQ16, nQ17, nQ18, iQ2, iQ3, iQ4, iQ5, iQ6, lQ19, iQ7, lQ20]
  refine iteI (fun hilt => ?_) fun hige => ?_
  rotate_left
  · have e : i = n := by omega
    refine Gh.km km so2 hlt fun σ' m' so' kp => ?_
    have hnx := m'.next
    rw [← hnx]
    refine Gh.finS (s := σ'.next + 1) kp (by rw [hnx]; exact o2) (by omega) (pis_bel _ _) ?_
    have := hk x σ' cap hx hz hc m' so'
    rw [hnx]
    exact this
  have r0 : h.rd1 σ.next 0 = some (.int .i64 p) := by rw [obj_rd1 o1]; rfl
  simp only [pwA, if_true, if_false, eq_self, nm_eq, reduceCtorEq, ↓reduceIte, nQ10, nQ7, nQ11, nQ12, nQ16, nQ17, nQ18, iQ2, iQ3, iQ4, iQ5, iQ6, lQ19, iQ7, lQ20, r0]
  refine l01Next_m so2 (by omega) fun y h3 hy m3 so3 => ?_
  have hyl := hy.lt (by omega)
  have hy0 := hy.1
  have hilt' : i < n := by omega
  have o3 : h3.obj (σ.next + 1) = some (pis x) := by rw [m3.obj (by omega)]; exact o2
  have w3 : h3.wr (σ.next + 1) i [.int .i64 y] = some (h3.set (σ.next + 1) (pis (x.set i y))) := by
    rw [obj_wr o3, if_pos ⟨by rw [pis_length, hxl]; simp; omega, rfl⟩]
    congr 2
    exact pis_set_at (by omega)
  have wi : IntKind.i64.wrap ((i : Int) + 1) = ((i + 1 : Nat) : Int) := by rw [wrap64 (by omega) (by omega)]; omega
  simp only [pwA, if_true, if_false, eq_self, nm_eq, reduceCtorEq, ↓reduceIte, nQ10, nQ7, nQ11, nQ12, nQ16, nQ17, nQ18, iQ2, iQ3, iQ4, iQ5, iQ6, lQ19, iQ7, lQ20, hilt', w3, wi]
  refine ⟨_, ?_, i + 1, x.set i y, by omega, by omega, rfl, rfl, ⟨(km.mv hlt m3).set (by omega) _, so3.set (by omega) _, by rw [pobj_set, if_neg (by omega), m3.obj (by omega)]; exact o1, by rw [pobj_set, if_pos rfl], by show _ < h3.next; rw [m3.next]; exact hl2, ⟨by rw [List.length_set]; exact hxl, fun z hzz => ?_⟩, fun j hj => ?_⟩⟩
  · omega
  · rcases List.mem_or_eq_of_mem_set hzz with e | e
    · exact hx.2 z e
    · omega
  · rw [at_set (by omega), if_neg (by omega)]
    exact hz j hj
theorem l31Tail_fz {n k : Nat} {p : Int} {vP vB : PV} (so : So σ s vC bs) (hp : 2 ≤ p ∧ p ≤ 7) (g1 : vP.one = true) (g2 : vB.one = true) (gl : pLen vP = some (.int .i64 n)) (hn : n ≤ 1048576) (hkn : k ≤ n)
    (hk : ∀ v x h, El p n x → (∀ j, j < k → at_ x j = 0) → FI v x → Mv σ s h → So h s vC bs → K v h) : PCalls Tryz.prog 272 [.ptr s 0, .agg [.int .i64 p, vP, vB], .int .i64 k] σ K := by
  refine PCalls.gh (l31Tail_sl so hp g1 g2 gl hn hkn fun x h cap hx hz hc m so2 => ?_)
  refine Gh.km (so.km.mv so.lt m |>.new _) (so2.keep (keep_new _ _)) so.lt fun σ' m' so' kp => ?_
  have hxl := hx.1
  subst hxl
  exact Gh.finF (s := σ.next) kp (by rw [pobj_new, if_pos m.next.symm]) (by rw [m'.next]; exact Nat.le_refl _) (pis_bel _ _) hc.ok fun o => hk _ x σ' hx hz ⟨_, _, rfl⟩ m' so'
end Go.Proofs
set_option linter.unusedSectionVars false
namespace Go.Proofs
open Go.Ab Go.Lie
variable {σ σ0 h h' : PHeap} {K : PV → PHeap → Prop} {vC : PV} {bs : List Int} {s b n : Nat} {p : Int} {RP R : PV → List Int → Prop} {sP sB : Nat} {capP capB : Cap} {cs : List PV} {ls : List LS} {W : List (List Int)} {B : List (List (List Int))}
def RowsG (R : PV → List Int → Prop) (ls : List LS) (B : List (List (List Int))) : Prop := All2 (fun (q : LS) (M : List (List Int)) => All2 R q.cs M) ls B
structure RS (RP R : PV → List Int → Prop) (b : Nat) (h : PHeap) (n sP : Nat) (capP : Cap) (cs : List PV) (sB : Nat) (capB : Cap) (ls : List LS) (W : List (List Int)) (B : List (List (List Int))) : Prop where
  P : full 1 capP n ∧ h.obj sP = some cs ∧ b ≤ sP ∧ sP < h.next
  Q : full 1 capB n ∧ h.obj sB = some (ls.map LS.pv) ∧ b ≤ sB ∧ sB < h.next
  ne : sP ≠ sB
  lok : ∀ q ∈ ls, q.ok h b
  lne : ∀ q ∈ ls, q.s ≠ sP ∧ q.s ≠ sB
  nd : (ls.map LS.s).Nodup
  aP : All2 RP cs W
  aB : RowsG R ls B
  lW : W.length = n
  lB : B.length = n
theorem RS.move (a : RS RP R b h n sP capP cs sB capB ls W B) (ho : ∀ t, (t = sP ∨ t = sB ∨ ∃ q ∈ ls, q.s = t) → h'.obj t = h.obj t) (hn : h.next ≤ h'.next) : RS RP R b h' n sP capP cs sB capB ls W B := by
  obtain ⟨p1, p2, p3, p4⟩ := a.P
  obtain ⟨q1, q2, q3, q4⟩ := a.Q
  exact ⟨⟨p1, by rw [ho _ (.inl rfl)]; exact p2, p3, by omega⟩, ⟨q1, by rw [ho _ (.inr (.inl rfl))]; exact q2, q3, by omega⟩, a.ne, fun q hq => (a.lok q hq).move (ho _ (.inr (.inr ⟨q, hq, rfl⟩))) hn, a.lne, a.nd, a.aP, a.aB, a.lW, a.lB⟩
theorem RS.lt (a : RS RP R b h n sP capP cs sB capB ls W B) {t : Nat} (ht : t = sP ∨ t = sB ∨ ∃ q ∈ ls, q.s = t) : b ≤ t ∧ t < h.next := by
  rcases ht with rfl | rfl | ⟨q, hq, rfl⟩
  · exact a.P.2.2
  · exact a.Q.2.2
  · exact (a.lok q hq).2.2
theorem RS.keep (a : RS RP R b h n sP capP cs sB capB ls W B) (k : Keep h h') : RS RP R b h' n sP capP cs sB capB ls W B := a.move (fun t ht => k.obj t (a.lt ht).2) k.next
theorem RS.new (a : RS RP R b h n sP capP cs sB capB ls W B) (xs : List PV) : RS RP R b (h.new xs) n sP capP cs sB capB ls W B := a.keep (keep_new h xs)
theorem RS.mv (a : RS RP R b h n sP capP cs sB capB ls W B) (hs : s < b) (m : Mv h s h') : RS RP R b h' n sP capP cs sB capB ls W B := a.move (fun t ht => m.obj (by have := (a.lt ht).1; omega)) (by rw [m.next]; exact Nat.le_refl _)
theorem RS.low {b' : Nat} (a : RS RP R b h n sP capP cs sB capB ls W B) (hb : b' ≤ b) : RS RP R b' h n sP capP cs sB capB ls W B :=
  ⟨⟨a.P.1, a.P.2.1, by have := a.P.2.2.1; omega, a.P.2.2.2⟩, ⟨a.Q.1, a.Q.2.1, by have := a.Q.2.2.1; omega, a.Q.2.2.2⟩, a.ne, fun q hq => ⟨(a.lok q hq).1, (a.lok q hq).2.1, by have := (a.lok q hq).2.2.1; omega, (a.lok q hq).2.2.2⟩, a.lne, a.nd, a.aP, a.aB, a.lW, a.lB⟩
theorem RS.csl (a : RS RP R b h n sP capP cs sB capB ls W B) : cs.length = n := a.aP.1.trans a.lW
theorem RS.lsl (a : RS RP R b h n sP capP cs sB capB ls W B) : ls.length = n := a.aB.1.trans a.lB
theorem RS.rdB (a : RS RP R b h n sP capP cs sB capB ls W B) {i : Nat} (hi : i < n) : ∃ q, ls[i]? = some q ∧ h.rd1 sB i = some q.pv ∧ q.cs.length = (B.getD i []).length := by
  have hl := a.lsl
  refine ⟨ls[i]'(by omega), List.getElem?_eq_getElem (by omega), ?_, ?_⟩
  · rw [obj_rd1 a.Q.2.1, List.getElem?_map, List.getElem?_eq_getElem (by omega)]; rfl
  · have hB := a.lB
    have := a.aB.2 i _ _ (List.getElem?_eq_getElem (by omega)) (List.getElem?_eq_getElem (by omega))
    rw [this.1, List.getD_eq_getElem?_getD, List.getElem?_eq_getElem (by omega)]
    rfl
theorem all2_set {α β : Type} {R : α → β → Prop} {xs : List α} {ys : List β} (k : All2 R xs ys) {i : Nat} {a : α} {b : β} (hr : R a b) : All2 R (xs.set i a) (ys.set i b) := by
  refine ⟨by rw [List.length_set, List.length_set]; exact k.1, fun j x y hx hy => ?_⟩
  rw [List.getElem?_set] at hx hy
  by_cases e : i = j
  · rw [if_pos e] at hx hy
    split at hx
    · split at hy
      · cases hx; cases hy; exact hr
      · cases hy
    · cases hx
  · rw [if_neg e] at hx hy
    exact k.2 j x y hx hy
theorem wr_one {h : PHeap} {t i : Nat} {cs : List PV} {v : PV} (ho : h.obj t = some cs) (hi : i < cs.length) (hv : v.one = true) : h.wr t i [v] = some (h.set t (cs.set i v)) := by
  rw [obj_wr ho, if_pos ⟨by simp; omega, by simp [hv]⟩]
  congr 2
  rw [List.append_assoc]
  exact take_set cs hi v
theorem RS.putP (a : RS RP R b h n sP capP cs sB capB ls W B) {i : Nat} {v : PV} {w : List Int} (hi : i < n) (hv : RP v w) (ho : v.one = true) :
    h.wr sP i [v] = some (h.set sP (cs.set i v)) ∧ RS RP R b (h.set sP (cs.set i v)) n sP capP (cs.set i v) sB capB ls (W.set i w) B := by
  obtain ⟨p1, p2, p3, p4⟩ := a.P
  obtain ⟨q1, q2, q3, q4⟩ := a.Q
  refine ⟨wr_one p2 (by rw [a.csl]; exact hi) ho, ⟨p1, by rw [pobj_set, if_pos rfl], p3, p4⟩, ⟨q1, by rw [pobj_set, if_neg (Ne.symm a.ne)]; exact q2, q3, q4⟩, a.ne, fun q hq => (a.lok q hq).move (by rw [pobj_set, if_neg (a.lne q hq).1]) (Nat.le_refl _), a.lne, a.nd, all2_set a.aP hv, a.aB, by rw [List.length_set]; exact a.lW, a.lB⟩
theorem map_set_same {α β : Type} (f : α → β) {xs : List α} {i : Nat} {x y : α} (hx : xs[i]? = some x) (e : f y = f x) : (xs.set i y).map f = xs.map f := by
  rw [List.map_set, e]
  refine List.ext_getElem? fun j => ?_
  rw [List.getElem?_set]
  split
  · rename_i e2
    subst e2
    rw [List.getElem?_map, hx]
    split
    · rfl
    · rename_i e3
      have := (List.getElem?_eq_some_iff.1 hx).1
      simp only [List.length_map] at e3
      omega
  · rfl
theorem RS.putB (a : RS RP R b h n sP capP cs sB capB ls W B) {i k : Nat} {q : LS} {v : PV} {w : List Int} (hq : ls[i]? = some q) (hk : k < q.cs.length) (hv : R v w) (ho : v.one = true) :
    h.wr q.s k [v] = some (h.set q.s (q.cs.set k v)) ∧ RS RP R b (h.set q.s (q.cs.set k v)) n sP capP cs sB capB (ls.set i ⟨q.s, q.cap, q.cs.set k v⟩) W (B.set i ((B.getD i []).set k w)) := by
  obtain ⟨p1, p2, p3, p4⟩ := a.P
  obtain ⟨q1, q2, q3, q4⟩ := a.Q
  have hm := List.mem_of_getElem? hq
  obtain ⟨g1, g2, g3, g4⟩ := a.lok q hm
  obtain ⟨hil, hie⟩ := List.getElem?_eq_some_iff.1 hq
  have hn := a.lne q hm
  have epv : LS.pv ⟨q.s, q.cap, q.cs.set k v⟩ = q.pv := by simp [LS.pv]
  have hmem : ∀ q', q' ∈ ls.set i ⟨q.s, q.cap, q.cs.set k v⟩ → q' = ⟨q.s, q.cap, q.cs.set k v⟩ ∨ (q' ∈ ls ∧ q'.s ≠ q.s) := fun q' hq' => by
    obtain ⟨j, hj⟩ := List.getElem?_of_mem hq'
    rw [List.getElem?_set] at hj
    split at hj
    · first
      | (cases hj; exact .inl rfl)
      | (split at hj
         · cases hj; exact .inl rfl
         · cases hj)
    · rename_i e
      refine .inr ⟨List.mem_of_getElem? hj, fun e2 => e ?_⟩
      obtain ⟨hjl, hje⟩ := List.getElem?_eq_some_iff.1 hj
      have := (List.getElem_inj (xs := ls.map LS.s) (i := i) (j := j) (h₀ := by rw [List.length_map]; exact hil) (h₁ := by rw [List.length_map]; exact hjl) a.nd).1 (by rw [List.getElem_map, List.getElem_map, hie, hje, e2])
      exact this
  refine ⟨wr_one g2 hk ho, ⟨p1, by rw [pobj_set, if_neg (Ne.symm hn.1)]; exact p2, p3, p4⟩, ⟨q1, by rw [pobj_set, if_neg (Ne.symm hn.2), map_set_same LS.pv hq epv]; exact q2, q3, q4⟩, a.ne, fun q' hq' => ?_, fun q' hq' => ?_, ?_, a.aP, ?_, a.lW, by rw [List.length_set]; exact a.lB⟩
  · rcases hmem q' hq' with rfl | ⟨h1, h2⟩
    · exact ⟨by show full 1 q.cap (q.cs.set k v).length; rw [List.length_set]; exact g1, by rw [pobj_set, if_pos rfl], g3, g4⟩
    · exact (a.lok q' h1).move (by rw [pobj_set, if_neg h2]) (Nat.le_refl _)
  · rcases hmem q' hq' with rfl | ⟨h1, h2⟩
    · exact hn
    · exact a.lne q' h1
  · rw [map_set_same LS.s (y := ⟨q.s, q.cap, q.cs.set k v⟩) hq rfl]
    exact a.nd
  · have hB := a.lB
    have hl := a.lsl
    refine all2_set a.aB (all2_set ?_ hv)
    have := a.aB.2 i _ _ hq (List.getElem?_eq_getElem (by omega))
    rw [List.getD_eq_getElem?_getD, List.getElem?_eq_getElem (by omega)]
    exact this
theorem RS.imp {RP' R' : PV → List Int → Prop} (a : RS RP R b h n sP capP cs sB capB ls W B) (h1 : All2 RP' cs W) (h2 : RowsG R' ls B) : RS RP' R' b h n sP capP cs sB capB ls W B := ⟨a.P, a.Q, a.ne, a.lok, a.lne, a.nd, h1, h2, a.lW, a.lB⟩
theorem sbs_map {t o : Nat} {xs : List PV} : ∀ vs : List PV, sbs t o xs vs = vs.map (sb t o xs)
  | [] => rfl
  | v :: vs => by simp only [sbs, List.map_cons, sbs_map vs]
theorem sub_obj {t o u : Nat} {xs ds : List PV} (hne : u ≠ t) (ho : h.obj u = some ds) : ((h.kill t).sub t o xs).obj u = some (sbs t o xs ds) := by
  show (((h.kill t).obj u).map (sbs t o xs)) = _
  rw [pobj_kill, if_neg hne, ho]; rfl
def LS.fr (t o : Nat) (xs : List PV) (q : LS) : LS := ⟨q.s, q.cap, sbs t o xs q.cs⟩
theorem LS.fr_pv {t o : Nat} {xs : List PV} (q : LS) : (LS.fr t o xs q).pv = q.pv := by simp [LS.fr, LS.pv, sbs_length]
theorem LS.sbs_pv {t o : Nat} {xs : List PV} : ∀ {ls : List LS}, (∀ q ∈ ls, q.s ≠ t) → sbs t o xs (ls.map LS.pv) = ls.map LS.pv
  | [], _ => rfl
  | q :: ls, hn => by
    have := hn q (List.mem_cons_self ..)
    simp only [List.map_cons, sbs, LS.sbs_pv fun q' hq => hn q' (List.mem_cons_of_mem _ hq)]
    simp only [LS.pv, sb, this, false_and, if_false]
theorem LS.fr_ok {t o : Nat} {xs : List PV} {q : LS} (a : q.ok h b) (hn : q.s ≠ t) : (LS.fr t o xs q).ok ((h.kill t).sub t o xs) b := by
  obtain ⟨h1, h2, h3, h4⟩ := a
  exact ⟨by show full 1 q.cap (sbs t o xs q.cs).length; rw [sbs_length]; exact h1, sub_obj hn h2, h3, h4⟩
theorem LS.fr_same {t o : Nat} {xs : List PV} {ls : List LS} (hb : ∀ q ∈ ls, Bels 0 q.cs) : ls.map (LS.fr t o xs) = ls := by
  conv => rhs; rw [← List.map_id ls]
  refine List.map_congr_left fun q hq => ?_
  show (⟨q.s, q.cap, sbs t o xs q.cs⟩ : LS) = q
  rw [sbs_bel (Nat.zero_le _) (hb q hq)]
theorem RS.fzh {RP' R' : PV → List Int → Prop} {t o : Nat} {xs : List PV} (a : RS RP R b h n sP capP cs sB capB ls W B) (hn : t ≠ sP ∧ t ≠ sB ∧ ∀ q ∈ ls, q.s ≠ t) (hP : ∀ v w, RP v w → RP' (sb t o xs v) w) (hR : ∀ v w, R v w → R' (sb t o xs v) w) :
    RS RP' R' b ((h.kill t).sub t o xs) n sP capP (sbs t o xs cs) sB capB (ls.map (LS.fr t o xs)) W B := by
  obtain ⟨p1, p2, p3, p4⟩ := a.P
  obtain ⟨q1, q2, q3, q4⟩ := a.Q
  have e1 : (ls.map (LS.fr t o xs)).map LS.pv = ls.map LS.pv := by rw [List.map_map]; exact List.map_congr_left fun q _ => LS.fr_pv q
  have e2 : (ls.map (LS.fr t o xs)).map LS.s = ls.map LS.s := by rw [List.map_map]; exact List.map_congr_left fun q _ => rfl
  have a2 : ∀ {S S' : PV → List Int → Prop} {vs : List PV} {ws : List (List Int)}, (∀ v w, S v w → S' (sb t o xs v) w) → All2 S vs ws → All2 S' (sbs t o xs vs) ws := fun hS k => by
    refine ⟨by rw [sbs_length]; exact k.1, fun j x y hx hy => ?_⟩
    rw [sbs_map, List.getElem?_map] at hx
    obtain ⟨v, hv, rfl⟩ := Option.map_eq_some_iff.1 hx
    exact hS _ _ (k.2 j v y hv hy)
  refine ⟨⟨p1, sub_obj (Ne.symm hn.1) p2, p3, p4⟩, ⟨q1, by rw [e1, sub_obj (Ne.symm hn.2.1) q2, LS.sbs_pv hn.2.2], q3, q4⟩, a.ne, fun q hq => ?_, fun q hq => ?_, by rw [e2]; exact a.nd, a2 hP a.aP, ⟨by rw [List.length_map]; exact a.aB.1, fun j x y hx hy => ?_⟩, a.lW, a.lB⟩
  · obtain ⟨q', hq', rfl⟩ := List.mem_map.1 hq
    exact LS.fr_ok (a.lok q' hq') (hn.2.2 q' hq')
  · obtain ⟨q', hq', rfl⟩ := List.mem_map.1 hq
    exact a.lne q' hq'
  · rw [List.getElem?_map] at hx
    obtain ⟨q', hq', rfl⟩ := Option.map_eq_some_iff.1 hx
    exact a2 hR (a.aB.2 j q' y hq' hy)
theorem RS.fin (a : RS FI FI b h n sP capP cs sB capB ls W B) (hk : Keep σ h) (hb : σ.next ≤ b) (k : ∀ vP vB, IsR vP vB W B → K (.agg [.int .i64 p, vP, vB]) σ) : Gh σ K (.agg [.int .i64 p, .sl sP 0 n capP, .sl sB 0 n capB]) h := by
  obtain ⟨p1, p2, p3, p4⟩ := a.P
  obtain ⟨q1, q2, q3, q4⟩ := a.Q
  have e1 := a.csl
  have e2 := a.lsl
  have et : (TR.agg [.leaf (.int .i64 p), .lst sP capP (cs.map TR.leaf), .lst sB capB (ls.map LS.tr)]).pv = .agg [.int .i64 p, .sl sP 0 n capP, .sl sB 0 n capB] := by
    simp only [TR.pv, TR.pvs, List.length_map]; rw [e1, e2]
  rw [← et]
  refine Gh.treeF hk ⟨trivial, ⟨⟨by rw [List.length_map, e1]; exact p1, by rw [leafs_pvs]; exact p2, by omega, p4⟩, leafs_okF (a.aP.bI 0)⟩, ⟨⟨by rw [List.length_map, e2]; exact q1, by rw [LS.tr_pvs]; exact q2, by omega, q4⟩, LS.trs_okF fun q hq => ?_⟩, trivial⟩ fun aa => k _ _ ⟨⟨true, .sl (aa sP) 0 cs.length capP, cs, ?_, a.aP⟩, ⟨true, .sl (aa sB) 0 ls.length capB, TR.fzs aa (ls.map LS.tr), ?_, rowsOf_all2 a.aB⟩⟩
  · obtain ⟨g1, g2, g3, g4⟩ := a.lok q hq
    refine ⟨⟨g1, g2, by omega, g4⟩, ?_⟩
    obtain ⟨k, hk9, rfl⟩ := List.mem_iff_getElem.1 hq
    exact (a.aB.2 k _ _ (List.getElem?_eq_getElem hk9) (List.getElem?_eq_getElem (by rw [← a.aB.1]; exact hk9))).bI 0
  · simp only [TR.fz, leafs_fzs, List.length_map]; rw [e1, a.lW]
  · simp only [TR.fz, List.length_map]; rw [e2, a.lB]
theorem SU.fzh {T : PHeap} {p0 t o : Nat} {v0 : PV} {fs : List (PV × List PV)} {xs : List PV} (w : PWF T) (a : SU T h p0 v0 fs ls) (ht : T.next ≤ t) (hp : t ≠ p0) (hv : sb t o xs v0 = v0) (hf : ∀ f ∈ fs, ∀ off l c, f.1 ≠ .sl t off l c) (hl : ∀ q ∈ ls, q.s ≠ t) :
    SU T ((h.kill t).sub t o xs) p0 v0 (fs.map fun f => (f.1, sbs t o xs f.2)) (ls.map (LS.fr t o xs)) := by
  have hsame : ∀ f ∈ fs, sb t o xs f.1 = f.1 := fun f hm => by
    obtain ⟨s, cap, e, _⟩ := a.acc f hm
    rw [e]
    have : s ≠ t := fun e2 => hf f hm 0 f.2.length cap (by rw [e, e2])
    simp only [sb, this, false_and, if_false]
  have hmem : ∀ {f : PV × List PV}, f ∈ fs.map (fun f => (f.1, sbs t o xs f.2)) → ∃ f', f' ∈ fs ∧ f = (f'.1, sbs t o xs f'.2) := fun hm => by
    obtain ⟨f', h1, h2⟩ := List.mem_map.1 hm
    exact ⟨f', h1, h2.symm⟩
  have hfst : (fs.map fun f => (f.1, sbs t o xs f.2)).map Prod.fst = fs.map Prod.fst := by rw [List.map_map]; exact List.map_congr_left fun f _ => rfl
  refine ⟨(a.keep.kill ht).sub w ht, ?_, a.p0b, fun f hm => ?_, fun f hm => ?_, fun i j f g hi hj hne s off l c e => ?_, fun q hq => ?_, fun q hq => ?_⟩
  · rw [hfst, sub_obj (Ne.symm hp) a.obj]
    simp only [sbs, hv]
    congr 2
    rw [sbs_map, List.map_map]
    exact List.map_congr_left fun f hm => hsame f hm
  · obtain ⟨f', h1, rfl⟩ := hmem hm
    obtain ⟨s, cap, e, g1, g2, g3, g4, g5⟩ := a.acc f' h1
    have : s ≠ t := fun e2 => hf f' h1 0 f'.2.length cap (by rw [e, e2])
    exact ⟨s, cap, by show f'.1 = _; rw [e, sbs_length], by show full 1 cap (sbs t o xs f'.2).length; rw [sbs_length]; exact g1, sub_obj this g2, by show (sbs t o xs f'.2).length = (sbs t o xs f'.2).length * 1; rw [Nat.mul_one], g4, g5⟩
  · obtain ⟨f', h1, rfl⟩ := hmem hm
    exact a.ne f' h1
  · rw [List.getElem?_map] at hi hj
    obtain ⟨f', h1, rfl⟩ := Option.map_eq_some_iff.1 hi
    obtain ⟨g', h2, rfl⟩ := Option.map_eq_some_iff.1 hj
    exact a.dis i j f' g' h1 h2 hne s off l c e
  · obtain ⟨q', h1, rfl⟩ := List.mem_map.1 hq
    exact LS.fr_ok (a.lok q' h1) (hl q' h1)
  · obtain ⟨q', h1, rfl⟩ := List.mem_map.1 hq
    refine ⟨(a.lne q' h1).1, fun f hm => ?_⟩
    obtain ⟨f', h2, rfl⟩ := hmem hm
    exact (a.lne q' h1).2 f' h2
theorem SU.move {T h2 : PHeap} {p0 : Nat} {v0 : PV} {fs : List (PV × List PV)} (a : SU T h p0 v0 fs ls) (kT : Keep T h2) (hn : h.next ≤ h2.next) (ho : ∀ t, (t = p0 ∨ (∃ f ∈ fs, ∃ off l c, f.1 = .sl t off l c) ∨ ∃ q ∈ ls, q.s = t) → h2.obj t = h.obj t) : SU T h2 p0 v0 fs ls :=
  ⟨kT, by rw [ho _ (.inl rfl)]; exact a.obj, ⟨a.p0b.1, by have := a.p0b.2; omega⟩, fun f hf => psl_move (a.acc f hf) (fun s off l c e => ho _ (.inr (.inl ⟨f, hf, off, l, c, e⟩))) hn, a.ne, a.dis, fun q hq => (a.lok q hq).move (ho _ (.inr (.inr ⟨q, hq, rfl⟩))) hn, a.lne⟩
theorem SU.rs {T : PHeap} {p0 : Nat} {v0 vP vB : PV} {cC : List PV} (a : SU T h p0 v0 [(vP, cs), (vB, cC)] ls) (hC : cC = ls.map LS.pv) (nd : (ls.map LS.s).Nodup) (hP : All2 RP cs W) (hB : RowsG R ls B) (lW : W.length = n) (lB : B.length = n) :
    ∃ sP capP sB capB, vP = .sl sP 0 n capP ∧ vB = .sl sB 0 n capB ∧ RS RP R T.next h n sP capP cs sB capB ls W B := by
  have hcl : cs.length = n := hP.1.trans lW
  have hll : cC.length = n := by rw [hC, List.length_map]; exact hB.1.trans lB
  obtain ⟨sP, capP, e1, p1, p2, p3, p4, p5⟩ := a.acc (vP, cs) (by simp)
  obtain ⟨sB, capB, e2, q1, q2, q3, q4, q5⟩ := a.acc (vB, cC) (by simp)
  dsimp only at e1 p1 p2 p3 e2 q1 q2 q3
  rw [hcl] at e1 p1
  rw [hll] at e2 q1
  refine ⟨sP, capP, sB, capB, e1, e2, ⟨p1, p2, p4, p5⟩, ⟨q1, by rw [← hC]; exact q2, q4, q5⟩, fun e => ?_, a.lok, fun q hq => ⟨fun e => ?_, fun e => ?_⟩, nd, hP, hB, lW, lB⟩
  · exact a.dis 0 1 (vP, cs) (vB, cC) rfl rfl (by omega) sP 0 n capP e1 0 n capB (by rw [e2, e])
  · exact (a.lne q hq).2 (vP, cs) (by simp) 0 n capP (by rw [e]; exact e1)
  · exact (a.lne q hq).2 (vB, cC) (by simp) 0 n capB (by rw [e]; exact e2)
end Go.Proofs
namespace Go.Proofs
open Go.Ab Go.Lie
variable {σ σ0 h h' : PHeap} {K : PV → PHeap → Prop} {vC : PV} {bs : List Int} {s b n : Nat} {p : Int} {sP sB : Nat} {capP capB : Cap} {cs : List PV} {ls : List LS} {W : List (List Int)} {B : List (List (List Int))}
abbrev zrow (n : Nat) : List Int := List.replicate n 0
def zB (n i : Nat) : List (List (List Int)) := (List.range i).map fun j => List.replicate (n - 1 - j) (zrow n)
def Any (_ : PV) (_ : List Int) : Prop := True
theorem zB_succ (n i : Nat) : zB n (i + 1) = zB n i ++ [List.replicate (n - 1 - i) (zrow n)] := by unfold zB; rw [List.range_succ, List.map_append]; rfl
theorem zB_length (n i : Nat) : (zB n i).length = i := by simp [zB]
theorem all2_any {vs : List PV} {ws : List (List Int)} (e : vs.length = ws.length) : All2 Any vs ws := ⟨e, fun _ _ _ _ _ => trivial⟩
theorem all2_rep {α β : Type} {R : α → β → Prop} {xs : List α} {y : β} {k : Nat} (a : All2 R xs (List.replicate k y)) {x : α} (hx : R x y) : All2 R (xs ++ [x]) (List.replicate (k + 1) y) := by
  rw [List.replicate_succ']
  exact a.snoc hx
structure CycI (T h : PHeap) (m p0 n q : Nat) (p : Int) (v3 vB : PV) (cP cC : List PV) (ls : List LS) (vR : PV) (cells : List PV) : Prop where
  su : SU T h p0 (.int .i64 p) [(v3, cP), (vB, cC)] ls
  row : PSl m 1 h vR q cells
  all : All2 FI cells (List.replicate q (zrow n))
  le : m ≤ h.next
  lo : ∀ t, (t = p0 ∨ (∃ f ∈ [(v3, cP), (vB, cC)], ∃ off l c, f.1 = .sl t off l c) ∨ ∃ q ∈ ls, q.s = t) → t < m
theorem l31Cyclic_ok (hn1 : 1 ≤ n) (hn6 : n ≤ 6)
    (hk : ∀ sP capP cs sB capB ls h, Keep σ h → RS Any FI σ.next h n sP capP cs sB capB ls (List.replicate n []) (zB n n) → K (.agg [.int .i64 p, .sl sP 0 n capP, .sl sB 0 n capB]) h) :
    PCalls Tryz.prog 300 [.int .i64 p, .int .i64 n] σ K := by
  refine PCalls.pwf fun w => ?_
  generalize hT : σ.new [.int .i64 0, .fz true .nils 0 [], .fz true .nils 0 []] = T
  have hTn : T.next = σ.next + 1 := by rw [← hT]; rfl
  have hkT : Keep σ T := by rw [← hT]; exact keep_new σ _
  have wT : PWF T := by rw [← hT]; exact w.newB ⟨trivial, trivial, trivial, trivial⟩
  have hres : ∀ {g : PHeap} {u0 u1 u2 : PV}, Keep T g → u0.one = true → u1.one = true → u2.one = true → g.wr σ.next 0 [u0, u1, u2] = some (g.set σ.next [u0, u1, u2]) ∧ (g.set σ.next [u0, u1, u2]).rd σ.next 0 3 = some [u0, u1, u2] := fun {g u0 u1 u2} k z0 z1 z2 => by
    have hres : g.obj σ.next = some [.int .i64 0, .fz true .nils 0 [], .fz true .nils 0 []] := by rw [k.obj _ (by omega), ← hT]; simp only [pwA, if_true, if_false, eq_self, nm_eq, reduceCtorEq, ↓reduceIte, nQ10, nQ7, nQ11, nQ12, nQ16, nQ17, nQ18, iQ2, iQ3, iQ4, iQ5, iQ6, lQ19, iQ7, lQ20]
    exact ⟨by rw [obj_wr hres, if_pos ⟨by simp, by simp only [List.all_cons, List.all_nil, z0, z1, z2]; rfl⟩]; rfl, by rw [prd_set, if_pos rfl]; rfl⟩
  refine pcalls_of_vp mix Tryz.func300 cf300 rfl ?_
  dsimp only [if300, qI, eI, nI, qD, eD]
  simp only [pwA, if_true, if_false, eq_self, nm_eq, reduceCtorEq, ↓reduceIte, nQ10, nQ7, nQ11, nQ12, nQ16, nQ17, nQ18, iQ2, iQ3, iQ4, iQ5, iQ6, lQ19, iQ7, lQ20]
  rw [hT]
  refine vp_loop (fun m us h => ∃ (i : Nat) (vQ vB : PV) (cP cC : List PV) (ls : List LS), i ≤ n ∧ m = n - i ∧ us = [.int .i64 n, .ptr σ.next 0, .ptr (σ.next + 3) 0, .int .i64 i] ∧ SU T h (σ.next + 3) (.int .i64 p) [(vQ, cP), (vB, cC)] ls ∧ cP.length = i ∧ cC = ls.map LS.pv ∧ (ls.map LS.s).Nodup ∧ RowsG FI ls (zB n i)) n ?_ ?_
  · refine ⟨0, .sl (σ.next + 1) 0 0 (.known 0), .sl (σ.next + 2) 0 0 (.known 0), [], [], [], by omega, by omega, rfl, ⟨((keep_new T _).new _).new _, by simp only [pwA, if_true, if_false, eq_self, nm_eq, reduceCtorEq, ↓reduceIte, nQ10, nQ7, nQ11, nQ12, nQ16, nQ17, nQ18, iQ2, iQ3, iQ4, iQ5, iQ6, lQ19, iQ7, lQ20, hTn], ⟨by omega, by first | (simp only [pwA, if_true, if_false, eq_self, nm_eq, reduceCtorEq, ↓reduceIte, nQ10, nQ7, nQ11, nQ12, nQ16, nQ17, nQ18, iQ2, iQ3, iQ4, iQ5, iQ6, lQ19, iQ7, lQ20, hTn]; done) | (simp only [pwA, if_true, if_false, eq_self, nm_eq, reduceCtorEq, ↓reduceIte, nQ10, nQ7, nQ11, nQ12, nQ16, nQ17, nQ18, iQ2, iQ3, iQ4, iQ5, iQ6, lQ19, iQ7, lQ20, hTn]; omega)⟩, fun f hf => ?_, fun f hf off l c e => ?_, fun i j f g hf hg hne s off l c e off' l' c' e' => ?_, fun q hq => (by cases hq), fun q hq => (by cases hq)⟩, rfl, rfl, List.nodup_nil, All2.nil _⟩
    · simp only [List.mem_cons, List.not_mem_nil, or_false] at hf
      rcases hf with rfl | rfl
      · exact PSl.own (.inr rfl) (by simp only [pwA, if_true, if_false, eq_self, nm_eq, reduceCtorEq, ↓reduceIte, nQ10, nQ7, nQ11, nQ12, nQ16, nQ17, nQ18, iQ2, iQ3, iQ4, iQ5, iQ6, lQ19, iQ7, lQ20, hTn]) rfl (by omega) (by first | (simp only [pwA, if_true, if_false, eq_self, nm_eq, reduceCtorEq, ↓reduceIte, nQ10, nQ7, nQ11, nQ12, nQ16, nQ17, nQ18, iQ2, iQ3, iQ4, iQ5, iQ6, lQ19, iQ7, lQ20, hTn]; done) | (simp only [pwA, if_true, if_false, eq_self, nm_eq, reduceCtorEq, ↓reduceIte, nQ10, nQ7, nQ11, nQ12, nQ16, nQ17, nQ18, iQ2, iQ3, iQ4, iQ5, iQ6, lQ19, iQ7, lQ20, hTn]; omega))
      · exact PSl.own (.inr rfl) (by simp only [pwA, if_true, if_false, eq_self, nm_eq, reduceCtorEq, ↓reduceIte, nQ10, nQ7, nQ11, nQ12, nQ16, nQ17, nQ18, iQ2, iQ3, iQ4, iQ5, iQ6, lQ19, iQ7, lQ20, hTn]) rfl (by omega) (by first | (simp only [pwA, if_true, if_false, eq_self, nm_eq, reduceCtorEq, ↓reduceIte, nQ10, nQ7, nQ11, nQ12, nQ16, nQ17, nQ18, iQ2, iQ3, iQ4, iQ5, iQ6, lQ19, iQ7, lQ20, hTn]; done) | (simp only [pwA, if_true, if_false, eq_self, nm_eq, reduceCtorEq, ↓reduceIte, nQ10, nQ7, nQ11, nQ12, nQ16, nQ17, nQ18, iQ2, iQ3, iQ4, iQ5, iQ6, lQ19, iQ7, lQ20, hTn]; omega))
    · simp only [List.mem_cons, List.not_mem_nil, or_false] at hf
      rcases hf with rfl | rfl <;> (simp only [PV.sl.injEq] at e; omega)
    · match i, j with
      | 0, 0 => exact hne rfl
      | 1, 1 => exact hne rfl
      | 0, 1 | 1, 0 => cases hf; cases hg; simp only [PV.sl.injEq] at e e'; omega
      | i + 2, _ => simp at hf
      | 0, j + 2 | 1, j + 2 => simp at hg
  as_aux_lemma =>
  rintro m us h ⟨i, vQ, vB, cP, cC, ls, hi, rfl, rfl, a, hcP, hcC, hnd, hcR⟩
  have aP := a.acc (vQ, cP) (by simp)
  have aC := a.acc (vB, cC) (by simp)
  have f3 : h.rd (σ.next + 3) 0 3 = some [.int .i64 p, vQ, vB] := by rw [obj_rd a.obj]; rfl
  have f1 : h.rd1 (σ.next + 3) 1 = some vQ := by rw [obj_rd1 a.obj]; rfl
  simp only [pwA, if_true, if_false, eq_self, nm_eq, reduceCtorEq, ↓reduceIte, nQ10, nQ7, nQ11, nQ12, nQ16, nQ17, nQ18, iQ2, iQ3, iQ4, iQ5, iQ6, lQ19, iQ7, lQ20]
  refine iteI (fun hlt => ?_) fun hge => ?_
  rotate_left
  · as_aux_lemma =>
    have hie : i = n := by omega
    subst hie
    obtain ⟨g1, g2⟩ := hres a.keep (u0 := .int .i64 p) rfl aP.one aC.one
    simp only [pwA, if_true, if_false, eq_self, nm_eq, reduceCtorEq, ↓reduceIte, nQ10, nQ7, nQ11, nQ12, nQ16, nQ17, nQ18, iQ2, iQ3, iQ4, iQ5, iQ6, lQ19, iQ7, lQ20, f3, g1, g2]
    obtain ⟨sP, capP, sB, capB, e1, e2, rs⟩ := a.rs (n := i) (RP := Any) (R := FI) (W := List.replicate i []) (B := zB i i) hcC hnd (all2_any (by rw [hcP]; simp)) hcR (by simp) (zB_length i i)
    subst e1 e2
    exact hk sP capP cP sB capB ls _ ((hkT.trans a.keep).set (Nat.le_refl _) _) ((rs.low (by omega)).move (fun t ht => by
      have := (rs.lt ht).1
      rw [pobj_set, if_neg (by omega)]) (Nat.le_refl _))
  have hlt' : i < n := by omega
  have wi1 : IntKind.i64.wrap ((i : Int) + 1) = ((i + 1 : Nat) : Int) := wrapS hlt' (by omega)
  have hn3 : ¬ σ.next + 3 = h.next := by have := a.p0b.2; omega
  have hone1 : ∀ f, f ∈ [(vQ, cP), (vB, cC)] → f.1.one = true := fun f hf => (a.acc f hf).one
  simp only [pwA, if_true, if_false, eq_self, nm_eq, reduceCtorEq, ↓reduceIte, nQ10, nQ7, nQ11, nQ12, nQ16, nQ17, nQ18, iQ2, iQ3, iQ4, iQ5, iQ6, lQ19, iQ7, lQ20, mk8 (n := n) (by omega), mkL (n := n) (by omega), pis_rep, wi1]
  refine iteI (fun h1 => ?_) fun h1 => ?_
  rotate_left
  · generalize hX : (List.replicate n (PV.int .i64 0)) = X
    clear hX
    simp only [pwA, if_true, if_false, eq_self, nm_eq, reduceCtorEq, ↓reduceIte, nQ10, nQ7, nQ11, nQ12, nQ16, nQ17, nQ18, iQ2, iQ3, iQ4, iQ5, iQ6, lQ19, iQ7, lQ20, hn3, f1]
    refine SU.push (a.keepI (keep_new h X)) (j := 0) (bytes := 24) rfl (by omega) (by omega) hone1 fun v3 h3 z4 z5 z6 a3 => ?_
    simp only [List.set_cons_zero, List.set_cons_succ, List.map_cons, List.map_nil] at z6 a3
    generalize h3.set (σ.next + 3) [.int .i64 p, v3, vB] = h4 at *
    simp only [pwA, if_true, if_false, eq_self, nm_eq, reduceCtorEq, ↓reduceIte, nQ10, nQ7, nQ11, nQ12, nQ16, nQ17, nQ18, iQ2, iQ3, iQ4, iQ5, iQ6, lQ19, iQ7, lQ20, z4, z5, z6, wi1]
    clear z4 z5 z6 f1 f3
    have lo4 : ∀ t, (t = σ.next + 3 ∨ (∃ f ∈ [(v3, cP ++ [PV.sl h.next 0 n (.known n)]), (vB, cC)], ∃ off l c, f.1 = .sl t off l c) ∨ ∃ q ∈ ls, q.s = t) → t < h4.next := fun t ht => by
      rcases ht with rfl | ⟨f, hf, off, l, c, e⟩ | ⟨q, hq, rfl⟩
      · exact a3.p0b.2
      · exact psl_lt (a3.acc f hf) e
      · exact (a3.lok q hq).2.2.2
    refine vp_loopG (fun m us h => ∃ (q : Nat) (vR : PV) (cP' cells : List PV), i + (1 + q) ≤ n ∧ m = n - (i + (1 + q)) ∧ us = [.int .i64 n, .ptr σ.next 0, .ptr (σ.next + 3) 0, .int .i64 i, vR, .int .i64 ((i + (1 + q) : Nat) : Int)] ∧ CycI T h h4.next (σ.next + 3) n q p v3 vB cP' cC ls vR cells ∧ cP'.length = i + 1) (n - (i + 1)) (.here ⟨0, .sl h4.next 0 0 (.known 0), _, [], by omega, rfl, rfl, ⟨a3.keepI (keep_new _ _), PSl.new _ 1 rfl (Nat.le_refl _), All2.nil _, Nat.le_succ _, lo4⟩, by rw [List.length_append]; simp; omega⟩) ?_
    rintro m us h7 ⟨q, vR, cP', cells, hq, rfl, rfl, c, hcP'⟩
    simp only [pwA, if_true, if_false, eq_self, nm_eq, reduceCtorEq, ↓reduceIte, nQ10, nQ7, nQ11, nQ12, nQ16, nQ17, nQ18, iQ2, iQ3, iQ4, iQ5, iQ6, lQ19, iQ7, lQ20]
    refine iteI (fun hltq => ?_) fun hgeq => ?_
    rotate_left
    · have hqe : q = n - 1 - i := by omega
      subst hqe
      obtain ⟨su, row, all, le, lo⟩ := c
      obtain ⟨t, cap, rfl, hf, q2, q3, q4, q5⟩ := row
      have f2 : h7.rd1 (σ.next + 3) 2 = some vB := by rw [obj_rd1 su.obj]; rfl
      have hn9 : ¬ σ.next + 3 = h7.next := by have := su.p0b.2; omega
      have hone3 : ∀ f, f ∈ [(v3, cP'), (vB, cC)] → f.1.one = true := fun f hf => (su.acc f hf).one
      have hct : cells.length = n - 1 - i := by omega
      have hfr : ∀ u, (u = σ.next + 3 ∨ (∃ f ∈ [(v3, cP'), (vB, cC)], ∃ off l c, f.1 = .sl u off l c) ∨ ∃ q ∈ ls, q.s = u) → t ≠ u := fun u hu e => by have := lo u hu; omega
      have a10 := SU.more (q := ⟨t, cap, cells⟩) su ⟨by rw [hct]; exact hf, q2, by have := a3.keep.next; show T.next ≤ t; omega, q5⟩ ⟨hfr _ (.inl rfl), fun f hf off l c e => hfr t (.inr (.inl ⟨f, hf, off, l, c, e⟩)) rfl⟩
      simp only [pwA, if_true, if_false, eq_self, nm_eq, reduceCtorEq, ↓reduceIte, nQ10, nQ7, nQ11, nQ12, nQ16, nQ17, nQ18, iQ2, iQ3, iQ4, iQ5, iQ6, lQ19, iQ7, lQ20, f2, hn9]
      refine SU.push a10 (j := 1) (bytes := 24) rfl (by rw [hcC, List.length_map, hcR.1, zB_length]; omega) (by omega) hone3 fun v5 h5 z1 z2 z3 a5 => ?_
      simp only [List.set_cons_zero, List.set_cons_succ, List.map_cons, List.map_nil] at z3 a5
      generalize h5.set (σ.next + 3) [.int .i64 p, v3, v5] = h6 at *
      simp only [pwA, if_true, if_false, eq_self, nm_eq, reduceCtorEq, ↓reduceIte, nQ10, nQ7, nQ11, nQ12, nQ16, nQ17, nQ18, iQ2, iQ3, iQ4, iQ5, iQ6, lQ19, iQ7, lQ20, z1, z2, z3, wi1]
      refine ⟨_, by omega, i + 1, v3, v5, cP', _, ls ++ [⟨t, cap, cells⟩], by omega, rfl, rfl, a5, hcP', ?_, ?_, ?_⟩
      · rw [hcC, List.map_append]; simp only [List.map_cons, List.map_nil, LS.pv]; rw [hct]
      · rw [List.map_append, List.nodup_append]
        refine ⟨hnd, by simp, fun x hx y hy e => ?_⟩
        simp only [List.map_cons, List.map_nil, List.mem_singleton] at hy
        obtain ⟨q', hq', rfl⟩ := List.mem_map.1 hx
        exact hfr q'.s (.inr (.inr ⟨q', hq', rfl⟩)) (by rw [e, hy])
      · rw [zB_succ]
        exact All2.snoc hcR all
    have hq' : i + (1 + q) < n := by omega
    have e5 : IntKind.i64.wrap (((i + (1 + q) : Nat) : Int) + 1) = ((i + (1 + (q + 1)) : Nat) : Int) := by rw [wrap64 (by omega) (by omega)]; omega
    obtain ⟨su, row, all, le, lo⟩ := c
    simp only [pwA, if_true, if_false, eq_self, nm_eq, reduceCtorEq, ↓reduceIte, nQ10, nQ7, nQ11, nQ12, nQ16, nQ17, nQ18, iQ2, iQ3, iQ4, iQ5, iQ6, lQ19, iQ7, lQ20, mk8 (n := n) (by omega), mkL (n := n) (by omega), pis_rep]
    refine PAcc.pushS (σb := T) (bytes := 24) (su.keep.new _) ((row.acc.keep (keep_new _ _)).low (by have := a3.keep.next; omega)) rfl (by omega) (by omega) fun v9 h8 k8 p8 o8 n8 l8 => ?_
    have hnx : (h7.new (pis (List.replicate n 0))).next = h7.next + 1 := rfl
    rw [hnx] at o8 n8 l8
    simp only [pwA, if_true, if_false, eq_self, nm_eq, reduceCtorEq, ↓reduceIte, nQ10, nQ7, nQ11, nQ12, nQ16, nQ17, nQ18, iQ2, iQ3, iQ4, iQ5, iQ6, lQ19, iQ7, lQ20, e5]
    have hrR : ∀ t, t < h4.next → ∀ off l c, vR ≠ .sl t off l c := fun t ht off l c e => by
      obtain ⟨s', cap', e', _, _, _, g4, _⟩ := row
      rw [e'] at e
      cases e
      omega
    have su8 : SU T h8 (σ.next + 3) (.int .i64 p) [(v3, cP'), (vB, cC)] ls := su.move k8 (by omega) fun t ht => by
      have := lo t ht
      rw [o8 t (by omega) (hrR t this), pobj_new, if_neg (by omega)]
    have hnew : h8.obj h7.next = some (pis (zrow n)) := by
      rw [o8 _ (by omega) (fun off l c e => by have := psl_lt row e; omega), pobj_new, if_pos rfl]
    have hT7 : T.next ≤ h7.next := su.keep.next
    refine ⟨n - (i + (1 + (q + 1))), by omega, .fzh h7.next (pis (zrow n)) hnew (pis_bel _ _) fun o1 => .here ⟨q + 1, v9, sbs h7.next o1 (pis (zrow n)) cP', cells ++ [.fz true (.sl o1 0 n (.known n)) n (pis (zrow n))], by omega, rfl, ?_, ?_, by rw [sbs_length]; exact hcP'⟩⟩
    · have : sb h7.next o1 (pis (zrow n)) v9 = v9 := by
        obtain ⟨s', cap', e', _, _, _, g4, _⟩ := p8
        have : s' ≠ h7.next := fun e => n8 h7.next (by omega) 0 (q + 1) cap' (by rw [e', e])
        rw [e']
        simp only [sb, this, false_and, if_false]
      simp only [sbs, sb, this]
    have hbel : ∀ q ∈ ls, Bels 0 q.cs := fun q hq => by
      obtain ⟨k, hk9, rfl⟩ := List.mem_iff_getElem.1 hq
      exact (hcR.2 k _ _ (List.getElem?_eq_getElem hk9) (List.getElem?_eq_getElem (by rw [← hcR.1]; exact hk9))).bI 0
    have hls : ∀ q ∈ ls, q.s ≠ h7.next := fun q hq e => by have := lo _ (.inr (.inr ⟨q, hq, e⟩)); omega
    have su9 := SU.fzh (o := o1) (xs := pis (zrow n)) wT su8 hT7 (by have := lo _ (.inl rfl); omega) rfl (fun f hf off l c e => by have := lo _ (.inr (.inl ⟨f, hf, off, l, c, e⟩)); omega) hls
    rw [LS.fr_same hbel] at su9
    simp only [List.map_cons, List.map_nil] at su9
    rw [hcC, LS.sbs_pv hls, ← hcC] at su9
    refine ⟨su9, ?_, ?_, by show h4.next ≤ h8.next; omega, fun t ht => lo t ?_⟩
    · obtain ⟨s', cap', e', g1, g2, g3, g4, g5⟩ := p8
      have hne : s' ≠ h7.next := fun e => n8 h7.next (by omega) 0 (q + 1) cap' (by rw [e', e])
      refine ⟨s', cap', e', g1, ?_, ?_, ?_, g5⟩
      · rw [sub_obj hne g2, sbs_row (all.bI 0) (by simp [capOK])]
      · rw [List.length_append] at g3 ⊢; exact g3
      · rcases Nat.lt_or_ge s' h4.next with g | g
        · exact absurd e' (n8 s' (by omega) 0 (q + 1) cap')
        · exact g
    · exact all2_rep all ⟨true, _, by rw [List.length_replicate]⟩
    · rcases ht with e | ⟨f, hf, off, l, c, e⟩ | e
      · exact .inl e
      · simp only [List.mem_cons, List.not_mem_nil, or_false] at hf
        rcases hf with rfl | rfl
        · exact .inr (.inl ⟨(v3, cP'), by simp, off, l, c, e⟩)
        · exact .inr (.inl ⟨(vB, cC), by simp, off, l, c, e⟩)
      · exact .inr (.inr e)
  · have h1' : i + 1 < n := by omega
    simp only [pwA, if_true, if_false, eq_self, nm_eq, reduceCtorEq, ↓reduceIte, nQ10, nQ7, nQ11, nQ12, nQ16, nQ17, nQ18, iQ2, iQ3, iQ4, iQ5, iQ6, lQ19, iQ7, lQ20, h1', List.length_replicate, pis_length, Nat.succ_le_of_lt h1']
    generalize hX : (List.take (i + 1) (List.replicate n (PV.int .i64 0)) ++ [PV.int IntKind.i64 1] ++ List.drop (i + 2) (List.replicate n (PV.int .i64 0))) = X
    clear hX
    simp only [pwA, if_true, if_false, eq_self, nm_eq, reduceCtorEq, ↓reduceIte, nQ10, nQ7, nQ11, nQ12, nQ16, nQ17, nQ18, iQ2, iQ3, iQ4, iQ5, iQ6, lQ19, iQ7, lQ20, hn3, f1]
    refine SU.push (a.keepI (keep_new h X)) (j := 0) (bytes := 24) rfl (by omega) (by omega) hone1 fun v3 h3 z4 z5 z6 a3 => ?_
    simp only [List.set_cons_zero, List.set_cons_succ, List.map_cons, List.map_nil] at z6 a3
    generalize h3.set (σ.next + 3) [.int .i64 p, v3, vB] = h4 at *
    simp only [pwA, if_true, if_false, eq_self, nm_eq, reduceCtorEq, ↓reduceIte, nQ10, nQ7, nQ11, nQ12, nQ16, nQ17, nQ18, iQ2, iQ3, iQ4, iQ5, iQ6, lQ19, iQ7, lQ20, z4, z5, z6, wi1]
    clear z4 z5 z6 f1 f3
    have lo4 : ∀ t, (t = σ.next + 3 ∨ (∃ f ∈ [(v3, cP ++ [PV.sl h.next 0 n (.known n)]), (vB, cC)], ∃ off l c, f.1 = .sl t off l c) ∨ ∃ q ∈ ls, q.s = t) → t < h4.next := fun t ht => by
      rcases ht with rfl | ⟨f, hf, off, l, c, e⟩ | ⟨q, hq, rfl⟩
      · exact a3.p0b.2
      · exact psl_lt (a3.acc f hf) e
      · exact (a3.lok q hq).2.2.2
    refine vp_loopG (fun m us h => ∃ (q : Nat) (vR : PV) (cP' cells : List PV), i + (1 + q) ≤ n ∧ m = n - (i + (1 + q)) ∧ us = [.int .i64 n, .ptr σ.next 0, .ptr (σ.next + 3) 0, .int .i64 i, vR, .int .i64 ((i + (1 + q) : Nat) : Int)] ∧ CycI T h h4.next (σ.next + 3) n q p v3 vB cP' cC ls vR cells ∧ cP'.length = i + 1) (n - (i + 1)) (.here ⟨0, .sl h4.next 0 0 (.known 0), _, [], by omega, rfl, rfl, ⟨a3.keepI (keep_new _ _), PSl.new _ 1 rfl (Nat.le_refl _), All2.nil _, Nat.le_succ _, lo4⟩, by rw [List.length_append]; simp; omega⟩) ?_
    rintro m us h7 ⟨q, vR, cP', cells, hq, rfl, rfl, c, hcP'⟩
    simp only [pwA, if_true, if_false, eq_self, nm_eq, reduceCtorEq, ↓reduceIte, nQ10, nQ7, nQ11, nQ12, nQ16, nQ17, nQ18, iQ2, iQ3, iQ4, iQ5, iQ6, lQ19, iQ7, lQ20]
    refine iteI (fun hltq => ?_) fun hgeq => ?_
    rotate_left
    · have hqe : q = n - 1 - i := by omega
      subst hqe
      obtain ⟨su, row, all, le, lo⟩ := c
      obtain ⟨t, cap, rfl, hf, q2, q3, q4, q5⟩ := row
      have f2 : h7.rd1 (σ.next + 3) 2 = some vB := by rw [obj_rd1 su.obj]; rfl
      have hn9 : ¬ σ.next + 3 = h7.next := by have := su.p0b.2; omega
      have hone3 : ∀ f, f ∈ [(v3, cP'), (vB, cC)] → f.1.one = true := fun f hf => (su.acc f hf).one
      have hct : cells.length = n - 1 - i := by omega
      have hfr : ∀ u, (u = σ.next + 3 ∨ (∃ f ∈ [(v3, cP'), (vB, cC)], ∃ off l c, f.1 = .sl u off l c) ∨ ∃ q ∈ ls, q.s = u) → t ≠ u := fun u hu e => by have := lo u hu; omega
      have a10 := SU.more (q := ⟨t, cap, cells⟩) su ⟨by rw [hct]; exact hf, q2, by have := a3.keep.next; show T.next ≤ t; omega, q5⟩ ⟨hfr _ (.inl rfl), fun f hf off l c e => hfr t (.inr (.inl ⟨f, hf, off, l, c, e⟩)) rfl⟩
      simp only [pwA, if_true, if_false, eq_self, nm_eq, reduceCtorEq, ↓reduceIte, nQ10, nQ7, nQ11, nQ12, nQ16, nQ17, nQ18, iQ2, iQ3, iQ4, iQ5, iQ6, lQ19, iQ7, lQ20, f2, hn9]
      refine SU.push a10 (j := 1) (bytes := 24) rfl (by rw [hcC, List.length_map, hcR.1, zB_length]; omega) (by omega) hone3 fun v5 h5 z1 z2 z3 a5 => ?_
      simp only [List.set_cons_zero, List.set_cons_succ, List.map_cons, List.map_nil] at z3 a5
      generalize h5.set (σ.next + 3) [.int .i64 p, v3, v5] = h6 at *
      simp only [pwA, if_true, if_false, eq_self, nm_eq, reduceCtorEq, ↓reduceIte, nQ10, nQ7, nQ11, nQ12, nQ16, nQ17, nQ18, iQ2, iQ3, iQ4, iQ5, iQ6, lQ19, iQ7, lQ20, z1, z2, z3, wi1]
      refine ⟨_, by omega, i + 1, v3, v5, cP', _, ls ++ [⟨t, cap, cells⟩], by omega, rfl, rfl, a5, hcP', ?_, ?_, ?_⟩
      · rw [hcC, List.map_append]; simp only [List.map_cons, List.map_nil, LS.pv]; rw [hct]
      · rw [List.map_append, List.nodup_append]
        refine ⟨hnd, by simp, fun x hx y hy e => ?_⟩
        simp only [List.map_cons, List.map_nil, List.mem_singleton] at hy
        obtain ⟨q', hq', rfl⟩ := List.mem_map.1 hx
        exact hfr q'.s (.inr (.inr ⟨q', hq', rfl⟩)) (by rw [e, hy])
      · rw [zB_succ]
        exact All2.snoc hcR all
    have hq' : i + (1 + q) < n := by omega
    have e5 : IntKind.i64.wrap (((i + (1 + q) : Nat) : Int) + 1) = ((i + (1 + (q + 1)) : Nat) : Int) := by rw [wrap64 (by omega) (by omega)]; omega
    obtain ⟨su, row, all, le, lo⟩ := c
    simp only [pwA, if_true, if_false, eq_self, nm_eq, reduceCtorEq, ↓reduceIte, nQ10, nQ7, nQ11, nQ12, nQ16, nQ17, nQ18, iQ2, iQ3, iQ4, iQ5, iQ6, lQ19, iQ7, lQ20, mk8 (n := n) (by omega), mkL (n := n) (by omega), pis_rep]
    refine PAcc.pushS (σb := T) (bytes := 24) (su.keep.new _) ((row.acc.keep (keep_new _ _)).low (by have := a3.keep.next; omega)) rfl (by omega) (by omega) fun v9 h8 k8 p8 o8 n8 l8 => ?_
    have hnx : (h7.new (pis (List.replicate n 0))).next = h7.next + 1 := rfl
    rw [hnx] at o8 n8 l8
    simp only [pwA, if_true, if_false, eq_self, nm_eq, reduceCtorEq, ↓reduceIte, nQ10, nQ7, nQ11, nQ12, nQ16, nQ17, nQ18, iQ2, iQ3, iQ4, iQ5, iQ6, lQ19, iQ7, lQ20, e5]
    have hrR : ∀ t, t < h4.next → ∀ off l c, vR ≠ .sl t off l c := fun t ht off l c e => by
      obtain ⟨s', cap', e', _, _, _, g4, _⟩ := row
      rw [e'] at e
      cases e
      omega
    have su8 : SU T h8 (σ.next + 3) (.int .i64 p) [(v3, cP'), (vB, cC)] ls := su.move k8 (by omega) fun t ht => by
      have := lo t ht
      rw [o8 t (by omega) (hrR t this), pobj_new, if_neg (by omega)]
    have hnew : h8.obj h7.next = some (pis (zrow n)) := by
      rw [o8 _ (by omega) (fun off l c e => by have := psl_lt row e; omega), pobj_new, if_pos rfl]
    have hT7 : T.next ≤ h7.next := su.keep.next
    refine ⟨n - (i + (1 + (q + 1))), by omega, .fzh h7.next (pis (zrow n)) hnew (pis_bel _ _) fun o1 => .here ⟨q + 1, v9, sbs h7.next o1 (pis (zrow n)) cP', cells ++ [.fz true (.sl o1 0 n (.known n)) n (pis (zrow n))], by omega, rfl, ?_, ?_, by rw [sbs_length]; exact hcP'⟩⟩
    · have : sb h7.next o1 (pis (zrow n)) v9 = v9 := by
        obtain ⟨s', cap', e', _, _, _, g4, _⟩ := p8
        have : s' ≠ h7.next := fun e => n8 h7.next (by omega) 0 (q + 1) cap' (by rw [e', e])
        rw [e']
        simp only [sb, this, false_and, if_false]
      simp only [sbs, sb, this]
    have hbel : ∀ q ∈ ls, Bels 0 q.cs := fun q hq => by
      obtain ⟨k, hk9, rfl⟩ := List.mem_iff_getElem.1 hq
      exact (hcR.2 k _ _ (List.getElem?_eq_getElem hk9) (List.getElem?_eq_getElem (by rw [← hcR.1]; exact hk9))).bI 0
    have hls : ∀ q ∈ ls, q.s ≠ h7.next := fun q hq e => by have := lo _ (.inr (.inr ⟨q, hq, e⟩)); omega
    have su9 := SU.fzh (o := o1) (xs := pis (zrow n)) wT su8 hT7 (by have := lo _ (.inl rfl); omega) rfl (fun f hf off l c e => by have := lo _ (.inr (.inl ⟨f, hf, off, l, c, e⟩)); omega) hls
    rw [LS.fr_same hbel] at su9
    simp only [List.map_cons, List.map_nil] at su9
    rw [hcC, LS.sbs_pv hls, ← hcC] at su9
    refine ⟨su9, ?_, ?_, by show h4.next ≤ h8.next; omega, fun t ht => lo t ?_⟩
    · obtain ⟨s', cap', e', g1, g2, g3, g4, g5⟩ := p8
      have hne : s' ≠ h7.next := fun e => n8 h7.next (by omega) 0 (q + 1) cap' (by rw [e', e])
      refine ⟨s', cap', e', g1, ?_, ?_, ?_, g5⟩
      · rw [sub_obj hne g2, sbs_row (all.bI 0) (by simp [capOK])]
      · rw [List.length_append] at g3 ⊢; exact g3
      · rcases Nat.lt_or_ge s' h4.next with g | g
        · exact absurd e' (n8 s' (by omega) 0 (q + 1) cap')
        · exact g
    · exact all2_rep all ⟨true, _, by rw [List.length_replicate]⟩
    · rcases ht with e | ⟨f, hf, off, l, c, e⟩ | e
      · exact .inl e
      · simp only [List.mem_cons, List.not_mem_nil, or_false] at hf
        rcases hf with rfl | rfl
        · exact .inr (.inl ⟨(v3, cP'), by simp, off, l, c, e⟩)
        · exact .inr (.inl ⟨(vB, cC), by simp, off, l, c, e⟩)
      · exact .inr (.inr e)
def FI0 (v : PV) (w : List Int) : Prop := w = [] ∨ FI v w
def FI1 (t n : Nat) (v : PV) (w : List Int) : Prop := w = [] ∨ FI v w ∨ (v = .sl t 0 n (.known n) ∧ w = zrow n)
def zW (n i : Nat) : List (List Int) := List.replicate i (zrow n) ++ List.replicate (n - i) []
theorem zW_set {i : Nat} (hi : i < n) : (zW n i).set i (zrow n) = zW n (i + 1) := by
  unfold zW
  rw [List.set_append_right _ _ (by simp), List.length_replicate, Nat.sub_self, show n - i = (n - (i + 1)) + 1 by omega, List.replicate_succ, List.set_cons_zero, List.replicate_succ', List.append_assoc]
  rfl
theorem new_set {t : Nat} (X Y : List PV) (ht : t ≠ h.next) : (h.new X).set t Y = (h.set t Y).new X := by
  have e : ∀ u, ((h.new X).set t Y).obj u = ((h.set t Y).new X).obj u := fun u => by
    rw [pobj_set, pobj_new, pobj_new, pobj_set]
    show (if u = t then some Y else if u = h.next then some X else h.obj u) = (if u = h.next then some X else if u = t then some Y else h.obj u)
    by_cases e1 : u = t
    · by_cases e2 : u = h.next
      · exact absurd (e1.symm.trans e2) ht
      · simp [e1, ht]
    · simp [e1]
  show (⟨h.next + 1, h.top, ((h.new X).set t Y).obj⟩ : PHeap) = ⟨h.next + 1, h.top, ((h.set t Y).new X).obj⟩
  rw [funext e]
structure FlatI (T h : PHeap) (p0 n i : Nat) (p : Int) (sP : Nat) (capP : Cap) (cs : List PV) (sB : Nat) (capB : Cap) (ls : List LS) : Prop where
  keep : Keep T h
  obj : h.obj p0 = some [.int .i64 p, .sl sP 0 n capP, .sl sB 0 n capB]
  lt : p0 < h.next
  ge : T.next ≤ p0
  ne : ∀ t, (t = sP ∨ t = sB ∨ ∃ q ∈ ls, q.s = t) → p0 ≠ t
  rs : RS FI0 FI T.next h n sP capP cs sB capB ls (zW n i) (zB n n)
theorem l31Flat_ok (hn1 : 1 ≤ n) (hn6 : n ≤ 6)
    (hk : ∀ sP capP cs sB capB ls h, Keep σ h → RS FI FI σ.next h n sP capP cs sB capB ls (List.replicate n (zrow n)) (zB n n) → K (.agg [.int .i64 p, .sl sP 0 n capP, .sl sB 0 n capB]) h) :
    PCalls Tryz.prog 277 [.int .i64 p, .int .i64 n] σ K := by
  refine PCalls.pwf fun w => ?_
  generalize hT : σ.new [.int .i64 0, .fz true .nils 0 [], .fz true .nils 0 []] = T
  have hTn : T.next = σ.next + 1 := by rw [← hT]; rfl
  have hkT : Keep σ T := by rw [← hT]; exact keep_new σ _
  have wT : PWF T := by rw [← hT]; exact w.newB ⟨trivial, trivial, trivial, trivial⟩
  have hres : ∀ {g : PHeap} {u0 u1 u2 : PV}, Keep T g → u0.one = true → u1.one = true → u2.one = true → g.wr σ.next 0 [u0, u1, u2] = some (g.set σ.next [u0, u1, u2]) ∧ (g.set σ.next [u0, u1, u2]).rd σ.next 0 3 = some [u0, u1, u2] := fun {g u0 u1 u2} k z0 z1 z2 => by
    have hres : g.obj σ.next = some [.int .i64 0, .fz true .nils 0 [], .fz true .nils 0 []] := by rw [k.obj _ (by omega), ← hT]; simp only [pwA, if_true, if_false, eq_self, nm_eq, reduceCtorEq, ↓reduceIte, nQ10, nQ7, nQ11, nQ12, nQ16, nQ17, nQ18, iQ2, iQ3, iQ4, iQ5, iQ6, lQ19, iQ7, lQ20]
    exact ⟨by rw [obj_wr hres, if_pos ⟨by simp, by simp only [List.all_cons, List.all_nil, z0, z1, z2]; rfl⟩]; rfl, by rw [prd_set, if_pos rfl]; rfl⟩
  refine pcalls_of_vp mix Tryz.func277 cf277 rfl ?_
  dsimp only [if277, qI, eI, nI, qD, eD]
  simp only [pwA, if_true, if_false, eq_self, nm_eq, reduceCtorEq, ↓reduceIte, nQ10, nQ7, nQ11, nQ12, nQ16, nQ17, nQ18, iQ2, iQ3, iQ4, iQ5, iQ6, lQ19, iQ7, lQ20]
  rw [hT]
  refine l31Cyclic_ok hn1 hn6 fun sP capP cs sB capB ls h1 k1 rs1 => ?_
  have hn1' := k1.next
  simp only [pwA, if_true, if_false, eq_self, nm_eq, reduceCtorEq, ↓reduceIte, nQ10, nQ7, nQ11, nQ12, nQ16, nQ17, nQ18, iQ2, iQ3, iQ4, iQ5, iQ6, lQ19, iQ7, lQ20]
  refine vp_loopG (fun m us h => ∃ (i : Nat) (cs : List PV) (ls : List LS), i ≤ n ∧ m = n - i ∧ us = [.int .i64 n, .ptr σ.next 0, .ptr h1.next 0, .int .i64 i] ∧ FlatI T h h1.next n i p sP capP cs sB capB ls) n (.here ⟨0, cs, ls, by omega, by omega, rfl, ⟨k1.new _, by simp only [pwA, if_true, if_false, eq_self, nm_eq, reduceCtorEq, ↓reduceIte, nQ10, nQ7, nQ11, nQ12, nQ16, nQ17, nQ18, iQ2, iQ3, iQ4, iQ5, iQ6, lQ19, iQ7, lQ20], by show _ < h1.next + 1; omega, hn1', fun t ht e => by have := (rs1.lt ht).2; omega, ?_⟩⟩) ?_
  · rw [show zW n 0 = List.replicate n [] by simp [zW]]
    exact (rs1.imp (RP' := FI0) ⟨by rw [rs1.csl]; simp, fun j x y hx hy => .inl (List.eq_of_mem_replicate (List.mem_of_getElem? hy))⟩ rs1.aB).new _
  rintro m us h2 ⟨i, cs, ls, hi, rfl, rfl, ⟨keep, obj, lt, ge, ne, rs⟩⟩
  have f3 : h2.rd h1.next 0 3 = some [.int .i64 p, .sl sP 0 n capP, .sl sB 0 n capB] := by rw [obj_rd obj]; rfl
  have f1 : h2.rd1 h1.next 1 = some (.sl sP 0 n capP) := by rw [obj_rd1 obj]; rfl
  simp only [pwA, if_true, if_false, eq_self, nm_eq, reduceCtorEq, ↓reduceIte, nQ10, nQ7, nQ11, nQ12, nQ16, nQ17, nQ18, iQ2, iQ3, iQ4, iQ5, iQ6, lQ19, iQ7, lQ20]
  refine iteI (fun hlt => ?_) fun hge => ?_
  rotate_left
  · have hie : i = n := by omega
    subst hie
    obtain ⟨g1, g2⟩ := hres (u0 := .int .i64 p) (u1 := .sl sP 0 i capP) (u2 := .sl sB 0 i capB) keep rfl rfl rfl
    simp only [pwA, if_true, if_false, eq_self, nm_eq, reduceCtorEq, ↓reduceIte, nQ10, nQ7, nQ11, nQ12, nQ16, nQ17, nQ18, iQ2, iQ3, iQ4, iQ5, iQ6, lQ19, iQ7, lQ20, f3, g1, g2]
    have e0 : zW i i = List.replicate i (zrow i) := by simp [zW]
    rw [e0] at rs
    have rs' : RS FI FI T.next h2 i sP capP cs sB capB ls (List.replicate i (zrow i)) (zB i i) := rs.imp ⟨rs.aP.1, fun j x y hx hy => (rs.aP.2 j x y hx hy).resolve_left fun e => by
      have := List.eq_of_mem_replicate (List.mem_of_getElem? hy)
      rw [this] at e
      have := congrArg List.length e
      simp at this
      omega⟩ rs.aB
    exact hk sP capP cs sB capB ls _ ((hkT.trans keep).set (Nat.le_refl _) _) ((rs'.low (by omega)).move (fun t ht => by
      have := (rs'.lt ht).1
      rw [pobj_set, if_neg (by omega)]) (Nat.le_refl _))
  have hlt' : i < n := by omega
  have hT2 := keep.next
  have hn3 : ¬ h1.next = h2.next := by omega
  have wi1 : IntKind.i64.wrap ((i : Int) + 1) = ((i + 1 : Nat) : Int) := wrapS hlt' (by omega)
  have hneP : ¬ sP = h2.next := fun e => by have := (rs.lt (.inl e.symm)).2; omega
  have hslt : ∀ t, (t = sP ∨ t = sB ∨ ∃ q ∈ ls, q.s = t) → t < h2.next := fun t ht => (rs.lt ht).2
  have rs2 := (rs.imp (RP' := FI1 h2.next n) ⟨rs.aP.1, fun j x y hx hy => (rs.aP.2 j x y hx hy).imp id .inl⟩ rs.aB).new (pis (zrow n))
  obtain ⟨w1, rs3⟩ := rs2.putP (i := i) (v := .sl h2.next 0 n (.known n)) (w := zrow n) hlt' (.inr (.inr ⟨rfl, rfl⟩)) rfl
  rw [zW_set hlt'] at rs3
  simp only [pwA, if_true, if_false, eq_self, nm_eq, reduceCtorEq, ↓reduceIte, nQ10, nQ7, nQ11, nQ12, nQ16, nQ17, nQ18, iQ2, iQ3, iQ4, iQ5, iQ6, lQ19, iQ7, lQ20, f1, mk8 (n := n) (by omega), mkL (n := n) (by omega), pis_rep, hlt', w1, wi1, hn3, hneP]
  rw [new_set _ _ hneP] at rs3
  refine ⟨n - (i + 1), by omega, .fzh h2.next (pis (zrow n)) (by rw [pobj_new]; exact if_pos rfl) (pis_bel _ _) fun o1 => .here ⟨i + 1, sbs h2.next o1 (pis (zrow n)) (cs.set i (.sl h2.next 0 n (.known n))), ls.map (LS.fr h2.next o1 (pis (zrow n))), by omega, rfl, by simp only [sbs, sb], ?_⟩⟩
  have hsne : ∀ t, (t = sP ∨ t = sB ∨ ∃ q ∈ ls, q.s = t) → t ≠ h2.next := fun t ht e => by have := hslt t ht; omega
  have rs4 := rs3.fzh (RP' := FI0) (R' := FI) (t := h2.next) (o := o1) (xs := pis (zrow n)) ⟨Ne.symm (hsne _ (.inl rfl)), Ne.symm (hsne _ (.inr (.inl rfl))), fun q hq => hsne _ (.inr (.inr ⟨q, hq, rfl⟩))⟩ (fun v w hv => ?_) (fun v w hv => by rw [hv.sb]; exact hv)
  · refine ⟨((keep.set (by have := rs.P.2.2.1; omega) _).new _ |>.kill (by omega)).sub wT (by omega), ?_, ?_, ge, fun t ht => ne t ?_, rs4⟩
    · rw [sub_obj hn3 (by rw [pobj_new, if_neg (by exact hn3), pobj_set, if_neg (ne _ (.inl rfl))]; exact obj)]
      simp only [sbs, sb, hneP, Ne.symm (hsne _ (.inr (.inl rfl))), hsne _ (.inr (.inl rfl)), false_and, if_false]
    · show h1.next < h2.next + 1; omega
    · rcases ht with e | e | ⟨q, hq, e⟩
      · exact .inl e
      · exact .inr (.inl e)
      · obtain ⟨q', hq', rfl⟩ := List.mem_map.1 hq
        exact .inr (.inr ⟨q', hq', e⟩)
  · rcases hv with e | e | ⟨e, e2⟩
    · exact .inl e
    · exact .inr (by rw [e.sb]; exact e)
    · refine .inr ?_
      rw [e, e2]
      simp only [sb, capOK, and_self, if_true, Nat.le_refl, decide_true]
      exact ⟨true, _, by rw [List.length_replicate]⟩
end Go.Proofs
namespace Go.Proofs
open Go.Ab Go.Lie
variable {σ σ0 h h' : PHeap} {K : PV → PHeap → Prop} {vC : PV} {bs : List Int} {s b n r0 : Nat} {p : Int} {sP sB : Nat} {capP capB : Cap} {cs : List PV} {ls : List LS} {W : List (List Int)} {B : List (List (List Int))} {R : PV → List Int → Prop} {F F' : List (List Int) → List (List (List Int)) → Prop}
structure OkF (p : Int) (n : Nat) (W : List (List Int)) (B : List (List (List Int))) : Prop where
  w : OkW p n W
  b : OkB p n B
theorem OkF.zero (hp : okp p) (hn : n ≤ 6) : OkF p n (List.replicate n (zrow n)) (zB n n) := by
  have hz : El p n (zrow n) := ⟨by simp, fun y hy => by rw [List.eq_of_mem_replicate hy]; have := hp.1; omega⟩
  refine ⟨⟨hp, hn, by simp, fun i hi => ?_⟩, ⟨zB_length n n, fun i hi => by simp [zB], fun i hi k hk => ?_⟩⟩
  · rw [List.getElem_replicate]
    exact ⟨hz.1, hz.2, fun j _ => at_rep _ _⟩
  · simp only [zB, List.getElem_map, List.getElem_range, List.getElem_replicate]
    exact ⟨hz, fun j _ => at_rep _ _⟩
theorem OkF.setP (a : OkF p n W B) {i : Nat} {w : List Int} (hw : El p n w) (hz : ∀ j, j ≤ i → at_ w j = 0) : OkF p n (W.set i w) B := by
  refine ⟨⟨a.w.pr, a.w.le, by rw [List.length_set]; exact a.w.len, fun j hj => ?_⟩, a.b⟩
  rw [List.getElem_set]
  split
  · rename_i e; subst e; exact ⟨hw.1, hw.2, hz⟩
  · exact a.w.row j (by rw [List.length_set] at hj; exact hj)
theorem OkF.setB (a : OkF p n W B) {i k : Nat} {w : List Int} (hi : i < n) (hw : El p n w) (hz : ∀ j, j ≤ i + k + 1 → at_ w j = 0) : OkF p n W (B.set i ((B.getD i []).set k w)) := by
  have hiB : i < B.length := by rw [a.b.len]; exact hi
  refine ⟨a.w, ⟨by rw [List.length_set]; exact a.b.len, fun j hj => ?_, fun j hj m hm => ?_⟩⟩
  · rw [List.getElem_set]
    split
    · rename_i e; subst e
      rw [List.length_set, getD_row' hiB]
      exact a.b.row i hiB
    · exact a.b.row j (by rw [List.length_set] at hj; exact hj)
  · rw [List.length_set] at hj
    by_cases e : i = j
    · subst e
      have e2 : (B.set i ((B.getD i []).set k w))[i]'(by rw [List.length_set]; exact hj) = (B.getD i []).set k w := by simp
      simp only [e2] at hm ⊢
      rw [List.getElem_set]
      rw [List.length_set, getD_row' hiB] at hm
      split
      · rename_i e3; subst e3; exact ⟨hw, hz⟩
      · have := a.b.ent i hj m hm
        simp only [getD_row' hiB]
        exact this
    · have e2 : (B.set i ((B.getD i []).set k w))[j]'(by rw [List.length_set]; exact hj) = B[j] := by simp [e]
      simp only [e2] at hm ⊢
      exact a.b.ent j hj m hm
structure SmF (W : List (List Int)) (B : List (List (List Int))) : Prop where
  w : ∀ r ∈ W, r.length ≤ 6
  bl : ∀ q ∈ B, q.length ≤ 6
  b : ∀ q ∈ B, ∀ r ∈ q, r.length ≤ 6
theorem OkF.sm (a : OkF p n W B) : SmF W B := by
  have hn := a.w.le
  refine ⟨fun r hr => ?_, fun q hq => ?_, fun q hq r hr => ?_⟩
  · obtain ⟨i, hi, rfl⟩ := List.mem_iff_getElem.1 hr
    rw [(a.w.row i hi).1]; exact hn
  · obtain ⟨i, hi, rfl⟩ := List.mem_iff_getElem.1 hq
    rw [a.b.row i hi]; omega
  · obtain ⟨i, hi, rfl⟩ := List.mem_iff_getElem.1 hq
    obtain ⟨k, hk, rfl⟩ := List.mem_iff_getElem.1 hr
    rw [(a.b.ent i hi k hk).1.1]; exact hn
theorem SmF.setP (a : SmF W B) {i : Nat} {w : List Int} (hw : w.length ≤ 6) : SmF (W.set i w) B := ⟨fun r hr => by
  rcases List.mem_or_eq_of_mem_set hr with e | e
  · exact a.w r e
  · rw [e]; exact hw, a.bl, a.b⟩
theorem SmF.setB (a : SmF W B) {i k : Nat} {w : List Int} (hi : i < B.length) (hw : w.length ≤ 6) : SmF W (B.set i ((B.getD i []).set k w)) := by
  have hm : B.getD i [] ∈ B := by rw [getD_row' hi]; exact List.getElem_mem hi
  refine ⟨a.w, fun q hq => ?_, fun q hq r hr => ?_⟩
  · rcases List.mem_or_eq_of_mem_set hq with e | e
    · exact a.bl q e
    · rw [e, List.length_set]; exact a.bl _ hm
  · rcases List.mem_or_eq_of_mem_set hq with e | e
    · exact a.b q e r hr
    · rw [e] at hr
      rcases List.mem_or_eq_of_mem_set hr with e2 | e2
      · exact a.b _ hm r e2
      · rw [e2]; exact hw
structure GS (E : Nat → List Int → Prop) (R : PV → List Int → Prop) (F : List (List Int) → List (List (List Int)) → Prop) (σ h : PHeap) (s : Nat) (vC : PV) (bs : List Int) (r0 : Nat) (p : Int) (n sP : Nat) (capP : Cap) (sB : Nat) (capB : Cap) : Prop where
  km : KM σ s h
  so : So h s vC bs
  sl : s < σ.next
  obj : h.obj r0 = some [.int .i64 p, .sl sP 0 n capP, .sl sB 0 n capB]
  r0b : σ.next ≤ r0 ∧ r0 < h.next
  rs : ∃ cs ls W B, RS FI R σ.next h n sP capP cs sB capB ls W B ∧ F W B ∧ (∀ t, (t = sP ∨ t = sB ∨ ∃ q ∈ ls, q.s = t) → r0 ≠ t) ∧ ∀ u x, E u x → ∀ t, (t = sP ∨ t = sB ∨ ∃ q ∈ ls, q.s = t) → u ≠ t
  ex : ∀ u x, E u x → h.obj u = some (pis x) ∧ σ.next ≤ u ∧ u < h.next ∧ u ≠ r0
def E0 (_ : Nat) (_ : List Int) : Prop := False
variable {E : Nat → List Int → Prop}
theorem GS.rd (a : GS E R F σ h s vC bs r0 p n sP capP sB capB) : h.rd r0 0 3 = some [.int .i64 p, .sl sP 0 n capP, .sl sB 0 n capB] ∧ h.rd1 r0 0 = some (.int .i64 p) ∧ h.rd1 r0 1 = some (.sl sP 0 n capP) ∧ h.rd1 r0 2 = some (.sl sB 0 n capB) := by
  refine ⟨by rw [obj_rd a.obj]; rfl, ?_, ?_, ?_⟩ <;> (rw [obj_rd1 a.obj]; rfl)
theorem GS.mv (a : GS E R F σ h s vC bs r0 p n sP capP sB capB) (m : Mv h s h') (so : So h' s vC bs) : GS E R F σ h' s vC bs r0 p n sP capP sB capB := by
  have hs := a.sl
  obtain ⟨cs, ls, W, B, rs, f, ne⟩ := a.rs
  exact ⟨a.km.mv hs m, so, hs, by rw [m.obj (by have := a.r0b.1; omega)]; exact a.obj, ⟨a.r0b.1, by rw [m.next]; exact a.r0b.2⟩, ⟨cs, ls, W, B, rs.mv hs m, f, ne⟩, fun u x e => by
    obtain ⟨g1, g2, g3, g4⟩ := a.ex u x e
    exact ⟨by rw [m.obj (by omega)]; exact g1, g2, by rw [m.next]; exact g3, g4⟩⟩
theorem GS.keep (a : GS E R F σ h s vC bs r0 p n sP capP sB capB) (k : Keep h h') : GS E R F σ h' s vC bs r0 p n sP capP sB capB := by
  obtain ⟨cs, ls, W, B, rs, f, ne⟩ := a.rs
  exact ⟨a.km.keep k, a.so.keep k, a.sl, by rw [k.obj _ a.r0b.2]; exact a.obj, ⟨a.r0b.1, Nat.lt_of_lt_of_le a.r0b.2 k.next⟩, ⟨cs, ls, W, B, rs.keep k, f, ne⟩, fun u x e => by
    obtain ⟨g1, g2, g3, g4⟩ := a.ex u x e
    exact ⟨by rw [k.obj _ g3]; exact g1, g2, Nat.lt_of_lt_of_le g3 k.next, g4⟩⟩
theorem GS.new (a : GS E R F σ h s vC bs r0 p n sP capP sB capB) (xs : List PV) : GS E R F σ (h.new xs) s vC bs r0 p n sP capP sB capB := a.keep (keep_new h xs)
theorem GS.newE {t : Nat} {x : List Int} (a : GS E0 R F σ h s vC bs r0 p n sP capP sB capB) (ht : t = h.next) : GS (fun u y => u = t ∧ y = x) R F σ (h.new (pis x)) s vC bs r0 p n sP capP sB capB := by
  subst ht
  have b := a.new (pis x)
  obtain ⟨cs, ls, W, B, rs, f, ne, _⟩ := b.rs
  obtain ⟨cs', ls', W', B', rs', f', ne', _⟩ := a.rs
  refine ⟨b.km, b.so, b.sl, b.obj, b.r0b, ⟨cs', ls', W', B', rs'.new _, f', ne', fun u y e t ht e2 => ?_⟩, fun u y e => ?_⟩
  · have := (rs'.lt ht).2
    omega
  · obtain ⟨rfl, rfl⟩ := e
    exact ⟨by rw [pobj_new, if_pos rfl], by have := a.km.next; omega, Nat.lt_succ_self _, by have := a.r0b.2; omega⟩
theorem GS.setE {t i : Nat} {x : List Int} {y : Int} (a : GS (fun u y => u = t ∧ y = x) R F σ h s vC bs r0 p n sP capP sB capB) (hi : i < x.length) :
    ∃ h', h.wr t i [.int .i64 y] = some h' ∧ GS (fun u z => u = t ∧ z = x.set i y) R F σ h' s vC bs r0 p n sP capP sB capB := by
  obtain ⟨g1, g2, g3, g4⟩ := a.ex t x ⟨rfl, rfl⟩
  obtain ⟨cs, ls, W, B, rs, f, ne, nx⟩ := a.rs
  have hw := wr_one (v := .int .i64 y) g1 (by rw [pis_length]; exact hi) rfl
  rw [pis_set] at hw
  refine ⟨_, hw, a.km.set g2 _, a.so.set (by have := a.sl; omega) _, a.sl, by rw [pobj_set, if_neg (Ne.symm g4)]; exact a.obj, a.r0b, ⟨cs, ls, W, B, rs.move (fun u hu => by rw [pobj_set, if_neg (Ne.symm (nx t x ⟨rfl, rfl⟩ u hu))]) (Nat.le_refl _), f, ne, fun u z e u' hu' => ?_⟩, fun u z e => ?_⟩
  · obtain ⟨rfl, rfl⟩ := e
    exact nx _ x ⟨rfl, rfl⟩ u' hu'
  · obtain ⟨rfl, rfl⟩ := e
    exact ⟨by rw [pobj_set, if_pos rfl], g2, g3, g4⟩
theorem GS.putP (a : GS E R F σ h s vC bs r0 p n sP capP sB capB) {i : Nat} {v : PV} {w : List Int} (hi : i < n) (hv : FI v w) (hF : ∀ W B, F W B → F' (W.set i w) B) :
    ∃ h', h.wr sP i [v] = some h' ∧ GS E R F' σ h' s vC bs r0 p n sP capP sB capB := by
  obtain ⟨cs, ls, W, B, rs, f, ne, nx⟩ := a.rs
  obtain ⟨w1, rs'⟩ := rs.putP hi hv hv.one
  have h1 := rs.P.2.2.1
  have h2 := ne _ (.inl rfl)
  refine ⟨_, w1, a.km.set h1 _, a.so.set (by have := a.sl; omega) _, a.sl, by rw [pobj_set, if_neg h2]; exact a.obj, a.r0b, ⟨_, ls, _, B, rs', hF W B f, ne, nx⟩, fun u x e => ?_⟩
  obtain ⟨g1, g2, g3, g4⟩ := a.ex u x e
  exact ⟨by rw [pobj_set, if_neg (nx u x e _ (.inl rfl))]; exact g1, g2, g3, g4⟩
theorem GS.rdB (a : GS E R F σ h s vC bs r0 p n sP capP sB capB) {i : Nat} (hi : i < n) (hF : ∀ W B, F W B → (B.getD i []).length = n - 1 - i) : ∃ t cap, h.rd1 sB i = some (.sl t 0 (n - 1 - i) cap) := by
  obtain ⟨cs, ls, W, B, rs, f, ne⟩ := a.rs
  obtain ⟨q, h1, h2, h3⟩ := rs.rdB hi
  rw [hF W B f] at h3
  exact ⟨q.s, q.cap, by rw [h2, LS.pv, h3]⟩
theorem GS.putB {R' : PV → List Int → Prop} (a : GS E R F σ h s vC bs r0 p n sP capP sB capB) {i k t l : Nat} {cap : Cap} {v : PV} {w : List Int} (hi : i < n) (hr : h.rd1 sB i = some (.sl t 0 l cap)) (hk : k < l) (hR : ∀ v w, R v w → R' v w) (hv : R' v w) (ho : v.one = true) (hF : ∀ W B, i < B.length → F W B → F' W (B.set i ((B.getD i []).set k w))) :
    ∃ h', h.wr t k [v] = some h' ∧ GS E R' F' σ h' s vC bs r0 p n sP capP sB capB ∧ h'.rd1 sB i = some (.sl t 0 l cap) ∧ h'.rd1 t k = some v := by
  obtain ⟨cs, ls, W, B, rs, f, ne, nx⟩ := a.rs
  obtain ⟨q, h1, h2, h3⟩ := rs.rdB hi
  rw [h2, LS.pv, Option.some.injEq, PV.sl.injEq] at hr
  obtain ⟨rfl, _, rfl, rfl⟩ := hr
  have rs2 : RS FI R' σ.next h n sP capP cs sB capB ls W B := rs.imp rs.aP ⟨rs.aB.1, fun j x y hx hy => ⟨(rs.aB.2 j x y hx hy).1, fun j' x' y' hx' hy' => hR _ _ ((rs.aB.2 j x y hx hy).2 j' x' y' hx' hy')⟩⟩
  obtain ⟨w1, rs'⟩ := rs2.putB h1 hk hv ho
  have hm := List.mem_of_getElem? h1
  have g1 := (rs.lok q hm).2.2.1
  have g2 := ne _ (.inr (.inr ⟨q, hm, rfl⟩))
  have g3 := rs.lne q hm
  have hlB : i < B.length := by rw [rs.lB]; exact hi
  have cl : ∀ {X : Nat}, (∀ t, (t = sP ∨ t = sB ∨ ∃ q ∈ ls, q.s = t) → X ≠ t) → ∀ u, (u = sP ∨ u = sB ∨ ∃ q' ∈ ls.set i ⟨q.s, q.cap, q.cs.set k v⟩, q'.s = u) → X ≠ u := fun ne u hu => by
    rcases hu with e | e | ⟨q', hq', e⟩
    · exact ne u (.inl e)
    · exact ne u (.inr (.inl e))
    · obtain ⟨j, hj⟩ := List.getElem?_of_mem hq'
      rw [List.getElem?_set] at hj
      split at hj
      · first
        | (cases hj; exact ne u (.inr (.inr ⟨q, hm, e⟩)))
        | (split at hj
           · cases hj; exact ne u (.inr (.inr ⟨q, hm, e⟩))
           · cases hj)
      · exact ne u (.inr (.inr ⟨q', List.mem_of_getElem? hj, e⟩))
  refine ⟨_, w1, ⟨a.km.set g1 _, a.so.set (by have := a.sl; omega) _, a.sl, by rw [pobj_set, if_neg g2]; exact a.obj, a.r0b, ⟨cs, _, W, _, rs', hF W B hlB f, cl ne, fun u x e => cl (nx u x e)⟩, fun u x e => ?_⟩, ?_, ?_⟩
  · obtain ⟨y1, y2, y3, y4⟩ := a.ex u x e
    exact ⟨by rw [pobj_set, if_neg (nx u x e _ (.inr (.inr ⟨q, hm, rfl⟩)))]; exact y1, y2, y3, y4⟩
  · rw [prd1_set, if_neg (Ne.symm g3.2)]; exact h2
  · rw [prd1_set, if_pos rfl, List.getElem?_set, if_pos rfl, if_pos hk]
theorem GS.sBb {E : Nat → List Int → Prop} (a : GS E R F σ h s vC bs r0 p n sP capP sB capB) : σ.next ≤ sB ∧ sB < h.next := by
  obtain ⟨cs, ls, W, B, rs, _⟩ := a.rs
  exact rs.Q.2.2
theorem Mv.rd1 (m : Mv h s h') {u i : Nat} (hu : u ≠ s) : h'.rd1 u i = h.rd1 u i := by simp only [PHeap.rd1, m.obj hu]
theorem PWF.setS {c0 c1 : List PV} (w : PWF σ) (h0 : σ.obj s = some c0) (hb : Bels 0 c1) : PWF (σ.set s c1) := by
  have hs : s < σ.next := w.lt h0
  refine ⟨fun t ht => ?_, fun t cs ht => ?_⟩
  · have ht' : σ.next ≤ t := ht
    rw [pobj_set, if_neg (by omega)]
    exact w.wf t ht'
  · rw [pobj_set] at ht
    split at ht
    · cases ht
      exact Bels.up (Nat.zero_le _) hb
    · exact w.bel t cs ht
theorem KM.fr {t o u : Nat} {xs : List PV} (k : KM σ s h) (w : PWF σ) (ht : σ.next ≤ t) (hu : h.top ≤ u) : KM σ s (((h.kill t).sub t o xs).up u) := by
  obtain ⟨σ', ⟨c0, c1, h0, h1, rfl⟩, q⟩ := k
  have q2 : Keep (σ.set s c1) ((h.kill t).sub t o xs) := (q.kill (s := t) (by exact ht)).sub (PWF.setS w h0 h1) (by exact ht)
  exact ⟨_, ⟨c0, c1, h0, h1, rfl⟩, q2.next, Nat.le_trans q.top hu, q2.obj⟩
theorem So.fr {t o u : Nat} {xs : List PV} (k : So h s vC bs) (ht : s ≠ t) : So (((h.kill t).sub t o xs).up u) s vC bs := by
  obtain ⟨a, sd, S⟩ := k
  refine ⟨a, sd, ?_, S.lt, S.fb, S.byt, S.le, S.sd⟩
  have := sub_obj (o := o) (xs := xs) ht S.obj
  rw [sbs_bel (Nat.zero_le _) (S.fb.bels 0 _ _)] at this
  exact this
def FI2 (t n : Nat) (cap : Cap) (X : List Int) (v : PV) (w : List Int) : Prop := FI v w ∨ (v = .sl t 0 n cap ∧ w = X)
theorem GS.setp {E : Nat → List Int → Prop} (a : GS E R F σ h s vC bs r0 p n sP capP sB capB) (q : Int) :
    ∃ h', h.wr r0 0 [.int .i64 q] = some h' ∧ GS E R F σ h' s vC bs r0 q n sP capP sB capB := by
  obtain ⟨cs, ls, W, B, rs, f, ne, nx⟩ := a.rs
  refine ⟨_, wr_one a.obj (by simp) rfl, a.km.set a.r0b.1 _, a.so.set (by have := a.sl; have := a.r0b.1; omega) _, a.sl, by rw [pobj_set, if_pos rfl]; rfl, a.r0b, ⟨cs, ls, W, B, rs.move (fun t ht => by rw [pobj_set, if_neg (Ne.symm (ne t ht))]) (Nat.le_refl _), f, ne, nx⟩, fun u x e => ?_⟩
  obtain ⟨g1, g2, g3, g4⟩ := a.ex u x e
  exact ⟨by rw [pobj_set, if_neg g4]; exact g1, g2, g3, g4⟩
theorem GS.imp {E : Nat → List Int → Prop} (a : GS E R F σ h s vC bs r0 p n sP capP sB capB) (hF : ∀ W B, F W B → F' W B) : GS E R F' σ h s vC bs r0 p n sP capP sB capB := by
  obtain ⟨cs, ls, W, B, rs, f, ne⟩ := a.rs
  exact ⟨a.km, a.so, a.sl, a.obj, a.r0b, ⟨cs, ls, W, B, rs, hF W B f, ne⟩, a.ex⟩
theorem natlt : ((0 : Int) < ((1 : Nat) : Int)) ∧ ((0 : Int) < ((2 : Nat) : Int)) ∧ ((0 : Int) < ((3 : Nat) : Int)) ∧ ((0 : Int) < ((4 : Nat) : Int)) ∧ ((0 : Int) < ((5 : Nat) : Int)) ∧ ((0 : Int) < ((6 : Nat) : Int)) ∧ ((1 : Int) < ((2 : Nat) : Int)) ∧ ((1 : Int) < ((3 : Nat) : Int)) ∧ ((1 : Int) < ((4 : Nat) : Int)) ∧ ((1 : Int) < ((5 : Nat) : Int)) ∧ ((1 : Int) < ((6 : Nat) : Int)) ∧ ((2 : Int) < ((3 : Nat) : Int)) ∧ ((2 : Int) < ((4 : Nat) : Int)) ∧ ((2 : Int) < ((5 : Nat) : Int)) ∧ ((2 : Int) < ((6 : Nat) : Int)) ∧ ((3 : Int) < ((4 : Nat) : Int)) ∧ ((3 : Int) < ((5 : Nat) : Int)) ∧ ((3 : Int) < ((6 : Nat) : Int)) := by decide
theorem ownFI {v : PV} {xs : List Int} (hv : FI v xs) (hb : xs.length ≤ 4294967296) (hk : ∀ v', FI v' xs → K v' σ) : PCalls Tryz.prog 118 [v] σ K := by
  obtain ⟨w, a, rfl⟩ := hv
  exact l01Own_fz rfl hb fun v => hk _ ⟨_, _, rfl⟩
end Go.Proofs
