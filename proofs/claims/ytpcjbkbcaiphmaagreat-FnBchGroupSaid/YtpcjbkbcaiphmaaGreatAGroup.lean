/- The given statement on Lazard rings (FnBchGroup): its law holds for every input. -/
import Derived.Test.YtpcjbkbcaiphmaaGreatAP27
import Derived.Test.YtpcjbkbcaiphmaaGreatAP28
import Derived.Test.YtpcjbkbcaiphmaaGreatAP29
import Derived.Test.YtpcjbkbcaiphmaaGreatAP30
import Derived.Test.YtpcjbkbcaiphmaaGreatAP33
import Derived.Test.YtpcjbkbcaiphmaaGreatAP38
import Derived.Test.YtpcjbkbcaiphmaaGreatAP39
import Derived.Test.YtpcjbkbcaiphmaaGreatAP40
open Nat renaming reduceLeDiff → nQ7, reduceEqDiff → nQ10, reduceBEq → nQ11, reduceAdd → nQ12, reduceLT → nQ16, reduceSub → nQ17, reduceMul → nQ18
open Int renaming reduceEq → iQ2, reduceLT → iQ3, reduceLE → iQ4, reduceNeg → iQ5, reduceToNat → iQ6, ofNat_le → iQ7
open List renaming reduceReplicate → lQ19, getElem?_drop → lQ20
set_option linter.unusedSimpArgs false
set_option linter.unusedVariables false
namespace Go.Proofs
open Go.Ab Go.Lie
variable {σ : PHeap} {K : PV → PHeap → Prop} {p : Int} {W : List (List Int)} {B : List (List (List Int))} {vC : PV} {bs x y z : List Int} {k : Int}
structure RoI (H h : PHeap) (sD : Nat) (vC : PV) (bs : List Int) (p : Int) (n i : Nat) (v : PV) (xs : List Int) : Prop where
  km : KM H sD h
  di : Di h sD vC bs
  el : El p i xs
  va : (i < n ∧ PSl H.next 1 h v i (pis xs)) ∨ (i = n ∧ FI v xs)
theorem RoI.fz {H h : PHeap} {sD i n : Nat} {vC v : PV} {bs xs : List Int} {p : Int} (km : KM H sD h) (di : Di h sD vC bs) (hs : sD < H.next) (el : El p i xs) (hi : i ≤ n) (a : PSl H.next 1 h v i (pis xs)) {I : List PV → PHeap → Prop} {us : List PV} {pre post : List PV} (hus : us = pre ++ v :: post)
    (hb : (∀ t o cs, sbs t o cs pre = pre) ∧ ∀ t o cs, sbs t o cs post = post) (k : ∀ v' h', RoI H h' sD vC bs p n i v' xs → I (pre ++ v' :: post) h') : GL I us h := by
  subst hus
  by_cases e : i = n
  · obtain ⟨t, cap, rfl, q1, q2, q3, q4, q5⟩ := a
    refine .fz t (pis xs) q2 (pis_bel _ _) fun o => ?_
    have e1 : sbs t o (pis xs) (pre ++ PV.sl t 0 i cap :: post) = pre ++ PV.fz true (.sl o 0 i cap) i (pis xs) :: post := by
      rw [sbs_append, hb.1]
      simp only [sbs, sb, q1.ok, and_self, if_true, hb.2]
    rw [e1]
    have hl := el.1
    refine .here (k _ _ ⟨km.kill q4, di.same (by rw [pobj_kill, if_neg (by omega)]) di.lt, el, .inr ⟨e, true, .sl o 0 i cap, by rw [hl]⟩⟩)
  · exact .here (k _ _ ⟨km, di, el, .inl ⟨by omega, a⟩⟩)
structure LiI (H h : PHeap) (sD : Nat) (n i : Nat) (v vx : PV) (x : List Int) : Prop where
  km : KM H sD h
  va : (i < n ∧ PSl H.next 1 h v i (List.replicate i vx)) ∨ (i = n ∧ FII v (List.replicate i x))
theorem all2_rep2 {v : PV} {x : List Int} (hv : FI v x) : ∀ i, All2 FI (List.replicate i v) (List.replicate i x)
  | 0 => All2.nil _
  | i + 1 => by rw [List.replicate_succ', List.replicate_succ']; exact (all2_rep2 hv i).snoc hv
theorem LiI.fz {H h : PHeap} {sD i n : Nat} {v vx : PV} {x : List Int} (hx : FI vx x) (km : KM H sD h) (hi : i ≤ n) (a : PSl H.next 1 h v i (List.replicate i vx)) {I : List PV → PHeap → Prop} {us : List PV} {pre post : List PV} (hus : us = pre ++ v :: post)
    (hb : (∀ t o cs, sbs t o cs pre = pre) ∧ ∀ t o cs, sbs t o cs post = post) (k : ∀ v' h', LiI H h' sD n i v' vx x → I (pre ++ v' :: post) h') : GL I us h := by
  subst hus
  by_cases e : i = n
  · obtain ⟨t, cap, rfl, q1, q2, q3, q4, q5⟩ := a
    have ha := all2_rep2 hx i
    refine .fz t (List.replicate i vx) q2 (ha.bI 0) fun o => ?_
    have e1 : sbs t o (List.replicate i vx) (pre ++ PV.sl t 0 i cap :: post) = pre ++ PV.fz true (.sl o 0 i cap) i (List.replicate i vx) :: post := by
      rw [sbs_append, hb.1]
      simp only [sbs, sb, q1.ok, and_self, if_true, hb.2]
    rw [e1]
    refine .here (k _ _ ⟨km.kill q4, .inr ⟨e, true, .sl o 0 i cap, List.replicate i vx, by rw [List.length_replicate], ha⟩⟩)
  · exact .here (k _ _ ⟨km, .inl ⟨by omega, a⟩⟩)
theorem FnBchGroup_ok (hb : FB vC bs) (hbd : ∀ b ∈ bs, 0 ≤ b ∧ b ≤ 255) (hk : ∀ σ', K (.bool true) σ') : PCalls Tryz.prog 3 [vC] σ K := by
  have hb1 := hb.one
  have hb2 := hb.cells
  refine pcalls_of_vp mix Tryz.func3 cf3 rfl ?_
  dsimp only [if3, qI, eI, nI, qD, eD]
  simp only [pwA, if_true, if_false, eq_self, nm_eq, reduceCtorEq, ↓reduceIte, nQ10, nQ7, nQ11, nQ12, nQ16, nQ17, nQ18, iQ2, iQ3, iQ4, iQ5, iQ6, lQ19, iQ7, lQ20, hb1]
  refine big_ok hb fun t ht => ?_
  cases t with
  | true =>
    simp only [pwA, if_true, if_false, eq_self, nm_eq, reduceCtorEq, ↓reduceIte, nQ10, nQ7, nQ11, nQ12, nQ16, nQ17, nQ18, iQ2, iQ3, iQ4, iQ5, iQ6, lQ19, iQ7, lQ20]
    exact hk _
  | false =>
  have hlen : bs.length ≤ 4096 := by
    rcases Nat.lt_or_ge 4096 bs.length with e | e
    · have := ht.2 e; cases this
    · exact e
  clear ht
  have hB : Byt bs := ⟨by omega, hbd⟩
  simp only [pwA, if_true, if_false, eq_self, nm_eq, reduceCtorEq, ↓reduceIte, nQ10, nQ7, nQ11, nQ12, nQ16, nQ17, nQ18, iQ2, iQ3, iQ4, iQ5, iQ6, lQ19, iQ7, lQ20, hb1]
  refine DrawBchProduct_ok hb hB fun p vP vB W B vx x vy y d hR hvx hxl hvy hyl => ?_
  have g1 := hR.P.one
  have g2 := hR.B.one
  have sz := d.sz
  have szx : x.length ≤ 1048576 := by omega
  have szy : y.length ≤ 1048576 := by omega
  simp only [pwA, if_true, if_false, eq_self, nm_eq, reduceCtorEq, ↓reduceIte, nQ10, nQ7, nQ11, nQ12, nQ16, nQ17, nQ18, iQ2, iQ3, iQ4, iQ5, iQ6, lQ19, iQ7, lQ20, g1, g2]
  refine BchProduct_T hR sz hvx szx hvy szy fun v1 z1 c1 t1 hz1 hv1 ho1 ht1 => ?_
  simp only [pwA, if_true, if_false, eq_self, nm_eq, reduceCtorEq, ↓reduceIte, nQ10, nQ7, nQ11, nQ12, nQ16, nQ17, nQ18, iQ2, iQ3, iQ4, iQ5, iQ6, lQ19, iQ7, lQ20, g1, g2]
  refine l33Product_ok hR sz hvx szx hvy szy fun v2 z2 c2 hz2 hv2 => ?_
  obtain ⟨rfl, rfl⟩ := hz1.unique hz2
  have hzl := prod_bd hz1
  simp only [pwA, if_true, if_false, eq_self, nm_eq, reduceCtorEq, ↓reduceIte, nQ10, nQ7, nQ11, nQ12, nQ16, nQ17, nQ18, iQ2, iQ3, iQ4, iQ5, iQ6, lQ19, iQ7, lQ20]
  refine likeInts_ok hv1 hv2 (by omega) fun t ht => ?_
  obtain rfl : t = true := ht.2 rfl
  by_cases hc : c1 = 0
  rotate_left
  · simp only [pwA, if_true, if_false, eq_self, nm_eq, reduceCtorEq, ↓reduceIte, nQ10, nQ7, nQ11, nQ12, nQ16, nQ17, nQ18, iQ2, iQ3, iQ4, iQ5, iQ6, lQ19, iQ7, lQ20, hc, decide_false]
    exact hk _
  subst hc
  obtain ⟨⟨⟨hl, he⟩, hlz⟩, rfl⟩ := hz1.zero rfl
  obtain ⟨cc, lz⟩ := Lz.of hl hlz
  have o := hl.1.w
  have q := hl.1.b
  have hx := he x (by simp)
  have hy := he y (by simp)
  have hxn := hx.1
  have hW6 := d.wl
  have hpb := hl.1.1.bd
  have hm := bch_el o q hx hy
  have code : ∀ {u v : List Int}, El p W.length u → El p W.length v → CodeL p W B [u, v] 0 := fun hu hv => .inr (.inr ⟨⟨hl, el2' hu hv⟩, hlz, rfl⟩)
  obtain ⟨wx, ax, rfl⟩ := hvx
  have hvx : FI (.fz wx ax x.length (pis x)) x := ⟨wx, ax, rfl⟩
  have hH3 : ((σ.new [PV.int .i64 p, vP, vB]).up t1).obj σ.next = some [.int .i64 p, vP, vB] := by simp only [pwA, if_true, if_false, eq_self, nm_eq, reduceCtorEq, ↓reduceIte, nQ10, nQ7, nQ11, nQ12, nQ16, nQ17, nQ18, iQ2, iQ3, iQ4, iQ5, iQ6, lQ19, iQ7, lQ20]
  have hHn : σ.next < ((σ.new [PV.int .i64 p, vP, vB]).up t1).next := Nat.lt_succ_self _
  generalize (σ.new [PV.int .i64 p, vP, vB]).up t1 = G at *
  simp only [pwA, if_true, if_false, eq_self, nm_eq, reduceCtorEq, ↓reduceIte, nQ10, nQ7, nQ11, nQ12, nQ16, nQ17, nQ18, iQ2, iQ3, iQ4, iQ5, iQ6, lQ19, iQ7, lQ20, hb1]
  refine roll_ok hb hB fun H kG di hHx => ?_
  have hH3' : H.obj σ.next = some [.int .i64 p, vP, vB] := by rw [kG.obj _ hHn]; exact hH3
  have hsD : G.next < H.next := by omega
  have hr0 : σ.next < H.next := by omega
  have hne0 : σ.next ≠ G.next := by omega
  have kmH : KM H G.next H := by
    obtain ⟨i, hh, e, _⟩ := di.ex
    exact ⟨H, ⟨_, diC vC i hh, e, ⟨hb.bel 0, trivial, trivial, trivial⟩, (set_same e).symm⟩, Keep.refl _⟩
  have rdR : ∀ {h : PHeap}, KM H G.next h → h.rd σ.next 0 3 = some [.int .i64 p, vP, vB] ∧ h.rd1 σ.next 0 = some (.int .i64 p) := fun {h} km => by
    have ob : h.obj σ.next = some [.int .i64 p, vP, vB] := by rw [km.obj hr0 hne0]; exact hH3'
    exact ⟨by rw [obj_rd ob]; rfl, by rw [obj_rd1 ob]; rfl⟩
  simp only [pwA, if_true, if_false, eq_self, nm_eq, reduceCtorEq, ↓reduceIte, nQ10, nQ7, nQ11, nQ12, nQ16, nQ17, nQ18, iQ2, iQ3, iQ4, iQ5, iQ6, lQ19, iQ7, lQ20]
  have belL : ∀ t o cs, sbs t o cs [PV.ptr σ.next 0, PV.fz wx ax x.length (pis x), vy, v2, PV.ptr G.next 0] = [PV.ptr σ.next 0, PV.fz wx ax x.length (pis x), vy, v2, PV.ptr G.next 0] := fun t o cs => by simp only [sbs, sb, hvy.sb, hv2.sb]
  refine vp_loopG (fun m us h => ∃ (i : Nat) (v : PV) (xs : List Int), i ≤ x.length ∧ m = x.length - i ∧ us = [.ptr σ.next 0, .fz wx ax x.length (pis x), vy, v2, .ptr G.next 0, v, .int .i64 i] ∧ RoI H h G.next vC bs p x.length i v xs) x.length ?_ ?_
  · refine RoI.fz (i := 0) (n := x.length) (xs := []) (v := .sl H.next 0 0 (.known 0)) (pre := [.ptr σ.next 0, .fz wx ax x.length (pis x), vy, v2, .ptr G.next 0]) (post := [.int .i64 0]) (kmH.new []) (di.keep (keep_new _ _)) hsD ⟨rfl, fun z hz => by cases hz⟩ (Nat.zero_le _) (PSl.new _ 1 rfl (Nat.le_refl _)) rfl ⟨belL, fun _ _ _ => rfl⟩ fun v' h' r => ⟨0, v', [], Nat.zero_le _, by omega, rfl, r⟩
  rintro m us h ⟨i, v, xs, hi, rfl, rfl, km, D, hel, hva⟩
  obtain ⟨rd3, rd1⟩ := rdR km
  simp only [pwA, if_true, if_false, eq_self, nm_eq, reduceCtorEq, ↓reduceIte, nQ10, nQ7, nQ11, nQ12, nQ16, nQ17, nQ18, iQ2, iQ3, iQ4, iQ5, iQ6, lQ19, iQ7, lQ20]
  refine iteI (fun hlt => ?_) fun hge => ?_
  · have hlt' : i < x.length := by omega
    obtain ⟨_, ps⟩ := hva.resolve_right (by omega)
    simp only [pwA, if_true, if_false, eq_self, nm_eq, reduceCtorEq, ↓reduceIte, nQ10, nQ7, nQ11, nQ12, nQ16, nQ17, nQ18, iQ2, iQ3, iQ4, iQ5, iQ6, lQ19, iQ7, lQ20, rd1]
    refine below_ok D (by omega) fun yy h3 hy0 hyp m3 D3 => ?_
    simp only [pwA, if_true, if_false, eq_self, nm_eq, reduceCtorEq, ↓reduceIte, nQ10, nQ7, nQ11, nQ12, nQ16, nQ17, nQ18, iQ2, iQ3, iQ4, iQ5, iQ6, lQ19, iQ7, lQ20]
    refine push_kt (T := H) (bytes := 8) (km.mv hsD m3) (psl_mv ps hsD m3) (by omega) (by omega) fun v' h4 k4 o4 p4 => ?_
    have wi1 : IntKind.i64.wrap ((i : Int) + 1) = ((i + 1 : Nat) : Int) := by rw [wrap64 (by omega) (by omega)]; omega
    simp only [pwA, if_true, if_false, eq_self, nm_eq, reduceCtorEq, ↓reduceIte, nQ10, nQ7, nQ11, nQ12, nQ16, nQ17, nQ18, iQ2, iQ3, iQ4, iQ5, iQ6, lQ19, iQ7, lQ20, wi1]
    have D4 : Di h4 G.next vC bs := D3.same (o4 _ hsD) (Nat.lt_of_lt_of_le hsD k4.next)
    refine ⟨x.length - (i + 1), by omega, RoI.fz (i := i + 1) (n := x.length) (xs := xs ++ [yy]) (v := v') (pre := [.ptr σ.next 0, .fz wx ax x.length (pis x), vy, v2, .ptr G.next 0]) (post := [.int .i64 ((i + 1 : Nat) : Int)]) k4 D4 hsD ⟨by rw [List.length_append, hel.1]; rfl, fun z hz => ?_⟩ (by omega) (by rw [← pis_append]; exact p4) rfl ⟨belL, fun _ _ _ => rfl⟩ fun v' h' r => ⟨i + 1, v', _, by omega, rfl, rfl, r⟩⟩
    rcases List.mem_append.1 hz with e | e
    · exact hel.2 z e
    · rw [List.mem_singleton.1 e]; omega
  have hie : i = x.length := by omega
  obtain ⟨_, hvw⟩ := hva.resolve_left (by omega)
  have hw : El p W.length xs := by rw [← hxn, ← hie]; exact hel
  have hwl := hw.1
  have hyw := bch_el o q hy hw
  have hml := hm.1
  have hywl := hyw.1
  simp only [pwA, if_true, if_false, eq_self, nm_eq, reduceCtorEq, ↓reduceIte, nQ10, nQ7, nQ11, nQ12, nQ16, nQ17, nQ18, iQ2, iQ3, iQ4, iQ5, iQ6, lQ19, iQ7, lQ20, rd3]
  refine BchProduct_T hR sz hvy szy hvw (by omega) fun v3 z3 c3 t3 hz3 hv3 ho3 ht3 => ?_
  obtain ⟨rfl, rfl⟩ := hz3.unique (.inr ⟨code hy hw, rfl, rfl⟩)
  simp only [pwA, if_true, if_false, eq_self, nm_eq, reduceCtorEq, ↓reduceIte, nQ10, nQ7, nQ11, nQ12, nQ16, nQ17, nQ18, iQ2, iQ3, iQ4, iQ5, iQ6, lQ19, iQ7, lQ20, rd3]
  refine l33Product_ok hR sz hvy szy hvw (by omega) fun v4 z4 c4 hz4 hv4 => ?_
  obtain ⟨rfl, rfl⟩ := hz4.unique (.inr ⟨code hy hw, rfl, rfl⟩)
  simp only [pwA, if_true, if_false, eq_self, nm_eq, reduceCtorEq, ↓reduceIte, nQ10, nQ7, nQ11, nQ12, nQ16, nQ17, nQ18, iQ2, iQ3, iQ4, iQ5, iQ6, lQ19, iQ7, lQ20, decide_true]
  refine likeInts_ok hv3 hv4 (by omega) fun t ht => ?_
  obtain rfl : t = true := ht.2 (rfl)
  simp only [pwA, if_true, if_false, eq_self, nm_eq, reduceCtorEq, ↓reduceIte, nQ10, nQ7, nQ11, nQ12, nQ16, nQ17, nQ18, iQ2, iQ3, iQ4, iQ5, iQ6, lQ19, iQ7, lQ20, rd3]
  refine BchProduct_T hR sz hv2 (by omega) hvw (by omega) fun v5 z5 c5 t5 hz5 hv5 ho5 ht5 => ?_
  obtain ⟨rfl, rfl⟩ := hz5.unique (.inr ⟨code hm hw, rfl, rfl⟩)
  simp only [pwA, if_true, if_false, eq_self, nm_eq, reduceCtorEq, ↓reduceIte, nQ10, nQ7, nQ11, nQ12, nQ16, nQ17, nQ18, iQ2, iQ3, iQ4, iQ5, iQ6, lQ19, iQ7, lQ20, rd3]
  refine BchProduct_T hR sz hvx szx hv4 (by omega) fun v6 z6 c6 t6 hz6 hv6 ho6 ht6 => ?_
  obtain ⟨rfl, rfl⟩ := hz6.unique (.inr ⟨code hx hyw, rfl, rfl⟩)
  have hn := neg_el o hx
  have hnl := hn.1
  simp only [pwA, if_true, if_false, eq_self, nm_eq, reduceCtorEq, ↓reduceIte, nQ10, nQ7, nQ11, nQ12, nQ16, nQ17, nQ18, iQ2, iQ3, iQ4, iQ5, iQ6, lQ19, iQ7, lQ20, rd3]
  refine NegateLie_F hR sz hvx szx fun v7 z7 c7 hz7 hv7 => ?_
  obtain ⟨rfl, rfl⟩ := hz7.ok hl (el1 hx) trivial
  simp only [pwA, if_true, if_false, eq_self, nm_eq, reduceCtorEq, ↓reduceIte, nQ10, nQ7, nQ11, nQ12, nQ16, nQ17, nQ18, iQ2, iQ3, iQ4, iQ5, iQ6, lQ19, iQ7, lQ20, rd3]
  refine NegateLie_S hR sz hvx szx fun v8 z8 c8 hz8 hv8 => ?_
  obtain ⟨rfl, rfl⟩ := hz8.ok hl (el1 hx) trivial
  simp only [pwA, if_true, if_false, eq_self, nm_eq, reduceCtorEq, ↓reduceIte, nQ10, nQ7, nQ11, nQ12, nQ16, nQ17, nQ18, iQ2, iQ3, iQ4, iQ5, iQ6, lQ19, iQ7, lQ20, rd3]
  refine BchProduct_T hR sz hv8 (by omega) hvx szx fun v9 z9 c9 t9 hz9 hv9 ho9 ht9 => ?_
  obtain ⟨rfl, rfl⟩ := hz9.unique (.inr ⟨code hn hx, rfl, rfl⟩)
  have hal := (bch_el o q hm hw).1
  rw [lz.inv_l hx] at hv9
  simp only [pwA, if_true, if_false, eq_self, nm_eq, reduceCtorEq, ↓reduceIte, nQ10, nQ7, nQ11, nQ12, nQ16, nQ17, nQ18, iQ2, iQ3, iQ4, iQ5, iQ6, lQ19, iQ7, lQ20, decide_true]
  refine likeInts_ok hv5 hv6 (by omega) fun t ht => ?_
  obtain rfl : t = true := ht.2 (lz.assoc hx hy hw)
  simp only [pwA, if_true, if_false, eq_self, nm_eq, reduceCtorEq, ↓reduceIte, nQ10, nQ7, nQ11, nQ12, nQ16, nQ17, nQ18, iQ2, iQ3, iQ4, iQ5, iQ6, lQ19, iQ7, lQ20, decide_true]
  refine likeInts_ok hv7 hv8 (by omega) fun t ht => ?_
  obtain rfl : t = true := ht.2 (rfl)
  simp only [pwA, if_true, if_false, eq_self, nm_eq, reduceCtorEq, ↓reduceIte, nQ10, nQ7, nQ11, nQ12, nQ16, nQ17, nQ18, iQ2, iQ3, iQ4, iQ5, iQ6, lQ19, iQ7, lQ20, decide_true]
  refine isZero5_ok hv9 (by simp; omega) fun t ht => ?_
  obtain rfl : t = true := ht.2 fun z hz => List.eq_of_mem_replicate hz
  have hJo : ((((h.up t3).up t5).up t6).up t9).obj σ.next = some [.int .i64 p, vP, vB] := by
    show h.obj σ.next = _
    rw [km.obj hr0 hne0]; exact hH3'
  have hGh : G.next < h.next := Nat.lt_of_lt_of_le hsD km.next
  have hJr : σ.next < ((((h.up t3).up t5).up t6).up t9).next := by show _ < h.next; exact Nat.lt_of_lt_of_le hr0 km.next
  have hJs : G.next < ((((h.up t3).up t5).up t6).up t9).next := hGh
  have DJ : Di ((((h.up t3).up t5).up t6).up t9) G.next vC bs := D.same rfl hGh
  generalize (((h.up t3).up t5).up t6).up t9 = J at *
  have kmJ : KM J G.next J := by
    obtain ⟨i, hh, e, _⟩ := DJ.ex
    exact ⟨J, ⟨_, diC vC i hh, e, ⟨hb.bel 0, trivial, trivial, trivial⟩, (set_same e).symm⟩, Keep.refl _⟩
  have rdJ : ∀ {h : PHeap}, KM J G.next h → h.rd σ.next 0 3 = some [.int .i64 p, vP, vB] := fun {h} km => by
    rw [obj_rd (show h.obj σ.next = some [.int .i64 p, vP, vB] by rw [km.obj hJr hne0]; exact hJo)]; rfl
  simp only [pwA, if_true, if_false, eq_self, nm_eq, reduceCtorEq, ↓reduceIte, nQ10, nQ7, nQ11, nQ12, nQ16, nQ17, nQ18, iQ2, iQ3, iQ4, iQ5, iQ6, lQ19, iQ7, lQ20]
  refine below_ok (DJ.keep (keep_new _ _)) (by decide) fun kk h3 hk0 hk7 m3 D3 => ?_
  obtain ⟨k, rfl⟩ : ∃ k : Nat, kk = k := ⟨kk.toNat, by omega⟩
  have km3 := (kmJ.new []).mv hJs m3
  have belL2 : ∀ t o cs, sbs t o cs [PV.ptr σ.next 0, PV.fz wx ax x.length (pis x)] = [PV.ptr σ.next 0, PV.fz wx ax x.length (pis x)] := fun t o cs => rfl
  simp only [pwA, if_true, if_false, eq_self, nm_eq, reduceCtorEq, ↓reduceIte, nQ10, nQ7, nQ11, nQ12, nQ16, nQ17, nQ18, iQ2, iQ3, iQ4, iQ5, iQ6, lQ19, iQ7, lQ20]
  refine vp_loopG (fun m us h => ∃ (i : Nat) (v : PV), i ≤ k ∧ m = k - i ∧ us = [.ptr σ.next 0, .fz wx ax x.length (pis x), v, .int .i64 k, .int .i64 i] ∧ LiI J h G.next k i v (.fz wx ax x.length (pis x)) x) k ?_ ?_
  · refine LiI.fz (i := 0) (n := k) (v := .sl J.next 0 0 (.known 0)) (pre := [.ptr σ.next 0, .fz wx ax x.length (pis x)]) (post := [.int .i64 k, .int .i64 0]) hvx km3 (Nat.zero_le _) (psl_mv (PSl.new _ 1 rfl (Nat.le_refl _)) hJs m3) rfl ⟨belL2, fun _ _ _ => rfl⟩ fun v' h' r => ⟨0, v', Nat.zero_le _, by omega, rfl, r⟩
  rintro m us g ⟨i, v, hi, rfl, rfl, kmg, hvg⟩
  have rdg := rdJ kmg
  simp only [pwA, if_true, if_false, eq_self, nm_eq, reduceCtorEq, ↓reduceIte, nQ10, nQ7, nQ11, nQ12, nQ16, nQ17, nQ18, iQ2, iQ3, iQ4, iQ5, iQ6, lQ19, iQ7, lQ20]
  refine iteI (fun hlt => ?_) fun hge => ?_
  · have hlt' : i < k := by omega
    obtain ⟨_, ps⟩ := hvg.resolve_right (by omega)
    simp only [pwA, if_true, if_false, eq_self, nm_eq, reduceCtorEq, ↓reduceIte, nQ10, nQ7, nQ11, nQ12, nQ16, nQ17, nQ18, iQ2, iQ3, iQ4, iQ5, iQ6, lQ19, iQ7, lQ20]
    refine push_kt (T := J) (bytes := 24) kmg ps (by omega) (by omega) fun v' h4 k4 o4 p4 => ?_
    have wi1 : IntKind.i64.wrap ((i : Int) + 1) = ((i + 1 : Nat) : Int) := by rw [wrap64 (by omega) (by omega)]; omega
    simp only [pwA, if_true, if_false, eq_self, nm_eq, reduceCtorEq, ↓reduceIte, nQ10, nQ7, nQ11, nQ12, nQ16, nQ17, nQ18, iQ2, iQ3, iQ4, iQ5, iQ6, lQ19, iQ7, lQ20, wi1]
    refine ⟨k - (i + 1), by omega, LiI.fz (i := i + 1) (n := k) (v := v') (pre := [.ptr σ.next 0, .fz wx ax x.length (pis x)]) (post := [.int .i64 k, .int .i64 ((i + 1 : Nat) : Int)]) hvx k4 (by omega) (by rw [List.replicate_succ']; exact p4) rfl ⟨belL2, fun _ _ _ => rfl⟩ fun v' h' r => ⟨i + 1, v', by omega, rfl, rfl, r⟩⟩
  have hie2 : i = k := by omega
  obtain ⟨_, hvl⟩ := hvg.resolve_left (by omega)
  rw [hie2] at hvl
  have helL : Els p W.length (List.replicate k x) := fun z hz => by rw [List.eq_of_mem_replicate hz]; exact hx
  have szL : SzL (List.replicate k x) := ⟨by simp; omega, fun z hz => by rw [List.eq_of_mem_replicate hz]; omega⟩
  have codeL : CodeL p W B (List.replicate k x) 0 := .inr (.inr ⟨⟨hl, helL⟩, hlz, rfl⟩)
  simp only [pwA, if_true, if_false, eq_self, nm_eq, reduceCtorEq, ↓reduceIte, nQ10, nQ7, nQ11, nQ12, nQ16, nQ17, nQ18, iQ2, iQ3, iQ4, iQ5, iQ6, lQ19, iQ7, lQ20, rdg]
  refine BchFold_T hR sz hvl szL fun v10 z10 c10 t10 hz10 hv10 ho10 ht10 => ?_
  obtain ⟨rfl, rfl⟩ := hz10.unique (.inr ⟨codeL, rfl, rfl⟩)
  have htm : El p W.length (lmul p W k x) := lmix_el o hx hx
  have htl := htm.1
  simp only [pwA, if_true, if_false, eq_self, nm_eq, reduceCtorEq, ↓reduceIte, nQ10, nQ7, nQ11, nQ12, nQ16, nQ17, nQ18, iQ2, iQ3, iQ4, iQ5, iQ6, lQ19, iQ7, lQ20, rdg]
  refine TimesLie_F hR sz hvx szx fun v11 z11 c11 hz11 hv11 => ?_
  obtain ⟨rfl, rfl⟩ := hz11.ok hl (el1 hx) (by omega)
  simp only [pwA, if_true, if_false, eq_self, nm_eq, reduceCtorEq, ↓reduceIte, nQ10, nQ7, nQ11, nQ12, nQ16, nQ17, nQ18, iQ2, iQ3, iQ4, iQ5, iQ6, lQ19, iQ7, lQ20, rdg]
  refine TimesLie_S hR sz hvx szx fun v12 z12 c12 hz12 hv12 => ?_
  obtain ⟨rfl, rfl⟩ := hz12.ok hl (el1 hx) (by omega)
  simp only [pwA, if_true, if_false, eq_self, nm_eq, reduceCtorEq, ↓reduceIte, nQ10, nQ7, nQ11, nQ12, nQ16, nQ17, nQ18, iQ2, iQ3, iQ4, iQ5, iQ6, lQ19, iQ7, lQ20, decide_true]
  refine likeInts_ok hv11 hv12 (by omega) fun t ht => ?_
  obtain rfl : t = true := ht.2 (rfl)
  simp only [pwA, if_true, if_false, eq_self, nm_eq, reduceCtorEq, ↓reduceIte, nQ10, nQ7, nQ11, nQ12, nQ16, nQ17, nQ18, iQ2, iQ3, iQ4, iQ5, iQ6, lQ19, iQ7, lQ20, decide_true]
  refine likeInts_ok hv10 hv12 (by rw [lz.fold_rep hx k]; omega) fun t ht => ?_
  obtain rfl : t = true := ht.2 (lz.fold_rep hx k)
  simp only [pwA, if_true, if_false, eq_self, nm_eq, reduceCtorEq, ↓reduceIte, nQ10, nQ7, nQ11, nQ12, nQ16, nQ17, nQ18, iQ2, iQ3, iQ4, iQ5, iQ6, lQ19, iQ7, lQ20, decide_true]
  exact hk _
end Go.Proofs
namespace Go.Proofs.YtpcjbkbcaiphmaaGreat
open Go.ChangeShapes Go.WideShapes Go.ChangeAt Go.RowKit Go.Ab Go.Joins Go.Lie Go.Proofs
set_option maxRecDepth 100000 in
theorem bchGroupContract {H : Type} {enc : TypeId × Value → H} (W : World) (base : Nat) (args : Array Value) (ds gs : List (DataW H)) (before : List MemPlace)
    (hval : ∀ (j : Nat) t v, Tryz.f3.params[j]? = some t → args[j]? = some v → Value.okWide Tryz.prog W .any base t v)
    (hW : DataW.Whole enc Tryz.prog Tryz.f3.params.toList Rows.fnBchGroupSpec.vars false W args.toList ds gs before) :
    Calls Tryz.prog 3 args W fun e W' => ∃ v, e = .returned v ∧ Rows.fnBchGroupSpec.post enc Tryz.prog Tryz.f3 false true false false W args v W' := by
  have hW' := hW
  obtain ⟨p, q, hA0, hV, rfl, hfz, hnd⟩ := hW
  have hA : DataW.TrodAll enc Tryz.prog W 0 (fun _ => true) true Tryz.f3.params.toList args.toList ds p := hA0
  rw [Tryz.params3] at hA hval
  obtain ⟨v0, vs0, d0, ds0, p0, q0, hargs, rfl, rfl, t0, r0⟩ := trodAll_cons hA
  obtain ⟨rfl, rfl, rfl⟩ := trodAll_nil r0
  obtain rfl : args = #[v0] := by cases args; simp_all
  obtain ⟨n0, t0⟩ := t0
  obtain ⟨s0, s0', s0'', hv0⟩ := okWide_slice Tryz.underlying22 (hval 0 22 v0 rfl rfl)
  have hc0 : v0.cells.toList = [v0] := by rw [hv0]; rfl
  rw [hc0] at t0
  obtain ⟨j0, h0, vX0, X0, m0, l0, e0, i0, o0, _, R0, y0⟩ := layB _ _ _ true n0 _ _ (MR.empty W) t0
  have pc : PCalls Tryz.prog 3 [vX0] (PHeap.start h0) (fun v _ => v = .bool true) := FnBchGroup_ok R0 y0 (fun _ => rfl)
  have ac := pc.law m0.wf ⟨o0, trivial⟩
  refine (ac.calls m0 (cargs := #[v0]) ⟨_, _, rfl, i0, rfl⟩).mono fun e W' ⟨he, hb⟩ => ?_
  exact ⟨_, he, post_of_below rfl laidOut (by rw [Tryz.params3]; intro t ht; simp only [List.mem_cons, List.not_mem_nil, or_false] at ht; rcases ht with rfl <;> exact ⟨by kernel_rfl, of_decide_eq_true (by kernel_rfl)⟩) (by kernel_rfl) Tryz.underlying4 rfl hW' hb⟩
set_option maxRecDepth 100000 in
theorem bchGroupLifted (os : Os) (started : os.Started) (H : Type) (enc : TypeId × Value → H) :
    ReturnsInHanded {} Tryz.checked os 3 .any (Rows.fnBchGroupSpec.pre6 enc Tryz.prog Tryz.f3 Rows.fnBchGroupRow.domain false) (Rows.fnBchGroupSpec.post enc Tryz.prog Tryz.f3 false true false false) := by
  refine returnsInHanded_of_change (C := Tryz.checked) own started (by kernel_rfl) Tryz.func3
    (ChangeSpec.witness6 (enc := enc) (C := Tryz.checked) false ⟨#[], #[.slice none 0 0], []⟩ 8 (by kernel_rfl) (by kernel_rfl) (by kernel_rfl) (by kernel_rfl)) ?_
  intro W base args ds gs before hval hW _ _
  exact bchGroupContract W base args ds gs before hval hW
set_option maxRecDepth 100000 in
theorem bchGroupNamed : Tryz.prog.funcNamed Rows.fnBchGroupRow.func = some 3 := by kernel_rfl
set_option maxHeartbeats 1600000 in
set_option maxRecDepth 100000 in
theorem bchGroupClosed : joinedFacts Tryz.prog 3 Tryz.f3 Rows.fnBchGroupSpec Rows.fnBchGroupRow = true := by
  unfold joinedFacts
  simp only [Bool.and_eq_true]
  repeat' apply And.intro
  all_goals (as_aux_lemma => kernel_rfl)
theorem bchGroupProved : Rows.FnBchGroupSaid :=
  OpenClaim.holds_of_wide 3 Tryz.f3 rfl rfl rfl rfl rfl rfl rfl ⟨rfl, rfl, rfl, rfl, rfl⟩ rfl rfl rfl rfl rfl bchGroupNamed Tryz.func3 bchGroupClosed
    (of_decide_eq_true (by kernel_rfl)) (by unfold Func.isWrapper; first | (rw [if_pos (by decide +kernel)]; kernel_rfl) | (rw [if_neg (by decide +kernel)]; exact ⟨rfl, rfl⟩))
    (fun os started H enc _ => bchGroupLifted os started H enc)
end Go.Proofs.YtpcjbkbcaiphmaaGreat
