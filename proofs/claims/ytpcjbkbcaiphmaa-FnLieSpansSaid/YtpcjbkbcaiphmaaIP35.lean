/- Sums, intersections, spans and membership. -/
import Derived.Test.YtpcjbkbcaiphmaaIP29
import Derived.Test.YtpcjbkbcaiphmaaIAbPm
import Derived.Test.YtpcjbkbcaiphmaaIP31
import Derived.Test.YtpcjbkbcaiphmaaIP33
open Nat renaming reduceLeDiff → nQ7, reduceEqDiff → nQ10, reduceBEq → nQ11, reduceAdd → nQ12, reduceLT → nQ16, reduceSub → nQ17, reduceMul → nQ18
open Int renaming reduceEq → iQ2, reduceLT → iQ3, reduceLE → iQ4, reduceNeg → iQ5, reduceToNat → iQ6, ofNat_le → iQ7
open List renaming reduceReplicate → lQ19, getElem?_drop → lQ20
set_option linter.unusedSimpArgs false
set_option linter.unusedVariables false
namespace Go.Proofs
open Go.Ab Go.Lie
variable {p : Int} {n : Nat} {W : List (List Int)} {B : List (List (List Int))} {c k : Nat} {f g h : Vec}
theorem brv_add2 (f g g' : Vec) (t : Nat) : brv B n f (fun j => g j + g' j) t = brv B n f g t + brv B n f g' t := by
  rw [brv_anti, brv_add, brv_anti g f, brv_anti g' f]
  grind
section
variable {X Y Z : Vec}
end
end Go.Proofs
namespace Go.Proofs
open Go.Ab Go.Lie
variable {p : Int} {n : Nat} {W : List (List Int)} {B : List (List (List Int))} {id : Prop}
theorem gen_brL (o : OkW p n W) (q : OkB p n B) (nf : NoFault p W B n) {u w : List (List Int)} {f g : Vec} (hf : Gen p n W u f) (hg : Gen p n W w g) : Gen p n W (brL p W B n u w) (brv B n f g) := by
  have hS := gen_sub (p := p) (n := n) (W := W) (brL p W B n u w)
  have z1 : ∀ (f : Vec) (t : Nat), brv B n (fun _ => 0) f t = 0 := fun f t => by
    have := brv_mul (B := B) (n := n) 0 (fun _ => 0) f t
    simpa using this
  refine gen_le (S := fun f => Gen p n W (brL p W B n u w) (brv B n f g)) ⟨hS.eqv _ _ (Eqv.of_eq (z1 g)) hS.zero, fun f f' h h' => hS.eqv _ _ (Eqv.of_eq fun t => brv_add f f' g t) (hS.add _ _ h h'), fun k f h => hS.eqv _ _ (Eqv.of_eq fun t => brv_mul k f g t) (hS.mul k _ h), fun f f' h h' => hS.eqv _ _ (brv_eqv o q nf g h) h'⟩ (fun x hx => ?_) hf
  refine gen_le (S := fun g => Gen p n W (brL p W B n u w) (brv B n (at_ x) g)) ⟨hS.eqv _ _ (Eqv.of_eq fun t => by rw [brv_anti, z1]; rfl) hS.zero, fun f f' h h' => hS.eqv _ _ (Eqv.of_eq fun t => brv_add2 (at_ x) f f' t) (hS.add _ _ h h'), fun k f h => hS.eqv _ _ (Eqv.of_eq fun t => brv_mul2 k (at_ x) f t) (hS.mul k _ h), fun f f' h h' => hS.eqv _ _ (brv_eqv2 o q nf (at_ x) h) h'⟩ (fun y hy => ?_) hg
  exact hS.eqv _ _ (br_eqv o q x y).symm (gen_mem (List.mem_flatMap.2 ⟨x, hx, List.mem_map.2 ⟨y, hy, rfl⟩⟩))
def Shut (B : List (List (List Int))) (n : Nat) (id : Prop) (S : Vec → Prop) : Prop := ∀ f g, S f → (id ∨ S g) → S (brv B n f g)
structure Grw (p : Int) (n : Nat) (W : List (List Int)) (B : List (List (List Int))) (id : Prop) (gens u : List (List Int)) : Prop where
  base : Base p n W u
  red : Red u
  mem : ∀ v ∈ gens, Gen p n W u (at_ v)
  low : ∀ S, IsSub p n W S → (∀ v ∈ gens, S (at_ v)) → Shut B n id S → ∀ f, Gen p n W u f → S f
structure ClsOf (p : Int) (n : Nat) (W : List (List Int)) (B : List (List (List Int))) (id : Prop) (gens u : List (List Int)) : Prop extends Grw p n W B id gens u where
  clo : Shut B n id (Gen p n W u)
theorem Grw.start {gens u : List (List Int)} (c : Canon p n W gens u) : Grw p n W B id gens u :=
  ⟨c.base, c.red, fun v hv => (c.gen _).1 (gen_mem hv), fun S hS hg _ f hf => gen_le hS hg ((c.gen f).2 hf)⟩
theorem Grw.len (o : OkW p n W) {gens u : List (List Int)} (a : Grw p n W B id gens u) : u.length ≤ n := asc_length (fun v hv => (a.base.led v hv).2.1) a.base.asc
structure Rnd (p : Int) (n : Nat) (W : List (List Int)) (B : List (List (List Int))) (id : Prop) (u v : List (List Int)) : Prop where
  base : Base p n W v
  red : Red v
  up : ∀ f, Gen p n W u f → Gen p n W v f
  br : ∀ f g, Gen p n W u f → (id ∨ Gen p n W u g) → Gen p n W v (brv B n f g)
  low : ∀ S, IsSub p n W S → (∀ x ∈ u, S (at_ x)) → Shut B n id S → ∀ f, Gen p n W v f → S f
theorem Grw.next {gens u v : List (List Int)} (a : Grw p n W B id gens u) (r : Rnd p n W B id u v) : Grw p n W B id gens v :=
  ⟨r.base, r.red, fun x hx => r.up _ (a.mem x hx), fun S hS hg hs => r.low S hS (fun x hx => a.low S hS hg hs _ (gen_mem hx)) hs⟩
theorem Grw.done (o : OkW p n W) {gens u v : List (List Int)} (a : Grw p n W B id gens u) (r : Rnd p n W B id u v) (hl : v.length ≤ u.length) : ClsOf p n W B id gens u :=
  ⟨a, fun f g hf hg => (base_le o a.base r.base r.up).2 hl _ (r.br f g hf hg)⟩
theorem Grw.less (o : OkW p n W) {gens u v : List (List Int)} (a : Grw p n W B id gens u) (r : Rnd p n W B id u v) (hl : v.length ≠ u.length) : u.length < v.length := by
  have := (base_le o a.base r.base r.up).1
  omega
theorem rnd_of (o : OkW p n W) (q : OkB p n B) {u L v : List (List Int)} (c : Canon p n W L v) (h1 : ∀ x ∈ u, Gen p n W L (at_ x)) (h2 : ∀ f g, Gen p n W u f → (id ∨ Gen p n W u g) → Gen p n W L (brv B n f g))
    (h3 : ∀ S, IsSub p n W S → (∀ x ∈ u, S (at_ x)) → Shut B n id S → ∀ x ∈ L, S (at_ x)) : Rnd p n W B id u v :=
  ⟨c.base, c.red, fun f hf => (c.gen f).1 (gen_mono h1 hf), fun f g hf hg => (c.gen _).1 (h2 f g hf hg), fun S hS hu hs f hf => gen_le hS (h3 S hS hu hs) ((c.gen f).2 hf)⟩
theorem brL_mem {u w : List (List Int)} {z : List Int} : z ∈ brL p W B n u w ↔ ∃ x ∈ u, ∃ y ∈ w, z = br p W B n x y := by
  constructor
  · intro h
    obtain ⟨x, hx, h⟩ := List.mem_flatMap.1 h
    obtain ⟨y, hy, rfl⟩ := List.mem_map.1 h
    exact ⟨x, hx, y, hy, rfl⟩
  · rintro ⟨x, hx, y, hy, rfl⟩
    exact List.mem_flatMap.2 ⟨x, hx, List.mem_map.2 ⟨y, hy, rfl⟩⟩
theorem shut_br (o : OkW p n W) (q : OkB p n B) {S : Vec → Prop} (hS : IsSub p n W S) (hs : Shut B n id S) {x y : List Int} (hx : S (at_ x)) (hy : id ∨ S (at_ y)) : S (at_ (br p W B n x y)) := hS.eqv _ _ (br_eqv o q x y) (hs _ _ hx hy)
theorem rnd_spec (o : OkW p n W) (q : OkB p n B) (nf : NoFault p W B n) {u w b v : List (List Int)} (hw : (id ∧ w = units n) ∨ (¬ id ∧ w = u)) (cb : Canon p n W (brL p W B n u w) b) (c : Canon p n W (u ++ b) v) : Rnd p n W B id u v := by
  have hb : ∀ {f}, Gen p n W (brL p W B n u w) f → Gen p n W (u ++ b) f := fun {f} hf => gen_sublist (fun z hz => List.mem_append_right _ hz) ((cb.gen f).1 hf)
  refine rnd_of o q c (fun x hx => gen_mem (by simp [hx])) (fun f g hf hg => ?_) fun S hS hu hs x hx => ?_
  · rcases hw with ⟨hi, rfl⟩ | ⟨hi, rfl⟩
    · exact hb (gen_br o q nf hf g)
    · rcases hg with h | h
      · exact absurd h hi
      · exact hb (gen_brL o q nf hf h)
  · rcases List.mem_append.1 hx with h | h
    · exact hu x h
    · refine gen_le hS (fun z hz => ?_) ((cb.gen _).2 (gen_mem h))
      obtain ⟨x, hx, y, hy, rfl⟩ := brL_mem.1 hz
      refine shut_br o q hS hs (hu x hx) ?_
      rcases hw with ⟨hi, rfl⟩ | ⟨hi, rfl⟩
      · exact .inl hi
      · exact .inr (hu y hy)
end Go.Proofs
set_option linter.unusedSectionVars false
namespace Go.Proofs
open Go.Ab Go.Lie
variable {σ : PHeap} {K : PV → PHeap → Prop} {p : Int} {n : Nat} {W : List (List Int)} {B : List (List (List Int))} {vP vB vL vU vV vX : PV} {s : Nat} {u v gens : List (List Int)} {id : Prop}
theorem Cat2_ok {wM : Bool} {aM : AV} (hU : FII vU u) (hV : FII vV v) (hl : u.length + v.length ≤ 1048576) (hk : ∀ z, FII z (u ++ v) → K z σ) : PCalls Try.prog 50 [.fz wM aM 2 [vU, vV]] σ K := by
  obtain ⟨wu, au, ru, rfl, hru⟩ := hU
  obtain ⟨wv, av, rv, rfl, hrv⟩ := hV
  have e1 := hru.1
  have e2 := hrv.1
  refine ConcatC_ok (M := [ru, rv]) (((All2.nil FC).snoc ⟨wu, au, by rw [e1]⟩).snoc ⟨wv, av, by rw [e2]⟩) (fun c hc => ?_) (by simp) (by simp [e1, e2]; omega) fun a => ?_
  · simp only [List.mem_cons, List.not_mem_nil, or_false] at hc
    rcases hc with rfl | rfl
    · exact hru.bI 0
    · exact hrv.bI 0
  · have hf : [ru, rv].flatten = ru ++ rv := by simp
    rw [hf]
    have hl2 : (ru ++ rv).length = (u ++ v).length := by simp [e1, e2]
    exact hk _ ⟨true, a, ru ++ rv, by rw [hl2], hru.append hrv⟩
def isSpan (p : Int) (W : List (List Int)) (u : List (List Int)) : Prop := Els p W.length u ∧ Canon p W.length W u u
theorem isZ_of {xs : List Int} (h : ∀ j, at_ xs j = 0) : isZ xs := fun x hx => by
  obtain ⟨j, hj, rfl⟩ := List.mem_iff_getElem.1 hx
  rw [← at_eq hj]; exact h j
theorem canon_span {L : List (List Int)} (c : Canon p W.length W L u) : isSpan p W u := ⟨c.els, c.self⟩
theorem szl_els (o : OkW p n W) (he : Els p n u) (hl : u.length ≤ 1048576) : SzL u := ⟨hl, fun x hx => by rw [(he x hx).1]; have := o.le; omega⟩
theorem areLieSpans_ok {us : List (List (List Int))} {wL : Bool} {aL : AV} {rL : List PV} (hs : PtrR σ s p vP vB) (hR : IsR vP vB W B) (szr : SzR W B) (hL : All2 FII rL us) (hul : us.length ≤ 2) (hne : us ≠ []) (sz : ∀ u ∈ us, SzL u)
    (hk : ∀ t : Bool, (t = true ↔ isLie p W B ∧ ∀ u ∈ us, isSpan p W u) → K (.bool t) σ) : PCalls Try.prog 48 [.ptr s 0, .fz wL aL us.length rL] σ K := by
  have fl : ∀ {A : Prop}, ¬ A → ((false = true) ↔ A) := fun h => ⟨fun x => (by cases x), fun x => absurd x h⟩
  have hPP := hR.P
  obtain ⟨wp, ap, rp, rfl, hrp⟩ := hR.P
  refine pcalls_of_vp mix Try.func48 cf48 rfl ?_
  dsimp only [if48, qI, eI, nI, qD, eD]
  simp only [pwA, if_true, if_false, eq_self, nm_eq, reduceCtorEq, ↓reduceIte, nQ10, nQ7, nQ11, nQ12, nQ16, nQ17, nQ18, iQ2, iQ3, iQ4, iQ5, iQ6, lQ19, iQ7, lQ20]
  refine vp_loop (fun m vs h' => ∃ i : Nat, i ≤ us.length ∧ m = us.length - i ∧ vs = [.ptr s 0, .fz wL aL us.length rL, .int .i64 us.length, .int .i64 i] ∧ σ = h' ∧ ∀ j (h : j < us.length), j < i → isLie p W B ∧ isSpan p W us[j]) us.length ⟨0, by omega, by omega, rfl, rfl, fun j h hj => by omega⟩ ?_
  rintro m vs h' ⟨i, hi, rfl, rfl, rfl, hall⟩
  simp only [pwA, if_true, if_false, eq_self, nm_eq, reduceCtorEq, ↓reduceIte, nQ10, nQ7, nQ11, nQ12, nQ16, nQ17, nQ18, iQ2, iQ3, iQ4, iQ5, iQ6, lQ19, iQ7, lQ20]
  refine iteI (fun hlt => ?_) fun hge => ?_
  rotate_left
  · have hie : i = us.length := by omega
    have hr3 : σ.rd s 0 3 = some [.int .i64 p, .fz wp ap W.length rp, vB] := by rw [obj_rd hs.obj]; rfl
    simp only [pwA, if_true, if_false, eq_self, nm_eq, reduceCtorEq, ↓reduceIte, nQ10, nQ7, nQ11, nQ12, nQ16, nQ17, nQ18, iQ2, iQ3, iQ4, iQ5, iQ6, lQ19, iQ7, lQ20, hr3]
    refine IsLieRing_ok hR szr fun t ht => ?_
    simp only [pwA, if_true, if_false, eq_self, nm_eq, reduceCtorEq, ↓reduceIte, nQ10, nQ7, nQ11, nQ12, nQ16, nQ17, nQ18, iQ2, iQ3, iQ4, iQ5, iQ6, lQ19, iQ7, lQ20]
    refine hk _ ⟨fun e => ⟨ht.1 e, fun x hx => ?_⟩, fun x => ht.2 x.1⟩
    obtain ⟨j, hj, rfl⟩ := List.mem_iff_getElem.1 hx
    exact (hall j hj (by omega)).2
  obtain ⟨w4, a4, rs, hr, hrs⟩ := hL.rowL hlt
  have hF : FII (.fz w4 a4 us[i].length rs) us[i] := ⟨w4, a4, rs, rfl, hrs⟩
  have szi := sz _ (List.getElem_mem hlt)
  have r1 : σ.rd1 s 1 = some (.fz wp ap W.length rp) := by rw [obj_rd1 hs.obj]; rfl
  have bad : ¬ (isLie p W B ∧ isSpan p W us[i]) → ¬ (isLie p W B ∧ ∀ u ∈ us, isSpan p W u) := fun h x => h ⟨x.1, x.2 _ (List.getElem_mem hlt)⟩
  by_cases hg : W.length < us[i].length
  · have hg' : (us[i].length : Int) > (W.length : Int) := by omega
    have hg'' : (W.length : Int) < (us[i].length : Int) := by omega
    simp only [pwA, if_true, if_false, eq_self, nm_eq, reduceCtorEq, ↓reduceIte, nQ10, nQ7, nQ11, nQ12, nQ16, nQ17, nQ18, iQ2, iQ3, iQ4, iQ5, iQ6, lQ19, iQ7, lQ20, hlt, hr, r1, hg', hg'', decide_true]
    exact hk _ (fl (bad fun x => by have := x.2.2.len; omega))
  have hg' : ¬ (us[i].length : Int) > (W.length : Int) := by omega
  have hg'' : ¬ (W.length : Int) < (us[i].length : Int) := by omega
  simp only [pwA, if_true, if_false, eq_self, nm_eq, reduceCtorEq, ↓reduceIte, nQ10, nQ7, nQ11, nQ12, nQ16, nQ17, nQ18, iQ2, iQ3, iQ4, iQ5, iQ6, lQ19, iQ7, lQ20, hlt, hr, r1, hg', hg'', decide_false]
  refine lieElements_ok hs hR szr hF szi fun t ht => ?_
  cases t with
  | false =>
    simp only [pwA, if_true, if_false, eq_self, nm_eq, reduceCtorEq, ↓reduceIte, nQ10, nQ7, nQ11, nQ12, nQ16, nQ17, nQ18, iQ2, iQ3, iQ4, iQ5, iQ6, lQ19, iQ7, lQ20]
    exact hk _ (fl (bad fun x => by have := ht.2 ⟨x.1, x.2.1⟩; cases this))
  | true =>
  obtain ⟨hl, he⟩ := ht.1 rfl
  have o := hl.1.w
  simp only [pwA, if_true, if_false, eq_self, nm_eq, reduceCtorEq, ↓reduceIte, nQ10, nQ7, nQ11, nQ12, nQ16, nQ17, nQ18, iQ2, iQ3, iQ4, iQ5, iQ6, lQ19, iQ7, lQ20]
  refine lieSpan_ok hs hPP o hl.1.1 hF he szi.l fun vO out c hO => ?_
  simp only [pwA, if_true, if_false, eq_self, nm_eq, reduceCtorEq, ↓reduceIte, nQ10, nQ7, nQ11, nQ12, nQ16, nQ17, nQ18, iQ2, iQ3, iQ4, iQ5, iQ6, lQ19, iQ7, lQ20]
  have hn6 := o.le
  have hol := c.len
  have hiff : (out = us[i]) ↔ isSpan p W us[i] := ⟨fun e => by rw [e] at c; exact ⟨he, c⟩, fun x => c.unique o x.2⟩
  refine sameRows_ok hO hF (by omega) (fun x hx => by rw [(c.els x hx).1]; omega) fun t ht => ?_
  cases t with
  | false =>
    simp only [pwA, if_true, if_false, eq_self, nm_eq, reduceCtorEq, ↓reduceIte, nQ10, nQ7, nQ11, nQ12, nQ16, nQ17, nQ18, iQ2, iQ3, iQ4, iQ5, iQ6, lQ19, iQ7, lQ20]
    exact hk _ (fl (bad fun x => by have := ht.2 (hiff.2 x.2); cases this))
  | true =>
  simp only [pwA, if_true, if_false, eq_self, nm_eq, reduceCtorEq, ↓reduceIte, nQ10, nQ7, nQ11, nQ12, nQ16, nQ17, nQ18, iQ2, iQ3, iQ4, iQ5, iQ6, lQ19, iQ7, lQ20, wrapS hlt (by omega : us.length ≤ 4611686018427387904)]
  refine ⟨_, by omega, i + 1, by omega, rfl, rfl, fun j h hj => ?_⟩
  by_cases e : j = i
  · subst e; exact ⟨hl, hiff.1 (ht.1 rfl)⟩
  · exact hall j h (by omega)
end Go.Proofs
namespace Go.Proofs
open Go.Ab Go.Lie
variable {σ : PHeap} {K : PV → PHeap → Prop} {p : Int} {n : Nat} {W : List (List Int)} {B : List (List (List Int))} {vP vB vL vU vV vX : PV} {s : Nat} {u v gens : List (List Int)} {id : Prop}
theorem lieWith_ok {f : FuncId} {caps : List PV} {good : List Int → Prop} {P : Nat} (hs : PtrR σ s p vP vB) (hP : FII vP W) (o : OkW p n W) (hp : isP p) (hpP : p = (P : Int)) (hb : P ^ n ≤ 729) (hf : okF Try.prog f = true)
    (hc : ∀ {h : PHeap} {x : List Int} {v : PV} {K' : PV → PHeap → Prop}, Keep σ h → El p n x → FI v x → (∀ t : Bool, (t = true ↔ good x) → K' (.bool t) h) → PCalls Try.prog f ([] ++ [v] ++ caps) h K')
    (hk : ∀ v out L, Canon p n W L out → (∀ x, x ∈ L ↔ x ∈ allE P n ∧ good x) → FII v out → K v σ) : PCalls Try.prog 53 [.ptr s 0, .clo f [] caps] σ K := by
  have hn6 := o.le
  have hpb := hp.bd
  refine PCalls.gh ?_
  refine pcalls_of_vp mix Try.func53 cf53 rfl ?_
  dsimp only [if53, qI, eI, nI, qD, eD]
  simp only [pwA, if_true, if_false, eq_self, nm_eq, reduceCtorEq, ↓reduceIte, nQ10, nQ7, nQ11, nQ12, nQ16, nQ17, nQ18, iQ2, iQ3, iQ4, iQ5, iQ6, lQ19, iQ7, lQ20]
  refine allLie_ok hs hP o.len hn6 hpP (by omega) hb fun vA hA => ?_
  obtain ⟨wa, aa, ra, rfl, hra⟩ := hA
  have hAl := allE_length P n
  have hAe : ∀ x ∈ allE P n, El p n x := fun x hx => by rw [hpP]; exact all_el (by omega) hx
  generalize allE P n = A at *
  simp only [pwA, if_true, if_false, eq_self, nm_eq, reduceCtorEq, ↓reduceIte, nQ10, nQ7, nQ11, nQ12, nQ16, nQ17, nQ18, iQ2, iQ3, iQ4, iQ5, iQ6, lQ19, iQ7, lQ20]
  refine vp_loop (fun m us h => ∃ (i : Nat) (vL : PV) (L : List (List Int)) (rows : List PV), i ≤ A.length ∧ m = A.length - i ∧ us = [.ptr s 0, .clo f [] caps, vL, .fz wa aa A.length ra, .int .i64 A.length, .int .i64 i] ∧ Keep σ h ∧ PAcc σ.next 1 h vL L.length rows ∧ All2 FI rows L ∧ L.length ≤ i ∧ ∀ x, x ∈ L ↔ x ∈ A.take i ∧ good x) A.length ?_ ?_
  · exact ⟨0, _, [], [], by omega, by omega, rfl, Keep.refl σ, PAcc.nil _ _ _, All2.nil _, Nat.le_refl _, fun x => by simp⟩
  rintro m us h ⟨i, vL, L, rows, hi, rfl, rfl, hkp, ha, hrows, hLi, hmem⟩
  simp only [pwA, if_true, if_false, eq_self, nm_eq, reduceCtorEq, ↓reduceIte, nQ10, nQ7, nQ11, nQ12, nQ16, nQ17, nQ18, iQ2, iQ3, iQ4, iQ5, iQ6, lQ19, iQ7, lQ20]
  refine iteI (fun hlt => ?_) fun hge => ?_
  rotate_left
  · have hie : i = A.length := by omega
    subst hie
    rw [List.take_length] at hmem
    have eL : Els p n L := fun x hx => hAe x ((hmem x).1 hx).1
    have fin : ∀ {g : PHeap} {v : PV} {Q : PV → PHeap → Prop}, Keep σ g → FII v L → (∀ w, Gh σ K w g → Q w g) → PCalls Try.prog 49 [.ptr s 0, v] g Q := fun {g v Q} kg hv hQ =>
      lieSpan_ok (hs.keep kg) hP o hp hv eL (by omega) fun v' out c hO => hQ _ (Gh.fin0 kg (hO.bel _) (hk v' out L c hmem hO))
    rcases ha with ⟨rfl, h1, h2⟩ | ⟨t, cap, rfl, hcp, q2, q3, q4, q5⟩
    · have hL0 : L = [] := List.eq_nil_of_length_eq_zero h1
      subst hL0
      simp only [pwA, if_true, if_false, eq_self, nm_eq, reduceCtorEq, ↓reduceIte, nQ10, nQ7, nQ11, nQ12, nQ16, nQ17, nQ18, iQ2, iQ3, iQ4, iQ5, iQ6, lQ19, iQ7, lQ20]
      refine fin hkp ⟨true, .nils, [], rfl, All2.nil _⟩ fun w hg => ?_
      simp only [pwA, if_true, if_false, eq_self, nm_eq, reduceCtorEq, ↓reduceIte, nQ10, nQ7, nQ11, nQ12, nQ16, nQ17, nQ18, iQ2, iQ3, iQ4, iQ5, iQ6, lQ19, iQ7, lQ20]
      exact hg
    · have hst : s < σ.next := hs.lt
      have hne : s ≠ t := by omega
      simp only [pwA, if_true, if_false, eq_self, nm_eq, reduceCtorEq, ↓reduceIte, nQ10, nQ7, nQ11, nQ12, nQ16, nQ17, nQ18, iQ2, iQ3, iQ4, iQ5, iQ6, lQ19, iQ7, lQ20]
      refine PCalls.frz q2 (hrows.bI 0) fun o1 => ?_
      simp only [sbs, sb, hcp.ok, and_self, if_true, hne, false_and, if_false]
      refine fin (hkp.kill q4) ⟨true, _, rows, rfl, hrows⟩ fun w hg => ?_
      simp only [pwA, if_true, if_false, eq_self, nm_eq, reduceCtorEq, ↓reduceIte, nQ10, nQ7, nQ11, nQ12, nQ16, nQ17, nQ18, iQ2, iQ3, iQ4, iQ5, iQ6, lQ19, iQ7, lQ20]
      exact hg
  obtain ⟨w4, a4, hr⟩ := hra.rowI hlt
  have hxe := hAe _ (List.getElem_mem hlt)
  have htk : A.take (i + 1) = A.take i ++ [A[i]] := List.take_succ_eq_append_getElem hlt
  simp only [pwA, if_true, if_false, eq_self, nm_eq, reduceCtorEq, ↓reduceIte, nQ10, nQ7, nQ11, nQ12, nQ16, nQ17, nQ18, iQ2, iQ3, iQ4, iQ5, iQ6, lQ19, iQ7, lQ20, hlt, hr, hf]
  refine hc hkp hxe ⟨w4, a4, rfl⟩ fun t ht => ?_
  cases t with
  | false =>
    have hng : ¬ good A[i] := fun g => by have := ht.2 g; cases this
    simp only [pwA, if_true, if_false, eq_self, nm_eq, reduceCtorEq, ↓reduceIte, nQ10, nQ7, nQ11, nQ12, nQ16, nQ17, nQ18, iQ2, iQ3, iQ4, iQ5, iQ6, lQ19, iQ7, lQ20, wrapS hlt (by omega : A.length ≤ 4611686018427387904)]
    refine ⟨_, by omega, i + 1, vL, L, rows, by omega, rfl, rfl, hkp, ha, hrows, by omega, fun x => ?_⟩
    rw [htk, List.mem_append, List.mem_singleton, hmem]
    exact ⟨fun h => ⟨.inl h.1, h.2⟩, fun h => ⟨h.1.resolve_right (fun e => hng (by rw [← e]; exact h.2)), h.2⟩⟩
  | true =>
    have hg := ht.1 rfl
    simp only [pwA, if_true, if_false, eq_self, nm_eq, reduceCtorEq, ↓reduceIte, nQ10, nQ7, nQ11, nQ12, nQ16, nQ17, nQ18, iQ2, iQ3, iQ4, iQ5, iQ6, lQ19, iQ7, lQ20]
    refine PAcc.push (bytes := 24) hkp ha (by omega) (by omega) fun v' h2 k2 a2 => ?_
    simp only [pwA, if_true, if_false, eq_self, nm_eq, reduceCtorEq, ↓reduceIte, nQ10, nQ7, nQ11, nQ12, nQ16, nQ17, nQ18, iQ2, iQ3, iQ4, iQ5, iQ6, lQ19, iQ7, lQ20, wrapS hlt (by omega : A.length ≤ 4611686018427387904)]
    refine ⟨_, by omega, i + 1, v', L ++ [A[i]], _, by omega, rfl, rfl, k2, by rw [List.length_append]; exact a2.acc, hrows.snoc ⟨w4, a4, rfl⟩, by rw [List.length_append]; exact Nat.succ_le_succ hLi, fun x => ?_⟩
    rw [htk, List.mem_append, List.mem_append, List.mem_singleton, hmem]
    refine ⟨fun h => ?_, fun h => ?_⟩
    · rcases h with h | h
      · exact ⟨.inl h.1, h.2⟩
      · exact ⟨.inr h, by rw [h]; exact hg⟩
    · rcases h.1 with h1 | h1
      · exact .inl ⟨h1, h.2⟩
      · exact .inr h1
theorem ipowN (P : Nat) : ∀ k, ipow (P : Int) k = ((P ^ k : Nat) : Int)
  | 0 => rfl
  | k + 1 => by rw [ipow, ipowN P k, Nat.pow_succ]; push_cast; rfl
def LsV (ok : Prop) (R : List (List Int) → Prop) (z : List (List Int)) (c : Int) : Prop := (¬ ok ∧ z = [] ∧ c = 1) ∨ (ok ∧ R z ∧ c = 0)
theorem LsV.yes {ok : Prop} {R : List (List Int) → Prop} {z : List (List Int)} {c : Int} (h : LsV ok R z c) (g : ok) : R z ∧ c = 0 := by
  rcases h with ⟨h1, _⟩ | ⟨_, h2⟩
  · exact absurd g h1
  · exact h2
theorem LsV.no {ok : Prop} {R : List (List Int) → Prop} {z : List (List Int)} {c : Int} (h : LsV ok R z c) (g : ¬ ok) : z = [] ∧ c = 1 := by
  rcases h with ⟨h1, h2⟩ | ⟨h1, _⟩
  · exact h2
  · exact absurd h1 g
theorem nil_FII : FII (.fz true .nils 0 []) [] := ⟨true, .nils, [], rfl, All2.nil _⟩
theorem SumLie_F (hR : IsR vP vB W B) (szr : SzR W B) (hU : FII vU u) (sz : SzL u) (hV : FII vV v) (szv : SzL v)
    (hk : ∀ w z c, LsV (isLie p W B ∧ isSpan p W u ∧ isSpan p W v) (Canon p W.length W (u ++ v)) z c → FII w z → K (.tup [w, .int .i64 c]) σ) : PCalls Try.prog 14 [.agg [.int .i64 p, vP, vB], vU, vV] σ K := by
  have h1 := hR.P.one
  have h2 := hR.B.one
  refine PCalls.gh ?_
  refine pcalls_of_vp mix Try.func14 cf14 rfl ?_
  dsimp only [if14, qI, eI, nI, qD, eD]
  simp only [pwA, if_true, if_false, eq_self, nm_eq, reduceCtorEq, ↓reduceIte, nQ10, nQ7, nQ11, nQ12, nQ16, nQ17, nQ18, iQ2, iQ3, iQ4, iQ5, iQ6, lQ19, iQ7, lQ20, h1, h2, hU.one, hU.cells, hV.one, hV.cells]
  refine PCalls.frz (s := σ.next + 1) (cs := [vU, vV]) (by simp only [pwA, if_true, if_false, eq_self, nm_eq, reduceCtorEq, ↓reduceIte, nQ10, nQ7, nQ11, nQ12, nQ16, nQ17, nQ18, iQ2, iQ3, iQ4, iQ5, iQ6, lQ19, iQ7, lQ20]) ⟨hU.bel 0, hV.bel 0, trivial⟩ fun o1 => ?_
  have hkp : Keep σ (((σ.new [.int .i64 p, vP, vB]).new [vU, vV]).kill (σ.next + 1)) := ((keep_new σ _).new _).kill (by omega)
  have hp2 : PtrR (((σ.new [.int .i64 p, vP, vB]).new [vU, vV]).kill (σ.next + 1)) σ.next p vP vB := ⟨by simp only [pwA, if_true, if_false, eq_self, nm_eq, reduceCtorEq, ↓reduceIte, nQ10, nQ7, nQ11, nQ12, nQ16, nQ17, nQ18, iQ2, iQ3, iQ4, iQ5, iQ6, lQ19, iQ7, lQ20], by simp only [pwA, if_true, if_false, eq_self, nm_eq, reduceCtorEq, ↓reduceIte, nQ10, nQ7, nQ11, nQ12, nQ16, nQ17, nQ18, iQ2, iQ3, iQ4, iQ5, iQ6, lQ19, iQ7, lQ20]; omega⟩
  generalize ((σ.new [.int .i64 p, vP, vB]).new [vU, vV]).kill (σ.next + 1) = H at *
  simp only [sbs, sb, capOK, and_self, if_true, decide_true, Nat.le_refl]
  refine areLieSpans_ok (us := [u, v]) hp2 hR szr (((All2.nil FII).snoc hU).snoc hV) (by simp) (by simp) (fun x hx => by
    simp only [List.mem_cons, List.not_mem_nil, or_false] at hx
    rcases hx with rfl | rfl
    · exact sz
    · exact szv) fun t ht => ?_
  have ht' : t = true ↔ isLie p W B ∧ isSpan p W u ∧ isSpan p W v := by rw [ht]; simp
  cases t with
  | false =>
    simp only [pwA, if_true, if_false, eq_self, nm_eq, reduceCtorEq, ↓reduceIte, nQ10, nQ7, nQ11, nQ12, nQ16, nQ17, nQ18, iQ2, iQ3, iQ4, iQ5, iQ6, lQ19, iQ7, lQ20]
    exact Gh.fin0 hkp ⟨trivial, trivial, trivial⟩ (hk _ [] 1 (.inl ⟨fun e => (by have := ht'.2 e; cases this), rfl, rfl⟩) nil_FII)
  | true =>
  have hl := ht'.1 rfl
  have o := hl.1.1.w
  have hn6 := o.le
  have hul := hl.2.1.2.len
  have hvl := hl.2.2.2.len
  have hpl := hp2.lt
  have hnx := hkp.next
  simp only [pwA, if_true, if_false, eq_self, nm_eq, reduceCtorEq, ↓reduceIte, nQ10, nQ7, nQ11, nQ12, nQ16, nQ17, nQ18, iQ2, iQ3, iQ4, iQ5, iQ6, lQ19, iQ7, lQ20, hU.one, hU.cells, hV.one, hV.cells]
  refine PCalls.frz (s := H.next) (cs := [vU, vV]) (by simp only [pwA, if_true, if_false, eq_self, nm_eq, reduceCtorEq, ↓reduceIte, nQ10, nQ7, nQ11, nQ12, nQ16, nQ17, nQ18, iQ2, iQ3, iQ4, iQ5, iQ6, lQ19, iQ7, lQ20]) ⟨hU.bel 0, hV.bel 0, trivial⟩ fun o2 => ?_
  have k2 : Keep H ((H.new [vU, vV]).kill H.next) := (keep_new H _).kill (Nat.le_refl _)
  generalize (H.new [vU, vV]).kill H.next = H2 at *
  simp only [sbs, sb, capOK, and_self, if_true, decide_true, Nat.le_refl]
  refine Cat2_ok hU hV (by omega) fun vZ hZ => ?_
  simp only [pwA, if_true, if_false, eq_self, nm_eq, reduceCtorEq, ↓reduceIte, nQ10, nQ7, nQ11, nQ12, nQ16, nQ17, nQ18, iQ2, iQ3, iQ4, iQ5, iQ6, lQ19, iQ7, lQ20]
  refine lieSpan_ok (hp2.keep k2) hR.P o hl.1.1.1 hZ (fun x hx => by
    rcases List.mem_append.1 hx with e | e
    · exact hl.2.1.1 x e
    · exact hl.2.2.1 x e) (by rw [List.length_append]; omega) fun w z c hz => ?_
  simp only [pwA, if_true, if_false, eq_self, nm_eq, reduceCtorEq, ↓reduceIte, nQ10, nQ7, nQ11, nQ12, nQ16, nQ17, nQ18, iQ2, iQ3, iQ4, iQ5, iQ6, lQ19, iQ7, lQ20]
  exact Gh.fin0 (hkp.trans k2) ⟨hz.bel _, trivial, trivial⟩ (hk w z 0 (.inr ⟨hl, c, rfl⟩) hz)
end Go.Proofs
namespace Go.Proofs
open Go.Ab Go.Lie
variable {σ : PHeap} {K : PV → PHeap → Prop} {p : Int} {n : Nat} {W : List (List Int)} {B : List (List (List Int))} {vP vB vL vU vV vX : PV} {s : Nat} {u v gens : List (List Int)} {id : Prop}
theorem l01Same2_ok {xs ys : List (List Int)} (hU : FII vU xs) (hV : FII vV ys) (hx : xs.length ≤ 1048576) (hxl : ∀ x ∈ xs, x.length ≤ 1048576) (hk : ∀ t : Bool, (t = true ↔ xs = ys) → K (.bool t) σ) : PCalls Try.prog 112 [vU, vV] σ K := by
  have fl : ∀ {A : Prop}, ¬ A → ((false = true) ↔ A) := fun h => ⟨fun x => (by cases x), fun x => absurd x h⟩
  obtain ⟨wA, aA, rA, rfl, hrA⟩ := hU
  obtain ⟨wB, aB, rB, rfl, hrB⟩ := hV
  refine pcalls_of_vp mix Try.func112 cf112 rfl ?_
  dsimp only [if112, qI, eI, nI, qD, eD]
  by_cases hl : xs.length = ys.length
  rotate_left
  · have hl' : ¬ (xs.length : Int) = (ys.length : Int) := by omega
    simp only [pwA, if_true, if_false, eq_self, nm_eq, reduceCtorEq, ↓reduceIte, nQ10, nQ7, nQ11, nQ12, nQ16, nQ17, nQ18, iQ2, iQ3, iQ4, iQ5, iQ6, lQ19, iQ7, lQ20, hl']
    exact hk _ (fl fun h => hl (by rw [h]))
  have hl' : (xs.length : Int) = (ys.length : Int) := by omega
  simp only [pwA, if_true, if_false, eq_self, nm_eq, reduceCtorEq, ↓reduceIte, nQ10, nQ7, nQ11, nQ12, nQ16, nQ17, nQ18, iQ2, iQ3, iQ4, iQ5, iQ6, lQ19, iQ7, lQ20, eq_true hl']
  refine vp_loop (fun m vs h' => ∃ i : Nat, i ≤ xs.length ∧ m = xs.length - i ∧ vs = [.fz wA aA xs.length rA, .fz wB aB ys.length rB, .int .i64 i] ∧ σ = h' ∧ xs.take i = ys.take i) xs.length ?_ ?_
  · exact ⟨0, by omega, by omega, rfl, rfl, rfl⟩
  rintro m vs h' ⟨i, hi, rfl, rfl, rfl, heq⟩
  simp only [pwA, if_true, if_false, eq_self, nm_eq, reduceCtorEq, ↓reduceIte, nQ10, nQ7, nQ11, nQ12, nQ16, nQ17, nQ18, iQ2, iQ3, iQ4, iQ5, iQ6, lQ19, iQ7, lQ20]
  refine iteI (fun hlt => ?_) fun hge => ?_
  rotate_left
  · have hie : i = xs.length := by omega
    subst hie
    rw [List.take_length, hl, List.take_length] at heq
    exact hk _ ⟨fun _ => heq, fun _ => rfl⟩
  have hlt2 : i < ys.length := by omega
  obtain ⟨w4, a4, hr⟩ := hrA.rowI hlt
  obtain ⟨w5, a5, hr2⟩ := hrB.rowI hlt2
  have hb := hxl _ (List.getElem_mem hlt)
  simp only [pwA, if_true, if_false, eq_self, nm_eq, reduceCtorEq, ↓reduceIte, nQ10, nQ7, nQ11, nQ12, nQ16, nQ17, nQ18, iQ2, iQ3, iQ4, iQ5, iQ6, lQ19, iQ7, lQ20, hlt, hlt2, hr, hr2]
  refine l01Same_ok rfl rfl (by omega) ?_
  by_cases he : xs[i] = ys[i]
  · simp only [pwA, if_true, if_false, eq_self, nm_eq, reduceCtorEq, ↓reduceIte, nQ10, nQ7, nQ11, nQ12, nQ16, nQ17, nQ18, iQ2, iQ3, iQ4, iQ5, iQ6, lQ19, iQ7, lQ20, he, wrapS hlt (by omega : xs.length ≤ 4611686018427387904)]
    refine ⟨_, by omega, i + 1, by omega, rfl, rfl, ?_⟩
    rw [List.take_succ_eq_append_getElem hlt, List.take_succ_eq_append_getElem hlt2, heq, he]
  · simp only [pwA, if_true, if_false, eq_self, nm_eq, reduceCtorEq, ↓reduceIte, nQ10, nQ7, nQ11, nQ12, nQ16, nQ17, nQ18, iQ2, iQ3, iQ4, iQ5, iQ6, lQ19, iQ7, lQ20, he]
    refine hk _ (fl fun h => he ?_)
    subst h; rfl
theorem IsLieSpan_S (hR : IsR vP vB W B) (szr : SzR W B) (hU : FII vU u) (sz : SzL u) (hk : ∀ t : Bool, (t = true ↔ isLie p W B ∧ isSpan p W u) → K (.bool t) σ) : PCalls Try.prog 51 [.agg [.int .i64 p, vP, vB], vU] σ K := by
  have fl : ∀ {A : Prop}, ¬ A → ((false = true) ↔ A) := fun h => ⟨fun x => (by cases x), fun x => absurd x h⟩
  have h1 := hR.P.one
  have h2 := hR.B.one
  have hRR := hR
  obtain ⟨⟨wp, ap, rp, rfl, hrp⟩, hB⟩ := hR
  obtain ⟨wu, au, ru, rfl, hru⟩ := hU
  have hU : FII (.fz wu au u.length ru) u := ⟨wu, au, ru, rfl, hru⟩
  refine PCalls.gh ?_
  refine pcalls_of_vp mix Try.func51 cf51 rfl ?_
  dsimp only [if51, qI, eI, nI, qD, eD]
  simp only [pwA, if_true, if_false, eq_self, nm_eq, reduceCtorEq, ↓reduceIte, nQ10, nQ7, nQ11, nQ12, nQ16, nQ17, nQ18, iQ2, iQ3, iQ4, iQ5, iQ6, lQ19, iQ7, lQ20, h1, h2]
  have hkp : Keep σ (σ.new [.int .i64 p, .fz wp ap W.length rp, vB]) := keep_new σ _
  have hr3 : (σ.new [.int .i64 p, .fz wp ap W.length rp, vB]).rd σ.next 0 3 = some [.int .i64 p, .fz wp ap W.length rp, vB] := by simp only [pwA, if_true, if_false, eq_self, nm_eq, reduceCtorEq, ↓reduceIte, nQ10, nQ7, nQ11, nQ12, nQ16, nQ17, nQ18, iQ2, iQ3, iQ4, iQ5, iQ6, lQ19, iQ7, lQ20]
  have hr1 : (σ.new [.int .i64 p, .fz wp ap W.length rp, vB]).rd1 σ.next 1 = some (.fz wp ap W.length rp) := by simp only [pwA, if_true, if_false, eq_self, nm_eq, reduceCtorEq, ↓reduceIte, nQ10, nQ7, nQ11, nQ12, nQ16, nQ17, nQ18, iQ2, iQ3, iQ4, iQ5, iQ6, lQ19, iQ7, lQ20]
  generalize σ.new [.int .i64 p, .fz wp ap W.length rp, vB] = H at *
  refine l31Ring_ok hRR szr fun t ht => ?_
  cases t with
  | false =>
    simp only [pwA, if_true, if_false, eq_self, nm_eq, reduceCtorEq, ↓reduceIte, nQ10, nQ7, nQ11, nQ12, nQ16, nQ17, nQ18, iQ2, iQ3, iQ4, iQ5, iQ6, lQ19, iQ7, lQ20, hr3, hr1]
    exact Gh.fin0 hkp trivial (hk _ (fl fun x => by have := ht.2 x.1; cases this))
  | true =>
  have hl := ht.1 rfl
  have o := hl.1.w
  have hn6 := o.le
  by_cases hle : u.length ≤ W.length
  rotate_left
  · have hle' : ¬ (u.length : Int) ≤ (W.length : Int) := by omega
    simp only [pwA, if_true, if_false, eq_self, nm_eq, reduceCtorEq, ↓reduceIte, nQ10, nQ7, nQ11, nQ12, nQ16, nQ17, nQ18, iQ2, iQ3, iQ4, iQ5, iQ6, lQ19, iQ7, lQ20, hr3, hr1, hle', hle, decide_false]
    exact Gh.fin0 hkp trivial (hk _ (fl fun x => hle x.2.2.len))
  have hle' : (u.length : Int) ≤ (W.length : Int) := by omega
  simp only [pwA, if_true, if_false, eq_self, nm_eq, reduceCtorEq, ↓reduceIte, nQ10, nQ7, nQ11, nQ12, nQ16, nQ17, nQ18, iQ2, iQ3, iQ4, iQ5, iQ6, lQ19, iQ7, lQ20, hr3, hr1, hle', hle, decide_true]
  refine l32Elements_ok hRR hU sz o.pr fun t ht2 => ?_
  cases t with
  | false =>
    simp only [pwA, if_true, if_false, eq_self, nm_eq, reduceCtorEq, ↓reduceIte, nQ10, nQ7, nQ11, nQ12, nQ16, nQ17, nQ18, iQ2, iQ3, iQ4, iQ5, iQ6, lQ19, iQ7, lQ20, hr3]
    exact Gh.fin0 hkp trivial (hk _ (fl fun x => by have := ht2.2 x.2.1; cases this))
  | true =>
  have he := ht2.1 rfl
  simp only [pwA, if_true, if_false, eq_self, nm_eq, reduceCtorEq, ↓reduceIte, nQ10, nQ7, nQ11, nQ12, nQ16, nQ17, nQ18, iQ2, iQ3, iQ4, iQ5, iQ6, lQ19, iQ7, lQ20, hr3]
  refine l32Span_ok hRR o hl.1.1 hU he sz.l fun vO out c hO => ?_
  simp only [pwA, if_true, if_false, eq_self, nm_eq, reduceCtorEq, ↓reduceIte, nQ10, nQ7, nQ11, nQ12, nQ16, nQ17, nQ18, iQ2, iQ3, iQ4, iQ5, iQ6, lQ19, iQ7, lQ20]
  refine l01Same2_ok hU hO sz.l sz.r fun t ht3 => ?_
  simp only [pwA, if_true, if_false, eq_self, nm_eq, reduceCtorEq, ↓reduceIte, nQ10, nQ7, nQ11, nQ12, nQ16, nQ17, nQ18, iQ2, iQ3, iQ4, iQ5, iQ6, lQ19, iQ7, lQ20]
  refine Gh.fin0 hkp trivial (hk _ (ht3.trans ⟨fun e => ⟨hl, he, by rw [← e] at c; exact c⟩, fun x => x.2.2.unique o c⟩))
theorem l32In_ok {x : List Int} (hR : IsR vP vB W B) (o : OkW p n W) (hU : FII vU u) (hb : Base p n W u) (hx : FI vX x) (ex : El p n x) (hk : ∀ t : Bool, (t = true ↔ Gen p n W u (at_ x)) → K (.bool t) σ) : PCalls Try.prog 59 [.agg [.int .i64 p, vP, vB], vU, vX] σ K := by
  have h1 := hR.P.one
  have h2 := hR.B.one
  have hn6 := o.le
  have hul : u.length ≤ n := asc_length (fun v hv => (hb.led v hv).2.1) hb.asc
  obtain ⟨wx, ax, rfl⟩ := hx
  refine PCalls.gh ?_
  refine pcalls_of_vp mix Try.func59 cf59 rfl ?_
  dsimp only [if59, qI, eI, nI, qD, eD]
  simp only [pwA, if_true, if_false, eq_self, nm_eq, reduceCtorEq, ↓reduceIte, nQ10, nQ7, nQ11, nQ12, nQ16, nQ17, nQ18, iQ2, iQ3, iQ4, iQ5, iQ6, lQ19, iQ7, lQ20, h1, h2]
  have hkp : Keep σ (σ.new [.int .i64 p, vP, vB]) := keep_new σ _
  generalize σ.new [.int .i64 p, vP, vB] = H at *
  refine l32Reduce_ok hR o hU (fun v hv => ⟨(hb.led v hv).1, (hb.led v hv).2.1⟩) (by omega) ex rfl fun v1 => ?_
  have hrl := (redL_el o hb.els ex).1
  have hin := redL_in o hb ex
  simp only [pwA, if_true, if_false, eq_self, nm_eq, reduceCtorEq, ↓reduceIte, nQ10, nQ7, nQ11, nQ12, nQ16, nQ17, nQ18, iQ2, iQ3, iQ4, iQ5, iQ6, lQ19, iQ7, lQ20]
  refine l01Zero_ok hrl.symm (by omega) ?_
  simp only [pwA, if_true, if_false, eq_self, nm_eq, reduceCtorEq, ↓reduceIte, nQ10, nQ7, nQ11, nQ12, nQ16, nQ17, nQ18, iQ2, iQ3, iQ4, iQ5, iQ6, lQ19, iQ7, lQ20]
  refine Gh.fin0 hkp trivial (hk _ ?_)
  rw [decide_eq_true_eq, ← hin]
  exact ⟨fun h j => isZ_at h j, fun h => isZ_of h⟩
theorem l32Grown_ok (hR : IsR vP vB W B) (o : OkW p n W) (hp : isP p) (hU : FII vU u) (hV : FII vV v) (eu : Els p n u) (ev : Els p n v) (hl : u.length + v.length ≤ 1048576)
    (hk : ∀ z out, Canon p n W (u ++ v) out → FII z out → K z σ) : PCalls Try.prog 52 [.agg [.int .i64 p, vP, vB], vU, vV] σ K := by
  have h1 := hR.P.one
  have h2 := hR.B.one
  obtain ⟨wu, au, ru, rfl, hru⟩ := hU
  obtain ⟨wv, av, rv, rfl, hrv⟩ := hV
  refine PCalls.gh ?_
  refine pcalls_of_vp mix Try.func52 cf52 rfl ?_
  dsimp only [if52, qI, eI, nI, qD, eD]
  simp only [pwA, if_true, if_false, eq_self, nm_eq, reduceCtorEq, ↓reduceIte, nQ10, nQ7, nQ11, nQ12, nQ16, nQ17, nQ18, iQ2, iQ3, iQ4, iQ5, iQ6, lQ19, iQ7, lQ20, h1, h2]
  generalize hH : σ.new [.int .i64 p, vP, vB] = H
  have hHn : H.next = σ.next + 1 := by rw [← hH]; rfl
  have hHk : Keep σ H := by rw [← hH]; exact keep_new σ _
  have hob : H.obj σ.next = some [.int .i64 p, vP, vB] := by rw [← hH]; simp only [pwA, if_true, if_false, eq_self, nm_eq, reduceCtorEq, ↓reduceIte, nQ10, nQ7, nQ11, nQ12, nQ16, nQ17, nQ18, iQ2, iQ3, iQ4, iQ5, iQ6, lQ19, iQ7, lQ20]
  refine PSl.cat (bytes := 24) (σb := H) (n := 0) (cs := []) (keep_new H _) (by rw [← hHn]; exact PSl.new _ 1 rfl (Nat.le_refl _)) hru.1 (by omega) (by omega) fun v1 g1 k1 a1 => ?_
  rw [Nat.zero_add, List.nil_append] at a1
  have hr31 : g1.rd σ.next 0 3 = some [.int .i64 p, vP, vB] := by rw [obj_rd (show g1.obj σ.next = some _ by rw [k1.obj _ (by omega)]; exact hob)]; rfl
  simp only [pwA, if_true, if_false, eq_self, nm_eq, reduceCtorEq, ↓reduceIte, nQ10, nQ7, nQ11, nQ12, nQ16, nQ17, nQ18, iQ2, iQ3, iQ4, iQ5, iQ6, lQ19, iQ7, lQ20, hr31]
  refine PSl.cat (bytes := 24) (σb := H) k1 a1 hrv.1 (by omega) (by omega) fun v2 g2 k2 a2 => ?_
  obtain ⟨t, cap, rfl, hc, q2, q3, q4, q5⟩ := a2
  have hr3 : g2.rd σ.next 0 3 = some [.int .i64 p, vP, vB] := by rw [obj_rd (show g2.obj σ.next = some _ by rw [k2.obj _ (by omega)]; exact hob)]; rfl
  have hrow := hru.append hrv
  simp only [pwA, if_true, if_false, eq_self, nm_eq, reduceCtorEq, ↓reduceIte, nQ10, nQ7, nQ11, nQ12, nQ16, nQ17, nQ18, iQ2, iQ3, iQ4, iQ5, iQ6, lQ19, iQ7, lQ20, hr3]
  refine PCalls.frz q2 (hrow.bI 0) fun o1 => ?_
  have e1 := hR.P.sb t o1 (ru ++ rv)
  have e2 := hR.B.sb t o1 (ru ++ rv)
  simp only [sbs, sb, hc.ok, and_self, if_true, e1, e2]
  refine l32Span_ok hR o hp ⟨true, _, _, by rw [List.length_append], hrow⟩ (fun x hx => by
    rcases List.mem_append.1 hx with e | e
    · exact eu x e
    · exact ev x e) (by rw [List.length_append]; omega) fun z out c hz => ?_
  simp only [pwA, if_true, if_false, eq_self, nm_eq, reduceCtorEq, ↓reduceIte, nQ10, nQ7, nQ11, nQ12, nQ16, nQ17, nQ18, iQ2, iQ3, iQ4, iQ5, iQ6, lQ19, iQ7, lQ20]
  exact Gh.fin0 ((hHk.trans k2).kill (by omega)) (hz.bel _) (hk z out c hz)
theorem l32Ring_ok (hR : IsR vP vB W B) (o : OkW p n W) (q : OkB p n B) (nf : NoFault p W B n) (hp : isP p) (hL : FII vL gens) (he : Els p n gens) (hgl : gens.length ≤ 1048576)
    (hk : ∀ v u, ClsOf p n W B False gens u → FII v u → K v σ) : PCalls Try.prog 153 [.agg [.int .i64 p, vP, vB], vL] σ K := by
  have h1 := hR.P.one
  have h2 := hR.B.one
  have hn6 := o.le
  refine PCalls.gh ?_
  refine pcalls_of_vp mix Try.func153 cf153 rfl ?_
  dsimp only [if153, qI, eI, nI, qD, eD]
  simp only [pwA, if_true, if_false, eq_self, nm_eq, reduceCtorEq, ↓reduceIte, nQ10, nQ7, nQ11, nQ12, nQ16, nQ17, nQ18, iQ2, iQ3, iQ4, iQ5, iQ6, lQ19, iQ7, lQ20, h1, h2]
  have hkp : Keep σ (σ.new [.int .i64 p, vP, vB]) := keep_new σ _
  have hr3 : (σ.new [.int .i64 p, vP, vB]).rd σ.next 0 3 = some [.int .i64 p, vP, vB] := by simp only [pwA, if_true, if_false, eq_self, nm_eq, reduceCtorEq, ↓reduceIte, nQ10, nQ7, nQ11, nQ12, nQ16, nQ17, nQ18, iQ2, iQ3, iQ4, iQ5, iQ6, lQ19, iQ7, lQ20]
  generalize σ.new [.int .i64 p, vP, vB] = H at *
  refine l32Span_ok hR o hp hL he hgl fun vU u c hU => ?_
  simp only [pwA, if_true, if_false, eq_self, nm_eq, reduceCtorEq, ↓reduceIte, nQ10, nQ7, nQ11, nQ12, nQ16, nQ17, nQ18, iQ2, iQ3, iQ4, iQ5, iQ6, lQ19, iQ7, lQ20]
  refine vp_loop (fun m us h => ∃ vU u, m = n - u.length ∧ us = [.ptr σ.next 0, vU] ∧ H = h ∧ FII vU u ∧ Grw p n W B False gens u) (n - u.length) ⟨vU, u, rfl, rfl, rfl, hU, Grw.start c⟩ ?_
  clear c hU u vU
  rintro m us h ⟨vU, u, rfl, rfl, rfl, hU, hg⟩
  have hul := hg.len o
  have eu := hg.base.els
  simp only [pwA, if_true, if_false, eq_self, nm_eq, reduceCtorEq, ↓reduceIte, nQ10, nQ7, nQ11, nQ12, nQ16, nQ17, nQ18, iQ2, iQ3, iQ4, iQ5, iQ6, lQ19, iQ7, lQ20, hr3]
  refine l32Brackets_ok hR o q hp hU hU eu eu (by omega) (by omega) fun vY y cy hY => ?_
  have hyl := cy.len
  simp only [pwA, if_true, if_false, eq_self, nm_eq, reduceCtorEq, ↓reduceIte, nQ10, nQ7, nQ11, nQ12, nQ16, nQ17, nQ18, iQ2, iQ3, iQ4, iQ5, iQ6, lQ19, iQ7, lQ20, hr3]
  refine l32Grown_ok hR o hp hU hY eu cy.els (by omega) fun vO out c hO => ?_
  have r := rnd_spec o q nf (.inr ⟨fun h => h, rfl⟩) cy c
  have hol := c.len
  obtain ⟨wo, ao, ro, rfl, hro⟩ := hO
  obtain ⟨wu, au, ru, rfl, hru⟩ := hU
  by_cases hlen : out.length = u.length
  · have hlen' : (out.length : Int) = (u.length : Int) := by omega
    simp only [pwA, if_true, if_false, eq_self, nm_eq, reduceCtorEq, ↓reduceIte, nQ10, nQ7, nQ11, nQ12, nQ16, nQ17, nQ18, iQ2, iQ3, iQ4, iQ5, iQ6, lQ19, iQ7, lQ20, hlen', hlen, decide_true]
    exact Gh.fin0 hkp trivial (hk _ u (hg.done o r (by omega)) ⟨wu, au, ru, rfl, hru⟩)
  · have hlen' : ¬ (out.length : Int) = (u.length : Int) := by omega
    have hless := hg.less o r hlen
    simp only [pwA, if_true, if_false, eq_self, nm_eq, reduceCtorEq, ↓reduceIte, nQ10, nQ7, nQ11, nQ12, nQ16, nQ17, nQ18, iQ2, iQ3, iQ4, iQ5, iQ6, lQ19, iQ7, lQ20, hlen', hlen, decide_false]
    exact ⟨n - out.length, by omega, _, out, rfl, rfl, ⟨wo, ao, ro, rfl, hro⟩, hg.next r⟩
theorem l32Ideal_ok (hR : IsR vP vB W B) (o : OkW p n W) (q : OkB p n B) (nf : NoFault p W B n) (hp : isP p) (hL : FII vL gens) (he : Els p n gens) (hgl : gens.length ≤ 1048576)
    (hk : ∀ v u, ClsOf p n W B True gens u → FII v u → K v σ) : PCalls Try.prog 155 [.agg [.int .i64 p, vP, vB], vL] σ K := by
  have h1 := hR.P.one
  have h2 := hR.B.one
  have hn6 := o.le
  refine PCalls.gh ?_
  refine pcalls_of_vp mix Try.func155 cf155 rfl ?_
  dsimp only [if155, qI, eI, nI, qD, eD]
  simp only [pwA, if_true, if_false, eq_self, nm_eq, reduceCtorEq, ↓reduceIte, nQ10, nQ7, nQ11, nQ12, nQ16, nQ17, nQ18, iQ2, iQ3, iQ4, iQ5, iQ6, lQ19, iQ7, lQ20, h1, h2]
  have hkp : Keep σ (σ.new [.int .i64 p, vP, vB]) := keep_new σ _
  have hr3 : (σ.new [.int .i64 p, vP, vB]).rd σ.next 0 3 = some [.int .i64 p, vP, vB] := by simp only [pwA, if_true, if_false, eq_self, nm_eq, reduceCtorEq, ↓reduceIte, nQ10, nQ7, nQ11, nQ12, nQ16, nQ17, nQ18, iQ2, iQ3, iQ4, iQ5, iQ6, lQ19, iQ7, lQ20]
  generalize σ.new [.int .i64 p, vP, vB] = H at *
  refine l32Span_ok hR o hp hL he hgl fun vU u c hU => ?_
  simp only [pwA, if_true, if_false, eq_self, nm_eq, reduceCtorEq, ↓reduceIte, nQ10, nQ7, nQ11, nQ12, nQ16, nQ17, nQ18, iQ2, iQ3, iQ4, iQ5, iQ6, lQ19, iQ7, lQ20]
  refine vp_loop (fun m us h => ∃ vU u, m = n - u.length ∧ us = [.ptr σ.next 0, vU] ∧ H = h ∧ FII vU u ∧ Grw p n W B True gens u) (n - u.length) ⟨vU, u, rfl, rfl, rfl, hU, Grw.start c⟩ ?_
  clear c hU u vU
  rintro m us h ⟨vU, u, rfl, rfl, rfl, hU, hg⟩
  have hul := hg.len o
  have eu := hg.base.els
  simp only [pwA, if_true, if_false, eq_self, nm_eq, reduceCtorEq, ↓reduceIte, nQ10, nQ7, nQ11, nQ12, nQ16, nQ17, nQ18, iQ2, iQ3, iQ4, iQ5, iQ6, lQ19, iQ7, lQ20, hr3]
  refine l32Whole_ok hR o.len (by omega) fun vW hW => ?_
  simp only [pwA, if_true, if_false, eq_self, nm_eq, reduceCtorEq, ↓reduceIte, nQ10, nQ7, nQ11, nQ12, nQ16, nQ17, nQ18, iQ2, iQ3, iQ4, iQ5, iQ6, lQ19, iQ7, lQ20, hr3]
  refine l32Brackets_ok hR o q hp hU hW eu (units_els o.pr) (by omega) (by rw [units_length]; omega) fun vY y cy hY => ?_
  have hyl := cy.len
  simp only [pwA, if_true, if_false, eq_self, nm_eq, reduceCtorEq, ↓reduceIte, nQ10, nQ7, nQ11, nQ12, nQ16, nQ17, nQ18, iQ2, iQ3, iQ4, iQ5, iQ6, lQ19, iQ7, lQ20, hr3]
  refine l32Grown_ok hR o hp hU hY eu cy.els (by omega) fun vO out c hO => ?_
  have r := rnd_spec o q nf (.inl ⟨trivial, rfl⟩) cy c
  have hol := c.len
  obtain ⟨wo, ao, ro, rfl, hro⟩ := hO
  obtain ⟨wu, au, ru, rfl, hru⟩ := hU
  by_cases hlen : out.length = u.length
  · have hlen' : (out.length : Int) = (u.length : Int) := by omega
    simp only [pwA, if_true, if_false, eq_self, nm_eq, reduceCtorEq, ↓reduceIte, nQ10, nQ7, nQ11, nQ12, nQ16, nQ17, nQ18, iQ2, iQ3, iQ4, iQ5, iQ6, lQ19, iQ7, lQ20, hlen', hlen, decide_true]
    exact Gh.fin0 hkp trivial (hk _ u (hg.done o r (by omega)) ⟨wu, au, ru, rfl, hru⟩)
  · have hlen' : ¬ (out.length : Int) = (u.length : Int) := by omega
    have hless := hg.less o r hlen
    simp only [pwA, if_true, if_false, eq_self, nm_eq, reduceCtorEq, ↓reduceIte, nQ10, nQ7, nQ11, nQ12, nQ16, nQ17, nQ18, iQ2, iQ3, iQ4, iQ5, iQ6, lQ19, iQ7, lQ20, hlen', hlen, decide_false]
    exact ⟨n - out.length, by omega, _, out, rfl, rfl, ⟨wo, ao, ro, rfl, hro⟩, hg.next r⟩
end Go.Proofs
namespace Go.Proofs
open Go.Ab Go.Lie
variable {σ : PHeap} {K : PV → PHeap → Prop} {p : Int} {n : Nat} {W : List (List Int)} {B : List (List (List Int))} {vP vB vL vU vV vX : PV} {s : Nat} {u v gens c d : List (List Int)} {id : Prop}
theorem finT {σ0 σ1 : PHeap} {s l : Nat} {cap : Cap} {cs : List PV} {kk : IntKind} {r : Int} (hk : Keep σ0 σ1) (hs : σ1.obj s = some cs) (h0 : σ0.next ≤ s) (hb : Bels 0 cs) (hcap : capOK cap l = true)
    (k : ∀ o, K (.tup [.fz true (.sl o 0 l cap) l cs, .int kk r]) σ0) : Gh σ0 K (.tup [.sl s 0 l cap, .int kk r]) σ1 :=
  Gh.freeze hs h0 hb fun o h1 hc _ => by
    simp only [sb, sbs]
    rw [if_pos ⟨trivial, trivial, hcap⟩]
    exact Gh.fin0 ((hk.kill h0).up (by simp only [PHeap.kill]; omega)) ⟨trivial, trivial, trivial⟩ (k o)
theorem SumLie_S (hR : IsR vP vB W B) (szr : SzR W B) (hU : FII vU u) (sz : SzL u) (hV : FII vV v) (szv : SzL v)
    (hk : ∀ w z c, LsV (isLie p W B ∧ isSpan p W u ∧ isSpan p W v) (Canon p W.length W (u ++ v)) z c → FII w z → K (.tup [w, .int .i64 c]) σ) : PCalls Try.prog 15 [.agg [.int .i64 p, vP, vB], vU, vV] σ K := by
  have h1 := hR.P.one
  have h2 := hR.B.one
  refine PCalls.gh ?_
  refine pcalls_of_vp mix Try.func15 cf15 rfl ?_
  dsimp only [if15, qI, eI, nI, qD, eD]
  simp only [pwA, if_true, if_false, eq_self, nm_eq, reduceCtorEq, ↓reduceIte, nQ10, nQ7, nQ11, nQ12, nQ16, nQ17, nQ18, iQ2, iQ3, iQ4, iQ5, iQ6, lQ19, iQ7, lQ20, h1, h2]
  have hkp : Keep σ (σ.new [.int .i64 p, vP, vB]) := keep_new σ _
  have hr3 : (σ.new [.int .i64 p, vP, vB]).rd σ.next 0 3 = some [.int .i64 p, vP, vB] := by simp only [pwA, if_true, if_false, eq_self, nm_eq, reduceCtorEq, ↓reduceIte, nQ10, nQ7, nQ11, nQ12, nQ16, nQ17, nQ18, iQ2, iQ3, iQ4, iQ5, iQ6, lQ19, iQ7, lQ20]
  generalize σ.new [.int .i64 p, vP, vB] = H at *
  have bad : ¬ (isLie p W B ∧ isSpan p W u ∧ isSpan p W v) → Gh σ K (.tup [.fz true .nils 0 [], .int .i64 1]) H := fun e => Gh.fin0 hkp ⟨trivial, trivial, trivial⟩ (hk _ [] 1 (.inl ⟨e, rfl, rfl⟩) nil_FII)
  refine IsLieSpan_S hR szr hU sz fun t ht => ?_
  cases t with
  | false =>
    simp only [pwA, if_true, if_false, eq_self, nm_eq, reduceCtorEq, ↓reduceIte, nQ10, nQ7, nQ11, nQ12, nQ16, nQ17, nQ18, iQ2, iQ3, iQ4, iQ5, iQ6, lQ19, iQ7, lQ20, hr3]
    exact bad fun e => (by have := ht.2 ⟨e.1, e.2.1⟩; cases this)
  | true =>
  have hl := ht.1 rfl
  simp only [pwA, if_true, if_false, eq_self, nm_eq, reduceCtorEq, ↓reduceIte, nQ10, nQ7, nQ11, nQ12, nQ16, nQ17, nQ18, iQ2, iQ3, iQ4, iQ5, iQ6, lQ19, iQ7, lQ20, hr3]
  refine IsLieSpan_S hR szr hV szv fun t ht2 => ?_
  cases t with
  | false =>
    simp only [pwA, if_true, if_false, eq_self, nm_eq, reduceCtorEq, ↓reduceIte, nQ10, nQ7, nQ11, nQ12, nQ16, nQ17, nQ18, iQ2, iQ3, iQ4, iQ5, iQ6, lQ19, iQ7, lQ20, hr3]
    exact bad fun e => (by have := ht2.2 ⟨e.1, e.2.2⟩; cases this)
  | true =>
  have hl2 := ht2.1 rfl
  have hul := hl.2.2.len
  have hvl := hl2.2.2.len
  have hn6 := hl.1.1.w.le
  simp only [pwA, if_true, if_false, eq_self, nm_eq, reduceCtorEq, ↓reduceIte, nQ10, nQ7, nQ11, nQ12, nQ16, nQ17, nQ18, iQ2, iQ3, iQ4, iQ5, iQ6, lQ19, iQ7, lQ20, hr3]
  refine l32Grown_ok hR hl.1.1.w hl.1.1.1 hU hV hl.2.1 hl2.2.1 (by omega) fun w z c hz => ?_
  simp only [pwA, if_true, if_false, eq_self, nm_eq, reduceCtorEq, ↓reduceIte, nQ10, nQ7, nQ11, nQ12, nQ16, nQ17, nQ18, iQ2, iQ3, iQ4, iQ5, iQ6, lQ19, iQ7, lQ20]
  exact Gh.fin0 hkp ⟨hz.bel _, trivial, trivial⟩ (hk w z 0 (.inr ⟨⟨hl.1, hl.2, hl2.2⟩, c, rfl⟩) hz)
theorem IsLieSpan_F (hR : IsR vP vB W B) (szr : SzR W B) (hU : FII vU u) (sz : SzL u) (hk : ∀ t : Bool, (t = true ↔ isLie p W B ∧ isSpan p W u) → K (.bool t) σ) : PCalls Try.prog 19 [.agg [.int .i64 p, vP, vB], vU] σ K := by
  have h1 := hR.P.one
  have h2 := hR.B.one
  refine PCalls.gh ?_
  refine pcalls_of_vp mix Try.func19 cf19 rfl ?_
  dsimp only [if19, qI, eI, nI, qD, eD]
  simp only [pwA, if_true, if_false, eq_self, nm_eq, reduceCtorEq, ↓reduceIte, nQ10, nQ7, nQ11, nQ12, nQ16, nQ17, nQ18, iQ2, iQ3, iQ4, iQ5, iQ6, lQ19, iQ7, lQ20, h1, h2, hU.one, hU.cells]
  refine PCalls.frz (s := σ.next + 1) (cs := [vU]) (by simp only [pwA, if_true, if_false, eq_self, nm_eq, reduceCtorEq, ↓reduceIte, nQ10, nQ7, nQ11, nQ12, nQ16, nQ17, nQ18, iQ2, iQ3, iQ4, iQ5, iQ6, lQ19, iQ7, lQ20]) ⟨hU.bel 0, trivial⟩ fun o1 => ?_
  have hkp : Keep σ (((σ.new [.int .i64 p, vP, vB]).new [vU]).kill (σ.next + 1)) := ((keep_new σ _).new _).kill (by omega)
  have hp2 : PtrR (((σ.new [.int .i64 p, vP, vB]).new [vU]).kill (σ.next + 1)) σ.next p vP vB := ⟨by simp only [pwA, if_true, if_false, eq_self, nm_eq, reduceCtorEq, ↓reduceIte, nQ10, nQ7, nQ11, nQ12, nQ16, nQ17, nQ18, iQ2, iQ3, iQ4, iQ5, iQ6, lQ19, iQ7, lQ20], by simp only [pwA, if_true, if_false, eq_self, nm_eq, reduceCtorEq, ↓reduceIte, nQ10, nQ7, nQ11, nQ12, nQ16, nQ17, nQ18, iQ2, iQ3, iQ4, iQ5, iQ6, lQ19, iQ7, lQ20]; omega⟩
  generalize ((σ.new [.int .i64 p, vP, vB]).new [vU]).kill (σ.next + 1) = H at *
  simp only [sbs, sb, capOK, and_self, if_true, decide_true, Nat.le_refl]
  refine areLieSpans_ok (us := [u]) hp2 hR szr ((All2.nil FII).snoc hU) (by simp) (by simp) (fun x hx => by rw [List.mem_singleton.1 hx]; exact sz) fun t ht => ?_
  have ht' : t = true ↔ isLie p W B ∧ isSpan p W u := by rw [ht]; simp
  simp only [pwA, if_true, if_false, eq_self, nm_eq, reduceCtorEq, ↓reduceIte, nQ10, nQ7, nQ11, nQ12, nQ16, nQ17, nQ18, iQ2, iQ3, iQ4, iQ5, iQ6, lQ19, iQ7, lQ20]
  exact Gh.fin0 hkp trivial (hk t ht')
theorem LieSpan_F (hR : IsR vP vB W B) (szr : SzR W B) (hL : FII vL gens) (sz : SzL gens)
    (hk : ∀ v z c, LsV (isLie p W B ∧ Els p W.length gens) (Canon p W.length W gens) z c → FII v z → K (.tup [v, .int .i64 c]) σ) : PCalls Try.prog 20 [.agg [.int .i64 p, vP, vB], vL] σ K := by
  have h1 := hR.P.one
  have h2 := hR.B.one
  refine PCalls.gh ?_
  refine pcalls_of_vp mix Try.func20 cf20 rfl ?_
  dsimp only [if20, qI, eI, nI, qD, eD]
  simp only [pwA, if_true, if_false, eq_self, nm_eq, reduceCtorEq, ↓reduceIte, nQ10, nQ7, nQ11, nQ12, nQ16, nQ17, nQ18, iQ2, iQ3, iQ4, iQ5, iQ6, lQ19, iQ7, lQ20, h1, h2]
  have hkp : Keep σ (σ.new [.int .i64 p, vP, vB]) := keep_new σ _
  have hp2 : PtrR (σ.new [.int .i64 p, vP, vB]) σ.next p vP vB := ⟨by simp only [pwA, if_true, if_false, eq_self, nm_eq, reduceCtorEq, ↓reduceIte, nQ10, nQ7, nQ11, nQ12, nQ16, nQ17, nQ18, iQ2, iQ3, iQ4, iQ5, iQ6, lQ19, iQ7, lQ20], Nat.lt_succ_self _⟩
  generalize σ.new [.int .i64 p, vP, vB] = H at *
  refine lieElements_ok hp2 hR szr hL sz fun t ht => ?_
  cases t with
  | false =>
    simp only [pwA, if_true, if_false, eq_self, nm_eq, reduceCtorEq, ↓reduceIte, nQ10, nQ7, nQ11, nQ12, nQ16, nQ17, nQ18, iQ2, iQ3, iQ4, iQ5, iQ6, lQ19, iQ7, lQ20]
    exact Gh.fin0 hkp ⟨trivial, trivial, trivial⟩ (hk _ [] 1 (.inl ⟨fun e => (by have := ht.2 e; cases this), rfl, rfl⟩) nil_FII)
  | true =>
  have hl := ht.1 rfl
  simp only [pwA, if_true, if_false, eq_self, nm_eq, reduceCtorEq, ↓reduceIte, nQ10, nQ7, nQ11, nQ12, nQ16, nQ17, nQ18, iQ2, iQ3, iQ4, iQ5, iQ6, lQ19, iQ7, lQ20]
  refine lieSpan_ok hp2 hR.P hl.1.1.w hl.1.1.1 hL hl.2 sz.l fun v z c hz => ?_
  simp only [pwA, if_true, if_false, eq_self, nm_eq, reduceCtorEq, ↓reduceIte, nQ10, nQ7, nQ11, nQ12, nQ16, nQ17, nQ18, iQ2, iQ3, iQ4, iQ5, iQ6, lQ19, iQ7, lQ20]
  exact Gh.fin0 hkp ⟨hz.bel _, trivial, trivial⟩ (hk v z 0 (.inr ⟨hl, c, rfl⟩) hz)
theorem reduce_zero {x : List Int} (o : OkW p n W) (hb : Base p n W u) (ex : El p n x) : isZ (redL p W u x) ↔ Gen p n W u (at_ x) :=
  (⟨fun h j => isZ_at h j, fun h => isZ_of h⟩ : isZ (redL p W u x) ↔ ∀ j, at_ (redL p W u x) j = 0).trans (redL_in o hb ex)
theorem IsInLie_F {x : List Int} (hR : IsR vP vB W B) (szr : SzR W B) (hU : FII vU u) (hX : FI vX x) (hl : isLie p W B) (sp : isSpan p W u) (ex : El p W.length x)
    (hk : ∀ t : Bool, (t = true ↔ Gen p W.length W u (at_ x)) → K (.tup [.bool t, .int .i64 0]) σ) : PCalls Try.prog 21 [.agg [.int .i64 p, vP, vB], vU, vX] σ K := by
  have h1 := hR.P.one
  have h2 := hR.B.one
  have o := hl.1.w
  have hn6 := o.le
  have hul := sp.2.len
  have hb := sp.2.base
  have hxl := ex.1
  obtain ⟨wx, ax, rfl⟩ := hX
  refine PCalls.gh ?_
  refine pcalls_of_vp mix Try.func21 cf21 rfl ?_
  dsimp only [if21, qI, eI, nI, qD, eD]
  simp only [pwA, if_true, if_false, eq_self, nm_eq, reduceCtorEq, ↓reduceIte, nQ10, nQ7, nQ11, nQ12, nQ16, nQ17, nQ18, iQ2, iQ3, iQ4, iQ5, iQ6, lQ19, iQ7, lQ20, h1, h2, hU.one, hU.cells]
  refine PCalls.frz (s := σ.next + 1) (cs := [vU]) (by simp only [pwA, if_true, if_false, eq_self, nm_eq, reduceCtorEq, ↓reduceIte, nQ10, nQ7, nQ11, nQ12, nQ16, nQ17, nQ18, iQ2, iQ3, iQ4, iQ5, iQ6, lQ19, iQ7, lQ20]) ⟨hU.bel 0, trivial⟩ fun o1 => ?_
  have hkp : Keep σ (((σ.new [.int .i64 p, vP, vB]).new [vU]).kill (σ.next + 1)) := ((keep_new σ _).new _).kill (by omega)
  have hp2 : PtrR (((σ.new [.int .i64 p, vP, vB]).new [vU]).kill (σ.next + 1)) σ.next p vP vB := ⟨by simp only [pwA, if_true, if_false, eq_self, nm_eq, reduceCtorEq, ↓reduceIte, nQ10, nQ7, nQ11, nQ12, nQ16, nQ17, nQ18, iQ2, iQ3, iQ4, iQ5, iQ6, lQ19, iQ7, lQ20], by simp only [pwA, if_true, if_false, eq_self, nm_eq, reduceCtorEq, ↓reduceIte, nQ10, nQ7, nQ11, nQ12, nQ16, nQ17, nQ18, iQ2, iQ3, iQ4, iQ5, iQ6, lQ19, iQ7, lQ20]; omega⟩
  generalize ((σ.new [.int .i64 p, vP, vB]).new [vU]).kill (σ.next + 1) = H at *
  simp only [sbs, sb, capOK, and_self, if_true, decide_true, Nat.le_refl]
  refine areLieSpans_ok (us := [u]) hp2 hR szr ((All2.nil FII).snoc hU) (by simp) (by simp) (fun x hx => by rw [List.mem_singleton.1 hx]; exact szl_els o sp.1 (by omega)) fun t ht => ?_
  obtain rfl : t = true := ht.2 ⟨hl, fun x hx => by rw [List.mem_singleton.1 hx]; exact sp⟩
  have hv : isVec x p W.length := isVec_el.2 ex
  simp only [pwA, if_true, if_false, eq_self, nm_eq, reduceCtorEq, ↓reduceIte, nQ10, nQ7, nQ11, nQ12, nQ16, nQ17, nQ18, iQ2, iQ3, iQ4, iQ5, iQ6, lQ19, iQ7, lQ20]
  refine isLieElement_ok hp2 hR.P rfl (by omega) hl.1.1 ?_
  simp only [pwA, if_true, if_false, eq_self, nm_eq, reduceCtorEq, ↓reduceIte, nQ10, nQ7, nQ11, nQ12, nQ16, nQ17, nQ18, iQ2, iQ3, iQ4, iQ5, iQ6, lQ19, iQ7, lQ20, hv, decide_true]
  refine reduceLie_ok hp2 hR.P o hU (fun v hv => ⟨(hb.led v hv).1, (hb.led v hv).2.1⟩) (by omega) ex rfl fun v1 => ?_
  have hrl := (redL_el o hb.els ex).1
  simp only [pwA, if_true, if_false, eq_self, nm_eq, reduceCtorEq, ↓reduceIte, nQ10, nQ7, nQ11, nQ12, nQ16, nQ17, nQ18, iQ2, iQ3, iQ4, iQ5, iQ6, lQ19, iQ7, lQ20]
  refine isZero_ok hrl.symm (by omega) ?_
  simp only [pwA, if_true, if_false, eq_self, nm_eq, reduceCtorEq, ↓reduceIte, nQ10, nQ7, nQ11, nQ12, nQ16, nQ17, nQ18, iQ2, iQ3, iQ4, iQ5, iQ6, lQ19, iQ7, lQ20]
  exact Gh.fin0 hkp ⟨trivial, trivial, trivial⟩ (hk _ (by rw [decide_eq_true_eq]; exact reduce_zero o hb ex))
def MtL (p : Int) (W : List (List Int)) (u v c : List (List Int)) : Prop := ∃ (P : Nat) (L : List (List Int)), p = (P : Int) ∧ Canon p W.length W L c ∧ ∀ x, x ∈ L ↔ x ∈ allE P W.length ∧ Gen p W.length W u (at_ x) ∧ Gen p W.length W v (at_ x)
theorem MtL.unique (o : OkW p W.length W) (h : MtL p W u v c) (g : MtL p W u v d) : c = d := by
  obtain ⟨P, L, hp, hc, hL⟩ := h
  obtain ⟨Q, M, hq, hd, hM⟩ := g
  obtain rfl : P = Q := by omega
  have e : ∀ x, x ∈ L ↔ x ∈ M := fun x => (hL x).trans (hM x).symm
  exact canon_unique o hc.base hc.red hd.base hd.red (fun f hf => (hd.gen f).1 (gen_sublist (fun x hx => (e x).1 hx) ((hc.gen f).2 hf))) (fun f hf => (hc.gen f).1 (gen_sublist (fun x hx => (e x).2 hx) ((hd.gen f).2 hf)))
theorem MtL.both (o : OkW p W.length W) (hp : isP p) (h : MtL p W u v c) : (∀ f, Gen p W.length W c f → Gen p W.length W u f ∧ Gen p W.length W v f) ∧ ∀ x, El p W.length x → Gen p W.length W u (at_ x) → Gen p W.length W v (at_ x) → Gen p W.length W c (at_ x) := by
  obtain ⟨P, L, rfl, hc, hL⟩ := h
  have hpb := hp.bd
  refine ⟨fun f hf => ⟨gen_le (gen_sub u) (fun x hx => ((hL x).1 hx).2.1) ((hc.gen f).2 hf), gen_le (gen_sub v) (fun x hx => ((hL x).1 hx).2.2) ((hc.gen f).2 hf)⟩, fun x hx h1 h2 => (hc.gen _).1 (gen_mem ((hL x).2 ⟨el_all (by omega) hx, h1, h2⟩))⟩
theorem MeetLie1_ok {x : List Int} {vx : PV} {b1 b2 b3 : Nat} (hs : PtrR σ s p vP vB) (hP : FII vP W) (o : OkW p n W) (h2 : σ.rd1 b2 0 = some vU) (h3 : σ.rd1 b3 0 = some vV) (hx : FI vx x) (ex : El p n x) (hU : FII vU u) (hV : FII vV v) (hbu : Base p n W u) (hbv : Base p n W v)
    (hk : ∀ t : Bool, (t = true ↔ Gen p n W u (at_ x) ∧ Gen p n W v (at_ x)) → K (.bool t) σ) : PCalls Try.prog 54 [vx, .ptr s 0, .ptr b2 0, .ptr b3 0] σ K := by
  have hn6 := o.le
  have hul : u.length ≤ n := asc_length (fun v hv => (hbu.led v hv).2.1) hbu.asc
  have hvl : v.length ≤ n := asc_length (fun v hv => (hbv.led v hv).2.1) hbv.asc
  have hxl := ex.1
  obtain ⟨wx, ax, rfl⟩ := hx
  refine pcalls_of_vp mix Try.func54 cf54 rfl ?_
  dsimp only [if54, qI, eI, nI, qD, eD]
  simp only [pwA, if_true, if_false, eq_self, nm_eq, reduceCtorEq, ↓reduceIte, nQ10, nQ7, nQ11, nQ12, nQ16, nQ17, nQ18, iQ2, iQ3, iQ4, iQ5, iQ6, lQ19, iQ7, lQ20, h2, h3]
  refine reduceLie_ok hs hP o hU (fun v hv => ⟨(hbu.led v hv).1, (hbu.led v hv).2.1⟩) (by omega) ex rfl fun v1 => ?_
  have hrl := (redL_el o hbu.els ex).1
  have hz1 := reduce_zero o hbu ex
  simp only [pwA, if_true, if_false, eq_self, nm_eq, reduceCtorEq, ↓reduceIte, nQ10, nQ7, nQ11, nQ12, nQ16, nQ17, nQ18, iQ2, iQ3, iQ4, iQ5, iQ6, lQ19, iQ7, lQ20, h2, h3]
  refine isZero_ok hrl.symm (by omega) ?_
  by_cases hz : isZ (redL p W u x)
  rotate_left
  · simp only [pwA, if_true, if_false, eq_self, nm_eq, reduceCtorEq, ↓reduceIte, nQ10, nQ7, nQ11, nQ12, nQ16, nQ17, nQ18, iQ2, iQ3, iQ4, iQ5, iQ6, lQ19, iQ7, lQ20, hz, decide_false]
    exact hk _ ⟨fun e => (by cases e), fun e => absurd (hz1.2 e.1) hz⟩
  simp only [pwA, if_true, if_false, eq_self, nm_eq, reduceCtorEq, ↓reduceIte, nQ10, nQ7, nQ11, nQ12, nQ16, nQ17, nQ18, iQ2, iQ3, iQ4, iQ5, iQ6, lQ19, iQ7, lQ20, hz, decide_true, h2, h3]
  refine reduceLie_ok hs hP o hV (fun v hv => ⟨(hbv.led v hv).1, (hbv.led v hv).2.1⟩) (by omega) ex rfl fun v2 => ?_
  have hrl2 := (redL_el o hbv.els ex).1
  have hz2 := reduce_zero o hbv ex
  simp only [pwA, if_true, if_false, eq_self, nm_eq, reduceCtorEq, ↓reduceIte, nQ10, nQ7, nQ11, nQ12, nQ16, nQ17, nQ18, iQ2, iQ3, iQ4, iQ5, iQ6, lQ19, iQ7, lQ20]
  refine isZero_ok hrl2.symm (by omega) ?_
  simp only [pwA, if_true, if_false, eq_self, nm_eq, reduceCtorEq, ↓reduceIte, nQ10, nQ7, nQ11, nQ12, nQ16, nQ17, nQ18, iQ2, iQ3, iQ4, iQ5, iQ6, lQ19, iQ7, lQ20]
  refine hk _ ?_
  rw [decide_eq_true_eq, hz2]
  exact ⟨fun e => ⟨hz1.1 hz, e⟩, fun e => e.2⟩
theorem MeetLie_F (hR : IsR vP vB W B) (szr : SzR W B) (hU : FII vU u) (sz : SzL u) (hV : FII vV v) (szv : SzL v)
    (hk : ∀ w z c, LsV (isLie p W B ∧ isSpan p W u ∧ isSpan p W v) (MtL p W u v) z c → FII w z → K (.tup [w, .int .i64 c]) σ) : PCalls Try.prog 16 [.agg [.int .i64 p, vP, vB], vU, vV] σ K := by
  have h1 := hR.P.one
  have h2 := hR.B.one
  refine PCalls.gh ?_
  refine pcalls_of_vp mix Try.func16 cf16 rfl ?_
  dsimp only [if16, qI, eI, nI, qD, eD]
  simp only [pwA, if_true, if_false, eq_self, nm_eq, reduceCtorEq, ↓reduceIte, nQ10, nQ7, nQ11, nQ12, nQ16, nQ17, nQ18, iQ2, iQ3, iQ4, iQ5, iQ6, lQ19, iQ7, lQ20, h1, h2, hU.one, hU.cells, hV.one, hV.cells]
  refine PCalls.frz (s := σ.next + 3) (cs := [vU, vV]) (by simp only [pwA, if_true, if_false, eq_self, nm_eq, reduceCtorEq, ↓reduceIte, nQ10, nQ7, nQ11, nQ12, nQ16, nQ17, nQ18, iQ2, iQ3, iQ4, iQ5, iQ6, lQ19, iQ7, lQ20]) ⟨hU.bel 0, hV.bel 0, trivial⟩ fun o1 => ?_
  have hkp : Keep σ (((((σ.new [.int .i64 p, vP, vB]).new [vU]).new [vV]).new [vU, vV]).kill (σ.next + 3)) := ((((keep_new σ _).new _).new _).new _).kill (by omega)
  have hp2 : PtrR (((((σ.new [.int .i64 p, vP, vB]).new [vU]).new [vV]).new [vU, vV]).kill (σ.next + 3)) σ.next p vP vB := ⟨by simp only [pwA, if_true, if_false, eq_self, nm_eq, reduceCtorEq, ↓reduceIte, nQ10, nQ7, nQ11, nQ12, nQ16, nQ17, nQ18, iQ2, iQ3, iQ4, iQ5, iQ6, lQ19, iQ7, lQ20], by simp only [pwA, if_true, if_false, eq_self, nm_eq, reduceCtorEq, ↓reduceIte, nQ10, nQ7, nQ11, nQ12, nQ16, nQ17, nQ18, iQ2, iQ3, iQ4, iQ5, iQ6, lQ19, iQ7, lQ20]; omega⟩
  have q2 : (((((σ.new [.int .i64 p, vP, vB]).new [vU]).new [vV]).new [vU, vV]).kill (σ.next + 3)).rd1 (σ.next + 1) 0 = some vU := by simp only [pwA, if_true, if_false, eq_self, nm_eq, reduceCtorEq, ↓reduceIte, nQ10, nQ7, nQ11, nQ12, nQ16, nQ17, nQ18, iQ2, iQ3, iQ4, iQ5, iQ6, lQ19, iQ7, lQ20]
  have q3 : (((((σ.new [.int .i64 p, vP, vB]).new [vU]).new [vV]).new [vU, vV]).kill (σ.next + 3)).rd1 (σ.next + 2) 0 = some vV := by simp only [pwA, if_true, if_false, eq_self, nm_eq, reduceCtorEq, ↓reduceIte, nQ10, nQ7, nQ11, nQ12, nQ16, nQ17, nQ18, iQ2, iQ3, iQ4, iQ5, iQ6, lQ19, iQ7, lQ20]
  have hHn : (((((σ.new [.int .i64 p, vP, vB]).new [vU]).new [vV]).new [vU, vV]).kill (σ.next + 3)).next = σ.next + 4 := rfl
  generalize ((((σ.new [.int .i64 p, vP, vB]).new [vU]).new [vV]).new [vU, vV]).kill (σ.next + 3) = H at *
  simp only [sbs, sb, capOK, and_self, if_true, decide_true, Nat.le_refl]
  refine areLieSpans_ok (us := [u, v]) hp2 hR szr (((All2.nil FII).snoc hU).snoc hV) (by simp) (by simp) (fun x hx => by
    simp only [List.mem_cons, List.not_mem_nil, or_false] at hx
    rcases hx with rfl | rfl
    · exact sz
    · exact szv) fun t ht => ?_
  have ht' : t = true ↔ isLie p W B ∧ isSpan p W u ∧ isSpan p W v := by rw [ht]; simp
  cases t with
  | false =>
    simp only [pwA, if_true, if_false, eq_self, nm_eq, reduceCtorEq, ↓reduceIte, nQ10, nQ7, nQ11, nQ12, nQ16, nQ17, nQ18, iQ2, iQ3, iQ4, iQ5, iQ6, lQ19, iQ7, lQ20]
    exact Gh.fin0 hkp ⟨trivial, trivial, trivial⟩ (hk _ [] 1 (.inl ⟨fun e => (by have := ht'.2 e; cases this), rfl, rfl⟩) nil_FII)
  | true =>
  have hl := ht'.1 rfl
  have o := hl.1.1.w
  have hn6 := o.le
  have hpb := hl.1.1.1.bd
  obtain ⟨P, hP⟩ := Int.eq_ofNat_of_zero_le (show 0 ≤ p by omega)
  have hpw : P ^ W.length ≤ 729 := by
    have h := hl.1.1.2.2.2.1
    rw [hP, ipowN] at h
    omega
  simp only [pwA, if_true, if_false, eq_self, nm_eq, reduceCtorEq, ↓reduceIte, nQ10, nQ7, nQ11, nQ12, nQ16, nQ17, nQ18, iQ2, iQ3, iQ4, iQ5, iQ6, lQ19, iQ7, lQ20]
  refine lieWith_ok (good := fun x => Gen p W.length W u (at_ x) ∧ Gen p W.length W v (at_ x)) hp2 hR.P o hl.1.1.1 hP hpw (by kernel_rfl) (fun {h x vx K'} hkp' hx hvx hk' => ?_) fun w z L c hL hz => ?_
  · have hnx := hkp'.next
    exact MeetLie1_ok (b1 := 0) (hp2.keep hkp') hR.P o (by rw [hkp'.rd1 (by omega)]; exact q2) (by rw [hkp'.rd1 (by omega)]; exact q3) hvx hx hU hV hl.2.1.2.base hl.2.2.2.base hk'
  · simp only [pwA, if_true, if_false, eq_self, nm_eq, reduceCtorEq, ↓reduceIte, nQ10, nQ7, nQ11, nQ12, nQ16, nQ17, nQ18, iQ2, iQ3, iQ4, iQ5, iQ6, lQ19, iQ7, lQ20]
    exact Gh.fin0 hkp ⟨hz.bel _, trivial, trivial⟩ (hk w z 0 (.inr ⟨hl, ⟨P, L, hP, c, hL⟩, rfl⟩) hz)
theorem all_take2 {P n k : Nat} (h : k < P ^ n) : (allE P n).take (k + 1) = (allE P n).take k ++ [digs P n k] := by
  have hl : k < (allE P n).length := by rw [allE_length]; exact h
  rw [List.take_succ_eq_append_getElem hl, allE_get hl]
theorem MeetLie_S (hR : IsR vP vB W B) (szr : SzR W B) (hU : FII vU u) (sz : SzL u) (hV : FII vV v) (szv : SzL v)
    (hk : ∀ w z c, LsV (isLie p W B ∧ isSpan p W u ∧ isSpan p W v) (MtL p W u v) z c → FII w z → K (.tup [w, .int .i64 c]) σ) : PCalls Try.prog 17 [.agg [.int .i64 p, vP, vB], vU, vV] σ K := by
  have hRR := hR
  have h1 := hR.P.one
  have h2 := hR.B.one
  obtain ⟨⟨wp, ap, rp, rfl, hrp⟩, hBB⟩ := hR
  refine PCalls.gh ?_
  refine pcalls_of_vp mix Try.func17 cf17 rfl ?_
  dsimp only [if17, qI, eI, nI, qD, eD]
  simp only [pwA, if_true, if_false, eq_self, nm_eq, reduceCtorEq, ↓reduceIte, nQ10, nQ7, nQ11, nQ12, nQ16, nQ17, nQ18, iQ2, iQ3, iQ4, iQ5, iQ6, lQ19, iQ7, lQ20, h1, h2]
  have hHk : Keep σ (σ.new [.int .i64 p, .fz wp ap W.length rp, vB]) := keep_new σ _
  have hob : (σ.new [.int .i64 p, .fz wp ap W.length rp, vB]).obj σ.next = some [.int .i64 p, .fz wp ap W.length rp, vB] := by simp only [pwA, if_true, if_false, eq_self, nm_eq, reduceCtorEq, ↓reduceIte, nQ10, nQ7, nQ11, nQ12, nQ16, nQ17, nQ18, iQ2, iQ3, iQ4, iQ5, iQ6, lQ19, iQ7, lQ20]
  have hr3 : (σ.new [.int .i64 p, .fz wp ap W.length rp, vB]).rd σ.next 0 3 = some [.int .i64 p, .fz wp ap W.length rp, vB] := by simp only [pwA, if_true, if_false, eq_self, nm_eq, reduceCtorEq, ↓reduceIte, nQ10, nQ7, nQ11, nQ12, nQ16, nQ17, nQ18, iQ2, iQ3, iQ4, iQ5, iQ6, lQ19, iQ7, lQ20]
  have hHn : (σ.new [.int .i64 p, .fz wp ap W.length rp, vB]).next = σ.next + 1 := rfl
  generalize σ.new [.int .i64 p, .fz wp ap W.length rp, vB] = H at *
  have bad : ¬ (isLie p W B ∧ isSpan p W u ∧ isSpan p W v) → Gh σ K (.tup [.fz true .nils 0 [], .int .i64 1]) H := fun e => Gh.fin0 hHk ⟨trivial, trivial, trivial⟩ (hk _ [] 1 (.inl ⟨e, rfl, rfl⟩) nil_FII)
  refine IsLieSpan_S hRR szr hU sz fun t ht => ?_
  cases t with
  | false =>
    simp only [pwA, if_true, if_false, eq_self, nm_eq, reduceCtorEq, ↓reduceIte, nQ10, nQ7, nQ11, nQ12, nQ16, nQ17, nQ18, iQ2, iQ3, iQ4, iQ5, iQ6, lQ19, iQ7, lQ20, hr3]
    exact bad fun e => (by have := ht.2 ⟨e.1, e.2.1⟩; cases this)
  | true =>
  have hl := ht.1 rfl
  simp only [pwA, if_true, if_false, eq_self, nm_eq, reduceCtorEq, ↓reduceIte, nQ10, nQ7, nQ11, nQ12, nQ16, nQ17, nQ18, iQ2, iQ3, iQ4, iQ5, iQ6, lQ19, iQ7, lQ20, hr3]
  refine IsLieSpan_S hRR szr hV szv fun t ht2 => ?_
  cases t with
  | false =>
    simp only [pwA, if_true, if_false, eq_self, nm_eq, reduceCtorEq, ↓reduceIte, nQ10, nQ7, nQ11, nQ12, nQ16, nQ17, nQ18, iQ2, iQ3, iQ4, iQ5, iQ6, lQ19, iQ7, lQ20, hr3]
    exact bad fun e => (by have := ht2.2 ⟨e.1, e.2.2⟩; cases this)
  | true =>
  have hl2 := ht2.1 rfl
  have o := hl.1.1.w
  have hn6 := o.le
  have hp := hl.1.1.1
  have hpb := hp.bd
  obtain ⟨P, hpP⟩ := Int.eq_ofNat_of_zero_le (show 0 ≤ p by omega)
  have hb : P ^ W.length ≤ 729 := by
    have h := hl.1.1.2.2.2.1
    rw [hpP, ipowN] at h
    omega
  have hbu := hl.2.2.base
  have hbv := hl2.2.2.base
  simp only [pwA, if_true, if_false, eq_self, nm_eq, reduceCtorEq, ↓reduceIte, nQ10, nQ7, nQ11, nQ12, nQ16, nQ17, nQ18, iQ2, iQ3, iQ4, iQ5, iQ6, lQ19, iQ7, lQ20]
  refine vp_loop (fun m us h => ∃ (k : Nat) (vO : PV) (out L : List (List Int)) (rows : List PV), k ≤ P ^ W.length ∧ m = P ^ W.length - k ∧ us = [vU, vV, .ptr σ.next 0, vO, .int .i64 k] ∧ Keep H h ∧ PSl H.next 1 h vO out.length rows ∧ All2 FI rows out ∧ Canon p W.length W L out ∧ ∀ x, x ∈ L ↔ x ∈ (allE P W.length).take k ∧ Gen p W.length W u (at_ x) ∧ Gen p W.length W v (at_ x)) (P ^ W.length) ?_ ?_
  · exact ⟨0, _, [], [], [], by omega, by omega, rfl, keep_new H _, PSl.new _ 1 rfl (Nat.le_refl _), All2.nil _, ⟨.nil, List.Pairwise.nil, fun f => Iff.rfl⟩, fun x => by simp⟩
  rintro m us h ⟨k, vO, out, L, rows, hkP, rfl, rfl, hkp, ps, hrows, hcan, hmem⟩
  have hob' : h.obj σ.next = some [.int .i64 p, .fz wp ap W.length rp, vB] := by rw [hkp.obj _ (by omega)]; exact hob
  have hr3 : h.rd σ.next 0 3 = some [.int .i64 p, .fz wp ap W.length rp, vB] := by rw [obj_rd hob']; rfl
  have hr0 : h.rd1 σ.next 0 = some (.int .i64 p) := by rw [obj_rd1 hob']; rfl
  have hr1 : h.rd1 σ.next 1 = some (.fz wp ap W.length rp) := by rw [obj_rd1 hob']; rfl
  have hol := hcan.len
  simp only [pwA, if_true, if_false, eq_self, nm_eq, reduceCtorEq, ↓reduceIte, nQ10, nQ7, nQ11, nQ12, nQ16, nQ17, nQ18, iQ2, iQ3, iQ4, iQ5, iQ6, lQ19, iQ7, lQ20, hr0, hr1]
  refine l31Size_ok hpb (by omega) fun kk a1 a2 a3 a4 => ?_
  have hkk : kk = ((P ^ W.length : Nat) : Int) := by
    rw [hpP, ipowN] at a1 a2
    exact a2 (a1.2 (by omega))
  subst hkk
  clear a1 a2 a3 a4
  simp only [pwA, if_true, if_false, eq_self, nm_eq, reduceCtorEq, ↓reduceIte, nQ10, nQ7, nQ11, nQ12, nQ16, nQ17, nQ18, iQ2, iQ3, iQ4, iQ5, iQ6, lQ19, iQ7, lQ20]
  refine iteI (fun hlt => ?_) fun hge => ?_
  rotate_left
  · have hke : k = P ^ W.length := by omega
    subst hke
    rw [List.take_of_length_le (by rw [allE_length]; exact Nat.le_refl _)] at hmem
    have fin : ∀ w, FII w out → K (.tup [w, .int .i64 0]) σ := fun w hw => hk w out 0 (.inr ⟨⟨hl.1, hl.2, hl2.2⟩, ⟨P, L, hpP, hcan, hmem⟩, rfl⟩) hw
    obtain ⟨t, cap, rfl, hc, q2, q3, q4, q5⟩ := ps
    exact finT (hHk.trans hkp) q2 (by omega) (hrows.bI 0) hc.ok fun o1 => fin _ ⟨true, .sl o1 0 out.length cap, rows, rfl, hrows⟩
  have hkl : k < P ^ W.length := by omega
  simp only [pwA, if_true, if_false, eq_self, nm_eq, reduceCtorEq, ↓reduceIte, nQ10, nQ7, nQ11, nQ12, nQ16, nQ17, nQ18, iQ2, iQ3, iQ4, iQ5, iQ6, lQ19, iQ7, lQ20, hr3]
  refine l31At_ok hRR rfl hn6 hpP (by omega) (by omega) fun vX hX => ?_
  have ex := digs_el (P := P) (by omega) W.length k
  rw [← hpP] at ex
  have htk := all_take2 (P := P) (n := W.length) hkl
  generalize digs P W.length k = x at *
  have wk1 : IntKind.i64.wrap ((k : Int) + 1) = ((k + 1 : Nat) : Int) := by rw [wrap64 (by omega) (by omega)]; omega
  obtain ⟨wx, ax, rfl⟩ := hX
  have hX : FI (.fz wx ax x.length (pis x)) x := ⟨wx, ax, rfl⟩
  have skip : (Gen p W.length W out (at_ x) ∨ ¬ (Gen p W.length W u (at_ x) ∧ Gen p W.length W v (at_ x))) → ∃ L', Canon p W.length W L' out ∧ ∀ y, y ∈ L' ↔ y ∈ (allE P W.length).take (k + 1) ∧ Gen p W.length W u (at_ y) ∧ Gen p W.length W v (at_ y) := fun hs => by
    by_cases hg : Gen p W.length W u (at_ x) ∧ Gen p W.length W v (at_ x)
    · have hx := hs.resolve_right fun h => h hg
      refine ⟨L ++ [x], hcan.trans fun f => ⟨fun hf => gen_mono (fun y hy => ?_) hf, gen_sublist fun y hy => List.mem_append_left _ hy⟩, fun y => ?_⟩
      · rcases List.mem_append.1 hy with e | e
        · exact gen_mem e
        · rw [List.mem_singleton.1 e]; exact (hcan.gen _).2 hx
      · rw [htk, List.mem_append, List.mem_append, List.mem_singleton, hmem]
        refine ⟨fun h => ?_, fun h => ?_⟩
        · rcases h with h | h
          · exact ⟨.inl h.1, h.2⟩
          · exact ⟨.inr h, by rw [h]; exact hg⟩
        · rcases h.1 with h1 | h1
          · exact .inl ⟨h1, h.2⟩
          · exact .inr h1
    · refine ⟨L, hcan, fun y => ?_⟩
      rw [htk, List.mem_append, List.mem_singleton, hmem]
      exact ⟨fun h => ⟨.inl h.1, h.2⟩, fun h => ⟨h.1.resolve_right fun e => hg (by rw [← e]; exact h.2), h.2⟩⟩
  have take : (Gen p W.length W u (at_ x) ∧ Gen p W.length W v (at_ x)) → ∀ out', Canon p W.length W (out ++ [x]) out' → ∃ L', Canon p W.length W L' out' ∧ ∀ y, y ∈ L' ↔ y ∈ (allE P W.length).take (k + 1) ∧ Gen p W.length W u (at_ y) ∧ Gen p W.length W v (at_ y) := fun hg out' c' => by
    refine ⟨L ++ [x], ⟨c'.base, c'.red, fun f => Iff.trans ⟨gen_mono fun y hy => ?_, gen_mono fun y hy => ?_⟩ (c'.gen f)⟩, fun y => ?_⟩
    · rcases List.mem_append.1 hy with e | e
      · exact gen_sublist (fun z hz => List.mem_append_left _ hz) ((hcan.gen _).1 (gen_mem e))
      · exact gen_mem (List.mem_append_right _ e)
    · rcases List.mem_append.1 hy with e | e
      · exact gen_sublist (fun z hz => List.mem_append_left _ hz) ((hcan.gen _).2 (gen_mem e))
      · exact gen_mem (List.mem_append_right _ e)
    · rw [htk, List.mem_append, List.mem_append, List.mem_singleton, hmem]
      refine ⟨fun h => ?_, fun h => ?_⟩
      · rcases h with h | h
        · exact ⟨.inl h.1, h.2⟩
        · exact ⟨.inr h, by rw [h]; exact hg⟩
      · rcases h.1 with h1 | h1
        · exact .inl ⟨h1, h.2⟩
        · exact .inr h1
  obtain ⟨t, cap, rfl, hc, q2, q3, q4, q5⟩ := ps
  simp only [pwA, if_true, if_false, eq_self, nm_eq, reduceCtorEq, ↓reduceIte, nQ10, nQ7, nQ11, nQ12, nQ16, nQ17, nQ18, iQ2, iQ3, iQ4, iQ5, iQ6, lQ19, iQ7, lQ20, hr3]
  refine l32In_ok hRR o hU hbu hX ex fun t1 ht1 => ?_
  cases t1 with
  | false =>
    obtain ⟨L', c', m'⟩ := skip (.inr fun h => by have := ht1.2 h.1; cases this)
    simp only [pwA, if_true, if_false, eq_self, nm_eq, reduceCtorEq, ↓reduceIte, nQ10, nQ7, nQ11, nQ12, nQ16, nQ17, nQ18, iQ2, iQ3, iQ4, iQ5, iQ6, lQ19, iQ7, lQ20, wk1]
    exact ⟨_, by omega, k + 1, _, out, L', rows, by omega, rfl, rfl, hkp, ⟨t, cap, rfl, hc, q2, q3, q4, q5⟩, hrows, c', m'⟩
  | true =>
  simp only [pwA, if_true, if_false, eq_self, nm_eq, reduceCtorEq, ↓reduceIte, nQ10, nQ7, nQ11, nQ12, nQ16, nQ17, nQ18, iQ2, iQ3, iQ4, iQ5, iQ6, lQ19, iQ7, lQ20, hr3]
  refine l32In_ok hRR o hV hbv hX ex fun t2 ht3 => ?_
  cases t2 with
  | false =>
    obtain ⟨L', c', m'⟩ := skip (.inr fun h => by have := ht3.2 h.2; cases this)
    simp only [pwA, if_true, if_false, eq_self, nm_eq, reduceCtorEq, ↓reduceIte, nQ10, nQ7, nQ11, nQ12, nQ16, nQ17, nQ18, iQ2, iQ3, iQ4, iQ5, iQ6, lQ19, iQ7, lQ20, wk1]
    exact ⟨_, by omega, k + 1, _, out, L', rows, by omega, rfl, rfl, hkp, ⟨t, cap, rfl, hc, q2, q3, q4, q5⟩, hrows, c', m'⟩
  | true =>
  have hg : Gen p W.length W u (at_ x) ∧ Gen p W.length W v (at_ x) := ⟨ht1.1 rfl, ht3.1 rfl⟩
  simp only [pwA, if_true, if_false, eq_self, nm_eq, reduceCtorEq, ↓reduceIte, nQ10, nQ7, nQ11, nQ12, nQ16, nQ17, nQ18, iQ2, iQ3, iQ4, iQ5, iQ6, lQ19, iQ7, lQ20, hr3]
  refine PCalls.lend (s := t) q2 (hrows.bI 0) fun o1 => ?_
  have hXs := hX.sb t o1 rows
  have hBs := hBB.sb t o1 rows
  simp only [sbs, sb, hc.ok, and_self, if_true, hXs, hBs, nm_eq]
  refine l32In_ok hRR o ⟨true, _, rows, rfl, hrows⟩ hcan.base hX ex fun tt htt => ⟨rfl, ⟨_, rfl⟩, ?_⟩
  cases tt with
  | true =>
    obtain ⟨L', c', m'⟩ := skip (.inl (htt.1 rfl))
    simp only [pwA, if_true, if_false, eq_self, nm_eq, reduceCtorEq, ↓reduceIte, nQ10, nQ7, nQ11, nQ12, nQ16, nQ17, nQ18, iQ2, iQ3, iQ4, iQ5, iQ6, lQ19, iQ7, lQ20, wk1]
    exact ⟨_, by omega, k + 1, _, out, L', rows, by omega, rfl, rfl, hkp, ⟨t, cap, rfl, hc, q2, q3, q4, q5⟩, hrows, c', m'⟩
  | false =>
  have hneh : ¬ σ.next = h.next := by have := hkp.next; omega
  simp only [pwA, if_true, if_false, eq_self, nm_eq, reduceCtorEq, ↓reduceIte, nQ10, nQ7, nQ11, nQ12, nQ16, nQ17, nQ18, iQ2, iQ3, iQ4, iQ5, iQ6, lQ19, iQ7, lQ20, hr3, hneh]
  refine PSl.push (bytes := 24) (σb := H) hkp ⟨t, cap, rfl, hc, q2, q3, q4, q5⟩ (by omega) (by omega) fun v2 h2 k2 a2 => ?_
  obtain ⟨t2, cap2, rfl, hc2, b2, b3, b4, b5⟩ := a2
  have hob2 : h2.obj σ.next = some [.int .i64 p, .fz wp ap W.length rp, vB] := by rw [k2.obj _ (by omega)]; exact hob
  have hr32 : h2.rd σ.next 0 3 = some [.int .i64 p, .fz wp ap W.length rp, vB] := by rw [obj_rd hob2]; rfl
  have hrow := hrows.snoc hX
  simp only [pwA, if_true, if_false, eq_self, nm_eq, reduceCtorEq, ↓reduceIte, nQ10, nQ7, nQ11, nQ12, nQ16, nQ17, nQ18, iQ2, iQ3, iQ4, iQ5, iQ6, lQ19, iQ7, lQ20, hr32]
  refine PCalls.frz b2 (hrow.bI 0) fun o2 => ?_
  have hBs2 := hBB.sb t2 o2 (rows ++ [.fz wx ax x.length (pis x)])
  simp only [sbs, sb, hc2.ok, and_self, if_true, hBs2, nm_eq]
  refine l32Span_u hRR o hp (gens := out ++ [x]) ⟨true, _, _, by rw [List.length_append]; rfl, hrow⟩ (fun y hy => by
    rcases List.mem_append.1 hy with e | e
    · exact hcan.els y e
    · rw [List.mem_singleton.1 e]; exact ex) (by rw [List.length_append, List.length_singleton]; omega) fun out' rows' cap' c' hr' hcap' => ?_
  obtain ⟨L', d', m'⟩ := take hg out' c'
  have kk2 : Keep H (h2.kill t2) := k2.kill b4
  simp only [pwA, if_true, if_false, eq_self, nm_eq, reduceCtorEq, ↓reduceIte, nQ10, nQ7, nQ11, nQ12, nQ16, nQ17, nQ18, iQ2, iQ3, iQ4, iQ5, iQ6, lQ19, iQ7, lQ20, wk1]
  exact ⟨_, by omega, k + 1, _, out', L', rows', by omega, rfl, rfl, kk2.new _, ⟨_, cap', rfl, hcap', by rw [pobj_new]; exact if_pos rfl, by rw [hr'.1, Nat.mul_one], kk2.next, Nat.lt_succ_self _⟩, hr', d', m'⟩
end Go.Proofs
