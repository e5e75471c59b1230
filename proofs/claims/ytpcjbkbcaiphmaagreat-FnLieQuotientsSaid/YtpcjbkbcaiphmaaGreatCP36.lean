/- Plain law: the quotient of a ring by an ideal has no fault; images respect sums and brackets. -/
import Derived.Test.YtpcjbkbcaiphmaaGreatCP29
import Derived.Test.YtpcjbkbcaiphmaaGreatCAbPn
import Derived.Test.YtpcjbkbcaiphmaaGreatCP31
set_option linter.unusedSimpArgs false
set_option linter.unusedVariables false
namespace Go.Proofs
open Go.Ab Go.Lie
variable {σ : PHeap} {K : PV → PHeap → Prop} {p p' : Int} {n : Nat} {W : List (List Int)} {B : List (List (List Int))} {vP vB vL vU vV : PV} {s : Nat}
theorem two_row {v u : PV} {x y : List Int} {w : Bool} {a : AV} (hx : FI v x) (hy : FI u y) : FII (.fz w a 2 [v, u]) [x, y] := ⟨w, a, [v, u], rfl, by simpa using ((All2.nil _).snoc hx).snoc hy⟩
theorem SzL.two {x y : List Int} (h : x.length ≤ 1048576) (g : y.length ≤ 1048576) : SzL [x, y] := ⟨by simp, fun z hz => by simp at hz; rcases hz with rfl | rfl <;> assumption⟩
end Go.Proofs
namespace Go.Proofs
open Go.Ab Go.Lie
variable {σ : PHeap} {K : PV → PHeap → Prop} {p : Int} {n c m k : Nat} {W : List (List Int)} {B : List (List (List Int))} {vP vB vL : PV} {s : Nat} {x y u v : List Int} {vx vy : PV} {xs : List (List Int)}
theorem brv_self (f : Vec) (t : Nat) : brv B n f f t = 0 := by
  have := brv_anti (B := B) (n := n) f f t
  omega
end Go.Proofs
namespace Go.Proofs
open Go.Ab Go.Lie
variable {σ : PHeap} {K : PV → PHeap → Prop} {p : Int} {n c m k : Nat} {W : List (List Int)} {B : List (List (List Int))} {vP vB vL : PV} {s : Nat} {x y u v : List Int} {vx vy : PV} {xs : List (List Int)}
theorem bracket_FI (o : OkW p n W) (q : OkB p n B) (hs : PtrR σ s p vP vB) (hR : IsR vP vB W B) (hx : El p n x) (hy : El p n y) (hvx : FI vx x) (hvy : FI vy y) (hk : ∀ v, FI v (br p W B n x y) → K v σ) : PCalls Tryz.prog 115 [.ptr s 0, vx, vy] σ K := by
  obtain ⟨wx, ax, rfl⟩ := hvx
  obtain ⟨wy, ay, rfl⟩ := hvy
  exact bracket_fz hs hR o q hx hy rfl rfl fun v => hk _ ⟨_, _, by rw [(br_el o q).1]⟩
theorem l31Bracket_FI (o : OkW p n W) (q : OkB p n B) (hR : IsR vP vB W B) (hx : El p n x) (hy : El p n y) (hvx : FI vx x) (hvy : FI vy y) (hk : ∀ v, FI v (br p W B n x y) → K v σ) : PCalls Tryz.prog 116 [.agg [.int .i64 p, vP, vB], vx, vy] σ K := by
  obtain ⟨wx, ax, rfl⟩ := hvx
  obtain ⟨wy, ay, rfl⟩ := hvy
  exact l31Bracket_ok hR o q hx hy rfl rfl fun v => hk _ ⟨_, _, by rw [show (norm p W (bsum B x y n)).length = n from (br_el o q).1]⟩
end Go.Proofs
namespace Go.Proofs
open Go.Ab Go.Lie
variable {p : Int} {n : Nat} {W : List (List Int)} {B : List (List (List Int))} {c k : Nat} {f g h : Vec}
theorem brv_add2 (f g g' : Vec) (t : Nat) : brv B n f (fun j => g j + g' j) t = brv B n f g t + brv B n f g' t := by
  rw [brv_anti, brv_add, brv_anti g f, brv_anti g' f]
  grind
theorem brv_units1 (f g : Vec) (t : Nat) : brv B n f g t = sumN n fun k => f k * brv B n (at_ (unitL n k)) g t := by
  rw [brv_anti, brv_units f g, ← sumN_mul]
  refine sumN_congr fun k hk => ?_
  rw [brv_anti g (at_ (unitL n k))]
  grind
theorem brv_fcongr {f f' g g' : Vec} (h : ∀ j, f j = f' j) (h' : ∀ j, g j = g' j) (t : Nat) : brv B n f g t = brv B n f' g' t := brv_congr (fun j _ => h j) (fun j _ => h' j) t
def jac (B : List (List (List Int))) (n : Nat) (f g h : Vec) : Vec := fun t => brv B n (brv B n f g) h t + brv B n (brv B n g h) f t + brv B n (brv B n h f) g t
theorem jac_cyc (f g h : Vec) (t : Nat) : jac B n f g h t = jac B n g h f t := by
  simp only [jac]
  omega
theorem brv_neg1 (f g h : Vec) (t : Nat) : brv B n (brv B n f g) h t = -1 * brv B n (brv B n g f) h t := by
  rw [brv_fcongr (f' := fun j => -1 * brv B n g f j) (g' := h) (fun j => brv_anti f g j) (fun _ => rfl), brv_mul]
theorem jac_swap (f g h : Vec) (t : Nat) : jac B n f g h t = -1 * jac B n g f h t := by
  simp only [jac]
  rw [brv_neg1 f g, brv_neg1 g h, brv_neg1 h f]
  omega
theorem jac_same (f h : Vec) (t : Nat) : jac B n f f h t = 0 := by
  have := jac_swap (B := B) (n := n) f f h t
  omega
theorem jac_lin (f g h : Vec) (t : Nat) : jac B n f g h t = sumN n fun k => f k * jac B n (at_ (unitL n k)) g h t := by
  simp only [jac]
  rw [brv_fcongr (f' := fun j => sumN n fun k => f k * brv B n (at_ (unitL n k)) g j) (g' := h) (fun j => brv_units1 f g j) (fun _ => rfl), brv_sum (t := t) (g := h) n (fun k j => f k * brv B n (at_ (unitL n k)) g j),
    brv_units f (brv B n g h), brv_fcongr (f' := fun j => sumN n fun k => f k * brv B n h (at_ (unitL n k)) j) (g' := g) (fun j => brv_units f h j) (fun _ => rfl), brv_sum (t := t) (g := g) n (fun k j => f k * brv B n h (at_ (unitL n k)) j), ← sumN_add, ← sumN_add]
  refine sumN_congr fun k hk => ?_
  rw [brv_mul, brv_mul]
  grind
theorem jac_of (hu : ∀ k, k < n → Eqv p n W (jac B n (at_ (unitL n k)) g h) fun _ => 0) : Eqv p n W (jac B n f g h) fun _ => 0 :=
  (Eqv.of_eq fun t => jac_lin f g h t).trans (eqv_sum0 n (fun k t => f k * jac B n (at_ (unitL n k)) g h t) fun k hk => ((hu k hk).mul (f k)).trans (Eqv.of_eq fun t => by grind))
theorem jac_unit (o : OkW p n W) (q : OkB p n B) (nf : NoFault p W B n) {i j k : Nat} (hij : i < j) (hjk : j < k) (hk : k < n) : Eqv p n W (jac B n (at_ (unitL n i)) (at_ (unitL n j)) (at_ (unitL n k))) fun _ => 0 := by
  have h := nf.2 i j k hij hjk hk
  unfold F2 at h
  have e : ∀ a b c : List Int, Eqv p n W (at_ (br p W B n (br p W B n a b) c)) (brv B n (brv B n (at_ a) (at_ b)) (at_ c)) := fun a b c => (br_eqv o q _ _).trans (brv_eqv o q nf _ (br_eqv o q a b))
  have ev2 := (((ladd_eqv o (lmix_el o (br_el o q) (br_el o q)) (br_el o q)).symm.trans (Eqv.of_eq (isZ_at h))))
  refine Eqv.trans ?_ ev2
  refine (Eqv.of_eq fun t => rfl).trans (Eqv.add (Eqv.trans ?_ (ladd_eqv o (br_el o q) (br_el o q)).symm) (e _ _ _).symm)
  exact Eqv.add (e _ _ _).symm (e _ _ _).symm
theorem jac_units (o : OkW p n W) (q : OkB p n B) (nf : NoFault p W B n) {i j k : Nat} (hi : i < n) (hj : j < n) (hk : k < n) : Eqv p n W (jac B n (at_ (unitL n i)) (at_ (unitL n j)) (at_ (unitL n k))) fun _ => 0 := by
  have cyc : ∀ {a b c : Vec}, Eqv p n W (jac B n b c a) (fun _ => 0) → Eqv p n W (jac B n a b c) fun _ => 0 := fun h => (Eqv.of_eq fun t => jac_cyc _ _ _ t).trans h
  have swp : ∀ {a b c : Vec}, Eqv p n W (jac B n b a c) (fun _ => 0) → Eqv p n W (jac B n a b c) fun _ => 0 := fun h => (Eqv.of_eq fun t => jac_swap _ _ _ t).trans ((h.mul (-1)).trans (Eqv.of_eq fun t => rfl))
  have sam : ∀ {a c : Vec}, Eqv p n W (jac B n a a c) (fun _ => 0) := Eqv.of_eq fun t => jac_same _ _ t
  rcases Nat.lt_trichotomy i j with h1 | rfl | h1
  · rcases Nat.lt_trichotomy j k with h2 | rfl | h2
    · exact jac_unit o q nf h1 h2 hk
    · exact cyc sam
    · rcases Nat.lt_trichotomy i k with h3 | rfl | h3
      · exact cyc (swp (cyc (cyc (jac_unit o q nf h3 h2 hj))))
      · exact cyc (cyc sam)
      · exact cyc (cyc (jac_unit o q nf h3 h1 hj))
  · exact sam
  · rcases Nat.lt_trichotomy j k with h2 | rfl | h2
    · rcases Nat.lt_trichotomy i k with h3 | rfl | h3
      · exact swp (jac_unit o q nf h1 h3 hk)
      · exact cyc (cyc sam)
      · exact cyc (jac_unit o q nf h2 h3 hi)
    · exact cyc sam
    · exact swp (cyc (cyc (jac_unit o q nf h2 h1 hi)))
theorem jac_zero (o : OkW p n W) (q : OkB p n B) (nf : NoFault p W B n) (f g h : Vec) : Eqv p n W (jac B n f g h) fun _ => 0 := by
  have cyc : ∀ {a b c : Vec}, Eqv p n W (jac B n b c a) (fun _ => 0) → Eqv p n W (jac B n a b c) fun _ => 0 := fun h => (Eqv.of_eq fun t => jac_cyc _ _ _ t).trans h
  refine jac_of fun i hi => cyc (jac_of fun j hj => cyc (jac_of fun k hk => cyc ?_))
  exact jac_units o q nf hi hj hk
section
variable {X Y Z : Vec}
def ev2 (B : List (List (List Int))) (n : Nat) (X Y Z : Vec) (a : List Int) : Vec := fun t => at_ a 3 * brv B n X Y t + at_ a 4 * brv B n X Z t + at_ a 5 * brv B n Y Z t
end
end Go.Proofs
namespace Go.Proofs
open Go.Ab Go.Lie
variable {p : Int} {n : Nat} {W : List (List Int)} {B : List (List (List Int))} {id : Prop}
theorem gen_brL (o : OkW p n W) (q : OkB p n B) (nf : NoFault p W B n) {u w : List (List Int)} {f g : Vec} (hf : Gen p n W u f) (hg : Gen p n W w g) : Gen p n W (brL p W B n u w) (brv B n f g) := by
  have hS := gen_sub (p := p) (n := n) (W := W) (brL p W B n u w)
  have z1 : ∀ (f : Vec) (t : Nat), brv B n (fun _ => 0) f t = 0 := fun f t => by
    have := brv_mul (B := B) (n := n) 0 (fun _ => 0) f t
    simpa using this
  refine gen_le (S := fun f => Gen p n W (brL p W B n u w) (brv B n f g)) ⟨hS.eqv _ _ (Eqv.of_eq (z1 g)) hS.zero, fun f f' h h' => hS.eqv _ _ (Eqv.of_eq fun t => brv_add f f' g t) (hS.add _ _ h h'), fun k f h => hS.eqv _ _ (Eqv.of_eq fun t => brv_mul k f g t) (hS.mul k _ h), fun f f' h h' => hS.eqv _ _ (brv_eqv o q nf g h) h'⟩ (fun x hx => ?_) hf
  refine gen_le (S := fun g => Gen p n W (brL p W B n u w) (brv B n (at_ x) g)) ⟨hS.eqv _ _ (Eqv.of_eq fun t => by rw [brv_anti, z1]; rfl) hS.zero, fun f f' h h' => hS.eqv _ _ (Eqv.of_eq fun t => brv_add2 (at_ x) f f' t) (hS.add _ _ h h'), fun k f h => hS.eqv _ _ (Eqv.of_eq fun t => brv_mul2 k (at_ x) f t) (hS.mul k _ h), fun f f' h h' => hS.eqv _ _ (brv_eqv2 o q nf (at_ x) h) h'⟩ (fun y hy => ?_) hg
  exact hS.eqv _ _ (br_eqv o q x y).symm (gen_mem (List.mem_flatMap.2 ⟨x, hx, List.mem_map.2 ⟨y, hy, rfl⟩⟩))
def Shut (B : List (List (List Int))) (n : Nat) (id : Prop) (S : Vec → Prop) : Prop := ∀ f g, S f → (id ∨ S g) → S (brv B n f g)
structure Grw (p : Int) (n : Nat) (W : List (List Int)) (B : List (List (List Int))) (id : Prop) (gens u : List (List Int)) : Prop where
  base : Base p n W u
  red : Red u
  mem : ∀ v ∈ gens, Gen p n W u (at_ v)
  low : ∀ S, IsSub p n W S → (∀ v ∈ gens, S (at_ v)) → Shut B n id S → ∀ f, Gen p n W u f → S f
structure ClsOf (p : Int) (n : Nat) (W : List (List Int)) (B : List (List (List Int))) (id : Prop) (gens u : List (List Int)) : Prop extends Grw p n W B id gens u where
  clo : Shut B n id (Gen p n W u)
theorem ClsOf.unique (o : OkW p n W) {gens u v : List (List Int)} (a : ClsOf p n W B id gens u) (b : ClsOf p n W B id gens v) : u = v :=
  canon_unique o a.base a.red b.base b.red (a.low _ (gen_sub v) b.mem b.clo) (b.low _ (gen_sub u) a.mem a.clo)
theorem Grw.start {gens u : List (List Int)} (c : Canon p n W gens u) : Grw p n W B id gens u :=
  ⟨c.base, c.red, fun v hv => (c.gen _).1 (gen_mem hv), fun S hS hg _ f hf => gen_le hS hg ((c.gen f).2 hf)⟩
theorem Grw.len (o : OkW p n W) {gens u : List (List Int)} (a : Grw p n W B id gens u) : u.length ≤ n := asc_length (fun v hv => (a.base.led v hv).2.1) a.base.asc
structure Rnd (p : Int) (n : Nat) (W : List (List Int)) (B : List (List (List Int))) (id : Prop) (u v : List (List Int)) : Prop where
  base : Base p n W v
  red : Red v
  up : ∀ f, Gen p n W u f → Gen p n W v f
  br : ∀ f g, Gen p n W u f → (id ∨ Gen p n W u g) → Gen p n W v (brv B n f g)
  low : ∀ S, IsSub p n W S → (∀ x ∈ u, S (at_ x)) → Shut B n id S → ∀ f, Gen p n W v f → S f
theorem Grw.next {gens u v : List (List Int)} (a : Grw p n W B id gens u) (r : Rnd p n W B id u v) : Grw p n W B id gens v :=
  ⟨r.base, r.red, fun x hx => r.up _ (a.mem x hx), fun S hS hg hs => r.low S hS (fun x hx => a.low S hS hg hs _ (gen_mem hx)) hs⟩
theorem Grw.done (o : OkW p n W) {gens u v : List (List Int)} (a : Grw p n W B id gens u) (r : Rnd p n W B id u v) (hl : v.length ≤ u.length) : ClsOf p n W B id gens u :=
  ⟨a, fun f g hf hg => (base_le o a.base r.base r.up).2 hl _ (r.br f g hf hg)⟩
theorem Grw.less (o : OkW p n W) {gens u v : List (List Int)} (a : Grw p n W B id gens u) (r : Rnd p n W B id u v) (hl : v.length ≠ u.length) : u.length < v.length := by
  have := (base_le o a.base r.base r.up).1
  omega
theorem Rnd.same (o : OkW p n W) {u v : List (List Int)} (hu : Base p n W u) (ru : Red u) (r : Rnd p n W B id u v) : v = u ↔ v.length = u.length :=
  ⟨fun e => by rw [e], fun e => (canon_unique o hu ru r.base r.red r.up ((base_le o hu r.base r.up).2 (by omega))).symm⟩
theorem rnd_of (o : OkW p n W) (q : OkB p n B) {u L v : List (List Int)} (c : Canon p n W L v) (h1 : ∀ x ∈ u, Gen p n W L (at_ x)) (h2 : ∀ f g, Gen p n W u f → (id ∨ Gen p n W u g) → Gen p n W L (brv B n f g))
    (h3 : ∀ S, IsSub p n W S → (∀ x ∈ u, S (at_ x)) → Shut B n id S → ∀ x ∈ L, S (at_ x)) : Rnd p n W B id u v :=
  ⟨c.base, c.red, fun f hf => (c.gen f).1 (gen_mono h1 hf), fun f g hf hg => (c.gen _).1 (h2 f g hf hg), fun S hS hu hs f hf => gen_le hS (h3 S hS hu hs) ((c.gen f).2 hf)⟩
theorem brL_mem {u w : List (List Int)} {z : List Int} : z ∈ brL p W B n u w ↔ ∃ x ∈ u, ∃ y ∈ w, z = br p W B n x y := by
  constructor
  · intro h
    obtain ⟨x, hx, h⟩ := List.mem_flatMap.1 h
    obtain ⟨y, hy, rfl⟩ := List.mem_map.1 h
    exact ⟨x, hx, y, hy, rfl⟩
  · rintro ⟨x, hx, y, hy, rfl⟩
    exact List.mem_flatMap.2 ⟨x, hx, List.mem_map.2 ⟨y, hy, rfl⟩⟩
theorem shut_br (o : OkW p n W) (q : OkB p n B) {S : Vec → Prop} (hS : IsSub p n W S) (hs : Shut B n id S) {x y : List Int} (hx : S (at_ x)) (hy : id ∨ S (at_ y)) : S (at_ (br p W B n x y)) := hS.eqv _ _ (br_eqv o q x y) (hs _ _ hx hy)
def wl (n : Nat) (id : Prop) (w : List (List Int)) : Prop := (id ∧ w = units n) ∨ (¬ id ∧ w = [])
theorem rnd_impl (o : OkW p n W) (q : OkB p n B) (nf : NoFault p W B n) {u w v : List (List Int)} (hw : wl n id w) (c : Canon p n W (u ++ brL p W B n u (u ++ w)) v) : Rnd p n W B id u v := by
  refine rnd_of o q c (fun x hx => gen_mem (by simp [hx])) (fun f g hf hg => ?_) fun S hS hu hs x hx => ?_
  · rcases hg with hi | hg
    · rcases hw with ⟨_, rfl⟩ | ⟨h, _⟩
      · refine gen_sublist (fun z hz => ?_) (gen_br o q nf hf g)
        obtain ⟨x, hx, y, hy, rfl⟩ := brL_mem.1 hz
        exact List.mem_append_right _ (brL_mem.2 ⟨x, hx, y, List.mem_append_right _ hy, rfl⟩)
      · exact absurd hi h
    · refine gen_sublist (fun z hz => ?_) (gen_brL o q nf hf hg)
      obtain ⟨x, hx, y, hy, rfl⟩ := brL_mem.1 hz
      exact List.mem_append_right _ (brL_mem.2 ⟨x, hx, y, List.mem_append_left _ hy, rfl⟩)
  · rcases List.mem_append.1 hx with h | h
    · exact hu x h
    · obtain ⟨x', hx', y, hy, rfl⟩ := brL_mem.1 h
      refine shut_br o q hS hs (hu x' hx') ?_
      rcases List.mem_append.1 hy with e | e
      · exact .inr (hu y e)
      · rcases hw with ⟨hi, _⟩ | ⟨_, rfl⟩
        · exact .inl hi
        · cases e
theorem rnd_spec (o : OkW p n W) (q : OkB p n B) (nf : NoFault p W B n) {u w b v : List (List Int)} (hw : (id ∧ w = units n) ∨ (¬ id ∧ w = u)) (cb : Canon p n W (brL p W B n u w) b) (c : Canon p n W (u ++ b) v) : Rnd p n W B id u v := by
  have hb : ∀ {f}, Gen p n W (brL p W B n u w) f → Gen p n W (u ++ b) f := fun {f} hf => gen_sublist (fun z hz => List.mem_append_right _ hz) ((cb.gen f).1 hf)
  refine rnd_of o q c (fun x hx => gen_mem (by simp [hx])) (fun f g hf hg => ?_) fun S hS hu hs x hx => ?_
  · rcases hw with ⟨hi, rfl⟩ | ⟨hi, rfl⟩
    · exact hb (gen_br o q nf hf g)
    · rcases hg with h | h
      · exact absurd h hi
      · exact hb (gen_brL o q nf hf h)
  · rcases List.mem_append.1 hx with h | h
    · exact hu x h
    · refine gen_le hS (fun z hz => ?_) ((cb.gen _).2 (gen_mem h))
      obtain ⟨x, hx, y, hy, rfl⟩ := brL_mem.1 hz
      refine shut_br o q hS hs (hu x hx) ?_
      rcases hw with ⟨hi, rfl⟩ | ⟨hi, rfl⟩
      · exact .inl hi
      · exact .inr (hu y hy)
end Go.Proofs
namespace Go.Proofs
open Go.Ab Go.Lie
variable {p : Int} {n : Nat} {W : List (List Int)} {B : List (List (List Int))} {u : List (List Int)}
def lft (u : List (List Int)) (n : Nat) : List Nat := (List.range n).filter fun i => u.all fun v => dep v != i
theorem lft_mem {i : Nat} : i ∈ lft u n ↔ i < n ∧ ∀ v ∈ u, dep v ≠ i := by
  simp [lft]
theorem lft_asc (u : List (List Int)) (n : Nat) : (lft u n).Pairwise (· < ·) := List.Pairwise.filter _ List.pairwise_lt_range
def lf (u : List (List Int)) (n a : Nat) : Nat := (lft u n).getD a 0
theorem lf_eq {a : Nat} (h : a < (lft u n).length) : lf u n a = (lft u n)[a] := by simp [lf, List.getD_eq_getElem?_getD, h]
theorem lf_spec {a : Nat} (h : a < (lft u n).length) : lf u n a < n ∧ ∀ v ∈ u, dep v ≠ lf u n a := by
  rw [lf_eq h]; exact lft_mem.1 (List.getElem_mem h)
theorem lf_lt {a b : Nat} (hab : a < b) (h : b < (lft u n).length) : lf u n a < lf u n b := by
  rw [lf_eq h, lf_eq (by omega)]
  exact List.pairwise_iff_getElem.1 (lft_asc u n) a b (by omega) h hab
theorem lf_inj {a b : Nat} (ha : a < (lft u n).length) (hb : b < (lft u n).length) (e : lf u n a = lf u n b) : a = b := by
  rcases Nat.lt_trichotomy a b with h | h | h
  · have := lf_lt h hb; omega
  · exact h
  · have := lf_lt h ha; omega
theorem lf_of {j : Nat} (hj : j < n) (h : ∀ v ∈ u, dep v ≠ j) : ∃ a, a < (lft u n).length ∧ lf u n a = j := by
  obtain ⟨a, ha, e⟩ := List.mem_iff_getElem.1 (lft_mem.2 ⟨hj, h⟩)
  exact ⟨a, ha, by rw [lf_eq ha]; exact e⟩
theorem filter_both (q : Nat → Bool) : ∀ l : List Nat, (l.filter q).length + (l.filter fun x => !q x).length = l.length
  | [] => rfl
  | x :: l => by
    have ih := filter_both q l
    cases h : q x <;> simp [h] <;> omega
theorem lft_length (hb : Base p n W u) : (lft u n).length + u.length = n := by
  have h1 : ((List.range n).filter fun i => !(u.all fun v => dep v != i)) = u.map dep := by
    have hm : ∀ i, i ∈ ((List.range n).filter fun i => !(u.all fun v => dep v != i)) ↔ i ∈ u.map dep := fun i => by
      simp only [List.mem_filter, List.mem_range, List.mem_map]
      constructor
      · rintro ⟨h1, h2⟩
        simp at h2
        exact h2
      · rintro ⟨v, hv, rfl⟩
        exact ⟨(hb.led v hv).2.1, by simp; exact ⟨v, hv, rfl⟩⟩
    have a1 := asc_sub (b := u.map dep) (a := (List.range n).filter fun i => !(u.all fun v => dep v != i)) (List.Pairwise.filter _ List.pairwise_lt_range) hb.deps fun x hx => (hm x).1 hx
    have a2 := asc_sub (a := u.map dep) (b := (List.range n).filter fun i => !(u.all fun v => dep v != i)) hb.deps (List.Pairwise.filter _ List.pairwise_lt_range) fun x hx => (hm x).2 hx
    exact a1.2 a2.1
  have h2 := filter_both (fun i => u.all fun v => dep v != i) (List.range n)
  rw [h1, List.length_range, List.length_map] at h2
  unfold lft
  omega
def im1 (p : Int) (W : List (List Int)) (u : List (List Int)) (n : Nat) (x : List Int) : List Int := (lft u n).map fun i => at_ (redL p W u x) i
def qW (p : Int) (W : List (List Int)) (u : List (List Int)) (n : Nat) : List (List Int) := (List.range (lft u n).length).map fun a => im1 p W u n (W.getD (lf u n a) [])
def qE (B : List (List (List Int))) (i j : Nat) : List Int := (B.getD i []).getD (j - i - 1) []
def qR (p : Int) (W : List (List Int)) (B : List (List (List Int))) (u : List (List Int)) (n a : Nat) : List (List Int) := (List.range ((lft u n).length - 1 - a)).map fun k => im1 p W u n (qE B (lf u n a) (lf u n (a + 1 + k)))
def qB (p : Int) (W : List (List Int)) (B : List (List (List Int))) (u : List (List Int)) (n : Nat) : List (List (List Int)) := (List.range (lft u n).length).map (qR p W B u n)
theorem im1_length (x : List Int) : (im1 p W u n x).length = (lft u n).length := by simp [im1]
theorem im1_at (x : List Int) {a : Nat} (h : a < (lft u n).length) : at_ (im1 p W u n x) a = at_ (redL p W u x) (lf u n a) := by
  rw [at_eq (by rw [im1_length]; exact h), lf_eq h]; simp [im1]
structure Idl (p : Int) (n : Nat) (W : List (List Int)) (B : List (List (List Int))) (u : List (List Int)) : Prop where
  o : OkW p n W
  q : OkB p n B
  nf : NoFault p W B n
  c : Canon p n W u u
  s : ∀ f g, Gen p n W u f → Gen p n W u (brv B n f g)
def Cg (p : Int) (n : Nat) (W : List (List Int)) (u : List (List Int)) (f g : Vec) : Prop := Gen p n W u fun j => f j - g j
theorem Cg.of {f g : Vec} (h : Eqv p n W f g) : Cg p n W u f g :=
  (gen_sub u).eqv _ _ ((h.add (Eqv.refl fun j => -1 * g j)).trans (Eqv.of_eq fun j => by omega) |> fun e => (Eqv.of_eq fun j => by omega).trans e) (gen_sub u).zero
theorem Cg.of_eq {f g : Vec} (h : ∀ j, f j = g j) : Cg p n W u f g := Cg.of (Eqv.of_eq h)
theorem Cg.trans {f g k : Vec} (h : Cg p n W u f g) (h' : Cg p n W u g k) : Cg p n W u f k :=
  (gen_sub u).eqv _ _ (Eqv.of_eq fun j => by omega) ((gen_sub u).add _ _ h h')
theorem Cg.symm {f g : Vec} (h : Cg p n W u f g) : Cg p n W u g f := (gen_sub u).eqv _ _ (Eqv.of_eq fun j => by omega) ((gen_sub u).mul (-1) _ h)
theorem Cg.add {f g f' g' : Vec} (h : Cg p n W u f g) (h' : Cg p n W u f' g') : Cg p n W u (fun j => f j + f' j) fun j => g j + g' j :=
  (gen_sub u).eqv _ _ (Eqv.of_eq fun j => by show (f j + f' j) - (g j + g' j) = (f j - g j) + (f' j - g' j); omega) ((gen_sub u).add _ _ h h')
theorem Cg.mul (k : Int) {f g : Vec} (h : Cg p n W u f g) : Cg p n W u (fun j => k * f j) fun j => k * g j :=
  (gen_sub u).eqv _ _ (Eqv.of_eq fun j => by rw [← Int.mul_sub]) ((gen_sub u).mul k _ h)
theorem Cg.sum : ∀ {m : Nat} {F G : Nat → Vec}, (∀ k, k < m → Cg p n W u (F k) (G k)) → Cg p n W u (fun j => sumN m fun k => F k j) fun j => sumN m fun k => G k j
  | 0, F, G, _ => Cg.of_eq fun j => rfl
  | m + 1, F, G, h => (Cg.add (Cg.sum fun k hk => h k (by omega)) (h m (by omega))).trans (Cg.of_eq fun j => rfl) |> fun e => (Cg.of_eq fun j => rfl).trans e
theorem Cg.red (o : OkW p n W) (hu : ∀ v ∈ u, El p n v) {x : List Int} (hx : El p n x) : Cg p n W u (at_ x) (at_ (redL p W u x)) := redL_gen o hu hx
theorem Idl.brv (d : Idl p n W B u) {f f' g g' : Vec} (h : Cg p n W u f f') (h' : Cg p n W u g g') : Cg p n W u (brv B n f g) (Go.Proofs.brv B n f' g') := by
  have e1 := d.s _ g h
  have e2 := (gen_sub u).mul (-1) _ (d.s _ f' h')
  refine (gen_sub u).eqv _ _ (Eqv.of_eq fun t => ?_) ((gen_sub u).add _ _ e1 e2)
  have a1 : Go.Proofs.brv B n (fun j => f j - f' j) g t = Go.Proofs.brv B n f g t + -1 * Go.Proofs.brv B n f' g t := by
    rw [← brv_mul, ← brv_add]
    exact brv_congr (fun j _ => by omega) (fun _ _ => rfl) t
  have a2 : Go.Proofs.brv B n (fun j => g j - g' j) f' t = Go.Proofs.brv B n g f' t + -1 * Go.Proofs.brv B n g' f' t := by
    rw [← brv_mul, ← brv_add]
    exact brv_congr (fun j _ => by omega) (fun _ _ => rfl) t
  show _ = Go.Proofs.brv B n (fun j => f j - f' j) g t + -1 * Go.Proofs.brv B n (fun j => g j - g' j) f' t
  rw [a1, a2, brv_anti g f', brv_anti g' f']
  omega
theorem red_unique (o : OkW p n W) (hb : Base p n W u) {a b : List Int} (ha : El p n a) (hb' : El p n b) (za : ∀ v ∈ u, at_ a (dep v) = 0) (zb : ∀ v ∈ u, at_ b (dep v) = 0) (h : Cg p n W u (at_ a) (at_ b)) : a = b := by
  have hl := ha.1.trans hb'.1.symm
  have hyl : (lmix 1 a (-1) b).length = n := by rw [lmix_length hl]; exact ha.1
  have hp := o.pr
  unfold okp at hp
  rcases Nat.lt_or_ge (dep (lmix 1 a (-1) b)) n with hd | hd
  rotate_left
  · refine el_ext ha hb' fun j hj => ?_
    have := dep_zero (v := lmix 1 a (-1) b) (j := j) (by omega)
    rw [lmix_at hl] at this
    omega
  exfalso
  have hz : ∀ j, j < dep (lmix 1 a (-1) b) → at_ (norm p W (lmix 1 a (-1) b)) j = 0 := norm_head o hyl (by omega) fun j hj => dep_zero hj
  have hne : at_ (norm p W (lmix 1 a (-1) b)) (dep (lmix 1 a (-1) b)) ≠ 0 := by
    rw [norm_lead o hyl hd fun j hj => dep_zero hj]
    have h1 := dep_ne (v := lmix 1 a (-1) b) (by rw [hyl]; exact hd)
    rw [lmix_at hl] at h1 ⊢
    have b1 := ha.at0 o (dep (lmix 1 a (-1) b))
    have b2 := hb'.at0 o (dep (lmix 1 a (-1) b))
    intro h0
    have := Int.emod_add_mul_ediv (1 * at_ a (dep (lmix 1 a (-1) b)) + -1 * at_ b (dep (lmix 1 a (-1) b))) p
    rw [h0, Int.zero_add] at this
    generalize (1 * at_ a (dep (lmix 1 a (-1) b)) + -1 * at_ b (dep (lmix 1 a (-1) b))) / p = q at this
    rcases Int.lt_trichotomy q 0 with y | y | y
    · have := Int.mul_le_mul_of_nonneg_left (show q ≤ -1 by omega) (show 0 ≤ p by omega)
      omega
    · rw [y] at this; omega
    · have := Int.mul_le_mul_of_nonneg_left (show 1 ≤ q by omega) (show 0 ≤ p by omega)
      omega
  have hdep := dep_eq hz hne
  have hg : Gen p n W u (at_ (norm p W (lmix 1 a (-1) b))) := by
    refine (gen_sub u).eqv _ _ ((norm_eqv o hyl).trans (Eqv.of_eq fun j => ?_)) h
    rw [lmix_at hl]; omega
  obtain ⟨t, ht, et⟩ := gen_dep o hb (norm_El o hyl) hg (by omega)
  have hdn := dep_ne (v := lmix 1 a (-1) b) (by rw [hyl]; exact hd)
  rw [lmix_at hl] at hdn
  have e : dep (lmix 1 a (-1) b) = dep t := by omega
  rw [e, za t ht, zb t ht] at hdn
  omega
def psi (u : List (List Int)) (n : Nat) (f : Vec) : Vec := fun j => sumN (lft u n).length fun a => f a * at_ (unitL n (lf u n a)) j
theorem psi_at {f : Vec} {a : Nat} (h : a < (lft u n).length) : psi u n f (lf u n a) = f a := by
  unfold psi
  rw [sumN_one h fun i hi hne => by rw [unit_at (lf_spec hi).1, if_neg (fun e => hne (lf_inj h hi e).symm), Int.mul_zero], unit_at (lf_spec h).1, if_pos rfl, Int.mul_one]
theorem psi_dep {f : Vec} {j : Nat} (h : ∃ v ∈ u, dep v = j) : psi u n f j = 0 := by
  obtain ⟨v, hv, e⟩ := h
  exact sumN_zero _ fun i hi => by rw [unit_at (lf_spec hi).1, if_neg (fun e2 => (lf_spec hi).2 v hv (e.trans e2)), Int.mul_zero]
theorem psi_ge {f : Vec} {j : Nat} (h : n ≤ j) : psi u n f j = 0 := sumN_zero _ fun i hi => by
  rw [unit_at (lf_spec hi).1, if_neg (by have := (lf_spec hi).1; omega), Int.mul_zero]
theorem psi_of {f g : Vec} (h : ∀ a, a < (lft u n).length → g (lf u n a) = f a) (h0 : ∀ j, n ≤ j → g j = 0) (hd : ∀ v ∈ u, g (dep v) = 0) (j : Nat) : psi u n f j = g j := by
  rcases Nat.lt_or_ge j n with hj | hj
  · by_cases e : ∃ v ∈ u, dep v = j
    · rw [psi_dep e]
      obtain ⟨v, hv, rfl⟩ := e
      exact (hd v hv).symm
    · obtain ⟨a, ha, rfl⟩ := lf_of hj fun v hv e2 => e ⟨v, hv, e2⟩
      rw [psi_at ha, h a ha]
  · rw [psi_ge hj, h0 j hj]
theorem psi_add (f g : Vec) (j : Nat) : psi u n (fun a => f a + g a) j = psi u n f j + psi u n g j := by
  unfold psi
  rw [← sumN_add]
  exact sumN_congr fun a _ => Int.add_mul _ _ _
theorem psi_mul (k : Int) (f : Vec) (j : Nat) : psi u n (fun a => k * f a) j = k * psi u n f j := by
  unfold psi
  rw [← sumN_mul]
  exact sumN_congr fun a _ => Int.mul_assoc _ _ _
theorem psi_sum : ∀ (m : Nat) (F : Nat → Vec) (j : Nat), psi u n (fun a => sumN m fun k => F k a) j = sumN m fun k => psi u n (F k) j
  | 0, F, j => sumN_zero _ fun i _ => Int.zero_mul _
  | m + 1, F, j => by
    show psi u n (fun a => (sumN m fun k => F k a) + F m a) j = _
    rw [psi_add, psi_sum m F j]; rfl
theorem psi_unit {a : Nat} (h : a < (lft u n).length) (j : Nat) : psi u n (at_ (unitL (lft u n).length a)) j = at_ (unitL n (lf u n a)) j := by
  unfold psi
  rw [sumN_one h fun i hi hne => by rw [unit_at h, if_neg hne, Int.zero_mul], unit_at h, if_pos rfl, Int.one_mul]
theorem psi_congr {f g : Vec} (h : ∀ a, a < (lft u n).length → f a = g a) (j : Nat) : psi u n f j = psi u n g j := sumN_congr fun a ha => by rw [h a ha]
theorem psi_im (o : OkW p n W) (hb : Base p n W u) {x : List Int} (hx : El p n x) (j : Nat) : psi u n (at_ (im1 p W u n x)) j = at_ (redL p W u x) j :=
  psi_of (fun a ha => (im1_at x ha).symm) (fun j hj => (redL_el o hb.els hx).beyond hj) (fun v hv => (redL_at o hb.led hb.asc hx).1 v hv) j
theorem psi_im_cg (o : OkW p n W) (hb : Base p n W u) {x : List Int} (hx : El p n x) : Cg p n W u (psi u n (at_ (im1 p W u n x))) (at_ x) :=
  (Cg.of_eq (psi_im o hb hx)).trans (Cg.red o hb.els hx).symm
theorem psi_unique (o : OkW p n W) (hb : Base p n W u) {a b : List Int} (ha : El p (lft u n).length a) (hb' : El p (lft u n).length b) (h : Cg p n W u (psi u n (at_ a)) (psi u n (at_ b))) : a = b := by
  have hp := o.pr
  unfold okp at hp
  have el : ∀ {c : List Int}, El p (lft u n).length c → El p n (tab n (psi u n (at_ c))) ∧ (∀ j, at_ (tab n (psi u n (at_ c))) j = psi u n (at_ c) j) := fun {c} hc => by
    have hat : ∀ j, at_ (tab n (psi u n (at_ c))) j = psi u n (at_ c) j := tab_at _ fun j hj => psi_ge hj
    refine ⟨⟨tab_length _, fun y hy => ?_⟩, hat⟩
    obtain ⟨j, hj, rfl⟩ := List.mem_iff_getElem.1 hy
    rw [← at_eq hj, hat]
    rw [tab_length] at hj
    by_cases e : ∃ v ∈ u, dep v = j
    · rw [psi_dep e]; omega
    · obtain ⟨i, hi, rfl⟩ := lf_of hj fun v hv e2 => e ⟨v, hv, e2⟩
      rw [psi_at hi]
      exact hc.2.at (by omega) i
  have ea := el ha
  have eb := el hb'
  have e := red_unique o hb ea.1 eb.1 (fun v hv => by rw [ea.2]; exact psi_dep ⟨v, hv, rfl⟩) (fun v hv => by rw [eb.2]; exact psi_dep ⟨v, hv, rfl⟩) ((Cg.of_eq ea.2).trans (h.trans (Cg.of_eq eb.2).symm))
  refine el_ext ha hb' fun j hj => ?_
  rw [← psi_at (n := n) (u := u) (f := at_ a) hj, ← ea.2, e, eb.2, psi_at hj]
theorem im1_el (o : OkW p n W) (hb : Base p n W u) {x : List Int} (hx : El p n x) : El p (lft u n).length (im1 p W u n x) := by
  refine ⟨im1_length x, fun y hy => ?_⟩
  obtain ⟨j, hj, rfl⟩ := List.mem_map.1 hy
  have := o.pr
  unfold okp at this
  exact (redL_el o hb.els hx).2.at (by omega) j
theorem im1_head (o : OkW p n W) (hb : Base p n W u) {x : List Int} (hx : El p n x) {d a : Nat} (h : ∀ j, j ≤ d → at_ x j = 0) (hd : d < n) (ha : a < (lft u n).length) (hl : lf u n a ≤ d) : at_ (im1 p W u n x) a = 0 := by
  rw [im1_at x ha]
  have h1 := redL_dep o hb.led hb.asc hx
  have h2 := dep_ge (v := x) (d := d + 1) (by rw [hx.1]; omega) fun j hj => h j (by omega)
  exact dep_zero (by omega)
theorem qW_length : (qW p W u n).length = (lft u n).length := by simp [qW]
theorem qW_get {a : Nat} (h : a < (lft u n).length) : (qW p W u n).getD a [] = im1 p W u n (W.getD (lf u n a) []) := by simp [qW, List.getD_eq_getElem?_getD, h]
theorem qB_length : (qB p W B u n).length = (lft u n).length := by simp [qB]
theorem qB_get {a : Nat} (h : a < (lft u n).length) : (qB p W B u n).getD a [] = qR p W B u n a := by simp [qB, List.getD_eq_getElem?_getD, h]
theorem qR_length (a : Nat) : (qR p W B u n a).length = (lft u n).length - 1 - a := by simp [qR]
theorem qR_get {a k : Nat} (h : k < (lft u n).length - 1 - a) : (qR p W B u n a).getD k [] = im1 p W u n (qE B (lf u n a) (lf u n (a + 1 + k))) := by simp [qR, List.getD_eq_getElem?_getD, h]
theorem W_el (o : OkW p n W) {i : Nat} (hi : i < n) : El p n (W.getD i []) ∧ ∀ j, j ≤ i → at_ (W.getD i []) j = 0 := by
  have hiW : i < W.length := by rw [o.len]; exact hi
  rw [getD_row hiW]
  exact ⟨⟨(o.row i hiW).1, (o.row i hiW).2.1⟩, (o.row i hiW).2.2⟩
theorem qE_el (q : OkB p n B) {i j : Nat} (hij : i < j) (hj : j < n) : El p n (qE B i j) ∧ ∀ t, t ≤ j → at_ (qE B i j) t = 0 := by
  have hiB : i < B.length := by rw [q.len]; omega
  have hr := q.row i hiB
  have hk : j - i - 1 < B[i].length := by rw [hr]; omega
  have h := q.ent i hiB (j - i - 1) hk
  unfold qE
  rw [getD_row' hiB, getD_row' hk]
  exact ⟨h.1, fun t ht => h.2 t (by omega)⟩
theorem q_OkW (d : Idl p n W B u) : OkW p (lft u n).length (qW p W u n) := by
  have o := d.o
  have hb := d.c.base
  have hl := lft_length hb
  refine ⟨o.pr, by have := o.le; omega, qW_length, fun a ha => ?_⟩
  have ha' : a < (lft u n).length := by rw [qW_length] at ha; exact ha
  have e : (qW p W u n)[a] = im1 p W u n (W.getD (lf u n a) []) := by rw [← getD_row ha, qW_get ha']
  have hs := lf_spec ha'
  have hw := W_el o hs.1
  have hel := im1_el o hb hw.1
  rw [e]
  refine ⟨hel.1, hel.2, fun j hj => im1_head o hb hw.1 hw.2 hs.1 (by omega) ?_⟩
  rcases Nat.lt_or_ge j a with h | h
  · have := lf_lt h ha'; omega
  · rw [show j = a by omega]; exact Nat.le_refl _
theorem q_OkB (d : Idl p n W B u) : OkB p (lft u n).length (qB p W B u n) := by
  have o := d.o
  have hb := d.c.base
  refine ⟨qB_length, fun a ha => ?_, fun a ha k hk => ?_⟩
  · have ha' : a < (lft u n).length := by rw [qB_length] at ha; exact ha
    rw [← getD_row' ha, qB_get ha', qR_length]
  · have ha' : a < (lft u n).length := by rw [qB_length] at ha; exact ha
    have e : (qB p W B u n)[a] = qR p W B u n a := by rw [← getD_row' ha, qB_get ha']
    have hk' : k < (lft u n).length - 1 - a := by rw [e, qR_length] at hk; exact hk
    have e2 : (qB p W B u n)[a][k] = im1 p W u n (qE B (lf u n a) (lf u n (a + 1 + k))) := by
      rw [← getD_row' hk, ← getD_row' ha, qB_get ha', qR_get hk']
    have hlt := lf_lt (u := u) (n := n) (a := a) (b := a + 1 + k) (by omega) (by omega)
    have hs := lf_spec (u := u) (n := n) (a := a + 1 + k) (by omega)
    have he := qE_el d.q hlt hs.1
    rw [e2]
    refine ⟨im1_el o hb he.1, fun j hj => im1_head o hb he.1 he.2 hs.1 (by omega) ?_⟩
    rcases Nat.lt_or_ge j (a + 1 + k) with h | h
    · have := lf_lt h (show a + 1 + k < (lft u n).length by omega); omega
    · rw [show j = a + 1 + k by omega]; exact Nat.le_refl _
end Go.Proofs
namespace Go.Proofs
open Go.Ab Go.Lie
variable {p : Int} {n : Nat} {W : List (List Int)} {B : List (List (List Int))} {u : List (List Int)}
theorem psi_rel (o : OkW p n W) (hb : Base p n W u) {i : Nat} (hi : i < (lft u n).length) : Cg p n W u (psi u n (rel p (qW p W u n) i)) fun _ => 0 := by
  have hs := lf_spec hi
  have hw := (W_el o hs.1).1
  have e : ∀ j, j < (lft u n).length → rel p (qW p W u n) i j = at_ (im1 p W u n (W.getD (lf u n i) [])) j + -p * at_ (unitL (lft u n).length i) j := fun j hj => by
    rw [rel, w_, qW_get hi, unit_at hi]
    split <;> omega
  have e2 : ∀ t, psi u n (rel p (qW p W u n) i) t = psi u n (at_ (im1 p W u n (W.getD (lf u n i) []))) t + -p * at_ (unitL n (lf u n i)) t := fun t => by
    rw [psi_congr e, psi_add, psi_mul, psi_unit hi]
  refine (Cg.of_eq e2).trans ((Cg.add (psi_im_cg o hb hw) (Cg.of_eq fun t => rfl)).trans (Cg.of ((Eqv.of_eq fun t => ?_).trans (Eqv.rel (p := p) (n := n) (W := W) hs.1))))
  rw [rel, unit_at hs.1]
  show at_ _ t + -p * _ = at_ _ t - _
  split <;> omega
theorem psi_eqv (o : OkW p n W) (hb : Base p n W u) {f g : Vec} (h : Eqv p (lft u n).length (qW p W u n) f g) : Cg p n W u (psi u n f) (psi u n g) := by
  obtain ⟨c, hc⟩ := h
  have e : ∀ t, psi u n f t = psi u n g t + sumN (lft u n).length fun i => c i * psi u n (rel p (qW p W u n) i) t := fun t => by
    rw [psi_congr (fun a _ => hc a), psi_add, psi_sum]
    congr 1
    exact sumN_congr fun i _ => psi_mul _ _ _
  refine (Cg.of_eq e).trans ((Cg.add (Cg.of_eq fun t => rfl) (Cg.sum (G := fun _ _ => 0) fun i hi => ((psi_rel o hb hi).mul (c i)).trans (Cg.of_eq fun t => Int.mul_zero _))).trans (Cg.of_eq fun t => ?_))
  rw [sumN_zero _ (fun _ _ => rfl)]
  exact Int.add_zero _
theorem brv_ee {i j : Nat} (hij : i < j) (hj : j < n) (t : Nat) : brv B n (at_ (unitL n i)) (at_ (unitL n j)) t = at_ (qE B i j) t := by
  have hi : i < n := by omega
  unfold brv qE
  rw [sumN_one hi fun i' hi' hne => sumN_zero _ fun k hk => by
    rw [unit_at hi, unit_at hi, unit_at hj, unit_at hj, if_neg hne]
    by_cases e : i' + 1 + k = i
    · rw [if_pos e, if_neg (show ¬ i' = j by omega)]; simp
    · rw [if_neg e]; simp]
  rw [sumN_one (k := j - i - 1) (by omega) fun k hk hne => by
    rw [unit_at hi, unit_at hi, unit_at hj, unit_at hj, if_pos rfl, if_neg (show ¬ i + 1 + k = j by omega), if_neg (show ¬ i + 1 + k = i by omega)]; simp]
  rw [unit_at hi, unit_at hi, unit_at hj, unit_at hj, if_pos rfl, if_pos (show i + 1 + (j - i - 1) = j by omega), if_neg (show ¬ i + 1 + (j - i - 1) = i by omega)]
  simp
theorem brv_sum2 (g : Vec) (t : Nat) (m : Nat) (F : Nat → Vec) : brv B n g (fun j => sumN m fun k => F k j) t = sumN m fun k => brv B n g (F k) t := by
  rw [brv_anti, brv_sum (t := t) (g := g) m F, ← sumN_mul]
  exact sumN_congr fun k _ => (brv_anti g (F k) t).symm
theorem psi_ee (d : Idl p n W B u) {a b : Nat} (ha : a < (lft u n).length) (hb : b < (lft u n).length) : Cg p n W u (psi u n (brv (qB p W B u n) (lft u n).length (at_ (unitL (lft u n).length a)) (at_ (unitL (lft u n).length b)))) (brv B n (at_ (unitL n (lf u n a))) (at_ (unitL n (lf u n b)))) := by
  have o := d.o
  have lt : ∀ {a b : Nat}, a < b → b < (lft u n).length → Cg p n W u (psi u n (brv (qB p W B u n) (lft u n).length (at_ (unitL (lft u n).length a)) (at_ (unitL (lft u n).length b)))) (brv B n (at_ (unitL n (lf u n a))) (at_ (unitL n (lf u n b)))) := fun {a b} hab hb => by
    have hl := lf_lt (u := u) (n := n) hab hb
    have hs := lf_spec hb
    have he := (qE_el d.q hl hs.1).1
    have e1 : ∀ t, brv (qB p W B u n) (lft u n).length (at_ (unitL (lft u n).length a)) (at_ (unitL (lft u n).length b)) t = at_ (im1 p W u n (qE B (lf u n a) (lf u n b))) t := fun t => by
      rw [brv_ee hab hb]
      unfold qE
      rw [qB_get (by omega), qR_get (by omega), show a + 1 + (b - a - 1) = b by omega]
      rfl
    refine (Cg.of_eq (psi_congr fun t _ => e1 t)).trans ((psi_im_cg o d.c.base he).trans (Cg.of_eq fun t => (brv_ee hl hs.1 t).symm))
  rcases Nat.lt_trichotomy a b with h | rfl | h
  · exact lt h hb
  · refine (Cg.of_eq fun t => ?_).trans (Cg.of_eq fun t => (brv_self _ t).symm)
    exact sumN_zero _ fun i _ => by rw [brv_self, Int.zero_mul]
  · refine (Cg.of_eq (fun t => ?_)).trans (((lt h ha).mul (-1)).trans (Cg.of_eq fun t => (brv_anti _ _ t).symm))
    rw [← psi_mul]
    exact psi_congr (fun t _ => brv_anti _ _ t) _
theorem psi_brv (d : Idl p n W B u) (f g : Vec) : Cg p n W u (psi u n (brv (qB p W B u n) (lft u n).length f g)) (brv B n (psi u n f) (psi u n g)) := by
  have e1 : ∀ t, psi u n (brv (qB p W B u n) (lft u n).length f g) t = sumN (lft u n).length fun a => f a * sumN (lft u n).length fun b => g b * psi u n (brv (qB p W B u n) (lft u n).length (at_ (unitL (lft u n).length a)) (at_ (unitL (lft u n).length b))) t := fun t => by
    rw [psi_congr (fun j _ => brv_units1 f g j), psi_sum]
    refine sumN_congr fun a _ => ?_
    rw [psi_mul]
    congr 1
    rw [psi_congr (fun j _ => brv_units g _ j), psi_sum]
    exact sumN_congr fun b _ => psi_mul _ _ _
  have e2 : ∀ t, brv B n (psi u n f) (psi u n g) t = sumN (lft u n).length fun a => f a * sumN (lft u n).length fun b => g b * brv B n (at_ (unitL n (lf u n a))) (at_ (unitL n (lf u n b))) t := fun t => by
    have h1 := brv_sum (B := B) (n := n) (psi u n g) t (lft u n).length fun a j => f a * at_ (unitL n (lf u n a)) j
    refine Eq.trans h1 (sumN_congr fun a _ => ?_)
    rw [brv_mul]
    congr 1
    have h2 := brv_sum2 (B := B) (n := n) (at_ (unitL n (lf u n a))) t (lft u n).length fun b j => g b * at_ (unitL n (lf u n b)) j
    refine Eq.trans h2 (sumN_congr fun b _ => ?_)
    rw [brv_mul2]
  exact (Cg.of_eq e1).trans ((Cg.sum fun a ha => (Cg.sum fun b hb => (psi_ee d ha hb).mul (g b)).mul (f a)).trans (Cg.of_eq fun t => (e2 t).symm))
theorem psi_br (d : Idl p n W B u) (a b : List Int) : Cg p n W u (psi u n (at_ (br p (qW p W u n) (qB p W B u n) (lft u n).length a b))) (brv B n (psi u n (at_ a)) (psi u n (at_ b))) :=
  (psi_eqv d.o d.c.base (br_eqv (q_OkW d) (q_OkB d) a b)).trans (psi_brv d _ _)
theorem psi_ladd (d : Idl p n W B u) {a b : List Int} (ha : El p (lft u n).length a) (hb : El p (lft u n).length b) : Cg p n W u (psi u n (at_ (ladd p (qW p W u n) a b))) fun t => psi u n (at_ a) t + psi u n (at_ b) t :=
  (psi_eqv d.o d.c.base (ladd_eqv (q_OkW d) ha hb)).trans (Cg.of_eq fun t => psi_add _ _ t)
theorem psi_lmul (d : Idl p n W B u) {a : List Int} (ha : El p (lft u n).length a) (k : Int) : Cg p n W u (psi u n (at_ (lmul p (qW p W u n) k a))) fun t => k * psi u n (at_ a) t :=
  (psi_eqv d.o d.c.base (lmul_eqv (q_OkW d) ha k)).trans (Cg.of_eq fun t => psi_mul _ _ t)
theorem q_NoFault (d : Idl p n W B u) : NoFault p (qW p W u n) (qB p W B u n) (lft u n).length := by
  have o := d.o
  have hb := d.c.base
  have o' := q_OkW d
  have q' := q_OkB d
  have pu : ∀ {i : Nat}, i < (lft u n).length → Cg p n W u (psi u n (at_ (unitL (lft u n).length i))) (at_ (unitL n (lf u n i))) := fun hi => Cg.of_eq (psi_unit hi)
  refine ⟨fun i j hi hj => ?_, fun i j k hij hjk hk => ?_⟩
  · unfold F1
    have hs := lf_spec hi
    have hw := (W_el o hs.1).1
    refine psi_unique o hb (lmix_el o' (br_el o' q') (br_el o' q')) (br_el o' q') ?_
    have e1 := (psi_lmul d (br_el o' q' (a := unitL (lft u n).length i) (b := unitL (lft u n).length j)) p).trans (((psi_br d _ _).trans (d.brv (pu hi) (pu hj))).mul p)
    have e2 : Cg p n W u (psi u n (at_ (br p (qW p W u n) (qB p W B u n) (lft u n).length ((qW p W u n).getD i []) (unitL (lft u n).length j)))) (brv B n (at_ (W.getD (lf u n i) [])) (at_ (unitL n (lf u n j)))) := by
      rw [qW_get hi]
      exact (psi_br d _ _).trans (d.brv (psi_im_cg o hb hw) (pu hj))
    refine e1.trans (Cg.trans ?_ e2.symm)
    have h0 := brv_rel o d.q d.nf hs.1 (at_ (unitL n (lf u n j)))
    have h1 : ∀ t, brv B n (rel p W (lf u n i)) (at_ (unitL n (lf u n j))) t = brv B n (at_ (W.getD (lf u n i) [])) (at_ (unitL n (lf u n j))) t + -p * brv B n (at_ (unitL n (lf u n i))) (at_ (unitL n (lf u n j))) t := fun t => by
      rw [← brv_mul, ← brv_add]
      refine brv_congr (fun k hk => ?_) (fun _ _ => rfl) t
      rw [rel, unit_at hs.1]
      show at_ _ k - _ = at_ _ k + _
      split <;> omega
    have h2 := (Cg.of (u := u) ((Eqv.of_eq fun t => (h1 t).symm).trans h0))
    refine ((h2.mul (-1)).add (Cg.of_eq (g := brv B n (at_ (W.getD (lf u n i) [])) (at_ (unitL n (lf u n j)))) fun t => rfl)).trans (Cg.of_eq fun t => ?_) |> fun e => (Cg.of_eq fun t => ?_).trans e
    · show p * _ = -1 * (_ + -p * _) + _
      grind
    · show -1 * (0 : Int) + _ = _
      omega
  · unfold F2
    have hi : i < (lft u n).length := by omega
    have hj : j < (lft u n).length := by omega
    have e : ∀ {a b c : Nat}, a < (lft u n).length → b < (lft u n).length → c < (lft u n).length → Cg p n W u (psi u n (at_ (br p (qW p W u n) (qB p W B u n) (lft u n).length (br p (qW p W u n) (qB p W B u n) (lft u n).length (unitL (lft u n).length a) (unitL (lft u n).length b)) (unitL (lft u n).length c)))) (brv B n (brv B n (at_ (unitL n (lf u n a))) (at_ (unitL n (lf u n b)))) (at_ (unitL n (lf u n c)))) := fun ha hb hc =>
      (psi_br d _ _).trans (d.brv ((psi_br d _ _).trans (d.brv (pu ha) (pu hb))) (pu hc))
    have hz : El p (lft u n).length (List.replicate (lft u n).length 0) := ⟨by simp, fun y hy => by rw [List.eq_of_mem_replicate hy]; have := o.pr.1; omega⟩
    have j0 := jac_zero o d.q d.nf (at_ (unitL n (lf u n i))) (at_ (unitL n (lf u n j))) (at_ (unitL n (lf u n k)))
    have h := psi_unique o hb (lmix_el o' (lmix_el o' (br_el o' q') (br_el o' q')) (br_el o' q')) hz (Cg.trans ((psi_ladd d (lmix_el o' (br_el o' q') (br_el o' q')) (br_el o' q')).trans (((psi_ladd d (br_el o' q') (br_el o' q')).trans ((e hi hj hk).add (e hj hk hi))).add (e hk hi hj))) ((Cg.of (u := u) ((Eqv.of_eq fun t => rfl).trans j0)).trans (Cg.of_eq fun t => (sumN_zero _ fun a _ => by rw [at_rep, Int.zero_mul]).symm)))
    exact fun y hy => List.eq_of_mem_replicate (Eq.mp (congrArg (fun l => y ∈ l) h) hy)
theorem im_sum (d : Idl p n W B u) {x y : List Int} (hx : El p n x) (hy : El p n y) : im1 p W u n (ladd p W x y) = ladd p (qW p W u n) (im1 p W u n x) (im1 p W u n y) := by
  have o := d.o
  have hb := d.c.base
  have ix := im1_el o hb hx
  have iy := im1_el o hb hy
  refine psi_unique o hb (im1_el o hb (lmix_el o hx hy)) (lmix_el (q_OkW d) ix iy) ?_
  exact (psi_im_cg o hb (lmix_el o hx hy)).trans ((Cg.of (ladd_eqv o hx hy)).trans (((psi_im_cg o hb hx).add (psi_im_cg o hb hy)).symm.trans (psi_ladd d ix iy).symm))
theorem im_br (d : Idl p n W B u) {x y : List Int} (hx : El p n x) (hy : El p n y) : im1 p W u n (br p W B n x y) = br p (qW p W u n) (qB p W B u n) (lft u n).length (im1 p W u n x) (im1 p W u n y) := by
  have o := d.o
  have hb := d.c.base
  refine psi_unique o hb (im1_el o hb (br_el o d.q)) (br_el (q_OkW d) (q_OkB d)) ?_
  exact (psi_im_cg o hb (br_el o d.q)).trans ((Cg.of (br_eqv o d.q x y)).trans ((d.brv (psi_im_cg o hb hx) (psi_im_cg o hb hy)).symm.trans (psi_br d _ _).symm))
end Go.Proofs
