/- Maps of Lie rings, both sides. -/
import Derived.Test.YthgccplmmogcnaaCVU09
set_option linter.unusedSimpArgs false
set_option linter.unusedVariables false
namespace Go.Proofs
open Go.Ab Go.Lie
variable {σ : PHeap} {K : PV → PHeap → Prop} {p p' : Int} {n : Nat} {W W' : List (List Int)} {B B' : List (List (List Int))} {vP vB vP' vB' vL : PV} {s s' : Nat} {im : List (List Int)}

/-- The image of a combination. -/
abbrev img (p : Int) (W' : List (List Int)) (im : List (List Int)) (c : List Int) : List Int := norm p W' (csum im c W'.length c.length)
/-- The images of generator i and of the later ones respect its relations. -/
def fits (p : Int) (W : List (List Int)) (B : List (List (List Int))) (W' : List (List Int)) (B' : List (List (List Int))) (im : List (List Int)) (i : Nat) : Prop :=
  lmul p W' p (im.getD i []) = img p W' im (W.getD i []) ∧
  ∀ k, k < W.length - 1 - i → br p W' B' W'.length (im.getD i []) (im.getD (i + (1 + k)) []) = img p W' im ((B.getD i []).getD k [])
def isMap (p : Int) (W : List (List Int)) (B : List (List (List Int))) (p' : Int) (W' : List (List Int)) (B' : List (List (List Int))) (im : List (List Int)) : Prop :=
  isLie p W B ∧ isLie p' W' B' ∧ p = p' ∧ im.length = W.length ∧ Els p' W'.length im ∧ ∀ i, i < im.length → fits p W B W' B' im i

theorem combination_fz {l : Nat} {w : Bool} {a : AV} {c : List Int} (hs : PtrR σ s p vP vB) (hP : FII vP W) (o : OkW p n W) (hL : FII vL im) (he : Els p n im) (hc : ∀ j, 0 ≤ at_ c j ∧ at_ c j ≤ 6) (hle : c.length ≤ im.length) (hl : l = c.length) (hb : c.length ≤ 1048576)
    (hk : ∀ v, K (.fz true v n (pis (norm p W (csum im c n c.length)))) σ) : PCalls Try.prog 126 [.ptr s 0, vL, .fz w a l (pis c)] σ K :=
  PCalls.fzN (norm_length o (csum_length he hle)) (fun K' => combination_ok hs hP o hL he hc hle hl hb) hk

theorem lieFits_ok {i : Nat} (hs : PtrR σ s p vP vB) (hs' : PtrR σ s' p vP' vB') (hR : IsR vP vB W B) (hR' : IsR vP' vB' W' B') (o : OkW p W.length W) (q : OkB p W.length B) (o' : OkW p W'.length W') (q' : OkB p W'.length B')
    (hL : FII vL im) (he : Els p W'.length im) (hil : im.length = W.length) (hi : i < im.length) (hk : ∀ t : Bool, (t = true ↔ fits p W B W' B' im i) → K (.bool t) σ) : PCalls Try.prog 96 [.ptr s 0, .ptr s' 0, vL, .int .i64 i] σ K := by
  have hn6 := o.le
  have hn6' := o'.le
  have hp := o.pr
  have hpk : -1000000000 ≤ p ∧ p ≤ 1000000000 := by unfold okp at hp; omega
  have hPP' := hR'.P
  have hLL := hL
  obtain ⟨⟨w1, a1, rP, rfl, hP⟩, ⟨w3, a3, rB, rfl, hB⟩⟩ := hR
  obtain ⟨wl, al, rl, rfl, hrl⟩ := hL
  obtain ⟨w4, a4, hr⟩ := hrl.rowI hi
  have hiW : i < W.length := by omega
  have hiB : i < B.length := by rw [q.len]; exact hiW
  obtain ⟨w5, a5, hrw⟩ := hP.rowI hiW
  obtain ⟨w6, a6, rs, hrb, hrs⟩ := hB.rowL hiB
  have hie := he _ (List.getElem_mem hi)
  have hwe := row_el o hiW
  have g1 : im.getD i [] = im[i] := getD_row' hi
  have g2 : W.getD i [] = W[i] := getD_row' hiW
  have g3 : B.getD i [] = B[i] := getD_row' hiB
  have hbl := q.row i hiB
  have fl : ∀ {A : Prop}, ¬ A → ((false = true) ↔ A) := fun h => ⟨fun x => (by cases x), fun x => absurd x h⟩
  refine pcalls_of_vp mix Try.func96 cf96 rfl ?_
  dsimp only [if96, qI, eI, nI, qD, eD]
  simp only [pw0, pw1, pw2, pw3, pw4, pw5, pw6, pw7, pw8, pw9, if_true, if_false, eq_self, nm_eq, reduceCtorEq, ↓reduceIte, Nat.reduceEqDiff, Nat.reduceLeDiff, Nat.reduceBEq, Nat.reduceAdd, Nat.reduceLT, Nat.reduceSub, Nat.reduceMul, Int.reduceEq, Int.reduceLT, Int.reduceLE, Int.reduceNeg, Int.reduceToNat, obj_rd1 hs.obj, obj_rd1 hs'.obj, hi, hiW, hr, hrw, List.getElem?_drop]
  refine timesLie_fz hs' hPP' o' hie rfl hpk fun v1 => ?_
  simp only [pw0, pw1, pw2, pw3, pw4, pw5, pw6, pw7, pw8, pw9, if_true, if_false, eq_self, nm_eq, reduceCtorEq, ↓reduceIte, Nat.reduceEqDiff, Nat.reduceLeDiff, Nat.reduceBEq, Nat.reduceAdd, Nat.reduceLT, Nat.reduceSub, Nat.reduceMul, Int.reduceEq, Int.reduceLT, Int.reduceLE, Int.reduceNeg, Int.reduceToNat, obj_rd1 hs.obj, obj_rd1 hs'.obj, hi, hiW, hr, hrw, List.getElem?_drop]
  refine combination_fz hs' hPP' o' hLL he (fun j => hwe.at hp j) (by rw [hwe.1]; omega) rfl (by rw [hwe.1]; omega) fun v2 => ?_
  simp only [pw0, pw1, pw2, pw3, pw4, pw5, pw6, pw7, pw8, pw9, if_true, if_false, eq_self, nm_eq, reduceCtorEq, ↓reduceIte, Nat.reduceEqDiff, Nat.reduceLeDiff, Nat.reduceBEq, Nat.reduceAdd, Nat.reduceLT, Nat.reduceSub, Nat.reduceMul, Int.reduceEq, Int.reduceLT, Int.reduceLE, Int.reduceNeg, Int.reduceToNat]
  have hce : ∀ c : List Int, c.length = W.length → El p W'.length (img p W' im c) := fun c hc => norm_el o' (csum_length he (by omega))
  refine Equal_ok (lmix_el o' hie hie).1.symm (hce _ hwe.1).1.symm (by rw [(lmix_el o' hie hie).1]; omega) ?_
  by_cases hf : lmul p W' p im[i] = img p W' im W[i]
  rotate_left
  · simp only [pw0, pw1, pw2, pw3, pw4, pw5, pw6, pw7, pw8, pw9, if_true, if_false, eq_self, nm_eq, reduceCtorEq, ↓reduceIte, Nat.reduceEqDiff, Nat.reduceLeDiff, Nat.reduceBEq, Nat.reduceAdd, Nat.reduceLT, Nat.reduceSub, Nat.reduceMul, Int.reduceEq, Int.reduceLT, Int.reduceLE, Int.reduceNeg, Int.reduceToNat, hf]
    exact hk _ (fl fun x => hf (by have := x.1; rwa [g1, g2] at this))
  simp only [pw0, pw1, pw2, pw3, pw4, pw5, pw6, pw7, pw8, pw9, if_true, if_false, eq_self, nm_eq, reduceCtorEq, ↓reduceIte, Nat.reduceEqDiff, Nat.reduceLeDiff, Nat.reduceBEq, Nat.reduceAdd, Nat.reduceLT, Nat.reduceSub, Nat.reduceMul, Int.reduceEq, Int.reduceLT, Int.reduceLE, Int.reduceNeg, Int.reduceToNat, eq_true hf, obj_rd1 hs.obj, hiB, hrb, List.getElem?_drop]
  refine vp_loop (fun m vs h' => ∃ k : Nat, k ≤ B[i].length ∧ m = B[i].length - k ∧ vs = [.ptr s' 0, .fz wl al im.length rl, .int .i64 i, .fz w6 a6 B[i].length rs, .int .i64 B[i].length, .int .i64 k] ∧ σ = h' ∧
    ∀ j, j < k → br p W' B' W'.length (im.getD i []) (im.getD (i + (1 + j)) []) = img p W' im ((B.getD i []).getD j [])) B[i].length ?_ ?_
  · exact ⟨0, by omega, by omega, rfl, rfl, fun j hj => by omega⟩
  rintro m vs h' ⟨k, hk', rfl, rfl, rfl, hall⟩
  simp only [pw0, pw1, pw2, pw3, pw4, pw5, pw6, pw7, pw8, pw9, if_true, if_false, eq_self, nm_eq, reduceCtorEq, ↓reduceIte, Nat.reduceEqDiff, Nat.reduceLeDiff, Nat.reduceBEq, Nat.reduceAdd, Nat.reduceLT, Nat.reduceSub, Nat.reduceMul, Int.reduceEq, Int.reduceLT, Int.reduceLE, Int.reduceNeg, Int.reduceToNat]
  refine iteI (fun hlt => ?_) fun hge => ?_
  rotate_left
  · exact hk _ ⟨fun _ => ⟨by rw [g1, g2]; exact hf, fun j hj => hall j (by omega)⟩, fun _ => rfl⟩
  obtain ⟨w7, a7, hrk⟩ := hrs.rowI hlt
  have hj : i + (1 + k) < im.length := by omega
  obtain ⟨w8, a8, hrj⟩ := hrl.rowI hj
  have hje := he _ (List.getElem_mem hj)
  have hbe := (q.ent i hiB k hlt).1
  simp only [pw0, pw1, pw2, pw3, pw4, pw5, pw6, pw7, pw8, pw9, if_true, if_false, eq_self, nm_eq, reduceCtorEq, ↓reduceIte, Nat.reduceEqDiff, Nat.reduceLeDiff, Nat.reduceBEq, Nat.reduceAdd, Nat.reduceLT, Nat.reduceSub, Nat.reduceMul, Int.reduceEq, Int.reduceLT, Int.reduceLE, Int.reduceNeg, Int.reduceToNat, hi, hr, hlt, hrk, hj, hrj, List.getElem?_drop, wrapS (n := W.length) (i := i) hiW (by omega), wrapA (a := i + 1) (b := k) (by omega)]
  refine bracket_fz hs' hR' o' q' hie hje rfl rfl fun v3 => ?_
  simp only [pw0, pw1, pw2, pw3, pw4, pw5, pw6, pw7, pw8, pw9, if_true, if_false, eq_self, nm_eq, reduceCtorEq, ↓reduceIte, Nat.reduceEqDiff, Nat.reduceLeDiff, Nat.reduceBEq, Nat.reduceAdd, Nat.reduceLT, Nat.reduceSub, Nat.reduceMul, Int.reduceEq, Int.reduceLT, Int.reduceLE, Int.reduceNeg, Int.reduceToNat]
  refine combination_fz hs' hPP' o' hLL he (fun j => hbe.at hp j) (by rw [hbe.1]; omega) rfl (by rw [hbe.1]; omega) fun v4 => ?_
  simp only [pw0, pw1, pw2, pw3, pw4, pw5, pw6, pw7, pw8, pw9, if_true, if_false, eq_self, nm_eq, reduceCtorEq, ↓reduceIte, Nat.reduceEqDiff, Nat.reduceLeDiff, Nat.reduceBEq, Nat.reduceAdd, Nat.reduceLT, Nat.reduceSub, Nat.reduceMul, Int.reduceEq, Int.reduceLT, Int.reduceLE, Int.reduceNeg, Int.reduceToNat]
  refine Equal_ok (br_el o' q').1.symm (hce _ hbe.1).1.symm (by rw [(br_el o' q').1]; omega) ?_
  have hF : (br p W' B' W'.length im[i] im[i + (1 + k)] = img p W' im B[i][k]) ↔ (br p W' B' W'.length (im.getD i []) (im.getD (i + (1 + k)) []) = img p W' im ((B.getD i []).getD k [])) := by
    rw [g1, g3, getD_row' hlt, getD_row' hj]
  by_cases hf2 : br p W' B' W'.length im[i] im[i + (1 + k)] = img p W' im B[i][k]
  · simp only [pw0, pw1, pw2, pw3, pw4, pw5, pw6, pw7, pw8, pw9, if_true, if_false, eq_self, nm_eq, reduceCtorEq, ↓reduceIte, Nat.reduceEqDiff, Nat.reduceLeDiff, Nat.reduceBEq, Nat.reduceAdd, Nat.reduceLT, Nat.reduceSub, Nat.reduceMul, Int.reduceEq, Int.reduceLT, Int.reduceLE, Int.reduceNeg, Int.reduceToNat, eq_true hf2, wrapS hlt (by omega : B[i].length ≤ 4611686018427387904)]
    refine ⟨_, by omega, k + 1, by omega, rfl, rfl, fun j hj => ?_⟩
    by_cases e : j = k
    · subst e; exact hF.1 hf2
    · exact hall j (by omega)
  · simp only [pw0, pw1, pw2, pw3, pw4, pw5, pw6, pw7, pw8, pw9, if_true, if_false, eq_self, nm_eq, reduceCtorEq, ↓reduceIte, Nat.reduceEqDiff, Nat.reduceLeDiff, Nat.reduceBEq, Nat.reduceAdd, Nat.reduceLT, Nat.reduceSub, Nat.reduceMul, Int.reduceEq, Int.reduceLT, Int.reduceLE, Int.reduceNeg, Int.reduceToNat, hf2]
    exact hk _ (fl fun x => hf2 (hF.2 (x.2 k (by omega))))

theorem l34Keeps_ok {i : Nat} (hR : IsR vP vB W B) (hR' : IsR vP' vB' W' B') (o : OkW p W.length W) (q : OkB p W.length B) (o' : OkW p W'.length W') (q' : OkB p W'.length B')
    (hL : FII vL im) (he : Els p W'.length im) (hil : im.length = W.length) (hi : i < im.length) (hk : ∀ t : Bool, (t = true ↔ fits p W B W' B' im i) → K (.bool t) σ) :
    PCalls Try.prog 56 [.agg [.int .i64 p, vP, vB], .agg [.int .i64 p, vP', vB'], vL, .int .i64 i] σ K := by
  have hn6 := o.le
  have hn6' := o'.le
  have hp := o.pr
  have hpk : -1000000000 ≤ p ∧ p ≤ 1000000000 := by unfold okp at hp; omega
  have hLL := hL
  have h1' := hR'.P.one
  have h2' := hR'.B.one
  obtain ⟨⟨w1, a1, rP, rfl, hP⟩, ⟨w3, a3, rB, rfl, hB⟩⟩ := hR
  obtain ⟨wl, al, rl, rfl, hrl⟩ := hL
  obtain ⟨w4, a4, hr⟩ := hrl.rowI hi
  have hiW : i < W.length := by omega
  have hiB : i < B.length := by rw [q.len]; exact hiW
  obtain ⟨w5, a5, hrw⟩ := hP.rowI hiW
  obtain ⟨w6, a6, rs, hrb, hrs⟩ := hB.rowL hiB
  have hie := he _ (List.getElem_mem hi)
  have hwe := row_el o hiW
  have g1 : im.getD i [] = im[i] := getD_row' hi
  have g2 : W.getD i [] = W[i] := getD_row' hiW
  have g3 : B.getD i [] = B[i] := getD_row' hiB
  have hbl := q.row i hiB
  refine PCalls.gh ?_
  have hkp : Keep σ ((σ.new [.int .i64 p, .fz w1 a1 W.length rP, .fz w3 a3 B.length rB]).new [.int .i64 p, vP', vB']) := (keep_new σ _).new _
  have no : ¬ fits p W B W' B' im i → Gh σ K (.bool false) ((σ.new [.int .i64 p, .fz w1 a1 W.length rP, .fz w3 a3 B.length rB]).new [.int .i64 p, vP', vB']) := fun h => Gh.fin0 hkp trivial (hk _ ⟨fun x => (by cases x), fun x => absurd x h⟩)
  refine pcalls_of_vp mix Try.func56 cf56 rfl ?_
  dsimp only [if56, qI, eI, nI, qD, eD]
  simp only [pw0, pw1, pw2, pw3, pw4, pw5, pw6, pw7, pw8, pw9, if_true, if_false, eq_self, nm_eq, reduceCtorEq, ↓reduceIte, Nat.reduceEqDiff, Nat.reduceLeDiff, Nat.reduceBEq, Nat.reduceAdd, Nat.reduceLT, Nat.reduceSub, Nat.reduceMul, Int.reduceEq, Int.reduceLT, Int.reduceLE, Int.reduceNeg, Int.reduceToNat, h1', h2', hi, hiW, hr, hrw, List.getElem?_drop]
  refine l31Mix_el hR' o' hie hie rfl rfl hpk (by decide) fun v1 => ?_
  simp only [pw0, pw1, pw2, pw3, pw4, pw5, pw6, pw7, pw8, pw9, if_true, if_false, eq_self, nm_eq, reduceCtorEq, ↓reduceIte, Nat.reduceEqDiff, Nat.reduceLeDiff, Nat.reduceBEq, Nat.reduceAdd, Nat.reduceLT, Nat.reduceSub, Nat.reduceMul, Int.reduceEq, Int.reduceLT, Int.reduceLE, Int.reduceNeg, Int.reduceToNat, h1', h2', hi, hiW, hr, hrw, List.getElem?_drop]
  refine l34Image_ok hR' o' hLL he (fun j => hwe.at hp j) (by rw [hwe.1]; omega) rfl (by rw [hwe.1]; omega) fun v2 => ?_
  simp only [pw0, pw1, pw2, pw3, pw4, pw5, pw6, pw7, pw8, pw9, if_true, if_false, eq_self, nm_eq, reduceCtorEq, ↓reduceIte, Nat.reduceEqDiff, Nat.reduceLeDiff, Nat.reduceBEq, Nat.reduceAdd, Nat.reduceLT, Nat.reduceSub, Nat.reduceMul, Int.reduceEq, Int.reduceLT, Int.reduceLE, Int.reduceNeg, Int.reduceToNat]
  have hce : ∀ c : List Int, c.length = W.length → El p W'.length (img p W' im c) := fun c hc => norm_el o' (csum_length he (by omega))
  refine l01Same_ok (lmix_el o' hie hie).1.symm (hce _ hwe.1).1.symm (by rw [(lmix_el o' hie hie).1]; omega) ?_
  by_cases hf : lmul p W' p im[i] = img p W' im W[i]
  rotate_left
  · simp only [pw0, pw1, pw2, pw3, pw4, pw5, pw6, pw7, pw8, pw9, if_true, if_false, eq_self, nm_eq, reduceCtorEq, ↓reduceIte, Nat.reduceEqDiff, Nat.reduceLeDiff, Nat.reduceBEq, Nat.reduceAdd, Nat.reduceLT, Nat.reduceSub, Nat.reduceMul, Int.reduceEq, Int.reduceLT, Int.reduceLE, Int.reduceNeg, Int.reduceToNat, hf]
    exact no fun x => hf (by have := x.1; rwa [g1, g2] at this)
  simp only [pw0, pw1, pw2, pw3, pw4, pw5, pw6, pw7, pw8, pw9, if_true, if_false, eq_self, nm_eq, reduceCtorEq, ↓reduceIte, Nat.reduceEqDiff, Nat.reduceLeDiff, Nat.reduceBEq, Nat.reduceAdd, Nat.reduceLT, Nat.reduceSub, Nat.reduceMul, Int.reduceEq, Int.reduceLT, Int.reduceLE, Int.reduceNeg, Int.reduceToNat, eq_true hf, wrapS hi (by omega : im.length ≤ 4611686018427387904)]
  refine vp_loop (fun m vs h' => ∃ k : Nat, k ≤ B[i].length ∧ m = B[i].length - k ∧ vs = [.fz wl al im.length rl, .int .i64 i, .ptr σ.next 0, .ptr (σ.next + 1) 0, .int .i64 ((i + (1 + k) : Nat) : Int)] ∧ (σ.new [.int .i64 p, .fz w1 a1 W.length rP, .fz w3 a3 B.length rB]).new [.int .i64 p, vP', vB'] = h' ∧
    ∀ j, j < k → br p W' B' W'.length (im.getD i []) (im.getD (i + (1 + j)) []) = img p W' im ((B.getD i []).getD j [])) B[i].length ?_ ?_
  · exact ⟨0, by omega, by omega, rfl, rfl, fun j hj => by omega⟩
  rintro m vs h' ⟨k, hk', rfl, rfl, rfl, hall⟩
  simp only [pw0, pw1, pw2, pw3, pw4, pw5, pw6, pw7, pw8, pw9, if_true, if_false, eq_self, nm_eq, reduceCtorEq, ↓reduceIte, Nat.reduceEqDiff, Nat.reduceLeDiff, Nat.reduceBEq, Nat.reduceAdd, Nat.reduceLT, Nat.reduceSub, Nat.reduceMul, Int.reduceEq, Int.reduceLT, Int.reduceLE, Int.reduceNeg, Int.reduceToNat]
  refine iteI (fun hj => ?_) fun hge => ?_
  rotate_left
  · exact Gh.fin0 hkp trivial (hk _ ⟨fun _ => ⟨by rw [g1, g2]; exact hf, fun j hj => hall j (by omega)⟩, fun _ => rfl⟩)
  have hlt : k < B[i].length := by omega
  obtain ⟨w7, a7, hrk⟩ := hrs.rowI hlt
  obtain ⟨w8, a8, hrj⟩ := hrl.rowI hj
  have hje := he _ (List.getElem_mem hj)
  have hbe := (q.ent i hiB k hlt).1
  have e1 : IntKind.i64.wrap (((i + (1 + k) : Nat) : Int) - (i : Int)) = ((1 + k : Nat) : Int) := by rw [wrap64 (by omega) (by omega)]; omega
  have e2 : IntKind.i64.wrap (((1 + k : Nat) : Int) - 1) = (k : Int) := by rw [wrap64 (by omega) (by omega)]; omega
  have e3 : IntKind.i64.wrap (((i + (1 + k) : Nat) : Int) + 1) = ((i + (1 + (k + 1)) : Nat) : Int) := by rw [wrap64 (by omega) (by omega)]; omega
  simp only [pw0, pw1, pw2, pw3, pw4, pw5, pw6, pw7, pw8, pw9, if_true, if_false, eq_self, nm_eq, reduceCtorEq, ↓reduceIte, Nat.reduceEqDiff, Nat.reduceLeDiff, Nat.reduceBEq, Nat.reduceAdd, Nat.reduceLT, Nat.reduceSub, Nat.reduceMul, Int.reduceEq, Int.reduceLT, Int.reduceLE, Int.reduceNeg, Int.reduceToNat, hi, hr, hiB, hrb, hlt, hrk, hj, hrj, List.getElem?_drop, e1, e2]
  refine l31Bracket_ok hR' o' q' hie hje rfl rfl fun v3 => ?_
  simp only [pw0, pw1, pw2, pw3, pw4, pw5, pw6, pw7, pw8, pw9, if_true, if_false, eq_self, nm_eq, reduceCtorEq, ↓reduceIte, Nat.reduceEqDiff, Nat.reduceLeDiff, Nat.reduceBEq, Nat.reduceAdd, Nat.reduceLT, Nat.reduceSub, Nat.reduceMul, Int.reduceEq, Int.reduceLT, Int.reduceLE, Int.reduceNeg, Int.reduceToNat, hi, hr, hiB, hrb, hlt, hrk, hj, hrj, List.getElem?_drop, e1, e2]
  refine l34Image_ok hR' o' hLL he (fun j => hbe.at hp j) (by rw [hbe.1]; omega) rfl (by rw [hbe.1]; omega) fun v4 => ?_
  simp only [pw0, pw1, pw2, pw3, pw4, pw5, pw6, pw7, pw8, pw9, if_true, if_false, eq_self, nm_eq, reduceCtorEq, ↓reduceIte, Nat.reduceEqDiff, Nat.reduceLeDiff, Nat.reduceBEq, Nat.reduceAdd, Nat.reduceLT, Nat.reduceSub, Nat.reduceMul, Int.reduceEq, Int.reduceLT, Int.reduceLE, Int.reduceNeg, Int.reduceToNat]
  refine l01Same_ok (br_el o' q').1.symm (hce _ hbe.1).1.symm (by rw [(br_el o' q').1]; omega) ?_
  have hF : (br p W' B' W'.length im[i] im[i + (1 + k)] = img p W' im B[i][k]) ↔ (br p W' B' W'.length (im.getD i []) (im.getD (i + (1 + k)) []) = img p W' im ((B.getD i []).getD k [])) := by
    rw [g1, g3, getD_row' hlt, getD_row' hj]
  by_cases hf2 : br p W' B' W'.length im[i] im[i + (1 + k)] = img p W' im B[i][k]
  · simp only [pw0, pw1, pw2, pw3, pw4, pw5, pw6, pw7, pw8, pw9, if_true, if_false, eq_self, nm_eq, reduceCtorEq, ↓reduceIte, Nat.reduceEqDiff, Nat.reduceLeDiff, Nat.reduceBEq, Nat.reduceAdd, Nat.reduceLT, Nat.reduceSub, Nat.reduceMul, Int.reduceEq, Int.reduceLT, Int.reduceLE, Int.reduceNeg, Int.reduceToNat, eq_true hf2, e3]
    refine ⟨_, by omega, k + 1, by omega, rfl, rfl, fun j hj => ?_⟩
    by_cases e : j = k
    · subst e; exact hF.1 hf2
    · exact hall j (by omega)
  · simp only [pw0, pw1, pw2, pw3, pw4, pw5, pw6, pw7, pw8, pw9, if_true, if_false, eq_self, nm_eq, reduceCtorEq, ↓reduceIte, Nat.reduceEqDiff, Nat.reduceLeDiff, Nat.reduceBEq, Nat.reduceAdd, Nat.reduceLT, Nat.reduceSub, Nat.reduceMul, Int.reduceEq, Int.reduceLT, Int.reduceLE, Int.reduceNeg, Int.reduceToNat, hf2]
    exact no fun x => hf2 (hF.2 (x.2 k (by omega)))

theorem isLieMap_ok (hs : PtrR σ s p vP vB) (hs' : PtrR σ s' p' vP' vB') (hR : IsR vP vB W B) (hR' : IsR vP' vB' W' B') (sz : SzR W B) (sz' : SzR W' B') (hL : FII vL im) (szl : SzL im)
    (hk : ∀ t : Bool, (t = true ↔ isMap p W B p' W' B' im) → K (.bool t) σ) : PCalls Try.prog 58 [.ptr s 0, .ptr s' 0, vL] σ K := by
  have fl : ∀ {A : Prop}, ¬ A → ((false = true) ↔ A) := fun h => ⟨fun x => (by cases x), fun x => absurd x h⟩
  have hRR := hR
  have hLL := hL
  obtain ⟨⟨w1, a1, rP, rfl, hP⟩, hB⟩ := hR
  obtain ⟨wl, al, rl, rfl, hrl⟩ := hL
  have hxl := szl.l
  refine pcalls_of_vp mix Try.func58 cf58 rfl ?_
  dsimp only [if58, qI, eI, nI, qD, eD]
  simp only [pw0, pw1, pw2, pw3, pw4, pw5, pw6, pw7, pw8, pw9, if_true, if_false, eq_self, nm_eq, reduceCtorEq, ↓reduceIte, Nat.reduceEqDiff, Nat.reduceLeDiff, Nat.reduceBEq, Nat.reduceAdd, Nat.reduceLT, Nat.reduceSub, Nat.reduceMul, Int.reduceEq, Int.reduceLT, Int.reduceLE, Int.reduceNeg, Int.reduceToNat, obj_rd1 hs.obj, obj_rd hs.obj, obj_rd1 hs'.obj, obj_rd hs'.obj]
  refine IsLieRing_ok hRR sz fun t ht => ?_
  cases t with
  | false =>
    simp only [pw0, pw1, pw2, pw3, pw4, pw5, pw6, pw7, pw8, pw9, if_true, if_false, eq_self, nm_eq, reduceCtorEq, ↓reduceIte, Nat.reduceEqDiff, Nat.reduceLeDiff, Nat.reduceBEq, Nat.reduceAdd, Nat.reduceLT, Nat.reduceSub, Nat.reduceMul, Int.reduceEq, Int.reduceLT, Int.reduceLE, Int.reduceNeg, Int.reduceToNat]
    exact hk _ (fl fun x => by cases ht.2 x.1)
  | true =>
  have l1 := ht.1 rfl
  simp only [pw0, pw1, pw2, pw3, pw4, pw5, pw6, pw7, pw8, pw9, if_true, if_false, eq_self, nm_eq, reduceCtorEq, ↓reduceIte, Nat.reduceEqDiff, Nat.reduceLeDiff, Nat.reduceBEq, Nat.reduceAdd, Nat.reduceLT, Nat.reduceSub, Nat.reduceMul, Int.reduceEq, Int.reduceLT, Int.reduceLE, Int.reduceNeg, Int.reduceToNat]
  refine lieElements_ok hs' hR' sz' hLL szl fun t ht => ?_
  cases t with
  | false =>
    simp only [pw0, pw1, pw2, pw3, pw4, pw5, pw6, pw7, pw8, pw9, if_true, if_false, eq_self, nm_eq, reduceCtorEq, ↓reduceIte, Nat.reduceEqDiff, Nat.reduceLeDiff, Nat.reduceBEq, Nat.reduceAdd, Nat.reduceLT, Nat.reduceSub, Nat.reduceMul, Int.reduceEq, Int.reduceLT, Int.reduceLE, Int.reduceNeg, Int.reduceToNat]
    exact hk _ (fl fun x => by cases ht.2 ⟨x.2.1, x.2.2.2.2.1⟩)
  | true =>
  obtain ⟨l2, he⟩ := ht.1 rfl
  by_cases hpp : p = p'
  rotate_left
  · simp only [pw0, pw1, pw2, pw3, pw4, pw5, pw6, pw7, pw8, pw9, if_true, if_false, eq_self, nm_eq, reduceCtorEq, ↓reduceIte, Nat.reduceEqDiff, Nat.reduceLeDiff, Nat.reduceBEq, Nat.reduceAdd, Nat.reduceLT, Nat.reduceSub, Nat.reduceMul, Int.reduceEq, Int.reduceLT, Int.reduceLE, Int.reduceNeg, Int.reduceToNat, obj_rd1 hs.obj, obj_rd hs.obj, obj_rd1 hs'.obj, obj_rd hs'.obj, hpp]
    exact hk _ (fl fun x => hpp x.2.2.1)
  subst hpp
  by_cases hll : im.length = W.length
  rotate_left
  · have hll' : ¬ (im.length : Int) = (W.length : Int) := by omega
    simp only [pw0, pw1, pw2, pw3, pw4, pw5, pw6, pw7, pw8, pw9, if_true, if_false, eq_self, nm_eq, reduceCtorEq, ↓reduceIte, Nat.reduceEqDiff, Nat.reduceLeDiff, Nat.reduceBEq, Nat.reduceAdd, Nat.reduceLT, Nat.reduceSub, Nat.reduceMul, Int.reduceEq, Int.reduceLT, Int.reduceLE, Int.reduceNeg, Int.reduceToNat, obj_rd1 hs.obj, obj_rd hs.obj, obj_rd1 hs'.obj, obj_rd hs'.obj, hll']
    exact hk _ (fl fun x => hll x.2.2.2.1)
  have hll' : (im.length : Int) = (W.length : Int) := by omega
  simp only [pw0, pw1, pw2, pw3, pw4, pw5, pw6, pw7, pw8, pw9, if_true, if_false, eq_self, nm_eq, reduceCtorEq, ↓reduceIte, Nat.reduceEqDiff, Nat.reduceLeDiff, Nat.reduceBEq, Nat.reduceAdd, Nat.reduceLT, Nat.reduceSub, Nat.reduceMul, Int.reduceEq, Int.reduceLT, Int.reduceLE, Int.reduceNeg, Int.reduceToNat, obj_rd1 hs.obj, obj_rd hs.obj, obj_rd1 hs'.obj, obj_rd hs'.obj, eq_true hll']
  refine vp_loop (fun m vs h' => ∃ i : Nat, i ≤ im.length ∧ m = im.length - i ∧ vs = [.ptr s 0, .ptr s' 0, .fz wl al im.length rl, .int .i64 im.length, .int .i64 i] ∧ σ = h' ∧ ∀ j, j < i → fits p W B W' B' im j) im.length ?_ ?_
  · exact ⟨0, by omega, by omega, rfl, rfl, fun j hj => by omega⟩
  rintro m vs h' ⟨i, hi, rfl, rfl, rfl, hall⟩
  simp only [pw0, pw1, pw2, pw3, pw4, pw5, pw6, pw7, pw8, pw9, if_true, if_false, eq_self, nm_eq, reduceCtorEq, ↓reduceIte, Nat.reduceEqDiff, Nat.reduceLeDiff, Nat.reduceBEq, Nat.reduceAdd, Nat.reduceLT, Nat.reduceSub, Nat.reduceMul, Int.reduceEq, Int.reduceLT, Int.reduceLE, Int.reduceNeg, Int.reduceToNat]
  refine iteI (fun hlt => ?_) fun hge => ?_
  rotate_left
  · exact hk _ ⟨fun _ => ⟨l1, l2, rfl, hll, he, fun j hj => hall j (by omega)⟩, fun _ => rfl⟩
  refine lieFits_ok hs hs' hRR hR' l1.1.w l1.1.b l2.1.w l2.1.b hLL he hll hlt fun t ht => ?_
  cases t with
  | false =>
    simp only [pw0, pw1, pw2, pw3, pw4, pw5, pw6, pw7, pw8, pw9, if_true, if_false, eq_self, nm_eq, reduceCtorEq, ↓reduceIte, Nat.reduceEqDiff, Nat.reduceLeDiff, Nat.reduceBEq, Nat.reduceAdd, Nat.reduceLT, Nat.reduceSub, Nat.reduceMul, Int.reduceEq, Int.reduceLT, Int.reduceLE, Int.reduceNeg, Int.reduceToNat]
    exact hk _ (fl fun x => by cases ht.2 (x.2.2.2.2.2 i hlt))
  | true =>
    simp only [pw0, pw1, pw2, pw3, pw4, pw5, pw6, pw7, pw8, pw9, if_true, if_false, eq_self, nm_eq, reduceCtorEq, ↓reduceIte, Nat.reduceEqDiff, Nat.reduceLeDiff, Nat.reduceBEq, Nat.reduceAdd, Nat.reduceLT, Nat.reduceSub, Nat.reduceMul, Int.reduceEq, Int.reduceLT, Int.reduceLE, Int.reduceNeg, Int.reduceToNat, wrapS hlt (by omega : im.length ≤ 4611686018427387904)]
    refine ⟨_, by omega, i + 1, by omega, rfl, rfl, fun j hj => ?_⟩
    by_cases e : j = i
    · subst e; exact ht.1 rfl
    · exact hall j (by omega)

theorem IsLieMap_ok (hR : IsR vP vB W B) (hR' : IsR vP' vB' W' B') (sz : SzR W B) (sz' : SzR W' B') (hL : FII vL im) (szl : SzL im)
    (hk : ∀ t : Bool, (t = true ↔ isMap p W B p' W' B' im) → K (.bool t) σ) : PCalls Try.prog 20 [.agg [.int .i64 p, vP, vB], .agg [.int .i64 p', vP', vB'], vL] σ K := by
  have h1 := hR.P.one
  have h2 := hR.B.one
  have h1' := hR'.P.one
  have h2' := hR'.B.one
  refine PCalls.gh ?_
  refine pcalls_of_vp mix Try.func20 cf20 rfl ?_
  dsimp only [if20, qI, eI, nI, qD, eD]
  simp only [pw0, pw1, pw2, pw3, pw4, pw5, pw6, pw7, pw8, pw9, if_true, if_false, eq_self, nm_eq, reduceCtorEq, ↓reduceIte, Nat.reduceEqDiff, Nat.reduceLeDiff, Nat.reduceBEq, Nat.reduceAdd, Nat.reduceLT, Nat.reduceSub, Nat.reduceMul, Int.reduceEq, Int.reduceLT, Int.reduceLE, Int.reduceNeg, Int.reduceToNat, h1, h2, h1', h2']
  refine isLieMap_ok (p := p) (p' := p') ⟨by simp only [pw0, pw1, pw2, pw3, pw4, pw5, pw6, pw7, pw8, pw9, if_true, if_false, eq_self, nm_eq, reduceCtorEq, ↓reduceIte, Nat.reduceEqDiff, Nat.reduceLeDiff, Nat.reduceBEq, Nat.reduceAdd, Nat.reduceLT, Nat.reduceSub, Nat.reduceMul, Int.reduceEq, Int.reduceLT, Int.reduceLE, Int.reduceNeg, Int.reduceToNat], by simp only [pw0, pw1, pw2, pw3, pw4, pw5, pw6, pw7, pw8, pw9, if_true, if_false, eq_self, nm_eq, reduceCtorEq, ↓reduceIte, Nat.reduceEqDiff, Nat.reduceLeDiff, Nat.reduceBEq, Nat.reduceAdd, Nat.reduceLT, Nat.reduceSub, Nat.reduceMul, Int.reduceEq, Int.reduceLT, Int.reduceLE, Int.reduceNeg, Int.reduceToNat]; omega⟩ ⟨by simp only [pw0, pw1, pw2, pw3, pw4, pw5, pw6, pw7, pw8, pw9, if_true, if_false, eq_self, nm_eq, reduceCtorEq, ↓reduceIte, Nat.reduceEqDiff, Nat.reduceLeDiff, Nat.reduceBEq, Nat.reduceAdd, Nat.reduceLT, Nat.reduceSub, Nat.reduceMul, Int.reduceEq, Int.reduceLT, Int.reduceLE, Int.reduceNeg, Int.reduceToNat], by simp only [pw0, pw1, pw2, pw3, pw4, pw5, pw6, pw7, pw8, pw9, if_true, if_false, eq_self, nm_eq, reduceCtorEq, ↓reduceIte, Nat.reduceEqDiff, Nat.reduceLeDiff, Nat.reduceBEq, Nat.reduceAdd, Nat.reduceLT, Nat.reduceSub, Nat.reduceMul, Int.reduceEq, Int.reduceLT, Int.reduceLE, Int.reduceNeg, Int.reduceToNat]⟩ hR hR' sz sz' hL szl fun t ht => ?_
  simp only [pw0, pw1, pw2, pw3, pw4, pw5, pw6, pw7, pw8, pw9, if_true, if_false, eq_self, nm_eq, reduceCtorEq, ↓reduceIte, Nat.reduceEqDiff, Nat.reduceLeDiff, Nat.reduceBEq, Nat.reduceAdd, Nat.reduceLT, Nat.reduceSub, Nat.reduceMul, Int.reduceEq, Int.reduceLT, Int.reduceLE, Int.reduceNeg, Int.reduceToNat]
  exact Gh.fin0 ((keep_new σ _).new _) trivial (hk _ ht)

theorem l34Map_ok (hR : IsR vP vB W B) (hR' : IsR vP' vB' W' B') (sz : SzR W B) (sz' : SzR W' B') (hL : FII vL im) (szl : SzL im)
    (hk : ∀ t : Bool, (t = true ↔ isMap p W B p' W' B' im) → K (.bool t) σ) : PCalls Try.prog 17 [.agg [.int .i64 p, vP, vB], .agg [.int .i64 p', vP', vB'], vL] σ K := by
  have h1 := hR.P.one
  have h2 := hR.B.one
  have h1' := hR'.P.one
  have h2' := hR'.B.one
  have hRR := hR
  have hLL := hL
  obtain ⟨⟨w1, a1, rP, rfl, hP⟩, hB⟩ := hR
  obtain ⟨wl, al, rl, rfl, hrl⟩ := hL
  have hxl := szl.l
  refine PCalls.gh ?_
  have hkp : Keep σ ((σ.new [.int .i64 p, .fz w1 a1 W.length rP, vB]).new [.int .i64 p', vP', vB']) := (keep_new σ _).new _
  have no : ¬ isMap p W B p' W' B' im → Gh σ K (.bool false) ((σ.new [.int .i64 p, .fz w1 a1 W.length rP, vB]).new [.int .i64 p', vP', vB']) := fun h => Gh.fin0 hkp trivial (hk _ ⟨fun x => (by cases x), fun x => absurd x h⟩)
  refine pcalls_of_vp mix Try.func17 cf17 rfl ?_
  dsimp only [if17, qI, eI, nI, qD, eD]
  simp only [pw0, pw1, pw2, pw3, pw4, pw5, pw6, pw7, pw8, pw9, if_true, if_false, eq_self, nm_eq, reduceCtorEq, ↓reduceIte, Nat.reduceEqDiff, Nat.reduceLeDiff, Nat.reduceBEq, Nat.reduceAdd, Nat.reduceLT, Nat.reduceSub, Nat.reduceMul, Int.reduceEq, Int.reduceLT, Int.reduceLE, Int.reduceNeg, Int.reduceToNat, h2, h1', h2']
  refine l31Ring_ok hRR sz fun t ht => ?_
  cases t with
  | false =>
    simp only [pw0, pw1, pw2, pw3, pw4, pw5, pw6, pw7, pw8, pw9, if_true, if_false, eq_self, nm_eq, reduceCtorEq, ↓reduceIte, Nat.reduceEqDiff, Nat.reduceLeDiff, Nat.reduceBEq, Nat.reduceAdd, Nat.reduceLT, Nat.reduceSub, Nat.reduceMul, Int.reduceEq, Int.reduceLT, Int.reduceLE, Int.reduceNeg, Int.reduceToNat]
    exact no fun x => by cases ht.2 x.1
  | true =>
  have l1 := ht.1 rfl
  simp only [pw0, pw1, pw2, pw3, pw4, pw5, pw6, pw7, pw8, pw9, if_true, if_false, eq_self, nm_eq, reduceCtorEq, ↓reduceIte, Nat.reduceEqDiff, Nat.reduceLeDiff, Nat.reduceBEq, Nat.reduceAdd, Nat.reduceLT, Nat.reduceSub, Nat.reduceMul, Int.reduceEq, Int.reduceLT, Int.reduceLE, Int.reduceNeg, Int.reduceToNat]
  refine l31Ring_ok hR' sz' fun t ht => ?_
  cases t with
  | false =>
    simp only [pw0, pw1, pw2, pw3, pw4, pw5, pw6, pw7, pw8, pw9, if_true, if_false, eq_self, nm_eq, reduceCtorEq, ↓reduceIte, Nat.reduceEqDiff, Nat.reduceLeDiff, Nat.reduceBEq, Nat.reduceAdd, Nat.reduceLT, Nat.reduceSub, Nat.reduceMul, Int.reduceEq, Int.reduceLT, Int.reduceLE, Int.reduceNeg, Int.reduceToNat]
    exact no fun x => by cases ht.2 x.2.1
  | true =>
  have l2 := ht.1 rfl
  by_cases hpp : p = p'
  rotate_left
  · simp only [pw0, pw1, pw2, pw3, pw4, pw5, pw6, pw7, pw8, pw9, if_true, if_false, eq_self, nm_eq, reduceCtorEq, ↓reduceIte, Nat.reduceEqDiff, Nat.reduceLeDiff, Nat.reduceBEq, Nat.reduceAdd, Nat.reduceLT, Nat.reduceSub, Nat.reduceMul, Int.reduceEq, Int.reduceLT, Int.reduceLE, Int.reduceNeg, Int.reduceToNat, hpp]
    exact no fun x => hpp x.2.2.1
  subst hpp
  by_cases hll : im.length = W.length
  rotate_left
  · have hll' : ¬ (im.length : Int) = (W.length : Int) := by omega
    simp only [pw0, pw1, pw2, pw3, pw4, pw5, pw6, pw7, pw8, pw9, if_true, if_false, eq_self, nm_eq, reduceCtorEq, ↓reduceIte, Nat.reduceEqDiff, Nat.reduceLeDiff, Nat.reduceBEq, Nat.reduceAdd, Nat.reduceLT, Nat.reduceSub, Nat.reduceMul, Int.reduceEq, Int.reduceLT, Int.reduceLE, Int.reduceNeg, Int.reduceToNat, hll']
    exact no fun x => hll x.2.2.2.1
  have hll' : (im.length : Int) = (W.length : Int) := by omega
  simp only [pw0, pw1, pw2, pw3, pw4, pw5, pw6, pw7, pw8, pw9, if_true, if_false, eq_self, nm_eq, reduceCtorEq, ↓reduceIte, Nat.reduceEqDiff, Nat.reduceLeDiff, Nat.reduceBEq, Nat.reduceAdd, Nat.reduceLT, Nat.reduceSub, Nat.reduceMul, Int.reduceEq, Int.reduceLT, Int.reduceLE, Int.reduceNeg, Int.reduceToNat, eq_true hll']
  refine l32Elements_ok hR' hLL szl l2.1.1.bd fun t ht => ?_
  cases t with
  | false =>
    simp only [pw0, pw1, pw2, pw3, pw4, pw5, pw6, pw7, pw8, pw9, if_true, if_false, eq_self, nm_eq, reduceCtorEq, ↓reduceIte, Nat.reduceEqDiff, Nat.reduceLeDiff, Nat.reduceBEq, Nat.reduceAdd, Nat.reduceLT, Nat.reduceSub, Nat.reduceMul, Int.reduceEq, Int.reduceLT, Int.reduceLE, Int.reduceNeg, Int.reduceToNat]
    exact no fun x => by cases ht.2 x.2.2.2.2.1
  | true =>
  have he := ht.1 rfl
  simp only [pw0, pw1, pw2, pw3, pw4, pw5, pw6, pw7, pw8, pw9, if_true, if_false, eq_self, nm_eq, reduceCtorEq, ↓reduceIte, Nat.reduceEqDiff, Nat.reduceLeDiff, Nat.reduceBEq, Nat.reduceAdd, Nat.reduceLT, Nat.reduceSub, Nat.reduceMul, Int.reduceEq, Int.reduceLT, Int.reduceLE, Int.reduceNeg, Int.reduceToNat]
  refine vp_loop (fun m vs h' => ∃ i : Nat, i ≤ im.length ∧ m = im.length - i ∧ vs = [.fz wl al im.length rl, .ptr σ.next 0, .ptr (σ.next + 1) 0, .int .i64 i] ∧ (σ.new [.int .i64 p, .fz w1 a1 W.length rP, vB]).new [.int .i64 p, vP', vB'] = h' ∧ ∀ j, j < i → fits p W B W' B' im j) im.length ?_ ?_
  · exact ⟨0, by omega, by omega, rfl, rfl, fun j hj => by omega⟩
  rintro m vs h' ⟨i, hi, rfl, rfl, rfl, hall⟩
  simp only [pw0, pw1, pw2, pw3, pw4, pw5, pw6, pw7, pw8, pw9, if_true, if_false, eq_self, nm_eq, reduceCtorEq, ↓reduceIte, Nat.reduceEqDiff, Nat.reduceLeDiff, Nat.reduceBEq, Nat.reduceAdd, Nat.reduceLT, Nat.reduceSub, Nat.reduceMul, Int.reduceEq, Int.reduceLT, Int.reduceLE, Int.reduceNeg, Int.reduceToNat]
  refine iteI (fun hlt => ?_) fun hge => ?_
  rotate_left
  · exact Gh.fin0 hkp trivial (hk _ ⟨fun _ => ⟨l1, l2, rfl, hll, he, fun j hj => hall j (by omega)⟩, fun _ => rfl⟩)
  refine l34Keeps_ok hRR hR' l1.1.w l1.1.b l2.1.w l2.1.b hLL he hll hlt fun t ht => ?_
  cases t with
  | false =>
    simp only [pw0, pw1, pw2, pw3, pw4, pw5, pw6, pw7, pw8, pw9, if_true, if_false, eq_self, nm_eq, reduceCtorEq, ↓reduceIte, Nat.reduceEqDiff, Nat.reduceLeDiff, Nat.reduceBEq, Nat.reduceAdd, Nat.reduceLT, Nat.reduceSub, Nat.reduceMul, Int.reduceEq, Int.reduceLT, Int.reduceLE, Int.reduceNeg, Int.reduceToNat]
    exact no fun x => by cases ht.2 (x.2.2.2.2.2 i hlt)
  | true =>
    simp only [pw0, pw1, pw2, pw3, pw4, pw5, pw6, pw7, pw8, pw9, if_true, if_false, eq_self, nm_eq, reduceCtorEq, ↓reduceIte, Nat.reduceEqDiff, Nat.reduceLeDiff, Nat.reduceBEq, Nat.reduceAdd, Nat.reduceLT, Nat.reduceSub, Nat.reduceMul, Int.reduceEq, Int.reduceLT, Int.reduceLE, Int.reduceNeg, Int.reduceToNat, wrapS hlt (by omega : im.length ≤ 4611686018427387904)]
    refine ⟨_, by omega, i + 1, by omega, rfl, rfl, fun j hj => ?_⟩
    by_cases e : j = i
    · subst e; exact ht.1 rfl
    · exact hall j (by omega)
end Go.Proofs
