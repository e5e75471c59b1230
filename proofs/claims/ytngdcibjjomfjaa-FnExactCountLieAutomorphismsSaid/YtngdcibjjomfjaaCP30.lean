/- The compiled forms of the functions, each held against the program by the kernel. Written by program. -/
import Derived.Test.YtngdcibjjomfjaaCP28
import Derived.Test.YtngdcibjjomfjaaCAbPz
import Derived.Test.YtngdcibjjomfjaaCP26
import Derived.Test.YtngdcibjjomfjaaChecked
set_option linter.unusedSimpArgs false
set_option linter.unusedVariables false
namespace Go.Proofs
open Go.Ab Go.Lie
variable {σ : PHeap} {K : PV → PHeap → Prop} {p p' : Int} {n : Nat} {W W' : List (List Int)} {B B' : List (List (List Int))} {vP vB vP' vB' vL : PV} {s s' j0 : Nat} {im : List (List Int)}
/-- A list of which the rows from j0 on are known. -/
def FIG (j0 : Nat) (v : PV) (im : List (List Int)) : Prop := ∃ w a rl, v = .fz w a im.length rl ∧ ∀ j (h : j < im.length), j0 ≤ j → ∃ w' a', rl[j]? = some (.fz w' a' im[j].length (pis im[j]))
theorem combinationG_ok {l : Nat} {w : Bool} {a : AV} {im : List (List Int)} {c : List Int} (hs : PtrR σ s p vP vB) (hP : FII vP W) (o : OkW p n W) (hL : FIG j0 vL im) (hz0 : ∀ j, j < j0 → at_ c j = 0) (he : Els p n im) (hc : ∀ j, 0 ≤ at_ c j ∧ at_ c j ≤ 6) (hle : c.length ≤ im.length) (hl : l = c.length) (hb : c.length ≤ 1048576)
    (hk : ResI σ K (norm p W (csum im c n c.length))) : PCalls Try.prog 165 [.ptr s 0, vL, .fz w a l (pis c)] σ K := by
  subst hl
  have hn6 := o.le
  have hWl := o.len
  have hPP := hP
  obtain ⟨wl, al, rl, rfl, hrl⟩ := hL
  obtain ⟨w1, a1, rP, rfl, hP⟩ := hP
  refine PCalls.gh ?_
  have hne : ¬ s = σ.next := Nat.ne_of_lt hs.lt
  refine pcalls_of_vp mix Try.func165 cf165 rfl ?_
  dsimp only [if165, qI, eI, nI, qD, eD]
  simp only [pwA, if_true, if_false, eq_self, nm_eq, reduceCtorEq, ↓reduceIte, Nat.reduceEqDiff, Nat.reduceLeDiff, Nat.reduceBEq, Nat.reduceAdd, Nat.reduceLT, Nat.reduceSub, Nat.reduceMul, Int.reduceEq, Int.reduceLT, Int.reduceLE, Int.reduceNeg, Int.reduceToNat, List.reduceReplicate, Int.ofNat_le, List.getElem?_drop, obj_rd1 hs.obj, hne, pis_rep, mk8 (n := W.length) (by omega), mkL (n := W.length) (by omega)]
  refine vp_loop (fun m vs h' => ∃ i : Nat, i ≤ c.length ∧ m = c.length - i ∧ vs = [.ptr s 0, .fz wl al im.length rl, .sl σ.next 0 W.length (.known W.length), .fz w a c.length (pis c), .int .i64 c.length, .int .i64 i] ∧ h' = σ.new (pis (csum im c n i))) c.length ?_ ?_
  · exact ⟨0, by omega, by omega, rfl, by rw [csum, hWl]⟩
  rintro m vs h' ⟨i, hi, rfl, rfl, rfl⟩
  simp only [pwA, if_true, if_false, eq_self, nm_eq, reduceCtorEq, ↓reduceIte, Nat.reduceEqDiff, Nat.reduceLeDiff, Nat.reduceBEq, Nat.reduceAdd, Nat.reduceLT, Nat.reduceSub, Nat.reduceMul, Int.reduceEq, Int.reduceLT, Int.reduceLE, Int.reduceNeg, Int.reduceToNat, List.reduceReplicate, Int.ofNat_le, List.getElem?_drop]
  refine iteI (fun hlt => ?_) fun hge => ?_
  · have hic : i < im.length := by omega
    have hce := hc i
    have hcl := csum_length (c := c) he (by omega : i ≤ im.length)
    have hcb := csum_bd o.pr he hc (by omega : i ≤ im.length)
    have hie := he _ (List.getElem_mem hic)
    have hgd : im.getD i [] = im[i] := getD_row' hic
    rw [at_eq hlt] at hce
    have hneg : IntKind.i64.wrap (0 - c[i]) = -c[i] := by rw [wrap64 (by omega) (by omega)]; omega
    simp only [pwA, if_true, if_false, eq_self, nm_eq, reduceCtorEq, ↓reduceIte, Nat.reduceEqDiff, Nat.reduceLeDiff, Nat.reduceBEq, Nat.reduceAdd, Nat.reduceLT, Nat.reduceSub, Nat.reduceMul, Int.reduceEq, Int.reduceLT, Int.reduceLE, Int.reduceNeg, Int.reduceToNat, List.reduceReplicate, Int.ofNat_le, List.getElem?_drop, hlt, gi hlt, pis_get, List.getElem?_drop]
    refine iteI (fun h0 => ?_) fun h0 => ?_
    · simp only [pwA, if_true, if_false, eq_self, nm_eq, reduceCtorEq, ↓reduceIte, Nat.reduceEqDiff, Nat.reduceLeDiff, Nat.reduceBEq, Nat.reduceAdd, Nat.reduceLT, Nat.reduceSub, Nat.reduceMul, Int.reduceEq, Int.reduceLT, Int.reduceLE, Int.reduceNeg, Int.reduceToNat, List.reduceReplicate, Int.ofNat_le, List.getElem?_drop, wrapS hlt (by omega : c.length ≤ 4611686018427387904)]
      refine ⟨_, by omega, i + 1, by omega, rfl, rfl, ?_⟩
      rw [csum, at_eq hlt, h0, addm_zero (by rw [hcl, hgd, hie.1]; exact Nat.le_refl _)]
    · have hj0 : j0 ≤ i := by
        rcases Nat.lt_or_ge i j0 with x | x
        · exact absurd (by rw [← at_eq hlt]; exact hz0 i x) h0
        · exact x
      obtain ⟨w4, a4, hr⟩ := hrl i hic hj0
      simp only [pwA, if_true, if_false, eq_self, nm_eq, reduceCtorEq, ↓reduceIte, Nat.reduceEqDiff, Nat.reduceLeDiff, Nat.reduceBEq, Nat.reduceAdd, Nat.reduceLT, Nat.reduceSub, Nat.reduceMul, Int.reduceEq, Int.reduceLT, Int.reduceLE, Int.reduceNeg, Int.reduceToNat, List.reduceReplicate, Int.ofNat_le, List.getElem?_drop, hic, hr, hneg, List.getElem?_drop]
      refine subtractMultiple_ok' (xs := csum im c n i) (by omega) rfl (by simp only [pwA, if_true, if_false, eq_self, nm_eq, reduceCtorEq, ↓reduceIte, Nat.reduceEqDiff, Nat.reduceLeDiff, Nat.reduceBEq, Nat.reduceAdd, Nat.reduceLT, Nat.reduceSub, Nat.reduceMul, Int.reduceEq, Int.reduceLT, Int.reduceLE, Int.reduceNeg, Int.reduceToNat, List.reduceReplicate, Int.ofNat_le, List.getElem?_drop]) (by rw [hie.1]; omega) (by omega) (fun t h1 h2 => ?_) ?_
      · have c1 := cmul hce (hie.at o.pr t)
        have c2 := hcb t
        rw [at_eq h2] at c1
        rw [at_eq h1] at c2
        rw [Int.neg_mul]
        unfold sm
        omega
      · simp only [pwA, if_true, if_false, eq_self, nm_eq, reduceCtorEq, ↓reduceIte, Nat.reduceEqDiff, Nat.reduceLeDiff, Nat.reduceBEq, Nat.reduceAdd, Nat.reduceLT, Nat.reduceSub, Nat.reduceMul, Int.reduceEq, Int.reduceLT, Int.reduceLE, Int.reduceNeg, Int.reduceToNat, List.reduceReplicate, Int.ofNat_le, List.getElem?_drop, wrapS hlt (by omega : c.length ≤ 4611686018427387904)]
        refine ⟨_, by omega, i + 1, by omega, rfl, rfl, ?_⟩
        rw [subm_neg, csum, at_eq hlt, hgd]
  · have hie : i = c.length := by omega
    subst hie
    have hcl := csum_length (c := c) he hle
    exact (normal_fin hs hPP o hcl ((csum_bd o.pr he hc hle).mono (by have : big = 1125899906842624 := rfl; omega)) (by rw [hcl]; exact hWl) (by simp [capOK]) hk).mono fun v σ' hg => by simp only [pwA, if_true, if_false, eq_self, nm_eq, reduceCtorEq, ↓reduceIte, Nat.reduceEqDiff, Nat.reduceLeDiff, Nat.reduceBEq, Nat.reduceAdd, Nat.reduceLT, Nat.reduceSub, Nat.reduceMul, Int.reduceEq, Int.reduceLT, Int.reduceLE, Int.reduceNeg, Int.reduceToNat, List.reduceReplicate, Int.ofNat_le, List.getElem?_drop]; exact hg
theorem combinationG_fz {l : Nat} {w : Bool} {a : AV} {c : List Int} (hs : PtrR σ s p vP vB) (hP : FII vP W) (o : OkW p n W) (hL : FIG j0 vL im) (hz0 : ∀ j, j < j0 → at_ c j = 0) (he : Els p n im) (hc : ∀ j, 0 ≤ at_ c j ∧ at_ c j ≤ 6) (hle : c.length ≤ im.length) (hl : l = c.length) (hb : c.length ≤ 1048576)
    (hk : ∀ v, K (.fz true v n (pis (norm p W (csum im c n c.length)))) σ) : PCalls Try.prog 165 [.ptr s 0, vL, .fz w a l (pis c)] σ K :=
  PCalls.fzN (norm_length o (csum_length he hle)) (fun K' => combinationG_ok hs hP o hL hz0 he hc hle hl hb) hk
theorem lieFitsG_ok {i : Nat} (hs : PtrR σ s p vP vB) (hs' : PtrR σ s' p vP' vB') (hR : IsR vP vB W B) (hR' : IsR vP' vB' W' B') (o : OkW p W.length W) (q : OkB p W.length B) (o' : OkW p W'.length W') (q' : OkB p W'.length B')
    (hL : FIG i vL im) (he : Els p W'.length im) (hil : im.length = W.length) (hi : i < im.length) (hk : ∀ t : Bool, (t = true ↔ fits p W B W' B' im i) → K (.bool t) σ) : PCalls Try.prog 110 [.ptr s 0, .ptr s' 0, vL, .int .i64 i] σ K := by
  have hn6 := o.le
  have hn6' := o'.le
  have hp := o.pr
  have hpk : -1000000000 ≤ p ∧ p ≤ 1000000000 := by unfold okp at hp; omega
  have hPP' := hR'.P
  have hLL := hL
  obtain ⟨⟨w1, a1, rP, rfl, hP⟩, ⟨w3, a3, rB, rfl, hB⟩⟩ := hR
  obtain ⟨wl, al, rl, rfl, hrl⟩ := hL
  obtain ⟨w4, a4, hr⟩ := hrl i hi (Nat.le_refl _)
  have hiW : i < W.length := by omega
  have hiB : i < B.length := by rw [q.len]; exact hiW
  obtain ⟨w5, a5, hrw⟩ := hP.rowI hiW
  obtain ⟨w6, a6, rs, hrb, hrs⟩ := hB.rowL hiB
  have hie := he _ (List.getElem_mem hi)
  have hwe := row_el o hiW
  have g1 : im.getD i [] = im[i] := getD_row' hi
  have g2 : W.getD i [] = W[i] := getD_row' hiW
  have g3 : B.getD i [] = B[i] := getD_row' hiB
  have hbl := q.row i hiB
  have fl : ∀ {A : Prop}, ¬ A → ((false = true) ↔ A) := fun h => ⟨fun x => (by cases x), fun x => absurd x h⟩
  refine pcalls_of_vp mix Try.func110 cf110 rfl ?_
  dsimp only [if110, qI, eI, nI, qD, eD]
  simp only [pwA, if_true, if_false, eq_self, nm_eq, reduceCtorEq, ↓reduceIte, Nat.reduceEqDiff, Nat.reduceLeDiff, Nat.reduceBEq, Nat.reduceAdd, Nat.reduceLT, Nat.reduceSub, Nat.reduceMul, Int.reduceEq, Int.reduceLT, Int.reduceLE, Int.reduceNeg, Int.reduceToNat, List.reduceReplicate, Int.ofNat_le, List.getElem?_drop, obj_rd1 hs.obj, obj_rd1 hs'.obj, hi, hiW, hr, hrw, List.getElem?_drop]
  refine timesLie_fz hs' hPP' o' hie rfl hpk fun v1 => ?_
  simp only [pwA, if_true, if_false, eq_self, nm_eq, reduceCtorEq, ↓reduceIte, Nat.reduceEqDiff, Nat.reduceLeDiff, Nat.reduceBEq, Nat.reduceAdd, Nat.reduceLT, Nat.reduceSub, Nat.reduceMul, Int.reduceEq, Int.reduceLT, Int.reduceLE, Int.reduceNeg, Int.reduceToNat, List.reduceReplicate, Int.ofNat_le, List.getElem?_drop, obj_rd1 hs.obj, obj_rd1 hs'.obj, hi, hiW, hr, hrw, List.getElem?_drop]
  refine combinationG_fz hs' hPP' o' hLL (fun j hj => (o.row i hiW).2.2 j (by omega)) he (fun j => hwe.at hp j) (by rw [hwe.1]; omega) rfl (by rw [hwe.1]; omega) fun v2 => ?_
  simp only [pwA, if_true, if_false, eq_self, nm_eq, reduceCtorEq, ↓reduceIte, Nat.reduceEqDiff, Nat.reduceLeDiff, Nat.reduceBEq, Nat.reduceAdd, Nat.reduceLT, Nat.reduceSub, Nat.reduceMul, Int.reduceEq, Int.reduceLT, Int.reduceLE, Int.reduceNeg, Int.reduceToNat, List.reduceReplicate, Int.ofNat_le, List.getElem?_drop]
  have hce : ∀ c : List Int, c.length = W.length → El p W'.length (img p W' im c) := fun c hc => norm_el o' (csum_length he (by omega))
  refine Equal_ok (lmix_el o' hie hie).1.symm (hce _ hwe.1).1.symm (by rw [(lmix_el o' hie hie).1]; omega) ?_
  by_cases hf : lmul p W' p im[i] = img p W' im W[i]
  rotate_left
  · simp only [pwA, if_true, if_false, eq_self, nm_eq, reduceCtorEq, ↓reduceIte, Nat.reduceEqDiff, Nat.reduceLeDiff, Nat.reduceBEq, Nat.reduceAdd, Nat.reduceLT, Nat.reduceSub, Nat.reduceMul, Int.reduceEq, Int.reduceLT, Int.reduceLE, Int.reduceNeg, Int.reduceToNat, List.reduceReplicate, Int.ofNat_le, List.getElem?_drop, hf]
    exact hk _ (fl fun x => hf (by have := x.1; rwa [g1, g2] at this))
  simp only [pwA, if_true, if_false, eq_self, nm_eq, reduceCtorEq, ↓reduceIte, Nat.reduceEqDiff, Nat.reduceLeDiff, Nat.reduceBEq, Nat.reduceAdd, Nat.reduceLT, Nat.reduceSub, Nat.reduceMul, Int.reduceEq, Int.reduceLT, Int.reduceLE, Int.reduceNeg, Int.reduceToNat, List.reduceReplicate, Int.ofNat_le, List.getElem?_drop, eq_true hf, obj_rd1 hs.obj, hiB, hrb, List.getElem?_drop]
  refine vp_loop (fun m vs h' => ∃ k : Nat, k ≤ B[i].length ∧ m = B[i].length - k ∧ vs = [.ptr s' 0, .fz wl al im.length rl, .int .i64 i, .fz w6 a6 B[i].length rs, .int .i64 B[i].length, .int .i64 k] ∧ σ = h' ∧
    ∀ j, j < k → br p W' B' W'.length (im.getD i []) (im.getD (i + (1 + j)) []) = img p W' im ((B.getD i []).getD j [])) B[i].length ?_ ?_
  · exact ⟨0, by omega, by omega, rfl, rfl, fun j hj => by omega⟩
  rintro m vs h' ⟨k, hk', rfl, rfl, rfl, hall⟩
  simp only [pwA, if_true, if_false, eq_self, nm_eq, reduceCtorEq, ↓reduceIte, Nat.reduceEqDiff, Nat.reduceLeDiff, Nat.reduceBEq, Nat.reduceAdd, Nat.reduceLT, Nat.reduceSub, Nat.reduceMul, Int.reduceEq, Int.reduceLT, Int.reduceLE, Int.reduceNeg, Int.reduceToNat, List.reduceReplicate, Int.ofNat_le, List.getElem?_drop]
  refine iteI (fun hlt => ?_) fun hge => ?_
  rotate_left
  · exact hk _ ⟨fun _ => ⟨by rw [g1, g2]; exact hf, fun j hj => hall j (by omega)⟩, fun _ => rfl⟩
  obtain ⟨w7, a7, hrk⟩ := hrs.rowI hlt
  have hj : i + (1 + k) < im.length := by omega
  obtain ⟨w8, a8, hrj⟩ := hrl _ hj (by omega)
  have hje := he _ (List.getElem_mem hj)
  have hbe := (q.ent i hiB k hlt).1
  simp only [pwA, if_true, if_false, eq_self, nm_eq, reduceCtorEq, ↓reduceIte, Nat.reduceEqDiff, Nat.reduceLeDiff, Nat.reduceBEq, Nat.reduceAdd, Nat.reduceLT, Nat.reduceSub, Nat.reduceMul, Int.reduceEq, Int.reduceLT, Int.reduceLE, Int.reduceNeg, Int.reduceToNat, List.reduceReplicate, Int.ofNat_le, List.getElem?_drop, hi, hr, hlt, hrk, hj, hrj, List.getElem?_drop, wrapS (n := W.length) (i := i) hiW (by omega), wrapA (a := i + 1) (b := k) (by omega)]
  refine bracket_fz hs' hR' o' q' hie hje rfl rfl fun v3 => ?_
  simp only [pwA, if_true, if_false, eq_self, nm_eq, reduceCtorEq, ↓reduceIte, Nat.reduceEqDiff, Nat.reduceLeDiff, Nat.reduceBEq, Nat.reduceAdd, Nat.reduceLT, Nat.reduceSub, Nat.reduceMul, Int.reduceEq, Int.reduceLT, Int.reduceLE, Int.reduceNeg, Int.reduceToNat, List.reduceReplicate, Int.ofNat_le, List.getElem?_drop]
  refine combinationG_fz hs' hPP' o' hLL (fun j hj => (q.ent i hiB k hlt).2 j (by omega)) he (fun j => hbe.at hp j) (by rw [hbe.1]; omega) rfl (by rw [hbe.1]; omega) fun v4 => ?_
  simp only [pwA, if_true, if_false, eq_self, nm_eq, reduceCtorEq, ↓reduceIte, Nat.reduceEqDiff, Nat.reduceLeDiff, Nat.reduceBEq, Nat.reduceAdd, Nat.reduceLT, Nat.reduceSub, Nat.reduceMul, Int.reduceEq, Int.reduceLT, Int.reduceLE, Int.reduceNeg, Int.reduceToNat, List.reduceReplicate, Int.ofNat_le, List.getElem?_drop]
  refine Equal_ok (br_el o' q').1.symm (hce _ hbe.1).1.symm (by rw [(br_el o' q').1]; omega) ?_
  have hF : (br p W' B' W'.length im[i] im[i + (1 + k)] = img p W' im B[i][k]) ↔ (br p W' B' W'.length (im.getD i []) (im.getD (i + (1 + k)) []) = img p W' im ((B.getD i []).getD k [])) := by
    rw [g1, g3, getD_row' hlt, getD_row' hj]
  by_cases hf2 : br p W' B' W'.length im[i] im[i + (1 + k)] = img p W' im B[i][k]
  · simp only [pwA, if_true, if_false, eq_self, nm_eq, reduceCtorEq, ↓reduceIte, Nat.reduceEqDiff, Nat.reduceLeDiff, Nat.reduceBEq, Nat.reduceAdd, Nat.reduceLT, Nat.reduceSub, Nat.reduceMul, Int.reduceEq, Int.reduceLT, Int.reduceLE, Int.reduceNeg, Int.reduceToNat, List.reduceReplicate, Int.ofNat_le, List.getElem?_drop, eq_true hf2, wrapS hlt (by omega : B[i].length ≤ 4611686018427387904)]
    refine ⟨_, by omega, k + 1, by omega, rfl, rfl, fun j hj => ?_⟩
    by_cases e : j = k
    · subst e; exact hF.1 hf2
    · exact hall j (by omega)
  · simp only [pwA, if_true, if_false, eq_self, nm_eq, reduceCtorEq, ↓reduceIte, Nat.reduceEqDiff, Nat.reduceLeDiff, Nat.reduceBEq, Nat.reduceAdd, Nat.reduceLT, Nat.reduceSub, Nat.reduceMul, Int.reduceEq, Int.reduceLT, Int.reduceLE, Int.reduceNeg, Int.reduceToNat, List.reduceReplicate, Int.ofNat_le, List.getElem?_drop, hf2]
    exact hk _ (fl fun x => hf2 (hF.2 (x.2 k (by omega))))
end Go.Proofs
set_option linter.unusedVariables false
set_option linter.unusedSimpArgs false
namespace Go.Lie
open Go.Ab
variable {p : Int} {n : Nat} {W : List (List Int)}
theorem canon_len (o : OkW p n W) {gens a b : List (List Int)} (ha : Canon p n W gens a) (hb : Base p n W b) (hg : ∀ f, Gen p n W gens f ↔ Gen p n W b f) : a.length = b.length := by
  have h := finI_ok o hb
  have e : a = finI p W b := ha.unique o (h.1.trans hg)
  rw [e]
  have := congrArg List.length h.2
  simpa using this
theorem redL_in (o : OkW p n W) {u : List (List Int)} {x : List Int} (hu : Base p n W u) (hx : El p n x) : (∀ j, at_ (redL p W u x) j = 0) ↔ Gen p n W u (at_ x) := by
  have h1 := redL_gen o hu.els hx
  have hel := redL_el o hu.els hx
  constructor
  · intro h
    refine (gen_sub _).eqv _ _ (Eqv.of_eq fun j => ?_) h1
    rw [h j]; omega
  · intro h
    have h2 : Gen p n W u (at_ (redL p W u x)) := (gen_sub _).eqv _ _ (Eqv.of_eq fun j => by omega) ((gen_sub _).sub h h1)
    rcases Nat.lt_or_ge (dep (redL p W u x)) n with hd | hd
    · obtain ⟨v, hv, e⟩ := gen_dep o hu hel h2 hd
      have := (redL_at o hu.led hu.asc hx).1 v hv
      rw [e] at this
      exact absurd this (dep_ne (by rw [hel.1]; exact hd))
    · intro j
      rcases Nat.lt_or_ge j n with g | g
      · exact dep_zero (by omega)
      · exact hel.beyond g
theorem Base.clo : ∀ {u : List (List Int)}, Base p n W u → ∀ v ∈ u, Gen p n W (Dp u (dep v)) fun j => p * at_ v j
  | _, .nil => fun v hv => (by cases hv)
  | _, .cons (v := v) (u := u) hv ha hc hb => fun w hw => by
    rcases List.mem_cons.1 hw with rfl | hw
    · rw [filter_tail ha]; exact hc
    · refine gen_sublist (fun t ht => ?_) (hb.clo w hw)
      rw [Dp, List.mem_filter] at ht ⊢
      exact ⟨List.mem_cons_of_mem _ ht.1, ht.2⟩
theorem gen_fp (o : OkW p n W) {u : List (List Int)} {z : List Int} (hu : Base p n W u) (hz : El p n z) (h : Gen p n W u (at_ z)) : Gen p n W (Fp u (dep z)) (at_ z) := by
  have h0 := (redL_in o hu hz).2 h
  rw [redL_fp o hu.els hu.asc hz] at h0
  have h1 := redL_gen o (u := Fp u (dep z)) (fun v hv => hu.els v (Fp_mem.1 hv).1) hz
  refine (gen_sub _).eqv _ _ (Eqv.of_eq fun j => ?_) h1
  rw [h0 j]; omega
/-- An element that is not in, though p times it is. -/
theorem span_ex (o : OkW p n W) (hp : p = 2 ∨ p = 3 ∨ p = 5 ∨ p = 7) {L u : List (List Int)} {x : List Int} (hu : Canon p n W L u) (hx : El p n x) (hpx : Gen p n W L fun j => p * at_ x j) (h0 : ¬ ∀ j, at_ (redL p W u x) j = 0) :
    ∃ w, Base p n W w ∧ (∀ f, Gen p n W (x :: L) f ↔ Gen p n W w f) ∧ w.length = u.length + 1 := by
  have hb := hu.base
  have hgen : ∀ f, Gen p n W (x :: L) f ↔ Gen p n W (u ++ [x]) f := fun f => by
    have e1 : ∀ v ∈ L, Gen p n W (u ++ [x]) (at_ v) := fun v hv => gen_sublist (fun w hw => by simp [hw]) ((hu.gen _).1 (gen_mem hv))
    have e2 : ∀ v ∈ u, Gen p n W (x :: L) (at_ v) := fun v hv => gen_sublist (fun w hw => by simp [hw]) ((hu.gen _).2 (gen_mem hv))
    refine ⟨gen_mono fun v hv => ?_, gen_mono fun v hv => ?_⟩
    · rcases List.mem_cons.1 hv with rfl | hv
      · exact gen_mem (by simp)
      · exact e1 v hv
    · simp only [List.mem_append, List.mem_singleton] at hv
      rcases hv with hv | rfl
      · exact e2 v hv
      · exact gen_mem (by simp)
  have g1 : Grow p n W (x :: L) u [x] := ⟨hb.led, hb.asc, fun v hv => by rw [List.mem_singleton.1 hv]; exact hx, fun v hv => .inl (hb.clo v hv), hgen⟩
  have g2 := g1.reduce o
  have hx' := redL_el o hb.els hx
  have hat := (redL_at o hb.led hb.asc hx).1
  have hrg := redL_gen o hb.els hx
  generalize redL p W u x = x' at *
  have hd : dep x' < n := by
    rcases Nat.lt_or_ge (dep x') n with h | h
    · exact h
    · exact absurd (fun j => by
        rcases Nat.lt_or_ge j n with g | g
        · exact dep_zero (by omega)
        · exact hx'.beyond g) h0
  have hne := dep_ne (v := x') (by rw [hx'.1]; exact hd)
  have hnew : ∀ v ∈ u, dep v ≠ dep x' := fun v hv e => hne (by rw [← e]; exact hat v hv)
  have hbd := hx'.at0 o (dep x')
  obtain ⟨k, hk1, hk2, hk⟩ := inv_ex hp (a := at_ x' (dep x')) (by omega) (by omega)
  have g3 := g2.take o hd hnew hk
  have hz := g3.els _ (List.mem_singleton.2 rfl)
  obtain ⟨y1, y2⟩ := mul_eqv o hx' k
  obtain ⟨z1, z2⟩ := mul_eqv o y1 p
  generalize norm p W (lmix k x' 0 x') = y at *
  generalize norm p W (lmix p y 0 y) = z at *
  have hzu : Gen p n W u (at_ z) := by
    have q1 := (hu.gen _).1 hpx
    have q2 := (gen_sub u).sub q1 ((gen_sub u).mul p _ hrg)
    have q3 := (gen_sub u).mul k _ q2
    refine (gen_sub u).eqv _ _ (z2.trans ((y2.mul p).trans (Eqv.of_eq fun j => ?_))) q3
    grind
  have hzf := gen_fp o hb hz hzu
  have hel0 : El p n (List.replicate n 0) := ⟨by simp, fun t ht => by rw [List.eq_of_mem_replicate ht]; have := o.pr.1; omega⟩
  have hdz : dep z ≤ dep (List.replicate n (0 : Int)) := by
    have h2 := dep_ge (v := List.replicate n (0 : Int)) (d := n) (by simp) fun j _ => at_rep n j
    have := dep_le z
    rw [hz.1] at this
    omega
  have g4 := g3.replace (x := List.replicate n 0) hel0 hdz (by
    refine (gen_sub _).eqv _ _ (Eqv.of_eq fun j => ?_) (gen_sublist (fun w hw => ?_) hzf)
    · rw [at_rep]; omega
    · rw [Fp_mem] at hw ⊢
      exact ⟨insD_mem.2 (.inr hw.1), hw.2⟩)
  have g5 := g4.drop fun j => at_rep n j
  exact ⟨insD u y, g5.base, fun f => by have := g5.gen f; rwa [List.append_nil] at this, insD_length u y⟩
theorem span_add (o : OkW p n W) (hp : p = 2 ∨ p = 3 ∨ p = 5 ∨ p = 7) {L u out : List (List Int)} {x : List Int} (hu : Canon p n W L u) (hx : El p n x) (hpx : Gen p n W L fun j => p * at_ x j) (ho : Canon p n W (x :: L) out) :
    (¬ ∀ j, at_ (redL p W u x) j = 0) ↔ out.length = u.length + 1 := by
  have hb := hu.base
  have hgen : ∀ f, Gen p n W (x :: L) f ↔ Gen p n W (u ++ [x]) f := fun f => by
    have e1 : ∀ v ∈ L, Gen p n W (u ++ [x]) (at_ v) := fun v hv => gen_sublist (fun w hw => by simp [hw]) ((hu.gen _).1 (gen_mem hv))
    have e2 : ∀ v ∈ u, Gen p n W (x :: L) (at_ v) := fun v hv => gen_sublist (fun w hw => by simp [hw]) ((hu.gen _).2 (gen_mem hv))
    refine ⟨gen_mono fun v hv => ?_, gen_mono fun v hv => ?_⟩
    · rcases List.mem_cons.1 hv with rfl | hv
      · exact gen_mem (by simp)
      · exact e1 v hv
    · simp only [List.mem_append, List.mem_singleton] at hv
      rcases hv with hv | rfl
      · exact e2 v hv
      · exact gen_mem (by simp)
  by_cases h0 : ∀ j, at_ (redL p W u x) j = 0
  · have hxu := (redL_in o hb hx).1 h0
    have : out.length = u.length := canon_len o ho hb fun f => (hgen f).trans ⟨gen_mono fun v hv => by
      simp only [List.mem_append, List.mem_singleton] at hv
      rcases hv with hv | rfl
      · exact gen_mem hv
      · exact hxu, gen_sublist fun v hv => by simp [hv]⟩
    exact ⟨fun h => absurd h0 h, fun h => by omega⟩
  refine ⟨fun _ => ?_, fun _ => h0⟩
  obtain ⟨w, h1, h2, h3⟩ := span_ex o hp hu hx hpx h0
  rw [← h3]
  exact canon_len o ho h1 h2
/-- .. then the list is one longer. -/
theorem span_new (o : OkW p n W) (hp : p = 2 ∨ p = 3 ∨ p = 5 ∨ p = 7) {L u : List (List Int)} {x : List Int} (hu : Canon p n W L u) (hx : El p n x) (hpx : Gen p n W L fun j => p * at_ x j) (h0 : ¬ ∀ j, at_ (redL p W u x) j = 0) : ∃ out, Canon p n W (x :: L) out ∧ out.length = u.length + 1 := by
  obtain ⟨w, h1, h2, h3⟩ := span_ex o hp hu hx hpx h0
  have h := finI_ok o h1
  refine ⟨_, h.1.trans h2, ?_⟩
  rw [← h3]
  have := congrArg List.length h.2
  simpa using this
end Go.Lie
set_option linter.unusedVariables false
set_option linter.unusedSimpArgs false
namespace Go.Lie
open Go.Ab
/-- The m digits of a number, the last one the least. -/
def digs (P : Nat) : Nat → Nat → List Int
  | 0, _ => []
  | m + 1, k => digs P m (k / P) ++ [((k % P : Nat) : Int)]
theorem digs_length (P : Nat) : ∀ (m k : Nat), (digs P m k).length = m
  | 0, k => rfl
  | m + 1, k => by rw [digs, List.length_append, digs_length P m]; rfl
theorem digs_el {P : Nat} (hP : 0 < P) : ∀ (m k : Nat), El (P : Int) m (digs P m k)
  | 0, k => ⟨rfl, fun x hx => by cases hx⟩
  | m + 1, k => by
    refine ⟨digs_length P _ k, fun x hx => ?_⟩
    rw [digs, List.mem_append, List.mem_singleton] at hx
    rcases hx with hx | rfl
    · exact (digs_el hP m (k / P)).2 x hx
    · have := Nat.mod_lt k hP
      omega
theorem digs_push {P q r : Nat} (hr : r < P) (m : Nat) : digs P (m + 1) (q * P + r) = digs P m q ++ [(r : Int)] := by
  have h1 : (q * P + r) / P = q := by rw [Nat.mul_comm, Nat.mul_add_div (by omega), Nat.div_eq_of_lt hr, Nat.add_zero]
  have h2 : (q * P + r) % P = r := by rw [Nat.mul_comm, Nat.mul_add_mod, Nat.mod_eq_of_lt hr]
  rw [digs, h1, h2]
/-- All of them. -/
def allE (P m : Nat) : List (List Int) := (List.range (P ^ m)).map (digs P m)
theorem allE_length (P m : Nat) : (allE P m).length = P ^ m := by simp [allE]
theorem allE_get {P m k : Nat} (h : k < (allE P m).length) : (allE P m)[k] = digs P m k := by simp [allE]
open Classical in
/-- The number of ways to choose i more rows ahead of a list, each choice being good. -/
noncomputable def cnt (good : List (List Int) → Prop) (P n : Nat) : Nat → List (List Int) → Int
  | 0, _ => 1
  | i + 1, L => sumN (P ^ n) fun k => if good (digs P n k :: L) then cnt good P n i (digs P n k :: L) else 0
theorem sumN_bd {f : Nat → Int} {b : Int} (hb : 0 ≤ b) : ∀ (m : Nat), (∀ k, k < m → 0 ≤ f k ∧ f k ≤ b) → 0 ≤ sumN m f ∧ sumN m f ≤ m * b
  | 0, _ => by simp [sumN]
  | m + 1, h => by
    have h1 := sumN_bd hb m fun k hk => h k (by omega)
    have h2 := h m (by omega)
    have e : ((m + 1 : Nat) : Int) * b = m * b + b := by rw [Int.natCast_add, Int.add_mul]; omega
    rw [sumN, e]
    omega
theorem cnt_bd (good : List (List Int) → Prop) (P n : Nat) : ∀ (i : Nat) (L : List (List Int)), 0 ≤ cnt good P n i L ∧ cnt good P n i L ≤ (((P ^ n) ^ i : Nat) : Int)
  | 0, L => by simp [cnt]
  | i + 1, L => by
    have := sumN_bd (f := fun k => open Classical in if good (digs P n k :: L) then cnt good P n i (digs P n k :: L) else 0) (b := (((P ^ n) ^ i : Nat) : Int)) (by omega) (P ^ n) fun k hk => by
      have := cnt_bd good P n i (digs P n k :: L)
      split <;> omega
    rw [cnt, Nat.pow_succ, Nat.mul_comm]
    rw [← Int.natCast_mul] at this
    exact this
end Go.Lie
set_option linter.unusedSimpArgs false
set_option linter.unusedVariables false
namespace Go.Proofs
open Go.Ab Go.Lie
variable {σ : PHeap} {K : PV → PHeap → Prop} {p p' : Int} {n : Nat} {W W' : List (List Int)} {B B' : List (List (List Int))} {vP vB vP' vB' vL : PV} {s s' j0 : Nat} {im : List (List Int)}
theorem take_allE {P m q r : Nat} (hr : r < P) (h : q < P ^ m) : ((List.range (q * P + r + 1)).map (digs P (m + 1))) = ((List.range (q * P + r)).map (digs P (m + 1))) ++ [digs P m q ++ [(r : Int)]] := by
  rw [List.range_succ, List.map_append, List.map_cons, List.map_nil, digs_push hr]
theorem CloneA_ok {w : Bool} {a : AV} {xs : List Int} {l : Nat} (hl : l = xs.length) (hb : xs.length ≤ 4294967296) (hk : ∀ v h', Keep σ h' → PAcc σ.next 1 h' v l (pis xs) → K v h') : PCalls Try.prog 137 [.fz w a l (pis xs)] σ K := by
  subst hl
  exact Clone_ok rfl hb ⟨fun h0 => hk _ _ (Keep.refl _) (.inl ⟨rfl, by rw [h0]; rfl, by rw [h0]; rfl⟩), fun cap hc => hk _ _ (keep_new _ _) (PSl.own hc (by simp [PHeap.new]) (by simp [pis]) (Nat.le_refl _) (by simp [PHeap.new])).acc⟩
theorem allLie_ok {P : Nat} (hs : PtrR σ s p vP vB) (hP : FII vP W) (hW : W.length = n) (hn : n ≤ 6) (hp : p = (P : Int)) (hP2 : 2 ≤ P ∧ P ≤ 7) (hb : P ^ n ≤ 729) (hk : ∀ v, FII v (allE P n) → K v σ) : PCalls Try.prog 107 [.ptr s 0] σ K := by
  subst hp
  obtain ⟨wp, ap, rp, rfl, hrp⟩ := hP
  have pb : ∀ m, m ≤ n → P ^ m ≤ 729 := fun m hm => Nat.le_trans (Nat.pow_le_pow_right (by omega) hm) hb
  refine PCalls.pwf fun w => PCalls.gh ?_
  have e1 : σ.rd1 s 1 = some (.fz wp ap W.length rp) := by rw [obj_rd1 hs.obj]; rfl
  have e0 : σ.rd1 s 0 = some (.int .i64 P) := by rw [obj_rd1 hs.obj]; rfl
  have hsl := hs.lt
  refine pcalls_of_vp mix Try.func107 cf107 rfl ?_
  dsimp only [if107, qI, eI, nI, qD, eD]
  have hn1 : ¬ s = σ.next := by omega
  have hn2 : ¬ s = σ.next + 1 := by omega
  simp only [pwA, if_true, if_false, eq_self, nm_eq, reduceCtorEq, ↓reduceIte, Nat.reduceEqDiff, Nat.reduceLeDiff, Nat.reduceBEq, Nat.reduceAdd, Nat.reduceLT, Nat.reduceSub, Nat.reduceMul, Int.reduceEq, Int.reduceLT, Int.reduceLE, Int.reduceNeg, Int.reduceToNat, List.reduceReplicate, Int.ofNat_le, List.getElem?_drop, e1, hn1, hn2]
  have w0 : (allE P 0) = [[]] := by simp [allE, digs]
  refine vp_loopG (fun m vs h' => ∃ (i : Nat) (v : PV), i ≤ n ∧ m = n - i ∧ vs = [.ptr s 0, v, .int .i64 W.length, .int .i64 i] ∧ Keep σ h' ∧ FII v (allE P i)) n ?_ ?_
  · simp only [pwA, if_true, if_false, eq_self, nm_eq, reduceCtorEq, ↓reduceIte, Nat.reduceEqDiff, Nat.reduceLeDiff, Nat.reduceBEq, Nat.reduceAdd, Nat.reduceLT, Nat.reduceSub, Nat.reduceMul, Int.reduceEq, Int.reduceLT, Int.reduceLE, Int.reduceNeg, Int.reduceToNat, List.reduceReplicate, Int.ofNat_le, List.getElem?_drop]
    refine .fzh σ.next [] (by simp only [pwA, if_true, if_false, eq_self, nm_eq, reduceCtorEq, ↓reduceIte, Nat.reduceEqDiff, Nat.reduceLeDiff, Nat.reduceBEq, Nat.reduceAdd, Nat.reduceLT, Nat.reduceSub, Nat.reduceMul, Int.reduceEq, Int.reduceLT, Int.reduceLE, Int.reduceNeg, Int.reduceToNat, List.reduceReplicate, Int.ofNat_le, List.getElem?_drop]) trivial fun o1 => ?_
    refine .fz (σ.next + 1) [.fz true (.sl o1 0 0 (.known 0)) 0 []] ?_ ⟨trivial, trivial⟩ fun o2 => .here ⟨0, .fz true (.sl o2 0 1 (.known 1)) 1 [.fz true (.sl o1 0 0 (.known 0)) 0 []], by omega, by omega, ?_, ?_, ?_⟩
    · simp [PHeap.sub, PHeap.kill, PHeap.new, sbs, sb, capOK]
    · simp [sbs, sb, capOK]
    · exact ((((keep_new σ _).new _).kill (by omega)).sub w (by omega)).kill (by omega)
    · rw [w0]
      exact ⟨_, _, _, rfl, (All2.nil FI).snoc ⟨_, _, rfl⟩⟩
  rintro m vs h' ⟨i, v, hi, rfl, rfl, hkp, hv⟩
  have hvv := hv
  obtain ⟨wv, av, rv, rfl, hrv⟩ := hv
  simp only [pwA, if_true, if_false, eq_self, nm_eq, reduceCtorEq, ↓reduceIte, Nat.reduceEqDiff, Nat.reduceLeDiff, Nat.reduceBEq, Nat.reduceAdd, Nat.reduceLT, Nat.reduceSub, Nat.reduceMul, Int.reduceEq, Int.reduceLT, Int.reduceLE, Int.reduceNeg, Int.reduceToNat, List.reduceReplicate, Int.ofNat_le, List.getElem?_drop]
  refine iteI (fun hlt => ?_) fun hge => ?_
  rotate_left
  · have hie : i = n := by omega
    subst hie
    exact Gh.fin0 hkp trivial (hk _ hvv)
  have hlt' : i < n := by omega
  have hpi := pb i (by omega)
  have hpi1 := pb (i + 1) (by omega)
  rw [Nat.pow_succ] at hpi1
  have hel := allE_length P i
  refine vp_loop (fun m vs h2 => ∃ (q : Nat) (vA : PV) (rows : List PV), q ≤ P ^ i ∧ m = P ^ i - q ∧ vs = [.ptr s 0, vA, .int .i64 W.length, .int .i64 i, .fz wv av (allE P i).length rv, .int .i64 (allE P i).length, .int .i64 q] ∧ Keep σ h2 ∧ PAcc σ.next 1 h2 vA (q * P) rows ∧ All2 FI rows ((List.range (q * P)).map (digs P (i + 1)))) (P ^ i) ?_ ?_
  · exact ⟨0, _, [], by omega, by omega, rfl, hkp, by rw [Nat.zero_mul]; exact PAcc.nil _ _ _, by rw [Nat.zero_mul]; exact All2.nil _⟩
  rintro m vs h2 ⟨q, vA, rows, hq, rfl, rfl, hk2, ha, hrows⟩
  have hs2 := hs.keep hk2
  have e02 : h2.rd1 s 0 = some (.int .i64 P) := by rw [obj_rd1 hs2.obj]; rfl
  simp only [pwA, if_true, if_false, eq_self, nm_eq, reduceCtorEq, ↓reduceIte, Nat.reduceEqDiff, Nat.reduceLeDiff, Nat.reduceBEq, Nat.reduceAdd, Nat.reduceLT, Nat.reduceSub, Nat.reduceMul, Int.reduceEq, Int.reduceLT, Int.reduceLE, Int.reduceNeg, Int.reduceToNat, List.reduceReplicate, Int.ofNat_le, List.getElem?_drop]
  refine iteI (fun hltq => ?_) fun hgeq => ?_
  rotate_left
  · have hqe : q = P ^ i := by omega
    subst hqe
    have hpos : 0 < P ^ i * P := Nat.mul_pos (Nat.pow_pos (by omega)) (by omega)
    obtain ⟨t, cap, rfl, hc, q2, q3, q4, q5⟩ := ha.pos hpos
    simp only [pwA, if_true, if_false, eq_self, nm_eq, reduceCtorEq, ↓reduceIte, Nat.reduceEqDiff, Nat.reduceLeDiff, Nat.reduceBEq, Nat.reduceAdd, Nat.reduceLT, Nat.reduceSub, Nat.reduceMul, Int.reduceEq, Int.reduceLT, Int.reduceLE, Int.reduceNeg, Int.reduceToNat, List.reduceReplicate, Int.ofNat_le, List.getElem?_drop, wrapS hlt (by omega : W.length ≤ 4611686018427387904)]
    refine ⟨n - (i + 1), by omega, .fz t rows q2 (hrows.bI 0) fun o1 => .here ⟨i + 1, .fz true (.sl o1 0 (P ^ i * P) cap) (P ^ i * P) rows, by omega, rfl, ?_, hk2.kill q4, _, _, rows, by rw [allE_length, Nat.pow_succ], ?_⟩⟩
    · simp [sbs, sb, hc.ok]
    · unfold allE
      rw [Nat.pow_succ]; exact hrows
  have hql : q < (allE P i).length := hltq
  rw [hel] at hltq
  have hqP : q * P + P ≤ P ^ i * P := by
    have := Nat.mul_le_mul_right P (show q + 1 ≤ P ^ i by omega)
    rw [Nat.add_mul] at this; omega
  obtain ⟨w4, a4, hr⟩ := hrv.rowI hql
  rw [allE_get hql, digs_length] at hr
  simp only [pwA, if_true, if_false, eq_self, nm_eq, reduceCtorEq, ↓reduceIte, Nat.reduceEqDiff, Nat.reduceLeDiff, Nat.reduceBEq, Nat.reduceAdd, Nat.reduceLT, Nat.reduceSub, Nat.reduceMul, Int.reduceEq, Int.reduceLT, Int.reduceLE, Int.reduceNeg, Int.reduceToNat, List.reduceReplicate, Int.ofNat_le, List.getElem?_drop, hql, hr, e02, List.getElem?_drop]
  refine vp_loopG (fun m vs h3 => ∃ (r : Nat) (vA : PV) (rows : List PV), r ≤ P ∧ m = P - r ∧ vs = [.ptr s 0, vA, .fz w4 a4 i (pis (digs P i q)), .int .i64 W.length, .int .i64 i, .fz wv av (allE P i).length rv, .int .i64 (allE P i).length, .int .i64 q, .int .i64 P, .int .i64 r] ∧ Keep σ h3 ∧ PAcc σ.next 1 h3 vA (q * P + r) rows ∧ All2 FI rows ((List.range (q * P + r)).map (digs P (i + 1)))) P ?_ ?_
  · exact .here ⟨0, vA, rows, by omega, by omega, rfl, hk2, ha, hrows⟩
  clear ha hrows rows vA
  rintro m vs h3 ⟨r, vA, rows, hr', rfl, rfl, hk3, ha, hrows⟩
  simp only [pwA, if_true, if_false, eq_self, nm_eq, reduceCtorEq, ↓reduceIte, Nat.reduceEqDiff, Nat.reduceLeDiff, Nat.reduceBEq, Nat.reduceAdd, Nat.reduceLT, Nat.reduceSub, Nat.reduceMul, Int.reduceEq, Int.reduceLT, Int.reduceLE, Int.reduceNeg, Int.reduceToNat, List.reduceReplicate, Int.ofNat_le, List.getElem?_drop]
  refine iteI (fun hltr => ?_) fun hger => ?_
  rotate_left
  · have hre : r = P := by omega
    subst hre
    simp only [pwA, if_true, if_false, eq_self, nm_eq, reduceCtorEq, ↓reduceIte, Nat.reduceEqDiff, Nat.reduceLeDiff, Nat.reduceBEq, Nat.reduceAdd, Nat.reduceLT, Nat.reduceSub, Nat.reduceMul, Int.reduceEq, Int.reduceLT, Int.reduceLE, Int.reduceNeg, Int.reduceToNat, List.reduceReplicate, Int.ofNat_le, List.getElem?_drop, wrapS hql (by omega : (allE r i).length ≤ 4611686018427387904)]
    refine ⟨_, by omega, q + 1, vA, rows, by omega, rfl, rfl, hk3, by rw [Nat.add_mul, Nat.one_mul]; exact ha, by rw [Nat.add_mul, Nat.one_mul]; exact hrows⟩
  have hltr' : r < P := by omega
  simp only [pwA, if_true, if_false, eq_self, nm_eq, reduceCtorEq, ↓reduceIte, Nat.reduceEqDiff, Nat.reduceLeDiff, Nat.reduceBEq, Nat.reduceAdd, Nat.reduceLT, Nat.reduceSub, Nat.reduceMul, Int.reduceEq, Int.reduceLT, Int.reduceLE, Int.reduceNeg, Int.reduceToNat, List.reduceReplicate, Int.ofNat_le, List.getElem?_drop]
  refine CloneA_ok (digs_length _ _ _).symm (by rw [digs_length]; omega) fun vC h4 k4 a4' => ?_
  simp only [pwA, if_true, if_false, eq_self, nm_eq, reduceCtorEq, ↓reduceIte, Nat.reduceEqDiff, Nat.reduceLeDiff, Nat.reduceBEq, Nat.reduceAdd, Nat.reduceLT, Nat.reduceSub, Nat.reduceMul, Int.reduceEq, Int.reduceLT, Int.reduceLE, Int.reduceNeg, Int.reduceToNat, List.reduceReplicate, Int.ofNat_le, List.getElem?_drop]
  refine PAcc.push (bytes := 8) (σb := h3) k4 a4' (by omega) (by omega) fun vR h5 k5 a5 => ?_
  obtain ⟨sR, cR, rfl, hcR, g2, g3, g4, g5⟩ := a5
  simp only [pwA, if_true, if_false, eq_self, nm_eq, reduceCtorEq, ↓reduceIte, Nat.reduceEqDiff, Nat.reduceLeDiff, Nat.reduceBEq, Nat.reduceAdd, Nat.reduceLT, Nat.reduceSub, Nat.reduceMul, Int.reduceEq, Int.reduceLT, Int.reduceLE, Int.reduceNeg, Int.reduceToNat, List.reduceReplicate, Int.ofNat_le, List.getElem?_drop]
  refine PAcc.pushS (bytes := 24) (σb := σ) (hk3.trans k5) (ha.keep k5) rfl (by omega) (by omega) fun v6 h6 k6 a6 o6 n6 l6 => ?_
  simp only [pwA, if_true, if_false, eq_self, nm_eq, reduceCtorEq, ↓reduceIte, Nat.reduceEqDiff, Nat.reduceLeDiff, Nat.reduceBEq, Nat.reduceAdd, Nat.reduceLT, Nat.reduceSub, Nat.reduceMul, Int.reduceEq, Int.reduceLT, Int.reduceLE, Int.reduceNeg, Int.reduceToNat, List.reduceReplicate, Int.ofNat_le, List.getElem?_drop, wrapS hltr' (by omega : P ≤ 4611686018427387904)]
  have hb6 : Bels 0 (pis (digs P i q) ++ [.int .i64 r]) := by
    have := pis_bel 0 (digs P i q ++ [(r : Int)])
    simpa [pis] using this
  refine ⟨P - (r + 1), by omega, .fzh sR _ (by rw [o6 sR g5 (ha.ne g4)]; exact g2) hb6 fun o1 => .here ⟨r + 1, v6, rows ++ [.fz true (.sl o1 0 (i + 1) cR) (i + 1) (pis (digs P i q) ++ [.int .i64 r])], by omega, rfl, ?_, ?_, ?_, ?_⟩⟩
  · have := (PSl.fzr w k6 a6 (s := sR) (cs := pis (digs P i q) ++ [.int .i64 r]) (by have := hk3.next; omega) (n6 sR g5) o1).2.2
    simp only [sbs, sb, this]
  · exact (PSl.fzr w k6 a6 (by have := hk3.next; omega) (n6 sR g5) o1).1
  · have := (PSl.fzr w k6 a6 (s := sR) (cs := pis (digs P i q) ++ [.int .i64 r]) (by have := hk3.next; omega) (n6 sR g5) o1).2.1
    rw [sbs_row (hrows.bI 0) hcR.ok] at this
    exact this.acc
  · rw [← Nat.add_assoc, take_allE hltr' hltq]
    refine hrows.snoc ⟨true, .sl o1 0 (i + 1) cR, ?_⟩
    rw [List.length_append, digs_length]
    simp [pis]
end Go.Proofs
set_option linter.unusedSimpArgs false
set_option linter.unusedVariables false
namespace Go.Proofs
open Go.Ab Go.Lie
variable {σ : PHeap} {K : PV → PHeap → Prop} {p p' : Int} {n : Nat} {W W' : List (List Int)} {B B' : List (List (List Int))} {vP vB vP' vB' vL : PV} {s s' j0 : Nat} {im : List (List Int)}
/-- A part of a slot holds rows. -/
structure SLI (σ : PHeap) (t off : Nat) (cells rl : List PV) (gens : List (List Int)) : Prop where
  obj : σ.obj t = some cells
  part : (cells.drop off).take gens.length = rl
  le : off + gens.length ≤ cells.length
  rows : All2 FI rl gens
theorem CloneS_q {t off m : Nat} {cap : Cap} {cells rows : List PV} (ho : σ.obj t = some cells) (hr : (cells.drop off).take m = rows) (hl : off + m ≤ cells.length) (hm : m ≤ 1048576) (hk : ∀ v h', Keep σ h' → PQ σ.next h' v m rows → K v h') :
    PCalls Try.prog 161 [.sl t off m cap] σ K := by
  refine PCalls.pwf fun w => ?_
  have htl := w.lt ho
  refine pcalls_of_vp mix Try.func161 cf161 rfl ?_
  dsimp only [if161, qI, eI, nI, qD, eD]
  simp only [pwA, if_true, if_false, eq_self, nm_eq, reduceCtorEq, ↓reduceIte, Nat.reduceEqDiff, Nat.reduceLeDiff, Nat.reduceBEq, Nat.reduceAdd, Nat.reduceLT, Nat.reduceSub, Nat.reduceMul, Int.reduceEq, Int.reduceLT, Int.reduceLE, Int.reduceNeg, Int.reduceToNat, List.reduceReplicate, Int.ofNat_le, List.getElem?_drop]
  have hrl : rows.length = m := by rw [← hr, List.length_take, List.length_drop]; omega
  refine PSl.app (b := 0) (bytes := 24) (σb := σ) (n := 0) (m := m) (cs := []) (news := rows) (keep_new σ _) (Nat.zero_le _) (PSl.new _ 1 rfl (Nat.le_refl _)) rfl (fun h0 => ?_) (by omega) (by omega) (by omega) fun v' h' hk' ha => ?_
  · rw [pfirst_sl, if_neg h0, if_pos (Nat.le_refl _), obj_rd (by rw [pobj_new, if_neg (by omega)]; exact ho), Nat.mul_one, if_pos hl, hr]
  · rw [Nat.zero_add, List.nil_append] at ha
    simp only [pwA, if_true, if_false, eq_self, nm_eq, reduceCtorEq, ↓reduceIte, Nat.reduceEqDiff, Nat.reduceLeDiff, Nat.reduceBEq, Nat.reduceAdd, Nat.reduceLT, Nat.reduceSub, Nat.reduceMul, Int.reduceEq, Int.reduceLT, Int.reduceLE, Int.reduceNeg, Int.reduceToNat, List.reduceReplicate, Int.ofNat_le, List.getElem?_drop]
    exact hk v' h' hk' (.of ha.acc)
theorem l31At_ok {P k0 : Nat} (hR : IsR vP vB W B) (hW : W.length = n) (hn : n ≤ 6) (hp : p = (P : Int)) (hP2 : 2 ≤ P ∧ P ≤ 7) (hk0 : k0 ≤ 1000000) (hk : ∀ v, FI v (digs P n k0) → K v σ) : PCalls Try.prog 101 [.agg [.int .i64 p, vP, vB], .int .i64 k0] σ K := by
  subst hp
  have h1 := hR.P.one
  have h2 := hR.B.one
  refine PCalls.gh ?_
  refine pcalls_of_vp mix Try.func101 cf101 rfl ?_
  dsimp only [if101, qI, eI, nI, qD, eD]
  simp only [pwA, if_true, if_false, eq_self, nm_eq, reduceCtorEq, ↓reduceIte, Nat.reduceEqDiff, Nat.reduceLeDiff, Nat.reduceBEq, Nat.reduceAdd, Nat.reduceLT, Nat.reduceSub, Nat.reduceMul, Int.reduceEq, Int.reduceLT, Int.reduceLE, Int.reduceNeg, Int.reduceToNat, List.reduceReplicate, Int.ofNat_le, List.getElem?_drop, h1, h2]
  refine l31Zero_own hR hW (by omega) fun cap hc => ?_
  have ew : IntKind.i64.wrap ((n : Int) - 1) = (n : Int) - 1 := wrap64 (by omega) (by omega)
  simp only [pwA, if_true, if_false, eq_self, nm_eq, reduceCtorEq, ↓reduceIte, Nat.reduceEqDiff, Nat.reduceLeDiff, Nat.reduceBEq, Nat.reduceAdd, Nat.reduceLT, Nat.reduceSub, Nat.reduceMul, Int.reduceEq, Int.reduceLT, Int.reduceLE, Int.reduceNeg, Int.reduceToNat, List.reduceReplicate, Int.ofNat_le, List.getElem?_drop, ew]
  refine vp_loop (fun m vs h' => ∃ (c kk : Nat) (out : List Int), c ≤ n ∧ m = c ∧ vs = [.int .i64 kk, .ptr σ.next 0, .sl (σ.next + 1) 0 n cap, .int .i64 ((c : Int) - 1)] ∧ h' = (σ.new [.int .i64 P, vP, vB]).new (pis out) ∧ out.length = n ∧ kk ≤ k0 ∧ digs P c kk ++ out.drop c = digs P n k0) n ?_ ?_
  · refine ⟨n, k0, List.replicate n 0, Nat.le_refl _, rfl, rfl, rfl, by simp, Nat.le_refl _, ?_⟩
    rw [List.drop_of_length_le (by simp), List.append_nil]
  rintro m vs h' ⟨c, kk, out, hcn, rfl, rfl, rfl, hol, hkk, hd⟩
  rcases Nat.eq_zero_or_pos m with rfl | hpos
  · simp only [pwA, if_true, if_false, eq_self, nm_eq, reduceCtorEq, ↓reduceIte, Nat.reduceEqDiff, Nat.reduceLeDiff, Nat.reduceBEq, Nat.reduceAdd, Nat.reduceLT, Nat.reduceSub, Nat.reduceMul, Int.reduceEq, Int.reduceLT, Int.reduceLE, Int.reduceNeg, Int.reduceToNat, List.reduceReplicate, Int.ofNat_le, List.getElem?_drop, show ¬ ((0 : Int) ≤ ((0 : Nat) : Int) - 1) by omega]
    have he : out = digs P n k0 := by simpa [digs] using hd
    rw [← he] at hk
    clear he hd
    rw [← hol] at hc ⊢
    exact Gh.finF (s := σ.next + 1) ((keep_new σ _).new _) (by simp only [pwA, if_true, if_false, eq_self, nm_eq, reduceCtorEq, ↓reduceIte, Nat.reduceEqDiff, Nat.reduceLeDiff, Nat.reduceBEq, Nat.reduceAdd, Nat.reduceLT, Nat.reduceSub, Nat.reduceMul, Int.reduceEq, Int.reduceLT, Int.reduceLE, Int.reduceNeg, Int.reduceToNat, List.reduceReplicate, Int.ofNat_le, List.getElem?_drop]) (by omega) (pis_bel _ _) hc.ok fun o1 => hk _ ⟨_, _, rfl⟩
  · obtain ⟨c, rfl⟩ : ∃ c, m = c + 1 := ⟨m - 1, by omega⟩
    have e : ((c + 1 : Nat) : Int) - 1 = (c : Int) := by omega
    have hco : c < out.length := by omega
    have hcn' : c < n := by omega
    have ew2 : IntKind.i64.wrap ((c : Int) - 1) = (c : Int) - 1 := wrap64 (by omega) (by omega)
    rw [e]
    have hP0 : ¬ (P : Int) = 0 := by omega
    have et : (kk : Int).tmod (P : Int) = ((kk % P : Nat) : Int) := rfl
    have ed : (kk : Int).tdiv (P : Int) = ((kk / P : Nat) : Int) := rfl
    have hdl : kk / P ≤ kk := Nat.div_le_self _ _
    have ewq : ∀ q : Nat, q ≤ kk → IntKind.i64.wrap (q : Int) = (q : Int) := fun q hq => wrap64 (by omega) (by omega)
    have ewq := ewq _ hdl
    have hco1 : c + 1 ≤ out.length := hco
    have hset := pis_set_at hco (x := ((kk % P : Nat) : Int))
    simp only [pwA, if_true, if_false, eq_self, nm_eq, reduceCtorEq, ↓reduceIte, Nat.reduceEqDiff, Nat.reduceLeDiff, Nat.reduceBEq, Nat.reduceAdd, Nat.reduceLT, Nat.reduceSub, Nat.reduceMul, Int.reduceEq, Int.reduceLT, Int.reduceLE, Int.reduceNeg, Int.reduceToNat, List.reduceReplicate, Int.ofNat_le, List.getElem?_drop, hP0, et, ed, ewq, hcn', hco1, pis_length, hset, ew2]
    refine ⟨c, Nat.lt_succ_self c, c, kk / P, out.set c ((kk % P : Nat) : Int), by omega, rfl, rfl, rfl, by rw [List.length_set]; exact hol, Nat.le_trans hdl hkk, ?_⟩
    rw [← hd, digs, List.append_assoc]
    congr 1
    rw [List.drop_eq_getElem_cons (by rw [List.length_set]; exact hco), List.getElem_set_self, List.drop_set_of_lt (by omega)]
    rfl
theorem lieSpan_sl {gens : List (List Int)} {t0 off0 : Nat} {cap0 : Cap} {cells rl : List PV} (hs : PtrR σ s p vP vB) (hsl0 : t0 < σ.next) (hP : FII vP W) (o : OkW p n W) (hp : isP p) (hL : SLI σ t0 off0 cells rl gens) (he : Els p n gens) (hgl : gens.length ≤ 1048576) (hk : ∀ v out, Canon p n W gens out → FII v out → K v σ) :
    PCalls Try.prog 106 [.ptr s 0, .sl t0 off0 gens.length cap0] σ K := by
  have hn6 := o.le
  have hpb := hp.bd
  have hpk : -1000000000 ≤ p ∧ p ≤ 1000000000 := by omega
  have hWn := o.len
  obtain ⟨hLo, hLr, hLl, hrl⟩ := hL
  have hLt : t0 < σ.next := hsl0
  have hP' := hP
  obtain ⟨wp, ap, rp, rfl, hrp⟩ := hP
  have hsl := hs.lt
  have hP1 : σ.rd1 s 1 = some (.fz wp ap W.length rp) := by rw [obj_rd1 hs.obj]; rfl
  refine PCalls.gh ?_
  refine pcalls_of_vp mix Try.func106 cf106 rfl ?_
  dsimp only [if106, qI, eI, nI, qD, eD]
  simp only [pwA, if_true, if_false, eq_self, nm_eq, reduceCtorEq, ↓reduceIte, Nat.reduceEqDiff, Nat.reduceLeDiff, Nat.reduceBEq, Nat.reduceAdd, Nat.reduceLT, Nat.reduceSub, Nat.reduceMul, Int.reduceEq, Int.reduceLT, Int.reduceLE, Int.reduceNeg, Int.reduceToNat, List.reduceReplicate, Int.ofNat_le, List.getElem?_drop, hP1, hWn, mk24 (n := n) (by omega), mkL (n := n) (by omega)]
  have elU : ∀ {u Q : List (List Int)}, Grow p n W gens u Q → (∀ v ∈ u, El p n v ∧ dep v < n) ∧ u.length ≤ n := fun g => ⟨fun v hv => ⟨(g.led v hv).1, (g.led v hv).2.1⟩, asc_length (fun v hv => (g.led v hv).2.1) g.asc⟩
  refine CloneS_q (cells := cells) (by rw [pobj_new, if_neg (by omega)]; exact hLo) hLr hLl hgl fun vQ h1 k1 q1 => ?_
  simp only [pwA, if_true, if_false, eq_self, nm_eq, reduceCtorEq, ↓reduceIte, Nat.reduceEqDiff, Nat.reduceLeDiff, Nat.reduceBEq, Nat.reduceAdd, Nat.reduceLT, Nat.reduceSub, Nat.reduceMul, Int.reduceEq, Int.reduceLT, Int.reduceLE, Int.reduceNeg, Int.reduceToNat, List.reduceReplicate, Int.ofNat_le, List.getElem?_drop]
  refine vp_loop (fun m vs h' => ∃ u Q vQ rb rq, m = 2 * (n - u.length) + Q.length ∧ vs = [.ptr s 0, .sl σ.next 0 n (.known n), vQ] ∧ Keep (σ.new rb) h' ∧ PQ (σ.next + 1) h' vQ Q.length rq ∧ All2 FI rq Q ∧ Grow p n W gens u Q ∧ BRows n u rb ∧ Q.length ≤ gens.length) (2 * n + gens.length) ?_ ?_
  · refine ⟨[], gens, vQ, _, rl, rfl, rfl, k1, q1, hrl, Grow.start he, ⟨by simp, fun d hd => .inl ⟨by simp, fun y hy => by cases hy⟩⟩, Nat.le_refl _⟩
  rintro m vs h' ⟨u, Q, vQ, rb, rq, rfl, rfl, hkp, hq, hrq, hg, hb, hQl⟩
  have hk0 : Keep σ h' := hkp.of
  have hs' := hs.keep hk0
  have hp0 : h'.rd1 s 0 = some (.int .i64 p) := by rw [obj_rd1 hs'.obj]; rfl
  have hobj : h'.obj σ.next = some rb := by rw [hkp.obj _ (by simp [PHeap.new])]; simp [PHeap.new]
  cases Q with
  | nil =>
    have hlen : pLen vQ = some (.int .i64 0) := hq.pLen
    have hw : IntKind.i64.wrap ((n : Int) - 1) = (n : Int) - 1 := wrap64 (by omega) (by omega)
    have hbase := hg.base
    have hFn : Fp u n = [] := List.filter_eq_nil_iff.2 fun v hv => by have := ((elU hg).1 v hv).2; simp; omega
    simp only [pwA, if_true, if_false, eq_self, nm_eq, reduceCtorEq, ↓reduceIte, Nat.reduceEqDiff, Nat.reduceLeDiff, Nat.reduceBEq, Nat.reduceAdd, Nat.reduceLT, Nat.reduceSub, Nat.reduceMul, Int.reduceEq, Int.reduceLT, Int.reduceLE, Int.reduceNeg, Int.reduceToNat, List.reduceReplicate, Int.ofNat_le, List.getElem?_drop, hlen, hw]
    refine vp_loopG (fun m vs h2 => ∃ (k : Nat) (vO : PV), k ≤ n ∧ m = k ∧ vs = [.ptr s 0, .sl σ.next 0 n (.known n), vO, .int .i64 ((k : Int) - 1)] ∧ Keep (σ.new rb) h2 ∧ FII vO (finI p W (Fp u k))) n (.here ⟨n, _, Nat.le_refl _, rfl, rfl, hkp, by rw [hFn]; exact ⟨_, _, _, rfl, All2.nil _⟩⟩) ?_
    rintro m vs h2 ⟨k, vO, hkn, rfl, rfl, hk2, hO⟩
    have hk02 : Keep σ h2 := hk2.of
    have hs2 := hs.keep hk02
    have hobj2 : h2.obj σ.next = some rb := by rw [hk2.obj _ (by simp [PHeap.new])]; simp [PHeap.new]
    rcases Nat.eq_zero_or_pos m with rfl | hmp
    · simp only [pwA, if_true, if_false, eq_self, nm_eq, reduceCtorEq, ↓reduceIte, Nat.reduceEqDiff, Nat.reduceLeDiff, Nat.reduceBEq, Nat.reduceAdd, Nat.reduceLT, Nat.reduceSub, Nat.reduceMul, Int.reduceEq, Int.reduceLT, Int.reduceLE, Int.reduceNeg, Int.reduceToNat, List.reduceReplicate, Int.ofNat_le, List.getElem?_drop, show ¬ ((0 : Int) ≤ ((0 : Nat) : Int) - 1) by omega]
      have hF0 : Fp u 0 = u := Fp_all fun v hv => Nat.zero_le _
      rw [hF0] at hO
      exact Gh.fin0 hk02 (hO.bel _) (hk vO _ (hg.done (finI_ok o hbase).1) hO)
    · obtain ⟨k, rfl⟩ : ∃ k, m = k + 1 := ⟨m - 1, by omega⟩
      have e : ((k + 1 : Nat) : Int) - 1 = (k : Int) := by omega
      have hkn' : k < n := hkn
      have hkl : k < rb.length := by rw [hb.1]; exact hkn'
      have hrd := obj_rd1 hobj2 k
      rw [List.getElem?_eq_getElem hkl] at hrd
      have hbs := hbase.fp' (k := k + 1)
      rw [e]
      have hw2 : IntKind.i64.wrap ((k : Int) - 1) = (k : Int) - 1 := wrap64 (by omega) (by omega)
      rcases hb.2 k hkl with ⟨e1, e2⟩ | ⟨oo, cap, y, e1, e2, e3⟩
      · rw [e1] at hrd
        simp only [pwA, if_true, if_false, eq_self, nm_eq, reduceCtorEq, ↓reduceIte, Nat.reduceEqDiff, Nat.reduceLeDiff, Nat.reduceBEq, Nat.reduceAdd, Nat.reduceLT, Nat.reduceSub, Nat.reduceMul, Int.reduceEq, Int.reduceLT, Int.reduceLE, Int.reduceNeg, Int.reduceToNat, List.reduceReplicate, Int.ofNat_le, List.getElem?_drop, hkn', hrd, hw2]
        refine ⟨_, Nat.lt_succ_self k, .here ⟨k, vO, by omega, rfl, rfl, hk2, ?_⟩⟩
        rw [Fp_skip e2]
        exact hO
      · rw [e1] at hrd
        obtain ⟨y', y1, y2, y3⟩ := Fp_le hg.asc ⟨y, e2, e3⟩
        obtain rfl : y' = y := by
          rcases pairwise_two hg.asc y1 e2 with x | x | x
          · exact x
          · omega
          · omega
        simp only [pwA, if_true, if_false, eq_self, nm_eq, reduceCtorEq, ↓reduceIte, Nat.reduceEqDiff, Nat.reduceLeDiff, Nat.reduceBEq, Nat.reduceAdd, Nat.reduceLT, Nat.reduceSub, Nat.reduceMul, Int.reduceEq, Int.reduceLT, Int.reduceLE, Int.reduceNeg, Int.reduceToNat, List.reduceReplicate, Int.ofNat_le, List.getElem?_drop, hkn', hrd, hw2]
        have hF := (finI_ok o hbs).1
        have hLl : (finI p W (Fp u (k + 1))).length ≤ n := asc_length (fun v hv => (hF.base.led v hv).2.1) hF.base.asc
        have hy := ((elU hg).1 y' e2).1
        refine reduceLie_ok hs2 hP' o hO (fun v hv => ⟨(hF.base.led v hv).1, (hF.base.led v hv).2.1⟩) (by omega) hy hy.1.symm fun v1 => ?_
        have hrl := (redL_el o (u := finI p W (Fp u (k + 1))) (fun v hv => (hF.base.led v hv).1) hy).1
        have hFk : finI p W (Fp u k) = redL p W (finI p W (Fp u (k + 1))) y' :: finI p W (Fp u (k + 1)) := by rw [y3]; rfl
        generalize finI p W (Fp u (k + 1)) = L at *
        generalize redL p W L y' = z at *
        obtain ⟨wO, aO, rO, rfl, hrO⟩ := hO
        simp only [pwA, if_true, if_false, eq_self, nm_eq, reduceCtorEq, ↓reduceIte, Nat.reduceEqDiff, Nat.reduceLeDiff, Nat.reduceBEq, Nat.reduceAdd, Nat.reduceLT, Nat.reduceSub, Nat.reduceMul, Int.reduceEq, Int.reduceLT, Int.reduceLE, Int.reduceNeg, Int.reduceToNat, List.reduceReplicate, Int.ofNat_le, List.getElem?_drop]
        refine PSl.cat (bytes := 24) (σb := h2) (n := 1) (cs := [.fz true v1 n (pis z)]) (keep_new h2 _) (PSl.new _ 1 rfl (Nat.le_refl _)) hrO.1 (by omega) (by omega) fun v3 h3 k3 a3 => ?_
        obtain ⟨s3, cap3, rfl, hc3, ho3, hl3, hge3, hlt3⟩ := a3
        have hall : All2 FI ([.fz true v1 n (pis z)] ++ rO) (z :: L) := (All2.nil FI |>.snoc (⟨true, v1, by rw [hrl]⟩ : FI (.fz true v1 n (pis z)) z)).append hrO
        have hne : σ.next ≠ s3 := by
          have := hk2.next
          simp only [PHeap.new] at this
          omega
        simp only [pwA, if_true, if_false, eq_self, nm_eq, reduceCtorEq, ↓reduceIte, Nat.reduceEqDiff, Nat.reduceLeDiff, Nat.reduceBEq, Nat.reduceAdd, Nat.reduceLT, Nat.reduceSub, Nat.reduceMul, Int.reduceEq, Int.reduceLT, Int.reduceLE, Int.reduceNeg, Int.reduceToNat, List.reduceReplicate, Int.ofNat_le, List.getElem?_drop, hw2]
        refine ⟨k, Nat.lt_succ_self k, .fz s3 _ ho3 (hall.bI 0) fun o1 => .here ⟨k, .fz true (.sl o1 0 (1 + L.length) cap3) (1 + L.length) ([.fz true v1 n (pis z)] ++ rO), by omega, rfl, ?_, (hk2.trans k3).kill (by have := hk2.next; simp only [PHeap.new] at this ⊢; omega), by rw [hFk]; exact ⟨true, _, _, by rw [List.length_cons, Nat.add_comm], hall⟩⟩⟩
        simp only [pwA, if_true, if_false, eq_self, nm_eq, reduceCtorEq, ↓reduceIte, Nat.reduceEqDiff, Nat.reduceLeDiff, Nat.reduceBEq, Nat.reduceAdd, Nat.reduceLT, Nat.reduceSub, Nat.reduceMul, Int.reduceEq, Int.reduceLT, Int.reduceLE, Int.reduceNeg, Int.reduceToNat, List.reduceReplicate, Int.ofNat_le, List.getElem?_drop]
        simp only [sbs, sb, hne, hc3.ok, false_and, and_self, if_true, if_false]
  | cons x Q =>
    have hlen := hq.pLen
    obtain ⟨c, rq', rfl, hc, hrq'⟩ : ∃ c rq', rq = c :: rq' ∧ FI c x ∧ All2 FI rq' Q := by
      cases rq with
      | nil => exact absurd hrq.1 (by simp)
      | cons c rq' => exact ⟨c, rq', rfl, hrq.2 0 c x rfl rfl, ⟨by simpa using hrq.1, fun k a b ha hb => hrq.2 (k + 1) a b (by simpa using ha) (by simpa using hb)⟩⟩
    obtain ⟨sq, off, cap, vQ', rfl, hrd, hpos, hsl', hq'⟩ := hq.uncons
    obtain ⟨w4, a4, rfl⟩ := hc
    generalize hkl : (x :: Q).length = k at *
    have hQk : Q.length = k - 1 := by rw [← hkl]; simp
    have hposI : (0 : Int) < (k : Int) := by omega
    have hx := hg.els x (by simp)
    simp only [pwA, if_true, if_false, eq_self, nm_eq, reduceCtorEq, ↓reduceIte, Nat.reduceEqDiff, Nat.reduceLeDiff, Nat.reduceBEq, Nat.reduceAdd, Nat.reduceLT, Nat.reduceSub, Nat.reduceMul, Int.reduceEq, Int.reduceLT, Int.reduceLE, Int.reduceNeg, Int.reduceToNat, List.reduceReplicate, Int.ofNat_le, List.getElem?_drop, hlen, hposI, hpos, hrd, hsl']
    refine depthOf_ok rfl (by rw [hx.1]; omega) ?_
    simp only [pwA, if_true, if_false, eq_self, nm_eq, reduceCtorEq, ↓reduceIte, Nat.reduceEqDiff, Nat.reduceLeDiff, Nat.reduceBEq, Nat.reduceAdd, Nat.reduceLT, Nat.reduceSub, Nat.reduceMul, Int.reduceEq, Int.reduceLT, Int.reduceLE, Int.reduceNeg, Int.reduceToNat, List.reduceReplicate, Int.ofNat_le, List.getElem?_drop]
    refine vp_loop (fun m vs h2 => ∃ x wX vX, m = n - dep x ∧ vs = [.ptr s 0, .sl σ.next 0 n (.known n), vQ', .fz wX vX n (pis x), .int .i64 (dep x)] ∧ h' = h2 ∧ Grow p n W gens u (x :: Q)) (n - dep x) ?_ ?_
    · exact ⟨x, _, _, rfl, by rw [hx.1]; rfl, rfl, hg⟩
    clear hg hx hlen hkl
    rintro m vs h2 ⟨x, wX, vX, rfl, rfl, rfl, hg⟩
    have hx := hg.els x (by simp)
    have hxl := hx.1
    have hdle := dep_le x
    by_cases hd : dep x < n
    · have hdx : dep x < x.length := by omega
      have hxd := hx.at0 o (dep x)
      have hne := dep_ne hdx
      rw [at_eq hdx] at hxd hne
      have hdb : dep x < rb.length := by rw [hb.1]; exact hd
      have hrd2 := obj_rd1 hobj (dep x)
      rw [List.getElem?_eq_getElem hdb] at hrd2
      rcases hb.2 _ hdb with ⟨e1, e2⟩ | ⟨oo, cap2, y, e1, e2, e3⟩
      · rw [e1] at hrd2
        have hdn : ((dep x : Int) = (n : Int)) = False := by simp; omega
        simp only [pwA, if_true, if_false, eq_self, nm_eq, reduceCtorEq, ↓reduceIte, Nat.reduceEqDiff, Nat.reduceLeDiff, Nat.reduceBEq, Nat.reduceAdd, Nat.reduceLT, Nat.reduceSub, Nat.reduceMul, Int.reduceEq, Int.reduceLT, Int.reduceLE, Int.reduceNeg, Int.reduceToNat, List.reduceReplicate, Int.ofNat_le, List.getElem?_drop, hd, hrd2, hdn, hp0, pis_get, gi hdx]
        refine inverseMod_ok hp (by omega) fun q qb hq1 hq2 hq3 => ?_
        simp only [pwA, if_true, if_false, eq_self, nm_eq, reduceCtorEq, ↓reduceIte, Nat.reduceEqDiff, Nat.reduceLeDiff, Nat.reduceBEq, Nat.reduceAdd, Nat.reduceLT, Nat.reduceSub, Nat.reduceMul, Int.reduceEq, Int.reduceLT, Int.reduceLE, Int.reduceNeg, Int.reduceToNat, List.reduceReplicate, Int.ofNat_le, List.getElem?_drop, hd, hrd2, hp0, pis_get, gi hdx]
        refine timesLie_sl hs' hP' o hx hxl.symm (by omega) (by omega) fun oz capz => ?_
        have hT : Grow p n W gens (insD u (lmul p W q x)) (lmul p W p (lmul p W q x) :: Q) := hg.take o hd e2 (k := q) (by rw [at_eq hdx]; exact hq3)
        obtain ⟨y1, y2⟩ : Led p n (lmul p W q x) ∧ dep (lmul p W q x) = dep x := ⟨(scale_led o hx hd (k := q) (by rw [at_eq hdx]; exact hq3)).1, (scale_led o hx hd (k := q) (by rw [at_eq hdx]; exact hq3)).2.1⟩
        have hb2 := hb.take (o := oz) (cap := capz) hd y2
        generalize lmul p W q x = y at *
        have hy := y1.1
        have hwr : h'.wr σ.next (dep x) [.fz true (.sl oz 0 n capz) n (pis y)] = some (h'.set σ.next (rb.set (dep x) (.fz true (.sl oz 0 n capz) n (pis y)))) := by
          rw [obj_wr hobj, if_pos ⟨by rw [List.length_singleton]; omega, rfl⟩]
          rw [List.append_assoc, List.singleton_append, List.length_singleton, take_set _ hdb]
        have hk3 : Keep (σ.new (rb.set (dep x) (.fz true (.sl oz 0 n capz) n (pis y)))) (h'.set σ.next (rb.set (dep x) (.fz true (.sl oz 0 n capz) n (pis y)))) := hkp.setN _
        have hq3' := hq'.set (Nat.lt_succ_self _) (rb.set (dep x) (.fz true (.sl oz 0 n capz) n (pis y)))
        have hrd3 : (h'.set σ.next (rb.set (dep x) (.fz true (.sl oz 0 n capz) n (pis y)))).rd1 σ.next (dep x) = some (.fz true (.sl oz 0 n capz) n (pis y)) := by
          rw [obj_rd1 (by rw [pobj_set, if_pos rfl]), List.getElem?_set_self hdb]
        have hs3 := hs'.set (by omega) (rb.set (dep x) (.fz true (.sl oz 0 n capz) n (pis y))) (t := σ.next)
        have hp3 : (h'.set σ.next (rb.set (dep x) (.fz true (.sl oz 0 n capz) n (pis y)))).rd1 s 0 = some (.int .i64 p) := by rw [obj_rd1 hs3.obj]; rfl
        have hset : (rb.set (dep x) (.fz true (.sl oz 0 n capz) n (pis y)))[dep x]? = some (.fz true (.sl oz 0 n capz) n (pis y)) := List.getElem?_set_self hdb
        simp only [pwA, if_true, if_false, eq_self, nm_eq, reduceCtorEq, ↓reduceIte, Nat.reduceEqDiff, Nat.reduceLeDiff, Nat.reduceBEq, Nat.reduceAdd, Nat.reduceLT, Nat.reduceSub, Nat.reduceMul, Int.reduceEq, Int.reduceLT, Int.reduceLE, Int.reduceNeg, Int.reduceToNat, List.reduceReplicate, Int.ofNat_le, List.getElem?_drop, hd, hwr, Nat.ne_of_lt hsl, hp0, hset]
        generalize h'.set σ.next (rb.set (dep x) (.fz true (.sl oz 0 n capz) n (pis y))) = h3 at *
        generalize rb.set (dep x) (.fz true (.sl oz 0 n capz) n (pis y)) = rb' at *
        refine timesLie_fz hs3 hP' o hy hy.1.symm (by omega) fun v2 => ?_
        have hz : El p n (lmul p W p y) := (mul_eqv o hy p).1
        generalize lmul p W p y = z at *
        simp only [pwA, if_true, if_false, eq_self, nm_eq, reduceCtorEq, ↓reduceIte, Nat.reduceEqDiff, Nat.reduceLeDiff, Nat.reduceBEq, Nat.reduceAdd, Nat.reduceLT, Nat.reduceSub, Nat.reduceMul, Int.reduceEq, Int.reduceLT, Int.reduceLE, Int.reduceNeg, Int.reduceToNat, List.reduceReplicate, Int.ofNat_le, List.getElem?_drop]
        refine PQ.push (bytes := 24) (σb := σ.new rb') hk3 hq3' (by omega) (by omega) fun v4 h4 k4 q4 => ?_
        simp only [pwA, if_true, if_false, eq_self, nm_eq, reduceCtorEq, ↓reduceIte, Nat.reduceEqDiff, Nat.reduceLeDiff, Nat.reduceBEq, Nat.reduceAdd, Nat.reduceLT, Nat.reduceSub, Nat.reduceMul, Int.reduceEq, Int.reduceLT, Int.reduceLE, Int.reduceNeg, Int.reduceToNat, List.reduceReplicate, Int.ofNat_le, List.getElem?_drop]
        have hul := (elU hT).2
        rw [insD_length] at hul
        refine ⟨_, ?_, insD u y, Q ++ [z], v4, rb', rq' ++ [.fz true v2 n (pis z)], rfl, rfl, k4, ?_, hrq'.append (All2.nil FI |>.snoc ⟨true, v2, by rw [hz.1]⟩), hT.perm fun v => by simp [or_comm], hb2, by rw [List.length_append, List.length_singleton]; omega⟩
        · rw [insD_length, List.length_append, List.length_singleton]; omega
        · rw [List.length_append, List.length_singleton, hQk]
          exact q4
      · rw [e1] at hrd2
        have hy := ((elU hg).1 y e2).1
        have hneg : IntKind.i64.wrap (0 - x[dep x]) = -x[dep x] := by rw [wrap64 (by omega) (by omega)]; omega
        simp only [pwA, if_true, if_false, eq_self, nm_eq, reduceCtorEq, ↓reduceIte, Nat.reduceEqDiff, Nat.reduceLeDiff, Nat.reduceBEq, Nat.reduceAdd, Nat.reduceLT, Nat.reduceSub, Nat.reduceMul, Int.reduceEq, Int.reduceLT, Int.reduceLE, Int.reduceNeg, Int.reduceToNat, List.reduceReplicate, Int.ofNat_le, List.getElem?_drop, hd, hrd2, pis_get, gi hdx, hneg]
        refine timesLie_fz hs' hP' o hy hy.1.symm (by omega) fun v1 => ?_
        simp only [pwA, if_true, if_false, eq_self, nm_eq, reduceCtorEq, ↓reduceIte, Nat.reduceEqDiff, Nat.reduceLeDiff, Nat.reduceBEq, Nat.reduceAdd, Nat.reduceLT, Nat.reduceSub, Nat.reduceMul, Int.reduceEq, Int.reduceLT, Int.reduceLE, Int.reduceNeg, Int.reduceToNat, List.reduceReplicate, Int.ofNat_le, List.getElem?_drop]
        refine addLie_fz hs' hP' o hx (lmix_el o hy hy) hxl.symm (lmix_el o hy hy).1.symm fun v2 => ?_
        obtain ⟨g2, g3⟩ := hg.reduce1 o e2 e3
        have hr1 : ladd p W x (lmul p W (-x[dep x]) y) = red1 p W x y := by rw [add_red o hx hy, red1, e3, at_eq hdx]
        have hz := g2.els _ (List.mem_cons_self ..)
        rw [hr1]
        simp only [pwA, if_true, if_false, eq_self, nm_eq, reduceCtorEq, ↓reduceIte, Nat.reduceEqDiff, Nat.reduceLeDiff, Nat.reduceBEq, Nat.reduceAdd, Nat.reduceLT, Nat.reduceSub, Nat.reduceMul, Int.reduceEq, Int.reduceLT, Int.reduceLE, Int.reduceNeg, Int.reduceToNat, List.reduceReplicate, Int.ofNat_le, List.getElem?_drop]
        refine depthOf_ok hz.1.symm (by rw [hz.1]; omega) ?_
        simp only [pwA, if_true, if_false, eq_self, nm_eq, reduceCtorEq, ↓reduceIte, Nat.reduceEqDiff, Nat.reduceLeDiff, Nat.reduceBEq, Nat.reduceAdd, Nat.reduceLT, Nat.reduceSub, Nat.reduceMul, Int.reduceEq, Int.reduceLT, Int.reduceLE, Int.reduceNeg, Int.reduceToNat, List.reduceReplicate, Int.ofNat_le, List.getElem?_drop]
        exact ⟨_, by omega, _, _, _, rfl, rfl, g2⟩
    · have hdn : dep x = n := by omega
      simp only [pwA, if_true, if_false, eq_self, nm_eq, reduceCtorEq, ↓reduceIte, Nat.reduceEqDiff, Nat.reduceLeDiff, Nat.reduceBEq, Nat.reduceAdd, Nat.reduceLT, Nat.reduceSub, Nat.reduceMul, Int.reduceEq, Int.reduceLT, Int.reduceLE, Int.reduceNeg, Int.reduceToNat, List.reduceReplicate, Int.ofNat_le, List.getElem?_drop, hdn, Nat.lt_irrefl]
      refine ⟨_, ?_, u, Q, vQ', rb, rq', rfl, rfl, hkp, by rw [hQk]; exact hq', hrq', hg.drop fun j => ?_, hb, by omega⟩
      · omega
      · rcases Nat.lt_or_ge j n with h | h
        · exact dep_zero (by omega)
        · exact hx.beyond h
theorem l32Span_sl {gens : List (List Int)} {t0 off0 : Nat} {cap0 : Cap} {cells rl : List PV} (hR : IsR vP vB W B) (o : OkW p n W) (hp : isP p) (hsl0 : t0 < σ.next) (hL : SLI σ t0 off0 cells rl gens) (he : Els p n gens) (hgl : gens.length ≤ 1048576) (hk : ∀ v out, Canon p n W gens out → FII v out → K v σ) :
    PCalls Try.prog 102 [.agg [.int .i64 p, vP, vB], .sl t0 off0 gens.length cap0] σ K := by
  have h1 := hR.P.one
  have h2 := hR.B.one
  have hn6 := o.le
  have hpb := hp.bd
  have hpk : -1000000000 ≤ p ∧ p ≤ 1000000000 := by omega
  obtain ⟨hLo, hLr, hLl, hrl⟩ := hL
  refine PCalls.gh ?_
  refine pcalls_of_vp mix Try.func102 cf102 rfl ?_
  dsimp only [if102, qI, eI, nI, qD, eD]
  simp only [pwA, if_true, if_false, eq_self, nm_eq, reduceCtorEq, ↓reduceIte, Nat.reduceEqDiff, Nat.reduceLeDiff, Nat.reduceBEq, Nat.reduceAdd, Nat.reduceLT, Nat.reduceSub, Nat.reduceMul, Int.reduceEq, Int.reduceLT, Int.reduceLE, Int.reduceNeg, Int.reduceToNat, List.reduceReplicate, Int.ofNat_le, List.getElem?_drop, h1, h2]
  generalize hH : ((σ.new [.int .i64 p, vP, vB]).new []).kill (σ.next + 1) = H
  have hHn : H.next = σ.next + 2 := by rw [← hH]; simp only [pwA, if_true, if_false, eq_self, nm_eq, reduceCtorEq, ↓reduceIte, Nat.reduceEqDiff, Nat.reduceLeDiff, Nat.reduceBEq, Nat.reduceAdd, Nat.reduceLT, Nat.reduceSub, Nat.reduceMul, Int.reduceEq, Int.reduceLT, Int.reduceLE, Int.reduceNeg, Int.reduceToNat, List.reduceReplicate, Int.ofNat_le, List.getElem?_drop]
  have hHk : Keep σ H := by rw [← hH]; exact ((keep_new σ _).new _).kill (by omega)
  have hb3 : H.rd σ.next 0 3 = some [.int .i64 p, vP, vB] := by rw [← hH]; simp only [pwA, if_true, if_false, eq_self, nm_eq, reduceCtorEq, ↓reduceIte, Nat.reduceEqDiff, Nat.reduceLeDiff, Nat.reduceBEq, Nat.reduceAdd, Nat.reduceLT, Nat.reduceSub, Nat.reduceMul, Int.reduceEq, Int.reduceLT, Int.reduceLE, Int.reduceNeg, Int.reduceToNat, List.reduceReplicate, Int.ofNat_le, List.getElem?_drop]
  have hb1 : H.rd1 σ.next 0 = some (.int .i64 p) := by rw [← hH]; simp only [pwA, if_true, if_false, eq_self, nm_eq, reduceCtorEq, ↓reduceIte, Nat.reduceEqDiff, Nat.reduceLeDiff, Nat.reduceBEq, Nat.reduceAdd, Nat.reduceLT, Nat.reduceSub, Nat.reduceMul, Int.reduceEq, Int.reduceLT, Int.reduceLE, Int.reduceNeg, Int.reduceToNat, List.reduceReplicate, Int.ofNat_le, List.getElem?_drop]
  have elU : ∀ {u Q : List (List Int)}, Grow p n W gens u Q → (∀ v ∈ u, El p n v ∧ dep v < n) ∧ u.length ≤ n := fun g => ⟨fun v hv => ⟨(g.led v hv).1, (g.led v hv).2.1⟩, asc_length (fun v hv => (g.led v hv).2.1) g.asc⟩
  refine vp_loopG (fun m vs h' => ∃ i : Nat, i ≤ gens.length ∧ m = gens.length - i ∧ ∃ vU u, vs = [.sl t0 off0 gens.length cap0, .ptr σ.next 0, vU, .int .i64 i] ∧ H = h' ∧ FII vU u ∧ Grow p n W gens u (gens.drop i)) gens.length ?_ ?_
  · refine .fz (σ.next + 1) [] (by simp only [pwA, if_true, if_false, eq_self, nm_eq, reduceCtorEq, ↓reduceIte, Nat.reduceEqDiff, Nat.reduceLeDiff, Nat.reduceBEq, Nat.reduceAdd, Nat.reduceLT, Nat.reduceSub, Nat.reduceMul, Int.reduceEq, Int.reduceLT, Int.reduceLE, Int.reduceNeg, Int.reduceToNat, List.reduceReplicate, Int.ofNat_le, List.getElem?_drop]) trivial fun o1 => .here ?_
    rw [hH]
    refine ⟨0, by omega, by omega, .fz true (.sl o1 0 0 (.known 0)) 0 [], [], ?_, rfl, ⟨_, _, _, rfl, All2.nil _⟩, by rw [List.drop_zero]; exact Grow.start he⟩
    simp only [pwA, if_true, if_false, eq_self, nm_eq, reduceCtorEq, ↓reduceIte, Nat.reduceEqDiff, Nat.reduceLeDiff, Nat.reduceBEq, Nat.reduceAdd, Nat.reduceLT, Nat.reduceSub, Nat.reduceMul, Int.reduceEq, Int.reduceLT, Int.reduceLE, Int.reduceNeg, Int.reduceToNat, List.reduceReplicate, Int.ofNat_le, List.getElem?_drop]
    have hne0 : t0 ≠ σ.next + 1 := by omega
    simp only [sbs, sb, capOK, Nat.le_refl, decide_true, and_self, if_true, hne0, false_and, if_false]
    rfl
  rintro m vs h' ⟨i, hi, rfl, vU, u, rfl, rfl, hU, hg⟩
  simp only [pwA, if_true, if_false, eq_self, nm_eq, reduceCtorEq, ↓reduceIte, Nat.reduceEqDiff, Nat.reduceLeDiff, Nat.reduceBEq, Nat.reduceAdd, Nat.reduceLT, Nat.reduceSub, Nat.reduceMul, Int.reduceEq, Int.reduceLT, Int.reduceLE, Int.reduceNeg, Int.reduceToNat, List.reduceReplicate, Int.ofNat_le, List.getElem?_drop]
  refine iteI (fun hlt => ?_) fun hge => ?_
  · obtain ⟨w4, a4, hr0⟩ := hrl.rowI hlt
    have hr : H.rd1 t0 (off0 + i) = some (.fz w4 a4 gens[i].length (pis gens[i])) := by
      rw [obj_rd1 (by rw [hHk.obj t0 hsl0]; exact hLo), ← hr0, ← hLr, List.getElem?_take, if_pos hlt, List.getElem?_drop]
    have hge := he _ (List.getElem_mem hlt)
    have hd : gens.drop i = gens[i] :: gens.drop (i + 1) := List.drop_eq_getElem_cons hlt
    rw [hd] at hg
    simp only [pwA, if_true, if_false, eq_self, nm_eq, reduceCtorEq, ↓reduceIte, Nat.reduceEqDiff, Nat.reduceLeDiff, Nat.reduceBEq, Nat.reduceAdd, Nat.reduceLT, Nat.reduceSub, Nat.reduceMul, Int.reduceEq, Int.reduceLT, Int.reduceLE, Int.reduceNeg, Int.reduceToNat, List.reduceReplicate, Int.ofNat_le, List.getElem?_drop, hlt, hr, hb3, hb1]
    refine l32Reduce_ok hR o hU (elU hg).1 (by have := (elU hg).2; omega) hge rfl fun v0 => ?_
    simp only [pwA, if_true, if_false, eq_self, nm_eq, reduceCtorEq, ↓reduceIte, Nat.reduceEqDiff, Nat.reduceLeDiff, Nat.reduceBEq, Nat.reduceAdd, Nat.reduceLT, Nat.reduceSub, Nat.reduceMul, Int.reduceEq, Int.reduceLT, Int.reduceLE, Int.reduceNeg, Int.reduceToNat, List.reduceReplicate, Int.ofNat_le, List.getElem?_drop]
    refine vp_loop (fun m vs h' => ∃ vU u vX x, m = n - u.length ∧ vs = [.sl t0 off0 gens.length cap0, .ptr σ.next 0, vU, .int .i64 i, .fz true vX n (pis x)] ∧ H = h' ∧ FII vU u ∧ Grow p n W gens u (x :: gens.drop (i + 1)) ∧ ∀ v ∈ u, at_ x (dep v) = 0) (n - u.length) ?_ ?_
    · exact ⟨vU, u, v0, _, rfl, rfl, rfl, hU, hg.reduce o, (redL_at o hg.led hg.asc hge).1⟩
    rintro m vs h' ⟨vU, u, vX, x, rfl, rfl, rfl, hU, hg, hz⟩
    have hx := hg.els x (by simp)
    have hxl := hx.1
    simp only [pwA, if_true, if_false, eq_self, nm_eq, reduceCtorEq, ↓reduceIte, Nat.reduceEqDiff, Nat.reduceLeDiff, Nat.reduceBEq, Nat.reduceAdd, Nat.reduceLT, Nat.reduceSub, Nat.reduceMul, Int.reduceEq, Int.reduceLT, Int.reduceLE, Int.reduceNeg, Int.reduceToNat, List.reduceReplicate, Int.ofNat_le, List.getElem?_drop]
    refine l01Zero_ok hxl.symm (by omega) ?_
    by_cases h0 : isZ x
    · simp only [pwA, if_true, if_false, eq_self, nm_eq, reduceCtorEq, ↓reduceIte, Nat.reduceEqDiff, Nat.reduceLeDiff, Nat.reduceBEq, Nat.reduceAdd, Nat.reduceLT, Nat.reduceSub, Nat.reduceMul, Int.reduceEq, Int.reduceLT, Int.reduceLE, Int.reduceNeg, Int.reduceToNat, List.reduceReplicate, Int.ofNat_le, List.getElem?_drop, h0, wrapS hlt (by omega : gens.length ≤ 4611686018427387904)]
      exact ⟨_, by omega, .here ⟨i + 1, by omega, rfl, vU, u, rfl, rfl, hU, hg.drop (isZ_at h0)⟩⟩
    · have hdx : dep x < x.length := not_isZ_dep h0
      have hdn : dep x < n := by omega
      have hxd := hx.at0 o (dep x)
      have hne := dep_ne hdx
      rw [at_eq hdx] at hxd hne
      simp only [pwA, if_true, if_false, eq_self, nm_eq, reduceCtorEq, ↓reduceIte, Nat.reduceEqDiff, Nat.reduceLeDiff, Nat.reduceBEq, Nat.reduceAdd, Nat.reduceLT, Nat.reduceSub, Nat.reduceMul, Int.reduceEq, Int.reduceLT, Int.reduceLE, Int.reduceNeg, Int.reduceToNat, List.reduceReplicate, Int.ofNat_le, List.getElem?_drop, h0, hb3, hb1]
      refine l32Depth_ok hxl.symm (by omega) ?_
      simp only [pwA, if_true, if_false, eq_self, nm_eq, reduceCtorEq, ↓reduceIte, Nat.reduceEqDiff, Nat.reduceLeDiff, Nat.reduceBEq, Nat.reduceAdd, Nat.reduceLT, Nat.reduceSub, Nat.reduceMul, Int.reduceEq, Int.reduceLT, Int.reduceLE, Int.reduceNeg, Int.reduceToNat, List.reduceReplicate, Int.ofNat_le, List.getElem?_drop, hdn, hdx, gi hdx, pis_get, hb3, hb1]
      refine l01Inv_ok hp (by omega) fun k hk1 hk2 hk3 => ?_
      simp only [pwA, if_true, if_false, eq_self, nm_eq, reduceCtorEq, ↓reduceIte, Nat.reduceEqDiff, Nat.reduceLeDiff, Nat.reduceBEq, Nat.reduceAdd, Nat.reduceLT, Nat.reduceSub, Nat.reduceMul, Int.reduceEq, Int.reduceLT, Int.reduceLE, Int.reduceNeg, Int.reduceToNat, List.reduceReplicate, Int.ofNat_le, List.getElem?_drop, hdn, hdx, gi hdx, pis_get, hb3, hb1]
      refine l31Mix_el hR o hx hx hxl.symm hxl.symm (by omega) (by decide) fun v1 => ?_
      have hT := hg.take o hdn (led_ne hz hdx) (k := k) (by rw [at_eq hdx]; exact hk3)
      obtain ⟨y1, y2, y3, y4⟩ := scale_led o hx hdn (k := k) (by rw [at_eq hdx]; exact hk3)
      generalize norm p W (lmix k x 0 x) = y at *
      simp only [pwA, if_true, if_false, eq_self, nm_eq, reduceCtorEq, ↓reduceIte, Nat.reduceEqDiff, Nat.reduceLeDiff, Nat.reduceBEq, Nat.reduceAdd, Nat.reduceLT, Nat.reduceSub, Nat.reduceMul, Int.reduceEq, Int.reduceLT, Int.reduceLE, Int.reduceNeg, Int.reduceToNat, List.reduceReplicate, Int.ofNat_le, List.getElem?_drop]
      refine l32Insert_ok hU (fun v hv => by rw [((elU hg).1 v hv).1.1]; omega) (by have := (elU hg).2; omega) (by rw [y1.1.1]; omega) y1.1.1.symm fun vU' hU' => ?_
      simp only [pwA, if_true, if_false, eq_self, nm_eq, reduceCtorEq, ↓reduceIte, Nat.reduceEqDiff, Nat.reduceLeDiff, Nat.reduceBEq, Nat.reduceAdd, Nat.reduceLT, Nat.reduceSub, Nat.reduceMul, Int.reduceEq, Int.reduceLT, Int.reduceLE, Int.reduceNeg, Int.reduceToNat, List.reduceReplicate, Int.ofNat_le, List.getElem?_drop, hb3, hb1]
      refine l31Mix_el hR o y1.1 y1.1 y1.1.1.symm y1.1.1.symm hpk (by decide) fun v2 => ?_
      obtain ⟨z1, z2⟩ := mul_eqv o y1.1 p
      generalize norm p W (lmix p y 0 y) = z at *
      simp only [pwA, if_true, if_false, eq_self, nm_eq, reduceCtorEq, ↓reduceIte, Nat.reduceEqDiff, Nat.reduceLeDiff, Nat.reduceBEq, Nat.reduceAdd, Nat.reduceLT, Nat.reduceSub, Nat.reduceMul, Int.reduceEq, Int.reduceLT, Int.reduceLE, Int.reduceNeg, Int.reduceToNat, List.reduceReplicate, Int.ofNat_le, List.getElem?_drop, hb3, hb1]
      refine l32Reduce_ok hR o hU' (elU hT).1 (by have := (elU hT).2; omega) z1 z1.1.symm fun v3 => ?_
      simp only [pwA, if_true, if_false, eq_self, nm_eq, reduceCtorEq, ↓reduceIte, Nat.reduceEqDiff, Nat.reduceLeDiff, Nat.reduceBEq, Nat.reduceAdd, Nat.reduceLT, Nat.reduceSub, Nat.reduceMul, Int.reduceEq, Int.reduceLT, Int.reduceLE, Int.reduceNeg, Int.reduceToNat, List.reduceReplicate, Int.ofNat_le, List.getElem?_drop]
      have hlen := (elU hT).2
      rw [insD_length] at hlen
      exact ⟨_, by rw [insD_length]; omega, vU', insD u y, v3, _, rfl, rfl, hU', hT.reduce o, (redL_at o hT.led hT.asc z1).1⟩
  · have hie : i = gens.length := by omega
    subst hie
    rw [List.drop_length] at hg
    have hbase := hg.base
    have hlu := (elU hg).2
    obtain ⟨hcan, _⟩ := finS_ok o hbase
    obtain ⟨wu, au, ru, rfl, hru⟩ := hU
    have hrul := hru.1
    refine vp_loop (fun m vs h' => ∃ k : Nat, k ≤ u.length ∧ m = u.length - k ∧ ∃ vO rows, vs = [.ptr σ.next 0, .fz wu au u.length ru, vO, .int .i64 k] ∧ Keep H h' ∧ PSl H.next 1 h' vO k rows ∧ All2 FI rows ((finS p W u).take k)) u.length ?_ ?_
    · exact ⟨0, by omega, by omega, _, [], rfl, keep_new H _, PSl.new _ 1 rfl (Nat.le_refl _), by simpa using All2.nil _⟩
    rintro m vs h' ⟨k, hk', rfl, vO, rows, rfl, hkp, ha, hrows⟩
    simp only [pwA, if_true, if_false, eq_self, nm_eq, reduceCtorEq, ↓reduceIte, Nat.reduceEqDiff, Nat.reduceLeDiff, Nat.reduceBEq, Nat.reduceAdd, Nat.reduceLT, Nat.reduceSub, Nat.reduceMul, Int.reduceEq, Int.reduceLT, Int.reduceLE, Int.reduceNeg, Int.reduceToNat, List.reduceReplicate, Int.ofNat_le, List.getElem?_drop]
    refine iteI (fun hlt => ?_) fun hge => ?_
    · obtain ⟨w5, a5, hrk⟩ := hru.rowI hlt
      have hle : k + 1 ≤ u.length := hlt
      have hdrop : (ru.drop (k + 1)).take (u.length - (k + 1)) = ru.drop (k + 1) := List.take_of_length_le (by rw [List.length_drop]; omega)
      have hb3' : h'.rd σ.next 0 3 = some [.int .i64 p, vP, vB] := by rw [hkp.rd (by omega)]; exact hb3
      simp only [pwA, if_true, if_false, eq_self, nm_eq, reduceCtorEq, ↓reduceIte, Nat.reduceEqDiff, Nat.reduceLeDiff, Nat.reduceBEq, Nat.reduceAdd, Nat.reduceLT, Nat.reduceSub, Nat.reduceMul, Int.reduceEq, Int.reduceLT, Int.reduceLE, Int.reduceNeg, Int.reduceToNat, List.reduceReplicate, Int.ofNat_le, List.getElem?_drop, hlt, hrk, hb3', hle, hdrop, wrapS hlt (by omega : u.length ≤ 4611686018427387904)]
      refine l32Reduce_ok hR o (u := u.drop (k + 1)) ⟨false, pslA 1 au (k + 1) u.length, _, by rw [List.length_drop], hru.drop _⟩ (fun v hv => (elU hg).1 v (List.mem_of_mem_drop hv)) (by rw [List.length_drop]; omega) (hbase.led _ (List.getElem_mem hlt)).1 rfl fun v1 => ?_
      simp only [pwA, if_true, if_false, eq_self, nm_eq, reduceCtorEq, ↓reduceIte, Nat.reduceEqDiff, Nat.reduceLeDiff, Nat.reduceBEq, Nat.reduceAdd, Nat.reduceLT, Nat.reduceSub, Nat.reduceMul, Int.reduceEq, Int.reduceLT, Int.reduceLE, Int.reduceNeg, Int.reduceToNat, List.reduceReplicate, Int.ofNat_le, List.getElem?_drop]
      refine PSl.push (bytes := 24) hkp ha (by omega) (by omega) fun vO' h2 k2 a2 => ?_
      simp only [pwA, if_true, if_false, eq_self, nm_eq, reduceCtorEq, ↓reduceIte, Nat.reduceEqDiff, Nat.reduceLeDiff, Nat.reduceBEq, Nat.reduceAdd, Nat.reduceLT, Nat.reduceSub, Nat.reduceMul, Int.reduceEq, Int.reduceLT, Int.reduceLE, Int.reduceNeg, Int.reduceToNat, List.reduceReplicate, Int.ofNat_le, List.getElem?_drop, wrapS hlt (by omega : u.length ≤ 4611686018427387904)]
      refine ⟨_, by omega, k + 1, by omega, rfl, vO', _, rfl, k2, a2, ?_⟩
      have hg2 := finS_get (p := p) (W := W) u k hlt
      have hl2 : k < (finS p W u).length := by rw [finS_length]; exact hlt
      rw [List.take_succ_eq_append_getElem hl2]
      rw [List.getElem?_eq_getElem hl2] at hg2
      rw [Option.some.inj hg2]
      have hrl2 := (redL_el o (u := u.drop (k + 1)) (fun v hv => ((elU hg).1 v (List.mem_of_mem_drop hv)).1) (hbase.led _ (List.getElem_mem hlt)).1).1
      exact hrows.snoc ⟨true, v1, by rw [hrl2]⟩
    · have hie : k = u.length := by omega
      subst hie
      rw [List.take_of_length_le (by rw [finS_length]; exact Nat.le_refl _)] at hrows
      obtain ⟨s, cap, rfl, hc, q2, q3, q4, q5⟩ := ha
      exact Gh.finF (hHk.trans hkp) q2 (by omega) (hrows.bI 0) hc.ok fun o1 => hk _ _ (hg.done hcan) ⟨true, .sl o1 0 u.length cap, rows, by rw [finS_length], hrows⟩
end Go.Proofs
set_option linter.unusedSimpArgs false
set_option linter.unusedVariables false
namespace Go.Proofs
open Go.Ab Go.Lie
variable {σ : PHeap} {K : PV → PHeap → Prop} {p p' : Int} {n : Nat} {W W' : List (List Int)} {B B' : List (List (List Int))} {vP vB vP' vB' vL : PV} {s s' j0 : Nat} {im : List (List Int)}
/-- The images from some place on, zeros before. -/
def padI (n : Nat) (L : List (List Int)) : List (List Int) := List.replicate (n - L.length) (List.replicate n 0) ++ L
theorem padI_length {L : List (List Int)} (h : L.length ≤ n) : (padI n L).length = n := by simp [padI]; omega
theorem padI_els {L : List (List Int)} (hp : 0 < p) (h : Els p n L) : Els p n (padI n L) := by
  intro x hx
  rw [padI, List.mem_append] at hx
  rcases hx with hx | hx
  · rw [List.eq_of_mem_replicate hx]
    exact ⟨by simp, fun y hy => by rw [List.eq_of_mem_replicate hy]; omega⟩
  · exact h x hx
theorem padI_get {L : List (List Int)} (h : L.length ≤ n) {j : Nat} (hj : n - L.length + j < (padI n L).length) (hjl : j < L.length) : (padI n L)[n - L.length + j] = L[j] := by
  simp only [padI]
  rw [List.getElem_append_right (by simp)]
  simp
/-- A choice of images is good. -/
def good (p : Int) (n : Nat) (W : List (List Int)) (B : List (List (List Int))) (L : List (List Int)) : Prop := fits p W B W B (padI n L) (n - L.length) ∧ ∃ out, Canon p n W L out ∧ out.length = L.length
theorem csum_gen {im : List (List Int)} {c : List Int} {L : List (List Int)} (he : Els p n im) : ∀ {i : Nat}, i ≤ im.length → (∀ j, j < i → at_ c j ≠ 0 → im.getD j [] ∈ L) → Gen p n W L (at_ (csum im c n i))
  | 0, _, _ => (gen_sub _).eqv _ _ (Eqv.of_eq fun j => by rw [csum, at_rep]) (gen_sub _).zero
  | i + 1, hi, h => by
    have ih := csum_gen he (i := i) (by omega) fun j hj => h j (by omega)
    have hl := csum_length (c := c) he (by omega : i ≤ im.length)
    have hr := im_el he (by omega : i < im.length)
    by_cases h0 : at_ c i = 0
    · rw [csum, h0, addm_zero (by rw [hl, hr.1]; exact Nat.le_refl _)]; exact ih
    · have q := (gen_sub (p := p) (n := n) (W := W) L).add _ _ ih ((gen_sub _).mul (at_ c i) _ (gen_mem (h i (by omega) h0)))
      refine (gen_sub _).eqv _ _ (Eqv.of_eq fun j => ?_) q
      rw [csum, addm_at (by rw [hl, hr.1])]
/-- p times an image lies in the span of the later ones. -/
theorem fits_gen (o : OkW p W.length W) {x : List Int} {L : List (List Int)} {i : Nat} (hil : i + (L.length + 1) = W.length) (hx : El p W.length x) (hL : Els p W.length L) (h : fits p W B W B (padI W.length (x :: L)) i) : Gen p W.length W L fun j => p * at_ x j := by
  have hp := o.pr
  have he : Els p W.length (padI W.length (x :: L)) := padI_els (by unfold okp at hp; omega) fun y hy => by
    rcases List.mem_cons.1 hy with rfl | hy
    · exact hx
    · exact hL y hy
  have hlen : (padI W.length (x :: L)).length = W.length := padI_length (by simp; omega)
  have hi : i = W.length - (x :: L).length := by simp; omega
  have hiW : i < W.length := by omega
  have gx : (padI W.length (x :: L)).getD i [] = x := by
    rw [getD_row' (by omega)]
    have := padI_get (n := W.length) (L := x :: L) (by simp; omega) (j := 0) (by rw [hlen]; simp; omega) (by simp)
    simp only [Nat.add_zero, ← hi, List.getElem_cons_zero] at this
    exact this
  have h1 := h.1
  rw [gx] at h1
  have e1 := (mul_eqv o hx p).2
  have hwr := row_el o hiW
  have gW : W.getD i [] = W[i] := getD_row' hiW
  have hcl : (W.getD i []).length = W.length := by rw [gW]; exact hwr.1
  have e2 := norm_eqv o (csum_length (c := W.getD i []) he (by omega : (W.getD i []).length ≤ (padI W.length (x :: L)).length))
  have e3 : Eqv p W.length W (fun j => p * at_ x j) (at_ (csum (padI W.length (x :: L)) (W.getD i []) W.length (W.getD i []).length)) := by
    refine e1.symm.trans ?_
    rw [show norm p W (lmix p x 0 x) = _ from h1]; exact e2
  refine (gen_sub _).eqv _ _ e3 (csum_gen he (by omega) fun j hj h0 => ?_)
  have hji : i < j := by
    rcases Nat.lt_or_ge i j with g | g
    · exact g
    · exact absurd (by rw [gW]; exact (o.row i hiW).2.2 j g) h0
  have hjn : j < W.length := by omega
  rw [getD_row' (by omega)]
  have := padI_get (n := W.length) (L := x :: L) (by simp; omega) (j := j - i) (by rw [hlen]; simp; omega) (by simp; omega)
  have ej : W.length - (x :: L).length + (j - i) = j := by omega
  simp only [ej] at this
  rw [this]
  obtain ⟨k, hk⟩ : ∃ k, j - i = k + 1 := ⟨j - i - 1, by omega⟩
  simp only [hk, List.getElem_cons_succ]
  exact List.getElem_mem _
theorem good_iff (o : OkW p W.length W) (hp : isP p) {x : List Int} {L u : List (List Int)} {i : Nat} (hil : i + (L.length + 1) = W.length) (hx : El p W.length x) (hL : Els p W.length L) (hu : Canon p W.length W L u) (hul : u.length = L.length) :
    good p W.length W B (x :: L) ↔ fits p W B W B (padI W.length (x :: L)) i ∧ ¬ isZ (redL p W u x) := by
  have hi : W.length - (x :: L).length = i := by simp; omega
  unfold good
  rw [hi]
  refine and_congr_right fun hf => ?_
  have hg := fits_gen o hil hx hL hf
  have hz : isZ (redL p W u x) ↔ ∀ j, at_ (redL p W u x) j = 0 := ⟨isZ_at, fun h y hy => by
    obtain ⟨j, hj, rfl⟩ := List.mem_iff_getElem.1 hy
    rw [← at_eq hj]; exact h j⟩
  rw [hz]
  constructor
  · rintro ⟨out, h1, h2⟩
    refine (span_add o hp hu hx hg h1).2 ?_
    rw [h2, hul]; rfl
  · intro h0
    obtain ⟨out, h1, h2⟩ := span_new o hp hu hx hg h0
    exact ⟨out, h1, by rw [h2, hul]; rfl⟩
theorem pset_same {h : PHeap} {t : Nat} {cs : List PV} (ho : h.obj t = some cs) : h.set t cs = h := by
  have : (fun s' => if s' = t then some cs else h.obj s') = h.obj := funext fun s' => by
    by_cases e : s' = t
    · rw [if_pos e, e, ho]
    · rw [if_neg e]
  show PHeap.mk h.next h.top _ = h
  rw [this]
theorem pset_set {h : PHeap} {t : Nat} {a b : List PV} : (h.set t a).set t b = h.set t b := by
  show PHeap.mk h.next h.top _ = PHeap.mk h.next h.top _
  congr 1
  funext s'
  show (if s' = t then some b else if s' = t then some a else h.obj s') = if s' = t then some b else h.obj s'
  by_cases e : s' = t
  · rw [if_pos e, if_pos e]
  · rw [if_neg e, if_neg e, if_neg e]
open Classical in
/-- What one choice adds. -/
noncomputable def cF1 (p : Int) (n : Nat) (W : List (List Int)) (B : List (List (List Int))) (P i : Nat) (L : List (List Int)) (k : Nat) : Int := if good p n W B (digs P n k :: L) then cnt (good p n W B) P n i (digs P n k :: L) else 0
theorem cF1_bd {P i : Nat} {L : List (List Int)} (h27 : P ^ n ≤ 27) (hi : i ≤ 6) (k : Nat) : 0 ≤ cF1 p n W B P i L k ∧ cF1 p n W B P i L k ≤ 387420489 := by
  unfold cF1
  split
  · have h1 := cnt_bd (good p n W B) P n i (digs P n k :: L)
    have h2 : (P ^ n) ^ i ≤ 387420489 := Nat.le_trans (Nat.pow_le_pow_left h27 i) (Nat.le_trans (Nat.pow_le_pow_right (by decide) hi) (by decide))
    omega
  · omega
theorem sum_bd {P i : Nat} {L : List (List Int)} (h27 : P ^ n ≤ 27) (hi : i ≤ 6) {k : Nat} (hk : k ≤ P ^ n) : 0 ≤ sumN k (cF1 p n W B P i L) ∧ sumN k (cF1 p n W B P i L) ≤ 27 * 387420489 := by
  have := sumN_bd (b := 387420489) (by decide) k fun j _ => cF1_bd (p := p) (n := n) (W := W) (B := B) (P := P) (i := i) (L := L) h27 hi j
  have h3 : (k : Int) * 387420489 ≤ 27 * 387420489 := Int.mul_le_mul_of_nonneg_right (by omega) (by decide)
  omega
theorem FIG_pad {i : Nat} {w : Bool} {a : AV} {rows : List PV} {L : List (List Int)} (hr : All2 FI (rows.drop i) L) (hi : i + L.length = n) : FIG i (.fz w a n rows) (padI n L) := by
  have hl := padI_length (n := n) (L := L) (by omega)
  refine ⟨w, a, rows, by rw [hl], fun j h hij => ?_⟩
  obtain ⟨w', a', h1⟩ := hr.rowI (k := j - i) (by omega)
  have e := padI_get (n := n) (L := L) (by omega) (j := j - i) (by omega) (by omega)
  have ej : n - L.length + (j - i) = j := by omega
  simp only [ej] at e
  rw [List.getElem?_drop, show i + (j - i) = j by omega] at h1
  exact ⟨w', a', by rw [h1, e]⟩
/-- What the program's recursion gives. -/
def CntOK (p : Int) (W : List (List Int)) (B : List (List (List Int))) (P i : Nat) : Prop :=
  ∀ (σ : PHeap) (K : PV → PHeap → Prop) (s t : Nat) (vP vB : PV) (rows : List PV) (L u : List (List Int)), PtrR σ s p vP vB → IsR vP vB W B → σ.obj t = some rows → s ≠ t → i + L.length = W.length → All2 FI (rows.drop i) L → rows.length = W.length → Bels 0 rows → Els p W.length L → Canon p W.length W L u → u.length = L.length →
    (∀ rows', rows'.length = W.length → Bels 0 rows' → rows'.drop i = rows.drop i → K (.int .i64 (cnt (good p W.length W B) P W.length i L)) (σ.set t rows')) → PCalls Try.prog 62 [.ptr s 0, .sl t 0 W.length (.known W.length), .int .i64 ((i : Int) - 1)] σ K
theorem countLieMaps_ok {P : Nat} (hl : isLie p W B) (hp : p = (P : Int)) (h27 : P ^ W.length ≤ 27) : ∀ (i : Nat), CntOK p W B P i
  | 0 => by
    intro σ K s t vP vB rows L u hs hR ho hne hil hrows hrl hb hL hu hul hk
    refine pcalls_of_vp mix Try.func62 cf62 rfl ?_
    dsimp only [if62, qI, eI, nI, qD, eD]
    simp only [pwA, if_true, if_false, eq_self, nm_eq, reduceCtorEq, ↓reduceIte, Nat.reduceEqDiff, Nat.reduceLeDiff, Nat.reduceBEq, Nat.reduceAdd, Nat.reduceLT, Nat.reduceSub, Nat.reduceMul, Int.reduceEq, Int.reduceLT, Int.reduceLE, Int.reduceNeg, Int.reduceToNat, List.reduceReplicate, Int.ofNat_le, List.getElem?_drop]
    have := hk rows hrl hb rfl
    rwa [pset_same ho] at this
  | i + 1 => by
    intro σ K s t vP vB rows L u hs hR ho hne hil hrows hrl hb hL hu hul hk
    have ih := countLieMaps_ok hl hp h27 i
    have o := hl.1.w
    have hn6 := o.le
    have hpp := hl.1.1
    have hpb := hpp.bd
    have hP2 : 2 ≤ P ∧ P ≤ 7 := by omega
    have e : ((i + 1 : Nat) : Int) - 1 = (i : Int) := by omega
    rw [e]
    refine PCalls.pwf fun w => ?_
    have htl := w.lt ho
    have hin : i < W.length := by omega
    have hi0 : ¬ (i : Int) < 0 := by omega
    have ew : IntKind.i64.wrap ((i : Int) + 1) = ((i + 1 : Nat) : Int) := wrapS hin (by omega)
    have hle : i + 1 ≤ W.length := hin
    have e2 : W.length - (i + 1) = L.length := by omega
    have hSL : SLI σ t (if W.length = i + 1 then 0 else i + 1) rows (rows.drop (i + 1)) L := by
      refine ⟨ho, ?_, ?_, hrows⟩
      · split
        · have : L.length = 0 := by omega
          rw [this, List.take_zero, List.drop_of_length_le (by omega)]
        · rw [List.take_of_length_le (by rw [List.length_drop]; omega)]
      · split <;> omega
    refine pcalls_of_vp mix Try.func62 cf62 rfl ?_
    dsimp only [if62, qI, eI, nI, qD, eD]
    simp only [pwA, if_true, if_false, eq_self, nm_eq, reduceCtorEq, ↓reduceIte, Nat.reduceEqDiff, Nat.reduceLeDiff, Nat.reduceBEq, Nat.reduceAdd, Nat.reduceLT, Nat.reduceSub, Nat.reduceMul, Int.reduceEq, Int.reduceLT, Int.reduceLE, Int.reduceNeg, Int.reduceToNat, List.reduceReplicate, Int.ofNat_le, List.getElem?_drop, hi0, ew, hle, e2, Option.isSome_none, Option.isNone_none, Bool.false_eq_true, and_false]
    refine lieSpan_sl hs htl hR.P o hpp hSL hL (by omega) fun vU u' hu' hFU => ?_
    have hFU' := hFU
    obtain ⟨wu, au, ru, rfl, hru⟩ := hFU
    simp only [pwA, if_true, if_false, eq_self, nm_eq, reduceCtorEq, ↓reduceIte, Nat.reduceEqDiff, Nat.reduceLeDiff, Nat.reduceBEq, Nat.reduceAdd, Nat.reduceLT, Nat.reduceSub, Nat.reduceMul, Int.reduceEq, Int.reduceLT, Int.reduceLE, Int.reduceNeg, Int.reduceToNat, List.reduceReplicate, Int.ofNat_le, List.getElem?_drop]
    refine allLie_ok hs hR.P rfl hn6 hp hP2 (by omega) fun vE hE => ?_
    obtain ⟨we, ae, re, rfl, hre⟩ := hE
    have huu : u' = u := hu'.unique o hu
    subst huu
    simp only [pwA, if_true, if_false, eq_self, nm_eq, reduceCtorEq, ↓reduceIte, Nat.reduceEqDiff, Nat.reduceLeDiff, Nat.reduceBEq, Nat.reduceAdd, Nat.reduceLT, Nat.reduceSub, Nat.reduceMul, Int.reduceEq, Int.reduceLT, Int.reduceLE, Int.reduceNeg, Int.reduceToNat, List.reduceReplicate, Int.ofNat_le, List.getElem?_drop]
    refine vp_loop (fun m vs h' => ∃ (k : Nat) (rows' : List PV), k ≤ P ^ W.length ∧ m = P ^ W.length - k ∧ vs = [.ptr s 0, .sl t 0 W.length (.known W.length), .int .i64 i, .int .i64 (sumN k (cF1 p W.length W B P i L)), .fz wu au u'.length ru, .fz we ae (allE P W.length).length re, .int .i64 (allE P W.length).length, .int .i64 k] ∧ h' = σ.set t rows' ∧ rows'.length = W.length ∧ Bels 0 rows' ∧ rows'.drop (i + 1) = rows.drop (i + 1)) (P ^ W.length) ?_ ?_
    · exact ⟨0, rows, by omega, by omega, rfl, (pset_same ho).symm, hrl, hb, rfl⟩
    rintro m vs h' ⟨k, rows', hk', rfl, rfl, rfl, hrl', hb', hdr⟩
    have hel := allE_length P W.length
    simp only [pwA, if_true, if_false, eq_self, nm_eq, reduceCtorEq, ↓reduceIte, Nat.reduceEqDiff, Nat.reduceLeDiff, Nat.reduceBEq, Nat.reduceAdd, Nat.reduceLT, Nat.reduceSub, Nat.reduceMul, Int.reduceEq, Int.reduceLT, Int.reduceLE, Int.reduceNeg, Int.reduceToNat, List.reduceReplicate, Int.ofNat_le, List.getElem?_drop]
    refine iteI (fun hlt => ?_) fun hge => ?_
    rotate_left
    · have hke : k = P ^ W.length := by omega
      subst hke
      exact hk rows' hrl' hb' hdr
    have hkl : k < (allE P W.length).length := hlt
    obtain ⟨w4, a4, hr⟩ := hre.rowI hkl
    rw [allE_get hkl, digs_length] at hr
    have hx := digs_el (P := P) (by omega) W.length k
    rw [← hp] at hx
    have hirl : i < rows'.length := by omega
    have hwr : (σ.set t rows').wr t i [.fz w4 a4 W.length (pis (digs P W.length k))] = some ((σ.set t rows').set t (rows'.set i (.fz w4 a4 W.length (pis (digs P W.length k))))) := by
      rw [obj_wr (by rw [pobj_set, if_pos rfl]), if_pos ⟨by rw [List.length_singleton]; omega, rfl⟩]
      rw [List.append_assoc, List.singleton_append, List.length_singleton, take_set _ hirl]
    rw [pset_set] at hwr
    simp only [pwA, if_true, if_false, eq_self, nm_eq, reduceCtorEq, ↓reduceIte, Nat.reduceEqDiff, Nat.reduceLeDiff, Nat.reduceBEq, Nat.reduceAdd, Nat.reduceLT, Nat.reduceSub, Nat.reduceMul, Int.reduceEq, Int.reduceLT, Int.reduceLE, Int.reduceNeg, Int.reduceToNat, List.reduceReplicate, Int.ofNat_le, List.getElem?_drop, hkl, hr, hin, hwr]
    generalize hX : digs P W.length k = x at *
    have hs1 : PtrR (σ.set t (rows'.set i (.fz w4 a4 W.length (pis x)))) s p vP vB := hs.set hne _
    have hdr1 : (rows'.set i (.fz w4 a4 W.length (pis x))).drop i = [.fz w4 a4 W.length (pis x)] ++ rows.drop (i + 1) := by
      rw [List.drop_eq_getElem_cons (by rw [List.length_set]; exact hirl), List.getElem_set_self, List.drop_set_of_lt (by omega), hdr]; rfl
    have hall1 : All2 FI ((rows'.set i (.fz w4 a4 W.length (pis x))).drop i) (x :: L) := by
      rw [hdr1]
      exact ((All2.nil FI).snoc (⟨w4, a4, by rw [hx.1]⟩ : FI _ x)).append hrows
    have hrl1 : (rows'.set i (.fz w4 a4 W.length (pis x))).length = W.length := by rw [List.length_set]; exact hrl'
    have hdr2 : (rows'.set i (.fz w4 a4 W.length (pis x))).drop (i + 1) = rows.drop (i + 1) := by rw [List.drop_set_of_lt (by omega), hdr]
    have hb1 : Bels 0 (rows'.set i (.fz w4 a4 W.length (pis x))) := Bels_iff.2 fun c hc => by
      rcases List.mem_or_eq_of_mem_set hc with hc | rfl
      · exact Bels_iff.1 hb' c hc
      · trivial
    have hobj1 : (σ.set t (rows'.set i (.fz w4 a4 W.length (pis x)))).obj t = some (rows'.set i (.fz w4 a4 W.length (pis x))) := by rw [pobj_set, if_pos rfl]
    generalize rows'.set i (.fz w4 a4 W.length (pis x)) = rows1 at *
    have hLx : Els p W.length (x :: L) := fun y hy => by
      rcases List.mem_cons.1 hy with rfl | hy
      · exact hx
      · exact hL y hy
    have hgood := good_iff (B := B) o hpp (i := i) (by omega) hx hL hu hul
    have hsum : ∀ c : Int, (good p W.length W B (x :: L) → c = cnt (good p W.length W B) P W.length i (x :: L)) → (¬ good p W.length W B (x :: L) → c = 0) → sumN (k + 1) (cF1 p W.length W B P i L) = sumN k (cF1 p W.length W B P i L) + c := fun c h1 h2 => by
      rw [sumN]
      congr 1
      unfold cF1
      rw [hX]
      split
      · rename_i hg; exact (h1 hg).symm
      · rename_i hg; exact (h2 hg).symm
    have hu'l : u'.length ≤ W.length := by omega
    refine reduceLie_ok hs1 hR.P o hFU' (fun v hv => ⟨(hu.base.led v hv).1, (hu.base.led v hv).2.1⟩) (by omega) hx hx.1.symm fun v1 => ?_
    have hrl3 := (redL_el o (u := u') (fun v hv => (hu.base.led v hv).1) hx).1
    simp only [pwA, if_true, if_false, eq_self, nm_eq, reduceCtorEq, ↓reduceIte, Nat.reduceEqDiff, Nat.reduceLeDiff, Nat.reduceBEq, Nat.reduceAdd, Nat.reduceLT, Nat.reduceSub, Nat.reduceMul, Int.reduceEq, Int.reduceLT, Int.reduceLE, Int.reduceNeg, Int.reduceToNat, List.reduceReplicate, Int.ofNat_le, List.getElem?_drop]
    refine isZero_ok hrl3.symm (by omega) ?_
    by_cases hz : isZ (redL p W u' x)
    · simp only [pwA, if_true, if_false, eq_self, nm_eq, reduceCtorEq, ↓reduceIte, Nat.reduceEqDiff, Nat.reduceLeDiff, Nat.reduceBEq, Nat.reduceAdd, Nat.reduceLT, Nat.reduceSub, Nat.reduceMul, Int.reduceEq, Int.reduceLT, Int.reduceLE, Int.reduceNeg, Int.reduceToNat, List.reduceReplicate, Int.ofNat_le, List.getElem?_drop, hz, wrapS hkl (by omega : (allE P W.length).length ≤ 4611686018427387904)]
      refine ⟨_, by omega, k + 1, rows1, by omega, rfl, ?_, rfl, hrl1, hb1, hdr2⟩
      rw [hsum 0 (fun h => absurd hz (hgood.1 h).2) fun _ => rfl, Int.add_zero]
    simp only [pwA, if_true, if_false, eq_self, nm_eq, reduceCtorEq, ↓reduceIte, Nat.reduceEqDiff, Nat.reduceLeDiff, Nat.reduceBEq, Nat.reduceAdd, Nat.reduceLT, Nat.reduceSub, Nat.reduceMul, Int.reduceEq, Int.reduceLT, Int.reduceLE, Int.reduceNeg, Int.reduceToNat, List.reduceReplicate, Int.ofNat_le, List.getElem?_drop, hz]
    refine PCalls.lend (s := t) hobj1 hb1 fun o1 => ?_
    have hcap : capOK (.known W.length) W.length = true := by simp [capOK]
    simp only [sbs, sb, hcap, and_self, if_true]
    have hs2 := hs1.kill (t := t) hne
    refine lieFitsG_ok hs2 hs2 hR hR o hl.1.b o hl.1.b (im := padI W.length (x :: L)) (FIG_pad hall1 (by simp; omega)) (padI_els (by omega) hLx) (padI_length (by simp; omega)) (by rw [padI_length (by simp; omega)]; exact hin) fun tt htt => ⟨rfl, ⟨_, rfl⟩, ?_⟩
    cases tt
    · simp only [pwA, if_true, if_false, eq_self, nm_eq, reduceCtorEq, ↓reduceIte, Nat.reduceEqDiff, Nat.reduceLeDiff, Nat.reduceBEq, Nat.reduceAdd, Nat.reduceLT, Nat.reduceSub, Nat.reduceMul, Int.reduceEq, Int.reduceLT, Int.reduceLE, Int.reduceNeg, Int.reduceToNat, List.reduceReplicate, Int.ofNat_le, List.getElem?_drop, wrapS hkl (by omega : (allE P W.length).length ≤ 4611686018427387904)]
      refine ⟨_, by omega, k + 1, rows1, by omega, rfl, ?_, rfl, hrl1, hb1, hdr2⟩
      rw [hsum 0 (fun h => by have := htt.2 (hgood.1 h).1; cases this) fun _ => rfl, Int.add_zero]
    · have hgx := hgood.2 ⟨htt.1 rfl, hz⟩
      obtain ⟨out, hout, hol⟩ := hgx.2
      have ew3 : IntKind.i64.wrap ((i : Int) - 1) = (i : Int) - 1 := wrap64 (by omega) (by omega)
      simp only [pwA, if_true, if_false, eq_self, nm_eq, reduceCtorEq, ↓reduceIte, Nat.reduceEqDiff, Nat.reduceLeDiff, Nat.reduceBEq, Nat.reduceAdd, Nat.reduceLT, Nat.reduceSub, Nat.reduceMul, Int.reduceEq, Int.reduceLT, Int.reduceLE, Int.reduceNeg, Int.reduceToNat, List.reduceReplicate, Int.ofNat_le, List.getElem?_drop, ew3]
      refine ih _ _ s t vP vB rows1 (x :: L) out hs1 hR hobj1 hne (by simp; omega) hall1 hrl1 hb1 hLx hout hol fun rows2 hrl2 hb2 hdr3 => ?_
      rw [pset_set]
      have hb3 := sum_bd (p := p) (n := W.length) (W := W) (B := B) (P := P) (i := i) (L := L) h27 (by omega) (k := k + 1) (by omega)
      rw [hsum _ (fun _ => rfl) (fun h => absurd hgx h)] at hb3
      have ew4 : IntKind.i64.wrap (sumN k (cF1 p W.length W B P i L) + cnt (good p W.length W B) P W.length i (x :: L)) = sumN k (cF1 p W.length W B P i L) + cnt (good p W.length W B) P W.length i (x :: L) := wrap64 (by omega) (by omega)
      simp only [pwA, if_true, if_false, eq_self, nm_eq, reduceCtorEq, ↓reduceIte, Nat.reduceEqDiff, Nat.reduceLeDiff, Nat.reduceBEq, Nat.reduceAdd, Nat.reduceLT, Nat.reduceSub, Nat.reduceMul, Int.reduceEq, Int.reduceLT, Int.reduceLE, Int.reduceNeg, Int.reduceToNat, List.reduceReplicate, Int.ofNat_le, List.getElem?_drop, ew4, wrapS hkl (by omega : (allE P W.length).length ≤ 4611686018427387904)]
      refine ⟨_, by omega, k + 1, rows2, by omega, rfl, ?_, rfl, hrl2, hb2, ?_⟩
      · rw [hsum _ (fun _ => rfl) (fun h => absurd hgx h)]
      · have e3 : rows2.drop (i + 1) = (rows2.drop i).drop 1 := by rw [List.drop_drop]
        have e4 : rows1.drop (i + 1) = (rows1.drop i).drop 1 := by rw [List.drop_drop]
        rw [e3, hdr3, ← e4, hdr2]
end Go.Proofs
set_option linter.unusedSimpArgs false
set_option linter.unusedVariables false
namespace Go.Proofs
open Go.Ab Go.Lie
variable {σ : PHeap} {K : PV → PHeap → Prop} {p p' : Int} {n : Nat} {W W' : List (List Int)} {B B' : List (List (List Int))} {vP vB vP' vB' vL : PV} {s s' j0 : Nat} {im : List (List Int)}
theorem ipow_nat (P : Nat) : ∀ n, ipow (P : Int) n = ((P ^ n : Nat) : Int)
  | 0 => rfl
  | n + 1 => by rw [ipow, ipow_nat P n, Nat.pow_succ, Int.natCast_mul]
/-- What the reference's recursion gives. -/
def CntS (p : Int) (W : List (List Int)) (B : List (List (List Int))) (P i : Nat) : Prop :=
  ∀ (σ : PHeap) (K : PV → PHeap → Prop) (vP vB vI : PV) (L u : List (List Int)), IsR vP vB W B → FII vI (padI W.length L) → i + L.length = W.length → Els p W.length L → Canon p W.length W L u → u.length = L.length →
    K (.int .i64 (cnt (good p W.length W B) P W.length i L)) σ → PCalls Try.prog 59 [.agg [.int .i64 p, vP, vB], vI, .int .i64 i] σ K
theorem padI_set {i : Nat} {x : List Int} {L : List (List Int)} (h : i + 1 + L.length = n) : (padI n L).set i x = padI n (x :: L) := by
  unfold padI
  have e1 : n - L.length = i + 1 := by omega
  have e2 : n - (x :: L).length = i := by simp; omega
  rw [e1, e2, List.replicate_succ', List.append_assoc, List.set_append_right _ _ (by simp)]
  simp
theorem good_iff2 {x : List Int} {L out : List (List Int)} {i : Nat} (hil : i + (L.length + 1) = W.length) (ho : OkW p W.length W) (hc : Canon p W.length W (x :: L) out) : good p W.length W B (x :: L) ↔ fits p W B W B (padI W.length (x :: L)) i ∧ out.length = (x :: L).length := by
  have hi : W.length - (x :: L).length = i := by simp; omega
  unfold good
  rw [hi]
  exact and_congr_right fun _ => ⟨fun ⟨o2, h1, h2⟩ => by rw [hc.unique ho h1]; exact h2, fun h => ⟨out, hc, h⟩⟩
theorem l34Count_ok {P : Nat} (hl : isLie p W B) (hp : p = (P : Int)) (h27 : P ^ W.length ≤ 27) : ∀ (i : Nat), CntS p W B P i
  | 0 => by
    intro σ K vP vB vI L u hR hI hil hL hu hul hk
    have h1 := hR.P.one
    have h2 := hR.B.one
    refine PCalls.gh ?_
    refine pcalls_of_vp mix Try.func59 cf59 rfl ?_
    dsimp only [if59, qI, eI, nI, qD, eD]
    simp only [pwA, if_true, if_false, eq_self, nm_eq, reduceCtorEq, ↓reduceIte, Nat.reduceEqDiff, Nat.reduceLeDiff, Nat.reduceBEq, Nat.reduceAdd, Nat.reduceLT, Nat.reduceSub, Nat.reduceMul, Int.reduceEq, Int.reduceLT, Int.reduceLE, Int.reduceNeg, Int.reduceToNat, List.reduceReplicate, Int.ofNat_le, List.getElem?_drop, h1, h2]
    exact Gh.fin0 (keep_new σ _) trivial hk
  | i + 1 => by
    intro σ K vP vB vI L u hR hI hil hL hu hul hk
    have ih := l34Count_ok hl hp h27 i
    have o := hl.1.w
    have hn6 := o.le
    have hpp := hl.1.1
    have hpb := hpp.bd
    have hP2 : 2 ≤ P ∧ P ≤ 7 := by omega
    have h1 := hR.P.one
    have h2 := hR.B.one
    have hRR := hR
    have hlen := padI_length (n := W.length) (L := L) (by omega)
    obtain ⟨⟨wp, ap, rp, rfl, hrp⟩, hB⟩ := hR
    obtain ⟨wl, al, rl, rfl, hrl⟩ := hI
    rw [hlen]
    have hrll : rl.length = W.length := by rw [hrl.1, hlen]
    refine PCalls.gh ?_
    have hne0 : ¬ ((i + 1 : Nat) : Int) = 0 := by omega
    have ew : IntKind.i64.wrap (((i + 1 : Nat) : Int) - 1) = (i : Int) := by rw [wrap64 (by omega) (by omega)]; omega
    generalize hH : σ.new [.int .i64 p, .fz wp ap W.length rp, vB] = H
    have hHn : H.next = σ.next + 1 := by rw [← hH]; rfl
    have hHk : Keep σ H := by rw [← hH]; exact keep_new σ _
    have hob : H.obj σ.next = some [.int .i64 p, .fz wp ap W.length rp, vB] := by rw [← hH]; simp only [pwA, if_true, if_false, eq_self, nm_eq, reduceCtorEq, ↓reduceIte, Nat.reduceEqDiff, Nat.reduceLeDiff, Nat.reduceBEq, Nat.reduceAdd, Nat.reduceLT, Nat.reduceSub, Nat.reduceMul, Int.reduceEq, Int.reduceLT, Int.reduceLE, Int.reduceNeg, Int.reduceToNat, List.reduceReplicate, Int.ofNat_le, List.getElem?_drop]
    refine pcalls_of_vp mix Try.func59 cf59 rfl ?_
    dsimp only [if59, qI, eI, nI, qD, eD]
    simp only [pwA, if_true, if_false, eq_self, nm_eq, reduceCtorEq, ↓reduceIte, Nat.reduceEqDiff, Nat.reduceLeDiff, Nat.reduceBEq, Nat.reduceAdd, Nat.reduceLT, Nat.reduceSub, Nat.reduceMul, Int.reduceEq, Int.reduceLT, Int.reduceLE, Int.reduceNeg, Int.reduceToNat, List.reduceReplicate, Int.ofNat_le, List.getElem?_drop, h1, h2, hne0, hH]
    refine vp_loop (fun m vs h' => ∃ k : Nat, k ≤ P ^ W.length ∧ m = P ^ W.length - k ∧ vs = [.fz wl al W.length rl, .int .i64 ((i + 1 : Nat) : Int), .ptr σ.next 0, .int .i64 (sumN k (cF1 p W.length W B P i L)), .int .i64 k] ∧ Keep H h') (P ^ W.length) ?_ ?_
    · exact ⟨0, by omega, by omega, rfl, Keep.refl H⟩
    rintro m vs h' ⟨k, hk', rfl, rfl, hkp⟩
    have hob' : h'.obj σ.next = some [.int .i64 p, .fz wp ap W.length rp, vB] := by rw [hkp.obj _ (by omega)]; exact hob
    have hr3 : h'.rd σ.next 0 3 = some [.int .i64 p, .fz wp ap W.length rp, vB] := by rw [obj_rd hob']; rfl
    have hr0 : h'.rd1 σ.next 0 = some (.int .i64 p) := by rw [obj_rd1 hob']; rfl
    have hr1 : h'.rd1 σ.next 1 = some (.fz wp ap W.length rp) := by rw [obj_rd1 hob']; rfl
    simp only [pwA, if_true, if_false, eq_self, nm_eq, reduceCtorEq, ↓reduceIte, Nat.reduceEqDiff, Nat.reduceLeDiff, Nat.reduceBEq, Nat.reduceAdd, Nat.reduceLT, Nat.reduceSub, Nat.reduceMul, Int.reduceEq, Int.reduceLT, Int.reduceLE, Int.reduceNeg, Int.reduceToNat, List.reduceReplicate, Int.ofNat_le, List.getElem?_drop, hr0, hr1]
    refine l31Size_ok hpb hn6 fun kk a1 a2 a3 a4 => ?_
    have hkk : kk = ((P ^ W.length : Nat) : Int) := by
      rw [hp, ipow_nat] at a1 a2
      exact a2 (a1.2 (by omega))
    subst hkk
    clear a1 a2 a3 a4
    simp only [pwA, if_true, if_false, eq_self, nm_eq, reduceCtorEq, ↓reduceIte, Nat.reduceEqDiff, Nat.reduceLeDiff, Nat.reduceBEq, Nat.reduceAdd, Nat.reduceLT, Nat.reduceSub, Nat.reduceMul, Int.reduceEq, Int.reduceLT, Int.reduceLE, Int.reduceNeg, Int.reduceToNat, List.reduceReplicate, Int.ofNat_le, List.getElem?_drop]
    refine iteI (fun hlt => ?_) fun hge => ?_
    rotate_left
    · have hke : k = P ^ W.length := by omega
      subst hke
      exact Gh.fin0 (hHk.trans hkp) trivial hk
    have hkl : k < P ^ W.length := by omega
    simp only [pwA, if_true, if_false, eq_self, nm_eq, reduceCtorEq, ↓reduceIte, Nat.reduceEqDiff, Nat.reduceLeDiff, Nat.reduceBEq, Nat.reduceAdd, Nat.reduceLT, Nat.reduceSub, Nat.reduceMul, Int.reduceEq, Int.reduceLT, Int.reduceLE, Int.reduceNeg, Int.reduceToNat, List.reduceReplicate, Int.ofNat_le, List.getElem?_drop]
    refine PSl.cat (bytes := 24) (σb := h') (n := 0) (cs := []) (keep_new h' _) (PSl.new _ 1 rfl (Nat.le_refl _)) hrll (by omega) (by omega) fun v1 h2 k2 a2 => ?_
    rw [Nat.zero_add, List.nil_append] at a2
    obtain ⟨sN, cap, rfl, hc, q2, q3, q4, q5⟩ := a2
    have hk2 := hkp.trans k2
    have hsN : H.next ≤ sN := Nat.le_trans hkp.next q4
    have hob2 : h2.obj σ.next = some [.int .i64 p, .fz wp ap W.length rp, vB] := by rw [hk2.obj _ (by omega)]; exact hob
    have hr32 : h2.rd σ.next 0 3 = some [.int .i64 p, .fz wp ap W.length rp, vB] := by rw [obj_rd hob2]; rfl
    simp only [pwA, if_true, if_false, eq_self, nm_eq, reduceCtorEq, ↓reduceIte, Nat.reduceEqDiff, Nat.reduceLeDiff, Nat.reduceBEq, Nat.reduceAdd, Nat.reduceLT, Nat.reduceSub, Nat.reduceMul, Int.reduceEq, Int.reduceLT, Int.reduceLE, Int.reduceNeg, Int.reduceToNat, List.reduceReplicate, Int.ofNat_le, List.getElem?_drop, ew, hr32]
    refine l31At_ok hRR rfl hn6 hp hP2 (by omega) fun vX hX => ?_
    obtain ⟨wx, ax, rfl⟩ := hX
    have hx := digs_el (P := P) (by omega) W.length k
    rw [← hp] at hx
    rw [digs_length]
    have hin : i < W.length := by omega
    have hirl : i < rl.length := by omega
    have hwr : h2.wr sN i [.fz wx ax W.length (pis (digs P W.length k))] = some (h2.set sN (rl.set i (.fz wx ax W.length (pis (digs P W.length k))))) := by
      rw [obj_wr q2, if_pos ⟨by rw [List.length_singleton]; omega, rfl⟩]
      rw [List.append_assoc, List.singleton_append, List.length_singleton, take_set _ hirl]
    generalize hX : digs P W.length k = x at *
    have hallI : All2 FI (rl.set i (.fz wx ax W.length (pis x))) (padI W.length (x :: L)) := by
      rw [← padI_set (by omega)]
      exact hrl.set i ⟨wx, ax, by rw [hx.1]⟩
    have hdr1 : (rl.set i (.fz wx ax W.length (pis x))).drop i = [.fz wx ax W.length (pis x)] ++ rl.drop (i + 1) := by
      rw [List.drop_eq_getElem_cons (by rw [List.length_set]; exact hirl), List.getElem_set_self, List.drop_set_of_lt (by omega)]; rfl
    have hpd : (padI W.length (x :: L)).drop i = x :: L := by
      unfold padI
      rw [List.drop_append_of_le_length (by simp; omega), List.drop_of_length_le (by simp; omega), List.nil_append]
    have hall1 : All2 FI ((rl.set i (.fz wx ax W.length (pis x))).drop i) (x :: L) := by
      have := hallI.drop i
      rwa [hpd] at this
    have hrl1 : (rl.set i (.fz wx ax W.length (pis x))).length = W.length := by rw [List.length_set]; exact hrll
    generalize rl.set i (.fz wx ax W.length (pis x)) = rows1 at *
    have hob1 : (h2.set sN rows1).obj sN = some rows1 := by rw [pobj_set, if_pos rfl]
    have hk3 : Keep H (h2.set sN rows1) := hk2.set hsN _
    have hb1 : Bels 0 rows1 := hallI.bI 0
    have hneN : σ.next ≠ sN := by omega
    have hLx : Els p W.length (x :: L) := fun y hy => by
      rcases List.mem_cons.1 hy with rfl | hy
      · exact hx
      · exact hL y hy
    have hxl : (x :: L).length = W.length - i := by simp; omega
    have hgood := fun out hc => good_iff2 (B := B) (L := L) (x := x) (out := out) (i := i) (by omega) o hc
    have hsum : ∀ c : Int, (good p W.length W B (x :: L) → c = cnt (good p W.length W B) P W.length i (x :: L)) → (¬ good p W.length W B (x :: L) → c = 0) → sumN (k + 1) (cF1 p W.length W B P i L) = sumN k (cF1 p W.length W B P i L) + c := fun c h1 h2 => by
      rw [sumN]
      congr 1
      unfold cF1
      rw [hX]
      split
      · rename_i hg; exact (h1 hg).symm
      · rename_i hg; exact (h2 hg).symm
    have hps : ∃ cap2, pslice 1 (.sl sN 0 W.length cap) (some (.int .i64 i)) none none = some (.sl sN i (L.length + 1) cap2) := by
      rw [show L.length + 1 = W.length - i by omega]
      have hiI : (i : Int) ≤ (W.length : Int) := by omega
      have hne : ¬ W.length = i := by omega
      have hile : i ≤ W.length := by omega
      rcases hc with rfl | rfl
      · exact ⟨.grown 1, by simp only [pwA, if_true, if_false, eq_self, nm_eq, reduceCtorEq, ↓reduceIte, Nat.reduceEqDiff, Nat.reduceLeDiff, Nat.reduceBEq, Nat.reduceAdd, Nat.reduceLT, Nat.reduceSub, Nat.reduceMul, Int.reduceEq, Int.reduceLT, Int.reduceLE, Int.reduceNeg, Int.reduceToNat, List.reduceReplicate, Int.ofNat_le, List.getElem?_drop, hiI, hne, hile, Option.bind_some, Option.isSome_none, Option.isNone_none, Bool.false_eq_true, and_false]⟩
      · exact ⟨.known (W.length - i), by simp only [pwA, if_true, if_false, eq_self, nm_eq, reduceCtorEq, ↓reduceIte, Nat.reduceEqDiff, Nat.reduceLeDiff, Nat.reduceBEq, Nat.reduceAdd, Nat.reduceLT, Nat.reduceSub, Nat.reduceMul, Int.reduceEq, Int.reduceLT, Int.reduceLE, Int.reduceNeg, Int.reduceToNat, List.reduceReplicate, Int.ofNat_le, List.getElem?_drop, hiI, hne, hile, Option.bind_some, Option.isSome_none, Option.isNone_none, Bool.false_eq_true, and_false]⟩
    obtain ⟨cap2, hps⟩ := hps
    have hr33 : (h2.set sN rows1).rd σ.next 0 3 = some [.int .i64 p, .fz wp ap W.length rp, vB] := by rw [obj_rd (by rw [pobj_set, if_neg hneN]; exact hob2)]; rfl
    have ew1 : IntKind.i64.wrap ((W.length : Int) - ((i + 1 : Nat) : Int)) = (W.length : Int) - ((i + 1 : Nat) : Int) := wrap64 (by omega) (by omega)
    have ew2 : IntKind.i64.wrap ((W.length : Int) - ((i + 1 : Nat) : Int) + 1) = ((L.length + 1 : Nat) : Int) := by rw [wrap64 (by omega) (by omega)]; omega
    simp only [pwA, if_true, if_false, eq_self, nm_eq, reduceCtorEq, ↓reduceIte, Nat.reduceEqDiff, Nat.reduceLeDiff, Nat.reduceBEq, Nat.reduceAdd, Nat.reduceLT, Nat.reduceSub, Nat.reduceMul, Int.reduceEq, Int.reduceLT, Int.reduceLE, Int.reduceNeg, Int.reduceToNat, List.reduceReplicate, Int.ofNat_le, List.getElem?_drop, hin, hwr, ew, hr32, hneN, hps, ew1, ew2]
    refine l32Span_sl (σ := h2.set sN rows1) (t0 := sN) (off0 := i) hRR o hpp (show sN < h2.next from q5) (cells := rows1) (rl := rows1.drop i) ⟨hob1, by rw [List.take_of_length_le (by rw [List.length_drop]; omega)], by omega, hall1⟩ hLx (by omega) fun vO out hcan hO => ?_
    obtain ⟨wo, ao, ro, rfl, hro⟩ := hO
    have hg2 := hgood out hcan
    have hwk := wrapS hkl (by omega : P ^ W.length ≤ 4611686018427387904)
    by_cases hz : out.length = (x :: L).length
    rotate_left
    · have hzI : ((out.length : Int) = ((L.length + 1 : Nat) : Int)) = False := by simp only [eq_iff_iff, iff_false]; omega
      simp only [pwA, if_true, if_false, eq_self, nm_eq, reduceCtorEq, ↓reduceIte, Nat.reduceEqDiff, Nat.reduceLeDiff, Nat.reduceBEq, Nat.reduceAdd, Nat.reduceLT, Nat.reduceSub, Nat.reduceMul, Int.reduceEq, Int.reduceLT, Int.reduceLE, Int.reduceNeg, Int.reduceToNat, List.reduceReplicate, Int.ofNat_le, List.getElem?_drop, hzI, hwk]
      refine ⟨_, by omega, k + 1, by omega, rfl, ?_, hk3⟩
      rw [hsum 0 (fun h => absurd (hg2.1 h).2 hz) fun _ => rfl, Int.add_zero]
    have hzI : ((out.length : Int) = ((L.length + 1 : Nat) : Int)) = True := by simp only [eq_iff_iff, iff_true]; omega
    simp only [pwA, if_true, if_false, eq_self, nm_eq, reduceCtorEq, ↓reduceIte, Nat.reduceEqDiff, Nat.reduceLeDiff, Nat.reduceBEq, Nat.reduceAdd, Nat.reduceLT, Nat.reduceSub, Nat.reduceMul, Int.reduceEq, Int.reduceLT, Int.reduceLE, Int.reduceNeg, Int.reduceToNat, List.reduceReplicate, Int.ofNat_le, List.getElem?_drop, hzI, hr32, hneN, ew]
    refine PCalls.lend (s := sN) hob1 hb1 fun o1 => ?_
    simp only [sbs, sb, hc.ok, and_self, if_true, hB.sb, nm_eq]
    refine l34Keeps_ok hRR hRR o hl.1.b o hl.1.b (im := padI W.length (x :: L)) ⟨true, _, rows1, by rw [padI_length (by omega)], hallI⟩ (padI_els (by omega) hLx) (padI_length (by omega)) (by rw [padI_length (by omega)]; exact hin) fun tt htt => ⟨rfl, ⟨_, rfl⟩, ?_⟩
    cases tt
    · simp only [pwA, if_true, if_false, eq_self, nm_eq, reduceCtorEq, ↓reduceIte, Nat.reduceEqDiff, Nat.reduceLeDiff, Nat.reduceBEq, Nat.reduceAdd, Nat.reduceLT, Nat.reduceSub, Nat.reduceMul, Int.reduceEq, Int.reduceLT, Int.reduceLE, Int.reduceNeg, Int.reduceToNat, List.reduceReplicate, Int.ofNat_le, List.getElem?_drop, hwk]
      refine ⟨_, by omega, k + 1, by omega, rfl, ?_, hk3⟩
      rw [hsum 0 (fun h => by have := htt.2 (hg2.1 h).1; cases this) fun _ => rfl, Int.add_zero]
    · have hgx := hg2.2 ⟨htt.1 rfl, hz⟩
      obtain ⟨out2, hout, hol⟩ := hgx.2
      simp only [pwA, if_true, if_false, eq_self, nm_eq, reduceCtorEq, ↓reduceIte, Nat.reduceEqDiff, Nat.reduceLeDiff, Nat.reduceBEq, Nat.reduceAdd, Nat.reduceLT, Nat.reduceSub, Nat.reduceMul, Int.reduceEq, Int.reduceLT, Int.reduceLE, Int.reduceNeg, Int.reduceToNat, List.reduceReplicate, Int.ofNat_le, List.getElem?_drop, hr32, hneN, ew]
      refine PCalls.frz (s := sN) hob1 hb1 fun o2 => ?_
      simp only [sbs, sb, hc.ok, and_self, if_true, hB.sb, nm_eq]
      refine ih _ _ (.fz wp ap W.length rp) vB _ (x :: L) out2 hRR ⟨true, .sl o2 0 W.length cap, rows1, by rw [padI_length (by omega)], hallI⟩ (by simp; omega) hLx hout hol ?_
      have hb3 := sum_bd (p := p) (n := W.length) (W := W) (B := B) (P := P) (i := i) (L := L) h27 (by omega) (k := k + 1) (by omega)
      rw [hsum _ (fun _ => rfl) (fun h => absurd hgx h)] at hb3
      have ew4 : IntKind.i64.wrap (sumN k (cF1 p W.length W B P i L) + cnt (good p W.length W B) P W.length i (x :: L)) = sumN k (cF1 p W.length W B P i L) + cnt (good p W.length W B) P W.length i (x :: L) := wrap64 (by omega) (by omega)
      simp only [pwA, if_true, if_false, eq_self, nm_eq, reduceCtorEq, ↓reduceIte, Nat.reduceEqDiff, Nat.reduceLeDiff, Nat.reduceBEq, Nat.reduceAdd, Nat.reduceLT, Nat.reduceSub, Nat.reduceMul, Int.reduceEq, Int.reduceLT, Int.reduceLE, Int.reduceNeg, Int.reduceToNat, List.reduceReplicate, Int.ofNat_le, List.getElem?_drop, ew4, hwk]
      refine ⟨_, by omega, k + 1, by omega, rfl, ?_, hk3.kill hsN⟩
      rw [hsum _ (fun _ => rfl) (fun h => absurd hgx h)]
end Go.Proofs
set_option linter.unusedSimpArgs false
set_option linter.unusedVariables false
namespace Go.Proofs
open Go.Ab Go.Lie
variable {σ : PHeap} {K : PV → PHeap → Prop} {p p' : Int} {n : Nat} {W W' : List (List Int)} {B B' : List (List (List Int))} {vP vB vP' vB' vL : PV}
/-- The results. -/
def CountR (p : Int) (W : List (List Int)) (B : List (List (List Int))) (c e : Int) : Prop :=
  (¬ isLie p W B ∧ c = 0 ∧ e = 1) ∨ (isLie p W B ∧ ¬ ipow p W.length ≤ 27 ∧ c = 0 ∧ e = 3) ∨ (isLie p W B ∧ ipow p W.length ≤ 27 ∧ ∃ P : Nat, p = (P : Int) ∧ c = cnt (good p W.length W B) P W.length W.length [] ∧ e = 0)
theorem CountR.unique {c e c' e' : Int} (h : CountR p W B c e) (g : CountR p W B c' e') : c = c' ∧ e = e' := by
  rcases h with ⟨h1, rfl, rfl⟩ | ⟨h1, h2, rfl, rfl⟩ | ⟨h1, h2, P, h3, rfl, rfl⟩ <;> rcases g with ⟨g1, rfl, rfl⟩ | ⟨g1, g2, rfl, rfl⟩ | ⟨g1, g2, P', g3, rfl, rfl⟩ <;>
    first | exact ⟨rfl, rfl⟩ | exact absurd g1 h1 | exact absurd h1 g1 | exact absurd g2 h2 | exact absurd h2 g2 | skip
  have e : P = P' := by omega
  subst e
  exact ⟨rfl, rfl⟩
theorem canon_nil : Canon p n W [] [] := ⟨.nil, List.Pairwise.nil, fun _ => Iff.rfl⟩
theorem pnew_set {h : PHeap} {a b : List PV} : (h.new a).set h.next b = h.new b := by
  show PHeap.mk _ _ _ = PHeap.mk _ _ _
  congr 1
  funext t
  show (if t = h.next then some b else if t = h.next then some a else h.obj t) = if t = h.next then some b else h.obj t
  by_cases e : t = h.next
  · rw [if_pos e, if_pos e]
  · rw [if_neg e, if_neg e, if_neg e]
theorem CountLie_ok (hR : IsR vP vB W B) (sz : SzR W B) (hk : ∀ c e, CountR p W B c e → K (.tup [.int .i64 c, .int .i64 e]) σ) : PCalls Try.prog 24 [.agg [.int .i64 p, vP, vB]] σ K := by
  have h1 := hR.P.one
  have h2 := hR.B.one
  have hRR := hR
  obtain ⟨⟨wp, ap, rp, rfl, hrp⟩, hB⟩ := hR
  refine PCalls.gh ?_
  refine pcalls_of_vp mix Try.func24 cf24 rfl ?_
  dsimp only [if24, qI, eI, nI, qD, eD]
  simp only [pwA, if_true, if_false, eq_self, nm_eq, reduceCtorEq, ↓reduceIte, Nat.reduceEqDiff, Nat.reduceLeDiff, Nat.reduceBEq, Nat.reduceAdd, Nat.reduceLT, Nat.reduceSub, Nat.reduceMul, Int.reduceEq, Int.reduceLT, Int.reduceLE, Int.reduceNeg, Int.reduceToNat, List.reduceReplicate, Int.ofNat_le, List.getElem?_drop, h1, h2]
  refine IsLieRing_ok hRR sz fun t ht => ?_
  cases t
  · simp only [pwA, if_true, if_false, eq_self, nm_eq, reduceCtorEq, ↓reduceIte, Nat.reduceEqDiff, Nat.reduceLeDiff, Nat.reduceBEq, Nat.reduceAdd, Nat.reduceLT, Nat.reduceSub, Nat.reduceMul, Int.reduceEq, Int.reduceLT, Int.reduceLE, Int.reduceNeg, Int.reduceToNat, List.reduceReplicate, Int.ofNat_le, List.getElem?_drop]
    exact Gh.fin0 (keep_new σ _) ⟨trivial, trivial, trivial⟩ (hk _ _ (.inl ⟨fun h => (by have := ht.2 h; cases this), rfl, rfl⟩))
  have hl := ht.1 rfl
  have hn6 := hl.1.w.le
  have hpb := hl.1.1.bd
  obtain ⟨P, hP⟩ : ∃ P : Nat, p = (P : Int) := ⟨p.toNat, by omega⟩
  simp only [pwA, if_true, if_false, eq_self, nm_eq, reduceCtorEq, ↓reduceIte, Nat.reduceEqDiff, Nat.reduceLeDiff, Nat.reduceBEq, Nat.reduceAdd, Nat.reduceLT, Nat.reduceSub, Nat.reduceMul, Int.reduceEq, Int.reduceLT, Int.reduceLE, Int.reduceNeg, Int.reduceToNat, List.reduceReplicate, Int.ofNat_le, List.getElem?_drop]
  refine integerPower_ok hpb hn6 ?_
  by_cases h27 : ipow p W.length ≤ 27
  rotate_left
  · have h27' : (27 : Int) < ipow p W.length := by omega
    simp only [pwA, if_true, if_false, eq_self, nm_eq, reduceCtorEq, ↓reduceIte, Nat.reduceEqDiff, Nat.reduceLeDiff, Nat.reduceBEq, Nat.reduceAdd, Nat.reduceLT, Nat.reduceSub, Nat.reduceMul, Int.reduceEq, Int.reduceLT, Int.reduceLE, Int.reduceNeg, Int.reduceToNat, List.reduceReplicate, Int.ofNat_le, List.getElem?_drop, h27']
    exact Gh.fin0 (keep_new σ _) ⟨trivial, trivial, trivial⟩ (hk _ _ (.inr (.inl ⟨hl, h27, rfl, rfl⟩)))
  have h27' : ¬ (27 : Int) < ipow p W.length := by omega
  have h27n : P ^ W.length ≤ 27 := by rw [hP, ipow_nat] at h27; omega
  simp only [pwA, if_true, if_false, eq_self, nm_eq, reduceCtorEq, ↓reduceIte, Nat.reduceEqDiff, Nat.reduceLeDiff, Nat.reduceBEq, Nat.reduceAdd, Nat.reduceLT, Nat.reduceSub, Nat.reduceMul, Int.reduceEq, Int.reduceLT, Int.reduceLE, Int.reduceNeg, Int.reduceToNat, List.reduceReplicate, Int.ofNat_le, List.getElem?_drop, h27', mk24 (n := W.length) (by omega), mkL (n := W.length) (by omega)]
  have ew : IntKind.i64.wrap ((W.length : Int) - 1) = (W.length : Int) - 1 := wrap64 (by omega) (by omega)
  rw [ew]
  refine countLieMaps_ok hl hP h27n W.length _ _ σ.next (σ.next + 1) (.fz wp ap W.length rp) vB (List.replicate W.length (.fz true .nils 0 [])) [] [] ⟨by simp only [pwA, if_true, if_false, eq_self, nm_eq, reduceCtorEq, ↓reduceIte, Nat.reduceEqDiff, Nat.reduceLeDiff, Nat.reduceBEq, Nat.reduceAdd, Nat.reduceLT, Nat.reduceSub, Nat.reduceMul, Int.reduceEq, Int.reduceLT, Int.reduceLE, Int.reduceNeg, Int.reduceToNat, List.reduceReplicate, Int.ofNat_le, List.getElem?_drop], by simp only [pwA, if_true, if_false, eq_self, nm_eq, reduceCtorEq, ↓reduceIte, Nat.reduceEqDiff, Nat.reduceLeDiff, Nat.reduceBEq, Nat.reduceAdd, Nat.reduceLT, Nat.reduceSub, Nat.reduceMul, Int.reduceEq, Int.reduceLT, Int.reduceLE, Int.reduceNeg, Int.reduceToNat, List.reduceReplicate, Int.ofNat_le, List.getElem?_drop]; omega⟩ hRR (by simp only [pwA, if_true, if_false, eq_self, nm_eq, reduceCtorEq, ↓reduceIte, Nat.reduceEqDiff, Nat.reduceLeDiff, Nat.reduceBEq, Nat.reduceAdd, Nat.reduceLT, Nat.reduceSub, Nat.reduceMul, Int.reduceEq, Int.reduceLT, Int.reduceLE, Int.reduceNeg, Int.reduceToNat, List.reduceReplicate, Int.ofNat_le, List.getElem?_drop]) (by omega) (by simp) (by rw [List.drop_of_length_le (by simp)]; exact All2.nil _) (by simp) (Bels_iff.2 fun c hc => by rw [List.eq_of_mem_replicate hc]; trivial) (fun y hy => by cases hy) canon_nil rfl fun rows' hr hb hd => ?_
  simp only [pwA, if_true, if_false, eq_self, nm_eq, reduceCtorEq, ↓reduceIte, Nat.reduceEqDiff, Nat.reduceLeDiff, Nat.reduceBEq, Nat.reduceAdd, Nat.reduceLT, Nat.reduceSub, Nat.reduceMul, Int.reduceEq, Int.reduceLT, Int.reduceLE, Int.reduceNeg, Int.reduceToNat, List.reduceReplicate, Int.ofNat_le, List.getElem?_drop]
  exact Gh.fin0 ((keep_new σ _).new _) ⟨trivial, trivial, trivial⟩ (hk _ _ (.inr (.inr ⟨hl, h27, P, hP, rfl, rfl⟩)))
theorem l34CountA_ok (hR : IsR vP vB W B) (sz : SzR W B) (hk : ∀ c e, CountR p W B c e → K (.tup [.int .i64 c, .int .i64 e]) σ) : PCalls Try.prog 23 [.agg [.int .i64 p, vP, vB]] σ K := by
  have h1 := hR.P.one
  have h2 := hR.B.one
  have hRR := hR
  obtain ⟨⟨wp, ap, rp, rfl, hrp⟩, hB⟩ := hR
  refine PCalls.gh ?_
  refine pcalls_of_vp mix Try.func23 cf23 rfl ?_
  dsimp only [if23, qI, eI, nI, qD, eD]
  simp only [pwA, if_true, if_false, eq_self, nm_eq, reduceCtorEq, ↓reduceIte, Nat.reduceEqDiff, Nat.reduceLeDiff, Nat.reduceBEq, Nat.reduceAdd, Nat.reduceLT, Nat.reduceSub, Nat.reduceMul, Int.reduceEq, Int.reduceLT, Int.reduceLE, Int.reduceNeg, Int.reduceToNat, List.reduceReplicate, Int.ofNat_le, List.getElem?_drop, h1, h2]
  refine l31Ring_ok hRR sz fun t ht => ?_
  cases t
  · simp only [pwA, if_true, if_false, eq_self, nm_eq, reduceCtorEq, ↓reduceIte, Nat.reduceEqDiff, Nat.reduceLeDiff, Nat.reduceBEq, Nat.reduceAdd, Nat.reduceLT, Nat.reduceSub, Nat.reduceMul, Int.reduceEq, Int.reduceLT, Int.reduceLE, Int.reduceNeg, Int.reduceToNat, List.reduceReplicate, Int.ofNat_le, List.getElem?_drop]
    exact Gh.fin0 (keep_new σ _) ⟨trivial, trivial, trivial⟩ (hk _ _ (.inl ⟨fun h => (by have := ht.2 h; cases this), rfl, rfl⟩))
  have hl := ht.1 rfl
  have hn6 := hl.1.w.le
  have hpb := hl.1.1.bd
  obtain ⟨P, hP⟩ : ∃ P : Nat, p = (P : Int) := ⟨p.toNat, by omega⟩
  have h729 := hl.1.2
  simp only [pwA, if_true, if_false, eq_self, nm_eq, reduceCtorEq, ↓reduceIte, Nat.reduceEqDiff, Nat.reduceLeDiff, Nat.reduceBEq, Nat.reduceAdd, Nat.reduceLT, Nat.reduceSub, Nat.reduceMul, Int.reduceEq, Int.reduceLT, Int.reduceLE, Int.reduceNeg, Int.reduceToNat, List.reduceReplicate, Int.ofNat_le, List.getElem?_drop]
  refine l31Size_ok hpb hn6 fun kk a1 a2 a3 a4 => ?_
  have hkk : kk = ipow p W.length := a2 (a1.2 h729.2.2.1)
  subst hkk
  by_cases h27 : ipow p W.length ≤ 27
  rotate_left
  · have h27' : (27 : Int) < ipow p W.length := by omega
    simp only [pwA, if_true, if_false, eq_self, nm_eq, reduceCtorEq, ↓reduceIte, Nat.reduceEqDiff, Nat.reduceLeDiff, Nat.reduceBEq, Nat.reduceAdd, Nat.reduceLT, Nat.reduceSub, Nat.reduceMul, Int.reduceEq, Int.reduceLT, Int.reduceLE, Int.reduceNeg, Int.reduceToNat, List.reduceReplicate, Int.ofNat_le, List.getElem?_drop, h27']
    exact Gh.fin0 (keep_new σ _) ⟨trivial, trivial, trivial⟩ (hk _ _ (.inr (.inl ⟨hl, h27, rfl, rfl⟩)))
  have h27' : ¬ (27 : Int) < ipow p W.length := by omega
  have h27n : P ^ W.length ≤ 27 := by rw [hP, ipow_nat] at h27; omega
  simp only [pwA, if_true, if_false, eq_self, nm_eq, reduceCtorEq, ↓reduceIte, Nat.reduceEqDiff, Nat.reduceLeDiff, Nat.reduceBEq, Nat.reduceAdd, Nat.reduceLT, Nat.reduceSub, Nat.reduceMul, Int.reduceEq, Int.reduceLT, Int.reduceLE, Int.reduceNeg, Int.reduceToNat, List.reduceReplicate, Int.ofNat_le, List.getElem?_drop, h27', mk24 (n := W.length) (by omega), mkL (n := W.length) (by omega)]
  refine vp_loop (fun m vs h' => ∃ (i : Nat) (rows : List PV), i ≤ W.length ∧ m = W.length - i ∧ vs = [.ptr σ.next 0, .int .i64 W.length, .sl (σ.next + 1) 0 W.length (.known W.length), .int .i64 i] ∧ h' = (σ.new [.int .i64 p, .fz wp ap W.length rp, vB]).new rows ∧ rows.length = W.length ∧ All2 FI (rows.take i) (List.replicate i (List.replicate W.length 0))) W.length ?_ ?_
  · exact ⟨0, _, by omega, by omega, rfl, rfl, by simp, by simpa using All2.nil _⟩
  rintro m vs h' ⟨i, rows, hi, rfl, rfl, rfl, hrl, hall⟩
  simp only [pwA, if_true, if_false, eq_self, nm_eq, reduceCtorEq, ↓reduceIte, Nat.reduceEqDiff, Nat.reduceLeDiff, Nat.reduceBEq, Nat.reduceAdd, Nat.reduceLT, Nat.reduceSub, Nat.reduceMul, Int.reduceEq, Int.reduceLT, Int.reduceLE, Int.reduceNeg, Int.reduceToNat, List.reduceReplicate, Int.ofNat_le, List.getElem?_drop]
  refine iteI (fun hlt => ?_) fun hge => ?_
  · have hilr : i < rows.length := by omega
    simp only [pwA, if_true, if_false, eq_self, nm_eq, reduceCtorEq, ↓reduceIte, Nat.reduceEqDiff, Nat.reduceLeDiff, Nat.reduceBEq, Nat.reduceAdd, Nat.reduceLT, Nat.reduceSub, Nat.reduceMul, Int.reduceEq, Int.reduceLT, Int.reduceLE, Int.reduceNeg, Int.reduceToNat, List.reduceReplicate, Int.ofNat_le, List.getElem?_drop]
    refine l31Zero_ok hRR rfl (by omega) fun vz => ?_
    have hwr : ((σ.new [.int .i64 p, .fz wp ap W.length rp, vB]).new rows).wr (σ.next + 1) i [.fz true vz W.length (pis (List.replicate W.length 0))] = some ((σ.new [.int .i64 p, .fz wp ap W.length rp, vB]).new (rows.set i (.fz true vz W.length (pis (List.replicate W.length 0))))) := by
      rw [obj_wr (cs := rows) (by simp only [pwA, if_true, if_false, eq_self, nm_eq, reduceCtorEq, ↓reduceIte, Nat.reduceEqDiff, Nat.reduceLeDiff, Nat.reduceBEq, Nat.reduceAdd, Nat.reduceLT, Nat.reduceSub, Nat.reduceMul, Int.reduceEq, Int.reduceLT, Int.reduceLE, Int.reduceNeg, Int.reduceToNat, List.reduceReplicate, Int.ofNat_le, List.getElem?_drop]), if_pos ⟨by rw [List.length_singleton]; omega, rfl⟩]
      rw [List.append_assoc, List.singleton_append, List.length_singleton, take_set _ hilr]
      congr 1
      exact pnew_set
    have hlt' : i < W.length := hlt
    simp only [pwA, if_true, if_false, eq_self, nm_eq, reduceCtorEq, ↓reduceIte, Nat.reduceEqDiff, Nat.reduceLeDiff, Nat.reduceBEq, Nat.reduceAdd, Nat.reduceLT, Nat.reduceSub, Nat.reduceMul, Int.reduceEq, Int.reduceLT, Int.reduceLE, Int.reduceNeg, Int.reduceToNat, List.reduceReplicate, Int.ofNat_le, List.getElem?_drop, hlt', hwr, wrapS hlt (by omega : W.length ≤ 4611686018427387904)]
    refine ⟨_, by omega, i + 1, _, by omega, rfl, rfl, rfl, by rw [List.length_set]; exact hrl, ?_⟩
    rw [List.replicate_succ', List.take_succ_eq_append_getElem (by rw [List.length_set]; exact hilr), List.getElem_set_self, List.take_set_of_le (Nat.le_refl _)]
    exact hall.snoc ⟨true, vz, by simp⟩
  · have hie : i = W.length := by omega
    subst hie
    simp only [pwA, if_true, if_false, eq_self, nm_eq, reduceCtorEq, ↓reduceIte, Nat.reduceEqDiff, Nat.reduceLeDiff, Nat.reduceBEq, Nat.reduceAdd, Nat.reduceLT, Nat.reduceSub, Nat.reduceMul, Int.reduceEq, Int.reduceLT, Int.reduceLE, Int.reduceNeg, Int.reduceToNat, List.reduceReplicate, Int.ofNat_le, List.getElem?_drop]
    rw [List.take_of_length_le (by omega)] at hall
    refine PCalls.frz (s := σ.next + 1) (cs := rows) (by simp only [pwA, if_true, if_false, eq_self, nm_eq, reduceCtorEq, ↓reduceIte, Nat.reduceEqDiff, Nat.reduceLeDiff, Nat.reduceBEq, Nat.reduceAdd, Nat.reduceLT, Nat.reduceSub, Nat.reduceMul, Int.reduceEq, Int.reduceLT, Int.reduceLE, Int.reduceNeg, Int.reduceToNat, List.reduceReplicate, Int.ofNat_le, List.getElem?_drop]) (hall.bI 0) fun o1 => ?_
    have hcap : capOK (.known W.length) W.length = true := by simp [capOK]
    simp only [sbs, sb, hcap, and_self, if_true, hB.sb, nm_eq]
    have hpad : padI W.length ([] : List (List Int)) = List.replicate W.length (List.replicate W.length 0) := by simp [padI]
    refine l34Count_ok hl hP h27n W.length _ _ (.fz wp ap W.length rp) vB _ [] [] hRR ⟨true, .sl o1 0 W.length (.known W.length), rows, by rw [hpad, List.length_replicate], by rw [hpad]; exact hall⟩ (by simp) (fun y hy => by cases hy) canon_nil rfl ?_
    simp only [pwA, if_true, if_false, eq_self, nm_eq, reduceCtorEq, ↓reduceIte, Nat.reduceEqDiff, Nat.reduceLeDiff, Nat.reduceBEq, Nat.reduceAdd, Nat.reduceLT, Nat.reduceSub, Nat.reduceMul, Int.reduceEq, Int.reduceLT, Int.reduceLE, Int.reduceNeg, Int.reduceToNat, List.reduceReplicate, Int.ofNat_le, List.getElem?_drop]
    exact Gh.fin0 (((keep_new σ _).new _).kill (by omega)) ⟨trivial, trivial, trivial⟩ (hk _ _ (.inr (.inr ⟨hl, h27, P, hP, rfl, rfl⟩)))
end Go.Proofs
namespace Go.Proofs
open Go.Ab
/-- loop.example/g01076/laws.FnExactCountLieAutomorphisms -/
def if5 : IFn := ⟨[0], [(.tmp 2)], (.seq (.region [1] [eI 1 (.box (.t 0)), qI 2 (.mv (.c (.bool false)))])
  (.seq (.region [1, 3] [qI 3 (.mv (.c (.int .i64 1048576)))])
  (.seq (.region [1, 3] [qI 9 (.load true 3 (.t 1)), qI 10 (.mv (.t 3)), eI 11 (.call 11 [(.t 9), (.t 10)]), qI 3 (.mv (.t 11))])
  (.seq (.seq (.region [1, 13] [qI 12 (.mv (.t 3)), qI 13 (.bin .lss .other (.t 12) (.c (.int .i64 0)))])
  (.cond (.t 13) (.seq (.region [2] [qI 2 (.mv (.c (.bool true)))])
  .ret) .skip))
  (.seq (.region [1, 4, 5] [qI 15 (.load true 3 (.t 1)), eI 16 (.call 13 [(.t 15)]), eI 17 (.call 23 [(.t 16)]), qI 14 (.mv (.t 17)), qI 18 (.extract (.t 14) 0), qI 19 (.extract (.t 14) 1), qI 4 (.mv (.t 18)), qI 5 (.mv (.t 19))])
  (.seq (.region [1, 4, 5, 6] [qI 20 (.load true 3 (.t 1)), eI 21 (.call 13 [(.t 20)]), eI 6 (.alloc [(.int .i64 0), .nils, .nils]), nI (.store 3 (.t 6) (.t 21))])
  (.seq (.region [1, 4, 5, 6, 7, 8] [qI 23 (.load true 3 (.t 6)), eI 24 (.call 24 [(.t 23)]), qI 22 (.mv (.t 24)), qI 25 (.extract (.t 22) 0), qI 26 (.extract (.t 22) 1), qI 7 (.mv (.t 25)), qI 8 (.mv (.t 26))])
  (.seq (.seq (.region [1, 6, 34] [qI 27 (.mv (.t 7)), qI 28 (.mv (.t 4)), qI 29 (.bin .neq .other (.t 27) (.t 28)), qI 30 (.mv (.t 29)), ⟨(some 31), .mv (.t 8), true, (some (30, false))⟩, ⟨(some 32), .mv (.t 5), true, (some (30, false))⟩, ⟨(some 33), .bin .neq .other (.t 31) (.t 32), true, (some (30, false))⟩, qI 34 (.pick (.t 30) (.c (.bool true)) (.t 33))])
  (.cond (.t 34) (.seq (.region [2] [qI 2 (.mv (.c (.bool false)))])
  .ret) .skip))
  (.seq (.seq (.draw [39] [] [qD 35 (.load true 3 (.t 6)) 0, qD 36 (.load true 3 (.t 1)) 1, eD 37 (.call 13 [(.t 36)]) 2 [0], eD 38 (.call 17 [(.t 35), (.t 37)]) 3 [], qD 39 (.un .not (.t 38)) 4])
  (.cond (.t 39) (.seq (.region [2] [qI 2 (.mv (.c (.bool false)))])
  .ret) .skip))
  (.seq (.region [2] [qI 2 (.mv (.c (.bool true)))])
  .ret))))))))))⟩
theorem cf5 : cF Try.prog Try.f5 = some if5 := by kernel_rfl
end Go.Proofs
