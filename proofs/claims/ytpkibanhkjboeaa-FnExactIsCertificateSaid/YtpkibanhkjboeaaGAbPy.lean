/- WHAT A VALUE READS AS; rules that look only at what comes next; loops. -/
import Derived.Test.YtpkibanhkjboeaaGAbPw
set_option linter.unusedVariables false
set_option linter.unusedSimpArgs false
namespace Go.Ab
section
variable {P : Program}
@[congr] theorem cg_vp {c : IC} {Q : Exit → PEnv → PHeap → Prop} {e e' : PEnv} {h h' : PHeap} (h1 : nm e = e') (h2 : h = h') : vp P c Q e h = vp P c Q e' h' := by rw [nm_eq] at h1; rw [h1, h2]
@[congr] theorem cg_RVp {its : List II} {K : PEnv → PHeap → Prop} {e e' : PEnv} {h h' : PHeap} (h1 : nm e = e') (h2 : h = h') : RVp P its e h K = RVp P its e' h' K := by rw [nm_eq] at h1; rw [h1, h2]
@[congr] theorem cg_DVp {nb nb' nr nr' : Nat} {its : List DI} {recs recs' : List RecP} {K : PEnv → PHeap → Prop} {e e' : PEnv} {h h' : PHeap} (h0 : nm nb = nb') (h4 : nr = nr') (h1 : recs = recs') (h2 : e = e') (h3 : h = h') : DVp P nb nr its recs e h K = DVp P nb' nr' its recs' e' h' K := by rw [nm_eq] at h0; rw [h0, h1, h2, h3, h4]
@[congr] theorem cg_gep {it : II} {K : PV → PHeap → Prop} {e e' : PEnv} {h h' : PHeap} (h1 : nm e = e') (h2 : h = h') : gep P it e h K = gep P it e' h' K := by rw [nm_eq] at h1; rw [h1, h2]
@[congr] theorem cg_ep {op : IOp} {K : PV → PHeap → Prop} {e e' : PEnv} {h h' : PHeap} (h1 : nm e = e') (h2 : h = h') : ep P op e h K = ep P op e' h' K := by rw [nm_eq] at h1; rw [h1, h2]
@[congr] theorem cg_PCalls {f : FuncId} {K : PV → PHeap → Prop} {args args' : List PV} {h h' : PHeap} (h1 : nm args = args') (h2 : h = h') : PCalls P f args h K = PCalls P f args' h' K := by rw [nm_eq] at h1; rw [h1, h2]
@[congr] theorem cg_pStore {n : Nat} {K : PV → PHeap → Prop} {x x' v v' : PV} {h h' : PHeap} (h0 : nm x = x') (h1 : v = v') (h2 : h = h') : pStore n x v h K = pStore n x' v' h' K := by rw [nm_eq] at h0; rw [h0, h1, h2]
@[congr] theorem cg_pMake {sz b : Nat} {z : List AV} {K : PV → PHeap → Prop} {x x' v v' : PV} {h h' : PHeap} (h0 : nm x = x') (h1 : v = v') (h2 : h = h') : pMake sz b z x v h K = pMake sz b z x' v' h' K := by rw [nm_eq] at h0; rw [h0, h1, h2]
@[congr] theorem cg_pAppMk {sz b : Nat} {z : List AV} {K : PV → PHeap → Prop} {x x' v v' : PV} {h h' : PHeap} (h0 : nm x = x') (h1 : v = v') (h2 : h = h') : pAppMk sz b z x v h K = pAppMk sz b z x' v' h' K := by rw [nm_eq] at h0; rw [h0, h1, h2]
@[congr] theorem cg_pCallV {K : PV → PHeap → Prop} {f f' : PV} {args args' : List PV} {h h' : PHeap} (h0 : nm f = f') (h1 : args = args') (h2 : h = h') : pCallV P f args h K = pCallV P f' args' h' K := by rw [nm_eq] at h0; rw [h0, h1, h2]
@[congr] theorem cg_pcondK {v v' : PV} {a b : Prop} (h0 : nm v = v') : pcondK v a b = pcondK v' a b := by rw [nm_eq] at h0; rw [h0]
@[congr] theorem cg_pguardK {v v' : PV} {b : Bool} {x y : Prop} (h0 : nm v = v') : pguardK v b x y = pguardK v' b x y := by rw [nm_eq] at h0; rw [h0]
end
/-- Cells of numbers. -/
def pis (xs : List Int) : List PV := xs.map (.int .i64)
theorem pis_length (xs : List Int) : (pis xs).length = xs.length := by simp [pis]
theorem pis_get (xs : List Int) (k : Nat) : (pis xs)[k]? = (xs[k]?).map (.int .i64) := by simp [pis]
theorem pis_set (xs : List Int) (k : Nat) (x : Int) : (pis xs).set k (.int .i64 x) = pis (xs.set k x) := by simp [pis, List.map_set]
theorem pis_take (xs : List Int) (k : Nat) : (pis xs).take k = pis (xs.take k) := by simp [pis, List.map_take]
theorem pis_rep (n : Nat) (x : Int) : List.replicate n (PV.int .i64 x) = pis (List.replicate n x) := by simp [pis]
theorem pis_bel (n : Nat) (xs : List Int) : Bels n (pis xs) := by
  induction xs with
  | nil => trivial
  | cons x xs ih => exact ⟨trivial, ih⟩
theorem pis_set_at {xs : List Int} {i : Nat} (hi : i < xs.length) {x : Int} : (pis xs).take i ++ [.int .i64 x] ++ (pis xs).drop (i + 1) = pis (xs.set i x) := by
  rw [← pis_set, List.set_eq_take_append_cons_drop, if_pos (by rw [pis_length]; exact hi), List.append_assoc, List.singleton_append]
theorem gi {α : Type} {xs : List α} {i : Nat} (hi : i < xs.length) : xs[i]? = some xs[i] := List.getElem?_eq_getElem hi
theorem mk8 {n : Nat} (h : n ≤ 4294967296) : (n : Int) * ((8 : Nat) : Int) ≤ 140737488355328 := by omega
theorem mk24 {n : Nat} (h : n ≤ 4294967296) : (n : Int) * ((24 : Nat) : Int) ≤ 140737488355328 := by omega
theorem mkL {n : Nat} (h : n ≤ 4294967296) : (n : Int) ≤ 9223372036854775807 := by omega
/-- A frozen slice of numbers. -/
def FI (v : PV) (xs : List Int) : Prop := ∃ w a, v = .fz w a xs.length (pis xs)
/-- A frozen slice of things of one cell. -/
def FL {α : Type} (R : PV → α → Prop) (v : PV) (xs : List α) : Prop := ∃ w a rows, v = .fz w a xs.length rows ∧ All2 R rows xs
abbrev FII : PV → List (List Int) → Prop := FL FI
abbrev FIII : PV → List (List (List Int)) → Prop := FL FII
theorem FI.one {v : PV} {xs : List Int} (h : FI v xs) : v.one = true := by obtain ⟨w, a, rfl⟩ := h; rfl
theorem FI.cells {v : PV} {xs : List Int} (h : FI v xs) : v.cells = [v] := by obtain ⟨w, a, rfl⟩ := h; rfl
theorem FI.bel {v : PV} {xs : List Int} (h : FI v xs) (n : Nat) : Bel n v := by obtain ⟨w, a, rfl⟩ := h; trivial
theorem FL.one {α : Type} {R : PV → α → Prop} {v : PV} {xs : List α} (h : FL R v xs) : v.one = true := by obtain ⟨w, a, r, rfl, _⟩ := h; rfl
theorem FL.cells {α : Type} {R : PV → α → Prop} {v : PV} {xs : List α} (h : FL R v xs) : v.cells = [v] := by obtain ⟨w, a, r, rfl, _⟩ := h; rfl
theorem FL.bel {α : Type} {R : PV → α → Prop} {v : PV} {xs : List α} (h : FL R v xs) (n : Nat) : Bel n v := by obtain ⟨w, a, r, rfl, _⟩ := h; trivial
theorem FI.sb {v : PV} {xs : List Int} (h : FI v xs) (s o : Nat) (cs : List PV) : sb s o cs v = v := by obtain ⟨w, a, rfl⟩ := h; rfl
theorem FL.sb {α : Type} {R : PV → α → Prop} {v : PV} {xs : List α} (h : FL R v xs) (s o : Nat) (cs : List PV) : sb s o cs v = v := by obtain ⟨w, a, r, rfl, _⟩ := h; rfl
theorem All2.rowI {rows : List PV} {xss : List (List Int)} (h : All2 FI rows xss) {k : Nat} (hk : k < xss.length) : ∃ w a, rows[k]? = some (.fz w a xss[k].length (pis xss[k])) := by
  obtain ⟨r, h1, w, a, rfl⟩ := h.get hk
  exact ⟨w, a, h1⟩
theorem All2.rowL {α : Type} {R : PV → α → Prop} {rows : List PV} {xss : List (List α)} (h : All2 (FL R) rows xss) {k : Nat} (hk : k < xss.length) : ∃ w a rs, rows[k]? = some (.fz w a xss[k].length rs) ∧ All2 R rs xss[k] := by
  obtain ⟨r, h1, w, a, rs, rfl, h2⟩ := h.get hk
  exact ⟨w, a, rs, h1, h2⟩
theorem All2.bels {α : Type} {R : PV → α → Prop} {n : Nat} {rows : List PV} {xs : List α} (h : All2 R rows xs) (hb : ∀ v x, R v x → Bel n v) : Bels n rows := by
  rw [Bels_iff]
  intro c hc
  obtain ⟨k, hk, rfl⟩ := List.mem_iff_getElem.1 hc
  exact hb _ _ (h.2 k _ (xs[k]'(by rw [← h.1]; exact hk)) (List.getElem?_eq_getElem hk) (List.getElem?_eq_getElem _))
theorem All2.bI {rows : List PV} {xs : List (List Int)} (h : All2 FI rows xs) (n : Nat) : Bels n rows := h.bels fun _ _ k => k.bel n
theorem All2.bL {α : Type} {R : PV → α → Prop} {rows : List PV} {xs : List (List α)} (h : All2 (FL R) rows xs) (n : Nat) : Bels n rows := h.bels fun _ _ k => k.bel n
theorem vp_loop {P : Program} {Q : Exit → PEnv → PHeap → Prop} {e : PEnv} {h : PHeap} {S : List Nat} {c : IC} (I : Nat → List PV → PHeap → Prop) (n : Nat) (h0 : I n (S.map e) h)
    (round : ∀ n vs h, I n vs h → vp P c (fun x e' h' => match x with | .normal => ∃ n', n' < n ∧ I n' (S.map e') h' | x => Q x e' h') (PEnv.mk S vs) h) : vp P (.loop S c) Q e h :=
  ⟨I, ⟨n, .here h0⟩, fun n vs h hI => vp_mono c (fun x e h k => by cases x <;> first | exact k.imp fun _ q => ⟨q.1, .here q.2⟩ | exact k) (round n vs h hI)⟩
theorem iteI {c : Prop} [Decidable c] {A B : Prop} (h1 : c → A) (h2 : ¬ c → B) : if c then A else B := by
  by_cases h : c
  · rw [if_pos h]; exact h1 h
  · rw [if_neg h]; exact h2 h
theorem pkt {K : PV → PHeap → Prop} {h : PHeap} {p : Prop} [Decidable p] (hk : K (.bool (decide p)) h) (hp : p) : K (.bool true) h := by
  rw [decide_eq_true hp] at hk; exact hk
theorem pkf {K : PV → PHeap → Prop} {h : PHeap} {p : Prop} [Decidable p] (hk : K (.bool (decide p)) h) (hp : ¬ p) : K (.bool false) h := by
  rw [decide_eq_false hp] at hk; exact hk
theorem pke {K : PV → PHeap → Prop} {h : PHeap} {p q : Prop} [Decidable p] [Decidable q] (hk : K (.bool (decide p)) h) (hp : p ↔ q) : K (.bool (decide q)) h := by
  have : decide q = decide p := decide_eq_decide.2 hp.symm
  rw [this]; exact hk
theorem keep_new (σ : PHeap) (cs : List PV) : Keep σ (σ.new cs) := (Keep.refl σ).new cs
theorem obj_rd1 {h : PHeap} {s : Nat} {cs : List PV} (ho : h.obj s = some cs) (i : Nat) : h.rd1 s i = cs[i]? := by simp [PHeap.rd1, ho]
/-- A slice to which more may be appended: all of its row, or a row that append made. -/
def full (e : Nat) (cap : Cap) (n : Nat) : Prop := cap = .grown e ∨ cap = .known n
theorem full.ok {e n : Nat} {cap : Cap} (h : full e cap n) : capOK cap n = true := by
  rcases h with rfl | rfl
  · rfl
  · simp [capOK]
/-- A call's new slot is frozen. -/
theorem PCalls.fz {P : Program} {f : FuncId} {args : List PV} {σ : PHeap} {K : PV → PHeap → Prop} {l e : Nat} {cs : List PV} (c : ∀ K' : PV → PHeap → Prop, (∀ cap, full e cap l → K' (.sl σ.next 0 l cap) (σ.new cs)) → PCalls P f args σ K') (hb : Bels 0 cs)
    (k : ∀ o cap, K (.fz true (.sl o 0 l cap) l cs) σ) : PCalls P f args σ K :=
  PCalls.gh (c _ fun cap hc => Gh.finF (keep_new σ cs) (by simp [PHeap.new]) (Nat.le_refl _) hb hc.ok fun o => k o cap)
abbrev qI (d : Nat) (o : IOp) : II := ⟨some d, o, true, none⟩
abbrev eI (d : Nat) (o : IOp) : II := ⟨some d, o, false, none⟩
abbrev nI (o : IOp) : II := ⟨none, o, false, none⟩
abbrev qD (d : Nat) (o : IOp) (i : Nat) : DI := ⟨⟨some d, o, true, none⟩, i, []⟩
abbrev eD (d : Nat) (o : IOp) (i : Nat) (c : List Nat) : DI := ⟨⟨some d, o, false, none⟩, i, c⟩
end Go.Ab
