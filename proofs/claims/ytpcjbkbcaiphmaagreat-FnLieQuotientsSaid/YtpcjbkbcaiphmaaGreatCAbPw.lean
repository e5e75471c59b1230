/- THE RULES BY WHICH CODE IS WALKED over values without a heap: equations, and the one name 'pw' for all of them. Written by a program. -/
import Derived.Test.YtpcjbkbcaiphmaaGreatCAbPg
import Derived.Test.YtpcjbkbcaiphmaaGreatCAbAid
set_option linter.unusedVariables false
set_option linter.unusedSimpArgs false
set_option linter.defProp false
namespace Go.Ab
section
variable {P : Program} {Q : Exit → PEnv → PHeap → Prop} {e : PEnv} {h : PHeap} {K : PEnv → PHeap → Prop} {KA : PV → PHeap → Prop} {nb nr : Nat}
theorem vp_skip : vp P .skip Q e h = Q .normal e h := rfl
theorem vp_region (S : List Nat) (its : List II) : vp P (.region S its) Q e h = RVp P its e h fun e' h' => Q .normal (PEnv.mk S (S.map e')) h' := rfl
theorem vp_draw (S : List Nat) (zs : List (List AV)) (its : List DI) : vp P (.draw S zs its) Q e h = DVp P h.next zs.length its [] e (h.news zs) fun e' h' => Q .normal (PEnv.mk S (S.map e')) h' := rfl
theorem vp_seq (a b : IC) : vp P (.seq a b) Q e h = vp P a (fun x e' h' => match x with | .normal => vp P b Q e' h' | x => Q x e' h') e h := rfl
theorem vp_cond (c : IX) (a b : IC) : vp P (.cond c a b) Q e h = pcondK (c.pv e) (vp P a Q e h) (vp P b Q e h) := rfl
theorem vp_block (id : Nat) (c : IC) : vp P (.block id c) Q e h = vp P c (fun x e' h' => match x with | .exit id' => if id' = id then Q .normal e' h' else Q (.exit id') e' h' | x => Q x e' h') e h := rfl
theorem vp_exit (id : Nat) : vp P (.exit id) Q e h = Q (.exit id) e h := rfl
theorem vp_ret : vp P .ret Q e h = Q .ret e h := rfl
theorem RVp_nil : RVp P [] e h K = K e h := rfl
theorem RVp_q (d : Option Nat) (op : IOp) (g : Option (Nat × Bool)) (r : List II) : RVp P (⟨d, op, true, g⟩ :: r) e h K = optK (gqp 0 0 ⟨d, op, true, g⟩ e h) fun v => RVp P r (e.put d v) h K := rfl
theorem RVp_e (d : Option Nat) (op : IOp) (g : Option (Nat × Bool)) (r : List II) : RVp P (⟨d, op, false, g⟩ :: r) e h K = gep P ⟨d, op, false, g⟩ e h fun v h' => RVp P r (e.put d v) h' K := rfl
theorem DVp_nil (recs : List RecP) : DVp P nb nr [] recs e h K = K e h := rfl
theorem DVp_q (d : Option Nat) (op : IOp) (g : Option (Nat × Bool)) (i : Nat) (c : List Nat) (r : List DI) (recs : List RecP) : DVp P nb nr (⟨⟨d, op, true, g⟩, i, c⟩ :: r) recs e h K = optK (gqp nb nr ⟨d, op, true, g⟩ e h) fun v => DVp P nb nr r (recOfP ⟨⟨d, op, true, g⟩, i, c⟩ e v ++ recs) (e.put d v) h K := rfl
theorem DVp_e (d : Option Nat) (op : IOp) (g : Option (Nat × Bool)) (i : Nat) (c : List Nat) (r : List DI) (recs : List RecP) : DVp P nb nr (⟨⟨d, op, false, g⟩, i, c⟩ :: r) recs e h K = gep P ⟨d, op, false, g⟩ e h fun v h' => RecOKP c recs h' ∧ DVp P nb nr r recs (e.put d v) h' K := rfl
theorem gqp_none (d : Option Nat) (op : IOp) (q : Bool) : gqp nb nr ⟨d, op, q, none⟩ e h = qp nb nr op e h := rfl
theorem gqp_some (d : Option Nat) (op : IOp) (q : Bool) (t : Nat) (b : Bool) : gqp nb nr ⟨d, op, q, some (t, b)⟩ e h = pguardO (e t) b (qp nb nr op e h) := rfl
theorem gep_none (d : Option Nat) (op : IOp) (q : Bool) : gep P ⟨d, op, q, none⟩ e h KA = ep P op e h KA := rfl
theorem gep_some (d : Option Nat) (op : IOp) (q : Bool) (t : Nat) (b : Bool) : gep P ⟨d, op, q, some (t, b)⟩ e h KA = pguardK (e t) b (ep P op e h KA) (KA (.tup []) h) := rfl
theorem pcondK_true (a b : Prop) : pcondK (.bool true) a b = a := rfl
theorem pcondK_false (a b : Prop) : pcondK (.bool false) a b = b := rfl
theorem pcondK_dec (c : Prop) [Decidable c] (a b : Prop) : pcondK (.bool (decide c)) a b = if c then a else b := by by_cases x : c <;> simp [pcondK, x]
theorem pcondK_ndec (c : Prop) [Decidable c] (a b : Prop) : pcondK (.bool (!decide c)) a b = if c then b else a := by by_cases x : c <;> simp [pcondK, x]
theorem pguardK_bool (c b : Bool) (x y : Prop) : pguardK (.bool c) b x y = if c = b then x else y := rfl
theorem pguardO_bool (c b : Bool) (x : Option PV) : pguardO (.bool c) b x = if c = b then x else some (.tup []) := rfl
theorem pguardO_skip (b : Bool) (x : Option PV) : pguardO (.tup []) b x = some (.tup []) := rfl
theorem pguardK_skip (b : Bool) (x y : Prop) : pguardK (.tup []) b x y = y := rfl
theorem pv_t (n : Nat) : (IX.t n).pv e = e n := rfl
theorem pv_c (v : AV) : (IX.c v).pv e = ofAV v := rfl
theorem pmk_cons (s : Nat) (S : List Nat) (v : PV) (vs : List PV) (t : Nat) : PEnv.mk (s :: S) (v :: vs) t = if t = s then v else PEnv.mk S vs t := rfl
theorem pput_some (d : Nat) (v : PV) (t : Nat) : e.put (some d) v t = if t = d then v else e t := rfl
theorem pput_none (v : PV) : e.put none v = e := rfl
theorem qp_mv (x : IX) : qp nb nr (.mv x) e h = some (x.pv e) := rfl
theorem qp_pick (c a b : IX) : qp nb nr (.pick c a b) e h = pPick (c.pv e) (a.pv e) (b.pv e) := rfl
theorem qp_bin (op : BinOp) (ek : EqK) (x y : IX) : qp nb nr (.bin op ek x y) e h = pbin op ek (x.pv e) (y.pv e) := rfl
theorem qp_un (op : UnOp) (x : IX) : qp nb nr (.un op x) e h = pun op (x.pv e) := rfl
theorem qp_conv (k : IntKind) (x : IX) : qp nb nr (.conv k x) e h = pConv k (x.pv e) := rfl
theorem qp_nilCheck (x : IX) : qp nb nr (.nilCheck x) e h = pNil (x.pv e) := rfl
theorem qp_build (z : List AV) (ps : List (Nat × Nat × IX)) : qp nb nr (.build z ps) e h = (pfill (ofAVs z) (ps.map fun p => (p.1, p.2.1, p.2.2.pv e))).map .agg := rfl
theorem qp_field (a : Bool) (n off : Nat) (x : IX) : qp nb nr (.field a n off x) e h = pField a n off (x.pv e) := rfl
theorem qp_fieldAddr (off : Nat) (x : IX) : qp nb nr (.fieldAddr off x) e h = pFieldAddr off (x.pv e) := rfl
theorem qp_indexAddr (sz : Nat) (x i : IX) : qp nb nr (.indexAddr sz x i) e h = pIndex sz (x.pv e) (i.pv e) := rfl
theorem qp_indexStr (x i : IX) : qp nb nr (.indexStr x i) e h = pIdxStr (x.pv e) (i.pv e) := rfl
theorem qp_extract (x : IX) (i : Nat) : qp nb nr (.extract x i) e h = pExtract (x.pv e) i := rfl
theorem qp_len (x : IX) : qp nb nr (.len x) e h = pLen (x.pv e) := rfl
theorem qp_lenStr (x : IX) : qp nb nr (.lenStr x) e h = pLenStr (x.pv e) := rfl
theorem qp_cap (x : IX) : qp nb nr (.cap x) e h = pCap (x.pv e) := rfl
theorem qp_slice (sz : Nat) (x : IX) (lo hi mx : Option IX) : qp nb nr (.slice sz x lo hi mx) e h = pslice sz (x.pv e) (lo.map (·.pv e)) (hi.map (·.pv e)) (mx.map (·.pv e)) := rfl
theorem qp_sliceStr (x : IX) (lo hi : Option IX) : qp nb nr (.sliceStr x lo hi) e h = psliceStr (x.pv e) (lo.map (·.pv e)) (hi.map (·.pv e)) := rfl
theorem qp_maxmin (mx : Bool) (x y : IX) : qp nb nr (.maxmin mx x y) e h = pMaxmin mx (x.pv e) (y.pv e) := rfl
theorem qp_makeFunc (f : FuncId) (a b : List IX) : qp nb nr (.makeFunc f a b) e h = some (.clo f (a.map (·.pv e)) (b.map (·.pv e))) := rfl
theorem qp_load (a : Bool) (n : Nat) (x : IX) : qp nb nr (.load a n x) e h = pldv a n (x.pv e) h := rfl
theorem qp_rev (k : Nat) : qp nb nr (.rev k) e h = if k < nr then some (.ptr (nb + k) 0) else none := rfl
theorem ep_alloc (z : List AV) : ep P (.alloc z) e h KA = KA (.ptr h.next 0) (h.new (ofAVs z)) := rfl
theorem ep_box (x : IX) : ep P (.box x) e h KA = ((x.pv e).cells.all PV.one = true ∧ KA (.ptr h.next 0) (h.new (x.pv e).cells)) := rfl
theorem ep_buildSl (sz len : Nat) (z : List AV) (ps : List (Nat × Nat × IX)) : ep P (.buildSl sz len z ps) e h KA = optK (pfill (ofAVs (zeros z len)) (ps.map fun p => (p.1, p.2.1, p.2.2.pv e))) fun cs => KA (.sl h.next 0 len (.known len)) (h.new cs) := rfl
def pStore (n : Nat) (x v : PV) (h : PHeap) (KA : PV → PHeap → Prop) : Prop :=
  match x with
  | .ptr s i => v.cells.length = n ∧ optK (h.wr s i v.cells) fun h' => KA .undef h'
  | _ => False
def pMake (sz bytes : Nat) (z : List AV) (l c : PV) (h : PHeap) (KA : PV → PHeap → Prop) : Prop :=
  match l, c with
  | .int _ l, .int _ c => (0 ≤ l ∧ l ≤ c ∧ c * bytes ≤ 140737488355328 ∧ c ≤ 9223372036854775807) ∧ KA (.sl h.next 0 l.toNat (.known c.toNat)) (h.new (ofAVs (zeros z c.toNat)))
  | _, _ => False
def pAppMk (sz bytes : Nat) (z : List AV) (s n : PV) (h : PHeap) (KA : PV → PHeap → Prop) : Prop :=
  match s, n with
  | .fz _ .nils _ _, .int _ n => (0 < n ∧ n * bytes ≤ 140737488355328 ∧ n ≤ 4611686018427387904) ∧ KA (.sl h.next 0 n.toNat (.grown sz)) (h.new (ofAVs (zeros z n.toNat)))
  | _, _ => False
def pCallV (P : Program) (f : PV) (args : List PV) (h : PHeap) (KA : PV → PHeap → Prop) : Prop :=
  match f with
  | .clo f first caps => okF P f = true ∧ PCalls P f (first ++ args ++ caps) h KA
  | _ => False
theorem ep_store (n : Nat) (x v : IX) : ep P (.store n x v) e h KA = pStore n (x.pv e) (v.pv e) h KA := rfl
theorem pStore_ptr (n s i : Nat) (v : PV) : pStore n (.ptr s i) v h KA = (v.cells.length = n ∧ optK (h.wr s i v.cells) fun h' => KA .undef h') := rfl
theorem ep_makeSl (sz bytes : Nat) (z : List AV) (l c : IX) : ep P (.makeSl sz bytes z l c) e h KA = pMake sz bytes z (l.pv e) (c.pv e) h KA := rfl
theorem ep_appendMk (sz bytes : Nat) (z : List AV) (s n : IX) : ep P (.appendMk sz bytes z s n) e h KA = pAppMk sz bytes z (s.pv e) (n.pv e) h KA := rfl
theorem pAppMk_nils (sz bytes : Nat) (z : List AV) (w : Bool) (l : Nat) (cs : List PV) (k : IntKind) (n : Int) : pAppMk sz bytes z (.fz w .nils l cs) (.int k n) h KA = ((0 < n ∧ n * bytes ≤ 140737488355328 ∧ n ≤ 4611686018427387904) ∧ KA (.sl h.next 0 n.toNat (.grown sz)) (h.new (ofAVs (zeros z n.toNat)))) := rfl
theorem pMake_int (sz bytes : Nat) (z : List AV) (k k' : IntKind) (l c : Int) : pMake sz bytes z (.int k l) (.int k' c) h KA = ((0 ≤ l ∧ l ≤ c ∧ c * bytes ≤ 140737488355328 ∧ c ≤ 9223372036854775807) ∧ KA (.sl h.next 0 l.toNat (.known c.toNat)) (h.new (ofAVs (zeros z c.toNat)))) := rfl
theorem ep_append (sz bytes : Nat) (s x : IX) : ep P (.append sz bytes s x) e h KA = optK (pappend sz bytes h (s.pv e) (x.pv e)) fun p => KA p.1 p.2 := rfl
theorem ep_copy (sz : Nat) (d s : IX) : ep P (.copy sz d s) e h KA = optK (pcopy sz h (d.pv e) (s.pv e)) fun p => KA p.1 p.2 := rfl
theorem ep_call (f : FuncId) (args : List IX) : ep P (.call f args) e h KA = PCalls P f (args.map (·.pv e)) h KA := rfl
theorem ep_callV (f : IX) (args : List IX) : ep P (.callV f args) e h KA = pCallV P (f.pv e) (args.map (·.pv e)) h KA := rfl
theorem pCallV_clo (f : FuncId) (a b args : List PV) : pCallV P (.clo f a b) args h KA = (okF P f = true ∧ PCalls P f (a ++ args ++ b) h KA) := rfl
theorem of_undef : ofAV .undef = .undef := rfl
theorem of_bool (b : Bool) : ofAV (.bool b) = .bool b := rfl
theorem of_int (k : IntKind) (n : Int) : ofAV (.int k n) = .int k n := rfl
theorem of_str (s : List UInt8) : ofAV (.str s) = .str s := rfl
theorem of_nilp : ofAV .nilp = .nilp := rfl
theorem of_nilf : ofAV .nilf = .nilf := rfl
theorem of_nils : ofAV .nils = .fz true .nils 0 [] := rfl
theorem of_clo (f : FuncId) (a b : List AV) : ofAV (.clo f a b) = .clo f (ofAVs a) (ofAVs b) := rfl
theorem of_agg (a : List AV) : ofAV (.agg a) = .agg (ofAVs a) := rfl
theorem ofs_nil : ofAVs [] = [] := rfl
theorem ofs_cons (c : AV) (cs : List AV) : ofAVs (c :: cs) = ofAV c :: ofAVs cs := rfl
theorem ofs_rep (n : Nat) (c : AV) : ofAVs (List.replicate n c) = List.replicate n (ofAV c) := by rw [ofAVs_map, List.map_replicate]
theorem pbin_add (k : IntKind) (ek : EqK) (a b : Int) : pbin .add ek (.int k a) (.int k b) = some (.int k (k.wrap (a + b))) := by simp [pbin, abin, aint, ofAV]
theorem pbin_sub (k : IntKind) (ek : EqK) (a b : Int) : pbin .sub ek (.int k a) (.int k b) = some (.int k (k.wrap (a - b))) := by simp [pbin, abin, aint, ofAV]
theorem pbin_mul (k : IntKind) (ek : EqK) (a b : Int) : pbin .mul ek (.int k a) (.int k b) = some (.int k (k.wrap (a * b))) := by simp [pbin, abin, aint, ofAV]
theorem pbin_eql (k : IntKind) (ek : EqK) (a b : Int) : pbin .eql ek (.int k a) (.int k b) = some (.bool (decide (a = b))) := by simp [pbin, abin, aint, ofAV]
theorem pbin_neq (k : IntKind) (ek : EqK) (a b : Int) : pbin .neq ek (.int k a) (.int k b) = some (.bool (!decide (a = b))) := by simp [pbin, abin, aint, ofAV]
theorem pbin_lss (k : IntKind) (ek : EqK) (a b : Int) : pbin .lss ek (.int k a) (.int k b) = some (.bool (decide (a < b))) := by simp [pbin, abin, aint, ofAV]
theorem pbin_leq (k : IntKind) (ek : EqK) (a b : Int) : pbin .leq ek (.int k a) (.int k b) = some (.bool (decide (a ≤ b))) := by simp [pbin, abin, aint, ofAV]
theorem pbin_gtr (k : IntKind) (ek : EqK) (a b : Int) : pbin .gtr ek (.int k a) (.int k b) = some (.bool (decide (b < a))) := by simp [pbin, abin, aint, ofAV]
theorem pbin_geq (k : IntKind) (ek : EqK) (a b : Int) : pbin .geq ek (.int k a) (.int k b) = some (.bool (decide (b ≤ a))) := by simp [pbin, abin, aint, ofAV]
theorem pbin_quo (k : IntKind) (ek : EqK) (a b : Int) : pbin .quo ek (.int k a) (.int k b) = if b = 0 then none else some (.int k (k.wrap (a.tdiv b))) := by simp only [pbin, abin, aint, if_true]; split <;> rfl
theorem pbin_rem (k : IntKind) (ek : EqK) (a b : Int) : pbin .rem ek (.int k a) (.int k b) = if b = 0 then none else some (.int k (a.tmod b)) := by simp only [pbin, abin, aint, if_true]; split <;> rfl
theorem pbin_aggeq (n : Nat) (xs ys : List PV) : pbin .eql (.ints n) (.agg xs) (.agg ys) = if xs.length = n ∧ ys.length = n then (paggB xs ys).bind fun r => some (.bool r) else none := rfl
theorem paggB_nil : paggB [] [] = some true := rfl
theorem paggB_cons (k : IntKind) (a b : Int) (xs ys : List PV) : paggB (.int k a :: xs) (.int k b :: ys) = (paggB xs ys).map fun r => decide (a = b) && r := by simp [paggB]
theorem pbin_beql (a b : Bool) : pbin .eql .bool (.bool a) (.bool b) = some (.bool (a == b)) := rfl
theorem pbin_bneq (a b : Bool) : pbin .neq .bool (.bool a) (.bool b) = some (.bool !(a == b)) := rfl
theorem pbin_fznil (w w' : Bool) (a : AV) (n n' : Nat) (cs cs' : List PV) : pbin .eql .slice (.fz w a n cs) (.fz w' .nils n' cs') = some (.bool (isNils a)) := rfl
theorem pbin_fznilx (w w' : Bool) (a : AV) (n n' : Nat) (cs cs' : List PV) : pbin .neq .slice (.fz w a n cs) (.fz w' .nils n' cs') = some (.bool (!isNils a)) := rfl
theorem pbin_slnil (s o n : Nat) (c : Cap) (w' : Bool) (n' : Nat) (cs' : List PV) : pbin .eql .slice (.sl s o n c) (.fz w' .nils n' cs') = some (.bool false) := rfl
theorem pbin_slnilx (s o n : Nat) (c : Cap) (w' : Bool) (n' : Nat) (cs' : List PV) : pbin .neq .slice (.sl s o n c) (.fz w' .nils n' cs') = some (.bool true) := rfl
theorem pbin_stradd (ek : EqK) (a b : List UInt8) : pbin .add ek (.str a) (.str b) = if a.length + b.length ≤ 9223372036854775807 then some (.str (a ++ b)) else none := by simp only [pbin, astr]; split <;> rfl
theorem pbin_streql (ek : EqK) (a b : List UInt8) : pbin .eql ek (.str a) (.str b) = some (.bool (a == b)) := rfl
theorem pbin_strneq (ek : EqK) (a b : List UInt8) : pbin .neq ek (.str a) (.str b) = some (.bool !(a == b)) := rfl
theorem isNils_nils : isNils .nils = true := rfl
theorem isNils_sl (o f n : Nat) (c : Cap) : isNils (.sl o f n c) = false := rfl
theorem pun_neg (k : IntKind) (n : Int) : pun .neg (.int k n) = some (.int k (k.wrap (0 - n))) := rfl
theorem pun_not (b : Bool) : pun .not (.bool b) = some (.bool !b) := rfl
theorem pPick_true (a b : PV) : pPick (.bool true) a b = some a := rfl
theorem pPick_false (a b : PV) : pPick (.bool false) a b = some b := rfl
theorem pConv_int (k k' : IntKind) (n : Int) : pConv k (.int k' n) = some (.int k (k.wrap n)) := rfl
theorem pNil_ptr (s i : Nat) : pNil (.ptr s i) = some (.ptr s i) := rfl
theorem pNil_clo (f : FuncId) (a b : List PV) : pNil (.clo f a b) = some (.clo f a b) := rfl
theorem pNil_fp (a : AV) (c : PV) (cs : List PV) : pNil (.fp a (c :: cs)) = some (.fp a (c :: cs)) := rfl
theorem pField_agg (n off : Nat) (cs : List PV) : pField true n off (.agg cs) = some (.agg ((cs.drop off).take n)) := rfl
theorem pField_one (n off : Nat) (cs : List PV) : pField false n off (.agg cs) = cs[off]? := rfl
theorem pFieldAddr_ptr (off s i : Nat) : pFieldAddr off (.ptr s i) = some (.ptr s (i + off)) := rfl
theorem pFieldAddr_fp (off : Nat) (a : AV) (c : PV) (cs : List PV) : pFieldAddr off (.fp a (c :: cs)) = some (.fp (pAdd a off) ((c :: cs).drop off)) := rfl
theorem pIndex_sl (sz s off len : Nat) (c : Cap) (k : IntKind) (n : Int) : pIndex sz (.sl s off len c) (.int k n) = if 0 ≤ n ∧ n < len then some (.ptr s (off + n.toNat * sz)) else none := rfl
theorem pIndex_fz (sz : Nat) (w : Bool) (a : AV) (len : Nat) (cs : List PV) (k : IntKind) (n : Int) : pIndex sz (.fz w a len cs) (.int k n) = if 0 ≤ n ∧ n < len then some (.fp (pAt a (n.toNat * sz)) (cs.drop (n.toNat * sz))) else none := rfl
theorem pIdxStr_str (s : List UInt8) (k : IntKind) (n : Int) : pIdxStr (.str s) (.int k n) = if 0 ≤ n then (s[n.toNat]?).map fun c => .int .u8 c.toNat else none := rfl
theorem pExtract_tup (vs : List PV) (i : Nat) : pExtract (.tup vs) i = vs[i]? := rfl
theorem pLen_fz (w : Bool) (a : AV) (n : Nat) (cs : List PV) : pLen (.fz w a n cs) = some (.int .i64 n) := rfl
theorem pLen_sl (s o n : Nat) (c : Cap) : pLen (.sl s o n c) = some (.int .i64 n) := rfl
theorem pLenStr_str (s : List UInt8) : pLenStr (.str s) = some (.int .i64 s.length) := rfl
theorem pCap_nils (w : Bool) (l : Nat) (cs : List PV) : pCap (.fz w .nils l cs) = some (.int .i64 0) := rfl
theorem pCap_sl (s o n c : Nat) : pCap (.sl s o n (.known c)) = some (.int .i64 c) := rfl
theorem pMaxmin_int (mx : Bool) (k : IntKind) (a b : Int) : pMaxmin mx (.int k a) (.int k b) = some (.int k (if mx = true then max a b else min a b)) := by simp [pMaxmin]
theorem pldv_ptr1 (n s i : Nat) : pldv false n (.ptr s i) h = h.rd1 s i := rfl
theorem pldv_ptrA (n s i : Nat) : pldv true n (.ptr s i) h = (h.rd s i n).map .agg := rfl
theorem pldv_fp1 (n : Nat) (a : AV) (cs : List PV) : pldv false n (.fp a cs) h = cs[0]? := rfl
theorem pldv_fpA (n : Nat) (a : AV) (cs : List PV) : pldv true n (.fp a cs) h = if 0 < n ∧ n ≤ cs.length then some (.agg (cs.take n)) else none := rfl
theorem pnews_nil : h.news [] = h := rfl
theorem pnews_cons (z : List AV) (zs : List (List AV)) : h.news (z :: zs) = (h.new (ofAVs z)).news zs := rfl
theorem RecOKP_nil (recs : List RecP) : RecOKP [] recs h = True := by
  apply propext; refine ⟨fun _ => trivial, fun _ => ?_⟩
  induction recs with
  | nil => trivial
  | cons r rs ih => exact ⟨by simp, ih⟩
theorem RecOKP_none (c : List Nat) : RecOKP c [] h = True := rfl
theorem RecOKP_cons (c : List Nat) (i : Nat) (a : Bool) (n : Nat) (x v : PV) (rs : List RecP) : RecOKP c (⟨i, a, n, x, v⟩ :: rs) h = ((if c.contains i = true then pldv a n x h = some v else True) ∧ RecOKP c rs h) := rfl
theorem recOfP_load (d : Option Nat) (a : Bool) (n : Nat) (x : IX) (g : Option (Nat × Bool)) (i : Nat) (c : List Nat) (v : PV) : recOfP ⟨⟨d, .load a n x, true, g⟩, i, c⟩ e v = if wantedP g e = true then [⟨i, a, n, x.pv e, v⟩] else [] := rfl
theorem recOfP_mv (d : Option Nat) (x : IX) (g : Option (Nat × Bool)) (i : Nat) (c : List Nat) (v : PV) : recOfP ⟨⟨d, (.mv x), true, g⟩, i, c⟩ e v = [] := rfl
theorem recOfP_pick (d : Option Nat) (x y z : IX) (g : Option (Nat × Bool)) (i : Nat) (c : List Nat) (v : PV) : recOfP ⟨⟨d, (.pick x y z), true, g⟩, i, c⟩ e v = [] := rfl
theorem recOfP_bin (d : Option Nat) (op : BinOp) (ek : EqK) (x y : IX) (g : Option (Nat × Bool)) (i : Nat) (c : List Nat) (v : PV) : recOfP ⟨⟨d, (.bin op ek x y), true, g⟩, i, c⟩ e v = [] := rfl
theorem recOfP_un (d : Option Nat) (op : UnOp) (x : IX) (g : Option (Nat × Bool)) (i : Nat) (c : List Nat) (v : PV) : recOfP ⟨⟨d, (.un op x), true, g⟩, i, c⟩ e v = [] := rfl
theorem recOfP_conv (d : Option Nat) (k : IntKind) (x : IX) (g : Option (Nat × Bool)) (i : Nat) (c : List Nat) (v : PV) : recOfP ⟨⟨d, (.conv k x), true, g⟩, i, c⟩ e v = [] := rfl
theorem recOfP_nilCheck (d : Option Nat) (x : IX) (g : Option (Nat × Bool)) (i : Nat) (c : List Nat) (v : PV) : recOfP ⟨⟨d, (.nilCheck x), true, g⟩, i, c⟩ e v = [] := rfl
theorem recOfP_build (d : Option Nat) (z : List AV) (ps : List (Nat × Nat × IX)) (g : Option (Nat × Bool)) (i : Nat) (c : List Nat) (v : PV) : recOfP ⟨⟨d, (.build z ps), true, g⟩, i, c⟩ e v = [] := rfl
theorem recOfP_field (d : Option Nat) (a : Bool) (n off : Nat) (x : IX) (g : Option (Nat × Bool)) (i : Nat) (c : List Nat) (v : PV) : recOfP ⟨⟨d, (.field a n off x), true, g⟩, i, c⟩ e v = [] := rfl
theorem recOfP_fieldAddr (d : Option Nat) (off : Nat) (x : IX) (g : Option (Nat × Bool)) (i : Nat) (c : List Nat) (v : PV) : recOfP ⟨⟨d, (.fieldAddr off x), true, g⟩, i, c⟩ e v = [] := rfl
theorem recOfP_indexAddr (d : Option Nat) (sz : Nat) (x y : IX) (g : Option (Nat × Bool)) (i : Nat) (c : List Nat) (v : PV) : recOfP ⟨⟨d, (.indexAddr sz x y), true, g⟩, i, c⟩ e v = [] := rfl
theorem recOfP_indexStr (d : Option Nat) (x y : IX) (g : Option (Nat × Bool)) (i : Nat) (c : List Nat) (v : PV) : recOfP ⟨⟨d, (.indexStr x y), true, g⟩, i, c⟩ e v = [] := rfl
theorem recOfP_extract (d : Option Nat) (x : IX) (j : Nat) (g : Option (Nat × Bool)) (i : Nat) (c : List Nat) (v : PV) : recOfP ⟨⟨d, (.extract x j), true, g⟩, i, c⟩ e v = [] := rfl
theorem recOfP_len (d : Option Nat) (x : IX) (g : Option (Nat × Bool)) (i : Nat) (c : List Nat) (v : PV) : recOfP ⟨⟨d, (.len x), true, g⟩, i, c⟩ e v = [] := rfl
theorem recOfP_lenStr (d : Option Nat) (x : IX) (g : Option (Nat × Bool)) (i : Nat) (c : List Nat) (v : PV) : recOfP ⟨⟨d, (.lenStr x), true, g⟩, i, c⟩ e v = [] := rfl
theorem recOfP_cap (d : Option Nat) (x : IX) (g : Option (Nat × Bool)) (i : Nat) (c : List Nat) (v : PV) : recOfP ⟨⟨d, (.cap x), true, g⟩, i, c⟩ e v = [] := rfl
theorem recOfP_slice (d : Option Nat) (sz : Nat) (x : IX) (lo hi mx : Option IX) (g : Option (Nat × Bool)) (i : Nat) (c : List Nat) (v : PV) : recOfP ⟨⟨d, (.slice sz x lo hi mx), true, g⟩, i, c⟩ e v = [] := rfl
theorem recOfP_sliceStr (d : Option Nat) (x : IX) (lo hi : Option IX) (g : Option (Nat × Bool)) (i : Nat) (c : List Nat) (v : PV) : recOfP ⟨⟨d, (.sliceStr x lo hi), true, g⟩, i, c⟩ e v = [] := rfl
theorem recOfP_maxmin (d : Option Nat) (mx : Bool) (x y : IX) (g : Option (Nat × Bool)) (i : Nat) (c : List Nat) (v : PV) : recOfP ⟨⟨d, (.maxmin mx x y), true, g⟩, i, c⟩ e v = [] := rfl
theorem recOfP_makeFunc (d : Option Nat) (f : FuncId) (y z : List IX) (g : Option (Nat × Bool)) (i : Nat) (c : List Nat) (v : PV) : recOfP ⟨⟨d, (.makeFunc f y z), true, g⟩, i, c⟩ e v = [] := rfl
theorem recOfP_rev (d : Option Nat) (j : Nat) (g : Option (Nat × Bool)) (i : Nat) (c : List Nat) (v : PV) : recOfP ⟨⟨d, (.rev j), true, g⟩, i, c⟩ e v = [] := rfl
theorem wantedP_none : wantedP none e = true := rfl
theorem wantedP_some (t : Nat) (b : Bool) : wantedP (some (t, b)) e = (match e t with | .bool c => decide (c = b) | _ => false) := rfl
theorem rvalsP_nil : rvalsP [] e h = some [] := rfl
theorem rvalsP_tmp (t : Nat) (r : List IRes) : rvalsP (.tmp t :: r) e h = (rvalsP r e h).map fun vs => e t :: vs := rfl
theorem rvalsP_cell (t : Nat) (a : Bool) (n : Nat) (r : List IRes) : rvalsP (.cell t a n :: r) e h = (pldv a n (e t) h).bind fun v => (rvalsP r e h).map fun vs => v :: vs := rfl
theorem retP_normal (res : List IRes) : retP res KA .normal e h = optK (rvalsP res e h) fun vs => KA (packP vs) h := rfl
theorem retP_ret (res : List IRes) : retP res KA .ret e h = optK (rvalsP res e h) fun vs => KA (packP vs) h := rfl
theorem packP_one (v : PV) : packP [v] = v := rfl
theorem packP_nil : packP [] = .tup [] := rfl
theorem packP_two (u v : PV) (r : List PV) : packP (u :: v :: r) = .tup (u :: v :: r) := rfl
theorem pfill_nil (cs : List PV) : pfill cs [] = some cs := rfl
theorem pfill_cons (cs : List PV) (off size : Nat) (v : PV) (r : List (Nat × Nat × PV)) : pfill cs ((off, size, v) :: r) = if v.cells.length = size ∧ off + size ≤ cs.length ∧ v.cells.all PV.one = true then pfill (cs.take off ++ v.cells ++ cs.drop (off + size)) r else none := rfl
theorem pcells_int (k : IntKind) (n : Int) : PV.cells (.int k n) = [(.int k n)] := rfl
theorem pone_int (k : IntKind) (n : Int) : PV.one (.int k n) = true := rfl
theorem pcells_bool (b : Bool) : PV.cells (.bool b) = [(.bool b)] := rfl
theorem pone_bool (b : Bool) : PV.one (.bool b) = true := rfl
theorem pcells_str (s : List UInt8) : PV.cells (.str s) = [(.str s)] := rfl
theorem pone_str (s : List UInt8) : PV.one (.str s) = true := rfl
theorem pcells_nilp : PV.cells .nilp = [.nilp] := rfl
theorem pone_nilp : PV.one .nilp = true := rfl
theorem pcells_nilf : PV.cells .nilf = [.nilf] := rfl
theorem pone_nilf : PV.one .nilf = true := rfl
theorem pcells_fz (w : Bool) (a : AV) (n : Nat) (cs : List PV) : PV.cells (.fz w a n cs) = [(.fz w a n cs)] := rfl
theorem pone_fz (w : Bool) (a : AV) (n : Nat) (cs : List PV) : PV.one (.fz w a n cs) = true := rfl
theorem pcells_fp (a : AV) (cs : List PV) : PV.cells (.fp a cs) = [(.fp a cs)] := rfl
theorem pone_fp (a : AV) (cs : List PV) : PV.one (.fp a cs) = true := rfl
theorem pcells_ptr (s i : Nat) : PV.cells (.ptr s i) = [(.ptr s i)] := rfl
theorem pone_ptr (s i : Nat) : PV.one (.ptr s i) = true := rfl
theorem pcells_sl (s o n : Nat) (c : Cap) : PV.cells (.sl s o n c) = [(.sl s o n c)] := rfl
theorem pone_sl (s o n : Nat) (c : Cap) : PV.one (.sl s o n c) = true := rfl
theorem pcells_clo (f : FuncId) (a b : List PV) : PV.cells (.clo f a b) = [(.clo f a b)] := rfl
theorem pone_clo (f : FuncId) (a b : List PV) : PV.one (.clo f a b) = true := rfl
theorem pcells_agg (cs : List PV) : PV.cells (.agg cs) = cs := rfl
theorem pbound_int (k : IntKind) (i : Int) (y : Nat) : pbound (.int k i) y = if 0 ≤ i ∧ i ≤ y then some i.toNat else none := rfl
theorem pobound_some (x : PV) (d y : Nat) : pobound (some x) d y = pbound x y := rfl
theorem pobound_none (d y : Nat) : pobound none d y = some d := rfl
theorem pslice_fz (sz : Nat) (w : Bool) (a : AV) (len : Nat) (cs : List PV) (lo hi : Option PV) : pslice sz (.fz w a len cs) lo hi none = (pobound hi len len).bind fun h => (pobound lo 0 h).bind fun l => some (.fz false (pslA sz a l h) (h - l) ((cs.drop (l * sz)).take ((h - l) * sz))) := rfl
theorem pslice_known (sz s off len c : Nat) (lo hi mx : Option PV) : pslice sz (.sl s off len (.known c)) lo hi mx = (pobound mx c c).bind fun m => (pobound hi len m).bind fun h => (pobound lo 0 h).bind fun l => if hi.isNone = true ∧ mx.isSome = true then none else some (.sl s (if m = l then off else off + l * sz) (h - l) (.known (m - l))) := rfl
theorem pslice_grown (sz s off len g : Nat) (lo hi : Option PV) : pslice sz (.sl s off len (.grown g)) lo hi none = (pobound hi len len).bind fun h => (pobound lo 0 h).bind fun l => some (.sl s (off + l * sz) (h - l) (.grown (if g = sz then g else 0))) := rfl
theorem psliceStr_str (s : List UInt8) (lo hi : Option PV) : psliceStr (.str s) lo hi = (pobound hi s.length s.length).bind fun h => (pobound lo 0 h).bind fun l => some (.str ((s.take h).drop l)) := rfl
theorem plen_fz (w : Bool) (a : AV) (n : Nat) (cs : List PV) : plen (.fz w a n cs) = some n := rfl
theorem plen_sl (s o n : Nat) (c : Cap) : plen (.sl s o n c) = some n := rfl
theorem pappend_eq (sz bytes : Nat) (s x : PV) : pappend sz bytes h s x = (plen x).bind fun m => if m = 0 then (psame s).map fun v => (v, h) else (pfirst sz h x m).bind fun news => pgrow sz bytes h s news m := rfl
theorem psame_known (s o n c : Nat) : psame (.sl s o n (.known c)) = if n ≤ c then some (.sl s o n (.known c)) else none := rfl
theorem pfirst_fz (sz : Nat) (w : Bool) (a : AV) (len : Nat) (cs : List PV) (n : Nat) : pfirst sz h (.fz w a len cs) n = if n = 0 then some [] else if n ≤ len ∧ n * sz ≤ cs.length ∧ 0 < sz then some (cs.take (n * sz)) else none := rfl
theorem pfirst_sl (sz s off len : Nat) (c : Cap) (n : Nat) : pfirst sz h (.sl s off len c) n = if n = 0 then some [] else if n ≤ len then h.rd s off (n * sz) else none := rfl
theorem pgrow_nils (sz bytes : Nat) (w : Bool) (n : Nat) (cs news : List PV) (m : Nat) : pgrow sz bytes h (.fz w .nils n cs) news m = if m * bytes ≤ 140737488355328 ∧ m ≤ 4611686018427387904 then some (.sl h.next 0 m (.grown sz), h.new news) else none := rfl
theorem pgrow_known (sz bytes s off len c : Nat) (news : List PV) (m : Nat) : pgrow sz bytes h (.sl s off len (.known c)) news m = if len + m ≤ c then (h.wr s (off + len * sz) news).map fun σ' => (.sl s off (len + m) (.known c), σ') else if (len + m) * bytes ≤ 140737488355328 ∧ len + m ≤ 4611686018427387904 then (h.rd s off (len * sz)).map fun old => (.sl h.next 0 (len + m) (.grown sz), h.new (old ++ news)) else none := rfl
theorem pgrow_grown (sz bytes s off len g : Nat) (news : List PV) (m : Nat) : pgrow sz bytes h (.sl s off len (.grown g)) news m = if (len + m) * bytes ≤ 140737488355328 ∧ len + m ≤ 4611686018427387904 ∧ g = sz then (h.obj s).bind fun cs => if off + len * sz ≤ cs.length then some (.sl h.next 0 (len + m) (.grown sz), (h.kill s).new ((cs.drop off).take (len * sz) ++ news)) else none else none := rfl
theorem prd1_new (cs : List PV) (s i : Nat) : (h.new cs).rd1 s i = if s = h.next then cs[i]? else h.rd1 s i := by by_cases x : s = h.next <;> simp [PHeap.rd1, PHeap.new, x]
theorem prd_new (cs : List PV) (s i n : Nat) : (h.new cs).rd s i n = if s = h.next then (if i + n ≤ cs.length then some ((cs.drop i).take n) else none) else h.rd s i n := by by_cases x : s = h.next <;> simp [PHeap.rd, PHeap.new, x]
theorem pobj_new (cs : List PV) (s : Nat) : (h.new cs).obj s = if s = h.next then some cs else h.obj s := rfl
theorem pwr_new (cs : List PV) (s i : Nat) (vs : List PV) : (h.new cs).wr s i vs = if s = h.next then (if i + vs.length ≤ cs.length ∧ vs.all PV.one = true then some (h.new (cs.take i ++ vs ++ cs.drop (i + vs.length))) else none) else (h.wr s i vs).map fun h' => h'.new cs := by
  by_cases x : s = h.next
  · subst x
    simp only [PHeap.wr, PHeap.new, if_true, Option.bind_some]
    split
    · congr 1
      simp only [PHeap.set]
      congr 1
      funext y
      by_cases hy : y = h.next <;> simp [hy]
    · rfl
  · simp only [PHeap.wr, PHeap.new, if_neg x]
    cases ho : h.obj s with
    | none => rfl
    | some ob =>
      simp only [Option.bind_some]
      split
      · simp only [Option.map_some, PHeap.set]
        congr 2
        funext y
        by_cases hy : y = s
        · subst hy; simp [x]
        · simp [hy]
      · rfl
theorem pnext_new (cs : List PV) : (h.new cs).next = h.next + 1 := rfl
theorem ptop_new (cs : List PV) : (h.new cs).top = h.top := rfl
theorem pset_new (cs : List PV) (s : Nat) (ds : List PV) : (h.new cs).set s ds = if s = h.next then h.new ds else (h.set s ds).new cs := by
  by_cases x : s = h.next
  · subst x
    rw [if_pos rfl]
    simp only [PHeap.set, PHeap.new]
    congr 1
    funext y
    by_cases hy : y = h.next <;> simp [hy]
  · rw [if_neg x]
    simp only [PHeap.set, PHeap.new]
    congr 1
    funext y
    by_cases hy : y = s
    · subst hy; simp [x]
    · simp [hy]
theorem pset_set (s : Nat) (cs ds : List PV) : (h.set s cs).set s ds = h.set s ds := by
  simp only [PHeap.set]
  congr 1
  funext y
  by_cases hy : y = s <;> simp [hy]
theorem pnext_set (s : Nat) (cs : List PV) : (h.set s cs).next = h.next := rfl
theorem pnext_kill (s : Nat) : (h.kill s).next = h.next := rfl
theorem pnext_up (t : Nat) : (h.up t).next = h.next := rfl
theorem ptop_up (t : Nat) : (h.up t).top = t := rfl
theorem pnew_up (t : Nat) (cs : List PV) : (h.up t).new cs = (h.new cs).up t := rfl
theorem prd1_up (t s i : Nat) : (h.up t).rd1 s i = h.rd1 s i := rfl
theorem prd_up (t s i n : Nat) : (h.up t).rd s i n = h.rd s i n := rfl
theorem pobj_up (t s : Nat) : (h.up t).obj s = h.obj s := rfl
theorem pwr_up (t s i : Nat) (vs : List PV) : (h.up t).wr s i vs = (h.wr s i vs).map fun h' => h'.up t := by
  simp only [PHeap.wr, PHeap.up]
  cases h.obj s with
  | none => rfl
  | some cs => simp only [Option.bind_some]; split <;> rfl
theorem pobj_kill (s t : Nat) : (h.kill s).obj t = if t = s then none else h.obj t := rfl
theorem pobj_set (s : Nat) (cs : List PV) (t : Nat) : (h.set s cs).obj t = if t = s then some cs else h.obj t := rfl
theorem prd1_kill (s t i : Nat) : (h.kill s).rd1 t i = if t = s then none else h.rd1 t i := by by_cases x : t = s <;> simp [PHeap.rd1, PHeap.kill, x]
theorem prd_kill (s t i n : Nat) : (h.kill s).rd t i n = if t = s then none else h.rd t i n := by by_cases x : t = s <;> simp [PHeap.rd, PHeap.kill, x]
theorem prd1_set (s : Nat) (cs : List PV) (t i : Nat) : (h.set s cs).rd1 t i = if t = s then cs[i]? else h.rd1 t i := by by_cases x : t = s <;> simp [PHeap.rd1, PHeap.set, x]
theorem prd_set (s : Nat) (cs : List PV) (t i n : Nat) : (h.set s cs).rd t i n = if t = s then (if i + n ≤ cs.length then some ((cs.drop i).take n) else none) else h.rd t i n := by by_cases x : t = s <;> simp [PHeap.rd, PHeap.set, x]
theorem pwr_set (s : Nat) (cs : List PV) (i : Nat) (vs : List PV) : (h.set s cs).wr s i vs = if i + vs.length ≤ cs.length ∧ vs.all PV.one = true then some (h.set s (cs.take i ++ vs ++ cs.drop (i + vs.length))) else none := by
  simp only [PHeap.wr, PHeap.set, if_true, Option.bind_some]
  split
  · congr 2
    funext y
    by_cases hy : y = s <;> simp [hy]
  · rfl
end
def pw0 := And.intro @vp_skip <| And.intro @vp_region <| And.intro @vp_draw <| And.intro @vp_seq <| And.intro @vp_cond <| And.intro @vp_block <| And.intro @vp_exit <| And.intro @vp_ret <| And.intro @RVp_nil <| And.intro @RVp_q <| And.intro @RVp_e <| And.intro @DVp_nil <| And.intro @DVp_q <| And.intro @DVp_e <| And.intro @gqp_none <| And.intro @gqp_some <| And.intro @gep_none <| And.intro @gep_some <| And.intro @pcondK_true <| And.intro @pcondK_false <| And.intro @pcondK_dec <| And.intro @pcondK_ndec <| And.intro @pguardK_bool <| And.intro @pguardO_bool <| And.intro @pguardO_skip <| And.intro @pguardK_skip <| And.intro @pv_t <| And.intro @pv_c <| And.intro @pmk_cons <| @pput_some
def pw1 := And.intro @pput_none <| And.intro @qp_mv <| And.intro @qp_pick <| And.intro @qp_bin <| And.intro @qp_un <| And.intro @qp_conv <| And.intro @qp_nilCheck <| And.intro @qp_build <| And.intro @qp_field <| And.intro @qp_fieldAddr <| And.intro @qp_indexAddr <| And.intro @qp_indexStr <| And.intro @qp_extract <| And.intro @qp_len <| And.intro @qp_lenStr <| And.intro @qp_cap <| And.intro @qp_slice <| And.intro @qp_sliceStr <| And.intro @qp_maxmin <| And.intro @qp_makeFunc <| And.intro @qp_load <| And.intro @qp_rev <| And.intro @ep_alloc <| And.intro @ep_box <| And.intro @ep_buildSl <| And.intro @ep_store <| And.intro @pStore_ptr <| And.intro @ep_makeSl <| And.intro @ep_appendMk <| @pAppMk_nils
def pw2 := And.intro @pMake_int <| And.intro @ep_append <| And.intro @ep_copy <| And.intro @ep_call <| And.intro @ep_callV <| And.intro @pCallV_clo <| And.intro @of_undef <| And.intro @of_bool <| And.intro @of_int <| And.intro @of_str <| And.intro @of_nilp <| And.intro @of_nilf <| And.intro @of_nils <| And.intro @of_clo <| And.intro @of_agg <| And.intro @ofs_nil <| And.intro @ofs_cons <| And.intro @ofs_rep <| And.intro @pbin_add <| And.intro @pbin_sub <| And.intro @pbin_mul <| And.intro @pbin_eql <| And.intro @pbin_neq <| And.intro @pbin_lss <| And.intro @pbin_leq <| And.intro @pbin_gtr <| And.intro @pbin_geq <| And.intro @pbin_quo <| And.intro @pbin_rem <| @pbin_aggeq
def pw3 := And.intro @paggB_nil <| And.intro @paggB_cons <| And.intro @pbin_beql <| And.intro @pbin_bneq <| And.intro @pbin_fznil <| And.intro @pbin_fznilx <| And.intro @pbin_slnil <| And.intro @pbin_slnilx <| And.intro @pbin_stradd <| And.intro @pbin_streql <| And.intro @pbin_strneq <| And.intro @isNils_nils <| And.intro @isNils_sl <| And.intro @pun_neg <| And.intro @pun_not <| And.intro @pPick_true <| And.intro @pPick_false <| And.intro @pConv_int <| And.intro @pNil_ptr <| And.intro @pNil_clo <| And.intro @pNil_fp <| And.intro @pField_agg <| And.intro @pField_one <| And.intro @pFieldAddr_ptr <| And.intro @pFieldAddr_fp <| And.intro @pIndex_sl <| And.intro @pIndex_fz <| And.intro @pIdxStr_str <| And.intro @pExtract_tup <| @pLen_fz
def pw4 := And.intro @pLen_sl <| And.intro @pLenStr_str <| And.intro @pCap_nils <| And.intro @pCap_sl <| And.intro @pMaxmin_int <| And.intro @pldv_ptr1 <| And.intro @pldv_ptrA <| And.intro @pldv_fp1 <| And.intro @pldv_fpA <| And.intro @pnews_nil <| And.intro @pnews_cons <| And.intro @RecOKP_nil <| And.intro @RecOKP_none <| And.intro @RecOKP_cons <| And.intro @recOfP_load <| And.intro @recOfP_mv <| And.intro @recOfP_pick <| And.intro @recOfP_bin <| And.intro @recOfP_un <| And.intro @recOfP_conv <| And.intro @recOfP_nilCheck <| And.intro @recOfP_build <| And.intro @recOfP_field <| And.intro @recOfP_fieldAddr <| And.intro @recOfP_indexAddr <| And.intro @recOfP_indexStr <| And.intro @recOfP_extract <| And.intro @recOfP_len <| And.intro @recOfP_lenStr <| @recOfP_cap
def pw5 := And.intro @recOfP_slice <| And.intro @recOfP_sliceStr <| And.intro @recOfP_maxmin <| And.intro @recOfP_makeFunc <| And.intro @recOfP_rev <| And.intro @wantedP_none <| And.intro @wantedP_some <| And.intro @rvalsP_nil <| And.intro @rvalsP_tmp <| And.intro @rvalsP_cell <| And.intro @retP_normal <| And.intro @retP_ret <| And.intro @packP_one <| And.intro @packP_nil <| And.intro @packP_two <| And.intro @pfill_nil <| And.intro @pfill_cons <| And.intro @pcells_int <| And.intro @pone_int <| And.intro @pcells_bool <| And.intro @pone_bool <| And.intro @pcells_str <| And.intro @pone_str <| And.intro @pcells_nilp <| And.intro @pone_nilp <| And.intro @pcells_nilf <| And.intro @pone_nilf <| And.intro @pcells_fz <| And.intro @pone_fz <| @pcells_fp
def pw6 := And.intro @pone_fp <| And.intro @pcells_ptr <| And.intro @pone_ptr <| And.intro @pcells_sl <| And.intro @pone_sl <| And.intro @pcells_clo <| And.intro @pone_clo <| And.intro @pcells_agg <| And.intro @pbound_int <| And.intro @pobound_some <| And.intro @pobound_none <| And.intro @pslice_fz <| And.intro @pslice_known <| And.intro @pslice_grown <| And.intro @psliceStr_str <| And.intro @plen_fz <| And.intro @plen_sl <| And.intro @prd1_new <| And.intro @prd_new <| And.intro @pobj_new <| And.intro @pwr_new <| And.intro @pnext_new <| And.intro @ptop_new <| And.intro @pset_new <| And.intro @pset_set <| And.intro @pnext_set <| And.intro @pnext_kill <| And.intro @pnext_up <| And.intro @ptop_up <| @pnew_up
def pw7 := And.intro @prd1_up <| And.intro @prd_up <| And.intro @pobj_up <| And.intro @pwr_up <| And.intro @pobj_kill <| And.intro @pobj_set <| And.intro @prd1_kill <| And.intro @prd_kill <| And.intro @prd1_set <| And.intro @prd_set <| And.intro @pwr_set <| And.intro @optK_some <| And.intro @optK_none <| And.intro @optK_bind <| And.intro @optK_map <| And.intro @List.map_cons.{0, 0} <| And.intro @List.map_nil.{0, 0} <| And.intro @List.length_cons.{0} <| And.intro @List.length_nil.{0} <| And.intro @List.getElem?_cons_zero.{0} <| And.intro @List.getElem?_cons_succ.{0} <| And.intro @List.take_succ_cons.{0} <| And.intro @List.take_zero.{0} <| And.intro @List.drop_succ_cons.{0} <| And.intro @List.drop_zero.{0} <| And.intro @List.take_nil.{0} <| And.intro @List.drop_nil.{0} <| And.intro @List.nil_append.{0} <| And.intro @List.cons_append.{0} <| @List.append_nil.{0}
def pw8 := And.intro @List.all_cons.{0} <| And.intro @List.all_nil.{0} <| And.intro @List.contains_cons.{0} <| And.intro @List.contains_nil.{0} <| And.intro @Option.map_some.{0, 0} <| And.intro @Option.map_none.{0, 0} <| And.intro @Option.bind_some.{0, 0} <| And.intro @Option.bind_none.{0, 0} <| And.intro @decide_true <| And.intro @decide_false <| And.intro @Bool.not_true <| And.intro @Bool.not_false <| And.intro @Bool.and_true <| And.intro @Bool.true_and <| And.intro @Bool.and_self <| And.intro @Bool.or_false <| And.intro @Bool.or_true <| And.intro @Bool.true_or <| And.intro @Bool.false_or <| And.intro @true_and <| And.intro @and_true <| And.intro @Bool.true_eq_false <| And.intro @Bool.false_eq_true <| And.intro @Nat.left_eq_add <| And.intro @Nat.add_eq_left <| And.intro @Nat.succ_ne_self <| And.intro @Nat.one_ne_zero <| And.intro @Nat.add_left_cancel_iff <| And.intro @Nat.add_assoc <| @Nat.mul_one
def pw9 := And.intro @Nat.zero_add <| And.intro @Nat.add_zero <| And.intro @Nat.le_refl <| And.intro @Nat.lt_add_one <| And.intro @Int.toNat_natCast <| And.intro @Int.natCast_nonneg <| And.intro @Int.ofNat_lt <| And.intro @Int.le_refl <| And.intro @zeros_zero <| And.intro @zeros_one1 <| And.intro @zeros_single <| And.intro @Nat.one_mul <| @Nat.zero_mul
def pwA := And.intro pw0 <| And.intro pw1 <| And.intro pw2 <| And.intro pw3 <| And.intro pw4 <| And.intro pw5 <| And.intro pw6 <| And.intro pw7 <| And.intro pw8 pw9
end Go.Ab
