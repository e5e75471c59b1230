/- LAWS OF THE ABSTRACT HEAP for plain reasoning: what stays, what a slice reads as, whose an object is, append to a slice that grows. -/
import Derived.Test.YtjlpbpfaihhamaaGreatBAbStep
set_option linter.unusedVariables false
set_option linter.unusedSimpArgs false
namespace Go.Ab
variable {P:Program} {h h' h'':AHeap}
theorem wrap64 {n:Int} (h1:-9223372036854775808≤n) (h2:n≤9223372036854775807):IntKind.i64.wrap n=n:=by
 rw [IntKind.wrap_i64];omega
def HWF (h:AHeap):Prop:=∀o,h.next≤o→h.obj o=none
structure Ext (h h':AHeap):Prop where
 next:h.next≤h'.next
 obj:∀o,o<h.next→h'.obj o=h.obj o
 wf:HWF h'
theorem Ext.refl (hw:HWF h):Ext h h:=⟨Nat.le_refl _,fun _ _=>rfl,hw⟩
theorem Ext.trans (a:Ext h h') (b:Ext h' h''):Ext h h'':=
 ⟨Nat.le_trans a.next b.next,fun o ho=>(b.obj o (Nat.lt_of_lt_of_le ho a.next)).trans (a.obj o ho),b.wf⟩
theorem HWF.lt (hw:HWF h) {o:Nat} {ob:AObj} (ho:h.obj o=some ob):o<h.next:=by
 rcases Nat.lt_or_ge o h.next with x|x
 ·exact x
 ·rw [hw o x]at ho;cases ho
theorem HWF.new (hw:HWF h) (ob:AObj):HWF (h.new ob):=by
 intro o ho;simp only [AHeap.new]at ho ⊢
 rw [if_neg (by omega)]
 exact hw o (by omega)
theorem HWF.set (hw:HWF h) {o:Nat} (ho:o<h.next) (cs:List AV):HWF (h.set o cs):=by
 intro x hx;simp only [AHeap.set]at hx ⊢
 rw [if_neg (by omega)]
 exact hw x hx
theorem HWF.kill (hw:HWF h) (o:Nat):HWF (h.kill o):=by
 intro x hx;simp only [AHeap.kill]at hx ⊢
 split
 ·rfl
 ·exact hw x hx
theorem zK2 (ob:AObj):(h.new ob).obj h.next=some ob:=by simp [AHeap.new]
theorem zCY {o:Nat} (ho:o≠h.next) (ob:AObj):(h.new ob).obj o=h.obj o:=by simp [AHeap.new,ho]
theorem qG (ob:AObj):(h.new ob).next=h.next+1:=rfl
theorem zCK (o:Nat) (cs:List AV):(h.set o cs).obj o=some ⟨true,cs⟩:=by simp [AHeap.set]
theorem zCJ {o o':Nat} (ho:o'≠o) (cs:List AV):(h.set o cs).obj o'=h.obj o':=by simp [AHeap.set,ho]
theorem zER {o o':Nat} (ho:o'≠o):(h.kill o).obj o'=h.obj o':=by simp [AHeap.kill,ho]
theorem set_set (o:Nat) (c d:List AV):(h.set o c).set o d=h.set o d:=by
 simp only [AHeap.set]
 congr 1
 funext x
 by_cases hx:x=o<;>simp [hx]
theorem set_self {o:Nat} {cs:List AV} (ho:h.obj o=some ⟨true,cs⟩):h.set o cs=h:=by
 cases h with
 | mk n f=>
  simp only [AHeap.set]
  congr 1
  funext x
  by_cases hx:x=o
  ·subst hx;simp at ho ⊢;exact ho.symm
  ·simp [hx]
theorem Ext.new (hw:HWF h) (ob:AObj):Ext h (h.new ob):=⟨by simp [AHeap.new],fun o ho=>zCY (by omega) _,hw.new ob⟩
theorem zC3 {o off n:Nat} {ob:AObj} (ho:h.obj o=some ob) (hl:off+n≤ob.cells.length):h.rd o off n=some ((ob.cells.drop off).take n):=by
 simp [AHeap.rd,ho,hl]
theorem Qw {o n:Nat} {ob:AObj} (ho:h.obj o=some ob) (hl:n=ob.cells.length):h.rd o 0 n=some ob.cells:=by
 subst hl;simp [AHeap.rd,ho]
theorem zCQ {o off n:Nat} (ho:h'.obj o=h.obj o):h'.rd o off n=h.rd o off n:=by simp [AHeap.rd,ho]
theorem ZO {o i:Nat} {ob:AObj} (ho:h.obj o=some ob):h.rd1 o i=ob.cells[i]?:=by simp [AHeap.rd1,ho]
theorem zLy {o off n k:Nat} {vs:List AV} (hr:h.rd o off n=some vs) (hk:k<n):h.rd1 o (off+k)=vs[k]?:=by
 obtain⟨ob,ho,hl,rfl⟩:=AHeap.rd_some hr;rw [ZO ho,List.getElem?_take,if_pos hk,List.getElem?_drop]
theorem zC2 {o off n a b:Nat} {vs:List AV} (hr:h.rd o off n=some vs) (hab:a+b≤n):h.rd o (off+a) b=some ((vs.drop a).take b):=by
 obtain⟨ob,ho,hl,rfl⟩:=AHeap.rd_some hr;rw [zC3 ho (by omega)]
 congr 1
 rw [List.drop_take,List.take_take,List.drop_drop]
 congr 1
 omega
theorem zFD {o i:Nat} {cs:List AV} {v:AV} (ho:h.obj o=some ⟨true,cs⟩) (hi:i<cs.length) (hv:v.one=true):h.wr o i [v]=some (h.set o (cs.set i v)):=by
 simp only [AHeap.wr,ho,Option.bind_some,List.length_cons,List.length_nil,List.all_cons,List.all_nil,hv,Bool.and_true];rw [if_pos ⟨trivial,by omega,trivial⟩]
 congr 2
 apply List.ext_getElem?;intro k;rw [List.getElem?_set,List.append_assoc];rcases Nat.lt_trichotomy k i with x|x|x
 ·rw [if_neg (by omega),List.getElem?_append_left (by simp;omega),List.getElem?_take,if_pos x]
 ·subst x
  rw [if_pos rfl,if_pos hi,List.getElem?_append_right (by rw [List.length_take];omega),List.length_take]
  have:k-min k cs.length=0:=by omega
  rw [this]
  rfl
 ·rw [if_neg (by omega),List.getElem?_append_right (by simp;omega)]
  have e1:k-(List.take i cs).length=(k-i-1)+1:=by rw [List.length_take];omega
  rw [e1,List.cons_append,List.getElem?_cons_succ,List.nil_append,List.getElem?_drop]
  congr 1;omega
def ints (xs:List Int):List AV:=xs.map (.int .i64)
theorem zET (xs:List Int):(ints xs).length=xs.length:=by simp [ints]
theorem ints_set (xs:List Int) (k:Nat) (x:Int):(ints xs).set k (.int .i64 x)=ints (xs.set k x):=by simp [ints,List.map_set]
def All2 {α β:Type} (R:α→β→Prop) (as:List α) (bs:List β):Prop:=as.length=bs.length∧∀(k:Nat) (a:α) (b:β),as[k]? = some a→bs[k]? = some b→R a b
theorem All2.nil {α β:Type} (R:α→β→Prop):All2 R [] []:=⟨rfl,fun k a b h=>by simp at h⟩
theorem All2.snoc {α β:Type} {R:α→β→Prop} {as:List α} {bs:List β} {a:α} {b:β} (h:All2 R as bs) (hr:R a b):All2 R (as++[a]) (bs++[b]):=by
 refine⟨by simp [h.1],fun k x y hx hy=>?_⟩
 rcases Nat.lt_trichotomy k as.length with e|e|e
 ·rw [List.getElem?_append_left e]at hx
  rw [List.getElem?_append_left (by rw [←h.1];exact e)]at hy
  exact h.2 k x y hx hy
 ·rw [List.getElem?_append_right (by omega),e]at hx
  rw [List.getElem?_append_right (by rw [←h.1];omega),e,h.1]at hy
  simp at hx hy
  subst hx;subst hy;exact hr
 ·rw [List.getElem?_eq_none (by simp;omega)]at hx
  cases hx
theorem All2.mono {α β:Type} {R R':α→β→Prop} {as:List α} {bs:List β} (h:All2 R as bs) (hr:∀a b,R a b→R' a b):All2 R' as bs:=⟨h.1,fun k a b x y=>hr a b (h.2 k a b x y)⟩
theorem All2.get {α β:Type} {R:α→β→Prop} {as:List α} {bs:List β} (h:All2 R as bs) {k:Nat} (hk:k<bs.length):∃a,as[k]? = some a∧R a bs[k]:=by
 have hk':k<as.length:=by rw [h.1];exact hk
 exact⟨as[k],List.getElem?_eq_getElem hk',h.2 k _ _ (List.getElem?_eq_getElem hk') (List.getElem?_eq_getElem hk)⟩
theorem All2.cons {α β:Type} {R:α→β→Prop} {as:List α} {bs:List β} {a:α} {b:β} (h:All2 R as bs) (hr:R a b):All2 R (a::as) (b::bs):=by
 refine⟨by simp [h.1],fun k x y hx hy=>?_⟩
 cases k with
 | zero=>simp at hx hy;subst hx;subst hy;exact hr
 | succ k=>exact h.2 k x y (by simpa using hx) (by simpa using hy)
end Go.Ab
