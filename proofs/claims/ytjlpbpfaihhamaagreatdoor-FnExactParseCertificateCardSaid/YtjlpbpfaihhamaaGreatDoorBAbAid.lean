/- Small aids for the proofs of functions. -/
import Derived.Test.YtjlpbpfaihhamaaGreatDoorBAbHeap
set_option linter.unusedVariables false
namespace Go.Ab
variable {P:Program} {h h':AHeap} {K:AV→AHeap→Prop}
theorem kt {p:Prop} [Decidable p] (hk:K (.bool (decide p)) h) (hp:p):K (.bool true) h:=by
 rw [decide_eq_true hp]at hk;exact hk
theorem wrapS {i n:Nat} (hi:i<n) (hn:n≤4611686018427387904):IntKind.i64.wrap ((i:Int)+1)=((i+1:Nat):Int):=by
 rw [wrap64 (by omega) (by omega)];omega
theorem zZ (k:IntKind) (n:Int):AV.cells (.int k n)=[.int k n]:=rfl
theorem zy (k:IntKind) (n:Int):AV.one (.int k n)=true:=rfl
theorem zO (b:Bool):AV.cells (.bool b)=[.bool b]:=rfl
theorem zm (b:Bool):AV.one (.bool b)=true:=rfl
theorem zX (s:List UInt8):AV.cells (.str s)=[.str s]:=rfl
theorem zw (s:List UInt8):AV.one (.str s)=true:=rfl
theorem zM:AV.cells (.nilp)=[.nilp]:=rfl
theorem zk:AV.one (.nilp)=true:=rfl
theorem zY (o i:Nat):AV.cells (.ptr o i)=[.ptr o i]:=rfl
theorem zx (o i:Nat):AV.one (.ptr o i)=true:=rfl
theorem zL:AV.cells (.nils)=[.nils]:=rfl
theorem zi:AV.one (.nils)=true:=rfl
theorem zq (o off n:Nat) (c:Cap):AV.cells (.sl o off n c)=[.sl o off n c]:=rfl
theorem qN (o off n:Nat) (c:Cap):AV.one (.sl o off n c)=true:=rfl
theorem zN:AV.cells (.nilf)=[.nilf]:=rfl
theorem zl:AV.one (.nilf)=true:=rfl
theorem za (f:FuncId) (a b:List AV):AV.cells (.clo f a b)=[.clo f a b]:=rfl
theorem z8 (f:FuncId) (a b:List AV):AV.one (.clo f a b)=true:=rfl
theorem zb (cs:List AV):AV.cells (.agg cs)=cs:=rfl
theorem Qn {xs:List Int} {i:Nat} (hi:i<xs.length) {p:Int→Prop} (h:∀x∈xs.take i,p x) (hx:p xs[i]):∀x∈xs.take (i+1),p x:=by
 rw [List.take_succ_eq_append_getElem hi];intro x hm;rcases List.mem_append.1 hm with hm|hm
 ·exact h x hm
 ·simp at hm;subst hm;exact hx
theorem zD1 {α:Type} {xs:List α} {i:Nat} (hi:¬i<xs.length) {p:α→Prop} (h:∀x∈xs.take i,p x):∀x∈xs,p x:=by
 rwa [List.take_of_length_le (by omega)]at h
theorem zCD {α:Type} {xs:List α} {i:Nat} (hi:i<xs.length) {p:α→Prop} (h:∀x∈xs.take i,p x) (hx:p xs[i]):∀x∈xs.take (i+1),p x:=by
 rw [List.take_succ_eq_append_getElem hi];intro x hm;rcases List.mem_append.1 hm with hm|hm
 ·exact h x hm
 ·simp at hm;subst hm;exact hx
theorem ze (cs:List AV):afill cs []=some cs:=rfl
theorem zP (cs:List AV) (off size:Nat) (v:AV) (r:List (Nat×Nat×AV)):afill cs ((off,size,v)::r) =
  if v.cells.length=size∧off+size≤cs.length∧v.cells.all AV.one=true then afill (cs.take off++v.cells++cs.drop (off+size)) r else none:=rfl
theorem zG (z:List AV):zeros z 0=[]:=rfl
theorem zH (v:AV):zeros [v] 1=[v]:=rfl
theorem zC (v:AV) (n:Nat):zeros [v] n=List.replicate n v:=by
 simp [zeros,List.flatten_replicate_singleton]
theorem zu (ob:AObj) (o i:Nat):(h.new ob).rd1 o i=if o=h.next then ob.cells[i]? else h.rd1 o i:=by
 by_cases hx:o=h.next<;>simp [AHeap.rd1,AHeap.new,hx]
theorem qL (ob:AObj) (o i n:Nat):(h.new ob).rd o i n=if o=h.next then(if i+n≤ob.cells.length then some ((ob.cells.drop i).take n)else none)else h.rd o i n:=by
 by_cases hx:o=h.next<;>simp [AHeap.rd,AHeap.new,hx]
theorem Ext.ob (hx:Ext h h') {o:Nat} {ob:AObj} (ho:o<h.next) (h1:h.obj o=some ob):h'.obj o=some ob:=by rw [hx.obj o ho];exact h1
theorem zOD {o i:Nat} {cs vs:List AV} (ho:h.obj o=some ⟨true,cs⟩) (hl:i+vs.length≤cs.length) (hv:vs.all AV.one=true):h.wr o i vs=some (h.set o (cs.take i++vs++cs.drop (i+vs.length))):=by
 simp only [AHeap.wr,ho,Option.bind_some];rw [if_pos ⟨trivial,hl,hv⟩]
theorem box1 (hw:HWF h) (c0:List AV):∃hh,h.new ⟨true,c0⟩=hh∧Ext h hh∧hh.next=h.next+1∧∀k,Ext hh k→k.obj h.next=some ⟨true,c0⟩:=by
 have hx1:=Ext.new hw ⟨true,c0⟩;exact⟨_,rfl,hx1,rfl,fun k hk=>hk.ob (by simp [AHeap.new]) (by simp [AHeap.new])⟩
end Go.Ab
