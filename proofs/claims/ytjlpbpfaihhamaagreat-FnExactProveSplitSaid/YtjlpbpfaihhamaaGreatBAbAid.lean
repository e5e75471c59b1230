/- Small aids for the proofs of functions. -/
import Derived.Test.YtjlpbpfaihhamaaGreatBAbHeap
set_option linter.unusedVariables false
namespace Go.Ab
variable {P:Program} {h h':AHeap} {K:AV→AHeap→Prop}
theorem wrapS {i n:Nat} (hi:i<n) (hn:n≤4611686018427387904):IntKind.i64.wrap ((i:Int)+1)=((i+1:Nat):Int):=by
 rw [wrap64 (by omega) (by omega)];omega
theorem zf (k:IntKind) (n:Int):AV.cells (.int k n)=[.int k n]:=rfl
theorem qO (k:IntKind) (n:Int):AV.one (.int k n)=true:=rfl
theorem zR (b:Bool):AV.cells (.bool b)=[.bool b]:=rfl
theorem qE (b:Bool):AV.one (.bool b)=true:=rfl
theorem zb (s:List UInt8):AV.cells (.str s)=[.str s]:=rfl
theorem qM (s:List UInt8):AV.one (.str s)=true:=rfl
theorem zP:AV.cells (.nilp)=[.nilp]:=rfl
theorem z8:AV.one (.nilp)=true:=rfl
theorem ze (o i:Nat):AV.cells (.ptr o i)=[.ptr o i]:=rfl
theorem qN (o i:Nat):AV.one (.ptr o i)=true:=rfl
theorem zO:AV.cells (.nils)=[.nils]:=rfl
theorem zw:AV.one (.nils)=true:=rfl
theorem qH (o off n:Nat) (c:Cap):AV.cells (.sl o off n c)=[.sl o off n c]:=rfl
theorem qW (o off n:Nat) (c:Cap):AV.one (.sl o off n c)=true:=rfl
theorem zQ:AV.cells (.nilf)=[.nilf]:=rfl
theorem qA:AV.one (.nilf)=true:=rfl
theorem zg (f:FuncId) (a b:List AV):AV.cells (.clo f a b)=[.clo f a b]:=rfl
theorem qP (f:FuncId) (a b:List AV):AV.one (.clo f a b)=true:=rfl
theorem zh (cs:List AV):AV.cells (.agg cs)=cs:=rfl
theorem zEW {xs:List Int} {i:Nat} (hi:i<xs.length) {p:Int→Prop} (h:∀x∈xs.take i,p x) (hx:p xs[i]):∀x∈xs.take (i+1),p x:=by
 rw [List.take_succ_eq_append_getElem hi];intro x hm;rcases List.mem_append.1 hm with hm|hm
 ·exact h x hm
 ·simp at hm;subst hm;exact hx
theorem zA1 {α:Type} {xs:List α} {i:Nat} (hi:¬i<xs.length) {p:α→Prop} (h:∀x∈xs.take i,p x):∀x∈xs,p x:=by
 rwa [List.take_of_length_le (by omega)]at h
theorem zAI {α:Type} {xs:List α} {i:Nat} (hi:i<xs.length) {p:α→Prop} (h:∀x∈xs.take i,p x) (hx:p xs[i]):∀x∈xs.take (i+1),p x:=by
 rw [List.take_succ_eq_append_getElem hi];intro x hm;rcases List.mem_append.1 hm with hm|hm
 ·exact h x hm
 ·simp at hm;subst hm;exact hx
theorem zi (cs:List AV):afill cs []=some cs:=rfl
theorem zU (cs:List AV) (off size:Nat) (v:AV) (r:List (Nat×Nat×AV)):afill cs ((off,size,v)::r) =
  if v.cells.length=size∧off+size≤cs.length∧v.cells.all AV.one=true then afill (cs.take off++v.cells++cs.drop (off+size)) r else none:=rfl
theorem zJ (z:List AV):zeros z 0=[]:=rfl
theorem zK (v:AV):zeros [v] 1=[v]:=rfl
theorem zG (v:AV) (n:Nat):zeros [v] n=List.replicate n v:=by
 simp [zeros,List.flatten_replicate_singleton]
theorem zHa {α:Type} (l:List α) (z:α) {i:Nat} (hi:i<l.length):(l.take i++List.replicate (l.length-i) z).set i l[i]=l.take (i+1)++List.replicate (l.length-(i+1)) z:=by
 obtain⟨k,hk⟩:∃k,l.length-i=k+1:=⟨l.length-i-1,by omega⟩
 have h1:(l.take i).length=i:=by rw [List.length_take];omega
 rw [hk,List.replicate_succ,List.set_append,if_neg (by omega),h1,Nat.sub_self,List.set_cons_zero,List.take_succ_eq_append_getElem hi,List.append_assoc,List.singleton_append]
 congr 3
 omega
theorem qL (ob:AObj) (o i:Nat):(h.new ob).rd1 o i=if o=h.next then ob.cells[i]? else h.rd1 o i:=by
 by_cases hx:o=h.next<;>simp [AHeap.rd1,AHeap.new,hx]
theorem qV (ob:AObj) (o i n:Nat):(h.new ob).rd o i n=if o=h.next then(if i+n≤ob.cells.length then some ((ob.cells.drop i).take n)else none)else h.rd o i n:=by
 by_cases hx:o=h.next<;>simp [AHeap.rd,AHeap.new,hx]
theorem Ext.ob (hx:Ext h h') {o:Nat} {ob:AObj} (ho:o<h.next) (h1:h.obj o=some ob):h'.obj o=some ob:=by rw [hx.obj o ho];exact h1
theorem zRA {o i:Nat} {cs vs:List AV} (ho:h.obj o=some ⟨true,cs⟩) (hl:i+vs.length≤cs.length) (hv:vs.all AV.one=true):h.wr o i vs=some (h.set o (cs.take i++vs++cs.drop (i+vs.length))):=by
 simp only [AHeap.wr,ho,Option.bind_some];rw [if_pos ⟨trivial,hl,hv⟩]
theorem box1 (hw:HWF h) (c0:List AV):∃hh,h.new ⟨true,c0⟩=hh∧Ext h hh∧hh.next=h.next+1∧∀k,Ext hh k→k.obj h.next=some ⟨true,c0⟩:=by
 have hx1:=Ext.new hw ⟨true,c0⟩;exact⟨_,rfl,hx1,rfl,fun k hk=>hk.ob (by simp [AHeap.new]) (by simp [AHeap.new])⟩
end Go.Ab
