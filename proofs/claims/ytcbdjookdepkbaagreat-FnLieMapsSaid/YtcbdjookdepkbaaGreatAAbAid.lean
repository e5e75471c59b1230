/- Small aids for the proofs of functions. -/
import Derived.Test.YtcbdjookdepkbaaGreatAAbHeap
set_option linter.unusedVariables false
namespace Go.Ab
variable {P:Program} {h h':AHeap} {K:AV→AHeap→Prop}
theorem wrapS {i n:Nat} (hi:i<n) (hn:n≤4611686018427387904):IntKind.i64.wrap ((i:Int)+1)=((i+1:Nat):Int):=by
 rw [wrap64 (by omega) (by omega)];omega
theorem wrapA {a b:Nat} (hn:a+b≤4611686018427387904):IntKind.i64.wrap ((a:Int)+(b:Int))=((a+b:Nat):Int):=by
 rw [wrap64 (by omega) (by omega)];omega
theorem Zt {xs:List Int} {i:Nat} (hi:i<xs.length) {p:Int→Prop} (h:∀x∈xs.take i,p x) (hx:p xs[i]):∀x∈xs.take (i+1),p x:=by
 rw [List.take_succ_eq_append_getElem hi];intro x hm;rcases List.mem_append.1 hm with hm|hm
 ·exact h x hm
 ·simp at hm;subst hm;exact hx
theorem Q3 {α:Type} {xs:List α} {i:Nat} (hi:¬i<xs.length) {p:α→Prop} (h:∀x∈xs.take i,p x):∀x∈xs,p x:=by
 rwa [List.take_of_length_le (by omega)]at h
theorem zHt (z:List AV):zeros z 0=[]:=rfl
theorem zHu (v:AV):zeros [v] 1=[v]:=rfl
theorem zFJ (v:AV) (n:Nat):zeros [v] n=List.replicate n v:=by
 simp [zeros,List.flatten_replicate_singleton]
theorem zFO {α:Type} (l:List α) (z:α) {i:Nat} (hi:i<l.length):(l.take i++List.replicate (l.length-i) z).set i l[i]=l.take (i+1)++List.replicate (l.length-(i+1)) z:=by
 obtain⟨k,hk⟩:∃k,l.length-i=k+1:=⟨l.length-i-1,by omega⟩
 have h1:(l.take i).length=i:=by rw [List.length_take];omega
 rw [hk,List.replicate_succ,List.set_append,if_neg (by omega),h1,Nat.sub_self,List.set_cons_zero,List.take_succ_eq_append_getElem hi,List.append_assoc,List.singleton_append]
 congr 3
 omega
theorem zMf {o i:Nat} {cs vs:List AV} (ho:h.obj o=some ⟨true,cs⟩) (hl:i+vs.length≤cs.length) (hv:vs.all AV.one=true):h.wr o i vs=some (h.set o (cs.take i++vs++cs.drop (i+vs.length))):=by
 simp only [AHeap.wr,ho,Option.bind_some];rw [if_pos ⟨trivial,hl,hv⟩]
end Go.Ab
