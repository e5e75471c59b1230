/- THE RULES BY WHICH ABSTRACT CODE IS WALKED: each an equation by 'rfl'. -/
import Derived.Test.YtcbdjookdepkbaaGreatAAbCode
set_option linter.unusedVariables false
namespace Go.Ab
def condK (v:AV) (a b:Prop):Prop:=
 match v with
 | .bool t=>if t=true then a else b
 | _=>False
def zJ3 (v:AV) (b:Bool) (x y:Prop):Prop:=
 match v with
 | .bool c=>if c=b then x else y
 | .tup []=>y
 | _=>False
section
variable {P:Program} {Q:Exit→Env→AHeap→Prop} {e:Env} {h:AHeap} {K:Env→AHeap→Prop} {KA:AV→AHeap→Prop} {nb:Nat}
def zKM (n:Nat) (x v:AV) (h:AHeap) (KA:AV→AHeap→Prop):Prop:=
 match x with
 | .ptr o i=>v.cells.length=n∧optK (h.wr o i v.cells) fun h'=>KA .undef h'
 | _=>False
def aMake (sz bytes:Nat) (z:List AV) (l c:AV) (h:AHeap) (KA:AV→AHeap→Prop):Prop:=
 match l,c with
 | .int _ l,.int _ c=>(0≤l∧l≤c∧c*bytes≤140737488355328∧c≤9223372036854775807)∧KA (.sl h.next 0 l.toNat (.known c.toNat)) (h.new ⟨true,zeros z c.toNat⟩)
 | _,_=>False
def zKN (P:Program) (f:AV) (args:List AV) (h:AHeap) (KA:AV→AHeap→Prop):Prop:=
 match f with
 | .clo f first caps=>okF P f=true∧qz P f (first++args++caps) h KA
 | _=>False
end
end Go.Ab
