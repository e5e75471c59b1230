/- ABSTRACT STATES for Go code: values and a heap of objects without tapes, capacities that a draw chose, or types; the intermediate form of the code that this layer reads. No program in sight but the model's own tables. -/
import Derived.WalkKit
namespace Go.Ab
inductive Cap where
 | known (c:Nat)
 | grown (e:Nat)
def optK {α:Type} (o:Option α) (K:α→Prop):Prop:=∃v,o=some v∧K v
theorem zM {α:Type} (v:α) (K:α→Prop):optK (some v) K=K v:=by
 apply propext;exact⟨fun⟨_,h,k⟩=>by cases h;exact k,fun k=>⟨v,rfl,k⟩⟩
theorem zN {α:Type} (K:α→Prop):optK none K=False:=by
 apply propext;exact⟨fun⟨_,h,_⟩=>(Option.some_ne_none _ h.symm).elim,fun k=>k.elim⟩
theorem zX {α β:Type} (o:Option α) (f:α→Option β) (K:β→Prop):optK (o.bind f) K=optK o fun a=>optK (f a) K:=by
 cases o with
 | none=>rw [zN];exact zN K
 | some v=>rw [zM];rfl
theorem zq {α β:Type} (o:Option α) (f:α→β) (K:β→Prop):optK (o.map f) K=optK o fun a=>K (f a):=by
 cases o with
 | none=>rw [zN];exact zN K
 | some v=>rw [zM];exact zM _ K
theorem Zb {α:Type} {o:Option α} {v:α} {K:α→Prop} (h:o=some v) (k:K v):optK o K:=⟨v,h,k⟩
inductive AV where
 | undef
 | bool (b:Bool)
 | int (k:IntKind) (n:Int)
 | str (s:List UInt8)
 | nilp
 | ptr (o i:Nat)
 | mref (o:Nat)
 | nils
 | sl (o off len:Nat) (cap:Cap)
 | nilf
 | clo (f:FuncId) (first caps:List AV)
 | agg (cs:List AV)
 | tup (vs:List AV)
instance:Inhabited AV:=⟨.undef⟩
def AV.one:AV→Bool
 | .undef | .agg _ | .tup _=>false
 | _=>true
def AV.cells:AV→List AV
 | .agg cs=>cs
 | v=>[v]
structure AObj where
 rw:Bool
 cells:List AV
structure AHeap where
 next:Nat
 obj:Nat→Option AObj
namespace AHeap
def new (h:AHeap) (ob:AObj):AHeap:=⟨h.next+1,fun o=>if o=h.next then some ob else h.obj o⟩
def set (h:AHeap) (o:Nat) (cells:List AV):AHeap:=⟨h.next,fun o'=>if o'=o then some ⟨true,cells⟩else h.obj o'⟩
def kill (h:AHeap) (o:Nat):AHeap:=⟨h.next,fun o'=>if o'=o then none else h.obj o'⟩
def rd1 (h:AHeap) (o i:Nat):Option AV:=(h.obj o).bind fun ob=>ob.cells[i]?
def rd (h:AHeap) (o i n:Nat):Option (List AV):=(h.obj o).bind fun ob=>if i+n≤ob.cells.length then some ((ob.cells.drop i).take n)else none
def wr (h:AHeap) (o i:Nat) (vs:List AV):Option AHeap:=(h.obj o).bind fun ob=>
 if ob.rw=true∧i+vs.length≤ob.cells.length∧vs.all AV.one=true then some (h.set o (ob.cells.take i++vs++ob.cells.drop (i+vs.length)))else none
end AHeap
abbrev Env:=Nat→AV
def Env.put (e:Env) (d:Option Nat) (v:AV):Env:=match d with
 | some d=>fun t=>if t=d then v else e t
 | none=>e
inductive IX where
 | t (n:Nat)
 | c (v:AV)
def IX.ev (e:Env):IX→AV
 | .t n=>e n
 | .c v=>v
inductive EqK where
 | other | bool | slice | pointer | func | ints (n:Nat)
inductive KT where
 | int (k:IntKind)
 | str
def KT.fits:KT→AV→Bool
 | .int k,.int k' _=>decide (k'=k)
 | .str,.str _=>true
 | _,_=>false
def AV.leaf:AV→Bool
 | .bool _ | .int _ _ | .str _=>true
 | _=>false
def AV.keq:AV→AV→Bool
 | .int _ a,.int _ b=>decide (a=b)
 | .str a,.str b=>decide (a=b)
 | _,_=>false
def mget (kt:KT) (k:AV):List AV→Option (Option AV)
 | []=>some none
 | [_]=>none
 | x::v::r=>if kt.fits x=true then(if AV.keq k x=true then some (some v)else mget kt k r)else none
def mset (kt:KT) (k v:AV):List AV→Option (List AV)
 | []=>some [k,v]
 | [_]=>none
 | x::u::r=>if kt.fits x=true then(if AV.keq k x=true then some (x::v::r)else(mset kt k v r).map fun r=>x::u::r)else none
inductive IOp where
 -- quiet
 | mv (x:IX)
 | pick (c a b:IX)
 | bin (op:BinOp) (ek:EqK) (x y:IX)
 | un (op:UnOp) (x:IX)
 | conv (k:IntKind) (x:IX)
 | nilCheck (x:IX)
 | build (zero:List AV) (parts:List (Nat×Nat×IX))
 | field (agg:Bool) (n off:Nat) (x:IX)
 | fieldAddr (off:Nat) (x:IX)
 | indexAddr (e:Nat) (x i:IX)
 | indexStr (x i:IX)
 | extract (x:IX) (i:Nat)
 | len (x:IX)
 | lenStr (x:IX)
 | cap (x:IX)
 | slice (e:Nat) (x:IX) (lo hi mx:Option IX)
 | sliceStr (x:IX) (lo hi:Option IX)
 | maxmin (max:Bool) (x y:IX)
 | makeFunc (f:FuncId) (first caps:List IX)
 | load (agg:Bool) (n:Nat) (x:IX)
 | rev (k:Nat)
 | revS (k len:Nat)
 -- with effects
 | alloc (zero:List AV)
 | box (x:IX)
 | buildSl (e len:Nat) (zero:List AV) (parts:List (Nat×Nat×IX))
 | store (n:Nat) (x v:IX)
 | makeSl (e bytes:Nat) (zero:List AV) (l c:IX)
 | appendMk (e bytes:Nat) (zero:List AV) (s n:IX)
 | append (e bytes:Nat) (s x:IX)
 | copy (e:Nat) (d s:IX)
 | call (f:FuncId) (args:List IX)
 | callV (f:IX) (args:List IX)
 | makeMap
 | lookup (kt:KT) (z:AV) (x k:IX)
 | mapUpd (kt:KT) (x k v:IX)
 | strOf (x:IX)
def aint (op:BinOp) (k:IntKind) (a b:Int):Option AV:=
 match op with
 | .add=>some (.int k (k.wrap (a+b)))
 | .sub=>some (.int k (k.wrap (a-b)))
 | .mul=>some (.int k (k.wrap (a*b)))
 | .quo=>if b=0 then none else some (.int k (k.wrap (a.tdiv b)))
 | .rem=>if b=0 then none else some (.int k (a.tmod b))
 | .eql=>some (.bool (decide (a=b)))
 | .neq=>some (.bool (!decide (a=b)))
 | .lss=>some (.bool (decide (a<b)))
 | .leq=>some (.bool (decide (a≤b)))
 | .gtr=>some (.bool (decide (b<a)))
 | .geq=>some (.bool (decide (b≤a)))
 | .and=>some (.int k (k.wrap (BitVec.ofInt k.bits a &&& BitVec.ofInt k.bits b).toNat))
 | .or=>some (.int k (k.wrap (BitVec.ofInt k.bits a ||| BitVec.ofInt k.bits b).toNat))
 | .xor=>some (.int k (k.wrap (BitVec.ofInt k.bits a ^^^ BitVec.ofInt k.bits b).toNat))
 | .andNot=>some (.int k (k.wrap (BitVec.ofInt k.bits a &&& ~~~ BitVec.ofInt k.bits b).toNat))
 | _=>none
def ZY (op:BinOp) (k:IntKind) (a b:Int):Option AV:=
 if b<0 then none else
 match op with
 | .shl=>some (.int k (k.wrap (a*2 ^ (min b.toNat k.bits))))
 | .shr=>some (.int k (a.fdiv (2 ^ (min b.toNat k.bits))))
 | _=>none
def astr (op:BinOp) (a b:List UInt8):Option AV:=
 match op with
 | .add=>if a.length+b.length≤9223372036854775807 then some (.str (a++b))else none
 | .eql=>some (.bool (a == b))
 | .neq=>some (.bool !(a == b))
 | .lss=>some (.bool (Op.bytesLess a b))
 | .leq=>some (.bool (Op.bytesLess a b || a == b))
 | .gtr=>some (.bool !(Op.bytesLess a b || a == b))
 | .geq=>some (.bool !(Op.bytesLess a b))
 | _=>none
def anil (op:BinOp) (r:Bool):Option AV:=
 match op with
 | .eql=>some (.bool r)
 | .neq=>some (.bool !r)
 | _=>none
def aggB:List AV→List AV→Option Bool
 | [],[]=>some true
 | .int k a::xs,.int k' b::ys=>if k=k' then(aggB xs ys).map fun r=>decide (a=b) && r else none
 | _,_=>none
def abin (op:BinOp) (ek:EqK) (x y:AV):Option AV:=
 match x,y with
 | .int k a,.int k' b=>
  match op with
  | .shl | .shr=>ZY op k a b
  | _=>if k=k' then aint op k a b else none
 | .str a,.str b=>astr op a b
 | .bool a,.bool b=>match ek with | .bool=>anil op (a == b) | _=>none
 | .nils,.nils=>match ek with | .slice=>anil op true | _=>none
 | .sl _ _ _ _,.nils=>match ek with | .slice=>anil op false | _=>none
 | .nils,.sl _ _ _ _=>match ek with | .slice=>anil op false | _=>none
 | .nilp,.nilp=>match ek with | .pointer=>anil op true | _=>none
 | .ptr _ _,.nilp=>match ek with | .pointer=>anil op false | _=>none
 | .nilp,.ptr _ _=>match ek with | .pointer=>anil op false | _=>none
 | .nilf,.nilf=>match ek with | .func=>anil op true | _=>none
 | .clo _ _ _,.nilf=>match ek with | .func=>anil op false | _=>none
 | .nilf,.clo _ _ _=>match ek with | .func=>anil op false | _=>none
 | .agg xs,.agg ys=>match ek with | .ints n=>if xs.length=n∧ys.length=n then(aggB xs ys).bind fun r=>anil op r else none | _=>none
 | _,_=>none
def aun (op:UnOp) (x:AV):Option AV:=
 match op,x with
 | .neg,.int k n=>some (.int k (k.wrap (0-n)))
 | .xor,.int k n=>aint .xor k (if k.signed then -1 else k.max) n
 | .not,.bool b=>some (.bool !b)
 | _,_=>none
def afill (cells:List AV):List (Nat×Nat×AV)→Option (List AV)
 | []=>some cells
 | (off,size,v)::rest=>
  if v.cells.length=size∧off+size≤cells.length∧v.cells.all AV.one=true then afill (cells.take off++v.cells++cells.drop (off+size)) rest else none
def zAp (x:AV) (y:Nat):Option Nat:=
 match x with
 | .int _ i=>if 0≤i∧i≤y then some i.toNat else none
 | _=>none
def qZ (x:Option AV) (dflt y:Nat):Option Nat:=
 match x with
 | some x=>zAp x y
 | none=>some dflt
def QP (e:Nat) (x:AV) (lo hi mx:Option AV):Option AV:=
 match x with
 | .sl o off len (.known c)=>
  (qZ mx c c).bind fun m=>(qZ hi len m).bind fun h=>(qZ lo 0 h).bind fun l=>
   if hi.isNone=true∧mx.isSome=true then none else some (.sl o (if m=l then off else off+l*e) (h-l) (.known (m-l)))
 | .sl o off len (.grown g)=>
  match mx with
  | some mx=>(zAp mx len).bind fun m=>(qZ hi len m).bind fun h=>(qZ lo 0 h).bind fun l=>
   if hi.isNone=true then none else some (.sl o (if m=l then 0 else off+l*e) (h-l) (.known (m-l)))
  | none=>(qZ hi len len).bind fun h=>(qZ lo 0 h).bind fun l=>
   some (.sl o (off+l*e) (h-l) (.grown (if g=e then g else 0)))
 | .nils=>(qZ mx 0 0).bind fun m=>(qZ hi 0 m).bind fun h=>(qZ lo 0 h).bind fun _=>
   if hi.isNone=true∧mx.isSome=true then none else some .nils
 | _=>none
def zAo (x:AV) (lo hi:Option AV):Option AV:=
 match x with
 | .str s=>(qZ hi s.length s.length).bind fun h=>(qZ lo 0 h).bind fun l=>some (.str ((s.take h).drop l))
 | _=>none
def aPick (c a b:AV):Option AV:=
 match c with
 | .bool t=>some (if t=true then a else b)
 | _=>none
def aConv (k:IntKind) (x:AV):Option AV:=
 match x with
 | .int _ n=>some (.int k (k.wrap n))
 | _=>none
def aNil (x:AV):Option AV:=
 match x with
 | .ptr o i=>some (.ptr o i)
 | .clo f a b=>some (.clo f a b)
 | _=>none
def ZN (agg:Bool) (n off:Nat) (x:AV):Option AV:=
 match x with
 | .agg cs=>if agg=true then some (.agg ((cs.drop off).take n))else cs[off]?
 | _=>none
def qg (off:Nat) (x:AV):Option AV:=
 match x with
 | .ptr o i=>some (.ptr o (i+off))
 | _=>none
def q8 (sz:Nat) (x i:AV):Option AV:=
 match x,i with
 | .sl o off len _,.int _ n=>if 0≤n∧n<len then some (.ptr o (off+n.toNat*sz))else none
 | _,_=>none
def ZM (x i:AV):Option AV:=
 match x,i with
 | .str s,.int _ n=>if 0≤n then(s[n.toNat]?).map fun c=>.int .u8 c.toNat else none
 | _,_=>none
def qx (x:AV) (i:Nat):Option AV:=
 match x with
 | .tup vs=>vs[i]?
 | _=>none
def aLen (x:AV):Option AV:=
 match x with
 | .sl _ _ n _=>some (.int .i64 n)
 | .nils=>some (.int .i64 0)
 | _=>none
def ZL (x:AV):Option AV:=
 match x with
 | .str s=>some (.int .i64 s.length)
 | _=>none
def aCap (x:AV):Option AV:=
 match x with
 | .sl _ _ _ (.known c)=>some (.int .i64 c)
 | .nils=>some (.int .i64 0)
 | _=>none
def q9 (mx:Bool) (x y:AV):Option AV:=
 match x,y with
 | .int k a,.int k' b=>if k=k' then some (.int k (if mx=true then max a b else min a b))else none
 | _,_=>none
def ldv (agg:Bool) (n:Nat) (x:AV) (h:AHeap):Option AV:=
 match x with
 | .ptr o i=>if agg=true then(h.rd o i n).map .agg else h.rd1 o i
 | _=>none
def qv (nb:Nat) (op:IOp) (e:Env) (h:AHeap):Option AV:=
 match op with
 | .mv x=>some (x.ev e)
 | .pick c a b=>aPick (c.ev e) (a.ev e) (b.ev e)
 | .bin op ek x y=>abin op ek (x.ev e) (y.ev e)
 | .un op x=>aun op (x.ev e)
 | .conv k x=>aConv k (x.ev e)
 | .nilCheck x=>aNil (x.ev e)
 | .build z ps=>(afill z (ps.map fun p=>(p.1,p.2.1,p.2.2.ev e))).map .agg
 | .field agg n off x=>ZN agg n off (x.ev e)
 | .fieldAddr off x=>qg off (x.ev e)
 | .indexAddr sz x i=>q8 sz (x.ev e) (i.ev e)
 | .indexStr x i=>ZM (x.ev e) (i.ev e)
 | .extract x i=>qx (x.ev e) i
 | .len x=>aLen (x.ev e)
 | .lenStr x=>ZL (x.ev e)
 | .cap x=>aCap (x.ev e)
 | .slice sz x lo hi mx=>QP sz (x.ev e) (lo.map (·.ev e)) (hi.map (·.ev e)) (mx.map (·.ev e))
 | .sliceStr x lo hi=>zAo (x.ev e) (lo.map (·.ev e)) (hi.map (·.ev e))
 | .maxmin mx x y=>q9 mx (x.ev e) (y.ev e)
 | .makeFunc f first caps=>some (.clo f (first.map (·.ev e)) (caps.map (·.ev e)))
 | .load agg n x=>ldv agg n (x.ev e) h
 | .rev k=>some (.ptr (nb+k) 0)
 | .revS k n=>some (.sl (nb+k) 0 n (.known n))
 | _=>none
def zeros (z:List AV) (n:Nat):List AV:=(List.replicate n z).flatten
def alen (x:AV):Option Nat:=
 match x with
 | .nils=>some 0
 | .sl _ _ n _=>some n
 | _=>none
def zAP (e:Nat) (h:AHeap) (x:AV) (n:Nat):Option (List AV):=
 if n=0 then some []else
 match x with
 | .sl o off len _=>if n≤len then h.rd o off (n*e)else none
 | _=>none
def zBZ:List AV→Option (List UInt8)
 | []=>some []
 | .int .u8 n::r=>(zBZ r).map fun s=>UInt8.ofNat n.toNat::s
 | _=>none
def agrow (e bytes:Nat) (h:AHeap) (s:AV) (news:List AV) (m:Nat):Option (AV×AHeap):=
 match s with
 | .nils=>if m*bytes≤140737488355328∧m≤4611686018427387904 then some (.sl h.next 0 m (.grown e),h.new ⟨true,news⟩)else none
 | .sl o off len (.known c)=>
  if len+m≤c then(h.wr o (off+len*e) news).map fun h'=>(.sl o off (len+m) (.known c),h')
  else if (len+m)*bytes≤140737488355328∧len+m≤4611686018427387904 then(h.rd o off (len*e)).map fun old=>(.sl h.next 0 (len+m) (.grown e),h.new ⟨true,old++news⟩)else none
 | .sl o off len (.grown g)=>
  if (len+m)*bytes≤140737488355328∧len+m≤4611686018427387904∧g=e then
   (h.obj o).bind fun ob=>if ob.rw=true∧off+len*e≤ob.cells.length then some (.sl h.next 0 (len+m) (.grown e),(h.kill o).new ⟨true,(ob.cells.drop off).take (len*e)++news⟩)else none
  else none
 | _=>none
def asame (s:AV):Option AV:=
 match s with
 | .nils=>some .nils
 | .sl o off len (.known c)=>if len≤c then some (.sl o off len (.known c))else none
 | .sl o off len (.grown e)=>some (.sl o off len (.grown e))
 | _=>none
def zA9 (e bytes:Nat) (h:AHeap) (s x:AV):Option (AV×AHeap):=
 (alen x).bind fun m=>if m=0 then(asame s).map fun v=>(v,h)else(zAP e h x m).bind fun news=>agrow e bytes h s news m
def acopy (e:Nat) (h:AHeap) (d s:AV):Option (AV×AHeap):=
 (alen d).bind fun n=>(alen s).bind fun m=>if min m n=0 then some (.int .i64 0,h)else
  match d with
  | .sl o off _ _=>(zAP e h s (min m n)).bind fun cs=>(h.wr o off cs).map fun h'=>(.int .i64 (min m n:Nat),h')
  | _=>none
def okF (P:Program) (f:FuncId):Bool:=
 match P.funcs[f]? with
 | some fn => fn.body.isSome && !(fn.name == "runtime.NumGoroutine")
 | none=>false
end Go.Ab
