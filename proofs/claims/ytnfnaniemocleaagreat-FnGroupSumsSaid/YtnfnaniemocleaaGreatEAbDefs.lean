/- . -/
import Derived.WalkKit
import Derived.Laws.StructEq
import Derived.Lib.AppendZeros
import Derived.Laws.BytesString
set_option linter.defProp false
set_option linter.unusedSimpArgs false
set_option linter.unusedVariables false
abbrev V1:=List Int
abbrev V2:=List (List Int)
abbrev V3:=List (List (List Int))
def na:=@Nat.le_refl
def YQ:=@List.getElem?_eq_getElem
def YX:=@And.intro
def YZ:=@Option.bind_eq_some_iff
def YJ:=@Option.map_eq_some_iff
def YK:=@List.getElem_mem
def YV:=@List.length_append
def YW:=@Nat.zero_le
def YB:=@List.getD_eq_getElem?_getD
def YY:=@List.mem_append
def YG:=@Nat.lt_or_ge
def YU:=@List.take_succ_eq_append_getElem
def YH:=@List.mem_cons
def YF:=@List.eq_nil_of_length_eq_zero
def YN:=@List.mem_singleton
def YM:=@Option.bind_some
def YP:=@Nat.lt_succ_self
def YL:=@List.length_map
def YT:=@List.length_replicate
def YR:=@List.take_of_length_le
def YS:=@List.length_cons
def YD:=@Option.some.injEq
def YC:=@List.length_set
def YE:=@List.mem_iff_getElem
def YA:=@Int.mul_le_mul_of_nonneg_right
def YI:=@Int.toNat_of_nonneg
def YO:=@List.map_cons
def Yq:=@List.getElem?_eq_none
def Yx:=@List.getElem?_append_right
def Yz:=@List.length_singleton
def Yj:=@List.mem_map
def Yk:=@Nat.lt_of_lt_of_le
def Yv:=@Nat.sub_self
def Yw:=@Int.mul_le_mul_of_nonneg_left
def Yb:=@List.append_assoc
def Yy:=@List.getElem?_append_left
def Yg:=@List.take_length
def Yu:=@List.length_take
def Yh:=@List.map_append
def Yf:=@List.mem_of_getElem?
def Yn:=@List.getElem?_eq_some_iff
def Ym:=@Array.getElem?_eq_some_iff
def Yp:=@List.not_mem_nil
def Yl:=@List.mem_cons_of_mem
def Yr:=@Int.tmod_eq_emod_of_nonneg
def Yt:=@Prod.mk.injEq
def Ys:=@List.nil_append
def Yd:=@List.getElem?_take
def Yc:=@Int.emod_eq_of_lt
def Ye:=@List.getElem?_drop
def Ya:=@Int.emod_nonneg
def Yi:=@List.getElem?_set
def Yo:=@List.cons_append
def Y0:=@List.append_nil
def Y3:=@List.map_nil
def Y4:=@Int.emod_lt_of_pos
def Y5:=@Nat.zero_add
def Y6:=@Bool.and_eq_true
def Y7:=@Nat.le_trans
def Y8:=@Nat.le_of_lt
def Y9:=@List.eq_of_mem_replicate
def UQ:=@Nat.le_succ
def UX:=@Int.emod_emod_of_dvd
def UZ:=@Nat.succ_le_of_lt
def UJ:=@List.mem_take_iff_getElem
def UK:=@List.length_drop
def UW:=@List.mem_cons_self
def UB:=@Int.mul_comm
def UY:=@Int.mul_nonneg
def UG:=@Nat.add_assoc
def UU:=@List.getElem?_map
def UH:=@Nat.le_of_eq
def UF:=@List.singleton_append
def UN:=@Nat.add_zero
def UM:=@List.mem_of_mem_take
def UP:=@List.take_zero
def UL:=@Int.mul_zero
def UT:=@Int.mul_assoc
def UR:=@Int.zero_mul
def US:=@Int.tdiv_eq_ediv_of_nonneg
def UD:=@Int.le_refl
def UC:=@List.mem_range
def UE:=@List.take_append_of_le_length
def UA:=@Int.natCast_mul
def UI:=@List.mem_flatMap
def UO:=@Int.dvd_refl
def Uq:=@Int.mul_emod
def Ux:=@Int.neg_mul
def Uz:=@List.getElem_replicate
def Uj:=@Classical.epsilon_spec
def Uk:=@Nat.lt_irrefl
def Uv:=@Int.add_mul
def Uw:=@List.map_map
def Ub:=@Int.natCast_succ
def Uy:=@Int.add_zero
def Ug:=@Bool.or_eq_true
def Uu:=@List.drop_of_length_le
def Uh:=@List.drop_append_of_le_length
def Uf:=@Int.one_mul
def Un:=@Int.mul_neg
def Um:=@Int.lt_or_le
def Ul:=@List.getElem_append_right
def Ur:=@Int.mul_one
def Ut:=@List.getElem_append_left
def Us:=@List.getElem_map
def Ud:=@Nat.add_comm
def Uc:=@Int.zero_add
def Ue:=@List.length_range
def Ua:=@Int.sub_emod
def Ui:=@Array.size_append
def Uo:=@List.ext_getElem
def U0:=@Int.mul_add
namespace Go.Ab
variable{B nt:Nat}
inductive Cap where
 |known (c:Nat)
 |grown (e:Nat)
def optK{α:Type}(o:Option α)(K:α->Prop):Prop:=∃v,o=some v/\K v
theorem zB0{α:Type}(v:α)(K:α->Prop):optK (some v) K=K v:=by
 apply propext;exact⟨λ⟨_,h,k⟩=>by cases h;exact k,λk=>⟨v,rfl,k⟩⟩
theorem zAw{α:Type}(K:α->Prop):optK none K=False:=by
 apply propext;exact⟨λ⟨_,h,_⟩=>(Option.some_ne_none _ h.symm).elim,λk=>k.elim⟩
theorem zNN{α β:Type}(o:Option α)(f:α->Option β)(K:β->Prop):optK (o.bind f) K=optK o λa=>optK (f a) K:=by
 cases o with
 |none=>rw[zAw];exact zAw K
 |some v=>rw[zB0];rfl
theorem zO5{α β:Type}(o:Option α)(f:α->β)(K:β->Prop):optK (o.map f) K=optK o λa=>K (f a):=by
 cases o with
 |none=>rw[zAw];exact zAw K
 |some v=>rw[zB0];exact zB0 _ K
theorem Zo{α:Type}{o:Option α}{v:α}{K:α->Prop}(h:o=some v)(k:K v):optK o K:=⟨v,h,k⟩
inductive AV where
 |undef
 |bool (b:Bool)
 |int (k:IntKind) (n:Int)
 |str (s:List UInt8)
 |nilp
 |ptr (o i:Nat)
 |nils
 |sl (o off len:Nat) (cap:Cap)
 |nilf
 |clo (f:FuncId) (first cJ:List AV)
 |agg (cs:List AV)
 |tup (vs:List AV)
instance:Inhabited AV:=⟨.undef⟩
def AV.one:AV->Bool
 | .undef | .agg _ | .tup _=>false
 |_=>true
def AV.cells:AV->List AV
 | .agg cs=>cs
 |v=>[v]
structure AObj where
 rw:Bool
 cells:List AV
structure AHeap where
 next:Nat
 obj:Nat->Option AObj
namespace AHeap
def new(h:AHeap)(l:AObj):AHeap:=⟨h.next+1,λo=>if o=h.next then some l else h.obj o⟩
def set(h:AHeap)(o:Nat)(cells:List AV):AHeap:=⟨h.next,λl=>if l=o then some ⟨true,cells⟩else h.obj l⟩
def kill(h:AHeap)(o:Nat):AHeap:=⟨h.next,λl=>if l=o then none else h.obj l⟩
def rd1(h:AHeap)(o i:Nat):Option AV:=(h.obj o).bind λl=>l.cells[i]?
def rd(h:AHeap)(o i n:Nat):Option (List AV):=(h.obj o).bind λl=>if i+n<=l.cells.length then some ((l.cells.drop i).take n)else none
def wr(h:AHeap)(o i:Nat)(vs:List AV):Option AHeap:=(h.obj o).bind λl=>
 if l.rw=true/\i+vs.length<=l.cells.length/\vs.all AV.one=true then some (h.set o (l.cells.take i++vs++l.cells.drop (i+vs.length)))else none
end AHeap
abbrev Env:=Nat->AV
def Env.put(e:Env)(d:Option Nat)(v:AV):Env:=match d with
 |some d=>λt=>if t=d then v else e t
 |none=>e
inductive IX where
 |t (n:Nat)
 |c (v:AV)
def IX.ev(e:Env):IX->AV
 | .t n=>e n
 | .c v=>v
inductive EqK where
 |other|bool|slice|pointer|func|ints (n:Nat)
inductive IOp where
 -- quiet
 |mv (x:IX)
 |pick (c a b:IX)
 |bin (op:BinOp) (ek:EqK) (x y:IX)
 |un (op:UnOp) (x:IX)
 |conv (k:IntKind) (x:IX)
 |nilCheck (x:IX)
 |build (zero:List AV) (parts:List (Nat×Nat×IX))
 |field (agg:Bool) (n off:Nat) (x:IX)
 |fieldAddr (off:Nat) (x:IX)
 |indexAddr (e:Nat) (x i:IX)
 |indexStr (x i:IX)
 |extract (x:IX) (i:Nat)
 |len (x:IX)
 |lenStr (x:IX)
 |cap (x:IX)
 |slice (e:Nat) (x:IX) (lo hi mx:Option IX)
 |sliceStr (x:IX) (lo hi:Option IX)
 |maxmin (max:Bool) (x y:IX)
 |makeFunc (f:FuncId) (first cJ:List IX)
 |load (agg:Bool) (n:Nat) (x:IX)
 |rev (k:Nat)
 |revS (k len:Nat)
 -- with CC
 |alloc (zero:List AV)
 |box (x:IX)
 |buildSl (e len:Nat) (zero:List AV) (parts:List (Nat×Nat×IX))
 |store (n:Nat) (x v:IX)
 |makeSl (e bytes:Nat) (zero:List AV) (l c:IX)
 |appendMk (e bytes:Nat) (zero:List AV) (s n:IX)
 |append (e bytes:Nat) (s x:IX)
 |copy (e:Nat) (d s:IX)
 |call (f:FuncId) (args:List IX)
 |callV (f:IX) (args:List IX)
 |strOf (x:IX)
def aint(op:BinOp)(k:IntKind)(a b:Int):Option AV:=
 match op with
 | .add=>some (.int k (k.wrap (a+b)))
 | .sub=>some (.int k (k.wrap (a-b)))
 | .mul=>some (.int k (k.wrap (a*b)))
 | .quo=>if b=0 then none else some (.int k (k.wrap (a.tdiv b)))
 | .rem=>if b=0 then none else some (.int k (a.tmod b))
 | .eql=>some (.bool (decide (a=b)))
 | .neq=>some (.bool (!decide (a=b)))
 | .lss=>some (.bool (decide (a<b)))
 | .leq=>some (.bool (decide (a<=b)))
 | .gtr=>some (.bool (decide (b<a)))
 | .geq=>some (.bool (decide (b<=a)))
 | .and=>some (.int k (k.wrap (BitVec.ofInt k.bits a &&& BitVec.ofInt k.bits b).toNat))
 | .or=>some (.int k (k.wrap (BitVec.ofInt k.bits a ||| BitVec.ofInt k.bits b).toNat))
 | .xor=>some (.int k (k.wrap (BitVec.ofInt k.bits a ^^^ BitVec.ofInt k.bits b).toNat))
 | .andNot=>some (.int k (k.wrap (BitVec.ofInt k.bits a &&& ~~~ BitVec.ofInt k.bits b).toNat))
 |_=>none
def zJF(op:BinOp)(k:IntKind)(a b:Int):Option AV:=
 if b<0 then none else
 match op with
 | .shl=>some (.int k (k.wrap (a*2 ^ (min b.toNat k.bits))))
 | .shr=>some (.int k (a.fdiv (2 ^ (min b.toNat k.bits))))
 |_=>none
def astr(op:BinOp)(a b:List UInt8):Option AV:=
 match op with
 | .add=>if a.length+b.length<=9223372036854775807 then some (.str (a++b))else none
 | .eql=>some (.bool (a == b))
 | .neq=>some (.bool !(a == b))
 | .lss=>some (.bool (Op.bytesLess a b))
 | .leq=>some (.bool (Op.bytesLess a b || a == b))
 | .gtr=>some (.bool !(Op.bytesLess a b || a == b))
 | .geq=>some (.bool !(Op.bytesLess a b))
 |_=>none
def anil(op:BinOp)(r:Bool):Option AV:=
 match op with
 | .eql=>some (.bool r)
 | .neq=>some (.bool !r)
 |_=>none
def aggB:List AV->List AV->Option Bool
 |[],[]=>some true
 | .int k a::xs,.int k' b::ys=>if k=k' then(aggB xs ys).map λr=>decide (a=b) && r else none
 |_,_=>none
def abin(op:BinOp)(l:EqK)(x y:AV):Option AV:=
 match x,y with
 | .int k a,.int k' b=>
  match op with
  | .shl | .shr=>zJF op k a b
  |_=>if k=k' then aint op k a b else none
 | .str a,.str b=>astr op a b
 | .bool a,.bool b=>match l with | .bool=>anil op (a == b)|_=>none
 | .nils,.nils=>match l with | .slice=>anil op true|_=>none
 | .sl _ _ _ _,.nils=>match l with | .slice=>anil op false|_=>none
 | .nils,.sl _ _ _ _=>match l with | .slice=>anil op false|_=>none
 | .nilp,.nilp=>match l with | .pointer=>anil op true|_=>none
 | .ptr _ _,.nilp=>match l with | .pointer=>anil op false|_=>none
 | .nilp,.ptr _ _=>match l with | .pointer=>anil op false|_=>none
 | .nilf,.nilf=>match l with | .func=>anil op true|_=>none
 | .clo _ _ _,.nilf=>match l with | .func=>anil op false|_=>none
 | .nilf,.clo _ _ _=>match l with | .func=>anil op false|_=>none
 | .agg xs,.agg ys=>match l with | .ints n=>if xs.length=n/\ys.length=n then(aggB xs ys).bind λr=>anil op r else none|_=>none
 |_,_=>none
def aun(op:UnOp)(x:AV):Option AV:=
 match op,x with
 | .neg,.int k n=>some (.int k (k.wrap (0-n)))
 | .xor,.int k n=>aint .xor k (if k.signed then -1 else k.max) n
 | .not,.bool b=>some (.bool !b)
 |_,_=>none
def afill(cells:List AV):List (Nat×Nat×AV)->Option (List AV)
 |[]=>some cells
 |(off,size,v)::rest=>
  if v.cells.length=size/\off+size<=cells.length/\v.cells.all AV.one=true then afill (cells.take off++v.cells++cells.drop (off+size)) rest else none
def zA2(x:AV)(y:Nat):Option Nat:=
 match x with
 | .int _ i=>if 0<=i/\i<=y then some i.toNat else none
 |_=>none
def zi(x:Option AV)(l y:Nat):Option Nat:=
 match x with
 |some x=>zA2 x y
 |none=>some l
def QZ(e:Nat)(x:AV)(A u mx:Option AV):Option AV:=
 match x with
 | .sl o off len (.known c)=>
  (zi mx c c).bind λm=>(zi u len m).bind λh=>(zi A 0 h).bind λl=>
   if u.isNone=true/\mx.isSome=true then none else some (.sl o (if m=l then off else off+l*e) (h-l) (.known (m-l)))
 | .sl o off len (.grown g)=>
  match mx with
  |some mx=>(zA2 mx len).bind λm=>(zi u len m).bind λh=>(zi A 0 h).bind λl=>
   if u.isNone=true then none else some (.sl o (if m=l then 0 else off+l*e) (h-l) (.known (m-l)))
  |none=>(zi u len len).bind λh=>(zi A 0 h).bind λl=>
   some (.sl o (off+l*e) (h-l) (.grown (if g=e then g else 0)))
 | .nils=>(zi mx 0 0).bind λm=>(zi u 0 m).bind λh=>(zi A 0 h).bind λ_=>
   if u.isNone=true/\mx.isSome=true then none else some .nils
 |_=>none
def zCC(x:AV)(A u:Option AV):Option AV:=
 match x with
 | .str s=>(zi u s.length s.length).bind λh=>(zi A 0 h).bind λl=>some (.str ((s.take h).drop l))
 |_=>none
def aPick(c a b:AV):Option AV:=
 match c with
 | .bool t=>some (if t=true then a else b)
 |_=>none
def aConv(k:IntKind)(x:AV):Option AV:=
 match x with
 | .int _ n=>some (.int k (k.wrap n))
 |_=>none
def aNil(x:AV):Option AV:=
 match x with
 | .ptr o i=>some (.ptr o i)
 | .clo f a b=>some (.clo f a b)
 |_=>none
def q8(agg:Bool)(n off:Nat)(x:AV):Option AV:=
 match x with
 | .agg cs=>if agg=true then some (.agg ((cs.drop off).take n))else cs[off]?
 |_=>none
def qJ(off:Nat)(x:AV):Option AV:=
 match x with
 | .ptr o i=>some (.ptr o (i+off))
 |_=>none
def qi(sz:Nat)(x i:AV):Option AV:=
 match x,i with
 | .sl o off len _,.int _ n=>if 0<=n/\n<len then some (.ptr o (off+n.toNat*sz))else none
 |_,_=>none
def qd(x i:AV):Option AV:=
 match x,i with
 | .str s,.int _ n=>if 0<=n then(s[n.toNat]?).map λc=>.int .u8 c.toNat else none
 |_,_=>none
def qR(x:AV)(i:Nat):Option AV:=
 match x with
 | .tup vs=>vs[i]?
 |_=>none
def aLen(x:AV):Option AV:=
 match x with
 | .sl _ _ n _=>some (.int .i64 n)
 | .nils=>some (.int .i64 0)
 |_=>none
def qh(x:AV):Option AV:=
 match x with
 | .str s=>some (.int .i64 s.length)
 |_=>none
def aCap(x:AV):Option AV:=
 match x with
 | .sl _ _ _ (.known c)=>some (.int .i64 c)
 | .nils=>some (.int .i64 0)
 |_=>none
def qc(mx:Bool)(x y:AV):Option AV:=
 match x,y with
 | .int k a,.int k' b=>if k=k' then some (.int k (if mx=true then max a b else min a b))else none
 |_,_=>none
def ldv(agg:Bool)(n:Nat)(x:AV)(h:AHeap):Option AV:=
 match x with
 | .ptr o i=>if agg=true then(h.rd o i n).map .agg else h.rd1 o i
 |_=>none
def qv(nb:Nat)(op:IOp)(e:Env)(h:AHeap):Option AV:=
 match op with
 | .mv x=>some (x.ev e)
 | .pick c a b=>aPick (c.ev e) (a.ev e) (b.ev e)
 | .bin op ek x y=>abin op ek (x.ev e) (y.ev e)
 | .un op x=>aun op (x.ev e)
 | .conv k x=>aConv k (x.ev e)
 | .nilCheck x=>aNil (x.ev e)
 | .build z ps=>(afill z (ps.map λp=>(p.1,p.2.1,p.2.2.ev e))).map .agg
 | .field agg n off x=>q8 agg n off (x.ev e)
 | .fieldAddr off x=>qJ off (x.ev e)
 | .indexAddr sz x i=>qi sz (x.ev e) (i.ev e)
 | .indexStr x i=>qd (x.ev e) (i.ev e)
 | .extract x i=>qR (x.ev e) i
 | .len x=>aLen (x.ev e)
 | .lenStr x=>qh (x.ev e)
 | .cap x=>aCap (x.ev e)
 | .slice sz x lo hi mx=>QZ sz (x.ev e) (lo.map (·.ev e)) (hi.map (·.ev e)) (mx.map (·.ev e))
 | .sliceStr x lo hi=>zCC (x.ev e) (lo.map (·.ev e)) (hi.map (·.ev e))
 | .maxmin mx x y=>qc mx (x.ev e) (y.ev e)
 | .makeFunc f first cJ=>some (.clo f (first.map (·.ev e)) (cJ.map (·.ev e)))
 | .load agg n x=>ldv agg n (x.ev e) h
 | .rev k=>some (.ptr (nb+k) 0)
 | .revS k n=>some (.sl (nb+k) 0 n (.known n))
 |_=>none
def zeros(z:List AV)(n:Nat):List AV:=(List.replicate n z).flatten
def alen(x:AV):Option Nat:=
 match x with
 | .nils=>some 0
 | .sl _ _ n _=>some n
 |_=>none
def zAa(e:Nat)(h:AHeap)(x:AV)(n:Nat):Option (List AV):=
 if n=0 then some []else
 match x with
 | .sl o off len _=>if n<=len then h.rd o off (n*e)else none
 |_=>none
def zBo:List AV->Option (List UInt8)
 |[]=>some []
 | .int .u8 n::r=>(zBo r).map λs=>UInt8.ofNat n.toNat::s
 |_=>none
def agrow(e bytes:Nat)(h:AHeap)(s:AV)(news:List AV)(m:Nat):Option (AV×AHeap):=
 match s with
 | .nils=>if m*bytes<=140737488355328/\m<=4611686018427387904 then some (.sl h.next 0 m (.grown e),h.new ⟨true,news⟩)else none
 | .sl o off len (.known c)=>
  if len+m<=c then(h.wr o (off+len*e) news).map λh'=>(.sl o off (len+m) (.known c),h')
  else if (len+m)*bytes<=140737488355328/\len+m<=4611686018427387904 then(h.rd o off (len*e)).map λold=>(.sl h.next 0 (len+m) (.grown e),h.new ⟨true,old++news⟩)else none
 | .sl o off len (.grown g)=>
  if (len+m)*bytes<=140737488355328/\len+m<=4611686018427387904/\g=e then
   (h.obj o).bind λl=>if l.rw=true/\off+len*e<=l.cells.length then some (.sl h.next 0 (len+m) (.grown e),(h.kill o).new ⟨true,(l.cells.drop off).take (len*e)++news⟩)else none
  else none
 |_=>none
def asame(s:AV):Option AV:=
 match s with
 | .nils=>some .nils
 | .sl o off len (.known c)=>if len<=c then some (.sl o off len (.known c))else none
 | .sl o off len (.grown e)=>some (.sl o off len (.grown e))
 |_=>none
def zCo(e bytes:Nat)(h:AHeap)(s x:AV):Option (AV×AHeap):=
 (alen x).bind λm=>if m=0 then(asame s).map λv=>(v,h)else(zAa e h x m).bind λnews=>agrow e bytes h s news m
def acopy(e:Nat)(h:AHeap)(d s:AV):Option (AV×AHeap):=
 (alen d).bind λn=>(alen s).bind λm=>if min m n=0 then some (.int .i64 0,h)else
  match d with
  | .sl o off _ _=>(zAa e h s (min m n)).bind λcs=>(h.wr o off cs).map λh'=>(.int .i64 (min m n:Nat),h')
  |_=>none
def okF(P:Program)(f:FuncId):Bool:=
 match P.funcs[f]? with
 | some fn => fn.body.isSome && !(fn.name == "runtime.NumGoroutine")
 |none=>false
section
open Go.RowKit
structure Loc where
 blk:Nat
 base:Nat
 room:Nat
abbrev Inj:=Nat->Option Loc
mutual
def VI(j:Inj):AV->Value->Prop
 | .undef,_=>True
 | .bool b,cv=>cv=.bool b
 | .int k n,cv=>cv=.int k n
 | .str s,cv=>cv=.string ⟨s.toArray⟩
 | .nilp,cv=>cv=.pointer none
 | .ptr o i,cv=>∃l,j o=some l/\cv=.pointer (some ⟨l.blk,l.base+i,none⟩)
 | .nils,cv=>cv=.slice none 0 0
 | .sl o off len (.known c),cv=>∃l a,j o=some l/\cv=.slice (some a) len c/\(a=⟨l.blk,l.base+off,none⟩\/(c=0/\len=0))
 | .sl o off len (.grown e),cv=>∃l c f,j o=some l/\cv=.slice (some ⟨l.blk,f,none⟩) len c/\len<=c/\(f=l.base+off\/(len=0/\off≠0/\c=0))/\(f=l.base+off->e≠0->off+c*e<=l.room)
 | .nilf,cv=>cv=.nilFunc
 | .clo f fs cs,cv=>∃vs u,VIs j fs vs/\VIs j cs u/\cv=.func (.func f) vs.toArray u.toArray
 | .agg cs,cv=>∃vs,VIs j cs vs/\cv=.agg vs.toArray
 | .tup cs,cv=>∃vs,VIs j cs vs/\cv=.tuple vs.toArray
def VIs(j:Inj):List AV->List Value->Prop
 |[],vs=>vs=[]
 |a::as,vs=>∃v r,vs=v::r/\VI j a v/\VIs j as r
end
def Inj.le(j u:Inj):Prop:=∀o l,j o=some l->u o=some l
theorem Inj.le.refl(j:Inj):j.le j:=λ_ _ h=>h
theorem Inj.le.trans{a b c:Inj}(h:a.le b)(k:b.le c):a.le c:=λo l x=>k o l (h o l x)
mutual
theorem VI.mono{j C:Inj}(A:j.le C):∀(v:AV) (u:Value),VI j v u->VI C v u
 | .undef,_,_=>trivial
 | .bool _,_,h | .int _ _,_,h | .str _,_,h | .nilp,_,h | .nils,_,h | .nilf,_,h=>h
 | .ptr o i,u,h=>by obtain⟨l,a,b⟩:=h;exact⟨l,A _ _ a,b⟩
 | .sl o off len (.known c),u,h=>by obtain⟨l,q,a,b⟩:=h;exact⟨l,q,A _ _ a,b⟩
 | .sl o off len (.grown e),u,h=>by obtain⟨l,c,f,a,b⟩:=h;exact⟨l,c,f,A _ _ a,b⟩
 | .clo f fs cs,u,h=>by obtain⟨vs,D,a,b,c⟩:=h;exact⟨vs,D,VIs.mono A _ _ a,VIs.mono A _ _ b,c⟩
 | .agg cs,u,h=>by obtain⟨vs,a,c⟩:=h;exact⟨vs,VIs.mono A _ _ a,c⟩
 | .tup cs,u,h=>by obtain⟨vs,a,c⟩:=h;exact⟨vs,VIs.mono A _ _ a,c⟩
theorem VIs.mono{j A:Inj}(u:j.le A):∀(v:List AV) (l:List Value),VIs j v l->VIs A v l
 |[],_,h=>h
 |a::as,l,h=>by obtain⟨v,r,e,x,y⟩:=h;exact⟨v,r,e,VI.mono u _ _ x,VIs.mono u _ _ y⟩
end
theorem VIs.length{j:Inj}:∀{vs:List AV} {cs:List Value},VIs j vs cs->vs.length=cs.length
 |[],_,h=>by simp[show _=[] from h]
 |_::_,_,h=>by obtain⟨v,r,rfl,_,h⟩:=h;simp[VIs.length h]
theorem VIs.get{j:Inj}:∀{vs:List AV} {cs:List Value},VIs j vs cs->∀{i:Nat} {v:AV},vs[i]? = some v->∃l,cs[i]? = some l/\VI j v l
 |[],_,_,i,v,hv=>by simp at hv
 |a::as,_,h,i,v,hv=>by
  obtain⟨c,r,rfl,u,h⟩:=h;cases i with
  |zero=>simp at hv;subst hv;exact⟨c,by simp,u⟩
  |succ i=>simp at hv;simpa using VIs.get h hv
theorem VIs.of_get{j:Inj}:∀{vs:List AV} {cs:List Value},vs.length=cs.length->(∀(i:Nat) (v:AV),vs[i]? = some v->∃l,cs[i]? = some l/\VI j v l)->VIs j vs cs
 |[],cs,hl,_=>by cases cs with|nil=>rfl|cons _ _=>simp at hl
 |a::as,[],hl,_=>by simp at hl
 |a::as,c::cs,hl,h=>by
  obtain⟨l,u,A⟩:=h 0 a (by simp);simp at u;subst u;exact⟨c,cs,rfl,A,VIs.of_get (by simpa using hl) λi v C=>by simpa using h (i+1) v (by simpa using C)⟩
theorem VIs.append{j:Inj}:∀{a:List AV} {x:List Value} {b:List AV} {y:List Value},VIs j a x->VIs j b y->VIs j (a++b) (x++y)
 |[],_,_,_,h,k=>by rw[show _=[] from h];exact k
 |_::_,_,_,_,h,k=>by obtain⟨v,r,rfl,l,h⟩:=h;exact⟨v,_,rfl,l,VIs.append h k⟩
theorem VIs.take{j:Inj}:∀{a:List AV} {x:List Value} (n:Nat),VIs j a x->VIs j (a.take n) (x.take n)
 |[],_,_,h=>by rw[show _=[] from h];simp[VIs]
 |_::_,_,0,_=>by simp[VIs]
 |_::_,_,n+1,h=>by obtain⟨v,r,rfl,l,h⟩:=h;exact⟨v,_,rfl,l,VIs.take n h⟩
theorem VIs.drop{j:Inj}:∀{a:List AV} {x:List Value} (n:Nat),VIs j a x->VIs j (a.drop n) (x.drop n)
 |[],_,_,h=>by rw[show _=[] from h];simp[VIs]
 |_::_,_,0,h=>h
 |_::_,_,n+1,h=>by obtain⟨v,r,rfl,l,h⟩:=h;exact VIs.drop n h
theorem VI.oneCell{j:Inj}{v:AV}{u:Value}(h:VI j v u)(A:v.one=true):u.oneCell'=true:=by
 cases v with
 |undef|agg|tup=>simp[AV.one]at A
 |sl o off len cap=>
  cases cap with
  |known c=>obtain⟨l,_,_,rfl,_⟩:=h;rfl
  |grown e=>obtain⟨l,c,f,_,rfl,_⟩:=h;rfl
 |ptr o i=>obtain⟨l,_,rfl⟩:=h;rfl
 |clo=>obtain⟨_,_,_,_,rfl⟩:=h;rfl
 |_=>rw[show u=_ from h];rfl
theorem VI.cells_one{j:Inj}{v:AV}{l:Value}(h:VI j v l)(u:v.one=true):l.cells = #[l]:=by
 have:=VI.oneCell h u
 cases l<;>simp_all [Value.oneCell',Value.cells]
theorem VI.cells{j:Inj}{v:AV}{l:Value}(h:VI j v l)(u:v.cells.all AV.one=true):VIs j v.cells l.cells.toList:=by
 cases v with
 |agg cs=>obtain⟨vs,h,rfl⟩:=h;simpa [AV.cells,Value.cells]using h
 |undef=>simp[AV.cells,AV.one]at u
 |tup=>simp[AV.cells,AV.one]at u
 |_=>rw[h.cells_one rfl];exact⟨l,[],rfl,h,rfl⟩
theorem VIs.oneCell{j:Inj}{vs:List AV}{cs:List Value}(h:VIs j vs cs)(l:vs.all AV.one=true):∀c∈cs,c.oneCell'=true:=by
 intro c u;obtain⟨i,A,rfl⟩:=List.getElem_of_mem u;have E:=h.length;obtain⟨D,e,C⟩:=h.get (i:=i) (YQ (by omega));rw[YQ A]at e;cases e;exact C.oneCell (List.all_eq_true.1 l _ (YK _))
structure ObjOK(B:Nat)(w:World)(j:Inj)(ob:AObj)(l:Loc):Prop where
 one:ob.cells.all AV.one=true
 row:∃cur ty fz,w.heap[l.blk]? = some (.cells cur ty fz)/\(∀i v,ob.cells[i]? = some v->∃cv,cur[l.base+i]? = some cv/\VI j v cv)/\
  (ob.rw=true->fz=(0,0)/\l.base+l.room<=cur.size/\B<=l.blk)/\(ob.rw=false->l.blk<B)
structure MR(B:Nat)(w0:World)(j:Inj)(h:AHeap)(w:World):Prop where
 below:Below B w0 w
 bnd:B<=w.heap.size
 fresh:∀o,h.next<=o->h.obj o=none/\j o=none
 obj:∀o ob l,h.obj o=some ob->j o=some l->ObjOK B w j ob l
 apart:∀o o' ob ju l l',o≠o'->h.obj o=some ob->h.obj o'=some ju->j o=some l->j o'=some l'->ob.rw=true->l.blk≠l'.blk
structure FR(j:Inj)(h:AHeap)(j':Inj)(h':AHeap):Prop where
 next:h.next<=h'.next
 inj:∀o,o<h.next->j' o=j o
 pend:∀o,o<h.next->j o=none->h'.obj o=h.obj o
theorem FR.refl(j:Inj)(h:AHeap):FR j h j h:=⟨na _,λ_ _=>rfl,λ_ _ _=>rfl⟩
theorem FR.trans{j D C:Inj}{h h' u:AHeap}(a:FR j h D h')(b:FR D h' C u):FR j h C u:=
 ⟨Y7 a.next b.next,λo l=>(b.inj o (Yk l a.next)).trans (a.inj o l),
  λo l A=>(b.pend o (Yk l a.next) ((a.inj o l).trans A)).trans (a.pend o l A)⟩
theorem MR.lt{B:Nat}{w0 w:World}{j:Inj}{h:AHeap}(m:MR B w0 j h w){o:Nat}{l:Loc}(u:j o=some l):o<h.next:=by
 rcases YG o h.next with x|x
 .exact x
 .rw[(m.fresh o x).2]at u;cases u
theorem FR.le{B:Nat}{w0 w:World}{j u:Inj}{h h':AHeap}(f:FR j h u h')(m:MR B w0 j h w):j.le u:=
 λo _ l=>(f.inj o (m.lt l)).trans l
theorem MR.drew{B:Nat}{w0 w:World}{j:Inj}{h:AHeap}(m:MR B w0 j h w):MR B w0 j h w.drew:=
 ⟨m.below.drew,m.bnd,m.fresh,λo u l a b=>⟨(m.obj o u l a b).one,(m.obj o u l a b).row⟩,m.apart⟩
def ZZ(P:Program)(f:FuncId)(args:List AV)(h:AHeap)(K:AV->AHeap->Prop):Prop:=
 ∀(B:Nat) (w0:World) (j:Inj) (w:World) (cargs:List Value),MR B w0 j h w->VIs j args cargs->
  Calls P f cargs.toArray w λe A=>∃v h' l u,e=.returned u/\FR j h l h'/\MR B w0 l h' A/\VI l v u/\K v h'
theorem ZZ.mono{P:Program}{f:FuncId}{args:List AV}{h:AHeap}{K K':AV->AHeap->Prop}(c:ZZ P f args h K)(u:∀v h',K v h'->K' v h'):ZZ P f args h K':=
 λB w0 j w cargs m C=>(c B w0 j w cargs m C).mono λ_ _ ⟨v,h',A,l,a,b,c,d,k⟩=>⟨v,h',A,l,a,b,c,d,u _ _ k⟩
end
section
open Go.RowKit
variable{w0 w:World}{j:Inj}{h:AHeap}
theorem MR.cell(m:MR B w0 j h w){o i:Nat}{v:AV}{l:Loc}(A:h.rd1 o i=some v)(H:j o=some l):
  ∃u,w.cell? ⟨l.blk,l.base+i,none⟩=some u/\VI j v u:=by
 unfold AHeap.rd1 at A;cases ho:h.obj o with
 |none=>simp[ho]at A
 |some ob=>
  simp only[ho,YM]at A;obtain⟨cur,ty,fz,C,G,_⟩:=(m.obj o ob l ho H).row;obtain⟨u,D,E⟩:=G i v A;exact⟨u,by simp[World.cell?,C,D],E⟩
theorem AHeap.rd_some{o i n:Nat}{vs:List AV}(l:h.rd o i n=some vs):∃u,h.obj o=some u/\i+n<=u.cells.length/\vs=(u.cells.drop i).take n:=by
 unfold AHeap.rd at l;cases ho:h.obj o with
 |none=>simp[ho]at l
 |some u=>
  simp only[ho,YM]at l;split at l
  .cases l;exact⟨u,rfl,by assumption,rfl⟩
  .cases l
theorem ZB(b o k:Nat):(⟨b,o,none⟩:Addr).add k=⟨b,o+k,none⟩:=by
 unfold Addr.add;split<;>simp_all
theorem MR.cells(m:MR B w0 j h w){o i n:Nat}{vs:List AV}{l:Loc}(R:h.rd o i n=some vs)(K:j o=some l):
  ∃cs:List Value,VIs j vs cs/\cs.length=n/\vs.all AV.one=true/\∀k u,cs[k]? = some u->w.cell? ((⟨l.blk,l.base+i,none⟩:Addr).add k)=some u:=by
 obtain⟨G,L,hle,rfl⟩:=AHeap.rd_some R;have M:=(m.obj o G l L K).one;obtain⟨cur,ty,fz,N,O,_⟩:=(m.obj o G l L K).row;have hlen:((G.cells.drop i).take n).length=n:=by simp;omega
 have J:∀k,k<n->∃C,cur[l.base+i+k]? = some C/\VI j (G.cells.getD (i+k) .undef) C:=by
  intro k A;have I:i+k<G.cells.length:=by omega
  obtain⟨C,E,H⟩:=O (i+k) G.cells[i+k] (YQ I);exact⟨C,by rw[<-E];congr 1;omega,by simpa [List.getD,YQ I]using H⟩
 refine⟨(List.range n).map λk=>cur.getD (l.base+i+k) undef,VIs.of_get (by simp;omega) ?_,by simp,?_,?_⟩
 .intro k v A;have D:k<n:=by
   rcases YG k n with x|x
   .exact x
   .rw[Yq (by omega)]at A;cases A
  obtain⟨C,E,H⟩:=J k D;refine⟨C,by simp[D,Array.getD_eq_getD_getElem?,E],?_⟩;rw[Yd,if_pos D,Ye]at A;rw[List.getD,A]at H;exact H
 .exact List.all_eq_true.2 λx S=>List.all_eq_true.1 M x (List.mem_of_mem_drop (UM S))
 .intro k u A;have D:k<n:=by
   rcases YG k n with x|x
   .exact x
   .rw[Yq (by simp;omega)]at A;cases A
  obtain⟨C,E,_⟩:=J k D;simp[D,Array.getD_eq_getD_getElem?,E]at A;subst A;rw[ZB];simp[World.cell?,N,E]
def Inj.put(j:Inj)(o:Nat)(l:Loc):Inj:=λu=>if u=o then some l else j u
theorem MR.put_le(m:MR B w0 j h w)(l:Loc):j.le (j.put h.next l):=by
 intro o A u
 have:=m.lt u
 unfold Inj.put;rw[if_neg (by omega)];exact u
theorem ObjOK.alloc{C:AObj}{l:Loc}(k:ObjOK B w j C l)(o:Obj){A:Inj}(G:j.le A):ObjOK B (w.alloc o) A C l:=by
 refine⟨k.one,?_⟩;obtain⟨cur,ty,fz,u,E,H⟩:=k.row;refine⟨cur,ty,fz,?_,λi v I=>?_,H⟩
 .rw[heap_alloc_old _ _ (Ym.1 u).1];exact u
 .obtain⟨D,a,b⟩:=E i v I;exact⟨D,a,VI.mono G _ _ b⟩
theorem MR.new(m:MR B w0 j h w){cells:List AV}{cur:Array Value}{ty:TypeId}{room:Nat}(C:cells.all AV.one=true)
  (H:VIs j cells (cur.toList.take cells.length)) (E:room<=cur.size):
  MR B w0 (j.put h.next ⟨w.heap.size,0,room⟩) (h.new ⟨true,cells⟩) (w.alloc (.cells cur ty))/\FR j h (j.put h.next ⟨w.heap.size,0,room⟩) (h.new ⟨true,cells⟩):=by
 have hle:=m.put_le ⟨w.heap.size,0,room⟩;refine⟨⟨m.below.alloc m.bnd _,by simp;have:=m.bnd;omega,?_,?_,?_⟩,?_⟩
 .intro o u;simp only[AHeap.new]at u;simp only[AHeap.new,Inj.put,if_neg (show ¬o=h.next by omega)];exact m.fresh o (by omega)
 .intro o A l u hl;by_cases e:o=h.next
  .subst e;simp only[AHeap.new,if_true,YD]at u;simp only[Inj.put,if_true,YD]at hl;subst u;subst hl;refine⟨C,cur,ty,(0,0),heap_alloc_new w _,λi v I=>?_,λ_=>⟨rfl,by simpa using E,m.bnd⟩,λx=>by cases x⟩;obtain⟨G,a,b⟩:=H.get I;refine⟨G,?_,VI.mono hle _ _ b⟩;rw[Yd]at a;split at a
   .simpa using a
   .cases a
  .simp only[AHeap.new,if_neg e]at u;simp only[Inj.put,if_neg e]at hl;exact(m.obj o A l u hl).alloc _ hle
 .intro o o' A ju l l' an u cW hl bH fa;have old:∀{p:Nat} {A:AObj} {l:Loc},h.obj p=some A->j p=some l->l.blk<w.heap.size:=by
   intro p A l a b;obtain⟨cur,ty,fz,D,_⟩:=(m.obj p A l a b).row;exact(Ym.1 D).1
  by_cases e:o=h.next
  .have e':o'≠h.next:=λx=>an (e.trans x.symm);subst e;simp only[Inj.put,if_true,YD]at hl;simp only[Inj.put,if_neg e']at bH;simp only[AHeap.new,if_neg e']at cW
   have:=old cW bH
   subst hl;show w.heap.size≠_;omega
  .simp only[AHeap.new,if_neg e]at u;simp only[Inj.put,if_neg e]at hl;by_cases e':o'=h.next
   .subst e';simp only[Inj.put,if_true,YD]at bH
    have:=old u hl
    subst bH;show _≠w.heap.size;omega
   .simp only[AHeap.new,if_neg e']at cW;simp only[Inj.put,if_neg e']at bH;exact m.apart o o' A ju l l' an u cW hl bH fa
 .refine⟨by simp[AHeap.new],λo u=>?_,λo u _=>?_⟩
  .simp[Inj.put,Nat.ne_of_lt u]
  .simp[AHeap.new,Nat.ne_of_lt u]
theorem MR.reveal(m:MR B w0 j h w){o:Nat}{cells:List AV}{cur:Array Value}{ty:TypeId}(C:h.obj o=some ⟨true,cells⟩)(I:j o=none)(D:cells.all AV.one=true)
  (H:VIs j cells cur.toList):
  MR B w0 (j.put o ⟨w.heap.size,0,0⟩) h (w.alloc (.cells cur ty))/\j.le (j.put o ⟨w.heap.size,0,0⟩):=by
 have hle:j.le (j.put o ⟨w.heap.size,0,0⟩):=by
  intro p l u;unfold Inj.put;rw[if_neg (λe=>by subst e;rw[I]at u;cases u)];exact u
 have K:o<h.next:=by
  rcases YG o h.next with x|x
  .exact x
  .rw[(m.fresh o x).1]at C;cases C
 refine⟨⟨m.below.alloc m.bnd _,by simp;have:=m.bnd;omega,?_,?_,?_⟩,hle⟩
 .intro p hp;simp only[Inj.put,if_neg (show ¬p=o by omega)];exact m.fresh p hp
 .intro p A l hp u;by_cases e:p=o
  .subst e;rw[C]at hp;simp only[YD]at hp;simp only[Inj.put,if_true,YD]at u;subst hp;subst u;refine⟨D,cur,ty,(0,0),heap_alloc_new w _,λi v J=>?_,λ_=>⟨rfl,by simp,m.bnd⟩,λx=>by cases x⟩;obtain⟨G,a,b⟩:=H.get J;exact⟨G,by simpa using a,VI.mono hle _ _ b⟩
  .simp only[Inj.put,if_neg e]at u;exact(m.obj p A l hp u).alloc _ hle
 .intro p p' A ju l l' an hp j4 u bH fa;have old:∀{p:Nat} {A:AObj} {l:Loc},h.obj p=some A->j p=some l->l.blk<w.heap.size:=by
   intro p A l a b;obtain⟨cur,ty,fz,E,_⟩:=(m.obj p A l a b).row;exact(Ym.1 E).1
  by_cases e:p=o
  .have e':p'≠o:=λx=>an (e.trans x.symm);subst e;simp only[Inj.put,if_true,YD]at u;simp only[Inj.put,if_neg e']at bH
   have:=old j4 bH
   subst u;show w.heap.size≠_;omega
  .simp only[Inj.put,if_neg e]at u;by_cases e':p'=o
   .subst e';simp only[Inj.put,if_true,YD]at bH
    have:=old hp u
    subst bH;show _≠w.heap.size;omega
   .simp only[Inj.put,if_neg e']at bH;exact m.apart p p' A ju l l' an hp j4 u bH fa
theorem AHeap.wr_some{o i:Nat}{vs:List AV}{h':AHeap}(hw:h.wr o i vs=some h'):
  ∃l,h.obj o=some l/\l.rw=true/\i+vs.length<=l.cells.length/\vs.all AV.one=true/\h'=h.set o (l.cells.take i++vs++l.cells.drop (i+vs.length)):=by
 unfold AHeap.wr at hw;cases ho:h.obj o with
 |none=>simp[ho]at hw
 |some l=>
  simp only[ho,YM]at hw;split at hw
  .rename_i x;cases hw;exact⟨l,rfl,x.1,x.2.1,x.2.2,rfl⟩
  .cases hw
theorem MR.setRow(m:MR B w0 j h w){o:Nat}{C:AObj}{l:Loc}{cells:List AV}{cur new:Array Value}{ty:TypeId}{fz:Nat×Nat}(J:h.obj o=some C)(A:j o=some l)(I:C.rw=true)
  (G:w.heap[l.blk]? = some (.cells cur ty fz)) (V:new.size=cur.size) (T:cells.all AV.one=true) (hc:∀(i:Nat) (v:AV),cells[i]? = some v->∃K:Value,new[l.base+i]? = some K/\VI j v K):
  MR B w0 j (h.set o cells) (w.setRow l.blk new)/\FR j h j (h.set o cells):=by
 obtain⟨pA,nU,A1,D,kL,jY,_⟩:=(m.obj o C l J A).row;obtain⟨rfl,U,X⟩:=jY I;have ah:=(Ym.1 G).1;have heq:pA=cur/\fz=(0,0):=by
  rw[G]at D;simp at D;exact⟨D.1.symm,D.2.2⟩
 obtain⟨rfl,rfl⟩:=heq;have L:∀k,k≠l.blk->(w.setRow l.blk new).heap[k]? = w.heap[k]?:=by
  intro k u;simp only[World.setRow,Array.getElem?_modify];rw[if_neg (λe=>u e.symm)]
 have W:(w.setRow l.blk new).heap[l.blk]? = some (.cells new ty (0,0)):=by
  simp[World.setRow,Array.getElem?_modify,G]
 have O:(w.setRow l.blk new).heap.size=w.heap.size:=by simp[World.setRow]
 refine⟨⟨?_,by rw[O];exact m.bnd,?_,?_,?_⟩,?_⟩
 .exact m.below.trans ⟨rfl,rfl,rfl,by rw[O];exact na _,λk u=>L k (by omega)⟩
 .intro p hp
  have:=m.lt A
  simp only[AHeap.set]at hp ⊢;rw[if_neg (by omega)];exact m.fresh p hp
 .intro p DO lp hp qT;by_cases e:p=o
  .subst e;simp only[AHeap.set,if_true,YD]at hp;rw[A]at qT;cases qT;subst hp;exact⟨T,new,ty,(0,0),W,λi v hv=>hc i v hv,λ_=>⟨rfl,by rw[V];exact U,X⟩,λx=>by cases x⟩
  .simp only[AHeap.set,if_neg e]at hp;have u:=m.obj p DO lp hp qT;refine⟨u.one,?_⟩;obtain⟨c,t,f,x,y⟩:=u.row;have H:lp.blk≠l.blk:=λe'=>m.apart o p C DO l lp (λx=>e x.symm) J hp A qT I e'.symm;exact⟨c,t,f,by rw[L _ H];exact x,y⟩
 .intro p p' DO Lg lp Ly H hp j4 qT Fi EE;have conv:∀{q:Nat} {E:AObj},(h.set o cells).obj q=some E->∃R,h.obj q=some R/\(E.rw=true->R.rw=true):=by
   intro q E N;by_cases e:q=o
   .subst e;exact⟨C,J,λ_=>I⟩
   .simp only[AHeap.set,if_neg e]at N;exact⟨E,N,id⟩
  obtain⟨a,Y,S⟩:=conv hp;obtain⟨b,Z,_⟩:=conv j4;exact m.apart p p' a b lp Ly H Y Z qT Fi (S EE)
 .refine⟨na _,λ_ _=>rfl,λp _ M=>?_⟩;simp only[AHeap.set];rw[if_neg (λe=>by subst e;rw[A]at M;cases M)]
theorem MR.kill(m:MR B w0 j h w){o:Nat}{l:Loc}(A:j o=some l):MR B w0 j (h.kill o) w/\FR j h j (h.kill o):=by
 have sub:∀{q:Nat} {C:AObj},(h.kill o).obj q=some C->h.obj q=some C:=by
  intro q C E;by_cases e:q=o
  .subst e;simp[AHeap.kill]at E
  .simpa [AHeap.kill,e]using E
 refine⟨⟨m.below,m.bnd,λp u=>⟨?_,(m.fresh p u).2⟩,λp L l u N=>m.obj p L l (sub u) N,λp M a b l K G u J A H I=>m.apart p M a b l K G (sub u) (sub J) A H I⟩,
  ⟨na _,λ_ _=>rfl,λp _ D=>?_⟩⟩
 .simp only[AHeap.kill]at u ⊢;split
  .rfl
  .exact(m.fresh p u).1
 .simp only[AHeap.kill];rw[if_neg (λe=>by subst e;rw[A]at D;cases D)]
end
section
open Go.RowKit
def toCell:Value->Option AV
 | .bool b=>some (.bool b)
 | .int k n=>some (.int k n)
 | .string s=>some (.str s.data.toList)
 | .pointer none=>some .nilp
 | .slice none 0 0=>some .nils
 | .nilFunc=>some .nilf
 |_=>none
def qU:List Value->Option (List AV)
 |[]=>some []
 |v::r=>(toCell v).bind λa=>(qU r).bind λb=>some (a::b)
def toAV:Value->Option AV
 | .agg cs=>(qU cs.toList).map .agg
 |v=>toCell v
def cx:Operand->Option IX
 | .tmp t=>some (.t t)
 | .const v=>(toAV v).map .c
 | .func f=>some (.c (.clo f [] []))
 | .global _=>none
def cxs:List Operand->Option (List IX)
 |[]=>some []
 |x::r=>(cx x).bind λa=>(cxs r).bind λb=>some (a::b)
def cxo:Option Operand->Option (Option IX)
 |none=>some none
 |some x=>(cx x).map some
def zAy:TypeDesc->Bool
 | .struct _ | .array _ _=>true
 |_=>false
def eqkOf:Option TypeDesc->EqK
 |some .bool=>.bool
 |some (.slice _)=>.slice
 |some (.pointer _)=>.pointer
 |some (.func _ _ _)=>.func
 |_=>.other
def zAz(P:Program):List Field->Nat->Bool
 |[],_=>true
 | f :: fs, i => (f.name != "_") && (f.offset == i) && (match P.underlying f.type with | some (.int _) => true | _ => false) && zAz P fs (i + 1)
def eqk(P:Program)(t:TypeId):EqK:=
 match P.underlying t with
 |some (.struct fs)=>if (zAz P fs.toList 0 && !P.stoodInHeld t && !P.eqGuardType P.depth t)=true then .ints fs.size else .other
 |o=>eqkOf o
def zDx(P:Program)(fields:Array Field):List (Nat×Operand)->Option (List (Nat×Nat×IX))
 |[]=>some []
 |(i,x)::r=>(fields[i]?).bind λf=>(P.info? f.type).bind λl=>(cx x).bind λa=>(zDx P fields r).bind λb=>some ((f.offset,l.size,a)::b)
def carts(size:Nat):List (Nat×Operand)->Option (List (Nat×Nat×IX))
 |[]=>some []
 |(i,x)::r=>(cx x).bind λa=>(carts size r).bind λb=>some ((i*size,size,a)::b)
def copQ(P:Program):Op->Option IOp
 | .move x | .assign x=>(cx x).map .mv
 | .pick c a b=>(cx c).bind λc=>(cx a).bind λa=>(cx b).bind λb=>some (.pick c a b)
 | .binOp op xt x y _=>(cx x).bind λx=>(cx y).bind λy=>some (.bin op (eqk P xt) x y)
 | .unOp op _ x=>(cx x).map (.un op)
 | .convert src dst x=>match P.underlying src,P.underlying dst with
  |some (.int _),some (.int k)=>(cx x).map (.conv k)
  |_,_=>none
 | .nilCheck x=>(cx x).map .nilCheck
 | .field t x f=>match P.underlying t with
  |some (.struct fields)=>(fields[f]?).bind λu=>match P.underlying u.type,P.info? u.type with
   |some d,some i=>(cx x).map (.field (zAy d) i.size u.offset)
   |_,_=>none
  |_=>none
 | .fieldAddr t x f=>match P.underlying t with
  |some (.struct fields)=>(fields[f]?).bind λu=>(P.info? u.type).bind λi=>if i.size=0 then none else(cx x).map (.fieldAddr u.offset)
  |_=>none
 | .indexAddr t x l=>match P.underlying t with
  |some (.slice e)=>(P.info? e).bind λi=>(cx x).bind λx=>(cx l).bind λl=>some (.indexAddr i.size x l)
  |some (.array len e)=>match l with
   | .const (.int _ n)=>(P.info? e).bind λi=>if 0<=n/\n<(len:Int)then(cx x).map (.fieldAddr (n.toNat*i.size))else none
   |_=>none
  |_=>none
 | .index t x l=>match P.underlying t with
  |some .string=>(cx x).bind λx=>(cx l).bind λl=>some (.indexStr x l)
  |_=>none
 | .extract x i=>(cx x).map (.extract · i)
 | .slice t x C A mx=>match P.underlying t with
  |some (.slice e)=>(P.info? e).bind λi=>(cx x).bind λx=>(cxo C).bind λC=>(cxo A).bind λA=>(cxo mx).bind λmx=>some (.slice i.size x C A mx)
  |some .string=>(cx x).bind λx=>(cxo C).bind λC=>(cxo A).bind λA=>match mx with|none=>some (.sliceStr x C A)|some _=>none
  |_=>none
 | .makeFunc (.func f) first E=>(cxs first.toList).bind λfirst=>(cxs E.toList).bind λE=>some (.makeFunc f first E)
 | .load t x=>match P.underlying t,P.info? t with
  |some d,some i=>(cx x).map (.load (zAy d) i.size)
  |_,_=>none
 | .build t D=>match P.underlying t,(P.info? t).bind (·.zero)with
  |some (.struct fields),some (.agg z)=>if fields.toList.all (λf=>(P.info? f.type).isSome)=true then(qU z.toList).bind λz=>(zDx P fields D.toList).bind λD=>some (.build z D)else none
  |some (.array _ e),some (.agg z)=>(P.info? e).bind λi=>(qU z.toList).bind λz=>(carts i.size D.toList).bind λD=>some (.build z D)
  |_,_=>none
 | .call { callee:=.builtin b,args,argTypes }=>
  match b,args.toList,argTypes.toList with
  | .len,[x],[t]=>match P.underlying t with
   |some (.slice _)=>(cx x).map .len
   |some .string=>(cx x).map .lenStr
   |_=>none
  | .cap,[x],[t]=>match P.underlying t with
   |some (.slice _)=>(cx x).map .cap
   |_=>none
  | .max,[x,y],[t,_]=>match P.underlying t with
   |some (.int _)=>(cx x).bind λx=>(cx y).bind λy=>some (.maxmin true x y)
   |_=>none
  | .min,[x,y],[t,_]=>match P.underlying t with
   |some (.int _)=>(cx x).bind λx=>(cx y).bind λy=>some (.maxmin false x y)
   |_=>none
  |_,_,_=>none
 |_=>none
structure ER(nt:Nat)(j:Inj)(e:Env)(a:Act):Prop where
 vals:∀t,VI j (e t) (a.tmps.getD t undef)
 size:a.tmps.size=nt
 defers:a.defers=[]
variable{P:Program}{w:World}{j:Inj}{nt:Nat}{e:Env}{a:Act}
theorem ER.mono{l:Inj}(r:ER nt j e a)(u:j.le l):ER nt l e a:=⟨λt=>VI.mono u _ _ (r.vals t),r.size,r.defers⟩
theorem ER.put(r:ER nt j e a){d:Option Nat}{v:AV}{u:Value}(hd:∀t,d=some t->t<nt)(C:VI j v u):ER nt j (e.put d v) (a.put d u):=by
 cases d with
 |none=>exact r
 |some d=>
  have A:d<a.tmps.size:=by rw[r.size];exact hd d rfl
  refine⟨λt=>?_,by simp[Act.put,r.size],r.defers⟩;simp only[Env.put,Act.put,Array.getD_eq_getD_getElem?,Array.getElem?_setIfInBounds];by_cases l:t=d
  .subst l;simpa [A]using C
  .rw[if_neg l,if_neg (λx=>l x.symm)]
   have:=r.vals t
   rwa[Array.getD_eq_getD_getElem?]at this
theorem zFf{v:Value}{av:AV}(l:toCell v=some av):VI j av v/\av.one=true/\v.cells = #[v]:=by
 unfold toCell at l;split at l<;>first|(cases l;exact⟨rfl,rfl,rfl⟩)|cases l
theorem qV:∀{vs:List Value} {l:List AV},qU vs=some l->VIs j l vs/\l.all AV.one=true
 |[],l,hv=>by cases hv;exact⟨rfl,rfl⟩
 |v::r,l,hv=>by
  simp only[qU,YZ]at hv;obtain⟨x,C,y,D,E⟩:=hv;cases E;have u:=zFf (j:=j) C;have A:=qV D;exact⟨⟨v,r,rfl,u.1,A.1⟩,by simp[u.2.1,A.2]⟩
theorem zLI{v:Value}{av:AV}(l:toAV v=some av):VI j av v:=by
 unfold toAV at l;split at l
 .simp only[YJ]at l;obtain⟨x,u,rfl⟩:=l;rename_i cs;exact⟨cs.toList,(qV u).1,by simp⟩
 .exact(zFf l).1
theorem zN(r:ER nt j e a){x:Operand}{u:IX}(l:cx x=some u):VI j (u.ev e) (a.eval x):=by
 cases x with
 |tmp t=>cases l;exact r.vals t
 |const v=>
  simp only[cx,YJ]at l;obtain⟨av,A,rfl⟩:=l;exact zLI A
 |func f=>cases l;exact⟨[],[],rfl,rfl,rfl⟩
 |global g=>cases l
theorem zA1(r:ER nt j e a):∀{xs:List Operand} {ixs:List IX},cxs xs=some ixs->VIs j (ixs.map (·.ev e)) (xs.map a.eval)
 |[],_,hx=>by cases hx;rfl
 |x::xs,ixs,hx=>by
  simp only[cxs,YZ]at hx;obtain⟨p,l,q,u,A⟩:=hx;cases A;exact⟨_,_,rfl,zN r l,zA1 r u⟩
theorem zN4(r:ER nt j e a){x:Option Operand}{A:Option IX}(u:cxo x=some A):
  (x=none/\A=none)\/∃y l,x=some y/\A=some l/\VI j (l.ev e) (a.eval y):=by
 cases x with
 |none=>cases u;exact .inl ⟨rfl,rfl⟩
 |some y=>
  simp only[cxo,YJ]at u;obtain⟨l,C,rfl⟩:=u;exact .inr ⟨y,l,rfl,rfl,zN r C⟩
def Runs(P:Program)(s:Sem Value)(w:World)(j:Inj)(v:AV):Prop:=∃l,s.run P w=.ok l w/\VI j v l
theorem zMS{op:BinOp}{k:IntKind}{x y:Int}{A:TypeId}{v:AV}(u:op≠.shl/\op≠.shr)(l:aint op k x y=some v):
  Runs P (binOp op A (.int k x) (.int k y)) w j v:=by
 cases op<;>simp only[aint]at l<;>(try (split at l))<;>simp only[YD,reduceCtorEq]at l<;>(try subst l)<;>
  first
  |exact absurd rfl u.1
  |exact absurd rfl u.2
  |(refine⟨_,?_,rfl⟩;simp[binOp,Op.intArith,Op.intDiv,Op.intCmp,Op.intBits, *];done)
  |(refine⟨_,?_,rfl⟩;simp[binOp,Op.intArith,Op.intDiv,Op.intCmp,Op.intBits, *];first|rfl|(congr 1)|skip)
theorem zD4{op:BinOp}{k C:IntKind}{x y:Int}{D:TypeId}{v:AV}(u:op=.shl\/op=.shr)(l:zJF op k x y=some v):
  Runs P (binOp op D (.int k x) (.int C y)) w j v:=by
 unfold zJF at l;split at l
 .cases l
 .rename_i A;rcases u with rfl|rfl<;>simp only[YD]at l<;>subst l<;>refine⟨_,?_,rfl⟩<;>simp[binOp,Op.shift,A]
theorem zMQ{op:BinOp}{x y:List UInt8}{C:TypeId}{v:AV}(l:astr op x y=some v):
  Runs P (binOp op C (.string ⟨x.toArray⟩) (.string ⟨y.toArray⟩)) w j v:=by
 have u:(⟨x.toArray⟩:ByteArray).toList=x:=by rw[ByteArray.toList_eq]
 have A:(⟨y.toArray⟩:ByteArray).toList=y:=by rw[ByteArray.toList_eq]
 have D:(⟨x.toArray⟩:ByteArray).size=x.length:=by simp[ByteArray.size]
 have E:(⟨y.toArray⟩:ByteArray).size=y.length:=by simp[ByteArray.size]
 cases op<;>simp only[astr]at l<;>(try (split at l))<;>simp only[YD,reduceCtorEq]at l<;>(try subst l)
 case add.isTrue hle=>
  refine⟨_,?_,rfl⟩
  have:¬(((x.length+y.length:Nat):Int) > IntKind.i64.max):=by
   have:IntKind.i64.max=9223372036854775807:=by decide
   rw[this];omega
  simp only[binOp,Op.stringOp,D,E,if_neg this];simp;congr 1
 all_goals (refine⟨_,?_,rfl⟩;simp[binOp,Op.stringOp,u,A])
def zIC:Value->Bool
 | .nilIface | .agg _=>false
 |_=>true
theorem zHf{op:BinOp}{t:TypeId}{x y:Operand}{c d:Value}(l:zIC c=true):(eqGuard op t x y c d).run P w=.ok () w:=by
 unfold eqGuard;cases c<;>simp[zIC]at l<;>cases op<;>simp
theorem zIr(d:Nat){t:TypeId}(l:P.underlying t=some .bool)(x y:Bool):(Op.equalIn (d+1) t (.bool x) (.bool y)).run P w=.ok (x == y) w:=by
 simp[Op.equalIn,run_underlying l]
theorem zME{t:TypeId}(l:P.underlying t=some .bool)(x y:Bool):(Op.equal t (.bool x) (.bool y)).run P w=.ok (x == y) w:=zIr 9999 l x y
theorem zEZ(d:Nat){t l:TypeId}(u:P.underlying t=some (.slice l))(o:Option Addr)(n c:Nat):(Op.equalIn (d+1) t (.slice o n c) (.slice none 0 0)).run P w=.ok o.isNone w:=by
 cases o<;>simp[Op.equalIn,run_underlying u]
theorem zB7{t l:TypeId}(u:P.underlying t=some (.slice l))(o:Option Addr)(n c:Nat):(Op.equal t (.slice o n c) (.slice none 0 0)).run P w=.ok o.isNone w:=zEZ 9999 u o n c
theorem zEb(d:Nat){t l:TypeId}(u:P.underlying t=some (.slice l))(o:Option Addr)(n c:Nat):(Op.equalIn (d+1) t (.slice none 0 0) (.slice o n c)).run P w=.ok o.isNone w:=by
 cases o<;>simp[Op.equalIn,run_underlying u]
theorem zGF{t l:TypeId}(u:P.underlying t=some (.slice l))(o:Option Addr)(n c:Nat):(Op.equal t (.slice none 0 0) (.slice o n c)).run P w=.ok o.isNone w:=zEb 9999 u o n c
theorem zGD(d:Nat){t l:TypeId}(u:P.underlying t=some (.pointer l))(o:Option Addr):(Op.equalIn (d+1) t (.pointer o) (.pointer none)).run P w=.ok o.isNone w:=by
 cases o<;>simp[Op.equalIn,run_underlying u]
theorem zDH{t l:TypeId}(u:P.underlying t=some (.pointer l))(o:Option Addr):(Op.equal t (.pointer o) (.pointer none)).run P w=.ok o.isNone w:=zGD 9999 u o
theorem zGG(d:Nat){t l:TypeId}(u:P.underlying t=some (.pointer l))(o:Option Addr):(Op.equalIn (d+1) t (.pointer none) (.pointer o)).run P w=.ok o.isNone w:=by
 cases o<;>simp[Op.equalIn,run_underlying u]
theorem zHe{t l:TypeId}(u:P.underlying t=some (.pointer l))(o:Option Addr):(Op.equal t (.pointer none) (.pointer o)).run P w=.ok o.isNone w:=zGG 9999 u o
theorem zIq(d:Nat){t:TypeId}{u rs:Array TypeId}{A:Bool}(l:P.underlying t=some (.func u rs A)):(Op.equalIn (d+1) t .nilFunc .nilFunc).run P w=.ok true w:=by
 simp[Op.equalIn,run_underlying l]
theorem zMD{t:TypeId}{u rs:Array TypeId}{A:Bool}(l:P.underlying t=some (.func u rs A)):(Op.equal t .nilFunc .nilFunc).run P w=.ok true w:=zIq 9999 l 
theorem zEa(d:Nat){t:TypeId}{u rs:Array TypeId}{A:Bool}(l:P.underlying t=some (.func u rs A))(f:Fn)(x y:Array Value):(Op.equalIn (d+1) t .nilFunc (.func f x y)).run P w=.ok false w:=by
 simp[Op.equalIn,run_underlying l]
theorem zGE{t:TypeId}{u rs:Array TypeId}{A:Bool}(l:P.underlying t=some (.func u rs A))(f:Fn)(x y:Array Value):(Op.equal t .nilFunc (.func f x y)).run P w=.ok false w:=zEa 9999 l f x y
theorem zEc(d:Nat){t:TypeId}{u rs:Array TypeId}{A:Bool}(l:P.underlying t=some (.func u rs A))(f:Fn)(x y:Array Value):(Op.equalIn (d+1) t (.func f x y) .nilFunc).run P w=.ok false w:=by
 simp[Op.equalIn,run_underlying l]
theorem zGH{t:TypeId}{u rs:Array TypeId}{A:Bool}(l:P.underlying t=some (.func u rs A))(f:Fn)(x y:Array Value):(Op.equal t (.func f x y) .nilFunc).run P w=.ok false w:=zEc 9999 l f x y
theorem qw{op:BinOp}{r:Bool}{t:TypeId}{c d:Value}{v:AV}(l:anil op r=some v)(u:(Op.equal t c d).run P w=.ok r w)
  (A:op=.eql->binOp op t c d=do pure (.bool (<-Op.equal t c d))) (C:op=.neq->binOp op t c d=do pure (.bool (!(<-Op.equal t c d)))):Runs P (binOp op t c d) w j v:=by
 cases op<;>simp only[anil,YD,reduceCtorEq]at l
 .subst l;exact⟨_,by rw[A rfl];simp[u],rfl⟩
 .subst l;exact⟨_,by rw[C rfl];simp[u],rfl⟩
theorem Qu{t:TypeId}{k:EqK}(l:eqk P t=k)(u:∀n,k≠.ints n)(A:k≠.other):eqkOf (P.underlying t)=k:=by
 unfold eqk at l;split at l
 .split at l
  .exact absurd l.symm (u _)
  .exact absurd l.symm A
 .exact l
theorem zPN{t:TypeId}{n:Nat}(l:eqk P t=.ints n):∃u,P.underlying t=some (.struct u)/\u.size=n/\zAz P u.toList 0=true/\P.stoodInHeld t=false/\P.eqGuardType P.depth t=false:=by
 unfold eqk at l;split at l
 .rename_i u C;split at l
  .rename_i A;simp only[Y6,Bool.not_eq_true']at A;cases l;exact⟨u,C,rfl,A.1.1,A.1.2,A.2⟩
  .cases l
 .unfold eqkOf at l;split at l<;>cases l
theorem zDQ{t:TypeId}{k:IntKind}(l:P.underlying t=some (.int k)){xs:Array Value}{off:Nat}{v:Value}(u:xs[off]? = some v):(part t xs off).run P w=.ok v w:=by
 unfold part isAgg;simp[run_underlying l,u]
theorem zGQ{d:Nat}{cx cy:Array Value}:∀(l:List Field) (i:Nat) {xs ys:List AV} {r:Bool} {vs A:List Value},zAz P l i=true->aggB xs ys=some r->l.length=xs.length->VIs j xs vs->VIs j ys A->(∀k,cx[i+k]? = vs[k]?)->(∀k,cy[i+k]? = A[k]?)->
  (Op.eqFields (d+1) cx cy l).run P w=.ok r w
 |[],i,xs,ys,r,vs,A,hf,hr,hl,hv,hu,h1,h2=>by
  have:xs=[]:=YF hl.symm
  subst this;cases ys with
  |nil=>cases hr;simp[Op.eqFields]
  |cons y ys=>simp[aggB]at hr
 |f::l,i,xs,ys,r,vs,A,hf,hr,hl,hv,hu,h1,h2=>by
  simp only[zAz,Y6,bne_iff_ne,ne_eq,beq_iff_eq]at hf;obtain⟨⟨⟨L,D⟩,E⟩,M⟩:=hf;cases xs with
  |nil=>cases hl
  |cons x xs=>
  cases ys with
  |nil=>cases x<;>simp[aggB]at hr
  |cons y ys=>
  cases x<;>cases y<;>simp only[aggB,reduceCtorEq]at hr
  rename_i k a T b;split at hr
  .rename_i N;subst N;obtain⟨U,R,rfl⟩:=YJ.1 hr;obtain⟨v,vs,rfl,rfl,K⟩:=hv;obtain⟨u,A,rfl,rfl,H⟩:=hu;have I:cx[f.offset]? = some (.int k a):=by rw[D];exact h1 0
   have J:cy[f.offset]? = some (.int k b):=by rw[D];exact h2 0
   have O:=zGQ (d:=d) (cx:=cx) (cy:=cy) l (i+1) M R (by simpa using hl) K H (λk=>by have:=h1 (k+1);rw[show i+1+k=i+(k+1) by omega];exact this) (λk=>by have:=h2 (k+1);rw[show i+1+k=i+(k+1) by omega];exact this);split at E
   .rename_i S C;unfold Op.eqFields;rw[if_pos L];simp only[Sem.run_bind,zDQ C I,zDQ C J,Result.andThen_ok,run_equalIn_int w d f.type k S a b C];by_cases G:a=b
    .subst G;simp[O]
    .simp[G]
   .cases E
  .cases hr
theorem zPO{o:Option TypeDesc}(l:eqkOf o=.bool):o=some .bool:=by
 unfold eqkOf at l;split at l<;>first|rfl|cases l
theorem zDu{o:Option TypeDesc}(l:eqkOf o=.slice):∃u,o=some (.slice u):=by
 unfold eqkOf at l;split at l<;>first|exact⟨_,rfl⟩|cases l
theorem zCM{o:Option TypeDesc}(l:eqkOf o=.pointer):∃u,o=some (.pointer u):=by
 unfold eqkOf at l;split at l<;>first|exact⟨_,rfl⟩|cases l
theorem zFT{o:Option TypeDesc}(l:eqkOf o=.func):∃a b c,o=some (.func a b c):=by
 unfold eqkOf at l;split at l<;>first|exact⟨_,_,_,rfl⟩|cases l
theorem VI.slice_ne{o off len:Nat}{cap:Cap}{c:Value}(u:VI j (.sl o off len cap) c):∃x n m,c=.slice (some x) n m:=by
 cases cap with
 |known q=>obtain⟨l,_,_,rfl,_⟩:=u;exact⟨_,_,_,rfl⟩
 |grown q=>obtain⟨l,_,_,_,rfl,_⟩:=u;exact⟨_,_,_,rfl⟩
theorem zMT{op:BinOp}{E:TypeId}{x y v:AV}{c d:Value}(u:abin op (eqk P E) x y=some v)(D:VI j x c)(hd:VI j y d):
  Runs P (binOp op E c d) w j v/\(zIC c=true\/(P.eqGuardType P.depth E=false/\∃xs ys,c=.agg xs/\d=.agg ys)):=by
 unfold abin at u;split at u
 .rename_i k n Z m;rw[show c=_ from D,show d=_ from hd];refine⟨?_,.inl rfl⟩;split at u
  .exact zD4 (.inl rfl) u
  .exact zD4 (.inr rfl) u
  .rename_i W X;split at u
   .rename_i M;subst M;exact zMS ⟨W,X⟩ u
   .cases u
 .rw[show c=_ from D,show d=_ from hd];exact⟨zMQ u,.inl rfl⟩
 .rw[show c=_ from D,show d=_ from hd];split at u
  .rename_i A;exact⟨qw u (zME (zPO (Qu A (λ_=>by simp) (by simp))) _ _) (λe=>by subst e;rfl) (λe=>by subst e;rfl),.inl rfl⟩
  .cases u
 .split at u
  .rename_i A;obtain⟨G,C⟩:=zDu (Qu A (λ_=>by simp) (by simp));rw[show c=_ from D,show d=_ from hd];exact⟨qw u (zB7 C _ _ _) (λe=>by subst e;rfl) (λe=>by subst e;rfl),.inl rfl⟩
  .cases u
 .split at u
  .rename_i A;obtain⟨G,C⟩:=zDu (Qu A (λ_=>by simp) (by simp));obtain⟨x,n,m,rfl⟩:=VI.slice_ne D;rw[show d=_ from hd];exact⟨qw u (zB7 C _ _ _) (λe=>by subst e;rfl) (λe=>by subst e;rfl),.inl rfl⟩
  .cases u
 .split at u
  .rename_i A;obtain⟨G,C⟩:=zDu (Qu A (λ_=>by simp) (by simp));obtain⟨x,n,m,rfl⟩:=VI.slice_ne hd;rw[show c=_ from D];exact⟨qw u (zGF C _ _ _) (λe=>by subst e;rfl) (λe=>by subst e;rfl),.inl rfl⟩
  .cases u
 .split at u
  .rename_i A;obtain⟨G,C⟩:=zCM (Qu A (λ_=>by simp) (by simp));rw[show c=_ from D,show d=_ from hd];exact⟨qw u (zDH C _) (λe=>by subst e;rfl) (λe=>by subst e;rfl),.inl rfl⟩
  .cases u
 .split at u
  .rename_i A;obtain⟨G,C⟩:=zCM (Qu A (λ_=>by simp) (by simp));rw[show d=_ from hd];obtain⟨l,_,rfl⟩:=D;exact⟨qw u (zDH C _) (λe=>by subst e;rfl) (λe=>by subst e;rfl),.inl rfl⟩
  .cases u
 .split at u
  .rename_i A;obtain⟨G,C⟩:=zCM (Qu A (λ_=>by simp) (by simp));rw[show c=_ from D];obtain⟨l,_,rfl⟩:=hd;exact⟨qw u (zHe C _) (λe=>by subst e;rfl) (λe=>by subst e;rfl),.inl rfl⟩
  .cases u
 .split at u
  .rename_i A;obtain⟨a,b,r,C⟩:=zFT (Qu A (λ_=>by simp) (by simp));rw[show c=_ from D,show d=_ from hd];exact⟨qw u (zMD C) (λe=>by subst e;rfl) (λe=>by subst e;rfl),.inl rfl⟩
  .cases u
 .split at u
  .rename_i A;obtain⟨a,b,r,C⟩:=zFT (Qu A (λ_=>by simp) (by simp));rw[show d=_ from hd];obtain⟨_,_,_,_,rfl⟩:=D;exact⟨qw u (zGH C _ _ _) (λe=>by subst e;rfl) (λe=>by subst e;rfl),.inl rfl⟩
  .cases u
 .split at u
  .rename_i A;obtain⟨a,b,r,C⟩:=zFT (Qu A (λ_=>by simp) (by simp));rw[show c=_ from D];obtain⟨_,_,_,_,rfl⟩:=hd;exact⟨qw u (zGE C _ _ _) (λe=>by subst e;rfl) (λe=>by subst e;rfl),.inl rfl⟩
  .cases u
 .split at u
  .rename_i xs ys n A;split at u
   .rename_i U;obtain⟨I,J,N,O,R,S⟩:=zPN A;obtain⟨r,V,u⟩:=YZ.1 u;obtain⟨vs,L,rfl⟩:=D;obtain⟨Y,K,rfl⟩:=hd;have H:P.fieldsOf E=I:=by simp[Program.fieldsOf,J]
    have T:(Op.equalIn 10000 E (.agg vs.toArray) (.agg Y.toArray)).run P w=.ok r w:=by
     rw[run_equalIn_struct w 9999 E _ _ (by rw[H];exact J) R,H];exact zGQ (d:=9998) I.toList 0 O V (by rw[U.1,<-N];simp) L K (λk=>by simp) (λk=>by simp)
    refine⟨qw u T (λe=>by subst e;rfl) (λe=>by subst e;rfl),.inr ⟨S,_,_,rfl,rfl⟩⟩
   .cases u
  .cases u
 .cases u
theorem zOB{op:UnOp}{x v:AV}{c:Value}(l:aun op x=some v)(u:VI j x c):Runs P (Op.unary op c) w j v:=by
 unfold aun at l;split at l
 .rw[show c=_ from u];cases l;exact⟨_,by simp[Op.unary,Op.intArith],rfl⟩
 .rw[show c=_ from u];simp only[aint,YD]at l;subst l;exact⟨_,by simp[Op.unary,Op.intBits],rfl⟩
 .rw[show c=_ from u];cases l;exact⟨_,by simp[Op.unary],rfl⟩
 .cases l
end
section
open Go.RowKit
variable{P:Program}{w0 w:World}{j:Inj}{h:AHeap}{e:Env}{a:Act}
theorem zBu{t:TypeId}{d:TypeDesc}(l:P.underlying t=some d):(isAgg t).run P w=.ok (zAy d) w:=by
 simp only[isAgg,Sem.run_bind,run_underlying l,Result.andThen_ok];cases d<;>rfl
theorem zh{t:TypeId}{i:TypeInfo}(l:P.info? t=some i):(sizeOf t).run P w=.ok i.size w:=by
 simp[sizeOf,typeInfo,l]
theorem zFz(m:MR B w0 j h w){t:TypeId}{d:TypeDesc}{i:TypeInfo}(E:P.underlying t=some d)(K:P.info? t=some i){o k:Nat}{v:AV}{c:Value}(J:VI j (.ptr o k) c)
  (u:(if zAy d=true then(h.rd o k i.size).map AV.agg else h.rd1 o k)=some v):Runs P (Instr.loadAt t c) w j v:=by
 obtain⟨l,D,rfl⟩:=J;cases hd:zAy d with
 |true=>
  rw[hd,if_pos rfl]at u;simp only[YJ]at u;obtain⟨vs,G,rfl⟩:=u;obtain⟨cs,A,C,_,I⟩:=m.cells G D;refine⟨.agg cs.toArray,?_,cs,A,rfl⟩
  have:=run_loadCells_list (P:=P) w _ cs I
  rw[C]at this;simp[Instr.loadAt,Instr.sureAddr,loadVar,zBu E,hd,zh K,this]
 |false=>
  rw[hd]at u;simp only[Bool.false_eq_true,if_false]at u;obtain⟨H,A,C⟩:=m.cell u D;exact⟨H,by simp[Instr.loadAt,Instr.sureAddr,loadVar,zBu E,hd,A],C⟩
theorem extract_toList{α:Type}(cs:List α)(off n:Nat):cs.toArray.extract off (off+n)=((cs.drop off).take n).toArray:=by
 apply Array.ext';simp[Array.toList_extract]
theorem zKU{t:TypeId}{fields:Array Field}{f:Nat}{l:Field}{d:TypeDesc}{i:TypeInfo}(D:P.underlying t=some (.struct fields))(C:fields[f]? = some l)
  (hd:P.underlying l.type=some d) (J:P.info? l.type=some i) {cs:List AV} {v:AV} {c:Value} (I:VI j (.agg cs) c)
  (u:(if zAy d=true then some (AV.agg ((cs.drop l.offset).take i.size))else cs[l.offset]?)=some v):Runs P (Instr.field t c f) w j v:=by
 obtain⟨vs,A,rfl⟩:=I;cases hg:zAy d with
 |true=>
  rw[hg,if_pos rfl]at u;cases u;refine⟨.agg ((vs.drop l.offset).take i.size).toArray,?_,_,(A.drop _).take _,rfl⟩;simp[Instr.field,run_underlying D,C,part,zBu hd,hg,asAgg,zh J,extract_toList]
 |false=>
  rw[hg]at u;simp only[Bool.false_eq_true,if_false]at u;obtain⟨E,G,H⟩:=A.get u;exact⟨E,by simp[Instr.field,run_underlying D,C,part,zBu hd,hg,asAgg,G],H⟩
theorem zGC{t:TypeId}{fields:Array Field}{f:Nat}{u:Field}{i:TypeInfo}(G:P.underlying t=some (.struct fields))(C:fields[f]? = some u)
  (D:P.info? u.type=some i) (hs:i.size≠0) {o k:Nat} {c:Value} (A:VI j (.ptr o k) c):Runs P (Instr.fieldAt t c f) w j (.ptr o (k+u.offset)):=by
 obtain⟨l,E,rfl⟩:=A;refine⟨_,?_,l,E,rfl⟩;simp[Instr.fieldAt,run_underlying G,C,Instr.sureAddr,fieldPlace,zh D,hs,ZB,UG]
theorem zGP{t u:TypeId}{len:Nat}{i:TypeInfo}(H:P.underlying t=some (.array len u))(E:P.info? u=some i){o k:Nat}{I:IntKind}{n:Int}{c:Value}
  (D:VI j (.ptr o k) c) (A:0<=n) (C:n<len):Runs P (Instr.indexAt t c (.int I n)) w j (.ptr o (k+n.toNat*i.size)):=by
 obtain⟨l,G,rfl⟩:=D;refine⟨.pointer (some ⟨l.blk,l.base+k+n.toNat*i.size,none⟩),?_,l,G,by rw[UG]⟩;simp[Instr.indexAt,asIntOf,Instr.sureAddr,run_underlying H,A,C,zh E,ZB]
theorem zF8{t A:TypeId}{i:TypeInfo}(J:P.underlying t=some (.slice A))(I:P.info? A=some i){o off len:Nat}{cap:Cap}{k:IntKind}{n:Int}{c:Value}
  (C:VI j (.sl o off len cap) c) (D:0<=n) (E:n<len):Runs P (Instr.indexAt t c (.int k n)) w j (.ptr o (off+n.toNat*i.size)):=by
 have key:∃l cp,j o=some l/\c=.slice (some ⟨l.blk,l.base+off,none⟩) len cp:=by
  cases cap with
  |known q=>
   obtain⟨l,a,u,rfl,G⟩:=C;rcases G with rfl|⟨_,K⟩
   .exact⟨l,_,u,rfl⟩
   .omega
  |grown q=>
   obtain⟨l,cp,f,u,rfl,_,H,_⟩:=C;rcases H with rfl|⟨K,_⟩
   .exact⟨l,_,u,rfl⟩
   .omega
 obtain⟨l,cp,u,rfl⟩:=key;refine⟨.pointer (some ⟨l.blk,l.base+off+n.toNat*i.size,none⟩),?_,l,u,by rw[UG]⟩;simp[Instr.indexAt,asIntOf,run_underlying J,D,E,zh I,ZB]
theorem QQ{x:AV}{y m:Nat}{c:Value}(l:zA2 x y=some m)(A:VI j x c)(code:BoundsCode):(Instr.sliceBound c y code).run P w=.ok m w/\m<=y:=by
 unfold zA2 at l;split at l
 .rename_i k i;split at l
  .rename_i u;cases l;rw[show c=_ from A];exact⟨run_sliceBound w k i y code u.1 u.2,by omega⟩
  .cases l
 .cases l
def OB(j:Inj):Option AV->Option Value->Prop
 |none,none=>True
 |some x,some c=>VI j x c
 |_,_=>False
theorem QY{sl:Bool}{len cap m K l:Nat}{H E mx:Option AV}{clo G cmx:Option Value}(u:OB j H clo)(D:OB j E G)(J:OB j mx cmx)
  (L:zi mx cap cap=some m) (I:zi E len m=some K) (A:zi H 0 K=some l) (N:¬(E.isNone=true/\mx.isSome=true)) (O:mx=none->m=cap):
  (Instr.sliceBounds sl len cap clo G cmx).run P w=.ok (l,K,m) w:=by
 cases mx with
 |none=>
  cases cmx with
  |some _=>exact J.elim
  |none=>
   simp only[zi,YD]at L;subst L;cases E with
   |none=>
    cases G with
    |some _=>exact D.elim
    |none=>
     simp only[zi,YD]at I;subst I;cases H with
     |none=>
      cases clo with
      |some _=>exact u.elim
      |none=>simp only[zi,YD]at A;subst A;simp[Instr.sliceBounds]
     |some x=>
      cases clo with
      |none=>exact u.elim
      |some c=>simp[Instr.sliceBounds,(QQ A u _).1]
   |some y=>
    cases G with
    |none=>exact D.elim
    |some d=>
     have C:=λq=>(QQ (P:=P) (w:=w) I D q).1;cases H with
     |none=>
      cases clo with
      |some _=>exact u.elim
      |none=>simp only[zi,YD]at A;subst A;simp[Instr.sliceBounds,C]
     |some x=>
      cases clo with
      |none=>exact u.elim
      |some c=>simp[Instr.sliceBounds,C,(QQ A u _).1]
 |some z=>
  cases cmx with
  |none=>exact J.elim
  |some cz=>
   have M:=λq=>(QQ (P:=P) (w:=w) L J q).1;cases E with
   |none=>exact absurd ⟨rfl,rfl⟩ N
   |some y=>
    cases G with
    |none=>exact D.elim
    |some d=>
     have C:=λq=>(QQ (P:=P) (w:=w) I D q).1;cases H with
     |none=>
      cases clo with
      |some _=>exact u.elim
      |none=>simp only[zi,YD]at A;subst A;simp[Instr.sliceBounds,C,M]
     |some x=>
      cases clo with
      |none=>exact u.elim
      |some c=>simp[Instr.sliceBounds,C,M,(QQ A u _).1]
theorem ZQ{x:Option AV}{d y m:Nat}(l:zi x d y=some m):x=none/\m=d\/m<=y:=by
 cases x with
 |none=>cases l;exact .inl ⟨rfl,rfl⟩
 |some x=>
  simp only[zi,zA2]at l;split at l
  .split at l
   .cases l;right;omega
   .cases l
  .cases l
theorem zEo{x:Option AV}{d y u m:Nat}(l:zi x d y=some m)(A:y<=u):zi x d u=some m:=by
 cases x with
 |none=>exact l
 |some x=>
  simp only[zi,zA2]at l ⊢;split at l
  .split at l
   .cases l;rw[if_pos (by omega)]
   .cases l
  .cases l
theorem zJZ{t et:TypeId}{i:TypeInfo}(L:P.underlying t=some (.slice et))(R:P.info? et=some i){x:AV}{lo hh mx:Option AV}{c:Value}{clo T cmx:Option Value}{v:AV}
  (W:VI j x c) (N:OB j lo clo) (O:OB j hh T) (K:OB j mx cmx) (u:QZ i.size x lo hh mx=some v):Runs P (Instr.sliceAt t c clo T cmx) w j v:=by
 have M:∀x:Value,(Instr.sliceAt t x clo T cmx).run P w=(Instr.slice t x clo T cmx).run P w:=λx=>by simp[Instr.sliceAt,run_underlying L]
 unfold QZ at u;split at u
 .rename_i o off len cp;simp only[YZ]at u;obtain⟨m,G,A,C,l,E,u⟩:=u;split at u
  .cases u
  .rename_i J;cases u;obtain⟨D,I,U,rfl,NJ⟩:=W;have H:=QY (P:=P) (w:=w) (sl:=true) N O K G C E J (λe=>by subst e;cases G;rfl);have V:(if m=l then some I else Option.map (λx=>x.add (l*i.size)) (some I))=some (if m=l then I else I.add (l*i.size)):=by split<;>rfl
   refine⟨.slice (some (if m=l then I else I.add (l*i.size))) (A-l) (m-l),by rw[M];simp only[Instr.slice,Sem.run_bind,run_underlying L,Result.andThen_ok,H,zh R,Sem.run_pure];rw[V],D,_,U,rfl,?_⟩;rcases NJ with rfl|⟨bD,oQ⟩
   .left;split
    .rfl
    .simp[ZB,UG]
   .right;have b1:m<=0:=by rcases ZQ G with ⟨_,x⟩|x<;>omega
    have b2:A<=0:=by rcases ZQ C with ⟨_,x⟩|x<;>omega
    omega
 .rename_i o off len g;obtain⟨D,cp,f,U,rfl,hle,X,bB⟩:=W;split at u
  .rename_i z;simp only[YZ]at u;obtain⟨m,G,A,C,l,E,u⟩:=u;split at u
   .cases u
   .rename_i J;cases u;have jG:zi (some z) cp cp=some m:=zEo (x:=some z) (d:=cp) G hle;have H:=QY (P:=P) (w:=w) (sl:=true) N O K jG C E (λe=>J e.1) (λe=>by cases e);have V:(if m=l then some (⟨D.blk,f,none⟩:Addr)else Option.map (λx=>x.add (l*i.size)) (some (⟨D.blk,f,none⟩:Addr)))=some (if m=l then(⟨D.blk,f,none⟩:Addr)else(⟨D.blk,f,none⟩:Addr).add (l*i.size)):=by split<;>rfl
    refine⟨.slice (some (if m=l then(⟨D.blk,f,none⟩:Addr)else(⟨D.blk,f,none⟩:Addr).add (l*i.size))) (A-l) (m-l),by rw[M];simp only[Instr.slice,Sem.run_bind,run_underlying L,Result.andThen_ok,H,zh R,Sem.run_pure];rw[V],D,_,U,rfl,?_⟩;have c1:m<=len:=by rcases ZQ (show zi (some z) len len=some m from G)with ⟨_,x⟩|x<;>omega
    have c2:A<=m:=by
     rcases ZQ C with ⟨e,x⟩|x
     .exact absurd (by rw[e];rfl) J
     .exact x
    have c3:l<=A:=by rcases ZQ E with ⟨_,x⟩|x<;>omega
    by_cases fZ:m=l
    .right;omega
    .left;rw[if_neg fZ,if_neg fZ];rcases X with rfl|hz
     .simp[ZB,UG]
     .omega
  .simp only[YZ]at u;obtain⟨A,C,l,E,u⟩:=u;cases u;have RY:l<=A:=by rcases ZQ E with ⟨_,x⟩|x<;>omega
   have ri:A<=len:=by rcases ZQ C with ⟨_,x⟩|x<;>omega
   have H:=QY (P:=P) (w:=w) (sl:=true) (cap:=cp) (m:=cp) N O K rfl (zEo C hle) E (λe=>by cases e.2) (λ_=>rfl);refine⟨_,by rw[M];simp only[Instr.slice,Sem.run_bind,run_underlying L,Result.andThen_ok,H,zh R,Sem.run_pure];rfl,D,cp-l,if cp=l then f else f+l*i.size,U,?_,by omega,?_,?_⟩
   .split
    .rfl
    .simp[ZB]
   .rcases X with rfl|⟨hz,dV,db⟩
    .by_cases Z:cp=l
     .rw[if_pos Z];by_cases S:off+l*i.size=0
      .left;omega
      .right;exact⟨by omega,S,by omega⟩
     .rw[if_neg Z];left;omega
    .right;exact⟨by omega,by omega,by omega⟩
   .intro S Cf;have Y:g=i.size:=by
     by_cases x:g=i.size
     .exact x
     .rw[if_neg x]at Cf;exact absurd rfl Cf
    rw[if_pos Y]at Cf ⊢;subst Y;have Nk:f=D.base+off:=by
     rcases X with x|⟨_,x,y⟩
     .exact x
     .subst y;have oQ:l=0:=by omega
      subst oQ;rw[if_pos rfl,Nat.zero_mul,UN]at S;exact S
    have K:=bB Nk Cf;have h4:(cp-l)*i.size+l*i.size=cp*i.size:=by rw[<-Nat.add_mul];congr 1;omega
    omega
 .simp only[YZ]at u;obtain⟨m,G,A,C,l,E,u⟩:=u;split at u
  .cases u
  .rename_i J;cases u;rw[show c=_ from W];have H:=QY (P:=P) (w:=w) (sl:=true) N O K G C E J (λe=>by subst e;cases G;rfl);refine⟨_,by rw[M];simp only[Instr.slice,Sem.run_bind,run_underlying L,Result.andThen_ok,H,zh R,Sem.run_pure];rfl,?_⟩;have z1:m=0:=by rcases ZQ G with ⟨_,x⟩|x<;>omega
   have z2:A=0:=by rcases ZQ C with ⟨_,x⟩|x<;>omega
   have z3:l=0:=by rcases ZQ E with ⟨_,x⟩|x<;>omega
   subst z1;subst z2;subst z3;rfl
 .cases u
end
section
open Go.RowKit
variable{P:Program}{w0 w:World}{j:Inj}{h:AHeap}{e:Env}{a:Act}
theorem zEi:∀(l:List Value) (off k:Nat) (cells:Array Value),off+k+l.length<=cells.size->
  ((l.zipIdx k).foldl (λcs (x:Value×Nat)=>cs.setIfInBounds (off+x.2) x.1) cells).toList=cells.toList.take (off+k)++l++cells.toList.drop (off+k+l.length)
 |[],off,k,cells,_=>by simp
 |v::l,off,k,cells,hl=>by
  simp only[List.zipIdx_cons,List.foldl_cons];have A:off+k<cells.size:=by simp at hl;omega
  rw[zEi l off (k+1) _ (by simp at hl ⊢;omega)];have u:off+k<cells.toList.length:=by simpa using A
  have C:(cells.toList.set (off+k) v).take (off+(k+1))=cells.toList.take (off+k)++[v]:=by
   rw[<-UG,YU (by simpa using u),List.take_set_of_le (na _)];simp
  have D:(cells.toList.set (off+k) v).drop (off+(k+1)+l.length)=cells.toList.drop (off+k+(l.length+1)):=by
   rw[List.drop_set_of_lt (by omega)];congr 1;omega
  simp only[Array.toList_setIfInBounds,YS,C,D];simp
theorem zAR{place:Nat->Option (Nat×Nat)}:∀(u:List (Nat×Operand)) (l:List (Nat×Nat×AV)) (cells:List AV) (cs:Array Value) (ρ:Operand->Value) (out:List AV),
  VIs j cells cs.toList->cells.all AV.one=true->afill cells l=some out->u.length=l.length->(∀(k:Nat) (p:Nat×Operand) (q:Nat×Nat×AV),u[k]? = some p->l[k]? = some q->place p.1=some (q.1,q.2.1)/\VI j q.2.2 (ρ p.2))->
  ∃r,Instr.fill place cs (u.map λp=>(p.1,ρ p.2))=some r/\VIs j out r.toList/\out.all AV.one=true
 |[],l,cells,cs,ρ,out,hc,ho,hf,hl,_=>by
  cases l with
  |nil=>cases hf;exact⟨cs,rfl,hc,ho⟩
  |cons _ _=>simp at hl
 |p::u,[],cells,cs,ρ,out,hc,ho,hf,hl,_=>by simp at hl
 |p::u,(off,size,v)::l,cells,cs,ρ,out,hc,ho,hf,hl,hp=>by
  obtain⟨J,K⟩:=hp 0 p (off,size,v) (by simp) (by simp);simp only[afill]at hf;split at hf
  .rename_i N;obtain⟨b1,U,A⟩:=N;have E:=VI.cells K A;have C:=E.length;have D:=hc.length;have I:¬((ρ p.2).cells.size≠size\/off+(ρ p.2).cells.size > cs.size):=by
    simp at C D;omega
   have H:VIs j (cells.take off++v.cells++cells.drop (off+size)) (((ρ p.2).cells.zipIdx.foldl (λcs (x:Value×Nat)=>cs.setIfInBounds (off+x.2) x.1) cs).toList):=by
    have R:((ρ p.2).cells.zipIdx.foldl (λcs (x:Value×Nat)=>cs.setIfInBounds (off+x.2) x.1) cs)=(((ρ p.2).cells.toList.zipIdx 0).foldl (λcs (x:Value×Nat)=>cs.setIfInBounds (off+x.2) x.1) cs):=by
     rw[<-Array.foldl_toList,Array.toList_zipIdx]
    rw[R,zEi _ off 0 cs (by simp at C D ⊢;omega)];rw[<-C,b1];simpa using ((hc.take off).append E).append (hc.drop (off+size))
   have G:(cells.take off++v.cells++cells.drop (off+size)).all AV.one=true:=by
    rw[List.all_eq_true]at ho A ⊢;intro x hx;simp only[YY]at hx;rcases hx with (hx|hx)|hx
    .exact ho x (UM hx)
    .exact A x hx
    .exact ho x (List.mem_of_mem_drop hx)
   obtain⟨r,O,L,M⟩:=zAR u l _ _ ρ out H G hf (by simpa using hl) (λk S T a b=>hp (k+1) S T (by simpa using a) (by simpa using b));refine⟨r,?_,L,M⟩;simp only[YO,Instr.fill,J];rw[if_neg (by simpa using I)];exact O
  .cases hf
theorem zDw(r:ER nt j e a){fields:Array Field}:∀{C:List (Nat×Operand)} {A:List (Nat×Nat×IX)},zDx P fields C=some A->
  C.length=A.length/\∀(k:Nat) (p:Nat×Operand) (q:Nat×Nat×AV),C[k]? = some p->(A.map λq=>(q.1,q.2.1,q.2.2.ev e))[k]? = some q->
   ((fields.map λf=>(f.offset,P.cellsOf f.type))[p.1]?)=some (q.1,q.2.1)/\VI j q.2.2 (a.eval p.2)
 |[],A,l=>by cases l;exact⟨rfl,λk p q u=>by simp at u⟩
 |(i,x)::C,A,l=>by
  simp only[zDx,YZ]at l;obtain⟨f,H,L,D,M,I,K,J,l⟩:=l;cases l;obtain⟨E,G⟩:=zDw r J;refine⟨by simp[E],λk p q u l=>?_⟩;cases k with
  |zero=>
   simp at u l;subst u;subst l;exact⟨by simp[H,Program.cellsOf,D],zN r I⟩
  |succ k=>exact G k p q (by simpa using u) (by simpa using l)
theorem zFx:∀(l:List Field),l.all (λf=>(P.info? f.type).isSome)=true->
  (l.mapM λf=>(do pure (f.offset,<-sizeOf f.type):Sem (Nat×Nat))).run P w=.ok (l.map λf=>(f.offset,P.cellsOf f.type)) w
 |[],_=>by simp
 |f::l,Ai=>by
  simp only[List.all_cons,Y6]at Ai;obtain⟨i,u⟩:=Option.isSome_iff_exists.1 Ai.1;have A:=zFx l Ai.2;simp only[List.mapM_cons,Sem.run_bind,zh u,Result.andThen_ok,Sem.run_pure,YO];rw[A];simp[Program.cellsOf,u]
theorem zKX(r:ER nt j e a){t:TypeId}{fields:Array Field}{z:Array Value}{l:Array (Nat×Operand)}{u:List (Nat×Nat×IX)}{zs out:List AV}{i:TypeInfo}
  (M:P.underlying t=some (.struct fields)) (J:P.info? t=some i) (O:i.zero=some (.agg z)) (C:fields.toList.all (λf=>(P.info? f.type).isSome)=true)
  (D:qU z.toList=some zs) (A:zDx P fields l.toList=some u) (N:afill zs (u.map λq=>(q.1,q.2.1,q.2.2.ev e))=some out):
  Runs P (Instr.build t (l.map λ(i,x)=>(i,a.eval x))) w j (.agg out):=by
 obtain⟨G,H⟩:=zDw r A;obtain⟨R,S⟩:=qV (j:=j) D;obtain⟨res,L,I,_⟩:=zAR (place:=λk=>(fields.map λf=>(f.offset,P.cellsOf f.type))[k]?) l.toList _ zs z a.eval out R S N (by simpa using G) H;refine⟨.agg res,?_,_,I,by simp⟩;have K:(fields.mapM λf=>(do pure (f.offset,<-sizeOf f.type):Sem (Nat×Nat))).run P w=.ok (fields.map λf=>(f.offset,P.cellsOf f.type)) w:=by
  rw[Array.mapM_eq_mapM_toList];simp only[Sem.run_map];rw[zFx _ C];simp only[Result.andThen_ok,Result.ok.injEq,and_true];apply Array.ext';simp
 have E:(l.map λ(i,x)=>(i,a.eval x)).toList=l.toList.map λp=>(p.1,a.eval p.2):=by simp
 simp only[Instr.build,Sem.run_bind,zeroValue,typeInfo,J,O,run_program,Result.andThen_ok,Sem.run_pure,run_underlying M,K,E,Value.cells];rw[L];simp
theorem zE1(r:ER nt j e a){size:Nat}:∀{C:List (Nat×Operand)} {A:List (Nat×Nat×IX)},carts size C=some A->C.length=(A.map λp=>(p.1,p.2.1,p.2.2.ev e)).length/\
  ∀(k:Nat) (p:Nat×Operand) (q:Nat×Nat×AV),C[k]? = some p->(A.map λq=>(q.1,q.2.1,q.2.2.ev e))[k]? = some q->(some (p.1*size,size))=some (q.1,q.2.1)/\VI j q.2.2 (a.eval p.2)
 |[],A,l=>by cases l;exact⟨rfl,λk p q u=>by simp at u⟩
 |(n,x)::C,A,l=>by
  simp only[carts,YZ]at l;obtain⟨J,E,I,H,l⟩:=l;cases l;obtain⟨D,G⟩:=zE1 r H;refine⟨by simp at D ⊢;exact D,λk p q u l=>?_⟩;cases k with
  |zero=>simp at u l;subst u;subst l;exact⟨rfl,zN r E⟩
  |succ k=>exact G k p q (by simpa using u) (by simpa using l)
theorem zI8(r:ER nt j e a){t A:TypeId}{len:Nat}{z:Array Value}{l:Array (Nat×Operand)}{C:List (Nat×Nat×IX)}{zs out:List AV}{i u:TypeInfo}
  (M:P.underlying t=some (.array len A)) (K:P.info? t=some i) (O:i.zero=some (.agg z)) (R:P.info? A=some u)
  (E:qU z.toList=some zs) (D:carts u.size l.toList=some C) (N:afill zs (C.map λq=>(q.1,q.2.1,q.2.2.ev e))=some out):
  Runs P (Instr.build t (l.map λ(i,x)=>(i,a.eval x))) w j (.agg out):=by
 obtain⟨H,I⟩:=zE1 r D;obtain⟨S,T⟩:=qV (j:=j) E;obtain⟨res,L,J,_⟩:=zAR (place:=λk=>some (k*u.size,u.size)) l.toList _ zs z a.eval out S T N H I;refine⟨.agg res,?_,_,J,by simp⟩;have G:(l.map λ(i,x)=>(i,a.eval x)).toList=l.toList.map λp=>(p.1,a.eval p.2):=by simp
 simp only[Instr.build,Sem.run_bind,zeroValue,typeInfo,K,O,run_program,Result.andThen_ok,Sem.run_pure,run_underlying M,zh R,G,Value.cells];rw[L];simp
theorem zGZ{t:TypeId}(E:P.underlying t=some .string){x:AV}{G D:Option AV}{c:Value}{clo A:Option Value}{v:AV}
  (L:VI j x c) (I:OB j G clo) (J:OB j D A) (u:zCC x G D=some v):Runs P (Instr.sliceAt t c clo A none) w j v:=by
 have C:(Instr.sliceAt t c clo A none).run P w=(Instr.slice t c clo A none).run P w:=by simp[Instr.sliceAt,run_underlying E]
 unfold zCC at u;split at u
 .rename_i s;simp only[YZ]at u;obtain⟨O,N,l,M,u⟩:=u;cases u;rw[show c=_ from L]at C ⊢;have H:(⟨s.toArray⟩:ByteArray).size=s.length:=by simp[ByteArray.size]
  have K:=QY (P:=P) (w:=w) (sl:=false) (mx:=none) (cmx:=none) (cap:=s.length) (m:=s.length) I J trivial rfl N M (λe=>by cases e.2) (λ_=>rfl);refine⟨_,by rw[C];simp only[Instr.slice,Sem.run_bind,run_underlying E,Result.andThen_ok,H,Option.isSome,Bool.false_eq_true,if_false,Sem.run_pure,K];rfl,?_⟩;show Value.string _=Value.string _;congr 1;apply ByteArray.ext;apply Array.ext';simp[ByteArray.data_extract,Array.toList_extract,List.drop_take]
 .cases u
theorem zGo{t:TypeId}(E:P.underlying t=some .string){s:List UInt8}{k:IntKind}{n:Int}{c:Value}{v:AV}(D:VI j (.str s) c)
  (l:(if 0<=n then(s[n.toNat]?).map λc=>AV.int .u8 c.toNat else none)=some v):Runs P (Instr.index t c (.int k n)) w j v:=by
 rw[show c=_ from D];split at l
 .rename_i C;simp only[YJ]at l;obtain⟨b,u,rfl⟩:=l;refine⟨_,?_,rfl⟩
  have:(⟨s.toArray⟩:ByteArray)[n.toNat]? = some b:=by
   have A:=(Yn.1 u).1;rw[getElem?_pos (c:=(⟨s.toArray⟩:ByteArray)) (i:=n.toNat) (h:=by simpa [ByteArray.size]using A)];congr 1;exact(Yn.1 u).2
  simp[Instr.index,asIntOf,run_underlying E,C,this]
 .cases l
theorem OB.of(r:ER nt j e a){x:Option Operand}{l:Option IX}(A:cxo x=some l):OB j (l.map (·.ev e)) (x.map a.eval):=by
 rcases zN4 r A with ⟨rfl,rfl⟩|⟨y,C,rfl,rfl,u⟩
 .trivial
 .exact u
theorem zMK(m:MR B w0 j h w)(r:ER nt j e a){o:Oper}{io:IOp}(u:copQ P o.op=some io){nb:Nat}{v:AV}(A:qv nb io e h=some v):
  ∃M,(execOp a.eval o).run P w=.ok (.value M) w/\VI j v M:=by
 obtain⟨dst,op,ty,pos,after,guard⟩:=o;have fin:∀{s:Sem Value},Runs P s w j v->∃M,(do pure (.value (<-s)):Sem Next).run P w=.ok (.value M) w/\VI j v M:=by
  rintro s ⟨M,H,J⟩
  exact⟨M,by simp[H],J⟩
 cases op<;>simp only[copQ]at u<;>(try (cases u;done))
 case move x=>
  simp only[YJ]at u;obtain⟨G,C,rfl⟩:=u;cases A;exact⟨_,rfl,zN r C⟩
 case assign x=>
  simp only[YJ]at u;obtain⟨G,C,rfl⟩:=u;cases A;exact⟨_,rfl,zN r C⟩
 case pick c x y=>
  simp only[YZ]at u;obtain⟨ic,Fx,G,C,iy,X,u⟩:=u;cases u;simp only[qv,aPick,aConv,aNil,q8,qJ,qi,qd,qR,aLen,qh,aCap,qc,ldv]at A;split at A
  .rename_i t D;have S:=zN r Fx;rw[D]at S;cases A;cases t with
   |true=>exact⟨_,by simp[execOp,show a.eval c=_ from S,asBool],zN r C⟩
   |false=>exact⟨_,by simp[execOp,show a.eval c=_ from S,asBool],zN r X⟩
  .cases A
 case binOp SQ xt x y yt=>
  simp only[YZ]at u;obtain⟨G,C,iy,X,u⟩:=u;cases u;simp only[qv,aPick,aConv,aNil,q8,qJ,qi,qd,qR,aLen,qh,aCap,qc,ldv]at A;obtain⟨hr,Z⟩:=zMT (P:=P) (w:=w) A (zN r C) (zN r X);obtain⟨M,H,J⟩:=hr;rcases Z with Z|⟨Z,xs,ys,R,Y⟩
  .exact⟨M,by simp[execOp,zHf Z,H],J⟩
  .rw[R,Y]at H;exact⟨M,by simp[execOp,R,Y,run_eqGuard_agg _ _ _ _ _ _ _ Z,H],J⟩
 case unOp Rb xt x=>
  simp only[YJ]at u;obtain⟨G,C,rfl⟩:=u;exact fin (zOB A (zN r C))
 case convert s d x=>
  split at u
  .rename_i k0 k hs hd;simp only[YJ]at u;obtain⟨G,C,rfl⟩:=u;simp only[qv,aPick,aConv,aNil,q8,qJ,qi,qd,qR,aLen,qh,aCap,qc,ldv]at A;split at A
   .rename_i k1 n E
    have:=zN r C
    rw[E]at this;cases A;refine fin ⟨_,?_,rfl⟩;simp[convert,run_underlying hs,run_underlying hd,show a.eval x=_ from this,Conv.intToInt]
   .cases A
  .cases u
 case nilCheck x=>
  simp only[YJ]at u;obtain⟨G,C,rfl⟩:=u;simp only[qv,aPick,aConv,aNil,q8,qJ,qi,qd,qR,aLen,qh,aCap,qc,ldv]at A
  have:=zN r C
  split at A
  .rename_i o i E;rw[E]at this;cases A;obtain⟨l,hl,N⟩:=this;exact⟨_,by simp[execOp,N],l,hl,rfl⟩
  .rename_i f x' y' E;rw[E]at this;cases A;obtain⟨vs,us,H,J,N⟩:=this;exact⟨_,by simp[execOp,N],vs,us,H,J,rfl⟩
  .cases A
 case build t ps=>
  split at u
  .rename_i fields z D T;split at u
   .rename_i ai;simp only[YZ]at u T;obtain⟨zs,dw,qs,iG,u⟩:=u;obtain⟨i,K,T⟩:=T;cases u;simp only[qv,YJ]at A;obtain⟨out,ho,rfl⟩:=A;exact fin (zKX r D K T ai dw iG ho)
   .cases u
  .rename_i len V z D T;simp only[YZ]at u T;obtain⟨i2,jL,zs,dw,qs,iG,u⟩:=u;obtain⟨i,K,T⟩:=T;cases u;simp only[qv,YJ]at A;obtain⟨out,ho,rfl⟩:=A;exact fin (zI8 r D K T jL dw iG ho)
  .cases u
 case load t x=>
  split at u
  .rename_i d i hd K;simp only[YJ]at u;obtain⟨G,C,rfl⟩:=u;simp only[qv,aPick,aConv,aNil,q8,qJ,qi,qd,qR,aLen,qh,aCap,qc,ldv]at A;split at A
   .rename_i o k E
    have:=zN r C
    rw[E]at this;exact fin (zFz m hd K this A)
   .cases A
  .cases u
 case makeFunc fn first cJ=>
  cases fn<;>simp only at u<;>(try (cases u;done))
  rename_i f;simp only[YZ]at u;obtain⟨x1,W,x2,iD,u⟩:=u;cases u;cases A;refine fin ⟨.func (.func f) (first.map a.eval) (cJ.map a.eval),by simp[Instr.makeFunc],_,_,zA1 r W,zA1 r iD,?_⟩;congr 1<;>(apply Array.ext';simp)
 case slice t x lo K mx=>
  split at u
  .rename_i V D;simp only[YZ]at u;obtain⟨i,iJ,G,C,l1,nN,l2,ij,l3,B5,u⟩:=u;cases u;exact fin (zJZ D iJ (zN r C) (OB.of r nN) (OB.of r ij) (OB.of r B5) A)
  .rename_i D;simp only[YZ]at u;obtain⟨G,C,l1,nN,l2,ij,u⟩:=u;split at u
   .cases u;exact fin (zGZ D (zN r C) (OB.of r nN) (OB.of r ij) A)
   .cases u
  .cases u
 case fieldAddr t x f=>
  split at u
  .rename_i fields D;simp only[YZ]at u;obtain⟨fd,hf,i,K,u⟩:=u;split at u
   .cases u
   .rename_i an;simp only[YJ]at u;obtain⟨G,C,rfl⟩:=u;simp only[qv,aPick,aConv,aNil,q8,qJ,qi,qd,qR,aLen,qh,aCap,qc,ldv]at A;split at A
    .rename_i o k E
     have:=zN r C
     rw[E]at this;cases A;exact fin (zGC D hf K an this)
    .cases A
  .cases u
 case field t x f=>
  split at u
  .rename_i fields D;simp only[YZ]at u;obtain⟨fd,hf,u⟩:=u;split at u
   .rename_i d i hd K;simp only[YJ]at u;obtain⟨G,C,rfl⟩:=u;simp only[qv,aPick,aConv,aNil,q8,qJ,qi,qd,qR,aLen,qh,aCap,qc,ldv]at A;split at A
    .rename_i cs E
     have:=zN r C
     rw[E]at this;exact fin (zKU D hf hd K this A)
    .cases A
   .cases u
  .cases u
 case indexAddr t x G=>
  split at u
  .rename_i V D;simp only[YZ]at u;obtain⟨i,K,x1,W,x2,iD,u⟩:=u;cases u;simp only[qv,aPick,aConv,aNil,q8,qJ,qi,qd,qR,aLen,qh,aCap,qc,ldv]at A;split at A
   .rename_i o off len cap k n H J;have I:=zN r W;have L:=zN r iD;rw[H]at I;rw[J]at L;split at A
    .rename_i S;cases A;refine fin ?_;rw[show a.eval G=Value.int k n from L];exact zF8 D K I S.1 S.2
    .cases A
   .cases A
  .rename_i len V D;split at u
   .rename_i ik n;simp only[YZ]at u;obtain⟨i,K,u⟩:=u;split at u
    .rename_i S;simp only[YJ]at u;obtain⟨x1,W,rfl⟩:=u;simp only[qv,aPick,aConv,aNil,q8,qJ,qi,qd,qR,aLen,qh,aCap,qc,ldv]at A;split at A
     .rename_i o k E;have I:=zN r W;rw[E]at I;cases A;exact fin (zGP D K I S.1 S.2)
     .cases A
    .cases u
   .cases u
  .cases u
 case index t x G=>
  split at u
  .rename_i D;simp only[YZ]at u;obtain⟨x1,W,x2,iD,u⟩:=u;cases u;simp only[qv,aPick,aConv,aNil,q8,qJ,qi,qd,qR,aLen,qh,aCap,qc,ldv]at A;split at A
   .rename_i s k n H J;have I:=zN r W;have L:=zN r iD;rw[H]at I;rw[J]at L;refine fin ?_;rw[show a.eval G=Value.int k n from L];exact zGo D I A
   .cases A
  .cases u
 case extract x i=>
  simp only[YJ]at u;obtain⟨G,C,rfl⟩:=u;simp only[qv,aPick,aConv,aNil,q8,qJ,qi,qd,qR,aLen,qh,aCap,qc,ldv]at A;split at A
  .rename_i vs E
   have:=zN r C
   rw[E]at this;obtain⟨cs,eL,N⟩:=this;obtain⟨M,H,J⟩:=eL.get A;exact fin ⟨M,by simp[N,Instr.extract,H],J⟩
  .cases A
 case call c=>
  obtain⟨callee,args,argTypes⟩:=c;cases callee<;>simp only at u<;>(try (cases u;done))
  rename_i b;split at u<;>(try (cases u;done))
  .rename_i x t O U;have R:args = #[x]:=by rw[<-Array.toArray_toList (xs:=args),O]
   have Y:argTypes = #[t]:=by rw[<-Array.toArray_toList (xs:=argTypes),U]
   clear O U;subst R;subst Y;split at u<;>(try (cases u;done))
   .rename_i V D;simp only[YJ]at u;obtain⟨G,C,rfl⟩:=u
    have:=zN r C
    simp only[qv,aPick,aConv,aNil,q8,qJ,qi,qd,qR,aLen,qh,aCap,qc,ldv]at A;split at A
    .rename_i o off n cap E;rw[E]at this;cases A;obtain⟨y,I,L⟩:∃y I,a.eval x=.slice (some y) n I:=by
      cases cap with
      |known q=>obtain⟨l,_,hl,N,_⟩:=this;exact⟨_,_,N⟩
      |grown q=>obtain⟨l,cc,ff,hl,N,_⟩:=this;exact⟨_,_,N⟩
     exact⟨.int .i64 n,by simp[execOp,resolve,invoke,builtin,L,Builtin.len_,run_underlying D,goInt],rfl⟩
    .rename_i E;rw[E]at this;cases A;exact⟨.int .i64 0,by simp[execOp,resolve,invoke,builtin,show a.eval x=_ from this,Builtin.len_,run_underlying D,goInt],rfl⟩
    .cases A
   .rename_i D;simp only[YJ]at u;obtain⟨G,C,rfl⟩:=u
    have:=zN r C
    simp only[qv,aPick,aConv,aNil,q8,qJ,qi,qd,qR,aLen,qh,aCap,qc,ldv]at A;split at A
    .rename_i s E;rw[E]at this;cases A;have dF:(⟨s.toArray⟩:ByteArray).size=s.length:=by simp[ByteArray.size]
     exact⟨.int .i64 s.length,by simp[execOp,resolve,invoke,builtin,show a.eval x=_ from this,Builtin.len_,run_underlying D,goInt,dF],rfl⟩
    .cases A
  .rename_i x t O U;have R:args = #[x]:=by rw[<-Array.toArray_toList (xs:=args),O]
   have Y:argTypes = #[t]:=by rw[<-Array.toArray_toList (xs:=argTypes),U]
   clear O U;subst R;subst Y;split at u<;>(try (cases u;done))
   rename_i V D;simp only[YJ]at u;obtain⟨G,C,rfl⟩:=u
   have:=zN r C
   simp only[qv,aPick,aConv,aNil,q8,qJ,qi,qd,qR,aLen,qh,aCap,qc,ldv]at A;split at A
   .rename_i o off n q E;rw[E]at this;cases A;obtain⟨l,hl,N⟩:=this;exact⟨.int .i64 q,by simp[execOp,resolve,invoke,builtin,N,Builtin.cap_,run_underlying D,goInt],rfl⟩
   .rename_i E;rw[E]at this;cases A;exact⟨.int .i64 0,by simp[execOp,resolve,invoke,builtin,show a.eval x=_ from this,Builtin.cap_,run_underlying D,goInt],rfl⟩
   .cases A
  .rename_i x y t t' O U;have R:args = #[x,y]:=by rw[<-Array.toArray_toList (xs:=args),O]
   clear O U;subst R;split at u<;>(try (cases u;done))
   rename_i V D;simp only[YZ]at u;obtain⟨G,C,iy,X,u⟩:=u;cases u;have I:=zN r C;have L:=zN r X;simp only[qv,aPick,aConv,aNil,q8,qJ,qi,qd,qR,aLen,qh,aCap,qc,ldv]at A;split at A
   .rename_i k n k' n' H J;rw[H]at I;rw[J]at L;split at A
    .rename_i ek;subst ek;cases A;refine⟨.int k (max n n'),?_,rfl⟩;simp only[execOp,resolve,invoke,builtin];simp[show a.eval x=_ from I,show a.eval y=_ from L,Builtin.max_,Builtin.max2,Int.max_def];split<;>split<;>omega
    .cases A
   .cases A
  .rename_i x y t t' O U;have R:args = #[x,y]:=by rw[<-Array.toArray_toList (xs:=args),O]
   clear O U;subst R;split at u<;>(try (cases u;done))
   rename_i V D;simp only[YZ]at u;obtain⟨G,C,iy,X,u⟩:=u;cases u;have I:=zN r C;have L:=zN r X;simp only[qv,aPick,aConv,aNil,q8,qJ,qi,qd,qR,aLen,qh,aCap,qc,ldv]at A;split at A
   .rename_i k n k' n' H J;rw[H]at I;rw[J]at L;split at A
    .rename_i ek;subst ek;cases A;refine⟨.int k (min n n'),?_,rfl⟩;simp only[execOp,resolve,invoke,builtin];simp[show a.eval x=_ from I,show a.eval y=_ from L,Builtin.min_,Builtin.min2,Int.min_def];split<;>split<;>omega
    .cases A
   .cases A
end
section
open Go.RowKit
def zAY(size:Nat):List (Nat×Operand)->Option (List (Nat×Nat×IX))
 |[]=>some []
 |(i,x)::r=>(cx x).bind λa=>(zAY size r).bind λb=>some ((i*size,size,a)::b)
def zER(P:Program)(c:Call):Option IOp:=
 match c.callee with
 | .builtin b=>match b,c.args.toList,c.argTypes.toList with
  | .append,[s,x],[t,t']=>match P.underlying t with
   |some (.slice et)=>if t=t' then(P.info? et).bind λi=>i.zero.bind λz=>(cx s).bind λs=>(cx x).bind λx=>
     if z.cells.size=i.size/\i.size≠0 then some (.append i.size i.bytes s x)else none else
    match P.underlying t' with
    |some (.int _)=>(P.info? et).bind λi=>i.zero.bind λz=>(qU z.cells.toList).bind λzs=>(cx s).bind λs=>(cx x).bind λx=>
     if zs.length=i.size/\i.size≠0 then some (.appendMk i.size i.bytes zs s x)else none
    |_=>none
   |_=>none
  | .copy,[d,s],[t,_]=>match P.underlying t with
   |some (.slice et)=>(P.info? et).bind λi=>(cx d).bind λd=>(cx s).bind λs=>some (.copy i.size d s)
   |_=>none
  |_,_,_=>none
 | .value (.func f)=>if okF P f=true then(cxs c.args.toList).map (.call f)else none
 | .value (.tmp t)=>(cxs c.args.toList).map (.callV (.t t))
 |_=>none
def copE(P:Program):Op->Option IOp
 | .alloc t=>((P.info? t).bind (·.zero)).bind λz=>(qU z.cells.toList).map .alloc
 | .box _ x=>(cx x).map .box
 | .buildSlice t len ps=>match P.underlying t with
  |some (.slice et)=>(P.info? et).bind λi=>i.zero.bind λz=>(qU z.cells.toList).bind λzs=>(zAY i.size ps.toList).bind λu=>
   if zs.length=i.size/\i.size≠0/\len*i.size<=16777216 then some (.buildSl i.size len zs u)else none
  |_=>none
 | .store t x v=>(P.info? t).bind λi=>(cx x).bind λx=>(cx v).bind λv=>some (.store i.size x v)
 | .makeSlice t l c=>match P.underlying t with
  |some (.slice et)=>(P.info? et).bind λi=>i.zero.bind λz=>(qU z.cells.toList).bind λzs=>(cx l).bind λl=>(cx c).bind λc=>
   if zs.length=i.size/\i.size≠0 then some (.makeSl i.size i.bytes zs l c)else none
  |_=>none
 | .call c=>zER P c
 | .convert src dst x=>match P.underlying src,P.underlying dst with
  |some (.slice et),some .string=>match P.underlying et with
   |some (.int .u8)=>(cx x).map .strOf
   |_=>none
  |_,_=>none
 |_=>none
def eff(P:Program)(op:IOp)(e:Env)(h:AHeap)(K:AV->AHeap->Prop):Prop:=
 match op with
 | .alloc z=>K (.ptr h.next 0) (h.new ⟨true,z⟩)
 | .box x=>(x.ev e).cells.all AV.one=true/\K (.ptr h.next 0) (h.new ⟨true,(x.ev e).cells⟩)
 | .buildSl sz len z ps=>optK (afill (zeros z len) (ps.map λp=>(p.1,p.2.1,p.2.2.ev e))) λcs=>K (.sl h.next 0 len (.known len)) (h.new ⟨true,cs⟩)
 | .store n x v=>match x.ev e with
  | .ptr o i=>(v.ev e).cells.length=n/\optK (h.wr o i (v.ev e).cells) λh'=>K .undef h'
  |_=>False
 | .makeSl sz bytes z l c=>match l.ev e,c.ev e with
  | .int _ l,.int _ c=>(0<=l/\l<=c/\c*bytes<=140737488355328/\c<=9223372036854775807)/\K (.sl h.next 0 l.toNat (.known c.toNat)) (h.new ⟨true,zeros z c.toNat⟩)
  |_,_=>False
 | .append sz bytes s x=>optK (zCo sz bytes h (s.ev e) (x.ev e)) λp=>K p.1 p.2
 | .appendMk sz bytes z s n=>match s.ev e,n.ev e with
  | .nils,.int _ n=>(0<=n/\n*bytes<=140737488355328/\n<=4611686018427387904)/\if 0<n then K (.sl h.next 0 n.toNat (.grown sz)) (h.new ⟨true,zeros z n.toNat⟩)else K .nils h
  | .sl o off len c,.int _ n=>(0<=n/\n*bytes<=140737488355328/\n<=4611686018427387904)/\optK (if 0<n then agrow sz bytes h (.sl o off len c) (zeros z n.toNat) n.toNat else(asame (.sl o off len c)).map λv=>(v,h)) λp=>K p.1 p.2
  |_,_=>False
 | .copy sz d s=>optK (acopy sz h (d.ev e) (s.ev e)) λp=>K p.1 p.2
 | .call f args=>ZZ P f (args.map (·.ev e)) h K
 | .callV f args=>match f.ev e with
  | .clo f first cJ=>okF P f=true/\ZZ P f (first++args.map (·.ev e)++cJ) h K
  |_=>False
 | .strOf x=>optK ((alen (x.ev e)).bind λn=>(zAa 1 h (x.ev e) n).bind zBo) λs=>K (.str s) h
 |_=>False
variable{P:Program}{B:Nat}{w0 w:World}{j:Inj}{h:AHeap}{nt:Nat}{e:Env}{a:Act}
def Ends(P:Program)(s:Sem Next)(w:World)(B:Nat)(w0:World)(j:Inj)(h:AHeap)(K:AV->AHeap->Prop):Prop:=
 ∃v h' u l A,(s.run P w=.ok (.value l) A\/(s.run P w=.ok .skip A/\l=undef))/\FR j h u h'/\MR B w0 u h' A/\VI u v l/\K v h'
theorem Zv(z:List Value)(C:z≠[]):∀n,(madeCells z.toArray (n*z.length)).toList=(List.replicate n z).flatten:=by
 intro n;have A:0<z.length:=List.length_pos_iff.2 C;apply List.ext_getElem?;intro i;by_cases u:i<n*z.length
 .have h1:(madeCells z.toArray (n*z.length)).toList[i]? = z[i % z.length]?:=by
   have l:i % z.length<z.length:=Nat.mod_lt _ A;simp[madeCells,u,l]
  rw[h1];clear h1
  induction n generalizing i with
  |zero=>simp at u
  |succ n ih=>
   rw[List.replicate_succ,List.flatten_cons];by_cases l:i<z.length
   .rw[Yy l,Nat.mod_eq_of_lt l]
   .rw[Yx (by omega)]
    have:=ih (i-z.length) (by rw[Nat.succ_mul]at u;omega)
    rw[<-this];congr 1;rw[Nat.mod_eq_sub_mod (by omega)]
 .rw[Yq (by simp[madeCells];omega),Yq (by simp;omega)]
theorem VIs.replicate{zs:List AV}{z:List Value}(l:VIs j zs z):∀n,VIs j (zeros zs n) ((List.replicate n z).flatten)
 |0=>rfl
 |n+1=>by
  simp only[zeros,List.replicate_succ,List.flatten_cons];exact l.append (VIs.replicate l n)
theorem zBq{zs:List AV}(A:zs.all AV.one=true)(n:Nat):(zeros zs n).all AV.one=true:=by
 rw[List.all_eq_true]at A ⊢;intro x u;simp only[zeros,List.mem_flatten,List.mem_replicate]at u;obtain⟨l,⟨_,rfl⟩,u⟩:=u;exact A x u
theorem zMR(m:MR B w0 j h w){t:TypeId}{i:TypeInfo}{z:Value}{zs:List AV}(C:P.info? t=some i)(H:i.zero=some z)(u:qU z.cells.toList=some zs)
  {K:AV->AHeap->Prop} (D:K (.ptr h.next 0) (h.new ⟨true,zs⟩)):Ends P (do pure (.value (<-Instr.alloc t true (.tuple #[])))) w B w0 j h K:=by
 obtain⟨l,I⟩:=qV (j:=j) u;have E:=l.length;obtain⟨G,A⟩:=m.new (ty:=t) (cur:=z.cells) (room:=0) I (by rw[E,Yg];exact l) (YW _);refine⟨.ptr h.next 0,_,_,.pointer (some ⟨w.heap.size,0,none⟩),_,.inl ?_,A,G,⟨⟨w.heap.size,0,0⟩,by simp[Inj.put],rfl⟩,D⟩;simp[Instr.alloc,zeroValue,typeInfo,C,H,newVar,newRow]
theorem zPZ(m:MR B w0 j h w){t:TypeId}{v:AV}{c:Value}(A:VI j v c)(l:v.cells.all AV.one=true)
  {K:AV->AHeap->Prop} (D:K (.ptr h.next 0) (h.new ⟨true,v.cells⟩)):Ends P (do pure (.value (<-Instr.box t c))) w B w0 j h K:=by
 have u:=VI.cells A l;have E:=u.length;obtain⟨G,C⟩:=m.new (ty:=t) (cur:=c.cells) (room:=0) l (by rw[E,Yg];exact u) (YW _);refine⟨.ptr h.next 0,_,_,.pointer (some ⟨w.heap.size,0,none⟩),_,.inl ?_,C,G,⟨⟨w.heap.size,0,0⟩,by simp[Inj.put],rfl⟩,D⟩;simp[Instr.box,newVar,newRow]
theorem MR.wr(m:MR B w0 j h w){o k:Nat}{l:Loc}{vs:List AV}{cs:List Value}(L:j o=some l)(N:VIs j vs cs){h':AHeap}(hw:h.wr o k vs=some h'):
  ∃T,(storeCells ⟨l.blk,l.base+k,none⟩ cs).run P w=.ok () T/\MR B w0 j h' T/\FR j h j h':=by
 obtain⟨A,M,S,hle,H,rfl⟩:=AHeap.wr_some hw;obtain⟨cur,ty,fz,O,J,U,_⟩:=(m.obj o A l M L).row;obtain⟨rfl,Y,_⟩:=U S;have hlen:=N.length;have W:l.base+A.cells.length<=cur.size:=by
  rcases Nat.eq_zero_or_pos A.cells.length with x|x
  .omega
  .obtain⟨C,D,_⟩:=J (A.cells.length-1) A.cells[A.cells.length-1] (YQ (by omega))
   have:=(Ym.1 D).1
   omega
 have R:=run_storeCells_at P l.blk (l.base+k) ty cs 0 cur w O (by omega) (N.oneCell H);simp only[UN]at R;have key:=m.setRow (cells:=A.cells.take k++vs++A.cells.drop (k+vs.length)) M L S O
  (new:=(cur.toList.take (l.base+k)++cs++cur.toList.drop (l.base+k+cs.length)).toArray) (by simp;omega)
  (by
   have K:=(m.obj o A l M L).one;rw[List.all_eq_true]at K H ⊢;intro x hx;simp only[YY]at hx;rcases hx with (hx|hx)|hx
   .exact K x (UM hx)
   .exact H x hx
   .exact K x (List.mem_of_mem_drop hx))
  (by
   intro q u E;have X:q<A.cells.length:=by
    have:=(Yn.1 E).1
    simp at this;omega
   rcases YG q k with x|x
   .rw[Yb,Yy (by simp;omega),Yd,if_pos x]at E;obtain⟨C,D,G⟩:=J q u E;refine⟨C,?_,G⟩
    have:(cur.toList.take (l.base+k)++cs++cur.toList.drop (l.base+k+cs.length))[l.base+q]? = some C:=by
     rw[Yb,Yy (by simp;omega),Yd,if_pos (by omega)];simpa using D
    simpa using this
   .rcases YG q (k+vs.length)with y|y
    .rw[Yy (by simp;omega),Yx (by simp;omega)]at E;have I:vs[q-k]? = some u:=by rw[<-E];congr 1;simp;omega
     obtain⟨C,D,G⟩:=N.get I;refine⟨C,?_,G⟩
     have:(cur.toList.take (l.base+k)++cs++cur.toList.drop (l.base+k+cs.length))[l.base+q]? = some C:=by
      rw[Yy (by simp;omega),Yx (by simp;omega)];rw[<-D];congr 1;simp;omega
     simpa using this
    .rw[Yx (by simp;omega),Ye]at E;have I:A.cells[q]? = some u:=by rw[<-E];congr 1;simp;omega
     obtain⟨C,D,G⟩:=J q u I;refine⟨C,?_,G⟩
     have:(cur.toList.take (l.base+k)++cs++cur.toList.drop (l.base+k+cs.length))[l.base+q]? = some C:=by
      rw[Yx (by simp;omega),Ye];have V:cur.toList[l.base+q]? = some C:=by simpa using D
      rw[<-V];congr 1;simp;omega
     simpa using this)
 exact⟨_,R,key.1,key.2⟩
theorem zLK(m:MR B w0 j h w){t:TypeId}{i:TypeInfo}(H:P.info? t=some i){o k:Nat}{v:AV}{p c:Value}(M:VI j (.ptr o k) p)(E:VI j v c)(hs:v.cells.length=i.size){h':AHeap}
  (hw:h.wr o k v.cells=some h') {K:AV->AHeap->Prop} (I:K .undef h'):Ends P (do Instr.storeAt t p c;pure .skip) w B w0 j h K:=by
 obtain⟨l,J,rfl⟩:=M;obtain⟨_,_,_,_,A,_⟩:=AHeap.wr_some hw;have u:=VI.cells E A;have hlen:=u.length;obtain⟨N,C,L,G⟩:=m.wr (P:=P) J u hw;refine⟨.undef,_,j,undef,_,.inr ⟨?_,rfl⟩,G,L,trivial,I⟩;have D:¬(c.cells.size≠i.size):=by simp at hlen;omega
 simp only[Instr.storeAt,Instr.sureAddr,storeVar,Sem.run_bind,Sem.run_pure,Result.andThen_ok,zh H,if_neg D,C]
theorem zI7(m:MR B w0 j h w)(r:ER nt j e a){t H:TypeId}{i:TypeInfo}{z:Value}{zs:List AV}(M:P.underlying t=some (.slice H))(J:P.info? H=some i)(Y:i.zero=some z)
  (S:qU z.cells.toList=some zs) {len:Nat} {l:Array (Nat×Operand)} {A:List (Nat×Nat×IX)} (iG:zAY i.size l.toList=some A) (G:zs.length=i.size) (an:i.size≠0)
  (Fj:len*i.size<=16777216) {cs:List AV} (U:afill (zeros zs len) (A.map λp=>(p.1,p.2.1,p.2.2.ev e))=some cs)
  {K:AV->AHeap->Prop} (V:K (.sl h.next 0 len (.known len)) (h.new ⟨true,cs⟩)):Ends P (do pure (.value (<-Instr.buildSlice t len (l.map λ(i,x)=>(i,a.eval x))))) w B w0 j h K:=by
 obtain⟨O,z2⟩:=qV (j:=j) S;have D:=O.length;have jv:z.cells.toList≠[]:=by intro x;rw[x]at D;simp at D;rw[D]at G;simp at G;omega
 have T:((Array.range (len*i.size)).map (z.cells[· % z.cells.size]!)).toList=(List.replicate len z.cells.toList).flatten:=by
  have:=Zv z.cells.toList jv len
  rw[<-D,G]at this;simpa [madeCells]using this
 have jF:∀{l:List (Nat×Operand)} {A:List (Nat×Nat×IX)},zAY i.size l=some A->l.length=(A.map λp=>(p.1,p.2.1,p.2.2.ev e)).length/\
   ∀(k:Nat) (p:Nat×Operand) (q:Nat×Nat×AV),l[k]? = some p->(A.map λq=>(q.1,q.2.1,q.2.2.ev e))[k]? = some q->(some (p.1*i.size,i.size))=some (q.1,q.2.1)/\VI j q.2.2 (a.eval p.2):=by
  intro l
  induction l with
  |nil=>intro A u;cases u;exact⟨rfl,λk p q C=>by simp at C⟩
  |cons p l ih=>
   intro A u;obtain⟨n,x⟩:=p;simp only[zAY,YZ]at u;obtain⟨ix,X,DB,l9,u⟩:=u;cases u;obtain⟨N,Z⟩:=ih l9;refine⟨by simp at N ⊢;exact N,λk p q C u=>?_⟩;cases k with
   |zero=>simp at C u;subst C;subst u;exact⟨rfl,zN r X⟩
   |succ k=>exact Z k p q (by simpa using C) (by simpa using u)
 obtain⟨p1,p2⟩:=jF iG;obtain⟨res,E,r1,r2⟩:=zAR (place:=λk=>some (k*i.size,i.size)) l.toList _ (zeros zs len) ((Array.range (len*i.size)).map (z.cells[· % z.cells.size]!)) a.eval cs
  (by rw[T];exact O.replicate len) (zBq z2 len) U p1 p2
 have R:=r1.length;obtain⟨W,iZ⟩:=m.new (ty:=H) (cur:=res) (room:=0) r2 (by rw[R,Yg];exact r1) (YW _);refine⟨.sl h.next 0 len (.known len),_,_,.slice (some ⟨w.heap.size,0,none⟩) len len,_,.inl ?_,iZ,W,⟨⟨w.heap.size,0,0⟩,_,by simp[Inj.put],rfl,.inl rfl⟩,V⟩;have L:(l.map λ(i,x)=>(i,a.eval x)).toList=l.toList.map λp=>(p.1,a.eval p.2):=by simp
 have mq:¬(16777216<len*i.size):=by omega
 by_cases I:len*i.size=0
 .have:((Array.range (len*i.size)).map (z.cells[· % z.cells.size]!)) = #[]:=by rw[I];simp[Array.range_zero']
  rw[this]at E;simp[Instr.buildSlice,run_underlying M,zh J,I,L,E,newRow,Array.range_zero']
 .simp[Instr.buildSlice,run_underlying M,zh J,I,mq,L,E,newRow,zeroValue,typeInfo,J,Y]
theorem zJ3(m:MR B w0 j h w){t u:TypeId}{i:TypeInfo}{z:Value}{zs:List AV}(R:P.underlying t=some (.slice u))(M:P.info? u=some i)(S:i.zero=some z)
  (H:qU z.cells.toList=some zs) (C:zs.length=i.size) (Y:i.size≠0) {kl kc:IntKind} {l c:Int} (L:0<=l) (V:l<=c) (Z:c*i.bytes<=140737488355328) (G:c<=9223372036854775807)
  {K:AV->AHeap->Prop} (N:K (.sl h.next 0 l.toNat (.known c.toNat)) (h.new ⟨true,zeros zs c.toNat⟩)):Ends P (do pure (.value (<-Instr.makeSlice t (.int kl l) (.int kc c)))) w B w0 j h K:=by
 obtain⟨E,X⟩:=qV (j:=j) H;have A:=E.length;have U:z.cells.toList≠[]:=by intro x;rw[x]at A;simp at A;rw[A]at C;simp at C;omega
 have J:(madeCells z.cells (c.toNat*i.size)).toList=(List.replicate c.toNat z.cells.toList).flatten:=by
  have:=Zv z.cells.toList U c.toNat
  rw[<-A,C]at this;simpa using this
 have W:=run_make (P:=P) w t u i z R M S kl kc l c L V (by rw[UB];omega) G;have D:=E.replicate c.toNat;have I:=D.length;obtain⟨O,T⟩:=m.new (ty:=u) (cur:=madeCells z.cells (c.toNat*i.size)) (room:=0) (zBq X c.toNat) (by rw[J,I,Yg];exact D) (YW _);exact⟨.sl h.next 0 l.toNat (.known c.toNat),_,_,.slice (some ⟨w.heap.size,0,none⟩) l.toNat c.toNat,_,.inl (by simp[W]),T,O,⟨⟨w.heap.size,0,0⟩,_,by simp[Inj.put],rfl,.inl rfl⟩,N⟩
theorem MR.adopt(m:MR B w0 j h w){b base room:Nat}{cells:List AV}{cur new:Array Value}{ty:TypeId}(K:w.heap[b]? = some (.cells cur ty (0,0)))(O:B<=b)
  (G:∀o A l,h.obj o=some A->j o=some l->l.blk≠b) (M:new.size=cur.size) (L:base+room<=cur.size) (J:cells.all AV.one=true) (R:VIs j cells ((new.toList.drop base).take cells.length)):
  MR B w0 (j.put h.next ⟨b,base,room⟩) (h.new ⟨true,cells⟩) (w.setRow b new)/\FR j h (j.put h.next ⟨b,base,room⟩) (h.new ⟨true,cells⟩):=by
 have hle:=m.put_le ⟨b,base,room⟩;have H:∀k,k≠b->(w.setRow b new).heap[k]? = w.heap[k]?:=by
  intro k C;simp only[World.setRow,Array.getElem?_modify];rw[if_neg (λe=>C e.symm)]
 have N:(w.setRow b new).heap[b]? = some (.cells new ty (0,0)):=by
  simp[World.setRow,Array.getElem?_modify,K]
 have I:(w.setRow b new).heap.size=w.heap.size:=by simp[World.setRow]
 refine⟨⟨m.below.trans ⟨rfl,rfl,rfl,by rw[I];exact na _,λk C=>H k (by omega)⟩,by rw[I];exact m.bnd,?_,?_,?_⟩,?_⟩
 .intro o u;simp only[AHeap.new]at u;simp only[AHeap.new,Inj.put,if_neg (show ¬o=h.next by omega)];exact m.fresh o (by omega)
 .intro o A l u hl;by_cases e:o=h.next
  .subst e;simp only[AHeap.new,if_true,YD]at u;simp only[Inj.put,if_true,YD]at hl;subst u;subst hl;refine⟨J,new,ty,(0,0),N,λi v E=>?_,λ_=>⟨rfl,by rw[M];exact L,O⟩,λx=>by cases x⟩;obtain⟨D,x,y⟩:=R.get E;refine⟨D,?_,VI.mono hle _ _ y⟩;rw[Yd]at x;split at x
   .rw[Ye]at x;simpa using x
   .cases x
  .simp only[AHeap.new,if_neg e]at u;simp only[Inj.put,if_neg e]at hl;have C:=m.obj o A l u hl;refine⟨C.one,?_⟩;obtain⟨c,t,f,x,y,q⟩:=C.row;refine⟨c,t,f,by rw[H _ (G o A l u hl)];exact x,λi v E=>?_,q⟩;obtain⟨D,S,T⟩:=y i v E;exact⟨D,S,VI.mono hle _ _ T⟩
 .intro o o' A ju l l' an u cW hl bH fa;by_cases e:o=h.next
  .have e':o'≠h.next:=λx=>an (e.trans x.symm);subst e;simp only[Inj.put,if_true,YD]at hl;simp only[Inj.put,if_neg e']at bH;simp only[AHeap.new,if_neg e']at cW;subst hl;exactλx=>G o' ju l' cW bH x.symm
  .simp only[AHeap.new,if_neg e]at u;simp only[Inj.put,if_neg e]at hl;by_cases e':o'=h.next
   .subst e';simp only[Inj.put,if_true,YD]at bH;subst bH;exact G o A l u hl
   .simp only[AHeap.new,if_neg e']at cW;simp only[Inj.put,if_neg e']at bH;exact m.apart o o' A ju l l' an u cW hl bH fa
 .refine⟨by simp[AHeap.new],λo u=>?_,λo u _=>?_⟩
  .simp[Inj.put,Nat.ne_of_lt u]
  .simp[AHeap.new,Nat.ne_of_lt u]
theorem zBJ{x:AV}{c:Value}{n:Nat}(C:VI j x c)(u:alen x=some n):∃o cp,c=.slice o n cp/\n<=n:=by
 unfold alen at u;split at u
 .cases u;exact⟨_,_,C,na _⟩
 .rename_i o off H cap;cases u;cases cap with
  |known q=>obtain⟨l,_,D,A,_⟩:=C;exact⟨_,_,A,na _⟩
  |grown q=>obtain⟨l,E,G,D,A,_⟩:=C;exact⟨_,_,A,na _⟩
 .cases u
theorem zBn(m:MR B w0 j h w){e n:Nat}{x:AV}{c:Value}{news:List AV}(D:VI j x c)(L:n≠0)(A:zAa e h x n=some news):
  ∃(ad:Addr) (len cp:Nat) (cs:List Value),c=.slice (some ad) len cp/\n<=len/\VIs j news cs/\cs.length=n*e/\news.all AV.one=true/\∀k u,cs[k]? = some u->w.cell? (ad.add k)=some u:=by
 unfold zAa at A;rw[if_neg L]at A;split at A
 .rename_i o off len cap;split at A
  .rename_i hle;have key:∃l cp,j o=some l/\c=.slice (some ⟨l.blk,l.base+off,none⟩) len cp:=by
    cases cap with
    |known q=>
     obtain⟨l,a,C,rfl,K⟩:=D;rcases K with rfl|⟨_,M⟩
     .exact⟨l,_,C,rfl⟩
     .omega
    |grown q=>
     obtain⟨l,cp,f,C,rfl,_,E,_⟩:=D;rcases E with rfl|⟨M,_⟩
     .exact⟨l,_,C,rfl⟩
     .omega
   obtain⟨l,cp,C,rfl⟩:=key;obtain⟨cs,G,H,I,J⟩:=m.cells A C;exact⟨_,_,_,cs,rfl,hle,G,H,I,J⟩
  .cases A
 .cases A
theorem zBY{size n len cp:Nat}{ad:Addr}{cs:List Value}(A:cs.length=n*size)(l:∀k u,cs[k]? = some u->w.cell? (ad.add k)=some u):
  (Builtin.firstCells size n (.slice (some ad) len cp)).run P w=.ok cs.toArray w:=by
 have:=run_loadCells_list (P:=P) w ad cs l
 rw[A]at this;simpa [Builtin.firstCells]using this
theorem zDA(w:World)(t ty l:TypeId)(i:TypeInfo)(I:P.underlying t=some (.slice l))(G:P.info? l=some i)(ad:Addr)(len cap:Nat)
  (a:Addr) (m c:Nat) (news:List Value) (H:news.length=m*i.size) (J:∀j u,news[j]? = some u->w.cell? (a.add j)=some u) (C:len+m<=cap) {A:World}
  (D:(storeCells (ad.add (len*i.size)) news).run P w=.ok () A):
  (Builtin.append_ #[t,t] ty #[.slice (some ad) len cap,.slice (some a) m c]).run P w=.ok (.slice (some ad) (len+m) cap) A:=by
 have E:=zBY (P:=P) (len:=m) (cp:=c) H J;simp[Builtin.append_,run_underlying I,sizeOf,typeInfo,G,Builtin.lenOf,C,E,D]
theorem zFl(w:World)(t ty l:TypeId)(i:TypeInfo)(C:P.underlying t=some (.slice l))(A:P.info? l=some i)(base o:Option Addr)(len cap c:Nat)(u:len<=cap):
  (Builtin.append_ #[t,t] ty #[.slice base len cap,.slice o 0 c]).run P w=.ok (.slice base len cap) w:=by
 cases base<;>cases o<;>simp[Builtin.append_,run_underlying C,sizeOf,typeInfo,A,Builtin.lenOf,u,Builtin.firstCells,loadCells,loadCellsFrom,storeCells]
theorem zJH(m:MR B w0 j h w){t ty C:TypeId}{i:TypeInfo}{z:Value}(U:P.underlying t=some (.slice C))(T:P.info? C=some i)(hz:i.zero=some z)(dw:z.cells.size=i.size)(an:i.size≠0)
  {s x:AV} {cs cx:Value} (hs:VI j s cs) (hx:VI j x cx) {v:AV} {h':AHeap} (A:zCo i.size i.bytes h s x=some (v,h')):
  ∃j' cv w',(Builtin.append_ #[t,t] ty #[cs,cx]).run P w=.ok cv w'/\FR j h j' h'/\MR B w0 j' h' w'/\VI j' v cv:=by
 simp only[zCo,YZ]at A;obtain⟨n,hn,A⟩:=A;obtain⟨o,cp,rfl,_⟩:=zBJ hx hn;split at A
 .rename_i h0;subst h0;simp only[YJ,Yt]at A;obtain⟨u,K,rfl,rfl⟩:=A;have key:∃b len cap,cs=.slice b len cap/\len<=cap/\u=s:=by
   unfold asame at K;split at K
   .cases K;exact⟨_,_,_,hs,na _,rfl⟩
   .split at K
    .cases K;obtain⟨l,_,H,bG,_⟩:=hs;exact⟨_,_,_,bG,by assumption,rfl⟩
    .cases K
   .cases K;obtain⟨l,cc,ff,H,bG,hle,_⟩:=hs;exact⟨_,_,_,bG,hle,rfl⟩
   .cases K
  obtain⟨b,len,cap,rfl,hle,rfl⟩:=key;exact⟨j,_,w,zFl w t ty C i U T b o len cap cp hle,FR.refl _ _,m,hs⟩
 .rename_i h0;simp only[YZ]at A;obtain⟨news,hf,A⟩:=A;obtain⟨ad,bT,GZ,E,uf,hle,Y,L,aI,X⟩:=zBn m hx h0 hf;simp only[Value.slice.injEq]at uf;obtain⟨rfl,rfl,rfl⟩:=uf;have vh:=Y.length;have aQ:0<n:=by omega
  -- a new row
  have fresh:∀(old:List AV) (D:List Value) (len G:Nat) (S:AHeap),MR B w0 j S w->S.next=h.next->VIs j old D->D.length=len*i.size->old.all AV.one=true->n+len=n+len->G<len+n->
    MR B w0 (j.put h.next ⟨w.heap.size,0,grownCap w (len+n) G C*i.size⟩) (S.new ⟨true,old++news⟩)
     (w.drew.alloc (.cells (D.toArray++E.toArray++Builtin.zeroCells z.cells (grownCap w (len+n) G C-(len+n))) C))/\
    FR j S (j.put h.next ⟨w.heap.size,0,grownCap w (len+n) G C*i.size⟩) (S.new ⟨true,old++news⟩)/\
    VI (j.put h.next ⟨w.heap.size,0,grownCap w (len+n) G C*i.size⟩) (.sl h.next 0 (len+n) (.grown i.size)) (.slice (some ⟨w.heap.size,0,none⟩) (len+n) (grownCap w (len+n) G C)):=by
   intro old D len G S m2 cb hold mf me _ ah;have aF:=grownCap_ge w (len+n) G C;have E8:=hold.length;have dF:(D.toArray++E.toArray++Builtin.zeroCells z.cells (grownCap w (len+n) G C-(len+n))).size=grownCap w (len+n) G C*i.size:=by
    simp only[Ui,List.size_toArray,size_zeroCells,dw,mf,L,<-Nat.add_mul];congr 1;omega
   have:=m2.drew.new (ty:=C) (cells:=old++news) (cur:=D.toArray++E.toArray++Builtin.zeroCells z.cells (grownCap w (len+n) G C-(len+n))) (room:=grownCap w (len+n) G C*i.size)
    (by rw[List.all_append,me,aI];rfl)
    (by
     have hh:=hold.append Y;have ri:=hh.length;rw[ri];simp only[Array.toList_append];rw[UE (by simp),YR (by simp)];exact hh)
    (by rw[dF];exact na _)
   rw[cb]at this;refine⟨this.1,this.2,⟨⟨w.heap.size,0,grownCap w (len+n) G C*i.size⟩,grownCap w (len+n) G C,0,by simp[Inj.put],rfl,aF,.inl rfl,λ_ _=>by simp⟩⟩
  unfold agrow at A;split at A
  .split at A
   .rename_i Z;cases A;obtain⟨N,O,R⟩:=fresh [] [] 0 0 h m rfl rfl (by simp) rfl rfl (by omega);rw[show cs=.slice none 0 0 from hs];have I:=run_append_nil (P:=P) w t ty C i z U T hz ad n cp E L X aQ (by omega) (by omega);simp only[Y5,Ys,Array.empty_append]at N O R;exact⟨_,_,_,I,O,N,R⟩
   .cases A
  .rename_i M off len c;obtain⟨l,al,H,rfl,cU⟩:=hs;split at A
   .rename_i bB;obtain rfl:al=⟨l.blk,l.base+off,none⟩:=by rcases cU with e|⟨e,_⟩;exact e;omega
    simp only[YJ,Yt]at A;obtain⟨h1,hw,rfl,rfl⟩:=A;obtain⟨w',W,hm,iZ⟩:=m.wr (P:=P) H Y hw;refine⟨j,_,w',zDA w t ty C i U T ⟨l.blk,l.base+off,none⟩ len c ad n cp E L X bB ?_,iZ,hm,⟨l,_,H,rfl,.inl rfl⟩⟩;rw[ZB];rw[<-UG]at W;exact W
   .rename_i bB;split at A
    .rename_i Z;simp only[YJ,Yt]at A;obtain⟨old,cL,rfl,rfl⟩:=A;obtain⟨D,p1,J,p3,p4⟩:=m.cells cL H;obtain⟨N,O,R⟩:=fresh old D len c h m rfl p1 J p3 rfl (by omega);have sH:∀k u,D[k]? = some u->w.cell? (al.add k)=some u:=by
      rcases cU with rfl|⟨_,e⟩
      .exact p4
      .subst e;rw[Nat.zero_mul,List.length_eq_zero_iff]at J;subst J;intro k u gg;simp at gg
     have I:=run_append_grow (P:=P) w t ty C i z U T hz al len c D J sH ad n cp E L X (by omega) (by omega) (growslice_fits (by omega) (by omega));exact⟨_,_,_,I,O,N,R⟩
    .cases A
  .rename_i M off len g;split at A
   .rename_i Z;obtain⟨jd,gM,rfl⟩:=Z;simp only[YZ]at A;obtain⟨V,ho,A⟩:=A;split at A
    .rename_i Z;obtain⟨fa,hlen⟩:=Z;cases A;obtain⟨l,c,f,H,rfl,oM,dR,EH⟩:=hs;obtain⟨cur,nU,fz,aL,eB,I,_⟩:=(m.obj M V l ho H).row;obtain⟨rfl,bB,hB⟩:=I fa;obtain⟨mk,fk⟩:=m.kill H;have Fa:=(m.obj M V l ho H).one;have cL:h.rd M off (len*i.size)=some ((V.cells.drop off).take (len*i.size)):=by
      simp[AHeap.rd,ho,hlen]
     obtain⟨D,p1,J,p3,p4⟩:=m.cells cL H;by_cases dr:len+n<=c
     ·-- in place
      have FK:f=l.base+off:=by
       rcases dR with x|⟨_,_,x⟩
       .exact x
       .omega
      subst FK;have EG:=EH rfl an;have eL:l.base+off+(len+n)*i.size<=cur.size:=by
       have q1:(len+n)*i.size<=c*i.size:=Nat.mul_le_mul_right _ dr;omega
      have Al:l.base+off+len*i.size+E.length<=cur.size:=by rw[L,UG (l.base+off),<-Nat.add_mul];exact eL
      have W:=run_storeCells_at P l.blk (l.base+off+len*i.size) nU E 0 cur w aL (by omega) (Y.oneCell aI);simp only[UN]at W;have I:=zDA (P:=P) w t ty C i U T ⟨l.blk,l.base+off,none⟩ len c ad n cp E L X dr (by rw[ZB];exact W);have tK:D=(cur.toList.drop (l.base+off)).take (len*i.size):=by
       apply List.ext_getElem?;intro k;by_cases hk:k<D.length
       .have q1:=p4 k D[k] (YQ hk);rw[ZB]at q1;simp only[World.cell?,aL]at q1;rw[Yd,if_pos (by omega),YQ hk,Ye];simpa using q1.symm
       .rw[Yq (by omega),Yq (by simp;omega)]
      have:=mk.adopt (b:=l.blk) (base:=l.base+off) (room:=l.room-off) (cells:=(V.cells.drop off).take (len*i.size)++news) (cur:=cur) (ty:=nU)
       (new:=(cur.toList.take (l.base+off+len*i.size)++E++cur.toList.drop (l.base+off+len*i.size+E.length)).toArray) aL hB
       (by
        intro q la lq hq Fh e;by_cases tD:q=M
        .subst tD;simp[AHeap.kill]at hq
        .simp only[AHeap.kill,if_neg tD]at hq;exact m.apart M q V la l lq (λx=>tD x.symm) ho hq H Fh fa e.symm)
       (by simp;omega) (by omega) (by rw[List.all_append,p3,aI];rfl)
       (by
        have hh:=p1.append Y;have ri:=hh.length;rw[ri];have e:((cur.toList.take (l.base+off+len*i.size)++E++cur.toList.drop (l.base+off+len*i.size+E.length)).toArray.toList.drop (l.base+off)).take (D++E).length=D++E:=by
         simp only[Yb];rw[Uh (by simp;omega),List.drop_take,show l.base+off+len*i.size-(l.base+off)=len*i.size by omega,<-tK,<-Yb,UE (na _),YR (na _)]
        rw[e];exact hh)
      refine⟨_,_,_,I,fk.trans this.2,this.1,⟨⟨l.blk,l.base+off,l.room-off⟩,c,l.base+off,by simp[Inj.put,AHeap.kill],rfl,dr,.inl (by simp),λ_ _=>?_⟩⟩;simp only[Y5];omega
     .have sH:∀k u,D[k]? = some u->w.cell? ((⟨l.blk,f,none⟩:Addr).add k)=some u:=by
       rcases dR with rfl|⟨e,_⟩
       .exact p4
       .subst e;rw[Nat.zero_mul,List.length_eq_zero_iff]at J;subst J;intro k u gg;simp at gg
      have I:=run_append_grow (P:=P) w t ty C i z U T hz ⟨l.blk,f,none⟩ len c D J sH ad n cp E L X (by omega) (by omega) (growslice_fits (by omega) (by omega));obtain⟨N,O,R⟩:=fresh ((V.cells.drop off).take (len*i.size)) D len c (h.kill M) mk rfl p1 J p3 rfl (by omega);exact⟨_,_,_,I,fk.trans O,N,R⟩
    .cases A
   .cases A
  .cases A
theorem zMC(m:MR B w0 j h w){D:TypeId}{i:TypeInfo}{z:Value}(dw:z.cells.size=i.size)(an:i.size≠0){n:Nat}(aQ:0<n){news:List AV}{E:List Value}(U:VIs j news E)(gH:E.length=n*i.size)(aI:news.all AV.one=true){app:Value->Sem Value}
  (hN:n*i.bytes<=140737488355328->n<=4611686018427387904->(app (.slice none 0 0)).run P w=.ok (.slice (some ⟨w.heap.size,0,none⟩) n (grownCap w n 0 D)) (w.drew.alloc (.cells (E.toArray++Builtin.zeroCells z.cells (grownCap w n 0 D-n)) D)))
  (hR:∀(ad:Addr) (len cap:Nat) (L:World),len+n<=cap->(storeCells (ad.add (len*i.size)) E).run P w=.ok () L->(app (.slice (some ad) len cap)).run P w=.ok (.slice (some ad) (len+n) cap) L)
  (hG:∀(al:Addr) (len c:Nat) (A:List Value),A.length=len*i.size->(∀k u,A[k]? = some u->w.cell? (al.add k)=some u)->c<len+n->((len+n:Nat):Int)<=9223372036854775807->Builtin.nextslicecap (len+n) c*i.bytes<=281474976710656->
   (app (.slice (some al) len c)).run P w=.ok (.slice (some ⟨w.heap.size,0,none⟩) (len+n) (grownCap w (len+n) c D)) (w.drew.alloc (.cells (A.toArray++E.toArray++Builtin.zeroCells z.cells (grownCap w (len+n) c D-(len+n))) D)))
  {s:AV} {cs:Value} (hs:VI j s cs) {v:AV} {h':AHeap} (C:agrow i.size i.bytes h s news n=some (v,h')):
  ∃j' cv L,(app cs).run P w=.ok cv L/\FR j h j' h'/\MR B w0 j' h' L/\VI j' v cv:=by
 have vh:=U.length
 -- a new row
 have fresh:∀(old:List AV) (A:List Value) (len G:Nat) (R:AHeap),MR B w0 j R w->R.next=h.next->VIs j old A->A.length=len*i.size->old.all AV.one=true->n+len=n+len->G<len+n->
   MR B w0 (j.put h.next ⟨w.heap.size,0,grownCap w (len+n) G D*i.size⟩) (R.new ⟨true,old++news⟩)
    (w.drew.alloc (.cells (A.toArray++E.toArray++Builtin.zeroCells z.cells (grownCap w (len+n) G D-(len+n))) D))/\
   FR j R (j.put h.next ⟨w.heap.size,0,grownCap w (len+n) G D*i.size⟩) (R.new ⟨true,old++news⟩)/\
   VI (j.put h.next ⟨w.heap.size,0,grownCap w (len+n) G D*i.size⟩) (.sl h.next 0 (len+n) (.grown i.size)) (.slice (some ⟨w.heap.size,0,none⟩) (len+n) (grownCap w (len+n) G D)):=by
  intro old A len G R m2 cb hold mf me _ ah;have aF:=grownCap_ge w (len+n) G D;have E8:=hold.length;have dF:(A.toArray++E.toArray++Builtin.zeroCells z.cells (grownCap w (len+n) G D-(len+n))).size=grownCap w (len+n) G D*i.size:=by
   simp only[Ui,List.size_toArray,size_zeroCells,dw,mf,gH,<-Nat.add_mul];congr 1;omega
  have:=m2.drew.new (ty:=D) (cells:=old++news) (cur:=A.toArray++E.toArray++Builtin.zeroCells z.cells (grownCap w (len+n) G D-(len+n))) (room:=grownCap w (len+n) G D*i.size)
   (by rw[List.all_append,me,aI];rfl)
   (by
    have W:=hold.append U;have ri:=W.length;rw[ri];simp only[Array.toList_append];rw[UE (by simp),YR (by simp)];exact W)
   (by rw[dF];exact na _)
  rw[cb]at this;refine⟨this.1,this.2,⟨⟨w.heap.size,0,grownCap w (len+n) G D*i.size⟩,grownCap w (len+n) G D,0,by simp[Inj.put],rfl,aF,.inl rfl,λ_ _=>by simp⟩⟩
 unfold agrow at C;split at C
 .split at C
  .rename_i V;cases C;obtain⟨M,N,O⟩:=fresh [] [] 0 0 h m rfl rfl (by simp) rfl rfl (by omega);rw[show cs=.slice none 0 0 from hs];have I:=hN (by omega) (by omega);simp only[Y5,Ys,Array.empty_append]at M N O;exact⟨_,_,_,I,N,M,O⟩
  .cases C
 .rename_i K off len c;obtain⟨l,al,H,rfl,cU⟩:=hs;split at C
  .rename_i bB;obtain rfl:al=⟨l.blk,l.base+off,none⟩:=by rcases cU with e|⟨e,_⟩;exact e;omega
   simp only[YJ,Yt]at C;obtain⟨h1,hw,rfl,rfl⟩:=C;obtain⟨L,T,hm,iZ⟩:=m.wr (P:=P) H U hw;refine⟨j,_,L,hR ⟨l.blk,l.base+off,none⟩ len c _ bB ?_,iZ,hm,⟨l,_,H,rfl,.inl rfl⟩⟩;rw[ZB];rw[<-UG]at T;exact T
  .rename_i bB;split at C
   .rename_i V;simp only[YJ,Yt]at C;obtain⟨old,cL,rfl,rfl⟩:=C;obtain⟨A,Y,J,Z,p4⟩:=m.cells cL H;obtain⟨M,N,O⟩:=fresh old A len c h m rfl Y J Z rfl (by omega);have sH:∀k u,A[k]? = some u->w.cell? (al.add k)=some u:=by
     rcases cU with rfl|⟨_,e⟩
     .exact p4
     .subst e;rw[Nat.zero_mul,List.length_eq_zero_iff]at J;subst J;intro k u gg;simp at gg
    have I:=hG al len c A J sH (by omega) (by omega) (growslice_fits (by omega) (by omega));exact⟨_,_,_,I,N,M,O⟩
   .cases C
 .rename_i K off len g;split at C
  .rename_i V;obtain⟨jd,gM,rfl⟩:=V;simp only[YZ]at C;obtain⟨S,X,C⟩:=C;split at C
   .rename_i V;obtain⟨fa,hlen⟩:=V;cases C;obtain⟨l,c,f,H,rfl,oM,dR,EH⟩:=hs;obtain⟨cur,nU,fz,aL,eB,I,_⟩:=(m.obj K S l X H).row;obtain⟨rfl,bB,hB⟩:=I fa;obtain⟨mk,fk⟩:=m.kill H;have Fa:=(m.obj K S l X H).one;have cL:h.rd K off (len*i.size)=some ((S.cells.drop off).take (len*i.size)):=by
     simp[AHeap.rd,X,hlen]
    obtain⟨A,Y,J,Z,p4⟩:=m.cells cL H;by_cases dr:len+n<=c
    ·-- in place
     have FK:f=l.base+off:=by
      rcases dR with x|⟨_,_,x⟩
      .exact x
      .omega
     subst FK;have EG:=EH rfl an;have eL:l.base+off+(len+n)*i.size<=cur.size:=by
      have q1:(len+n)*i.size<=c*i.size:=Nat.mul_le_mul_right _ dr;omega
     have Al:l.base+off+len*i.size+E.length<=cur.size:=by rw[gH,UG (l.base+off),<-Nat.add_mul];exact eL
     have T:=run_storeCells_at P l.blk (l.base+off+len*i.size) nU E 0 cur w aL (by omega) (U.oneCell aI);simp only[UN]at T;have I:=hR ⟨l.blk,l.base+off,none⟩ len c _ dr (by rw[ZB];exact T);have tK:A=(cur.toList.drop (l.base+off)).take (len*i.size):=by
      apply List.ext_getElem?;intro k;by_cases hk:k<A.length
      .have q1:=p4 k A[k] (YQ hk);rw[ZB]at q1;simp only[World.cell?,aL]at q1;rw[Yd,if_pos (by omega),YQ hk,Ye];simpa using q1.symm
      .rw[Yq (by omega),Yq (by simp;omega)]
     have:=mk.adopt (b:=l.blk) (base:=l.base+off) (room:=l.room-off) (cells:=(S.cells.drop off).take (len*i.size)++news) (cur:=cur) (ty:=nU)
      (new:=(cur.toList.take (l.base+off+len*i.size)++E++cur.toList.drop (l.base+off+len*i.size+E.length)).toArray) aL hB
      (by
       intro q la lq hq Fh e;by_cases tD:q=K
       .subst tD;simp[AHeap.kill]at hq
       .simp only[AHeap.kill,if_neg tD]at hq;exact m.apart K q S la l lq (λx=>tD x.symm) X hq H Fh fa e.symm)
      (by simp;omega) (by omega) (by rw[List.all_append,Z,aI];rfl)
      (by
       have W:=Y.append U;have ri:=W.length;rw[ri];have e:((cur.toList.take (l.base+off+len*i.size)++E++cur.toList.drop (l.base+off+len*i.size+E.length)).toArray.toList.drop (l.base+off)).take (A++E).length=A++E:=by
        simp only[Yb];rw[Uh (by simp;omega),List.drop_take,show l.base+off+len*i.size-(l.base+off)=len*i.size by omega,<-tK,<-Yb,UE (na _),YR (na _)]
       rw[e];exact W)
     refine⟨_,_,_,I,fk.trans this.2,this.1,⟨⟨l.blk,l.base+off,l.room-off⟩,c,l.base+off,by simp[Inj.put,AHeap.kill],rfl,dr,.inl (by simp),λ_ _=>?_⟩⟩;simp only[Y5];omega
    .have sH:∀k u,A[k]? = some u->w.cell? ((⟨l.blk,f,none⟩:Addr).add k)=some u:=by
      rcases dR with rfl|⟨e,_⟩
      .exact p4
      .subst e;rw[Nat.zero_mul,List.length_eq_zero_iff]at J;subst J;intro k u gg;simp at gg
     have I:=hG ⟨l.blk,f,none⟩ len c A J sH (by omega) (by omega) (growslice_fits (by omega) (by omega));obtain⟨M,N,O⟩:=fresh ((S.cells.drop off).take (len*i.size)) A len c (h.kill K) mk rfl Y J Z rfl (by omega);exact⟨_,_,_,I,fk.trans N,M,O⟩
   .cases C
  .cases C
 .cases C
theorem zMf(w:World)(t D ty l:TypeId)(i:TypeInfo)(z:Value)(k V:IntKind)(K:P.underlying t=some (.slice l))(H:P.underlying D=some (.int V))(J:P.info? l=some i)(L:i.zero=some z)
  (n:Nat) (h0:0<n) (hs:0<i.size) (X:(n:Int)<=9223372036854775807) (Z:n*i.bytes<=281474976710656):
  (∀(ad:Addr) (len cap:Nat) (E:World),len+n<=cap->(storeCells (ad.add (len*i.size)) (Builtin.zeroCells z.cells n).toList).run P w=.ok () E->(Builtin.append_ #[t,D] ty #[.slice (some ad) len cap,.int k n]).run P w=.ok (.slice (some ad) (len+n) cap) E)/\
  (∀(al:Addr) (len c:Nat) (A:List Value),A.length=len*i.size->(∀k u,A[k]? = some u->w.cell? (al.add k)=some u)->c<len+n->((len+n:Nat):Int)<=9223372036854775807->Builtin.nextslicecap (len+n) c*i.bytes<=281474976710656->
   (Builtin.append_ #[t,D] ty #[.slice (some al) len c,.int k n]).run P w=.ok (.slice (some ⟨w.heap.size,0,none⟩) (len+n) (grownCap w (len+n) c l)) (w.drew.alloc (.cells (A.toArray++(Builtin.zeroCells z.cells n).toList.toArray++Builtin.zeroCells z.cells (grownCap w (len+n) c l-(len+n))) l))):=by
 have C:n≠0:=by omega
 have hw:IntKind.i64.wrap (n:Int)=n:=by rw[IntKind.wrap_i64];omega
 have G:¬(281474976710656<(n:Int)*(i.bytes:Int)):=by
  rw[<-UA];omega
 have I:¬((n:Int)<0):=by omega
 have M:¬(n*i.size=0):=Nat.mul_ne_zero C (by omega);refine⟨λad len cap E R S=>?_,λal len c A U holds hg Y W=>?_⟩
 .simp[Builtin.append_,run_underlying K,run_underlying H,sizeOf,typeInfo,zeroValue,J,L,asInt,asIntOf,hw,C,I,M,G,R,S]
 .have MJ:¬(len+n<=c):=by omega
  have N:¬(9223372036854775807<((len:Int)+(n:Int))):=by omega
  have O:¬(281474976710656<Builtin.nextslicecap (len+n) c*i.bytes):=by omega
  have T:=run_firstCells_some (P:=P) w.drew i.size len al len c A U (by simpa using holds);simp[Builtin.append_,run_underlying K,run_underlying H,sizeOf,typeInfo,zeroValue,J,L,asInt,asIntOf,hw,C,I,M,G,MJ,N,O,Question.forced,T,newRow,grownCap]
theorem zGb(w:World)(t u ty l:TypeId)(i:TypeInfo)(k G:IntKind)(E:P.underlying t=some (.slice l))(A:P.underlying u=some (.int G))(D:P.info? l=some i)(base:Option Addr)(len cap:Nat)(C:len<=cap):
  (Builtin.append_ #[t,u] ty #[.slice base len cap,.int k 0]).run P w=.ok (.slice base len cap) w:=by
 have hw:IntKind.i64.wrap (0:Int)=0:=rfl;cases base<;>simp[Builtin.append_,run_underlying E,run_underlying A,sizeOf,typeInfo,D,asInt,asIntOf,hw,C,storeCells]
theorem zDJ(m:MR B w0 j h w){t t' ty E:TypeId}{i:TypeInfo}{z:Value}{zs:List AV}{G:IntKind}(M:P.underlying t=some (.slice E))(J:P.underlying t'=some (.int G))(K:P.info? E=some i)(R:i.zero=some z)
  (X:qU z.cells.toList=some zs) (I:zs.length=i.size) (V:i.size≠0) {k:IntKind} {n:Int} (h0:0<=n) (Z:n*i.bytes<=140737488355328) (Gw:n<=4611686018427387904) {s:AV} {cs:Value} (hs:VI j s cs) {v:AV} {h':AHeap}
  (D:(if 0<n then agrow i.size i.bytes h s (zeros zs n.toNat) n.toNat else(asame s).map λv=>(v,h))=some (v,h')):
  ∃N O S,(Builtin.append_ #[t,t'] ty #[cs,.int k n]).run P w=.ok O S/\FR j h N h'/\MR B w0 N h' S/\VI N v O:=by
 obtain⟨q,rfl⟩:∃q:Nat,n=q:=⟨n.toNat,by omega⟩
 rw[Int.toNat_natCast]at D;by_cases L:0<q
 .rw[if_pos (by omega)]at D;obtain⟨U,z2⟩:=qV (j:=j) X;have C:=U.length;have T:z.cells.size=i.size:=by rw[<-I,C];simp
  have jv:z.cells.toList≠[]:=by intro x;rw[x]at C;simp at C;rw[C]at I;simp at I;omega
  have Y:(Builtin.zeroCells z.cells q).toList=(List.replicate q z.cells.toList).flatten:=by
   have:=Zv z.cells.toList jv q
   simpa [madeCells,Builtin.zeroCells]using this
  have jn:q*i.bytes<=140737488355328:=by
   have:((q*i.bytes:Nat):Int)<=140737488355328:=by simpa using Z
   omega
  have W:VIs j (zeros zs q) (Builtin.zeroCells z.cells q).toList:=by rw[Y];exact U.replicate q
  obtain⟨r1,r2⟩:=zMf (P:=P) w t t' ty E i z k G M J K R q L (by omega) (by omega) (by omega);refine zMC m T V L W (by rw[Array.length_toList,size_zeroCells,T]) (zBq z2 q) (app:=λc=>Builtin.append_ #[t,t'] ty #[c,.int k q]) (λ_ _=>?_) r1 r2 hs D;rw[Array.toArray_toList];exact Lib.run_append_nil_zeros (P:=P) w t t' ty E i z k G M J K R q L (by omega) (by omega) (by omega)
 .obtain rfl:q=0:=by omega
  rw[if_neg (by omega)]at D;simp only[YJ,Yt]at D;obtain⟨u,A,rfl,rfl⟩:=D;have key:∃b len cap,cs=.slice b len cap/\len<=cap/\u=s:=by
   unfold asame at A;split at A
   .cases A;exact⟨_,_,_,hs,na _,rfl⟩
   .split at A
    .cases A;obtain⟨l,_,C,H,_⟩:=hs;exact⟨_,_,_,H,by assumption,rfl⟩
    .cases A
   .cases A;obtain⟨l,cc,ff,C,H,hle,_⟩:=hs;exact⟨_,_,_,H,hle,rfl⟩
   .cases A
  obtain⟨b,len,cap,rfl,hle,rfl⟩:=key;exact⟨j,_,w,zGb w t t' ty E i k G M J K b len cap hle,FR.refl _ _,m,hs⟩
theorem zMH(m:MR B w0 j h w){t ty t' K:TypeId}{i:TypeInfo}(N:P.underlying t=some (.slice K))(L:P.info? K=some i)
  {d s:AV} {H cs:Value} (hd:VI j d H) (hs:VI j s cs) {v:AV} {h':AHeap} (u:acopy i.size h d s=some (v,h')):
  ∃J E,(Builtin.copy_ #[t,t'] ty #[H,cs]).run P w=.ok J E/\FR j h j h'/\MR B w0 j h' E/\VI j v J:=by
 simp only[acopy,YZ]at u;obtain⟨n,M,m',jG,u⟩:=u;obtain⟨od,SI,U,_⟩:=zBJ hd M;obtain⟨os,SH,D,_⟩:=zBJ hs jG;split at u
 .rename_i A;cases u;refine⟨_,w,?_,FR.refl _ _,m,rfl⟩;subst U;subst D
  have:Nat.min m' n=0:=A
  cases od<;>cases os<;>simp[Builtin.copy_,run_underlying N,Builtin.lenOf,this,zh L,Builtin.firstCells,loadCells,loadCellsFrom,storeCells,goInt]
 .rename_i A;split at u
  .rename_i o off n' cap;simp only[YZ,YJ,Yt]at u;obtain⟨news,hf,h1,hw,rfl,rfl⟩:=u;obtain⟨ad,G,S,nc,O,hle,Y,Z,aI,X⟩:=zBn m hs A hf;cases M;have key:∃l cp,j o=some l/\H=.slice (some ⟨l.blk,l.base+off,none⟩) n cp:=by
    cases cap with
    |known q=>
     obtain⟨l,a,C,rfl,ha⟩:=hd;rcases ha with rfl|⟨_,I⟩
     .exact⟨l,_,C,rfl⟩
     .subst I;simp at A
    |grown q=>
     obtain⟨l,cp,f,C,rfl,_,W,_⟩:=hd;rcases W with rfl|⟨I,_⟩
     .exact⟨l,_,C,rfl⟩
     .subst I;simp at A
   obtain⟨l,cp,C,rfl⟩:=key;obtain⟨E,V,hm,iZ⟩:=m.wr (P:=P) C Y hw;refine⟨_,E,?_,iZ,hm,rfl⟩;rw[O]at D;simp only[Value.slice.injEq]at D;obtain⟨rfl,rfl,rfl⟩:=D;subst O;have R:Nat.min G n=min G n:=rfl;have T:=zBY (P:=P) (w:=w) (len:=G) (cp:=S) Z X;simp[Builtin.copy_,run_underlying N,Builtin.lenOf,R,zh L,T,V,goInt]
  .cases u
end
section
open Go.RowKit
variable{P:Program}{w0 w:World}{j:Inj}{h:AHeap}
theorem zHL:∀{vs:List AV} {cs:List Value} {s:List UInt8},VIs j vs cs->zBo vs=some s->∃l:V1,cs=l.map (Value.int .u8)/\s=l.map λn=>UInt8.ofNat n.toNat
 |[],cs,s,hv,hs=>by
  cases hs;rw[show cs=[] from hv];exact⟨[],rfl,rfl⟩
 |v::vs,cs,s,hv,hs=>by
  obtain⟨c,r,rfl,u,A⟩:=hv;unfold zBo at hs;split at hs
  .rename_i heq;cases heq
  .rename_i n D heq;cases heq;obtain⟨t,C,rfl⟩:=YJ.1 hs;obtain⟨l,rfl,rfl⟩:=zHL A C;exact⟨n::l,by rw[show c=.int .u8 n from u];rfl,rfl⟩
  .cases hs
theorem zGB:∀(l:V1) (s:ByteArray),l.foldl (λr n=>r.push (UInt8.ofNat n.toNat)) s=⟨(s.data.toList++l.map λn=>UInt8.ofNat n.toNat).toArray⟩
 |[],s=>by simp
 |n::l,s=>by
  rw[List.foldl_cons,zGB l];simp[ByteArray.push]
theorem zLJ(m:MR B w0 j h w){src dst u:TypeId}(hs:P.underlying src=some (.slice u))(M:P.underlying u=some (.int .u8))(hd:P.underlying dst=some .string){x:AV}{c:Value}(H:VI j x c){s:List UInt8}
  (G:((alen x).bind λn=>(zAa 1 h x n).bind zBo)=some s) {K:AV->AHeap->Prop} (N:K (.str s) h):Ends P (do pure (.value (<-convert src dst c))) w B w0 j h K:=by
 simp only[YZ]at G;obtain⟨n,O,cs,l,E⟩:=G;obtain⟨o,cp,rfl,_⟩:=zBJ H O;refine⟨.str s,h,j,.string ⟨s.toArray⟩,w,.inl ?_,FR.refl _ _,m,rfl,N⟩;have key:(Conv.bytesToString (.slice o n cp)).run P w=.ok (.string ⟨s.toArray⟩) w:=by
  by_cases D:n=0
  .subst D
   have:s=[]:=by
    unfold zAa at l;rw[if_pos rfl]at l;cases l;cases E;rfl
   subst this;cases o with
   |none=>rfl
   |some a=>
    have A:(loadCells a 0).run P w=.ok (([]:V1).map (Value.int .u8)).toArray w:=by simp[loadCells,loadCellsFrom]
    rw[run_bytesToString (P:=P) w a 0 cp [] A];rfl
  .obtain⟨ad,U,S,V,R,hle,J,L,T,I⟩:=zBn m H D l;cases R;obtain⟨C,rfl,rfl⟩:=zHL J E;have A:(loadCells ad n).run P w=.ok (C.map (Value.int .u8)).toArray w:=by
    have:=run_loadCells_list (P:=P) w ad (C.map (Value.int .u8)) I
    rw[L,Nat.mul_one]at this;exact this
   rw[run_bytesToString (P:=P) w ad n cp C A,zGB];simp
 rw[Sem.run_bind,run_convert_bytes_string (P:=P) w src dst u o n cp hs M hd,key];rfl
end
section
open Go.RowKit
variable{P:Program}{w0 w:World}{j:Inj}{h:AHeap}{e:Env}{a:Act}
theorem Ends.wp{o:Oper}{K:AV->AHeap->Prop}{next:Act->World->Prop}{Q:Exit->Act->World->Prop}(J:Ends P (execOp a.eval o) w B w0 j h K)
  (H:∀v h' l C A,FR j h l h'->MR B w0 l h' A->VI l v C->K v h'->next (a.put o.dst C) A):o.wp P a w next Q:=by
 obtain⟨v,h',l,C,A,u,D,G,I,E⟩:=J;unfold Oper.wp;rcases u with u|⟨u,rfl⟩
 .rw[u];exact H v h' l C A D G I E
 .rw[u];exact H v h' l undef A D G I E
theorem zD0{f:FuncId}(l:okF P f=true)(args:Array Value):(callFunc f args).run P w=.ok (.enter f args) w:=by
 unfold okF at l;split at l
 .rename_i A u;simp only[Y6,Bool.not_eq_true']at l;have C:A.body.isNone=false:=by rw[Option.isNone_eq_false_iff];exact l.1
  simp only[callFunc,Sem.run_bind,run_program,Result.andThen_ok,u,l.2,C,Bool.false_eq_true,if_false,Sem.run_pure]
 .cases l
theorem zK7(m:MR B w0 j h w){o:Oper}{f:FuncId}{args:List AV}{cargs:Array Value}(L:(execOp a.eval o).run P w=.ok (.enter f cargs) w)(E:VIs j args cargs.toList)
  {K:AV->AHeap->Prop} (C:ZZ P f args h K) {next:Act->World->Prop} {Q:Exit->Act->World->Prop}
  (I:∀v h' l u A,FR j h l h'->MR B w0 l h' A->VI l v u->K v h'->next (a.put o.dst u) A):o.wp P a w next Q:=by
 unfold Oper.wp;rw[L];have D:=C B w0 j w cargs.toList m E;rw[Array.toArray_toList]at D;refine D.mono ?_
 rintro M A ⟨v,h',l,u,rfl,G,H,J,C⟩
 exact I v h' l u A G H J C
theorem zML(m:MR B w0 j h w)(r:ER nt j e a){o:Oper}{io:IOp}(u:copE P o.op=some io){K:AV->AHeap->Prop}(A:eff P io e h K){next:Act->World->Prop}{Q:Exit->Act->World->Prop}
  (H:∀v h' T I L,FR j h T h'->MR B w0 T h' L->VI T v I->K v h'->next (a.put o.dst I) L):o.wp P a w next Q:=by
 obtain⟨dst,op,ty,pos,after,guard⟩:=o;cases op<;>simp only[copE]at u<;>(try (cases u;done))
 case alloc t=>
  simp only[YZ,YJ]at u;obtain⟨z,⟨i,E,J⟩,zs,U,rfl⟩:=u;exact Ends.wp (o:=⟨dst,.alloc t,ty,pos,after,guard⟩) (zMR m E J U A) H
 case box t x=>
  simp only[YJ]at u;obtain⟨ix,hx,rfl⟩:=u;exact Ends.wp (o:=⟨dst,.box t x,ty,pos,after,guard⟩) (zPZ m (zN r hx) A.1 A.2) H
 case buildSlice t len ps=>
  split at u
  .rename_i et S;simp only[YZ]at u;obtain⟨i,E,z,J,zs,U,qs,iG,u⟩:=u;split at u
   .rename_i D;cases u;obtain⟨cs,O,C⟩:=A;exact Ends.wp (o:=⟨dst,.buildSlice t len ps,ty,pos,after,guard⟩) (zI7 m r S E J U iG D.1 D.2.1 D.2.2 O C) H
   .cases u
  .cases u
 case store t x v=>
  simp only[YZ]at u;obtain⟨i,E,ix,hx,iv,G,u⟩:=u;cases u;simp only[eff]at A;split at A
  .rename_i o k hp;have j4:=zN r hx;rw[hp]at j4;obtain⟨hl,h',hw,C⟩:=A;exact Ends.wp (o:=⟨dst,.store t x v,ty,pos,after,guard⟩) (zLK m E j4 (zN r G) hl hw C) H
  .exact A.elim
 case makeSlice t l c=>
  split at u
  .rename_i et S;simp only[YZ]at u;obtain⟨i,E,z,J,zs,U,il,aN,ic,Fx,u⟩:=u;split at u
   .rename_i D;cases u;simp only[eff]at A;split at A
    .rename_i kl l' kc c' M N;have V:=zN r aN;have W:=zN r Fx;rw[M]at V;rw[N]at W;obtain⟨⟨b1,b2,b3,b4⟩,C⟩:=A
     have:=zJ3 (P:=P) (t:=t) m S E J U D.1 D.2 (kl:=kl) (kc:=kc) b1 b2 b3 b4 C
     rw[<-show a.eval l=Value.int kl l' from V,<-show a.eval c=Value.int kc c' from W]at this;exact Ends.wp (o:=⟨dst,.makeSlice t l c,ty,pos,after,guard⟩) this H
    .exact A.elim
   .cases u
  .cases u
 case call c=>
  obtain⟨callee,args,argTypes⟩:=c;simp only[zER]at u;split at u<;>(try (cases u;done))
  .split at u<;>(try (cases u;done))
   .rename_i s x t t' X Z;split at u<;>(try (cases u;done))
    rename_i et S;split at u;rotate_left
    .split at u<;>(try (cases u;done))
     rename_i kn dW;have e1:args = #[s,x]:=by rw[<-Array.toArray_toList (xs:=args),X]
     have e2:argTypes = #[t,t']:=by rw[<-Array.toArray_toList (xs:=argTypes),Z]
     clear X Z;subst e1;subst e2;simp only[YZ]at u;obtain⟨i,E,z,J,zs,U,is,vw,ix,lj,u⟩:=u;split at u
     .rename_i D;cases u;simp only[eff]at A;split at A
      .rename_i k n M N;have V:=zN r vw;have W:=zN r lj;rw[M]at V;rw[N]at W;obtain⟨⟨b1,b2,b3⟩,C⟩:=A;obtain⟨v,h',G,C⟩:∃v h',(if 0<n then agrow i.size i.bytes h .nils (zeros zs n.toNat) n.toNat else(asame .nils).map λv=>(v,h))=some (v,h')/\K v h':=by
        by_cases b0:0<n
        .rw[if_pos b0]at C ⊢;have bb:n.toNat*i.bytes<=140737488355328:=by
          have e:((n.toNat*i.bytes:Nat):Int)=n*i.bytes:=by rw[UA,YI b1]
          omega
         exact⟨_,_,by simp only[agrow];rw[if_pos ⟨bb,by omega⟩],C⟩
        .rw[if_neg b0]at C ⊢;exact⟨_,_,rfl,C⟩
       obtain⟨T,I,L,R,O,Y,lO⟩:=zDJ (P:=P) (ty:=ty) m S dW E J U D.1 D.2 (k:=k) b1 b2 b3 V G;rw[<-show a.eval x=Value.int k n from W]at R;refine Ends.wp ⟨_,_,T,I,L,.inl ?_,O,Y,lO,C⟩ H;simp[execOp,resolve,invoke,builtin,R]
      .rename_i o off len c k n M N;have V:=zN r vw;have W:=zN r lj;rw[M]at V;rw[N]at W;obtain⟨⟨b1,b2,b3⟩,p,G,C⟩:=A;obtain⟨T,I,L,R,O,Y,lO⟩:=zDJ (P:=P) (ty:=ty) m S dW E J U D.1 D.2 (k:=k) b1 b2 b3 V G;rw[<-show a.eval x=Value.int k n from W]at R;refine Ends.wp ⟨_,_,T,I,L,.inl ?_,O,Y,lO,C⟩ H;simp[execOp,resolve,invoke,builtin,R]
      .exact A.elim
     .cases u
    rename_i Ev;subst Ev;have e1:args = #[s,x]:=by rw[<-Array.toArray_toList (xs:=args),X]
    have e2:argTypes = #[t,t]:=by rw[<-Array.toArray_toList (xs:=argTypes),Z]
    clear X Z;subst e1;subst e2;simp only[YZ]at u;obtain⟨i,E,z,J,is,vw,ix,lj,u⟩:=u;split at u
    .rename_i D;cases u;obtain⟨⟨v,h'⟩,G,C⟩:=A;obtain⟨T,I,L,R,O,Y,lO⟩:=zJH (P:=P) (ty:=ty) m S E J D.1 D.2 (zN r vw) (zN r lj) G;refine Ends.wp ⟨v,h',T,I,L,.inl ?_,O,Y,lO,C⟩ H;simp[execOp,resolve,invoke,builtin,R]
    .cases u
   .rename_i d s t t' X Z;split at u<;>(try (cases u;done))
    rename_i et S;have e1:args = #[d,s]:=by rw[<-Array.toArray_toList (xs:=args),X]
    have e2:argTypes = #[t,t']:=by rw[<-Array.toArray_toList (xs:=argTypes),Z]
    clear X Z;subst e1;subst e2;simp only[YZ]at u;obtain⟨i,E,id,jJ,is,vw,u⟩:=u;cases u;obtain⟨⟨v,h'⟩,G,C⟩:=A;obtain⟨I,L,R,O,Y,lO⟩:=zMH (P:=P) (ty:=ty) (t':=t') m S E (zN r jJ) (zN r vw) G;refine Ends.wp ⟨v,h',j,I,L,.inl ?_,O,Y,lO,C⟩ H;simp[execOp,resolve,invoke,builtin,R]
  .rename_i f;split at u
   .rename_i oH;simp only[YJ]at u;obtain⟨ixs,nK,rfl⟩:=u;have Np:ZZ P f (ixs.map (·.ev e)) h K:=A;refine zK7 (o:=⟨dst,.call ⟨.value (.func f),args,argTypes⟩,ty,pos,after,guard⟩) m (cargs:=args.map a.eval) (args:=ixs.map (·.ev e)) ?_ (by simpa using zA1 r nK) Np H;simp[execOp,resolve,Act.eval,Deferred.ofValue,invoke,zD0 oH]
   .cases u
  .rename_i t;simp only[YJ]at u;obtain⟨ixs,nK,rfl⟩:=u;simp only[eff]at A;split at A
   .rename_i f first cJ Nh
    have G:=r.vals t;rw[show e t=_ from Nh]at G;obtain⟨vs,us,M,N,h3⟩:=G;refine zK7 (o:=⟨dst,.call ⟨.value (.tmp t),args,argTypes⟩,ty,pos,after,guard⟩) m (cargs:=vs.toArray++args.map a.eval++us.toArray) ?_ (by simpa using (M.append (zA1 r nK)).append N) A.2 H;have vG:a.eval (.tmp t)=.func (.func f) vs.toArray us.toArray:=h3;simp[execOp,resolve,vG,Deferred.ofValue,invoke,zD0 A.1]
   .exact A.elim
 case convert src dt x=>
  split at u<;>(try (cases u;done))
  rename_i et M N;split at u<;>(try (cases u;done))
  rename_i h3;simp only[YJ]at u;obtain⟨ix,hx,rfl⟩:=u;obtain⟨s,G,C⟩:=A;exact Ends.wp (o:=⟨dst,.convert src _ x,ty,pos,after,guard⟩) (zLJ m M h3 N (zN r hx) G C) H
end
section
open Go.RowKit
structure II where
 dst:Option Nat
 op:IOp
 q:Bool
 guard:Option (Nat×Bool)
def zAX(ops:Array Oper):Option (Nat×Bool)->Option (Option (Nat×Bool))
 |none=>some none
 |some (k,b)=>((ops[k]?).bind (·.dst)).map λt=>some (t,b)
def dstOk(nt:Nat):Option Nat->Bool
 |some d=>decide (d<nt)
 |none=>true
def cItem(P:Program)(nt:Nat)(ops:Array Oper)(o:Oper):Option II:=
 (zAX ops o.guard).bind λg=>if dstOk nt o.dst=true then
  match copQ P o.op with
  |some l=>some ⟨o.dst,l,true,g⟩
  |none=>(copE P o.op).map λl=>⟨o.dst,l,false,g⟩
 else none
def gq(nb:Nat)(it:II)(e:Env)(h:AHeap):Option AV:=
 match it.guard with
 |none=>qv nb it.op e h
 |some (t,b)=>match e t with
  | .bool c=>if c=b then qv nb it.op e h else some (.tup [])
  | .tup []=>some (.tup [])
  |_=>none
def ge(P:Program)(it:II)(e:Env)(h:AHeap)(K:AV->AHeap->Prop):Prop:=
 match it.guard with
 |none=>eff P it.op e h K
 |some (t,b)=>match e t with
  | .bool c=>if c=b then eff P it.op e h K else K (.tup []) h
  | .tup []=>K (.tup []) h
  |_=>False
def RV(P:Program):List II->Env->AHeap->(Env->AHeap->Prop)->Prop
 |[],e,h,K=>K e h
 |it::r,e,h,K=>match it.q with
  |true=>optK (gq 0 it e h) λv=>RV P r (e.put it.dst v) h K
  |false=>ge P it e h λv h'=>RV P r (e.put it.dst v) h' K
variable{P:Program}{B:Nat}{w0 w:World}{j:Inj}{h:AHeap}{nt:Nat}{e:Env}{a:Act}{ops:Array Oper}{Q:Exit->Act->World->Prop}
theorem zLH(r:ER nt j e a){k t:Nat}{c:Bool}(A:(ops[k]?).bind (·.dst)=some t)(C:e t=.bool c):yielded ops a.tmps k=some c:=by
 have u:=r.vals t;rw[C]at u;have l:a.tmps.getD t undef=.bool c:=u;unfold yielded;rw[A];rw[Array.getD_eq_getD_getElem?]at l;cases hh:a.tmps[t]? with
 |none=>rw[hh]at l;cases l
 |some x=>rw[hh]at l;simp at l;subst l;simp[hh]
theorem zBL:VI j (.tup []) undef:=⟨[],rfl,rfl⟩
theorem zHj(r:ER nt j e a){k t:Nat}(A:(ops[k]?).bind (·.dst)=some t)(C:e t=.tup []):yielded ops a.tmps k=none:=by
 have l:=r.vals t;rw[C]at l;obtain⟨vs,u,l⟩:=l;cases u;unfold yielded;rw[A];rw[Array.getD_eq_getD_getElem?]at l;cases hh:a.tmps[t]? with
 |none=>simp[hh]
 |some x=>rw[hh]at l;simp at l;subst l;simp[hh]
theorem zCO{o:Oper}{it:II}(l:cItem P nt ops o=some it):
  it.dst=o.dst/\(∀d,it.dst=some d->d<nt)/\zAX ops o.guard=some it.guard/\(it.q=true/\copQ P o.op=some it.op\/it.q=false/\copE P o.op=some it.op):=by
 simp only[cItem,YZ]at l;obtain⟨g,A,l⟩:=l;split at l
 .rename_i hd;have u:∀d,o.dst=some d->d<nt:=by
   intro d u;rw[u]at hd;simpa [dstOk]using hd
  split at l
  .rename_i E D;cases l;exact⟨rfl,u,A,.inl ⟨rfl,D⟩⟩
  .simp only[YJ]at l;obtain⟨E,C,rfl⟩:=l;exact⟨rfl,u,A,.inr ⟨rfl,C⟩⟩
 .cases l
theorem zDN(r:ER nt j e a){o:Oper}{g:Option (Nat×Bool)}(l:zAX ops o.guard=some g):
  (g=none->Region.wanted o (yielded ops a.tmps)=true)/\(∀t b c,g=some (t,b)->e t=.bool c->Region.wanted o (yielded ops a.tmps)=decide (c=b))/\∀t b,g=some (t,b)->e t=.tup []->Region.wanted o (yielded ops a.tmps)=false:=by
 cases ho:o.guard with
 |none=>
  rw[ho]at l;cases l;exact⟨λ_=>by simp[Region.wanted,ho],λt b c x=>(by cases x),λt b x=>by cases x⟩
 |some kb=>
  obtain⟨k,b⟩:=kb;rw[ho]at l;simp only[zAX,YJ]at l;obtain⟨t,A,rfl⟩:=l;refine⟨λx=>by(cases x),λt' b' c x u=>?_,λt' b' x u=>?_⟩
  .cases x;simp only[Region.wanted,ho,zLH r A u];cases c<;>cases b<;>rfl
  .cases x;simp only[Region.wanted,ho,zHj r A u];rfl
theorem quiet_step(m:MR B w0 j h w)(r:ER nt j e a){i:Nat}{o:Oper}{it:II}(D:ops[i]? = some o)(u:cItem P nt ops o=some it)(M:it.q=true){nb:Nat}{v:AV}(l:gq nb it e h=some v)
  {next:Act->World->Prop} (E:∀a',ER nt j (e.put it.dst v) a'->next a' w):wpOp P ops Q i next a w:=by
 obtain⟨hd,A,L,I⟩:=zCO u;have H:copQ P o.op=some it.op:=by
  rcases I with x|x
  .exact x.2
  .rw[M]at x;cases x.1
 obtain⟨w1,w2,N⟩:=zDN r L;have run:qv nb it.op e h=some v->Region.wanted o (yielded ops a.tmps)=true->wpOp P ops Q i next a w:=by
  intro l hw;obtain⟨O,J,K⟩:=zMK m r H l;unfold wpOp;simp only[D,hw,if_true];refine .inl ?_;unfold Oper.wp;rw[J];exact E _ (by rw[<-hd];exact r.put A K)
 unfold gq at l;split at l
 .exact run l (w1 (by assumption))
 .rename_i t b G;split at l
  .rename_i c u;have hw:=w2 t b c G u;split at l
   .rename_i C;exact run l (by rw[hw];simpa using C)
   .rename_i C;cases l;unfold wpOp
    have:Region.wanted o (yielded ops a.tmps)=false:=by rw[hw];simpa using C
    simp only[D,this,Bool.false_eq_true,if_false];exact E _ (by rw[<-hd];exact r.put A zBL)
  .rename_i u;cases l;unfold wpOp;simp only[D,N t b G u,Bool.false_eq_true,if_false];exact E _ (by rw[<-hd];exact r.put A zBL)
  .cases l
theorem zFU(m:MR B w0 j h w)(r:ER nt j e a){i:Nat}{o:Oper}{it:II}(G:ops[i]? = some o)(u:cItem P nt ops o=some it)(R:it.q=false){K:AV->AHeap->Prop}(l:ge P it e h K)
  {next:Act->World->Prop} (H:∀v h' A a' C,FR j h A h'->MR B w0 A h' C->ER nt A (e.put it.dst v) a'->K v h'->next a' C):wpOp P ops Q i next a w:=by
 obtain⟨hd,D,N,M⟩:=zCO u;have L:copE P o.op=some it.op:=by
  rcases M with x|x
  .rw[R]at x;cases x.1
  .exact x.2
 obtain⟨w1,w2,T⟩:=zDN r N;have run:eff P it.op e h K->Region.wanted o (yielded ops a.tmps)=true->wpOp P ops Q i next a w:=by
  intro l hw;unfold wpOp;simp only[G,hw,if_true];refine .inl (zML m r L l ?_);intro v h' A U C J O S l;exact H v h' A _ C J O (by rw[<-hd];exact(r.mono (J.le m)).put D S) l
 unfold ge at l;split at l
 .exact run l (w1 (by assumption))
 .rename_i t b I;split at l
  .rename_i c u;have hw:=w2 t b c I u;split at l
   .rename_i E;exact run l (by rw[hw];simpa using E)
   .rename_i E;unfold wpOp
    have:Region.wanted o (yielded ops a.tmps)=false:=by rw[hw];simpa using E
    simp only[G,this,Bool.false_eq_true,if_false];exact H (.tup []) h j _ w (FR.refl _ _) m (by rw[<-hd];exact r.put D zBL) l
  .rename_i u;unfold wpOp;simp only[G,T t b I u,Bool.false_eq_true,if_false];exact H (.tup []) h j _ w (FR.refl _ _) m (by rw[<-hd];exact r.put D zBL) l
  .exact l.elim
def zGN(P:Program)(nt:Nat)(ops:Array Oper):List Oper->Option (List II)
 |[]=>some []
 |o::r=>(cItem P nt ops o).bind λa=>(zGN P nt ops r).bind λb=>some (a::b)
theorem zFa:∀(A:List Oper) (C:List II) (k:Nat),zGN P nt ops A=some C->ops.toList.drop k=A->∀{j:Inj} {h:AHeap} {w:World} {e:Env} {a:Act} {K:Env->AHeap->Prop},
  MR B w0 j h w->ER nt j e a->RV P C e h K->
  (∀D h' e' a' H,FR j h D h'->MR B w0 D h' H->ER nt D e' a'->K e' h'->Q .normal a' H)->wpOps P ops Q (List.range' k (ops.size-k)) a w
 |[],C,k,u,hd,j,h,w,e,a,K,m,r,l,hn=>by
  cases u
  have:ops.size-k=0:=by
   have:=congrArg List.length hd
   simpa using this
  rw[this];exact hn j h e a w (FR.refl _ _) m r l
 |o::A,C,k,u,hd,j,h,w,e,a,K,m,r,l,hn=>by
  simp only[zGN,YZ]at u;obtain⟨it,I,N,L,u⟩:=u;cases u;have ah:k<ops.size:=by
   have:=congrArg List.length hd
   simp at this;omega
  have J:ops[k]? = some o:=by
   have:ops.toList[k]? = some o:=by
    have:=congrArg List.head? hd
    rwa[List.head?_drop]at this
   simpa using this
  have M:ops.toList.drop (k+1)=A:=by
   have:=congrArg List.tail hd
   simpa [List.tail_drop]using this
  have G:ops.size-k=(ops.size-(k+1))+1:=by omega
  rw[G,List.range'_succ,wpOps_cons];unfold RV at l;split at l
  .rename_i E;obtain⟨v,V,l⟩:=l;exact quiet_step m r J I E V λa' Z=>zFa A N (k+1) L M m Z l hn
  .rename_i E;refine zFU m r J I E l ?_;intro v h' D a' H T U G l;exact zFa A N (k+1) L M U G l λW S X Y O R=>hn W S X Y O (T.trans R)
end
section
open Go.RowKit
structure DI extends II where
 idx:Nat
 chk:List Nat
structure Rec where
 idx:Nat
 agg:Bool
 n:Nat
 x:AV
 v:AV
def Za(g:Option (Nat×Bool))(e:Env):Bool:=
 match g with
 |none=>true
 |some (t,b)=>match e t with
  | .bool c=>decide (c=b)
  |_=>false
def recOf(it:DI)(e:Env)(v:AV):List Rec:=
 match it.op with
 | .load agg n x=>if Za it.guard e=true then [⟨it.idx,agg,n,x.ev e,v⟩]else []
 |_=>[]
def RecOK(chk:List Nat):List Rec->AHeap->Prop
 |[],_=>True
 |r::rs,h=>(if chk.contains r.idx=true then ldv r.agg r.n r.x h=some r.v else True)/\RecOK chk rs h
def DV(P:Program)(nb:Nat):List DI->List Rec->Env->AHeap->(Env->AHeap->Prop)->Prop
 |[],_,e,h,K=>K e h
 |it::r,recs,e,h,K=>match it.q with
  |true=>optK (gq nb it.toII e h) λv=>DV P nb r (recOf it e v++recs) (e.put it.dst v) h K
  |false=>ge P it.toII e h λv h'=>RecOK it.chk recs h'/\DV P nb r recs (e.put it.dst v) h' K
def IX.rd:IX->List Nat
 | .t n=>[n]
 | .c _=>[]
def ixos(x:Option IX):List Nat:=match x with|some x=>x.rd|none=>[]
def ixs(l:List IX):List Nat:=l.flatMap IX.rd
def ixps(l:List (Nat×Nat×IX)):List Nat:=l.flatMap λp=>p.2.2.rd
def IOp.reads:IOp->List Nat
 | .mv x | .un _ x | .conv _ x | .nilCheck x | .field _ _ _ x | .fieldAddr _ x | .extract x _ | .len x | .lenStr x | .cap x | .load _ _ x | .box x | .strOf x=>x.rd
 | .pick c a b=>c.rd++a.rd++b.rd
 | .bin _ _ x y | .indexAddr _ x y | .indexStr x y | .maxmin _ x y | .store _ x y | .makeSl _ _ _ x y | .appendMk _ _ _ x y | .append _ _ x y | .copy _ x y=>x.rd++y.rd
 | .build _ ps | .buildSl _ _ _ ps=>ixps ps
 | .slice _ x lo hi mx=>x.rd++ixos lo++ixos hi++ixos mx
 | .sliceStr x lo hi=>x.rd++ixos lo++ixos hi
 | .makeFunc _ a b=>ixs a++ixs b
 | .call _ a=>ixs a
 | .callV f a=>f.rd++ixs a
 | .rev _ | .revS _ _ | .alloc _=>[]
def II.reads(it:II):List Nat:=it.op.reads++(match it.guard with|some (t,_)=>[t] |none=>[])
variable{P:Program}{h h':AHeap}{nb:Nat}{e e':Env}{a:Act}
theorem IX.ev_congr{x:IX}(l:∀t∈x.rd,e t=e' t):x.ev e=x.ev e':=by
 cases x with
 |t n=>exact l n (by simp[IX.rd])
 |c v=>rfl
theorem zAO{x:Option IX}(l:∀t∈ixos x,e t=e' t):x.map (·.ev e)=x.map (·.ev e'):=by
 cases x with
 |none=>rfl
 |some x=>simp[IX.ev_congr (x:=x) l]
theorem zB4{l:List IX}(u:∀t∈ixs l,e t=e' t):l.map (·.ev e)=l.map (·.ev e'):=by
 apply List.map_congr_left;intro x C;exact IX.ev_congr λt A=>u t (UI.2 ⟨x,C,A⟩)
theorem zF6{l:List (Nat×Nat×IX)}(u:∀t∈ixps l,e t=e' t):(l.map λp=>(p.1,p.2.1,p.2.2.ev e))=l.map λp=>(p.1,p.2.1,p.2.2.ev e'):=by
 apply List.map_congr_left;intro x C;rw[IX.ev_congr λt A=>u t (UI.2 ⟨x,C,A⟩)]
theorem zOZ{op:IOp}(l:∀t∈op.reads,e t=e' t):qv nb op e h=qv nb op e' h:=by
 cases op<;>simp only[IOp.reads,YY,or_imp,forall_and]at l<;>simp only[qv]
 case mv x=>rw[IX.ev_congr l]
 case pick c a b=>rw[IX.ev_congr l.1.1,IX.ev_congr l.1.2,IX.ev_congr l.2]
 case bin o k x y=>rw[IX.ev_congr l.1,IX.ev_congr l.2]
 case un o x=>rw[IX.ev_congr l]
 case conv k x=>rw[IX.ev_congr l]
 case nilCheck x=>rw[IX.ev_congr l]
 case build z ps=>rw[zF6 l]
 case field a n o x=>rw[IX.ev_congr l]
 case fieldAddr o x=>rw[IX.ev_congr l]
 case indexAddr s x y=>rw[IX.ev_congr l.1,IX.ev_congr l.2]
 case indexStr x y=>rw[IX.ev_congr l.1,IX.ev_congr l.2]
 case extract x i=>rw[IX.ev_congr l]
 case len x=>rw[IX.ev_congr l]
 case lenStr x=>rw[IX.ev_congr l]
 case cap x=>rw[IX.ev_congr l]
 case slice s x lo hi mx=>rw[IX.ev_congr l.1.1.1,zAO l.1.1.2,zAO l.1.2,zAO l.2]
 case sliceStr x lo hi=>rw[IX.ev_congr l.1.1,zAO l.1.2,zAO l.2]
 case maxmin m x y=>rw[IX.ev_congr l.1,IX.ev_congr l.2]
 case makeFunc f a b=>rw[zB4 l.1,zB4 l.2]
 case load a n x=>rw[IX.ev_congr l]
theorem zNz{op:IOp}(u:∀t∈op.reads,e t=e' t){K:AV->AHeap->Prop}(A:eff P op e h K):eff P op e' h K:=by
 cases op<;>simp only[IOp.reads,YY,or_imp,forall_and]at u<;>simp only[eff]at A ⊢<;>(try exact A)
 case box x=>rw[<-IX.ev_congr u];exact A
 case buildSl a b c ps=>rw[<-zF6 u];exact A
 case store n x v=>rw[<-IX.ev_congr u.1,<-IX.ev_congr u.2];exact A
 case makeSl a b z l c=>rw[<-IX.ev_congr u.1,<-IX.ev_congr u.2];exact A
 case appendMk a b z l c=>rw[<-IX.ev_congr u.1,<-IX.ev_congr u.2];exact A
 case append a b s x=>rw[<-IX.ev_congr u.1,<-IX.ev_congr u.2];exact A
 case copy a d s=>rw[<-IX.ev_congr u.1,<-IX.ev_congr u.2];exact A
 case call f a=>rw[<-zB4 u];exact A
 case callV f a=>rw[<-IX.ev_congr u.1,<-zB4 u.2];exact A
 case strOf x=>rw[<-IX.ev_congr u];exact A
theorem zIv{op:IOp}{K K':AV->AHeap->Prop}(C:∀v h',K v h'->K' v h')(A:eff P op e h K):eff P op e h K':=by
 cases op<;>simp only[eff]at A ⊢
 case alloc z=>exact C _ _ A
 case box x=>exact⟨A.1,C _ _ A.2⟩
 case buildSl a b c ps=>obtain⟨x,y,z⟩:=A;exact⟨x,y,C _ _ z⟩
 case store n x v=>
  split at A
  .obtain⟨x,y,z,u⟩:=A;exact⟨x,y,z,C _ _ u⟩
  .exact A
 case makeSl a b z l c=>
  split at A
  .exact⟨A.1,C _ _ A.2⟩
  .exact A
 case appendMk a b z l c=>
  split at A
  .refine⟨A.1,?_⟩;have D:=A.2;split at D
   .rename_i E;rw[if_pos E];exact C _ _ D
   .rename_i E;rw[if_neg E];exact C _ _ D
  .obtain⟨x,y,z,u⟩:=A;exact⟨x,y,z,C _ _ u⟩
  .exact A
 case append a b s x=>obtain⟨x,y,z⟩:=A;exact⟨x,y,C _ _ z⟩
 case copy a d s=>obtain⟨x,y,z⟩:=A;exact⟨x,y,C _ _ z⟩
 case call f a=>exact A.mono C
 case callV f a=>
  split at A
  .exact⟨A.1,A.2.mono C⟩
  .exact A
 case strOf x=>obtain⟨s,hs,A⟩:=A;exact⟨s,hs,C _ _ A⟩
theorem II.reads_op{it:II}{t:Nat}(l:t∈it.op.reads):t∈it.reads:=List.mem_append_left _ l
theorem II.reads_guard{it:II}{t:Nat}{b:Bool}(l:it.guard=some (t,b)):t∈it.reads:=by simp[II.reads,l]
theorem zAl{it:II}(u:∀t∈it.reads,e t=e' t):gq nb it e h=gq nb it e' h:=by
 have l:=zOZ (nb:=nb) (h:=h) (op:=it.op) λt C=>u t (II.reads_op C);unfold gq;split
 .exact l
 .rename_i t b A;rw[u t (II.reads_guard A)];simp only[l]
theorem zIm{it:II}(D:∀t∈it.reads,e t=e' t){K:AV->AHeap->Prop}(l:ge P it e h K):ge P it e' h K:=by
 have C:eff P it.op e h K->eff P it.op e' h K:=zNz λt E=>D t (II.reads_op E);unfold ge at l ⊢;split
 .rename_i u;rw[u]at l;exact C l
 .rename_i t b u;rw[u]at l;rw[<-D t (II.reads_guard u)];simp only at l;split at l
  .split at l
   .rename_i A;rw[if_pos A];exact C l
   .rename_i A;rw[if_neg A];exact l
  .exact l
  .exact l.elim
theorem zAm{it:II}{K K':AV->AHeap->Prop}(u:∀v h',K v h'->K' v h')(l:ge P it e h K):ge P it e h K':=by
 unfold ge at l ⊢;split
 .rename_i C;rw[C]at l;exact zIv u l
 .rename_i t b C;rw[C]at l;simp only at l;split at l
  .split at l
   .rename_i A;rw[if_pos A];exact zIv u l
   .rename_i A;rw[if_neg A];exact u _ _ l
  .exact u _ _ l
  .exact l.elim
theorem QC{it:II}(l:∀t∈it.reads,e t=e' t):Za it.guard e=Za it.guard e':=by
 unfold Za;split
 .rfl
 .rename_i t b u;rw[l t (II.reads_guard u)]
theorem QM{it:DI}(l:∀t∈it.reads,e t=e' t)(v:AV):recOf it e v=recOf it e' v:=by
 unfold recOf;split
 .rename_i agg n x u;rw[QC l,IX.ev_congr (x:=x) (e:=e) (e':=e') λt A=>l t (II.reads_op (by rw[u];exact A))]
 .rfl
def IOp.isLoad:IOp->Bool
 | .load _ _ _=>true
 |_=>false
theorem zKk{op:IOp}(l:op.isLoad=false):qv nb op e h=qv nb op e h':=by
 cases op<;>first|rfl|(simp[IOp.isLoad]at l)
theorem zA3{chk:List Nat}:∀{recs:List Rec},RecOK chk recs h↔∀r∈recs,chk.contains r.idx=true->ldv r.agg r.n r.x h=some r.v
 |[]=>by simp[RecOK]
 |r::rs=>by
  simp only[RecOK,zA3 (recs:=rs),YH,forall_eq_or_imp];refine and_congr_left λ_=>?_;by_cases l:chk.contains r.idx=true
  .rw[if_pos l];exact⟨λx _=>x,λx=>x l⟩
  .rw[if_neg l];exact⟨λ_ x=>absurd x l,λ_=>trivial⟩
theorem RecOK.sub{chk:List Nat}{recs l:List Rec}(hs:∀r∈l,r∈recs)(u:RecOK chk recs h):RecOK chk l h:=
 zA3.2 λr A=>zA3.1 u r (hs r A)
theorem DV.sub:∀(l:List DI) {recs A:List Rec} {e:Env} {h:AHeap} {K:Env->AHeap->Prop},(∀r∈A,r∈recs)->DV P nb l recs e h K->DV P nb l A e h K
 |[],_,_,_,_,_,_,u=>u
 |it::r,recs,A,e,h,K,hs,u=>by
  unfold DV at u ⊢;split
  .rename_i C;rw[C]at u;obtain⟨v,E,u⟩:=u;refine⟨v,E,DV.sub r (λx D=>?_) u⟩;simp only[YY]at D ⊢;exact D.imp id (hs x)
  .rename_i C;rw[C]at u;exact zAm (λv h' u=>⟨u.1.sub hs,DV.sub r hs u.2⟩) u
def apart(q p:II):Bool:=
 (match q.dst with|some d=>!p.reads.contains d && p.dst != some d|none=>true) && (match p.dst with|some d=>!q.reads.contains d|none=>true)
theorem apart_spec{q p:II}(A:apart q p=true):(∀(e:Env) v,∀t∈p.reads,(e.put q.dst v) t=e t)/\(∀(e:Env) v,∀t∈q.reads,(e.put p.dst v) t=e t)/\
  ∀(e:Env) u v,(e.put q.dst u).put p.dst v=(e.put p.dst v).put q.dst u:=by
 unfold apart at A;simp only[Y6]at A;obtain⟨l,C⟩:=A;refine⟨λe v t D=>?_,λe v t D=>?_,λe u v=>?_⟩
 .cases hq:q.dst with
  |none=>rfl
  |some d=>
   rw[hq]at l;simp at l;simp only[Env.put];rw[if_neg (λ(x:t=d)=>l.1 (x ▸ D))]
 .cases hp:p.dst with
  |none=>rfl
  |some d=>
   rw[hp]at C;simp at C;simp only[Env.put];rw[if_neg (λ(x:t=d)=>C (x ▸ D))]
 .cases hq:q.dst with
  |none=>cases p.dst<;>rfl
  |some d=>
   cases hp:p.dst with
   |none=>rfl
   |some d'=>
    rw[hq,hp]at l;simp at l;have E:d'≠d:=l.2;funext t;simp only[Env.put];by_cases x:t=d'
    .subst x;simp[E]
    .simp[x]
theorem zEw{p:DI}{G:List DI}(C:p.q=true):∀(u:List DI) {recs:List Rec} {e:Env} {h:AHeap} {K:Env->AHeap->Prop},(∀q∈u,q.q=true/\apart q.toII p.toII=true)->
  DV P nb (u++p::G) recs e h K->∃v,gq nb p.toII e h=some v/\DV P nb (u++G) (recOf p e v++recs) (e.put p.dst v) h K
 |[],recs,e,h,K,_,l=>by
  simp only[Ys,DV,C]at l;exact l
 |q::u,recs,e,h,K,ha,l=>by
  obtain⟨D,J⟩:=ha q (by simp);obtain⟨H,I,N⟩:=apart_spec J;simp only[Yo,DV,D]at l;obtain⟨A,M,l⟩:=l;obtain⟨v,E,l⟩:=zEw C u (λx L=>ha x (by simp[L])) l;rw[zAl (H e A)]at E;refine⟨v,E,?_⟩;simp only[Yo,DV,D];refine⟨A,by rw[zAl (I e v)];exact M,?_⟩;rw[QM (H e A)]at l;dsimp only;rw[QM (I e v),<-N];refine DV.sub _ (λr hr=>?_) l;simp only[YY]at hr ⊢;rcases hr with hr|hr|hr
  .exact .inr (.inl hr)
  .exact .inl hr
  .exact .inr (.inr hr)
theorem zHF{p:DI}{M:List DI}(I:p.q=false):∀(C:List DI) {recs:List Rec} {e:Env} {h:AHeap} {K:Env->AHeap->Prop},
  (∀q∈C,q.q=true/\apart q.toII p.toII=true/\(q.op.isLoad=true->p.chk.contains q.idx=true))->
  DV P nb (C++p::M) recs e h K->ge P p.toII e h λv h'=>RecOK p.chk recs h'/\DV P nb (C++M) recs (e.put p.dst v) h' K
 |[],recs,e,h,K,_,l=>by
  simp only[Ys,DV,I]at l;exact l
 |q::C,recs,e,h,K,ha,l=>by
  obtain⟨J,O,W⟩:=ha q (by simp);obtain⟨U,D,V⟩:=apart_spec O;simp only[Yo,DV,J]at l;obtain⟨G,T,l⟩:=l
  have:=zHF I C (λx S=>ha x (by simp[S])) l
  refine zAm (λv h' l=>?_) (zIm (U e G) this);obtain⟨L,l⟩:=l;refine⟨L.sub λr E=>List.mem_append_right _ E,?_⟩;simp only[Yo,DV,J];refine⟨G,?_,?_⟩
  .have h1:gq nb q.toII (e.put p.dst v) h=some G:=by rw[zAl (D e v)];exact T
   rw[<-h1];cases hl:q.op.isLoad with
   |false=>
    unfold gq;simp only[zKk (nb:=nb) (e:=e.put p.dst v) (h:=h') (h':=h) hl]
   |true=>
    cases bm:q.op with
    |load agg n x=>
     have H:x.ev (e.put p.dst v)=x.ev e:=IX.ev_congr λt R=>D e v t (II.reads_op (by rw[bm];exact R));cases hw:Za q.guard e with
     |true=>
      have E:=zA3.1 L ⟨q.idx,agg,n,x.ev e,G⟩ (by simp[recOf,bm,hw]) (W hl);rw[h1];unfold gq;rw[<-QC (e:=e.put p.dst v) (D e v)]at hw;unfold Za at hw;split
      .show qv nb q.op _ _=_;rw[bm];simp only[qv,H];exact E
      .rename_i t b A;rw[A]at hw;simp only at hw;split at hw
       .rename_i c u;rw[u];simp only;rw[if_pos (by simpa using hw)];show qv nb q.op _ _=_;rw[bm];simp only[qv,H];exact E
       .cases hw
     |false=>
      rw[<-QC (e:=e.put p.dst v) (D e v)]at hw;unfold gq;unfold Za at hw;split
      .rename_i A;rw[A]at hw;cases hw
      .rename_i t b A;rw[A]at hw;simp only at hw;split at hw
       .rename_i c u;rw[u];simp only;rw[if_neg (by simpa using hw),if_neg (by simpa using hw)]
       .rename_i N;split
        .rename_i c u;exact absurd u (N c)
        .rfl
        .rfl
    |_=>rw[bm]at hl;cases hl
  .dsimp only;rw[QM (D e v),<-V];exact l
end
section
open Go.RowKit
def qX(o:Oper):List Nat:=(o.after.toList.filter λx=>Region.binds .any x).map (·.on)
def IOp.revK:IOp->Option Nat
 | .rev k=>some k
 | .revS k _=>some k
 |_=>none
def cNew(P:Program)(al:Bool)(o:Oper):Option (Nat×List AV):=
 match al,o.op with
 |true,.buildSlice t len ps=>match P.underlying t with
  |some (.slice et)=>(P.info? et).bind λi=>i.zero.bind λz=>(qU z.cells.toList).bind λzs=>(zAY i.size ps.toList).bind λl=>
   if l.all (λp=>p.2.2.rd.isEmpty)=true/\zs.length=i.size/\i.size≠0/\len*i.size<=16777216 then(afill (zeros zs len) (l.map λp=>(p.1,p.2.1,p.2.2.ev (λ_=>.undef)))).map λcs=>(len,cs)else none
  |_=>none
 |_,_=>none
def cDI(P:Program)(nt:Nat)(ops:Array Oper)(pt:List (List Nat))(al:Bool)(before:List DI)(k i:Nat):Option (DI×Option (List AV)):=
 (ops[i]?).bind λo=>match cNew P al o with
  |some (len,zs)=>(zAX ops o.guard).bind λg=>if dstOk nt o.dst=true then some (⟨⟨o.dst,.revS k len,true,g⟩,i,[]⟩,some zs)else none
  |none=>match o.op with
  | .alloc t=>(zAX ops o.guard).bind λg=>if dstOk nt o.dst=true then((P.info? t).bind (·.zero)).bind λz=>(qU z.cells.toList).map λzs=>(⟨⟨o.dst,.rev k,true,g⟩,i,[]⟩,some zs)else none
  |_=>(cItem P nt ops o).map λit=>(⟨it,i,if it.q=true then []else(before.filter λq=>q.op.isLoad && !(pt.getD i []).contains q.idx).map (·.idx)⟩,none)
def cDIs(P:Program)(nt:Nat)(ops:Array Oper)(pt:List (List Nat))(al:Bool):List Nat->List DI->Nat->Option (List DI×List (List AV))
 |[],_,_=>some ([],[])
 |i::r,before,k=>(cDI P nt ops pt al before k i).bind λx=>match x.2 with
  |none=>(cDIs P nt ops pt al r (before++[x.1]) k).map λy=>(x.1::y.1,y.2)
  |some z=>(cDIs P nt ops pt al r (before++[x.1]) (k+1)).map λy=>(x.1::y.1,z::y.2)
def zAv(pt:List (List Nat))(q p:DI):Bool:=
 (pt.getD p.idx []).contains q.idx || (apart q.toII p.toII && q.q && (p.q || !q.op.isLoad || p.chk.contains q.idx))
def pairs(f:DI->DI->Bool):List DI->Bool
 |[]=>true
 |q::r=>r.all (f q) && pairs f r
def ptOk(ops:Array Oper)(pt:List (List Nat)):Bool:=
 (List.range ops.size).all λi=>match ops[i]? with
  |some o=>!(pt.getD i []).contains i && (qX o).all (λd=>decide (d<ops.size) && (pt.getD i []).contains d) && (pt.getD i []).all λx=>(qX o).any λd=>d == x || (pt.getD d []).contains x
  |none=>true
def dOk(ops:Array Oper)(pt:List (List Nat))(order:List Nat)(l:List DI):Bool:=
 ptOk ops pt && (l.map (·.idx) == order) && decide order.Nodup && (order.length == ops.size) && (List.range ops.size).all (λi=>order.contains i) &&
 pairs (zAv pt) l && pairs (λq p=>!(pt.getD q.idx []).contains p.idx) l
theorem zFB{f:DI->DI->Bool}:∀{l:List DI},pairs f l=true->l.Pairwise λq p=>f q p=true
 |[],_=>.nil
 |q::r,h=>by
  simp only[pairs,Y6,List.all_eq_true]at h;exact .cons h.1 (zFB h.2)
variable{P:Program}{B:Nat}{w0 w:World}{j:Inj}{h h':AHeap}{nt nb:Nat}{e e':Env}{a:Act}{ops:Array Oper}{Q:Exit->Act->World->Prop}{pt:List (List Nat)}{zs:List (List AV)}
def Laid(P:Program)(op:IOp)(o:Op)(k:Nat)(C:List AV):Prop:=
 (∃t i z,op=.rev k/\o=.alloc t/\P.info? t=some i/\i.zero=some z/\qU z.cells.toList=some C)\/
 ∃t u i z zs len A l,op=.revS k len/\o=.buildSlice t len A/\P.underlying t=some (.slice u)/\P.info? u=some i/\i.zero=some z/\qU z.cells.toList=some zs/\zs.length=i.size/\i.size≠0/\len*i.size<=16777216/\zAY i.size A.toList=some l/\l.all (λp=>p.2.2.rd.isEmpty)=true/\afill (zeros zs len) (l.map λp=>(p.1,p.2.1,p.2.2.ev (λ_=>.undef)))=some C
def From(P:Program)(nt:Nat)(ops:Array Oper)(zs:List (List AV))(it:DI):Prop:=
 ∃o,ops[it.idx]? = some o/\(cItem P nt ops o=some it.toII/\it.op.revK=none\/
  ∃k l,it.op.revK=some k/\zs[k]? = some l/\Laid P it.op o.op k l/\it.q=true/\it.dst=o.dst/\(∀d,it.dst=some d->d<nt)/\zAX ops o.guard=some it.guard)
theorem zN8{P:Program}{al:Bool}{o:Oper}{len:Nat}{u:List AV}(h:cNew P al o=some (len,u))(k:Nat):Laid P (.revS k len) o.op k u:=by
 unfold cNew at h;split at h
 .rename_i t M K A;split at h
  .rename_i E H;simp only[YZ]at h;obtain⟨i,G,z,I,zs,C,L,J,h⟩:=h;split at h
   .rename_i l;simp only[YJ,Yt]at h;obtain⟨cs,D,rfl,rfl⟩:=h;exact .inr ⟨t,E,i,z,zs,_,K,L,rfl,A,H,G,I,C,l.2.1,l.2.2.1,l.2.2.2,J,l.1,D⟩
   .cases h
  .cases h
 .cases h
theorem zE0{o:Oper}{it:II}(A:cItem P nt ops o=some it)(op:IOp)(u:it.op=op)(h:(∃k,op=.rev k)\/∃k n,op=.revS k n):False:=by
 obtain⟨_,_,_,l⟩:=zCO A;rcases h with ⟨k,rfl⟩|⟨k,n,rfl⟩
 .rcases l with ⟨_,l⟩|⟨_,l⟩
  .rw[u]at l;cases ho:o.op<;>rw[ho]at l<;>simp only[copQ]at l<;>(try (cases l;done))<;>(repeat (first|(split at l)|(simp only[YZ,YJ]at l)|(obtain⟨_,_,l⟩:=l)|(cases l;done)))
  .rw[u]at l;cases ho:o.op<;>rw[ho]at l<;>simp only[copE,zER]at l<;>(try (cases l;done))<;>(repeat (first|(split at l)|(simp only[YZ,YJ]at l)|(obtain⟨_,_,l⟩:=l)|(cases l;done)))
 .rcases l with ⟨_,l⟩|⟨_,l⟩
  .rw[u]at l;cases ho:o.op<;>rw[ho]at l<;>simp only[copQ]at l<;>(try (cases l;done))<;>(repeat (first|(split at l)|(simp only[YZ,YJ]at l)|(obtain⟨_,_,l⟩:=l)|(cases l;done)))
  .rw[u]at l;cases ho:o.op<;>rw[ho]at l<;>simp only[copE,zER]at l<;>(try (cases l;done))<;>(repeat (first|(split at l)|(simp only[YZ,YJ]at l)|(obtain⟨_,_,l⟩:=l)|(cases l;done)))
theorem zMJ{o:Oper}{it:II}(l:cItem P nt ops o=some it):it.op.revK=none:=by
 cases bm:it.op with
 |rev k=>exact(zE0 l _ bm (.inl ⟨k,rfl⟩)).elim
 |revS k n=>exact(zE0 l _ bm (.inr ⟨k,n,rfl⟩)).elim
 |_=>rfl
theorem zPW{al:Bool}{before:List DI}{k i:Nat}{it:DI}{G:Option (List AV)}(l:cDI P nt ops pt al before k i=some (it,G)):∃o,ops[i]? = some o/\it.idx=i/\
  ((G=none/\cItem P nt ops o=some it.toII)\/∃A,G=some A/\it.op.revK=some k/\Laid P it.op o.op k A/\it.q=true/\it.dst=o.dst/\(∀d,it.dst=some d->d<nt)/\zAX ops o.guard=some it.guard):=by
 simp only[cDI,YZ]at l;obtain⟨o,E,l⟩:=l;have u:∀{C:Option Nat},dstOk nt C=true->∀d,C=some d->d<nt:=λ{C} hd d u=>by
  rw[u]at hd;simpa [dstOk]using hd
 split at l
 .rename_i len zs K;simp only[YZ]at l;obtain⟨g,D,l⟩:=l;split at l
  .rename_i hd;cases l;exact⟨o,E,rfl,.inr ⟨zs,rfl,rfl,zN8 K k,rfl,rfl,u hd,D⟩⟩
  .cases l
 .split at l
  .rename_i t I;simp only[YZ]at l;obtain⟨g,D,l⟩:=l;split at l
   .rename_i hd;simp only[YZ,YJ,Yt]at l;obtain⟨z,⟨N,H,L⟩,A,J,rfl,rfl⟩:=l;exact⟨o,E,rfl,.inr ⟨A,rfl,rfl,.inl ⟨t,N,z,rfl,I,H,L,J⟩,rfl,rfl,u hd,D⟩⟩
   .cases l
  .simp only[YJ,Yt]at l;obtain⟨O,M,rfl,rfl⟩:=l;exact⟨o,E,rfl,.inl ⟨rfl,M⟩⟩
theorem zD1{al:Bool}:∀(order:List Nat) (before:List DI) (k:Nat) {A:List DI} {E:List (List AV)},cDIs P nt ops pt al order before k=some (A,E)->∀pre:List (List AV),pre.length=k->
  (∀it∈A,From P nt ops (pre++E) it/\∀m,it.op.revK=some m->k<=m)/\A.Pairwise λq p=>∀m C,q.op.revK=some m->p.op.revK=some C->m≠C
 |[],before,k,A,E,u,pre,hp=>by
  cases u;exact⟨λit G=>(Yp G).elim,.nil⟩
 |i::r,before,k,A,E,u,pre,hp=>by
  simp only[cDIs,YZ]at u;obtain⟨⟨it,oz⟩,G,u⟩:=u;obtain⟨o,L,rfl,R⟩:=zPW G;rcases R with ⟨rfl,N⟩|⟨O,rfl,H,j6,Z,T,V,Y⟩
  .simp only[YJ,Yt]at u;obtain⟨⟨S,U⟩,J,rfl,rfl⟩:=u;obtain⟨D,I⟩:=zD1 r _ k J pre hp;have K:=zMJ N;refine⟨λx hx=>?_,?_⟩
   .rcases YH.1 hx with rfl|hx
    .exact⟨⟨o,L,.inl ⟨N,K⟩⟩,λm l=>by rw[K]at l;cases l⟩
    .exact D x hx
   .exact .cons (λx hx m C l M=>by rw[K]at l;cases l) I
  .simp only[YJ,Yt]at u;obtain⟨⟨S,U⟩,J,rfl,rfl⟩:=u;obtain⟨D,I⟩:=zD1 r _ (k+1) J (pre++[O]) (by simp[hp]);refine⟨λx hx=>?_,?_⟩
   .rcases YH.1 hx with rfl|hx
    .refine⟨⟨o,L,.inr ⟨k,O,H,?_,j6,Z,T,V,Y⟩⟩,λm l=>by rw[H]at l;cases l;exact na _⟩;simp[<-hp]
    .obtain⟨W,X⟩:=D x hx;refine⟨by simpa using W,λm l=>?_⟩
     have:=X m l
     omega
   .refine .cons (λx hx m C l M=>?_) I
    have:=(D x hx).2 C M
    rw[H]at l;cases l;omega
theorem zPF(m:MR B w0 j h w){e:Env}{a:Act}(r:ER nt j e a){op:IOp}{o:Oper}{k:Nat}{O:List AV}(D:Laid P op o.op k O)(W:j (nb+k)=none)(T:h.obj (nb+k)=some ⟨true,O⟩){v:AV}(X:qv nb op e h=some v):
  ∃(cur:Array Value) (ty:TypeId) (val:Value),(execOp a.eval o).run P w=.ok (.value val) (w.alloc (.cells cur ty))/\MR B w0 (j.put (nb+k) ⟨w.heap.size,0,0⟩) h (w.alloc (.cells cur ty))/\j.le (j.put (nb+k) ⟨w.heap.size,0,0⟩)/\VI (j.put (nb+k) ⟨w.heap.size,0,0⟩) v val:=by
 rcases D with ⟨t,i,z,rfl,G,Z,N,dV⟩|⟨t,et,i,z,zs,len,u,A,rfl,G,E,L,N,dw,J,an,Fj,iG,S,V⟩
 .cases X;obtain⟨H,R⟩:=qV (j:=j) dV;obtain⟨M,hle⟩:=m.reveal (ty:=t) (cur:=z.cells) T W R H;exact⟨_,_,_,by simp[execOp,G,Instr.alloc,zeroValue,typeInfo,Z,N,newVar,newRow],M,hle,⟨⟨w.heap.size,0,0⟩,by simp[Inj.put],rfl⟩⟩
 .cases X;obtain⟨H,R⟩:=qV (j:=j) dw;have D:=H.length;have jv:z.cells.toList≠[]:=by intro x;rw[x]at D;simp at D;rw[D]at J;simp at J;omega
  have fK:((Array.range (len*i.size)).map (z.cells[· % z.cells.size]!)).toList=(List.replicate len z.cells.toList).flatten:=by
   have:=Zv z.cells.toList jv len
   rw[<-D,J]at this;simpa [madeCells]using this
  have vG:(A.map λp=>(p.1,p.2.1,p.2.2.ev (λ_=>AV.undef)))=A.map λp=>(p.1,p.2.1,p.2.2.ev e):=by
   rw[List.all_eq_true]at S;refine List.map_congr_left λp C=>?_;rw[IX.ev_congr (x:=p.2.2) (e:=λ_=>AV.undef) (e':=e) λt E=>by
    have:=S p C
    rw[List.isEmpty_iff]at this;rw[this]at E;cases E]
  rw[vG]at V;have jF:∀{u:List (Nat×Operand)} {A:List (Nat×Nat×IX)},zAY i.size u=some A->u.length=(A.map λp=>(p.1,p.2.1,p.2.2.ev e)).length/\
    ∀(k:Nat) (p:Nat×Operand) (q:Nat×Nat×AV),u[k]? = some p->(A.map λq=>(q.1,q.2.1,q.2.2.ev e))[k]? = some q->(some (p.1*i.size,i.size))=some (q.1,q.2.1)/\VI j q.2.2 (a.eval p.2):=by
   intro u
   induction u with
   |nil=>intro A l;cases l;exact⟨rfl,λk p q C=>by simp at C⟩
   |cons p u ih=>
    intro A l;obtain⟨n,x⟩:=p;simp only[zAY,YZ]at l;obtain⟨ix,hx,DB,l9,l⟩:=l;cases l;obtain⟨Y,i2⟩:=ih l9;refine⟨by simp at Y ⊢;exact Y,λk p q C l=>?_⟩;cases k with
    |zero=>simp at C l;subst C;subst l;exact⟨rfl,zN r hx⟩
    |succ k=>exact i2 k p q (by simpa using C) (by simpa using l)
  obtain⟨p1,p2⟩:=jF iG;obtain⟨res,I,r1,r2⟩:=zAR (place:=λk=>some (k*i.size,i.size)) u.toList _ (zeros zs len) ((Array.range (len*i.size)).map (z.cells[· % z.cells.size]!)) a.eval O
   (by rw[fK];exact H.replicate len) (zBq R len) V p1 p2
  obtain⟨M,hle⟩:=m.reveal (ty:=et) (cur:=res) T W r2 r1;have mq:¬(16777216<len*i.size):=by omega
  have U:(u.map λ(i,x)=>(i,a.eval x)).toList=u.toList.map λp=>(p.1,a.eval p.2):=by simp
  refine⟨_,_,.slice (some ⟨w.heap.size,0,none⟩) len len,?_,M,hle,⟨⟨w.heap.size,0,0⟩,_,by simp[Inj.put],rfl,.inl rfl⟩⟩;by_cases K:len*i.size=0
  .have:((Array.range (len*i.size)).map (z.cells[· % z.cells.size]!)) = #[]:=by rw[K];simp[Array.range_zero']
   rw[this]at I;simp[execOp,G,Instr.buildSlice,run_underlying E,zh L,K,U,I,newRow,Array.range_zero']
  .simp[execOp,G,Instr.buildSlice,run_underlying E,zh L,K,mq,U,I,newRow,zeroValue,typeInfo,L,N]
theorem zOU(m:MR B w0 j h w)(r:ER nt j e a){k:Nat}{o:Oper}{it:II}{J:List AV}{idx:Nat}(E:ops[idx]? = some o)(O:Laid P it.op o.op k J)(hd:it.dst=o.dst)(A:∀d,it.dst=some d->d<nt)(M:zAX ops o.guard=some it.guard)
  (N:j (nb+k)=none) (L:h.obj (nb+k)=some ⟨true,J⟩) {v:AV} (l:gq nb it e h=some v)
  {next:Act->World->Prop} (G:∀u a' I,j.le u->(∀o,o≠nb+k->u o=j o)->MR B w0 u h I->ER nt u (e.put it.dst v) a'->next a' I):wpOp P ops Q idx next a w:=by
 obtain⟨w1,w2,U⟩:=zDN r M;have run:qv nb it.op e h=some v->Region.wanted o (yielded ops a.tmps)=true->wpOp P ops Q idx next a w:=by
  intro l hw;obtain⟨cur,ty,val,S,R,hle,T⟩:=zPF m r O N L l;unfold wpOp;simp only[E,hw,if_true];refine .inl ?_;unfold Oper.wp;rw[S];refine G _ _ _ hle (λV K=>by simp[Inj.put,K]) R ?_;rw[<-hd];exact(r.mono hle).put A T
 unfold gq at l;split at l
 .exact run l (w1 (by assumption))
 .rename_i t b H;split at l
  .rename_i c D;have hw:=w2 t b c H D;split at l
   .rename_i C;exact run l (by rw[hw];simpa using C)
   .rename_i C;cases l;unfold wpOp
    have:Region.wanted o (yielded ops a.tmps)=false:=by rw[hw];simpa using C
    simp only[E,this,Bool.false_eq_true,if_false];exact G j _ w (Inj.le.refl _) (λ_ _=>rfl) m (by rw[<-hd];exact r.put A zBL)
  .rename_i D;cases l;unfold wpOp;simp only[E,U t b H D,Bool.false_eq_true,if_false];exact G j _ w (Inj.le.refl _) (λ_ _=>rfl) m (by rw[<-hd];exact r.put A zBL)
  .cases l
theorem Z6(l:Array Bool)(i x:Nat):(l.setIfInBounds i true).getD x true=(if x=i then true else l.getD x true):=by
 simp only[Array.getD_eq_getD_getElem?,Array.getElem?_setIfInBounds];by_cases u:x=i
 .subst u;by_cases A:x<l.size
  .simp[A]
  .simp[A]
 .rw[if_neg (λy=>u y.symm),if_neg u]
theorem zIy{K:Env->AHeap->Prop}{js:Inj}{hs:AHeap}(Ig:nb=hs.next)(cE:ptOk ops pt=true)
  (hn:∀D h' e' a' L,FR js hs D h'->MR B w0 D h' L->ER nt D e' a'->K e' h'->Q .normal a' L):
  ∀(fuel:Nat) (l:Array Bool) (rem:List DI) {j:Inj} {h:AHeap} {w:World} {e:Env} {a:Act} {recs:List Rec},rem.length=fuel->l.size=ops.size->
   (∀i,i<ops.size->(l.getD i true=false↔∃it∈rem,it.idx=i))->
   rem.Pairwise (λq p=>zAv pt q p=true)->rem.Pairwise (λq p=>(!(pt.getD q.idx []).contains p.idx)=true)->(rem.map (·.idx)).Nodup->rem.Pairwise (λq p=>∀m J,q.op.revK=some m->p.op.revK=some J->m≠J)->
   (∀i,i<ops.size->l.getD i true=true->∀x∈pt.getD i [],l.getD x true=true)->
   (∀it∈rem,From P nt ops zs it)->
   (∀it∈rem,∀k,it.op.revK=some k->nb+k<h.next/\j (nb+k)=none/\∃z,zs[k]? = some z/\h.obj (nb+k)=some ⟨true,z⟩)->
   MR B w0 j h w->ER nt j e a->DV P nb rem recs e h K->FR js hs j h->wpAny P .any ops Q fuel l a w
 |0,l,rem,j,h,w,e,a,recs,hlen,dF,jD,_,_,_,_,_,_,_,m,r,I,hf=>by
  have:rem=[]:=YF hlen
  subst this;refine⟨?_,hn j h e a w hf m r I⟩;unfold Region.ready;rw[List.filter_eq_nil_iff];intro i N;have iJ:i<ops.size:=by simpa using N
  have:l.getD i true=true:=by
   cases hl:l.getD i true with
   |true=>rfl
   |false=>obtain⟨x,hx,_⟩:=(jD i iJ).1 hl;cases hx
  rw[this];simp
 |fuel+1,l,rem,j,h,w,e,a,recs,hlen,dF,jD,gZ,mc,nL,tI,bY,fN,j3,m,r,I,hf=>by
  have BG:∀i o,ops[i]? = some o->i∉pt.getD i []/\(∀d∈qX o,d<ops.size/\d∈pt.getD i [])/\∀x∈pt.getD i [],x∈qX o\/∃d∈qX o,x∈pt.getD d []:=by
   intro i o A;have N:i<ops.size:=(Ym.1 A).1;unfold ptOk at cE;rw[List.all_eq_true]at cE
   have:=cE i (by simpa using N)
   simp only[A,Y6,List.all_eq_true,List.any_eq_true,Bool.not_eq_true',Ug,beq_iff_eq,decide_eq_true_eq]at this;refine⟨λhx=>?_,λd hd=>⟨(this.1.2 d hd).1,by simpa using (this.1.2 d hd).2⟩,λx hx=>?_⟩
   .have u:=this.1.1;rw[List.contains_iff_mem.2 hx]at u;cases u
   obtain⟨d,hd,hx⟩:=this.2 x hx;rcases hx with rfl|hx
   .exact .inl hd
   .exact .inr ⟨d,hd,by simpa using hx⟩
  have xB:∀{q p:DI},(!(pt.getD q.idx []).contains p.idx)=true->p.idx∉pt.getD q.idx []:=by
   intro q p hc hx;rw[List.contains_iff_mem.2 hx]at hc;cases hc
  refine⟨λtA=>?_,λi N=>?_⟩
  ·-- uK is always ready
   exfalso;cases rem with
   |nil=>simp at hlen
   |cons p rest=>
    obtain⟨o,A,_⟩:=fN p (by simp);have ah:p.idx<ops.size:=(Ym.1 A).1;have lg:l.getD p.idx true=false:=(jD p.idx ah).2 ⟨p,by simp,rfl⟩;have cG:p.idx∈Region.ready .any ops l:=by
     unfold Region.ready;rw[List.mem_filter];refine⟨by simpa using ah,?_⟩;rw[lg,A];simp only[Bool.not_false,Option.map_some,Option.getD_some,Bool.true_and,Array.all_eq_true'];intro H Y;cases M:Region.binds .any H with
     |false=>rfl
     |true=>
      have FP:H.on∈qX o:=by
       unfold qX;rw[Yj];exact⟨H,by simp[Y,M],rfl⟩
      obtain⟨Fw,oU⟩:=(BG p.idx o A).2.1 _ FP;simp only[Bool.not_true,Bool.false_or]
      have:l.getD H.on true=true:=by
       cases hl:l.getD H.on true with
       |true=>rfl
       |false=>
        obtain⟨q,hq,Ia⟩:=(jD _ Fw).1 hl;rcases YH.1 hq with rfl|hq
        .rw[<-Ia]at oU;exact absurd oU (BG q.idx o A).1
        .rw[<-Ia]at oU;exact absurd oU (xB ((List.pairwise_cons.1 mc).1 q hq))
      simp only[Array.getD_eq_getD_getElem?]at this ⊢;rw[Array.getElem?_eq_getElem (by omega)]at this ⊢;exact this
    rw[tA]at cG;cases cG
  .unfold Region.ready at N;rw[List.mem_filter]at N;obtain⟨Cc,V⟩:=N;have ah:i<ops.size:=by simpa using Cc
   simp only[Y6,Bool.not_eq_true']at V;obtain⟨aN,V⟩:=V;obtain⟨p,hp,rfl⟩:=(jD i ah).1 aN;obtain⟨o,A,bm⟩:=fN p hp;rw[A]at V;simp only[Option.map_some,Option.getD_some,Array.all_eq_true']at V;have eA:∀d∈qX o,l.getD d true=true:=by
    intro d hd;unfold qX at hd;rw[Yj]at hd;obtain⟨H,Y,rfl⟩:=hd;rw[List.mem_filter]at Y
    have:=V H (by simpa using Y.1)
    rw[Y.2]at this;simp only[Bool.not_true,Bool.false_or]at this;simp only[Array.getD_eq_getD_getElem?]at this ⊢;cases hx:l[H.on]? with
    |none=>rfl
    |some x=>rw[hx]at this;exact this
   have ai:∀x∈pt.getD p.idx [],l.getD x true=true:=by
    intro x hx;rcases(BG p.idx o A).2.2 x hx with hd|⟨d,hd,hx⟩
    .exact eA x hd
    .exact bY d ((BG p.idx o A).2.1 d hd).1 (eA d hd) x hx
   obtain⟨C,E,rfl⟩:=List.append_of_mem hp;have G:(C++E).Sublist (C++p::E):=(List.sublist_cons_self p E).append_left C;have M:∀q∈C,apart q.toII p.toII=true/\q.q=true/\(p.q=true\/(q.op.isLoad=true->p.chk.contains q.idx=true)):=by
    intro q hq;have u:=(List.pairwise_append.1 gZ).2.2 q hq p (by simp);have h2:q.idx∉pt.getD p.idx []:=by
     intro hx
     have:=ai _ hx
     obtain⟨oq,ME,_⟩:=fN q (by simp[hq]);rw[(jD q.idx (Ym.1 ME).1).2 ⟨q,by simp[hq],rfl⟩]at this;cases this
    unfold zAv at u;simp only[Ug,Y6,Bool.not_eq_true']at u;rcases u with u|⟨⟨u,h3⟩,h4⟩
    .exact absurd (List.contains_iff_mem.1 u) h2
    .refine⟨u,h3,?_⟩;rcases h4 with (h4|h4)|h4
     .exact .inl h4
     .exact .inr λx=>by rw[x]at h4;cases h4
     .exact .inr λ_=>h4
   -- J3 is left behind this step
   have cn:(C++E).length=fuel:=by simp at hlen ⊢;omega
   have Fb:(C++E).Pairwise λq p=>q.idx≠p.idx:=by
    have:=(List.Nodup.sublist (G.map (·.idx)) nL)
    rw[List.Nodup,List.pairwise_map]at this;exact this
   have EZ:∀q∈C++E,q.idx≠p.idx:=by
    intro q hq he;have u:(C++p::E).Pairwise λq p=>q.idx≠p.idx:=by
     rw[List.Nodup,List.pairwise_map]at nL;exact nL
    rw[List.pairwise_append]at u;rcases YY.1 hq with hq|hq
    .exact u.2.2 q hq p (by simp) he
    .exact(List.pairwise_cons.1 u.2.1).1 q hq he.symm
   have yw:∀k,k<ops.size->((l.setIfInBounds p.idx true).getD k true=false↔∃it∈C++E,it.idx=k):=by
    intro k I;rw[Z6];by_cases S:k=p.idx
    .subst S;rw[if_pos rfl];exact⟨λx=>(Bool.noConfusion x),λ⟨q,hq,he⟩=>absurd he (EZ q hq)⟩
    .rw[if_neg S,jD k I];constructor
     .rintro⟨q,hq,rfl⟩
      simp only[YY,YH]at hq;rcases hq with hq|rfl|hq
      .exact⟨q,by simp[hq],rfl⟩
      .exact absurd rfl S
      .exact⟨q,by simp[hq],rfl⟩
     .rintro⟨q,hq,rfl⟩
      exact⟨q,G.subset hq,rfl⟩
   have FV:∀k,k<ops.size->(l.setIfInBounds p.idx true).getD k true=true->∀x∈pt.getD k [],(l.setIfInBounds p.idx true).getD x true=true:=by
    intro k I fM x hx;rw[Z6]at fM ⊢;split
    .rfl
    .by_cases S:k=p.idx
     .subst S;exact ai x hx
     .rw[if_neg S]at fM;exact bY k I fM x hx
   have go:∀{D:Inj} {h':AHeap} {L:World} {e':Env} {a':Act} {aT:List Rec},(∀it∈C++E,∀k,it.op.revK=some k->nb+k<h'.next/\D (nb+k)=none/\∃z,zs[k]? = some z/\h'.obj (nb+k)=some ⟨true,z⟩)->
     MR B w0 D h' L->ER nt D e' a'->DV P nb (C++E) aT e' h' K->FR js hs D h'->wpAny P .any ops Q fuel (l.setIfInBounds p.idx true) a' L:=by
    intro D h' L e' a' aT tH J O T U;exact zIy Ig cE hn fuel _ (C++E) cn (by simpa using dF) yw (gZ.sublist G) (mc.sublist G) (by rw[List.Nodup,List.pairwise_map];exact Fb) (tI.sublist G) FV
     (λit bn=>fN it (G.subset bn)) tH J O T U
   cases hq:p.q with
   |true=>
    obtain⟨v,hv,T⟩:=zEw hq C (λq R=>⟨(M q R).2.1,(M q R).1⟩) I;rcases bm with ⟨vH,_⟩|⟨k,z',dG,dw,j6,_,hd,aD,hg⟩
    .exact quiet_step m r A vH hq hv λa' O=>go (λit bn=>j3 it (G.subset bn)) m O T hf
    .obtain⟨g1,g2,zz,g3,g4⟩:=j3 p (by simp) k dG;rw[dw]at g3;cases g3;refine zOU m r A j6 hd aD hg g2 g4 hv ?_;intro D a' L hle my J O;refine go (λit bn W X=>?_) J O T ?_
     .obtain⟨Z,q2,q3⟩:=j3 it (G.subset bn) W X;refine⟨Z,?_,q3⟩;have an:W≠k:=by
       rw[List.pairwise_append]at tI;rcases YY.1 bn with bn|bn
       .exact tI.2.2 it bn p (by simp) W k X dG
       .exactλx=>(List.pairwise_cons.1 tI.2.1).1 it bn k W dG X x.symm
      rw[my _ (by omega)];exact q2
     .refine⟨hf.next,λo' cW=>?_,hf.pend⟩;rw[my _ (by omega)];exact hf.inj o' cW
   |false=>
    have T:=zHF hq C (λq R=>⟨(M q R).2.1,(M q R).1,by
     rcases(M q R).2.2 with x|x
     .rw[hq]at x;cases x
     .exact x⟩) I
    rcases bm with ⟨vH,_⟩|⟨k,z',dG,dw,j6,u7,_⟩
    .refine zFU m r A vH hq T ?_;intro v h' D a' L U J O Fl;refine go (λit bn W X=>?_) J O Fl.2 (hf.trans U);obtain⟨Z,q2,z,q3,q4⟩:=j3 it (G.subset bn) W X;exact⟨Yk Z U.next,(U.inj _ Z).trans q2,z,q3,(U.pend _ Z q2).trans q4⟩
    .rw[hq]at u7;cases u7
end
section
open Go.RowKit
inductive OT where
 |done
 |none
 |q (it:DI) (next:OT)
 |e (it:DI) (next alt:OT)
def TV(P:Program):OT->List Rec->Env->AHeap->(Env->AHeap->Prop)->Prop
 | .done,_,e,h,K=>K e h
 | .none,_,_,_,_=>True
 | .q it nx,recs,e,h,K=>optK (gq 0 it.toII e h) λv=>TV P nx (recOf it e v++recs) (e.put it.dst v) h K
 | .e it nx alt,recs,e,h,K=>(ge P it.toII e h λv h'=>RecOK it.chk recs h'/\TV P nx recs (e.put it.dst v) h' K)/\TV P alt recs e h K
def tchk(pt:List (List Nat))(before:List DI)(q:Bool)(i:Nat):List Nat:=if q=true then []else(before.filter λq=>q.op.isLoad && !(pt.getD i []).contains q.idx).map (·.idx)
def tdi(P:Program)(nt:Nat)(ops:Array Oper)(pt:List (List Nat))(before:List DI)(i:Nat):Option DI:=
 (ops[i]?).bind λo=>(cItem P nt ops o).bind λit=>if before.all (λq=>zAv pt q ⟨it,i,tchk pt before it.q i⟩)=true then some ⟨it,i,tchk pt before it.q i⟩else none
def mkT(P:Program)(nt:Nat)(ops:Array Oper)(pt:List (List Nat)):Nat->Array Bool->List DI->Option OT
 |0,aE,_=>if (Region.ready .any ops aE).isEmpty=true then some .done else none
 |fuel+1,aE,before=>if (Region.ready .any ops aE).isEmpty=true then some .done else
  match (Region.ready .any ops aE).find? (λi=>match ops[i]? with|some o=>(copQ P o.op).isSome|none=>false)with
  |some i=>(tdi P nt ops pt before i).bind λd=>if d.q=true then(mkT P nt ops pt fuel (aE.setIfInBounds i true) (before++[d])).map λnx=>.q d nx else none
  |none=>(Region.ready .any ops aE).foldr (λi acc=>(tdi P nt ops pt before i).bind λd=>if d.q=false then(mkT P nt ops pt fuel (aE.setIfInBounds i true) before).bind λnx=>acc.map λalt=>.e d nx alt else none) (some .none)
variable{P:Program}{B:Nat}{w0 w:World}{j:Inj}{h h':AHeap}{nt:Nat}{e e':Env}{a:Act}{ops:Array Oper}{pt:List (List Nat)}
theorem TV.sub:∀(t:OT) {recs u:List Rec} {e:Env} {h:AHeap} {K:Env->AHeap->Prop},(∀r∈u,r∈recs)->TV P t recs e h K->TV P t u e h K
 | .done,_,_,_,_,_,_,l=>l
 | .none,_,_,_,_,_,_,l=>trivial
 | .q it nx,recs,u,e,h,K,hs,l=>by
  obtain⟨v,C,l⟩:=l;refine⟨v,C,TV.sub nx (λx A=>?_) l⟩;simp only[YY]at A ⊢;exact A.imp id (hs x)
 | .e it nx alt,recs,u,e,h,K,hs,l=>⟨zAm (λv h' l=>⟨l.1.sub hs,TV.sub nx hs l.2⟩) l.1,TV.sub alt hs l.2⟩
def QV:List DI->List Rec->Env->AHeap->(List Rec->Env->Prop)->Prop
 |[],recs,e,_,K=>K recs e
 |it::r,recs,e,h,K=>optK (gq 0 it.toII e h) λv=>QV r (recOf it e v++recs) (e.put it.dst v) h K
def SubK(K:List Rec->Env->Prop):Prop:=∀recs l e,(∀r∈l,r∈recs)->K recs e->K l e
theorem QV.sub{K:List Rec->Env->Prop}(C:SubK K):∀(l:List DI) {recs A:List Rec} {e:Env} {h:AHeap},(∀r∈A,r∈recs)->QV l recs e h K->QV l A e h K
 |[],_,_,_,_,hs,u=>C _ _ _ hs u
 |it::r,recs,A,e,h,hs,u=>by
  obtain⟨v,E,u⟩:=u;refine⟨v,E,QV.sub C r (λx D=>?_) u⟩;simp only[YY]at D ⊢;exact D.imp id (hs x)
theorem QV.mono{K K':List Rec->Env->Prop}(A:∀recs e,K recs e->K' recs e):∀(l:List DI) {recs:List Rec} {e:Env} {h:AHeap},QV l recs e h K->QV l recs e h K'
 |[],_,_,_,u=>A _ _ u
 |it::r,recs,e,h,u=>by
  obtain⟨v,C,u⟩:=u;exact⟨v,C,QV.mono A r u⟩
theorem QV.append{K:List Rec->Env->Prop}:∀(l m:List DI) {recs:List Rec} {e:Env} {h:AHeap},QV l recs e h (λrecs e=>QV m recs e h K)->QV (l++m) recs e h K
 |[],m,_,_,_,u=>u
 |it::r,m,recs,e,h,u=>by
  obtain⟨v,A,u⟩:=u;exact⟨v,A,QV.append r m u⟩
theorem QV.front{K:List Rec->Env->Prop}(C:SubK K){p:DI}{E:List DI}:∀(u:List DI) {recs:List Rec} {e:Env} {h:AHeap},(∀q∈u,apart q.toII p.toII=true)->
  QV (u++p::E) recs e h K->∃v,gq 0 p.toII e h=some v/\QV (u++E) (recOf p e v++recs) (e.put p.dst v) h K
 |[],recs,e,h,_,l=>l
 |q::u,recs,e,h,ha,l=>by
  obtain⟨G,H,L⟩:=apart_spec (ha q (by simp));obtain⟨A,J,l⟩:=l;obtain⟨v,D,l⟩:=QV.front C u (λx I=>ha x (by simp[I])) l;rw[zAl (G e A)]at D;refine⟨v,D,A,by rw[zAl (H e v)];exact J,?_⟩;rw[QM (G e A)]at l;dsimp only;rw[QM (H e v),<-L];refine QV.sub C _ (λr hr=>?_) l;simp only[YY]at hr ⊢;rcases hr with hr|hr|hr
  .exact .inr (.inl hr)
  .exact .inl hr
  .exact .inr (.inr hr)
theorem zNr{q p:DI}{v A:AV}{recs:List Rec}(C:∀(e:Env) v,∀t∈q.reads,(e.put p.dst v) t=e t)(L:q.op.isLoad=true->p.chk.contains q.idx=true)(K:gq 0 q.toII e h=some A)(J:RecOK p.chk (recOf q e A++recs) h'):
  gq 0 q.toII (e.put p.dst v) h'=some A:=by
 have E:gq 0 q.toII (e.put p.dst v) h=some A:=by rw[zAl (C e v)];exact K
 rw[<-E];cases hl:q.op.isLoad with
 |false=>
  unfold gq;simp only[zKk (nb:=0) (e:=e.put p.dst v) (h:=h') (h':=h) hl]
 |true=>
  cases bm:q.op with
  |load agg n x=>
   have D:x.ev (e.put p.dst v)=x.ev e:=IX.ev_congr λt I=>C e v t (II.reads_op (by rw[bm];exact I));cases hw:Za q.guard e with
   |true=>
    have G:=zA3.1 J ⟨q.idx,agg,n,x.ev e,A⟩ (by simp[recOf,bm,hw]) (L hl);rw[E];unfold gq;rw[<-QC (e:=e.put p.dst v) (C e v)]at hw;unfold Za at hw;split
    .show qv 0 q.op _ _=_;rw[bm];simp only[qv,D];exact G
    .rename_i t b u;rw[u]at hw;simp only at hw;split at hw
     .rename_i c l;rw[l];simp only;rw[if_pos (by simpa using hw)];show qv 0 q.op _ _=_;rw[bm];simp only[qv,D];exact G
     .cases hw
   |false=>
    rw[<-QC (e:=e.put p.dst v) (C e v)]at hw;unfold gq;unfold Za at hw;split
    .rename_i u;rw[u]at hw;cases hw
    .rename_i t b u;rw[u]at hw;simp only at hw;split at hw
     .rename_i c l;rw[l];simp only;rw[if_neg (by simpa using hw),if_neg (by simpa using hw)]
     .rename_i H;split
      .rename_i c l;exact absurd l (H c)
      .rfl
      .rfl
  |_=>rw[bm]at hl;cases hl
theorem QV.frontE{K':List Rec->Env->AHeap->Prop}{p:DI}:∀(u:List DI) {recs:List Rec} {e:Env} {h:AHeap},
  (∀q∈u,apart q.toII p.toII=true/\(q.op.isLoad=true->p.chk.contains q.idx=true))->
  QV u recs e h (λrecs e=>ge P p.toII e h λv h'=>RecOK p.chk recs h'/\K' recs (e.put p.dst v) h')->
  ge P p.toII e h λv h'=>RecOK p.chk recs h'/\QV u recs (e.put p.dst v) h' (λrecs e=>K' recs e h')
 |[],recs,e,h,_,l=>l
 |q::u,recs,e,h,ha,l=>by
  obtain⟨E,L⟩:=ha q (by simp);obtain⟨J,C,K⟩:=apart_spec E;obtain⟨D,I,l⟩:=l
  have:=QV.frontE u (λx H=>ha x (by simp[H])) l
  refine zAm (λv h' l=>?_) (zIm (J e D) this);obtain⟨A,l⟩:=l;refine⟨A.sub λr G=>List.mem_append_right _ G,D,zNr C L I A,?_⟩;dsimp only;rw[QM (C e v),<-K];exact l
theorem zEz{o:Oper}{d:Nat}:d∈qX o↔∃l∈o.after,Region.binds .any l=true/\l.on=d:=by
 unfold qX;rw[Yj];constructor
 .rintro⟨l,u,rfl⟩
  rw[List.mem_filter]at u;exact⟨l,by simpa using u.1,u.2,rfl⟩
 .rintro⟨l,A,C,rfl⟩
  exact⟨l,by rw[List.mem_filter];exact⟨by simpa using A,C⟩,rfl⟩
theorem zAH{l:Array Bool}{i:Nat}(A:i∈Region.ready .any ops l):∃o,ops[i]? = some o/\l.getD i true=false/\∀d∈qX o,l.getD d true=true:=by
 unfold Region.ready at A;rw[List.mem_filter]at A;obtain⟨E,u⟩:=A;have G:i<ops.size:=by simpa using E
 have D:ops[i]? = some ops[i]:=Array.getElem?_eq_getElem G;rw[D]at u;simp only[Y6,Bool.not_eq_true',Option.map_some,Option.getD_some,Array.all_eq_true']at u;refine⟨_,D,u.1,λd hd=>?_⟩;obtain⟨C,H,I,rfl⟩:=zEz.1 hd
 have:=u.2 C H
 rw[I]at this;simp only[Bool.not_true,Bool.false_or]at this;simp only[Array.getD_eq_getD_getElem?]at this ⊢;cases hx:l[C.on]? with
 |none=>rfl
 |some x=>rw[hx]at this;exact this
theorem zE8{l:Array Bool}{i:Nat}{o:Oper}(A:ops[i]? = some o)(D:l.getD i true=false)(E:∀d∈qX o,d<l.size/\l.getD d true=true):i∈Region.ready .any ops l:=by
 unfold Region.ready;rw[List.mem_filter];have C:i<ops.size:=(Ym.1 A).1;refine⟨by simpa using C,?_⟩;rw[D,A];simp only[Bool.not_false,Option.map_some,Option.getD_some,Bool.true_and,Array.all_eq_true'];intro u H;cases hb:Region.binds .any u with
 |false=>rfl
 |true=>
  obtain⟨G,this⟩:=E u.on (zEz.2 ⟨u,H,hb,rfl⟩);simp only[Bool.not_true,Bool.false_or];simp only[Array.getD_eq_getD_getElem?]at this ⊢;rw[Array.getElem?_eq_getElem G]at this ⊢;exact this
structure TInv(P:Program)(nt:Nat)(ops:Array Oper)(pt:List (List Nat))(cl al:Array Bool)(l before:List DI):Prop where
 cs:cl.size=ops.size
 as:al.size=ops.size
 ao:∀i,i<ops.size->(al.getD i true=true↔cl.getD i true=true\/i∈l.map (·.idx))
 lc:∀q∈l,cl.getD q.idx true=false
 fr:∀q∈l,∃o,ops[q.idx]? = some o/\cItem P nt ops o=some q.toII
 qu:∀q∈l,q.q=true
 pw:l.Pairwise λq p=>zAv pt q p=true
 nd:(l.map (·.idx)).Nodup
 sb:∀q∈l,q∈before
 cc:∀i,i<ops.size->cl.getD i true=true->∀x∈pt.getD i [],cl.getD x true=true
 ac:∀i,i<ops.size->al.getD i true=true->∀x∈pt.getD i [],al.getD x true=true
 or:l.Pairwise λq p=>p.idx∉pt.getD q.idx []
theorem zE3{before:List DI}{i:Nat}{d:DI}(hd:tdi P nt ops pt before i=some d):∃o,ops[i]? = some o/\cItem P nt ops o=some d.toII/\d.idx=i/\∀q∈before,zAv pt q d=true:=by
 simp only[tdi,YZ]at hd;obtain⟨o,A,it,u,hd⟩:=hd;split at hd
 .rename_i l;cases hd;exact⟨o,A,u,rfl,List.all_eq_true.1 l⟩
 .cases hd
theorem QS(l:ptOk ops pt=true):∀i o,ops[i]? = some o->i∉pt.getD i []/\(∀d∈qX o,d<ops.size/\d∈pt.getD i [])/\∀x∈pt.getD i [],x∈qX o\/∃d∈qX o,x∈pt.getD d []:=by
 intro i o u;have A:i<ops.size:=(Ym.1 u).1;unfold ptOk at l;rw[List.all_eq_true]at l
 have:=l i (by simpa using A)
 simp only[u,Y6,List.all_eq_true,List.any_eq_true,Bool.not_eq_true',Ug,beq_iff_eq,decide_eq_true_eq]at this;refine⟨λhx=>?_,λd hd=>⟨(this.1.2 d hd).1,by simpa using (this.1.2 d hd).2⟩,λx hx=>?_⟩
 .have h1:=this.1.1;rw[List.contains_iff_mem.2 hx]at h1;cases h1
 obtain⟨d,hd,hx⟩:=this.2 x hx;rcases hx with rfl|hx
 .exact .inl hd
 .exact .inr ⟨d,hd,by simpa using hx⟩
theorem zCr(D:ptOk ops pt=true){l:Array Bool}(E:∀i,i<ops.size->l.getD i true=true->∀x∈pt.getD i [],l.getD x true=true){k:Nat}{o:Oper}(G:ops[k]? = some o)(hd:∀d∈qX o,l.getD d true=true):
  (∀x∈pt.getD k [],l.getD x true=true)/\∀i,i<ops.size->(l.setIfInBounds k true).getD i true=true->∀x∈pt.getD i [],(l.setIfInBounds k true).getD x true=true:=by
 have C:∀x∈pt.getD k [],l.getD x true=true:=by
  intro x u;rcases(QS D k o G).2.2 x u with h|⟨d,h,u⟩
  .exact hd x h
  .exact E d ((QS D k o G).2.1 d h).1 (hd d h) x u
 refine⟨C,λi H A x u=>?_⟩;rw[Z6]at A ⊢;split
 .rfl
 .by_cases e:i=k
  .subst e;exact C x u
  .rw[if_neg e]at A;exact E i H A x u
theorem TInv.push(U:ptOk ops pt=true){E al:Array Bool}{l before:List DI}(v:TInv P nt ops pt E al l before){k:Nat}(X:k∈Region.ready .any ops al){d:DI}(hd:tdi P nt ops pt before k=some d)(Y:d.q=true):
  TInv P nt ops pt E (al.setIfInBounds k true) (l++[d]) (before++[d]):=by
 obtain⟨o,G,I,V⟩:=zAH X;obtain⟨Z,K,T,D,R⟩:=zE3 hd;rw[G]at K;cases K;have O:k<ops.size:=(Ym.1 G).1;have L:¬(E.getD k true=true\/k∈l.map (·.idx)):=λx=>by
  rw[(v.ao k O).2 x]at I;cases I
 have S:E.getD k true=false:=by
  cases hc:E.getD k true with
  |false=>rfl
  |true=>exact absurd (.inl hc) L
 have H:∀{q:DI},q∈l++[d]↔q∈l\/q=d:=λ{q}=>by simp
 refine⟨v.cs,by simpa using v.as,λi W=>?_,λq u=>?_,λq u=>?_,λq u=>?_,?_,?_,λq u=>?_,v.cc,(zCr U v.ac G V).2,?_⟩
 .rw[Z6,Yh,YY];by_cases e:i=k
  .rw[if_pos e];exact⟨λ_=>.inr (.inr (by simp[D,e])),λ_=>rfl⟩
  .rw[if_neg e,v.ao i W];refine or_congr_right ⟨.inl,λx=>x.elim id λy=>?_⟩;simp only[YO,Y3,YN,D]at y;exact absurd y e
 .rcases H.1 u with u|rfl
  .exact v.lc q u
  .rw[D];exact S
 .rcases H.1 u with u|rfl
  .exact v.fr q u
  .exact⟨o,by rw[D];exact G,T⟩
 .rcases H.1 u with u|rfl
  .exact v.qu q u
  .exact Y
 .rw[List.pairwise_append];refine⟨v.pw,List.pairwise_singleton _ _,λa A b C=>?_⟩;rw[YN.1 C];exact R a (v.sb a A)
 .rw[Yh,List.nodup_append];refine⟨v.nd,by simp,λa A b C e=>?_⟩;simp only[YO,Y3,YN,D]at C;exact L (.inr (by rw[<-C,<-e];exact A))
 .rcases H.1 u with u|rfl
  .exact List.mem_append_left _ (v.sb q u)
  .exact List.mem_append_right _ (by simp)
 .rw[List.pairwise_append];refine⟨v.or,List.pairwise_singleton _ _,λa A b C M=>?_⟩;rw[YN.1 C,D]at M;obtain⟨oa,N,_⟩:=v.fr a A;have J:a.idx<ops.size:=(Ym.1 N).1
  have:=v.ac a.idx J ((v.ao _ J).2 (.inr (Yj.2 ⟨a,A,rfl⟩))) k M
  rw[I]at this;cases this
theorem TInv.take(M:ptOk ops pt=true){E al:Array Bool}{u C before:List DI}{p:DI}(v:TInv P nt ops pt E al (u++p::C) before)(G:p.idx∈Region.ready .any ops E):
  TInv P nt ops pt (E.setIfInBounds p.idx true) al (u++C) before/\∀q∈u,apart q.toII p.toII=true:=by
 obtain⟨o,I,D,N⟩:=zAH G;have O:p.idx<ops.size:=(Ym.1 I).1;have l:(u++C).Sublist (u++p::C):=(List.sublist_cons_self p C).append_left u;have J:∀q∈u++C,q.idx≠p.idx:=by
  intro q hq H;have D:(u++p::C).Pairwise λq p=>q.idx≠p.idx:=by
   have:=v.nd
   rw[List.Nodup,List.pairwise_map]at this;exact this
  rw[List.pairwise_append]at D;rcases YY.1 hq with hq|hq
  .exact D.2.2 q hq p (by simp) H
  .exact(List.pairwise_cons.1 D.2.1).1 q hq H.symm
 obtain⟨K,L⟩:=zCr M v.cc I N;refine⟨⟨by simpa using v.cs,v.as,λi G=>?_,λq hq=>?_,λq hq=>v.fr q (l.subset hq),λq hq=>v.qu q (l.subset hq),v.pw.sublist l,v.nd.sublist (l.map _),λq hq=>v.sb q (l.subset hq),L,v.ac,v.or.sublist l⟩,λq hq=>?_⟩
 .rw[v.ao i G,Z6];by_cases e:i=p.idx
  .rw[if_pos e];exact⟨λ_=>.inl rfl,λ_=>.inr (Yj.2 ⟨p,by simp,e.symm⟩)⟩
  .rw[if_neg e];refine or_congr_right ⟨λx=>?_,λx=>?_⟩
   .obtain⟨q,hq,rfl⟩:=Yj.1 x;simp only[YY,YH]at hq;rcases hq with hq|rfl|hq
    .exact Yj.2 ⟨q,by simp[hq],rfl⟩
    .exact absurd rfl e
    .exact Yj.2 ⟨q,by simp[hq],rfl⟩
   .obtain⟨q,hq,rfl⟩:=Yj.1 x;exact Yj.2 ⟨q,l.subset hq,rfl⟩
 .rw[Z6,if_neg (J q hq)];exact v.lc q (l.subset hq)
 .have A:=(List.pairwise_append.1 v.pw).2.2 q hq p (by simp);unfold zAv at A;simp only[Ug,Y6,Bool.not_eq_true']at A;rcases A with A|⟨⟨A,_⟩,_⟩
  .have:=K _ (List.contains_iff_mem.1 A)
   rw[v.lc q (by simp[hq])]at this;cases this
  .exact A
theorem TInv.eff(D:ptOk ops pt=true){E al:Array Bool}{l before:List DI}(v:TInv P nt ops pt E al l before){i:Nat}(L:i∈Region.ready .any ops E)(O:i∉l.map (·.idx)){d:DI}(hd:tdi P nt ops pt before i=some d)(S:d.q=false):
  TInv P nt ops pt (E.setIfInBounds i true) (al.setIfInBounds i true) l before/\∀q∈l,apart q.toII d.toII=true/\(q.op.isLoad=true->d.chk.contains q.idx=true):=by
 obtain⟨o,C,W,G⟩:=zAH L;obtain⟨X,V,U,R,K⟩:=zE3 hd;have T:i<ops.size:=(Ym.1 C).1;obtain⟨H,J⟩:=zCr D v.cc C G;have I:∀q∈l,q.idx≠i:=λq A e=>O (Yj.2 ⟨q,A,e⟩);refine⟨⟨by simpa using v.cs,by simpa using v.as,λk M=>?_,λq A=>?_,v.fr,v.qu,v.pw,v.nd,v.sb,J,?_,v.or⟩,λq A=>?_⟩
 .rw[Z6,Z6];by_cases e:k=i
  .rw[if_pos e,if_pos e];exact⟨λ_=>.inl rfl,λ_=>rfl⟩
  .rw[if_neg e,if_neg e];exact v.ao k M
 .rw[Z6,if_neg (I q A)];exact v.lc q A
 .refine(zCr D v.ac C λd hd=>?_).2;exact(v.ao d ((QS D i o C).2.1 d hd).1).2 (.inl (G d hd))
 .have u:=K q (v.sb q A);unfold zAv at u;rw[R]at u;simp only[Ug,Y6,Bool.not_eq_true']at u;rcases u with u|⟨⟨u,_⟩,h4⟩
  .have:=H _ (List.contains_iff_mem.1 u)
   rw[v.lc q A]at this;cases this
  .refine⟨u,λN=>?_⟩;rcases h4 with (h4|h4)|h4
   .rw[S]at h4;cases h4
   .rw[N]at h4;cases h4
   .exact h4
theorem zKv{fuel:Nat}{C:Array Bool}{before:List DI}:∀(l:List Nat) {t:OT},l.foldr (λi acc=>(tdi P nt ops pt before i).bind λd=>if d.q=false then(mkT P nt ops pt fuel (C.setIfInBounds i true) before).bind λnx=>acc.map λalt=>OT.e d nx alt else none) (some .none)=some t->
  ∀i∈l,∃d nx,tdi P nt ops pt before i=some d/\d.q=false/\mkT P nt ops pt fuel (C.setIfInBounds i true) before=some nx/\∀(recs:List Rec) (e:Env) (h:AHeap) (K:Env->AHeap->Prop),TV P t recs e h K->ge P d.toII e h λv h'=>RecOK d.chk recs h'/\TV P nx recs (e.put d.dst v) h' K
 |[],t,_,i,hi=>absurd hi (Yp)
 |k::l,t,u,i,hi=>by
  simp only[List.foldr_cons,YZ]at u;obtain⟨d,hd,u⟩:=u;split at u
  .rename_i L;simp only[YZ,YJ]at u;obtain⟨nx,I,alt,halt,rfl⟩:=u;rcases YH.1 hi with rfl|hi
   .exact⟨d,nx,hd,L,I,λrecs e h K A=>A.1⟩
   .obtain⟨J,M,D,E,G,H⟩:=zKv l halt i hi;exact⟨J,M,D,E,G,λrecs e h K A=>H recs e h K A.2⟩
  .cases u
theorem zHp(L:ptOk ops pt=true){M:Array Bool}{i:Nat}(U:i∈Region.ready .any ops M){K:Env->AHeap->Prop}:∀(tf:Nat) (al:Array Bool) (l before:List DI) {t:OT} {recs:List Rec} {e:Env} {h:AHeap},TInv P nt ops pt M al l before->mkT P nt ops pt tf al before=some t->
  QV l recs e h (λrecs e=>TV P t recs e h K)->∃D E A C t',TInv P nt ops pt M E A C/\mkT P nt ops pt D E C=some t'/\D+A.length=tf+l.length/\QV A recs e h (λrecs e=>TV P t' recs e h K)/\
   (i∈A.map (·.idx)\/i∉A.map (·.idx)/\∃f d nx,D=f+1/\tdi P nt ops pt C i=some d/\d.q=false/\mkT P nt ops pt f (E.setIfInBounds i true) C=some nx/\
    ∀(recs:List Rec) (e:Env) (h:AHeap) (K:Env->AHeap->Prop),TV P t' recs e h K->ge P d.toII e h λv h'=>RecOK d.chk recs h'/\TV P nx recs (e.put d.dst v) h' K)
 |tf,al,l,before,t,recs,e,h,v,u,hk=>by
  obtain⟨o,O,h1,h2⟩:=zAH U;have X:i<ops.size:=(Ym.1 O).1;by_cases N:i∈l.map (·.idx)
  .exact⟨tf,al,l,before,t,v,u,rfl,hk,.inl N⟩
  have Y:al.getD i true=false:=by
   cases hc:al.getD i true with
   |false=>rfl
   |true=>
    rcases(v.ao i X).1 hc with x|x
    .rw[h1]at x;cases x
    .exact absurd x N
  have R:i∈Region.ready .any ops al:=zE8 O Y λd hd=>by
   have T:=((QS L i o O).2.1 d hd).1;exact⟨by rw[v.as];exact T,(v.ao d T).2 (.inl (h2 d hd))⟩
  have S:¬(Region.ready .any ops al).isEmpty=true:=λx=>by
   rw[List.isEmpty_iff.1 x]at R;cases R
  match tf,u with
  |0,u=>
   unfold mkT at u;rw[if_neg S]at u;cases u
  |f+1,u=>
   have qe:=u;unfold mkT at u;rw[if_neg S]at u;split at u
   .rename_i k V;simp only[YZ]at u;obtain⟨d,hd,u⟩:=u;split at u
    .rename_i hq;simp only[YJ]at u;obtain⟨nx,Z,rfl⟩:=u;obtain⟨D,E,A,C,t',G,H,I,J,W⟩:=zHp L U f _ (l++[d]) (before++[d]) (v.push L (List.mem_of_find?_eq_some V) hd hq) Z (QV.append l [d] hk);exact⟨D,E,A,C,t',G,H,by rw[I];simp;omega,J,W⟩
    .cases u
   .obtain⟨d,nx,G,H,I,J⟩:=zKv _ u i R;exact⟨f+1,al,l,before,t,v,qe,rfl,hk,.inr ⟨N,f,d,nx,rfl,G,H,I,J⟩⟩
termination_by tf=>tf
theorem subTV{P:Program}{t:OT}{h:AHeap}{K:Env->AHeap->Prop}:SubK λrecs e=>TV P t recs e h K:=λ_ _ _ hs l=>TV.sub t hs l
theorem zPd{B:Nat}{w0:World}{js:Inj}{hs:AHeap}{K:Env->AHeap->Prop}{Q:Exit->Act->World->Prop}(H:ptOk ops pt=true)(hn:∀S h' e' a' w',FR js hs S h'->MR B w0 S h' w'->ER nt S e' a'->K e' h'->Q .normal a' w'):
  ∀(n tf:Nat) (C al:Array Bool) (l before:List DI) {t:OT} {recs:List Rec} {j:Inj} {h:AHeap} {w:World} {e:Env} {a:Act},tf+l.length=n->TInv P nt ops pt C al l before->mkT P nt ops pt tf al before=some t->MR B w0 j h w->ER nt j e a->FR js hs j h->
   QV l recs e h (λrecs e=>TV P t recs e h K)->wpAny P .any ops Q n C a w:=by
 have fin:∀{tf:Nat} {C al:Array Bool} {l before:List DI} {t:OT} {recs:List Rec} {j:Inj} {h:AHeap} {w:World} {e:Env} {a:Act},TInv P nt ops pt C al l before->mkT P nt ops pt tf al before=some t->MR B w0 j h w->ER nt j e a->FR js hs j h->
   QV l recs e h (λrecs e=>TV P t recs e h K)->Region.ready .any ops C=[]->Q .normal a w:=by
  intro tf C al l before t recs j h w e a v E m r I D N;have M:∀{i:Nat} {o:Oper},ops[i]? = some o->∀d∈qX o,d<ops.size:=λA d hd=>((QS H _ _ A).2.1 d hd).1;have O:l=[]:=by
   cases l with
   |nil=>rfl
   |cons q rest=>
    exfalso;obtain⟨o,A,_⟩:=v.fr q (by simp);have H9:q.idx<ops.size:=(Ym.1 A).1
    have:q.idx∈Region.ready .any ops C:=zE8 A (v.lc q (by simp)) λd hd=>by
     refine⟨by rw[v.cs];exact M A d hd,?_⟩;have Y:=((QS H _ _ A).2.1 d hd).2;rcases(v.ao d (M A d hd)).1 (v.ac q.idx H9 ((v.ao _ H9).2 (.inr (by simp))) d Y)with x|x
     .exact x
     .exfalso;obtain⟨p,hp,rfl⟩:=Yj.1 x;rcases YH.1 hp with rfl|hp
      .exact(QS H _ _ A).1 Y
      .exact(List.pairwise_cons.1 v.or).1 p hp Y
    rw[N]at this;cases this
  subst O;have yA:(Region.ready .any ops al).isEmpty=true:=by
   rw[List.isEmpty_iff,List.eq_nil_iff_forall_not_mem];intro i J;obtain⟨o,A,h1,h2⟩:=zAH J;have ah:i<ops.size:=(Ym.1 A).1
   have:i∈Region.ready .any ops C:=zE8 A (by
    cases hc:C.getD i true with
    |false=>rfl
    |true=>rw[(v.ao i ah).2 (.inl hc)]at h1;cases h1) λd hd=>by
    refine⟨by rw[v.cs];exact M A d hd,?_⟩;rcases(v.ao d (M A d hd)).1 (h2 d hd)with x|x
    .exact x
    .simp at x
   rw[N]at this;cases this
  have:t=.done:=by
   cases tf<;>unfold mkT at E<;>rw[if_pos yA]at E<;>cases E<;>rfl
  subst this;exact hn j h e a w I m r D
 intro n
 induction n with
 |zero=>
  intro tf C al l before t recs j h w e a O v E m r I D;have R:Region.ready .any ops C=[]:=by
   rw[List.eq_nil_iff_forall_not_mem];intro i J;obtain⟨pD,sj,L,W,t',a1,a2,U,a4,G⟩:=zHp H J (K:=K) tf al l before v E D;rw[O]at U;rcases G with G|⟨_,f,d,nx,G,_⟩
   .have:L=[]:=YF (by omega)
    subst this;simp at G
   .omega
  exact⟨R,fin v E m r I D R⟩
 |succ n ih=>
  intro tf C al l before t recs j h w e a O v E m r I D;refine⟨λN=>fin v E m r I D N,λi J=>?_⟩;obtain⟨pD,sj,L,W,t',T,dW,U,bA,G⟩:=zHp H J (K:=K) tf al l before v E D;rcases G with G|⟨MI,f,d,nx,rfl,hd,IB,cb,aF⟩
  .obtain⟨p,hp,rfl⟩:=Yj.1 G;obtain⟨o,A,V⟩:=T.fr p hp;have hq:=T.qu p hp;obtain⟨l1,l2,rfl⟩:=List.append_of_mem hp;obtain⟨v2,Z⟩:=T.take H J;obtain⟨u,hu,X⟩:=QV.front subTV l1 Z bA;refine quiet_step m r A V hq hu λa' r'=>?_;exact ih pD _ sj (l1++l2) W (by simp at U ⊢;omega) v2 dW m r' I X
  .obtain⟨o,A,V,iu,_⟩:=zE3 hd;obtain⟨v2,Z⟩:=T.eff H J MI hd IB;have X:=QV.frontE (K':=λrecs e h'=>TV P nx recs e h' K) L Z (QV.mono (λrecs e D=>aF recs e h K D) L bA);refine zFU m r A V IB X ?_;intro u h' S a' w' dR hm R vj;exact ih f _ _ L W (by omega) v2 cb hm R (I.trans dR) vj.2
end
end Go.Ab
