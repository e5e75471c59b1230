/- . -/
import Derived.WalkKit
import Derived.Laws.StructEq
import Derived.Lib.AppendZeros
import Derived.Deep.LoopGhost
open Nat renaming le_refl→vM
abbrev L3:=List Int
abbrev L4:=List (List Int)
abbrev L5:=List (List (List Int))
namespace Go.Ab
inductive Cap where
 |known (c:Nat)
 |grown (e:Nat)
def optK{α:Type}(o:Option α)(K:α->Prop):Prop:=∃v,o=some v/\K v
theorem zR{α:Type}(v:α)(K:α->Prop):optK (some v) K=K v:=by
 apply propext;exact⟨λ⟨_,h,k⟩=>by cases h;exact k,λk=>⟨v,rfl,k⟩⟩
theorem zT{α:Type}(K:α->Prop):optK none K=False:=by
 apply propext;exact⟨λ⟨_,h,_⟩=>(Option.some_ne_none _ h.symm).elim,λk=>k.elim⟩
theorem zl{α β:Type}(o:Option α)(f:α->Option β)(K:β->Prop):optK (o.bind f) K=optK o λa=>optK (f a) K:=by
 cases o with
 |none=>rw[zT];exact zT K
 |some v=>rw[zR];rfl
theorem qK{α β:Type}(o:Option α)(f:α->β)(K:β->Prop):optK (o.map f) K=optK o λa=>K (f a):=by
 cases o with
 |none=>rw[zT];exact zT K
 |some v=>rw[zR];exact zR _ K
theorem Zq{α:Type}{o:Option α}{v:α}{K:α->Prop}(h:o=some v)(k:K v):optK o K:=⟨v,h,k⟩
inductive AV where
 |undef
 |bool (b:Bool)
 |int (k:IntKind) (n:Int)
 |str (s:List UInt8)
 |nilp
 |ptr (o i:Nat)
 |nils
 |sl (o off len:Nat) (cap:Cap)
 |nilf
 |clo (f:FuncId) (first cg:List AV)
 |agg (cs:List AV)
 |tup (vs:List AV)
instance:Inhabited AV:=⟨.undef⟩
def AV.one:AV->Bool
 | .undef | .agg _ | .tup _=>false
 |_=>true
def AV.cells:AV->List AV
 | .agg cs=>cs
 |v=>[v]
structure AObj where
 rw:Bool
 cells:List AV
structure AHeap where
 next:Nat
 obj:Nat->Option AObj
namespace AHeap
def new(h:AHeap)(ob:AObj):AHeap:=⟨h.next+1,λo=>if o=h.next then some ob else h.obj o⟩
def set(h:AHeap)(o:Nat)(cells:List AV):AHeap:=⟨h.next,λo'=>if o'=o then some ⟨true,cells⟩else h.obj o'⟩
def kill(h:AHeap)(o:Nat):AHeap:=⟨h.next,λo'=>if o'=o then none else h.obj o'⟩
def rd1(h:AHeap)(o i:Nat):Option AV:=(h.obj o).bind λob=>ob.cells[i]?
def rd(h:AHeap)(o i n:Nat):Option (List AV):=(h.obj o).bind λob=>if i+n<=ob.cells.length then some ((ob.cells.drop i).take n)else none
def wr(h:AHeap)(o i:Nat)(vs:List AV):Option AHeap:=(h.obj o).bind λob=>
 if ob.rw=true/\i+vs.length<=ob.cells.length/\vs.all AV.one=true then some (h.set o (ob.cells.take i++vs++ob.cells.drop (i+vs.length)))else none
end AHeap
abbrev Env:=Nat->AV
def Env.put(e:Env)(d:Option Nat)(v:AV):Env:=match d with
 |some d=>λt=>if t=d then v else e t
 |none=>e
inductive IX where
 |t (n:Nat)
 |c (v:AV)
def IX.ev(e:Env):IX->AV
 | .t n=>e n
 | .c v=>v
inductive EqK where
 |other|bool|slice|pointer|func|ints (n:Nat)
inductive IOp where
 -- quiet
 |mv (x:IX)
 |pick (c a b:IX)
 |bin (op:BinOp) (ek:EqK) (x y:IX)
 |un (op:UnOp) (x:IX)
 |conv (k:IntKind) (x:IX)
 |nilCheck (x:IX)
 |build (zero:List AV) (parts:List (Nat×Nat×IX))
 |field (agg:Bool) (n off:Nat) (x:IX)
 |fieldAddr (off:Nat) (x:IX)
 |indexAddr (e:Nat) (x i:IX)
 |indexStr (x i:IX)
 |extract (x:IX) (i:Nat)
 |len (x:IX)
 |lenStr (x:IX)
 |cap (x:IX)
 |slice (e:Nat) (x:IX) (lo hi mx:Option IX)
 |sliceStr (x:IX) (lo hi:Option IX)
 |maxmin (max:Bool) (x y:IX)
 |makeFunc (f:FuncId) (first cg:List IX)
 |load (agg:Bool) (n:Nat) (x:IX)
 |rev (k:Nat)
 |revS (k len:Nat)
 -- with tu
 |alloc (zero:List AV)
 |box (x:IX)
 |buildSl (e len:Nat) (zero:List AV) (parts:List (Nat×Nat×IX))
 |store (n:Nat) (x v:IX)
 |makeSl (e bytes:Nat) (zero:List AV) (l c:IX)
 |appendMk (e bytes:Nat) (zero:List AV) (s n:IX)
 |append (e bytes:Nat) (s x:IX)
 |copy (e:Nat) (d s:IX)
 |call (f:FuncId) (args:List IX)
 |callV (f:IX) (args:List IX)
def aint(op:BinOp)(k:IntKind)(a b:Int):Option AV:=
 match op with
 | .add=>some (.int k (k.wrap (a+b)))
 | .sub=>some (.int k (k.wrap (a-b)))
 | .mul=>some (.int k (k.wrap (a*b)))
 | .quo=>if b=0 then none else some (.int k (k.wrap (a.tdiv b)))
 | .rem=>if b=0 then none else some (.int k (a.tmod b))
 | .eql=>some (.bool (decide (a=b)))
 | .neq=>some (.bool (!decide (a=b)))
 | .lss=>some (.bool (decide (a<b)))
 | .leq=>some (.bool (decide (a<=b)))
 | .gtr=>some (.bool (decide (b<a)))
 | .geq=>some (.bool (decide (b<=a)))
 | .and=>some (.int k (k.wrap (BitVec.ofInt k.bits a &&& BitVec.ofInt k.bits b).toNat))
 | .or=>some (.int k (k.wrap (BitVec.ofInt k.bits a ||| BitVec.ofInt k.bits b).toNat))
 | .xor=>some (.int k (k.wrap (BitVec.ofInt k.bits a ^^^ BitVec.ofInt k.bits b).toNat))
 | .andNot=>some (.int k (k.wrap (BitVec.ofInt k.bits a &&& ~~~ BitVec.ofInt k.bits b).toNat))
 |_=>none
def zIo(op:BinOp)(k:IntKind)(a b:Int):Option AV:=
 if b<0 then none else
 match op with
 | .shl=>some (.int k (k.wrap (a*2 ^ (min b.toNat k.bits))))
 | .shr=>some (.int k (a.fdiv (2 ^ (min b.toNat k.bits))))
 |_=>none
def astr(op:BinOp)(a b:List UInt8):Option AV:=
 match op with
 | .add=>if a.length+b.length<=9223372036854775807 then some (.str (a++b))else none
 | .eql=>some (.bool (a == b))
 | .neq=>some (.bool !(a == b))
 | .lss=>some (.bool (Op.bytesLess a b))
 | .leq=>some (.bool (Op.bytesLess a b || a == b))
 | .gtr=>some (.bool !(Op.bytesLess a b || a == b))
 | .geq=>some (.bool !(Op.bytesLess a b))
 |_=>none
def anil(op:BinOp)(r:Bool):Option AV:=
 match op with
 | .eql=>some (.bool r)
 | .neq=>some (.bool !r)
 |_=>none
def aggB:List AV->List AV->Option Bool
 |[],[]=>some true
 | .int k a::xs,.int k' b::ys=>if k=k' then(aggB xs ys).map λr=>decide (a=b) && r else none
 |_,_=>none
def abin(op:BinOp)(ek:EqK)(x y:AV):Option AV:=
 match x,y with
 | .int k a,.int k' b=>
  match op with
  | .shl | .shr=>zIo op k a b
  |_=>if k=k' then aint op k a b else none
 | .str a,.str b=>astr op a b
 | .bool a,.bool b=>match ek with | .bool=>anil op (a == b)|_=>none
 | .nils,.nils=>match ek with | .slice=>anil op true|_=>none
 | .sl _ _ _ _,.nils=>match ek with | .slice=>anil op false|_=>none
 | .nils,.sl _ _ _ _=>match ek with | .slice=>anil op false|_=>none
 | .nilp,.nilp=>match ek with | .pointer=>anil op true|_=>none
 | .ptr _ _,.nilp=>match ek with | .pointer=>anil op false|_=>none
 | .nilp,.ptr _ _=>match ek with | .pointer=>anil op false|_=>none
 | .nilf,.nilf=>match ek with | .func=>anil op true|_=>none
 | .clo _ _ _,.nilf=>match ek with | .func=>anil op false|_=>none
 | .nilf,.clo _ _ _=>match ek with | .func=>anil op false|_=>none
 | .agg xs,.agg ys=>match ek with | .ints n=>if xs.length=n/\ys.length=n then(aggB xs ys).bind λr=>anil op r else none|_=>none
 |_,_=>none
def aun(op:UnOp)(x:AV):Option AV:=
 match op,x with
 | .neg,.int k n=>some (.int k (k.wrap (0-n)))
 | .xor,.int k n=>aint .xor k (if k.signed then -1 else k.max) n
 | .not,.bool b=>some (.bool !b)
 |_,_=>none
def afill(cells:List AV):List (Nat×Nat×AV)->Option (List AV)
 |[]=>some cells
 |(off,size,v)::rest=>
  if v.cells.length=size/\off+size<=cells.length/\v.cells.all AV.one=true then afill (cells.take off++v.cells++cells.drop (off+size)) rest else none
def zA2(x:AV)(y:Nat):Option Nat:=
 match x with
 | .int _ i=>if 0<=i/\i<=y then some i.toNat else none
 |_=>none
def qJ(x:Option AV)(nA y:Nat):Option Nat:=
 match x with
 |some x=>zA2 x y
 |none=>some nA
def Qj(e:Nat)(x:AV)(lo hi mx:Option AV):Option AV:=
 match x with
 | .sl o off len (.known c)=>
  (qJ mx c c).bind λm=>(qJ hi len m).bind λh=>(qJ lo 0 h).bind λl=>
   if hi.isNone=true/\mx.isSome=true then none else some (.sl o (if m=l then off else off+l*e) (h-l) (.known (m-l)))
 | .sl o off len (.grown g)=>
  match mx with
  |some mx=>(zA2 mx len).bind λm=>(qJ hi len m).bind λh=>(qJ lo 0 h).bind λl=>
   if hi.isNone=true then none else some (.sl o (if m=l then 0 else off+l*e) (h-l) (.known (m-l)))
  |none=>(qJ hi len len).bind λh=>(qJ lo 0 h).bind λl=>
   some (.sl o (off+l*e) (h-l) (.grown (if g=e then g else 0)))
 | .nils=>(qJ mx 0 0).bind λm=>(qJ hi 0 m).bind λh=>(qJ lo 0 h).bind λ_=>
   if hi.isNone=true/\mx.isSome=true then none else some .nils
 |_=>none
def zA1(x:AV)(lo hi:Option AV):Option AV:=
 match x with
 | .str s=>(qJ hi s.length s.length).bind λh=>(qJ lo 0 h).bind λl=>some (.str ((s.take h).drop l))
 |_=>none
def aPick(c a b:AV):Option AV:=
 match c with
 | .bool t=>some (if t=true then a else b)
 |_=>none
def aConv(k:IntKind)(x:AV):Option AV:=
 match x with
 | .int _ n=>some (.int k (k.wrap n))
 |_=>none
def aNil(x:AV):Option AV:=
 match x with
 | .ptr o i=>some (.ptr o i)
 | .clo f a b=>some (.clo f a b)
 |_=>none
def ZY(agg:Bool)(n off:Nat)(x:AV):Option AV:=
 match x with
 | .agg cs=>if agg=true then some (.agg ((cs.drop off).take n))else cs[off]?
 |_=>none
def qZ(off:Nat)(x:AV):Option AV:=
 match x with
 | .ptr o i=>some (.ptr o (i+off))
 |_=>none
def ZO(sz:Nat)(x i:AV):Option AV:=
 match x,i with
 | .sl o off len _,.int _ n=>if 0<=n/\n<len then some (.ptr o (off+n.toNat*sz))else none
 |_,_=>none
def ZT(x i:AV):Option AV:=
 match x,i with
 | .str s,.int _ n=>if 0<=n then(s[n.toNat]?).map λc=>.int .u8 c.toNat else none
 |_,_=>none
def qy(x:AV)(i:Nat):Option AV:=
 match x with
 | .tup vs=>vs[i]?
 |_=>none
def aLen(x:AV):Option AV:=
 match x with
 | .sl _ _ n _=>some (.int .i64 n)
 | .nils=>some (.int .i64 0)
 |_=>none
def ZR(x:AV):Option AV:=
 match x with
 | .str s=>some (.int .i64 s.length)
 |_=>none
def aCap(x:AV):Option AV:=
 match x with
 | .sl _ _ _ (.known c)=>some (.int .i64 c)
 | .nils=>some (.int .i64 0)
 |_=>none
def ZH(mx:Bool)(x y:AV):Option AV:=
 match x,y with
 | .int k a,.int k' b=>if k=k' then some (.int k (if mx=true then max a b else min a b))else none
 |_,_=>none
def ldv(agg:Bool)(n:Nat)(x:AV)(h:AHeap):Option AV:=
 match x with
 | .ptr o i=>if agg=true then(h.rd o i n).map .agg else h.rd1 o i
 |_=>none
def qv(nb:Nat)(op:IOp)(e:Env)(h:AHeap):Option AV:=
 match op with
 | .mv x=>some (x.ev e)
 | .pick c a b=>aPick (c.ev e) (a.ev e) (b.ev e)
 | .bin op ek x y=>abin op ek (x.ev e) (y.ev e)
 | .un op x=>aun op (x.ev e)
 | .conv k x=>aConv k (x.ev e)
 | .nilCheck x=>aNil (x.ev e)
 | .build z ps=>(afill z (ps.map λp=>(p.1,p.2.1,p.2.2.ev e))).map .agg
 | .field agg n off x=>ZY agg n off (x.ev e)
 | .fieldAddr off x=>qZ off (x.ev e)
 | .indexAddr sz x i=>ZO sz (x.ev e) (i.ev e)
 | .indexStr x i=>ZT (x.ev e) (i.ev e)
 | .extract x i=>qy (x.ev e) i
 | .len x=>aLen (x.ev e)
 | .lenStr x=>ZR (x.ev e)
 | .cap x=>aCap (x.ev e)
 | .slice sz x lo hi mx=>Qj sz (x.ev e) (lo.map (·.ev e)) (hi.map (·.ev e)) (mx.map (·.ev e))
 | .sliceStr x lo hi=>zA1 (x.ev e) (lo.map (·.ev e)) (hi.map (·.ev e))
 | .maxmin mx x y=>ZH mx (x.ev e) (y.ev e)
 | .makeFunc f first cg=>some (.clo f (first.map (·.ev e)) (cg.map (·.ev e)))
 | .load agg n x=>ldv agg n (x.ev e) h
 | .rev k=>some (.ptr (nb+k) 0)
 | .revS k n=>some (.sl (nb+k) 0 n (.known n))
 |_=>none
def zeros(z:List AV)(n:Nat):List AV:=(List.replicate n z).flatten
def alen(x:AV):Option Nat:=
 match x with
 | .nils=>some 0
 | .sl _ _ n _=>some n
 |_=>none
def zCa(e:Nat)(h:AHeap)(x:AV)(n:Nat):Option (List AV):=
 if n=0 then some []else
 match x with
 | .sl o off len _=>if n<=len then h.rd o off (n*e)else none
 |_=>none
def agrow(e bytes:Nat)(h:AHeap)(s:AV)(news:List AV)(m:Nat):Option (AV×AHeap):=
 match s with
 | .nils=>if m*bytes<=140737488355328/\m<=4611686018427387904 then some (.sl h.next 0 m (.grown e),h.new ⟨true,news⟩)else none
 | .sl o off len (.known c)=>
  if len+m<=c then(h.wr o (off+len*e) news).map λh'=>(.sl o off (len+m) (.known c),h')
  else if (len+m)*bytes<=140737488355328/\len+m<=4611686018427387904 then(h.rd o off (len*e)).map λdc=>(.sl h.next 0 (len+m) (.grown e),h.new ⟨true,dc++news⟩)else none
 | .sl o off len (.grown g)=>
  if (len+m)*bytes<=140737488355328/\len+m<=4611686018427387904/\g=e then
   (h.obj o).bind λob=>if ob.rw=true/\off+len*e<=ob.cells.length then some (.sl h.next 0 (len+m) (.grown e),(h.kill o).new ⟨true,(ob.cells.drop off).take (len*e)++news⟩)else none
  else none
 |_=>none
def asame(s:AV):Option AV:=
 match s with
 | .nils=>some .nils
 | .sl o off len (.known c)=>if len<=c then some (.sl o off len (.known c))else none
 | .sl o off len (.grown e)=>some (.sl o off len (.grown e))
 |_=>none
def zBW(e bytes:Nat)(h:AHeap)(s x:AV):Option (AV×AHeap):=
 (alen x).bind λm=>if m=0 then(asame s).map λv=>(v,h)else(zCa e h x m).bind λnews=>agrow e bytes h s news m
def acopy(e:Nat)(h:AHeap)(d s:AV):Option (AV×AHeap):=
 (alen d).bind λn=>(alen s).bind λm=>if min m n=0 then some (.int .i64 0,h)else
  match d with
  | .sl o off _ _=>(zCa e h s (min m n)).bind λcs=>(h.wr o off cs).map λh'=>(.int .i64 (min m n:Nat),h')
  |_=>none
def okF(P:Program)(f:FuncId):Bool:=
 match P.funcs[f]? with
 | some fn => fn.body.isSome && !(fn.name == "runtime.NumGoroutine")
 |none=>false
end Go.Ab
namespace Go.Ab
open Go.RowKit
structure Loc where
 blk:Nat
 base:Nat
 room:Nat
abbrev Inj:=Nat->Option Loc
mutual
def VI(j:Inj):AV->Value->Prop
 | .undef,_=>True
 | .bool b,cv=>cv=.bool b
 | .int k n,cv=>cv=.int k n
 | .str s,cv=>cv=.string ⟨s.toArray⟩
 | .nilp,cv=>cv=.pointer none
 | .ptr o i,cv=>∃l,j o=some l/\cv=.pointer (some ⟨l.blk,l.base+i,none⟩)
 | .nils,cv=>cv=.slice none 0 0
 | .sl o off len (.known c),cv=>∃l a,j o=some l/\cv=.slice (some a) len c/\(a=⟨l.blk,l.base+off,none⟩\/(c=0/\len=0))
 | .sl o off len (.grown e),cv=>∃l c f,j o=some l/\cv=.slice (some ⟨l.blk,f,none⟩) len c/\len<=c/\(f=l.base+off\/(len=0/\off≠0/\c=0))/\(f=l.base+off->e≠0->off+c*e<=l.room)
 | .nilf,cv=>cv=.nilFunc
 | .clo f fs cs,cv=>∃vs us,VIs j fs vs/\VIs j cs us/\cv=.func (.func f) vs.toArray us.toArray
 | .agg cs,cv=>∃vs,VIs j cs vs/\cv=.agg vs.toArray
 | .tup cs,cv=>∃vs,VIs j cs vs/\cv=.tuple vs.toArray
def VIs(j:Inj):List AV->List Value->Prop
 |[],vs=>vs=[]
 |a::as,vs=>∃v r,vs=v::r/\VI j a v/\VIs j as r
end
def Inj.le(j j':Inj):Prop:=∀o l,j o=some l->j' o=some l
theorem Inj.le.refl(j:Inj):j.le j:=λ_ _ h=>h
theorem Inj.le.trans{a b c:Inj}(h:a.le b)(k:b.le c):a.le c:=λo l x=>k o l (h o l x)
mutual
theorem VI.mono{j j':Inj}(hj:j.le j'):∀(v:AV) (cv:Value),VI j v cv->VI j' v cv
 | .undef,_,_=>trivial
 | .bool _,_,h | .int _ _,_,h | .str _,_,h | .nilp,_,h | .nils,_,h | .nilf,_,h=>h
 | .ptr o i,cv,h=>by obtain⟨l,a,b⟩:=h;exact⟨l,hj _ _ a,b⟩
 | .sl o off len (.known c),cv,h=>by obtain⟨l,q,a,b⟩:=h;exact⟨l,q,hj _ _ a,b⟩
 | .sl o off len (.grown e),cv,h=>by obtain⟨l,c,f,a,b⟩:=h;exact⟨l,c,f,hj _ _ a,b⟩
 | .clo f fs cs,cv,h=>by obtain⟨vs,us,a,b,c⟩:=h;exact⟨vs,us,VIs.mono hj _ _ a,VIs.mono hj _ _ b,c⟩
 | .agg cs,cv,h=>by obtain⟨vs,a,c⟩:=h;exact⟨vs,VIs.mono hj _ _ a,c⟩
 | .tup cs,cv,h=>by obtain⟨vs,a,c⟩:=h;exact⟨vs,VIs.mono hj _ _ a,c⟩
theorem VIs.mono{j j':Inj}(hj:j.le j'):∀(v:List AV) (cv:List Value),VIs j v cv->VIs j' v cv
 |[],_,h=>h
 |a::as,cv,h=>by obtain⟨v,r,e,x,y⟩:=h;exact⟨v,r,e,VI.mono hj _ _ x,VIs.mono hj _ _ y⟩
end
theorem VIs.length{j:Inj}:∀{vs:List AV} {cs:List Value},VIs j vs cs->vs.length=cs.length
 |[],_,h=>by simp[show _=[] from h]
 |_::_,_,h=>by obtain⟨v,r,rfl,_,h⟩:=h;simp[VIs.length h]
theorem VIs.get{j:Inj}:∀{vs:List AV} {cs:List Value},VIs j vs cs->∀{i:Nat} {v:AV},vs[i]? = some v->∃cv,cs[i]? = some cv/\VI j v cv
 |[],_,_,i,v,hv=>by simp at hv
 |a::as,_,h,i,v,hv=>by
  obtain⟨c,r,rfl,h0,h⟩:=h;cases i with
  |zero=>simp at hv;subst hv;exact⟨c,by simp,h0⟩
  |succ i=>simp at hv;simpa using VIs.get h hv
theorem VIs.of_get{j:Inj}:∀{vs:List AV} {cs:List Value},vs.length=cs.length->(∀(i:Nat) (v:AV),vs[i]? = some v->∃cv,cs[i]? = some cv/\VI j v cv)->VIs j vs cs
 |[],cs,hl,_=>by cases cs with|nil=>rfl|cons _ _=>simp at hl
 |a::as,[],hl,_=>by simp at hl
 |a::as,c::cs,hl,h=>by
  obtain⟨cv,h1,h2⟩:=h 0 a (by simp);simp at h1;subst h1;exact⟨c,cs,rfl,h2,VIs.of_get (by simpa using hl) λi v hv=>by simpa using h (i+1) v (by simpa using hv)⟩
theorem VIs.append{j:Inj}:∀{a:List AV} {x:List Value} {b:List AV} {y:List Value},VIs j a x->VIs j b y->VIs j (a++b) (x++y)
 |[],_,_,_,h,k=>by rw[show _=[] from h];exact k
 |_::_,_,_,_,h,k=>by obtain⟨v,r,rfl,h0,h⟩:=h;exact⟨v,_,rfl,h0,VIs.append h k⟩
theorem VIs.take{j:Inj}:∀{a:List AV} {x:List Value} (n:Nat),VIs j a x->VIs j (a.take n) (x.take n)
 |[],_,_,h=>by rw[show _=[] from h];simp[VIs]
 |_::_,_,0,_=>by simp[VIs]
 |_::_,_,n+1,h=>by obtain⟨v,r,rfl,h0,h⟩:=h;exact⟨v,_,rfl,h0,VIs.take n h⟩
theorem VIs.drop{j:Inj}:∀{a:List AV} {x:List Value} (n:Nat),VIs j a x->VIs j (a.drop n) (x.drop n)
 |[],_,_,h=>by rw[show _=[] from h];simp[VIs]
 |_::_,_,0,h=>h
 |_::_,_,n+1,h=>by obtain⟨v,r,rfl,h0,h⟩:=h;exact VIs.drop n h
theorem VI.oneCell{j:Inj}{v:AV}{cv:Value}(h:VI j v cv)(h1:v.one=true):cv.oneCell'=true:=by
 cases v with
 |undef|agg|tup=>simp[AV.one]at h1
 |sl o off len cap=>
  cases cap with
  |known c=>obtain⟨l,_,_,rfl,_⟩:=h;rfl
  |grown e=>obtain⟨l,c,f,_,rfl,_⟩:=h;rfl
 |ptr o i=>obtain⟨l,_,rfl⟩:=h;rfl
 |clo=>obtain⟨_,_,_,_,rfl⟩:=h;rfl
 |_=>rw[show cv=_ from h];rfl
theorem VI.cells_one{j:Inj}{v:AV}{cv:Value}(h:VI j v cv)(h1:v.one=true):cv.cells = #[cv]:=by
 have:=VI.oneCell h h1
 cases cv<;>simp_all [Value.oneCell',Value.cells]
theorem VI.cells{j:Inj}{v:AV}{cv:Value}(h:VI j v cv)(h1:v.cells.all AV.one=true):VIs j v.cells cv.cells.toList:=by
 cases v with
 |agg cs=>obtain⟨vs,h,rfl⟩:=h;simpa [AV.cells,Value.cells]using h
 |undef=>simp[AV.cells,AV.one]at h1
 |tup=>simp[AV.cells,AV.one]at h1
 |_=>rw[h.cells_one rfl];exact⟨cv,[],rfl,h,rfl⟩
theorem VIs.oneCell{j:Inj}{vs:List AV}{cs:List Value}(h:VIs j vs cs)(h1:vs.all AV.one=true):∀c∈cs,c.oneCell'=true:=by
 intro c hc;obtain⟨i,hi,rfl⟩:=List.getElem_of_mem hc;have hl:=h.length;obtain⟨cv,e,hv⟩:=h.get (i:=i) (List.getElem?_eq_getElem (by omega));rw[List.getElem?_eq_getElem hi]at e;cases e;exact hv.oneCell (List.all_eq_true.1 h1 _ (List.getElem_mem _))
structure ObjOK(B:Nat)(w:World)(j:Inj)(ob:AObj)(l:Loc):Prop where
 one:ob.cells.all AV.one=true
 row:∃cur ty fz,w.heap[l.blk]? = some (.cells cur ty fz)/\(∀i v,ob.cells[i]? = some v->∃cv,cur[l.base+i]? = some cv/\VI j v cv)/\
  (ob.rw=true->fz=(0,0)/\l.base+l.room<=cur.size/\B<=l.blk)/\(ob.rw=false->l.blk<B)
structure MR(B:Nat)(w0:World)(j:Inj)(h:AHeap)(w:World):Prop where
 below:Below B w0 w
 bnd:B<=w.heap.size
 fresh:∀o,h.next<=o->h.obj o=none/\j o=none
 obj:∀o ob l,h.obj o=some ob->j o=some l->ObjOK B w j ob l
 apart:∀o o' ob gT l l',o≠o'->h.obj o=some ob->h.obj o'=some gT->j o=some l->j o'=some l'->ob.rw=true->l.blk≠l'.blk
structure FR(j:Inj)(h:AHeap)(j':Inj)(h':AHeap):Prop where
 next:h.next<=h'.next
 inj:∀o,o<h.next->j' o=j o
 pend:∀o,o<h.next->j o=none->h'.obj o=h.obj o
theorem FR.refl(j:Inj)(h:AHeap):FR j h j h:=⟨vM _,λ_ _=>rfl,λ_ _ _=>rfl⟩
theorem FR.trans{j j' gx:Inj}{h h' cN:AHeap}(a:FR j h j' h')(b:FR j' h' gx cN):FR j h gx cN:=
 ⟨Nat.le_trans a.next b.next,λo ho=>(b.inj o (Nat.lt_of_lt_of_le ho a.next)).trans (a.inj o ho),
  λo ho hn=>(b.pend o (Nat.lt_of_lt_of_le ho a.next) ((a.inj o ho).trans hn)).trans (a.pend o ho hn)⟩
theorem MR.lt{B:Nat}{w0 w:World}{j:Inj}{h:AHeap}(m:MR B w0 j h w){o:Nat}{l:Loc}(hl:j o=some l):o<h.next:=by
 rcases Nat.lt_or_ge o h.next with x|x
 .exact x
 .rw[(m.fresh o x).2]at hl;cases hl
theorem FR.le{B:Nat}{w0 w:World}{j j':Inj}{h h':AHeap}(f:FR j h j' h')(m:MR B w0 j h w):j.le j':=
 λo _ hl=>(f.inj o (m.lt hl)).trans hl
theorem MR.drew{B:Nat}{w0 w:World}{j:Inj}{h:AHeap}(m:MR B w0 j h w):MR B w0 j h w.drew:=
 ⟨m.below.drew,m.bnd,m.fresh,λo ob l a b=>⟨(m.obj o ob l a b).one,(m.obj o ob l a b).row⟩,m.apart⟩
def ZK(P:Program)(f:FuncId)(args:List AV)(h:AHeap)(K:AV->AHeap->Prop):Prop:=
 ∀(B:Nat) (w0:World) (j:Inj) (w:World) (cargs:List Value),MR B w0 j h w->VIs j args cargs->
  Calls P f cargs.toArray w λe w'=>∃v h' j' cv,e=.returned cv/\FR j h j' h'/\MR B w0 j' h' w'/\VI j' v cv/\K v h'
theorem ZK.mono{P:Program}{f:FuncId}{args:List AV}{h:AHeap}{K K':AV->AHeap->Prop}(c:ZK P f args h K)(hk:∀v h',K v h'->K' v h'):ZK P f args h K':=
 λB w0 j w cargs m va=>(c B w0 j w cargs m va).mono λ_ _ ⟨v,h',j',cv,a,b,c,d,k⟩=>⟨v,h',j',cv,a,b,c,d,hk _ _ k⟩
end Go.Ab
namespace Go.Ab
open Go.RowKit
variable{B:Nat}{w0 w:World}{j:Inj}{h:AHeap}
theorem MR.cell(m:MR B w0 j h w){o i:Nat}{v:AV}{l:Loc}(hv:h.rd1 o i=some v)(hl:j o=some l):
  ∃cv,w.cell? ⟨l.blk,l.base+i,none⟩=some cv/\VI j v cv:=by
 unfold AHeap.rd1 at hv;cases ho:h.obj o with
 |none=>simp[ho]at hv
 |some ob=>
  simp only[ho,Option.bind_some]at hv;obtain⟨cur,ty,fz,aQ,hc,_⟩:=(m.obj o ob l ho hl).row;obtain⟨cv,h1,h2⟩:=hc i v hv;exact⟨cv,by simp[World.cell?,aQ,h1],h2⟩
theorem AHeap.rd_some{o i n:Nat}{vs:List AV}(hv:h.rd o i n=some vs):∃ob,h.obj o=some ob/\i+n<=ob.cells.length/\vs=(ob.cells.drop i).take n:=by
 unfold AHeap.rd at hv;cases ho:h.obj o with
 |none=>simp[ho]at hv
 |some ob=>
  simp only[ho,Option.bind_some]at hv;split at hv
  .cases hv;exact⟨ob,rfl,by assumption,rfl⟩
  .cases hv
theorem Zl(b o k:Nat):(⟨b,o,none⟩:Addr).add k=⟨b,o+k,none⟩:=by
 unfold Addr.add;split<;>simp_all
theorem MR.cells(m:MR B w0 j h w){o i n:Nat}{vs:List AV}{l:Loc}(hv:h.rd o i n=some vs)(hl:j o=some l):
  ∃cs:List Value,VIs j vs cs/\cs.length=n/\vs.all AV.one=true/\∀k u,cs[k]? = some u->w.cell? ((⟨l.blk,l.base+i,none⟩:Addr).add k)=some u:=by
 obtain⟨ob,ho,hle,rfl⟩:=AHeap.rd_some hv;have aK:=(m.obj o ob l ho hl).one;obtain⟨cur,ty,fz,aQ,hc,_⟩:=(m.obj o ob l ho hl).row;have hlen:((ob.cells.drop i).take n).length=n:=by simp;omega
 have cV:∀k,k<n->∃cv,cur[l.base+i+k]? = some cv/\VI j (ob.cells.getD (i+k) .undef) cv:=by
  intro k hk;have ag:i+k<ob.cells.length:=by omega
  obtain⟨cv,h1,h2⟩:=hc (i+k) ob.cells[i+k] (List.getElem?_eq_getElem ag);exact⟨cv,by rw[<-h1];congr 1;omega,by simpa [List.getD,List.getElem?_eq_getElem ag]using h2⟩
 refine⟨(List.range n).map λk=>cur.getD (l.base+i+k) undef,VIs.of_get (by simp;omega) ?_,by simp,?_,?_⟩
 .intro k v hk;have cw:k<n:=by
   rcases Nat.lt_or_ge k n with x|x
   .exact x
   .rw[List.getElem?_eq_none (by omega)]at hk;cases hk
  obtain⟨cv,h1,h2⟩:=cV k cw;refine⟨cv,by simp[cw,Array.getD_eq_getD_getElem?,h1],?_⟩;rw[List.getElem?_take,if_pos cw,List.getElem?_drop]at hk;rw[List.getD,hk]at h2;exact h2
 .exact List.all_eq_true.2 λx hx=>List.all_eq_true.1 aK x (List.mem_of_mem_drop (List.mem_of_mem_take hx))
 .intro k u hk;have cw:k<n:=by
   rcases Nat.lt_or_ge k n with x|x
   .exact x
   .rw[List.getElem?_eq_none (by simp;omega)]at hk;cases hk
  obtain⟨cv,h1,_⟩:=cV k cw;simp[cw,Array.getD_eq_getD_getElem?,h1]at hk;subst hk;rw[Zl];simp[World.cell?,aQ,h1]
def Inj.put(j:Inj)(o:Nat)(l:Loc):Inj:=λo'=>if o'=o then some l else j o'
theorem MR.put_le(m:MR B w0 j h w)(l:Loc):j.le (j.put h.next l):=by
 intro o l' hl
 have:=m.lt hl
 unfold Inj.put;rw[if_neg (by omega)];exact hl
theorem ObjOK.alloc{ob:AObj}{l:Loc}(k:ObjOK B w j ob l)(o:Obj){j':Inj}(hj:j.le j'):ObjOK B (w.alloc o) j' ob l:=by
 refine⟨k.one,?_⟩;obtain⟨cur,ty,fz,aQ,hc,hr⟩:=k.row;refine⟨cur,ty,fz,?_,λi v hv=>?_,hr⟩
 .rw[heap_alloc_old _ _ (Array.getElem?_eq_some_iff.1 aQ).1];exact aQ
 .obtain⟨cv,a,b⟩:=hc i v hv;exact⟨cv,a,VI.mono hj _ _ b⟩
theorem MR.new(m:MR B w0 j h w){cells:List AV}{cur:Array Value}{ty:TypeId}{room:Nat}(aK:cells.all AV.one=true)
  (hc:VIs j cells (cur.toList.take cells.length)) (aS:room<=cur.size):
  MR B w0 (j.put h.next ⟨w.heap.size,0,room⟩) (h.new ⟨true,cells⟩) (w.alloc (.cells cur ty))/\FR j h (j.put h.next ⟨w.heap.size,0,room⟩) (h.new ⟨true,cells⟩):=by
 have hle:=m.put_le ⟨w.heap.size,0,room⟩;refine⟨⟨m.below.alloc m.bnd _,by simp;have:=m.bnd;omega,?_,?_,?_⟩,?_⟩
 .intro o ho;simp only[AHeap.new]at ho;simp only[AHeap.new,Inj.put,if_neg (show ¬o=h.next by omega)];exact m.fresh o (by omega)
 .intro o ob l ho hl;by_cases e:o=h.next
  .subst e;simp only[AHeap.new,if_true,Option.some.injEq]at ho;simp only[Inj.put,if_true,Option.some.injEq]at hl;subst ho;subst hl;refine⟨aK,cur,ty,(0,0),heap_alloc_new w _,λi v hv=>?_,λ_=>⟨rfl,by simpa using aS,m.bnd⟩,λx=>by cases x⟩;obtain⟨cv,a,b⟩:=hc.get hv;refine⟨cv,?_,VI.mono hle _ _ b⟩;rw[List.getElem?_take]at a;split at a
   .simpa using a
   .cases a
  .simp only[AHeap.new,if_neg e]at ho;simp only[Inj.put,if_neg e]at hl;exact(m.obj o ob l ho hl).alloc _ hle
 .intro o o' ob gT l l' ai ho cn hl aX fh;have dc:∀{p:Nat} {ob:AObj} {l:Loc},h.obj p=some ob->j p=some l->l.blk<w.heap.size:=by
   intro p ob l a b;obtain⟨cur,ty,fz,aQ,_⟩:=(m.obj p ob l a b).row;exact(Array.getElem?_eq_some_iff.1 aQ).1
  by_cases e:o=h.next
  .have e':o'≠h.next:=λx=>ai (e.trans x.symm);subst e;simp only[Inj.put,if_true,Option.some.injEq]at hl;simp only[Inj.put,if_neg e']at aX;simp only[AHeap.new,if_neg e']at cn
   have:=dc cn aX
   subst hl;show w.heap.size≠_;omega
  .simp only[AHeap.new,if_neg e]at ho;simp only[Inj.put,if_neg e]at hl;by_cases e':o'=h.next
   .subst e';simp only[Inj.put,if_true,Option.some.injEq]at aX
    have:=dc ho hl
    subst aX;show _≠w.heap.size;omega
   .simp only[AHeap.new,if_neg e']at cn;simp only[Inj.put,if_neg e']at aX;exact m.apart o o' ob gT l l' ai ho cn hl aX fh
 .refine⟨by simp[AHeap.new],λo ho=>?_,λo ho _=>?_⟩
  .simp[Inj.put,Nat.ne_of_lt ho]
  .simp[AHeap.new,Nat.ne_of_lt ho]
theorem MR.reveal(m:MR B w0 j h w){o:Nat}{cells:List AV}{cur:Array Value}{ty:TypeId}(ho:h.obj o=some ⟨true,cells⟩)(hj:j o=none)(aK:cells.all AV.one=true)
  (hc:VIs j cells cur.toList):
  MR B w0 (j.put o ⟨w.heap.size,0,0⟩) h (w.alloc (.cells cur ty))/\j.le (j.put o ⟨w.heap.size,0,0⟩):=by
 have hle:j.le (j.put o ⟨w.heap.size,0,0⟩):=by
  intro p l hl;unfold Inj.put;rw[if_neg (λe=>by subst e;rw[hj]at hl;cases hl)];exact hl
 have ag:o<h.next:=by
  rcases Nat.lt_or_ge o h.next with x|x
  .exact x
  .rw[(m.fresh o x).1]at ho;cases ho
 refine⟨⟨m.below.alloc m.bnd _,by simp;have:=m.bnd;omega,?_,?_,?_⟩,hle⟩
 .intro p hp;simp only[Inj.put,if_neg (show ¬p=o by omega)];exact m.fresh p hp
 .intro p ob l hp hl;by_cases e:p=o
  .subst e;rw[ho]at hp;simp only[Option.some.injEq]at hp;simp only[Inj.put,if_true,Option.some.injEq]at hl;subst hp;subst hl;refine⟨aK,cur,ty,(0,0),heap_alloc_new w _,λi v hv=>?_,λ_=>⟨rfl,by simp,m.bnd⟩,λx=>by cases x⟩;obtain⟨cv,a,b⟩:=hc.get hv;exact⟨cv,by simpa using a,VI.mono hle _ _ b⟩
  .simp only[Inj.put,if_neg e]at hl;exact(m.obj p ob l hp hl).alloc _ hle
 .intro p p' ob gT l l' ai hp iM hl aX fh;have dc:∀{p:Nat} {ob:AObj} {l:Loc},h.obj p=some ob->j p=some l->l.blk<w.heap.size:=by
   intro p ob l a b;obtain⟨cur,ty,fz,aQ,_⟩:=(m.obj p ob l a b).row;exact(Array.getElem?_eq_some_iff.1 aQ).1
  by_cases e:p=o
  .have e':p'≠o:=λx=>ai (e.trans x.symm);subst e;simp only[Inj.put,if_true,Option.some.injEq]at hl;simp only[Inj.put,if_neg e']at aX
   have:=dc iM aX
   subst hl;show w.heap.size≠_;omega
  .simp only[Inj.put,if_neg e]at hl;by_cases e':p'=o
   .subst e';simp only[Inj.put,if_true,Option.some.injEq]at aX
    have:=dc hp hl
    subst aX;show _≠w.heap.size;omega
   .simp only[Inj.put,if_neg e']at aX;exact m.apart p p' ob gT l l' ai hp iM hl aX fh
theorem AHeap.wr_some{o i:Nat}{vs:List AV}{h':AHeap}(hw:h.wr o i vs=some h'):
  ∃ob,h.obj o=some ob/\ob.rw=true/\i+vs.length<=ob.cells.length/\vs.all AV.one=true/\h'=h.set o (ob.cells.take i++vs++ob.cells.drop (i+vs.length)):=by
 unfold AHeap.wr at hw;cases ho:h.obj o with
 |none=>simp[ho]at hw
 |some ob=>
  simp only[ho,Option.bind_some]at hw;split at hw
  .rename_i x;cases hw;exact⟨ob,rfl,x.1,x.2.1,x.2.2,rfl⟩
  .cases hw
theorem MR.setRow(m:MR B w0 j h w){o:Nat}{ob:AObj}{l:Loc}{cells:List AV}{cur new:Array Value}{ty:TypeId}{fz:Nat×Nat}(ho:h.obj o=some ob)(hl:j o=some l)(fh:ob.rw=true)
  (aQ:w.heap[l.blk]? = some (.cells cur ty fz)) (cV:new.size=cur.size) (aK:cells.all AV.one=true) (hc:∀(i:Nat) (v:AV),cells[i]? = some v->∃cv:Value,new[l.base+i]? = some cv/\VI j v cv):
  MR B w0 j (h.set o cells) (w.setRow l.blk new)/\FR j h j (h.set o cells):=by
 obtain⟨lJ,kN,r8,iJ,jf,cI,_⟩:=(m.obj o ob l ho hl).row;obtain⟨rfl,aS,hB⟩:=cI fh;have ag:=(Array.getElem?_eq_some_iff.1 aQ).1;have heq:lJ=cur/\fz=(0,0):=by
  rw[aQ]at iJ;simp at iJ;exact⟨iJ.1.symm,iJ.2.2⟩
 obtain⟨rfl,rfl⟩:=heq;have fm:∀k,k≠l.blk->(w.setRow l.blk new).heap[k]? = w.heap[k]?:=by
  intro k hk;simp only[World.setRow,Array.getElem?_modify];rw[if_neg (λe=>hk e.symm)]
 have fg:(w.setRow l.blk new).heap[l.blk]? = some (.cells new ty (0,0)):=by
  simp[World.setRow,Array.getElem?_modify,aQ]
 have gG:(w.setRow l.blk new).heap.size=w.heap.size:=by simp[World.setRow]
 refine⟨⟨?_,by rw[gG];exact m.bnd,?_,?_,?_⟩,?_⟩
 .exact m.below.trans ⟨rfl,rfl,rfl,by rw[gG];exact vM _,λk hk=>fm k (by omega)⟩
 .intro p hp
  have:=m.lt hl
  simp only[AHeap.set]at hp ⊢;rw[if_neg (by omega)];exact m.fresh p hp
 .intro p tN lp hp lZ;by_cases e:p=o
  .subst e;simp only[AHeap.set,if_true,Option.some.injEq]at hp;rw[hl]at lZ;cases lZ;subst hp;exact⟨aK,new,ty,(0,0),fg,λi v hv=>hc i v hv,λ_=>⟨rfl,by rw[cV];exact aS,hB⟩,λx=>by cases x⟩
  .simp only[AHeap.set,if_neg e]at hp;have hk:=m.obj p tN lp hp lZ;refine⟨hk.one,?_⟩;obtain⟨c,t,f,x,y⟩:=hk.row;have ai:lp.blk≠l.blk:=λe'=>m.apart o p ob tN l lp (λx=>e x.symm) ho hp hl lZ fh e'.symm;exact⟨c,t,f,by rw[fm _ ai];exact x,y⟩
 .intro p p' tN y9 lp Ae ai hp iM lZ u5 uA;have conv:∀{q:Nat} {jj:AObj},(h.set o cells).obj q=some jj->∃gT,h.obj q=some gT/\(jj.rw=true->gT.rw=true):=by
   intro q jj hq;by_cases e:q=o
   .subst e;exact⟨ob,ho,λ_=>fh⟩
   .simp only[AHeap.set,if_neg e]at hq;exact⟨jj,hq,id⟩
  obtain⟨a,ha,BM⟩:=conv hp;obtain⟨b,hb,_⟩:=conv iM;exact m.apart p p' a b lp Ae ai ha hb lZ u5 (BM uA)
 .refine⟨vM _,λ_ _=>rfl,λp _ hn=>?_⟩;simp only[AHeap.set];rw[if_neg (λe=>by subst e;rw[hl]at hn;cases hn)]
theorem MR.kill(m:MR B w0 j h w){o:Nat}{l:Loc}(hl:j o=some l):MR B w0 j (h.kill o) w/\FR j h j (h.kill o):=by
 have sub:∀{q:Nat} {jj:AObj},(h.kill o).obj q=some jj->h.obj q=some jj:=by
  intro q jj hq;by_cases e:q=o
  .subst e;simp[AHeap.kill]at hq
  .simpa [AHeap.kill,e]using hq
 refine⟨⟨m.below,m.bnd,λp hp=>⟨?_,(m.fresh p hp).2⟩,λp ob l hp lZ=>m.obj p ob l (sub hp) lZ,λp p' a b l l' ai hp iM hl aX hr=>m.apart p p' a b l l' ai (sub hp) (sub iM) hl aX hr⟩,
  ⟨vM _,λ_ _=>rfl,λp _ hn=>?_⟩⟩
 .simp only[AHeap.kill]at hp ⊢;split
  .rfl
  .exact(m.fresh p hp).1
 .simp only[AHeap.kill];rw[if_neg (λe=>by subst e;rw[hl]at hn;cases hn)]
end Go.Ab
set_option linter.unusedSimpArgs false
set_option linter.unusedVariables false
namespace Go.Ab
open Go.RowKit
def toCell:Value->Option AV
 | .bool b=>some (.bool b)
 | .int k n=>some (.int k n)
 | .string s=>some (.str s.data.toList)
 | .pointer none=>some .nilp
 | .slice none 0 0=>some .nils
 | .nilFunc=>some .nilf
 |_=>none
def ZL:List Value->Option (List AV)
 |[]=>some []
 |v::r=>(toCell v).bind λa=>(ZL r).bind λb=>some (a::b)
def toAV:Value->Option AV
 | .agg cs=>(ZL cs.toList).map .agg
 |v=>toCell v
def cx:Operand->Option IX
 | .tmp t=>some (.t t)
 | .const v=>(toAV v).map .c
 | .func f=>some (.c (.clo f [] []))
 | .global _=>none
def cxs:List Operand->Option (List IX)
 |[]=>some []
 |x::r=>(cx x).bind λa=>(cxs r).bind λb=>some (a::b)
def cxo:Option Operand->Option (Option IX)
 |none=>some none
 |some x=>(cx x).map some
def zAw:TypeDesc->Bool
 | .struct _ | .array _ _=>true
 |_=>false
def eqkOf:Option TypeDesc->EqK
 |some .bool=>.bool
 |some (.slice _)=>.slice
 |some (.pointer _)=>.pointer
 |some (.func _ _ _)=>.func
 |_=>.other
def zAx(P:Program):List Field->Nat->Bool
 |[],_=>true
 | f :: fs, i => (f.name != "_") && (f.offset == i) && (match P.underlying f.type with | some (.int _) => true | _ => false) && zAx P fs (i + 1)
def eqk(P:Program)(t:TypeId):EqK:=
 match P.underlying t with
 |some (.struct fs)=>if (zAx P fs.toList 0 && !P.stoodInHeld t && !P.eqGuardType P.depth t)=true then .ints fs.size else .other
 |o=>eqkOf o
def zDe(P:Program)(fields:Array Field):List (Nat×Operand)->Option (List (Nat×Nat×IX))
 |[]=>some []
 |(i,x)::r=>(fields[i]?).bind λf=>(P.info? f.type).bind λfi=>(cx x).bind λa=>(zDe P fields r).bind λb=>some ((f.offset,fi.size,a)::b)
def carts(size:Nat):List (Nat×Operand)->Option (List (Nat×Nat×IX))
 |[]=>some []
 |(i,x)::r=>(cx x).bind λa=>(carts size r).bind λb=>some ((i*size,size,a)::b)
def copQ(P:Program):Op->Option IOp
 | .move x | .assign x=>(cx x).map .mv
 | .pick c a b=>(cx c).bind λc=>(cx a).bind λa=>(cx b).bind λb=>some (.pick c a b)
 | .binOp op xt x y _=>(cx x).bind λx=>(cx y).bind λy=>some (.bin op (eqk P xt) x y)
 | .unOp op _ x=>(cx x).map (.un op)
 | .convert src dst x=>match P.underlying src,P.underlying dst with
  |some (.int _),some (.int k)=>(cx x).map (.conv k)
  |_,_=>none
 | .nilCheck x=>(cx x).map .nilCheck
 | .field t x f=>match P.underlying t with
  |some (.struct fields)=>(fields[f]?).bind λfd=>match P.underlying fd.type,P.info? fd.type with
   |some d,some i=>(cx x).map (.field (zAw d) i.size fd.offset)
   |_,_=>none
  |_=>none
 | .fieldAddr t x f=>match P.underlying t with
  |some (.struct fields)=>(fields[f]?).bind λfd=>(P.info? fd.type).bind λi=>if i.size=0 then none else(cx x).map (.fieldAddr fd.offset)
  |_=>none
 | .indexAddr t x ix=>match P.underlying t with
  |some (.slice e)=>(P.info? e).bind λi=>(cx x).bind λx=>(cx ix).bind λix=>some (.indexAddr i.size x ix)
  |some (.array len e)=>match ix with
   | .const (.int _ n)=>(P.info? e).bind λi=>if 0<=n/\n<(len:Int)then(cx x).map (.fieldAddr (n.toNat*i.size))else none
   |_=>none
  |_=>none
 | .index t x ix=>match P.underlying t with
  |some .string=>(cx x).bind λx=>(cx ix).bind λix=>some (.indexStr x ix)
  |_=>none
 | .extract x i=>(cx x).map (.extract · i)
 | .slice t x lo hi mx=>match P.underlying t with
  |some (.slice e)=>(P.info? e).bind λi=>(cx x).bind λx=>(cxo lo).bind λlo=>(cxo hi).bind λhi=>(cxo mx).bind λmx=>some (.slice i.size x lo hi mx)
  |some .string=>(cx x).bind λx=>(cxo lo).bind λlo=>(cxo hi).bind λhi=>match mx with|none=>some (.sliceStr x lo hi)|some _=>none
  |_=>none
 | .makeFunc (.func f) first cg=>(cxs first.toList).bind λfirst=>(cxs cg.toList).bind λcg=>some (.makeFunc f first cg)
 | .load t x=>match P.underlying t,P.info? t with
  |some d,some i=>(cx x).map (.load (zAw d) i.size)
  |_,_=>none
 | .build t ps=>match P.underlying t,(P.info? t).bind (·.zero)with
  |some (.struct fields),some (.agg z)=>if fields.toList.all (λf=>(P.info? f.type).isSome)=true then(ZL z.toList).bind λz=>(zDe P fields ps.toList).bind λps=>some (.build z ps)else none
  |some (.array _ e),some (.agg z)=>(P.info? e).bind λi=>(ZL z.toList).bind λz=>(carts i.size ps.toList).bind λps=>some (.build z ps)
  |_,_=>none
 | .call { callee:=.builtin b,args,argTypes }=>
  match b,args.toList,argTypes.toList with
  | .len,[x],[t]=>match P.underlying t with
   |some (.slice _)=>(cx x).map .len
   |some .string=>(cx x).map .lenStr
   |_=>none
  | .cap,[x],[t]=>match P.underlying t with
   |some (.slice _)=>(cx x).map .cap
   |_=>none
  | .max,[x,y],[t,_]=>match P.underlying t with
   |some (.int _)=>(cx x).bind λx=>(cx y).bind λy=>some (.maxmin true x y)
   |_=>none
  | .min,[x,y],[t,_]=>match P.underlying t with
   |some (.int _)=>(cx x).bind λx=>(cx y).bind λy=>some (.maxmin false x y)
   |_=>none
  |_,_,_=>none
 |_=>none
structure ER(nt:Nat)(j:Inj)(e:Env)(a:Act):Prop where
 vals:∀t,VI j (e t) (a.tmps.getD t undef)
 size:a.tmps.size=nt
 defers:a.defers=[]
variable{P:Program}{w:World}{j:Inj}{nt:Nat}{e:Env}{a:Act}
theorem ER.mono{j':Inj}(r:ER nt j e a)(hj:j.le j'):ER nt j' e a:=⟨λt=>VI.mono hj _ _ (r.vals t),r.size,r.defers⟩
theorem ER.put(r:ER nt j e a){d:Option Nat}{v:AV}{cv:Value}(hd:∀t,d=some t->t<nt)(hv:VI j v cv):ER nt j (e.put d v) (a.put d cv):=by
 cases d with
 |none=>exact r
 |some d=>
  have ag:d<a.tmps.size:=by rw[r.size];exact hd d rfl
  refine⟨λt=>?_,by simp[Act.put,r.size],r.defers⟩;simp only[Env.put,Act.put,Array.getD_eq_getD_getElem?,Array.getElem?_setIfInBounds];by_cases ht:t=d
  .subst ht;simpa [ag]using hv
  .rw[if_neg ht,if_neg (λx=>ht x.symm)]
   have:=r.vals t
   rwa[Array.getD_eq_getD_getElem?]at this
theorem zFC{v:Value}{av:AV}(hv:toCell v=some av):VI j av v/\av.one=true/\v.cells = #[v]:=by
 unfold toCell at hv;split at hv<;>first|(cases hv;exact⟨rfl,rfl,rfl⟩)|cases hv
theorem ZP:∀{vs:List Value} {si:List AV},ZL vs=some si->VIs j si vs/\si.all AV.one=true
 |[],si,hv=>by cases hv;exact⟨rfl,rfl⟩
 |v::r,si,hv=>by
  simp only[ZL,Option.bind_eq_some_iff]at hv;obtain⟨x,hx,y,hy,hz⟩:=hv;cases hz;have h1:=zFC (j:=j) hx;have h2:=ZP hy;exact⟨⟨v,r,rfl,h1.1,h2.1⟩,by simp[h1.2.1,h2.2]⟩
theorem zKs{v:Value}{av:AV}(hv:toAV v=some av):VI j av v:=by
 unfold toAV at hv;split at hv
 .simp only[Option.map_eq_some_iff]at hv;obtain⟨x,hx,rfl⟩:=hv;rename_i cs;exact⟨cs.toList,(ZP hx).1,by simp⟩
 .exact(zFC hv).1
theorem zK(r:ER nt j e a){x:Operand}{ix:IX}(hx:cx x=some ix):VI j (ix.ev e) (a.eval x):=by
 cases x with
 |tmp t=>cases hx;exact r.vals t
 |const v=>
  simp only[cx,Option.map_eq_some_iff]at hx;obtain⟨av,hv,rfl⟩:=hx;exact zKs hv
 |func f=>cases hx;exact⟨[],[],rfl,rfl,rfl⟩
 |global g=>cases hx
theorem zAz(r:ER nt j e a):∀{xs:List Operand} {ixs:List IX},cxs xs=some ixs->VIs j (ixs.map (·.ev e)) (xs.map a.eval)
 |[],_,hx=>by cases hx;rfl
 |x::xs,ixs,hx=>by
  simp only[cxs,Option.bind_eq_some_iff]at hx;obtain⟨p,hp,q,hq,hr⟩:=hx;cases hr;exact⟨_,_,rfl,zK r hp,zAz r hq⟩
theorem zNq(r:ER nt j e a){x:Option Operand}{ix:Option IX}(hx:cxo x=some ix):
  (x=none/\ix=none)\/∃y iy,x=some y/\ix=some iy/\VI j (iy.ev e) (a.eval y):=by
 cases x with
 |none=>cases hx;exact .inl ⟨rfl,rfl⟩
 |some y=>
  simp only[cxo,Option.map_eq_some_iff]at hx;obtain⟨iy,h1,rfl⟩:=hx;exact .inr ⟨y,iy,rfl,rfl,zK r h1⟩
def Runs(P:Program)(s:Sem Value)(w:World)(j:Inj)(v:AV):Prop:=∃cv,s.run P w=.ok cv w/\VI j v cv
theorem zLz{op:BinOp}{k:IntKind}{x y:Int}{xt:TypeId}{v:AV}(aT:op≠.shl/\op≠.shr)(hv:aint op k x y=some v):
  Runs P (binOp op xt (.int k x) (.int k y)) w j v:=by
 cases op<;>simp only[aint]at hv<;>(try (split at hv))<;>simp only[Option.some.injEq,reduceCtorEq]at hv<;>(try subst hv)<;>
  first
  |exact absurd rfl aT.1
  |exact absurd rfl aT.2
  |(refine⟨_,?_,rfl⟩;simp[binOp,Op.intArith,Op.intDiv,Op.intCmp,Op.intBits, *];done)
  |(refine⟨_,?_,rfl⟩;simp[binOp,Op.intArith,Op.intDiv,Op.intCmp,Op.intBits, *];first|rfl|(congr 1)|skip)
theorem zDi{op:BinOp}{k k':IntKind}{x y:Int}{xt:TypeId}{v:AV}(aT:op=.shl\/op=.shr)(hv:zIo op k x y=some v):
  Runs P (binOp op xt (.int k x) (.int k' y)) w j v:=by
 unfold zIo at hv;split at hv
 .cases hv
 .rename_i hy;rcases aT with rfl|rfl<;>simp only[Option.some.injEq]at hv<;>subst hv<;>refine⟨_,?_,rfl⟩<;>simp[binOp,Op.shift,hy]
theorem zLx{op:BinOp}{x y:List UInt8}{xt:TypeId}{v:AV}(hv:astr op x y=some v):
  Runs P (binOp op xt (.string ⟨x.toArray⟩) (.string ⟨y.toArray⟩)) w j v:=by
 have e1:(⟨x.toArray⟩:ByteArray).toList=x:=by rw[ByteArray.toList_eq]
 have e2:(⟨y.toArray⟩:ByteArray).toList=y:=by rw[ByteArray.toList_eq]
 have z1:(⟨x.toArray⟩:ByteArray).size=x.length:=by simp[ByteArray.size]
 have z2:(⟨y.toArray⟩:ByteArray).size=y.length:=by simp[ByteArray.size]
 cases op<;>simp only[astr]at hv<;>(try (split at hv))<;>simp only[Option.some.injEq,reduceCtorEq]at hv<;>(try subst hv)
 case add.isTrue hle=>
  refine⟨_,?_,rfl⟩
  have:¬(((x.length+y.length:Nat):Int) > IntKind.i64.max):=by
   have:IntKind.i64.max=9223372036854775807:=by decide
   rw[this];omega
  simp only[binOp,Op.stringOp,z1,z2,if_neg this];simp;congr 1
 all_goals (refine⟨_,?_,rfl⟩;simp[binOp,Op.stringOp,e1,e2])
def zHm:Value->Bool
 | .nilIface | .agg _=>false
 |_=>true
theorem zHF{op:BinOp}{t:TypeId}{x y:Operand}{c d:Value}(hc:zHm c=true):(eqGuard op t x y c d).run P w=.ok () w:=by
 unfold eqGuard;cases c<;>simp[zHm]at hc<;>cases op<;>simp
theorem zIT(d:Nat){t:TypeId}(ht:P.underlying t=some .bool)(x y:Bool):(Op.equalIn (d+1) t (.bool x) (.bool y)).run P w=.ok (x == y) w:=by
 simp[Op.equalIn,run_underlying ht]
theorem zLh{t:TypeId}(ht:P.underlying t=some .bool)(x y:Bool):(Op.equal t (.bool x) (.bool y)).run P w=.ok (x == y) w:=zIT 9999 ht x y
theorem zD7(d:Nat){t et:TypeId}(ht:P.underlying t=some (.slice et))(o:Option Addr)(n c:Nat):(Op.equalIn (d+1) t (.slice o n c) (.slice none 0 0)).run P w=.ok o.isNone w:=by
 cases o<;>simp[Op.equalIn,run_underlying ht]
theorem zB6{t et:TypeId}(ht:P.underlying t=some (.slice et))(o:Option Addr)(n c:Nat):(Op.equal t (.slice o n c) (.slice none 0 0)).run P w=.ok o.isNone w:=zD7 9999 ht o n c
theorem zD9(d:Nat){t et:TypeId}(ht:P.underlying t=some (.slice et))(o:Option Addr)(n c:Nat):(Op.equalIn (d+1) t (.slice none 0 0) (.slice o n c)).run P w=.ok o.isNone w:=by
 cases o<;>simp[Op.equalIn,run_underlying ht]
theorem zFm{t et:TypeId}(ht:P.underlying t=some (.slice et))(o:Option Addr)(n c:Nat):(Op.equal t (.slice none 0 0) (.slice o n c)).run P w=.ok o.isNone w:=zD9 9999 ht o n c
theorem zFk(d:Nat){t et:TypeId}(ht:P.underlying t=some (.pointer et))(o:Option Addr):(Op.equalIn (d+1) t (.pointer o) (.pointer none)).run P w=.ok o.isNone w:=by
 cases o<;>simp[Op.equalIn,run_underlying ht]
theorem zC6{t et:TypeId}(ht:P.underlying t=some (.pointer et))(o:Option Addr):(Op.equal t (.pointer o) (.pointer none)).run P w=.ok o.isNone w:=zFk 9999 ht o
theorem zFn(d:Nat){t et:TypeId}(ht:P.underlying t=some (.pointer et))(o:Option Addr):(Op.equalIn (d+1) t (.pointer none) (.pointer o)).run P w=.ok o.isNone w:=by
 cases o<;>simp[Op.equalIn,run_underlying ht]
theorem zHD{t et:TypeId}(ht:P.underlying t=some (.pointer et))(o:Option Addr):(Op.equal t (.pointer none) (.pointer o)).run P w=.ok o.isNone w:=zFn 9999 ht o
theorem zIS(d:Nat){t:TypeId}{ps rs:Array TypeId}{vr:Bool}(ht:P.underlying t=some (.func ps rs vr)):(Op.equalIn (d+1) t .nilFunc .nilFunc).run P w=.ok true w:=by
 simp[Op.equalIn,run_underlying ht]
theorem zLg{t:TypeId}{ps rs:Array TypeId}{vr:Bool}(ht:P.underlying t=some (.func ps rs vr)):(Op.equal t .nilFunc .nilFunc).run P w=.ok true w:=zIS 9999 ht 
theorem zD8(d:Nat){t:TypeId}{ps rs:Array TypeId}{vr:Bool}(ht:P.underlying t=some (.func ps rs vr))(f:Fn)(x y:Array Value):(Op.equalIn (d+1) t .nilFunc (.func f x y)).run P w=.ok false w:=by
 simp[Op.equalIn,run_underlying ht]
theorem zFl{t:TypeId}{ps rs:Array TypeId}{vr:Bool}(ht:P.underlying t=some (.func ps rs vr))(f:Fn)(x y:Array Value):(Op.equal t .nilFunc (.func f x y)).run P w=.ok false w:=zD8 9999 ht f x y
theorem zEA(d:Nat){t:TypeId}{ps rs:Array TypeId}{vr:Bool}(ht:P.underlying t=some (.func ps rs vr))(f:Fn)(x y:Array Value):(Op.equalIn (d+1) t (.func f x y) .nilFunc).run P w=.ok false w:=by
 simp[Op.equalIn,run_underlying ht]
theorem zFo{t:TypeId}{ps rs:Array TypeId}{vr:Bool}(ht:P.underlying t=some (.func ps rs vr))(f:Fn)(x y:Array Value):(Op.equal t (.func f x y) .nilFunc).run P w=.ok false w:=zEA 9999 ht f x y
theorem Zh{op:BinOp}{r:Bool}{t:TypeId}{c d:Value}{v:AV}(hv:anil op r=some v)(hc:(Op.equal t c d).run P w=.ok r w)
  (h1:op=.eql->binOp op t c d=do pure (.bool (<-Op.equal t c d))) (h2:op=.neq->binOp op t c d=do pure (.bool (!(<-Op.equal t c d)))):Runs P (binOp op t c d) w j v:=by
 cases op<;>simp only[anil,Option.some.injEq,reduceCtorEq]at hv
 .subst hv;exact⟨_,by rw[h1 rfl];simp[hc],rfl⟩
 .subst hv;exact⟨_,by rw[h2 rfl];simp[hc],rfl⟩
theorem Q7{t:TypeId}{k:EqK}(he:eqk P t=k)(h1:∀n,k≠.ints n)(h2:k≠.other):eqkOf (P.underlying t)=k:=by
 unfold eqk at he;split at he
 .split at he
  .exact absurd he.symm (h1 _)
  .exact absurd he.symm h2
 .exact he
theorem zPL{t:TypeId}{n:Nat}(he:eqk P t=.ints n):∃fs,P.underlying t=some (.struct fs)/\fs.size=n/\zAx P fs.toList 0=true/\P.stoodInHeld t=false/\P.eqGuardType P.depth t=false:=by
 unfold eqk at he;split at he
 .rename_i fs ri;split at he
  .rename_i hc;simp only[Bool.and_eq_true,Bool.not_eq_true']at hc;cases he;exact⟨fs,ri,rfl,hc.1.1,hc.1.2,hc.2⟩
  .cases he
 .unfold eqkOf at he;split at he<;>cases he
theorem zDH{t:TypeId}{k:IntKind}(ht:P.underlying t=some (.int k)){xs:Array Value}{off:Nat}{v:Value}(hx:xs[off]? = some v):(part t xs off).run P w=.ok v w:=by
 unfold part isAgg;simp[run_underlying ht,hx]
theorem zFy{d:Nat}{cx cy:Array Value}:∀(fs:List Field) (i:Nat) {xs ys:List AV} {r:Bool} {vs us:List Value},zAx P fs i=true->aggB xs ys=some r->fs.length=xs.length->VIs j xs vs->VIs j ys us->(∀k,cx[i+k]? = vs[k]?)->(∀k,cy[i+k]? = us[k]?)->
  (Op.eqFields (d+1) cx cy fs).run P w=.ok r w
 |[],i,xs,ys,r,vs,us,hf,hr,hl,hv,hu,h1,h2=>by
  have:xs=[]:=List.eq_nil_of_length_eq_zero hl.symm
  subst this;cases ys with
  |nil=>cases hr;simp[Op.eqFields]
  |cons y ys=>simp[aggB]at hr
 |f::fs,i,xs,ys,r,vs,us,hf,hr,hl,hv,hu,h1,h2=>by
  simp only[zAx,Bool.and_eq_true,bne_iff_ne,ne_eq,beq_iff_eq]at hf;obtain⟨⟨⟨g1,g2⟩,g3⟩,g4⟩:=hf;cases xs with
  |nil=>cases hl
  |cons x xs=>
  cases ys with
  |nil=>cases x<;>simp[aggB]at hr
  |cons y ys=>
  cases x<;>cases y<;>simp only[aggB,reduceCtorEq]at hr
  rename_i k a k' b;split at hr
  .rename_i hk;subst hk;obtain⟨r',cI,rfl⟩:=Option.map_eq_some_iff.1 hr;obtain⟨v,vs,rfl,rfl,eR⟩:=hv;obtain⟨u,us,rfl,rfl,uv⟩:=hu;have e1:cx[f.offset]? = some (.int k a):=by rw[g2];exact h1 0
   have e2:cy[f.offset]? = some (.int k b):=by rw[g2];exact h2 0
   have ih:=zFy (d:=d) (cx:=cx) (cy:=cy) fs (i+1) g4 cI (by simpa using hl) eR uv (λk=>by have:=h1 (k+1);rw[show i+1+k=i+(k+1) by omega];exact this) (λk=>by have:=h2 (k+1);rw[show i+1+k=i+(k+1) by omega];exact this);split at g3
   .rename_i k2 ht;unfold Op.eqFields;rw[if_pos g1];simp only[Sem.run_bind,zDH ht e1,zDH ht e2,Result.andThen_ok,run_equalIn_int w d f.type k k2 a b ht];by_cases iU:a=b
    .subst iU;simp[ih]
    .simp[iU]
   .cases g3
  .cases hr
theorem zPM{o:Option TypeDesc}(he:eqkOf o=.bool):o=some .bool:=by
 unfold eqkOf at he;split at he<;>first|rfl|cases he
theorem zDc{o:Option TypeDesc}(he:eqkOf o=.slice):∃et,o=some (.slice et):=by
 unfold eqkOf at he;split at he<;>first|exact⟨_,rfl⟩|cases he
theorem zCH{o:Option TypeDesc}(he:eqkOf o=.pointer):∃et,o=some (.pointer et):=by
 unfold eqkOf at he;split at he<;>first|exact⟨_,rfl⟩|cases he
theorem zEw{o:Option TypeDesc}(he:eqkOf o=.func):∃a b c,o=some (.func a b c):=by
 unfold eqkOf at he;split at he<;>first|exact⟨_,_,_,rfl⟩|cases he
theorem VI.slice_ne{o off len:Nat}{cap:Cap}{c:Value}(hc:VI j (.sl o off len cap) c):∃x n m,c=.slice (some x) n m:=by
 cases cap with
 |known q=>obtain⟨l,_,_,rfl,_⟩:=hc;exact⟨_,_,_,rfl⟩
 |grown q=>obtain⟨l,_,_,_,rfl,_⟩:=hc;exact⟨_,_,_,rfl⟩
theorem zL0{op:BinOp}{xt:TypeId}{x y v:AV}{c d:Value}(hv:abin op (eqk P xt) x y=some v)(hc:VI j x c)(hd:VI j y d):
  Runs P (binOp op xt c d) w j v/\(zHm c=true\/(P.eqGuardType P.depth xt=false/\∃xs ys,c=.agg xs/\d=.agg ys)):=by
 unfold abin at hv;split at hv
 .rename_i k n k' m;rw[show c=_ from hc,show d=_ from hd];refine⟨?_,.inl rfl⟩;split at hv
  .exact zDi (.inl rfl) hv
  .exact zDi (.inr rfl) hv
  .rename_i n1 n2;split at hv
   .rename_i ek;subst ek;exact zLz ⟨n1,n2⟩ hv
   .cases hv
 .rw[show c=_ from hc,show d=_ from hd];exact⟨zLx hv,.inl rfl⟩
 .rw[show c=_ from hc,show d=_ from hd];split at hv
  .rename_i fL;exact⟨Zh hv (zLh (zPM (Q7 fL (λ_=>by simp) (by simp))) _ _) (λe=>by subst e;rfl) (λe=>by subst e;rfl),.inl rfl⟩
  .cases hv
 .split at hv
  .rename_i fL;obtain⟨et,hu⟩:=zDc (Q7 fL (λ_=>by simp) (by simp));rw[show c=_ from hc,show d=_ from hd];exact⟨Zh hv (zB6 hu _ _ _) (λe=>by subst e;rfl) (λe=>by subst e;rfl),.inl rfl⟩
  .cases hv
 .split at hv
  .rename_i fL;obtain⟨et,hu⟩:=zDc (Q7 fL (λ_=>by simp) (by simp));obtain⟨x,n,m,rfl⟩:=VI.slice_ne hc;rw[show d=_ from hd];exact⟨Zh hv (zB6 hu _ _ _) (λe=>by subst e;rfl) (λe=>by subst e;rfl),.inl rfl⟩
  .cases hv
 .split at hv
  .rename_i fL;obtain⟨et,hu⟩:=zDc (Q7 fL (λ_=>by simp) (by simp));obtain⟨x,n,m,rfl⟩:=VI.slice_ne hd;rw[show c=_ from hc];exact⟨Zh hv (zFm hu _ _ _) (λe=>by subst e;rfl) (λe=>by subst e;rfl),.inl rfl⟩
  .cases hv
 .split at hv
  .rename_i fL;obtain⟨et,hu⟩:=zCH (Q7 fL (λ_=>by simp) (by simp));rw[show c=_ from hc,show d=_ from hd];exact⟨Zh hv (zC6 hu _) (λe=>by subst e;rfl) (λe=>by subst e;rfl),.inl rfl⟩
  .cases hv
 .split at hv
  .rename_i fL;obtain⟨et,hu⟩:=zCH (Q7 fL (λ_=>by simp) (by simp));rw[show d=_ from hd];obtain⟨l,_,rfl⟩:=hc;exact⟨Zh hv (zC6 hu _) (λe=>by subst e;rfl) (λe=>by subst e;rfl),.inl rfl⟩
  .cases hv
 .split at hv
  .rename_i fL;obtain⟨et,hu⟩:=zCH (Q7 fL (λ_=>by simp) (by simp));rw[show c=_ from hc];obtain⟨l,_,rfl⟩:=hd;exact⟨Zh hv (zHD hu _) (λe=>by subst e;rfl) (λe=>by subst e;rfl),.inl rfl⟩
  .cases hv
 .split at hv
  .rename_i fL;obtain⟨a,b,r,hu⟩:=zEw (Q7 fL (λ_=>by simp) (by simp));rw[show c=_ from hc,show d=_ from hd];exact⟨Zh hv (zLg hu) (λe=>by subst e;rfl) (λe=>by subst e;rfl),.inl rfl⟩
  .cases hv
 .split at hv
  .rename_i fL;obtain⟨a,b,r,hu⟩:=zEw (Q7 fL (λ_=>by simp) (by simp));rw[show d=_ from hd];obtain⟨_,_,_,_,rfl⟩:=hc;exact⟨Zh hv (zFo hu _ _ _) (λe=>by subst e;rfl) (λe=>by subst e;rfl),.inl rfl⟩
  .cases hv
 .split at hv
  .rename_i fL;obtain⟨a,b,r,hu⟩:=zEw (Q7 fL (λ_=>by simp) (by simp));rw[show c=_ from hc];obtain⟨_,_,_,_,rfl⟩:=hd;exact⟨Zh hv (zFl hu _ _ _) (λe=>by subst e;rfl) (λe=>by subst e;rfl),.inl rfl⟩
  .cases hv
 .split at hv
  .rename_i xs ys n fL;split at hv
   .rename_i hl;obtain⟨fs,g1,g2,g3,g4,g5⟩:=zPL fL;obtain⟨r,hr,hv⟩:=Option.bind_eq_some_iff.1 hv;obtain⟨vs,eR,rfl⟩:=hc;obtain⟨us,uv,rfl⟩:=hd;have bj:P.fieldsOf xt=fs:=by simp[Program.fieldsOf,g1]
    have he:(Op.equalIn 10000 xt (.agg vs.toArray) (.agg us.toArray)).run P w=.ok r w:=by
     rw[run_equalIn_struct w 9999 xt _ _ (by rw[bj];exact g1) g4,bj];exact zFy (d:=9998) fs.toList 0 g3 hr (by rw[hl.1,<-g2];simp) eR uv (λk=>by simp) (λk=>by simp)
    refine⟨Zh hv he (λe=>by subst e;rfl) (λe=>by subst e;rfl),.inr ⟨g5,_,_,rfl,rfl⟩⟩
   .cases hv
  .cases hv
 .cases hv
theorem zNv{op:UnOp}{x v:AV}{c:Value}(hv:aun op x=some v)(hc:VI j x c):Runs P (Op.unary op c) w j v:=by
 unfold aun at hv;split at hv
 .rw[show c=_ from hc];cases hv;exact⟨_,by simp[Op.unary,Op.intArith],rfl⟩
 .rw[show c=_ from hc];simp only[aint,Option.some.injEq]at hv;subst hv;exact⟨_,by simp[Op.unary,Op.intBits],rfl⟩
 .rw[show c=_ from hc];cases hv;exact⟨_,by simp[Op.unary],rfl⟩
 .cases hv
end Go.Ab
set_option linter.unusedSimpArgs false
set_option linter.unusedVariables false
namespace Go.Ab
open Go.RowKit
variable{P:Program}{B:Nat}{w0 w:World}{j:Inj}{h:AHeap}{e:Env}{a:Act}
theorem zBu{t:TypeId}{d:TypeDesc}(ht:P.underlying t=some d):(isAgg t).run P w=.ok (zAw d) w:=by
 simp only[isAgg,Sem.run_bind,run_underlying ht,Result.andThen_ok];cases d<;>rfl
theorem qH{t:TypeId}{i:TypeInfo}(ht:P.info? t=some i):(sizeOf t).run P w=.ok i.size w:=by
 simp[sizeOf,typeInfo,ht]
theorem zFY(m:MR B w0 j h w){t:TypeId}{d:TypeDesc}{i:TypeInfo}(ht:P.underlying t=some d)(hi:P.info? t=some i){o k:Nat}{v:AV}{c:Value}(hc:VI j (.ptr o k) c)
  (hv:(if zAw d=true then(h.rd o k i.size).map AV.agg else h.rd1 o k)=some v):Runs P (Instr.loadAt t c) w j v:=by
 obtain⟨l,hl,rfl⟩:=hc;cases hd:zAw d with
 |true=>
  rw[hd,if_pos rfl]at hv;simp only[Option.map_eq_some_iff]at hv;obtain⟨vs,bg,rfl⟩:=hv;obtain⟨cs,h1,h2,_,h3⟩:=m.cells bg hl;refine⟨.agg cs.toArray,?_,cs,h1,rfl⟩
  have:=run_loadCells_list (P:=P) w _ cs h3
  rw[h2]at this;simp[Instr.loadAt,Instr.sureAddr,loadVar,zBu ht,hd,qH hi,this]
 |false=>
  rw[hd]at hv;simp only[Bool.false_eq_true,if_false]at hv;obtain⟨cv,h1,h2⟩:=m.cell hv hl;exact⟨cv,by simp[Instr.loadAt,Instr.sureAddr,loadVar,zBu ht,hd,h1],h2⟩
theorem extract_toList{α:Type}(cs:List α)(off n:Nat):cs.toArray.extract off (off+n)=((cs.drop off).take n).toArray:=by
 apply Array.ext';simp[Array.toList_extract]
theorem zJ6{t:TypeId}{fields:Array Field}{f:Nat}{fd:Field}{d:TypeDesc}{i:TypeInfo}(ht:P.underlying t=some (.struct fields))(hf:fields[f]? = some fd)
  (hd:P.underlying fd.type=some d) (hi:P.info? fd.type=some i) {cs:List AV} {v:AV} {c:Value} (hc:VI j (.agg cs) c)
  (hv:(if zAw d=true then some (AV.agg ((cs.drop fd.offset).take i.size))else cs[fd.offset]?)=some v):Runs P (Instr.field t c f) w j v:=by
 obtain⟨vs,eR,rfl⟩:=hc;cases hg:zAw d with
 |true=>
  rw[hg,if_pos rfl]at hv;cases hv;refine⟨.agg ((vs.drop fd.offset).take i.size).toArray,?_,_,(eR.drop _).take _,rfl⟩;simp[Instr.field,run_underlying ht,hf,part,zBu hd,hg,asAgg,qH hi,extract_toList]
 |false=>
  rw[hg]at hv;simp only[Bool.false_eq_true,if_false]at hv;obtain⟨cv,h1,h2⟩:=eR.get hv;exact⟨cv,by simp[Instr.field,run_underlying ht,hf,part,zBu hd,hg,asAgg,h1],h2⟩
theorem zFj{t:TypeId}{fields:Array Field}{f:Nat}{fd:Field}{i:TypeInfo}(ht:P.underlying t=some (.struct fields))(hf:fields[f]? = some fd)
  (hi:P.info? fd.type=some i) (hs:i.size≠0) {o k:Nat} {c:Value} (hc:VI j (.ptr o k) c):Runs P (Instr.fieldAt t c f) w j (.ptr o (k+fd.offset)):=by
 obtain⟨l,hl,rfl⟩:=hc;refine⟨_,?_,l,hl,rfl⟩;simp[Instr.fieldAt,run_underlying ht,hf,Instr.sureAddr,fieldPlace,qH hi,hs,Zl,Nat.add_assoc]
theorem zFw{t et:TypeId}{len:Nat}{i:TypeInfo}(ht:P.underlying t=some (.array len et))(hi:P.info? et=some i){o k:Nat}{ik:IntKind}{n:Int}{c:Value}
  (hc:VI j (.ptr o k) c) (h0:0<=n) (h1:n<len):Runs P (Instr.indexAt t c (.int ik n)) w j (.ptr o (k+n.toNat*i.size)):=by
 obtain⟨l,hl,rfl⟩:=hc;refine⟨.pointer (some ⟨l.blk,l.base+k+n.toNat*i.size,none⟩),?_,l,hl,by rw[Nat.add_assoc]⟩;simp[Instr.indexAt,asIntOf,Instr.sureAddr,run_underlying ht,h0,h1,qH hi,Zl]
theorem zFh{t et:TypeId}{i:TypeInfo}(ht:P.underlying t=some (.slice et))(hi:P.info? et=some i){o off len:Nat}{cap:Cap}{k:IntKind}{n:Int}{c:Value}
  (hc:VI j (.sl o off len cap) c) (h0:0<=n) (h1:n<len):Runs P (Instr.indexAt t c (.int k n)) w j (.ptr o (off+n.toNat*i.size)):=by
 have key:∃l cp,j o=some l/\c=.slice (some ⟨l.blk,l.base+off,none⟩) len cp:=by
  cases cap with
  |known q=>
   obtain⟨l,a,hl,rfl,ha⟩:=hc;rcases ha with rfl|⟨_,hz⟩
   .exact⟨l,_,hl,rfl⟩
   .omega
  |grown q=>
   obtain⟨l,cp,f,hl,rfl,_,hf,_⟩:=hc;rcases hf with rfl|⟨hz,_⟩
   .exact⟨l,_,hl,rfl⟩
   .omega
 obtain⟨l,cp,hl,rfl⟩:=key;refine⟨.pointer (some ⟨l.blk,l.base+off+n.toNat*i.size,none⟩),?_,l,hl,by rw[Nat.add_assoc]⟩;simp[Instr.indexAt,asIntOf,run_underlying ht,h0,h1,qH hi,Zl]
theorem Qo{x:AV}{y m:Nat}{c:Value}(hx:zA2 x y=some m)(hc:VI j x c)(code:BoundsCode):(Instr.sliceBound c y code).run P w=.ok m w/\m<=y:=by
 unfold zA2 at hx;split at hx
 .rename_i k i;split at hx
  .rename_i hb;cases hx;rw[show c=_ from hc];exact⟨run_sliceBound w k i y code hb.1 hb.2,by omega⟩
  .cases hx
 .cases hx
def OB(j:Inj):Option AV->Option Value->Prop
 |none,none=>True
 |some x,some c=>VI j x c
 |_,_=>False
theorem Qt{sl:Bool}{len cap m hh l:Nat}{lo hi mx:Option AV}{clo iE cmx:Option Value}(h1:OB j lo clo)(h2:OB j hi iE)(h3:OB j mx cmx)
  (hm:qJ mx cap cap=some m) (s4:qJ hi len m=some hh) (hl:qJ lo 0 hh=some l) (ai:¬(hi.isNone=true/\mx.isSome=true)) (Dd:mx=none->m=cap):
  (Instr.sliceBounds sl len cap clo iE cmx).run P w=.ok (l,hh,m) w:=by
 cases mx with
 |none=>
  cases cmx with
  |some _=>exact h3.elim
  |none=>
   simp only[qJ,Option.some.injEq]at hm;subst hm;cases hi with
   |none=>
    cases iE with
    |some _=>exact h2.elim
    |none=>
     simp only[qJ,Option.some.injEq]at s4;subst s4;cases lo with
     |none=>
      cases clo with
      |some _=>exact h1.elim
      |none=>simp only[qJ,Option.some.injEq]at hl;subst hl;simp[Instr.sliceBounds]
     |some x=>
      cases clo with
      |none=>exact h1.elim
      |some c=>simp[Instr.sliceBounds,(Qo hl h1 _).1]
   |some y=>
    cases iE with
    |none=>exact h2.elim
    |some d=>
     have e2:=λq=>(Qo (P:=P) (w:=w) s4 h2 q).1;cases lo with
     |none=>
      cases clo with
      |some _=>exact h1.elim
      |none=>simp only[qJ,Option.some.injEq]at hl;subst hl;simp[Instr.sliceBounds,e2]
     |some x=>
      cases clo with
      |none=>exact h1.elim
      |some c=>simp[Instr.sliceBounds,e2,(Qo hl h1 _).1]
 |some z=>
  cases cmx with
  |none=>exact h3.elim
  |some cz=>
   have e3:=λq=>(Qo (P:=P) (w:=w) hm h3 q).1;cases hi with
   |none=>exact absurd ⟨rfl,rfl⟩ ai
   |some y=>
    cases iE with
    |none=>exact h2.elim
    |some d=>
     have e2:=λq=>(Qo (P:=P) (w:=w) s4 h2 q).1;cases lo with
     |none=>
      cases clo with
      |some _=>exact h1.elim
      |none=>simp only[qJ,Option.some.injEq]at hl;subst hl;simp[Instr.sliceBounds,e2,e3]
     |some x=>
      cases clo with
      |none=>exact h1.elim
      |some c=>simp[Instr.sliceBounds,e2,e3,(Qo hl h1 _).1]
theorem Zy{x:Option AV}{d y m:Nat}(hx:qJ x d y=some m):x=none/\m=d\/m<=y:=by
 cases x with
 |none=>cases hx;exact .inl ⟨rfl,rfl⟩
 |some x=>
  simp only[qJ,zA2]at hx;split at hx
  .split at hx
   .cases hx;right;omega
   .cases hx
  .cases hx
theorem zEO{x:Option AV}{d y y' m:Nat}(hx:qJ x d y=some m)(hy:y<=y'):qJ x d y'=some m:=by
 cases x with
 |none=>exact hx
 |some x=>
  simp only[qJ,zA2]at hx ⊢;split at hx
  .split at hx
   .cases hx;rw[if_pos (by omega)]
   .cases hx
  .cases hx
theorem zI3{t et:TypeId}{i:TypeInfo}(ht:P.underlying t=some (.slice et))(hi:P.info? et=some i){x:AV}{lo hh mx:Option AV}{c:Value}{clo iE cmx:Option Value}{v:AV}
  (hc:VI j x c) (h1:OB j lo clo) (h2:OB j hh iE) (h3:OB j mx cmx) (hv:Qj i.size x lo hh mx=some v):Runs P (Instr.sliceAt t c clo iE cmx) w j v:=by
 have fR:∀x:Value,(Instr.sliceAt t x clo iE cmx).run P w=(Instr.slice t x clo iE cmx).run P w:=λx=>by simp[Instr.sliceAt,run_underlying ht]
 unfold Qj at hv;split at hv
 .rename_i o off len cp;simp only[Option.bind_eq_some_iff]at hv;obtain⟨m,hm,hq,jd,l,hl,hv⟩:=hv;split at hv
  .cases hv
  .rename_i ai;cases hv;obtain⟨lc,ac,lh,rfl,BO⟩:=hc;have hb:=Qt (P:=P) (w:=w) (sl:=true) h1 h2 h3 hm jd hl ai (λe=>by subst e;cases hm;rfl);have gF:(if m=l then some ac else Option.map (λx=>x.add (l*i.size)) (some ac))=some (if m=l then ac else ac.add (l*i.size)):=by split<;>rfl
   refine⟨.slice (some (if m=l then ac else ac.add (l*i.size))) (hq-l) (m-l),by rw[fR];simp only[Instr.slice,Sem.run_bind,run_underlying ht,Result.andThen_ok,hb,qH hi,Sem.run_pure];rw[gF],lc,_,lh,rfl,?_⟩;rcases BO with rfl|⟨eC,x6⟩
   .left;split
    .rfl
    .simp[Zl,Nat.add_assoc]
   .right;have b1:m<=0:=by rcases Zy hm with ⟨_,x⟩|x<;>omega
    have b2:hq<=0:=by rcases Zy jd with ⟨_,x⟩|x<;>omega
    omega
 .rename_i o off len g;obtain⟨lc,cp,f,lh,rfl,hle,hf,aS⟩:=hc;split at hv
  .rename_i z;simp only[Option.bind_eq_some_iff]at hv;obtain⟨m,hm,hq,jd,l,hl,hv⟩:=hv;split at hv
   .cases hv
   .rename_i ai;cases hv;have hJ:qJ (some z) cp cp=some m:=zEO (x:=some z) (d:=cp) hm hle;have hb:=Qt (P:=P) (w:=w) (sl:=true) h1 h2 h3 hJ jd hl (λe=>ai e.1) (λe=>by cases e);have gF:(if m=l then some (⟨lc.blk,f,none⟩:Addr)else Option.map (λx=>x.add (l*i.size)) (some (⟨lc.blk,f,none⟩:Addr)))=some (if m=l then(⟨lc.blk,f,none⟩:Addr)else(⟨lc.blk,f,none⟩:Addr).add (l*i.size)):=by split<;>rfl
    refine⟨.slice (some (if m=l then(⟨lc.blk,f,none⟩:Addr)else(⟨lc.blk,f,none⟩:Addr).add (l*i.size))) (hq-l) (m-l),by rw[fR];simp only[Instr.slice,Sem.run_bind,run_underlying ht,Result.andThen_ok,hb,qH hi,Sem.run_pure];rw[gF],lc,_,lh,rfl,?_⟩;have c1:m<=len:=by rcases Zy (show qJ (some z) len len=some m from hm)with ⟨_,x⟩|x<;>omega
    have c2:hq<=m:=by
     rcases Zy jd with ⟨e,x⟩|x
     .exact absurd (by rw[e];rfl) ai
     .exact x
    have c3:l<=hq:=by rcases Zy hl with ⟨_,x⟩|x<;>omega
    by_cases fZ:m=l
    .right;omega
    .left;rw[if_neg fZ,if_neg fZ];rcases hf with rfl|hz
     .simp[Zl,Nat.add_assoc]
     .omega
  .simp only[Option.bind_eq_some_iff]at hv;obtain⟨hq,jd,l,hl,hv⟩:=hv;cases hv;have Dg:l<=hq:=by rcases Zy hl with ⟨_,x⟩|x<;>omega
   have l6:hq<=len:=by rcases Zy jd with ⟨_,x⟩|x<;>omega
   have hb:=Qt (P:=P) (w:=w) (sl:=true) (cap:=cp) (m:=cp) h1 h2 h3 rfl (zEO jd hle) hl (λe=>by cases e.2) (λ_=>rfl);refine⟨_,by rw[fR];simp only[Instr.slice,Sem.run_bind,run_underlying ht,Result.andThen_ok,hb,qH hi,Sem.run_pure];rfl,lc,cp-l,if cp=l then f else f+l*i.size,lh,?_,by omega,?_,?_⟩
   .split
    .rfl
    .simp[Zl]
   .rcases hf with rfl|⟨hz,cU,cK⟩
    .by_cases eB:cp=l
     .rw[if_pos eB];by_cases ho:off+l*i.size=0
      .left;omega
      .right;exact⟨by omega,ho,by omega⟩
     .rw[if_neg eB];left;omega
    .right;exact⟨by omega,by omega,by omega⟩
   .intro ho s6;have aF:g=i.size:=by
     by_cases x:g=i.size
     .exact x
     .rw[if_neg x]at s6;exact absurd rfl s6
    rw[if_pos aF]at s6 ⊢;subst aF;have vw:f=lc.base+off:=by
     rcases hf with x|⟨_,x,y⟩
     .exact x
     .subst y;have x6:l=0:=by omega
      subst x6;rw[if_pos rfl,Nat.zero_mul,Nat.add_zero]at ho;exact ho
    have h3:=aS vw s6;have h4:(cp-l)*i.size+l*i.size=cp*i.size:=by rw[<-Nat.add_mul];congr 1;omega
    omega
 .simp only[Option.bind_eq_some_iff]at hv;obtain⟨m,hm,hq,jd,l,hl,hv⟩:=hv;split at hv
  .cases hv
  .rename_i ai;cases hv;rw[show c=_ from hc];have hb:=Qt (P:=P) (w:=w) (sl:=true) h1 h2 h3 hm jd hl ai (λe=>by subst e;cases hm;rfl);refine⟨_,by rw[fR];simp only[Instr.slice,Sem.run_bind,run_underlying ht,Result.andThen_ok,hb,qH hi,Sem.run_pure];rfl,?_⟩;have z1:m=0:=by rcases Zy hm with ⟨_,x⟩|x<;>omega
   have z2:hq=0:=by rcases Zy jd with ⟨_,x⟩|x<;>omega
   have z3:l=0:=by rcases Zy hl with ⟨_,x⟩|x<;>omega
   subst z1;subst z2;subst z3;rfl
 .cases hv
end Go.Ab
set_option linter.unusedSimpArgs false
set_option linter.unusedVariables false
namespace Go.Ab
open Go.RowKit
variable{P:Program}{B:Nat}{w0 w:World}{j:Inj}{h:AHeap}{nt:Nat}{e:Env}{a:Act}
theorem zEH:∀(l:List Value) (off k:Nat) (cells:Array Value),off+k+l.length<=cells.size->
  ((l.zipIdx k).foldl (λcs (x:Value×Nat)=>cs.setIfInBounds (off+x.2) x.1) cells).toList=cells.toList.take (off+k)++l++cells.toList.drop (off+k+l.length)
 |[],off,k,cells,_=>by simp
 |v::l,off,k,cells,hl=>by
  simp only[List.zipIdx_cons,List.foldl_cons];have ag:off+k<cells.size:=by simp at hl;omega
  rw[zEH l off (k+1) _ (by simp at hl ⊢;omega)];have aG:off+k<cells.toList.length:=by simpa using ag
  have e1:(cells.toList.set (off+k) v).take (off+(k+1))=cells.toList.take (off+k)++[v]:=by
   rw[<-Nat.add_assoc,List.take_succ_eq_append_getElem (by simpa using aG),List.take_set_of_le (vM _)];simp
  have e2:(cells.toList.set (off+k) v).drop (off+(k+1)+l.length)=cells.toList.drop (off+k+(l.length+1)):=by
   rw[List.drop_set_of_lt (by omega)];congr 1;omega
  simp only[Array.toList_setIfInBounds,List.length_cons,e1,e2];simp
theorem zAQ{place:Nat->Option (Nat×Nat)}:∀(ps:List (Nat×Operand)) (qs:List (Nat×Nat×AV)) (cells:List AV) (cs:Array Value) (ρ:Operand->Value) (out:List AV),
  VIs j cells cs.toList->cells.all AV.one=true->afill cells qs=some out->ps.length=qs.length->(∀(k:Nat) (p:Nat×Operand) (q:Nat×Nat×AV),ps[k]? = some p->qs[k]? = some q->place p.1=some (q.1,q.2.1)/\VI j q.2.2 (ρ p.2))->
  ∃r,Instr.fill place cs (ps.map λp=>(p.1,ρ p.2))=some r/\VIs j out r.toList/\out.all AV.one=true
 |[],qs,cells,cs,ρ,out,hc,ho,hf,hl,_=>by
  cases qs with
  |nil=>cases hf;exact⟨cs,rfl,hc,ho⟩
  |cons _ _=>simp at hl
 |p::ps,[],cells,cs,ρ,out,hc,ho,hf,hl,_=>by simp at hl
 |p::ps,(off,size,v)::qs,cells,cs,ρ,out,hc,ho,hf,hl,hp=>by
  obtain⟨h1,h2⟩:=hp 0 p (off,size,v) (by simp) (by simp);simp only[afill]at hf;split at hf
  .rename_i hb;obtain⟨b1,b2,b3⟩:=hb;have hv:=VI.cells h2 b3;have gA:=hv.length;have eB:=hc.length;have fx:¬((ρ p.2).cells.size≠size\/off+(ρ p.2).cells.size > cs.size):=by
    simp at gA eB;omega
   have jK:VIs j (cells.take off++v.cells++cells.drop (off+size)) (((ρ p.2).cells.zipIdx.foldl (λcs (x:Value×Nat)=>cs.setIfInBounds (off+x.2) x.1) cs).toList):=by
    have hz:((ρ p.2).cells.zipIdx.foldl (λcs (x:Value×Nat)=>cs.setIfInBounds (off+x.2) x.1) cs)=(((ρ p.2).cells.toList.zipIdx 0).foldl (λcs (x:Value×Nat)=>cs.setIfInBounds (off+x.2) x.1) cs):=by
     rw[<-Array.foldl_toList,Array.toList_zipIdx]
    rw[hz,zEH _ off 0 cs (by simp at gA eB ⊢;omega)];rw[<-gA,b1];simpa using ((hc.take off).append hv).append (hc.drop (off+size))
   have aK:(cells.take off++v.cells++cells.drop (off+size)).all AV.one=true:=by
    rw[List.all_eq_true]at ho b3 ⊢;intro x hx;simp only[List.mem_append]at hx;rcases hx with (hx|hx)|hx
    .exact ho x (List.mem_of_mem_take hx)
    .exact b3 x hx
    .exact ho x (List.mem_of_mem_drop hx)
   obtain⟨r,hr,h3,h4⟩:=zAQ ps qs _ _ ρ out jK aK hf (by simpa using hl) (λk p' q' a b=>hp (k+1) p' q' (by simpa using a) (by simpa using b));refine⟨r,?_,h3,h4⟩;simp only[List.map_cons,Instr.fill,h1];rw[if_neg (by simpa using fx)];exact hr
  .cases hf
theorem zDd(r:ER nt j e a){fields:Array Field}:∀{ps:List (Nat×Operand)} {qs:List (Nat×Nat×IX)},zDe P fields ps=some qs->
  ps.length=qs.length/\∀(k:Nat) (p:Nat×Operand) (q:Nat×Nat×AV),ps[k]? = some p->(qs.map λq=>(q.1,q.2.1,q.2.2.ev e))[k]? = some q->
   ((fields.map λf=>(f.offset,P.cellsOf f.type))[p.1]?)=some (q.1,q.2.1)/\VI j q.2.2 (a.eval p.2)
 |[],qs,hq=>by cases hq;exact⟨rfl,λk p q hp=>by simp at hp⟩
 |(i,x)::ps,qs,hq=>by
  simp only[zDe,Option.bind_eq_some_iff]at hq;obtain⟨f,hf,fi,Bk,ix,hx,tI,ja,hq⟩:=hq;cases hq;obtain⟨h1,h2⟩:=zDd r ja;refine⟨by simp[h1],λk p q hp hq=>?_⟩;cases k with
  |zero=>
   simp at hp hq;subst hp;subst hq;exact⟨by simp[hf,Program.cellsOf,Bk],zK r hx⟩
  |succ k=>exact h2 k p q (by simpa using hp) (by simpa using hq)
theorem zFX:∀(fs:List Field),fs.all (λf=>(P.info? f.type).isSome)=true->
  (fs.mapM λf=>(do pure (f.offset,<-sizeOf f.type):Sem (Nat×Nat))).run P w=.ok (fs.map λf=>(f.offset,P.cellsOf f.type)) w
 |[],_=>by simp
 |f::fs,ri=>by
  simp only[List.all_cons,Bool.and_eq_true]at ri;obtain⟨i,hi⟩:=Option.isSome_iff_exists.1 ri.1;have ih:=zFX fs ri.2;simp only[List.mapM_cons,Sem.run_bind,qH hi,Result.andThen_ok,Sem.run_pure,List.map_cons];rw[ih];simp[Program.cellsOf,hi]
theorem zKC(r:ER nt j e a){t:TypeId}{fields:Array Field}{z:Array Value}{ps:Array (Nat×Operand)}{qs:List (Nat×Nat×IX)}{zs out:List AV}{i:TypeInfo}
  (ht:P.underlying t=some (.struct fields)) (hi:P.info? t=some i) (hz:i.zero=some (.agg z)) (ah:fields.toList.all (λf=>(P.info? f.type).isSome)=true)
  (cR:ZL z.toList=some zs) (uI:zDe P fields ps.toList=some qs) (hv:afill zs (qs.map λq=>(q.1,q.2.1,q.2.2.ev e))=some out):
  Runs P (Instr.build t (ps.map λ(i,x)=>(i,a.eval x))) w j (.agg out):=by
 obtain⟨h1,h2⟩:=zDd r uI;obtain⟨z1,z2⟩:=ZP (j:=j) cR;obtain⟨res,hr,h3,_⟩:=zAQ (place:=λk=>(fields.map λf=>(f.offset,P.cellsOf f.type))[k]?) ps.toList _ zs z a.eval out z1 z2 hv (by simpa using h1) h2;refine⟨.agg res,?_,_,h3,by simp⟩;have hm:(fields.mapM λf=>(do pure (f.offset,<-sizeOf f.type):Sem (Nat×Nat))).run P w=.ok (fields.map λf=>(f.offset,P.cellsOf f.type)) w:=by
  rw[Array.mapM_eq_mapM_toList];simp only[Sem.run_map];rw[zFX _ ah];simp only[Result.andThen_ok,Result.ok.injEq,and_true];apply Array.ext';simp
 have dq:(ps.map λ(i,x)=>(i,a.eval x)).toList=ps.toList.map λp=>(p.1,a.eval p.2):=by simp
 simp only[Instr.build,Sem.run_bind,zeroValue,typeInfo,hi,hz,run_program,Result.andThen_ok,Sem.run_pure,run_underlying ht,hm,dq,Value.cells];rw[hr];simp
theorem zEY(r:ER nt j e a){size:Nat}:∀{ps:List (Nat×Operand)} {qs:List (Nat×Nat×IX)},carts size ps=some qs->ps.length=(qs.map λp=>(p.1,p.2.1,p.2.2.ev e)).length/\
  ∀(k:Nat) (p:Nat×Operand) (q:Nat×Nat×AV),ps[k]? = some p->(qs.map λq=>(q.1,q.2.1,q.2.2.ev e))[k]? = some q->(some (p.1*size,size))=some (q.1,q.2.1)/\VI j q.2.2 (a.eval p.2)
 |[],qs,hq=>by cases hq;exact⟨rfl,λk p q hp=>by simp at hp⟩
 |(n,x)::ps,qs,hq=>by
  simp only[carts,Option.bind_eq_some_iff]at hq;obtain⟨ix,hx,tI,jF,hq⟩:=hq;cases hq;obtain⟨i1,i2⟩:=zEY r jF;refine⟨by simp at i1 ⊢;exact i1,λk p q hp hq=>?_⟩;cases k with
  |zero=>simp at hp hq;subst hp;subst hq;exact⟨rfl,zK r hx⟩
  |succ k=>exact i2 k p q (by simpa using hp) (by simpa using hq)
theorem zIi(r:ER nt j e a){t et:TypeId}{len:Nat}{z:Array Value}{ps:Array (Nat×Operand)}{qs:List (Nat×Nat×IX)}{zs out:List AV}{i i2:TypeInfo}
  (ht:P.underlying t=some (.array len et)) (hi:P.info? t=some i) (hz:i.zero=some (.agg z)) (kG:P.info? et=some i2)
  (cR:ZL z.toList=some zs) (uI:carts i2.size ps.toList=some qs) (hv:afill zs (qs.map λq=>(q.1,q.2.1,q.2.2.ev e))=some out):
  Runs P (Instr.build t (ps.map λ(i,x)=>(i,a.eval x))) w j (.agg out):=by
 obtain⟨h1,h2⟩:=zEY r uI;obtain⟨z1,z2⟩:=ZP (j:=j) cR;obtain⟨res,hr,h3,_⟩:=zAQ (place:=λk=>some (k*i2.size,i2.size)) ps.toList _ zs z a.eval out z1 z2 hv h1 h2;refine⟨.agg res,?_,_,h3,by simp⟩;have dq:(ps.map λ(i,x)=>(i,a.eval x)).toList=ps.toList.map λp=>(p.1,a.eval p.2):=by simp
 simp only[Instr.build,Sem.run_bind,zeroValue,typeInfo,hi,hz,run_program,Result.andThen_ok,Sem.run_pure,run_underlying ht,qH kG,dq,Value.cells];rw[hr];simp
theorem zGD{t:TypeId}(ht:P.underlying t=some .string){x:AV}{lo hh:Option AV}{c:Value}{clo iE:Option Value}{v:AV}
  (hc:VI j x c) (h1:OB j lo clo) (h2:OB j hh iE) (hv:zA1 x lo hh=some v):Runs P (Instr.sliceAt t c clo iE none) w j v:=by
 have fR:(Instr.sliceAt t c clo iE none).run P w=(Instr.slice t c clo iE none).run P w:=by simp[Instr.sliceAt,run_underlying ht]
 unfold zA1 at hv;split at hv
 .rename_i s;simp only[Option.bind_eq_some_iff]at hv;obtain⟨hq,jd,l,hl,hv⟩:=hv;cases hv;rw[show c=_ from hc]at fR ⊢;have cV:(⟨s.toArray⟩:ByteArray).size=s.length:=by simp[ByteArray.size]
  have hb:=Qt (P:=P) (w:=w) (sl:=false) (mx:=none) (cmx:=none) (cap:=s.length) (m:=s.length) h1 h2 trivial rfl jd hl (λe=>by cases e.2) (λ_=>rfl);refine⟨_,by rw[fR];simp only[Instr.slice,Sem.run_bind,run_underlying ht,Result.andThen_ok,cV,Option.isSome,Bool.false_eq_true,if_false,Sem.run_pure,hb];rfl,?_⟩;show Value.string _=Value.string _;congr 1;apply ByteArray.ext;apply Array.ext';simp[ByteArray.data_extract,Array.toList_extract,List.drop_take]
 .cases hv
theorem zGV{t:TypeId}(ht:P.underlying t=some .string){s:List UInt8}{k:IntKind}{n:Int}{c:Value}{v:AV}(hc:VI j (.str s) c)
  (hv:(if 0<=n then(s[n.toNat]?).map λc=>AV.int .u8 c.toNat else none)=some v):Runs P (Instr.index t c (.int k n)) w j v:=by
 rw[show c=_ from hc];split at hv
 .rename_i h0;simp only[Option.map_eq_some_iff]at hv;obtain⟨b,hb,rfl⟩:=hv;refine⟨_,?_,rfl⟩
  have:(⟨s.toArray⟩:ByteArray)[n.toNat]? = some b:=by
   have ag:=(List.getElem?_eq_some_iff.1 hb).1;rw[getElem?_pos (c:=(⟨s.toArray⟩:ByteArray)) (i:=n.toNat) (h:=by simpa [ByteArray.size]using ag)];congr 1;exact(List.getElem?_eq_some_iff.1 hb).2
  simp[Instr.index,asIntOf,run_underlying ht,h0,this]
 .cases hv
theorem OB.of(r:ER nt j e a){x:Option Operand}{ix:Option IX}(hx:cxo x=some ix):OB j (ix.map (·.ev e)) (x.map a.eval):=by
 rcases zNq r hx with ⟨rfl,rfl⟩|⟨y,iy,rfl,rfl,hv⟩
 .trivial
 .exact hv
theorem zLp(m:MR B w0 j h w)(r:ER nt j e a){o:Oper}{io:IOp}(hc:copQ P o.op=some io){nb:Nat}{v:AV}(hv:qv nb io e h=some v):
  ∃cv,(execOp a.eval o).run P w=.ok (.value cv) w/\VI j v cv:=by
 obtain⟨dst,op,ty,pos,after,guard⟩:=o;have fin:∀{s:Sem Value},Runs P s w j v->∃cv,(do pure (.value (<-s)):Sem Next).run P w=.ok (.value cv) w/\VI j v cv:=by
  rintro s ⟨cv,h1,h2⟩
  exact⟨cv,by simp[h1],h2⟩
 cases op<;>simp only[copQ]at hc<;>(try (cases hc;done))
 case move x=>
  simp only[Option.map_eq_some_iff]at hc;obtain⟨ix,hx,rfl⟩:=hc;cases hv;exact⟨_,rfl,zK r hx⟩
 case assign x=>
  simp only[Option.map_eq_some_iff]at hc;obtain⟨ix,hx,rfl⟩:=hc;cases hv;exact⟨_,rfl,zK r hx⟩
 case pick c x y=>
  simp only[Option.bind_eq_some_iff]at hc;obtain⟨ic,vj,ix,hx,iy,hy,hc⟩:=hc;cases hc;simp only[qv,aPick,aConv,aNil,ZY,qZ,ZO,ZT,qy,aLen,ZR,aCap,ZH,ldv]at hv;split at hv
  .rename_i t ht;have hb:=zK r vj;rw[ht]at hb;cases hv;cases t with
   |true=>exact⟨_,by simp[execOp,show a.eval c=_ from hb,asBool],zK r hx⟩
   |false=>exact⟨_,by simp[execOp,show a.eval c=_ from hb,asBool],zK r hy⟩
  .cases hv
 case binOp DP xt x y yt=>
  simp only[Option.bind_eq_some_iff]at hc;obtain⟨ix,hx,iy,hy,hc⟩:=hc;cases hc;simp only[qv,aPick,aConv,aNil,ZY,qZ,ZO,ZT,qy,aLen,ZR,aCap,ZH,ldv]at hv;obtain⟨hr,hp⟩:=zL0 (P:=P) (w:=w) hv (zK r hx) (zK r hy);obtain⟨cv,h1,h2⟩:=hr;rcases hp with hp|⟨hp,xs,ys,e1,e2⟩
  .exact⟨cv,by simp[execOp,zHF hp,h1],h2⟩
  .rw[e1,e2]at h1;exact⟨cv,by simp[execOp,e1,e2,run_eqGuard_agg _ _ _ _ _ _ _ hp,h1],h2⟩
 case unOp CK xt x=>
  simp only[Option.map_eq_some_iff]at hc;obtain⟨ix,hx,rfl⟩:=hc;exact fin (zNv hv (zK r hx))
 case convert s d x=>
  split at hc
  .rename_i k0 k hs hd;simp only[Option.map_eq_some_iff]at hc;obtain⟨ix,hx,rfl⟩:=hc;simp only[qv,aPick,aConv,aNil,ZY,qZ,ZO,ZT,qy,aLen,ZR,aCap,ZH,ldv]at hv;split at hv
   .rename_i k1 n hn
    have:=zK r hx
    rw[hn]at this;cases hv;refine fin ⟨_,?_,rfl⟩;simp[convert,run_underlying hs,run_underlying hd,show a.eval x=_ from this,Conv.intToInt]
   .cases hv
  .cases hc
 case nilCheck x=>
  simp only[Option.map_eq_some_iff]at hc;obtain⟨ix,hx,rfl⟩:=hc;simp only[qv,aPick,aConv,aNil,ZY,qZ,ZO,ZT,qy,aLen,ZR,aCap,ZH,ldv]at hv
  have:=zK r hx
  split at hv
  .rename_i o i hn;rw[hn]at this;cases hv;obtain⟨l,hl,bW⟩:=this;exact⟨_,by simp[execOp,bW],l,hl,rfl⟩
  .rename_i f x' y' hn;rw[hn]at this;cases hv;obtain⟨vs,us,h1,h2,bW⟩:=this;exact⟨_,by simp[execOp,bW],vs,us,h1,h2,rfl⟩
  .cases hv
 case build t ps=>
  split at hc
  .rename_i fields z ht hz;split at hc
   .rename_i ah;simp only[Option.bind_eq_some_iff]at hc hz;obtain⟨zs,cR,qs,ja,hc⟩:=hc;obtain⟨i,hi,hz⟩:=hz;cases hc;simp only[qv,Option.map_eq_some_iff]at hv;obtain⟨out,ho,rfl⟩:=hv;exact fin (zKC r ht hi hz ah cR ja ho)
   .cases hc
  .rename_i len et z ht hz;simp only[Option.bind_eq_some_iff]at hc hz;obtain⟨i2,kG,zs,cR,qs,ja,hc⟩:=hc;obtain⟨i,hi,hz⟩:=hz;cases hc;simp only[qv,Option.map_eq_some_iff]at hv;obtain⟨out,ho,rfl⟩:=hv;exact fin (zIi r ht hi hz kG cR ja ho)
  .cases hc
 case load t x=>
  split at hc
  .rename_i d i hd hi;simp only[Option.map_eq_some_iff]at hc;obtain⟨ix,hx,rfl⟩:=hc;simp only[qv,aPick,aConv,aNil,ZY,qZ,ZO,ZT,qy,aLen,ZR,aCap,ZH,ldv]at hv;split at hv
   .rename_i o k hn
    have:=zK r hx
    rw[hn]at this;exact fin (zFY m hd hi this hv)
   .cases hv
  .cases hc
 case makeFunc fn first cg=>
  cases fn<;>simp only at hc<;>(try (cases hc;done))
  rename_i f;simp only[Option.bind_eq_some_iff]at hc;obtain⟨x1,eX,x2,oV,hc⟩:=hc;cases hc;cases hv;refine fin ⟨.func (.func f) (first.map a.eval) (cg.map a.eval),by simp[Instr.makeFunc],_,_,zAz r eX,zAz r oV,?_⟩;congr 1<;>(apply Array.ext';simp)
 case slice t x lo hi mx=>
  split at hc
  .rename_i et ht;simp only[Option.bind_eq_some_iff]at hc;obtain⟨i,gQ,ix,hx,l1,u7,l2,jq,l3,pY,hc⟩:=hc;cases hc;exact fin (zI3 ht gQ (zK r hx) (OB.of r u7) (OB.of r jq) (OB.of r pY) hv)
  .rename_i ht;simp only[Option.bind_eq_some_iff]at hc;obtain⟨ix,hx,l1,u7,l2,jq,hc⟩:=hc;split at hc
   .cases hc;exact fin (zGD ht (zK r hx) (OB.of r u7) (OB.of r jq) hv)
   .cases hc
  .cases hc
 case fieldAddr t x f=>
  split at hc
  .rename_i fields ht;simp only[Option.bind_eq_some_iff]at hc;obtain⟨fd,hf,i,hi,hc⟩:=hc;split at hc
   .cases hc
   .rename_i ai;simp only[Option.map_eq_some_iff]at hc;obtain⟨ix,hx,rfl⟩:=hc;simp only[qv,aPick,aConv,aNil,ZY,qZ,ZO,ZT,qy,aLen,ZR,aCap,ZH,ldv]at hv;split at hv
    .rename_i o k hn
     have:=zK r hx
     rw[hn]at this;cases hv;exact fin (zFj ht hf hi ai this)
    .cases hv
  .cases hc
 case field t x f=>
  split at hc
  .rename_i fields ht;simp only[Option.bind_eq_some_iff]at hc;obtain⟨fd,hf,hc⟩:=hc;split at hc
   .rename_i d i hd hi;simp only[Option.map_eq_some_iff]at hc;obtain⟨ix,hx,rfl⟩:=hc;simp only[qv,aPick,aConv,aNil,ZY,qZ,ZO,ZT,qy,aLen,ZR,aCap,ZH,ldv]at hv;split at hv
    .rename_i cs hn
     have:=zK r hx
     rw[hn]at this;exact fin (zJ6 ht hf hd hi this hv)
    .cases hv
   .cases hc
  .cases hc
 case indexAddr t x ix=>
  split at hc
  .rename_i et ht;simp only[Option.bind_eq_some_iff]at hc;obtain⟨i,hi,x1,eX,x2,oV,hc⟩:=hc;cases hc;simp only[qv,aPick,aConv,aNil,ZY,qZ,ZO,ZT,qy,aLen,ZR,aCap,ZH,ldv]at hv;split at hv
   .rename_i o off len cap k n h1 h2;have q1:=zK r eX;have q2:=zK r oV;rw[h1]at q1;rw[h2]at q2;split at hv
    .rename_i hb;cases hv;refine fin ?_;rw[show a.eval ix=Value.int k n from q2];exact zFh ht hi q1 hb.1 hb.2
    .cases hv
   .cases hv
  .rename_i len et ht;split at hc
   .rename_i ik n;simp only[Option.bind_eq_some_iff]at hc;obtain⟨i,hi,hc⟩:=hc;split at hc
    .rename_i hb;simp only[Option.map_eq_some_iff]at hc;obtain⟨x1,eX,rfl⟩:=hc;simp only[qv,aPick,aConv,aNil,ZY,qZ,ZO,ZT,qy,aLen,ZR,aCap,ZH,ldv]at hv;split at hv
     .rename_i o k hn;have q1:=zK r eX;rw[hn]at q1;cases hv;exact fin (zFw ht hi q1 hb.1 hb.2)
     .cases hv
    .cases hc
   .cases hc
  .cases hc
 case index t x ix=>
  split at hc
  .rename_i ht;simp only[Option.bind_eq_some_iff]at hc;obtain⟨x1,eX,x2,oV,hc⟩:=hc;cases hc;simp only[qv,aPick,aConv,aNil,ZY,qZ,ZO,ZT,qy,aLen,ZR,aCap,ZH,ldv]at hv;split at hv
   .rename_i s k n h1 h2;have q1:=zK r eX;have q2:=zK r oV;rw[h1]at q1;rw[h2]at q2;refine fin ?_;rw[show a.eval ix=Value.int k n from q2];exact zGV ht q1 hv
   .cases hv
  .cases hc
 case extract x i=>
  simp only[Option.map_eq_some_iff]at hc;obtain⟨ix,hx,rfl⟩:=hc;simp only[qv,aPick,aConv,aNil,ZY,qZ,ZO,ZT,qy,aLen,ZR,aCap,ZH,ldv]at hv;split at hv
  .rename_i vs hn
   have:=zK r hx
   rw[hn]at this;obtain⟨cs,fa,bW⟩:=this;obtain⟨cv,h1,h2⟩:=fa.get hv;exact fin ⟨cv,by simp[bW,Instr.extract,h1],h2⟩
  .cases hv
 case call c=>
  obtain⟨callee,args,argTypes⟩:=c;cases callee<;>simp only at hc<;>(try (cases hc;done))
  rename_i b;split at hc<;>(try (cases hc;done))
  .rename_i x t aM gD;have e1:args = #[x]:=by rw[<-Array.toArray_toList (xs:=args),aM]
   have e2:argTypes = #[t]:=by rw[<-Array.toArray_toList (xs:=argTypes),gD]
   clear aM gD;subst e1;subst e2;split at hc<;>(try (cases hc;done))
   .rename_i et ht;simp only[Option.map_eq_some_iff]at hc;obtain⟨ix,hx,rfl⟩:=hc
    have:=zK r hx
    simp only[qv,aPick,aConv,aNil,ZY,qZ,ZO,ZT,qy,aLen,ZR,aCap,ZH,ldv]at hv;split at hv
    .rename_i o off n cap hn;rw[hn]at this;cases hv;obtain⟨y,q1,q2⟩:∃y q1,a.eval x=.slice (some y) n q1:=by
      cases cap with
      |known q=>obtain⟨l,_,hl,bW,_⟩:=this;exact⟨_,_,bW⟩
      |grown q=>obtain⟨l,cc,ff,hl,bW,_⟩:=this;exact⟨_,_,bW⟩
     exact⟨.int .i64 n,by simp[execOp,resolve,invoke,builtin,q2,Builtin.len_,run_underlying ht,goInt],rfl⟩
    .rename_i hn;rw[hn]at this;cases hv;exact⟨.int .i64 0,by simp[execOp,resolve,invoke,builtin,show a.eval x=_ from this,Builtin.len_,run_underlying ht,goInt],rfl⟩
    .cases hv
   .rename_i ht;simp only[Option.map_eq_some_iff]at hc;obtain⟨ix,hx,rfl⟩:=hc
    have:=zK r hx
    simp only[qv,aPick,aConv,aNil,ZY,qZ,ZO,ZT,qy,aLen,ZR,aCap,ZH,ldv]at hv;split at hv
    .rename_i s hn;rw[hn]at this;cases hv;have cV:(⟨s.toArray⟩:ByteArray).size=s.length:=by simp[ByteArray.size]
     exact⟨.int .i64 s.length,by simp[execOp,resolve,invoke,builtin,show a.eval x=_ from this,Builtin.len_,run_underlying ht,goInt,cV],rfl⟩
    .cases hv
  .rename_i x t aM gD;have e1:args = #[x]:=by rw[<-Array.toArray_toList (xs:=args),aM]
   have e2:argTypes = #[t]:=by rw[<-Array.toArray_toList (xs:=argTypes),gD]
   clear aM gD;subst e1;subst e2;split at hc<;>(try (cases hc;done))
   rename_i et ht;simp only[Option.map_eq_some_iff]at hc;obtain⟨ix,hx,rfl⟩:=hc
   have:=zK r hx
   simp only[qv,aPick,aConv,aNil,ZY,qZ,ZO,ZT,qy,aLen,ZR,aCap,ZH,ldv]at hv;split at hv
   .rename_i o off n q hn;rw[hn]at this;cases hv;obtain⟨l,hl,bW⟩:=this;exact⟨.int .i64 q,by simp[execOp,resolve,invoke,builtin,bW,Builtin.cap_,run_underlying ht,goInt],rfl⟩
   .rename_i hn;rw[hn]at this;cases hv;exact⟨.int .i64 0,by simp[execOp,resolve,invoke,builtin,show a.eval x=_ from this,Builtin.cap_,run_underlying ht,goInt],rfl⟩
   .cases hv
  .rename_i x y t t' aM gD;have e1:args = #[x,y]:=by rw[<-Array.toArray_toList (xs:=args),aM]
   clear aM gD;subst e1;split at hc<;>(try (cases hc;done))
   rename_i et ht;simp only[Option.bind_eq_some_iff]at hc;obtain⟨ix,hx,iy,hy,hc⟩:=hc;cases hc;have q1:=zK r hx;have q2:=zK r hy;simp only[qv,aPick,aConv,aNil,ZY,qZ,ZO,ZT,qy,aLen,ZR,aCap,ZH,ldv]at hv;split at hv
   .rename_i k n k' n' h1 h2;rw[h1]at q1;rw[h2]at q2;split at hv
    .rename_i ek;subst ek;cases hv;refine⟨.int k (max n n'),?_,rfl⟩;simp only[execOp,resolve,invoke,builtin];simp[show a.eval x=_ from q1,show a.eval y=_ from q2,Builtin.max_,Builtin.max2,Int.max_def];split<;>split<;>omega
    .cases hv
   .cases hv
  .rename_i x y t t' aM gD;have e1:args = #[x,y]:=by rw[<-Array.toArray_toList (xs:=args),aM]
   clear aM gD;subst e1;split at hc<;>(try (cases hc;done))
   rename_i et ht;simp only[Option.bind_eq_some_iff]at hc;obtain⟨ix,hx,iy,hy,hc⟩:=hc;cases hc;have q1:=zK r hx;have q2:=zK r hy;simp only[qv,aPick,aConv,aNil,ZY,qZ,ZO,ZT,qy,aLen,ZR,aCap,ZH,ldv]at hv;split at hv
   .rename_i k n k' n' h1 h2;rw[h1]at q1;rw[h2]at q2;split at hv
    .rename_i ek;subst ek;cases hv;refine⟨.int k (min n n'),?_,rfl⟩;simp only[execOp,resolve,invoke,builtin];simp[show a.eval x=_ from q1,show a.eval y=_ from q2,Builtin.min_,Builtin.min2,Int.min_def];split<;>split<;>omega
    .cases hv
   .cases hv
end Go.Ab
set_option linter.unusedSimpArgs false
set_option linter.unusedVariables false
namespace Go.Ab
open Go.RowKit
def zAU(size:Nat):List (Nat×Operand)->Option (List (Nat×Nat×IX))
 |[]=>some []
 |(i,x)::r=>(cx x).bind λa=>(zAU size r).bind λb=>some ((i*size,size,a)::b)
def zD3(P:Program)(c:Call):Option IOp:=
 match c.callee with
 | .builtin b=>match b,c.args.toList,c.argTypes.toList with
  | .append,[s,x],[t,t']=>match P.underlying t with
   |some (.slice et)=>if t=t' then(P.info? et).bind λi=>i.zero.bind λz=>(cx s).bind λs=>(cx x).bind λx=>
     if z.cells.size=i.size/\i.size≠0 then some (.append i.size i.bytes s x)else none else
    match P.underlying t' with
    |some (.int _)=>(P.info? et).bind λi=>i.zero.bind λz=>(ZL z.cells.toList).bind λzs=>(cx s).bind λs=>(cx x).bind λx=>
     if zs.length=i.size/\i.size≠0 then some (.appendMk i.size i.bytes zs s x)else none
    |_=>none
   |_=>none
  | .copy,[d,s],[t,_]=>match P.underlying t with
   |some (.slice et)=>(P.info? et).bind λi=>(cx d).bind λd=>(cx s).bind λs=>some (.copy i.size d s)
   |_=>none
  |_,_,_=>none
 | .value (.func f)=>if okF P f=true then(cxs c.args.toList).map (.call f)else none
 | .value (.tmp t)=>(cxs c.args.toList).map (.callV (.t t))
 |_=>none
def copE(P:Program):Op->Option IOp
 | .alloc t=>((P.info? t).bind (·.zero)).bind λz=>(ZL z.cells.toList).map .alloc
 | .box _ x=>(cx x).map .box
 | .buildSlice t len ps=>match P.underlying t with
  |some (.slice et)=>(P.info? et).bind λi=>i.zero.bind λz=>(ZL z.cells.toList).bind λzs=>(zAU i.size ps.toList).bind λqs=>
   if zs.length=i.size/\i.size≠0/\len*i.size<=16777216 then some (.buildSl i.size len zs qs)else none
  |_=>none
 | .store t x v=>(P.info? t).bind λi=>(cx x).bind λx=>(cx v).bind λv=>some (.store i.size x v)
 | .makeSlice t l c=>match P.underlying t with
  |some (.slice et)=>(P.info? et).bind λi=>i.zero.bind λz=>(ZL z.cells.toList).bind λzs=>(cx l).bind λl=>(cx c).bind λc=>
   if zs.length=i.size/\i.size≠0 then some (.makeSl i.size i.bytes zs l c)else none
  |_=>none
 | .call c=>zD3 P c
 |_=>none
def eff(P:Program)(op:IOp)(e:Env)(h:AHeap)(K:AV->AHeap->Prop):Prop:=
 match op with
 | .alloc z=>K (.ptr h.next 0) (h.new ⟨true,z⟩)
 | .box x=>(x.ev e).cells.all AV.one=true/\K (.ptr h.next 0) (h.new ⟨true,(x.ev e).cells⟩)
 | .buildSl sz len z ps=>optK (afill (zeros z len) (ps.map λp=>(p.1,p.2.1,p.2.2.ev e))) λcs=>K (.sl h.next 0 len (.known len)) (h.new ⟨true,cs⟩)
 | .store n x v=>match x.ev e with
  | .ptr o i=>(v.ev e).cells.length=n/\optK (h.wr o i (v.ev e).cells) λh'=>K .undef h'
  |_=>False
 | .makeSl sz bytes z l c=>match l.ev e,c.ev e with
  | .int _ l,.int _ c=>(0<=l/\l<=c/\c*bytes<=140737488355328/\c<=9223372036854775807)/\K (.sl h.next 0 l.toNat (.known c.toNat)) (h.new ⟨true,zeros z c.toNat⟩)
  |_,_=>False
 | .append sz bytes s x=>optK (zBW sz bytes h (s.ev e) (x.ev e)) λp=>K p.1 p.2
 | .appendMk sz bytes z s n=>match s.ev e,n.ev e with
  | .nils,.int _ n=>(0<=n/\n*bytes<=140737488355328/\n<=4611686018427387904)/\if 0<n then K (.sl h.next 0 n.toNat (.grown sz)) (h.new ⟨true,zeros z n.toNat⟩)else K .nils h
  | .sl o off len c,.int _ n=>(0<=n/\n*bytes<=140737488355328/\n<=4611686018427387904)/\optK (if 0<n then agrow sz bytes h (.sl o off len c) (zeros z n.toNat) n.toNat else(asame (.sl o off len c)).map λv=>(v,h)) λp=>K p.1 p.2
  |_,_=>False
 | .copy sz d s=>optK (acopy sz h (d.ev e) (s.ev e)) λp=>K p.1 p.2
 | .call f args=>ZK P f (args.map (·.ev e)) h K
 | .callV f args=>match f.ev e with
  | .clo f first cg=>okF P f=true/\ZK P f (first++args.map (·.ev e)++cg) h K
  |_=>False
 |_=>False
variable{P:Program}{B:Nat}{w0 w:World}{j:Inj}{h:AHeap}{nt:Nat}{e:Env}{a:Act}
def Ends(P:Program)(s:Sem Next)(w:World)(B:Nat)(w0:World)(j:Inj)(h:AHeap)(K:AV->AHeap->Prop):Prop:=
 ∃v h' j' cv w',(s.run P w=.ok (.value cv) w'\/(s.run P w=.ok .skip w'/\cv=undef))/\FR j h j' h'/\MR B w0 j' h' w'/\VI j' v cv/\K v h'
theorem QX(z:List Value)(hz:z≠[]):∀n,(madeCells z.toArray (n*z.length)).toList=(List.replicate n z).flatten:=by
 intro n;have aD:0<z.length:=List.length_pos_iff.2 hz;apply List.ext_getElem?;intro i;by_cases hi:i<n*z.length
 .have h1:(madeCells z.toArray (n*z.length)).toList[i]? = z[i % z.length]?:=by
   have ag:i % z.length<z.length:=Nat.mod_lt _ aD;simp[madeCells,hi,ag]
  rw[h1];clear h1
  induction n generalizing i with
  |zero=>simp at hi
  |succ n ih=>
   rw[List.replicate_succ,List.flatten_cons];by_cases ag:i<z.length
   .rw[List.getElem?_append_left ag,Nat.mod_eq_of_lt ag]
   .rw[List.getElem?_append_right (by omega)]
    have:=ih (i-z.length) (by rw[Nat.succ_mul]at hi;omega)
    rw[<-this];congr 1;rw[Nat.mod_eq_sub_mod (by omega)]
 .rw[List.getElem?_eq_none (by simp[madeCells];omega),List.getElem?_eq_none (by simp;omega)]
theorem VIs.replicate{zs:List AV}{z:List Value}(hz:VIs j zs z):∀n,VIs j (zeros zs n) ((List.replicate n z).flatten)
 |0=>rfl
 |n+1=>by
  simp only[zeros,List.replicate_succ,List.flatten_cons];exact hz.append (VIs.replicate hz n)
theorem zBt{zs:List AV}(hz:zs.all AV.one=true)(n:Nat):(zeros zs n).all AV.one=true:=by
 rw[List.all_eq_true]at hz ⊢;intro x hx;simp only[zeros,List.mem_flatten,List.mem_replicate]at hx;obtain⟨l,⟨_,rfl⟩,hx⟩:=hx;exact hz x hx
theorem zLy(m:MR B w0 j h w){t:TypeId}{i:TypeInfo}{z:Value}{zs:List AV}(hi:P.info? t=some i)(hz:i.zero=some z)(cR:ZL z.cells.toList=some zs)
  {K:AV->AHeap->Prop} (hk:K (.ptr h.next 0) (h.new ⟨true,zs⟩)):Ends P (do pure (.value (<-Instr.alloc t true (.tuple #[])))) w B w0 j h K:=by
 obtain⟨z1,z2⟩:=ZP (j:=j) cR;have hl:=z1.length;obtain⟨hm,hf⟩:=m.new (ty:=t) (cur:=z.cells) (room:=0) z2 (by rw[hl,List.take_length];exact z1) (Nat.zero_le _);refine⟨.ptr h.next 0,_,_,.pointer (some ⟨w.heap.size,0,none⟩),_,.inl ?_,hf,hm,⟨⟨w.heap.size,0,0⟩,by simp[Inj.put],rfl⟩,hk⟩;simp[Instr.alloc,zeroValue,typeInfo,hi,hz,newVar,newRow]
theorem zPZ(m:MR B w0 j h w){t:TypeId}{v:AV}{c:Value}(hc:VI j v c)(h1:v.cells.all AV.one=true)
  {K:AV->AHeap->Prop} (hk:K (.ptr h.next 0) (h.new ⟨true,v.cells⟩)):Ends P (do pure (.value (<-Instr.box t c))) w B w0 j h K:=by
 have z1:=VI.cells hc h1;have hl:=z1.length;obtain⟨hm,hf⟩:=m.new (ty:=t) (cur:=c.cells) (room:=0) h1 (by rw[hl,List.take_length];exact z1) (Nat.zero_le _);refine⟨.ptr h.next 0,_,_,.pointer (some ⟨w.heap.size,0,none⟩),_,.inl ?_,hf,hm,⟨⟨w.heap.size,0,0⟩,by simp[Inj.put],rfl⟩,hk⟩;simp[Instr.box,newVar,newRow]
theorem MR.wr(m:MR B w0 j h w){o k:Nat}{l:Loc}{vs:List AV}{cs:List Value}(hl:j o=some l)(z1:VIs j vs cs){h':AHeap}(hw:h.wr o k vs=some h'):
  ∃w',(storeCells ⟨l.blk,l.base+k,none⟩ cs).run P w=.ok () w'/\MR B w0 j h' w'/\FR j h j h':=by
 obtain⟨ob,ho,fh,hle,aK,rfl⟩:=AHeap.wr_some hw;obtain⟨cur,ty,fz,aQ,dt,hr,_⟩:=(m.obj o ob l ho hl).row;obtain⟨rfl,iA,_⟩:=hr fh;have hlen:=z1.length;have Bw:l.base+ob.cells.length<=cur.size:=by
  rcases Nat.eq_zero_or_pos ob.cells.length with x|x
  .omega
  .obtain⟨cv,e1,_⟩:=dt (ob.cells.length-1) ob.cells[ob.cells.length-1] (List.getElem?_eq_getElem (by omega))
   have:=(Array.getElem?_eq_some_iff.1 e1).1
   omega
 have cA:=run_storeCells_at P l.blk (l.base+k) ty cs 0 cur w aQ (by omega) (z1.oneCell aK);simp only[Nat.add_zero]at cA;have key:=m.setRow (cells:=ob.cells.take k++vs++ob.cells.drop (k+vs.length)) ho hl fh aQ
  (new:=(cur.toList.take (l.base+k)++cs++cur.toList.drop (l.base+k+cs.length)).toArray) (by simp;omega)
  (by
   have h0:=(m.obj o ob l ho hl).one;rw[List.all_eq_true]at h0 aK ⊢;intro x hx;simp only[List.mem_append]at hx;rcases hx with (hx|hx)|hx
   .exact h0 x (List.mem_of_mem_take hx)
   .exact aK x hx
   .exact h0 x (List.mem_of_mem_drop hx))
  (by
   intro q u hq;have ag:q<ob.cells.length:=by
    have:=(List.getElem?_eq_some_iff.1 hq).1
    simp at this;omega
   rcases Nat.lt_or_ge q k with x|x
   .rw[List.append_assoc,List.getElem?_append_left (by simp;omega),List.getElem?_take,if_pos x]at hq;obtain⟨cv,e1,e2⟩:=dt q u hq;refine⟨cv,?_,e2⟩
    have:(cur.toList.take (l.base+k)++cs++cur.toList.drop (l.base+k+cs.length))[l.base+q]? = some cv:=by
     rw[List.append_assoc,List.getElem?_append_left (by simp;omega),List.getElem?_take,if_pos (by omega)];simpa using e1
    simpa using this
   .rcases Nat.lt_or_ge q (k+vs.length)with y|y
    .rw[List.getElem?_append_left (by simp;omega),List.getElem?_append_right (by simp;omega)]at hq;have cJ:vs[q-k]? = some u:=by rw[<-hq];congr 1;simp;omega
     obtain⟨cv,e1,e2⟩:=z1.get cJ;refine⟨cv,?_,e2⟩
     have:(cur.toList.take (l.base+k)++cs++cur.toList.drop (l.base+k+cs.length))[l.base+q]? = some cv:=by
      rw[List.getElem?_append_left (by simp;omega),List.getElem?_append_right (by simp;omega)];rw[<-e1];congr 1;simp;omega
     simpa using this
    .rw[List.getElem?_append_right (by simp;omega),List.getElem?_drop]at hq;have cJ:ob.cells[q]? = some u:=by rw[<-hq];congr 1;simp;omega
     obtain⟨cv,e1,e2⟩:=dt q u cJ;refine⟨cv,?_,e2⟩
     have:(cur.toList.take (l.base+k)++cs++cur.toList.drop (l.base+k+cs.length))[l.base+q]? = some cv:=by
      rw[List.getElem?_append_right (by simp;omega),List.getElem?_drop];have nP:cur.toList[l.base+q]? = some cv:=by simpa using e1
      rw[<-nP];congr 1;simp;omega
     simpa using this)
 exact⟨_,cA,key.1,key.2⟩
theorem zKt(m:MR B w0 j h w){t:TypeId}{i:TypeInfo}(hi:P.info? t=some i){o k:Nat}{v:AV}{p c:Value}(hp:VI j (.ptr o k) p)(hc:VI j v c)(hs:v.cells.length=i.size){h':AHeap}
  (hw:h.wr o k v.cells=some h') {K:AV->AHeap->Prop} (hk:K .undef h'):Ends P (do Instr.storeAt t p c;pure .skip) w B w0 j h K:=by
 obtain⟨l,hl,rfl⟩:=hp;obtain⟨_,_,_,_,aK,_⟩:=AHeap.wr_some hw;have z1:=VI.cells hc aK;have hlen:=z1.length;obtain⟨w',cA,hm,hf⟩:=m.wr (P:=P) hl z1 hw;refine⟨.undef,_,j,undef,_,.inr ⟨?_,rfl⟩,hf,hm,trivial,hk⟩;have cV:¬(c.cells.size≠i.size):=by simp at hlen;omega
 simp only[Instr.storeAt,Instr.sureAddr,storeVar,Sem.run_bind,Sem.run_pure,Result.andThen_ok,qH hi,if_neg cV,cA]
theorem zIh(m:MR B w0 j h w)(r:ER nt j e a){t et:TypeId}{i:TypeInfo}{z:Value}{zs:List AV}(ht:P.underlying t=some (.slice et))(hi:P.info? et=some i)(hz:i.zero=some z)
  (cR:ZL z.cells.toList=some zs) {len:Nat} {ps:Array (Nat×Operand)} {qs:List (Nat×Nat×IX)} (ja:zAU i.size ps.toList=some qs) (cV:zs.length=i.size) (ai:i.size≠0)
  (u6:len*i.size<=16777216) {cs:List AV} (hf:afill (zeros zs len) (qs.map λp=>(p.1,p.2.1,p.2.2.ev e))=some cs)
  {K:AV->AHeap->Prop} (hk:K (.sl h.next 0 len (.known len)) (h.new ⟨true,cs⟩)):Ends P (do pure (.value (<-Instr.buildSlice t len (ps.map λ(i,x)=>(i,a.eval x))))) w B w0 j h K:=by
 obtain⟨z1,z2⟩:=ZP (j:=j) cR;have hl:=z1.length;have gU:z.cells.toList≠[]:=by intro x;rw[x]at hl;simp at hl;rw[hl]at cV;simp at cV;omega
 have fq:((Array.range (len*i.size)).map (z.cells[· % z.cells.size]!)).toList=(List.replicate len z.cells.toList).flatten:=by
  have:=QX z.cells.toList gU len
  rw[<-hl,cV]at this;simpa [madeCells]using this
 have gY:∀{ps:List (Nat×Operand)} {qs:List (Nat×Nat×IX)},zAU i.size ps=some qs->ps.length=(qs.map λp=>(p.1,p.2.1,p.2.2.ev e)).length/\
   ∀(k:Nat) (p:Nat×Operand) (q:Nat×Nat×AV),ps[k]? = some p->(qs.map λq=>(q.1,q.2.1,q.2.2.ev e))[k]? = some q->(some (p.1*i.size,i.size))=some (q.1,q.2.1)/\VI j q.2.2 (a.eval p.2):=by
  intro ps
  induction ps with
  |nil=>intro qs hq;cases hq;exact⟨rfl,λk p q hp=>by simp at hp⟩
  |cons p ps ih=>
   intro qs hq;obtain⟨n,x⟩:=p;simp only[zAU,Option.bind_eq_some_iff]at hq;obtain⟨ix,hx,tI,jF,hq⟩:=hq;cases hq;obtain⟨i1,i2⟩:=ih jF;refine⟨by simp at i1 ⊢;exact i1,λk p q hp hq=>?_⟩;cases k with
   |zero=>simp at hp hq;subst hp;subst hq;exact⟨rfl,zK r hx⟩
   |succ k=>exact i2 k p q (by simpa using hp) (by simpa using hq)
 obtain⟨p1,p2⟩:=gY ja;obtain⟨res,cD,r1,r2⟩:=zAQ (place:=λk=>some (k*i.size,i.size)) ps.toList _ (zeros zs len) ((Array.range (len*i.size)).map (z.cells[· % z.cells.size]!)) a.eval cs
  (by rw[fq];exact z1.replicate len) (zBt z2 len) hf p1 p2
 have pW:=r1.length;obtain⟨hm,ln⟩:=m.new (ty:=et) (cur:=res) (room:=0) r2 (by rw[pW,List.take_length];exact r1) (Nat.zero_le _);refine⟨.sl h.next 0 len (.known len),_,_,.slice (some ⟨w.heap.size,0,none⟩) len len,_,.inl ?_,ln,hm,⟨⟨w.heap.size,0,0⟩,_,by simp[Inj.put],rfl,.inl rfl⟩,hk⟩;have dq:(ps.map λ(i,x)=>(i,a.eval x)).toList=ps.toList.map λp=>(p.1,a.eval p.2):=by simp
 have jO:¬(16777216<len*i.size):=by omega
 by_cases h0:len*i.size=0
 .have:((Array.range (len*i.size)).map (z.cells[· % z.cells.size]!)) = #[]:=by rw[h0];simp[Array.range_zero']
  rw[this]at cD;simp[Instr.buildSlice,run_underlying ht,qH hi,h0,dq,cD,newRow,Array.range_zero']
 .simp[Instr.buildSlice,run_underlying ht,qH hi,h0,jO,dq,cD,newRow,zeroValue,typeInfo,hi,hz]
theorem zJe(m:MR B w0 j h w){t et:TypeId}{i:TypeInfo}{z:Value}{zs:List AV}(ht:P.underlying t=some (.slice et))(hi:P.info? et=some i)(hz:i.zero=some z)
  (cR:ZL z.cells.toList=some zs) (cV:zs.length=i.size) (ai:i.size≠0) {kl kc:IntKind} {l c:Int} (h0:0<=l) (lh:l<=c) (hb:c*i.bytes<=140737488355328) (wW:c<=9223372036854775807)
  {K:AV->AHeap->Prop} (hk:K (.sl h.next 0 l.toNat (.known c.toNat)) (h.new ⟨true,zeros zs c.toNat⟩)):Ends P (do pure (.value (<-Instr.makeSlice t (.int kl l) (.int kc c)))) w B w0 j h K:=by
 obtain⟨z1,z2⟩:=ZP (j:=j) cR;have hl:=z1.length;have gU:z.cells.toList≠[]:=by intro x;rw[x]at hl;simp at hl;rw[hl]at cV;simp at cV;omega
 have fq:(madeCells z.cells (c.toNat*i.size)).toList=(List.replicate c.toNat z.cells.toList).flatten:=by
  have:=QX z.cells.toList gU c.toNat
  rw[<-hl,cV]at this;simpa using this
 have mL:=run_make (P:=P) w t et i z ht hi hz kl kc l c h0 lh (by rw[Int.mul_comm];omega) wW;have hv:=z1.replicate c.toNat;have pV:=hv.length;obtain⟨hm,ln⟩:=m.new (ty:=et) (cur:=madeCells z.cells (c.toNat*i.size)) (room:=0) (zBt z2 c.toNat) (by rw[fq,pV,List.take_length];exact hv) (Nat.zero_le _);exact⟨.sl h.next 0 l.toNat (.known c.toNat),_,_,.slice (some ⟨w.heap.size,0,none⟩) l.toNat c.toNat,_,.inl (by simp[mL]),ln,hm,⟨⟨w.heap.size,0,0⟩,_,by simp[Inj.put],rfl,.inl rfl⟩,hk⟩
theorem MR.adopt(m:MR B w0 j h w){b base room:Nat}{cells:List AV}{cur new:Array Value}{ty:TypeId}(aQ:w.heap[b]? = some (.cells cur ty (0,0)))(hB:B<=b)
  (dr:∀o ob l,h.obj o=some ob->j o=some l->l.blk≠b) (cV:new.size=cur.size) (aS:base+room<=cur.size) (aK:cells.all AV.one=true) (hc:VIs j cells ((new.toList.drop base).take cells.length)):
  MR B w0 (j.put h.next ⟨b,base,room⟩) (h.new ⟨true,cells⟩) (w.setRow b new)/\FR j h (j.put h.next ⟨b,base,room⟩) (h.new ⟨true,cells⟩):=by
 have hle:=m.put_le ⟨b,base,room⟩;have fm:∀k,k≠b->(w.setRow b new).heap[k]? = w.heap[k]?:=by
  intro k hk;simp only[World.setRow,Array.getElem?_modify];rw[if_neg (λe=>hk e.symm)]
 have fg:(w.setRow b new).heap[b]? = some (.cells new ty (0,0)):=by
  simp[World.setRow,Array.getElem?_modify,aQ]
 have gG:(w.setRow b new).heap.size=w.heap.size:=by simp[World.setRow]
 refine⟨⟨m.below.trans ⟨rfl,rfl,rfl,by rw[gG];exact vM _,λk hk=>fm k (by omega)⟩,by rw[gG];exact m.bnd,?_,?_,?_⟩,?_⟩
 .intro o ho;simp only[AHeap.new]at ho;simp only[AHeap.new,Inj.put,if_neg (show ¬o=h.next by omega)];exact m.fresh o (by omega)
 .intro o ob l ho hl;by_cases e:o=h.next
  .subst e;simp only[AHeap.new,if_true,Option.some.injEq]at ho;simp only[Inj.put,if_true,Option.some.injEq]at hl;subst ho;subst hl;refine⟨aK,new,ty,(0,0),fg,λi v hv=>?_,λ_=>⟨rfl,by rw[cV];exact aS,hB⟩,λx=>by cases x⟩;obtain⟨cv,x,y⟩:=hc.get hv;refine⟨cv,?_,VI.mono hle _ _ y⟩;rw[List.getElem?_take]at x;split at x
   .rw[List.getElem?_drop]at x;simpa using x
   .cases x
  .simp only[AHeap.new,if_neg e]at ho;simp only[Inj.put,if_neg e]at hl;have hk:=m.obj o ob l ho hl;refine⟨hk.one,?_⟩;obtain⟨c,t,f,x,y,q⟩:=hk.row;refine⟨c,t,f,by rw[fm _ (dr o ob l ho hl)];exact x,λi v hv=>?_,q⟩;obtain⟨cv,p1,p2⟩:=y i v hv;exact⟨cv,p1,VI.mono hle _ _ p2⟩
 .intro o o' ob gT l l' ai ho cn hl aX fh;by_cases e:o=h.next
  .have e':o'≠h.next:=λx=>ai (e.trans x.symm);subst e;simp only[Inj.put,if_true,Option.some.injEq]at hl;simp only[Inj.put,if_neg e']at aX;simp only[AHeap.new,if_neg e']at cn;subst hl;exactλx=>dr o' gT l' cn aX x.symm
  .simp only[AHeap.new,if_neg e]at ho;simp only[Inj.put,if_neg e]at hl;by_cases e':o'=h.next
   .subst e';simp only[Inj.put,if_true,Option.some.injEq]at aX;subst aX;exact dr o ob l ho hl
   .simp only[AHeap.new,if_neg e']at cn;simp only[Inj.put,if_neg e']at aX;exact m.apart o o' ob gT l l' ai ho cn hl aX fh
 .refine⟨by simp[AHeap.new],λo ho=>?_,λo ho _=>?_⟩
  .simp[Inj.put,Nat.ne_of_lt ho]
  .simp[AHeap.new,Nat.ne_of_lt ho]
theorem zCy{x:AV}{c:Value}{n:Nat}(hc:VI j x c)(hn:alen x=some n):∃o cp,c=.slice o n cp/\n<=n:=by
 unfold alen at hn;split at hn
 .cases hn;exact⟨_,_,hc,vM _⟩
 .rename_i o off n' cap;cases hn;cases cap with
  |known q=>obtain⟨l,_,hl,bW,_⟩:=hc;exact⟨_,_,bW,vM _⟩
  |grown q=>obtain⟨l,cc,ff,hl,bW,_⟩:=hc;exact⟨_,_,bW,vM _⟩
 .cases hn
theorem zDj(m:MR B w0 j h w){e n:Nat}{x:AV}{c:Value}{news:List AV}(hc:VI j x c)(hn:n≠0)(hf:zCa e h x n=some news):
  ∃(ad:Addr) (len cp:Nat) (cs:List Value),c=.slice (some ad) len cp/\n<=len/\VIs j news cs/\cs.length=n*e/\news.all AV.one=true/\∀k u,cs[k]? = some u->w.cell? (ad.add k)=some u:=by
 unfold zCa at hf;rw[if_neg hn]at hf;split at hf
 .rename_i o off len cap;split at hf
  .rename_i hle;have key:∃l cp,j o=some l/\c=.slice (some ⟨l.blk,l.base+off,none⟩) len cp:=by
    cases cap with
    |known q=>
     obtain⟨l,a,hl,rfl,ha⟩:=hc;rcases ha with rfl|⟨_,hz⟩
     .exact⟨l,_,hl,rfl⟩
     .omega
    |grown q=>
     obtain⟨l,cp,f,hl,rfl,_,dg,_⟩:=hc;rcases dg with rfl|⟨hz,_⟩
     .exact⟨l,_,hl,rfl⟩
     .omega
   obtain⟨l,cp,hl,rfl⟩:=key;obtain⟨cs,h1,h2,h3,h4⟩:=m.cells hf hl;exact⟨_,_,_,cs,rfl,hle,h1,h2,h3,h4⟩
  .cases hf
 .cases hf
theorem zBa{size n len cp:Nat}{ad:Addr}{cs:List Value}(hl:cs.length=n*size)(hc:∀k u,cs[k]? = some u->w.cell? (ad.add k)=some u):
  (Builtin.firstCells size n (.slice (some ad) len cp)).run P w=.ok cs.toArray w:=by
 have:=run_loadCells_list (P:=P) w ad cs hc
 rw[hl]at this;simpa [Builtin.firstCells]using this
theorem zC3(w:World)(t ty et:TypeId)(i:TypeInfo)(ht:P.underlying t=some (.slice et))(hi:P.info? et=some i)(ad:Addr)(len cap:Nat)
  (a:Addr) (m c:Nat) (news:List Value) (hl:news.length=m*i.size) (pQ:∀j u,news[j]? = some u->w.cell? (a.add j)=some u) (aS:len+m<=cap) {w':World}
  (cA:(storeCells (ad.add (len*i.size)) news).run P w=.ok () w'):
  (Builtin.append_ #[t,t] ty #[.slice (some ad) len cap,.slice (some a) m c]).run P w=.ok (.slice (some ad) (len+m) cap) w':=by
 have hf:=zBa (P:=P) (len:=m) (cp:=c) hl pQ;simp[Builtin.append_,run_underlying ht,sizeOf,typeInfo,hi,Builtin.lenOf,aS,hf,cA]
theorem zFG(w:World)(t ty et:TypeId)(i:TypeInfo)(ht:P.underlying t=some (.slice et))(hi:P.info? et=some i)(base o:Option Addr)(len cap c:Nat)(aS:len<=cap):
  (Builtin.append_ #[t,t] ty #[.slice base len cap,.slice o 0 c]).run P w=.ok (.slice base len cap) w:=by
 cases base<;>cases o<;>simp[Builtin.append_,run_underlying ht,sizeOf,typeInfo,hi,Builtin.lenOf,aS,Builtin.firstCells,loadCells,loadCellsFrom,storeCells]
theorem zIq(m:MR B w0 j h w){t ty et:TypeId}{i:TypeInfo}{z:Value}(ht:P.underlying t=some (.slice et))(hi:P.info? et=some i)(hz:i.zero=some z)(cR:z.cells.size=i.size)(ai:i.size≠0)
  {s x:AV} {cs cx:Value} (hs:VI j s cs) (hx:VI j x cx) {v:AV} {h':AHeap} (hv:zBW i.size i.bytes h s x=some (v,h')):
  ∃j' cv w',(Builtin.append_ #[t,t] ty #[cs,cx]).run P w=.ok cv w'/\FR j h j' h'/\MR B w0 j' h' w'/\VI j' v cv:=by
 simp only[zBW,Option.bind_eq_some_iff]at hv;obtain⟨n,hn,hv⟩:=hv;obtain⟨o,cp,rfl,_⟩:=zCy hx hn;split at hv
 .rename_i h0;subst h0;simp only[Option.map_eq_some_iff,Prod.mk.injEq]at hv;obtain⟨u,hu,rfl,rfl⟩:=hv;have key:∃b len cap,cs=.slice b len cap/\len<=cap/\u=s:=by
   unfold asame at hu;split at hu
   .cases hu;exact⟨_,_,_,hs,vM _,rfl⟩
   .split at hu
    .cases hu;obtain⟨l,_,hl,bW,_⟩:=hs;exact⟨_,_,_,bW,by assumption,rfl⟩
    .cases hu
   .cases hu;obtain⟨l,cc,ff,hl,bW,hle,_⟩:=hs;exact⟨_,_,_,bW,hle,rfl⟩
   .cases hu
  obtain⟨b,len,cap,rfl,hle,rfl⟩:=key;exact⟨j,_,w,zFG w t ty et i ht hi b o len cap cp hle,FR.refl _ _,m,hs⟩
 .rename_i h0;simp only[Option.bind_eq_some_iff]at hv;obtain⟨news,hf,hv⟩:=hv;obtain⟨ad,jz,yA,nc,rE,hle,eR,jn,aK,db⟩:=zDj m hx h0 hf;simp only[Value.slice.injEq]at rE;obtain⟨rfl,rfl,rfl⟩:=rE;have AJ:=eR.length;have aD:0<n:=by omega
  -- a new row
  have fresh:∀(dc:List AV) (oc:List Value) (len sc:Nat) (h2:AHeap),MR B w0 j h2 w->h2.next=h.next->VIs j dc oc->oc.length=len*i.size->dc.all AV.one=true->n+len=n+len->sc<len+n->
    MR B w0 (j.put h.next ⟨w.heap.size,0,grownCap w (len+n) sc et*i.size⟩) (h2.new ⟨true,dc++news⟩)
     (w.drew.alloc (.cells (oc.toArray++nc.toArray++Builtin.zeroCells z.cells (grownCap w (len+n) sc et-(len+n))) et))/\
    FR j h2 (j.put h.next ⟨w.heap.size,0,grownCap w (len+n) sc et*i.size⟩) (h2.new ⟨true,dc++news⟩)/\
    VI (j.put h.next ⟨w.heap.size,0,grownCap w (len+n) sc et*i.size⟩) (.sl h.next 0 (len+n) (.grown i.size)) (.slice (some ⟨w.heap.size,0,none⟩) (len+n) (grownCap w (len+n) sc et)):=by
   intro dc oc len sc h2 m2 eZ hold lX jI _ ag;have aF:=grownCap_ge w (len+n) sc et;have uO:=hold.length;have cV:(oc.toArray++nc.toArray++Builtin.zeroCells z.cells (grownCap w (len+n) sc et-(len+n))).size=grownCap w (len+n) sc et*i.size:=by
    simp only[Array.size_append,List.size_toArray,size_zeroCells,cR,lX,jn,<-Nat.add_mul];congr 1;omega
   have:=m2.drew.new (ty:=et) (cells:=dc++news) (cur:=oc.toArray++nc.toArray++Builtin.zeroCells z.cells (grownCap w (len+n) sc et-(len+n))) (room:=grownCap w (len+n) sc et*i.size)
    (by rw[List.all_append,jI,aK];rfl)
    (by
     have hh:=hold.append eR;have l6:=hh.length;rw[l6];simp only[Array.toList_append];rw[List.take_append_of_le_length (by simp),List.take_of_length_le (by simp)];exact hh)
    (by rw[cV];exact vM _)
   rw[eZ]at this;refine⟨this.1,this.2,⟨⟨w.heap.size,0,grownCap w (len+n) sc et*i.size⟩,grownCap w (len+n) sc et,0,by simp[Inj.put],rfl,aF,.inl rfl,λ_ _=>by simp⟩⟩
  unfold agrow at hv;split at hv
  .split at hv
   .rename_i hb;cases hv;obtain⟨f1,f2,f3⟩:=fresh [] [] 0 0 h m rfl rfl (by simp) rfl rfl (by omega);rw[show cs=.slice none 0 0 from hs];have hr:=run_append_nil (P:=P) w t ty et i z ht hi hz ad n cp nc jn db aD (by omega) (by omega);simp only[Nat.zero_add,List.nil_append,Array.empty_append]at f1 f2 f3;exact⟨_,_,_,hr,f2,f1,f3⟩
   .cases hv
  .rename_i o1 off len c;obtain⟨l,al,hl,rfl,cM⟩:=hs;split at hv
   .rename_i aS;obtain rfl:al=⟨l.blk,l.base+off,none⟩:=by rcases cM with e|⟨e,_⟩;exact e;omega
    simp only[Option.map_eq_some_iff,Prod.mk.injEq]at hv;obtain⟨h1,hw,rfl,rfl⟩:=hv;obtain⟨w',cA,hm,ln⟩:=m.wr (P:=P) hl eR hw;refine⟨j,_,w',zC3 w t ty et i ht hi ⟨l.blk,l.base+off,none⟩ len c ad n cp nc jn db aS ?_,ln,hm,⟨l,_,hl,rfl,.inl rfl⟩⟩;rw[Zl];rw[<-Nat.add_assoc]at cA;exact cA
   .rename_i aS;split at hv
    .rename_i hb;simp only[Option.map_eq_some_iff,Prod.mk.injEq]at hv;obtain⟨dc,bg,rfl,rfl⟩:=hv;obtain⟨oc,p1,p2,p3,p4⟩:=m.cells bg hl;obtain⟨f1,f2,f3⟩:=fresh dc oc len c h m rfl p1 p2 p3 rfl (by omega);have mr:∀k u,oc[k]? = some u->w.cell? (al.add k)=some u:=by
      rcases cM with rfl|⟨_,e⟩
      .exact p4
      .subst e;rw[Nat.zero_mul,List.length_eq_zero_iff]at p2;subst p2;intro k u fH;simp at fH
     have hr:=run_append_grow (P:=P) w t ty et i z ht hi hz al len c oc p2 mr ad n cp nc jn db (by omega) (by omega) (growslice_fits (by omega) (by omega));exact⟨_,_,_,hr,f2,f1,f3⟩
    .cases hv
  .rename_i o1 off len g;split at hv
   .rename_i hb;obtain⟨fQ,dw,rfl⟩:=hb;simp only[Option.bind_eq_some_iff]at hv;obtain⟨ob,ho,hv⟩:=hv;split at hv
    .rename_i hb;obtain⟨fh,hlen⟩:=hb;cases hv;obtain⟨l,c,f,hl,rfl,lh,dg,uF⟩:=hs;obtain⟨cur,kN,fz,aQ,dt,hr,_⟩:=(m.obj o1 ob l ho hl).row;obtain⟨rfl,aS,hB⟩:=hr fh;obtain⟨mk,fk⟩:=m.kill hl;have uR:=(m.obj o1 ob l ho hl).one;have bg:h.rd o1 off (len*i.size)=some ((ob.cells.drop off).take (len*i.size)):=by
      simp[AHeap.rd,ho,hlen]
     obtain⟨oc,p1,p2,p3,p4⟩:=m.cells bg hl;by_cases e9:len+n<=c
     ·-- in place
      have vE:f=l.base+off:=by
       rcases dg with x|⟨_,_,x⟩
       .exact x
       .omega
      subst vE;have uE:=uF rfl ai;have fa:l.base+off+(len+n)*i.size<=cur.size:=by
       have q1:(len+n)*i.size<=c*i.size:=Nat.mul_le_mul_right _ e9;omega
      have rn:l.base+off+len*i.size+nc.length<=cur.size:=by rw[jn,Nat.add_assoc (l.base+off),<-Nat.add_mul];exact fa
      have cA:=run_storeCells_at P l.blk (l.base+off+len*i.size) kN nc 0 cur w aQ (by omega) (eR.oneCell aK);simp only[Nat.add_zero]at cA;have hr:=zC3 (P:=P) w t ty et i ht hi ⟨l.blk,l.base+off,none⟩ len c ad n cp nc jn db e9 (by rw[Zl];exact cA);have mX:oc=(cur.toList.drop (l.base+off)).take (len*i.size):=by
       apply List.ext_getElem?;intro k;by_cases hk:k<oc.length
       .have q1:=p4 k oc[k] (List.getElem?_eq_getElem hk);rw[Zl]at q1;simp only[World.cell?,aQ]at q1;rw[List.getElem?_take,if_pos (by omega),List.getElem?_eq_getElem hk,List.getElem?_drop];simpa using q1.symm
       .rw[List.getElem?_eq_none (by omega),List.getElem?_eq_none (by simp;omega)]
      have:=mk.adopt (b:=l.blk) (base:=l.base+off) (room:=l.room-off) (cells:=(ob.cells.drop off).take (len*i.size)++news) (cur:=cur) (ty:=kN)
       (new:=(cur.toList.take (l.base+off+len*i.size)++nc++cur.toList.drop (l.base+off+len*i.size+nc.length)).toArray) aQ hB
       (by
        intro q jj lq hq uZ e;by_cases mR:q=o1
        .subst mR;simp[AHeap.kill]at hq
        .simp only[AHeap.kill,if_neg mR]at hq;exact m.apart o1 q ob jj l lq (λx=>mR x.symm) ho hq hl uZ fh e.symm)
       (by simp;omega) (by omega) (by rw[List.all_append,p3,aK];rfl)
       (by
        have hh:=p1.append eR;have l6:=hh.length;rw[l6];have e:((cur.toList.take (l.base+off+len*i.size)++nc++cur.toList.drop (l.base+off+len*i.size+nc.length)).toArray.toList.drop (l.base+off)).take (oc++nc).length=oc++nc:=by
         simp only[List.append_assoc];rw[List.drop_append_of_le_length (by simp;omega),List.drop_take,show l.base+off+len*i.size-(l.base+off)=len*i.size by omega,<-mX,<-List.append_assoc,List.take_append_of_le_length (vM _),List.take_of_length_le (vM _)]
        rw[e];exact hh)
      refine⟨_,_,_,hr,fk.trans this.2,this.1,⟨⟨l.blk,l.base+off,l.room-off⟩,c,l.base+off,by simp[Inj.put,AHeap.kill],rfl,e9,.inl (by simp),λ_ _=>?_⟩⟩;simp only[Nat.zero_add];omega
     .have mr:∀k u,oc[k]? = some u->w.cell? ((⟨l.blk,f,none⟩:Addr).add k)=some u:=by
       rcases dg with rfl|⟨e,_⟩
       .exact p4
       .subst e;rw[Nat.zero_mul,List.length_eq_zero_iff]at p2;subst p2;intro k u fH;simp at fH
      have hr:=run_append_grow (P:=P) w t ty et i z ht hi hz ⟨l.blk,f,none⟩ len c oc p2 mr ad n cp nc jn db (by omega) (by omega) (growslice_fits (by omega) (by omega));obtain⟨f1,f2,f3⟩:=fresh ((ob.cells.drop off).take (len*i.size)) oc len c (h.kill o1) mk rfl p1 p2 p3 rfl (by omega);exact⟨_,_,_,hr,fk.trans f2,f1,f3⟩
    .cases hv
   .cases hv
  .cases hv
theorem zLf(m:MR B w0 j h w){et:TypeId}{i:TypeInfo}{z:Value}(cR:z.cells.size=i.size)(ai:i.size≠0){n:Nat}(aD:0<n){news:List AV}{nc:List Value}(eR:VIs j news nc)(jn:nc.length=n*i.size)(aK:news.all AV.one=true){app:Value->Sem Value}
  (hN:n*i.bytes<=140737488355328->n<=4611686018427387904->(app (.slice none 0 0)).run P w=.ok (.slice (some ⟨w.heap.size,0,none⟩) n (grownCap w n 0 et)) (w.drew.alloc (.cells (nc.toArray++Builtin.zeroCells z.cells (grownCap w n 0 et-n)) et)))
  (hR:∀(ad:Addr) (len cap:Nat) (w':World),len+n<=cap->(storeCells (ad.add (len*i.size)) nc).run P w=.ok () w'->(app (.slice (some ad) len cap)).run P w=.ok (.slice (some ad) (len+n) cap) w')
  (hG:∀(al:Addr) (len c:Nat) (oc:List Value),oc.length=len*i.size->(∀k u,oc[k]? = some u->w.cell? (al.add k)=some u)->c<len+n->((len+n:Nat):Int)<=9223372036854775807->Builtin.nextslicecap (len+n) c*i.bytes<=281474976710656->
   (app (.slice (some al) len c)).run P w=.ok (.slice (some ⟨w.heap.size,0,none⟩) (len+n) (grownCap w (len+n) c et)) (w.drew.alloc (.cells (oc.toArray++nc.toArray++Builtin.zeroCells z.cells (grownCap w (len+n) c et-(len+n))) et)))
  {s:AV} {cs:Value} (hs:VI j s cs) {v:AV} {h':AHeap} (hv:agrow i.size i.bytes h s news n=some (v,h')):
  ∃j' cv w',(app cs).run P w=.ok cv w'/\FR j h j' h'/\MR B w0 j' h' w'/\VI j' v cv:=by
 have AJ:=eR.length
 -- a new row
 have fresh:∀(dc:List AV) (oc:List Value) (len sc:Nat) (h2:AHeap),MR B w0 j h2 w->h2.next=h.next->VIs j dc oc->oc.length=len*i.size->dc.all AV.one=true->n+len=n+len->sc<len+n->
   MR B w0 (j.put h.next ⟨w.heap.size,0,grownCap w (len+n) sc et*i.size⟩) (h2.new ⟨true,dc++news⟩)
    (w.drew.alloc (.cells (oc.toArray++nc.toArray++Builtin.zeroCells z.cells (grownCap w (len+n) sc et-(len+n))) et))/\
   FR j h2 (j.put h.next ⟨w.heap.size,0,grownCap w (len+n) sc et*i.size⟩) (h2.new ⟨true,dc++news⟩)/\
   VI (j.put h.next ⟨w.heap.size,0,grownCap w (len+n) sc et*i.size⟩) (.sl h.next 0 (len+n) (.grown i.size)) (.slice (some ⟨w.heap.size,0,none⟩) (len+n) (grownCap w (len+n) sc et)):=by
  intro dc oc len sc h2 m2 eZ hold lX jI _ ag;have aF:=grownCap_ge w (len+n) sc et;have uO:=hold.length;have cV:(oc.toArray++nc.toArray++Builtin.zeroCells z.cells (grownCap w (len+n) sc et-(len+n))).size=grownCap w (len+n) sc et*i.size:=by
   simp only[Array.size_append,List.size_toArray,size_zeroCells,cR,lX,jn,<-Nat.add_mul];congr 1;omega
  have:=m2.drew.new (ty:=et) (cells:=dc++news) (cur:=oc.toArray++nc.toArray++Builtin.zeroCells z.cells (grownCap w (len+n) sc et-(len+n))) (room:=grownCap w (len+n) sc et*i.size)
   (by rw[List.all_append,jI,aK];rfl)
   (by
    have hh:=hold.append eR;have l6:=hh.length;rw[l6];simp only[Array.toList_append];rw[List.take_append_of_le_length (by simp),List.take_of_length_le (by simp)];exact hh)
   (by rw[cV];exact vM _)
  rw[eZ]at this;refine⟨this.1,this.2,⟨⟨w.heap.size,0,grownCap w (len+n) sc et*i.size⟩,grownCap w (len+n) sc et,0,by simp[Inj.put],rfl,aF,.inl rfl,λ_ _=>by simp⟩⟩
 unfold agrow at hv;split at hv
 .split at hv
  .rename_i hb;cases hv;obtain⟨f1,f2,f3⟩:=fresh [] [] 0 0 h m rfl rfl (by simp) rfl rfl (by omega);rw[show cs=.slice none 0 0 from hs];have hr:=hN (by omega) (by omega);simp only[Nat.zero_add,List.nil_append,Array.empty_append]at f1 f2 f3;exact⟨_,_,_,hr,f2,f1,f3⟩
  .cases hv
 .rename_i o1 off len c;obtain⟨l,al,hl,rfl,cM⟩:=hs;split at hv
  .rename_i aS;obtain rfl:al=⟨l.blk,l.base+off,none⟩:=by rcases cM with e|⟨e,_⟩;exact e;omega
   simp only[Option.map_eq_some_iff,Prod.mk.injEq]at hv;obtain⟨h1,hw,rfl,rfl⟩:=hv;obtain⟨w',cA,hm,ln⟩:=m.wr (P:=P) hl eR hw;refine⟨j,_,w',hR ⟨l.blk,l.base+off,none⟩ len c _ aS ?_,ln,hm,⟨l,_,hl,rfl,.inl rfl⟩⟩;rw[Zl];rw[<-Nat.add_assoc]at cA;exact cA
  .rename_i aS;split at hv
   .rename_i hb;simp only[Option.map_eq_some_iff,Prod.mk.injEq]at hv;obtain⟨dc,bg,rfl,rfl⟩:=hv;obtain⟨oc,p1,p2,p3,p4⟩:=m.cells bg hl;obtain⟨f1,f2,f3⟩:=fresh dc oc len c h m rfl p1 p2 p3 rfl (by omega);have mr:∀k u,oc[k]? = some u->w.cell? (al.add k)=some u:=by
     rcases cM with rfl|⟨_,e⟩
     .exact p4
     .subst e;rw[Nat.zero_mul,List.length_eq_zero_iff]at p2;subst p2;intro k u fH;simp at fH
    have hr:=hG al len c oc p2 mr (by omega) (by omega) (growslice_fits (by omega) (by omega));exact⟨_,_,_,hr,f2,f1,f3⟩
   .cases hv
 .rename_i o1 off len g;split at hv
  .rename_i hb;obtain⟨fQ,dw,rfl⟩:=hb;simp only[Option.bind_eq_some_iff]at hv;obtain⟨ob,ho,hv⟩:=hv;split at hv
   .rename_i hb;obtain⟨fh,hlen⟩:=hb;cases hv;obtain⟨l,c,f,hl,rfl,lh,dg,uF⟩:=hs;obtain⟨cur,kN,fz,aQ,dt,hr,_⟩:=(m.obj o1 ob l ho hl).row;obtain⟨rfl,aS,hB⟩:=hr fh;obtain⟨mk,fk⟩:=m.kill hl;have uR:=(m.obj o1 ob l ho hl).one;have bg:h.rd o1 off (len*i.size)=some ((ob.cells.drop off).take (len*i.size)):=by
     simp[AHeap.rd,ho,hlen]
    obtain⟨oc,p1,p2,p3,p4⟩:=m.cells bg hl;by_cases e9:len+n<=c
    ·-- in place
     have vE:f=l.base+off:=by
      rcases dg with x|⟨_,_,x⟩
      .exact x
      .omega
     subst vE;have uE:=uF rfl ai;have fa:l.base+off+(len+n)*i.size<=cur.size:=by
      have q1:(len+n)*i.size<=c*i.size:=Nat.mul_le_mul_right _ e9;omega
     have rn:l.base+off+len*i.size+nc.length<=cur.size:=by rw[jn,Nat.add_assoc (l.base+off),<-Nat.add_mul];exact fa
     have cA:=run_storeCells_at P l.blk (l.base+off+len*i.size) kN nc 0 cur w aQ (by omega) (eR.oneCell aK);simp only[Nat.add_zero]at cA;have hr:=hR ⟨l.blk,l.base+off,none⟩ len c _ e9 (by rw[Zl];exact cA);have mX:oc=(cur.toList.drop (l.base+off)).take (len*i.size):=by
      apply List.ext_getElem?;intro k;by_cases hk:k<oc.length
      .have q1:=p4 k oc[k] (List.getElem?_eq_getElem hk);rw[Zl]at q1;simp only[World.cell?,aQ]at q1;rw[List.getElem?_take,if_pos (by omega),List.getElem?_eq_getElem hk,List.getElem?_drop];simpa using q1.symm
      .rw[List.getElem?_eq_none (by omega),List.getElem?_eq_none (by simp;omega)]
     have:=mk.adopt (b:=l.blk) (base:=l.base+off) (room:=l.room-off) (cells:=(ob.cells.drop off).take (len*i.size)++news) (cur:=cur) (ty:=kN)
      (new:=(cur.toList.take (l.base+off+len*i.size)++nc++cur.toList.drop (l.base+off+len*i.size+nc.length)).toArray) aQ hB
      (by
       intro q jj lq hq uZ e;by_cases mR:q=o1
       .subst mR;simp[AHeap.kill]at hq
       .simp only[AHeap.kill,if_neg mR]at hq;exact m.apart o1 q ob jj l lq (λx=>mR x.symm) ho hq hl uZ fh e.symm)
      (by simp;omega) (by omega) (by rw[List.all_append,p3,aK];rfl)
      (by
       have hh:=p1.append eR;have l6:=hh.length;rw[l6];have e:((cur.toList.take (l.base+off+len*i.size)++nc++cur.toList.drop (l.base+off+len*i.size+nc.length)).toArray.toList.drop (l.base+off)).take (oc++nc).length=oc++nc:=by
        simp only[List.append_assoc];rw[List.drop_append_of_le_length (by simp;omega),List.drop_take,show l.base+off+len*i.size-(l.base+off)=len*i.size by omega,<-mX,<-List.append_assoc,List.take_append_of_le_length (vM _),List.take_of_length_le (vM _)]
       rw[e];exact hh)
     refine⟨_,_,_,hr,fk.trans this.2,this.1,⟨⟨l.blk,l.base+off,l.room-off⟩,c,l.base+off,by simp[Inj.put,AHeap.kill],rfl,e9,.inl (by simp),λ_ _=>?_⟩⟩;simp only[Nat.zero_add];omega
    .have mr:∀k u,oc[k]? = some u->w.cell? ((⟨l.blk,f,none⟩:Addr).add k)=some u:=by
      rcases dg with rfl|⟨e,_⟩
      .exact p4
      .subst e;rw[Nat.zero_mul,List.length_eq_zero_iff]at p2;subst p2;intro k u fH;simp at fH
     have hr:=hG ⟨l.blk,f,none⟩ len c oc p2 mr (by omega) (by omega) (growslice_fits (by omega) (by omega));obtain⟨f1,f2,f3⟩:=fresh ((ob.cells.drop off).take (len*i.size)) oc len c (h.kill o1) mk rfl p1 p2 p3 rfl (by omega);exact⟨_,_,_,hr,fk.trans f2,f1,f3⟩
   .cases hv
  .cases hv
 .cases hv
theorem zMM(w:World)(t tn ty et:TypeId)(i:TypeInfo)(z:Value)(k kn:IntKind)(ht:P.underlying t=some (.slice et))(sM:P.underlying tn=some (.int kn))(hi:P.info? et=some i)(hz:i.zero=some z)
  (n:Nat) (h0:0<n) (hs:0<i.size) (wW:(n:Int)<=9223372036854775807) (DC:n*i.bytes<=281474976710656):
  (∀(ad:Addr) (len cap:Nat) (w':World),len+n<=cap->(storeCells (ad.add (len*i.size)) (Builtin.zeroCells z.cells n).toList).run P w=.ok () w'->(Builtin.append_ #[t,tn] ty #[.slice (some ad) len cap,.int k n]).run P w=.ok (.slice (some ad) (len+n) cap) w')/\
  (∀(al:Addr) (len c:Nat) (oc:List Value),oc.length=len*i.size->(∀k u,oc[k]? = some u->w.cell? (al.add k)=some u)->c<len+n->((len+n:Nat):Int)<=9223372036854775807->Builtin.nextslicecap (len+n) c*i.bytes<=281474976710656->
   (Builtin.append_ #[t,tn] ty #[.slice (some al) len c,.int k n]).run P w=.ok (.slice (some ⟨w.heap.size,0,none⟩) (len+n) (grownCap w (len+n) c et)) (w.drew.alloc (.cells (oc.toArray++(Builtin.zeroCells z.cells n).toList.toArray++Builtin.zeroCells z.cells (grownCap w (len+n) c et-(len+n))) et))):=by
 have hn:n≠0:=by omega
 have hw:IntKind.i64.wrap (n:Int)=n:=by rw[IntKind.wrap_i64];omega
 have r6:¬(281474976710656<(n:Int)*(i.bytes:Int)):=by
  rw[<-Int.natCast_mul];omega
 have bN:¬((n:Int)<0):=by omega
 have xW:¬(n*i.size=0):=Nat.mul_ne_zero hn (by omega);refine⟨λad len cap w' aS cA=>?_,λal len c oc jM holds hg Ce rn=>?_⟩
 .simp[Builtin.append_,run_underlying ht,run_underlying sM,sizeOf,typeInfo,zeroValue,hi,hz,asInt,asIntOf,hw,hn,bN,xW,r6,aS,cA]
 .have AI:¬(len+n<=c):=by omega
  have wV:¬(9223372036854775807<((len:Int)+(n:Int))):=by omega
  have wY:¬(281474976710656<Builtin.nextslicecap (len+n) c*i.bytes):=by omega
  have bj:=run_firstCells_some (P:=P) w.drew i.size len al len c oc jM (by simpa using holds);simp[Builtin.append_,run_underlying ht,run_underlying sM,sizeOf,typeInfo,zeroValue,hi,hz,asInt,asIntOf,hw,hn,bN,xW,r6,AI,wV,wY,Question.forced,bj,newRow,grownCap]
theorem zGE(w:World)(t tn ty et:TypeId)(i:TypeInfo)(k kn:IntKind)(ht:P.underlying t=some (.slice et))(sM:P.underlying tn=some (.int kn))(hi:P.info? et=some i)(base:Option Addr)(len cap:Nat)(aS:len<=cap):
  (Builtin.append_ #[t,tn] ty #[.slice base len cap,.int k 0]).run P w=.ok (.slice base len cap) w:=by
 have hw:IntKind.i64.wrap (0:Int)=0:=rfl;cases base<;>simp[Builtin.append_,run_underlying ht,run_underlying sM,sizeOf,typeInfo,hi,asInt,asIntOf,hw,aS,storeCells]
theorem zC8(m:MR B w0 j h w){t t' ty et:TypeId}{i:TypeInfo}{z:Value}{zs:List AV}{kn:IntKind}(ht:P.underlying t=some (.slice et))(cZ:P.underlying t'=some (.int kn))(hi:P.info? et=some i)(hz:i.zero=some z)
  (cR:ZL z.cells.toList=some zs) (cV:zs.length=i.size) (ai:i.size≠0) {k:IntKind} {n:Int} (h0:0<=n) (hb:n*i.bytes<=140737488355328) (wW:n<=4611686018427387904) {s:AV} {cs:Value} (hs:VI j s cs) {v:AV} {h':AHeap}
  (hv:(if 0<n then agrow i.size i.bytes h s (zeros zs n.toNat) n.toNat else(asame s).map λv=>(v,h))=some (v,h')):
  ∃j' cv w',(Builtin.append_ #[t,t'] ty #[cs,.int k n]).run P w=.ok cv w'/\FR j h j' h'/\MR B w0 j' h' w'/\VI j' v cv:=by
 obtain⟨q,rfl⟩:∃q:Nat,n=q:=⟨n.toNat,by omega⟩
 rw[Int.toNat_natCast]at hv;by_cases hq:0<q
 .rw[if_pos (by omega)]at hv;obtain⟨z1,z2⟩:=ZP (j:=j) cR;have hl:=z1.length;have oN:z.cells.size=i.size:=by rw[<-cV,hl];simp
  have gU:z.cells.toList≠[]:=by intro x;rw[x]at hl;simp at hl;rw[hl]at cV;simp at cV;omega
  have fq:(Builtin.zeroCells z.cells q).toList=(List.replicate q z.cells.toList).flatten:=by
   have:=QX z.cells.toList gU q
   simpa [madeCells,Builtin.zeroCells]using this
  have iT:q*i.bytes<=140737488355328:=by
   have:((q*i.bytes:Nat):Int)<=140737488355328:=by simpa using hb
   omega
  have bX:VIs j (zeros zs q) (Builtin.zeroCells z.cells q).toList:=by rw[fq];exact z1.replicate q
  obtain⟨r1,r2⟩:=zMM (P:=P) w t t' ty et i z k kn ht cZ hi hz q hq (by omega) (by omega) (by omega);refine zLf m oN ai hq bX (by rw[Array.length_toList,size_zeroCells,oN]) (zBt z2 q) (app:=λc=>Builtin.append_ #[t,t'] ty #[c,.int k q]) (λ_ _=>?_) r1 r2 hs hv;rw[Array.toArray_toList];exact Lib.run_append_nil_zeros (P:=P) w t t' ty et i z k kn ht cZ hi hz q hq (by omega) (by omega) (by omega)
 .obtain rfl:q=0:=by omega
  rw[if_neg (by omega)]at hv;simp only[Option.map_eq_some_iff,Prod.mk.injEq]at hv;obtain⟨u,hu,rfl,rfl⟩:=hv;have key:∃b len cap,cs=.slice b len cap/\len<=cap/\u=s:=by
   unfold asame at hu;split at hu
   .cases hu;exact⟨_,_,_,hs,vM _,rfl⟩
   .split at hu
    .cases hu;obtain⟨l,_,hl,bW,_⟩:=hs;exact⟨_,_,_,bW,by assumption,rfl⟩
    .cases hu
   .cases hu;obtain⟨l,cc,ff,hl,bW,hle,_⟩:=hs;exact⟨_,_,_,bW,hle,rfl⟩
   .cases hu
  obtain⟨b,len,cap,rfl,hle,rfl⟩:=key;exact⟨j,_,w,zGE w t t' ty et i k kn ht cZ hi b len cap hle,FR.refl _ _,m,hs⟩
theorem zLn(m:MR B w0 j h w){t ty t' et:TypeId}{i:TypeInfo}(ht:P.underlying t=some (.slice et))(hi:P.info? et=some i)
  {d s:AV} {cd cs:Value} (hd:VI j d cd) (hs:VI j s cs) {v:AV} {h':AHeap} (hv:acopy i.size h d s=some (v,h')):
  ∃cv w',(Builtin.copy_ #[t,t'] ty #[cd,cs]).run P w=.ok cv w'/\FR j h j h'/\MR B w0 j h' w'/\VI j v cv:=by
 simp only[acopy,Option.bind_eq_some_iff]at hv;obtain⟨n,hn,m',hJ,hv⟩:=hv;obtain⟨od,DN,rH,_⟩:=zCy hd hn;obtain⟨os,DM,fa,_⟩:=zCy hs hJ;split at hv
 .rename_i h0;cases hv;refine⟨_,w,?_,FR.refl _ _,m,rfl⟩;subst rH;subst fa
  have:Nat.min m' n=0:=h0
  cases od<;>cases os<;>simp[Builtin.copy_,run_underlying ht,Builtin.lenOf,this,qH hi,Builtin.firstCells,loadCells,loadCellsFrom,storeCells,goInt]
 .rename_i h0;split at hv
  .rename_i o off n' cap;simp only[Option.bind_eq_some_iff,Option.map_eq_some_iff,Prod.mk.injEq]at hv;obtain⟨news,hf,h1,hw,rfl,rfl⟩:=hv;obtain⟨ad,jz,yA,nc,rE,hle,eR,jn,aK,db⟩:=zDj m hs h0 hf;cases hn;have key:∃l cp,j o=some l/\cd=.slice (some ⟨l.blk,l.base+off,none⟩) n cp:=by
    cases cap with
    |known q=>
     obtain⟨l,a,hl,rfl,ha⟩:=hd;rcases ha with rfl|⟨_,hz⟩
     .exact⟨l,_,hl,rfl⟩
     .subst hz;simp at h0
    |grown q=>
     obtain⟨l,cp,f,hl,rfl,_,dg,_⟩:=hd;rcases dg with rfl|⟨hz,_⟩
     .exact⟨l,_,hl,rfl⟩
     .subst hz;simp at h0
   obtain⟨l,cp,hl,rfl⟩:=key;obtain⟨w',cA,hm,ln⟩:=m.wr (P:=P) hl eR hw;refine⟨_,w',?_,ln,hm,rfl⟩;rw[rE]at fa;simp only[Value.slice.injEq]at fa;obtain⟨rfl,rfl,rfl⟩:=fa;subst rE;have pU:Nat.min jz n=min jz n:=rfl;have Bm:=zBa (P:=P) (w:=w) (len:=jz) (cp:=yA) jn db;simp[Builtin.copy_,run_underlying ht,Builtin.lenOf,pU,qH hi,Bm,cA,goInt]
  .cases hv
end Go.Ab
set_option linter.unusedSimpArgs false
set_option linter.unusedVariables false
namespace Go.Ab
open Go.RowKit
variable{P:Program}{B:Nat}{w0 w:World}{j:Inj}{h:AHeap}{nt:Nat}{e:Env}{a:Act}
theorem Ends.wp{o:Oper}{K:AV->AHeap->Prop}{next:Act->World->Prop}{Q:Exit->Act->World->Prop}(he:Ends P (execOp a.eval o) w B w0 j h K)
  (hn:∀v h' j' cv w',FR j h j' h'->MR B w0 j' h' w'->VI j' v cv->K v h'->next (a.put o.dst cv) w'):o.wp P a w next Q:=by
 obtain⟨v,h',j',cv,w',hr,hf,hm,hv,hk⟩:=he;unfold Oper.wp;rcases hr with hr|⟨hr,rfl⟩
 .rw[hr];exact hn v h' j' cv w' hf hm hv hk
 .rw[hr];exact hn v h' j' undef w' hf hm hv hk
theorem zDf{f:FuncId}(hf:okF P f=true)(args:Array Value):(callFunc f args).run P w=.ok (.enter f args) w:=by
 unfold okF at hf;split at hf
 .rename_i fn rj;simp only[Bool.and_eq_true,Bool.not_eq_true']at hf;have h2:fn.body.isNone=false:=by rw[Option.isNone_eq_false_iff];exact hf.1
  simp only[callFunc,Sem.run_bind,run_program,Result.andThen_ok,rj,hf.2,h2,Bool.false_eq_true,if_false,Sem.run_pure]
 .cases hf
theorem zKk(m:MR B w0 j h w){o:Oper}{f:FuncId}{args:List AV}{cargs:Array Value}(mL:(execOp a.eval o).run P w=.ok (.enter f cargs) w)(aM:VIs j args cargs.toList)
  {K:AV->AHeap->Prop} (hk:ZK P f args h K) {next:Act->World->Prop} {Q:Exit->Act->World->Prop}
  (hn:∀v h' j' cv w',FR j h j' h'->MR B w0 j' h' w'->VI j' v cv->K v h'->next (a.put o.dst cv) w'):o.wp P a w next Q:=by
 unfold Oper.wp;rw[mL];have hc:=hk B w0 j w cargs.toList m aM;rw[Array.toArray_toList]at hc;refine hc.mono ?_
 rintro en w' ⟨v,h',j',cv,rfl,hf,hm,hv,hk⟩
 exact hn v h' j' cv w' hf hm hv hk
theorem zLq(m:MR B w0 j h w)(r:ER nt j e a){o:Oper}{io:IOp}(hc:copE P o.op=some io){K:AV->AHeap->Prop}(he:eff P io e h K){next:Act->World->Prop}{Q:Exit->Act->World->Prop}
  (hn:∀v h' j' cv w',FR j h j' h'->MR B w0 j' h' w'->VI j' v cv->K v h'->next (a.put o.dst cv) w'):o.wp P a w next Q:=by
 obtain⟨dst,op,ty,pos,after,guard⟩:=o;cases op<;>simp only[copE]at hc<;>(try (cases hc;done))
 case alloc t=>
  simp only[Option.bind_eq_some_iff,Option.map_eq_some_iff]at hc;obtain⟨z,⟨i,hi,hz⟩,zs,cR,rfl⟩:=hc;exact Ends.wp (o:=⟨dst,.alloc t,ty,pos,after,guard⟩) (zLy m hi hz cR he) hn
 case box t x=>
  simp only[Option.map_eq_some_iff]at hc;obtain⟨ix,hx,rfl⟩:=hc;exact Ends.wp (o:=⟨dst,.box t x,ty,pos,after,guard⟩) (zPZ m (zK r hx) he.1 he.2) hn
 case buildSlice t len ps=>
  split at hc
  .rename_i et ht;simp only[Option.bind_eq_some_iff]at hc;obtain⟨i,hi,z,hz,zs,cR,qs,ja,hc⟩:=hc;split at hc
   .rename_i hb;cases hc;obtain⟨cs,hf,hk⟩:=he;exact Ends.wp (o:=⟨dst,.buildSlice t len ps,ty,pos,after,guard⟩) (zIh m r ht hi hz cR ja hb.1 hb.2.1 hb.2.2 hf hk) hn
   .cases hc
  .cases hc
 case store t x v=>
  simp only[Option.bind_eq_some_iff]at hc;obtain⟨i,hi,ix,hx,iv,hv,hc⟩:=hc;cases hc;simp only[eff]at he;split at he
  .rename_i o k hp;have iM:=zK r hx;rw[hp]at iM;obtain⟨hl,h',hw,hk⟩:=he;exact Ends.wp (o:=⟨dst,.store t x v,ty,pos,after,guard⟩) (zKt m hi iM (zK r hv) hl hw hk) hn
  .exact he.elim
 case makeSlice t l c=>
  split at hc
  .rename_i et ht;simp only[Option.bind_eq_some_iff]at hc;obtain⟨i,hi,z,hz,zs,cR,il,aI,ic,vj,hc⟩:=hc;split at hc
   .rename_i hb;cases hc;simp only[eff]at he;split at he
    .rename_i kl l' kc c' h1 h2;have q1:=zK r aI;have q2:=zK r vj;rw[h1]at q1;rw[h2]at q2;obtain⟨⟨b1,b2,b3,b4⟩,hk⟩:=he
     have:=zJe (P:=P) (t:=t) m ht hi hz cR hb.1 hb.2 (kl:=kl) (kc:=kc) b1 b2 b3 b4 hk
     rw[<-show a.eval l=Value.int kl l' from q1,<-show a.eval c=Value.int kc c' from q2]at this;exact Ends.wp (o:=⟨dst,.makeSlice t l c,ty,pos,after,guard⟩) this hn
    .exact he.elim
   .cases hc
  .cases hc
 case call c=>
  obtain⟨callee,args,argTypes⟩:=c;simp only[zD3]at hc;split at hc<;>(try (cases hc;done))
  .split at hc<;>(try (cases hc;done))
   .rename_i s x t t' aM gD;split at hc<;>(try (cases hc;done))
    rename_i et ht;split at hc;rotate_left
    .split at hc<;>(try (cases hc;done))
     rename_i kn cZ;have e1:args = #[s,x]:=by rw[<-Array.toArray_toList (xs:=args),aM]
     have e2:argTypes = #[t,t']:=by rw[<-Array.toArray_toList (xs:=argTypes),gD]
     clear aM gD;subst e1;subst e2;simp only[Option.bind_eq_some_iff]at hc;obtain⟨i,hi,z,hz,zs,cR,is,nV,ix,l4,hc⟩:=hc;split at hc
     .rename_i hb;cases hc;simp only[eff]at he;split at he
      .rename_i k n h1 h2;have q1:=zK r nV;have q2:=zK r l4;rw[h1]at q1;rw[h2]at q2;obtain⟨⟨b1,b2,b3⟩,hk⟩:=he;obtain⟨v,h',hv,hk⟩:∃v h',(if 0<n then agrow i.size i.bytes h .nils (zeros zs n.toNat) n.toNat else(asame .nils).map λv=>(v,h))=some (v,h')/\K v h':=by
        by_cases b0:0<n
        .rw[if_pos b0]at hk ⊢;have bb:n.toNat*i.bytes<=140737488355328:=by
          have e:((n.toNat*i.bytes:Nat):Int)=n*i.bytes:=by rw[Int.natCast_mul,Int.toNat_of_nonneg b1]
          omega
         exact⟨_,_,by simp only[agrow];rw[if_pos ⟨bb,by omega⟩],hk⟩
        .rw[if_neg b0]at hk ⊢;exact⟨_,_,rfl,hk⟩
       obtain⟨j',cv,w',hr,hf,hm,jD⟩:=zC8 (P:=P) (ty:=ty) m ht cZ hi hz cR hb.1 hb.2 (k:=k) b1 b2 b3 q1 hv;rw[<-show a.eval x=Value.int k n from q2]at hr;refine Ends.wp ⟨_,_,j',cv,w',.inl ?_,hf,hm,jD,hk⟩ hn;simp[execOp,resolve,invoke,builtin,hr]
      .rename_i o off len c k n h1 h2;have q1:=zK r nV;have q2:=zK r l4;rw[h1]at q1;rw[h2]at q2;obtain⟨⟨b1,b2,b3⟩,p,hv,hk⟩:=he;obtain⟨j',cv,w',hr,hf,hm,jD⟩:=zC8 (P:=P) (ty:=ty) m ht cZ hi hz cR hb.1 hb.2 (k:=k) b1 b2 b3 q1 hv;rw[<-show a.eval x=Value.int k n from q2]at hr;refine Ends.wp ⟨_,_,j',cv,w',.inl ?_,hf,hm,jD,hk⟩ hn;simp[execOp,resolve,invoke,builtin,hr]
      .exact he.elim
     .cases hc
    rename_i iH;subst iH;have e1:args = #[s,x]:=by rw[<-Array.toArray_toList (xs:=args),aM]
    have e2:argTypes = #[t,t]:=by rw[<-Array.toArray_toList (xs:=argTypes),gD]
    clear aM gD;subst e1;subst e2;simp only[Option.bind_eq_some_iff]at hc;obtain⟨i,hi,z,hz,is,nV,ix,l4,hc⟩:=hc;split at hc
    .rename_i hb;cases hc;obtain⟨⟨v,h'⟩,hv,hk⟩:=he;obtain⟨j',cv,w',hr,hf,hm,jD⟩:=zIq (P:=P) (ty:=ty) m ht hi hz hb.1 hb.2 (zK r nV) (zK r l4) hv;refine Ends.wp ⟨v,h',j',cv,w',.inl ?_,hf,hm,jD,hk⟩ hn;simp[execOp,resolve,invoke,builtin,hr]
    .cases hc
   .rename_i d s t t' aM gD;split at hc<;>(try (cases hc;done))
    rename_i et ht;have e1:args = #[d,s]:=by rw[<-Array.toArray_toList (xs:=args),aM]
    have e2:argTypes = #[t,t']:=by rw[<-Array.toArray_toList (xs:=argTypes),gD]
    clear aM gD;subst e1;subst e2;simp only[Option.bind_eq_some_iff]at hc;obtain⟨i,hi,id,iP,is,nV,hc⟩:=hc;cases hc;obtain⟨⟨v,h'⟩,hv,hk⟩:=he;obtain⟨cv,w',hr,hf,hm,jD⟩:=zLn (P:=P) (ty:=ty) (t':=t') m ht hi (zK r iP) (zK r nV) hv;refine Ends.wp ⟨v,h',j,cv,w',.inl ?_,hf,hm,jD,hk⟩ hn;simp[execOp,resolve,invoke,builtin,hr]
  .rename_i f;split at hc
   .rename_i la;simp only[Option.map_eq_some_iff]at hc;obtain⟨ixs,uh,rfl⟩:=hc;have vI:ZK P f (ixs.map (·.ev e)) h K:=he;refine zKk (o:=⟨dst,.call ⟨.value (.func f),args,argTypes⟩,ty,pos,after,guard⟩) m (cargs:=args.map a.eval) (args:=ixs.map (·.ev e)) ?_ (by simpa using zAz r uh) vI hn;simp[execOp,resolve,Act.eval,Deferred.ofValue,invoke,zDf la]
   .cases hc
  .rename_i t;simp only[Option.map_eq_some_iff]at hc;obtain⟨ixs,uh,rfl⟩:=hc;simp only[eff]at he;split at he
   .rename_i f first cg Bj
    have hv:=r.vals t;rw[show e t=_ from Bj]at hv;obtain⟨vs,us,h1,h2,h3⟩:=hv;refine zKk (o:=⟨dst,.call ⟨.value (.tmp t),args,argTypes⟩,ty,pos,after,guard⟩) m (cargs:=vs.toArray++args.map a.eval++us.toArray) ?_ (by simpa using (h1.append (zAz r uh)).append h2) he.2 hn;have vF:a.eval (.tmp t)=.func (.func f) vs.toArray us.toArray:=h3;simp[execOp,resolve,vF,Deferred.ofValue,invoke,zDf he.1]
   .exact he.elim
end Go.Ab
set_option linter.unusedSimpArgs false
set_option linter.unusedVariables false
namespace Go.Ab
open Go.RowKit
structure II where
 dst:Option Nat
 op:IOp
 q:Bool
 guard:Option (Nat×Bool)
def zAT(ops:Array Oper):Option (Nat×Bool)->Option (Option (Nat×Bool))
 |none=>some none
 |some (k,b)=>((ops[k]?).bind (·.dst)).map λt=>some (t,b)
def dstOk(nt:Nat):Option Nat->Bool
 |some d=>decide (d<nt)
 |none=>true
def cItem(P:Program)(nt:Nat)(ops:Array Oper)(o:Oper):Option II:=
 (zAT ops o.guard).bind λg=>if dstOk nt o.dst=true then
  match copQ P o.op with
  |some io=>some ⟨o.dst,io,true,g⟩
  |none=>(copE P o.op).map λio=>⟨o.dst,io,false,g⟩
 else none
def gq(nb:Nat)(it:II)(e:Env)(h:AHeap):Option AV:=
 match it.guard with
 |none=>qv nb it.op e h
 |some (t,b)=>match e t with
  | .bool c=>if c=b then qv nb it.op e h else some (.tup [])
  | .tup []=>some (.tup [])
  |_=>none
def ge(P:Program)(it:II)(e:Env)(h:AHeap)(K:AV->AHeap->Prop):Prop:=
 match it.guard with
 |none=>eff P it.op e h K
 |some (t,b)=>match e t with
  | .bool c=>if c=b then eff P it.op e h K else K (.tup []) h
  | .tup []=>K (.tup []) h
  |_=>False
def RV(P:Program):List II->Env->AHeap->(Env->AHeap->Prop)->Prop
 |[],e,h,K=>K e h
 |it::r,e,h,K=>match it.q with
  |true=>optK (gq 0 it e h) λv=>RV P r (e.put it.dst v) h K
  |false=>ge P it e h λv h'=>RV P r (e.put it.dst v) h' K
variable{P:Program}{B:Nat}{w0 w:World}{j:Inj}{h:AHeap}{nt:Nat}{e:Env}{a:Act}{ops:Array Oper}{Q:Exit->Act->World->Prop}
theorem zKq(r:ER nt j e a){k t:Nat}{c:Bool}(hk:(ops[k]?).bind (·.dst)=some t)(ht:e t=.bool c):yielded ops a.tmps k=some c:=by
 have hv:=r.vals t;rw[ht]at hv;have fC:a.tmps.getD t undef=.bool c:=hv;unfold yielded;rw[hk];rw[Array.getD_eq_getD_getElem?]at fC;cases hh:a.tmps[t]? with
 |none=>rw[hh]at fC;cases fC
 |some x=>rw[hh]at fC;simp at fC;subst fC;simp[hh]
theorem zBK:VI j (.tup []) undef:=⟨[],rfl,rfl⟩
theorem zHJ(r:ER nt j e a){k t:Nat}(hk:(ops[k]?).bind (·.dst)=some t)(ht:e t=.tup []):yielded ops a.tmps k=none:=by
 have hv:=r.vals t;rw[ht]at hv;obtain⟨vs,eR,hv⟩:=hv;cases eR;unfold yielded;rw[hk];rw[Array.getD_eq_getD_getElem?]at hv;cases hh:a.tmps[t]? with
 |none=>simp[hh]
 |some x=>rw[hh]at hv;simp at hv;subst hv;simp[hh]
theorem zCI{o:Oper}{it:II}(hc:cItem P nt ops o=some it):
  it.dst=o.dst/\(∀d,it.dst=some d->d<nt)/\zAT ops o.guard=some it.guard/\(it.q=true/\copQ P o.op=some it.op\/it.q=false/\copE P o.op=some it.op):=by
 simp only[cItem,Option.bind_eq_some_iff]at hc;obtain⟨g,hg,hc⟩:=hc;split at hc
 .rename_i hd;have je:∀d,o.dst=some d->d<nt:=by
   intro d je;rw[je]at hd;simpa [dstOk]using hd
  split at hc
  .rename_i io hq;cases hc;exact⟨rfl,je,hg,.inl ⟨rfl,hq⟩⟩
  .simp only[Option.map_eq_some_iff]at hc;obtain⟨io,A5,rfl⟩:=hc;exact⟨rfl,je,hg,.inr ⟨rfl,A5⟩⟩
 .cases hc
theorem zDA(r:ER nt j e a){o:Oper}{g:Option (Nat×Bool)}(hg:zAT ops o.guard=some g):
  (g=none->Region.wanted o (yielded ops a.tmps)=true)/\(∀t b c,g=some (t,b)->e t=.bool c->Region.wanted o (yielded ops a.tmps)=decide (c=b))/\∀t b,g=some (t,b)->e t=.tup []->Region.wanted o (yielded ops a.tmps)=false:=by
 cases ho:o.guard with
 |none=>
  rw[ho]at hg;cases hg;exact⟨λ_=>by simp[Region.wanted,ho],λt b c x=>(by cases x),λt b x=>by cases x⟩
 |some kb=>
  obtain⟨k,b⟩:=kb;rw[ho]at hg;simp only[zAT,Option.map_eq_some_iff]at hg;obtain⟨t,ht,rfl⟩:=hg;refine⟨λx=>by(cases x),λt' b' c x hc=>?_,λt' b' x hc=>?_⟩
  .cases x;simp only[Region.wanted,ho,zKq r ht hc];cases c<;>cases b<;>rfl
  .cases x;simp only[Region.wanted,ho,zHJ r ht hc];rfl
theorem quiet_step(m:MR B w0 j h w)(r:ER nt j e a){i:Nat}{o:Oper}{it:II}(hi:ops[i]? = some o)(hc:cItem P nt ops o=some it)(hq:it.q=true){nb:Nat}{v:AV}(hv:gq nb it e h=some v)
  {next:Act->World->Prop} (hn:∀a',ER nt j (e.put it.dst v) a'->next a' w):wpOp P ops Q i next a w:=by
 obtain⟨hd,ag,hg,aT⟩:=zCI hc;have Bx:copQ P o.op=some it.op:=by
  rcases aT with x|x
  .exact x.2
  .rw[hq]at x;cases x.1
 obtain⟨w1,w2,w3⟩:=zDA r hg;have run:qv nb it.op e h=some v->Region.wanted o (yielded ops a.tmps)=true->wpOp P ops Q i next a w:=by
  intro hv hw;obtain⟨cv,h1,h2⟩:=zLp m r Bx hv;unfold wpOp;simp only[hi,hw,if_true];refine .inl ?_;unfold Oper.wp;rw[h1];exact hn _ (by rw[<-hd];exact r.put ag h2)
 unfold gq at hv;split at hv
 .exact run hv (w1 (by assumption))
 .rename_i t b fK;split at hv
  .rename_i c hc;have hw:=w2 t b c fK hc;split at hv
   .rename_i fP;exact run hv (by rw[hw];simpa using fP)
   .rename_i fP;cases hv;unfold wpOp
    have:Region.wanted o (yielded ops a.tmps)=false:=by rw[hw];simpa using fP
    simp only[hi,this,Bool.false_eq_true,if_false];exact hn _ (by rw[<-hd];exact r.put ag zBK)
  .rename_i hc;cases hv;unfold wpOp;simp only[hi,w3 t b fK hc,Bool.false_eq_true,if_false];exact hn _ (by rw[<-hd];exact r.put ag zBK)
  .cases hv
theorem zIY(m:MR B w0 j h w)(r:ER nt j e a){i:Nat}{o:Oper}{it:II}(hi:ops[i]? = some o)(hc:cItem P nt ops o=some it)(hq:it.q=false){K:AV->AHeap->Prop}(hk:ge P it e h K)
  {next:Act->World->Prop} (hn:∀v h' j' a' w',FR j h j' h'->MR B w0 j' h' w'->ER nt j' (e.put it.dst v) a'->K v h'->next a' w'):wpOp P ops Q i next a w:=by
 obtain⟨hd,ag,hg,aT⟩:=zCI hc;have wj:copE P o.op=some it.op:=by
  rcases aT with x|x
  .rw[hq]at x;cases x.1
  .exact x.2
 obtain⟨w1,w2,w3⟩:=zDA r hg;have run:eff P it.op e h K->Region.wanted o (yielded ops a.tmps)=true->wpOp P ops Q i next a w:=by
  intro hk hw;unfold wpOp;simp only[hi,hw,if_true];refine .inl (zLq m r wj hk ?_);intro v h' j' cv w' hf hm hv hk;exact hn v h' j' _ w' hf hm (by rw[<-hd];exact(r.mono (hf.le m)).put ag hv) hk
 unfold ge at hk;split at hk
 .exact run hk (w1 (by assumption))
 .rename_i t b fK;split at hk
  .rename_i c hc;have hw:=w2 t b c fK hc;split at hk
   .rename_i fP;exact run hk (by rw[hw];simpa using fP)
   .rename_i fP;unfold wpOp
    have:Region.wanted o (yielded ops a.tmps)=false:=by rw[hw];simpa using fP
    simp only[hi,this,Bool.false_eq_true,if_false];exact hn (.tup []) h j _ w (FR.refl _ _) m (by rw[<-hd];exact r.put ag zBK) hk
  .rename_i hc;unfold wpOp;simp only[hi,w3 t b fK hc,Bool.false_eq_true,if_false];exact hn (.tup []) h j _ w (FR.refl _ _) m (by rw[<-hd];exact r.put ag zBK) hk
  .exact hk.elim
def zFt(P:Program)(nt:Nat)(ops:Array Oper):List Oper->Option (List II)
 |[]=>some []
 |o::r=>(cItem P nt ops o).bind λa=>(zFt P nt ops r).bind λb=>some (a::b)
theorem zE5:∀(os:List Oper) (aE:List II) (k:Nat),zFt P nt ops os=some aE->ops.toList.drop k=os->∀{j:Inj} {h:AHeap} {w:World} {e:Env} {a:Act} {K:Env->AHeap->Prop},
  MR B w0 j h w->ER nt j e a->RV P aE e h K->
  (∀j' h' e' a' w',FR j h j' h'->MR B w0 j' h' w'->ER nt j' e' a'->K e' h'->Q .normal a' w')->wpOps P ops Q (List.range' k (ops.size-k)) a w
 |[],aE,k,hc,hd,j,h,w,e,a,K,m,r,hk,hn=>by
  cases hc
  have:ops.size-k=0:=by
   have:=congrArg List.length hd
   simpa using this
  rw[this];exact hn j h e a w (FR.refl _ _) m r hk
 |o::os,aE,k,hc,hd,j,h,w,e,a,K,m,r,hk,hn=>by
  simp only[zFt,Option.bind_eq_some_iff]at hc;obtain⟨it,aZ,my,gK,hc⟩:=hc;cases hc;have ag:k<ops.size:=by
   have:=congrArg List.length hd
   simp at this;omega
  have hi:ops[k]? = some o:=by
   have:ops.toList[k]? = some o:=by
    have:=congrArg List.head? hd
    rwa[List.head?_drop]at this
   simpa using this
  have je:ops.toList.drop (k+1)=os:=by
   have:=congrArg List.tail hd
   simpa [List.tail_drop]using this
  have hr:ops.size-k=(ops.size-(k+1))+1:=by omega
  rw[hr,List.range'_succ,wpOps_cons];unfold RV at hk;split at hk
  .rename_i hq;obtain⟨v,hv,hk⟩:=hk;exact quiet_step m r hi aZ hq hv λa' r'=>zE5 os my (k+1) gK je m r' hk hn
  .rename_i hq;refine zIY m r hi aZ hq hk ?_;intro v h' j' a' w' hf hm hr hk;exact zE5 os my (k+1) gK je hm hr hk λgx cN gO kK tC dg=>hn gx cN gO kK tC (hf.trans dg)
end Go.Ab
set_option linter.unusedSimpArgs false
set_option linter.unusedVariables false
namespace Go.Ab
open Go.RowKit
structure DI extends II where
 idx:Nat
 chk:List Nat
structure Rec where
 idx:Nat
 agg:Bool
 n:Nat
 x:AV
 v:AV
def zi(g:Option (Nat×Bool))(e:Env):Bool:=
 match g with
 |none=>true
 |some (t,b)=>match e t with
  | .bool c=>decide (c=b)
  |_=>false
def recOf(it:DI)(e:Env)(v:AV):List Rec:=
 match it.op with
 | .load agg n x=>if zi it.guard e=true then [⟨it.idx,agg,n,x.ev e,v⟩]else []
 |_=>[]
def RecOK(chk:List Nat):List Rec->AHeap->Prop
 |[],_=>True
 |r::rs,h=>(if chk.contains r.idx=true then ldv r.agg r.n r.x h=some r.v else True)/\RecOK chk rs h
def DV(P:Program)(nb:Nat):List DI->List Rec->Env->AHeap->(Env->AHeap->Prop)->Prop
 |[],_,e,h,K=>K e h
 |it::r,recs,e,h,K=>match it.q with
  |true=>optK (gq nb it.toII e h) λv=>DV P nb r (recOf it e v++recs) (e.put it.dst v) h K
  |false=>ge P it.toII e h λv h'=>RecOK it.chk recs h'/\DV P nb r recs (e.put it.dst v) h' K
def IX.rd:IX->List Nat
 | .t n=>[n]
 | .c _=>[]
def ixos(x:Option IX):List Nat:=match x with|some x=>x.rd|none=>[]
def ixs(l:List IX):List Nat:=l.flatMap IX.rd
def ixps(l:List (Nat×Nat×IX)):List Nat:=l.flatMap λp=>p.2.2.rd
def IOp.reads:IOp->List Nat
 | .mv x | .un _ x | .conv _ x | .nilCheck x | .field _ _ _ x | .fieldAddr _ x | .extract x _ | .len x | .lenStr x | .cap x | .load _ _ x | .box x=>x.rd
 | .pick c a b=>c.rd++a.rd++b.rd
 | .bin _ _ x y | .indexAddr _ x y | .indexStr x y | .maxmin _ x y | .store _ x y | .makeSl _ _ _ x y | .appendMk _ _ _ x y | .append _ _ x y | .copy _ x y=>x.rd++y.rd
 | .build _ ps | .buildSl _ _ _ ps=>ixps ps
 | .slice _ x lo hi mx=>x.rd++ixos lo++ixos hi++ixos mx
 | .sliceStr x lo hi=>x.rd++ixos lo++ixos hi
 | .makeFunc _ a b=>ixs a++ixs b
 | .call _ a=>ixs a
 | .callV f a=>f.rd++ixs a
 | .rev _ | .revS _ _ | .alloc _=>[]
def II.reads(it:II):List Nat:=it.op.reads++(match it.guard with|some (t,_)=>[t] |none=>[])
variable{P:Program}{h h':AHeap}{nb:Nat}{e e':Env}{a:Act}
theorem IX.ev_congr{x:IX}(he:∀t∈x.rd,e t=e' t):x.ev e=x.ev e':=by
 cases x with
 |t n=>exact he n (by simp[IX.rd])
 |c v=>rfl
theorem zAO{x:Option IX}(he:∀t∈ixos x,e t=e' t):x.map (·.ev e)=x.map (·.ev e'):=by
 cases x with
 |none=>rfl
 |some x=>simp[IX.ev_congr (x:=x) he]
theorem zB3{l:List IX}(he:∀t∈ixs l,e t=e' t):l.map (·.ev e)=l.map (·.ev e'):=by
 apply List.map_congr_left;intro x hx;exact IX.ev_congr λt ht=>he t (List.mem_flatMap.2 ⟨x,hx,ht⟩)
theorem zFf{l:List (Nat×Nat×IX)}(he:∀t∈ixps l,e t=e' t):(l.map λp=>(p.1,p.2.1,p.2.2.ev e))=l.map λp=>(p.1,p.2.1,p.2.2.ev e'):=by
 apply List.map_congr_left;intro x hx;rw[IX.ev_congr λt ht=>he t (List.mem_flatMap.2 ⟨x,hx,ht⟩)]
theorem zOO{op:IOp}(he:∀t∈op.reads,e t=e' t):qv nb op e h=qv nb op e' h:=by
 cases op<;>simp only[IOp.reads,List.mem_append,or_imp,forall_and]at he<;>simp only[qv]
 case mv x=>rw[IX.ev_congr he]
 case pick c a b=>rw[IX.ev_congr he.1.1,IX.ev_congr he.1.2,IX.ev_congr he.2]
 case bin o k x y=>rw[IX.ev_congr he.1,IX.ev_congr he.2]
 case un o x=>rw[IX.ev_congr he]
 case conv k x=>rw[IX.ev_congr he]
 case nilCheck x=>rw[IX.ev_congr he]
 case build z ps=>rw[zFf he]
 case field a n o x=>rw[IX.ev_congr he]
 case fieldAddr o x=>rw[IX.ev_congr he]
 case indexAddr s x y=>rw[IX.ev_congr he.1,IX.ev_congr he.2]
 case indexStr x y=>rw[IX.ev_congr he.1,IX.ev_congr he.2]
 case extract x i=>rw[IX.ev_congr he]
 case len x=>rw[IX.ev_congr he]
 case lenStr x=>rw[IX.ev_congr he]
 case cap x=>rw[IX.ev_congr he]
 case slice s x lo hi mx=>rw[IX.ev_congr he.1.1.1,zAO he.1.1.2,zAO he.1.2,zAO he.2]
 case sliceStr x lo hi=>rw[IX.ev_congr he.1.1,zAO he.1.2,zAO he.2]
 case maxmin m x y=>rw[IX.ev_congr he.1,IX.ev_congr he.2]
 case makeFunc f a b=>rw[zB3 he.1,zB3 he.2]
 case load a n x=>rw[IX.ev_congr he]
theorem zNk{op:IOp}(he:∀t∈op.reads,e t=e' t){K:AV->AHeap->Prop}(hk:eff P op e h K):eff P op e' h K:=by
 cases op<;>simp only[IOp.reads,List.mem_append,or_imp,forall_and]at he<;>simp only[eff]at hk ⊢<;>(try exact hk)
 case box x=>rw[<-IX.ev_congr he];exact hk
 case buildSl a b c ps=>rw[<-zFf he];exact hk
 case store n x v=>rw[<-IX.ev_congr he.1,<-IX.ev_congr he.2];exact hk
 case makeSl a b z l c=>rw[<-IX.ev_congr he.1,<-IX.ev_congr he.2];exact hk
 case appendMk a b z l c=>rw[<-IX.ev_congr he.1,<-IX.ev_congr he.2];exact hk
 case append a b s x=>rw[<-IX.ev_congr he.1,<-IX.ev_congr he.2];exact hk
 case copy a d s=>rw[<-IX.ev_congr he.1,<-IX.ev_congr he.2];exact hk
 case call f a=>rw[<-zB3 he];exact hk
 case callV f a=>rw[<-IX.ev_congr he.1,<-zB3 he.2];exact hk
theorem zEy{op:IOp}{K K':AV->AHeap->Prop}(hm:∀v h',K v h'->K' v h')(hk:eff P op e h K):eff P op e h K':=by
 cases op<;>simp only[eff]at hk ⊢
 case alloc z=>exact hm _ _ hk
 case box x=>exact⟨hk.1,hm _ _ hk.2⟩
 case buildSl a b c ps=>obtain⟨x,y,z⟩:=hk;exact⟨x,y,hm _ _ z⟩
 case store n x v=>
  split at hk
  .obtain⟨x,y,z,u⟩:=hk;exact⟨x,y,z,hm _ _ u⟩
  .exact hk
 case makeSl a b z l c=>
  split at hk
  .exact⟨hk.1,hm _ _ hk.2⟩
  .exact hk
 case appendMk a b z l c=>
  split at hk
  .refine⟨hk.1,?_⟩;have h2:=hk.2;split at h2
   .rename_i hp;rw[if_pos hp];exact hm _ _ h2
   .rename_i hp;rw[if_neg hp];exact hm _ _ h2
  .obtain⟨x,y,z,u⟩:=hk;exact⟨x,y,z,hm _ _ u⟩
  .exact hk
 case append a b s x=>obtain⟨x,y,z⟩:=hk;exact⟨x,y,hm _ _ z⟩
 case copy a d s=>obtain⟨x,y,z⟩:=hk;exact⟨x,y,hm _ _ z⟩
 case call f a=>exact hk.mono hm
 case callV f a=>
  split at hk
  .exact⟨hk.1,hk.2.mono hm⟩
  .exact hk
theorem II.reads_op{it:II}{t:Nat}(ht:t∈it.op.reads):t∈it.reads:=List.mem_append_left _ ht
theorem II.reads_guard{it:II}{t:Nat}{b:Bool}(hg:it.guard=some (t,b)):t∈it.reads:=by simp[II.reads,hg]
theorem zEq{it:II}(he:∀t∈it.reads,e t=e' t):gq nb it e h=gq nb it e' h:=by
 have h1:=zOO (nb:=nb) (h:=h) (op:=it.op) λt ht=>he t (II.reads_op ht);unfold gq;split
 .exact h1
 .rename_i t b hg;rw[he t (II.reads_guard hg)];simp only[h1]
theorem zPJ{it:II}(he:∀t∈it.reads,e t=e' t){K:AV->AHeap->Prop}(hk:ge P it e h K):ge P it e' h K:=by
 have h1:eff P it.op e h K->eff P it.op e' h K:=zNk λt ht=>he t (II.reads_op ht);unfold ge at hk ⊢;split
 .rename_i hg;rw[hg]at hk;exact h1 hk
 .rename_i t b hg;rw[hg]at hk;rw[<-he t (II.reads_guard hg)];simp only at hk;split at hk
  .split at hk
   .rename_i fP;rw[if_pos fP];exact h1 hk
   .rename_i fP;rw[if_neg fP];exact hk
  .exact hk
  .exact hk.elim
theorem zD1{it:II}{K K':AV->AHeap->Prop}(hm:∀v h',K v h'->K' v h')(hk:ge P it e h K):ge P it e h K':=by
 unfold ge at hk ⊢;split
 .rename_i hg;rw[hg]at hk;exact zEy hm hk
 .rename_i t b hg;rw[hg]at hk;simp only at hk;split at hk
  .split at hk
   .rename_i fP;rw[if_pos fP];exact zEy hm hk
   .rename_i fP;rw[if_neg fP];exact hm _ _ hk
  .exact hm _ _ hk
  .exact hk.elim
theorem zA6{it:II}(he:∀t∈it.reads,e t=e' t):zi it.guard e=zi it.guard e':=by
 unfold zi;split
 .rfl
 .rename_i t b hg;rw[he t (II.reads_guard hg)]
theorem zCD{it:DI}(he:∀t∈it.reads,e t=e' t)(v:AV):recOf it e v=recOf it e' v:=by
 unfold recOf;split
 .rename_i agg n x aT;rw[zA6 he,IX.ev_congr (x:=x) (e:=e) (e':=e') λt ht=>he t (II.reads_op (by rw[aT];exact ht))]
 .rfl
def IOp.isLoad:IOp->Bool
 | .load _ _ _=>true
 |_=>false
theorem zQJ{op:IOp}(hl:op.isLoad=false):qv nb op e h=qv nb op e h':=by
 cases op<;>first|rfl|(simp[IOp.isLoad]at hl)
theorem zA3{chk:List Nat}:∀{recs:List Rec},RecOK chk recs h↔∀r∈recs,chk.contains r.idx=true->ldv r.agg r.n r.x h=some r.v
 |[]=>by simp[RecOK]
 |r::rs=>by
  simp only[RecOK,zA3 (recs:=rs),List.mem_cons,forall_eq_or_imp];refine and_congr_left λ_=>?_;by_cases hc:chk.contains r.idx=true
  .rw[if_pos hc];exact⟨λx _=>x,λx=>x hc⟩
  .rw[if_neg hc];exact⟨λ_ x=>absurd x hc,λ_=>trivial⟩
theorem RecOK.sub{chk:List Nat}{recs bY:List Rec}(hs:∀r∈bY,r∈recs)(hk:RecOK chk recs h):RecOK chk bY h:=
 zA3.2 λr hr=>zA3.1 hk r (hs r hr)
theorem DV.sub:∀(l:List DI) {recs bY:List Rec} {e:Env} {h:AHeap} {K:Env->AHeap->Prop},(∀r∈bY,r∈recs)->DV P nb l recs e h K->DV P nb l bY e h K
 |[],_,_,_,_,_,_,hk=>hk
 |it::r,recs,bY,e,h,K,hs,hk=>by
  unfold DV at hk ⊢;split
  .rename_i hq;rw[hq]at hk;obtain⟨v,hv,hk⟩:=hk;refine⟨v,hv,DV.sub r (λx hx=>?_) hk⟩;simp only[List.mem_append]at hx ⊢;exact hx.imp id (hs x)
  .rename_i hq;rw[hq]at hk;exact zD1 (λv h' hk=>⟨hk.1.sub hs,DV.sub r hs hk.2⟩) hk
def apart(q p:II):Bool:=
 (match q.dst with|some d=>!p.reads.contains d && p.dst != some d|none=>true) && (match p.dst with|some d=>!q.reads.contains d|none=>true)
theorem apart_spec{q p:II}(lF:apart q p=true):(∀(e:Env) v,∀t∈p.reads,(e.put q.dst v) t=e t)/\(∀(e:Env) v,∀t∈q.reads,(e.put p.dst v) t=e t)/\
  ∀(e:Env) u v,(e.put q.dst u).put p.dst v=(e.put p.dst v).put q.dst u:=by
 unfold apart at lF;simp only[Bool.and_eq_true]at lF;obtain⟨h1,h2⟩:=lF;refine⟨λe v t ht=>?_,λe v t ht=>?_,λe u v=>?_⟩
 .cases hq:q.dst with
  |none=>rfl
  |some d=>
   rw[hq]at h1;simp at h1;simp only[Env.put];rw[if_neg (λ(x:t=d)=>h1.1 (x ▸ ht))]
 .cases hp:p.dst with
  |none=>rfl
  |some d=>
   rw[hp]at h2;simp at h2;simp only[Env.put];rw[if_neg (λ(x:t=d)=>h2 (x ▸ ht))]
 .cases hq:q.dst with
  |none=>cases p.dst<;>rfl
  |some d=>
   cases hp:p.dst with
   |none=>rfl
   |some d'=>
    rw[hq,hp]at h1;simp at h1;have ai:d'≠d:=h1.2;funext t;simp only[Env.put];by_cases x:t=d'
    .subst x;simp[ai]
    .simp[x]
theorem zEV{p:DI}{l2:List DI}(hp:p.q=true):∀(l1:List DI) {recs:List Rec} {e:Env} {h:AHeap} {K:Env->AHeap->Prop},(∀q∈l1,q.q=true/\apart q.toII p.toII=true)->
  DV P nb (l1++p::l2) recs e h K->∃v,gq nb p.toII e h=some v/\DV P nb (l1++l2) (recOf p e v++recs) (e.put p.dst v) h K
 |[],recs,e,h,K,_,hk=>by
  simp only[List.nil_append,DV,hp]at hk;exact hk
 |q::l1,recs,e,h,K,ha,hk=>by
  obtain⟨hq,lF⟩:=ha q (by simp);obtain⟨s1,s2,s3⟩:=apart_spec lF;simp only[List.cons_append,DV,hq]at hk;obtain⟨vq,um,hk⟩:=hk;obtain⟨v,hv,hk⟩:=zEV hp l1 (λx hx=>ha x (by simp[hx])) hk;rw[zEq (s1 e vq)]at hv;refine⟨v,hv,?_⟩;simp only[List.cons_append,DV,hq];refine⟨vq,by rw[zEq (s2 e v)];exact um,?_⟩;rw[zCD (s1 e vq)]at hk;dsimp only;rw[zCD (s2 e v),<-s3];refine DV.sub _ (λr hr=>?_) hk;simp only[List.mem_append]at hr ⊢;rcases hr with hr|hr|hr
  .exact .inr (.inl hr)
  .exact .inl hr
  .exact .inr (.inr hr)
theorem zGq{p:DI}{l2:List DI}(hp:p.q=false):∀(l1:List DI) {recs:List Rec} {e:Env} {h:AHeap} {K:Env->AHeap->Prop},
  (∀q∈l1,q.q=true/\apart q.toII p.toII=true/\(q.op.isLoad=true->p.chk.contains q.idx=true))->
  DV P nb (l1++p::l2) recs e h K->ge P p.toII e h λv h'=>RecOK p.chk recs h'/\DV P nb (l1++l2) recs (e.put p.dst v) h' K
 |[],recs,e,h,K,_,hk=>by
  simp only[List.nil_append,DV,hp]at hk;exact hk
 |q::l1,recs,e,h,K,ha,hk=>by
  obtain⟨hq,lF,iN⟩:=ha q (by simp);obtain⟨s1,s2,s3⟩:=apart_spec lF;simp only[List.cons_append,DV,hq]at hk;obtain⟨vq,um,hk⟩:=hk
  have:=zGq hp l1 (λx hx=>ha x (by simp[hx])) hk
  refine zD1 (λv h' hk=>?_) (zPJ (s1 e vq) this);obtain⟨pA,hk⟩:=hk;refine⟨pA.sub λr hr=>List.mem_append_right _ hr,?_⟩;simp only[List.cons_append,DV,hq];refine⟨vq,?_,?_⟩
  .have h1:gq nb q.toII (e.put p.dst v) h=some vq:=by rw[zEq (s2 e v)];exact um
   rw[<-h1];cases hl:q.op.isLoad with
   |false=>
    unfold gq;simp only[zQJ (nb:=nb) (e:=e.put p.dst v) (h:=h') (h':=h) hl]
   |true=>
    cases aT:q.op with
    |load agg n x=>
     have aY:x.ev (e.put p.dst v)=x.ev e:=IX.ev_congr λt ht=>s2 e v t (II.reads_op (by rw[aT];exact ht));cases hw:zi q.guard e with
     |true=>
      have hr:=zA3.1 pA ⟨q.idx,agg,n,x.ev e,vq⟩ (by simp[recOf,aT,hw]) (iN hl);rw[h1];unfold gq;rw[<-zA6 (e:=e.put p.dst v) (s2 e v)]at hw;unfold zi at hw;split
      .show qv nb q.op _ _=_;rw[aT];simp only[qv,aY];exact hr
      .rename_i t b hg;rw[hg]at hw;simp only at hw;split at hw
       .rename_i c hc;rw[hc];simp only;rw[if_pos (by simpa using hw)];show qv nb q.op _ _=_;rw[aT];simp only[qv,aY];exact hr
       .cases hw
     |false=>
      rw[<-zA6 (e:=e.put p.dst v) (s2 e v)]at hw;unfold gq;unfold zi at hw;split
      .rename_i hg;rw[hg]at hw;cases hw
      .rename_i t b hg;rw[hg]at hw;simp only at hw;split at hw
       .rename_i c hc;rw[hc];simp only;rw[if_neg (by simpa using hw),if_neg (by simpa using hw)]
       .rename_i ai;split
        .rename_i c hc;exact absurd hc (ai c)
        .rfl
        .rfl
    |_=>rw[aT]at hl;cases hl
  .dsimp only;rw[zCD (s2 e v),<-s3];exact hk
end Go.Ab
set_option linter.unusedSimpArgs false
set_option linter.unusedVariables false
namespace Go.Ab
open Go.RowKit
def Qn(o:Oper):List Nat:=(o.after.toList.filter λx=>Region.binds .any x).map (·.on)
def IOp.revK:IOp->Option Nat
 | .rev k=>some k
 | .revS k _=>some k
 |_=>none
def cNew(P:Program)(al:Bool)(o:Oper):Option (Nat×List AV):=
 match al,o.op with
 |true,.buildSlice t len ps=>match P.underlying t with
  |some (.slice et)=>(P.info? et).bind λi=>i.zero.bind λz=>(ZL z.cells.toList).bind λzs=>(zAU i.size ps.toList).bind λqs=>
   if qs.all (λp=>p.2.2.rd.isEmpty)=true/\zs.length=i.size/\i.size≠0/\len*i.size<=16777216 then(afill (zeros zs len) (qs.map λp=>(p.1,p.2.1,p.2.2.ev (λ_=>.undef)))).map λcs=>(len,cs)else none
  |_=>none
 |_,_=>none
def cDI(P:Program)(nt:Nat)(ops:Array Oper)(pt:List (List Nat))(al:Bool)(before:List DI)(k i:Nat):Option (DI×Option (List AV)):=
 (ops[i]?).bind λo=>match cNew P al o with
  |some (len,zs)=>(zAT ops o.guard).bind λg=>if dstOk nt o.dst=true then some (⟨⟨o.dst,.revS k len,true,g⟩,i,[]⟩,some zs)else none
  |none=>match o.op with
  | .alloc t=>(zAT ops o.guard).bind λg=>if dstOk nt o.dst=true then((P.info? t).bind (·.zero)).bind λz=>(ZL z.cells.toList).map λzs=>(⟨⟨o.dst,.rev k,true,g⟩,i,[]⟩,some zs)else none
  |_=>(cItem P nt ops o).map λit=>(⟨it,i,if it.q=true then []else(before.filter λq=>q.op.isLoad && !(pt.getD i []).contains q.idx).map (·.idx)⟩,none)
def cDIs(P:Program)(nt:Nat)(ops:Array Oper)(pt:List (List Nat))(al:Bool):List Nat->List DI->Nat->Option (List DI×List (List AV))
 |[],_,_=>some ([],[])
 |i::r,before,k=>(cDI P nt ops pt al before k i).bind λx=>match x.2 with
  |none=>(cDIs P nt ops pt al r (before++[x.1]) k).map λy=>(x.1::y.1,y.2)
  |some z=>(cDIs P nt ops pt al r (before++[x.1]) (k+1)).map λy=>(x.1::y.1,z::y.2)
def zHu(pt:List (List Nat))(q p:DI):Bool:=
 (pt.getD p.idx []).contains q.idx || (apart q.toII p.toII && q.q && (p.q || !q.op.isLoad || p.chk.contains q.idx))
def pairs(f:DI->DI->Bool):List DI->Bool
 |[]=>true
 |q::r=>r.all (f q) && pairs f r
def ptOk(ops:Array Oper)(pt:List (List Nat)):Bool:=
 (List.range ops.size).all λi=>match ops[i]? with
  |some o=>!(pt.getD i []).contains i && (Qn o).all (λd=>decide (d<ops.size) && (pt.getD i []).contains d) && (pt.getD i []).all λx=>(Qn o).any λd=>d == x || (pt.getD d []).contains x
  |none=>true
def dOk(ops:Array Oper)(pt:List (List Nat))(order:List Nat)(aE:List DI):Bool:=
 ptOk ops pt && (aE.map (·.idx) == order) && decide order.Nodup && (order.length == ops.size) && (List.range ops.size).all (λi=>order.contains i) &&
 pairs (zHu pt) aE && pairs (λq p=>!(pt.getD q.idx []).contains p.idx) aE
theorem zEj{f:DI->DI->Bool}:∀{l:List DI},pairs f l=true->l.Pairwise λq p=>f q p=true
 |[],_=>.nil
 |q::r,h=>by
  simp only[pairs,Bool.and_eq_true,List.all_eq_true]at h;exact .cons h.1 (zEj h.2)
variable{P:Program}{B:Nat}{w0 w:World}{j:Inj}{h h':AHeap}{nt nb:Nat}{e e':Env}{a:Act}{ops:Array Oper}{Q:Exit->Act->World->Prop}{pt:List (List Nat)}{zs:List (List AV)}
def Laid(P:Program)(op:IOp)(o:Op)(k:Nat)(z':List AV):Prop:=
 (∃t i z,op=.rev k/\o=.alloc t/\P.info? t=some i/\i.zero=some z/\ZL z.cells.toList=some z')\/
 ∃t et i z zs len ps qs,op=.revS k len/\o=.buildSlice t len ps/\P.underlying t=some (.slice et)/\P.info? et=some i/\i.zero=some z/\ZL z.cells.toList=some zs/\zs.length=i.size/\i.size≠0/\len*i.size<=16777216/\zAU i.size ps.toList=some qs/\qs.all (λp=>p.2.2.rd.isEmpty)=true/\afill (zeros zs len) (qs.map λp=>(p.1,p.2.1,p.2.2.ev (λ_=>.undef)))=some z'
def From(P:Program)(nt:Nat)(ops:Array Oper)(zs:List (List AV))(it:DI):Prop:=
 ∃o,ops[it.idx]? = some o/\(cItem P nt ops o=some it.toII/\it.op.revK=none\/
  ∃k z',it.op.revK=some k/\zs[k]? = some z'/\Laid P it.op o.op k z'/\it.q=true/\it.dst=o.dst/\(∀d,it.dst=some d->d<nt)/\zAT ops o.guard=some it.guard)
theorem zNu{P:Program}{al:Bool}{o:Oper}{len:Nat}{z':List AV}(h:cNew P al o=some (len,z'))(k:Nat):Laid P (.revS k len) o.op k z':=by
 unfold cNew at h;split at h
 .rename_i t jz ps aT;split at h
  .rename_i et hu;simp only[Option.bind_eq_some_iff]at h;obtain⟨i,hi,z,hz,zs,cR,qs,ja,h⟩:=h;split at h
   .rename_i hc;simp only[Option.map_eq_some_iff,Prod.mk.injEq]at h;obtain⟨cs,fa,rfl,rfl⟩:=h;exact .inr ⟨t,et,i,z,zs,_,ps,qs,rfl,aT,hu,hi,hz,cR,hc.2.1,hc.2.2.1,hc.2.2.2,ja,hc.1,fa⟩
   .cases h
  .cases h
 .cases h
theorem zEX{o:Oper}{it:II}(hc:cItem P nt ops o=some it)(op:IOp)(hk:it.op=op)(h:(∃k,op=.rev k)\/∃k n,op=.revS k n):False:=by
 obtain⟨_,_,_,aT⟩:=zCI hc;rcases h with ⟨k,rfl⟩|⟨k,n,rfl⟩
 .rcases aT with ⟨_,aT⟩|⟨_,aT⟩
  .rw[hk]at aT;cases ho:o.op<;>rw[ho]at aT<;>simp only[copQ]at aT<;>(try (cases aT;done))<;>(repeat (first|(split at aT)|(simp only[Option.bind_eq_some_iff,Option.map_eq_some_iff]at aT)|(obtain⟨_,_,aT⟩:=aT)|(cases aT;done)))
  .rw[hk]at aT;cases ho:o.op<;>rw[ho]at aT<;>simp only[copE,zD3]at aT<;>(try (cases aT;done))<;>(repeat (first|(split at aT)|(simp only[Option.bind_eq_some_iff,Option.map_eq_some_iff]at aT)|(obtain⟨_,_,aT⟩:=aT)|(cases aT;done)))
 .rcases aT with ⟨_,aT⟩|⟨_,aT⟩
  .rw[hk]at aT;cases ho:o.op<;>rw[ho]at aT<;>simp only[copQ]at aT<;>(try (cases aT;done))<;>(repeat (first|(split at aT)|(simp only[Option.bind_eq_some_iff,Option.map_eq_some_iff]at aT)|(obtain⟨_,_,aT⟩:=aT)|(cases aT;done)))
  .rw[hk]at aT;cases ho:o.op<;>rw[ho]at aT<;>simp only[copE,zD3]at aT<;>(try (cases aT;done))<;>(repeat (first|(split at aT)|(simp only[Option.bind_eq_some_iff,Option.map_eq_some_iff]at aT)|(obtain⟨_,_,aT⟩:=aT)|(cases aT;done)))
theorem zLo{o:Oper}{it:II}(hc:cItem P nt ops o=some it):it.op.revK=none:=by
 cases aT:it.op with
 |rev k=>exact(zEX hc _ aT (.inl ⟨k,rfl⟩)).elim
 |revS k n=>exact(zEX hc _ aT (.inr ⟨k,n,rfl⟩)).elim
 |_=>rfl
theorem zPX{al:Bool}{before:List DI}{k i:Nat}{it:DI}{oz:Option (List AV)}(aZ:cDI P nt ops pt al before k i=some (it,oz)):∃o,ops[i]? = some o/\it.idx=i/\
  ((oz=none/\cItem P nt ops o=some it.toII)\/∃z',oz=some z'/\it.op.revK=some k/\Laid P it.op o.op k z'/\it.q=true/\it.dst=o.dst/\(∀d,it.dst=some d->d<nt)/\zAT ops o.guard=some it.guard):=by
 simp only[cDI,Option.bind_eq_some_iff]at aZ;obtain⟨o,ho,aZ⟩:=aZ;have je:∀{d0:Option Nat},dstOk nt d0=true->∀d,d0=some d->d<nt:=λ{d0} hd d je=>by
  rw[je]at hd;simpa [dstOk]using hd
 split at aZ
 .rename_i len zs hn;simp only[Option.bind_eq_some_iff]at aZ;obtain⟨g,hg,aZ⟩:=aZ;split at aZ
  .rename_i hd;cases aZ;exact⟨o,ho,rfl,.inr ⟨zs,rfl,rfl,zNu hn k,rfl,rfl,je hd,hg⟩⟩
  .cases aZ
 .split at aZ
  .rename_i t aT;simp only[Option.bind_eq_some_iff]at aZ;obtain⟨g,hg,aZ⟩:=aZ;split at aZ
   .rename_i hd;simp only[Option.bind_eq_some_iff,Option.map_eq_some_iff,Prod.mk.injEq]at aZ;obtain⟨z,⟨ti,sN,hz⟩,z',cU,rfl,rfl⟩:=aZ;exact⟨o,ho,rfl,.inr ⟨z',rfl,rfl,.inl ⟨t,ti,z,rfl,aT,sN,hz,cU⟩,rfl,rfl,je hd,hg⟩⟩
   .cases aZ
  .simp only[Option.map_eq_some_iff,Prod.mk.injEq]at aZ;obtain⟨CY,m8,rfl,rfl⟩:=aZ;exact⟨o,ho,rfl,.inl ⟨rfl,m8⟩⟩
theorem zDg{al:Bool}:∀(order:List Nat) (before:List DI) (k:Nat) {aE:List DI} {ot:List (List AV)},cDIs P nt ops pt al order before k=some (aE,ot)->∀pre:List (List AV),pre.length=k->
  (∀it∈aE,From P nt ops (pre++ot) it/\∀m,it.op.revK=some m->k<=m)/\aE.Pairwise λq p=>∀m m',q.op.revK=some m->p.op.revK=some m'->m≠m'
 |[],before,k,aE,ot,hc,pre,hp=>by
  cases hc;exact⟨λit aZ=>(List.not_mem_nil aZ).elim,.nil⟩
 |i::r,before,k,aE,ot,hc,pre,hp=>by
  simp only[cDIs,Option.bind_eq_some_iff]at hc;obtain⟨⟨it,oz⟩,aZ,hc⟩:=hc;obtain⟨o,ho,rfl,rI⟩:=zPX aZ;rcases rI with ⟨rfl,nY⟩|⟨z',rfl,cW,iO,hq,vJ,ag,hg⟩
  .simp only[Option.map_eq_some_iff,Prod.mk.injEq]at hc;obtain⟨⟨uc,yD⟩,hr,rfl,rfl⟩:=hc;obtain⟨h1,h2⟩:=zDg r _ k hr pre hp;have mY:=zLo nY;refine⟨λx hx=>?_,?_⟩
   .rcases List.mem_cons.1 hx with rfl|hx
    .exact⟨⟨o,ho,.inl ⟨nY,mY⟩⟩,λm hm=>by rw[mY]at hm;cases hm⟩
    .exact h1 x hx
   .exact .cons (λx hx m m' hm hJ=>by rw[mY]at hm;cases hm) h2
  .simp only[Option.map_eq_some_iff,Prod.mk.injEq]at hc;obtain⟨⟨uc,yD⟩,hr,rfl,rfl⟩:=hc;obtain⟨h1,h2⟩:=zDg r _ (k+1) hr (pre++[z']) (by simp[hp]);refine⟨λx hx=>?_,?_⟩
   .rcases List.mem_cons.1 hx with rfl|hx
    .refine⟨⟨o,ho,.inr ⟨k,z',cW,?_,iO,hq,vJ,ag,hg⟩⟩,λm hm=>by rw[cW]at hm;cases hm;exact vM _⟩;simp[<-hp]
    .obtain⟨f1,f2⟩:=h1 x hx;refine⟨by simpa using f1,λm hm=>?_⟩
     have:=f2 m hm
     omega
   .refine .cons (λx hx m m' hm hJ=>?_) h2
    have:=(h1 x hx).2 m' hJ
    rw[cW]at hm;cases hm;omega
theorem zO7(m:MR B w0 j h w){e:Env}{a:Act}(r:ER nt j e a){op:IOp}{o:Oper}{k:Nat}{z':List AV}(hl:Laid P op o.op k z')(hj:j (nb+k)=none)(cX:h.obj (nb+k)=some ⟨true,z'⟩){v:AV}(hv:qv nb op e h=some v):
  ∃(cur:Array Value) (ty:TypeId) (val:Value),(execOp a.eval o).run P w=.ok (.value val) (w.alloc (.cells cur ty))/\MR B w0 (j.put (nb+k) ⟨w.heap.size,0,0⟩) h (w.alloc (.cells cur ty))/\j.le (j.put (nb+k) ⟨w.heap.size,0,0⟩)/\VI (j.put (nb+k) ⟨w.heap.size,0,0⟩) v val:=by
 rcases hl with ⟨t,i,z,rfl,ho,sN,hz,cU⟩|⟨t,et,i,z,zs,len,ps,qs,rfl,ho,ht,hi,hz,cR,cV,ai,u6,ja,ah,hf⟩
 .cases hv;obtain⟨z1,z2⟩:=ZP (j:=j) cU;obtain⟨hm,hle⟩:=m.reveal (ty:=t) (cur:=z.cells) cX hj z2 z1;exact⟨_,_,_,by simp[execOp,ho,Instr.alloc,zeroValue,typeInfo,sN,hz,newVar,newRow],hm,hle,⟨⟨w.heap.size,0,0⟩,by simp[Inj.put],rfl⟩⟩
 .cases hv;obtain⟨z1,z2⟩:=ZP (j:=j) cR;have hl:=z1.length;have gU:z.cells.toList≠[]:=by intro x;rw[x]at hl;simp at hl;rw[hl]at cV;simp at cV;omega
  have fq:((Array.range (len*i.size)).map (z.cells[· % z.cells.size]!)).toList=(List.replicate len z.cells.toList).flatten:=by
   have:=QX z.cells.toList gU len
   rw[<-hl,cV]at this;simpa [madeCells]using this
  have vF:(qs.map λp=>(p.1,p.2.1,p.2.2.ev (λ_=>AV.undef)))=qs.map λp=>(p.1,p.2.1,p.2.2.ev e):=by
   rw[List.all_eq_true]at ah;refine List.map_congr_left λp hp=>?_;rw[IX.ev_congr (x:=p.2.2) (e:=λ_=>AV.undef) (e':=e) λt ht=>by
    have:=ah p hp
    rw[List.isEmpty_iff]at this;rw[this]at ht;cases ht]
  rw[vF]at hf;have gY:∀{ps:List (Nat×Operand)} {qs:List (Nat×Nat×IX)},zAU i.size ps=some qs->ps.length=(qs.map λp=>(p.1,p.2.1,p.2.2.ev e)).length/\
    ∀(k:Nat) (p:Nat×Operand) (q:Nat×Nat×AV),ps[k]? = some p->(qs.map λq=>(q.1,q.2.1,q.2.2.ev e))[k]? = some q->(some (p.1*i.size,i.size))=some (q.1,q.2.1)/\VI j q.2.2 (a.eval p.2):=by
   intro ps
   induction ps with
   |nil=>intro qs hq;cases hq;exact⟨rfl,λk p q hp=>by simp at hp⟩
   |cons p ps ih=>
    intro qs hq;obtain⟨n,x⟩:=p;simp only[zAU,Option.bind_eq_some_iff]at hq;obtain⟨ix,hx,tI,jF,hq⟩:=hq;cases hq;obtain⟨i1,i2⟩:=ih jF;refine⟨by simp at i1 ⊢;exact i1,λk p q hp hq=>?_⟩;cases k with
    |zero=>simp at hp hq;subst hp;subst hq;exact⟨rfl,zK r hx⟩
    |succ k=>exact i2 k p q (by simpa using hp) (by simpa using hq)
  obtain⟨p1,p2⟩:=gY ja;obtain⟨res,cD,r1,r2⟩:=zAQ (place:=λk=>some (k*i.size,i.size)) ps.toList _ (zeros zs len) ((Array.range (len*i.size)).map (z.cells[· % z.cells.size]!)) a.eval z'
   (by rw[fq];exact z1.replicate len) (zBt z2 len) hf p1 p2
  obtain⟨hm,hle⟩:=m.reveal (ty:=et) (cur:=res) cX hj r2 r1;have jO:¬(16777216<len*i.size):=by omega
  have dq:(ps.map λ(i,x)=>(i,a.eval x)).toList=ps.toList.map λp=>(p.1,a.eval p.2):=by simp
  refine⟨_,_,.slice (some ⟨w.heap.size,0,none⟩) len len,?_,hm,hle,⟨⟨w.heap.size,0,0⟩,_,by simp[Inj.put],rfl,.inl rfl⟩⟩;by_cases h0:len*i.size=0
  .have:((Array.range (len*i.size)).map (z.cells[· % z.cells.size]!)) = #[]:=by rw[h0];simp[Array.range_zero']
   rw[this]at cD;simp[execOp,ho,Instr.buildSlice,run_underlying ht,qH hi,h0,dq,cD,newRow,Array.range_zero']
  .simp[execOp,ho,Instr.buildSlice,run_underlying ht,qH hi,h0,jO,dq,cD,newRow,zeroValue,typeInfo,hi,hz]
theorem zOG(m:MR B w0 j h w)(r:ER nt j e a){k:Nat}{o:Oper}{it:II}{z':List AV}{idx:Nat}(hi:ops[idx]? = some o)(hl:Laid P it.op o.op k z')(hd:it.dst=o.dst)(ag:∀d,it.dst=some d->d<nt)(hg:zAT ops o.guard=some it.guard)
  (hj:j (nb+k)=none) (cX:h.obj (nb+k)=some ⟨true,z'⟩) {v:AV} (hv:gq nb it e h=some v)
  {next:Act->World->Prop} (hn:∀j' a' w',j.le j'->(∀o,o≠nb+k->j' o=j o)->MR B w0 j' h w'->ER nt j' (e.put it.dst v) a'->next a' w'):wpOp P ops Q idx next a w:=by
 obtain⟨w1,w2,w3⟩:=zDA r hg;have run:qv nb it.op e h=some v->Region.wanted o (yielded ops a.tmps)=true->wpOp P ops Q idx next a w:=by
  intro hv hw;obtain⟨cur,ty,val,hr,hm,hle,jD⟩:=zO7 m r hl hj cX hv;unfold wpOp;simp only[hi,hw,if_true];refine .inl ?_;unfold Oper.wp;rw[hr];refine hn _ _ _ hle (λo' ai=>by simp[Inj.put,ai]) hm ?_;rw[<-hd];exact(r.mono hle).put ag jD
 unfold gq at hv;split at hv
 .exact run hv (w1 (by assumption))
 .rename_i t b fK;split at hv
  .rename_i c hc;have hw:=w2 t b c fK hc;split at hv
   .rename_i fP;exact run hv (by rw[hw];simpa using fP)
   .rename_i fP;cases hv;unfold wpOp
    have:Region.wanted o (yielded ops a.tmps)=false:=by rw[hw];simpa using fP
    simp only[hi,this,Bool.false_eq_true,if_false];exact hn j _ w (Inj.le.refl _) (λ_ _=>rfl) m (by rw[<-hd];exact r.put ag zBK)
  .rename_i hc;cases hv;unfold wpOp;simp only[hi,w3 t b fK hc,Bool.false_eq_true,if_false];exact hn j _ w (Inj.le.refl _) (λ_ _=>rfl) m (by rw[<-hd];exact r.put ag zBK)
  .cases hv
theorem zIL(l:Array Bool)(i x:Nat):(l.setIfInBounds i true).getD x true=(if x=i then true else l.getD x true):=by
 simp only[Array.getD_eq_getD_getElem?,Array.getElem?_setIfInBounds];by_cases hx:x=i
 .subst hx;by_cases hl:x<l.size
  .simp[hl]
  .simp[hl]
 .rw[if_neg (λy=>hx y.symm),if_neg hx]
theorem zIb{K:Env->AHeap->Prop}{js:Inj}{hs:AHeap}(AK:nb=hs.next)(iK:ptOk ops pt=true)
  (hn:∀j' h' e' a' w',FR js hs j' h'->MR B w0 j' h' w'->ER nt j' e' a'->K e' h'->Q .normal a' w'):
  ∀(fuel:Nat) (aN:Array Bool) (rem:List DI) {j:Inj} {h:AHeap} {w:World} {e:Env} {a:Act} {recs:List Rec},rem.length=fuel->aN.size=ops.size->
   (∀i,i<ops.size->(aN.getD i true=false↔∃it∈rem,it.idx=i))->
   rem.Pairwise (λq p=>zHu pt q p=true)->rem.Pairwise (λq p=>(!(pt.getD q.idx []).contains p.idx)=true)->(rem.map (·.idx)).Nodup->rem.Pairwise (λq p=>∀m m',q.op.revK=some m->p.op.revK=some m'->m≠m')->
   (∀i,i<ops.size->aN.getD i true=true->∀x∈pt.getD i [],aN.getD x true=true)->
   (∀it∈rem,From P nt ops zs it)->
   (∀it∈rem,∀k,it.op.revK=some k->nb+k<h.next/\j (nb+k)=none/\∃z,zs[k]? = some z/\h.obj (nb+k)=some ⟨true,z⟩)->
   MR B w0 j h w->ER nt j e a->DV P nb rem recs e h K->FR js hs j h->wpAny P .any ops Q fuel aN a w
 |0,aN,rem,j,h,w,e,a,recs,hlen,cV,gX,_,_,_,_,_,_,_,m,r,hk,hf=>by
  have:rem=[]:=List.eq_nil_of_length_eq_zero hlen
  subst this;refine⟨?_,hn j h e a w hf m r hk⟩;unfold Region.ready;rw[List.filter_eq_nil_iff];intro i hi;have gQ:i<ops.size:=by simpa using hi
  have:aN.getD i true=true:=by
   cases hl:aN.getD i true with
   |true=>rfl
   |false=>obtain⟨x,hx,_⟩:=(gX i gQ).1 hl;cases hx
  rw[this];simp
 |fuel+1,aN,rem,j,h,w,e,a,recs,hlen,cV,gX,sV,kZ,c7,lV,eB,fw,iL,m,r,hk,hf=>by
  have sD:∀i o,ops[i]? = some o->i∉pt.getD i []/\(∀d∈Qn o,d<ops.size/\d∈pt.getD i [])/\∀x∈pt.getD i [],x∈Qn o\/∃d∈Qn o,x∈pt.getD d []:=by
   intro i o ho;have hi:i<ops.size:=(Array.getElem?_eq_some_iff.1 ho).1;unfold ptOk at iK;rw[List.all_eq_true]at iK
   have:=iK i (by simpa using hi)
   simp only[ho,Bool.and_eq_true,List.all_eq_true,List.any_eq_true,Bool.not_eq_true',Bool.or_eq_true,beq_iff_eq,decide_eq_true_eq]at this;refine⟨λhx=>?_,λd hd=>⟨(this.1.2 d hd).1,by simpa using (this.1.2 d hd).2⟩,λx hx=>?_⟩
   .have h1:=this.1.1;rw[List.contains_iff_mem.2 hx]at h1;cases h1
   obtain⟨d,hd,hx⟩:=this.2 x hx;rcases hx with rfl|hx
   .exact .inl hd
   .exact .inr ⟨d,hd,by simpa using hx⟩
  have oA:∀{q p:DI},(!(pt.getD q.idx []).contains p.idx)=true->p.idx∉pt.getD q.idx []:=by
   intro q p hc hx;rw[List.contains_iff_mem.2 hx]at hc;cases hc
  refine⟨λmQ=>?_,λi hi=>?_⟩
  ·-- nC is always ready
   exfalso;cases rem with
   |nil=>simp at hlen
   |cons p rest=>
    obtain⟨o,ho,_⟩:=fw p (by simp);have ag:p.idx<ops.size:=(Array.getElem?_eq_some_iff.1 ho).1;have kE:aN.getD p.idx true=false:=(gX p.idx ag).2 ⟨p,by simp,rfl⟩;have eT:p.idx∈Region.ready .any ops aN:=by
     unfold Region.ready;rw[List.mem_filter];refine⟨by simpa using ag,?_⟩;rw[kE,ho];simp only[Bool.not_false,Option.map_some,Option.getD_some,Bool.true_and,Array.all_eq_true'];intro ed rD;cases hb:Region.binds .any ed with
     |false=>rfl
     |true=>
      have vK:ed.on∈Qn o:=by
       unfold Qn;rw[List.mem_map];exact⟨ed,by simp[rD,hb],rfl⟩
      obtain⟨vi,lj⟩:=(sD p.idx o ho).2.1 _ vK;simp only[Bool.not_true,Bool.false_or]
      have:aN.getD ed.on true=true:=by
       cases hl:aN.getD ed.on true with
       |true=>rfl
       |false=>
        obtain⟨q,hq,xR⟩:=(gX _ vi).1 hl;rcases List.mem_cons.1 hq with rfl|hq
        .rw[<-xR]at lj;exact absurd lj (sD q.idx o ho).1
        .rw[<-xR]at lj;exact absurd lj (oA ((List.pairwise_cons.1 kZ).1 q hq))
      simp only[Array.getD_eq_getD_getElem?]at this ⊢;rw[Array.getElem?_eq_getElem (by omega)]at this ⊢;exact this
    rw[mQ]at eT;cases eT
  .unfold Region.ready at hi;rw[List.mem_filter]at hi;obtain⟨vt,kG⟩:=hi;have ag:i<ops.size:=by simpa using vt
   simp only[Bool.and_eq_true,Bool.not_eq_true']at kG;obtain⟨aI,kG⟩:=kG;obtain⟨p,hp,rfl⟩:=(gX i ag).1 aI;obtain⟨o,ho,aT⟩:=fw p hp;rw[ho]at kG;simp only[Option.map_some,Option.getD_some,Array.all_eq_true']at kG;have gb:∀d∈Qn o,aN.getD d true=true:=by
    intro d hd;unfold Qn at hd;rw[List.mem_map]at hd;obtain⟨ed,rD,rfl⟩:=hd;rw[List.mem_filter]at rD
    have:=kG ed (by simpa using rD.1)
    rw[rD.2]at this;simp only[Bool.not_true,Bool.false_or]at this;simp only[Array.getD_eq_getD_getElem?]at this ⊢;cases hx:aN[ed.on]? with
    |none=>rfl
    |some x=>rw[hx]at this;exact this
   have ah:∀x∈pt.getD p.idx [],aN.getD x true=true:=by
    intro x hx;rcases(sD p.idx o ho).2.2 x hx with hd|⟨d,hd,hx⟩
    .exact gb x hd
    .exact eB d ((sD p.idx o ho).2.1 d hd).1 (gb d hd) x hx
   obtain⟨l1,l2,rfl⟩:=List.append_of_mem hp;have c4:(l1++l2).Sublist (l1++p::l2):=(List.sublist_cons_self p l2).append_left l1;have hb:∀q∈l1,apart q.toII p.toII=true/\q.q=true/\(p.q=true\/(q.op.isLoad=true->p.chk.contains q.idx=true)):=by
    intro q hq;have h1:=(List.pairwise_append.1 sV).2.2 q hq p (by simp);have h2:q.idx∉pt.getD p.idx []:=by
     intro hx
     have:=ah _ hx
     obtain⟨oq,AG,_⟩:=fw q (by simp[hq]);rw[(gX q.idx (Array.getElem?_eq_some_iff.1 AG).1).2 ⟨q,by simp[hq],rfl⟩]at this;cases this
    unfold zHu at h1;simp only[Bool.or_eq_true,Bool.and_eq_true,Bool.not_eq_true']at h1;rcases h1 with h1|⟨⟨h1,h3⟩,h4⟩
    .exact absurd (List.contains_iff_mem.1 h1) h2
    .refine⟨h1,h3,?_⟩;rcases h4 with (h4|h4)|h4
     .exact .inl h4
     .exact .inr λx=>by rw[x]at h4;cases h4
     .exact .inr λ_=>h4
   -- tB is left behind this step
   have cG:(l1++l2).length=fuel:=by simp at hlen ⊢;omega
   have uS:(l1++l2).Pairwise λq p=>q.idx≠p.idx:=by
    have:=(List.Nodup.sublist (c4.map (·.idx)) c7)
    rw[List.Nodup,List.pairwise_map]at this;exact this
   have pH:∀q∈l1++l2,q.idx≠p.idx:=by
    intro q hq he;have h1:(l1++p::l2).Pairwise λq p=>q.idx≠p.idx:=by
     rw[List.Nodup,List.pairwise_map]at c7;exact c7
    rw[List.pairwise_append]at h1;rcases List.mem_append.1 hq with hq|hq
    .exact h1.2.2 q hq p (by simp) he
    .exact(List.pairwise_cons.1 h1.2.1).1 q hq he.symm
   have pz:∀k,k<ops.size->((aN.setIfInBounds p.idx true).getD k true=false↔∃it∈l1++l2,it.idx=k):=by
    intro k hk;rw[zIL];by_cases aq:k=p.idx
    .subst aq;rw[if_pos rfl];exact⟨λx=>(Bool.noConfusion x),λ⟨q,hq,he⟩=>absurd he (pH q hq)⟩
    .rw[if_neg aq,gX k hk];constructor
     .rintro⟨q,hq,rfl⟩
      simp only[List.mem_append,List.mem_cons]at hq;rcases hq with hq|rfl|hq
      .exact⟨q,by simp[hq],rfl⟩
      .exact absurd rfl aq
      .exact⟨q,by simp[hq],rfl⟩
     .rintro⟨q,hq,rfl⟩
      exact⟨q,c4.subset hq,rfl⟩
   have wi:∀k,k<ops.size->(aN.setIfInBounds p.idx true).getD k true=true->∀x∈pt.getD k [],(aN.setIfInBounds p.idx true).getD x true=true:=by
    intro k hk dE x hx;rw[zIL]at dE ⊢;split
    .rfl
    .by_cases aq:k=p.idx
     .subst aq;exact ah x hx
     .rw[if_neg aq]at dE;exact eB k hk dE x hx
   have go:∀{j':Inj} {h':AHeap} {w':World} {e':Env} {a':Act} {bY:List Rec},(∀it∈l1++l2,∀k,it.op.revK=some k->nb+k<h'.next/\j' (nb+k)=none/\∃z,zs[k]? = some z/\h'.obj (nb+k)=some ⟨true,z⟩)->
     MR B w0 j' h' w'->ER nt j' e' a'->DV P nb (l1++l2) bY e' h' K->FR js hs j' h'->wpAny P .any ops Q fuel (aN.setIfInBounds p.idx true) a' w':=by
    intro j' h' w' e' a' bY mV m' r' cL dg;exact zIb AK iK hn fuel _ (l1++l2) cG (by simpa using cV) pz (sV.sublist c4) (kZ.sublist c4) (by rw[List.Nodup,List.pairwise_map];exact uS) (lV.sublist c4) wi
     (λit aZ=>fw it (c4.subset aZ)) mV m' r' cL dg
   cases hq:p.q with
   |true=>
    obtain⟨v,hv,cL⟩:=zEV hq l1 (λq cJ=>⟨(hb q cJ).2.1,(hb q cJ).1⟩) hk;rcases aT with ⟨nY,_⟩|⟨k,z',cW,cR,iO,_,hd,aG,hg⟩
    .exact quiet_step m r ho nY hq hv λa' r'=>go (λit aZ=>iL it (c4.subset aZ)) m r' cL hf
    .obtain⟨g1,g2,zz,g3,g4⟩:=iL p (by simp) k cW;rw[cR]at g3;cases g3;refine zOG m r ho iO hd aG hg g2 g4 hv ?_;intro j' a' w' hle fJ m' r';refine go (λit aZ kk jQ=>?_) m' r' cL ?_
     .obtain⟨q1,q2,q3⟩:=iL it (c4.subset aZ) kk jQ;refine⟨q1,?_,q3⟩;have ai:kk≠k:=by
       rw[List.pairwise_append]at lV;rcases List.mem_append.1 aZ with aZ|aZ
       .exact lV.2.2 it aZ p (by simp) kk k jQ cW
       .exactλx=>(List.pairwise_cons.1 lV.2.1).1 it aZ k kk cW jQ x.symm
      rw[fJ _ (by omega)];exact q2
     .refine⟨hf.next,λo' cn=>?_,hf.pend⟩;rw[fJ _ (by omega)];exact hf.inj o' cn
   |false=>
    have cL:=zGq hq l1 (λq cJ=>⟨(hb q cJ).2.1,(hb q cJ).1,by
     rcases(hb q cJ).2.2 with x|x
     .rw[hq]at x;cases x
     .exact x⟩) hk
    rcases aT with ⟨nY,_⟩|⟨k,z',cW,cR,iO,nO,_⟩
    .refine zIY m r ho nY hq cL ?_;intro v h' j' a' w' dg m' r' ve;refine go (λit aZ kk jQ=>?_) m' r' ve.2 (hf.trans dg);obtain⟨q1,q2,z,q3,q4⟩:=iL it (c4.subset aZ) kk jQ;exact⟨Nat.lt_of_lt_of_le q1 dg.next,(dg.inj _ q1).trans q2,z,q3,(dg.pend _ q1 q2).trans q4⟩
    .rw[hq]at nO;cases nO
end Go.Ab
set_option linter.unusedSimpArgs false
set_option linter.unusedVariables false
namespace Go.Ab
open Go.RowKit
inductive IC where
 |skip
 |region (S:List Nat) (aE:List II)
 |draw (S:List Nat) (zs:List (List AV)) (aE:List DI)
 |seq (a b:IC)
 |cond (c:IX) (a b:IC)
 |block (id:Nat) (c:IC)
 |loop (S:List Nat) (c:IC)
 |exit (id:Nat)
 |ret
def Env.mk:List Nat->List AV->Env
 |s::S,v::vs=>λt=>if t=s then v else Env.mk S vs t
 |_,_=>λ_=>.undef
def AHeap.news(h:AHeap):List (List AV)->AHeap
 |[]=>h
 |z::zs=>(h.new ⟨true,z⟩).news zs
def vc(P:Program):IC->(Exit->Env->AHeap->Prop)->Env->AHeap->Prop
 | .skip,Q,e,h=>Q .normal e h
 | .region S aE,Q,e,h=>RV P aE e h λe' h'=>Q .normal (Env.mk S (S.map e')) h'
 | .draw S zs aE,Q,e,h=>DV P h.next aE [] e (h.news zs) λe' h'=>Q .normal (Env.mk S (S.map e')) h'
 | .seq a b,Q,e,h=>vc P a (λx e' h'=>match x with | .normal=>vc P b Q e' h'|x=>Q x e' h') e h
 | .cond c a b,Q,e,h=>match c.ev e with
  | .bool t=>if t=true then vc P a Q e h else vc P b Q e h
  |_=>False
 | .block id c,Q,e,h=>vc P c (λx e' h'=>match x with | .exit gj=>if gj=id then Q .normal e' h' else Q (.exit gj) e' h'|x=>Q x e' h') e h
 | .loop S c,Q,e,h=>∃I:Nat->List AV->AHeap->Prop,(∃n,I n (S.map e) h)/\
   ∀n vs h,I n vs h->vc P c (λx e' h'=>match x with | .normal=>∃n',n'<n/\I n' (S.map e') h'|x=>Q x e' h') (Env.mk S vs) h
 | .exit id,Q,e,h=>Q (.exit id) e h
 | .ret,Q,e,h=>Q .ret e h
def insS(x:Nat):List Nat->List Nat
 |[]=>[x]
 |y::r=>if x<y then x::y::r else if x=y then y::r else y::insS x r
def zCK(a b:List Nat):List Nat:=a.foldr insS b
def zHx(l:List Operand):List Nat:=l.filterMap λ| .tmp t=>some t|_=>none
def zNB(ops:Array Oper)(o:Oper):List Nat:=
 zHx o.op.operands.toList++(match o.guard with|some (k,_)=>((ops[k]?).bind (·.dst)).toList|none=>[])
def lvOps(ops:Array Oper):List Oper->List Nat->List Nat
 |[],out=>out
 |o::r,out=>
  let l:=lvOps ops r out
  let l:=match o.dst with|some d=>l.filter (· != d)|none=>l
  zCK (zNB ops o) l
def exitL(id:Nat):List (Nat×List Nat)->List Nat
 |[]=>[]
 |(i,l)::r=>if i=id then l else exitL id r
def lv:Code->List Nat->List (Nat×List Nat)->List Nat->List Nat
 | .region _ ops _,out,_,_=>lvOps ops ops.toList out
 | .seq a b,out,ex,rt=>lv a (lv b out ex rt) ex rt
 | .cond c a b,out,ex,rt=>zCK (zHx [c]) (zCK (lv a out ex rt) (lv b out ex rt))
 | .block id c,out,ex,rt=>lv c out ((id,out)::ex) rt
 | .loop c,_,ex,rt=>lv c [] ex rt
 | .exit id,_,ex,_=>exitL id ex
 | .ret,_,_,rt=>rt
 | .scope c,out,ex,rt=>lv c out ex rt
 |_,out,_,_=>out
def mkPt(ops:Array Oper):List (List Nat):=
 ops.toList.foldl (λpt o=>pt++[(Qn o).foldl (λl d=>zCK (insS d (pt.getD d [])) l) []]) []
def zNZ(P:Program)(al:Bool)(o:Oper):Bool:=
 match o.op with
 | .alloc _=>true
 | .buildSlice _ _ _=>(cNew P al o).isSome
 |op=>(copQ P op).isSome
def zGN(pt:List (List Nat))(qs:List Bool):Nat->List Nat->List Nat->List Nat
 |0,_,done=>done
 |fuel+1,rem,done=>
  let ready:=rem.filter λi=>(pt.getD i []).all λx=>done.contains x
  match ready.find? (λi=>qs.getD i false)with
  |some i=>zGN pt qs fuel (rem.filter (· != i)) (done++[i])
  |none=>match ready with
   |i::_=>zGN pt qs fuel (rem.filter (· != i)) (done++[i])
   |[]=>done
def zFu(P:Program)(nt:Nat)(ops:Array Oper)(al:Bool):Option (List DI×List (List AV)):=
 let pt:=mkPt ops
 let order:=zGN pt (ops.toList.map (zNZ P al)) ops.size (List.range ops.size) []
 (cDIs P nt ops pt al order [] 0).bind λx=>if dOk ops pt order x.1=true then some x else none
def cDraw(P:Program)(nt:Nat)(ops:Array Oper):Option (List DI×List (List AV)):=
 match zFu P nt ops false with
 |some x=>some x
 |none=>zFu P nt ops true
def deadI:II:=⟨none,.extract (.c (.bool false)) 0,true,none⟩
def zQ1(o:Oper):Bool:=
 match o.op with
 | .panic _=>true
 |_=>false
def cC(P:Program)(nt:Nat):Code->List Nat->List (Nat×List Nat)->List Nat->Option (IC×List Nat)
 | .skip,out,_,_ | .label _,out,_,_=>some (.skip,out)
 | .region _ ops false,out,_,_=>if ops.toList.any zQ1=true then some (.region [] [deadI],[])else(zFt P nt ops ops.toList).map λaE=>(.region out aE,lvOps ops ops.toList out)
 | .region _ ops true,out,_,_=>(cDraw P nt ops).map λx=>(.draw out x.2 x.1,lvOps ops ops.toList out)
 | .seq a b,out,ex,rt=>(cC P nt b out ex rt).bind λy=>(cC P nt a y.2 ex rt).map λx=>(.seq x.1 y.1,x.2)
 | .cond c a b,out,ex,rt=>(cx c).bind λic=>(cC P nt a out ex rt).bind λx=>(cC P nt b out ex rt).map λy=>(.cond ic x.1 y.1,zCK (zHx [c]) (zCK x.2 y.2))
 | .block id c,out,ex,rt=>(cC P nt c out ((id,out)::ex) rt).map λx=>(.block id x.1,x.2)
 | .loop c,_,ex,rt=>
  let X:=lv c [] ex rt
  (cC P nt c X ex rt).map λx=>(.loop X x.1,X)
 | .exit id,_,ex,_=>some (.exit id,exitL id ex)
 | .ret,_,_,rt=>some (.ret,rt)
 |_,_,_,_=>none
variable{P:Program}{B:Nat}{w0 w:World}{j:Inj}{h h':AHeap}{nt nb:Nat}{e e':Env}{a:Act}{ops:Array Oper}
theorem Env.mk_map(e:Env):∀(S:List Nat) (t:Nat),Env.mk S (S.map e) t=e t\/Env.mk S (S.map e) t=.undef
 |[],t=>.inr rfl
 |s::S,t=>by
  simp only[List.map_cons,Env.mk];by_cases hs:t=s
  .subst hs;rw[if_pos rfl];exact .inl rfl
  .rw[if_neg hs];exact Env.mk_map e S t
theorem ER.trim(r:ER nt j e a)(S:List Nat):ER nt j (Env.mk S (S.map e)) a:=by
 refine⟨λt=>?_,r.size,r.defers⟩;rcases Env.mk_map e S t with x|x
 .rw[x];exact r.vals t
 .rw[x];trivial
theorem MR.pend(m:MR B w0 j h w)(ob:AObj):MR B w0 j (h.new ob) w:=by
 have hj:j h.next=none:=(m.fresh h.next (vM _)).2;refine⟨m.below,m.bnd,λo ho=>?_,λo gT l ho hl=>?_,λo o' x x' l l' ai ho cn hl aX hr=>?_⟩
 .simp only[AHeap.new]at ho ⊢;rw[if_neg (by omega)];exact m.fresh o (by omega)
 .have ai:o≠h.next:=λy=>by rw[y,hj]at hl;cases hl
  simp only[AHeap.new,if_neg ai]at ho;exact m.obj o gT l ho hl
 .have h1:o≠h.next:=λy=>by rw[y,hj]at hl;cases hl
  have h2:o'≠h.next:=λy=>by rw[y,hj]at aX;cases aX
  simp only[AHeap.new,if_neg h1]at ho;simp only[AHeap.new,if_neg h2]at cn;exact m.apart o o' x x' l l' ai ho cn hl aX hr
theorem zGf:∀(zs:List (List AV)) {h:AHeap},MR B w0 j h w->MR B w0 j (h.news zs) w/\(h.news zs).next=h.next+zs.length/\(∀o,o<h.next->(h.news zs).obj o=h.obj o)/\
  (∀k z,zs[k]? = some z->(h.news zs).obj (h.next+k)=some ⟨true,z⟩)/\∀k,k<zs.length->j (h.next+k)=none
 |[],h,m=>⟨m,rfl,λ_ _=>rfl,λk z hz=>by simp at hz,λk hk=>by simp at hk⟩
 |z::zs,h,m=>by
  obtain⟨h1,h2,h3,h4,h5⟩:=zGf zs (m.pend ⟨true,z⟩);refine⟨h1,?_,λo ho=>?_,λk u hu=>?_,λk hk=>?_⟩
  .show((h.new ⟨true,z⟩).news zs).next=_
   rw[h2];simp only[AHeap.new,List.length_cons];omega
  .simp only[AHeap.news];rw[h3 o (by simp only[AHeap.new];omega)];simp only[AHeap.new];rw[if_neg (by omega)]
  .simp only[AHeap.news];cases k with
   |zero=>
    simp at hu;subst hu;rw[h3 _ (by simp[AHeap.new])];simp[AHeap.new]
   |succ k=>
    have:=h4 k u (by simpa using hu)
    simp only[AHeap.new]at this;rw[<-this];congr 1;omega
  .exact(m.fresh _ (Nat.le_add_right _ _)).2
def Post(B:Nat)(w0:World)(nt:Nat)(j:Inj)(h:AHeap)(Q:Exit->Env->AHeap->Prop):Exit->Act->World->Prop:=λx a' w'=>
 ∃j' h' e',FR j h j' h'/\MR B w0 j' h' w'/\ER nt j' e' a'/\Q x e' h'
theorem zEW(cE:P.follows .mixedOrders=true){id:Nat}{aE:List DI}{zs:List (List AV)}{al:Bool}(hc:zFu P nt ops al=some (aE,zs))(m:MR B w0 j h w)(r:ER nt j e a){S:List Nat}{Q:Exit->Env->AHeap->Prop}
  (hk:DV P h.next aE [] e (h.news zs) λe' h'=>Q .normal (Env.mk S (S.map e')) h'):(Code.region id ops true).wp P (Post B w0 nt j h Q) a w:=by
 simp only[zFu,Option.bind_eq_some_iff]at hc;obtain⟨⟨my,ot⟩,gK,hc⟩:=hc;split at hc
 .rename_i hd;cases hc;simp only[dOk,Bool.and_eq_true,beq_iff_eq,decide_eq_true_eq]at hd;obtain⟨⟨⟨⟨⟨⟨iK,mW⟩,c7⟩,hlen⟩,ag⟩,sV⟩,kZ⟩:=hd;obtain⟨fw,lV⟩:=zDg _ [] 0 gK [] rfl;obtain⟨m1,n1,n2,n3,n4⟩:=zGf zs m.drew;have pK:(aE.map (·.idx)).length=ops.size:=by rw[mW];exact hlen
  refine wp_region_any cE ?_;have py:∀i,i<ops.size->((Array.replicate ops.size false).getD i true=false↔∃it∈aE,it.idx=i):=by
   intro i hi;have h1:(Array.replicate ops.size false).getD i true=false:=by simp[Array.getD_eq_getD_getElem?,hi]
   refine⟨λ_=>?_,λ_=>h1⟩;have eT:i∈aE.map (·.idx):=by
    rw[mW];rw[List.all_eq_true]at ag;exact List.contains_iff_mem.1 (ag i (by simpa using hi))
   obtain⟨it,aZ,he⟩:=List.mem_map.1 eT;exact⟨it,aZ,he⟩
  refine zIb (zs:=zs) (js:=j) (hs:=h) (nb:=h.next) (K:=λe' h'=>Q .normal (Env.mk S (S.map e')) h') rfl iK ?_ ops.size _ aE (by simpa using pK) (by simp) py (zEj sV) (zEj kZ) (by rw[mW];exact c7) lV ?_
   (λit aZ=>by simpa using (fw it aZ).1) ?_ m1 r hk ⟨by rw[n1];omega,λ_ _=>rfl,λo ho _=>n2 o ho⟩
  .intro j' h' e' a' w' hf hm hr hq;exact⟨j',h',_,hf,hm,hr.trim S,hq⟩
  .intro i hi aI;rw[(show(Array.replicate ops.size false).getD i true=false from by simp[Array.getD_eq_getD_getElem?,hi])]at aI;cases aI
  .intro it aZ k hk;obtain⟨o,ho,aT⟩:=(fw it aZ).1;rcases aT with ⟨_,mY⟩|⟨k',z',cW,cU,_⟩
   .rw[mY]at hk;cases hk
   .rw[hk]at cW;cases cW;simp only[List.nil_append]at cU;have dE:k<zs.length:=(List.getElem?_eq_some_iff.1 cU).1;exact⟨by rw[n1];omega,n4 k dE,z',cU,n3 k z' cU⟩
 .cases hc
theorem zLm(cE:P.follows .mixedOrders=true){id:Nat}{aE:List DI}{zs:List (List AV)}(hc:cDraw P nt ops=some (aE,zs))(m:MR B w0 j h w)(r:ER nt j e a){S:List Nat}{Q:Exit->Env->AHeap->Prop}
  (hk:DV P h.next aE [] e (h.news zs) λe' h'=>Q .normal (Env.mk S (S.map e')) h'):(Code.region id ops true).wp P (Post B w0 nt j h Q) a w:=by
 unfold cDraw at hc;split at hc
 .rename_i x hx;cases hc;exact zEW cE hx m r hk
 .exact zEW cE hc m r hk
theorem Q9(cE:P.follows .mixedOrders=true):∀(c:Code) (out:List Nat) (ex:List (Nat×List Nat)) (rt:List Nat) {ic:IC} {X:List Nat},cC P nt c out ex rt=some (ic,X)->
  ∀{B:Nat} {w0:World} {j:Inj} {h:AHeap} {w:World} {e:Env} {a:Act} {Q:Exit->Env->AHeap->Prop},MR B w0 j h w->ER nt j e a->vc P ic Q e h->c.wp P (Post B w0 nt j h Q) a w
 | .skip,out,ex,rt,ic,X,hc,B,w0,j,h,w,e,a,Q,m,r,hk=>by
  cases hc;exact wp_skip ⟨j,h,e,FR.refl _ _,m,r,hk⟩
 | .label l,out,ex,rt,ic,X,hc,B,w0,j,h,w,e,a,Q,m,r,hk=>by
  cases hc;exact wp_label ⟨j,h,e,FR.refl _ _,m,r,hk⟩
 | .region id ops false,out,ex,rt,ic,X,hc,B,w0,j,h,w,e,a,Q,m,r,hk=>by
  simp only[cC]at hc;split at hc
  .cases hc;obtain⟨v,hv,_⟩:=hk;cases hv
  simp only[Option.map_eq_some_iff,Prod.mk.injEq]at hc;obtain⟨aE,gK,rfl,rfl⟩:=hc;refine wp_region ?_;rw[List.range_eq_range']
  have:=zE5 (Q:=Post B w0 nt j h Q) ops.toList aE 0 gK rfl m r hk ?_
  .simpa using this
  .intro j' h' e' a' w' hf hm hr hq;exact⟨j',h',_,hf,hm,hr.trim out,hq⟩
 | .region id ops true,out,ex,rt,ic,X,hc,B,w0,j,h,w,e,a,Q,m,r,hk=>by
  simp only[cC,Option.map_eq_some_iff,Prod.mk.injEq]at hc;obtain⟨⟨aE,zs⟩,gK,rfl,rfl⟩:=hc;exact zLm cE gK m r hk
 | .seq c d,out,ex,rt,ic,X,hc,B,w0,j,h,w,e,a,Q,m,r,hk=>by
  simp only[cC,Option.bind_eq_some_iff,Option.map_eq_some_iff,Prod.mk.injEq]at hc;obtain⟨⟨id,Y⟩,hd,⟨ia,X'⟩,ha,rfl,rfl⟩:=hc;refine wp_seq (wp_mono (Q9 cE c _ ex rt ha m r hk) ?_)
  rintro x a' w' ⟨j',h',e',hf,hm,hr,hq⟩
  cases x with
  |normal=>
   refine wp_mono (Q9 cE d out ex rt hd hm hr hq) ?_
   rintro y kK tC ⟨gx,cN,gO,dg,hJ,cI,cJ⟩
   exact⟨gx,cN,gO,hf.trans dg,hJ,cI,cJ⟩
  |exit id=>exact⟨j',h',e',hf,hm,hr,hq⟩
  |goto l=>exact⟨j',h',e',hf,hm,hr,hq⟩
  |ret=>exact⟨j',h',e',hf,hm,hr,hq⟩
  |panic ch=>exact⟨j',h',e',hf,hm,hr,hq⟩
  |outgrown=>exact⟨j',h',e',hf,hm,hr,hq⟩
 | .cond c x y,out,ex,rt,ic,X,hc,B,w0,j,h,w,e,a,Q,m,r,hk=>by
  simp only[cC,Option.bind_eq_some_iff,Option.map_eq_some_iff,Prod.mk.injEq]at hc;obtain⟨ix,hx,⟨ia,Xa⟩,ha,⟨ib,Xb⟩,hb,rfl,rfl⟩:=hc;simp only[vc]at hk;have hv:=zK r hx;split at hk
  .rename_i t ht;rw[ht]at hv;refine wp_cond (t:=t) hv ?_;cases t with
   |true=>rw[if_pos rfl]at hk ⊢;exact Q9 cE x out ex rt ha m r hk
   |false=>rw[if_neg (by simp)]at hk ⊢;exact Q9 cE y out ex rt hb m r hk
  .exact hk.elim
 | .block id c,out,ex,rt,ic,X,hc,B,w0,j,h,w,e,a,Q,m,r,hk=>by
  simp only[cC,Option.map_eq_some_iff,Prod.mk.injEq]at hc;obtain⟨⟨ia,Xa⟩,ha,rfl,rfl⟩:=hc;refine wp_block (wp_mono (Q9 cE c out _ rt ha m r hk) ?_)
  rintro x a' w' ⟨j',h',e',hf,hm,hr,hq⟩
  cases x with
  |exit gj=>
   simp only[Exit.inBlock];simp only at hq;split
   .rename_i he;rw[if_pos he]at hq;exact⟨j',h',e',hf,hm,hr,hq⟩
   .rename_i he;rw[if_neg he]at hq;exact⟨j',h',e',hf,hm,hr,hq⟩
  |normal=>exact⟨j',h',e',hf,hm,hr,hq⟩
  |goto l=>exact⟨j',h',e',hf,hm,hr,hq⟩
  |ret=>exact⟨j',h',e',hf,hm,hr,hq⟩
  |panic ch=>exact⟨j',h',e',hf,hm,hr,hq⟩
  |outgrown=>exact⟨j',h',e',hf,hm,hr,hq⟩
 | .loop c,out,ex,rt,ic,X,hc,B,w0,j,h,w,e,a,Q,m,r,hk=>by
  simp only[cC,Option.map_eq_some_iff,Prod.mk.injEq]at hc;obtain⟨⟨ia,Xa⟩,ha,rfl,rfl⟩:=hc;obtain⟨I,⟨n,h0⟩,gW⟩:=hk;refine wp_loop_ghost (λn a' w'=>∃j' h' e' vs,FR j h j' h'/\MR B w0 j' h' w'/\ER nt j' (Env.mk (lv c [] ex rt) vs) a'/\I n vs h') n ⟨j,h,e,_,FR.refl _ _,m,r.trim _,h0⟩ ?_
  rintro n a' w' ⟨j',h',e',vs,hf,hm,hr,hI⟩
  refine wp_mono (Q9 cE c _ ex rt ha hm hr (gW n vs h' hI)) ?_
  rintro x kK tC ⟨gx,cN,gO,dg,hJ,cI,hq⟩
  cases x with
  |normal=>
   obtain⟨n',ag,jt⟩:=hq;exact⟨n',ag,gx,cN,gO,_,hf.trans dg,hJ,cI.trim _,jt⟩
  |exit id=>exact⟨gx,cN,gO,hf.trans dg,hJ,cI,hq⟩
  |goto l=>exact⟨gx,cN,gO,hf.trans dg,hJ,cI,hq⟩
  |ret=>exact⟨gx,cN,gO,hf.trans dg,hJ,cI,hq⟩
  |panic ch=>exact⟨gx,cN,gO,hf.trans dg,hJ,cI,hq⟩
  |outgrown=>exact⟨gx,cN,gO,hf.trans dg,hJ,cI,hq⟩
 | .exit id,out,ex,rt,ic,X,hc,B,w0,j,h,w,e,a,Q,m,r,hk=>by
  cases hc;exact wp_exit ⟨j,h,e,FR.refl _ _,m,r,hk⟩
 | .ret,out,ex,rt,ic,X,hc,B,w0,j,h,w,e,a,Q,m,r,hk=>by
  cases hc;exact wp_ret ⟨j,h,e,FR.refl _ _,m,r,hk⟩
 | .rangeFunc ..,_,_,_,_,_,hc,_,_,_,_,_,_,_,_,_,_,_=>by cases hc
 | .scope ..,_,_,_,_,_,hc,_,_,_,_,_,_,_,_,_,_,_=>by cases hc
 | .goto ..,_,_,_,_,_,hc,_,_,_,_,_,_,_,_,_,_,_=>by cases hc
 | .refuse ..,_,_,_,_,_,hc,_,_,_,_,_,_,_,_,_,_,_=>by cases hc
inductive IRes where
 |tmp (t:Nat)
 |cell (t:Nat) (agg:Bool) (n:Nat)
def IRes.slot:IRes->Nat
 | .tmp t=>t
 | .cell t _ _=>t
structure IFn where
 params:List Nat
 res:List IRes
 body:IC
def rvals:List IRes->Env->AHeap->Option (List AV)
 |[],_,_=>some []
 | .tmp t::r,e,h=>(rvals r e h).map λvs=>e t::vs
 | .cell t agg n::r,e,h=>(ldv agg n (e t) h).bind λv=>(rvals r e h).map λvs=>v::vs
def packR:List AV->AV
 |[v]=>v
 |vs=>.tup vs
def retQ(res:List IRes)(Q:AV->AHeap->Prop):Exit->Env->AHeap->Prop
 | .normal,e,h=>optK (rvals res e h) λvs=>Q (packR vs) h
 | .ret,e,h=>optK (rvals res e h) λvs=>Q (packR vs) h
 |_,_,_=>False
def cRes(P:Program):List ResultVar->Option (List IRes)
 |[]=>some []
 | .tmp t::r=>(cRes P r).map (.tmp t::·)
 | .cell t ty::r=>match P.underlying ty,P.info? ty with
  |some d,some i=>(cRes P r).map (.cell t (zAw d) i.size::·)
  |_,_=>none
def cF(P:Program)(fn:Func):Option IFn:=
 fn.body.bind λc=>(cRes P fn.results.toList).bind λres=>(cC P fn.ntmps c (res.foldr (λr l=>insS r.slot l) []) [] (res.foldr (λr l=>insS r.slot l) [])).bind λx=>
  if fn.params.size+fn.nfree<=fn.ntmps then some ⟨List.range (fn.params.size+fn.nfree),res,x.1⟩else none
def rvS(a:Act):ResultVar->Sem Value
 | .tmp t=>pure (a.tmps.getD t undef)
 | .cell x t=>do loadVar t (<-asAddr (a.tmps.getD x undef))
theorem zA7(m:MR B w0 j h w)(r:ER nt j e a):∀{rs:List ResultVar} {res:List IRes} {vs:List AV},cRes P rs=some res->rvals res e h=some vs->
  ∃cs:List Value,(rs.mapM (rvS a)).run P w=.ok cs w/\VIs j vs cs
 |[],res,vs,hc,hv=>by
  cases hc;cases hv;exact⟨[],by simp,rfl⟩
 | .tmp t::rs,res,vs,hc,hv=>by
  simp only[cRes,Option.map_eq_some_iff]at hc;obtain⟨tH,hr,rfl⟩:=hc;simp only[rvals,Option.map_eq_some_iff]at hv;obtain⟨ji,hv,rfl⟩:=hv;obtain⟨cs,h1,h2⟩:=zA7 m r hr hv;refine⟨a.tmps.getD t undef::cs,?_,⟨_,_,rfl,r.vals t,h2⟩⟩;simp only[List.mapM_cons,rvS,Sem.run_bind,Sem.run_pure,Result.andThen_ok];rw[h1];rfl
 | .cell x t::rs,res,vs,hc,hv=>by
  simp only[cRes]at hc;split at hc
  .rename_i d i hd hi;simp only[Option.map_eq_some_iff]at hc;obtain⟨tH,hr,rfl⟩:=hc;simp only[rvals,Option.bind_eq_some_iff,Option.map_eq_some_iff]at hv;obtain⟨v,hl,ji,hv,rfl⟩:=hv;obtain⟨cs,h1,h2⟩:=zA7 m r hr hv;unfold ldv at hl;split at hl
   .rename_i o k hp;have hx:=r.vals x;rw[hp]at hx;obtain⟨cv,h3,h4⟩:=zFY (P:=P) m hd hi hx hl;obtain⟨l,fv,hx⟩:=hx;refine⟨cv::cs,?_,⟨_,_,rfl,h4,h2⟩⟩;rw[hx]at h3;simp only[Instr.loadAt,Instr.sureAddr,Sem.run_bind,Sem.run_pure,Result.andThen_ok]at h3;simp only[List.mapM_cons,rvS,Sem.run_bind,hx,asAddr,Sem.run_pure,Result.andThen_ok,h3];rw[h1];rfl
   .cases hl
  .cases hc
theorem QU(cE:P.follows .mixedOrders=true){f:FuncId}{fn:Func}{de:IFn}(hf:P.funcs[f]? = some fn)(hc:cF P fn=some de){args:List AV}{h:AHeap}{K:AV->AHeap->Prop}(hl:args.length=de.params.length)
  (hk:vc P de.body (retQ de.res K) (Env.mk de.params args) h):ZK P f args h K:=by
 simp only[cF,Option.bind_eq_some_iff]at hc;obtain⟨c,hb,res,cD,⟨ic,X⟩,l9,hc⟩:=hc;split at hc
 .rename_i hle;cases hc;intro B w0 j w cargs m aM;have cM:=aM.length;simp only[List.length_range]at hl;refine calls_of_wp hf hb (wp_mono (Q9 cE c _ _ _ l9 m (e:=Env.mk (List.range (fn.params.size+fn.nfree)) args) (a:=⟨cargs.toArray++Array.replicate (fn.ntmps-cargs.toArray.size) undef,[]⟩) ⟨λt=>?_,?_,rfl⟩ hk) ?_)
  ·-- mn arguments
   have key:∀(n s:Nat) (as:List AV) (t:Nat),as.length=n->(Env.mk (List.range' s n) as t=.undef/\(t<s\/s+n<=t))\/(s<=t/\as[t-s]? = some (Env.mk (List.range' s n) as t)):=by
    intro n
    induction n with
    |zero=>intro s as t hl;refine .inl ⟨?_,by omega⟩;cases as with|nil=>rfl|cons _ _=>simp at hl
    |succ n ih=>
     intro s as t hl;cases as with
     |nil=>simp at hl
     |cons v as=>
      rw[List.range'_succ];simp only[Env.mk];by_cases ht:t=s
      .subst ht;right;simp
      .rw[if_neg ht];rcases ih (s+1) as t (by simpa using hl)with ⟨h1,h2⟩|⟨h1,h2⟩
       .exact .inl ⟨h1,by omega⟩
       .refine .inr ⟨by omega,?_⟩;rw[<-h2]
        have:t-s=(t-(s+1))+1:=by omega
        rw[this,List.getElem?_cons_succ]
   rw[List.range_eq_range'];rcases key _ 0 args t hl with ⟨h1,_⟩|⟨_,h2⟩
   .rw[h1];trivial
   .rw[Nat.sub_zero]at h2;obtain⟨cv,h3,h4⟩:=aM.get h2
    have:(cargs.toArray++Array.replicate (fn.ntmps-cargs.toArray.size) undef).getD t undef=cv:=by
     have ag:=(List.getElem?_eq_some_iff.1 h3).1;have h5:=(List.getElem?_eq_some_iff.1 h3).2;simp[Array.getD_eq_getD_getElem?,Array.getElem?_append_left,ag,h5]
    rw[this];exact h4
  .simp;omega
  .rintro x a' w' ⟨j',h',e',dg,hm,hr,hq⟩
   have fin:(∃vs,rvals res e' h'=some vs/\K (packR vs) h')->a'.defers=[]/\∃v,(results fn a'.tmps).run P w'=.ok v w'/\
     ∃v' cN gx cv,Ending.returned v=.returned cv/\FR j h gx cN/\MR B w0 gx cN w'/\VI gx v' cv/\K v' cN:=by
    rintro⟨vs,hv,hq⟩
    obtain⟨cs,h1,h2⟩:=zA7 hm hr cD hv;have hl:=h2.length;refine⟨hr.defers,(if h:cs.toArray.size=1 then cs.toArray[0]else .tuple cs.toArray),?_,packR vs,h',j',_,rfl,dg,hm,?_,hq⟩
    .show(do let vs<-fn.results.mapM (rvS a');pure (if h:vs.size=1 then vs[0]else Value.tuple vs):Sem Value).run P w'=_
     rw[Sem.run_bind,Array.mapM_eq_mapM_toList];simp only[Sem.run_map,h1,Result.andThen_ok,Sem.run_pure]
    .cases vs with
     |nil=>
      have:cs=[]:=List.eq_nil_of_length_eq_zero (by simpa using hl.symm)
      subst this;exact⟨[],rfl,by simp⟩
     |cons v vs=>
      obtain⟨c1,cr,rfl,g1,g2⟩:=h2;cases vs with
      |nil=>
       rw[show cr=[] from g2];simpa [packR]using g1
      |cons u us=>
       obtain⟨c2,DL,rfl,g3,g4⟩:=g2;simp only[packR];rw[dif_neg (by simp)];exact⟨_,⟨_,_,rfl,g1,_,_,rfl,g3,g4⟩,rfl⟩
   cases x with
   |normal=>exact fin hq
   |ret=>exact fin hq
   |exit id=>exact hq.elim
   |goto l=>exact hq.elim
   |panic ch=>exact hq.elim
   |outgrown=>exact hq.elim
 .cases hc
end Go.Ab
set_option linter.unusedVariables false
namespace Go.Ab
def condK(v:AV)(a b:Prop):Prop:=
 match v with
 | .bool t=>if t=true then a else b
 |_=>False
def zDZ(v:AV)(b:Bool)(x y:Prop):Prop:=
 match v with
 | .bool c=>if c=b then x else y
 | .tup []=>y
 |_=>False
def zIK(v:AV)(b:Bool)(x:Option AV):Option AV:=
 match v with
 | .bool c=>if c=b then x else some (.tup [])
 | .tup []=>some (.tup [])
 |_=>none
section
variable{P:Program}{Q:Exit->Env->AHeap->Prop}{e:Env}{h:AHeap}{K:Env->AHeap->Prop}{KA:AV->AHeap->Prop}{nb:Nat}
theorem zP5:vc P .skip Q e h=Q .normal e h:=rfl
theorem zMB(S:List Nat)(aE:List II):vc P (.region S aE) Q e h=RV P aE e h λe' h'=>Q .normal (Env.mk S (S.map e')) h':=rfl
theorem zP7(S:List Nat)(zs:List (List AV))(aE:List DI):vc P (.draw S zs aE) Q e h=DV P h.next aE [] e (h.news zs) λe' h'=>Q .normal (Env.mk S (S.map e')) h':=rfl
theorem zRZ(a b:IC):vc P (.seq a b) Q e h=vc P a (λx e' h'=>match x with | .normal=>vc P b Q e' h'|x=>Q x e' h') e h:=rfl
theorem zP8(c:IX)(a b:IC):vc P (.cond c a b) Q e h=condK (c.ev e) (vc P a Q e h) (vc P b Q e h):=rfl
theorem zN7(id:Nat)(c:IC):vc P (.block id c) Q e h=vc P c (λx e' h'=>match x with | .exit gj=>if gj=id then Q .normal e' h' else Q (.exit gj) e' h'|x=>Q x e' h') e h:=rfl
theorem zP6(id:Nat):vc P (.exit id) Q e h=Q (.exit id) e h:=rfl
theorem zRa:vc P .ret Q e h=Q .ret e h:=rfl
theorem zBL{S:List Nat}{c:IC}(I:Nat->List AV->AHeap->Prop)(n:Nat)(h0:I n (S.map e) h)
  (round:∀n vs h,I n vs h->vc P c (λx e' h'=>match x with | .normal=>∃n',n'<n/\I n' (S.map e') h'|x=>Q x e' h') (Env.mk S vs) h):vc P (.loop S c) Q e h:=⟨I,⟨n,h0⟩,round⟩
theorem zSP:RV P [] e h K=K e h:=rfl
theorem RV_q(d:Option Nat)(op:IOp)(g:Option (Nat×Bool))(r:List II):RV P (⟨d,op,true,g⟩::r) e h K=optK (gq 0 ⟨d,op,true,g⟩ e h) λv=>RV P r (e.put d v) h K:=rfl
theorem RV_e(d:Option Nat)(op:IOp)(g:Option (Nat×Bool))(r:List II):RV P (⟨d,op,false,g⟩::r) e h K=ge P ⟨d,op,false,g⟩ e h λv h'=>RV P r (e.put d v) h' K:=rfl
theorem zSR(recs:List Rec):DV P nb [] recs e h K=K e h:=rfl
theorem DV_q(d:Option Nat)(op:IOp)(g:Option (Nat×Bool))(i:Nat)(c:List Nat)(r:List DI)(recs:List Rec):
  DV P nb (⟨⟨d,op,true,g⟩,i,c⟩::r) recs e h K=optK (gq nb ⟨d,op,true,g⟩ e h) λv=>DV P nb r (recOf ⟨⟨d,op,true,g⟩,i,c⟩ e v++recs) (e.put d v) h K:=rfl
theorem DV_e(d:Option Nat)(op:IOp)(g:Option (Nat×Bool))(i:Nat)(c:List Nat)(r:List DI)(recs:List Rec):
  DV P nb (⟨⟨d,op,false,g⟩,i,c⟩::r) recs e h K=ge P ⟨d,op,false,g⟩ e h λv h'=>RecOK c recs h'/\DV P nb r recs (e.put d v) h' K:=rfl
theorem zQ4(d:Option Nat)(op:IOp)(q:Bool):gq nb ⟨d,op,q,none⟩ e h=qv nb op e h:=rfl
theorem zQ3(d:Option Nat)(op:IOp)(q:Bool)(t:Nat)(b:Bool):gq nb ⟨d,op,q,some (t,b)⟩ e h=zIK (e t) b (qv nb op e h):=rfl
theorem zQ7(d:Option Nat)(op:IOp)(q:Bool):ge P ⟨d,op,q,none⟩ e h KA=eff P op e h KA:=rfl
theorem zQ6(d:Option Nat)(op:IOp)(q:Bool)(t:Nat)(b:Bool):ge P ⟨d,op,q,some (t,b)⟩ e h KA=zDZ (e t) b (eff P op e h KA) (KA (.tup []) h):=rfl
theorem zLr(a b:Prop):condK (.bool true) a b=a:=rfl
theorem zKA(a b:Prop):condK (.bool false) a b=b:=rfl
theorem zNs(c:Prop)[Decidable c](a b:Prop):condK (.bool (decide c)) a b=if c then a else b:=by
 by_cases x:c<;>simp[condK,x]
theorem zLs(c:Prop)[Decidable c](a b:Prop):condK (.bool (!decide c)) a b=if c then b else a:=by
 by_cases x:c<;>simp[condK,x]
theorem zJ4(c b:Bool)(x y:Prop):zDZ (.bool c) b x y=if c=b then x else y:=rfl
theorem zJ2(c b:Bool)(x:Option AV):zIK (.bool c) b x=if c=b then x else some (.tup []):=rfl
theorem zJ1(b:Bool)(x:Option AV):zIK (.tup []) b x=some (.tup []):=rfl
theorem zJ3(b:Bool)(x y:Prop):zDZ (.tup []) b x y=y:=rfl
-- tB is read
theorem ev_t(n:Nat):(IX.t n).ev e=e n:=rfl
theorem ev_c(v:AV):(IX.c v).ev e=v:=rfl
theorem zQr(s:Nat)(S:List Nat)(v:AV)(vs:List AV)(t:Nat):Env.mk (s::S) (v::vs) t=if t=s then v else Env.mk S vs t:=rfl
theorem zOT(d:Nat)(v:AV)(t:Nat):e.put (some d) v t=if t=d then v else e t:=rfl
theorem zOU(v:AV):e.put none v=e:=rfl
-- mn mw
theorem qv_mv(x:IX):qv nb (.mv x) e h=some (x.ev e):=rfl
theorem zQH(c a b:IX):qv nb (.pick c a b) e h=aPick (c.ev e) (a.ev e) (b.ev e):=rfl
theorem zRj(op:BinOp)(ek:EqK)(x y:IX):qv nb (.bin op ek x y) e h=abin op ek (x.ev e) (y.ev e):=rfl
theorem qv_un(op:UnOp)(x:IX):qv nb (.un op x) e h=aun op (x.ev e):=rfl
theorem zQK(k:IntKind)(x:IX):qv nb (.conv k x) e h=aConv k (x.ev e):=rfl
theorem zJF(x:IX):qv nb (.nilCheck x) e h=aNil (x.ev e):=rfl
theorem zOP(z:List AV)(ps:List (Nat×Nat×IX)):qv nb (.build z ps) e h=(afill z (ps.map λp=>(p.1,p.2.1,p.2.2.ev e))).map .agg:=rfl
theorem zON(a:Bool)(n off:Nat)(x:IX):qv nb (.field a n off x) e h=ZY a n off (x.ev e):=rfl
theorem zHc(off:Nat)(x:IX):qv nb (.fieldAddr off x) e h=qZ off (x.ev e):=rfl
theorem zHb(sz:Nat)(x i:IX):qv nb (.indexAddr sz x i) e h=ZO sz (x.ev e) (i.ev e):=rfl
theorem zJH(x i:IX):qv nb (.indexStr x i) e h=ZT (x.ev e) (i.ev e):=rfl
theorem zK3(x:IX)(i:Nat):qv nb (.extract x i) e h=qy (x.ev e) i:=rfl
theorem zRh(x:IX):qv nb (.len x) e h=aLen (x.ev e):=rfl
theorem zMY(x:IX):qv nb (.lenStr x) e h=ZR (x.ev e):=rfl
theorem zRi(x:IX):qv nb (.cap x) e h=aCap (x.ev e):=rfl
theorem zOM(sz:Nat)(x:IX)(lo hi mx:Option IX):qv nb (.slice sz x lo hi mx) e h=Qj sz (x.ev e) (lo.map (·.ev e)) (hi.map (·.ev e)) (mx.map (·.ev e)):=rfl
theorem zJE(x:IX)(lo hi:Option IX):qv nb (.sliceStr x lo hi) e h=zA1 (x.ev e) (lo.map (·.ev e)) (hi.map (·.ev e)):=rfl
theorem zMX(mx:Bool)(x y:IX):qv nb (.maxmin mx x y) e h=ZH mx (x.ev e) (y.ev e):=rfl
theorem zJG(f:FuncId)(a b:List IX):qv nb (.makeFunc f a b) e h=some (.clo f (a.map (·.ev e)) (b.map (·.ev e))):=rfl
theorem zQI(a:Bool)(n:Nat)(x:IX):qv nb (.load a n x) e h=ldv a n (x.ev e) h:=rfl
theorem zRg(k:Nat):qv nb (.rev k) e h=some (.ptr (nb+k) 0):=rfl
theorem zNm(z:List AV):eff P (.alloc z) e h KA=KA (.ptr h.next 0) (h.new ⟨true,z⟩):=rfl
theorem zRE(x:IX):eff P (.box x) e h KA=((x.ev e).cells.all AV.one=true/\KA (.ptr h.next 0) (h.new ⟨true,(x.ev e).cells⟩)):=rfl
theorem zJ9(sz len:Nat)(z:List AV)(ps:List (Nat×Nat×IX)):eff P (.buildSl sz len z ps) e h KA=optK (afill (zeros z len) (ps.map λp=>(p.1,p.2.1,p.2.2.ev e))) λcs=>KA (.sl h.next 0 len (.known len)) (h.new ⟨true,cs⟩):=rfl
def zFz(n:Nat)(x v:AV)(h:AHeap)(KA:AV->AHeap->Prop):Prop:=
 match x with
 | .ptr o i=>v.cells.length=n/\optK (h.wr o i v.cells) λh'=>KA .undef h'
 |_=>False
theorem zNj(n:Nat)(x v:IX):eff P (.store n x v) e h KA=zFz n (x.ev e) (v.ev e) h KA:=rfl
theorem zL1(n o i:Nat)(v:AV):zFz n (.ptr o i) v h KA=(v.cells.length=n/\optK (h.wr o i v.cells) λh'=>KA .undef h'):=rfl
def aMake(sz bytes:Nat)(z:List AV)(l c:AV)(h:AHeap)(KA:AV->AHeap->Prop):Prop:=
 match l,c with
 | .int _ l,.int _ c=>(0<=l/\l<=c/\c*bytes<=140737488355328/\c<=9223372036854775807)/\KA (.sl h.next 0 l.toNat (.known c.toNat)) (h.new ⟨true,zeros z c.toNat⟩)
 |_,_=>False
theorem zLk(sz bytes:Nat)(z:List AV)(l c:IX):eff P (.makeSl sz bytes z l c) e h KA=aMake sz bytes z (l.ev e) (c.ev e) h KA:=rfl
theorem zNz(sz bytes:Nat)(z:List AV)(k k':IntKind)(l c:Int):aMake sz bytes z (.int k l) (.int k' c) h KA =
  ((0<=l/\l<=c/\c*bytes<=140737488355328/\c<=9223372036854775807)/\KA (.sl h.next 0 l.toNat (.known c.toNat)) (h.new ⟨true,zeros z c.toNat⟩)):=rfl
theorem zLl(sz bytes:Nat)(s x:IX):eff P (.append sz bytes s x) e h KA=optK (zBW sz bytes h (s.ev e) (x.ev e)) λp=>KA p.1 p.2:=rfl
theorem zPS(sz:Nat)(d s:IX):eff P (.copy sz d s) e h KA=optK (acopy sz h (d.ev e) (s.ev e)) λp=>KA p.1 p.2:=rfl
theorem zPT(f:FuncId)(args:List IX):eff P (.call f args) e h KA=ZK P f (args.map (·.ev e)) h KA:=rfl
def zF0(P:Program)(f:AV)(args:List AV)(h:AHeap)(KA:AV->AHeap->Prop):Prop:=
 match f with
 | .clo f first cg=>okF P f=true/\ZK P f (first++args++cg) h KA
 |_=>False
theorem zNl(f:IX)(args:List IX):eff P (.callV f args) e h KA=zF0 P (f.ev e) (args.map (·.ev e)) h KA:=rfl
theorem zL5(f:FuncId)(a b args:List AV):zF0 P (.clo f a b) args h KA=(okF P f=true/\ZK P f (a++args++b) h KA):=rfl
theorem zPr(k:IntKind)(ek:EqK)(a b:Int):abin .add ek (.int k a) (.int k b)=some (.int k (k.wrap (a+b))):=by simp[abin,aint]
theorem zPd(k:IntKind)(ek:EqK)(a b:Int):abin .sub ek (.int k a) (.int k b)=some (.int k (k.wrap (a-b))):=by simp[abin,aint]
theorem zPl(k:IntKind)(ek:EqK)(a b:Int):abin .mul ek (.int k a) (.int k b)=some (.int k (k.wrap (a*b))):=by simp[abin,aint]
theorem zPh(k:IntKind)(ek:EqK)(a b:Int):abin .quo ek (.int k a) (.int k b)=if b=0 then none else some (.int k (k.wrap (a.tdiv b))):=by simp[abin,aint]
theorem zPg(k:IntKind)(ek:EqK)(a b:Int):abin .rem ek (.int k a) (.int k b)=if b=0 then none else some (.int k (a.tmod b)):=by simp[abin,aint]
theorem zPq(k:IntKind)(ek:EqK)(a b:Int):abin .eql ek (.int k a) (.int k b)=some (.bool (decide (a=b))):=by simp[abin,aint]
theorem zPk(k:IntKind)(ek:EqK)(a b:Int):abin .neq ek (.int k a) (.int k b)=some (.bool (!decide (a=b))):=by simp[abin,aint]
theorem zPm(k:IntKind)(ek:EqK)(a b:Int):abin .lss ek (.int k a) (.int k b)=some (.bool (decide (a<b))):=by simp[abin,aint]
theorem zPn(k:IntKind)(ek:EqK)(a b:Int):abin .leq ek (.int k a) (.int k b)=some (.bool (decide (a<=b))):=by simp[abin,aint]
theorem zPo(k:IntKind)(ek:EqK)(a b:Int):abin .gtr ek (.int k a) (.int k b)=some (.bool (decide (b<a))):=by simp[abin,aint]
theorem zPp(k:IntKind)(ek:EqK)(a b:Int):abin .geq ek (.int k a) (.int k b)=some (.bool (decide (b<=a))):=by simp[abin,aint]
theorem zNy(a b:Bool):abin .eql .bool (.bool a) (.bool b)=some (.bool (a == b)):=rfl
theorem zNx(a b:Bool):abin .neq .bool (.bool a) (.bool b)=some (.bool !(a == b)):=rfl
theorem zRM:abin .eql .slice .nils .nils=some (.bool true):=rfl
theorem zRK(o off n:Nat)(c:Cap):abin .eql .slice (.sl o off n c) .nils=some (.bool false):=rfl
theorem zRL(o off n:Nat)(c:Cap):abin .eql .slice .nils (.sl o off n c)=some (.bool false):=rfl
theorem zPj:abin .neq .slice .nils .nils=some (.bool false):=rfl
theorem zPf(o off n:Nat)(c:Cap):abin .neq .slice (.sl o off n c) .nils=some (.bool true):=rfl
theorem zPi(o off n:Nat)(c:Cap):abin .neq .slice .nils (.sl o off n c)=some (.bool true):=rfl
theorem zPe(op:BinOp)(ek:EqK)(a b:List UInt8):abin op ek (.str a) (.str b)=astr op a b:=by cases op<;>rfl
theorem zRJ(k:IntKind)(n:Int):aun .neg (.int k n)=some (.int k (k.wrap (0-n))):=rfl
theorem zRI(b:Bool):aun .not (.bool b)=some (.bool !b):=rfl
theorem zL2(a b:AV):aPick (.bool true) a b=some a:=rfl
theorem zKF(a b:AV):aPick (.bool false) a b=some b:=rfl
theorem zN2(k k':IntKind)(n:Int):aConv k (.int k' n)=some (.int k (k.wrap n)):=rfl
theorem zPs(o i:Nat):aNil (.ptr o i)=some (.ptr o i):=rfl
theorem zPt(f:FuncId)(a b:List AV):aNil (.clo f a b)=some (.clo f a b):=rfl
theorem zL4(n off:Nat)(cs:List AV):ZY true n off (.agg cs)=some (.agg ((cs.drop off).take n)):=rfl
theorem zL3(n off:Nat)(cs:List AV):ZY false n off (.agg cs)=cs[off]?:=rfl
theorem zGa(off o i:Nat):qZ off (.ptr o i)=some (.ptr o (i+off)):=rfl
theorem zN1(sz o off len:Nat)(c:Cap)(k:IntKind)(n:Int):ZO sz (.sl o off len c) (.int k n)=if 0<=n/\n<len then some (.ptr o (off+n.toNat*sz))else none:=rfl
theorem zC0{sz o off len:Nat}{c:Cap}{k:IntKind}{n:Nat}(hn:n<len):ZO sz (.sl o off len c) (.int k n)=some (.ptr o (off+n*sz)):=by
 rw[zN1,if_pos ⟨by omega,by omega⟩,Int.toNat_natCast]
theorem zIt(vs:List AV)(i:Nat):qy (.tup vs) i=vs[i]?:=rfl
theorem zRN(o off n:Nat)(c:Cap):aLen (.sl o off n c)=some (.int .i64 n):=rfl
theorem zN0:aLen .nils=some (.int .i64 0):=rfl
theorem zKH(s:List UInt8):ZR (.str s)=some (.int .i64 s.length):=rfl
theorem zKG(mx:Bool)(k:IntKind)(a b:Int):ZH mx (.int k a) (.int k b)=some (.int k (if mx=true then max a b else min a b)):=by simp[ZH]
theorem qi(n o i:Nat):ldv false n (.ptr o i) h=h.rd1 o i:=rfl
theorem qj(n o i:Nat):ldv true n (.ptr o i) h=(h.rd o i n).map .agg:=rfl
theorem qV:h.news []=h:=rfl
theorem zn(z:List AV)(zs:List (List AV)):h.news (z::zs)=(h.new ⟨true,z⟩).news zs:=rfl
theorem qE(recs:List Rec):RecOK [] recs h=True:=by
 apply propext;exact⟨λ_=>trivial,λ_=>zA3.2 λr _ hc=>by simp at hc⟩
theorem zg(c:List Nat):RecOK c [] h=True:=rfl
theorem zh(c:List Nat)(i:Nat)(a:Bool)(n:Nat)(x v:AV)(rs:List Rec):RecOK c (⟨i,a,n,x,v⟩::rs) h=((if c.contains i=true then ldv a n x h=some v else True)/\RecOK c rs h):=rfl
theorem zML:rvals [] e h=some []:=rfl
theorem zMK(t:Nat)(r:List IRes):rvals (.tmp t::r) e h=(rvals r e h).map λvs=>e t::vs:=rfl
theorem zKv(t:Nat)(a:Bool)(n:Nat)(r:List IRes):rvals (.cell t a n::r) e h=(ldv a n (e t) h).bind λv=>(rvals r e h).map λvs=>v::vs:=rfl
theorem zI6(res:List IRes):retQ res KA .normal e h=optK (rvals res e h) λvs=>KA (packR vs) h:=rfl
theorem zOH(res:List IRes):retQ res KA .ret e h=optK (rvals res e h) λvs=>KA (packR vs) h:=rfl
theorem zM1(v:AV):packR [v]=v:=rfl
theorem zM2:packR []=.tup []:=rfl
theorem zM0(u v:AV)(r:List AV):packR (u::v::r)=.tup (u::v::r):=rfl
end
end Go.Ab
