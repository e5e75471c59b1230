/- . -/
import Derived.WalkKit
import Derived.Laws.StructEq
import Derived.Lib.AppendZeros
import Derived.Laws.BytesString
set_option linter.all false
set_option linter.defProp false
abbrev V1:=List Int
abbrev V2:=List (List Int)
abbrev V3:=List (List (List Int))
open Go.IntKind renaming wrap->Tu
open List renaming length->Tw
namespace Go
def Tx{p:Prop}(h:p:=by decide):p:=h
def aH{p:Prop}(h:p:=by omega):p:=h
def bj{p:Prop}(h:p:=by simp):p:=h
def Iu{c:Prop}{h:Decidable c}(k:c){α:Sort _}{t e:α}:(if c then t else e)=t:=if_pos k
def Iv{c:Prop}{h:Decidable c}(k:¬c){α:Sort _}{t e:α}:(if c then t else e)=e:=if_neg k
end Go
open Array renaming all_eq_true'->NX,getD_eq_getD_getElem?->IS,getElem?_modify->LJ,toArray_toList->Js
open Bool renaming false_eq_true->JM,not_eq_true'->Ng,true->Im
open Int renaming toNat_natCast->KH
open List renaming all_append->MQ,all_eq_true->Mi,any_eq_true->Nz,drop_take->Jc,ext_getElem?->Kr,flatten_cons->LY,length->Nh,map_congr_left->JI,mem_append_left->Ni,mem_append_right->Nj,mem_filter->ND,mem_of_mem_drop->Jx,nodup_append->LD,pairwise_append->Oa,pairwise_cons->Sp,pairwise_map->N0,pairwise_singleton->Ob,range->Iw,replicate->Jf,replicate_succ->LN
open Nat renaming add_mul->La,eq_zero_or_pos->MB,mod_eq_of_lt->L0,mul_le_mul_right->M0,mul_one->KE,ne_of_lt->Jn
open Option renaming getD_some->NP,map_some->Kc,some->Ik
open True renaming intro->Is
def na:=@List.getElem?_eq_getElem
def sB:=@Nat.le_refl
def ss:=@List.getElem_mem
def se:=@And.intro
def cO:=@List.length_append
def YQ:=@Nat.zero_le
def YX:=@Option.bind_eq_some_iff
def YZ:=@List.mem_append
def YJ:=@Option.map_eq_some_iff
def YK:=@List.getD_eq_getElem?_getD
def YV:=@List.take_succ_eq_append_getElem
def YW:=@List.mem_singleton
def YB:=@Nat.lt_succ_self
def YY:=@Nat.lt_or_ge
def YG:=@Option.bind_some
def YU:=@List.take_of_length_le
def YH:=@List.append_assoc
def YF:=@List.length_cons
def YN:=@List.getElem?_eq_none
def YM:=@List.eq_nil_of_length_eq_zero
def YP:=@List.take_length
def YL:=@List.append_nil
def YT:=@List.length_replicate
def YR:=@Option.some.injEq
def YD:=@List.mem_map
def YC:=@List.getElem?_append_left
def YE:=@List.mem_iff_getElem
def YA:=@Array.getElem?_eq_some_iff
def YI:=@List.map_append
def YO:=@Nat.lt_of_lt_of_le
def Yq:=@List.mem_cons
def Yx:=@List.length_set
def Yz:=@List.getElem?_append_right
def Yj:=@List.length_map
def Yk:=@List.length_singleton
def Yv:=@Nat.le_trans
def Yw:=@List.map_cons
def Yb:=@Nat.le_succ
def Yy:=@List.cons_append
def Yg:=@List.getElem?_eq_some_iff
def Yu:=@List.getElem?_set
def Yh:=@Nat.sub_self
def Yf:=@Int.tmod_eq_emod_of_nonneg
def Yn:=@List.nil_append
def Ym:=@List.length_take
def Yp:=@List.mem_cons_self
def Yl:=@List.getElem?_map
def Yr:=@List.drop_of_length_le
def Yt:=@Bool.and_eq_true
def Ys:=@List.length_drop
def Yd:=@List.mem_range
def Yc:=@List.mem_cons_of_mem
def Ye:=@Nat.le_of_lt
def Ya:=@List.not_mem_nil
def Yi:=@Int.toNat_of_nonneg
def Yo:=@Prod.mk.injEq
def Y0:=@List.getElem?_drop
def Y3:=@List.getElem?_take
def Y4:=@Nat.zero_add
def Y5:=@Int.emod_eq_of_lt
def Y6:=@Nat.add_zero
def Y7:=@List.mem_of_mem_take
def Y8:=@Int.tdiv_eq_ediv_of_nonneg
def Y9:=@Nat.add_assoc
def UQ:=@List.mem_take_iff_getElem
def UX:=@List.drop_append_of_le_length
def UZ:=@List.eq_of_mem_replicate
def UJ:=@List.map_nil
def UK:=@Nat.lt_of_le_of_lt
def UW:=@Int.mul_nonneg
def UB:=@List.singleton_append
def UY:=@List.mem_flatMap
def UG:=@Int.mul_le_mul_of_nonneg_right
def UU:=@List.take_append_of_le_length
def UH:=@Nat.succ_le_of_lt
def UF:=@Bool.or_eq_true
def UN:=@Int.mul_le_mul_of_nonneg_left
def UM:=@Int.emod_emod_of_dvd
def UP:=@Int.emod_lt_of_pos
def UL:=@Int.le_refl
def UT:=@Nat.add_comm
def UR:=@List.map_map
def US:=@Int.add_zero
def UD:=@List.ext_getElem
def UC:=@List.getElem_map
def UE:=@Int.emod_nonneg
def UA:=@Nat.le_of_eq
def UI:=@Int.lt_or_le
def UO:=@List.take_zero
def Uq:=@List.getElem_append_right
def Ux:=@List.length_range
def Uz:=@Int.mul_one
def Uj:=@List.getElem_append_left
def Uk:=@Int.mul_assoc
def Uv:=@Int.dvd_refl
def Uw:=@Int.natCast_mul
def Ub:=@List.mem_of_getElem?
def Uy:=@Nat.lt_irrefl
def Ug:=@List.foldl_append
def Uu:=@Int.zero_add
def Uh:=@Int.mul_comm
def Uf:=@Int.add_comm
def Un:=@Array.size_append
def Um:=@Nat.le_add_right
def Ul:=@List.mem_reverse
def Ur:=@Int.one_mul
namespace Go.Ab
variable{B nt:Nat}
inductive nK where
 |cm (c:Nat)
 |grown (e:Nat)
def iU{α:Type}(o:Option α)(K:α->Prop):Prop:=∃v,o=Ik v/\K v
def zBJ{α:Type}(v:α)(K:α->Prop):iU (Ik v) K=K v:=by
 apply propext;exact⟨λ⟨_,h,k⟩=>by cases h;exact k,λk=>⟨v,rfl,k⟩⟩
def zAF{α:Type}(K:α->Prop):iU none K=False:=by
 apply propext;exact⟨λ⟨_,h,_⟩=>(Option.some_ne_none _ h.symm).elim,λk=>k.elim⟩
def zNZ{α β:Type}(o:Option α)(f:α->Option β)(K:β->Prop):iU (o.bind f) K=iU o λa=>iU (f a) K:=by
 cases o with
 |none=>rw[zAF];exact zAF K
 |some v=>rw[zBJ];rfl
def zPY{α β:Type}(o:Option α)(f:α->β)(K:β->Prop):iU (o.map f) K=iU o λa=>K (f a):=by
 cases o with
 |none=>rw[zAF];exact zAF K
 |some v=>rw[zBJ];exact zBJ _ K
def qo{α:Type}{o:Option α}{v:α}{K:α->Prop}(h:o=Ik v)(k:K v):iU o K:=⟨v,h,k⟩
inductive AV where
 |undef
 |bool (b:Bool)
 |int (k:IntKind) (n:Int)
 |str (s:List UInt8)
 |nilp
 |ptr (o i:Nat)
 |cU
 |sl (o off len:Nat) (cap:nK)
 |nilf
 |err (b:Bool)
 |clo (f:FuncId) (first dw:List AV)
 |agg (cs:List AV)
 |tup (vs:List AV)
instance:Inhabited AV:=⟨.undef⟩
def AV.one:AV->Bool
 | .undef | .agg _ | .tup _=>false
 |_=>Im
def AV.cells:AV->List AV
 | .agg cs=>cs
 |v=>[v]
structure u2 where
 rw:Bool
 cells:List AV
structure dN where
 bY:Nat
 cd:Nat->Option u2
namespace dN
def cb(h:dN)(m:u2):dN:=⟨h.bY+1,λo=>if o=h.bY then Ik m else h.cd o⟩
def set(h:dN)(o:Nat)(cells:List AV):dN:=⟨h.bY,λm=>if m=o then Ik ⟨Im,cells⟩else h.cd m⟩
def kill(h:dN)(o:Nat):dN:=⟨h.bY,λm=>if m=o then none else h.cd m⟩
def gv(h:dN)(o i:Nat):Option AV:=(h.cd o).bind λm=>m.cells[i]?
def rd(h:dN)(o i n:Nat):Option (List AV):=(h.cd o).bind λm=>if i+n<=m.cells.length then Ik ((m.cells.drop i).take n)else none
def wr(h:dN)(o i:Nat)(vs:List AV):Option dN:=(h.cd o).bind λm=>
 if m.rw=Im/\i+Tw vs<=Tw m.cells/\vs.all AV.one=Im then Ik (h.set o (m.cells.take i++vs++m.cells.drop (i+Tw vs)))else none
end dN
abbrev Env:=Nat->AV
def Env.put(e:Env)(d:Option Nat)(v:AV):Env:=match d with
 |some d=>λt=>if t=d then v else e t
 |none=>e
inductive IX where
 |t (n:Nat)
 |c (v:AV)
def IX.ev(e:Env):IX->AV
 | .t n=>e n
 | .c v=>v
inductive He where
 |other|bool|slice|pointer|func|ints (n:Nat)
inductive tT where
 -- quiet
 |mv (x:IX)
 |pick (c a b:IX)
 |bin (op:BinOp) (ek:He) (x y:IX)
 |un (op:UnOp) (x:IX)
 |errB (op:BinOp) (x:IX)
 |conv (k:IntKind) (x:IX)
 |nilCheck (x:IX)
 |build (zero:List AV) (parts:List (Nat×Nat×IX))
 |field (agg:Bool) (n off:Nat) (x:IX)
 |fieldAddr (off:Nat) (x:IX)
 |indexAddr (e:Nat) (x i:IX)
 |indexStr (x i:IX)
 |extract (x:IX) (i:Nat)
 |len (x:IX)
 |lenStr (x:IX)
 |cap (x:IX)
 |slice (e:Nat) (x:IX) (lo hi mx:Option IX)
 |sliceStr (x:IX) (lo hi:Option IX)
 |maxmin (max:Bool) (x y:IX)
 |makeFunc (f:FuncId) (first dw:List IX)
 |load (agg:Bool) (n:Nat) (x:IX)
 |rev (k:Nat)
 |revS (k len:Nat)
 -- with Ex
 |alloc (zero:List AV)
 |box (x:IX)
 |buildSl (e len:Nat) (zero:List AV) (parts:List (Nat×Nat×IX))
 |store (n:Nat) (x v:IX)
 |makeSl (e bytes:Nat) (zero:List AV) (l c:IX)
 |appendMk (e bytes:Nat) (zero:List AV) (s n:IX)
 |append (e bytes:Nat) (s x:IX)
 |copy (e:Nat) (d s:IX)
 |call (f:FuncId) (args:List IX)
 |callV (f:IX) (args:List IX)
 |strOf (x:IX)
def B6(op:BinOp)(k:IntKind)(a b:Int):Option AV:=
 match op with
 | .add=>Ik (.int k (k.wrap (a+b)))
 | .sub=>Ik (.int k (k.wrap (a-b)))
 | .mul=>Ik (.int k (k.wrap (a*b)))
 | .quo=>if b=0 then none else Ik (.int k (k.wrap (a.tdiv b)))
 | .rem=>if b=0 then none else Ik (.int k (a.tmod b))
 | .eql=>Ik (.bool (decide (a=b)))
 | .neq=>Ik (.bool (!decide (a=b)))
 | .lss=>Ik (.bool (decide (a<b)))
 | .leq=>Ik (.bool (decide (a<=b)))
 | .gtr=>Ik (.bool (decide (b<a)))
 | .geq=>Ik (.bool (decide (b<=a)))
 | .and=>Ik (.int k (k.wrap (BitVec.ofInt k.bits a &&& BitVec.ofInt k.bits b).toNat))
 | .or=>Ik (.int k (k.wrap (BitVec.ofInt k.bits a ||| BitVec.ofInt k.bits b).toNat))
 | .xor=>Ik (.int k (k.wrap (BitVec.ofInt k.bits a ^^^ BitVec.ofInt k.bits b).toNat))
 | .andNot=>Ik (.int k (k.wrap (BitVec.ofInt k.bits a &&& ~~~ BitVec.ofInt k.bits b).toNat))
 |_=>none
def Zo(op:BinOp)(k:IntKind)(a b:Int):Option AV:=
 if b<0 then none else
 match op with
 | .shl=>Ik (.int k (k.wrap (a*2 ^ (min b.toNat k.bits))))
 | .shr=>Ik (.int k (a.fdiv (2 ^ (min b.toNat k.bits))))
 |_=>none
def astr(op:BinOp)(a b:List UInt8):Option AV:=
 match op with
 | .add=>if a.length+Tw b<=9223372036854775807 then Ik (.str (a++b))else none
 | .eql=>Ik (.bool (a == b))
 | .neq=>Ik (.bool !(a == b))
 | .lss=>Ik (.bool (Op.bytesLess a b))
 | .leq=>Ik (.bool (Op.bytesLess a b || a == b))
 | .gtr=>Ik (.bool !(Op.bytesLess a b || a == b))
 | .geq=>Ik (.bool !(Op.bytesLess a b))
 |_=>none
def DR(op:BinOp)(r:Bool):Option AV:=
 match op with
 | .eql=>Ik (.bool r)
 | .neq=>Ik (.bool !r)
 |_=>none
def aggB:List AV->List AV->Option Bool
 |[],[]=>Ik Im
 | .int k a::xs,.int k' b::ys=>if k=k' then(aggB xs ys).map λr=>decide (a=b) && r else none
 |_,_=>none
def AW(op:BinOp)(m:He)(x y:AV):Option AV:=
 match x,y with
 | .int k a,.int k' b=>
  match op with
  | .shl | .shr=>Zo op k a b
  |_=>if k=k' then B6 op k a b else none
 | .str a,.str b=>astr op a b
 | .bool a,.bool b=>match m with | .bool=>DR op (a == b)|_=>none
 | .cU,.cU=>match m with | .slice=>DR op Im|_=>none
 | .sl _ _ _ _,.cU=>match m with | .slice=>DR op false|_=>none
 | .cU,.sl _ _ _ _=>match m with | .slice=>DR op false|_=>none
 | .nilp,.nilp=>match m with | .pointer=>DR op Im|_=>none
 | .ptr _ _,.nilp=>match m with | .pointer=>DR op false|_=>none
 | .nilp,.ptr _ _=>match m with | .pointer=>DR op false|_=>none
 | .nilf,.nilf=>match m with | .func=>DR op Im|_=>none
 | .clo _ _ _,.nilf=>match m with | .func=>DR op false|_=>none
 | .nilf,.clo _ _ _=>match m with | .func=>DR op false|_=>none
 | .agg xs,.agg ys=>match m with | .ints n=>if xs.length=n/\Tw ys=n then(aggB xs ys).bind λr=>DR op r else none|_=>none
 |_,_=>none
def aErr(op:BinOp)(x:AV):Option AV:=
 match x with
 | .err b=>DR op b
 |_=>none
def aun(op:UnOp)(x:AV):Option AV:=
 match op,x with
 | .neg,.int k n=>Ik (.int k (k.wrap (0-n)))
 | .xor,.int k n=>B6 .xor k (if k.signed then -1 else k.max) n
 | .not,.bool b=>Ik (.bool !b)
 |_,_=>none
def xK(cells:List AV):List (Nat×Nat×AV)->Option (List AV)
 |[]=>Ik cells
 |(off,size,v)::rest=>
  if v.cells.length=size/\off+size<=Tw cells/\v.cells.all AV.one=Im then xK (cells.take off++v.cells++cells.drop (off+size)) rest else none
def zAQ(x:AV)(y:Nat):Option Nat:=
 match x with
 | .int _ i=>if 0<=i/\i<=y then Ik i.toNat else none
 |_=>none
def zY(x:Option AV)(m y:Nat):Option Nat:=
 match x with
 |some x=>zAQ x y
 |none=>Ik m
def QC(e:Nat)(x:AV)(A u mx:Option AV):Option AV:=
 match x with
 | .sl o off len (.cm c)=>
  (zY mx c c).bind λm=>(zY u len m).bind λh=>(zY A 0 h).bind λl=>
   if u.isNone=Im/\mx.isSome=Im then none else Ik (.sl o (if m=l then off else off+l*e) (h-l) (.cm (m-l)))
 | .sl o off len (.grown g)=>
  match mx with
  |some mx=>(zAQ mx len).bind λm=>(zY u len m).bind λh=>(zY A 0 h).bind λl=>
   if u.isNone=Im then none else Ik (.sl o (if m=l then 0 else off+l*e) (h-l) (.cm (m-l)))
  |none=>(zY u len len).bind λh=>(zY A 0 h).bind λl=>
   Ik (.sl o (off+l*e) (h-l) (.grown (if g=e then g else 0)))
 | .cU=>(zY mx 0 0).bind λm=>(zY u 0 m).bind λh=>(zY A 0 h).bind λ_=>
   if u.isNone=Im/\mx.isSome=Im then none else Ik .cU
 |_=>none
def zBQ(x:AV)(u m:Option AV):Option AV:=
 match x with
 | .str s=>(zY m s.length s.length).bind λh=>(zY u 0 h).bind λl=>Ik (.str ((s.take h).drop l))
 |_=>none
def sn(c a b:AV):Option AV:=
 match c with
 | .bool t=>Ik (if t=Im then a else b)
 |_=>none
def s6(k:IntKind)(x:AV):Option AV:=
 match x with
 | .int _ n=>Ik (.int k (k.wrap n))
 |_=>none
def AS(x:AV):Option AV:=
 match x with
 | .ptr o i=>Ik (.ptr o i)
 | .clo f a b=>Ik (.clo f a b)
 |_=>none
def qb(agg:Bool)(n off:Nat)(x:AV):Option AV:=
 match x with
 | .agg cs=>if agg=Im then Ik (.agg ((cs.drop off).take n))else cs[off]?
 |_=>none
def zo(off:Nat)(x:AV):Option AV:=
 match x with
 | .ptr o i=>Ik (.ptr o (i+off))
 |_=>none
def qR(sz:Nat)(x i:AV):Option AV:=
 match x,i with
 | .sl o off len _,.int _ n=>if 0<=n/\n<len then Ik (.ptr o (off+n.toNat*sz))else none
 |_,_=>none
def qM(x i:AV):Option AV:=
 match x,i with
 | .str s,.int _ n=>if 0<=n then(s[n.toNat]?).map λc=>.int .u8 c.toNat else none
 |_,_=>none
def qB(x:AV)(i:Nat):Option AV:=
 match x with
 | .tup vs=>vs[i]?
 |_=>none
def AF(x:AV):Option AV:=
 match x with
 | .sl _ _ n _=>Ik (.int .i64 n)
 | .cU=>Ik (.int .i64 0)
 |_=>none
def qQ(x:AV):Option AV:=
 match x with
 | .str s=>Ik (.int .i64 s.length)
 |_=>none
def Aw(x:AV):Option AV:=
 match x with
 | .sl _ _ _ (.cm c)=>Ik (.int .i64 c)
 | .cU=>Ik (.int .i64 0)
 |_=>none
def qL(mx:Bool)(x y:AV):Option AV:=
 match x,y with
 | .int k a,.int k' b=>if k=k' then Ik (.int k (if mx=Im then max a b else min a b))else none
 |_,_=>none
def GZ(agg:Bool)(n:Nat)(x:AV)(h:dN):Option AV:=
 match x with
 | .ptr o i=>if agg=Im then(h.rd o i n).map .agg else h.gv o i
 |_=>none
def qv(nb:Nat)(op:tT)(e:Env)(h:dN):Option AV:=
 match op with
 | .mv x=>Ik (x.ev e)
 | .pick c a b=>sn (c.ev e) (a.ev e) (b.ev e)
 | .bin op ek x y=>AW op ek (x.ev e) (y.ev e)
 | .un op x=>aun op (x.ev e)
 | .errB op x=>aErr op (x.ev e)
 | .conv k x=>s6 k (x.ev e)
 | .nilCheck x=>AS (x.ev e)
 | .build z ps=>(xK z (ps.map λp=>(p.1,p.2.1,p.2.2.ev e))).map .agg
 | .field agg n off x=>qb agg n off (x.ev e)
 | .fieldAddr off x=>zo off (x.ev e)
 | .indexAddr sz x i=>qR sz (x.ev e) (i.ev e)
 | .indexStr x i=>qM (x.ev e) (i.ev e)
 | .extract x i=>qB (x.ev e) i
 | .len x=>AF (x.ev e)
 | .lenStr x=>qQ (x.ev e)
 | .cap x=>Aw (x.ev e)
 | .slice sz x lo hi mx=>QC sz (x.ev e) (lo.map (·.ev e)) (hi.map (·.ev e)) (mx.map (·.ev e))
 | .sliceStr x lo hi=>zBQ (x.ev e) (lo.map (·.ev e)) (hi.map (·.ev e))
 | .maxmin mx x y=>qL mx (x.ev e) (y.ev e)
 | .makeFunc f first dw=>Ik (.clo f (first.map (·.ev e)) (dw.map (·.ev e)))
 | .load agg n x=>GZ agg n (x.ev e) h
 | .rev k=>Ik (.ptr (nb+k) 0)
 | .revS k n=>Ik (.sl (nb+k) 0 n (.cm n))
 |_=>none
def jE(z:List AV)(n:Nat):List AV:=(Jf n z).flatten
def alen(x:AV):Option Nat:=
 match x with
 | .cU=>Ik 0
 | .sl _ _ n _=>Ik n
 |_=>none
def Qx(e:Nat)(h:dN)(x:AV)(n:Nat):Option (List AV):=
 if n=0 then Ik []else
 match x with
 | .sl o off len _=>if n<=len then h.rd o off (n*e)else none
 |_=>none
def zA8:List AV->Option (List UInt8)
 |[]=>Ik []
 | .int .u8 n::r=>(zA8 r).map λs=>UInt8.ofNat n.toNat::s
 |_=>none
def u9(e bytes:Nat)(h:dN)(s:AV)(news:List AV)(m:Nat):Option (AV×dN):=
 match s with
 | .cU=>if m*bytes<=140737488355328/\m<=4611686018427387904 then Ik (.sl h.bY 0 m (.grown e),h.cb ⟨Im,news⟩)else none
 | .sl o off len (.cm c)=>
  if len+m<=c then(h.wr o (off+len*e) news).map λh'=>(.sl o off (len+m) (.cm c),h')
  else if (len+m)*bytes<=140737488355328/\len+m<=4611686018427387904 then(h.rd o off (len*e)).map λold=>(.sl h.bY 0 (len+m) (.grown e),h.cb ⟨Im,old++news⟩)else none
 | .sl o off len (.grown g)=>
  if (len+m)*bytes<=140737488355328/\len+m<=4611686018427387904/\g=e then
   (h.cd o).bind λu=>if u.rw=Im/\off+len*e<=u.cells.length then Ik (.sl h.bY 0 (len+m) (.grown e),(h.kill o).cb ⟨Im,(u.cells.drop off).take (len*e)++news⟩)else none
  else none
 |_=>none
def Ek(s:AV):Option AV:=
 match s with
 | .cU=>Ik .cU
 | .sl o off len (.cm c)=>if len<=c then Ik (.sl o off len (.cm c))else none
 | .sl o off len (.grown e)=>Ik (.sl o off len (.grown e))
 |_=>none
def zB5(e bytes:Nat)(h:dN)(s x:AV):Option (AV×dN):=
 (alen x).bind λm=>if m=0 then(Ek s).map λv=>(v,h)else(Qx e h x m).bind λnews=>u9 e bytes h s news m
def acopy(e:Nat)(h:dN)(d s:AV):Option (AV×dN):=
 (alen d).bind λn=>(alen s).bind λm=>if min m n=0 then Ik (.int .i64 0,h)else
  match d with
  | .sl o off _ _=>(Qx e h s (min m n)).bind λcs=>(h.wr o off cs).map λh'=>(.int .i64 (min m n:Nat),h')
  |_=>none
def okF(P:Program)(f:FuncId):Bool:=
 match P.funcs[f]? with
 | Ik fn => fn.body.isSome && !(fn.name == "runtime.NumGoroutine")
 |none=>false
section
open Go.RowKit
structure Loc where
 blk:Nat
 base:Nat
 room:Nat
abbrev jv:=Nat->Option Loc
mutual
def VI(j:jv):AV->Value->Prop
 | .undef,_=>True
 | .bool b,cv=>cv=.bool b
 | .int k n,cv=>cv=.int k n
 | .str s,cv=>cv=.string ⟨s.toArray⟩
 | .nilp,cv=>cv=.pointer none
 | .ptr o i,cv=>∃l,j o=Ik l/\cv=.pointer (Ik ⟨l.blk,l.base+i,none⟩)
 | .cU,cv=>cv=.slice none 0 0
 | .sl o off len (.cm c),cv=>∃l a,j o=Ik l/\cv=.slice (Ik a) len c/\(a=⟨l.blk,l.base+off,none⟩\/(c=0/\len=0))
 | .sl o off len (.grown e),cv=>∃l c f,j o=Ik l/\cv=.slice (Ik ⟨l.blk,f,none⟩) len c/\len<=c/\(f=l.base+off\/(len=0/\off≠0/\c=0))/\(f=l.base+off->e≠0->off+c*e<=l.room)
 | .nilf,cv=>cv=.nilFunc
 | .err b,cv=>if b=Im then cv=.nilIface else ∃t v,cv=.iface t v
 | .clo f fs cs,cv=>∃vs m,oy j fs vs/\oy j cs m/\cv=.func (.func f) vs.toArray m.toArray
 | .agg cs,cv=>∃vs,oy j cs vs/\cv=.agg vs.toArray
 | .tup cs,cv=>∃vs,oy j cs vs/\cv=.tuple vs.toArray
def oy(j:jv):List AV->List Value->Prop
 |[],vs=>vs=[]
 |a::as,vs=>∃v r,vs=v::r/\VI j a v/\oy j as r
end
def jv.le(j m:jv):Prop:=∀o l,j o=Ik l->m o=Ik l
def jv.le.refl(j:jv):j.le j:=λ_ _ h=>h
def jv.le.trans{a b c:jv}(h:a.le b)(k:b.le c):a.le c:=λo l x=>k o l (h o l x)
mutual
def VI.mono{j A:jv}(u:j.le A):∀(v:AV) (m:Value),VI j v m->VI A v m
 | .undef,_,_=>trivial
 | .bool _,_,h | .int _ _,_,h | .str _,_,h | .nilp,_,h | .cU,_,h | .nilf,_,h | .err _,_,h=>h
 | .ptr o i,m,h=>by obtain⟨l,a,b⟩:=h;exact⟨l,u _ _ a,b⟩
 | .sl o off len (.cm c),m,h=>by obtain⟨l,q,a,b⟩:=h;exact⟨l,q,u _ _ a,b⟩
 | .sl o off len (.grown e),m,h=>by obtain⟨l,c,f,a,b⟩:=h;exact⟨l,c,f,u _ _ a,b⟩
 | .clo f fs cs,m,h=>by obtain⟨vs,C,a,b,c⟩:=h;exact⟨vs,C,oy.mono u _ _ a,oy.mono u _ _ b,c⟩
 | .agg cs,m,h=>by obtain⟨vs,a,c⟩:=h;exact⟨vs,oy.mono u _ _ a,c⟩
 | .tup cs,m,h=>by obtain⟨vs,a,c⟩:=h;exact⟨vs,oy.mono u _ _ a,c⟩
def oy.mono{j A:jv}(u:j.le A):∀(v:List AV) (m:List Value),oy j v m->oy A v m
 |[],_,h=>h
 |a::as,m,h=>by obtain⟨v,r,e,x,y⟩:=h;exact⟨v,r,e,VI.mono u _ _ x,oy.mono u _ _ y⟩
end
def oy.length{j:jv}:∀{vs:List AV} {cs:List Value},oy j vs cs->vs.length=Tw cs
 |[],_,h=>by simp[show _=[] from h]
 |_::_,_,h=>by obtain⟨v,r,rfl,_,h⟩:=h;simp[oy.length h]
def oy.get{j:jv}:∀{vs:List AV} {cs:List Value},oy j vs cs->∀{i:Nat} {v:AV},vs[i]? = Ik v->∃m,cs[i]? = Ik m/\VI j v m
 |[],_,_,i,v,hv=>by simp at hv
 |a::as,_,h,i,v,hv=>by
  obtain⟨c,r,rfl,u,h⟩:=h;cases i with
  |zero=>simp at hv;subst hv;exact⟨c,bj,u⟩
  |succ i=>simp at hv;simpa using oy.get h hv
def oy.of_get{j:jv}:∀{vs:List AV} {cs:List Value},vs.length=Tw cs->(∀(i:Nat) (v:AV),vs[i]? = Ik v->∃m,cs[i]? = Ik m/\VI j v m)->oy j vs cs
 |[],cs,hl,_=>by cases cs with|nil=>rfl|cons _ _=>simp at hl
 |a::as,[],hl,_=>by simp at hl
 |a::as,c::cs,hl,h=>by
  obtain⟨m,u,A⟩:=h 0 a bj;simp at u;subst u;exact⟨c,cs,rfl,A,oy.of_get (by simpa using hl) λi v C=>by simpa using h (i+1) v (by simpa using C)⟩
def oy.append{j:jv}:∀{a:List AV} {x:List Value} {b:List AV} {y:List Value},oy j a x->oy j b y->oy j (a++b) (x++y)
 |[],_,_,_,h,k=>by rw[show _=[] from h];exact k
 |_::_,_,_,_,h,k=>by obtain⟨v,r,rfl,m,h⟩:=h;exact⟨v,_,rfl,m,oy.append h k⟩
def oy.take{j:jv}:∀{a:List AV} {x:List Value} (n:Nat),oy j a x->oy j (a.take n) (x.take n)
 |[],_,_,h=>by rw[show _=[] from h];simp[oy]
 |_::_,_,0,_=>by simp[oy]
 |_::_,_,n+1,h=>by obtain⟨v,r,rfl,m,h⟩:=h;exact⟨v,_,rfl,m,oy.take n h⟩
def oy.drop{j:jv}:∀{a:List AV} {x:List Value} (n:Nat),oy j a x->oy j (a.drop n) (x.drop n)
 |[],_,_,h=>by rw[show _=[] from h];simp[oy]
 |_::_,_,0,h=>h
 |_::_,_,n+1,h=>by obtain⟨v,r,rfl,m,h⟩:=h;exact oy.drop n h
def VI.oneCell{j:jv}{v:AV}{m:Value}(h:VI j v m)(u:v.one=Im):m.oneCell'=Im:=by
 cases v with
 |undef|agg|tup=>simp[AV.one]at u
 |sl o off len cap=>
  cases cap with
  |cm c=>obtain⟨l,_,_,rfl,_⟩:=h;rfl
  |grown e=>obtain⟨l,c,f,_,rfl,_⟩:=h;rfl
 |ptr o i=>obtain⟨l,_,rfl⟩:=h;rfl
 |clo=>obtain⟨_,_,_,_,rfl⟩:=h;rfl
 |err b=>
  cases b with
  |true=>rw[show m=_ from h];rfl
  |false=>obtain⟨_,_,rfl⟩:=h;rfl
 |_=>rw[show m=_ from h];rfl
def VI.cells_one{j:jv}{v:AV}{m:Value}(h:VI j v m)(u:v.one=Im):m.cells = #[m]:=by
 have:=VI.oneCell h u
 cases m<;>simp_all [Value.oneCell',Value.cells]
def VI.cells{j:jv}{v:AV}{m:Value}(h:VI j v m)(u:v.cells.all AV.one=Im):oy j v.cells m.cells.toList:=by
 cases v with
 |agg cs=>obtain⟨vs,h,rfl⟩:=h;simpa [AV.cells,Value.cells]using h
 |undef=>simp[AV.cells,AV.one]at u
 |tup=>simp[AV.cells,AV.one]at u
 |_=>rw[h.cells_one rfl];exact⟨m,[],rfl,h,rfl⟩
def oy.oneCell{j:jv}{vs:List AV}{cs:List Value}(h:oy j vs cs)(m:vs.all AV.one=Im):∀c∈cs,c.oneCell'=Im:=by
 intro c u;obtain⟨i,A,rfl⟩:=List.getElem_of_mem u;have E:=h.length;obtain⟨D,e,C⟩:=h.get (i:=i) (na aH);rw[na A]at e;cases e;exact C.oneCell (Mi.1 m _ (ss _))
structure ObjOK(B:Nat)(w:World)(j:jv)(ob:u2)(l:Loc):Prop where
 one:ob.cells.all AV.one=Im
 row:∃cur ty fz,w.heap[l.blk]? = Ik (.cells cur ty fz)/\(∀i v,ob.cells[i]? = Ik v->∃cv,cur[l.base+i]? = Ik cv/\VI j v cv)/\
  (ob.rw=Im->fz=(0,0)/\l.base+l.room<=cur.size/\B<=l.blk)/\(ob.rw=false->l.blk<B)
def gdB:Nat:=0
def gdL:V1:=(Iw 20).map λi=>((10 ^ i:Nat):Int)
def gdS:Nat:=1
def gdR:Nat:=2
def gdM:Nat:=3
structure Gd(B:Nat)(w0:World):Prop where
 lt:3<B
 tab:∃ty fz,w0.heap[gdB]? = Ik (.cells (gdL.map (Value.int .u64)).toArray ty fz)
 num:∃m,w0.cell? ⟨gdM,0,none⟩=Ik (.int .i64 m)
 syn:∃t v,w0.cell? ⟨gdS,0,none⟩=Ik (.iface t v)
 rng:∃t v,w0.cell? ⟨gdR,0,none⟩=Ik (.iface t v)
def Gd.later{B:Nat}{w0 w:World}(g:Gd B w0)(u:Below B w0 w)(C:B<=w.heap.size):Gd w.heap.size w:=by
 have h:=g.lt;obtain⟨a,b,c⟩:=g.tab;obtain⟨m,A⟩:=g.num;obtain⟨t,v,hs⟩:=g.syn;obtain⟨t',E,D⟩:=g.rng;exact⟨YO h C,⟨a,b,(u.block gdB (UK (by decide:gdB<=3) h)).trans c⟩,⟨m,(u.cell (p:=⟨gdM,0,none⟩) (UK (by decide:gdM<=3) h)).trans A⟩,
  ⟨t,v,(u.cell (p:=⟨gdS,0,none⟩) (UK (by decide:gdS<=3) h)).trans hs⟩,⟨t',E,(u.cell (p:=⟨gdR,0,none⟩) (UK (by decide:gdR<=3) h)).trans D⟩⟩
structure MR(B:Nat)(w0:World)(j:jv)(h:dN)(w:World):Prop where
 below:Below B w0 w
 bnd:B<=w.heap.size
 gd:Gd B w0
 fresh:∀o,h.bY<=o->h.cd o=none/\j o=none
 cd:∀o ob l,h.cd o=Ik ob->j o=Ik l->ObjOK B w j ob l
 apart:∀o o' ob j5 l l',o≠o'->h.cd o=Ik ob->h.cd o'=Ik j5->j o=Ik l->j o'=Ik l'->ob.rw=Im->l.blk≠l'.blk
structure FR(j:jv)(h:dN)(j':jv)(h':dN):Prop where
 bY:h.bY<=h'.bY
 inj:∀o,o<h.bY->j' o=j o
 pend:∀o,o<h.bY->j o=none->h'.cd o=h.cd o
def FR.refl(j:jv)(h:dN):FR j h j h:=⟨sB _,λ_ _=>rfl,λ_ _ _=>rfl⟩
def FR.trans{j C D:jv}{h h' u:dN}(a:FR j h C h')(b:FR C h' D u):FR j h D u:=
 ⟨Yv a.bY b.bY,λo m=>(b.inj o (YO m a.bY)).trans (a.inj o m),
  λo m A=>(b.pend o (YO m a.bY) ((a.inj o m).trans A)).trans (a.pend o m A)⟩
def MR.lt{B:Nat}{w0 w:World}{j:jv}{h:dN}(m:MR B w0 j h w){o:Nat}{l:Loc}(u:j o=Ik l):o<h.bY:=by
 rcases YY o h.bY with x|x
 .exact x
 .rw[(m.fresh o x).2]at u;cases u
def FR.le{B:Nat}{w0 w:World}{j A:jv}{h h':dN}(f:FR j h A h')(m:MR B w0 j h w):j.le A:=
 λo _ u=>(f.inj o (m.lt u)).trans u
def MR.drew{B:Nat}{w0 w:World}{j:jv}{h:dN}(m:MR B w0 j h w):MR B w0 j h w.drew:=
 ⟨m.below.drew,m.bnd,m.gd,m.fresh,λo u l a b=>⟨(m.cd o u l a b).one,(m.cd o u l a b).row⟩,m.apart⟩
def ZH(P:Program)(f:FuncId)(args:List AV)(h:dN)(K:AV->dN->Prop):Prop:=
 ∀(B:Nat) (w0:World) (j:jv) (w:World) (cargs:List Value),MR B w0 j h w->oy j args cargs->
  Calls P f cargs.toArray w λe w'=>∃v h' m u,e=.returned u/\FR j h m h'/\MR B w0 m h' w'/\VI m v u/\K v h'
def ZH.mono{P:Program}{f:FuncId}{args:List AV}{h:dN}{K K':AV->dN->Prop}(c:ZH P f args h K)(A:∀v h',K v h'->K' v h'):ZH P f args h K':=
 λB w0 j w cargs m D=>(c B w0 j w cargs m D).mono λ_ _ ⟨v,h',C,u,a,b,c,d,k⟩=>⟨v,h',C,u,a,b,c,d,A _ _ k⟩
end
section
open Go.RowKit
variable{w0 w:World}{j:jv}{h:dN}
def MR.cell(m:MR B w0 j h w){o i:Nat}{v:AV}{l:Loc}(A:h.gv o i=Ik v)(H:j o=Ik l):
  ∃u,w.cell? ⟨l.blk,l.base+i,none⟩=Ik u/\VI j v u:=by
 unfold dN.gv at A;cases ho:h.cd o with
 |none=>simp[ho]at A
 |some ob=>
  simp only[ho,YG]at A;obtain⟨cur,ty,fz,C,G,_⟩:=(m.cd o ob l ho H).row;obtain⟨u,D,E⟩:=G i v A;exact⟨u,by simp[World.cell?,C,D],E⟩
def dN.rd_some{o i n:Nat}{vs:List AV}(m:h.rd o i n=Ik vs):∃u,h.cd o=Ik u/\i+n<=Tw u.cells/\vs=(u.cells.drop i).take n:=by
 unfold dN.rd at m;cases ho:h.cd o with
 |none=>simp[ho]at m
 |some u=>
  simp only[ho,YG]at m;split at m
  .cases m;exact⟨u,rfl,by assumption,rfl⟩
  .cases m
def qf(b o k:Nat):(⟨b,o,none⟩:Addr).add k=⟨b,o+k,none⟩:=by
 unfold Addr.add;split<;>simp_all
def MR.cells(m:MR B w0 j h w){o i n:Nat}{vs:List AV}{l:Loc}(S:h.rd o i n=Ik vs)(K:j o=Ik l):
  ∃cs:List Value,oy j vs cs/\Tw cs=n/\vs.all AV.one=Im/\∀k u,cs[k]? = Ik u->w.cell? ((⟨l.blk,l.base+i,none⟩:Addr).add k)=Ik u:=by
 obtain⟨G,L,hle,rfl⟩:=dN.rd_some S;have O:=(m.cd o G l L K).one;obtain⟨cur,ty,fz,N,R,_⟩:=(m.cd o G l L K).row;have hlen:((G.cells.drop i).take n).length=n:=by simp;omega
 have J:∀k,k<n->∃C,cur[l.base+i+k]? = Ik C/\VI j (G.cells.getD (i+k) .undef) C:=by
  intro k A;have I:i+k<Tw G.cells:=aH
  obtain⟨C,E,H⟩:=R (i+k) G.cells[i+k] (na I);exact⟨C,by rw[<-E];congr 1;omega,by simpa [List.getD,na I]using H⟩
 refine⟨(Iw n).map λk=>cur.getD (l.base+i+k) undef,oy.of_get (by simp;omega) ?_,bj,?_,?_⟩
 .intro k v A;have D:k<n:=by
   rcases YY k n with x|x
   .exact x
   .rw[YN aH]at A;cases A
  obtain⟨C,E,H⟩:=J k D;refine⟨C,by simp[D,IS,E],?_⟩;rw[Y3,Iu D,Y0]at A;rw[List.getD,A]at H;exact H
 .exact Mi.2 λx T=>Mi.1 O x (Jx (Y7 T))
 .intro k u A;have D:k<n:=by
   rcases YY k n with x|x
   .exact x
   .rw[YN (by simp;omega)]at A;cases A
  obtain⟨C,E,_⟩:=J k D;simp[D,IS,E]at A;subst A;rw[qf];simp[World.cell?,N,E]
def jv.put(j:jv)(o:Nat)(l:Loc):jv:=λm=>if m=o then Ik l else j m
def MR.put_le(m:MR B w0 j h w)(l:Loc):j.le (j.put h.bY l):=by
 intro o A u
 have:=m.lt u
 unfold jv.put;rw[Iv aH];exact u
def ObjOK.alloc{A:u2}{l:Loc}(k:ObjOK B w j A l)(o:Obj){u:jv}(E:j.le u):ObjOK B (w.alloc o) u A l:=by
 refine⟨k.one,?_⟩;obtain⟨cur,ty,fz,m,D,G⟩:=k.row;refine⟨cur,ty,fz,?_,λi v H=>?_,G⟩
 .rw[heap_alloc_old _ _ (YA.1 m).1];exact m
 .obtain⟨C,a,b⟩:=D i v H;exact⟨C,a,VI.mono E _ _ b⟩
def MR.cb(m:MR B w0 j h w){cells:List AV}{cur:Array Value}{ty:TypeId}{room:Nat}(E:cells.all AV.one=Im)
  (H:oy j cells (cur.toList.take cells.length)) (D:room<=cur.size):
  MR B w0 (j.put h.bY ⟨w.heap.size,0,room⟩) (h.cb ⟨Im,cells⟩) (w.alloc (.cells cur ty))/\FR j h (j.put h.bY ⟨w.heap.size,0,room⟩) (h.cb ⟨Im,cells⟩):=by
 have hle:=m.put_le ⟨w.heap.size,0,room⟩;refine⟨⟨m.below.alloc m.bnd _,by simp;have:=m.bnd;omega,m.gd,?_,?_,?_⟩,?_⟩
 .intro o u;simp only[dN.cb]at u;simp only[dN.cb,jv.put,Iv (show ¬o=h.bY by omega)];exact m.fresh o aH
 .intro o A l u hl;by_cases e:o=h.bY
  .subst e;simp only[dN.cb,if_true,YR]at u;simp only[jv.put,if_true,YR]at hl;subst u;subst hl;refine⟨E,cur,ty,(0,0),heap_alloc_new w _,λi v I=>?_,λ_=>⟨rfl,by simpa using D,m.bnd⟩,λx=>by cases x⟩;obtain⟨G,a,b⟩:=H.get I;refine⟨G,?_,VI.mono hle _ _ b⟩;rw[Y3]at a;split at a
   .simpa using a
   .cases a
  .simp only[dN.cb,Iv e]at u;simp only[jv.put,Iv e]at hl;exact(m.cd o A l u hl).alloc _ hle
 .intro o o' A j5 l l' aj u di hl cu eE;have old:∀{p:Nat} {A:u2} {l:Loc},h.cd p=Ik A->j p=Ik l->l.blk<w.heap.size:=by
   intro p A l a b;obtain⟨cur,ty,fz,C,_⟩:=(m.cd p A l a b).row;exact(YA.1 C).1
  by_cases e:o=h.bY
  .have e':o'≠h.bY:=λx=>aj (e.trans x.symm);subst e;simp only[jv.put,if_true,YR]at hl;simp only[jv.put,Iv e']at cu;simp only[dN.cb,Iv e']at di
   have:=old di cu
   subst hl;show w.heap.size≠_;omega
  .simp only[dN.cb,Iv e]at u;simp only[jv.put,Iv e]at hl;by_cases e':o'=h.bY
   .subst e';simp only[jv.put,if_true,YR]at cu
    have:=old u hl
    subst cu;show _≠w.heap.size;omega
   .simp only[dN.cb,Iv e']at di;simp only[jv.put,Iv e']at cu;exact m.apart o o' A j5 l l' aj u di hl cu eE
 .refine⟨by simp[dN.cb],λo u=>?_,λo u _=>?_⟩
  .simp[jv.put,Jn u]
  .simp[dN.cb,Jn u]
def MR.reveal(m:MR B w0 j h w){o:Nat}{cells:List AV}{cur:Array Value}{ty:TypeId}(C:h.cd o=Ik ⟨Im,cells⟩)(I:j o=none)(E:cells.all AV.one=Im)
  (H:oy j cells cur.toList):
  MR B w0 (j.put o ⟨w.heap.size,0,0⟩) h (w.alloc (.cells cur ty))/\j.le (j.put o ⟨w.heap.size,0,0⟩):=by
 have hle:j.le (j.put o ⟨w.heap.size,0,0⟩):=by
  intro p l u;unfold jv.put;rw[Iv (λe=>by subst e;rw[I]at u;cases u)];exact u
 have K:o<h.bY:=by
  rcases YY o h.bY with x|x
  .exact x
  .rw[(m.fresh o x).1]at C;cases C
 refine⟨⟨m.below.alloc m.bnd _,by simp;have:=m.bnd;omega,m.gd,?_,?_,?_⟩,hle⟩
 .intro p hp;simp only[jv.put,Iv (show ¬p=o by omega)];exact m.fresh p hp
 .intro p A l hp u;by_cases e:p=o
  .subst e;rw[C]at hp;simp only[YR]at hp;simp only[jv.put,if_true,YR]at u;subst hp;subst u;refine⟨E,cur,ty,(0,0),heap_alloc_new w _,λi v J=>?_,λ_=>⟨rfl,bj,m.bnd⟩,λx=>by cases x⟩;obtain⟨G,a,b⟩:=H.get J;exact⟨G,by simpa using a,VI.mono hle _ _ b⟩
  .simp only[jv.put,Iv e]at u;exact(m.cd p A l hp u).alloc _ hle
 .intro p p' A j5 l l' aj hp jD u cu eE;have old:∀{p:Nat} {A:u2} {l:Loc},h.cd p=Ik A->j p=Ik l->l.blk<w.heap.size:=by
   intro p A l a b;obtain⟨cur,ty,fz,D,_⟩:=(m.cd p A l a b).row;exact(YA.1 D).1
  by_cases e:p=o
  .have e':p'≠o:=λx=>aj (e.trans x.symm);subst e;simp only[jv.put,if_true,YR]at u;simp only[jv.put,Iv e']at cu
   have:=old jD cu
   subst u;show w.heap.size≠_;omega
  .simp only[jv.put,Iv e]at u;by_cases e':p'=o
   .subst e';simp only[jv.put,if_true,YR]at cu
    have:=old hp u
    subst cu;show _≠w.heap.size;omega
   .simp only[jv.put,Iv e']at cu;exact m.apart p p' A j5 l l' aj hp jD u cu eE
def dN.wr_some{o i:Nat}{vs:List AV}{h':dN}(u:h.wr o i vs=Ik h'):
  ∃m,h.cd o=Ik m/\m.rw=Im/\i+Tw vs<=Tw m.cells/\vs.all AV.one=Im/\h'=h.set o (m.cells.take i++vs++m.cells.drop (i+Tw vs)):=by
 unfold dN.wr at u;cases ho:h.cd o with
 |none=>simp[ho]at u
 |some m=>
  simp only[ho,YG]at u;split at u
  .rename_i x;cases u;exact⟨m,rfl,x.1,x.2.1,x.2.2,rfl⟩
  .cases u
def MR.setRow(m:MR B w0 j h w){o:Nat}{C:u2}{l:Loc}{cells:List AV}{cur new:Array Value}{ty:TypeId}{fz:Nat×Nat}(J:h.cd o=Ik C)(A:j o=Ik l)(I:C.rw=Im)
  (G:w.heap[l.blk]? = Ik (.cells cur ty fz)) (W:new.size=cur.size) (V:cells.all AV.one=Im) (hc:∀(i:Nat) (v:AV),cells[i]? = Ik v->∃K:Value,new[l.base+i]? = Ik K/\VI j v K):
  MR B w0 j (h.set o cells) (w.setRow l.blk new)/\FR j h j (h.set o cells):=by
 obtain⟨uF,tE,Iz,D,jw,kQ,_⟩:=(m.cd o C l J A).row;obtain⟨rfl,U,X⟩:=kQ I;have af:=(YA.1 G).1;have heq:uF=cur/\fz=(0,0):=by
  rw[G]at D;simp at D;exact⟨D.1.symm,D.2.2⟩
 obtain⟨rfl,rfl⟩:=heq;have O:∀k,k≠l.blk->(w.setRow l.blk new).heap[k]? = w.heap[k]?:=by
  intro k u;simp only[World.setRow,LJ];rw[Iv (λe=>u e.symm)]
 have py:(w.setRow l.blk new).heap[l.blk]? = Ik (.cells new ty (0,0)):=by
  simp[World.setRow,LJ,G]
 have S:(w.setRow l.blk new).heap.size=w.heap.size:=by simp[World.setRow]
 refine⟨⟨?_,by rw[S];exact m.bnd,m.gd,?_,?_,?_⟩,?_⟩
 .exact m.below.trans ⟨rfl,rfl,rfl,by rw[S];exact sB _,λk u=>O k aH⟩
 .intro p hp
  have:=m.lt A
  simp only[dN.set]at hp ⊢;rw[Iv aH];exact m.fresh p hp
 .intro p Fv lp hp wq;by_cases e:p=o
  .subst e;simp only[dN.set,if_true,YR]at hp;rw[A]at wq;cases wq;subst hp;exact⟨V,new,ty,(0,0),py,λi v hv=>hc i v hv,λ_=>⟨rfl,by rw[W];exact U,X⟩,λx=>by cases x⟩
  .simp only[dN.set,Iv e]at hp;have u:=m.cd p Fv lp hp wq;refine⟨u.one,?_⟩;obtain⟨c,t,f,x,y⟩:=u.row;have H:lp.blk≠l.blk:=λe'=>m.apart o p C Fv l lp (λx=>e x.symm) J hp A wq I e'.symm;exact⟨c,t,f,by rw[O _ H];exact x,y⟩
 .intro p p' Fv MK lp M2 H hp jD wq GW Gg;have conv:∀{q:Nat} {E:u2},(h.set o cells).cd q=Ik E->∃R,h.cd q=Ik R/\(E.rw=Im->R.rw=Im):=by
   intro q E N;by_cases e:q=o
   .subst e;exact⟨C,J,λ_=>I⟩
   .simp only[dN.set,Iv e]at N;exact⟨E,N,id⟩
  obtain⟨a,Y,T⟩:=conv hp;obtain⟨b,Z,_⟩:=conv jD;exact m.apart p p' a b lp M2 H Y Z wq GW (T Gg)
 .refine⟨sB _,λ_ _=>rfl,λp _ L=>?_⟩;simp only[dN.set];rw[Iv (λe=>by subst e;rw[A]at L;cases L)]
def MR.kill(m:MR B w0 j h w){o:Nat}{l:Loc}(A:j o=Ik l):MR B w0 j (h.kill o) w/\FR j h j (h.kill o):=by
 have sub:∀{q:Nat} {C:u2},(h.kill o).cd q=Ik C->h.cd q=Ik C:=by
  intro q C E;by_cases e:q=o
  .subst e;simp[dN.kill]at E
  .simpa [dN.kill,e]using E
 refine⟨⟨m.below,m.bnd,m.gd,λp u=>⟨?_,(m.fresh p u).2⟩,λp L l u O=>m.cd p L l (sub u) O,λp N a b l K G u J A H I=>m.apart p N a b l K G (sub u) (sub J) A H I⟩,
  ⟨sB _,λ_ _=>rfl,λp _ D=>?_⟩⟩
 .simp only[dN.kill]at u ⊢;split
  .rfl
  .exact(m.fresh p u).1
 .simp only[dN.kill];rw[Iv (λe=>by subst e;rw[A]at D;cases D)]
end
section
open Go.RowKit
def toCell:Value->Option AV
 | .bool b=>Ik (.bool b)
 | .int k n=>Ik (.int k n)
 | .string s=>Ik (.str s.data.toList)
 | .pointer none=>Ik .nilp
 | .slice none 0 0=>Ik .cU
 | .nilFunc=>Ik .nilf
 |_=>none
def qE:List Value->Option (List AV)
 |[]=>Ik []
 |v::r=>(toCell v).bind λa=>(qE r).bind λb=>Ik (a::b)
def toAV:Value->Option AV
 | .agg cs=>(qE cs.toList).map .agg
 |v=>toCell v
def cx:Operand->Option IX
 | .tmp t=>Ik (.t t)
 | .const v=>(toAV v).map .c
 | .func f=>Ik (.c (.clo f [] []))
 | .global _=>none
def cxs:List Operand->Option (List IX)
 |[]=>Ik []
 |x::r=>(cx x).bind λa=>(cxs r).bind λb=>Ik (a::b)
def cxo:Option Operand->Option (Option IX)
 |none=>Ik none
 |some x=>(cx x).map Ik
def zAJ:TypeDesc->Bool
 | .struct _ | .array _ _=>Im
 |_=>false
def A5:Option TypeDesc->He
 |some .bool=>.bool
 |some (.slice _)=>.slice
 |some (.pointer _)=>.pointer
 |some (.func _ _ _)=>.func
 |_=>.other
def zAK(P:Program):List Field->Nat->Bool
 |[],_=>Im
 | f :: fs, i => (f.name != "_") && (f.offset == i) && (match P.underlying f.type with | Ik (.int _) => Im | _ => false) && zAK P fs (i + 1)
def eqk(P:Program)(t:TypeId):He:=
 match P.underlying t with
 |some (.struct fs)=>if (zAK P fs.toList 0 && !P.stoodInHeld t && !P.eqGuardType P.depth t)=Im then .ints fs.size else .other
 |o=>A5 o
def zDR(P:Program)(fields:Array Field):List (Nat×Operand)->Option (List (Nat×Nat×IX))
 |[]=>Ik []
 |(i,x)::r=>(fields[i]?).bind λf=>(P.info? f.type).bind λm=>(cx x).bind λa=>(zDR P fields r).bind λb=>Ik ((f.offset,m.size,a)::b)
def carts(size:Nat):List (Nat×Operand)->Option (List (Nat×Nat×IX))
 |[]=>Ik []
 |(i,x)::r=>(cx x).bind λa=>(carts size r).bind λb=>Ik ((i*size,size,a)::b)
def errK(P:Program)(t:TypeId):Operand->Bool
 | .const .nilIface=>match P.underlying t with|some (.interface _)=>Im|_=>false
 |_=>false
def zRK{P:Program}{t:TypeId}{y:Operand}(h:errK P t y=Im):y=.const .nilIface/\∃m,P.underlying t=Ik (.interface m):=by
 unfold errK at h;split at h
 .split at h
  .exact⟨rfl,_,by assumption⟩
  .cases h
 .cases h
def copQ(P:Program):Op->Option tT
 | .move x | .assign x=>(cx x).map .mv
 | .pick c a b=>(cx c).bind λc=>(cx a).bind λa=>(cx b).bind λb=>Ik (.pick c a b)
 | .binOp op xt x y _=>(cx x).bind λx=>if errK P xt y=Im then Ik (.errB op x)else(cx y).bind λy=>Ik (.bin op (eqk P xt) x y)
 | .unOp op _ x=>(cx x).map (.un op)
 | .convert src dst x=>match P.underlying src,P.underlying dst with
  |some (.int _),Ik (.int k)=>(cx x).map (.conv k)
  |_,_=>none
 | .nilCheck x=>(cx x).map .nilCheck
 | .field t x f=>match P.underlying t with
  |some (.struct fields)=>(fields[f]?).bind λu=>match P.underlying u.type,P.info? u.type with
   |some d,Ik i=>(cx x).map (.field (zAJ d) i.size u.offset)
   |_,_=>none
  |_=>none
 | .fieldAddr t x f=>match P.underlying t with
  |some (.struct fields)=>(fields[f]?).bind λu=>(P.info? u.type).bind λi=>if i.size=0 then none else(cx x).map (.fieldAddr u.offset)
  |_=>none
 | .indexAddr t x m=>match P.underlying t with
  |some (.slice e)=>(P.info? e).bind λi=>(cx x).bind λx=>(cx m).bind λm=>Ik (.indexAddr i.size x m)
  |some (.array len e)=>match m with
   | .const (.int _ n)=>(P.info? e).bind λi=>if 0<=n/\n<(len:Int)then(cx x).map (.fieldAddr (n.toNat*i.size))else none
   |_=>none
  |_=>none
 | .index t x m=>match P.underlying t with
  |some .string=>(cx x).bind λx=>(cx m).bind λm=>Ik (.indexStr x m)
  |_=>none
 | .extract x i=>(cx x).map (.extract · i)
 | .slice t x C A mx=>match P.underlying t with
  |some (.slice e)=>(P.info? e).bind λi=>(cx x).bind λx=>(cxo C).bind λC=>(cxo A).bind λA=>(cxo mx).bind λmx=>Ik (.slice i.size x C A mx)
  |some .string=>(cx x).bind λx=>(cxo C).bind λC=>(cxo A).bind λA=>match mx with|none=>Ik (.sliceStr x C A)|some _=>none
  |_=>none
 | .makeFunc (.func f) first E=>(cxs first.toList).bind λfirst=>(cxs E.toList).bind λE=>Ik (.makeFunc f first E)
 | .load t x=>match P.underlying t,P.info? t with
  |some d,Ik i=>(cx x).map (.load (zAJ d) i.size)
  |_,_=>none
 | .build t D=>match P.underlying t,(P.info? t).bind (·.zero)with
  |some (.struct fields),Ik (.agg z)=>if fields.toList.all (λf=>(P.info? f.type).isSome)=Im then(qE z.toList).bind λz=>(zDR P fields D.toList).bind λD=>Ik (.build z D)else none
  |some (.array _ e),Ik (.agg z)=>(P.info? e).bind λi=>(qE z.toList).bind λz=>(carts i.size D.toList).bind λD=>Ik (.build z D)
  |_,_=>none
 | .call { callee:=.builtin b,args,argTypes }=>
  match b,args.toList,argTypes.toList with
  | .len,[x],[t]=>match P.underlying t with
   |some (.slice _)=>(cx x).map .len
   |some .string=>(cx x).map .lenStr
   |_=>none
  | .cap,[x],[t]=>match P.underlying t with
   |some (.slice _)=>(cx x).map .cap
   |_=>none
  | .max,[x,y],[t,_]=>match P.underlying t with
   |some (.int _)=>(cx x).bind λx=>(cx y).bind λy=>Ik (.maxmin Im x y)
   |_=>none
  | .min,[x,y],[t,_]=>match P.underlying t with
   |some (.int _)=>(cx x).bind λx=>(cx y).bind λy=>Ik (.maxmin false x y)
   |_=>none
  |_,_,_=>none
 |_=>none
structure ER(nt:Nat)(j:jv)(e:Env)(a:Act):Prop where
 vals:∀t,VI j (e t) (a.tmps.getD t undef)
 size:a.tmps.size=nt
 defers:a.defers=[]
variable{P:Program}{w:World}{j:jv}{h:dN}{nt:Nat}{e:Env}{a:Act}
def ER.mono{m:jv}(r:ER nt j e a)(u:j.le m):ER nt m e a:=⟨λt=>VI.mono u _ _ (r.vals t),r.size,r.defers⟩
def ER.put(r:ER nt j e a){d:Option Nat}{v:AV}{u:Value}(C:∀t,d=Ik t->t<nt)(D:VI j v u):ER nt j (e.put d v) (a.put d u):=by
 cases d with
 |none=>exact r
 |some d=>
  have A:d<a.tmps.size:=by rw[r.size];exact C d rfl
  refine⟨λt=>?_,by simp[Act.put,r.size],r.defers⟩;simp only[Env.put,Act.put,IS,Array.getElem?_setIfInBounds];by_cases m:t=d
  .subst m;simpa [A]using D
  .rw[Iv m,Iv (λx=>m x.symm)]
   have:=r.vals t
   rwa[IS]at this
def zE7{v:Value}{av:AV}(m:toCell v=Ik av):VI j av v/\av.one=Im/\v.cells = #[v]:=by
 unfold toCell at m;split at m<;>first|(cases m;exact⟨rfl,rfl,rfl⟩)|cases m
def qH:∀{vs:List Value} {m:List AV},qE vs=Ik m->oy j m vs/\m.all AV.one=Im
 |[],m,hv=>by cases hv;exact⟨rfl,rfl⟩
 |v::r,m,hv=>by
  simp only[qE,YX]at hv;obtain⟨x,C,y,D,E⟩:=hv;cases E;have u:=zE7 (j:=j) C;have A:=qH D;exact⟨⟨v,r,rfl,u.1,A.1⟩,by simp[u.2.1,A.2]⟩
def zK4{v:Value}{av:AV}(m:toAV v=Ik av):VI j av v:=by
 unfold toAV at m;split at m
 .simp only[YJ]at m;obtain⟨x,u,rfl⟩:=m;rename_i cs;exact⟨cs.toList,(qH u).1,bj⟩
 .exact(zE7 m).1
def zM(r:ER nt j e a){x:Operand}{u:IX}(m:cx x=Ik u):VI j (u.ev e) (a.eval x):=by
 cases x with
 |tmp t=>cases m;exact r.vals t
 |const v=>
  simp only[cx,YJ]at m;obtain⟨av,A,rfl⟩:=m;exact zK4 A
 |func f=>cases m;exact⟨[],[],rfl,rfl,rfl⟩
 |global g=>cases m
def zAN(r:ER nt j e a):∀{xs:List Operand} {ixs:List IX},cxs xs=Ik ixs->oy j (ixs.map (·.ev e)) (xs.map a.eval)
 |[],_,hx=>by cases hx;rfl
 |x::xs,ixs,hx=>by
  simp only[cxs,YX]at hx;obtain⟨p,m,q,u,A⟩:=hx;cases A;exact⟨_,_,rfl,zM r m,zAN r u⟩
def zOQ(r:ER nt j e a){x:Option Operand}{A:Option IX}(u:cxo x=Ik A):
  (x=none/\A=none)\/∃y m,x=Ik y/\A=Ik m/\VI j (m.ev e) (a.eval y):=by
 cases x with
 |none=>cases u;exact .inl ⟨rfl,rfl⟩
 |some y=>
  simp only[cxo,YJ]at u;obtain⟨m,C,rfl⟩:=u;exact .inr ⟨y,m,rfl,rfl,zM r C⟩
def yA(P:Program)(s:Sem Value)(w:World)(j:jv)(v:AV):Prop:=∃m,s.run P w=.ok m w/\VI j v m
def zMY{op:BinOp}{k:IntKind}{x y:Int}{A:TypeId}{v:AV}(u:op≠.shl/\op≠.shr)(m:B6 op k x y=Ik v):
  yA P (binOp op A (.int k x) (.int k y)) w j v:=by
 cases op<;>simp only[B6]at m<;>(try (split at m))<;>simp only[YR,reduceCtorEq]at m<;>(try subst m)<;>
  first
  |exact absurd rfl u.1
  |exact absurd rfl u.2
  |(refine⟨_,?_,rfl⟩;simp[binOp,Op.intArith,Op.intDiv,Op.intCmp,Op.intBits, *];done)
  |(refine⟨_,?_,rfl⟩;simp[binOp,Op.intArith,Op.intDiv,Op.intCmp,Op.intBits, *];first|rfl|(congr 1)|skip)
def zDV{op:BinOp}{k C:IntKind}{x y:Int}{D:TypeId}{v:AV}(u:op=.shl\/op=.shr)(m:Zo op k x y=Ik v):
  yA P (binOp op D (.int k x) (.int C y)) w j v:=by
 unfold Zo at m;split at m
 .cases m
 .rename_i A;rcases u with rfl|rfl<;>simp only[YR]at m<;>subst m<;>refine⟨_,?_,rfl⟩<;>simp[binOp,Op.shift,A]
def zMW{op:BinOp}{x y:List UInt8}{C:TypeId}{v:AV}(m:astr op x y=Ik v):
  yA P (binOp op C (.string ⟨x.toArray⟩) (.string ⟨y.toArray⟩)) w j v:=by
 have u:(⟨x.toArray⟩:ByteArray).toList=x:=by rw[ByteArray.toList_eq]
 have A:(⟨y.toArray⟩:ByteArray).toList=y:=by rw[ByteArray.toList_eq]
 have D:(⟨x.toArray⟩:ByteArray).size=Tw x:=by simp[ByteArray.size]
 have E:(⟨y.toArray⟩:ByteArray).size=Tw y:=by simp[ByteArray.size]
 cases op<;>simp only[astr]at m<;>(try (split at m))<;>simp only[YR,reduceCtorEq]at m<;>(try subst m)
 case add.isTrue hle=>
  refine⟨_,?_,rfl⟩
  have:¬(((Tw x+Tw y:Nat):Int) > IntKind.i64.max):=by
   have:IntKind.i64.max=9223372036854775807:=by decide
   rw[this];omega
  simp only[binOp,Op.stringOp,D,E,Iv this];simp;congr 1
 all_goals (refine⟨_,?_,rfl⟩;simp[binOp,Op.stringOp,u,A])
def zH0:Value->Bool
 | .nilIface | .agg _=>false
 |_=>Im
def zHH{op:BinOp}{t:TypeId}{x y:Operand}{c d:Value}(m:zH0 c=Im):(eqGuard op t x y c d).run P w=.ok () w:=by
 unfold eqGuard;cases c<;>simp[zH0]at m<;>cases op<;>simp
def zIv(d:Nat){t:TypeId}(m:P.underlying t=Ik .bool)(x y:Bool):(Op.equalIn (d+1) t (.bool x) (.bool y)).run P w=.ok (x == y) w:=by
 simp[Op.equalIn,run_underlying m]
def zMO{t:TypeId}(m:P.underlying t=Ik .bool)(x y:Bool):(Op.equal t (.bool x) (.bool y)).run P w=.ok (x == y) w:=zIv 9999 m x y
def zDv(d:Nat){t m:TypeId}(u:P.underlying t=Ik (.slice m))(o:Option Addr)(n c:Nat):(Op.equalIn (d+1) t (.slice o n c) (.slice none 0 0)).run P w=.ok o.isNone w:=by
 cases o<;>simp[Op.equalIn,run_underlying u]
def zBP{t m:TypeId}(u:P.underlying t=Ik (.slice m))(o:Option Addr)(n c:Nat):(Op.equal t (.slice o n c) (.slice none 0 0)).run P w=.ok o.isNone w:=zDv 9999 u o n c
def zDx(d:Nat){t m:TypeId}(u:P.underlying t=Ik (.slice m))(o:Option Addr)(n c:Nat):(Op.equalIn (d+1) t (.slice none 0 0) (.slice o n c)).run P w=.ok o.isNone w:=by
 cases o<;>simp[Op.equalIn,run_underlying u]
def zFn{t m:TypeId}(u:P.underlying t=Ik (.slice m))(o:Option Addr)(n c:Nat):(Op.equal t (.slice none 0 0) (.slice o n c)).run P w=.ok o.isNone w:=zDx 9999 u o n c
def zFl(d:Nat){t m:TypeId}(u:P.underlying t=Ik (.pointer m))(o:Option Addr):(Op.equalIn (d+1) t (.pointer o) (.pointer none)).run P w=.ok o.isNone w:=by
 cases o<;>simp[Op.equalIn,run_underlying u]
def zCd{t m:TypeId}(u:P.underlying t=Ik (.pointer m))(o:Option Addr):(Op.equal t (.pointer o) (.pointer none)).run P w=.ok o.isNone w:=zFl 9999 u o
def zFo(d:Nat){t m:TypeId}(u:P.underlying t=Ik (.pointer m))(o:Option Addr):(Op.equalIn (d+1) t (.pointer none) (.pointer o)).run P w=.ok o.isNone w:=by
 cases o<;>simp[Op.equalIn,run_underlying u]
def zHG{t m:TypeId}(u:P.underlying t=Ik (.pointer m))(o:Option Addr):(Op.equal t (.pointer none) (.pointer o)).run P w=.ok o.isNone w:=zFo 9999 u o
def zIu(d:Nat){t:TypeId}{u A:Array TypeId}{C:Bool}(m:P.underlying t=Ik (.func u A C)):(Op.equalIn (d+1) t .nilFunc .nilFunc).run P w=.ok Im w:=by
 simp[Op.equalIn,run_underlying m]
def zMN{t:TypeId}{u A:Array TypeId}{C:Bool}(m:P.underlying t=Ik (.func u A C)):(Op.equal t .nilFunc .nilFunc).run P w=.ok Im w:=zIu 9999 m 
def zDw(d:Nat){t:TypeId}{u A:Array TypeId}{C:Bool}(m:P.underlying t=Ik (.func u A C))(f:Fn)(x y:Array Value):(Op.equalIn (d+1) t .nilFunc (.func f x y)).run P w=.ok false w:=by
 simp[Op.equalIn,run_underlying m]
def zFm{t:TypeId}{u A:Array TypeId}{C:Bool}(m:P.underlying t=Ik (.func u A C))(f:Fn)(x y:Array Value):(Op.equal t .nilFunc (.func f x y)).run P w=.ok false w:=zDw 9999 m f x y
def zDz(d:Nat){t:TypeId}{u A:Array TypeId}{C:Bool}(m:P.underlying t=Ik (.func u A C))(f:Fn)(x y:Array Value):(Op.equalIn (d+1) t (.func f x y) .nilFunc).run P w=.ok false w:=by
 simp[Op.equalIn,run_underlying m]
def zFq{t:TypeId}{u A:Array TypeId}{C:Bool}(m:P.underlying t=Ik (.func u A C))(f:Fn)(x y:Array Value):(Op.equal t (.func f x y) .nilFunc).run P w=.ok false w:=zDz 9999 m f x y
def qN{op:BinOp}{r:Bool}{t:TypeId}{c d:Value}{v:AV}(m:DR op r=Ik v)(u:(Op.equal t c d).run P w=.ok r w)
  (A:op=.eql->binOp op t c d=do pure (.bool (<-Op.equal t c d))) (C:op=.neq->binOp op t c d=do pure (.bool (!(<-Op.equal t c d)))):yA P (binOp op t c d) w j v:=by
 cases op<;>simp only[DR,YR,reduceCtorEq]at m
 .subst m;exact⟨_,by rw[A rfl];simp[u],rfl⟩
 .subst m;exact⟨_,by rw[C rfl];simp[u],rfl⟩
def QS{t:TypeId}{k:He}(m:eqk P t=k)(u:∀n,k≠.ints n)(A:k≠.other):A5 (P.underlying t)=k:=by
 unfold eqk at m;split at m
 .split at m
  .exact absurd m.symm (u _)
  .exact absurd m.symm A
 .exact m
def zPw{t:TypeId}{n:Nat}(m:eqk P t=.ints n):∃u,P.underlying t=Ik (.struct u)/\u.size=n/\zAK P u.toList 0=Im/\P.stoodInHeld t=false/\P.eqGuardType P.depth t=false:=by
 unfold eqk at m;split at m
 .grind
 .unfold A5 at m;split at m<;>cases m
def zCn{t:TypeId}{k:IntKind}(m:P.underlying t=Ik (.int k)){xs:Array Value}{off:Nat}{v:Value}(u:xs[off]? = Ik v):(part t xs off).run P w=.ok v w:=by
 unfold part isAgg;simp[run_underlying m,u]
def zFx{d:Nat}{cx cy:Array Value}:∀(A:List Field) (i:Nat) {xs m:List AV} {r:Bool} {vs C:List Value},zAK P A i=Im->aggB xs m=Ik r->A.length=Tw xs->oy j xs vs->oy j m C->(∀k,cx[i+k]? = vs[k]?)->(∀k,cy[i+k]? = C[k]?)->
  (Op.eqFields (d+1) cx cy A).run P w=.ok r w
 |[],i,xs,m,r,vs,C,hf,hr,hl,hv,hu,h1,h2=>by
  have:xs=[]:=YM hl.symm
  subst this;cases m with
  |nil=>cases hr;simp[Op.eqFields]
  |cons y m=>simp[aggB]at hr
 |f::A,i,xs,m,r,vs,C,hf,hr,hl,hv,hu,h1,h2=>by
  simp only[zAK,Yt,bne_iff_ne,ne_eq,beq_iff_eq]at hf;obtain⟨⟨⟨L,E⟩,G⟩,N⟩:=hf;cases xs with
  |nil=>cases hl
  |cons x xs=>
  cases m with
  |nil=>cases x<;>simp[aggB]at hr
  |cons y m=>
  cases x<;>cases y<;>simp only[aggB,reduceCtorEq]at hr
  rename_i k a V b;split at hr
  .rename_i R;subst R;obtain⟨W,U,rfl⟩:=YJ.1 hr;obtain⟨v,vs,rfl,rfl,O⟩:=hv;obtain⟨u,C,rfl,rfl,I⟩:=hu;have J:cx[f.offset]? = Ik (.int k a):=by rw[E];exact h1 0
   have K:cy[f.offset]? = Ik (.int k b):=by rw[E];exact h2 0
   have S:=zFx (d:=d) (cx:=cx) (cy:=cy) A (i+1) N U (by simpa using hl) O I (λk=>by have:=h1 (k+1);rw[show i+1+k=i+(k+1) by omega];exact this) (λk=>by have:=h2 (k+1);rw[show i+1+k=i+(k+1) by omega];exact this);split at G
   .rename_i T D;unfold Op.eqFields;rw[Iu L];simp only[Sem.run_bind,zCn D J,zCn D K,Result.andThen_ok,run_equalIn_int w d f.type k T a b D];by_cases H:a=b
    .subst H;simp[S]
    .simp[H]
   .cases G
  .cases hr
def zPx{o:Option TypeDesc}(m:A5 o=.bool):o=Ik .bool:=by
 unfold A5 at m;split at m<;>first|rfl|cases m
def zDO{o:Option TypeDesc}(m:A5 o=.slice):∃u,o=Ik (.slice u):=by
 unfold A5 at m;split at m<;>first|exact⟨_,rfl⟩|cases m
def zBb{o:Option TypeDesc}(m:A5 o=.pointer):∃u,o=Ik (.pointer u):=by
 unfold A5 at m;split at m<;>first|exact⟨_,rfl⟩|cases m
def zEt{o:Option TypeDesc}(m:A5 o=.func):∃a b c,o=Ik (.func a b c):=by
 unfold A5 at m;split at m<;>first|exact⟨_,_,_,rfl⟩|cases m
def VI.slice_ne{o off len:Nat}{cap:nK}{c:Value}(u:VI j (.sl o off len cap) c):∃x n m,c=.slice (Ik x) n m:=by
 cases cap with
 |cm q=>obtain⟨l,_,_,rfl,_⟩:=u;exact⟨_,_,_,rfl⟩
 |grown q=>obtain⟨l,_,_,_,rfl,_⟩:=u;exact⟨_,_,_,rfl⟩
def zMZ{op:BinOp}{G:TypeId}{x y v:AV}{c d:Value}(u:AW op (eqk P G) x y=Ik v)(D:VI j x c)(E:VI j y d):
  yA P (binOp op G c d) w j v/\(zH0 c=Im\/(P.eqGuardType P.depth G=false/\∃xs L,c=.agg xs/\d=.agg L)):=by
 unfold AW at u;split at u
 .rename_i k n k' m;rw[show c=_ from D,show d=_ from E];refine⟨?_,.inl rfl⟩;split at u
  .exact zDV (.inl rfl) u
  .exact zDV (.inr rfl) u
  .rename_i Z n2;split at u
   .rename_i O;subst O;exact zMY ⟨Z,n2⟩ u
   .cases u
 .rw[show c=_ from D,show d=_ from E];exact⟨zMW u,.inl rfl⟩
 .rw[show c=_ from D,show d=_ from E];split at u
  .rename_i A;exact⟨qN u (zMO (zPx (QS A (λ_=>bj) bj)) _ _) (λe=>by subst e;rfl) (λe=>by subst e;rfl),.inl rfl⟩
  .cases u
 .split at u
  .rename_i A;obtain⟨H,C⟩:=zDO (QS A (λ_=>bj) bj);rw[show c=_ from D,show d=_ from E];exact⟨qN u (zBP C _ _ _) (λe=>by subst e;rfl) (λe=>by subst e;rfl),.inl rfl⟩
  .cases u
 .split at u
  .rename_i A;obtain⟨H,C⟩:=zDO (QS A (λ_=>bj) bj);obtain⟨x,n,m,rfl⟩:=VI.slice_ne D;rw[show d=_ from E];exact⟨qN u (zBP C _ _ _) (λe=>by subst e;rfl) (λe=>by subst e;rfl),.inl rfl⟩
  .cases u
 .split at u
  .rename_i A;obtain⟨H,C⟩:=zDO (QS A (λ_=>bj) bj);obtain⟨x,n,m,rfl⟩:=VI.slice_ne E;rw[show c=_ from D];exact⟨qN u (zFn C _ _ _) (λe=>by subst e;rfl) (λe=>by subst e;rfl),.inl rfl⟩
  .cases u
 .split at u
  .rename_i A;obtain⟨H,C⟩:=zBb (QS A (λ_=>bj) bj);rw[show c=_ from D,show d=_ from E];exact⟨qN u (zCd C _) (λe=>by subst e;rfl) (λe=>by subst e;rfl),.inl rfl⟩
  .cases u
 .split at u
  .rename_i A;obtain⟨H,C⟩:=zBb (QS A (λ_=>bj) bj);rw[show d=_ from E];obtain⟨l,_,rfl⟩:=D;exact⟨qN u (zCd C _) (λe=>by subst e;rfl) (λe=>by subst e;rfl),.inl rfl⟩
  .cases u
 .split at u
  .rename_i A;obtain⟨H,C⟩:=zBb (QS A (λ_=>bj) bj);rw[show c=_ from D];obtain⟨l,_,rfl⟩:=E;exact⟨qN u (zHG C _) (λe=>by subst e;rfl) (λe=>by subst e;rfl),.inl rfl⟩
  .cases u
 .split at u
  .rename_i A;obtain⟨a,b,r,C⟩:=zEt (QS A (λ_=>bj) bj);rw[show c=_ from D,show d=_ from E];exact⟨qN u (zMN C) (λe=>by subst e;rfl) (λe=>by subst e;rfl),.inl rfl⟩
  .cases u
 .split at u
  .rename_i A;obtain⟨a,b,r,C⟩:=zEt (QS A (λ_=>bj) bj);rw[show d=_ from E];obtain⟨_,_,_,_,rfl⟩:=D;exact⟨qN u (zFq C _ _ _) (λe=>by subst e;rfl) (λe=>by subst e;rfl),.inl rfl⟩
  .cases u
 .split at u
  .rename_i A;obtain⟨a,b,r,C⟩:=zEt (QS A (λ_=>bj) bj);rw[show c=_ from D];obtain⟨_,_,_,_,rfl⟩:=E;exact⟨qN u (zFm C _ _ _) (λe=>by subst e;rfl) (λe=>by subst e;rfl),.inl rfl⟩
  .cases u
 .split at u
  .rename_i xs L n A;split at u
   .rename_i X;obtain⟨I,J,R,S,T,U⟩:=zPw A;obtain⟨r,Y,u⟩:=YX.1 u;obtain⟨vs,V,rfl⟩:=D;obtain⟨us,N,rfl⟩:=E;have K:P.fieldsOf G=I:=by simp[Program.fieldsOf,J]
    have W:(Op.equalIn 10000 G (.agg vs.toArray) (.agg us.toArray)).run P w=.ok r w:=by
     rw[run_equalIn_struct w 9999 G _ _ (by rw[K];exact J) T,K];exact zFx (d:=9998) I.toList 0 S Y (by rw[X.1,<-R];simp) V N (λk=>bj) (λk=>bj)
    refine⟨qN u W (λe=>by subst e;rfl) (λe=>by subst e;rfl),.inr ⟨U,_,_,rfl,rfl⟩⟩
   .cases u
  .cases u
 .cases u
def zDy(d:Nat){t:TypeId}{A:Array (String×TypeId)}(u:P.underlying t=Ik (.interface A))(c:Value)(b:Bool)(m:VI j (.err b) c):(Op.equalIn (d+1) t c .nilIface).run P w=.ok b w:=by
 cases b with
 |true=>rw[show c=_ from m];simp[Op.equalIn,run_underlying u]
 |false=>obtain⟨_,_,rfl⟩:=m;simp[Op.equalIn,run_underlying u]
def zFp{t:TypeId}{A:Array (String×TypeId)}(u:P.underlying t=Ik (.interface A))(c:Value)(b:Bool)(m:VI j (.err b) c):(Op.equal t c .nilIface).run P w=.ok b w:=zDy 9999 u c b m
def zKB{op:BinOp}{t:TypeId}{x:Operand}{c:Value}{b:Bool}(m:VI j (.err b) c):(eqGuard op t x (.const .nilIface) c .nilIface).run P w=.ok () w:=by
 unfold eqGuard;cases b with
 |true=>rw[show c=_ from m];cases op<;>simp
 |false=>obtain⟨_,_,rfl⟩:=m;cases op<;>simp
def zMa{op:BinOp}{t:TypeId}{C:Array (String×TypeId)}(A:P.underlying t=Ik (.interface C)){x v:AV}{c:Value}(u:aErr op x=Ik v)(m:VI j x c):
  yA P (binOp op t c .nilIface) w j v/\∃b,VI j (.err b) c:=by
 unfold aErr at u;split at u
 .rename_i b;refine⟨qN u (zFp A c b m) (λe=>?_) (λe=>?_),b,m⟩
  all_goals
   subst e;cases b with
   |true=>rw[show c=_ from m];rfl
   |false=>obtain⟨_,_,rfl⟩:=m;rfl
 .cases u
def zOW{op:UnOp}{x v:AV}{c:Value}(m:aun op x=Ik v)(u:VI j x c):yA P (Op.unary op c) w j v:=by
 unfold aun at m;split at m
 .rw[show c=_ from u];cases m;exact⟨_,by simp[Op.unary,Op.intArith],rfl⟩
 .rw[show c=_ from u];simp only[B6,YR]at m;subst m;exact⟨_,by simp[Op.unary,Op.intBits],rfl⟩
 .rw[show c=_ from u];cases m;exact⟨_,by simp[Op.unary],rfl⟩
 .cases m
end
section
open Go.RowKit
variable{P:Program}{w0 w:World}{j:jv}{h:dN}{e:Env}{a:Act}
def zBD{t:TypeId}{d:TypeDesc}(m:P.underlying t=Ik d):(isAgg t).run P w=.ok (zAJ d) w:=by
 simp only[isAgg,Sem.run_bind,run_underlying m,Result.andThen_ok];cases d<;>rfl
def zX{t:TypeId}{i:TypeInfo}(m:P.info? t=Ik i):(sizeOf t).run P w=.ok i.size w:=by
 simp[sizeOf,typeInfo,m]
def zFU(m:MR B w0 j h w){t:TypeId}{d:TypeDesc}{i:TypeInfo}(E:P.underlying t=Ik d)(K:P.info? t=Ik i){o k:Nat}{v:AV}{c:Value}(J:VI j (.ptr o k) c)
  (u:(if zAJ d=Im then(h.rd o k i.size).map AV.agg else h.gv o k)=Ik v):yA P (Instr.loadAt t c) w j v:=by
 obtain⟨l,D,rfl⟩:=J;cases hd:zAJ d with
 |true=>
  rw[hd,Iu rfl]at u;simp only[YJ]at u;obtain⟨vs,H,rfl⟩:=u;obtain⟨cs,A,C,_,I⟩:=m.cells H D;refine⟨.agg cs.toArray,?_,cs,A,rfl⟩
  have:=run_loadCells_list (P:=P) w _ cs I
  rw[C]at this;simp[Instr.loadAt,Instr.sureAddr,loadVar,zBD E,hd,zX K,this]
 |false=>
  rw[hd]at u;simp only[JM,if_false]at u;obtain⟨G,A,C⟩:=m.cell u D;exact⟨G,by simp[Instr.loadAt,Instr.sureAddr,loadVar,zBD E,hd,A],C⟩
def Ht{α:Type}(cs:List α)(off n:Nat):cs.toArray.extract off (off+n)=((cs.drop off).take n).toArray:=by
 apply Array.ext';simp[Array.toList_extract]
def zKA{t:TypeId}{fields:Array Field}{f:Nat}{m:Field}{d:TypeDesc}{i:TypeInfo}(E:P.underlying t=Ik (.struct fields))(D:fields[f]? = Ik m)
  (C:P.underlying m.type=Ik d) (K:P.info? m.type=Ik i) {cs:List AV} {v:AV} {c:Value} (J:VI j (.agg cs) c)
  (u:(if zAJ d=Im then Ik (AV.agg ((cs.drop m.offset).take i.size))else cs[m.offset]?)=Ik v):yA P (Instr.field t c f) w j v:=by
 obtain⟨vs,A,rfl⟩:=J;cases hg:zAJ d with
 |true=>
  rw[hg,Iu rfl]at u;cases u;refine⟨.agg ((vs.drop m.offset).take i.size).toArray,?_,_,(A.drop _).take _,rfl⟩;simp[Instr.field,run_underlying E,D,part,zBD C,hg,asAgg,zX K,Ht]
 |false=>
  rw[hg]at u;simp only[JM,if_false]at u;obtain⟨G,H,I⟩:=A.get u;exact⟨G,by simp[Instr.field,run_underlying E,D,part,zBD C,hg,asAgg,H],I⟩
def zFj{t:TypeId}{fields:Array Field}{f:Nat}{m:Field}{i:TypeInfo}(E:P.underlying t=Ik (.struct fields))(A:fields[f]? = Ik m)
  (C:P.info? m.type=Ik i) (hs:i.size≠0) {o k:Nat} {c:Value} (u:VI j (.ptr o k) c):yA P (Instr.fieldAt t c f) w j (.ptr o (k+m.offset)):=by
 obtain⟨l,D,rfl⟩:=u;refine⟨_,?_,l,D,rfl⟩;simp[Instr.fieldAt,run_underlying E,A,Instr.sureAddr,fieldPlace,zX C,hs,qf,Y9]
def zFw{t m:TypeId}{len:Nat}{i:TypeInfo}(G:P.underlying t=Ik (.array len m))(D:P.info? m=Ik i){o k:Nat}{H:IntKind}{n:Int}{c:Value}
  (C:VI j (.ptr o k) c) (u:0<=n) (A:n<len):yA P (Instr.indexAt t c (.int H n)) w j (.ptr o (k+n.toNat*i.size)):=by
 obtain⟨l,E,rfl⟩:=C;refine⟨.pointer (Ik ⟨l.blk,l.base+k+n.toNat*i.size,none⟩),?_,l,E,by rw[Y9]⟩;simp[Instr.indexAt,asIntOf,Instr.sureAddr,run_underlying G,u,A,zX D,qf]
def zFf{t u:TypeId}{i:TypeInfo}(I:P.underlying t=Ik (.slice u))(H:P.info? u=Ik i){o off len:Nat}{cap:nK}{k:IntKind}{n:Int}{c:Value}
  (A:VI j (.sl o off len cap) c) (C:0<=n) (D:n<len):yA P (Instr.indexAt t c (.int k n)) w j (.ptr o (off+n.toNat*i.size)):=by
 have key:∃l cp,j o=Ik l/\c=.slice (Ik ⟨l.blk,l.base+off,none⟩) len cp:=by
  cases cap with
  |cm q=>
   obtain⟨l,a,m,rfl,E⟩:=A;rcases E with rfl|⟨_,J⟩
   .exact⟨l,_,m,rfl⟩
   .omega
  |grown q=>
   obtain⟨l,cp,f,m,rfl,_,G,_⟩:=A;rcases G with rfl|⟨J,_⟩
   .exact⟨l,_,m,rfl⟩
   .omega
 obtain⟨l,cp,m,rfl⟩:=key;refine⟨.pointer (Ik ⟨l.blk,l.base+off+n.toNat*i.size,none⟩),?_,l,m,by rw[Y9]⟩;simp[Instr.indexAt,asIntOf,run_underlying I,C,D,zX H,qf]
def Zw{x:AV}{y m:Nat}{c:Value}(u:zAQ x y=Ik m)(C:VI j x c)(code:BoundsCode):(Instr.sliceBound c y code).run P w=.ok m w/\m<=y:=by
 unfold zAQ at u;split at u
 .rename_i k i;split at u
  .rename_i A;cases u;rw[show c=_ from C];exact⟨run_sliceBound w k i y code A.1 A.2,aH⟩
  .cases u
 .cases u
def OB(j:jv):Option AV->Option Value->Prop
 |none,none=>True
 |some x,Ik c=>VI j x c
 |_,_=>False
def QB{sl:Bool}{len cap m K l:Nat}{H E mx:Option AV}{clo G cmx:Option Value}(u:OB j H clo)(D:OB j E G)(J:OB j mx cmx)
  (L:zY mx cap cap=Ik m) (I:zY E len m=Ik K) (A:zY H 0 K=Ik l) (O:¬(E.isNone=Im/\mx.isSome=Im)) (R:mx=none->m=cap):
  (Instr.sliceBounds sl len cap clo G cmx).run P w=.ok (l,K,m) w:=by
 cases mx with
 |none=>
  cases cmx with
  |some _=>exact J.elim
  |none=>
   simp only[zY,YR]at L;subst L;cases E with
   |none=>
    cases G with
    |some _=>exact D.elim
    |none=>
     simp only[zY,YR]at I;subst I;cases H with
     |none=>
      cases clo with
      |some _=>exact u.elim
      |none=>simp only[zY,YR]at A;subst A;simp[Instr.sliceBounds]
     |some x=>
      cases clo with
      |none=>exact u.elim
      |some c=>simp[Instr.sliceBounds,(Zw A u _).1]
   |some y=>
    cases G with
    |none=>exact D.elim
    |some d=>
     have C:=λq=>(Zw (P:=P) (w:=w) I D q).1;cases H with
     |none=>
      cases clo with
      |some _=>exact u.elim
      |none=>simp only[zY,YR]at A;subst A;simp[Instr.sliceBounds,C]
     |some x=>
      cases clo with
      |none=>exact u.elim
      |some c=>simp[Instr.sliceBounds,C,(Zw A u _).1]
 |some z=>
  cases cmx with
  |none=>exact J.elim
  |some cz=>
   have N:=λq=>(Zw (P:=P) (w:=w) L J q).1;cases E with
   |none=>exact absurd ⟨rfl,rfl⟩ O
   |some y=>
    cases G with
    |none=>exact D.elim
    |some d=>
     have C:=λq=>(Zw (P:=P) (w:=w) I D q).1;cases H with
     |none=>
      cases clo with
      |some _=>exact u.elim
      |none=>simp only[zY,YR]at A;subst A;simp[Instr.sliceBounds,C,N]
     |some x=>
      cases clo with
      |none=>exact u.elim
      |some c=>simp[Instr.sliceBounds,C,N,(Zw A u _).1]
def ZA{x:Option AV}{d y m:Nat}(u:zY x d y=Ik m):x=none/\m=d\/m<=y:=by
 cases x with
 |none=>cases u;exact .inl ⟨rfl,rfl⟩
 |some x=>
  simp only[zY,zAQ]at u;split at u
  .split at u
   .cases u;right;omega
   .cases u
  .cases u
def zEE{x:Option AV}{d y A m:Nat}(u:zY x d y=Ik m)(C:y<=A):zY x d A=Ik m:=by
 cases x with
 |none=>exact u
 |some x=>
  simp only[zY,zAQ]at u ⊢;split at u
  .split at u
   .cases u;rw[Iu aH]
   .cases u
  .cases u
def zJO{t et:TypeId}{i:TypeInfo}(L:P.underlying t=Ik (.slice et))(R:P.info? et=Ik i){x:AV}{lo hh mx:Option AV}{c:Value}{clo U cmx:Option Value}{v:AV}
  (W:VI j x c) (N:OB j lo clo) (O:OB j hh U) (K:OB j mx cmx) (u:QC i.size x lo hh mx=Ik v):yA P (Instr.sliceAt t c clo U cmx) w j v:=by
 have T:∀x:Value,(Instr.sliceAt t x clo U cmx).run P w=(Instr.slice t x clo U cmx).run P w:=λx=>by simp[Instr.sliceAt,run_underlying L]
 unfold QC at u;split at u
 .rename_i o off len cp;simp only[YX]at u;obtain⟨m,G,A,D,l,E,u⟩:=u;split at u
  .cases u
  .rename_i J;cases u;obtain⟨C,I,V,rfl,Ou⟩:=W;have H:=QB (P:=P) (w:=w) (sl:=Im) N O K G D E J (λe=>by subst e;cases G;rfl);have Y:(if m=l then Ik I else Option.map (λx=>x.add (l*i.size)) (Ik I))=Ik (if m=l then I else I.add (l*i.size)):=by split<;>rfl
   refine⟨.slice (Ik (if m=l then I else I.add (l*i.size))) (A-l) (m-l),by rw[T];simp only[Instr.slice,Sem.run_bind,run_underlying L,Result.andThen_ok,H,zX R,Sem.run_pure];rw[Y],C,_,V,rfl,?_⟩;rcases Ou with rfl|⟨ji,uf⟩
   .left;split
    .rfl
    .simp[qf,Y9]
   .right;have b1:m<=0:=by rcases ZA G with ⟨_,x⟩|x<;>omega
    have b2:A<=0:=by rcases ZA D with ⟨_,x⟩|x<;>omega
    omega
 .rename_i o off len g;obtain⟨C,cp,f,V,rfl,hle,X,bM⟩:=W;split at u
  .rename_i z;simp only[YX]at u;obtain⟨m,G,A,D,l,E,u⟩:=u;split at u
   .cases u
   .rename_i J;cases u;have kV:zY (Ik z) cp cp=Ik m:=zEE (x:=Ik z) (d:=cp) G hle;have H:=QB (P:=P) (w:=w) (sl:=Im) N O K kV D E (λe=>J e.1) (λe=>by cases e);have Y:(if m=l then Ik (⟨C.blk,f,none⟩:Addr)else Option.map (λx=>x.add (l*i.size)) (Ik (⟨C.blk,f,none⟩:Addr)))=Ik (if m=l then(⟨C.blk,f,none⟩:Addr)else(⟨C.blk,f,none⟩:Addr).add (l*i.size)):=by split<;>rfl
    refine⟨.slice (Ik (if m=l then(⟨C.blk,f,none⟩:Addr)else(⟨C.blk,f,none⟩:Addr).add (l*i.size))) (A-l) (m-l),by rw[T];simp only[Instr.slice,Sem.run_bind,run_underlying L,Result.andThen_ok,H,zX R,Sem.run_pure];rw[Y],C,_,V,rfl,?_⟩;have c1:m<=len:=by rcases ZA (show zY (Ik z) len len=Ik m from G)with ⟨_,x⟩|x<;>omega
    have c2:A<=m:=by
     rcases ZA D with ⟨e,x⟩|x
     .exact absurd (by rw[e];rfl) J
     .exact x
    have c3:l<=A:=by rcases ZA E with ⟨_,x⟩|x<;>omega
    by_cases ub:m=l
    .right;omega
    .left;rw[Iv ub,Iv ub];rcases X with rfl|hz
     .simp[qf,Y9]
     .omega
  .simp only[YX]at u;obtain⟨A,D,l,E,u⟩:=u;cases u;have Sr:l<=A:=by rcases ZA E with ⟨_,x⟩|x<;>omega
   have Ec:A<=len:=by rcases ZA D with ⟨_,x⟩|x<;>omega
   have H:=QB (P:=P) (w:=w) (sl:=Im) (cap:=cp) (m:=cp) N O K rfl (zEE D hle) E (λe=>by cases e.2) (λ_=>rfl);refine⟨_,by rw[T];simp only[Instr.slice,Sem.run_bind,run_underlying L,Result.andThen_ok,H,zX R,Sem.run_pure];rfl,C,cp-l,if cp=l then f else f+l*i.size,V,?_,aH,?_,?_⟩
   .split
    .rfl
    .simp[qf]
   .rcases X with rfl|⟨hz,gG,fO⟩
    .by_cases dD:cp=l
     .rw[Iu dD];by_cases S:off+l*i.size=0
      .left;omega
      .right;exact⟨aH,S,aH⟩
     .rw[Iv dD];left;omega
    .right;exact⟨aH,aH,aH⟩
   .intro S Ef;have Z:g=i.size:=by
     by_cases x:g=i.size
     .exact x
     .rw[Iv x]at Ef;exact absurd rfl Ef
    rw[Iu Z]at Ef ⊢;subst Z;have Oc:f=C.base+off:=by
     rcases X with x|⟨_,x,y⟩
     .exact x
     .subst y;have uf:l=0:=aH
      subst uf;rw[Iu rfl,Nat.zero_mul,Y6]at S;exact S
    have K:=bM Oc Ef;have h4:(cp-l)*i.size+l*i.size=cp*i.size:=by rw[<-La];congr 1;omega
    omega
 .simp only[YX]at u;obtain⟨m,G,A,D,l,E,u⟩:=u;split at u
  .cases u
  .rename_i J;cases u;rw[show c=_ from W];have H:=QB (P:=P) (w:=w) (sl:=Im) N O K G D E J (λe=>by subst e;cases G;rfl);refine⟨_,by rw[T];simp only[Instr.slice,Sem.run_bind,run_underlying L,Result.andThen_ok,H,zX R,Sem.run_pure];rfl,?_⟩;have z1:m=0:=by rcases ZA G with ⟨_,x⟩|x<;>omega
   have z2:A=0:=by rcases ZA D with ⟨_,x⟩|x<;>omega
   have z3:l=0:=by rcases ZA E with ⟨_,x⟩|x<;>omega
   subst z1;subst z2;subst z3;rfl
 .cases u
end
section
open Go.RowKit
variable{P:Program}{w0 w:World}{j:jv}{h:dN}{e:Env}{a:Act}
def zD6:∀(l:List Value) (off k:Nat) (cells:Array Value),off+k+Tw l<=cells.size->
  ((l.zipIdx k).foldl (λcs (x:Value×Nat)=>cs.setIfInBounds (off+x.2) x.1) cells).toList=cells.toList.take (off+k)++l++cells.toList.drop (off+k+Tw l)
 |[],off,k,cells,_=>by simp
 |v::l,off,k,cells,hl=>by
  simp only[List.zipIdx_cons,List.foldl_cons];have m:off+k<cells.size:=by simp at hl;omega
  rw[zD6 l off (k+1) _ (by simp at hl ⊢;omega)];have u:off+k<Tw cells.toList:=by simpa using m
  have A:(cells.toList.set (off+k) v).take (off+(k+1))=cells.toList.take (off+k)++[v]:=by
   rw[<-Y9,YV (by simpa using u),List.take_set_of_le (sB _)];simp
  have C:(cells.toList.set (off+k) v).drop (off+(k+1)+Tw l)=cells.toList.drop (off+k+(Tw l+1)):=by
   rw[List.drop_set_of_lt aH];congr 1;omega
  simp_all
def Qu{place:Nat->Option (Nat×Nat)}:∀(u:List (Nat×Operand)) (m:List (Nat×Nat×AV)) (cells:List AV) (cs:Array Value) (ρ:Operand->Value) (out:List AV),
  oy j cells cs.toList->cells.all AV.one=Im->xK cells m=Ik out->u.length=Tw m->(∀(k:Nat) (p:Nat×Operand) (q:Nat×Nat×AV),u[k]? = Ik p->m[k]? = Ik q->place p.1=Ik (q.1,q.2.1)/\VI j q.2.2 (ρ p.2))->
  ∃r,Instr.fill place cs (u.map λp=>(p.1,ρ p.2))=Ik r/\oy j out r.toList/\out.all AV.one=Im
 |[],m,cells,cs,ρ,out,hc,ho,hf,hl,_=>by
  cases m with
  |nil=>cases hf;exact⟨cs,rfl,hc,ho⟩
  |cons _ _=>simp at hl
 |p::u,[],cells,cs,ρ,out,hc,ho,hf,hl,_=>by simp at hl
 |p::u,(off,size,v)::m,cells,cs,ρ,out,hc,ho,hf,hl,hp=>by
  obtain⟨I,J⟩:=hp 0 p (off,size,v) bj bj;simp only[xK]at hf;split at hf
  .rename_i N;obtain⟨b1,V,G⟩:=N;have D:=VI.cells J G;have A:=D.length;have C:=hc.length;have S:¬((ρ p.2).cells.size≠size\/off+(ρ p.2).cells.size > cs.size):=by
    simp at A C;omega
   have E:oy j (cells.take off++v.cells++cells.drop (off+size)) (((ρ p.2).cells.zipIdx.foldl (λcs (x:Value×Nat)=>cs.setIfInBounds (off+x.2) x.1) cs).toList):=by
    have R:((ρ p.2).cells.zipIdx.foldl (λcs (x:Value×Nat)=>cs.setIfInBounds (off+x.2) x.1) cs)=(((ρ p.2).cells.toList.zipIdx 0).foldl (λcs (x:Value×Nat)=>cs.setIfInBounds (off+x.2) x.1) cs):=by
     rw[<-Array.foldl_toList,Array.toList_zipIdx]
    rw[R,zD6 _ off 0 cs (by simp at A C ⊢;omega)];rw[<-A,b1];simpa using ((hc.take off).append D).append (hc.drop (off+size))
   have H:(cells.take off++v.cells++cells.drop (off+size)).all AV.one=Im:=by
    grind
   obtain⟨r,O,K,L⟩:=Qu u m _ _ ρ out E H hf (by simpa using hl) (λk T U a b=>hp (k+1) T U (by simpa using a) (by simpa using b));refine⟨r,?_,K,L⟩;simp only[Yw,Instr.fill,I];rw[Iv (by simpa using S)];exact O
  .cases hf
def zDQ(r:ER nt j e a){fields:Array Field}:∀{C:List (Nat×Operand)} {A:List (Nat×Nat×IX)},zDR P fields C=Ik A->
  C.length=Tw A/\∀(k:Nat) (p:Nat×Operand) (q:Nat×Nat×AV),C[k]? = Ik p->(A.map λq=>(q.1,q.2.1,q.2.2.ev e))[k]? = Ik q->
   ((fields.map λf=>(f.offset,P.cellsOf f.type))[p.1]?)=Ik (q.1,q.2.1)/\VI j q.2.2 (a.eval p.2)
 |[],A,m=>by cases m;exact⟨rfl,λk p q u=>by simp at u⟩
 |(i,x)::C,A,m=>by
  simp only[zDR,YX]at m;obtain⟨f,I,L,D,N,J,K,E,m⟩:=m;cases m;obtain⟨G,H⟩:=zDQ r E;refine⟨by simp[G],λk p q u m=>?_⟩;cases k with
  |zero=>
   simp at u m;subst u;subst m;exact⟨by simp[I,Program.cellsOf,D],zM r J⟩
  |succ k=>exact H k p q (by simpa using u) (by simpa using m)
def zFS:∀(m:List Field),m.all (λf=>(P.info? f.type).isSome)=Im->
  (m.mapM λf=>(do pure (f.offset,<-sizeOf f.type):Sem (Nat×Nat))).run P w=.ok (m.map λf=>(f.offset,P.cellsOf f.type)) w
 |[],_=>by simp
 |f::m,Hs=>by
  simp only[List.all_cons,Yt]at Hs;obtain⟨i,u⟩:=Option.isSome_iff_exists.1 Hs.1;have A:=zFS m Hs.2;simp only[List.mapM_cons,Sem.run_bind,zX u,Result.andThen_ok,Sem.run_pure,Yw];rw[A];simp[Program.cellsOf,u]
def zKE(r:ER nt j e a){t:TypeId}{fields:Array Field}{z:Array Value}{m:Array (Nat×Operand)}{u:List (Nat×Nat×IX)}{zs out:List AV}{i:TypeInfo}
  (L:P.underlying t=Ik (.struct fields)) (I:P.info? t=Ik i) (O:i.zero=Ik (.agg z)) (A:fields.toList.all (λf=>(P.info? f.type).isSome)=Im)
  (C:qE z.toList=Ik zs) (R:zDR P fields m.toList=Ik u) (N:xK zs (u.map λq=>(q.1,q.2.1,q.2.2.ev e))=Ik out):
  yA P (Instr.build t (m.map λ(i,x)=>(i,a.eval x))) w j (.agg out):=by
 obtain⟨E,G⟩:=zDQ r R;obtain⟨S,T⟩:=qH (j:=j) C;obtain⟨res,K,H,_⟩:=Qu (place:=λk=>(fields.map λf=>(f.offset,P.cellsOf f.type))[k]?) m.toList _ zs z a.eval out S T N (by simpa using E) G;refine⟨.agg res,?_,_,H,bj⟩;have J:(fields.mapM λf=>(do pure (f.offset,<-sizeOf f.type):Sem (Nat×Nat))).run P w=.ok (fields.map λf=>(f.offset,P.cellsOf f.type)) w:=by
  rw[Array.mapM_eq_mapM_toList];simp only[Sem.run_map];rw[zFS _ A];simp only[Result.andThen_ok,Result.ok.injEq,and_true];apply Array.ext';simp
 have D:(m.map λ(i,x)=>(i,a.eval x)).toList=m.toList.map λp=>(p.1,a.eval p.2):=bj
 simp only[Instr.build,Sem.run_bind,zeroValue,typeInfo,I,O,run_program,Result.andThen_ok,Sem.run_pure,run_underlying L,J,D,Value.cells];rw[K];simp
def zEO(r:ER nt j e a){size:Nat}:∀{C:List (Nat×Operand)} {A:List (Nat×Nat×IX)},carts size C=Ik A->C.length=(A.map λp=>(p.1,p.2.1,p.2.2.ev e)).length/\
  ∀(k:Nat) (p:Nat×Operand) (q:Nat×Nat×AV),C[k]? = Ik p->(A.map λq=>(q.1,q.2.1,q.2.2.ev e))[k]? = Ik q->(Ik (p.1*size,size))=Ik (q.1,q.2.1)/\VI j q.2.2 (a.eval p.2)
 |[],A,m=>by cases m;exact⟨rfl,λk p q u=>by simp at u⟩
 |(n,x)::C,A,m=>by
  simp only[carts,YX]at m;obtain⟨J,E,I,H,m⟩:=m;cases m;obtain⟨D,G⟩:=zEO r H;refine⟨by simp at D ⊢;exact D,λk p q u m=>?_⟩;cases k with
  |zero=>simp at u m;subst u;subst m;exact⟨rfl,zM r E⟩
  |succ k=>exact G k p q (by simpa using u) (by simpa using m)
def zJA(r:ER nt j e a){t A:TypeId}{len:Nat}{z:Array Value}{m:Array (Nat×Operand)}{C:List (Nat×Nat×IX)}{zs out:List AV}{i u:TypeInfo}
  (L:P.underlying t=Ik (.array len A)) (J:P.info? t=Ik i) (O:i.zero=Ik (.agg z)) (R:P.info? A=Ik u)
  (D:qE z.toList=Ik zs) (S:carts u.size m.toList=Ik C) (N:xK zs (C.map λq=>(q.1,q.2.1,q.2.2.ev e))=Ik out):
  yA P (Instr.build t (m.map λ(i,x)=>(i,a.eval x))) w j (.agg out):=by
 obtain⟨G,H⟩:=zEO r S;obtain⟨T,U⟩:=qH (j:=j) D;obtain⟨res,K,I,_⟩:=Qu (place:=λk=>Ik (k*u.size,u.size)) m.toList _ zs z a.eval out T U N G H;refine⟨.agg res,?_,_,I,bj⟩;have E:(m.map λ(i,x)=>(i,a.eval x)).toList=m.toList.map λp=>(p.1,a.eval p.2):=bj
 simp only[Instr.build,Sem.run_bind,zeroValue,typeInfo,J,O,run_program,Result.andThen_ok,Sem.run_pure,run_underlying L,zX R,E,Value.cells];rw[K];simp
def zF6{t:TypeId}(D:P.underlying t=Ik .string){x:AV}{G C:Option AV}{c:Value}{clo A:Option Value}{v:AV}
  (L:VI j x c) (I:OB j G clo) (J:OB j C A) (u:zBQ x G C=Ik v):yA P (Instr.sliceAt t c clo A none) w j v:=by
 have E:(Instr.sliceAt t c clo A none).run P w=(Instr.slice t c clo A none).run P w:=by simp[Instr.sliceAt,run_underlying D]
 unfold zBQ at u;split at u
 .rename_i s;simp only[YX]at u;obtain⟨R,O,l,N,u⟩:=u;cases u;rw[show c=_ from L]at E ⊢;have H:(⟨s.toArray⟩:ByteArray).size=Tw s:=by simp[ByteArray.size]
  have K:=QB (P:=P) (w:=w) (sl:=false) (mx:=none) (cmx:=none) (cap:=s.length) (m:=s.length) I J trivial rfl O N (λe=>by cases e.2) (λ_=>rfl);refine⟨_,by rw[E];simp only[Instr.slice,Sem.run_bind,run_underlying D,Result.andThen_ok,H,Option.isSome,JM,if_false,Sem.run_pure,K];rfl,?_⟩;show Value.string _=Value.string _;congr 1;apply ByteArray.ext;apply Array.ext';simp[ByteArray.data_extract,Array.toList_extract,Jc]
 .cases u
def zGM{t:TypeId}(E:P.underlying t=Ik .string){s:List UInt8}{k:IntKind}{n:Int}{c:Value}{v:AV}(D:VI j (.str s) c)
  (m:(if 0<=n then(s[n.toNat]?).map λc=>AV.int .u8 c.toNat else none)=Ik v):yA P (Instr.index t c (.int k n)) w j v:=by
 rw[show c=_ from D];split at m
 .rename_i C;simp only[YJ]at m;obtain⟨b,u,rfl⟩:=m;refine⟨_,?_,rfl⟩
  have:(⟨s.toArray⟩:ByteArray)[n.toNat]? = Ik b:=by
   have A:=(Yg.1 u).1;rw[getElem?_pos (c:=(⟨s.toArray⟩:ByteArray)) (i:=n.toNat) (h:=by simpa [ByteArray.size]using A)];congr 1;exact(Yg.1 u).2
  simp[Instr.index,asIntOf,run_underlying E,C,this]
 .cases m
def OB.of(r:ER nt j e a){x:Option Operand}{m:Option IX}(A:cxo x=Ik m):OB j (m.map (·.ev e)) (x.map a.eval):=by
 rcases zOQ r A with ⟨rfl,rfl⟩|⟨y,C,rfl,rfl,u⟩
 .trivial
 .exact u
def zMT(m:MR B w0 j h w)(r:ER nt j e a){o:Oper}{io:tT}(u:copQ P o.op=Ik io){nb:Nat}{v:AV}(A:qv nb io e h=Ik v):
  ∃K,(execOp a.eval o).run P w=.ok (.value K) w/\VI j v K:=by
 obtain⟨dst,op,ty,pos,after,guard⟩:=o;have fin:∀{s:Sem Value},yA P s w j v->∃K,(do pure (.value (<-s)):Sem Next).run P w=.ok (.value K) w/\VI j v K:=by
  rintro s ⟨K,H,I⟩
  exact⟨K,by simp[H],I⟩
 cases op<;>simp only[copQ]at u<;>(try (cases u;done))
 case move x=>
  simp only[YJ]at u;obtain⟨G,C,rfl⟩:=u;cases A;exact⟨_,rfl,zM r C⟩
 case assign x=>
  simp only[YJ]at u;obtain⟨G,C,rfl⟩:=u;cases A;exact⟨_,rfl,zM r C⟩
 case pick c x y=>
  simp only[YX]at u;obtain⟨ic,nW,G,C,iy,Y,u⟩:=u;cases u;simp only[qv,sn,s6,AS,qb,zo,qR,qM,qB,AF,qQ,Aw,qL,GZ]at A;split at A
  .rename_i t D;have S:=zM r nW;rw[D]at S;cases A;cases t with
   |true=>exact⟨_,by simp[execOp,show a.eval c=_ from S,asBool],zM r C⟩
   |false=>exact⟨_,by simp[execOp,show a.eval c=_ from S,asBool],zM r Y⟩
  .cases A
 case binOp Tk xt x y yt=>
  simp only[YX]at u;obtain⟨G,C,u⟩:=u;split at u
  .rename_i hk;obtain⟨rfl,ms,D⟩:=zRK hk;cases u;simp only[qv]at A;obtain⟨⟨K,H,I⟩,b,S⟩:=zMa (w:=w) D A (zM r C);have he:a.eval (.const .nilIface)=.nilIface:=rfl;exact⟨K,by simp[execOp,he,zKB S,H],I⟩
  obtain⟨iy,Y,u⟩:=YX.1 u;cases u;simp only[qv,sn,s6,AS,qb,zo,qR,qM,qB,AF,qQ,Aw,qL,GZ]at A;obtain⟨hr,hp⟩:=zMZ (P:=P) (w:=w) A (zM r C) (zM r Y);obtain⟨K,H,I⟩:=hr;rcases hp with hp|⟨hp,xs,ys,T,Z⟩
  .exact⟨K,by simp[execOp,zHH hp,H],I⟩
  .rw[T,Z]at H;exact⟨K,by simp[execOp,T,Z,run_eqGuard_agg _ _ _ _ _ _ _ hp,H],I⟩
 case unOp RA xt x=>
  simp only[YJ]at u;obtain⟨G,C,rfl⟩:=u;exact fin (zOW A (zM r C))
 case convert s d x=>
  split at u
  .rename_i k0 k hs hd;simp only[YJ]at u;obtain⟨G,C,rfl⟩:=u;simp only[qv,sn,s6,AS,qb,zo,qR,qM,qB,AF,qQ,Aw,qL,GZ]at A;split at A
   .rename_i k1 n E
    have:=zM r C
    rw[E]at this;cases A;refine fin ⟨_,?_,rfl⟩;simp[convert,run_underlying hs,run_underlying hd,show a.eval x=_ from this,Conv.intToInt]
   .cases A
  .cases u
 case nilCheck x=>
  simp only[YJ]at u;obtain⟨G,C,rfl⟩:=u;simp only[qv,sn,s6,AS,qb,zo,qR,qM,qB,AF,qQ,Aw,qL,GZ]at A
  have:=zM r C
  split at A
  .rename_i o i E;rw[E]at this;cases A;obtain⟨l,hl,R⟩:=this;exact⟨_,by simp[execOp,R],l,hl,rfl⟩
  .rename_i f x' y' E;rw[E]at this;cases A;obtain⟨vs,us,H,I,R⟩:=this;exact⟨_,by simp[execOp,R],vs,us,H,I,rfl⟩
  .cases A
 case build t ps=>
  split at u
  .rename_i fields z D U;split at u
   .rename_i ai;simp only[YX]at u U;obtain⟨zs,dQ,qs,gK,u⟩:=u;obtain⟨i,L,U⟩:=U;cases u;simp only[qv,YJ]at A;obtain⟨out,ho,rfl⟩:=A;exact fin (zKE r D L U ai dQ gK ho)
   .cases u
  .rename_i len X z D U;simp only[YX]at u U;obtain⟨i2,ju,zs,dQ,qs,gK,u⟩:=u;obtain⟨i,L,U⟩:=U;cases u;simp only[qv,YJ]at A;obtain⟨out,ho,rfl⟩:=A;exact fin (zJA r D L U ju dQ gK ho)
  .cases u
 case load t x=>
  split at u
  .rename_i d i hd L;simp only[YJ]at u;obtain⟨G,C,rfl⟩:=u;simp only[qv,sn,s6,AS,qb,zo,qR,qM,qB,AF,qQ,Aw,qL,GZ]at A;split at A
   .rename_i o k E
    have:=zM r C
    rw[E]at this;exact fin (zFU m hd L this A)
   .cases A
  .cases u
 case makeFunc fn first dw=>
  cases fn<;>simp only at u<;>(try (cases u;done))
  rename_i f;simp only[YX]at u;obtain⟨x1,W,x2,j7,u⟩:=u;cases u;cases A;refine fin ⟨.func (.func f) (first.map a.eval) (dw.map a.eval),by simp[Instr.makeFunc],_,_,zAN r W,zAN r j7,?_⟩;congr 1<;>(apply Array.ext';simp)
 case slice t x lo L mx=>
  split at u
  .rename_i X D;simp only[YX]at u;obtain⟨i,hi',G,C,l1,ue,l2,mC,l3,D7,u⟩:=u;cases u;exact fin (zJO D hi' (zM r C) (OB.of r ue) (OB.of r mC) (OB.of r D7) A)
  .rename_i D;simp only[YX]at u;obtain⟨G,C,l1,ue,l2,mC,u⟩:=u;split at u
   .cases u;exact fin (zF6 D (zM r C) (OB.of r ue) (OB.of r mC) A)
   .cases u
  .cases u
 case fieldAddr t x f=>
  split at u
  .rename_i fields D;simp only[YX]at u;obtain⟨fd,hf,i,L,u⟩:=u;split at u
   .cases u
   .rename_i aj;simp only[YJ]at u;obtain⟨G,C,rfl⟩:=u;simp only[qv,sn,s6,AS,qb,zo,qR,qM,qB,AF,qQ,Aw,qL,GZ]at A;split at A
    .rename_i o k E
     have:=zM r C
     rw[E]at this;cases A;exact fin (zFj D hf L aj this)
    .cases A
  .cases u
 case field t x f=>
  split at u
  .rename_i fields D;simp only[YX]at u;obtain⟨fd,hf,u⟩:=u;split at u
   .rename_i d i hd L;simp only[YJ]at u;obtain⟨G,C,rfl⟩:=u;simp only[qv,sn,s6,AS,qb,zo,qR,qM,qB,AF,qQ,Aw,qL,GZ]at A;split at A
    .rename_i cs E
     have:=zM r C
     rw[E]at this;exact fin (zKA D hf hd L this A)
    .cases A
   .cases u
  .cases u
 case indexAddr t x G=>
  split at u
  .rename_i X D;simp only[YX]at u;obtain⟨i,L,x1,W,x2,j7,u⟩:=u;cases u;simp only[qv,sn,s6,AS,qb,zo,qR,qM,qB,AF,qQ,Aw,qL,GZ]at A;split at A
   .rename_i o off len cap k n H I;have J:=zM r W;have N:=zM r j7;rw[H]at J;rw[I]at N;split at A
    .rename_i S;cases A;refine fin ?_;rw[show a.eval G=Value.int k n from N];exact zFf D L J S.1 S.2
    .cases A
   .cases A
  .rename_i len X D;split at u
   .rename_i ik n;simp only[YX]at u;obtain⟨i,L,u⟩:=u;split at u
    .rename_i S;simp only[YJ]at u;obtain⟨x1,W,rfl⟩:=u;simp only[qv,sn,s6,AS,qb,zo,qR,qM,qB,AF,qQ,Aw,qL,GZ]at A;split at A
     .rename_i o k E;have J:=zM r W;rw[E]at J;cases A;exact fin (zFw D L J S.1 S.2)
     .cases A
    .cases u
   .cases u
  .cases u
 case index t x G=>
  split at u
  .rename_i D;simp only[YX]at u;obtain⟨x1,W,x2,j7,u⟩:=u;cases u;simp only[qv,sn,s6,AS,qb,zo,qR,qM,qB,AF,qQ,Aw,qL,GZ]at A;split at A
   .rename_i s k n H I;have J:=zM r W;have N:=zM r j7;rw[H]at J;rw[I]at N;refine fin ?_;rw[show a.eval G=Value.int k n from N];exact zGM D J A
   .cases A
  .cases u
 case extract x i=>
  simp only[YJ]at u;obtain⟨G,C,rfl⟩:=u;simp only[qv,sn,s6,AS,qb,zo,qR,qM,qB,AF,qQ,Aw,qL,GZ]at A;split at A
  .rename_i vs E
   have:=zM r C
   rw[E]at this;obtain⟨cs,eX,R⟩:=this;obtain⟨K,H,I⟩:=eX.get A;exact fin ⟨K,by simp[R,Instr.extract,H],I⟩
  .cases A
 case call c=>
  obtain⟨callee,args,argTypes⟩:=c;cases callee<;>simp only at u<;>(try (cases u;done))
  rename_i b;split at u<;>(try (cases u;done))
  .rename_i x t O V;have T:args = #[x]:=by rw[<-Js (xs:=args),O]
   have Z:argTypes = #[t]:=by rw[<-Js (xs:=argTypes),V]
   clear O V;subst T;subst Z;split at u<;>(try (cases u;done))
   .rename_i X D;simp only[YJ]at u;obtain⟨G,C,rfl⟩:=u
    have:=zM r C
    simp only[qv,sn,s6,AS,qb,zo,qR,qM,qB,AF,qQ,Aw,qL,GZ]at A;split at A
    .rename_i o off n cap E;rw[E]at this;cases A;obtain⟨y,J,N⟩:∃y J,a.eval x=.slice (Ik y) n J:=by
      cases cap with
      |cm q=>obtain⟨l,_,hl,R,_⟩:=this;exact⟨_,_,R⟩
      |grown q=>obtain⟨l,cc,ff,hl,R,_⟩:=this;exact⟨_,_,R⟩
     exact⟨.int .i64 n,by simp[execOp,resolve,invoke,builtin,N,Builtin.len_,run_underlying D,goInt],rfl⟩
    .rename_i E;rw[E]at this;cases A;exact⟨.int .i64 0,by simp[execOp,resolve,invoke,builtin,show a.eval x=_ from this,Builtin.len_,run_underlying D,goInt],rfl⟩
    .cases A
   .rename_i D;simp only[YJ]at u;obtain⟨G,C,rfl⟩:=u
    have:=zM r C
    simp only[qv,sn,s6,AS,qb,zo,qR,qM,qB,AF,qQ,Aw,qL,GZ]at A;split at A
    .rename_i s E;rw[E]at this;cases A;have fF:(⟨s.toArray⟩:ByteArray).size=Tw s:=by simp[ByteArray.size]
     exact⟨.int .i64 s.length,by simp[execOp,resolve,invoke,builtin,show a.eval x=_ from this,Builtin.len_,run_underlying D,goInt,fF],rfl⟩
    .cases A
  .rename_i x t O V;have T:args = #[x]:=by rw[<-Js (xs:=args),O]
   have Z:argTypes = #[t]:=by rw[<-Js (xs:=argTypes),V]
   clear O V;subst T;subst Z;split at u<;>(try (cases u;done))
   rename_i X D;simp only[YJ]at u;obtain⟨G,C,rfl⟩:=u
   have:=zM r C
   simp only[qv,sn,s6,AS,qb,zo,qR,qM,qB,AF,qQ,Aw,qL,GZ]at A;split at A
   .rename_i o off n q E;rw[E]at this;cases A;obtain⟨l,hl,R⟩:=this;exact⟨.int .i64 q,by simp[execOp,resolve,invoke,builtin,R,Builtin.cap_,run_underlying D,goInt],rfl⟩
   .rename_i E;rw[E]at this;cases A;exact⟨.int .i64 0,by simp[execOp,resolve,invoke,builtin,show a.eval x=_ from this,Builtin.cap_,run_underlying D,goInt],rfl⟩
   .cases A
  .rename_i x y t t' O V;have T:args = #[x,y]:=by rw[<-Js (xs:=args),O]
   clear O V;subst T;split at u<;>(try (cases u;done))
   rename_i X D;simp only[YX]at u;obtain⟨G,C,iy,Y,u⟩:=u;cases u;have J:=zM r C;have N:=zM r Y;simp only[qv,sn,s6,AS,qb,zo,qR,qM,qB,AF,qQ,Aw,qL,GZ]at A;split at A
   .rename_i k n k' n' H I;rw[H]at J;rw[I]at N;split at A
    .rename_i ek;subst ek;cases A;refine⟨.int k (max n n'),?_,rfl⟩;simp only[execOp,resolve,invoke,builtin];simp[show a.eval x=_ from J,show a.eval y=_ from N,Builtin.max_,Builtin.max2,Int.max_def];split<;>split<;>omega
    .cases A
   .cases A
  .rename_i x y t t' O V;have T:args = #[x,y]:=by rw[<-Js (xs:=args),O]
   clear O V;subst T;split at u<;>(try (cases u;done))
   rename_i X D;simp only[YX]at u;obtain⟨G,C,iy,Y,u⟩:=u;cases u;have J:=zM r C;have N:=zM r Y;simp only[qv,sn,s6,AS,qb,zo,qR,qM,qB,AF,qQ,Aw,qL,GZ]at A;split at A
   .rename_i k n k' n' H I;rw[H]at J;rw[I]at N;split at A
    .rename_i ek;subst ek;cases A;refine⟨.int k (min n n'),?_,rfl⟩;simp only[execOp,resolve,invoke,builtin];simp[show a.eval x=_ from J,show a.eval y=_ from N,Builtin.min_,Builtin.min2,Int.min_def];split<;>split<;>omega
    .cases A
   .cases A
end
section
open Go.RowKit
def Qw(size:Nat):List (Nat×Operand)->Option (List (Nat×Nat×IX))
 |[]=>Ik []
 |(i,x)::r=>(cx x).bind λa=>(Qw size r).bind λb=>Ik ((i*size,size,a)::b)
def zDs(P:Program)(c:Call):Option tT:=
 match c.callee with
 | .builtin b=>match b,c.args.toList,c.argTypes.toList with
  | .append,[s,x],[t,t']=>match P.underlying t with
   |some (.slice et)=>if t=t' then(P.info? et).bind λi=>i.zero.bind λz=>(cx s).bind λs=>(cx x).bind λx=>
     if z.cells.size=i.size/\i.size≠0 then Ik (.append i.size i.bytes s x)else none else
    match P.underlying t' with
    |some (.int _)=>(P.info? et).bind λi=>i.zero.bind λz=>(qE z.cells.toList).bind λzs=>(cx s).bind λs=>(cx x).bind λx=>
     if zs.length=i.size/\i.size≠0 then Ik (.appendMk i.size i.bytes zs s x)else none
    |_=>none
   |_=>none
  | .copy,[d,s],[t,_]=>match P.underlying t with
   |some (.slice et)=>(P.info? et).bind λi=>(cx d).bind λd=>(cx s).bind λs=>Ik (.copy i.size d s)
   |_=>none
  |_,_,_=>none
 | .value (.func f)=>if okF P f=Im then(cxs c.args.toList).map (.call f)else none
 | .value (.tmp t)=>(cxs c.args.toList).map (.callV (.t t))
 |_=>none
def copE(P:Program):Op->Option tT
 | .alloc t=>((P.info? t).bind (·.zero)).bind λz=>(qE z.cells.toList).map .alloc
 | .box _ x=>(cx x).map .box
 | .buildSlice t len ps=>match P.underlying t with
  |some (.slice et)=>(P.info? et).bind λi=>i.zero.bind λz=>(qE z.cells.toList).bind λzs=>(Qw i.size ps.toList).bind λm=>
   if zs.length=i.size/\i.size≠0/\len*i.size<=16777216 then Ik (.buildSl i.size len zs m)else none
  |_=>none
 | .store t x v=>(P.info? t).bind λi=>(cx x).bind λx=>(cx v).bind λv=>Ik (.store i.size x v)
 | .makeSlice t l c=>match P.underlying t with
  |some (.slice et)=>(P.info? et).bind λi=>i.zero.bind λz=>(qE z.cells.toList).bind λzs=>(cx l).bind λl=>(cx c).bind λc=>
   if zs.length=i.size/\i.size≠0 then Ik (.makeSl i.size i.bytes zs l c)else none
  |_=>none
 | .call c=>zDs P c
 | .convert src dst x=>match P.underlying src,P.underlying dst with
  |some (.slice et),Ik .string=>match P.underlying et with
   |some (.int .u8)=>(cx x).map .strOf
   |_=>none
  |_,_=>none
 |_=>none
def eff(P:Program)(op:tT)(e:Env)(h:dN)(K:AV->dN->Prop):Prop:=
 match op with
 | .alloc z=>K (.ptr h.bY 0) (h.cb ⟨Im,z⟩)
 | .box x=>(x.ev e).cells.all AV.one=Im/\K (.ptr h.bY 0) (h.cb ⟨Im,(x.ev e).cells⟩)
 | .buildSl sz len z ps=>iU (xK (jE z len) (ps.map λp=>(p.1,p.2.1,p.2.2.ev e))) λcs=>K (.sl h.bY 0 len (.cm len)) (h.cb ⟨Im,cs⟩)
 | .store n x v=>match x.ev e with
  | .ptr o i=>(v.ev e).cells.length=n/\iU (h.wr o i (v.ev e).cells) λh'=>K .undef h'
  |_=>False
 | .makeSl sz bytes z l c=>match l.ev e,c.ev e with
  | .int _ l,.int _ c=>(0<=l/\l<=c/\c*bytes<=140737488355328/\c<=9223372036854775807)/\K (.sl h.bY 0 l.toNat (.cm c.toNat)) (h.cb ⟨Im,jE z c.toNat⟩)
  |_,_=>False
 | .append sz bytes s x=>iU (zB5 sz bytes h (s.ev e) (x.ev e)) λp=>K p.1 p.2
 | .appendMk sz bytes z s n=>match s.ev e,n.ev e with
  | .cU,.int _ n=>(0<=n/\n*bytes<=140737488355328/\n<=4611686018427387904)/\if 0<n then K (.sl h.bY 0 n.toNat (.grown sz)) (h.cb ⟨Im,jE z n.toNat⟩)else K .cU h
  | .sl o off len c,.int _ n=>(0<=n/\n*bytes<=140737488355328/\n<=4611686018427387904)/\iU (if 0<n then u9 sz bytes h (.sl o off len c) (jE z n.toNat) n.toNat else(Ek (.sl o off len c)).map λv=>(v,h)) λp=>K p.1 p.2
  |_,_=>False
 | .copy sz d s=>iU (acopy sz h (d.ev e) (s.ev e)) λp=>K p.1 p.2
 | .call f args=>ZH P f (args.map (·.ev e)) h K
 | .callV f args=>match f.ev e with
  | .clo f first dw=>okF P f=Im/\ZH P f (first++args.map (·.ev e)++dw) h K
  |_=>False
 | .strOf x=>iU ((alen (x.ev e)).bind λn=>(Qx 1 h (x.ev e) n).bind zA8) λs=>K (.str s) h
 |_=>False
variable{P:Program}{B:Nat}{w0 w:World}{j:jv}{h:dN}{nt:Nat}{e:Env}{a:Act}
def Ends(P:Program)(s:Sem Next)(w:World)(B:Nat)(w0:World)(j:jv)(h:dN)(K:AV->dN->Prop):Prop:=
 ∃v h' u m w',(s.run P w=.ok (.value m) w'\/(s.run P w=.ok .skip w'/\m=undef))/\FR j h u h'/\MR B w0 u h' w'/\VI u v m/\K v h'
def Ze(z:List Value)(C:z≠[]):∀n,(madeCells z.toArray (n*Tw z)).toList=(Jf n z).flatten:=by
 intro n;have A:0<Tw z:=List.length_pos_iff.2 C;apply Kr;intro i;by_cases u:i<n*Tw z
 .have h1:(madeCells z.toArray (n*Tw z)).toList[i]? = z[i % z.length]?:=by
   have m:i % z.length<Tw z:=Nat.mod_lt _ A;simp[madeCells,u,m]
  rw[h1];clear h1
  induction n generalizing i with
  |zero=>simp at u
  |succ n ih=>
   rw[LN,LY];by_cases m:i<Tw z
   .rw[YC m,L0 m]
   .rw[Yz aH]
    have:=ih (i-Tw z) (by rw[Nat.succ_mul]at u;omega)
    rw[<-this];congr 1;rw[Nat.mod_eq_sub_mod aH]
 .rw[YN (by simp[madeCells];omega),YN (by simp;omega)]
def oy.replicate{zs:List AV}{z:List Value}(m:oy j zs z):∀n,oy j (jE zs n) ((Jf n z).flatten)
 |0=>rfl
 |n+1=>by
  simp only[jE,LN,LY];exact m.append (oy.replicate m n)
def zBB{zs:List AV}(u:zs.all AV.one=Im)(n:Nat):(jE zs n).all AV.one=Im:=by
 rw[Mi]at u ⊢;intro x m;simp only[jE,List.mem_flatten,List.mem_replicate]at m;obtain⟨l,⟨_,rfl⟩,m⟩:=m;exact u x m
def zMX(m:MR B w0 j h w){t:TypeId}{i:TypeInfo}{z:Value}{zs:List AV}(D:P.info? t=Ik i)(I:i.zero=Ik z)(A:qE z.cells.toList=Ik zs)
  {K:AV->dN->Prop} (E:K (.ptr h.bY 0) (h.cb ⟨Im,zs⟩)):Ends P (do pure (.value (<-Instr.alloc t Im (.tuple #[])))) w B w0 j h K:=by
 obtain⟨u,J⟩:=qH (j:=j) A;have G:=u.length;obtain⟨H,C⟩:=m.cb (ty:=t) (cur:=z.cells) (room:=0) J (by rw[G,YP];exact u) (YQ _);refine⟨.ptr h.bY 0,_,_,.pointer (Ik ⟨w.heap.size,0,none⟩),_,.inl ?_,C,H,⟨⟨w.heap.size,0,0⟩,by simp[jv.put],rfl⟩,E⟩;simp[Instr.alloc,zeroValue,typeInfo,D,I,newVar,newRow]
def zP9(m:MR B w0 j h w){t:TypeId}{v:AV}{c:Value}(C:VI j v c)(u:v.cells.all AV.one=Im)
  {K:AV->dN->Prop} (E:K (.ptr h.bY 0) (h.cb ⟨Im,v.cells⟩)):Ends P (do pure (.value (<-Instr.box t c))) w B w0 j h K:=by
 have A:=VI.cells C u;have G:=A.length;obtain⟨H,D⟩:=m.cb (ty:=t) (cur:=c.cells) (room:=0) u (by rw[G,YP];exact A) (YQ _);refine⟨.ptr h.bY 0,_,_,.pointer (Ik ⟨w.heap.size,0,none⟩),_,.inl ?_,D,H,⟨⟨w.heap.size,0,0⟩,by simp[jv.put],rfl⟩,E⟩;simp[Instr.box,newVar,newRow]
def MR.wr(m:MR B w0 j h w){o k:Nat}{l:Loc}{vs:List AV}{cs:List Value}(J:j o=Ik l)(L:oy j vs cs){h':dN}(U:h.wr o k vs=Ik h'):
  ∃w',(storeCells ⟨l.blk,l.base+k,none⟩ cs).run P w=.ok () w'/\MR B w0 j h' w'/\FR j h j h':=by
 obtain⟨A,K,R,hle,S,rfl⟩:=dN.wr_some U;obtain⟨cur,ty,fz,N,I,T,_⟩:=(m.cd o A l K J).row;obtain⟨rfl,Y,_⟩:=T R;have hlen:=L.length;have V:l.base+Tw A.cells<=cur.size:=by
  rcases MB A.cells.length with x|x
  .omega
  .obtain⟨C,D,_⟩:=I (Tw A.cells-1) A.cells[A.cells.length-1] (na aH)
   have:=(YA.1 D).1
   omega
 have O:=run_storeCells_at P l.blk (l.base+k) ty cs 0 cur w N aH (L.oneCell S);simp only[Y6]at O;have key:=m.setRow (cells:=A.cells.take k++vs++A.cells.drop (k+Tw vs)) K J R N
  (new:=(cur.toList.take (l.base+k)++cs++cur.toList.drop (l.base+k+Tw cs)).toArray) (by simp;omega)
  (by
   have X:=(m.cd o A l K J).one;grind)
  (by
   intro q u E;have W:q<Tw A.cells:=by
    grind
   rcases YY q k with x|x
   .rw[YH,YC (by simp;omega),Y3,Iu x]at E;obtain⟨C,D,G⟩:=I q u E;refine⟨C,?_,G⟩
    have:(cur.toList.take (l.base+k)++cs++cur.toList.drop (l.base+k+Tw cs))[l.base+q]? = Ik C:=by
     rw[YH,YC (by simp;omega),Y3,Iu aH];simpa using D
    simpa using this
   .rcases YY q (k+Tw vs)with y|y
    .rw[YC (by simp;omega),Yz (by simp;omega)]at E;have H:vs[q-k]? = Ik u:=by rw[<-E];congr 1;simp;omega
     obtain⟨C,D,G⟩:=L.get H;refine⟨C,?_,G⟩
     have:(cur.toList.take (l.base+k)++cs++cur.toList.drop (l.base+k+Tw cs))[l.base+q]? = Ik C:=by
      rw[YC (by simp;omega),Yz (by simp;omega)];rw[<-D];congr 1;simp;omega
     simpa using this
    .rw[Yz (by simp;omega),Y0]at E;have H:A.cells[q]? = Ik u:=by rw[<-E];congr 1;simp;omega
     obtain⟨C,D,G⟩:=I q u H;refine⟨C,?_,G⟩
     have:(cur.toList.take (l.base+k)++cs++cur.toList.drop (l.base+k+Tw cs))[l.base+q]? = Ik C:=by
      rw[Yz (by simp;omega),Y0];grind
     simpa using this)
 exact⟨_,O,key.1,key.2⟩
def zK7(m:MR B w0 j h w){t:TypeId}{i:TypeInfo}(I:P.info? t=Ik i){o k:Nat}{v:AV}{p c:Value}(O:VI j (.ptr o k) p)(G:VI j v c)(hs:v.cells.length=i.size){h':dN}
  (u:h.wr o k v.cells=Ik h') {K:AV->dN->Prop} (J:K .undef h'):Ends P (do Instr.storeAt t p c;pure .skip) w B w0 j h K:=by
 obtain⟨l,L,rfl⟩:=O;obtain⟨_,_,_,_,C,_⟩:=dN.wr_some u;have A:=VI.cells G C;have hlen:=A.length;obtain⟨w',D,N,H⟩:=m.wr (P:=P) L A u;refine⟨.undef,_,j,undef,_,.inr ⟨?_,rfl⟩,H,N,Is,J⟩;have E:¬(c.cells.size≠i.size):=by simp at hlen;omega
 simp only[Instr.storeAt,Instr.sureAddr,storeVar,Sem.run_bind,Sem.run_pure,Result.andThen_ok,zX I,Iv E,D]
def zI9(m:MR B w0 j h w)(r:ER nt j e a){t G:TypeId}{i:TypeInfo}{z:Value}{zs:List AV}(L:P.underlying t=Ik (.slice G))(I:P.info? G=Ik i)(hz:i.zero=Ik z)
  (S:qE z.cells.toList=Ik zs) {len:Nat} {u:Array (Nat×Operand)} {C:List (Nat×Nat×IX)} (U:Qw i.size u.toList=Ik C) (T:zs.length=i.size) (aj:i.size≠0)
  (qn:len*i.size<=16777216) {cs:List AV} (V:xK (jE zs len) (C.map λp=>(p.1,p.2.1,p.2.2.ev e))=Ik cs)
  {K:AV->dN->Prop} (W:K (.sl h.bY 0 len (.cm len)) (h.cb ⟨Im,cs⟩)):Ends P (do pure (.value (<-Instr.buildSlice t len (u.map λ(i,x)=>(i,a.eval x))))) w B w0 j h K:=by
 obtain⟨O,z2⟩:=qH (j:=j) S;have X:=O.length;have lD:z.cells.toList≠[]:=by grind
 have iW:((Array.range (len*i.size)).map (z.cells[· % z.cells.size]!)).toList=(Jf len z.cells.toList).flatten:=by
  have:=Ze z.cells.toList lD len
  rw[<-X,T]at this;simpa [madeCells]using this
 have lJ:∀{u:List (Nat×Operand)} {C:List (Nat×Nat×IX)},Qw i.size u=Ik C->u.length=(C.map λp=>(p.1,p.2.1,p.2.2.ev e)).length/\
   ∀(k:Nat) (p:Nat×Operand) (q:Nat×Nat×AV),u[k]? = Ik p->(C.map λq=>(q.1,q.2.1,q.2.2.ev e))[k]? = Ik q->(Ik (p.1*i.size,i.size))=Ik (q.1,q.2.1)/\VI j q.2.2 (a.eval p.2):=by
  intro u
  induction u with
  |nil=>intro C A;cases A;exact⟨rfl,λk p q D=>by simp at D⟩
  |cons p u ih=>
   intro C A;obtain⟨n,x⟩:=p;simp only[Qw,YX]at A;obtain⟨ix,Z,Fe,pP,A⟩:=A;cases A;obtain⟨N,i2⟩:=ih pP;refine⟨by simp at N ⊢;exact N,λk p q D A=>?_⟩;cases k with
   |zero=>simp at D A;subst D;subst A;exact⟨rfl,zM r Z⟩
   |succ k=>exact i2 k p q (by simpa using D) (by simpa using A)
 obtain⟨p1,p2⟩:=lJ U;obtain⟨res,E,r1,r2⟩:=Qu (place:=λk=>Ik (k*i.size,i.size)) u.toList _ (jE zs len) ((Array.range (len*i.size)).map (z.cells[· % z.cells.size]!)) a.eval cs
  (by rw[iW];exact O.replicate len) (zBB z2 len) V p1 p2
 have R:=r1.length;obtain⟨Y,um⟩:=m.cb (ty:=G) (cur:=res) (room:=0) r2 (by rw[R,YP];exact r1) (YQ _);refine⟨.sl h.bY 0 len (.cm len),_,_,.slice (Ik ⟨w.heap.size,0,none⟩) len len,_,.inl ?_,um,Y,⟨⟨w.heap.size,0,0⟩,_,by simp[jv.put],rfl,.inl rfl⟩,W⟩;have J:(u.map λ(i,x)=>(i,a.eval x)).toList=u.toList.map λp=>(p.1,a.eval p.2):=bj
 have qk:¬(16777216<len*i.size):=aH
 by_cases H:len*i.size=0
 .have:((Array.range (len*i.size)).map (z.cells[· % z.cells.size]!)) = #[]:=by rw[H];simp[Array.range_zero']
  rw[this]at E;simp[Instr.buildSlice,run_underlying L,zX I,H,J,E,newRow,Array.range_zero']
 .simp[Instr.buildSlice,run_underlying L,zX I,H,qk,J,E,newRow,zeroValue,typeInfo,I,hz]
def zJs(m:MR B w0 j h w){t u:TypeId}{i:TypeInfo}{z:Value}{zs:List AV}(R:P.underlying t=Ik (.slice u))(J:P.info? u=Ik i)(S:i.zero=Ik z)
  (G:qE z.cells.toList=Ik zs) (H:zs.length=i.size) (Z:i.size≠0) {kl kc:IntKind} {l c:Int} (I:0<=l) (V:l<=c) (hb:c*i.bytes<=140737488355328) (D:c<=9223372036854775807)
  {K:AV->dN->Prop} (L:K (.sl h.bY 0 l.toNat (.cm c.toNat)) (h.cb ⟨Im,jE zs c.toNat⟩)):Ends P (do pure (.value (<-Instr.makeSlice t (.int kl l) (.int kc c)))) w B w0 j h K:=by
 obtain⟨C,Y⟩:=qH (j:=j) G;have N:=C.length;have U:z.cells.toList≠[]:=by grind
 have T:(madeCells z.cells (c.toNat*i.size)).toList=(Jf c.toNat z.cells.toList).flatten:=by
  have:=Ze z.cells.toList U c.toNat
  rw[<-N,H]at this;simpa using this
 have X:=run_make (P:=P) w t u i z R J S kl kc l c I V (by rw[Uh];omega) D;have A:=C.replicate c.toNat;have E:=A.length;obtain⟨O,W⟩:=m.cb (ty:=u) (cur:=madeCells z.cells (c.toNat*i.size)) (room:=0) (zBB Y c.toNat) (by rw[T,E,YP];exact A) (YQ _);exact⟨.sl h.bY 0 l.toNat (.cm c.toNat),_,_,.slice (Ik ⟨w.heap.size,0,none⟩) l.toNat c.toNat,_,.inl (by simp[X]),W,O,⟨⟨w.heap.size,0,0⟩,_,by simp[jv.put],rfl,.inl rfl⟩,L⟩
def MR.adopt(m:MR B w0 j h w){b base room:Nat}{cells:List AV}{cur new:Array Value}{ty:TypeId}(J:w.heap[b]? = Ik (.cells cur ty (0,0)))(O:B<=b)
  (E:∀o A l,h.cd o=Ik A->j o=Ik l->l.blk≠b) (N:new.size=cur.size) (K:base+room<=cur.size) (L:cells.all AV.one=Im) (R:oy j cells ((new.toList.drop base).take cells.length)):
  MR B w0 (j.put h.bY ⟨b,base,room⟩) (h.cb ⟨Im,cells⟩) (w.setRow b new)/\FR j h (j.put h.bY ⟨b,base,room⟩) (h.cb ⟨Im,cells⟩):=by
 have hle:=m.put_le ⟨b,base,room⟩;have H:∀k,k≠b->(w.setRow b new).heap[k]? = w.heap[k]?:=by
  intro k C;simp only[World.setRow,LJ];rw[Iv (λe=>C e.symm)]
 have U:(w.setRow b new).heap[b]? = Ik (.cells new ty (0,0)):=by
  simp[World.setRow,LJ,J]
 have I:(w.setRow b new).heap.size=w.heap.size:=by simp[World.setRow]
 refine⟨⟨m.below.trans ⟨rfl,rfl,rfl,by rw[I];exact sB _,λk C=>H k aH⟩,by rw[I];exact m.bnd,m.gd,?_,?_,?_⟩,?_⟩
 .intro o u;simp only[dN.cb]at u;simp only[dN.cb,jv.put,Iv (show ¬o=h.bY by omega)];exact m.fresh o aH
 .intro o A l u hl;by_cases e:o=h.bY
  .subst e;simp only[dN.cb,if_true,YR]at u;simp only[jv.put,if_true,YR]at hl;subst u;subst hl;refine⟨L,new,ty,(0,0),U,λi v G=>?_,λ_=>⟨rfl,by rw[N];exact K,O⟩,λx=>by cases x⟩;obtain⟨D,x,y⟩:=R.get G;refine⟨D,?_,VI.mono hle _ _ y⟩;rw[Y3]at x;split at x
   .rw[Y0]at x;simpa using x
   .cases x
  .simp only[dN.cb,Iv e]at u;simp only[jv.put,Iv e]at hl;have C:=m.cd o A l u hl;refine⟨C.one,?_⟩;obtain⟨c,t,f,x,y,q⟩:=C.row;refine⟨c,t,f,by rw[H _ (E o A l u hl)];exact x,λi v G=>?_,q⟩;obtain⟨D,S,T⟩:=y i v G;exact⟨D,S,VI.mono hle _ _ T⟩
 .intro o o' A j5 l l' aj u di hl cu eE;by_cases e:o=h.bY
  .have e':o'≠h.bY:=λx=>aj (e.trans x.symm);subst e;simp only[jv.put,if_true,YR]at hl;simp only[jv.put,Iv e']at cu;simp only[dN.cb,Iv e']at di;subst hl;exactλx=>E o' j5 l' di cu x.symm
  .simp only[dN.cb,Iv e]at u;simp only[jv.put,Iv e]at hl;by_cases e':o'=h.bY
   .subst e';simp only[jv.put,if_true,YR]at cu;subst cu;exact E o A l u hl
   .simp only[dN.cb,Iv e']at di;simp only[jv.put,Iv e']at cu;exact m.apart o o' A j5 l l' aj u di hl cu eE
 .refine⟨by simp[dN.cb],λo u=>?_,λo u _=>?_⟩
  .simp[jv.put,Jn u]
  .simp[dN.cb,Jn u]
def zAd{x:AV}{c:Value}{n:Nat}(A:VI j x c)(m:alen x=Ik n):∃o cp,c=.slice o n cp/\n<=n:=by
 unfold alen at m;split at m
 .cases m;exact⟨_,_,A,sB _⟩
 .rename_i o off n' cap;cases m;cases cap with
  |cm q=>obtain⟨l,_,C,u,_⟩:=A;exact⟨_,_,u,sB _⟩
  |grown q=>obtain⟨l,D,E,C,u,_⟩:=A;exact⟨_,_,u,sB _⟩
 .cases m
def zA6(m:MR B w0 j h w){e n:Nat}{x:AV}{c:Value}{news:List AV}(E:VI j x c)(N:n≠0)(A:Qx e h x n=Ik news):
  ∃(D:Addr) (len cp:Nat) (cs:List Value),c=.slice (Ik D) len cp/\n<=len/\oy j news cs/\Tw cs=n*e/\news.all AV.one=Im/\∀k u,cs[k]? = Ik u->w.cell? (D.add k)=Ik u:=by
 unfold Qx at A;rw[Iv N]at A;split at A
 .rename_i o off len cap;split at A
  .rename_i hle;have key:∃l cp,j o=Ik l/\c=.slice (Ik ⟨l.blk,l.base+off,none⟩) len cp:=by
    cases cap with
    |cm q=>
     obtain⟨l,a,C,rfl,L⟩:=E;rcases L with rfl|⟨_,O⟩
     .exact⟨l,_,C,rfl⟩
     .omega
    |grown q=>
     obtain⟨l,cp,f,C,rfl,_,G,_⟩:=E;rcases G with rfl|⟨O,_⟩
     .exact⟨l,_,C,rfl⟩
     .omega
   obtain⟨l,cp,C,rfl⟩:=key;obtain⟨cs,H,I,J,K⟩:=m.cells A C;exact⟨_,_,_,cs,rfl,hle,H,I,J,K⟩
  .cases A
 .cases A
def zAq{size n len cp:Nat}{m:Addr}{cs:List Value}(C:cs.length=n*size)(A:∀k u,cs[k]? = Ik u->w.cell? (m.add k)=Ik u):
  (Builtin.firstCells size n (.slice (Ik m) len cp)).run P w=.ok cs.toArray w:=by
 have:=run_loadCells_list (P:=P) w m cs A
 rw[C]at this;simpa [Builtin.firstCells]using this
def zCZ(w:World)(t ty C:TypeId)(i:TypeInfo)(K:P.underlying t=Ik (.slice C))(I:P.info? C=Ik i)(A:Addr)(len cap:Nat)
  (a:Addr) (m c:Nat) (news:List Value) (J:news.length=m*i.size) (D:∀j u,news[j]? = Ik u->w.cell? (a.add j)=Ik u) (E:len+m<=cap) {w':World}
  (G:(storeCells (A.add (len*i.size)) news).run P w=.ok () w'):
  (Builtin.append_ #[t,t] ty #[.slice (Ik A) len cap,.slice (Ik a) m c]).run P w=.ok (.slice (Ik A) (len+m) cap) w':=by
 have H:=zAq (P:=P) (len:=m) (cp:=c) J D;simp[Builtin.append_,run_underlying K,sizeOf,typeInfo,I,Builtin.lenOf,E,H,G]
def zFC(w:World)(t ty m:TypeId)(i:TypeInfo)(C:P.underlying t=Ik (.slice m))(A:P.info? m=Ik i)(base o:Option Addr)(len cap c:Nat)(u:len<=cap):
  (Builtin.append_ #[t,t] ty #[.slice base len cap,.slice o 0 c]).run P w=.ok (.slice base len cap) w:=by
 cases base<;>cases o<;>simp[Builtin.append_,run_underlying C,sizeOf,typeInfo,A,Builtin.lenOf,u,Builtin.firstCells,loadCells,loadCellsFrom,storeCells]
def zJG(m:MR B w0 j h w){t ty C:TypeId}{i:TypeInfo}{z:Value}(T:P.underlying t=Ik (.slice C))(S:P.info? C=Ik i)(hz:i.zero=Ik z)(dQ:z.cells.size=i.size)(aj:i.size≠0)
  {s x:AV} {cs cx:Value} (hs:VI j s cs) (hx:VI j x cx) {v:AV} {h':dN} (A:zB5 i.size i.bytes h s x=Ik (v,h')):
  ∃j' cv w',(Builtin.append_ #[t,t] ty #[cs,cx]).run P w=.ok cv w'/\FR j h j' h'/\MR B w0 j' h' w'/\VI j' v cv:=by
 simp only[zB5,YX]at A;obtain⟨n,hn,A⟩:=A;obtain⟨o,cp,rfl,_⟩:=zAd hx hn;split at A
 .rename_i h0;subst h0;simp only[YJ,Yo]at A;obtain⟨u,J,rfl,rfl⟩:=A;have key:∃b len cap,cs=.slice b len cap/\len<=cap/\u=s:=by
   unfold Ek at J;split at J
   .cases J;exact⟨_,_,_,hs,sB _,rfl⟩
   .split at J
    .cases J;obtain⟨l,_,H,dn,_⟩:=hs;exact⟨_,_,_,dn,by assumption,rfl⟩
    .cases J
   .cases J;obtain⟨l,cc,ff,H,dn,hle,_⟩:=hs;exact⟨_,_,_,dn,hle,rfl⟩
   .cases J
  obtain⟨b,len,cap,rfl,hle,rfl⟩:=key;exact⟨j,_,w,zFC w t ty C i T S b o len cap cp hle,FR.refl _ _,m,hs⟩
 .rename_i h0;simp only[YX]at A;obtain⟨news,hf,A⟩:=A;obtain⟨W,cP,IQ,E,rF,hle,Z,U,bh,Y⟩:=zA6 m hx h0 hf;simp only[Value.slice.injEq]at rF;obtain⟨rfl,rfl,rfl⟩:=rF;have NJ:=Z.length;have aM:0<n:=aH
  -- a new row
  have fresh:∀(old:List AV) (D:List Value) (len G:Nat) (R:dN),MR B w0 j R w->R.bY=h.bY->oy j old D->D.length=len*i.size->old.all AV.one=Im->n+len=n+len->G<len+n->
    MR B w0 (j.put h.bY ⟨w.heap.size,0,grownCap w (len+n) G C*i.size⟩) (R.cb ⟨Im,old++news⟩)
     (w.drew.alloc (.cells (D.toArray++E.toArray++Builtin.zeroCells z.cells (grownCap w (len+n) G C-(len+n))) C))/\
    FR j R (j.put h.bY ⟨w.heap.size,0,grownCap w (len+n) G C*i.size⟩) (R.cb ⟨Im,old++news⟩)/\
    VI (j.put h.bY ⟨w.heap.size,0,grownCap w (len+n) G C*i.size⟩) (.sl h.bY 0 (len+n) (.grown i.size)) (.slice (Ik ⟨w.heap.size,0,none⟩) (len+n) (grownCap w (len+n) G C)):=by
   intro old D len G R m2 bZ hold ki pT _ af;have an:=grownCap_ge w (len+n) G C;have Gx:=hold.length;have fF:(D.toArray++E.toArray++Builtin.zeroCells z.cells (grownCap w (len+n) G C-(len+n))).size=grownCap w (len+n) G C*i.size:=by
    simp only[Un,List.size_toArray,size_zeroCells,dQ,ki,U,<-La];congr 1;omega
   have:=m2.drew.cb (ty:=C) (cells:=old++news) (cur:=D.toArray++E.toArray++Builtin.zeroCells z.cells (grownCap w (len+n) G C-(len+n))) (room:=grownCap w (len+n) G C*i.size)
    (by rw[MQ,pT,bh];rfl)
    (by
     have hh:=hold.append Z;grind)
    (by rw[fF];exact sB _)
   rw[bZ]at this;refine⟨this.1,this.2,⟨⟨w.heap.size,0,grownCap w (len+n) G C*i.size⟩,grownCap w (len+n) G C,0,by simp[jv.put],rfl,an,.inl rfl,λ_ _=>bj⟩⟩
  unfold u9 at A;split at A
  .split at A
   .rename_i hb;cases A;obtain⟨L,N,O⟩:=fresh [] [] 0 0 h m rfl rfl bj rfl rfl aH;rw[show cs=.slice none 0 0 from hs];have I:=run_append_nil (P:=P) w t ty C i z T S hz W n cp E U Y aM aH aH;simp only[Y4,Yn,Array.empty_append]at L N O;exact⟨_,_,_,I,N,L,O⟩
   .cases A
  .rename_i K off len c;obtain⟨l,al,H,rfl,lu⟩:=hs;split at A
   .rename_i bM;obtain rfl:al=⟨l.blk,l.base+off,none⟩:=by rcases lu with e|⟨e,_⟩;exact e;omega
    simp only[YJ,Yo]at A;obtain⟨h1,hw,rfl,rfl⟩:=A;obtain⟨w',X,hm,um⟩:=m.wr (P:=P) H Z hw;refine⟨j,_,w',zCZ w t ty C i T S ⟨l.blk,l.base+off,none⟩ len c W n cp E U Y bM ?_,um,hm,⟨l,_,H,rfl,.inl rfl⟩⟩;rw[qf];rw[<-Y9]at X;exact X
   .rename_i bM;split at A
    .rename_i hb;simp only[YJ,Yo]at A;obtain⟨old,dk,rfl,rfl⟩:=A;obtain⟨D,p1,p2,p3,p4⟩:=m.cells dk H;obtain⟨L,N,O⟩:=fresh old D len c h m rfl p1 p2 p3 rfl aH;have xB:∀k u,D[k]? = Ik u->w.cell? (al.add k)=Ik u:=by
      grind
     have I:=run_append_grow (P:=P) w t ty C i z T S hz al len c D p2 xB W n cp E U Y aH aH (growslice_fits aH aH);exact⟨_,_,_,I,N,L,O⟩
    .cases A
  .rename_i K off len g;split at A
   .rename_i hb;obtain⟨mH,jS,rfl⟩:=hb;simp only[YX]at A;obtain⟨V,ho,A⟩:=A;split at A
    .rename_i hb;obtain⟨eE,hlen⟩:=hb;cases A;obtain⟨l,c,f,H,rfl,ud,fX,B2⟩:=hs;obtain⟨cur,tE,fz,aE,eb,I,_⟩:=(m.cd K V l ho H).row;obtain⟨rfl,bM,hB⟩:=I eE;obtain⟨mk,fk⟩:=m.kill H;have Gy:=(m.cd K V l ho H).one;have dk:h.rd K off (len*i.size)=Ik ((V.cells.drop off).take (len*i.size)):=by
      simp[dN.rd,ho,hlen]
     obtain⟨D,p1,p2,p3,p4⟩:=m.cells dk H;by_cases cD:len+n<=c
     ·-- in place
      have Hw:f=l.base+off:=by
       omega
      subst Hw;have Gj:=B2 rfl aj;have eX:l.base+off+(len+n)*i.size<=cur.size:=by
       have q1:(len+n)*i.size<=c*i.size:=M0 _ cD;omega
      have CK:l.base+off+len*i.size+Tw E<=cur.size:=by grind
      have X:=run_storeCells_at P l.blk (l.base+off+len*i.size) tE E 0 cur w aE aH (Z.oneCell bh);simp only[Y6]at X;have I:=zCZ (P:=P) w t ty C i T S ⟨l.blk,l.base+off,none⟩ len c W n cp E U Y cD (by rw[qf];exact X);have yy:D=(cur.toList.drop (l.base+off)).take (len*i.size):=by
       apply Kr;intro k;by_cases hk:k<Tw D
       .have q1:=p4 k D[k] (na hk);rw[qf]at q1;simp only[World.cell?,aE]at q1;rw[Y3,Iu aH,na hk,Y0];simpa using q1.symm
       .rw[YN aH,YN (by simp;omega)]
      have:=mk.adopt (b:=l.blk) (base:=l.base+off) (room:=l.room-off) (cells:=(V.cells.drop off).take (len*i.size)++news) (cur:=cur) (ty:=tE)
       (new:=(cur.toList.take (l.base+off+len*i.size)++E++cur.toList.drop (l.base+off+len*i.size+Tw E)).toArray) aE hB
       (by
        intro q nO lq hq kX e;by_cases yp:q=K
        .subst yp;simp[dN.kill]at hq
        .simp only[dN.kill,Iv yp]at hq;exact m.apart K q V nO l lq (λx=>yp x.symm) ho hq H kX eE e.symm)
       (by simp;omega) aH (by rw[MQ,p3,bh];rfl)
       (by
        have hh:=p1.append Z;have Ec:=hh.length;rw[Ec];have e:((cur.toList.take (l.base+off+len*i.size)++E++cur.toList.drop (l.base+off+len*i.size+Tw E)).toArray.toList.drop (l.base+off)).take (D++E).length=D++E:=by
         simp only[YH];rw[UX (by simp;omega),Jc,show l.base+off+len*i.size-(l.base+off)=len*i.size by omega,<-yy,<-YH,UU (sB _),YU (sB _)]
        rw[e];exact hh)
      refine⟨_,_,_,I,fk.trans this.2,this.1,⟨⟨l.blk,l.base+off,l.room-off⟩,c,l.base+off,by simp[jv.put,dN.kill],rfl,cD,.inl bj,λ_ _=>?_⟩⟩;simp only[Y4];omega
     .have xB:∀k u,D[k]? = Ik u->w.cell? ((⟨l.blk,f,none⟩:Addr).add k)=Ik u:=by
       grind
      have I:=run_append_grow (P:=P) w t ty C i z T S hz ⟨l.blk,f,none⟩ len c D p2 xB W n cp E U Y aH aH (growslice_fits aH aH);obtain⟨L,N,O⟩:=fresh ((V.cells.drop off).take (len*i.size)) D len c (h.kill K) mk rfl p1 p2 p3 rfl aH;exact⟨_,_,_,I,fk.trans N,L,O⟩
    .cases A
   .cases A
  .cases A
def zML(m:MR B w0 j h w){D:TypeId}{i:TypeInfo}{z:Value}(dQ:z.cells.size=i.size)(aj:i.size≠0){n:Nat}(aM:0<n){news:List AV}{E:List Value}(O:oy j news E)(ie:E.length=n*i.size)(bh:news.all AV.one=Im){app:Value->Sem Value}
  (hN:n*i.bytes<=140737488355328->n<=4611686018427387904->(app (.slice none 0 0)).run P w=.ok (.slice (Ik ⟨w.heap.size,0,none⟩) n (grownCap w n 0 D)) (w.drew.alloc (.cells (E.toArray++Builtin.zeroCells z.cells (grownCap w n 0 D-n)) D)))
  (hR:∀(ad:Addr) (len cap:Nat) (w':World),len+n<=cap->(storeCells (ad.add (len*i.size)) E).run P w=.ok () w'->(app (.slice (Ik ad) len cap)).run P w=.ok (.slice (Ik ad) (len+n) cap) w')
  (hG:∀(al:Addr) (len c:Nat) (A:List Value),A.length=len*i.size->(∀k u,A[k]? = Ik u->w.cell? (al.add k)=Ik u)->c<len+n->((len+n:Nat):Int)<=9223372036854775807->Builtin.nextslicecap (len+n) c*i.bytes<=281474976710656->
   (app (.slice (Ik al) len c)).run P w=.ok (.slice (Ik ⟨w.heap.size,0,none⟩) (len+n) (grownCap w (len+n) c D)) (w.drew.alloc (.cells (A.toArray++E.toArray++Builtin.zeroCells z.cells (grownCap w (len+n) c D-(len+n))) D)))
  {s:AV} {cs:Value} (hs:VI j s cs) {v:AV} {h':dN} (C:u9 i.size i.bytes h s news n=Ik (v,h')):
  ∃j' cv w',(app cs).run P w=.ok cv w'/\FR j h j' h'/\MR B w0 j' h' w'/\VI j' v cv:=by
 have NJ:=O.length
 -- a new row
 have fresh:∀(old:List AV) (A:List Value) (len G:Nat) (K:dN),MR B w0 j K w->K.bY=h.bY->oy j old A->A.length=len*i.size->old.all AV.one=Im->n+len=n+len->G<len+n->
   MR B w0 (j.put h.bY ⟨w.heap.size,0,grownCap w (len+n) G D*i.size⟩) (K.cb ⟨Im,old++news⟩)
    (w.drew.alloc (.cells (A.toArray++E.toArray++Builtin.zeroCells z.cells (grownCap w (len+n) G D-(len+n))) D))/\
   FR j K (j.put h.bY ⟨w.heap.size,0,grownCap w (len+n) G D*i.size⟩) (K.cb ⟨Im,old++news⟩)/\
   VI (j.put h.bY ⟨w.heap.size,0,grownCap w (len+n) G D*i.size⟩) (.sl h.bY 0 (len+n) (.grown i.size)) (.slice (Ik ⟨w.heap.size,0,none⟩) (len+n) (grownCap w (len+n) G D)):=by
  intro old A len G K m2 bZ hold ki pT _ af;have an:=grownCap_ge w (len+n) G D;have Gx:=hold.length;have fF:(A.toArray++E.toArray++Builtin.zeroCells z.cells (grownCap w (len+n) G D-(len+n))).size=grownCap w (len+n) G D*i.size:=by
   simp only[Un,List.size_toArray,size_zeroCells,dQ,ki,ie,<-La];congr 1;omega
  have:=m2.drew.cb (ty:=D) (cells:=old++news) (cur:=A.toArray++E.toArray++Builtin.zeroCells z.cells (grownCap w (len+n) G D-(len+n))) (room:=grownCap w (len+n) G D*i.size)
   (by rw[MQ,pT,bh];rfl)
   (by
    have hh:=hold.append O;grind)
   (by rw[fF];exact sB _)
  rw[bZ]at this;refine⟨this.1,this.2,⟨⟨w.heap.size,0,grownCap w (len+n) G D*i.size⟩,grownCap w (len+n) G D,0,by simp[jv.put],rfl,an,.inl rfl,λ_ _=>bj⟩⟩
 unfold u9 at C;split at C
 .split at C
  .rename_i R;cases C;obtain⟨T,U,V⟩:=fresh [] [] 0 0 h m rfl rfl bj rfl rfl aH;rw[show cs=.slice none 0 0 from hs];grind
  .cases C
 .rename_i J off len c;obtain⟨l,al,H,rfl,lu⟩:=hs;split at C
  .rename_i bM;obtain rfl:al=⟨l.blk,l.base+off,none⟩:=by rcases lu with e|⟨e,_⟩;exact e;omega
   simp only[YJ,Yo]at C;obtain⟨h1,hw,rfl,rfl⟩:=C;obtain⟨w',N,hm,um⟩:=m.wr (P:=P) H O hw;refine⟨j,_,w',hR ⟨l.blk,l.base+off,none⟩ len c _ bM ?_,um,hm,⟨l,_,H,rfl,.inl rfl⟩⟩;rw[qf];rw[<-Y9]at N;exact N
  .rename_i bM;split at C
   .rename_i R;simp only[YJ,Yo]at C;obtain⟨old,dk,rfl,rfl⟩:=C;obtain⟨A,X,S,Y,Z⟩:=m.cells dk H;obtain⟨T,U,V⟩:=fresh old A len c h m rfl X S Y rfl aH;have xB:∀k u,A[k]? = Ik u->w.cell? (al.add k)=Ik u:=by
     rcases lu with rfl|⟨_,e⟩
     .exact Z
     grind
    have I:=hG al len c A S xB aH aH (growslice_fits aH aH);exact⟨_,_,_,I,U,T,V⟩
   .cases C
 .rename_i J off len g;split at C
  .rename_i R;obtain⟨mH,jS,rfl⟩:=R;simp only[YX]at C;obtain⟨L,W,C⟩:=C;split at C
   .rename_i R;obtain⟨eE,hlen⟩:=R;cases C;obtain⟨l,c,f,H,rfl,ud,fX,B2⟩:=hs;obtain⟨cur,tE,fz,aE,eb,I,_⟩:=(m.cd J L l W H).row;obtain⟨rfl,bM,hB⟩:=I eE;obtain⟨mk,fk⟩:=m.kill H;have Gy:=(m.cd J L l W H).one;have dk:h.rd J off (len*i.size)=Ik ((L.cells.drop off).take (len*i.size)):=by
     simp[dN.rd,W,hlen]
    obtain⟨A,X,S,Y,Z⟩:=m.cells dk H;by_cases cD:len+n<=c
    ·-- in place
     have Hw:f=l.base+off:=by
      omega
     subst Hw;have Gj:=B2 rfl aj;have eX:l.base+off+(len+n)*i.size<=cur.size:=by
      have q1:(len+n)*i.size<=c*i.size:=M0 _ cD;omega
     have CK:l.base+off+len*i.size+Tw E<=cur.size:=by grind
     have N:=run_storeCells_at P l.blk (l.base+off+len*i.size) tE E 0 cur w aE aH (O.oneCell bh);simp only[Y6]at N;have I:=hR ⟨l.blk,l.base+off,none⟩ len c _ cD (by rw[qf];exact N);have yy:A=(cur.toList.drop (l.base+off)).take (len*i.size):=by
      apply Kr;intro k;by_cases hk:k<Tw A
      .have q1:=Z k A[k] (na hk);rw[qf]at q1;simp only[World.cell?,aE]at q1;rw[Y3,Iu aH,na hk,Y0];simpa using q1.symm
      grind
     have:=mk.adopt (b:=l.blk) (base:=l.base+off) (room:=l.room-off) (cells:=(L.cells.drop off).take (len*i.size)++news) (cur:=cur) (ty:=tE)
      (new:=(cur.toList.take (l.base+off+len*i.size)++E++cur.toList.drop (l.base+off+len*i.size+Tw E)).toArray) aE hB
      (by
       intro q nO lq hq kX e;by_cases yp:q=J
       .subst yp;simp[dN.kill]at hq
       .simp only[dN.kill,Iv yp]at hq;exact m.apart J q L nO l lq (λx=>yp x.symm) W hq H kX eE e.symm)
      (by simp;omega) aH (by rw[MQ,Y,bh];rfl)
      (by
       have hh:=X.append O;have Ec:=hh.length;rw[Ec];have e:((cur.toList.take (l.base+off+len*i.size)++E++cur.toList.drop (l.base+off+len*i.size+Tw E)).toArray.toList.drop (l.base+off)).take (A++E).length=A++E:=by
        simp only[YH];rw[UX (by simp;omega),Jc,show l.base+off+len*i.size-(l.base+off)=len*i.size by omega,<-yy,<-YH,UU (sB _),YU (sB _)]
       rw[e];exact hh)
     refine⟨_,_,_,I,fk.trans this.2,this.1,⟨⟨l.blk,l.base+off,l.room-off⟩,c,l.base+off,by simp[jv.put,dN.kill],rfl,cD,.inl bj,λ_ _=>?_⟩⟩;simp only[Y4];omega
    .have xB:∀k u,A[k]? = Ik u->w.cell? ((⟨l.blk,f,none⟩:Addr).add k)=Ik u:=by
      rcases fX with rfl|⟨e,_⟩
      .exact Z
      grind
     have I:=hG ⟨l.blk,f,none⟩ len c A S xB aH aH (growslice_fits aH aH);obtain⟨T,U,V⟩:=fresh ((L.cells.drop off).take (len*i.size)) A len c (h.kill J) mk rfl X S Y rfl aH;exact⟨_,_,_,I,fk.trans U,T,V⟩
   .cases C
  .cases C
 .cases C
def zMr(w:World)(t E ty m:TypeId)(i:TypeInfo)(z:Value)(k kn:IntKind)(K:P.underlying t=Ik (.slice m))(O:P.underlying E=Ik (.int kn))(J:P.info? m=Ik i)(N:i.zero=Ik z)
  (n:Nat) (h0:0<n) (hs:0<i.size) (Y:(n:Int)<=9223372036854775807) (SY:n*i.bytes<=281474976710656):
  (∀(C:Addr) (len cap:Nat) (w':World),len+n<=cap->(storeCells (C.add (len*i.size)) (Builtin.zeroCells z.cells n).toList).run P w=.ok () w'->(Builtin.append_ #[t,E] ty #[.slice (Ik C) len cap,.int k n]).run P w=.ok (.slice (Ik C) (len+n) cap) w')/\
  (∀(al:Addr) (len c:Nat) (A:List Value),A.length=len*i.size->(∀k u,A[k]? = Ik u->w.cell? (al.add k)=Ik u)->c<len+n->((len+n:Nat):Int)<=9223372036854775807->Builtin.nextslicecap (len+n) c*i.bytes<=281474976710656->
   (Builtin.append_ #[t,E] ty #[.slice (Ik al) len c,.int k n]).run P w=.ok (.slice (Ik ⟨w.heap.size,0,none⟩) (len+n) (grownCap w (len+n) c m)) (w.drew.alloc (.cells (A.toArray++(Builtin.zeroCells z.cells n).toList.toArray++Builtin.zeroCells z.cells (grownCap w (len+n) c m-(len+n))) m))):=by
 have D:n≠0:=aH
 have L:Tu .i64 (n:Int)=n:=by rw[IntKind.wrap_i64];omega
 have H:¬(281474976710656<(n:Int)*(i.bytes:Int)):=by
  rw[<-Uw];omega
 have I:¬((n:Int)<0):=aH
 have G:¬(n*i.size=0):=Nat.mul_ne_zero D aH;refine⟨λC len cap w' T U=>?_,λal len c A W holds hg Z X=>?_⟩
 .simp[Builtin.append_,run_underlying K,run_underlying O,sizeOf,typeInfo,zeroValue,J,N,asInt,asIntOf,L,D,I,G,H,T,U]
 .have v7:¬(len+n<=c):=aH
  have R:¬(9223372036854775807<((len:Int)+(n:Int))):=aH
  have S:¬(281474976710656<Builtin.nextslicecap (len+n) c*i.bytes):=aH
  have V:=run_firstCells_some (P:=P) w.drew i.size len al len c A W (by simpa using holds);simp[Builtin.append_,run_underlying K,run_underlying O,sizeOf,typeInfo,zeroValue,J,N,asInt,asIntOf,L,D,I,G,H,v7,R,S,Question.forced,V,newRow,grownCap]
def zF7(w:World)(t u ty m:TypeId)(i:TypeInfo)(k kn:IntKind)(D:P.underlying t=Ik (.slice m))(G:P.underlying u=Ik (.int kn))(C:P.info? m=Ik i)(base:Option Addr)(len cap:Nat)(A:len<=cap):
  (Builtin.append_ #[t,u] ty #[.slice base len cap,.int k 0]).run P w=.ok (.slice base len cap) w:=by
 have E:Tu .i64 (0:Int)=0:=rfl;cases base<;>simp[Builtin.append_,run_underlying D,run_underlying G,sizeOf,typeInfo,C,asInt,asIntOf,E,A,storeCells]
def zCe(m:MR B w0 j h w){t t' ty D:TypeId}{i:TypeInfo}{z:Value}{zs:List AV}{kn:IntKind}(K:P.underlying t=Ik (.slice D))(E:P.underlying t'=Ik (.int kn))(H:P.info? D=Ik i)(R:i.zero=Ik z)
  (U:qE z.cells.toList=Ik zs) (W:zs.length=i.size) (T:i.size≠0) {k:IntKind} {n:Int} (h0:0<=n) (hb:n*i.bytes<=140737488355328) (It:n<=4611686018427387904) {s:AV} {cs:Value} (hs:VI j s cs) {v:AV} {h':dN}
  (C:(if 0<n then u9 i.size i.bytes h s (jE zs n.toNat) n.toNat else(Ek s).map λv=>(v,h))=Ik (v,h')):
  ∃L O w',(Builtin.append_ #[t,t'] ty #[cs,.int k n]).run P w=.ok O w'/\FR j h L h'/\MR B w0 L h' w'/\VI L v O:=by
 obtain⟨q,rfl⟩:∃q:Nat,n=q:=⟨n.toNat,aH⟩
 rw[KH]at C;by_cases J:0<q
 .rw[Iu aH]at C;obtain⟨S,Z⟩:=qH (j:=j) U;have I:=S.length;have N:z.cells.size=i.size:=by rw[<-W,I];simp
  have Y:z.cells.toList≠[]:=by grind
  have X:(Builtin.zeroCells z.cells q).toList=(Jf q z.cells.toList).flatten:=by
   have:=Ze z.cells.toList Y q
   simpa [madeCells,Builtin.zeroCells]using this
  have ur:q*i.bytes<=140737488355328:=by
   omega
  have V:oy j (jE zs q) (Builtin.zeroCells z.cells q).toList:=by rw[X];exact S.replicate q
  obtain⟨r1,r2⟩:=zMr (P:=P) w t t' ty D i z k kn K E H R q J aH aH aH;refine zML m N T J V (by rw[Array.length_toList,size_zeroCells,N]) (zBB Z q) (app:=λc=>Builtin.append_ #[t,t'] ty #[c,.int k q]) (λ_ _=>?_) r1 r2 hs C;rw[Js];exact Lib.run_append_nil_zeros (P:=P) w t t' ty D i z k kn K E H R q J aH aH aH
 .obtain rfl:q=0:=aH
  rw[Iv aH]at C;simp only[YJ,Yo]at C;obtain⟨u,A,rfl,rfl⟩:=C;have key:∃b len cap,cs=.slice b len cap/\len<=cap/\u=s:=by
   unfold Ek at A;split at A
   .cases A;exact⟨_,_,_,hs,sB _,rfl⟩
   .split at A
    .cases A;obtain⟨l,_,I,G,_⟩:=hs;exact⟨_,_,_,G,by assumption,rfl⟩
    .cases A
   .cases A;obtain⟨l,cc,ff,I,G,hle,_⟩:=hs;exact⟨_,_,_,G,hle,rfl⟩
   .cases A
  obtain⟨b,len,cap,rfl,hle,rfl⟩:=key;exact⟨j,_,w,zF7 w t t' ty D i k kn K E H b len cap hle,FR.refl _ _,m,hs⟩
def zMR(m:MR B w0 j h w){t ty t' J:TypeId}{i:TypeInfo}(N:P.underlying t=Ik (.slice J))(K:P.info? J=Ik i)
  {d s:AV} {D cs:Value} (G:VI j d D) (hs:VI j s cs) {v:AV} {h':dN} (u:acopy i.size h d s=Ik (v,h')):
  ∃I w',(Builtin.copy_ #[t,t'] ty #[D,cs]).run P w=.ok I w'/\FR j h j h'/\MR B w0 j h' w'/\VI j v I:=by
 simp only[acopy,YX]at u;obtain⟨n,L,m',kV,u⟩:=u;obtain⟨od,Te,tz,_⟩:=zAd G L;obtain⟨os,Td,A,_⟩:=zAd hs kV;split at u
 .rename_i E;cases u;refine⟨_,w,?_,FR.refl _ _,m,rfl⟩;subst tz;subst A
  have:Nat.min m' n=0:=E
  cases od<;>cases os<;>simp[Builtin.copy_,run_underlying N,Builtin.lenOf,this,zX K,Builtin.firstCells,loadCells,loadCellsFrom,storeCells,goInt]
 .rename_i E;split at u
  .rename_i o off n' cap;simp only[YX,YJ,Yo]at u;obtain⟨news,X,h1,Z,rfl,rfl⟩:=u;obtain⟨ad,C,S,nc,O,hle,W,ie,bh,V⟩:=zA6 m hs E X;cases L;have key:∃l cp,j o=Ik l/\D=.slice (Ik ⟨l.blk,l.base+off,none⟩) n cp:=by
    cases cap with
    |cm q=>
     obtain⟨l,a,H,rfl,ha⟩:=G;simp_all
    |grown q=>
     obtain⟨l,cp,f,H,rfl,_,fX,_⟩:=G;simp_all
   obtain⟨l,cp,H,rfl⟩:=key;obtain⟨w',U,Y,um⟩:=m.wr (P:=P) H W Z;refine⟨_,w',?_,um,Y,rfl⟩;rw[O]at A;simp only[Value.slice.injEq]at A;obtain⟨rfl,rfl,rfl⟩:=A;subst O;have R:Nat.min C n=min C n:=rfl;have T:=zAq (P:=P) (w:=w) (len:=C) (cp:=S) ie V;simp[Builtin.copy_,run_underlying N,Builtin.lenOf,R,zX K,T,U,goInt]
  .cases u
end
section
open Go.RowKit
variable{P:Program}{w0 w:World}{j:jv}{h:dN}
def zGy:∀{vs:List AV} {cs:List Value} {s:List UInt8},oy j vs cs->zA8 vs=Ik s->∃ns:V1,cs=ns.map (Value.int .u8)/\s=ns.map λn=>UInt8.ofNat n.toNat
 |[],cs,s,hv,hs=>by
  cases hs;rw[show cs=[] from hv];exact⟨[],rfl,rfl⟩
 |v::vs,cs,s,hv,hs=>by
  obtain⟨c,r,rfl,m,u⟩:=hv;unfold zA8 at hs;split at hs
  .rename_i heq;cases heq
  .rename_i n C heq;cases heq;obtain⟨t,A,rfl⟩:=YJ.1 hs;obtain⟨ns,rfl,rfl⟩:=zGy u A;exact⟨n::ns,by rw[show c=.int .u8 n from m];rfl,rfl⟩
  .cases hs
def zFi:∀(ns:V1) (s:ByteArray),ns.foldl (λr n=>r.push (UInt8.ofNat n.toNat)) s=⟨(s.data.toList++ns.map λn=>UInt8.ofNat n.toNat).toArray⟩
 |[],s=>by simp
 |n::ns,s=>by
  rw[List.foldl_cons,zFi ns];simp[ByteArray.push]
def zK6(m:MR B w0 j h w){src dst C:TypeId}(hs:P.underlying src=Ik (.slice C))(O:P.underlying C=Ik (.int .u8))(N:P.underlying dst=Ik .string){x:AV}{c:Value}(I:VI j x c){s:List UInt8}
  (H:((alen x).bind λn=>(Qx 1 h x n).bind zA8)=Ik s) {K:AV->dN->Prop} (R:K (.str s) h):Ends P (do pure (.value (<-convert src dst c))) w B w0 j h K:=by
 simp only[YX]at H;obtain⟨n,S,cs,u,G⟩:=H;obtain⟨o,cp,rfl,_⟩:=zAd I S;refine⟨.str s,h,j,.string ⟨s.toArray⟩,w,.inl ?_,FR.refl _ _,m,rfl,R⟩;have key:(Conv.bytesToString (.slice o n cp)).run P w=.ok (.string ⟨s.toArray⟩) w:=by
  by_cases E:n=0
  .subst E
   have:s=[]:=by
    unfold Qx at u;rw[Iu rfl]at u;cases u;cases G;rfl
   subst this;cases o with
   |none=>rfl
   |some a=>
    have D:(loadCells a 0).run P w=.ok (([]:V1).map (Value.int .u8)).toArray w:=by simp[loadCells,loadCellsFrom]
    rw[run_bytesToString (P:=P) w a 0 cp [] D];rfl
  .obtain⟨A,X,V,Y,U,hle,L,T,W,J⟩:=zA6 m I E u;cases U;obtain⟨ns,rfl,rfl⟩:=zGy L G;have D:(loadCells A n).run P w=.ok (ns.map (Value.int .u8)).toArray w:=by
    have:=run_loadCells_list (P:=P) w A (ns.map (Value.int .u8)) J
    rw[T,KE]at this;exact this
   rw[run_bytesToString (P:=P) w A n cp ns D,zFi];simp
 rw[Sem.run_bind,run_convert_bytes_string (P:=P) w src dst C o n cp hs O N,key];rfl
end
section
open Go.RowKit
variable{P:Program}{w0 w:World}{j:jv}{h:dN}{e:Env}{a:Act}
def Ends.wp{o:Oper}{K:AV->dN->Prop}{next:Act->World->Prop}{Q:Exit->Act->World->Prop}(I:Ends P (execOp a.eval o) w B w0 j h K)
  (G:∀v h' m A w',FR j h m h'->MR B w0 m h' w'->VI m v A->K v h'->next (a.put o.dst A) w'):o.wp P a w next Q:=by
 obtain⟨v,h',m,A,w',u,C,E,H,D⟩:=I;unfold Oper.wp;rcases u with u|⟨u,rfl⟩
 .rw[u];exact G v h' m A w' C E H D
 .rw[u];exact G v h' m undef w' C E H D
def zDS{f:FuncId}(m:okF P f=Im)(args:Array Value):(callFunc f args).run P w=.ok (.enter f args) w:=by
 unfold okF at m;split at m
 .rename_i u C;simp only[Yt,Ng]at m;have A:u.body.isNone=false:=by rw[Option.isNone_eq_false_iff];exact m.1
  simp only[callFunc,Sem.run_bind,run_program,Result.andThen_ok,C,m.2,A,JM,if_false,Sem.run_pure]
 .cases m
def zKy(m:MR B w0 j h w){o:Oper}{f:FuncId}{args:List AV}{cargs:Array Value}(L:(execOp a.eval o).run P w=.ok (.enter f cargs) w)(E:oy j args cargs.toList)
  {K:AV->dN->Prop} (C:ZH P f args h K) {next:Act->World->Prop} {Q:Exit->Act->World->Prop}
  (I:∀v h' u A w',FR j h u h'->MR B w0 u h' w'->VI u v A->K v h'->next (a.put o.dst A) w'):o.wp P a w next Q:=by
 unfold Oper.wp;rw[L];have D:=C B w0 j w cargs.toList m E;rw[Js]at D;refine D.mono ?_
 rintro N w' ⟨v,h',u,A,rfl,G,H,J,C⟩
 exact I v h' u A w' G H J C
def zMU(m:MR B w0 j h w)(r:ER nt j e a){o:Oper}{io:tT}(u:copE P o.op=Ik io){K:AV->dN->Prop}(A:eff P io e h K){next:Act->World->Prop}{Q:Exit->Act->World->Prop}
  (H:∀v h' T I w',FR j h T h'->MR B w0 T h' w'->VI T v I->K v h'->next (a.put o.dst I) w'):o.wp P a w next Q:=by
 obtain⟨dst,op,ty,pos,after,guard⟩:=o;cases op<;>simp only[copE]at u<;>(try (cases u;done))
 case alloc t=>
  simp only[YX,YJ]at u;obtain⟨z,⟨i,E,J⟩,zs,U,rfl⟩:=u;exact Ends.wp (o:=⟨dst,.alloc t,ty,pos,after,guard⟩) (zMX m E J U A) H
 case box t x=>
  simp only[YJ]at u;obtain⟨ix,hx,rfl⟩:=u;exact Ends.wp (o:=⟨dst,.box t x,ty,pos,after,guard⟩) (zP9 m (zM r hx) A.1 A.2) H
 case buildSlice t len ps=>
  split at u
  .rename_i et S;simp only[YX]at u;obtain⟨i,E,z,J,zs,U,qs,gK,u⟩:=u;split at u
   .rename_i D;cases u;obtain⟨cs,O,C⟩:=A;exact Ends.wp (o:=⟨dst,.buildSlice t len ps,ty,pos,after,guard⟩) (zI9 m r S E J U gK D.1 D.2.1 D.2.2 O C) H
   .cases u
  .cases u
 case store t x v=>
  simp only[YX]at u;obtain⟨i,E,ix,hx,iv,G,u⟩:=u;cases u;simp only[eff]at A;split at A
  .rename_i o k hp;have jD:=zM r hx;rw[hp]at jD;obtain⟨hl,h',hw,C⟩:=A;exact Ends.wp (o:=⟨dst,.store t x v,ty,pos,after,guard⟩) (zK7 m E jD (zM r G) hl hw C) H
  .exact A.elim
 case makeSlice t l c=>
  split at u
  .rename_i et S;simp only[YX]at u;obtain⟨i,E,z,J,zs,U,il,aK,ic,nW,u⟩:=u;split at u
   .rename_i D;cases u;simp only[eff]at A;split at A
    .rename_i kl l' kc c' L N;have V:=zM r aK;have W:=zM r nW;rw[L]at V;rw[N]at W;obtain⟨⟨b1,b2,b3,b4⟩,C⟩:=A
     have:=zJs (P:=P) (t:=t) m S E J U D.1 D.2 (kl:=kl) (kc:=kc) b1 b2 b3 b4 C
     rw[<-show a.eval l=Value.int kl l' from V,<-show a.eval c=Value.int kc c' from W]at this;exact Ends.wp (o:=⟨dst,.makeSlice t l c,ty,pos,after,guard⟩) this H
    .exact A.elim
   .cases u
  .cases u
 case call c=>
  obtain⟨callee,args,argTypes⟩:=c;simp only[zDs]at u;split at u<;>(try (cases u;done))
  .split at u<;>(try (cases u;done))
   .rename_i s x t t' X Z;split at u<;>(try (cases u;done))
    rename_i et S;split at u;rotate_left
    .split at u<;>(try (cases u;done))
     rename_i kn dE;have e1:args = #[s,x]:=by rw[<-Js (xs:=args),X]
     have e2:argTypes = #[t,t']:=by rw[<-Js (xs:=argTypes),Z]
     clear X Z;subst e1;subst e2;simp only[YX]at u;obtain⟨i,E,z,J,zs,U,is,AU,ix,wM,u⟩:=u;split at u
     .rename_i D;cases u;simp only[eff]at A;split at A
      .rename_i k n L N;have V:=zM r AU;have W:=zM r wM;rw[L]at V;rw[N]at W;obtain⟨⟨b1,b2,b3⟩,C⟩:=A;obtain⟨v,h',G,C⟩:∃v h',(if 0<n then u9 i.size i.bytes h .cU (jE zs n.toNat) n.toNat else(Ek .cU).map λv=>(v,h))=Ik (v,h')/\K v h':=by
        by_cases b0:0<n
        .rw[Iu b0]at C ⊢;have bb:n.toNat*i.bytes<=140737488355328:=by
          have e:((n.toNat*i.bytes:Nat):Int)=n*i.bytes:=by rw[Uw,Yi b1]
          omega
         exact⟨_,_,by simp only[u9];rw[Iu ⟨bb,aH⟩],C⟩
        .rw[Iv b0]at C ⊢;exact⟨_,_,rfl,C⟩
       obtain⟨T,I,w',R,O,Y,pk⟩:=zCe (P:=P) (ty:=ty) m S dE E J U D.1 D.2 (k:=k) b1 b2 b3 V G;rw[<-show a.eval x=Value.int k n from W]at R;refine Ends.wp ⟨_,_,T,I,w',.inl ?_,O,Y,pk,C⟩ H;simp[execOp,resolve,invoke,builtin,R]
      .rename_i o off len c k n L N;have V:=zM r AU;have W:=zM r wM;rw[L]at V;rw[N]at W;obtain⟨⟨b1,b2,b3⟩,p,G,C⟩:=A;obtain⟨T,I,w',R,O,Y,pk⟩:=zCe (P:=P) (ty:=ty) m S dE E J U D.1 D.2 (k:=k) b1 b2 b3 V G;rw[<-show a.eval x=Value.int k n from W]at R;refine Ends.wp ⟨_,_,T,I,w',.inl ?_,O,Y,pk,C⟩ H;simp[execOp,resolve,invoke,builtin,R]
      .exact A.elim
     .cases u
    rename_i F8;subst F8;have e1:args = #[s,x]:=by rw[<-Js (xs:=args),X]
    have e2:argTypes = #[t,t]:=by rw[<-Js (xs:=argTypes),Z]
    clear X Z;subst e1;subst e2;simp only[YX]at u;obtain⟨i,E,z,J,is,AU,ix,wM,u⟩:=u;split at u
    .rename_i D;cases u;obtain⟨⟨v,h'⟩,G,C⟩:=A;obtain⟨T,I,w',R,O,Y,pk⟩:=zJG (P:=P) (ty:=ty) m S E J D.1 D.2 (zM r AU) (zM r wM) G;refine Ends.wp ⟨v,h',T,I,w',.inl ?_,O,Y,pk,C⟩ H;simp[execOp,resolve,invoke,builtin,R]
    .cases u
   .rename_i d s t t' X Z;split at u<;>(try (cases u;done))
    rename_i et S;have e1:args = #[d,s]:=by rw[<-Js (xs:=args),X]
    have e2:argTypes = #[t,t']:=by rw[<-Js (xs:=argTypes),Z]
    clear X Z;subst e1;subst e2;simp only[YX]at u;obtain⟨i,E,id,hid,is,AU,u⟩:=u;cases u;obtain⟨⟨v,h'⟩,G,C⟩:=A;obtain⟨I,w',R,O,Y,pk⟩:=zMR (P:=P) (ty:=ty) (t':=t') m S E (zM r hid) (zM r AU) G;refine Ends.wp ⟨v,h',j,I,w',.inl ?_,O,Y,pk,C⟩ H;simp[execOp,resolve,invoke,builtin,R]
  .rename_i f;split at u
   .rename_i dJ;simp only[YJ]at u;obtain⟨ixs,mO,rfl⟩:=u;have Kk:ZH P f (ixs.map (·.ev e)) h K:=A;refine zKy (o:=⟨dst,.call ⟨.value (.func f),args,argTypes⟩,ty,pos,after,guard⟩) m (cargs:=args.map a.eval) (args:=ixs.map (·.ev e)) ?_ (by simpa using zAN r mO) Kk H;simp[execOp,resolve,Act.eval,Deferred.ofValue,invoke,zDS dJ]
   .cases u
  .rename_i t;simp only[YJ]at u;obtain⟨ixs,mO,rfl⟩:=u;simp only[eff]at A;split at A
   .rename_i f first dw N9
    have G:=r.vals t;rw[show e t=_ from N9]at G;obtain⟨vs,us,L,N,h3⟩:=G;refine zKy (o:=⟨dst,.call ⟨.value (.tmp t),args,argTypes⟩,ty,pos,after,guard⟩) m (cargs:=vs.toArray++args.map a.eval++us.toArray) ?_ (by simpa using (L.append (zAN r mO)).append N) A.2 H;have tv:a.eval (.tmp t)=.func (.func f) vs.toArray us.toArray:=h3;simp[execOp,resolve,tv,Deferred.ofValue,invoke,zDS A.1]
   .exact A.elim
 case convert src dt x=>
  split at u<;>(try (cases u;done))
  rename_i et L N;split at u<;>(try (cases u;done))
  rename_i h3;simp only[YJ]at u;obtain⟨ix,hx,rfl⟩:=u;obtain⟨s,G,C⟩:=A;exact Ends.wp (o:=⟨dst,.convert src _ x,ty,pos,after,guard⟩) (zK6 m L h3 N (zM r hx) G C) H
end
section
open Go.RowKit
structure II where
 dst:Option Nat
 op:tT
 q:Bool
 guard:Option (Nat×Bool)
def Qv(ops:Array Oper):Option (Nat×Bool)->Option (Option (Nat×Bool))
 |none=>Ik none
 |some (k,b)=>((ops[k]?).bind (·.dst)).map λt=>Ik (t,b)
def dstOk(nt:Nat):Option Nat->Bool
 |some d=>decide (d<nt)
 |none=>Im
def vd(P:Program)(nt:Nat)(ops:Array Oper)(o:Oper):Option II:=
 (Qv ops o.guard).bind λg=>if dstOk nt o.dst=Im then
  match copQ P o.op with
  |some m=>Ik ⟨o.dst,m,Im,g⟩
  |none=>(copE P o.op).map λm=>⟨o.dst,m,false,g⟩
 else none
def gq(nb:Nat)(it:II)(e:Env)(h:dN):Option AV:=
 match it.guard with
 |none=>qv nb it.op e h
 |some (t,b)=>match e t with
  | .bool c=>if c=b then qv nb it.op e h else Ik (.tup [])
  | .tup []=>Ik (.tup [])
  |_=>none
def ge(P:Program)(it:II)(e:Env)(h:dN)(K:AV->dN->Prop):Prop:=
 match it.guard with
 |none=>eff P it.op e h K
 |some (t,b)=>match e t with
  | .bool c=>if c=b then eff P it.op e h K else K (.tup []) h
  | .tup []=>K (.tup []) h
  |_=>False
def RV(P:Program):List II->Env->dN->(Env->dN->Prop)->Prop
 |[],e,h,K=>K e h
 |it::r,e,h,K=>match it.q with
  |true=>iU (gq 0 it e h) λv=>RV P r (e.put it.dst v) h K
  |false=>ge P it e h λv h'=>RV P r (e.put it.dst v) h' K
variable{P:Program}{B:Nat}{w0 w:World}{j:jv}{h:dN}{nt:Nat}{e:Env}{a:Act}{ops:Array Oper}{Q:Exit->Act->World->Prop}
def zK3(r:ER nt j e a){k t:Nat}{c:Bool}(A:(ops[k]?).bind (·.dst)=Ik t)(C:e t=.bool c):yielded ops a.tmps k=Ik c:=by
 have u:=r.vals t;rw[C]at u;have m:a.tmps.getD t undef=.bool c:=u;unfold yielded;rw[A];rw[IS]at m;cases hh:a.tmps[t]? with
 |none=>rw[hh]at m;cases m
 |some x=>rw[hh]at m;simp at m;subst m;simp[hh]
def zAf:VI j (.tup []) undef:=⟨[],rfl,rfl⟩
def zHN(r:ER nt j e a){k t:Nat}(A:(ops[k]?).bind (·.dst)=Ik t)(C:e t=.tup []):yielded ops a.tmps k=none:=by
 have m:=r.vals t;rw[C]at m;obtain⟨vs,u,m⟩:=m;cases u;unfold yielded;rw[A];rw[IS]at m;cases hh:a.tmps[t]? with
 |none=>simp[hh]
 |some x=>rw[hh]at m;simp at m;subst m;simp[hh]
def zBe{o:Oper}{it:II}(m:vd P nt ops o=Ik it):
  it.dst=o.dst/\(∀d,it.dst=Ik d->d<nt)/\Qv ops o.guard=Ik it.guard/\(it.q=Im/\copQ P o.op=Ik it.op\/it.q=false/\copE P o.op=Ik it.op):=by
 simp only[vd,YX]at m;obtain⟨g,C,m⟩:=m;split at m
 .rename_i A;have u:∀d,o.dst=Ik d->d<nt:=by
   intro d u;rw[u]at A;simpa [dstOk]using A
  split at m
  .rename_i G E;cases m;exact⟨rfl,u,C,.inl ⟨rfl,E⟩⟩
  .simp only[YJ]at m;obtain⟨G,D,rfl⟩:=m;exact⟨rfl,u,C,.inr ⟨rfl,D⟩⟩
 .cases m
def zCl(r:ER nt j e a){o:Oper}{g:Option (Nat×Bool)}(m:Qv ops o.guard=Ik g):
  (g=none->Region.wanted o (yielded ops a.tmps)=Im)/\(∀t b c,g=Ik (t,b)->e t=.bool c->Region.wanted o (yielded ops a.tmps)=decide (c=b))/\∀t b,g=Ik (t,b)->e t=.tup []->Region.wanted o (yielded ops a.tmps)=false:=by
 cases ho:o.guard with
 |none=>
  rw[ho]at m;cases m;exact⟨λ_=>by simp[Region.wanted,ho],λt b c x=>(by cases x),λt b x=>by cases x⟩
 |some kb=>
  obtain⟨k,b⟩:=kb;rw[ho]at m;simp only[Qv,YJ]at m;obtain⟨t,A,rfl⟩:=m;refine⟨λx=>by(cases x),λt' b' c x u=>?_,λt' b' x u=>?_⟩
  .cases x;simp only[Region.wanted,ho,zK3 r A u];cases c<;>cases b<;>rfl
  .cases x;simp only[Region.wanted,ho,zHN r A u];rfl
def Ea(m:MR B w0 j h w)(r:ER nt j e a){i:Nat}{o:Oper}{it:II}(G:ops[i]? = Ik o)(A:vd P nt ops o=Ik it)(S:it.q=Im){nb:Nat}{v:AV}(u:gq nb it e h=Ik v)
  {next:Act->World->Prop} (H:∀a',ER nt j (e.put it.dst v) a'->next a' w):wpOp P ops Q i next a w:=by
 obtain⟨E,D,R,L⟩:=zBe A;have K:copQ P o.op=Ik it.op:=by
  rcases L with x|x
  .exact x.2
  .rw[S]at x;cases x.1
 obtain⟨w1,w2,T⟩:=zCl r R;have run:qv nb it.op e h=Ik v->Region.wanted o (yielded ops a.tmps)=Im->wpOp P ops Q i next a w:=by
  intro u C;obtain⟨U,N,O⟩:=zMT m r K u;unfold wpOp;simp only[G,C,if_true];refine .inl ?_;unfold Oper.wp;rw[N];exact H _ (by rw[<-E];exact r.put D O)
 unfold gq at u;split at u
 .exact run u (w1 (by assumption))
 .rename_i t b J;split at u
  .rename_i c A;have C:=w2 t b c J A;split at u
   .rename_i I;exact run u (by rw[C];simpa using I)
   .rename_i I;cases u;unfold wpOp
    have:Region.wanted o (yielded ops a.tmps)=false:=by rw[C];simpa using I
    simp only[G,this,JM,if_false];exact H _ (by rw[<-E];exact r.put D zAf)
  .rename_i A;cases u;unfold wpOp;simp only[G,T t b J A,JM,if_false];exact H _ (by rw[<-E];exact r.put D zAf)
  .cases u
def zEu(m:MR B w0 j h w)(r:ER nt j e a){i:Nat}{o:Oper}{it:II}(H:ops[i]? = Ik o)(A:vd P nt ops o=Ik it)(U:it.q=false){K:AV->dN->Prop}(u:ge P it e h K)
  {next:Act->World->Prop} (I:∀v h' C a' w',FR j h C h'->MR B w0 C h' w'->ER nt C (e.put it.dst v) a'->K v h'->next a' w'):wpOp P ops Q i next a w:=by
 obtain⟨G,E,S,R⟩:=zBe A;have O:copE P o.op=Ik it.op:=by
  rcases R with x|x
  .rw[U]at x;cases x.1
  .exact x.2
 obtain⟨w1,w2,W⟩:=zCl r S;have run:eff P it.op e h K->Region.wanted o (yielded ops a.tmps)=Im->wpOp P ops Q i next a w:=by
  intro u D;unfold wpOp;simp only[H,D,if_true];refine .inl (zMU m r O u ?_);intro v h' C X w' L T V u;exact I v h' C _ w' L T (by rw[<-G];exact(r.mono (L.le m)).put E V) u
 unfold ge at u;split at u
 .exact run u (w1 (by assumption))
 .rename_i t b N;split at u
  .rename_i c A;have D:=w2 t b c N A;split at u
   .rename_i J;exact run u (by rw[D];simpa using J)
   .rename_i J;unfold wpOp
    have:Region.wanted o (yielded ops a.tmps)=false:=by rw[D];simpa using J
    simp only[H,this,JM,if_false];exact I (.tup []) h j _ w (FR.refl _ _) m (by rw[<-G];exact r.put E zAf) u
  .rename_i A;unfold wpOp;simp only[H,W t b N A,JM,if_false];exact I (.tup []) h j _ w (FR.refl _ _) m (by rw[<-G];exact r.put E zAf) u
  .exact u.elim
def zFu(P:Program)(nt:Nat)(ops:Array Oper):List Oper->Option (List II)
 |[]=>Ik []
 |o::r=>(vd P nt ops o).bind λa=>(zFu P nt ops r).bind λb=>Ik (a::b)
def zEx:∀(os:List Oper) (C:List II) (k:Nat),zFu P nt ops os=Ik C->ops.toList.drop k=os->∀{j:jv} {h:dN} {w:World} {e:Env} {a:Act} {K:Env->dN->Prop},
  MR B w0 j h w->ER nt j e a->RV P C e h K->
  (∀D h' e' a' w',FR j h D h'->MR B w0 D h' w'->ER nt D e' a'->K e' h'->Q .normal a' w')->wpOps P ops Q (List.range' k (ops.size-k)) a w
 |[],C,k,A,hd,j,h,w,e,a,K,m,r,u,hn=>by
  cases A
  have:ops.size-k=0:=by
   have:=congrArg Nh hd
   simpa using this
  rw[this];exact hn j h e a w (FR.refl _ _) m r u
 |o::os,C,k,A,hd,j,h,w,e,a,K,m,r,u,hn=>by
  simp only[zFu,YX]at A;obtain⟨it,hit,L,J,A⟩:=A;cases A;have Z:k<ops.size:=by
   have:=congrArg Nh hd
   simp at this;omega
  have H:ops[k]? = Ik o:=by
   have:ops.toList[k]? = Ik o:=by
    have:=congrArg List.head? hd
    rwa[List.head?_drop]at this
   simpa using this
  have I:ops.toList.drop (k+1)=os:=by
   have:=congrArg List.tail hd
   simpa [List.tail_drop]using this
  have G:ops.size-k=(ops.size-(k+1))+1:=aH
  rw[G,List.range'_succ,wpOps_cons];unfold RV at u;split at u
  .rename_i E;obtain⟨v,U,u⟩:=u;exact Ea m r H hit E U λa' X=>zEx os L (k+1) J I m X u hn
  .rename_i E;refine zEu m r H hit E u ?_;intro v h' D a' w' S T G u;exact zEx os L (k+1) J I T G u λW O V Y N R=>hn W O V Y N (S.trans R)
end
section
open Go.RowKit
structure DI extends II where
 idx:Nat
 chk:List Nat
structure Rec where
 idx:Nat
 agg:Bool
 n:Nat
 x:AV
 v:AV
def ZI(g:Option (Nat×Bool))(e:Env):Bool:=
 match g with
 |none=>Im
 |some (t,b)=>match e t with
  | .bool c=>decide (c=b)
  |_=>false
def xn(it:DI)(e:Env)(v:AV):List Rec:=
 match it.op with
 | .load agg n x=>if ZI it.guard e=Im then [⟨it.idx,agg,n,x.ev e,v⟩]else []
 |_=>[]
def sN(chk:List Nat):List Rec->dN->Prop
 |[],_=>True
 |r::rs,h=>(if chk.contains r.idx=Im then GZ r.agg r.n r.x h=Ik r.v else True)/\sN chk rs h
def DV(P:Program)(nb:Nat):List DI->List Rec->Env->dN->(Env->dN->Prop)->Prop
 |[],_,e,h,K=>K e h
 |it::r,recs,e,h,K=>match it.q with
  |true=>iU (gq nb it.toII e h) λv=>DV P nb r (xn it e v++recs) (e.put it.dst v) h K
  |false=>ge P it.toII e h λv h'=>sN it.chk recs h'/\DV P nb r recs (e.put it.dst v) h' K
def IX.rd:IX->List Nat
 | .t n=>[n]
 | .c _=>[]
def ixos(x:Option IX):List Nat:=match x with|some x=>x.rd|none=>[]
def ixs(l:List IX):List Nat:=l.flatMap IX.rd
def ixps(l:List (Nat×Nat×IX)):List Nat:=l.flatMap λp=>p.2.2.rd
def tT.reads:tT->List Nat
 | .mv x | .un _ x | .errB _ x | .conv _ x | .nilCheck x | .field _ _ _ x | .fieldAddr _ x | .extract x _ | .len x | .lenStr x | .cap x | .load _ _ x | .box x | .strOf x=>x.rd
 | .pick c a b=>c.rd++a.rd++b.rd
 | .bin _ _ x y | .indexAddr _ x y | .indexStr x y | .maxmin _ x y | .store _ x y | .makeSl _ _ _ x y | .appendMk _ _ _ x y | .append _ _ x y | .copy _ x y=>x.rd++y.rd
 | .build _ ps | .buildSl _ _ _ ps=>ixps ps
 | .slice _ x lo hi mx=>x.rd++ixos lo++ixos hi++ixos mx
 | .sliceStr x lo hi=>x.rd++ixos lo++ixos hi
 | .makeFunc _ a b=>ixs a++ixs b
 | .call _ a=>ixs a
 | .callV f a=>f.rd++ixs a
 | .rev _ | .revS _ _ | .alloc _=>[]
def II.reads(it:II):List Nat:=it.op.reads++(match it.guard with|some (t,_)=>[t] |none=>[])
variable{P:Program}{h h':dN}{nb:Nat}{e e':Env}{a:Act}
def IX.ev_congr{x:IX}(m:∀t∈x.rd,e t=e' t):x.ev e=x.ev e':=by
 cases x with
 |t n=>exact m n (by simp[IX.rd])
 |c v=>rfl
def Qt{x:Option IX}(m:∀t∈ixos x,e t=e' t):x.map (·.ev e)=x.map (·.ev e'):=by
 cases x with
 |none=>rfl
 |some x=>simp[IX.ev_congr (x:=x) m]
def zBN{l:List IX}(m:∀t∈ixs l,e t=e' t):l.map (·.ev e)=l.map (·.ev e'):=by
 apply JI;intro x A;exact IX.ev_congr λt u=>m t (UY.2 ⟨x,A,u⟩)
def zFe{l:List (Nat×Nat×IX)}(m:∀t∈ixps l,e t=e' t):(l.map λp=>(p.1,p.2.1,p.2.2.ev e))=l.map λp=>(p.1,p.2.1,p.2.2.ev e'):=by
 apply JI;intro x A;rw[IX.ev_congr λt u=>m t (UY.2 ⟨x,A,u⟩)]
def zOt{op:tT}(u:∀t∈op.reads,e t=e' t):qv nb op e h=qv nb op e' h:=by
 cases op<;>simp only[tT.reads,YZ,or_imp,forall_and]at u<;>simp only[qv]
 case mv x=>rw[IX.ev_congr u]
 case pick c a b=>rw[IX.ev_congr u.1.1,IX.ev_congr u.1.2,IX.ev_congr u.2]
 case bin o k x y=>rw[IX.ev_congr u.1,IX.ev_congr u.2]
 case un o x=>rw[IX.ev_congr u]
 case errB o x=>rw[IX.ev_congr u]
 case conv k x=>rw[IX.ev_congr u]
 case nilCheck x=>rw[IX.ev_congr u]
 case build z ps=>rw[zFe u]
 case field a n o x=>rw[IX.ev_congr u]
 case fieldAddr o x=>rw[IX.ev_congr u]
 case indexAddr s x y=>rw[IX.ev_congr u.1,IX.ev_congr u.2]
 case indexStr x y=>rw[IX.ev_congr u.1,IX.ev_congr u.2]
 case extract x i=>rw[IX.ev_congr u]
 case len x=>rw[IX.ev_congr u]
 case lenStr x=>rw[IX.ev_congr u]
 case cap x=>rw[IX.ev_congr u]
 case slice s x lo hi mx=>rw[IX.ev_congr u.1.1.1,Qt u.1.1.2,Qt u.1.2,Qt u.2]
 case sliceStr x lo hi=>rw[IX.ev_congr u.1.1,Qt u.1.2,Qt u.2]
 case maxmin m x y=>rw[IX.ev_congr u.1,IX.ev_congr u.2]
 case makeFunc f a b=>rw[zBN u.1,zBN u.2]
 case load a n x=>rw[IX.ev_congr u]
def zOP{op:tT}(m:∀t∈op.reads,e t=e' t){K:AV->dN->Prop}(u:eff P op e h K):eff P op e' h K:=by
 cases op<;>simp only[tT.reads,YZ,or_imp,forall_and]at m<;>simp only[eff]at u ⊢<;>(try exact u)
 case box x=>rw[<-IX.ev_congr m];exact u
 case buildSl a b c ps=>rw[<-zFe m];exact u
 case store n x v=>rw[<-IX.ev_congr m.1,<-IX.ev_congr m.2];exact u
 case makeSl a b z l c=>rw[<-IX.ev_congr m.1,<-IX.ev_congr m.2];exact u
 case appendMk a b z l c=>rw[<-IX.ev_congr m.1,<-IX.ev_congr m.2];exact u
 case append a b s x=>rw[<-IX.ev_congr m.1,<-IX.ev_congr m.2];exact u
 case copy a d s=>rw[<-IX.ev_congr m.1,<-IX.ev_congr m.2];exact u
 case call f a=>rw[<-zBN m];exact u
 case callV f a=>rw[<-IX.ev_congr m.1,<-zBN m.2];exact u
 case strOf x=>rw[<-IX.ev_congr m];exact u
def zIy{op:tT}{K K':AV->dN->Prop}(A:∀v h',K v h'->K' v h')(m:eff P op e h K):eff P op e h K':=by
 cases op<;>simp only[eff]at m ⊢
 case alloc z=>exact A _ _ m
 case box x=>exact⟨m.1,A _ _ m.2⟩
 case buildSl a b c ps=>obtain⟨x,y,z⟩:=m;exact⟨x,y,A _ _ z⟩
 case store n x v=>
  split at m
  .obtain⟨x,y,z,u⟩:=m;exact⟨x,y,z,A _ _ u⟩
  .exact m
 case makeSl a b z l c=>
  grind
 case appendMk a b z l c=>
  split at m
  .grind
  .obtain⟨x,y,z,u⟩:=m;exact⟨x,y,z,A _ _ u⟩
  .exact m
 case append a b s x=>obtain⟨x,y,z⟩:=m;exact⟨x,y,A _ _ z⟩
 case copy a d s=>obtain⟨x,y,z⟩:=m;exact⟨x,y,A _ _ z⟩
 case call f a=>exact m.mono A
 case callV f a=>
  split at m
  .exact⟨m.1,m.2.mono A⟩
  .exact m
 case strOf x=>obtain⟨s,hs,m⟩:=m;exact⟨s,hs,A _ _ m⟩
def II.reads_op{it:II}{t:Nat}(m:t∈it.op.reads):t∈it.reads:=Ni _ m
def II.reads_guard{it:II}{t:Nat}{b:Bool}(m:it.guard=Ik (t,b)):t∈it.reads:=by simp[II.reads,m]
def Q5{it:II}(u:∀t∈it.reads,e t=e' t):gq nb it e h=gq nb it e' h:=by
 have m:=zOt (nb:=nb) (h:=h) (op:=it.op) λt C=>u t (II.reads_op C);unfold gq;split
 .exact m
 .rename_i t b A;rw[u t (II.reads_guard A)];simp only[m]
def zIk{it:II}(D:∀t∈it.reads,e t=e' t){K:AV->dN->Prop}(m:ge P it e h K):ge P it e' h K:=by
 have C:eff P it.op e h K->eff P it.op e' h K:=zOP λt E=>D t (II.reads_op E);unfold ge at m ⊢;split
 .rename_i u;rw[u]at m;exact C m
 .rename_i t b u;rw[u]at m;rw[<-D t (II.reads_guard u)];simp only at m;split at m
  .split at m
   .rename_i A;rw[Iu A];exact C m
   .rename_i A;rw[Iv A];exact m
  .exact m
  .exact m.elim
def Q6{it:II}{K K':AV->dN->Prop}(u:∀v h',K v h'->K' v h')(m:ge P it e h K):ge P it e h K':=by
 unfold ge at m ⊢;split
 .rename_i A;rw[A]at m;exact zIy u m
 .rename_i t b A;rw[A]at m;simp only at m;split at m
  .split at m
   .rename_i C;rw[Iu C];exact zIy u m
   .rename_i C;rw[Iv C];exact u _ _ m
  .exact u _ _ m
  .exact m.elim
def Zm{it:II}(m:∀t∈it.reads,e t=e' t):ZI it.guard e=ZI it.guard e':=by
 unfold ZI;split
 .rfl
 .rename_i t b u;rw[m t (II.reads_guard u)]
def Zq{it:DI}(m:∀t∈it.reads,e t=e' t)(v:AV):xn it e v=xn it e' v:=by
 unfold xn;split
 .rename_i agg n x u;rw[Zm m,IX.ev_congr (x:=x) (e:=e) (e':=e') λt A=>m t (II.reads_op (by rw[u];exact A))]
 .rfl
def tT.isLoad:tT->Bool
 | .load _ _ _=>Im
 |_=>false
def zKT{op:tT}(m:op.isLoad=false):qv nb op e h=qv nb op e h':=by
 cases op<;>first|rfl|(simp[tT.isLoad]at m)
def zAR{chk:List Nat}:∀{recs:List Rec},sN chk recs h↔∀r∈recs,chk.contains r.idx=Im->GZ r.agg r.n r.x h=Ik r.v
 |[]=>by simp[sN]
 |r::rs=>by
  simp only[sN,zAR (recs:=rs),Yq,forall_eq_or_imp];simp_all
def sN.sub{chk:List Nat}{recs m:List Rec}(hs:∀r∈m,r∈recs)(u:sN chk recs h):sN chk m h:=
 zAR.2 λr A=>zAR.1 u r (hs r A)
def DV.sub:∀(l:List DI) {recs u:List Rec} {e:Env} {h:dN} {K:Env->dN->Prop},(∀r∈u,r∈recs)->DV P nb l recs e h K->DV P nb l u e h K
 |[],_,_,_,_,_,_,m=>m
 |it::r,recs,u,e,h,K,hs,m=>by
  unfold DV at m ⊢;split
  .rename_i A;rw[A]at m;obtain⟨v,D,m⟩:=m;refine⟨v,D,DV.sub r (λx C=>?_) m⟩;simp only[YZ]at C ⊢;exact C.imp id (hs x)
  .rename_i A;rw[A]at m;exact Q6 (λv h' m=>⟨m.1.sub hs,DV.sub r hs m.2⟩) m
def apart(q p:II):Bool:=
 (match q.dst with|some d=>!p.reads.contains d && p.dst != Ik d|none=>Im) && (match p.dst with|some d=>!q.reads.contains d|none=>Im)
def xy{q p:II}(D:apart q p=Im):(∀(e:Env) v,∀t∈p.reads,(e.put q.dst v) t=e t)/\(∀(e:Env) v,∀t∈q.reads,(e.put p.dst v) t=e t)/\
  ∀(e:Env) u v,(e.put q.dst u).put p.dst v=(e.put p.dst v).put q.dst u:=by
 unfold apart at D;simp only[Yt]at D;obtain⟨m,A⟩:=D;refine⟨λe v t C=>?_,λe v t C=>?_,λe u v=>?_⟩
 .cases hq:q.dst with
  |none=>rfl
  |some d=>
   rw[hq]at m;simp at m;simp only[Env.put];rw[Iv (λ(x:t=d)=>m.1 (x ▸ C))]
 .cases hp:p.dst with
  |none=>rfl
  |some d=>
   rw[hp]at A;simp at A;simp only[Env.put];rw[Iv (λ(x:t=d)=>A (x ▸ C))]
 .cases hq:q.dst with
  |none=>cases p.dst<;>rfl
  |some d=>
   cases hp:p.dst with
   |none=>rfl
   |some d'=>
    rw[hq,hp]at m;simp at m;have E:d'≠d:=m.2;funext t;simp only[Env.put];by_cases x:t=d'
    .subst x;simp[E]
    .simp[x]
def zEK{p:DI}{G:List DI}(C:p.q=Im):∀(u:List DI) {recs:List Rec} {e:Env} {h:dN} {K:Env->dN->Prop},(∀q∈u,q.q=Im/\apart q.toII p.toII=Im)->
  DV P nb (u++p::G) recs e h K->∃v,gq nb p.toII e h=Ik v/\DV P nb (u++G) (xn p e v++recs) (e.put p.dst v) h K
 |[],recs,e,h,K,_,m=>by
  simp only[Yn,DV,C]at m;exact m
 |q::u,recs,e,h,K,ha,m=>by
  obtain⟨D,J⟩:=ha q bj;obtain⟨s1,H,L⟩:=xy J;simp only[Yy,DV,D]at m;obtain⟨A,N,m⟩:=m;obtain⟨v,E,m⟩:=zEK C u (λx I=>ha x (by simp[I])) m;rw[Q5 (s1 e A)]at E;refine⟨v,E,?_⟩;simp only[Yy,DV,D];refine⟨A,by rw[Q5 (H e v)];exact N,?_⟩;rw[Zq (s1 e A)]at m;dsimp only;rw[Zq (H e v),<-L];refine DV.sub _ (λr hr=>?_) m;simp only[YZ]at hr ⊢;rcases hr with hr|hr|hr
  .exact .inr (.inl hr)
  .exact .inl hr
  .exact .inr (.inr hr)
def zGu{p:DI}{L:List DI}(I:p.q=false):∀(C:List DI) {recs:List Rec} {e:Env} {h:dN} {K:Env->dN->Prop},
  (∀q∈C,q.q=Im/\apart q.toII p.toII=Im/\(q.op.isLoad=Im->p.chk.contains q.idx=Im))->
  DV P nb (C++p::L) recs e h K->ge P p.toII e h λv h'=>sN p.chk recs h'/\DV P nb (C++L) recs (e.put p.dst v) h' K
 |[],recs,e,h,K,_,m=>by
  simp only[Yn,DV,I]at m;exact m
 |q::C,recs,e,h,K,ha,m=>by
  obtain⟨J,T,U⟩:=ha q bj;obtain⟨s1,D,V⟩:=xy T;simp only[Yy,DV,J]at m;obtain⟨G,W,m⟩:=m
  have:=zGu I C (λx S=>ha x (by simp[S])) m
  refine Q6 (λv h' m=>?_) (zIk (s1 e G) this);obtain⟨N,m⟩:=m;refine⟨N.sub λr E=>Nj _ E,?_⟩;simp only[Yy,DV,J];refine⟨G,?_,?_⟩
  .have h1:gq nb q.toII (e.put p.dst v) h=Ik G:=by rw[Q5 (D e v)];exact W
   rw[<-h1];cases hl:q.op.isLoad with
   |false=>
    unfold gq;simp only[zKT (nb:=nb) (e:=e.put p.dst v) (h:=h') (h':=h) hl]
   |true=>
    cases bU:q.op with
    |load agg n x=>
     have H:x.ev (e.put p.dst v)=x.ev e:=IX.ev_congr λt R=>D e v t (II.reads_op (by rw[bU];exact R));cases hw:ZI q.guard e with
     |true=>
      have E:=zAR.1 N ⟨q.idx,agg,n,x.ev e,G⟩ (by simp[xn,bU,hw]) (U hl);rw[h1];unfold gq;rw[<-Zm (e:=e.put p.dst v) (D e v)]at hw;unfold ZI at hw;split
      .show qv nb q.op _ _=_;rw[bU];simp only[qv,H];exact E
      .rename_i t b A;rw[A]at hw;simp only at hw;split at hw
       .rename_i c u;rw[u];simp only;rw[Iu (by simpa using hw)];show qv nb q.op _ _=_;rw[bU];simp only[qv,H];exact E
       .cases hw
     |false=>
      rw[<-Zm (e:=e.put p.dst v) (D e v)]at hw;unfold gq;unfold ZI at hw;split
      .rename_i A;rw[A]at hw;cases hw
      .rename_i t b A;rw[A]at hw;simp only at hw;split at hw
       .rename_i c u;rw[u];simp only;rw[Iv (by simpa using hw),Iv (by simpa using hw)]
       .rename_i O;split
        .rename_i c u;exact absurd u (O c)
        .rfl
        .rfl
    |_=>rw[bU]at hl;cases hl
  .dsimp only;rw[Zq (D e v),<-V];exact m
end
section
open Go.RowKit
def qK(o:Oper):List Nat:=(o.after.toList.filter λx=>Region.binds .any x).map (·.on)
def tT.revK:tT->Option Nat
 | .rev k=>Ik k
 | .revS k _=>Ik k
 |_=>none
def cNew(P:Program)(al:Bool)(o:Oper):Option (Nat×List AV):=
 match al,o.op with
 |true,.buildSlice t len ps=>match P.underlying t with
  |some (.slice et)=>(P.info? et).bind λi=>i.zero.bind λz=>(qE z.cells.toList).bind λzs=>(Qw i.size ps.toList).bind λm=>
   if m.all (λp=>p.2.2.rd.isEmpty)=Im/\Tw zs=i.size/\i.size≠0/\len*i.size<=16777216 then(xK (jE zs len) (m.map λp=>(p.1,p.2.1,p.2.2.ev (λ_=>.undef)))).map λcs=>(len,cs)else none
  |_=>none
 |_,_=>none
def cDI(P:Program)(nt:Nat)(ops:Array Oper)(pt:List (List Nat))(al:Bool)(before:List DI)(k i:Nat):Option (DI×Option (List AV)):=
 (ops[i]?).bind λo=>match cNew P al o with
  |some (len,zs)=>(Qv ops o.guard).bind λg=>if dstOk nt o.dst=Im then Ik (⟨⟨o.dst,.revS k len,Im,g⟩,i,[]⟩,Ik zs)else none
  |none=>match o.op with
  | .alloc t=>(Qv ops o.guard).bind λg=>if dstOk nt o.dst=Im then((P.info? t).bind (·.zero)).bind λz=>(qE z.cells.toList).map λzs=>(⟨⟨o.dst,.rev k,Im,g⟩,i,[]⟩,Ik zs)else none
  |_=>(vd P nt ops o).map λit=>(⟨it,i,if it.q=Im then []else(before.filter λq=>q.op.isLoad && !(pt.getD i []).contains q.idx).map (·.idx)⟩,none)
def cDIs(P:Program)(nt:Nat)(ops:Array Oper)(pt:List (List Nat))(al:Bool):List Nat->List DI->Nat->Option (List DI×List (List AV))
 |[],_,_=>Ik ([],[])
 |i::r,before,k=>(cDI P nt ops pt al before k i).bind λx=>match x.2 with
  |none=>(cDIs P nt ops pt al r (before++[x.1]) k).map λy=>(x.1::y.1,y.2)
  |some z=>(cDIs P nt ops pt al r (before++[x.1]) (k+1)).map λy=>(x.1::y.1,z::y.2)
def zAE(pt:List (List Nat))(q p:DI):Bool:=
 (pt.getD p.idx []).contains q.idx || (apart q.toII p.toII && q.q && (p.q || !q.op.isLoad || p.chk.contains q.idx))
def pairs(f:DI->DI->Bool):List DI->Bool
 |[]=>Im
 |q::r=>r.all (f q) && pairs f r
def F6(ops:Array Oper)(pt:List (List Nat)):Bool:=
 (Iw ops.size).all λi=>match ops[i]? with
  |some o=>!(pt.getD i []).contains i && (qK o).all (λd=>decide (d<ops.size) && (pt.getD i []).contains d) && (pt.getD i []).all λx=>(qK o).any λd=>d == x || (pt.getD d []).contains x
  |none=>Im
def dOk(ops:Array Oper)(pt:List (List Nat))(order:List Nat)(m:List DI):Bool:=
 F6 ops pt && (m.map (·.idx) == order) && decide order.Nodup && (order.length == ops.size) && (Iw ops.size).all (λi=>order.contains i) &&
 pairs (zAE pt) m && pairs (λq p=>!(pt.getD q.idx []).contains p.idx) m
def zEZ{f:DI->DI->Bool}:∀{l:List DI},pairs f l=Im->l.Pairwise λq p=>f q p=Im
 |[],_=>.nil
 |q::r,h=>by
  simp only[pairs,Yt,Mi]at h;exact .cons h.1 (zEZ h.2)
variable{P:Program}{B:Nat}{w0 w:World}{j:jv}{h h':dN}{nt nb:Nat}{e e':Env}{a:Act}{ops:Array Oper}{Q:Exit->Act->World->Prop}{pt:List (List Nat)}{zs:List (List AV)}
def Laid(P:Program)(op:tT)(o:Op)(k:Nat)(C:List AV):Prop:=
 (∃t i z,op=.rev k/\o=.alloc t/\P.info? t=Ik i/\i.zero=Ik z/\qE z.cells.toList=Ik C)\/
 ∃t u i z zs len A m,op=.revS k len/\o=.buildSlice t len A/\P.underlying t=Ik (.slice u)/\P.info? u=Ik i/\i.zero=Ik z/\qE z.cells.toList=Ik zs/\Tw zs=i.size/\i.size≠0/\len*i.size<=16777216/\Qw i.size A.toList=Ik m/\m.all (λp=>p.2.2.rd.isEmpty)=Im/\xK (jE zs len) (m.map λp=>(p.1,p.2.1,p.2.2.ev (λ_=>.undef)))=Ik C
def From(P:Program)(nt:Nat)(ops:Array Oper)(zs:List (List AV))(it:DI):Prop:=
 ∃o,ops[it.idx]? = Ik o/\(vd P nt ops o=Ik it.toII/\it.op.revK=none\/
  ∃k m,it.op.revK=Ik k/\zs[k]? = Ik m/\Laid P it.op o.op k m/\it.q=Im/\it.dst=o.dst/\(∀d,it.dst=Ik d->d<nt)/\Qv ops o.guard=Ik it.guard)
def zOT{P:Program}{al:Bool}{o:Oper}{len:Nat}{u:List AV}(h:cNew P al o=Ik (len,u))(k:Nat):Laid P (.revS k len) o.op k u:=by
 unfold cNew at h;split at h
 .rename_i t N K A;split at h
  .rename_i E I;simp only[YX]at h;obtain⟨i,H,z,J,zs,C,L,G,h⟩:=h;split at h
   .rename_i m;simp only[YJ,Yo]at h;obtain⟨cs,D,rfl,rfl⟩:=h;exact .inr ⟨t,E,i,z,zs,_,K,L,rfl,A,I,H,J,C,m.2.1,m.2.2.1,m.2.2.2,G,m.1,D⟩
   .cases h
  .cases h
 .cases h
def zEN{o:Oper}{it:II}(A:vd P nt ops o=Ik it)(op:tT)(u:it.op=op)(h:(∃k,op=.rev k)\/∃k n,op=.revS k n):False:=by
 obtain⟨_,_,_,m⟩:=zBe A;rcases h with ⟨k,rfl⟩|⟨k,n,rfl⟩
 .rcases m with ⟨_,m⟩|⟨_,m⟩
  .rw[u]at m;cases ho:o.op<;>rw[ho]at m<;>simp only[copQ]at m<;>(try (cases m;done))<;>(repeat (first|(split at m)|(simp only[YX,YJ]at m)|(obtain⟨_,_,m⟩:=m)|(cases m;done)))
  .rw[u]at m;cases ho:o.op<;>rw[ho]at m<;>simp only[copE,zDs]at m<;>(try (cases m;done))<;>(repeat (first|(split at m)|(simp only[YX,YJ]at m)|(obtain⟨_,_,m⟩:=m)|(cases m;done)))
 .rcases m with ⟨_,m⟩|⟨_,m⟩
  .rw[u]at m;cases ho:o.op<;>rw[ho]at m<;>simp only[copQ]at m<;>(try (cases m;done))<;>(repeat (first|(split at m)|(simp only[YX,YJ]at m)|(obtain⟨_,_,m⟩:=m)|(cases m;done)))
  .rw[u]at m;cases ho:o.op<;>rw[ho]at m<;>simp only[copE,zDs]at m<;>(try (cases m;done))<;>(repeat (first|(split at m)|(simp only[YX,YJ]at m)|(obtain⟨_,_,m⟩:=m)|(cases m;done)))
def zMS{o:Oper}{it:II}(m:vd P nt ops o=Ik it):it.op.revK=none:=by
 cases bU:it.op with
 |rev k=>exact(zEN m _ bU (.inl ⟨k,rfl⟩)).elim
 |revS k n=>exact(zEN m _ bU (.inr ⟨k,n,rfl⟩)).elim
 |_=>rfl
def zP8{al:Bool}{before:List DI}{k i:Nat}{it:DI}{G:Option (List AV)}(hit:cDI P nt ops pt al before k i=Ik (it,G)):∃o,ops[i]? = Ik o/\it.idx=i/\
  ((G=none/\vd P nt ops o=Ik it.toII)\/∃A,G=Ik A/\it.op.revK=Ik k/\Laid P it.op o.op k A/\it.q=Im/\it.dst=o.dst/\(∀d,it.dst=Ik d->d<nt)/\Qv ops o.guard=Ik it.guard):=by
 simp only[cDI,YX]at hit;obtain⟨o,E,hit⟩:=hit;have u:∀{C:Option Nat},dstOk nt C=Im->∀d,C=Ik d->d<nt:=λ{C} m d u=>by
  rw[u]at m;simpa [dstOk]using m
 split at hit
 .rename_i len zs J;simp only[YX]at hit;obtain⟨g,D,hit⟩:=hit;split at hit
  .rename_i m;cases hit;exact⟨o,E,rfl,.inr ⟨zs,rfl,rfl,zOT J k,rfl,rfl,u m,D⟩⟩
  .cases hit
 .split at hit
  .rename_i t H;simp only[YX]at hit;obtain⟨g,D,hit⟩:=hit;split at hit
   .rename_i m;simp only[YX,YJ,Yo]at hit;obtain⟨z,⟨L,N,K⟩,A,I,rfl,rfl⟩:=hit;exact⟨o,E,rfl,.inr ⟨A,rfl,rfl,.inl ⟨t,L,z,rfl,H,N,K,I⟩,rfl,rfl,u m,D⟩⟩
   .cases hit
  .simp only[YJ,Yo]at hit;obtain⟨R,O,rfl,rfl⟩:=hit;exact⟨o,E,rfl,.inl ⟨rfl,O⟩⟩
def zDT{al:Bool}:∀(order:List Nat) (before:List DI) (k:Nat) {C:List DI} {D:List (List AV)},cDIs P nt ops pt al order before k=Ik (C,D)->∀pre:List (List AV),pre.length=k->
  (∀it∈C,From P nt ops (pre++D) it/\∀m,it.op.revK=Ik m->k<=m)/\C.Pairwise λq p=>∀m G,q.op.revK=Ik m->p.op.revK=Ik G->m≠G
 |[],before,k,C,D,u,pre,hp=>by
  cases u;exact⟨λit hit=>(Ya hit).elim,.nil⟩
 |i::r,before,k,C,D,u,pre,hp=>by
  simp only[cDIs,YX]at u;obtain⟨⟨it,oz⟩,hit,u⟩:=u;obtain⟨o,K,rfl,R⟩:=zP8 hit;rcases R with ⟨rfl,N⟩|⟨O,rfl,H,Y,X,T,V,W⟩
  .simp only[YJ,Yo]at u;obtain⟨⟨S,U⟩,E,rfl,rfl⟩:=u;obtain⟨I,J⟩:=zDT r _ k E pre hp;have L:=zMS N;refine⟨λx hx=>?_,?_⟩
   .rcases Yq.1 hx with rfl|hx
    .exact⟨⟨o,K,.inl ⟨N,L⟩⟩,λm A=>by rw[L]at A;cases A⟩
    .exact I x hx
   simp_all
  .simp only[YJ,Yo]at u;obtain⟨⟨S,U⟩,E,rfl,rfl⟩:=u;obtain⟨I,J⟩:=zDT r _ (k+1) E (pre++[O]) (by simp[hp]);refine⟨λx hx=>?_,?_⟩
   .rcases Yq.1 hx with rfl|hx
    .refine⟨⟨o,K,.inr ⟨k,O,H,?_,Y,X,T,V,W⟩⟩,λm A=>by rw[H]at A;cases A;exact sB _⟩;simp[<-hp]
    grind
   .refine .cons (λx hx m G A Z=>?_) J;grind
def zPg(m:MR B w0 j h w){e:Env}{a:Act}(r:ER nt j e a){op:tT}{o:Oper}{k:Nat}{R:List AV}(L:Laid P op o.op k R)(W:j (nb+k)=none)(Z:h.cd (nb+k)=Ik ⟨Im,R⟩){v:AV}(X:qv nb op e h=Ik v):
  ∃(cur:Array Value) (ty:TypeId) (val:Value),(execOp a.eval o).run P w=.ok (.value val) (w.alloc (.cells cur ty))/\MR B w0 (j.put (nb+k) ⟨w.heap.size,0,0⟩) h (w.alloc (.cells cur ty))/\j.le (j.put (nb+k) ⟨w.heap.size,0,0⟩)/\VI (j.put (nb+k) ⟨w.heap.size,0,0⟩) v val:=by
 rcases L with ⟨t,i,z,rfl,G,vn,O,gG⟩|⟨t,et,i,z,zs,len,A,C,rfl,G,E,K,O,dQ,fF,aj,qn,gK,T,V⟩
 .cases X;obtain⟨H,S⟩:=qH (j:=j) gG;obtain⟨N,hle⟩:=m.reveal (ty:=t) (cur:=z.cells) Z W S H;exact⟨_,_,_,by simp[execOp,G,Instr.alloc,zeroValue,typeInfo,vn,O,newVar,newRow],N,hle,⟨⟨w.heap.size,0,0⟩,by simp[jv.put],rfl⟩⟩
 .cases X;obtain⟨H,S⟩:=qH (j:=j) dQ;have L:=H.length;have lD:z.cells.toList≠[]:=by grind
  have iW:((Array.range (len*i.size)).map (z.cells[· % z.cells.size]!)).toList=(Jf len z.cells.toList).flatten:=by
   have:=Ze z.cells.toList lD len
   rw[<-L,fF]at this;simpa [madeCells]using this
  have tv:(C.map λp=>(p.1,p.2.1,p.2.2.ev (λ_=>AV.undef)))=C.map λp=>(p.1,p.2.1,p.2.2.ev e):=by
   rw[Mi]at T;refine JI λp D=>?_;rw[IX.ev_congr (x:=p.2.2) (e:=λ_=>AV.undef) (e':=e) λt E=>by
    have:=T p D
    rw[List.isEmpty_iff]at this;rw[this]at E;cases E]
  rw[tv]at V;have lJ:∀{A:List (Nat×Operand)} {C:List (Nat×Nat×IX)},Qw i.size A=Ik C->A.length=(C.map λp=>(p.1,p.2.1,p.2.2.ev e)).length/\
    ∀(k:Nat) (p:Nat×Operand) (q:Nat×Nat×AV),A[k]? = Ik p->(C.map λq=>(q.1,q.2.1,q.2.2.ev e))[k]? = Ik q->(Ik (p.1*i.size,i.size))=Ik (q.1,q.2.1)/\VI j q.2.2 (a.eval p.2):=by
   intro A
   induction A with
   |nil=>intro C u;cases u;exact⟨rfl,λk p q D=>by simp at D⟩
   |cons p A ih=>
    intro C u;obtain⟨n,x⟩:=p;simp only[Qw,YX]at u;obtain⟨ix,hx,Fe,pP,u⟩:=u;cases u;obtain⟨Y,i2⟩:=ih pP;refine⟨by simp at Y ⊢;exact Y,λk p q D u=>?_⟩;cases k with
    |zero=>simp at D u;subst D;subst u;exact⟨rfl,zM r hx⟩
    |succ k=>exact i2 k p q (by simpa using D) (by simpa using u)
  obtain⟨p1,p2⟩:=lJ gK;obtain⟨res,I,r1,r2⟩:=Qu (place:=λk=>Ik (k*i.size,i.size)) A.toList _ (jE zs len) ((Array.range (len*i.size)).map (z.cells[· % z.cells.size]!)) a.eval R
   (by rw[iW];exact H.replicate len) (zBB S len) V p1 p2
  obtain⟨N,hle⟩:=m.reveal (ty:=et) (cur:=res) Z W r2 r1;have qk:¬(16777216<len*i.size):=aH
  have U:(A.map λ(i,x)=>(i,a.eval x)).toList=A.toList.map λp=>(p.1,a.eval p.2):=bj
  refine⟨_,_,.slice (Ik ⟨w.heap.size,0,none⟩) len len,?_,N,hle,⟨⟨w.heap.size,0,0⟩,_,by simp[jv.put],rfl,.inl rfl⟩⟩;by_cases J:len*i.size=0
  .have:((Array.range (len*i.size)).map (z.cells[· % z.cells.size]!)) = #[]:=by rw[J];simp[Array.range_zero']
   rw[this]at I;simp[execOp,G,Instr.buildSlice,run_underlying E,zX K,J,U,I,newRow,Array.range_zero']
  .simp[execOp,G,Instr.buildSlice,run_underlying E,zX K,J,qk,U,I,newRow,zeroValue,typeInfo,K,O]
def zOo(m:MR B w0 j h w)(r:ER nt j e a){k:Nat}{o:Oper}{it:II}{K:List AV}{idx:Nat}(G:ops[idx]? = Ik o)(R:Laid P it.op o.op k K)(E:it.dst=o.dst)(C:∀d,it.dst=Ik d->d<nt)(N:Qv ops o.guard=Ik it.guard)
  (O:j (nb+k)=none) (V:h.cd (nb+k)=Ik ⟨Im,K⟩) {v:AV} (u:gq nb it e h=Ik v)
  {next:Act->World->Prop} (H:∀A a' w',j.le A->(∀o,o≠nb+k->A o=j o)->MR B w0 A h w'->ER nt A (e.put it.dst v) a'->next a' w'):wpOp P ops Q idx next a w:=by
 obtain⟨w1,w2,X⟩:=zCl r N;have run:qv nb it.op e h=Ik v->Region.wanted o (yielded ops a.tmps)=Im->wpOp P ops Q idx next a w:=by
  intro u I;obtain⟨cur,ty,val,T,S,hle,W⟩:=zPg m r R O V u;unfold wpOp;simp only[G,I,if_true];refine .inl ?_;unfold Oper.wp;rw[T];refine H _ _ _ hle (λY L=>by simp[jv.put,L]) S ?_;rw[<-E];exact(r.mono hle).put C W
 unfold gq at u;split at u
 .exact run u (w1 (by assumption))
 .rename_i t b J;split at u
  .rename_i c D;have I:=w2 t b c J D;split at u
   .simp_all
   .rename_i U;cases u;unfold wpOp
    have:Region.wanted o (yielded ops a.tmps)=false:=by rw[I];simpa using U
    simp only[G,this,JM,if_false];exact H j _ w (jv.le.refl _) (λ_ _=>rfl) m (by rw[<-E];exact r.put C zAf)
  .rename_i D;cases u;unfold wpOp;simp only[G,X t b J D,JM,if_false];exact H j _ w (jv.le.refl _) (λ_ _=>rfl) m (by rw[<-E];exact r.put C zAf)
  .cases u
def qy(l:Array Bool)(i x:Nat):(l.setIfInBounds i Im).getD x Im=(if x=i then Im else l.getD x Im):=by
 simp only[IS,Array.getElem?_setIfInBounds];grind
def zI1{K:Env->dN->Prop}{js:jv}{hs:dN}(D4:nb=hs.bY)(dL:F6 ops pt=Im)
  (hn:∀D h' e' a' w',FR js hs D h'->MR B w0 D h' w'->ER nt D e' a'->K e' h'->Q .normal a' w'):
  ∀(fuel:Nat) (listed:Array Bool) (rem:List DI) {j:jv} {h:dN} {w:World} {e:Env} {a:Act} {recs:List Rec},rem.length=fuel->listed.size=ops.size->
   (∀i,i<ops.size->(listed.getD i Im=false↔∃it∈rem,it.idx=i))->
   rem.Pairwise (λq p=>zAE pt q p=Im)->rem.Pairwise (λq p=>(!(pt.getD q.idx []).contains p.idx)=Im)->(rem.map (·.idx)).Nodup->rem.Pairwise (λq p=>∀m I,q.op.revK=Ik m->p.op.revK=Ik I->m≠I)->
   (∀i,i<ops.size->listed.getD i Im=Im->∀x∈pt.getD i [],listed.getD x Im=Im)->
   (∀it∈rem,From P nt ops zs it)->
   (∀it∈rem,∀k,it.op.revK=Ik k->nb+k<h.bY/\j (nb+k)=none/\∃z,zs[k]? = Ik z/\h.cd (nb+k)=Ik ⟨Im,z⟩)->
   MR B w0 j h w->ER nt j e a->DV P nb rem recs e h K->FR js hs j h->wpAny P .any ops Q fuel listed a w
 |0,listed,rem,j,h,w,e,a,recs,hlen,fF,pE,_,_,_,_,_,_,_,m,r,H,hf=>by
  have:rem=[]:=YM hlen
  subst this;refine⟨?_,hn j h e a w hf m r H⟩;unfold Region.ready;simp_all
 |fuel+1,listed,rem,j,h,w,e,a,recs,hlen,fF,pE,ka,mq,Cu,AN,dD,iY,mo,m,r,H,hf=>by
  have Jo:∀i o,ops[i]? = Ik o->i∉pt.getD i []/\(∀d∈qK o,d<ops.size/\d∈pt.getD i [])/\∀x∈pt.getD i [],x∈qK o\/∃d∈qK o,x∈pt.getD d []:=by
   intro i o A;have W:i<ops.size:=(YA.1 A).1;unfold F6 at dL;rw[Mi]at dL
   have:=dL i (by simpa using W)
   simp only[A,Yt,Mi,Nz,Ng,UF,beq_iff_eq,decide_eq_true_eq]at this;refine⟨λhx=>?_,λd C=>⟨(this.1.2 d C).1,by simpa using (this.1.2 d C).2⟩,λx hx=>?_⟩
   .have E:=this.1.1;rw[List.contains_iff_mem.2 hx]at E;cases E
   obtain⟨d,C,hx⟩:=this.2 x hx;rcases hx with rfl|hx
   .exact .inl C
   .exact .inr ⟨d,C,by simpa using hx⟩
  have BB:∀{q p:DI},(!(pt.getD q.idx []).contains p.idx)=Im->p.idx∉pt.getD q.idx []:=by
   simp_all
  refine⟨λym=>?_,λi W=>?_⟩
  ·-- Au is always ready
   exfalso;cases rem with
   |nil=>simp at hlen
   |cons p rest=>
    obtain⟨o,A,_⟩:=iY p bj;have af:p.idx<ops.size:=(YA.1 A).1;have nT:listed.getD p.idx Im=false:=(pE p.idx af).2 ⟨p,bj,rfl⟩;have pX:p.idx∈Region.ready .any ops listed:=by
     unfold Region.ready;rw[ND];refine⟨by simpa using af,?_⟩;rw[nT,A];simp only[Bool.not_false,Kc,NP,Bool.true_and,NX];intro L tx;cases V:Region.binds .any L with
     |false=>rfl
     |true=>
      have HE:L.on∈qK o:=by
       unfold qK;grind
      obtain⟨uj,ui⟩:=(Jo p.idx o A).2.1 _ HE;simp only[Bool.not_true,Bool.false_or]
      have:listed.getD L.on Im=Im:=by
       cases hl:listed.getD L.on Im with
       |true=>rfl
       |false=>
        obtain⟨q,hq,vH⟩:=(pE _ uj).1 hl;rcases Yq.1 hq with rfl|hq
        .rw[<-vH]at ui;exact absurd ui (Jo q.idx o A).1
        .rw[<-vH]at ui;exact absurd ui (BB ((Sp.1 mq).1 q hq))
      grind
    rw[ym]at pX;cases pX
  .unfold Region.ready at W;rw[ND]at W;obtain⟨CF,S⟩:=W;have af:i<ops.size:=by simpa using CF
   simp only[Yt,Ng]at S;obtain⟨aK,S⟩:=S;obtain⟨p,hp,rfl⟩:=(pE i af).1 aK;obtain⟨o,A,bU⟩:=iY p hp;rw[A]at S;simp only[Kc,NP,NX]at S;have nY:∀d∈qK o,listed.getD d Im=Im:=by
    intro d C;unfold qK at C;rw[YD]at C;obtain⟨L,tx,rfl⟩:=C;rw[ND]at tx
    have:=S L (by simpa using tx.1)
    rw[tx.2]at this;simp only[Bool.not_true,Bool.false_or]at this;simp only[IS]at this ⊢;cases hx:listed[L.on]? with
    |none=>rfl
    |some x=>rw[hx]at this;exact this
   have ai:∀x∈pt.getD p.idx [],listed.getD x Im=Im:=by
    grind
   obtain⟨u,G,rfl⟩:=List.append_of_mem hp;have J:(u++G).Sublist (u++p::G):=(List.sublist_cons_self p G).append_left u;have V:∀q∈u,apart q.toII p.toII=Im/\q.q=Im/\(p.q=Im\/(q.op.isLoad=Im->p.chk.contains q.idx=Im)):=by
    intro q hq;have E:=(Oa.1 ka).2.2 q hq p bj;have h2:q.idx∉pt.getD p.idx []:=by
     intro hx
     have:=ai _ hx
     obtain⟨oq,Sj,_⟩:=iY q (by simp[hq]);grind
    unfold zAE at E;simp only[UF,Yt,Ng]at E;rcases E with E|⟨⟨E,h3⟩,h4⟩
    .exact absurd (List.contains_iff_mem.1 E) h2
    .refine⟨E,h3,?_⟩;rcases h4 with (h4|h4)|h4
     .exact .inl h4
     .exact .inr λx=>by rw[x]at h4;cases h4
     .exact .inr λ_=>h4
   -- Bh is left behind this step
   have db:(u++G).length=fuel:=by simp at hlen ⊢;omega
   have GG:(u++G).Pairwise λq p=>q.idx≠p.idx:=by
    grind
   have sY:∀q∈u++G,q.idx≠p.idx:=by
    grind
   have B5:∀k,k<ops.size->((listed.setIfInBounds p.idx Im).getD k Im=false↔∃it∈u++G,it.idx=k):=by
    intro k H;rw[qy];by_cases Z:k=p.idx
    .grind
    .rw[Iv Z,pE k H];constructor
     .grind
     grind
   have HS:∀k,k<ops.size->(listed.setIfInBounds p.idx Im).getD k Im=Im->∀x∈pt.getD k [],(listed.setIfInBounds p.idx Im).getD x Im=Im:=by
    intro k H iJ x hx;rw[qy]at iJ ⊢;split
    .rfl
    .by_cases Z:k=p.idx
     .subst Z;exact ai x hx
     .rw[Iv Z]at iJ;exact dD k H iJ x hx
   have go:∀{D:jv} {h':dN} {w':World} {e':Env} {a':Act} {bn:List Rec},(∀it∈u++G,∀k,it.op.revK=Ik k->nb+k<h'.bY/\D (nb+k)=none/\∃z,zs[k]? = Ik z/\h'.cd (nb+k)=Ik ⟨Im,z⟩)->
     MR B w0 D h' w'->ER nt D e' a'->DV P nb (u++G) bn e' h' K->FR js hs D h'->wpAny P .any ops Q fuel (listed.setIfInBounds p.idx Im) a' w':=by
    intro D h' w' e' a' bn yu I N O R;exact zI1 D4 dL hn fuel _ (u++G) db (by simpa using fF) B5 (ka.sublist J) (mq.sublist J) (by rw[List.Nodup,N0];exact GG) (AN.sublist J) HS
     (λit hit=>iY it (J.subset hit)) yu I N O R
   cases hq:p.q with
   |true=>
    obtain⟨v,hv,O⟩:=zEK hq u (λq U=>⟨(V q U).2.1,(V q U).1⟩) H;rcases bU with ⟨rK,_⟩|⟨k,z',gJ,dQ,mB,_,C,ah,hg⟩
    .exact Ea m r A rK hq hv λa' N=>go (λit hit=>mo it (J.subset hit)) m N O hf
    .obtain⟨g1,g2,zz,g3,g4⟩:=mo p bj k gJ;rw[dQ]at g3;cases g3;refine zOo m r A mB C ah hg g2 g4 hv ?_;intro D a' w' hle Eb I N;refine go (λit hit T X=>?_) I N O ?_
     .obtain⟨Y,q2,q3⟩:=mo it (J.subset hit) T X;refine⟨Y,?_,q3⟩;have aj:T≠k:=by
       rw[Oa]at AN;rcases YZ.1 hit with hit|hit
       .exact AN.2.2 it hit p bj T k X gJ
       .exactλx=>(Sp.1 AN.2.1).1 it hit k T gJ X x.symm
      rw[Eb _ aH];exact q2
     .refine⟨hf.bY,λo' di=>?_,hf.pend⟩;rw[Eb _ aH];exact hf.inj o' di
   |false=>
    have O:=zGu hq u (λq U=>⟨(V q U).2.1,(V q U).1,by
     grind⟩) H
    rcases bU with ⟨rK,_⟩|⟨k,z',gJ,dQ,mB,JV,_⟩
    .refine zEu m r A rK hq O ?_;intro v h' D a' w' R I N Ha;refine go (λit hit T X=>?_) I N Ha.2 (hf.trans R);obtain⟨Y,q2,z,q3,q4⟩:=mo it (J.subset hit) T X;exact⟨YO Y R.bY,(R.inj _ Y).trans q2,z,q3,(R.pend _ Y q2).trans q4⟩
    .rw[hq]at JV;cases JV
end
section
open Go.RowKit
inductive OT where
 |done
 |none
 |q (it:DI) (next:OT)
 |e (it:DI) (next alt:OT)
def TV(P:Program):OT->List Rec->Env->dN->(Env->dN->Prop)->Prop
 | .done,_,e,h,K=>K e h
 | .none,_,_,_,_=>True
 | .q it nx,recs,e,h,K=>iU (gq 0 it.toII e h) λv=>TV P nx (xn it e v++recs) (e.put it.dst v) h K
 | .e it nx alt,recs,e,h,K=>(ge P it.toII e h λv h'=>sN it.chk recs h'/\TV P nx recs (e.put it.dst v) h' K)/\TV P alt recs e h K
def tchk(pt:List (List Nat))(before:List DI)(q:Bool)(i:Nat):List Nat:=if q=Im then []else(before.filter λq=>q.op.isLoad && !(pt.getD i []).contains q.idx).map (·.idx)
def tdi(P:Program)(nt:Nat)(ops:Array Oper)(pt:List (List Nat))(before:List DI)(i:Nat):Option DI:=
 (ops[i]?).bind λo=>(vd P nt ops o).bind λit=>if before.all (λq=>zAE pt q ⟨it,i,tchk pt before it.q i⟩)=Im then Ik ⟨it,i,tchk pt before it.q i⟩else none
def mkT(P:Program)(nt:Nat)(ops:Array Oper)(pt:List (List Nat)):Nat->Array Bool->List DI->Option OT
 |0,listed,_=>if (Region.ready .any ops listed).isEmpty=Im then Ik .done else none
 |fuel+1,listed,before=>if (Region.ready .any ops listed).isEmpty=Im then Ik .done else
  match (Region.ready .any ops listed).find? (λi=>match ops[i]? with|some o=>(copQ P o.op).isSome|none=>false)with
  |some i=>(tdi P nt ops pt before i).bind λd=>if d.q=Im then(mkT P nt ops pt fuel (listed.setIfInBounds i Im) (before++[d])).map λnx=>.q d nx else none
  |none=>(Region.ready .any ops listed).foldr (λi acc=>(tdi P nt ops pt before i).bind λd=>if d.q=false then(mkT P nt ops pt fuel (listed.setIfInBounds i Im) before).bind λnx=>acc.map λalt=>.e d nx alt else none) (Ik .none)
variable{P:Program}{B:Nat}{w0 w:World}{j:jv}{h h':dN}{nt:Nat}{e e':Env}{a:Act}{ops:Array Oper}{pt:List (List Nat)}
def TV.sub:∀(t:OT) {recs u:List Rec} {e:Env} {h:dN} {K:Env->dN->Prop},(∀r∈u,r∈recs)->TV P t recs e h K->TV P t u e h K
 | .done,_,_,_,_,_,_,m=>m
 | .none,_,_,_,_,_,_,m=>trivial
 | .q it nx,recs,u,e,h,K,hs,m=>by
  obtain⟨v,C,m⟩:=m;refine⟨v,C,TV.sub nx (λx A=>?_) m⟩;simp only[YZ]at A ⊢;exact A.imp id (hs x)
 | .e it nx alt,recs,u,e,h,K,hs,m=>⟨Q6 (λv h' m=>⟨m.1.sub hs,TV.sub nx hs m.2⟩) m.1,TV.sub alt hs m.2⟩
def QV:List DI->List Rec->Env->dN->(List Rec->Env->Prop)->Prop
 |[],recs,e,_,K=>K recs e
 |it::r,recs,e,h,K=>iU (gq 0 it.toII e h) λv=>QV r (xn it e v++recs) (e.put it.dst v) h K
def SubK(K:List Rec->Env->Prop):Prop:=∀recs m e,(∀r∈m,r∈recs)->K recs e->K m e
def QV.sub{K:List Rec->Env->Prop}(A:SubK K):∀(l:List DI) {recs u:List Rec} {e:Env} {h:dN},(∀r∈u,r∈recs)->QV l recs e h K->QV l u e h K
 |[],_,_,_,_,hs,m=>A _ _ _ hs m
 |it::r,recs,u,e,h,hs,m=>by
  obtain⟨v,D,m⟩:=m;refine⟨v,D,QV.sub A r (λx C=>?_) m⟩;simp only[YZ]at C ⊢;exact C.imp id (hs x)
def QV.mono{K K':List Rec->Env->Prop}(u:∀recs e,K recs e->K' recs e):∀(l:List DI) {recs:List Rec} {e:Env} {h:dN},QV l recs e h K->QV l recs e h K'
 |[],_,_,_,m=>u _ _ m
 |it::r,recs,e,h,m=>by
  obtain⟨v,A,m⟩:=m;exact⟨v,A,QV.mono u r m⟩
def QV.append{K:List Rec->Env->Prop}:∀(l m:List DI) {recs:List Rec} {e:Env} {h:dN},QV l recs e h (λrecs e=>QV m recs e h K)->QV (l++m) recs e h K
 |[],m,_,_,_,u=>u
 |it::r,m,recs,e,h,u=>by
  obtain⟨v,A,u⟩:=u;exact⟨v,A,QV.append r m u⟩
def QV.front{K:List Rec->Env->Prop}(C:SubK K){p:DI}{E:List DI}:∀(u:List DI) {recs:List Rec} {e:Env} {h:dN},(∀q∈u,apart q.toII p.toII=Im)->
  QV (u++p::E) recs e h K->∃v,gq 0 p.toII e h=Ik v/\QV (u++E) (xn p e v++recs) (e.put p.dst v) h K
 |[],recs,e,h,_,m=>m
 |q::u,recs,e,h,ha,m=>by
  obtain⟨s1,G,I⟩:=xy (ha q bj);obtain⟨A,J,m⟩:=m;obtain⟨v,D,m⟩:=QV.front C u (λx H=>ha x (by simp[H])) m;rw[Q5 (s1 e A)]at D;refine⟨v,D,A,by rw[Q5 (G e v)];exact J,?_⟩;rw[Zq (s1 e A)]at m;dsimp only;rw[Zq (G e v),<-I];refine QV.sub C _ (λr hr=>?_) m;simp only[YZ]at hr ⊢;rcases hr with hr|hr|hr
  .exact .inr (.inl hr)
  .exact .inl hr
  .exact .inr (.inr hr)
def zN7{q p:DI}{v A:AV}{recs:List Rec}(C:∀(e:Env) v,∀t∈q.reads,(e.put p.dst v) t=e t)(K:q.op.isLoad=Im->p.chk.contains q.idx=Im)(L:gq 0 q.toII e h=Ik A)(J:sN p.chk (xn q e A++recs) h'):
  gq 0 q.toII (e.put p.dst v) h'=Ik A:=by
 have E:gq 0 q.toII (e.put p.dst v) h=Ik A:=by rw[Q5 (C e v)];exact L
 rw[<-E];cases hl:q.op.isLoad with
 |false=>
  unfold gq;simp only[zKT (nb:=0) (e:=e.put p.dst v) (h:=h') (h':=h) hl]
 |true=>
  cases bU:q.op with
  |load agg n x=>
   have D:x.ev (e.put p.dst v)=x.ev e:=IX.ev_congr λt I=>C e v t (II.reads_op (by rw[bU];exact I));cases hw:ZI q.guard e with
   |true=>
    have G:=zAR.1 J ⟨q.idx,agg,n,x.ev e,A⟩ (by simp[xn,bU,hw]) (K hl);rw[E];unfold gq;rw[<-Zm (e:=e.put p.dst v) (C e v)]at hw;unfold ZI at hw;split
    .show qv 0 q.op _ _=_;rw[bU];simp only[qv,D];exact G
    .rename_i t b u;rw[u]at hw;simp only at hw;split at hw
     .rename_i c m;rw[m];simp only;rw[Iu (by simpa using hw)];show qv 0 q.op _ _=_;rw[bU];simp only[qv,D];exact G
     .cases hw
   |false=>
    rw[<-Zm (e:=e.put p.dst v) (C e v)]at hw;unfold gq;unfold ZI at hw;split
    .rename_i u;rw[u]at hw;cases hw
    .rename_i t b u;rw[u]at hw;simp only at hw;split at hw
     .rename_i c m;rw[m];simp only;rw[Iv (by simpa using hw),Iv (by simpa using hw)]
     .rename_i H;split
      .rename_i c m;exact absurd m (H c)
      .rfl
      .rfl
  |_=>rw[bU]at hl;cases hl
def QV.frontE{K':List Rec->Env->dN->Prop}{p:DI}:∀(u:List DI) {recs:List Rec} {e:Env} {h:dN},
  (∀q∈u,apart q.toII p.toII=Im/\(q.op.isLoad=Im->p.chk.contains q.idx=Im))->
  QV u recs e h (λrecs e=>ge P p.toII e h λv h'=>sN p.chk recs h'/\K' recs (e.put p.dst v) h')->
  ge P p.toII e h λv h'=>sN p.chk recs h'/\QV u recs (e.put p.dst v) h' (λrecs e=>K' recs e h')
 |[],recs,e,h,_,m=>m
 |q::u,recs,e,h,ha,m=>by
  obtain⟨H,I⟩:=ha q bj;obtain⟨s1,C,J⟩:=xy H;obtain⟨D,K,m⟩:=m
  have:=QV.frontE u (λx G=>ha x (by simp[G])) m
  refine Q6 (λv h' m=>?_) (zIk (s1 e D) this);obtain⟨A,m⟩:=m;refine⟨A.sub λr E=>Nj _ E,D,zN7 C I K A,?_⟩;dsimp only;rw[Zq (C e v),<-J];exact m
def zEM{o:Oper}{d:Nat}:d∈qK o↔∃m∈o.after,Region.binds .any m=Im/\m.on=d:=by
 unfold qK;rw[YD];constructor
 .rintro⟨m,u,rfl⟩
  rw[ND]at u;exact⟨m,by simpa using u.1,u.2,rfl⟩
 .rintro⟨m,A,C,rfl⟩
  exact⟨m,by rw[ND];exact⟨by simpa using A,C⟩,rfl⟩
def Qk{listed:Array Bool}{i:Nat}(m:i∈Region.ready .any ops listed):∃o,ops[i]? = Ik o/\listed.getD i Im=false/\∀d∈qK o,listed.getD d Im=Im:=by
 unfold Region.ready at m;rw[ND]at m;obtain⟨C,u⟩:=m;have D:i<ops.size:=by simpa using C
 have A:ops[i]? = Ik ops[i]:=Array.getElem?_eq_getElem D;rw[A]at u;simp only[Yt,Ng,Kc,NP,NX]at u;refine⟨_,A,u.1,λd E=>?_⟩;obtain⟨G,H,I,rfl⟩:=zEM.1 E;grind
def zEW{listed:Array Bool}{i:Nat}{o:Oper}(u:ops[i]? = Ik o)(C:listed.getD i Im=false)(D:∀d∈qK o,d<listed.size/\listed.getD d Im=Im):i∈Region.ready .any ops listed:=by
 unfold Region.ready;rw[ND];have A:i<ops.size:=(YA.1 u).1;refine⟨by simpa using A,?_⟩;rw[C,u];simp only[Bool.not_false,Kc,NP,Bool.true_and,NX];intro m E;cases hb:Region.binds .any m with
 |false=>rfl
 |true=>
  obtain⟨G,this⟩:=D m.on (zEM.2 ⟨m,E,hb,rfl⟩);simp_all
structure B4(P:Program)(nt:Nat)(ops:Array Oper)(pt:List (List Nat))(cl al:Array Bool)(l before:List DI):Prop where
 cs:cl.size=ops.size
 as:al.size=ops.size
 ao:∀i,i<ops.size->(al.getD i Im=Im↔cl.getD i Im=Im\/i∈l.map (·.idx))
 lc:∀q∈l,cl.getD q.idx Im=false
 fr:∀q∈l,∃o,ops[q.idx]? = Ik o/\vd P nt ops o=Ik q.toII
 qu:∀q∈l,q.q=Im
 pw:l.Pairwise λq p=>zAE pt q p=Im
 nd:(l.map (·.idx)).Nodup
 sb:∀q∈l,q∈before
 cc:∀i,i<ops.size->cl.getD i Im=Im->∀x∈pt.getD i [],cl.getD x Im=Im
 ac:∀i,i<ops.size->al.getD i Im=Im->∀x∈pt.getD i [],al.getD x Im=Im
 or:l.Pairwise λq p=>p.idx∉pt.getD q.idx []
def zEQ{before:List DI}{i:Nat}{d:DI}(m:tdi P nt ops pt before i=Ik d):∃o,ops[i]? = Ik o/\vd P nt ops o=Ik d.toII/\d.idx=i/\∀q∈before,zAE pt q d=Im:=by
 simp only[tdi,YX]at m;obtain⟨o,A,it,hit,m⟩:=m;split at m
 .rename_i u;cases m;exact⟨o,A,hit,rfl,Mi.1 u⟩
 .cases m
def Zz(u:F6 ops pt=Im):∀i o,ops[i]? = Ik o->i∉pt.getD i []/\(∀d∈qK o,d<ops.size/\d∈pt.getD i [])/\∀x∈pt.getD i [],x∈qK o\/∃d∈qK o,x∈pt.getD d []:=by
 intro i o A;have C:i<ops.size:=(YA.1 A).1;unfold F6 at u;rw[Mi]at u
 have:=u i (by simpa using C)
 simp only[A,Yt,Mi,Nz,Ng,UF,beq_iff_eq,decide_eq_true_eq]at this;refine⟨λhx=>?_,λd m=>⟨(this.1.2 d m).1,by simpa using (this.1.2 d m).2⟩,λx hx=>?_⟩
 .have h1:=this.1.1;rw[List.contains_iff_mem.2 hx]at h1;cases h1
 obtain⟨d,m,hx⟩:=this.2 x hx;rcases hx with rfl|hx
 .exact .inl m
 .exact .inr ⟨d,m,by simpa using hx⟩
def zCD(D:F6 ops pt=Im){m:Array Bool}(E:∀i,i<ops.size->m.getD i Im=Im->∀x∈pt.getD i [],m.getD x Im=Im){k:Nat}{o:Oper}(H:ops[k]? = Ik o)(G:∀d∈qK o,m.getD d Im=Im):
  (∀x∈pt.getD k [],m.getD x Im=Im)/\∀i,i<ops.size->(m.setIfInBounds k Im).getD i Im=Im->∀x∈pt.getD i [],(m.setIfInBounds k Im).getD x Im=Im:=by
 have C:∀x∈pt.getD k [],m.getD x Im=Im:=by
  intro x u;rcases(Zz D k o H).2.2 x u with h|⟨d,h,u⟩
  .exact G x h
  .exact E d ((Zz D k o H).2.1 d h).1 (G d h) x u
 refine⟨C,λi I A x u=>?_⟩;rw[qy]at A ⊢;split
 .rfl
 .by_cases e:i=k
  .subst e;exact C x u
  .rw[Iv e]at A;exact E i I A x u
def B4.push(S:F6 ops pt=Im){A al:Array Bool}{l before:List DI}(v:B4 P nt ops pt A al l before){k:Nat}(W:k∈Region.ready .any ops al){d:DI}(U:tdi P nt ops pt before k=Ik d)(X:d.q=Im):
  B4 P nt ops pt A (al.setIfInBounds k Im) (l++[d]) (before++[d]):=by
 obtain⟨o,D,G,T⟩:=Qk W;obtain⟨Z,I,hit,H,O⟩:=zEQ U;rw[D]at I;cases I;have N:k<ops.size:=(YA.1 D).1;have Y:¬(A.getD k Im=Im\/k∈l.map (·.idx)):=λx=>by
  rw[(v.ao k N).2 x]at G;cases G
 have R:A.getD k Im=false:=by
  simp_all
 have E:∀{q:DI},q∈l++[d]↔q∈l\/q=d:=λ{q}=>by simp
 refine⟨v.cs,by simpa using v.as,λi V=>?_,λq m=>?_,λq m=>?_,λq m=>?_,?_,?_,λq m=>?_,v.cc,(zCD S v.ac D T).2,?_⟩
 .rw[qy,YI,YZ];by_cases e:i=k
  .simp_all
  .rw[Iv e,v.ao i V];simp_all
 .rcases E.1 m with m|rfl
  .exact v.lc q m
  .rw[H];exact R
 .rcases E.1 m with m|rfl
  .exact v.fr q m
  .exact⟨o,by rw[H];exact D,hit⟩
 .rcases E.1 m with m|rfl
  .exact v.qu q m
  .exact X
 .rw[Oa];refine⟨v.pw,Ob _ _,λa u b C=>?_⟩;rw[YW.1 C];exact O a (v.sb a u)
 .rw[YI,LD];refine⟨v.nd,bj,λa u b C e=>?_⟩;grind
 .rcases E.1 m with m|rfl
  .exact Ni _ (v.sb q m)
  .exact Nj _ bj
 .rw[Oa];refine⟨v.or,Ob _ _,λa u b C J=>?_⟩;rw[YW.1 C,H]at J;obtain⟨oa,L,_⟩:=v.fr a u;have K:a.idx<ops.size:=(YA.1 L).1
  have:=v.ac a.idx K ((v.ao _ K).2 (.inr (YD.2 ⟨a,u,rfl⟩))) k J
  rw[G]at this;cases this
def B4.take(K:F6 ops pt=Im){E al:Array Bool}{u D before:List DI}{p:DI}(v:B4 P nt ops pt E al (u++p::D) before)(G:p.idx∈Region.ready .any ops E):
  B4 P nt ops pt (E.setIfInBounds p.idx Im) al (u++D) before/\∀q∈u,apart q.toII p.toII=Im:=by
 obtain⟨o,H,L,N⟩:=Qk G;have R:p.idx<ops.size:=(YA.1 H).1;have A:(u++D).Sublist (u++p::D):=(List.sublist_cons_self p D).append_left u;have O:∀q∈u++D,q.idx≠p.idx:=by
  intro q m S;have L:(u++p::D).Pairwise λq p=>q.idx≠p.idx:=by
   have:=v.nd
   rw[List.Nodup,N0]at this;exact this
  grind
 obtain⟨I,J⟩:=zCD K v.cc H N;refine⟨⟨by simpa using v.cs,v.as,λi G=>?_,λq m=>?_,λq m=>v.fr q (A.subset m),λq m=>v.qu q (A.subset m),v.pw.sublist A,v.nd.sublist (A.map _),λq m=>v.sb q (A.subset m),J,v.ac,v.or.sublist A⟩,λq m=>?_⟩
 .rw[v.ao i G,qy];grind
 .rw[qy,Iv (O q m)];exact v.lc q (A.subset m)
 .have C:=(Oa.1 v.pw).2.2 q m p bj;unfold zAE at C;simp only[UF,Yt,Ng]at C;rcases C with C|⟨⟨C,_⟩,_⟩
  .have:=I _ (List.contains_iff_mem.1 C)
   rw[v.lc q (by simp[m])]at this;cases this
  .exact C
def B4.eff(E:F6 ops pt=Im){D al:Array Bool}{l before:List DI}(v:B4 P nt ops pt D al l before){i:Nat}(L:i∈Region.ready .any ops D)(O:i∉l.map (·.idx)){d:DI}(A:tdi P nt ops pt before i=Ik d)(S:d.q=false):
  B4 P nt ops pt (D.setIfInBounds i Im) (al.setIfInBounds i Im) l before/\∀q∈l,apart q.toII d.toII=Im/\(q.op.isLoad=Im->d.chk.contains q.idx=Im):=by
 obtain⟨o,C,V,G⟩:=Qk L;obtain⟨X,U,hit,R,K⟩:=zEQ A;have T:i<ops.size:=(YA.1 C).1;obtain⟨H,J⟩:=zCD E v.cc C G;have I:∀q∈l,q.idx≠i:=λq u e=>O (YD.2 ⟨q,u,e⟩);refine⟨⟨by simpa using v.cs,by simpa using v.as,λk N=>?_,λq u=>?_,v.fr,v.qu,v.pw,v.nd,v.sb,J,?_,v.or⟩,λq u=>?_⟩
 .rw[qy,qy];by_cases e:k=i
  .simp_all
  .rw[Iv e,Iv e];exact v.ao k N
 .rw[qy,Iv (I q u)];exact v.lc q u
 .refine(zCD E v.ac C λd A=>?_).2;exact(v.ao d ((Zz E i o C).2.1 d A).1).2 (.inl (G d A))
 .have m:=K q (v.sb q u);unfold zAE at m;rw[R]at m;simp only[UF,Yt,Ng]at m;rcases m with m|⟨⟨m,_⟩,W⟩
  .have:=H _ (List.contains_iff_mem.1 m)
   rw[v.lc q u]at this;cases this
  grind
def zKf{fuel:Nat}{listed:Array Bool}{before:List DI}:∀(l:List Nat) {t:OT},l.foldr (λi acc=>(tdi P nt ops pt before i).bind λd=>if d.q=false then(mkT P nt ops pt fuel (listed.setIfInBounds i Im) before).bind λnx=>acc.map λalt=>OT.e d nx alt else none) (Ik .none)=Ik t->
  ∀i∈l,∃d nx,tdi P nt ops pt before i=Ik d/\d.q=false/\mkT P nt ops pt fuel (listed.setIfInBounds i Im) before=Ik nx/\∀(recs:List Rec) (e:Env) (h:dN) (K:Env->dN->Prop),TV P t recs e h K->ge P d.toII e h λv h'=>sN d.chk recs h'/\TV P nx recs (e.put d.dst v) h' K
 |[],t,_,i,hi=>absurd hi (Ya)
 |k::l,t,m,i,hi=>by
  simp only[List.foldr_cons,YX]at m;obtain⟨d,J,m⟩:=m;split at m
  .rename_i L;simp only[YX,YJ]at m;obtain⟨nx,H,alt,halt,rfl⟩:=m;rcases Yq.1 hi with rfl|hi
   .exact⟨d,nx,J,L,H,λrecs e h K u=>u.1⟩
   .obtain⟨I,A,C,D,E,G⟩:=zKf l halt i hi;exact⟨I,A,C,D,E,λrecs e h K u=>G recs e h K u.2⟩
  .cases m
def zHU(H:F6 ops pt=Im){G:Array Bool}{i:Nat}(T:i∈Region.ready .any ops G){K:Env->dN->Prop}:∀(tf:Nat) (al:Array Bool) (l before:List DI) {t:OT} {recs:List Rec} {e:Env} {h:dN},B4 P nt ops pt G al l before->mkT P nt ops pt tf al before=Ik t->
  QV l recs e h (λrecs e=>TV P t recs e h K)->∃D C u A t',B4 P nt ops pt G C u A/\mkT P nt ops pt D C A=Ik t'/\D+Tw u=tf+Tw l/\QV u recs e h (λrecs e=>TV P t' recs e h K)/\
   (i∈u.map (·.idx)\/i∉u.map (·.idx)/\∃f d nx,D=f+1/\tdi P nt ops pt A i=Ik d/\d.q=false/\mkT P nt ops pt f (C.setIfInBounds i Im) A=Ik nx/\
    ∀(recs:List Rec) (e:Env) (h:dN) (K:Env->dN->Prop),TV P t' recs e h K->ge P d.toII e h λv h'=>sN d.chk recs h'/\TV P nx recs (e.put d.dst v) h' K)
 |tf,al,l,before,t,recs,e,h,v,m,hk=>by
  obtain⟨o,I,h1,h2⟩:=Qk T;have Y:i<ops.size:=(YA.1 I).1;by_cases U:i∈l.map (·.idx)
  .exact⟨tf,al,l,before,t,v,m,rfl,hk,.inl U⟩
  have lu:al.getD i Im=false:=by
   cases hc:al.getD i Im with
   |false=>rfl
   |true=>
    rcases(v.ao i Y).1 hc with x|x
    .rw[h1]at x;cases x
    .exact absurd x U
  have J:i∈Region.ready .any ops al:=zEW I lu λd E=>by
   have V:=((Zz H i o I).2.1 d E).1;exact⟨by rw[v.as];exact V,(v.ao d V).2 (.inl (h2 d E))⟩
  have S:¬(Region.ready .any ops al).isEmpty=Im:=λx=>by
   rw[List.isEmpty_iff.1 x]at J;cases J
  match tf,m with
  |0,m=>
   unfold mkT at m;rw[Iv S]at m;cases m
  |f+1,m=>
   have Sf:=m;unfold mkT at m;rw[Iv S]at m;split at m
   .rename_i k W;simp only[YX]at m;obtain⟨d,E,m⟩:=m;split at m
    .rename_i hq;simp only[YJ]at m;obtain⟨nx,Z,rfl⟩:=m;obtain⟨D,C,u,A,t',L,N,O,R,X⟩:=zHU H T f _ (l++[d]) (before++[d]) (v.push H (List.mem_of_find?_eq_some W) E hq) Z (QV.append l [d] hk);exact⟨D,C,u,A,t',L,N,by rw[O];simp;omega,R,X⟩
    .cases m
   .obtain⟨d,nx,L,N,O,R⟩:=zKf _ m i J;grind
termination_by tf=>tf
def subTV{P:Program}{t:OT}{h:dN}{K:Env->dN->Prop}:SubK λrecs e=>TV P t recs e h K:=λ_ _ _ hs m=>TV.sub t hs m
def zQB{B:Nat}{w0:World}{js:jv}{hs:dN}{K:Env->dN->Prop}{Q:Exit->Act->World->Prop}(H:F6 ops pt=Im)(hn:∀S h' e' a' w',FR js hs S h'->MR B w0 S h' w'->ER nt S e' a'->K e' h'->Q .normal a' w'):
  ∀(n tf:Nat) (C al:Array Bool) (l before:List DI) {t:OT} {recs:List Rec} {j:jv} {h:dN} {w:World} {e:Env} {a:Act},tf+Tw l=n->B4 P nt ops pt C al l before->mkT P nt ops pt tf al before=Ik t->MR B w0 j h w->ER nt j e a->FR js hs j h->
   QV l recs e h (λrecs e=>TV P t recs e h K)->wpAny P .any ops Q n C a w:=by
 have fin:∀{tf:Nat} {C al:Array Bool} {l before:List DI} {t:OT} {recs:List Rec} {j:jv} {h:dN} {w:World} {e:Env} {a:Act},B4 P nt ops pt C al l before->mkT P nt ops pt tf al before=Ik t->MR B w0 j h w->ER nt j e a->FR js hs j h->
   QV l recs e h (λrecs e=>TV P t recs e h K)->Region.ready .any ops C=[]->Q .normal a w:=by
  intro tf C al l before t recs j h w e a v G m r I E O;have L:∀{i:Nat} {o:Oper},ops[i]? = Ik o->∀d∈qK o,d<ops.size:=λA d D=>((Zz H _ _ A).2.1 d D).1;have X:l=[]:=by
   cases l with
   |nil=>rfl
   |cons q rest=>
    exfalso;obtain⟨o,A,_⟩:=v.fr q bj;have yq:q.idx<ops.size:=(YA.1 A).1
    have:q.idx∈Region.ready .any ops C:=zEW A (v.lc q bj) λd D=>by
     refine⟨by rw[v.cs];exact L A d D,?_⟩;have W:=((Zz H _ _ A).2.1 d D).2;rcases(v.ao d (L A d D)).1 (v.ac q.idx yq ((v.ao _ yq).2 (.inr bj)) d W)with x|x
     .exact x
     .exfalso;obtain⟨p,hp,rfl⟩:=YD.1 x;rcases Yq.1 hp with rfl|hp
      .exact(Zz H _ _ A).1 W
      .exact(Sp.1 v.or).1 p hp W
    rw[O]at this;cases this
  subst X;have pJ:(Region.ready .any ops al).isEmpty=Im:=by
   rw[List.isEmpty_iff,List.eq_nil_iff_forall_not_mem];intro i J;obtain⟨o,A,h1,h2⟩:=Qk J;have af:i<ops.size:=(YA.1 A).1
   have:i∈Region.ready .any ops C:=zEW A (by
    cases hc:C.getD i Im with
    |false=>rfl
    |true=>rw[(v.ao i af).2 (.inl hc)]at h1;cases h1) λd D=>by
    refine⟨by rw[v.cs];exact L A d D,?_⟩;rcases(v.ao d (L A d D)).1 (h2 d D)with x|x
    .exact x
    .simp at x
   rw[O]at this;cases this
  have:t=.done:=by
   cases tf<;>unfold mkT at G<;>rw[Iu pJ]at G<;>cases G<;>rfl
  subst this;exact hn j h e a w I m r E
 intro n
 induction n with
 |zero=>
  intro tf C al l before t recs j h w e a X v G m r I E;have R:Region.ready .any ops C=[]:=by
   rw[List.eq_nil_iff_forall_not_mem];intro i J;obtain⟨uJ,uG,T,V,t',a1,a2,a3,a4,N⟩:=zHU H J (K:=K) tf al l before v G E;simp_all
  exact⟨R,fin v G m r I E R⟩
 |succ n ih=>
  intro tf C al l before t recs j h w e a X v G m r I E;refine⟨λO=>fin v G m r I E O,λi J=>?_⟩;obtain⟨uJ,uG,T,V,t',U,dE,a3,cB,N⟩:=zHU H J (K:=K) tf al l before v G E;rcases N with N|⟨NG,f,d,nx,rfl,D,Kl,bZ,an⟩
  .obtain⟨p,hp,rfl⟩:=YD.1 N;obtain⟨o,A,hit⟩:=U.fr p hp;have hq:=U.qu p hp;obtain⟨l1,l2,rfl⟩:=List.append_of_mem hp;obtain⟨v2,Y⟩:=U.take H J;obtain⟨u,hu,Z⟩:=QV.front subTV l1 Y cB;refine Ea m r A hit hq hu λa' r'=>?_;exact ih uJ _ uG (l1++l2) V (by simp at a3 ⊢;omega) v2 dE m r' I Z
  .obtain⟨o,A,hit,nB,_⟩:=zEQ D;obtain⟨v2,Y⟩:=U.eff H J NG D Kl;have Z:=QV.frontE (K':=λrecs e h'=>TV P nx recs e h' K) T Y (QV.mono (λrecs e E=>an recs e h K E) T cB);refine zEu m r A hit Kl Z ?_;intro u h' S a' w' fX hm R uh;exact ih f _ _ T V aH v2 bZ hm R (I.trans fX) uh.2
end
end Go.Ab
