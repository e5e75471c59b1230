/- . -/
import Derived.WalkKit
import Derived.Laws.StructEq
import Derived.Lib.AppendZeros
import Derived.Laws.BytesString
set_option linter.all false
set_option linter.defProp false
abbrev V1:=List Int
abbrev V2:=List (List Int)
abbrev V3:=List (List (List Int))
open Go.IntKind renaming wrap->Lp
open List renaming length->Lu
namespace Go
def LB{p:Prop}(h:p:=by decide):p:=h
def af{p:Prop}(h:p:=by omega):p:=h
def aK{p:Prop}(h:p:=by simp):p:=h
def DK{c:Prop}{h:Decidable c}(k:c){α:Sort _}{t e:α}:(if c then t else e)=t:=if_pos k
def DL{c:Prop}{h:Decidable c}(k:¬c){α:Sort _}{t e:α}:(if c then t else e)=e:=if_neg k
end Go
open Array renaming all_eq_true'->Gt,getD_eq_getD_getElem?->D0,getElem?_eq_getElem->GB,getElem?_modify->FT,toArray_toList->Ew
open Bool renaming false_eq_true->EB,not_eq_true'->FX,true->DF
open Int renaming toNat_natCast->Fs
open List renaming all_cons->Ej,all_eq_true->D2,ext_getElem?->En,flatten_cons->FY,length->F6,length_eq_zero_iff->F5,map_congr_left->EA,mem_filter->F8,mem_of_mem_drop->Ey,nodup_append->FQ,pairwise_append->GG,pairwise_map->GF,pairwise_singleton->G9,range->DO,replicate->Ep,replicate_succ->Es
open Nat renaming add_mul->FF,eq_zero_or_pos->F4,mul_one->Fe,ne_of_lt->Ev,zero_mul->E1
open Option renaming getD_some->F9,map_some->EF,some->Dc
open True renaming intro->DJ
def na:=@Nat.le_refl
def YQ:=@List.getElem?_eq_getElem
def YX:=@And.intro
def YZ:=@List.getElem_mem
def YJ:=@Option.bind_eq_some_iff
def YK:=@Option.map_eq_some_iff
def YV:=@Nat.zero_le
def YW:=@List.getD_eq_getElem?_getD
def YB:=@List.length_append
def YY:=@List.mem_append
def YG:=@Nat.lt_or_ge
def YU:=@List.eq_nil_of_length_eq_zero
def YH:=@List.mem_cons
def YF:=@List.length_map
def YN:=@List.take_succ_eq_append_getElem
def YM:=@Nat.lt_succ_self
def YP:=@Option.bind_some
def YL:=@List.length_replicate
def YT:=@List.mem_singleton
def YR:=@List.mem_iff_getElem
def YS:=@List.take_of_length_le
def YD:=@Int.toNat_of_nonneg
def YC:=@Option.some.injEq
def YE:=@List.map_cons
def YA:=@List.length_set
def YI:=@List.mem_map
def YO:=@Int.mul_le_mul_of_nonneg_right
def Yq:=@List.getElem?_eq_none
def Yx:=@List.map_append
def Yz:=@List.getElem?_append_right
def Yj:=@List.getElem?_eq_some_iff
def Yk:=@Nat.sub_self
def Yv:=@List.append_assoc
def Yw:=@Nat.lt_of_lt_of_le
def Yb:=@List.length_singleton
def Yy:=@Int.mul_le_mul_of_nonneg_left
def Yg:=@List.mem_of_getElem?
def Yu:=@List.length_cons
def Yh:=@List.length_take
def Yf:=@List.take_length
def Yn:=@List.getElem?_append_left
def Ym:=@List.not_mem_nil
def Yp:=@Array.getElem?_eq_some_iff
def Yl:=@List.nil_append
def Yr:=@List.cons_append
def Yt:=@List.mem_cons_of_mem
def Ys:=@Int.emod_eq_of_lt
def Yd:=@Int.tmod_eq_emod_of_nonneg
def Yc:=@List.getElem?_take
def Ye:=@List.append_nil
def Ya:=@List.map_nil
def Yi:=@List.eq_of_mem_replicate
def Yo:=@Bool.and_eq_true
def Y0:=@List.getElem?_drop
def Y3:=@Int.emod_nonneg
def Y4:=@List.getElem?_set
def Y5:=@Nat.zero_add
def Y6:=@Int.emod_lt_of_pos
def Y7:=@Prod.mk.injEq
def Y8:=@Nat.le_of_lt
def Y9:=@Int.mul_zero
def UQ:=@List.length_drop
def UX:=@Nat.succ_le_of_lt
def UZ:=@List.getElem?_map
def UJ:=@Nat.le_trans
def UK:=@Int.emod_emod_of_dvd
def UW:=@Nat.le_succ
def UB:=@List.mem_take_iff_getElem
def UY:=@List.mem_of_mem_take
def UG:=@Int.mul_nonneg
def UU:=@Int.zero_mul
def UH:=@List.mem_cons_self
def UF:=@Nat.add_zero
def UN:=@Int.mul_comm
def UM:=@List.ext_getElem
def UP:=@Nat.add_assoc
def UL:=@Nat.le_of_eq
def UT:=@List.take_zero
def UR:=@Int.mul_assoc
def US:=@List.singleton_append
def UD:=@List.mem_flatMap
def UC:=@List.mem_range
def UE:=@List.getElem_map
def UA:=@Int.le_refl
def UI:=@List.getElem_replicate
def UO:=@Int.add_zero
def Uq:=@Int.tdiv_eq_ediv_of_nonneg
def Ux:=@List.getElem_range
def Uz:=@List.take_append_of_le_length
def Uj:=@Int.natCast_mul
def Uk:=@Int.dvd_refl
def Uv:=@Bool.or_eq_true
def Uw:=@Int.mul_emod
def Ub:=@Int.one_mul
def Uy:=@Int.neg_mul
def Ug:=@List.drop_of_length_le
def Uu:=@Classical.epsilon_spec
def Uh:=@Nat.lt_irrefl
def Uf:=@Int.add_mul
def Un:=@List.map_map
def Um:=@Int.natCast_succ
def Ul:=@List.drop_append_of_le_length
def Ur:=@Int.mul_one
def Ut:=@Int.mul_neg
def Us:=@Int.lt_or_le
def Ud:=@List.getElem_append_right
def Uc:=@List.getElem_append_left
def Ue:=@Nat.add_comm
def Ua:=@Int.zero_add
def Ui:=@Int.sub_emod
def Uo:=@List.length_zipWith
def U0:=@List.length_range
def U1:=@List.foldl_append
def U2:=@Array.size_append
def U3:=@Int.mul_add
namespace Go.Ab
variable{B nt:Nat}
inductive jZ where
 |b6 (c:Nat)
 |grown (e:Nat)
def fw{α:Type}(o:Option α)(K:α->Prop):Prop:=∃v,o=Dc v/\K v
def zCY{α:Type}(v:α)(K:α->Prop):fw (Dc v) K=K v:=by
 apply propext;exact⟨λ⟨_,h,k⟩=>by cases h;exact k,λk=>⟨v,rfl,k⟩⟩
def zBN{α:Type}(K:α->Prop):fw none K=False:=by
 apply propext;exact⟨λ⟨_,h,_⟩=>(Option.some_ne_none _ h.symm).elim,λk=>k.elim⟩
def zOv{α β:Type}(o:Option α)(f:α->Option β)(K:β->Prop):fw (o.bind f) K=fw o λa=>fw (f a) K:=by
 cases o with
 |none=>rw[zBN];exact zBN K
 |some v=>rw[zCY];rfl
def zQl{α β:Type}(o:Option α)(f:α->β)(K:β->Prop):fw (o.map f) K=fw o λa=>K (f a):=by
 cases o with
 |none=>rw[zBN];exact zBN K
 |some v=>rw[zCY];exact zCY _ K
def QD{α:Type}{o:Option α}{v:α}{K:α->Prop}(h:o=Dc v)(k:K v):fw o K:=⟨v,h,k⟩
inductive AV where
 |undef
 |bool (b:Bool)
 |int (k:IntKind) (n:Int)
 |str (s:List UInt8)
 |nilp
 |ptr (o i:Nat)
 |b8
 |sl (o off len:Nat) (cap:jZ)
 |nilf
 |clo (f:FuncId) (first cR:List AV)
 |agg (cs:List AV)
 |tup (vs:List AV)
instance:Inhabited AV:=⟨.undef⟩
def AV.one:AV->Bool
 | .undef | .agg _ | .tup _=>false
 |_=>DF
def AV.cells:AV->List AV
 | .agg cs=>cs
 |v=>[v]
structure tZ where
 rw:Bool
 cells:List AV
structure ct where
 aM:Nat
 bt:Nat->Option tZ
namespace ct
def bf(h:ct)(l:tZ):ct:=⟨h.aM+1,λo=>if o=h.aM then Dc l else h.bt o⟩
def set(h:ct)(o:Nat)(cells:List AV):ct:=⟨h.aM,λl=>if l=o then Dc ⟨DF,cells⟩else h.bt l⟩
def kill(h:ct)(o:Nat):ct:=⟨h.aM,λl=>if l=o then none else h.bt l⟩
def dR(h:ct)(o i:Nat):Option AV:=(h.bt o).bind λl=>l.cells[i]?
def rd(h:ct)(o i n:Nat):Option (List AV):=(h.bt o).bind λl=>if i+n<=l.cells.length then Dc ((l.cells.drop i).take n)else none
def wr(h:ct)(o i:Nat)(vs:List AV):Option ct:=(h.bt o).bind λl=>
 if l.rw=DF/\i+Lu vs<=Lu l.cells/\vs.all AV.one=DF then Dc (h.set o (l.cells.take i++vs++l.cells.drop (i+Lu vs)))else none
end ct
abbrev Env:=Nat->AV
def Env.put(e:Env)(d:Option Nat)(v:AV):Env:=match d with
 |some d=>λt=>if t=d then v else e t
 |none=>e
inductive IX where
 |t (n:Nat)
 |c (v:AV)
def IX.ev(e:Env):IX->AV
 | .t n=>e n
 | .c v=>v
inductive CP where
 |other|bool|slice|pointer|func|ints (n:Nat)
inductive qk where
 -- quiet
 |mv (x:IX)
 |pick (c a b:IX)
 |bin (op:BinOp) (ek:CP) (x y:IX)
 |un (op:UnOp) (x:IX)
 |conv (k:IntKind) (x:IX)
 |nilCheck (x:IX)
 |build (zero:List AV) (parts:List (Nat×Nat×IX))
 |field (agg:Bool) (n off:Nat) (x:IX)
 |fieldAddr (off:Nat) (x:IX)
 |indexAddr (e:Nat) (x i:IX)
 |indexStr (x i:IX)
 |extract (x:IX) (i:Nat)
 |len (x:IX)
 |lenStr (x:IX)
 |cap (x:IX)
 |slice (e:Nat) (x:IX) (lo hi mx:Option IX)
 |sliceStr (x:IX) (lo hi:Option IX)
 |maxmin (max:Bool) (x y:IX)
 |makeFunc (f:FuncId) (first cR:List IX)
 |load (agg:Bool) (n:Nat) (x:IX)
 |rev (k:Nat)
 |revS (k len:Nat)
 -- with C6
 |alloc (zero:List AV)
 |box (x:IX)
 |buildSl (e len:Nat) (zero:List AV) (parts:List (Nat×Nat×IX))
 |store (n:Nat) (x v:IX)
 |makeSl (e bytes:Nat) (zero:List AV) (l c:IX)
 |appendMk (e bytes:Nat) (zero:List AV) (s n:IX)
 |append (e bytes:Nat) (s x:IX)
 |copy (e:Nat) (d s:IX)
 |call (f:FuncId) (args:List IX)
 |callV (f:IX) (args:List IX)
 |strOf (x:IX)
def xW(op:BinOp)(k:IntKind)(a b:Int):Option AV:=
 match op with
 | .add=>Dc (.int k (k.wrap (a+b)))
 | .sub=>Dc (.int k (k.wrap (a-b)))
 | .mul=>Dc (.int k (k.wrap (a*b)))
 | .quo=>if b=0 then none else Dc (.int k (k.wrap (a.tdiv b)))
 | .rem=>if b=0 then none else Dc (.int k (a.tmod b))
 | .eql=>Dc (.bool (decide (a=b)))
 | .neq=>Dc (.bool (!decide (a=b)))
 | .lss=>Dc (.bool (decide (a<b)))
 | .leq=>Dc (.bool (decide (a<=b)))
 | .gtr=>Dc (.bool (decide (b<a)))
 | .geq=>Dc (.bool (decide (b<=a)))
 | .and=>Dc (.int k (k.wrap (BitVec.ofInt k.bits a &&& BitVec.ofInt k.bits b).toNat))
 | .or=>Dc (.int k (k.wrap (BitVec.ofInt k.bits a ||| BitVec.ofInt k.bits b).toNat))
 | .xor=>Dc (.int k (k.wrap (BitVec.ofInt k.bits a ^^^ BitVec.ofInt k.bits b).toNat))
 | .andNot=>Dc (.int k (k.wrap (BitVec.ofInt k.bits a &&& ~~~ BitVec.ofInt k.bits b).toNat))
 |_=>none
def zKb(op:BinOp)(k:IntKind)(a b:Int):Option AV:=
 if b<0 then none else
 match op with
 | .shl=>Dc (.int k (k.wrap (a*2 ^ (min b.toNat k.bits))))
 | .shr=>Dc (.int k (a.fdiv (2 ^ (min b.toNat k.bits))))
 |_=>none
def astr(op:BinOp)(a b:List UInt8):Option AV:=
 match op with
 | .add=>if a.length+Lu b<=9223372036854775807 then Dc (.str (a++b))else none
 | .eql=>Dc (.bool (a == b))
 | .neq=>Dc (.bool !(a == b))
 | .lss=>Dc (.bool (Op.bytesLess a b))
 | .leq=>Dc (.bool (Op.bytesLess a b || a == b))
 | .gtr=>Dc (.bool !(Op.bytesLess a b || a == b))
 | .geq=>Dc (.bool !(Op.bytesLess a b))
 |_=>none
def Aq(op:BinOp)(r:Bool):Option AV:=
 match op with
 | .eql=>Dc (.bool r)
 | .neq=>Dc (.bool !r)
 |_=>none
def aggB:List AV->List AV->Option Bool
 |[],[]=>Dc DF
 | .int k a::xs,.int k' b::ys=>if k=k' then(aggB xs ys).map λr=>decide (a=b) && r else none
 |_,_=>none
def vT(op:BinOp)(l:CP)(x y:AV):Option AV:=
 match x,y with
 | .int k a,.int k' b=>
  match op with
  | .shl | .shr=>zKb op k a b
  |_=>if k=k' then xW op k a b else none
 | .str a,.str b=>astr op a b
 | .bool a,.bool b=>match l with | .bool=>Aq op (a == b)|_=>none
 | .b8,.b8=>match l with | .slice=>Aq op DF|_=>none
 | .sl _ _ _ _,.b8=>match l with | .slice=>Aq op false|_=>none
 | .b8,.sl _ _ _ _=>match l with | .slice=>Aq op false|_=>none
 | .nilp,.nilp=>match l with | .pointer=>Aq op DF|_=>none
 | .ptr _ _,.nilp=>match l with | .pointer=>Aq op false|_=>none
 | .nilp,.ptr _ _=>match l with | .pointer=>Aq op false|_=>none
 | .nilf,.nilf=>match l with | .func=>Aq op DF|_=>none
 | .clo _ _ _,.nilf=>match l with | .func=>Aq op false|_=>none
 | .nilf,.clo _ _ _=>match l with | .func=>Aq op false|_=>none
 | .agg xs,.agg ys=>match l with | .ints n=>if xs.length=n/\Lu ys=n then(aggB xs ys).bind λr=>Aq op r else none|_=>none
 |_,_=>none
def aun(op:UnOp)(x:AV):Option AV:=
 match op,x with
 | .neg,.int k n=>Dc (.int k (k.wrap (0-n)))
 | .xor,.int k n=>xW .xor k (if k.signed then -1 else k.max) n
 | .not,.bool b=>Dc (.bool !b)
 |_,_=>none
def uy(cells:List AV):List (Nat×Nat×AV)->Option (List AV)
 |[]=>Dc cells
 |(off,size,v)::rest=>
  if v.cells.length=size/\off+size<=Lu cells/\v.cells.all AV.one=DF then uy (cells.take off++v.cells++cells.drop (off+size)) rest else none
def zBZ(x:AV)(y:Nat):Option Nat:=
 match x with
 | .int _ i=>if 0<=i/\i<=y then Dc i.toNat else none
 |_=>none
def zq(x:Option AV)(l y:Nat):Option Nat:=
 match x with
 |some x=>zBZ x y
 |none=>Dc l
def Qy(e:Nat)(x:AV)(A u mx:Option AV):Option AV:=
 match x with
 | .sl o off len (.b6 c)=>
  (zq mx c c).bind λm=>(zq u len m).bind λh=>(zq A 0 h).bind λl=>
   if u.isNone=DF/\mx.isSome=DF then none else Dc (.sl o (if m=l then off else off+l*e) (h-l) (.b6 (m-l)))
 | .sl o off len (.grown g)=>
  match mx with
  |some mx=>(zBZ mx len).bind λm=>(zq u len m).bind λh=>(zq A 0 h).bind λl=>
   if u.isNone=DF then none else Dc (.sl o (if m=l then 0 else off+l*e) (h-l) (.b6 (m-l)))
  |none=>(zq u len len).bind λh=>(zq A 0 h).bind λl=>
   Dc (.sl o (off+l*e) (h-l) (.grown (if g=e then g else 0)))
 | .b8=>(zq mx 0 0).bind λm=>(zq u 0 m).bind λh=>(zq A 0 h).bind λ_=>
   if u.isNone=DF/\mx.isSome=DF then none else Dc .b8
 |_=>none
def zCk(x:AV)(A u:Option AV):Option AV:=
 match x with
 | .str s=>(zq u s.length s.length).bind λh=>(zq A 0 h).bind λl=>Dc (.str ((s.take h).drop l))
 |_=>none
def nu(c a b:AV):Option AV:=
 match c with
 | .bool t=>Dc (if t=DF then a else b)
 |_=>none
def oT(k:IntKind)(x:AV):Option AV:=
 match x with
 | .int _ n=>Dc (.int k (k.wrap n))
 |_=>none
def vZ(x:AV):Option AV:=
 match x with
 | .ptr o i=>Dc (.ptr o i)
 | .clo f a b=>Dc (.clo f a b)
 |_=>none
def ZK(agg:Bool)(n off:Nat)(x:AV):Option AV:=
 match x with
 | .agg cs=>if agg=DF then Dc (.agg ((cs.drop off).take n))else cs[off]?
 |_=>none
def qN(off:Nat)(x:AV):Option AV:=
 match x with
 | .ptr o i=>Dc (.ptr o (i+off))
 |_=>none
def qy(sz:Nat)(x i:AV):Option AV:=
 match x,i with
 | .sl o off len _,.int _ n=>if 0<=n/\n<len then Dc (.ptr o (off+n.toNat*sz))else none
 |_,_=>none
def qj(x i:AV):Option AV:=
 match x,i with
 | .str s,.int _ n=>if 0<=n then(s[n.toNat]?).map λc=>.int .u8 c.toNat else none
 |_,_=>none
def qW(x:AV)(i:Nat):Option AV:=
 match x with
 | .tup vs=>vs[i]?
 |_=>none
def wD(x:AV):Option AV:=
 match x with
 | .sl _ _ n _=>Dc (.int .i64 n)
 | .b8=>Dc (.int .i64 0)
 |_=>none
def qx(x:AV):Option AV:=
 match x with
 | .str s=>Dc (.int .i64 s.length)
 |_=>none
def wm(x:AV):Option AV:=
 match x with
 | .sl _ _ _ (.b6 c)=>Dc (.int .i64 c)
 | .b8=>Dc (.int .i64 0)
 |_=>none
def qi(mx:Bool)(x y:AV):Option AV:=
 match x,y with
 | .int k a,.int k' b=>if k=k' then Dc (.int k (if mx=DF then max a b else min a b))else none
 |_,_=>none
def CF(agg:Bool)(n:Nat)(x:AV)(h:ct):Option AV:=
 match x with
 | .ptr o i=>if agg=DF then(h.rd o i n).map .agg else h.dR o i
 |_=>none
def qv(nb:Nat)(op:qk)(e:Env)(h:ct):Option AV:=
 match op with
 | .mv x=>Dc (x.ev e)
 | .pick c a b=>nu (c.ev e) (a.ev e) (b.ev e)
 | .bin op ek x y=>vT op ek (x.ev e) (y.ev e)
 | .un op x=>aun op (x.ev e)
 | .conv k x=>oT k (x.ev e)
 | .nilCheck x=>vZ (x.ev e)
 | .build z ps=>(uy z (ps.map λp=>(p.1,p.2.1,p.2.2.ev e))).map .agg
 | .field agg n off x=>ZK agg n off (x.ev e)
 | .fieldAddr off x=>qN off (x.ev e)
 | .indexAddr sz x i=>qy sz (x.ev e) (i.ev e)
 | .indexStr x i=>qj (x.ev e) (i.ev e)
 | .extract x i=>qW (x.ev e) i
 | .len x=>wD (x.ev e)
 | .lenStr x=>qx (x.ev e)
 | .cap x=>wm (x.ev e)
 | .slice sz x lo hi mx=>Qy sz (x.ev e) (lo.map (·.ev e)) (hi.map (·.ev e)) (mx.map (·.ev e))
 | .sliceStr x lo hi=>zCk (x.ev e) (lo.map (·.ev e)) (hi.map (·.ev e))
 | .maxmin mx x y=>qi mx (x.ev e) (y.ev e)
 | .makeFunc f first cR=>Dc (.clo f (first.map (·.ev e)) (cR.map (·.ev e)))
 | .load agg n x=>CF agg n (x.ev e) h
 | .rev k=>Dc (.ptr (nb+k) 0)
 | .revS k n=>Dc (.sl (nb+k) 0 n (.b6 n))
 |_=>none
def iU(z:List AV)(n:Nat):List AV:=(Ep n z).flatten
def alen(x:AV):Option Nat:=
 match x with
 | .b8=>Dc 0
 | .sl _ _ n _=>Dc n
 |_=>none
def zAu(e:Nat)(h:ct)(x:AV)(n:Nat):Option (List AV):=
 if n=0 then Dc []else
 match x with
 | .sl o off len _=>if n<=len then h.rd o off (n*e)else none
 |_=>none
def zCK:List AV->Option (List UInt8)
 |[]=>Dc []
 | .int .u8 n::r=>(zCK r).map λs=>UInt8.ofNat n.toNat::s
 |_=>none
def tx(e bytes:Nat)(h:ct)(s:AV)(news:List AV)(m:Nat):Option (AV×ct):=
 match s with
 | .b8=>if m*bytes<=140737488355328/\m<=4611686018427387904 then Dc (.sl h.aM 0 m (.grown e),h.bf ⟨DF,news⟩)else none
 | .sl o off len (.b6 c)=>
  if len+m<=c then(h.wr o (off+len*e) news).map λh'=>(.sl o off (len+m) (.b6 c),h')
  else if (len+m)*bytes<=140737488355328/\len+m<=4611686018427387904 then(h.rd o off (len*e)).map λold=>(.sl h.aM 0 (len+m) (.grown e),h.bf ⟨DF,old++news⟩)else none
 | .sl o off len (.grown g)=>
  if (len+m)*bytes<=140737488355328/\len+m<=4611686018427387904/\g=e then
   (h.bt o).bind λl=>if l.rw=DF/\off+len*e<=l.cells.length then Dc (.sl h.aM 0 (len+m) (.grown e),(h.kill o).bf ⟨DF,(l.cells.drop off).take (len*e)++news⟩)else none
  else none
 |_=>none
def AW(s:AV):Option AV:=
 match s with
 | .b8=>Dc .b8
 | .sl o off len (.b6 c)=>if len<=c then Dc (.sl o off len (.b6 c))else none
 | .sl o off len (.grown e)=>Dc (.sl o off len (.grown e))
 |_=>none
def zDP(e bytes:Nat)(h:ct)(s x:AV):Option (AV×ct):=
 (alen x).bind λm=>if m=0 then(AW s).map λv=>(v,h)else(zAu e h x m).bind λnews=>tx e bytes h s news m
def acopy(e:Nat)(h:ct)(d s:AV):Option (AV×ct):=
 (alen d).bind λn=>(alen s).bind λm=>if min m n=0 then Dc (.int .i64 0,h)else
  match d with
  | .sl o off _ _=>(zAu e h s (min m n)).bind λcs=>(h.wr o off cs).map λh'=>(.int .i64 (min m n:Nat),h')
  |_=>none
def okF(P:Program)(f:FuncId):Bool:=
 match P.funcs[f]? with
 | Dc fn => fn.body.isSome && !(fn.name == "runtime.NumGoroutine")
 |none=>false
section
open Go.RowKit
structure Loc where
 blk:Nat
 base:Nat
 room:Nat
abbrev gz:=Nat->Option Loc
mutual
def VI(j:gz):AV->Value->Prop
 | .undef,_=>True
 | .bool b,cv=>cv=.bool b
 | .int k n,cv=>cv=.int k n
 | .str s,cv=>cv=.string ⟨s.toArray⟩
 | .nilp,cv=>cv=.pointer none
 | .ptr o i,cv=>∃l,j o=Dc l/\cv=.pointer (Dc ⟨l.blk,l.base+i,none⟩)
 | .b8,cv=>cv=.slice none 0 0
 | .sl o off len (.b6 c),cv=>∃l a,j o=Dc l/\cv=.slice (Dc a) len c/\(a=⟨l.blk,l.base+off,none⟩\/(c=0/\len=0))
 | .sl o off len (.grown e),cv=>∃l c f,j o=Dc l/\cv=.slice (Dc ⟨l.blk,f,none⟩) len c/\len<=c/\(f=l.base+off\/(len=0/\off≠0/\c=0))/\(f=l.base+off->e≠0->off+c*e<=l.room)
 | .nilf,cv=>cv=.nilFunc
 | .clo f fs cs,cv=>∃vs u,l6 j fs vs/\l6 j cs u/\cv=.func (.func f) vs.toArray u.toArray
 | .agg cs,cv=>∃vs,l6 j cs vs/\cv=.agg vs.toArray
 | .tup cs,cv=>∃vs,l6 j cs vs/\cv=.tuple vs.toArray
def l6(j:gz):List AV->List Value->Prop
 |[],vs=>vs=[]
 |a::as,vs=>∃v r,vs=v::r/\VI j a v/\l6 j as r
end
def gz.le(j u:gz):Prop:=∀o l,j o=Dc l->u o=Dc l
def gz.le.refl(j:gz):j.le j:=λ_ _ h=>h
def gz.le.trans{a b c:gz}(h:a.le b)(k:b.le c):a.le c:=λo l x=>k o l (h o l x)
mutual
def VI.mono{j C:gz}(A:j.le C):∀(v:AV) (u:Value),VI j v u->VI C v u
 | .undef,_,_=>trivial
 | .bool _,_,h | .int _ _,_,h | .str _,_,h | .nilp,_,h | .b8,_,h | .nilf,_,h=>h
 | .ptr o i,u,h=>by obtain⟨l,a,b⟩:=h;exact⟨l,A _ _ a,b⟩
 | .sl o off len (.b6 c),u,h=>by obtain⟨l,q,a,b⟩:=h;exact⟨l,q,A _ _ a,b⟩
 | .sl o off len (.grown e),u,h=>by obtain⟨l,c,f,a,b⟩:=h;exact⟨l,c,f,A _ _ a,b⟩
 | .clo f fs cs,u,h=>by obtain⟨vs,D,a,b,c⟩:=h;exact⟨vs,D,l6.mono A _ _ a,l6.mono A _ _ b,c⟩
 | .agg cs,u,h=>by obtain⟨vs,a,c⟩:=h;exact⟨vs,l6.mono A _ _ a,c⟩
 | .tup cs,u,h=>by obtain⟨vs,a,c⟩:=h;exact⟨vs,l6.mono A _ _ a,c⟩
def l6.mono{j A:gz}(u:j.le A):∀(v:List AV) (l:List Value),l6 j v l->l6 A v l
 |[],_,h=>h
 |a::as,l,h=>by obtain⟨v,r,e,x,y⟩:=h;exact⟨v,r,e,VI.mono u _ _ x,l6.mono u _ _ y⟩
end
def l6.length{j:gz}:∀{vs:List AV} {cs:List Value},l6 j vs cs->vs.length=Lu cs
 |[],_,h=>by simp[show _=[] from h]
 |_::_,_,h=>by obtain⟨v,r,rfl,_,h⟩:=h;simp[l6.length h]
def l6.get{j:gz}:∀{vs:List AV} {cs:List Value},l6 j vs cs->∀{i:Nat} {v:AV},vs[i]? = Dc v->∃l,cs[i]? = Dc l/\VI j v l
 |[],_,_,i,v,hv=>by simp at hv
 |a::as,_,h,i,v,hv=>by
  obtain⟨c,r,rfl,u,h⟩:=h;cases i with
  |zero=>simp at hv;subst hv;exact⟨c,aK,u⟩
  |succ i=>simp at hv;simpa using l6.get h hv
def l6.of_get{j:gz}:∀{vs:List AV} {cs:List Value},vs.length=Lu cs->(∀(i:Nat) (v:AV),vs[i]? = Dc v->∃l,cs[i]? = Dc l/\VI j v l)->l6 j vs cs
 |[],cs,hl,_=>by cases cs with|nil=>rfl|cons _ _=>simp at hl
 |a::as,[],hl,_=>by simp at hl
 |a::as,c::cs,hl,h=>by
  obtain⟨l,u,A⟩:=h 0 a aK;simp at u;subst u;exact⟨c,cs,rfl,A,l6.of_get (by simpa using hl) λi v C=>by simpa using h (i+1) v (by simpa using C)⟩
def l6.append{j:gz}:∀{a:List AV} {x:List Value} {b:List AV} {y:List Value},l6 j a x->l6 j b y->l6 j (a++b) (x++y)
 |[],_,_,_,h,k=>by rw[show _=[] from h];exact k
 |_::_,_,_,_,h,k=>by obtain⟨v,r,rfl,l,h⟩:=h;exact⟨v,_,rfl,l,l6.append h k⟩
def l6.take{j:gz}:∀{a:List AV} {x:List Value} (n:Nat),l6 j a x->l6 j (a.take n) (x.take n)
 |[],_,_,h=>by rw[show _=[] from h];simp[l6]
 |_::_,_,0,_=>by simp[l6]
 |_::_,_,n+1,h=>by obtain⟨v,r,rfl,l,h⟩:=h;exact⟨v,_,rfl,l,l6.take n h⟩
def l6.drop{j:gz}:∀{a:List AV} {x:List Value} (n:Nat),l6 j a x->l6 j (a.drop n) (x.drop n)
 |[],_,_,h=>by rw[show _=[] from h];simp[l6]
 |_::_,_,0,h=>h
 |_::_,_,n+1,h=>by obtain⟨v,r,rfl,l,h⟩:=h;exact l6.drop n h
def VI.oneCell{j:gz}{v:AV}{u:Value}(h:VI j v u)(A:v.one=DF):u.oneCell'=DF:=by
 cases v with
 |undef|agg|tup=>simp[AV.one]at A
 |sl o off len cap=>
  cases cap with
  |b6 c=>obtain⟨l,_,_,rfl,_⟩:=h;rfl
  |grown e=>obtain⟨l,c,f,_,rfl,_⟩:=h;rfl
 |ptr o i=>obtain⟨l,_,rfl⟩:=h;rfl
 |clo=>obtain⟨_,_,_,_,rfl⟩:=h;rfl
 |_=>rw[show u=_ from h];rfl
def VI.cells_one{j:gz}{v:AV}{l:Value}(h:VI j v l)(u:v.one=DF):l.cells = #[l]:=by
 have:=VI.oneCell h u
 cases l<;>simp_all [Value.oneCell',Value.cells]
def VI.cells{j:gz}{v:AV}{l:Value}(h:VI j v l)(u:v.cells.all AV.one=DF):l6 j v.cells l.cells.toList:=by
 cases v with
 |agg cs=>obtain⟨vs,h,rfl⟩:=h;simpa [AV.cells,Value.cells]using h
 |undef=>simp[AV.cells,AV.one]at u
 |tup=>simp[AV.cells,AV.one]at u
 |_=>rw[h.cells_one rfl];exact⟨l,[],rfl,h,rfl⟩
def l6.oneCell{j:gz}{vs:List AV}{cs:List Value}(h:l6 j vs cs)(l:vs.all AV.one=DF):∀c∈cs,c.oneCell'=DF:=by
 intro c u;obtain⟨i,A,rfl⟩:=List.getElem_of_mem u;have E:=h.length;obtain⟨D,e,C⟩:=h.get (i:=i) (YQ af);rw[YQ A]at e;cases e;exact C.oneCell (D2.1 l _ (YZ _))
structure ObjOK(B:Nat)(w:World)(j:gz)(ob:tZ)(l:Loc):Prop where
 one:ob.cells.all AV.one=DF
 row:∃cur ty fz,w.heap[l.blk]? = Dc (.cells cur ty fz)/\(∀i v,ob.cells[i]? = Dc v->∃cv,cur[l.base+i]? = Dc cv/\VI j v cv)/\
  (ob.rw=DF->fz=(0,0)/\l.base+l.room<=cur.size/\B<=l.blk)/\(ob.rw=false->l.blk<B)
structure MR(B:Nat)(w0:World)(j:gz)(h:ct)(w:World):Prop where
 below:Below B w0 w
 bnd:B<=w.heap.size
 fresh:∀o,h.aM<=o->h.bt o=none/\j o=none
 bt:∀o ob l,h.bt o=Dc ob->j o=Dc l->ObjOK B w j ob l
 apart:∀o o' ob jN l l',o≠o'->h.bt o=Dc ob->h.bt o'=Dc jN->j o=Dc l->j o'=Dc l'->ob.rw=DF->l.blk≠l'.blk
structure FR(j:gz)(h:ct)(j':gz)(h':ct):Prop where
 aM:h.aM<=h'.aM
 inj:∀o,o<h.aM->j' o=j o
 pend:∀o,o<h.aM->j o=none->h'.bt o=h.bt o
def FR.refl(j:gz)(h:ct):FR j h j h:=⟨na _,λ_ _=>rfl,λ_ _ _=>rfl⟩
def FR.trans{j C D:gz}{h h' u:ct}(a:FR j h C h')(b:FR C h' D u):FR j h D u:=
 ⟨UJ a.aM b.aM,λo l=>(b.inj o (Yw l a.aM)).trans (a.inj o l),
  λo l A=>(b.pend o (Yw l a.aM) ((a.inj o l).trans A)).trans (a.pend o l A)⟩
def MR.lt{B:Nat}{w0 w:World}{j:gz}{h:ct}(m:MR B w0 j h w){o:Nat}{l:Loc}(u:j o=Dc l):o<h.aM:=by
 rcases YG o h.aM with x|x
 .exact x
 .rw[(m.fresh o x).2]at u;cases u
def FR.le{B:Nat}{w0 w:World}{j u:gz}{h h':ct}(f:FR j h u h')(m:MR B w0 j h w):j.le u:=
 λo _ l=>(f.inj o (m.lt l)).trans l
def MR.drew{B:Nat}{w0 w:World}{j:gz}{h:ct}(m:MR B w0 j h w):MR B w0 j h w.drew:=
 ⟨m.below.drew,m.bnd,m.fresh,λo u l a b=>⟨(m.bt o u l a b).one,(m.bt o u l a b).row⟩,m.apart⟩
def Zm(P:Program)(f:FuncId)(args:List AV)(h:ct)(K:AV->ct->Prop):Prop:=
 ∀(B:Nat) (w0:World) (j:gz) (w:World) (cargs:List Value),MR B w0 j h w->l6 j args cargs->
  Calls P f cargs.toArray w λe A=>∃v h' l u,e=.returned u/\FR j h l h'/\MR B w0 l h' A/\VI l v u/\K v h'
def Zm.mono{P:Program}{f:FuncId}{args:List AV}{h:ct}{K K':AV->ct->Prop}(c:Zm P f args h K)(u:∀v h',K v h'->K' v h'):Zm P f args h K':=
 λB w0 j w cargs m C=>(c B w0 j w cargs m C).mono λ_ _ ⟨v,h',A,l,a,b,c,d,k⟩=>⟨v,h',A,l,a,b,c,d,u _ _ k⟩
end
section
open Go.RowKit
variable{w0 w:World}{j:gz}{h:ct}
def MR.cell(m:MR B w0 j h w){o i:Nat}{v:AV}{l:Loc}(A:h.dR o i=Dc v)(H:j o=Dc l):
  ∃u,w.cell? ⟨l.blk,l.base+i,none⟩=Dc u/\VI j v u:=by
 unfold ct.dR at A;cases ho:h.bt o with
 |none=>simp[ho]at A
 |some ob=>
  simp only[ho,YP]at A;obtain⟨cur,ty,fz,C,G,_⟩:=(m.bt o ob l ho H).row;obtain⟨u,D,E⟩:=G i v A;exact⟨u,by simp[World.cell?,C,D],E⟩
def ct.rd_some{o i n:Nat}{vs:List AV}(l:h.rd o i n=Dc vs):∃u,h.bt o=Dc u/\i+n<=Lu u.cells/\vs=(u.cells.drop i).take n:=by
 unfold ct.rd at l;cases ho:h.bt o with
 |none=>simp[ho]at l
 |some u=>
  simp only[ho,YP]at l;split at l
  .cases l;exact⟨u,rfl,by assumption,rfl⟩
  .cases l
def ZN(b o k:Nat):(⟨b,o,none⟩:Addr).add k=⟨b,o+k,none⟩:=by
 unfold Addr.add;split<;>simp_all
def MR.cells(m:MR B w0 j h w){o i n:Nat}{vs:List AV}{l:Loc}(R:h.rd o i n=Dc vs)(K:j o=Dc l):
  ∃cs:List Value,l6 j vs cs/\Lu cs=n/\vs.all AV.one=DF/\∀k u,cs[k]? = Dc u->w.cell? ((⟨l.blk,l.base+i,none⟩:Addr).add k)=Dc u:=by
 obtain⟨G,L,hle,rfl⟩:=ct.rd_some R;have M:=(m.bt o G l L K).one;obtain⟨cur,ty,fz,N,O,_⟩:=(m.bt o G l L K).row;have hlen:((G.cells.drop i).take n).length=n:=by simp;omega
 have J:∀k,k<n->∃C,cur[l.base+i+k]? = Dc C/\VI j (G.cells.getD (i+k) .undef) C:=by
  intro k A;have I:i+k<Lu G.cells:=af
  obtain⟨C,E,H⟩:=O (i+k) G.cells[i+k] (YQ I);exact⟨C,by rw[<-E];congr 1;omega,by simpa [List.getD,YQ I]using H⟩
 refine⟨(DO n).map λk=>cur.getD (l.base+i+k) undef,l6.of_get (by simp;omega) ?_,aK,?_,?_⟩
 .intro k v A;have D:k<n:=by
   rcases YG k n with x|x
   .exact x
   .rw[Yq af]at A;cases A
  obtain⟨C,E,H⟩:=J k D;refine⟨C,by simp[D,D0,E],?_⟩;rw[Yc,DK D,Y0]at A;rw[List.getD,A]at H;exact H
 .exact D2.2 λx S=>D2.1 M x (Ey (UY S))
 .intro k u A;have D:k<n:=by
   rcases YG k n with x|x
   .exact x
   .rw[Yq (by simp;omega)]at A;cases A
  obtain⟨C,E,_⟩:=J k D;simp[D,D0,E]at A;subst A;rw[ZN];simp[World.cell?,N,E]
def gz.put(j:gz)(o:Nat)(l:Loc):gz:=λu=>if u=o then Dc l else j u
def MR.put_le(m:MR B w0 j h w)(l:Loc):j.le (j.put h.aM l):=by
 intro o A u
 have:=m.lt u
 unfold gz.put;rw[DL af];exact u
def ObjOK.alloc{C:tZ}{l:Loc}(k:ObjOK B w j C l)(o:Obj){A:gz}(G:j.le A):ObjOK B (w.alloc o) A C l:=by
 refine⟨k.one,?_⟩;obtain⟨cur,ty,fz,u,E,H⟩:=k.row;refine⟨cur,ty,fz,?_,λi v I=>?_,H⟩
 .rw[heap_alloc_old _ _ (Yp.1 u).1];exact u
 .obtain⟨D,a,b⟩:=E i v I;exact⟨D,a,VI.mono G _ _ b⟩
def MR.bf(m:MR B w0 j h w){cells:List AV}{cur:Array Value}{ty:TypeId}{room:Nat}(C:cells.all AV.one=DF)
  (H:l6 j cells (cur.toList.take cells.length)) (E:room<=cur.size):
  MR B w0 (j.put h.aM ⟨w.heap.size,0,room⟩) (h.bf ⟨DF,cells⟩) (w.alloc (.cells cur ty))/\FR j h (j.put h.aM ⟨w.heap.size,0,room⟩) (h.bf ⟨DF,cells⟩):=by
 have hle:=m.put_le ⟨w.heap.size,0,room⟩;refine⟨⟨m.below.alloc m.bnd _,by simp;have:=m.bnd;omega,?_,?_,?_⟩,?_⟩
 .intro o u;simp only[ct.bf]at u;simp only[ct.bf,gz.put,DL (show ¬o=h.aM by omega)];exact m.fresh o af
 .intro o A l u hl;by_cases e:o=h.aM
  .subst e;simp only[ct.bf,if_true,YC]at u;simp only[gz.put,if_true,YC]at hl;subst u;subst hl;refine⟨C,cur,ty,(0,0),heap_alloc_new w _,λi v I=>?_,λ_=>⟨rfl,by simpa using E,m.bnd⟩,λx=>by cases x⟩;obtain⟨G,a,b⟩:=H.get I;refine⟨G,?_,VI.mono hle _ _ b⟩;rw[Yc]at a;split at a
   .simpa using a
   .cases a
  .simp only[ct.bf,DL e]at u;simp only[gz.put,DL e]at hl;exact(m.bt o A l u hl).alloc _ hle
 .intro o o' A jN l l' an u dc hl bK fy;have old:∀{p:Nat} {A:tZ} {l:Loc},h.bt p=Dc A->j p=Dc l->l.blk<w.heap.size:=by
   intro p A l a b;obtain⟨cur,ty,fz,D,_⟩:=(m.bt p A l a b).row;exact(Yp.1 D).1
  by_cases e:o=h.aM
  .have e':o'≠h.aM:=λx=>an (e.trans x.symm);subst e;simp only[gz.put,if_true,YC]at hl;simp only[gz.put,DL e']at bK;simp only[ct.bf,DL e']at dc
   have:=old dc bK
   subst hl;show w.heap.size≠_;omega
  .simp only[ct.bf,DL e]at u;simp only[gz.put,DL e]at hl;by_cases e':o'=h.aM
   .subst e';simp only[gz.put,if_true,YC]at bK
    have:=old u hl
    subst bK;show _≠w.heap.size;omega
   .simp only[ct.bf,DL e']at dc;simp only[gz.put,DL e']at bK;exact m.apart o o' A jN l l' an u dc hl bK fy
 .refine⟨by simp[ct.bf],λo u=>?_,λo u _=>?_⟩
  .simp[gz.put,Ev u]
  .simp[ct.bf,Ev u]
def MR.reveal(m:MR B w0 j h w){o:Nat}{cells:List AV}{cur:Array Value}{ty:TypeId}(C:h.bt o=Dc ⟨DF,cells⟩)(I:j o=none)(D:cells.all AV.one=DF)
  (H:l6 j cells cur.toList):
  MR B w0 (j.put o ⟨w.heap.size,0,0⟩) h (w.alloc (.cells cur ty))/\j.le (j.put o ⟨w.heap.size,0,0⟩):=by
 have hle:j.le (j.put o ⟨w.heap.size,0,0⟩):=by
  intro p l u;unfold gz.put;rw[DL (λe=>by subst e;rw[I]at u;cases u)];exact u
 have K:o<h.aM:=by
  rcases YG o h.aM with x|x
  .exact x
  .rw[(m.fresh o x).1]at C;cases C
 refine⟨⟨m.below.alloc m.bnd _,by simp;have:=m.bnd;omega,?_,?_,?_⟩,hle⟩
 .intro p hp;simp only[gz.put,DL (show ¬p=o by omega)];exact m.fresh p hp
 .intro p A l hp u;by_cases e:p=o
  .subst e;rw[C]at hp;simp only[YC]at hp;simp only[gz.put,if_true,YC]at u;subst hp;subst u;refine⟨D,cur,ty,(0,0),heap_alloc_new w _,λi v J=>?_,λ_=>⟨rfl,aK,m.bnd⟩,λx=>by cases x⟩;obtain⟨G,a,b⟩:=H.get J;exact⟨G,by simpa using a,VI.mono hle _ _ b⟩
  .simp only[gz.put,DL e]at u;exact(m.bt p A l hp u).alloc _ hle
 .intro p p' A jN l l' an hp kz u bK fy;have old:∀{p:Nat} {A:tZ} {l:Loc},h.bt p=Dc A->j p=Dc l->l.blk<w.heap.size:=by
   intro p A l a b;obtain⟨cur,ty,fz,E,_⟩:=(m.bt p A l a b).row;exact(Yp.1 E).1
  by_cases e:p=o
  .have e':p'≠o:=λx=>an (e.trans x.symm);subst e;simp only[gz.put,if_true,YC]at u;simp only[gz.put,DL e']at bK
   have:=old kz bK
   subst u;show w.heap.size≠_;omega
  .simp only[gz.put,DL e]at u;by_cases e':p'=o
   .subst e';simp only[gz.put,if_true,YC]at bK
    have:=old hp u
    subst bK;show _≠w.heap.size;omega
   .simp only[gz.put,DL e']at bK;exact m.apart p p' A jN l l' an hp kz u bK fy
def ct.wr_some{o i:Nat}{vs:List AV}{h':ct}(hw:h.wr o i vs=Dc h'):
  ∃l,h.bt o=Dc l/\l.rw=DF/\i+Lu vs<=Lu l.cells/\vs.all AV.one=DF/\h'=h.set o (l.cells.take i++vs++l.cells.drop (i+Lu vs)):=by
 unfold ct.wr at hw;cases ho:h.bt o with
 |none=>simp[ho]at hw
 |some l=>
  simp only[ho,YP]at hw;split at hw
  .rename_i x;cases hw;exact⟨l,rfl,x.1,x.2.1,x.2.2,rfl⟩
  .cases hw
def MR.setRow(m:MR B w0 j h w){o:Nat}{C:tZ}{l:Loc}{cells:List AV}{cur new:Array Value}{ty:TypeId}{fz:Nat×Nat}(J:h.bt o=Dc C)(A:j o=Dc l)(I:C.rw=DF)
  (G:w.heap[l.blk]? = Dc (.cells cur ty fz)) (V:new.size=cur.size) (T:cells.all AV.one=DF) (hc:∀(i:Nat) (v:AV),cells[i]? = Dc v->∃K:Value,new[l.base+i]? = Dc K/\VI j v K):
  MR B w0 j (h.set o cells) (w.setRow l.blk new)/\FR j h j (h.set o cells):=by
 obtain⟨qq,oS,Bt,D,lA,jV,_⟩:=(m.bt o C l J A).row;obtain⟨rfl,U,X⟩:=jV I;have ah:=(Yp.1 G).1;have heq:qq=cur/\fz=(0,0):=by
  rw[G]at D;simp at D;exact⟨D.1.symm,D.2.2⟩
 obtain⟨rfl,rfl⟩:=heq;have L:∀k,k≠l.blk->(w.setRow l.blk new).heap[k]? = w.heap[k]?:=by
  intro k u;simp only[World.setRow,FT];rw[DL (λe=>u e.symm)]
 have W:(w.setRow l.blk new).heap[l.blk]? = Dc (.cells new ty (0,0)):=by
  simp[World.setRow,FT,G]
 have R:(w.setRow l.blk new).heap.size=w.heap.size:=by simp[World.setRow]
 refine⟨⟨?_,by rw[R];exact m.bnd,?_,?_,?_⟩,?_⟩
 .exact m.below.trans ⟨rfl,rfl,rfl,by rw[R];exact na _,λk u=>L k af⟩
 .intro p hp
  have:=m.lt A
  simp only[ct.set]at hp ⊢;rw[DL af];exact m.fresh p hp
 .intro p D8 lp hp sA;by_cases e:p=o
  .subst e;simp only[ct.set,if_true,YC]at hp;rw[A]at sA;cases sA;subst hp;exact⟨T,new,ty,(0,0),W,λi v hv=>hc i v hv,λ_=>⟨rfl,by rw[V];exact U,X⟩,λx=>by cases x⟩
  .simp only[ct.set,DL e]at hp;have u:=m.bt p D8 lp hp sA;refine⟨u.one,?_⟩;obtain⟨c,t,f,x,y⟩:=u.row;have H:lp.blk≠l.blk:=λe'=>m.apart o p C D8 l lp (λx=>e x.symm) J hp A sA I e'.symm;exact⟨c,t,f,by rw[L _ H];exact x,y⟩
 .intro p p' D8 KL lp KW H hp kz sA Fh EH;have conv:∀{q:Nat} {E:tZ},(h.set o cells).bt q=Dc E->∃O,h.bt q=Dc O/\(E.rw=DF->O.rw=DF):=by
   intro q E N;by_cases e:q=o
   .subst e;exact⟨C,J,λ_=>I⟩
   .simp only[ct.set,DL e]at N;exact⟨E,N,id⟩
  obtain⟨a,Y,S⟩:=conv hp;obtain⟨b,Z,_⟩:=conv kz;exact m.apart p p' a b lp KW H Y Z sA Fh (S EH)
 .refine⟨na _,λ_ _=>rfl,λp _ M=>?_⟩;simp only[ct.set];rw[DL (λe=>by subst e;rw[A]at M;cases M)]
def MR.kill(m:MR B w0 j h w){o:Nat}{l:Loc}(A:j o=Dc l):MR B w0 j (h.kill o) w/\FR j h j (h.kill o):=by
 have sub:∀{q:Nat} {C:tZ},(h.kill o).bt q=Dc C->h.bt q=Dc C:=by
  intro q C E;by_cases e:q=o
  .subst e;simp[ct.kill]at E
  .simpa [ct.kill,e]using E
 refine⟨⟨m.below,m.bnd,λp u=>⟨?_,(m.fresh p u).2⟩,λp L l u N=>m.bt p L l (sub u) N,λp M a b l K G u J A H I=>m.apart p M a b l K G (sub u) (sub J) A H I⟩,
  ⟨na _,λ_ _=>rfl,λp _ D=>?_⟩⟩
 .simp only[ct.kill]at u ⊢;split
  .rfl
  .exact(m.fresh p u).1
 .simp only[ct.kill];rw[DL (λe=>by subst e;rw[A]at D;cases D)]
end
section
open Go.RowKit
def toCell:Value->Option AV
 | .bool b=>Dc (.bool b)
 | .int k n=>Dc (.int k n)
 | .string s=>Dc (.str s.data.toList)
 | .pointer none=>Dc .nilp
 | .slice none 0 0=>Dc .b8
 | .nilFunc=>Dc .nilf
 |_=>none
def qY:List Value->Option (List AV)
 |[]=>Dc []
 |v::r=>(toCell v).bind λa=>(qY r).bind λb=>Dc (a::b)
def toAV:Value->Option AV
 | .agg cs=>(qY cs.toList).map .agg
 |v=>toCell v
def cx:Operand->Option IX
 | .tmp t=>Dc (.t t)
 | .const v=>(toAV v).map .c
 | .func f=>Dc (.c (.clo f [] []))
 | .global _=>none
def cxs:List Operand->Option (List IX)
 |[]=>Dc []
 |x::r=>(cx x).bind λa=>(cxs r).bind λb=>Dc (a::b)
def cxo:Option Operand->Option (Option IX)
 |none=>Dc none
 |some x=>(cx x).map Dc
def zBT:TypeDesc->Bool
 | .struct _ | .array _ _=>DF
 |_=>false
def wG:Option TypeDesc->CP
 |some .bool=>.bool
 |some (.slice _)=>.slice
 |some (.pointer _)=>.pointer
 |some (.func _ _ _)=>.func
 |_=>.other
def zBU(P:Program):List Field->Nat->Bool
 |[],_=>DF
 | f :: fs, i => (f.name != "_") && (f.offset == i) && (match P.underlying f.type with | Dc (.int _) => DF | _ => false) && zBU P fs (i + 1)
def eqk(P:Program)(t:TypeId):CP:=
 match P.underlying t with
 |some (.struct fs)=>if (zBU P fs.toList 0 && !P.stoodInHeld t && !P.eqGuardType P.depth t)=DF then .ints fs.size else .other
 |o=>wG o
def zEi(P:Program)(fields:Array Field):List (Nat×Operand)->Option (List (Nat×Nat×IX))
 |[]=>Dc []
 |(i,x)::r=>(fields[i]?).bind λf=>(P.info? f.type).bind λl=>(cx x).bind λa=>(zEi P fields r).bind λb=>Dc ((f.offset,l.size,a)::b)
def carts(size:Nat):List (Nat×Operand)->Option (List (Nat×Nat×IX))
 |[]=>Dc []
 |(i,x)::r=>(cx x).bind λa=>(carts size r).bind λb=>Dc ((i*size,size,a)::b)
def copQ(P:Program):Op->Option qk
 | .move x | .assign x=>(cx x).map .mv
 | .pick c a b=>(cx c).bind λc=>(cx a).bind λa=>(cx b).bind λb=>Dc (.pick c a b)
 | .binOp op xt x y _=>(cx x).bind λx=>(cx y).bind λy=>Dc (.bin op (eqk P xt) x y)
 | .unOp op _ x=>(cx x).map (.un op)
 | .convert src dst x=>match P.underlying src,P.underlying dst with
  |some (.int _),Dc (.int k)=>(cx x).map (.conv k)
  |_,_=>none
 | .nilCheck x=>(cx x).map .nilCheck
 | .field t x f=>match P.underlying t with
  |some (.struct fields)=>(fields[f]?).bind λu=>match P.underlying u.type,P.info? u.type with
   |some d,Dc i=>(cx x).map (.field (zBT d) i.size u.offset)
   |_,_=>none
  |_=>none
 | .fieldAddr t x f=>match P.underlying t with
  |some (.struct fields)=>(fields[f]?).bind λu=>(P.info? u.type).bind λi=>if i.size=0 then none else(cx x).map (.fieldAddr u.offset)
  |_=>none
 | .indexAddr t x l=>match P.underlying t with
  |some (.slice e)=>(P.info? e).bind λi=>(cx x).bind λx=>(cx l).bind λl=>Dc (.indexAddr i.size x l)
  |some (.array len e)=>match l with
   | .const (.int _ n)=>(P.info? e).bind λi=>if 0<=n/\n<(len:Int)then(cx x).map (.fieldAddr (n.toNat*i.size))else none
   |_=>none
  |_=>none
 | .index t x l=>match P.underlying t with
  |some .string=>(cx x).bind λx=>(cx l).bind λl=>Dc (.indexStr x l)
  |_=>none
 | .extract x i=>(cx x).map (.extract · i)
 | .slice t x C A mx=>match P.underlying t with
  |some (.slice e)=>(P.info? e).bind λi=>(cx x).bind λx=>(cxo C).bind λC=>(cxo A).bind λA=>(cxo mx).bind λmx=>Dc (.slice i.size x C A mx)
  |some .string=>(cx x).bind λx=>(cxo C).bind λC=>(cxo A).bind λA=>match mx with|none=>Dc (.sliceStr x C A)|some _=>none
  |_=>none
 | .makeFunc (.func f) first E=>(cxs first.toList).bind λfirst=>(cxs E.toList).bind λE=>Dc (.makeFunc f first E)
 | .load t x=>match P.underlying t,P.info? t with
  |some d,Dc i=>(cx x).map (.load (zBT d) i.size)
  |_,_=>none
 | .build t D=>match P.underlying t,(P.info? t).bind (·.zero)with
  |some (.struct fields),Dc (.agg z)=>if fields.toList.all (λf=>(P.info? f.type).isSome)=DF then(qY z.toList).bind λz=>(zEi P fields D.toList).bind λD=>Dc (.build z D)else none
  |some (.array _ e),Dc (.agg z)=>(P.info? e).bind λi=>(qY z.toList).bind λz=>(carts i.size D.toList).bind λD=>Dc (.build z D)
  |_,_=>none
 | .call { callee:=.builtin b,args,argTypes }=>
  match b,args.toList,argTypes.toList with
  | .len,[x],[t]=>match P.underlying t with
   |some (.slice _)=>(cx x).map .len
   |some .string=>(cx x).map .lenStr
   |_=>none
  | .cap,[x],[t]=>match P.underlying t with
   |some (.slice _)=>(cx x).map .cap
   |_=>none
  | .max,[x,y],[t,_]=>match P.underlying t with
   |some (.int _)=>(cx x).bind λx=>(cx y).bind λy=>Dc (.maxmin DF x y)
   |_=>none
  | .min,[x,y],[t,_]=>match P.underlying t with
   |some (.int _)=>(cx x).bind λx=>(cx y).bind λy=>Dc (.maxmin false x y)
   |_=>none
  |_,_,_=>none
 |_=>none
structure ER(nt:Nat)(j:gz)(e:Env)(a:Act):Prop where
 vals:∀t,VI j (e t) (a.tmps.getD t undef)
 size:a.tmps.size=nt
 defers:a.defers=[]
variable{P:Program}{w:World}{j:gz}{nt:Nat}{e:Env}{a:Act}
def ER.mono{l:gz}(r:ER nt j e a)(u:j.le l):ER nt l e a:=⟨λt=>VI.mono u _ _ (r.vals t),r.size,r.defers⟩
def ER.put(r:ER nt j e a){d:Option Nat}{v:AV}{u:Value}(hd:∀t,d=Dc t->t<nt)(C:VI j v u):ER nt j (e.put d v) (a.put d u):=by
 cases d with
 |none=>exact r
 |some d=>
  have A:d<a.tmps.size:=by rw[r.size];exact hd d rfl
  refine⟨λt=>?_,by simp[Act.put,r.size],r.defers⟩;simp only[Env.put,Act.put,D0,Array.getElem?_setIfInBounds];by_cases l:t=d
  .subst l;simpa [A]using C
  .rw[DL l,DL (λx=>l x.symm)]
   have:=r.vals t
   rwa[D0]at this
def zGT{v:Value}{av:AV}(l:toCell v=Dc av):VI j av v/\av.one=DF/\v.cells = #[v]:=by
 unfold toCell at l;split at l<;>first|(cases l;exact⟨rfl,rfl,rfl⟩)|cases l
def qa:∀{vs:List Value} {l:List AV},qY vs=Dc l->l6 j l vs/\l.all AV.one=DF
 |[],l,hv=>by cases hv;exact⟨rfl,rfl⟩
 |v::r,l,hv=>by
  simp only[qY,YJ]at hv;obtain⟨x,C,y,D,E⟩:=hv;cases E;have u:=zGT (j:=j) C;have A:=qa D;exact⟨⟨v,r,rfl,u.1,A.1⟩,by simp[u.2.1,A.2]⟩
def zMh{v:Value}{av:AV}(l:toAV v=Dc av):VI j av v:=by
 unfold toAV at l;split at l
 .simp only[YK]at l;obtain⟨x,u,rfl⟩:=l;rename_i cs;exact⟨cs.toList,(qa u).1,aK⟩
 .exact(zGT l).1
def zP(r:ER nt j e a){x:Operand}{u:IX}(l:cx x=Dc u):VI j (u.ev e) (a.eval x):=by
 cases x with
 |tmp t=>cases l;exact r.vals t
 |const v=>
  simp only[cx,YK]at l;obtain⟨av,A,rfl⟩:=l;exact zMh A
 |func f=>cases l;exact⟨[],[],rfl,rfl,rfl⟩
 |global g=>cases l
def zBW(r:ER nt j e a):∀{xs:List Operand} {ixs:List IX},cxs xs=Dc ixs->l6 j (ixs.map (·.ev e)) (xs.map a.eval)
 |[],_,hx=>by cases hx;rfl
 |x::xs,ixs,hx=>by
  simp only[cxs,YJ]at hx;obtain⟨p,l,q,u,A⟩:=hx;cases A;exact⟨_,_,rfl,zP r l,zBW r u⟩
def zPi(r:ER nt j e a){x:Option Operand}{A:Option IX}(u:cxo x=Dc A):
  (x=none/\A=none)\/∃y l,x=Dc y/\A=Dc l/\VI j (l.ev e) (a.eval y):=by
 cases x with
 |none=>cases u;exact .inl ⟨rfl,rfl⟩
 |some y=>
  simp only[cxo,YK]at u;obtain⟨l,C,rfl⟩:=u;exact .inr ⟨y,l,rfl,rfl,zP r C⟩
def wF(P:Program)(s:Sem Value)(w:World)(j:gz)(v:AV):Prop:=∃l,s.run P w=.ok l w/\VI j v l
def zNu{op:BinOp}{k:IntKind}{x y:Int}{A:TypeId}{v:AV}(u:op≠.shl/\op≠.shr)(l:xW op k x y=Dc v):
  wF P (binOp op A (.int k x) (.int k y)) w j v:=by
 cases op<;>simp only[xW]at l<;>(try (split at l))<;>simp only[YC,reduceCtorEq]at l<;>(try subst l)<;>
  first
  |exact absurd rfl u.1
  |exact absurd rfl u.2
  |(refine⟨_,?_,rfl⟩;simp[binOp,Op.intArith,Op.intDiv,Op.intCmp,Op.intBits, *];done)
  |(refine⟨_,?_,rfl⟩;simp[binOp,Op.intArith,Op.intDiv,Op.intCmp,Op.intBits, *];first|rfl|(congr 1)|skip)
def zEn{op:BinOp}{k C:IntKind}{x y:Int}{D:TypeId}{v:AV}(u:op=.shl\/op=.shr)(l:zKb op k x y=Dc v):
  wF P (binOp op D (.int k x) (.int C y)) w j v:=by
 unfold zKb at l;split at l
 .cases l
 .rename_i A;rcases u with rfl|rfl<;>simp only[YC]at l<;>subst l<;>refine⟨_,?_,rfl⟩<;>simp[binOp,Op.shift,A]
def zNs{op:BinOp}{x y:List UInt8}{C:TypeId}{v:AV}(l:astr op x y=Dc v):
  wF P (binOp op C (.string ⟨x.toArray⟩) (.string ⟨y.toArray⟩)) w j v:=by
 have u:(⟨x.toArray⟩:ByteArray).toList=x:=by rw[ByteArray.toList_eq]
 have A:(⟨y.toArray⟩:ByteArray).toList=y:=by rw[ByteArray.toList_eq]
 have D:(⟨x.toArray⟩:ByteArray).size=Lu x:=by simp[ByteArray.size]
 have E:(⟨y.toArray⟩:ByteArray).size=Lu y:=by simp[ByteArray.size]
 cases op<;>simp only[astr]at l<;>(try (split at l))<;>simp only[YC,reduceCtorEq]at l<;>(try subst l)
 case add.isTrue hle=>
  refine⟨_,?_,rfl⟩
  have:¬(((Lu x+Lu y:Nat):Int) > IntKind.i64.max):=by
   have:IntKind.i64.max=9223372036854775807:=by decide
   rw[this];omega
  simp only[binOp,Op.stringOp,D,E,DL this];simp;congr 1
 all_goals (refine⟨_,?_,rfl⟩;simp[binOp,Op.stringOp,u,A])
def zJR:Value->Bool
 | .nilIface | .agg _=>false
 |_=>DF
def zIr{op:BinOp}{t:TypeId}{x y:Operand}{c d:Value}(l:zJR c=DF):(eqGuard op t x y c d).run P w=.ok () w:=by
 unfold eqGuard;cases c<;>simp[zJR]at l<;>cases op<;>simp
def zKC(d:Nat){t:TypeId}(l:P.underlying t=Dc .bool)(x y:Bool):(Op.equalIn (d+1) t (.bool x) (.bool y)).run P w=.ok (x == y) w:=by
 simp[Op.equalIn,run_underlying l]
def zNh{t:TypeId}(l:P.underlying t=Dc .bool)(x y:Bool):(Op.equal t (.bool x) (.bool y)).run P w=.ok (x == y) w:=zKC 9999 l x y
def zFI(d:Nat){t l:TypeId}(u:P.underlying t=Dc (.slice l))(o:Option Addr)(n c:Nat):(Op.equalIn (d+1) t (.slice o n c) (.slice none 0 0)).run P w=.ok o.isNone w:=by
 cases o<;>simp[Op.equalIn,run_underlying u]
def zCg{t l:TypeId}(u:P.underlying t=Dc (.slice l))(o:Option Addr)(n c:Nat):(Op.equal t (.slice o n c) (.slice none 0 0)).run P w=.ok o.isNone w:=zFI 9999 u o n c
def zFK(d:Nat){t l:TypeId}(u:P.underlying t=Dc (.slice l))(o:Option Addr)(n c:Nat):(Op.equalIn (d+1) t (.slice none 0 0) (.slice o n c)).run P w=.ok o.isNone w:=by
 cases o<;>simp[Op.equalIn,run_underlying u]
def zHC{t l:TypeId}(u:P.underlying t=Dc (.slice l))(o:Option Addr)(n c:Nat):(Op.equal t (.slice none 0 0) (.slice o n c)).run P w=.ok o.isNone w:=zFK 9999 u o n c
def zHA(d:Nat){t l:TypeId}(u:P.underlying t=Dc (.pointer l))(o:Option Addr):(Op.equalIn (d+1) t (.pointer o) (.pointer none)).run P w=.ok o.isNone w:=by
 cases o<;>simp[Op.equalIn,run_underlying u]
def zDy{t l:TypeId}(u:P.underlying t=Dc (.pointer l))(o:Option Addr):(Op.equal t (.pointer o) (.pointer none)).run P w=.ok o.isNone w:=zHA 9999 u o
def zHD(d:Nat){t l:TypeId}(u:P.underlying t=Dc (.pointer l))(o:Option Addr):(Op.equalIn (d+1) t (.pointer none) (.pointer o)).run P w=.ok o.isNone w:=by
 cases o<;>simp[Op.equalIn,run_underlying u]
def zIq{t l:TypeId}(u:P.underlying t=Dc (.pointer l))(o:Option Addr):(Op.equal t (.pointer none) (.pointer o)).run P w=.ok o.isNone w:=zHD 9999 u o
def zKB(d:Nat){t:TypeId}{u rs:Array TypeId}{A:Bool}(l:P.underlying t=Dc (.func u rs A)):(Op.equalIn (d+1) t .nilFunc .nilFunc).run P w=.ok DF w:=by
 simp[Op.equalIn,run_underlying l]
def zNg{t:TypeId}{u rs:Array TypeId}{A:Bool}(l:P.underlying t=Dc (.func u rs A)):(Op.equal t .nilFunc .nilFunc).run P w=.ok DF w:=zKB 9999 l 
def zFJ(d:Nat){t:TypeId}{u rs:Array TypeId}{A:Bool}(l:P.underlying t=Dc (.func u rs A))(f:Fn)(x y:Array Value):(Op.equalIn (d+1) t .nilFunc (.func f x y)).run P w=.ok false w:=by
 simp[Op.equalIn,run_underlying l]
def zHB{t:TypeId}{u rs:Array TypeId}{A:Bool}(l:P.underlying t=Dc (.func u rs A))(f:Fn)(x y:Array Value):(Op.equal t .nilFunc (.func f x y)).run P w=.ok false w:=zFJ 9999 l f x y
def zFL(d:Nat){t:TypeId}{u rs:Array TypeId}{A:Bool}(l:P.underlying t=Dc (.func u rs A))(f:Fn)(x y:Array Value):(Op.equalIn (d+1) t (.func f x y) .nilFunc).run P w=.ok false w:=by
 simp[Op.equalIn,run_underlying l]
def zHE{t:TypeId}{u rs:Array TypeId}{A:Bool}(l:P.underlying t=Dc (.func u rs A))(f:Fn)(x y:Array Value):(Op.equal t (.func f x y) .nilFunc).run P w=.ok false w:=zFL 9999 l f x y
def ZE{op:BinOp}{r:Bool}{t:TypeId}{c d:Value}{v:AV}(l:Aq op r=Dc v)(u:(Op.equal t c d).run P w=.ok r w)
  (A:op=.eql->binOp op t c d=do pure (.bool (<-Op.equal t c d))) (C:op=.neq->binOp op t c d=do pure (.bool (!(<-Op.equal t c d)))):wF P (binOp op t c d) w j v:=by
 cases op<;>simp only[Aq,YC,reduceCtorEq]at l
 .subst l;exact⟨_,by rw[A rfl];simp[u],rfl⟩
 .subst l;exact⟨_,by rw[C rfl];simp[u],rfl⟩
def zAI{t:TypeId}{k:CP}(l:eqk P t=k)(u:∀n,k≠.ints n)(A:k≠.other):wG (P.underlying t)=k:=by
 unfold eqk at l;split at l
 .split at l
  .exact absurd l.symm (u _)
  .exact absurd l.symm A
 .exact l
def zQ8{t:TypeId}{n:Nat}(l:eqk P t=.ints n):∃u,P.underlying t=Dc (.struct u)/\u.size=n/\zBU P u.toList 0=DF/\P.stoodInHeld t=false/\P.eqGuardType P.depth t=false:=by
 unfold eqk at l;split at l
 .rename_i u C;split at l
  .rename_i A;simp only[Yo,FX]at A;cases l;exact⟨u,C,rfl,A.1.1,A.1.2,A.2⟩
  .cases l
 .unfold wG at l;split at l<;>cases l
def zD9{t:TypeId}{k:IntKind}(l:P.underlying t=Dc (.int k)){xs:Array Value}{off:Nat}{v:Value}(u:xs[off]? = Dc v):(part t xs off).run P w=.ok v w:=by
 unfold part isAgg;simp[run_underlying l,u]
def zHS{d:Nat}{cx cy:Array Value}:∀(l:List Field) (i:Nat) {xs ys:List AV} {r:Bool} {vs A:List Value},zBU P l i=DF->aggB xs ys=Dc r->l.length=Lu xs->l6 j xs vs->l6 j ys A->(∀k,cx[i+k]? = vs[k]?)->(∀k,cy[i+k]? = A[k]?)->
  (Op.eqFields (d+1) cx cy l).run P w=.ok r w
 |[],i,xs,ys,r,vs,A,hf,hr,hl,hv,hu,h1,h2=>by
  have:xs=[]:=YU hl.symm
  subst this;cases ys with
  |nil=>cases hr;simp[Op.eqFields]
  |cons y ys=>simp[aggB]at hr
 |f::l,i,xs,ys,r,vs,A,hf,hr,hl,hv,hu,h1,h2=>by
  simp only[zBU,Yo,bne_iff_ne,ne_eq,beq_iff_eq]at hf;obtain⟨⟨⟨L,D⟩,E⟩,M⟩:=hf;cases xs with
  |nil=>cases hl
  |cons x xs=>
  cases ys with
  |nil=>cases x<;>simp[aggB]at hr
  |cons y ys=>
  cases x<;>cases y<;>simp only[aggB,reduceCtorEq]at hr
  rename_i k a T b;split at hr
  .rename_i N;subst N;obtain⟨U,R,rfl⟩:=YK.1 hr;obtain⟨v,vs,rfl,rfl,K⟩:=hv;obtain⟨u,A,rfl,rfl,H⟩:=hu;have I:cx[f.offset]? = Dc (.int k a):=by rw[D];exact h1 0
   have J:cy[f.offset]? = Dc (.int k b):=by rw[D];exact h2 0
   have O:=zHS (d:=d) (cx:=cx) (cy:=cy) l (i+1) M R (by simpa using hl) K H (λk=>by have:=h1 (k+1);rw[show i+1+k=i+(k+1) by omega];exact this) (λk=>by have:=h2 (k+1);rw[show i+1+k=i+(k+1) by omega];exact this);split at E
   .rename_i S C;unfold Op.eqFields;rw[DK L];simp only[Sem.run_bind,zD9 C I,zD9 C J,Result.andThen_ok,run_equalIn_int w d f.type k S a b C];by_cases G:a=b
    .subst G;simp[O]
    .simp[G]
   .cases E
  .cases hr
def zQ9{o:Option TypeDesc}(l:wG o=.bool):o=Dc .bool:=by
 unfold wG at l;split at l<;>first|rfl|cases l
def zEf{o:Option TypeDesc}(l:wG o=.slice):∃u,o=Dc (.slice u):=by
 unfold wG at l;split at l<;>first|exact⟨_,rfl⟩|cases l
def zCw{o:Option TypeDesc}(l:wG o=.pointer):∃u,o=Dc (.pointer u):=by
 unfold wG at l;split at l<;>first|exact⟨_,rfl⟩|cases l
def zGC{o:Option TypeDesc}(l:wG o=.func):∃a b c,o=Dc (.func a b c):=by
 unfold wG at l;split at l<;>first|exact⟨_,_,_,rfl⟩|cases l
def VI.slice_ne{o off len:Nat}{cap:jZ}{c:Value}(u:VI j (.sl o off len cap) c):∃x n m,c=.slice (Dc x) n m:=by
 cases cap with
 |b6 q=>obtain⟨l,_,_,rfl,_⟩:=u;exact⟨_,_,_,rfl⟩
 |grown q=>obtain⟨l,_,_,_,rfl,_⟩:=u;exact⟨_,_,_,rfl⟩
def zNv{op:BinOp}{E:TypeId}{x y v:AV}{c d:Value}(u:vT op (eqk P E) x y=Dc v)(D:VI j x c)(hd:VI j y d):
  wF P (binOp op E c d) w j v/\(zJR c=DF\/(P.eqGuardType P.depth E=false/\∃xs ys,c=.agg xs/\d=.agg ys)):=by
 unfold vT at u;split at u
 .rename_i k n Z m;rw[show c=_ from D,show d=_ from hd];refine⟨?_,.inl rfl⟩;split at u
  .exact zEn (.inl rfl) u
  .exact zEn (.inr rfl) u
  .rename_i W X;split at u
   .rename_i M;subst M;exact zNu ⟨W,X⟩ u
   .cases u
 .rw[show c=_ from D,show d=_ from hd];exact⟨zNs u,.inl rfl⟩
 .rw[show c=_ from D,show d=_ from hd];split at u
  .rename_i A;exact⟨ZE u (zNh (zQ9 (zAI A (λ_=>aK) aK)) _ _) (λe=>by subst e;rfl) (λe=>by subst e;rfl),.inl rfl⟩
  .cases u
 .split at u
  .rename_i A;obtain⟨G,C⟩:=zEf (zAI A (λ_=>aK) aK);rw[show c=_ from D,show d=_ from hd];exact⟨ZE u (zCg C _ _ _) (λe=>by subst e;rfl) (λe=>by subst e;rfl),.inl rfl⟩
  .cases u
 .split at u
  .rename_i A;obtain⟨G,C⟩:=zEf (zAI A (λ_=>aK) aK);obtain⟨x,n,m,rfl⟩:=VI.slice_ne D;rw[show d=_ from hd];exact⟨ZE u (zCg C _ _ _) (λe=>by subst e;rfl) (λe=>by subst e;rfl),.inl rfl⟩
  .cases u
 .split at u
  .rename_i A;obtain⟨G,C⟩:=zEf (zAI A (λ_=>aK) aK);obtain⟨x,n,m,rfl⟩:=VI.slice_ne hd;rw[show c=_ from D];exact⟨ZE u (zHC C _ _ _) (λe=>by subst e;rfl) (λe=>by subst e;rfl),.inl rfl⟩
  .cases u
 .split at u
  .rename_i A;obtain⟨G,C⟩:=zCw (zAI A (λ_=>aK) aK);rw[show c=_ from D,show d=_ from hd];exact⟨ZE u (zDy C _) (λe=>by subst e;rfl) (λe=>by subst e;rfl),.inl rfl⟩
  .cases u
 .split at u
  .rename_i A;obtain⟨G,C⟩:=zCw (zAI A (λ_=>aK) aK);rw[show d=_ from hd];obtain⟨l,_,rfl⟩:=D;exact⟨ZE u (zDy C _) (λe=>by subst e;rfl) (λe=>by subst e;rfl),.inl rfl⟩
  .cases u
 .split at u
  .rename_i A;obtain⟨G,C⟩:=zCw (zAI A (λ_=>aK) aK);rw[show c=_ from D];obtain⟨l,_,rfl⟩:=hd;exact⟨ZE u (zIq C _) (λe=>by subst e;rfl) (λe=>by subst e;rfl),.inl rfl⟩
  .cases u
 .split at u
  .rename_i A;obtain⟨a,b,r,C⟩:=zGC (zAI A (λ_=>aK) aK);rw[show c=_ from D,show d=_ from hd];exact⟨ZE u (zNg C) (λe=>by subst e;rfl) (λe=>by subst e;rfl),.inl rfl⟩
  .cases u
 .split at u
  .rename_i A;obtain⟨a,b,r,C⟩:=zGC (zAI A (λ_=>aK) aK);rw[show d=_ from hd];obtain⟨_,_,_,_,rfl⟩:=D;exact⟨ZE u (zHE C _ _ _) (λe=>by subst e;rfl) (λe=>by subst e;rfl),.inl rfl⟩
  .cases u
 .split at u
  .rename_i A;obtain⟨a,b,r,C⟩:=zGC (zAI A (λ_=>aK) aK);rw[show c=_ from D];obtain⟨_,_,_,_,rfl⟩:=hd;exact⟨ZE u (zHB C _ _ _) (λe=>by subst e;rfl) (λe=>by subst e;rfl),.inl rfl⟩
  .cases u
 .split at u
  .rename_i xs ys n A;split at u
   .rename_i U;obtain⟨I,J,N,O,R,S⟩:=zQ8 A;obtain⟨r,V,u⟩:=YJ.1 u;obtain⟨vs,L,rfl⟩:=D;obtain⟨Y,K,rfl⟩:=hd;have H:P.fieldsOf E=I:=by simp[Program.fieldsOf,J]
    have T:(Op.equalIn 10000 E (.agg vs.toArray) (.agg Y.toArray)).run P w=.ok r w:=by
     rw[run_equalIn_struct w 9999 E _ _ (by rw[H];exact J) R,H];exact zHS (d:=9998) I.toList 0 O V (by rw[U.1,<-N];simp) L K (λk=>aK) (λk=>aK)
    refine⟨ZE u T (λe=>by subst e;rfl) (λe=>by subst e;rfl),.inr ⟨S,_,_,rfl,rfl⟩⟩
   .cases u
  .cases u
 .cases u
def zPq{op:UnOp}{x v:AV}{c:Value}(l:aun op x=Dc v)(u:VI j x c):wF P (Op.unary op c) w j v:=by
 unfold aun at l;split at l
 .rw[show c=_ from u];cases l;exact⟨_,by simp[Op.unary,Op.intArith],rfl⟩
 .rw[show c=_ from u];simp only[xW,YC]at l;subst l;exact⟨_,by simp[Op.unary,Op.intBits],rfl⟩
 .rw[show c=_ from u];cases l;exact⟨_,by simp[Op.unary],rfl⟩
 .cases l
end
section
open Go.RowKit
variable{P:Program}{w0 w:World}{j:gz}{h:ct}{e:Env}{a:Act}
def zCT{t:TypeId}{d:TypeDesc}(l:P.underlying t=Dc d):(isAgg t).run P w=.ok (zBT d) w:=by
 simp only[isAgg,Sem.run_bind,run_underlying l,Result.andThen_ok];cases d<;>rfl
def zo{t:TypeId}{i:TypeInfo}(l:P.info? t=Dc i):(sizeOf t).run P w=.ok i.size w:=by
 simp[sizeOf,typeInfo,l]
def zGq(m:MR B w0 j h w){t:TypeId}{d:TypeDesc}{i:TypeInfo}(E:P.underlying t=Dc d)(K:P.info? t=Dc i){o k:Nat}{v:AV}{c:Value}(J:VI j (.ptr o k) c)
  (u:(if zBT d=DF then(h.rd o k i.size).map AV.agg else h.dR o k)=Dc v):wF P (Instr.loadAt t c) w j v:=by
 obtain⟨l,D,rfl⟩:=J;cases hd:zBT d with
 |true=>
  rw[hd,DK rfl]at u;simp only[YK]at u;obtain⟨vs,G,rfl⟩:=u;obtain⟨cs,A,C,_,I⟩:=m.cells G D;refine⟨.agg cs.toArray,?_,cs,A,rfl⟩
  have:=run_loadCells_list (P:=P) w _ cs I
  rw[C]at this;simp[Instr.loadAt,Instr.sureAddr,loadVar,zCT E,hd,zo K,this]
 |false=>
  rw[hd]at u;simp only[EB,if_false]at u;obtain⟨H,A,C⟩:=m.cell u D;exact⟨H,by simp[Instr.loadAt,Instr.sureAddr,loadVar,zCT E,hd,A],C⟩
def C7{α:Type}(cs:List α)(off n:Nat):cs.toArray.extract off (off+n)=((cs.drop off).take n).toArray:=by
 apply Array.ext';simp[Array.toList_extract]
def zLh{t:TypeId}{fields:Array Field}{f:Nat}{l:Field}{d:TypeDesc}{i:TypeInfo}(D:P.underlying t=Dc (.struct fields))(C:fields[f]? = Dc l)
  (hd:P.underlying l.type=Dc d) (J:P.info? l.type=Dc i) {cs:List AV} {v:AV} {c:Value} (I:VI j (.agg cs) c)
  (u:(if zBT d=DF then Dc (AV.agg ((cs.drop l.offset).take i.size))else cs[l.offset]?)=Dc v):wF P (Instr.field t c f) w j v:=by
 obtain⟨vs,A,rfl⟩:=I;cases hg:zBT d with
 |true=>
  rw[hg,DK rfl]at u;cases u;refine⟨.agg ((vs.drop l.offset).take i.size).toArray,?_,_,(A.drop _).take _,rfl⟩;simp[Instr.field,run_underlying D,C,part,zCT hd,hg,asAgg,zo J,C7]
 |false=>
  rw[hg]at u;simp only[EB,if_false]at u;obtain⟨E,G,H⟩:=A.get u;exact⟨E,by simp[Instr.field,run_underlying D,C,part,zCT hd,hg,asAgg,G],H⟩
def zG9{t:TypeId}{fields:Array Field}{f:Nat}{u:Field}{i:TypeInfo}(G:P.underlying t=Dc (.struct fields))(C:fields[f]? = Dc u)
  (D:P.info? u.type=Dc i) (hs:i.size≠0) {o k:Nat} {c:Value} (A:VI j (.ptr o k) c):wF P (Instr.fieldAt t c f) w j (.ptr o (k+u.offset)):=by
 obtain⟨l,E,rfl⟩:=A;refine⟨_,?_,l,E,rfl⟩;simp[Instr.fieldAt,run_underlying G,C,Instr.sureAddr,fieldPlace,zo D,hs,ZN,UP]
def zHR{t u:TypeId}{len:Nat}{i:TypeInfo}(H:P.underlying t=Dc (.array len u))(E:P.info? u=Dc i){o k:Nat}{I:IntKind}{n:Int}{c:Value}
  (D:VI j (.ptr o k) c) (A:0<=n) (C:n<len):wF P (Instr.indexAt t c (.int I n)) w j (.ptr o (k+n.toNat*i.size)):=by
 obtain⟨l,G,rfl⟩:=D;refine⟨.pointer (Dc ⟨l.blk,l.base+k+n.toNat*i.size,none⟩),?_,l,G,by rw[UP]⟩;simp[Instr.indexAt,asIntOf,Instr.sureAddr,run_underlying H,A,C,zo E,ZN]
def zG3{t A:TypeId}{i:TypeInfo}(J:P.underlying t=Dc (.slice A))(I:P.info? A=Dc i){o off len:Nat}{cap:jZ}{k:IntKind}{n:Int}{c:Value}
  (C:VI j (.sl o off len cap) c) (D:0<=n) (E:n<len):wF P (Instr.indexAt t c (.int k n)) w j (.ptr o (off+n.toNat*i.size)):=by
 have key:∃l cp,j o=Dc l/\c=.slice (Dc ⟨l.blk,l.base+off,none⟩) len cp:=by
  cases cap with
  |b6 q=>
   obtain⟨l,a,u,rfl,G⟩:=C;rcases G with rfl|⟨_,K⟩
   .exact⟨l,_,u,rfl⟩
   .omega
  |grown q=>
   obtain⟨l,cp,f,u,rfl,_,H,_⟩:=C;rcases H with rfl|⟨K,_⟩
   .exact⟨l,_,u,rfl⟩
   .omega
 obtain⟨l,cp,u,rfl⟩:=key;refine⟨.pointer (Dc ⟨l.blk,l.base+off+n.toNat*i.size,none⟩),?_,l,u,by rw[UP]⟩;simp[Instr.indexAt,asIntOf,run_underlying J,D,E,zo I,ZN]
def Qp{x:AV}{y m:Nat}{c:Value}(l:zBZ x y=Dc m)(A:VI j x c)(code:BoundsCode):(Instr.sliceBound c y code).run P w=.ok m w/\m<=y:=by
 unfold zBZ at l;split at l
 .rename_i k i;split at l
  .rename_i u;cases l;rw[show c=_ from A];exact⟨run_sliceBound w k i y code u.1 u.2,af⟩
  .cases l
 .cases l
def OB(j:gz):Option AV->Option Value->Prop
 |none,none=>True
 |some x,Dc c=>VI j x c
 |_,_=>False
def Qx{sl:Bool}{len cap m K l:Nat}{H E mx:Option AV}{clo G cmx:Option Value}(u:OB j H clo)(D:OB j E G)(J:OB j mx cmx)
  (L:zq mx cap cap=Dc m) (I:zq E len m=Dc K) (A:zq H 0 K=Dc l) (N:¬(E.isNone=DF/\mx.isSome=DF)) (O:mx=none->m=cap):
  (Instr.sliceBounds sl len cap clo G cmx).run P w=.ok (l,K,m) w:=by
 cases mx with
 |none=>
  cases cmx with
  |some _=>exact J.elim
  |none=>
   simp only[zq,YC]at L;subst L;cases E with
   |none=>
    cases G with
    |some _=>exact D.elim
    |none=>
     simp only[zq,YC]at I;subst I;cases H with
     |none=>
      cases clo with
      |some _=>exact u.elim
      |none=>simp only[zq,YC]at A;subst A;simp[Instr.sliceBounds]
     |some x=>
      cases clo with
      |none=>exact u.elim
      |some c=>simp[Instr.sliceBounds,(Qp A u _).1]
   |some y=>
    cases G with
    |none=>exact D.elim
    |some d=>
     have C:=λq=>(Qp (P:=P) (w:=w) I D q).1;cases H with
     |none=>
      cases clo with
      |some _=>exact u.elim
      |none=>simp only[zq,YC]at A;subst A;simp[Instr.sliceBounds,C]
     |some x=>
      cases clo with
      |none=>exact u.elim
      |some c=>simp[Instr.sliceBounds,C,(Qp A u _).1]
 |some z=>
  cases cmx with
  |none=>exact J.elim
  |some cz=>
   have M:=λq=>(Qp (P:=P) (w:=w) L J q).1;cases E with
   |none=>exact absurd ⟨rfl,rfl⟩ N
   |some y=>
    cases G with
    |none=>exact D.elim
    |some d=>
     have C:=λq=>(Qp (P:=P) (w:=w) I D q).1;cases H with
     |none=>
      cases clo with
      |some _=>exact u.elim
      |none=>simp only[zq,YC]at A;subst A;simp[Instr.sliceBounds,C,M]
     |some x=>
      cases clo with
      |none=>exact u.elim
      |some c=>simp[Instr.sliceBounds,C,M,(Qp A u _).1]
def Ze{x:Option AV}{d y m:Nat}(l:zq x d y=Dc m):x=none/\m=d\/m<=y:=by
 cases x with
 |none=>cases l;exact .inl ⟨rfl,rfl⟩
 |some x=>
  simp only[zq,zBZ]at l;split at l
  .split at l
   .cases l;right;omega
   .cases l
  .cases l
def zFY{x:Option AV}{d y u m:Nat}(l:zq x d y=Dc m)(A:y<=u):zq x d u=Dc m:=by
 cases x with
 |none=>exact l
 |some x=>
  simp only[zq,zBZ]at l ⊢;split at l
  .split at l
   .cases l;rw[DK af]
   .cases l
  .cases l
def zKo{t et:TypeId}{i:TypeInfo}(L:P.underlying t=Dc (.slice et))(R:P.info? et=Dc i){x:AV}{lo hh mx:Option AV}{c:Value}{clo T cmx:Option Value}{v:AV}
  (W:VI j x c) (N:OB j lo clo) (O:OB j hh T) (K:OB j mx cmx) (u:Qy i.size x lo hh mx=Dc v):wF P (Instr.sliceAt t c clo T cmx) w j v:=by
 have M:∀x:Value,(Instr.sliceAt t x clo T cmx).run P w=(Instr.slice t x clo T cmx).run P w:=λx=>by simp[Instr.sliceAt,run_underlying L]
 unfold Qy at u;split at u
 .rename_i o off len cp;simp only[YJ]at u;obtain⟨m,G,A,D,l,E,u⟩:=u;split at u
  .cases u
  .rename_i J;cases u;obtain⟨C,I,U,rfl,M3⟩:=W;have H:=Qx (P:=P) (w:=w) (sl:=DF) N O K G D E J (λe=>by subst e;cases G;rfl);have V:(if m=l then Dc I else Option.map (λx=>x.add (l*i.size)) (Dc I))=Dc (if m=l then I else I.add (l*i.size)):=by split<;>rfl
   refine⟨.slice (Dc (if m=l then I else I.add (l*i.size))) (A-l) (m-l),by rw[M];simp only[Instr.slice,Sem.run_bind,run_underlying L,Result.andThen_ok,H,zo R,Sem.run_pure];rw[V],C,_,U,rfl,?_⟩;rcases M3 with rfl|⟨cK,nj⟩
   .left;split
    .rfl
    .simp[ZN,UP]
   .right;have b1:m<=0:=by rcases Ze G with ⟨_,x⟩|x<;>omega
    have b2:A<=0:=by rcases Ze D with ⟨_,x⟩|x<;>omega
    omega
 .rename_i o off len g;obtain⟨C,cp,f,U,rfl,hle,X,bE⟩:=W;split at u
  .rename_i z;simp only[YJ]at u;obtain⟨m,G,A,D,l,E,u⟩:=u;split at u
   .cases u
   .rename_i J;cases u;have jY:zq (Dc z) cp cp=Dc m:=zFY (x:=Dc z) (d:=cp) G hle;have H:=Qx (P:=P) (w:=w) (sl:=DF) N O K jY D E (λe=>J e.1) (λe=>by cases e);have V:(if m=l then Dc (⟨C.blk,f,none⟩:Addr)else Option.map (λx=>x.add (l*i.size)) (Dc (⟨C.blk,f,none⟩:Addr)))=Dc (if m=l then(⟨C.blk,f,none⟩:Addr)else(⟨C.blk,f,none⟩:Addr).add (l*i.size)):=by split<;>rfl
    refine⟨.slice (Dc (if m=l then(⟨C.blk,f,none⟩:Addr)else(⟨C.blk,f,none⟩:Addr).add (l*i.size))) (A-l) (m-l),by rw[M];simp only[Instr.slice,Sem.run_bind,run_underlying L,Result.andThen_ok,H,zo R,Sem.run_pure];rw[V],C,_,U,rfl,?_⟩;have c1:m<=len:=by rcases Ze (show zq (Dc z) len len=Dc m from G)with ⟨_,x⟩|x<;>omega
    have c2:A<=m:=by
     rcases Ze D with ⟨e,x⟩|x
     .exact absurd (by rw[e];rfl) J
     .exact x
    have c3:l<=A:=by rcases Ze E with ⟨_,x⟩|x<;>omega
    by_cases gK:m=l
    .right;omega
    .left;rw[DL gK,DL gK];rcases X with rfl|hz
     .simp[ZN,UP]
     .omega
  .simp only[YJ]at u;obtain⟨A,D,l,E,u⟩:=u;cases u;have Rk:l<=A:=by rcases Ze E with ⟨_,x⟩|x<;>omega
   have sF:A<=len:=by rcases Ze D with ⟨_,x⟩|x<;>omega
   have H:=Qx (P:=P) (w:=w) (sl:=DF) (cap:=cp) (m:=cp) N O K rfl (zFY D hle) E (λe=>by cases e.2) (λ_=>rfl);refine⟨_,by rw[M];simp only[Instr.slice,Sem.run_bind,run_underlying L,Result.andThen_ok,H,zo R,Sem.run_pure];rfl,C,cp-l,if cp=l then f else f+l*i.size,U,?_,af,?_,?_⟩
   .split
    .rfl
    .simp[ZN]
   .rcases X with rfl|⟨hz,dX,dh⟩
    .by_cases Z:cp=l
     .rw[DK Z];by_cases S:off+l*i.size=0
      .left;omega
      .right;exact⟨af,S,af⟩
     .rw[DL Z];left;omega
    .right;exact⟨af,af,af⟩
   .intro S CK;have Y:g=i.size:=by
     by_cases x:g=i.size
     .exact x
     .rw[DL x]at CK;exact absurd rfl CK
    rw[DK Y]at CK ⊢;subst Y;have FN:f=C.base+off:=by
     rcases X with x|⟨_,x,y⟩
     .exact x
     .subst y;have nj:l=0:=af
      subst nj;rw[DK rfl,E1,UF]at S;exact S
    have K:=bE FN CK;have h4:(cp-l)*i.size+l*i.size=cp*i.size:=by rw[<-FF];congr 1;omega
    omega
 .simp only[YJ]at u;obtain⟨m,G,A,D,l,E,u⟩:=u;split at u
  .cases u
  .rename_i J;cases u;rw[show c=_ from W];have H:=Qx (P:=P) (w:=w) (sl:=DF) N O K G D E J (λe=>by subst e;cases G;rfl);refine⟨_,by rw[M];simp only[Instr.slice,Sem.run_bind,run_underlying L,Result.andThen_ok,H,zo R,Sem.run_pure];rfl,?_⟩;have z1:m=0:=by rcases Ze G with ⟨_,x⟩|x<;>omega
   have z2:A=0:=by rcases Ze D with ⟨_,x⟩|x<;>omega
   have z3:l=0:=by rcases Ze E with ⟨_,x⟩|x<;>omega
   subst z1;subst z2;subst z3;rfl
 .cases u
end
section
open Go.RowKit
variable{P:Program}{w0 w:World}{j:gz}{h:ct}{e:Env}{a:Act}
def zFS:∀(l:List Value) (off k:Nat) (cells:Array Value),off+k+Lu l<=cells.size->
  ((l.zipIdx k).foldl (λcs (x:Value×Nat)=>cs.setIfInBounds (off+x.2) x.1) cells).toList=cells.toList.take (off+k)++l++cells.toList.drop (off+k+Lu l)
 |[],off,k,cells,_=>by simp
 |v::l,off,k,cells,hl=>by
  simp only[List.zipIdx_cons,List.foldl_cons];have u:off+k<cells.size:=by simp at hl;omega
  rw[zFS l off (k+1) _ (by simp at hl ⊢;omega)];have A:off+k<Lu cells.toList:=by simpa using u
  have C:(cells.toList.set (off+k) v).take (off+(k+1))=cells.toList.take (off+k)++[v]:=by
   rw[<-UP,YN (by simpa using A),List.take_set_of_le (na _)];simp
  have D:(cells.toList.set (off+k) v).drop (off+(k+1)+Lu l)=cells.toList.drop (off+k+(Lu l+1)):=by
   rw[List.drop_set_of_lt af];congr 1;omega
  simp only[Array.toList_setIfInBounds,Yu,C,D];simp
def zAn{place:Nat->Option (Nat×Nat)}:∀(u:List (Nat×Operand)) (l:List (Nat×Nat×AV)) (cells:List AV) (cs:Array Value) (ρ:Operand->Value) (out:List AV),
  l6 j cells cs.toList->cells.all AV.one=DF->uy cells l=Dc out->u.length=Lu l->(∀(k:Nat) (p:Nat×Operand) (q:Nat×Nat×AV),u[k]? = Dc p->l[k]? = Dc q->place p.1=Dc (q.1,q.2.1)/\VI j q.2.2 (ρ p.2))->
  ∃r,Instr.fill place cs (u.map λp=>(p.1,ρ p.2))=Dc r/\l6 j out r.toList/\out.all AV.one=DF
 |[],l,cells,cs,ρ,out,hc,ho,hf,hl,_=>by
  cases l with
  |nil=>cases hf;exact⟨cs,rfl,hc,ho⟩
  |cons _ _=>simp at hl
 |p::u,[],cells,cs,ρ,out,hc,ho,hf,hl,_=>by simp at hl
 |p::u,(off,size,v)::l,cells,cs,ρ,out,hc,ho,hf,hl,hp=>by
  obtain⟨J,K⟩:=hp 0 p (off,size,v) aK aK;simp only[uy]at hf;split at hf
  .rename_i N;obtain⟨b1,U,A⟩:=N;have E:=VI.cells K A;have C:=E.length;have D:=hc.length;have I:¬((ρ p.2).cells.size≠size\/off+(ρ p.2).cells.size > cs.size):=by
    simp at C D;omega
   have H:l6 j (cells.take off++v.cells++cells.drop (off+size)) (((ρ p.2).cells.zipIdx.foldl (λcs (x:Value×Nat)=>cs.setIfInBounds (off+x.2) x.1) cs).toList):=by
    have R:((ρ p.2).cells.zipIdx.foldl (λcs (x:Value×Nat)=>cs.setIfInBounds (off+x.2) x.1) cs)=(((ρ p.2).cells.toList.zipIdx 0).foldl (λcs (x:Value×Nat)=>cs.setIfInBounds (off+x.2) x.1) cs):=by
     rw[<-Array.foldl_toList,Array.toList_zipIdx]
    rw[R,zFS _ off 0 cs (by simp at C D ⊢;omega)];rw[<-C,b1];simpa using ((hc.take off).append E).append (hc.drop (off+size))
   have G:(cells.take off++v.cells++cells.drop (off+size)).all AV.one=DF:=by
    rw[D2]at ho A ⊢;intro x hx;simp only[YY]at hx;rcases hx with (hx|hx)|hx
    .exact ho x (UY hx)
    .exact A x hx
    .exact ho x (Ey hx)
   obtain⟨r,O,L,M⟩:=zAn u l _ _ ρ out H G hf (by simpa using hl) (λk S T a b=>hp (k+1) S T (by simpa using a) (by simpa using b));refine⟨r,?_,L,M⟩;simp only[YE,Instr.fill,J];rw[DL (by simpa using I)];exact O
  .cases hf
def zEh(r:ER nt j e a){fields:Array Field}:∀{C:List (Nat×Operand)} {A:List (Nat×Nat×IX)},zEi P fields C=Dc A->
  C.length=Lu A/\∀(k:Nat) (p:Nat×Operand) (q:Nat×Nat×AV),C[k]? = Dc p->(A.map λq=>(q.1,q.2.1,q.2.2.ev e))[k]? = Dc q->
   ((fields.map λf=>(f.offset,P.cellsOf f.type))[p.1]?)=Dc (q.1,q.2.1)/\VI j q.2.2 (a.eval p.2)
 |[],A,l=>by cases l;exact⟨rfl,λk p q u=>by simp at u⟩
 |(i,x)::C,A,l=>by
  simp only[zEi,YJ]at l;obtain⟨f,H,L,D,M,I,K,J,l⟩:=l;cases l;obtain⟨E,G⟩:=zEh r J;refine⟨by simp[E],λk p q u l=>?_⟩;cases k with
  |zero=>
   simp at u l;subst u;subst l;exact⟨by simp[H,Program.cellsOf,D],zP r I⟩
  |succ k=>exact G k p q (by simpa using u) (by simpa using l)
def zGn:∀(l:List Field),l.all (λf=>(P.info? f.type).isSome)=DF->
  (l.mapM λf=>(do pure (f.offset,<-sizeOf f.type):Sem (Nat×Nat))).run P w=.ok (l.map λf=>(f.offset,P.cellsOf f.type)) w
 |[],_=>by simp
 |f::l,Ay=>by
  simp only[Ej,Yo]at Ay;obtain⟨i,u⟩:=Option.isSome_iff_exists.1 Ay.1;have A:=zGn l Ay.2;simp only[List.mapM_cons,Sem.run_bind,zo u,Result.andThen_ok,Sem.run_pure,YE];rw[A];simp[Program.cellsOf,u]
def zLk(r:ER nt j e a){t:TypeId}{fields:Array Field}{z:Array Value}{l:Array (Nat×Operand)}{u:List (Nat×Nat×IX)}{zs out:List AV}{i:TypeInfo}
  (M:P.underlying t=Dc (.struct fields)) (J:P.info? t=Dc i) (O:i.zero=Dc (.agg z)) (C:fields.toList.all (λf=>(P.info? f.type).isSome)=DF)
  (D:qY z.toList=Dc zs) (A:zEi P fields l.toList=Dc u) (N:uy zs (u.map λq=>(q.1,q.2.1,q.2.2.ev e))=Dc out):
  wF P (Instr.build t (l.map λ(i,x)=>(i,a.eval x))) w j (.agg out):=by
 obtain⟨G,H⟩:=zEh r A;obtain⟨R,S⟩:=qa (j:=j) D;obtain⟨res,L,I,_⟩:=zAn (place:=λk=>(fields.map λf=>(f.offset,P.cellsOf f.type))[k]?) l.toList _ zs z a.eval out R S N (by simpa using G) H;refine⟨.agg res,?_,_,I,aK⟩;have K:(fields.mapM λf=>(do pure (f.offset,<-sizeOf f.type):Sem (Nat×Nat))).run P w=.ok (fields.map λf=>(f.offset,P.cellsOf f.type)) w:=by
  rw[Array.mapM_eq_mapM_toList];simp only[Sem.run_map];rw[zGn _ C];simp only[Result.andThen_ok,Result.ok.injEq,and_true];apply Array.ext';simp
 have E:(l.map λ(i,x)=>(i,a.eval x)).toList=l.toList.map λp=>(p.1,a.eval p.2):=aK
 simp only[Instr.build,Sem.run_bind,zeroValue,typeInfo,J,O,run_program,Result.andThen_ok,Sem.run_pure,run_underlying M,K,E,Value.cells];rw[L];simp
def zFm(r:ER nt j e a){size:Nat}:∀{C:List (Nat×Operand)} {A:List (Nat×Nat×IX)},carts size C=Dc A->C.length=(A.map λp=>(p.1,p.2.1,p.2.2.ev e)).length/\
  ∀(k:Nat) (p:Nat×Operand) (q:Nat×Nat×AV),C[k]? = Dc p->(A.map λq=>(q.1,q.2.1,q.2.2.ev e))[k]? = Dc q->(Dc (p.1*size,size))=Dc (q.1,q.2.1)/\VI j q.2.2 (a.eval p.2)
 |[],A,l=>by cases l;exact⟨rfl,λk p q u=>by simp at u⟩
 |(n,x)::C,A,l=>by
  simp only[carts,YJ]at l;obtain⟨J,E,I,H,l⟩:=l;cases l;obtain⟨D,G⟩:=zFm r H;refine⟨by simp at D ⊢;exact D,λk p q u l=>?_⟩;cases k with
  |zero=>simp at u l;subst u;subst l;exact⟨rfl,zP r E⟩
  |succ k=>exact G k p q (by simpa using u) (by simpa using l)
def zKS(r:ER nt j e a){t A:TypeId}{len:Nat}{z:Array Value}{l:Array (Nat×Operand)}{C:List (Nat×Nat×IX)}{zs out:List AV}{i u:TypeInfo}
  (M:P.underlying t=Dc (.array len A)) (K:P.info? t=Dc i) (O:i.zero=Dc (.agg z)) (R:P.info? A=Dc u)
  (E:qY z.toList=Dc zs) (D:carts u.size l.toList=Dc C) (N:uy zs (C.map λq=>(q.1,q.2.1,q.2.2.ev e))=Dc out):
  wF P (Instr.build t (l.map λ(i,x)=>(i,a.eval x))) w j (.agg out):=by
 obtain⟨H,I⟩:=zFm r D;obtain⟨S,T⟩:=qa (j:=j) E;obtain⟨res,L,J,_⟩:=zAn (place:=λk=>Dc (k*u.size,u.size)) l.toList _ zs z a.eval out S T N H I;refine⟨.agg res,?_,_,J,aK⟩;have G:(l.map λ(i,x)=>(i,a.eval x)).toList=l.toList.map λp=>(p.1,a.eval p.2):=aK
 simp only[Instr.build,Sem.run_bind,zeroValue,typeInfo,K,O,run_program,Result.andThen_ok,Sem.run_pure,run_underlying M,zo R,G,Value.cells];rw[L];simp
def zHf{t:TypeId}(E:P.underlying t=Dc .string){x:AV}{G D:Option AV}{c:Value}{clo A:Option Value}{v:AV}
  (L:VI j x c) (I:OB j G clo) (J:OB j D A) (u:zCk x G D=Dc v):wF P (Instr.sliceAt t c clo A none) w j v:=by
 have C:(Instr.sliceAt t c clo A none).run P w=(Instr.slice t c clo A none).run P w:=by simp[Instr.sliceAt,run_underlying E]
 unfold zCk at u;split at u
 .rename_i s;simp only[YJ]at u;obtain⟨O,N,l,M,u⟩:=u;cases u;rw[show c=_ from L]at C ⊢;have H:(⟨s.toArray⟩:ByteArray).size=Lu s:=by simp[ByteArray.size]
  have K:=Qx (P:=P) (w:=w) (sl:=false) (mx:=none) (cmx:=none) (cap:=s.length) (m:=s.length) I J trivial rfl N M (λe=>by cases e.2) (λ_=>rfl);refine⟨_,by rw[C];simp only[Instr.slice,Sem.run_bind,run_underlying E,Result.andThen_ok,H,Option.isSome,EB,if_false,Sem.run_pure,K];rfl,?_⟩;show Value.string _=Value.string _;congr 1;apply ByteArray.ext;apply Array.ext';simp[ByteArray.data_extract,Array.toList_extract,List.drop_take]
 .cases u
def zHw{t:TypeId}(E:P.underlying t=Dc .string){s:List UInt8}{k:IntKind}{n:Int}{c:Value}{v:AV}(D:VI j (.str s) c)
  (l:(if 0<=n then(s[n.toNat]?).map λc=>AV.int .u8 c.toNat else none)=Dc v):wF P (Instr.index t c (.int k n)) w j v:=by
 rw[show c=_ from D];split at l
 .rename_i C;simp only[YK]at l;obtain⟨b,u,rfl⟩:=l;refine⟨_,?_,rfl⟩
  have:(⟨s.toArray⟩:ByteArray)[n.toNat]? = Dc b:=by
   have A:=(Yj.1 u).1;rw[getElem?_pos (c:=(⟨s.toArray⟩:ByteArray)) (i:=n.toNat) (h:=by simpa [ByteArray.size]using A)];congr 1;exact(Yj.1 u).2
  simp[Instr.index,asIntOf,run_underlying E,C,this]
 .cases l
def OB.of(r:ER nt j e a){x:Option Operand}{l:Option IX}(A:cxo x=Dc l):OB j (l.map (·.ev e)) (x.map a.eval):=by
 rcases zPi r A with ⟨rfl,rfl⟩|⟨y,C,rfl,rfl,u⟩
 .trivial
 .exact u
def zNn(m:MR B w0 j h w)(r:ER nt j e a){o:Oper}{io:qk}(u:copQ P o.op=Dc io){nb:Nat}{v:AV}(A:qv nb io e h=Dc v):
  ∃M,(execOp a.eval o).run P w=.ok (.value M) w/\VI j v M:=by
 obtain⟨dst,op,ty,pos,after,guard⟩:=o;have fin:∀{s:Sem Value},wF P s w j v->∃M,(do pure (.value (<-s)):Sem Next).run P w=.ok (.value M) w/\VI j v M:=by
  rintro s ⟨M,H,J⟩
  exact⟨M,by simp[H],J⟩
 cases op<;>simp only[copQ]at u<;>(try (cases u;done))
 case move x=>
  simp only[YK]at u;obtain⟨G,C,rfl⟩:=u;cases A;exact⟨_,rfl,zP r C⟩
 case assign x=>
  simp only[YK]at u;obtain⟨G,C,rfl⟩:=u;cases A;exact⟨_,rfl,zP r C⟩
 case pick c x y=>
  simp only[YJ]at u;obtain⟨ic,FA,G,C,iy,W,u⟩:=u;cases u;simp only[qv,nu,oT,vZ,ZK,qN,qy,qj,qW,wD,qx,wm,qi,CF]at A;split at A
  .rename_i t D;have S:=zP r FA;rw[D]at S;cases A;cases t with
   |true=>exact⟨_,by simp[execOp,show a.eval c=_ from S,asBool],zP r C⟩
   |false=>exact⟨_,by simp[execOp,show a.eval c=_ from S,asBool],zP r W⟩
  .cases A
 case binOp Sd xt x y yt=>
  simp only[YJ]at u;obtain⟨G,C,iy,W,u⟩:=u;cases u;simp only[qv,nu,oT,vZ,ZK,qN,qy,qj,qW,wD,qx,wm,qi,CF]at A;obtain⟨hr,Z⟩:=zNv (P:=P) (w:=w) A (zP r C) (zP r W);obtain⟨M,H,J⟩:=hr;rcases Z with Z|⟨Z,xs,ys,R,Y⟩
  .exact⟨M,by simp[execOp,zIr Z,H],J⟩
  .rw[R,Y]at H;exact⟨M,by simp[execOp,R,Y,run_eqGuard_agg _ _ _ _ _ _ _ Z,H],J⟩
 case unOp Pn xt x=>
  simp only[YK]at u;obtain⟨G,C,rfl⟩:=u;exact fin (zPq A (zP r C))
 case convert s d x=>
  split at u
  .rename_i k0 k hs hd;simp only[YK]at u;obtain⟨G,C,rfl⟩:=u;simp only[qv,nu,oT,vZ,ZK,qN,qy,qj,qW,wD,qx,wm,qi,CF]at A;split at A
   .rename_i k1 n E
    have:=zP r C
    rw[E]at this;cases A;refine fin ⟨_,?_,rfl⟩;simp[convert,run_underlying hs,run_underlying hd,show a.eval x=_ from this,Conv.intToInt]
   .cases A
  .cases u
 case nilCheck x=>
  simp only[YK]at u;obtain⟨G,C,rfl⟩:=u;simp only[qv,nu,oT,vZ,ZK,qN,qy,qj,qW,wD,qx,wm,qi,CF]at A
  have:=zP r C
  split at A
  .rename_i o i E;rw[E]at this;cases A;obtain⟨l,hl,N⟩:=this;exact⟨_,by simp[execOp,N],l,hl,rfl⟩
  .rename_i f x' y' E;rw[E]at this;cases A;obtain⟨vs,us,H,J,N⟩:=this;exact⟨_,by simp[execOp,N],vs,us,H,J,rfl⟩
  .cases A
 case build t ps=>
  split at u
  .rename_i fields z D T;split at u
   .rename_i ai;simp only[YJ]at u T;obtain⟨zs,dy,qs,jd,u⟩:=u;obtain⟨i,K,T⟩:=T;cases u;simp only[qv,YK]at A;obtain⟨out,ho,rfl⟩:=A;exact fin (zLk r D K T ai dy jd ho)
   .cases u
  .rename_i len V z D T;simp only[YJ]at u T;obtain⟨i2,j6,zs,dy,qs,jd,u⟩:=u;obtain⟨i,K,T⟩:=T;cases u;simp only[qv,YK]at A;obtain⟨out,ho,rfl⟩:=A;exact fin (zKS r D K T j6 dy jd ho)
  .cases u
 case load t x=>
  split at u
  .rename_i d i hd K;simp only[YK]at u;obtain⟨G,C,rfl⟩:=u;simp only[qv,nu,oT,vZ,ZK,qN,qy,qj,qW,wD,qx,wm,qi,CF]at A;split at A
   .rename_i o k E
    have:=zP r C
    rw[E]at this;exact fin (zGq m hd K this A)
   .cases A
  .cases u
 case makeFunc fn first cR=>
  cases fn<;>simp only at u<;>(try (cases u;done))
  rename_i f;simp only[YJ]at u;obtain⟨x1,X,x2,iX,u⟩:=u;cases u;cases A;refine fin ⟨.func (.func f) (first.map a.eval) (cR.map a.eval),by simp[Instr.makeFunc],_,_,zBW r X,zBW r iX,?_⟩;congr 1<;>(apply Array.ext';simp)
 case slice t x lo K mx=>
  split at u
  .rename_i V D;simp only[YJ]at u;obtain⟨i,fJ,G,C,l1,oK,l2,fH,l3,CE,u⟩:=u;cases u;exact fin (zKo D fJ (zP r C) (OB.of r oK) (OB.of r fH) (OB.of r CE) A)
  .rename_i D;simp only[YJ]at u;obtain⟨G,C,l1,oK,l2,fH,u⟩:=u;split at u
   .cases u;exact fin (zHf D (zP r C) (OB.of r oK) (OB.of r fH) A)
   .cases u
  .cases u
 case fieldAddr t x f=>
  split at u
  .rename_i fields D;simp only[YJ]at u;obtain⟨fd,hf,i,K,u⟩:=u;split at u
   .cases u
   .rename_i an;simp only[YK]at u;obtain⟨G,C,rfl⟩:=u;simp only[qv,nu,oT,vZ,ZK,qN,qy,qj,qW,wD,qx,wm,qi,CF]at A;split at A
    .rename_i o k E
     have:=zP r C
     rw[E]at this;cases A;exact fin (zG9 D hf K an this)
    .cases A
  .cases u
 case field t x f=>
  split at u
  .rename_i fields D;simp only[YJ]at u;obtain⟨fd,hf,u⟩:=u;split at u
   .rename_i d i hd K;simp only[YK]at u;obtain⟨G,C,rfl⟩:=u;simp only[qv,nu,oT,vZ,ZK,qN,qy,qj,qW,wD,qx,wm,qi,CF]at A;split at A
    .rename_i cs E
     have:=zP r C
     rw[E]at this;exact fin (zLh D hf hd K this A)
    .cases A
   .cases u
  .cases u
 case indexAddr t x G=>
  split at u
  .rename_i V D;simp only[YJ]at u;obtain⟨i,K,x1,X,x2,iX,u⟩:=u;cases u;simp only[qv,nu,oT,vZ,ZK,qN,qy,qj,qW,wD,qx,wm,qi,CF]at A;split at A
   .rename_i o off len cap k n H J;have I:=zP r X;have L:=zP r iX;rw[H]at I;rw[J]at L;split at A
    .rename_i S;cases A;refine fin ?_;rw[show a.eval G=Value.int k n from L];exact zG3 D K I S.1 S.2
    .cases A
   .cases A
  .rename_i len V D;split at u
   .rename_i ik n;simp only[YJ]at u;obtain⟨i,K,u⟩:=u;split at u
    .rename_i S;simp only[YK]at u;obtain⟨x1,X,rfl⟩:=u;simp only[qv,nu,oT,vZ,ZK,qN,qy,qj,qW,wD,qx,wm,qi,CF]at A;split at A
     .rename_i o k E;have I:=zP r X;rw[E]at I;cases A;exact fin (zHR D K I S.1 S.2)
     .cases A
    .cases u
   .cases u
  .cases u
 case index t x G=>
  split at u
  .rename_i D;simp only[YJ]at u;obtain⟨x1,X,x2,iX,u⟩:=u;cases u;simp only[qv,nu,oT,vZ,ZK,qN,qy,qj,qW,wD,qx,wm,qi,CF]at A;split at A
   .rename_i s k n H J;have I:=zP r X;have L:=zP r iX;rw[H]at I;rw[J]at L;refine fin ?_;rw[show a.eval G=Value.int k n from L];exact zHw D I A
   .cases A
  .cases u
 case extract x i=>
  simp only[YK]at u;obtain⟨G,C,rfl⟩:=u;simp only[qv,nu,oT,vZ,ZK,qN,qy,qj,qW,wD,qx,wm,qi,CF]at A;split at A
  .rename_i vs E
   have:=zP r C
   rw[E]at this;obtain⟨cs,eY,N⟩:=this;obtain⟨M,H,J⟩:=eY.get A;exact fin ⟨M,by simp[N,Instr.extract,H],J⟩
  .cases A
 case call c=>
  obtain⟨callee,args,argTypes⟩:=c;cases callee<;>simp only at u<;>(try (cases u;done))
  rename_i b;split at u<;>(try (cases u;done))
  .rename_i x t O U;have R:args = #[x]:=by rw[<-Ew (xs:=args),O]
   have Y:argTypes = #[t]:=by rw[<-Ew (xs:=argTypes),U]
   clear O U;subst R;subst Y;split at u<;>(try (cases u;done))
   .rename_i V D;simp only[YK]at u;obtain⟨G,C,rfl⟩:=u
    have:=zP r C
    simp only[qv,nu,oT,vZ,ZK,qN,qy,qj,qW,wD,qx,wm,qi,CF]at A;split at A
    .rename_i o off n cap E;rw[E]at this;cases A;obtain⟨y,I,L⟩:∃y I,a.eval x=.slice (Dc y) n I:=by
      cases cap with
      |b6 q=>obtain⟨l,_,hl,N,_⟩:=this;exact⟨_,_,N⟩
      |grown q=>obtain⟨l,cc,ff,hl,N,_⟩:=this;exact⟨_,_,N⟩
     exact⟨.int .i64 n,by simp[execOp,resolve,invoke,builtin,L,Builtin.len_,run_underlying D,goInt],rfl⟩
    .rename_i E;rw[E]at this;cases A;exact⟨.int .i64 0,by simp[execOp,resolve,invoke,builtin,show a.eval x=_ from this,Builtin.len_,run_underlying D,goInt],rfl⟩
    .cases A
   .rename_i D;simp only[YK]at u;obtain⟨G,C,rfl⟩:=u
    have:=zP r C
    simp only[qv,nu,oT,vZ,ZK,qN,qy,qj,qW,wD,qx,wm,qi,CF]at A;split at A
    .rename_i s E;rw[E]at this;cases A;have dI:(⟨s.toArray⟩:ByteArray).size=Lu s:=by simp[ByteArray.size]
     exact⟨.int .i64 s.length,by simp[execOp,resolve,invoke,builtin,show a.eval x=_ from this,Builtin.len_,run_underlying D,goInt,dI],rfl⟩
    .cases A
  .rename_i x t O U;have R:args = #[x]:=by rw[<-Ew (xs:=args),O]
   have Y:argTypes = #[t]:=by rw[<-Ew (xs:=argTypes),U]
   clear O U;subst R;subst Y;split at u<;>(try (cases u;done))
   rename_i V D;simp only[YK]at u;obtain⟨G,C,rfl⟩:=u
   have:=zP r C
   simp only[qv,nu,oT,vZ,ZK,qN,qy,qj,qW,wD,qx,wm,qi,CF]at A;split at A
   .rename_i o off n q E;rw[E]at this;cases A;obtain⟨l,hl,N⟩:=this;exact⟨.int .i64 q,by simp[execOp,resolve,invoke,builtin,N,Builtin.cap_,run_underlying D,goInt],rfl⟩
   .rename_i E;rw[E]at this;cases A;exact⟨.int .i64 0,by simp[execOp,resolve,invoke,builtin,show a.eval x=_ from this,Builtin.cap_,run_underlying D,goInt],rfl⟩
   .cases A
  .rename_i x y t t' O U;have R:args = #[x,y]:=by rw[<-Ew (xs:=args),O]
   clear O U;subst R;split at u<;>(try (cases u;done))
   rename_i V D;simp only[YJ]at u;obtain⟨G,C,iy,W,u⟩:=u;cases u;have I:=zP r C;have L:=zP r W;simp only[qv,nu,oT,vZ,ZK,qN,qy,qj,qW,wD,qx,wm,qi,CF]at A;split at A
   .rename_i k n k' n' H J;rw[H]at I;rw[J]at L;split at A
    .rename_i ek;subst ek;cases A;refine⟨.int k (max n n'),?_,rfl⟩;simp only[execOp,resolve,invoke,builtin];simp[show a.eval x=_ from I,show a.eval y=_ from L,Builtin.max_,Builtin.max2,Int.max_def];split<;>split<;>omega
    .cases A
   .cases A
  .rename_i x y t t' O U;have R:args = #[x,y]:=by rw[<-Ew (xs:=args),O]
   clear O U;subst R;split at u<;>(try (cases u;done))
   rename_i V D;simp only[YJ]at u;obtain⟨G,C,iy,W,u⟩:=u;cases u;have I:=zP r C;have L:=zP r W;simp only[qv,nu,oT,vZ,ZK,qN,qy,qj,qW,wD,qx,wm,qi,CF]at A;split at A
   .rename_i k n k' n' H J;rw[H]at I;rw[J]at L;split at A
    .rename_i ek;subst ek;cases A;refine⟨.int k (min n n'),?_,rfl⟩;simp only[execOp,resolve,invoke,builtin];simp[show a.eval x=_ from I,show a.eval y=_ from L,Builtin.min_,Builtin.min2,Int.min_def];split<;>split<;>omega
    .cases A
   .cases A
end
section
open Go.RowKit
def zAs(size:Nat):List (Nat×Operand)->Option (List (Nat×Nat×IX))
 |[]=>Dc []
 |(i,x)::r=>(cx x).bind λa=>(zAs size r).bind λb=>Dc ((i*size,size,a)::b)
def zFC(P:Program)(c:Call):Option qk:=
 match c.callee with
 | .builtin b=>match b,c.args.toList,c.argTypes.toList with
  | .append,[s,x],[t,t']=>match P.underlying t with
   |some (.slice et)=>if t=t' then(P.info? et).bind λi=>i.zero.bind λz=>(cx s).bind λs=>(cx x).bind λx=>
     if z.cells.size=i.size/\i.size≠0 then Dc (.append i.size i.bytes s x)else none else
    match P.underlying t' with
    |some (.int _)=>(P.info? et).bind λi=>i.zero.bind λz=>(qY z.cells.toList).bind λzs=>(cx s).bind λs=>(cx x).bind λx=>
     if zs.length=i.size/\i.size≠0 then Dc (.appendMk i.size i.bytes zs s x)else none
    |_=>none
   |_=>none
  | .copy,[d,s],[t,_]=>match P.underlying t with
   |some (.slice et)=>(P.info? et).bind λi=>(cx d).bind λd=>(cx s).bind λs=>Dc (.copy i.size d s)
   |_=>none
  |_,_,_=>none
 | .value (.func f)=>if okF P f=DF then(cxs c.args.toList).map (.call f)else none
 | .value (.tmp t)=>(cxs c.args.toList).map (.callV (.t t))
 |_=>none
def copE(P:Program):Op->Option qk
 | .alloc t=>((P.info? t).bind (·.zero)).bind λz=>(qY z.cells.toList).map .alloc
 | .box _ x=>(cx x).map .box
 | .buildSlice t len ps=>match P.underlying t with
  |some (.slice et)=>(P.info? et).bind λi=>i.zero.bind λz=>(qY z.cells.toList).bind λzs=>(zAs i.size ps.toList).bind λu=>
   if zs.length=i.size/\i.size≠0/\len*i.size<=16777216 then Dc (.buildSl i.size len zs u)else none
  |_=>none
 | .store t x v=>(P.info? t).bind λi=>(cx x).bind λx=>(cx v).bind λv=>Dc (.store i.size x v)
 | .makeSlice t l c=>match P.underlying t with
  |some (.slice et)=>(P.info? et).bind λi=>i.zero.bind λz=>(qY z.cells.toList).bind λzs=>(cx l).bind λl=>(cx c).bind λc=>
   if zs.length=i.size/\i.size≠0 then Dc (.makeSl i.size i.bytes zs l c)else none
  |_=>none
 | .call c=>zFC P c
 | .convert src dst x=>match P.underlying src,P.underlying dst with
  |some (.slice et),Dc .string=>match P.underlying et with
   |some (.int .u8)=>(cx x).map .strOf
   |_=>none
  |_,_=>none
 |_=>none
def eff(P:Program)(op:qk)(e:Env)(h:ct)(K:AV->ct->Prop):Prop:=
 match op with
 | .alloc z=>K (.ptr h.aM 0) (h.bf ⟨DF,z⟩)
 | .box x=>(x.ev e).cells.all AV.one=DF/\K (.ptr h.aM 0) (h.bf ⟨DF,(x.ev e).cells⟩)
 | .buildSl sz len z ps=>fw (uy (iU z len) (ps.map λp=>(p.1,p.2.1,p.2.2.ev e))) λcs=>K (.sl h.aM 0 len (.b6 len)) (h.bf ⟨DF,cs⟩)
 | .store n x v=>match x.ev e with
  | .ptr o i=>(v.ev e).cells.length=n/\fw (h.wr o i (v.ev e).cells) λh'=>K .undef h'
  |_=>False
 | .makeSl sz bytes z l c=>match l.ev e,c.ev e with
  | .int _ l,.int _ c=>(0<=l/\l<=c/\c*bytes<=140737488355328/\c<=9223372036854775807)/\K (.sl h.aM 0 l.toNat (.b6 c.toNat)) (h.bf ⟨DF,iU z c.toNat⟩)
  |_,_=>False
 | .append sz bytes s x=>fw (zDP sz bytes h (s.ev e) (x.ev e)) λp=>K p.1 p.2
 | .appendMk sz bytes z s n=>match s.ev e,n.ev e with
  | .b8,.int _ n=>(0<=n/\n*bytes<=140737488355328/\n<=4611686018427387904)/\if 0<n then K (.sl h.aM 0 n.toNat (.grown sz)) (h.bf ⟨DF,iU z n.toNat⟩)else K .b8 h
  | .sl o off len c,.int _ n=>(0<=n/\n*bytes<=140737488355328/\n<=4611686018427387904)/\fw (if 0<n then tx sz bytes h (.sl o off len c) (iU z n.toNat) n.toNat else(AW (.sl o off len c)).map λv=>(v,h)) λp=>K p.1 p.2
  |_,_=>False
 | .copy sz d s=>fw (acopy sz h (d.ev e) (s.ev e)) λp=>K p.1 p.2
 | .call f args=>Zm P f (args.map (·.ev e)) h K
 | .callV f args=>match f.ev e with
  | .clo f first cR=>okF P f=DF/\Zm P f (first++args.map (·.ev e)++cR) h K
  |_=>False
 | .strOf x=>fw ((alen (x.ev e)).bind λn=>(zAu 1 h (x.ev e) n).bind zCK) λs=>K (.str s) h
 |_=>False
variable{P:Program}{B:Nat}{w0 w:World}{j:gz}{h:ct}{nt:Nat}{e:Env}{a:Act}
def Ends(P:Program)(s:Sem Next)(w:World)(B:Nat)(w0:World)(j:gz)(h:ct)(K:AV->ct->Prop):Prop:=
 ∃v h' u l A,(s.run P w=.ok (.value l) A\/(s.run P w=.ok .skip A/\l=undef))/\FR j h u h'/\MR B w0 u h' A/\VI u v l/\K v h'
def QK(z:List Value)(C:z≠[]):∀n,(madeCells z.toArray (n*Lu z)).toList=(Ep n z).flatten:=by
 intro n;have A:0<Lu z:=List.length_pos_iff.2 C;apply En;intro i;by_cases u:i<n*Lu z
 .have h1:(madeCells z.toArray (n*Lu z)).toList[i]? = z[i % z.length]?:=by
   have l:i % z.length<Lu z:=Nat.mod_lt _ A;simp[madeCells,u,l]
  rw[h1];clear h1
  induction n generalizing i with
  |zero=>simp at u
  |succ n ih=>
   rw[Es,FY];by_cases l:i<Lu z
   .rw[Yn l,Nat.mod_eq_of_lt l]
   .rw[Yz af]
    have:=ih (i-Lu z) (by rw[Nat.succ_mul]at u;omega)
    rw[<-this];congr 1;rw[Nat.mod_eq_sub_mod af]
 .rw[Yq (by simp[madeCells];omega),Yq (by simp;omega)]
def l6.replicate{zs:List AV}{z:List Value}(l:l6 j zs z):∀n,l6 j (iU zs n) ((Ep n z).flatten)
 |0=>rfl
 |n+1=>by
  simp only[iU,Es,FY];exact l.append (l6.replicate l n)
def zCO{zs:List AV}(A:zs.all AV.one=DF)(n:Nat):(iU zs n).all AV.one=DF:=by
 rw[D2]at A ⊢;intro x u;simp only[iU,List.mem_flatten,List.mem_replicate]at u;obtain⟨l,⟨_,rfl⟩,u⟩:=u;exact A x u
def zNt(m:MR B w0 j h w){t:TypeId}{i:TypeInfo}{z:Value}{zs:List AV}(C:P.info? t=Dc i)(H:i.zero=Dc z)(u:qY z.cells.toList=Dc zs)
  {K:AV->ct->Prop} (D:K (.ptr h.aM 0) (h.bf ⟨DF,zs⟩)):Ends P (do pure (.value (<-Instr.alloc t DF (.tuple #[])))) w B w0 j h K:=by
 obtain⟨l,I⟩:=qa (j:=j) u;have E:=l.length;obtain⟨G,A⟩:=m.bf (ty:=t) (cur:=z.cells) (room:=0) I (by rw[E,Yf];exact l) (YV _);refine⟨.ptr h.aM 0,_,_,.pointer (Dc ⟨w.heap.size,0,none⟩),_,.inl ?_,A,G,⟨⟨w.heap.size,0,0⟩,by simp[gz.put],rfl⟩,D⟩;simp[Instr.alloc,zeroValue,typeInfo,C,H,newVar,newRow]
def zRK(m:MR B w0 j h w){t:TypeId}{v:AV}{c:Value}(A:VI j v c)(l:v.cells.all AV.one=DF)
  {K:AV->ct->Prop} (D:K (.ptr h.aM 0) (h.bf ⟨DF,v.cells⟩)):Ends P (do pure (.value (<-Instr.box t c))) w B w0 j h K:=by
 have u:=VI.cells A l;have E:=u.length;obtain⟨G,C⟩:=m.bf (ty:=t) (cur:=c.cells) (room:=0) l (by rw[E,Yf];exact u) (YV _);refine⟨.ptr h.aM 0,_,_,.pointer (Dc ⟨w.heap.size,0,none⟩),_,.inl ?_,C,G,⟨⟨w.heap.size,0,0⟩,by simp[gz.put],rfl⟩,D⟩;simp[Instr.box,newVar,newRow]
def MR.wr(m:MR B w0 j h w){o k:Nat}{l:Loc}{vs:List AV}{cs:List Value}(L:j o=Dc l)(N:l6 j vs cs){h':ct}(hw:h.wr o k vs=Dc h'):
  ∃T,(storeCells ⟨l.blk,l.base+k,none⟩ cs).run P w=.ok () T/\MR B w0 j h' T/\FR j h j h':=by
 obtain⟨A,M,S,hle,H,rfl⟩:=ct.wr_some hw;obtain⟨cur,ty,fz,O,J,U,_⟩:=(m.bt o A l M L).row;obtain⟨rfl,Y,_⟩:=U S;have hlen:=N.length;have W:l.base+Lu A.cells<=cur.size:=by
  rcases F4 A.cells.length with x|x
  .omega
  .obtain⟨C,D,_⟩:=J (Lu A.cells-1) A.cells[A.cells.length-1] (YQ af)
   have:=(Yp.1 D).1
   omega
 have R:=run_storeCells_at P l.blk (l.base+k) ty cs 0 cur w O af (N.oneCell H);simp only[UF]at R;have key:=m.setRow (cells:=A.cells.take k++vs++A.cells.drop (k+Lu vs)) M L S O
  (new:=(cur.toList.take (l.base+k)++cs++cur.toList.drop (l.base+k+Lu cs)).toArray) (by simp;omega)
  (by
   have K:=(m.bt o A l M L).one;rw[D2]at K H ⊢;intro x hx;simp only[YY]at hx;rcases hx with (hx|hx)|hx
   .exact K x (UY hx)
   .exact H x hx
   .exact K x (Ey hx))
  (by
   intro q u E;have X:q<Lu A.cells:=by
    have:=(Yj.1 E).1
    simp at this;omega
   rcases YG q k with x|x
   .rw[Yv,Yn (by simp;omega),Yc,DK x]at E;obtain⟨C,D,G⟩:=J q u E;refine⟨C,?_,G⟩
    have:(cur.toList.take (l.base+k)++cs++cur.toList.drop (l.base+k+Lu cs))[l.base+q]? = Dc C:=by
     rw[Yv,Yn (by simp;omega),Yc,DK af];simpa using D
    simpa using this
   .rcases YG q (k+Lu vs)with y|y
    .rw[Yn (by simp;omega),Yz (by simp;omega)]at E;have I:vs[q-k]? = Dc u:=by rw[<-E];congr 1;simp;omega
     obtain⟨C,D,G⟩:=N.get I;refine⟨C,?_,G⟩
     have:(cur.toList.take (l.base+k)++cs++cur.toList.drop (l.base+k+Lu cs))[l.base+q]? = Dc C:=by
      rw[Yn (by simp;omega),Yz (by simp;omega)];rw[<-D];congr 1;simp;omega
     simpa using this
    .rw[Yz (by simp;omega),Y0]at E;have I:A.cells[q]? = Dc u:=by rw[<-E];congr 1;simp;omega
     obtain⟨C,D,G⟩:=J q u I;refine⟨C,?_,G⟩
     have:(cur.toList.take (l.base+k)++cs++cur.toList.drop (l.base+k+Lu cs))[l.base+q]? = Dc C:=by
      rw[Yz (by simp;omega),Y0];have V:cur.toList[l.base+q]? = Dc C:=by simpa using D
      rw[<-V];congr 1;simp;omega
     simpa using this)
 exact⟨_,R,key.1,key.2⟩
def zMj(m:MR B w0 j h w){t:TypeId}{i:TypeInfo}(H:P.info? t=Dc i){o k:Nat}{v:AV}{p c:Value}(M:VI j (.ptr o k) p)(E:VI j v c)(hs:v.cells.length=i.size){h':ct}
  (hw:h.wr o k v.cells=Dc h') {K:AV->ct->Prop} (I:K .undef h'):Ends P (do Instr.storeAt t p c;pure .skip) w B w0 j h K:=by
 obtain⟨l,J,rfl⟩:=M;obtain⟨_,_,_,_,A,_⟩:=ct.wr_some hw;have u:=VI.cells E A;have hlen:=u.length;obtain⟨N,C,L,G⟩:=m.wr (P:=P) J u hw;refine⟨.undef,_,j,undef,_,.inr ⟨?_,rfl⟩,G,L,DJ,I⟩;have D:¬(c.cells.size≠i.size):=by simp at hlen;omega
 simp only[Instr.storeAt,Instr.sureAddr,storeVar,Sem.run_bind,Sem.run_pure,Result.andThen_ok,zo H,DL D,C]
def zKR(m:MR B w0 j h w)(r:ER nt j e a){t H:TypeId}{i:TypeInfo}{z:Value}{zs:List AV}(M:P.underlying t=Dc (.slice H))(J:P.info? H=Dc i)(Y:i.zero=Dc z)
  (S:qY z.cells.toList=Dc zs) {len:Nat} {l:Array (Nat×Operand)} {A:List (Nat×Nat×IX)} (jd:zAs i.size l.toList=Dc A) (G:zs.length=i.size) (an:i.size≠0)
  (Fi:len*i.size<=16777216) {cs:List AV} (U:uy (iU zs len) (A.map λp=>(p.1,p.2.1,p.2.2.ev e))=Dc cs)
  {K:AV->ct->Prop} (V:K (.sl h.aM 0 len (.b6 len)) (h.bf ⟨DF,cs⟩)):Ends P (do pure (.value (<-Instr.buildSlice t len (l.map λ(i,x)=>(i,a.eval x))))) w B w0 j h K:=by
 obtain⟨O,z2⟩:=qa (j:=j) S;have D:=O.length;have jO:z.cells.toList≠[]:=by intro x;rw[x]at D;simp at D;rw[D]at G;simp at G;omega
 have T:((Array.range (len*i.size)).map (z.cells[· % z.cells.size]!)).toList=(Ep len z.cells.toList).flatten:=by
  have:=QK z.cells.toList jO len
  rw[<-D,G]at this;simpa [madeCells]using this
 have jW:∀{l:List (Nat×Operand)} {A:List (Nat×Nat×IX)},zAs i.size l=Dc A->l.length=(A.map λp=>(p.1,p.2.1,p.2.2.ev e)).length/\
   ∀(k:Nat) (p:Nat×Operand) (q:Nat×Nat×AV),l[k]? = Dc p->(A.map λq=>(q.1,q.2.1,q.2.2.ev e))[k]? = Dc q->(Dc (p.1*i.size,i.size))=Dc (q.1,q.2.1)/\VI j q.2.2 (a.eval p.2):=by
  intro l
  induction l with
  |nil=>intro A u;cases u;exact⟨rfl,λk p q C=>by simp at C⟩
  |cons p l ih=>
   intro A u;obtain⟨n,x⟩:=p;simp only[zAs,YJ]at u;obtain⟨ix,X,DQ,mK,u⟩:=u;cases u;obtain⟨N,Z⟩:=ih mK;refine⟨by simp at N ⊢;exact N,λk p q C u=>?_⟩;cases k with
   |zero=>simp at C u;subst C;subst u;exact⟨rfl,zP r X⟩
   |succ k=>exact Z k p q (by simpa using C) (by simpa using u)
 obtain⟨p1,p2⟩:=jW jd;obtain⟨res,E,r1,r2⟩:=zAn (place:=λk=>Dc (k*i.size,i.size)) l.toList _ (iU zs len) ((Array.range (len*i.size)).map (z.cells[· % z.cells.size]!)) a.eval cs
  (by rw[T];exact O.replicate len) (zCO z2 len) U p1 p2
 have R:=r1.length;obtain⟨W,jw⟩:=m.bf (ty:=H) (cur:=res) (room:=0) r2 (by rw[R,Yf];exact r1) (YV _);refine⟨.sl h.aM 0 len (.b6 len),_,_,.slice (Dc ⟨w.heap.size,0,none⟩) len len,_,.inl ?_,jw,W,⟨⟨w.heap.size,0,0⟩,_,by simp[gz.put],rfl,.inl rfl⟩,V⟩;have L:(l.map λ(i,x)=>(i,a.eval x)).toList=l.toList.map λp=>(p.1,a.eval p.2):=aK
 have mX:¬(16777216<len*i.size):=af
 by_cases I:len*i.size=0
 .have:((Array.range (len*i.size)).map (z.cells[· % z.cells.size]!)) = #[]:=by rw[I];simp[Array.range_zero']
  rw[this]at E;simp[Instr.buildSlice,run_underlying M,zo J,I,L,E,newRow,Array.range_zero']
 .simp[Instr.buildSlice,run_underlying M,zo J,I,mX,L,E,newRow,zeroValue,typeInfo,J,Y]
def zLI(m:MR B w0 j h w){t u:TypeId}{i:TypeInfo}{z:Value}{zs:List AV}(R:P.underlying t=Dc (.slice u))(M:P.info? u=Dc i)(S:i.zero=Dc z)
  (H:qY z.cells.toList=Dc zs) (C:zs.length=i.size) (Y:i.size≠0) {kl kc:IntKind} {l c:Int} (L:0<=l) (V:l<=c) (Z:c*i.bytes<=140737488355328) (G:c<=9223372036854775807)
  {K:AV->ct->Prop} (N:K (.sl h.aM 0 l.toNat (.b6 c.toNat)) (h.bf ⟨DF,iU zs c.toNat⟩)):Ends P (do pure (.value (<-Instr.makeSlice t (.int kl l) (.int kc c)))) w B w0 j h K:=by
 obtain⟨E,X⟩:=qa (j:=j) H;have A:=E.length;have T:z.cells.toList≠[]:=by intro x;rw[x]at A;simp at A;rw[A]at C;simp at C;omega
 have J:(madeCells z.cells (c.toNat*i.size)).toList=(Ep c.toNat z.cells.toList).flatten:=by
  have:=QK z.cells.toList T c.toNat
  rw[<-A,C]at this;simpa using this
 have W:=run_make (P:=P) w t u i z R M S kl kc l c L V (by rw[UN];omega) G;have D:=E.replicate c.toNat;have I:=D.length;obtain⟨O,U⟩:=m.bf (ty:=u) (cur:=madeCells z.cells (c.toNat*i.size)) (room:=0) (zCO X c.toNat) (by rw[J,I,Yf];exact D) (YV _);exact⟨.sl h.aM 0 l.toNat (.b6 c.toNat),_,_,.slice (Dc ⟨w.heap.size,0,none⟩) l.toNat c.toNat,_,.inl (by simp[W]),U,O,⟨⟨w.heap.size,0,0⟩,_,by simp[gz.put],rfl,.inl rfl⟩,N⟩
def MR.adopt(m:MR B w0 j h w){b base room:Nat}{cells:List AV}{cur new:Array Value}{ty:TypeId}(K:w.heap[b]? = Dc (.cells cur ty (0,0)))(O:B<=b)
  (G:∀o A l,h.bt o=Dc A->j o=Dc l->l.blk≠b) (M:new.size=cur.size) (L:base+room<=cur.size) (J:cells.all AV.one=DF) (R:l6 j cells ((new.toList.drop base).take cells.length)):
  MR B w0 (j.put h.aM ⟨b,base,room⟩) (h.bf ⟨DF,cells⟩) (w.setRow b new)/\FR j h (j.put h.aM ⟨b,base,room⟩) (h.bf ⟨DF,cells⟩):=by
 have hle:=m.put_le ⟨b,base,room⟩;have H:∀k,k≠b->(w.setRow b new).heap[k]? = w.heap[k]?:=by
  intro k C;simp only[World.setRow,FT];rw[DL (λe=>C e.symm)]
 have N:(w.setRow b new).heap[b]? = Dc (.cells new ty (0,0)):=by
  simp[World.setRow,FT,K]
 have I:(w.setRow b new).heap.size=w.heap.size:=by simp[World.setRow]
 refine⟨⟨m.below.trans ⟨rfl,rfl,rfl,by rw[I];exact na _,λk C=>H k af⟩,by rw[I];exact m.bnd,?_,?_,?_⟩,?_⟩
 .intro o u;simp only[ct.bf]at u;simp only[ct.bf,gz.put,DL (show ¬o=h.aM by omega)];exact m.fresh o af
 .intro o A l u hl;by_cases e:o=h.aM
  .subst e;simp only[ct.bf,if_true,YC]at u;simp only[gz.put,if_true,YC]at hl;subst u;subst hl;refine⟨J,new,ty,(0,0),N,λi v E=>?_,λ_=>⟨rfl,by rw[M];exact L,O⟩,λx=>by cases x⟩;obtain⟨D,x,y⟩:=R.get E;refine⟨D,?_,VI.mono hle _ _ y⟩;rw[Yc]at x;split at x
   .rw[Y0]at x;simpa using x
   .cases x
  .simp only[ct.bf,DL e]at u;simp only[gz.put,DL e]at hl;have C:=m.bt o A l u hl;refine⟨C.one,?_⟩;obtain⟨c,t,f,x,y,q⟩:=C.row;refine⟨c,t,f,by rw[H _ (G o A l u hl)];exact x,λi v E=>?_,q⟩;obtain⟨D,S,T⟩:=y i v E;exact⟨D,S,VI.mono hle _ _ T⟩
 .intro o o' A jN l l' an u dc hl bK fy;by_cases e:o=h.aM
  .have e':o'≠h.aM:=λx=>an (e.trans x.symm);subst e;simp only[gz.put,if_true,YC]at hl;simp only[gz.put,DL e']at bK;simp only[ct.bf,DL e']at dc;subst hl;exactλx=>G o' jN l' dc bK x.symm
  .simp only[ct.bf,DL e]at u;simp only[gz.put,DL e]at hl;by_cases e':o'=h.aM
   .subst e';simp only[gz.put,if_true,YC]at bK;subst bK;exact G o A l u hl
   .simp only[ct.bf,DL e']at dc;simp only[gz.put,DL e']at bK;exact m.apart o o' A jN l l' an u dc hl bK fy
 .refine⟨by simp[ct.bf],λo u=>?_,λo u _=>?_⟩
  .simp[gz.put,Ev u]
  .simp[ct.bf,Ev u]
def zBo{x:AV}{c:Value}{n:Nat}(C:VI j x c)(u:alen x=Dc n):∃o cp,c=.slice o n cp/\n<=n:=by
 unfold alen at u;split at u
 .cases u;exact⟨_,_,C,na _⟩
 .rename_i o off H cap;cases u;cases cap with
  |b6 q=>obtain⟨l,_,D,A,_⟩:=C;exact⟨_,_,A,na _⟩
  |grown q=>obtain⟨l,E,G,D,A,_⟩:=C;exact⟨_,_,A,na _⟩
 .cases u
def zCJ(m:MR B w0 j h w){e n:Nat}{x:AV}{c:Value}{news:List AV}(D:VI j x c)(L:n≠0)(A:zAu e h x n=Dc news):
  ∃(ad:Addr) (len cp:Nat) (cs:List Value),c=.slice (Dc ad) len cp/\n<=len/\l6 j news cs/\Lu cs=n*e/\news.all AV.one=DF/\∀k u,cs[k]? = Dc u->w.cell? (ad.add k)=Dc u:=by
 unfold zAu at A;rw[DL L]at A;split at A
 .rename_i o off len cap;split at A
  .rename_i hle;have key:∃l cp,j o=Dc l/\c=.slice (Dc ⟨l.blk,l.base+off,none⟩) len cp:=by
    cases cap with
    |b6 q=>
     obtain⟨l,a,C,rfl,K⟩:=D;rcases K with rfl|⟨_,M⟩
     .exact⟨l,_,C,rfl⟩
     .omega
    |grown q=>
     obtain⟨l,cp,f,C,rfl,_,E,_⟩:=D;rcases E with rfl|⟨M,_⟩
     .exact⟨l,_,C,rfl⟩
     .omega
   obtain⟨l,cp,C,rfl⟩:=key;obtain⟨cs,G,H,I,J⟩:=m.cells A C;exact⟨_,_,_,cs,rfl,hle,G,H,I,J⟩
  .cases A
 .cases A
def zB1{size n len cp:Nat}{ad:Addr}{cs:List Value}(A:cs.length=n*size)(l:∀k u,cs[k]? = Dc u->w.cell? (ad.add k)=Dc u):
  (Builtin.firstCells size n (.slice (Dc ad) len cp)).run P w=.ok cs.toArray w:=by
 have:=run_loadCells_list (P:=P) w ad cs l
 rw[A]at this;simpa [Builtin.firstCells]using this
def zDq(w:World)(t ty l:TypeId)(i:TypeInfo)(J:P.underlying t=Dc (.slice l))(H:P.info? l=Dc i)(ad:Addr)(len cap:Nat)
  (a:Addr) (m c:Nat) (news:List Value) (I:news.length=m*i.size) (C:∀j u,news[j]? = Dc u->w.cell? (a.add j)=Dc u) (D:len+m<=cap) {A:World}
  (E:(storeCells (ad.add (len*i.size)) news).run P w=.ok () A):
  (Builtin.append_ #[t,t] ty #[.slice (Dc ad) len cap,.slice (Dc a) m c]).run P w=.ok (.slice (Dc ad) (len+m) cap) A:=by
 have G:=zB1 (P:=P) (len:=m) (cp:=c) I C;simp[Builtin.append_,run_underlying J,sizeOf,typeInfo,H,Builtin.lenOf,D,G,E]
def zGa(w:World)(t ty l:TypeId)(i:TypeInfo)(C:P.underlying t=Dc (.slice l))(A:P.info? l=Dc i)(base o:Option Addr)(len cap c:Nat)(u:len<=cap):
  (Builtin.append_ #[t,t] ty #[.slice base len cap,.slice o 0 c]).run P w=.ok (.slice base len cap) w:=by
 cases base<;>cases o<;>simp[Builtin.append_,run_underlying C,sizeOf,typeInfo,A,Builtin.lenOf,u,Builtin.firstCells,loadCells,loadCellsFrom,storeCells]
def zKd(m:MR B w0 j h w){t ty C:TypeId}{i:TypeInfo}{z:Value}(U:P.underlying t=Dc (.slice C))(T:P.info? C=Dc i)(hz:i.zero=Dc z)(dy:z.cells.size=i.size)(an:i.size≠0)
  {s x:AV} {cs cx:Value} (hs:VI j s cs) (hx:VI j x cx) {v:AV} {h':ct} (A:zDP i.size i.bytes h s x=Dc (v,h')):
  ∃j' cv w',(Builtin.append_ #[t,t] ty #[cs,cx]).run P w=.ok cv w'/\FR j h j' h'/\MR B w0 j' h' w'/\VI j' v cv:=by
 simp only[zDP,YJ]at A;obtain⟨n,hn,A⟩:=A;obtain⟨o,cp,rfl,_⟩:=zBo hx hn;split at A
 .rename_i h0;subst h0;simp only[YK,Y7]at A;obtain⟨u,K,rfl,rfl⟩:=A;have key:∃b len cap,cs=.slice b len cap/\len<=cap/\u=s:=by
   unfold AW at K;split at K
   .cases K;exact⟨_,_,_,hs,na _,rfl⟩
   .split at K
    .cases K;obtain⟨l,_,H,bB,_⟩:=hs;exact⟨_,_,_,bB,by assumption,rfl⟩
    .cases K
   .cases K;obtain⟨l,cc,ff,H,bB,hle,_⟩:=hs;exact⟨_,_,_,bB,hle,rfl⟩
   .cases K
  obtain⟨b,len,cap,rfl,hle,rfl⟩:=key;exact⟨j,_,w,zGa w t ty C i U T b o len cap cp hle,FR.refl _ _,m,hs⟩
 .rename_i h0;simp only[YJ]at A;obtain⟨news,hf,A⟩:=A;obtain⟨ad,bV,Ha,E,uX,hle,Y,L,aH,X⟩:=zCJ m hx h0 hf;simp only[Value.slice.injEq]at uX;obtain⟨rfl,rfl,rfl⟩:=uX;have xg:=Y.length;have aL:0<n:=af
  -- a new row
  have fresh:∀(old:List AV) (D:List Value) (len G:Nat) (S:ct),MR B w0 j S w->S.aM=h.aM->l6 j old D->D.length=len*i.size->old.all AV.one=DF->n+len=n+len->G<len+n->
    MR B w0 (j.put h.aM ⟨w.heap.size,0,grownCap w (len+n) G C*i.size⟩) (S.bf ⟨DF,old++news⟩)
     (w.drew.alloc (.cells (D.toArray++E.toArray++Builtin.zeroCells z.cells (grownCap w (len+n) G C-(len+n))) C))/\
    FR j S (j.put h.aM ⟨w.heap.size,0,grownCap w (len+n) G C*i.size⟩) (S.bf ⟨DF,old++news⟩)/\
    VI (j.put h.aM ⟨w.heap.size,0,grownCap w (len+n) G C*i.size⟩) (.sl h.aM 0 (len+n) (.grown i.size)) (.slice (Dc ⟨w.heap.size,0,none⟩) (len+n) (grownCap w (len+n) G C)):=by
   intro old D len G S m2 cb hold lh mN _ ah;have aG:=grownCap_ge w (len+n) G C;have E9:=hold.length;have dI:(D.toArray++E.toArray++Builtin.zeroCells z.cells (grownCap w (len+n) G C-(len+n))).size=grownCap w (len+n) G C*i.size:=by
    simp only[U2,List.size_toArray,size_zeroCells,dy,lh,L,<-FF];congr 1;omega
   have:=m2.drew.bf (ty:=C) (cells:=old++news) (cur:=D.toArray++E.toArray++Builtin.zeroCells z.cells (grownCap w (len+n) G C-(len+n))) (room:=grownCap w (len+n) G C*i.size)
    (by rw[List.all_append,mN,aH];rfl)
    (by
     have hh:=hold.append Y;have sF:=hh.length;rw[sF];simp only[Array.toList_append];rw[Uz aK,YS aK];exact hh)
    (by rw[dI];exact na _)
   rw[cb]at this;refine⟨this.1,this.2,⟨⟨w.heap.size,0,grownCap w (len+n) G C*i.size⟩,grownCap w (len+n) G C,0,by simp[gz.put],rfl,aG,.inl rfl,λ_ _=>aK⟩⟩
  unfold tx at A;split at A
  .split at A
   .rename_i Z;cases A;obtain⟨N,O,R⟩:=fresh [] [] 0 0 h m rfl rfl aK rfl rfl af;rw[show cs=.slice none 0 0 from hs];have I:=run_append_nil (P:=P) w t ty C i z U T hz ad n cp E L X aL af af;simp only[Y5,Yl,Array.empty_append]at N O R;exact⟨_,_,_,I,O,N,R⟩
   .cases A
  .rename_i M off len c;obtain⟨l,al,H,rfl,db⟩:=hs;split at A
   .rename_i bE;obtain rfl:al=⟨l.blk,l.base+off,none⟩:=by rcases db with e|⟨e,_⟩;exact e;omega
    simp only[YK,Y7]at A;obtain⟨h1,hw,rfl,rfl⟩:=A;obtain⟨w',W,hm,jw⟩:=m.wr (P:=P) H Y hw;refine⟨j,_,w',zDq w t ty C i U T ⟨l.blk,l.base+off,none⟩ len c ad n cp E L X bE ?_,jw,hm,⟨l,_,H,rfl,.inl rfl⟩⟩;rw[ZN];rw[<-UP]at W;exact W
   .rename_i bE;split at A
    .rename_i Z;simp only[YK,Y7]at A;obtain⟨old,cM,rfl,rfl⟩:=A;obtain⟨D,p1,J,p3,p4⟩:=m.cells cM H;obtain⟨N,O,R⟩:=fresh old D len c h m rfl p1 J p3 rfl af;have tA:∀k u,D[k]? = Dc u->w.cell? (al.add k)=Dc u:=by
      rcases db with rfl|⟨_,e⟩
      .exact p4
      .subst e;rw[E1,F5]at J;subst J;intro k u gP;simp at gP
     have I:=run_append_grow (P:=P) w t ty C i z U T hz al len c D J tA ad n cp E L X af af (growslice_fits af af);exact⟨_,_,_,I,O,N,R⟩
    .cases A
  .rename_i M off len g;split at A
   .rename_i Z;obtain⟨jf,gF,rfl⟩:=Z;simp only[YJ]at A;obtain⟨V,ho,A⟩:=A;split at A
    .rename_i Z;obtain⟨fy,hlen⟩:=Z;cases A;obtain⟨l,c,f,H,rfl,pF,dV,EK⟩:=hs;obtain⟨cur,oS,fz,aN,eS,I,_⟩:=(m.bt M V l ho H).row;obtain⟨rfl,bE,hB⟩:=I fy;obtain⟨mk,fk⟩:=m.kill H;have Fa:=(m.bt M V l ho H).one;have cM:h.rd M off (len*i.size)=Dc ((V.cells.drop off).take (len*i.size)):=by
      simp[ct.rd,ho,hlen]
     obtain⟨D,p1,J,p3,p4⟩:=m.cells cM H;by_cases cw:len+n<=c
     ·-- in place
      have FP:f=l.base+off:=by
       rcases dV with x|⟨_,_,x⟩
       .exact x
       .omega
      subst FP;have EJ:=EK rfl an;have eY:l.base+off+(len+n)*i.size<=cur.size:=by
       have q1:(len+n)*i.size<=c*i.size:=Nat.mul_le_mul_right _ cw;omega
      have AD:l.base+off+len*i.size+Lu E<=cur.size:=by rw[L,UP (l.base+off),<-FF];exact eY
      have W:=run_storeCells_at P l.blk (l.base+off+len*i.size) oS E 0 cur w aN af (Y.oneCell aH);simp only[UF]at W;have I:=zDq (P:=P) w t ty C i U T ⟨l.blk,l.base+off,none⟩ len c ad n cp E L X cw (by rw[ZN];exact W);have uA:D=(cur.toList.drop (l.base+off)).take (len*i.size):=by
       apply En;intro k;by_cases hk:k<Lu D
       .have q1:=p4 k D[k] (YQ hk);rw[ZN]at q1;simp only[World.cell?,aN]at q1;rw[Yc,DK af,YQ hk,Y0];simpa using q1.symm
       .rw[Yq af,Yq (by simp;omega)]
      have:=mk.adopt (b:=l.blk) (base:=l.base+off) (room:=l.room-off) (cells:=(V.cells.drop off).take (len*i.size)++news) (cur:=cur) (ty:=oS)
       (new:=(cur.toList.take (l.base+off+len*i.size)++E++cur.toList.drop (l.base+off+len*i.size+Lu E)).toArray) aN hB
       (by
        intro q lO lq hq Fg e;by_cases um:q=M
        .subst um;simp[ct.kill]at hq
        .simp only[ct.kill,DL um]at hq;exact m.apart M q V lO l lq (λx=>um x.symm) ho hq H Fg fy e.symm)
       (by simp;omega) af (by rw[List.all_append,p3,aH];rfl)
       (by
        have hh:=p1.append Y;have sF:=hh.length;rw[sF];have e:((cur.toList.take (l.base+off+len*i.size)++E++cur.toList.drop (l.base+off+len*i.size+Lu E)).toArray.toList.drop (l.base+off)).take (D++E).length=D++E:=by
         simp only[Yv];rw[Ul (by simp;omega),List.drop_take,show l.base+off+len*i.size-(l.base+off)=len*i.size by omega,<-uA,<-Yv,Uz (na _),YS (na _)]
        rw[e];exact hh)
      refine⟨_,_,_,I,fk.trans this.2,this.1,⟨⟨l.blk,l.base+off,l.room-off⟩,c,l.base+off,by simp[gz.put,ct.kill],rfl,cw,.inl aK,λ_ _=>?_⟩⟩;simp only[Y5];omega
     .have tA:∀k u,D[k]? = Dc u->w.cell? ((⟨l.blk,f,none⟩:Addr).add k)=Dc u:=by
       rcases dV with rfl|⟨e,_⟩
       .exact p4
       .subst e;rw[E1,F5]at J;subst J;intro k u gP;simp at gP
      have I:=run_append_grow (P:=P) w t ty C i z U T hz ⟨l.blk,f,none⟩ len c D J tA ad n cp E L X af af (growslice_fits af af);obtain⟨N,O,R⟩:=fresh ((V.cells.drop off).take (len*i.size)) D len c (h.kill M) mk rfl p1 J p3 rfl af;exact⟨_,_,_,I,fk.trans O,N,R⟩
    .cases A
   .cases A
  .cases A
def zNf(m:MR B w0 j h w){D:TypeId}{i:TypeInfo}{z:Value}(dy:z.cells.size=i.size)(an:i.size≠0){n:Nat}(aL:0<n){news:List AV}{E:List Value}(U:l6 j news E)(iB:E.length=n*i.size)(aH:news.all AV.one=DF){app:Value->Sem Value}
  (hN:n*i.bytes<=140737488355328->n<=4611686018427387904->(app (.slice none 0 0)).run P w=.ok (.slice (Dc ⟨w.heap.size,0,none⟩) n (grownCap w n 0 D)) (w.drew.alloc (.cells (E.toArray++Builtin.zeroCells z.cells (grownCap w n 0 D-n)) D)))
  (hR:∀(ad:Addr) (len cap:Nat) (L:World),len+n<=cap->(storeCells (ad.add (len*i.size)) E).run P w=.ok () L->(app (.slice (Dc ad) len cap)).run P w=.ok (.slice (Dc ad) (len+n) cap) L)
  (hG:∀(al:Addr) (len c:Nat) (A:List Value),A.length=len*i.size->(∀k u,A[k]? = Dc u->w.cell? (al.add k)=Dc u)->c<len+n->((len+n:Nat):Int)<=9223372036854775807->Builtin.nextslicecap (len+n) c*i.bytes<=281474976710656->
   (app (.slice (Dc al) len c)).run P w=.ok (.slice (Dc ⟨w.heap.size,0,none⟩) (len+n) (grownCap w (len+n) c D)) (w.drew.alloc (.cells (A.toArray++E.toArray++Builtin.zeroCells z.cells (grownCap w (len+n) c D-(len+n))) D)))
  {s:AV} {cs:Value} (hs:VI j s cs) {v:AV} {h':ct} (C:tx i.size i.bytes h s news n=Dc (v,h')):
  ∃j' cv L,(app cs).run P w=.ok cv L/\FR j h j' h'/\MR B w0 j' h' L/\VI j' v cv:=by
 have xg:=U.length
 -- a new row
 have fresh:∀(old:List AV) (A:List Value) (len G:Nat) (R:ct),MR B w0 j R w->R.aM=h.aM->l6 j old A->A.length=len*i.size->old.all AV.one=DF->n+len=n+len->G<len+n->
   MR B w0 (j.put h.aM ⟨w.heap.size,0,grownCap w (len+n) G D*i.size⟩) (R.bf ⟨DF,old++news⟩)
    (w.drew.alloc (.cells (A.toArray++E.toArray++Builtin.zeroCells z.cells (grownCap w (len+n) G D-(len+n))) D))/\
   FR j R (j.put h.aM ⟨w.heap.size,0,grownCap w (len+n) G D*i.size⟩) (R.bf ⟨DF,old++news⟩)/\
   VI (j.put h.aM ⟨w.heap.size,0,grownCap w (len+n) G D*i.size⟩) (.sl h.aM 0 (len+n) (.grown i.size)) (.slice (Dc ⟨w.heap.size,0,none⟩) (len+n) (grownCap w (len+n) G D)):=by
  intro old A len G R m2 cb hold lh mN _ ah;have aG:=grownCap_ge w (len+n) G D;have E9:=hold.length;have dI:(A.toArray++E.toArray++Builtin.zeroCells z.cells (grownCap w (len+n) G D-(len+n))).size=grownCap w (len+n) G D*i.size:=by
   simp only[U2,List.size_toArray,size_zeroCells,dy,lh,iB,<-FF];congr 1;omega
  have:=m2.drew.bf (ty:=D) (cells:=old++news) (cur:=A.toArray++E.toArray++Builtin.zeroCells z.cells (grownCap w (len+n) G D-(len+n))) (room:=grownCap w (len+n) G D*i.size)
   (by rw[List.all_append,mN,aH];rfl)
   (by
    have W:=hold.append U;have sF:=W.length;rw[sF];simp only[Array.toList_append];rw[Uz aK,YS aK];exact W)
   (by rw[dI];exact na _)
  rw[cb]at this;refine⟨this.1,this.2,⟨⟨w.heap.size,0,grownCap w (len+n) G D*i.size⟩,grownCap w (len+n) G D,0,by simp[gz.put],rfl,aG,.inl rfl,λ_ _=>aK⟩⟩
 unfold tx at C;split at C
 .split at C
  .rename_i V;cases C;obtain⟨M,N,O⟩:=fresh [] [] 0 0 h m rfl rfl aK rfl rfl af;rw[show cs=.slice none 0 0 from hs];have I:=hN af af;simp only[Y5,Yl,Array.empty_append]at M N O;exact⟨_,_,_,I,N,M,O⟩
  .cases C
 .rename_i K off len c;obtain⟨l,al,H,rfl,db⟩:=hs;split at C
  .rename_i bE;obtain rfl:al=⟨l.blk,l.base+off,none⟩:=by rcases db with e|⟨e,_⟩;exact e;omega
   simp only[YK,Y7]at C;obtain⟨h1,hw,rfl,rfl⟩:=C;obtain⟨L,T,hm,jw⟩:=m.wr (P:=P) H U hw;refine⟨j,_,L,hR ⟨l.blk,l.base+off,none⟩ len c _ bE ?_,jw,hm,⟨l,_,H,rfl,.inl rfl⟩⟩;rw[ZN];rw[<-UP]at T;exact T
  .rename_i bE;split at C
   .rename_i V;simp only[YK,Y7]at C;obtain⟨old,cM,rfl,rfl⟩:=C;obtain⟨A,Y,J,Z,p4⟩:=m.cells cM H;obtain⟨M,N,O⟩:=fresh old A len c h m rfl Y J Z rfl af;have tA:∀k u,A[k]? = Dc u->w.cell? (al.add k)=Dc u:=by
     rcases db with rfl|⟨_,e⟩
     .exact p4
     .subst e;rw[E1,F5]at J;subst J;intro k u gP;simp at gP
    have I:=hG al len c A J tA af af (growslice_fits af af);exact⟨_,_,_,I,N,M,O⟩
   .cases C
 .rename_i K off len g;split at C
  .rename_i V;obtain⟨jf,gF,rfl⟩:=V;simp only[YJ]at C;obtain⟨S,X,C⟩:=C;split at C
   .rename_i V;obtain⟨fy,hlen⟩:=V;cases C;obtain⟨l,c,f,H,rfl,pF,dV,EK⟩:=hs;obtain⟨cur,oS,fz,aN,eS,I,_⟩:=(m.bt K S l X H).row;obtain⟨rfl,bE,hB⟩:=I fy;obtain⟨mk,fk⟩:=m.kill H;have Fa:=(m.bt K S l X H).one;have cM:h.rd K off (len*i.size)=Dc ((S.cells.drop off).take (len*i.size)):=by
     simp[ct.rd,X,hlen]
    obtain⟨A,Y,J,Z,p4⟩:=m.cells cM H;by_cases cw:len+n<=c
    ·-- in place
     have FP:f=l.base+off:=by
      rcases dV with x|⟨_,_,x⟩
      .exact x
      .omega
     subst FP;have EJ:=EK rfl an;have eY:l.base+off+(len+n)*i.size<=cur.size:=by
      have q1:(len+n)*i.size<=c*i.size:=Nat.mul_le_mul_right _ cw;omega
     have AD:l.base+off+len*i.size+Lu E<=cur.size:=by rw[iB,UP (l.base+off),<-FF];exact eY
     have T:=run_storeCells_at P l.blk (l.base+off+len*i.size) oS E 0 cur w aN af (U.oneCell aH);simp only[UF]at T;have I:=hR ⟨l.blk,l.base+off,none⟩ len c _ cw (by rw[ZN];exact T);have uA:A=(cur.toList.drop (l.base+off)).take (len*i.size):=by
      apply En;intro k;by_cases hk:k<Lu A
      .have q1:=p4 k A[k] (YQ hk);rw[ZN]at q1;simp only[World.cell?,aN]at q1;rw[Yc,DK af,YQ hk,Y0];simpa using q1.symm
      .rw[Yq af,Yq (by simp;omega)]
     have:=mk.adopt (b:=l.blk) (base:=l.base+off) (room:=l.room-off) (cells:=(S.cells.drop off).take (len*i.size)++news) (cur:=cur) (ty:=oS)
      (new:=(cur.toList.take (l.base+off+len*i.size)++E++cur.toList.drop (l.base+off+len*i.size+Lu E)).toArray) aN hB
      (by
       intro q lO lq hq Fg e;by_cases um:q=K
       .subst um;simp[ct.kill]at hq
       .simp only[ct.kill,DL um]at hq;exact m.apart K q S lO l lq (λx=>um x.symm) X hq H Fg fy e.symm)
      (by simp;omega) af (by rw[List.all_append,Z,aH];rfl)
      (by
       have W:=Y.append U;have sF:=W.length;rw[sF];have e:((cur.toList.take (l.base+off+len*i.size)++E++cur.toList.drop (l.base+off+len*i.size+Lu E)).toArray.toList.drop (l.base+off)).take (A++E).length=A++E:=by
        simp only[Yv];rw[Ul (by simp;omega),List.drop_take,show l.base+off+len*i.size-(l.base+off)=len*i.size by omega,<-uA,<-Yv,Uz (na _),YS (na _)]
       rw[e];exact W)
     refine⟨_,_,_,I,fk.trans this.2,this.1,⟨⟨l.blk,l.base+off,l.room-off⟩,c,l.base+off,by simp[gz.put,ct.kill],rfl,cw,.inl aK,λ_ _=>?_⟩⟩;simp only[Y5];omega
    .have tA:∀k u,A[k]? = Dc u->w.cell? ((⟨l.blk,f,none⟩:Addr).add k)=Dc u:=by
      rcases dV with rfl|⟨e,_⟩
      .exact p4
      .subst e;rw[E1,F5]at J;subst J;intro k u gP;simp at gP
     have I:=hG ⟨l.blk,f,none⟩ len c A J tA af af (growslice_fits af af);obtain⟨M,N,O⟩:=fresh ((S.cells.drop off).take (len*i.size)) A len c (h.kill K) mk rfl Y J Z rfl af;exact⟨_,_,_,I,fk.trans N,M,O⟩
   .cases C
  .cases C
 .cases C
def zOB(w:World)(t D ty l:TypeId)(i:TypeInfo)(z:Value)(k V:IntKind)(L:P.underlying t=Dc (.slice l))(I:P.underlying D=Dc (.int V))(K:P.info? l=Dc i)(M:i.zero=Dc z)
  (n:Nat) (h0:0<n) (hs:0<i.size) (X:(n:Int)<=9223372036854775807) (Z:n*i.bytes<=281474976710656):
  (∀(ad:Addr) (len cap:Nat) (E:World),len+n<=cap->(storeCells (ad.add (len*i.size)) (Builtin.zeroCells z.cells n).toList).run P w=.ok () E->(Builtin.append_ #[t,D] ty #[.slice (Dc ad) len cap,.int k n]).run P w=.ok (.slice (Dc ad) (len+n) cap) E)/\
  (∀(al:Addr) (len c:Nat) (A:List Value),A.length=len*i.size->(∀k u,A[k]? = Dc u->w.cell? (al.add k)=Dc u)->c<len+n->((len+n:Nat):Int)<=9223372036854775807->Builtin.nextslicecap (len+n) c*i.bytes<=281474976710656->
   (Builtin.append_ #[t,D] ty #[.slice (Dc al) len c,.int k n]).run P w=.ok (.slice (Dc ⟨w.heap.size,0,none⟩) (len+n) (grownCap w (len+n) c l)) (w.drew.alloc (.cells (A.toArray++(Builtin.zeroCells z.cells n).toList.toArray++Builtin.zeroCells z.cells (grownCap w (len+n) c l-(len+n))) l))):=by
 have C:n≠0:=af
 have hw:Lp .i64 (n:Int)=n:=by rw[IntKind.wrap_i64];omega
 have H:¬(281474976710656<(n:Int)*(i.bytes:Int)):=by
  rw[<-Uj];omega
 have J:¬((n:Int)<0):=af
 have G:¬(n*i.size=0):=Nat.mul_ne_zero C af;refine⟨λad len cap E R S=>?_,λal len c A U holds hg Y W=>?_⟩
 .simp[Builtin.append_,run_underlying L,run_underlying I,sizeOf,typeInfo,zeroValue,K,M,asInt,asIntOf,hw,C,J,G,H,R,S]
 .have LW:¬(len+n<=c):=af
  have N:¬(9223372036854775807<((len:Int)+(n:Int))):=af
  have O:¬(281474976710656<Builtin.nextslicecap (len+n) c*i.bytes):=af
  have T:=run_firstCells_some (P:=P) w.drew i.size len al len c A U (by simpa using holds);simp[Builtin.append_,run_underlying L,run_underlying I,sizeOf,typeInfo,zeroValue,K,M,asInt,asIntOf,hw,C,J,G,H,LW,N,O,Question.forced,T,newRow,grownCap]
def zHh(w:World)(t u ty l:TypeId)(i:TypeInfo)(k G:IntKind)(E:P.underlying t=Dc (.slice l))(A:P.underlying u=Dc (.int G))(D:P.info? l=Dc i)(base:Option Addr)(len cap:Nat)(C:len<=cap):
  (Builtin.append_ #[t,u] ty #[.slice base len cap,.int k 0]).run P w=.ok (.slice base len cap) w:=by
 have hw:Lp .i64 (0:Int)=0:=rfl;cases base<;>simp[Builtin.append_,run_underlying E,run_underlying A,sizeOf,typeInfo,D,asInt,asIntOf,hw,C,storeCells]
def zD0(m:MR B w0 j h w){t t' ty E:TypeId}{i:TypeInfo}{z:Value}{zs:List AV}{G:IntKind}(M:P.underlying t=Dc (.slice E))(J:P.underlying t'=Dc (.int G))(K:P.info? E=Dc i)(R:i.zero=Dc z)
  (X:qY z.cells.toList=Dc zs) (I:zs.length=i.size) (V:i.size≠0) {k:IntKind} {n:Int} (h0:0<=n) (Z:n*i.bytes<=140737488355328) (GD:n<=4611686018427387904) {s:AV} {cs:Value} (hs:VI j s cs) {v:AV} {h':ct}
  (D:(if 0<n then tx i.size i.bytes h s (iU zs n.toNat) n.toNat else(AW s).map λv=>(v,h))=Dc (v,h')):
  ∃N O S,(Builtin.append_ #[t,t'] ty #[cs,.int k n]).run P w=.ok O S/\FR j h N h'/\MR B w0 N h' S/\VI N v O:=by
 obtain⟨q,rfl⟩:∃q:Nat,n=q:=⟨n.toNat,af⟩
 rw[Fs]at D;by_cases L:0<q
 .rw[DK af]at D;obtain⟨U,z2⟩:=qa (j:=j) X;have C:=U.length;have T:z.cells.size=i.size:=by rw[<-I,C];simp
  have jO:z.cells.toList≠[]:=by intro x;rw[x]at C;simp at C;rw[C]at I;simp at I;omega
  have Y:(Builtin.zeroCells z.cells q).toList=(Ep q z.cells.toList).flatten:=by
   have:=QK z.cells.toList jO q
   simpa [madeCells,Builtin.zeroCells]using this
  have jI:q*i.bytes<=140737488355328:=by
   have:((q*i.bytes:Nat):Int)<=140737488355328:=by simpa using Z
   omega
  have W:l6 j (iU zs q) (Builtin.zeroCells z.cells q).toList:=by rw[Y];exact U.replicate q
  obtain⟨r1,r2⟩:=zOB (P:=P) w t t' ty E i z k G M J K R q L af af af;refine zNf m T V L W (by rw[Array.length_toList,size_zeroCells,T]) (zCO z2 q) (app:=λc=>Builtin.append_ #[t,t'] ty #[c,.int k q]) (λ_ _=>?_) r1 r2 hs D;rw[Ew];exact Lib.run_append_nil_zeros (P:=P) w t t' ty E i z k G M J K R q L af af af
 .obtain rfl:q=0:=af
  rw[DL af]at D;simp only[YK,Y7]at D;obtain⟨u,A,rfl,rfl⟩:=D;have key:∃b len cap,cs=.slice b len cap/\len<=cap/\u=s:=by
   unfold AW at A;split at A
   .cases A;exact⟨_,_,_,hs,na _,rfl⟩
   .split at A
    .cases A;obtain⟨l,_,C,H,_⟩:=hs;exact⟨_,_,_,H,by assumption,rfl⟩
    .cases A
   .cases A;obtain⟨l,cc,ff,C,H,hle,_⟩:=hs;exact⟨_,_,_,H,hle,rfl⟩
   .cases A
  obtain⟨b,len,cap,rfl,hle,rfl⟩:=key;exact⟨j,_,w,zHh w t t' ty E i k G M J K b len cap hle,FR.refl _ _,m,hs⟩
def zNl(m:MR B w0 j h w){t ty t' K:TypeId}{i:TypeInfo}(N:P.underlying t=Dc (.slice K))(L:P.info? K=Dc i)
  {d s:AV} {H cs:Value} (hd:VI j d H) (hs:VI j s cs) {v:AV} {h':ct} (u:acopy i.size h d s=Dc (v,h')):
  ∃J E,(Builtin.copy_ #[t,t'] ty #[H,cs]).run P w=.ok J E/\FR j h j h'/\MR B w0 j h' E/\VI j v J:=by
 simp only[acopy,YJ]at u;obtain⟨n,M,m',jY,u⟩:=u;obtain⟨od,R4,U,_⟩:=zBo hd M;obtain⟨os,R3,D,_⟩:=zBo hs jY;split at u
 .rename_i A;cases u;refine⟨_,w,?_,FR.refl _ _,m,rfl⟩;subst U;subst D
  have:Nat.min m' n=0:=A
  cases od<;>cases os<;>simp[Builtin.copy_,run_underlying N,Builtin.lenOf,this,zo L,Builtin.firstCells,loadCells,loadCellsFrom,storeCells,goInt]
 .rename_i A;split at u
  .rename_i o off n' cap;simp only[YJ,YK,Y7]at u;obtain⟨news,hf,h1,hw,rfl,rfl⟩:=u;obtain⟨ad,G,S,nc,O,hle,Y,iB,aH,X⟩:=zCJ m hs A hf;cases M;have key:∃l cp,j o=Dc l/\H=.slice (Dc ⟨l.blk,l.base+off,none⟩) n cp:=by
    cases cap with
    |b6 q=>
     obtain⟨l,a,C,rfl,Z⟩:=hd;rcases Z with rfl|⟨_,I⟩
     .exact⟨l,_,C,rfl⟩
     .subst I;simp at A
    |grown q=>
     obtain⟨l,cp,f,C,rfl,_,W,_⟩:=hd;rcases W with rfl|⟨I,_⟩
     .exact⟨l,_,C,rfl⟩
     .subst I;simp at A
   obtain⟨l,cp,C,rfl⟩:=key;obtain⟨E,V,hm,jw⟩:=m.wr (P:=P) C Y hw;refine⟨_,E,?_,jw,hm,rfl⟩;rw[O]at D;simp only[Value.slice.injEq]at D;obtain⟨rfl,rfl,rfl⟩:=D;subst O;have R:Nat.min G n=min G n:=rfl;have T:=zB1 (P:=P) (w:=w) (len:=G) (cp:=S) iB X;simp[Builtin.copy_,run_underlying N,Builtin.lenOf,R,zo L,T,V,goInt]
  .cases u
end
section
open Go.RowKit
variable{P:Program}{w0 w:World}{j:gz}{h:ct}
def zIY:∀{vs:List AV} {cs:List Value} {s:List UInt8},l6 j vs cs->zCK vs=Dc s->∃l:V1,cs=l.map (Value.int .u8)/\s=l.map λn=>UInt8.ofNat n.toNat
 |[],cs,s,hv,hs=>by
  cases hs;rw[show cs=[] from hv];exact⟨[],rfl,rfl⟩
 |v::vs,cs,s,hv,hs=>by
  obtain⟨c,r,rfl,u,A⟩:=hv;unfold zCK at hs;split at hs
  .rename_i heq;cases heq
  .rename_i n D heq;cases heq;obtain⟨t,C,rfl⟩:=YK.1 hs;obtain⟨l,rfl,rfl⟩:=zIY A C;exact⟨n::l,by rw[show c=.int .u8 n from u];rfl,rfl⟩
  .cases hs
def zG8:∀(l:V1) (s:ByteArray),l.foldl (λr n=>r.push (UInt8.ofNat n.toNat)) s=⟨(s.data.toList++l.map λn=>UInt8.ofNat n.toNat).toArray⟩
 |[],s=>by simp
 |n::l,s=>by
  rw[List.foldl_cons,zG8 l];simp[ByteArray.push]
def zMi(m:MR B w0 j h w){src dst u:TypeId}(hs:P.underlying src=Dc (.slice u))(L:P.underlying u=Dc (.int .u8))(hd:P.underlying dst=Dc .string){x:AV}{c:Value}(H:VI j x c){s:List UInt8}
  (G:((alen x).bind λn=>(zAu 1 h x n).bind zCK)=Dc s) {K:AV->ct->Prop} (M:K (.str s) h):Ends P (do pure (.value (<-convert src dst c))) w B w0 j h K:=by
 simp only[YJ]at G;obtain⟨n,N,cs,l,E⟩:=G;obtain⟨o,cp,rfl,_⟩:=zBo H N;refine⟨.str s,h,j,.string ⟨s.toArray⟩,w,.inl ?_,FR.refl _ _,m,rfl,M⟩;have key:(Conv.bytesToString (.slice o n cp)).run P w=.ok (.string ⟨s.toArray⟩) w:=by
  by_cases D:n=0
  .subst D
   have:s=[]:=by
    unfold zAu at l;rw[DK rfl]at l;cases l;cases E;rfl
   subst this;cases o with
   |none=>rfl
   |some a=>
    have A:(loadCells a 0).run P w=.ok (([]:V1).map (Value.int .u8)).toArray w:=by simp[loadCells,loadCellsFrom]
    rw[run_bytesToString (P:=P) w a 0 cp [] A];rfl
  .obtain⟨ad,U,S,V,R,hle,J,O,T,I⟩:=zCJ m H D l;cases R;obtain⟨C,rfl,rfl⟩:=zIY J E;have A:(loadCells ad n).run P w=.ok (C.map (Value.int .u8)).toArray w:=by
    have:=run_loadCells_list (P:=P) w ad (C.map (Value.int .u8)) I
    rw[O,Fe]at this;exact this
   rw[run_bytesToString (P:=P) w ad n cp C A,zG8];simp
 rw[Sem.run_bind,run_convert_bytes_string (P:=P) w src dst u o n cp hs L hd,key];rfl
end
section
open Go.RowKit
variable{P:Program}{w0 w:World}{j:gz}{h:ct}{e:Env}{a:Act}
def Ends.wp{o:Oper}{K:AV->ct->Prop}{next:Act->World->Prop}{Q:Exit->Act->World->Prop}(J:Ends P (execOp a.eval o) w B w0 j h K)
  (H:∀v h' l C A,FR j h l h'->MR B w0 l h' A->VI l v C->K v h'->next (a.put o.dst C) A):o.wp P a w next Q:=by
 obtain⟨v,h',l,C,A,u,D,G,I,E⟩:=J;unfold Oper.wp;rcases u with u|⟨u,rfl⟩
 .rw[u];exact H v h' l C A D G I E
 .rw[u];exact H v h' l undef A D G I E
def zEk{f:FuncId}(l:okF P f=DF)(args:Array Value):(callFunc f args).run P w=.ok (.enter f args) w:=by
 unfold okF at l;split at l
 .rename_i A u;simp only[Yo,FX]at l;have C:A.body.isNone=false:=by rw[Option.isNone_eq_false_iff];exact l.1
  simp only[callFunc,Sem.run_bind,run_program,Result.andThen_ok,u,l.2,C,EB,if_false,Sem.run_pure]
 .cases l
def zMX(m:MR B w0 j h w){o:Oper}{f:FuncId}{args:List AV}{cargs:Array Value}(L:(execOp a.eval o).run P w=.ok (.enter f cargs) w)(E:l6 j args cargs.toList)
  {K:AV->ct->Prop} (C:Zm P f args h K) {next:Act->World->Prop} {Q:Exit->Act->World->Prop}
  (I:∀v h' l u A,FR j h l h'->MR B w0 l h' A->VI l v u->K v h'->next (a.put o.dst u) A):o.wp P a w next Q:=by
 unfold Oper.wp;rw[L];have D:=C B w0 j w cargs.toList m E;rw[Ew]at D;refine D.mono ?_
 rintro M A ⟨v,h',l,u,rfl,G,H,J,C⟩
 exact I v h' l u A G H J C
def zNo(m:MR B w0 j h w)(r:ER nt j e a){o:Oper}{io:qk}(u:copE P o.op=Dc io){K:AV->ct->Prop}(A:eff P io e h K){next:Act->World->Prop}{Q:Exit->Act->World->Prop}
  (H:∀v h' T I L,FR j h T h'->MR B w0 T h' L->VI T v I->K v h'->next (a.put o.dst I) L):o.wp P a w next Q:=by
 obtain⟨dst,op,ty,pos,after,guard⟩:=o;cases op<;>simp only[copE]at u<;>(try (cases u;done))
 case alloc t=>
  simp only[YJ,YK]at u;obtain⟨z,⟨i,E,J⟩,zs,U,rfl⟩:=u;exact Ends.wp (o:=⟨dst,.alloc t,ty,pos,after,guard⟩) (zNt m E J U A) H
 case box t x=>
  simp only[YK]at u;obtain⟨ix,hx,rfl⟩:=u;exact Ends.wp (o:=⟨dst,.box t x,ty,pos,after,guard⟩) (zRK m (zP r hx) A.1 A.2) H
 case buildSlice t len ps=>
  split at u
  .rename_i et S;simp only[YJ]at u;obtain⟨i,E,z,J,zs,U,qs,jd,u⟩:=u;split at u
   .rename_i D;cases u;obtain⟨cs,O,C⟩:=A;exact Ends.wp (o:=⟨dst,.buildSlice t len ps,ty,pos,after,guard⟩) (zKR m r S E J U jd D.1 D.2.1 D.2.2 O C) H
   .cases u
  .cases u
 case store t x v=>
  simp only[YJ]at u;obtain⟨i,E,ix,hx,iv,G,u⟩:=u;cases u;simp only[eff]at A;split at A
  .rename_i o k hp;have kz:=zP r hx;rw[hp]at kz;obtain⟨hl,h',hw,C⟩:=A;exact Ends.wp (o:=⟨dst,.store t x v,ty,pos,after,guard⟩) (zMj m E kz (zP r G) hl hw C) H
  .exact A.elim
 case makeSlice t l c=>
  split at u
  .rename_i et S;simp only[YJ]at u;obtain⟨i,E,z,J,zs,U,il,aR,ic,FA,u⟩:=u;split at u
   .rename_i D;cases u;simp only[eff]at A;split at A
    .rename_i kl l' kc c' M N;have V:=zP r aR;have W:=zP r FA;rw[M]at V;rw[N]at W;obtain⟨⟨b1,b2,b3,b4⟩,C⟩:=A
     have:=zLI (P:=P) (t:=t) m S E J U D.1 D.2 (kl:=kl) (kc:=kc) b1 b2 b3 b4 C
     rw[<-show a.eval l=Value.int kl l' from V,<-show a.eval c=Value.int kc c' from W]at this;exact Ends.wp (o:=⟨dst,.makeSlice t l c,ty,pos,after,guard⟩) this H
    .exact A.elim
   .cases u
  .cases u
 case call c=>
  obtain⟨callee,args,argTypes⟩:=c;simp only[zFC]at u;split at u<;>(try (cases u;done))
  .split at u<;>(try (cases u;done))
   .rename_i s x t t' X Z;split at u<;>(try (cases u;done))
    rename_i et S;split at u;rotate_left
    .split at u<;>(try (cases u;done))
     rename_i kn dY;have e1:args = #[s,x]:=by rw[<-Ew (xs:=args),X]
     have e2:argTypes = #[t,t']:=by rw[<-Ew (xs:=argTypes),Z]
     clear X Z;subst e1;subst e2;simp only[YJ]at u;obtain⟨i,E,z,J,zs,U,is,xj,ix,lY,u⟩:=u;split at u
     .rename_i D;cases u;simp only[eff]at A;split at A
      .rename_i k n M N;have V:=zP r xj;have W:=zP r lY;rw[M]at V;rw[N]at W;obtain⟨⟨b1,b2,b3⟩,C⟩:=A;obtain⟨v,h',G,C⟩:∃v h',(if 0<n then tx i.size i.bytes h .b8 (iU zs n.toNat) n.toNat else(AW .b8).map λv=>(v,h))=Dc (v,h')/\K v h':=by
        by_cases b0:0<n
        .rw[DK b0]at C ⊢;have bb:n.toNat*i.bytes<=140737488355328:=by
          have e:((n.toNat*i.bytes:Nat):Int)=n*i.bytes:=by rw[Uj,YD b1]
          omega
         exact⟨_,_,by simp only[tx];rw[DK ⟨bb,af⟩],C⟩
        .rw[DL b0]at C ⊢;exact⟨_,_,rfl,C⟩
       obtain⟨T,I,L,R,O,Y,mB⟩:=zD0 (P:=P) (ty:=ty) m S dY E J U D.1 D.2 (k:=k) b1 b2 b3 V G;rw[<-show a.eval x=Value.int k n from W]at R;refine Ends.wp ⟨_,_,T,I,L,.inl ?_,O,Y,mB,C⟩ H;simp[execOp,resolve,invoke,builtin,R]
      .rename_i o off len c k n M N;have V:=zP r xj;have W:=zP r lY;rw[M]at V;rw[N]at W;obtain⟨⟨b1,b2,b3⟩,p,G,C⟩:=A;obtain⟨T,I,L,R,O,Y,mB⟩:=zD0 (P:=P) (ty:=ty) m S dY E J U D.1 D.2 (k:=k) b1 b2 b3 V G;rw[<-show a.eval x=Value.int k n from W]at R;refine Ends.wp ⟨_,_,T,I,L,.inl ?_,O,Y,mB,C⟩ H;simp[execOp,resolve,invoke,builtin,R]
      .exact A.elim
     .cases u
    rename_i Ez;subst Ez;have e1:args = #[s,x]:=by rw[<-Ew (xs:=args),X]
    have e2:argTypes = #[t,t]:=by rw[<-Ew (xs:=argTypes),Z]
    clear X Z;subst e1;subst e2;simp only[YJ]at u;obtain⟨i,E,z,J,is,xj,ix,lY,u⟩:=u;split at u
    .rename_i D;cases u;obtain⟨⟨v,h'⟩,G,C⟩:=A;obtain⟨T,I,L,R,O,Y,mB⟩:=zKd (P:=P) (ty:=ty) m S E J D.1 D.2 (zP r xj) (zP r lY) G;refine Ends.wp ⟨v,h',T,I,L,.inl ?_,O,Y,mB,C⟩ H;simp[execOp,resolve,invoke,builtin,R]
    .cases u
   .rename_i d s t t' X Z;split at u<;>(try (cases u;done))
    rename_i et S;have e1:args = #[d,s]:=by rw[<-Ew (xs:=args),X]
    have e2:argTypes = #[t,t']:=by rw[<-Ew (xs:=argTypes),Z]
    clear X Z;subst e1;subst e2;simp only[YJ]at u;obtain⟨i,E,id,j4,is,xj,u⟩:=u;cases u;obtain⟨⟨v,h'⟩,G,C⟩:=A;obtain⟨I,L,R,O,Y,mB⟩:=zNl (P:=P) (ty:=ty) (t':=t') m S E (zP r j4) (zP r xj) G;refine Ends.wp ⟨v,h',j,I,L,.inl ?_,O,Y,mB,C⟩ H;simp[execOp,resolve,invoke,builtin,R]
  .rename_i f;split at u
   .rename_i pD;simp only[YK]at u;obtain⟨ixs,oG,rfl⟩:=u;have MN:Zm P f (ixs.map (·.ev e)) h K:=A;refine zMX (o:=⟨dst,.call ⟨.value (.func f),args,argTypes⟩,ty,pos,after,guard⟩) m (cargs:=args.map a.eval) (args:=ixs.map (·.ev e)) ?_ (by simpa using zBW r oG) MN H;simp[execOp,resolve,Act.eval,Deferred.ofValue,invoke,zEk pD]
   .cases u
  .rename_i t;simp only[YK]at u;obtain⟨ixs,oG,rfl⟩:=u;simp only[eff]at A;split at A
   .rename_i f first cR MG
    have G:=r.vals t;rw[show e t=_ from MG]at G;obtain⟨vs,us,M,N,h3⟩:=G;refine zMX (o:=⟨dst,.call ⟨.value (.tmp t),args,argTypes⟩,ty,pos,after,guard⟩) m (cargs:=vs.toArray++args.map a.eval++us.toArray) ?_ (by simpa using (M.append (zBW r oG)).append N) A.2 H;have xo:a.eval (.tmp t)=.func (.func f) vs.toArray us.toArray:=h3;simp[execOp,resolve,xo,Deferred.ofValue,invoke,zEk A.1]
   .exact A.elim
 case convert src dt x=>
  split at u<;>(try (cases u;done))
  rename_i et M N;split at u<;>(try (cases u;done))
  rename_i h3;simp only[YK]at u;obtain⟨ix,hx,rfl⟩:=u;obtain⟨s,G,C⟩:=A;exact Ends.wp (o:=⟨dst,.convert src _ x,ty,pos,after,guard⟩) (zMi m M h3 N (zP r hx) G C) H
end
section
open Go.RowKit
structure II where
 dst:Option Nat
 op:qk
 q:Bool
 guard:Option (Nat×Bool)
def zAr(ops:Array Oper):Option (Nat×Bool)->Option (Option (Nat×Bool))
 |none=>Dc none
 |some (k,b)=>((ops[k]?).bind (·.dst)).map λt=>Dc (t,b)
def dstOk(nt:Nat):Option Nat->Bool
 |some d=>decide (d<nt)
 |none=>DF
def ti(P:Program)(nt:Nat)(ops:Array Oper)(o:Oper):Option II:=
 (zAr ops o.guard).bind λg=>if dstOk nt o.dst=DF then
  match copQ P o.op with
  |some l=>Dc ⟨o.dst,l,DF,g⟩
  |none=>(copE P o.op).map λl=>⟨o.dst,l,false,g⟩
 else none
def gq(nb:Nat)(it:II)(e:Env)(h:ct):Option AV:=
 match it.guard with
 |none=>qv nb it.op e h
 |some (t,b)=>match e t with
  | .bool c=>if c=b then qv nb it.op e h else Dc (.tup [])
  | .tup []=>Dc (.tup [])
  |_=>none
def ge(P:Program)(it:II)(e:Env)(h:ct)(K:AV->ct->Prop):Prop:=
 match it.guard with
 |none=>eff P it.op e h K
 |some (t,b)=>match e t with
  | .bool c=>if c=b then eff P it.op e h K else K (.tup []) h
  | .tup []=>K (.tup []) h
  |_=>False
def RV(P:Program):List II->Env->ct->(Env->ct->Prop)->Prop
 |[],e,h,K=>K e h
 |it::r,e,h,K=>match it.q with
  |true=>fw (gq 0 it e h) λv=>RV P r (e.put it.dst v) h K
  |false=>ge P it e h λv h'=>RV P r (e.put it.dst v) h' K
variable{P:Program}{B:Nat}{w0 w:World}{j:gz}{h:ct}{nt:Nat}{e:Env}{a:Act}{ops:Array Oper}{Q:Exit->Act->World->Prop}
def zMg(r:ER nt j e a){k t:Nat}{c:Bool}(A:(ops[k]?).bind (·.dst)=Dc t)(C:e t=.bool c):yielded ops a.tmps k=Dc c:=by
 have u:=r.vals t;rw[C]at u;have l:a.tmps.getD t undef=.bool c:=u;unfold yielded;rw[A];rw[D0]at l;cases hh:a.tmps[t]? with
 |none=>rw[hh]at l;cases l
 |some x=>rw[hh]at l;simp at l;subst l;simp[hh]
def zBq:VI j (.tup []) undef:=⟨[],rfl,rfl⟩
def zIv(r:ER nt j e a){k t:Nat}(A:(ops[k]?).bind (·.dst)=Dc t)(C:e t=.tup []):yielded ops a.tmps k=none:=by
 have l:=r.vals t;rw[C]at l;obtain⟨vs,u,l⟩:=l;cases u;unfold yielded;rw[A];rw[D0]at l;cases hh:a.tmps[t]? with
 |none=>simp[hh]
 |some x=>rw[hh]at l;simp at l;subst l;simp[hh]
def zCy{o:Oper}{it:II}(l:ti P nt ops o=Dc it):
  it.dst=o.dst/\(∀d,it.dst=Dc d->d<nt)/\zAr ops o.guard=Dc it.guard/\(it.q=DF/\copQ P o.op=Dc it.op\/it.q=false/\copE P o.op=Dc it.op):=by
 simp only[ti,YJ]at l;obtain⟨g,A,l⟩:=l;split at l
 .rename_i hd;have u:∀d,o.dst=Dc d->d<nt:=by
   intro d u;rw[u]at hd;simpa [dstOk]using hd
  split at l
  .rename_i E D;cases l;exact⟨rfl,u,A,.inl ⟨rfl,D⟩⟩
  .simp only[YK]at l;obtain⟨E,C,rfl⟩:=l;exact⟨rfl,u,A,.inr ⟨rfl,C⟩⟩
 .cases l
def zD5(r:ER nt j e a){o:Oper}{g:Option (Nat×Bool)}(l:zAr ops o.guard=Dc g):
  (g=none->Region.wanted o (yielded ops a.tmps)=DF)/\(∀t b c,g=Dc (t,b)->e t=.bool c->Region.wanted o (yielded ops a.tmps)=decide (c=b))/\∀t b,g=Dc (t,b)->e t=.tup []->Region.wanted o (yielded ops a.tmps)=false:=by
 cases ho:o.guard with
 |none=>
  rw[ho]at l;cases l;exact⟨λ_=>by simp[Region.wanted,ho],λt b c x=>(by cases x),λt b x=>by cases x⟩
 |some kb=>
  obtain⟨k,b⟩:=kb;rw[ho]at l;simp only[zAr,YK]at l;obtain⟨t,A,rfl⟩:=l;refine⟨λx=>by(cases x),λt' b' c x u=>?_,λt' b' x u=>?_⟩
  .cases x;simp only[Region.wanted,ho,zMg r A u];cases c<;>cases b<;>rfl
  .cases x;simp only[Region.wanted,ho,zIv r A u];rfl
def yD(m:MR B w0 j h w)(r:ER nt j e a){i:Nat}{o:Oper}{it:II}(C:ops[i]? = Dc o)(u:ti P nt ops o=Dc it)(M:it.q=DF){nb:Nat}{v:AV}(l:gq nb it e h=Dc v)
  {next:Act->World->Prop} (D:∀a',ER nt j (e.put it.dst v) a'->next a' w):wpOp P ops Q i next a w:=by
 obtain⟨hd,A,L,I⟩:=zCy u;have H:copQ P o.op=Dc it.op:=by
  rcases I with x|x
  .exact x.2
  .rw[M]at x;cases x.1
 obtain⟨w1,w2,N⟩:=zD5 r L;have run:qv nb it.op e h=Dc v->Region.wanted o (yielded ops a.tmps)=DF->wpOp P ops Q i next a w:=by
  intro l hw;obtain⟨O,J,K⟩:=zNn m r H l;unfold wpOp;simp only[C,hw,if_true];refine .inl ?_;unfold Oper.wp;rw[J];exact D _ (by rw[<-hd];exact r.put A K)
 unfold gq at l;split at l
 .exact run l (w1 (by assumption))
 .rename_i t b G;split at l
  .rename_i c u;have hw:=w2 t b c G u;split at l
   .rename_i E;exact run l (by rw[hw];simpa using E)
   .rename_i E;cases l;unfold wpOp
    have:Region.wanted o (yielded ops a.tmps)=false:=by rw[hw];simpa using E
    simp only[C,this,EB,if_false];exact D _ (by rw[<-hd];exact r.put A zBq)
  .rename_i u;cases l;unfold wpOp;simp only[C,N t b G u,EB,if_false];exact D _ (by rw[<-hd];exact r.put A zBq)
  .cases l
def zGD(m:MR B w0 j h w)(r:ER nt j e a){i:Nat}{o:Oper}{it:II}(E:ops[i]? = Dc o)(u:ti P nt ops o=Dc it)(R:it.q=false){K:AV->ct->Prop}(l:ge P it e h K)
  {next:Act->World->Prop} (G:∀v h' A a' C,FR j h A h'->MR B w0 A h' C->ER nt A (e.put it.dst v) a'->K v h'->next a' C):wpOp P ops Q i next a w:=by
 obtain⟨hd,D,N,M⟩:=zCy u;have L:copE P o.op=Dc it.op:=by
  rcases M with x|x
  .rw[R]at x;cases x.1
  .exact x.2
 obtain⟨w1,w2,T⟩:=zD5 r N;have run:eff P it.op e h K->Region.wanted o (yielded ops a.tmps)=DF->wpOp P ops Q i next a w:=by
  intro l hw;unfold wpOp;simp only[E,hw,if_true];refine .inl (zNo m r L l ?_);intro v h' A U C J O S l;exact G v h' A _ C J O (by rw[<-hd];exact(r.mono (J.le m)).put D S) l
 unfold ge at l;split at l
 .exact run l (w1 (by assumption))
 .rename_i t b I;split at l
  .rename_i c u;have hw:=w2 t b c I u;split at l
   .rename_i H;exact run l (by rw[hw];simpa using H)
   .rename_i H;unfold wpOp
    have:Region.wanted o (yielded ops a.tmps)=false:=by rw[hw];simpa using H
    simp only[E,this,EB,if_false];exact G (.tup []) h j _ w (FR.refl _ _) m (by rw[<-hd];exact r.put D zBq) l
  .rename_i u;unfold wpOp;simp only[E,T t b I u,EB,if_false];exact G (.tup []) h j _ w (FR.refl _ _) m (by rw[<-hd];exact r.put D zBq) l
  .exact l.elim
def zHO(P:Program)(nt:Nat)(ops:Array Oper):List Oper->Option (List II)
 |[]=>Dc []
 |o::r=>(ti P nt ops o).bind λa=>(zHO P nt ops r).bind λb=>Dc (a::b)
def zGL:∀(A:List Oper) (C:List II) (k:Nat),zHO P nt ops A=Dc C->ops.toList.drop k=A->∀{j:gz} {h:ct} {w:World} {e:Env} {a:Act} {K:Env->ct->Prop},
  MR B w0 j h w->ER nt j e a->RV P C e h K->
  (∀D h' e' a' H,FR j h D h'->MR B w0 D h' H->ER nt D e' a'->K e' h'->Q .normal a' H)->wpOps P ops Q (List.range' k (ops.size-k)) a w
 |[],C,k,u,hd,j,h,w,e,a,K,m,r,l,hn=>by
  cases u
  have:ops.size-k=0:=by
   have:=congrArg F6 hd
   simpa using this
  rw[this];exact hn j h e a w (FR.refl _ _) m r l
 |o::A,C,k,u,hd,j,h,w,e,a,K,m,r,l,hn=>by
  simp only[zHO,YJ]at u;obtain⟨it,I,N,M,u⟩:=u;cases u;have ah:k<ops.size:=by
   have:=congrArg F6 hd
   simp at this;omega
  have J:ops[k]? = Dc o:=by
   have:ops.toList[k]? = Dc o:=by
    have:=congrArg List.head? hd
    rwa[List.head?_drop]at this
   simpa using this
  have L:ops.toList.drop (k+1)=A:=by
   have:=congrArg List.tail hd
   simpa [List.tail_drop]using this
  have G:ops.size-k=(ops.size-(k+1))+1:=af
  rw[G,List.range'_succ,wpOps_cons];unfold RV at l;split at l
  .rename_i E;obtain⟨v,V,l⟩:=l;exact yD m r J I E V λa' Z=>zGL A N (k+1) M L m Z l hn
  .rename_i E;refine zGD m r J I E l ?_;intro v h' D a' H T U G l;exact zGL A N (k+1) M L U G l λX S W Y O R=>hn X S W Y O (T.trans R)
end
section
open Go.RowKit
structure DI extends II where
 idx:Nat
 chk:List Nat
structure Rec where
 idx:Nat
 agg:Bool
 n:Nat
 x:AV
 v:AV
def Zn(g:Option (Nat×Bool))(e:Env):Bool:=
 match g with
 |none=>DF
 |some (t,b)=>match e t with
  | .bool c=>decide (c=b)
  |_=>false
def tj(it:DI)(e:Env)(v:AV):List Rec:=
 match it.op with
 | .load agg n x=>if Zn it.guard e=DF then [⟨it.idx,agg,n,x.ev e,v⟩]else []
 |_=>[]
def oc(chk:List Nat):List Rec->ct->Prop
 |[],_=>True
 |r::rs,h=>(if chk.contains r.idx=DF then CF r.agg r.n r.x h=Dc r.v else True)/\oc chk rs h
def DV(P:Program)(nb:Nat):List DI->List Rec->Env->ct->(Env->ct->Prop)->Prop
 |[],_,e,h,K=>K e h
 |it::r,recs,e,h,K=>match it.q with
  |true=>fw (gq nb it.toII e h) λv=>DV P nb r (tj it e v++recs) (e.put it.dst v) h K
  |false=>ge P it.toII e h λv h'=>oc it.chk recs h'/\DV P nb r recs (e.put it.dst v) h' K
def IX.rd:IX->List Nat
 | .t n=>[n]
 | .c _=>[]
def ixos(x:Option IX):List Nat:=match x with|some x=>x.rd|none=>[]
def ixs(l:List IX):List Nat:=l.flatMap IX.rd
def ixps(l:List (Nat×Nat×IX)):List Nat:=l.flatMap λp=>p.2.2.rd
def qk.reads:qk->List Nat
 | .mv x | .un _ x | .conv _ x | .nilCheck x | .field _ _ _ x | .fieldAddr _ x | .extract x _ | .len x | .lenStr x | .cap x | .load _ _ x | .box x | .strOf x=>x.rd
 | .pick c a b=>c.rd++a.rd++b.rd
 | .bin _ _ x y | .indexAddr _ x y | .indexStr x y | .maxmin _ x y | .store _ x y | .makeSl _ _ _ x y | .appendMk _ _ _ x y | .append _ _ x y | .copy _ x y=>x.rd++y.rd
 | .build _ ps | .buildSl _ _ _ ps=>ixps ps
 | .slice _ x lo hi mx=>x.rd++ixos lo++ixos hi++ixos mx
 | .sliceStr x lo hi=>x.rd++ixos lo++ixos hi
 | .makeFunc _ a b=>ixs a++ixs b
 | .call _ a=>ixs a
 | .callV f a=>f.rd++ixs a
 | .rev _ | .revS _ _ | .alloc _=>[]
def II.reads(it:II):List Nat:=it.op.reads++(match it.guard with|some (t,_)=>[t] |none=>[])
variable{P:Program}{h h':ct}{nb:Nat}{e e':Env}{a:Act}
def IX.ev_congr{x:IX}(l:∀t∈x.rd,e t=e' t):x.ev e=x.ev e':=by
 cases x with
 |t n=>exact l n (by simp[IX.rd])
 |c v=>rfl
def zAk{x:Option IX}(l:∀t∈ixos x,e t=e' t):x.map (·.ev e)=x.map (·.ev e'):=by
 cases x with
 |none=>rfl
 |some x=>simp[IX.ev_congr (x:=x) l]
def zCe{l:List IX}(u:∀t∈ixs l,e t=e' t):l.map (·.ev e)=l.map (·.ev e'):=by
 apply EA;intro x C;exact IX.ev_congr λt A=>u t (UD.2 ⟨x,C,A⟩)
def zG1{l:List (Nat×Nat×IX)}(u:∀t∈ixps l,e t=e' t):(l.map λp=>(p.1,p.2.1,p.2.2.ev e))=l.map λp=>(p.1,p.2.1,p.2.2.ev e'):=by
 apply EA;intro x C;rw[IX.ev_congr λt A=>u t (UD.2 ⟨x,C,A⟩)]
def zQE{op:qk}(l:∀t∈op.reads,e t=e' t):qv nb op e h=qv nb op e' h:=by
 cases op<;>simp only[qk.reads,YY,or_imp,forall_and]at l<;>simp only[qv]
 case mv x=>rw[IX.ev_congr l]
 case pick c a b=>rw[IX.ev_congr l.1.1,IX.ev_congr l.1.2,IX.ev_congr l.2]
 case bin o k x y=>rw[IX.ev_congr l.1,IX.ev_congr l.2]
 case un o x=>rw[IX.ev_congr l]
 case conv k x=>rw[IX.ev_congr l]
 case nilCheck x=>rw[IX.ev_congr l]
 case build z ps=>rw[zG1 l]
 case field a n o x=>rw[IX.ev_congr l]
 case fieldAddr o x=>rw[IX.ev_congr l]
 case indexAddr s x y=>rw[IX.ev_congr l.1,IX.ev_congr l.2]
 case indexStr x y=>rw[IX.ev_congr l.1,IX.ev_congr l.2]
 case extract x i=>rw[IX.ev_congr l]
 case len x=>rw[IX.ev_congr l]
 case lenStr x=>rw[IX.ev_congr l]
 case cap x=>rw[IX.ev_congr l]
 case slice s x lo hi mx=>rw[IX.ev_congr l.1.1.1,zAk l.1.1.2,zAk l.1.2,zAk l.2]
 case sliceStr x lo hi=>rw[IX.ev_congr l.1.1,zAk l.1.2,zAk l.2]
 case maxmin m x y=>rw[IX.ev_congr l.1,IX.ev_congr l.2]
 case makeFunc f a b=>rw[zCe l.1,zCe l.2]
 case load a n x=>rw[IX.ev_congr l]
def zPc{op:qk}(u:∀t∈op.reads,e t=e' t){K:AV->ct->Prop}(A:eff P op e h K):eff P op e' h K:=by
 cases op<;>simp only[qk.reads,YY,or_imp,forall_and]at u<;>simp only[eff]at A ⊢<;>(try exact A)
 case box x=>rw[<-IX.ev_congr u];exact A
 case buildSl a b c ps=>rw[<-zG1 u];exact A
 case store n x v=>rw[<-IX.ev_congr u.1,<-IX.ev_congr u.2];exact A
 case makeSl a b z l c=>rw[<-IX.ev_congr u.1,<-IX.ev_congr u.2];exact A
 case appendMk a b z l c=>rw[<-IX.ev_congr u.1,<-IX.ev_congr u.2];exact A
 case append a b s x=>rw[<-IX.ev_congr u.1,<-IX.ev_congr u.2];exact A
 case copy a d s=>rw[<-IX.ev_congr u.1,<-IX.ev_congr u.2];exact A
 case call f a=>rw[<-zCe u];exact A
 case callV f a=>rw[<-IX.ev_congr u.1,<-zCe u.2];exact A
 case strOf x=>rw[<-IX.ev_congr u];exact A
def zKG{op:qk}{K K':AV->ct->Prop}(C:∀v h',K v h'->K' v h')(A:eff P op e h K):eff P op e h K':=by
 cases op<;>simp only[eff]at A ⊢
 case alloc z=>exact C _ _ A
 case box x=>exact⟨A.1,C _ _ A.2⟩
 case buildSl a b c ps=>obtain⟨x,y,z⟩:=A;exact⟨x,y,C _ _ z⟩
 case store n x v=>
  split at A
  .obtain⟨x,y,z,u⟩:=A;exact⟨x,y,z,C _ _ u⟩
  .exact A
 case makeSl a b z l c=>
  split at A
  .exact⟨A.1,C _ _ A.2⟩
  .exact A
 case appendMk a b z l c=>
  split at A
  .refine⟨A.1,?_⟩;have D:=A.2;split at D
   .rename_i E;rw[DK E];exact C _ _ D
   .rename_i E;rw[DL E];exact C _ _ D
  .obtain⟨x,y,z,u⟩:=A;exact⟨x,y,z,C _ _ u⟩
  .exact A
 case append a b s x=>obtain⟨x,y,z⟩:=A;exact⟨x,y,C _ _ z⟩
 case copy a d s=>obtain⟨x,y,z⟩:=A;exact⟨x,y,C _ _ z⟩
 case call f a=>exact A.mono C
 case callV f a=>
  split at A
  .exact⟨A.1,A.2.mono C⟩
  .exact A
 case strOf x=>obtain⟨s,hs,A⟩:=A;exact⟨s,hs,C _ _ A⟩
def II.reads_op{it:II}{t:Nat}(l:t∈it.op.reads):t∈it.reads:=List.mem_append_left _ l
def II.reads_guard{it:II}{t:Nat}{b:Bool}(l:it.guard=Dc (t,b)):t∈it.reads:=by simp[II.reads,l]
def zA4{it:II}(u:∀t∈it.reads,e t=e' t):gq nb it e h=gq nb it e' h:=by
 have l:=zQE (nb:=nb) (h:=h) (op:=it.op) λt C=>u t (II.reads_op C);unfold gq;split
 .exact l
 .rename_i t b A;rw[u t (II.reads_guard A)];simp only[l]
def zJ6{it:II}(D:∀t∈it.reads,e t=e' t){K:AV->ct->Prop}(l:ge P it e h K):ge P it e' h K:=by
 have C:eff P it.op e h K->eff P it.op e' h K:=zPc λt E=>D t (II.reads_op E);unfold ge at l ⊢;split
 .rename_i u;rw[u]at l;exact C l
 .rename_i t b u;rw[u]at l;rw[<-D t (II.reads_guard u)];simp only at l;split at l
  .split at l
   .rename_i A;rw[DK A];exact C l
   .rename_i A;rw[DL A];exact l
  .exact l
  .exact l.elim
def zA5{it:II}{K K':AV->ct->Prop}(u:∀v h',K v h'->K' v h')(l:ge P it e h K):ge P it e h K':=by
 unfold ge at l ⊢;split
 .rename_i A;rw[A]at l;exact zKG u l
 .rename_i t b A;rw[A]at l;simp only at l;split at l
  .split at l
   .rename_i C;rw[DK C];exact zKG u l
   .rename_i C;rw[DL C];exact u _ _ l
  .exact u _ _ l
  .exact l.elim
def Qc{it:II}(l:∀t∈it.reads,e t=e' t):Zn it.guard e=Zn it.guard e':=by
 unfold Zn;split
 .rfl
 .rename_i t b u;rw[l t (II.reads_guard u)]
def Ql{it:DI}(l:∀t∈it.reads,e t=e' t)(v:AV):tj it e v=tj it e' v:=by
 unfold tj;split
 .rename_i agg n x u;rw[Qc l,IX.ev_congr (x:=x) (e:=e) (e':=e') λt A=>l t (II.reads_op (by rw[u];exact A))]
 .rfl
def qk.isLoad:qk->Bool
 | .load _ _ _=>DF
 |_=>false
def zL1{op:qk}(l:op.isLoad=false):qv nb op e h=qv nb op e h':=by
 cases op<;>first|rfl|(simp[qk.isLoad]at l)
def zBa{chk:List Nat}:∀{recs:List Rec},oc chk recs h↔∀r∈recs,chk.contains r.idx=DF->CF r.agg r.n r.x h=Dc r.v
 |[]=>by simp[oc]
 |r::rs=>by
  simp only[oc,zBa (recs:=rs),YH,forall_eq_or_imp];refine and_congr_left λ_=>?_;by_cases l:chk.contains r.idx=DF
  .rw[DK l];exact⟨λx _=>x,λx=>x l⟩
  .rw[DL l];exact⟨λ_ x=>absurd x l,λ_=>trivial⟩
def oc.sub{chk:List Nat}{recs l:List Rec}(hs:∀r∈l,r∈recs)(u:oc chk recs h):oc chk l h:=
 zBa.2 λr A=>zBa.1 u r (hs r A)
def DV.sub:∀(l:List DI) {recs A:List Rec} {e:Env} {h:ct} {K:Env->ct->Prop},(∀r∈A,r∈recs)->DV P nb l recs e h K->DV P nb l A e h K
 |[],_,_,_,_,_,_,u=>u
 |it::r,recs,A,e,h,K,hs,u=>by
  unfold DV at u ⊢;split
  .rename_i C;rw[C]at u;obtain⟨v,E,u⟩:=u;refine⟨v,E,DV.sub r (λx D=>?_) u⟩;simp only[YY]at D ⊢;exact D.imp id (hs x)
  .rename_i C;rw[C]at u;exact zA5 (λv h' u=>⟨u.1.sub hs,DV.sub r hs u.2⟩) u
def apart(q p:II):Bool:=
 (match q.dst with|some d=>!p.reads.contains d && p.dst != Dc d|none=>DF) && (match p.dst with|some d=>!q.reads.contains d|none=>DF)
def ui{q p:II}(A:apart q p=DF):(∀(e:Env) v,∀t∈p.reads,(e.put q.dst v) t=e t)/\(∀(e:Env) v,∀t∈q.reads,(e.put p.dst v) t=e t)/\
  ∀(e:Env) u v,(e.put q.dst u).put p.dst v=(e.put p.dst v).put q.dst u:=by
 unfold apart at A;simp only[Yo]at A;obtain⟨l,C⟩:=A;refine⟨λe v t D=>?_,λe v t D=>?_,λe u v=>?_⟩
 .cases hq:q.dst with
  |none=>rfl
  |some d=>
   rw[hq]at l;simp at l;simp only[Env.put];rw[DL (λ(x:t=d)=>l.1 (x ▸ D))]
 .cases hp:p.dst with
  |none=>rfl
  |some d=>
   rw[hp]at C;simp at C;simp only[Env.put];rw[DL (λ(x:t=d)=>C (x ▸ D))]
 .cases hq:q.dst with
  |none=>cases p.dst<;>rfl
  |some d=>
   cases hp:p.dst with
   |none=>rfl
   |some d'=>
    rw[hq,hp]at l;simp at l;have E:d'≠d:=l.2;funext t;simp only[Env.put];by_cases x:t=d'
    .subst x;simp[E]
    .simp[x]
def zFh{p:DI}{G:List DI}(C:p.q=DF):∀(u:List DI) {recs:List Rec} {e:Env} {h:ct} {K:Env->ct->Prop},(∀q∈u,q.q=DF/\apart q.toII p.toII=DF)->
  DV P nb (u++p::G) recs e h K->∃v,gq nb p.toII e h=Dc v/\DV P nb (u++G) (tj p e v++recs) (e.put p.dst v) h K
 |[],recs,e,h,K,_,l=>by
  simp only[Yl,DV,C]at l;exact l
 |q::u,recs,e,h,K,ha,l=>by
  obtain⟨D,J⟩:=ha q aK;obtain⟨H,I,N⟩:=ui J;simp only[Yr,DV,D]at l;obtain⟨A,M,l⟩:=l;obtain⟨v,E,l⟩:=zFh C u (λx L=>ha x (by simp[L])) l;rw[zA4 (H e A)]at E;refine⟨v,E,?_⟩;simp only[Yr,DV,D];refine⟨A,by rw[zA4 (I e v)];exact M,?_⟩;rw[Ql (H e A)]at l;dsimp only;rw[Ql (I e v),<-N];refine DV.sub _ (λr hr=>?_) l;simp only[YY]at hr ⊢;rcases hr with hr|hr|hr
  .exact .inr (.inl hr)
  .exact .inl hr
  .exact .inr (.inr hr)
def zIR{p:DI}{M:List DI}(I:p.q=false):∀(C:List DI) {recs:List Rec} {e:Env} {h:ct} {K:Env->ct->Prop},
  (∀q∈C,q.q=DF/\apart q.toII p.toII=DF/\(q.op.isLoad=DF->p.chk.contains q.idx=DF))->
  DV P nb (C++p::M) recs e h K->ge P p.toII e h λv h'=>oc p.chk recs h'/\DV P nb (C++M) recs (e.put p.dst v) h' K
 |[],recs,e,h,K,_,l=>by
  simp only[Yl,DV,I]at l;exact l
 |q::C,recs,e,h,K,ha,l=>by
  obtain⟨J,R,N⟩:=ha q aK;obtain⟨V,D,W⟩:=ui R;simp only[Yr,DV,J]at l;obtain⟨G,U,l⟩:=l
  have:=zIR I C (λx T=>ha x (by simp[T])) l
  refine zA5 (λv h' l=>?_) (zJ6 (V e G) this);obtain⟨L,l⟩:=l;refine⟨L.sub λr E=>List.mem_append_right _ E,?_⟩;simp only[Yr,DV,J];refine⟨G,?_,?_⟩
  .have h1:gq nb q.toII (e.put p.dst v) h=Dc G:=by rw[zA4 (D e v)];exact U
   rw[<-h1];cases hl:q.op.isLoad with
   |false=>
    unfold gq;simp only[zL1 (nb:=nb) (e:=e.put p.dst v) (h:=h') (h':=h) hl]
   |true=>
    cases bu:q.op with
    |load agg n x=>
     have H:x.ev (e.put p.dst v)=x.ev e:=IX.ev_congr λt S=>D e v t (II.reads_op (by rw[bu];exact S));cases hw:Zn q.guard e with
     |true=>
      have E:=zBa.1 L ⟨q.idx,agg,n,x.ev e,G⟩ (by simp[tj,bu,hw]) (N hl);rw[h1];unfold gq;rw[<-Qc (e:=e.put p.dst v) (D e v)]at hw;unfold Zn at hw;split
      .show qv nb q.op _ _=_;rw[bu];simp only[qv,H];exact E
      .rename_i t b A;rw[A]at hw;simp only at hw;split at hw
       .rename_i c u;rw[u];simp only;rw[DK (by simpa using hw)];show qv nb q.op _ _=_;rw[bu];simp only[qv,H];exact E
       .cases hw
     |false=>
      rw[<-Qc (e:=e.put p.dst v) (D e v)]at hw;unfold gq;unfold Zn at hw;split
      .rename_i A;rw[A]at hw;cases hw
      .rename_i t b A;rw[A]at hw;simp only at hw;split at hw
       .rename_i c u;rw[u];simp only;rw[DL (by simpa using hw),DL (by simpa using hw)]
       .rename_i O;split
        .rename_i c u;exact absurd u (O c)
        .rfl
        .rfl
    |_=>rw[bu]at hl;cases hl
  .dsimp only;rw[Ql (D e v),<-W];exact l
end
section
open Go.RowKit
def qg(o:Oper):List Nat:=(o.after.toList.filter λx=>Region.binds .any x).map (·.on)
def qk.revK:qk->Option Nat
 | .rev k=>Dc k
 | .revS k _=>Dc k
 |_=>none
def cNew(P:Program)(al:Bool)(o:Oper):Option (Nat×List AV):=
 match al,o.op with
 |true,.buildSlice t len ps=>match P.underlying t with
  |some (.slice et)=>(P.info? et).bind λi=>i.zero.bind λz=>(qY z.cells.toList).bind λzs=>(zAs i.size ps.toList).bind λl=>
   if l.all (λp=>p.2.2.rd.isEmpty)=DF/\Lu zs=i.size/\i.size≠0/\len*i.size<=16777216 then(uy (iU zs len) (l.map λp=>(p.1,p.2.1,p.2.2.ev (λ_=>.undef)))).map λcs=>(len,cs)else none
  |_=>none
 |_,_=>none
def cDI(P:Program)(nt:Nat)(ops:Array Oper)(pt:List (List Nat))(al:Bool)(before:List DI)(k i:Nat):Option (DI×Option (List AV)):=
 (ops[i]?).bind λo=>match cNew P al o with
  |some (len,zs)=>(zAr ops o.guard).bind λg=>if dstOk nt o.dst=DF then Dc (⟨⟨o.dst,.revS k len,DF,g⟩,i,[]⟩,Dc zs)else none
  |none=>match o.op with
  | .alloc t=>(zAr ops o.guard).bind λg=>if dstOk nt o.dst=DF then((P.info? t).bind (·.zero)).bind λz=>(qY z.cells.toList).map λzs=>(⟨⟨o.dst,.rev k,DF,g⟩,i,[]⟩,Dc zs)else none
  |_=>(ti P nt ops o).map λit=>(⟨it,i,if it.q=DF then []else(before.filter λq=>q.op.isLoad && !(pt.getD i []).contains q.idx).map (·.idx)⟩,none)
def cDIs(P:Program)(nt:Nat)(ops:Array Oper)(pt:List (List Nat))(al:Bool):List Nat->List DI->Nat->Option (List DI×List (List AV))
 |[],_,_=>Dc ([],[])
 |i::r,before,k=>(cDI P nt ops pt al before k i).bind λx=>match x.2 with
  |none=>(cDIs P nt ops pt al r (before++[x.1]) k).map λy=>(x.1::y.1,y.2)
  |some z=>(cDIs P nt ops pt al r (before++[x.1]) (k+1)).map λy=>(x.1::y.1,z::y.2)
def zBM(pt:List (List Nat))(q p:DI):Bool:=
 (pt.getD p.idx []).contains q.idx || (apart q.toII p.toII && q.q && (p.q || !q.op.isLoad || p.chk.contains q.idx))
def pairs(f:DI->DI->Bool):List DI->Bool
 |[]=>DF
 |q::r=>r.all (f q) && pairs f r
def Cf(ops:Array Oper)(pt:List (List Nat)):Bool:=
 (DO ops.size).all λi=>match ops[i]? with
  |some o=>!(pt.getD i []).contains i && (qg o).all (λd=>decide (d<ops.size) && (pt.getD i []).contains d) && (pt.getD i []).all λx=>(qg o).any λd=>d == x || (pt.getD d []).contains x
  |none=>DF
def dOk(ops:Array Oper)(pt:List (List Nat))(order:List Nat)(l:List DI):Bool:=
 Cf ops pt && (l.map (·.idx) == order) && decide order.Nodup && (order.length == ops.size) && (DO ops.size).all (λi=>order.contains i) &&
 pairs (zBM pt) l && pairs (λq p=>!(pt.getD q.idx []).contains p.idx) l
def zFv{f:DI->DI->Bool}:∀{l:List DI},pairs f l=DF->l.Pairwise λq p=>f q p=DF
 |[],_=>.nil
 |q::r,h=>by
  simp only[pairs,Yo,D2]at h;exact .cons h.1 (zFv h.2)
variable{P:Program}{B:Nat}{w0 w:World}{j:gz}{h h':ct}{nt nb:Nat}{e e':Env}{a:Act}{ops:Array Oper}{Q:Exit->Act->World->Prop}{pt:List (List Nat)}{zs:List (List AV)}
def Laid(P:Program)(op:qk)(o:Op)(k:Nat)(C:List AV):Prop:=
 (∃t i z,op=.rev k/\o=.alloc t/\P.info? t=Dc i/\i.zero=Dc z/\qY z.cells.toList=Dc C)\/
 ∃t u i z zs len A l,op=.revS k len/\o=.buildSlice t len A/\P.underlying t=Dc (.slice u)/\P.info? u=Dc i/\i.zero=Dc z/\qY z.cells.toList=Dc zs/\Lu zs=i.size/\i.size≠0/\len*i.size<=16777216/\zAs i.size A.toList=Dc l/\l.all (λp=>p.2.2.rd.isEmpty)=DF/\uy (iU zs len) (l.map λp=>(p.1,p.2.1,p.2.2.ev (λ_=>.undef)))=Dc C
def From(P:Program)(nt:Nat)(ops:Array Oper)(zs:List (List AV))(it:DI):Prop:=
 ∃o,ops[it.idx]? = Dc o/\(ti P nt ops o=Dc it.toII/\it.op.revK=none\/
  ∃k l,it.op.revK=Dc k/\zs[k]? = Dc l/\Laid P it.op o.op k l/\it.q=DF/\it.dst=o.dst/\(∀d,it.dst=Dc d->d<nt)/\zAr ops o.guard=Dc it.guard)
def zPm{P:Program}{al:Bool}{o:Oper}{len:Nat}{u:List AV}(h:cNew P al o=Dc (len,u))(k:Nat):Laid P (.revS k len) o.op k u:=by
 unfold cNew at h;split at h
 .rename_i t M K A;split at h
  .rename_i E H;simp only[YJ]at h;obtain⟨i,G,z,I,zs,C,L,J,h⟩:=h;split at h
   .rename_i l;simp only[YK,Y7]at h;obtain⟨cs,D,rfl,rfl⟩:=h;exact .inr ⟨t,E,i,z,zs,_,K,L,rfl,A,H,G,I,C,l.2.1,l.2.2.1,l.2.2.2,J,l.1,D⟩
   .cases h
  .cases h
 .cases h
def zFl{o:Oper}{it:II}(A:ti P nt ops o=Dc it)(op:qk)(u:it.op=op)(h:(∃k,op=.rev k)\/∃k n,op=.revS k n):False:=by
 obtain⟨_,_,_,l⟩:=zCy A;rcases h with ⟨k,rfl⟩|⟨k,n,rfl⟩
 .rcases l with ⟨_,l⟩|⟨_,l⟩
  .rw[u]at l;cases ho:o.op<;>rw[ho]at l<;>simp only[copQ]at l<;>(try (cases l;done))<;>(repeat (first|(split at l)|(simp only[YJ,YK]at l)|(obtain⟨_,_,l⟩:=l)|(cases l;done)))
  .rw[u]at l;cases ho:o.op<;>rw[ho]at l<;>simp only[copE,zFC]at l<;>(try (cases l;done))<;>(repeat (first|(split at l)|(simp only[YJ,YK]at l)|(obtain⟨_,_,l⟩:=l)|(cases l;done)))
 .rcases l with ⟨_,l⟩|⟨_,l⟩
  .rw[u]at l;cases ho:o.op<;>rw[ho]at l<;>simp only[copQ]at l<;>(try (cases l;done))<;>(repeat (first|(split at l)|(simp only[YJ,YK]at l)|(obtain⟨_,_,l⟩:=l)|(cases l;done)))
  .rw[u]at l;cases ho:o.op<;>rw[ho]at l<;>simp only[copE,zFC]at l<;>(try (cases l;done))<;>(repeat (first|(split at l)|(simp only[YJ,YK]at l)|(obtain⟨_,_,l⟩:=l)|(cases l;done)))
def zNm{o:Oper}{it:II}(l:ti P nt ops o=Dc it):it.op.revK=none:=by
 cases bu:it.op with
 |rev k=>exact(zFl l _ bu (.inl ⟨k,rfl⟩)).elim
 |revS k n=>exact(zFl l _ bu (.inr ⟨k,n,rfl⟩)).elim
 |_=>rfl
def zRI{al:Bool}{before:List DI}{k i:Nat}{it:DI}{G:Option (List AV)}(l:cDI P nt ops pt al before k i=Dc (it,G)):∃o,ops[i]? = Dc o/\it.idx=i/\
  ((G=none/\ti P nt ops o=Dc it.toII)\/∃A,G=Dc A/\it.op.revK=Dc k/\Laid P it.op o.op k A/\it.q=DF/\it.dst=o.dst/\(∀d,it.dst=Dc d->d<nt)/\zAr ops o.guard=Dc it.guard):=by
 simp only[cDI,YJ]at l;obtain⟨o,E,l⟩:=l;have u:∀{C:Option Nat},dstOk nt C=DF->∀d,C=Dc d->d<nt:=λ{C} hd d u=>by
  rw[u]at hd;simpa [dstOk]using hd
 split at l
 .rename_i len zs K;simp only[YJ]at l;obtain⟨g,D,l⟩:=l;split at l
  .rename_i hd;cases l;exact⟨o,E,rfl,.inr ⟨zs,rfl,rfl,zPm K k,rfl,rfl,u hd,D⟩⟩
  .cases l
 .split at l
  .rename_i t I;simp only[YJ]at l;obtain⟨g,D,l⟩:=l;split at l
   .rename_i hd;simp only[YJ,YK,Y7]at l;obtain⟨z,⟨M,H,L⟩,A,J,rfl,rfl⟩:=l;exact⟨o,E,rfl,.inr ⟨A,rfl,rfl,.inl ⟨t,M,z,rfl,I,H,L,J⟩,rfl,rfl,u hd,D⟩⟩
   .cases l
  .simp only[YK,Y7]at l;obtain⟨O,N,rfl,rfl⟩:=l;exact⟨o,E,rfl,.inl ⟨rfl,N⟩⟩
def zEl{al:Bool}:∀(order:List Nat) (before:List DI) (k:Nat) {A:List DI} {E:List (List AV)},cDIs P nt ops pt al order before k=Dc (A,E)->∀pre:List (List AV),pre.length=k->
  (∀it∈A,From P nt ops (pre++E) it/\∀m,it.op.revK=Dc m->k<=m)/\A.Pairwise λq p=>∀m C,q.op.revK=Dc m->p.op.revK=Dc C->m≠C
 |[],before,k,A,E,u,pre,hp=>by
  cases u;exact⟨λit G=>(Ym G).elim,.nil⟩
 |i::r,before,k,A,E,u,pre,hp=>by
  simp only[cDIs,YJ]at u;obtain⟨⟨it,oz⟩,G,u⟩:=u;obtain⟨o,L,rfl,R⟩:=zRI G;rcases R with ⟨rfl,N⟩|⟨O,rfl,H,kB,Z,T,V,Y⟩
  .simp only[YK,Y7]at u;obtain⟨⟨S,U⟩,J,rfl,rfl⟩:=u;obtain⟨D,I⟩:=zEl r _ k J pre hp;have K:=zNm N;refine⟨λx hx=>?_,?_⟩
   .rcases YH.1 hx with rfl|hx
    .exact⟨⟨o,L,.inl ⟨N,K⟩⟩,λm l=>by rw[K]at l;cases l⟩
    .exact D x hx
   .exact .cons (λx hx m C l M=>by rw[K]at l;cases l) I
  .simp only[YK,Y7]at u;obtain⟨⟨S,U⟩,J,rfl,rfl⟩:=u;obtain⟨D,I⟩:=zEl r _ (k+1) J (pre++[O]) (by simp[hp]);refine⟨λx hx=>?_,?_⟩
   .rcases YH.1 hx with rfl|hx
    .refine⟨⟨o,L,.inr ⟨k,O,H,?_,kB,Z,T,V,Y⟩⟩,λm l=>by rw[H]at l;cases l;exact na _⟩;simp[<-hp]
    .obtain⟨W,X⟩:=D x hx;refine⟨by simpa using W,λm l=>?_⟩
     have:=X m l
     omega
   .refine .cons (λx hx m C l M=>?_) I
    have:=(D x hx).2 C M
    rw[H]at l;cases l;omega
def zQx(m:MR B w0 j h w){e:Env}{a:Act}(r:ER nt j e a){op:qk}{o:Oper}{k:Nat}{O:List AV}(D:Laid P op o.op k O)(W:j (nb+k)=none)(U:h.bt (nb+k)=Dc ⟨DF,O⟩){v:AV}(X:qv nb op e h=Dc v):
  ∃(cur:Array Value) (ty:TypeId) (val:Value),(execOp a.eval o).run P w=.ok (.value val) (w.alloc (.cells cur ty))/\MR B w0 (j.put (nb+k) ⟨w.heap.size,0,0⟩) h (w.alloc (.cells cur ty))/\j.le (j.put (nb+k) ⟨w.heap.size,0,0⟩)/\VI (j.put (nb+k) ⟨w.heap.size,0,0⟩) v val:=by
 rcases D with ⟨t,i,z,rfl,G,Z,N,dX⟩|⟨t,et,i,z,zs,len,u,A,rfl,G,E,L,N,dy,J,an,Fi,jd,S,V⟩
 .cases X;obtain⟨H,R⟩:=qa (j:=j) dX;obtain⟨M,hle⟩:=m.reveal (ty:=t) (cur:=z.cells) U W R H;exact⟨_,_,_,by simp[execOp,G,Instr.alloc,zeroValue,typeInfo,Z,N,newVar,newRow],M,hle,⟨⟨w.heap.size,0,0⟩,by simp[gz.put],rfl⟩⟩
 .cases X;obtain⟨H,R⟩:=qa (j:=j) dy;have D:=H.length;have jO:z.cells.toList≠[]:=by intro x;rw[x]at D;simp at D;rw[D]at J;simp at J;omega
  have gj:((Array.range (len*i.size)).map (z.cells[· % z.cells.size]!)).toList=(Ep len z.cells.toList).flatten:=by
   have:=QK z.cells.toList jO len
   rw[<-D,J]at this;simpa [madeCells]using this
  have xo:(A.map λp=>(p.1,p.2.1,p.2.2.ev (λ_=>AV.undef)))=A.map λp=>(p.1,p.2.1,p.2.2.ev e):=by
   rw[D2]at S;refine EA λp C=>?_;rw[IX.ev_congr (x:=p.2.2) (e:=λ_=>AV.undef) (e':=e) λt E=>by
    have:=S p C
    rw[List.isEmpty_iff]at this;rw[this]at E;cases E]
  rw[xo]at V;have jW:∀{u:List (Nat×Operand)} {A:List (Nat×Nat×IX)},zAs i.size u=Dc A->u.length=(A.map λp=>(p.1,p.2.1,p.2.2.ev e)).length/\
    ∀(k:Nat) (p:Nat×Operand) (q:Nat×Nat×AV),u[k]? = Dc p->(A.map λq=>(q.1,q.2.1,q.2.2.ev e))[k]? = Dc q->(Dc (p.1*i.size,i.size))=Dc (q.1,q.2.1)/\VI j q.2.2 (a.eval p.2):=by
   intro u
   induction u with
   |nil=>intro A l;cases l;exact⟨rfl,λk p q C=>by simp at C⟩
   |cons p u ih=>
    intro A l;obtain⟨n,x⟩:=p;simp only[zAs,YJ]at l;obtain⟨ix,hx,DQ,mK,l⟩:=l;cases l;obtain⟨Y,i2⟩:=ih mK;refine⟨by simp at Y ⊢;exact Y,λk p q C l=>?_⟩;cases k with
    |zero=>simp at C l;subst C;subst l;exact⟨rfl,zP r hx⟩
    |succ k=>exact i2 k p q (by simpa using C) (by simpa using l)
  obtain⟨p1,p2⟩:=jW jd;obtain⟨res,I,r1,r2⟩:=zAn (place:=λk=>Dc (k*i.size,i.size)) u.toList _ (iU zs len) ((Array.range (len*i.size)).map (z.cells[· % z.cells.size]!)) a.eval O
   (by rw[gj];exact H.replicate len) (zCO R len) V p1 p2
  obtain⟨M,hle⟩:=m.reveal (ty:=et) (cur:=res) U W r2 r1;have mX:¬(16777216<len*i.size):=af
  have T:(u.map λ(i,x)=>(i,a.eval x)).toList=u.toList.map λp=>(p.1,a.eval p.2):=aK
  refine⟨_,_,.slice (Dc ⟨w.heap.size,0,none⟩) len len,?_,M,hle,⟨⟨w.heap.size,0,0⟩,_,by simp[gz.put],rfl,.inl rfl⟩⟩;by_cases K:len*i.size=0
  .have:((Array.range (len*i.size)).map (z.cells[· % z.cells.size]!)) = #[]:=by rw[K];simp[Array.range_zero']
   rw[this]at I;simp[execOp,G,Instr.buildSlice,run_underlying E,zo L,K,T,I,newRow,Array.range_zero']
  .simp[execOp,G,Instr.buildSlice,run_underlying E,zo L,K,mX,T,I,newRow,zeroValue,typeInfo,L,N]
def zP9(m:MR B w0 j h w)(r:ER nt j e a){k:Nat}{o:Oper}{it:II}{J:List AV}{idx:Nat}(D:ops[idx]? = Dc o)(O:Laid P it.op o.op k J)(hd:it.dst=o.dst)(A:∀d,it.dst=Dc d->d<nt)(M:zAr ops o.guard=Dc it.guard)
  (N:j (nb+k)=none) (L:h.bt (nb+k)=Dc ⟨DF,J⟩) {v:AV} (l:gq nb it e h=Dc v)
  {next:Act->World->Prop} (E:∀u a' I,j.le u->(∀o,o≠nb+k->u o=j o)->MR B w0 u h I->ER nt u (e.put it.dst v) a'->next a' I):wpOp P ops Q idx next a w:=by
 obtain⟨w1,w2,U⟩:=zD5 r M;have run:qv nb it.op e h=Dc v->Region.wanted o (yielded ops a.tmps)=DF->wpOp P ops Q idx next a w:=by
  intro l hw;obtain⟨cur,ty,val,S,R,hle,T⟩:=zQx m r O N L l;unfold wpOp;simp only[D,hw,if_true];refine .inl ?_;unfold Oper.wp;rw[S];refine E _ _ _ hle (λV K=>by simp[gz.put,K]) R ?_;rw[<-hd];exact(r.mono hle).put A T
 unfold gq at l;split at l
 .exact run l (w1 (by assumption))
 .rename_i t b H;split at l
  .rename_i c C;have hw:=w2 t b c H C;split at l
   .rename_i G;exact run l (by rw[hw];simpa using G)
   .rename_i G;cases l;unfold wpOp
    have:Region.wanted o (yielded ops a.tmps)=false:=by rw[hw];simpa using G
    simp only[D,this,EB,if_false];exact E j _ w (gz.le.refl _) (λ_ _=>rfl) m (by rw[<-hd];exact r.put A zBq)
  .rename_i C;cases l;unfold wpOp;simp only[D,U t b H C,EB,if_false];exact E j _ w (gz.le.refl _) (λ_ _=>rfl) m (by rw[<-hd];exact r.put A zBq)
  .cases l
def QS(l:Array Bool)(i x:Nat):(l.setIfInBounds i DF).getD x DF=(if x=i then DF else l.getD x DF):=by
 simp only[D0,Array.getElem?_setIfInBounds];by_cases u:x=i
 .subst u;by_cases A:x<l.size
  .simp[A]
  .simp[A]
 .rw[DL (λy=>u y.symm),DL u]
def zKJ{K:Env->ct->Prop}{js:gz}{hs:ct}(H5:nb=hs.aM)(cJ:Cf ops pt=DF)
  (hn:∀D h' e' a' L,FR js hs D h'->MR B w0 D h' L->ER nt D e' a'->K e' h'->Q .normal a' L):
  ∀(fuel:Nat) (l:Array Bool) (rem:List DI) {j:gz} {h:ct} {w:World} {e:Env} {a:Act} {recs:List Rec},rem.length=fuel->l.size=ops.size->
   (∀i,i<ops.size->(l.getD i DF=false↔∃it∈rem,it.idx=i))->
   rem.Pairwise (λq p=>zBM pt q p=DF)->rem.Pairwise (λq p=>(!(pt.getD q.idx []).contains p.idx)=DF)->(rem.map (·.idx)).Nodup->rem.Pairwise (λq p=>∀m J,q.op.revK=Dc m->p.op.revK=Dc J->m≠J)->
   (∀i,i<ops.size->l.getD i DF=DF->∀x∈pt.getD i [],l.getD x DF=DF)->
   (∀it∈rem,From P nt ops zs it)->
   (∀it∈rem,∀k,it.op.revK=Dc k->nb+k<h.aM/\j (nb+k)=none/\∃z,zs[k]? = Dc z/\h.bt (nb+k)=Dc ⟨DF,z⟩)->
   MR B w0 j h w->ER nt j e a->DV P nb rem recs e h K->FR js hs j h->wpAny P .any ops Q fuel l a w
 |0,l,rem,j,h,w,e,a,recs,hlen,dI,jT,_,_,_,_,_,_,_,m,r,I,hf=>by
  have:rem=[]:=YU hlen
  subst this;refine⟨?_,hn j h e a w hf m r I⟩;unfold Region.ready;rw[List.filter_eq_nil_iff];intro i N;have fJ:i<ops.size:=by simpa using N
  have:l.getD i DF=DF:=by
   cases hl:l.getD i DF with
   |true=>rfl
   |false=>obtain⟨x,hx,_⟩:=(jT i fJ).1 hl;cases hx
  rw[this];simp
 |fuel+1,l,rem,j,h,w,e,a,recs,hlen,dI,jT,iL,mM,lU,uw,bJ,gn,ky,m,r,I,hf=>by
  have Ce:∀i o,ops[i]? = Dc o->i∉pt.getD i []/\(∀d∈qg o,d<ops.size/\d∈pt.getD i [])/\∀x∈pt.getD i [],x∈qg o\/∃d∈qg o,x∈pt.getD d []:=by
   intro i o A;have N:i<ops.size:=(Yp.1 A).1;unfold Cf at cJ;rw[D2]at cJ
   have:=cJ i (by simpa using N)
   simp only[A,Yo,D2,List.any_eq_true,FX,Uv,beq_iff_eq,decide_eq_true_eq]at this;refine⟨λhx=>?_,λd hd=>⟨(this.1.2 d hd).1,by simpa using (this.1.2 d hd).2⟩,λx hx=>?_⟩
   .have u:=this.1.1;rw[List.contains_iff_mem.2 hx]at u;cases u
   obtain⟨d,hd,hx⟩:=this.2 x hx;rcases hx with rfl|hx
   .exact .inl hd
   .exact .inr ⟨d,hd,by simpa using hx⟩
  have yi:∀{q p:DI},(!(pt.getD q.idx []).contains p.idx)=DF->p.idx∉pt.getD q.idx []:=by
   intro q p hc hx;rw[List.contains_iff_mem.2 hx]at hc;cases hc
  refine⟨λue=>?_,λi N=>?_⟩
  ·-- vT is always ready
   exfalso;cases rem with
   |nil=>simp at hlen
   |cons p rest=>
    obtain⟨o,A,_⟩:=gn p aK;have ah:p.idx<ops.size:=(Yp.1 A).1;have je:l.getD p.idx DF=false:=(jT p.idx ah).2 ⟨p,aK,rfl⟩;have cH:p.idx∈Region.ready .any ops l:=by
     unfold Region.ready;rw[F8];refine⟨by simpa using ah,?_⟩;rw[je,A];simp only[Bool.not_false,EF,F9,Bool.true_and,Gt];intro H Y;cases M:Region.binds .any H with
     |false=>rfl
     |true=>
      have FV:H.on∈qg o:=by
       unfold qg;rw[YI];exact⟨H,by simp[Y,M],rfl⟩
      obtain⟨Fz,pJ⟩:=(Ce p.idx o A).2.1 _ FV;simp only[Bool.not_true,Bool.false_or]
      have:l.getD H.on DF=DF:=by
       cases hl:l.getD H.on DF with
       |true=>rfl
       |false=>
        obtain⟨q,hq,HY⟩:=(jT _ Fz).1 hl;rcases YH.1 hq with rfl|hq
        .rw[<-HY]at pJ;exact absurd pJ (Ce q.idx o A).1
        .rw[<-HY]at pJ;exact absurd pJ (yi ((List.pairwise_cons.1 mM).1 q hq))
      simp only[D0]at this ⊢;rw[GB af]at this ⊢;exact this
    rw[ue]at cH;cases cH
  .unfold Region.ready at N;rw[F8]at N;obtain⟨CI,V⟩:=N;have ah:i<ops.size:=by simpa using CI
   simp only[Yo,FX]at V;obtain⟨aR,V⟩:=V;obtain⟨p,hp,rfl⟩:=(jT i ah).1 aR;obtain⟨o,A,bu⟩:=gn p hp;rw[A]at V;simp only[EF,F9,Gt]at V;have eR:∀d∈qg o,l.getD d DF=DF:=by
    intro d hd;unfold qg at hd;rw[YI]at hd;obtain⟨H,Y,rfl⟩:=hd;rw[F8]at Y
    have:=V H (by simpa using Y.1)
    rw[Y.2]at this;simp only[Bool.not_true,Bool.false_or]at this;simp only[D0]at this ⊢;cases hx:l[H.on]? with
    |none=>rfl
    |some x=>rw[hx]at this;exact this
   have ai:∀x∈pt.getD p.idx [],l.getD x DF=DF:=by
    intro x hx;rcases(Ce p.idx o A).2.2 x hx with hd|⟨d,hd,hx⟩
    .exact eR x hd
    .exact bJ d ((Ce p.idx o A).2.1 d hd).1 (eR d hd) x hx
   obtain⟨C,E,rfl⟩:=List.append_of_mem hp;have G:(C++E).Sublist (C++p::E):=(List.sublist_cons_self p E).append_left C;have M:∀q∈C,apart q.toII p.toII=DF/\q.q=DF/\(p.q=DF\/(q.op.isLoad=DF->p.chk.contains q.idx=DF)):=by
    intro q hq;have u:=(GG.1 iL).2.2 q hq p aK;have h2:q.idx∉pt.getD p.idx []:=by
     intro hx
     have:=ai _ hx
     obtain⟨oq,LO,_⟩:=gn q (by simp[hq]);rw[(jT q.idx (Yp.1 LO).1).2 ⟨q,by simp[hq],rfl⟩]at this;cases this
    unfold zBM at u;simp only[Uv,Yo,FX]at u;rcases u with u|⟨⟨u,h3⟩,h4⟩
    .exact absurd (List.contains_iff_mem.1 u) h2
    .refine⟨u,h3,?_⟩;rcases h4 with (h4|h4)|h4
     .exact .inl h4
     .exact .inr λx=>by rw[x]at h4;cases h4
     .exact .inr λ_=>h4
   -- JS is left behind this step
   have cn:(C++E).length=fuel:=by simp at hlen ⊢;omega
   have Fb:(C++E).Pairwise λq p=>q.idx≠p.idx:=by
    have:=(List.Nodup.sublist (G.map (·.idx)) lU)
    rw[List.Nodup,GF]at this;exact this
   have E2:∀q∈C++E,q.idx≠p.idx:=by
    intro q hq he;have u:(C++p::E).Pairwise λq p=>q.idx≠p.idx:=by
     rw[List.Nodup,GF]at lU;exact lU
    rw[GG]at u;rcases YY.1 hq with hq|hq
    .exact u.2.2 q hq p aK he
    .exact(List.pairwise_cons.1 u.2.1).1 q hq he.symm
   have yQ:∀k,k<ops.size->((l.setIfInBounds p.idx DF).getD k DF=false↔∃it∈C++E,it.idx=k):=by
    intro k I;rw[QS];by_cases S:k=p.idx
    .subst S;rw[DK rfl];exact⟨λx=>(Bool.noConfusion x),λ⟨q,hq,he⟩=>absurd he (E2 q hq)⟩
    .rw[DL S,jT k I];constructor
     .rintro⟨q,hq,rfl⟩
      simp only[YY,YH]at hq;rcases hq with hq|rfl|hq
      .exact⟨q,by simp[hq],rfl⟩
      .exact absurd rfl S
      .exact⟨q,by simp[hq],rfl⟩
     .rintro⟨q,hq,rfl⟩
      exact⟨q,G.subset hq,rfl⟩
   have FZ:∀k,k<ops.size->(l.setIfInBounds p.idx DF).getD k DF=DF->∀x∈pt.getD k [],(l.setIfInBounds p.idx DF).getD x DF=DF:=by
    intro k I fO x hx;rw[QS]at fO ⊢;split
    .rfl
    .by_cases S:k=p.idx
     .subst S;exact ai x hx
     .rw[DL S]at fO;exact bJ k I fO x hx
   have go:∀{D:gz} {h':ct} {L:World} {e':Env} {a':Act} {aV:List Rec},(∀it∈C++E,∀k,it.op.revK=Dc k->nb+k<h'.aM/\D (nb+k)=none/\∃z,zs[k]? = Dc z/\h'.bt (nb+k)=Dc ⟨DF,z⟩)->
     MR B w0 D h' L->ER nt D e' a'->DV P nb (C++E) aV e' h' K->FR js hs D h'->wpAny P .any ops Q fuel (l.setIfInBounds p.idx DF) a' L:=by
    intro D h' L e' a' aV ur J O T U;exact zKJ H5 cJ hn fuel _ (C++E) cn (by simpa using dI) yQ (iL.sublist G) (mM.sublist G) (by rw[List.Nodup,GF];exact Fb) (uw.sublist G) FZ
     (λit bw=>gn it (G.subset bw)) ur J O T U
   cases hq:p.q with
   |true=>
    obtain⟨v,hv,T⟩:=zFh hq C (λq R=>⟨(M q R).2.1,(M q R).1⟩) I;rcases bu with ⟨xq,_⟩|⟨k,z',dJ,dy,kB,_,hd,aq,hg⟩
    .exact yD m r A xq hq hv λa' O=>go (λit bw=>ky it (G.subset bw)) m O T hf
    .obtain⟨g1,g2,zz,g3,g4⟩:=ky p aK k dJ;rw[dy]at g3;cases g3;refine zP9 m r A kB hd aq hg g2 g4 hv ?_;intro D a' L hle gE J O;refine go (λit bw W X=>?_) J O T ?_
     .obtain⟨Z,q2,q3⟩:=ky it (G.subset bw) W X;refine⟨Z,?_,q3⟩;have an:W≠k:=by
       rw[GG]at uw;rcases YY.1 bw with bw|bw
       .exact uw.2.2 it bw p aK W k X dJ
       .exactλx=>(List.pairwise_cons.1 uw.2.1).1 it bw k W dJ X x.symm
      rw[gE _ af];exact q2
     .refine⟨hf.aM,λo' dc=>?_,hf.pend⟩;rw[gE _ af];exact hf.inj o' dc
   |false=>
    have T:=zIR hq C (λq R=>⟨(M q R).2.1,(M q R).1,by
     rcases(M q R).2.2 with x|x
     .rw[hq]at x;cases x
     .exact x⟩) I
    rcases bu with ⟨xq,_⟩|⟨k,z',dJ,dy,kB,xc,_⟩
    .refine zGD m r A xq hq T ?_;intro v h' D a' L U J O Fq;refine go (λit bw W X=>?_) J O Fq.2 (hf.trans U);obtain⟨Z,q2,z,q3,q4⟩:=ky it (G.subset bw) W X;exact⟨Yw Z U.aM,(U.inj _ Z).trans q2,z,q3,(U.pend _ Z q2).trans q4⟩
    .rw[hq]at xc;cases xc
end
section
open Go.RowKit
inductive OT where
 |done
 |none
 |q (it:DI) (next:OT)
 |e (it:DI) (next alt:OT)
def TV(P:Program):OT->List Rec->Env->ct->(Env->ct->Prop)->Prop
 | .done,_,e,h,K=>K e h
 | .none,_,_,_,_=>True
 | .q it nx,recs,e,h,K=>fw (gq 0 it.toII e h) λv=>TV P nx (tj it e v++recs) (e.put it.dst v) h K
 | .e it nx alt,recs,e,h,K=>(ge P it.toII e h λv h'=>oc it.chk recs h'/\TV P nx recs (e.put it.dst v) h' K)/\TV P alt recs e h K
def tchk(pt:List (List Nat))(before:List DI)(q:Bool)(i:Nat):List Nat:=if q=DF then []else(before.filter λq=>q.op.isLoad && !(pt.getD i []).contains q.idx).map (·.idx)
def tdi(P:Program)(nt:Nat)(ops:Array Oper)(pt:List (List Nat))(before:List DI)(i:Nat):Option DI:=
 (ops[i]?).bind λo=>(ti P nt ops o).bind λit=>if before.all (λq=>zBM pt q ⟨it,i,tchk pt before it.q i⟩)=DF then Dc ⟨it,i,tchk pt before it.q i⟩else none
def mkT(P:Program)(nt:Nat)(ops:Array Oper)(pt:List (List Nat)):Nat->Array Bool->List DI->Option OT
 |0,aF,_=>if (Region.ready .any ops aF).isEmpty=DF then Dc .done else none
 |fuel+1,aF,before=>if (Region.ready .any ops aF).isEmpty=DF then Dc .done else
  match (Region.ready .any ops aF).find? (λi=>match ops[i]? with|some o=>(copQ P o.op).isSome|none=>false)with
  |some i=>(tdi P nt ops pt before i).bind λd=>if d.q=DF then(mkT P nt ops pt fuel (aF.setIfInBounds i DF) (before++[d])).map λnx=>.q d nx else none
  |none=>(Region.ready .any ops aF).foldr (λi acc=>(tdi P nt ops pt before i).bind λd=>if d.q=false then(mkT P nt ops pt fuel (aF.setIfInBounds i DF) before).bind λnx=>acc.map λalt=>.e d nx alt else none) (Dc .none)
variable{P:Program}{B:Nat}{w0 w:World}{j:gz}{h h':ct}{nt:Nat}{e e':Env}{a:Act}{ops:Array Oper}{pt:List (List Nat)}
def TV.sub:∀(t:OT) {recs u:List Rec} {e:Env} {h:ct} {K:Env->ct->Prop},(∀r∈u,r∈recs)->TV P t recs e h K->TV P t u e h K
 | .done,_,_,_,_,_,_,l=>l
 | .none,_,_,_,_,_,_,l=>trivial
 | .q it nx,recs,u,e,h,K,hs,l=>by
  obtain⟨v,C,l⟩:=l;refine⟨v,C,TV.sub nx (λx A=>?_) l⟩;simp only[YY]at A ⊢;exact A.imp id (hs x)
 | .e it nx alt,recs,u,e,h,K,hs,l=>⟨zA5 (λv h' l=>⟨l.1.sub hs,TV.sub nx hs l.2⟩) l.1,TV.sub alt hs l.2⟩
def QV:List DI->List Rec->Env->ct->(List Rec->Env->Prop)->Prop
 |[],recs,e,_,K=>K recs e
 |it::r,recs,e,h,K=>fw (gq 0 it.toII e h) λv=>QV r (tj it e v++recs) (e.put it.dst v) h K
def SubK(K:List Rec->Env->Prop):Prop:=∀recs l e,(∀r∈l,r∈recs)->K recs e->K l e
def QV.sub{K:List Rec->Env->Prop}(C:SubK K):∀(l:List DI) {recs A:List Rec} {e:Env} {h:ct},(∀r∈A,r∈recs)->QV l recs e h K->QV l A e h K
 |[],_,_,_,_,hs,u=>C _ _ _ hs u
 |it::r,recs,A,e,h,hs,u=>by
  obtain⟨v,E,u⟩:=u;refine⟨v,E,QV.sub C r (λx D=>?_) u⟩;simp only[YY]at D ⊢;exact D.imp id (hs x)
def QV.mono{K K':List Rec->Env->Prop}(A:∀recs e,K recs e->K' recs e):∀(l:List DI) {recs:List Rec} {e:Env} {h:ct},QV l recs e h K->QV l recs e h K'
 |[],_,_,_,u=>A _ _ u
 |it::r,recs,e,h,u=>by
  obtain⟨v,C,u⟩:=u;exact⟨v,C,QV.mono A r u⟩
def QV.append{K:List Rec->Env->Prop}:∀(l m:List DI) {recs:List Rec} {e:Env} {h:ct},QV l recs e h (λrecs e=>QV m recs e h K)->QV (l++m) recs e h K
 |[],m,_,_,_,u=>u
 |it::r,m,recs,e,h,u=>by
  obtain⟨v,A,u⟩:=u;exact⟨v,A,QV.append r m u⟩
def QV.front{K:List Rec->Env->Prop}(C:SubK K){p:DI}{E:List DI}:∀(u:List DI) {recs:List Rec} {e:Env} {h:ct},(∀q∈u,apart q.toII p.toII=DF)->
  QV (u++p::E) recs e h K->∃v,gq 0 p.toII e h=Dc v/\QV (u++E) (tj p e v++recs) (e.put p.dst v) h K
 |[],recs,e,h,_,l=>l
 |q::u,recs,e,h,ha,l=>by
  obtain⟨G,H,L⟩:=ui (ha q aK);obtain⟨A,J,l⟩:=l;obtain⟨v,D,l⟩:=QV.front C u (λx I=>ha x (by simp[I])) l;rw[zA4 (G e A)]at D;refine⟨v,D,A,by rw[zA4 (H e v)];exact J,?_⟩;rw[Ql (G e A)]at l;dsimp only;rw[Ql (H e v),<-L];refine QV.sub C _ (λr hr=>?_) l;simp only[YY]at hr ⊢;rcases hr with hr|hr|hr
  .exact .inr (.inl hr)
  .exact .inl hr
  .exact .inr (.inr hr)
def zPV{q p:DI}{v A:AV}{recs:List Rec}(C:∀(e:Env) v,∀t∈q.reads,(e.put p.dst v) t=e t)(H:q.op.isLoad=DF->p.chk.contains q.idx=DF)(L:gq 0 q.toII e h=Dc A)(K:oc p.chk (tj q e A++recs) h'):
  gq 0 q.toII (e.put p.dst v) h'=Dc A:=by
 have E:gq 0 q.toII (e.put p.dst v) h=Dc A:=by rw[zA4 (C e v)];exact L
 rw[<-E];cases hl:q.op.isLoad with
 |false=>
  unfold gq;simp only[zL1 (nb:=0) (e:=e.put p.dst v) (h:=h') (h':=h) hl]
 |true=>
  cases bu:q.op with
  |load agg n x=>
   have D:x.ev (e.put p.dst v)=x.ev e:=IX.ev_congr λt J=>C e v t (II.reads_op (by rw[bu];exact J));cases hw:Zn q.guard e with
   |true=>
    have G:=zBa.1 K ⟨q.idx,agg,n,x.ev e,A⟩ (by simp[tj,bu,hw]) (H hl);rw[E];unfold gq;rw[<-Qc (e:=e.put p.dst v) (C e v)]at hw;unfold Zn at hw;split
    .show qv 0 q.op _ _=_;rw[bu];simp only[qv,D];exact G
    .rename_i t b u;rw[u]at hw;simp only at hw;split at hw
     .rename_i c l;rw[l];simp only;rw[DK (by simpa using hw)];show qv 0 q.op _ _=_;rw[bu];simp only[qv,D];exact G
     .cases hw
   |false=>
    rw[<-Qc (e:=e.put p.dst v) (C e v)]at hw;unfold gq;unfold Zn at hw;split
    .rename_i u;rw[u]at hw;cases hw
    .rename_i t b u;rw[u]at hw;simp only at hw;split at hw
     .rename_i c l;rw[l];simp only;rw[DL (by simpa using hw),DL (by simpa using hw)]
     .rename_i I;split
      .rename_i c l;exact absurd l (I c)
      .rfl
      .rfl
  |_=>rw[bu]at hl;cases hl
def QV.frontE{K':List Rec->Env->ct->Prop}{p:DI}:∀(u:List DI) {recs:List Rec} {e:Env} {h:ct},
  (∀q∈u,apart q.toII p.toII=DF/\(q.op.isLoad=DF->p.chk.contains q.idx=DF))->
  QV u recs e h (λrecs e=>ge P p.toII e h λv h'=>oc p.chk recs h'/\K' recs (e.put p.dst v) h')->
  ge P p.toII e h λv h'=>oc p.chk recs h'/\QV u recs (e.put p.dst v) h' (λrecs e=>K' recs e h')
 |[],recs,e,h,_,l=>l
 |q::u,recs,e,h,ha,l=>by
  obtain⟨G,E⟩:=ha q aK;obtain⟨K,C,L⟩:=ui G;obtain⟨D,J,l⟩:=l
  have:=QV.frontE u (λx I=>ha x (by simp[I])) l
  refine zA5 (λv h' l=>?_) (zJ6 (K e D) this);obtain⟨A,l⟩:=l;refine⟨A.sub λr H=>List.mem_append_right _ H,D,zPV C E J A,?_⟩;dsimp only;rw[Ql (C e v),<-L];exact l
def zFk{o:Oper}{d:Nat}:d∈qg o↔∃l∈o.after,Region.binds .any l=DF/\l.on=d:=by
 unfold qg;rw[YI];constructor
 .rintro⟨l,u,rfl⟩
  rw[F8]at u;exact⟨l,by simpa using u.1,u.2,rfl⟩
 .rintro⟨l,A,C,rfl⟩
  exact⟨l,by rw[F8];exact⟨by simpa using A,C⟩,rfl⟩
def zAd{l:Array Bool}{i:Nat}(A:i∈Region.ready .any ops l):∃o,ops[i]? = Dc o/\l.getD i DF=false/\∀d∈qg o,l.getD d DF=DF:=by
 unfold Region.ready at A;rw[F8]at A;obtain⟨E,u⟩:=A;have G:i<ops.size:=by simpa using E
 have D:ops[i]? = Dc ops[i]:=GB G;rw[D]at u;simp only[Yo,FX,EF,F9,Gt]at u;refine⟨_,D,u.1,λd hd=>?_⟩;obtain⟨C,H,I,rfl⟩:=zFk.1 hd
 have:=u.2 C H
 rw[I]at this;simp only[Bool.not_true,Bool.false_or]at this;simp only[D0]at this ⊢;cases hx:l[C.on]? with
 |none=>rfl
 |some x=>rw[hx]at this;exact this
def zFs{l:Array Bool}{i:Nat}{o:Oper}(A:ops[i]? = Dc o)(D:l.getD i DF=false)(E:∀d∈qg o,d<l.size/\l.getD d DF=DF):i∈Region.ready .any ops l:=by
 unfold Region.ready;rw[F8];have C:i<ops.size:=(Yp.1 A).1;refine⟨by simpa using C,?_⟩;rw[D,A];simp only[Bool.not_false,EF,F9,Bool.true_and,Gt];intro u H;cases hb:Region.binds .any u with
 |false=>rfl
 |true=>
  obtain⟨G,this⟩:=E u.on (zFk.2 ⟨u,H,hb,rfl⟩);simp only[Bool.not_true,Bool.false_or];simp only[D0]at this ⊢;rw[GB G]at this ⊢;exact this
structure yk(P:Program)(nt:Nat)(ops:Array Oper)(pt:List (List Nat))(cl al:Array Bool)(l before:List DI):Prop where
 cs:cl.size=ops.size
 as:al.size=ops.size
 ao:∀i,i<ops.size->(al.getD i DF=DF↔cl.getD i DF=DF\/i∈l.map (·.idx))
 lc:∀q∈l,cl.getD q.idx DF=false
 fr:∀q∈l,∃o,ops[q.idx]? = Dc o/\ti P nt ops o=Dc q.toII
 qu:∀q∈l,q.q=DF
 pw:l.Pairwise λq p=>zBM pt q p=DF
 nd:(l.map (·.idx)).Nodup
 sb:∀q∈l,q∈before
 cc:∀i,i<ops.size->cl.getD i DF=DF->∀x∈pt.getD i [],cl.getD x DF=DF
 ac:∀i,i<ops.size->al.getD i DF=DF->∀x∈pt.getD i [],al.getD x DF=DF
 or:l.Pairwise λq p=>p.idx∉pt.getD q.idx []
def zFo{before:List DI}{i:Nat}{d:DI}(hd:tdi P nt ops pt before i=Dc d):∃o,ops[i]? = Dc o/\ti P nt ops o=Dc d.toII/\d.idx=i/\∀q∈before,zBM pt q d=DF:=by
 simp only[tdi,YJ]at hd;obtain⟨o,A,it,u,hd⟩:=hd;split at hd
 .rename_i l;cases hd;exact⟨o,A,u,rfl,D2.1 l⟩
 .cases hd
def Qt(l:Cf ops pt=DF):∀i o,ops[i]? = Dc o->i∉pt.getD i []/\(∀d∈qg o,d<ops.size/\d∈pt.getD i [])/\∀x∈pt.getD i [],x∈qg o\/∃d∈qg o,x∈pt.getD d []:=by
 intro i o u;have A:i<ops.size:=(Yp.1 u).1;unfold Cf at l;rw[D2]at l
 have:=l i (by simpa using A)
 simp only[u,Yo,D2,List.any_eq_true,FX,Uv,beq_iff_eq,decide_eq_true_eq]at this;refine⟨λhx=>?_,λd hd=>⟨(this.1.2 d hd).1,by simpa using (this.1.2 d hd).2⟩,λx hx=>?_⟩
 .have h1:=this.1.1;rw[List.contains_iff_mem.2 hx]at h1;cases h1
 obtain⟨d,hd,hx⟩:=this.2 x hx;rcases hx with rfl|hx
 .exact .inl hd
 .exact .inr ⟨d,hd,by simpa using hx⟩
def zDT(D:Cf ops pt=DF){l:Array Bool}(E:∀i,i<ops.size->l.getD i DF=DF->∀x∈pt.getD i [],l.getD x DF=DF){k:Nat}{o:Oper}(G:ops[k]? = Dc o)(hd:∀d∈qg o,l.getD d DF=DF):
  (∀x∈pt.getD k [],l.getD x DF=DF)/\∀i,i<ops.size->(l.setIfInBounds k DF).getD i DF=DF->∀x∈pt.getD i [],(l.setIfInBounds k DF).getD x DF=DF:=by
 have C:∀x∈pt.getD k [],l.getD x DF=DF:=by
  intro x u;rcases(Qt D k o G).2.2 x u with h|⟨d,h,u⟩
  .exact hd x h
  .exact E d ((Qt D k o G).2.1 d h).1 (hd d h) x u
 refine⟨C,λi H A x u=>?_⟩;rw[QS]at A ⊢;split
 .rfl
 .by_cases e:i=k
  .subst e;exact C x u
  .rw[DL e]at A;exact E i H A x u
def yk.push(U:Cf ops pt=DF){E al:Array Bool}{l before:List DI}(v:yk P nt ops pt E al l before){k:Nat}(X:k∈Region.ready .any ops al){d:DI}(hd:tdi P nt ops pt before k=Dc d)(Y:d.q=DF):
  yk P nt ops pt E (al.setIfInBounds k DF) (l++[d]) (before++[d]):=by
 obtain⟨o,G,I,V⟩:=zAd X;obtain⟨Z,K,T,D,R⟩:=zFo hd;rw[G]at K;cases K;have O:k<ops.size:=(Yp.1 G).1;have L:¬(E.getD k DF=DF\/k∈l.map (·.idx)):=λx=>by
  rw[(v.ao k O).2 x]at I;cases I
 have S:E.getD k DF=false:=by
  cases hc:E.getD k DF with
  |false=>rfl
  |true=>exact absurd (.inl hc) L
 have H:∀{q:DI},q∈l++[d]↔q∈l\/q=d:=λ{q}=>by simp
 refine⟨v.cs,by simpa using v.as,λi W=>?_,λq u=>?_,λq u=>?_,λq u=>?_,?_,?_,λq u=>?_,v.cc,(zDT U v.ac G V).2,?_⟩
 .rw[QS,Yx,YY];by_cases e:i=k
  .rw[DK e];exact⟨λ_=>.inr (.inr (by simp[D,e])),λ_=>rfl⟩
  .rw[DL e,v.ao i W];refine or_congr_right ⟨.inl,λx=>x.elim id λy=>?_⟩;simp only[YE,Ya,YT,D]at y;exact absurd y e
 .rcases H.1 u with u|rfl
  .exact v.lc q u
  .rw[D];exact S
 .rcases H.1 u with u|rfl
  .exact v.fr q u
  .exact⟨o,by rw[D];exact G,T⟩
 .rcases H.1 u with u|rfl
  .exact v.qu q u
  .exact Y
 .rw[GG];refine⟨v.pw,G9 _ _,λa A b C=>?_⟩;rw[YT.1 C];exact R a (v.sb a A)
 .rw[Yx,FQ];refine⟨v.nd,aK,λa A b C e=>?_⟩;simp only[YE,Ya,YT,D]at C;exact L (.inr (by rw[<-C,<-e];exact A))
 .rcases H.1 u with u|rfl
  .exact List.mem_append_left _ (v.sb q u)
  .exact List.mem_append_right _ aK
 .rw[GG];refine⟨v.or,G9 _ _,λa A b C M=>?_⟩;rw[YT.1 C,D]at M;obtain⟨oa,N,_⟩:=v.fr a A;have J:a.idx<ops.size:=(Yp.1 N).1
  have:=v.ac a.idx J ((v.ao _ J).2 (.inr (YI.2 ⟨a,A,rfl⟩))) k M
  rw[I]at this;cases this
def yk.take(M:Cf ops pt=DF){E al:Array Bool}{u C before:List DI}{p:DI}(v:yk P nt ops pt E al (u++p::C) before)(G:p.idx∈Region.ready .any ops E):
  yk P nt ops pt (E.setIfInBounds p.idx DF) al (u++C) before/\∀q∈u,apart q.toII p.toII=DF:=by
 obtain⟨o,I,D,N⟩:=zAd G;have O:p.idx<ops.size:=(Yp.1 I).1;have l:(u++C).Sublist (u++p::C):=(List.sublist_cons_self p C).append_left u;have J:∀q∈u++C,q.idx≠p.idx:=by
  intro q hq H;have D:(u++p::C).Pairwise λq p=>q.idx≠p.idx:=by
   have:=v.nd
   rw[List.Nodup,GF]at this;exact this
  rw[GG]at D;rcases YY.1 hq with hq|hq
  .exact D.2.2 q hq p aK H
  .exact(List.pairwise_cons.1 D.2.1).1 q hq H.symm
 obtain⟨K,L⟩:=zDT M v.cc I N;refine⟨⟨by simpa using v.cs,v.as,λi G=>?_,λq hq=>?_,λq hq=>v.fr q (l.subset hq),λq hq=>v.qu q (l.subset hq),v.pw.sublist l,v.nd.sublist (l.map _),λq hq=>v.sb q (l.subset hq),L,v.ac,v.or.sublist l⟩,λq hq=>?_⟩
 .rw[v.ao i G,QS];by_cases e:i=p.idx
  .rw[DK e];exact⟨λ_=>.inl rfl,λ_=>.inr (YI.2 ⟨p,aK,e.symm⟩)⟩
  .rw[DL e];refine or_congr_right ⟨λx=>?_,λx=>?_⟩
   .obtain⟨q,hq,rfl⟩:=YI.1 x;simp only[YY,YH]at hq;rcases hq with hq|rfl|hq
    .exact YI.2 ⟨q,by simp[hq],rfl⟩
    .exact absurd rfl e
    .exact YI.2 ⟨q,by simp[hq],rfl⟩
   .obtain⟨q,hq,rfl⟩:=YI.1 x;exact YI.2 ⟨q,l.subset hq,rfl⟩
 .rw[QS,DL (J q hq)];exact v.lc q (l.subset hq)
 .have A:=(GG.1 v.pw).2.2 q hq p aK;unfold zBM at A;simp only[Uv,Yo,FX]at A;rcases A with A|⟨⟨A,_⟩,_⟩
  .have:=K _ (List.contains_iff_mem.1 A)
   rw[v.lc q (by simp[hq])]at this;cases this
  .exact A
def yk.eff(D:Cf ops pt=DF){E al:Array Bool}{l before:List DI}(v:yk P nt ops pt E al l before){i:Nat}(L:i∈Region.ready .any ops E)(O:i∉l.map (·.idx)){d:DI}(hd:tdi P nt ops pt before i=Dc d)(S:d.q=false):
  yk P nt ops pt (E.setIfInBounds i DF) (al.setIfInBounds i DF) l before/\∀q∈l,apart q.toII d.toII=DF/\(q.op.isLoad=DF->d.chk.contains q.idx=DF):=by
 obtain⟨o,C,W,G⟩:=zAd L;obtain⟨X,V,U,R,K⟩:=zFo hd;have T:i<ops.size:=(Yp.1 C).1;obtain⟨H,J⟩:=zDT D v.cc C G;have I:∀q∈l,q.idx≠i:=λq A e=>O (YI.2 ⟨q,A,e⟩);refine⟨⟨by simpa using v.cs,by simpa using v.as,λk M=>?_,λq A=>?_,v.fr,v.qu,v.pw,v.nd,v.sb,J,?_,v.or⟩,λq A=>?_⟩
 .rw[QS,QS];by_cases e:k=i
  .rw[DK e,DK e];exact⟨λ_=>.inl rfl,λ_=>rfl⟩
  .rw[DL e,DL e];exact v.ao k M
 .rw[QS,DL (I q A)];exact v.lc q A
 .refine(zDT D v.ac C λd hd=>?_).2;exact(v.ao d ((Qt D i o C).2.1 d hd).1).2 (.inl (G d hd))
 .have u:=K q (v.sb q A);unfold zBM at u;rw[R]at u;simp only[Uv,Yo,FX]at u;rcases u with u|⟨⟨u,_⟩,h4⟩
  .have:=H _ (List.contains_iff_mem.1 u)
   rw[v.lc q A]at this;cases this
  .refine⟨u,λN=>?_⟩;rcases h4 with (h4|h4)|h4
   .rw[S]at h4;cases h4
   .rw[N]at h4;cases h4
   .exact h4
def zMD{fuel:Nat}{C:Array Bool}{before:List DI}:∀(l:List Nat) {t:OT},l.foldr (λi acc=>(tdi P nt ops pt before i).bind λd=>if d.q=false then(mkT P nt ops pt fuel (C.setIfInBounds i DF) before).bind λnx=>acc.map λalt=>OT.e d nx alt else none) (Dc .none)=Dc t->
  ∀i∈l,∃d nx,tdi P nt ops pt before i=Dc d/\d.q=false/\mkT P nt ops pt fuel (C.setIfInBounds i DF) before=Dc nx/\∀(recs:List Rec) (e:Env) (h:ct) (K:Env->ct->Prop),TV P t recs e h K->ge P d.toII e h λv h'=>oc d.chk recs h'/\TV P nx recs (e.put d.dst v) h' K
 |[],t,_,i,hi=>absurd hi (Ym)
 |k::l,t,u,i,hi=>by
  simp only[List.foldr_cons,YJ]at u;obtain⟨d,hd,u⟩:=u;split at u
  .rename_i L;simp only[YJ,YK]at u;obtain⟨nx,I,alt,halt,rfl⟩:=u;rcases YH.1 hi with rfl|hi
   .exact⟨d,nx,hd,L,I,λrecs e h K A=>A.1⟩
   .obtain⟨J,M,D,E,G,H⟩:=zMD l halt i hi;exact⟨J,M,D,E,G,λrecs e h K A=>H recs e h K A.2⟩
  .cases u
def zI1(L:Cf ops pt=DF){M:Array Bool}{i:Nat}(U:i∈Region.ready .any ops M){K:Env->ct->Prop}:∀(tf:Nat) (al:Array Bool) (l before:List DI) {t:OT} {recs:List Rec} {e:Env} {h:ct},yk P nt ops pt M al l before->mkT P nt ops pt tf al before=Dc t->
  QV l recs e h (λrecs e=>TV P t recs e h K)->∃D E A C t',yk P nt ops pt M E A C/\mkT P nt ops pt D E C=Dc t'/\D+Lu A=tf+Lu l/\QV A recs e h (λrecs e=>TV P t' recs e h K)/\
   (i∈A.map (·.idx)\/i∉A.map (·.idx)/\∃f d nx,D=f+1/\tdi P nt ops pt C i=Dc d/\d.q=false/\mkT P nt ops pt f (E.setIfInBounds i DF) C=Dc nx/\
    ∀(recs:List Rec) (e:Env) (h:ct) (K:Env->ct->Prop),TV P t' recs e h K->ge P d.toII e h λv h'=>oc d.chk recs h'/\TV P nx recs (e.put d.dst v) h' K)
 |tf,al,l,before,t,recs,e,h,v,u,hk=>by
  obtain⟨o,O,h1,h2⟩:=zAd U;have X:i<ops.size:=(Yp.1 O).1;by_cases N:i∈l.map (·.idx)
  .exact⟨tf,al,l,before,t,v,u,rfl,hk,.inl N⟩
  have Z:al.getD i DF=false:=by
   cases hc:al.getD i DF with
   |false=>rfl
   |true=>
    rcases(v.ao i X).1 hc with x|x
    .rw[h1]at x;cases x
    .exact absurd x N
  have R:i∈Region.ready .any ops al:=zFs O Z λd hd=>by
   have T:=((Qt L i o O).2.1 d hd).1;exact⟨by rw[v.as];exact T,(v.ao d T).2 (.inl (h2 d hd))⟩
  have S:¬(Region.ready .any ops al).isEmpty=DF:=λx=>by
   rw[List.isEmpty_iff.1 x]at R;cases R
  match tf,u with
  |0,u=>
   unfold mkT at u;rw[DL S]at u;cases u
  |f+1,u=>
   have sj:=u;unfold mkT at u;rw[DL S]at u;split at u
   .rename_i k V;simp only[YJ]at u;obtain⟨d,hd,u⟩:=u;split at u
    .rename_i hq;simp only[YK]at u;obtain⟨nx,Y,rfl⟩:=u;obtain⟨D,E,A,C,t',G,H,I,J,W⟩:=zI1 L U f _ (l++[d]) (before++[d]) (v.push L (List.mem_of_find?_eq_some V) hd hq) Y (QV.append l [d] hk);exact⟨D,E,A,C,t',G,H,by rw[I];simp;omega,J,W⟩
    .cases u
   .obtain⟨d,nx,G,H,I,J⟩:=zMD _ u i R;exact⟨f+1,al,l,before,t,v,sj,rfl,hk,.inr ⟨N,f,d,nx,rfl,G,H,I,J⟩⟩
termination_by tf=>tf
def subTV{P:Program}{t:OT}{h:ct}{K:Env->ct->Prop}:SubK λrecs e=>TV P t recs e h K:=λ_ _ _ hs l=>TV.sub t hs l
def zRO{B:Nat}{w0:World}{js:gz}{hs:ct}{K:Env->ct->Prop}{Q:Exit->Act->World->Prop}(H:Cf ops pt=DF)(hn:∀S h' e' a' w',FR js hs S h'->MR B w0 S h' w'->ER nt S e' a'->K e' h'->Q .normal a' w'):
  ∀(n tf:Nat) (C al:Array Bool) (l before:List DI) {t:OT} {recs:List Rec} {j:gz} {h:ct} {w:World} {e:Env} {a:Act},tf+Lu l=n->yk P nt ops pt C al l before->mkT P nt ops pt tf al before=Dc t->MR B w0 j h w->ER nt j e a->FR js hs j h->
   QV l recs e h (λrecs e=>TV P t recs e h K)->wpAny P .any ops Q n C a w:=by
 have fin:∀{tf:Nat} {C al:Array Bool} {l before:List DI} {t:OT} {recs:List Rec} {j:gz} {h:ct} {w:World} {e:Env} {a:Act},yk P nt ops pt C al l before->mkT P nt ops pt tf al before=Dc t->MR B w0 j h w->ER nt j e a->FR js hs j h->
   QV l recs e h (λrecs e=>TV P t recs e h K)->Region.ready .any ops C=[]->Q .normal a w:=by
  intro tf C al l before t recs j h w e a v E m r I D N;have M:∀{i:Nat} {o:Oper},ops[i]? = Dc o->∀d∈qg o,d<ops.size:=λA d hd=>((Qt H _ _ A).2.1 d hd).1;have O:l=[]:=by
   cases l with
   |nil=>rfl
   |cons q rest=>
    exfalso;obtain⟨o,A,_⟩:=v.fr q aK;have HX:q.idx<ops.size:=(Yp.1 A).1
    have:q.idx∈Region.ready .any ops C:=zFs A (v.lc q aK) λd hd=>by
     refine⟨by rw[v.cs];exact M A d hd,?_⟩;have X:=((Qt H _ _ A).2.1 d hd).2;rcases(v.ao d (M A d hd)).1 (v.ac q.idx HX ((v.ao _ HX).2 (.inr aK)) d X)with x|x
     .exact x
     .exfalso;obtain⟨p,hp,rfl⟩:=YI.1 x;rcases YH.1 hp with rfl|hp
      .exact(Qt H _ _ A).1 X
      .exact(List.pairwise_cons.1 v.or).1 p hp X
    rw[N]at this;cases this
  subst O;have yU:(Region.ready .any ops al).isEmpty=DF:=by
   rw[List.isEmpty_iff,List.eq_nil_iff_forall_not_mem];intro i J;obtain⟨o,A,h1,h2⟩:=zAd J;have ah:i<ops.size:=(Yp.1 A).1
   have:i∈Region.ready .any ops C:=zFs A (by
    cases hc:C.getD i DF with
    |false=>rfl
    |true=>rw[(v.ao i ah).2 (.inl hc)]at h1;cases h1) λd hd=>by
    refine⟨by rw[v.cs];exact M A d hd,?_⟩;rcases(v.ao d (M A d hd)).1 (h2 d hd)with x|x
    .exact x
    .simp at x
   rw[N]at this;cases this
  have:t=.done:=by
   cases tf<;>unfold mkT at E<;>rw[DK yU]at E<;>cases E<;>rfl
  subst this;exact hn j h e a w I m r D
 intro n
 induction n with
 |zero=>
  intro tf C al l before t recs j h w e a O v E m r I D;have R:Region.ready .any ops C=[]:=by
   rw[List.eq_nil_iff_forall_not_mem];intro i J;obtain⟨rD,s8,L,W,t',a1,a2,U,a4,G⟩:=zI1 H J (K:=K) tf al l before v E D;rw[O]at U;rcases G with G|⟨_,f,d,nx,G,_⟩
   .have:L=[]:=YU af
    subst this;simp at G
   .omega
  exact⟨R,fin v E m r I D R⟩
 |succ n ih=>
  intro tf C al l before t recs j h w e a O v E m r I D;refine⟨λN=>fin v E m r I D N,λi J=>?_⟩;obtain⟨rD,s8,L,W,t',T,dY,U,bF,G⟩:=zI1 H J (K:=K) tf al l before v E D;rcases G with G|⟨LV,f,d,nx,rfl,hd,Ir,cb,aG⟩
  .obtain⟨p,hp,rfl⟩:=YI.1 G;obtain⟨o,A,V⟩:=T.fr p hp;have hq:=T.qu p hp;obtain⟨l1,l2,rfl⟩:=List.append_of_mem hp;obtain⟨v2,Z⟩:=T.take H J;obtain⟨u,hu,Y⟩:=QV.front subTV l1 Z bF;refine yD m r A V hq hu λa' r'=>?_;exact ih rD _ s8 (l1++l2) W (by simp at U ⊢;omega) v2 dY m r' I Y
  .obtain⟨o,A,V,iR,_⟩:=zFo hd;obtain⟨v2,Z⟩:=T.eff H J LV hd Ir;have Y:=QV.frontE (K':=λrecs e h'=>TV P nx recs e h' K) L Z (QV.mono (λrecs e D=>aG recs e h K D) L bF);refine zGD m r A V Ir Y ?_;intro u h' S a' w' dV hm R xh;exact ih f _ _ L W af v2 cb hm R (I.trans dV) xh.2
end
end Go.Ab
