/- VALUES WITHOUT A HEAP: what is never written again is held by its contents; what may be written lies in slots. Definitions only. -/
import Derived.Test.YtjlpbpfaihhamaaGreatBAbLazy
set_option linter.unusedVariables false
namespace Go.Ab
inductive PV where
 | undef
 | bool (b:Bool)
 | int (k:IntKind) (n:Int)
 | str (s:List UInt8)
 | nilp
 | nilf
 | fz (w:Bool) (a:AV) (len:Nat) (cs:List PV)
 | fp (a:AV) (cs:List PV)
 | ptr (s i:Nat)
 | mref (s:Nat)
 | sl (s off len:Nat) (cap:Cap)
 | clo (f:FuncId) (first caps:List PV)
 | agg (cs:List PV)
 | tup (vs:List PV)
instance:Inhabited PV:=⟨.undef⟩
def PV.one:PV→Bool
 | .undef | .agg _ | .tup _=>false
 | _=>true
def PV.cells:PV→List PV
 | .agg cs=>cs
 | v=>[v]
mutual
def er (ι:Nat→Nat):PV→AV
 | .undef=>.undef
 | .bool b=>.bool b
 | .int k n=>.int k n
 | .str s=>.str s
 | .nilp=>.nilp
 | .nilf=>.nilf
 | .fz _ a _ _=>a
 | .fp a _=>a
 | .ptr s i=>.ptr (ι s) i
 | .mref s=>.mref (ι s)
 | .sl s off len cap=>.sl (ι s) off len cap
 | .clo f a b=>.clo f (ers ι a) (ers ι b)
 | .agg cs=>.agg (ers ι cs)
 | .tup cs=>.tup (ers ι cs)
def ers (ι:Nat→Nat):List PV→List AV
 | []=>[]
 | c::cs=>er ι c::ers ι cs
end
mutual
def ofAV:AV→PV
 | .undef=>.undef
 | .bool b=>.bool b
 | .int k n=>.int k n
 | .str s=>.str s
 | .nilp=>.nilp
 | .nilf=>.nilf
 | .nils=>.fz true .nils 0 []
 | .ptr o i=>.fp (.ptr o i) []
 | .mref o=>.fp (.mref o) []
 | .sl o off n c=>.fp (.sl o off n c) []
 | .clo f a b=>.clo f (ofAVs a) (ofAVs b)
 | .agg cs=>.agg (ofAVs cs)
 | .tup cs=>.tup (ofAVs cs)
def ofAVs:List AV→List PV
 | []=>[]
 | c::cs=>ofAV c::ofAVs cs
end
structure PHeap where
 next:Nat
 top:Nat
 obj:Nat→Option (List PV)
namespace PHeap
def new (σ:PHeap) (cs:List PV):PHeap:=⟨σ.next+1,σ.top,fun s=>if s=σ.next then some cs else σ.obj s⟩
def set (σ:PHeap) (s:Nat) (cs:List PV):PHeap:=⟨σ.next,σ.top,fun s'=>if s'=s then some cs else σ.obj s'⟩
def kill (σ:PHeap) (s:Nat):PHeap:=⟨σ.next,σ.top,fun s'=>if s'=s then none else σ.obj s'⟩
def up (σ:PHeap) (t:Nat):PHeap:=⟨σ.next,t,σ.obj⟩
def rd1 (σ:PHeap) (s i:Nat):Option PV:=(σ.obj s).bind fun cs=>cs[i]?
def rd (σ:PHeap) (s i n:Nat):Option (List PV):=(σ.obj s).bind fun cs=>if i+n≤cs.length then some ((cs.drop i).take n)else none
def wr (σ:PHeap) (s i:Nat) (vs:List PV):Option PHeap:=(σ.obj s).bind fun cs=>
 if i+vs.length≤cs.length∧vs.all PV.one=true then some (σ.set s (cs.take i++vs++cs.drop (i+vs.length)))else none
def news (σ:PHeap):List (List AV)→PHeap
 | []=>σ
 | z::zs=>(σ.new (ofAVs z)).news zs
end PHeap
abbrev PEnv:=Nat→PV
def PEnv.put (e:PEnv) (d:Option Nat) (v:PV):PEnv:=match d with
 | some d=>fun t=>if t=d then v else e t
 | none=>e
def PEnv.mk:List Nat→List PV→PEnv
 | s::S,v::vs=>fun t=>if t=s then v else PEnv.mk S vs t
 | _,_=>fun _=>.undef
def IX.pv (e:PEnv):IX→PV
 | .t n=>e n
 | .c v=>ofAV v
def KT.pfits:KT→PV→Bool
 | .int k,.int k' _=>decide (k'=k)
 | .str,.str _=>true
 | _,_=>false
def PV.leaf:PV→Bool
 | .bool _ | .int _ _ | .str _=>true
 | _=>false
def PV.keq:PV→PV→Bool
 | .int _ a,.int _ b=>decide (a=b)
 | .str a,.str b=>decide (a=b)
 | _,_=>false
def pmget (kt:KT) (k:PV):List PV→Option (Option PV)
 | []=>some none
 | [_]=>none
 | x::v::r=>if kt.pfits x=true then(if PV.keq k x=true then some (some v)else pmget kt k r)else none
def pmset (kt:KT) (k v:PV):List PV→Option (List PV)
 | []=>some [k,v]
 | [_]=>none
 | x::u::r=>if kt.pfits x=true then(if PV.keq k x=true then some (x::v::r)else(pmset kt k v r).map fun r=>x::u::r)else none
theorem zCT {kt:KT} {k:PV} (ι:Nat→Nat) (h:kt.pfits k=true):kt.fits (er ι k)=true:=by
 cases kt<;>cases k<;>simp only [KT.pfits,reduceCtorEq]at h
 ·exact h
 ·rfl
theorem zMx {kt:KT} {k x:PV} (ι:Nat→Nat) (h:kt.pfits k=true) (h':kt.pfits x=true):AV.keq (er ι k) (er ι x)=PV.keq k x:=by
 cases kt<;>cases k<;>simp only [KT.pfits,reduceCtorEq]at h<;>cases x<;>simp only [KT.pfits,reduceCtorEq]at h'<;>rfl
theorem zHs {kt:KT} {k:PV} (ι:Nat→Nat) (hk:kt.pfits k=true):∀{cs:List PV} {r:Option PV},pmget kt k cs=some r→mget kt (er ι k) (ers ι cs)=some (r.map (er ι))∧∀v,r=some v→v∈cs
 | [],r,h=>by cases h;exact⟨rfl,fun v e=>by cases e⟩
 | [_],r,h=>by cases h
 | x::v::cs,r,h=>by
  rw [pmget]at h
  simp only [ers,mget]
  split at h
  ·rename_i hx
   rw [if_pos (zCT ι hx),zMx ι hk hx]
   split at h
   ·rename_i he
    cases h;rw [if_pos he];exact⟨rfl,fun u e=>by cases e;simp⟩
   ·rename_i he
    rw [if_neg he];obtain⟨a,b⟩:=zHs ι hk h;exact⟨a,fun u e=>by simp [b u e]⟩
  ·cases h
theorem zHr {kt:KT} {k v:PV} (ι:Nat→Nat) (hk:kt.pfits k=true):∀{cs ds:List PV},pmset kt k v cs=some ds→mset kt (er ι k) (er ι v) (ers ι cs)=some (ers ι ds)∧∀u∈ds,u=k∨u=v∨u∈cs
 | [],ds,h=>by cases h;exact⟨rfl,fun u hu=>by simp only [List.mem_cons,List.not_mem_nil,or_false]at hu;rcases hu with h | h<;>simp [h]⟩
 | [_],ds,h=>by cases h
 | x::u::cs,ds,h=>by
  rw [pmset]at h
  simp only [ers,mset]
  split at h
  ·rename_i hx
   rw [if_pos (zCT ι hx),zMx ι hk hx]
   split at h
   ·rename_i he
    cases h;rw [if_pos he];refine⟨rfl,fun t ht=>?_⟩
    simp only [List.mem_cons]at ht ⊢
    rcases ht with h|h|h<;>simp [h]
   ·rename_i he
    rw [if_neg he];obtain⟨d,h2,rfl⟩:=Option.map_eq_some_iff.1 h;obtain⟨a,b⟩:=zHr ι hk h2;refine⟨by rw [a];rfl,fun t ht=>?_⟩
    simp only [List.mem_cons]at ht ⊢
    rcases ht with h|h|h
    ·simp [h]
    ·simp [h]
    ·rcases b t h with h | h | h<;>simp [h]
  ·cases h
def Zj:AV→Bool
 | .nils=>true
 | _=>false
def pnil (op:BinOp) (r:Bool):Option PV:=
 match op with
 | .eql=>some (.bool r)
 | .neq=>some (.bool !r)
 | _=>none
def paggB:List PV→List PV→Option Bool
 | [],[]=>some true
 | .int k a::xs,.int k' b::ys=>if k=k' then(paggB xs ys).map fun r=>decide (a=b) && r else none
 | _,_=>none
def pbin (op:BinOp) (ek:EqK) (x y:PV):Option PV:=
 match x,y with
 | .int k a,.int k' b=>(abin op ek (.int k a) (.int k' b)).map ofAV
 | .str a,.str b=>(astr op a b).map ofAV
 | .bool a,.bool b=>match ek with | .bool=>pnil op (a == b) | _=>none
 | .fz _ a _ _,.fz _ b _ _=>match ek with | .slice=>if Zj b=true then pnil op (Zj a)else if Zj a=true then pnil op false else none | _=>none
 | .sl _ _ _ _,.fz _ b _ _=>match ek with | .slice=>if Zj b=true then pnil op false else none | _=>none
 | .fz _ a _ _,.sl _ _ _ _=>match ek with | .slice=>if Zj a=true then pnil op false else none | _=>none
 | .nilp,.nilp=>match ek with | .pointer=>pnil op true | _=>none
 | .ptr _ _,.nilp=>match ek with | .pointer=>pnil op false | _=>none
 | .nilp,.ptr _ _=>match ek with | .pointer=>pnil op false | _=>none
 | .nilf,.nilf=>match ek with | .func=>pnil op true | _=>none
 | .clo _ _ _,.nilf=>match ek with | .func=>pnil op false | _=>none
 | .nilf,.clo _ _ _=>match ek with | .func=>pnil op false | _=>none
 | .agg xs,.agg ys=>match ek with | .ints n=>if xs.length=n∧ys.length=n then(paggB xs ys).bind fun r=>pnil op r else none | _=>none
 | _,_=>none
def pun (op:UnOp) (x:PV):Option PV:=
 match x with
 | .int k n=>(aun op (.int k n)).map ofAV
 | .bool b=>(aun op (.bool b)).map ofAV
 | _=>none
def pfill (cells:List PV):List (Nat×Nat×PV)→Option (List PV)
 | []=>some cells
 | (off,size,v)::rest=>
  if v.cells.length=size∧off+size≤cells.length∧v.cells.all PV.one=true then pfill (cells.take off++v.cells++cells.drop (off+size)) rest else none
def Qk (x:PV) (y:Nat):Option Nat:=
 match x with
 | .int _ i=>if 0≤i∧i≤y then some i.toNat else none
 | _=>none
def qf (x:Option PV) (dflt y:Nat):Option Nat:=
 match x with
 | some x=>Qk x y
 | none=>some dflt
def pslA (e:Nat) (a:AV) (l h:Nat):AV:=
 match a with
 | .sl o off _ (.known c)=>.sl o (if c=l then off else off+l*e) (h-l) (.known (c-l))
 | .sl o off _ (.grown g)=>.sl o (off+l*e) (h-l) (.grown (if g=e then g else 0))
 | a=>a
def pslM (e:Nat) (a:AV) (l h m:Nat):AV:=
 match a with
 | .sl o off _ _=>.sl o (if m=l then off else off+l*e) (h-l) (.known (m-l))
 | a=>a
def Qi (e:Nat) (x:PV) (lo hi mx:Option PV):Option PV:=
 match x with
 | .sl s off len (.known c)=>
  (qf mx c c).bind fun m=>(qf hi len m).bind fun h=>(qf lo 0 h).bind fun l=>
   if hi.isNone=true∧mx.isSome=true then none else some (.sl s (if m=l then off else off+l*e) (h-l) (.known (m-l)))
 | .sl s off len (.grown g)=>
  match mx with
  | some mx=>(Qk mx len).bind fun m=>(qf hi len m).bind fun h=>(qf lo 0 h).bind fun l=>
   if hi.isNone=true then none else some (.sl s (if m=l then 0 else off+l*e) (h-l) (.known (m-l)))
  | none=>(qf hi len len).bind fun h=>(qf lo 0 h).bind fun l=>
   some (.sl s (off+l*e) (h-l) (.grown (if g=e then g else 0)))
 | .fz _ a len cs=>
  match mx with
  | none=>(qf hi len len).bind fun h=>(qf lo 0 h).bind fun l=>some (.fz false (pslA e a l h) (h-l) ((cs.drop (l*e)).take ((h-l)*e)))
  | some mx=>match a with
   | .nils=>(Qk mx 0).bind fun m=>(qf hi 0 m).bind fun h=>(qf lo 0 h).bind fun _=>if hi.isNone=true then none else some (.fz true .nils 0 [])
   | _=>none
 | _=>none
def zBh (x:PV) (lo hi:Option PV):Option PV:=
 match x with
 | .str s=>(qf hi s.length s.length).bind fun h=>(qf lo 0 h).bind fun l=>some (.str ((s.take h).drop l))
 | _=>none
def pPick (c a b:PV):Option PV:=
 match c with
 | .bool t=>some (if t=true then a else b)
 | _=>none
def pConv (k:IntKind) (x:PV):Option PV:=
 match x with
 | .int _ n=>some (.int k (k.wrap n))
 | _=>none
def pNil (x:PV):Option PV:=
 match x with
 | .ptr s i=>some (.ptr s i)
 | .fp a cs=>if cs.isEmpty=true then none else some (.fp a cs)
 | .clo f a b=>some (.clo f a b)
 | _=>none
def zDB (agg:Bool) (n off:Nat) (x:PV):Option PV:=
 match x with
 | .agg cs=>if agg=true then some (.agg ((cs.drop off).take n))else cs[off]?
 | _=>none
def pAdd (a:AV) (k:Nat):AV:=
 match a with
 | .ptr o i=>.ptr o (i+k)
 | a=>a
def zAD (off:Nat) (x:PV):Option PV:=
 match x with
 | .ptr s i=>some (.ptr s (i+off))
 | .fp a cs=>if cs.isEmpty=true then none else some (.fp (pAdd a off) (cs.drop off))
 | _=>none
def pAt (a:AV) (k:Nat):AV:=
 match a with
 | .sl o off _ _=>.ptr o (off+k)
 | _=>.ptr 0 0
def zB3 (sz:Nat) (x i:PV):Option PV:=
 match x,i with
 | .sl s off len _,.int _ n=>if 0≤n∧n<len then some (.ptr s (off+n.toNat*sz))else none
 | .fz _ a len cs,.int _ n=>if 0≤n∧n<len then some (.fp (pAt a (n.toNat*sz)) (cs.drop (n.toNat*sz)))else none
 | _,_=>none
def zDo (x i:PV):Option PV:=
 match x,i with
 | .str s,.int _ n=>if 0≤n then(s[n.toNat]?).map fun c=>.int .u8 c.toNat else none
 | _,_=>none
def zCV (x:PV) (i:Nat):Option PV:=
 match x with
 | .tup vs=>vs[i]?
 | _=>none
def plen (x:PV):Option Nat:=
 match x with
 | .fz _ _ n _=>some n
 | .sl _ _ n _=>some n
 | _=>none
def pLen (x:PV):Option PV:=(plen x).map fun n=>.int .i64 n
def zDn (x:PV):Option PV:=
 match x with
 | .str s=>some (.int .i64 s.length)
 | _=>none
def pCap (x:PV):Option PV:=
 match x with
 | .sl _ _ _ (.known c)=>some (.int .i64 c)
 | .fz _ .nils _ _=>some (.int .i64 0)
 | _=>none
def zB2 (mx:Bool) (x y:PV):Option PV:=
 match x,y with
 | .int k a,.int k' b=>if k=k' then some (.int k (if mx=true then max a b else min a b))else none
 | _,_=>none
def pldv (agg:Bool) (n:Nat) (x:PV) (σ:PHeap):Option PV:=
 match x with
 | .ptr s i=>if agg=true then(σ.rd s i n).map .agg else σ.rd1 s i
 | .fp _ cs=>if agg=true then(if 0<n∧n≤cs.length then some (.agg (cs.take n))else none)else cs[0]?
 | _=>none
def qp (nb nr:Nat) (op:IOp) (e:PEnv) (σ:PHeap):Option PV:=
 match op with
 | .mv x=>some (x.pv e)
 | .pick c a b=>pPick (c.pv e) (a.pv e) (b.pv e)
 | .bin op ek x y=>pbin op ek (x.pv e) (y.pv e)
 | .un op x=>pun op (x.pv e)
 | .conv k x=>pConv k (x.pv e)
 | .nilCheck x=>pNil (x.pv e)
 | .build z ps=>(pfill (ofAVs z) (ps.map fun p=>(p.1,p.2.1,p.2.2.pv e))).map .agg
 | .field agg n off x=>zDB agg n off (x.pv e)
 | .fieldAddr off x=>zAD off (x.pv e)
 | .indexAddr sz x i=>zB3 sz (x.pv e) (i.pv e)
 | .indexStr x i=>zDo (x.pv e) (i.pv e)
 | .extract x i=>zCV (x.pv e) i
 | .len x=>pLen (x.pv e)
 | .lenStr x=>zDn (x.pv e)
 | .cap x=>pCap (x.pv e)
 | .slice sz x lo hi mx=>Qi sz (x.pv e) (lo.map (·.pv e)) (hi.map (·.pv e)) (mx.map (·.pv e))
 | .sliceStr x lo hi=>zBh (x.pv e) (lo.map (·.pv e)) (hi.map (·.pv e))
 | .maxmin mx x y=>zB2 mx (x.pv e) (y.pv e)
 | .makeFunc f first caps=>some (.clo f (first.map (·.pv e)) (caps.map (·.pv e)))
 | .load agg n x=>pldv agg n (x.pv e) σ
 | .rev k=>if k<nr then some (.ptr (nb+k) 0)else none
 | .revS k n=>if k<nr then some (.sl (nb+k) 0 n (.known n))else none
 | _=>none
def Zv (e:Nat) (σ:PHeap) (x:PV) (n:Nat):Option (List PV):=
 if n=0 then some []else
 match x with
 | .sl s off len _=>if n≤len then σ.rd s off (n*e)else none
 | .fz _ _ len cs=>if n≤len∧n*e≤cs.length∧0<e then some (cs.take (n*e))else none
 | _=>none
def zB1:List PV→Option (List UInt8)
 | []=>some []
 | .int .u8 n::r=>(zB1 r).map fun s=>UInt8.ofNat n.toNat::s
 | _=>none
def zDA (σ:PHeap) (x:PV):Option (List UInt8):=(plen x).bind fun n=>(Zv 1 σ x n).bind zB1
def pgrow (e bytes:Nat) (σ:PHeap) (s:PV) (news:List PV) (m:Nat):Option (PV×PHeap):=
 match s with
 | .fz _ .nils _ _=>if m*bytes≤140737488355328∧m≤4611686018427387904 then some (.sl σ.next 0 m (.grown e),σ.new news)else none
 | .fz w (.sl _ _ _ (.known c)) len cs=>
  if c<len+m∧(w=true∨cs.isEmpty=false)∧cs.length=len*e∧(len+m)*bytes≤140737488355328∧len+m≤4611686018427387904 then some (.sl σ.next 0 (len+m) (.grown e),σ.new (cs++news))else none
 | .sl s off len (.known c)=>
  if len+m≤c then(σ.wr s (off+len*e) news).map fun σ'=>(.sl s off (len+m) (.known c),σ')
  else if (len+m)*bytes≤140737488355328∧len+m≤4611686018427387904 then(σ.rd s off (len*e)).map fun old=>(.sl σ.next 0 (len+m) (.grown e),σ.new (old++news))else none
 | .sl s off len (.grown g)=>
  if (len+m)*bytes≤140737488355328∧len+m≤4611686018427387904∧g=e then
   (σ.obj s).bind fun cs=>if off+len*e≤cs.length then some (.sl σ.next 0 (len+m) (.grown e),(σ.kill s).new ((cs.drop off).take (len*e)++news))else none
  else none
 | _=>none
def psame (s:PV):Option PV:=
 match s with
 | .fz _ .nils _ _=>some (.fz true .nils 0 [])
 | .sl s off len (.known c)=>if len≤c then some (.sl s off len (.known c))else none
 | .sl s off len (.grown e)=>some (.sl s off len (.grown e))
 | .fz w (.sl o off l c) len cs=>some (.fz w (.sl o off l c) len cs)
 | _=>none
def qo (e bytes:Nat) (σ:PHeap) (s x:PV):Option (PV×PHeap):=
 (plen x).bind fun m=>if m=0 then(psame s).map fun v=>(v,σ)else(Zv e σ x m).bind fun news=>pgrow e bytes σ s news m
def pcopy (e:Nat) (σ:PHeap) (d s:PV):Option (PV×PHeap):=
 (plen d).bind fun n=>(plen s).bind fun m=>if min m n=0 then some (.int .i64 0,σ)else
  match d with
  | .sl o off _ _=>(Zv e σ s (min m n)).bind fun cs=>(σ.wr o off cs).map fun σ'=>(.int .i64 (min m n:Nat),σ')
  | _=>none
end Go.Ab
