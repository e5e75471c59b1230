/- THE OPERATIONS THAT CHANGE NOTHING: how they are read off the program, and that they do what the abstract value says. -/
import Derived.Test.YtjlpbpfaihhamaaGreatBAbMem
import Derived.Laws.StructEq
set_option linter.unusedSimpArgs false
set_option linter.unusedVariables false
namespace Go.Ab
open Go.RowKit
def toCell:Value→Option AV
 | .bool b=>some (.bool b)
 | .int k n=>some (.int k n)
 | .string s=>some (.str s.data.toList)
 | .pointer none=>some .nilp
 | .slice none 0 0=>some .nils
 | .nilFunc=>some .nilf
 | _=>none
def ZE:List Value→Option (List AV)
 | []=>some []
 | v::r=>(toCell v).bind fun a=>(ZE r).bind fun b=>some (a::b)
def toAV:Value→Option AV
 | .agg cs=>(ZE cs.toList).map .agg
 | v=>toCell v
def cx:Operand→Option IX
 | .tmp t=>some (.t t)
 | .const v=>(toAV v).map .c
 | .func f=>some (.c (.clo f [] []))
 | .global _=>none
def cxs:List Operand→Option (List IX)
 | []=>some []
 | x::r=>(cx x).bind fun a=>(cxs r).bind fun b=>some (a::b)
def cxo:Option Operand→Option (Option IX)
 | none=>some none
 | some x=>(cx x).map some
def zAi:TypeDesc→Bool
 | .struct _ | .array _ _=>true
 | _=>false
def eqkOf:Option TypeDesc→EqK
 | some .bool=>.bool
 | some (.slice _)=>.slice
 | some (.pointer _)=>.pointer
 | some (.func _ _ _)=>.func
 | _=>.other
def zAj (P:Program):List Field→Nat→Bool
 | [],_=>true
 | f :: fs, i => (f.name != "_") && (f.offset == i) && (match P.underlying f.type with | some (.int _) => true | _ => false) && zAj P fs (i + 1)
def eqk (P:Program) (t:TypeId):EqK:=
 match P.underlying t with
 | some (.struct fs)=>if (zAj P fs.toList 0 && !P.stoodInHeld t && !P.eqGuardType P.depth t)=true then .ints fs.size else .other
 | o=>eqkOf o
def zDa (P:Program) (fields:Array Field):List (Nat×Operand)→Option (List (Nat×Nat×IX))
 | []=>some []
 | (i,x)::r=>(fields[i]?).bind fun f=>(P.info? f.type).bind fun fi=>(cx x).bind fun a=>(zDa P fields r).bind fun b=>some ((f.offset,fi.size,a)::b)
def carts (size:Nat):List (Nat×Operand)→Option (List (Nat×Nat×IX))
 | []=>some []
 | (i,x)::r=>(cx x).bind fun a=>(carts size r).bind fun b=>some ((i*size,size,a)::b)
def copQ (P:Program):Op→Option IOp
 | .move x | .assign x=>(cx x).map .mv
 | .pick c a b=>(cx c).bind fun c=>(cx a).bind fun a=>(cx b).bind fun b=>some (.pick c a b)
 | .binOp op xt x y _=>(cx x).bind fun x=>(cx y).bind fun y=>some (.bin op (eqk P xt) x y)
 | .unOp op _ x=>(cx x).map (.un op)
 | .convert src dst x=>match P.underlying src,P.underlying dst with
  | some (.int _),some (.int k)=>(cx x).map (.conv k)
  | _,_=>none
 | .nilCheck x=>(cx x).map .nilCheck
 | .field t x f=>match P.underlying t with
  | some (.struct fields)=>(fields[f]?).bind fun fd=>match P.underlying fd.type,P.info? fd.type with
   | some d,some i=>(cx x).map (.field (zAi d) i.size fd.offset)
   | _,_=>none
  | _=>none
 | .fieldAddr t x f=>match P.underlying t with
  | some (.struct fields)=>(fields[f]?).bind fun fd=>(P.info? fd.type).bind fun i=>if i.size=0 then none else(cx x).map (.fieldAddr fd.offset)
  | _=>none
 | .indexAddr t x ix=>match P.underlying t with
  | some (.slice e)=>(P.info? e).bind fun i=>(cx x).bind fun x=>(cx ix).bind fun ix=>some (.indexAddr i.size x ix)
  | some (.array len e)=>match ix with
   | .const (.int _ n)=>(P.info? e).bind fun i=>if 0≤n∧n<(len:Int)then(cx x).map (.fieldAddr (n.toNat*i.size))else none
   | _=>none
  | _=>none
 | .index t x ix=>match P.underlying t with
  | some .string=>(cx x).bind fun x=>(cx ix).bind fun ix=>some (.indexStr x ix)
  | _=>none
 | .extract x i=>(cx x).map (.extract · i)
 | .slice t x lo hi mx=>match P.underlying t with
  | some (.slice e)=>(P.info? e).bind fun i=>(cx x).bind fun x=>(cxo lo).bind fun lo=>(cxo hi).bind fun hi=>(cxo mx).bind fun mx=>some (.slice i.size x lo hi mx)
  | some .string=>(cx x).bind fun x=>(cxo lo).bind fun lo=>(cxo hi).bind fun hi=>match mx with | none=>some (.sliceStr x lo hi) | some _=>none
  | _=>none
 | .makeFunc (.func f) first caps=>(cxs first.toList).bind fun first=>(cxs caps.toList).bind fun caps=>some (.makeFunc f first caps)
 | .load t x=>match P.underlying t,P.info? t with
  | some d,some i=>(cx x).map (.load (zAi d) i.size)
  | _,_=>none
 | .build t ps=>match P.underlying t,(P.info? t).bind (·.zero)with
  | some (.struct fields),some (.agg z)=>if fields.toList.all (fun f=>(P.info? f.type).isSome)=true then(ZE z.toList).bind fun z=>(zDa P fields ps.toList).bind fun ps=>some (.build z ps)else none
  | some (.array _ e),some (.agg z)=>(P.info? e).bind fun i=>(ZE z.toList).bind fun z=>(carts i.size ps.toList).bind fun ps=>some (.build z ps)
  | _,_=>none
 | .call { callee:=.builtin b,args,argTypes }=>
  match b,args.toList,argTypes.toList with
  | .len,[x],[t]=>match P.underlying t with
   | some (.slice _)=>(cx x).map .len
   | some .string=>(cx x).map .lenStr
   | _=>none
  | .cap,[x],[t]=>match P.underlying t with
   | some (.slice _)=>(cx x).map .cap
   | _=>none
  | .max,[x,y],[t,_]=>match P.underlying t with
   | some (.int _)=>(cx x).bind fun x=>(cx y).bind fun y=>some (.maxmin true x y)
   | _=>none
  | .min,[x,y],[t,_]=>match P.underlying t with
   | some (.int _)=>(cx x).bind fun x=>(cx y).bind fun y=>some (.maxmin false x y)
   | _=>none
  | _,_,_=>none
 | _=>none
structure ER (nt:Nat) (j:Inj) (e:Env) (a:Act):Prop where
 vals:∀t,VI j (e t) (a.tmps.getD t undef)
 size:a.tmps.size=nt
 defers:a.defers=[]
variable {P:Program} {B:Nat} {w0 w:World} {j:Inj} {h:AHeap} {nt:Nat} {e:Env} {a:Act}
theorem ER.mono {j':Inj} (r:ER nt j e a) (hj:j.le j'):ER nt j' e a:=⟨fun t=>VI.mono hj _ _ (r.vals t),r.size,r.defers⟩
theorem ER.put (r:ER nt j e a) {d:Option Nat} {v:AV} {cv:Value} (hd:∀t,d=some t→t<nt) (hv:VI j v cv):ER nt j (e.put d v) (a.put d cv):=by
 cases d with
 | none=>exact r
 | some d=>
  have hlt:d<a.tmps.size:=by rw [r.size];exact hd d rfl
  refine⟨fun t=>?_,by simp [Act.put,r.size],r.defers⟩
  simp only [Env.put,Act.put,Array.getD_eq_getD_getElem?,Array.getElem?_setIfInBounds]
  by_cases ht:t=d
  ·subst ht;simpa [hlt]using hv
  ·rw [if_neg ht,if_neg (fun x=>ht x.symm)]
   have:=r.vals t
   rwa [Array.getD_eq_getD_getElem?]at this
theorem zFF {v:Value} {av:AV} (hv:toCell v=some av):VI j av v∧av.one=true∧v.cells = #[v]:=by
 unfold toCell at hv
 split at hv<;>first | (cases hv;exact⟨rfl,rfl,rfl⟩) | cases hv
theorem ZH:∀{vs:List Value} {avs:List AV},ZE vs=some avs→VIs j avs vs∧avs.all AV.one=true
 | [],avs,hv=>by cases hv;exact⟨rfl,rfl⟩
 | v::r,avs,hv=>by
  simp only [ZE,Option.bind_eq_some_iff]at hv
  obtain⟨x,hx,y,hy,hz⟩:=hv;cases hz;have h1:=zFF (j:=j) hx;have h2:=ZH hy;exact⟨⟨v,r,rfl,h1.1,h2.1⟩,by simp [h1.2.1,h2.2]⟩
theorem zKQ {v:Value} {av:AV} (hv:toAV v=some av):VI j av v:=by
 unfold toAV at hv
 split at hv
 ·simp only [Option.map_eq_some_iff]at hv
  obtain⟨x,hx,rfl⟩:=hv
  rename_i cs
  exact⟨cs.toList,(ZH hx).1,by simp⟩
 ·exact(zFF hv).1
theorem zI (r:ER nt j e a) {x:Operand} {ix:IX} (hx:cx x=some ix):VI j (ix.ev e) (a.eval x):=by
 cases x with
 | tmp t=>cases hx;exact r.vals t
 | const v=>
  simp only [cx,Option.map_eq_some_iff]at hx
  obtain⟨av,hv,rfl⟩:=hx;exact zKQ hv
 | func f=>cases hx;exact⟨[],[],rfl,rfl,rfl⟩
 | global g=>cases hx
theorem zAn (r:ER nt j e a):∀{xs:List Operand} {ixs:List IX},cxs xs=some ixs→VIs j (ixs.map (·.ev e)) (xs.map a.eval)
 | [],_,hx=>by cases hx;rfl
 | x::xs,ixs,hx=>by
  simp only [cxs,Option.bind_eq_some_iff]at hx
  obtain⟨p,hp,q,hq,hr⟩:=hx;cases hr;exact⟨_,_,rfl,zI r hp,zAn r hq⟩
theorem zNM (r:ER nt j e a) {x:Option Operand} {ix:Option IX} (hx:cxo x=some ix):
  (x=none∧ix=none)∨∃y iy,x=some y∧ix=some iy∧VI j (iy.ev e) (a.eval y):=by
 cases x with
 | none=>cases hx;exact .inl ⟨rfl,rfl⟩
 | some y=>
  simp only [cxo,Option.map_eq_some_iff]at hx
  obtain⟨iy,h1,rfl⟩:=hx;exact .inr ⟨y,iy,rfl,rfl,zI r h1⟩
def Runs (P:Program) (s:Sem Value) (w:World) (j:Inj) (v:AV):Prop:=∃cv,s.run P w=.ok cv w∧VI j v cv
theorem zLZ {op:BinOp} {k:IntKind} {x y:Int} {xt:TypeId} {v:AV} (hop:op≠.shl∧op≠.shr) (hv:aint op k x y=some v):
  Runs P (binOp op xt (.int k x) (.int k y)) w j v:=by
 cases op<;>simp only [aint]at hv<;>(try (split at hv))<;>simp only [Option.some.injEq,reduceCtorEq]at hv<;>(try subst hv)<;>
  first
  | exact absurd rfl hop.1
  | exact absurd rfl hop.2
  | (refine⟨_,?_,rfl⟩;simp [binOp,Op.intArith,Op.intDiv,Op.intCmp,Op.intBits, *];done)
  | (refine⟨_,?_,rfl⟩;simp [binOp,Op.intArith,Op.intDiv,Op.intCmp,Op.intBits, *];first | rfl | (congr 1) | skip)
theorem zDe {op:BinOp} {k k':IntKind} {x y:Int} {xt:TypeId} {v:AV} (hop:op=.shl∨op=.shr) (hv:ZY op k x y=some v):
  Runs P (binOp op xt (.int k x) (.int k' y)) w j v:=by
 unfold ZY at hv
 split at hv
 ·cases hv
 ·rename_i hy
  rcases hop with rfl|rfl<;>simp only [Option.some.injEq]at hv<;>subst hv<;>refine⟨_,?_,rfl⟩<;>simp [binOp,Op.shift,hy]
theorem zLX {op:BinOp} {x y:List UInt8} {xt:TypeId} {v:AV} (hv:astr op x y=some v):
  Runs P (binOp op xt (.string ⟨x.toArray⟩) (.string ⟨y.toArray⟩)) w j v:=by
 have e1:(⟨x.toArray⟩:ByteArray).toList=x:=by rw [ByteArray.toList_eq]
 have e2:(⟨y.toArray⟩:ByteArray).toList=y:=by rw [ByteArray.toList_eq]
 have z1:(⟨x.toArray⟩:ByteArray).size=x.length:=by simp [ByteArray.size]
 have z2:(⟨y.toArray⟩:ByteArray).size=y.length:=by simp [ByteArray.size]
 cases op<;>simp only [astr]at hv<;>(try (split at hv))<;>simp only [Option.some.injEq,reduceCtorEq]at hv<;>(try subst hv)
 case add.isTrue hle=>
  refine⟨_,?_,rfl⟩
  have:¬(((x.length+y.length:Nat):Int) > IntKind.i64.max):=by
   have:IntKind.i64.max=9223372036854775807:=by decide
   rw [this];omega
  simp only [binOp,Op.stringOp,z1,z2,if_neg this]
  simp
  congr 1
 all_goals (refine⟨_,?_,rfl⟩;simp [binOp,Op.stringOp,e1,e2])
def zHt:Value→Bool
 | .nilIface | .agg _=>false
 | _=>true
theorem zHI {op:BinOp} {t:TypeId} {x y:Operand} {c d:Value} (hc:zHt c=true):(eqGuard op t x y c d).run P w=.ok () w:=by
 unfold eqGuard;cases c<;>simp [zHt]at hc<;>cases op<;>simp
theorem zIa (d:Nat) {t:TypeId} (ht:P.underlying t=some .bool) (x y:Bool):(Op.equalIn (d+1) t (.bool x) (.bool y)).run P w=.ok (x == y) w:=by
 simp [Op.equalIn,run_underlying ht]
theorem zLL {t:TypeId} (ht:P.underlying t=some .bool) (x y:Bool):(Op.equal t (.bool x) (.bool y)).run P w=.ok (x == y) w:=zIa 9999 ht x y
theorem zD4 (d:Nat) {t et:TypeId} (ht:P.underlying t=some (.slice et)) (o:Option Addr) (n c:Nat):(Op.equalIn (d+1) t (.slice o n c) (.slice none 0 0)).run P w=.ok o.isNone w:=by
 cases o<;>simp [Op.equalIn,run_underlying ht]
theorem zBn {t et:TypeId} (ht:P.underlying t=some (.slice et)) (o:Option Addr) (n c:Nat):(Op.equal t (.slice o n c) (.slice none 0 0)).run P w=.ok o.isNone w:=zD4 9999 ht o n c
theorem zD6 (d:Nat) {t et:TypeId} (ht:P.underlying t=some (.slice et)) (o:Option Addr) (n c:Nat):(Op.equalIn (d+1) t (.slice none 0 0) (.slice o n c)).run P w=.ok o.isNone w:=by
 cases o<;>simp [Op.equalIn,run_underlying ht]
theorem zFt {t et:TypeId} (ht:P.underlying t=some (.slice et)) (o:Option Addr) (n c:Nat):(Op.equal t (.slice none 0 0) (.slice o n c)).run P w=.ok o.isNone w:=zD6 9999 ht o n c
theorem zFr (d:Nat) {t et:TypeId} (ht:P.underlying t=some (.pointer et)) (o:Option Addr):(Op.equalIn (d+1) t (.pointer o) (.pointer none)).run P w=.ok o.isNone w:=by
 cases o<;>simp [Op.equalIn,run_underlying ht]
theorem zCu {t et:TypeId} (ht:P.underlying t=some (.pointer et)) (o:Option Addr):(Op.equal t (.pointer o) (.pointer none)).run P w=.ok o.isNone w:=zFr 9999 ht o
theorem zFu (d:Nat) {t et:TypeId} (ht:P.underlying t=some (.pointer et)) (o:Option Addr):(Op.equalIn (d+1) t (.pointer none) (.pointer o)).run P w=.ok o.isNone w:=by
 cases o<;>simp [Op.equalIn,run_underlying ht]
theorem zHG {t et:TypeId} (ht:P.underlying t=some (.pointer et)) (o:Option Addr):(Op.equal t (.pointer none) (.pointer o)).run P w=.ok o.isNone w:=zFu 9999 ht o
theorem zIZ (d:Nat) {t:TypeId} {ps rs:Array TypeId} {vr:Bool} (ht:P.underlying t=some (.func ps rs vr)):(Op.equalIn (d+1) t .nilFunc .nilFunc).run P w=.ok true w:=by
 simp [Op.equalIn,run_underlying ht]
theorem zLK {t:TypeId} {ps rs:Array TypeId} {vr:Bool} (ht:P.underlying t=some (.func ps rs vr)):(Op.equal t .nilFunc .nilFunc).run P w=.ok true w:=zIZ 9999 ht 
theorem zD5 (d:Nat) {t:TypeId} {ps rs:Array TypeId} {vr:Bool} (ht:P.underlying t=some (.func ps rs vr)) (f:Fn) (x y:Array Value):(Op.equalIn (d+1) t .nilFunc (.func f x y)).run P w=.ok false w:=by
 simp [Op.equalIn,run_underlying ht]
theorem zFs {t:TypeId} {ps rs:Array TypeId} {vr:Bool} (ht:P.underlying t=some (.func ps rs vr)) (f:Fn) (x y:Array Value):(Op.equal t .nilFunc (.func f x y)).run P w=.ok false w:=zD5 9999 ht f x y
theorem zD7 (d:Nat) {t:TypeId} {ps rs:Array TypeId} {vr:Bool} (ht:P.underlying t=some (.func ps rs vr)) (f:Fn) (x y:Array Value):(Op.equalIn (d+1) t (.func f x y) .nilFunc).run P w=.ok false w:=by
 simp [Op.equalIn,run_underlying ht]
theorem zFv {t:TypeId} {ps rs:Array TypeId} {vr:Bool} (ht:P.underlying t=some (.func ps rs vr)) (f:Fn) (x y:Array Value):(Op.equal t (.func f x y) .nilFunc).run P w=.ok false w:=zD7 9999 ht f x y
theorem ZU {op:BinOp} {r:Bool} {t:TypeId} {c d:Value} {v:AV} (hv:anil op r=some v) (hc:(Op.equal t c d).run P w=.ok r w)
  (h1:op=.eql→binOp op t c d=do pure (.bool (←Op.equal t c d))) (h2:op=.neq→binOp op t c d=do pure (.bool (!(←Op.equal t c d)))):Runs P (binOp op t c d) w j v:=by
 cases op<;>simp only [anil,Option.some.injEq,reduceCtorEq]at hv
 ·subst hv;exact⟨_,by rw [h1 rfl];simp [hc],rfl⟩
 ·subst hv;exact⟨_,by rw [h2 rfl];simp [hc],rfl⟩
theorem Qq {t:TypeId} {k:EqK} (he:eqk P t=k) (h1:∀n,k≠.ints n) (h2:k≠.other):eqkOf (P.underlying t)=k:=by
 unfold eqk at he
 split at he
 ·split at he
  ·exact absurd he.symm (h1 _)
  ·exact absurd he.symm h2
 ·exact he
theorem zOz {t:TypeId} {n:Nat} (he:eqk P t=.ints n):∃fs,P.underlying t=some (.struct fs)∧fs.size=n∧zAj P fs.toList 0=true∧P.stoodInHeld t=false∧P.eqGuardType P.depth t=false:=by
 unfold eqk at he
 split at he
 ·rename_i fs hfs
  split at he
  ·rename_i hc
   simp only [Bool.and_eq_true,Bool.not_eq_true']at hc
   cases he;exact⟨fs,hfs,rfl,hc.1.1,hc.1.2,hc.2⟩
  ·cases he
 ·unfold eqkOf at he;split at he<;>cases he
theorem zC0 {t:TypeId} {k:IntKind} (ht:P.underlying t=some (.int k)) {xs:Array Value} {off:Nat} {v:Value} (hx:xs[off]? = some v):(part t xs off).run P w=.ok v w:=by
 unfold part isAgg;simp [run_underlying ht,hx]
theorem zF2 {d:Nat} {cx cy:Array Value}:∀(fs:List Field) (i:Nat) {xs ys:List AV} {r:Bool} {vs us:List Value},zAj P fs i=true→aggB xs ys=some r→fs.length=xs.length→VIs j xs vs→VIs j ys us→(∀k,cx[i+k]? = vs[k]?)→(∀k,cy[i+k]? = us[k]?)→
  (Op.eqFields (d+1) cx cy fs).run P w=.ok r w
 | [],i,xs,ys,r,vs,us,hf,hr,hl,hv,hu,h1,h2=>by
  have:xs=[]:=List.eq_nil_of_length_eq_zero hl.symm
  subst this;cases ys with
  | nil=>cases hr;simp [Op.eqFields]
  | cons y ys=>simp [aggB]at hr
 | f::fs,i,xs,ys,r,vs,us,hf,hr,hl,hv,hu,h1,h2=>by
  simp only [zAj,Bool.and_eq_true,bne_iff_ne,ne_eq,beq_iff_eq]at hf
  obtain⟨⟨⟨g1,g2⟩,g3⟩,g4⟩:=hf;cases xs with
  | nil=>cases hl
  | cons x xs=>
  cases ys with
  | nil=>cases x<;>simp [aggB]at hr
  | cons y ys=>
  cases x<;>cases y<;>simp only [aggB,reduceCtorEq]at hr
  rename_i k a k' b
  split at hr
  ·rename_i hk
   subst hk;obtain⟨r',hr',rfl⟩:=Option.map_eq_some_iff.1 hr;obtain⟨v,vs,rfl,rfl,hvs⟩:=hv;obtain⟨u,us,rfl,rfl,hus⟩:=hu;have e1:cx[f.offset]? = some (.int k a):=by rw [g2];exact h1 0
   have e2:cy[f.offset]? = some (.int k b):=by rw [g2];exact h2 0
   have ih:=zF2 (d:=d) (cx:=cx) (cy:=cy) fs (i+1) g4 hr' (by simpa using hl) hvs hus (fun k=>by have:=h1 (k+1);rw [show i+1+k=i+(k+1) by omega];exact this) (fun k=>by have:=h2 (k+1);rw [show i+1+k=i+(k+1) by omega];exact this)
   split at g3
   ·rename_i k2 ht
    unfold Op.eqFields;rw [if_pos g1];simp only [Sem.run_bind,zC0 ht e1,zC0 ht e2,Result.andThen_ok,run_equalIn_int w d f.type k k2 a b ht]
    by_cases hab:a=b
    ·subst hab;simp [ih]
    ·simp [hab]
   ·cases g3
  ·cases hr
theorem zO0 {o:Option TypeDesc} (he:eqkOf o=.bool):o=some .bool:=by
 unfold eqkOf at he;split at he<;>first | rfl | cases he
theorem zDV {o:Option TypeDesc} (he:eqkOf o=.slice):∃et,o=some (.slice et):=by
 unfold eqkOf at he;split at he<;>first | exact⟨_,rfl⟩ | cases he
theorem zBw {o:Option TypeDesc} (he:eqkOf o=.pointer):∃et,o=some (.pointer et):=by
 unfold eqkOf at he;split at he<;>first | exact⟨_,rfl⟩ | cases he
theorem zE2 {o:Option TypeDesc} (he:eqkOf o=.func):∃a b c,o=some (.func a b c):=by
 unfold eqkOf at he;split at he<;>first | exact⟨_,_,_,rfl⟩ | cases he
theorem VI.slice_ne {o off len:Nat} {cap:Cap} {c:Value} (hc:VI j (.sl o off len cap) c):∃x n m,c=.slice (some x) n m:=by
 cases cap with
 | known q=>obtain⟨l,_,_,rfl,_⟩:=hc;exact⟨_,_,_,rfl⟩
 | grown q=>obtain⟨l,_,_,_,rfl,_⟩:=hc;exact⟨_,_,_,rfl⟩
theorem zLa {op:BinOp} {xt:TypeId} {x y v:AV} {c d:Value} (hv:abin op (eqk P xt) x y=some v) (hc:VI j x c) (hd:VI j y d):
  Runs P (binOp op xt c d) w j v∧(zHt c=true∨(P.eqGuardType P.depth xt=false∧∃xs ys,c=.agg xs∧d=.agg ys)):=by
 unfold abin at hv
 split at hv
 ·rename_i k n k' m
  rw [show c=_ from hc,show d=_ from hd]
  refine⟨?_,.inl rfl⟩
  split at hv
  ·exact zDe (.inl rfl) hv
  ·exact zDe (.inr rfl) hv
  ·rename_i n1 n2
   split at hv
   ·rename_i ek;subst ek;exact zLZ ⟨n1,n2⟩ hv
   ·cases hv
 ·rw [show c=_ from hc,show d=_ from hd]
  exact⟨zLX hv,.inl rfl⟩
 ·rw [show c=_ from hc,show d=_ from hd]
  split at hv
  ·rename_i hek
   exact⟨ZU hv (zLL (zO0 (Qq hek (fun _=>by simp) (by simp))) _ _) (fun e=>by subst e;rfl) (fun e=>by subst e;rfl),.inl rfl⟩
  ·cases hv
 ·split at hv
  ·rename_i hek
   obtain⟨et,hu⟩:=zDV (Qq hek (fun _=>by simp) (by simp))
   rw [show c=_ from hc,show d=_ from hd];exact⟨ZU hv (zBn hu _ _ _) (fun e=>by subst e;rfl) (fun e=>by subst e;rfl),.inl rfl⟩
  ·cases hv
 ·split at hv
  ·rename_i hek
   obtain⟨et,hu⟩:=zDV (Qq hek (fun _=>by simp) (by simp))
   obtain⟨x,n,m,rfl⟩:=VI.slice_ne hc;rw [show d=_ from hd];exact⟨ZU hv (zBn hu _ _ _) (fun e=>by subst e;rfl) (fun e=>by subst e;rfl),.inl rfl⟩
  ·cases hv
 ·split at hv
  ·rename_i hek
   obtain⟨et,hu⟩:=zDV (Qq hek (fun _=>by simp) (by simp))
   obtain⟨x,n,m,rfl⟩:=VI.slice_ne hd;rw [show c=_ from hc];exact⟨ZU hv (zFt hu _ _ _) (fun e=>by subst e;rfl) (fun e=>by subst e;rfl),.inl rfl⟩
  ·cases hv
 ·split at hv
  ·rename_i hek
   obtain⟨et,hu⟩:=zBw (Qq hek (fun _=>by simp) (by simp))
   rw [show c=_ from hc,show d=_ from hd];exact⟨ZU hv (zCu hu _) (fun e=>by subst e;rfl) (fun e=>by subst e;rfl),.inl rfl⟩
  ·cases hv
 ·split at hv
  ·rename_i hek
   obtain⟨et,hu⟩:=zBw (Qq hek (fun _=>by simp) (by simp))
   rw [show d=_ from hd];obtain⟨l,_,rfl,_⟩:=hc;exact⟨ZU hv (zCu hu _) (fun e=>by subst e;rfl) (fun e=>by subst e;rfl),.inl rfl⟩
  ·cases hv
 ·split at hv
  ·rename_i hek
   obtain⟨et,hu⟩:=zBw (Qq hek (fun _=>by simp) (by simp))
   rw [show c=_ from hc];obtain⟨l,_,rfl,_⟩:=hd;exact⟨ZU hv (zHG hu _) (fun e=>by subst e;rfl) (fun e=>by subst e;rfl),.inl rfl⟩
  ·cases hv
 ·split at hv
  ·rename_i hek
   obtain⟨a,b,r,hu⟩:=zE2 (Qq hek (fun _=>by simp) (by simp))
   rw [show c=_ from hc,show d=_ from hd];exact⟨ZU hv (zLK hu) (fun e=>by subst e;rfl) (fun e=>by subst e;rfl),.inl rfl⟩
  ·cases hv
 ·split at hv
  ·rename_i hek
   obtain⟨a,b,r,hu⟩:=zE2 (Qq hek (fun _=>by simp) (by simp))
   rw [show d=_ from hd];obtain⟨_,_,_,_,rfl⟩:=hc;exact⟨ZU hv (zFv hu _ _ _) (fun e=>by subst e;rfl) (fun e=>by subst e;rfl),.inl rfl⟩
  ·cases hv
 ·split at hv
  ·rename_i hek
   obtain⟨a,b,r,hu⟩:=zE2 (Qq hek (fun _=>by simp) (by simp))
   rw [show c=_ from hc];obtain⟨_,_,_,_,rfl⟩:=hd;exact⟨ZU hv (zFs hu _ _ _) (fun e=>by subst e;rfl) (fun e=>by subst e;rfl),.inl rfl⟩
  ·cases hv
 ·split at hv
  ·rename_i xs ys n hek
   split at hv
   ·rename_i hl
    obtain⟨fs,g1,g2,g3,g4,g5⟩:=zOz hek;obtain⟨r,hr,hv⟩:=Option.bind_eq_some_iff.1 hv;obtain⟨vs,hvs,rfl⟩:=hc;obtain⟨us,hus,rfl⟩:=hd;have hfo:P.fieldsOf xt=fs:=by simp [Program.fieldsOf,g1]
    have he:(Op.equalIn 10000 xt (.agg vs.toArray) (.agg us.toArray)).run P w=.ok r w:=by
     rw [run_equalIn_struct w 9999 xt _ _ (by rw [hfo];exact g1) g4,hfo]
     exact zF2 (d:=9998) fs.toList 0 g3 hr (by rw [hl.1,←g2];simp) hvs hus (fun k=>by simp) (fun k=>by simp)
    refine⟨ZU hv he (fun e=>by subst e;rfl) (fun e=>by subst e;rfl),.inr ⟨g5,_,_,rfl,rfl⟩⟩
   ·cases hv
  ·cases hv
 ·cases hv
theorem zNV {op:UnOp} {x v:AV} {c:Value} (hv:aun op x=some v) (hc:VI j x c):Runs P (Op.unary op c) w j v:=by
 unfold aun at hv
 split at hv
 ·rw [show c=_ from hc];cases hv;exact⟨_,by simp [Op.unary,Op.intArith],rfl⟩
 ·rw [show c=_ from hc]
  simp only [aint,Option.some.injEq]at hv
  subst hv;exact⟨_,by simp [Op.unary,Op.intBits],rfl⟩
 ·rw [show c=_ from hc];cases hv;exact⟨_,by simp [Op.unary],rfl⟩
 ·cases hv
end Go.Ab
