/- THE RULES BY WHICH CODE IS WALKED over values without a heap: equations, and the one name 'pw' for all of them. Written by a program. -/
import Derived.Test.YtgkbfiilhocioaaGreatBAbPg
import Derived.Test.YtgkbfiilhocioaaGreatBAbAid
set_option linter.unusedVariables false
set_option linter.unusedSimpArgs false
set_option linter.defProp false
namespace Go.Ab
section
variable {P:Program} {Q:Exit→PEnv→PHeap→Prop} {e:PEnv} {h:PHeap} {K:PEnv→PHeap→Prop} {KA:PV→PHeap→Prop} {nb nr:Nat}
theorem zNq:vp P .skip Q e h=Q .normal e h:=rfl
theorem zKt (S:List Nat) (its:List II):vp P (.region S its) Q e h=RVp P its e h fun e' h'=>Q .normal (PEnv.mk S (S.map e')) h':=rfl
theorem zNs (S:List Nat) (zs:List (List AV)) (its:List DI):vp P (.draw S zs its) Q e h=DVp P h.next zs.length its [] e (h.news zs) fun e' h'=>Q .normal (PEnv.mk S (S.map e')) h':=rfl
theorem zOw (a b:IC):vp P (.seq a b) Q e h=vp P a (fun x e' h'=>match x with | .normal=>vp P b Q e' h' | x=>Q x e' h') e h:=rfl
theorem zNt (c:IX) (a b:IC):vp P (.cond c a b) Q e h=Zf (c.pv e) (vp P a Q e h) (vp P b Q e h):=rfl
theorem zMY (id:Nat) (c:IC):vp P (.block id c) Q e h=vp P c (fun x e' h'=>match x with | .exit id'=>if id'=id then Q .normal e' h' else Q (.exit id') e' h' | x=>Q x e' h') e h:=rfl
theorem zNr (id:Nat):vp P (.exit id) Q e h=Q (.exit id) e h:=rfl
theorem zOx:vp P .ret Q e h=Q .ret e h:=rfl
theorem zOo:RVp P [] e h K=K e h:=rfl
theorem RVp_q (d:Option Nat) (op:IOp) (g:Option (Nat×Bool)) (r:List II):RVp P (⟨d,op,true,g⟩::r) e h K=optK (gqp 0 0 ⟨d,op,true,g⟩ e h) fun v=>RVp P r (e.put d v) h K:=rfl
theorem RVp_e (d:Option Nat) (op:IOp) (g:Option (Nat×Bool)) (r:List II):RVp P (⟨d,op,false,g⟩::r) e h K=gep P ⟨d,op,false,g⟩ e h fun v h'=>RVp P r (e.put d v) h' K:=rfl
theorem zOr (recs:List RecP):DVp P nb nr [] recs e h K=K e h:=rfl
theorem DVp_q (d:Option Nat) (op:IOp) (g:Option (Nat×Bool)) (i:Nat) (c:List Nat) (r:List DI) (recs:List RecP):DVp P nb nr (⟨⟨d,op,true,g⟩,i,c⟩::r) recs e h K=optK (gqp nb nr ⟨d,op,true,g⟩ e h) fun v=>DVp P nb nr r (qC ⟨⟨d,op,true,g⟩,i,c⟩ e v++recs) (e.put d v) h K:=rfl
theorem DVp_e (d:Option Nat) (op:IOp) (g:Option (Nat×Bool)) (i:Nat) (c:List Nat) (r:List DI) (recs:List RecP):DVp P nb nr (⟨⟨d,op,false,g⟩,i,c⟩::r) recs e h K=gep P ⟨d,op,false,g⟩ e h fun v h'=>Qx c recs h'∧DVp P nb nr r recs (e.put d v) h' K:=rfl
theorem zNU (d:Option Nat) (op:IOp) (q:Bool):gqp nb nr ⟨d,op,q,none⟩ e h=qp nb nr op e h:=rfl
theorem zNT (d:Option Nat) (op:IOp) (q:Bool) (t:Nat) (b:Bool):gqp nb nr ⟨d,op,q,some (t,b)⟩ e h=Qa (e t) b (qp nb nr op e h):=rfl
theorem zNW (d:Option Nat) (op:IOp) (q:Bool):gep P ⟨d,op,q,none⟩ e h KA=ep P op e h KA:=rfl
theorem zNV (d:Option Nat) (op:IOp) (q:Bool) (t:Nat) (b:Bool):gep P ⟨d,op,q,some (t,b)⟩ e h KA=Ze (e t) b (ep P op e h KA) (KA (.tup []) h):=rfl
theorem zIR (a b:Prop):Zf (.bool true) a b=a:=rfl
theorem zG3 (a b:Prop):Zf (.bool false) a b=b:=rfl
theorem zJ3 (c:Prop) [Decidable c] (a b:Prop):Zf (.bool (decide c)) a b=if c then a else b:=by by_cases x:c<;>simp [Zf,x]
theorem zIS (c:Prop) [Decidable c] (a b:Prop):Zf (.bool (!decide c)) a b=if c then b else a:=by by_cases x:c<;>simp [Zf,x]
theorem zG1 (c b:Bool) (x y:Prop):Ze (.bool c) b x y=if c=b then x else y:=rfl
theorem zGz (c b:Bool) (x:Option PV):Qa (.bool c) b x=if c=b then x else some (.tup []):=rfl
theorem zGy (b:Bool) (x:Option PV):Qa (.tup []) b x=some (.tup []):=rfl
theorem zG0 (b:Bool) (x y:Prop):Ze (.tup []) b x y=y:=rfl
theorem pv_t (n:Nat):(IX.t n).pv e=e n:=rfl
theorem pv_c (v:AV):(IX.c v).pv e=ofAV v:=rfl
theorem zMw (s:Nat) (S:List Nat) (v:PV) (vs:List PV) (t:Nat):PEnv.mk (s::S) (v::vs) t=if t=s then v else PEnv.mk S vs t:=rfl
theorem zLF (d:Nat) (v:PV) (t:Nat):e.put (some d) v t=if t=d then v else e t:=rfl
theorem zLG (v:PV):e.put none v=e:=rfl
theorem qp_mv (x:IX):qp nb nr (.mv x) e h=some (x.pv e):=rfl
theorem zNz (c a b:IX):qp nb nr (.pick c a b) e h=pPick (c.pv e) (a.pv e) (b.pv e):=rfl
theorem zO5 (op:BinOp) (ek:EqK) (x y:IX):qp nb nr (.bin op ek x y) e h=pbin op ek (x.pv e) (y.pv e):=rfl
theorem qp_un (op:UnOp) (x:IX):qp nb nr (.un op x) e h=pun op (x.pv e):=rfl
theorem zN1 (k:IntKind) (x:IX):qp nb nr (.conv k x) e h=pConv k (x.pv e):=rfl
theorem zIJ (x:IX):qp nb nr (.nilCheck x) e h=pNil (x.pv e):=rfl
theorem zMn (z:List AV) (ps:List (Nat×Nat×IX)):qp nb nr (.build z ps) e h=(pfill (ofAVs z) (ps.map fun p=>(p.1,p.2.1,p.2.2.pv e))).map .agg:=rfl
theorem zMm (a:Bool) (n off:Nat) (x:IX):qp nb nr (.field a n off x) e h=zCZ a n off (x.pv e):=rfl
theorem zGn (off:Nat) (x:IX):qp nb nr (.fieldAddr off x) e h=Qn off (x.pv e):=rfl
theorem zGm (sz:Nat) (x i:IX):qp nb nr (.indexAddr sz x i) e h=zBa sz (x.pv e) (i.pv e):=rfl
theorem zIL (x i:IX):qp nb nr (.indexStr x i) e h=zDA (x.pv e) (i.pv e):=rfl
theorem zJw (x:IX) (i:Nat):qp nb nr (.extract x i) e h=zBx (x.pv e) i:=rfl
theorem zO3 (x:IX):qp nb nr (.len x) e h=pLen (x.pv e):=rfl
theorem zLB (x:IX):qp nb nr (.lenStr x) e h=zC9 (x.pv e):=rfl
theorem zO4 (x:IX):qp nb nr (.cap x) e h=pCap (x.pv e):=rfl
theorem zMl (sz:Nat) (x:IX) (lo hi mx:Option IX):qp nb nr (.slice sz x lo hi mx) e h=ZT sz (x.pv e) (lo.map (·.pv e)) (hi.map (·.pv e)) (mx.map (·.pv e)):=rfl
theorem zII (x:IX) (lo hi:Option IX):qp nb nr (.sliceStr x lo hi) e h=zBA (x.pv e) (lo.map (·.pv e)) (hi.map (·.pv e)):=rfl
theorem zLA (mx:Bool) (x y:IX):qp nb nr (.maxmin mx x y) e h=zBZ mx (x.pv e) (y.pv e):=rfl
theorem zIK (f:FuncId) (a b:List IX):qp nb nr (.makeFunc f a b) e h=some (.clo f (a.map (·.pv e)) (b.map (·.pv e))):=rfl
theorem zN0 (a:Bool) (n:Nat) (x:IX):qp nb nr (.load a n x) e h=pldv a n (x.pv e) h:=rfl
theorem zO2 (k:Nat):qp nb nr (.rev k) e h=if k<nr then some (.ptr (nb+k) 0)else none:=rfl
theorem zNd (z:List AV):ep P (.alloc z) e h KA=KA (.ptr h.next 0) (h.new (ofAVs z)):=rfl
theorem zPT (x:IX):ep P (.box x) e h KA=((x.pv e).cells.all PV.one=true∧KA (.ptr h.next 0) (h.new (x.pv e).cells)):=rfl
theorem zKd (sz len:Nat) (z:List AV) (ps:List (Nat×Nat×IX)):ep P (.buildSl sz len z ps) e h KA=optK (pfill (ofAVs (zeros z len)) (ps.map fun p=>(p.1,p.2.1,p.2.2.pv e))) fun cs=>KA (.sl h.next 0 len (.known len)) (h.new cs):=rfl
def zEa (n:Nat) (x v:PV) (h:PHeap) (KA:PV→PHeap→Prop):Prop:=
 match x with
 | .ptr s i=>v.cells.length=n∧optK (h.wr s i v.cells) fun h'=>KA .undef h'
 | _=>False
def pMake (sz bytes:Nat) (z:List AV) (l c:PV) (h:PHeap) (KA:PV→PHeap→Prop):Prop:=
 match l,c with
 | .int _ l,.int _ c=>(0≤l∧l≤c∧c*bytes≤140737488355328∧c≤9223372036854775807)∧KA (.sl h.next 0 l.toNat (.known c.toNat)) (h.new (ofAVs (zeros z c.toNat)))
 | _,_=>False
def zEc (sz bytes:Nat) (z:List AV) (s n:PV) (h:PHeap) (KA:PV→PHeap→Prop):Prop:=
 match s,n with
 | .fz _ .nils _ _,.int _ n=>(0<n∧n*bytes≤140737488355328∧n≤4611686018427387904)∧KA (.sl h.next 0 n.toNat (.grown sz)) (h.new (ofAVs (zeros z n.toNat)))
 | _,_=>False
def zEb (P:Program) (f:PV) (args:List PV) (h:PHeap) (KA:PV→PHeap→Prop):Prop:=
 match f with
 | .clo f first caps=>okF P f=true∧zA P f (first++args++caps) h KA
 | _=>False
theorem zNb (n:Nat) (x v:IX):ep P (.store n x v) e h KA=zEa n (x.pv e) (v.pv e) h KA:=rfl
theorem zKE (n s i:Nat) (v:PV):zEa n (.ptr s i) v h KA=(v.cells.length=n∧optK (h.wr s i v.cells) fun h'=>KA .undef h'):=rfl
theorem zMG (sz bytes:Nat) (z:List AV) (l c:IX):ep P (.makeSl sz bytes z l c) e h KA=pMake sz bytes z (l.pv e) (c.pv e) h KA:=rfl
theorem zI2 (sz bytes:Nat) (z:List AV) (s n:IX):ep P (.appendMk sz bytes z s n) e h KA=zEc sz bytes z (s.pv e) (n.pv e) h KA:=rfl
theorem zIg (sz bytes:Nat) (z:List AV) (w:Bool) (l:Nat) (cs:List PV) (k:IntKind) (n:Int):zEc sz bytes z (.fz w .nils l cs) (.int k n) h KA=((0<n∧n*bytes≤140737488355328∧n≤4611686018427387904)∧KA (.sl h.next 0 n.toNat (.grown sz)) (h.new (ofAVs (zeros z n.toNat)))):=rfl
theorem zLa (sz bytes:Nat) (z:List AV) (k k':IntKind) (l c:Int):pMake sz bytes z (.int k l) (.int k' c) h KA=((0≤l∧l≤c∧c*bytes≤140737488355328∧c≤9223372036854775807)∧KA (.sl h.next 0 l.toNat (.known c.toNat)) (h.new (ofAVs (zeros z c.toNat)))):=rfl
theorem zMH (sz bytes:Nat) (s x:IX):ep P (.append sz bytes s x) e h KA=optK (qH sz bytes h (s.pv e) (x.pv e)) fun p=>KA p.1 p.2:=rfl
theorem zOh (sz:Nat) (d s:IX):ep P (.copy sz d s) e h KA=optK (pcopy sz h (d.pv e) (s.pv e)) fun p=>KA p.1 p.2:=rfl
theorem zOi (f:FuncId) (args:List IX):ep P (.call f args) e h KA=zA P f (args.map (·.pv e)) h KA:=rfl
theorem zNc (f:IX) (args:List IX):ep P (.callV f args) e h KA=zEb P (f.pv e) (args.map (·.pv e)) h KA:=rfl
theorem zKI (f:FuncId) (a b args:List PV):zEb P (.clo f a b) args h KA=(okF P f=true∧zA P f (a++args++b) h KA):=rfl
theorem zNH:ofAV .undef=.undef:=rfl
theorem of_bool (b:Bool):ofAV (.bool b)=.bool b:=rfl
theorem of_int (k:IntKind) (n:Int):ofAV (.int k n)=.int k n:=rfl
theorem zPE (s:List UInt8):ofAV (.str s)=.str s:=rfl
theorem zON:ofAV .nilp=.nilp:=rfl
theorem zOO:ofAV .nilf=.nilf:=rfl
theorem zOM:ofAV .nils=.fz true .nils 0 []:=rfl
theorem zPF (f:FuncId) (a b:List AV):ofAV (.clo f a b)=.clo f (ofAVs a) (ofAVs b):=rfl
theorem zPG (a:List AV):ofAV (.agg a)=.agg (ofAVs a):=rfl
theorem zOL:ofAVs []=[]:=rfl
theorem zNG (c:AV) (cs:List AV):ofAVs (c::cs)=ofAV c::ofAVs cs:=rfl
theorem zOK (n:Nat) (c:AV):ofAVs (List.replicate n c)=List.replicate n (ofAV c):=by rw [zFs,List.map_replicate]
theorem zNB (k:IntKind) (ek:EqK) (a b:Int):pbin .add ek (.int k a) (.int k b)=some (.int k (k.wrap (a+b))):=by simp [pbin,abin,aint,ofAV]
theorem zM1 (k:IntKind) (ek:EqK) (a b:Int):pbin .sub ek (.int k a) (.int k b)=some (.int k (k.wrap (a-b))):=by simp [pbin,abin,aint,ofAV]
theorem zM5 (k:IntKind) (ek:EqK) (a b:Int):pbin .mul ek (.int k a) (.int k b)=some (.int k (k.wrap (a*b))):=by simp [pbin,abin,aint,ofAV]
theorem zNA (k:IntKind) (ek:EqK) (a b:Int):pbin .eql ek (.int k a) (.int k b)=some (.bool (decide (a=b))):=by simp [pbin,abin,aint,ofAV]
theorem zM4 (k:IntKind) (ek:EqK) (a b:Int):pbin .neq ek (.int k a) (.int k b)=some (.bool (!decide (a=b))):=by simp [pbin,abin,aint,ofAV]
theorem zM6 (k:IntKind) (ek:EqK) (a b:Int):pbin .lss ek (.int k a) (.int k b)=some (.bool (decide (a<b))):=by simp [pbin,abin,aint,ofAV]
theorem zM7 (k:IntKind) (ek:EqK) (a b:Int):pbin .leq ek (.int k a) (.int k b)=some (.bool (decide (a≤b))):=by simp [pbin,abin,aint,ofAV]
theorem zM8 (k:IntKind) (ek:EqK) (a b:Int):pbin .gtr ek (.int k a) (.int k b)=some (.bool (decide (b<a))):=by simp [pbin,abin,aint,ofAV]
theorem zM9 (k:IntKind) (ek:EqK) (a b:Int):pbin .geq ek (.int k a) (.int k b)=some (.bool (decide (b≤a))):=by simp [pbin,abin,aint,ofAV]
theorem zM3 (k:IntKind) (ek:EqK) (a b:Int):pbin .quo ek (.int k a) (.int k b)=if b=0 then none else some (.int k (k.wrap (a.tdiv b))):=by simp only [pbin,abin,aint,if_true];split<;>rfl
theorem zM2 (k:IntKind) (ek:EqK) (a b:Int):pbin .rem ek (.int k a) (.int k b)=if b=0 then none else some (.int k (a.tmod b)):=by simp only [pbin,abin,aint,if_true];split<;>rfl
theorem zKC (n:Nat) (xs ys:List PV):pbin .eql (.ints n) (.agg xs) (.agg ys)=if xs.length=n∧ys.length=n then(paggB xs ys).bind fun r=>some (.bool r)else none:=rfl
theorem zLW:paggB [] []=some true:=rfl
theorem zKD (k:IntKind) (a b:Int) (xs ys:List PV):paggB (.int k a::xs) (.int k b::ys)=(paggB xs ys).map fun r=>decide (a=b) && r:=by simp [paggB]
theorem zLV (a b:Bool):pbin .eql .bool (.bool a) (.bool b)=some (.bool (a == b)):=rfl
theorem zLU (a b:Bool):pbin .neq .bool (.bool a) (.bool b)=some (.bool !(a == b)):=rfl
theorem zKB (w w':Bool) (a:AV) (n n':Nat) (cs cs':List PV):pbin .eql .slice (.fz w a n cs) (.fz w' .nils n' cs')=some (.bool (ZI a)):=rfl
theorem zIa (w w':Bool) (a:AV) (n n':Nat) (cs cs':List PV):pbin .neq .slice (.fz w a n cs) (.fz w' .nils n' cs')=some (.bool (!ZI a)):=rfl
theorem zKA (s o n:Nat) (c:Cap) (w':Bool) (n':Nat) (cs':List PV):pbin .eql .slice (.sl s o n c) (.fz w' .nils n' cs')=some (.bool false):=rfl
theorem zIZ (s o n:Nat) (c:Cap) (w':Bool) (n':Nat) (cs':List PV):pbin .neq .slice (.sl s o n c) (.fz w' .nils n' cs')=some (.bool true):=rfl
theorem zIY (ek:EqK) (a b:List UInt8):pbin .add ek (.str a) (.str b)=if a.length+b.length≤9223372036854775807 then some (.str (a++b))else none:=by simp only [pbin,astr];split<;>rfl
theorem zIX (ek:EqK) (a b:List UInt8):pbin .eql ek (.str a) (.str b)=some (.bool (a == b)):=rfl
theorem zIW (ek:EqK) (a b:List UInt8):pbin .neq ek (.str a) (.str b)=some (.bool !(a == b)):=rfl
theorem zIx:ZI .nils=true:=rfl
theorem zL9 (o f n:Nat) (c:Cap):ZI (.sl o f n c)=false:=rfl
theorem zN6 (k:IntKind) (n:Int):pun .neg (.int k n)=some (.int k (k.wrap (0-n))):=rfl
theorem zN5 (b:Bool):pun .not (.bool b)=some (.bool !b):=rfl
theorem zKF (a b:PV):pPick (.bool true) a b=some a:=rfl
theorem zIc (a b:PV):pPick (.bool false) a b=some b:=rfl
theorem zLd (k k':IntKind) (n:Int):pConv k (.int k' n)=some (.int k (k.wrap n)):=rfl
theorem zNC (s i:Nat):pNil (.ptr s i)=some (.ptr s i):=rfl
theorem zND (f:FuncId) (a b:List PV):pNil (.clo f a b)=some (.clo f a b):=rfl
theorem zOG (a:AV) (c:PV) (cs:List PV):pNil (.fp a (c::cs))=some (.fp a (c::cs)):=rfl
theorem zKH (n off:Nat) (cs:List PV):zCZ true n off (.agg cs)=some (.agg ((cs.drop off).take n)):=rfl
theorem zKG (n off:Nat) (cs:List PV):zCZ false n off (.agg cs)=cs[off]?:=rfl
theorem zFR (off s i:Nat):Qn off (.ptr s i)=some (.ptr s (i+off)):=rfl
theorem zGD (off:Nat) (a:AV) (c:PV) (cs:List PV):Qn off (.fp a (c::cs))=some (.fp (pAdd a off) ((c::cs).drop off)):=rfl
theorem zLb (sz s off len:Nat) (c:Cap) (k:IntKind) (n:Int):zBa sz (.sl s off len c) (.int k n)=if 0≤n∧n<len then some (.ptr s (off+n.toNat*sz))else none:=rfl
theorem zLc (sz:Nat) (w:Bool) (a:AV) (len:Nat) (cs:List PV) (k:IntKind) (n:Int):zBa sz (.fz w a len cs) (.int k n)=if 0≤n∧n<len then some (.fp (pAt a (n.toNat*sz)) (cs.drop (n.toNat*sz)))else none:=rfl
theorem zIf (s:List UInt8) (k:IntKind) (n:Int):zDA (.str s) (.int k n)=if 0≤n then(s[n.toNat]?).map fun c=>.int .u8 c.toNat else none:=rfl
theorem zG6 (vs:List PV) (i:Nat):zBx (.tup vs) i=vs[i]?:=rfl
theorem zOI (w:Bool) (a:AV) (n:Nat) (cs:List PV):pLen (.fz w a n cs)=some (.int .i64 n):=rfl
theorem zOH (s o n:Nat) (c:Cap):pLen (.sl s o n c)=some (.int .i64 n):=rfl
theorem zIe (s:List UInt8):zC9 (.str s)=some (.int .i64 s.length):=rfl
theorem zLe (w:Bool) (l:Nat) (cs:List PV):pCap (.fz w .nils l cs)=some (.int .i64 0):=rfl
theorem zOJ (s o n c:Nat):pCap (.sl s o n (.known c))=some (.int .i64 c):=rfl
theorem zId (mx:Bool) (k:IntKind) (a b:Int):zBZ mx (.int k a) (.int k b)=some (.int k (if mx=true then max a b else min a b)):=by simp [zBZ]
theorem zLO (n s i:Nat):pldv false n (.ptr s i) h=h.rd1 s i:=rfl
theorem zLN (n s i:Nat):pldv true n (.ptr s i) h=(h.rd s i n).map .agg:=rfl
theorem zMy (n:Nat) (a:AV) (cs:List PV):pldv false n (.fp a cs) h=cs[0]?:=rfl
theorem zMx (n:Nat) (a:AV) (cs:List PV):pldv true n (.fp a cs) h=if 0<n∧n≤cs.length then some (.agg (cs.take n))else none:=rfl
theorem zLM:h.news []=h:=rfl
theorem zJ1 (z:List AV) (zs:List (List AV)):h.news (z::zs)=(h.new (ofAVs z)).news zs:=rfl
theorem zKr (recs:List RecP):Qx [] recs h=True:=by
 apply propext;refine⟨fun _=>trivial,fun _=>?_⟩
 induction recs with
 | nil=>trivial
 | cons r rs ih=>exact⟨by simp,ih⟩
theorem zI7 (c:List Nat):Qx c [] h=True:=rfl
theorem zI8 (c:List Nat) (i:Nat) (a:Bool) (n:Nat) (x v:PV) (rs:List RecP):Qx c (⟨i,a,n,x,v⟩::rs) h=((if c.contains i=true then pldv a n x h=some v else True)∧Qx c rs h):=rfl
theorem zIG (d:Option Nat) (a:Bool) (n:Nat) (x:IX) (g:Option (Nat×Bool)) (i:Nat) (c:List Nat) (v:PV):qC ⟨⟨d,.load a n x,true,g⟩,i,c⟩ e v=if zAf g e=true then [⟨i,a,n,x.pv e,v⟩]else []:=rfl
theorem zK8 (d:Option Nat) (x:IX) (g:Option (Nat×Bool)) (i:Nat) (c:List Nat) (v:PV):qC ⟨⟨d,(.mv x),true,g⟩,i,c⟩ e v=[]:=rfl
theorem zIF (d:Option Nat) (x y z:IX) (g:Option (Nat×Bool)) (i:Nat) (c:List Nat) (v:PV):qC ⟨⟨d,(.pick x y z),true,g⟩,i,c⟩ e v=[]:=rfl
theorem zJv (d:Option Nat) (op:BinOp) (ek:EqK) (x y:IX) (g:Option (Nat×Bool)) (i:Nat) (c:List Nat) (v:PV):qC ⟨⟨d,(.bin op ek x y),true,g⟩,i,c⟩ e v=[]:=rfl
theorem zK6 (d:Option Nat) (op:UnOp) (x:IX) (g:Option (Nat×Bool)) (i:Nat) (c:List Nat) (v:PV):qC ⟨⟨d,(.un op x),true,g⟩,i,c⟩ e v=[]:=rfl
theorem zIH (d:Option Nat) (k:IntKind) (x:IX) (g:Option (Nat×Bool)) (i:Nat) (c:List Nat) (v:PV):qC ⟨⟨d,(.conv k x),true,g⟩,i,c⟩ e v=[]:=rfl
theorem zET (d:Option Nat) (x:IX) (g:Option (Nat×Bool)) (i:Nat) (c:List Nat) (v:PV):qC ⟨⟨d,(.nilCheck x),true,g⟩,i,c⟩ e v=[]:=rfl
theorem zGj (d:Option Nat) (z:List AV) (ps:List (Nat×Nat×IX)) (g:Option (Nat×Bool)) (i:Nat) (c:List Nat) (v:PV):qC ⟨⟨d,(.build z ps),true,g⟩,i,c⟩ e v=[]:=rfl
theorem zGi (d:Option Nat) (a:Bool) (n off:Nat) (x:IX) (g:Option (Nat×Bool)) (i:Nat) (c:List Nat) (v:PV):qC ⟨⟨d,(.field a n off x),true,g⟩,i,c⟩ e v=[]:=rfl
theorem zDp (d:Option Nat) (off:Nat) (x:IX) (g:Option (Nat×Bool)) (i:Nat) (c:List Nat) (v:PV):qC ⟨⟨d,(.fieldAddr off x),true,g⟩,i,c⟩ e v=[]:=rfl
theorem zDo (d:Option Nat) (sz:Nat) (x y:IX) (g:Option (Nat×Bool)) (i:Nat) (c:List Nat) (v:PV):qC ⟨⟨d,(.indexAddr sz x y),true,g⟩,i,c⟩ e v=[]:=rfl
theorem zEV (d:Option Nat) (x y:IX) (g:Option (Nat×Bool)) (i:Nat) (c:List Nat) (v:PV):qC ⟨⟨d,(.indexStr x y),true,g⟩,i,c⟩ e v=[]:=rfl
theorem zFO (d:Option Nat) (x:IX) (j:Nat) (g:Option (Nat×Bool)) (i:Nat) (c:List Nat) (v:PV):qC ⟨⟨d,(.extract x j),true,g⟩,i,c⟩ e v=[]:=rfl
theorem zJt (d:Option Nat) (x:IX) (g:Option (Nat×Bool)) (i:Nat) (c:List Nat) (v:PV):qC ⟨⟨d,(.len x),true,g⟩,i,c⟩ e v=[]:=rfl
theorem zF9 (d:Option Nat) (x:IX) (g:Option (Nat×Bool)) (i:Nat) (c:List Nat) (v:PV):qC ⟨⟨d,(.lenStr x),true,g⟩,i,c⟩ e v=[]:=rfl
theorem zJu (d:Option Nat) (x:IX) (g:Option (Nat×Bool)) (i:Nat) (c:List Nat) (v:PV):qC ⟨⟨d,(.cap x),true,g⟩,i,c⟩ e v=[]:=rfl
theorem zGh (d:Option Nat) (sz:Nat) (x:IX) (lo hi mx:Option IX) (g:Option (Nat×Bool)) (i:Nat) (c:List Nat) (v:PV):qC ⟨⟨d,(.slice sz x lo hi mx),true,g⟩,i,c⟩ e v=[]:=rfl
theorem zES (d:Option Nat) (x:IX) (lo hi:Option IX) (g:Option (Nat×Bool)) (i:Nat) (c:List Nat) (v:PV):qC ⟨⟨d,(.sliceStr x lo hi),true,g⟩,i,c⟩ e v=[]:=rfl
theorem zF8 (d:Option Nat) (mx:Bool) (x y:IX) (g:Option (Nat×Bool)) (i:Nat) (c:List Nat) (v:PV):qC ⟨⟨d,(.maxmin mx x y),true,g⟩,i,c⟩ e v=[]:=rfl
theorem zEU (d:Option Nat) (f:FuncId) (y z:List IX) (g:Option (Nat×Bool)) (i:Nat) (c:List Nat) (v:PV):qC ⟨⟨d,(.makeFunc f y z),true,g⟩,i,c⟩ e v=[]:=rfl
theorem zJs (d:Option Nat) (j:Nat) (g:Option (Nat×Bool)) (i:Nat) (c:List Nat) (v:PV):qC ⟨⟨d,(.rev j),true,g⟩,i,c⟩ e v=[]:=rfl
theorem zGZ:zAf none e=true:=rfl
theorem zGY (t:Nat) (b:Bool):zAf (some (t,b)) e=(match e t with | .bool c=>decide (c=b) | _=>false):=rfl
theorem zJr:ZO [] e h=some []:=rfl
theorem zJq (t:Nat) (r:List IRes):ZO (.tmp t::r) e h=(ZO r e h).map fun vs=>e t::vs:=rfl
theorem zIC (t:Nat) (a:Bool) (n:Nat) (r:List IRes):ZO (.cell t a n::r) e h=(pldv a n (e t) h).bind fun v=>(ZO r e h).map fun vs=>v::vs:=rfl
theorem zID (res:List IRes):retP res KA .normal e h=optK (ZO res e h) fun vs=>KA (packP vs) h:=rfl
theorem zMg (res:List IRes):retP res KA .ret e h=optK (ZO res e h) fun vs=>KA (packP vs) h:=rfl
theorem zLY (v:PV):packP [v]=v:=rfl
theorem zLZ:packP []=.tup []:=rfl
theorem zLX (u v:PV) (r:List PV):packP (u::v::r)=.tup (u::v::r):=rfl
theorem zLP (cs:List PV):pfill cs []=some cs:=rfl
theorem zJ2 (cs:List PV) (off size:Nat) (v:PV) (r:List (Nat×Nat×PV)):pfill cs ((off,size,v)::r)=if v.cells.length=size∧off+size≤cs.length∧v.cells.all PV.one=true then pfill (cs.take off++v.cells++cs.drop (off+size)) r else none:=rfl
theorem zJ6 (k:IntKind) (n:Int):PV.cells (.int k n)=[(.int k n)]:=rfl
theorem zMt (k:IntKind) (n:Int):PV.one (.int k n)=true:=rfl
theorem zIV (b:Bool):PV.cells (.bool b)=[(.bool b)]:=rfl
theorem zLJ (b:Bool):PV.one (.bool b)=true:=rfl
theorem zJ4 (s:List UInt8):PV.cells (.str s)=[(.str s)]:=rfl
theorem zMr (s:List UInt8):PV.one (.str s)=true:=rfl
theorem zIT:PV.cells .nilp=[.nilp]:=rfl
theorem zLH:PV.one .nilp=true:=rfl
theorem zIU:PV.cells .nilf=[.nilf]:=rfl
theorem zLI:PV.one .nilf=true:=rfl
theorem zLR (w:Bool) (a:AV) (n:Nat) (cs:List PV):PV.cells (.fz w a n cs)=[(.fz w a n cs)]:=rfl
theorem zN9 (w:Bool) (a:AV) (n:Nat) (cs:List PV):PV.one (.fz w a n cs)=true:=rfl
theorem zLS (a:AV) (cs:List PV):PV.cells (.fp a cs)=[(.fp a cs)]:=rfl
theorem zOA (a:AV) (cs:List PV):PV.one (.fp a cs)=true:=rfl
theorem zJ5 (s i:Nat):PV.cells (.ptr s i)=[(.ptr s i)]:=rfl
theorem zMs (s i:Nat):PV.one (.ptr s i)=true:=rfl
theorem zLQ (s o n:Nat) (c:Cap):PV.cells (.sl s o n c)=[(.sl s o n c)]:=rfl
theorem zN8 (s o n:Nat) (c:Cap):PV.one (.sl s o n c)=true:=rfl
theorem zJ7 (f:FuncId) (a b:List PV):PV.cells (.clo f a b)=[(.clo f a b)]:=rfl
theorem zMu (f:FuncId) (a b:List PV):PV.one (.clo f a b)=true:=rfl
theorem zJ8 (cs:List PV):PV.cells (.agg cs)=cs:=rfl
theorem zBw (k:IntKind) (i:Int) (y:Nat):ZU (.int k i) y=if 0≤i∧i≤y then some i.toNat else none:=rfl
theorem zAu (x:PV) (d y:Nat):zY (some x) d y=ZU x y:=rfl
theorem zAv (d y:Nat):zY none d y=some d:=rfl
theorem zLD (sz:Nat) (w:Bool) (a:AV) (len:Nat) (cs:List PV) (lo hi:Option PV):ZT sz (.fz w a len cs) lo hi none=(zY hi len len).bind fun h=>(zY lo 0 h).bind fun l=>some (.fz false (pslA sz a l h) (h-l) ((cs.drop (l*sz)).take ((h-l)*sz))):=rfl
theorem zAr (sz s off len c:Nat) (lo hi mx:Option PV):ZT sz (.sl s off len (.known c)) lo hi mx=(zY mx c c).bind fun m=>(zY hi len m).bind fun h=>(zY lo 0 h).bind fun l=>if hi.isNone=true∧mx.isSome=true then none else some (.sl s (if m=l then off else off+l*sz) (h-l) (.known (m-l))):=rfl
theorem zAs (sz s off len g:Nat) (lo hi:Option PV):ZT sz (.sl s off len (.grown g)) lo hi none=(zY hi len len).bind fun h=>(zY lo 0 h).bind fun l=>some (.sl s (off+l*sz) (h-l) (.grown (if g=sz then g else 0))):=rfl
theorem zGA (s:List UInt8) (lo hi:Option PV):zBA (.str s) lo hi=(zY hi s.length s.length).bind fun h=>(zY lo 0 h).bind fun l=>some (.str ((s.take h).drop l)):=rfl
theorem zFQ (w:Bool) (a:AV) (n:Nat) (cs:List PV):plen (.fz w a n cs)=some n:=rfl
theorem zOD (s o n:Nat) (c:Cap):plen (.sl s o n c)=some n:=rfl
theorem QJ (sz bytes:Nat) (s x:PV):qH sz bytes h s x=(plen x).bind fun m=>if m=0 then(psame s).map fun v=>(v,h)else(Zx sz h x m).bind fun news=>pgrow sz bytes h s news m:=rfl
theorem zIO (s o n c:Nat):psame (.sl s o n (.known c))=if n≤c then some (.sl s o n (.known c))else none:=rfl
theorem zCX (sz:Nat) (w:Bool) (a:AV) (len:Nat) (cs:List PV) (n:Nat):Zx sz h (.fz w a len cs) n=if n=0 then some []else if n≤len∧n*sz≤cs.length∧0<sz then some (cs.take (n*sz))else none:=rfl
theorem zAK (sz s off len:Nat) (c:Cap) (n:Nat):Zx sz h (.sl s off len c) n=if n=0 then some []else if n≤len then h.rd s off (n*sz)else none:=rfl
theorem zEZ (sz bytes:Nat) (w:Bool) (n:Nat) (cs news:List PV) (m:Nat):pgrow sz bytes h (.fz w .nils n cs) news m=if m*bytes≤140737488355328∧m≤4611686018427387904 then some (.sl h.next 0 m (.grown sz),h.new news)else none:=rfl
theorem zBO (sz bytes s off len c:Nat) (news:List PV) (m:Nat):pgrow sz bytes h (.sl s off len (.known c)) news m=if len+m≤c then(h.wr s (off+len*sz) news).map fun σ'=>(.sl s off (len+m) (.known c),σ')else if (len+m)*bytes≤140737488355328∧len+m≤4611686018427387904 then(h.rd s off (len*sz)).map fun old=>(.sl h.next 0 (len+m) (.grown sz),h.new (old++news))else none:=rfl
theorem zAD (sz bytes s off len g:Nat) (news:List PV) (m:Nat):pgrow sz bytes h (.sl s off len (.grown g)) news m=if (len+m)*bytes≤140737488355328∧len+m≤4611686018427387904∧g=sz then(h.obj s).bind fun cs=>if off+len*sz≤cs.length then some (.sl h.next 0 (len+m) (.grown sz),(h.kill s).new ((cs.drop off).take (len*sz)++news))else none else none:=rfl
theorem zGt (cs:List PV) (s i:Nat):(h.new cs).rd1 s i=if s=h.next then cs[i]? else h.rd1 s i:=by by_cases x:s=h.next<;>simp [PHeap.rd1,PHeap.new,x]
theorem zBY (cs:List PV) (s i n:Nat):(h.new cs).rd s i n=if s=h.next then(if i+n≤cs.length then some ((cs.drop i).take n)else none)else h.rd s i n:=by by_cases x:s=h.next<;>simp [PHeap.rd,PHeap.new,x]
theorem zP (cs:List PV) (s:Nat):(h.new cs).obj s=if s=h.next then some cs else h.obj s:=rfl
theorem zN3 (cs:List PV) (s i:Nat) (vs:List PV):(h.new cs).wr s i vs=if s=h.next then(if i+vs.length≤cs.length∧vs.all PV.one=true then some (h.new (cs.take i++vs++cs.drop (i+vs.length)))else none)else(h.wr s i vs).map fun h'=>h'.new cs:=by
 by_cases x:s=h.next
 ·subst x
  simp only [PHeap.wr,PHeap.new,if_true,Option.bind_some]
  split
  ·congr 1
   simp only [PHeap.set]
   congr 1
   funext y
   by_cases hy:y=h.next<;>simp [hy]
  ·rfl
 ·simp only [PHeap.wr,PHeap.new,if_neg x]
  cases ho:h.obj s with
  | none=>rfl
  | some ob=>
   simp only [Option.bind_some]
   split
   ·simp only [Option.map_some,PHeap.set]
    congr 2
    funext y
    by_cases hy:y=s
    ·subst hy;simp [x]
    ·simp [hy]
   ·rfl
theorem zLL (cs:List PV):(h.new cs).next=h.next+1:=rfl
theorem zGq (cs:List PV):(h.new cs).top=h.top:=rfl
theorem zMo (cs:List PV) (s:Nat) (ds:List PV):(h.new cs).set s ds=if s=h.next then h.new ds else(h.set s ds).new cs:=by
 by_cases x:s=h.next
 ·subst x
  rw [if_pos rfl];simp only [PHeap.set,PHeap.new]
  congr 1
  funext y
  by_cases hy:y=h.next<;>simp [hy]
 ·rw [if_neg x]
  simp only [PHeap.set,PHeap.new]
  congr 1
  funext y
  by_cases hy:y=s
  ·subst hy;simp [x]
  ·simp [hy]
theorem Q6 (s:Nat) (cs ds:List PV):(h.set s cs).set s ds=h.set s ds:=by
 simp only [PHeap.set]
 congr 1
 funext y
 by_cases hy:y=s<;>simp [hy]
theorem zLK (s:Nat) (cs:List PV):(h.set s cs).next=h.next:=rfl
theorem zJ0 (s:Nat):(h.kill s).next=h.next:=rfl
theorem zMv (t:Nat):(h.up t).next=h.next:=rfl
theorem zJG (t:Nat):(h.up t).top=t:=rfl
theorem zOC (t:Nat) (cs:List PV):(h.up t).new cs=(h.new cs).up t:=rfl
theorem zN7 (t s i:Nat):(h.up t).rd1 s i=h.rd1 s i:=rfl
theorem zO9 (t s i n:Nat):(h.up t).rd s i n=h.rd s i n:=rfl
theorem zOB (t s:Nat):(h.up t).obj s=h.obj s:=rfl
theorem zO6 (t s i:Nat) (vs:List PV):(h.up t).wr s i vs=(h.wr s i vs).map fun h'=>h'.up t:=by
 simp only [PHeap.wr,PHeap.up];cases h.obj s with
 | none=>rfl
 | some cs=>simp only [Option.bind_some];split<;>rfl
theorem zCV (s t:Nat):(h.kill s).obj t=if t=s then none else h.obj t:=rfl
theorem zH (s:Nat) (cs:List PV) (t:Nat):(h.set s cs).obj t=if t=s then some cs else h.obj t:=rfl
theorem zLE (s t i:Nat):(h.kill s).rd1 t i=if t=s then none else h.rd1 t i:=by by_cases x:t=s<;>simp [PHeap.rd1,PHeap.kill,x]
theorem zMp (s t i n:Nat):(h.kill s).rd t i n=if t=s then none else h.rd t i n:=by by_cases x:t=s<;>simp [PHeap.rd,PHeap.kill,x]
theorem zDq (s:Nat) (cs:List PV) (t i:Nat):(h.set s cs).rd1 t i=if t=s then cs[i]? else h.rd1 t i:=by by_cases x:t=s<;>simp [PHeap.rd1,PHeap.set,x]
theorem qo (s:Nat) (cs:List PV) (t i n:Nat):(h.set s cs).rd t i n=if t=s then(if i+n≤cs.length then some ((cs.drop i).take n)else none)else h.rd t i n:=by by_cases x:t=s<;>simp [PHeap.rd,PHeap.set,x]
theorem zN2 (s:Nat) (cs:List PV) (i:Nat) (vs:List PV):(h.set s cs).wr s i vs=if i+vs.length≤cs.length∧vs.all PV.one=true then some (h.set s (cs.take i++vs++cs.drop (i+vs.length)))else none:=by
 simp only [PHeap.wr,PHeap.set,if_true,Option.bind_some]
 split
 ·congr 2
  funext y
  by_cases hy:y=s<;>simp [hy]
 ·rfl
end
def pw0:=And.intro @zNq <| And.intro @zKt <| And.intro @zNs <| And.intro @zOw <| And.intro @zNt <| And.intro @zMY <| And.intro @zNr <| And.intro @zOx <| And.intro @zOo <| And.intro @RVp_q <| And.intro @RVp_e <| And.intro @zOr <| And.intro @DVp_q <| And.intro @DVp_e <| And.intro @zNU <| And.intro @zNT <| And.intro @zNW <| And.intro @zNV <| And.intro @zIR <| And.intro @zG3 <| And.intro @zJ3 <| And.intro @zIS <| And.intro @zG1 <| And.intro @zGz <| And.intro @zGy <| And.intro @zG0 <| And.intro @pv_t <| And.intro @pv_c <| And.intro @zMw <| @zLF
def pw1:=And.intro @zLG <| And.intro @qp_mv <| And.intro @zNz <| And.intro @zO5 <| And.intro @qp_un <| And.intro @zN1 <| And.intro @zIJ <| And.intro @zMn <| And.intro @zMm <| And.intro @zGn <| And.intro @zGm <| And.intro @zIL <| And.intro @zJw <| And.intro @zO3 <| And.intro @zLB <| And.intro @zO4 <| And.intro @zMl <| And.intro @zII <| And.intro @zLA <| And.intro @zIK <| And.intro @zN0 <| And.intro @zO2 <| And.intro @zNd <| And.intro @zPT <| And.intro @zKd <| And.intro @zNb <| And.intro @zKE <| And.intro @zMG <| And.intro @zI2 <| @zIg
def pw2:=And.intro @zLa <| And.intro @zMH <| And.intro @zOh <| And.intro @zOi <| And.intro @zNc <| And.intro @zKI <| And.intro @zNH <| And.intro @of_bool <| And.intro @of_int <| And.intro @zPE <| And.intro @zON <| And.intro @zOO <| And.intro @zOM <| And.intro @zPF <| And.intro @zPG <| And.intro @zOL <| And.intro @zNG <| And.intro @zOK <| And.intro @zNB <| And.intro @zM1 <| And.intro @zM5 <| And.intro @zNA <| And.intro @zM4 <| And.intro @zM6 <| And.intro @zM7 <| And.intro @zM8 <| And.intro @zM9 <| And.intro @zM3 <| And.intro @zM2 <| @zKC
def pw3:=And.intro @zLW <| And.intro @zKD <| And.intro @zLV <| And.intro @zLU <| And.intro @zKB <| And.intro @zIa <| And.intro @zKA <| And.intro @zIZ <| And.intro @zIY <| And.intro @zIX <| And.intro @zIW <| And.intro @zIx <| And.intro @zL9 <| And.intro @zN6 <| And.intro @zN5 <| And.intro @zKF <| And.intro @zIc <| And.intro @zLd <| And.intro @zNC <| And.intro @zND <| And.intro @zOG <| And.intro @zKH <| And.intro @zKG <| And.intro @zFR <| And.intro @zGD <| And.intro @zLb <| And.intro @zLc <| And.intro @zIf <| And.intro @zG6 <| @zOI
def pw4:=And.intro @zOH <| And.intro @zIe <| And.intro @zLe <| And.intro @zOJ <| And.intro @zId <| And.intro @zLO <| And.intro @zLN <| And.intro @zMy <| And.intro @zMx <| And.intro @zLM <| And.intro @zJ1 <| And.intro @zKr <| And.intro @zI7 <| And.intro @zI8 <| And.intro @zIG <| And.intro @zK8 <| And.intro @zIF <| And.intro @zJv <| And.intro @zK6 <| And.intro @zIH <| And.intro @zET <| And.intro @zGj <| And.intro @zGi <| And.intro @zDp <| And.intro @zDo <| And.intro @zEV <| And.intro @zFO <| And.intro @zJt <| And.intro @zF9 <| @zJu
def pw5:=And.intro @zGh <| And.intro @zES <| And.intro @zF8 <| And.intro @zEU <| And.intro @zJs <| And.intro @zGZ <| And.intro @zGY <| And.intro @zJr <| And.intro @zJq <| And.intro @zIC <| And.intro @zID <| And.intro @zMg <| And.intro @zLY <| And.intro @zLZ <| And.intro @zLX <| And.intro @zLP <| And.intro @zJ2 <| And.intro @zJ6 <| And.intro @zMt <| And.intro @zIV <| And.intro @zLJ <| And.intro @zJ4 <| And.intro @zMr <| And.intro @zIT <| And.intro @zLH <| And.intro @zIU <| And.intro @zLI <| And.intro @zLR <| And.intro @zN9 <| @zLS
def pw6:=And.intro @zOA <| And.intro @zJ5 <| And.intro @zMs <| And.intro @zLQ <| And.intro @zN8 <| And.intro @zJ7 <| And.intro @zMu <| And.intro @zJ8 <| And.intro @zBw <| And.intro @zAu <| And.intro @zAv <| And.intro @zLD <| And.intro @zAr <| And.intro @zAs <| And.intro @zGA <| And.intro @zFQ <| And.intro @zOD <| And.intro @zGt <| And.intro @zBY <| And.intro @zP <| And.intro @zN3 <| And.intro @zLL <| And.intro @zGq <| And.intro @zMo <| And.intro @Q6 <| And.intro @zLK <| And.intro @zJ0 <| And.intro @zMv <| And.intro @zJG <| @zOC
def pw7:=And.intro @zN7 <| And.intro @zO9 <| And.intro @zOB <| And.intro @zO6 <| And.intro @zCV <| And.intro @zH <| And.intro @zLE <| And.intro @zMp <| And.intro @zDq <| And.intro @qo <| And.intro @zN2 <| And.intro @zBC <| And.intro @zAL <| And.intro @zLf <| And.intro @zNF <| And.intro @List.map_cons.{0,0} <| And.intro @List.map_nil.{0,0} <| And.intro @List.length_cons.{0} <| And.intro @List.length_nil.{0} <| And.intro @List.getElem?_cons_zero.{0} <| And.intro @List.getElem?_cons_succ.{0} <| And.intro @List.take_succ_cons.{0} <| And.intro @List.take_zero.{0} <| And.intro @List.drop_succ_cons.{0} <| And.intro @List.drop_zero.{0} <| And.intro @List.take_nil.{0} <| And.intro @List.drop_nil.{0} <| And.intro @List.nil_append.{0} <| And.intro @List.cons_append.{0} <| @List.append_nil.{0}
def pw8:=And.intro @List.all_cons.{0} <| And.intro @List.all_nil.{0} <| And.intro @List.contains_cons.{0} <| And.intro @List.contains_nil.{0} <| And.intro @Option.map_some.{0,0} <| And.intro @Option.map_none.{0,0} <| And.intro @Option.bind_some.{0,0} <| And.intro @Option.bind_none.{0,0} <| And.intro @decide_true <| And.intro @decide_false <| And.intro @Bool.not_true <| And.intro @Bool.not_false <| And.intro @Bool.and_true <| And.intro @Bool.true_and <| And.intro @Bool.and_self <| And.intro @Bool.or_false <| And.intro @Bool.or_true <| And.intro @Bool.true_or <| And.intro @Bool.false_or <| And.intro @true_and <| And.intro @and_true <| And.intro @Bool.true_eq_false <| And.intro @Bool.false_eq_true <| And.intro @Nat.left_eq_add <| And.intro @Nat.add_eq_left <| And.intro @Nat.succ_ne_self <| And.intro @Nat.one_ne_zero <| And.intro @Nat.add_left_cancel_iff <| And.intro @Nat.add_assoc <| @Nat.mul_one
def pw9:=And.intro @Nat.zero_add <| And.intro @Nat.add_zero <| And.intro @Nat.le_refl <| And.intro @Nat.lt_add_one <| And.intro @Int.toNat_natCast <| And.intro @Int.natCast_nonneg <| And.intro @Int.ofNat_lt <| And.intro @Int.le_refl <| And.intro @zJj <| And.intro @zJk <| And.intro @zGV <| And.intro @Nat.one_mul <| @Nat.zero_mul
def pwA:=And.intro pw0 <| And.intro pw1 <| And.intro pw2 <| And.intro pw3 <| And.intro pw4 <| And.intro pw5 <| And.intro pw6 <| And.intro pw7 <| And.intro pw8 <| And.intro pw9 <| And.intro @nm_eq <| And.intro @eq_self.{1} <| And.intro @Int.ofNat_le @List.getElem?_drop.{0}
end Go.Ab
