/- THE RULES BY WHICH CODE IS WALKED over values without a heap: equations, and the one name 'pw' for all of them. Written by a program. -/
import Derived.Test.YtgkbfiilhocioaaGreatCAbPg
import Derived.Test.YtgkbfiilhocioaaGreatCAbAid
set_option linter.unusedVariables false
set_option linter.unusedSimpArgs false
set_option linter.defProp false
namespace Go.Ab
section
variable {P:Program} {Q:Exit→PEnv→PHeap→Prop} {e:PEnv} {h:PHeap} {K:PEnv→PHeap→Prop} {KA:PV→PHeap→Prop} {nb nr:Nat}
theorem zNx:vp P .skip Q e h=Q .normal e h:=rfl
theorem zKv (S:List Nat) (its:List II):vp P (.region S its) Q e h=RVp P its e h fun e' h'=>Q .normal (PEnv.mk S (S.map e')) h':=rfl
theorem zNz (S:List Nat) (zs:List (List AV)) (its:List DI):vp P (.draw S zs its) Q e h=DVp P h.next zs.length its [] e (h.news zs) fun e' h'=>Q .normal (PEnv.mk S (S.map e')) h':=rfl
theorem zO2 (a b:IC):vp P (.seq a b) Q e h=vp P a (fun x e' h'=>match x with | .normal=>vp P b Q e' h' | x=>Q x e' h') e h:=rfl
theorem zN0 (c:IX) (a b:IC):vp P (.cond c a b) Q e h=Zk (c.pv e) (vp P a Q e h) (vp P b Q e h):=rfl
theorem zMc (id:Nat) (c:IC):vp P (.block id c) Q e h=vp P c (fun x e' h'=>match x with | .exit id'=>if id'=id then Q .normal e' h' else Q (.exit id') e' h' | x=>Q x e' h') e h:=rfl
theorem zNy (id:Nat):vp P (.exit id) Q e h=Q (.exit id) e h:=rfl
theorem zO3:vp P .ret Q e h=Q .ret e h:=rfl
theorem zOv:RVp P [] e h K=K e h:=rfl
theorem RVp_q (d:Option Nat) (op:IOp) (g:Option (Nat×Bool)) (r:List II):RVp P (⟨d,op,true,g⟩::r) e h K=optK (gqp 0 0 ⟨d,op,true,g⟩ e h) fun v=>RVp P r (e.put d v) h K:=rfl
theorem RVp_e (d:Option Nat) (op:IOp) (g:Option (Nat×Bool)) (r:List II):RVp P (⟨d,op,false,g⟩::r) e h K=gep P ⟨d,op,false,g⟩ e h fun v h'=>RVp P r (e.put d v) h' K:=rfl
theorem zOy (recs:List RecP):DVp P nb nr [] recs e h K=K e h:=rfl
theorem DVp_q (d:Option Nat) (op:IOp) (g:Option (Nat×Bool)) (i:Nat) (c:List Nat) (r:List DI) (recs:List RecP):DVp P nb nr (⟨⟨d,op,true,g⟩,i,c⟩::r) recs e h K=optK (gqp nb nr ⟨d,op,true,g⟩ e h) fun v=>DVp P nb nr r (qB ⟨⟨d,op,true,g⟩,i,c⟩ e v++recs) (e.put d v) h K:=rfl
theorem DVp_e (d:Option Nat) (op:IOp) (g:Option (Nat×Bool)) (i:Nat) (c:List Nat) (r:List DI) (recs:List RecP):DVp P nb nr (⟨⟨d,op,false,g⟩,i,c⟩::r) recs e h K=gep P ⟨d,op,false,g⟩ e h fun v h'=>Qs c recs h'∧DVp P nb nr r recs (e.put d v) h' K:=rfl
theorem zNY (d:Option Nat) (op:IOp) (q:Bool):gqp nb nr ⟨d,op,q,none⟩ e h=qp nb nr op e h:=rfl
theorem zNX (d:Option Nat) (op:IOp) (q:Bool) (t:Nat) (b:Bool):gqp nb nr ⟨d,op,q,some (t,b)⟩ e h=Qc (e t) b (qp nb nr op e h):=rfl
theorem zNa (d:Option Nat) (op:IOp) (q:Bool):gep P ⟨d,op,q,none⟩ e h KA=ep P op e h KA:=rfl
theorem zNZ (d:Option Nat) (op:IOp) (q:Bool) (t:Nat) (b:Bool):gep P ⟨d,op,q,some (t,b)⟩ e h KA=Zi (e t) b (ep P op e h KA) (KA (.tup []) h):=rfl
theorem zIO (a b:Prop):Zk (.bool true) a b=a:=rfl
theorem zG1 (a b:Prop):Zk (.bool false) a b=b:=rfl
theorem zJ6 (c:Prop) [Decidable c] (a b:Prop):Zk (.bool (decide c)) a b=if c then a else b:=by by_cases x:c<;>simp [Zk,x]
theorem zIP (c:Prop) [Decidable c] (a b:Prop):Zk (.bool (!decide c)) a b=if c then b else a:=by by_cases x:c<;>simp [Zk,x]
theorem zGz (c b:Bool) (x y:Prop):Zi (.bool c) b x y=if c=b then x else y:=rfl
theorem zGx (c b:Bool) (x:Option PV):Qc (.bool c) b x=if c=b then x else some (.tup []):=rfl
theorem zGw (b:Bool) (x:Option PV):Qc (.tup []) b x=some (.tup []):=rfl
theorem zGy (b:Bool) (x y:Prop):Zi (.tup []) b x y=y:=rfl
theorem pv_t (n:Nat):(IX.t n).pv e=e n:=rfl
theorem pv_c (v:AV):(IX.c v).pv e=ofAV v:=rfl
theorem zM0 (s:Nat) (S:List Nat) (v:PV) (vs:List PV) (t:Nat):PEnv.mk (s::S) (v::vs) t=if t=s then v else PEnv.mk S vs t:=rfl
theorem zLN (d:Nat) (v:PV) (t:Nat):e.put (some d) v t=if t=d then v else e t:=rfl
theorem zLO (v:PV):e.put none v=e:=rfl
theorem qp_mv (x:IX):qp nb nr (.mv x) e h=some (x.pv e):=rfl
theorem zN7 (c a b:IX):qp nb nr (.pick c a b) e h=pPick (c.pv e) (a.pv e) (b.pv e):=rfl
theorem zPB (op:BinOp) (ek:EqK) (x y:IX):qp nb nr (.bin op ek x y) e h=pbin op ek (x.pv e) (y.pv e):=rfl
theorem qp_un (op:UnOp) (x:IX):qp nb nr (.un op x) e h=pun op (x.pv e):=rfl
theorem zN9 (k:IntKind) (x:IX):qp nb nr (.conv k x) e h=pConv k (x.pv e):=rfl
theorem zIG (x:IX):qp nb nr (.nilCheck x) e h=pNil (x.pv e):=rfl
theorem zMr (z:List AV) (ps:List (Nat×Nat×IX)):qp nb nr (.build z ps) e h=(pfill (ofAVs z) (ps.map fun p=>(p.1,p.2.1,p.2.2.pv e))).map .agg:=rfl
theorem zMq (a:Bool) (n off:Nat) (x:IX):qp nb nr (.field a n off x) e h=zCj a n off (x.pv e):=rfl
theorem zGl (off:Nat) (x:IX):qp nb nr (.fieldAddr off x) e h=Qo off (x.pv e):=rfl
theorem zGk (sz:Nat) (x i:IX):qp nb nr (.indexAddr sz x i) e h=zBg sz (x.pv e) (i.pv e):=rfl
theorem zII (x i:IX):qp nb nr (.indexStr x i) e h=zDK (x.pv e) (i.pv e):=rfl
theorem zJ0 (x:IX) (i:Nat):qp nb nr (.extract x i) e h=zB4 (x.pv e) i:=rfl
theorem zO9 (x:IX):qp nb nr (.len x) e h=pLen (x.pv e):=rfl
theorem zLH (x:IX):qp nb nr (.lenStr x) e h=zDJ (x.pv e):=rfl
theorem zPA (x:IX):qp nb nr (.cap x) e h=pCap (x.pv e):=rfl
theorem zMp (sz:Nat) (x:IX) (lo hi mx:Option IX):qp nb nr (.slice sz x lo hi mx) e h=ZQ sz (x.pv e) (lo.map (·.pv e)) (hi.map (·.pv e)) (mx.map (·.pv e)):=rfl
theorem zIF (x:IX) (lo hi:Option IX):qp nb nr (.sliceStr x lo hi) e h=zBB (x.pv e) (lo.map (·.pv e)) (hi.map (·.pv e)):=rfl
theorem zLG (mx:Bool) (x y:IX):qp nb nr (.maxmin mx x y) e h=zBf mx (x.pv e) (y.pv e):=rfl
theorem zIH (f:FuncId) (a b:List IX):qp nb nr (.makeFunc f a b) e h=some (.clo f (a.map (·.pv e)) (b.map (·.pv e))):=rfl
theorem zN8 (a:Bool) (n:Nat) (x:IX):qp nb nr (.load a n x) e h=pldv a n (x.pv e) h:=rfl
theorem zO8 (k:Nat):qp nb nr (.rev k) e h=if k<nr then some (.ptr (nb+k) 0)else none:=rfl
theorem zNh (z:List AV):ep P (.alloc z) e h KA=KA (.ptr h.next 0) (h.new (ofAVs z)):=rfl
theorem zPY (x:IX):ep P (.box x) e h KA=((x.pv e).cells.all PV.one=true∧KA (.ptr h.next 0) (h.new (x.pv e).cells)):=rfl
theorem zKf (sz len:Nat) (z:List AV) (ps:List (Nat×Nat×IX)):ep P (.buildSl sz len z ps) e h KA=optK (pfill (ofAVs (zeros z len)) (ps.map fun p=>(p.1,p.2.1,p.2.2.pv e))) fun cs=>KA (.sl h.next 0 len (.known len)) (h.new cs):=rfl
def zEb (n:Nat) (x v:PV) (h:PHeap) (KA:PV→PHeap→Prop):Prop:=
 match x with
 | .ptr s i=>v.cells.length=n∧optK (h.wr s i v.cells) fun h'=>KA .undef h'
 | _=>False
def pMake (sz bytes:Nat) (z:List AV) (l c:PV) (h:PHeap) (KA:PV→PHeap→Prop):Prop:=
 match l,c with
 | .int _ l,.int _ c=>(0≤l∧l≤c∧c*bytes≤140737488355328∧c≤9223372036854775807)∧KA (.sl h.next 0 l.toNat (.known c.toNat)) (h.new (ofAVs (zeros z c.toNat)))
 | _,_=>False
def zEd (sz bytes:Nat) (z:List AV) (s n:PV) (h:PHeap) (KA:PV→PHeap→Prop):Prop:=
 match s,n with
 | .fz _ .nils _ _,.int _ n=>(0<n∧n*bytes≤140737488355328∧n≤4611686018427387904)∧KA (.sl h.next 0 n.toNat (.grown sz)) (h.new (ofAVs (zeros z n.toNat)))
 | _,_=>False
def zEc (P:Program) (f:PV) (args:List PV) (h:PHeap) (KA:PV→PHeap→Prop):Prop:=
 match f with
 | .clo f first caps=>okF P f=true∧zA P f (first++args++caps) h KA
 | _=>False
theorem zNf (n:Nat) (x v:IX):ep P (.store n x v) e h KA=zEb n (x.pv e) (v.pv e) h KA:=rfl
theorem zKH (n s i:Nat) (v:PV):zEb n (.ptr s i) v h KA=(v.cells.length=n∧optK (h.wr s i v.cells) fun h'=>KA .undef h'):=rfl
theorem zML (sz bytes:Nat) (z:List AV) (l c:IX):ep P (.makeSl sz bytes z l c) e h KA=pMake sz bytes z (l.pv e) (c.pv e) h KA:=rfl
theorem zI2 (sz bytes:Nat) (z:List AV) (s n:IX):ep P (.appendMk sz bytes z s n) e h KA=zEd sz bytes z (s.pv e) (n.pv e) h KA:=rfl
theorem zId (sz bytes:Nat) (z:List AV) (w:Bool) (l:Nat) (cs:List PV) (k:IntKind) (n:Int):zEd sz bytes z (.fz w .nils l cs) (.int k n) h KA=((0<n∧n*bytes≤140737488355328∧n≤4611686018427387904)∧KA (.sl h.next 0 n.toNat (.grown sz)) (h.new (ofAVs (zeros z n.toNat)))):=rfl
theorem zLj (sz bytes:Nat) (z:List AV) (k k':IntKind) (l c:Int):pMake sz bytes z (.int k l) (.int k' c) h KA=((0≤l∧l≤c∧c*bytes≤140737488355328∧c≤9223372036854775807)∧KA (.sl h.next 0 l.toNat (.known c.toNat)) (h.new (ofAVs (zeros z c.toNat)))):=rfl
theorem zMM (sz bytes:Nat) (s x:IX):ep P (.append sz bytes s x) e h KA=optK (qW sz bytes h (s.pv e) (x.pv e)) fun p=>KA p.1 p.2:=rfl
theorem zOp (sz:Nat) (d s:IX):ep P (.copy sz d s) e h KA=optK (pcopy sz h (d.pv e) (s.pv e)) fun p=>KA p.1 p.2:=rfl
theorem zOq (f:FuncId) (args:List IX):ep P (.call f args) e h KA=zA P f (args.map (·.pv e)) h KA:=rfl
theorem zNg (f:IX) (args:List IX):ep P (.callV f args) e h KA=zEc P (f.pv e) (args.map (·.pv e)) h KA:=rfl
theorem zKL (f:FuncId) (a b args:List PV):zEc P (.clo f a b) args h KA=(okF P f=true∧zA P f (a++args++b) h KA):=rfl
theorem zNK:ofAV .undef=.undef:=rfl
theorem of_bool (b:Bool):ofAV (.bool b)=.bool b:=rfl
theorem of_int (k:IntKind) (n:Int):ofAV (.int k n)=.int k n:=rfl
theorem zPJ (s:List UInt8):ofAV (.str s)=.str s:=rfl
theorem zOV:ofAV .nilp=.nilp:=rfl
theorem zOW:ofAV .nilf=.nilf:=rfl
theorem zOU:ofAV .nils=.fz true .nils 0 []:=rfl
theorem zPK (f:FuncId) (a b:List AV):ofAV (.clo f a b)=.clo f (ofAVs a) (ofAVs b):=rfl
theorem zPL (a:List AV):ofAV (.agg a)=.agg (ofAVs a):=rfl
theorem zOT:ofAVs []=[]:=rfl
theorem zNJ (c:AV) (cs:List AV):ofAVs (c::cs)=ofAV c::ofAVs cs:=rfl
theorem zOS (n:Nat) (c:AV):ofAVs (List.replicate n c)=List.replicate n (ofAV c):=by rw [zFv,List.map_replicate]
theorem zNF (k:IntKind) (ek:EqK) (a b:Int):pbin .add ek (.int k a) (.int k b)=some (.int k (k.wrap (a+b))):=by simp [pbin,abin,aint,ofAV]
theorem zM5 (k:IntKind) (ek:EqK) (a b:Int):pbin .sub ek (.int k a) (.int k b)=some (.int k (k.wrap (a-b))):=by simp [pbin,abin,aint,ofAV]
theorem zM9 (k:IntKind) (ek:EqK) (a b:Int):pbin .mul ek (.int k a) (.int k b)=some (.int k (k.wrap (a*b))):=by simp [pbin,abin,aint,ofAV]
theorem zNE (k:IntKind) (ek:EqK) (a b:Int):pbin .eql ek (.int k a) (.int k b)=some (.bool (decide (a=b))):=by simp [pbin,abin,aint,ofAV]
theorem zM8 (k:IntKind) (ek:EqK) (a b:Int):pbin .neq ek (.int k a) (.int k b)=some (.bool (!decide (a=b))):=by simp [pbin,abin,aint,ofAV]
theorem zNA (k:IntKind) (ek:EqK) (a b:Int):pbin .lss ek (.int k a) (.int k b)=some (.bool (decide (a<b))):=by simp [pbin,abin,aint,ofAV]
theorem zNB (k:IntKind) (ek:EqK) (a b:Int):pbin .leq ek (.int k a) (.int k b)=some (.bool (decide (a≤b))):=by simp [pbin,abin,aint,ofAV]
theorem zNC (k:IntKind) (ek:EqK) (a b:Int):pbin .gtr ek (.int k a) (.int k b)=some (.bool (decide (b<a))):=by simp [pbin,abin,aint,ofAV]
theorem zND (k:IntKind) (ek:EqK) (a b:Int):pbin .geq ek (.int k a) (.int k b)=some (.bool (decide (b≤a))):=by simp [pbin,abin,aint,ofAV]
theorem zM7 (k:IntKind) (ek:EqK) (a b:Int):pbin .quo ek (.int k a) (.int k b)=if b=0 then none else some (.int k (k.wrap (a.tdiv b))):=by simp only [pbin,abin,aint,if_true];split<;>rfl
theorem zM6 (k:IntKind) (ek:EqK) (a b:Int):pbin .rem ek (.int k a) (.int k b)=if b=0 then none else some (.int k (a.tmod b)):=by simp only [pbin,abin,aint,if_true];split<;>rfl
theorem zKF (n:Nat) (xs ys:List PV):pbin .eql (.ints n) (.agg xs) (.agg ys)=if xs.length=n∧ys.length=n then(paggB xs ys).bind fun r=>some (.bool r)else none:=rfl
theorem zLf:paggB [] []=some true:=rfl
theorem zKG (k:IntKind) (a b:Int) (xs ys:List PV):paggB (.int k a::xs) (.int k b::ys)=(paggB xs ys).map fun r=>decide (a=b) && r:=by simp [paggB]
theorem zLe (a b:Bool):pbin .eql .bool (.bool a) (.bool b)=some (.bool (a == b)):=rfl
theorem zLd (a b:Bool):pbin .neq .bool (.bool a) (.bool b)=some (.bool !(a == b)):=rfl
theorem zKE (w w':Bool) (a:AV) (n n':Nat) (cs cs':List PV):pbin .eql .slice (.fz w a n cs) (.fz w' .nils n' cs')=some (.bool (ZJ a)):=rfl
theorem zIX (w w':Bool) (a:AV) (n n':Nat) (cs cs':List PV):pbin .neq .slice (.fz w a n cs) (.fz w' .nils n' cs')=some (.bool (!ZJ a)):=rfl
theorem zKD (s o n:Nat) (c:Cap) (w':Bool) (n':Nat) (cs':List PV):pbin .eql .slice (.sl s o n c) (.fz w' .nils n' cs')=some (.bool false):=rfl
theorem zIW (s o n:Nat) (c:Cap) (w':Bool) (n':Nat) (cs':List PV):pbin .neq .slice (.sl s o n c) (.fz w' .nils n' cs')=some (.bool true):=rfl
theorem zIV (ek:EqK) (a b:List UInt8):pbin .add ek (.str a) (.str b)=if a.length+b.length≤9223372036854775807 then some (.str (a++b))else none:=by simp only [pbin,astr];split<;>rfl
theorem zIU (ek:EqK) (a b:List UInt8):pbin .eql ek (.str a) (.str b)=some (.bool (a == b)):=rfl
theorem zIT (ek:EqK) (a b:List UInt8):pbin .neq ek (.str a) (.str b)=some (.bool !(a == b)):=rfl
theorem zIx:ZJ .nils=true:=rfl
theorem zME (o f n:Nat) (c:Cap):ZJ (.sl o f n c)=false:=rfl
theorem zOD (k:IntKind) (n:Int):pun .neg (.int k n)=some (.int k (k.wrap (0-n))):=rfl
theorem zOC (b:Bool):pun .not (.bool b)=some (.bool !b):=rfl
theorem zKI (a b:PV):pPick (.bool true) a b=some a:=rfl
theorem zIZ (a b:PV):pPick (.bool false) a b=some b:=rfl
theorem zLm (k k':IntKind) (n:Int):pConv k (.int k' n)=some (.int k (k.wrap n)):=rfl
theorem zNG (s i:Nat):pNil (.ptr s i)=some (.ptr s i):=rfl
theorem zNH (f:FuncId) (a b:List PV):pNil (.clo f a b)=some (.clo f a b):=rfl
theorem zOO (a:AV) (c:PV) (cs:List PV):pNil (.fp a (c::cs))=some (.fp a (c::cs)):=rfl
theorem zKK (n off:Nat) (cs:List PV):zCj true n off (.agg cs)=some (.agg ((cs.drop off).take n)):=rfl
theorem zKJ (n off:Nat) (cs:List PV):zCj false n off (.agg cs)=cs[off]?:=rfl
theorem zFS (off s i:Nat):Qo off (.ptr s i)=some (.ptr s (i+off)):=rfl
theorem zGJ (off:Nat) (a:AV) (c:PV) (cs:List PV):Qo off (.fp a (c::cs))=some (.fp (pAdd a off) ((c::cs).drop off)):=rfl
theorem zLk (sz s off len:Nat) (c:Cap) (k:IntKind) (n:Int):zBg sz (.sl s off len c) (.int k n)=if 0≤n∧n<len then some (.ptr s (off+n.toNat*sz))else none:=rfl
theorem zLl (sz:Nat) (w:Bool) (a:AV) (len:Nat) (cs:List PV) (k:IntKind) (n:Int):zBg sz (.fz w a len cs) (.int k n)=if 0≤n∧n<len then some (.fp (pAt a (n.toNat*sz)) (cs.drop (n.toNat*sz)))else none:=rfl
theorem zIc (s:List UInt8) (k:IntKind) (n:Int):zDK (.str s) (.int k n)=if 0≤n then(s[n.toNat]?).map fun c=>.int .u8 c.toNat else none:=rfl
theorem zG4 (vs:List PV) (i:Nat):zB4 (.tup vs) i=vs[i]?:=rfl
theorem zOQ (w:Bool) (a:AV) (n:Nat) (cs:List PV):pLen (.fz w a n cs)=some (.int .i64 n):=rfl
theorem zOP (s o n:Nat) (c:Cap):pLen (.sl s o n c)=some (.int .i64 n):=rfl
theorem zIb (s:List UInt8):zDJ (.str s)=some (.int .i64 s.length):=rfl
theorem zLn (w:Bool) (l:Nat) (cs:List PV):pCap (.fz w .nils l cs)=some (.int .i64 0):=rfl
theorem zOR (s o n c:Nat):pCap (.sl s o n (.known c))=some (.int .i64 c):=rfl
theorem zIa (mx:Bool) (k:IntKind) (a b:Int):zBf mx (.int k a) (.int k b)=some (.int k (if mx=true then max a b else min a b)):=by simp [zBf]
theorem zLW (n s i:Nat):pldv false n (.ptr s i) h=h.rd1 s i:=rfl
theorem zLV (n s i:Nat):pldv true n (.ptr s i) h=(h.rd s i n).map .agg:=rfl
theorem zM2 (n:Nat) (a:AV) (cs:List PV):pldv false n (.fp a cs) h=cs[0]?:=rfl
theorem zM1 (n:Nat) (a:AV) (cs:List PV):pldv true n (.fp a cs) h=if 0<n∧n≤cs.length then some (.agg (cs.take n))else none:=rfl
theorem zLU:h.news []=h:=rfl
theorem zJ4 (z:List AV) (zs:List (List AV)):h.news (z::zs)=(h.new (ofAVs z)).news zs:=rfl
theorem zKt (recs:List RecP):Qs [] recs h=True:=by
 apply propext;refine⟨fun _=>trivial,fun _=>?_⟩
 induction recs with
 | nil=>trivial
 | cons r rs ih=>exact⟨by simp,ih⟩
theorem zI6 (c:List Nat):Qs c [] h=True:=rfl
theorem zI7 (c:List Nat) (i:Nat) (a:Bool) (n:Nat) (x v:PV) (rs:List RecP):Qs c (⟨i,a,n,x,v⟩::rs) h=((if c.contains i=true then pldv a n x h=some v else True)∧Qs c rs h):=rfl
theorem zID (d:Option Nat) (a:Bool) (n:Nat) (x:IX) (g:Option (Nat×Bool)) (i:Nat) (c:List Nat) (v:PV):qB ⟨⟨d,.load a n x,true,g⟩,i,c⟩ e v=if zAf g e=true then [⟨i,a,n,x.pv e,v⟩]else []:=rfl
theorem zLE (d:Option Nat) (x:IX) (g:Option (Nat×Bool)) (i:Nat) (c:List Nat) (v:PV):qB ⟨⟨d,(.mv x),true,g⟩,i,c⟩ e v=[]:=rfl
theorem zIC (d:Option Nat) (x y z:IX) (g:Option (Nat×Bool)) (i:Nat) (c:List Nat) (v:PV):qB ⟨⟨d,(.pick x y z),true,g⟩,i,c⟩ e v=[]:=rfl
theorem zJz (d:Option Nat) (op:BinOp) (ek:EqK) (x y:IX) (g:Option (Nat×Bool)) (i:Nat) (c:List Nat) (v:PV):qB ⟨⟨d,(.bin op ek x y),true,g⟩,i,c⟩ e v=[]:=rfl
theorem zLC (d:Option Nat) (op:UnOp) (x:IX) (g:Option (Nat×Bool)) (i:Nat) (c:List Nat) (v:PV):qB ⟨⟨d,(.un op x),true,g⟩,i,c⟩ e v=[]:=rfl
theorem zIE (d:Option Nat) (k:IntKind) (x:IX) (g:Option (Nat×Bool)) (i:Nat) (c:List Nat) (v:PV):qB ⟨⟨d,(.conv k x),true,g⟩,i,c⟩ e v=[]:=rfl
theorem zET (d:Option Nat) (x:IX) (g:Option (Nat×Bool)) (i:Nat) (c:List Nat) (v:PV):qB ⟨⟨d,(.nilCheck x),true,g⟩,i,c⟩ e v=[]:=rfl
theorem zGh (d:Option Nat) (z:List AV) (ps:List (Nat×Nat×IX)) (g:Option (Nat×Bool)) (i:Nat) (c:List Nat) (v:PV):qB ⟨⟨d,(.build z ps),true,g⟩,i,c⟩ e v=[]:=rfl
theorem zGg (d:Option Nat) (a:Bool) (n off:Nat) (x:IX) (g:Option (Nat×Bool)) (i:Nat) (c:List Nat) (v:PV):qB ⟨⟨d,(.field a n off x),true,g⟩,i,c⟩ e v=[]:=rfl
theorem zDt (d:Option Nat) (off:Nat) (x:IX) (g:Option (Nat×Bool)) (i:Nat) (c:List Nat) (v:PV):qB ⟨⟨d,(.fieldAddr off x),true,g⟩,i,c⟩ e v=[]:=rfl
theorem zDs (d:Option Nat) (sz:Nat) (x y:IX) (g:Option (Nat×Bool)) (i:Nat) (c:List Nat) (v:PV):qB ⟨⟨d,(.indexAddr sz x y),true,g⟩,i,c⟩ e v=[]:=rfl
theorem zEV (d:Option Nat) (x y:IX) (g:Option (Nat×Bool)) (i:Nat) (c:List Nat) (v:PV):qB ⟨⟨d,(.indexStr x y),true,g⟩,i,c⟩ e v=[]:=rfl
theorem zFP (d:Option Nat) (x:IX) (j:Nat) (g:Option (Nat×Bool)) (i:Nat) (c:List Nat) (v:PV):qB ⟨⟨d,(.extract x j),true,g⟩,i,c⟩ e v=[]:=rfl
theorem zJx (d:Option Nat) (x:IX) (g:Option (Nat×Bool)) (i:Nat) (c:List Nat) (v:PV):qB ⟨⟨d,(.len x),true,g⟩,i,c⟩ e v=[]:=rfl
theorem zGF (d:Option Nat) (x:IX) (g:Option (Nat×Bool)) (i:Nat) (c:List Nat) (v:PV):qB ⟨⟨d,(.lenStr x),true,g⟩,i,c⟩ e v=[]:=rfl
theorem zJy (d:Option Nat) (x:IX) (g:Option (Nat×Bool)) (i:Nat) (c:List Nat) (v:PV):qB ⟨⟨d,(.cap x),true,g⟩,i,c⟩ e v=[]:=rfl
theorem zGf (d:Option Nat) (sz:Nat) (x:IX) (lo hi mx:Option IX) (g:Option (Nat×Bool)) (i:Nat) (c:List Nat) (v:PV):qB ⟨⟨d,(.slice sz x lo hi mx),true,g⟩,i,c⟩ e v=[]:=rfl
theorem zES (d:Option Nat) (x:IX) (lo hi:Option IX) (g:Option (Nat×Bool)) (i:Nat) (c:List Nat) (v:PV):qB ⟨⟨d,(.sliceStr x lo hi),true,g⟩,i,c⟩ e v=[]:=rfl
theorem zGE (d:Option Nat) (mx:Bool) (x y:IX) (g:Option (Nat×Bool)) (i:Nat) (c:List Nat) (v:PV):qB ⟨⟨d,(.maxmin mx x y),true,g⟩,i,c⟩ e v=[]:=rfl
theorem zEU (d:Option Nat) (f:FuncId) (y z:List IX) (g:Option (Nat×Bool)) (i:Nat) (c:List Nat) (v:PV):qB ⟨⟨d,(.makeFunc f y z),true,g⟩,i,c⟩ e v=[]:=rfl
theorem zJw (d:Option Nat) (j:Nat) (g:Option (Nat×Bool)) (i:Nat) (c:List Nat) (v:PV):qB ⟨⟨d,(.rev j),true,g⟩,i,c⟩ e v=[]:=rfl
theorem zGX:zAf none e=true:=rfl
theorem zGW (t:Nat) (b:Bool):zAf (some (t,b)) e=(match e t with | .bool c=>decide (c=b) | _=>false):=rfl
theorem zJv:ZP [] e h=some []:=rfl
theorem zJu (t:Nat) (r:List IRes):ZP (.tmp t::r) e h=(ZP r e h).map fun vs=>e t::vs:=rfl
theorem zH8 (t:Nat) (a:Bool) (n:Nat) (r:List IRes):ZP (.cell t a n::r) e h=(pldv a n (e t) h).bind fun v=>(ZP r e h).map fun vs=>v::vs:=rfl
theorem zH9 (res:List IRes):retP res KA .normal e h=optK (ZP res e h) fun vs=>KA (packP vs) h:=rfl
theorem zMk (res:List IRes):retP res KA .ret e h=optK (ZP res e h) fun vs=>KA (packP vs) h:=rfl
theorem zLh (v:PV):packP [v]=v:=rfl
theorem zLi:packP []=.tup []:=rfl
theorem zLg (u v:PV) (r:List PV):packP (u::v::r)=.tup (u::v::r):=rfl
theorem zLY (cs:List PV):pfill cs []=some cs:=rfl
theorem zJ5 (cs:List PV) (off size:Nat) (v:PV) (r:List (Nat×Nat×PV)):pfill cs ((off,size,v)::r)=if v.cells.length=size∧off+size≤cs.length∧v.cells.all PV.one=true then pfill (cs.take off++v.cells++cs.drop (off+size)) r else none:=rfl
theorem zJ9 (k:IntKind) (n:Int):PV.cells (.int k n)=[(.int k n)]:=rfl
theorem zMx (k:IntKind) (n:Int):PV.one (.int k n)=true:=rfl
theorem zIS (b:Bool):PV.cells (.bool b)=[(.bool b)]:=rfl
theorem zLR (b:Bool):PV.one (.bool b)=true:=rfl
theorem zJ7 (s:List UInt8):PV.cells (.str s)=[(.str s)]:=rfl
theorem zMv (s:List UInt8):PV.one (.str s)=true:=rfl
theorem zIQ:PV.cells .nilp=[.nilp]:=rfl
theorem zLP:PV.one .nilp=true:=rfl
theorem zIR:PV.cells .nilf=[.nilf]:=rfl
theorem zLQ:PV.one .nilf=true:=rfl
theorem zLa (w:Bool) (a:AV) (n:Nat) (cs:List PV):PV.cells (.fz w a n cs)=[(.fz w a n cs)]:=rfl
theorem zOG (w:Bool) (a:AV) (n:Nat) (cs:List PV):PV.one (.fz w a n cs)=true:=rfl
theorem zLb (a:AV) (cs:List PV):PV.cells (.fp a cs)=[(.fp a cs)]:=rfl
theorem zOH (a:AV) (cs:List PV):PV.one (.fp a cs)=true:=rfl
theorem zJ8 (s i:Nat):PV.cells (.ptr s i)=[(.ptr s i)]:=rfl
theorem zMw (s i:Nat):PV.one (.ptr s i)=true:=rfl
theorem zLZ (s o n:Nat) (c:Cap):PV.cells (.sl s o n c)=[(.sl s o n c)]:=rfl
theorem zOF (s o n:Nat) (c:Cap):PV.one (.sl s o n c)=true:=rfl
theorem zKA (f:FuncId) (a b:List PV):PV.cells (.clo f a b)=[(.clo f a b)]:=rfl
theorem zMy (f:FuncId) (a b:List PV):PV.one (.clo f a b)=true:=rfl
theorem zKB (cs:List PV):PV.cells (.agg cs)=cs:=rfl
theorem zB3 (k:IntKind) (i:Int) (y:Nat):ZW (.int k i) y=if 0≤i∧i≤y then some i.toNat else none:=rfl
theorem zAw (x:PV) (d y:Nat):ze (some x) d y=ZW x y:=rfl
theorem zAx (d y:Nat):ze none d y=some d:=rfl
theorem zLL (sz:Nat) (w:Bool) (a:AV) (len:Nat) (cs:List PV) (lo hi:Option PV):ZQ sz (.fz w a len cs) lo hi none=(ze hi len len).bind fun h=>(ze lo 0 h).bind fun l=>some (.fz false (pslA sz a l h) (h-l) ((cs.drop (l*sz)).take ((h-l)*sz))):=rfl
theorem zAt (sz s off len c:Nat) (lo hi mx:Option PV):ZQ sz (.sl s off len (.known c)) lo hi mx=(ze mx c c).bind fun m=>(ze hi len m).bind fun h=>(ze lo 0 h).bind fun l=>if hi.isNone=true∧mx.isSome=true then none else some (.sl s (if m=l then off else off+l*sz) (h-l) (.known (m-l))):=rfl
theorem zAu (sz s off len g:Nat) (lo hi:Option PV):ZQ sz (.sl s off len (.grown g)) lo hi none=(ze hi len len).bind fun h=>(ze lo 0 h).bind fun l=>some (.sl s (off+l*sz) (h-l) (.grown (if g=sz then g else 0))):=rfl
theorem zGG (s:List UInt8) (lo hi:Option PV):zBB (.str s) lo hi=(ze hi s.length s.length).bind fun h=>(ze lo 0 h).bind fun l=>some (.str ((s.take h).drop l)):=rfl
theorem zOL (w:Bool) (a:AV) (n:Nat) (cs:List PV):plen (.fz w a n cs)=some n:=rfl
theorem zOK (s o n:Nat) (c:Cap):plen (.sl s o n c)=some n:=rfl
theorem Qn (sz bytes:Nat) (s x:PV):qW sz bytes h s x=(plen x).bind fun m=>if m=0 then(psame s).map fun v=>(v,h)else(Zj sz h x m).bind fun news=>pgrow sz bytes h s news m:=rfl
theorem zIL (s o n c:Nat):psame (.sl s o n (.known c))=if n≤c then some (.sl s o n (.known c))else none:=rfl
theorem zLX (sz:Nat) (w:Bool) (a:AV) (len:Nat) (cs:List PV) (n:Nat):Zj sz h (.fz w a len cs) n=if n=0 then some []else if n≤len∧n*sz≤cs.length∧0<sz then some (cs.take (n*sz))else none:=rfl
theorem Qd (sz s off len:Nat) (c:Cap) (n:Nat):Zj sz h (.sl s off len c) n=if n=0 then some []else if n≤len then h.rd s off (n*sz)else none:=rfl
theorem zEa (sz bytes:Nat) (w:Bool) (n:Nat) (cs news:List PV) (m:Nat):pgrow sz bytes h (.fz w .nils n cs) news m=if m*bytes≤140737488355328∧m≤4611686018427387904 then some (.sl h.next 0 m (.grown sz),h.new news)else none:=rfl
theorem zAC (sz bytes s off len c:Nat) (news:List PV) (m:Nat):pgrow sz bytes h (.sl s off len (.known c)) news m=if len+m≤c then(h.wr s (off+len*sz) news).map fun σ'=>(.sl s off (len+m) (.known c),σ')else if (len+m)*bytes≤140737488355328∧len+m≤4611686018427387904 then(h.rd s off (len*sz)).map fun old=>(.sl h.next 0 (len+m) (.grown sz),h.new (old++news))else none:=rfl
theorem zAD (sz bytes s off len g:Nat) (news:List PV) (m:Nat):pgrow sz bytes h (.sl s off len (.grown g)) news m=if (len+m)*bytes≤140737488355328∧len+m≤4611686018427387904∧g=sz then(h.obj s).bind fun cs=>if off+len*sz≤cs.length then some (.sl h.next 0 (len+m) (.grown sz),(h.kill s).new ((cs.drop off).take (len*sz)++news))else none else none:=rfl
theorem zGr (cs:List PV) (s i:Nat):(h.new cs).rd1 s i=if s=h.next then cs[i]? else h.rd1 s i:=by by_cases x:s=h.next<;>simp [PHeap.rd1,PHeap.new,x]
theorem Qz (cs:List PV) (s i n:Nat):(h.new cs).rd s i n=if s=h.next then(if i+n≤cs.length then some ((cs.drop i).take n)else none)else h.rd s i n:=by by_cases x:s=h.next<;>simp [PHeap.rd,PHeap.new,x]
theorem zM (cs:List PV) (s:Nat):(h.new cs).obj s=if s=h.next then some cs else h.obj s:=rfl
theorem zOB (cs:List PV) (s i:Nat) (vs:List PV):(h.new cs).wr s i vs=if s=h.next then(if i+vs.length≤cs.length∧vs.all PV.one=true then some (h.new (cs.take i++vs++cs.drop (i+vs.length)))else none)else(h.wr s i vs).map fun h'=>h'.new cs:=by
 by_cases x:s=h.next
 ·subst x
  simp only [PHeap.wr,PHeap.new,if_true,Option.bind_some]
  split
  ·congr 1
   simp only [PHeap.set]
   congr 1
   funext y
   by_cases hy:y=h.next<;>simp [hy]
  ·rfl
 ·simp only [PHeap.wr,PHeap.new,if_neg x]
  cases ho:h.obj s with
  | none=>rfl
  | some ob=>
   simp only [Option.bind_some]
   split
   ·simp only [Option.map_some,PHeap.set]
    congr 2
    funext y
    by_cases hy:y=s
    ·subst hy;simp [x]
    ·simp [hy]
   ·rfl
theorem zLT (cs:List PV):(h.new cs).next=h.next+1:=rfl
theorem zGo (cs:List PV):(h.new cs).top=h.top:=rfl
theorem zMs (cs:List PV) (s:Nat) (ds:List PV):(h.new cs).set s ds=if s=h.next then h.new ds else(h.set s ds).new cs:=by
 by_cases x:s=h.next
 ·subst x
  rw [if_pos rfl];simp only [PHeap.set,PHeap.new]
  congr 1
  funext y
  by_cases hy:y=h.next<;>simp [hy]
 ·rw [if_neg x]
  simp only [PHeap.set,PHeap.new]
  congr 1
  funext y
  by_cases hy:y=s
  ·subst hy;simp [x]
  ·simp [hy]
theorem Qy (s:Nat) (cs ds:List PV):(h.set s cs).set s ds=h.set s ds:=by
 simp only [PHeap.set]
 congr 1
 funext y
 by_cases hy:y=s<;>simp [hy]
theorem zLS (s:Nat) (cs:List PV):(h.set s cs).next=h.next:=rfl
theorem zJ3 (s:Nat):(h.kill s).next=h.next:=rfl
theorem zMz (t:Nat):(h.up t).next=h.next:=rfl
theorem zJJ (t:Nat):(h.up t).top=t:=rfl
theorem zOJ (t:Nat) (cs:List PV):(h.up t).new cs=(h.new cs).up t:=rfl
theorem zOE (t s i:Nat):(h.up t).rd1 s i=h.rd1 s i:=rfl
theorem zPE (t s i n:Nat):(h.up t).rd s i n=h.rd s i n:=rfl
theorem zOI (t s:Nat):(h.up t).obj s=h.obj s:=rfl
theorem zPC (t s i:Nat) (vs:List PV):(h.up t).wr s i vs=(h.wr s i vs).map fun h'=>h'.up t:=by
 simp only [PHeap.wr,PHeap.up];cases h.obj s with
 | none=>rfl
 | some cs=>simp only [Option.bind_some];split<;>rfl
theorem zCg (s t:Nat):(h.kill s).obj t=if t=s then none else h.obj t:=rfl
theorem zH (s:Nat) (cs:List PV) (t:Nat):(h.set s cs).obj t=if t=s then some cs else h.obj t:=rfl
theorem zLM (s t i:Nat):(h.kill s).rd1 t i=if t=s then none else h.rd1 t i:=by by_cases x:t=s<;>simp [PHeap.rd1,PHeap.kill,x]
theorem zMt (s t i n:Nat):(h.kill s).rd t i n=if t=s then none else h.rd t i n:=by by_cases x:t=s<;>simp [PHeap.rd,PHeap.kill,x]
theorem zDu (s:Nat) (cs:List PV) (t i:Nat):(h.set s cs).rd1 t i=if t=s then cs[i]? else h.rd1 t i:=by by_cases x:t=s<;>simp [PHeap.rd1,PHeap.set,x]
theorem qx (s:Nat) (cs:List PV) (t i n:Nat):(h.set s cs).rd t i n=if t=s then(if i+n≤cs.length then some ((cs.drop i).take n)else none)else h.rd t i n:=by by_cases x:t=s<;>simp [PHeap.rd,PHeap.set,x]
theorem zOA (s:Nat) (cs:List PV) (i:Nat) (vs:List PV):(h.set s cs).wr s i vs=if i+vs.length≤cs.length∧vs.all PV.one=true then some (h.set s (cs.take i++vs++cs.drop (i+vs.length)))else none:=by
 simp only [PHeap.wr,PHeap.set,if_true,Option.bind_some]
 split
 ·congr 2
  funext y
  by_cases hy:y=s<;>simp [hy]
 ·rfl
end
def pw0:=And.intro @zNx <| And.intro @zKv <| And.intro @zNz <| And.intro @zO2 <| And.intro @zN0 <| And.intro @zMc <| And.intro @zNy <| And.intro @zO3 <| And.intro @zOv <| And.intro @RVp_q <| And.intro @RVp_e <| And.intro @zOy <| And.intro @DVp_q <| And.intro @DVp_e <| And.intro @zNY <| And.intro @zNX <| And.intro @zNa <| And.intro @zNZ <| And.intro @zIO <| And.intro @zG1 <| And.intro @zJ6 <| And.intro @zIP <| And.intro @zGz <| And.intro @zGx <| And.intro @zGw <| And.intro @zGy <| And.intro @pv_t <| And.intro @pv_c <| And.intro @zM0 <| @zLN
def pw1:=And.intro @zLO <| And.intro @qp_mv <| And.intro @zN7 <| And.intro @zPB <| And.intro @qp_un <| And.intro @zN9 <| And.intro @zIG <| And.intro @zMr <| And.intro @zMq <| And.intro @zGl <| And.intro @zGk <| And.intro @zII <| And.intro @zJ0 <| And.intro @zO9 <| And.intro @zLH <| And.intro @zPA <| And.intro @zMp <| And.intro @zIF <| And.intro @zLG <| And.intro @zIH <| And.intro @zN8 <| And.intro @zO8 <| And.intro @zNh <| And.intro @zPY <| And.intro @zKf <| And.intro @zNf <| And.intro @zKH <| And.intro @zML <| And.intro @zI2 <| @zId
def pw2:=And.intro @zLj <| And.intro @zMM <| And.intro @zOp <| And.intro @zOq <| And.intro @zNg <| And.intro @zKL <| And.intro @zNK <| And.intro @of_bool <| And.intro @of_int <| And.intro @zPJ <| And.intro @zOV <| And.intro @zOW <| And.intro @zOU <| And.intro @zPK <| And.intro @zPL <| And.intro @zOT <| And.intro @zNJ <| And.intro @zOS <| And.intro @zNF <| And.intro @zM5 <| And.intro @zM9 <| And.intro @zNE <| And.intro @zM8 <| And.intro @zNA <| And.intro @zNB <| And.intro @zNC <| And.intro @zND <| And.intro @zM7 <| And.intro @zM6 <| @zKF
def pw3:=And.intro @zLf <| And.intro @zKG <| And.intro @zLe <| And.intro @zLd <| And.intro @zKE <| And.intro @zIX <| And.intro @zKD <| And.intro @zIW <| And.intro @zIV <| And.intro @zIU <| And.intro @zIT <| And.intro @zIx <| And.intro @zME <| And.intro @zOD <| And.intro @zOC <| And.intro @zKI <| And.intro @zIZ <| And.intro @zLm <| And.intro @zNG <| And.intro @zNH <| And.intro @zOO <| And.intro @zKK <| And.intro @zKJ <| And.intro @zFS <| And.intro @zGJ <| And.intro @zLk <| And.intro @zLl <| And.intro @zIc <| And.intro @zG4 <| @zOQ
def pw4:=And.intro @zOP <| And.intro @zIb <| And.intro @zLn <| And.intro @zOR <| And.intro @zIa <| And.intro @zLW <| And.intro @zLV <| And.intro @zM2 <| And.intro @zM1 <| And.intro @zLU <| And.intro @zJ4 <| And.intro @zKt <| And.intro @zI6 <| And.intro @zI7 <| And.intro @zID <| And.intro @zLE <| And.intro @zIC <| And.intro @zJz <| And.intro @zLC <| And.intro @zIE <| And.intro @zET <| And.intro @zGh <| And.intro @zGg <| And.intro @zDt <| And.intro @zDs <| And.intro @zEV <| And.intro @zFP <| And.intro @zJx <| And.intro @zGF <| @zJy
def pw5:=And.intro @zGf <| And.intro @zES <| And.intro @zGE <| And.intro @zEU <| And.intro @zJw <| And.intro @zGX <| And.intro @zGW <| And.intro @zJv <| And.intro @zJu <| And.intro @zH8 <| And.intro @zH9 <| And.intro @zMk <| And.intro @zLh <| And.intro @zLi <| And.intro @zLg <| And.intro @zLY <| And.intro @zJ5 <| And.intro @zJ9 <| And.intro @zMx <| And.intro @zIS <| And.intro @zLR <| And.intro @zJ7 <| And.intro @zMv <| And.intro @zIQ <| And.intro @zLP <| And.intro @zIR <| And.intro @zLQ <| And.intro @zLa <| And.intro @zOG <| @zLb
def pw6:=And.intro @zOH <| And.intro @zJ8 <| And.intro @zMw <| And.intro @zLZ <| And.intro @zOF <| And.intro @zKA <| And.intro @zMy <| And.intro @zKB <| And.intro @zB3 <| And.intro @zAw <| And.intro @zAx <| And.intro @zLL <| And.intro @zAt <| And.intro @zAu <| And.intro @zGG <| And.intro @zOL <| And.intro @zOK <| And.intro @zGr <| And.intro @Qz <| And.intro @zM <| And.intro @zOB <| And.intro @zLT <| And.intro @zGo <| And.intro @zMs <| And.intro @Qy <| And.intro @zLS <| And.intro @zJ3 <| And.intro @zMz <| And.intro @zJJ <| @zOJ
def pw7:=And.intro @zOE <| And.intro @zPE <| And.intro @zOI <| And.intro @zPC <| And.intro @zCg <| And.intro @zH <| And.intro @zLM <| And.intro @zMt <| And.intro @zDu <| And.intro @qx <| And.intro @zOA <| And.intro @zBF <| And.intro @zAJ <| And.intro @zLo <| And.intro @zNI <| And.intro @List.map_cons.{0,0} <| And.intro @List.map_nil.{0,0} <| And.intro @List.length_cons.{0} <| And.intro @List.length_nil.{0} <| And.intro @List.getElem?_cons_zero.{0} <| And.intro @List.getElem?_cons_succ.{0} <| And.intro @List.take_succ_cons.{0} <| And.intro @List.take_zero.{0} <| And.intro @List.drop_succ_cons.{0} <| And.intro @List.drop_zero.{0} <| And.intro @List.take_nil.{0} <| And.intro @List.drop_nil.{0} <| And.intro @List.nil_append.{0} <| And.intro @List.cons_append.{0} <| @List.append_nil.{0}
def pw8:=And.intro @List.all_cons.{0} <| And.intro @List.all_nil.{0} <| And.intro @List.contains_cons.{0} <| And.intro @List.contains_nil.{0} <| And.intro @Option.map_some.{0,0} <| And.intro @Option.map_none.{0,0} <| And.intro @Option.bind_some.{0,0} <| And.intro @Option.bind_none.{0,0} <| And.intro @decide_true <| And.intro @decide_false <| And.intro @Bool.not_true <| And.intro @Bool.not_false <| And.intro @Bool.and_true <| And.intro @Bool.true_and <| And.intro @Bool.and_self <| And.intro @Bool.or_false <| And.intro @Bool.or_true <| And.intro @Bool.true_or <| And.intro @Bool.false_or <| And.intro @true_and <| And.intro @and_true <| And.intro @Bool.true_eq_false <| And.intro @Bool.false_eq_true <| And.intro @Nat.left_eq_add <| And.intro @Nat.add_eq_left <| And.intro @Nat.succ_ne_self <| And.intro @Nat.one_ne_zero <| And.intro @Nat.add_left_cancel_iff <| And.intro @Nat.add_assoc <| @Nat.mul_one
def pw9:=And.intro @Nat.zero_add <| And.intro @Nat.add_zero <| And.intro @Nat.le_refl <| And.intro @Nat.lt_add_one <| And.intro @Int.toNat_natCast <| And.intro @Int.natCast_nonneg <| And.intro @Int.ofNat_lt <| And.intro @Int.le_refl <| And.intro @zJn <| And.intro @zJo <| And.intro @zGU <| And.intro @Nat.one_mul <| @Nat.zero_mul
def pwA:=And.intro pw0 <| And.intro pw1 <| And.intro pw2 <| And.intro pw3 <| And.intro pw4 <| And.intro pw5 <| And.intro pw6 <| And.intro pw7 <| And.intro pw8 <| And.intro pw9 <| And.intro @nm_eq <| And.intro @eq_self.{1} <| And.intro @Int.ofNat_le @List.getElem?_drop.{0}
end Go.Ab
