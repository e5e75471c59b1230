/- THE RULES BY WHICH CODE IS WALKED over values without a heap: equations, and the one name 'pw' for all of them. Written by a program. -/
import Derived.Test.YtkhbdmlhjnijaaaDAbPg
import Derived.Test.YtkhbdmlhjnijaaaDAbAid
set_option linter.unusedVariables false
set_option linter.unusedSimpArgs false
set_option linter.defProp false
namespace Go.Ab
section
variable {P:Program} {Q:Exit→PEnv→PHeap→Prop} {e:PEnv} {h:PHeap} {K:PEnv→PHeap→Prop} {KA:PV→PHeap→Prop} {nb nr:Nat}
theorem zLg:vp P .skip Q e h=Q .normal e h:=rfl
theorem zIP (S:List Nat) (its:List II):vp P (.region S its) Q e h=RVp P its e h fun e' h'=>Q .normal (PEnv.mk S (S.map e')) h':=rfl
theorem zLi (S:List Nat) (zs:List (List AV)) (its:List DI):vp P (.draw S zs its) Q e h=DVp P h.next zs.length its [] e (h.news zs) fun e' h'=>Q .normal (PEnv.mk S (S.map e')) h':=rfl
theorem zMx (a b:IC):vp P (.seq a b) Q e h=vp P a (fun x e' h'=>match x with | .normal=>vp P b Q e' h' | x=>Q x e' h') e h:=rfl
theorem zLj (c:IX) (a b:IC):vp P (.cond c a b) Q e h=ZR (c.pv e) (vp P a Q e h) (vp P b Q e h):=rfl
theorem zJ6 (id:Nat) (c:IC):vp P (.block id c) Q e h=vp P c (fun x e' h'=>match x with | .exit id'=>if id'=id then Q .normal e' h' else Q (.exit id') e' h' | x=>Q x e' h') e h:=rfl
theorem zLh (id:Nat):vp P (.exit id) Q e h=Q (.exit id) e h:=rfl
theorem zMy:vp P .ret Q e h=Q .ret e h:=rfl
theorem zMq:RVp P [] e h K=K e h:=rfl
theorem RVp_q (d:Option Nat) (op:IOp) (g:Option (Nat×Bool)) (r:List II):RVp P (⟨d,op,true,g⟩::r) e h K=optK (gqp 0 0 ⟨d,op,true,g⟩ e h) fun v=>RVp P r (e.put d v) h K:=rfl
theorem RVp_e (d:Option Nat) (op:IOp) (g:Option (Nat×Bool)) (r:List II):RVp P (⟨d,op,false,g⟩::r) e h K=gep P ⟨d,op,false,g⟩ e h fun v h'=>RVp P r (e.put d v) h' K:=rfl
theorem zMt (recs:List RecP):DVp P nb nr [] recs e h K=K e h:=rfl
theorem DVp_q (d:Option Nat) (op:IOp) (g:Option (Nat×Bool)) (i:Nat) (c:List Nat) (r:List DI) (recs:List RecP):DVp P nb nr (⟨⟨d,op,true,g⟩,i,c⟩::r) recs e h K=optK (gqp nb nr ⟨d,op,true,g⟩ e h) fun v=>DVp P nb nr r (qV ⟨⟨d,op,true,g⟩,i,c⟩ e v++recs) (e.put d v) h K:=rfl
theorem DVp_e (d:Option Nat) (op:IOp) (g:Option (Nat×Bool)) (i:Nat) (c:List Nat) (r:List DI) (recs:List RecP):DVp P nb nr (⟨⟨d,op,false,g⟩,i,c⟩::r) recs e h K=gep P ⟨d,op,false,g⟩ e h fun v h'=>QG c recs h'∧DVp P nb nr r recs (e.put d v) h' K:=rfl
theorem zK5 (d:Option Nat) (op:IOp) (q:Bool):gqp nb nr ⟨d,op,q,none⟩ e h=qp nb nr op e h:=rfl
theorem zK4 (d:Option Nat) (op:IOp) (q:Bool) (t:Nat) (b:Bool):gqp nb nr ⟨d,op,q,some (t,b)⟩ e h=QP (e t) b (qp nb nr op e h):=rfl
theorem zK7 (d:Option Nat) (op:IOp) (q:Bool):gep P ⟨d,op,q,none⟩ e h KA=ep P op e h KA:=rfl
theorem zK6 (d:Option Nat) (op:IOp) (q:Bool) (t:Nat) (b:Bool):gep P ⟨d,op,q,some (t,b)⟩ e h KA=ZK (e t) b (ep P op e h KA) (KA (.tup []) h):=rfl
theorem zGO (a b:Prop):ZR (.bool true) a b=a:=rfl
theorem zFU (a b:Prop):ZR (.bool false) a b=b:=rfl
theorem zHX (c:Prop) [Decidable c] (a b:Prop):ZR (.bool (decide c)) a b=if c then a else b:=by by_cases x:c<;>simp [ZR,x]
theorem zGP (c:Prop) [Decidable c] (a b:Prop):ZR (.bool (!decide c)) a b=if c then b else a:=by by_cases x:c<;>simp [ZR,x]
theorem zFT (c b:Bool) (x y:Prop):ZK (.bool c) b x y=if c=b then x else y:=rfl
theorem zFR (c b:Bool) (x:Option PV):QP (.bool c) b x=if c=b then x else some (.tup []):=rfl
theorem zFQ (b:Bool) (x:Option PV):QP (.tup []) b x=some (.tup []):=rfl
theorem zFS (b:Bool) (x y:Prop):ZK (.tup []) b x y=y:=rfl
theorem pv_t (n:Nat):(IX.t n).pv e=e n:=rfl
theorem pv_c (v:AV):(IX.c v).pv e=ofAV v:=rfl
theorem zKc (s:Nat) (S:List Nat) (v:PV) (vs:List PV) (t:Nat):PEnv.mk (s::S) (v::vs) t=if t=s then v else PEnv.mk S vs t:=rfl
theorem zIo (d:Nat) (v:PV) (t:Nat):e.put (some d) v t=if t=d then v else e t:=rfl
theorem zIp (v:PV):e.put none v=e:=rfl
theorem qp_mv (x:IX):qp nb nr (.mv x) e h=some (x.pv e):=rfl
theorem zL4 (c a b:IX):qp nb nr (.pick c a b) e h=pPick (c.pv e) (a.pv e) (b.pv e):=rfl
theorem zNI (op:BinOp) (ek:EqK) (x y:IX):qp nb nr (.bin op ek x y) e h=pbin op ek (x.pv e) (y.pv e):=rfl
theorem qp_un (op:UnOp) (x:IX):qp nb nr (.un op x) e h=pun op (x.pv e):=rfl
theorem zL6 (k:IntKind) (x:IX):qp nb nr (.conv k x) e h=pConv k (x.pv e):=rfl
theorem zGJ (x:IX):qp nb nr (.nilCheck x) e h=pNil (x.pv e):=rfl
theorem zKO (z:List AV) (ps:List (Nat×Nat×IX)):qp nb nr (.build z ps) e h=(pfill (ofAVs z) (ps.map fun p=>(p.1,p.2.1,p.2.2.pv e))).map .agg:=rfl
theorem zKN (a:Bool) (n off:Nat) (x:IX):qp nb nr (.field a n off x) e h=zB1 a n off (x.pv e):=rfl
theorem zFK (off:Nat) (x:IX):qp nb nr (.fieldAddr off x) e h=QY off (x.pv e):=rfl
theorem zFJ (sz:Nat) (x i:IX):qp nb nr (.indexAddr sz x i) e h=zA7 sz (x.pv e) (i.pv e):=rfl
theorem zGL (x i:IX):qp nb nr (.indexStr x i) e h=zCS (x.pv e) (i.pv e):=rfl
theorem zHQ (x:IX) (i:Nat):qp nb nr (.extract x i) e h=zBX (x.pv e) i:=rfl
theorem zNG (x:IX):qp nb nr (.len x) e h=pLen (x.pv e):=rfl
theorem zIi (x:IX):qp nb nr (.lenStr x) e h=zCR (x.pv e):=rfl
theorem zNH (x:IX):qp nb nr (.cap x) e h=pCap (x.pv e):=rfl
theorem zKM (sz:Nat) (x:IX) (lo hi mx:Option IX):qp nb nr (.slice sz x lo hi mx) e h=QW sz (x.pv e) (lo.map (·.pv e)) (hi.map (·.pv e)) (mx.map (·.pv e)):=rfl
theorem zGI (x:IX) (lo hi:Option IX):qp nb nr (.sliceStr x lo hi) e h=zAk (x.pv e) (lo.map (·.pv e)) (hi.map (·.pv e)):=rfl
theorem zIh (mx:Bool) (x y:IX):qp nb nr (.maxmin mx x y) e h=zA6 mx (x.pv e) (y.pv e):=rfl
theorem zGK (f:FuncId) (a b:List IX):qp nb nr (.makeFunc f a b) e h=some (.clo f (a.map (·.pv e)) (b.map (·.pv e))):=rfl
theorem zL5 (a:Bool) (n:Nat) (x:IX):qp nb nr (.load a n x) e h=pldv a n (x.pv e) h:=rfl
theorem zNF (k:Nat):qp nb nr (.rev k) e h=if k<nr then some (.ptr (nb+k) 0)else none:=rfl
theorem zL3 (k n:Nat):qp nb nr (.revS k n) e h=if k<nr then some (.sl (nb+k) 0 n (.known n))else none:=rfl
theorem zLF (z:List AV):ep P (.alloc z) e h KA=KA (.ptr h.next 0) (h.new (ofAVs z)):=rfl
theorem zNV (x:IX):ep P (.box x) e h KA=((x.pv e).cells.all PV.one=true∧KA (.ptr h.next 0) (h.new (x.pv e).cells)):=rfl
theorem zH1 (sz len:Nat) (z:List AV) (ps:List (Nat×Nat×IX)):ep P (.buildSl sz len z ps) e h KA=optK (pfill (ofAVs (zeros z len)) (ps.map fun p=>(p.1,p.2.1,p.2.2.pv e))) fun cs=>KA (.sl h.next 0 len (.known len)) (h.new cs):=rfl
def zDk (n:Nat) (x v:PV) (h:PHeap) (KA:PV→PHeap→Prop):Prop:=
 match x with
 | .ptr s i=>v.cells.length=n∧optK (h.wr s i v.cells) fun h'=>KA .undef h'
 | _=>False
def pMake (sz bytes:Nat) (z:List AV) (l c:PV) (h:PHeap) (KA:PV→PHeap→Prop):Prop:=
 match l,c with
 | .int _ l,.int _ c=>(0≤l∧l≤c∧c*bytes≤140737488355328∧c≤9223372036854775807)∧KA (.sl h.next 0 l.toNat (.known c.toNat)) (h.new (ofAVs (zeros z c.toNat)))
 | _,_=>False
def zDm (sz bytes:Nat) (z:List AV) (s n:PV) (h:PHeap) (KA:PV→PHeap→Prop):Prop:=
 match s,n with
 | .fz _ .nils _ _,.int _ n=>(0≤n∧n*bytes≤140737488355328∧n≤4611686018427387904)∧if 0<n then KA (.sl h.next 0 n.toNat (.grown sz)) (h.new (ofAVs (zeros z n.toNat)))else KA (.fz true .nils 0 []) h
 | .sl s off len c,.int _ n=>(0≤n∧n*bytes≤140737488355328∧n≤4611686018427387904)∧optK (if 0<n then pgrow sz bytes h (.sl s off len c) (ofAVs (zeros z n.toNat)) n.toNat else(psame (.sl s off len c)).map fun v=>(v,h)) fun p=>KA p.1 p.2
 | _,_=>False
def zDl (P:Program) (f:PV) (args:List PV) (h:PHeap) (KA:PV→PHeap→Prop):Prop:=
 match f with
 | .clo f first caps=>okF P f=true∧zA P f (first++args++caps) h KA
 | _=>False
theorem zLD (n:Nat) (x v:IX):ep P (.store n x v) e h KA=zDk n (x.pv e) (v.pv e) h KA:=rfl
theorem zHi (n s i:Nat) (v:PV):zDk n (.ptr s i) v h KA=(v.cells.length=n∧optK (h.wr s i v.cells) fun h'=>KA .undef h'):=rfl
theorem zJj (sz bytes:Nat) (z:List AV) (l c:IX):ep P (.makeSl sz bytes z l c) e h KA=pMake sz bytes z (l.pv e) (c.pv e) h KA:=rfl
theorem zGu (sz bytes:Nat) (z:List AV) (s n:IX):ep P (.appendMk sz bytes z s n) e h KA=zDm sz bytes z (s.pv e) (n.pv e) h KA:=rfl
theorem zGd (sz bytes:Nat) (z:List AV) (w:Bool) (l:Nat) (cs:List PV) (k:IntKind) (n:Int):zDm sz bytes z (.fz w .nils l cs) (.int k n) h KA=((0≤n∧n*bytes≤140737488355328∧n≤4611686018427387904)∧if 0<n then KA (.sl h.next 0 n.toNat (.grown sz)) (h.new (ofAVs (zeros z n.toNat)))else KA (.fz true .nils 0 []) h):=rfl
theorem zJF (sz bytes:Nat) (z:List AV) (k k':IntKind) (l c:Int):pMake sz bytes z (.int k l) (.int k' c) h KA=((0≤l∧l≤c∧c*bytes≤140737488355328∧c≤9223372036854775807)∧KA (.sl h.next 0 l.toNat (.known c.toNat)) (h.new (ofAVs (zeros z c.toNat)))):=rfl
def pLook (x k:PV) (h:PHeap) (KA:PV→PHeap→Prop):Prop:=
 match x,k with
 | .mref s,.int kk i=>(kk=.i64∧0≤i)∧optK (h.rd1 s i.toNat) fun v=>KA v h
 | _,_=>False
def pUpd (x k v:PV) (h:PHeap) (KA:PV→PHeap→Prop):Prop:=
 match x,k,v with
 | .mref s,.int kk i,.bool b=>(kk=.i64∧0≤i)∧optK (h.wr s i.toNat [.bool b]) fun h'=>KA .undef h'
 | _,_,_=>False
theorem zH0:ep P .makeMap e h KA = ∃N,KA (.mref h.next) (h.new (List.replicate N (.bool false))):=rfl
theorem zJk (x k:IX):ep P (.lookup x k) e h KA=pLook (x.pv e) (k.pv e) h KA:=rfl
theorem zHk (s:Nat) (i:Int):pLook (.mref s) (.int .i64 i) h KA=(0≤i∧optK (h.rd1 s i.toNat) fun v=>KA v h):=by
 show((IntKind.i64=.i64∧0≤i)∧_)=_
 simp only [true_and]
theorem zEf (x k v:IX):ep P (.mapUpd x k v) e h KA=pUpd (x.pv e) (k.pv e) (v.pv e) h KA:=rfl
theorem zEU (s:Nat) (i:Int) (b:Bool):pUpd (.mref s) (.int .i64 i) (.bool b) h KA=(0≤i∧optK (h.wr s i.toNat [.bool b]) fun h'=>KA .undef h'):=by
 show((IntKind.i64=.i64∧0≤i)∧_)=_
 simp only [true_and]
theorem zJl (sz bytes:Nat) (s x:IX):ep P (.append sz bytes s x) e h KA=optK (qo sz bytes h (s.pv e) (x.pv e)) fun p=>KA p.1 p.2:=rfl
theorem zMf (sz:Nat) (d s:IX):ep P (.copy sz d s) e h KA=optK (pcopy sz h (d.pv e) (s.pv e)) fun p=>KA p.1 p.2:=rfl
theorem zMg (f:FuncId) (args:List IX):ep P (.call f args) e h KA=zA P f (args.map (·.pv e)) h KA:=rfl
theorem zLE (f:IX) (args:List IX):ep P (.callV f args) e h KA=zDl P (f.pv e) (args.map (·.pv e)) h KA:=rfl
theorem zHn (f:FuncId) (a b args:List PV):zDl P (.clo f a b) args h KA=(okF P f=true∧zA P f (a++args++b) h KA):=rfl
theorem zKw:ofAV .undef=.undef:=rfl
theorem of_bool (b:Bool):ofAV (.bool b)=.bool b:=rfl
theorem of_int (k:IntKind) (n:Int):ofAV (.int k n)=.int k n:=rfl
theorem zNM (s:List UInt8):ofAV (.str s)=.str s:=rfl
theorem zMS:ofAV .nilp=.nilp:=rfl
theorem zMT:ofAV .nilf=.nilf:=rfl
theorem zMR:ofAV .nils=.fz true .nils 0 []:=rfl
theorem zNN (f:FuncId) (a b:List AV):ofAV (.clo f a b)=.clo f (ofAVs a) (ofAVs b):=rfl
theorem zNO (a:List AV):ofAV (.agg a)=.agg (ofAVs a):=rfl
theorem zMQ:ofAVs []=[]:=rfl
theorem zKv (c:AV) (cs:List AV):ofAVs (c::cs)=ofAV c::ofAVs cs:=rfl
theorem zMP (n:Nat) (c:AV):ofAVs (List.replicate n c)=List.replicate n (ofAV c):=by rw [zEV,List.map_replicate]
theorem zKs (k:IntKind) (ek:EqK) (a b:Int):pbin .add ek (.int k a) (.int k b)=some (.int k (k.wrap (a+b))):=by simp [pbin,abin,aint,ofAV]
theorem zKi (k:IntKind) (ek:EqK) (a b:Int):pbin .sub ek (.int k a) (.int k b)=some (.int k (k.wrap (a-b))):=by simp [pbin,abin,aint,ofAV]
theorem zKm (k:IntKind) (ek:EqK) (a b:Int):pbin .mul ek (.int k a) (.int k b)=some (.int k (k.wrap (a*b))):=by simp [pbin,abin,aint,ofAV]
theorem zKr (k:IntKind) (ek:EqK) (a b:Int):pbin .eql ek (.int k a) (.int k b)=some (.bool (decide (a=b))):=by simp [pbin,abin,aint,ofAV]
theorem zKl (k:IntKind) (ek:EqK) (a b:Int):pbin .neq ek (.int k a) (.int k b)=some (.bool (!decide (a=b))):=by simp [pbin,abin,aint,ofAV]
theorem zKn (k:IntKind) (ek:EqK) (a b:Int):pbin .lss ek (.int k a) (.int k b)=some (.bool (decide (a<b))):=by simp [pbin,abin,aint,ofAV]
theorem zKo (k:IntKind) (ek:EqK) (a b:Int):pbin .leq ek (.int k a) (.int k b)=some (.bool (decide (a≤b))):=by simp [pbin,abin,aint,ofAV]
theorem zKp (k:IntKind) (ek:EqK) (a b:Int):pbin .gtr ek (.int k a) (.int k b)=some (.bool (decide (b<a))):=by simp [pbin,abin,aint,ofAV]
theorem zKq (k:IntKind) (ek:EqK) (a b:Int):pbin .geq ek (.int k a) (.int k b)=some (.bool (decide (b≤a))):=by simp [pbin,abin,aint,ofAV]
theorem zKk (k:IntKind) (ek:EqK) (a b:Int):pbin .quo ek (.int k a) (.int k b)=if b=0 then none else some (.int k (k.wrap (a.tdiv b))):=by simp only [pbin,abin,aint,if_true];split<;>rfl
theorem zKj (k:IntKind) (ek:EqK) (a b:Int):pbin .rem ek (.int k a) (.int k b)=if b=0 then none else some (.int k (a.tmod b)):=by simp only [pbin,abin,aint,if_true];split<;>rfl
theorem zHg (n:Nat) (xs ys:List PV):pbin .eql (.ints n) (.agg xs) (.agg ys)=if xs.length=n∧ys.length=n then(paggB xs ys).bind fun r=>some (.bool r)else none:=rfl
theorem zI8:paggB [] []=some true:=rfl
theorem zHh (k:IntKind) (a b:Int) (xs ys:List PV):paggB (.int k a::xs) (.int k b::ys)=(paggB xs ys).map fun r=>decide (a=b) && r:=by simp [paggB]
theorem zI7 (a b:Bool):pbin .eql .bool (.bool a) (.bool b)=some (.bool (a == b)):=rfl
theorem zI6 (a b:Bool):pbin .neq .bool (.bool a) (.bool b)=some (.bool !(a == b)):=rfl
theorem zHf (w w':Bool) (a:AV) (n n':Nat) (cs cs':List PV):pbin .eql .slice (.fz w a n cs) (.fz w' .nils n' cs')=some (.bool (ZT a)):=rfl
theorem zGX (w w':Bool) (a:AV) (n n':Nat) (cs cs':List PV):pbin .neq .slice (.fz w a n cs) (.fz w' .nils n' cs')=some (.bool (!ZT a)):=rfl
theorem zHe (s o n:Nat) (c:Cap) (w':Bool) (n':Nat) (cs':List PV):pbin .eql .slice (.sl s o n c) (.fz w' .nils n' cs')=some (.bool false):=rfl
theorem zGW (s o n:Nat) (c:Cap) (w':Bool) (n':Nat) (cs':List PV):pbin .neq .slice (.sl s o n c) (.fz w' .nils n' cs')=some (.bool true):=rfl
theorem zGV (ek:EqK) (a b:List UInt8):pbin .add ek (.str a) (.str b)=if a.length+b.length≤9223372036854775807 then some (.str (a++b))else none:=by simp only [pbin,astr];split<;>rfl
theorem zGU (ek:EqK) (a b:List UInt8):pbin .eql ek (.str a) (.str b)=some (.bool (a == b)):=rfl
theorem zGT (ek:EqK) (a b:List UInt8):pbin .neq ek (.str a) (.str b)=some (.bool !(a == b)):=rfl
theorem zGo:ZT .nils=true:=rfl
theorem zJZ (o f n:Nat) (c:Cap):ZT (.sl o f n c)=false:=rfl
theorem zMA (k:IntKind) (n:Int):pun .neg (.int k n)=some (.int k (k.wrap (0-n))):=rfl
theorem zL9 (b:Bool):pun .not (.bool b)=some (.bool !b):=rfl
theorem zHj (a b:PV):pPick (.bool true) a b=some a:=rfl
theorem zGZ (a b:PV):pPick (.bool false) a b=some b:=rfl
theorem zJI (k k':IntKind) (n:Int):pConv k (.int k' n)=some (.int k (k.wrap n)):=rfl
theorem zKt (s i:Nat):pNil (.ptr s i)=some (.ptr s i):=rfl
theorem zKu (f:FuncId) (a b:List PV):pNil (.clo f a b)=some (.clo f a b):=rfl
theorem zML (a:AV) (c:PV) (cs:List PV):pNil (.fp a (c::cs))=some (.fp a (c::cs)):=rfl
theorem zHm (n off:Nat) (cs:List PV):zB1 true n off (.agg cs)=some (.agg ((cs.drop off).take n)):=rfl
theorem zHl (n off:Nat) (cs:List PV):zB1 false n off (.agg cs)=cs[off]?:=rfl
theorem zEG (off s i:Nat):QY off (.ptr s i)=some (.ptr s (i+off)):=rfl
theorem zEp (off:Nat) (a:AV) (c:PV) (cs:List PV):QY off (.fp a (c::cs))=some (.fp (pAdd a off) ((c::cs).drop off)):=rfl
theorem zJG (sz s off len:Nat) (c:Cap) (k:IntKind) (n:Int):zA7 sz (.sl s off len c) (.int k n)=if 0≤n∧n<len then some (.ptr s (off+n.toNat*sz))else none:=rfl
theorem zJH (sz:Nat) (w:Bool) (a:AV) (len:Nat) (cs:List PV) (k:IntKind) (n:Int):zA7 sz (.fz w a len cs) (.int k n)=if 0≤n∧n<len then some (.fp (pAt a (n.toNat*sz)) (cs.drop (n.toNat*sz)))else none:=rfl
theorem zGc (s:List UInt8) (k:IntKind) (n:Int):zCS (.str s) (.int k n)=if 0≤n then(s[n.toNat]?).map fun c=>.int .u8 c.toNat else none:=rfl
theorem zFW (vs:List PV) (i:Nat):zBX (.tup vs) i=vs[i]?:=rfl
theorem zMN (w:Bool) (a:AV) (n:Nat) (cs:List PV):pLen (.fz w a n cs)=some (.int .i64 n):=rfl
theorem zMM (s o n:Nat) (c:Cap):pLen (.sl s o n c)=some (.int .i64 n):=rfl
theorem zGb (s:List UInt8):zCR (.str s)=some (.int .i64 s.length):=rfl
theorem zJJ (w:Bool) (l:Nat) (cs:List PV):pCap (.fz w .nils l cs)=some (.int .i64 0):=rfl
theorem zMO (s o n c:Nat):pCap (.sl s o n (.known c))=some (.int .i64 c):=rfl
theorem zGa (mx:Bool) (k:IntKind) (a b:Int):zA6 mx (.int k a) (.int k b)=some (.int k (if mx=true then max a b else min a b)):=by simp [zA6]
theorem zIy (n s i:Nat):pldv false n (.ptr s i) h=h.rd1 s i:=rfl
theorem zIx (n s i:Nat):pldv true n (.ptr s i) h=(h.rd s i n).map .agg:=rfl
theorem zKe (n:Nat) (a:AV) (cs:List PV):pldv false n (.fp a cs) h=cs[0]?:=rfl
theorem zKd (n:Nat) (a:AV) (cs:List PV):pldv true n (.fp a cs) h=if 0<n∧n≤cs.length then some (.agg (cs.take n))else none:=rfl
theorem zIw:h.news []=h:=rfl
theorem zHV (z:List AV) (zs:List (List AV)):h.news (z::zs)=(h.new (ofAVs z)).news zs:=rfl
theorem zIL (recs:List RecP):QG [] recs h=True:=by
 apply propext;refine⟨fun _=>trivial,fun _=>?_⟩
 induction recs with
 | nil=>trivial
 | cons r rs ih=>exact⟨by simp,ih⟩
theorem zG1 (c:List Nat):QG c [] h=True:=rfl
theorem zG2 (c:List Nat) (i:Nat) (a:Bool) (n:Nat) (x v:PV) (rs:List RecP):QG c (⟨i,a,n,x,v⟩::rs) h=((if c.contains i=true then pldv a n x h=some v else True)∧QG c rs h):=rfl
theorem zGC (d:Option Nat) (a:Bool) (n:Nat) (x:IX) (g:Option (Nat×Bool)) (i:Nat) (c:List Nat) (v:PV):qV ⟨⟨d,.load a n x,true,g⟩,i,c⟩ e v=if zAK g e=true then [⟨i,a,n,x.pv e,v⟩]else []:=rfl
theorem zId (d:Option Nat) (x:IX) (g:Option (Nat×Bool)) (i:Nat) (c:List Nat) (v:PV):qV ⟨⟨d,(.mv x),true,g⟩,i,c⟩ e v=[]:=rfl
theorem zGB (d:Option Nat) (x y z:IX) (g:Option (Nat×Bool)) (i:Nat) (c:List Nat) (v:PV):qV ⟨⟨d,(.pick x y z),true,g⟩,i,c⟩ e v=[]:=rfl
theorem zHO (d:Option Nat) (op:BinOp) (ek:EqK) (x y:IX) (g:Option (Nat×Bool)) (i:Nat) (c:List Nat) (v:PV):qV ⟨⟨d,(.bin op ek x y),true,g⟩,i,c⟩ e v=[]:=rfl
theorem zIc (d:Option Nat) (op:UnOp) (x:IX) (g:Option (Nat×Bool)) (i:Nat) (c:List Nat) (v:PV):qV ⟨⟨d,(.un op x),true,g⟩,i,c⟩ e v=[]:=rfl
theorem zGD (d:Option Nat) (k:IntKind) (x:IX) (g:Option (Nat×Bool)) (i:Nat) (c:List Nat) (v:PV):qV ⟨⟨d,(.conv k x),true,g⟩,i,c⟩ e v=[]:=rfl
theorem zDe (d:Option Nat) (x:IX) (g:Option (Nat×Bool)) (i:Nat) (c:List Nat) (v:PV):qV ⟨⟨d,(.nilCheck x),true,g⟩,i,c⟩ e v=[]:=rfl
theorem zFE (d:Option Nat) (z:List AV) (ps:List (Nat×Nat×IX)) (g:Option (Nat×Bool)) (i:Nat) (c:List Nat) (v:PV):qV ⟨⟨d,(.build z ps),true,g⟩,i,c⟩ e v=[]:=rfl
theorem zFD (d:Option Nat) (a:Bool) (n off:Nat) (x:IX) (g:Option (Nat×Bool)) (i:Nat) (c:List Nat) (v:PV):qV ⟨⟨d,(.field a n off x),true,g⟩,i,c⟩ e v=[]:=rfl
theorem zDA (d:Option Nat) (off:Nat) (x:IX) (g:Option (Nat×Bool)) (i:Nat) (c:List Nat) (v:PV):qV ⟨⟨d,(.fieldAddr off x),true,g⟩,i,c⟩ e v=[]:=rfl
theorem zC9 (d:Option Nat) (sz:Nat) (x y:IX) (g:Option (Nat×Bool)) (i:Nat) (c:List Nat) (v:PV):qV ⟨⟨d,(.indexAddr sz x y),true,g⟩,i,c⟩ e v=[]:=rfl
theorem zDg (d:Option Nat) (x y:IX) (g:Option (Nat×Bool)) (i:Nat) (c:List Nat) (v:PV):qV ⟨⟨d,(.indexStr x y),true,g⟩,i,c⟩ e v=[]:=rfl
theorem zEE (d:Option Nat) (x:IX) (j:Nat) (g:Option (Nat×Bool)) (i:Nat) (c:List Nat) (v:PV):qV ⟨⟨d,(.extract x j),true,g⟩,i,c⟩ e v=[]:=rfl
theorem zHM (d:Option Nat) (x:IX) (g:Option (Nat×Bool)) (i:Nat) (c:List Nat) (v:PV):qV ⟨⟨d,(.len x),true,g⟩,i,c⟩ e v=[]:=rfl
theorem zEl (d:Option Nat) (x:IX) (g:Option (Nat×Bool)) (i:Nat) (c:List Nat) (v:PV):qV ⟨⟨d,(.lenStr x),true,g⟩,i,c⟩ e v=[]:=rfl
theorem zHN (d:Option Nat) (x:IX) (g:Option (Nat×Bool)) (i:Nat) (c:List Nat) (v:PV):qV ⟨⟨d,(.cap x),true,g⟩,i,c⟩ e v=[]:=rfl
theorem zFC (d:Option Nat) (sz:Nat) (x:IX) (lo hi mx:Option IX) (g:Option (Nat×Bool)) (i:Nat) (c:List Nat) (v:PV):qV ⟨⟨d,(.slice sz x lo hi mx),true,g⟩,i,c⟩ e v=[]:=rfl
theorem zDd (d:Option Nat) (x:IX) (lo hi:Option IX) (g:Option (Nat×Bool)) (i:Nat) (c:List Nat) (v:PV):qV ⟨⟨d,(.sliceStr x lo hi),true,g⟩,i,c⟩ e v=[]:=rfl
theorem zEk (d:Option Nat) (mx:Bool) (x y:IX) (g:Option (Nat×Bool)) (i:Nat) (c:List Nat) (v:PV):qV ⟨⟨d,(.maxmin mx x y),true,g⟩,i,c⟩ e v=[]:=rfl
theorem zDf (d:Option Nat) (f:FuncId) (y z:List IX) (g:Option (Nat×Bool)) (i:Nat) (c:List Nat) (v:PV):qV ⟨⟨d,(.makeFunc f y z),true,g⟩,i,c⟩ e v=[]:=rfl
theorem zHL (d:Option Nat) (j:Nat) (g:Option (Nat×Bool)) (i:Nat) (c:List Nat) (v:PV):qV ⟨⟨d,(.rev j),true,g⟩,i,c⟩ e v=[]:=rfl
theorem zGA (d:Option Nat) (j m:Nat) (g:Option (Nat×Bool)) (i:Nat) (c:List Nat) (v:PV):qV ⟨⟨d,(.revS j m),true,g⟩,i,c⟩ e v=[]:=rfl
theorem zE5:zAK none e=true:=rfl
theorem zE4 (t:Nat) (b:Bool):zAK (some (t,b)) e=(match e t with | .bool c=>decide (c=b) | _=>false):=rfl
theorem zHJ:ZN [] e h=some []:=rfl
theorem zHI (t:Nat) (r:List IRes):ZN (.tmp t::r) e h=(ZN r e h).map fun vs=>e t::vs:=rfl
theorem zF7 (t:Nat) (a:Bool) (n:Nat) (r:List IRes):ZN (.cell t a n::r) e h=(pldv a n (e t) h).bind fun v=>(ZN r e h).map fun vs=>v::vs:=rfl
theorem zF9 (res:List IRes):retP res KA .normal e h=optK (ZN res e h) fun vs=>KA (packP vs) h:=rfl
theorem zKH (res:List IRes):retP res KA .ret e h=optK (ZN res e h) fun vs=>KA (packP vs) h:=rfl
theorem zJD (v:PV):packP [v]=v:=rfl
theorem zJE:packP []=.tup []:=rfl
theorem zJC (u v:PV) (r:List PV):packP (u::v::r)=.tup (u::v::r):=rfl
theorem zI1 (cs:List PV):pfill cs []=some cs:=rfl
theorem zHW (cs:List PV) (off size:Nat) (v:PV) (r:List (Nat×Nat×PV)):pfill cs ((off,size,v)::r)=if v.cells.length=size∧off+size≤cs.length∧v.cells.all PV.one=true then pfill (cs.take off++v.cells++cs.drop (off+size)) r else none:=rfl
theorem zHa (k:IntKind) (n:Int):PV.cells (.int k n)=[(.int k n)]:=rfl
theorem zKZ (k:IntKind) (n:Int):PV.one (.int k n)=true:=rfl
theorem zGS (b:Bool):PV.cells (.bool b)=[(.bool b)]:=rfl
theorem zIs (b:Bool):PV.one (.bool b)=true:=rfl
theorem zHY (s:List UInt8):PV.cells (.str s)=[(.str s)]:=rfl
theorem zKX (s:List UInt8):PV.one (.str s)=true:=rfl
theorem zGQ:PV.cells .nilp=[.nilp]:=rfl
theorem zIq:PV.one .nilp=true:=rfl
theorem zGR:PV.cells .nilf=[.nilf]:=rfl
theorem zIr:PV.one .nilf=true:=rfl
theorem zI3 (w:Bool) (a:AV) (n:Nat) (cs:List PV):PV.cells (.fz w a n cs)=[(.fz w a n cs)]:=rfl
theorem zME (w:Bool) (a:AV) (n:Nat) (cs:List PV):PV.one (.fz w a n cs)=true:=rfl
theorem zI4 (a:AV) (cs:List PV):PV.cells (.fp a cs)=[(.fp a cs)]:=rfl
theorem zMF (a:AV) (cs:List PV):PV.one (.fp a cs)=true:=rfl
theorem zHZ (s i:Nat):PV.cells (.ptr s i)=[(.ptr s i)]:=rfl
theorem zKY (s i:Nat):PV.one (.ptr s i)=true:=rfl
theorem zI2 (s o n:Nat) (c:Cap):PV.cells (.sl s o n c)=[(.sl s o n c)]:=rfl
theorem zMD (s o n:Nat) (c:Cap):PV.one (.sl s o n c)=true:=rfl
theorem zHb (f:FuncId) (a b:List PV):PV.cells (.clo f a b)=[(.clo f a b)]:=rfl
theorem zKa (f:FuncId) (a b:List PV):PV.one (.clo f a b)=true:=rfl
theorem zHc (cs:List PV):PV.cells (.agg cs)=cs:=rfl
theorem zBW (k:IntKind) (i:Int) (y:Nat):QB (.int k i) y=if 0≤i∧i≤y then some i.toNat else none:=rfl
theorem zAV (x:PV) (d y:Nat):qQ (some x) d y=QB x y:=rfl
theorem zAW (d y:Nat):qQ none d y=some d:=rfl
theorem zIl (sz:Nat) (w:Bool) (a:AV) (len:Nat) (cs:List PV) (lo hi:Option PV):QW sz (.fz w a len cs) lo hi none=(qQ hi len len).bind fun h=>(qQ lo 0 h).bind fun l=>some (.fz false (pslA sz a l h) (h-l) ((cs.drop (l*sz)).take ((h-l)*sz))):=rfl
theorem zBy (sz s off len c:Nat) (lo hi mx:Option PV):QW sz (.sl s off len (.known c)) lo hi mx=(qQ mx c c).bind fun m=>(qQ hi len m).bind fun h=>(qQ lo 0 h).bind fun l=>if hi.isNone=true∧mx.isSome=true then none else some (.sl s (if m=l then off else off+l*sz) (h-l) (.known (m-l))):=rfl
theorem zBz (sz s off len g:Nat) (lo hi:Option PV):QW sz (.sl s off len (.grown g)) lo hi none=(qQ hi len len).bind fun h=>(qQ lo 0 h).bind fun l=>some (.sl s (off+l*sz) (h-l) (.grown (if g=sz then g else 0))):=rfl
theorem zEm (s:List UInt8) (lo hi:Option PV):zAk (.str s) lo hi=(qQ hi s.length s.length).bind fun h=>(qQ lo 0 h).bind fun l=>some (.str ((s.take h).drop l)):=rfl
theorem zMJ (w:Bool) (a:AV) (n:Nat) (cs:List PV):plen (.fz w a n cs)=some n:=rfl
theorem zMI (s o n:Nat) (c:Cap):plen (.sl s o n c)=some n:=rfl
theorem QX (sz bytes:Nat) (s x:PV):qo sz bytes h s x=(plen x).bind fun m=>if m=0 then(psame s).map fun v=>(v,h)else(Zv sz h x m).bind fun news=>pgrow sz bytes h s news m:=rfl
theorem zCq (s o n c:Nat):psame (.sl s o n (.known c))=if n≤c then some (.sl s o n (.known c))else none:=rfl
theorem zET (sz:Nat) (w:Bool) (a:AV) (len:Nat) (cs:List PV) (n:Nat):Zv sz h (.fz w a len cs) n=if n=0 then some []else if n≤len∧n*sz≤cs.length∧0<sz then some (cs.take (n*sz))else none:=rfl
theorem Qy (sz s off len:Nat) (c:Cap) (n:Nat):Zv sz h (.sl s off len c) n=if n=0 then some []else if n≤len then h.rd s off (n*sz)else none:=rfl
theorem zDj (sz bytes:Nat) (w:Bool) (n:Nat) (cs news:List PV) (m:Nat):pgrow sz bytes h (.fz w .nils n cs) news m=if m*bytes≤140737488355328∧m≤4611686018427387904 then some (.sl h.next 0 m (.grown sz),h.new news)else none:=rfl
theorem zAw (sz bytes s off len c:Nat) (news:List PV) (m:Nat):pgrow sz bytes h (.sl s off len (.known c)) news m=if len+m≤c then(h.wr s (off+len*sz) news).map fun σ'=>(.sl s off (len+m) (.known c),σ')else if (len+m)*bytes≤140737488355328∧len+m≤4611686018427387904 then(h.rd s off (len*sz)).map fun old=>(.sl h.next 0 (len+m) (.grown sz),h.new (old++news))else none:=rfl
theorem zAx (sz bytes s off len g:Nat) (news:List PV) (m:Nat):pgrow sz bytes h (.sl s off len (.grown g)) news m=if (len+m)*bytes≤140737488355328∧len+m≤4611686018427387904∧g=sz then(h.obj s).bind fun cs=>if off+len*sz≤cs.length then some (.sl h.next 0 (len+m) (.grown sz),(h.kill s).new ((cs.drop off).take (len*sz)++news))else none else none:=rfl
theorem zKU (cs:List PV) (s i:Nat):(h.new cs).rd1 s i=if s=h.next then cs[i]? else h.rd1 s i:=by by_cases x:s=h.next<;>simp [PHeap.rd1,PHeap.new,x]
theorem Qo (cs:List PV) (s i n:Nat):(h.new cs).rd s i n=if s=h.next then(if i+n≤cs.length then some ((cs.drop i).take n)else none)else h.rd s i n:=by by_cases x:s=h.next<;>simp [PHeap.rd,PHeap.new,x]
theorem qf (cs:List PV) (s:Nat):(h.new cs).obj s=if s=h.next then some cs else h.obj s:=rfl
theorem zL8 (cs:List PV) (s i:Nat) (vs:List PV):(h.new cs).wr s i vs=if s=h.next then(if i+vs.length≤cs.length∧vs.all PV.one=true then some (h.new (cs.take i++vs++cs.drop (i+vs.length)))else none)else(h.wr s i vs).map fun h'=>h'.new cs:=by
 by_cases x:s=h.next
 ·subst x
  simp only [PHeap.wr,PHeap.new,if_true,Option.bind_some]
  split
  ·congr 1
   simp only [PHeap.set]
   congr 1
   funext y
   by_cases hy:y=h.next<;>simp [hy]
  ·rfl
 ·simp only [PHeap.wr,PHeap.new,if_neg x]
  cases ho:h.obj s with
  | none=>rfl
  | some ob=>
   simp only [Option.bind_some]
   split
   ·simp only [Option.map_some,PHeap.set]
    congr 2
    funext y
    by_cases hy:y=s
    ·subst hy;simp [x]
    ·simp [hy]
   ·rfl
theorem zIv (cs:List PV):(h.new cs).next=h.next+1:=rfl
theorem zFM (cs:List PV):(h.new cs).top=h.top:=rfl
theorem zKR (cs:List PV) (s:Nat) (ds:List PV):(h.new cs).set s ds=if s=h.next then h.new ds else(h.set s ds).new cs:=by
 by_cases x:s=h.next
 ·subst x
  rw [if_pos rfl];simp only [PHeap.set,PHeap.new]
  congr 1
  funext y
  by_cases hy:y=h.next<;>simp [hy]
 ·rw [if_neg x]
  simp only [PHeap.set,PHeap.new]
  congr 1
  funext y
  by_cases hy:y=s
  ·subst hy;simp [x]
  ·simp [hy]
theorem Qn (s:Nat) (cs ds:List PV):(h.set s cs).set s ds=h.set s ds:=by
 simp only [PHeap.set]
 congr 1
 funext y
 by_cases hy:y=s<;>simp [hy]
theorem zIu (s:Nat) (cs:List PV):(h.set s cs).next=h.next:=rfl
theorem zHU (s:Nat):(h.kill s).next=h.next:=rfl
theorem zKb (t:Nat):(h.up t).next=h.next:=rfl
theorem zA5 (t:Nat):(h.up t).top=t:=rfl
theorem zMH (t:Nat) (cs:List PV):(h.up t).new cs=(h.new cs).up t:=rfl
theorem zMC (t s i:Nat):(h.up t).rd1 s i=h.rd1 s i:=rfl
theorem zNL (t s i n:Nat):(h.up t).rd s i n=h.rd s i n:=rfl
theorem zMG (t s:Nat):(h.up t).obj s=h.obj s:=rfl
theorem zNJ (t s i:Nat) (vs:List PV):(h.up t).wr s i vs=(h.wr s i vs).map fun h'=>h'.up t:=by
 simp only [PHeap.wr,PHeap.up];cases h.obj s with
 | none=>rfl
 | some cs=>simp only [Option.bind_some];split<;>rfl
theorem zIt (s t:Nat):(h.kill s).obj t=if t=s then none else h.obj t:=rfl
theorem ZC (s:Nat) (cs:List PV) (t:Nat):(h.set s cs).obj t=if t=s then some cs else h.obj t:=rfl
theorem zIn (s t i:Nat):(h.kill s).rd1 t i=if t=s then none else h.rd1 t i:=by by_cases x:t=s<;>simp [PHeap.rd1,PHeap.kill,x]
theorem zKS (s t i n:Nat):(h.kill s).rd t i n=if t=s then none else h.rd t i n:=by by_cases x:t=s<;>simp [PHeap.rd,PHeap.kill,x]
theorem zKT (s:Nat) (cs:List PV) (t i:Nat):(h.set s cs).rd1 t i=if t=s then cs[i]? else h.rd1 t i:=by by_cases x:t=s<;>simp [PHeap.rd1,PHeap.set,x]
theorem zMB (s:Nat) (cs:List PV) (t i n:Nat):(h.set s cs).rd t i n=if t=s then(if i+n≤cs.length then some ((cs.drop i).take n)else none)else h.rd t i n:=by by_cases x:t=s<;>simp [PHeap.rd,PHeap.set,x]
theorem zL7 (s:Nat) (cs:List PV) (i:Nat) (vs:List PV):(h.set s cs).wr s i vs=if i+vs.length≤cs.length∧vs.all PV.one=true then some (h.set s (cs.take i++vs++cs.drop (i+vs.length)))else none:=by
 simp only [PHeap.wr,PHeap.set,if_true,Option.bind_some]
 split
 ·congr 2
  funext y
  by_cases hy:y=s<;>simp [hy]
 ·rfl
end
def pw0:=And.intro @zLg <| And.intro @zIP <| And.intro @zLi <| And.intro @zMx <| And.intro @zLj <| And.intro @zJ6 <| And.intro @zLh <| And.intro @zMy <| And.intro @zMq <| And.intro @RVp_q <| And.intro @RVp_e <| And.intro @zMt <| And.intro @DVp_q <| And.intro @DVp_e <| And.intro @zK5 <| And.intro @zK4 <| And.intro @zK7 <| And.intro @zK6 <| And.intro @zGO <| And.intro @zFU <| And.intro @zHX <| And.intro @zGP <| And.intro @zFT <| And.intro @zFR <| And.intro @zFQ <| And.intro @zFS <| And.intro @pv_t <| And.intro @pv_c <| And.intro @zKc <| @zIo
def pw1:=And.intro @zIp <| And.intro @qp_mv <| And.intro @zL4 <| And.intro @zNI <| And.intro @qp_un <| And.intro @zL6 <| And.intro @zGJ <| And.intro @zKO <| And.intro @zKN <| And.intro @zFK <| And.intro @zFJ <| And.intro @zGL <| And.intro @zHQ <| And.intro @zNG <| And.intro @zIi <| And.intro @zNH <| And.intro @zKM <| And.intro @zGI <| And.intro @zIh <| And.intro @zGK <| And.intro @zL5 <| And.intro @zNF <| And.intro @zL3 <| And.intro @zLF <| And.intro @zNV <| And.intro @zH1 <| And.intro @zLD <| And.intro @zHi <| And.intro @zJj <| And.intro @zGu <| @zGd
def pw2:=And.intro @zJF <| And.intro @zJl <| And.intro @zMf <| And.intro @zMg <| And.intro @zLE <| And.intro @zHn <| And.intro @zKw <| And.intro @of_bool <| And.intro @of_int <| And.intro @zNM <| And.intro @zMS <| And.intro @zMT <| And.intro @zMR <| And.intro @zNN <| And.intro @zNO <| And.intro @zMQ <| And.intro @zKv <| And.intro @zMP <| And.intro @zKs <| And.intro @zKi <| And.intro @zKm <| And.intro @zKr <| And.intro @zKl <| And.intro @zKn <| And.intro @zKo <| And.intro @zKp <| And.intro @zKq <| And.intro @zKk <| And.intro @zKj <| @zHg
def pw3:=And.intro @zI8 <| And.intro @zHh <| And.intro @zI7 <| And.intro @zI6 <| And.intro @zHf <| And.intro @zGX <| And.intro @zHe <| And.intro @zGW <| And.intro @zGV <| And.intro @zGU <| And.intro @zGT <| And.intro @zGo <| And.intro @zJZ <| And.intro @zMA <| And.intro @zL9 <| And.intro @zHj <| And.intro @zGZ <| And.intro @zJI <| And.intro @zKt <| And.intro @zKu <| And.intro @zML <| And.intro @zHm <| And.intro @zHl <| And.intro @zEG <| And.intro @zEp <| And.intro @zJG <| And.intro @zJH <| And.intro @zGc <| And.intro @zFW <| @zMN
def pw4:=And.intro @zMM <| And.intro @zGb <| And.intro @zJJ <| And.intro @zMO <| And.intro @zGa <| And.intro @zIy <| And.intro @zIx <| And.intro @zKe <| And.intro @zKd <| And.intro @zIw <| And.intro @zHV <| And.intro @zIL <| And.intro @zG1 <| And.intro @zG2 <| And.intro @zGC <| And.intro @zId <| And.intro @zGB <| And.intro @zHO <| And.intro @zIc <| And.intro @zGD <| And.intro @zDe <| And.intro @zFE <| And.intro @zFD <| And.intro @zDA <| And.intro @zC9 <| And.intro @zDg <| And.intro @zEE <| And.intro @zHM <| And.intro @zEl <| @zHN
def pw5:=And.intro @zFC <| And.intro @zDd <| And.intro @zEk <| And.intro @zDf <| And.intro @zHL <| And.intro @zGA <| And.intro @zE5 <| And.intro @zE4 <| And.intro @zHJ <| And.intro @zHI <| And.intro @zF7 <| And.intro @zF9 <| And.intro @zKH <| And.intro @zJD <| And.intro @zJE <| And.intro @zJC <| And.intro @zI1 <| And.intro @zHW <| And.intro @zHa <| And.intro @zKZ <| And.intro @zGS <| And.intro @zIs <| And.intro @zHY <| And.intro @zKX <| And.intro @zGQ <| And.intro @zIq <| And.intro @zGR <| And.intro @zIr <| And.intro @zI3 <| And.intro @zME <| @zI4
def pw6:=And.intro @zMF <| And.intro @zHZ <| And.intro @zKY <| And.intro @zI2 <| And.intro @zMD <| And.intro @zHb <| And.intro @zKa <| And.intro @zHc <| And.intro @zBW <| And.intro @zAV <| And.intro @zAW <| And.intro @zIl <| And.intro @zBy <| And.intro @zBz <| And.intro @zEm <| And.intro @zMJ <| And.intro @zMI <| And.intro @zKU <| And.intro @Qo <| And.intro @qf <| And.intro @zL8 <| And.intro @zIv <| And.intro @zFM <| And.intro @zKR <| And.intro @Qn <| And.intro @zIu <| And.intro @zHU <| And.intro @zKb <| And.intro @zA5 <| @zMH
def pw7:=And.intro @zMC <| And.intro @zNL <| And.intro @zMG <| And.intro @zNJ <| And.intro @zIt <| And.intro @ZC <| And.intro @zIn <| And.intro @zKS <| And.intro @zKT <| And.intro @zMB <| And.intro @zL7 <| And.intro @zK <| And.intro @zL <| And.intro @zU <| And.intro @zg <| And.intro @List.map_cons.{0,0} <| And.intro @List.map_nil.{0,0} <| And.intro @List.length_cons.{0} <| And.intro @List.length_nil.{0} <| And.intro @List.getElem?_cons_zero.{0} <| And.intro @List.getElem?_cons_succ.{0} <| And.intro @List.take_succ_cons.{0} <| And.intro @List.take_zero.{0} <| And.intro @List.drop_succ_cons.{0} <| And.intro @List.drop_zero.{0} <| And.intro @List.take_nil.{0} <| And.intro @List.drop_nil.{0} <| And.intro @List.nil_append.{0} <| And.intro @List.cons_append.{0} <| @List.append_nil.{0}
def pw8:=And.intro @List.all_cons.{0} <| And.intro @List.all_nil.{0} <| And.intro @List.contains_cons.{0} <| And.intro @List.contains_nil.{0} <| And.intro @Option.map_some.{0,0} <| And.intro @Option.map_none.{0,0} <| And.intro @Option.bind_some.{0,0} <| And.intro @Option.bind_none.{0,0} <| And.intro @decide_true <| And.intro @decide_false <| And.intro @Bool.not_true <| And.intro @Bool.not_false <| And.intro @Bool.and_true <| And.intro @Bool.true_and <| And.intro @Bool.and_self <| And.intro @Bool.or_false <| And.intro @Bool.or_true <| And.intro @Bool.true_or <| And.intro @Bool.false_or <| And.intro @true_and <| And.intro @and_true <| And.intro @Bool.true_eq_false <| And.intro @Bool.false_eq_true <| And.intro @Nat.left_eq_add <| And.intro @Nat.add_eq_left <| And.intro @Nat.succ_ne_self <| And.intro @Nat.one_ne_zero <| And.intro @Nat.add_left_cancel_iff <| And.intro @Nat.add_assoc <| @Nat.mul_one
def pw9:=And.intro @Nat.zero_add <| And.intro @Nat.add_zero <| And.intro @Nat.le_refl <| And.intro @Nat.lt_add_one <| And.intro @Int.toNat_natCast <| And.intro @Int.natCast_nonneg <| And.intro @Int.ofNat_lt <| And.intro @Int.le_refl <| And.intro @zI <| And.intro @zJ <| And.intro @zG <| And.intro @Nat.one_mul <| @Nat.zero_mul
def pwA:=And.intro pw0 <| And.intro pw1 <| And.intro pw2 <| And.intro pw3 <| And.intro pw4 <| And.intro pw5 <| And.intro pw6 <| And.intro pw7 <| And.intro pw8 <| And.intro pw9 <| And.intro @nm_eq <| And.intro @eq_self.{1} <| And.intro @Int.ofNat_le @List.getElem?_drop.{0}
end Go.Ab
