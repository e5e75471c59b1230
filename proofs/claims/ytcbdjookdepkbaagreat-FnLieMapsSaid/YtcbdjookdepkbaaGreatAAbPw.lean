/- THE RULES BY WHICH CODE IS WALKED over values without a heap: equations, and the one name 'pw' for all of them. Written by a program. -/
import Derived.Test.YtcbdjookdepkbaaGreatAAbPg
import Derived.Test.YtcbdjookdepkbaaGreatAAbAid
set_option linter.unusedVariables false
set_option linter.unusedSimpArgs false
set_option linter.defProp false
namespace Go.Ab
section
variable {P:Program} {Q:Exit→PEnv→PHeap→Prop} {e:PEnv} {h:PHeap} {K:PEnv→PHeap→Prop} {KA:PV→PHeap→Prop} {nb nr:Nat}
theorem zLi:vp P .skip Q e h=Q .normal e h:=rfl
theorem zIz (S:List Nat) (its:List II):vp P (.region S its) Q e h=RVp P its e h fun e' h'=>Q .normal (PEnv.mk S (S.map e')) h':=rfl
theorem zLk (S:List Nat) (zs:List (List AV)) (its:List DI):vp P (.draw S zs its) Q e h=DVp P h.next zs.length its [] e (h.news zs) fun e' h'=>Q .normal (PEnv.mk S (S.map e')) h':=rfl
theorem zMg (a b:IC):vp P (.seq a b) Q e h=vp P a (fun x e' h'=>match x with | .normal=>vp P b Q e' h' | x=>Q x e' h') e h:=rfl
theorem zLl (c:IX) (a b:IC):vp P (.cond c a b) Q e h=ZZ (c.pv e) (vp P a Q e h) (vp P b Q e h):=rfl
theorem zKT (id:Nat) (c:IC):vp P (.block id c) Q e h=vp P c (fun x e' h'=>match x with | .exit id'=>if id'=id then Q .normal e' h' else Q (.exit id') e' h' | x=>Q x e' h') e h:=rfl
theorem zLj (id:Nat):vp P (.exit id) Q e h=Q (.exit id) e h:=rfl
theorem zMh:vp P .ret Q e h=Q .ret e h:=rfl
theorem zMZ:RVp P [] e h K=K e h:=rfl
theorem RVp_q (d:Option Nat) (op:IOp) (g:Option (Nat×Bool)) (r:List II):RVp P (⟨d,op,true,g⟩::r) e h K=optK (gqp 0 0 ⟨d,op,true,g⟩ e h) fun v=>RVp P r (e.put d v) h K:=rfl
theorem RVp_e (d:Option Nat) (op:IOp) (g:Option (Nat×Bool)) (r:List II):RVp P (⟨d,op,false,g⟩::r) e h K=gep P ⟨d,op,false,g⟩ e h fun v h'=>RVp P r (e.put d v) h' K:=rfl
theorem zMc (recs:List RecP):DVp P nb nr [] recs e h K=K e h:=rfl
theorem DVp_q (d:Option Nat) (op:IOp) (g:Option (Nat×Bool)) (i:Nat) (c:List Nat) (r:List DI) (recs:List RecP):DVp P nb nr (⟨⟨d,op,true,g⟩,i,c⟩::r) recs e h K=optK (gqp nb nr ⟨d,op,true,g⟩ e h) fun v=>DVp P nb nr r (zb ⟨⟨d,op,true,g⟩,i,c⟩ e v++recs) (e.put d v) h K:=rfl
theorem DVp_e (d:Option Nat) (op:IOp) (g:Option (Nat×Bool)) (i:Nat) (c:List Nat) (r:List DI) (recs:List RecP):DVp P nb nr (⟨⟨d,op,false,g⟩,i,c⟩::r) recs e h K=gep P ⟨d,op,false,g⟩ e h fun v h'=>Zw c recs h'∧DVp P nb nr r recs (e.put d v) h' K:=rfl
theorem zLN (d:Option Nat) (op:IOp) (q:Bool):gqp nb nr ⟨d,op,q,none⟩ e h=qp nb nr op e h:=rfl
theorem zLM (d:Option Nat) (op:IOp) (q:Bool) (t:Nat) (b:Bool):gqp nb nr ⟨d,op,q,some (t,b)⟩ e h=Z9 (e t) b (qp nb nr op e h):=rfl
theorem zLP (d:Option Nat) (op:IOp) (q:Bool):gep P ⟨d,op,q,none⟩ e h KA=ep P op e h KA:=rfl
theorem zLO (d:Option Nat) (op:IOp) (q:Bool) (t:Nat) (b:Bool):gep P ⟨d,op,q,some (t,b)⟩ e h KA=Ze (e t) b (ep P op e h KA) (KA (.tup []) h):=rfl
theorem zGo (a b:Prop):ZZ (.bool true) a b=a:=rfl
theorem zFl (a b:Prop):ZZ (.bool false) a b=b:=rfl
theorem zID (c:Prop) [Decidable c] (a b:Prop):ZZ (.bool (decide c)) a b=if c then a else b:=by by_cases x:c<;>simp [ZZ,x]
theorem zGp (c:Prop) [Decidable c] (a b:Prop):ZZ (.bool (!decide c)) a b=if c then b else a:=by by_cases x:c<;>simp [ZZ,x]
theorem zFk (c b:Bool) (x y:Prop):Ze (.bool c) b x y=if c=b then x else y:=rfl
theorem zFi (c b:Bool) (x:Option PV):Z9 (.bool c) b x=if c=b then x else some (.tup []):=rfl
theorem zFh (b:Bool) (x:Option PV):Z9 (.tup []) b x=some (.tup []):=rfl
theorem zFj (b:Bool) (x y:Prop):Ze (.tup []) b x y=y:=rfl
theorem pv_t (n:Nat):(IX.t n).pv e=e n:=rfl
theorem pv_c (v:AV):(IX.c v).pv e=ofAV v:=rfl
theorem zKq (s:Nat) (S:List Nat) (v:PV) (vs:List PV) (t:Nat):PEnv.mk (s::S) (v::vs) t=if t=s then v else PEnv.mk S vs t:=rfl
theorem zJH (d:Nat) (v:PV) (t:Nat):e.put (some d) v t=if t=d then v else e t:=rfl
theorem zJI (v:PV):e.put none v=e:=rfl
theorem qp_mv (x:IX):qp nb nr (.mv x) e h=some (x.pv e):=rfl
theorem zLp (c a b:IX):qp nb nr (.pick c a b) e h=pPick (c.pv e) (a.pv e) (b.pv e):=rfl
theorem zMo (op:BinOp) (ek:EqK) (x y:IX):qp nb nr (.bin op ek x y) e h=pbin op ek (x.pv e) (y.pv e):=rfl
theorem qp_un (op:UnOp) (x:IX):qp nb nr (.un op x) e h=pun op (x.pv e):=rfl
theorem zLr (k:IntKind) (x:IX):qp nb nr (.conv k x) e h=pConv k (x.pv e):=rfl
theorem zGj (x:IX):qp nb nr (.nilCheck x) e h=pNil (x.pv e):=rfl
theorem zKe (z:List AV) (ps:List (Nat×Nat×IX)):qp nb nr (.build z ps) e h=(pfill (ofAVs z) (ps.map fun p=>(p.1,p.2.1,p.2.2.pv e))).map .agg:=rfl
theorem zKd (a:Bool) (n off:Nat) (x:IX):qp nb nr (.field a n off x) e h=zBh a n off (x.pv e):=rfl
theorem zFa (off:Nat) (x:IX):qp nb nr (.fieldAddr off x) e h=QJ off (x.pv e):=rfl
theorem zFZ (sz:Nat) (x i:IX):qp nb nr (.indexAddr sz x i) e h=zAv sz (x.pv e) (i.pv e):=rfl
theorem zGl (x i:IX):qp nb nr (.indexStr x i) e h=zB7 (x.pv e) (i.pv e):=rfl
theorem zH8 (x:IX) (i:Nat):qp nb nr (.extract x i) e h=zBB (x.pv e) i:=rfl
theorem zMm (x:IX):qp nb nr (.len x) e h=pLen (x.pv e):=rfl
theorem zJC (x:IX):qp nb nr (.lenStr x) e h=zB6 (x.pv e):=rfl
theorem zMn (x:IX):qp nb nr (.cap x) e h=pCap (x.pv e):=rfl
theorem zKc (sz:Nat) (x:IX) (lo hi mx:Option IX):qp nb nr (.slice sz x lo hi mx) e h=QH sz (x.pv e) (lo.map (·.pv e)) (hi.map (·.pv e)) (mx.map (·.pv e)):=rfl
theorem zGi (x:IX) (lo hi:Option IX):qp nb nr (.sliceStr x lo hi) e h=zAZ (x.pv e) (lo.map (·.pv e)) (hi.map (·.pv e)):=rfl
theorem zJB (mx:Bool) (x y:IX):qp nb nr (.maxmin mx x y) e h=zAu mx (x.pv e) (y.pv e):=rfl
theorem zGk (f:FuncId) (a b:List IX):qp nb nr (.makeFunc f a b) e h=some (.clo f (a.map (·.pv e)) (b.map (·.pv e))):=rfl
theorem zLq (a:Bool) (n:Nat) (x:IX):qp nb nr (.load a n x) e h=pldv a n (x.pv e) h:=rfl
theorem zMl (k:Nat):qp nb nr (.rev k) e h=if k<nr then some (.ptr (nb+k) 0)else none:=rfl
theorem zLo (k n:Nat):qp nb nr (.revS k n) e h=if k<nr then some (.sl (nb+k) 0 n (.known n))else none:=rfl
theorem zLW (z:List AV):ep P (.alloc z) e h KA=KA (.ptr h.next 0) (h.new (ofAVs z)):=rfl
theorem zM5 (x:IX):ep P (.box x) e h KA=((x.pv e).cells.all PV.one=true∧KA (.ptr h.next 0) (h.new (x.pv e).cells)):=rfl
theorem zIm (sz len:Nat) (z:List AV) (ps:List (Nat×Nat×IX)):ep P (.buildSl sz len z ps) e h KA=optK (pfill (ofAVs (zeros z len)) (ps.map fun p=>(p.1,p.2.1,p.2.2.pv e))) fun cs=>KA (.sl h.next 0 len (.known len)) (h.new cs):=rfl
def zDV (n:Nat) (x v:PV) (h:PHeap) (KA:PV→PHeap→Prop):Prop:=
 match x with
 | .ptr s i=>v.cells.length=n∧optK (h.wr s i v.cells) fun h'=>KA .undef h'
 | _=>False
def pMake (sz bytes:Nat) (z:List AV) (l c:PV) (h:PHeap) (KA:PV→PHeap→Prop):Prop:=
 match l,c with
 | .int _ l,.int _ c=>(0≤l∧l≤c∧c*bytes≤140737488355328∧c≤9223372036854775807)∧KA (.sl h.next 0 l.toNat (.known c.toNat)) (h.new (ofAVs (zeros z c.toNat)))
 | _,_=>False
def zDX (sz bytes:Nat) (z:List AV) (s n:PV) (h:PHeap) (KA:PV→PHeap→Prop):Prop:=
 match s,n with
 | .fz _ .nils _ _,.int _ n=>(0≤n∧n*bytes≤140737488355328∧n≤4611686018427387904)∧if 0<n then KA (.sl h.next 0 n.toNat (.grown sz)) (h.new (ofAVs (zeros z n.toNat)))else KA (.fz true .nils 0 []) h
 | .sl s off len c,.int _ n=>(0≤n∧n*bytes≤140737488355328∧n≤4611686018427387904)∧optK (if 0<n then pgrow sz bytes h (.sl s off len c) (ofAVs (zeros z n.toNat)) n.toNat else(psame (.sl s off len c)).map fun v=>(v,h)) fun p=>KA p.1 p.2
 | _,_=>False
def zDW (P:Program) (f:PV) (args:List PV) (h:PHeap) (KA:PV→PHeap→Prop):Prop:=
 match f with
 | .clo f first caps=>okF P f=true∧zA P f (first++args++caps) h KA
 | _=>False
theorem zLU (n:Nat) (x v:IX):ep P (.store n x v) e h KA=zDV n (x.pv e) (v.pv e) h KA:=rfl
theorem zIP (n s i:Nat) (v:PV):zDV n (.ptr s i) v h KA=(v.cells.length=n∧optK (h.wr s i v.cells) fun h'=>KA .undef h'):=rfl
theorem zJ8 (sz bytes:Nat) (z:List AV) (l c:IX):ep P (.makeSl sz bytes z l c) e h KA=pMake sz bytes z (l.pv e) (c.pv e) h KA:=rfl
theorem zHL (sz bytes:Nat) (z:List AV) (s n:IX):ep P (.appendMk sz bytes z s n) e h KA=zDX sz bytes z (s.pv e) (n.pv e) h KA:=rfl
theorem zG2 (sz bytes:Nat) (z:List AV) (w:Bool) (l:Nat) (cs:List PV) (k:IntKind) (n:Int):zDX sz bytes z (.fz w .nils l cs) (.int k n) h KA=((0≤n∧n*bytes≤140737488355328∧n≤4611686018427387904)∧if 0<n then KA (.sl h.next 0 n.toNat (.grown sz)) (h.new (ofAVs (zeros z n.toNat)))else KA (.fz true .nils 0 []) h):=rfl
theorem zJf (sz bytes:Nat) (z:List AV) (k k':IntKind) (l c:Int):pMake sz bytes z (.int k l) (.int k' c) h KA=((0≤l∧l≤c∧c*bytes≤140737488355328∧c≤9223372036854775807)∧KA (.sl h.next 0 l.toNat (.known c.toNat)) (h.new (ofAVs (zeros z c.toNat)))):=rfl
theorem zJ9 (sz bytes:Nat) (s x:IX):ep P (.append sz bytes s x) e h KA=optK (qP sz bytes h (s.pv e) (x.pv e)) fun p=>KA p.1 p.2:=rfl
theorem zMU (sz:Nat) (d s:IX):ep P (.copy sz d s) e h KA=optK (pcopy sz h (d.pv e) (s.pv e)) fun p=>KA p.1 p.2:=rfl
theorem zMV (f:FuncId) (args:List IX):ep P (.call f args) e h KA=zA P f (args.map (·.pv e)) h KA:=rfl
theorem zLV (f:IX) (args:List IX):ep P (.callV f args) e h KA=zDW P (f.pv e) (args.map (·.pv e)) h KA:=rfl
theorem zIT (f:FuncId) (a b args:List PV):zDW P (.clo f a b) args h KA=(okF P f=true∧zA P f (a++args++b) h KA):=rfl
theorem zLA:ofAV .undef=.undef:=rfl
theorem of_bool (b:Bool):ofAV (.bool b)=.bool b:=rfl
theorem of_int (k:IntKind) (n:Int):ofAV (.int k n)=.int k n:=rfl
theorem zMv (s:List UInt8):ofAV (.str s)=.str s:=rfl
theorem zMH:ofAV .nilp=.nilp:=rfl
theorem zMI:ofAV .nilf=.nilf:=rfl
theorem zMG:ofAV .nils=.fz true .nils 0 []:=rfl
theorem zMw (f:FuncId) (a b:List AV):ofAV (.clo f a b)=.clo f (ofAVs a) (ofAVs b):=rfl
theorem zMx (a:List AV):ofAV (.agg a)=.agg (ofAVs a):=rfl
theorem zMF:ofAVs []=[]:=rfl
theorem zK9 (c:AV) (cs:List AV):ofAVs (c::cs)=ofAV c::ofAVs cs:=rfl
theorem zME (n:Nat) (c:AV):ofAVs (List.replicate n c)=List.replicate n (ofAV c):=by rw [zEa,List.map_replicate]
theorem zK4 (k:IntKind) (ek:EqK) (a b:Int):pbin .add ek (.int k a) (.int k b)=some (.int k (k.wrap (a+b))):=by simp [pbin,abin,aint,ofAV]
theorem zKu (k:IntKind) (ek:EqK) (a b:Int):pbin .sub ek (.int k a) (.int k b)=some (.int k (k.wrap (a-b))):=by simp [pbin,abin,aint,ofAV]
theorem zKy (k:IntKind) (ek:EqK) (a b:Int):pbin .mul ek (.int k a) (.int k b)=some (.int k (k.wrap (a*b))):=by simp [pbin,abin,aint,ofAV]
theorem zK3 (k:IntKind) (ek:EqK) (a b:Int):pbin .eql ek (.int k a) (.int k b)=some (.bool (decide (a=b))):=by simp [pbin,abin,aint,ofAV]
theorem zKx (k:IntKind) (ek:EqK) (a b:Int):pbin .neq ek (.int k a) (.int k b)=some (.bool (!decide (a=b))):=by simp [pbin,abin,aint,ofAV]
theorem zKz (k:IntKind) (ek:EqK) (a b:Int):pbin .lss ek (.int k a) (.int k b)=some (.bool (decide (a<b))):=by simp [pbin,abin,aint,ofAV]
theorem zK0 (k:IntKind) (ek:EqK) (a b:Int):pbin .leq ek (.int k a) (.int k b)=some (.bool (decide (a≤b))):=by simp [pbin,abin,aint,ofAV]
theorem zK1 (k:IntKind) (ek:EqK) (a b:Int):pbin .gtr ek (.int k a) (.int k b)=some (.bool (decide (b<a))):=by simp [pbin,abin,aint,ofAV]
theorem zK2 (k:IntKind) (ek:EqK) (a b:Int):pbin .geq ek (.int k a) (.int k b)=some (.bool (decide (b≤a))):=by simp [pbin,abin,aint,ofAV]
theorem zKw (k:IntKind) (ek:EqK) (a b:Int):pbin .quo ek (.int k a) (.int k b)=if b=0 then none else some (.int k (k.wrap (a.tdiv b))):=by simp only [pbin,abin,aint,if_true];split<;>rfl
theorem zKv (k:IntKind) (ek:EqK) (a b:Int):pbin .rem ek (.int k a) (.int k b)=if b=0 then none else some (.int k (a.tmod b)):=by simp only [pbin,abin,aint,if_true];split<;>rfl
theorem zIN (n:Nat) (xs ys:List PV):pbin .eql (.ints n) (.agg xs) (.agg ys)=if xs.length=n∧ys.length=n then(paggB xs ys).bind fun r=>some (.bool r)else none:=rfl
theorem zJa:paggB [] []=some true:=rfl
theorem zIO (k:IntKind) (a b:Int) (xs ys:List PV):paggB (.int k a::xs) (.int k b::ys)=(paggB xs ys).map fun r=>decide (a=b) && r:=by simp [paggB]
theorem zJZ (a b:Bool):pbin .eql .bool (.bool a) (.bool b)=some (.bool (a == b)):=rfl
theorem zJY (a b:Bool):pbin .neq .bool (.bool a) (.bool b)=some (.bool !(a == b)):=rfl
theorem zIM (w w':Bool) (a:AV) (n n':Nat) (cs cs':List PV):pbin .eql .slice (.fz w a n cs) (.fz w' .nils n' cs')=some (.bool (qf a)):=rfl
theorem zGx (w w':Bool) (a:AV) (n n':Nat) (cs cs':List PV):pbin .neq .slice (.fz w a n cs) (.fz w' .nils n' cs')=some (.bool (!qf a)):=rfl
theorem zIL (s o n:Nat) (c:Cap) (w':Bool) (n':Nat) (cs':List PV):pbin .eql .slice (.sl s o n c) (.fz w' .nils n' cs')=some (.bool false):=rfl
theorem zGw (s o n:Nat) (c:Cap) (w':Bool) (n':Nat) (cs':List PV):pbin .neq .slice (.sl s o n c) (.fz w' .nils n' cs')=some (.bool true):=rfl
theorem zGv (ek:EqK) (a b:List UInt8):pbin .add ek (.str a) (.str b)=if a.length+b.length≤9223372036854775807 then some (.str (a++b))else none:=by simp only [pbin,astr];split<;>rfl
theorem zGu (ek:EqK) (a b:List UInt8):pbin .eql ek (.str a) (.str b)=some (.bool (a == b)):=rfl
theorem zGt (ek:EqK) (a b:List UInt8):pbin .neq ek (.str a) (.str b)=some (.bool !(a == b)):=rfl
theorem zHI:qf .nils=true:=rfl
theorem zJ1 (o f n:Nat) (c:Cap):qf (.sl o f n c)=false:=rfl
theorem zLw (k:IntKind) (n:Int):pun .neg (.int k n)=some (.int k (k.wrap (0-n))):=rfl
theorem zLv (b:Bool):pun .not (.bool b)=some (.bool !b):=rfl
theorem zIQ (a b:PV):pPick (.bool true) a b=some a:=rfl
theorem zGy (a b:PV):pPick (.bool false) a b=some b:=rfl
theorem zJi (k k':IntKind) (n:Int):pConv k (.int k' n)=some (.int k (k.wrap n)):=rfl
theorem zK5 (s i:Nat):pNil (.ptr s i)=some (.ptr s i):=rfl
theorem zK6 (f:FuncId) (a b:List PV):pNil (.clo f a b)=some (.clo f a b):=rfl
theorem zL9 (a:AV) (c:PV) (cs:List PV):pNil (.fp a (c::cs))=some (.fp a (c::cs)):=rfl
theorem zIS (n off:Nat) (cs:List PV):zBh true n off (.agg cs)=some (.agg ((cs.drop off).take n)):=rfl
theorem zIR (n off:Nat) (cs:List PV):zBh false n off (.agg cs)=cs[off]?:=rfl
theorem zEF (off s i:Nat):QJ off (.ptr s i)=some (.ptr s (i+off)):=rfl
theorem zE5 (off:Nat) (a:AV) (c:PV) (cs:List PV):QJ off (.fp a (c::cs))=some (.fp (pAdd a off) ((c::cs).drop off)):=rfl
theorem zJg (sz s off len:Nat) (c:Cap) (k:IntKind) (n:Int):zAv sz (.sl s off len c) (.int k n)=if 0≤n∧n<len then some (.ptr s (off+n.toNat*sz))else none:=rfl
theorem zJh (sz:Nat) (w:Bool) (a:AV) (len:Nat) (cs:List PV) (k:IntKind) (n:Int):zAv sz (.fz w a len cs) (.int k n)=if 0≤n∧n<len then some (.fp (pAt a (n.toNat*sz)) (cs.drop (n.toNat*sz)))else none:=rfl
theorem zG1 (s:List UInt8) (k:IntKind) (n:Int):zB7 (.str s) (.int k n)=if 0≤n then(s[n.toNat]?).map fun c=>.int .u8 c.toNat else none:=rfl
theorem zFn (vs:List PV) (i:Nat):zBB (.tup vs) i=vs[i]?:=rfl
theorem zMB (w:Bool) (a:AV) (n:Nat) (cs:List PV):pLen (.fz w a n cs)=some (.int .i64 n):=rfl
theorem zMA (s o n:Nat) (c:Cap):pLen (.sl s o n c)=some (.int .i64 n):=rfl
theorem zG0 (s:List UInt8):zB6 (.str s)=some (.int .i64 s.length):=rfl
theorem zJj (w:Bool) (l:Nat) (cs:List PV):pCap (.fz w .nils l cs)=some (.int .i64 0):=rfl
theorem zMC (s o n c:Nat):pCap (.sl s o n (.known c))=some (.int .i64 c):=rfl
theorem zGz (mx:Bool) (k:IntKind) (a b:Int):zAu mx (.int k a) (.int k b)=some (.int k (if mx=true then max a b else min a b)):=by simp [zAu]
theorem zJQ (n s i:Nat):pldv false n (.ptr s i) h=h.rd1 s i:=rfl
theorem zJP (n s i:Nat):pldv true n (.ptr s i) h=(h.rd s i n).map .agg:=rfl
theorem zKs (n:Nat) (a:AV) (cs:List PV):pldv false n (.fp a cs) h=cs[0]?:=rfl
theorem zKr (n:Nat) (a:AV) (cs:List PV):pldv true n (.fp a cs) h=if 0<n∧n≤cs.length then some (.agg (cs.take n))else none:=rfl
theorem zJO:h.news []=h:=rfl
theorem zIB (z:List AV) (zs:List (List AV)):h.news (z::zs)=(h.new (ofAVs z)).news zs:=rfl
theorem zIy (recs:List RecP):Zw [] recs h=True:=by
 apply propext;refine⟨fun _=>trivial,fun _=>?_⟩
 induction recs with
 | nil=>trivial
 | cons r rs ih=>exact⟨by simp,ih⟩
theorem zHO (c:List Nat):Zw c [] h=True:=rfl
theorem zHP (c:List Nat) (i:Nat) (a:Bool) (n:Nat) (x v:PV) (rs:List RecP):Zw c (⟨i,a,n,x,v⟩::rs) h=((if c.contains i=true then pldv a n x h=some v else True)∧Zw c rs h):=rfl
theorem zGg (d:Option Nat) (a:Bool) (n:Nat) (x:IX) (g:Option (Nat×Bool)) (i:Nat) (c:List Nat) (v:PV):zb ⟨⟨d,.load a n x,true,g⟩,i,c⟩ e v=if Q6 g e=true then [⟨i,a,n,x.pv e,v⟩]else []:=rfl
theorem zI9 (d:Option Nat) (x:IX) (g:Option (Nat×Bool)) (i:Nat) (c:List Nat) (v:PV):zb ⟨⟨d,(.mv x),true,g⟩,i,c⟩ e v=[]:=rfl
theorem zGf (d:Option Nat) (x y z:IX) (g:Option (Nat×Bool)) (i:Nat) (c:List Nat) (v:PV):zb ⟨⟨d,(.pick x y z),true,g⟩,i,c⟩ e v=[]:=rfl
theorem zH7 (d:Option Nat) (op:BinOp) (ek:EqK) (x y:IX) (g:Option (Nat×Bool)) (i:Nat) (c:List Nat) (v:PV):zb ⟨⟨d,(.bin op ek x y),true,g⟩,i,c⟩ e v=[]:=rfl
theorem zI8 (d:Option Nat) (op:UnOp) (x:IX) (g:Option (Nat×Bool)) (i:Nat) (c:List Nat) (v:PV):zb ⟨⟨d,(.un op x),true,g⟩,i,c⟩ e v=[]:=rfl
theorem zGh (d:Option Nat) (k:IntKind) (x:IX) (g:Option (Nat×Bool)) (i:Nat) (c:List Nat) (v:PV):zb ⟨⟨d,(.conv k x),true,g⟩,i,c⟩ e v=[]:=rfl
theorem zDO (d:Option Nat) (x:IX) (g:Option (Nat×Bool)) (i:Nat) (c:List Nat) (v:PV):zb ⟨⟨d,(.nilCheck x),true,g⟩,i,c⟩ e v=[]:=rfl
theorem zFW (d:Option Nat) (z:List AV) (ps:List (Nat×Nat×IX)) (g:Option (Nat×Bool)) (i:Nat) (c:List Nat) (v:PV):zb ⟨⟨d,(.build z ps),true,g⟩,i,c⟩ e v=[]:=rfl
theorem zFV (d:Option Nat) (a:Bool) (n off:Nat) (x:IX) (g:Option (Nat×Bool)) (i:Nat) (c:List Nat) (v:PV):zb ⟨⟨d,(.field a n off x),true,g⟩,i,c⟩ e v=[]:=rfl
theorem zCu (d:Option Nat) (off:Nat) (x:IX) (g:Option (Nat×Bool)) (i:Nat) (c:List Nat) (v:PV):zb ⟨⟨d,(.fieldAddr off x),true,g⟩,i,c⟩ e v=[]:=rfl
theorem zCt (d:Option Nat) (sz:Nat) (x y:IX) (g:Option (Nat×Bool)) (i:Nat) (c:List Nat) (v:PV):zb ⟨⟨d,(.indexAddr sz x y),true,g⟩,i,c⟩ e v=[]:=rfl
theorem zDQ (d:Option Nat) (x y:IX) (g:Option (Nat×Bool)) (i:Nat) (c:List Nat) (v:PV):zb ⟨⟨d,(.indexStr x y),true,g⟩,i,c⟩ e v=[]:=rfl
theorem zEC (d:Option Nat) (x:IX) (j:Nat) (g:Option (Nat×Bool)) (i:Nat) (c:List Nat) (v:PV):zb ⟨⟨d,(.extract x j),true,g⟩,i,c⟩ e v=[]:=rfl
theorem zH5 (d:Option Nat) (x:IX) (g:Option (Nat×Bool)) (i:Nat) (c:List Nat) (v:PV):zb ⟨⟨d,(.len x),true,g⟩,i,c⟩ e v=[]:=rfl
theorem zE0 (d:Option Nat) (x:IX) (g:Option (Nat×Bool)) (i:Nat) (c:List Nat) (v:PV):zb ⟨⟨d,(.lenStr x),true,g⟩,i,c⟩ e v=[]:=rfl
theorem zH6 (d:Option Nat) (x:IX) (g:Option (Nat×Bool)) (i:Nat) (c:List Nat) (v:PV):zb ⟨⟨d,(.cap x),true,g⟩,i,c⟩ e v=[]:=rfl
theorem zFU (d:Option Nat) (sz:Nat) (x:IX) (lo hi mx:Option IX) (g:Option (Nat×Bool)) (i:Nat) (c:List Nat) (v:PV):zb ⟨⟨d,(.slice sz x lo hi mx),true,g⟩,i,c⟩ e v=[]:=rfl
theorem zDN (d:Option Nat) (x:IX) (lo hi:Option IX) (g:Option (Nat×Bool)) (i:Nat) (c:List Nat) (v:PV):zb ⟨⟨d,(.sliceStr x lo hi),true,g⟩,i,c⟩ e v=[]:=rfl
theorem zEz (d:Option Nat) (mx:Bool) (x y:IX) (g:Option (Nat×Bool)) (i:Nat) (c:List Nat) (v:PV):zb ⟨⟨d,(.maxmin mx x y),true,g⟩,i,c⟩ e v=[]:=rfl
theorem zDP (d:Option Nat) (f:FuncId) (y z:List IX) (g:Option (Nat×Bool)) (i:Nat) (c:List Nat) (v:PV):zb ⟨⟨d,(.makeFunc f y z),true,g⟩,i,c⟩ e v=[]:=rfl
theorem zH4 (d:Option Nat) (j:Nat) (g:Option (Nat×Bool)) (i:Nat) (c:List Nat) (v:PV):zb ⟨⟨d,(.rev j),true,g⟩,i,c⟩ e v=[]:=rfl
theorem zCS (d:Option Nat) (j m:Nat) (g:Option (Nat×Bool)) (i:Nat) (c:List Nat) (v:PV):zb ⟨⟨d,(.revS j m),true,g⟩,i,c⟩ e v=[]:=rfl
theorem zFM:Q6 none e=true:=rfl
theorem zFL (t:Nat) (b:Bool):Q6 (some (t,b)) e=(match e t with | .bool c=>decide (c=b) | _=>false):=rfl
theorem zH2:qd [] e h=some []:=rfl
theorem zH1 (t:Nat) (r:List IRes):qd (.tmp t::r) e h=(qd r e h).map fun vs=>e t::vs:=rfl
theorem zGd (t:Nat) (a:Bool) (n:Nat) (r:List IRes):qd (.cell t a n::r) e h=(pldv a n (e t) h).bind fun v=>(qd r e h).map fun vs=>v::vs:=rfl
theorem zGe (res:List IRes):retP res KA .normal e h=optK (qd res e h) fun vs=>KA (packP vs) h:=rfl
theorem zKY (res:List IRes):retP res KA .ret e h=optK (qd res e h) fun vs=>KA (packP vs) h:=rfl
theorem zJc (v:PV):packP [v]=v:=rfl
theorem zJd:packP []=.tup []:=rfl
theorem zJb (u v:PV) (r:List PV):packP (u::v::r)=.tup (u::v::r):=rfl
theorem zJT (cs:List PV):pfill cs []=some cs:=rfl
theorem zIC (cs:List PV) (off size:Nat) (v:PV) (r:List (Nat×Nat×PV)):pfill cs ((off,size,v)::r)=if v.cells.length=size∧off+size≤cs.length∧v.cells.all PV.one=true then pfill (cs.take off++v.cells++cs.drop (off+size)) r else none:=rfl
theorem zIG (k:IntKind) (n:Int):PV.cells (.int k n)=[(.int k n)]:=rfl
theorem zKm (k:IntKind) (n:Int):PV.one (.int k n)=true:=rfl
theorem zGs (b:Bool):PV.cells (.bool b)=[(.bool b)]:=rfl
theorem zJL (b:Bool):PV.one (.bool b)=true:=rfl
theorem zIE (s:List UInt8):PV.cells (.str s)=[(.str s)]:=rfl
theorem zKk (s:List UInt8):PV.one (.str s)=true:=rfl
theorem zGq:PV.cells .nilp=[.nilp]:=rfl
theorem zJJ:PV.one .nilp=true:=rfl
theorem zGr:PV.cells .nilf=[.nilf]:=rfl
theorem zJK:PV.one .nilf=true:=rfl
theorem zJV (w:Bool) (a:AV) (n:Nat) (cs:List PV):PV.cells (.fz w a n cs)=[(.fz w a n cs)]:=rfl
theorem zL1 (w:Bool) (a:AV) (n:Nat) (cs:List PV):PV.one (.fz w a n cs)=true:=rfl
theorem zJW (a:AV) (cs:List PV):PV.cells (.fp a cs)=[(.fp a cs)]:=rfl
theorem zL2 (a:AV) (cs:List PV):PV.one (.fp a cs)=true:=rfl
theorem zIF (s i:Nat):PV.cells (.ptr s i)=[(.ptr s i)]:=rfl
theorem zKl (s i:Nat):PV.one (.ptr s i)=true:=rfl
theorem zJU (s o n:Nat) (c:Cap):PV.cells (.sl s o n c)=[(.sl s o n c)]:=rfl
theorem zL0 (s o n:Nat) (c:Cap):PV.one (.sl s o n c)=true:=rfl
theorem zIH (f:FuncId) (a b:List PV):PV.cells (.clo f a b)=[(.clo f a b)]:=rfl
theorem zKn (f:FuncId) (a b:List PV):PV.one (.clo f a b)=true:=rfl
theorem zII (cs:List PV):PV.cells (.agg cs)=cs:=rfl
theorem zIJ (k:IntKind) (i:Int) (y:Nat):ZJ (.int k i) y=if 0≤i∧i≤y then some i.toNat else none:=rfl
theorem zFd (x:PV) (d y:Nat):zU (some x) d y=ZJ x y:=rfl
theorem zFe (d y:Nat):zU none d y=some d:=rfl
theorem zJF (sz:Nat) (w:Bool) (a:AV) (len:Nat) (cs:List PV) (lo hi:Option PV):QH sz (.fz w a len cs) lo hi none=(zU hi len len).bind fun h=>(zU lo 0 h).bind fun l=>some (.fz false (pslA sz a l h) (h-l) ((cs.drop (l*sz)).take ((h-l)*sz))):=rfl
theorem zBc (sz s off len c:Nat) (lo hi mx:Option PV):QH sz (.sl s off len (.known c)) lo hi mx=(zU mx c c).bind fun m=>(zU hi len m).bind fun h=>(zU lo 0 h).bind fun l=>if hi.isNone=true∧mx.isSome=true then none else some (.sl s (if m=l then off else off+l*sz) (h-l) (.known (m-l))):=rfl
theorem zBd (sz s off len g:Nat) (lo hi:Option PV):QH sz (.sl s off len (.grown g)) lo hi none=(zU hi len len).bind fun h=>(zU lo 0 h).bind fun l=>some (.sl s (off+l*sz) (h-l) (.grown (if g=sz then g else 0))):=rfl
theorem zE1 (s:List UInt8) (lo hi:Option PV):zAZ (.str s) lo hi=(zU hi s.length s.length).bind fun h=>(zU lo 0 h).bind fun l=>some (.str ((s.take h).drop l)):=rfl
theorem zL6 (w:Bool) (a:AV) (n:Nat) (cs:List PV):plen (.fz w a n cs)=some n:=rfl
theorem zL5 (s o n:Nat) (c:Cap):plen (.sl s o n c)=some n:=rfl
theorem Qx (sz bytes:Nat) (s x:PV):qP sz bytes h s x=(plen x).bind fun m=>if m=0 then(psame s).map fun v=>(v,h)else(ZY sz h x m).bind fun news=>pgrow sz bytes h s news m:=rfl
theorem zGm (s o n c:Nat):psame (.sl s o n (.known c))=if n≤c then some (.sl s o n (.known c))else none:=rfl
theorem zJS (sz:Nat) (w:Bool) (a:AV) (len:Nat) (cs:List PV) (n:Nat):ZY sz h (.fz w a len cs) n=if n=0 then some []else if n≤len∧n*sz≤cs.length∧0<sz then some (cs.take (n*sz))else none:=rfl
theorem zBe (sz s off len:Nat) (c:Cap) (n:Nat):ZY sz h (.sl s off len c) n=if n=0 then some []else if n≤len then h.rd s off (n*sz)else none:=rfl
theorem zDT (sz bytes:Nat) (w:Bool) (n:Nat) (cs news:List PV) (m:Nat):pgrow sz bytes h (.fz w .nils n cs) news m=if m*bytes≤140737488355328∧m≤4611686018427387904 then some (.sl h.next 0 m (.grown sz),h.new news)else none:=rfl
theorem zAl (sz bytes s off len c:Nat) (news:List PV) (m:Nat):pgrow sz bytes h (.sl s off len (.known c)) news m=if len+m≤c then(h.wr s (off+len*sz) news).map fun σ'=>(.sl s off (len+m) (.known c),σ')else if (len+m)*bytes≤140737488355328∧len+m≤4611686018427387904 then(h.rd s off (len*sz)).map fun old=>(.sl h.next 0 (len+m) (.grown sz),h.new (old++news))else none:=rfl
theorem zAm (sz bytes s off len g:Nat) (news:List PV) (m:Nat):pgrow sz bytes h (.sl s off len (.grown g)) news m=if (len+m)*bytes≤140737488355328∧len+m≤4611686018427387904∧g=sz then(h.obj s).bind fun cs=>if off+len*sz≤cs.length then some (.sl h.next 0 (len+m) (.grown sz),(h.kill s).new ((cs.drop off).take (len*sz)++news))else none else none:=rfl
theorem zFc (cs:List PV) (s i:Nat):(h.new cs).rd1 s i=if s=h.next then cs[i]? else h.rd1 s i:=by by_cases x:s=h.next<;>simp [PHeap.rd1,PHeap.new,x]
theorem Q8 (cs:List PV) (s i n:Nat):(h.new cs).rd s i n=if s=h.next then(if i+n≤cs.length then some ((cs.drop i).take n)else none)else h.rd s i n:=by by_cases x:s=h.next<;>simp [PHeap.rd,PHeap.new,x]
theorem zP (cs:List PV) (s:Nat):(h.new cs).obj s=if s=h.next then some cs else h.obj s:=rfl
theorem zLt (cs:List PV) (s i:Nat) (vs:List PV):(h.new cs).wr s i vs=if s=h.next then(if i+vs.length≤cs.length∧vs.all PV.one=true then some (h.new (cs.take i++vs++cs.drop (i+vs.length)))else none)else(h.wr s i vs).map fun h'=>h'.new cs:=by
 by_cases x:s=h.next
 ·subst x
  simp only [PHeap.wr,PHeap.new,if_true,Option.bind_some]
  split
  ·congr 1
   simp only [PHeap.set]
   congr 1
   funext y
   by_cases hy:y=h.next<;>simp [hy]
  ·rfl
 ·simp only [PHeap.wr,PHeap.new,if_neg x]
  cases ho:h.obj s with
  | none=>rfl
  | some ob=>
   simp only [Option.bind_some]
   split
   ·simp only [Option.map_some,PHeap.set]
    congr 2
    funext y
    by_cases hy:y=s
    ·subst hy;simp [x]
    ·simp [hy]
   ·rfl
theorem zJN (cs:List PV):(h.new cs).next=h.next+1:=rfl
theorem zKg (cs:List PV):(h.new cs).top=h.top:=rfl
theorem zKi (cs:List PV) (s:Nat) (ds:List PV):(h.new cs).set s ds=if s=h.next then h.new ds else(h.set s ds).new cs:=by
 by_cases x:s=h.next
 ·subst x
  rw [if_pos rfl];simp only [PHeap.set,PHeap.new]
  congr 1
  funext y
  by_cases hy:y=h.next<;>simp [hy]
 ·rw [if_neg x]
  simp only [PHeap.set,PHeap.new]
  congr 1
  funext y
  by_cases hy:y=s
  ·subst hy;simp [x]
  ·simp [hy]
theorem zKh (s:Nat) (cs ds:List PV):(h.set s cs).set s ds=h.set s ds:=by
 simp only [PHeap.set]
 congr 1
 funext y
 by_cases hy:y=s<;>simp [hy]
theorem zJM (s:Nat) (cs:List PV):(h.set s cs).next=h.next:=rfl
theorem zIA (s:Nat):(h.kill s).next=h.next:=rfl
theorem zKo (t:Nat):(h.up t).next=h.next:=rfl
theorem zLx (t:Nat):(h.up t).top=t:=rfl
theorem zL4 (t:Nat) (cs:List PV):(h.up t).new cs=(h.new cs).up t:=rfl
theorem zLy (t s i:Nat):(h.up t).rd1 s i=h.rd1 s i:=rfl
theorem zMq (t s i n:Nat):(h.up t).rd s i n=h.rd s i n:=rfl
theorem zL3 (t s:Nat):(h.up t).obj s=h.obj s:=rfl
theorem zMp (t s i:Nat) (vs:List PV):(h.up t).wr s i vs=(h.wr s i vs).map fun h'=>h'.up t:=by
 simp only [PHeap.wr,PHeap.up];cases h.obj s with
 | none=>rfl
 | some cs=>simp only [Option.bind_some];split<;>rfl
theorem zEZ (s t:Nat):(h.kill s).obj t=if t=s then none else h.obj t:=rfl
theorem zH (s:Nat) (cs:List PV) (t:Nat):(h.set s cs).obj t=if t=s then some cs else h.obj t:=rfl
theorem zJG (s t i:Nat):(h.kill s).rd1 t i=if t=s then none else h.rd1 t i:=by by_cases x:t=s<;>simp [PHeap.rd1,PHeap.kill,x]
theorem zKj (s t i n:Nat):(h.kill s).rd t i n=if t=s then none else h.rd t i n:=by by_cases x:t=s<;>simp [PHeap.rd,PHeap.kill,x]
theorem zCw (s:Nat) (cs:List PV) (t i:Nat):(h.set s cs).rd1 t i=if t=s then cs[i]? else h.rd1 t i:=by by_cases x:t=s<;>simp [PHeap.rd1,PHeap.set,x]
theorem qO (s:Nat) (cs:List PV) (t i n:Nat):(h.set s cs).rd t i n=if t=s then(if i+n≤cs.length then some ((cs.drop i).take n)else none)else h.rd t i n:=by by_cases x:t=s<;>simp [PHeap.rd,PHeap.set,x]
theorem zLs (s:Nat) (cs:List PV) (i:Nat) (vs:List PV):(h.set s cs).wr s i vs=if i+vs.length≤cs.length∧vs.all PV.one=true then some (h.set s (cs.take i++vs++cs.drop (i+vs.length)))else none:=by
 simp only [PHeap.wr,PHeap.set,if_true,Option.bind_some]
 split
 ·congr 2
  funext y
  by_cases hy:y=s<;>simp [hy]
 ·rfl
end
def pw0:=And.intro @zLi <| And.intro @zIz <| And.intro @zLk <| And.intro @zMg <| And.intro @zLl <| And.intro @zKT <| And.intro @zLj <| And.intro @zMh <| And.intro @zMZ <| And.intro @RVp_q <| And.intro @RVp_e <| And.intro @zMc <| And.intro @DVp_q <| And.intro @DVp_e <| And.intro @zLN <| And.intro @zLM <| And.intro @zLP <| And.intro @zLO <| And.intro @zGo <| And.intro @zFl <| And.intro @zID <| And.intro @zGp <| And.intro @zFk <| And.intro @zFi <| And.intro @zFh <| And.intro @zFj <| And.intro @pv_t <| And.intro @pv_c <| And.intro @zKq <| @zJH
def pw1:=And.intro @zJI <| And.intro @qp_mv <| And.intro @zLp <| And.intro @zMo <| And.intro @qp_un <| And.intro @zLr <| And.intro @zGj <| And.intro @zKe <| And.intro @zKd <| And.intro @zFa <| And.intro @zFZ <| And.intro @zGl <| And.intro @zH8 <| And.intro @zMm <| And.intro @zJC <| And.intro @zMn <| And.intro @zKc <| And.intro @zGi <| And.intro @zJB <| And.intro @zGk <| And.intro @zLq <| And.intro @zMl <| And.intro @zLo <| And.intro @zLW <| And.intro @zM5 <| And.intro @zIm <| And.intro @zLU <| And.intro @zIP <| And.intro @zJ8 <| And.intro @zHL <| @zG2
def pw2:=And.intro @zJf <| And.intro @zJ9 <| And.intro @zMU <| And.intro @zMV <| And.intro @zLV <| And.intro @zIT <| And.intro @zLA <| And.intro @of_bool <| And.intro @of_int <| And.intro @zMv <| And.intro @zMH <| And.intro @zMI <| And.intro @zMG <| And.intro @zMw <| And.intro @zMx <| And.intro @zMF <| And.intro @zK9 <| And.intro @zME <| And.intro @zK4 <| And.intro @zKu <| And.intro @zKy <| And.intro @zK3 <| And.intro @zKx <| And.intro @zKz <| And.intro @zK0 <| And.intro @zK1 <| And.intro @zK2 <| And.intro @zKw <| And.intro @zKv <| @zIN
def pw3:=And.intro @zJa <| And.intro @zIO <| And.intro @zJZ <| And.intro @zJY <| And.intro @zIM <| And.intro @zGx <| And.intro @zIL <| And.intro @zGw <| And.intro @zGv <| And.intro @zGu <| And.intro @zGt <| And.intro @zHI <| And.intro @zJ1 <| And.intro @zLw <| And.intro @zLv <| And.intro @zIQ <| And.intro @zGy <| And.intro @zJi <| And.intro @zK5 <| And.intro @zK6 <| And.intro @zL9 <| And.intro @zIS <| And.intro @zIR <| And.intro @zEF <| And.intro @zE5 <| And.intro @zJg <| And.intro @zJh <| And.intro @zG1 <| And.intro @zFn <| @zMB
def pw4:=And.intro @zMA <| And.intro @zG0 <| And.intro @zJj <| And.intro @zMC <| And.intro @zGz <| And.intro @zJQ <| And.intro @zJP <| And.intro @zKs <| And.intro @zKr <| And.intro @zJO <| And.intro @zIB <| And.intro @zIy <| And.intro @zHO <| And.intro @zHP <| And.intro @zGg <| And.intro @zI9 <| And.intro @zGf <| And.intro @zH7 <| And.intro @zI8 <| And.intro @zGh <| And.intro @zDO <| And.intro @zFW <| And.intro @zFV <| And.intro @zCu <| And.intro @zCt <| And.intro @zDQ <| And.intro @zEC <| And.intro @zH5 <| And.intro @zE0 <| @zH6
def pw5:=And.intro @zFU <| And.intro @zDN <| And.intro @zEz <| And.intro @zDP <| And.intro @zH4 <| And.intro @zCS <| And.intro @zFM <| And.intro @zFL <| And.intro @zH2 <| And.intro @zH1 <| And.intro @zGd <| And.intro @zGe <| And.intro @zKY <| And.intro @zJc <| And.intro @zJd <| And.intro @zJb <| And.intro @zJT <| And.intro @zIC <| And.intro @zIG <| And.intro @zKm <| And.intro @zGs <| And.intro @zJL <| And.intro @zIE <| And.intro @zKk <| And.intro @zGq <| And.intro @zJJ <| And.intro @zGr <| And.intro @zJK <| And.intro @zJV <| And.intro @zL1 <| @zJW
def pw6:=And.intro @zL2 <| And.intro @zIF <| And.intro @zKl <| And.intro @zJU <| And.intro @zL0 <| And.intro @zIH <| And.intro @zKn <| And.intro @zII <| And.intro @zIJ <| And.intro @zFd <| And.intro @zFe <| And.intro @zJF <| And.intro @zBc <| And.intro @zBd <| And.intro @zE1 <| And.intro @zL6 <| And.intro @zL5 <| And.intro @zFc <| And.intro @Q8 <| And.intro @zP <| And.intro @zLt <| And.intro @zJN <| And.intro @zKg <| And.intro @zKi <| And.intro @zKh <| And.intro @zJM <| And.intro @zIA <| And.intro @zKo <| And.intro @zLx <| @zL4
def pw7:=And.intro @zLy <| And.intro @zMq <| And.intro @zL3 <| And.intro @zMp <| And.intro @zEZ <| And.intro @zH <| And.intro @zJG <| And.intro @zKj <| And.intro @zCw <| And.intro @qO <| And.intro @zLs <| And.intro @zAa <| And.intro @Qj <| And.intro @zJl <| And.intro @zK8 <| And.intro @List.map_cons.{0,0} <| And.intro @List.map_nil.{0,0} <| And.intro @List.length_cons.{0} <| And.intro @List.length_nil.{0} <| And.intro @List.getElem?_cons_zero.{0} <| And.intro @List.getElem?_cons_succ.{0} <| And.intro @List.take_succ_cons.{0} <| And.intro @List.take_zero.{0} <| And.intro @List.drop_succ_cons.{0} <| And.intro @List.drop_zero.{0} <| And.intro @List.take_nil.{0} <| And.intro @List.drop_nil.{0} <| And.intro @List.nil_append.{0} <| And.intro @List.cons_append.{0} <| @List.append_nil.{0}
def pw8:=And.intro @List.all_cons.{0} <| And.intro @List.all_nil.{0} <| And.intro @List.contains_cons.{0} <| And.intro @List.contains_nil.{0} <| And.intro @Option.map_some.{0,0} <| And.intro @Option.map_none.{0,0} <| And.intro @Option.bind_some.{0,0} <| And.intro @Option.bind_none.{0,0} <| And.intro @decide_true <| And.intro @decide_false <| And.intro @Bool.not_true <| And.intro @Bool.not_false <| And.intro @Bool.and_true <| And.intro @Bool.true_and <| And.intro @Bool.and_self <| And.intro @Bool.or_false <| And.intro @Bool.or_true <| And.intro @Bool.true_or <| And.intro @Bool.false_or <| And.intro @true_and <| And.intro @and_true <| And.intro @Bool.true_eq_false <| And.intro @Bool.false_eq_true <| And.intro @Nat.left_eq_add <| And.intro @Nat.add_eq_left <| And.intro @Nat.succ_ne_self <| And.intro @Nat.one_ne_zero <| And.intro @Nat.add_left_cancel_iff <| And.intro @Nat.add_assoc <| @Nat.mul_one
def pw9:=And.intro @Nat.zero_add <| And.intro @Nat.add_zero <| And.intro @Nat.le_refl <| And.intro @Nat.lt_add_one <| And.intro @Int.toNat_natCast <| And.intro @Int.natCast_nonneg <| And.intro @Int.ofNat_lt <| And.intro @Int.le_refl <| And.intro @zHt <| And.intro @zHu <| And.intro @zFJ <| And.intro @Nat.one_mul <| @Nat.zero_mul
def pwA:=And.intro pw0 <| And.intro pw1 <| And.intro pw2 <| And.intro pw3 <| And.intro pw4 <| And.intro pw5 <| And.intro pw6 <| And.intro pw7 <| And.intro pw8 <| And.intro pw9 <| And.intro @nm_eq <| And.intro @eq_self.{1} <| And.intro @Int.ofNat_le @List.getElem?_drop.{0}
end Go.Ab
