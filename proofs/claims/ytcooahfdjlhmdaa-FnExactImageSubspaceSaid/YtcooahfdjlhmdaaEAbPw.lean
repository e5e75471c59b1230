/- THE RULES BY WHICH CODE IS WALKED over values without a heap: equations, and the one name 'pw' for all of them. Written by a program. -/
import Derived.Test.YtcooahfdjlhmdaaEAbPg
import Derived.Test.YtcooahfdjlhmdaaEAbAid
set_option linter.unusedVariables false
set_option linter.unusedSimpArgs false
set_option linter.defProp false
namespace Go.Ab
section
variable {P:Program} {Q:Exit→PEnv→PHeap→Prop} {e:PEnv} {h:PHeap} {K:PEnv→PHeap→Prop} {KA:PV→PHeap→Prop} {nb nr:Nat}
theorem zKi:vp P .skip Q e h=Q .normal e h:=rfl
theorem zHW (S:List Nat) (its:List II):vp P (.region S its) Q e h=RVp P its e h fun e' h'=>Q .normal (PEnv.mk S (S.map e')) h':=rfl
theorem zKk (S:List Nat) (zs:List (List AV)) (its:List DI):vp P (.draw S zs its) Q e h=DVp P h.next zs.length its [] e (h.news zs) fun e' h'=>Q .normal (PEnv.mk S (S.map e')) h':=rfl
theorem zLv (a b:IC):vp P (.seq a b) Q e h=vp P a (fun x e' h'=>match x with | .normal=>vp P b Q e' h' | x=>Q x e' h') e h:=rfl
theorem zKl (c:IX) (a b:IC):vp P (.cond c a b) Q e h=ZF (c.pv e) (vp P a Q e h) (vp P b Q e h):=rfl
theorem zI8 (id:Nat) (c:IC):vp P (.block id c) Q e h=vp P c (fun x e' h'=>match x with | .exit id'=>if id'=id then Q .normal e' h' else Q (.exit id') e' h' | x=>Q x e' h') e h:=rfl
theorem zKj (id:Nat):vp P (.exit id) Q e h=Q (.exit id) e h:=rfl
theorem zLw:vp P .ret Q e h=Q .ret e h:=rfl
theorem zLr:RVp P [] e h K=K e h:=rfl
theorem RVp_q (d:Option Nat) (op:IOp) (g:Option (Nat×Bool)) (r:List II):RVp P (⟨d,op,true,g⟩::r) e h K=optK (gqp 0 0 ⟨d,op,true,g⟩ e h) fun v=>RVp P r (e.put d v) h K:=rfl
theorem RVp_e (d:Option Nat) (op:IOp) (g:Option (Nat×Bool)) (r:List II):RVp P (⟨d,op,false,g⟩::r) e h K=gep P ⟨d,op,false,g⟩ e h fun v h'=>RVp P r (e.put d v) h' K:=rfl
theorem zLt (recs:List RecP):DVp P nb nr [] recs e h K=K e h:=rfl
theorem DVp_q (d:Option Nat) (op:IOp) (g:Option (Nat×Bool)) (i:Nat) (c:List Nat) (r:List DI) (recs:List RecP):DVp P nb nr (⟨⟨d,op,true,g⟩,i,c⟩::r) recs e h K=optK (gqp nb nr ⟨d,op,true,g⟩ e h) fun v=>DVp P nb nr r (qN ⟨⟨d,op,true,g⟩,i,c⟩ e v++recs) (e.put d v) h K:=rfl
theorem DVp_e (d:Option Nat) (op:IOp) (g:Option (Nat×Bool)) (i:Nat) (c:List Nat) (r:List DI) (recs:List RecP):DVp P nb nr (⟨⟨d,op,false,g⟩,i,c⟩::r) recs e h K=gep P ⟨d,op,false,g⟩ e h fun v h'=>QF c recs h'∧DVp P nb nr r recs (e.put d v) h' K:=rfl
theorem zJ4 (d:Option Nat) (op:IOp) (q:Bool):gqp nb nr ⟨d,op,q,none⟩ e h=qp nb nr op e h:=rfl
theorem zJ3 (d:Option Nat) (op:IOp) (q:Bool) (t:Nat) (b:Bool):gqp nb nr ⟨d,op,q,some (t,b)⟩ e h=Zy (e t) b (qp nb nr op e h):=rfl
theorem zJ6 (d:Option Nat) (op:IOp) (q:Bool):gep P ⟨d,op,q,none⟩ e h KA=ep P op e h KA:=rfl
theorem zJ5 (d:Option Nat) (op:IOp) (q:Bool) (t:Nat) (b:Bool):gep P ⟨d,op,q,some (t,b)⟩ e h KA=qo (e t) b (ep P op e h KA) (KA (.tup []) h):=rfl
theorem zFT (a b:Prop):ZF (.bool true) a b=a:=rfl
theorem zEI (a b:Prop):ZF (.bool false) a b=b:=rfl
theorem zGl (c:Prop) [Decidable c] (a b:Prop):ZF (.bool (decide c)) a b=if c then a else b:=by by_cases x:c<;>simp [ZF,x]
theorem zFU (c:Prop) [Decidable c] (a b:Prop):ZF (.bool (!decide c)) a b=if c then b else a:=by by_cases x:c<;>simp [ZF,x]
theorem zEH (c b:Bool) (x y:Prop):qo (.bool c) b x y=if c=b then x else y:=rfl
theorem zEF (c b:Bool) (x:Option PV):Zy (.bool c) b x=if c=b then x else some (.tup []):=rfl
theorem zEE (b:Bool) (x:Option PV):Zy (.tup []) b x=some (.tup []):=rfl
theorem zEG (b:Bool) (x y:Prop):qo (.tup []) b x y=y:=rfl
theorem pv_t (n:Nat):(IX.t n).pv e=e n:=rfl
theorem pv_c (v:AV):(IX.c v).pv e=ofAV v:=rfl
theorem zJg (s:Nat) (S:List Nat) (v:PV) (vs:List PV) (t:Nat):PEnv.mk (s::S) (v::vs) t=if t=s then v else PEnv.mk S vs t:=rfl
theorem zHy (d:Nat) (v:PV) (t:Nat):e.put (some d) v t=if t=d then v else e t:=rfl
theorem zHz (v:PV):e.put none v=e:=rfl
theorem qp_mv (x:IX):qp nb nr (.mv x) e h=some (x.pv e):=rfl
theorem zK4 (c a b:IX):qp nb nr (.pick c a b) e h=pPick (c.pv e) (a.pv e) (b.pv e):=rfl
theorem zMG (op:BinOp) (ek:EqK) (x y:IX):qp nb nr (.bin op ek x y) e h=pbin op ek (x.pv e) (y.pv e):=rfl
theorem qp_un (op:UnOp) (x:IX):qp nb nr (.un op x) e h=pun op (x.pv e):=rfl
theorem zK6 (k:IntKind) (x:IX):qp nb nr (.conv k x) e h=pConv k (x.pv e):=rfl
theorem zFO (x:IX):qp nb nr (.nilCheck x) e h=pNil (x.pv e):=rfl
theorem zJT (z:List AV) (ps:List (Nat×Nat×IX)):qp nb nr (.build z ps) e h=(pfill (ofAVs z) (ps.map fun p=>(p.1,p.2.1,p.2.2.pv e))).map .agg:=rfl
theorem zJS (a:Bool) (n off:Nat) (x:IX):qp nb nr (.field a n off x) e h=zAy a n off (x.pv e):=rfl
theorem zD6 (off:Nat) (x:IX):qp nb nr (.fieldAddr off x) e h=Z7 off (x.pv e):=rfl
theorem zD5 (sz:Nat) (x i:IX):qp nb nr (.indexAddr sz x i) e h=zAC sz (x.pv e) (i.pv e):=rfl
theorem zFQ (x i:IX):qp nb nr (.indexStr x i) e h=zBS (x.pv e) (i.pv e):=rfl
theorem zGe (x:IX) (i:Nat):qp nb nr (.extract x i) e h=zAY (x.pv e) i:=rfl
theorem zME (x:IX):qp nb nr (.len x) e h=pLen (x.pv e):=rfl
theorem zHs (x:IX):qp nb nr (.lenStr x) e h=zBR (x.pv e):=rfl
theorem zMF (x:IX):qp nb nr (.cap x) e h=pCap (x.pv e):=rfl
theorem zJR (sz:Nat) (x:IX) (lo hi mx:Option IX):qp nb nr (.slice sz x lo hi mx) e h=ZK sz (x.pv e) (lo.map (·.pv e)) (hi.map (·.pv e)) (mx.map (·.pv e)):=rfl
theorem zFN (x:IX) (lo hi:Option IX):qp nb nr (.sliceStr x lo hi) e h=Qu (x.pv e) (lo.map (·.pv e)) (hi.map (·.pv e)):=rfl
theorem zHr (mx:Bool) (x y:IX):qp nb nr (.maxmin mx x y) e h=zAB mx (x.pv e) (y.pv e):=rfl
theorem zFP (f:FuncId) (a b:List IX):qp nb nr (.makeFunc f a b) e h=some (.clo f (a.map (·.pv e)) (b.map (·.pv e))):=rfl
theorem zK5 (a:Bool) (n:Nat) (x:IX):qp nb nr (.load a n x) e h=pldv a n (x.pv e) h:=rfl
theorem zMD (k:Nat):qp nb nr (.rev k) e h=if k<nr then some (.ptr (nb+k) 0)else none:=rfl
theorem zK3 (k n:Nat):qp nb nr (.revS k n) e h=if k<nr then some (.sl (nb+k) 0 n (.known n))else none:=rfl
theorem zKG (z:List AV):ep P (.alloc z) e h KA=KA (.ptr h.next 0) (h.new (ofAVs z)):=rfl
theorem zMR (x:IX):ep P (.box x) e h KA=((x.pv e).cells.all PV.one=true∧KA (.ptr h.next 0) (h.new (x.pv e).cells)):=rfl
theorem zHA (sz len:Nat) (z:List AV) (ps:List (Nat×Nat×IX)):ep P (.buildSl sz len z ps) e h KA=optK (pfill (ofAVs (zeros z len)) (ps.map fun p=>(p.1,p.2.1,p.2.2.pv e))) fun cs=>KA (.sl h.next 0 len (.known len)) (h.new cs):=rfl
def zCP (n:Nat) (x v:PV) (h:PHeap) (KA:PV→PHeap→Prop):Prop:=
 match x with
 | .ptr s i=>v.cells.length=n∧optK (h.wr s i v.cells) fun h'=>KA .undef h'
 | _=>False
def pMake (sz bytes:Nat) (z:List AV) (l c:PV) (h:PHeap) (KA:PV→PHeap→Prop):Prop:=
 match l,c with
 | .int _ l,.int _ c=>(0≤l∧l≤c∧c*bytes≤140737488355328∧c≤9223372036854775807)∧KA (.sl h.next 0 l.toNat (.known c.toNat)) (h.new (ofAVs (zeros z c.toNat)))
 | _,_=>False
def zCR (sz bytes:Nat) (z:List AV) (s n:PV) (h:PHeap) (KA:PV→PHeap→Prop):Prop:=
 match s,n with
 | .fz _ .nils _ _,.int _ n=>(0≤n∧n*bytes≤140737488355328∧n≤4611686018427387904)∧if 0<n then KA (.sl h.next 0 n.toNat (.grown sz)) (h.new (ofAVs (zeros z n.toNat)))else KA (.fz true .nils 0 []) h
 | .sl s off len c,.int _ n=>(0≤n∧n*bytes≤140737488355328∧n≤4611686018427387904)∧optK (if 0<n then pgrow sz bytes h (.sl s off len c) (ofAVs (zeros z n.toNat)) n.toNat else(psame (.sl s off len c)).map fun v=>(v,h)) fun p=>KA p.1 p.2
 | _,_=>False
def zCQ (P:Program) (f:PV) (args:List PV) (h:PHeap) (KA:PV→PHeap→Prop):Prop:=
 match f with
 | .clo f first caps=>okF P f=true∧zA P f (first++args++caps) h KA
 | _=>False
theorem zKE (n:Nat) (x v:IX):ep P (.store n x v) e h KA=zCP n (x.pv e) (v.pv e) h KA:=rfl
theorem zGx (n s i:Nat) (v:PV):zCP n (.ptr s i) v h KA=(v.cells.length=n∧optK (h.wr s i v.cells) fun h'=>KA .undef h'):=rfl
theorem zIl (sz bytes:Nat) (z:List AV) (l c:IX):ep P (.makeSl sz bytes z l c) e h KA=pMake sz bytes z (l.pv e) (c.pv e) h KA:=rfl
theorem zFx (sz bytes:Nat) (z:List AV) (s n:IX):ep P (.appendMk sz bytes z s n) e h KA=zCR sz bytes z (s.pv e) (n.pv e) h KA:=rfl
theorem zFh (sz bytes:Nat) (z:List AV) (w:Bool) (l:Nat) (cs:List PV) (k:IntKind) (n:Int):zCR sz bytes z (.fz w .nils l cs) (.int k n) h KA=((0≤n∧n*bytes≤140737488355328∧n≤4611686018427387904)∧if 0<n then KA (.sl h.next 0 n.toNat (.grown sz)) (h.new (ofAVs (zeros z n.toNat)))else KA (.fz true .nils 0 []) h):=rfl
theorem zIO (sz bytes:Nat) (z:List AV) (k k':IntKind) (l c:Int):pMake sz bytes z (.int k l) (.int k' c) h KA=((0≤l∧l≤c∧c*bytes≤140737488355328∧c≤9223372036854775807)∧KA (.sl h.next 0 l.toNat (.known c.toNat)) (h.new (ofAVs (zeros z c.toNat)))):=rfl
theorem zIm (sz bytes:Nat) (s x:IX):ep P (.append sz bytes s x) e h KA=optK (ZE sz bytes h (s.pv e) (x.pv e)) fun p=>KA p.1 p.2:=rfl
theorem zLe (sz:Nat) (d s:IX):ep P (.copy sz d s) e h KA=optK (pcopy sz h (d.pv e) (s.pv e)) fun p=>KA p.1 p.2:=rfl
theorem zLf (f:FuncId) (args:List IX):ep P (.call f args) e h KA=zA P f (args.map (·.pv e)) h KA:=rfl
theorem zKF (f:IX) (args:List IX):ep P (.callV f args) e h KA=zCQ P (f.pv e) (args.map (·.pv e)) h KA:=rfl
theorem zG1 (f:FuncId) (a b args:List PV):zCQ P (.clo f a b) args h KA=(okF P f=true∧zA P f (a++args++b) h KA):=rfl
theorem zJy:ofAV .undef=.undef:=rfl
theorem of_bool (b:Bool):ofAV (.bool b)=.bool b:=rfl
theorem of_int (k:IntKind) (n:Int):ofAV (.int k n)=.int k n:=rfl
theorem zML (s:List UInt8):ofAV (.str s)=.str s:=rfl
theorem zLR:ofAV .nilp=.nilp:=rfl
theorem zLS:ofAV .nilf=.nilf:=rfl
theorem zLQ:ofAV .nils=.fz true .nils 0 []:=rfl
theorem zMM (f:FuncId) (a b:List AV):ofAV (.clo f a b)=.clo f (ofAVs a) (ofAVs b):=rfl
theorem zMN (a:List AV):ofAV (.agg a)=.agg (ofAVs a):=rfl
theorem zLP:ofAVs []=[]:=rfl
theorem zJx (c:AV) (cs:List AV):ofAVs (c::cs)=ofAV c::ofAVs cs:=rfl
theorem zLO (n:Nat) (c:AV):ofAVs (List.replicate n c)=List.replicate n (ofAV c):=by rw [zDF,List.map_replicate]
theorem zJu (k:IntKind) (ek:EqK) (a b:Int):pbin .add ek (.int k a) (.int k b)=some (.int k (k.wrap (a+b))):=by simp [pbin,abin,aint,ofAV]
theorem zJk (k:IntKind) (ek:EqK) (a b:Int):pbin .sub ek (.int k a) (.int k b)=some (.int k (k.wrap (a-b))):=by simp [pbin,abin,aint,ofAV]
theorem zJo (k:IntKind) (ek:EqK) (a b:Int):pbin .mul ek (.int k a) (.int k b)=some (.int k (k.wrap (a*b))):=by simp [pbin,abin,aint,ofAV]
theorem zJt (k:IntKind) (ek:EqK) (a b:Int):pbin .eql ek (.int k a) (.int k b)=some (.bool (decide (a=b))):=by simp [pbin,abin,aint,ofAV]
theorem zJn (k:IntKind) (ek:EqK) (a b:Int):pbin .neq ek (.int k a) (.int k b)=some (.bool (!decide (a=b))):=by simp [pbin,abin,aint,ofAV]
theorem zJp (k:IntKind) (ek:EqK) (a b:Int):pbin .lss ek (.int k a) (.int k b)=some (.bool (decide (a<b))):=by simp [pbin,abin,aint,ofAV]
theorem zJq (k:IntKind) (ek:EqK) (a b:Int):pbin .leq ek (.int k a) (.int k b)=some (.bool (decide (a≤b))):=by simp [pbin,abin,aint,ofAV]
theorem zJr (k:IntKind) (ek:EqK) (a b:Int):pbin .gtr ek (.int k a) (.int k b)=some (.bool (decide (b<a))):=by simp [pbin,abin,aint,ofAV]
theorem zJs (k:IntKind) (ek:EqK) (a b:Int):pbin .geq ek (.int k a) (.int k b)=some (.bool (decide (b≤a))):=by simp [pbin,abin,aint,ofAV]
theorem zJm (k:IntKind) (ek:EqK) (a b:Int):pbin .quo ek (.int k a) (.int k b)=if b=0 then none else some (.int k (k.wrap (a.tdiv b))):=by simp only [pbin,abin,aint,if_true];split<;>rfl
theorem zJl (k:IntKind) (ek:EqK) (a b:Int):pbin .rem ek (.int k a) (.int k b)=if b=0 then none else some (.int k (a.tmod b)):=by simp only [pbin,abin,aint,if_true];split<;>rfl
theorem zGv (n:Nat) (xs ys:List PV):pbin .eql (.ints n) (.agg xs) (.agg ys)=if xs.length=n∧ys.length=n then(paggB xs ys).bind fun r=>some (.bool r)else none:=rfl
theorem zIH:paggB [] []=some true:=rfl
theorem zGw (k:IntKind) (a b:Int) (xs ys:List PV):paggB (.int k a::xs) (.int k b::ys)=(paggB xs ys).map fun r=>decide (a=b) && r:=by simp [paggB]
theorem zIG (a b:Bool):pbin .eql .bool (.bool a) (.bool b)=some (.bool (a == b)):=rfl
theorem zIF (a b:Bool):pbin .neq .bool (.bool a) (.bool b)=some (.bool !(a == b)):=rfl
theorem zGu (w w':Bool) (a:AV) (n n':Nat) (cs cs':List PV):pbin .eql .slice (.fz w a n cs) (.fz w' .nils n' cs')=some (.bool (ZG a)):=rfl
theorem zFc (w w':Bool) (a:AV) (n n':Nat) (cs cs':List PV):pbin .neq .slice (.fz w a n cs) (.fz w' .nils n' cs')=some (.bool (!ZG a)):=rfl
theorem zGt (s o n:Nat) (c:Cap) (w':Bool) (n':Nat) (cs':List PV):pbin .eql .slice (.sl s o n c) (.fz w' .nils n' cs')=some (.bool false):=rfl
theorem zFb (s o n:Nat) (c:Cap) (w':Bool) (n':Nat) (cs':List PV):pbin .neq .slice (.sl s o n c) (.fz w' .nils n' cs')=some (.bool true):=rfl
theorem zFa (ek:EqK) (a b:List UInt8):pbin .add ek (.str a) (.str b)=if a.length+b.length≤9223372036854775807 then some (.str (a++b))else none:=by simp only [pbin,astr];split<;>rfl
theorem zFZ (ek:EqK) (a b:List UInt8):pbin .eql ek (.str a) (.str b)=some (.bool (a == b)):=rfl
theorem zFY (ek:EqK) (a b:List UInt8):pbin .neq ek (.str a) (.str b)=some (.bool !(a == b)):=rfl
theorem zFq:ZG .nils=true:=rfl
theorem zIg (o f n:Nat) (c:Cap):ZG (.sl o f n c)=false:=rfl
theorem zLA (k:IntKind) (n:Int):pun .neg (.int k n)=some (.int k (k.wrap (0-n))):=rfl
theorem zK9 (b:Bool):pun .not (.bool b)=some (.bool !b):=rfl
theorem zGy (a b:PV):pPick (.bool true) a b=some a:=rfl
theorem zFd (a b:PV):pPick (.bool false) a b=some b:=rfl
theorem zIR (k k':IntKind) (n:Int):pConv k (.int k' n)=some (.int k (k.wrap n)):=rfl
theorem zJv (s i:Nat):pNil (.ptr s i)=some (.ptr s i):=rfl
theorem zJw (f:FuncId) (a b:List PV):pNil (.clo f a b)=some (.clo f a b):=rfl
theorem zLK (a:AV) (c:PV) (cs:List PV):pNil (.fp a (c::cs))=some (.fp a (c::cs)):=rfl
theorem zG0 (n off:Nat) (cs:List PV):zAy true n off (.agg cs)=some (.agg ((cs.drop off).take n)):=rfl
theorem zGz (n off:Nat) (cs:List PV):zAy false n off (.agg cs)=cs[off]?:=rfl
theorem zC1 (off s i:Nat):Z7 off (.ptr s i)=some (.ptr s (i+off)):=rfl
theorem zDX (off:Nat) (a:AV) (c:PV) (cs:List PV):Z7 off (.fp a (c::cs))=some (.fp (pAdd a off) ((c::cs).drop off)):=rfl
theorem zIP (sz s off len:Nat) (c:Cap) (k:IntKind) (n:Int):zAC sz (.sl s off len c) (.int k n)=if 0≤n∧n<len then some (.ptr s (off+n.toNat*sz))else none:=rfl
theorem zIQ (sz:Nat) (w:Bool) (a:AV) (len:Nat) (cs:List PV) (k:IntKind) (n:Int):zAC sz (.fz w a len cs) (.int k n)=if 0≤n∧n<len then some (.fp (pAt a (n.toNat*sz)) (cs.drop (n.toNat*sz)))else none:=rfl
theorem zFg (s:List UInt8) (k:IntKind) (n:Int):zBS (.str s) (.int k n)=if 0≤n then(s[n.toNat]?).map fun c=>.int .u8 c.toNat else none:=rfl
theorem zEN (vs:List PV) (i:Nat):zAY (.tup vs) i=vs[i]?:=rfl
theorem zLM (w:Bool) (a:AV) (n:Nat) (cs:List PV):pLen (.fz w a n cs)=some (.int .i64 n):=rfl
theorem zLL (s o n:Nat) (c:Cap):pLen (.sl s o n c)=some (.int .i64 n):=rfl
theorem zFf (s:List UInt8):zBR (.str s)=some (.int .i64 s.length):=rfl
theorem zIS (w:Bool) (l:Nat) (cs:List PV):pCap (.fz w .nils l cs)=some (.int .i64 0):=rfl
theorem zLN (s o n c:Nat):pCap (.sl s o n (.known c))=some (.int .i64 c):=rfl
theorem zFe (mx:Bool) (k:IntKind) (a b:Int):zAB mx (.int k a) (.int k b)=some (.int k (if mx=true then max a b else min a b)):=by simp [zAB]
theorem zH8 (n s i:Nat):pldv false n (.ptr s i) h=h.rd1 s i:=rfl
theorem zH7 (n s i:Nat):pldv true n (.ptr s i) h=(h.rd s i n).map .agg:=rfl
theorem zJi (n:Nat) (a:AV) (cs:List PV):pldv false n (.fp a cs) h=cs[0]?:=rfl
theorem zJh (n:Nat) (a:AV) (cs:List PV):pldv true n (.fp a cs) h=if 0<n∧n≤cs.length then some (.agg (cs.take n))else none:=rfl
theorem zH6:h.news []=h:=rfl
theorem zGj (z:List AV) (zs:List (List AV)):h.news (z::zs)=(h.new (ofAVs z)).news zs:=rfl
theorem zHV (recs:List RecP):QF [] recs h=True:=by
 apply propext;refine⟨fun _=>trivial,fun _=>?_⟩
 induction recs with
 | nil=>trivial
 | cons r rs ih=>exact⟨by simp,ih⟩
theorem zF6 (c:List Nat):QF c [] h=True:=rfl
theorem zF7 (c:List Nat) (i:Nat) (a:Bool) (n:Nat) (x v:PV) (rs:List RecP):QF c (⟨i,a,n,x,v⟩::rs) h=((if c.contains i=true then pldv a n x h=some v else True)∧QF c rs h):=rfl
theorem zFH (d:Option Nat) (a:Bool) (n:Nat) (x:IX) (g:Option (Nat×Bool)) (i:Nat) (c:List Nat) (v:PV):qN ⟨⟨d,.load a n x,true,g⟩,i,c⟩ e v=if Qc g e=true then [⟨i,a,n,x.pv e,v⟩]else []:=rfl
theorem zHn (d:Option Nat) (x:IX) (g:Option (Nat×Bool)) (i:Nat) (c:List Nat) (v:PV):qN ⟨⟨d,(.mv x),true,g⟩,i,c⟩ e v=[]:=rfl
theorem zFG (d:Option Nat) (x y z:IX) (g:Option (Nat×Bool)) (i:Nat) (c:List Nat) (v:PV):qN ⟨⟨d,(.pick x y z),true,g⟩,i,c⟩ e v=[]:=rfl
theorem zGc (d:Option Nat) (op:BinOp) (ek:EqK) (x y:IX) (g:Option (Nat×Bool)) (i:Nat) (c:List Nat) (v:PV):qN ⟨⟨d,(.bin op ek x y),true,g⟩,i,c⟩ e v=[]:=rfl
theorem zHl (d:Option Nat) (op:UnOp) (x:IX) (g:Option (Nat×Bool)) (i:Nat) (c:List Nat) (v:PV):qN ⟨⟨d,(.un op x),true,g⟩,i,c⟩ e v=[]:=rfl
theorem zFI (d:Option Nat) (k:IntKind) (x:IX) (g:Option (Nat×Bool)) (i:Nat) (c:List Nat) (v:PV):qN ⟨⟨d,(.conv k x),true,g⟩,i,c⟩ e v=[]:=rfl
theorem zCK (d:Option Nat) (x:IX) (g:Option (Nat×Bool)) (i:Nat) (c:List Nat) (v:PV):qN ⟨⟨d,(.nilCheck x),true,g⟩,i,c⟩ e v=[]:=rfl
theorem zD1 (d:Option Nat) (z:List AV) (ps:List (Nat×Nat×IX)) (g:Option (Nat×Bool)) (i:Nat) (c:List Nat) (v:PV):qN ⟨⟨d,(.build z ps),true,g⟩,i,c⟩ e v=[]:=rfl
theorem zD0 (d:Option Nat) (a:Bool) (n off:Nat) (x:IX) (g:Option (Nat×Bool)) (i:Nat) (c:List Nat) (v:PV):qN ⟨⟨d,(.field a n off x),true,g⟩,i,c⟩ e v=[]:=rfl
theorem zBz (d:Option Nat) (off:Nat) (x:IX) (g:Option (Nat×Bool)) (i:Nat) (c:List Nat) (v:PV):qN ⟨⟨d,(.fieldAddr off x),true,g⟩,i,c⟩ e v=[]:=rfl
theorem zBy (d:Option Nat) (sz:Nat) (x y:IX) (g:Option (Nat×Bool)) (i:Nat) (c:List Nat) (v:PV):qN ⟨⟨d,(.indexAddr sz x y),true,g⟩,i,c⟩ e v=[]:=rfl
theorem zCM (d:Option Nat) (x y:IX) (g:Option (Nat×Bool)) (i:Nat) (c:List Nat) (v:PV):qN ⟨⟨d,(.indexStr x y),true,g⟩,i,c⟩ e v=[]:=rfl
theorem zCx (d:Option Nat) (x:IX) (j:Nat) (g:Option (Nat×Bool)) (i:Nat) (c:List Nat) (v:PV):qN ⟨⟨d,(.extract x j),true,g⟩,i,c⟩ e v=[]:=rfl
theorem zGa (d:Option Nat) (x:IX) (g:Option (Nat×Bool)) (i:Nat) (c:List Nat) (v:PV):qN ⟨⟨d,(.len x),true,g⟩,i,c⟩ e v=[]:=rfl
theorem zDT (d:Option Nat) (x:IX) (g:Option (Nat×Bool)) (i:Nat) (c:List Nat) (v:PV):qN ⟨⟨d,(.lenStr x),true,g⟩,i,c⟩ e v=[]:=rfl
theorem zGb (d:Option Nat) (x:IX) (g:Option (Nat×Bool)) (i:Nat) (c:List Nat) (v:PV):qN ⟨⟨d,(.cap x),true,g⟩,i,c⟩ e v=[]:=rfl
theorem zDz (d:Option Nat) (sz:Nat) (x:IX) (lo hi mx:Option IX) (g:Option (Nat×Bool)) (i:Nat) (c:List Nat) (v:PV):qN ⟨⟨d,(.slice sz x lo hi mx),true,g⟩,i,c⟩ e v=[]:=rfl
theorem zCJ (d:Option Nat) (x:IX) (lo hi:Option IX) (g:Option (Nat×Bool)) (i:Nat) (c:List Nat) (v:PV):qN ⟨⟨d,(.sliceStr x lo hi),true,g⟩,i,c⟩ e v=[]:=rfl
theorem zDS (d:Option Nat) (mx:Bool) (x y:IX) (g:Option (Nat×Bool)) (i:Nat) (c:List Nat) (v:PV):qN ⟨⟨d,(.maxmin mx x y),true,g⟩,i,c⟩ e v=[]:=rfl
theorem zCL (d:Option Nat) (f:FuncId) (y z:List IX) (g:Option (Nat×Bool)) (i:Nat) (c:List Nat) (v:PV):qN ⟨⟨d,(.makeFunc f y z),true,g⟩,i,c⟩ e v=[]:=rfl
theorem zGZ (d:Option Nat) (j:Nat) (g:Option (Nat×Bool)) (i:Nat) (c:List Nat) (v:PV):qN ⟨⟨d,(.rev j),true,g⟩,i,c⟩ e v=[]:=rfl
theorem zFF (d:Option Nat) (j m:Nat) (g:Option (Nat×Bool)) (i:Nat) (c:List Nat) (v:PV):qN ⟨⟨d,(.revS j m),true,g⟩,i,c⟩ e v=[]:=rfl
theorem zDk:Qc none e=true:=rfl
theorem zDj (t:Nat) (b:Bool):Qc (some (t,b)) e=(match e t with | .bool c=>decide (c=b) | _=>false):=rfl
theorem zGW:q9 [] e h=some []:=rfl
theorem zGV (t:Nat) (r:List IRes):q9 (.tmp t::r) e h=(q9 r e h).map fun vs=>e t::vs:=rfl
theorem zFB (t:Nat) (a:Bool) (n:Nat) (r:List IRes):q9 (.cell t a n::r) e h=(pldv a n (e t) h).bind fun v=>(q9 r e h).map fun vs=>v::vs:=rfl
theorem zFD (res:List IRes):retP res KA .normal e h=optK (q9 res e h) fun vs=>KA (packP vs) h:=rfl
theorem zJI (res:List IRes):retP res KA .ret e h=optK (q9 res e h) fun vs=>KA (packP vs) h:=rfl
theorem zIM (v:PV):packP [v]=v:=rfl
theorem zIN:packP []=.tup []:=rfl
theorem zIL (u v:PV) (r:List PV):packP (u::v::r)=.tup (u::v::r):=rfl
theorem zIA (cs:List PV):pfill cs []=some cs:=rfl
theorem zGk (cs:List PV) (off size:Nat) (v:PV) (r:List (Nat×Nat×PV)):pfill cs ((off,size,v)::r)=if v.cells.length=size∧off+size≤cs.length∧v.cells.all PV.one=true then pfill (cs.take off++v.cells++cs.drop (off+size)) r else none:=rfl
theorem zGo (k:IntKind) (n:Int):PV.cells (.int k n)=[(.int k n)]:=rfl
theorem zJd (k:IntKind) (n:Int):PV.one (.int k n)=true:=rfl
theorem zFX (b:Bool):PV.cells (.bool b)=[(.bool b)]:=rfl
theorem zH2 (b:Bool):PV.one (.bool b)=true:=rfl
theorem zGm (s:List UInt8):PV.cells (.str s)=[(.str s)]:=rfl
theorem zJb (s:List UInt8):PV.one (.str s)=true:=rfl
theorem zFV:PV.cells .nilp=[.nilp]:=rfl
theorem zH0:PV.one .nilp=true:=rfl
theorem zFW:PV.cells .nilf=[.nilf]:=rfl
theorem zH1:PV.one .nilf=true:=rfl
theorem zIC (w:Bool) (a:AV) (n:Nat) (cs:List PV):PV.cells (.fz w a n cs)=[(.fz w a n cs)]:=rfl
theorem zLD (w:Bool) (a:AV) (n:Nat) (cs:List PV):PV.one (.fz w a n cs)=true:=rfl
theorem zID (a:AV) (cs:List PV):PV.cells (.fp a cs)=[(.fp a cs)]:=rfl
theorem zLE (a:AV) (cs:List PV):PV.one (.fp a cs)=true:=rfl
theorem zGn (s i:Nat):PV.cells (.ptr s i)=[(.ptr s i)]:=rfl
theorem zJc (s i:Nat):PV.one (.ptr s i)=true:=rfl
theorem zIB (s o n:Nat) (c:Cap):PV.cells (.sl s o n c)=[(.sl s o n c)]:=rfl
theorem zLC (s o n:Nat) (c:Cap):PV.one (.sl s o n c)=true:=rfl
theorem zGp (f:FuncId) (a b:List PV):PV.cells (.clo f a b)=[(.clo f a b)]:=rfl
theorem zJe (f:FuncId) (a b:List PV):PV.one (.clo f a b)=true:=rfl
theorem zGq (cs:List PV):PV.cells (.agg cs)=cs:=rfl
theorem zGr (k:IntKind) (i:Int) (y:Nat):ZL (.int k i) y=if 0≤i∧i≤y then some i.toNat else none:=rfl
theorem zEA (x:PV) (d y:Nat):zl (some x) d y=ZL x y:=rfl
theorem zEB (d y:Nat):zl none d y=some d:=rfl
theorem zHw (sz:Nat) (w:Bool) (a:AV) (len:Nat) (cs:List PV) (lo hi:Option PV):ZK sz (.fz w a len cs) lo hi none=(zl hi len len).bind fun h=>(zl lo 0 h).bind fun l=>some (.fz false (pslA sz a l h) (h-l) ((cs.drop (l*sz)).take ((h-l)*sz))):=rfl
theorem zHv (sz s off len g:Nat) (lo:Option PV) (hi mx:PV):ZK sz (.sl s off len (.grown g)) lo (some hi) (some mx)=(ZL mx len).bind fun m=>(ZL hi m).bind fun h=>(zl lo 0 h).bind fun l=>some (.sl s (if m=l then 0 else off+l*sz) (h-l) (.known (m-l))):=by
 simp [ZK,zl]
theorem zAu (sz s off len c:Nat) (lo hi mx:Option PV):ZK sz (.sl s off len (.known c)) lo hi mx=(zl mx c c).bind fun m=>(zl hi len m).bind fun h=>(zl lo 0 h).bind fun l=>if hi.isNone=true∧mx.isSome=true then none else some (.sl s (if m=l then off else off+l*sz) (h-l) (.known (m-l))):=rfl
theorem zD9 (sz s off len g:Nat) (lo hi:Option PV):ZK sz (.sl s off len (.grown g)) lo hi none=(zl hi len len).bind fun h=>(zl lo 0 h).bind fun l=>some (.sl s (off+l*sz) (h-l) (.grown (if g=sz then g else 0))):=rfl
theorem zDU (s:List UInt8) (lo hi:Option PV):Qu (.str s) lo hi=(zl hi s.length s.length).bind fun h=>(zl lo 0 h).bind fun l=>some (.str ((s.take h).drop l)):=rfl
theorem zLI (w:Bool) (a:AV) (n:Nat) (cs:List PV):plen (.fz w a n cs)=some n:=rfl
theorem zLH (s o n:Nat) (c:Cap):plen (.sl s o n c)=some n:=rfl
theorem zAX (sz bytes:Nat) (s x:PV):ZE sz bytes h s x=(plen x).bind fun m=>if m=0 then(psame s).map fun v=>(v,h)else(Zq sz h x m).bind fun news=>pgrow sz bytes h s news m:=rfl
theorem zFR (s o n c:Nat):psame (.sl s o n (.known c))=if n≤c then some (.sl s o n (.known c))else none:=rfl
theorem zH9 (sz:Nat) (w:Bool) (a:AV) (len:Nat) (cs:List PV) (n:Nat):Zq sz h (.fz w a len cs) n=if n=0 then some []else if n≤len∧n*sz≤cs.length∧0<sz then some (cs.take (n*sz))else none:=rfl
theorem zDE (sz s off len:Nat) (c:Cap) (n:Nat):Zq sz h (.sl s off len c) n=if n=0 then some []else if n≤len then h.rd s off (n*sz)else none:=rfl
theorem zCO (sz bytes:Nat) (w:Bool) (n:Nat) (cs news:List PV) (m:Nat):pgrow sz bytes h (.fz w .nils n cs) news m=if m*bytes≤140737488355328∧m≤4611686018427387904 then some (.sl h.next 0 m (.grown sz),h.new news)else none:=rfl
theorem zBi (sz bytes s off len c:Nat) (news:List PV) (m:Nat):pgrow sz bytes h (.sl s off len (.known c)) news m=if len+m≤c then(h.wr s (off+len*sz) news).map fun σ'=>(.sl s off (len+m) (.known c),σ')else if (len+m)*bytes≤140737488355328∧len+m≤4611686018427387904 then(h.rd s off (len*sz)).map fun old=>(.sl h.next 0 (len+m) (.grown sz),h.new (old++news))else none:=rfl
theorem zBj (sz bytes s off len g:Nat) (news:List PV) (m:Nat):pgrow sz bytes h (.sl s off len (.grown g)) news m=if (len+m)*bytes≤140737488355328∧len+m≤4611686018427387904∧g=sz then(h.obj s).bind fun cs=>if off+len*sz≤cs.length then some (.sl h.next 0 (len+m) (.grown sz),(h.kill s).new ((cs.drop off).take (len*sz)++news))else none else none:=rfl
theorem zJa (cs:List PV) (s i:Nat):(h.new cs).rd1 s i=if s=h.next then cs[i]? else h.rd1 s i:=by by_cases x:s=h.next<;>simp [PHeap.rd1,PHeap.new,x]
theorem zC0 (cs:List PV) (s i n:Nat):(h.new cs).rd s i n=if s=h.next then(if i+n≤cs.length then some ((cs.drop i).take n)else none)else h.rd s i n:=by by_cases x:s=h.next<;>simp [PHeap.rd,PHeap.new,x]
theorem Zw (cs:List PV) (s:Nat):(h.new cs).obj s=if s=h.next then some cs else h.obj s:=rfl
theorem zK8 (cs:List PV) (s i:Nat) (vs:List PV):(h.new cs).wr s i vs=if s=h.next then(if i+vs.length≤cs.length∧vs.all PV.one=true then some (h.new (cs.take i++vs++cs.drop (i+vs.length)))else none)else(h.wr s i vs).map fun h'=>h'.new cs:=by
 by_cases x:s=h.next
 ·subst x
  simp only [PHeap.wr,PHeap.new,if_true,Option.bind_some]
  split
  ·congr 1
   simp only [PHeap.set]
   congr 1
   funext y
   by_cases hy:y=h.next<;>simp [hy]
  ·rfl
 ·simp only [PHeap.wr,PHeap.new,if_neg x]
  cases ho:h.obj s with
  | none=>rfl
  | some ob=>
   simp only [Option.bind_some]
   split
   ·simp only [Option.map_some,PHeap.set]
    congr 2
    funext y
    by_cases hy:y=s
    ·subst hy;simp [x]
    ·simp [hy]
   ·rfl
theorem zH5 (cs:List PV):(h.new cs).next=h.next+1:=rfl
theorem zD7 (cs:List PV):(h.new cs).top=h.top:=rfl
theorem zJX (cs:List PV) (s:Nat) (ds:List PV):(h.new cs).set s ds=if s=h.next then h.new ds else(h.set s ds).new cs:=by
 by_cases x:s=h.next
 ·subst x
  rw [if_pos rfl];simp only [PHeap.set,PHeap.new]
  congr 1
  funext y
  by_cases hy:y=h.next<;>simp [hy]
 ·rw [if_neg x]
  simp only [PHeap.set,PHeap.new]
  congr 1
  funext y
  by_cases hy:y=s
  ·subst hy;simp [x]
  ·simp [hy]
theorem zJW (s:Nat) (cs ds:List PV):(h.set s cs).set s ds=h.set s ds:=by
 simp only [PHeap.set]
 congr 1
 funext y
 by_cases hy:y=s<;>simp [hy]
theorem zH4 (s:Nat) (cs:List PV):(h.set s cs).next=h.next:=rfl
theorem zGi (s:Nat):(h.kill s).next=h.next:=rfl
theorem zJf (t:Nat):(h.up t).next=h.next:=rfl
theorem zBP (t:Nat):(h.up t).top=t:=rfl
theorem zLG (t:Nat) (cs:List PV):(h.up t).new cs=(h.new cs).up t:=rfl
theorem zLB (t s i:Nat):(h.up t).rd1 s i=h.rd1 s i:=rfl
theorem zMI (t s i n:Nat):(h.up t).rd s i n=h.rd s i n:=rfl
theorem zLF (t s:Nat):(h.up t).obj s=h.obj s:=rfl
theorem zMH (t s i:Nat) (vs:List PV):(h.up t).wr s i vs=(h.wr s i vs).map fun h'=>h'.up t:=by
 simp only [PHeap.wr,PHeap.up];cases h.obj s with
 | none=>rfl
 | some cs=>simp only [Option.bind_some];split<;>rfl
theorem zH3 (s t:Nat):(h.kill s).obj t=if t=s then none else h.obj t:=rfl
theorem ZR (s:Nat) (cs:List PV) (t:Nat):(h.set s cs).obj t=if t=s then some cs else h.obj t:=rfl
theorem zHx (s t i:Nat):(h.kill s).rd1 t i=if t=s then none else h.rd1 t i:=by by_cases x:t=s<;>simp [PHeap.rd1,PHeap.kill,x]
theorem zJY (s t i n:Nat):(h.kill s).rd t i n=if t=s then none else h.rd t i n:=by by_cases x:t=s<;>simp [PHeap.rd,PHeap.kill,x]
theorem zJZ (s:Nat) (cs:List PV) (t i:Nat):(h.set s cs).rd1 t i=if t=s then cs[i]? else h.rd1 t i:=by by_cases x:t=s<;>simp [PHeap.rd1,PHeap.set,x]
theorem zGF (s:Nat) (cs:List PV) (t i n:Nat):(h.set s cs).rd t i n=if t=s then(if i+n≤cs.length then some ((cs.drop i).take n)else none)else h.rd t i n:=by by_cases x:t=s<;>simp [PHeap.rd,PHeap.set,x]
theorem zK7 (s:Nat) (cs:List PV) (i:Nat) (vs:List PV):(h.set s cs).wr s i vs=if i+vs.length≤cs.length∧vs.all PV.one=true then some (h.set s (cs.take i++vs++cs.drop (i+vs.length)))else none:=by
 simp only [PHeap.wr,PHeap.set,if_true,Option.bind_some]
 split
 ·congr 2
  funext y
  by_cases hy:y=s<;>simp [hy]
 ·rfl
end
def pw0:=And.intro @zKi <| And.intro @zHW <| And.intro @zKk <| And.intro @zLv <| And.intro @zKl <| And.intro @zI8 <| And.intro @zKj <| And.intro @zLw <| And.intro @zLr <| And.intro @RVp_q <| And.intro @RVp_e <| And.intro @zLt <| And.intro @DVp_q <| And.intro @DVp_e <| And.intro @zJ4 <| And.intro @zJ3 <| And.intro @zJ6 <| And.intro @zJ5 <| And.intro @zFT <| And.intro @zEI <| And.intro @zGl <| And.intro @zFU <| And.intro @zEH <| And.intro @zEF <| And.intro @zEE <| And.intro @zEG <| And.intro @pv_t <| And.intro @pv_c <| And.intro @zJg <| @zHy
def pw1:=And.intro @zHz <| And.intro @qp_mv <| And.intro @zK4 <| And.intro @zMG <| And.intro @qp_un <| And.intro @zK6 <| And.intro @zFO <| And.intro @zJT <| And.intro @zJS <| And.intro @zD6 <| And.intro @zD5 <| And.intro @zFQ <| And.intro @zGe <| And.intro @zME <| And.intro @zHs <| And.intro @zMF <| And.intro @zJR <| And.intro @zFN <| And.intro @zHr <| And.intro @zFP <| And.intro @zK5 <| And.intro @zMD <| And.intro @zK3 <| And.intro @zKG <| And.intro @zMR <| And.intro @zHA <| And.intro @zKE <| And.intro @zGx <| And.intro @zIl <| And.intro @zFx <| @zFh
def pw2:=And.intro @zIO <| And.intro @zIm <| And.intro @zLe <| And.intro @zLf <| And.intro @zKF <| And.intro @zG1 <| And.intro @zJy <| And.intro @of_bool <| And.intro @of_int <| And.intro @zML <| And.intro @zLR <| And.intro @zLS <| And.intro @zLQ <| And.intro @zMM <| And.intro @zMN <| And.intro @zLP <| And.intro @zJx <| And.intro @zLO <| And.intro @zJu <| And.intro @zJk <| And.intro @zJo <| And.intro @zJt <| And.intro @zJn <| And.intro @zJp <| And.intro @zJq <| And.intro @zJr <| And.intro @zJs <| And.intro @zJm <| And.intro @zJl <| @zGv
def pw3:=And.intro @zIH <| And.intro @zGw <| And.intro @zIG <| And.intro @zIF <| And.intro @zGu <| And.intro @zFc <| And.intro @zGt <| And.intro @zFb <| And.intro @zFa <| And.intro @zFZ <| And.intro @zFY <| And.intro @zFq <| And.intro @zIg <| And.intro @zLA <| And.intro @zK9 <| And.intro @zGy <| And.intro @zFd <| And.intro @zIR <| And.intro @zJv <| And.intro @zJw <| And.intro @zLK <| And.intro @zG0 <| And.intro @zGz <| And.intro @zC1 <| And.intro @zDX <| And.intro @zIP <| And.intro @zIQ <| And.intro @zFg <| And.intro @zEN <| @zLM
def pw4:=And.intro @zLL <| And.intro @zFf <| And.intro @zIS <| And.intro @zLN <| And.intro @zFe <| And.intro @zH8 <| And.intro @zH7 <| And.intro @zJi <| And.intro @zJh <| And.intro @zH6 <| And.intro @zGj <| And.intro @zHV <| And.intro @zF6 <| And.intro @zF7 <| And.intro @zFH <| And.intro @zHn <| And.intro @zFG <| And.intro @zGc <| And.intro @zHl <| And.intro @zFI <| And.intro @zCK <| And.intro @zD1 <| And.intro @zD0 <| And.intro @zBz <| And.intro @zBy <| And.intro @zCM <| And.intro @zCx <| And.intro @zGa <| And.intro @zDT <| @zGb
def pw5:=And.intro @zDz <| And.intro @zCJ <| And.intro @zDS <| And.intro @zCL <| And.intro @zGZ <| And.intro @zFF <| And.intro @zDk <| And.intro @zDj <| And.intro @zGW <| And.intro @zGV <| And.intro @zFB <| And.intro @zFD <| And.intro @zJI <| And.intro @zIM <| And.intro @zIN <| And.intro @zIL <| And.intro @zIA <| And.intro @zGk <| And.intro @zGo <| And.intro @zJd <| And.intro @zFX <| And.intro @zH2 <| And.intro @zGm <| And.intro @zJb <| And.intro @zFV <| And.intro @zH0 <| And.intro @zFW <| And.intro @zH1 <| And.intro @zIC <| And.intro @zLD <| @zID
def pw6:=And.intro @zLE <| And.intro @zGn <| And.intro @zJc <| And.intro @zIB <| And.intro @zLC <| And.intro @zGp <| And.intro @zJe <| And.intro @zGq <| And.intro @zGr <| And.intro @zEA <| And.intro @zEB <| And.intro @zHw <| And.intro @zAu <| And.intro @zD9 <| And.intro @zDU <| And.intro @zLI <| And.intro @zLH <| And.intro @zJa <| And.intro @zC0 <| And.intro @Zw <| And.intro @zK8 <| And.intro @zH5 <| And.intro @zD7 <| And.intro @zJX <| And.intro @zJW <| And.intro @zH4 <| And.intro @zGi <| And.intro @zJf <| And.intro @zBP <| @zLG
def pw7:=And.intro @zLB <| And.intro @zMI <| And.intro @zLF <| And.intro @zMH <| And.intro @zH3 <| And.intro @ZR <| And.intro @zHx <| And.intro @zJY <| And.intro @zJZ <| And.intro @zGF <| And.intro @zK7 <| And.intro @zI <| And.intro @zJ <| And.intro @zU <| And.intro @zk <| And.intro @List.map_cons.{0,0} <| And.intro @List.map_nil.{0,0} <| And.intro @List.length_cons.{0} <| And.intro @List.length_nil.{0} <| And.intro @List.getElem?_cons_zero.{0} <| And.intro @List.getElem?_cons_succ.{0} <| And.intro @List.take_succ_cons.{0} <| And.intro @List.take_zero.{0} <| And.intro @List.drop_succ_cons.{0} <| And.intro @List.drop_zero.{0} <| And.intro @List.take_nil.{0} <| And.intro @List.drop_nil.{0} <| And.intro @List.nil_append.{0} <| And.intro @List.cons_append.{0} <| @List.append_nil.{0}
def pw8:=And.intro @List.all_cons.{0} <| And.intro @List.all_nil.{0} <| And.intro @List.contains_cons.{0} <| And.intro @List.contains_nil.{0} <| And.intro @Option.map_some.{0,0} <| And.intro @Option.map_none.{0,0} <| And.intro @Option.bind_some.{0,0} <| And.intro @Option.bind_none.{0,0} <| And.intro @decide_true <| And.intro @decide_false <| And.intro @Bool.not_true <| And.intro @Bool.not_false <| And.intro @Bool.and_true <| And.intro @Bool.true_and <| And.intro @Bool.and_self <| And.intro @Bool.or_false <| And.intro @Bool.or_true <| And.intro @Bool.true_or <| And.intro @Bool.false_or <| And.intro @true_and <| And.intro @and_true <| And.intro @Bool.true_eq_false <| And.intro @Bool.false_eq_true <| And.intro @Nat.left_eq_add <| And.intro @Nat.add_eq_left <| And.intro @Nat.succ_ne_self <| And.intro @Nat.one_ne_zero <| And.intro @Nat.add_left_cancel_iff <| And.intro @Nat.add_assoc <| @Nat.mul_one
def pw9:=And.intro @Nat.zero_add <| And.intro @Nat.add_zero <| And.intro @Nat.le_refl <| And.intro @Nat.lt_add_one <| And.intro @Int.toNat_natCast <| And.intro @Int.natCast_nonneg <| And.intro @Int.ofNat_lt <| And.intro @Int.le_refl <| And.intro @zK <| And.intro @zL <| And.intro @zF <| And.intro @Nat.one_mul <| @Nat.zero_mul
def pwA:=And.intro pw0 <| And.intro pw1 <| And.intro pw2 <| And.intro pw3 <| And.intro pw4 <| And.intro pw5 <| And.intro pw6 <| And.intro pw7 <| And.intro pw8 <| And.intro pw9 <| And.intro @nm_eq <| And.intro @eq_self.{1} <| And.intro @Int.ofNat_le @List.getElem?_drop.{0}
end Go.Ab
