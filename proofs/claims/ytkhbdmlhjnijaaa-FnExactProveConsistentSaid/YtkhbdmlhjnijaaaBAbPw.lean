/- THE RULES BY WHICH CODE IS WALKED over values without a heap: equations, and the one name 'pw' for all of them. Written by a program. -/
import Derived.Test.YtkhbdmlhjnijaaaBAbPg
import Derived.Test.YtkhbdmlhjnijaaaBAbAid
set_option linter.unusedVariables false
set_option linter.unusedSimpArgs false
set_option linter.defProp false
namespace Go.Ab
section
variable {P:Program} {Q:Exit→PEnv→PHeap→Prop} {e:PEnv} {h:PHeap} {K:PEnv→PHeap→Prop} {KA:PV→PHeap→Prop} {nb nr:Nat}
theorem zKB:vp P .skip Q e h=Q .normal e h:=rfl
theorem zHC (S:List Nat) (its:List II):vp P (.region S its) Q e h=RVp P its e h fun e' h'=>Q .normal (PEnv.mk S (S.map e')) h':=rfl
theorem zDR (S:List Nat) (t:OT):vp P (.tree S t) Q e h=TVp P t e h fun e' h'=>Q .normal (PEnv.mk S (S.map e')) h':=rfl
theorem zCf:TVp P .done e h K=K e h:=rfl
theorem zCe:TVp P .none e h K=True:=rfl
theorem TVp_q (d:Option Nat) (op:IOp) (g:Option (Nat×Bool)) (nx alt:OT):TVp P (.step ⟨d,op,true,g⟩ nx alt) e h K=((optK (gqp 0 0 ⟨d,op,true,g⟩ e h) fun v=>TVp P nx (e.put d v) h K)∧TVp P alt e h K):=rfl
theorem TVp_e (d:Option Nat) (op:IOp) (g:Option (Nat×Bool)) (nx alt:OT):TVp P (.step ⟨d,op,false,g⟩ nx alt) e h K=((gep P ⟨d,op,false,g⟩ e h fun v h'=>TVp P nx (e.put d v) h' K)∧TVp P alt e h K):=rfl
theorem zKD (S:List Nat) (zs:List (List AV)) (its:List DI):vp P (.draw S zs its) Q e h=DVp P h.next zs.length its [] e (h.news zs) fun e' h'=>Q .normal (PEnv.mk S (S.map e')) h':=rfl
theorem zLQ (a b:IC):vp P (.seq a b) Q e h=vp P a (fun x e' h'=>match x with | .normal=>vp P b Q e' h' | x=>Q x e' h') e h:=rfl
theorem zKE (c:IX) (a b:IC):vp P (.cond c a b) Q e h=ZJ (c.pv e) (vp P a Q e h) (vp P b Q e h):=rfl
theorem zId (id:Nat) (c:IC):vp P (.block id c) Q e h=vp P c (fun x e' h'=>match x with | .exit id'=>if id'=id then Q .normal e' h' else Q (.exit id') e' h' | x=>Q x e' h') e h:=rfl
theorem zKC (id:Nat):vp P (.exit id) Q e h=Q (.exit id) e h:=rfl
theorem zLR:vp P .ret Q e h=Q .ret e h:=rfl
theorem zLI:RVp P [] e h K=K e h:=rfl
theorem RVp_q (d:Option Nat) (op:IOp) (g:Option (Nat×Bool)) (r:List II):RVp P (⟨d,op,true,g⟩::r) e h K=optK (gqp 0 0 ⟨d,op,true,g⟩ e h) fun v=>RVp P r (e.put d v) h K:=rfl
theorem RVp_e (d:Option Nat) (op:IOp) (g:Option (Nat×Bool)) (r:List II):RVp P (⟨d,op,false,g⟩::r) e h K=gep P ⟨d,op,false,g⟩ e h fun v h'=>RVp P r (e.put d v) h' K:=rfl
theorem zLL (recs:List RecP):DVp P nb nr [] recs e h K=K e h:=rfl
theorem DVp_q (d:Option Nat) (op:IOp) (g:Option (Nat×Bool)) (i:Nat) (c:List Nat) (r:List DI) (recs:List RecP):DVp P nb nr (⟨⟨d,op,true,g⟩,i,c⟩::r) recs e h K=optK (gqp nb nr ⟨d,op,true,g⟩ e h) fun v=>DVp P nb nr r (qR ⟨⟨d,op,true,g⟩,i,c⟩ e v++recs) (e.put d v) h K:=rfl
theorem DVp_e (d:Option Nat) (op:IOp) (g:Option (Nat×Bool)) (i:Nat) (c:List Nat) (r:List DI) (recs:List RecP):DVp P nb nr (⟨⟨d,op,false,g⟩,i,c⟩::r) recs e h K=gep P ⟨d,op,false,g⟩ e h fun v h'=>QH c recs h'∧DVp P nb nr r recs (e.put d v) h' K:=rfl
theorem zJb (d:Option Nat) (op:IOp) (q:Bool):gqp nb nr ⟨d,op,q,none⟩ e h=qp nb nr op e h:=rfl
theorem zJa (d:Option Nat) (op:IOp) (q:Bool) (t:Nat) (b:Bool):gqp nb nr ⟨d,op,q,some (t,b)⟩ e h=Zz (e t) b (qp nb nr op e h):=rfl
theorem zJd (d:Option Nat) (op:IOp) (q:Bool):gep P ⟨d,op,q,none⟩ e h KA=ep P op e h KA:=rfl
theorem zJc (d:Option Nat) (op:IOp) (q:Bool) (t:Nat) (b:Bool):gep P ⟨d,op,q,some (t,b)⟩ e h KA=ZB (e t) b (ep P op e h KA) (KA (.tup []) h):=rfl
theorem zFQ (a b:Prop):ZJ (.bool true) a b=a:=rfl
theorem zEU (a b:Prop):ZJ (.bool false) a b=b:=rfl
theorem zGW (c:Prop) [Decidable c] (a b:Prop):ZJ (.bool (decide c)) a b=if c then a else b:=by by_cases x:c<;>simp [ZJ,x]
theorem zFR (c:Prop) [Decidable c] (a b:Prop):ZJ (.bool (!decide c)) a b=if c then b else a:=by by_cases x:c<;>simp [ZJ,x]
theorem zET (c b:Bool) (x y:Prop):ZB (.bool c) b x y=if c=b then x else y:=rfl
theorem zER (c b:Bool) (x:Option PV):Zz (.bool c) b x=if c=b then x else some (.tup []):=rfl
theorem zEQ (b:Bool) (x:Option PV):Zz (.tup []) b x=some (.tup []):=rfl
theorem zES (b:Bool) (x y:Prop):ZB (.tup []) b x y=y:=rfl
theorem pv_t (n:Nat):(IX.t n).pv e=e n:=rfl
theorem pv_c (v:AV):(IX.c v).pv e=ofAV v:=rfl
theorem zJA (s:Nat) (S:List Nat) (v:PV) (vs:List PV) (t:Nat):PEnv.mk (s::S) (v::vs) t=if t=s then v else PEnv.mk S vs t:=rfl
theorem zHW (d:Nat) (v:PV) (t:Nat):e.put (some d) v t=if t=d then v else e t:=rfl
theorem zHX (v:PV):e.put none v=e:=rfl
theorem qp_mv (x:IX):qp nb nr (.mv x) e h=some (x.pv e):=rfl
theorem zKW (c a b:IX):qp nb nr (.pick c a b) e h=pPick (c.pv e) (a.pv e) (b.pv e):=rfl
theorem zLj (op:BinOp) (ek:EqK) (x y:IX):qp nb nr (.bin op ek x y) e h=pbin op ek (x.pv e) (y.pv e):=rfl
theorem qp_un (op:UnOp) (x:IX):qp nb nr (.un op x) e h=pun op (x.pv e):=rfl
theorem zKY (k:IntKind) (x:IX):qp nb nr (.conv k x) e h=pConv k (x.pv e):=rfl
theorem zFK (x:IX):qp nb nr (.nilCheck x) e h=pNil (x.pv e):=rfl
theorem zIv (z:List AV) (ps:List (Nat×Nat×IX)):qp nb nr (.build z ps) e h=(pfill (ofAVs z) (ps.map fun p=>(p.1,p.2.1,p.2.2.pv e))).map .agg:=rfl
theorem zIu (a:Bool) (n off:Nat) (x:IX):qp nb nr (.field a n off x) e h=zBM a n off (x.pv e):=rfl
theorem zEK (off:Nat) (x:IX):qp nb nr (.fieldAddr off x) e h=Z9 off (x.pv e):=rfl
theorem zEJ (sz:Nat) (x i:IX):qp nb nr (.indexAddr sz x i) e h=zAU sz (x.pv e) (i.pv e):=rfl
theorem zFM (x i:IX):qp nb nr (.indexStr x i) e h=zBl (x.pv e) (i.pv e):=rfl
theorem zGP (x:IX) (i:Nat):qp nb nr (.extract x i) e h=zAp (x.pv e) i:=rfl
theorem zLh (x:IX):qp nb nr (.len x) e h=pLen (x.pv e):=rfl
theorem zHR (x:IX):qp nb nr (.lenStr x) e h=zBk (x.pv e):=rfl
theorem zLi (x:IX):qp nb nr (.cap x) e h=pCap (x.pv e):=rfl
theorem zIt (sz:Nat) (x:IX) (lo hi mx:Option IX):qp nb nr (.slice sz x lo hi mx) e h=QR sz (x.pv e) (lo.map (·.pv e)) (hi.map (·.pv e)) (mx.map (·.pv e)):=rfl
theorem zFJ (x:IX) (lo hi:Option IX):qp nb nr (.sliceStr x lo hi) e h=zAC (x.pv e) (lo.map (·.pv e)) (hi.map (·.pv e)):=rfl
theorem zHQ (mx:Bool) (x y:IX):qp nb nr (.maxmin mx x y) e h=zAT mx (x.pv e) (y.pv e):=rfl
theorem zFL (f:FuncId) (a b:List IX):qp nb nr (.makeFunc f a b) e h=some (.clo f (a.map (·.pv e)) (b.map (·.pv e))):=rfl
theorem zKX (a:Bool) (n:Nat) (x:IX):qp nb nr (.load a n x) e h=pldv a n (x.pv e) h:=rfl
theorem zLg (k:Nat):qp nb nr (.rev k) e h=if k<nr then some (.ptr (nb+k) 0)else none:=rfl
theorem zKV (k n:Nat):qp nb nr (.revS k n) e h=if k<nr then some (.sl (nb+k) 0 n (.known n))else none:=rfl
theorem zJm (z:List AV):ep P (.alloc z) e h KA=KA (.ptr h.next 0) (h.new (ofAVs z)):=rfl
theorem zLs (x:IX):ep P (.box x) e h KA=((x.pv e).cells.all PV.one=true∧KA (.ptr h.next 0) (h.new (x.pv e).cells)):=rfl
theorem zGr (sz len:Nat) (z:List AV) (ps:List (Nat×Nat×IX)):ep P (.buildSl sz len z ps) e h KA=optK (pfill (ofAVs (zeros z len)) (ps.map fun p=>(p.1,p.2.1,p.2.2.pv e))) fun cs=>KA (.sl h.next 0 len (.known len)) (h.new cs):=rfl
def zCw (n:Nat) (x v:PV) (h:PHeap) (KA:PV→PHeap→Prop):Prop:=
 match x with
 | .ptr s i=>v.cells.length=n∧optK (h.wr s i v.cells) fun h'=>KA .undef h'
 | _=>False
def pMake (sz bytes:Nat) (z:List AV) (l c:PV) (h:PHeap) (KA:PV→PHeap→Prop):Prop:=
 match l,c with
 | .int _ l,.int _ c=>(0≤l∧l≤c∧c*bytes≤140737488355328∧c≤9223372036854775807)∧KA (.sl h.next 0 l.toNat (.known c.toNat)) (h.new (ofAVs (zeros z c.toNat)))
 | _,_=>False
def zCy (sz bytes:Nat) (z:List AV) (s n:PV) (h:PHeap) (KA:PV→PHeap→Prop):Prop:=
 match s,n with
 | .fz _ .nils _ _,.int _ n=>(0≤n∧n*bytes≤140737488355328∧n≤4611686018427387904)∧if 0<n then KA (.sl h.next 0 n.toNat (.grown sz)) (h.new (ofAVs (zeros z n.toNat)))else KA (.fz true .nils 0 []) h
 | .sl s off len c,.int _ n=>(0≤n∧n*bytes≤140737488355328∧n≤4611686018427387904)∧optK (if 0<n then pgrow sz bytes h (.sl s off len c) (ofAVs (zeros z n.toNat)) n.toNat else(psame (.sl s off len c)).map fun v=>(v,h)) fun p=>KA p.1 p.2
 | _,_=>False
def zCx (P:Program) (f:PV) (args:List PV) (h:PHeap) (KA:PV→PHeap→Prop):Prop:=
 match f with
 | .clo f first caps=>okF P f=true∧zA P f (first++args++caps) h KA
 | _=>False
theorem zJk (n:Nat) (x v:IX):ep P (.store n x v) e h KA=zCw n (x.pv e) (v.pv e) h KA:=rfl
theorem zGh (n s i:Nat) (v:PV):zCw n (.ptr s i) v h KA=(v.cells.length=n∧optK (h.wr s i v.cells) fun h'=>KA .undef h'):=rfl
theorem zIK (sz bytes:Nat) (z:List AV) (l c:IX):ep P (.makeSl sz bytes z l c) e h KA=pMake sz bytes z (l.pv e) (c.pv e) h KA:=rfl
theorem zFu (sz bytes:Nat) (z:List AV) (s n:IX):ep P (.appendMk sz bytes z s n) e h KA=zCy sz bytes z (s.pv e) (n.pv e) h KA:=rfl
theorem zFf (sz bytes:Nat) (z:List AV) (w:Bool) (l:Nat) (cs:List PV) (k:IntKind) (n:Int):zCy sz bytes z (.fz w .nils l cs) (.int k n) h KA=((0≤n∧n*bytes≤140737488355328∧n≤4611686018427387904)∧if 0<n then KA (.sl h.next 0 n.toNat (.grown sz)) (h.new (ofAVs (zeros z n.toNat)))else KA (.fz true .nils 0 []) h):=rfl
theorem zHx (sz bytes:Nat) (z:List AV) (k k':IntKind) (l c:Int):pMake sz bytes z (.int k l) (.int k' c) h KA=((0≤l∧l≤c∧c*bytes≤140737488355328∧c≤9223372036854775807)∧KA (.sl h.next 0 l.toNat (.known c.toNat)) (h.new (ofAVs (zeros z c.toNat)))):=rfl
theorem zIL (sz bytes:Nat) (s x:IX):ep P (.append sz bytes s x) e h KA=optK (qm sz bytes h (s.pv e) (x.pv e)) fun p=>KA p.1 p.2:=rfl
theorem zK7 (sz:Nat) (d s:IX):ep P (.copy sz d s) e h KA=optK (pcopy sz h (d.pv e) (s.pv e)) fun p=>KA p.1 p.2:=rfl
theorem zK8 (f:FuncId) (args:List IX):ep P (.call f args) e h KA=zA P f (args.map (·.pv e)) h KA:=rfl
theorem zJl (f:IX) (args:List IX):ep P (.callV f args) e h KA=zCx P (f.pv e) (args.map (·.pv e)) h KA:=rfl
theorem zGl (f:FuncId) (a b args:List PV):zCx P (.clo f a b) args h KA=(okF P f=true∧zA P f (a++args++b) h KA):=rfl
theorem zJU:ofAV .undef=.undef:=rfl
theorem of_bool (b:Bool):ofAV (.bool b)=.bool b:=rfl
theorem of_int (k:IntKind) (n:Int):ofAV (.int k n)=.int k n:=rfl
theorem zLn (s:List UInt8):ofAV (.str s)=.str s:=rfl
theorem zKu:ofAV .nilp=.nilp:=rfl
theorem zKv:ofAV .nilf=.nilf:=rfl
theorem zKt:ofAV .nils=.fz true .nils 0 []:=rfl
theorem zLo (f:FuncId) (a b:List AV):ofAV (.clo f a b)=.clo f (ofAVs a) (ofAVs b):=rfl
theorem zLp (a:List AV):ofAV (.agg a)=.agg (ofAVs a):=rfl
theorem zKs:ofAVs []=[]:=rfl
theorem zJT (c:AV) (cs:List AV):ofAVs (c::cs)=ofAV c::ofAVs cs:=rfl
theorem zKr (n:Nat) (c:AV):ofAVs (List.replicate n c)=List.replicate n (ofAV c):=by rw [zDh,List.map_replicate]
theorem zJQ (k:IntKind) (ek:EqK) (a b:Int):pbin .add ek (.int k a) (.int k b)=some (.int k (k.wrap (a+b))):=by simp [pbin,abin,aint,ofAV]
theorem zJG (k:IntKind) (ek:EqK) (a b:Int):pbin .sub ek (.int k a) (.int k b)=some (.int k (k.wrap (a-b))):=by simp [pbin,abin,aint,ofAV]
theorem zJK (k:IntKind) (ek:EqK) (a b:Int):pbin .mul ek (.int k a) (.int k b)=some (.int k (k.wrap (a*b))):=by simp [pbin,abin,aint,ofAV]
theorem zJP (k:IntKind) (ek:EqK) (a b:Int):pbin .eql ek (.int k a) (.int k b)=some (.bool (decide (a=b))):=by simp [pbin,abin,aint,ofAV]
theorem zJJ (k:IntKind) (ek:EqK) (a b:Int):pbin .neq ek (.int k a) (.int k b)=some (.bool (!decide (a=b))):=by simp [pbin,abin,aint,ofAV]
theorem zJL (k:IntKind) (ek:EqK) (a b:Int):pbin .lss ek (.int k a) (.int k b)=some (.bool (decide (a<b))):=by simp [pbin,abin,aint,ofAV]
theorem zJM (k:IntKind) (ek:EqK) (a b:Int):pbin .leq ek (.int k a) (.int k b)=some (.bool (decide (a≤b))):=by simp [pbin,abin,aint,ofAV]
theorem zJN (k:IntKind) (ek:EqK) (a b:Int):pbin .gtr ek (.int k a) (.int k b)=some (.bool (decide (b<a))):=by simp [pbin,abin,aint,ofAV]
theorem zJO (k:IntKind) (ek:EqK) (a b:Int):pbin .geq ek (.int k a) (.int k b)=some (.bool (decide (b≤a))):=by simp [pbin,abin,aint,ofAV]
theorem zJI (k:IntKind) (ek:EqK) (a b:Int):pbin .quo ek (.int k a) (.int k b)=if b=0 then none else some (.int k (k.wrap (a.tdiv b))):=by simp only [pbin,abin,aint,if_true];split<;>rfl
theorem zJH (k:IntKind) (ek:EqK) (a b:Int):pbin .rem ek (.int k a) (.int k b)=if b=0 then none else some (.int k (a.tmod b)):=by simp only [pbin,abin,aint,if_true];split<;>rfl
theorem zGf (n:Nat) (xs ys:List PV):pbin .eql (.ints n) (.agg xs) (.agg ys)=if xs.length=n∧ys.length=n then(paggB xs ys).bind fun r=>some (.bool r)else none:=rfl
theorem zHq:paggB [] []=some true:=rfl
theorem zGg (k:IntKind) (a b:Int) (xs ys:List PV):paggB (.int k a::xs) (.int k b::ys)=(paggB xs ys).map fun r=>decide (a=b) && r:=by simp [paggB]
theorem zHp (a b:Bool):pbin .eql .bool (.bool a) (.bool b)=some (.bool (a == b)):=rfl
theorem zHo (a b:Bool):pbin .neq .bool (.bool a) (.bool b)=some (.bool !(a == b)):=rfl
theorem zGe (w w':Bool) (a:AV) (n n':Nat) (cs cs':List PV):pbin .eql .slice (.fz w a n cs) (.fz w' .nils n' cs')=some (.bool (ZK a)):=rfl
theorem zFZ (w w':Bool) (a:AV) (n n':Nat) (cs cs':List PV):pbin .neq .slice (.fz w a n cs) (.fz w' .nils n' cs')=some (.bool (!ZK a)):=rfl
theorem zGd (s o n:Nat) (c:Cap) (w':Bool) (n':Nat) (cs':List PV):pbin .eql .slice (.sl s o n c) (.fz w' .nils n' cs')=some (.bool false):=rfl
theorem zFY (s o n:Nat) (c:Cap) (w':Bool) (n':Nat) (cs':List PV):pbin .neq .slice (.sl s o n c) (.fz w' .nils n' cs')=some (.bool true):=rfl
theorem zFX (ek:EqK) (a b:List UInt8):pbin .add ek (.str a) (.str b)=if a.length+b.length≤9223372036854775807 then some (.str (a++b))else none:=by simp only [pbin,astr];split<;>rfl
theorem zFW (ek:EqK) (a b:List UInt8):pbin .eql ek (.str a) (.str b)=some (.bool (a == b)):=rfl
theorem zFV (ek:EqK) (a b:List UInt8):pbin .neq ek (.str a) (.str b)=some (.bool !(a == b)):=rfl
theorem zFn:ZK .nils=true:=rfl
theorem zIB (o f n:Nat) (c:Cap):ZK (.sl o f n c)=false:=rfl
theorem zKc (k:IntKind) (n:Int):pun .neg (.int k n)=some (.int k (k.wrap (0-n))):=rfl
theorem zKb (b:Bool):pun .not (.bool b)=some (.bool !b):=rfl
theorem zGi (a b:PV):pPick (.bool true) a b=some a:=rfl
theorem zFb (a b:PV):pPick (.bool false) a b=some b:=rfl
theorem zH0 (k k':IntKind) (n:Int):pConv k (.int k' n)=some (.int k (k.wrap n)):=rfl
theorem zJR (s i:Nat):pNil (.ptr s i)=some (.ptr s i):=rfl
theorem zJS (f:FuncId) (a b:List PV):pNil (.clo f a b)=some (.clo f a b):=rfl
theorem zKn (a:AV) (c:PV) (cs:List PV):pNil (.fp a (c::cs))=some (.fp a (c::cs)):=rfl
theorem zGk (n off:Nat) (cs:List PV):zBM true n off (.agg cs)=some (.agg ((cs.drop off).take n)):=rfl
theorem zGj (n off:Nat) (cs:List PV):zBM false n off (.agg cs)=cs[off]?:=rfl
theorem zDZ (off s i:Nat):Z9 off (.ptr s i)=some (.ptr s (i+off)):=rfl
theorem zDu (off:Nat) (a:AV) (c:PV) (cs:List PV):Z9 off (.fp a (c::cs))=some (.fp (pAdd a off) ((c::cs).drop off)):=rfl
theorem zHy (sz s off len:Nat) (c:Cap) (k:IntKind) (n:Int):zAU sz (.sl s off len c) (.int k n)=if 0≤n∧n<len then some (.ptr s (off+n.toNat*sz))else none:=rfl
theorem zHz (sz:Nat) (w:Bool) (a:AV) (len:Nat) (cs:List PV) (k:IntKind) (n:Int):zAU sz (.fz w a len cs) (.int k n)=if 0≤n∧n<len then some (.fp (pAt a (n.toNat*sz)) (cs.drop (n.toNat*sz)))else none:=rfl
theorem zFe (s:List UInt8) (k:IntKind) (n:Int):zBl (.str s) (.int k n)=if 0≤n then(s[n.toNat]?).map fun c=>.int .u8 c.toNat else none:=rfl
theorem zEX (vs:List PV) (i:Nat):zAp (.tup vs) i=vs[i]?:=rfl
theorem zKp (w:Bool) (a:AV) (n:Nat) (cs:List PV):pLen (.fz w a n cs)=some (.int .i64 n):=rfl
theorem zKo (s o n:Nat) (c:Cap):pLen (.sl s o n c)=some (.int .i64 n):=rfl
theorem zFd (s:List UInt8):zBk (.str s)=some (.int .i64 s.length):=rfl
theorem zH1 (w:Bool) (l:Nat) (cs:List PV):pCap (.fz w .nils l cs)=some (.int .i64 0):=rfl
theorem zKq (s o n c:Nat):pCap (.sl s o n (.known c))=some (.int .i64 c):=rfl
theorem zFc (mx:Bool) (k:IntKind) (a b:Int):zAT mx (.int k a) (.int k b)=some (.int k (if mx=true then max a b else min a b)):=by simp [zAT]
theorem zHg (n s i:Nat):pldv false n (.ptr s i) h=h.rd1 s i:=rfl
theorem zHf (n s i:Nat):pldv true n (.ptr s i) h=(h.rd s i n).map .agg:=rfl
theorem zJC (n:Nat) (a:AV) (cs:List PV):pldv false n (.fp a cs) h=cs[0]?:=rfl
theorem zJB (n:Nat) (a:AV) (cs:List PV):pldv true n (.fp a cs) h=if 0<n∧n≤cs.length then some (.agg (cs.take n))else none:=rfl
theorem zHe:h.news []=h:=rfl
theorem zGU (z:List AV) (zs:List (List AV)):h.news (z::zs)=(h.new (ofAVs z)).news zs:=rfl
theorem zHB (recs:List RecP):QH [] recs h=True:=by
 apply propext;refine⟨fun _=>trivial,fun _=>?_⟩
 induction recs with
 | nil=>trivial
 | cons r rs ih=>exact⟨by simp,ih⟩
theorem zF1 (c:List Nat):QH c [] h=True:=rfl
theorem zF2 (c:List Nat) (i:Nat) (a:Bool) (n:Nat) (x v:PV) (rs:List RecP):QH c (⟨i,a,n,x,v⟩::rs) h=((if c.contains i=true then pldv a n x h=some v else True)∧QH c rs h):=rfl
theorem zFD (d:Option Nat) (a:Bool) (n:Nat) (x:IX) (g:Option (Nat×Bool)) (i:Nat) (c:List Nat) (v:PV):qR ⟨⟨d,.load a n x,true,g⟩,i,c⟩ e v=if Qq g e=true then [⟨i,a,n,x.pv e,v⟩]else []:=rfl
theorem zHM (d:Option Nat) (x:IX) (g:Option (Nat×Bool)) (i:Nat) (c:List Nat) (v:PV):qR ⟨⟨d,(.mv x),true,g⟩,i,c⟩ e v=[]:=rfl
theorem zFC (d:Option Nat) (x y z:IX) (g:Option (Nat×Bool)) (i:Nat) (c:List Nat) (v:PV):qR ⟨⟨d,(.pick x y z),true,g⟩,i,c⟩ e v=[]:=rfl
theorem zGN (d:Option Nat) (op:BinOp) (ek:EqK) (x y:IX) (g:Option (Nat×Bool)) (i:Nat) (c:List Nat) (v:PV):qR ⟨⟨d,(.bin op ek x y),true,g⟩,i,c⟩ e v=[]:=rfl
theorem zHK (d:Option Nat) (op:UnOp) (x:IX) (g:Option (Nat×Bool)) (i:Nat) (c:List Nat) (v:PV):qR ⟨⟨d,(.un op x),true,g⟩,i,c⟩ e v=[]:=rfl
theorem zFE (d:Option Nat) (k:IntKind) (x:IX) (g:Option (Nat×Bool)) (i:Nat) (c:List Nat) (v:PV):qR ⟨⟨d,(.conv k x),true,g⟩,i,c⟩ e v=[]:=rfl
theorem zCp (d:Option Nat) (x:IX) (g:Option (Nat×Bool)) (i:Nat) (c:List Nat) (v:PV):qR ⟨⟨d,(.nilCheck x),true,g⟩,i,c⟩ e v=[]:=rfl
theorem zEF (d:Option Nat) (z:List AV) (ps:List (Nat×Nat×IX)) (g:Option (Nat×Bool)) (i:Nat) (c:List Nat) (v:PV):qR ⟨⟨d,(.build z ps),true,g⟩,i,c⟩ e v=[]:=rfl
theorem zEE (d:Option Nat) (a:Bool) (n off:Nat) (x:IX) (g:Option (Nat×Bool)) (i:Nat) (c:List Nat) (v:PV):qR ⟨⟨d,(.field a n off x),true,g⟩,i,c⟩ e v=[]:=rfl
theorem zCO (d:Option Nat) (off:Nat) (x:IX) (g:Option (Nat×Bool)) (i:Nat) (c:List Nat) (v:PV):qR ⟨⟨d,(.fieldAddr off x),true,g⟩,i,c⟩ e v=[]:=rfl
theorem zCN (d:Option Nat) (sz:Nat) (x y:IX) (g:Option (Nat×Bool)) (i:Nat) (c:List Nat) (v:PV):qR ⟨⟨d,(.indexAddr sz x y),true,g⟩,i,c⟩ e v=[]:=rfl
theorem zCr (d:Option Nat) (x y:IX) (g:Option (Nat×Bool)) (i:Nat) (c:List Nat) (v:PV):qR ⟨⟨d,(.indexStr x y),true,g⟩,i,c⟩ e v=[]:=rfl
theorem zDW (d:Option Nat) (x:IX) (j:Nat) (g:Option (Nat×Bool)) (i:Nat) (c:List Nat) (v:PV):qR ⟨⟨d,(.extract x j),true,g⟩,i,c⟩ e v=[]:=rfl
theorem zGL (d:Option Nat) (x:IX) (g:Option (Nat×Bool)) (i:Nat) (c:List Nat) (v:PV):qR ⟨⟨d,(.len x),true,g⟩,i,c⟩ e v=[]:=rfl
theorem zDq (d:Option Nat) (x:IX) (g:Option (Nat×Bool)) (i:Nat) (c:List Nat) (v:PV):qR ⟨⟨d,(.lenStr x),true,g⟩,i,c⟩ e v=[]:=rfl
theorem zGM (d:Option Nat) (x:IX) (g:Option (Nat×Bool)) (i:Nat) (c:List Nat) (v:PV):qR ⟨⟨d,(.cap x),true,g⟩,i,c⟩ e v=[]:=rfl
theorem zED (d:Option Nat) (sz:Nat) (x:IX) (lo hi mx:Option IX) (g:Option (Nat×Bool)) (i:Nat) (c:List Nat) (v:PV):qR ⟨⟨d,(.slice sz x lo hi mx),true,g⟩,i,c⟩ e v=[]:=rfl
theorem zCo (d:Option Nat) (x:IX) (lo hi:Option IX) (g:Option (Nat×Bool)) (i:Nat) (c:List Nat) (v:PV):qR ⟨⟨d,(.sliceStr x lo hi),true,g⟩,i,c⟩ e v=[]:=rfl
theorem zDp (d:Option Nat) (mx:Bool) (x y:IX) (g:Option (Nat×Bool)) (i:Nat) (c:List Nat) (v:PV):qR ⟨⟨d,(.maxmin mx x y),true,g⟩,i,c⟩ e v=[]:=rfl
theorem zCq (d:Option Nat) (f:FuncId) (y z:List IX) (g:Option (Nat×Bool)) (i:Nat) (c:List Nat) (v:PV):qR ⟨⟨d,(.makeFunc f y z),true,g⟩,i,c⟩ e v=[]:=rfl
theorem zGK (d:Option Nat) (j:Nat) (g:Option (Nat×Bool)) (i:Nat) (c:List Nat) (v:PV):qR ⟨⟨d,(.rev j),true,g⟩,i,c⟩ e v=[]:=rfl
theorem zFB (d:Option Nat) (j m:Nat) (g:Option (Nat×Bool)) (i:Nat) (c:List Nat) (v:PV):qR ⟨⟨d,(.revS j m),true,g⟩,i,c⟩ e v=[]:=rfl
theorem zD7:Qq none e=true:=rfl
theorem zD6 (t:Nat) (b:Bool):Qq (some (t,b)) e=(match e t with | .bool c=>decide (c=b) | _=>false):=rfl
theorem zGI:ZG [] e h=some []:=rfl
theorem zGH (t:Nat) (r:List IRes):ZG (.tmp t::r) e h=(ZG r e h).map fun vs=>e t::vs:=rfl
theorem zE7 (t:Nat) (a:Bool) (n:Nat) (r:List IRes):ZG (.cell t a n::r) e h=(pldv a n (e t) h).bind fun v=>(ZG r e h).map fun vs=>v::vs:=rfl
theorem zE9 (res:List IRes):retP res KA .normal e h=optK (ZG res e h) fun vs=>KA (packP vs) h:=rfl
theorem zIn (res:List IRes):retP res KA .ret e h=optK (ZG res e h) fun vs=>KA (packP vs) h:=rfl
theorem zHv (v:PV):packP [v]=v:=rfl
theorem zHw:packP []=.tup []:=rfl
theorem zHu (u v:PV) (r:List PV):packP (u::v::r)=.tup (u::v::r):=rfl
theorem zHj (cs:List PV):pfill cs []=some cs:=rfl
theorem zGV (cs:List PV) (off size:Nat) (v:PV) (r:List (Nat×Nat×PV)):pfill cs ((off,size,v)::r)=if v.cells.length=size∧off+size≤cs.length∧v.cells.all PV.one=true then pfill (cs.take off++v.cells++cs.drop (off+size)) r else none:=rfl
theorem zGZ (k:IntKind) (n:Int):PV.cells (.int k n)=[(.int k n)]:=rfl
theorem zI7 (k:IntKind) (n:Int):PV.one (.int k n)=true:=rfl
theorem zFU (b:Bool):PV.cells (.bool b)=[(.bool b)]:=rfl
theorem zHa (b:Bool):PV.one (.bool b)=true:=rfl
theorem zGX (s:List UInt8):PV.cells (.str s)=[(.str s)]:=rfl
theorem zI5 (s:List UInt8):PV.one (.str s)=true:=rfl
theorem zFS:PV.cells .nilp=[.nilp]:=rfl
theorem zHY:PV.one .nilp=true:=rfl
theorem zFT:PV.cells .nilf=[.nilf]:=rfl
theorem zHZ:PV.one .nilf=true:=rfl
theorem zHl (w:Bool) (a:AV) (n:Nat) (cs:List PV):PV.cells (.fz w a n cs)=[(.fz w a n cs)]:=rfl
theorem zKg (w:Bool) (a:AV) (n:Nat) (cs:List PV):PV.one (.fz w a n cs)=true:=rfl
theorem zHm (a:AV) (cs:List PV):PV.cells (.fp a cs)=[(.fp a cs)]:=rfl
theorem zKh (a:AV) (cs:List PV):PV.one (.fp a cs)=true:=rfl
theorem zGY (s i:Nat):PV.cells (.ptr s i)=[(.ptr s i)]:=rfl
theorem zI6 (s i:Nat):PV.one (.ptr s i)=true:=rfl
theorem zHk (s o n:Nat) (c:Cap):PV.cells (.sl s o n c)=[(.sl s o n c)]:=rfl
theorem zKf (s o n:Nat) (c:Cap):PV.one (.sl s o n c)=true:=rfl
theorem zGa (f:FuncId) (a b:List PV):PV.cells (.clo f a b)=[(.clo f a b)]:=rfl
theorem zI8 (f:FuncId) (a b:List PV):PV.one (.clo f a b)=true:=rfl
theorem zGb (cs:List PV):PV.cells (.agg cs)=cs:=rfl
theorem zAn (k:IntKind) (i:Int) (y:Nat):Zn (.int k i) y=if 0≤i∧i≤y then some i.toNat else none:=rfl
theorem Qz (x:PV) (d y:Nat):qN (some x) d y=Zn x y:=rfl
theorem Q0 (d y:Nat):qN none d y=some d:=rfl
theorem zHU (sz:Nat) (w:Bool) (a:AV) (len:Nat) (cs:List PV) (lo hi:Option PV):QR sz (.fz w a len cs) lo hi none=(qN hi len len).bind fun h=>(qN lo 0 h).bind fun l=>some (.fz false (pslA sz a l h) (h-l) ((cs.drop (l*sz)).take ((h-l)*sz))):=rfl
theorem zBI (sz s off len c:Nat) (lo hi mx:Option PV):QR sz (.sl s off len (.known c)) lo hi mx=(qN mx c c).bind fun m=>(qN hi len m).bind fun h=>(qN lo 0 h).bind fun l=>if hi.isNone=true∧mx.isSome=true then none else some (.sl s (if m=l then off else off+l*sz) (h-l) (.known (m-l))):=rfl
theorem zBJ (sz s off len g:Nat) (lo hi:Option PV):QR sz (.sl s off len (.grown g)) lo hi none=(qN hi len len).bind fun h=>(qN lo 0 h).bind fun l=>some (.sl s (off+l*sz) (h-l) (.grown (if g=sz then g else 0))):=rfl
theorem zDr (s:List UInt8) (lo hi:Option PV):zAC (.str s) lo hi=(qN hi s.length s.length).bind fun h=>(qN lo 0 h).bind fun l=>some (.str ((s.take h).drop l)):=rfl
theorem zKl (w:Bool) (a:AV) (n:Nat) (cs:List PV):plen (.fz w a n cs)=some n:=rfl
theorem zKk (s o n:Nat) (c:Cap):plen (.sl s o n c)=some n:=rfl
theorem zAo (sz bytes:Nat) (s x:PV):qm sz bytes h s x=(plen x).bind fun m=>if m=0 then(psame s).map fun v=>(v,h)else(Zm sz h x m).bind fun news=>pgrow sz bytes h s news m:=rfl
theorem zFO (s o n c:Nat):psame (.sl s o n (.known c))=if n≤c then some (.sl s o n (.known c))else none:=rfl
theorem zHi (sz:Nat) (w:Bool) (a:AV) (len:Nat) (cs:List PV) (n:Nat):Zm sz h (.fz w a len cs) n=if n=0 then some []else if n≤len∧n*sz≤cs.length∧0<sz then some (cs.take (n*sz))else none:=rfl
theorem zBL (sz s off len:Nat) (c:Cap) (n:Nat):Zm sz h (.sl s off len c) n=if n=0 then some []else if n≤len then h.rd s off (n*sz)else none:=rfl
theorem zCv (sz bytes:Nat) (w:Bool) (n:Nat) (cs news:List PV) (m:Nat):pgrow sz bytes h (.fz w .nils n cs) news m=if m*bytes≤140737488355328∧m≤4611686018427387904 then some (.sl h.next 0 m (.grown sz),h.new news)else none:=rfl
theorem zB8 (sz bytes s off len c:Nat) (news:List PV) (m:Nat):pgrow sz bytes h (.sl s off len (.known c)) news m=if len+m≤c then(h.wr s (off+len*sz) news).map fun σ'=>(.sl s off (len+m) (.known c),σ')else if (len+m)*bytes≤140737488355328∧len+m≤4611686018427387904 then(h.rd s off (len*sz)).map fun old=>(.sl h.next 0 (len+m) (.grown sz),h.new (old++news))else none:=rfl
theorem zB9 (sz bytes s off len g:Nat) (news:List PV) (m:Nat):pgrow sz bytes h (.sl s off len (.grown g)) news m=if (len+m)*bytes≤140737488355328∧len+m≤4611686018427387904∧g=sz then(h.obj s).bind fun cs=>if off+len*sz≤cs.length then some (.sl h.next 0 (len+m) (.grown sz),(h.kill s).new ((cs.drop off).take (len*sz)++news))else none else none:=rfl
theorem zI2 (cs:List PV) (s i:Nat):(h.new cs).rd1 s i=if s=h.next then cs[i]? else h.rd1 s i:=by by_cases x:s=h.next<;>simp [PHeap.rd1,PHeap.new,x]
theorem zBj (cs:List PV) (s i n:Nat):(h.new cs).rd s i n=if s=h.next then(if i+n≤cs.length then some ((cs.drop i).take n)else none)else h.rd s i n:=by by_cases x:s=h.next<;>simp [PHeap.rd,PHeap.new,x]
theorem QM (cs:List PV) (s:Nat):(h.new cs).obj s=if s=h.next then some cs else h.obj s:=rfl
theorem zKa (cs:List PV) (s i:Nat) (vs:List PV):(h.new cs).wr s i vs=if s=h.next then(if i+vs.length≤cs.length∧vs.all PV.one=true then some (h.new (cs.take i++vs++cs.drop (i+vs.length)))else none)else(h.wr s i vs).map fun h'=>h'.new cs:=by
 by_cases x:s=h.next
 ·subst x
  simp only [PHeap.wr,PHeap.new,if_true,Option.bind_some]
  split
  ·congr 1
   simp only [PHeap.set]
   congr 1
   funext y
   by_cases hy:y=h.next<;>simp [hy]
  ·rfl
 ·simp only [PHeap.wr,PHeap.new,if_neg x]
  cases ho:h.obj s with
  | none=>rfl
  | some ob=>
   simp only [Option.bind_some]
   split
   ·simp only [Option.map_some,PHeap.set]
    congr 2
    funext y
    by_cases hy:y=s
    ·subst hy;simp [x]
    ·simp [hy]
   ·rfl
theorem zHd (cs:List PV):(h.new cs).next=h.next+1:=rfl
theorem zEM (cs:List PV):(h.new cs).top=h.top:=rfl
theorem zIy (cs:List PV) (s:Nat) (ds:List PV):(h.new cs).set s ds=if s=h.next then h.new ds else(h.set s ds).new cs:=by
 by_cases x:s=h.next
 ·subst x
  rw [if_pos rfl];simp only [PHeap.set,PHeap.new]
  congr 1
  funext y
  by_cases hy:y=h.next<;>simp [hy]
 ·rw [if_neg x]
  simp only [PHeap.set,PHeap.new]
  congr 1
  funext y
  by_cases hy:y=s
  ·subst hy;simp [x]
  ·simp [hy]
theorem QL (s:Nat) (cs ds:List PV):(h.set s cs).set s ds=h.set s ds:=by
 simp only [PHeap.set]
 congr 1
 funext y
 by_cases hy:y=s<;>simp [hy]
theorem zHc (s:Nat) (cs:List PV):(h.set s cs).next=h.next:=rfl
theorem zGT (s:Nat):(h.kill s).next=h.next:=rfl
theorem zI9 (t:Nat):(h.up t).next=h.next:=rfl
theorem zDY (t:Nat):(h.up t).top=t:=rfl
theorem zKj (t:Nat) (cs:List PV):(h.up t).new cs=(h.new cs).up t:=rfl
theorem zKe (t s i:Nat):(h.up t).rd1 s i=h.rd1 s i:=rfl
theorem zLm (t s i n:Nat):(h.up t).rd s i n=h.rd s i n:=rfl
theorem zKi (t s:Nat):(h.up t).obj s=h.obj s:=rfl
theorem zLk (t s i:Nat) (vs:List PV):(h.up t).wr s i vs=(h.wr s i vs).map fun h'=>h'.up t:=by
 simp only [PHeap.wr,PHeap.up];cases h.obj s with
 | none=>rfl
 | some cs=>simp only [Option.bind_some];split<;>rfl
theorem zHb (s t:Nat):(h.kill s).obj t=if t=s then none else h.obj t:=rfl
theorem ZT (s:Nat) (cs:List PV) (t:Nat):(h.set s cs).obj t=if t=s then some cs else h.obj t:=rfl
theorem zHV (s t i:Nat):(h.kill s).rd1 t i=if t=s then none else h.rd1 t i:=by by_cases x:t=s<;>simp [PHeap.rd1,PHeap.kill,x]
theorem zIz (s t i n:Nat):(h.kill s).rd t i n=if t=s then none else h.rd t i n:=by by_cases x:t=s<;>simp [PHeap.rd,PHeap.kill,x]
theorem zI1 (s:Nat) (cs:List PV) (t i:Nat):(h.set s cs).rd1 t i=if t=s then cs[i]? else h.rd1 t i:=by by_cases x:t=s<;>simp [PHeap.rd1,PHeap.set,x]
theorem zKd (s:Nat) (cs:List PV) (t i n:Nat):(h.set s cs).rd t i n=if t=s then(if i+n≤cs.length then some ((cs.drop i).take n)else none)else h.rd t i n:=by by_cases x:t=s<;>simp [PHeap.rd,PHeap.set,x]
theorem zKZ (s:Nat) (cs:List PV) (i:Nat) (vs:List PV):(h.set s cs).wr s i vs=if i+vs.length≤cs.length∧vs.all PV.one=true then some (h.set s (cs.take i++vs++cs.drop (i+vs.length)))else none:=by
 simp only [PHeap.wr,PHeap.set,if_true,Option.bind_some]
 split
 ·congr 2
  funext y
  by_cases hy:y=s<;>simp [hy]
 ·rfl
end
def pw0:=And.intro @zKB <| And.intro @zHC <| And.intro @zKD <| And.intro @zLQ <| And.intro @zKE <| And.intro @zId <| And.intro @zKC <| And.intro @zLR <| And.intro @zLI <| And.intro @RVp_q <| And.intro @RVp_e <| And.intro @zLL <| And.intro @DVp_q <| And.intro @DVp_e <| And.intro @zJb <| And.intro @zJa <| And.intro @zJd <| And.intro @zJc <| And.intro @zFQ <| And.intro @zEU <| And.intro @zGW <| And.intro @zFR <| And.intro @zET <| And.intro @zER <| And.intro @zEQ <| And.intro @zES <| And.intro @pv_t <| And.intro @pv_c <| And.intro @zJA <| @zHW
def pw1:=And.intro @zHX <| And.intro @qp_mv <| And.intro @zKW <| And.intro @zLj <| And.intro @qp_un <| And.intro @zKY <| And.intro @zFK <| And.intro @zIv <| And.intro @zIu <| And.intro @zEK <| And.intro @zEJ <| And.intro @zFM <| And.intro @zGP <| And.intro @zLh <| And.intro @zHR <| And.intro @zLi <| And.intro @zIt <| And.intro @zFJ <| And.intro @zHQ <| And.intro @zFL <| And.intro @zKX <| And.intro @zLg <| And.intro @zKV <| And.intro @zJm <| And.intro @zLs <| And.intro @zGr <| And.intro @zJk <| And.intro @zGh <| And.intro @zIK <| And.intro @zFu <| @zFf
def pw2:=And.intro @zHx <| And.intro @zIL <| And.intro @zK7 <| And.intro @zK8 <| And.intro @zJl <| And.intro @zGl <| And.intro @zJU <| And.intro @of_bool <| And.intro @of_int <| And.intro @zLn <| And.intro @zKu <| And.intro @zKv <| And.intro @zKt <| And.intro @zLo <| And.intro @zLp <| And.intro @zKs <| And.intro @zJT <| And.intro @zKr <| And.intro @zJQ <| And.intro @zJG <| And.intro @zJK <| And.intro @zJP <| And.intro @zJJ <| And.intro @zJL <| And.intro @zJM <| And.intro @zJN <| And.intro @zJO <| And.intro @zJI <| And.intro @zJH <| @zGf
def pw3:=And.intro @zHq <| And.intro @zGg <| And.intro @zHp <| And.intro @zHo <| And.intro @zGe <| And.intro @zFZ <| And.intro @zGd <| And.intro @zFY <| And.intro @zFX <| And.intro @zFW <| And.intro @zFV <| And.intro @zFn <| And.intro @zIB <| And.intro @zKc <| And.intro @zKb <| And.intro @zGi <| And.intro @zFb <| And.intro @zH0 <| And.intro @zJR <| And.intro @zJS <| And.intro @zKn <| And.intro @zGk <| And.intro @zGj <| And.intro @zDZ <| And.intro @zDu <| And.intro @zHy <| And.intro @zHz <| And.intro @zFe <| And.intro @zEX <| @zKp
def pw4:=And.intro @zKo <| And.intro @zFd <| And.intro @zH1 <| And.intro @zKq <| And.intro @zFc <| And.intro @zHg <| And.intro @zHf <| And.intro @zJC <| And.intro @zJB <| And.intro @zHe <| And.intro @zGU <| And.intro @zHB <| And.intro @zF1 <| And.intro @zF2 <| And.intro @zFD <| And.intro @zHM <| And.intro @zFC <| And.intro @zGN <| And.intro @zHK <| And.intro @zFE <| And.intro @zCp <| And.intro @zEF <| And.intro @zEE <| And.intro @zCO <| And.intro @zCN <| And.intro @zCr <| And.intro @zDW <| And.intro @zGL <| And.intro @zDq <| @zGM
def pw5:=And.intro @zED <| And.intro @zCo <| And.intro @zDp <| And.intro @zCq <| And.intro @zGK <| And.intro @zFB <| And.intro @zD7 <| And.intro @zD6 <| And.intro @zGI <| And.intro @zGH <| And.intro @zE7 <| And.intro @zE9 <| And.intro @zIn <| And.intro @zHv <| And.intro @zHw <| And.intro @zHu <| And.intro @zHj <| And.intro @zGV <| And.intro @zGZ <| And.intro @zI7 <| And.intro @zFU <| And.intro @zHa <| And.intro @zGX <| And.intro @zI5 <| And.intro @zFS <| And.intro @zHY <| And.intro @zFT <| And.intro @zHZ <| And.intro @zHl <| And.intro @zKg <| @zHm
def pw6:=And.intro @zKh <| And.intro @zGY <| And.intro @zI6 <| And.intro @zHk <| And.intro @zKf <| And.intro @zGa <| And.intro @zI8 <| And.intro @zGb <| And.intro @zAn <| And.intro @Qz <| And.intro @Q0 <| And.intro @zHU <| And.intro @zBI <| And.intro @zBJ <| And.intro @zDr <| And.intro @zKl <| And.intro @zKk <| And.intro @zI2 <| And.intro @zBj <| And.intro @QM <| And.intro @zKa <| And.intro @zHd <| And.intro @zEM <| And.intro @zIy <| And.intro @QL <| And.intro @zHc <| And.intro @zGT <| And.intro @zI9 <| And.intro @zDY <| @zKj
def pw7:=And.intro @zKe <| And.intro @zLm <| And.intro @zKi <| And.intro @zLk <| And.intro @zHb <| And.intro @ZT <| And.intro @zHV <| And.intro @zIz <| And.intro @zI1 <| And.intro @zKd <| And.intro @zKZ <| And.intro @zJ <| And.intro @zK <| And.intro @zT <| And.intro @zf <| And.intro @List.map_cons.{0,0} <| And.intro @List.map_nil.{0,0} <| And.intro @List.length_cons.{0} <| And.intro @List.length_nil.{0} <| And.intro @List.getElem?_cons_zero.{0} <| And.intro @List.getElem?_cons_succ.{0} <| And.intro @List.take_succ_cons.{0} <| And.intro @List.take_zero.{0} <| And.intro @List.drop_succ_cons.{0} <| And.intro @List.drop_zero.{0} <| And.intro @List.take_nil.{0} <| And.intro @List.drop_nil.{0} <| And.intro @List.nil_append.{0} <| And.intro @List.cons_append.{0} <| @List.append_nil.{0}
def pw8:=And.intro @List.all_cons.{0} <| And.intro @List.all_nil.{0} <| And.intro @List.contains_cons.{0} <| And.intro @List.contains_nil.{0} <| And.intro @Option.map_some.{0,0} <| And.intro @Option.map_none.{0,0} <| And.intro @Option.bind_some.{0,0} <| And.intro @Option.bind_none.{0,0} <| And.intro @decide_true <| And.intro @decide_false <| And.intro @Bool.not_true <| And.intro @Bool.not_false <| And.intro @Bool.and_true <| And.intro @Bool.true_and <| And.intro @Bool.and_self <| And.intro @Bool.or_false <| And.intro @Bool.or_true <| And.intro @Bool.true_or <| And.intro @Bool.false_or <| And.intro @true_and <| And.intro @and_true <| And.intro @Bool.true_eq_false <| And.intro @Bool.false_eq_true <| And.intro @Nat.left_eq_add <| And.intro @Nat.add_eq_left <| And.intro @Nat.succ_ne_self <| And.intro @Nat.one_ne_zero <| And.intro @Nat.add_left_cancel_iff <| And.intro @Nat.add_assoc <| @Nat.mul_one
def pw9:=And.intro @Nat.zero_add <| And.intro @Nat.add_zero <| And.intro @Nat.le_refl <| And.intro @Nat.lt_add_one <| And.intro @Int.toNat_natCast <| And.intro @Int.natCast_nonneg <| And.intro @Int.ofNat_lt <| And.intro @Int.le_refl <| And.intro @zH <| And.intro @zI <| And.intro @zG <| And.intro @Nat.one_mul <| @Nat.zero_mul
def pwA:=And.intro pw0 <| And.intro pw1 <| And.intro pw2 <| And.intro pw3 <| And.intro pw4 <| And.intro pw5 <| And.intro pw6 <| And.intro pw7 <| And.intro pw8 <| And.intro pw9 <| And.intro @nm_eq <| And.intro @eq_self.{1} <| And.intro @Int.ofNat_le @List.getElem?_drop.{0}
end Go.Ab
