/- THE RULES BY WHICH CODE IS WALKED over values without a heap: equations, and the one name 'pw' for all of them. Written by a program. -/
import Derived.Test.YtcooahfdjlhmdaaDAbPg
import Derived.Test.YtcooahfdjlhmdaaDAbAid
set_option linter.unusedVariables false
set_option linter.unusedSimpArgs false
set_option linter.defProp false
namespace Go.Ab
section
variable {P:Program} {Q:Exit→PEnv→PHeap→Prop} {e:PEnv} {h:PHeap} {K:PEnv→PHeap→Prop} {KA:PV→PHeap→Prop} {nb nr:Nat}
theorem zJP:vp P .skip Q e h=Q .normal e h:=rfl
theorem zGv (S:List Nat) (its:List II):vp P (.region S its) Q e h=RVp P its e h fun e' h'=>Q .normal (PEnv.mk S (S.map e')) h':=rfl
theorem zJR (S:List Nat) (zs:List (List AV)) (its:List DI):vp P (.draw S zs its) Q e h=DVp P h.next zs.length its [] e (h.news zs) fun e' h'=>Q .normal (PEnv.mk S (S.map e')) h':=rfl
theorem zKD (a b:IC):vp P (.seq a b) Q e h=vp P a (fun x e' h'=>match x with | .normal=>vp P b Q e' h' | x=>Q x e' h') e h:=rfl
theorem zJS (c:IX) (a b:IC):vp P (.cond c a b) Q e h=q9 (c.pv e) (vp P a Q e h) (vp P b Q e h):=rfl
theorem zIE (id:Nat) (c:IC):vp P (.block id c) Q e h=vp P c (fun x e' h'=>match x with | .exit id'=>if id'=id then Q .normal e' h' else Q (.exit id') e' h' | x=>Q x e' h') e h:=rfl
theorem zJQ (id:Nat):vp P (.exit id) Q e h=Q (.exit id) e h:=rfl
theorem zKE:vp P .ret Q e h=Q .ret e h:=rfl
theorem zJ9:RVp P [] e h K=K e h:=rfl
theorem RVp_q (d:Option Nat) (op:IOp) (g:Option (Nat×Bool)) (r:List II):RVp P (⟨d,op,true,g⟩::r) e h K=optK (gqp 0 0 ⟨d,op,true,g⟩ e h) fun v=>RVp P r (e.put d v) h K:=rfl
theorem RVp_e (d:Option Nat) (op:IOp) (g:Option (Nat×Bool)) (r:List II):RVp P (⟨d,op,false,g⟩::r) e h K=gep P ⟨d,op,false,g⟩ e h fun v h'=>RVp P r (e.put d v) h' K:=rfl
theorem zKA (recs:List RecP):DVp P nb nr [] recs e h K=K e h:=rfl
theorem DVp_q (d:Option Nat) (op:IOp) (g:Option (Nat×Bool)) (i:Nat) (c:List Nat) (r:List DI) (recs:List RecP):DVp P nb nr (⟨⟨d,op,true,g⟩,i,c⟩::r) recs e h K=optK (gqp nb nr ⟨d,op,true,g⟩ e h) fun v=>DVp P nb nr r (zi ⟨⟨d,op,true,g⟩,i,c⟩ e v++recs) (e.put d v) h K:=rfl
theorem DVp_e (d:Option Nat) (op:IOp) (g:Option (Nat×Bool)) (i:Nat) (c:List Nat) (r:List DI) (recs:List RecP):DVp P nb nr (⟨⟨d,op,false,g⟩,i,c⟩::r) recs e h K=gep P ⟨d,op,false,g⟩ e h fun v h'=>Zx c recs h'∧DVp P nb nr r recs (e.put d v) h' K:=rfl
theorem zI2 (d:Option Nat) (op:IOp) (q:Bool):gqp nb nr ⟨d,op,q,none⟩ e h=qp nb nr op e h:=rfl
theorem zI1 (d:Option Nat) (op:IOp) (q:Bool) (t:Nat) (b:Bool):gqp nb nr ⟨d,op,q,some (t,b)⟩ e h=Zg (e t) b (qp nb nr op e h):=rfl
theorem zI4 (d:Option Nat) (op:IOp) (q:Bool):gep P ⟨d,op,q,none⟩ e h KA=ep P op e h KA:=rfl
theorem zI3 (d:Option Nat) (op:IOp) (q:Bool) (t:Nat) (b:Bool):gep P ⟨d,op,q,some (t,b)⟩ e h KA=q8 (e t) b (ep P op e h KA) (KA (.tup []) h):=rfl
theorem zE8 (a b:Prop):q9 (.bool true) a b=a:=rfl
theorem zEE (a b:Prop):q9 (.bool false) a b=b:=rfl
theorem zGG (c:Prop) [Decidable c] (a b:Prop):q9 (.bool (decide c)) a b=if c then a else b:=by by_cases x:c<;>simp [q9,x]
theorem zE9 (c:Prop) [Decidable c] (a b:Prop):q9 (.bool (!decide c)) a b=if c then b else a:=by by_cases x:c<;>simp [q9,x]
theorem zED (c b:Bool) (x y:Prop):q8 (.bool c) b x y=if c=b then x else y:=rfl
theorem zEB (c b:Bool) (x:Option PV):Zg (.bool c) b x=if c=b then x else some (.tup []):=rfl
theorem zEA (b:Bool) (x:Option PV):Zg (.tup []) b x=some (.tup []):=rfl
theorem zEC (b:Bool) (x y:Prop):q8 (.tup []) b x y=y:=rfl
theorem pv_t (n:Nat):(IX.t n).pv e=e n:=rfl
theorem pv_c (v:AV):(IX.c v).pv e=ofAV v:=rfl
theorem zIc (s:Nat) (S:List Nat) (v:PV) (vs:List PV) (t:Nat):PEnv.mk (s::S) (v::vs) t=if t=s then v else PEnv.mk S vs t:=rfl
theorem zHB (d:Nat) (v:PV) (t:Nat):e.put (some d) v t=if t=d then v else e t:=rfl
theorem zHC (v:PV):e.put none v=e:=rfl
theorem qp_mv (x:IX):qp nb nr (.mv x) e h=some (x.pv e):=rfl
theorem zJZ (c a b:IX):qp nb nr (.pick c a b) e h=pPick (c.pv e) (a.pv e) (b.pv e):=rfl
theorem zKL (op:BinOp) (ek:EqK) (x y:IX):qp nb nr (.bin op ek x y) e h=pbin op ek (x.pv e) (y.pv e):=rfl
theorem qp_un (op:UnOp) (x:IX):qp nb nr (.un op x) e h=pun op (x.pv e):=rfl
theorem zJb (k:IntKind) (x:IX):qp nb nr (.conv k x) e h=pConv k (x.pv e):=rfl
theorem zE3 (x:IX):qp nb nr (.nilCheck x) e h=pNil (x.pv e):=rfl
theorem zIQ (z:List AV) (ps:List (Nat×Nat×IX)):qp nb nr (.build z ps) e h=(pfill (ofAVs z) (ps.map fun p=>(p.1,p.2.1,p.2.2.pv e))).map .agg:=rfl
theorem zIP (a:Bool) (n off:Nat) (x:IX):qp nb nr (.field a n off x) e h=zAu a n off (x.pv e):=rfl
theorem zD2 (off:Nat) (x:IX):qp nb nr (.fieldAddr off x) e h=Zm off (x.pv e):=rfl
theorem zD1 (sz:Nat) (x i:IX):qp nb nr (.indexAddr sz x i) e h=zAF sz (x.pv e) (i.pv e):=rfl
theorem zE5 (x i:IX):qp nb nr (.indexStr x i) e h=zBK (x.pv e) (i.pv e):=rfl
theorem zGA (x:IX) (i:Nat):qp nb nr (.extract x i) e h=zAX (x.pv e) i:=rfl
theorem zKJ (x:IX):qp nb nr (.len x) e h=pLen (x.pv e):=rfl
theorem zG6 (x:IX):qp nb nr (.lenStr x) e h=zBJ (x.pv e):=rfl
theorem zKK (x:IX):qp nb nr (.cap x) e h=pCap (x.pv e):=rfl
theorem zIO (sz:Nat) (x:IX) (lo hi mx:Option IX):qp nb nr (.slice sz x lo hi mx) e h=ZF sz (x.pv e) (lo.map (·.pv e)) (hi.map (·.pv e)) (mx.map (·.pv e)):=rfl
theorem zE2 (x:IX) (lo hi:Option IX):qp nb nr (.sliceStr x lo hi) e h=Qm (x.pv e) (lo.map (·.pv e)) (hi.map (·.pv e)):=rfl
theorem zG5 (mx:Bool) (x y:IX):qp nb nr (.maxmin mx x y) e h=zAE mx (x.pv e) (y.pv e):=rfl
theorem zE4 (f:FuncId) (a b:List IX):qp nb nr (.makeFunc f a b) e h=some (.clo f (a.map (·.pv e)) (b.map (·.pv e))):=rfl
theorem zJa (a:Bool) (n:Nat) (x:IX):qp nb nr (.load a n x) e h=pldv a n (x.pv e) h:=rfl
theorem zKI (k:Nat):qp nb nr (.rev k) e h=if k<nr then some (.ptr (nb+k) 0)else none:=rfl
theorem zJY (k n:Nat):qp nb nr (.revS k n) e h=if k<nr then some (.sl (nb+k) 0 n (.known n))else none:=rfl
theorem zJC (z:List AV):ep P (.alloc z) e h KA=KA (.ptr h.next 0) (h.new (ofAVs z)):=rfl
theorem zKb (x:IX):ep P (.box x) e h KA=((x.pv e).cells.all PV.one=true∧KA (.ptr h.next 0) (h.new (x.pv e).cells)):=rfl
theorem zGh (sz len:Nat) (z:List AV) (ps:List (Nat×Nat×IX)):ep P (.buildSl sz len z ps) e h KA=optK (pfill (ofAVs (zeros z len)) (ps.map fun p=>(p.1,p.2.1,p.2.2.pv e))) fun cs=>KA (.sl h.next 0 len (.known len)) (h.new cs):=rfl
def zCZ (n:Nat) (x v:PV) (h:PHeap) (KA:PV→PHeap→Prop):Prop:=
 match x with
 | .ptr s i=>v.cells.length=n∧optK (h.wr s i v.cells) fun h'=>KA .undef h'
 | _=>False
def pMake (sz bytes:Nat) (z:List AV) (l c:PV) (h:PHeap) (KA:PV→PHeap→Prop):Prop:=
 match l,c with
 | .int _ l,.int _ c=>(0≤l∧l≤c∧c*bytes≤140737488355328∧c≤9223372036854775807)∧KA (.sl h.next 0 l.toNat (.known c.toNat)) (h.new (ofAVs (zeros z c.toNat)))
 | _,_=>False
def zCb (sz bytes:Nat) (z:List AV) (s n:PV) (h:PHeap) (KA:PV→PHeap→Prop):Prop:=
 match s,n with
 | .fz _ .nils _ _,.int _ n=>(0≤n∧n*bytes≤140737488355328∧n≤4611686018427387904)∧if 0<n then KA (.sl h.next 0 n.toNat (.grown sz)) (h.new (ofAVs (zeros z n.toNat)))else KA (.fz true .nils 0 []) h
 | .sl s off len c,.int _ n=>(0≤n∧n*bytes≤140737488355328∧n≤4611686018427387904)∧optK (if 0<n then pgrow sz bytes h (.sl s off len c) (ofAVs (zeros z n.toNat)) n.toNat else(psame (.sl s off len c)).map fun v=>(v,h)) fun p=>KA p.1 p.2
 | _,_=>False
def zCa (P:Program) (f:PV) (args:List PV) (h:PHeap) (KA:PV→PHeap→Prop):Prop:=
 match f with
 | .clo f first caps=>okF P f=true∧zC P f (first++args++caps) h KA
 | _=>False
theorem zJA (n:Nat) (x v:IX):ep P (.store n x v) e h KA=zCZ n (x.pv e) (v.pv e) h KA:=rfl
theorem zGS (n s i:Nat) (v:PV):zCZ n (.ptr s i) v h KA=(v.cells.length=n∧optK (h.wr s i v.cells) fun h'=>KA .undef h'):=rfl
theorem zH2 (sz bytes:Nat) (z:List AV) (l c:IX):ep P (.makeSl sz bytes z l c) e h KA=pMake sz bytes z (l.pv e) (c.pv e) h KA:=rfl
theorem zFY (sz bytes:Nat) (z:List AV) (s n:IX):ep P (.appendMk sz bytes z s n) e h KA=zCb sz bytes z (s.pv e) (n.pv e) h KA:=rfl
theorem zFN (sz bytes:Nat) (z:List AV) (w:Bool) (l:Nat) (cs:List PV) (k:IntKind) (n:Int):zCb sz bytes z (.fz w .nils l cs) (.int k n) h KA=((0≤n∧n*bytes≤140737488355328∧n≤4611686018427387904)∧if 0<n then KA (.sl h.next 0 n.toNat (.grown sz)) (h.new (ofAVs (zeros z n.toNat)))else KA (.fz true .nils 0 []) h):=rfl
theorem zHZ (sz bytes:Nat) (z:List AV) (k k':IntKind) (l c:Int):pMake sz bytes z (.int k l) (.int k' c) h KA=((0≤l∧l≤c∧c*bytes≤140737488355328∧c≤9223372036854775807)∧KA (.sl h.next 0 l.toNat (.known c.toNat)) (h.new (ofAVs (zeros z c.toNat)))):=rfl
theorem zH3 (sz bytes:Nat) (s x:IX):ep P (.append sz bytes s x) e h KA=optK (qA sz bytes h (s.pv e) (x.pv e)) fun p=>KA p.1 p.2:=rfl
theorem zJ5 (sz:Nat) (d s:IX):ep P (.copy sz d s) e h KA=optK (pcopy sz h (d.pv e) (s.pv e)) fun p=>KA p.1 p.2:=rfl
theorem zJ6 (f:FuncId) (args:List IX):ep P (.call f args) e h KA=zC P f (args.map (·.pv e)) h KA:=rfl
theorem zJB (f:IX) (args:List IX):ep P (.callV f args) e h KA=zCa P (f.pv e) (args.map (·.pv e)) h KA:=rfl
theorem zGW (f:FuncId) (a b args:List PV):zCa P (.clo f a b) args h KA=(okF P f=true∧zC P f (a++args++b) h KA):=rfl
theorem zIw:ofAV .undef=.undef:=rfl
theorem of_bool (b:Bool):ofAV (.bool b)=.bool b:=rfl
theorem of_int (k:IntKind) (n:Int):ofAV (.int k n)=.int k n:=rfl
theorem zKQ (s:List UInt8):ofAV (.str s)=.str s:=rfl
theorem zJy:ofAV .nilp=.nilp:=rfl
theorem zJz:ofAV .nilf=.nilf:=rfl
theorem zJx:ofAV .nils=.fz true .nils 0 []:=rfl
theorem zKR (f:FuncId) (a b:List AV):ofAV (.clo f a b)=.clo f (ofAVs a) (ofAVs b):=rfl
theorem zKS (a:List AV):ofAV (.agg a)=.agg (ofAVs a):=rfl
theorem zJw:ofAVs []=[]:=rfl
theorem zIv (c:AV) (cs:List AV):ofAVs (c::cs)=ofAV c::ofAVs cs:=rfl
theorem zJv (n:Nat) (c:AV):ofAVs (List.replicate n c)=List.replicate n (ofAV c):=by rw [zDK,List.map_replicate]
theorem zIr (k:IntKind) (ek:EqK) (a b:Int):pbin .add ek (.int k a) (.int k b)=some (.int k (k.wrap (a+b))):=by simp [pbin,abin,aint,ofAV]
theorem zIh (k:IntKind) (ek:EqK) (a b:Int):pbin .sub ek (.int k a) (.int k b)=some (.int k (k.wrap (a-b))):=by simp [pbin,abin,aint,ofAV]
theorem zIl (k:IntKind) (ek:EqK) (a b:Int):pbin .mul ek (.int k a) (.int k b)=some (.int k (k.wrap (a*b))):=by simp [pbin,abin,aint,ofAV]
theorem zIq (k:IntKind) (ek:EqK) (a b:Int):pbin .eql ek (.int k a) (.int k b)=some (.bool (decide (a=b))):=by simp [pbin,abin,aint,ofAV]
theorem zIk (k:IntKind) (ek:EqK) (a b:Int):pbin .neq ek (.int k a) (.int k b)=some (.bool (!decide (a=b))):=by simp [pbin,abin,aint,ofAV]
theorem zIm (k:IntKind) (ek:EqK) (a b:Int):pbin .lss ek (.int k a) (.int k b)=some (.bool (decide (a<b))):=by simp [pbin,abin,aint,ofAV]
theorem zIn (k:IntKind) (ek:EqK) (a b:Int):pbin .leq ek (.int k a) (.int k b)=some (.bool (decide (a≤b))):=by simp [pbin,abin,aint,ofAV]
theorem zIo (k:IntKind) (ek:EqK) (a b:Int):pbin .gtr ek (.int k a) (.int k b)=some (.bool (decide (b<a))):=by simp [pbin,abin,aint,ofAV]
theorem zIp (k:IntKind) (ek:EqK) (a b:Int):pbin .geq ek (.int k a) (.int k b)=some (.bool (decide (b≤a))):=by simp [pbin,abin,aint,ofAV]
theorem zIj (k:IntKind) (ek:EqK) (a b:Int):pbin .quo ek (.int k a) (.int k b)=if b=0 then none else some (.int k (k.wrap (a.tdiv b))):=by simp only [pbin,abin,aint,if_true];split<;>rfl
theorem zIi (k:IntKind) (ek:EqK) (a b:Int):pbin .rem ek (.int k a) (.int k b)=if b=0 then none else some (.int k (a.tmod b)):=by simp only [pbin,abin,aint,if_true];split<;>rfl
theorem zGQ (n:Nat) (xs ys:List PV):pbin .eql (.ints n) (.agg xs) (.agg ys)=if xs.length=n∧ys.length=n then(paggB xs ys).bind fun r=>some (.bool r)else none:=rfl
theorem zHV:paggB [] []=some true:=rfl
theorem zGR (k:IntKind) (a b:Int) (xs ys:List PV):paggB (.int k a::xs) (.int k b::ys)=(paggB xs ys).map fun r=>decide (a=b) && r:=by simp [paggB]
theorem zHU (a b:Bool):pbin .eql .bool (.bool a) (.bool b)=some (.bool (a == b)):=rfl
theorem zHT (a b:Bool):pbin .neq .bool (.bool a) (.bool b)=some (.bool !(a == b)):=rfl
theorem zGP (w w':Bool) (a:AV) (n n':Nat) (cs cs':List PV):pbin .eql .slice (.fz w a n cs) (.fz w' .nils n' cs')=some (.bool (ql a)):=rfl
theorem zFH (w w':Bool) (a:AV) (n n':Nat) (cs cs':List PV):pbin .neq .slice (.fz w a n cs) (.fz w' .nils n' cs')=some (.bool (!ql a)):=rfl
theorem zGO (s o n:Nat) (c:Cap) (w':Bool) (n':Nat) (cs':List PV):pbin .eql .slice (.sl s o n c) (.fz w' .nils n' cs')=some (.bool false):=rfl
theorem zFG (s o n:Nat) (c:Cap) (w':Bool) (n':Nat) (cs':List PV):pbin .neq .slice (.sl s o n c) (.fz w' .nils n' cs')=some (.bool true):=rfl
theorem zFF (ek:EqK) (a b:List UInt8):pbin .add ek (.str a) (.str b)=if a.length+b.length≤9223372036854775807 then some (.str (a++b))else none:=by simp only [pbin,astr];split<;>rfl
theorem zFE (ek:EqK) (a b:List UInt8):pbin .eql ek (.str a) (.str b)=some (.bool (a == b)):=rfl
theorem zFD (ek:EqK) (a b:List UInt8):pbin .neq ek (.str a) (.str b)=some (.bool !(a == b)):=rfl
theorem zFW:ql .nils=true:=rfl
theorem zHw (o f n:Nat) (c:Cap):ql (.sl o f n c)=false:=rfl
theorem zJf (k:IntKind) (n:Int):pun .neg (.int k n)=some (.int k (k.wrap (0-n))):=rfl
theorem zJe (b:Bool):pun .not (.bool b)=some (.bool !b):=rfl
theorem zGT (a b:PV):pPick (.bool true) a b=some a:=rfl
theorem zFJ (a b:PV):pPick (.bool false) a b=some b:=rfl
theorem zHc (k k':IntKind) (n:Int):pConv k (.int k' n)=some (.int k (k.wrap n)):=rfl
theorem zIs (s i:Nat):pNil (.ptr s i)=some (.ptr s i):=rfl
theorem zIt (f:FuncId) (a b:List PV):pNil (.clo f a b)=some (.clo f a b):=rfl
theorem zJr (a:AV) (c:PV) (cs:List PV):pNil (.fp a (c::cs))=some (.fp a (c::cs)):=rfl
theorem zGV (n off:Nat) (cs:List PV):zAu true n off (.agg cs)=some (.agg ((cs.drop off).take n)):=rfl
theorem zGU (n off:Nat) (cs:List PV):zAu false n off (.agg cs)=cs[off]?:=rfl
theorem zC5 (off s i:Nat):Zm off (.ptr s i)=some (.ptr s (i+off)):=rfl
theorem zDb (off:Nat) (a:AV) (c:PV) (cs:List PV):Zm off (.fp a (c::cs))=some (.fp (pAdd a off) ((c::cs).drop off)):=rfl
theorem zHa (sz s off len:Nat) (c:Cap) (k:IntKind) (n:Int):zAF sz (.sl s off len c) (.int k n)=if 0≤n∧n<len then some (.ptr s (off+n.toNat*sz))else none:=rfl
theorem zHb (sz:Nat) (w:Bool) (a:AV) (len:Nat) (cs:List PV) (k:IntKind) (n:Int):zAF sz (.fz w a len cs) (.int k n)=if 0≤n∧n<len then some (.fp (pAt a (n.toNat*sz)) (cs.drop (n.toNat*sz)))else none:=rfl
theorem zFM (s:List UInt8) (k:IntKind) (n:Int):zBK (.str s) (.int k n)=if 0≤n then(s[n.toNat]?).map fun c=>.int .u8 c.toNat else none:=rfl
theorem zEH (vs:List PV) (i:Nat):zAX (.tup vs) i=vs[i]?:=rfl
theorem zJt (w:Bool) (a:AV) (n:Nat) (cs:List PV):pLen (.fz w a n cs)=some (.int .i64 n):=rfl
theorem zJs (s o n:Nat) (c:Cap):pLen (.sl s o n c)=some (.int .i64 n):=rfl
theorem zFL (s:List UInt8):zBJ (.str s)=some (.int .i64 s.length):=rfl
theorem zHd (w:Bool) (l:Nat) (cs:List PV):pCap (.fz w .nils l cs)=some (.int .i64 0):=rfl
theorem zJu (s o n c:Nat):pCap (.sl s o n (.known c))=some (.int .i64 c):=rfl
theorem zFK (mx:Bool) (k:IntKind) (a b:Int):zAE mx (.int k a) (.int k b)=some (.int k (if mx=true then max a b else min a b)):=by simp [zAE]
theorem zHL (n s i:Nat):pldv false n (.ptr s i) h=h.rd1 s i:=rfl
theorem zHK (n s i:Nat):pldv true n (.ptr s i) h=(h.rd s i n).map .agg:=rfl
theorem zIe (n:Nat) (a:AV) (cs:List PV):pldv false n (.fp a cs) h=cs[0]?:=rfl
theorem zId (n:Nat) (a:AV) (cs:List PV):pldv true n (.fp a cs) h=if 0<n∧n≤cs.length then some (.agg (cs.take n))else none:=rfl
theorem zHJ:h.news []=h:=rfl
theorem zGE (z:List AV) (zs:List (List AV)):h.news (z::zs)=(h.new (ofAVs z)).news zs:=rfl
theorem zGs (recs:List RecP):Zx [] recs h=True:=by
 apply propext;refine⟨fun _=>trivial,fun _=>?_⟩
 induction recs with
 | nil=>trivial
 | cons r rs ih=>exact⟨by simp,ih⟩
theorem zFb (c:List Nat):Zx c [] h=True:=rfl
theorem zFc (c:List Nat) (i:Nat) (a:Bool) (n:Nat) (x v:PV) (rs:List RecP):Zx c (⟨i,a,n,x,v⟩::rs) h=((if c.contains i=true then pldv a n x h=some v else True)∧Zx c rs h):=rfl
theorem zE0 (d:Option Nat) (a:Bool) (n:Nat) (x:IX) (g:Option (Nat×Bool)) (i:Nat) (c:List Nat) (v:PV):zi ⟨⟨d,.load a n x,true,g⟩,i,c⟩ e v=if QS g e=true then [⟨i,a,n,x.pv e,v⟩]else []:=rfl
theorem zG3 (d:Option Nat) (x:IX) (g:Option (Nat×Bool)) (i:Nat) (c:List Nat) (v:PV):zi ⟨⟨d,(.mv x),true,g⟩,i,c⟩ e v=[]:=rfl
theorem zEz (d:Option Nat) (x y z:IX) (g:Option (Nat×Bool)) (i:Nat) (c:List Nat) (v:PV):zi ⟨⟨d,(.pick x y z),true,g⟩,i,c⟩ e v=[]:=rfl
theorem zF9 (d:Option Nat) (op:BinOp) (ek:EqK) (x y:IX) (g:Option (Nat×Bool)) (i:Nat) (c:List Nat) (v:PV):zi ⟨⟨d,(.bin op ek x y),true,g⟩,i,c⟩ e v=[]:=rfl
theorem zG1 (d:Option Nat) (op:UnOp) (x:IX) (g:Option (Nat×Bool)) (i:Nat) (c:List Nat) (v:PV):zi ⟨⟨d,(.un op x),true,g⟩,i,c⟩ e v=[]:=rfl
theorem zE1 (d:Option Nat) (k:IntKind) (x:IX) (g:Option (Nat×Bool)) (i:Nat) (c:List Nat) (v:PV):zi ⟨⟨d,(.conv k x),true,g⟩,i,c⟩ e v=[]:=rfl
theorem zCS (d:Option Nat) (x:IX) (g:Option (Nat×Bool)) (i:Nat) (c:List Nat) (v:PV):zi ⟨⟨d,(.nilCheck x),true,g⟩,i,c⟩ e v=[]:=rfl
theorem zDy (d:Option Nat) (z:List AV) (ps:List (Nat×Nat×IX)) (g:Option (Nat×Bool)) (i:Nat) (c:List Nat) (v:PV):zi ⟨⟨d,(.build z ps),true,g⟩,i,c⟩ e v=[]:=rfl
theorem zDx (d:Option Nat) (a:Bool) (n off:Nat) (x:IX) (g:Option (Nat×Bool)) (i:Nat) (c:List Nat) (v:PV):zi ⟨⟨d,(.field a n off x),true,g⟩,i,c⟩ e v=[]:=rfl
theorem zBu (d:Option Nat) (off:Nat) (x:IX) (g:Option (Nat×Bool)) (i:Nat) (c:List Nat) (v:PV):zi ⟨⟨d,(.fieldAddr off x),true,g⟩,i,c⟩ e v=[]:=rfl
theorem zBt (d:Option Nat) (sz:Nat) (x y:IX) (g:Option (Nat×Bool)) (i:Nat) (c:List Nat) (v:PV):zi ⟨⟨d,(.indexAddr sz x y),true,g⟩,i,c⟩ e v=[]:=rfl
theorem zCU (d:Option Nat) (x y:IX) (g:Option (Nat×Bool)) (i:Nat) (c:List Nat) (v:PV):zi ⟨⟨d,(.indexStr x y),true,g⟩,i,c⟩ e v=[]:=rfl
theorem zC2 (d:Option Nat) (x:IX) (j:Nat) (g:Option (Nat×Bool)) (i:Nat) (c:List Nat) (v:PV):zi ⟨⟨d,(.extract x j),true,g⟩,i,c⟩ e v=[]:=rfl
theorem zF7 (d:Option Nat) (x:IX) (g:Option (Nat×Bool)) (i:Nat) (c:List Nat) (v:PV):zi ⟨⟨d,(.len x),true,g⟩,i,c⟩ e v=[]:=rfl
theorem zDX (d:Option Nat) (x:IX) (g:Option (Nat×Bool)) (i:Nat) (c:List Nat) (v:PV):zi ⟨⟨d,(.lenStr x),true,g⟩,i,c⟩ e v=[]:=rfl
theorem zF8 (d:Option Nat) (x:IX) (g:Option (Nat×Bool)) (i:Nat) (c:List Nat) (v:PV):zi ⟨⟨d,(.cap x),true,g⟩,i,c⟩ e v=[]:=rfl
theorem zDw (d:Option Nat) (sz:Nat) (x:IX) (lo hi mx:Option IX) (g:Option (Nat×Bool)) (i:Nat) (c:List Nat) (v:PV):zi ⟨⟨d,(.slice sz x lo hi mx),true,g⟩,i,c⟩ e v=[]:=rfl
theorem zCR (d:Option Nat) (x:IX) (lo hi:Option IX) (g:Option (Nat×Bool)) (i:Nat) (c:List Nat) (v:PV):zi ⟨⟨d,(.sliceStr x lo hi),true,g⟩,i,c⟩ e v=[]:=rfl
theorem zDW (d:Option Nat) (mx:Bool) (x y:IX) (g:Option (Nat×Bool)) (i:Nat) (c:List Nat) (v:PV):zi ⟨⟨d,(.maxmin mx x y),true,g⟩,i,c⟩ e v=[]:=rfl
theorem zCT (d:Option Nat) (f:FuncId) (y z:List IX) (g:Option (Nat×Bool)) (i:Nat) (c:List Nat) (v:PV):zi ⟨⟨d,(.makeFunc f y z),true,g⟩,i,c⟩ e v=[]:=rfl
theorem zF6 (d:Option Nat) (j:Nat) (g:Option (Nat×Bool)) (i:Nat) (c:List Nat) (v:PV):zi ⟨⟨d,(.rev j),true,g⟩,i,c⟩ e v=[]:=rfl
theorem zBe (d:Option Nat) (j m:Nat) (g:Option (Nat×Bool)) (i:Nat) (c:List Nat) (v:PV):zi ⟨⟨d,(.revS j m),true,g⟩,i,c⟩ e v=[]:=rfl
theorem zDp:QS none e=true:=rfl
theorem zDo (t:Nat) (b:Bool):QS (some (t,b)) e=(match e t with | .bool c=>decide (c=b) | _=>false):=rfl
theorem zF5:qj [] e h=some []:=rfl
theorem zF4 (t:Nat) (r:List IRes):qj (.tmp t::r) e h=(qj r e h).map fun vs=>e t::vs:=rfl
theorem zEw (t:Nat) (a:Bool) (n:Nat) (r:List IRes):qj (.cell t a n::r) e h=(pldv a n (e t) h).bind fun v=>(qj r e h).map fun vs=>v::vs:=rfl
theorem zEx (res:List IRes):retP res KA .normal e h=optK (qj res e h) fun vs=>KA (packP vs) h:=rfl
theorem zII (res:List IRes):retP res KA .ret e h=optK (qj res e h) fun vs=>KA (packP vs) h:=rfl
theorem zHX (v:PV):packP [v]=v:=rfl
theorem zHY:packP []=.tup []:=rfl
theorem zHW (u v:PV) (r:List PV):packP (u::v::r)=.tup (u::v::r):=rfl
theorem zHN (cs:List PV):pfill cs []=some cs:=rfl
theorem zGF (cs:List PV) (off size:Nat) (v:PV) (r:List (Nat×Nat×PV)):pfill cs ((off,size,v)::r)=if v.cells.length=size∧off+size≤cs.length∧v.cells.all PV.one=true then pfill (cs.take off++v.cells++cs.drop (off+size)) r else none:=rfl
theorem zGJ (k:IntKind) (n:Int):PV.cells (.int k n)=[(.int k n)]:=rfl
theorem zIZ (k:IntKind) (n:Int):PV.one (.int k n)=true:=rfl
theorem zFC (b:Bool):PV.cells (.bool b)=[(.bool b)]:=rfl
theorem zHF (b:Bool):PV.one (.bool b)=true:=rfl
theorem zGH (s:List UInt8):PV.cells (.str s)=[(.str s)]:=rfl
theorem zIX (s:List UInt8):PV.one (.str s)=true:=rfl
theorem zFA:PV.cells .nilp=[.nilp]:=rfl
theorem zHD:PV.one .nilp=true:=rfl
theorem zFB:PV.cells .nilf=[.nilf]:=rfl
theorem zHE:PV.one .nilf=true:=rfl
theorem zHQ (w:Bool) (a:AV) (n:Nat) (cs:List PV):PV.cells (.fz w a n cs)=[(.fz w a n cs)]:=rfl
theorem zJk (w:Bool) (a:AV) (n:Nat) (cs:List PV):PV.one (.fz w a n cs)=true:=rfl
theorem zHR (a:AV) (cs:List PV):PV.cells (.fp a cs)=[(.fp a cs)]:=rfl
theorem zJl (a:AV) (cs:List PV):PV.one (.fp a cs)=true:=rfl
theorem zGI (s i:Nat):PV.cells (.ptr s i)=[(.ptr s i)]:=rfl
theorem zIY (s i:Nat):PV.one (.ptr s i)=true:=rfl
theorem zHP (s o n:Nat) (c:Cap):PV.cells (.sl s o n c)=[(.sl s o n c)]:=rfl
theorem zJj (s o n:Nat) (c:Cap):PV.one (.sl s o n c)=true:=rfl
theorem zGK (f:FuncId) (a b:List PV):PV.cells (.clo f a b)=[(.clo f a b)]:=rfl
theorem zIa (f:FuncId) (a b:List PV):PV.one (.clo f a b)=true:=rfl
theorem zGL (cs:List PV):PV.cells (.agg cs)=cs:=rfl
theorem zGM (k:IntKind) (i:Int) (y:Nat):qm (.int k i) y=if 0≤i∧i≤y then some i.toNat else none:=rfl
theorem zD5 (x:PV) (d y:Nat):zY (some x) d y=qm x y:=rfl
theorem zD6 (d y:Nat):zY none d y=some d:=rfl
theorem zG9 (sz:Nat) (w:Bool) (a:AV) (len:Nat) (cs:List PV) (lo hi:Option PV):ZF sz (.fz w a len cs) lo hi none=(zY hi len len).bind fun h=>(zY lo 0 h).bind fun l=>some (.fz false (pslA sz a l h) (h-l) ((cs.drop (l*sz)).take ((h-l)*sz))):=rfl
theorem zG8 (sz s off len g:Nat) (lo:Option PV) (hi mx:PV):ZF sz (.sl s off len (.grown g)) lo (some hi) (some mx)=(qm mx len).bind fun m=>(qm hi m).bind fun h=>(zY lo 0 h).bind fun l=>some (.sl s (if m=l then 0 else off+l*sz) (h-l) (.known (m-l))):=by
 simp [ZF,zY]
theorem zAq (sz s off len c:Nat) (lo hi mx:Option PV):ZF sz (.sl s off len (.known c)) lo hi mx=(zY mx c c).bind fun m=>(zY hi len m).bind fun h=>(zY lo 0 h).bind fun l=>if hi.isNone=true∧mx.isSome=true then none else some (.sl s (if m=l then off else off+l*sz) (h-l) (.known (m-l))):=rfl
theorem zD4 (sz s off len g:Nat) (lo hi:Option PV):ZF sz (.sl s off len (.grown g)) lo hi none=(zY hi len len).bind fun h=>(zY lo 0 h).bind fun l=>some (.sl s (off+l*sz) (h-l) (.grown (if g=sz then g else 0))):=rfl
theorem zDY (s:List UInt8) (lo hi:Option PV):Qm (.str s) lo hi=(zY hi s.length s.length).bind fun h=>(zY lo 0 h).bind fun l=>some (.str ((s.take h).drop l)):=rfl
theorem zJp (w:Bool) (a:AV) (n:Nat) (cs:List PV):plen (.fz w a n cs)=some n:=rfl
theorem zJo (s o n:Nat) (c:Cap):plen (.sl s o n c)=some n:=rfl
theorem zAW (sz bytes:Nat) (s x:PV):qA sz bytes h s x=(plen x).bind fun m=>if m=0 then(psame s).map fun v=>(v,h)else(ZL sz h x m).bind fun news=>pgrow sz bytes h s news m:=rfl
theorem zE6 (s o n c:Nat):psame (.sl s o n (.known c))=if n≤c then some (.sl s o n (.known c))else none:=rfl
theorem zAs (sz:Nat) (w:Bool) (a:AV) (len:Nat) (cs:List PV) (n:Nat):ZL sz h (.fz w a len cs) n=if n=0 then some []else if n≤len∧n*sz≤cs.length∧0<sz then some (cs.take (n*sz))else none:=rfl
theorem Qn (sz s off len:Nat) (c:Cap) (n:Nat):ZL sz h (.sl s off len c) n=if n=0 then some []else if n≤len then h.rd s off (n*sz)else none:=rfl
theorem zCY (sz bytes:Nat) (w:Bool) (n:Nat) (cs news:List PV) (m:Nat):pgrow sz bytes h (.fz w .nils n cs) news m=if m*bytes≤140737488355328∧m≤4611686018427387904 then some (.sl h.next 0 m (.grown sz),h.new news)else none:=rfl
theorem zBh (sz bytes s off len c:Nat) (news:List PV) (m:Nat):pgrow sz bytes h (.sl s off len (.known c)) news m=if len+m≤c then(h.wr s (off+len*sz) news).map fun σ'=>(.sl s off (len+m) (.known c),σ')else if (len+m)*bytes≤140737488355328∧len+m≤4611686018427387904 then(h.rd s off (len*sz)).map fun old=>(.sl h.next 0 (len+m) (.grown sz),h.new (old++news))else none:=rfl
theorem zBi (sz bytes s off len g:Nat) (news:List PV) (m:Nat):pgrow sz bytes h (.sl s off len (.grown g)) news m=if (len+m)*bytes≤140737488355328∧len+m≤4611686018427387904∧g=sz then(h.obj s).bind fun cs=>if off+len*sz≤cs.length then some (.sl h.next 0 (len+m) (.grown sz),(h.kill s).new ((cs.drop off).take (len*sz)++news))else none else none:=rfl
theorem zIW (cs:List PV) (s i:Nat):(h.new cs).rd1 s i=if s=h.next then cs[i]? else h.rd1 s i:=by by_cases x:s=h.next<;>simp [PHeap.rd1,PHeap.new,x]
theorem zBI (cs:List PV) (s i n:Nat):(h.new cs).rd s i n=if s=h.next then(if i+n≤cs.length then some ((cs.drop i).take n)else none)else h.rd s i n:=by by_cases x:s=h.next<;>simp [PHeap.rd,PHeap.new,x]
theorem zL (cs:List PV) (s:Nat):(h.new cs).obj s=if s=h.next then some cs else h.obj s:=rfl
theorem zJd (cs:List PV) (s i:Nat) (vs:List PV):(h.new cs).wr s i vs=if s=h.next then(if i+vs.length≤cs.length∧vs.all PV.one=true then some (h.new (cs.take i++vs++cs.drop (i+vs.length)))else none)else(h.wr s i vs).map fun h'=>h'.new cs:=by
 by_cases x:s=h.next
 ·subst x
  simp only [PHeap.wr,PHeap.new,if_true,Option.bind_some]
  split
  ·congr 1
   simp only [PHeap.set]
   congr 1
   funext y
   by_cases hy:y=h.next<;>simp [hy]
  ·rfl
 ·simp only [PHeap.wr,PHeap.new,if_neg x]
  cases ho:h.obj s with
  | none=>rfl
  | some ob=>
   simp only [Option.bind_some]
   split
   ·simp only [Option.map_some,PHeap.set]
    congr 2
    funext y
    by_cases hy:y=s
    ·subst hy;simp [x]
    ·simp [hy]
   ·rfl
theorem zHI (cs:List PV):(h.new cs).next=h.next+1:=rfl
theorem zIR (cs:List PV):(h.new cs).top=h.top:=rfl
theorem zIT (cs:List PV) (s:Nat) (ds:List PV):(h.new cs).set s ds=if s=h.next then h.new ds else(h.set s ds).new cs:=by
 by_cases x:s=h.next
 ·subst x
  rw [if_pos rfl];simp only [PHeap.set,PHeap.new]
  congr 1
  funext y
  by_cases hy:y=h.next<;>simp [hy]
 ·rw [if_neg x]
  simp only [PHeap.set,PHeap.new]
  congr 1
  funext y
  by_cases hy:y=s
  ·subst hy;simp [x]
  ·simp [hy]
theorem zIS (s:Nat) (cs ds:List PV):(h.set s cs).set s ds=h.set s ds:=by
 simp only [PHeap.set]
 congr 1
 funext y
 by_cases hy:y=s<;>simp [hy]
theorem zHH (s:Nat) (cs:List PV):(h.set s cs).next=h.next:=rfl
theorem zGD (s:Nat):(h.kill s).next=h.next:=rfl
theorem zIb (t:Nat):(h.up t).next=h.next:=rfl
theorem zJg (t:Nat):(h.up t).top=t:=rfl
theorem zJn (t:Nat) (cs:List PV):(h.up t).new cs=(h.new cs).up t:=rfl
theorem zJi (t s i:Nat):(h.up t).rd1 s i=h.rd1 s i:=rfl
theorem zKN (t s i n:Nat):(h.up t).rd s i n=h.rd s i n:=rfl
theorem zJm (t s:Nat):(h.up t).obj s=h.obj s:=rfl
theorem zKM (t s i:Nat) (vs:List PV):(h.up t).wr s i vs=(h.wr s i vs).map fun h'=>h'.up t:=by
 simp only [PHeap.wr,PHeap.up];cases h.obj s with
 | none=>rfl
 | some cs=>simp only [Option.bind_some];split<;>rfl
theorem zHG (s t:Nat):(h.kill s).obj t=if t=s then none else h.obj t:=rfl
theorem zJ (s:Nat) (cs:List PV) (t:Nat):(h.set s cs).obj t=if t=s then some cs else h.obj t:=rfl
theorem zHA (s t i:Nat):(h.kill s).rd1 t i=if t=s then none else h.rd1 t i:=by by_cases x:t=s<;>simp [PHeap.rd1,PHeap.kill,x]
theorem zIU (s t i n:Nat):(h.kill s).rd t i n=if t=s then none else h.rd t i n:=by by_cases x:t=s<;>simp [PHeap.rd,PHeap.kill,x]
theorem zIV (s:Nat) (cs:List PV) (t i:Nat):(h.set s cs).rd1 t i=if t=s then cs[i]? else h.rd1 t i:=by by_cases x:t=s<;>simp [PHeap.rd1,PHeap.set,x]
theorem zC4 (s:Nat) (cs:List PV) (t i n:Nat):(h.set s cs).rd t i n=if t=s then(if i+n≤cs.length then some ((cs.drop i).take n)else none)else h.rd t i n:=by by_cases x:t=s<;>simp [PHeap.rd,PHeap.set,x]
theorem zJc (s:Nat) (cs:List PV) (i:Nat) (vs:List PV):(h.set s cs).wr s i vs=if i+vs.length≤cs.length∧vs.all PV.one=true then some (h.set s (cs.take i++vs++cs.drop (i+vs.length)))else none:=by
 simp only [PHeap.wr,PHeap.set,if_true,Option.bind_some]
 split
 ·congr 2
  funext y
  by_cases hy:y=s<;>simp [hy]
 ·rfl
end
def pw0:=And.intro @zJP <| And.intro @zGv <| And.intro @zJR <| And.intro @zKD <| And.intro @zJS <| And.intro @zIE <| And.intro @zJQ <| And.intro @zKE <| And.intro @zJ9 <| And.intro @RVp_q <| And.intro @RVp_e <| And.intro @zKA <| And.intro @DVp_q <| And.intro @DVp_e <| And.intro @zI2 <| And.intro @zI1 <| And.intro @zI4 <| And.intro @zI3 <| And.intro @zE8 <| And.intro @zEE <| And.intro @zGG <| And.intro @zE9 <| And.intro @zED <| And.intro @zEB <| And.intro @zEA <| And.intro @zEC <| And.intro @pv_t <| And.intro @pv_c <| And.intro @zIc <| @zHB
def pw1:=And.intro @zHC <| And.intro @qp_mv <| And.intro @zJZ <| And.intro @zKL <| And.intro @qp_un <| And.intro @zJb <| And.intro @zE3 <| And.intro @zIQ <| And.intro @zIP <| And.intro @zD2 <| And.intro @zD1 <| And.intro @zE5 <| And.intro @zGA <| And.intro @zKJ <| And.intro @zG6 <| And.intro @zKK <| And.intro @zIO <| And.intro @zE2 <| And.intro @zG5 <| And.intro @zE4 <| And.intro @zJa <| And.intro @zKI <| And.intro @zJY <| And.intro @zJC <| And.intro @zKb <| And.intro @zGh <| And.intro @zJA <| And.intro @zGS <| And.intro @zH2 <| And.intro @zFY <| @zFN
def pw2:=And.intro @zHZ <| And.intro @zH3 <| And.intro @zJ5 <| And.intro @zJ6 <| And.intro @zJB <| And.intro @zGW <| And.intro @zIw <| And.intro @of_bool <| And.intro @of_int <| And.intro @zKQ <| And.intro @zJy <| And.intro @zJz <| And.intro @zJx <| And.intro @zKR <| And.intro @zKS <| And.intro @zJw <| And.intro @zIv <| And.intro @zJv <| And.intro @zIr <| And.intro @zIh <| And.intro @zIl <| And.intro @zIq <| And.intro @zIk <| And.intro @zIm <| And.intro @zIn <| And.intro @zIo <| And.intro @zIp <| And.intro @zIj <| And.intro @zIi <| @zGQ
def pw3:=And.intro @zHV <| And.intro @zGR <| And.intro @zHU <| And.intro @zHT <| And.intro @zGP <| And.intro @zFH <| And.intro @zGO <| And.intro @zFG <| And.intro @zFF <| And.intro @zFE <| And.intro @zFD <| And.intro @zFW <| And.intro @zHw <| And.intro @zJf <| And.intro @zJe <| And.intro @zGT <| And.intro @zFJ <| And.intro @zHc <| And.intro @zIs <| And.intro @zIt <| And.intro @zJr <| And.intro @zGV <| And.intro @zGU <| And.intro @zC5 <| And.intro @zDb <| And.intro @zHa <| And.intro @zHb <| And.intro @zFM <| And.intro @zEH <| @zJt
def pw4:=And.intro @zJs <| And.intro @zFL <| And.intro @zHd <| And.intro @zJu <| And.intro @zFK <| And.intro @zHL <| And.intro @zHK <| And.intro @zIe <| And.intro @zId <| And.intro @zHJ <| And.intro @zGE <| And.intro @zGs <| And.intro @zFb <| And.intro @zFc <| And.intro @zE0 <| And.intro @zG3 <| And.intro @zEz <| And.intro @zF9 <| And.intro @zG1 <| And.intro @zE1 <| And.intro @zCS <| And.intro @zDy <| And.intro @zDx <| And.intro @zBu <| And.intro @zBt <| And.intro @zCU <| And.intro @zC2 <| And.intro @zF7 <| And.intro @zDX <| @zF8
def pw5:=And.intro @zDw <| And.intro @zCR <| And.intro @zDW <| And.intro @zCT <| And.intro @zF6 <| And.intro @zBe <| And.intro @zDp <| And.intro @zDo <| And.intro @zF5 <| And.intro @zF4 <| And.intro @zEw <| And.intro @zEx <| And.intro @zII <| And.intro @zHX <| And.intro @zHY <| And.intro @zHW <| And.intro @zHN <| And.intro @zGF <| And.intro @zGJ <| And.intro @zIZ <| And.intro @zFC <| And.intro @zHF <| And.intro @zGH <| And.intro @zIX <| And.intro @zFA <| And.intro @zHD <| And.intro @zFB <| And.intro @zHE <| And.intro @zHQ <| And.intro @zJk <| @zHR
def pw6:=And.intro @zJl <| And.intro @zGI <| And.intro @zIY <| And.intro @zHP <| And.intro @zJj <| And.intro @zGK <| And.intro @zIa <| And.intro @zGL <| And.intro @zGM <| And.intro @zD5 <| And.intro @zD6 <| And.intro @zG9 <| And.intro @zAq <| And.intro @zD4 <| And.intro @zDY <| And.intro @zJp <| And.intro @zJo <| And.intro @zIW <| And.intro @zBI <| And.intro @zL <| And.intro @zJd <| And.intro @zHI <| And.intro @zIR <| And.intro @zIT <| And.intro @zIS <| And.intro @zHH <| And.intro @zGD <| And.intro @zIb <| And.intro @zJg <| @zJn
def pw7:=And.intro @zJi <| And.intro @zKN <| And.intro @zJm <| And.intro @zKM <| And.intro @zHG <| And.intro @zJ <| And.intro @zHA <| And.intro @zIU <| And.intro @zIV <| And.intro @zC4 <| And.intro @zJc <| And.intro @Qo <| And.intro @QD <| And.intro @zHe <| And.intro @zIu <| And.intro @List.map_cons.{0,0} <| And.intro @List.map_nil.{0,0} <| And.intro @List.length_cons.{0} <| And.intro @List.length_nil.{0} <| And.intro @List.getElem?_cons_zero.{0} <| And.intro @List.getElem?_cons_succ.{0} <| And.intro @List.take_succ_cons.{0} <| And.intro @List.take_zero.{0} <| And.intro @List.drop_succ_cons.{0} <| And.intro @List.drop_zero.{0} <| And.intro @List.take_nil.{0} <| And.intro @List.drop_nil.{0} <| And.intro @List.nil_append.{0} <| And.intro @List.cons_append.{0} <| @List.append_nil.{0}
def pw8:=And.intro @List.all_cons.{0} <| And.intro @List.all_nil.{0} <| And.intro @List.contains_cons.{0} <| And.intro @List.contains_nil.{0} <| And.intro @Option.map_some.{0,0} <| And.intro @Option.map_none.{0,0} <| And.intro @Option.bind_some.{0,0} <| And.intro @Option.bind_none.{0,0} <| And.intro @decide_true <| And.intro @decide_false <| And.intro @Bool.not_true <| And.intro @Bool.not_false <| And.intro @Bool.and_true <| And.intro @Bool.true_and <| And.intro @Bool.and_self <| And.intro @Bool.or_false <| And.intro @Bool.or_true <| And.intro @Bool.true_or <| And.intro @Bool.false_or <| And.intro @true_and <| And.intro @and_true <| And.intro @Bool.true_eq_false <| And.intro @Bool.false_eq_true <| And.intro @Nat.left_eq_add <| And.intro @Nat.add_eq_left <| And.intro @Nat.succ_ne_self <| And.intro @Nat.one_ne_zero <| And.intro @Nat.add_left_cancel_iff <| And.intro @Nat.add_assoc <| @Nat.mul_one
def pw9:=And.intro @Nat.zero_add <| And.intro @Nat.add_zero <| And.intro @Nat.le_refl <| And.intro @Nat.lt_add_one <| And.intro @Int.toNat_natCast <| And.intro @Int.natCast_nonneg <| And.intro @Int.ofNat_lt <| And.intro @Int.le_refl <| And.intro @zFx <| And.intro @zFy <| And.intro @zDl <| And.intro @Nat.one_mul <| @Nat.zero_mul
def pwA:=And.intro pw0 <| And.intro pw1 <| And.intro pw2 <| And.intro pw3 <| And.intro pw4 <| And.intro pw5 <| And.intro pw6 <| And.intro pw7 <| And.intro pw8 <| And.intro pw9 <| And.intro @nm_eq <| And.intro @eq_self.{1} <| And.intro @Int.ofNat_le @List.getElem?_drop.{0}
end Go.Ab
