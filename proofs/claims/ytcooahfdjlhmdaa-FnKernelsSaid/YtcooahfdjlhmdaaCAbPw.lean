/- THE RULES BY WHICH CODE IS WALKED over values without a heap: equations, and the one name 'pw' for all of them. Written by a program. -/
import Derived.Test.YtcooahfdjlhmdaaCAbPg
import Derived.Test.YtcooahfdjlhmdaaCAbAid
set_option linter.unusedVariables false
set_option linter.unusedSimpArgs false
set_option linter.defProp false
namespace Go.Ab
section
variable {P:Program} {Q:Exit→PEnv→PHeap→Prop} {e:PEnv} {h:PHeap} {K:PEnv→PHeap→Prop} {KA:PV→PHeap→Prop} {nb nr:Nat}
theorem zI8:vp P .skip Q e h=Q .normal e h:=rfl
theorem zGZ (S:List Nat) (its:List II):vp P (.region S its) Q e h=RVp P its e h fun e' h'=>Q .normal (PEnv.mk S (S.map e')) h':=rfl
theorem zJA (S:List Nat) (zs:List (List AV)) (its:List DI):vp P (.draw S zs its) Q e h=DVp P h.next zs.length its [] e (h.news zs) fun e' h'=>Q .normal (PEnv.mk S (S.map e')) h':=rfl
theorem zJr (a b:IC):vp P (.seq a b) Q e h=vp P a (fun x e' h'=>match x with | .normal=>vp P b Q e' h' | x=>Q x e' h') e h:=rfl
theorem zJB (c:IX) (a b:IC):vp P (.cond c a b) Q e h=qw (c.pv e) (vp P a Q e h) (vp P b Q e h):=rfl
theorem zHu (id:Nat) (c:IC):vp P (.block id c) Q e h=vp P c (fun x e' h'=>match x with | .exit id'=>if id'=id then Q .normal e' h' else Q (.exit id') e' h' | x=>Q x e' h') e h:=rfl
theorem zI9 (id:Nat):vp P (.exit id) Q e h=Q (.exit id) e h:=rfl
theorem zJs:vp P .ret Q e h=Q .ret e h:=rfl
theorem zJo:RVp P [] e h K=K e h:=rfl
theorem RVp_q (d:Option Nat) (op:IOp) (g:Option (Nat×Bool)) (r:List II):RVp P (⟨d,op,true,g⟩::r) e h K=optK (gqp 0 0 ⟨d,op,true,g⟩ e h) fun v=>RVp P r (e.put d v) h K:=rfl
theorem RVp_e (d:Option Nat) (op:IOp) (g:Option (Nat×Bool)) (r:List II):RVp P (⟨d,op,false,g⟩::r) e h K=gep P ⟨d,op,false,g⟩ e h fun v h'=>RVp P r (e.put d v) h' K:=rfl
theorem zJp (recs:List RecP):DVp P nb nr [] recs e h K=K e h:=rfl
theorem DVp_q (d:Option Nat) (op:IOp) (g:Option (Nat×Bool)) (i:Nat) (c:List Nat) (r:List DI) (recs:List RecP):DVp P nb nr (⟨⟨d,op,true,g⟩,i,c⟩::r) recs e h K=optK (gqp nb nr ⟨d,op,true,g⟩ e h) fun v=>DVp P nb nr r (zZ ⟨⟨d,op,true,g⟩,i,c⟩ e v++recs) (e.put d v) h K:=rfl
theorem DVp_e (d:Option Nat) (op:IOp) (g:Option (Nat×Bool)) (i:Nat) (c:List Nat) (r:List DI) (recs:List RecP):DVp P nb nr (⟨⟨d,op,false,g⟩,i,c⟩::r) recs e h K=gep P ⟨d,op,false,g⟩ e h fun v h'=>Zv c recs h'∧DVp P nb nr r recs (e.put d v) h' K:=rfl
theorem zIm (d:Option Nat) (op:IOp) (q:Bool):gqp nb nr ⟨d,op,q,none⟩ e h=qp nb nr op e h:=rfl
theorem zIl (d:Option Nat) (op:IOp) (q:Bool) (t:Nat) (b:Bool):gqp nb nr ⟨d,op,q,some (t,b)⟩ e h=Zc (e t) b (qp nb nr op e h):=rfl
theorem zIo (d:Option Nat) (op:IOp) (q:Bool):gep P ⟨d,op,q,none⟩ e h KA=ep P op e h KA:=rfl
theorem zIn (d:Option Nat) (op:IOp) (q:Bool) (t:Nat) (b:Bool):gep P ⟨d,op,q,some (t,b)⟩ e h KA=qo (e t) b (ep P op e h KA) (KA (.tup []) h):=rfl
theorem zEo (a b:Prop):qw (.bool true) a b=a:=rfl
theorem zDn (a b:Prop):qw (.bool false) a b=b:=rfl
theorem zFv (c:Prop) [Decidable c] (a b:Prop):qw (.bool (decide c)) a b=if c then a else b:=by by_cases x:c<;>simp [qw,x]
theorem zEp (c:Prop) [Decidable c] (a b:Prop):qw (.bool (!decide c)) a b=if c then b else a:=by by_cases x:c<;>simp [qw,x]
theorem zDm (c b:Bool) (x y:Prop):qo (.bool c) b x y=if c=b then x else y:=rfl
theorem zDk (c b:Bool) (x:Option PV):Zc (.bool c) b x=if c=b then x else some (.tup []):=rfl
theorem zDj (b:Bool) (x:Option PV):Zc (.tup []) b x=some (.tup []):=rfl
theorem zDl (b:Bool) (x y:Prop):qo (.tup []) b x y=y:=rfl
theorem pv_t (n:Nat):(IX.t n).pv e=e n:=rfl
theorem pv_c (v:AV):(IX.c v).pv e=ofAV v:=rfl
theorem zIK (s:Nat) (S:List Nat) (v:PV) (vs:List PV) (t:Nat):PEnv.mk (s::S) (v::vs) t=if t=s then v else PEnv.mk S vs t:=rfl
theorem zGs (d:Nat) (v:PV) (t:Nat):e.put (some d) v t=if t=d then v else e t:=rfl
theorem zGt (v:PV):e.put none v=e:=rfl
theorem qp_mv (x:IX):qp nb nr (.mv x) e h=some (x.pv e):=rfl
theorem zJH (c a b:IX):qp nb nr (.pick c a b) e h=pPick (c.pv e) (a.pv e) (b.pv e):=rfl
theorem zJ0 (op:BinOp) (ek:EqK) (x y:IX):qp nb nr (.bin op ek x y) e h=pbin op ek (x.pv e) (y.pv e):=rfl
theorem qp_un (op:UnOp) (x:IX):qp nb nr (.un op x) e h=pun op (x.pv e):=rfl
theorem zJJ (k:IntKind) (x:IX):qp nb nr (.conv k x) e h=pConv k (x.pv e):=rfl
theorem zEj (x:IX):qp nb nr (.nilCheck x) e h=pNil (x.pv e):=rfl
theorem zH8 (z:List AV) (ps:List (Nat×Nat×IX)):qp nb nr (.build z ps) e h=(pfill (ofAVs z) (ps.map fun p=>(p.1,p.2.1,p.2.2.pv e))).map .agg:=rfl
theorem zH7 (a:Bool) (n off:Nat) (x:IX):qp nb nr (.field a n off x) e h=zAk a n off (x.pv e):=rfl
theorem zDe (off:Nat) (x:IX):qp nb nr (.fieldAddr off x) e h=Zl off (x.pv e):=rfl
theorem zDd (sz:Nat) (x i:IX):qp nb nr (.indexAddr sz x i) e h=zAD sz (x.pv e) (i.pv e):=rfl
theorem zEl (x i:IX):qp nb nr (.indexStr x i) e h=zA8 (x.pv e) (i.pv e):=rfl
theorem zFp (x:IX) (i:Nat):qp nb nr (.extract x i) e h=zAQ (x.pv e) i:=rfl
theorem zJy (x:IX):qp nb nr (.len x) e h=pLen (x.pv e):=rfl
theorem zGl (x:IX):qp nb nr (.lenStr x) e h=zA7 (x.pv e):=rfl
theorem zJz (x:IX):qp nb nr (.cap x) e h=pCap (x.pv e):=rfl
theorem zH6 (sz:Nat) (x:IX) (lo hi mx:Option IX):qp nb nr (.slice sz x lo hi mx) e h=qg sz (x.pv e) (lo.map (·.pv e)) (hi.map (·.pv e)) (mx.map (·.pv e)):=rfl
theorem zEi (x:IX) (lo hi:Option IX):qp nb nr (.sliceStr x lo hi) e h=Qm (x.pv e) (lo.map (·.pv e)) (hi.map (·.pv e)):=rfl
theorem zGk (mx:Bool) (x y:IX):qp nb nr (.maxmin mx x y) e h=zAC mx (x.pv e) (y.pv e):=rfl
theorem zEk (f:FuncId) (a b:List IX):qp nb nr (.makeFunc f a b) e h=some (.clo f (a.map (·.pv e)) (b.map (·.pv e))):=rfl
theorem zJI (a:Bool) (n:Nat) (x:IX):qp nb nr (.load a n x) e h=pldv a n (x.pv e) h:=rfl
theorem zJx (k:Nat):qp nb nr (.rev k) e h=if k<nr then some (.ptr (nb+k) 0)else none:=rfl
theorem zJG (k n:Nat):qp nb nr (.revS k n) e h=if k<nr then some (.sl (nb+k) 0 n (.known n))else none:=rfl
theorem zIx (z:List AV):ep P (.alloc z) e h KA=KA (.ptr h.next 0) (h.new (ofAVs z)):=rfl
theorem zKJ (x:IX):ep P (.box x) e h KA=((x.pv e).cells.all PV.one=true∧KA (.ptr h.next 0) (h.new (x.pv e).cells)):=rfl
theorem zGM (sz len:Nat) (z:List AV) (ps:List (Nat×Nat×IX)):ep P (.buildSl sz len z ps) e h KA=optK (pfill (ofAVs (zeros z len)) (ps.map fun p=>(p.1,p.2.1,p.2.2.pv e))) fun cs=>KA (.sl h.next 0 len (.known len)) (h.new cs):=rfl
def zCA (n:Nat) (x v:PV) (h:PHeap) (KA:PV→PHeap→Prop):Prop:=
 match x with
 | .ptr s i=>v.cells.length=n∧optK (h.wr s i v.cells) fun h'=>KA .undef h'
 | _=>False
def pMake (sz bytes:Nat) (z:List AV) (l c:PV) (h:PHeap) (KA:PV→PHeap→Prop):Prop:=
 match l,c with
 | .int _ l,.int _ c=>(0≤l∧l≤c∧c*bytes≤140737488355328∧c≤9223372036854775807)∧KA (.sl h.next 0 l.toNat (.known c.toNat)) (h.new (ofAVs (zeros z c.toNat)))
 | _,_=>False
def Qc (sz bytes:Nat) (z:List AV) (s n:PV) (h:PHeap) (KA:PV→PHeap→Prop):Prop:=
 match s,n with
 | .fz _ .nils _ _,.int _ n=>(0≤n∧n*bytes≤140737488355328∧n≤4611686018427387904)∧if 0<n then KA (.sl h.next 0 n.toNat (.grown sz)) (h.new (ofAVs (zeros z n.toNat)))else KA (.fz true .nils 0 []) h
 | .sl s off len c,.int _ n=>(0≤n∧n*bytes≤140737488355328∧n≤4611686018427387904)∧optK (if 0<n then pgrow sz bytes h (.sl s off len c) (ofAVs (zeros z n.toNat)) n.toNat else(psame (.sl s off len c)).map fun v=>(v,h)) fun p=>KA p.1 p.2
 | _,_=>False
def zCB (P:Program) (f:PV) (args:List PV) (h:PHeap) (KA:PV→PHeap→Prop):Prop:=
 match f with
 | .clo f first caps=>okF P f=true∧zB P f (first++args++caps) h KA
 | _=>False
theorem zIv (n:Nat) (x v:IX):ep P (.store n x v) e h KA=zCA n (x.pv e) (v.pv e) h KA:=rfl
theorem zF7 (n s i:Nat) (v:PV):zCA n (.ptr s i) v h KA=(v.cells.length=n∧optK (h.wr s i v.cells) fun h'=>KA .undef h'):=rfl
theorem zHh (sz bytes:Nat) (z:List AV) (l c:IX):ep P (.makeSl sz bytes z l c) e h KA=pMake sz bytes z (l.pv e) (c.pv e) h KA:=rfl
theorem zFA (sz bytes:Nat) (z:List AV) (s n:IX):ep P (.appendMk sz bytes z s n) e h KA=Qc sz bytes z (s.pv e) (n.pv e) h KA:=rfl
theorem zBS (sz bytes:Nat) (z:List AV) (w:Bool) (l:Nat) (cs:List PV) (k:IntKind) (n:Int):Qc sz bytes z (.fz w .nils l cs) (.int k n) h KA=((0≤n∧n*bytes≤140737488355328∧n≤4611686018427387904)∧if 0<n then KA (.sl h.next 0 n.toNat (.grown sz)) (h.new (ofAVs (zeros z n.toNat)))else KA (.fz true .nils 0 []) h):=rfl
theorem zHL (sz bytes:Nat) (z:List AV) (s off len:Nat) (c:Cap) (k:IntKind) (n:Int):Qc sz bytes z (.sl s off len c) (.int k n) h KA=((0≤n∧n*bytes≤140737488355328∧n≤4611686018427387904)∧optK (if 0<n then pgrow sz bytes h (.sl s off len c) (ofAVs (zeros z n.toNat)) n.toNat else(psame (.sl s off len c)).map fun v=>(v,h)) fun p=>KA p.1 p.2):=rfl
theorem zHG (sz bytes:Nat) (z:List AV) (k k':IntKind) (l c:Int):pMake sz bytes z (.int k l) (.int k' c) h KA=((0≤l∧l≤c∧c*bytes≤140737488355328∧c≤9223372036854775807)∧KA (.sl h.next 0 l.toNat (.known c.toNat)) (h.new (ofAVs (zeros z c.toNat)))):=rfl
theorem zHi (sz bytes:Nat) (s x:IX):ep P (.append sz bytes s x) e h KA=optK (qF sz bytes h (s.pv e) (x.pv e)) fun p=>KA p.1 p.2:=rfl
theorem zJl (sz:Nat) (d s:IX):ep P (.copy sz d s) e h KA=optK (pcopy sz h (d.pv e) (s.pv e)) fun p=>KA p.1 p.2:=rfl
theorem zJm (f:FuncId) (args:List IX):ep P (.call f args) e h KA=zB P f (args.map (·.pv e)) h KA:=rfl
theorem zIw (f:IX) (args:List IX):ep P (.callV f args) e h KA=zCB P (f.pv e) (args.map (·.pv e)) h KA:=rfl
theorem zGB (f:FuncId) (a b args:List PV):zCB P (.clo f a b) args h KA=(okF P f=true∧zB P f (a++args++b) h KA):=rfl
theorem zIe:ofAV .undef=.undef:=rfl
theorem of_bool (b:Bool):ofAV (.bool b)=.bool b:=rfl
theorem of_int (k:IntKind) (n:Int):ofAV (.int k n)=.int k n:=rfl
theorem zJ7 (s:List UInt8):ofAV (.str s)=.str s:=rfl
theorem zJe:ofAV .nilp=.nilp:=rfl
theorem zJf:ofAV .nilf=.nilf:=rfl
theorem zJd:ofAV .nils=.fz true .nils 0 []:=rfl
theorem zJ8 (f:FuncId) (a b:List AV):ofAV (.clo f a b)=.clo f (ofAVs a) (ofAVs b):=rfl
theorem zJ9 (a:List AV):ofAV (.agg a)=.agg (ofAVs a):=rfl
theorem zJc:ofAVs []=[]:=rfl
theorem zId (c:AV) (cs:List AV):ofAVs (c::cs)=ofAV c::ofAVs cs:=rfl
theorem zCf (n:Nat) (c:AV):ofAVs (List.replicate n c)=List.replicate n (ofAV c):=by rw [zCx,List.map_replicate]
theorem zIZ (k:IntKind) (ek:EqK) (a b:Int):pbin .add ek (.int k a) (.int k b)=some (.int k (k.wrap (a+b))):=by simp [pbin,abin,aint,ofAV]
theorem zIP (k:IntKind) (ek:EqK) (a b:Int):pbin .sub ek (.int k a) (.int k b)=some (.int k (k.wrap (a-b))):=by simp [pbin,abin,aint,ofAV]
theorem zIT (k:IntKind) (ek:EqK) (a b:Int):pbin .mul ek (.int k a) (.int k b)=some (.int k (k.wrap (a*b))):=by simp [pbin,abin,aint,ofAV]
theorem zIY (k:IntKind) (ek:EqK) (a b:Int):pbin .eql ek (.int k a) (.int k b)=some (.bool (decide (a=b))):=by simp [pbin,abin,aint,ofAV]
theorem zIS (k:IntKind) (ek:EqK) (a b:Int):pbin .neq ek (.int k a) (.int k b)=some (.bool (!decide (a=b))):=by simp [pbin,abin,aint,ofAV]
theorem zIU (k:IntKind) (ek:EqK) (a b:Int):pbin .lss ek (.int k a) (.int k b)=some (.bool (decide (a<b))):=by simp [pbin,abin,aint,ofAV]
theorem zIV (k:IntKind) (ek:EqK) (a b:Int):pbin .leq ek (.int k a) (.int k b)=some (.bool (decide (a≤b))):=by simp [pbin,abin,aint,ofAV]
theorem zIW (k:IntKind) (ek:EqK) (a b:Int):pbin .gtr ek (.int k a) (.int k b)=some (.bool (decide (b<a))):=by simp [pbin,abin,aint,ofAV]
theorem zIX (k:IntKind) (ek:EqK) (a b:Int):pbin .geq ek (.int k a) (.int k b)=some (.bool (decide (b≤a))):=by simp [pbin,abin,aint,ofAV]
theorem zIR (k:IntKind) (ek:EqK) (a b:Int):pbin .quo ek (.int k a) (.int k b)=if b=0 then none else some (.int k (k.wrap (a.tdiv b))):=by simp only [pbin,abin,aint,if_true];split<;>rfl
theorem zIQ (k:IntKind) (ek:EqK) (a b:Int):pbin .rem ek (.int k a) (.int k b)=if b=0 then none else some (.int k (a.tmod b)):=by simp only [pbin,abin,aint,if_true];split<;>rfl
theorem zF5 (n:Nat) (xs ys:List PV):pbin .eql (.ints n) (.agg xs) (.agg ys)=if xs.length=n∧ys.length=n then(paggB xs ys).bind fun r=>some (.bool r)else none:=rfl
theorem zHC:paggB [] []=some true:=rfl
theorem zF6 (k:IntKind) (a b:Int) (xs ys:List PV):paggB (.int k a::xs) (.int k b::ys)=(paggB xs ys).map fun r=>decide (a=b) && r:=by simp [paggB]
theorem zHB (a b:Bool):pbin .eql .bool (.bool a) (.bool b)=some (.bool (a == b)):=rfl
theorem zHA (a b:Bool):pbin .neq .bool (.bool a) (.bool b)=some (.bool !(a == b)):=rfl
theorem zF4 (w w':Bool) (a:AV) (n n':Nat) (cs cs':List PV):pbin .eql .slice (.fz w a n cs) (.fz w' .nils n' cs')=some (.bool (qZ a)):=rfl
theorem zEx (w w':Bool) (a:AV) (n n':Nat) (cs cs':List PV):pbin .neq .slice (.fz w a n cs) (.fz w' .nils n' cs')=some (.bool (!qZ a)):=rfl
theorem zF3 (s o n:Nat) (c:Cap) (w':Bool) (n':Nat) (cs':List PV):pbin .eql .slice (.sl s o n c) (.fz w' .nils n' cs')=some (.bool false):=rfl
theorem zEw (s o n:Nat) (c:Cap) (w':Bool) (n':Nat) (cs':List PV):pbin .neq .slice (.sl s o n c) (.fz w' .nils n' cs')=some (.bool true):=rfl
theorem zEv (ek:EqK) (a b:List UInt8):pbin .add ek (.str a) (.str b)=if a.length+b.length≤9223372036854775807 then some (.str (a++b))else none:=by simp only [pbin,astr];split<;>rfl
theorem zEu (ek:EqK) (a b:List UInt8):pbin .eql ek (.str a) (.str b)=some (.bool (a == b)):=rfl
theorem zEt (ek:EqK) (a b:List UInt8):pbin .neq ek (.str a) (.str b)=some (.bool !(a == b)):=rfl
theorem zE8:qZ .nils=true:=rfl
theorem zHd (o f n:Nat) (c:Cap):qZ (.sl o f n c)=false:=rfl
theorem zJN (k:IntKind) (n:Int):pun .neg (.int k n)=some (.int k (k.wrap (0-n))):=rfl
theorem zJM (b:Bool):pun .not (.bool b)=some (.bool !b):=rfl
theorem zF8 (a b:PV):pPick (.bool true) a b=some a:=rfl
theorem zEz (a b:PV):pPick (.bool false) a b=some b:=rfl
theorem zHJ (k k':IntKind) (n:Int):pConv k (.int k' n)=some (.int k (k.wrap n)):=rfl
theorem zIa (s i:Nat):pNil (.ptr s i)=some (.ptr s i):=rfl
theorem zIb (f:FuncId) (a b:List PV):pNil (.clo f a b)=some (.clo f a b):=rfl
theorem zJY (a:AV) (c:PV) (cs:List PV):pNil (.fp a (c::cs))=some (.fp a (c::cs)):=rfl
theorem zGA (n off:Nat) (cs:List PV):zAk true n off (.agg cs)=some (.agg ((cs.drop off).take n)):=rfl
theorem zF9 (n off:Nat) (cs:List PV):zAk false n off (.agg cs)=cs[off]?:=rfl
theorem zCe (off s i:Nat):Zl off (.ptr s i)=some (.ptr s (i+off)):=rfl
theorem zDF (off:Nat) (a:AV) (c:PV) (cs:List PV):Zl off (.fp a (c::cs))=some (.fp (pAdd a off) ((c::cs).drop off)):=rfl
theorem zHH (sz s off len:Nat) (c:Cap) (k:IntKind) (n:Int):zAD sz (.sl s off len c) (.int k n)=if 0≤n∧n<len then some (.ptr s (off+n.toNat*sz))else none:=rfl
theorem zHI (sz:Nat) (w:Bool) (a:AV) (len:Nat) (cs:List PV) (k:IntKind) (n:Int):zAD sz (.fz w a len cs) (.int k n)=if 0≤n∧n<len then some (.fp (pAt a (n.toNat*sz)) (cs.drop (n.toNat*sz)))else none:=rfl
theorem zE2 (s:List UInt8) (k:IntKind) (n:Int):zA8 (.str s) (.int k n)=if 0≤n then(s[n.toNat]?).map fun c=>.int .u8 c.toNat else none:=rfl
theorem zDr (vs:List PV) (i:Nat):zAQ (.tup vs) i=vs[i]?:=rfl
theorem zJa (w:Bool) (a:AV) (n:Nat) (cs:List PV):pLen (.fz w a n cs)=some (.int .i64 n):=rfl
theorem zJZ (s o n:Nat) (c:Cap):pLen (.sl s o n c)=some (.int .i64 n):=rfl
theorem zE1 (s:List UInt8):zA7 (.str s)=some (.int .i64 s.length):=rfl
theorem zHK (w:Bool) (l:Nat) (cs:List PV):pCap (.fz w .nils l cs)=some (.int .i64 0):=rfl
theorem zJb (s o n c:Nat):pCap (.sl s o n (.known c))=some (.int .i64 c):=rfl
theorem zE0 (mx:Bool) (k:IntKind) (a b:Int):zAC mx (.int k a) (.int k b)=some (.int k (if mx=true then max a b else min a b)):=by simp [zAC]
theorem zG2 (n s i:Nat):pldv false n (.ptr s i) h=h.rd1 s i:=rfl
theorem zG1 (n s i:Nat):pldv true n (.ptr s i) h=(h.rd s i n).map .agg:=rfl
theorem zIM (n:Nat) (a:AV) (cs:List PV):pldv false n (.fp a cs) h=cs[0]?:=rfl
theorem zIL (n:Nat) (a:AV) (cs:List PV):pldv true n (.fp a cs) h=if 0<n∧n≤cs.length then some (.agg (cs.take n))else none:=rfl
theorem zG0:h.news []=h:=rfl
theorem zFt (z:List AV) (zs:List (List AV)):h.news (z::zs)=(h.new (ofAVs z)).news zs:=rfl
theorem zGX (recs:List RecP):Zv [] recs h=True:=by
 apply propext;refine⟨fun _=>trivial,fun _=>?_⟩
 induction recs with
 | nil=>trivial
 | cons r rs ih=>exact⟨by simp,ih⟩
theorem zFF (c:List Nat):Zv c [] h=True:=rfl
theorem zFG (c:List Nat) (i:Nat) (a:Bool) (n:Nat) (x v:PV) (rs:List RecP):Zv c (⟨i,a,n,x,v⟩::rs) h=((if c.contains i=true then pldv a n x h=some v else True)∧Zv c rs h):=rfl
theorem zEg (d:Option Nat) (a:Bool) (n:Nat) (x:IX) (g:Option (Nat×Bool)) (i:Nat) (c:List Nat) (v:PV):zZ ⟨⟨d,.load a n x,true,g⟩,i,c⟩ e v=if QQ g e=true then [⟨i,a,n,x.pv e,v⟩]else []:=rfl
theorem zGh (d:Option Nat) (x:IX) (g:Option (Nat×Bool)) (i:Nat) (c:List Nat) (v:PV):zZ ⟨⟨d,(.mv x),true,g⟩,i,c⟩ e v=[]:=rfl
theorem zEf (d:Option Nat) (x y z:IX) (g:Option (Nat×Bool)) (i:Nat) (c:List Nat) (v:PV):zZ ⟨⟨d,(.pick x y z),true,g⟩,i,c⟩ e v=[]:=rfl
theorem zFo (d:Option Nat) (op:BinOp) (ek:EqK) (x y:IX) (g:Option (Nat×Bool)) (i:Nat) (c:List Nat) (v:PV):zZ ⟨⟨d,(.bin op ek x y),true,g⟩,i,c⟩ e v=[]:=rfl
theorem zGf (d:Option Nat) (op:UnOp) (x:IX) (g:Option (Nat×Bool)) (i:Nat) (c:List Nat) (v:PV):zZ ⟨⟨d,(.un op x),true,g⟩,i,c⟩ e v=[]:=rfl
theorem zEh (d:Option Nat) (k:IntKind) (x:IX) (g:Option (Nat×Bool)) (i:Nat) (c:List Nat) (v:PV):zZ ⟨⟨d,(.conv k x),true,g⟩,i,c⟩ e v=[]:=rfl
theorem zB4 (d:Option Nat) (x:IX) (g:Option (Nat×Bool)) (i:Nat) (c:List Nat) (v:PV):zZ ⟨⟨d,(.nilCheck x),true,g⟩,i,c⟩ e v=[]:=rfl
theorem zDa (d:Option Nat) (z:List AV) (ps:List (Nat×Nat×IX)) (g:Option (Nat×Bool)) (i:Nat) (c:List Nat) (v:PV):zZ ⟨⟨d,(.build z ps),true,g⟩,i,c⟩ e v=[]:=rfl
theorem zDZ (d:Option Nat) (a:Bool) (n off:Nat) (x:IX) (g:Option (Nat×Bool)) (i:Nat) (c:List Nat) (v:PV):zZ ⟨⟨d,(.field a n off x),true,g⟩,i,c⟩ e v=[]:=rfl
theorem zBd (d:Option Nat) (off:Nat) (x:IX) (g:Option (Nat×Bool)) (i:Nat) (c:List Nat) (v:PV):zZ ⟨⟨d,(.fieldAddr off x),true,g⟩,i,c⟩ e v=[]:=rfl
theorem zBc (d:Option Nat) (sz:Nat) (x y:IX) (g:Option (Nat×Bool)) (i:Nat) (c:List Nat) (v:PV):zZ ⟨⟨d,(.indexAddr sz x y),true,g⟩,i,c⟩ e v=[]:=rfl
theorem zB6 (d:Option Nat) (x y:IX) (g:Option (Nat×Bool)) (i:Nat) (c:List Nat) (v:PV):zZ ⟨⟨d,(.indexStr x y),true,g⟩,i,c⟩ e v=[]:=rfl
theorem zCb (d:Option Nat) (x:IX) (j:Nat) (g:Option (Nat×Bool)) (i:Nat) (c:List Nat) (v:PV):zZ ⟨⟨d,(.extract x j),true,g⟩,i,c⟩ e v=[]:=rfl
theorem zFm (d:Option Nat) (x:IX) (g:Option (Nat×Bool)) (i:Nat) (c:List Nat) (v:PV):zZ ⟨⟨d,(.len x),true,g⟩,i,c⟩ e v=[]:=rfl
theorem zDB (d:Option Nat) (x:IX) (g:Option (Nat×Bool)) (i:Nat) (c:List Nat) (v:PV):zZ ⟨⟨d,(.lenStr x),true,g⟩,i,c⟩ e v=[]:=rfl
theorem zFn (d:Option Nat) (x:IX) (g:Option (Nat×Bool)) (i:Nat) (c:List Nat) (v:PV):zZ ⟨⟨d,(.cap x),true,g⟩,i,c⟩ e v=[]:=rfl
theorem zDY (d:Option Nat) (sz:Nat) (x:IX) (lo hi mx:Option IX) (g:Option (Nat×Bool)) (i:Nat) (c:List Nat) (v:PV):zZ ⟨⟨d,(.slice sz x lo hi mx),true,g⟩,i,c⟩ e v=[]:=rfl
theorem zB3 (d:Option Nat) (x:IX) (lo hi:Option IX) (g:Option (Nat×Bool)) (i:Nat) (c:List Nat) (v:PV):zZ ⟨⟨d,(.sliceStr x lo hi),true,g⟩,i,c⟩ e v=[]:=rfl
theorem zDA (d:Option Nat) (mx:Bool) (x y:IX) (g:Option (Nat×Bool)) (i:Nat) (c:List Nat) (v:PV):zZ ⟨⟨d,(.maxmin mx x y),true,g⟩,i,c⟩ e v=[]:=rfl
theorem zB5 (d:Option Nat) (f:FuncId) (y z:List IX) (g:Option (Nat×Bool)) (i:Nat) (c:List Nat) (v:PV):zZ ⟨⟨d,(.makeFunc f y z),true,g⟩,i,c⟩ e v=[]:=rfl
theorem zFl (d:Option Nat) (j:Nat) (g:Option (Nat×Bool)) (i:Nat) (c:List Nat) (v:PV):zZ ⟨⟨d,(.rev j),true,g⟩,i,c⟩ e v=[]:=rfl
theorem zBM (d:Option Nat) (j m:Nat) (g:Option (Nat×Bool)) (i:Nat) (c:List Nat) (v:PV):zZ ⟨⟨d,(.revS j m),true,g⟩,i,c⟩ e v=[]:=rfl
theorem zDP:QQ none e=true:=rfl
theorem zDO (t:Nat) (b:Bool):QQ (some (t,b)) e=(match e t with | .bool c=>decide (c=b) | _=>false):=rfl
theorem zFk:qX [] e h=some []:=rfl
theorem zFj (t:Nat) (r:List IRes):qX (.tmp t::r) e h=(qX r e h).map fun vs=>e t::vs:=rfl
theorem zEc (t:Nat) (a:Bool) (n:Nat) (r:List IRes):qX (.cell t a n::r) e h=(pldv a n (e t) h).bind fun v=>(qX r e h).map fun vs=>v::vs:=rfl
theorem zEd (res:List IRes):retP res KA .normal e h=optK (qX res e h) fun vs=>KA (packP vs) h:=rfl
theorem zHz (res:List IRes):retP res KA .ret e h=optK (qX res e h) fun vs=>KA (packP vs) h:=rfl
theorem zHE (v:PV):packP [v]=v:=rfl
theorem zHF:packP []=.tup []:=rfl
theorem zHD (u v:PV) (r:List PV):packP (u::v::r)=.tup (u::v::r):=rfl
theorem zG4 (cs:List PV):pfill cs []=some cs:=rfl
theorem zFu (cs:List PV) (off size:Nat) (v:PV) (r:List (Nat×Nat×PV)):pfill cs ((off,size,v)::r)=if v.cells.length=size∧off+size≤cs.length∧v.cells.all PV.one=true then pfill (cs.take off++v.cells++cs.drop (off+size)) r else none:=rfl
theorem zFy (k:IntKind) (n:Int):PV.cells (.int k n)=[(.int k n)]:=rfl
theorem zIH (k:IntKind) (n:Int):PV.one (.int k n)=true:=rfl
theorem zEs (b:Bool):PV.cells (.bool b)=[(.bool b)]:=rfl
theorem zGw (b:Bool):PV.one (.bool b)=true:=rfl
theorem zFw (s:List UInt8):PV.cells (.str s)=[(.str s)]:=rfl
theorem zIF (s:List UInt8):PV.one (.str s)=true:=rfl
theorem zEq:PV.cells .nilp=[.nilp]:=rfl
theorem zGu:PV.one .nilp=true:=rfl
theorem zEr:PV.cells .nilf=[.nilf]:=rfl
theorem zGv:PV.one .nilf=true:=rfl
theorem zG7 (w:Bool) (a:AV) (n:Nat) (cs:List PV):PV.cells (.fz w a n cs)=[(.fz w a n cs)]:=rfl
theorem zJR (w:Bool) (a:AV) (n:Nat) (cs:List PV):PV.one (.fz w a n cs)=true:=rfl
theorem zG8 (a:AV) (cs:List PV):PV.cells (.fp a cs)=[(.fp a cs)]:=rfl
theorem zJS (a:AV) (cs:List PV):PV.one (.fp a cs)=true:=rfl
theorem zFx (s i:Nat):PV.cells (.ptr s i)=[(.ptr s i)]:=rfl
theorem zIG (s i:Nat):PV.one (.ptr s i)=true:=rfl
theorem zG6 (s o n:Nat) (c:Cap):PV.cells (.sl s o n c)=[(.sl s o n c)]:=rfl
theorem zJQ (s o n:Nat) (c:Cap):PV.one (.sl s o n c)=true:=rfl
theorem zFz (f:FuncId) (a b:List PV):PV.cells (.clo f a b)=[(.clo f a b)]:=rfl
theorem zII (f:FuncId) (a b:List PV):PV.one (.clo f a b)=true:=rfl
theorem zF0 (cs:List PV):PV.cells (.agg cs)=cs:=rfl
theorem zF1 (k:IntKind) (i:Int) (y:Nat):qC (.int k i) y=if 0≤i∧i≤y then some i.toNat else none:=rfl
theorem zDg (x:PV) (d y:Nat):zO (some x) d y=qC x y:=rfl
theorem zDh (d y:Nat):zO none d y=some d:=rfl
theorem zGp (sz:Nat) (w:Bool) (a:AV) (len:Nat) (cs:List PV) (lo hi:Option PV):qg sz (.fz w a len cs) lo hi none=(zO hi len len).bind fun h=>(zO lo 0 h).bind fun l=>some (.fz false (pslA sz a l h) (h-l) ((cs.drop (l*sz)).take ((h-l)*sz))):=rfl
theorem zGo (sz s off len g:Nat) (lo:Option PV) (hi mx:PV):qg sz (.sl s off len (.grown g)) lo (some hi) (some mx)=(qC mx len).bind fun m=>(qC hi m).bind fun h=>(zO lo 0 h).bind fun l=>some (.sl s (if m=l then 0 else off+l*sz) (h-l) (.known (m-l))):=by
 simp [qg,zO]
theorem Zj (sz s off len c:Nat) (lo hi mx:Option PV):qg sz (.sl s off len (.known c)) lo hi mx=(zO mx c c).bind fun m=>(zO hi len m).bind fun h=>(zO lo 0 h).bind fun l=>if hi.isNone=true∧mx.isSome=true then none else some (.sl s (if m=l then off else off+l*sz) (h-l) (.known (m-l))):=rfl
theorem QY (sz s off len g:Nat) (lo hi:Option PV):qg sz (.sl s off len (.grown g)) lo hi none=(zO hi len len).bind fun h=>(zO lo 0 h).bind fun l=>some (.sl s (off+l*sz) (h-l) (.grown (if g=sz then g else 0))):=rfl
theorem zDC (s:List UInt8) (lo hi:Option PV):Qm (.str s) lo hi=(zO hi s.length s.length).bind fun h=>(zO lo 0 h).bind fun l=>some (.str ((s.take h).drop l)):=rfl
theorem zCd (w:Bool) (a:AV) (n:Nat) (cs:List PV):plen (.fz w a n cs)=some n:=rfl
theorem zJV (s o n:Nat) (c:Cap):plen (.sl s o n c)=some n:=rfl
theorem QM (sz bytes:Nat) (s x:PV):qF sz bytes h s x=(plen x).bind fun m=>if m=0 then(psame s).map fun v=>(v,h)else(ZG sz h x m).bind fun news=>pgrow sz bytes h s news m:=rfl
theorem zEm (s o n c:Nat):psame (.sl s o n (.known c))=if n≤c then some (.sl s o n (.known c))else none:=rfl
theorem zAi (sz:Nat) (w:Bool) (a:AV) (len:Nat) (cs:List PV) (n:Nat):ZG sz h (.fz w a len cs) n=if n=0 then some []else if n≤len∧n*sz≤cs.length∧0<sz then some (cs.take (n*sz))else none:=rfl
theorem QA (sz s off len:Nat) (c:Cap) (n:Nat):ZG sz h (.sl s off len c) n=if n=0 then some []else if n≤len then h.rd s off (n*sz)else none:=rfl
theorem zB9 (sz bytes:Nat) (w:Bool) (n:Nat) (cs news:List PV) (m:Nat):pgrow sz bytes h (.fz w .nils n cs) news m=if m*bytes≤140737488355328∧m≤4611686018427387904 then some (.sl h.next 0 m (.grown sz),h.new news)else none:=rfl
theorem zBP (sz bytes s off len c:Nat) (news:List PV) (m:Nat):pgrow sz bytes h (.sl s off len (.known c)) news m=if len+m≤c then(h.wr s (off+len*sz) news).map fun σ'=>(.sl s off (len+m) (.known c),σ')else if (len+m)*bytes≤140737488355328∧len+m≤4611686018427387904 then(h.rd s off (len*sz)).map fun old=>(.sl h.next 0 (len+m) (.grown sz),h.new (old++news))else none:=rfl
theorem zBQ (sz bytes s off len g:Nat) (news:List PV) (m:Nat):pgrow sz bytes h (.sl s off len (.grown g)) news m=if (len+m)*bytes≤140737488355328∧len+m≤4611686018427387904∧g=sz then(h.obj s).bind fun cs=>if off+len*sz≤cs.length then some (.sl h.next 0 (len+m) (.grown sz),(h.kill s).new ((cs.drop off).take (len*sz)++news))else none else none:=rfl
theorem zIE (cs:List PV) (s i:Nat):(h.new cs).rd1 s i=if s=h.next then cs[i]? else h.rd1 s i:=by by_cases x:s=h.next<;>simp [PHeap.rd1,PHeap.new,x]
theorem zAA (cs:List PV) (s i n:Nat):(h.new cs).rd s i n=if s=h.next then(if i+n≤cs.length then some ((cs.drop i).take n)else none)else h.rd s i n:=by by_cases x:s=h.next<;>simp [PHeap.rd,PHeap.new,x]
theorem zN (cs:List PV) (s:Nat):(h.new cs).obj s=if s=h.next then some cs else h.obj s:=rfl
theorem zJL (cs:List PV) (s i:Nat) (vs:List PV):(h.new cs).wr s i vs=if s=h.next then(if i+vs.length≤cs.length∧vs.all PV.one=true then some (h.new (cs.take i++vs++cs.drop (i+vs.length)))else none)else(h.wr s i vs).map fun h'=>h'.new cs:=by
 by_cases x:s=h.next
 ·subst x
  simp only [PHeap.wr,PHeap.new,if_true,Option.bind_some]
  split
  ·congr 1
   simp only [PHeap.set]
   congr 1
   funext y
   by_cases hy:y=h.next<;>simp [hy]
  ·rfl
 ·simp only [PHeap.wr,PHeap.new,if_neg x]
  cases ho:h.obj s with
  | none=>rfl
  | some ob=>
   simp only [Option.bind_some]
   split
   ·simp only [Option.map_some,PHeap.set]
    congr 2
    funext y
    by_cases hy:y=s
    ·subst hy;simp [x]
    ·simp [hy]
   ·rfl
theorem zGz (cs:List PV):(h.new cs).next=h.next+1:=rfl
theorem zH9 (cs:List PV):(h.new cs).top=h.top:=rfl
theorem zIB (cs:List PV) (s:Nat) (ds:List PV):(h.new cs).set s ds=if s=h.next then h.new ds else(h.set s ds).new cs:=by
 by_cases x:s=h.next
 ·subst x
  rw [if_pos rfl];simp only [PHeap.set,PHeap.new]
  congr 1
  funext y
  by_cases hy:y=h.next<;>simp [hy]
 ·rw [if_neg x]
  simp only [PHeap.set,PHeap.new]
  congr 1
  funext y
  by_cases hy:y=s
  ·subst hy;simp [x]
  ·simp [hy]
theorem zIA (s:Nat) (cs ds:List PV):(h.set s cs).set s ds=h.set s ds:=by
 simp only [PHeap.set]
 congr 1
 funext y
 by_cases hy:y=s<;>simp [hy]
theorem zGy (s:Nat) (cs:List PV):(h.set s cs).next=h.next:=rfl
theorem zFs (s:Nat):(h.kill s).next=h.next:=rfl
theorem zIJ (t:Nat):(h.up t).next=h.next:=rfl
theorem zJO (t:Nat):(h.up t).top=t:=rfl
theorem zJU (t:Nat) (cs:List PV):(h.up t).new cs=(h.new cs).up t:=rfl
theorem zJP (t s i:Nat):(h.up t).rd1 s i=h.rd1 s i:=rfl
theorem zJ2 (t s i n:Nat):(h.up t).rd s i n=h.rd s i n:=rfl
theorem zJT (t s:Nat):(h.up t).obj s=h.obj s:=rfl
theorem zJ1 (t s i:Nat) (vs:List PV):(h.up t).wr s i vs=(h.wr s i vs).map fun h'=>h'.up t:=by
 simp only [PHeap.wr,PHeap.up];cases h.obj s with
 | none=>rfl
 | some cs=>simp only [Option.bind_some];split<;>rfl
theorem zGx (s t:Nat):(h.kill s).obj t=if t=s then none else h.obj t:=rfl
theorem zL (s:Nat) (cs:List PV) (t:Nat):(h.set s cs).obj t=if t=s then some cs else h.obj t:=rfl
theorem zGr (s t i:Nat):(h.kill s).rd1 t i=if t=s then none else h.rd1 t i:=by by_cases x:t=s<;>simp [PHeap.rd1,PHeap.kill,x]
theorem zIC (s t i n:Nat):(h.kill s).rd t i n=if t=s then none else h.rd t i n:=by by_cases x:t=s<;>simp [PHeap.rd,PHeap.kill,x]
theorem zID (s:Nat) (cs:List PV) (t i:Nat):(h.set s cs).rd1 t i=if t=s then cs[i]? else h.rd1 t i:=by by_cases x:t=s<;>simp [PHeap.rd1,PHeap.set,x]
theorem zFQ (s:Nat) (cs:List PV) (t i n:Nat):(h.set s cs).rd t i n=if t=s then(if i+n≤cs.length then some ((cs.drop i).take n)else none)else h.rd t i n:=by by_cases x:t=s<;>simp [PHeap.rd,PHeap.set,x]
theorem zJK (s:Nat) (cs:List PV) (i:Nat) (vs:List PV):(h.set s cs).wr s i vs=if i+vs.length≤cs.length∧vs.all PV.one=true then some (h.set s (cs.take i++vs++cs.drop (i+vs.length)))else none:=by
 simp only [PHeap.wr,PHeap.set,if_true,Option.bind_some]
 split
 ·congr 2
  funext y
  by_cases hy:y=s<;>simp [hy]
 ·rfl
end
def pw0:=And.intro @zI8 <| And.intro @zGZ <| And.intro @zJA <| And.intro @zJr <| And.intro @zJB <| And.intro @zHu <| And.intro @zI9 <| And.intro @zJs <| And.intro @zJo <| And.intro @RVp_q <| And.intro @RVp_e <| And.intro @zJp <| And.intro @DVp_q <| And.intro @DVp_e <| And.intro @zIm <| And.intro @zIl <| And.intro @zIo <| And.intro @zIn <| And.intro @zEo <| And.intro @zDn <| And.intro @zFv <| And.intro @zEp <| And.intro @zDm <| And.intro @zDk <| And.intro @zDj <| And.intro @zDl <| And.intro @pv_t <| And.intro @pv_c <| And.intro @zIK <| @zGs
def pw1:=And.intro @zGt <| And.intro @qp_mv <| And.intro @zJH <| And.intro @zJ0 <| And.intro @qp_un <| And.intro @zJJ <| And.intro @zEj <| And.intro @zH8 <| And.intro @zH7 <| And.intro @zDe <| And.intro @zDd <| And.intro @zEl <| And.intro @zFp <| And.intro @zJy <| And.intro @zGl <| And.intro @zJz <| And.intro @zH6 <| And.intro @zEi <| And.intro @zGk <| And.intro @zEk <| And.intro @zJI <| And.intro @zJx <| And.intro @zJG <| And.intro @zIx <| And.intro @zKJ <| And.intro @zGM <| And.intro @zIv <| And.intro @zF7 <| And.intro @zHh <| And.intro @zFA <| @zBS
def pw2:=And.intro @zHG <| And.intro @zHi <| And.intro @zJl <| And.intro @zJm <| And.intro @zIw <| And.intro @zGB <| And.intro @zIe <| And.intro @of_bool <| And.intro @of_int <| And.intro @zJ7 <| And.intro @zJe <| And.intro @zJf <| And.intro @zJd <| And.intro @zJ8 <| And.intro @zJ9 <| And.intro @zJc <| And.intro @zId <| And.intro @zCf <| And.intro @zIZ <| And.intro @zIP <| And.intro @zIT <| And.intro @zIY <| And.intro @zIS <| And.intro @zIU <| And.intro @zIV <| And.intro @zIW <| And.intro @zIX <| And.intro @zIR <| And.intro @zIQ <| @zF5
def pw3:=And.intro @zHC <| And.intro @zF6 <| And.intro @zHB <| And.intro @zHA <| And.intro @zF4 <| And.intro @zEx <| And.intro @zF3 <| And.intro @zEw <| And.intro @zEv <| And.intro @zEu <| And.intro @zEt <| And.intro @zE8 <| And.intro @zHd <| And.intro @zJN <| And.intro @zJM <| And.intro @zF8 <| And.intro @zEz <| And.intro @zHJ <| And.intro @zIa <| And.intro @zIb <| And.intro @zJY <| And.intro @zGA <| And.intro @zF9 <| And.intro @zCe <| And.intro @zDF <| And.intro @zHH <| And.intro @zHI <| And.intro @zE2 <| And.intro @zDr <| @zJa
def pw4:=And.intro @zJZ <| And.intro @zE1 <| And.intro @zHK <| And.intro @zJb <| And.intro @zE0 <| And.intro @zG2 <| And.intro @zG1 <| And.intro @zIM <| And.intro @zIL <| And.intro @zG0 <| And.intro @zFt <| And.intro @zGX <| And.intro @zFF <| And.intro @zFG <| And.intro @zEg <| And.intro @zGh <| And.intro @zEf <| And.intro @zFo <| And.intro @zGf <| And.intro @zEh <| And.intro @zB4 <| And.intro @zDa <| And.intro @zDZ <| And.intro @zBd <| And.intro @zBc <| And.intro @zB6 <| And.intro @zCb <| And.intro @zFm <| And.intro @zDB <| @zFn
def pw5:=And.intro @zDY <| And.intro @zB3 <| And.intro @zDA <| And.intro @zB5 <| And.intro @zFl <| And.intro @zBM <| And.intro @zDP <| And.intro @zDO <| And.intro @zFk <| And.intro @zFj <| And.intro @zEc <| And.intro @zEd <| And.intro @zHz <| And.intro @zHE <| And.intro @zHF <| And.intro @zHD <| And.intro @zG4 <| And.intro @zFu <| And.intro @zFy <| And.intro @zIH <| And.intro @zEs <| And.intro @zGw <| And.intro @zFw <| And.intro @zIF <| And.intro @zEq <| And.intro @zGu <| And.intro @zEr <| And.intro @zGv <| And.intro @zG7 <| And.intro @zJR <| @zG8
def pw6:=And.intro @zJS <| And.intro @zFx <| And.intro @zIG <| And.intro @zG6 <| And.intro @zJQ <| And.intro @zFz <| And.intro @zII <| And.intro @zF0 <| And.intro @zF1 <| And.intro @zDg <| And.intro @zDh <| And.intro @zGp <| And.intro @Zj <| And.intro @QY <| And.intro @zDC <| And.intro @zCd <| And.intro @zJV <| And.intro @zIE <| And.intro @zAA <| And.intro @zN <| And.intro @zJL <| And.intro @zGz <| And.intro @zH9 <| And.intro @zIB <| And.intro @zIA <| And.intro @zGy <| And.intro @zFs <| And.intro @zIJ <| And.intro @zJO <| @zJU
def pw7:=And.intro @zJP <| And.intro @zJ2 <| And.intro @zJT <| And.intro @zJ1 <| And.intro @zGx <| And.intro @zL <| And.intro @zGr <| And.intro @zIC <| And.intro @zID <| And.intro @zFQ <| And.intro @zJK <| And.intro @Qn <| And.intro @QB <| And.intro @zHM <| And.intro @zIc <| And.intro @List.map_cons.{0,0} <| And.intro @List.map_nil.{0,0} <| And.intro @List.length_cons.{0} <| And.intro @List.length_nil.{0} <| And.intro @List.getElem?_cons_zero.{0} <| And.intro @List.getElem?_cons_succ.{0} <| And.intro @List.take_succ_cons.{0} <| And.intro @List.take_zero.{0} <| And.intro @List.drop_succ_cons.{0} <| And.intro @List.drop_zero.{0} <| And.intro @List.take_nil.{0} <| And.intro @List.drop_nil.{0} <| And.intro @List.nil_append.{0} <| And.intro @List.cons_append.{0} <| @List.append_nil.{0}
def pw8:=And.intro @List.all_cons.{0} <| And.intro @List.all_nil.{0} <| And.intro @List.contains_cons.{0} <| And.intro @List.contains_nil.{0} <| And.intro @Option.map_some.{0,0} <| And.intro @Option.map_none.{0,0} <| And.intro @Option.bind_some.{0,0} <| And.intro @Option.bind_none.{0,0} <| And.intro @decide_true <| And.intro @decide_false <| And.intro @Bool.not_true <| And.intro @Bool.not_false <| And.intro @Bool.and_true <| And.intro @Bool.true_and <| And.intro @Bool.and_self <| And.intro @Bool.or_false <| And.intro @Bool.or_true <| And.intro @Bool.true_or <| And.intro @Bool.false_or <| And.intro @true_and <| And.intro @and_true <| And.intro @Bool.true_eq_false <| And.intro @Bool.false_eq_true <| And.intro @Nat.left_eq_add <| And.intro @Nat.add_eq_left <| And.intro @Nat.succ_ne_self <| And.intro @Nat.one_ne_zero <| And.intro @Nat.add_left_cancel_iff <| And.intro @Nat.add_assoc <| @Nat.mul_one
def pw9:=And.intro @Nat.zero_add <| And.intro @Nat.add_zero <| And.intro @Nat.le_refl <| And.intro @Nat.lt_add_one <| And.intro @Int.toNat_natCast <| And.intro @Int.natCast_nonneg <| And.intro @Int.ofNat_lt <| And.intro @Int.le_refl <| And.intro @zFc <| And.intro @zFd <| And.intro @QU <| And.intro @Nat.one_mul <| @Nat.zero_mul
def pwA:=And.intro pw0 <| And.intro pw1 <| And.intro pw2 <| And.intro pw3 <| And.intro pw4 <| And.intro pw5 <| And.intro pw6 <| And.intro pw7 <| And.intro pw8 <| And.intro pw9 <| And.intro @nm_eq <| And.intro @eq_self.{1} <| And.intro @Int.ofNat_le @List.getElem?_drop.{0}
end Go.Ab
