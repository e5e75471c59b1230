/- THE RULES BY WHICH CODE IS WALKED over values without a heap: equations, and the one name 'pw' for all of them. Written by a program. -/
import Derived.Test.YtkhbdmlhjnijaaaGreatAAbPg
import Derived.Test.YtkhbdmlhjnijaaaGreatAAbAid
set_option linter.unusedVariables false
set_option linter.unusedSimpArgs false
set_option linter.defProp false
namespace Go.Ab
section
variable {P:Program} {Q:Exit→PEnv→PHeap→Prop} {e:PEnv} {h:PHeap} {K:PEnv→PHeap→Prop} {KA:PV→PHeap→Prop} {nb nr:Nat}
theorem zLJ:vp P .skip Q e h=Q .normal e h:=rfl
theorem zIF (S:List Nat) (its:List II):vp P (.region S its) Q e h=RVp P its e h fun e' h'=>Q .normal (PEnv.mk S (S.map e')) h':=rfl
theorem zLL (S:List Nat) (zs:List (List AV)) (its:List DI):vp P (.draw S zs its) Q e h=DVp P h.next zs.length its [] e (h.news zs) fun e' h'=>Q .normal (PEnv.mk S (S.map e')) h':=rfl
theorem zMa (a b:IC):vp P (.seq a b) Q e h=vp P a (fun x e' h'=>match x with | .normal=>vp P b Q e' h' | x=>Q x e' h') e h:=rfl
theorem zLM (c:IX) (a b:IC):vp P (.cond c a b) Q e h=ZV (c.pv e) (vp P a Q e h) (vp P b Q e h):=rfl
theorem zJm (id:Nat) (c:IC):vp P (.block id c) Q e h=vp P c (fun x e' h'=>match x with | .exit id'=>if id'=id then Q .normal e' h' else Q (.exit id') e' h' | x=>Q x e' h') e h:=rfl
theorem zLK (id:Nat):vp P (.exit id) Q e h=Q (.exit id) e h:=rfl
theorem zMb:vp P .ret Q e h=Q .ret e h:=rfl
theorem zMT:RVp P [] e h K=K e h:=rfl
theorem RVp_q (d:Option Nat) (op:IOp) (g:Option (Nat×Bool)) (r:List II):RVp P (⟨d,op,true,g⟩::r) e h K=optK (gqp 0 0 ⟨d,op,true,g⟩ e h) fun v=>RVp P r (e.put d v) h K:=rfl
theorem RVp_e (d:Option Nat) (op:IOp) (g:Option (Nat×Bool)) (r:List II):RVp P (⟨d,op,false,g⟩::r) e h K=gep P ⟨d,op,false,g⟩ e h fun v h'=>RVp P r (e.put d v) h' K:=rfl
theorem zMW (recs:List RecP):DVp P nb nr [] recs e h K=K e h:=rfl
theorem DVp_q (d:Option Nat) (op:IOp) (g:Option (Nat×Bool)) (i:Nat) (c:List Nat) (r:List DI) (recs:List RecP):DVp P nb nr (⟨⟨d,op,true,g⟩,i,c⟩::r) recs e h K=optK (gqp nb nr ⟨d,op,true,g⟩ e h) fun v=>DVp P nb nr r (qc ⟨⟨d,op,true,g⟩,i,c⟩ e v++recs) (e.put d v) h K:=rfl
theorem DVp_e (d:Option Nat) (op:IOp) (g:Option (Nat×Bool)) (i:Nat) (c:List Nat) (r:List DI) (recs:List RecP):DVp P nb nr (⟨⟨d,op,false,g⟩,i,c⟩::r) recs e h K=gep P ⟨d,op,false,g⟩ e h fun v h'=>Qf c recs h'∧DVp P nb nr r recs (e.put d v) h' K:=rfl
theorem zKi (d:Option Nat) (op:IOp) (q:Bool):gqp nb nr ⟨d,op,q,none⟩ e h=qp nb nr op e h:=rfl
theorem zKh (d:Option Nat) (op:IOp) (q:Bool) (t:Nat) (b:Bool):gqp nb nr ⟨d,op,q,some (t,b)⟩ e h=QP (e t) b (qp nb nr op e h):=rfl
theorem zKk (d:Option Nat) (op:IOp) (q:Bool):gep P ⟨d,op,q,none⟩ e h KA=ep P op e h KA:=rfl
theorem zKj (d:Option Nat) (op:IOp) (q:Bool) (t:Nat) (b:Bool):gep P ⟨d,op,q,some (t,b)⟩ e h KA=ZN (e t) b (ep P op e h KA) (KA (.tup []) h):=rfl
theorem zGG (a b:Prop):ZV (.bool true) a b=a:=rfl
theorem zFL (a b:Prop):ZV (.bool false) a b=b:=rfl
theorem zHU (c:Prop) [Decidable c] (a b:Prop):ZV (.bool (decide c)) a b=if c then a else b:=by by_cases x:c<;>simp [ZV,x]
theorem zGH (c:Prop) [Decidable c] (a b:Prop):ZV (.bool (!decide c)) a b=if c then b else a:=by by_cases x:c<;>simp [ZV,x]
theorem zFK (c b:Bool) (x y:Prop):ZN (.bool c) b x y=if c=b then x else y:=rfl
theorem zFI (c b:Bool) (x:Option PV):QP (.bool c) b x=if c=b then x else some (.tup []):=rfl
theorem zFH (b:Bool) (x:Option PV):QP (.tup []) b x=some (.tup []):=rfl
theorem zFJ (b:Bool) (x y:Prop):ZN (.tup []) b x y=y:=rfl
theorem pv_t (n:Nat):(IX.t n).pv e=e n:=rfl
theorem pv_c (v:AV):(IX.c v).pv e=ofAV v:=rfl
theorem zKH (s:Nat) (S:List Nat) (v:PV) (vs:List PV) (t:Nat):PEnv.mk (s::S) (v::vs) t=if t=s then v else PEnv.mk S vs t:=rfl
theorem zId (d:Nat) (v:PV) (t:Nat):e.put (some d) v t=if t=d then v else e t:=rfl
theorem zIe (v:PV):e.put none v=e:=rfl
theorem qp_mv (x:IX):qp nb nr (.mv x) e h=some (x.pv e):=rfl
theorem zLg (c a b:IX):qp nb nr (.pick c a b) e h=pPick (c.pv e) (a.pv e) (b.pv e):=rfl
theorem zMv (op:BinOp) (ek:EqK) (x y:IX):qp nb nr (.bin op ek x y) e h=pbin op ek (x.pv e) (y.pv e):=rfl
theorem qp_un (op:UnOp) (x:IX):qp nb nr (.un op x) e h=pun op (x.pv e):=rfl
theorem zLi (k:IntKind) (x:IX):qp nb nr (.conv k x) e h=pConv k (x.pv e):=rfl
theorem zGB (x:IX):qp nb nr (.nilCheck x) e h=pNil (x.pv e):=rfl
theorem zJ4 (z:List AV) (ps:List (Nat×Nat×IX)):qp nb nr (.build z ps) e h=(pfill (ofAVs z) (ps.map fun p=>(p.1,p.2.1,p.2.2.pv e))).map .agg:=rfl
theorem zJ3 (a:Bool) (n off:Nat) (x:IX):qp nb nr (.field a n off x) e h=zBx a n off (x.pv e):=rfl
theorem zFA (off:Nat) (x:IX):qp nb nr (.fieldAddr off x) e h=QU off (x.pv e):=rfl
theorem zE9 (sz:Nat) (x i:IX):qp nb nr (.indexAddr sz x i) e h=zA0 sz (x.pv e) (i.pv e):=rfl
theorem zGD (x i:IX):qp nb nr (.indexStr x i) e h=zCN (x.pv e) (i.pv e):=rfl
theorem zHM (x:IX) (i:Nat):qp nb nr (.extract x i) e h=zBP (x.pv e) i:=rfl
theorem zMt (x:IX):qp nb nr (.len x) e h=pLen (x.pv e):=rfl
theorem zIY (x:IX):qp nb nr (.lenStr x) e h=zCM (x.pv e):=rfl
theorem zMu (x:IX):qp nb nr (.cap x) e h=pCap (x.pv e):=rfl
theorem zJ2 (sz:Nat) (x:IX) (lo hi mx:Option IX):qp nb nr (.slice sz x lo hi mx) e h=QE sz (x.pv e) (lo.map (·.pv e)) (hi.map (·.pv e)) (mx.map (·.pv e)):=rfl
theorem zGA (x:IX) (lo hi:Option IX):qp nb nr (.sliceStr x lo hi) e h=zAf (x.pv e) (lo.map (·.pv e)) (hi.map (·.pv e)):=rfl
theorem zIX (mx:Bool) (x y:IX):qp nb nr (.maxmin mx x y) e h=zAz mx (x.pv e) (y.pv e):=rfl
theorem zGC (f:FuncId) (a b:List IX):qp nb nr (.makeFunc f a b) e h=some (.clo f (a.map (·.pv e)) (b.map (·.pv e))):=rfl
theorem zLh (a:Bool) (n:Nat) (x:IX):qp nb nr (.load a n x) e h=pldv a n (x.pv e) h:=rfl
theorem zMs (k:Nat):qp nb nr (.rev k) e h=if k<nr then some (.ptr (nb+k) 0)else none:=rfl
theorem zLf (k n:Nat):qp nb nr (.revS k n) e h=if k<nr then some (.sl (nb+k) 0 n (.known n))else none:=rfl
theorem zKt (z:List AV):ep P (.alloc z) e h KA=KA (.ptr h.next 0) (h.new (ofAVs z)):=rfl
theorem zNC (x:IX):ep P (.box x) e h KA=((x.pv e).cells.all PV.one=true∧KA (.ptr h.next 0) (h.new (x.pv e).cells)):=rfl
theorem zHt (sz len:Nat) (z:List AV) (ps:List (Nat×Nat×IX)):ep P (.buildSl sz len z ps) e h KA=optK (pfill (ofAVs (zeros z len)) (ps.map fun p=>(p.1,p.2.1,p.2.2.pv e))) fun cs=>KA (.sl h.next 0 len (.known len)) (h.new cs):=rfl
def zDd (n:Nat) (x v:PV) (h:PHeap) (KA:PV→PHeap→Prop):Prop:=
 match x with
 | .ptr s i=>v.cells.length=n∧optK (h.wr s i v.cells) fun h'=>KA .undef h'
 | _=>False
def pMake (sz bytes:Nat) (z:List AV) (l c:PV) (h:PHeap) (KA:PV→PHeap→Prop):Prop:=
 match l,c with
 | .int _ l,.int _ c=>(0≤l∧l≤c∧c*bytes≤140737488355328∧c≤9223372036854775807)∧KA (.sl h.next 0 l.toNat (.known c.toNat)) (h.new (ofAVs (zeros z c.toNat)))
 | _,_=>False
def zDf (sz bytes:Nat) (z:List AV) (s n:PV) (h:PHeap) (KA:PV→PHeap→Prop):Prop:=
 match s,n with
 | .fz _ .nils _ _,.int _ n=>(0≤n∧n*bytes≤140737488355328∧n≤4611686018427387904)∧if 0<n then KA (.sl h.next 0 n.toNat (.grown sz)) (h.new (ofAVs (zeros z n.toNat)))else KA (.fz true .nils 0 []) h
 | .sl s off len c,.int _ n=>(0≤n∧n*bytes≤140737488355328∧n≤4611686018427387904)∧optK (if 0<n then pgrow sz bytes h (.sl s off len c) (ofAVs (zeros z n.toNat)) n.toNat else(psame (.sl s off len c)).map fun v=>(v,h)) fun p=>KA p.1 p.2
 | _,_=>False
def zDe (P:Program) (f:PV) (args:List PV) (h:PHeap) (KA:PV→PHeap→Prop):Prop:=
 match f with
 | .clo f first caps=>okF P f=true∧zA P f (first++args++caps) h KA
 | _=>False
theorem zKr (n:Nat) (x v:IX):ep P (.store n x v) e h KA=zDd n (x.pv e) (v.pv e) h KA:=rfl
theorem zHf (n s i:Nat) (v:PV):zDd n (.ptr s i) v h KA=(v.cells.length=n∧optK (h.wr s i v.cells) fun h'=>KA .undef h'):=rfl
theorem zJR (sz bytes:Nat) (z:List AV) (l c:IX):ep P (.makeSl sz bytes z l c) e h KA=pMake sz bytes z (l.pv e) (c.pv e) h KA:=rfl
theorem zGn (sz bytes:Nat) (z:List AV) (s n:IX):ep P (.appendMk sz bytes z s n) e h KA=zDf sz bytes z (s.pv e) (n.pv e) h KA:=rfl
theorem zGV (sz bytes:Nat) (z:List AV) (w:Bool) (l:Nat) (cs:List PV) (k:IntKind) (n:Int):zDf sz bytes z (.fz w .nils l cs) (.int k n) h KA=((0≤n∧n*bytes≤140737488355328∧n≤4611686018427387904)∧if 0<n then KA (.sl h.next 0 n.toNat (.grown sz)) (h.new (ofAVs (zeros z n.toNat)))else KA (.fz true .nils 0 []) h):=rfl
theorem zI4 (sz bytes:Nat) (z:List AV) (k k':IntKind) (l c:Int):pMake sz bytes z (.int k l) (.int k' c) h KA=((0≤l∧l≤c∧c*bytes≤140737488355328∧c≤9223372036854775807)∧KA (.sl h.next 0 l.toNat (.known c.toNat)) (h.new (ofAVs (zeros z c.toNat)))):=rfl
theorem zJS (sz bytes:Nat) (s x:IX):ep P (.append sz bytes s x) e h KA=optK (ZC sz bytes h (s.pv e) (x.pv e)) fun p=>KA p.1 p.2:=rfl
theorem zMJ (sz:Nat) (d s:IX):ep P (.copy sz d s) e h KA=optK (pcopy sz h (d.pv e) (s.pv e)) fun p=>KA p.1 p.2:=rfl
theorem zMK (f:FuncId) (args:List IX):ep P (.call f args) e h KA=zA P f (args.map (·.pv e)) h KA:=rfl
theorem zKs (f:IX) (args:List IX):ep P (.callV f args) e h KA=zDe P (f.pv e) (args.map (·.pv e)) h KA:=rfl
theorem zHj (f:FuncId) (a b args:List PV):zDe P (.clo f a b) args h KA=(okF P f=true∧zA P f (a++args++b) h KA):=rfl
theorem zKb:ofAV .undef=.undef:=rfl
theorem of_bool (b:Bool):ofAV (.bool b)=.bool b:=rfl
theorem of_int (k:IntKind) (n:Int):ofAV (.int k n)=.int k n:=rfl
theorem zM0 (s:List UInt8):ofAV (.str s)=.str s:=rfl
theorem zL5:ofAV .nilp=.nilp:=rfl
theorem zL6:ofAV .nilf=.nilf:=rfl
theorem zL4:ofAV .nils=.fz true .nils 0 []:=rfl
theorem zM1 (f:FuncId) (a b:List AV):ofAV (.clo f a b)=.clo f (ofAVs a) (ofAVs b):=rfl
theorem zM2 (a:List AV):ofAV (.agg a)=.agg (ofAVs a):=rfl
theorem zL3:ofAVs []=[]:=rfl
theorem zKa (c:AV) (cs:List AV):ofAVs (c::cs)=ofAV c::ofAVs cs:=rfl
theorem zL2 (n:Nat) (c:AV):ofAVs (List.replicate n c)=List.replicate n (ofAV c):=by rw [zEP,List.map_replicate]
theorem zKX (k:IntKind) (ek:EqK) (a b:Int):pbin .add ek (.int k a) (.int k b)=some (.int k (k.wrap (a+b))):=by simp [pbin,abin,aint,ofAV]
theorem zKN (k:IntKind) (ek:EqK) (a b:Int):pbin .sub ek (.int k a) (.int k b)=some (.int k (k.wrap (a-b))):=by simp [pbin,abin,aint,ofAV]
theorem zKR (k:IntKind) (ek:EqK) (a b:Int):pbin .mul ek (.int k a) (.int k b)=some (.int k (k.wrap (a*b))):=by simp [pbin,abin,aint,ofAV]
theorem zKW (k:IntKind) (ek:EqK) (a b:Int):pbin .eql ek (.int k a) (.int k b)=some (.bool (decide (a=b))):=by simp [pbin,abin,aint,ofAV]
theorem zKQ (k:IntKind) (ek:EqK) (a b:Int):pbin .neq ek (.int k a) (.int k b)=some (.bool (!decide (a=b))):=by simp [pbin,abin,aint,ofAV]
theorem zKS (k:IntKind) (ek:EqK) (a b:Int):pbin .lss ek (.int k a) (.int k b)=some (.bool (decide (a<b))):=by simp [pbin,abin,aint,ofAV]
theorem zKT (k:IntKind) (ek:EqK) (a b:Int):pbin .leq ek (.int k a) (.int k b)=some (.bool (decide (a≤b))):=by simp [pbin,abin,aint,ofAV]
theorem zKU (k:IntKind) (ek:EqK) (a b:Int):pbin .gtr ek (.int k a) (.int k b)=some (.bool (decide (b<a))):=by simp [pbin,abin,aint,ofAV]
theorem zKV (k:IntKind) (ek:EqK) (a b:Int):pbin .geq ek (.int k a) (.int k b)=some (.bool (decide (b≤a))):=by simp [pbin,abin,aint,ofAV]
theorem zKP (k:IntKind) (ek:EqK) (a b:Int):pbin .quo ek (.int k a) (.int k b)=if b=0 then none else some (.int k (k.wrap (a.tdiv b))):=by simp only [pbin,abin,aint,if_true];split<;>rfl
theorem zKO (k:IntKind) (ek:EqK) (a b:Int):pbin .rem ek (.int k a) (.int k b)=if b=0 then none else some (.int k (a.tmod b)):=by simp only [pbin,abin,aint,if_true];split<;>rfl
theorem zHd (n:Nat) (xs ys:List PV):pbin .eql (.ints n) (.agg xs) (.agg ys)=if xs.length=n∧ys.length=n then(paggB xs ys).bind fun r=>some (.bool r)else none:=rfl
theorem zIw:paggB [] []=some true:=rfl
theorem zHe (k:IntKind) (a b:Int) (xs ys:List PV):paggB (.int k a::xs) (.int k b::ys)=(paggB xs ys).map fun r=>decide (a=b) && r:=by simp [paggB]
theorem zIv (a b:Bool):pbin .eql .bool (.bool a) (.bool b)=some (.bool (a == b)):=rfl
theorem zIu (a b:Bool):pbin .neq .bool (.bool a) (.bool b)=some (.bool !(a == b)):=rfl
theorem zHc (w w':Bool) (a:AV) (n n':Nat) (cs cs':List PV):pbin .eql .slice (.fz w a n cs) (.fz w' .nils n' cs')=some (.bool (ZR a)):=rfl
theorem zGP (w w':Bool) (a:AV) (n n':Nat) (cs cs':List PV):pbin .neq .slice (.fz w a n cs) (.fz w' .nils n' cs')=some (.bool (!ZR a)):=rfl
theorem zHb (s o n:Nat) (c:Cap) (w':Bool) (n':Nat) (cs':List PV):pbin .eql .slice (.sl s o n c) (.fz w' .nils n' cs')=some (.bool false):=rfl
theorem zGO (s o n:Nat) (c:Cap) (w':Bool) (n':Nat) (cs':List PV):pbin .neq .slice (.sl s o n c) (.fz w' .nils n' cs')=some (.bool true):=rfl
theorem zGN (ek:EqK) (a b:List UInt8):pbin .add ek (.str a) (.str b)=if a.length+b.length≤9223372036854775807 then some (.str (a++b))else none:=by simp only [pbin,astr];split<;>rfl
theorem zGM (ek:EqK) (a b:List UInt8):pbin .eql ek (.str a) (.str b)=some (.bool (a == b)):=rfl
theorem zGL (ek:EqK) (a b:List UInt8):pbin .neq ek (.str a) (.str b)=some (.bool !(a == b)):=rfl
theorem zGf:ZR .nils=true:=rfl
theorem zJJ (o f n:Nat) (c:Cap):ZR (.sl o f n c)=false:=rfl
theorem zLm (k:IntKind) (n:Int):pun .neg (.int k n)=some (.int k (k.wrap (0-n))):=rfl
theorem zLl (b:Bool):pun .not (.bool b)=some (.bool !b):=rfl
theorem zHg (a b:PV):pPick (.bool true) a b=some a:=rfl
theorem zGR (a b:PV):pPick (.bool false) a b=some b:=rfl
theorem zI7 (k k':IntKind) (n:Int):pConv k (.int k' n)=some (.int k (k.wrap n)):=rfl
theorem zKY (s i:Nat):pNil (.ptr s i)=some (.ptr s i):=rfl
theorem zKZ (f:FuncId) (a b:List PV):pNil (.clo f a b)=some (.clo f a b):=rfl
theorem zLy (a:AV) (c:PV) (cs:List PV):pNil (.fp a (c::cs))=some (.fp a (c::cs)):=rfl
theorem zHi (n off:Nat) (cs:List PV):zBx true n off (.agg cs)=some (.agg ((cs.drop off).take n)):=rfl
theorem zHh (n off:Nat) (cs:List PV):zBx false n off (.agg cs)=cs[off]?:=rfl
theorem zEA (off s i:Nat):QU off (.ptr s i)=some (.ptr s (i+off)):=rfl
theorem zEg (off:Nat) (a:AV) (c:PV) (cs:List PV):QU off (.fp a (c::cs))=some (.fp (pAdd a off) ((c::cs).drop off)):=rfl
theorem zI5 (sz s off len:Nat) (c:Cap) (k:IntKind) (n:Int):zA0 sz (.sl s off len c) (.int k n)=if 0≤n∧n<len then some (.ptr s (off+n.toNat*sz))else none:=rfl
theorem zI6 (sz:Nat) (w:Bool) (a:AV) (len:Nat) (cs:List PV) (k:IntKind) (n:Int):zA0 sz (.fz w a len cs) (.int k n)=if 0≤n∧n<len then some (.fp (pAt a (n.toNat*sz)) (cs.drop (n.toNat*sz)))else none:=rfl
theorem zGU (s:List UInt8) (k:IntKind) (n:Int):zCN (.str s) (.int k n)=if 0≤n then(s[n.toNat]?).map fun c=>.int .u8 c.toNat else none:=rfl
theorem zFO (vs:List PV) (i:Nat):zBP (.tup vs) i=vs[i]?:=rfl
theorem zL0 (w:Bool) (a:AV) (n:Nat) (cs:List PV):pLen (.fz w a n cs)=some (.int .i64 n):=rfl
theorem zLz (s o n:Nat) (c:Cap):pLen (.sl s o n c)=some (.int .i64 n):=rfl
theorem zGT (s:List UInt8):zCM (.str s)=some (.int .i64 s.length):=rfl
theorem zI8 (w:Bool) (l:Nat) (cs:List PV):pCap (.fz w .nils l cs)=some (.int .i64 0):=rfl
theorem zL1 (s o n c:Nat):pCap (.sl s o n (.known c))=some (.int .i64 c):=rfl
theorem zGS (mx:Bool) (k:IntKind) (a b:Int):zAz mx (.int k a) (.int k b)=some (.int k (if mx=true then max a b else min a b)):=by simp [zAz]
theorem zIn (n s i:Nat):pldv false n (.ptr s i) h=h.rd1 s i:=rfl
theorem zIm (n s i:Nat):pldv true n (.ptr s i) h=(h.rd s i n).map .agg:=rfl
theorem zKJ (n:Nat) (a:AV) (cs:List PV):pldv false n (.fp a cs) h=cs[0]?:=rfl
theorem zKI (n:Nat) (a:AV) (cs:List PV):pldv true n (.fp a cs) h=if 0<n∧n≤cs.length then some (.agg (cs.take n))else none:=rfl
theorem zIl:h.news []=h:=rfl
theorem zHR (z:List AV) (zs:List (List AV)):h.news (z::zs)=(h.new (ofAVs z)).news zs:=rfl
theorem zID (recs:List RecP):Qf [] recs h=True:=by
 apply propext;refine⟨fun _=>trivial,fun _=>?_⟩
 induction recs with
 | nil=>trivial
 | cons r rs ih=>exact⟨by simp,ih⟩
theorem zGv (c:List Nat):Qf c [] h=True:=rfl
theorem zGw (c:List Nat) (i:Nat) (a:Bool) (n:Nat) (x v:PV) (rs:List RecP):Qf c (⟨i,a,n,x,v⟩::rs) h=((if c.contains i=true then pldv a n x h=some v else True)∧Qf c rs h):=rfl
theorem zF4 (d:Option Nat) (a:Bool) (n:Nat) (x:IX) (g:Option (Nat×Bool)) (i:Nat) (c:List Nat) (v:PV):qc ⟨⟨d,.load a n x,true,g⟩,i,c⟩ e v=if zAH g e=true then [⟨i,a,n,x.pv e,v⟩]else []:=rfl
theorem zIT (d:Option Nat) (x:IX) (g:Option (Nat×Bool)) (i:Nat) (c:List Nat) (v:PV):qc ⟨⟨d,(.mv x),true,g⟩,i,c⟩ e v=[]:=rfl
theorem zF3 (d:Option Nat) (x y z:IX) (g:Option (Nat×Bool)) (i:Nat) (c:List Nat) (v:PV):qc ⟨⟨d,(.pick x y z),true,g⟩,i,c⟩ e v=[]:=rfl
theorem zHK (d:Option Nat) (op:BinOp) (ek:EqK) (x y:IX) (g:Option (Nat×Bool)) (i:Nat) (c:List Nat) (v:PV):qc ⟨⟨d,(.bin op ek x y),true,g⟩,i,c⟩ e v=[]:=rfl
theorem zIR (d:Option Nat) (op:UnOp) (x:IX) (g:Option (Nat×Bool)) (i:Nat) (c:List Nat) (v:PV):qc ⟨⟨d,(.un op x),true,g⟩,i,c⟩ e v=[]:=rfl
theorem zF5 (d:Option Nat) (k:IntKind) (x:IX) (g:Option (Nat×Bool)) (i:Nat) (c:List Nat) (v:PV):qc ⟨⟨d,(.conv k x),true,g⟩,i,c⟩ e v=[]:=rfl
theorem zDX (d:Option Nat) (x:IX) (g:Option (Nat×Bool)) (i:Nat) (c:List Nat) (v:PV):qc ⟨⟨d,(.nilCheck x),true,g⟩,i,c⟩ e v=[]:=rfl
theorem zE5 (d:Option Nat) (z:List AV) (ps:List (Nat×Nat×IX)) (g:Option (Nat×Bool)) (i:Nat) (c:List Nat) (v:PV):qc ⟨⟨d,(.build z ps),true,g⟩,i,c⟩ e v=[]:=rfl
theorem zE4 (d:Option Nat) (a:Bool) (n off:Nat) (x:IX) (g:Option (Nat×Bool)) (i:Nat) (c:List Nat) (v:PV):qc ⟨⟨d,(.field a n off x),true,g⟩,i,c⟩ e v=[]:=rfl
theorem zC0 (d:Option Nat) (off:Nat) (x:IX) (g:Option (Nat×Bool)) (i:Nat) (c:List Nat) (v:PV):qc ⟨⟨d,(.fieldAddr off x),true,g⟩,i,c⟩ e v=[]:=rfl
theorem zCz (d:Option Nat) (sz:Nat) (x y:IX) (g:Option (Nat×Bool)) (i:Nat) (c:List Nat) (v:PV):qc ⟨⟨d,(.indexAddr sz x y),true,g⟩,i,c⟩ e v=[]:=rfl
theorem zDZ (d:Option Nat) (x y:IX) (g:Option (Nat×Bool)) (i:Nat) (c:List Nat) (v:PV):qc ⟨⟨d,(.indexStr x y),true,g⟩,i,c⟩ e v=[]:=rfl
theorem zD8 (d:Option Nat) (x:IX) (j:Nat) (g:Option (Nat×Bool)) (i:Nat) (c:List Nat) (v:PV):qc ⟨⟨d,(.extract x j),true,g⟩,i,c⟩ e v=[]:=rfl
theorem zHI (d:Option Nat) (x:IX) (g:Option (Nat×Bool)) (i:Nat) (c:List Nat) (v:PV):qc ⟨⟨d,(.len x),true,g⟩,i,c⟩ e v=[]:=rfl
theorem zEc (d:Option Nat) (x:IX) (g:Option (Nat×Bool)) (i:Nat) (c:List Nat) (v:PV):qc ⟨⟨d,(.lenStr x),true,g⟩,i,c⟩ e v=[]:=rfl
theorem zHJ (d:Option Nat) (x:IX) (g:Option (Nat×Bool)) (i:Nat) (c:List Nat) (v:PV):qc ⟨⟨d,(.cap x),true,g⟩,i,c⟩ e v=[]:=rfl
theorem zE3 (d:Option Nat) (sz:Nat) (x:IX) (lo hi mx:Option IX) (g:Option (Nat×Bool)) (i:Nat) (c:List Nat) (v:PV):qc ⟨⟨d,(.slice sz x lo hi mx),true,g⟩,i,c⟩ e v=[]:=rfl
theorem zDW (d:Option Nat) (x:IX) (lo hi:Option IX) (g:Option (Nat×Bool)) (i:Nat) (c:List Nat) (v:PV):qc ⟨⟨d,(.sliceStr x lo hi),true,g⟩,i,c⟩ e v=[]:=rfl
theorem zEb (d:Option Nat) (mx:Bool) (x y:IX) (g:Option (Nat×Bool)) (i:Nat) (c:List Nat) (v:PV):qc ⟨⟨d,(.maxmin mx x y),true,g⟩,i,c⟩ e v=[]:=rfl
theorem zDY (d:Option Nat) (f:FuncId) (y z:List IX) (g:Option (Nat×Bool)) (i:Nat) (c:List Nat) (v:PV):qc ⟨⟨d,(.makeFunc f y z),true,g⟩,i,c⟩ e v=[]:=rfl
theorem zHH (d:Option Nat) (j:Nat) (g:Option (Nat×Bool)) (i:Nat) (c:List Nat) (v:PV):qc ⟨⟨d,(.rev j),true,g⟩,i,c⟩ e v=[]:=rfl
theorem zF2 (d:Option Nat) (j m:Nat) (g:Option (Nat×Bool)) (i:Nat) (c:List Nat) (v:PV):qc ⟨⟨d,(.revS j m),true,g⟩,i,c⟩ e v=[]:=rfl
theorem zEw:zAH none e=true:=rfl
theorem zEv (t:Nat) (b:Bool):zAH (some (t,b)) e=(match e t with | .bool c=>decide (c=b) | _=>false):=rfl
theorem zHE:ZQ [] e h=some []:=rfl
theorem zHD (t:Nat) (r:List IRes):ZQ (.tmp t::r) e h=(ZQ r e h).map fun vs=>e t::vs:=rfl
theorem zFy (t:Nat) (a:Bool) (n:Nat) (r:List IRes):ZQ (.cell t a n::r) e h=(pldv a n (e t) h).bind fun v=>(ZQ r e h).map fun vs=>v::vs:=rfl
theorem zF0 (res:List IRes):retP res KA .normal e h=optK (ZQ res e h) fun vs=>KA (packP vs) h:=rfl
theorem zJw (res:List IRes):retP res KA .ret e h=optK (ZQ res e h) fun vs=>KA (packP vs) h:=rfl
theorem zI2 (v:PV):packP [v]=v:=rfl
theorem zI3:packP []=.tup []:=rfl
theorem zI1 (u v:PV) (r:List PV):packP (u::v::r)=.tup (u::v::r):=rfl
theorem zIp (cs:List PV):pfill cs []=some cs:=rfl
theorem zHT (cs:List PV) (off size:Nat) (v:PV) (r:List (Nat×Nat×PV)):pfill cs ((off,size,v)::r)=if v.cells.length=size∧off+size≤cs.length∧v.cells.all PV.one=true then pfill (cs.take off++v.cells++cs.drop (off+size)) r else none:=rfl
theorem zHX (k:IntKind) (n:Int):PV.cells (.int k n)=[(.int k n)]:=rfl
theorem zKE (k:IntKind) (n:Int):PV.one (.int k n)=true:=rfl
theorem zGK (b:Bool):PV.cells (.bool b)=[(.bool b)]:=rfl
theorem zIh (b:Bool):PV.one (.bool b)=true:=rfl
theorem zHV (s:List UInt8):PV.cells (.str s)=[(.str s)]:=rfl
theorem zKC (s:List UInt8):PV.one (.str s)=true:=rfl
theorem zGI:PV.cells .nilp=[.nilp]:=rfl
theorem zIf:PV.one .nilp=true:=rfl
theorem zGJ:PV.cells .nilf=[.nilf]:=rfl
theorem zIg:PV.one .nilf=true:=rfl
theorem zIr (w:Bool) (a:AV) (n:Nat) (cs:List PV):PV.cells (.fz w a n cs)=[(.fz w a n cs)]:=rfl
theorem zLq (w:Bool) (a:AV) (n:Nat) (cs:List PV):PV.one (.fz w a n cs)=true:=rfl
theorem zIs (a:AV) (cs:List PV):PV.cells (.fp a cs)=[(.fp a cs)]:=rfl
theorem zLr (a:AV) (cs:List PV):PV.one (.fp a cs)=true:=rfl
theorem zHW (s i:Nat):PV.cells (.ptr s i)=[(.ptr s i)]:=rfl
theorem zKD (s i:Nat):PV.one (.ptr s i)=true:=rfl
theorem zIq (s o n:Nat) (c:Cap):PV.cells (.sl s o n c)=[(.sl s o n c)]:=rfl
theorem zLp (s o n:Nat) (c:Cap):PV.one (.sl s o n c)=true:=rfl
theorem zHY (f:FuncId) (a b:List PV):PV.cells (.clo f a b)=[(.clo f a b)]:=rfl
theorem zKF (f:FuncId) (a b:List PV):PV.one (.clo f a b)=true:=rfl
theorem zHZ (cs:List PV):PV.cells (.agg cs)=cs:=rfl
theorem zBO (k:IntKind) (i:Int) (y:Nat):QF (.int k i) y=if 0≤i∧i≤y then some i.toNat else none:=rfl
theorem zAU (x:PV) (d y:Nat):qY (some x) d y=QF x y:=rfl
theorem zAV (d y:Nat):qY none d y=some d:=rfl
theorem zIb (sz:Nat) (w:Bool) (a:AV) (len:Nat) (cs:List PV) (lo hi:Option PV):QE sz (.fz w a len cs) lo hi none=(qY hi len len).bind fun h=>(qY lo 0 h).bind fun l=>some (.fz false (pslA sz a l h) (h-l) ((cs.drop (l*sz)).take ((h-l)*sz))):=rfl
theorem zBs (sz s off len c:Nat) (lo hi mx:Option PV):QE sz (.sl s off len (.known c)) lo hi mx=(qY mx c c).bind fun m=>(qY hi len m).bind fun h=>(qY lo 0 h).bind fun l=>if hi.isNone=true∧mx.isSome=true then none else some (.sl s (if m=l then off else off+l*sz) (h-l) (.known (m-l))):=rfl
theorem zBt (sz s off len g:Nat) (lo hi:Option PV):QE sz (.sl s off len (.grown g)) lo hi none=(qY hi len len).bind fun h=>(qY lo 0 h).bind fun l=>some (.sl s (off+l*sz) (h-l) (.grown (if g=sz then g else 0))):=rfl
theorem zEd (s:List UInt8) (lo hi:Option PV):zAf (.str s) lo hi=(qY hi s.length s.length).bind fun h=>(qY lo 0 h).bind fun l=>some (.str ((s.take h).drop l)):=rfl
theorem zLv (w:Bool) (a:AV) (n:Nat) (cs:List PV):plen (.fz w a n cs)=some n:=rfl
theorem zLu (s o n:Nat) (c:Cap):plen (.sl s o n c)=some n:=rfl
theorem Z9 (sz bytes:Nat) (s x:PV):ZC sz bytes h s x=(plen x).bind fun m=>if m=0 then(psame s).map fun v=>(v,h)else(Ze sz h x m).bind fun news=>pgrow sz bytes h s news m:=rfl
theorem zCj (s o n c:Nat):psame (.sl s o n (.known c))=if n≤c then some (.sl s o n (.known c))else none:=rfl
theorem zEO (sz:Nat) (w:Bool) (a:AV) (len:Nat) (cs:List PV) (n:Nat):Ze sz h (.fz w a len cs) n=if n=0 then some []else if n≤len∧n*sz≤cs.length∧0<sz then some (cs.take (n*sz))else none:=rfl
theorem Qu (sz s off len:Nat) (c:Cap) (n:Nat):Ze sz h (.sl s off len c) n=if n=0 then some []else if n≤len then h.rd s off (n*sz)else none:=rfl
theorem zDc (sz bytes:Nat) (w:Bool) (n:Nat) (cs news:List PV) (m:Nat):pgrow sz bytes h (.fz w .nils n cs) news m=if m*bytes≤140737488355328∧m≤4611686018427387904 then some (.sl h.next 0 m (.grown sz),h.new news)else none:=rfl
theorem Qp (sz bytes s off len c:Nat) (news:List PV) (m:Nat):pgrow sz bytes h (.sl s off len (.known c)) news m=if len+m≤c then(h.wr s (off+len*sz) news).map fun σ'=>(.sl s off (len+m) (.known c),σ')else if (len+m)*bytes≤140737488355328∧len+m≤4611686018427387904 then(h.rd s off (len*sz)).map fun old=>(.sl h.next 0 (len+m) (.grown sz),h.new (old++news))else none:=rfl
theorem Qq (sz bytes s off len g:Nat) (news:List PV) (m:Nat):pgrow sz bytes h (.sl s off len (.grown g)) news m=if (len+m)*bytes≤140737488355328∧len+m≤4611686018427387904∧g=sz then(h.obj s).bind fun cs=>if off+len*sz≤cs.length then some (.sl h.next 0 (len+m) (.grown sz),(h.kill s).new ((cs.drop off).take (len*sz)++news))else none else none:=rfl
theorem zKA (cs:List PV) (s i:Nat):(h.new cs).rd1 s i=if s=h.next then cs[i]? else h.rd1 s i:=by by_cases x:s=h.next<;>simp [PHeap.rd1,PHeap.new,x]
theorem zAJ (cs:List PV) (s i n:Nat):(h.new cs).rd s i n=if s=h.next then(if i+n≤cs.length then some ((cs.drop i).take n)else none)else h.rd s i n:=by by_cases x:s=h.next<;>simp [PHeap.rd,PHeap.new,x]
theorem ZG (cs:List PV) (s:Nat):(h.new cs).obj s=if s=h.next then some cs else h.obj s:=rfl
theorem zLk (cs:List PV) (s i:Nat) (vs:List PV):(h.new cs).wr s i vs=if s=h.next then(if i+vs.length≤cs.length∧vs.all PV.one=true then some (h.new (cs.take i++vs++cs.drop (i+vs.length)))else none)else(h.wr s i vs).map fun h'=>h'.new cs:=by
 by_cases x:s=h.next
 ·subst x
  simp only [PHeap.wr,PHeap.new,if_true,Option.bind_some]
  split
  ·congr 1
   simp only [PHeap.set]
   congr 1
   funext y
   by_cases hy:y=h.next<;>simp [hy]
  ·rfl
 ·simp only [PHeap.wr,PHeap.new,if_neg x]
  cases ho:h.obj s with
  | none=>rfl
  | some ob=>
   simp only [Option.bind_some]
   split
   ·simp only [Option.map_some,PHeap.set]
    congr 2
    funext y
    by_cases hy:y=s
    ·subst hy;simp [x]
    ·simp [hy]
   ·rfl
theorem zIk (cs:List PV):(h.new cs).next=h.next+1:=rfl
theorem zFC (cs:List PV):(h.new cs).top=h.top:=rfl
theorem zJ7 (cs:List PV) (s:Nat) (ds:List PV):(h.new cs).set s ds=if s=h.next then h.new ds else(h.set s ds).new cs:=by
 by_cases x:s=h.next
 ·subst x
  rw [if_pos rfl];simp only [PHeap.set,PHeap.new]
  congr 1
  funext y
  by_cases hy:y=h.next<;>simp [hy]
 ·rw [if_neg x]
  simp only [PHeap.set,PHeap.new]
  congr 1
  funext y
  by_cases hy:y=s
  ·subst hy;simp [x]
  ·simp [hy]
theorem Qj (s:Nat) (cs ds:List PV):(h.set s cs).set s ds=h.set s ds:=by
 simp only [PHeap.set]
 congr 1
 funext y
 by_cases hy:y=s<;>simp [hy]
theorem zIj (s:Nat) (cs:List PV):(h.set s cs).next=h.next:=rfl
theorem zHQ (s:Nat):(h.kill s).next=h.next:=rfl
theorem zKG (t:Nat):(h.up t).next=h.next:=rfl
theorem zAy (t:Nat):(h.up t).top=t:=rfl
theorem zLt (t:Nat) (cs:List PV):(h.up t).new cs=(h.new cs).up t:=rfl
theorem zLo (t s i:Nat):(h.up t).rd1 s i=h.rd1 s i:=rfl
theorem zMy (t s i n:Nat):(h.up t).rd s i n=h.rd s i n:=rfl
theorem zLs (t s:Nat):(h.up t).obj s=h.obj s:=rfl
theorem zMw (t s i:Nat) (vs:List PV):(h.up t).wr s i vs=(h.wr s i vs).map fun h'=>h'.up t:=by
 simp only [PHeap.wr,PHeap.up];cases h.obj s with
 | none=>rfl
 | some cs=>simp only [Option.bind_some];split<;>rfl
theorem zIi (s t:Nat):(h.kill s).obj t=if t=s then none else h.obj t:=rfl
theorem qf (s:Nat) (cs:List PV) (t:Nat):(h.set s cs).obj t=if t=s then some cs else h.obj t:=rfl
theorem zIc (s t i:Nat):(h.kill s).rd1 t i=if t=s then none else h.rd1 t i:=by by_cases x:t=s<;>simp [PHeap.rd1,PHeap.kill,x]
theorem zJ8 (s t i n:Nat):(h.kill s).rd t i n=if t=s then none else h.rd t i n:=by by_cases x:t=s<;>simp [PHeap.rd,PHeap.kill,x]
theorem zJ9 (s:Nat) (cs:List PV) (t i:Nat):(h.set s cs).rd1 t i=if t=s then cs[i]? else h.rd1 t i:=by by_cases x:t=s<;>simp [PHeap.rd1,PHeap.set,x]
theorem zLn (s:Nat) (cs:List PV) (t i n:Nat):(h.set s cs).rd t i n=if t=s then(if i+n≤cs.length then some ((cs.drop i).take n)else none)else h.rd t i n:=by by_cases x:t=s<;>simp [PHeap.rd,PHeap.set,x]
theorem zLj (s:Nat) (cs:List PV) (i:Nat) (vs:List PV):(h.set s cs).wr s i vs=if i+vs.length≤cs.length∧vs.all PV.one=true then some (h.set s (cs.take i++vs++cs.drop (i+vs.length)))else none:=by
 simp only [PHeap.wr,PHeap.set,if_true,Option.bind_some]
 split
 ·congr 2
  funext y
  by_cases hy:y=s<;>simp [hy]
 ·rfl
end
def pw0:=And.intro @zLJ <| And.intro @zIF <| And.intro @zLL <| And.intro @zMa <| And.intro @zLM <| And.intro @zJm <| And.intro @zLK <| And.intro @zMb <| And.intro @zMT <| And.intro @RVp_q <| And.intro @RVp_e <| And.intro @zMW <| And.intro @DVp_q <| And.intro @DVp_e <| And.intro @zKi <| And.intro @zKh <| And.intro @zKk <| And.intro @zKj <| And.intro @zGG <| And.intro @zFL <| And.intro @zHU <| And.intro @zGH <| And.intro @zFK <| And.intro @zFI <| And.intro @zFH <| And.intro @zFJ <| And.intro @pv_t <| And.intro @pv_c <| And.intro @zKH <| @zId
def pw1:=And.intro @zIe <| And.intro @qp_mv <| And.intro @zLg <| And.intro @zMv <| And.intro @qp_un <| And.intro @zLi <| And.intro @zGB <| And.intro @zJ4 <| And.intro @zJ3 <| And.intro @zFA <| And.intro @zE9 <| And.intro @zGD <| And.intro @zHM <| And.intro @zMt <| And.intro @zIY <| And.intro @zMu <| And.intro @zJ2 <| And.intro @zGA <| And.intro @zIX <| And.intro @zGC <| And.intro @zLh <| And.intro @zMs <| And.intro @zLf <| And.intro @zKt <| And.intro @zNC <| And.intro @zHt <| And.intro @zKr <| And.intro @zHf <| And.intro @zJR <| And.intro @zGn <| @zGV
def pw2:=And.intro @zI4 <| And.intro @zJS <| And.intro @zMJ <| And.intro @zMK <| And.intro @zKs <| And.intro @zHj <| And.intro @zKb <| And.intro @of_bool <| And.intro @of_int <| And.intro @zM0 <| And.intro @zL5 <| And.intro @zL6 <| And.intro @zL4 <| And.intro @zM1 <| And.intro @zM2 <| And.intro @zL3 <| And.intro @zKa <| And.intro @zL2 <| And.intro @zKX <| And.intro @zKN <| And.intro @zKR <| And.intro @zKW <| And.intro @zKQ <| And.intro @zKS <| And.intro @zKT <| And.intro @zKU <| And.intro @zKV <| And.intro @zKP <| And.intro @zKO <| @zHd
def pw3:=And.intro @zIw <| And.intro @zHe <| And.intro @zIv <| And.intro @zIu <| And.intro @zHc <| And.intro @zGP <| And.intro @zHb <| And.intro @zGO <| And.intro @zGN <| And.intro @zGM <| And.intro @zGL <| And.intro @zGf <| And.intro @zJJ <| And.intro @zLm <| And.intro @zLl <| And.intro @zHg <| And.intro @zGR <| And.intro @zI7 <| And.intro @zKY <| And.intro @zKZ <| And.intro @zLy <| And.intro @zHi <| And.intro @zHh <| And.intro @zEA <| And.intro @zEg <| And.intro @zI5 <| And.intro @zI6 <| And.intro @zGU <| And.intro @zFO <| @zL0
def pw4:=And.intro @zLz <| And.intro @zGT <| And.intro @zI8 <| And.intro @zL1 <| And.intro @zGS <| And.intro @zIn <| And.intro @zIm <| And.intro @zKJ <| And.intro @zKI <| And.intro @zIl <| And.intro @zHR <| And.intro @zID <| And.intro @zGv <| And.intro @zGw <| And.intro @zF4 <| And.intro @zIT <| And.intro @zF3 <| And.intro @zHK <| And.intro @zIR <| And.intro @zF5 <| And.intro @zDX <| And.intro @zE5 <| And.intro @zE4 <| And.intro @zC0 <| And.intro @zCz <| And.intro @zDZ <| And.intro @zD8 <| And.intro @zHI <| And.intro @zEc <| @zHJ
def pw5:=And.intro @zE3 <| And.intro @zDW <| And.intro @zEb <| And.intro @zDY <| And.intro @zHH <| And.intro @zF2 <| And.intro @zEw <| And.intro @zEv <| And.intro @zHE <| And.intro @zHD <| And.intro @zFy <| And.intro @zF0 <| And.intro @zJw <| And.intro @zI2 <| And.intro @zI3 <| And.intro @zI1 <| And.intro @zIp <| And.intro @zHT <| And.intro @zHX <| And.intro @zKE <| And.intro @zGK <| And.intro @zIh <| And.intro @zHV <| And.intro @zKC <| And.intro @zGI <| And.intro @zIf <| And.intro @zGJ <| And.intro @zIg <| And.intro @zIr <| And.intro @zLq <| @zIs
def pw6:=And.intro @zLr <| And.intro @zHW <| And.intro @zKD <| And.intro @zIq <| And.intro @zLp <| And.intro @zHY <| And.intro @zKF <| And.intro @zHZ <| And.intro @zBO <| And.intro @zAU <| And.intro @zAV <| And.intro @zIb <| And.intro @zBs <| And.intro @zBt <| And.intro @zEd <| And.intro @zLv <| And.intro @zLu <| And.intro @zKA <| And.intro @zAJ <| And.intro @ZG <| And.intro @zLk <| And.intro @zIk <| And.intro @zFC <| And.intro @zJ7 <| And.intro @Qj <| And.intro @zIj <| And.intro @zHQ <| And.intro @zKG <| And.intro @zAy <| @zLt
def pw7:=And.intro @zLo <| And.intro @zMy <| And.intro @zLs <| And.intro @zMw <| And.intro @zIi <| And.intro @qf <| And.intro @zIc <| And.intro @zJ8 <| And.intro @zJ9 <| And.intro @zLn <| And.intro @zLj <| And.intro @zJ <| And.intro @zK <| And.intro @zU <| And.intro @zh <| And.intro @List.map_cons.{0,0} <| And.intro @List.map_nil.{0,0} <| And.intro @List.length_cons.{0} <| And.intro @List.length_nil.{0} <| And.intro @List.getElem?_cons_zero.{0} <| And.intro @List.getElem?_cons_succ.{0} <| And.intro @List.take_succ_cons.{0} <| And.intro @List.take_zero.{0} <| And.intro @List.drop_succ_cons.{0} <| And.intro @List.drop_zero.{0} <| And.intro @List.take_nil.{0} <| And.intro @List.drop_nil.{0} <| And.intro @List.nil_append.{0} <| And.intro @List.cons_append.{0} <| @List.append_nil.{0}
def pw8:=And.intro @List.all_cons.{0} <| And.intro @List.all_nil.{0} <| And.intro @List.contains_cons.{0} <| And.intro @List.contains_nil.{0} <| And.intro @Option.map_some.{0,0} <| And.intro @Option.map_none.{0,0} <| And.intro @Option.bind_some.{0,0} <| And.intro @Option.bind_none.{0,0} <| And.intro @decide_true <| And.intro @decide_false <| And.intro @Bool.not_true <| And.intro @Bool.not_false <| And.intro @Bool.and_true <| And.intro @Bool.true_and <| And.intro @Bool.and_self <| And.intro @Bool.or_false <| And.intro @Bool.or_true <| And.intro @Bool.true_or <| And.intro @Bool.false_or <| And.intro @true_and <| And.intro @and_true <| And.intro @Bool.true_eq_false <| And.intro @Bool.false_eq_true <| And.intro @Nat.left_eq_add <| And.intro @Nat.add_eq_left <| And.intro @Nat.succ_ne_self <| And.intro @Nat.one_ne_zero <| And.intro @Nat.add_left_cancel_iff <| And.intro @Nat.add_assoc <| @Nat.mul_one
def pw9:=And.intro @Nat.zero_add <| And.intro @Nat.add_zero <| And.intro @Nat.le_refl <| And.intro @Nat.lt_add_one <| And.intro @Int.toNat_natCast <| And.intro @Int.natCast_nonneg <| And.intro @Int.ofNat_lt <| And.intro @Int.le_refl <| And.intro @zH <| And.intro @zI <| And.intro @zG <| And.intro @Nat.one_mul <| @Nat.zero_mul
def pwA:=And.intro pw0 <| And.intro pw1 <| And.intro pw2 <| And.intro pw3 <| And.intro pw4 <| And.intro pw5 <| And.intro pw6 <| And.intro pw7 <| And.intro pw8 <| And.intro pw9 <| And.intro @nm_eq <| And.intro @eq_self.{1} <| And.intro @Int.ofNat_le @List.getElem?_drop.{0}
end Go.Ab
