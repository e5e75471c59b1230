/- THE RULES BY WHICH CODE IS WALKED over values without a heap: equations, and the one name 'pw' for all of them. Written by a program. -/
import Derived.Test.YtfoidnlodahfjaaGreatAAbPg
import Derived.Test.YtfoidnlodahfjaaGreatAAbAid
set_option linter.unusedVariables false
set_option linter.unusedSimpArgs false
set_option linter.defProp false
namespace Go.Ab
section
variable {P:Program} {Q:Exit→PEnv→PHeap→Prop} {e:PEnv} {h:PHeap} {K:PEnv→PHeap→Prop} {KA:PV→PHeap→Prop} {nb nr:Nat}
theorem zKf:vp P .skip Q e h=Q .normal e h:=rfl
theorem zH6 (S:List Nat) (its:List II):vp P (.region S its) Q e h=RVp P its e h fun e' h'=>Q .normal (PEnv.mk S (S.map e')) h':=rfl
theorem zDh (S:List Nat) (t:OT):vp P (.tree S t) Q e h=TVp P t [] e h fun e' h'=>Q .normal (PEnv.mk S (S.map e')) h':=rfl
theorem ZO (recs:List RecP):TVp P .done recs e h K=K e h:=rfl
theorem ZN (recs:List RecP):TVp P .none recs e h K=True:=rfl
theorem TVp_q (d:Option Nat) (op:IOp) (g:Option (Nat×Bool)) (q:Bool) (i:Nat) (c:List Nat) (nx:OT) (recs:List RecP):TVp P (.q ⟨⟨d,op,q,g⟩,i,c⟩ nx) recs e h K=optK (gqp 0 0 ⟨d,op,q,g⟩ e h) fun v=>TVp P nx (zZ ⟨⟨d,op,q,g⟩,i,c⟩ e v++recs) (e.put d v) h K:=rfl
theorem TVp_e (d:Option Nat) (op:IOp) (g:Option (Nat×Bool)) (q:Bool) (i:Nat) (c:List Nat) (nx alt:OT) (recs:List RecP):TVp P (.e ⟨⟨d,op,q,g⟩,i,c⟩ nx alt) recs e h K=((gep P ⟨d,op,q,g⟩ e h fun v h'=>Zh c recs h'∧TVp P nx recs (e.put d v) h' K)∧TVp P alt recs e h K):=rfl
theorem zKh (S:List Nat) (zs:List (List AV)) (its:List DI):vp P (.draw S zs its) Q e h=DVp P h.next zs.length its [] e (h.news zs) fun e' h'=>Q .normal (PEnv.mk S (S.map e')) h':=rfl
theorem zLT (a b:IC):vp P (.seq a b) Q e h=vp P a (fun x e' h'=>match x with | .normal=>vp P b Q e' h' | x=>Q x e' h') e h:=rfl
theorem zKi (c:IX) (a b:IC):vp P (.cond c a b) Q e h=ZC (c.pv e) (vp P a Q e h) (vp P b Q e h):=rfl
theorem zJe (id:Nat) (c:IC):vp P (.block id c) Q e h=vp P c (fun x e' h'=>match x with | .exit id'=>if id'=id then Q .normal e' h' else Q (.exit id') e' h' | x=>Q x e' h') e h:=rfl
theorem zKg (id:Nat):vp P (.exit id) Q e h=Q (.exit id) e h:=rfl
theorem zLU:vp P .ret Q e h=Q .ret e h:=rfl
theorem zLN:RVp P [] e h K=K e h:=rfl
theorem RVp_q (d:Option Nat) (op:IOp) (g:Option (Nat×Bool)) (r:List II):RVp P (⟨d,op,true,g⟩::r) e h K=optK (gqp 0 0 ⟨d,op,true,g⟩ e h) fun v=>RVp P r (e.put d v) h K:=rfl
theorem RVp_e (d:Option Nat) (op:IOp) (g:Option (Nat×Bool)) (r:List II):RVp P (⟨d,op,false,g⟩::r) e h K=gep P ⟨d,op,false,g⟩ e h fun v h'=>RVp P r (e.put d v) h' K:=rfl
theorem zLP (recs:List RecP):DVp P nb nr [] recs e h K=K e h:=rfl
theorem DVp_q (d:Option Nat) (op:IOp) (g:Option (Nat×Bool)) (i:Nat) (c:List Nat) (r:List DI) (recs:List RecP):DVp P nb nr (⟨⟨d,op,true,g⟩,i,c⟩::r) recs e h K=optK (gqp nb nr ⟨d,op,true,g⟩ e h) fun v=>DVp P nb nr r (zZ ⟨⟨d,op,true,g⟩,i,c⟩ e v++recs) (e.put d v) h K:=rfl
theorem DVp_e (d:Option Nat) (op:IOp) (g:Option (Nat×Bool)) (i:Nat) (c:List Nat) (r:List DI) (recs:List RecP):DVp P nb nr (⟨⟨d,op,false,g⟩,i,c⟩::r) recs e h K=gep P ⟨d,op,false,g⟩ e h fun v h'=>Zh c recs h'∧DVp P nb nr r recs (e.put d v) h' K:=rfl
theorem zKQ (d:Option Nat) (op:IOp) (q:Bool):gqp nb nr ⟨d,op,q,none⟩ e h=qp nb nr op e h:=rfl
theorem zKP (d:Option Nat) (op:IOp) (q:Bool) (t:Nat) (b:Bool):gqp nb nr ⟨d,op,q,some (t,b)⟩ e h=Zx (e t) b (qp nb nr op e h):=rfl
theorem zKS (d:Option Nat) (op:IOp) (q:Bool):gep P ⟨d,op,q,none⟩ e h KA=ep P op e h KA:=rfl
theorem zKR (d:Option Nat) (op:IOp) (q:Bool) (t:Nat) (b:Bool):gep P ⟨d,op,q,some (t,b)⟩ e h KA=ZB (e t) b (ep P op e h KA) (KA (.tup []) h):=rfl
theorem zFz (a b:Prop):ZC (.bool true) a b=a:=rfl
theorem zE3 (a b:Prop):ZC (.bool false) a b=b:=rfl
theorem zHD (c:Prop) [Decidable c] (a b:Prop):ZC (.bool (decide c)) a b=if c then a else b:=by by_cases x:c<;>simp [ZC,x]
theorem zF0 (c:Prop) [Decidable c] (a b:Prop):ZC (.bool (!decide c)) a b=if c then b else a:=by by_cases x:c<;>simp [ZC,x]
theorem zE2 (c b:Bool) (x y:Prop):ZB (.bool c) b x y=if c=b then x else y:=rfl
theorem zE0 (c b:Bool) (x:Option PV):Zx (.bool c) b x=if c=b then x else some (.tup []):=rfl
theorem zEz (b:Bool) (x:Option PV):Zx (.tup []) b x=some (.tup []):=rfl
theorem zE1 (b:Bool) (x y:Prop):ZB (.tup []) b x y=y:=rfl
theorem pv_t (n:Nat):(IX.t n).pv e=e n:=rfl
theorem pv_c (v:AV):(IX.c v).pv e=ofAV v:=rfl
theorem zJy (s:Nat) (S:List Nat) (v:PV) (vs:List PV) (t:Nat):PEnv.mk (s::S) (v::vs) t=if t=s then v else PEnv.mk S vs t:=rfl
theorem zIO (d:Nat) (v:PV) (t:Nat):e.put (some d) v t=if t=d then v else e t:=rfl
theorem zIP (v:PV):e.put none v=e:=rfl
theorem qp_mv (x:IX):qp nb nr (.mv x) e h=some (x.pv e):=rfl
theorem zKo (c a b:IX):qp nb nr (.pick c a b) e h=pPick (c.pv e) (a.pv e) (b.pv e):=rfl
theorem zLd (op:BinOp) (ek:EqK) (x y:IX):qp nb nr (.bin op ek x y) e h=pbin op ek (x.pv e) (y.pv e):=rfl
theorem qp_un (op:UnOp) (x:IX):qp nb nr (.un op x) e h=pun op (x.pv e):=rfl
theorem zKq (k:IntKind) (x:IX):qp nb nr (.conv k x) e h=pConv k (x.pv e):=rfl
theorem zFt (x:IX):qp nb nr (.nilCheck x) e h=pNil (x.pv e):=rfl
theorem zJn (z:List AV) (ps:List (Nat×Nat×IX)):qp nb nr (.build z ps) e h=(pfill (ofAVs z) (ps.map fun p=>(p.1,p.2.1,p.2.2.pv e))).map .agg:=rfl
theorem zJm (a:Bool) (n off:Nat) (x:IX):qp nb nr (.field a n off x) e h=zBf a n off (x.pv e):=rfl
theorem zEr (off:Nat) (x:IX):qp nb nr (.fieldAddr off x) e h=Z5 off (x.pv e):=rfl
theorem zEq (sz:Nat) (x i:IX):qp nb nr (.indexAddr sz x i) e h=zAj sz (x.pv e) (i.pv e):=rfl
theorem zFv (x i:IX):qp nb nr (.indexStr x i) e h=zCB (x.pv e) (i.pv e):=rfl
theorem zG8 (x:IX) (i:Nat):qp nb nr (.extract x i) e h=zA8 (x.pv e) i:=rfl
theorem zLb (x:IX):qp nb nr (.len x) e h=pLen (x.pv e):=rfl
theorem zIJ (x:IX):qp nb nr (.lenStr x) e h=zCA (x.pv e):=rfl
theorem zLc (x:IX):qp nb nr (.cap x) e h=pCap (x.pv e):=rfl
theorem zJl (sz:Nat) (x:IX) (lo hi mx:Option IX):qp nb nr (.slice sz x lo hi mx) e h=Zo sz (x.pv e) (lo.map (·.pv e)) (hi.map (·.pv e)) (mx.map (·.pv e)):=rfl
theorem zFs (x:IX) (lo hi:Option IX):qp nb nr (.sliceStr x lo hi) e h=zAI (x.pv e) (lo.map (·.pv e)) (hi.map (·.pv e)):=rfl
theorem zII (mx:Bool) (x y:IX):qp nb nr (.maxmin mx x y) e h=zAi mx (x.pv e) (y.pv e):=rfl
theorem zFu (f:FuncId) (a b:List IX):qp nb nr (.makeFunc f a b) e h=some (.clo f (a.map (·.pv e)) (b.map (·.pv e))):=rfl
theorem zKp (a:Bool) (n:Nat) (x:IX):qp nb nr (.load a n x) e h=pldv a n (x.pv e) h:=rfl
theorem zLa (k:Nat):qp nb nr (.rev k) e h=if k<nr then some (.ptr (nb+k) 0)else none:=rfl
theorem zKn (k n:Nat):qp nb nr (.revS k n) e h=if k<nr then some (.sl (nb+k) 0 n (.known n))else none:=rfl
theorem zKZ (z:List AV):ep P (.alloc z) e h KA=KA (.ptr h.next 0) (h.new (ofAVs z)):=rfl
theorem zL0 (x:IX):ep P (.box x) e h KA=((x.pv e).cells.all PV.one=true∧KA (.ptr h.next 0) (h.new (x.pv e).cells)):=rfl
theorem zHr (sz len:Nat) (z:List AV) (ps:List (Nat×Nat×IX)):ep P (.buildSl sz len z ps) e h KA=optK (pfill (ofAVs (zeros z len)) (ps.map fun p=>(p.1,p.2.1,p.2.2.pv e))) fun cs=>KA (.sl h.next 0 len (.known len)) (h.new cs):=rfl
def zDJ (n:Nat) (x v:PV) (h:PHeap) (KA:PV→PHeap→Prop):Prop:=
 match x with
 | .ptr s i=>v.cells.length=n∧optK (h.wr s i v.cells) fun h'=>KA .undef h'
 | _=>False
def pMake (sz bytes:Nat) (z:List AV) (l c:PV) (h:PHeap) (KA:PV→PHeap→Prop):Prop:=
 match l,c with
 | .int _ l,.int _ c=>(0≤l∧l≤c∧c*bytes≤140737488355328∧c≤9223372036854775807)∧KA (.sl h.next 0 l.toNat (.known c.toNat)) (h.new (ofAVs (zeros z c.toNat)))
 | _,_=>False
def zAk (sz bytes:Nat) (z:List AV) (s n:PV) (h:PHeap) (KA:PV→PHeap→Prop):Prop:=
 match s,n with
 | .fz _ .nils _ _,.int _ n=>(0≤n∧n*bytes≤140737488355328∧n≤4611686018427387904)∧if 0<n then KA (.sl h.next 0 n.toNat (.grown sz)) (h.new (ofAVs (zeros z n.toNat)))else KA (.fz true .nils 0 []) h
 | .sl s off len c,.int _ n=>(0≤n∧n*bytes≤140737488355328∧n≤4611686018427387904)∧optK (if 0<n then pgrow sz bytes h (.sl s off len c) (ofAVs (zeros z n.toNat)) n.toNat else(psame (.sl s off len c)).map fun v=>(v,h)) fun p=>KA p.1 p.2
 | _,_=>False
def zDK (P:Program) (f:PV) (args:List PV) (h:PHeap) (KA:PV→PHeap→Prop):Prop:=
 match f with
 | .clo f first caps=>okF P f=true∧zA P f (first++args++caps) h KA
 | _=>False
theorem zKX (n:Nat) (x v:IX):ep P (.store n x v) e h KA=zDJ n (x.pv e) (v.pv e) h KA:=rfl
theorem zHO (n s i:Nat) (v:PV):zDJ n (.ptr s i) v h KA=(v.cells.length=n∧optK (h.wr s i v.cells) fun h'=>KA .undef h'):=rfl
theorem zJM (sz bytes:Nat) (z:List AV) (l c:IX):ep P (.makeSl sz bytes z l c) e h KA=pMake sz bytes z (l.pv e) (c.pv e) h KA:=rfl
theorem zGZ (sz bytes:Nat) (z:List AV) (s n:IX):ep P (.appendMk sz bytes z s n) e h KA=zAk sz bytes z (s.pv e) (n.pv e) h KA:=rfl
theorem zGF (sz bytes:Nat) (z:List AV) (w:Bool) (l:Nat) (cs:List PV) (k:IntKind) (n:Int):zAk sz bytes z (.fz w .nils l cs) (.int k n) h KA=((0≤n∧n*bytes≤140737488355328∧n≤4611686018427387904)∧if 0<n then KA (.sl h.next 0 n.toNat (.grown sz)) (h.new (ofAVs (zeros z n.toNat)))else KA (.fz true .nils 0 []) h):=rfl
theorem zIq (sz bytes:Nat) (z:List AV) (s off len:Nat) (c:Cap) (k:IntKind) (n:Int):zAk sz bytes z (.sl s off len c) (.int k n) h KA=((0≤n∧n*bytes≤140737488355328∧n≤4611686018427387904)∧optK (if 0<n then pgrow sz bytes h (.sl s off len c) (ofAVs (zeros z n.toNat)) n.toNat else(psame (.sl s off len c)).map fun v=>(v,h)) fun p=>KA p.1 p.2):=rfl
theorem zIl (sz bytes:Nat) (z:List AV) (k k':IntKind) (l c:Int):pMake sz bytes z (.int k l) (.int k' c) h KA=((0≤l∧l≤c∧c*bytes≤140737488355328∧c≤9223372036854775807)∧KA (.sl h.next 0 l.toNat (.known c.toNat)) (h.new (ofAVs (zeros z c.toNat)))):=rfl
def pLook (x k:PV) (h:PHeap) (KA:PV→PHeap→Prop):Prop:=
 match x,k with
 | .mref s,.int kk i=>(kk=.i64∧0≤i)∧optK (h.rd1 s i.toNat) fun v=>KA v h
 | _,_=>False
def pUpd (x k v:PV) (h:PHeap) (KA:PV→PHeap→Prop):Prop:=
 match x,k,v with
 | .mref s,.int kk i,.bool b=>(kk=.i64∧0≤i)∧optK (h.wr s i.toNat [.bool b]) fun h'=>KA .undef h'
 | _,_,_=>False
theorem QN (x:IX):ep P (.strOf x) e h KA=optK (Q6 h (x.pv e)) fun s=>KA (.str s) h:=rfl
theorem zHq:ep P .makeMap e h KA = ∃N,KA (.mref h.next) (h.new (List.replicate N (.bool false))):=rfl
theorem zJN (x k:IX):ep P (.lookup x k) e h KA=pLook (x.pv e) (k.pv e) h KA:=rfl
theorem zHQ (s:Nat) (i:Int):pLook (.mref s) (.int .i64 i) h KA=(0≤i∧optK (h.rd1 s i.toNat) fun v=>KA v h):=by
 show((IntKind.i64=.i64∧0≤i)∧_)=_
 simp only [true_and]
theorem zEG (x k v:IX):ep P (.mapUpd x k v) e h KA=pUpd (x.pv e) (k.pv e) (v.pv e) h KA:=rfl
theorem zD3 (s:Nat) (i:Int) (b:Bool):pUpd (.mref s) (.int .i64 i) (.bool b) h KA=(0≤i∧optK (h.wr s i.toNat [.bool b]) fun h'=>KA .undef h'):=by
 show((IntKind.i64=.i64∧0≤i)∧_)=_
 simp only [true_and]
theorem zJO (sz bytes:Nat) (s x:IX):ep P (.append sz bytes s x) e h KA=optK (zY sz bytes h (s.pv e) (x.pv e)) fun p=>KA p.1 p.2:=rfl
theorem zLK (sz:Nat) (d s:IX):ep P (.copy sz d s) e h KA=optK (pcopy sz h (d.pv e) (s.pv e)) fun p=>KA p.1 p.2:=rfl
theorem zLL (f:FuncId) (args:List IX):ep P (.call f args) e h KA=zA P f (args.map (·.pv e)) h KA:=rfl
theorem zKY (f:IX) (args:List IX):ep P (.callV f args) e h KA=zDK P (f.pv e) (args.map (·.pv e)) h KA:=rfl
theorem zHT (f:FuncId) (a b args:List PV):zDK P (.clo f a b) args h KA=(okF P f=true∧zA P f (a++args++b) h KA):=rfl
theorem zKK:ofAV .undef=.undef:=rfl
theorem of_bool (b:Bool):ofAV (.bool b)=.bool b:=rfl
theorem of_int (k:IntKind) (n:Int):ofAV (.int k n)=.int k n:=rfl
theorem zLl (s:List UInt8):ofAV (.str s)=.str s:=rfl
theorem zLA:ofAV .nilp=.nilp:=rfl
theorem zLB:ofAV .nilf=.nilf:=rfl
theorem zK9:ofAV .nils=.fz true .nils 0 []:=rfl
theorem zLm (f:FuncId) (a b:List AV):ofAV (.clo f a b)=.clo f (ofAVs a) (ofAVs b):=rfl
theorem zLn (a:List AV):ofAV (.agg a)=.agg (ofAVs a):=rfl
theorem zK8:ofAVs []=[]:=rfl
theorem zKJ (c:AV) (cs:List AV):ofAVs (c::cs)=ofAV c::ofAVs cs:=rfl
theorem zGm (n:Nat) (c:AV):ofAVs (List.replicate n c)=List.replicate n (ofAV c):=by rw [zD4,List.map_replicate]
theorem zKE (k:IntKind) (ek:EqK) (a b:Int):pbin .add ek (.int k a) (.int k b)=some (.int k (k.wrap (a+b))):=by simp [pbin,abin,aint,ofAV]
theorem zJ4 (k:IntKind) (ek:EqK) (a b:Int):pbin .sub ek (.int k a) (.int k b)=some (.int k (k.wrap (a-b))):=by simp [pbin,abin,aint,ofAV]
theorem zJ8 (k:IntKind) (ek:EqK) (a b:Int):pbin .mul ek (.int k a) (.int k b)=some (.int k (k.wrap (a*b))):=by simp [pbin,abin,aint,ofAV]
theorem zKD (k:IntKind) (ek:EqK) (a b:Int):pbin .eql ek (.int k a) (.int k b)=some (.bool (decide (a=b))):=by simp [pbin,abin,aint,ofAV]
theorem zJ7 (k:IntKind) (ek:EqK) (a b:Int):pbin .neq ek (.int k a) (.int k b)=some (.bool (!decide (a=b))):=by simp [pbin,abin,aint,ofAV]
theorem zJ9 (k:IntKind) (ek:EqK) (a b:Int):pbin .lss ek (.int k a) (.int k b)=some (.bool (decide (a<b))):=by simp [pbin,abin,aint,ofAV]
theorem zKA (k:IntKind) (ek:EqK) (a b:Int):pbin .leq ek (.int k a) (.int k b)=some (.bool (decide (a≤b))):=by simp [pbin,abin,aint,ofAV]
theorem zKB (k:IntKind) (ek:EqK) (a b:Int):pbin .gtr ek (.int k a) (.int k b)=some (.bool (decide (b<a))):=by simp [pbin,abin,aint,ofAV]
theorem zKC (k:IntKind) (ek:EqK) (a b:Int):pbin .geq ek (.int k a) (.int k b)=some (.bool (decide (b≤a))):=by simp [pbin,abin,aint,ofAV]
theorem zJ6 (k:IntKind) (ek:EqK) (a b:Int):pbin .quo ek (.int k a) (.int k b)=if b=0 then none else some (.int k (k.wrap (a.tdiv b))):=by simp only [pbin,abin,aint,if_true];split<;>rfl
theorem zJ5 (k:IntKind) (ek:EqK) (a b:Int):pbin .rem ek (.int k a) (.int k b)=if b=0 then none else some (.int k (a.tmod b)):=by simp only [pbin,abin,aint,if_true];split<;>rfl
theorem zHM (n:Nat) (xs ys:List PV):pbin .eql (.ints n) (.agg xs) (.agg ys)=if xs.length=n∧ys.length=n then(paggB xs ys).bind fun r=>some (.bool r)else none:=rfl
theorem zIh:paggB [] []=some true:=rfl
theorem zHN (k:IntKind) (a b:Int) (xs ys:List PV):paggB (.int k a::xs) (.int k b::ys)=(paggB xs ys).map fun r=>decide (a=b) && r:=by simp [paggB]
theorem zIg (a b:Bool):pbin .eql .bool (.bool a) (.bool b)=some (.bool (a == b)):=rfl
theorem zIf (a b:Bool):pbin .neq .bool (.bool a) (.bool b)=some (.bool !(a == b)):=rfl
theorem zHL (w w':Bool) (a:AV) (n n':Nat) (cs cs':List PV):pbin .eql .slice (.fz w a n cs) (.fz w' .nils n' cs')=some (.bool (qY a)):=rfl
theorem zF8 (w w':Bool) (a:AV) (n n':Nat) (cs cs':List PV):pbin .neq .slice (.fz w a n cs) (.fz w' .nils n' cs')=some (.bool (!qY a)):=rfl
theorem zHK (s o n:Nat) (c:Cap) (w':Bool) (n':Nat) (cs':List PV):pbin .eql .slice (.sl s o n c) (.fz w' .nils n' cs')=some (.bool false):=rfl
theorem zF7 (s o n:Nat) (c:Cap) (w':Bool) (n':Nat) (cs':List PV):pbin .neq .slice (.sl s o n c) (.fz w' .nils n' cs')=some (.bool true):=rfl
theorem zF6 (ek:EqK) (a b:List UInt8):pbin .add ek (.str a) (.str b)=if a.length+b.length≤9223372036854775807 then some (.str (a++b))else none:=by simp only [pbin,astr];split<;>rfl
theorem zF5 (ek:EqK) (a b:List UInt8):pbin .eql ek (.str a) (.str b)=some (.bool (a == b)):=rfl
theorem zF4 (ek:EqK) (a b:List UInt8):pbin .neq ek (.str a) (.str b)=some (.bool !(a == b)):=rfl
theorem zGV:qY .nils=true:=rfl
theorem zJE (o f n:Nat) (c:Cap):qY (.sl o f n c)=false:=rfl
theorem zKu (k:IntKind) (n:Int):pun .neg (.int k n)=some (.int k (k.wrap (0-n))):=rfl
theorem zKt (b:Bool):pun .not (.bool b)=some (.bool !b):=rfl
theorem zHP (a b:PV):pPick (.bool true) a b=some a:=rfl
theorem zGB (a b:PV):pPick (.bool false) a b=some b:=rfl
theorem zIo (k k':IntKind) (n:Int):pConv k (.int k' n)=some (.int k (k.wrap n)):=rfl
theorem zKF (s i:Nat):pNil (.ptr s i)=some (.ptr s i):=rfl
theorem zKG (f:FuncId) (a b:List PV):pNil (.clo f a b)=some (.clo f a b):=rfl
theorem zK4 (a:AV) (c:PV) (cs:List PV):pNil (.fp a (c::cs))=some (.fp a (c::cs)):=rfl
theorem zHS (n off:Nat) (cs:List PV):zBf true n off (.agg cs)=some (.agg ((cs.drop off).take n)):=rfl
theorem zHR (n off:Nat) (cs:List PV):zBf false n off (.agg cs)=cs[off]?:=rfl
theorem zDo (off s i:Nat):Z5 off (.ptr s i)=some (.ptr s (i+off)):=rfl
theorem zEP (off:Nat) (a:AV) (c:PV) (cs:List PV):Z5 off (.fp a (c::cs))=some (.fp (pAdd a off) ((c::cs).drop off)):=rfl
theorem zIm (sz s off len:Nat) (c:Cap) (k:IntKind) (n:Int):zAj sz (.sl s off len c) (.int k n)=if 0≤n∧n<len then some (.ptr s (off+n.toNat*sz))else none:=rfl
theorem zIn (sz:Nat) (w:Bool) (a:AV) (len:Nat) (cs:List PV) (k:IntKind) (n:Int):zAj sz (.fz w a len cs) (.int k n)=if 0≤n∧n<len then some (.fp (pAt a (n.toNat*sz)) (cs.drop (n.toNat*sz)))else none:=rfl
theorem zGE (s:List UInt8) (k:IntKind) (n:Int):zCB (.str s) (.int k n)=if 0≤n then(s[n.toNat]?).map fun c=>.int .u8 c.toNat else none:=rfl
theorem zE5 (vs:List PV) (i:Nat):zA8 (.tup vs) i=vs[i]?:=rfl
theorem zK6 (w:Bool) (a:AV) (n:Nat) (cs:List PV):pLen (.fz w a n cs)=some (.int .i64 n):=rfl
theorem zK5 (s o n:Nat) (c:Cap):pLen (.sl s o n c)=some (.int .i64 n):=rfl
theorem zGD (s:List UInt8):zCA (.str s)=some (.int .i64 s.length):=rfl
theorem zIp (w:Bool) (l:Nat) (cs:List PV):pCap (.fz w .nils l cs)=some (.int .i64 0):=rfl
theorem zK7 (s o n c:Nat):pCap (.sl s o n (.known c))=some (.int .i64 c):=rfl
theorem zGC (mx:Bool) (k:IntKind) (a b:Int):zAi mx (.int k a) (.int k b)=some (.int k (if mx=true then max a b else min a b)):=by simp [zAi]
theorem zIY (n s i:Nat):pldv false n (.ptr s i) h=h.rd1 s i:=rfl
theorem zIX (n s i:Nat):pldv true n (.ptr s i) h=(h.rd s i n).map .agg:=rfl
theorem zJ0 (n:Nat) (a:AV) (cs:List PV):pldv false n (.fp a cs) h=cs[0]?:=rfl
theorem zJz (n:Nat) (a:AV) (cs:List PV):pldv true n (.fp a cs) h=if 0<n∧n≤cs.length then some (.agg (cs.take n))else none:=rfl
theorem zIW:h.news []=h:=rfl
theorem zHB (z:List AV) (zs:List (List AV)):h.news (z::zs)=(h.new (ofAVs z)).news zs:=rfl
theorem zH1 (recs:List RecP):Zh [] recs h=True:=by
 apply propext;refine⟨fun _=>trivial,fun _=>?_⟩
 induction recs with
 | nil=>trivial
 | cons r rs ih=>exact⟨by simp,ih⟩
theorem zGc (c:List Nat):Zh c [] h=True:=rfl
theorem zGd (c:List Nat) (i:Nat) (a:Bool) (n:Nat) (x v:PV) (rs:List RecP):Zh c (⟨i,a,n,x,v⟩::rs) h=((if c.contains i=true then pldv a n x h=some v else True)∧Zh c rs h):=rfl
theorem zFq (d:Option Nat) (a:Bool) (n:Nat) (x:IX) (g:Option (Nat×Bool)) (i:Nat) (c:List Nat) (v:PV):zZ ⟨⟨d,.load a n x,true,g⟩,i,c⟩ e v=if Qr g e=true then [⟨i,a,n,x.pv e,v⟩]else []:=rfl
theorem zIG (d:Option Nat) (x:IX) (g:Option (Nat×Bool)) (i:Nat) (c:List Nat) (v:PV):zZ ⟨⟨d,(.mv x),true,g⟩,i,c⟩ e v=[]:=rfl
theorem zFp (d:Option Nat) (x y z:IX) (g:Option (Nat×Bool)) (i:Nat) (c:List Nat) (v:PV):zZ ⟨⟨d,(.pick x y z),true,g⟩,i,c⟩ e v=[]:=rfl
theorem zG7 (d:Option Nat) (op:BinOp) (ek:EqK) (x y:IX) (g:Option (Nat×Bool)) (i:Nat) (c:List Nat) (v:PV):zZ ⟨⟨d,(.bin op ek x y),true,g⟩,i,c⟩ e v=[]:=rfl
theorem zIF (d:Option Nat) (op:UnOp) (x:IX) (g:Option (Nat×Bool)) (i:Nat) (c:List Nat) (v:PV):zZ ⟨⟨d,(.un op x),true,g⟩,i,c⟩ e v=[]:=rfl
theorem zFr (d:Option Nat) (k:IntKind) (x:IX) (g:Option (Nat×Bool)) (i:Nat) (c:List Nat) (v:PV):zZ ⟨⟨d,(.conv k x),true,g⟩,i,c⟩ e v=[]:=rfl
theorem zDD (d:Option Nat) (x:IX) (g:Option (Nat×Bool)) (i:Nat) (c:List Nat) (v:PV):zZ ⟨⟨d,(.nilCheck x),true,g⟩,i,c⟩ e v=[]:=rfl
theorem zEm (d:Option Nat) (z:List AV) (ps:List (Nat×Nat×IX)) (g:Option (Nat×Bool)) (i:Nat) (c:List Nat) (v:PV):zZ ⟨⟨d,(.build z ps),true,g⟩,i,c⟩ e v=[]:=rfl
theorem zEl (d:Option Nat) (a:Bool) (n off:Nat) (x:IX) (g:Option (Nat×Bool)) (i:Nat) (c:List Nat) (v:PV):zZ ⟨⟨d,(.field a n off x),true,g⟩,i,c⟩ e v=[]:=rfl
theorem zCh (d:Option Nat) (off:Nat) (x:IX) (g:Option (Nat×Bool)) (i:Nat) (c:List Nat) (v:PV):zZ ⟨⟨d,(.fieldAddr off x),true,g⟩,i,c⟩ e v=[]:=rfl
theorem zCg (d:Option Nat) (sz:Nat) (x y:IX) (g:Option (Nat×Bool)) (i:Nat) (c:List Nat) (v:PV):zZ ⟨⟨d,(.indexAddr sz x y),true,g⟩,i,c⟩ e v=[]:=rfl
theorem zDF (d:Option Nat) (x y:IX) (g:Option (Nat×Bool)) (i:Nat) (c:List Nat) (v:PV):zZ ⟨⟨d,(.indexStr x y),true,g⟩,i,c⟩ e v=[]:=rfl
theorem zDk (d:Option Nat) (x:IX) (j:Nat) (g:Option (Nat×Bool)) (i:Nat) (c:List Nat) (v:PV):zZ ⟨⟨d,(.extract x j),true,g⟩,i,c⟩ e v=[]:=rfl
theorem zG5 (d:Option Nat) (x:IX) (g:Option (Nat×Bool)) (i:Nat) (c:List Nat) (v:PV):zZ ⟨⟨d,(.len x),true,g⟩,i,c⟩ e v=[]:=rfl
theorem zEL (d:Option Nat) (x:IX) (g:Option (Nat×Bool)) (i:Nat) (c:List Nat) (v:PV):zZ ⟨⟨d,(.lenStr x),true,g⟩,i,c⟩ e v=[]:=rfl
theorem zG6 (d:Option Nat) (x:IX) (g:Option (Nat×Bool)) (i:Nat) (c:List Nat) (v:PV):zZ ⟨⟨d,(.cap x),true,g⟩,i,c⟩ e v=[]:=rfl
theorem zEk (d:Option Nat) (sz:Nat) (x:IX) (lo hi mx:Option IX) (g:Option (Nat×Bool)) (i:Nat) (c:List Nat) (v:PV):zZ ⟨⟨d,(.slice sz x lo hi mx),true,g⟩,i,c⟩ e v=[]:=rfl
theorem zDC (d:Option Nat) (x:IX) (lo hi:Option IX) (g:Option (Nat×Bool)) (i:Nat) (c:List Nat) (v:PV):zZ ⟨⟨d,(.sliceStr x lo hi),true,g⟩,i,c⟩ e v=[]:=rfl
theorem zEK (d:Option Nat) (mx:Bool) (x y:IX) (g:Option (Nat×Bool)) (i:Nat) (c:List Nat) (v:PV):zZ ⟨⟨d,(.maxmin mx x y),true,g⟩,i,c⟩ e v=[]:=rfl
theorem zDE (d:Option Nat) (f:FuncId) (y z:List IX) (g:Option (Nat×Bool)) (i:Nat) (c:List Nat) (v:PV):zZ ⟨⟨d,(.makeFunc f y z),true,g⟩,i,c⟩ e v=[]:=rfl
theorem zG4 (d:Option Nat) (j:Nat) (g:Option (Nat×Bool)) (i:Nat) (c:List Nat) (v:PV):zZ ⟨⟨d,(.rev j),true,g⟩,i,c⟩ e v=[]:=rfl
theorem zFo (d:Option Nat) (j m:Nat) (g:Option (Nat×Bool)) (i:Nat) (c:List Nat) (v:PV):zZ ⟨⟨d,(.revS j m),true,g⟩,i,c⟩ e v=[]:=rfl
theorem zEg:Qr none e=true:=rfl
theorem zEf (t:Nat) (b:Bool):Qr (some (t,b)) e=(match e t with | .bool c=>decide (c=b) | _=>false):=rfl
theorem zG2:ql [] e h=some []:=rfl
theorem zG1 (t:Nat) (r:List IRes):ql (.tmp t::r) e h=(ql r e h).map fun vs=>e t::vs:=rfl
theorem zFm (t:Nat) (a:Bool) (n:Nat) (r:List IRes):ql (.cell t a n::r) e h=(pldv a n (e t) h).bind fun v=>(ql r e h).map fun vs=>v::vs:=rfl
theorem zFn (res:List IRes):retP res KA .normal e h=optK (ql res e h) fun vs=>KA (packP vs) h:=rfl
theorem zJj (res:List IRes):retP res KA .ret e h=optK (ql res e h) fun vs=>KA (packP vs) h:=rfl
theorem zIj (v:PV):packP [v]=v:=rfl
theorem zIk:packP []=.tup []:=rfl
theorem zIi (u v:PV) (r:List PV):packP (u::v::r)=.tup (u::v::r):=rfl
theorem zIa (cs:List PV):pfill cs []=some cs:=rfl
theorem zHC (cs:List PV) (off size:Nat) (v:PV) (r:List (Nat×Nat×PV)):pfill cs ((off,size,v)::r)=if v.cells.length=size∧off+size≤cs.length∧v.cells.all PV.one=true then pfill (cs.take off++v.cells++cs.drop (off+size)) r else none:=rfl
theorem zHG (k:IntKind) (n:Int):PV.cells (.int k n)=[(.int k n)]:=rfl
theorem zJv (k:IntKind) (n:Int):PV.one (.int k n)=true:=rfl
theorem zF3 (b:Bool):PV.cells (.bool b)=[(.bool b)]:=rfl
theorem zIS (b:Bool):PV.one (.bool b)=true:=rfl
theorem zHE (s:List UInt8):PV.cells (.str s)=[(.str s)]:=rfl
theorem zJt (s:List UInt8):PV.one (.str s)=true:=rfl
theorem zF1:PV.cells .nilp=[.nilp]:=rfl
theorem zIQ:PV.one .nilp=true:=rfl
theorem zF2:PV.cells .nilf=[.nilf]:=rfl
theorem zIR:PV.one .nilf=true:=rfl
theorem zIc (w:Bool) (a:AV) (n:Nat) (cs:List PV):PV.cells (.fz w a n cs)=[(.fz w a n cs)]:=rfl
theorem zKy (w:Bool) (a:AV) (n:Nat) (cs:List PV):PV.one (.fz w a n cs)=true:=rfl
theorem zId (a:AV) (cs:List PV):PV.cells (.fp a cs)=[(.fp a cs)]:=rfl
theorem zKz (a:AV) (cs:List PV):PV.one (.fp a cs)=true:=rfl
theorem zHF (s i:Nat):PV.cells (.ptr s i)=[(.ptr s i)]:=rfl
theorem zJu (s i:Nat):PV.one (.ptr s i)=true:=rfl
theorem zIb (s o n:Nat) (c:Cap):PV.cells (.sl s o n c)=[(.sl s o n c)]:=rfl
theorem zKx (s o n:Nat) (c:Cap):PV.one (.sl s o n c)=true:=rfl
theorem zHH (f:FuncId) (a b:List PV):PV.cells (.clo f a b)=[(.clo f a b)]:=rfl
theorem zJw (f:FuncId) (a b:List PV):PV.one (.clo f a b)=true:=rfl
theorem zHI (cs:List PV):PV.cells (.agg cs)=cs:=rfl
theorem zA7 (k:IntKind) (i:Int) (y:Nat):Zp (.int k i) y=if 0≤i∧i≤y then some i.toNat else none:=rfl
theorem Q0 (x:PV) (d y:Nat):zX (some x) d y=Zp x y:=rfl
theorem Q3 (d y:Nat):zX none d y=some d:=rfl
theorem zIL (sz:Nat) (w:Bool) (a:AV) (len:Nat) (cs:List PV) (lo hi:Option PV):Zo sz (.fz w a len cs) lo hi none=(zX hi len len).bind fun h=>(zX lo 0 h).bind fun l=>some (.fz false (pslA sz a l h) (h-l) ((cs.drop (l*sz)).take ((h-l)*sz))):=rfl
theorem zBb (sz s off len c:Nat) (lo hi mx:Option PV):Zo sz (.sl s off len (.known c)) lo hi mx=(zX mx c c).bind fun m=>(zX hi len m).bind fun h=>(zX lo 0 h).bind fun l=>if hi.isNone=true∧mx.isSome=true then none else some (.sl s (if m=l then off else off+l*sz) (h-l) (.known (m-l))):=rfl
theorem zBc (sz s off len g:Nat) (lo hi:Option PV):Zo sz (.sl s off len (.grown g)) lo hi none=(zX hi len len).bind fun h=>(zX lo 0 h).bind fun l=>some (.sl s (off+l*sz) (h-l) (.grown (if g=sz then g else 0))):=rfl
theorem zEM (s:List UInt8) (lo hi:Option PV):zAI (.str s) lo hi=(zX hi s.length s.length).bind fun h=>(zX lo 0 h).bind fun l=>some (.str ((s.take h).drop l)):=rfl
theorem zDn (w:Bool) (a:AV) (n:Nat) (cs:List PV):plen (.fz w a n cs)=some n:=rfl
theorem zB9 (s o n:Nat) (c:Cap):plen (.sl s o n c)=some n:=rfl
theorem qd (sz bytes:Nat) (s x:PV):zY sz bytes h s x=(plen x).bind fun m=>if m=0 then(psame s).map fun v=>(v,h)else(qW sz h x m).bind fun news=>pgrow sz bytes h s news m:=rfl
theorem zCP (s o n c:Nat):psame (.sl s o n (.known c))=if n≤c then some (.sl s o n (.known c))else none:=rfl
theorem zBd (sz:Nat) (w:Bool) (a:AV) (len:Nat) (cs:List PV) (n:Nat):qW sz h (.fz w a len cs) n=if n=0 then some []else if n≤len∧n*sz≤cs.length∧0<sz then some (cs.take (n*sz))else none:=rfl
theorem qC (sz s off len:Nat) (c:Cap) (n:Nat):qW sz h (.sl s off len c) n=if n=0 then some []else if n≤len then h.rd s off (n*sz)else none:=rfl
theorem Qk (sz bytes:Nat) (w:Bool) (n:Nat) (cs news:List PV) (m:Nat):pgrow sz bytes h (.fz w .nils n cs) news m=if m*bytes≤140737488355328∧m≤4611686018427387904 then some (.sl h.next 0 m (.grown sz),h.new news)else none:=rfl
theorem QO (sz bytes s off len c:Nat) (news:List PV) (m:Nat):pgrow sz bytes h (.sl s off len (.known c)) news m=if len+m≤c then(h.wr s (off+len*sz) news).map fun σ'=>(.sl s off (len+m) (.known c),σ')else if (len+m)*bytes≤140737488355328∧len+m≤4611686018427387904 then(h.rd s off (len*sz)).map fun old=>(.sl h.next 0 (len+m) (.grown sz),h.new (old++news))else none:=rfl
theorem QP (sz bytes s off len g:Nat) (news:List PV) (m:Nat):pgrow sz bytes h (.sl s off len (.grown g)) news m=if (len+m)*bytes≤140737488355328∧len+m≤4611686018427387904∧g=sz then(h.obj s).bind fun cs=>if off+len*sz≤cs.length then some (.sl h.next 0 (len+m) (.grown sz),(h.kill s).new ((cs.drop off).take (len*sz)++news))else none else none:=rfl
theorem zEw (cs:List PV) (s i:Nat):(h.new cs).rd1 s i=if s=h.next then cs[i]? else h.rd1 s i:=by by_cases x:s=h.next<;>simp [PHeap.rd1,PHeap.new,x]
theorem Zj (cs:List PV) (s i n:Nat):(h.new cs).rd s i n=if s=h.next then(if i+n≤cs.length then some ((cs.drop i).take n)else none)else h.rd s i n:=by by_cases x:s=h.next<;>simp [PHeap.rd,PHeap.new,x]
theorem zG (cs:List PV) (s:Nat):(h.new cs).obj s=if s=h.next then some cs else h.obj s:=rfl
theorem zKs (cs:List PV) (s i:Nat) (vs:List PV):(h.new cs).wr s i vs=if s=h.next then(if i+vs.length≤cs.length∧vs.all PV.one=true then some (h.new (cs.take i++vs++cs.drop (i+vs.length)))else none)else(h.wr s i vs).map fun h'=>h'.new cs:=by
 by_cases x:s=h.next
 ·subst x
  simp only [PHeap.wr,PHeap.new,if_true,Option.bind_some]
  split
  ·congr 1
   simp only [PHeap.set]
   congr 1
   funext y
   by_cases hy:y=h.next<;>simp [hy]
  ·rfl
 ·simp only [PHeap.wr,PHeap.new,if_neg x]
  cases ho:h.obj s with
  | none=>rfl
  | some ob=>
   simp only [Option.bind_some]
   split
   ·simp only [Option.map_some,PHeap.set]
    congr 2
    funext y
    by_cases hy:y=s
    ·subst hy;simp [x]
    ·simp [hy]
   ·rfl
theorem zIV (cs:List PV):(h.new cs).next=h.next+1:=rfl
theorem zJo (cs:List PV):(h.new cs).top=h.top:=rfl
theorem zJp (cs:List PV) (s:Nat) (ds:List PV):(h.new cs).set s ds=if s=h.next then h.new ds else(h.set s ds).new cs:=by
 by_cases x:s=h.next
 ·subst x
  rw [if_pos rfl];simp only [PHeap.set,PHeap.new]
  congr 1
  funext y
  by_cases hy:y=h.next<;>simp [hy]
 ·rw [if_neg x]
  simp only [PHeap.set,PHeap.new]
  congr 1
  funext y
  by_cases hy:y=s
  ·subst hy;simp [x]
  ·simp [hy]
theorem QH (s:Nat) (cs ds:List PV):(h.set s cs).set s ds=h.set s ds:=by
 simp only [PHeap.set]
 congr 1
 funext y
 by_cases hy:y=s<;>simp [hy]
theorem zIU (s:Nat) (cs:List PV):(h.set s cs).next=h.next:=rfl
theorem zHA (s:Nat):(h.kill s).next=h.next:=rfl
theorem zJx (t:Nat):(h.up t).next=h.next:=rfl
theorem zKv (t:Nat):(h.up t).top=t:=rfl
theorem zK1 (t:Nat) (cs:List PV):(h.up t).new cs=(h.new cs).up t:=rfl
theorem zKw (t s i:Nat):(h.up t).rd1 s i=h.rd1 s i:=rfl
theorem zLg (t s i n:Nat):(h.up t).rd s i n=h.rd s i n:=rfl
theorem zK0 (t s:Nat):(h.up t).obj s=h.obj s:=rfl
theorem zLe (t s i:Nat) (vs:List PV):(h.up t).wr s i vs=(h.wr s i vs).map fun h'=>h'.up t:=by
 simp only [PHeap.wr,PHeap.up];cases h.obj s with
 | none=>rfl
 | some cs=>simp only [Option.bind_some];split<;>rfl
theorem zIT (s t:Nat):(h.kill s).obj t=if t=s then none else h.obj t:=rfl
theorem zI (s:Nat) (cs:List PV) (t:Nat):(h.set s cs).obj t=if t=s then some cs else h.obj t:=rfl
theorem zIN (s t i:Nat):(h.kill s).rd1 t i=if t=s then none else h.rd1 t i:=by by_cases x:t=s<;>simp [PHeap.rd1,PHeap.kill,x]
theorem zJq (s t i n:Nat):(h.kill s).rd t i n=if t=s then none else h.rd t i n:=by by_cases x:t=s<;>simp [PHeap.rd,PHeap.kill,x]
theorem zJr (s:Nat) (cs:List PV) (t i:Nat):(h.set s cs).rd1 t i=if t=s then cs[i]? else h.rd1 t i:=by by_cases x:t=s<;>simp [PHeap.rd1,PHeap.set,x]
theorem qJ (s:Nat) (cs:List PV) (t i n:Nat):(h.set s cs).rd t i n=if t=s then(if i+n≤cs.length then some ((cs.drop i).take n)else none)else h.rd t i n:=by by_cases x:t=s<;>simp [PHeap.rd,PHeap.set,x]
theorem zKr (s:Nat) (cs:List PV) (i:Nat) (vs:List PV):(h.set s cs).wr s i vs=if i+vs.length≤cs.length∧vs.all PV.one=true then some (h.set s (cs.take i++vs++cs.drop (i+vs.length)))else none:=by
 simp only [PHeap.wr,PHeap.set,if_true,Option.bind_some]
 split
 ·congr 2
  funext y
  by_cases hy:y=s<;>simp [hy]
 ·rfl
end
def pw0:=And.intro @zKf <| And.intro @zH6 <| And.intro @zKh <| And.intro @zLT <| And.intro @zKi <| And.intro @zJe <| And.intro @zKg <| And.intro @zLU <| And.intro @zLN <| And.intro @RVp_q <| And.intro @RVp_e <| And.intro @zLP <| And.intro @DVp_q <| And.intro @DVp_e <| And.intro @zKQ <| And.intro @zKP <| And.intro @zKS <| And.intro @zKR <| And.intro @zFz <| And.intro @zE3 <| And.intro @zHD <| And.intro @zF0 <| And.intro @zE2 <| And.intro @zE0 <| And.intro @zEz <| And.intro @zE1 <| And.intro @pv_t <| And.intro @pv_c <| And.intro @zJy <| @zIO
def pw1:=And.intro @zIP <| And.intro @qp_mv <| And.intro @zKo <| And.intro @zLd <| And.intro @qp_un <| And.intro @zKq <| And.intro @zFt <| And.intro @zJn <| And.intro @zJm <| And.intro @zEr <| And.intro @zEq <| And.intro @zFv <| And.intro @zG8 <| And.intro @zLb <| And.intro @zIJ <| And.intro @zLc <| And.intro @zJl <| And.intro @zFs <| And.intro @zII <| And.intro @zFu <| And.intro @zKp <| And.intro @zLa <| And.intro @zKn <| And.intro @zKZ <| And.intro @zL0 <| And.intro @zHr <| And.intro @zKX <| And.intro @zHO <| And.intro @zJM <| And.intro @zGZ <| @zGF
def pw2:=And.intro @zIl <| And.intro @zJO <| And.intro @zLK <| And.intro @zLL <| And.intro @zKY <| And.intro @zHT <| And.intro @zKK <| And.intro @of_bool <| And.intro @of_int <| And.intro @zLl <| And.intro @zLA <| And.intro @zLB <| And.intro @zK9 <| And.intro @zLm <| And.intro @zLn <| And.intro @zK8 <| And.intro @zKJ <| And.intro @zGm <| And.intro @zKE <| And.intro @zJ4 <| And.intro @zJ8 <| And.intro @zKD <| And.intro @zJ7 <| And.intro @zJ9 <| And.intro @zKA <| And.intro @zKB <| And.intro @zKC <| And.intro @zJ6 <| And.intro @zJ5 <| @zHM
def pw3:=And.intro @zIh <| And.intro @zHN <| And.intro @zIg <| And.intro @zIf <| And.intro @zHL <| And.intro @zF8 <| And.intro @zHK <| And.intro @zF7 <| And.intro @zF6 <| And.intro @zF5 <| And.intro @zF4 <| And.intro @zGV <| And.intro @zJE <| And.intro @zKu <| And.intro @zKt <| And.intro @zHP <| And.intro @zGB <| And.intro @zIo <| And.intro @zKF <| And.intro @zKG <| And.intro @zK4 <| And.intro @zHS <| And.intro @zHR <| And.intro @zDo <| And.intro @zEP <| And.intro @zIm <| And.intro @zIn <| And.intro @zGE <| And.intro @zE5 <| @zK6
def pw4:=And.intro @zK5 <| And.intro @zGD <| And.intro @zIp <| And.intro @zK7 <| And.intro @zGC <| And.intro @zIY <| And.intro @zIX <| And.intro @zJ0 <| And.intro @zJz <| And.intro @zIW <| And.intro @zHB <| And.intro @zH1 <| And.intro @zGc <| And.intro @zGd <| And.intro @zFq <| And.intro @zIG <| And.intro @zFp <| And.intro @zG7 <| And.intro @zIF <| And.intro @zFr <| And.intro @zDD <| And.intro @zEm <| And.intro @zEl <| And.intro @zCh <| And.intro @zCg <| And.intro @zDF <| And.intro @zDk <| And.intro @zG5 <| And.intro @zEL <| @zG6
def pw5:=And.intro @zEk <| And.intro @zDC <| And.intro @zEK <| And.intro @zDE <| And.intro @zG4 <| And.intro @zFo <| And.intro @zEg <| And.intro @zEf <| And.intro @zG2 <| And.intro @zG1 <| And.intro @zFm <| And.intro @zFn <| And.intro @zJj <| And.intro @zIj <| And.intro @zIk <| And.intro @zIi <| And.intro @zIa <| And.intro @zHC <| And.intro @zHG <| And.intro @zJv <| And.intro @zF3 <| And.intro @zIS <| And.intro @zHE <| And.intro @zJt <| And.intro @zF1 <| And.intro @zIQ <| And.intro @zF2 <| And.intro @zIR <| And.intro @zIc <| And.intro @zKy <| @zId
def pw6:=And.intro @zKz <| And.intro @zHF <| And.intro @zJu <| And.intro @zIb <| And.intro @zKx <| And.intro @zHH <| And.intro @zJw <| And.intro @zHI <| And.intro @zA7 <| And.intro @Q0 <| And.intro @Q3 <| And.intro @zIL <| And.intro @zBb <| And.intro @zBc <| And.intro @zEM <| And.intro @zDn <| And.intro @zB9 <| And.intro @zEw <| And.intro @Zj <| And.intro @zG <| And.intro @zKs <| And.intro @zIV <| And.intro @zJo <| And.intro @zJp <| And.intro @QH <| And.intro @zIU <| And.intro @zHA <| And.intro @zJx <| And.intro @zKv <| @zK1
def pw7:=And.intro @zKw <| And.intro @zLg <| And.intro @zK0 <| And.intro @zLe <| And.intro @zIT <| And.intro @zI <| And.intro @zIN <| And.intro @zJq <| And.intro @zJr <| And.intro @qJ <| And.intro @zKr <| And.intro @zAK <| And.intro @QT <| And.intro @zIr <| And.intro @zKI <| And.intro @List.map_cons.{0,0} <| And.intro @List.map_nil.{0,0} <| And.intro @List.length_cons.{0} <| And.intro @List.length_nil.{0} <| And.intro @List.getElem?_cons_zero.{0} <| And.intro @List.getElem?_cons_succ.{0} <| And.intro @List.take_succ_cons.{0} <| And.intro @List.take_zero.{0} <| And.intro @List.drop_succ_cons.{0} <| And.intro @List.drop_zero.{0} <| And.intro @List.take_nil.{0} <| And.intro @List.drop_nil.{0} <| And.intro @List.nil_append.{0} <| And.intro @List.cons_append.{0} <| @List.append_nil.{0}
def pw8:=And.intro @List.all_cons.{0} <| And.intro @List.all_nil.{0} <| And.intro @List.contains_cons.{0} <| And.intro @List.contains_nil.{0} <| And.intro @Option.map_some.{0,0} <| And.intro @Option.map_none.{0,0} <| And.intro @Option.bind_some.{0,0} <| And.intro @Option.bind_none.{0,0} <| And.intro @decide_true <| And.intro @decide_false <| And.intro @Bool.not_true <| And.intro @Bool.not_false <| And.intro @Bool.and_true <| And.intro @Bool.true_and <| And.intro @Bool.and_self <| And.intro @Bool.or_false <| And.intro @Bool.or_true <| And.intro @Bool.true_or <| And.intro @Bool.false_or <| And.intro @true_and <| And.intro @and_true <| And.intro @Bool.true_eq_false <| And.intro @Bool.false_eq_true <| And.intro @Nat.left_eq_add <| And.intro @Nat.add_eq_left <| And.intro @Nat.succ_ne_self <| And.intro @Nat.one_ne_zero <| And.intro @Nat.add_left_cancel_iff <| And.intro @Nat.add_assoc <| @Nat.mul_one
def pw9:=And.intro @Nat.zero_add <| And.intro @Nat.add_zero <| And.intro @Nat.le_refl <| And.intro @Nat.lt_add_one <| And.intro @Int.toNat_natCast <| And.intro @Int.natCast_nonneg <| And.intro @Int.ofNat_lt <| And.intro @Int.le_refl <| And.intro @zGu <| And.intro @zGv <| And.intro @zBT <| And.intro @Nat.one_mul <| @Nat.zero_mul
def pwA:=And.intro pw0 <| And.intro pw1 <| And.intro pw2 <| And.intro pw3 <| And.intro pw4 <| And.intro pw5 <| And.intro pw6 <| And.intro pw7 <| And.intro pw8 <| And.intro pw9 <| And.intro @nm_eq <| And.intro @eq_self.{1} <| And.intro @Int.ofNat_le @List.getElem?_drop.{0}
end Go.Ab
