/- THE RULES BY WHICH CODE IS WALKED over values without a heap: equations, and the one name 'pw' for all of them. Written by a program. -/
import Derived.Test.YtfoidnlodahfjaaGreatBAbPg
import Derived.Test.YtfoidnlodahfjaaGreatBAbAid
set_option linter.unusedVariables false
set_option linter.unusedSimpArgs false
set_option linter.defProp false
namespace Go.Ab
section
variable {P:Program} {Q:Exit→PEnv→PHeap→Prop} {e:PEnv} {h:PHeap} {K:PEnv→PHeap→Prop} {KA:PV→PHeap→Prop} {nb nr:Nat}
theorem zLN:vp P .skip Q e h=Q .normal e h:=rfl
theorem zIc (S:List Nat) (its:List II):vp P (.region S its) Q e h=RVp P its e h fun e' h'=>Q .normal (PEnv.mk S (S.map e')) h':=rfl
theorem qx (S:List Nat) (t:OT):vp P (.tree S t) Q e h=TVp P t [] e h fun e' h'=>Q .normal (PEnv.mk S (S.map e')) h':=rfl
theorem zt (recs:List RecP):TVp P .done recs e h K=K e h:=rfl
theorem zq (recs:List RecP):TVp P .none recs e h K=True:=rfl
theorem TVp_q (d:Option Nat) (op:IOp) (g:Option (Nat×Bool)) (q:Bool) (i:Nat) (c:List Nat) (nx:OT) (recs:List RecP):TVp P (.q ⟨⟨d,op,q,g⟩,i,c⟩ nx) recs e h K=optK (gqp 0 0 ⟨d,op,q,g⟩ e h) fun v=>TVp P nx (zK ⟨⟨d,op,q,g⟩,i,c⟩ e v++recs) (e.put d v) h K:=rfl
theorem TVp_e (d:Option Nat) (op:IOp) (g:Option (Nat×Bool)) (q:Bool) (i:Nat) (c:List Nat) (nx alt:OT) (recs:List RecP):TVp P (.e ⟨⟨d,op,q,g⟩,i,c⟩ nx alt) recs e h K=((gep P ⟨d,op,q,g⟩ e h fun v h'=>zN c recs h'∧TVp P nx recs (e.put d v) h' K)∧TVp P alt recs e h K):=rfl
theorem zLP (S:List Nat) (zs:List (List AV)) (its:List DI):vp P (.draw S zs its) Q e h=DVp P h.next zs.length its [] e (h.news zs) fun e' h'=>Q .normal (PEnv.mk S (S.map e')) h':=rfl
theorem zMK (a b:IC):vp P (.seq a b) Q e h=vp P a (fun x e' h'=>match x with | .normal=>vp P b Q e' h' | x=>Q x e' h') e h:=rfl
theorem zLQ (c:IX) (a b:IC):vp P (.cond c a b) Q e h=ZU (c.pv e) (vp P a Q e h) (vp P b Q e h):=rfl
theorem zJ7 (id:Nat) (c:IC):vp P (.block id c) Q e h=vp P c (fun x e' h'=>match x with | .exit id'=>if id'=id then Q .normal e' h' else Q (.exit id') e' h' | x=>Q x e' h') e h:=rfl
theorem zLO (id:Nat):vp P (.exit id) Q e h=Q (.exit id) e h:=rfl
theorem zML:vp P .ret Q e h=Q .ret e h:=rfl
theorem zMC:RVp P [] e h K=K e h:=rfl
theorem RVp_q (d:Option Nat) (op:IOp) (g:Option (Nat×Bool)) (r:List II):RVp P (⟨d,op,true,g⟩::r) e h K=optK (gqp 0 0 ⟨d,op,true,g⟩ e h) fun v=>RVp P r (e.put d v) h K:=rfl
theorem RVp_e (d:Option Nat) (op:IOp) (g:Option (Nat×Bool)) (r:List II):RVp P (⟨d,op,false,g⟩::r) e h K=gep P ⟨d,op,false,g⟩ e h fun v h'=>RVp P r (e.put d v) h' K:=rfl
theorem zMG (recs:List RecP):DVp P nb nr [] recs e h K=K e h:=rfl
theorem DVp_q (d:Option Nat) (op:IOp) (g:Option (Nat×Bool)) (i:Nat) (c:List Nat) (r:List DI) (recs:List RecP):DVp P nb nr (⟨⟨d,op,true,g⟩,i,c⟩::r) recs e h K=optK (gqp nb nr ⟨d,op,true,g⟩ e h) fun v=>DVp P nb nr r (zK ⟨⟨d,op,true,g⟩,i,c⟩ e v++recs) (e.put d v) h K:=rfl
theorem DVp_e (d:Option Nat) (op:IOp) (g:Option (Nat×Bool)) (i:Nat) (c:List Nat) (r:List DI) (recs:List RecP):DVp P nb nr (⟨⟨d,op,false,g⟩,i,c⟩::r) recs e h K=gep P ⟨d,op,false,g⟩ e h fun v h'=>zN c recs h'∧DVp P nb nr r recs (e.put d v) h' K:=rfl
theorem zKy (d:Option Nat) (op:IOp) (q:Bool):gqp nb nr ⟨d,op,q,none⟩ e h=qp nb nr op e h:=rfl
theorem zKx (d:Option Nat) (op:IOp) (q:Bool) (t:Nat) (b:Bool):gqp nb nr ⟨d,op,q,some (t,b)⟩ e h=QA (e t) b (qp nb nr op e h):=rfl
theorem zK0 (d:Option Nat) (op:IOp) (q:Bool):gep P ⟨d,op,q,none⟩ e h KA=ep P op e h KA:=rfl
theorem zKz (d:Option Nat) (op:IOp) (q:Bool) (t:Nat) (b:Bool):gep P ⟨d,op,q,some (t,b)⟩ e h KA=ZG (e t) b (ep P op e h KA) (KA (.tup []) h):=rfl
theorem zGS (a b:Prop):ZU (.bool true) a b=a:=rfl
theorem zFT (a b:Prop):ZU (.bool false) a b=b:=rfl
theorem zHm (c:Prop) [Decidable c] (a b:Prop):ZU (.bool (decide c)) a b=if c then a else b:=by by_cases x:c<;>simp [ZU,x]
theorem zGT (c:Prop) [Decidable c] (a b:Prop):ZU (.bool (!decide c)) a b=if c then b else a:=by by_cases x:c<;>simp [ZU,x]
theorem zFR (c b:Bool) (x y:Prop):ZG (.bool c) b x y=if c=b then x else y:=rfl
theorem zFP (c b:Bool) (x:Option PV):QA (.bool c) b x=if c=b then x else some (.tup []):=rfl
theorem zFO (b:Bool) (x:Option PV):QA (.tup []) b x=some (.tup []):=rfl
theorem zFQ (b:Bool) (x y:Prop):ZG (.tup []) b x y=y:=rfl
theorem pv_t (n:Nat):(IX.t n).pv e=e n:=rfl
theorem pv_c (v:AV):(IX.c v).pv e=ofAV v:=rfl
theorem zKY (s:Nat) (S:List Nat) (v:PV) (vs:List PV) (t:Nat):PEnv.mk (s::S) (v::vs) t=if t=s then v else PEnv.mk S vs t:=rfl
theorem zIu (d:Nat) (v:PV) (t:Nat):e.put (some d) v t=if t=d then v else e t:=rfl
theorem zIv (v:PV):e.put none v=e:=rfl
theorem qp_mv (x:IX):qp nb nr (.mv x) e h=some (x.pv e):=rfl
theorem zLZ (c a b:IX):qp nb nr (.pick c a b) e h=pPick (c.pv e) (a.pv e) (b.pv e):=rfl
theorem zMT (op:BinOp) (ek:EqK) (x y:IX):qp nb nr (.bin op ek x y) e h=pbin op ek (x.pv e) (y.pv e):=rfl
theorem qp_un (op:UnOp) (x:IX):qp nb nr (.un op x) e h=pun op (x.pv e):=rfl
theorem zLb (k:IntKind) (x:IX):qp nb nr (.conv k x) e h=pConv k (x.pv e):=rfl
theorem zGM (x:IX):qp nb nr (.nilCheck x) e h=pNil (x.pv e):=rfl
theorem zKM (z:List AV) (ps:List (Nat×Nat×IX)):qp nb nr (.build z ps) e h=(pfill (ofAVs z) (ps.map fun p=>(p.1,p.2.1,p.2.2.pv e))).map .agg:=rfl
theorem zKL (a:Bool) (n off:Nat) (x:IX):qp nb nr (.field a n off x) e h=zBt a n off (x.pv e):=rfl
theorem zFJ (off:Nat) (x:IX):qp nb nr (.fieldAddr off x) e h=QG off (x.pv e):=rfl
theorem zFI (sz:Nat) (x i:IX):qp nb nr (.indexAddr sz x i) e h=zA2 sz (x.pv e) (i.pv e):=rfl
theorem zGO (x i:IX):qp nb nr (.indexStr x i) e h=zCM (x.pv e) (i.pv e):=rfl
theorem zHi (x:IX) (i:Nat):qp nb nr (.extract x i) e h=zBM (x.pv e) i:=rfl
theorem zMR (x:IX):qp nb nr (.len x) e h=pLen (x.pv e):=rfl
theorem zIp (x:IX):qp nb nr (.lenStr x) e h=zCL (x.pv e):=rfl
theorem zMS (x:IX):qp nb nr (.cap x) e h=pCap (x.pv e):=rfl
theorem zKK (sz:Nat) (x:IX) (lo hi mx:Option IX):qp nb nr (.slice sz x lo hi mx) e h=Qh sz (x.pv e) (lo.map (·.pv e)) (hi.map (·.pv e)) (mx.map (·.pv e)):=rfl
theorem zGL (x:IX) (lo hi:Option IX):qp nb nr (.sliceStr x lo hi) e h=zAZ (x.pv e) (lo.map (·.pv e)) (hi.map (·.pv e)):=rfl
theorem zIo (mx:Bool) (x y:IX):qp nb nr (.maxmin mx x y) e h=zA1 mx (x.pv e) (y.pv e):=rfl
theorem zGN (f:FuncId) (a b:List IX):qp nb nr (.makeFunc f a b) e h=some (.clo f (a.map (·.pv e)) (b.map (·.pv e))):=rfl
theorem zLa (a:Bool) (n:Nat) (x:IX):qp nb nr (.load a n x) e h=pldv a n (x.pv e) h:=rfl
theorem zMQ (k:Nat):qp nb nr (.rev k) e h=if k<nr then some (.ptr (nb+k) 0)else none:=rfl
theorem zLY (k n:Nat):qp nb nr (.revS k n) e h=if k<nr then some (.sl (nb+k) 0 n (.known n))else none:=rfl
theorem zK8 (z:List AV):ep P (.alloc z) e h KA=KA (.ptr h.next 0) (h.new (ofAVs z)):=rfl
theorem zMe (x:IX):ep P (.box x) e h KA=((x.pv e).cells.all PV.one=true∧KA (.ptr h.next 0) (h.new (x.pv e).cells)):=rfl
theorem zIL (sz len:Nat) (z:List AV) (ps:List (Nat×Nat×IX)):ep P (.buildSl sz len z ps) e h KA=optK (pfill (ofAVs (zeros z len)) (ps.map fun p=>(p.1,p.2.1,p.2.2.pv e))) fun cs=>KA (.sl h.next 0 len (.known len)) (h.new cs):=rfl
def zDW (n:Nat) (x v:PV) (h:PHeap) (KA:PV→PHeap→Prop):Prop:=
 match x with
 | .ptr s i=>v.cells.length=n∧optK (h.wr s i v.cells) fun h'=>KA .undef h'
 | _=>False
def pMake (sz bytes:Nat) (z:List AV) (l c:PV) (h:PHeap) (KA:PV→PHeap→Prop):Prop:=
 match l,c with
 | .int _ l,.int _ c=>(0≤l∧l≤c∧c*bytes≤140737488355328∧c≤9223372036854775807)∧KA (.sl h.next 0 l.toNat (.known c.toNat)) (h.new (ofAVs (zeros z c.toNat)))
 | _,_=>False
def zA3 (sz bytes:Nat) (z:List AV) (s n:PV) (h:PHeap) (KA:PV→PHeap→Prop):Prop:=
 match s,n with
 | .fz _ .nils _ _,.int _ n=>(0≤n∧n*bytes≤140737488355328∧n≤4611686018427387904)∧if 0<n then KA (.sl h.next 0 n.toNat (.grown sz)) (h.new (ofAVs (zeros z n.toNat)))else KA (.fz true .nils 0 []) h
 | .sl s off len c,.int _ n=>(0≤n∧n*bytes≤140737488355328∧n≤4611686018427387904)∧optK (if 0<n then pgrow sz bytes h (.sl s off len c) (ofAVs (zeros z n.toNat)) n.toNat else(psame (.sl s off len c)).map fun v=>(v,h)) fun p=>KA p.1 p.2
 | _,_=>False
def zDX (P:Program) (f:PV) (args:List PV) (h:PHeap) (KA:PV→PHeap→Prop):Prop:=
 match f with
 | .clo f first caps=>okF P f=true∧zA P f (first++args++caps) h KA
 | _=>False
theorem zK6 (n:Nat) (x v:IX):ep P (.store n x v) e h KA=zDW n (x.pv e) (v.pv e) h KA:=rfl
theorem zHx (n s i:Nat) (v:PV):zDW n (.ptr s i) v h KA=(v.cells.length=n∧optK (h.wr s i v.cells) fun h'=>KA .undef h'):=rfl
theorem zJl (sz bytes:Nat) (z:List AV) (l c:IX):ep P (.makeSl sz bytes z l c) e h KA=pMake sz bytes z (l.pv e) (c.pv e) h KA:=rfl
theorem zGt (sz bytes:Nat) (z:List AV) (s n:IX):ep P (.appendMk sz bytes z s n) e h KA=zA3 sz bytes z (s.pv e) (n.pv e) h KA:=rfl
theorem zGh (sz bytes:Nat) (z:List AV) (w:Bool) (l:Nat) (cs:List PV) (k:IntKind) (n:Int):zA3 sz bytes z (.fz w .nils l cs) (.int k n) h KA=((0≤n∧n*bytes≤140737488355328∧n≤4611686018427387904)∧if 0<n then KA (.sl h.next 0 n.toNat (.grown sz)) (h.new (ofAVs (zeros z n.toNat)))else KA (.fz true .nils 0 []) h):=rfl
theorem zJN (sz bytes:Nat) (z:List AV) (s off len:Nat) (c:Cap) (k:IntKind) (n:Int):zA3 sz bytes z (.sl s off len c) (.int k n) h KA=((0≤n∧n*bytes≤140737488355328∧n≤4611686018427387904)∧optK (if 0<n then pgrow sz bytes h (.sl s off len c) (ofAVs (zeros z n.toNat)) n.toNat else(psame (.sl s off len c)).map fun v=>(v,h)) fun p=>KA p.1 p.2):=rfl
theorem zJI (sz bytes:Nat) (z:List AV) (k k':IntKind) (l c:Int):pMake sz bytes z (.int k l) (.int k' c) h KA=((0≤l∧l≤c∧c*bytes≤140737488355328∧c≤9223372036854775807)∧KA (.sl h.next 0 l.toNat (.known c.toNat)) (h.new (ofAVs (zeros z c.toNat)))):=rfl
def pUpd (x k v:PV) (h:PHeap) (KA:PV→PHeap→Prop):Prop:=
 match x,k,v with
 | .mref s,.int kk i,.bool b=>(kk=.i64∧0≤i)∧optK (h.wr s i.toNat [.bool b]) fun h'=>KA .undef h'
 | _,_,_=>False
theorem Qd (x:IX):ep P (.strOf x) e h KA=optK (zAH h (x.pv e)) fun s=>KA (.str s) h:=rfl
theorem zJm (sz bytes:Nat) (s x:IX):ep P (.append sz bytes s x) e h KA=optK (zZ sz bytes h (s.pv e) (x.pv e)) fun p=>KA p.1 p.2:=rfl
theorem zL2 (sz:Nat) (d s:IX):ep P (.copy sz d s) e h KA=optK (pcopy sz h (d.pv e) (s.pv e)) fun p=>KA p.1 p.2:=rfl
theorem zL3 (f:FuncId) (args:List IX):ep P (.call f args) e h KA=zA P f (args.map (·.pv e)) h KA:=rfl
theorem zK7 (f:IX) (args:List IX):ep P (.callV f args) e h KA=zDX P (f.pv e) (args.map (·.pv e)) h KA:=rfl
theorem zH1 (f:FuncId) (a b args:List PV):zDX P (.clo f a b) args h KA=(okF P f=true∧zA P f (a++args++b) h KA):=rfl
theorem zKu:ofAV .undef=.undef:=rfl
theorem of_bool (b:Bool):ofAV (.bool b)=.bool b:=rfl
theorem of_int (k:IntKind) (n:Int):ofAV (.int k n)=.int k n:=rfl
theorem zMX (s:List UInt8):ofAV (.str s)=.str s:=rfl
theorem zLv:ofAV .nilp=.nilp:=rfl
theorem zLw:ofAV .nilf=.nilf:=rfl
theorem zLu:ofAV .nils=.fz true .nils 0 []:=rfl
theorem zMY (f:FuncId) (a b:List AV):ofAV (.clo f a b)=.clo f (ofAVs a) (ofAVs b):=rfl
theorem zMZ (a:List AV):ofAV (.agg a)=.agg (ofAVs a):=rfl
theorem zLt:ofAVs []=[]:=rfl
theorem zKt (c:AV) (cs:List AV):ofAVs (c::cs)=ofAV c::ofAVs cs:=rfl
theorem zG9 (n:Nat) (c:AV):ofAVs (List.replicate n c)=List.replicate n (ofAV c):=by rw [zEU,List.map_replicate]
theorem zKo (k:IntKind) (ek:EqK) (a b:Int):pbin .add ek (.int k a) (.int k b)=some (.int k (k.wrap (a+b))):=by simp [pbin,abin,aint,ofAV]
theorem zKe (k:IntKind) (ek:EqK) (a b:Int):pbin .sub ek (.int k a) (.int k b)=some (.int k (k.wrap (a-b))):=by simp [pbin,abin,aint,ofAV]
theorem zKi (k:IntKind) (ek:EqK) (a b:Int):pbin .mul ek (.int k a) (.int k b)=some (.int k (k.wrap (a*b))):=by simp [pbin,abin,aint,ofAV]
theorem zKn (k:IntKind) (ek:EqK) (a b:Int):pbin .eql ek (.int k a) (.int k b)=some (.bool (decide (a=b))):=by simp [pbin,abin,aint,ofAV]
theorem zKh (k:IntKind) (ek:EqK) (a b:Int):pbin .neq ek (.int k a) (.int k b)=some (.bool (!decide (a=b))):=by simp [pbin,abin,aint,ofAV]
theorem zKj (k:IntKind) (ek:EqK) (a b:Int):pbin .lss ek (.int k a) (.int k b)=some (.bool (decide (a<b))):=by simp [pbin,abin,aint,ofAV]
theorem zKk (k:IntKind) (ek:EqK) (a b:Int):pbin .leq ek (.int k a) (.int k b)=some (.bool (decide (a≤b))):=by simp [pbin,abin,aint,ofAV]
theorem zKl (k:IntKind) (ek:EqK) (a b:Int):pbin .gtr ek (.int k a) (.int k b)=some (.bool (decide (b<a))):=by simp [pbin,abin,aint,ofAV]
theorem zKm (k:IntKind) (ek:EqK) (a b:Int):pbin .geq ek (.int k a) (.int k b)=some (.bool (decide (b≤a))):=by simp [pbin,abin,aint,ofAV]
theorem zKg (k:IntKind) (ek:EqK) (a b:Int):pbin .quo ek (.int k a) (.int k b)=if b=0 then none else some (.int k (k.wrap (a.tdiv b))):=by simp only [pbin,abin,aint,if_true];split<;>rfl
theorem zKf (k:IntKind) (ek:EqK) (a b:Int):pbin .rem ek (.int k a) (.int k b)=if b=0 then none else some (.int k (a.tmod b)):=by simp only [pbin,abin,aint,if_true];split<;>rfl
theorem zHv (n:Nat) (xs ys:List PV):pbin .eql (.ints n) (.agg xs) (.agg ys)=if xs.length=n∧ys.length=n then(paggB xs ys).bind fun r=>some (.bool r)else none:=rfl
theorem zJE:paggB [] []=some true:=rfl
theorem zHw (k:IntKind) (a b:Int) (xs ys:List PV):paggB (.int k a::xs) (.int k b::ys)=(paggB xs ys).map fun r=>decide (a=b) && r:=by simp [paggB]
theorem zJD (a b:Bool):pbin .eql .bool (.bool a) (.bool b)=some (.bool (a == b)):=rfl
theorem zJC (a b:Bool):pbin .neq .bool (.bool a) (.bool b)=some (.bool !(a == b)):=rfl
theorem zHu (w w':Bool) (a:AV) (n n':Nat) (cs cs':List PV):pbin .eql .slice (.fz w a n cs) (.fz w' .nils n' cs')=some (.bool (qy a)):=rfl
theorem zGb (w w':Bool) (a:AV) (n n':Nat) (cs cs':List PV):pbin .neq .slice (.fz w a n cs) (.fz w' .nils n' cs')=some (.bool (!qy a)):=rfl
theorem zHt (s o n:Nat) (c:Cap) (w':Bool) (n':Nat) (cs':List PV):pbin .eql .slice (.sl s o n c) (.fz w' .nils n' cs')=some (.bool false):=rfl
theorem zGa (s o n:Nat) (c:Cap) (w':Bool) (n':Nat) (cs':List PV):pbin .neq .slice (.sl s o n c) (.fz w' .nils n' cs')=some (.bool true):=rfl
theorem zGZ (ek:EqK) (a b:List UInt8):pbin .add ek (.str a) (.str b)=if a.length+b.length≤9223372036854775807 then some (.str (a++b))else none:=by simp only [pbin,astr];split<;>rfl
theorem zGY (ek:EqK) (a b:List UInt8):pbin .eql ek (.str a) (.str b)=some (.bool (a == b)):=rfl
theorem zGX (ek:EqK) (a b:List UInt8):pbin .neq ek (.str a) (.str b)=some (.bool !(a == b)):=rfl
theorem zGr:qy .nils=true:=rfl
theorem zJd (o f n:Nat) (c:Cap):qy (.sl o f n c)=false:=rfl
theorem zLg (k:IntKind) (n:Int):pun .neg (.int k n)=some (.int k (k.wrap (0-n))):=rfl
theorem zLf (b:Bool):pun .not (.bool b)=some (.bool !b):=rfl
theorem zHy (a b:PV):pPick (.bool true) a b=some a:=rfl
theorem zGd (a b:PV):pPick (.bool false) a b=some b:=rfl
theorem zJL (k k':IntKind) (n:Int):pConv k (.int k' n)=some (.int k (k.wrap n)):=rfl
theorem zKp (s i:Nat):pNil (.ptr s i)=some (.ptr s i):=rfl
theorem zKq (f:FuncId) (a b:List PV):pNil (.clo f a b)=some (.clo f a b):=rfl
theorem zLp (a:AV) (c:PV) (cs:List PV):pNil (.fp a (c::cs))=some (.fp a (c::cs)):=rfl
theorem zH0 (n off:Nat) (cs:List PV):zBt true n off (.agg cs)=some (.agg ((cs.drop off).take n)):=rfl
theorem zHz (n off:Nat) (cs:List PV):zBt false n off (.agg cs)=cs[off]?:=rfl
theorem zEB (off s i:Nat):QG off (.ptr s i)=some (.ptr s (i+off)):=rfl
theorem zEp (off:Nat) (a:AV) (c:PV) (cs:List PV):QG off (.fp a (c::cs))=some (.fp (pAdd a off) ((c::cs).drop off)):=rfl
theorem zJJ (sz s off len:Nat) (c:Cap) (k:IntKind) (n:Int):zA2 sz (.sl s off len c) (.int k n)=if 0≤n∧n<len then some (.ptr s (off+n.toNat*sz))else none:=rfl
theorem zJK (sz:Nat) (w:Bool) (a:AV) (len:Nat) (cs:List PV) (k:IntKind) (n:Int):zA2 sz (.fz w a len cs) (.int k n)=if 0≤n∧n<len then some (.fp (pAt a (n.toNat*sz)) (cs.drop (n.toNat*sz)))else none:=rfl
theorem zGg (s:List UInt8) (k:IntKind) (n:Int):zCM (.str s) (.int k n)=if 0≤n then(s[n.toNat]?).map fun c=>.int .u8 c.toNat else none:=rfl
theorem zFV (vs:List PV) (i:Nat):zBM (.tup vs) i=vs[i]?:=rfl
theorem zLr (w:Bool) (a:AV) (n:Nat) (cs:List PV):pLen (.fz w a n cs)=some (.int .i64 n):=rfl
theorem zLq (s o n:Nat) (c:Cap):pLen (.sl s o n c)=some (.int .i64 n):=rfl
theorem zGf (s:List UInt8):zCL (.str s)=some (.int .i64 s.length):=rfl
theorem zJM (w:Bool) (l:Nat) (cs:List PV):pCap (.fz w .nils l cs)=some (.int .i64 0):=rfl
theorem zLs (s o n c:Nat):pCap (.sl s o n (.known c))=some (.int .i64 c):=rfl
theorem zGe (mx:Bool) (k:IntKind) (a b:Int):zA1 mx (.int k a) (.int k b)=some (.int k (if mx=true then max a b else min a b)):=by simp [zA1]
theorem zI5 (n s i:Nat):pldv false n (.ptr s i) h=h.rd1 s i:=rfl
theorem zI4 (n s i:Nat):pldv true n (.ptr s i) h=(h.rd s i n).map .agg:=rfl
theorem zKa (n:Nat) (a:AV) (cs:List PV):pldv false n (.fp a cs) h=cs[0]?:=rfl
theorem zKZ (n:Nat) (a:AV) (cs:List PV):pldv true n (.fp a cs) h=if 0<n∧n≤cs.length then some (.agg (cs.take n))else none:=rfl
theorem zI3:h.news []=h:=rfl
theorem zHk (z:List AV) (zs:List (List AV)):h.news (z::zs)=(h.new (ofAVs z)).news zs:=rfl
theorem zIZ (recs:List RecP):zN [] recs h=True:=by
 apply propext;refine⟨fun _=>trivial,fun _=>?_⟩
 induction recs with
 | nil=>trivial
 | cons r rs ih=>exact⟨by simp,ih⟩
theorem zGw (c:List Nat):zN c [] h=True:=rfl
theorem zGx (c:List Nat) (i:Nat) (a:Bool) (n:Nat) (x v:PV) (rs:List RecP):zN c (⟨i,a,n,x,v⟩::rs) h=((if c.contains i=true then pldv a n x h=some v else True)∧zN c rs h):=rfl
theorem zGJ (d:Option Nat) (a:Bool) (n:Nat) (x:IX) (g:Option (Nat×Bool)) (i:Nat) (c:List Nat) (v:PV):zK ⟨⟨d,.load a n x,true,g⟩,i,c⟩ e v=if Q4 g e=true then [⟨i,a,n,x.pv e,v⟩]else []:=rfl
theorem zIl (d:Option Nat) (x:IX) (g:Option (Nat×Bool)) (i:Nat) (c:List Nat) (v:PV):zK ⟨⟨d,(.mv x),true,g⟩,i,c⟩ e v=[]:=rfl
theorem zGI (d:Option Nat) (x y z:IX) (g:Option (Nat×Bool)) (i:Nat) (c:List Nat) (v:PV):zK ⟨⟨d,(.pick x y z),true,g⟩,i,c⟩ e v=[]:=rfl
theorem zHh (d:Option Nat) (op:BinOp) (ek:EqK) (x y:IX) (g:Option (Nat×Bool)) (i:Nat) (c:List Nat) (v:PV):zK ⟨⟨d,(.bin op ek x y),true,g⟩,i,c⟩ e v=[]:=rfl
theorem zIk (d:Option Nat) (op:UnOp) (x:IX) (g:Option (Nat×Bool)) (i:Nat) (c:List Nat) (v:PV):zK ⟨⟨d,(.un op x),true,g⟩,i,c⟩ e v=[]:=rfl
theorem zGK (d:Option Nat) (k:IntKind) (x:IX) (g:Option (Nat×Bool)) (i:Nat) (c:List Nat) (v:PV):zK ⟨⟨d,(.conv k x),true,g⟩,i,c⟩ e v=[]:=rfl
theorem zDP (d:Option Nat) (x:IX) (g:Option (Nat×Bool)) (i:Nat) (c:List Nat) (v:PV):zK ⟨⟨d,(.nilCheck x),true,g⟩,i,c⟩ e v=[]:=rfl
theorem zFE (d:Option Nat) (z:List AV) (ps:List (Nat×Nat×IX)) (g:Option (Nat×Bool)) (i:Nat) (c:List Nat) (v:PV):zK ⟨⟨d,(.build z ps),true,g⟩,i,c⟩ e v=[]:=rfl
theorem zFD (d:Option Nat) (a:Bool) (n off:Nat) (x:IX) (g:Option (Nat×Bool)) (i:Nat) (c:List Nat) (v:PV):zK ⟨⟨d,(.field a n off x),true,g⟩,i,c⟩ e v=[]:=rfl
theorem zCs (d:Option Nat) (off:Nat) (x:IX) (g:Option (Nat×Bool)) (i:Nat) (c:List Nat) (v:PV):zK ⟨⟨d,(.fieldAddr off x),true,g⟩,i,c⟩ e v=[]:=rfl
theorem zCr (d:Option Nat) (sz:Nat) (x y:IX) (g:Option (Nat×Bool)) (i:Nat) (c:List Nat) (v:PV):zK ⟨⟨d,(.indexAddr sz x y),true,g⟩,i,c⟩ e v=[]:=rfl
theorem zDR (d:Option Nat) (x y:IX) (g:Option (Nat×Bool)) (i:Nat) (c:List Nat) (v:PV):zK ⟨⟨d,(.indexStr x y),true,g⟩,i,c⟩ e v=[]:=rfl
theorem zD9 (d:Option Nat) (x:IX) (j:Nat) (g:Option (Nat×Bool)) (i:Nat) (c:List Nat) (v:PV):zK ⟨⟨d,(.extract x j),true,g⟩,i,c⟩ e v=[]:=rfl
theorem zHf (d:Option Nat) (x:IX) (g:Option (Nat×Bool)) (i:Nat) (c:List Nat) (v:PV):zK ⟨⟨d,(.len x),true,g⟩,i,c⟩ e v=[]:=rfl
theorem zEk (d:Option Nat) (x:IX) (g:Option (Nat×Bool)) (i:Nat) (c:List Nat) (v:PV):zK ⟨⟨d,(.lenStr x),true,g⟩,i,c⟩ e v=[]:=rfl
theorem zHg (d:Option Nat) (x:IX) (g:Option (Nat×Bool)) (i:Nat) (c:List Nat) (v:PV):zK ⟨⟨d,(.cap x),true,g⟩,i,c⟩ e v=[]:=rfl
theorem zFC (d:Option Nat) (sz:Nat) (x:IX) (lo hi mx:Option IX) (g:Option (Nat×Bool)) (i:Nat) (c:List Nat) (v:PV):zK ⟨⟨d,(.slice sz x lo hi mx),true,g⟩,i,c⟩ e v=[]:=rfl
theorem zDO (d:Option Nat) (x:IX) (lo hi:Option IX) (g:Option (Nat×Bool)) (i:Nat) (c:List Nat) (v:PV):zK ⟨⟨d,(.sliceStr x lo hi),true,g⟩,i,c⟩ e v=[]:=rfl
theorem zEj (d:Option Nat) (mx:Bool) (x y:IX) (g:Option (Nat×Bool)) (i:Nat) (c:List Nat) (v:PV):zK ⟨⟨d,(.maxmin mx x y),true,g⟩,i,c⟩ e v=[]:=rfl
theorem zDQ (d:Option Nat) (f:FuncId) (y z:List IX) (g:Option (Nat×Bool)) (i:Nat) (c:List Nat) (v:PV):zK ⟨⟨d,(.makeFunc f y z),true,g⟩,i,c⟩ e v=[]:=rfl
theorem zHe (d:Option Nat) (j:Nat) (g:Option (Nat×Bool)) (i:Nat) (c:List Nat) (v:PV):zK ⟨⟨d,(.rev j),true,g⟩,i,c⟩ e v=[]:=rfl
theorem zGH (d:Option Nat) (j m:Nat) (g:Option (Nat×Bool)) (i:Nat) (c:List Nat) (v:PV):zK ⟨⟨d,(.revS j m),true,g⟩,i,c⟩ e v=[]:=rfl
theorem zE3:Q4 none e=true:=rfl
theorem zE2 (t:Nat) (b:Bool):Q4 (some (t,b)) e=(match e t with | .bool c=>decide (c=b) | _=>false):=rfl
theorem zHd:qj [] e h=some []:=rfl
theorem zHc (t:Nat) (r:List IRes):qj (.tmp t::r) e h=(qj r e h).map fun vs=>e t::vs:=rfl
theorem zGF (t:Nat) (a:Bool) (n:Nat) (r:List IRes):qj (.cell t a n::r) e h=(pldv a n (e t) h).bind fun v=>(qj r e h).map fun vs=>v::vs:=rfl
theorem zGG (res:List IRes):retP res KA .normal e h=optK (qj res e h) fun vs=>KA (packP vs) h:=rfl
theorem zKG (res:List IRes):retP res KA .ret e h=optK (qj res e h) fun vs=>KA (packP vs) h:=rfl
theorem zJG (v:PV):packP [v]=v:=rfl
theorem zJH:packP []=.tup []:=rfl
theorem zJF (u v:PV) (r:List PV):packP (u::v::r)=.tup (u::v::r):=rfl
theorem zI7 (cs:List PV):pfill cs []=some cs:=rfl
theorem zHl (cs:List PV) (off size:Nat) (v:PV) (r:List (Nat×Nat×PV)):pfill cs ((off,size,v)::r)=if v.cells.length=size∧off+size≤cs.length∧v.cells.all PV.one=true then pfill (cs.take off++v.cells++cs.drop (off+size)) r else none:=rfl
theorem zHp (k:IntKind) (n:Int):PV.cells (.int k n)=[(.int k n)]:=rfl
theorem zKV (k:IntKind) (n:Int):PV.one (.int k n)=true:=rfl
theorem zGW (b:Bool):PV.cells (.bool b)=[(.bool b)]:=rfl
theorem zIy (b:Bool):PV.one (.bool b)=true:=rfl
theorem zHn (s:List UInt8):PV.cells (.str s)=[(.str s)]:=rfl
theorem zKT (s:List UInt8):PV.one (.str s)=true:=rfl
theorem zGU:PV.cells .nilp=[.nilp]:=rfl
theorem zIw:PV.one .nilp=true:=rfl
theorem zGV:PV.cells .nilf=[.nilf]:=rfl
theorem zIx:PV.one .nilf=true:=rfl
theorem zI9 (w:Bool) (a:AV) (n:Nat) (cs:List PV):PV.cells (.fz w a n cs)=[(.fz w a n cs)]:=rfl
theorem zLk (w:Bool) (a:AV) (n:Nat) (cs:List PV):PV.one (.fz w a n cs)=true:=rfl
theorem zJA (a:AV) (cs:List PV):PV.cells (.fp a cs)=[(.fp a cs)]:=rfl
theorem zLl (a:AV) (cs:List PV):PV.one (.fp a cs)=true:=rfl
theorem zHo (s i:Nat):PV.cells (.ptr s i)=[(.ptr s i)]:=rfl
theorem zKU (s i:Nat):PV.one (.ptr s i)=true:=rfl
theorem zI8 (s o n:Nat) (c:Cap):PV.cells (.sl s o n c)=[(.sl s o n c)]:=rfl
theorem zLj (s o n:Nat) (c:Cap):PV.one (.sl s o n c)=true:=rfl
theorem zHq (f:FuncId) (a b:List PV):PV.cells (.clo f a b)=[(.clo f a b)]:=rfl
theorem zKW (f:FuncId) (a b:List PV):PV.one (.clo f a b)=true:=rfl
theorem zHr (cs:List PV):PV.cells (.agg cs)=cs:=rfl
theorem zBL (k:IntKind) (i:Int) (y:Nat):Zx (.int k i) y=if 0≤i∧i≤y then some i.toNat else none:=rfl
theorem zAD (x:PV) (d y:Nat):zf (some x) d y=Zx x y:=rfl
theorem zAE (d y:Nat):zf none d y=some d:=rfl
theorem zIr (sz:Nat) (w:Bool) (a:AV) (len:Nat) (cs:List PV) (lo hi:Option PV):Qh sz (.fz w a len cs) lo hi none=(zf hi len len).bind fun h=>(zf lo 0 h).bind fun l=>some (.fz false (pslA sz a l h) (h-l) ((cs.drop (l*sz)).take ((h-l)*sz))):=rfl
theorem zBq (sz s off len c:Nat) (lo hi mx:Option PV):Qh sz (.sl s off len (.known c)) lo hi mx=(zf mx c c).bind fun m=>(zf hi len m).bind fun h=>(zf lo 0 h).bind fun l=>if hi.isNone=true∧mx.isSome=true then none else some (.sl s (if m=l then off else off+l*sz) (h-l) (.known (m-l))):=rfl
theorem zBr (sz s off len g:Nat) (lo hi:Option PV):Qh sz (.sl s off len (.grown g)) lo hi none=(zf hi len len).bind fun h=>(zf lo 0 h).bind fun l=>some (.sl s (off+l*sz) (h-l) (.grown (if g=sz then g else 0))):=rfl
theorem zEl (s:List UInt8) (lo hi:Option PV):zAZ (.str s) lo hi=(zf hi s.length s.length).bind fun h=>(zf lo 0 h).bind fun l=>some (.str ((s.take h).drop l)):=rfl
theorem QY (w:Bool) (a:AV) (n:Nat) (cs:List PV):plen (.fz w a n cs)=some n:=rfl
theorem zCK (s o n:Nat) (c:Cap):plen (.sl s o n c)=some n:=rfl
theorem qL (sz bytes:Nat) (s x:PV):zZ sz bytes h s x=(plen x).bind fun m=>if m=0 then(psame s).map fun v=>(v,h)else(qf sz h x m).bind fun news=>pgrow sz bytes h s news m:=rfl
theorem zFS (sz:Nat) (d s:PV):pcopy sz h d s=(plen d).bind fun n=>(plen s).bind fun m=>if min m n=0 then some (.int .i64 0,h)else match d with | .sl o off _ _=>(qf sz h s (min m n)).bind fun cs=>(h.wr o off cs).map fun σ'=>(.int .i64 (min m n:Nat),σ') | _=>none:=rfl
theorem zGQ (s o n c:Nat):psame (.sl s o n (.known c))=if n≤c then some (.sl s o n (.known c))else none:=rfl
theorem Zi (sz:Nat) (w:Bool) (a:AV) (len:Nat) (cs:List PV) (n:Nat):qf sz h (.fz w a len cs) n=if n=0 then some []else if n≤len∧n*sz≤cs.length∧0<sz then some (cs.take (n*sz))else none:=rfl
theorem qM (sz s off len:Nat) (c:Cap) (n:Nat):qf sz h (.sl s off len c) n=if n=0 then some []else if n≤len then h.rd s off (n*sz)else none:=rfl
theorem Qv (sz bytes:Nat) (w:Bool) (n:Nat) (cs news:List PV) (m:Nat):pgrow sz bytes h (.fz w .nils n cs) news m=if m*bytes≤140737488355328∧m≤4611686018427387904 then some (.sl h.next 0 m (.grown sz),h.new news)else none:=rfl
theorem Qe (sz bytes s off len c:Nat) (news:List PV) (m:Nat):pgrow sz bytes h (.sl s off len (.known c)) news m=if len+m≤c then(h.wr s (off+len*sz) news).map fun σ'=>(.sl s off (len+m) (.known c),σ')else if (len+m)*bytes≤140737488355328∧len+m≤4611686018427387904 then(h.rd s off (len*sz)).map fun old=>(.sl h.next 0 (len+m) (.grown sz),h.new (old++news))else none:=rfl
theorem zAl (sz bytes s off len g:Nat) (news:List PV) (m:Nat):pgrow sz bytes h (.sl s off len (.grown g)) news m=if (len+m)*bytes≤140737488355328∧len+m≤4611686018427387904∧g=sz then(h.obj s).bind fun cs=>if off+len*sz≤cs.length then some (.sl h.next 0 (len+m) (.grown sz),(h.kill s).new ((cs.drop off).take (len*sz)++news))else none else none:=rfl
theorem zFM (cs:List PV) (s i:Nat):(h.new cs).rd1 s i=if s=h.next then cs[i]? else h.rd1 s i:=by by_cases x:s=h.next<;>simp [PHeap.rd1,PHeap.new,x]
theorem QX (cs:List PV) (s i n:Nat):(h.new cs).rd s i n=if s=h.next then(if i+n≤cs.length then some ((cs.drop i).take n)else none)else h.rd s i n:=by by_cases x:s=h.next<;>simp [PHeap.rd,PHeap.new,x]
theorem zD (cs:List PV) (s:Nat):(h.new cs).obj s=if s=h.next then some cs else h.obj s:=rfl
theorem zLd (cs:List PV) (s i:Nat) (vs:List PV):(h.new cs).wr s i vs=if s=h.next then(if i+vs.length≤cs.length∧vs.all PV.one=true then some (h.new (cs.take i++vs++cs.drop (i+vs.length)))else none)else(h.wr s i vs).map fun h'=>h'.new cs:=by
 by_cases x:s=h.next
 ·subst x
  simp only [PHeap.wr,PHeap.new,if_true,Option.bind_some]
  split
  ·congr 1
   simp only [PHeap.set]
   congr 1
   funext y
   by_cases hy:y=h.next<;>simp [hy]
  ·rfl
 ·simp only [PHeap.wr,PHeap.new,if_neg x]
  cases ho:h.obj s with
  | none=>rfl
  | some ob=>
   simp only [Option.bind_some]
   split
   ·simp only [Option.map_some,PHeap.set]
    congr 2
    funext y
    by_cases hy:y=s
    ·subst hy;simp [x]
    ·simp [hy]
   ·rfl
theorem zI2 (cs:List PV):(h.new cs).next=h.next+1:=rfl
theorem zKN (cs:List PV):(h.new cs).top=h.top:=rfl
theorem zKO (cs:List PV) (s:Nat) (ds:List PV):(h.new cs).set s ds=if s=h.next then h.new ds else(h.set s ds).new cs:=by
 by_cases x:s=h.next
 ·subst x
  rw [if_pos rfl];simp only [PHeap.set,PHeap.new]
  congr 1
  funext y
  by_cases hy:y=h.next<;>simp [hy]
 ·rw [if_neg x]
  simp only [PHeap.set,PHeap.new]
  congr 1
  funext y
  by_cases hy:y=s
  ·subst hy;simp [x]
  ·simp [hy]
theorem QW (s:Nat) (cs ds:List PV):(h.set s cs).set s ds=h.set s ds:=by
 simp only [PHeap.set]
 congr 1
 funext y
 by_cases hy:y=s<;>simp [hy]
theorem zI1 (s:Nat) (cs:List PV):(h.set s cs).next=h.next:=rfl
theorem zHj (s:Nat):(h.kill s).next=h.next:=rfl
theorem zKX (t:Nat):(h.up t).next=h.next:=rfl
theorem zLh (t:Nat):(h.up t).top=t:=rfl
theorem zLn (t:Nat) (cs:List PV):(h.up t).new cs=(h.new cs).up t:=rfl
theorem zLi (t s i:Nat):(h.up t).rd1 s i=h.rd1 s i:=rfl
theorem zMW (t s i n:Nat):(h.up t).rd s i n=h.rd s i n:=rfl
theorem zLm (t s:Nat):(h.up t).obj s=h.obj s:=rfl
theorem zMU (t s i:Nat) (vs:List PV):(h.up t).wr s i vs=(h.wr s i vs).map fun h'=>h'.up t:=by
 simp only [PHeap.wr,PHeap.up];cases h.obj s with
 | none=>rfl
 | some cs=>simp only [Option.bind_some];split<;>rfl
theorem zIz (s t:Nat):(h.kill s).obj t=if t=s then none else h.obj t:=rfl
theorem zJ (s:Nat) (cs:List PV) (t:Nat):(h.set s cs).obj t=if t=s then some cs else h.obj t:=rfl
theorem zIs (s t i:Nat):(h.kill s).rd1 t i=if t=s then none else h.rd1 t i:=by by_cases x:t=s<;>simp [PHeap.rd1,PHeap.kill,x]
theorem zKP (s t i n:Nat):(h.kill s).rd t i n=if t=s then none else h.rd t i n:=by by_cases x:t=s<;>simp [PHeap.rd,PHeap.kill,x]
theorem zKQ (s:Nat) (cs:List PV) (t i:Nat):(h.set s cs).rd1 t i=if t=s then cs[i]? else h.rd1 t i:=by by_cases x:t=s<;>simp [PHeap.rd1,PHeap.set,x]
theorem qZ (s:Nat) (cs:List PV) (t i n:Nat):(h.set s cs).rd t i n=if t=s then(if i+n≤cs.length then some ((cs.drop i).take n)else none)else h.rd t i n:=by by_cases x:t=s<;>simp [PHeap.rd,PHeap.set,x]
theorem zLc (s:Nat) (cs:List PV) (i:Nat) (vs:List PV):(h.set s cs).wr s i vs=if i+vs.length≤cs.length∧vs.all PV.one=true then some (h.set s (cs.take i++vs++cs.drop (i+vs.length)))else none:=by
 simp only [PHeap.wr,PHeap.set,if_true,Option.bind_some]
 split
 ·congr 2
  funext y
  by_cases hy:y=s<;>simp [hy]
 ·rfl
end
def pw0:=And.intro @zLN <| And.intro @zIc <| And.intro @zLP <| And.intro @zMK <| And.intro @zLQ <| And.intro @zJ7 <| And.intro @zLO <| And.intro @zML <| And.intro @zMC <| And.intro @RVp_q <| And.intro @RVp_e <| And.intro @zMG <| And.intro @DVp_q <| And.intro @DVp_e <| And.intro @zKy <| And.intro @zKx <| And.intro @zK0 <| And.intro @zKz <| And.intro @zGS <| And.intro @zFT <| And.intro @zHm <| And.intro @zGT <| And.intro @zFR <| And.intro @zFP <| And.intro @zFO <| And.intro @zFQ <| And.intro @pv_t <| And.intro @pv_c <| And.intro @zKY <| @zIu
def pw1:=And.intro @zIv <| And.intro @qp_mv <| And.intro @zLZ <| And.intro @zMT <| And.intro @qp_un <| And.intro @zLb <| And.intro @zGM <| And.intro @zKM <| And.intro @zKL <| And.intro @zFJ <| And.intro @zFI <| And.intro @zGO <| And.intro @zHi <| And.intro @zMR <| And.intro @zIp <| And.intro @zMS <| And.intro @zKK <| And.intro @zGL <| And.intro @zIo <| And.intro @zGN <| And.intro @zLa <| And.intro @zMQ <| And.intro @zLY <| And.intro @zK8 <| And.intro @zMe <| And.intro @zIL <| And.intro @zK6 <| And.intro @zHx <| And.intro @zJl <| And.intro @zGt <| @zGh
def pw2:=And.intro @zJI <| And.intro @zJm <| And.intro @zL2 <| And.intro @zL3 <| And.intro @zK7 <| And.intro @zH1 <| And.intro @zKu <| And.intro @of_bool <| And.intro @of_int <| And.intro @zMX <| And.intro @zLv <| And.intro @zLw <| And.intro @zLu <| And.intro @zMY <| And.intro @zMZ <| And.intro @zLt <| And.intro @zKt <| And.intro @zG9 <| And.intro @zKo <| And.intro @zKe <| And.intro @zKi <| And.intro @zKn <| And.intro @zKh <| And.intro @zKj <| And.intro @zKk <| And.intro @zKl <| And.intro @zKm <| And.intro @zKg <| And.intro @zKf <| @zHv
def pw3:=And.intro @zJE <| And.intro @zHw <| And.intro @zJD <| And.intro @zJC <| And.intro @zHu <| And.intro @zGb <| And.intro @zHt <| And.intro @zGa <| And.intro @zGZ <| And.intro @zGY <| And.intro @zGX <| And.intro @zGr <| And.intro @zJd <| And.intro @zLg <| And.intro @zLf <| And.intro @zHy <| And.intro @zGd <| And.intro @zJL <| And.intro @zKp <| And.intro @zKq <| And.intro @zLp <| And.intro @zH0 <| And.intro @zHz <| And.intro @zEB <| And.intro @zEp <| And.intro @zJJ <| And.intro @zJK <| And.intro @zGg <| And.intro @zFV <| @zLr
def pw4:=And.intro @zLq <| And.intro @zGf <| And.intro @zJM <| And.intro @zLs <| And.intro @zGe <| And.intro @zI5 <| And.intro @zI4 <| And.intro @zKa <| And.intro @zKZ <| And.intro @zI3 <| And.intro @zHk <| And.intro @zIZ <| And.intro @zGw <| And.intro @zGx <| And.intro @zGJ <| And.intro @zIl <| And.intro @zGI <| And.intro @zHh <| And.intro @zIk <| And.intro @zGK <| And.intro @zDP <| And.intro @zFE <| And.intro @zFD <| And.intro @zCs <| And.intro @zCr <| And.intro @zDR <| And.intro @zD9 <| And.intro @zHf <| And.intro @zEk <| @zHg
def pw5:=And.intro @zFC <| And.intro @zDO <| And.intro @zEj <| And.intro @zDQ <| And.intro @zHe <| And.intro @zGH <| And.intro @zE3 <| And.intro @zE2 <| And.intro @zHd <| And.intro @zHc <| And.intro @zGF <| And.intro @zGG <| And.intro @zKG <| And.intro @zJG <| And.intro @zJH <| And.intro @zJF <| And.intro @zI7 <| And.intro @zHl <| And.intro @zHp <| And.intro @zKV <| And.intro @zGW <| And.intro @zIy <| And.intro @zHn <| And.intro @zKT <| And.intro @zGU <| And.intro @zIw <| And.intro @zGV <| And.intro @zIx <| And.intro @zI9 <| And.intro @zLk <| @zJA
def pw6:=And.intro @zLl <| And.intro @zHo <| And.intro @zKU <| And.intro @zI8 <| And.intro @zLj <| And.intro @zHq <| And.intro @zKW <| And.intro @zHr <| And.intro @zBL <| And.intro @zAD <| And.intro @zAE <| And.intro @zIr <| And.intro @zBq <| And.intro @zBr <| And.intro @zEl <| And.intro @QY <| And.intro @zCK <| And.intro @zFM <| And.intro @QX <| And.intro @zD <| And.intro @zLd <| And.intro @zI2 <| And.intro @zKN <| And.intro @zKO <| And.intro @QW <| And.intro @zI1 <| And.intro @zHj <| And.intro @zKX <| And.intro @zLh <| @zLn
def pw7:=And.intro @zLi <| And.intro @zMW <| And.intro @zLm <| And.intro @zMU <| And.intro @zIz <| And.intro @zJ <| And.intro @zIs <| And.intro @zKP <| And.intro @zKQ <| And.intro @qZ <| And.intro @zLc <| And.intro @zAb <| And.intro @Qk <| And.intro @zJO <| And.intro @zKs <| And.intro @List.map_cons.{0,0} <| And.intro @List.map_nil.{0,0} <| And.intro @List.length_cons.{0} <| And.intro @List.length_nil.{0} <| And.intro @List.getElem?_cons_zero.{0} <| And.intro @List.getElem?_cons_succ.{0} <| And.intro @List.take_succ_cons.{0} <| And.intro @List.take_zero.{0} <| And.intro @List.drop_succ_cons.{0} <| And.intro @List.drop_zero.{0} <| And.intro @List.take_nil.{0} <| And.intro @List.drop_nil.{0} <| And.intro @List.nil_append.{0} <| And.intro @List.cons_append.{0} <| @List.append_nil.{0}
def pw8:=And.intro @List.all_cons.{0} <| And.intro @List.all_nil.{0} <| And.intro @List.contains_cons.{0} <| And.intro @List.contains_nil.{0} <| And.intro @Option.map_some.{0,0} <| And.intro @Option.map_none.{0,0} <| And.intro @Option.bind_some.{0,0} <| And.intro @Option.bind_none.{0,0} <| And.intro @decide_true <| And.intro @decide_false <| And.intro @Bool.not_true <| And.intro @Bool.not_false <| And.intro @Bool.and_true <| And.intro @Bool.true_and <| And.intro @Bool.and_self <| And.intro @Bool.or_false <| And.intro @Bool.or_true <| And.intro @Bool.true_or <| And.intro @Bool.false_or <| And.intro @true_and <| And.intro @and_true <| And.intro @Bool.true_eq_false <| And.intro @Bool.false_eq_true <| And.intro @Nat.left_eq_add <| And.intro @Nat.add_eq_left <| And.intro @Nat.succ_ne_self <| And.intro @Nat.one_ne_zero <| And.intro @Nat.add_left_cancel_iff <| And.intro @Nat.add_assoc <| @Nat.mul_one
def pw9:=And.intro @Nat.zero_add <| And.intro @Nat.add_zero <| And.intro @Nat.le_refl <| And.intro @Nat.lt_add_one <| And.intro @Int.toNat_natCast <| And.intro @Int.natCast_nonneg <| And.intro @Int.ofNat_lt <| And.intro @Int.le_refl <| And.intro @zHS <| And.intro @zHT <| And.intro @zBh <| And.intro @Nat.one_mul <| @Nat.zero_mul
def pwA:=And.intro pw0 <| And.intro pw1 <| And.intro pw2 <| And.intro pw3 <| And.intro pw4 <| And.intro pw5 <| And.intro pw6 <| And.intro pw7 <| And.intro pw8 <| And.intro pw9 <| And.intro @nm_eq <| And.intro @eq_self.{1} <| And.intro @Int.ofNat_le @List.getElem?_drop.{0}
end Go.Ab
