/- THE RULES BY WHICH CODE IS WALKED over values without a heap: equations, and the one name 'pw' for all of them. Written by a program. -/
import Derived.Test.YtjlpbpfaihhamaaGreatDoorBAbPg
import Derived.Test.YtjlpbpfaihhamaaGreatDoorBAbAid
set_option linter.unusedVariables false
set_option linter.unusedSimpArgs false
set_option linter.defProp false
namespace Go.Ab
section
variable {P:Program} {Q:Exit→PEnv→PHeap→Prop} {e:PEnv} {h:PHeap} {K:PEnv→PHeap→Prop} {KA:PV→PHeap→Prop} {nb nr:Nat}
theorem zMw:vp P .skip Q e h=Q .normal e h:=rfl
theorem zJV (S:List Nat) (its:List II):vp P (.region S its) Q e h=RVp P its e h fun e' h'=>Q .normal (PEnv.mk S (S.map e')) h':=rfl
theorem zHd (S:List Nat) (t:OT):vp P (.tree S t) Q e h=TVp P t [] e h fun e' h'=>Q .normal (PEnv.mk S (S.map e')) h':=rfl
theorem zGi (recs:List RecP):TVp P .done recs e h K=K e h:=rfl
theorem zGh (recs:List RecP):TVp P .none recs e h K=True:=rfl
theorem TVp_q (d:Option Nat) (op:IOp) (g:Option (Nat×Bool)) (q:Bool) (i:Nat) (c:List Nat) (nx:OT) (recs:List RecP):TVp P (.q ⟨⟨d,op,q,g⟩,i,c⟩ nx) recs e h K=optK (gqp 0 0 ⟨d,op,q,g⟩ e h) fun v=>TVp P nx (qO ⟨⟨d,op,q,g⟩,i,c⟩ e v++recs) (e.put d v) h K:=rfl
theorem TVp_e (d:Option Nat) (op:IOp) (g:Option (Nat×Bool)) (q:Bool) (i:Nat) (c:List Nat) (nx alt:OT) (recs:List RecP):TVp P (.e ⟨⟨d,op,q,g⟩,i,c⟩ nx alt) recs e h K=((gep P ⟨d,op,q,g⟩ e h fun v h'=>Zx c recs h'∧TVp P nx recs (e.put d v) h' K)∧TVp P alt recs e h K):=rfl
theorem zMy (S:List Nat) (zs:List (List AV)) (its:List DI):vp P (.draw S zs its) Q e h=DVp P h.next zs.length its [] e (h.news zs) fun e' h'=>Q .normal (PEnv.mk S (S.map e')) h':=rfl
theorem zOE (a b:IC):vp P (.seq a b) Q e h=vp P a (fun x e' h'=>match x with | .normal=>vp P b Q e' h' | x=>Q x e' h') e h:=rfl
theorem zMz (c:IX) (a b:IC):vp P (.cond c a b) Q e h=ZM (c.pv e) (vp P a Q e h) (vp P b Q e h):=rfl
theorem zK6 (id:Nat) (c:IC):vp P (.block id c) Q e h=vp P c (fun x e' h'=>match x with | .exit id'=>if id'=id then Q .normal e' h' else Q (.exit id') e' h' | x=>Q x e' h') e h:=rfl
theorem zMx (id:Nat):vp P (.exit id) Q e h=Q (.exit id) e h:=rfl
theorem zOF:vp P .ret Q e h=Q .ret e h:=rfl
theorem zN9:RVp P [] e h K=K e h:=rfl
theorem RVp_q (d:Option Nat) (op:IOp) (g:Option (Nat×Bool)) (r:List II):RVp P (⟨d,op,true,g⟩::r) e h K=optK (gqp 0 0 ⟨d,op,true,g⟩ e h) fun v=>RVp P r (e.put d v) h K:=rfl
theorem RVp_e (d:Option Nat) (op:IOp) (g:Option (Nat×Bool)) (r:List II):RVp P (⟨d,op,false,g⟩::r) e h K=gep P ⟨d,op,false,g⟩ e h fun v h'=>RVp P r (e.put d v) h' K:=rfl
theorem zOB (recs:List RecP):DVp P nb nr [] recs e h K=K e h:=rfl
theorem DVp_q (d:Option Nat) (op:IOp) (g:Option (Nat×Bool)) (i:Nat) (c:List Nat) (r:List DI) (recs:List RecP):DVp P nb nr (⟨⟨d,op,true,g⟩,i,c⟩::r) recs e h K=optK (gqp nb nr ⟨d,op,true,g⟩ e h) fun v=>DVp P nb nr r (qO ⟨⟨d,op,true,g⟩,i,c⟩ e v++recs) (e.put d v) h K:=rfl
theorem DVp_e (d:Option Nat) (op:IOp) (g:Option (Nat×Bool)) (i:Nat) (c:List Nat) (r:List DI) (recs:List RecP):DVp P nb nr (⟨⟨d,op,false,g⟩,i,c⟩::r) recs e h K=gep P ⟨d,op,false,g⟩ e h fun v h'=>Zx c recs h'∧DVp P nb nr r recs (e.put d v) h' K:=rfl
theorem zME (d:Option Nat) (op:IOp) (q:Bool):gqp nb nr ⟨d,op,q,none⟩ e h=qp nb nr op e h:=rfl
theorem zMD (d:Option Nat) (op:IOp) (q:Bool) (t:Nat) (b:Bool):gqp nb nr ⟨d,op,q,some (t,b)⟩ e h=QG (e t) b (qp nb nr op e h):=rfl
theorem zMG (d:Option Nat) (op:IOp) (q:Bool):gep P ⟨d,op,q,none⟩ e h KA=ep P op e h KA:=rfl
theorem zMF (d:Option Nat) (op:IOp) (q:Bool) (t:Nat) (b:Bool):gep P ⟨d,op,q,some (t,b)⟩ e h KA=ZB (e t) b (ep P op e h KA) (KA (.tup []) h):=rfl
theorem zG3 (a b:Prop):ZM (.bool true) a b=a:=rfl
theorem zFx (a b:Prop):ZM (.bool false) a b=b:=rfl
theorem zIV (c:Prop) [Decidable c] (a b:Prop):ZM (.bool (decide c)) a b=if c then a else b:=by by_cases x:c<;>simp [ZM,x]
theorem zG4 (c:Prop) [Decidable c] (a b:Prop):ZM (.bool (!decide c)) a b=if c then b else a:=by by_cases x:c<;>simp [ZM,x]
theorem zFw (c b:Bool) (x y:Prop):ZB (.bool c) b x y=if c=b then x else y:=rfl
theorem zFu (c b:Bool) (x:Option PV):QG (.bool c) b x=if c=b then x else some (.tup []):=rfl
theorem zFt (b:Bool) (x:Option PV):QG (.tup []) b x=some (.tup []):=rfl
theorem zFv (b:Bool) (x y:Prop):ZB (.tup []) b x y=y:=rfl
theorem pv_t (n:Nat):(IX.t n).pv e=e n:=rfl
theorem pv_c (v:AV):(IX.c v).pv e=ofAV v:=rfl
theorem zLg (s:Nat) (S:List Nat) (v:PV) (vs:List PV) (t:Nat):PEnv.mk (s::S) (v::vs) t=if t=s then v else PEnv.mk S vs t:=rfl
theorem zJx (d:Nat) (v:PV) (t:Nat):e.put (some d) v t=if t=d then v else e t:=rfl
theorem zJy (v:PV):e.put none v=e:=rfl
theorem qp_mv (x:IX):qp nb nr (.mv x) e h=some (x.pv e):=rfl
theorem zNL (c a b:IX):qp nb nr (.pick c a b) e h=pPick (c.pv e) (a.pv e) (b.pv e):=rfl
theorem zOi (op:BinOp) (ek:EqK) (x y:IX):qp nb nr (.bin op ek x y) e h=pbin op ek (x.pv e) (y.pv e):=rfl
theorem zNN (op:BinOp) (x:IX):qp nb nr (.errB op x) e h=pErr op (x.pv e):=rfl
theorem zLz (b:Bool):pErr .neq (.err b)=some (.bool !b):=rfl
theorem zL0 (b:Bool):pErr .eql (.err b)=some (.bool b):=rfl
theorem qp_un (op:UnOp) (x:IX):qp nb nr (.un op x) e h=pun op (x.pv e):=rfl
theorem zNO (k:IntKind) (x:IX):qp nb nr (.conv k x) e h=pConv k (x.pv e):=rfl
theorem zGy (x:IX):qp nb nr (.nilCheck x) e h=pNil (x.pv e):=rfl
theorem zLR (z:List AV) (ps:List (Nat×Nat×IX)):qp nb nr (.build z ps) e h=(pfill (ofAVs z) (ps.map fun p=>(p.1,p.2.1,p.2.2.pv e))).map .agg:=rfl
theorem zLQ (a:Bool) (n off:Nat) (x:IX):qp nb nr (.field a n off x) e h=zB1 a n off (x.pv e):=rfl
theorem zFj (off:Nat) (x:IX):qp nb nr (.fieldAddr off x) e h=QQ off (x.pv e):=rfl
theorem zFi (sz:Nat) (x i:IX):qp nb nr (.indexAddr sz x i) e h=zBJ sz (x.pv e) (i.pv e):=rfl
theorem zG0 (x i:IX):qp nb nr (.indexStr x i) e h=zCW (x.pv e) (i.pv e):=rfl
theorem zIO (x:IX) (i:Nat):qp nb nr (.extract x i) e h=zBX (x.pv e) i:=rfl
theorem zOg (x:IX):qp nb nr (.len x) e h=pLen (x.pv e):=rfl
theorem zJq (x:IX):qp nb nr (.lenStr x) e h=zCV (x.pv e):=rfl
theorem zOh (x:IX):qp nb nr (.cap x) e h=pCap (x.pv e):=rfl
theorem zLP (sz:Nat) (x:IX) (lo hi mx:Option IX):qp nb nr (.slice sz x lo hi mx) e h=zAV sz (x.pv e) (lo.map (·.pv e)) (hi.map (·.pv e)) (mx.map (·.pv e)):=rfl
theorem zGx (x:IX) (lo hi:Option IX):qp nb nr (.sliceStr x lo hi) e h=zAr (x.pv e) (lo.map (·.pv e)) (hi.map (·.pv e)):=rfl
theorem zJp (mx:Bool) (x y:IX):qp nb nr (.maxmin mx x y) e h=zBI mx (x.pv e) (y.pv e):=rfl
theorem zGz (f:FuncId) (a b:List IX):qp nb nr (.makeFunc f a b) e h=some (.clo f (a.map (·.pv e)) (b.map (·.pv e))):=rfl
theorem zNM (a:Bool) (n:Nat) (x:IX):qp nb nr (.load a n x) e h=pldv a n (x.pv e) h:=rfl
theorem zOf (k:Nat):qp nb nr (.rev k) e h=if k<nr then some (.ptr (nb+k) 0)else none:=rfl
theorem zNK (k n:Nat):qp nb nr (.revS k n) e h=if k<nr then some (.sl (nb+k) 0 n (.known n))else none:=rfl
theorem zMR (z:List AV):ep P (.alloc z) e h KA=KA (.ptr h.next 0) (h.new (ofAVs z)):=rfl
theorem zOw (x:IX):ep P (.box x) e h KA=((x.pv e).cells.all PV.one=true∧KA (.ptr h.next 0) (h.new (x.pv e).cells)):=rfl
theorem zI5 (sz len:Nat) (z:List AV) (ps:List (Nat×Nat×IX)):ep P (.buildSl sz len z ps) e h KA=optK (pfill (ofAVs (zeros z len)) (ps.map fun p=>(p.1,p.2.1,p.2.2.pv e))) fun cs=>KA (.sl h.next 0 len (.known len)) (h.new cs):=rfl
def zDp (n:Nat) (x v:PV) (h:PHeap) (KA:PV→PHeap→Prop):Prop:=
 match x with
 | .ptr s i=>v.cells.length=n∧optK (h.wr s i v.cells) fun h'=>KA .undef h'
 | _=>False
def pMake (sz bytes:Nat) (z:List AV) (l c:PV) (h:PHeap) (KA:PV→PHeap→Prop):Prop:=
 match l,c with
 | .int _ l,.int _ c=>(0≤l∧l≤c∧c*bytes≤140737488355328∧c≤9223372036854775807)∧KA (.sl h.next 0 l.toNat (.known c.toNat)) (h.new (ofAVs (zeros z c.toNat)))
 | _,_=>False
def zDr (sz bytes:Nat) (z:List AV) (s n:PV) (h:PHeap) (KA:PV→PHeap→Prop):Prop:=
 match s,n with
 | .fz _ .nils _ _,.int _ n=>(0≤n∧n*bytes≤140737488355328∧n≤4611686018427387904)∧if 0<n then KA (.sl h.next 0 n.toNat (.grown sz)) (h.new (ofAVs (zeros z n.toNat)))else KA (.fz true .nils 0 []) h
 | .sl s off len c,.int _ n=>(0≤n∧n*bytes≤140737488355328∧n≤4611686018427387904)∧optK (if 0<n then pgrow sz bytes h (.sl s off len c) (ofAVs (zeros z n.toNat)) n.toNat else(psame (.sl s off len c)).map fun v=>(v,h)) fun p=>KA p.1 p.2
 | _,_=>False
def zDq (P:Program) (f:PV) (args:List PV) (h:PHeap) (KA:PV→PHeap→Prop):Prop:=
 match f with
 | .clo f first caps=>okF P f=true∧zA P f (first++args++caps) h KA
 | _=>False
theorem zMP (n:Nat) (x v:IX):ep P (.store n x v) e h KA=zDp n (x.pv e) (v.pv e) h KA:=rfl
theorem zIi (n s i:Nat) (v:PV):zDp n (.ptr s i) v h KA=(v.cells.length=n∧optK (h.wr s i v.cells) fun h'=>KA .undef h'):=rfl
theorem zKm (sz bytes:Nat) (z:List AV) (l c:IX):ep P (.makeSl sz bytes z l c) e h KA=pMake sz bytes z (l.pv e) (c.pv e) h KA:=rfl
theorem zHT (sz bytes:Nat) (z:List AV) (s n:IX):ep P (.appendMk sz bytes z s n) e h KA=zDr sz bytes z (s.pv e) (n.pv e) h KA:=rfl
theorem zHI (sz bytes:Nat) (z:List AV) (w:Bool) (l:Nat) (cs:List PV) (k:IntKind) (n:Int):zDr sz bytes z (.fz w .nils l cs) (.int k n) h KA=((0≤n∧n*bytes≤140737488355328∧n≤4611686018427387904)∧if 0<n then KA (.sl h.next 0 n.toNat (.grown sz)) (h.new (ofAVs (zeros z n.toNat)))else KA (.fz true .nils 0 []) h):=rfl
theorem zKO (sz bytes:Nat) (z:List AV) (k k':IntKind) (l c:Int):pMake sz bytes z (.int k l) (.int k' c) h KA=((0≤l∧l≤c∧c*bytes≤140737488355328∧c≤9223372036854775807)∧KA (.sl h.next 0 l.toNat (.known c.toNat)) (h.new (ofAVs (zeros z c.toNat)))):=rfl
theorem zKn (sz bytes:Nat) (s x:IX):ep P (.append sz bytes s x) e h KA=optK (qd sz bytes h (s.pv e) (x.pv e)) fun p=>KA p.1 p.2:=rfl
theorem zNy (sz:Nat) (d s:IX):ep P (.copy sz d s) e h KA=optK (pcopy sz h (d.pv e) (s.pv e)) fun p=>KA p.1 p.2:=rfl
theorem zNz (f:FuncId) (args:List IX):ep P (.call f args) e h KA=zA P f (args.map (·.pv e)) h KA:=rfl
theorem Qm (x:IX):ep P (.strOf x) e h KA=optK (QP h (x.pv e)) fun s=>KA (.str s) h:=rfl
theorem zMQ (f:IX) (args:List IX):ep P (.callV f args) e h KA=zDq P (f.pv e) (args.map (·.pv e)) h KA:=rfl
theorem zIn (f:FuncId) (a b args:List PV):zDq P (.clo f a b) args h KA=(okF P f=true∧zA P f (a++args++b) h KA):=rfl
theorem zL6:ofAV .undef=.undef:=rfl
theorem of_bool (b:Bool):ofAV (.bool b)=.bool b:=rfl
theorem of_int (k:IntKind) (n:Int):ofAV (.int k n)=.int k n:=rfl
theorem zOn (s:List UInt8):ofAV (.str s)=.str s:=rfl
theorem zNm:ofAV .nilp=.nilp:=rfl
theorem zNn:ofAV .nilf=.nilf:=rfl
theorem zOo (b:Bool):ofAV (.err b)=.err b:=rfl
theorem zNl:ofAV .nils=.fz true .nils 0 []:=rfl
theorem zOp (f:FuncId) (a b:List AV):ofAV (.clo f a b)=.clo f (ofAVs a) (ofAVs b):=rfl
theorem zOq (a:List AV):ofAV (.agg a)=.agg (ofAVs a):=rfl
theorem zNk:ofAVs []=[]:=rfl
theorem zL5 (c:AV) (cs:List AV):ofAVs (c::cs)=ofAV c::ofAVs cs:=rfl
theorem zNj (n:Nat) (c:AV):ofAVs (List.replicate n c)=List.replicate n (ofAV c):=by rw [zEl,List.map_replicate]
theorem zLw (k:IntKind) (ek:EqK) (a b:Int):pbin .add ek (.int k a) (.int k b)=some (.int k (k.wrap (a+b))):=by simp [pbin,abin,aint,ofAV]
theorem zLm (k:IntKind) (ek:EqK) (a b:Int):pbin .sub ek (.int k a) (.int k b)=some (.int k (k.wrap (a-b))):=by simp [pbin,abin,aint,ofAV]
theorem zLq (k:IntKind) (ek:EqK) (a b:Int):pbin .mul ek (.int k a) (.int k b)=some (.int k (k.wrap (a*b))):=by simp [pbin,abin,aint,ofAV]
theorem zLv (k:IntKind) (ek:EqK) (a b:Int):pbin .eql ek (.int k a) (.int k b)=some (.bool (decide (a=b))):=by simp [pbin,abin,aint,ofAV]
theorem zLp (k:IntKind) (ek:EqK) (a b:Int):pbin .neq ek (.int k a) (.int k b)=some (.bool (!decide (a=b))):=by simp [pbin,abin,aint,ofAV]
theorem zLr (k:IntKind) (ek:EqK) (a b:Int):pbin .lss ek (.int k a) (.int k b)=some (.bool (decide (a<b))):=by simp [pbin,abin,aint,ofAV]
theorem zLs (k:IntKind) (ek:EqK) (a b:Int):pbin .leq ek (.int k a) (.int k b)=some (.bool (decide (a≤b))):=by simp [pbin,abin,aint,ofAV]
theorem zLt (k:IntKind) (ek:EqK) (a b:Int):pbin .gtr ek (.int k a) (.int k b)=some (.bool (decide (b<a))):=by simp [pbin,abin,aint,ofAV]
theorem zLu (k:IntKind) (ek:EqK) (a b:Int):pbin .geq ek (.int k a) (.int k b)=some (.bool (decide (b≤a))):=by simp [pbin,abin,aint,ofAV]
theorem zLo (k:IntKind) (ek:EqK) (a b:Int):pbin .quo ek (.int k a) (.int k b)=if b=0 then none else some (.int k (k.wrap (a.tdiv b))):=by simp only [pbin,abin,aint,if_true];split<;>rfl
theorem zLn (k:IntKind) (ek:EqK) (a b:Int):pbin .rem ek (.int k a) (.int k b)=if b=0 then none else some (.int k (a.tmod b)):=by simp only [pbin,abin,aint,if_true];split<;>rfl
theorem zIg (n:Nat) (xs ys:List PV):pbin .eql (.ints n) (.agg xs) (.agg ys)=if xs.length=n∧ys.length=n then(paggB xs ys).bind fun r=>some (.bool r)else none:=rfl
theorem zKH:paggB [] []=some true:=rfl
theorem zIh (k:IntKind) (a b:Int) (xs ys:List PV):paggB (.int k a::xs) (.int k b::ys)=(paggB xs ys).map fun r=>decide (a=b) && r:=by simp [paggB]
theorem zKG (a b:Bool):pbin .eql .bool (.bool a) (.bool b)=some (.bool (a == b)):=rfl
theorem zKF (a b:Bool):pbin .neq .bool (.bool a) (.bool b)=some (.bool !(a == b)):=rfl
theorem zIf (w w':Bool) (a:AV) (n n':Nat) (cs cs':List PV):pbin .eql .slice (.fz w a n cs) (.fz w' .nils n' cs')=some (.bool (ZN a)):=rfl
theorem zHC (w w':Bool) (a:AV) (n n':Nat) (cs cs':List PV):pbin .neq .slice (.fz w a n cs) (.fz w' .nils n' cs')=some (.bool (!ZN a)):=rfl
theorem zIe (s o n:Nat) (c:Cap) (w':Bool) (n':Nat) (cs':List PV):pbin .eql .slice (.sl s o n c) (.fz w' .nils n' cs')=some (.bool false):=rfl
theorem zHB (s o n:Nat) (c:Cap) (w':Bool) (n':Nat) (cs':List PV):pbin .neq .slice (.sl s o n c) (.fz w' .nils n' cs')=some (.bool true):=rfl
theorem zHA (ek:EqK) (a b:List UInt8):pbin .add ek (.str a) (.str b)=if a.length+b.length≤9223372036854775807 then some (.str (a++b))else none:=by simp only [pbin,astr];split<;>rfl
theorem zG9 (ek:EqK) (a b:List UInt8):pbin .eql ek (.str a) (.str b)=some (.bool (a == b)):=rfl
theorem zG8 (ek:EqK) (a b:List UInt8):pbin .neq ek (.str a) (.str b)=some (.bool !(a == b)):=rfl
theorem zHM:ZN .nils=true:=rfl
theorem zKe (o f n:Nat) (c:Cap):ZN (.sl o f n c)=false:=rfl
theorem zNS (k:IntKind) (n:Int):pun .neg (.int k n)=some (.int k (k.wrap (0-n))):=rfl
theorem zNR (b:Bool):pun .not (.bool b)=some (.bool !b):=rfl
theorem zIj (a b:PV):pPick (.bool true) a b=some a:=rfl
theorem zHE (a b:PV):pPick (.bool false) a b=some b:=rfl
theorem zKR (k k':IntKind) (n:Int):pConv k (.int k' n)=some (.int k (k.wrap n)):=rfl
theorem zLx (s i:Nat):pNil (.ptr s i)=some (.ptr s i):=rfl
theorem zLy (f:FuncId) (a b:List PV):pNil (.clo f a b)=some (.clo f a b):=rfl
theorem zNd (a:AV) (c:PV) (cs:List PV):pNil (.fp a (c::cs))=some (.fp a (c::cs)):=rfl
theorem zIl (n off:Nat) (cs:List PV):zB1 true n off (.agg cs)=some (.agg ((cs.drop off).take n)):=rfl
theorem zIk (n off:Nat) (cs:List PV):zB1 false n off (.agg cs)=cs[off]?:=rfl
theorem zES (off s i:Nat):QQ off (.ptr s i)=some (.ptr s (i+off)):=rfl
theorem zE7 (off:Nat) (a:AV) (c:PV) (cs:List PV):QQ off (.fp a (c::cs))=some (.fp (pAdd a off) ((c::cs).drop off)):=rfl
theorem zKP (sz s off len:Nat) (c:Cap) (k:IntKind) (n:Int):zBJ sz (.sl s off len c) (.int k n)=if 0≤n∧n<len then some (.ptr s (off+n.toNat*sz))else none:=rfl
theorem zKQ (sz:Nat) (w:Bool) (a:AV) (len:Nat) (cs:List PV) (k:IntKind) (n:Int):zBJ sz (.fz w a len cs) (.int k n)=if 0≤n∧n<len then some (.fp (pAt a (n.toNat*sz)) (cs.drop (n.toNat*sz)))else none:=rfl
theorem zHH (s:List UInt8) (k:IntKind) (n:Int):zCW (.str s) (.int k n)=if 0≤n then(s[n.toNat]?).map fun c=>.int .u8 c.toNat else none:=rfl
theorem zFz (vs:List PV) (i:Nat):zBX (.tup vs) i=vs[i]?:=rfl
theorem zNf (w:Bool) (a:AV) (n:Nat) (cs:List PV):pLen (.fz w a n cs)=some (.int .i64 n):=rfl
theorem zNe (s o n:Nat) (c:Cap):pLen (.sl s o n c)=some (.int .i64 n):=rfl
theorem zHG (s:List UInt8):zCV (.str s)=some (.int .i64 s.length):=rfl
theorem zKS (w:Bool) (l:Nat) (cs:List PV):pCap (.fz w .nils l cs)=some (.int .i64 0):=rfl
theorem zNg (s o n c:Nat):pCap (.sl s o n (.known c))=some (.int .i64 c):=rfl
theorem zHF (mx:Bool) (k:IntKind) (a b:Int):zBI mx (.int k a) (.int k b)=some (.int k (if mx=true then max a b else min a b)):=by simp [zBI]
theorem zJ7 (n s i:Nat):pldv false n (.ptr s i) h=h.rd1 s i:=rfl
theorem zJ6 (n s i:Nat):pldv true n (.ptr s i) h=(h.rd s i n).map .agg:=rfl
theorem zLi (n:Nat) (a:AV) (cs:List PV):pldv false n (.fp a cs) h=cs[0]?:=rfl
theorem zLh (n:Nat) (a:AV) (cs:List PV):pldv true n (.fp a cs) h=if 0<n∧n≤cs.length then some (.agg (cs.take n))else none:=rfl
theorem zJ5:h.news []=h:=rfl
theorem zIT (z:List AV) (zs:List (List AV)):h.news (z::zs)=(h.new (ofAVs z)).news zs:=rfl
theorem zJR (recs:List RecP):Zx [] recs h=True:=by
 apply propext;refine⟨fun _=>trivial,fun _=>?_⟩
 induction recs with
 | nil=>trivial
 | cons r rs ih=>exact⟨by simp,ih⟩
theorem zHb (c:List Nat):Zx c [] h=True:=rfl
theorem zHc (c:List Nat) (i:Nat) (a:Bool) (n:Nat) (x v:PV) (rs:List RecP):Zx c (⟨i,a,n,x,v⟩::rs) h=((if c.contains i=true then pldv a n x h=some v else True)∧Zx c rs h):=rfl
theorem zGq (d:Option Nat) (a:Bool) (n:Nat) (x:IX) (g:Option (Nat×Bool)) (i:Nat) (c:List Nat) (v:PV):qO ⟨⟨d,.load a n x,true,g⟩,i,c⟩ e v=if zAG g e=true then [⟨i,a,n,x.pv e,v⟩]else []:=rfl
theorem zJl (d:Option Nat) (x:IX) (g:Option (Nat×Bool)) (i:Nat) (c:List Nat) (v:PV):qO ⟨⟨d,(.mv x),true,g⟩,i,c⟩ e v=[]:=rfl
theorem zGp (d:Option Nat) (x y z:IX) (g:Option (Nat×Bool)) (i:Nat) (c:List Nat) (v:PV):qO ⟨⟨d,(.pick x y z),true,g⟩,i,c⟩ e v=[]:=rfl
theorem zIK (d:Option Nat) (op:BinOp) (ek:EqK) (x y:IX) (g:Option (Nat×Bool)) (i:Nat) (c:List Nat) (v:PV):qO ⟨⟨d,(.bin op ek x y),true,g⟩,i,c⟩ e v=[]:=rfl
theorem zGr (d:Option Nat) (op:BinOp) (x:IX) (g:Option (Nat×Bool)) (i:Nat) (c:List Nat) (v:PV):qO ⟨⟨d,(.errB op x),true,g⟩,i,c⟩ e v=[]:=rfl
theorem zJk (d:Option Nat) (op:UnOp) (x:IX) (g:Option (Nat×Bool)) (i:Nat) (c:List Nat) (v:PV):qO ⟨⟨d,(.un op x),true,g⟩,i,c⟩ e v=[]:=rfl
theorem zGs (d:Option Nat) (k:IntKind) (x:IX) (g:Option (Nat×Bool)) (i:Nat) (c:List Nat) (v:PV):qO ⟨⟨d,(.conv k x),true,g⟩,i,c⟩ e v=[]:=rfl
theorem zDk (d:Option Nat) (x:IX) (g:Option (Nat×Bool)) (i:Nat) (c:List Nat) (v:PV):qO ⟨⟨d,(.nilCheck x),true,g⟩,i,c⟩ e v=[]:=rfl
theorem zFe (d:Option Nat) (z:List AV) (ps:List (Nat×Nat×IX)) (g:Option (Nat×Bool)) (i:Nat) (c:List Nat) (v:PV):qO ⟨⟨d,(.build z ps),true,g⟩,i,c⟩ e v=[]:=rfl
theorem zFd (d:Option Nat) (a:Bool) (n off:Nat) (x:IX) (g:Option (Nat×Bool)) (i:Nat) (c:List Nat) (v:PV):qO ⟨⟨d,(.field a n off x),true,g⟩,i,c⟩ e v=[]:=rfl
theorem zDD (d:Option Nat) (off:Nat) (x:IX) (g:Option (Nat×Bool)) (i:Nat) (c:List Nat) (v:PV):qO ⟨⟨d,(.fieldAddr off x),true,g⟩,i,c⟩ e v=[]:=rfl
theorem zDC (d:Option Nat) (sz:Nat) (x y:IX) (g:Option (Nat×Bool)) (i:Nat) (c:List Nat) (v:PV):qO ⟨⟨d,(.indexAddr sz x y),true,g⟩,i,c⟩ e v=[]:=rfl
theorem zDm (d:Option Nat) (x y:IX) (g:Option (Nat×Bool)) (i:Nat) (c:List Nat) (v:PV):qO ⟨⟨d,(.indexStr x y),true,g⟩,i,c⟩ e v=[]:=rfl
theorem zEQ (d:Option Nat) (x:IX) (j:Nat) (g:Option (Nat×Bool)) (i:Nat) (c:List Nat) (v:PV):qO ⟨⟨d,(.extract x j),true,g⟩,i,c⟩ e v=[]:=rfl
theorem zII (d:Option Nat) (x:IX) (g:Option (Nat×Bool)) (i:Nat) (c:List Nat) (v:PV):qO ⟨⟨d,(.len x),true,g⟩,i,c⟩ e v=[]:=rfl
theorem zE3 (d:Option Nat) (x:IX) (g:Option (Nat×Bool)) (i:Nat) (c:List Nat) (v:PV):qO ⟨⟨d,(.lenStr x),true,g⟩,i,c⟩ e v=[]:=rfl
theorem zIJ (d:Option Nat) (x:IX) (g:Option (Nat×Bool)) (i:Nat) (c:List Nat) (v:PV):qO ⟨⟨d,(.cap x),true,g⟩,i,c⟩ e v=[]:=rfl
theorem zFc (d:Option Nat) (sz:Nat) (x:IX) (lo hi mx:Option IX) (g:Option (Nat×Bool)) (i:Nat) (c:List Nat) (v:PV):qO ⟨⟨d,(.slice sz x lo hi mx),true,g⟩,i,c⟩ e v=[]:=rfl
theorem zDj (d:Option Nat) (x:IX) (lo hi:Option IX) (g:Option (Nat×Bool)) (i:Nat) (c:List Nat) (v:PV):qO ⟨⟨d,(.sliceStr x lo hi),true,g⟩,i,c⟩ e v=[]:=rfl
theorem zE2 (d:Option Nat) (mx:Bool) (x y:IX) (g:Option (Nat×Bool)) (i:Nat) (c:List Nat) (v:PV):qO ⟨⟨d,(.maxmin mx x y),true,g⟩,i,c⟩ e v=[]:=rfl
theorem zDl (d:Option Nat) (f:FuncId) (y z:List IX) (g:Option (Nat×Bool)) (i:Nat) (c:List Nat) (v:PV):qO ⟨⟨d,(.makeFunc f y z),true,g⟩,i,c⟩ e v=[]:=rfl
theorem zIH (d:Option Nat) (j:Nat) (g:Option (Nat×Bool)) (i:Nat) (c:List Nat) (v:PV):qO ⟨⟨d,(.rev j),true,g⟩,i,c⟩ e v=[]:=rfl
theorem zGo (d:Option Nat) (j m:Nat) (g:Option (Nat×Bool)) (i:Nat) (c:List Nat) (v:PV):qO ⟨⟨d,(.revS j m),true,g⟩,i,c⟩ e v=[]:=rfl
theorem zFN:zAG none e=true:=rfl
theorem zFM (t:Nat) (b:Bool):zAG (some (t,b)) e=(match e t with | .bool c=>decide (c=b) | _=>false):=rfl
theorem zIF:ZI [] e h=some []:=rfl
theorem zIE (t:Nat) (r:List IRes):ZI (.tmp t::r) e h=(ZI r e h).map fun vs=>e t::vs:=rfl
theorem zGl (t:Nat) (a:Bool) (n:Nat) (r:List IRes):ZI (.cell t a n::r) e h=(pldv a n (e t) h).bind fun v=>(ZI r e h).map fun vs=>v::vs:=rfl
theorem zGn (res:List IRes):retP res KA .normal e h=optK (ZI res e h) fun vs=>KA (packP vs) h:=rfl
theorem zLI (res:List IRes):retP res KA .ret e h=optK (ZI res e h) fun vs=>KA (packP vs) h:=rfl
theorem zKM (v:PV):packP [v]=v:=rfl
theorem zKN:packP []=.tup []:=rfl
theorem zKL (u v:PV) (r:List PV):packP (u::v::r)=.tup (u::v::r):=rfl
theorem zKA (cs:List PV):pfill cs []=some cs:=rfl
theorem zIU (cs:List PV) (off size:Nat) (v:PV) (r:List (Nat×Nat×PV)):pfill cs ((off,size,v)::r)=if v.cells.length=size∧off+size≤cs.length∧v.cells.all PV.one=true then pfill (cs.take off++v.cells++cs.drop (off+size)) r else none:=rfl
theorem zIY (k:IntKind) (n:Int):PV.cells (.int k n)=[(.int k n)]:=rfl
theorem zLc (k:IntKind) (n:Int):PV.one (.int k n)=true:=rfl
theorem zG7 (b:Bool):PV.cells (.bool b)=[(.bool b)]:=rfl
theorem zJ1 (b:Bool):PV.one (.bool b)=true:=rfl
theorem zIW (s:List UInt8):PV.cells (.str s)=[(.str s)]:=rfl
theorem zLa (s:List UInt8):PV.one (.str s)=true:=rfl
theorem zG5:PV.cells .nilp=[.nilp]:=rfl
theorem zJz:PV.one .nilp=true:=rfl
theorem zG6:PV.cells .nilf=[.nilf]:=rfl
theorem zIZ (b:Bool):PV.cells (.err b)=[.err b]:=rfl
theorem zJ0:PV.one .nilf=true:=rfl
theorem zLd (b:Bool):PV.one (.err b)=true:=rfl
theorem zKC (w:Bool) (a:AV) (n:Nat) (cs:List PV):PV.cells (.fz w a n cs)=[(.fz w a n cs)]:=rfl
theorem zNX (w:Bool) (a:AV) (n:Nat) (cs:List PV):PV.one (.fz w a n cs)=true:=rfl
theorem zKD (a:AV) (cs:List PV):PV.cells (.fp a cs)=[(.fp a cs)]:=rfl
theorem zNY (a:AV) (cs:List PV):PV.one (.fp a cs)=true:=rfl
theorem zIX (s i:Nat):PV.cells (.ptr s i)=[(.ptr s i)]:=rfl
theorem zLb (s i:Nat):PV.one (.ptr s i)=true:=rfl
theorem zKB (s o n:Nat) (c:Cap):PV.cells (.sl s o n c)=[(.sl s o n c)]:=rfl
theorem zNW (s o n:Nat) (c:Cap):PV.one (.sl s o n c)=true:=rfl
theorem zIa (f:FuncId) (a b:List PV):PV.cells (.clo f a b)=[(.clo f a b)]:=rfl
theorem zLe (f:FuncId) (a b:List PV):PV.one (.clo f a b)=true:=rfl
theorem zIb (cs:List PV):PV.cells (.agg cs)=cs:=rfl
theorem zIc (k:IntKind) (i:Int) (y:Nat):Z8 (.int k i) y=if 0≤i∧i≤y then some i.toNat else none:=rfl
theorem zFq (x:PV) (d y:Nat):qP (some x) d y=Z8 x y:=rfl
theorem zFr (d y:Nat):qP none d y=some d:=rfl
theorem zJu (sz:Nat) (w:Bool) (a:AV) (len:Nat) (cs:List PV) (lo hi:Option PV):zAV sz (.fz w a len cs) lo hi none=(qP hi len len).bind fun h=>(qP lo 0 h).bind fun l=>some (.fz false (pslA sz a l h) (h-l) ((cs.drop (l*sz)).take ((h-l)*sz))):=rfl
theorem zFn (sz s off len c:Nat) (lo hi mx:Option PV):zAV sz (.sl s off len (.known c)) lo hi mx=(qP mx c c).bind fun m=>(qP hi len m).bind fun h=>(qP lo 0 h).bind fun l=>if hi.isNone=true∧mx.isSome=true then none else some (.sl s (if m=l then off else off+l*sz) (h-l) (.known (m-l))):=rfl
theorem zFo (sz s off len g:Nat) (lo hi:Option PV):zAV sz (.sl s off len (.grown g)) lo hi none=(qP hi len len).bind fun h=>(qP lo 0 h).bind fun l=>some (.sl s (off+l*sz) (h-l) (.grown (if g=sz then g else 0))):=rfl
theorem zE4 (s:List UInt8) (lo hi:Option PV):zAr (.str s) lo hi=(qP hi s.length s.length).bind fun h=>(qP lo 0 h).bind fun l=>some (.str ((s.take h).drop l)):=rfl
theorem zNb (w:Bool) (a:AV) (n:Nat) (cs:List PV):plen (.fz w a n cs)=some n:=rfl
theorem zHr (s o n:Nat) (c:Cap):plen (.sl s o n c)=some n:=rfl
theorem zBW (sz bytes:Nat) (s x:PV):qd sz bytes h s x=(plen x).bind fun m=>if m=0 then(psame s).map fun v=>(v,h)else(Zr sz h x m).bind fun news=>pgrow sz bytes h s news m:=rfl
theorem zG1 (s o n c:Nat):psame (.sl s o n (.known c))=if n≤c then some (.sl s o n (.known c))else none:=rfl
theorem zJ9 (sz:Nat) (w:Bool) (a:AV) (len:Nat) (cs:List PV) (n:Nat):Zr sz h (.fz w a len cs) n=if n=0 then some []else if n≤len∧n*sz≤cs.length∧0<sz then some (cs.take (n*sz))else none:=rfl
theorem Qr (sz s off len:Nat) (c:Cap) (n:Nat):Zr sz h (.sl s off len c) n=if n=0 then some []else if n≤len then h.rd s off (n*sz)else none:=rfl
theorem zDo (sz bytes:Nat) (w:Bool) (n:Nat) (cs news:List PV) (m:Nat):pgrow sz bytes h (.fz w .nils n cs) news m=if m*bytes≤140737488355328∧m≤4611686018427387904 then some (.sl h.next 0 m (.grown sz),h.new news)else none:=rfl
theorem zCt (sz bytes s off len c:Nat) (news:List PV) (m:Nat):pgrow sz bytes h (.sl s off len (.known c)) news m=if len+m≤c then(h.wr s (off+len*sz) news).map fun σ'=>(.sl s off (len+m) (.known c),σ')else if (len+m)*bytes≤140737488355328∧len+m≤4611686018427387904 then(h.rd s off (len*sz)).map fun old=>(.sl h.next 0 (len+m) (.grown sz),h.new (old++news))else none:=rfl
theorem zCu (sz bytes s off len g:Nat) (news:List PV) (m:Nat):pgrow sz bytes h (.sl s off len (.grown g)) news m=if (len+m)*bytes≤140737488355328∧len+m≤4611686018427387904∧g=sz then(h.obj s).bind fun cs=>if off+len*sz≤cs.length then some (.sl h.next 0 (len+m) (.grown sz),(h.kill s).new ((cs.drop off).take (len*sz)++news))else none else none:=rfl
theorem zLZ (cs:List PV) (s i:Nat):(h.new cs).rd1 s i=if s=h.next then cs[i]? else h.rd1 s i:=by by_cases x:s=h.next<;>simp [PHeap.rd1,PHeap.new,x]
theorem zBF (cs:List PV) (s i n:Nat):(h.new cs).rd s i n=if s=h.next then(if i+n≤cs.length then some ((cs.drop i).take n)else none)else h.rd s i n:=by by_cases x:s=h.next<;>simp [PHeap.rd,PHeap.new,x]
theorem zT (cs:List PV) (s:Nat):(h.new cs).obj s=if s=h.next then some cs else h.obj s:=rfl
theorem zNQ (cs:List PV) (s i:Nat) (vs:List PV):(h.new cs).wr s i vs=if s=h.next then(if i+vs.length≤cs.length∧vs.all PV.one=true then some (h.new (cs.take i++vs++cs.drop (i+vs.length)))else none)else(h.wr s i vs).map fun h'=>h'.new cs:=by
 by_cases x:s=h.next
 ·subst x
  simp only [PHeap.wr,PHeap.new,if_true,Option.bind_some]
  split
  ·congr 1
   simp only [PHeap.set]
   congr 1
   funext y
   by_cases hy:y=h.next<;>simp [hy]
  ·rfl
 ·simp only [PHeap.wr,PHeap.new,if_neg x]
  cases ho:h.obj s with
  | none=>rfl
  | some ob=>
   simp only [Option.bind_some]
   split
   ·simp only [Option.map_some,PHeap.set]
    congr 2
    funext y
    by_cases hy:y=s
    ·subst hy;simp [x]
    ·simp [hy]
   ·rfl
theorem zJ4 (cs:List PV):(h.new cs).next=h.next+1:=rfl
theorem zFk (cs:List PV):(h.new cs).top=h.top:=rfl
theorem zLV (cs:List PV) (s:Nat) (ds:List PV):(h.new cs).set s ds=if s=h.next then h.new ds else(h.set s ds).new cs:=by
 by_cases x:s=h.next
 ·subst x
  rw [if_pos rfl];simp only [PHeap.set,PHeap.new]
  congr 1
  funext y
  by_cases hy:y=h.next<;>simp [hy]
 ·rw [if_neg x]
  simp only [PHeap.set,PHeap.new]
  congr 1
  funext y
  by_cases hy:y=s
  ·subst hy;simp [x]
  ·simp [hy]
theorem zLU (s:Nat) (cs ds:List PV):(h.set s cs).set s ds=h.set s ds:=by
 simp only [PHeap.set]
 congr 1
 funext y
 by_cases hy:y=s<;>simp [hy]
theorem zJ3 (s:Nat) (cs:List PV):(h.set s cs).next=h.next:=rfl
theorem zIS (s:Nat):(h.kill s).next=h.next:=rfl
theorem zLf (t:Nat):(h.up t).next=h.next:=rfl
theorem zHn (t:Nat):(h.up t).top=t:=rfl
theorem zNa (t:Nat) (cs:List PV):(h.up t).new cs=(h.new cs).up t:=rfl
theorem zNU (t s i:Nat):(h.up t).rd1 s i=h.rd1 s i:=rfl
theorem zOk (t s i n:Nat):(h.up t).rd s i n=h.rd s i n:=rfl
theorem zNZ (t s:Nat):(h.up t).obj s=h.obj s:=rfl
theorem zOj (t s i:Nat) (vs:List PV):(h.up t).wr s i vs=(h.wr s i vs).map fun h'=>h'.up t:=by
 simp only [PHeap.wr,PHeap.up];cases h.obj s with
 | none=>rfl
 | some cs=>simp only [Option.bind_some];split<;>rfl
theorem zJ2 (s t:Nat):(h.kill s).obj t=if t=s then none else h.obj t:=rfl
theorem zg (s:Nat) (cs:List PV) (t:Nat):(h.set s cs).obj t=if t=s then some cs else h.obj t:=rfl
theorem zJw (s t i:Nat):(h.kill s).rd1 t i=if t=s then none else h.rd1 t i:=by by_cases x:t=s<;>simp [PHeap.rd1,PHeap.kill,x]
theorem zLX (s t i n:Nat):(h.kill s).rd t i n=if t=s then none else h.rd t i n:=by by_cases x:t=s<;>simp [PHeap.rd,PHeap.kill,x]
theorem zLY (s:Nat) (cs:List PV) (t i:Nat):(h.set s cs).rd1 t i=if t=s then cs[i]? else h.rd1 t i:=by by_cases x:t=s<;>simp [PHeap.rd1,PHeap.set,x]
theorem ZG (s:Nat) (cs:List PV) (t i n:Nat):(h.set s cs).rd t i n=if t=s then(if i+n≤cs.length then some ((cs.drop i).take n)else none)else h.rd t i n:=by by_cases x:t=s<;>simp [PHeap.rd,PHeap.set,x]
theorem zNP (s:Nat) (cs:List PV) (i:Nat) (vs:List PV):(h.set s cs).wr s i vs=if i+vs.length≤cs.length∧vs.all PV.one=true then some (h.set s (cs.take i++vs++cs.drop (i+vs.length)))else none:=by
 simp only [PHeap.wr,PHeap.set,if_true,Option.bind_some]
 split
 ·congr 2
  funext y
  by_cases hy:y=s<;>simp [hy]
 ·rfl
end
def pw0:=And.intro @zMw <| And.intro @zJV <| And.intro @zMy <| And.intro @zOE <| And.intro @zMz <| And.intro @zK6 <| And.intro @zMx <| And.intro @zOF <| And.intro @zN9 <| And.intro @RVp_q <| And.intro @RVp_e <| And.intro @zOB <| And.intro @DVp_q <| And.intro @DVp_e <| And.intro @zME <| And.intro @zMD <| And.intro @zMG <| And.intro @zMF <| And.intro @zG3 <| And.intro @zFx <| And.intro @zIV <| And.intro @zG4 <| And.intro @zFw <| And.intro @zFu <| And.intro @zFt <| And.intro @zFv <| And.intro @pv_t <| And.intro @pv_c <| And.intro @zLg <| @zJx
def pw1:=And.intro @zJy <| And.intro @qp_mv <| And.intro @zNL <| And.intro @zOi <| And.intro @zNN <| And.intro @zLz <| And.intro @zL0 <| And.intro @qp_un <| And.intro @zNO <| And.intro @zGy <| And.intro @zLR <| And.intro @zLQ <| And.intro @zFj <| And.intro @zFi <| And.intro @zG0 <| And.intro @zIO <| And.intro @zOg <| And.intro @zJq <| And.intro @zOh <| And.intro @zLP <| And.intro @zGx <| And.intro @zJp <| And.intro @zGz <| And.intro @zNM <| And.intro @zOf <| And.intro @zNK <| And.intro @zMR <| And.intro @zOw <| And.intro @zI5 <| And.intro @zMP <| And.intro @zIi <| And.intro @zKm <| And.intro @zHT <| @zHI
def pw2:=And.intro @zKO <| And.intro @zKn <| And.intro @zNy <| And.intro @zNz <| And.intro @zMQ <| And.intro @zIn <| And.intro @zOo <| And.intro @zL6 <| And.intro @of_bool <| And.intro @of_int <| And.intro @zOn <| And.intro @zNm <| And.intro @zNn <| And.intro @zNl <| And.intro @zOp <| And.intro @zOq <| And.intro @zNk <| And.intro @zL5 <| And.intro @zNj <| And.intro @zLw <| And.intro @zLm <| And.intro @zLq <| And.intro @zLv <| And.intro @zLp <| And.intro @zLr <| And.intro @zLs <| And.intro @zLt <| And.intro @zLu <| And.intro @zLo <| And.intro @zLn <| @zIg
def pw3:=And.intro @zKH <| And.intro @zIh <| And.intro @zKG <| And.intro @zKF <| And.intro @zIf <| And.intro @zHC <| And.intro @zIe <| And.intro @zHB <| And.intro @zHA <| And.intro @zG9 <| And.intro @zG8 <| And.intro @zHM <| And.intro @zKe <| And.intro @zNS <| And.intro @zNR <| And.intro @zIj <| And.intro @zHE <| And.intro @zKR <| And.intro @zLx <| And.intro @zLy <| And.intro @zNd <| And.intro @zIl <| And.intro @zIk <| And.intro @zES <| And.intro @zE7 <| And.intro @zKP <| And.intro @zKQ <| And.intro @zHH <| And.intro @zFz <| @zNf
def pw4:=And.intro @zNe <| And.intro @zHG <| And.intro @zKS <| And.intro @zNg <| And.intro @zHF <| And.intro @zJ7 <| And.intro @zJ6 <| And.intro @zLi <| And.intro @zLh <| And.intro @zJ5 <| And.intro @zIT <| And.intro @zJR <| And.intro @zHb <| And.intro @zHc <| And.intro @zGq <| And.intro @zJl <| And.intro @zGp <| And.intro @zIK <| And.intro @zJk <| And.intro @zGs <| And.intro @zDk <| And.intro @zFe <| And.intro @zFd <| And.intro @zDD <| And.intro @zDC <| And.intro @zDm <| And.intro @zEQ <| And.intro @zII <| And.intro @zE3 <| @zIJ
def pw5:=And.intro @zFc <| And.intro @zDj <| And.intro @zGr <| And.intro @zE2 <| And.intro @zDl <| And.intro @zIH <| And.intro @zGo <| And.intro @zFN <| And.intro @zFM <| And.intro @zIF <| And.intro @zIE <| And.intro @zGl <| And.intro @zGn <| And.intro @zLI <| And.intro @zKM <| And.intro @zKN <| And.intro @zKL <| And.intro @zKA <| And.intro @zIU <| And.intro @zIY <| And.intro @zLc <| And.intro @zG7 <| And.intro @zJ1 <| And.intro @zIW <| And.intro @zLa <| And.intro @zG5 <| And.intro @zJz <| And.intro @zG6 <| And.intro @zJ0 <| And.intro @zKC <| And.intro @zNX <| @zKD
def pw6:=And.intro @zIZ <| And.intro @zLd <| And.intro @zNY <| And.intro @zIX <| And.intro @zLb <| And.intro @zKB <| And.intro @zNW <| And.intro @zIa <| And.intro @zLe <| And.intro @zIb <| And.intro @zIc <| And.intro @zFq <| And.intro @zFr <| And.intro @zJu <| And.intro @zFn <| And.intro @zFo <| And.intro @zE4 <| And.intro @zNb <| And.intro @zHr <| And.intro @zLZ <| And.intro @zBF <| And.intro @zT <| And.intro @zNQ <| And.intro @zJ4 <| And.intro @zFk <| And.intro @zLV <| And.intro @zLU <| And.intro @zJ3 <| And.intro @zIS <| And.intro @zLf <| And.intro @zHn <| @zNa
def pw7:=And.intro @zNU <| And.intro @zOk <| And.intro @zNZ <| And.intro @zOj <| And.intro @zJ2 <| And.intro @zg <| And.intro @zJw <| And.intro @zLX <| And.intro @zLY <| And.intro @ZG <| And.intro @zNP <| And.intro @zI <| And.intro @zJ <| And.intro @zV <| And.intro @zh <| And.intro @List.map_cons.{0,0} <| And.intro @List.map_nil.{0,0} <| And.intro @List.length_cons.{0} <| And.intro @List.length_nil.{0} <| And.intro @List.getElem?_cons_zero.{0} <| And.intro @List.getElem?_cons_succ.{0} <| And.intro @List.take_succ_cons.{0} <| And.intro @List.take_zero.{0} <| And.intro @List.drop_succ_cons.{0} <| And.intro @List.drop_zero.{0} <| And.intro @List.take_nil.{0} <| And.intro @List.drop_nil.{0} <| And.intro @List.nil_append.{0} <| And.intro @List.cons_append.{0} <| @List.append_nil.{0}
def pw8:=And.intro @List.all_cons.{0} <| And.intro @List.all_nil.{0} <| And.intro @List.contains_cons.{0} <| And.intro @List.contains_nil.{0} <| And.intro @Option.map_some.{0,0} <| And.intro @Option.map_none.{0,0} <| And.intro @Option.bind_some.{0,0} <| And.intro @Option.bind_none.{0,0} <| And.intro @decide_true <| And.intro @decide_false <| And.intro @Bool.not_true <| And.intro @Bool.not_false <| And.intro @Bool.and_true <| And.intro @Bool.true_and <| And.intro @Bool.and_self <| And.intro @Bool.or_false <| And.intro @Bool.or_true <| And.intro @Bool.true_or <| And.intro @Bool.false_or <| And.intro @true_and <| And.intro @and_true <| And.intro @Bool.true_eq_false <| And.intro @Bool.false_eq_true <| And.intro @Nat.left_eq_add <| And.intro @Nat.add_eq_left <| And.intro @Nat.succ_ne_self <| And.intro @Nat.one_ne_zero <| And.intro @Nat.add_left_cancel_iff <| And.intro @Nat.add_assoc <| @Nat.mul_one
def pw9:=And.intro @Nat.zero_add <| And.intro @Nat.add_zero <| And.intro @Nat.le_refl <| And.intro @Nat.lt_add_one <| And.intro @Int.toNat_natCast <| And.intro @Int.natCast_nonneg <| And.intro @Int.ofNat_lt <| And.intro @Int.le_refl <| And.intro @zG <| And.intro @zH <| And.intro @zC <| And.intro @Nat.one_mul <| @Nat.zero_mul
def pwA:=And.intro pw0 <| And.intro pw1 <| And.intro pw2 <| And.intro pw3 <| And.intro pw4 <| And.intro pw5 <| And.intro pw6 <| And.intro pw7 <| And.intro pw8 <| And.intro pw9 <| And.intro @nm_eq <| And.intro @eq_self.{1} <| And.intro @Int.ofNat_le @List.getElem?_drop.{0}
end Go.Ab
