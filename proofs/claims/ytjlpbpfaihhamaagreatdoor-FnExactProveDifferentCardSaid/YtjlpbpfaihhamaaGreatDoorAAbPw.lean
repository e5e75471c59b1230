/- THE RULES BY WHICH CODE IS WALKED over values without a heap: equations, and the one name 'pw' for all of them. Written by a program. -/
import Derived.Test.YtjlpbpfaihhamaaGreatDoorAAbPg
import Derived.Test.YtjlpbpfaihhamaaGreatDoorAAbAid
set_option linter.unusedVariables false
set_option linter.unusedSimpArgs false
set_option linter.defProp false
namespace Go.Ab
section
variable {P:Program} {Q:Exit→PEnv→PHeap→Prop} {e:PEnv} {h:PHeap} {K:PEnv→PHeap→Prop} {KA:PV→PHeap→Prop} {nb nr:Nat}
theorem zNb:vp P .skip Q e h=Q .normal e h:=rfl
theorem zKB (S:List Nat) (its:List II):vp P (.region S its) Q e h=RVp P its e h fun e' h'=>Q .normal (PEnv.mk S (S.map e')) h':=rfl
theorem zIW (S:List Nat) (t:OT):vp P (.tree S t) Q e h=TVp P t [] e h fun e' h'=>Q .normal (PEnv.mk S (S.map e')) h':=rfl
theorem zHQ (recs:List RecP):TVp P .done recs e h K=K e h:=rfl
theorem zHP (recs:List RecP):TVp P .none recs e h K=True:=rfl
theorem TVp_q (d:Option Nat) (op:IOp) (g:Option (Nat×Bool)) (q:Bool) (i:Nat) (c:List Nat) (nx:OT) (recs:List RecP):TVp P (.q ⟨⟨d,op,q,g⟩,i,c⟩ nx) recs e h K=optK (gqp 0 0 ⟨d,op,q,g⟩ e h) fun v=>TVp P nx (zg ⟨⟨d,op,q,g⟩,i,c⟩ e v++recs) (e.put d v) h K:=rfl
theorem TVp_e (d:Option Nat) (op:IOp) (g:Option (Nat×Bool)) (q:Bool) (i:Nat) (c:List Nat) (nx alt:OT) (recs:List RecP):TVp P (.e ⟨⟨d,op,q,g⟩,i,c⟩ nx alt) recs e h K=((gep P ⟨d,op,q,g⟩ e h fun v h'=>qb c recs h'∧TVp P nx recs (e.put d v) h' K)∧TVp P alt recs e h K):=rfl
theorem zNd (S:List Nat) (zs:List (List AV)) (its:List DI):vp P (.draw S zs its) Q e h=DVp P h.next zs.length its [] e (h.news zs) fun e' h'=>Q .normal (PEnv.mk S (S.map e')) h':=rfl
theorem zOz (a b:IC):vp P (.seq a b) Q e h=vp P a (fun x e' h'=>match x with | .normal=>vp P b Q e' h' | x=>Q x e' h') e h:=rfl
theorem zNe (c:IX) (a b:IC):vp P (.cond c a b) Q e h=ZW (c.pv e) (vp P a Q e h) (vp P b Q e h):=rfl
theorem zLm (id:Nat) (c:IC):vp P (.block id c) Q e h=vp P c (fun x e' h'=>match x with | .exit id'=>if id'=id then Q .normal e' h' else Q (.exit id') e' h' | x=>Q x e' h') e h:=rfl
theorem zNc (id:Nat):vp P (.exit id) Q e h=Q (.exit id) e h:=rfl
theorem zO0:vp P .ret Q e h=Q .ret e h:=rfl
theorem zOr:RVp P [] e h K=K e h:=rfl
theorem RVp_q (d:Option Nat) (op:IOp) (g:Option (Nat×Bool)) (r:List II):RVp P (⟨d,op,true,g⟩::r) e h K=optK (gqp 0 0 ⟨d,op,true,g⟩ e h) fun v=>RVp P r (e.put d v) h K:=rfl
theorem RVp_e (d:Option Nat) (op:IOp) (g:Option (Nat×Bool)) (r:List II):RVp P (⟨d,op,false,g⟩::r) e h K=gep P ⟨d,op,false,g⟩ e h fun v h'=>RVp P r (e.put d v) h' K:=rfl
theorem zOv (recs:List RecP):DVp P nb nr [] recs e h K=K e h:=rfl
theorem DVp_q (d:Option Nat) (op:IOp) (g:Option (Nat×Bool)) (i:Nat) (c:List Nat) (r:List DI) (recs:List RecP):DVp P nb nr (⟨⟨d,op,true,g⟩,i,c⟩::r) recs e h K=optK (gqp nb nr ⟨d,op,true,g⟩ e h) fun v=>DVp P nb nr r (zg ⟨⟨d,op,true,g⟩,i,c⟩ e v++recs) (e.put d v) h K:=rfl
theorem DVp_e (d:Option Nat) (op:IOp) (g:Option (Nat×Bool)) (i:Nat) (c:List Nat) (r:List DI) (recs:List RecP):DVp P nb nr (⟨⟨d,op,false,g⟩,i,c⟩::r) recs e h K=gep P ⟨d,op,false,g⟩ e h fun v h'=>qb c recs h'∧DVp P nb nr r recs (e.put d v) h' K:=rfl
theorem zMu (d:Option Nat) (op:IOp) (q:Bool):gqp nb nr ⟨d,op,q,none⟩ e h=qp nb nr op e h:=rfl
theorem zMt (d:Option Nat) (op:IOp) (q:Bool) (t:Nat) (b:Bool):gqp nb nr ⟨d,op,q,some (t,b)⟩ e h=QU (e t) b (qp nb nr op e h):=rfl
theorem zMw (d:Option Nat) (op:IOp) (q:Bool):gep P ⟨d,op,q,none⟩ e h KA=ep P op e h KA:=rfl
theorem zMv (d:Option Nat) (op:IOp) (q:Bool) (t:Nat) (b:Bool):gep P ⟨d,op,q,some (t,b)⟩ e h KA=ZN (e t) b (ep P op e h KA) (KA (.tup []) h):=rfl
theorem zHo (a b:Prop):ZW (.bool true) a b=a:=rfl
theorem zGa (a b:Prop):ZW (.bool false) a b=b:=rfl
theorem zJF (c:Prop) [Decidable c] (a b:Prop):ZW (.bool (decide c)) a b=if c then a else b:=by by_cases x:c<;>simp [ZW,x]
theorem zHp (c:Prop) [Decidable c] (a b:Prop):ZW (.bool (!decide c)) a b=if c then b else a:=by by_cases x:c<;>simp [ZW,x]
theorem zGY (c b:Bool) (x y:Prop):ZN (.bool c) b x y=if c=b then x else y:=rfl
theorem zGW (c b:Bool) (x:Option PV):QU (.bool c) b x=if c=b then x else some (.tup []):=rfl
theorem zGV (b:Bool) (x:Option PV):QU (.tup []) b x=some (.tup []):=rfl
theorem zGX (b:Bool) (x y:Prop):ZN (.tup []) b x y=y:=rfl
theorem pv_t (n:Nat):(IX.t n).pv e=e n:=rfl
theorem pv_c (v:AV):(IX.c v).pv e=ofAV v:=rfl
theorem zMO (s:Nat) (S:List Nat) (v:PV) (vs:List PV) (t:Nat):PEnv.mk (s::S) (v::vs) t=if t=s then v else PEnv.mk S vs t:=rfl
theorem zKY (d:Nat) (v:PV) (t:Nat):e.put (some d) v t=if t=d then v else e t:=rfl
theorem zKZ (v:PV):e.put none v=e:=rfl
theorem qp_mv (x:IX):qp nb nr (.mv x) e h=some (x.pv e):=rfl
theorem zN0 (c a b:IX):qp nb nr (.pick c a b) e h=pPick (c.pv e) (a.pv e) (b.pv e):=rfl
theorem zPO (op:BinOp) (ek:EqK) (x y:IX):qp nb nr (.bin op ek x y) e h=pbin op ek (x.pv e) (y.pv e):=rfl
theorem zN2 (op:BinOp) (x:IX):qp nb nr (.errB op x) e h=pErr op (x.pv e):=rfl
theorem zMh (b:Bool):pErr .neq (.err b)=some (.bool !b):=rfl
theorem zMi (b:Bool):pErr .eql (.err b)=some (.bool b):=rfl
theorem qp_un (op:UnOp) (x:IX):qp nb nr (.un op x) e h=pun op (x.pv e):=rfl
theorem zN3 (k:IntKind) (x:IX):qp nb nr (.conv k x) e h=pConv k (x.pv e):=rfl
theorem zHi (x:IX):qp nb nr (.nilCheck x) e h=pNil (x.pv e):=rfl
theorem zL9 (z:List AV) (ps:List (Nat×Nat×IX)):qp nb nr (.build z ps) e h=(pfill (ofAVs z) (ps.map fun p=>(p.1,p.2.1,p.2.2.pv e))).map .agg:=rfl
theorem zL8 (a:Bool) (n off:Nat) (x:IX):qp nb nr (.field a n off x) e h=zCU a n off (x.pv e):=rfl
theorem zGN (off:Nat) (x:IX):qp nb nr (.fieldAddr off x) e h=Qh off (x.pv e):=rfl
theorem zGM (sz:Nat) (x i:IX):qp nb nr (.indexAddr sz x i) e h=zBX sz (x.pv e) (i.pv e):=rfl
theorem zHk (x i:IX):qp nb nr (.indexStr x i) e h=zCz (x.pv e) (i.pv e):=rfl
theorem zI8 (x:IX) (i:Nat):qp nb nr (.extract x i) e h=zBr (x.pv e) i:=rfl
theorem zPM (x:IX):qp nb nr (.len x) e h=pLen (x.pv e):=rfl
theorem zKT (x:IX):qp nb nr (.lenStr x) e h=zCy (x.pv e):=rfl
theorem zPN (x:IX):qp nb nr (.cap x) e h=pCap (x.pv e):=rfl
theorem zL7 (sz:Nat) (x:IX) (lo hi mx:Option IX):qp nb nr (.slice sz x lo hi mx) e h=zAD sz (x.pv e) (lo.map (·.pv e)) (hi.map (·.pv e)) (mx.map (·.pv e)):=rfl
theorem zHh (x:IX) (lo hi:Option IX):qp nb nr (.sliceStr x lo hi) e h=zBE (x.pv e) (lo.map (·.pv e)) (hi.map (·.pv e)):=rfl
theorem zKS (mx:Bool) (x y:IX):qp nb nr (.maxmin mx x y) e h=zBW mx (x.pv e) (y.pv e):=rfl
theorem zHj (f:FuncId) (a b:List IX):qp nb nr (.makeFunc f a b) e h=some (.clo f (a.map (·.pv e)) (b.map (·.pv e))):=rfl
theorem zN1 (a:Bool) (n:Nat) (x:IX):qp nb nr (.load a n x) e h=pldv a n (x.pv e) h:=rfl
theorem zPL (k:Nat):qp nb nr (.rev k) e h=if k<nr then some (.ptr (nb+k) 0)else none:=rfl
theorem zNz (k n:Nat):qp nb nr (.revS k n) e h=if k<nr then some (.sl (nb+k) 0 n (.known n))else none:=rfl
theorem zM6 (z:List AV):ep P (.alloc z) e h KA=KA (.ptr h.next 0) (h.new (ofAVs z)):=rfl
theorem zPd (x:IX):ep P (.box x) e h KA=((x.pv e).cells.all PV.one=true∧KA (.ptr h.next 0) (h.new (x.pv e).cells)):=rfl
theorem zJl (sz len:Nat) (z:List AV) (ps:List (Nat×Nat×IX)):ep P (.buildSl sz len z ps) e h KA=optK (pfill (ofAVs (zeros z len)) (ps.map fun p=>(p.1,p.2.1,p.2.2.pv e))) fun cs=>KA (.sl h.next 0 len (.known len)) (h.new cs):=rfl
def zER (n:Nat) (x v:PV) (h:PHeap) (KA:PV→PHeap→Prop):Prop:=
 match x with
 | .ptr s i=>v.cells.length=n∧optK (h.wr s i v.cells) fun h'=>KA .undef h'
 | _=>False
def pMake (sz bytes:Nat) (z:List AV) (l c:PV) (h:PHeap) (KA:PV→PHeap→Prop):Prop:=
 match l,c with
 | .int _ l,.int _ c=>(0≤l∧l≤c∧c*bytes≤140737488355328∧c≤9223372036854775807)∧KA (.sl h.next 0 l.toNat (.known c.toNat)) (h.new (ofAVs (zeros z c.toNat)))
 | _,_=>False
def zET (sz bytes:Nat) (z:List AV) (s n:PV) (h:PHeap) (KA:PV→PHeap→Prop):Prop:=
 match s,n with
 | .fz _ .nils _ _,.int _ n=>(0≤n∧n*bytes≤140737488355328∧n≤4611686018427387904)∧if 0<n then KA (.sl h.next 0 n.toNat (.grown sz)) (h.new (ofAVs (zeros z n.toNat)))else KA (.fz true .nils 0 []) h
 | .sl s off len c,.int _ n=>(0≤n∧n*bytes≤140737488355328∧n≤4611686018427387904)∧optK (if 0<n then pgrow sz bytes h (.sl s off len c) (ofAVs (zeros z n.toNat)) n.toNat else(psame (.sl s off len c)).map fun v=>(v,h)) fun p=>KA p.1 p.2
 | _,_=>False
def zES (P:Program) (f:PV) (args:List PV) (h:PHeap) (KA:PV→PHeap→Prop):Prop:=
 match f with
 | .clo f first caps=>okF P f=true∧zA P f (first++args++caps) h KA
 | _=>False
theorem zM4 (n:Nat) (x v:IX):ep P (.store n x v) e h KA=zER n (x.pv e) (v.pv e) h KA:=rfl
theorem zJR (n s i:Nat) (v:PV):zER n (.ptr s i) v h KA=(v.cells.length=n∧optK (h.wr s i v.cells) fun h'=>KA .undef h'):=rfl
theorem zLO (sz bytes:Nat) (z:List AV) (l c:IX):ep P (.makeSl sz bytes z l c) e h KA=pMake sz bytes z (l.pv e) (c.pv e) h KA:=rfl
theorem zIJ (sz bytes:Nat) (z:List AV) (s n:IX):ep P (.appendMk sz bytes z s n) e h KA=zET sz bytes z (s.pv e) (n.pv e) h KA:=rfl
theorem zH3 (sz bytes:Nat) (z:List AV) (w:Bool) (l:Nat) (cs:List PV) (k:IntKind) (n:Int):zET sz bytes z (.fz w .nils l cs) (.int k n) h KA=((0≤n∧n*bytes≤140737488355328∧n≤4611686018427387904)∧if 0<n then KA (.sl h.next 0 n.toNat (.grown sz)) (h.new (ofAVs (zeros z n.toNat)))else KA (.fz true .nils 0 []) h):=rfl
theorem zKy (sz bytes:Nat) (z:List AV) (k k':IntKind) (l c:Int):pMake sz bytes z (.int k l) (.int k' c) h KA=((0≤l∧l≤c∧c*bytes≤140737488355328∧c≤9223372036854775807)∧KA (.sl h.next 0 l.toNat (.known c.toNat)) (h.new (ofAVs (zeros z c.toNat)))):=rfl
theorem zLP (sz bytes:Nat) (s x:IX):ep P (.append sz bytes s x) e h KA=optK (ql sz bytes h (s.pv e) (x.pv e)) fun p=>KA p.1 p.2:=rfl
theorem zOd (sz:Nat) (d s:IX):ep P (.copy sz d s) e h KA=optK (pcopy sz h (d.pv e) (s.pv e)) fun p=>KA p.1 p.2:=rfl
theorem zOe (f:FuncId) (args:List IX):ep P (.call f args) e h KA=zA P f (args.map (·.pv e)) h KA:=rfl
theorem Q8 (x:IX):ep P (.strOf x) e h KA=optK (Qg h (x.pv e)) fun s=>KA (.str s) h:=rfl
theorem zM5 (f:IX) (args:List IX):ep P (.callV f args) e h KA=zES P (f.pv e) (args.map (·.pv e)) h KA:=rfl
theorem zJW (f:FuncId) (a b args:List PV):zES P (.clo f a b) args h KA=(okF P f=true∧zA P f (a++args++b) h KA):=rfl
theorem zMl:ofAV .undef=.undef:=rfl
theorem of_bool (b:Bool):ofAV (.bool b)=.bool b:=rfl
theorem of_int (k:IntKind) (n:Int):ofAV (.int k n)=.int k n:=rfl
theorem zPS (s:List UInt8):ofAV (.str s)=.str s:=rfl
theorem zON:ofAV .nilp=.nilp:=rfl
theorem zOO:ofAV .nilf=.nilf:=rfl
theorem zPT (b:Bool):ofAV (.err b)=.err b:=rfl
theorem zOM:ofAV .nils=.fz true .nils 0 []:=rfl
theorem zPU (f:FuncId) (a b:List AV):ofAV (.clo f a b)=.clo f (ofAVs a) (ofAVs b):=rfl
theorem zPV (a:List AV):ofAV (.agg a)=.agg (ofAVs a):=rfl
theorem zOL:ofAVs []=[]:=rfl
theorem zMk (c:AV) (cs:List AV):ofAVs (c::cs)=ofAV c::ofAVs cs:=rfl
theorem zOK (n:Nat) (c:AV):ofAVs (List.replicate n c)=List.replicate n (ofAV c):=by rw [zFQ,List.map_replicate]
theorem zMe (k:IntKind) (ek:EqK) (a b:Int):pbin .add ek (.int k a) (.int k b)=some (.int k (k.wrap (a+b))):=by simp [pbin,abin,aint,ofAV]
theorem zMU (k:IntKind) (ek:EqK) (a b:Int):pbin .sub ek (.int k a) (.int k b)=some (.int k (k.wrap (a-b))):=by simp [pbin,abin,aint,ofAV]
theorem zMY (k:IntKind) (ek:EqK) (a b:Int):pbin .mul ek (.int k a) (.int k b)=some (.int k (k.wrap (a*b))):=by simp [pbin,abin,aint,ofAV]
theorem zMd (k:IntKind) (ek:EqK) (a b:Int):pbin .eql ek (.int k a) (.int k b)=some (.bool (decide (a=b))):=by simp [pbin,abin,aint,ofAV]
theorem zMX (k:IntKind) (ek:EqK) (a b:Int):pbin .neq ek (.int k a) (.int k b)=some (.bool (!decide (a=b))):=by simp [pbin,abin,aint,ofAV]
theorem zMZ (k:IntKind) (ek:EqK) (a b:Int):pbin .lss ek (.int k a) (.int k b)=some (.bool (decide (a<b))):=by simp [pbin,abin,aint,ofAV]
theorem zMa (k:IntKind) (ek:EqK) (a b:Int):pbin .leq ek (.int k a) (.int k b)=some (.bool (decide (a≤b))):=by simp [pbin,abin,aint,ofAV]
theorem zMb (k:IntKind) (ek:EqK) (a b:Int):pbin .gtr ek (.int k a) (.int k b)=some (.bool (decide (b<a))):=by simp [pbin,abin,aint,ofAV]
theorem zMc (k:IntKind) (ek:EqK) (a b:Int):pbin .geq ek (.int k a) (.int k b)=some (.bool (decide (b≤a))):=by simp [pbin,abin,aint,ofAV]
theorem zMW (k:IntKind) (ek:EqK) (a b:Int):pbin .quo ek (.int k a) (.int k b)=if b=0 then none else some (.int k (k.wrap (a.tdiv b))):=by simp only [pbin,abin,aint,if_true];split<;>rfl
theorem zMV (k:IntKind) (ek:EqK) (a b:Int):pbin .rem ek (.int k a) (.int k b)=if b=0 then none else some (.int k (a.tmod b)):=by simp only [pbin,abin,aint,if_true];split<;>rfl
theorem zJP (n:Nat) (xs ys:List PV):pbin .eql (.ints n) (.agg xs) (.agg ys)=if xs.length=n∧ys.length=n then(paggB xs ys).bind fun r=>some (.bool r)else none:=rfl
theorem zKr:paggB [] []=some true:=rfl
theorem zJQ (k:IntKind) (a b:Int) (xs ys:List PV):paggB (.int k a::xs) (.int k b::ys)=(paggB xs ys).map fun r=>decide (a=b) && r:=by simp [paggB]
theorem zKq (a b:Bool):pbin .eql .bool (.bool a) (.bool b)=some (.bool (a == b)):=rfl
theorem zKp (a b:Bool):pbin .neq .bool (.bool a) (.bool b)=some (.bool !(a == b)):=rfl
theorem zJO (w w':Bool) (a:AV) (n n':Nat) (cs cs':List PV):pbin .eql .slice (.fz w a n cs) (.fz w' .nils n' cs')=some (.bool (ZX a)):=rfl
theorem zHx (w w':Bool) (a:AV) (n n':Nat) (cs cs':List PV):pbin .neq .slice (.fz w a n cs) (.fz w' .nils n' cs')=some (.bool (!ZX a)):=rfl
theorem zJN (s o n:Nat) (c:Cap) (w':Bool) (n':Nat) (cs':List PV):pbin .eql .slice (.sl s o n c) (.fz w' .nils n' cs')=some (.bool false):=rfl
theorem zHw (s o n:Nat) (c:Cap) (w':Bool) (n':Nat) (cs':List PV):pbin .neq .slice (.sl s o n c) (.fz w' .nils n' cs')=some (.bool true):=rfl
theorem zHv (ek:EqK) (a b:List UInt8):pbin .add ek (.str a) (.str b)=if a.length+b.length≤9223372036854775807 then some (.str (a++b))else none:=by simp only [pbin,astr];split<;>rfl
theorem zHu (ek:EqK) (a b:List UInt8):pbin .eql ek (.str a) (.str b)=some (.bool (a == b)):=rfl
theorem zHt (ek:EqK) (a b:List UInt8):pbin .neq ek (.str a) (.str b)=some (.bool !(a == b)):=rfl
theorem zIC:ZX .nils=true:=rfl
theorem zLF (o f n:Nat) (c:Cap):ZX (.sl o f n c)=false:=rfl
theorem zN7 (k:IntKind) (n:Int):pun .neg (.int k n)=some (.int k (k.wrap (0-n))):=rfl
theorem zN6 (b:Bool):pun .not (.bool b)=some (.bool !b):=rfl
theorem zJS (a b:PV):pPick (.bool true) a b=some a:=rfl
theorem zHz (a b:PV):pPick (.bool false) a b=some b:=rfl
theorem zK1 (k k':IntKind) (n:Int):pConv k (.int k' n)=some (.int k (k.wrap n)):=rfl
theorem zMf (s i:Nat):pNil (.ptr s i)=some (.ptr s i):=rfl
theorem zMg (f:FuncId) (a b:List PV):pNil (.clo f a b)=some (.clo f a b):=rfl
theorem zOG (a:AV) (c:PV) (cs:List PV):pNil (.fp a (c::cs))=some (.fp a (c::cs)):=rfl
theorem zJU (n off:Nat) (cs:List PV):zCU true n off (.agg cs)=some (.agg ((cs.drop off).take n)):=rfl
theorem zJT (n off:Nat) (cs:List PV):zCU false n off (.agg cs)=cs[off]?:=rfl
theorem zE9 (off s i:Nat):Qh off (.ptr s i)=some (.ptr s (i+off)):=rfl
theorem zFn (off:Nat) (a:AV) (c:PV) (cs:List PV):Qh off (.fp a (c::cs))=some (.fp (pAdd a off) ((c::cs).drop off)):=rfl
theorem zKz (sz s off len:Nat) (c:Cap) (k:IntKind) (n:Int):zBX sz (.sl s off len c) (.int k n)=if 0≤n∧n<len then some (.ptr s (off+n.toNat*sz))else none:=rfl
theorem zK0 (sz:Nat) (w:Bool) (a:AV) (len:Nat) (cs:List PV) (k:IntKind) (n:Int):zBX sz (.fz w a len cs) (.int k n)=if 0≤n∧n<len then some (.fp (pAt a (n.toNat*sz)) (cs.drop (n.toNat*sz)))else none:=rfl
theorem zH2 (s:List UInt8) (k:IntKind) (n:Int):zCz (.str s) (.int k n)=if 0≤n then(s[n.toNat]?).map fun c=>.int .u8 c.toNat else none:=rfl
theorem zGc (vs:List PV) (i:Nat):zBr (.tup vs) i=vs[i]?:=rfl
theorem zOI (w:Bool) (a:AV) (n:Nat) (cs:List PV):pLen (.fz w a n cs)=some (.int .i64 n):=rfl
theorem zOH (s o n:Nat) (c:Cap):pLen (.sl s o n c)=some (.int .i64 n):=rfl
theorem zH1 (s:List UInt8):zCy (.str s)=some (.int .i64 s.length):=rfl
theorem zK2 (w:Bool) (l:Nat) (cs:List PV):pCap (.fz w .nils l cs)=some (.int .i64 0):=rfl
theorem zOJ (s o n c:Nat):pCap (.sl s o n (.known c))=some (.int .i64 c):=rfl
theorem zH0 (mx:Bool) (k:IntKind) (a b:Int):zBW mx (.int k a) (.int k b)=some (.int k (if mx=true then max a b else min a b)):=by simp [zBW]
theorem zKi (n s i:Nat):pldv false n (.ptr s i) h=h.rd1 s i:=rfl
theorem zKh (n s i:Nat):pldv true n (.ptr s i) h=(h.rd s i n).map .agg:=rfl
theorem zMQ (n:Nat) (a:AV) (cs:List PV):pldv false n (.fp a cs) h=cs[0]?:=rfl
theorem zMP (n:Nat) (a:AV) (cs:List PV):pldv true n (.fp a cs) h=if 0<n∧n≤cs.length then some (.agg (cs.take n))else none:=rfl
theorem zKg:h.news []=h:=rfl
theorem zJD (z:List AV) (zs:List (List AV)):h.news (z::zs)=(h.new (ofAVs z)).news zs:=rfl
theorem zJ8 (recs:List RecP):qb [] recs h=True:=by
 apply propext;refine⟨fun _=>trivial,fun _=>?_⟩
 induction recs with
 | nil=>trivial
 | cons r rs ih=>exact⟨by simp,ih⟩
theorem zIS (c:List Nat):qb c [] h=True:=rfl
theorem zIT (c:List Nat) (i:Nat) (a:Bool) (n:Nat) (x v:PV) (rs:List RecP):qb c (⟨i,a,n,x,v⟩::rs) h=((if c.contains i=true then pldv a n x h=some v else True)∧qb c rs h):=rfl
theorem zHa (d:Option Nat) (a:Bool) (n:Nat) (x:IX) (g:Option (Nat×Bool)) (i:Nat) (c:List Nat) (v:PV):zg ⟨⟨d,.load a n x,true,g⟩,i,c⟩ e v=if zAi g e=true then [⟨i,a,n,x.pv e,v⟩]else []:=rfl
theorem zKO (d:Option Nat) (x:IX) (g:Option (Nat×Bool)) (i:Nat) (c:List Nat) (v:PV):zg ⟨⟨d,(.mv x),true,g⟩,i,c⟩ e v=[]:=rfl
theorem zHZ (d:Option Nat) (x y z:IX) (g:Option (Nat×Bool)) (i:Nat) (c:List Nat) (v:PV):zg ⟨⟨d,(.pick x y z),true,g⟩,i,c⟩ e v=[]:=rfl
theorem zI4 (d:Option Nat) (op:BinOp) (ek:EqK) (x y:IX) (g:Option (Nat×Bool)) (i:Nat) (c:List Nat) (v:PV):zg ⟨⟨d,(.bin op ek x y),true,g⟩,i,c⟩ e v=[]:=rfl
theorem zHb (d:Option Nat) (op:BinOp) (x:IX) (g:Option (Nat×Bool)) (i:Nat) (c:List Nat) (v:PV):zg ⟨⟨d,(.errB op x),true,g⟩,i,c⟩ e v=[]:=rfl
theorem zKN (d:Option Nat) (op:UnOp) (x:IX) (g:Option (Nat×Bool)) (i:Nat) (c:List Nat) (v:PV):zg ⟨⟨d,(.un op x),true,g⟩,i,c⟩ e v=[]:=rfl
theorem zHc (d:Option Nat) (k:IntKind) (x:IX) (g:Option (Nat×Bool)) (i:Nat) (c:List Nat) (v:PV):zg ⟨⟨d,(.conv k x),true,g⟩,i,c⟩ e v=[]:=rfl
theorem zEL (d:Option Nat) (x:IX) (g:Option (Nat×Bool)) (i:Nat) (c:List Nat) (v:PV):zg ⟨⟨d,(.nilCheck x),true,g⟩,i,c⟩ e v=[]:=rfl
theorem zGI (d:Option Nat) (z:List AV) (ps:List (Nat×Nat×IX)) (g:Option (Nat×Bool)) (i:Nat) (c:List Nat) (v:PV):zg ⟨⟨d,(.build z ps),true,g⟩,i,c⟩ e v=[]:=rfl
theorem zGH (d:Option Nat) (a:Bool) (n off:Nat) (x:IX) (g:Option (Nat×Bool)) (i:Nat) (c:List Nat) (v:PV):zg ⟨⟨d,(.field a n off x),true,g⟩,i,c⟩ e v=[]:=rfl
theorem zDo (d:Option Nat) (off:Nat) (x:IX) (g:Option (Nat×Bool)) (i:Nat) (c:List Nat) (v:PV):zg ⟨⟨d,(.fieldAddr off x),true,g⟩,i,c⟩ e v=[]:=rfl
theorem zDn (d:Option Nat) (sz:Nat) (x y:IX) (g:Option (Nat×Bool)) (i:Nat) (c:List Nat) (v:PV):zg ⟨⟨d,(.indexAddr sz x y),true,g⟩,i,c⟩ e v=[]:=rfl
theorem zEN (d:Option Nat) (x y:IX) (g:Option (Nat×Bool)) (i:Nat) (c:List Nat) (v:PV):zg ⟨⟨d,(.indexStr x y),true,g⟩,i,c⟩ e v=[]:=rfl
theorem zE6 (d:Option Nat) (x:IX) (j:Nat) (g:Option (Nat×Bool)) (i:Nat) (c:List Nat) (v:PV):zg ⟨⟨d,(.extract x j),true,g⟩,i,c⟩ e v=[]:=rfl
theorem zI2 (d:Option Nat) (x:IX) (g:Option (Nat×Bool)) (i:Nat) (c:List Nat) (v:PV):zg ⟨⟨d,(.len x),true,g⟩,i,c⟩ e v=[]:=rfl
theorem zFj (d:Option Nat) (x:IX) (g:Option (Nat×Bool)) (i:Nat) (c:List Nat) (v:PV):zg ⟨⟨d,(.lenStr x),true,g⟩,i,c⟩ e v=[]:=rfl
theorem zI3 (d:Option Nat) (x:IX) (g:Option (Nat×Bool)) (i:Nat) (c:List Nat) (v:PV):zg ⟨⟨d,(.cap x),true,g⟩,i,c⟩ e v=[]:=rfl
theorem zGG (d:Option Nat) (sz:Nat) (x:IX) (lo hi mx:Option IX) (g:Option (Nat×Bool)) (i:Nat) (c:List Nat) (v:PV):zg ⟨⟨d,(.slice sz x lo hi mx),true,g⟩,i,c⟩ e v=[]:=rfl
theorem zEK (d:Option Nat) (x:IX) (lo hi:Option IX) (g:Option (Nat×Bool)) (i:Nat) (c:List Nat) (v:PV):zg ⟨⟨d,(.sliceStr x lo hi),true,g⟩,i,c⟩ e v=[]:=rfl
theorem zFi (d:Option Nat) (mx:Bool) (x y:IX) (g:Option (Nat×Bool)) (i:Nat) (c:List Nat) (v:PV):zg ⟨⟨d,(.maxmin mx x y),true,g⟩,i,c⟩ e v=[]:=rfl
theorem zEM (d:Option Nat) (f:FuncId) (y z:List IX) (g:Option (Nat×Bool)) (i:Nat) (c:List Nat) (v:PV):zg ⟨⟨d,(.makeFunc f y z),true,g⟩,i,c⟩ e v=[]:=rfl
theorem zI1 (d:Option Nat) (j:Nat) (g:Option (Nat×Bool)) (i:Nat) (c:List Nat) (v:PV):zg ⟨⟨d,(.rev j),true,g⟩,i,c⟩ e v=[]:=rfl
theorem zHY (d:Option Nat) (j m:Nat) (g:Option (Nat×Bool)) (i:Nat) (c:List Nat) (v:PV):zg ⟨⟨d,(.revS j m),true,g⟩,i,c⟩ e v=[]:=rfl
theorem zF1:zAi none e=true:=rfl
theorem zF0 (t:Nat) (b:Bool):zAi (some (t,b)) e=(match e t with | .bool c=>decide (c=b) | _=>false):=rfl
theorem zIy:ZQ [] e h=some []:=rfl
theorem zIx (t:Nat) (r:List IRes):ZQ (.tmp t::r) e h=(ZQ r e h).map fun vs=>e t::vs:=rfl
theorem zHU (t:Nat) (a:Bool) (n:Nat) (r:List IRes):ZQ (.cell t a n::r) e h=(pldv a n (e t) h).bind fun v=>(ZQ r e h).map fun vs=>v::vs:=rfl
theorem zHW (res:List IRes):retP res KA .normal e h=optK (ZQ res e h) fun vs=>KA (packP vs) h:=rfl
theorem zL0 (res:List IRes):retP res KA .ret e h=optK (ZQ res e h) fun vs=>KA (packP vs) h:=rfl
theorem zKw (v:PV):packP [v]=v:=rfl
theorem zKx:packP []=.tup []:=rfl
theorem zKv (u v:PV) (r:List PV):packP (u::v::r)=.tup (u::v::r):=rfl
theorem zKk (cs:List PV):pfill cs []=some cs:=rfl
theorem zJE (cs:List PV) (off size:Nat) (v:PV) (r:List (Nat×Nat×PV)):pfill cs ((off,size,v)::r)=if v.cells.length=size∧off+size≤cs.length∧v.cells.all PV.one=true then pfill (cs.take off++v.cells++cs.drop (off+size)) r else none:=rfl
theorem zJI (k:IntKind) (n:Int):PV.cells (.int k n)=[(.int k n)]:=rfl
theorem zMK (k:IntKind) (n:Int):PV.one (.int k n)=true:=rfl
theorem zHs (b:Bool):PV.cells (.bool b)=[(.bool b)]:=rfl
theorem zKc (b:Bool):PV.one (.bool b)=true:=rfl
theorem zJG (s:List UInt8):PV.cells (.str s)=[(.str s)]:=rfl
theorem zMI (s:List UInt8):PV.one (.str s)=true:=rfl
theorem zHq:PV.cells .nilp=[.nilp]:=rfl
theorem zKa:PV.one .nilp=true:=rfl
theorem zHr:PV.cells .nilf=[.nilf]:=rfl
theorem zJJ (b:Bool):PV.cells (.err b)=[.err b]:=rfl
theorem zKb:PV.one .nilf=true:=rfl
theorem zML (b:Bool):PV.one (.err b)=true:=rfl
theorem zKm (w:Bool) (a:AV) (n:Nat) (cs:List PV):PV.cells (.fz w a n cs)=[(.fz w a n cs)]:=rfl
theorem zOB (w:Bool) (a:AV) (n:Nat) (cs:List PV):PV.one (.fz w a n cs)=true:=rfl
theorem zKn (a:AV) (cs:List PV):PV.cells (.fp a cs)=[(.fp a cs)]:=rfl
theorem zOC (a:AV) (cs:List PV):PV.one (.fp a cs)=true:=rfl
theorem zJH (s i:Nat):PV.cells (.ptr s i)=[(.ptr s i)]:=rfl
theorem zMJ (s i:Nat):PV.one (.ptr s i)=true:=rfl
theorem zKl (s o n:Nat) (c:Cap):PV.cells (.sl s o n c)=[(.sl s o n c)]:=rfl
theorem zOA (s o n:Nat) (c:Cap):PV.one (.sl s o n c)=true:=rfl
theorem zJK (f:FuncId) (a b:List PV):PV.cells (.clo f a b)=[(.clo f a b)]:=rfl
theorem zMM (f:FuncId) (a b:List PV):PV.one (.clo f a b)=true:=rfl
theorem zJL (cs:List PV):PV.cells (.agg cs)=cs:=rfl
theorem zBq (k:IntKind) (i:Int) (y:Nat):QI (.int k i) y=if 0≤i∧i≤y then some i.toNat else none:=rfl
theorem zAu (x:PV) (d y:Nat):qY (some x) d y=QI x y:=rfl
theorem zAv (d y:Nat):qY none d y=some d:=rfl
theorem zKW (sz:Nat) (w:Bool) (a:AV) (len:Nat) (cs:List PV) (lo hi:Option PV):zAD sz (.fz w a len cs) lo hi none=(qY hi len len).bind fun h=>(qY lo 0 h).bind fun l=>some (.fz false (pslA sz a l h) (h-l) ((cs.drop (l*sz)).take ((h-l)*sz))):=rfl
theorem zCP (sz s off len c:Nat) (lo hi mx:Option PV):zAD sz (.sl s off len (.known c)) lo hi mx=(qY mx c c).bind fun m=>(qY hi len m).bind fun h=>(qY lo 0 h).bind fun l=>if hi.isNone=true∧mx.isSome=true then none else some (.sl s (if m=l then off else off+l*sz) (h-l) (.known (m-l))):=rfl
theorem zCQ (sz s off len g:Nat) (lo hi:Option PV):zAD sz (.sl s off len (.grown g)) lo hi none=(qY hi len len).bind fun h=>(qY lo 0 h).bind fun l=>some (.sl s (off+l*sz) (h-l) (.grown (if g=sz then g else 0))):=rfl
theorem zFk (s:List UInt8) (lo hi:Option PV):zBE (.str s) lo hi=(qY hi s.length s.length).bind fun h=>(qY lo 0 h).bind fun l=>some (.str ((s.take h).drop l)):=rfl
theorem zIe (w:Bool) (a:AV) (n:Nat) (cs:List PV):plen (.fz w a n cs)=some n:=rfl
theorem zId (s o n:Nat) (c:Cap):plen (.sl s o n c)=some n:=rfl
theorem Qf (sz bytes:Nat) (s x:PV):ql sz bytes h s x=(plen x).bind fun m=>if m=0 then(psame s).map fun v=>(v,h)else(Za sz h x m).bind fun news=>pgrow sz bytes h s news m:=rfl
theorem zGZ (sz:Nat) (d s:PV):pcopy sz h d s=(plen d).bind fun n=>(plen s).bind fun m=>if min m n=0 then some (.int .i64 0,h)else match d with | .sl o off _ _=>(Za sz h s (min m n)).bind fun cs=>(h.wr o off cs).map fun σ'=>(.int .i64 (min m n:Nat),σ') | _=>none:=rfl
theorem zHm (s o n c:Nat):psame (.sl s o n (.known c))=if n≤c then some (.sl s o n (.known c))else none:=rfl
theorem zCS (sz:Nat) (w:Bool) (a:AV) (len:Nat) (cs:List PV) (n:Nat):Za sz h (.fz w a len cs) n=if n=0 then some []else if n≤len∧n*sz≤cs.length∧0<sz then some (cs.take (n*sz))else none:=rfl
theorem Z6 (sz s off len:Nat) (c:Cap) (n:Nat):Za sz h (.sl s off len c) n=if n=0 then some []else if n≤len then h.rd s off (n*sz)else none:=rfl
theorem zEQ (sz bytes:Nat) (w:Bool) (n:Nat) (cs news:List PV) (m:Nat):pgrow sz bytes h (.fz w .nils n cs) news m=if m*bytes≤140737488355328∧m≤4611686018427387904 then some (.sl h.next 0 m (.grown sz),h.new news)else none:=rfl
theorem zDQ (sz bytes s off len c:Nat) (news:List PV) (m:Nat):pgrow sz bytes h (.sl s off len (.known c)) news m=if len+m≤c then(h.wr s (off+len*sz) news).map fun σ'=>(.sl s off (len+m) (.known c),σ')else if (len+m)*bytes≤140737488355328∧len+m≤4611686018427387904 then(h.rd s off (len*sz)).map fun old=>(.sl h.next 0 (len+m) (.grown sz),h.new (old++news))else none:=rfl
theorem zDR (sz bytes s off len g:Nat) (news:List PV) (m:Nat):pgrow sz bytes h (.sl s off len (.grown g)) news m=if (len+m)*bytes≤140737488355328∧len+m≤4611686018427387904∧g=sz then(h.obj s).bind fun cs=>if off+len*sz≤cs.length then some (.sl h.next 0 (len+m) (.grown sz),(h.kill s).new ((cs.drop off).take (len*sz)++news))else none else none:=rfl
theorem zMF (cs:List PV) (s i:Nat):(h.new cs).rd1 s i=if s=h.next then cs[i]? else h.rd1 s i:=by by_cases x:s=h.next<;>simp [PHeap.rd1,PHeap.new,x]
theorem QC (cs:List PV) (s i n:Nat):(h.new cs).rd s i n=if s=h.next then(if i+n≤cs.length then some ((cs.drop i).take n)else none)else h.rd s i n:=by by_cases x:s=h.next<;>simp [PHeap.rd,PHeap.new,x]
theorem zH (cs:List PV) (s:Nat):(h.new cs).obj s=if s=h.next then some cs else h.obj s:=rfl
theorem zN5 (cs:List PV) (s i:Nat) (vs:List PV):(h.new cs).wr s i vs=if s=h.next then(if i+vs.length≤cs.length∧vs.all PV.one=true then some (h.new (cs.take i++vs++cs.drop (i+vs.length)))else none)else(h.wr s i vs).map fun h'=>h'.new cs:=by
 by_cases x:s=h.next
 ·subst x
  simp only [PHeap.wr,PHeap.new,if_true,Option.bind_some]
  split
  ·congr 1
   simp only [PHeap.set]
   congr 1
   funext y
   by_cases hy:y=h.next<;>simp [hy]
  ·rfl
 ·simp only [PHeap.wr,PHeap.new,if_neg x]
  cases ho:h.obj s with
  | none=>rfl
  | some ob=>
   simp only [Option.bind_some]
   split
   ·simp only [Option.map_some,PHeap.set]
    congr 2
    funext y
    by_cases hy:y=s
    ·subst hy;simp [x]
    ·simp [hy]
   ·rfl
theorem zKf (cs:List PV):(h.new cs).next=h.next+1:=rfl
theorem zGP (cs:List PV):(h.new cs).top=h.top:=rfl
theorem zMC (cs:List PV) (s:Nat) (ds:List PV):(h.new cs).set s ds=if s=h.next then h.new ds else(h.set s ds).new cs:=by
 by_cases x:s=h.next
 ·subst x
  rw [if_pos rfl];simp only [PHeap.set,PHeap.new]
  congr 1
  funext y
  by_cases hy:y=h.next<;>simp [hy]
 ·rw [if_neg x]
  simp only [PHeap.set,PHeap.new]
  congr 1
  funext y
  by_cases hy:y=s
  ·subst hy;simp [x]
  ·simp [hy]
theorem Qy (s:Nat) (cs ds:List PV):(h.set s cs).set s ds=h.set s ds:=by
 simp only [PHeap.set]
 congr 1
 funext y
 by_cases hy:y=s<;>simp [hy]
theorem zKe (s:Nat) (cs:List PV):(h.set s cs).next=h.next:=rfl
theorem zJC (s:Nat):(h.kill s).next=h.next:=rfl
theorem zMN (t:Nat):(h.up t).next=h.next:=rfl
theorem zCx (t:Nat):(h.up t).top=t:=rfl
theorem zOE (t:Nat) (cs:List PV):(h.up t).new cs=(h.new cs).up t:=rfl
theorem zN9 (t s i:Nat):(h.up t).rd1 s i=h.rd1 s i:=rfl
theorem zPR (t s i n:Nat):(h.up t).rd s i n=h.rd s i n:=rfl
theorem zOD (t s:Nat):(h.up t).obj s=h.obj s:=rfl
theorem zPP (t s i:Nat) (vs:List PV):(h.up t).wr s i vs=(h.wr s i vs).map fun h'=>h'.up t:=by
 simp only [PHeap.wr,PHeap.up];cases h.obj s with
 | none=>rfl
 | some cs=>simp only [Option.bind_some];split<;>rfl
theorem zKd (s t:Nat):(h.kill s).obj t=if t=s then none else h.obj t:=rfl
theorem qX (s:Nat) (cs:List PV) (t:Nat):(h.set s cs).obj t=if t=s then some cs else h.obj t:=rfl
theorem zKX (s t i:Nat):(h.kill s).rd1 t i=if t=s then none else h.rd1 t i:=by by_cases x:t=s<;>simp [PHeap.rd1,PHeap.kill,x]
theorem zMD (s t i n:Nat):(h.kill s).rd t i n=if t=s then none else h.rd t i n:=by by_cases x:t=s<;>simp [PHeap.rd,PHeap.kill,x]
theorem zME (s:Nat) (cs:List PV) (t i:Nat):(h.set s cs).rd1 t i=if t=s then cs[i]? else h.rd1 t i:=by by_cases x:t=s<;>simp [PHeap.rd1,PHeap.set,x]
theorem Zu (s:Nat) (cs:List PV) (t i n:Nat):(h.set s cs).rd t i n=if t=s then(if i+n≤cs.length then some ((cs.drop i).take n)else none)else h.rd t i n:=by by_cases x:t=s<;>simp [PHeap.rd,PHeap.set,x]
theorem zN4 (s:Nat) (cs:List PV) (i:Nat) (vs:List PV):(h.set s cs).wr s i vs=if i+vs.length≤cs.length∧vs.all PV.one=true then some (h.set s (cs.take i++vs++cs.drop (i+vs.length)))else none:=by
 simp only [PHeap.wr,PHeap.set,if_true,Option.bind_some]
 split
 ·congr 2
  funext y
  by_cases hy:y=s<;>simp [hy]
 ·rfl
end
def pw0:=And.intro @zNb <| And.intro @zKB <| And.intro @zNd <| And.intro @zOz <| And.intro @zNe <| And.intro @zLm <| And.intro @zNc <| And.intro @zO0 <| And.intro @zOr <| And.intro @RVp_q <| And.intro @RVp_e <| And.intro @zOv <| And.intro @DVp_q <| And.intro @DVp_e <| And.intro @zMu <| And.intro @zMt <| And.intro @zMw <| And.intro @zMv <| And.intro @zHo <| And.intro @zGa <| And.intro @zJF <| And.intro @zHp <| And.intro @zGY <| And.intro @zGW <| And.intro @zGV <| And.intro @zGX <| And.intro @pv_t <| And.intro @pv_c <| And.intro @zMO <| @zKY
def pw1:=And.intro @zKZ <| And.intro @qp_mv <| And.intro @zN0 <| And.intro @zPO <| And.intro @zN2 <| And.intro @zMh <| And.intro @zMi <| And.intro @qp_un <| And.intro @zN3 <| And.intro @zHi <| And.intro @zL9 <| And.intro @zL8 <| And.intro @zGN <| And.intro @zGM <| And.intro @zHk <| And.intro @zI8 <| And.intro @zPM <| And.intro @zKT <| And.intro @zPN <| And.intro @zL7 <| And.intro @zHh <| And.intro @zKS <| And.intro @zHj <| And.intro @zN1 <| And.intro @zPL <| And.intro @zNz <| And.intro @zM6 <| And.intro @zPd <| And.intro @zJl <| And.intro @zM4 <| And.intro @zJR <| And.intro @zLO <| And.intro @zIJ <| @zH3
def pw2:=And.intro @zKy <| And.intro @zLP <| And.intro @zOd <| And.intro @zOe <| And.intro @zM5 <| And.intro @zJW <| And.intro @zPT <| And.intro @zMl <| And.intro @of_bool <| And.intro @of_int <| And.intro @zPS <| And.intro @zON <| And.intro @zOO <| And.intro @zOM <| And.intro @zPU <| And.intro @zPV <| And.intro @zOL <| And.intro @zMk <| And.intro @zOK <| And.intro @zMe <| And.intro @zMU <| And.intro @zMY <| And.intro @zMd <| And.intro @zMX <| And.intro @zMZ <| And.intro @zMa <| And.intro @zMb <| And.intro @zMc <| And.intro @zMW <| And.intro @zMV <| @zJP
def pw3:=And.intro @zKr <| And.intro @zJQ <| And.intro @zKq <| And.intro @zKp <| And.intro @zJO <| And.intro @zHx <| And.intro @zJN <| And.intro @zHw <| And.intro @zHv <| And.intro @zHu <| And.intro @zHt <| And.intro @zIC <| And.intro @zLF <| And.intro @zN7 <| And.intro @zN6 <| And.intro @zJS <| And.intro @zHz <| And.intro @zK1 <| And.intro @zMf <| And.intro @zMg <| And.intro @zOG <| And.intro @zJU <| And.intro @zJT <| And.intro @zE9 <| And.intro @zFn <| And.intro @zKz <| And.intro @zK0 <| And.intro @zH2 <| And.intro @zGc <| @zOI
def pw4:=And.intro @zOH <| And.intro @zH1 <| And.intro @zK2 <| And.intro @zOJ <| And.intro @zH0 <| And.intro @zKi <| And.intro @zKh <| And.intro @zMQ <| And.intro @zMP <| And.intro @zKg <| And.intro @zJD <| And.intro @zJ8 <| And.intro @zIS <| And.intro @zIT <| And.intro @zHa <| And.intro @zKO <| And.intro @zHZ <| And.intro @zI4 <| And.intro @zKN <| And.intro @zHc <| And.intro @zEL <| And.intro @zGI <| And.intro @zGH <| And.intro @zDo <| And.intro @zDn <| And.intro @zEN <| And.intro @zE6 <| And.intro @zI2 <| And.intro @zFj <| @zI3
def pw5:=And.intro @zGG <| And.intro @zEK <| And.intro @zHb <| And.intro @zFi <| And.intro @zEM <| And.intro @zI1 <| And.intro @zHY <| And.intro @zF1 <| And.intro @zF0 <| And.intro @zIy <| And.intro @zIx <| And.intro @zHU <| And.intro @zHW <| And.intro @zL0 <| And.intro @zKw <| And.intro @zKx <| And.intro @zKv <| And.intro @zKk <| And.intro @zJE <| And.intro @zJI <| And.intro @zMK <| And.intro @zHs <| And.intro @zKc <| And.intro @zJG <| And.intro @zMI <| And.intro @zHq <| And.intro @zKa <| And.intro @zHr <| And.intro @zKb <| And.intro @zKm <| And.intro @zOB <| @zKn
def pw6:=And.intro @zJJ <| And.intro @zML <| And.intro @zOC <| And.intro @zJH <| And.intro @zMJ <| And.intro @zKl <| And.intro @zOA <| And.intro @zJK <| And.intro @zMM <| And.intro @zJL <| And.intro @zBq <| And.intro @zAu <| And.intro @zAv <| And.intro @zKW <| And.intro @zCP <| And.intro @zCQ <| And.intro @zFk <| And.intro @zIe <| And.intro @zId <| And.intro @zMF <| And.intro @QC <| And.intro @zH <| And.intro @zN5 <| And.intro @zKf <| And.intro @zGP <| And.intro @zMC <| And.intro @Qy <| And.intro @zKe <| And.intro @zJC <| And.intro @zMN <| And.intro @zCx <| @zOE
def pw7:=And.intro @zN9 <| And.intro @zPR <| And.intro @zOD <| And.intro @zPP <| And.intro @zKd <| And.intro @qX <| And.intro @zKX <| And.intro @zMD <| And.intro @zME <| And.intro @Zu <| And.intro @zN4 <| And.intro @zL <| And.intro @zM <| And.intro @zU <| And.intro @zk <| And.intro @List.map_cons.{0,0} <| And.intro @List.map_nil.{0,0} <| And.intro @List.length_cons.{0} <| And.intro @List.length_nil.{0} <| And.intro @List.getElem?_cons_zero.{0} <| And.intro @List.getElem?_cons_succ.{0} <| And.intro @List.take_succ_cons.{0} <| And.intro @List.take_zero.{0} <| And.intro @List.drop_succ_cons.{0} <| And.intro @List.drop_zero.{0} <| And.intro @List.take_nil.{0} <| And.intro @List.drop_nil.{0} <| And.intro @List.nil_append.{0} <| And.intro @List.cons_append.{0} <| @List.append_nil.{0}
def pw8:=And.intro @List.all_cons.{0} <| And.intro @List.all_nil.{0} <| And.intro @List.contains_cons.{0} <| And.intro @List.contains_nil.{0} <| And.intro @Option.map_some.{0,0} <| And.intro @Option.map_none.{0,0} <| And.intro @Option.bind_some.{0,0} <| And.intro @Option.bind_none.{0,0} <| And.intro @decide_true <| And.intro @decide_false <| And.intro @Bool.not_true <| And.intro @Bool.not_false <| And.intro @Bool.and_true <| And.intro @Bool.true_and <| And.intro @Bool.and_self <| And.intro @Bool.or_false <| And.intro @Bool.or_true <| And.intro @Bool.true_or <| And.intro @Bool.false_or <| And.intro @true_and <| And.intro @and_true <| And.intro @Bool.true_eq_false <| And.intro @Bool.false_eq_true <| And.intro @Nat.left_eq_add <| And.intro @Nat.add_eq_left <| And.intro @Nat.succ_ne_self <| And.intro @Nat.one_ne_zero <| And.intro @Nat.add_left_cancel_iff <| And.intro @Nat.add_assoc <| @Nat.mul_one
def pw9:=And.intro @Nat.zero_add <| And.intro @Nat.add_zero <| And.intro @Nat.le_refl <| And.intro @Nat.lt_add_one <| And.intro @Int.toNat_natCast <| And.intro @Int.natCast_nonneg <| And.intro @Int.ofNat_lt <| And.intro @Int.le_refl <| And.intro @zJ <| And.intro @zK <| And.intro @zF <| And.intro @Nat.one_mul <| @Nat.zero_mul
def pwA:=And.intro pw0 <| And.intro pw1 <| And.intro pw2 <| And.intro pw3 <| And.intro pw4 <| And.intro pw5 <| And.intro pw6 <| And.intro pw7 <| And.intro pw8 <| And.intro pw9 <| And.intro @nm_eq <| And.intro @eq_self.{1} <| And.intro @Int.ofNat_le @List.getElem?_drop.{0}
end Go.Ab
