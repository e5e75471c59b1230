/- THE RULES BY WHICH CODE IS WALKED over values without a heap: equations, and the one name 'pw' for all of them. Written by a program. -/
import Derived.Test.YtjlpbpfaihhamaaGreatBAbPg
import Derived.Test.YtjlpbpfaihhamaaGreatBAbAid
set_option linter.unusedVariables false
set_option linter.unusedSimpArgs false
set_option linter.defProp false
namespace Go.Ab
section
variable {P:Program} {Q:Exit→PEnv→PHeap→Prop} {e:PEnv} {h:PHeap} {K:PEnv→PHeap→Prop} {KA:PV→PHeap→Prop} {nb nr:Nat}
theorem zPc:vp P .skip Q e h=Q .normal e h:=rfl
theorem zLh (S:List Nat) (its:List II):vp P (.region S its) Q e h=RVp P its e h fun e' h'=>Q .normal (PEnv.mk S (S.map e')) h':=rfl
theorem zDj (S:List Nat) (t:OT):vp P (.tree S t) Q e h=TVp P t [] e h fun e' h'=>Q .normal (PEnv.mk S (S.map e')) h':=rfl
theorem zCl (recs:List RecP):TVp P .done recs e h K=K e h:=rfl
theorem zCj (recs:List RecP):TVp P .none recs e h K=True:=rfl
theorem TVp_q (d:Option Nat) (op:IOp) (g:Option (Nat×Bool)) (q:Bool) (i:Nat) (c:List Nat) (nx:OT) (recs:List RecP):TVp P (.q ⟨⟨d,op,q,g⟩,i,c⟩ nx) recs e h K=optK (gqp 0 0 ⟨d,op,q,g⟩ e h) fun v=>TVp P nx (qU ⟨⟨d,op,q,g⟩,i,c⟩ e v++recs) (e.put d v) h K:=rfl
theorem TVp_e (d:Option Nat) (op:IOp) (g:Option (Nat×Bool)) (q:Bool) (i:Nat) (c:List Nat) (nx alt:OT) (recs:List RecP):TVp P (.e ⟨⟨d,op,q,g⟩,i,c⟩ nx alt) recs e h K=((gep P ⟨d,op,q,g⟩ e h fun v h'=>Zg c recs h'∧TVp P nx recs (e.put d v) h' K)∧TVp P alt recs e h K):=rfl
theorem zPe (S:List Nat) (zs:List (List AV)) (its:List DI):vp P (.draw S zs its) Q e h=DVp P h.next zs.length its [] e (h.news zs) fun e' h'=>Q .normal (PEnv.mk S (S.map e')) h':=rfl
theorem zRB (a b:IC):vp P (.seq a b) Q e h=vp P a (fun x e' h'=>match x with | .normal=>vp P b Q e' h' | x=>Q x e' h') e h:=rfl
theorem zPf (c:IX) (a b:IC):vp P (.cond c a b) Q e h=Zq (c.pv e) (vp P a Q e h) (vp P b Q e h):=rfl
theorem zNj (id:Nat) (c:IC):vp P (.block id c) Q e h=vp P c (fun x e' h'=>match x with | .exit id'=>if id'=id then Q .normal e' h' else Q (.exit id') e' h' | x=>Q x e' h') e h:=rfl
theorem zPd (id:Nat):vp P (.exit id) Q e h=Q (.exit id) e h:=rfl
theorem zRC:vp P .ret Q e h=Q .ret e h:=rfl
theorem zQ1:RVp P [] e h K=K e h:=rfl
theorem RVp_q (d:Option Nat) (op:IOp) (g:Option (Nat×Bool)) (r:List II):RVp P (⟨d,op,true,g⟩::r) e h K=optK (gqp 0 0 ⟨d,op,true,g⟩ e h) fun v=>RVp P r (e.put d v) h K:=rfl
theorem RVp_e (d:Option Nat) (op:IOp) (g:Option (Nat×Bool)) (r:List II):RVp P (⟨d,op,false,g⟩::r) e h K=gep P ⟨d,op,false,g⟩ e h fun v h'=>RVp P r (e.put d v) h' K:=rfl
theorem zQ6 (recs:List RecP):DVp P nb nr [] recs e h K=K e h:=rfl
theorem DVp_q (d:Option Nat) (op:IOp) (g:Option (Nat×Bool)) (i:Nat) (c:List Nat) (r:List DI) (recs:List RecP):DVp P nb nr (⟨⟨d,op,true,g⟩,i,c⟩::r) recs e h K=optK (gqp nb nr ⟨d,op,true,g⟩ e h) fun v=>DVp P nb nr r (qU ⟨⟨d,op,true,g⟩,i,c⟩ e v++recs) (e.put d v) h K:=rfl
theorem DVp_e (d:Option Nat) (op:IOp) (g:Option (Nat×Bool)) (i:Nat) (c:List Nat) (r:List DI) (recs:List RecP):DVp P nb nr (⟨⟨d,op,false,g⟩,i,c⟩::r) recs e h K=gep P ⟨d,op,false,g⟩ e h fun v h'=>Zg c recs h'∧DVp P nb nr r recs (e.put d v) h' K:=rfl
theorem zOq (d:Option Nat) (op:IOp) (q:Bool):gqp nb nr ⟨d,op,q,none⟩ e h=qp nb nr op e h:=rfl
theorem zOp (d:Option Nat) (op:IOp) (q:Bool) (t:Nat) (b:Bool):gqp nb nr ⟨d,op,q,some (t,b)⟩ e h=Q5 (e t) b (qp nb nr op e h):=rfl
theorem zOs (d:Option Nat) (op:IOp) (q:Bool):gep P ⟨d,op,q,none⟩ e h KA=ep P op e h KA:=rfl
theorem zOr (d:Option Nat) (op:IOp) (q:Bool) (t:Nat) (b:Bool):gep P ⟨d,op,q,some (t,b)⟩ e h KA=Za (e t) b (ep P op e h KA) (KA (.tup []) h):=rfl
theorem zJI (a b:Prop):Zq (.bool true) a b=a:=rfl
theorem zHy (a b:Prop):Zq (.bool false) a b=b:=rfl
theorem zKl (c:Prop) [Decidable c] (a b:Prop):Zq (.bool (decide c)) a b=if c then a else b:=by by_cases x:c<;>simp [Zq,x]
theorem zJJ (c:Prop) [Decidable c] (a b:Prop):Zq (.bool (!decide c)) a b=if c then b else a:=by by_cases x:c<;>simp [Zq,x]
theorem zHx (c b:Bool) (x y:Prop):Za (.bool c) b x y=if c=b then x else y:=rfl
theorem zHv (c b:Bool) (x:Option PV):Q5 (.bool c) b x=if c=b then x else some (.tup []):=rfl
theorem zHu (b:Bool) (x:Option PV):Q5 (.tup []) b x=some (.tup []):=rfl
theorem zHw (b:Bool) (x y:Prop):Za (.tup []) b x y=y:=rfl
theorem pv_t (n:Nat):(IX.t n).pv e=e n:=rfl
theorem pv_c (v:AV):(IX.c v).pv e=ofAV v:=rfl
theorem zOI (s:Nat) (S:List Nat) (v:PV) (vs:List PV) (t:Nat):PEnv.mk (s::S) (v::vs) t=if t=s then v else PEnv.mk S vs t:=rfl
theorem zL8 (d:Nat) (v:PV) (t:Nat):e.put (some d) v t=if t=d then v else e t:=rfl
theorem zL9 (v:PV):e.put none v=e:=rfl
theorem qp_mv (x:IX):qp nb nr (.mv x) e h=some (x.pv e):=rfl
theorem zP1 (c a b:IX):qp nb nr (.pick c a b) e h=pPick (c.pv e) (a.pv e) (b.pv e):=rfl
theorem zRW (op:BinOp) (ek:EqK) (x y:IX):qp nb nr (.bin op ek x y) e h=pbin op ek (x.pv e) (y.pv e):=rfl
theorem qp_un (op:UnOp) (x:IX):qp nb nr (.un op x) e h=pun op (x.pv e):=rfl
theorem zP3 (k:IntKind) (x:IX):qp nb nr (.conv k x) e h=pConv k (x.pv e):=rfl
theorem zJD (x:IX):qp nb nr (.nilCheck x) e h=pNil (x.pv e):=rfl
theorem zN5 (z:List AV) (ps:List (Nat×Nat×IX)):qp nb nr (.build z ps) e h=(pfill (ofAVs z) (ps.map fun p=>(p.1,p.2.1,p.2.2.pv e))).map .agg:=rfl
theorem zN4 (a:Bool) (n off:Nat) (x:IX):qp nb nr (.field a n off x) e h=zDB a n off (x.pv e):=rfl
theorem zHm (off:Nat) (x:IX):qp nb nr (.fieldAddr off x) e h=zAD off (x.pv e):=rfl
theorem zHl (sz:Nat) (x i:IX):qp nb nr (.indexAddr sz x i) e h=zB3 sz (x.pv e) (i.pv e):=rfl
theorem zJF (x i:IX):qp nb nr (.indexStr x i) e h=zDo (x.pv e) (i.pv e):=rfl
theorem zKd (x:IX) (i:Nat):qp nb nr (.extract x i) e h=zCV (x.pv e) i:=rfl
theorem zRU (x:IX):qp nb nr (.len x) e h=pLen (x.pv e):=rfl
theorem zL3 (x:IX):qp nb nr (.lenStr x) e h=zDn (x.pv e):=rfl
theorem zRV (x:IX):qp nb nr (.cap x) e h=pCap (x.pv e):=rfl
theorem zN3 (sz:Nat) (x:IX) (lo hi mx:Option IX):qp nb nr (.slice sz x lo hi mx) e h=Qi sz (x.pv e) (lo.map (·.pv e)) (hi.map (·.pv e)) (mx.map (·.pv e)):=rfl
theorem zJC (x:IX) (lo hi:Option IX):qp nb nr (.sliceStr x lo hi) e h=zBh (x.pv e) (lo.map (·.pv e)) (hi.map (·.pv e)):=rfl
theorem zL2 (mx:Bool) (x y:IX):qp nb nr (.maxmin mx x y) e h=zB2 mx (x.pv e) (y.pv e):=rfl
theorem zJE (f:FuncId) (a b:List IX):qp nb nr (.makeFunc f a b) e h=some (.clo f (a.map (·.pv e)) (b.map (·.pv e))):=rfl
theorem zP2 (a:Bool) (n:Nat) (x:IX):qp nb nr (.load a n x) e h=pldv a n (x.pv e) h:=rfl
theorem zRT (k:Nat):qp nb nr (.rev k) e h=if k<nr then some (.ptr (nb+k) 0)else none:=rfl
theorem zP0 (k n:Nat):qp nb nr (.revS k n) e h=if k<nr then some (.sl (nb+k) 0 n (.known n))else none:=rfl
theorem zO4 (z:List AV):ep P (.alloc z) e h KA=KA (.ptr h.next 0) (h.new (ofAVs z)):=rfl
theorem zRr (x:IX):ep P (.box x) e h KA=((x.pv e).cells.all PV.one=true∧KA (.ptr h.next 0) (h.new (x.pv e).cells)):=rfl
theorem zLM (sz len:Nat) (z:List AV) (ps:List (Nat×Nat×IX)):ep P (.buildSl sz len z ps) e h KA=optK (pfill (ofAVs (zeros z len)) (ps.map fun p=>(p.1,p.2.1,p.2.2.pv e))) fun cs=>KA (.sl h.next 0 len (.known len)) (h.new cs):=rfl
def zFT (n:Nat) (x v:PV) (h:PHeap) (KA:PV→PHeap→Prop):Prop:=
 match x with
 | .ptr s i=>v.cells.length=n∧optK (h.wr s i v.cells) fun h'=>KA .undef h'
 | _=>False
def pMake (sz bytes:Nat) (z:List AV) (l c:PV) (h:PHeap) (KA:PV→PHeap→Prop):Prop:=
 match l,c with
 | .int _ l,.int _ c=>(0≤l∧l≤c∧c*bytes≤140737488355328∧c≤9223372036854775807)∧KA (.sl h.next 0 l.toNat (.known c.toNat)) (h.new (ofAVs (zeros z c.toNat)))
 | _,_=>False
def zFV (sz bytes:Nat) (z:List AV) (s n:PV) (h:PHeap) (KA:PV→PHeap→Prop):Prop:=
 match s,n with
 | .fz _ .nils _ _,.int _ n=>(0≤n∧n*bytes≤140737488355328∧n≤4611686018427387904)∧if 0<n then KA (.sl h.next 0 n.toNat (.grown sz)) (h.new (ofAVs (zeros z n.toNat)))else KA (.fz true .nils 0 []) h
 | .sl s off len c,.int _ n=>(0≤n∧n*bytes≤140737488355328∧n≤4611686018427387904)∧optK (if 0<n then pgrow sz bytes h (.sl s off len c) (ofAVs (zeros z n.toNat)) n.toNat else(psame (.sl s off len c)).map fun v=>(v,h)) fun p=>KA p.1 p.2
 | _,_=>False
def zFU (P:Program) (f:PV) (args:List PV) (h:PHeap) (KA:PV→PHeap→Prop):Prop:=
 match f with
 | .clo f first caps=>okF P f=true∧zA P f (first++args++caps) h KA
 | _=>False
theorem zO2 (n:Nat) (x v:IX):ep P (.store n x v) e h KA=zFT n (x.pv e) (v.pv e) h KA:=rfl
theorem zKw (n s i:Nat) (v:PV):zFT n (.ptr s i) v h KA=(v.cells.length=n∧optK (h.wr s i v.cells) fun h'=>KA .undef h'):=rfl
theorem zNE (sz bytes:Nat) (z:List AV) (l c:IX):ep P (.makeSl sz bytes z l c) e h KA=pMake sz bytes z (l.pv e) (c.pv e) h KA:=rfl
theorem zJq (sz bytes:Nat) (z:List AV) (s n:IX):ep P (.appendMk sz bytes z s n) e h KA=zFV sz bytes z (s.pv e) (n.pv e) h KA:=rfl
theorem zJX (sz bytes:Nat) (z:List AV) (w:Bool) (l:Nat) (cs:List PV) (k:IntKind) (n:Int):zFV sz bytes z (.fz w .nils l cs) (.int k n) h KA=((0≤n∧n*bytes≤140737488355328∧n≤4611686018427387904)∧if 0<n then KA (.sl h.next 0 n.toNat (.grown sz)) (h.new (ofAVs (zeros z n.toNat)))else KA (.fz true .nils 0 []) h):=rfl
theorem zMZ (sz bytes:Nat) (z:List AV) (k k':IntKind) (l c:Int):pMake sz bytes z (.int k l) (.int k' c) h KA=((0≤l∧l≤c∧c*bytes≤140737488355328∧c≤9223372036854775807)∧KA (.sl h.next 0 l.toNat (.known c.toNat)) (h.new (ofAVs (zeros z c.toNat)))):=rfl
def pLook (kt:KT) (z:AV) (x k:PV) (h:PHeap) (KA:PV→PHeap→Prop):Prop:=
 match x with
 | .mref s=>optK ((h.obj s).bind fun cs=>if kt.pfits k=true then pmget kt k cs else none) fun r=>KA (r.getD (ofAV z)) h
 | _=>False
def pUpd (kt:KT) (x k v:PV) (h:PHeap) (KA:PV→PHeap→Prop):Prop:=
 match x with
 | .mref s=>optK ((h.obj s).bind fun cs=>if kt.pfits k=true∧v.leaf=true then pmset kt k v cs else none) fun cs=>KA .undef (h.set s cs)
 | _=>False
theorem zO1 (x:IX):ep P (.strOf x) e h KA=optK (zDA h (x.pv e)) fun s=>KA (.str s) h:=rfl
theorem zFx:ep P .makeMap e h KA=KA (.mref h.next) (h.new []):=rfl
theorem zDY (kt:KT) (z:AV) (x k:IX):ep P (.lookup kt z x k) e h KA=pLook kt z (x.pv e) (k.pv e) h KA:=rfl
theorem zGd {s:Nat} {kt:IntKind} {z:AV} {i:Int} {cs:List PV} {r:Option PV} (hs:h.obj s=some cs) (hr:pmget (.int kt) (.int kt i) cs=some r) (hk:KA (r.getD (ofAV z)) h):pLook (.int kt) z (.mref s) (.int kt i) h KA:=by
 refine⟨r,?_,hk⟩;rw [hs];simp only [Option.bind_some,KT.pfits,decide_true,if_true];exact hr
theorem zMa {s:Nat} {z:AV} {q:List UInt8} {cs:List PV} {r:Option PV} (hs:h.obj s=some cs) (hr:pmget .str (.str q) cs=some r) (hk:KA (r.getD (ofAV z)) h):pLook .str z (.mref s) (.str q) h KA:=by
 refine⟨r,?_,hk⟩;rw [hs];simp only [Option.bind_some,KT.pfits,if_true];exact hr
theorem zDX (kt:KT) (x k v:IX):ep P (.mapUpd kt x k v) e h KA=pUpd kt (x.pv e) (k.pv e) (v.pv e) h KA:=rfl
theorem zHz {s:Nat} {kt:IntKind} {i:Int} {v:PV} {cs ds:List PV} (hv:v.leaf=true) (hs:h.obj s=some cs) (hr:pmset (.int kt) (.int kt i) v cs=some ds) (hk:KA .undef (h.set s ds)):pUpd (.int kt) (.mref s) (.int kt i) v h KA:=by
 refine⟨ds,?_,hk⟩;rw [hs];simp only [Option.bind_some,KT.pfits,decide_true,true_and,hv,if_true];exact hr
theorem zOZ {s:Nat} {q:List UInt8} {v:PV} {cs ds:List PV} (hv:v.leaf=true) (hs:h.obj s=some cs) (hr:pmset .str (.str q) v cs=some ds) (hk:KA .undef (h.set s ds)):pUpd .str (.mref s) (.str q) v h KA:=by
 refine⟨ds,?_,hk⟩;rw [hs];simp only [Option.bind_some,KT.pfits,true_and,hv,if_true];exact hr
theorem zNF (sz bytes:Nat) (s x:IX):ep P (.append sz bytes s x) e h KA=optK (qo sz bytes h (s.pv e) (x.pv e)) fun p=>KA p.1 p.2:=rfl
theorem zQm (sz:Nat) (d s:IX):ep P (.copy sz d s) e h KA=optK (pcopy sz h (d.pv e) (s.pv e)) fun p=>KA p.1 p.2:=rfl
theorem zQn (f:FuncId) (args:List IX):ep P (.call f args) e h KA=zA P f (args.map (·.pv e)) h KA:=rfl
theorem zO3 (f:IX) (args:List IX):ep P (.callV f args) e h KA=zFU P (f.pv e) (args.map (·.pv e)) h KA:=rfl
theorem zK0 (f:FuncId) (a b args:List PV):zFU P (.clo f a b) args h KA=(okF P f=true∧zA P f (a++args++b) h KA):=rfl
theorem zOd:ofAV .undef=.undef:=rfl
theorem of_bool (b:Bool):ofAV (.bool b)=.bool b:=rfl
theorem of_int (k:IntKind) (n:Int):ofAV (.int k n)=.int k n:=rfl
theorem zRd (s:List UInt8):ofAV (.str s)=.str s:=rfl
theorem zQQ:ofAV .nilp=.nilp:=rfl
theorem zQR:ofAV .nilf=.nilf:=rfl
theorem zQP:ofAV .nils=.fz true .nils 0 []:=rfl
theorem zRe (f:FuncId) (a b:List AV):ofAV (.clo f a b)=.clo f (ofAVs a) (ofAVs b):=rfl
theorem zRf (a:List AV):ofAV (.agg a)=.agg (ofAVs a):=rfl
theorem zQO:ofAVs []=[]:=rfl
theorem zOc (c:AV) (cs:List AV):ofAVs (c::cs)=ofAV c::ofAVs cs:=rfl
theorem zQN (n:Nat) (c:AV):ofAVs (List.replicate n c)=List.replicate n (ofAV c):=by rw [zGf,List.map_replicate]
theorem zOY (k:IntKind) (ek:EqK) (a b:Int):pbin .add ek (.int k a) (.int k b)=some (.int k (k.wrap (a+b))):=by simp [pbin,abin,aint,ofAV]
theorem zOO (k:IntKind) (ek:EqK) (a b:Int):pbin .sub ek (.int k a) (.int k b)=some (.int k (k.wrap (a-b))):=by simp [pbin,abin,aint,ofAV]
theorem zOS (k:IntKind) (ek:EqK) (a b:Int):pbin .mul ek (.int k a) (.int k b)=some (.int k (k.wrap (a*b))):=by simp [pbin,abin,aint,ofAV]
theorem zOX (k:IntKind) (ek:EqK) (a b:Int):pbin .eql ek (.int k a) (.int k b)=some (.bool (decide (a=b))):=by simp [pbin,abin,aint,ofAV]
theorem zOR (k:IntKind) (ek:EqK) (a b:Int):pbin .neq ek (.int k a) (.int k b)=some (.bool (!decide (a=b))):=by simp [pbin,abin,aint,ofAV]
theorem zOT (k:IntKind) (ek:EqK) (a b:Int):pbin .lss ek (.int k a) (.int k b)=some (.bool (decide (a<b))):=by simp [pbin,abin,aint,ofAV]
theorem zOU (k:IntKind) (ek:EqK) (a b:Int):pbin .leq ek (.int k a) (.int k b)=some (.bool (decide (a≤b))):=by simp [pbin,abin,aint,ofAV]
theorem zOV (k:IntKind) (ek:EqK) (a b:Int):pbin .gtr ek (.int k a) (.int k b)=some (.bool (decide (b<a))):=by simp [pbin,abin,aint,ofAV]
theorem zOW (k:IntKind) (ek:EqK) (a b:Int):pbin .geq ek (.int k a) (.int k b)=some (.bool (decide (b≤a))):=by simp [pbin,abin,aint,ofAV]
theorem zOQ (k:IntKind) (ek:EqK) (a b:Int):pbin .quo ek (.int k a) (.int k b)=if b=0 then none else some (.int k (k.wrap (a.tdiv b))):=by simp only [pbin,abin,aint,if_true];split<;>rfl
theorem zOP (k:IntKind) (ek:EqK) (a b:Int):pbin .rem ek (.int k a) (.int k b)=if b=0 then none else some (.int k (a.tmod b)):=by simp only [pbin,abin,aint,if_true];split<;>rfl
theorem zKu (n:Nat) (xs ys:List PV):pbin .eql (.ints n) (.agg xs) (.agg ys)=if xs.length=n∧ys.length=n then(paggB xs ys).bind fun r=>some (.bool r)else none:=rfl
theorem zMS:paggB [] []=some true:=rfl
theorem zKv (k:IntKind) (a b:Int) (xs ys:List PV):paggB (.int k a::xs) (.int k b::ys)=(paggB xs ys).map fun r=>decide (a=b) && r:=by simp [paggB]
theorem zMQ (a b:Bool):pbin .eql .bool (.bool a) (.bool b)=some (.bool (a == b)):=rfl
theorem zMP (a b:Bool):pbin .neq .bool (.bool a) (.bool b)=some (.bool !(a == b)):=rfl
theorem zKt (w w':Bool) (a:AV) (n n':Nat) (cs cs':List PV):pbin .eql .slice (.fz w a n cs) (.fz w' .nils n' cs')=some (.bool (Zj a)):=rfl
theorem zJR (w w':Bool) (a:AV) (n n':Nat) (cs cs':List PV):pbin .neq .slice (.fz w a n cs) (.fz w' .nils n' cs')=some (.bool (!Zj a)):=rfl
theorem zKs (s o n:Nat) (c:Cap) (w':Bool) (n':Nat) (cs':List PV):pbin .eql .slice (.sl s o n c) (.fz w' .nils n' cs')=some (.bool false):=rfl
theorem zJQ (s o n:Nat) (c:Cap) (w':Bool) (n':Nat) (cs':List PV):pbin .neq .slice (.sl s o n c) (.fz w' .nils n' cs')=some (.bool true):=rfl
theorem zJP (ek:EqK) (a b:List UInt8):pbin .add ek (.str a) (.str b)=if a.length+b.length≤9223372036854775807 then some (.str (a++b))else none:=by simp only [pbin,astr];split<;>rfl
theorem zJO (ek:EqK) (a b:List UInt8):pbin .eql ek (.str a) (.str b)=some (.bool (a == b)):=rfl
theorem zJN (ek:EqK) (a b:List UInt8):pbin .neq ek (.str a) (.str b)=some (.bool !(a == b)):=rfl
theorem zJj:Zj .nils=true:=rfl
theorem zM0 (o f n:Nat) (c:Cap):Zj (.sl o f n c)=false:=rfl
theorem zP7 (k:IntKind) (n:Int):pun .neg (.int k n)=some (.int k (k.wrap (0-n))):=rfl
theorem zP6 (b:Bool):pun .not (.bool b)=some (.bool !b):=rfl
theorem zKx (a b:PV):pPick (.bool true) a b=some a:=rfl
theorem zJT (a b:PV):pPick (.bool false) a b=some b:=rfl
theorem zMd (k k':IntKind) (n:Int):pConv k (.int k' n)=some (.int k (k.wrap n)):=rfl
theorem zOa (s i:Nat):pNil (.ptr s i)=some (.ptr s i):=rfl
theorem zOb (f:FuncId) (a b:List PV):pNil (.clo f a b)=some (.clo f a b):=rfl
theorem zQI (a:AV) (c:PV) (cs:List PV):pNil (.fp a (c::cs))=some (.fp a (c::cs)):=rfl
theorem zKz (n off:Nat) (cs:List PV):zDB true n off (.agg cs)=some (.agg ((cs.drop off).take n)):=rfl
theorem zKy (n off:Nat) (cs:List PV):zDB false n off (.agg cs)=cs[off]?:=rfl
theorem zGG (off s i:Nat):zAD off (.ptr s i)=some (.ptr s (i+off)):=rfl
theorem zG0 (off:Nat) (a:AV) (c:PV) (cs:List PV):zAD off (.fp a (c::cs))=some (.fp (pAdd a off) ((c::cs).drop off)):=rfl
theorem zMb (sz s off len:Nat) (c:Cap) (k:IntKind) (n:Int):zB3 sz (.sl s off len c) (.int k n)=if 0≤n∧n<len then some (.ptr s (off+n.toNat*sz))else none:=rfl
theorem zMc (sz:Nat) (w:Bool) (a:AV) (len:Nat) (cs:List PV) (k:IntKind) (n:Int):zB3 sz (.fz w a len cs) (.int k n)=if 0≤n∧n<len then some (.fp (pAt a (n.toNat*sz)) (cs.drop (n.toNat*sz)))else none:=rfl
theorem zJW (s:List UInt8) (k:IntKind) (n:Int):zDo (.str s) (.int k n)=if 0≤n then(s[n.toNat]?).map fun c=>.int .u8 c.toNat else none:=rfl
theorem zH1 (vs:List PV) (i:Nat):zCV (.tup vs) i=vs[i]?:=rfl
theorem zQK (w:Bool) (a:AV) (n:Nat) (cs:List PV):pLen (.fz w a n cs)=some (.int .i64 n):=rfl
theorem zQJ (s o n:Nat) (c:Cap):pLen (.sl s o n c)=some (.int .i64 n):=rfl
theorem zJV (s:List UInt8):zDn (.str s)=some (.int .i64 s.length):=rfl
theorem zMe (w:Bool) (l:Nat) (cs:List PV):pCap (.fz w .nils l cs)=some (.int .i64 0):=rfl
theorem zQL (s o n c:Nat):pCap (.sl s o n (.known c))=some (.int .i64 c):=rfl
theorem zJU (mx:Bool) (k:IntKind) (a b:Int):zB2 mx (.int k a) (.int k b)=some (.int k (if mx=true then max a b else min a b)):=by simp [zB2]
theorem zMI (n s i:Nat):pldv false n (.ptr s i) h=h.rd1 s i:=rfl
theorem zMH (n s i:Nat):pldv true n (.ptr s i) h=(h.rd s i n).map .agg:=rfl
theorem zOK (n:Nat) (a:AV) (cs:List PV):pldv false n (.fp a cs) h=cs[0]?:=rfl
theorem zOJ (n:Nat) (a:AV) (cs:List PV):pldv true n (.fp a cs) h=if 0<n∧n≤cs.length then some (.agg (cs.take n))else none:=rfl
theorem zMG:h.news []=h:=rfl
theorem zKj (z:List AV) (zs:List (List AV)):h.news (z::zs)=(h.new (ofAVs z)).news zs:=rfl
theorem zLg (recs:List RecP):Zg [] recs h=True:=by
 apply propext;refine⟨fun _=>trivial,fun _=>?_⟩
 induction recs with
 | nil=>trivial
 | cons r rs ih=>exact⟨by simp,ih⟩
theorem zJy (c:List Nat):Zg c [] h=True:=rfl
theorem zJz (c:List Nat) (i:Nat) (a:Bool) (n:Nat) (x v:PV) (rs:List RecP):Zg c (⟨i,a,n,x,v⟩::rs) h=((if c.contains i=true then pldv a n x h=some v else True)∧Zg c rs h):=rfl
theorem zI6 (d:Option Nat) (a:Bool) (n:Nat) (x:IX) (g:Option (Nat×Bool)) (i:Nat) (c:List Nat) (v:PV):qU ⟨⟨d,.load a n x,true,g⟩,i,c⟩ e v=if zA3 g e=true then [⟨i,a,n,x.pv e,v⟩]else []:=rfl
theorem zLx (d:Option Nat) (x:IX) (g:Option (Nat×Bool)) (i:Nat) (c:List Nat) (v:PV):qU ⟨⟨d,(.mv x),true,g⟩,i,c⟩ e v=[]:=rfl
theorem zI5 (d:Option Nat) (x y z:IX) (g:Option (Nat×Bool)) (i:Nat) (c:List Nat) (v:PV):qU ⟨⟨d,(.pick x y z),true,g⟩,i,c⟩ e v=[]:=rfl
theorem zKb (d:Option Nat) (op:BinOp) (ek:EqK) (x y:IX) (g:Option (Nat×Bool)) (i:Nat) (c:List Nat) (v:PV):qU ⟨⟨d,(.bin op ek x y),true,g⟩,i,c⟩ e v=[]:=rfl
theorem zLw (d:Option Nat) (op:UnOp) (x:IX) (g:Option (Nat×Bool)) (i:Nat) (c:List Nat) (v:PV):qU ⟨⟨d,(.un op x),true,g⟩,i,c⟩ e v=[]:=rfl
theorem zI7 (d:Option Nat) (k:IntKind) (x:IX) (g:Option (Nat×Bool)) (i:Nat) (c:List Nat) (v:PV):qU ⟨⟨d,(.conv k x),true,g⟩,i,c⟩ e v=[]:=rfl
theorem zFK (d:Option Nat) (x:IX) (g:Option (Nat×Bool)) (i:Nat) (c:List Nat) (v:PV):qU ⟨⟨d,(.nilCheck x),true,g⟩,i,c⟩ e v=[]:=rfl
theorem zHh (d:Option Nat) (z:List AV) (ps:List (Nat×Nat×IX)) (g:Option (Nat×Bool)) (i:Nat) (c:List Nat) (v:PV):qU ⟨⟨d,(.build z ps),true,g⟩,i,c⟩ e v=[]:=rfl
theorem zHg (d:Option Nat) (a:Bool) (n off:Nat) (x:IX) (g:Option (Nat×Bool)) (i:Nat) (c:List Nat) (v:PV):qU ⟨⟨d,(.field a n off x),true,g⟩,i,c⟩ e v=[]:=rfl
theorem zEh (d:Option Nat) (off:Nat) (x:IX) (g:Option (Nat×Bool)) (i:Nat) (c:List Nat) (v:PV):qU ⟨⟨d,(.fieldAddr off x),true,g⟩,i,c⟩ e v=[]:=rfl
theorem zEg (d:Option Nat) (sz:Nat) (x y:IX) (g:Option (Nat×Bool)) (i:Nat) (c:List Nat) (v:PV):qU ⟨⟨d,(.indexAddr sz x y),true,g⟩,i,c⟩ e v=[]:=rfl
theorem zFM (d:Option Nat) (x y:IX) (g:Option (Nat×Bool)) (i:Nat) (c:List Nat) (v:PV):qU ⟨⟨d,(.indexStr x y),true,g⟩,i,c⟩ e v=[]:=rfl
theorem zGD (d:Option Nat) (x:IX) (j:Nat) (g:Option (Nat×Bool)) (i:Nat) (c:List Nat) (v:PV):qU ⟨⟨d,(.extract x j),true,g⟩,i,c⟩ e v=[]:=rfl
theorem zKZ (d:Option Nat) (x:IX) (g:Option (Nat×Bool)) (i:Nat) (c:List Nat) (v:PV):qU ⟨⟨d,(.len x),true,g⟩,i,c⟩ e v=[]:=rfl
theorem zGw (d:Option Nat) (x:IX) (g:Option (Nat×Bool)) (i:Nat) (c:List Nat) (v:PV):qU ⟨⟨d,(.lenStr x),true,g⟩,i,c⟩ e v=[]:=rfl
theorem zKa (d:Option Nat) (x:IX) (g:Option (Nat×Bool)) (i:Nat) (c:List Nat) (v:PV):qU ⟨⟨d,(.cap x),true,g⟩,i,c⟩ e v=[]:=rfl
theorem zHf (d:Option Nat) (sz:Nat) (x:IX) (lo hi mx:Option IX) (g:Option (Nat×Bool)) (i:Nat) (c:List Nat) (v:PV):qU ⟨⟨d,(.slice sz x lo hi mx),true,g⟩,i,c⟩ e v=[]:=rfl
theorem zFJ (d:Option Nat) (x:IX) (lo hi:Option IX) (g:Option (Nat×Bool)) (i:Nat) (c:List Nat) (v:PV):qU ⟨⟨d,(.sliceStr x lo hi),true,g⟩,i,c⟩ e v=[]:=rfl
theorem zGv (d:Option Nat) (mx:Bool) (x y:IX) (g:Option (Nat×Bool)) (i:Nat) (c:List Nat) (v:PV):qU ⟨⟨d,(.maxmin mx x y),true,g⟩,i,c⟩ e v=[]:=rfl
theorem zFL (d:Option Nat) (f:FuncId) (y z:List IX) (g:Option (Nat×Bool)) (i:Nat) (c:List Nat) (v:PV):qU ⟨⟨d,(.makeFunc f y z),true,g⟩,i,c⟩ e v=[]:=rfl
theorem zKY (d:Option Nat) (j:Nat) (g:Option (Nat×Bool)) (i:Nat) (c:List Nat) (v:PV):qU ⟨⟨d,(.rev j),true,g⟩,i,c⟩ e v=[]:=rfl
theorem zI4 (d:Option Nat) (j m:Nat) (g:Option (Nat×Bool)) (i:Nat) (c:List Nat) (v:PV):qU ⟨⟨d,(.revS j m),true,g⟩,i,c⟩ e v=[]:=rfl
theorem zHT:zA3 none e=true:=rfl
theorem zHS (t:Nat) (b:Bool):zA3 (some (t,b)) e=(match e t with | .bool c=>decide (c=b) | _=>false):=rfl
theorem zKV:Zi [] e h=some []:=rfl
theorem zKU (t:Nat) (r:List IRes):Zi (.tmp t::r) e h=(Zi r e h).map fun vs=>e t::vs:=rfl
theorem zIz (t:Nat) (a:Bool) (n:Nat) (r:List IRes):Zi (.cell t a n::r) e h=(pldv a n (e t) h).bind fun v=>(Zi r e h).map fun vs=>v::vs:=rfl
theorem zI3 (res:List IRes):retP res KA .normal e h=optK (Zi res e h) fun vs=>KA (packP vs) h:=rfl
theorem zNx (res:List IRes):retP res KA .ret e h=optK (Zi res e h) fun vs=>KA (packP vs) h:=rfl
theorem zMX (v:PV):packP [v]=v:=rfl
theorem zMY:packP []=.tup []:=rfl
theorem zMW (u v:PV) (r:List PV):packP (u::v::r)=.tup (u::v::r):=rfl
theorem zMK (cs:List PV):pfill cs []=some cs:=rfl
theorem zKk (cs:List PV) (off size:Nat) (v:PV) (r:List (Nat×Nat×PV)):pfill cs ((off,size,v)::r)=if v.cells.length=size∧off+size≤cs.length∧v.cells.all PV.one=true then pfill (cs.take off++v.cells++cs.drop (off+size)) r else none:=rfl
theorem zKo (k:IntKind) (n:Int):PV.cells (.int k n)=[(.int k n)]:=rfl
theorem zOF (k:IntKind) (n:Int):PV.one (.int k n)=true:=rfl
theorem zJM (b:Bool):PV.cells (.bool b)=[(.bool b)]:=rfl
theorem zMC (b:Bool):PV.one (.bool b)=true:=rfl
theorem zKm (s:List UInt8):PV.cells (.str s)=[(.str s)]:=rfl
theorem zOD (s:List UInt8):PV.one (.str s)=true:=rfl
theorem zJK:PV.cells .nilp=[.nilp]:=rfl
theorem zMA:PV.one .nilp=true:=rfl
theorem zJL:PV.cells .nilf=[.nilf]:=rfl
theorem zMB:PV.one .nilf=true:=rfl
theorem zMM (w:Bool) (a:AV) (n:Nat) (cs:List PV):PV.cells (.fz w a n cs)=[(.fz w a n cs)]:=rfl
theorem zQB (w:Bool) (a:AV) (n:Nat) (cs:List PV):PV.one (.fz w a n cs)=true:=rfl
theorem zMN (a:AV) (cs:List PV):PV.cells (.fp a cs)=[(.fp a cs)]:=rfl
theorem zQC (a:AV) (cs:List PV):PV.one (.fp a cs)=true:=rfl
theorem zKn (s i:Nat):PV.cells (.ptr s i)=[(.ptr s i)]:=rfl
theorem zOE (s i:Nat):PV.one (.ptr s i)=true:=rfl
theorem zML (s o n:Nat) (c:Cap):PV.cells (.sl s o n c)=[(.sl s o n c)]:=rfl
theorem zQA (s o n:Nat) (c:Cap):PV.one (.sl s o n c)=true:=rfl
theorem zKp (f:FuncId) (a b:List PV):PV.cells (.clo f a b)=[(.clo f a b)]:=rfl
theorem zOG (f:FuncId) (a b:List PV):PV.one (.clo f a b)=true:=rfl
theorem zKq (cs:List PV):PV.cells (.agg cs)=cs:=rfl
theorem zCU (k:IntKind) (i:Int) (y:Nat):Qk (.int k i) y=if 0≤i∧i≤y then some i.toNat else none:=rfl
theorem zBK (x:PV) (d y:Nat):qf (some x) d y=Qk x y:=rfl
theorem zBL (d y:Nat):qf none d y=some d:=rfl
theorem zL6 (sz:Nat) (w:Bool) (a:AV) (len:Nat) (cs:List PV) (lo hi:Option PV):Qi sz (.fz w a len cs) lo hi none=(qf hi len len).bind fun h=>(qf lo 0 h).bind fun l=>some (.fz false (pslA sz a l h) (h-l) ((cs.drop (l*sz)).take ((h-l)*sz))):=rfl
theorem zC5 (sz s off len c:Nat) (lo hi mx:Option PV):Qi sz (.sl s off len (.known c)) lo hi mx=(qf mx c c).bind fun m=>(qf hi len m).bind fun h=>(qf lo 0 h).bind fun l=>if hi.isNone=true∧mx.isSome=true then none else some (.sl s (if m=l then off else off+l*sz) (h-l) (.known (m-l))):=rfl
theorem zC6 (sz s off len g:Nat) (lo hi:Option PV):Qi sz (.sl s off len (.grown g)) lo hi none=(qf hi len len).bind fun h=>(qf lo 0 h).bind fun l=>some (.sl s (off+l*sz) (h-l) (.grown (if g=sz then g else 0))):=rfl
theorem zGx (s:List UInt8) (lo hi:Option PV):zBh (.str s) lo hi=(qf hi s.length s.length).bind fun h=>(qf lo 0 h).bind fun l=>some (.str ((s.take h).drop l)):=rfl
theorem zGF (w:Bool) (a:AV) (n:Nat) (cs:List PV):plen (.fz w a n cs)=some n:=rfl
theorem zJ8 (s o n:Nat) (c:Cap):plen (.sl s o n c)=some n:=rfl
theorem Zw (sz bytes:Nat) (s x:PV):qo sz bytes h s x=(plen x).bind fun m=>if m=0 then(psame s).map fun v=>(v,h)else(Zv sz h x m).bind fun news=>pgrow sz bytes h s news m:=rfl
theorem zEJ (s o n c:Nat):psame (.sl s o n (.known c))=if n≤c then some (.sl s o n (.known c))else none:=rfl
theorem zBj (sz:Nat) (w:Bool) (a:AV) (len:Nat) (cs:List PV) (n:Nat):Zv sz h (.fz w a len cs) n=if n=0 then some []else if n≤len∧n*sz≤cs.length∧0<sz then some (cs.take (n*sz))else none:=rfl
theorem QE (sz s off len:Nat) (c:Cap) (n:Nat):Zv sz h (.sl s off len c) n=if n=0 then some []else if n≤len then h.rd s off (n*sz)else none:=rfl
theorem zFR (sz bytes:Nat) (w:Bool) (n:Nat) (cs news:List PV) (m:Nat):pgrow sz bytes h (.fz w .nils n cs) news m=if m*bytes≤140737488355328∧m≤4611686018427387904 then some (.sl h.next 0 m (.grown sz),h.new news)else none:=rfl
theorem zAc (sz bytes s off len c:Nat) (news:List PV) (m:Nat):pgrow sz bytes h (.sl s off len (.known c)) news m=if len+m≤c then(h.wr s (off+len*sz) news).map fun σ'=>(.sl s off (len+m) (.known c),σ')else if (len+m)*bytes≤140737488355328∧len+m≤4611686018427387904 then(h.rd s off (len*sz)).map fun old=>(.sl h.next 0 (len+m) (.grown sz),h.new (old++news))else none:=rfl
theorem Qj (sz bytes s off len g:Nat) (news:List PV) (m:Nat):pgrow sz bytes h (.sl s off len (.grown g)) news m=if (len+m)*bytes≤140737488355328∧len+m≤4611686018427387904∧g=sz then(h.obj s).bind fun cs=>if off+len*sz≤cs.length then some (.sl h.next 0 (len+m) (.grown sz),(h.kill s).new ((cs.drop off).take (len*sz)++news))else none else none:=rfl
theorem zOB (cs:List PV) (s i:Nat):(h.new cs).rd1 s i=if s=h.next then cs[i]? else h.rd1 s i:=by by_cases x:s=h.next<;>simp [PHeap.rd1,PHeap.new,x]
theorem Q4 (cs:List PV) (s i n:Nat):(h.new cs).rd s i n=if s=h.next then(if i+n≤cs.length then some ((cs.drop i).take n)else none)else h.rd s i n:=by by_cases x:s=h.next<;>simp [PHeap.rd,PHeap.new,x]
theorem zH (cs:List PV) (s:Nat):(h.new cs).obj s=if s=h.next then some cs else h.obj s:=rfl
theorem zP5 (cs:List PV) (s i:Nat) (vs:List PV):(h.new cs).wr s i vs=if s=h.next then(if i+vs.length≤cs.length∧vs.all PV.one=true then some (h.new (cs.take i++vs++cs.drop (i+vs.length)))else none)else(h.wr s i vs).map fun h'=>h'.new cs:=by
 by_cases x:s=h.next
 ·subst x
  simp only [PHeap.wr,PHeap.new,if_true,Option.bind_some]
  split
  ·congr 1
   simp only [PHeap.set]
   congr 1
   funext y
   by_cases hy:y=h.next<;>simp [hy]
  ·rfl
 ·simp only [PHeap.wr,PHeap.new,if_neg x]
  cases ho:h.obj s with
  | none=>rfl
  | some ob=>
   simp only [Option.bind_some]
   split
   ·simp only [Option.map_some,PHeap.set]
    congr 2
    funext y
    by_cases hy:y=s
    ·subst hy;simp [x]
    ·simp [hy]
   ·rfl
theorem zMF (cs:List PV):(h.new cs).next=h.next+1:=rfl
theorem zHo (cs:List PV):(h.new cs).top=h.top:=rfl
theorem zN8 (cs:List PV) (s:Nat) (ds:List PV):(h.new cs).set s ds=if s=h.next then h.new ds else(h.set s ds).new cs:=by
 by_cases x:s=h.next
 ·subst x
  rw [if_pos rfl];simp only [PHeap.set,PHeap.new]
  congr 1
  funext y
  by_cases hy:y=h.next<;>simp [hy]
 ·rw [if_neg x]
  simp only [PHeap.set,PHeap.new]
  congr 1
  funext y
  by_cases hy:y=s
  ·subst hy;simp [x]
  ·simp [hy]
theorem qz (s:Nat) (cs ds:List PV):(h.set s cs).set s ds=h.set s ds:=by
 simp only [PHeap.set]
 congr 1
 funext y
 by_cases hy:y=s<;>simp [hy]
theorem zME (s:Nat) (cs:List PV):(h.set s cs).next=h.next:=rfl
theorem zKi (s:Nat):(h.kill s).next=h.next:=rfl
theorem zOH (t:Nat):(h.up t).next=h.next:=rfl
theorem zDm (t:Nat):(h.up t).top=t:=rfl
theorem zQE (t:Nat) (cs:List PV):(h.up t).new cs=(h.new cs).up t:=rfl
theorem zP9 (t s i:Nat):(h.up t).rd1 s i=h.rd1 s i:=rfl
theorem zRZ (t s i n:Nat):(h.up t).rd s i n=h.rd s i n:=rfl
theorem zQD (t s:Nat):(h.up t).obj s=h.obj s:=rfl
theorem zRX (t s i:Nat) (vs:List PV):(h.up t).wr s i vs=(h.wr s i vs).map fun h'=>h'.up t:=by
 simp only [PHeap.wr,PHeap.up];cases h.obj s with
 | none=>rfl
 | some cs=>simp only [Option.bind_some];split<;>rfl
theorem zMD (s t:Nat):(h.kill s).obj t=if t=s then none else h.obj t:=rfl
theorem zn (s:Nat) (cs:List PV) (t:Nat):(h.set s cs).obj t=if t=s then some cs else h.obj t:=rfl
theorem zL7 (s t i:Nat):(h.kill s).rd1 t i=if t=s then none else h.rd1 t i:=by by_cases x:t=s<;>simp [PHeap.rd1,PHeap.kill,x]
theorem zN9 (s t i n:Nat):(h.kill s).rd t i n=if t=s then none else h.rd t i n:=by by_cases x:t=s<;>simp [PHeap.rd,PHeap.kill,x]
theorem zOA (s:Nat) (cs:List PV) (t i:Nat):(h.set s cs).rd1 t i=if t=s then cs[i]? else h.rd1 t i:=by by_cases x:t=s<;>simp [PHeap.rd1,PHeap.set,x]
theorem zP8 (s:Nat) (cs:List PV) (t i n:Nat):(h.set s cs).rd t i n=if t=s then(if i+n≤cs.length then some ((cs.drop i).take n)else none)else h.rd t i n:=by by_cases x:t=s<;>simp [PHeap.rd,PHeap.set,x]
theorem zP4 (s:Nat) (cs:List PV) (i:Nat) (vs:List PV):(h.set s cs).wr s i vs=if i+vs.length≤cs.length∧vs.all PV.one=true then some (h.set s (cs.take i++vs++cs.drop (i+vs.length)))else none:=by
 simp only [PHeap.wr,PHeap.set,if_true,Option.bind_some]
 split
 ·congr 2
  funext y
  by_cases hy:y=s<;>simp [hy]
 ·rfl
end
def pw0:=And.intro @zPc <| And.intro @zLh <| And.intro @zPe <| And.intro @zRB <| And.intro @zPf <| And.intro @zNj <| And.intro @zPd <| And.intro @zRC <| And.intro @zQ1 <| And.intro @RVp_q <| And.intro @RVp_e <| And.intro @zQ6 <| And.intro @DVp_q <| And.intro @DVp_e <| And.intro @zOq <| And.intro @zOp <| And.intro @zOs <| And.intro @zOr <| And.intro @zJI <| And.intro @zHy <| And.intro @zKl <| And.intro @zJJ <| And.intro @zHx <| And.intro @zHv <| And.intro @zHu <| And.intro @zHw <| And.intro @pv_t <| And.intro @pv_c <| And.intro @zOI <| @zL8
def pw1:=And.intro @zL9 <| And.intro @qp_mv <| And.intro @zP1 <| And.intro @zRW <| And.intro @qp_un <| And.intro @zP3 <| And.intro @zJD <| And.intro @zN5 <| And.intro @zN4 <| And.intro @zHm <| And.intro @zHl <| And.intro @zJF <| And.intro @zKd <| And.intro @zRU <| And.intro @zL3 <| And.intro @zRV <| And.intro @zN3 <| And.intro @zJC <| And.intro @zL2 <| And.intro @zJE <| And.intro @zP2 <| And.intro @zRT <| And.intro @zP0 <| And.intro @zO4 <| And.intro @zRr <| And.intro @zLM <| And.intro @zO2 <| And.intro @zKw <| And.intro @zNE <| And.intro @zJq <| @zJX
def pw2:=And.intro @zMZ <| And.intro @zNF <| And.intro @zQm <| And.intro @zQn <| And.intro @zO3 <| And.intro @zK0 <| And.intro @zOd <| And.intro @of_bool <| And.intro @of_int <| And.intro @zRd <| And.intro @zQQ <| And.intro @zQR <| And.intro @zQP <| And.intro @zRe <| And.intro @zRf <| And.intro @zQO <| And.intro @zOc <| And.intro @zQN <| And.intro @zOY <| And.intro @zOO <| And.intro @zOS <| And.intro @zOX <| And.intro @zOR <| And.intro @zOT <| And.intro @zOU <| And.intro @zOV <| And.intro @zOW <| And.intro @zOQ <| And.intro @zOP <| @zKu
def pw3:=And.intro @zMS <| And.intro @zKv <| And.intro @zMQ <| And.intro @zMP <| And.intro @zKt <| And.intro @zJR <| And.intro @zKs <| And.intro @zJQ <| And.intro @zJP <| And.intro @zJO <| And.intro @zJN <| And.intro @zJj <| And.intro @zM0 <| And.intro @zP7 <| And.intro @zP6 <| And.intro @zKx <| And.intro @zJT <| And.intro @zMd <| And.intro @zOa <| And.intro @zOb <| And.intro @zQI <| And.intro @zKz <| And.intro @zKy <| And.intro @zGG <| And.intro @zG0 <| And.intro @zMb <| And.intro @zMc <| And.intro @zJW <| And.intro @zH1 <| @zQK
def pw4:=And.intro @zQJ <| And.intro @zJV <| And.intro @zMe <| And.intro @zQL <| And.intro @zJU <| And.intro @zMI <| And.intro @zMH <| And.intro @zOK <| And.intro @zOJ <| And.intro @zMG <| And.intro @zKj <| And.intro @zLg <| And.intro @zJy <| And.intro @zJz <| And.intro @zI6 <| And.intro @zLx <| And.intro @zI5 <| And.intro @zKb <| And.intro @zLw <| And.intro @zI7 <| And.intro @zFK <| And.intro @zHh <| And.intro @zHg <| And.intro @zEh <| And.intro @zEg <| And.intro @zFM <| And.intro @zGD <| And.intro @zKZ <| And.intro @zGw <| @zKa
def pw5:=And.intro @zHf <| And.intro @zFJ <| And.intro @zGv <| And.intro @zFL <| And.intro @zKY <| And.intro @zI4 <| And.intro @zHT <| And.intro @zHS <| And.intro @zKV <| And.intro @zKU <| And.intro @zIz <| And.intro @zI3 <| And.intro @zNx <| And.intro @zMX <| And.intro @zMY <| And.intro @zMW <| And.intro @zMK <| And.intro @zKk <| And.intro @zKo <| And.intro @zOF <| And.intro @zJM <| And.intro @zMC <| And.intro @zKm <| And.intro @zOD <| And.intro @zJK <| And.intro @zMA <| And.intro @zJL <| And.intro @zMB <| And.intro @zMM <| And.intro @zQB <| @zMN
def pw6:=And.intro @zQC <| And.intro @zKn <| And.intro @zOE <| And.intro @zML <| And.intro @zQA <| And.intro @zKp <| And.intro @zOG <| And.intro @zKq <| And.intro @zCU <| And.intro @zBK <| And.intro @zBL <| And.intro @zL6 <| And.intro @zC5 <| And.intro @zC6 <| And.intro @zGx <| And.intro @zGF <| And.intro @zJ8 <| And.intro @zOB <| And.intro @Q4 <| And.intro @zH <| And.intro @zP5 <| And.intro @zMF <| And.intro @zHo <| And.intro @zN8 <| And.intro @qz <| And.intro @zME <| And.intro @zKi <| And.intro @zOH <| And.intro @zDm <| @zQE
def pw7:=And.intro @zP9 <| And.intro @zRZ <| And.intro @zQD <| And.intro @zRX <| And.intro @zMD <| And.intro @zn <| And.intro @zL7 <| And.intro @zN9 <| And.intro @zOA <| And.intro @zP8 <| And.intro @zP4 <| And.intro @zM <| And.intro @zN <| And.intro @zX <| And.intro @zq <| And.intro @List.map_cons.{0,0} <| And.intro @List.map_nil.{0,0} <| And.intro @List.length_cons.{0} <| And.intro @List.length_nil.{0} <| And.intro @List.getElem?_cons_zero.{0} <| And.intro @List.getElem?_cons_succ.{0} <| And.intro @List.take_succ_cons.{0} <| And.intro @List.take_zero.{0} <| And.intro @List.drop_succ_cons.{0} <| And.intro @List.drop_zero.{0} <| And.intro @List.take_nil.{0} <| And.intro @List.drop_nil.{0} <| And.intro @List.nil_append.{0} <| And.intro @List.cons_append.{0} <| @List.append_nil.{0}
def pw8:=And.intro @List.all_cons.{0} <| And.intro @List.all_nil.{0} <| And.intro @List.contains_cons.{0} <| And.intro @List.contains_nil.{0} <| And.intro @Option.map_some.{0,0} <| And.intro @Option.map_none.{0,0} <| And.intro @Option.bind_some.{0,0} <| And.intro @Option.bind_none.{0,0} <| And.intro @decide_true <| And.intro @decide_false <| And.intro @Bool.not_true <| And.intro @Bool.not_false <| And.intro @Bool.and_true <| And.intro @Bool.true_and <| And.intro @Bool.and_self <| And.intro @Bool.or_false <| And.intro @Bool.or_true <| And.intro @Bool.true_or <| And.intro @Bool.false_or <| And.intro @true_and <| And.intro @and_true <| And.intro @Bool.true_eq_false <| And.intro @Bool.false_eq_true <| And.intro @Nat.left_eq_add <| And.intro @Nat.add_eq_left <| And.intro @Nat.succ_ne_self <| And.intro @Nat.one_ne_zero <| And.intro @Nat.add_left_cancel_iff <| And.intro @Nat.add_assoc <| @Nat.mul_one
def pw9:=And.intro @Nat.zero_add <| And.intro @Nat.add_zero <| And.intro @Nat.le_refl <| And.intro @Nat.lt_add_one <| And.intro @Int.toNat_natCast <| And.intro @Int.natCast_nonneg <| And.intro @Int.ofNat_lt <| And.intro @Int.le_refl <| And.intro @zJ <| And.intro @zK <| And.intro @zG <| And.intro @Nat.one_mul <| @Nat.zero_mul
def pwA:=And.intro pw0 <| And.intro pw1 <| And.intro pw2 <| And.intro pw3 <| And.intro pw4 <| And.intro pw5 <| And.intro pw6 <| And.intro pw7 <| And.intro pw8 <| And.intro pw9 <| And.intro @nm_eq <| And.intro @eq_self.{1} <| And.intro @Int.ofNat_le @List.getElem?_drop.{0}
end Go.Ab
