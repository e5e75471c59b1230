/- THE RULES BY WHICH CODE IS WALKED over values without a heap: equations, and the one name 'pw' for all of them. Written by a program. -/
import Derived.Test.YtkhbdmlhjnijaaaAAbPg
import Derived.Test.YtkhbdmlhjnijaaaAAbAid
set_option linter.unusedVariables false
set_option linter.unusedSimpArgs false
set_option linter.defProp false
namespace Go.Ab
section
variable {P:Program} {Q:Exit→PEnv→PHeap→Prop} {e:PEnv} {h:PHeap} {K:PEnv→PHeap→Prop} {KA:PV→PHeap→Prop} {nb nr:Nat}
theorem zGX:vp P .skip Q e h=Q .normal e h:=rfl
theorem zEV (S:List Nat) (its:List II):vp P (.region S its) Q e h=RVp P its e h fun e' h'=>Q .normal (PEnv.mk S (S.map e')) h':=rfl
theorem zGZ (S:List Nat) (zs:List (List AV)) (its:List DI):vp P (.draw S zs its) Q e h=DVp P h.next zs.length its [] e (h.news zs) fun e' h'=>Q .normal (PEnv.mk S (S.map e')) h':=rfl
theorem zHJ (a b:IC):vp P (.seq a b) Q e h=vp P a (fun x e' h'=>match x with | .normal=>vp P b Q e' h' | x=>Q x e' h') e h:=rfl
theorem zGa (c:IX) (a b:IC):vp P (.cond c a b) Q e h=qA (c.pv e) (vp P a Q e h) (vp P b Q e h):=rfl
theorem zFZ (id:Nat) (c:IC):vp P (.block id c) Q e h=vp P c (fun x e' h'=>match x with | .exit id'=>if id'=id then Q .normal e' h' else Q (.exit id') e' h' | x=>Q x e' h') e h:=rfl
theorem zGY (id:Nat):vp P (.exit id) Q e h=Q (.exit id) e h:=rfl
theorem zHK:vp P .ret Q e h=Q .ret e h:=rfl
theorem zHE:RVp P [] e h K=K e h:=rfl
theorem RVp_q (d:Option Nat) (op:IOp) (g:Option (Nat×Bool)) (r:List II):RVp P (⟨d,op,true,g⟩::r) e h K=optK (gqp 0 0 ⟨d,op,true,g⟩ e h) fun v=>RVp P r (e.put d v) h K:=rfl
theorem RVp_e (d:Option Nat) (op:IOp) (g:Option (Nat×Bool)) (r:List II):RVp P (⟨d,op,false,g⟩::r) e h K=gep P ⟨d,op,false,g⟩ e h fun v h'=>RVp P r (e.put d v) h' K:=rfl
theorem zHG (recs:List RecP):DVp P nb nr [] recs e h K=K e h:=rfl
theorem DVp_q (d:Option Nat) (op:IOp) (g:Option (Nat×Bool)) (i:Nat) (c:List Nat) (r:List DI) (recs:List RecP):DVp P nb nr (⟨⟨d,op,true,g⟩,i,c⟩::r) recs e h K=optK (gqp nb nr ⟨d,op,true,g⟩ e h) fun v=>DVp P nb nr r (zM ⟨⟨d,op,true,g⟩,i,c⟩ e v++recs) (e.put d v) h K:=rfl
theorem DVp_e (d:Option Nat) (op:IOp) (g:Option (Nat×Bool)) (i:Nat) (c:List Nat) (r:List DI) (recs:List RecP):DVp P nb nr (⟨⟨d,op,false,g⟩,i,c⟩::r) recs e h K=gep P ⟨d,op,false,g⟩ e h fun v h'=>ql c recs h'∧DVp P nb nr r recs (e.put d v) h' K:=rfl
theorem zGL (d:Option Nat) (op:IOp) (q:Bool):gqp nb nr ⟨d,op,q,none⟩ e h=qp nb nr op e h:=rfl
theorem zGK (d:Option Nat) (op:IOp) (q:Bool) (t:Nat) (b:Bool):gqp nb nr ⟨d,op,q,some (t,b)⟩ e h=qa (e t) b (qp nb nr op e h):=rfl
theorem zGN (d:Option Nat) (op:IOp) (q:Bool):gep P ⟨d,op,q,none⟩ e h KA=ep P op e h KA:=rfl
theorem zGM (d:Option Nat) (op:IOp) (q:Bool) (t:Nat) (b:Bool):gep P ⟨d,op,q,some (t,b)⟩ e h KA=qC (e t) b (ep P op e h KA) (KA (.tup []) h):=rfl
theorem zC1 (a b:Prop):qA (.bool true) a b=a:=rfl
theorem zCD (a b:Prop):qA (.bool false) a b=b:=rfl
theorem zDw (c:Prop) [Decidable c] (a b:Prop):qA (.bool (decide c)) a b=if c then a else b:=by by_cases x:c<;>simp [qA,x]
theorem zC2 (c:Prop) [Decidable c] (a b:Prop):qA (.bool (!decide c)) a b=if c then b else a:=by by_cases x:c<;>simp [qA,x]
theorem zCC (c b:Bool) (x y:Prop):qC (.bool c) b x y=if c=b then x else y:=rfl
theorem zCA (c b:Bool) (x:Option PV):qa (.bool c) b x=if c=b then x else some (.tup []):=rfl
theorem zB9 (b:Bool) (x:Option PV):qa (.tup []) b x=some (.tup []):=rfl
theorem zCB (b:Bool) (x y:Prop):qC (.tup []) b x y=y:=rfl
theorem pv_t (n:Nat):(IX.t n).pv e=e n:=rfl
theorem pv_c (v:AV):(IX.c v).pv e=ofAV v:=rfl
theorem zFw (s:Nat) (S:List Nat) (v:PV) (vs:List PV) (t:Nat):PEnv.mk (s::S) (v::vs) t=if t=s then v else PEnv.mk S vs t:=rfl
theorem zEi (d:Nat) (v:PV) (t:Nat):e.put (some d) v t=if t=d then v else e t:=rfl
theorem zEj (v:PV):e.put none v=e:=rfl
theorem qp_mv (x:IX):qp nb nr (.mv x) e h=some (x.pv e):=rfl
theorem zGd (c a b:IX):qp nb nr (.pick c a b) e h=pPick (c.pv e) (a.pv e) (b.pv e):=rfl
theorem zHP (op:BinOp) (ek:EqK) (x y:IX):qp nb nr (.bin op ek x y) e h=pbin op ek (x.pv e) (y.pv e):=rfl
theorem qp_un (op:UnOp) (x:IX):qp nb nr (.un op x) e h=pun op (x.pv e):=rfl
theorem zGf (k:IntKind) (x:IX):qp nb nr (.conv k x) e h=pConv k (x.pv e):=rfl
theorem zCt (x:IX):qp nb nr (.nilCheck x) e h=pNil (x.pv e):=rfl
theorem zFh (z:List AV) (ps:List (Nat×Nat×IX)):qp nb nr (.build z ps) e h=(pfill (ofAVs z) (ps.map fun p=>(p.1,p.2.1,p.2.2.pv e))).map .agg:=rfl
theorem zFg (a:Bool) (n off:Nat) (x:IX):qp nb nr (.field a n off x) e h=Qe a n off (x.pv e):=rfl
theorem zB5 (off:Nat) (x:IX):qp nb nr (.fieldAddr off x) e h=qd off (x.pv e):=rfl
theorem zB4 (sz:Nat) (x i:IX):qp nb nr (.indexAddr sz x i) e h=Zx sz (x.pv e) (i.pv e):=rfl
theorem zCv (x i:IX):qp nb nr (.indexStr x i) e h=Qv (x.pv e) (i.pv e):=rfl
theorem zDr (x:IX) (i:Nat):qp nb nr (.extract x i) e h=QE (x.pv e) i:=rfl
theorem zHN (x:IX):qp nb nr (.len x) e h=pLen (x.pv e):=rfl
theorem zEe (x:IX):qp nb nr (.lenStr x) e h=Qu (x.pv e):=rfl
theorem zHO (x:IX):qp nb nr (.cap x) e h=pCap (x.pv e):=rfl
theorem zFf (sz:Nat) (x:IX) (lo hi mx:Option IX):qp nb nr (.slice sz x lo hi mx) e h=qz sz (x.pv e) (lo.map (·.pv e)) (hi.map (·.pv e)) (mx.map (·.pv e)):=rfl
theorem zCs (x:IX) (lo hi:Option IX):qp nb nr (.sliceStr x lo hi) e h=Zg (x.pv e) (lo.map (·.pv e)) (hi.map (·.pv e)):=rfl
theorem zEd (mx:Bool) (x y:IX):qp nb nr (.maxmin mx x y) e h=Zw mx (x.pv e) (y.pv e):=rfl
theorem zCu (f:FuncId) (a b:List IX):qp nb nr (.makeFunc f a b) e h=some (.clo f (a.map (·.pv e)) (b.map (·.pv e))):=rfl
theorem zGe (a:Bool) (n:Nat) (x:IX):qp nb nr (.load a n x) e h=pldv a n (x.pv e) h:=rfl
theorem zHM (k:Nat):qp nb nr (.rev k) e h=if k<nr then some (.ptr (nb+k) 0)else none:=rfl
theorem zGc (k n:Nat):qp nb nr (.revS k n) e h=if k<nr then some (.sl (nb+k) 0 n (.known n))else none:=rfl
theorem zGT (z:List AV):ep P (.alloc z) e h KA=KA (.ptr h.next 0) (h.new (ofAVs z)):=rfl
theorem zHb (x:IX):ep P (.box x) e h KA=((x.pv e).cells.all PV.one=true∧KA (.ptr h.next 0) (h.new (x.pv e).cells)):=rfl
theorem zEJ (sz len:Nat) (z:List AV) (ps:List (Nat×Nat×IX)):ep P (.buildSl sz len z ps) e h KA=optK (pfill (ofAVs (zeros z len)) (ps.map fun p=>(p.1,p.2.1,p.2.2.pv e))) fun cs=>KA (.sl h.next 0 len (.known len)) (h.new cs):=rfl
def zAx (n:Nat) (x v:PV) (h:PHeap) (KA:PV→PHeap→Prop):Prop:=
 match x with
 | .ptr s i=>v.cells.length=n∧optK (h.wr s i v.cells) fun h'=>KA .undef h'
 | _=>False
def pMake (sz bytes:Nat) (z:List AV) (l c:PV) (h:PHeap) (KA:PV→PHeap→Prop):Prop:=
 match l,c with
 | .int _ l,.int _ c=>(0≤l∧l≤c∧c*bytes≤140737488355328∧c≤9223372036854775807)∧KA (.sl h.next 0 l.toNat (.known c.toNat)) (h.new (ofAVs (zeros z c.toNat)))
 | _,_=>False
def zAz (sz bytes:Nat) (z:List AV) (s n:PV) (h:PHeap) (KA:PV→PHeap→Prop):Prop:=
 match s,n with
 | .fz _ .nils _ _,.int _ n=>(0≤n∧n*bytes≤140737488355328∧n≤4611686018427387904)∧if 0<n then KA (.sl h.next 0 n.toNat (.grown sz)) (h.new (ofAVs (zeros z n.toNat)))else KA (.fz true .nils 0 []) h
 | .sl s off len c,.int _ n=>(0≤n∧n*bytes≤140737488355328∧n≤4611686018427387904)∧optK (if 0<n then pgrow sz bytes h (.sl s off len c) (ofAVs (zeros z n.toNat)) n.toNat else(psame (.sl s off len c)).map fun v=>(v,h)) fun p=>KA p.1 p.2
 | _,_=>False
def zAy (P:Program) (f:PV) (args:List PV) (h:PHeap) (KA:PV→PHeap→Prop):Prop:=
 match f with
 | .clo f first caps=>okF P f=true∧zA P f (first++args++caps) h KA
 | _=>False
theorem zGR (n:Nat) (x v:IX):ep P (.store n x v) e h KA=zAx n (x.pv e) (v.pv e) h KA:=rfl
theorem zD8 (n s i:Nat) (v:PV):zAx n (.ptr s i) v h KA=(v.cells.length=n∧optK (h.wr s i v.cells) fun h'=>KA .undef h'):=rfl
theorem zFP (sz bytes:Nat) (z:List AV) (l c:IX):ep P (.makeSl sz bytes z l c) e h KA=pMake sz bytes z (l.pv e) (c.pv e) h KA:=rfl
theorem zDS (sz bytes:Nat) (z:List AV) (s n:IX):ep P (.appendMk sz bytes z s n) e h KA=zAz sz bytes z (s.pv e) (n.pv e) h KA:=rfl
theorem zDG (sz bytes:Nat) (z:List AV) (w:Bool) (l:Nat) (cs:List PV) (k:IntKind) (n:Int):zAz sz bytes z (.fz w .nils l cs) (.int k n) h KA=((0≤n∧n*bytes≤140737488355328∧n≤4611686018427387904)∧if 0<n then KA (.sl h.next 0 n.toNat (.grown sz)) (h.new (ofAVs (zeros z n.toNat)))else KA (.fz true .nils 0 []) h):=rfl
theorem zE6 (sz bytes:Nat) (z:List AV) (k k':IntKind) (l c:Int):pMake sz bytes z (.int k l) (.int k' c) h KA=((0≤l∧l≤c∧c*bytes≤140737488355328∧c≤9223372036854775807)∧KA (.sl h.next 0 l.toNat (.known c.toNat)) (h.new (ofAVs (zeros z c.toNat)))):=rfl
theorem zFQ (sz bytes:Nat) (s x:IX):ep P (.append sz bytes s x) e h KA=optK (qx sz bytes h (s.pv e) (x.pv e)) fun p=>KA p.1 p.2:=rfl
theorem zHC (sz:Nat) (d s:IX):ep P (.copy sz d s) e h KA=optK (pcopy sz h (d.pv e) (s.pv e)) fun p=>KA p.1 p.2:=rfl
theorem zHD (f:FuncId) (args:List IX):ep P (.call f args) e h KA=zA P f (args.map (·.pv e)) h KA:=rfl
theorem zGS (f:IX) (args:List IX):ep P (.callV f args) e h KA=zAy P (f.pv e) (args.map (·.pv e)) h KA:=rfl
theorem zEC (f:FuncId) (a b args:List PV):zAy P (.clo f a b) args h KA=(okF P f=true∧zA P f (a++args++b) h KA):=rfl
theorem zGG:ofAV .undef=.undef:=rfl
theorem of_bool (b:Bool):ofAV (.bool b)=.bool b:=rfl
theorem of_int (k:IntKind) (n:Int):ofAV (.int k n)=.int k n:=rfl
theorem zHT (s:List UInt8):ofAV (.str s)=.str s:=rfl
theorem zG2:ofAV .nilp=.nilp:=rfl
theorem zG3:ofAV .nilf=.nilf:=rfl
theorem zG1:ofAV .nils=.fz true .nils 0 []:=rfl
theorem zHU (f:FuncId) (a b:List AV):ofAV (.clo f a b)=.clo f (ofAVs a) (ofAVs b):=rfl
theorem zHV (a:List AV):ofAV (.agg a)=.agg (ofAVs a):=rfl
theorem zG0:ofAVs []=[]:=rfl
theorem zGF (c:AV) (cs:List AV):ofAVs (c::cs)=ofAV c::ofAVs cs:=rfl
theorem zGz (n:Nat) (c:AV):ofAVs (List.replicate n c)=List.replicate n (ofAV c):=by rw [zBV,List.map_replicate]
theorem zGB (k:IntKind) (ek:EqK) (a b:Int):pbin .add ek (.int k a) (.int k b)=some (.int k (k.wrap (a+b))):=by simp [pbin,abin,aint,ofAV]
theorem zF1 (k:IntKind) (ek:EqK) (a b:Int):pbin .sub ek (.int k a) (.int k b)=some (.int k (k.wrap (a-b))):=by simp [pbin,abin,aint,ofAV]
theorem zF5 (k:IntKind) (ek:EqK) (a b:Int):pbin .mul ek (.int k a) (.int k b)=some (.int k (k.wrap (a*b))):=by simp [pbin,abin,aint,ofAV]
theorem zGA (k:IntKind) (ek:EqK) (a b:Int):pbin .eql ek (.int k a) (.int k b)=some (.bool (decide (a=b))):=by simp [pbin,abin,aint,ofAV]
theorem zF4 (k:IntKind) (ek:EqK) (a b:Int):pbin .neq ek (.int k a) (.int k b)=some (.bool (!decide (a=b))):=by simp [pbin,abin,aint,ofAV]
theorem zF6 (k:IntKind) (ek:EqK) (a b:Int):pbin .lss ek (.int k a) (.int k b)=some (.bool (decide (a<b))):=by simp [pbin,abin,aint,ofAV]
theorem zF7 (k:IntKind) (ek:EqK) (a b:Int):pbin .leq ek (.int k a) (.int k b)=some (.bool (decide (a≤b))):=by simp [pbin,abin,aint,ofAV]
theorem zF8 (k:IntKind) (ek:EqK) (a b:Int):pbin .gtr ek (.int k a) (.int k b)=some (.bool (decide (b<a))):=by simp [pbin,abin,aint,ofAV]
theorem zF9 (k:IntKind) (ek:EqK) (a b:Int):pbin .geq ek (.int k a) (.int k b)=some (.bool (decide (b≤a))):=by simp [pbin,abin,aint,ofAV]
theorem zF3 (k:IntKind) (ek:EqK) (a b:Int):pbin .quo ek (.int k a) (.int k b)=if b=0 then none else some (.int k (k.wrap (a.tdiv b))):=by simp only [pbin,abin,aint,if_true];split<;>rfl
theorem zF2 (k:IntKind) (ek:EqK) (a b:Int):pbin .rem ek (.int k a) (.int k b)=if b=0 then none else some (.int k (a.tmod b)):=by simp only [pbin,abin,aint,if_true];split<;>rfl
theorem zD5 (n:Nat) (xs ys:List PV):pbin .eql (.ints n) (.agg xs) (.agg ys)=if xs.length=n∧ys.length=n then(paggB xs ys).bind fun r=>some (.bool r)else none:=rfl
theorem zE2:paggB [] []=some true:=rfl
theorem zD7 (k:IntKind) (a b:Int) (xs ys:List PV):paggB (.int k a::xs) (.int k b::ys)=(paggB xs ys).map fun r=>decide (a=b) && r:=by simp [paggB]
theorem zE1 (a b:Bool):pbin .eql .bool (.bool a) (.bool b)=some (.bool (a == b)):=rfl
theorem zE0 (a b:Bool):pbin .neq .bool (.bool a) (.bool b)=some (.bool !(a == b)):=rfl
theorem zD4 (w w':Bool) (a:AV) (n n':Nat) (cs cs':List PV):pbin .eql .slice (.fz w a n cs) (.fz w' .nils n' cs')=some (.bool (zm a)):=rfl
theorem zDA (w w':Bool) (a:AV) (n n':Nat) (cs cs':List PV):pbin .neq .slice (.fz w a n cs) (.fz w' .nils n' cs')=some (.bool (!zm a)):=rfl
theorem zD3 (s o n:Nat) (c:Cap) (w':Bool) (n':Nat) (cs':List PV):pbin .eql .slice (.sl s o n c) (.fz w' .nils n' cs')=some (.bool false):=rfl
theorem zC9 (s o n:Nat) (c:Cap) (w':Bool) (n':Nat) (cs':List PV):pbin .neq .slice (.sl s o n c) (.fz w' .nils n' cs')=some (.bool true):=rfl
theorem zC8 (ek:EqK) (a b:List UInt8):pbin .add ek (.str a) (.str b)=if a.length+b.length≤9223372036854775807 then some (.str (a++b))else none:=by simp only [pbin,astr];split<;>rfl
theorem zC7 (ek:EqK) (a b:List UInt8):pbin .eql ek (.str a) (.str b)=some (.bool (a == b)):=rfl
theorem zC6 (ek:EqK) (a b:List UInt8):pbin .neq ek (.str a) (.str b)=some (.bool !(a == b)):=rfl
theorem zDO:zm .nils=true:=rfl
theorem zFH (o f n:Nat) (c:Cap):zm (.sl o f n c)=false:=rfl
theorem zGj (k:IntKind) (n:Int):pun .neg (.int k n)=some (.int k (k.wrap (0-n))):=rfl
theorem zGi (b:Bool):pun .not (.bool b)=some (.bool !b):=rfl
theorem zD9 (a b:PV):pPick (.bool true) a b=some a:=rfl
theorem zDC (a b:PV):pPick (.bool false) a b=some b:=rfl
theorem zE9 (k k':IntKind) (n:Int):pConv k (.int k' n)=some (.int k (k.wrap n)):=rfl
theorem zGC (s i:Nat):pNil (.ptr s i)=some (.ptr s i):=rfl
theorem zGD (f:FuncId) (a b:List PV):pNil (.clo f a b)=some (.clo f a b):=rfl
theorem zGv (a:AV) (c:PV) (cs:List PV):pNil (.fp a (c::cs))=some (.fp a (c::cs)):=rfl
theorem zEB (n off:Nat) (cs:List PV):Qe true n off (.agg cs)=some (.agg ((cs.drop off).take n)):=rfl
theorem zEA (n off:Nat) (cs:List PV):Qe false n off (.agg cs)=cs[off]?:=rfl
theorem zBO (off s i:Nat):qd off (.ptr s i)=some (.ptr s (i+off)):=rfl
theorem zBh (off:Nat) (a:AV) (c:PV) (cs:List PV):qd off (.fp a (c::cs))=some (.fp (pAdd a off) ((c::cs).drop off)):=rfl
theorem zE7 (sz s off len:Nat) (c:Cap) (k:IntKind) (n:Int):Zx sz (.sl s off len c) (.int k n)=if 0≤n∧n<len then some (.ptr s (off+n.toNat*sz))else none:=rfl
theorem zE8 (sz:Nat) (w:Bool) (a:AV) (len:Nat) (cs:List PV) (k:IntKind) (n:Int):Zx sz (.fz w a len cs) (.int k n)=if 0≤n∧n<len then some (.fp (pAt a (n.toNat*sz)) (cs.drop (n.toNat*sz)))else none:=rfl
theorem zDF (s:List UInt8) (k:IntKind) (n:Int):Qv (.str s) (.int k n)=if 0≤n then(s[n.toNat]?).map fun c=>.int .u8 c.toNat else none:=rfl
theorem zCG (vs:List PV) (i:Nat):QE (.tup vs) i=vs[i]?:=rfl
theorem zGx (w:Bool) (a:AV) (n:Nat) (cs:List PV):pLen (.fz w a n cs)=some (.int .i64 n):=rfl
theorem zGw (s o n:Nat) (c:Cap):pLen (.sl s o n c)=some (.int .i64 n):=rfl
theorem zDE (s:List UInt8):Qu (.str s)=some (.int .i64 s.length):=rfl
theorem zFA (w:Bool) (l:Nat) (cs:List PV):pCap (.fz w .nils l cs)=some (.int .i64 0):=rfl
theorem zGy (s o n c:Nat):pCap (.sl s o n (.known c))=some (.int .i64 c):=rfl
theorem zDD (mx:Bool) (k:IntKind) (a b:Int):Zw mx (.int k a) (.int k b)=some (.int k (if mx=true then max a b else min a b)):=by simp [Zw]
theorem zEs (n s i:Nat):pldv false n (.ptr s i) h=h.rd1 s i:=rfl
theorem zEr (n s i:Nat):pldv true n (.ptr s i) h=(h.rd s i n).map .agg:=rfl
theorem zFy (n:Nat) (a:AV) (cs:List PV):pldv false n (.fp a cs) h=cs[0]?:=rfl
theorem zFx (n:Nat) (a:AV) (cs:List PV):pldv true n (.fp a cs) h=if 0<n∧n≤cs.length then some (.agg (cs.take n))else none:=rfl
theorem zEq:h.news []=h:=rfl
theorem zDu (z:List AV) (zs:List (List AV)):h.news (z::zs)=(h.new (ofAVs z)).news zs:=rfl
theorem zET (recs:List RecP):ql [] recs h=True:=by
 apply propext;refine⟨fun _=>trivial,fun _=>?_⟩
 induction recs with
 | nil=>trivial
 | cons r rs ih=>exact⟨by simp,ih⟩
theorem zDU (c:List Nat):ql c [] h=True:=rfl
theorem zDV (c:List Nat) (i:Nat) (a:Bool) (n:Nat) (x v:PV) (rs:List RecP):ql c (⟨i,a,n,x,v⟩::rs) h=((if c.contains i=true then pldv a n x h=some v else True)∧ql c rs h):=rfl
theorem zCq (d:Option Nat) (a:Bool) (n:Nat) (x:IX) (g:Option (Nat×Bool)) (i:Nat) (c:List Nat) (v:PV):zM ⟨⟨d,.load a n x,true,g⟩,i,c⟩ e v=if ZQ g e=true then [⟨i,a,n,x.pv e,v⟩]else []:=rfl
theorem zEb (d:Option Nat) (x:IX) (g:Option (Nat×Bool)) (i:Nat) (c:List Nat) (v:PV):zM ⟨⟨d,(.mv x),true,g⟩,i,c⟩ e v=[]:=rfl
theorem zCp (d:Option Nat) (x y z:IX) (g:Option (Nat×Bool)) (i:Nat) (c:List Nat) (v:PV):zM ⟨⟨d,(.pick x y z),true,g⟩,i,c⟩ e v=[]:=rfl
theorem zDq (d:Option Nat) (op:BinOp) (ek:EqK) (x y:IX) (g:Option (Nat×Bool)) (i:Nat) (c:List Nat) (v:PV):zM ⟨⟨d,(.bin op ek x y),true,g⟩,i,c⟩ e v=[]:=rfl
theorem zEZ (d:Option Nat) (op:UnOp) (x:IX) (g:Option (Nat×Bool)) (i:Nat) (c:List Nat) (v:PV):zM ⟨⟨d,(.un op x),true,g⟩,i,c⟩ e v=[]:=rfl
theorem zCr (d:Option Nat) (k:IntKind) (x:IX) (g:Option (Nat×Bool)) (i:Nat) (c:List Nat) (v:PV):zM ⟨⟨d,(.conv k x),true,g⟩,i,c⟩ e v=[]:=rfl
theorem zAp (d:Option Nat) (x:IX) (g:Option (Nat×Bool)) (i:Nat) (c:List Nat) (v:PV):zM ⟨⟨d,(.nilCheck x),true,g⟩,i,c⟩ e v=[]:=rfl
theorem zB1 (d:Option Nat) (z:List AV) (ps:List (Nat×Nat×IX)) (g:Option (Nat×Bool)) (i:Nat) (c:List Nat) (v:PV):zM ⟨⟨d,(.build z ps),true,g⟩,i,c⟩ e v=[]:=rfl
theorem zB0 (d:Option Nat) (a:Bool) (n off:Nat) (x:IX) (g:Option (Nat×Bool)) (i:Nat) (c:List Nat) (v:PV):zM ⟨⟨d,(.field a n off x),true,g⟩,i,c⟩ e v=[]:=rfl
theorem zAU (d:Option Nat) (off:Nat) (x:IX) (g:Option (Nat×Bool)) (i:Nat) (c:List Nat) (v:PV):zM ⟨⟨d,(.fieldAddr off x),true,g⟩,i,c⟩ e v=[]:=rfl
theorem zAT (d:Option Nat) (sz:Nat) (x y:IX) (g:Option (Nat×Bool)) (i:Nat) (c:List Nat) (v:PV):zM ⟨⟨d,(.indexAddr sz x y),true,g⟩,i,c⟩ e v=[]:=rfl
theorem zAr (d:Option Nat) (x y:IX) (g:Option (Nat×Bool)) (i:Nat) (c:List Nat) (v:PV):zM ⟨⟨d,(.indexStr x y),true,g⟩,i,c⟩ e v=[]:=rfl
theorem zBM (d:Option Nat) (x:IX) (j:Nat) (g:Option (Nat×Bool)) (i:Nat) (c:List Nat) (v:PV):zM ⟨⟨d,(.extract x j),true,g⟩,i,c⟩ e v=[]:=rfl
theorem zDo (d:Option Nat) (x:IX) (g:Option (Nat×Bool)) (i:Nat) (c:List Nat) (v:PV):zM ⟨⟨d,(.len x),true,g⟩,i,c⟩ e v=[]:=rfl
theorem zBd (d:Option Nat) (x:IX) (g:Option (Nat×Bool)) (i:Nat) (c:List Nat) (v:PV):zM ⟨⟨d,(.lenStr x),true,g⟩,i,c⟩ e v=[]:=rfl
theorem zDp (d:Option Nat) (x:IX) (g:Option (Nat×Bool)) (i:Nat) (c:List Nat) (v:PV):zM ⟨⟨d,(.cap x),true,g⟩,i,c⟩ e v=[]:=rfl
theorem zBz (d:Option Nat) (sz:Nat) (x:IX) (lo hi mx:Option IX) (g:Option (Nat×Bool)) (i:Nat) (c:List Nat) (v:PV):zM ⟨⟨d,(.slice sz x lo hi mx),true,g⟩,i,c⟩ e v=[]:=rfl
theorem zAo (d:Option Nat) (x:IX) (lo hi:Option IX) (g:Option (Nat×Bool)) (i:Nat) (c:List Nat) (v:PV):zM ⟨⟨d,(.sliceStr x lo hi),true,g⟩,i,c⟩ e v=[]:=rfl
theorem zBc (d:Option Nat) (mx:Bool) (x y:IX) (g:Option (Nat×Bool)) (i:Nat) (c:List Nat) (v:PV):zM ⟨⟨d,(.maxmin mx x y),true,g⟩,i,c⟩ e v=[]:=rfl
theorem zAq (d:Option Nat) (f:FuncId) (y z:List IX) (g:Option (Nat×Bool)) (i:Nat) (c:List Nat) (v:PV):zM ⟨⟨d,(.makeFunc f y z),true,g⟩,i,c⟩ e v=[]:=rfl
theorem zDn (d:Option Nat) (j:Nat) (g:Option (Nat×Bool)) (i:Nat) (c:List Nat) (v:PV):zM ⟨⟨d,(.rev j),true,g⟩,i,c⟩ e v=[]:=rfl
theorem zCo (d:Option Nat) (j m:Nat) (g:Option (Nat×Bool)) (i:Nat) (c:List Nat) (v:PV):zM ⟨⟨d,(.revS j m),true,g⟩,i,c⟩ e v=[]:=rfl
theorem zBs:ZQ none e=true:=rfl
theorem zBr (t:Nat) (b:Bool):ZQ (some (t,b)) e=(match e t with | .bool c=>decide (c=b) | _=>false):=rfl
theorem zDm:zl [] e h=some []:=rfl
theorem zDl (t:Nat) (r:List IRes):zl (.tmp t::r) e h=(zl r e h).map fun vs=>e t::vs:=rfl
theorem zCl (t:Nat) (a:Bool) (n:Nat) (r:List IRes):zl (.cell t a n::r) e h=(pldv a n (e t) h).bind fun v=>(zl r e h).map fun vs=>v::vs:=rfl
theorem zCm (res:List IRes):retP res KA .normal e h=optK (zl res e h) fun vs=>KA (packP vs) h:=rfl
theorem zFc (res:List IRes):retP res KA .ret e h=optK (zl res e h) fun vs=>KA (packP vs) h:=rfl
theorem zE4 (v:PV):packP [v]=v:=rfl
theorem zE5:packP []=.tup []:=rfl
theorem zE3 (u v:PV) (r:List PV):packP (u::v::r)=.tup (u::v::r):=rfl
theorem zEv (cs:List PV):pfill cs []=some cs:=rfl
theorem zDv (cs:List PV) (off size:Nat) (v:PV) (r:List (Nat×Nat×PV)):pfill cs ((off,size,v)::r)=if v.cells.length=size∧off+size≤cs.length∧v.cells.all PV.one=true then pfill (cs.take off++v.cells++cs.drop (off+size)) r else none:=rfl
theorem zDz (k:IntKind) (n:Int):PV.cells (.int k n)=[(.int k n)]:=rfl
theorem zFr (k:IntKind) (n:Int):PV.one (.int k n)=true:=rfl
theorem zC5 (b:Bool):PV.cells (.bool b)=[(.bool b)]:=rfl
theorem zEm (b:Bool):PV.one (.bool b)=true:=rfl
theorem zDx (s:List UInt8):PV.cells (.str s)=[(.str s)]:=rfl
theorem zFp (s:List UInt8):PV.one (.str s)=true:=rfl
theorem zC3:PV.cells .nilp=[.nilp]:=rfl
theorem zEk:PV.one .nilp=true:=rfl
theorem zC4:PV.cells .nilf=[.nilf]:=rfl
theorem zEl:PV.one .nilf=true:=rfl
theorem zEx (w:Bool) (a:AV) (n:Nat) (cs:List PV):PV.cells (.fz w a n cs)=[(.fz w a n cs)]:=rfl
theorem zGo (w:Bool) (a:AV) (n:Nat) (cs:List PV):PV.one (.fz w a n cs)=true:=rfl
theorem zEy (a:AV) (cs:List PV):PV.cells (.fp a cs)=[(.fp a cs)]:=rfl
theorem zGp (a:AV) (cs:List PV):PV.one (.fp a cs)=true:=rfl
theorem zDy (s i:Nat):PV.cells (.ptr s i)=[(.ptr s i)]:=rfl
theorem zFq (s i:Nat):PV.one (.ptr s i)=true:=rfl
theorem zEw (s o n:Nat) (c:Cap):PV.cells (.sl s o n c)=[(.sl s o n c)]:=rfl
theorem zGn (s o n:Nat) (c:Cap):PV.one (.sl s o n c)=true:=rfl
theorem zD0 (f:FuncId) (a b:List PV):PV.cells (.clo f a b)=[(.clo f a b)]:=rfl
theorem zFs (f:FuncId) (a b:List PV):PV.one (.clo f a b)=true:=rfl
theorem zD1 (cs:List PV):PV.cells (.agg cs)=cs:=rfl
theorem QD (k:IntKind) (i:Int) (y:Nat):qU (.int k i) y=if 0≤i∧i≤y then some i.toNat else none:=rfl
theorem Za (x:PV) (d y:Nat):zK (some x) d y=qU x y:=rfl
theorem Zb (d y:Nat):zK none d y=some d:=rfl
theorem zEg (sz:Nat) (w:Bool) (a:AV) (len:Nat) (cs:List PV) (lo hi:Option PV):qz sz (.fz w a len cs) lo hi none=(zK hi len len).bind fun h=>(zK lo 0 h).bind fun l=>some (.fz false (pslA sz a l h) (h-l) ((cs.drop (l*sz)).take ((h-l)*sz))):=rfl
theorem Qb (sz s off len c:Nat) (lo hi mx:Option PV):qz sz (.sl s off len (.known c)) lo hi mx=(zK mx c c).bind fun m=>(zK hi len m).bind fun h=>(zK lo 0 h).bind fun l=>if hi.isNone=true∧mx.isSome=true then none else some (.sl s (if m=l then off else off+l*sz) (h-l) (.known (m-l))):=rfl
theorem Qc (sz s off len g:Nat) (lo hi:Option PV):qz sz (.sl s off len (.grown g)) lo hi none=(zK hi len len).bind fun h=>(zK lo 0 h).bind fun l=>some (.sl s (off+l*sz) (h-l) (.grown (if g=sz then g else 0))):=rfl
theorem zBe (s:List UInt8) (lo hi:Option PV):Zg (.str s) lo hi=(zK hi s.length s.length).bind fun h=>(zK lo 0 h).bind fun l=>some (.str ((s.take h).drop l)):=rfl
theorem zGt (w:Bool) (a:AV) (n:Nat) (cs:List PV):plen (.fz w a n cs)=some n:=rfl
theorem zGs (s o n:Nat) (c:Cap):plen (.sl s o n c)=some n:=rfl
theorem zD6 (sz bytes:Nat) (s x:PV):qx sz bytes h s x=(plen x).bind fun m=>if m=0 then(psame s).map fun v=>(v,h)else(q9 sz h x m).bind fun news=>pgrow sz bytes h s news m:=rfl
theorem zCx (s o n c:Nat):psame (.sl s o n (.known c))=if n≤c then some (.sl s o n (.known c))else none:=rfl
theorem zEu (sz:Nat) (w:Bool) (a:AV) (len:Nat) (cs:List PV) (n:Nat):q9 sz h (.fz w a len cs) n=if n=0 then some []else if n≤len∧n*sz≤cs.length∧0<sz then some (cs.take (n*sz))else none:=rfl
theorem zEt (sz s off len:Nat) (c:Cap) (n:Nat):q9 sz h (.sl s off len c) n=if n=0 then some []else if n≤len then h.rd s off (n*sz)else none:=rfl
theorem zCy (sz bytes s off len c:Nat) (news:List PV) (m:Nat):pgrow sz bytes h (.sl s off len (.known c)) news m=if len+m≤c then(h.wr s (off+len*sz) news).map fun σ'=>(.sl s off (len+m) (.known c),σ')else if (len+m)*bytes≤140737488355328∧len+m≤4611686018427387904 then(h.rd s off (len*sz)).map fun old=>(.sl h.next 0 (len+m) (.grown sz),h.new (old++news))else none:=rfl
theorem zCz (sz bytes s off len g:Nat) (news:List PV) (m:Nat):pgrow sz bytes h (.sl s off len (.grown g)) news m=if (len+m)*bytes≤140737488355328∧len+m≤4611686018427387904∧g=sz then(h.obj s).bind fun cs=>if off+len*sz≤cs.length then some (.sl h.next 0 (len+m) (.grown sz),(h.kill s).new ((cs.drop off).take (len*sz)++news))else none else none:=rfl
theorem zFm (cs:List PV) (s i:Nat):(h.new cs).rd1 s i=if s=h.next then cs[i]? else h.rd1 s i:=by by_cases x:s=h.next<;>simp [PHeap.rd1,PHeap.new,x]
theorem zDW (cs:List PV) (s i n:Nat):(h.new cs).rd s i n=if s=h.next then(if i+n≤cs.length then some ((cs.drop i).take n)else none)else h.rd s i n:=by by_cases x:s=h.next<;>simp [PHeap.rd,PHeap.new,x]
theorem zFu (cs:List PV) (s:Nat):(h.new cs).obj s=if s=h.next then some cs else h.obj s:=rfl
theorem zGh (cs:List PV) (s i:Nat) (vs:List PV):(h.new cs).wr s i vs=if s=h.next then(if i+vs.length≤cs.length∧vs.all PV.one=true then some (h.new (cs.take i++vs++cs.drop (i+vs.length)))else none)else(h.wr s i vs).map fun h'=>h'.new cs:=by
 by_cases x:s=h.next
 ·subst x
  simp only [PHeap.wr,PHeap.new,if_true,Option.bind_some]
  split
  ·congr 1
   simp only [PHeap.set]
   congr 1
   funext y
   by_cases hy:y=h.next<;>simp [hy]
  ·rfl
 ·simp only [PHeap.wr,PHeap.new,if_neg x]
  cases ho:h.obj s with
  | none=>rfl
  | some ob=>
   simp only [Option.bind_some]
   split
   ·simp only [Option.map_some,PHeap.set]
    congr 2
    funext y
    by_cases hy:y=s
    ·subst hy;simp [x]
    ·simp [hy]
   ·rfl
theorem zEp (cs:List PV):(h.new cs).next=h.next+1:=rfl
theorem zFi (cs:List PV):(h.new cs).top=h.top:=rfl
theorem zFj (cs:List PV) (s:Nat) (ds:List PV):(h.new cs).set s ds=if s=h.next then h.new ds else(h.set s ds).new cs:=by
 by_cases x:s=h.next
 ·subst x
  rw [if_pos rfl];simp only [PHeap.set,PHeap.new]
  congr 1
  funext y
  by_cases hy:y=h.next<;>simp [hy]
 ·rw [if_neg x]
  simp only [PHeap.set,PHeap.new]
  congr 1
  funext y
  by_cases hy:y=s
  ·subst hy;simp [x]
  ·simp [hy]
theorem qw (s:Nat) (cs ds:List PV):(h.set s cs).set s ds=h.set s ds:=by
 simp only [PHeap.set]
 congr 1
 funext y
 by_cases hy:y=s<;>simp [hy]
theorem zEo (s:Nat) (cs:List PV):(h.set s cs).next=h.next:=rfl
theorem zDt (s:Nat):(h.kill s).next=h.next:=rfl
theorem zFv (t:Nat):(h.up t).next=h.next:=rfl
theorem zGk (t:Nat):(h.up t).top=t:=rfl
theorem zGr (t:Nat) (cs:List PV):(h.up t).new cs=(h.new cs).up t:=rfl
theorem zGm (t s i:Nat):(h.up t).rd1 s i=h.rd1 s i:=rfl
theorem zHS (t s i n:Nat):(h.up t).rd s i n=h.rd s i n:=rfl
theorem zGq (t s:Nat):(h.up t).obj s=h.obj s:=rfl
theorem zHQ (t s i:Nat) (vs:List PV):(h.up t).wr s i vs=(h.wr s i vs).map fun h'=>h'.up t:=by
 simp only [PHeap.wr,PHeap.up];cases h.obj s with
 | none=>rfl
 | some cs=>simp only [Option.bind_some];split<;>rfl
theorem zEn (s t:Nat):(h.kill s).obj t=if t=s then none else h.obj t:=rfl
theorem zFt (s:Nat) (cs:List PV) (t:Nat):(h.set s cs).obj t=if t=s then some cs else h.obj t:=rfl
theorem zEh (s t i:Nat):(h.kill s).rd1 t i=if t=s then none else h.rd1 t i:=by by_cases x:t=s<;>simp [PHeap.rd1,PHeap.kill,x]
theorem zFk (s t i n:Nat):(h.kill s).rd t i n=if t=s then none else h.rd t i n:=by by_cases x:t=s<;>simp [PHeap.rd,PHeap.kill,x]
theorem zFl (s:Nat) (cs:List PV) (t i:Nat):(h.set s cs).rd1 t i=if t=s then cs[i]? else h.rd1 t i:=by by_cases x:t=s<;>simp [PHeap.rd1,PHeap.set,x]
theorem zGl (s:Nat) (cs:List PV) (t i n:Nat):(h.set s cs).rd t i n=if t=s then(if i+n≤cs.length then some ((cs.drop i).take n)else none)else h.rd t i n:=by by_cases x:t=s<;>simp [PHeap.rd,PHeap.set,x]
theorem zGg (s:Nat) (cs:List PV) (i:Nat) (vs:List PV):(h.set s cs).wr s i vs=if i+vs.length≤cs.length∧vs.all PV.one=true then some (h.set s (cs.take i++vs++cs.drop (i+vs.length)))else none:=by
 simp only [PHeap.wr,PHeap.set,if_true,Option.bind_some]
 split
 ·congr 2
  funext y
  by_cases hy:y=s<;>simp [hy]
 ·rfl
end
def pw0:=And.intro @zGX <| And.intro @zEV <| And.intro @zGZ <| And.intro @zHJ <| And.intro @zGa <| And.intro @zFZ <| And.intro @zGY <| And.intro @zHK <| And.intro @zHE <| And.intro @RVp_q <| And.intro @RVp_e <| And.intro @zHG <| And.intro @DVp_q <| And.intro @DVp_e <| And.intro @zGL <| And.intro @zGK <| And.intro @zGN <| And.intro @zGM <| And.intro @zC1 <| And.intro @zCD <| And.intro @zDw <| And.intro @zC2 <| And.intro @zCC <| And.intro @zCA <| And.intro @zB9 <| And.intro @zCB <| And.intro @pv_t <| And.intro @pv_c <| And.intro @zFw <| @zEi
def pw1:=And.intro @zEj <| And.intro @qp_mv <| And.intro @zGd <| And.intro @zHP <| And.intro @qp_un <| And.intro @zGf <| And.intro @zCt <| And.intro @zFh <| And.intro @zFg <| And.intro @zB5 <| And.intro @zB4 <| And.intro @zCv <| And.intro @zDr <| And.intro @zHN <| And.intro @zEe <| And.intro @zHO <| And.intro @zFf <| And.intro @zCs <| And.intro @zEd <| And.intro @zCu <| And.intro @zGe <| And.intro @zHM <| And.intro @zGc <| And.intro @zGT <| And.intro @zHb <| And.intro @zEJ <| And.intro @zGR <| And.intro @zD8 <| And.intro @zFP <| And.intro @zDS <| @zDG
def pw2:=And.intro @zE6 <| And.intro @zFQ <| And.intro @zHC <| And.intro @zHD <| And.intro @zGS <| And.intro @zEC <| And.intro @zGG <| And.intro @of_bool <| And.intro @of_int <| And.intro @zHT <| And.intro @zG2 <| And.intro @zG3 <| And.intro @zG1 <| And.intro @zHU <| And.intro @zHV <| And.intro @zG0 <| And.intro @zGF <| And.intro @zGz <| And.intro @zGB <| And.intro @zF1 <| And.intro @zF5 <| And.intro @zGA <| And.intro @zF4 <| And.intro @zF6 <| And.intro @zF7 <| And.intro @zF8 <| And.intro @zF9 <| And.intro @zF3 <| And.intro @zF2 <| @zD5
def pw3:=And.intro @zE2 <| And.intro @zD7 <| And.intro @zE1 <| And.intro @zE0 <| And.intro @zD4 <| And.intro @zDA <| And.intro @zD3 <| And.intro @zC9 <| And.intro @zC8 <| And.intro @zC7 <| And.intro @zC6 <| And.intro @zDO <| And.intro @zFH <| And.intro @zGj <| And.intro @zGi <| And.intro @zD9 <| And.intro @zDC <| And.intro @zE9 <| And.intro @zGC <| And.intro @zGD <| And.intro @zGv <| And.intro @zEB <| And.intro @zEA <| And.intro @zBO <| And.intro @zBh <| And.intro @zE7 <| And.intro @zE8 <| And.intro @zDF <| And.intro @zCG <| @zGx
def pw4:=And.intro @zGw <| And.intro @zDE <| And.intro @zFA <| And.intro @zGy <| And.intro @zDD <| And.intro @zEs <| And.intro @zEr <| And.intro @zFy <| And.intro @zFx <| And.intro @zEq <| And.intro @zDu <| And.intro @zET <| And.intro @zDU <| And.intro @zDV <| And.intro @zCq <| And.intro @zEb <| And.intro @zCp <| And.intro @zDq <| And.intro @zEZ <| And.intro @zCr <| And.intro @zAp <| And.intro @zB1 <| And.intro @zB0 <| And.intro @zAU <| And.intro @zAT <| And.intro @zAr <| And.intro @zBM <| And.intro @zDo <| And.intro @zBd <| @zDp
def pw5:=And.intro @zBz <| And.intro @zAo <| And.intro @zBc <| And.intro @zAq <| And.intro @zDn <| And.intro @zCo <| And.intro @zBs <| And.intro @zBr <| And.intro @zDm <| And.intro @zDl <| And.intro @zCl <| And.intro @zCm <| And.intro @zFc <| And.intro @zE4 <| And.intro @zE5 <| And.intro @zE3 <| And.intro @zEv <| And.intro @zDv <| And.intro @zDz <| And.intro @zFr <| And.intro @zC5 <| And.intro @zEm <| And.intro @zDx <| And.intro @zFp <| And.intro @zC3 <| And.intro @zEk <| And.intro @zC4 <| And.intro @zEl <| And.intro @zEx <| And.intro @zGo <| @zEy
def pw6:=And.intro @zGp <| And.intro @zDy <| And.intro @zFq <| And.intro @zEw <| And.intro @zGn <| And.intro @zD0 <| And.intro @zFs <| And.intro @zD1 <| And.intro @QD <| And.intro @Za <| And.intro @Zb <| And.intro @zEg <| And.intro @Qb <| And.intro @Qc <| And.intro @zBe <| And.intro @zGt <| And.intro @zGs <| And.intro @zFm <| And.intro @zDW <| And.intro @zFu <| And.intro @zGh <| And.intro @zEp <| And.intro @zFi <| And.intro @zFj <| And.intro @qw <| And.intro @zEo <| And.intro @zDt <| And.intro @zFv <| And.intro @zGk <| @zGr
def pw7:=And.intro @zGm <| And.intro @zHS <| And.intro @zGq <| And.intro @zHQ <| And.intro @zEn <| And.intro @zFt <| And.intro @zEh <| And.intro @zFk <| And.intro @zFl <| And.intro @zGl <| And.intro @zGg <| And.intro @Zh <| And.intro @ZA <| And.intro @zFB <| And.intro @zGE <| And.intro @List.map_cons.{0,0} <| And.intro @List.map_nil.{0,0} <| And.intro @List.length_cons.{0} <| And.intro @List.length_nil.{0} <| And.intro @List.getElem?_cons_zero.{0} <| And.intro @List.getElem?_cons_succ.{0} <| And.intro @List.take_succ_cons.{0} <| And.intro @List.take_zero.{0} <| And.intro @List.drop_succ_cons.{0} <| And.intro @List.drop_zero.{0} <| And.intro @List.take_nil.{0} <| And.intro @List.drop_nil.{0} <| And.intro @List.nil_append.{0} <| And.intro @List.cons_append.{0} <| @List.append_nil.{0}
def pw8:=And.intro @List.all_cons.{0} <| And.intro @List.all_nil.{0} <| And.intro @List.contains_cons.{0} <| And.intro @List.contains_nil.{0} <| And.intro @Option.map_some.{0,0} <| And.intro @Option.map_none.{0,0} <| And.intro @Option.bind_some.{0,0} <| And.intro @Option.bind_none.{0,0} <| And.intro @decide_true <| And.intro @decide_false <| And.intro @Bool.not_true <| And.intro @Bool.not_false <| And.intro @Bool.and_true <| And.intro @Bool.true_and <| And.intro @Bool.and_self <| And.intro @Bool.or_false <| And.intro @Bool.or_true <| And.intro @Bool.true_or <| And.intro @Bool.false_or <| And.intro @true_and <| And.intro @and_true <| And.intro @Bool.true_eq_false <| And.intro @Bool.false_eq_true <| And.intro @Nat.left_eq_add <| And.intro @Nat.add_eq_left <| And.intro @Nat.succ_ne_self <| And.intro @Nat.one_ne_zero <| And.intro @Nat.add_left_cancel_iff <| And.intro @Nat.add_assoc <| @Nat.mul_one
def pw9:=And.intro @Nat.zero_add <| And.intro @Nat.add_zero <| And.intro @Nat.le_refl <| And.intro @Nat.lt_add_one <| And.intro @Int.toNat_natCast <| And.intro @Int.natCast_nonneg <| And.intro @Int.ofNat_lt <| And.intro @Int.le_refl <| And.intro @zDf <| And.intro @zDg <| And.intro @zBp <| And.intro @Nat.one_mul <| @Nat.zero_mul
def pwA:=And.intro pw0 <| And.intro pw1 <| And.intro pw2 <| And.intro pw3 <| And.intro pw4 <| And.intro pw5 <| And.intro pw6 <| And.intro pw7 <| And.intro pw8 <| And.intro pw9 <| And.intro @nm_eq <| And.intro @eq_self.{1} <| And.intro @Int.ofNat_le @List.getElem?_drop.{0}
end Go.Ab
