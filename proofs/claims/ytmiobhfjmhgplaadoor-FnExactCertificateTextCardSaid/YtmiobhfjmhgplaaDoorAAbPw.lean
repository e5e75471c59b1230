/- THE RULES BY WHICH CODE IS WALKED over values without a heap: equations, and the one name 'pw' for all of them. Written by a program. -/
import Derived.Test.YtmiobhfjmhgplaaDoorAAbPg
import Derived.Test.YtmiobhfjmhgplaaDoorAAbAid
set_option linter.unusedVariables false
set_option linter.unusedSimpArgs false
set_option linter.defProp false
namespace Go.Ab
section
variable {P:Program} {Q:Exit→PEnv→PHeap→Prop} {e:PEnv} {h:PHeap} {K:PEnv→PHeap→Prop} {KA:PV→PHeap→Prop} {nb nr:Nat}
theorem zGo:vp P .skip Q e h=Q .normal e h:=rfl
theorem zEu (S:List Nat) (its:List II):vp P (.region S its) Q e h=RVp P its e h fun e' h'=>Q .normal (PEnv.mk S (S.map e')) h':=rfl
theorem zDl (S:List Nat) (t:OT):vp P (.tree S t) Q e h=TVp P t [] e h fun e' h'=>Q .normal (PEnv.mk S (S.map e')) h':=rfl
theorem zC3 (recs:List RecP):TVp P .done recs e h K=K e h:=rfl
theorem zC2 (recs:List RecP):TVp P .none recs e h K=True:=rfl
theorem TVp_q (d:Option Nat) (op:IOp) (g:Option (Nat×Bool)) (q:Bool) (i:Nat) (c:List Nat) (nx:OT) (recs:List RecP):TVp P (.q ⟨⟨d,op,q,g⟩,i,c⟩ nx) recs e h K=optK (gqp 0 0 ⟨d,op,q,g⟩ e h) fun v=>TVp P nx (zL ⟨⟨d,op,q,g⟩,i,c⟩ e v++recs) (e.put d v) h K:=rfl
theorem TVp_e (d:Option Nat) (op:IOp) (g:Option (Nat×Bool)) (q:Bool) (i:Nat) (c:List Nat) (nx alt:OT) (recs:List RecP):TVp P (.e ⟨⟨d,op,q,g⟩,i,c⟩ nx alt) recs e h K=((gep P ⟨d,op,q,g⟩ e h fun v h'=>qU c recs h'∧TVp P nx recs (e.put d v) h' K)∧TVp P alt recs e h K):=rfl
theorem zGq (S:List Nat) (zs:List (List AV)) (its:List DI):vp P (.draw S zs its) Q e h=DVp P h.next zs.length its [] e (h.news zs) fun e' h'=>Q .normal (PEnv.mk S (S.map e')) h':=rfl
theorem zHW (a b:IC):vp P (.seq a b) Q e h=vp P a (fun x e' h'=>match x with | .normal=>vp P b Q e' h' | x=>Q x e' h') e h:=rfl
theorem zGr (c:IX) (a b:IC):vp P (.cond c a b) Q e h=qC (c.pv e) (vp P a Q e h) (vp P b Q e h):=rfl
theorem zFr (id:Nat) (c:IC):vp P (.block id c) Q e h=vp P c (fun x e' h'=>match x with | .exit id'=>if id'=id then Q .normal e' h' else Q (.exit id') e' h' | x=>Q x e' h') e h:=rfl
theorem zGp (id:Nat):vp P (.exit id) Q e h=Q (.exit id) e h:=rfl
theorem zHX:vp P .ret Q e h=Q .ret e h:=rfl
theorem zHT:RVp P [] e h K=K e h:=rfl
theorem RVp_q (d:Option Nat) (op:IOp) (g:Option (Nat×Bool)) (r:List II):RVp P (⟨d,op,true,g⟩::r) e h K=optK (gqp 0 0 ⟨d,op,true,g⟩ e h) fun v=>RVp P r (e.put d v) h K:=rfl
theorem RVp_e (d:Option Nat) (op:IOp) (g:Option (Nat×Bool)) (r:List II):RVp P (⟨d,op,false,g⟩::r) e h K=gep P ⟨d,op,false,g⟩ e h fun v h'=>RVp P r (e.put d v) h' K:=rfl
theorem zHU (recs:List RecP):DVp P nb nr [] recs e h K=K e h:=rfl
theorem DVp_q (d:Option Nat) (op:IOp) (g:Option (Nat×Bool)) (i:Nat) (c:List Nat) (r:List DI) (recs:List RecP):DVp P nb nr (⟨⟨d,op,true,g⟩,i,c⟩::r) recs e h K=optK (gqp nb nr ⟨d,op,true,g⟩ e h) fun v=>DVp P nb nr r (zL ⟨⟨d,op,true,g⟩,i,c⟩ e v++recs) (e.put d v) h K:=rfl
theorem DVp_e (d:Option Nat) (op:IOp) (g:Option (Nat×Bool)) (i:Nat) (c:List Nat) (r:List DI) (recs:List RecP):DVp P nb nr (⟨⟨d,op,false,g⟩,i,c⟩::r) recs e h K=gep P ⟨d,op,false,g⟩ e h fun v h'=>qU c recs h'∧DVp P nb nr r recs (e.put d v) h' K:=rfl
theorem zGb (d:Option Nat) (op:IOp) (q:Bool):gqp nb nr ⟨d,op,q,none⟩ e h=qp nb nr op e h:=rfl
theorem zGa (d:Option Nat) (op:IOp) (q:Bool) (t:Nat) (b:Bool):gqp nb nr ⟨d,op,q,some (t,b)⟩ e h=qd (e t) b (qp nb nr op e h):=rfl
theorem zGd (d:Option Nat) (op:IOp) (q:Bool):gep P ⟨d,op,q,none⟩ e h KA=ep P op e h KA:=rfl
theorem zGc (d:Option Nat) (op:IOp) (q:Bool) (t:Nat) (b:Bool):gep P ⟨d,op,q,some (t,b)⟩ e h KA=qH (e t) b (ep P op e h KA) (KA (.tup []) h):=rfl
theorem zDL (a b:Prop):qC (.bool true) a b=a:=rfl
theorem zCc (a b:Prop):qC (.bool false) a b=b:=rfl
theorem zED (c:Prop) [Decidable c] (a b:Prop):qC (.bool (decide c)) a b=if c then a else b:=by by_cases x:c<;>simp [qC,x]
theorem zDM (c:Prop) [Decidable c] (a b:Prop):qC (.bool (!decide c)) a b=if c then b else a:=by by_cases x:c<;>simp [qC,x]
theorem zCb (c b:Bool) (x y:Prop):qH (.bool c) b x y=if c=b then x else y:=rfl
theorem zCZ (c b:Bool) (x:Option PV):qd (.bool c) b x=if c=b then x else some (.tup []):=rfl
theorem zCY (b:Bool) (x:Option PV):qd (.tup []) b x=some (.tup []):=rfl
theorem zCa (b:Bool) (x y:Prop):qH (.tup []) b x y=y:=rfl
theorem pv_t (n:Nat):(IX.t n).pv e=e n:=rfl
theorem pv_c (v:AV):(IX.c v).pv e=ofAV v:=rfl
theorem zGB (s:Nat) (S:List Nat) (v:PV) (vs:List PV) (t:Nat):PEnv.mk (s::S) (v::vs) t=if t=s then v else PEnv.mk S vs t:=rfl
theorem zE6 (d:Nat) (v:PV) (t:Nat):e.put (some d) v t=if t=d then v else e t:=rfl
theorem zE7 (v:PV):e.put none v=e:=rfl
theorem qp_mv (x:IX):qp nb nr (.mv x) e h=some (x.pv e):=rfl
theorem zGu (c a b:IX):qp nb nr (.pick c a b) e h=pPick (c.pv e) (a.pv e) (b.pv e):=rfl
theorem zHb (op:BinOp) (ek:EqK) (x y:IX):qp nb nr (.bin op ek x y) e h=pbin op ek (x.pv e) (y.pv e):=rfl
theorem qp_un (op:UnOp) (x:IX):qp nb nr (.un op x) e h=pun op (x.pv e):=rfl
theorem zGw (k:IntKind) (x:IX):qp nb nr (.conv k x) e h=pConv k (x.pv e):=rfl
theorem zDE (x:IX):qp nb nr (.nilCheck x) e h=pNil (x.pv e):=rfl
theorem zFy (z:List AV) (ps:List (Nat×Nat×IX)):qp nb nr (.build z ps) e h=(pfill (ofAVs z) (ps.map fun p=>(p.1,p.2.1,p.2.2.pv e))).map .agg:=rfl
theorem zFx (a:Bool) (n off:Nat) (x:IX):qp nb nr (.field a n off x) e h=Qr a n off (x.pv e):=rfl
theorem zCR (off:Nat) (x:IX):qp nb nr (.fieldAddr off x) e h=qj off (x.pv e):=rfl
theorem zCQ (sz:Nat) (x i:IX):qp nb nr (.indexAddr sz x i) e h=QG sz (x.pv e) (i.pv e):=rfl
theorem zDG (x i:IX):qp nb nr (.indexStr x i) e h=zAC (x.pv e) (i.pv e):=rfl
theorem zD7 (x:IX) (i:Nat):qp nb nr (.extract x i) e h=QR (x.pv e) i:=rfl
theorem zHZ (x:IX):qp nb nr (.len x) e h=pLen (x.pv e):=rfl
theorem zE2 (x:IX):qp nb nr (.lenStr x) e h=zAB (x.pv e):=rfl
theorem zHa (x:IX):qp nb nr (.cap x) e h=pCap (x.pv e):=rfl
theorem zFw (sz:Nat) (x:IX) (lo hi mx:Option IX):qp nb nr (.slice sz x lo hi mx) e h=Zh sz (x.pv e) (lo.map (·.pv e)) (hi.map (·.pv e)) (mx.map (·.pv e)):=rfl
theorem zDD (x:IX) (lo hi:Option IX):qp nb nr (.sliceStr x lo hi) e h=Zw (x.pv e) (lo.map (·.pv e)) (hi.map (·.pv e)):=rfl
theorem zE1 (mx:Bool) (x y:IX):qp nb nr (.maxmin mx x y) e h=QF mx (x.pv e) (y.pv e):=rfl
theorem zDF (f:FuncId) (a b:List IX):qp nb nr (.makeFunc f a b) e h=some (.clo f (a.map (·.pv e)) (b.map (·.pv e))):=rfl
theorem zGv (a:Bool) (n:Nat) (x:IX):qp nb nr (.load a n x) e h=pldv a n (x.pv e) h:=rfl
theorem zHY (k:Nat):qp nb nr (.rev k) e h=if k<nr then some (.ptr (nb+k) 0)else none:=rfl
theorem zGt (k n:Nat):qp nb nr (.revS k n) e h=if k<nr then some (.sl (nb+k) 0 n (.known n))else none:=rfl
theorem zGj (z:List AV):ep P (.alloc z) e h KA=KA (.ptr h.next 0) (h.new (ofAVs z)):=rfl
theorem zHl (x:IX):ep P (.box x) e h KA=((x.pv e).cells.all PV.one=true∧KA (.ptr h.next 0) (h.new (x.pv e).cells)):=rfl
theorem zEh (sz len:Nat) (z:List AV) (ps:List (Nat×Nat×IX)):ep P (.buildSl sz len z ps) e h KA=optK (pfill (ofAVs (zeros z len)) (ps.map fun p=>(p.1,p.2.1,p.2.2.pv e))) fun cs=>KA (.sl h.next 0 len (.known len)) (h.new cs):=rfl
def zBC (n:Nat) (x v:PV) (h:PHeap) (KA:PV→PHeap→Prop):Prop:=
 match x with
 | .ptr s i=>v.cells.length=n∧optK (h.wr s i v.cells) fun h'=>KA .undef h'
 | _=>False
def pMake (sz bytes:Nat) (z:List AV) (l c:PV) (h:PHeap) (KA:PV→PHeap→Prop):Prop:=
 match l,c with
 | .int _ l,.int _ c=>(0≤l∧l≤c∧c*bytes≤140737488355328∧c≤9223372036854775807)∧KA (.sl h.next 0 l.toNat (.known c.toNat)) (h.new (ofAVs (zeros z c.toNat)))
 | _,_=>False
def zBE (sz bytes:Nat) (z:List AV) (s n:PV) (h:PHeap) (KA:PV→PHeap→Prop):Prop:=
 match s,n with
 | .fz _ .nils _ _,.int _ n=>(0≤n∧n*bytes≤140737488355328∧n≤4611686018427387904)∧if 0<n then KA (.sl h.next 0 n.toNat (.grown sz)) (h.new (ofAVs (zeros z n.toNat)))else KA (.fz true .nils 0 []) h
 | .sl s off len c,.int _ n=>(0≤n∧n*bytes≤140737488355328∧n≤4611686018427387904)∧optK (if 0<n then pgrow sz bytes h (.sl s off len c) (ofAVs (zeros z n.toNat)) n.toNat else(psame (.sl s off len c)).map fun v=>(v,h)) fun p=>KA p.1 p.2
 | _,_=>False
def zBD (P:Program) (f:PV) (args:List PV) (h:PHeap) (KA:PV→PHeap→Prop):Prop:=
 match f with
 | .clo f first caps=>okF P f=true∧zA P f (first++args++caps) h KA
 | _=>False
theorem zGh (n:Nat) (x v:IX):ep P (.store n x v) e h KA=zBC n (x.pv e) (v.pv e) h KA:=rfl
theorem zEP (n s i:Nat) (v:PV):zBC n (.ptr s i) v h KA=(v.cells.length=n∧optK (h.wr s i v.cells) fun h'=>KA .undef h'):=rfl
theorem zFi (sz bytes:Nat) (z:List AV) (l c:IX):ep P (.makeSl sz bytes z l c) e h KA=pMake sz bytes z (l.pv e) (c.pv e) h KA:=rfl
theorem zDg (sz bytes:Nat) (z:List AV) (s n:IX):ep P (.appendMk sz bytes z s n) e h KA=zBE sz bytes z (s.pv e) (n.pv e) h KA:=rfl
theorem zDa (sz bytes:Nat) (z:List AV) (w:Bool) (l:Nat) (cs:List PV) (k:IntKind) (n:Int):zBE sz bytes z (.fz w .nils l cs) (.int k n) h KA=((0≤n∧n*bytes≤140737488355328∧n≤4611686018427387904)∧if 0<n then KA (.sl h.next 0 n.toNat (.grown sz)) (h.new (ofAVs (zeros z n.toNat)))else KA (.fz true .nils 0 []) h):=rfl
theorem zFS (sz bytes:Nat) (z:List AV) (k k':IntKind) (l c:Int):pMake sz bytes z (.int k l) (.int k' c) h KA=((0≤l∧l≤c∧c*bytes≤140737488355328∧c≤9223372036854775807)∧KA (.sl h.next 0 l.toNat (.known c.toNat)) (h.new (ofAVs (zeros z c.toNat)))):=rfl
theorem zFj (sz bytes:Nat) (s x:IX):ep P (.append sz bytes s x) e h KA=optK (qV sz bytes h (s.pv e) (x.pv e)) fun p=>KA p.1 p.2:=rfl
theorem zHQ (sz:Nat) (d s:IX):ep P (.copy sz d s) e h KA=optK (pcopy sz h (d.pv e) (s.pv e)) fun p=>KA p.1 p.2:=rfl
theorem zHR (f:FuncId) (args:List IX):ep P (.call f args) e h KA=zA P f (args.map (·.pv e)) h KA:=rfl
theorem ZB (x:IX):ep P (.strOf x) e h KA=optK (qi h (x.pv e)) fun s=>KA (.str s) h:=rfl
theorem zGi (f:IX) (args:List IX):ep P (.callV f args) e h KA=zBD P (f.pv e) (args.map (·.pv e)) h KA:=rfl
theorem zET (f:FuncId) (a b args:List PV):zBD P (.clo f a b) args h KA=(okF P f=true∧zA P f (a++args++b) h KA):=rfl
theorem zGV:ofAV .undef=.undef:=rfl
theorem of_bool (b:Bool):ofAV (.bool b)=.bool b:=rfl
theorem of_int (k:IntKind) (n:Int):ofAV (.int k n)=.int k n:=rfl
theorem zHe (s:List UInt8):ofAV (.str s)=.str s:=rfl
theorem zHK:ofAV .nilp=.nilp:=rfl
theorem zHL:ofAV .nilf=.nilf:=rfl
theorem zHJ:ofAV .nils=.fz true .nils 0 []:=rfl
theorem zHf (f:FuncId) (a b:List AV):ofAV (.clo f a b)=.clo f (ofAVs a) (ofAVs b):=rfl
theorem zHg (a:List AV):ofAV (.agg a)=.agg (ofAVs a):=rfl
theorem zHI:ofAVs []=[]:=rfl
theorem zGU (c:AV) (cs:List AV):ofAVs (c::cs)=ofAV c::ofAVs cs:=rfl
theorem zHH (n:Nat) (c:AV):ofAVs (List.replicate n c)=List.replicate n (ofAV c):=by rw [zBm,List.map_replicate]
theorem zGP (k:IntKind) (ek:EqK) (a b:Int):pbin .add ek (.int k a) (.int k b)=some (.int k (k.wrap (a+b))):=by simp [pbin,abin,aint,ofAV]
theorem zGF (k:IntKind) (ek:EqK) (a b:Int):pbin .sub ek (.int k a) (.int k b)=some (.int k (k.wrap (a-b))):=by simp [pbin,abin,aint,ofAV]
theorem zGJ (k:IntKind) (ek:EqK) (a b:Int):pbin .mul ek (.int k a) (.int k b)=some (.int k (k.wrap (a*b))):=by simp [pbin,abin,aint,ofAV]
theorem zGO (k:IntKind) (ek:EqK) (a b:Int):pbin .eql ek (.int k a) (.int k b)=some (.bool (decide (a=b))):=by simp [pbin,abin,aint,ofAV]
theorem zGI (k:IntKind) (ek:EqK) (a b:Int):pbin .neq ek (.int k a) (.int k b)=some (.bool (!decide (a=b))):=by simp [pbin,abin,aint,ofAV]
theorem zGK (k:IntKind) (ek:EqK) (a b:Int):pbin .lss ek (.int k a) (.int k b)=some (.bool (decide (a<b))):=by simp [pbin,abin,aint,ofAV]
theorem zGL (k:IntKind) (ek:EqK) (a b:Int):pbin .leq ek (.int k a) (.int k b)=some (.bool (decide (a≤b))):=by simp [pbin,abin,aint,ofAV]
theorem zGM (k:IntKind) (ek:EqK) (a b:Int):pbin .gtr ek (.int k a) (.int k b)=some (.bool (decide (b<a))):=by simp [pbin,abin,aint,ofAV]
theorem zGN (k:IntKind) (ek:EqK) (a b:Int):pbin .geq ek (.int k a) (.int k b)=some (.bool (decide (b≤a))):=by simp [pbin,abin,aint,ofAV]
theorem zGH (k:IntKind) (ek:EqK) (a b:Int):pbin .quo ek (.int k a) (.int k b)=if b=0 then none else some (.int k (k.wrap (a.tdiv b))):=by simp only [pbin,abin,aint,if_true];split<;>rfl
theorem zGG (k:IntKind) (ek:EqK) (a b:Int):pbin .rem ek (.int k a) (.int k b)=if b=0 then none else some (.int k (a.tmod b)):=by simp only [pbin,abin,aint,if_true];split<;>rfl
theorem zEN (n:Nat) (xs ys:List PV):pbin .eql (.ints n) (.agg xs) (.agg ys)=if xs.length=n∧ys.length=n then(paggB xs ys).bind fun r=>some (.bool r)else none:=rfl
theorem zFO:paggB [] []=some true:=rfl
theorem zEO (k:IntKind) (a b:Int) (xs ys:List PV):paggB (.int k a::xs) (.int k b::ys)=(paggB xs ys).map fun r=>decide (a=b) && r:=by simp [paggB]
theorem zFN (a b:Bool):pbin .eql .bool (.bool a) (.bool b)=some (.bool (a == b)):=rfl
theorem zFM (a b:Bool):pbin .neq .bool (.bool a) (.bool b)=some (.bool !(a == b)):=rfl
theorem zEM (w w':Bool) (a:AV) (n n':Nat) (cs cs':List PV):pbin .eql .slice (.fz w a n cs) (.fz w' .nils n' cs')=some (.bool (qF a)):=rfl
theorem zDU (w w':Bool) (a:AV) (n n':Nat) (cs cs':List PV):pbin .neq .slice (.fz w a n cs) (.fz w' .nils n' cs')=some (.bool (!qF a)):=rfl
theorem zEL (s o n:Nat) (c:Cap) (w':Bool) (n':Nat) (cs':List PV):pbin .eql .slice (.sl s o n c) (.fz w' .nils n' cs')=some (.bool false):=rfl
theorem zDT (s o n:Nat) (c:Cap) (w':Bool) (n':Nat) (cs':List PV):pbin .neq .slice (.sl s o n c) (.fz w' .nils n' cs')=some (.bool true):=rfl
theorem zDS (ek:EqK) (a b:List UInt8):pbin .add ek (.str a) (.str b)=if a.length+b.length≤9223372036854775807 then some (.str (a++b))else none:=by simp only [pbin,astr];split<;>rfl
theorem zDR (ek:EqK) (a b:List UInt8):pbin .eql ek (.str a) (.str b)=some (.bool (a == b)):=rfl
theorem zDQ (ek:EqK) (a b:List UInt8):pbin .neq ek (.str a) (.str b)=some (.bool !(a == b)):=rfl
theorem zDe:qF .nils=true:=rfl
theorem zFe (o f n:Nat) (c:Cap):qF (.sl o f n c)=false:=rfl
theorem zG0 (k:IntKind) (n:Int):pun .neg (.int k n)=some (.int k (k.wrap (0-n))):=rfl
theorem zGz (b:Bool):pun .not (.bool b)=some (.bool !b):=rfl
theorem zEQ (a b:PV):pPick (.bool true) a b=some a:=rfl
theorem zDW (a b:PV):pPick (.bool false) a b=some b:=rfl
theorem zFV (k k':IntKind) (n:Int):pConv k (.int k' n)=some (.int k (k.wrap n)):=rfl
theorem zGQ (s i:Nat):pNil (.ptr s i)=some (.ptr s i):=rfl
theorem zGR (f:FuncId) (a b:List PV):pNil (.clo f a b)=some (.clo f a b):=rfl
theorem zHD (a:AV) (c:PV) (cs:List PV):pNil (.fp a (c::cs))=some (.fp a (c::cs)):=rfl
theorem zES (n off:Nat) (cs:List PV):Qr true n off (.agg cs)=some (.agg ((cs.drop off).take n)):=rfl
theorem zER (n off:Nat) (cs:List PV):Qr false n off (.agg cs)=cs[off]?:=rfl
theorem zBe (off s i:Nat):qj off (.ptr s i)=some (.ptr s (i+off)):=rfl
theorem zB5 (off:Nat) (a:AV) (c:PV) (cs:List PV):qj off (.fp a (c::cs))=some (.fp (pAdd a off) ((c::cs).drop off)):=rfl
theorem zFT (sz s off len:Nat) (c:Cap) (k:IntKind) (n:Int):QG sz (.sl s off len c) (.int k n)=if 0≤n∧n<len then some (.ptr s (off+n.toNat*sz))else none:=rfl
theorem zFU (sz:Nat) (w:Bool) (a:AV) (len:Nat) (cs:List PV) (k:IntKind) (n:Int):QG sz (.fz w a len cs) (.int k n)=if 0≤n∧n<len then some (.fp (pAt a (n.toNat*sz)) (cs.drop (n.toNat*sz)))else none:=rfl
theorem zDZ (s:List UInt8) (k:IntKind) (n:Int):zAC (.str s) (.int k n)=if 0≤n then(s[n.toNat]?).map fun c=>.int .u8 c.toNat else none:=rfl
theorem zCe (vs:List PV) (i:Nat):QR (.tup vs) i=vs[i]?:=rfl
theorem zHF (w:Bool) (a:AV) (n:Nat) (cs:List PV):pLen (.fz w a n cs)=some (.int .i64 n):=rfl
theorem zHE (s o n:Nat) (c:Cap):pLen (.sl s o n c)=some (.int .i64 n):=rfl
theorem zDY (s:List UInt8):zAB (.str s)=some (.int .i64 s.length):=rfl
theorem zFW (w:Bool) (l:Nat) (cs:List PV):pCap (.fz w .nils l cs)=some (.int .i64 0):=rfl
theorem zHG (s o n c:Nat):pCap (.sl s o n (.known c))=some (.int .i64 c):=rfl
theorem zDX (mx:Bool) (k:IntKind) (a b:Int):QF mx (.int k a) (.int k b)=some (.int k (if mx=true then max a b else min a b)):=by simp [QF]
theorem zFG (n s i:Nat):pldv false n (.ptr s i) h=h.rd1 s i:=rfl
theorem zFF (n s i:Nat):pldv true n (.ptr s i) h=(h.rd s i n).map .agg:=rfl
theorem zGD (n:Nat) (a:AV) (cs:List PV):pldv false n (.fp a cs) h=cs[0]?:=rfl
theorem zGC (n:Nat) (a:AV) (cs:List PV):pldv true n (.fp a cs) h=if 0<n∧n≤cs.length then some (.agg (cs.take n))else none:=rfl
theorem zFE:h.news []=h:=rfl
theorem zEA (z:List AV) (zs:List (List AV)):h.news (z::zs)=(h.new (ofAVs z)).news zs:=rfl
theorem zEs (recs:List RecP):qU [] recs h=True:=by
 apply propext;refine⟨fun _=>trivial,fun _=>?_⟩
 induction recs with
 | nil=>trivial
 | cons r rs ih=>exact⟨by simp,ih⟩
theorem zDi (c:List Nat):qU c [] h=True:=rfl
theorem zDj (c:List Nat) (i:Nat) (a:Bool) (n:Nat) (x v:PV) (rs:List RecP):qU c (⟨i,a,n,x,v⟩::rs) h=((if c.contains i=true then pldv a n x h=some v else True)∧qU c rs h):=rfl
theorem zDB (d:Option Nat) (a:Bool) (n:Nat) (x:IX) (g:Option (Nat×Bool)) (i:Nat) (c:List Nat) (v:PV):zL ⟨⟨d,.load a n x,true,g⟩,i,c⟩ e v=if ZX g e=true then [⟨i,a,n,x.pv e,v⟩]else []:=rfl
theorem zEz (d:Option Nat) (x:IX) (g:Option (Nat×Bool)) (i:Nat) (c:List Nat) (v:PV):zL ⟨⟨d,(.mv x),true,g⟩,i,c⟩ e v=[]:=rfl
theorem zDA (d:Option Nat) (x y z:IX) (g:Option (Nat×Bool)) (i:Nat) (c:List Nat) (v:PV):zL ⟨⟨d,(.pick x y z),true,g⟩,i,c⟩ e v=[]:=rfl
theorem zD6 (d:Option Nat) (op:BinOp) (ek:EqK) (x y:IX) (g:Option (Nat×Bool)) (i:Nat) (c:List Nat) (v:PV):zL ⟨⟨d,(.bin op ek x y),true,g⟩,i,c⟩ e v=[]:=rfl
theorem zEy (d:Option Nat) (op:UnOp) (x:IX) (g:Option (Nat×Bool)) (i:Nat) (c:List Nat) (v:PV):zL ⟨⟨d,(.un op x),true,g⟩,i,c⟩ e v=[]:=rfl
theorem zDC (d:Option Nat) (k:IntKind) (x:IX) (g:Option (Nat×Bool)) (i:Nat) (c:List Nat) (v:PV):zL ⟨⟨d,(.conv k x),true,g⟩,i,c⟩ e v=[]:=rfl
theorem zA6 (d:Option Nat) (x:IX) (g:Option (Nat×Bool)) (i:Nat) (c:List Nat) (v:PV):zL ⟨⟨d,(.nilCheck x),true,g⟩,i,c⟩ e v=[]:=rfl
theorem zCN (d:Option Nat) (z:List AV) (ps:List (Nat×Nat×IX)) (g:Option (Nat×Bool)) (i:Nat) (c:List Nat) (v:PV):zL ⟨⟨d,(.build z ps),true,g⟩,i,c⟩ e v=[]:=rfl
theorem zCM (d:Option Nat) (a:Bool) (n off:Nat) (x:IX) (g:Option (Nat×Bool)) (i:Nat) (c:List Nat) (v:PV):zL ⟨⟨d,(.field a n off x),true,g⟩,i,c⟩ e v=[]:=rfl
theorem zAh (d:Option Nat) (off:Nat) (x:IX) (g:Option (Nat×Bool)) (i:Nat) (c:List Nat) (v:PV):zL ⟨⟨d,(.fieldAddr off x),true,g⟩,i,c⟩ e v=[]:=rfl
theorem zAg (d:Option Nat) (sz:Nat) (x y:IX) (g:Option (Nat×Bool)) (i:Nat) (c:List Nat) (v:PV):zL ⟨⟨d,(.indexAddr sz x y),true,g⟩,i,c⟩ e v=[]:=rfl
theorem zA8 (d:Option Nat) (x y:IX) (g:Option (Nat×Bool)) (i:Nat) (c:List Nat) (v:PV):zL ⟨⟨d,(.indexStr x y),true,g⟩,i,c⟩ e v=[]:=rfl
theorem zBb (d:Option Nat) (x:IX) (j:Nat) (g:Option (Nat×Bool)) (i:Nat) (c:List Nat) (v:PV):zL ⟨⟨d,(.extract x j),true,g⟩,i,c⟩ e v=[]:=rfl
theorem zD4 (d:Option Nat) (x:IX) (g:Option (Nat×Bool)) (i:Nat) (c:List Nat) (v:PV):zL ⟨⟨d,(.len x),true,g⟩,i,c⟩ e v=[]:=rfl
theorem zB1 (d:Option Nat) (x:IX) (g:Option (Nat×Bool)) (i:Nat) (c:List Nat) (v:PV):zL ⟨⟨d,(.lenStr x),true,g⟩,i,c⟩ e v=[]:=rfl
theorem zD5 (d:Option Nat) (x:IX) (g:Option (Nat×Bool)) (i:Nat) (c:List Nat) (v:PV):zL ⟨⟨d,(.cap x),true,g⟩,i,c⟩ e v=[]:=rfl
theorem zCL (d:Option Nat) (sz:Nat) (x:IX) (lo hi mx:Option IX) (g:Option (Nat×Bool)) (i:Nat) (c:List Nat) (v:PV):zL ⟨⟨d,(.slice sz x lo hi mx),true,g⟩,i,c⟩ e v=[]:=rfl
theorem zA5 (d:Option Nat) (x:IX) (lo hi:Option IX) (g:Option (Nat×Bool)) (i:Nat) (c:List Nat) (v:PV):zL ⟨⟨d,(.sliceStr x lo hi),true,g⟩,i,c⟩ e v=[]:=rfl
theorem zB0 (d:Option Nat) (mx:Bool) (x y:IX) (g:Option (Nat×Bool)) (i:Nat) (c:List Nat) (v:PV):zL ⟨⟨d,(.maxmin mx x y),true,g⟩,i,c⟩ e v=[]:=rfl
theorem zA7 (d:Option Nat) (f:FuncId) (y z:List IX) (g:Option (Nat×Bool)) (i:Nat) (c:List Nat) (v:PV):zL ⟨⟨d,(.makeFunc f y z),true,g⟩,i,c⟩ e v=[]:=rfl
theorem zD3 (d:Option Nat) (j:Nat) (g:Option (Nat×Bool)) (i:Nat) (c:List Nat) (v:PV):zL ⟨⟨d,(.rev j),true,g⟩,i,c⟩ e v=[]:=rfl
theorem zC9 (d:Option Nat) (j m:Nat) (g:Option (Nat×Bool)) (i:Nat) (c:List Nat) (v:PV):zL ⟨⟨d,(.revS j m),true,g⟩,i,c⟩ e v=[]:=rfl
theorem zCF:ZX none e=true:=rfl
theorem zCE (t:Nat) (b:Bool):ZX (some (t,b)) e=(match e t with | .bool c=>decide (c=b) | _=>false):=rfl
theorem zD2:zm [] e h=some []:=rfl
theorem zD1 (t:Nat) (r:List IRes):zm (.tmp t::r) e h=(zm r e h).map fun vs=>e t::vs:=rfl
theorem zC7 (t:Nat) (a:Bool) (n:Nat) (r:List IRes):zm (.cell t a n::r) e h=(pldv a n (e t) h).bind fun v=>(zm r e h).map fun vs=>v::vs:=rfl
theorem zC8 (res:List IRes):retP res KA .normal e h=optK (zm res e h) fun vs=>KA (packP vs) h:=rfl
theorem zFt (res:List IRes):retP res KA .ret e h=optK (zm res e h) fun vs=>KA (packP vs) h:=rfl
theorem zFQ (v:PV):packP [v]=v:=rfl
theorem zFR:packP []=.tup []:=rfl
theorem zFP (u v:PV) (r:List PV):packP (u::v::r)=.tup (u::v::r):=rfl
theorem zFH (cs:List PV):pfill cs []=some cs:=rfl
theorem zEC (cs:List PV) (off size:Nat) (v:PV) (r:List (Nat×Nat×PV)):pfill cs ((off,size,v)::r)=if v.cells.length=size∧off+size≤cs.length∧v.cells.all PV.one=true then pfill (cs.take off++v.cells++cs.drop (off+size)) r else none:=rfl
theorem zEG (k:IntKind) (n:Int):PV.cells (.int k n)=[(.int k n)]:=rfl
theorem zF7 (k:IntKind) (n:Int):PV.one (.int k n)=true:=rfl
theorem zDP (b:Bool):PV.cells (.bool b)=[(.bool b)]:=rfl
theorem zFA (b:Bool):PV.one (.bool b)=true:=rfl
theorem zEE (s:List UInt8):PV.cells (.str s)=[(.str s)]:=rfl
theorem zF5 (s:List UInt8):PV.one (.str s)=true:=rfl
theorem zDN:PV.cells .nilp=[.nilp]:=rfl
theorem zE8:PV.one .nilp=true:=rfl
theorem zDO:PV.cells .nilf=[.nilf]:=rfl
theorem zE9:PV.one .nilf=true:=rfl
theorem zFJ (w:Bool) (a:AV) (n:Nat) (cs:List PV):PV.cells (.fz w a n cs)=[(.fz w a n cs)]:=rfl
theorem zG7 (w:Bool) (a:AV) (n:Nat) (cs:List PV):PV.one (.fz w a n cs)=true:=rfl
theorem zFK (a:AV) (cs:List PV):PV.cells (.fp a cs)=[(.fp a cs)]:=rfl
theorem zG8 (a:AV) (cs:List PV):PV.one (.fp a cs)=true:=rfl
theorem zEF (s i:Nat):PV.cells (.ptr s i)=[(.ptr s i)]:=rfl
theorem zF6 (s i:Nat):PV.one (.ptr s i)=true:=rfl
theorem zFI (s o n:Nat) (c:Cap):PV.cells (.sl s o n c)=[(.sl s o n c)]:=rfl
theorem zG6 (s o n:Nat) (c:Cap):PV.one (.sl s o n c)=true:=rfl
theorem zEH (f:FuncId) (a b:List PV):PV.cells (.clo f a b)=[(.clo f a b)]:=rfl
theorem zF8 (f:FuncId) (a b:List PV):PV.one (.clo f a b)=true:=rfl
theorem zEI (cs:List PV):PV.cells (.agg cs)=cs:=rfl
theorem zEJ (k:IntKind) (i:Int) (y:Nat):qY (.int k i) y=if 0≤i∧i≤y then some i.toNat else none:=rfl
theorem zCV (x:PV) (d y:Nat):zK (some x) d y=qY x y:=rfl
theorem zCW (d y:Nat):zK none d y=some d:=rfl
theorem zE4 (sz:Nat) (w:Bool) (a:AV) (len:Nat) (cs:List PV) (lo hi:Option PV):Zh sz (.fz w a len cs) lo hi none=(zK hi len len).bind fun h=>(zK lo 0 h).bind fun l=>some (.fz false (pslA sz a l h) (h-l) ((cs.drop (l*sz)).take ((h-l)*sz))):=rfl
theorem zCT (sz s off len c:Nat) (lo hi mx:Option PV):Zh sz (.sl s off len (.known c)) lo hi mx=(zK mx c c).bind fun m=>(zK hi len m).bind fun h=>(zK lo 0 h).bind fun l=>if hi.isNone=true∧mx.isSome=true then none else some (.sl s (if m=l then off else off+l*sz) (h-l) (.known (m-l))):=rfl
theorem zCU (sz s off len g:Nat) (lo hi:Option PV):Zh sz (.sl s off len (.grown g)) lo hi none=(zK hi len len).bind fun h=>(zK lo 0 h).bind fun l=>some (.sl s (off+l*sz) (h-l) (.grown (if g=sz then g else 0))):=rfl
theorem zB2 (s:List UInt8) (lo hi:Option PV):Zw (.str s) lo hi=(zK hi s.length s.length).bind fun h=>(zK lo 0 h).bind fun l=>some (.str ((s.take h).drop l)):=rfl
theorem zHB (w:Bool) (a:AV) (n:Nat) (cs:List PV):plen (.fz w a n cs)=some n:=rfl
theorem zDo (s o n:Nat) (c:Cap):plen (.sl s o n c)=some n:=rfl
theorem zBB (sz bytes:Nat) (s x:PV):qV sz bytes h s x=(plen x).bind fun m=>if m=0 then(psame s).map fun v=>(v,h)else(qh sz h x m).bind fun news=>pgrow sz bytes h s news m:=rfl
theorem zDH (s o n c:Nat):psame (.sl s o n (.known c))=if n≤c then some (.sl s o n (.known c))else none:=rfl
theorem Qp (sz s off len:Nat) (c:Cap) (n:Nat):qh sz h (.sl s off len c) n=if n=0 then some []else if n≤len then h.rd s off (n*sz)else none:=rfl
theorem zEB (sz bytes:Nat) (w:Bool) (n:Nat) (cs news:List PV) (m:Nat):pgrow sz bytes h (.fz w .nils n cs) news m=if m*bytes≤140737488355328∧m≤4611686018427387904 then some (.sl h.next 0 m (.grown sz),h.new news)else none:=rfl
theorem zDI (sz bytes s off len c:Nat) (news:List PV) (m:Nat):pgrow sz bytes h (.sl s off len (.known c)) news m=if len+m≤c then(h.wr s (off+len*sz) news).map fun σ'=>(.sl s off (len+m) (.known c),σ')else if (len+m)*bytes≤140737488355328∧len+m≤4611686018427387904 then(h.rd s off (len*sz)).map fun old=>(.sl h.next 0 (len+m) (.grown sz),h.new (old++news))else none:=rfl
theorem zDJ (sz bytes s off len g:Nat) (news:List PV) (m:Nat):pgrow sz bytes h (.sl s off len (.grown g)) news m=if (len+m)*bytes≤140737488355328∧len+m≤4611686018427387904∧g=sz then(h.obj s).bind fun cs=>if off+len*sz≤cs.length then some (.sl h.next 0 (len+m) (.grown sz),(h.kill s).new ((cs.drop off).take (len*sz)++news))else none else none:=rfl
theorem zF4 (cs:List PV) (s i:Nat):(h.new cs).rd1 s i=if s=h.next then cs[i]? else h.rd1 s i:=by by_cases x:s=h.next<;>simp [PHeap.rd1,PHeap.new,x]
theorem zDn (cs:List PV) (s i n:Nat):(h.new cs).rd s i n=if s=h.next then(if i+n≤cs.length then some ((cs.drop i).take n)else none)else h.rd s i n:=by by_cases x:s=h.next<;>simp [PHeap.rd,PHeap.new,x]
theorem Zj (cs:List PV) (s:Nat):(h.new cs).obj s=if s=h.next then some cs else h.obj s:=rfl
theorem zGy (cs:List PV) (s i:Nat) (vs:List PV):(h.new cs).wr s i vs=if s=h.next then(if i+vs.length≤cs.length∧vs.all PV.one=true then some (h.new (cs.take i++vs++cs.drop (i+vs.length)))else none)else(h.wr s i vs).map fun h'=>h'.new cs:=by
 by_cases x:s=h.next
 ·subst x
  simp only [PHeap.wr,PHeap.new,if_true,Option.bind_some]
  split
  ·congr 1
   simp only [PHeap.set]
   congr 1
   funext y
   by_cases hy:y=h.next<;>simp [hy]
  ·rfl
 ·simp only [PHeap.wr,PHeap.new,if_neg x]
  cases ho:h.obj s with
  | none=>rfl
  | some ob=>
   simp only [Option.bind_some]
   split
   ·simp only [Option.map_some,PHeap.set]
    congr 2
    funext y
    by_cases hy:y=s
    ·subst hy;simp [x]
    ·simp [hy]
   ·rfl
theorem zFD (cs:List PV):(h.new cs).next=h.next+1:=rfl
theorem zFz (cs:List PV):(h.new cs).top=h.top:=rfl
theorem zF1 (cs:List PV) (s:Nat) (ds:List PV):(h.new cs).set s ds=if s=h.next then h.new ds else(h.set s ds).new cs:=by
 by_cases x:s=h.next
 ·subst x
  rw [if_pos rfl];simp only [PHeap.set,PHeap.new]
  congr 1
  funext y
  by_cases hy:y=h.next<;>simp [hy]
 ·rw [if_neg x]
  simp only [PHeap.set,PHeap.new]
  congr 1
  funext y
  by_cases hy:y=s
  ·subst hy;simp [x]
  ·simp [hy]
theorem zF0 (s:Nat) (cs ds:List PV):(h.set s cs).set s ds=h.set s ds:=by
 simp only [PHeap.set]
 congr 1
 funext y
 by_cases hy:y=s<;>simp [hy]
theorem zFC (s:Nat) (cs:List PV):(h.set s cs).next=h.next:=rfl
theorem zD9 (s:Nat):(h.kill s).next=h.next:=rfl
theorem zGA (t:Nat):(h.up t).next=h.next:=rfl
theorem zG1 (t:Nat):(h.up t).top=t:=rfl
theorem zHA (t:Nat) (cs:List PV):(h.up t).new cs=(h.new cs).up t:=rfl
theorem zG4 (t s i:Nat):(h.up t).rd1 s i=h.rd1 s i:=rfl
theorem zHd (t s i n:Nat):(h.up t).rd s i n=h.rd s i n:=rfl
theorem zG9 (t s:Nat):(h.up t).obj s=h.obj s:=rfl
theorem zHc (t s i:Nat) (vs:List PV):(h.up t).wr s i vs=(h.wr s i vs).map fun h'=>h'.up t:=by
 simp only [PHeap.wr,PHeap.up];cases h.obj s with
 | none=>rfl
 | some cs=>simp only [Option.bind_some];split<;>rfl
theorem zFB (s t:Nat):(h.kill s).obj t=if t=s then none else h.obj t:=rfl
theorem zF9 (s:Nat) (cs:List PV) (t:Nat):(h.set s cs).obj t=if t=s then some cs else h.obj t:=rfl
theorem zE5 (s t i:Nat):(h.kill s).rd1 t i=if t=s then none else h.rd1 t i:=by by_cases x:t=s<;>simp [PHeap.rd1,PHeap.kill,x]
theorem zF2 (s t i n:Nat):(h.kill s).rd t i n=if t=s then none else h.rd t i n:=by by_cases x:t=s<;>simp [PHeap.rd,PHeap.kill,x]
theorem zF3 (s:Nat) (cs:List PV) (t i:Nat):(h.set s cs).rd1 t i=if t=s then cs[i]? else h.rd1 t i:=by by_cases x:t=s<;>simp [PHeap.rd1,PHeap.set,x]
theorem zG3 (s:Nat) (cs:List PV) (t i n:Nat):(h.set s cs).rd t i n=if t=s then(if i+n≤cs.length then some ((cs.drop i).take n)else none)else h.rd t i n:=by by_cases x:t=s<;>simp [PHeap.rd,PHeap.set,x]
theorem zGx (s:Nat) (cs:List PV) (i:Nat) (vs:List PV):(h.set s cs).wr s i vs=if i+vs.length≤cs.length∧vs.all PV.one=true then some (h.set s (cs.take i++vs++cs.drop (i+vs.length)))else none:=by
 simp only [PHeap.wr,PHeap.set,if_true,Option.bind_some]
 split
 ·congr 2
  funext y
  by_cases hy:y=s<;>simp [hy]
 ·rfl
end
def pw0:=And.intro @zGo <| And.intro @zEu <| And.intro @zGq <| And.intro @zHW <| And.intro @zGr <| And.intro @zFr <| And.intro @zGp <| And.intro @zHX <| And.intro @zHT <| And.intro @RVp_q <| And.intro @RVp_e <| And.intro @zHU <| And.intro @DVp_q <| And.intro @DVp_e <| And.intro @zGb <| And.intro @zGa <| And.intro @zGd <| And.intro @zGc <| And.intro @zDL <| And.intro @zCc <| And.intro @zED <| And.intro @zDM <| And.intro @zCb <| And.intro @zCZ <| And.intro @zCY <| And.intro @zCa <| And.intro @pv_t <| And.intro @pv_c <| And.intro @zGB <| @zE6
def pw1:=And.intro @zE7 <| And.intro @qp_mv <| And.intro @zGu <| And.intro @zHb <| And.intro @qp_un <| And.intro @zGw <| And.intro @zDE <| And.intro @zFy <| And.intro @zFx <| And.intro @zCR <| And.intro @zCQ <| And.intro @zDG <| And.intro @zD7 <| And.intro @zHZ <| And.intro @zE2 <| And.intro @zHa <| And.intro @zFw <| And.intro @zDD <| And.intro @zE1 <| And.intro @zDF <| And.intro @zGv <| And.intro @zHY <| And.intro @zGt <| And.intro @zGj <| And.intro @zHl <| And.intro @zEh <| And.intro @zGh <| And.intro @zEP <| And.intro @zFi <| And.intro @zDg <| @zDa
def pw2:=And.intro @zFS <| And.intro @zFj <| And.intro @zHQ <| And.intro @zHR <| And.intro @zGi <| And.intro @zET <| And.intro @zGV <| And.intro @of_bool <| And.intro @of_int <| And.intro @zHe <| And.intro @zHK <| And.intro @zHL <| And.intro @zHJ <| And.intro @zHf <| And.intro @zHg <| And.intro @zHI <| And.intro @zGU <| And.intro @zHH <| And.intro @zGP <| And.intro @zGF <| And.intro @zGJ <| And.intro @zGO <| And.intro @zGI <| And.intro @zGK <| And.intro @zGL <| And.intro @zGM <| And.intro @zGN <| And.intro @zGH <| And.intro @zGG <| @zEN
def pw3:=And.intro @zFO <| And.intro @zEO <| And.intro @zFN <| And.intro @zFM <| And.intro @zEM <| And.intro @zDU <| And.intro @zEL <| And.intro @zDT <| And.intro @zDS <| And.intro @zDR <| And.intro @zDQ <| And.intro @zDe <| And.intro @zFe <| And.intro @zG0 <| And.intro @zGz <| And.intro @zEQ <| And.intro @zDW <| And.intro @zFV <| And.intro @zGQ <| And.intro @zGR <| And.intro @zHD <| And.intro @zES <| And.intro @zER <| And.intro @zBe <| And.intro @zB5 <| And.intro @zFT <| And.intro @zFU <| And.intro @zDZ <| And.intro @zCe <| @zHF
def pw4:=And.intro @zHE <| And.intro @zDY <| And.intro @zFW <| And.intro @zHG <| And.intro @zDX <| And.intro @zFG <| And.intro @zFF <| And.intro @zGD <| And.intro @zGC <| And.intro @zFE <| And.intro @zEA <| And.intro @zEs <| And.intro @zDi <| And.intro @zDj <| And.intro @zDB <| And.intro @zEz <| And.intro @zDA <| And.intro @zD6 <| And.intro @zEy <| And.intro @zDC <| And.intro @zA6 <| And.intro @zCN <| And.intro @zCM <| And.intro @zAh <| And.intro @zAg <| And.intro @zA8 <| And.intro @zBb <| And.intro @zD4 <| And.intro @zB1 <| @zD5
def pw5:=And.intro @zCL <| And.intro @zA5 <| And.intro @zB0 <| And.intro @zA7 <| And.intro @zD3 <| And.intro @zC9 <| And.intro @zCF <| And.intro @zCE <| And.intro @zD2 <| And.intro @zD1 <| And.intro @zC7 <| And.intro @zC8 <| And.intro @zFt <| And.intro @zFQ <| And.intro @zFR <| And.intro @zFP <| And.intro @zFH <| And.intro @zEC <| And.intro @zEG <| And.intro @zF7 <| And.intro @zDP <| And.intro @zFA <| And.intro @zEE <| And.intro @zF5 <| And.intro @zDN <| And.intro @zE8 <| And.intro @zDO <| And.intro @zE9 <| And.intro @zFJ <| And.intro @zG7 <| @zFK
def pw6:=And.intro @zG8 <| And.intro @zEF <| And.intro @zF6 <| And.intro @zFI <| And.intro @zG6 <| And.intro @zEH <| And.intro @zF8 <| And.intro @zEI <| And.intro @zEJ <| And.intro @zCV <| And.intro @zCW <| And.intro @zE4 <| And.intro @zCT <| And.intro @zCU <| And.intro @zB2 <| And.intro @zHB <| And.intro @zDo <| And.intro @zF4 <| And.intro @zDn <| And.intro @Zj <| And.intro @zGy <| And.intro @zFD <| And.intro @zFz <| And.intro @zF1 <| And.intro @zF0 <| And.intro @zFC <| And.intro @zD9 <| And.intro @zGA <| And.intro @zG1 <| @zHA
def pw7:=And.intro @zG4 <| And.intro @zHd <| And.intro @zG9 <| And.intro @zHc <| And.intro @zFB <| And.intro @zF9 <| And.intro @zE5 <| And.intro @zF2 <| And.intro @zF3 <| And.intro @zG3 <| And.intro @zGx <| And.intro @Zx <| And.intro @ZG <| And.intro @zFX <| And.intro @zGT <| And.intro @List.map_cons.{0,0} <| And.intro @List.map_nil.{0,0} <| And.intro @List.length_cons.{0} <| And.intro @List.length_nil.{0} <| And.intro @List.getElem?_cons_zero.{0} <| And.intro @List.getElem?_cons_succ.{0} <| And.intro @List.take_succ_cons.{0} <| And.intro @List.take_zero.{0} <| And.intro @List.drop_succ_cons.{0} <| And.intro @List.drop_zero.{0} <| And.intro @List.take_nil.{0} <| And.intro @List.drop_nil.{0} <| And.intro @List.nil_append.{0} <| And.intro @List.cons_append.{0} <| @List.append_nil.{0}
def pw8:=And.intro @List.all_cons.{0} <| And.intro @List.all_nil.{0} <| And.intro @List.contains_cons.{0} <| And.intro @List.contains_nil.{0} <| And.intro @Option.map_some.{0,0} <| And.intro @Option.map_none.{0,0} <| And.intro @Option.bind_some.{0,0} <| And.intro @Option.bind_none.{0,0} <| And.intro @decide_true <| And.intro @decide_false <| And.intro @Bool.not_true <| And.intro @Bool.not_false <| And.intro @Bool.and_true <| And.intro @Bool.true_and <| And.intro @Bool.and_self <| And.intro @Bool.or_false <| And.intro @Bool.or_true <| And.intro @Bool.true_or <| And.intro @Bool.false_or <| And.intro @true_and <| And.intro @and_true <| And.intro @Bool.true_eq_false <| And.intro @Bool.false_eq_true <| And.intro @Nat.left_eq_add <| And.intro @Nat.add_eq_left <| And.intro @Nat.succ_ne_self <| And.intro @Nat.one_ne_zero <| And.intro @Nat.add_left_cancel_iff <| And.intro @Nat.add_assoc <| @Nat.mul_one
def pw9:=And.intro @Nat.zero_add <| And.intro @Nat.add_zero <| And.intro @Nat.le_refl <| And.intro @Nat.lt_add_one <| And.intro @Int.toNat_natCast <| And.intro @Int.natCast_nonneg <| And.intro @Int.ofNat_lt <| And.intro @Int.le_refl <| And.intro @zDu <| And.intro @zDv <| And.intro @zCC <| And.intro @Nat.one_mul <| @Nat.zero_mul
def pwA:=And.intro pw0 <| And.intro pw1 <| And.intro pw2 <| And.intro pw3 <| And.intro pw4 <| And.intro pw5 <| And.intro pw6 <| And.intro pw7 <| And.intro pw8 <| And.intro pw9 <| And.intro @nm_eq <| And.intro @eq_self.{1} <| And.intro @Int.ofNat_le @List.getElem?_drop.{0}
end Go.Ab
