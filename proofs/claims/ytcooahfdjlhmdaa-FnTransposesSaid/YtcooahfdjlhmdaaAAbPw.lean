/- THE RULES BY WHICH CODE IS WALKED over values without a heap: equations, and the one name 'pw' for all of them. Written by a program. -/
import Derived.Test.YtcooahfdjlhmdaaAAbPg
import Derived.Test.YtcooahfdjlhmdaaAAbAid
set_option linter.unusedVariables false
set_option linter.unusedSimpArgs false
set_option linter.defProp false
namespace Go.Ab
section
variable {P:Program} {Q:Exit→PEnv→PHeap→Prop} {e:PEnv} {h:PHeap} {K:PEnv→PHeap→Prop} {KA:PV→PHeap→Prop} {nb nr:Nat}
theorem zHX:vp P .skip Q e h=Q .normal e h:=rfl
theorem zFJ (S:List Nat) (its:List II):vp P (.region S its) Q e h=RVp P its e h fun e' h'=>Q .normal (PEnv.mk S (S.map e')) h':=rfl
theorem zHZ (S:List Nat) (zs:List (List AV)) (its:List DI):vp P (.draw S zs its) Q e h=DVp P h.next zs.length its [] e (h.news zs) fun e' h'=>Q .normal (PEnv.mk S (S.map e')) h':=rfl
theorem zIH (a b:IC):vp P (.seq a b) Q e h=vp P a (fun x e' h'=>match x with | .normal=>vp P b Q e' h' | x=>Q x e' h') e h:=rfl
theorem zHa (c:IX) (a b:IC):vp P (.cond c a b) Q e h=qQ (c.pv e) (vp P a Q e h) (vp P b Q e h):=rfl
theorem zGW (id:Nat) (c:IC):vp P (.block id c) Q e h=vp P c (fun x e' h'=>match x with | .exit id'=>if id'=id then Q .normal e' h' else Q (.exit id') e' h' | x=>Q x e' h') e h:=rfl
theorem zHY (id:Nat):vp P (.exit id) Q e h=Q (.exit id) e h:=rfl
theorem zII:vp P .ret Q e h=Q .ret e h:=rfl
theorem zID:RVp P [] e h K=K e h:=rfl
theorem RVp_q (d:Option Nat) (op:IOp) (g:Option (Nat×Bool)) (r:List II):RVp P (⟨d,op,true,g⟩::r) e h K=optK (gqp 0 0 ⟨d,op,true,g⟩ e h) fun v=>RVp P r (e.put d v) h K:=rfl
theorem RVp_e (d:Option Nat) (op:IOp) (g:Option (Nat×Bool)) (r:List II):RVp P (⟨d,op,false,g⟩::r) e h K=gep P ⟨d,op,false,g⟩ e h fun v h'=>RVp P r (e.put d v) h' K:=rfl
theorem zIE (recs:List RecP):DVp P nb nr [] recs e h K=K e h:=rfl
theorem DVp_q (d:Option Nat) (op:IOp) (g:Option (Nat×Bool)) (i:Nat) (c:List Nat) (r:List DI) (recs:List RecP):DVp P nb nr (⟨⟨d,op,true,g⟩,i,c⟩::r) recs e h K=optK (gqp nb nr ⟨d,op,true,g⟩ e h) fun v=>DVp P nb nr r (zV ⟨⟨d,op,true,g⟩,i,c⟩ e v++recs) (e.put d v) h K:=rfl
theorem DVp_e (d:Option Nat) (op:IOp) (g:Option (Nat×Bool)) (i:Nat) (c:List Nat) (r:List DI) (recs:List RecP):DVp P nb nr (⟨⟨d,op,false,g⟩,i,c⟩::r) recs e h K=gep P ⟨d,op,false,g⟩ e h fun v h'=>ZP c recs h'∧DVp P nb nr r recs (e.put d v) h' K:=rfl
theorem zHG (d:Option Nat) (op:IOp) (q:Bool):gqp nb nr ⟨d,op,q,none⟩ e h=qp nb nr op e h:=rfl
theorem zHF (d:Option Nat) (op:IOp) (q:Bool) (t:Nat) (b:Bool):gqp nb nr ⟨d,op,q,some (t,b)⟩ e h=ZC (e t) b (qp nb nr op e h):=rfl
theorem zHI (d:Option Nat) (op:IOp) (q:Bool):gep P ⟨d,op,q,none⟩ e h KA=ep P op e h KA:=rfl
theorem zHH (d:Option Nat) (op:IOp) (q:Bool) (t:Nat) (b:Bool):gep P ⟨d,op,q,some (t,b)⟩ e h KA=qP (e t) b (ep P op e h KA) (KA (.tup []) h):=rfl
theorem zDi (a b:Prop):qQ (.bool true) a b=a:=rfl
theorem zCt (a b:Prop):qQ (.bool false) a b=b:=rfl
theorem zEi (c:Prop) [Decidable c] (a b:Prop):qQ (.bool (decide c)) a b=if c then a else b:=by by_cases x:c<;>simp [qQ,x]
theorem zDj (c:Prop) [Decidable c] (a b:Prop):qQ (.bool (!decide c)) a b=if c then b else a:=by by_cases x:c<;>simp [qQ,x]
theorem zCs (c b:Bool) (x y:Prop):qP (.bool c) b x y=if c=b then x else y:=rfl
theorem zCq (c b:Bool) (x:Option PV):ZC (.bool c) b x=if c=b then x else some (.tup []):=rfl
theorem zCp (b:Bool) (x:Option PV):ZC (.tup []) b x=some (.tup []):=rfl
theorem zCr (b:Bool) (x y:Prop):qP (.tup []) b x y=y:=rfl
theorem pv_t (n:Nat):(IX.t n).pv e=e n:=rfl
theorem pv_c (v:AV):(IX.c v).pv e=ofAV v:=rfl
theorem zGt (s:Nat) (S:List Nat) (v:PV) (vs:List PV) (t:Nat):PEnv.mk (s::S) (v::vs) t=if t=s then v else PEnv.mk S vs t:=rfl
theorem zFZ (d:Nat) (v:PV) (t:Nat):e.put (some d) v t=if t=d then v else e t:=rfl
theorem zFa (v:PV):e.put none v=e:=rfl
theorem qp_mv (x:IX):qp nb nr (.mv x) e h=some (x.pv e):=rfl
theorem zHi (c a b:IX):qp nb nr (.pick c a b) e h=pPick (c.pv e) (a.pv e) (b.pv e):=rfl
theorem zIS (op:BinOp) (ek:EqK) (x y:IX):qp nb nr (.bin op ek x y) e h=pbin op ek (x.pv e) (y.pv e):=rfl
theorem qp_un (op:UnOp) (x:IX):qp nb nr (.un op x) e h=pun op (x.pv e):=rfl
theorem zHk (k:IntKind) (x:IX):qp nb nr (.conv k x) e h=pConv k (x.pv e):=rfl
theorem zDb (x:IX):qp nb nr (.nilCheck x) e h=pNil (x.pv e):=rfl
theorem zGh (z:List AV) (ps:List (Nat×Nat×IX)):qp nb nr (.build z ps) e h=(pfill (ofAVs z) (ps.map fun p=>(p.1,p.2.1,p.2.2.pv e))).map .agg:=rfl
theorem zGg (a:Bool) (n off:Nat) (x:IX):qp nb nr (.field a n off x) e h=Qp a n off (x.pv e):=rfl
theorem zCj (off:Nat) (x:IX):qp nb nr (.fieldAddr off x) e h=ZJ off (x.pv e):=rfl
theorem zCi (sz:Nat) (x i:IX):qp nb nr (.indexAddr sz x i) e h=QO sz (x.pv e) (i.pv e):=rfl
theorem zDd (x i:IX):qp nb nr (.indexStr x i) e h=zAH (x.pv e) (i.pv e):=rfl
theorem zEc (x:IX) (i:Nat):qp nb nr (.extract x i) e h=QZ (x.pv e) i:=rfl
theorem zIQ (x:IX):qp nb nr (.len x) e h=pLen (x.pv e):=rfl
theorem zFU (x:IX):qp nb nr (.lenStr x) e h=zAG (x.pv e):=rfl
theorem zIR (x:IX):qp nb nr (.cap x) e h=pCap (x.pv e):=rfl
theorem zGf (sz:Nat) (x:IX) (lo hi mx:Option IX):qp nb nr (.slice sz x lo hi mx) e h=qY sz (x.pv e) (lo.map (·.pv e)) (hi.map (·.pv e)) (mx.map (·.pv e)):=rfl
theorem zDa (x:IX) (lo hi:Option IX):qp nb nr (.sliceStr x lo hi) e h=Zz (x.pv e) (lo.map (·.pv e)) (hi.map (·.pv e)):=rfl
theorem zFT (mx:Bool) (x y:IX):qp nb nr (.maxmin mx x y) e h=QN mx (x.pv e) (y.pv e):=rfl
theorem zDc (f:FuncId) (a b:List IX):qp nb nr (.makeFunc f a b) e h=some (.clo f (a.map (·.pv e)) (b.map (·.pv e))):=rfl
theorem zHj (a:Bool) (n:Nat) (x:IX):qp nb nr (.load a n x) e h=pldv a n (x.pv e) h:=rfl
theorem zIP (k:Nat):qp nb nr (.rev k) e h=if k<nr then some (.ptr (nb+k) 0)else none:=rfl
theorem zHh (k n:Nat):qp nb nr (.revS k n) e h=if k<nr then some (.sl (nb+k) 0 n (.known n))else none:=rfl
theorem zHQ (z:List AV):ep P (.alloc z) e h KA=KA (.ptr h.next 0) (h.new (ofAVs z)):=rfl
theorem zIf (x:IX):ep P (.box x) e h KA=((x.pv e).cells.all PV.one=true∧KA (.ptr h.next 0) (h.new (x.pv e).cells)):=rfl
theorem zE7 (sz len:Nat) (z:List AV) (ps:List (Nat×Nat×IX)):ep P (.buildSl sz len z ps) e h KA=optK (pfill (ofAVs (zeros z len)) (ps.map fun p=>(p.1,p.2.1,p.2.2.pv e))) fun cs=>KA (.sl h.next 0 len (.known len)) (h.new cs):=rfl
def zBI (n:Nat) (x v:PV) (h:PHeap) (KA:PV→PHeap→Prop):Prop:=
 match x with
 | .ptr s i=>v.cells.length=n∧optK (h.wr s i v.cells) fun h'=>KA .undef h'
 | _=>False
def pMake (sz bytes:Nat) (z:List AV) (l c:PV) (h:PHeap) (KA:PV→PHeap→Prop):Prop:=
 match l,c with
 | .int _ l,.int _ c=>(0≤l∧l≤c∧c*bytes≤140737488355328∧c≤9223372036854775807)∧KA (.sl h.next 0 l.toNat (.known c.toNat)) (h.new (ofAVs (zeros z c.toNat)))
 | _,_=>False
def zBK (sz bytes:Nat) (z:List AV) (s n:PV) (h:PHeap) (KA:PV→PHeap→Prop):Prop:=
 match s,n with
 | .fz _ .nils _ _,.int _ n=>(0<n∧n*bytes≤140737488355328∧n≤4611686018427387904)∧KA (.sl h.next 0 n.toNat (.grown sz)) (h.new (ofAVs (zeros z n.toNat)))
 | _,_=>False
def zBJ (P:Program) (f:PV) (args:List PV) (h:PHeap) (KA:PV→PHeap→Prop):Prop:=
 match f with
 | .clo f first caps=>okF P f=true∧zC P f (first++args++caps) h KA
 | _=>False
theorem zHO (n:Nat) (x v:IX):ep P (.store n x v) e h KA=zBI n (x.pv e) (v.pv e) h KA:=rfl
theorem zEu (n s i:Nat) (v:PV):zBI n (.ptr s i) v h KA=(v.cells.length=n∧optK (h.wr s i v.cells) fun h'=>KA .undef h'):=rfl
theorem zGI (sz bytes:Nat) (z:List AV) (l c:IX):ep P (.makeSl sz bytes z l c) e h KA=pMake sz bytes z (l.pv e) (c.pv e) h KA:=rfl
theorem zD6 (sz bytes:Nat) (z:List AV) (s n:IX):ep P (.appendMk sz bytes z s n) e h KA=zBK sz bytes z (s.pv e) (n.pv e) h KA:=rfl
theorem zDx (sz bytes:Nat) (z:List AV) (w:Bool) (l:Nat) (cs:List PV) (k:IntKind) (n:Int):zBK sz bytes z (.fz w .nils l cs) (.int k n) h KA=((0<n∧n*bytes≤140737488355328∧n≤4611686018427387904)∧KA (.sl h.next 0 n.toNat (.grown sz)) (h.new (ofAVs (zeros z n.toNat)))):=rfl
theorem zFx (sz bytes:Nat) (z:List AV) (k k':IntKind) (l c:Int):pMake sz bytes z (.int k l) (.int k' c) h KA=((0≤l∧l≤c∧c*bytes≤140737488355328∧c≤9223372036854775807)∧KA (.sl h.next 0 l.toNat (.known c.toNat)) (h.new (ofAVs (zeros z c.toNat)))):=rfl
theorem zGJ (sz bytes:Nat) (s x:IX):ep P (.append sz bytes s x) e h KA=optK (zq sz bytes h (s.pv e) (x.pv e)) fun p=>KA p.1 p.2:=rfl
theorem zH9 (sz:Nat) (d s:IX):ep P (.copy sz d s) e h KA=optK (pcopy sz h (d.pv e) (s.pv e)) fun p=>KA p.1 p.2:=rfl
theorem zIA (f:FuncId) (args:List IX):ep P (.call f args) e h KA=zC P f (args.map (·.pv e)) h KA:=rfl
theorem zHP (f:IX) (args:List IX):ep P (.callV f args) e h KA=zBJ P (f.pv e) (args.map (·.pv e)) h KA:=rfl
theorem zEy (f:FuncId) (a b args:List PV):zBJ P (.clo f a b) args h KA=(okF P f=true∧zC P f (a++args++b) h KA):=rfl
theorem zHB:ofAV .undef=.undef:=rfl
theorem of_bool (b:Bool):ofAV (.bool b)=.bool b:=rfl
theorem of_int (k:IntKind) (n:Int):ofAV (.int k n)=.int k n:=rfl
theorem zIW (s:List UInt8):ofAV (.str s)=.str s:=rfl
theorem zH5:ofAV .nilp=.nilp:=rfl
theorem zH6:ofAV .nilf=.nilf:=rfl
theorem zH4:ofAV .nils=.fz true .nils 0 []:=rfl
theorem zIX (f:FuncId) (a b:List AV):ofAV (.clo f a b)=.clo f (ofAVs a) (ofAVs b):=rfl
theorem zIY (a:List AV):ofAV (.agg a)=.agg (ofAVs a):=rfl
theorem zH3:ofAVs []=[]:=rfl
theorem zHA (c:AV) (cs:List AV):ofAVs (c::cs)=ofAV c::ofAVs cs:=rfl
theorem zH2 (n:Nat) (c:AV):ofAVs (List.replicate n c)=List.replicate n (ofAV c):=by rw [zB6,List.map_replicate]
theorem zG6 (k:IntKind) (ek:EqK) (a b:Int):pbin .add ek (.int k a) (.int k b)=some (.int k (k.wrap (a+b))):=by simp [pbin,abin,aint,ofAV]
theorem zGw (k:IntKind) (ek:EqK) (a b:Int):pbin .sub ek (.int k a) (.int k b)=some (.int k (k.wrap (a-b))):=by simp [pbin,abin,aint,ofAV]
theorem zG0 (k:IntKind) (ek:EqK) (a b:Int):pbin .mul ek (.int k a) (.int k b)=some (.int k (k.wrap (a*b))):=by simp [pbin,abin,aint,ofAV]
theorem zG5 (k:IntKind) (ek:EqK) (a b:Int):pbin .eql ek (.int k a) (.int k b)=some (.bool (decide (a=b))):=by simp [pbin,abin,aint,ofAV]
theorem zGz (k:IntKind) (ek:EqK) (a b:Int):pbin .neq ek (.int k a) (.int k b)=some (.bool (!decide (a=b))):=by simp [pbin,abin,aint,ofAV]
theorem zG1 (k:IntKind) (ek:EqK) (a b:Int):pbin .lss ek (.int k a) (.int k b)=some (.bool (decide (a<b))):=by simp [pbin,abin,aint,ofAV]
theorem zG2 (k:IntKind) (ek:EqK) (a b:Int):pbin .leq ek (.int k a) (.int k b)=some (.bool (decide (a≤b))):=by simp [pbin,abin,aint,ofAV]
theorem zG3 (k:IntKind) (ek:EqK) (a b:Int):pbin .gtr ek (.int k a) (.int k b)=some (.bool (decide (b<a))):=by simp [pbin,abin,aint,ofAV]
theorem zG4 (k:IntKind) (ek:EqK) (a b:Int):pbin .geq ek (.int k a) (.int k b)=some (.bool (decide (b≤a))):=by simp [pbin,abin,aint,ofAV]
theorem zGy (k:IntKind) (ek:EqK) (a b:Int):pbin .quo ek (.int k a) (.int k b)=if b=0 then none else some (.int k (k.wrap (a.tdiv b))):=by simp only [pbin,abin,aint,if_true];split<;>rfl
theorem zGx (k:IntKind) (ek:EqK) (a b:Int):pbin .rem ek (.int k a) (.int k b)=if b=0 then none else some (.int k (a.tmod b)):=by simp only [pbin,abin,aint,if_true];split<;>rfl
theorem zEs (n:Nat) (xs ys:List PV):pbin .eql (.ints n) (.agg xs) (.agg ys)=if xs.length=n∧ys.length=n then(paggB xs ys).bind fun r=>some (.bool r)else none:=rfl
theorem zFt:paggB [] []=some true:=rfl
theorem zEt (k:IntKind) (a b:Int) (xs ys:List PV):paggB (.int k a::xs) (.int k b::ys)=(paggB xs ys).map fun r=>decide (a=b) && r:=by simp [paggB]
theorem zFs (a b:Bool):pbin .eql .bool (.bool a) (.bool b)=some (.bool (a == b)):=rfl
theorem zFr (a b:Bool):pbin .neq .bool (.bool a) (.bool b)=some (.bool !(a == b)):=rfl
theorem zEr (w w':Bool) (a:AV) (n n':Nat) (cs cs':List PV):pbin .eql .slice (.fz w a n cs) (.fz w' .nils n' cs')=some (.bool (qG a)):=rfl
theorem zDr (w w':Bool) (a:AV) (n n':Nat) (cs cs':List PV):pbin .neq .slice (.fz w a n cs) (.fz w' .nils n' cs')=some (.bool (!qG a)):=rfl
theorem zEq (s o n:Nat) (c:Cap) (w':Bool) (n':Nat) (cs':List PV):pbin .eql .slice (.sl s o n c) (.fz w' .nils n' cs')=some (.bool false):=rfl
theorem zDq (s o n:Nat) (c:Cap) (w':Bool) (n':Nat) (cs':List PV):pbin .neq .slice (.sl s o n c) (.fz w' .nils n' cs')=some (.bool true):=rfl
theorem zDp (ek:EqK) (a b:List UInt8):pbin .add ek (.str a) (.str b)=if a.length+b.length≤9223372036854775807 then some (.str (a++b))else none:=by simp only [pbin,astr];split<;>rfl
theorem zDo (ek:EqK) (a b:List UInt8):pbin .eql ek (.str a) (.str b)=some (.bool (a == b)):=rfl
theorem zDn (ek:EqK) (a b:List UInt8):pbin .neq ek (.str a) (.str b)=some (.bool !(a == b)):=rfl
theorem zD4:qG .nils=true:=rfl
theorem zGF (o f n:Nat) (c:Cap):qG (.sl o f n c)=false:=rfl
theorem zHo (k:IntKind) (n:Int):pun .neg (.int k n)=some (.int k (k.wrap (0-n))):=rfl
theorem zHn (b:Bool):pun .not (.bool b)=some (.bool !b):=rfl
theorem zEv (a b:PV):pPick (.bool true) a b=some a:=rfl
theorem zDt (a b:PV):pPick (.bool false) a b=some b:=rfl
theorem zF0 (k k':IntKind) (n:Int):pConv k (.int k' n)=some (.int k (k.wrap n)):=rfl
theorem zG7 (s i:Nat):pNil (.ptr s i)=some (.ptr s i):=rfl
theorem zG8 (f:FuncId) (a b:List PV):pNil (.clo f a b)=some (.clo f a b):=rfl
theorem zHy (a:AV) (c:PV) (cs:List PV):pNil (.fp a (c::cs))=some (.fp a (c::cs)):=rfl
theorem zEx (n off:Nat) (cs:List PV):Qp true n off (.agg cs)=some (.agg ((cs.drop off).take n)):=rfl
theorem zEw (n off:Nat) (cs:List PV):Qp false n off (.agg cs)=cs[off]?:=rfl
theorem zBq (off s i:Nat):ZJ off (.ptr s i)=some (.ptr s (i+off)):=rfl
theorem zCN (off:Nat) (a:AV) (c:PV) (cs:List PV):ZJ off (.fp a (c::cs))=some (.fp (pAdd a off) ((c::cs).drop off)):=rfl
theorem zFy (sz s off len:Nat) (c:Cap) (k:IntKind) (n:Int):QO sz (.sl s off len c) (.int k n)=if 0≤n∧n<len then some (.ptr s (off+n.toNat*sz))else none:=rfl
theorem zFz (sz:Nat) (w:Bool) (a:AV) (len:Nat) (cs:List PV) (k:IntKind) (n:Int):QO sz (.fz w a len cs) (.int k n)=if 0≤n∧n<len then some (.fp (pAt a (n.toNat*sz)) (cs.drop (n.toNat*sz)))else none:=rfl
theorem zDw (s:List UInt8) (k:IntKind) (n:Int):zAH (.str s) (.int k n)=if 0≤n then(s[n.toNat]?).map fun c=>.int .u8 c.toNat else none:=rfl
theorem zCw (vs:List PV) (i:Nat):QZ (.tup vs) i=vs[i]?:=rfl
theorem zH0 (w:Bool) (a:AV) (n:Nat) (cs:List PV):pLen (.fz w a n cs)=some (.int .i64 n):=rfl
theorem zHz (s o n:Nat) (c:Cap):pLen (.sl s o n c)=some (.int .i64 n):=rfl
theorem zDv (s:List UInt8):zAG (.str s)=some (.int .i64 s.length):=rfl
theorem zF1 (w:Bool) (l:Nat) (cs:List PV):pCap (.fz w .nils l cs)=some (.int .i64 0):=rfl
theorem zH1 (s o n c:Nat):pCap (.sl s o n (.known c))=some (.int .i64 c):=rfl
theorem zDu (mx:Bool) (k:IntKind) (a b:Int):QN mx (.int k a) (.int k b)=some (.int k (if mx=true then max a b else min a b)):=by simp [QN]
theorem zFj (n s i:Nat):pldv false n (.ptr s i) h=h.rd1 s i:=rfl
theorem zFi (n s i:Nat):pldv true n (.ptr s i) h=(h.rd s i n).map .agg:=rfl
theorem zGv (n:Nat) (a:AV) (cs:List PV):pldv false n (.fp a cs) h=cs[0]?:=rfl
theorem zGu (n:Nat) (a:AV) (cs:List PV):pldv true n (.fp a cs) h=if 0<n∧n≤cs.length then some (.agg (cs.take n))else none:=rfl
theorem zFh:h.news []=h:=rfl
theorem zEg (z:List AV) (zs:List (List AV)):h.news (z::zs)=(h.new (ofAVs z)).news zs:=rfl
theorem zFH (recs:List RecP):ZP [] recs h=True:=by
 apply propext;refine⟨fun _=>trivial,fun _=>?_⟩
 induction recs with
 | nil=>trivial
 | cons r rs ih=>exact⟨by simp,ih⟩
theorem zD9 (c:List Nat):ZP c [] h=True:=rfl
theorem zEA (c:List Nat) (i:Nat) (a:Bool) (n:Nat) (x v:PV) (rs:List RecP):ZP c (⟨i,a,n,x,v⟩::rs) h=((if c.contains i=true then pldv a n x h=some v else True)∧ZP c rs h):=rfl
theorem zDY (d:Option Nat) (a:Bool) (n:Nat) (x:IX) (g:Option (Nat×Bool)) (i:Nat) (c:List Nat) (v:PV):zV ⟨⟨d,.load a n x,true,g⟩,i,c⟩ e v=if Zj g e=true then [⟨i,a,n,x.pv e,v⟩]else []:=rfl
theorem zFR (d:Option Nat) (x:IX) (g:Option (Nat×Bool)) (i:Nat) (c:List Nat) (v:PV):zV ⟨⟨d,(.mv x),true,g⟩,i,c⟩ e v=[]:=rfl
theorem zDX (d:Option Nat) (x y z:IX) (g:Option (Nat×Bool)) (i:Nat) (c:List Nat) (v:PV):zV ⟨⟨d,(.pick x y z),true,g⟩,i,c⟩ e v=[]:=rfl
theorem zEb (d:Option Nat) (op:BinOp) (ek:EqK) (x y:IX) (g:Option (Nat×Bool)) (i:Nat) (c:List Nat) (v:PV):zV ⟨⟨d,(.bin op ek x y),true,g⟩,i,c⟩ e v=[]:=rfl
theorem zFP (d:Option Nat) (op:UnOp) (x:IX) (g:Option (Nat×Bool)) (i:Nat) (c:List Nat) (v:PV):zV ⟨⟨d,(.un op x),true,g⟩,i,c⟩ e v=[]:=rfl
theorem zDZ (d:Option Nat) (k:IntKind) (x:IX) (g:Option (Nat×Bool)) (i:Nat) (c:List Nat) (v:PV):zV ⟨⟨d,(.conv k x),true,g⟩,i,c⟩ e v=[]:=rfl
theorem zBA (d:Option Nat) (x:IX) (g:Option (Nat×Bool)) (i:Nat) (c:List Nat) (v:PV):zV ⟨⟨d,(.nilCheck x),true,g⟩,i,c⟩ e v=[]:=rfl
theorem zCf (d:Option Nat) (z:List AV) (ps:List (Nat×Nat×IX)) (g:Option (Nat×Bool)) (i:Nat) (c:List Nat) (v:PV):zV ⟨⟨d,(.build z ps),true,g⟩,i,c⟩ e v=[]:=rfl
theorem zCe (d:Option Nat) (a:Bool) (n off:Nat) (x:IX) (g:Option (Nat×Bool)) (i:Nat) (c:List Nat) (v:PV):zV ⟨⟨d,(.field a n off x),true,g⟩,i,c⟩ e v=[]:=rfl
theorem zAm (d:Option Nat) (off:Nat) (x:IX) (g:Option (Nat×Bool)) (i:Nat) (c:List Nat) (v:PV):zV ⟨⟨d,(.fieldAddr off x),true,g⟩,i,c⟩ e v=[]:=rfl
theorem zAl (d:Option Nat) (sz:Nat) (x y:IX) (g:Option (Nat×Bool)) (i:Nat) (c:List Nat) (v:PV):zV ⟨⟨d,(.indexAddr sz x y),true,g⟩,i,c⟩ e v=[]:=rfl
theorem zBC (d:Option Nat) (x y:IX) (g:Option (Nat×Bool)) (i:Nat) (c:List Nat) (v:PV):zV ⟨⟨d,(.indexStr x y),true,g⟩,i,c⟩ e v=[]:=rfl
theorem zBm (d:Option Nat) (x:IX) (j:Nat) (g:Option (Nat×Bool)) (i:Nat) (c:List Nat) (v:PV):zV ⟨⟨d,(.extract x j),true,g⟩,i,c⟩ e v=[]:=rfl
theorem zEZ (d:Option Nat) (x:IX) (g:Option (Nat×Bool)) (i:Nat) (c:List Nat) (v:PV):zV ⟨⟨d,(.len x),true,g⟩,i,c⟩ e v=[]:=rfl
theorem zCJ (d:Option Nat) (x:IX) (g:Option (Nat×Bool)) (i:Nat) (c:List Nat) (v:PV):zV ⟨⟨d,(.lenStr x),true,g⟩,i,c⟩ e v=[]:=rfl
theorem zEa (d:Option Nat) (x:IX) (g:Option (Nat×Bool)) (i:Nat) (c:List Nat) (v:PV):zV ⟨⟨d,(.cap x),true,g⟩,i,c⟩ e v=[]:=rfl
theorem zCd (d:Option Nat) (sz:Nat) (x:IX) (lo hi mx:Option IX) (g:Option (Nat×Bool)) (i:Nat) (c:List Nat) (v:PV):zV ⟨⟨d,(.slice sz x lo hi mx),true,g⟩,i,c⟩ e v=[]:=rfl
theorem zA9 (d:Option Nat) (x:IX) (lo hi:Option IX) (g:Option (Nat×Bool)) (i:Nat) (c:List Nat) (v:PV):zV ⟨⟨d,(.sliceStr x lo hi),true,g⟩,i,c⟩ e v=[]:=rfl
theorem zCI (d:Option Nat) (mx:Bool) (x y:IX) (g:Option (Nat×Bool)) (i:Nat) (c:List Nat) (v:PV):zV ⟨⟨d,(.maxmin mx x y),true,g⟩,i,c⟩ e v=[]:=rfl
theorem zBB (d:Option Nat) (f:FuncId) (y z:List IX) (g:Option (Nat×Bool)) (i:Nat) (c:List Nat) (v:PV):zV ⟨⟨d,(.makeFunc f y z),true,g⟩,i,c⟩ e v=[]:=rfl
theorem zEY (d:Option Nat) (j:Nat) (g:Option (Nat×Bool)) (i:Nat) (c:List Nat) (v:PV):zV ⟨⟨d,(.rev j),true,g⟩,i,c⟩ e v=[]:=rfl
theorem zAU (d:Option Nat) (j m:Nat) (g:Option (Nat×Bool)) (i:Nat) (c:List Nat) (v:PV):zV ⟨⟨d,(.revS j m),true,g⟩,i,c⟩ e v=[]:=rfl
theorem zCX:Zj none e=true:=rfl
theorem zCW (t:Nat) (b:Bool):Zj (some (t,b)) e=(match e t with | .bool c=>decide (c=b) | _=>false):=rfl
theorem zEW:qF [] e h=some []:=rfl
theorem zEV (t:Nat) (r:List IRes):qF (.tmp t::r) e h=(qF r e h).map fun vs=>e t::vs:=rfl
theorem zDU (t:Nat) (a:Bool) (n:Nat) (r:List IRes):qF (.cell t a n::r) e h=(pldv a n (e t) h).bind fun v=>(qF r e h).map fun vs=>v::vs:=rfl
theorem zDV (res:List IRes):retP res KA .normal e h=optK (qF res e h) fun vs=>KA (packP vs) h:=rfl
theorem zGZ (res:List IRes):retP res KA .ret e h=optK (qF res e h) fun vs=>KA (packP vs) h:=rfl
theorem zFv (v:PV):packP [v]=v:=rfl
theorem zFw:packP []=.tup []:=rfl
theorem zFu (u v:PV) (r:List PV):packP (u::v::r)=.tup (u::v::r):=rfl
theorem zFm (cs:List PV):pfill cs []=some cs:=rfl
theorem zEh (cs:List PV) (off size:Nat) (v:PV) (r:List (Nat×Nat×PV)):pfill cs ((off,size,v)::r)=if v.cells.length=size∧off+size≤cs.length∧v.cells.all PV.one=true then pfill (cs.take off++v.cells++cs.drop (off+size)) r else none:=rfl
theorem zEl (k:IntKind) (n:Int):PV.cells (.int k n)=[(.int k n)]:=rfl
theorem zGq (k:IntKind) (n:Int):PV.one (.int k n)=true:=rfl
theorem zDm (b:Bool):PV.cells (.bool b)=[(.bool b)]:=rfl
theorem zFd (b:Bool):PV.one (.bool b)=true:=rfl
theorem zEj (s:List UInt8):PV.cells (.str s)=[(.str s)]:=rfl
theorem zGo (s:List UInt8):PV.one (.str s)=true:=rfl
theorem zDk:PV.cells .nilp=[.nilp]:=rfl
theorem zFb:PV.one .nilp=true:=rfl
theorem zDl:PV.cells .nilf=[.nilf]:=rfl
theorem zFc:PV.one .nilf=true:=rfl
theorem zFo (w:Bool) (a:AV) (n:Nat) (cs:List PV):PV.cells (.fz w a n cs)=[(.fz w a n cs)]:=rfl
theorem zHs (w:Bool) (a:AV) (n:Nat) (cs:List PV):PV.one (.fz w a n cs)=true:=rfl
theorem zFp (a:AV) (cs:List PV):PV.cells (.fp a cs)=[(.fp a cs)]:=rfl
theorem zHt (a:AV) (cs:List PV):PV.one (.fp a cs)=true:=rfl
theorem zEk (s i:Nat):PV.cells (.ptr s i)=[(.ptr s i)]:=rfl
theorem zGp (s i:Nat):PV.one (.ptr s i)=true:=rfl
theorem zFn (s o n:Nat) (c:Cap):PV.cells (.sl s o n c)=[(.sl s o n c)]:=rfl
theorem zHr (s o n:Nat) (c:Cap):PV.one (.sl s o n c)=true:=rfl
theorem zEm (f:FuncId) (a b:List PV):PV.cells (.clo f a b)=[(.clo f a b)]:=rfl
theorem zGr (f:FuncId) (a b:List PV):PV.one (.clo f a b)=true:=rfl
theorem zEn (cs:List PV):PV.cells (.agg cs)=cs:=rfl
theorem zEo (k:IntKind) (i:Int) (y:Nat):qK (.int k i) y=if 0≤i∧i≤y then some i.toNat else none:=rfl
theorem zCm (x:PV) (d y:Nat):zP (some x) d y=qK x y:=rfl
theorem zCn (d y:Nat):zP none d y=some d:=rfl
theorem zFX (sz:Nat) (w:Bool) (a:AV) (len:Nat) (cs:List PV) (lo hi:Option PV):qY sz (.fz w a len cs) lo hi none=(zP hi len len).bind fun h=>(zP lo 0 h).bind fun l=>some (.fz false (pslA sz a l h) (h-l) ((cs.drop (l*sz)).take ((h-l)*sz))):=rfl
theorem zFW (sz s off len g:Nat) (lo:Option PV) (hi mx:PV) (h0:off=0):qY sz (.sl s off len (.grown g)) lo (some hi) (some mx)=(qK mx len).bind fun m=>(qK hi m).bind fun h=>(zP lo 0 h).bind fun l=>some (.sl s (if m=l then off else off+l*sz) (h-l) (.known (m-l))):=by
 subst h0;simp [qY,zP]
theorem Qm (sz s off len c:Nat) (lo hi mx:Option PV):qY sz (.sl s off len (.known c)) lo hi mx=(zP mx c c).bind fun m=>(zP hi len m).bind fun h=>(zP lo 0 h).bind fun l=>if hi.isNone=true∧mx.isSome=true then none else some (.sl s (if m=l then off else off+l*sz) (h-l) (.known (m-l))):=rfl
theorem zCl (sz s off len g:Nat) (lo hi:Option PV):qY sz (.sl s off len (.grown g)) lo hi none=(zP hi len len).bind fun h=>(zP lo 0 h).bind fun l=>some (.sl s (off+l*sz) (h-l) (.grown (if g=sz then g else 0))):=rfl
theorem zCK (s:List UInt8) (lo hi:Option PV):Zz (.str s) lo hi=(zP hi s.length s.length).bind fun h=>(zP lo 0 h).bind fun l=>some (.str ((s.take h).drop l)):=rfl
theorem zHx (w:Bool) (a:AV) (n:Nat) (cs:List PV):plen (.fz w a n cs)=some n:=rfl
theorem zHw (s o n:Nat) (c:Cap):plen (.sl s o n c)=some n:=rfl
theorem QY (sz bytes:Nat) (s x:PV):zq sz bytes h s x=(plen x).bind fun m=>if m=0 then(psame s).map fun v=>(v,h)else(qw sz h x m).bind fun news=>pgrow sz bytes h s news m:=rfl
theorem zDf (s o n c:Nat):psame (.sl s o n (.known c))=if n≤c then some (.sl s o n (.known c))else none:=rfl
theorem zFl (sz:Nat) (w:Bool) (a:AV) (len:Nat) (cs:List PV) (n:Nat):qw sz h (.fz w a len cs) n=if n=0 then some []else if n≤len∧n*sz≤cs.length∧0<sz then some (cs.take (n*sz))else none:=rfl
theorem Z4 (sz s off len:Nat) (c:Cap) (n:Nat):qw sz h (.sl s off len c) n=if n=0 then some []else if n≤len then h.rd s off (n*sz)else none:=rfl
theorem zBH (sz bytes:Nat) (w:Bool) (n:Nat) (cs news:List PV) (m:Nat):pgrow sz bytes h (.fz w .nils n cs) news m=if m*bytes≤140737488355328∧m≤4611686018427387904 then some (.sl h.next 0 m (.grown sz),h.new news)else none:=rfl
theorem zAV (sz bytes s off len c:Nat) (news:List PV) (m:Nat):pgrow sz bytes h (.sl s off len (.known c)) news m=if len+m≤c then(h.wr s (off+len*sz) news).map fun σ'=>(.sl s off (len+m) (.known c),σ')else if (len+m)*bytes≤140737488355328∧len+m≤4611686018427387904 then(h.rd s off (len*sz)).map fun old=>(.sl h.next 0 (len+m) (.grown sz),h.new (old++news))else none:=rfl
theorem zAW (sz bytes s off len g:Nat) (news:List PV) (m:Nat):pgrow sz bytes h (.sl s off len (.grown g)) news m=if (len+m)*bytes≤140737488355328∧len+m≤4611686018427387904∧g=sz then(h.obj s).bind fun cs=>if off+len*sz≤cs.length then some (.sl h.next 0 (len+m) (.grown sz),(h.kill s).new ((cs.drop off).take (len*sz)++news))else none else none:=rfl
theorem zGn (cs:List PV) (s i:Nat):(h.new cs).rd1 s i=if s=h.next then cs[i]? else h.rd1 s i:=by by_cases x:s=h.next<;>simp [PHeap.rd1,PHeap.new,x]
theorem zAF (cs:List PV) (s i n:Nat):(h.new cs).rd s i n=if s=h.next then(if i+n≤cs.length then some ((cs.drop i).take n)else none)else h.rd s i n:=by by_cases x:s=h.next<;>simp [PHeap.rd,PHeap.new,x]
theorem zK (cs:List PV) (s:Nat):(h.new cs).obj s=if s=h.next then some cs else h.obj s:=rfl
theorem zHm (cs:List PV) (s i:Nat) (vs:List PV):(h.new cs).wr s i vs=if s=h.next then(if i+vs.length≤cs.length∧vs.all PV.one=true then some (h.new (cs.take i++vs++cs.drop (i+vs.length)))else none)else(h.wr s i vs).map fun h'=>h'.new cs:=by
 by_cases x:s=h.next
 ·subst x
  simp only [PHeap.wr,PHeap.new,if_true,Option.bind_some]
  split
  ·congr 1
   simp only [PHeap.set]
   congr 1
   funext y
   by_cases hy:y=h.next<;>simp [hy]
  ·rfl
 ·simp only [PHeap.wr,PHeap.new,if_neg x]
  cases ho:h.obj s with
  | none=>rfl
  | some ob=>
   simp only [Option.bind_some]
   split
   ·simp only [Option.map_some,PHeap.set]
    congr 2
    funext y
    by_cases hy:y=s
    ·subst hy;simp [x]
    ·simp [hy]
   ·rfl
theorem zFg (cs:List PV):(h.new cs).next=h.next+1:=rfl
theorem zGi (cs:List PV):(h.new cs).top=h.top:=rfl
theorem zGk (cs:List PV) (s:Nat) (ds:List PV):(h.new cs).set s ds=if s=h.next then h.new ds else(h.set s ds).new cs:=by
 by_cases x:s=h.next
 ·subst x
  rw [if_pos rfl];simp only [PHeap.set,PHeap.new]
  congr 1
  funext y
  by_cases hy:y=h.next<;>simp [hy]
 ·rw [if_neg x]
  simp only [PHeap.set,PHeap.new]
  congr 1
  funext y
  by_cases hy:y=s
  ·subst hy;simp [x]
  ·simp [hy]
theorem zGj (s:Nat) (cs ds:List PV):(h.set s cs).set s ds=h.set s ds:=by
 simp only [PHeap.set]
 congr 1
 funext y
 by_cases hy:y=s<;>simp [hy]
theorem zFf (s:Nat) (cs:List PV):(h.set s cs).next=h.next:=rfl
theorem zEf (s:Nat):(h.kill s).next=h.next:=rfl
theorem zGs (t:Nat):(h.up t).next=h.next:=rfl
theorem zHp (t:Nat):(h.up t).top=t:=rfl
theorem zHv (t:Nat) (cs:List PV):(h.up t).new cs=(h.new cs).up t:=rfl
theorem zHq (t s i:Nat):(h.up t).rd1 s i=h.rd1 s i:=rfl
theorem zIU (t s i n:Nat):(h.up t).rd s i n=h.rd s i n:=rfl
theorem zHu (t s:Nat):(h.up t).obj s=h.obj s:=rfl
theorem zIT (t s i:Nat) (vs:List PV):(h.up t).wr s i vs=(h.wr s i vs).map fun h'=>h'.up t:=by
 simp only [PHeap.wr,PHeap.up];cases h.obj s with
 | none=>rfl
 | some cs=>simp only [Option.bind_some];split<;>rfl
theorem zFe (s t:Nat):(h.kill s).obj t=if t=s then none else h.obj t:=rfl
theorem zI (s:Nat) (cs:List PV) (t:Nat):(h.set s cs).obj t=if t=s then some cs else h.obj t:=rfl
theorem zFY (s t i:Nat):(h.kill s).rd1 t i=if t=s then none else h.rd1 t i:=by by_cases x:t=s<;>simp [PHeap.rd1,PHeap.kill,x]
theorem zGl (s t i n:Nat):(h.kill s).rd t i n=if t=s then none else h.rd t i n:=by by_cases x:t=s<;>simp [PHeap.rd,PHeap.kill,x]
theorem zGm (s:Nat) (cs:List PV) (t i:Nat):(h.set s cs).rd1 t i=if t=s then cs[i]? else h.rd1 t i:=by by_cases x:t=s<;>simp [PHeap.rd1,PHeap.set,x]
theorem zBo (s:Nat) (cs:List PV) (t i n:Nat):(h.set s cs).rd t i n=if t=s then(if i+n≤cs.length then some ((cs.drop i).take n)else none)else h.rd t i n:=by by_cases x:t=s<;>simp [PHeap.rd,PHeap.set,x]
theorem zHl (s:Nat) (cs:List PV) (i:Nat) (vs:List PV):(h.set s cs).wr s i vs=if i+vs.length≤cs.length∧vs.all PV.one=true then some (h.set s (cs.take i++vs++cs.drop (i+vs.length)))else none:=by
 simp only [PHeap.wr,PHeap.set,if_true,Option.bind_some]
 split
 ·congr 2
  funext y
  by_cases hy:y=s<;>simp [hy]
 ·rfl
end
def pw0:=And.intro @zHX <| And.intro @zFJ <| And.intro @zHZ <| And.intro @zIH <| And.intro @zHa <| And.intro @zGW <| And.intro @zHY <| And.intro @zII <| And.intro @zID <| And.intro @RVp_q <| And.intro @RVp_e <| And.intro @zIE <| And.intro @DVp_q <| And.intro @DVp_e <| And.intro @zHG <| And.intro @zHF <| And.intro @zHI <| And.intro @zHH <| And.intro @zDi <| And.intro @zCt <| And.intro @zEi <| And.intro @zDj <| And.intro @zCs <| And.intro @zCq <| And.intro @zCp <| And.intro @zCr <| And.intro @pv_t <| And.intro @pv_c <| And.intro @zGt <| @zFZ
def pw1:=And.intro @zFa <| And.intro @qp_mv <| And.intro @zHi <| And.intro @zIS <| And.intro @qp_un <| And.intro @zHk <| And.intro @zDb <| And.intro @zGh <| And.intro @zGg <| And.intro @zCj <| And.intro @zCi <| And.intro @zDd <| And.intro @zEc <| And.intro @zIQ <| And.intro @zFU <| And.intro @zIR <| And.intro @zGf <| And.intro @zDa <| And.intro @zFT <| And.intro @zDc <| And.intro @zHj <| And.intro @zIP <| And.intro @zHh <| And.intro @zHQ <| And.intro @zIf <| And.intro @zE7 <| And.intro @zHO <| And.intro @zEu <| And.intro @zGI <| And.intro @zD6 <| @zDx
def pw2:=And.intro @zFx <| And.intro @zGJ <| And.intro @zH9 <| And.intro @zIA <| And.intro @zHP <| And.intro @zEy <| And.intro @zHB <| And.intro @of_bool <| And.intro @of_int <| And.intro @zIW <| And.intro @zH5 <| And.intro @zH6 <| And.intro @zH4 <| And.intro @zIX <| And.intro @zIY <| And.intro @zH3 <| And.intro @zHA <| And.intro @zH2 <| And.intro @zG6 <| And.intro @zGw <| And.intro @zG0 <| And.intro @zG5 <| And.intro @zGz <| And.intro @zG1 <| And.intro @zG2 <| And.intro @zG3 <| And.intro @zG4 <| And.intro @zGy <| And.intro @zGx <| @zEs
def pw3:=And.intro @zFt <| And.intro @zEt <| And.intro @zFs <| And.intro @zFr <| And.intro @zEr <| And.intro @zDr <| And.intro @zEq <| And.intro @zDq <| And.intro @zDp <| And.intro @zDo <| And.intro @zDn <| And.intro @zD4 <| And.intro @zGF <| And.intro @zHo <| And.intro @zHn <| And.intro @zEv <| And.intro @zDt <| And.intro @zF0 <| And.intro @zG7 <| And.intro @zG8 <| And.intro @zHy <| And.intro @zEx <| And.intro @zEw <| And.intro @zBq <| And.intro @zCN <| And.intro @zFy <| And.intro @zFz <| And.intro @zDw <| And.intro @zCw <| @zH0
def pw4:=And.intro @zHz <| And.intro @zDv <| And.intro @zF1 <| And.intro @zH1 <| And.intro @zDu <| And.intro @zFj <| And.intro @zFi <| And.intro @zGv <| And.intro @zGu <| And.intro @zFh <| And.intro @zEg <| And.intro @zFH <| And.intro @zD9 <| And.intro @zEA <| And.intro @zDY <| And.intro @zFR <| And.intro @zDX <| And.intro @zEb <| And.intro @zFP <| And.intro @zDZ <| And.intro @zBA <| And.intro @zCf <| And.intro @zCe <| And.intro @zAm <| And.intro @zAl <| And.intro @zBC <| And.intro @zBm <| And.intro @zEZ <| And.intro @zCJ <| @zEa
def pw5:=And.intro @zCd <| And.intro @zA9 <| And.intro @zCI <| And.intro @zBB <| And.intro @zEY <| And.intro @zAU <| And.intro @zCX <| And.intro @zCW <| And.intro @zEW <| And.intro @zEV <| And.intro @zDU <| And.intro @zDV <| And.intro @zGZ <| And.intro @zFv <| And.intro @zFw <| And.intro @zFu <| And.intro @zFm <| And.intro @zEh <| And.intro @zEl <| And.intro @zGq <| And.intro @zDm <| And.intro @zFd <| And.intro @zEj <| And.intro @zGo <| And.intro @zDk <| And.intro @zFb <| And.intro @zDl <| And.intro @zFc <| And.intro @zFo <| And.intro @zHs <| @zFp
def pw6:=And.intro @zHt <| And.intro @zEk <| And.intro @zGp <| And.intro @zFn <| And.intro @zHr <| And.intro @zEm <| And.intro @zGr <| And.intro @zEn <| And.intro @zEo <| And.intro @zCm <| And.intro @zCn <| And.intro @zFX <| And.intro @Qm <| And.intro @zCl <| And.intro @zCK <| And.intro @zHx <| And.intro @zHw <| And.intro @zGn <| And.intro @zAF <| And.intro @zK <| And.intro @zHm <| And.intro @zFg <| And.intro @zGi <| And.intro @zGk <| And.intro @zGj <| And.intro @zFf <| And.intro @zEf <| And.intro @zGs <| And.intro @zHp <| @zHv
def pw7:=And.intro @zHq <| And.intro @zIU <| And.intro @zHu <| And.intro @zIT <| And.intro @zFe <| And.intro @zI <| And.intro @zFY <| And.intro @zGl <| And.intro @zGm <| And.intro @zBo <| And.intro @zHl <| And.intro @Z5 <| And.intro @ZW <| And.intro @zF2 <| And.intro @zG9 <| And.intro @List.map_cons.{0,0} <| And.intro @List.map_nil.{0,0} <| And.intro @List.length_cons.{0} <| And.intro @List.length_nil.{0} <| And.intro @List.getElem?_cons_zero.{0} <| And.intro @List.getElem?_cons_succ.{0} <| And.intro @List.take_succ_cons.{0} <| And.intro @List.take_zero.{0} <| And.intro @List.drop_succ_cons.{0} <| And.intro @List.drop_zero.{0} <| And.intro @List.take_nil.{0} <| And.intro @List.drop_nil.{0} <| And.intro @List.nil_append.{0} <| And.intro @List.cons_append.{0} <| @List.append_nil.{0}
def pw8:=And.intro @List.all_cons.{0} <| And.intro @List.all_nil.{0} <| And.intro @List.contains_cons.{0} <| And.intro @List.contains_nil.{0} <| And.intro @Option.map_some.{0,0} <| And.intro @Option.map_none.{0,0} <| And.intro @Option.bind_some.{0,0} <| And.intro @Option.bind_none.{0,0} <| And.intro @decide_true <| And.intro @decide_false <| And.intro @Bool.not_true <| And.intro @Bool.not_false <| And.intro @Bool.and_true <| And.intro @Bool.true_and <| And.intro @Bool.and_self <| And.intro @Bool.or_false <| And.intro @Bool.or_true <| And.intro @Bool.true_or <| And.intro @Bool.false_or <| And.intro @true_and <| And.intro @and_true <| And.intro @Bool.true_eq_false <| And.intro @Bool.false_eq_true <| And.intro @Nat.left_eq_add <| And.intro @Nat.add_eq_left <| And.intro @Nat.succ_ne_self <| And.intro @Nat.one_ne_zero <| And.intro @Nat.add_left_cancel_iff <| And.intro @Nat.add_assoc <| @Nat.mul_one
def pw9:=And.intro @Nat.zero_add <| And.intro @Nat.add_zero <| And.intro @Nat.le_refl <| And.intro @Nat.lt_add_one <| And.intro @Int.toNat_natCast <| And.intro @Int.natCast_nonneg <| And.intro @Int.ofNat_lt <| And.intro @Int.le_refl <| And.intro @zEO <| And.intro @zEP <| And.intro @zCU <| And.intro @Nat.one_mul <| @Nat.zero_mul
def pwA:=And.intro pw0 <| And.intro pw1 <| And.intro pw2 <| And.intro pw3 <| And.intro pw4 <| And.intro pw5 <| And.intro pw6 <| And.intro pw7 <| And.intro pw8 <| And.intro pw9 <| And.intro @nm_eq <| And.intro @eq_self.{1} <| And.intro @Int.ofNat_le @List.getElem?_drop.{0}
end Go.Ab
