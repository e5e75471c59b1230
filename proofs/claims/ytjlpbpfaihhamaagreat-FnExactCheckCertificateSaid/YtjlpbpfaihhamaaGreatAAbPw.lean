/- . -/
import Derived.Test.YtjlpbpfaihhamaaGreatAAbPg
set_option linter.unusedVariables false
set_option linter.unusedSimpArgs false
set_option linter.defProp false
namespace Go.Ab
section
variable{P:Program}{Q:Exit->PEnv->PHeap->Prop}{e:PEnv}{h:PHeap}{K:PEnv->PHeap->Prop}{KA:PV->PHeap->Prop}{nb nr:Nat}
theorem zL6:vp P .skip Q e h=Q .normal e h:=rfl
theorem zJQ(S:List Nat)(aN:List II):vp P (.region S aN) Q e h=RVp P aN e h fun e' h'=>Q .normal (PEnv.mk S (S.map e')) h':=rfl
theorem zL8(S:List Nat)(zs:List (List AV))(aN:List DI):vp P (.draw S zs aN) Q e h=DVp P h.next zs.length aN [] e (h.news zs) fun e' h'=>Q .normal (PEnv.mk S (S.map e')) h':=rfl
theorem zM6(a b:IC):vp P (.seq a b) Q e h=vp P a (fun x e' h'=>match x with | .normal=>vp P b Q e' h'|x=>Q x e' h') e h:=rfl
theorem zL9(c:IX)(a b:IC):vp P (.cond c a b) Q e h=ZN (c.pv e) (vp P a Q e h) (vp P b Q e h):=rfl
theorem zKu(id:Nat)(c:IC):vp P (.block id c) Q e h=vp P c (fun x e' h'=>match x with | .exit ki=>if ki=id then Q .normal e' h' else Q (.exit ki) e' h'|x=>Q x e' h') e h:=rfl
theorem zL7(id:Nat):vp P (.exit id) Q e h=Q (.exit id) e h:=rfl
theorem zM7:vp P .ret Q e h=Q .ret e h:=rfl
theorem zMx:RVp P [] e h K=K e h:=rfl
theorem RVp_q(d:Option Nat)(op:IOp)(g:Option (Nat×Bool))(r:List II):RVp P (⟨d,op,true,g⟩::r) e h K=optK (gqp 0 0 ⟨d,op,true,g⟩ e h) fun v=>RVp P r (e.put d v) h K:=rfl
theorem RVp_e(d:Option Nat)(op:IOp)(g:Option (Nat×Bool))(r:List II):RVp P (⟨d,op,false,g⟩::r) e h K=gep P ⟨d,op,false,g⟩ e h fun v h'=>RVp P r (e.put d v) h' K:=rfl
theorem zM2(recs:List RecP):DVp P nb nr [] recs e h K=K e h:=rfl
theorem DVp_q(d:Option Nat)(op:IOp)(g:Option (Nat×Bool))(i:Nat)(c:List Nat)(r:List DI)(recs:List RecP):DVp P nb nr (⟨⟨d,op,true,g⟩,i,c⟩::r) recs e h K=optK (gqp nb nr ⟨d,op,true,g⟩ e h) fun v=>DVp P nb nr r (zL ⟨⟨d,op,true,g⟩,i,c⟩ e v++recs) (e.put d v) h K:=rfl
theorem DVp_e(d:Option Nat)(op:IOp)(g:Option (Nat×Bool))(i:Nat)(c:List Nat)(r:List DI)(recs:List RecP):DVp P nb nr (⟨⟨d,op,false,g⟩,i,c⟩::r) recs e h K=gep P ⟨d,op,false,g⟩ e h fun v h'=>zN c recs h'∧DVp P nb nr r recs (e.put d v) h' K:=rfl
theorem zLn(d:Option Nat)(op:IOp)(q:Bool):gqp nb nr ⟨d,op,q,none⟩ e h=qp nb nr op e h:=rfl
theorem zLm(d:Option Nat)(op:IOp)(q:Bool)(t:Nat)(b:Bool):gqp nb nr ⟨d,op,q,some (t,b)⟩ e h=QB (e t) b (qp nb nr op e h):=rfl
theorem zLp(d:Option Nat)(op:IOp)(q:Bool):gep P ⟨d,op,q,none⟩ e h KA=ep P op e h KA:=rfl
theorem zLo(d:Option Nat)(op:IOp)(q:Bool)(t:Nat)(b:Bool):gep P ⟨d,op,q,some (t,b)⟩ e h KA=ZR (e t) b (ep P op e h KA) (KA (.tup []) h):=rfl
theorem zHE(a b:Prop):ZN (.bool true) a b=a:=rfl
theorem zF9(a b:Prop):ZN (.bool false) a b=b:=rfl
theorem zId(c:Prop)[Decidable c](a b:Prop):ZN (.bool (decide c)) a b=if c then a else b:=by by_cases x:c<;>simp[ZN,x]
theorem zHF(c:Prop)[Decidable c](a b:Prop):ZN (.bool (!decide c)) a b=if c then b else a:=by by_cases x:c<;>simp[ZN,x]
theorem zF7(c b:Bool)(x y:Prop):ZR (.bool c) b x y=if c=b then x else y:=rfl
theorem zF5(c b:Bool)(x:Option PV):QB (.bool c) b x=if c=b then x else some (.tup []):=rfl
theorem zF4(b:Bool)(x:Option PV):QB (.tup []) b x=some (.tup []):=rfl
theorem zF6(b:Bool)(x y:Prop):ZR (.tup []) b x y=y:=rfl
theorem pv_t(n:Nat):(IX.t n).pv e=e n:=rfl
theorem pv_c(v:AV):(IX.c v).pv e=ofAV v:=rfl
theorem zLI(s:Nat)(S:List Nat)(v:PV)(vs:List PV)(t:Nat):PEnv.mk (s::S) (v::vs) t=if t=s then v else PEnv.mk S vs t:=rfl
theorem zJh(d:Nat)(v:PV)(t:Nat):e.put (some d) v t=if t=d then v else e t:=rfl
theorem zJi(v:PV):e.put none v=e:=rfl
theorem qp_mv(x:IX):qp nb nr (.mv x) e h=some (x.pv e):=rfl
theorem zMG(c a b:IX):qp nb nr (.pick c a b) e h=pPick (c.pv e) (a.pv e) (b.pv e):=rfl
theorem zND(op:BinOp)(ek:EqK)(x y:IX):qp nb nr (.bin op ek x y) e h=pbin op ek (x.pv e) (y.pv e):=rfl
theorem qp_un(op:UnOp)(x:IX):qp nb nr (.un op x) e h=pun op (x.pv e):=rfl
theorem zMI(k:IntKind)(x:IX):qp nb nr (.conv k x) e h=pConv k (x.pv e):=rfl
theorem zG8(x:IX):qp nb nr (.nilCheck x) e h=pNil (x.pv e):=rfl
theorem zK6(z:List AV)(ps:List (Nat×Nat×IX)):qp nb nr (.build z ps) e h=(pfill (ofAVs z) (ps.map fun p=>(p.1,p.2.1,p.2.2.pv e))).map .agg:=rfl
theorem zK5(a:Bool)(n off:Nat)(x:IX):qp nb nr (.field a n off x) e h=zCF a n off (x.pv e):=rfl
theorem zFz(off:Nat)(x:IX):qp nb nr (.fieldAddr off x) e h=QG off (x.pv e):=rfl
theorem zFy(sz:Nat)(x i:IX):qp nb nr (.indexAddr sz x i) e h=zBA sz (x.pv e) (i.pv e):=rfl
theorem zHA(x i:IX):qp nb nr (.indexStr x i) e h=zCh (x.pv e) (i.pv e):=rfl
theorem zIX(x:IX)(i:Nat):qp nb nr (.extract x i) e h=zBZ (x.pv e) i:=rfl
theorem zNB(x:IX):qp nb nr (.len x) e h=pLen (x.pv e):=rfl
theorem zJd(x:IX):qp nb nr (.lenStr x) e h=zCg (x.pv e):=rfl
theorem zNC(x:IX):qp nb nr (.cap x) e h=pCap (x.pv e):=rfl
theorem zK4(sz:Nat)(x:IX)(lo hi mx:Option IX):qp nb nr (.slice sz x lo hi mx) e h=Zq sz (x.pv e) (lo.map (·.pv e)) (hi.map (·.pv e)) (mx.map (·.pv e)):=rfl
theorem zG7(x:IX)(lo hi:Option IX):qp nb nr (.sliceStr x lo hi) e h=zAj (x.pv e) (lo.map (·.pv e)) (hi.map (·.pv e)):=rfl
theorem zJc(mx:Bool)(x y:IX):qp nb nr (.maxmin mx x y) e h=zA9 mx (x.pv e) (y.pv e):=rfl
theorem zG9(f:FuncId)(a b:List IX):qp nb nr (.makeFunc f a b) e h=some (.clo f (a.map (·.pv e)) (b.map (·.pv e))):=rfl
theorem zMH(a:Bool)(n:Nat)(x:IX):qp nb nr (.load a n x) e h=pldv a n (x.pv e) h:=rfl
theorem zNA(k:Nat):qp nb nr (.rev k) e h=if k<nr then some (.ptr (nb+k) 0)else none:=rfl
theorem zMF(k n:Nat):qp nb nr (.revS k n) e h=if k<nr then some (.sl (nb+k) 0 n (.known n))else none:=rfl
theorem zLu(z:List AV):ep P (.alloc z) e h KA=KA (.ptr h.next 0) (h.new (ofAVs z)):=rfl
theorem zNb(x:IX):ep P (.box x) e h KA=((x.pv e).cells.all PV.one=true∧KA (.ptr h.next 0) (h.new (x.pv e).cells)):=rfl
theorem zJA(sz len:Nat)(z:List AV)(ps:List (Nat×Nat×IX)):ep P (.buildSl sz len z ps) e h KA=optK (pfill (ofAVs (zeros z len)) (ps.map fun p=>(p.1,p.2.1,p.2.2.pv e))) fun cs=>KA (.sl h.next 0 len (.known len)) (h.new cs):=rfl
def zD8(n:Nat)(x v:PV)(h:PHeap)(KA:PV->PHeap->Prop):Prop:=
 match x with
 | .ptr s i=>v.cells.length=n∧optK (h.wr s i v.cells) fun h'=>KA .undef h'
 |_=>False
def pMake(sz bytes:Nat)(z:List AV)(l c:PV)(h:PHeap)(KA:PV->PHeap->Prop):Prop:=
 match l,c with
 | .int _ l,.int _ c=>(0<=l∧l<=c∧c*bytes<=140737488355328∧c<=9223372036854775807)∧KA (.sl h.next 0 l.toNat (.known c.toNat)) (h.new (ofAVs (zeros z c.toNat)))
 |_,_=>False
def zEA(sz bytes:Nat)(z:List AV)(s n:PV)(h:PHeap)(KA:PV->PHeap->Prop):Prop:=
 match s,n with
 | .fz _ .nils _ _,.int _ n=>(0<=n∧n*bytes<=140737488355328∧n<=4611686018427387904)∧if 0<n then KA (.sl h.next 0 n.toNat (.grown sz)) (h.new (ofAVs (zeros z n.toNat)))else KA (.fz true .nils 0 []) h
 | .sl s off len c,.int _ n=>(0<=n∧n*bytes<=140737488355328∧n<=4611686018427387904)∧optK (if 0<n then pgrow sz bytes h (.sl s off len c) (ofAVs (zeros z n.toNat)) n.toNat else(psame (.sl s off len c)).map fun v=>(v,h)) fun p=>KA p.1 p.2
 |_,_=>False
def zD9(P:Program)(f:PV)(args:List PV)(h:PHeap)(KA:PV->PHeap->Prop):Prop:=
 match f with
 | .clo f first cf=>okF P f=true∧zA P f (first++args++cf) h KA
 |_=>False
theorem zLs(n:Nat)(x v:IX):ep P (.store n x v) e h KA=zD8 n (x.pv e) (v.pv e) h KA:=rfl
theorem zIo(n s i:Nat)(v:PV):zD8 n (.ptr s i) v h KA=(v.cells.length=n∧optK (h.wr s i v.cells) fun h'=>KA .undef h'):=rfl
theorem zKV(sz bytes:Nat)(z:List AV)(l c:IX):ep P (.makeSl sz bytes z l c) e h KA=pMake sz bytes z (l.pv e) (c.pv e) h KA:=rfl
theorem zHo(sz bytes:Nat)(z:List AV)(s n:IX):ep P (.appendMk sz bytes z s n) e h KA=zEA sz bytes z (s.pv e) (n.pv e) h KA:=rfl
theorem zHT(sz bytes:Nat)(z:List AV)(w:Bool)(l:Nat)(cs:List PV)(k:IntKind)(n:Int):zEA sz bytes z (.fz w .nils l cs) (.int k n) h KA=((0<=n∧n*bytes<=140737488355328∧n<=4611686018427387904)∧if 0<n then KA (.sl h.next 0 n.toNat (.grown sz)) (h.new (ofAVs (zeros z n.toNat)))else KA (.fz true .nils 0 []) h):=rfl
theorem zJ5(sz bytes:Nat)(z:List AV)(k k':IntKind)(l c:Int):pMake sz bytes z (.int k l) (.int k' c) h KA=((0<=l∧l<=c∧c*bytes<=140737488355328∧c<=9223372036854775807)∧KA (.sl h.next 0 l.toNat (.known c.toNat)) (h.new (ofAVs (zeros z c.toNat)))):=rfl
def pUpd(x k v:PV)(h:PHeap)(KA:PV->PHeap->Prop):Prop:=
 match x,k,v with
 | .mref s,.int kk i,.bool b=>(kk=.i64∧0<=i)∧optK (h.wr s i.toNat [.bool b]) fun h'=>KA .undef h'
 |_,_,_=>False
theorem zKW(sz bytes:Nat)(s x:IX):ep P (.append sz bytes s x) e h KA=optK (qC sz bytes h (s.pv e) (x.pv e)) fun p=>KA p.1 p.2:=rfl
theorem zMt(sz:Nat)(d s:IX):ep P (.copy sz d s) e h KA=optK (pcopy sz h (d.pv e) (s.pv e)) fun p=>KA p.1 p.2:=rfl
theorem zMu(f:FuncId)(args:List IX):ep P (.call f args) e h KA=zA P f (args.map (·.pv e)) h KA:=rfl
theorem zLt(f:IX)(args:List IX):ep P (.callV f args) e h KA=zD9 P (f.pv e) (args.map (·.pv e)) h KA:=rfl
theorem zIs(f:FuncId)(a b args:List PV):zD9 P (.clo f a b) args h KA=(okF P f=true∧zA P f (a++args++b) h KA):=rfl
theorem zLc:ofAV .undef=.undef:=rfl
theorem of_bool(b:Bool):ofAV (.bool b)=.bool b:=rfl
theorem of_int(k:IntKind)(n:Int):ofAV (.int k n)=.int k n:=rfl
theorem zNK(s:List UInt8):ofAV (.str s)=.str s:=rfl
theorem zMf:ofAV .nilp=.nilp:=rfl
theorem zMg:ofAV .nilf=.nilf:=rfl
theorem zMe:ofAV .nils=.fz true .nils 0 []:=rfl
theorem zNL(f:FuncId)(a b:List AV):ofAV (.clo f a b)=.clo f (ofAVs a) (ofAVs b):=rfl
theorem zNM(a:List AV):ofAV (.agg a)=.agg (ofAVs a):=rfl
theorem zMd:ofAVs []=[]:=rfl
theorem zLb(c:AV)(cs:List AV):ofAVs (c::cs)=ofAV c::ofAVs cs:=rfl
theorem zMc(n:Nat)(c:AV):ofAVs (List.replicate n c)=List.replicate n (ofAV c):=by rw[zE2,List.map_replicate]
theorem zLX(k:IntKind)(ek:EqK)(a b:Int):pbin .add ek (.int k a) (.int k b)=some (.int k (k.wrap (a+b))):=by simp[pbin,abin,aint,ofAV]
theorem zLN(k:IntKind)(ek:EqK)(a b:Int):pbin .sub ek (.int k a) (.int k b)=some (.int k (k.wrap (a-b))):=by simp[pbin,abin,aint,ofAV]
theorem zLR(k:IntKind)(ek:EqK)(a b:Int):pbin .mul ek (.int k a) (.int k b)=some (.int k (k.wrap (a*b))):=by simp[pbin,abin,aint,ofAV]
theorem zLW(k:IntKind)(ek:EqK)(a b:Int):pbin .eql ek (.int k a) (.int k b)=some (.bool (decide (a=b))):=by simp[pbin,abin,aint,ofAV]
theorem zLQ(k:IntKind)(ek:EqK)(a b:Int):pbin .neq ek (.int k a) (.int k b)=some (.bool (!decide (a=b))):=by simp[pbin,abin,aint,ofAV]
theorem zLS(k:IntKind)(ek:EqK)(a b:Int):pbin .lss ek (.int k a) (.int k b)=some (.bool (decide (a<b))):=by simp[pbin,abin,aint,ofAV]
theorem zLT(k:IntKind)(ek:EqK)(a b:Int):pbin .leq ek (.int k a) (.int k b)=some (.bool (decide (a<=b))):=by simp[pbin,abin,aint,ofAV]
theorem zLU(k:IntKind)(ek:EqK)(a b:Int):pbin .gtr ek (.int k a) (.int k b)=some (.bool (decide (b<a))):=by simp[pbin,abin,aint,ofAV]
theorem zLV(k:IntKind)(ek:EqK)(a b:Int):pbin .geq ek (.int k a) (.int k b)=some (.bool (decide (b<=a))):=by simp[pbin,abin,aint,ofAV]
theorem zLP(k:IntKind)(ek:EqK)(a b:Int):pbin .quo ek (.int k a) (.int k b)=if b=0 then none else some (.int k (k.wrap (a.tdiv b))):=by simp only[pbin,abin,aint,if_true];split<;>rfl
theorem zLO(k:IntKind)(ek:EqK)(a b:Int):pbin .rem ek (.int k a) (.int k b)=if b=0 then none else some (.int k (a.tmod b)):=by simp only[pbin,abin,aint,if_true];split<;>rfl
theorem zIm(n:Nat)(xs ys:List PV):pbin .eql (.ints n) (.agg xs) (.agg ys)=if xs.length=n∧ys.length=n then(paggB xs ys).bind fun r=>some (.bool r)else none:=rfl
theorem zJ0:paggB [] []=some true:=rfl
theorem zIn(k:IntKind)(a b:Int)(xs ys:List PV):paggB (.int k a::xs) (.int k b::ys)=(paggB xs ys).map fun r=>decide (a=b) && r:=by simp[paggB]
theorem zJy(a b:Bool):pbin .eql .bool (.bool a) (.bool b)=some (.bool (a == b)):=rfl
theorem zJx(a b:Bool):pbin .neq .bool (.bool a) (.bool b)=some (.bool !(a == b)):=rfl
theorem zIl(w w':Bool)(a:AV)(n n':Nat)(cs dK:List PV):pbin .eql .slice (.fz w a n cs) (.fz w' .nils n' dK)=some (.bool (qY a)):=rfl
theorem zHN(w w':Bool)(a:AV)(n n':Nat)(cs dK:List PV):pbin .neq .slice (.fz w a n cs) (.fz w' .nils n' dK)=some (.bool (!qY a)):=rfl
theorem zIk(s o n:Nat)(c:Cap)(w':Bool)(n':Nat)(dK:List PV):pbin .eql .slice (.sl s o n c) (.fz w' .nils n' dK)=some (.bool false):=rfl
theorem zHM(s o n:Nat)(c:Cap)(w':Bool)(n':Nat)(dK:List PV):pbin .neq .slice (.sl s o n c) (.fz w' .nils n' dK)=some (.bool true):=rfl
theorem zHL(ek:EqK)(a b:List UInt8):pbin .add ek (.str a) (.str b)=if a.length+b.length<=9223372036854775807 then some (.str (a++b))else none:=by simp only[pbin,astr];split<;>rfl
theorem zHK(ek:EqK)(a b:List UInt8):pbin .eql ek (.str a) (.str b)=some (.bool (a == b)):=rfl
theorem zHJ(ek:EqK)(a b:List UInt8):pbin .neq ek (.str a) (.str b)=some (.bool !(a == b)):=rfl
theorem zHk:qY .nils=true:=rfl
theorem zKN(o f n:Nat)(c:Cap):qY (.sl o f n c)=false:=rfl
theorem zMM(k:IntKind)(n:Int):pun .neg (.int k n)=some (.int k (k.wrap (0-n))):=rfl
theorem zML(b:Bool):pun .not (.bool b)=some (.bool !b):=rfl
theorem zIp(a b:PV):pPick (.bool true) a b=some a:=rfl
theorem zHP(a b:PV):pPick (.bool false) a b=some b:=rfl
theorem zJ8(k k':IntKind)(n:Int):pConv k (.int k' n)=some (.int k (k.wrap n)):=rfl
theorem zLY(s i:Nat):pNil (.ptr s i)=some (.ptr s i):=rfl
theorem zLZ(f:FuncId)(a b:List PV):pNil (.clo f a b)=some (.clo f a b):=rfl
theorem zMY(a:AV)(c:PV)(cs:List PV):pNil (.fp a (c::cs))=some (.fp a (c::cs)):=rfl
theorem zIr(n off:Nat)(cs:List PV):zCF true n off (.agg cs)=some (.agg ((cs.drop off).take n)):=rfl
theorem zIq(n off:Nat)(cs:List PV):zCF false n off (.agg cs)=cs[off]?:=rfl
theorem zEk(off s i:Nat):QG off (.ptr s i)=some (.ptr s (i+off)):=rfl
theorem zFM(off:Nat)(a:AV)(c:PV)(cs:List PV):QG off (.fp a (c::cs))=some (.fp (pAdd a off) ((c::cs).drop off)):=rfl
theorem zJ6(sz s off len:Nat)(c:Cap)(k:IntKind)(n:Int):zBA sz (.sl s off len c) (.int k n)=if 0<=n∧n<len then some (.ptr s (off+n.toNat*sz))else none:=rfl
theorem zJ7(sz:Nat)(w:Bool)(a:AV)(len:Nat)(cs:List PV)(k:IntKind)(n:Int):zBA sz (.fz w a len cs) (.int k n)=if 0<=n∧n<len then some (.fp (pAt a (n.toNat*sz)) (cs.drop (n.toNat*sz)))else none:=rfl
theorem zHS(s:List UInt8)(k:IntKind)(n:Int):zCh (.str s) (.int k n)=if 0<=n then(s[n.toNat]?).map fun c=>.int .u8 c.toNat else none:=rfl
theorem zGB(vs:List PV)(i:Nat):zBZ (.tup vs) i=vs[i]?:=rfl
theorem zMa(w:Bool)(a:AV)(n:Nat)(cs:List PV):pLen (.fz w a n cs)=some (.int .i64 n):=rfl
theorem zMZ(s o n:Nat)(c:Cap):pLen (.sl s o n c)=some (.int .i64 n):=rfl
theorem zHR(s:List UInt8):zCg (.str s)=some (.int .i64 s.length):=rfl
theorem zJ9(w:Bool)(l:Nat)(cs:List PV):pCap (.fz w .nils l cs)=some (.int .i64 0):=rfl
theorem zMb(s o n c:Nat):pCap (.sl s o n (.known c))=some (.int .i64 c):=rfl
theorem zHQ(mx:Bool)(k:IntKind)(a b:Int):zA9 mx (.int k a) (.int k b)=some (.int k (if mx=true then max a b else min a b)):=by simp[zA9]
theorem zJr(n s i:Nat):pldv false n (.ptr s i) h=h.rd1 s i:=rfl
theorem zJq(n s i:Nat):pldv true n (.ptr s i) h=(h.rd s i n).map .agg:=rfl
theorem zLK(n:Nat)(a:AV)(cs:List PV):pldv false n (.fp a cs) h=cs[0]?:=rfl
theorem zLJ(n:Nat)(a:AV)(cs:List PV):pldv true n (.fp a cs) h=if 0<n∧n<=cs.length then some (.agg (cs.take n))else none:=rfl
theorem zJp:h.news []=h:=rfl
theorem zIb(z:List AV)(zs:List (List AV)):h.news (z::zs)=(h.new (ofAVs z)).news zs:=rfl
theorem zJN(recs:List RecP):zN [] recs h=True:=by
 apply propext;refine⟨fun _=>trivial,fun _=>?_⟩
 induction recs with
 |nil=>trivial
 |cons r rs ih=>exact⟨by simp,ih⟩
theorem zHs(c:List Nat):zN c [] h=True:=rfl
theorem zHt(c:List Nat)(i:Nat)(a:Bool)(n:Nat)(x v:PV)(rs:List RecP):zN c (⟨i,a,n,x,v⟩::rs) h=((if c.contains i=true then pldv a n x h=some v else True)∧zN c rs h):=rfl
theorem zG5(d:Option Nat)(a:Bool)(n:Nat)(x:IX)(g:Option (Nat×Bool))(i:Nat)(c:List Nat)(v:PV):zL ⟨⟨d,.load a n x,true,g⟩,i,c⟩ e v=if Q7 g e=true then [⟨i,a,n,x.pv e,v⟩]else []:=rfl
theorem zJa(d:Option Nat)(x:IX)(g:Option (Nat×Bool))(i:Nat)(c:List Nat)(v:PV):zL ⟨⟨d,(.mv x),true,g⟩,i,c⟩ e v=[]:=rfl
theorem zG4(d:Option Nat)(x y z:IX)(g:Option (Nat×Bool))(i:Nat)(c:List Nat)(v:PV):zL ⟨⟨d,(.pick x y z),true,g⟩,i,c⟩ e v=[]:=rfl
theorem zIW(d:Option Nat)(op:BinOp)(ek:EqK)(x y:IX)(g:Option (Nat×Bool))(i:Nat)(c:List Nat)(v:PV):zL ⟨⟨d,(.bin op ek x y),true,g⟩,i,c⟩ e v=[]:=rfl
theorem zJZ(d:Option Nat)(op:UnOp)(x:IX)(g:Option (Nat×Bool))(i:Nat)(c:List Nat)(v:PV):zL ⟨⟨d,(.un op x),true,g⟩,i,c⟩ e v=[]:=rfl
theorem zG6(d:Option Nat)(k:IntKind)(x:IX)(g:Option (Nat×Bool))(i:Nat)(c:List Nat)(v:PV):zL ⟨⟨d,(.conv k x),true,g⟩,i,c⟩ e v=[]:=rfl
theorem zDy(d:Option Nat)(x:IX)(g:Option (Nat×Bool))(i:Nat)(c:List Nat)(v:PV):zL ⟨⟨d,(.nilCheck x),true,g⟩,i,c⟩ e v=[]:=rfl
theorem zFu(d:Option Nat)(z:List AV)(ps:List (Nat×Nat×IX))(g:Option (Nat×Bool))(i:Nat)(c:List Nat)(v:PV):zL ⟨⟨d,(.build z ps),true,g⟩,i,c⟩ e v=[]:=rfl
theorem zFt(d:Option Nat)(a:Bool)(n off:Nat)(x:IX)(g:Option (Nat×Bool))(i:Nat)(c:List Nat)(v:PV):zL ⟨⟨d,(.field a n off x),true,g⟩,i,c⟩ e v=[]:=rfl
theorem zDO(d:Option Nat)(off:Nat)(x:IX)(g:Option (Nat×Bool))(i:Nat)(c:List Nat)(v:PV):zL ⟨⟨d,(.fieldAddr off x),true,g⟩,i,c⟩ e v=[]:=rfl
theorem zDN(d:Option Nat)(sz:Nat)(x y:IX)(g:Option (Nat×Bool))(i:Nat)(c:List Nat)(v:PV):zL ⟨⟨d,(.indexAddr sz x y),true,g⟩,i,c⟩ e v=[]:=rfl
theorem zD0(d:Option Nat)(x y:IX)(g:Option (Nat×Bool))(i:Nat)(c:List Nat)(v:PV):zL ⟨⟨d,(.indexStr x y),true,g⟩,i,c⟩ e v=[]:=rfl
theorem zEi(d:Option Nat)(x:IX)(j:Nat)(g:Option (Nat×Bool))(i:Nat)(c:List Nat)(v:PV):zL ⟨⟨d,(.extract x j),true,g⟩,i,c⟩ e v=[]:=rfl
theorem zIU(d:Option Nat)(x:IX)(g:Option (Nat×Bool))(i:Nat)(c:List Nat)(v:PV):zL ⟨⟨d,(.len x),true,g⟩,i,c⟩ e v=[]:=rfl
theorem zFI(d:Option Nat)(x:IX)(g:Option (Nat×Bool))(i:Nat)(c:List Nat)(v:PV):zL ⟨⟨d,(.lenStr x),true,g⟩,i,c⟩ e v=[]:=rfl
theorem zIV(d:Option Nat)(x:IX)(g:Option (Nat×Bool))(i:Nat)(c:List Nat)(v:PV):zL ⟨⟨d,(.cap x),true,g⟩,i,c⟩ e v=[]:=rfl
theorem zFs(d:Option Nat)(sz:Nat)(x:IX)(lo hi mx:Option IX)(g:Option (Nat×Bool))(i:Nat)(c:List Nat)(v:PV):zL ⟨⟨d,(.slice sz x lo hi mx),true,g⟩,i,c⟩ e v=[]:=rfl
theorem zDx(d:Option Nat)(x:IX)(lo hi:Option IX)(g:Option (Nat×Bool))(i:Nat)(c:List Nat)(v:PV):zL ⟨⟨d,(.sliceStr x lo hi),true,g⟩,i,c⟩ e v=[]:=rfl
theorem zFH(d:Option Nat)(mx:Bool)(x y:IX)(g:Option (Nat×Bool))(i:Nat)(c:List Nat)(v:PV):zL ⟨⟨d,(.maxmin mx x y),true,g⟩,i,c⟩ e v=[]:=rfl
theorem zDz(d:Option Nat)(f:FuncId)(y z:List IX)(g:Option (Nat×Bool))(i:Nat)(c:List Nat)(v:PV):zL ⟨⟨d,(.makeFunc f y z),true,g⟩,i,c⟩ e v=[]:=rfl
theorem zIT(d:Option Nat)(j:Nat)(g:Option (Nat×Bool))(i:Nat)(c:List Nat)(v:PV):zL ⟨⟨d,(.rev j),true,g⟩,i,c⟩ e v=[]:=rfl
theorem zG3(d:Option Nat)(j m:Nat)(g:Option (Nat×Bool))(i:Nat)(c:List Nat)(v:PV):zL ⟨⟨d,(.revS j m),true,g⟩,i,c⟩ e v=[]:=rfl
theorem zFh:Q7 none e=true:=rfl
theorem zFg(t:Nat)(b:Bool):Q7 (some (t,b)) e=(match e t with | .bool c=>decide (c=b)|_=>false):=rfl
theorem zIR:qi [] e h=some []:=rfl
theorem zIQ(t:Nat)(r:List IRes):qi (.tmp t::r) e h=(qi r e h).map fun vs=>e t::vs:=rfl
theorem zG0(t:Nat)(a:Bool)(n:Nat)(r:List IRes):qi (.cell t a n::r) e h=(pldv a n (e t) h).bind fun v=>(qi r e h).map fun vs=>v::vs:=rfl
theorem zG2(res:List IRes):retP res KA .normal e h=optK (qi res e h) fun vs=>KA (packP vs) h:=rfl
theorem zK0(res:List IRes):retP res KA .ret e h=optK (qi res e h) fun vs=>KA (packP vs) h:=rfl
theorem zJ2(v:PV):packP [v]=v:=rfl
theorem zJ3:packP []=.tup []:=rfl
theorem zJ1(u v:PV)(r:List PV):packP (u::v::r)=.tup (u::v::r):=rfl
theorem zJs(cs:List PV):pfill cs []=some cs:=rfl
theorem zIc(cs:List PV)(off size:Nat)(v:PV)(r:List (Nat×Nat×PV)):pfill cs ((off,size,v)::r)=if v.cells.length=size∧off+size<=cs.length∧v.cells.all PV.one=true then pfill (cs.take off++v.cells++cs.drop (off+size)) r else none:=rfl
theorem zIg(k:IntKind)(n:Int):PV.cells (.int k n)=[(.int k n)]:=rfl
theorem zLF(k:IntKind)(n:Int):PV.one (.int k n)=true:=rfl
theorem zHI(b:Bool):PV.cells (.bool b)=[(.bool b)]:=rfl
theorem zJl(b:Bool):PV.one (.bool b)=true:=rfl
theorem zIe(s:List UInt8):PV.cells (.str s)=[(.str s)]:=rfl
theorem zLD(s:List UInt8):PV.one (.str s)=true:=rfl
theorem zHG:PV.cells .nilp=[.nilp]:=rfl
theorem zJj:PV.one .nilp=true:=rfl
theorem zHH:PV.cells .nilf=[.nilf]:=rfl
theorem zJk:PV.one .nilf=true:=rfl
theorem zJu(w:Bool)(a:AV)(n:Nat)(cs:List PV):PV.cells (.fz w a n cs)=[(.fz w a n cs)]:=rfl
theorem zMQ(w:Bool)(a:AV)(n:Nat)(cs:List PV):PV.one (.fz w a n cs)=true:=rfl
theorem zJv(a:AV)(cs:List PV):PV.cells (.fp a cs)=[(.fp a cs)]:=rfl
theorem zMR(a:AV)(cs:List PV):PV.one (.fp a cs)=true:=rfl
theorem zIf(s i:Nat):PV.cells (.ptr s i)=[(.ptr s i)]:=rfl
theorem zLE(s i:Nat):PV.one (.ptr s i)=true:=rfl
theorem zJt(s o n:Nat)(c:Cap):PV.cells (.sl s o n c)=[(.sl s o n c)]:=rfl
theorem zMP(s o n:Nat)(c:Cap):PV.one (.sl s o n c)=true:=rfl
theorem zIh(f:FuncId)(a b:List PV):PV.cells (.clo f a b)=[(.clo f a b)]:=rfl
theorem zLG(f:FuncId)(a b:List PV):PV.one (.clo f a b)=true:=rfl
theorem zIi(cs:List PV):PV.cells (.agg cs)=cs:=rfl
theorem zBY(k:IntKind)(i:Int)(y:Nat):Zt (.int k i) y=if 0<=i∧i<=y then some i.toNat else none:=rfl
theorem zAN(x:PV)(d y:Nat):zW (some x) d y=Zt x y:=rfl
theorem zAO(d y:Nat):zW none d y=some d:=rfl
theorem zJf(sz:Nat)(w:Bool)(a:AV)(len:Nat)(cs:List PV)(lo hi:Option PV):Zq sz (.fz w a len cs) lo hi none=(zW hi len len).bind fun h=>(zW lo 0 h).bind fun l=>some (.fz false (pslA sz a l h) (h-l) ((cs.drop (l*sz)).take ((h-l)*sz))):=rfl
theorem zCA(sz s off len c:Nat)(lo hi mx:Option PV):Zq sz (.sl s off len (.known c)) lo hi mx=(zW mx c c).bind fun m=>(zW hi len m).bind fun h=>(zW lo 0 h).bind fun l=>if hi.isNone=true∧mx.isSome=true then none else some (.sl s (if m=l then off else off+l*sz) (h-l) (.known (m-l))):=rfl
theorem zCB(sz s off len g:Nat)(lo hi:Option PV):Zq sz (.sl s off len (.grown g)) lo hi none=(zW hi len len).bind fun h=>(zW lo 0 h).bind fun l=>some (.sl s (off+l*sz) (h-l) (.grown (if g=sz then g else 0))):=rfl
theorem zFJ(s:List UInt8)(lo hi:Option PV):zAj (.str s) lo hi=(zW hi s.length s.length).bind fun h=>(zW lo 0 h).bind fun l=>some (.str ((s.take h).drop l)):=rfl
theorem zH3(w:Bool)(a:AV)(n:Nat)(cs:List PV):plen (.fz w a n cs)=some n:=rfl
theorem zMU(s o n:Nat)(c:Cap):plen (.sl s o n c)=some n:=rfl
theorem qo(sz bytes:Nat)(s x:PV):qC sz bytes h s x=(plen x).bind fun m=>if m=0 then(psame s).map fun v=>(v,h)else(qX sz h x m).bind fun news=>pgrow sz bytes h s news m:=rfl
theorem zF8(sz:Nat)(d s:PV):pcopy sz h d s=(plen d).bind fun n=>(plen s).bind fun m=>if min m n=0 then some (.int .i64 0,h)else match d with | .sl o off _ _=>(qX sz h s (min m n)).bind fun cs=>(h.wr o off cs).map fun σ'=>(.int .i64 (min m n:Nat),σ')|_=>none:=rfl
theorem zHC(s o n c:Nat):psame (.sl s o n (.known c))=if n<=c then some (.sl s o n (.known c))else none:=rfl
theorem zCC(sz:Nat)(w:Bool)(a:AV)(len:Nat)(cs:List PV)(n:Nat):qX sz h (.fz w a len cs) n=if n=0 then some []else if n<=len∧n*sz<=cs.length∧0<sz then some (cs.take (n*sz))else none:=rfl
theorem ZY(sz s off len:Nat)(c:Cap)(n:Nat):qX sz h (.sl s off len c) n=if n=0 then some []else if n<=len then h.rd s off (n*sz)else none:=rfl
theorem zD5(sz bytes:Nat)(w:Bool)(n:Nat)(cs news:List PV)(m:Nat):pgrow sz bytes h (.fz w .nils n cs) news m=if m*bytes<=140737488355328∧m<=4611686018427387904 then some (.sl h.next 0 m (.grown sz),h.new news)else none:=rfl
theorem Zr(sz bytes s off len c:Nat)(news:List PV)(m:Nat):pgrow sz bytes h (.sl s off len (.known c)) news m=if len+m<=c then(h.wr s (off+len*sz) news).map fun σ'=>(.sl s off (len+m) (.known c),σ')else if (len+m)*bytes<=140737488355328∧len+m<=4611686018427387904 then(h.rd s off (len*sz)).map fun old=>(.sl h.next 0 (len+m) (.grown sz),h.new (old++news))else none:=rfl
theorem Qd(sz bytes s off len g:Nat)(news:List PV)(m:Nat):pgrow sz bytes h (.sl s off len (.grown g)) news m=if (len+m)*bytes<=140737488355328∧len+m<=4611686018427387904∧g=sz then(h.obj s).bind fun cs=>if off+len*sz<=cs.length then some (.sl h.next 0 (len+m) (.grown sz),(h.kill s).new ((cs.drop off).take (len*sz)++news))else none else none:=rfl
theorem zLB(cs:List PV)(s i:Nat):(h.new cs).rd1 s i=if s=h.next then cs[i]? else h.rd1 s i:=by by_cases x:s=h.next<;>simp[PHeap.rd1,PHeap.new,x]
theorem QA(cs:List PV)(s i n:Nat):(h.new cs).rd s i n=if s=h.next then(if i+n<=cs.length then some ((cs.drop i).take n)else none)else h.rd s i n:=by by_cases x:s=h.next<;>simp[PHeap.rd,PHeap.new,x]
theorem zH(cs:List PV)(s:Nat):(h.new cs).obj s=if s=h.next then some cs else h.obj s:=rfl
theorem zMK(cs:List PV)(s i:Nat)(vs:List PV):(h.new cs).wr s i vs=if s=h.next then(if i+vs.length<=cs.length∧vs.all PV.one=true then some (h.new (cs.take i++vs++cs.drop (i+vs.length)))else none)else(h.wr s i vs).map fun h'=>h'.new cs:=by
 by_cases x:s=h.next
 ·subst x
  simp only[PHeap.wr,PHeap.new,if_true,Option.bind_some]
  split
  ·congr 1
   simp only[PHeap.set]
   congr 1
   funext y
   by_cases hy:y=h.next<;>simp[hy]
  ·rfl
 ·simp only[PHeap.wr,PHeap.new,if_neg x]
  cases ho:h.obj s with
  |none=>rfl
  |some ob=>
   simp only[Option.bind_some]
   split
   ·simp only[Option.map_some,PHeap.set]
    congr 2
    funext y
    by_cases hy:y=s
    ·subst hy;simp[x]
    ·simp[hy]
   ·rfl
theorem zJo(cs:List PV):(h.new cs).next=h.next+1:=rfl
theorem zK7(cs:List PV):(h.new cs).top=h.top:=rfl
theorem zK8(cs:List PV)(s:Nat)(ds:List PV):(h.new cs).set s ds=if s=h.next then h.new ds else(h.set s ds).new cs:=by
 by_cases x:s=h.next
 ·subst x
  rw[if_pos rfl];simp only[PHeap.set,PHeap.new]
  congr 1
  funext y
  by_cases hy:y=h.next<;>simp[hy]
 ·rw[if_neg x]
  simp only[PHeap.set,PHeap.new]
  congr 1
  funext y
  by_cases hy:y=s
  ·subst hy;simp[x]
  ·simp[hy]
theorem zf(s:Nat)(cs ds:List PV):(h.set s cs).set s ds=h.set s ds:=by
 simp only[PHeap.set]
 congr 1
 funext y
 by_cases hy:y=s<;>simp[hy]
theorem zJn(s:Nat)(cs:List PV):(h.set s cs).next=h.next:=rfl
theorem zIa(s:Nat):(h.kill s).next=h.next:=rfl
theorem zLH(t:Nat):(h.up t).next=h.next:=rfl
theorem zMN(t:Nat):(h.up t).top=t:=rfl
theorem zMT(t:Nat)(cs:List PV):(h.up t).new cs=(h.new cs).up t:=rfl
theorem zMO(t s i:Nat):(h.up t).rd1 s i=h.rd1 s i:=rfl
theorem zNG(t s i n:Nat):(h.up t).rd s i n=h.rd s i n:=rfl
theorem zMS(t s:Nat):(h.up t).obj s=h.obj s:=rfl
theorem zNE(t s i:Nat)(vs:List PV):(h.up t).wr s i vs=(h.wr s i vs).map fun h'=>h'.up t:=by
 simp only[PHeap.wr,PHeap.up];cases h.obj s with
 |none=>rfl
 |some cs=>simp only[Option.bind_some];split<;>rfl
theorem zJm(s t:Nat):(h.kill s).obj t=if t=s then none else h.obj t:=rfl
theorem zg(s:Nat)(cs:List PV)(t:Nat):(h.set s cs).obj t=if t=s then some cs else h.obj t:=rfl
theorem zJg(s t i:Nat):(h.kill s).rd1 t i=if t=s then none else h.rd1 t i:=by by_cases x:t=s<;>simp[PHeap.rd1,PHeap.kill,x]
theorem zK9(s t i n:Nat):(h.kill s).rd t i n=if t=s then none else h.rd t i n:=by by_cases x:t=s<;>simp[PHeap.rd,PHeap.kill,x]
theorem zLA(s:Nat)(cs:List PV)(t i:Nat):(h.set s cs).rd1 t i=if t=s then cs[i]? else h.rd1 t i:=by by_cases x:t=s<;>simp[PHeap.rd1,PHeap.set,x]
theorem zH1(s:Nat)(cs:List PV)(t i n:Nat):(h.set s cs).rd t i n=if t=s then(if i+n<=cs.length then some ((cs.drop i).take n)else none)else h.rd t i n:=by by_cases x:t=s<;>simp[PHeap.rd,PHeap.set,x]
theorem zMJ(s:Nat)(cs:List PV)(i:Nat)(vs:List PV):(h.set s cs).wr s i vs=if i+vs.length<=cs.length∧vs.all PV.one=true then some (h.set s (cs.take i++vs++cs.drop (i+vs.length)))else none:=by
 simp only[PHeap.wr,PHeap.set,if_true,Option.bind_some]
 split
 ·congr 2
  funext y
  by_cases hy:y=s<;>simp[hy]
 ·rfl
end
def pw0:=And.intro @zL6 <| And.intro @zJQ <| And.intro @zL8 <| And.intro @zM6 <| And.intro @zL9 <| And.intro @zKu <| And.intro @zL7 <| And.intro @zM7 <| And.intro @zMx <| And.intro @RVp_q <| And.intro @RVp_e <| And.intro @zM2 <| And.intro @DVp_q <| And.intro @DVp_e <| And.intro @zLn <| And.intro @zLm <| And.intro @zLp <| And.intro @zLo <| And.intro @zHE <| And.intro @zF9 <| And.intro @zId <| And.intro @zHF <| And.intro @zF7 <| And.intro @zF5 <| And.intro @zF4 <| And.intro @zF6 <| And.intro @pv_t <| And.intro @pv_c <| And.intro @zLI <| @zJh
def pw1:=And.intro @zJi <| And.intro @qp_mv <| And.intro @zMG <| And.intro @zND <| And.intro @qp_un <| And.intro @zMI <| And.intro @zG8 <| And.intro @zK6 <| And.intro @zK5 <| And.intro @zFz <| And.intro @zFy <| And.intro @zHA <| And.intro @zIX <| And.intro @zNB <| And.intro @zJd <| And.intro @zNC <| And.intro @zK4 <| And.intro @zG7 <| And.intro @zJc <| And.intro @zG9 <| And.intro @zMH <| And.intro @zNA <| And.intro @zMF <| And.intro @zLu <| And.intro @zNb <| And.intro @zJA <| And.intro @zLs <| And.intro @zIo <| And.intro @zKV <| And.intro @zHo <| @zHT
def pw2:=And.intro @zJ5 <| And.intro @zKW <| And.intro @zMt <| And.intro @zMu <| And.intro @zLt <| And.intro @zIs <| And.intro @zLc <| And.intro @of_bool <| And.intro @of_int <| And.intro @zNK <| And.intro @zMf <| And.intro @zMg <| And.intro @zMe <| And.intro @zNL <| And.intro @zNM <| And.intro @zMd <| And.intro @zLb <| And.intro @zMc <| And.intro @zLX <| And.intro @zLN <| And.intro @zLR <| And.intro @zLW <| And.intro @zLQ <| And.intro @zLS <| And.intro @zLT <| And.intro @zLU <| And.intro @zLV <| And.intro @zLP <| And.intro @zLO <| @zIm
def pw3:=And.intro @zJ0 <| And.intro @zIn <| And.intro @zJy <| And.intro @zJx <| And.intro @zIl <| And.intro @zHN <| And.intro @zIk <| And.intro @zHM <| And.intro @zHL <| And.intro @zHK <| And.intro @zHJ <| And.intro @zHk <| And.intro @zKN <| And.intro @zMM <| And.intro @zML <| And.intro @zIp <| And.intro @zHP <| And.intro @zJ8 <| And.intro @zLY <| And.intro @zLZ <| And.intro @zMY <| And.intro @zIr <| And.intro @zIq <| And.intro @zEk <| And.intro @zFM <| And.intro @zJ6 <| And.intro @zJ7 <| And.intro @zHS <| And.intro @zGB <| @zMa
def pw4:=And.intro @zMZ <| And.intro @zHR <| And.intro @zJ9 <| And.intro @zMb <| And.intro @zHQ <| And.intro @zJr <| And.intro @zJq <| And.intro @zLK <| And.intro @zLJ <| And.intro @zJp <| And.intro @zIb <| And.intro @zJN <| And.intro @zHs <| And.intro @zHt <| And.intro @zG5 <| And.intro @zJa <| And.intro @zG4 <| And.intro @zIW <| And.intro @zJZ <| And.intro @zG6 <| And.intro @zDy <| And.intro @zFu <| And.intro @zFt <| And.intro @zDO <| And.intro @zDN <| And.intro @zD0 <| And.intro @zEi <| And.intro @zIU <| And.intro @zFI <| @zIV
def pw5:=And.intro @zFs <| And.intro @zDx <| And.intro @zFH <| And.intro @zDz <| And.intro @zIT <| And.intro @zG3 <| And.intro @zFh <| And.intro @zFg <| And.intro @zIR <| And.intro @zIQ <| And.intro @zG0 <| And.intro @zG2 <| And.intro @zK0 <| And.intro @zJ2 <| And.intro @zJ3 <| And.intro @zJ1 <| And.intro @zJs <| And.intro @zIc <| And.intro @zIg <| And.intro @zLF <| And.intro @zHI <| And.intro @zJl <| And.intro @zIe <| And.intro @zLD <| And.intro @zHG <| And.intro @zJj <| And.intro @zHH <| And.intro @zJk <| And.intro @zJu <| And.intro @zMQ <| @zJv
def pw6:=And.intro @zMR <| And.intro @zIf <| And.intro @zLE <| And.intro @zJt <| And.intro @zMP <| And.intro @zIh <| And.intro @zLG <| And.intro @zIi <| And.intro @zBY <| And.intro @zAN <| And.intro @zAO <| And.intro @zJf <| And.intro @zCA <| And.intro @zCB <| And.intro @zFJ <| And.intro @zH3 <| And.intro @zMU <| And.intro @zLB <| And.intro @QA <| And.intro @zH <| And.intro @zMK <| And.intro @zJo <| And.intro @zK7 <| And.intro @zK8 <| And.intro @zf <| And.intro @zJn <| And.intro @zIa <| And.intro @zLH <| And.intro @zMN <| @zMT
def pw7:=And.intro @zMO <| And.intro @zNG <| And.intro @zMS <| And.intro @zNE <| And.intro @zJm <| And.intro @zg <| And.intro @zJg <| And.intro @zK9 <| And.intro @zLA <| And.intro @zH1 <| And.intro @zMJ <| And.intro @zAl <| And.intro @Qm <| And.intro @zKA <| And.intro @zLa <| And.intro @List.map_cons.{0,0} <| And.intro @List.map_nil.{0,0} <| And.intro @List.length_cons.{0} <| And.intro @List.length_nil.{0} <| And.intro @List.getElem?_cons_zero.{0} <| And.intro @List.getElem?_cons_succ.{0} <| And.intro @List.take_succ_cons.{0} <| And.intro @List.take_zero.{0} <| And.intro @List.drop_succ_cons.{0} <| And.intro @List.drop_zero.{0} <| And.intro @List.take_nil.{0} <| And.intro @List.drop_nil.{0} <| And.intro @List.nil_append.{0} <| And.intro @List.cons_append.{0} <| @List.append_nil.{0}
def pw8:=And.intro @List.all_cons.{0} <| And.intro @List.all_nil.{0} <| And.intro @List.contains_cons.{0} <| And.intro @List.contains_nil.{0} <| And.intro @Option.map_some.{0,0} <| And.intro @Option.map_none.{0,0} <| And.intro @Option.bind_some.{0,0} <| And.intro @Option.bind_none.{0,0} <| And.intro @decide_true <| And.intro @decide_false <| And.intro @Bool.not_true <| And.intro @Bool.not_false <| And.intro @Bool.and_true <| And.intro @Bool.true_and <| And.intro @Bool.and_self <| And.intro @Bool.or_false <| And.intro @Bool.or_true <| And.intro @Bool.true_or <| And.intro @Bool.false_or <| And.intro @true_and <| And.intro @and_true <| And.intro @Bool.true_eq_false <| And.intro @Bool.false_eq_true <| And.intro @Nat.left_eq_add <| And.intro @Nat.add_eq_left <| And.intro @Nat.succ_ne_self <| And.intro @Nat.one_ne_zero <| And.intro @Nat.add_left_cancel_iff <| And.intro @Nat.add_assoc <| @Nat.mul_one
def pw9:=And.intro @Nat.zero_add <| And.intro @Nat.add_zero <| And.intro @Nat.le_refl <| And.intro @Nat.lt_add_one <| And.intro @Int.toNat_natCast <| And.intro @Int.natCast_nonneg <| And.intro @Int.ofNat_lt <| And.intro @Int.le_refl <| And.intro @zII <| And.intro @zIJ <| And.intro @zFc <| And.intro @Nat.one_mul <| @Nat.zero_mul
def Z3:=And.intro pw0 <| And.intro pw1 <| And.intro pw2 <| And.intro pw3 <| And.intro pw4 <| And.intro pw5 <| And.intro pw6 <| And.intro pw7 <| And.intro pw8 <| And.intro pw9 <| And.intro @nm_eq <| And.intro @eq_self.{1} <| And.intro @Int.ofNat_le @List.getElem?_drop.{0}
end Go.Ab
