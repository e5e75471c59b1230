/- THE RULES BY WHICH ABSTRACT CODE IS WALKED: each an equation by 'rfl'. -/
import Derived.Test.YtjlpbpfaihhamaaGreatDoorAAbCode
set_option linter.unusedVariables false
namespace Go.Ab
def condK (v:AV) (a b:Prop):Prop:=
 match v with
 | .bool t=>if t=true then a else b
 | _=>False
def zCd (v:AV) (b:Bool) (x y:Prop):Prop:=
 match v with
 | .bool c=>if c=b then x else y
 | .tup []=>y
 | _=>False
def zG0 (v:AV) (b:Bool) (x:Option AV):Option AV:=
 match v with
 | .bool c=>if c=b then x else some (.tup [])
 | .tup []=>some (.tup [])
 | _=>none
section
variable {P:Program} {Q:Exit→Env→AHeap→Prop} {e:Env} {h:AHeap} {K:Env→AHeap→Prop} {KA:AV→AHeap→Prop} {nb:Nat}
theorem zNj:vc P .skip Q e h=Q .normal e h:=rfl
theorem zKD (S:List Nat) (its:List II):vc P (.region S its) Q e h=RV P its e h fun e' h'=>Q .normal (Env.mk S (S.map e')) h':=rfl
theorem zNl (S:List Nat) (zs:List (List AV)) (its:List DI):vc P (.draw S zs its) Q e h=DV P h.next its [] e (h.news zs) fun e' h'=>Q .normal (Env.mk S (S.map e')) h':=rfl
theorem zO3 (a b:IC):vc P (.seq a b) Q e h=vc P a (fun x e' h'=>match x with | .normal=>vc P b Q e' h' | x=>Q x e' h') e h:=rfl
theorem zNm (c:IX) (a b:IC):vc P (.cond c a b) Q e h=condK (c.ev e) (vc P a Q e h) (vc P b Q e h):=rfl
theorem zLn (id:Nat) (c:IC):vc P (.block id c) Q e h=vc P c (fun x e' h'=>match x with | .exit id'=>if id'=id then Q .normal e' h' else Q (.exit id') e' h' | x=>Q x e' h') e h:=rfl
theorem zNk (id:Nat):vc P (.exit id) Q e h=Q (.exit id) e h:=rfl
theorem zO4:vc P .ret Q e h=Q .ret e h:=rfl
theorem QR {S:List Nat} {c:IC} (I:Nat→List AV→AHeap→Prop) (n:Nat) (h0:I n (S.map e) h)
  (round:∀n vs h,I n vs h→vc P c (fun x e' h'=>match x with | .normal=>∃n',n'<n∧I n' (S.map e') h' | x=>Q x e' h') (Env.mk S vs) h):vc P (.loop S c) Q e h:=⟨I,⟨n,h0⟩,round⟩
theorem zPp:RV P [] e h K=K e h:=rfl
theorem RV_q (d:Option Nat) (op:IOp) (g:Option (Nat×Bool)) (r:List II):RV P (⟨d,op,true,g⟩::r) e h K=optK (gq 0 ⟨d,op,true,g⟩ e h) fun v=>RV P r (e.put d v) h K:=rfl
theorem RV_e (d:Option Nat) (op:IOp) (g:Option (Nat×Bool)) (r:List II):RV P (⟨d,op,false,g⟩::r) e h K=ge P ⟨d,op,false,g⟩ e h fun v h'=>RV P r (e.put d v) h' K:=rfl
theorem zPq (recs:List Rec):DV P nb [] recs e h K=K e h:=rfl
theorem DV_q (d:Option Nat) (op:IOp) (g:Option (Nat×Bool)) (i:Nat) (c:List Nat) (r:List DI) (recs:List Rec):
  DV P nb (⟨⟨d,op,true,g⟩,i,c⟩::r) recs e h K=optK (gq nb ⟨d,op,true,g⟩ e h) fun v=>DV P nb r (recOf ⟨⟨d,op,true,g⟩,i,c⟩ e v++recs) (e.put d v) h K:=rfl
theorem DV_e (d:Option Nat) (op:IOp) (g:Option (Nat×Bool)) (i:Nat) (c:List Nat) (r:List DI) (recs:List Rec):
  DV P nb (⟨⟨d,op,false,g⟩,i,c⟩::r) recs e h K=ge P ⟨d,op,false,g⟩ e h fun v h'=>RecOK c recs h'∧DV P nb r recs (e.put d v) h' K:=rfl
theorem zOY (d:Option Nat) (op:IOp) (q:Bool):gq nb ⟨d,op,q,none⟩ e h=qv nb op e h:=rfl
theorem zOX (d:Option Nat) (op:IOp) (q:Bool) (t:Nat) (b:Bool):gq nb ⟨d,op,q,some (t,b)⟩ e h=zG0 (e t) b (qv nb op e h):=rfl
theorem zOa (d:Option Nat) (op:IOp) (q:Bool):ge P ⟨d,op,q,none⟩ e h KA=eff P op e h KA:=rfl
theorem zOZ (d:Option Nat) (op:IOp) (q:Bool) (t:Nat) (b:Bool):ge P ⟨d,op,q,some (t,b)⟩ e h KA=zCd (e t) b (eff P op e h KA) (KA (.tup []) h):=rfl
theorem zJv (a b:Prop):condK (.bool true) a b=a:=rfl
theorem zIM (a b:Prop):condK (.bool false) a b=b:=rfl
theorem zLZ (c:Prop) [Decidable c] (a b:Prop):condK (.bool (decide c)) a b=if c then a else b:=by
 by_cases x:c<;>simp [condK,x]
theorem zJw (c:Prop) [Decidable c] (a b:Prop):condK (.bool (!decide c)) a b=if c then b else a:=by
 by_cases x:c<;>simp [condK,x]
theorem zIG (c b:Bool) (x y:Prop):zCd (.bool c) b x y=if c=b then x else y:=rfl
theorem zIE (c b:Bool) (x:Option AV):zG0 (.bool c) b x=if c=b then x else some (.tup []):=rfl
theorem zID (b:Bool) (x:Option AV):zG0 (.tup []) b x=some (.tup []):=rfl
theorem zIF (b:Bool) (x y:Prop):zCd (.tup []) b x y=y:=rfl
-- what is read
theorem ev_t (n:Nat):(IX.t n).ev e=e n:=rfl
theorem ev_c (v:AV):(IX.c v).ev e=v:=rfl
theorem zOP (s:Nat) (S:List Nat) (v:AV) (vs:List AV) (t:Nat):Env.mk (s::S) (v::vs) t=if t=s then v else Env.mk S vs t:=rfl
theorem zMA (d:Nat) (v:AV) (t:Nat):e.put (some d) v t=if t=d then v else e t:=rfl
theorem zMB (v:AV):e.put none v=e:=rfl
-- the operations
theorem qv_mv (x:IX):qv nb (.mv x) e h=some (x.ev e):=rfl
theorem zNw (c a b:IX):qv nb (.pick c a b) e h=aPick (c.ev e) (a.ev e) (b.ev e):=rfl
theorem zPK (op:BinOp) (ek:EqK) (x y:IX):qv nb (.bin op ek x y) e h=abin op ek (x.ev e) (y.ev e):=rfl
theorem qv_un (op:UnOp) (x:IX):qv nb (.un op x) e h=aun op (x.ev e):=rfl
theorem zNy (k:IntKind) (x:IX):qv nb (.conv k x) e h=aConv k (x.ev e):=rfl
theorem zHe (x:IX):qv nb (.nilCheck x) e h=aNil (x.ev e):=rfl
theorem zL6 (z:List AV) (ps:List (Nat×Nat×IX)):qv nb (.build z ps) e h=(afill z (ps.map fun p=>(p.1,p.2.1,p.2.2.ev e))).map .agg:=rfl
theorem zL4 (a:Bool) (n off:Nat) (x:IX):qv nb (.field a n off x) e h=ZF a n off (x.ev e):=rfl
theorem zGK (off:Nat) (x:IX):qv nb (.fieldAddr off x) e h=qa off (x.ev e):=rfl
theorem zGJ (sz:Nat) (x i:IX):qv nb (.indexAddr sz x i) e h=qx sz (x.ev e) (i.ev e):=rfl
theorem zHg (x i:IX):qv nb (.indexStr x i) e h=ZC (x.ev e) (i.ev e):=rfl
theorem zI7 (x:IX) (i:Nat):qv nb (.extract x i) e h=qi (x.ev e) i:=rfl
theorem zPI (x:IX):qv nb (.len x) e h=aLen (x.ev e):=rfl
theorem zKR (x:IX):qv nb (.lenStr x) e h=ZB (x.ev e):=rfl
theorem zPJ (x:IX):qv nb (.cap x) e h=aCap (x.ev e):=rfl
theorem zL3 (sz:Nat) (x:IX) (lo hi mx:Option IX):qv nb (.slice sz x lo hi mx) e h=Zp sz (x.ev e) (lo.map (·.ev e)) (hi.map (·.ev e)) (mx.map (·.ev e)):=rfl
theorem zHd (x:IX) (lo hi:Option IX):qv nb (.sliceStr x lo hi) e h=zAR (x.ev e) (lo.map (·.ev e)) (hi.map (·.ev e)):=rfl
theorem zKQ (mx:Bool) (x y:IX):qv nb (.maxmin mx x y) e h=qm mx (x.ev e) (y.ev e):=rfl
theorem zHf (f:FuncId) (a b:List IX):qv nb (.makeFunc f a b) e h=some (.clo f (a.map (·.ev e)) (b.map (·.ev e))):=rfl
theorem zNx (a:Bool) (n:Nat) (x:IX):qv nb (.load a n x) e h=ldv a n (x.ev e) h:=rfl
theorem zPH (k:Nat):qv nb (.rev k) e h=some (.ptr (nb+k) 0):=rfl
theorem zLT (z:List AV):eff P (.alloc z) e h KA=KA (.ptr h.next 0) (h.new ⟨true,z⟩):=rfl
theorem zOg (x:IX):eff P (.box x) e h KA=((x.ev e).cells.all AV.one=true∧KA (.ptr h.next 0) (h.new ⟨true,(x.ev e).cells⟩)):=rfl
theorem zIL (sz len:Nat) (z:List AV) (ps:List (Nat×Nat×IX)):eff P (.buildSl sz len z ps) e h KA=optK (afill (zeros z len) (ps.map fun p=>(p.1,p.2.1,p.2.2.ev e))) fun cs=>KA (.sl h.next 0 len (.known len)) (h.new ⟨true,cs⟩):=rfl
def zEv (n:Nat) (x v:AV) (h:AHeap) (KA:AV→AHeap→Prop):Prop:=
 match x with
 | .ptr o i=>v.cells.length=n∧optK (h.wr o i v.cells) fun h'=>KA .undef h'
 | _=>False
theorem zLQ (n:Nat) (x v:IX):eff P (.store n x v) e h KA=zEv n (x.ev e) (v.ev e) h KA:=rfl
theorem zJ1 (n o i:Nat) (v:AV):zEv n (.ptr o i) v h KA=(v.cells.length=n∧optK (h.wr o i v.cells) fun h'=>KA .undef h'):=rfl
def aMake (sz bytes:Nat) (z:List AV) (l c:AV) (h:AHeap) (KA:AV→AHeap→Prop):Prop:=
 match l,c with
 | .int _ l,.int _ c=>(0≤l∧l≤c∧c*bytes≤140737488355328∧c≤9223372036854775807)∧KA (.sl h.next 0 l.toNat (.known c.toNat)) (h.new ⟨true,zeros z c.toNat⟩)
 | _,_=>False
theorem zJn (sz bytes:Nat) (z:List AV) (l c:IX):eff P (.makeSl sz bytes z l c) e h KA=aMake sz bytes z (l.ev e) (c.ev e) h KA:=rfl
theorem zLf (sz bytes:Nat) (z:List AV) (k k':IntKind) (l c:Int):aMake sz bytes z (.int k l) (.int k' c) h KA =
  ((0≤l∧l≤c∧c*bytes≤140737488355328∧c≤9223372036854775807)∧KA (.sl h.next 0 l.toNat (.known c.toNat)) (h.new ⟨true,zeros z c.toNat⟩)):=rfl
theorem zJo (sz bytes:Nat) (s x:IX):eff P (.append sz bytes s x) e h KA=optK (zAn sz bytes h (s.ev e) (x.ev e)) fun p=>KA p.1 p.2:=rfl
theorem zM9 (sz:Nat) (d s:IX):eff P (.copy sz d s) e h KA=optK (acopy sz h (d.ev e) (s.ev e)) fun p=>KA p.1 p.2:=rfl
theorem zNA (f:FuncId) (args:List IX):eff P (.call f args) e h KA=qg P f (args.map (·.ev e)) h KA:=rfl
def zEw (P:Program) (f:AV) (args:List AV) (h:AHeap) (KA:AV→AHeap→Prop):Prop:=
 match f with
 | .clo f first caps=>okF P f=true∧qg P f (first++args++caps) h KA
 | _=>False
theorem zLS (f:IX) (args:List IX):eff P (.callV f args) e h KA=zEw P (f.ev e) (args.map (·.ev e)) h KA:=rfl
theorem zJ6 (f:FuncId) (a b args:List AV):zEw P (.clo f a b) args h KA=(okF P f=true∧qg P f (a++args++b) h KA):=rfl
theorem zNT (k:IntKind) (ek:EqK) (a b:Int):abin .add ek (.int k a) (.int k b)=some (.int k (k.wrap (a+b))):=by simp [abin,aint]
theorem zNF (k:IntKind) (ek:EqK) (a b:Int):abin .sub ek (.int k a) (.int k b)=some (.int k (k.wrap (a-b))):=by simp [abin,aint]
theorem zNN (k:IntKind) (ek:EqK) (a b:Int):abin .mul ek (.int k a) (.int k b)=some (.int k (k.wrap (a*b))):=by simp [abin,aint]
theorem zNJ (k:IntKind) (ek:EqK) (a b:Int):abin .quo ek (.int k a) (.int k b)=if b=0 then none else some (.int k (k.wrap (a.tdiv b))):=by simp [abin,aint]
theorem zNI (k:IntKind) (ek:EqK) (a b:Int):abin .rem ek (.int k a) (.int k b)=if b=0 then none else some (.int k (a.tmod b)):=by simp [abin,aint]
theorem zNS (k:IntKind) (ek:EqK) (a b:Int):abin .eql ek (.int k a) (.int k b)=some (.bool (decide (a=b))):=by simp [abin,aint]
theorem zNM (k:IntKind) (ek:EqK) (a b:Int):abin .neq ek (.int k a) (.int k b)=some (.bool (!decide (a=b))):=by simp [abin,aint]
theorem zNO (k:IntKind) (ek:EqK) (a b:Int):abin .lss ek (.int k a) (.int k b)=some (.bool (decide (a<b))):=by simp [abin,aint]
theorem zNP (k:IntKind) (ek:EqK) (a b:Int):abin .leq ek (.int k a) (.int k b)=some (.bool (decide (a≤b))):=by simp [abin,aint]
theorem zNQ (k:IntKind) (ek:EqK) (a b:Int):abin .gtr ek (.int k a) (.int k b)=some (.bool (decide (b<a))):=by simp [abin,aint]
theorem zNR (k:IntKind) (ek:EqK) (a b:Int):abin .geq ek (.int k a) (.int k b)=some (.bool (decide (b≤a))):=by simp [abin,aint]
theorem zLe (a b:Bool):abin .eql .bool (.bool a) (.bool b)=some (.bool (a == b)):=rfl
theorem zLd (a b:Bool):abin .neq .bool (.bool a) (.bool b)=some (.bool !(a == b)):=rfl
theorem zOo:abin .eql .slice .nils .nils=some (.bool true):=rfl
theorem zOm (o off n:Nat) (c:Cap):abin .eql .slice (.sl o off n c) .nils=some (.bool false):=rfl
theorem zOn (o off n:Nat) (c:Cap):abin .eql .slice .nils (.sl o off n c)=some (.bool false):=rfl
theorem zNL:abin .neq .slice .nils .nils=some (.bool false):=rfl
theorem zNH (o off n:Nat) (c:Cap):abin .neq .slice (.sl o off n c) .nils=some (.bool true):=rfl
theorem zNK (o off n:Nat) (c:Cap):abin .neq .slice .nils (.sl o off n c)=some (.bool true):=rfl
theorem zNG (op:BinOp) (ek:EqK) (a b:List UInt8):abin op ek (.str a) (.str b)=astr op a b:=by cases op<;>rfl
theorem zOk (k:IntKind) (n:Int):aun .neg (.int k n)=some (.int k (k.wrap (0-n))):=rfl
theorem zOj (b:Bool):aun .not (.bool b)=some (.bool !b):=rfl
theorem zJ2 (a b:AV):aPick (.bool true) a b=some a:=rfl
theorem zIO (a b:AV):aPick (.bool false) a b=some b:=rfl
theorem zLi (k k':IntKind) (n:Int):aConv k (.int k' n)=some (.int k (k.wrap n)):=rfl
theorem zNU (o i:Nat):aNil (.ptr o i)=some (.ptr o i):=rfl
theorem zNV (f:FuncId) (a b:List AV):aNil (.clo f a b)=some (.clo f a b):=rfl
theorem zJ4 (n off:Nat) (cs:List AV):ZF true n off (.agg cs)=some (.agg ((cs.drop off).take n)):=rfl
theorem zJ3 (n off:Nat) (cs:List AV):ZF false n off (.agg cs)=cs[off]?:=rfl
theorem zFK (off o i:Nat):qa off (.ptr o i)=some (.ptr o (i+off)):=rfl
theorem zLh (sz o off len:Nat) (c:Cap) (k:IntKind) (n:Int):qx sz (.sl o off len c) (.int k n)=if 0≤n∧n<len then some (.ptr o (off+n.toNat*sz))else none:=rfl
theorem zAh {sz o off len:Nat} {c:Cap} {k:IntKind} {n:Nat} (hn:n<len):qx sz (.sl o off len c) (.int k n)=some (.ptr o (off+n*sz)):=by
 rw [zLh,if_pos ⟨by omega,by omega⟩,Int.toNat_natCast]
theorem zHN (vs:List AV) (i:Nat):qi (.tup vs) i=vs[i]?:=rfl
theorem zOp (o off n:Nat) (c:Cap):aLen (.sl o off n c)=some (.int .i64 n):=rfl
theorem zLg:aLen .nils=some (.int .i64 0):=rfl
theorem zIQ (s:List UInt8):ZB (.str s)=some (.int .i64 s.length):=rfl
theorem zIP (mx:Bool) (k:IntKind) (a b:Int):qm mx (.int k a) (.int k b)=some (.int k (if mx=true then max a b else min a b)):=by simp [qm]
theorem qL (n o i:Nat):ldv false n (.ptr o i) h=h.rd1 o i:=rfl
theorem qM (n o i:Nat):ldv true n (.ptr o i) h=(h.rd o i n).map .agg:=rfl
theorem zq:h.news []=h:=rfl
theorem zW (z:List AV) (zs:List (List AV)):h.news (z::zs)=(h.new ⟨true,z⟩).news zs:=rfl
theorem zf (recs:List Rec):RecOK [] recs h=True:=by
 apply propext;exact⟨fun _=>trivial,fun _=>QZ.2 fun r _ hc=>by simp at hc⟩
theorem zS (c:List Nat):RecOK c [] h=True:=rfl
theorem zT (c:List Nat) (i:Nat) (a:Bool) (n:Nat) (x v:AV) (rs:List Rec):RecOK c (⟨i,a,n,x,v⟩::rs) h=((if c.contains i=true then ldv a n x h=some v else True)∧RecOK c rs h):=rfl
theorem zKI:rvals [] e h=some []:=rfl
theorem zKH (t:Nat) (r:List IRes):rvals (.tmp t::r) e h=(rvals r e h).map fun vs=>e t::vs:=rfl
theorem zIw (t:Nat) (a:Bool) (n:Nat) (r:List IRes):rvals (.cell t a n::r) e h=(ldv a n (e t) h).bind fun v=>(rvals r e h).map fun vs=>v::vs:=rfl
theorem zHV (res:List IRes):retQ res KA .normal e h=optK (rvals res e h) fun vs=>KA (packR vs) h:=rfl
theorem zLz (res:List IRes):retQ res KA .ret e h=optK (rvals res e h) fun vs=>KA (packR vs) h:=rfl
theorem zKt (v:AV):packR [v]=v:=rfl
theorem zKu:packR []=.tup []:=rfl
theorem zKs (u v:AV) (r:List AV):packR (u::v::r)=.tup (u::v::r):=rfl
end
end Go.Ab
