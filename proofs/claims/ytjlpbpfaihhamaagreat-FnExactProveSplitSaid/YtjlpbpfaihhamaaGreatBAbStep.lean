/- THE RULES BY WHICH ABSTRACT CODE IS WALKED: each an equation by 'rfl'. -/
import Derived.Test.YtjlpbpfaihhamaaGreatBAbCode
set_option linter.unusedVariables false
namespace Go.Ab
def condK (v:AV) (a b:Prop):Prop:=
 match v with
 | .bool t=>if t=true then a else b
 | _=>False
def zDR (v:AV) (b:Bool) (x y:Prop):Prop:=
 match v with
 | .bool c=>if c=b then x else y
 | .tup []=>y
 | _=>False
def zIT (v:AV) (b:Bool) (x:Option AV):Option AV:=
 match v with
 | .bool c=>if c=b then x else some (.tup [])
 | .tup []=>some (.tup [])
 | _=>none
section
variable {P:Program} {Q:Exit→Env→AHeap→Prop} {e:Env} {h:AHeap} {K:Env→AHeap→Prop} {KA:AV→AHeap→Prop} {nb:Nat}
theorem zPk:vc P .skip Q e h=Q .normal e h:=rfl
theorem zLj (S:List Nat) (its:List II):vc P (.region S its) Q e h=RV P its e h fun e' h'=>Q .normal (Env.mk S (S.map e')) h':=rfl
theorem zPm (S:List Nat) (zs:List (List AV)) (its:List DI):vc P (.draw S zs its) Q e h=DV P h.next its [] e (h.news zs) fun e' h'=>Q .normal (Env.mk S (S.map e')) h':=rfl
theorem zRF (a b:IC):vc P (.seq a b) Q e h=vc P a (fun x e' h'=>match x with | .normal=>vc P b Q e' h' | x=>Q x e' h') e h:=rfl
theorem zPn (c:IX) (a b:IC):vc P (.cond c a b) Q e h=condK (c.ev e) (vc P a Q e h) (vc P b Q e h):=rfl
theorem zNk (id:Nat) (c:IC):vc P (.block id c) Q e h=vc P c (fun x e' h'=>match x with | .exit id'=>if id'=id then Q .normal e' h' else Q (.exit id') e' h' | x=>Q x e' h') e h:=rfl
theorem zPl (id:Nat):vc P (.exit id) Q e h=Q (.exit id) e h:=rfl
theorem zRG:vc P .ret Q e h=Q .ret e h:=rfl
theorem Q0 {S:List Nat} {c:IC} (I:Nat→List AV→AHeap→Prop) (n:Nat) (h0:I n (S.map e) h)
  (round:∀n vs h,I n vs h→vc P c (fun x e' h'=>match x with | .normal=>∃n',n'<n∧I n' (S.map e') h' | x=>Q x e' h') (Env.mk S vs) h):vc P (.loop S c) Q e h:=⟨I,⟨n,h0⟩,round⟩
theorem zR4:RV P [] e h K=K e h:=rfl
theorem RV_q (d:Option Nat) (op:IOp) (g:Option (Nat×Bool)) (r:List II):RV P (⟨d,op,true,g⟩::r) e h K=optK (gq 0 ⟨d,op,true,g⟩ e h) fun v=>RV P r (e.put d v) h K:=rfl
theorem RV_e (d:Option Nat) (op:IOp) (g:Option (Nat×Bool)) (r:List II):RV P (⟨d,op,false,g⟩::r) e h K=ge P ⟨d,op,false,g⟩ e h fun v h'=>RV P r (e.put d v) h' K:=rfl
theorem zR5 (recs:List Rec):DV P nb [] recs e h K=K e h:=rfl
theorem DV_q (d:Option Nat) (op:IOp) (g:Option (Nat×Bool)) (i:Nat) (c:List Nat) (r:List DI) (recs:List Rec):
  DV P nb (⟨⟨d,op,true,g⟩,i,c⟩::r) recs e h K=optK (gq nb ⟨d,op,true,g⟩ e h) fun v=>DV P nb r (recOf ⟨⟨d,op,true,g⟩,i,c⟩ e v++recs) (e.put d v) h K:=rfl
theorem DV_e (d:Option Nat) (op:IOp) (g:Option (Nat×Bool)) (i:Nat) (c:List Nat) (r:List DI) (recs:List Rec):
  DV P nb (⟨⟨d,op,false,g⟩,i,c⟩::r) recs e h K=ge P ⟨d,op,false,g⟩ e h fun v h'=>RecOK c recs h'∧DV P nb r recs (e.put d v) h' K:=rfl
theorem zQe (d:Option Nat) (op:IOp) (q:Bool):gq nb ⟨d,op,q,none⟩ e h=qv nb op e h:=rfl
theorem zQd (d:Option Nat) (op:IOp) (q:Bool) (t:Nat) (b:Bool):gq nb ⟨d,op,q,some (t,b)⟩ e h=zIT (e t) b (qv nb op e h):=rfl
theorem zQh (d:Option Nat) (op:IOp) (q:Bool):ge P ⟨d,op,q,none⟩ e h KA=eff P op e h KA:=rfl
theorem zQg (d:Option Nat) (op:IOp) (q:Bool) (t:Nat) (b:Bool):ge P ⟨d,op,q,some (t,b)⟩ e h KA=zDR (e t) b (eff P op e h KA) (KA (.tup []) h):=rfl
theorem zLV (a b:Prop):condK (.bool true) a b=a:=rfl
theorem zJs (a b:Prop):condK (.bool false) a b=b:=rfl
theorem zNO (c:Prop) [Decidable c] (a b:Prop):condK (.bool (decide c)) a b=if c then a else b:=by
 by_cases x:c<;>simp [condK,x]
theorem zLW (c:Prop) [Decidable c] (a b:Prop):condK (.bool (!decide c)) a b=if c then b else a:=by
 by_cases x:c<;>simp [condK,x]
theorem zJo (c b:Bool) (x y:Prop):zDR (.bool c) b x y=if c=b then x else y:=rfl
theorem zJm (c b:Bool) (x:Option AV):zIT (.bool c) b x=if c=b then x else some (.tup []):=rfl
theorem zJl (b:Bool) (x:Option AV):zIT (.tup []) b x=some (.tup []):=rfl
theorem zJn (b:Bool) (x y:Prop):zDR (.tup []) b x y=y:=rfl
-- what is read
theorem ev_t (n:Nat):(IX.t n).ev e=e n:=rfl
theorem ev_c (v:AV):(IX.c v).ev e=v:=rfl
theorem zQU (s:Nat) (S:List Nat) (v:AV) (vs:List AV) (t:Nat):Env.mk (s::S) (v::vs) t=if t=s then v else Env.mk S vs t:=rfl
theorem zN6 (d:Nat) (v:AV) (t:Nat):e.put (some d) v t=if t=d then v else e t:=rfl
theorem zN7 (v:AV):e.put none v=e:=rfl
-- the operations
theorem qv_mv (x:IX):qv nb (.mv x) e h=some (x.ev e):=rfl
theorem zPx (c a b:IX):qv nb (.pick c a b) e h=aPick (c.ev e) (a.ev e) (b.ev e):=rfl
theorem zRS (op:BinOp) (ek:EqK) (x y:IX):qv nb (.bin op ek x y) e h=abin op ek (x.ev e) (y.ev e):=rfl
theorem qv_un (op:UnOp) (x:IX):qv nb (.un op x) e h=aun op (x.ev e):=rfl
theorem zPz (k:IntKind) (x:IX):qv nb (.conv k x) e h=aConv k (x.ev e):=rfl
theorem zI9 (x:IX):qv nb (.nilCheck x) e h=aNil (x.ev e):=rfl
theorem zN2 (z:List AV) (ps:List (Nat×Nat×IX)):qv nb (.build z ps) e h=(afill z (ps.map fun p=>(p.1,p.2.1,p.2.2.ev e))).map .agg:=rfl
theorem zN0 (a:Bool) (n off:Nat) (x:IX):qv nb (.field a n off x) e h=ZN a n off (x.ev e):=rfl
theorem zHj (off:Nat) (x:IX):qv nb (.fieldAddr off x) e h=qg off (x.ev e):=rfl
theorem zHi (sz:Nat) (x i:IX):qv nb (.indexAddr sz x i) e h=q8 sz (x.ev e) (i.ev e):=rfl
theorem zJB (x i:IX):qv nb (.indexStr x i) e h=ZM (x.ev e) (i.ev e):=rfl
theorem zKc (x:IX) (i:Nat):qv nb (.extract x i) e h=qx (x.ev e) i:=rfl
theorem zRQ (x:IX):qv nb (.len x) e h=aLen (x.ev e):=rfl
theorem zL1 (x:IX):qv nb (.lenStr x) e h=ZL (x.ev e):=rfl
theorem zRR (x:IX):qv nb (.cap x) e h=aCap (x.ev e):=rfl
theorem zNz (sz:Nat) (x:IX) (lo hi mx:Option IX):qv nb (.slice sz x lo hi mx) e h=QP sz (x.ev e) (lo.map (·.ev e)) (hi.map (·.ev e)) (mx.map (·.ev e)):=rfl
theorem zI8 (x:IX) (lo hi:Option IX):qv nb (.sliceStr x lo hi) e h=zAo (x.ev e) (lo.map (·.ev e)) (hi.map (·.ev e)):=rfl
theorem zL0 (mx:Bool) (x y:IX):qv nb (.maxmin mx x y) e h=q9 mx (x.ev e) (y.ev e):=rfl
theorem zJA (f:FuncId) (a b:List IX):qv nb (.makeFunc f a b) e h=some (.clo f (a.map (·.ev e)) (b.map (·.ev e))):=rfl
theorem zPy (a:Bool) (n:Nat) (x:IX):qv nb (.load a n x) e h=ldv a n (x.ev e) h:=rfl
theorem zRP (k:Nat):qv nb (.rev k) e h=some (.ptr (nb+k) 0):=rfl
theorem zNK (z:List AV):eff P (.alloc z) e h KA=KA (.ptr h.next 0) (h.new ⟨true,z⟩):=rfl
theorem zQp (x:IX):eff P (.box x) e h KA=((x.ev e).cells.all AV.one=true∧KA (.ptr h.next 0) (h.new ⟨true,(x.ev e).cells⟩)):=rfl
theorem zJr (sz len:Nat) (z:List AV) (ps:List (Nat×Nat×IX)):eff P (.buildSl sz len z ps) e h KA=optK (afill (zeros z len) (ps.map fun p=>(p.1,p.2.1,p.2.2.ev e))) fun cs=>KA (.sl h.next 0 len (.known len)) (h.new ⟨true,cs⟩):=rfl
def zF3 (n:Nat) (x v:AV) (h:AHeap) (KA:AV→AHeap→Prop):Prop:=
 match x with
 | .ptr o i=>v.cells.length=n∧optK (h.wr o i v.cells) fun h'=>KA .undef h'
 | _=>False
theorem zNH (n:Nat) (x v:IX):eff P (.store n x v) e h KA=zF3 n (x.ev e) (v.ev e) h KA:=rfl
theorem zLb (n o i:Nat) (v:AV):zF3 n (.ptr o i) v h KA=(v.cells.length=n∧optK (h.wr o i v.cells) fun h'=>KA .undef h'):=rfl
def aMake (sz bytes:Nat) (z:List AV) (l c:AV) (h:AHeap) (KA:AV→AHeap→Prop):Prop:=
 match l,c with
 | .int _ l,.int _ c=>(0≤l∧l≤c∧c*bytes≤140737488355328∧c≤9223372036854775807)∧KA (.sl h.next 0 l.toNat (.known c.toNat)) (h.new ⟨true,zeros z c.toNat⟩)
 | _,_=>False
theorem zLO (sz bytes:Nat) (z:List AV) (l c:IX):eff P (.makeSl sz bytes z l c) e h KA=aMake sz bytes z (l.ev e) (c.ev e) h KA:=rfl
theorem zNc (sz bytes:Nat) (z:List AV) (k k':IntKind) (l c:Int):aMake sz bytes z (.int k l) (.int k' c) h KA =
  ((0≤l∧l≤c∧c*bytes≤140737488355328∧c≤9223372036854775807)∧KA (.sl h.next 0 l.toNat (.known c.toNat)) (h.new ⟨true,zeros z c.toNat⟩)):=rfl
theorem zLP (sz bytes:Nat) (s x:IX):eff P (.append sz bytes s x) e h KA=optK (zA9 sz bytes h (s.ev e) (x.ev e)) fun p=>KA p.1 p.2:=rfl
theorem zO8 (sz:Nat) (d s:IX):eff P (.copy sz d s) e h KA=optK (acopy sz h (d.ev e) (s.ev e)) fun p=>KA p.1 p.2:=rfl
theorem zO9 (f:FuncId) (args:List IX):eff P (.call f args) e h KA=qj P f (args.map (·.ev e)) h KA:=rfl
def zF4 (P:Program) (f:AV) (args:List AV) (h:AHeap) (KA:AV→AHeap→Prop):Prop:=
 match f with
 | .clo f first caps=>okF P f=true∧qj P f (first++args++caps) h KA
 | _=>False
theorem zNJ (f:IX) (args:List IX):eff P (.callV f args) e h KA=zF4 P (f.ev e) (args.map (·.ev e)) h KA:=rfl
theorem zLf (f:FuncId) (a b args:List AV):zF4 P (.clo f a b) args h KA=(okF P f=true∧qj P f (a++args++b) h KA):=rfl
theorem zPT (k:IntKind) (ek:EqK) (a b:Int):abin .add ek (.int k a) (.int k b)=some (.int k (k.wrap (a+b))):=by simp [abin,aint]
theorem zPF (k:IntKind) (ek:EqK) (a b:Int):abin .sub ek (.int k a) (.int k b)=some (.int k (k.wrap (a-b))):=by simp [abin,aint]
theorem zPN (k:IntKind) (ek:EqK) (a b:Int):abin .mul ek (.int k a) (.int k b)=some (.int k (k.wrap (a*b))):=by simp [abin,aint]
theorem zPJ (k:IntKind) (ek:EqK) (a b:Int):abin .quo ek (.int k a) (.int k b)=if b=0 then none else some (.int k (k.wrap (a.tdiv b))):=by simp [abin,aint]
theorem zPI (k:IntKind) (ek:EqK) (a b:Int):abin .rem ek (.int k a) (.int k b)=if b=0 then none else some (.int k (a.tmod b)):=by simp [abin,aint]
theorem zPS (k:IntKind) (ek:EqK) (a b:Int):abin .eql ek (.int k a) (.int k b)=some (.bool (decide (a=b))):=by simp [abin,aint]
theorem zPM (k:IntKind) (ek:EqK) (a b:Int):abin .neq ek (.int k a) (.int k b)=some (.bool (!decide (a=b))):=by simp [abin,aint]
theorem zPO (k:IntKind) (ek:EqK) (a b:Int):abin .lss ek (.int k a) (.int k b)=some (.bool (decide (a<b))):=by simp [abin,aint]
theorem zPP (k:IntKind) (ek:EqK) (a b:Int):abin .leq ek (.int k a) (.int k b)=some (.bool (decide (a≤b))):=by simp [abin,aint]
theorem zPQ (k:IntKind) (ek:EqK) (a b:Int):abin .gtr ek (.int k a) (.int k b)=some (.bool (decide (b<a))):=by simp [abin,aint]
theorem zPR (k:IntKind) (ek:EqK) (a b:Int):abin .geq ek (.int k a) (.int k b)=some (.bool (decide (b≤a))):=by simp [abin,aint]
theorem zNb (a b:Bool):abin .eql .bool (.bool a) (.bool b)=some (.bool (a == b)):=rfl
theorem zNa (a b:Bool):abin .neq .bool (.bool a) (.bool b)=some (.bool !(a == b)):=rfl
theorem zQz:abin .eql .slice .nils .nils=some (.bool true):=rfl
theorem zQx (o off n:Nat) (c:Cap):abin .eql .slice (.sl o off n c) .nils=some (.bool false):=rfl
theorem zQy (o off n:Nat) (c:Cap):abin .eql .slice .nils (.sl o off n c)=some (.bool false):=rfl
theorem zPL:abin .neq .slice .nils .nils=some (.bool false):=rfl
theorem zPH (o off n:Nat) (c:Cap):abin .neq .slice (.sl o off n c) .nils=some (.bool true):=rfl
theorem zPK (o off n:Nat) (c:Cap):abin .neq .slice .nils (.sl o off n c)=some (.bool true):=rfl
theorem zPG (op:BinOp) (ek:EqK) (a b:List UInt8):abin op ek (.str a) (.str b)=astr op a b:=by cases op<;>rfl
theorem zQv (k:IntKind) (n:Int):aun .neg (.int k n)=some (.int k (k.wrap (0-n))):=rfl
theorem zQu (b:Bool):aun .not (.bool b)=some (.bool !b):=rfl
theorem zLc (a b:AV):aPick (.bool true) a b=some a:=rfl
theorem zJv (a b:AV):aPick (.bool false) a b=some b:=rfl
theorem zNf (k k':IntKind) (n:Int):aConv k (.int k' n)=some (.int k (k.wrap n)):=rfl
theorem zPU (o i:Nat):aNil (.ptr o i)=some (.ptr o i):=rfl
theorem zPV (f:FuncId) (a b:List AV):aNil (.clo f a b)=some (.clo f a b):=rfl
theorem zLe (n off:Nat) (cs:List AV):ZN true n off (.agg cs)=some (.agg ((cs.drop off).take n)):=rfl
theorem zLd (n off:Nat) (cs:List AV):ZN false n off (.agg cs)=cs[off]?:=rfl
theorem zGX (off o i:Nat):qg off (.ptr o i)=some (.ptr o (i+off)):=rfl
theorem zNe (sz o off len:Nat) (c:Cap) (k:IntKind) (n:Int):q8 sz (.sl o off len c) (.int k n)=if 0≤n∧n<len then some (.ptr o (off+n.toNat*sz))else none:=rfl
theorem zCi {sz o off len:Nat} {c:Cap} {k:IntKind} {n:Nat} (hn:n<len):q8 sz (.sl o off len c) (.int k n)=some (.ptr o (off+n*sz)):=by
 rw [zNe,if_pos ⟨by omega,by omega⟩,Int.toNat_natCast]
theorem zIt (vs:List AV) (i:Nat):qx (.tup vs) i=vs[i]?:=rfl
theorem zQ0 (o off n:Nat) (c:Cap):aLen (.sl o off n c)=some (.int .i64 n):=rfl
theorem zNd:aLen .nils=some (.int .i64 0):=rfl
theorem zJx (s:List UInt8):ZL (.str s)=some (.int .i64 s.length):=rfl
theorem zJw (mx:Bool) (k:IntKind) (a b:Int):q9 mx (.int k a) (.int k b)=some (.int k (if mx=true then max a b else min a b)):=by simp [q9]
theorem qQ (n o i:Nat):ldv false n (.ptr o i) h=h.rd1 o i:=rfl
theorem qR (n o i:Nat):ldv true n (.ptr o i) h=(h.rd o i n).map .agg:=rfl
theorem qF:h.news []=h:=rfl
theorem zZ (z:List AV) (zs:List (List AV)):h.news (z::zs)=(h.new ⟨true,z⟩).news zs:=rfl
theorem zm (recs:List Rec):RecOK [] recs h=True:=by
 apply propext;exact⟨fun _=>trivial,fun _=>Q8.2 fun r _ hc=>by simp at hc⟩
theorem zV (c:List Nat):RecOK c [] h=True:=rfl
theorem zW (c:List Nat) (i:Nat) (a:Bool) (n:Nat) (x v:AV) (rs:List Rec):RecOK c (⟨i,a,n,x,v⟩::rs) h=((if c.contains i=true then ldv a n x h=some v else True)∧RecOK c rs h):=rfl
theorem zLq:rvals [] e h=some []:=rfl
theorem zLp (t:Nat) (r:List IRes):rvals (.tmp t::r) e h=(rvals r e h).map fun vs=>e t::vs:=rfl
theorem zKT (t:Nat) (a:Bool) (n:Nat) (r:List IRes):rvals (.cell t a n::r) e h=(ldv a n (e t) h).bind fun v=>(rvals r e h).map fun vs=>v::vs:=rfl
theorem zI2 (res:List IRes):retQ res KA .normal e h=optK (rvals res e h) fun vs=>KA (packR vs) h:=rfl
theorem zNw (res:List IRes):retQ res KA .ret e h=optK (rvals res e h) fun vs=>KA (packR vs) h:=rfl
theorem zMU (v:AV):packR [v]=v:=rfl
theorem zMV:packR []=.tup []:=rfl
theorem zMT (u v:AV) (r:List AV):packR (u::v::r)=.tup (u::v::r):=rfl
end
end Go.Ab
