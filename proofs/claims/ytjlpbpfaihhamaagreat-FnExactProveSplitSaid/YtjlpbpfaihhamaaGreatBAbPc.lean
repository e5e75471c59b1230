/- WHOLE FUNCTIONS over values without a heap: what is to be shown ('vp'), and that this is enough. -/
import Derived.Test.YtjlpbpfaihhamaaGreatBAbPf
set_option maxRecDepth 100000
set_option linter.unusedVariables false
set_option linter.unusedSimpArgs false
namespace Go.Ab
variable {P:Program} {ι ι':Nat→Nat} {Z Z':Nat→Prop} {h h':AHeap} {σ σ':PHeap} {n n':Nat}
def Q5 (v:PV) (b:Bool) (x:Option PV):Option PV:=
 match v with
 | .bool c=>if c=b then x else some (.tup [])
 | .tup []=>some (.tup [])
 | _=>none
def Za (v:PV) (b:Bool) (x y:Prop):Prop:=
 match v with
 | .bool c=>if c=b then x else y
 | .tup []=>y
 | _=>False
def Zq (v:PV) (a b:Prop):Prop:=
 match v with
 | .bool t=>if t=true then a else b
 | _=>False
def gqp (nb nr:Nat) (it:II) (e:PEnv) (σ:PHeap):Option PV:=
 match it.guard with
 | none=>qp nb nr it.op e σ
 | some (t,b)=>Q5 (e t) b (qp nb nr it.op e σ)
def gep (P:Program) (it:II) (e:PEnv) (σ:PHeap) (K:PV→PHeap→Prop):Prop:=
 match it.guard with
 | none=>ep P it.op e σ K
 | some (t,b)=>Za (e t) b (ep P it.op e σ K) (K (.tup []) σ)
def RVp (P:Program):List II→PEnv→PHeap→(PEnv→PHeap→Prop)→Prop
 | [],e,h,K=>K e h
 | it::r,e,h,K=>match it.q with
  | true=>optK (gqp 0 0 it e h) fun v=>RVp P r (e.put it.dst v) h K
  | false=>gep P it e h fun v h'=>RVp P r (e.put it.dst v) h' K
structure RecP where
 idx:Nat
 agg:Bool
 n:Nat
 x:PV
 v:PV
def zA3 (g:Option (Nat×Bool)) (e:PEnv):Bool:=
 match g with
 | none=>true
 | some (t,b)=>match e t with
  | .bool c=>decide (c=b)
  | _=>false
def qU (it:DI) (e:PEnv) (v:PV):List RecP:=
 match it.op with
 | .load agg n x=>if zA3 it.guard e=true then [⟨it.idx,agg,n,x.pv e,v⟩]else []
 | _=>[]
def Zg (chk:List Nat):List RecP→PHeap→Prop
 | [],_=>True
 | r::rs,h=>(if chk.contains r.idx=true then pldv r.agg r.n r.x h=some r.v else True)∧Zg chk rs h
def DVp (P:Program) (nb nr:Nat):List DI→List RecP→PEnv→PHeap→(PEnv→PHeap→Prop)→Prop
 | [],_,e,h,K=>K e h
 | it::r,recs,e,h,K=>match it.q with
  | true=>optK (gqp nb nr it.toII e h) fun v=>DVp P nb nr r (qU it e v++recs) (e.put it.dst v) h K
  | false=>gep P it.toII e h fun v h'=>Zg it.chk recs h'∧DVp P nb nr r recs (e.put it.dst v) h' K
def TVp (P:Program):OT→List RecP→PEnv→PHeap→(PEnv→PHeap→Prop)→Prop
 | .done,_,e,h,K=>K e h
 | .none,_,_,_,_=>True
 | .q it nx,recs,e,h,K=>optK (gqp 0 0 it.toII e h) fun v=>TVp P nx (qU it e v++recs) (e.put it.dst v) h K
 | .e it nx alt,recs,e,h,K=>(gep P it.toII e h fun v h'=>Zg it.chk recs h'∧TVp P nx recs (e.put it.dst v) h' K)∧TVp P alt recs e h K
def vp (P:Program):IC→(Exit→PEnv→PHeap→Prop)→PEnv→PHeap→Prop
 | .skip,Q,e,h=>Q .normal e h
 | .region S its,Q,e,h=>RVp P its e h fun e' h'=>Q .normal (PEnv.mk S (S.map e')) h'
 | .draw S zs its,Q,e,h=>DVp P h.next zs.length its [] e (h.news zs) fun e' h'=>Q .normal (PEnv.mk S (S.map e')) h'
 | .tree S t,Q,e,h=>TVp P t [] e h fun e' h'=>Q .normal (PEnv.mk S (S.map e')) h'
 | .seq a b,Q,e,h=>vp P a (fun x e' h'=>match x with | .normal=>vp P b Q e' h' | x=>Q x e' h') e h
 | .cond c a b,Q,e,h=>Zq (c.pv e) (vp P a Q e h) (vp P b Q e h)
 | .block id c,Q,e,h=>vp P c (fun x e' h'=>match x with | .exit id'=>if id'=id then Q .normal e' h' else Q (.exit id') e' h' | x=>Q x e' h') e h
 | .loop S c,Q,e,h=>∃I:Nat→List PV→PHeap→Prop,(∃n,GL (I n) (S.map e) h)∧
   ∀n vs h,I n vs h→vp P c (fun x e' h'=>match x with | .normal=>∃n',n'<n∧GL (I n') (S.map e') h' | x=>Q x e' h') (PEnv.mk S vs) h
 | .exit id,Q,e,h=>Q (.exit id) e h
 | .ret,Q,e,h=>Q .ret e h
def Zi:List IRes→PEnv→PHeap→Option (List PV)
 | [],_,_=>some []
 | .tmp t::r,e,h=>(Zi r e h).map fun vs=>e t::vs
 | .cell t agg n::r,e,h=>(pldv agg n (e t) h).bind fun v=>(Zi r e h).map fun vs=>v::vs
def packP:List PV→PV
 | [v]=>v
 | vs=>.tup vs
def retP (res:List IRes) (Q:PV→PHeap→Prop):Exit→PEnv→PHeap→Prop
 | .normal,e,h=>optK (Zi res e h) fun vs=>Q (packP vs) h
 | .ret,e,h=>optK (Zi res e h) fun vs=>Q (packP vs) h
 | _,_,_=>False
theorem zKH {op:IOp} {e:PEnv} {K K':PV→PHeap→Prop} (hm:∀v h',K v h'→K' v h') (hk:ep P op e σ K):ep P op e σ K':=by
 cases op<;>simp only [ep]at hk ⊢
 case alloc z=>exact hm _ _ hk
 case box x=>exact⟨hk.1,hm _ _ hk.2⟩
 case buildSl a b c ps=>obtain⟨x,y,z⟩:=hk;exact⟨x,y,hm _ _ z⟩
 case store n x v=>
  split at hk
  ·obtain⟨x,y,z,u⟩:=hk;exact⟨x,y,z,hm _ _ u⟩
  ·exact hk
 case makeSl a b z l c=>
  split at hk
  ·exact⟨hk.1,hm _ _ hk.2⟩
  ·exact hk
 case appendMk a b z l c=>
  split at hk
  ·refine⟨hk.1,?_⟩
   have h2:=hk.2
   split at h2
   ·rename_i hp;rw [if_pos hp];exact hm _ _ h2
   ·rename_i hp;rw [if_neg hp];exact hm _ _ h2
  ·obtain⟨x,y,z,u⟩:=hk
   exact⟨x,y,z,hm _ _ u⟩
  ·exact hk
 case append a b s x=>obtain⟨x,y,z⟩:=hk;exact⟨x,y,hm _ _ z⟩
 case copy a d s=>obtain⟨x,y,z⟩:=hk;exact⟨x,y,hm _ _ z⟩
 case call f a=>exact hk.mono hm
 case callV f a=>
  split at hk
  ·exact⟨hk.1,hk.2.mono hm⟩
  ·exact hk
 case makeMap=>exact hm _ _ hk
 case strOf x=>obtain⟨s,hs,hk⟩:=hk;exact⟨s,hs,hm _ _ hk⟩
 case lookup kt z x k=>
  split at hk
  ·obtain⟨x,y,z⟩:=hk;exact⟨x,y,hm _ _ z⟩
  ·exact hk
 case mapUpd kt x k v=>
  split at hk
  ·obtain⟨x,y,z⟩:=hk;exact⟨x,y,hm _ _ z⟩
  ·exact hk
theorem zEx {it:II} {e:PEnv} {K K':PV→PHeap→Prop} (hm:∀v h',K v h'→K' v h') (hk:gep P it e σ K):gep P it e σ K':=by
 obtain⟨dst,op,q,guard⟩:=it;cases guard with
 | none=>exact zKH hm hk
 | some g=>
  obtain⟨t,b⟩:=g;simp only [gep,Za]at hk ⊢
  split at hk
  ·split at hk
   ·rename_i h;rw [if_pos h];exact zKH hm hk
   ·rename_i h;rw [if_neg h];exact hm _ _ hk
  ·exact hm _ _ hk
  ·exact hk
theorem zE9 {K K':PEnv→PHeap→Prop} (hm:∀e h',K e h'→K' e h'):∀(its:List II) {e:PEnv} {σ:PHeap},RVp P its e σ K→RVp P its e σ K'
 | [],e,σ,hk=>hm _ _ hk
 | it::its,e,σ,hk=>by
  simp only [RVp]at hk ⊢
  split at hk
  ·obtain⟨v,hv,hk⟩:=hk;exact⟨v,hv,zE9 hm its hk⟩
  ·exact zEx (fun v h' k=>zE9 hm its k) hk
theorem zCk {K K':PEnv→PHeap→Prop} (hm:∀e h',K e h'→K' e h'):∀(t:OT) {recs:List RecP} {e:PEnv} {σ:PHeap},TVp P t recs e σ K→TVp P t recs e σ K'
 | .done,_,e,σ,hk=>hm _ _ hk
 | .none,_,e,σ,hk=>trivial
 | .q it nx,_,e,σ,hk=>by
  obtain⟨v,hv,hk⟩:=hk;exact⟨v,hv,zCk hm nx hk⟩
 | .e it nx alt,_,e,σ,hk=>⟨zEx (fun v h' k=>⟨k.1,zCk hm nx k.2⟩) hk.1,zCk hm alt hk.2⟩
theorem zFB {nb nr:Nat} {K K':PEnv→PHeap→Prop} (hm:∀e h',K e h'→K' e h'):∀(its:List DI) {recs:List RecP} {e:PEnv} {σ:PHeap},DVp P nb nr its recs e σ K→DVp P nb nr its recs e σ K'
 | [],_,e,σ,hk=>hm _ _ hk
 | it::its,_,e,σ,hk=>by
  simp only [DVp]at hk ⊢
  split at hk
  ·obtain⟨v,hv,hk⟩:=hk;exact⟨v,hv,zFB hm its hk⟩
  ·exact zEx (fun v h' k=>⟨k.1,zFB hm its k.2⟩) hk
theorem Qz:∀(c:IC) {Q Q':Exit→PEnv→PHeap→Prop} {e:PEnv} {σ:PHeap},(∀x e h,Q x e h→Q' x e h)→vp P c Q e σ→vp P c Q' e σ
 | .skip,Q,Q',e,σ,hm,hk=>hm _ _ _ hk
 | .exit id,Q,Q',e,σ,hm,hk=>hm _ _ _ hk
 | .ret,Q,Q',e,σ,hm,hk=>hm _ _ _ hk
 | .region S its,Q,Q',e,σ,hm,hk=>zE9 (fun e h k=>hm _ _ _ k) its hk
 | .tree S t,Q,Q',e,σ,hm,hk=>zCk (fun e h k=>hm _ _ _ k) t hk
 | .draw S zs its,Q,Q',e,σ,hm,hk=>zFB (fun e h k=>hm _ _ _ k) its hk
 | .seq a b,Q,Q',e,σ,hm,hk=>Qz a (fun x e h k=>by cases x<;>first | exact Qz b hm k | exact hm _ _ _ k) hk
 | .cond c a b,Q,Q',e,σ,hm,hk=>by
  simp only [vp,Zq]at hk ⊢
  split at hk
  ·split at hk
   ·rename_i h;rw [if_pos h];exact Qz a hm hk
   ·rename_i h;rw [if_neg h];exact Qz b hm hk
  ·exact hk
 | .block id c,Q,Q',e,σ,hm,hk=>Qz c (fun x e h k=>by
   cases x with
   | exit id'=>
    dsimp only at k ⊢
    split at k
    ·rename_i h;rw [if_pos h];exact hm _ _ _ k
    ·rename_i h;rw [if_neg h];exact hm _ _ _ k
   | _=>exact hm _ _ _ k) hk
 | .loop S c,Q,Q',e,σ,hm,⟨I,h0,hr⟩=>⟨I,h0,fun n vs h hI=>Qz c (fun x e h k=>by cases x<;>first | exact k | exact hm _ _ _ k) (hr n vs h hI)⟩
def Rest (ι:Nat→Nat) (Z:Nat→Prop) (σ:PHeap) (h:AHeap) (K:PEnv→PHeap→Prop) (K1:Env→AHeap→Prop):Prop:=
 ∀(E':PEnv) (σ':PHeap) (ι':Nat→Nat) (Z':Nat→Prop) (h':AHeap),Rel ι' Z' σ' h'→Aft ι Z σ h ι' Z' σ' h'→EOK Z' h' σ'.next E'→K E' σ'→K1 (erE ι' E') h'
theorem Rest.later {σ':PHeap} {K:PEnv→PHeap→Prop} {K1:Env→AHeap→Prop} (c:Rest ι Z σ h K K1) (a:Aft ι Z σ h ι' Z' σ' h'):Rest ι' Z' σ' h' K K1:=
 fun E'' σ'' ι'' Z'' h'' r b e k=>c E'' σ'' ι'' Z'' h'' r (a.trans b) e k
theorem zBm (r:Rel ι Z σ h) {E:PEnv} (he:EOK Z h σ.next E) {nb nr nb1:Nat} (hrev:RevOK ι σ nb nr nb1) {it:II} {v:PV} (hv:gqp nb nr it E σ=some v):
  gq nb1 it (erE ι E) h=some (er ι v)∧VOK Z h σ.next v:=by
 obtain⟨dst,op,q,guard⟩:=it;cases guard with
 | none=>exact zHk r he hrev hv
 | some g=>
  obtain⟨t,b⟩:=g;simp only [gqp,gq,erE]at hv ⊢
  cases ht:E t with
  | bool c=>
   rw [ht]at hv
   simp only [Q5]at hv
   simp only [er]
   split at hv
   ·rename_i hc;rw [if_pos hc];exact zHk r he hrev hv
   ·rename_i hc;rw [if_neg hc];cases hv;exact⟨rfl,trivial⟩
  | tup cs=>
   rw [ht]at hv
   cases cs with
   | nil=>cases hv;exact⟨rfl,trivial⟩
   | cons x cs=>simp only [Q5,reduceCtorEq]at hv
  | _=>rw [ht]at hv;simp only [Q5,reduceCtorEq]at hv
theorem zDS (r:Rel ι Z σ h) {E:PEnv} (he:EOK Z h σ.next E) {it:II} {K:PV→PHeap→Prop} (hk:gep P it E σ K):ge P it (erE ι E) h (Up ι Z σ h K):=by
 obtain⟨dst,op,q,guard⟩:=it;cases guard with
 | none=>exact zE3 r he hk
 | some g=>
  obtain⟨t,b⟩:=g;simp only [gep,ge,erE]at hk ⊢
  cases ht:E t with
  | bool c=>
   rw [ht]at hk
   simp only [Za]at hk
   simp only [er]
   split at hk
   ·rename_i hc;rw [if_pos hc];exact zE3 r he hk
   ·rename_i hc;rw [if_neg hc];exact⟨.tup [],σ,ι,Z,r,Aft.refl r,trivial,rfl,hk⟩
  | tup cs=>
   rw [ht]at hk
   cases cs with
   | nil=>exact⟨.tup [],σ,ι,Z,r,Aft.refl r,trivial,rfl,hk⟩
   | cons x cs=>simp only [Za]at hk
  | _=>rw [ht]at hk;simp only [Za]at hk
theorem zDf:∀(its:List II) {ι:Nat→Nat} {Z:Nat→Prop} {σ:PHeap} {h:AHeap} {E:PEnv} {K:PEnv→PHeap→Prop} {K1:Env→AHeap→Prop},Rel ι Z σ h→EOK Z h σ.next E→RVp P its E σ K→Rest ι Z σ h K K1→RV P its (erE ι E) h K1
 | [],ι,Z,σ,h,E,K,K1,r,he,hk,hr=>hr E σ ι Z h r (Aft.refl r) he hk
 | it::its,ι,Z,σ,h,E,K,K1,r,he,hk,hr=>by
  simp only [RVp,RV]at hk ⊢
  split at hk
  ·rename_i hq
   simp only [hq];obtain⟨v,hv,hk⟩:=hk;obtain⟨h1,h2⟩:=zBm r he (nb1:=0) (fun k hk=>absurd hk (Nat.not_lt_zero _)) hv
   refine⟨_,h1,?_⟩
   have:=zDf its r (he.put h2 it.dst) hk hr
   rw [Q7]at this
   exact this
  ·rename_i hq
   simp only [hq];refine zAa ?_ (zDS r he hk)
   rintro v h' ⟨pv,σ',ι',Z',r',a',hv,rfl,hk'⟩
   have:=zDf its r' ((a'.eok he).put hv it.dst) hk' (hr.later a')
   rw [Q7,a'.erE he]at this
   exact this
def erR (ι:Nat→Nat) (r:RecP):Rec:=⟨r.idx,r.agg,r.n,er ι r.x,er ι r.v⟩
def ROK (Z:Nat→Prop) (h:AHeap) (n:Nat) (rs:List RecP):Prop:=∀r∈rs,VOK Z h n r.x∧VOK Z h n r.v
theorem Aft.rok {rs:List RecP} (a:Aft ι Z σ h ι' Z' σ' h') (hr:ROK Z h σ.next rs):ROK Z' h' σ'.next rs:=fun r hm=>⟨a.vok (hr r hm).1,a.vok (hr r hm).2⟩
theorem Aft.erR {rs:List RecP} (a:Aft ι Z σ h ι' Z' σ' h') (hr:ROK Z h σ.next rs):rs.map (Go.Ab.erR ι')=rs.map (Go.Ab.erR ι):=
 List.map_congr_left fun r hm=>by simp only [Go.Ab.erR];rw [a.er (hr r hm).1,a.er (hr r hm).2]
theorem zEH {E:PEnv} {it:DI} {v:PV} {nb nr:Nat} (hv:gqp nb nr it.toII E σ=some v):recOf it (erE ι E) (er ι v)=(qU it E v).map (erR ι):=by
 obtain⟨⟨dst,op,q,guard⟩,idx,chk⟩:=it;have hw:zY guard (erE ι E)=zA3 guard E:=by
  cases guard with
  | none=>rfl
  | some g=>
   obtain⟨t,b⟩:=g;simp only [gqp]at hv
   simp only [zY,zA3,erE];cases ht:E t with
   | bool c=>rfl
   | tup cs=>rfl
   | _=>rw [ht]at hv;simp only [Q5,reduceCtorEq]at hv
 cases op<;>simp only [recOf,qU]<;>try rfl
 rw [hw]
 split
 ·simp only [List.map_cons,List.map_nil,erR,er_pv]
 ·rfl
theorem zGc (r:Rel ι Z σ h) {E:PEnv} (he:EOK Z h σ.next E) {it:DI} {v:PV} (hv:VOK Z h σ.next v):ROK Z h σ.next (qU it E v):=by
 unfold qU
 split
 ·split
  ·intro r hr;simp only [List.mem_singleton]at hr;subst hr;exact⟨he.pv _,hv⟩
  ·intro r hr;simp at hr
 ·intro r hr;simp at hr
theorem zBa (r:Rel ι Z σ h) {chk:List Nat}:∀{rs:List RecP},ROK Z h σ.next rs→Zg chk rs σ→RecOK chk (rs.map (erR ι)) h
 | [],_,_=>trivial
 | x::rs,hr,hk=>by
  simp only [List.map_cons,Zg,RecOK]at hk ⊢
  refine⟨?_,zBa r (fun y hy=>hr y (by simp [hy])) hk.2⟩
  have h1:=hk.1
  by_cases hc:chk.contains x.idx=true
  ·rw [if_pos hc]at h1
   rw [if_pos (show chk.contains (erR ι x).idx=true from hc)]
   exact(zCR r (hr x (by simp)).1 h1).1
  ·rw [if_neg (show ¬chk.contains (erR ι x).idx=true from hc)];trivial
theorem RevOK.later {nb nr nb1:Nat} (hv:RevOK ι σ nb nr nb1) (a:Aft ι Z σ h ι' Z' σ' h'):RevOK ι' σ' nb nr nb1:=
 fun k hk=>⟨Nat.lt_of_lt_of_le (hv k hk).1 a.next,by rw [a.inj _ (hv k hk).1];exact(hv k hk).2⟩
theorem zDi {nb nr nb1:Nat}:∀(its:List DI) {recs:List RecP} {ι:Nat→Nat} {Z:Nat→Prop} {σ:PHeap} {h:AHeap} {E:PEnv} {K:PEnv→PHeap→Prop} {K1:Env→AHeap→Prop},RevOK ι σ nb nr nb1→Rel ι Z σ h→EOK Z h σ.next E→ROK Z h σ.next recs→
  DVp P nb nr its recs E σ K→Rest ι Z σ h K K1→DV P nb1 its (recs.map (erR ι)) (erE ι E) h K1
 | [],recs,ι,Z,σ,h,E,K,K1,hv,r,he,hro,hk,hr=>hr E σ ι Z h r (Aft.refl r) he hk
 | it::its,recs,ι,Z,σ,h,E,K,K1,hv,r,he,hro,hk,hr=>by
  simp only [DVp,DV]at hk ⊢
  split at hk
  ·rename_i hq
   simp only [hq];obtain⟨v,hvv,hk⟩:=hk;obtain⟨h1,h2⟩:=zBm r he hv hvv;refine⟨_,h1,?_⟩
   have:=zDi its hv r (he.put h2 it.dst) (recs:=qU it E v++recs) (fun x hx=>(List.mem_append.1 hx).elim (fun hx=>zGc r he h2 x hx) (fun hx=>hro x hx)) hk hr
   rw [Q7,List.map_append,←zEH hvv]at this
   exact this
  ·rename_i hq
   simp only [hq];refine zAa ?_ (zDS r he hk)
   rintro v h' ⟨pv,σ',ι',Z',r',a',hvv,rfl,hk1,hk2⟩
   have h3:=zBa r' (a'.rok hro) hk1;rw [a'.erR hro]at h3
   refine⟨h3,?_⟩
   have:=zDi its (hv.later a') r' ((a'.eok he).put hvv it.dst) (a'.rok hro) hk2 (hr.later a')
   rw [Q7,a'.erE he,a'.erR hro]at this
   exact this
theorem zBp:∀(t:OT) {recs:List RecP} {ι:Nat→Nat} {Z:Nat→Prop} {σ:PHeap} {h:AHeap} {E:PEnv} {K:PEnv→PHeap→Prop} {K1:Env→AHeap→Prop},Rel ι Z σ h→EOK Z h σ.next E→ROK Z h σ.next recs→TVp P t recs E σ K→Rest ι Z σ h K K1→TV P t (recs.map (erR ι)) (erE ι E) h K1
 | .done,_,ι,Z,σ,h,E,K,K1,r,he,hro,hk,hr=>hr E σ ι Z h r (Aft.refl r) he hk
 | .none,_,ι,Z,σ,h,E,K,K1,r,he,hro,hk,hr=>trivial
 | .q it nx,recs,ι,Z,σ,h,E,K,K1,r,he,hro,hk,hr=>by
  obtain⟨v,hvv,hk⟩:=hk;obtain⟨h1,h2⟩:=zBm r he (nb1:=0) (fun k hk=>absurd hk (Nat.not_lt_zero _)) hvv
  refine⟨_,h1,?_⟩
  have:=zBp nx r (he.put h2 it.dst) (recs:=qU it E v++recs) (fun x hx=>(List.mem_append.1 hx).elim (fun hx=>zGc r he h2 x hx) (fun hx=>hro x hx)) hk hr
  rw [Q7,List.map_append,←zEH hvv]at this
  exact this
 | .e it nx alt,recs,ι,Z,σ,h,E,K,K1,r,he,hro,hk,hr=>by
  refine⟨?_,zBp alt r he hro hk.2 hr⟩;refine zAa ?_ (zDS r he hk.1)
  rintro v h' ⟨pv,σ',ι',Z',r',a',hvv,rfl,hk1,hk2⟩
  have h3:=zBa r' (a'.rok hro) hk1;rw [a'.erR hro]at h3
  refine⟨h3,?_⟩
  have:=zBp nx r' ((a'.eok he).put hvv it.dst) (a'.rok hro) hk2 (hr.later a')
  rw [Q7,a'.erE he,a'.erR hro]at this
  exact this
theorem zH4:∀(zs:List (List AV)) {ι:Nat→Nat} {σ:PHeap} {h:AHeap},Rel ι Z σ h→
  ∃ι',Rel ι' Z (σ.news zs) (h.news zs)∧Aft ι Z σ h ι' Z (σ.news zs) (h.news zs)∧(σ.news zs).next=σ.next+zs.length∧∀k,k<zs.length→ι' (σ.next+k)=h.next+k
 | [],ι,σ,h,r=>⟨ι,r,Aft.refl r,rfl,fun k hk=>absurd hk (Nat.not_lt_zero _)⟩
 | z::zs,ι,σ,h,r=>by
  obtain⟨r1,a1⟩:=r.new (cs:=ofAVs z) (VOKs.ofAVs z);rw [ZX]at r1 a1
  obtain⟨ι',r2,a2,h1,h2⟩:=zH4 zs r1;refine⟨ι',r2,a1.trans a2,?_,fun k hk=>?_⟩
  ·show((σ.new (ofAVs z)).news zs).next=_
   rw [h1];simp only [PHeap.new,List.length_cons];omega
  ·cases k with
   | zero=>
    rw [Nat.add_zero,Nat.add_zero,a2.inj _ (by simp [PHeap.new])]
    simp [putι]
   | succ k=>
    have:=h2 k (by simpa using hk)
    simp only [PHeap.new,AHeap.new]at this
    rw [show σ.next+(k+1)=σ.next+1+k by omega,this];omega
def RestC (ι:Nat→Nat) (Z:Nat→Prop) (σ:PHeap) (h:AHeap) (Q:Exit→PEnv→PHeap→Prop) (Q1:Exit→Env→AHeap→Prop):Prop:=
 ∀(x:Exit) (E':PEnv) (σ':PHeap) (ι':Nat→Nat) (Z':Nat→Prop) (h':AHeap),Rel ι' Z' σ' h'→Aft ι Z σ h ι' Z' σ' h'→EOK Z' h' σ'.next E'→Q x E' σ'→Q1 x (erE ι' E') h'
theorem RestC.later {σ':PHeap} {Q:Exit→PEnv→PHeap→Prop} {Q1:Exit→Env→AHeap→Prop} (c:RestC ι Z σ h Q Q1) (a:Aft ι Z σ h ι' Z' σ' h'):RestC ι' Z' σ' h' Q Q1:=
 fun x E'' σ'' ι'' Z'' h'' r b e k=>c x E'' σ'' ι'' Z'' h'' r (a.trans b) e k
theorem ZZ:∀(c:IC) {ι:Nat→Nat} {Z:Nat→Prop} {σ:PHeap} {h:AHeap} {E:PEnv} {Q:Exit→PEnv→PHeap→Prop} {Q1:Exit→Env→AHeap→Prop},Rel ι Z σ h→EOK Z h σ.next E→vp P c Q E σ→RestC ι Z σ h Q Q1→vc P c Q1 (erE ι E) h
 | .skip,ι,Z,σ,h,E,Q,Q1,r,he,hk,hr=>hr .normal E σ ι Z h r (Aft.refl r) he hk
 | .exit id,ι,Z,σ,h,E,Q,Q1,r,he,hk,hr=>hr (.exit id) E σ ι Z h r (Aft.refl r) he hk
 | .ret,ι,Z,σ,h,E,Q,Q1,r,he,hk,hr=>hr .ret E σ ι Z h r (Aft.refl r) he hk
 | .region S its,ι,Z,σ,h,E,Q,Q1,r,he,hk,hr=>by
  refine zDf its r he hk ?_;intro E' σ' ι' Z' h' r' a' e' k'
  have:=hr .normal _ σ' ι' Z' h' r' a' (EOK.mk (e'.map S)) k'
  rw [zAm,zA8]at this
  exact this
 | .tree S t,ι,Z,σ,h,E,Q,Q1,r,he,hk,hr=>by
  refine zBp t r he (recs:=[]) (fun x hx=>by simp at hx) hk ?_
  intro E' σ' ι' Z' h' r' a' e' k'
  have:=hr .normal _ σ' ι' Z' h' r' a' (EOK.mk (e'.map S)) k'
  rw [zAm,zA8]at this
  exact this
 | .draw S zs its,ι,Z,σ,h,E,Q,Q1,r,he,hk,hr=>by
  obtain⟨ι1,r1,a1,h1,h2⟩:=zH4 zs r
  have:=zDi (nb1:=h.next) (K1:=fun e' h'=>Q1 .normal (Env.mk S (S.map e')) h') its (recs:=[]) (fun k hk=>⟨by rw [h1];omega,h2 k hk⟩) r1 (a1.eok he) (fun x hx=>by simp at hx) hk ?_
  ·rw [a1.erE he]at this
   exact this
  ·intro E' σ' ι' Z' h' r' a' e' k'
   have:=hr .normal _ σ' ι' Z' h' r' (a1.trans a') (EOK.mk (e'.map S)) k'
   rw [zAm,zA8]at this
   exact this
 | .seq a b,ι,Z,σ,h,E,Q,Q1,r,he,hk,hr=>by
  refine ZZ a r he hk ?_;intro x E' σ' ι' Z' h' r' a' e' k';cases x with
  | normal=>exact ZZ b r' e' k' (hr.later a')
  | exit id=>exact hr _ _ _ _ _ _ r' a' e' k'
  | goto l=>exact hr _ _ _ _ _ _ r' a' e' k'
  | ret=>exact hr _ _ _ _ _ _ r' a' e' k'
  | panic ch=>exact hr _ _ _ _ _ _ r' a' e' k'
  | outgrown=>exact hr _ _ _ _ _ _ r' a' e' k'
 | .cond c a b,ι,Z,σ,h,E,Q,Q1,r,he,hk,hr=>by
  simp only [vp,vc,←er_pv]at hk ⊢
  cases hc:c.pv E<;>rw [hc]at hk<;>simp only [Zq]at hk
  simp only [er]
  split at hk
  ·rename_i ht;rw [if_pos ht];exact ZZ a r he hk hr
  ·rename_i ht;rw [if_neg ht];exact ZZ b r he hk hr
 | .block id c,ι,Z,σ,h,E,Q,Q1,r,he,hk,hr=>by
  refine ZZ c r he hk ?_;intro x E' σ' ι' Z' h' r' a' e' k';cases x with
  | exit id'=>
   simp only at k' ⊢
   split at k'
   ·rename_i hc;rw [if_pos hc];exact hr _ _ _ _ _ _ r' a' e' k'
   ·rename_i hc;rw [if_neg hc];exact hr _ _ _ _ _ _ r' a' e' k'
  | normal=>exact hr _ _ _ _ _ _ r' a' e' k'
  | goto l=>exact hr _ _ _ _ _ _ r' a' e' k'
  | ret=>exact hr _ _ _ _ _ _ r' a' e' k'
  | panic ch=>exact hr _ _ _ _ _ _ r' a' e' k'
  | outgrown=>exact hr _ _ _ _ _ _ r' a' e' k'
 | .loop S c,ι,Z,σ,h,E,Q,Q1,r,he,hk,hr=>by
  obtain⟨I,⟨n,h0⟩,hround⟩:=hk;obtain⟨Z0,σ0,vs0,r0,a0,v0,e0,i0⟩:=h0.sound r (he.map S);refine⟨fun n vs h'=>∃ι' Z' σ' pvs,Rel ι' Z' σ' h'∧Aft ι Z σ h ι' Z' σ' h'∧VOKs Z' h' σ'.next pvs∧vs=ers ι' pvs∧I n pvs σ',⟨n,ι,Z0,σ0,vs0,r0,a0,v0,(zA8 E S).symm.trans e0.symm,i0⟩,?_⟩
  rintro n vs h' ⟨ι',Z',σ',pvs,r',a',hv,rfl,hI⟩
  rw [←zAm];refine ZZ c r' (EOK.mk hv) (hround n pvs σ' hI) ?_;intro x E'' σ'' ι'' Z'' h'' r'' a'' e'' k'';cases x with
  | normal=>
   obtain⟨n',hlt,hI'⟩:=k'';obtain⟨Z1,σ1,vs1,r1,a1,v1,e1,i1⟩:=hI'.sound r'' (e''.map S);exact⟨n',hlt,ι'',Z1,σ1,vs1,r1,a'.trans (a''.trans a1),v1,(zA8 E'' S).symm.trans e1.symm,i1⟩
  | exit id=>exact hr _ _ _ _ _ _ r'' (a'.trans a'') e'' k''
  | goto l=>exact hr _ _ _ _ _ _ r'' (a'.trans a'') e'' k''
  | ret=>exact hr _ _ _ _ _ _ r'' (a'.trans a'') e'' k''
  | panic ch=>exact hr _ _ _ _ _ _ r'' (a'.trans a'') e'' k''
  | outgrown=>exact hr _ _ _ _ _ _ r'' (a'.trans a'') e'' k''
theorem zAA (r:Rel ι Z σ h) {E:PEnv} (he:EOK Z h σ.next E):∀{rs:List IRes} {vs:List PV},Zi rs E σ=some vs→rvals rs (erE ι E) h=some (ers ι vs)∧VOKs Z h σ.next vs
 | [],vs,hv=>by cases hv;exact⟨rfl,trivial⟩
 | .tmp t::rs,vs,hv=>by
  simp only [Zi,Option.map_eq_some_iff]at hv
  obtain⟨vs',hv,rfl⟩:=hv;obtain⟨h1,h2⟩:=zAA r he hv;exact⟨by simp only [rvals,h1,Option.map_some,ers,erE],he t,h2⟩
 | .cell t a k::rs,vs,hv=>by
  simp only [Zi,Option.bind_eq_some_iff,Option.map_eq_some_iff]at hv
  obtain⟨v,hl,vs',hv,rfl⟩:=hv;obtain⟨h1,h2⟩:=zAA r he hv;obtain⟨h3,h4⟩:=zCR r (he t) hl;refine⟨?_,h4,h2⟩;simp only [rvals,erE];rw [h3];simp only [Option.bind_some];rw [h1]
  rfl
theorem zEM {vs:List PV} (hv:VOKs Z h n vs):packR (ers ι vs)=er ι (packP vs)∧VOK Z h n (packP vs):=by
 cases vs with
 | nil=>exact⟨rfl,trivial⟩
 | cons v vs=>
  cases vs with
  | nil=>exact⟨rfl,hv.1⟩
  | cons u us=>exact⟨rfl,hv⟩
theorem zC8 (hmix:P.follows .mixedOrders=true) {f:FuncId} {fn:Func} {ifn:IFn} (hf:P.funcs[f]? = some fn) (hc:cF P fn=some ifn) {args:List PV} {K:PV→PHeap→Prop} (hl:args.length=ifn.params.length)
  (hk:vp P ifn.body (retP ifn.res K) (PEnv.mk ifn.params args) σ):zA P f args σ K:=by
 intro ι Z h r va;refine ZV hmix hf hc (by rw [qd];exact hl) ?_
 rw [←zAm];refine ZZ ifn.body r (EOK.mk va) hk ?_;intro x E' σ' ι' Z' h' r' a' e' k';have fin:optK (Zi ifn.res E' σ') (fun vs=>K (packP vs) σ')→optK (rvals ifn.res (erE ι' E') h') fun vs=>Up ι Z σ h K (packR vs) h':=by
  rintro ⟨vs,hv,hk⟩
  obtain⟨h1,h2⟩:=zAA r' e' hv;obtain⟨h3,h4⟩:=zEM (ι:=ι') h2;exact⟨_,h1,packP vs,σ',ι',Z',r',a',h4,h3,hk⟩
 cases x with
 | normal=>exact fin k'
 | ret=>exact fin k'
 | exit id=>exact k'.elim
 | goto l=>exact k'.elim
 | panic ch=>exact k'.elim
 | outgrown=>exact k'.elim
theorem zB {P:Program} (hmix:P.follows .mixedOrders=true) {f:FuncId} {fn:Func} (hf:P.funcs[f]? = some fn) {args:List PV} {K:PV→PHeap→Prop} {σ:PHeap} {p:List Nat} {r:List IRes} {b:IC} (hk:vp P b (retP r K) (PEnv.mk p args) σ) (hc:cF P fn=some ⟨p,r,b⟩:=by conv=>lhs;cbv) (hl:args.length=p.length:=by rfl):zA P f args σ K:=zC8 hmix hf hc hl hk
theorem QA {P:Program} (hmix:P.follows .mixedOrders=true) {f:FuncId} {fn:Func} (hf:P.funcs[f]? = some fn) {args:List PV} {K:PV→PHeap→Prop} {σ:PHeap} {p:List Nat} {r:List IRes} {b:IC} (hk:vp P b (retP r K) (PEnv.mk p args) σ) (hc:cF P fn=some ⟨p,r,b⟩:=by conv=>lhs;reduce) (hl:args.length=p.length:=by rfl):zA P f args σ K:=zC8 hmix hf hc hl hk
end Go.Ab
