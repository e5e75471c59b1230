/- A REGION WHOSE ORDER IS OPEN: one order is walked; what may stand elsewhere in another order is checked to come to the same. -/
import Derived.Test.YtjlpbpfaihhamaaGreatBAbItem
set_option linter.unusedSimpArgs false
set_option linter.unusedVariables false
namespace Go.Ab
open Go.RowKit
structure DI extends II where
 idx:Nat
 chk:List Nat
structure Rec where
 idx:Nat
 agg:Bool
 n:Nat
 x:AV
 v:AV
def zY (g:Option (Nat×Bool)) (e:Env):Bool:=
 match g with
 | none=>true
 | some (t,b)=>match e t with
  | .bool c=>decide (c=b)
  | _=>false
def recOf (it:DI) (e:Env) (v:AV):List Rec:=
 match it.op with
 | .load agg n x=>if zY it.guard e=true then [⟨it.idx,agg,n,x.ev e,v⟩]else []
 | _=>[]
def RecOK (chk:List Nat):List Rec→AHeap→Prop
 | [],_=>True
 | r::rs,h=>(if chk.contains r.idx=true then ldv r.agg r.n r.x h=some r.v else True)∧RecOK chk rs h
def DV (P:Program) (nb:Nat):List DI→List Rec→Env→AHeap→(Env→AHeap→Prop)→Prop
 | [],_,e,h,K=>K e h
 | it::r,recs,e,h,K=>match it.q with
  | true=>optK (gq nb it.toII e h) fun v=>DV P nb r (recOf it e v++recs) (e.put it.dst v) h K
  | false=>ge P it.toII e h fun v h'=>RecOK it.chk recs h'∧DV P nb r recs (e.put it.dst v) h' K
def IX.rd:IX→List Nat
 | .t n=>[n]
 | .c _=>[]
def ixos (x:Option IX):List Nat:=match x with | some x=>x.rd | none=>[]
def ixs (l:List IX):List Nat:=l.flatMap IX.rd
def ixps (l:List (Nat×Nat×IX)):List Nat:=l.flatMap fun p=>p.2.2.rd
def IOp.reads:IOp→List Nat
 | .mv x | .un _ x | .conv _ x | .nilCheck x | .field _ _ _ x | .fieldAddr _ x | .extract x _ | .len x | .lenStr x | .cap x | .load _ _ x | .box x | .strOf x=>x.rd
 | .pick c a b=>c.rd++a.rd++b.rd
 | .bin _ _ x y | .indexAddr _ x y | .indexStr x y | .maxmin _ x y | .store _ x y | .makeSl _ _ _ x y | .appendMk _ _ _ x y | .append _ _ x y | .copy _ x y=>x.rd++y.rd
 | .build _ ps | .buildSl _ _ _ ps=>ixps ps
 | .slice _ x lo hi mx=>x.rd++ixos lo++ixos hi++ixos mx
 | .sliceStr x lo hi=>x.rd++ixos lo++ixos hi
 | .makeFunc _ a b=>ixs a++ixs b
 | .call _ a=>ixs a
 | .callV f a=>f.rd++ixs a
 | .lookup _ _ x k=>x.rd++k.rd
 | .mapUpd _ x k v=>x.rd++k.rd++v.rd
 | .rev _ | .revS _ _ | .alloc _ | .makeMap=>[]
def II.reads (it:II):List Nat:=it.op.reads++(match it.guard with | some (t,_)=>[t] | none=>[])
variable {P:Program} {B:Nat} {w0 w:World} {j:Inj} {h h':AHeap} {nt nb:Nat} {e e':Env} {a:Act} {ops:Array Oper} {Q:Exit→Act→World→Prop}
theorem IX.ev_congr {x:IX} (he:∀t∈x.rd,e t=e' t):x.ev e=x.ev e':=by
 cases x with
 | t n=>exact he n (by simp [IX.rd])
 | c v=>rfl
theorem zAG {x:Option IX} (he:∀t∈ixos x,e t=e' t):x.map (·.ev e)=x.map (·.ev e'):=by
 cases x with
 | none=>rfl
 | some x=>simp [IX.ev_congr (x:=x) he]
theorem zBl {l:List IX} (he:∀t∈ixs l,e t=e' t):l.map (·.ev e)=l.map (·.ev e'):=by
 apply List.map_congr_left;intro x hx;exact IX.ev_congr fun t ht=>he t (List.mem_flatMap.2 ⟨x,hx,ht⟩)
theorem zFk {l:List (Nat×Nat×IX)} (he:∀t∈ixps l,e t=e' t):(l.map fun p=>(p.1,p.2.1,p.2.2.ev e))=l.map fun p=>(p.1,p.2.1,p.2.2.ev e'):=by
 apply List.map_congr_left;intro x hx;rw [IX.ev_congr fun t ht=>he t (List.mem_flatMap.2 ⟨x,hx,ht⟩)]
theorem zN1 {op:IOp} (he:∀t∈op.reads,e t=e' t):qv nb op e h=qv nb op e' h:=by
 cases op<;>simp only [IOp.reads,List.mem_append,or_imp,forall_and]at he<;>simp only [qv]
 case mv x=>rw [IX.ev_congr he]
 case pick c a b=>rw [IX.ev_congr he.1.1,IX.ev_congr he.1.2,IX.ev_congr he.2]
 case bin o k x y=>rw [IX.ev_congr he.1,IX.ev_congr he.2]
 case un o x=>rw [IX.ev_congr he]
 case conv k x=>rw [IX.ev_congr he]
 case nilCheck x=>rw [IX.ev_congr he]
 case build z ps=>rw [zFk he]
 case field a n o x=>rw [IX.ev_congr he]
 case fieldAddr o x=>rw [IX.ev_congr he]
 case indexAddr s x y=>rw [IX.ev_congr he.1,IX.ev_congr he.2]
 case indexStr x y=>rw [IX.ev_congr he.1,IX.ev_congr he.2]
 case extract x i=>rw [IX.ev_congr he]
 case len x=>rw [IX.ev_congr he]
 case lenStr x=>rw [IX.ev_congr he]
 case cap x=>rw [IX.ev_congr he]
 case slice s x lo hi mx=>rw [IX.ev_congr he.1.1.1,zAG he.1.1.2,zAG he.1.2,zAG he.2]
 case sliceStr x lo hi=>rw [IX.ev_congr he.1.1,zAG he.1.2,zAG he.2]
 case maxmin m x y=>rw [IX.ev_congr he.1,IX.ev_congr he.2]
 case makeFunc f a b=>rw [zBl he.1,zBl he.2]
 case load a n x=>rw [IX.ev_congr he]
theorem zNI {op:IOp} (he:∀t∈op.reads,e t=e' t) {K:AV→AHeap→Prop} (hk:eff P op e h K):eff P op e' h K:=by
 cases op<;>simp only [IOp.reads,List.mem_append,or_imp,forall_and]at he<;>simp only [eff]at hk ⊢<;>(try exact hk)
 case box x=>rw [←IX.ev_congr he];exact hk
 case buildSl a b c ps=>rw [←zFk he];exact hk
 case store n x v=>rw [←IX.ev_congr he.1,←IX.ev_congr he.2];exact hk
 case makeSl a b z l c=>rw [←IX.ev_congr he.1,←IX.ev_congr he.2];exact hk
 case appendMk a b z l c=>rw [←IX.ev_congr he.1,←IX.ev_congr he.2];exact hk
 case append a b s x=>rw [←IX.ev_congr he.1,←IX.ev_congr he.2];exact hk
 case copy a d s=>rw [←IX.ev_congr he.1,←IX.ev_congr he.2];exact hk
 case call f a=>rw [←zBl he];exact hk
 case callV f a=>rw [←IX.ev_congr he.1,←zBl he.2];exact hk
 case lookup kt z x k=>rw [←IX.ev_congr he.1,←IX.ev_congr he.2];exact hk
 case strOf x=>rw [←IX.ev_congr he];exact hk
 case mapUpd kt x k v=>rw [←IX.ev_congr he.1.1,←IX.ev_congr he.1.2,←IX.ev_congr he.2];exact hk
theorem zE5 {op:IOp} {K K':AV→AHeap→Prop} (hm:∀v h',K v h'→K' v h') (hk:eff P op e h K):eff P op e h K':=by
 cases op<;>simp only [eff]at hk ⊢
 case alloc z=>exact hm _ _ hk
 case box x=>exact⟨hk.1,hm _ _ hk.2⟩
 case buildSl a b c ps=>obtain⟨x,y,z⟩:=hk;exact⟨x,y,hm _ _ z⟩
 case store n x v=>
  split at hk
  ·obtain⟨x,y,z,u⟩:=hk;exact⟨x,y,z,hm _ _ u⟩
  ·exact hk
 case makeSl a b z l c=>
  split at hk
  ·exact⟨hk.1,hm _ _ hk.2⟩
  ·exact hk
 case appendMk a b z l c=>
  split at hk
  ·refine⟨hk.1,?_⟩
   have h2:=hk.2
   split at h2
   ·rename_i hp;rw [if_pos hp];exact hm _ _ h2
   ·rename_i hp;rw [if_neg hp];exact hm _ _ h2
  ·obtain⟨x,y,z,u⟩:=hk
   exact⟨x,y,z,hm _ _ u⟩
  ·exact hk
 case append a b s x=>obtain⟨x,y,z⟩:=hk;exact⟨x,y,hm _ _ z⟩
 case copy a d s=>obtain⟨x,y,z⟩:=hk;exact⟨x,y,hm _ _ z⟩
 case call f a=>exact hk.mono hm
 case callV f a=>
  split at hk
  ·exact⟨hk.1,hk.2.mono hm⟩
  ·exact hk
 case makeMap=>exact hm _ _ hk
 case strOf x=>obtain⟨s,hs,hk⟩:=hk;exact⟨s,hs,hm _ _ hk⟩
 case lookup kt z x k=>
  split at hk
  ·obtain⟨x,y,z⟩:=hk;exact⟨x,y,hm _ _ z⟩
  ·exact hk
 case mapUpd kt x k v=>
  split at hk
  ·obtain⟨x,y,z⟩:=hk;exact⟨x,y,hm _ _ z⟩
  ·exact hk
theorem II.reads_op {it:II} {t:Nat} (ht:t∈it.op.reads):t∈it.reads:=List.mem_append_left _ ht
theorem II.reads_guard {it:II} {t:Nat} {b:Bool} (hg:it.guard=some (t,b)):t∈it.reads:=by simp [II.reads,hg]
theorem zAY {it:II} (he:∀t∈it.reads,e t=e' t):gq nb it e h=gq nb it e' h:=by
 have h1:=zN1 (nb:=nb) (h:=h) (op:=it.op) fun t ht=>he t (II.reads_op ht)
 unfold gq
 split
 ·exact h1
 ·rename_i t b hg
  rw [he t (II.reads_guard hg)];simp only [h1]
theorem zIV {it:II} (he:∀t∈it.reads,e t=e' t) {K:AV→AHeap→Prop} (hk:ge P it e h K):ge P it e' h K:=by
 have h1:eff P it.op e h K→eff P it.op e' h K:=zNI fun t ht=>he t (II.reads_op ht)
 unfold ge at hk ⊢
 split
 ·rename_i hg;rw [hg]at hk;exact h1 hk
 ·rename_i t b hg
  rw [hg]at hk
  rw [←he t (II.reads_guard hg)];simp only at hk
  split at hk
  ·split at hk
   ·rename_i hcb;rw [if_pos hcb];exact h1 hk
   ·rename_i hcb;rw [if_neg hcb];exact hk
  ·exact hk
  ·exact hk.elim
theorem zAa {it:II} {K K':AV→AHeap→Prop} (hm:∀v h',K v h'→K' v h') (hk:ge P it e h K):ge P it e h K':=by
 unfold ge at hk ⊢
 split
 ·rename_i hg;rw [hg]at hk;exact zE5 hm hk
 ·rename_i t b hg
  rw [hg]at hk
  simp only at hk
  split at hk
  ·split at hk
   ·rename_i hcb;rw [if_pos hcb];exact zE5 hm hk
   ·rename_i hcb;rw [if_neg hcb];exact hm _ _ hk
  ·exact hm _ _ hk
  ·exact hk.elim
theorem QL {it:II} (he:∀t∈it.reads,e t=e' t):zY it.guard e=zY it.guard e':=by
 unfold zY
 split
 ·rfl
 ·rename_i t b hg
  rw [he t (II.reads_guard hg)]
theorem QR {it:DI} (he:∀t∈it.reads,e t=e' t) (v:AV):recOf it e v=recOf it e' v:=by
 unfold recOf
 split
 ·rename_i agg n x hop
  rw [QL he,IX.ev_congr (x:=x) (e:=e) (e':=e') fun t ht=>he t (II.reads_op (by rw [hop];exact ht))]
 ·rfl
def IOp.isLoad:IOp→Bool
 | .load _ _ _=>true
 | _=>false
theorem zJ5 {op:IOp} (hl:op.isLoad=false):qv nb op e h=qv nb op e h':=by
 cases op<;>first | rfl | (simp [IOp.isLoad]at hl)
theorem Q8 {chk:List Nat}:∀{recs:List Rec},RecOK chk recs h↔∀r∈recs,chk.contains r.idx=true→ldv r.agg r.n r.x h=some r.v
 | []=>by simp [RecOK]
 | r::rs=>by
  simp only [RecOK,Q8 (recs:=rs),List.mem_cons,forall_eq_or_imp];refine and_congr_left fun _=>?_
  by_cases hc:chk.contains r.idx=true
  ·rw [if_pos hc];exact⟨fun x _=>x,fun x=>x hc⟩
  ·rw [if_neg hc];exact⟨fun _ x=>absurd x hc,fun _=>trivial⟩
theorem RecOK.sub {chk:List Nat} {recs recs':List Rec} (hs:∀r∈recs',r∈recs) (hk:RecOK chk recs h):RecOK chk recs' h:=
 Q8.2 fun r hr=>Q8.1 hk r (hs r hr)
theorem DV.sub:∀(l:List DI) {recs recs':List Rec} {e:Env} {h:AHeap} {K:Env→AHeap→Prop},(∀r∈recs',r∈recs)→DV P nb l recs e h K→DV P nb l recs' e h K
 | [],_,_,_,_,_,_,hk=>hk
 | it::r,recs,recs',e,h,K,hs,hk=>by
  unfold DV at hk ⊢
  split
  ·rename_i hq
   rw [hq]at hk
   obtain⟨v,hv,hk⟩:=hk;refine⟨v,hv,DV.sub r (fun x hx=>?_) hk⟩
   simp only [List.mem_append]at hx ⊢
   exact hx.imp id (hs x)
  ·rename_i hq
   rw [hq]at hk
   exact zAa (fun v h' hk=>⟨hk.1.sub hs,DV.sub r hs hk.2⟩) hk
def apart (q p:II):Bool:=
 (match q.dst with | some d=>!p.reads.contains d && p.dst != some d | none=>true) && (match p.dst with | some d=>!q.reads.contains d | none=>true)
theorem apart_spec {q p:II} (hap:apart q p=true):(∀(e:Env) v,∀t∈p.reads,(e.put q.dst v) t=e t)∧(∀(e:Env) v,∀t∈q.reads,(e.put p.dst v) t=e t)∧
  ∀(e:Env) u v,(e.put q.dst u).put p.dst v=(e.put p.dst v).put q.dst u:=by
 unfold apart at hap
 simp only [Bool.and_eq_true]at hap
 obtain⟨h1,h2⟩:=hap;refine⟨fun e v t ht=>?_,fun e v t ht=>?_,fun e u v=>?_⟩
 ·cases hq:q.dst with
  | none=>rfl
  | some d=>
   rw [hq]at h1
   simp at h1
   simp only [Env.put];rw [if_neg (fun(x:t=d)=>h1.1 (x ▸ ht))]
 ·cases hp:p.dst with
  | none=>rfl
  | some d=>
   rw [hp]at h2
   simp at h2
   simp only [Env.put];rw [if_neg (fun(x:t=d)=>h2 (x ▸ ht))]
 ·cases hq:q.dst with
  | none=>cases p.dst<;>rfl
  | some d=>
   cases hp:p.dst with
   | none=>rfl
   | some d'=>
    rw [hq,hp]at h1
    simp at h1
    have hne:d'≠d:=h1.2
    funext t
    simp only [Env.put]
    by_cases x:t=d'
    ·subst x;simp [hne]
    ·simp [x]
theorem zEV {p:DI} {l2:List DI} (hp:p.q=true):∀(l1:List DI) {recs:List Rec} {e:Env} {h:AHeap} {K:Env→AHeap→Prop},(∀q∈l1,q.q=true∧apart q.toII p.toII=true)→
  DV P nb (l1++p::l2) recs e h K→∃v,gq nb p.toII e h=some v∧DV P nb (l1++l2) (recOf p e v++recs) (e.put p.dst v) h K
 | [],recs,e,h,K,_,hk=>by
  simp only [List.nil_append,DV,hp]at hk
  exact hk
 | q::l1,recs,e,h,K,ha,hk=>by
  obtain⟨hq,hap⟩:=ha q (by simp)
  obtain⟨s1,s2,s3⟩:=apart_spec hap;simp only [List.cons_append,DV,hq]at hk
  obtain⟨vq,hvq,hk⟩:=hk;obtain⟨v,hv,hk⟩:=zEV hp l1 (fun x hx=>ha x (by simp [hx])) hk
  rw [zAY (s1 e vq)]at hv
  refine⟨v,hv,?_⟩;simp only [List.cons_append,DV,hq];refine⟨vq,by rw [zAY (s2 e v)];exact hvq,?_⟩
  rw [QR (s1 e vq)]at hk
  dsimp only
  rw [QR (s2 e v),←s3];refine DV.sub _ (fun r hr=>?_) hk
  simp only [List.mem_append]at hr ⊢
  rcases hr with hr|hr|hr
  ·exact .inr (.inl hr)
  ·exact .inl hr
  ·exact .inr (.inr hr)
theorem zGm {p:DI} {l2:List DI} (hp:p.q=false):∀(l1:List DI) {recs:List Rec} {e:Env} {h:AHeap} {K:Env→AHeap→Prop},
  (∀q∈l1,q.q=true∧apart q.toII p.toII=true∧(q.op.isLoad=true→p.chk.contains q.idx=true))→
  DV P nb (l1++p::l2) recs e h K→ge P p.toII e h fun v h'=>RecOK p.chk recs h'∧DV P nb (l1++l2) recs (e.put p.dst v) h' K
 | [],recs,e,h,K,_,hk=>by
  simp only [List.nil_append,DV,hp]at hk
  exact hk
 | q::l1,recs,e,h,K,ha,hk=>by
  obtain⟨hq,hap,hld⟩:=ha q (by simp)
  obtain⟨s1,s2,s3⟩:=apart_spec hap;simp only [List.cons_append,DV,hq]at hk
  obtain⟨vq,hvq,hk⟩:=hk
  have:=zGm hp l1 (fun x hx=>ha x (by simp [hx])) hk
  refine zAa (fun v h' hk=>?_) (zIV (s1 e vq) this)
  obtain⟨hrec,hk⟩:=hk;refine⟨hrec.sub fun r hr=>List.mem_append_right _ hr,?_⟩
  simp only [List.cons_append,DV,hq];refine⟨vq,?_,?_⟩
  ·have h1:gq nb q.toII (e.put p.dst v) h=some vq:=by rw [zAY (s2 e v)];exact hvq
   rw [←h1];cases hl:q.op.isLoad with
   | false=>
    unfold gq;simp only [zJ5 (nb:=nb) (e:=e.put p.dst v) (h:=h') (h':=h) hl]
   | true=>
    cases hop:q.op with
    | load agg n x=>
     have hvx:x.ev (e.put p.dst v)=x.ev e:=IX.ev_congr fun t ht=>s2 e v t (II.reads_op (by rw [hop];exact ht))
     cases hw:zY q.guard e with
     | true=>
      have hr:=Q8.1 hrec ⟨q.idx,agg,n,x.ev e,vq⟩ (by simp [recOf,hop,hw]) (hld hl)
      rw [h1];unfold gq;rw [←QL (e:=e.put p.dst v) (s2 e v)]at hw
      unfold zY at hw
      split
      ·show qv nb q.op _ _=_;rw [hop];simp only [qv,hvx];exact hr
      ·rename_i t b hg
       rw [hg]at hw
       simp only at hw
       split at hw
       ·rename_i c hc
        rw [hc];simp only;rw [if_pos (by simpa using hw)]
        show qv nb q.op _ _=_;rw [hop];simp only [qv,hvx];exact hr
       ·cases hw
     | false=>
      rw [←QL (e:=e.put p.dst v) (s2 e v)]at hw
      unfold gq;unfold zY at hw
      split
      ·rename_i hg;rw [hg]at hw;cases hw
      ·rename_i t b hg
       rw [hg]at hw
       simp only at hw
       split at hw
       ·rename_i c hc
        rw [hc];simp only;rw [if_neg (by simpa using hw),if_neg (by simpa using hw)]
       ·rename_i hne
        split
        ·rename_i c hc;exact absurd hc (hne c)
        ·rfl
        ·rfl
    | _=>rw [hop]at hl;cases hl
  ·dsimp only
   rw [QR (s2 e v),←s3];exact hk
end Go.Ab
