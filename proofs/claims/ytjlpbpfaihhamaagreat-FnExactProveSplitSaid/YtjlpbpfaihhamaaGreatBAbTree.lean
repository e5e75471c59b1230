/- A REGION WHOSE ORDER IS OPEN, AS A TREE: what changes nothing is walked first, in one order; what changes something branches. -/
import Derived.Test.YtjlpbpfaihhamaaGreatBAbDrawSound
set_option linter.unusedSimpArgs false
set_option linter.unusedVariables false
namespace Go.Ab
open Go.RowKit
inductive OT where
 | done
 | none
 | q (it:DI) (next:OT)
 | e (it:DI) (next alt:OT)
def TV (P:Program):OT→List Rec→Env→AHeap→(Env→AHeap→Prop)→Prop
 | .done,_,e,h,K=>K e h
 | .none,_,_,_,_=>True
 | .q it nx,recs,e,h,K=>optK (gq 0 it.toII e h) fun v=>TV P nx (recOf it e v++recs) (e.put it.dst v) h K
 | .e it nx alt,recs,e,h,K=>(ge P it.toII e h fun v h'=>RecOK it.chk recs h'∧TV P nx recs (e.put it.dst v) h' K)∧TV P alt recs e h K
def tchk (pt:List (List Nat)) (before:List DI) (q:Bool) (i:Nat):List Nat:=if q=true then []else(before.filter fun q=>q.op.isLoad && !(pt.getD i []).contains q.idx).map (·.idx)
def tdi (P:Program) (nt:Nat) (ops:Array Oper) (pt:List (List Nat)) (before:List DI) (i:Nat):Option DI:=
 (ops[i]?).bind fun o=>(cItem P nt ops o).bind fun it=>if before.all (fun q=>zAg pt q ⟨it,i,tchk pt before it.q i⟩)=true then some ⟨it,i,tchk pt before it.q i⟩else none
def mkT (P:Program) (nt:Nat) (ops:Array Oper) (pt:List (List Nat)):Nat→Array Bool→List DI→Option OT
 | 0,listed,_=>if (Region.ready .any ops listed).isEmpty=true then some .done else none
 | fuel+1,listed,before=>if (Region.ready .any ops listed).isEmpty=true then some .done else
  match (Region.ready .any ops listed).find? (fun i=>match ops[i]? with | some o=>(copQ P o.op).isSome | none=>false)with
  | some i=>(tdi P nt ops pt before i).bind fun d=>if d.q=true then(mkT P nt ops pt fuel (listed.setIfInBounds i true) (before++[d])).map fun nx=>.q d nx else none
  | none=>(Region.ready .any ops listed).foldr (fun i acc=>(tdi P nt ops pt before i).bind fun d=>if d.q=false then(mkT P nt ops pt fuel (listed.setIfInBounds i true) before).bind fun nx=>acc.map fun alt=>.e d nx alt else none) (some .none)
variable {P:Program} {B:Nat} {w0 w:World} {j:Inj} {h h':AHeap} {nt:Nat} {e e':Env} {a:Act} {ops:Array Oper} {pt:List (List Nat)}
theorem TV.sub:∀(t:OT) {recs recs':List Rec} {e:Env} {h:AHeap} {K:Env→AHeap→Prop},(∀r∈recs',r∈recs)→TV P t recs e h K→TV P t recs' e h K
 | .done,_,_,_,_,_,_,hk=>hk
 | .none,_,_,_,_,_,_,hk=>trivial
 | .q it nx,recs,recs',e,h,K,hs,hk=>by
  obtain⟨v,hv,hk⟩:=hk;refine⟨v,hv,TV.sub nx (fun x hx=>?_) hk⟩
  simp only [List.mem_append]at hx ⊢
  exact hx.imp id (hs x)
 | .e it nx alt,recs,recs',e,h,K,hs,hk=>⟨zAa (fun v h' hk=>⟨hk.1.sub hs,TV.sub nx hs hk.2⟩) hk.1,TV.sub alt hs hk.2⟩
def QV:List DI→List Rec→Env→AHeap→(List Rec→Env→Prop)→Prop
 | [],recs,e,_,K=>K recs e
 | it::r,recs,e,h,K=>optK (gq 0 it.toII e h) fun v=>QV r (recOf it e v++recs) (e.put it.dst v) h K
def SubK (K:List Rec→Env→Prop):Prop:=∀recs recs' e,(∀r∈recs',r∈recs)→K recs e→K recs' e
theorem QV.sub {K:List Rec→Env→Prop} (hK:SubK K):∀(l:List DI) {recs recs':List Rec} {e:Env} {h:AHeap},(∀r∈recs',r∈recs)→QV l recs e h K→QV l recs' e h K
 | [],_,_,_,_,hs,hk=>hK _ _ _ hs hk
 | it::r,recs,recs',e,h,hs,hk=>by
  obtain⟨v,hv,hk⟩:=hk;refine⟨v,hv,QV.sub hK r (fun x hx=>?_) hk⟩
  simp only [List.mem_append]at hx ⊢
  exact hx.imp id (hs x)
theorem QV.mono {K K':List Rec→Env→Prop} (hK:∀recs e,K recs e→K' recs e):∀(l:List DI) {recs:List Rec} {e:Env} {h:AHeap},QV l recs e h K→QV l recs e h K'
 | [],_,_,_,hk=>hK _ _ hk
 | it::r,recs,e,h,hk=>by
  obtain⟨v,hv,hk⟩:=hk;exact⟨v,hv,QV.mono hK r hk⟩
theorem QV.append {K:List Rec→Env→Prop}:∀(l m:List DI) {recs:List Rec} {e:Env} {h:AHeap},QV l recs e h (fun recs e=>QV m recs e h K)→QV (l++m) recs e h K
 | [],m,_,_,_,hk=>hk
 | it::r,m,recs,e,h,hk=>by
  obtain⟨v,hv,hk⟩:=hk;exact⟨v,hv,QV.append r m hk⟩
theorem QV.front {K:List Rec→Env→Prop} (hK:SubK K) {p:DI} {l2:List DI}:∀(l1:List DI) {recs:List Rec} {e:Env} {h:AHeap},(∀q∈l1,apart q.toII p.toII=true)→
  QV (l1++p::l2) recs e h K→∃v,gq 0 p.toII e h=some v∧QV (l1++l2) (recOf p e v++recs) (e.put p.dst v) h K
 | [],recs,e,h,_,hk=>hk
 | q::l1,recs,e,h,ha,hk=>by
  obtain⟨s1,s2,s3⟩:=apart_spec (ha q (by simp))
  obtain⟨vq,hvq,hk⟩:=hk;obtain⟨v,hv,hk⟩:=QV.front hK l1 (fun x hx=>ha x (by simp [hx])) hk
  rw [zAY (s1 e vq)]at hv
  refine⟨v,hv,vq,by rw [zAY (s2 e v)];exact hvq,?_⟩
  rw [QR (s1 e vq)]at hk
  dsimp only
  rw [QR (s2 e v),←s3];refine QV.sub hK _ (fun r hr=>?_) hk
  simp only [List.mem_append]at hr ⊢
  rcases hr with hr|hr|hr
  ·exact .inr (.inl hr)
  ·exact .inl hr
  ·exact .inr (.inr hr)
theorem zM4 {q p:DI} {v vq:AV} {recs:List Rec} (hap:∀(e:Env) v,∀t∈q.reads,(e.put p.dst v) t=e t) (hld:q.op.isLoad=true→p.chk.contains q.idx=true) (hvq:gq 0 q.toII e h=some vq) (hrec:RecOK p.chk (recOf q e vq++recs) h'):
  gq 0 q.toII (e.put p.dst v) h'=some vq:=by
 have h1:gq 0 q.toII (e.put p.dst v) h=some vq:=by rw [zAY (hap e v)];exact hvq
 rw [←h1];cases hl:q.op.isLoad with
 | false=>
  unfold gq;simp only [zJ5 (nb:=0) (e:=e.put p.dst v) (h:=h') (h':=h) hl]
 | true=>
  cases hop:q.op with
  | load agg n x=>
   have hvx:x.ev (e.put p.dst v)=x.ev e:=IX.ev_congr fun t ht=>hap e v t (II.reads_op (by rw [hop];exact ht))
   cases hw:zY q.guard e with
   | true=>
    have hr:=Q8.1 hrec ⟨q.idx,agg,n,x.ev e,vq⟩ (by simp [recOf,hop,hw]) (hld hl)
    rw [h1];unfold gq;rw [←QL (e:=e.put p.dst v) (hap e v)]at hw
    unfold zY at hw
    split
    ·show qv 0 q.op _ _=_;rw [hop];simp only [qv,hvx];exact hr
    ·rename_i t b hg
     rw [hg]at hw
     simp only at hw
     split at hw
     ·rename_i c hc
      rw [hc];simp only;rw [if_pos (by simpa using hw)]
      show qv 0 q.op _ _=_;rw [hop];simp only [qv,hvx];exact hr
     ·cases hw
   | false=>
    rw [←QL (e:=e.put p.dst v) (hap e v)]at hw
    unfold gq;unfold zY at hw
    split
    ·rename_i hg;rw [hg]at hw;cases hw
    ·rename_i t b hg
     rw [hg]at hw
     simp only at hw
     split at hw
     ·rename_i c hc
      rw [hc];simp only;rw [if_neg (by simpa using hw),if_neg (by simpa using hw)]
     ·rename_i hne
      split
      ·rename_i c hc;exact absurd hc (hne c)
      ·rfl
      ·rfl
  | _=>rw [hop]at hl;cases hl
theorem QV.frontE {K':List Rec→Env→AHeap→Prop} {p:DI}:∀(l1:List DI) {recs:List Rec} {e:Env} {h:AHeap},
  (∀q∈l1,apart q.toII p.toII=true∧(q.op.isLoad=true→p.chk.contains q.idx=true))→
  QV l1 recs e h (fun recs e=>ge P p.toII e h fun v h'=>RecOK p.chk recs h'∧K' recs (e.put p.dst v) h')→
  ge P p.toII e h fun v h'=>RecOK p.chk recs h'∧QV l1 recs (e.put p.dst v) h' (fun recs e=>K' recs e h')
 | [],recs,e,h,_,hk=>hk
 | q::l1,recs,e,h,ha,hk=>by
  obtain⟨hap,hld⟩:=ha q (by simp)
  obtain⟨s1,s2,s3⟩:=apart_spec hap;obtain⟨vq,hvq,hk⟩:=hk
  have:=QV.frontE l1 (fun x hx=>ha x (by simp [hx])) hk
  refine zAa (fun v h' hk=>?_) (zIV (s1 e vq) this)
  obtain⟨hrec,hk⟩:=hk;refine⟨hrec.sub fun r hr=>List.mem_append_right _ hr,vq,zM4 s2 hld hvq hrec,?_⟩
  dsimp only
  rw [QR (s2 e v),←s3];exact hk
theorem zEZ {o:Oper} {d:Nat}:d∈ZK o↔∃ed∈o.after,Region.binds .any ed=true∧ed.on=d:=by
 unfold ZK;rw [List.mem_map];constructor
 ·rintro ⟨ed,hed,rfl⟩
  rw [List.mem_filter]at hed
  exact⟨ed,by simpa using hed.1,hed.2,rfl⟩
 ·rintro ⟨ed,h1,h2,rfl⟩
  exact⟨ed,by rw [List.mem_filter];exact⟨by simpa using h1,h2⟩,rfl⟩
theorem zAB {listed:Array Bool} {i:Nat} (hi:i∈Region.ready .any ops listed):∃o,ops[i]? = some o∧listed.getD i true=false∧∀d∈ZK o,listed.getD d true=true:=by
 unfold Region.ready at hi
 rw [List.mem_filter]at hi
 obtain⟨hi1,hi2⟩:=hi;have hlt:i<ops.size:=by simpa using hi1
 have ho:ops[i]? = some ops[i]:=Array.getElem?_eq_getElem hlt;rw [ho]at hi2
 simp only [Bool.and_eq_true,Bool.not_eq_true',Option.map_some,Option.getD_some,Array.all_eq_true']at hi2
 refine⟨_,ho,hi2.1,fun d hd=>?_⟩
 obtain⟨ed,h1,h2,rfl⟩:=zEZ.1 hd
 have:=hi2.2 ed h1
 rw [h2]at this
 simp only [Bool.not_true,Bool.false_or]at this
 simp only [Array.getD_eq_getD_getElem?]at this ⊢
 cases hx:listed[ed.on]? with
 | none=>rfl
 | some x=>rw [hx]at this;exact this
theorem zEi {listed:Array Bool} {i:Nat} {o:Oper} (ho:ops[i]? = some o) (h1:listed.getD i true=false) (h2:∀d∈ZK o,d<listed.size∧listed.getD d true=true):i∈Region.ready .any ops listed:=by
 unfold Region.ready;rw [List.mem_filter];have hlt:i<ops.size:=(Array.getElem?_eq_some_iff.1 ho).1;refine⟨by simpa using hlt,?_⟩
 rw [h1,ho];simp only [Bool.not_false,Option.map_some,Option.getD_some,Bool.true_and,Array.all_eq_true'];intro ed hed;cases hb:Region.binds .any ed with
 | false=>rfl
 | true=>
  obtain⟨hl,this⟩:=h2 ed.on (zEZ.2 ⟨ed,hed,hb,rfl⟩);simp only [Bool.not_true,Bool.false_or];simp only [Array.getD_eq_getD_getElem?]at this ⊢
  rw [Array.getElem?_eq_getElem hl]at this ⊢
  exact this
structure TInv (P:Program) (nt:Nat) (ops:Array Oper) (pt:List (List Nat)) (cl al:Array Bool) (l before:List DI):Prop where
 cs:cl.size=ops.size
 as:al.size=ops.size
 ao:∀i,i<ops.size→(al.getD i true=true↔cl.getD i true=true∨i∈l.map (·.idx))
 lc:∀q∈l,cl.getD q.idx true=false
 fr:∀q∈l,∃o,ops[q.idx]? = some o∧cItem P nt ops o=some q.toII
 qu:∀q∈l,q.q=true
 pw:l.Pairwise fun q p=>zAg pt q p=true
 nd:(l.map (·.idx)).Nodup
 sb:∀q∈l,q∈before
 cc:∀i,i<ops.size→cl.getD i true=true→∀x∈pt.getD i [],cl.getD x true=true
 ac:∀i,i<ops.size→al.getD i true=true→∀x∈pt.getD i [],al.getD x true=true
 or:l.Pairwise fun q p=>p.idx∉pt.getD q.idx []
theorem zEe {before:List DI} {i:Nat} {d:DI} (hd:tdi P nt ops pt before i=some d):∃o,ops[i]? = some o∧cItem P nt ops o=some d.toII∧d.idx=i∧∀q∈before,zAg pt q d=true:=by
 simp only [tdi,Option.bind_eq_some_iff]at hd
 obtain⟨o,ho,it,hit,hd⟩:=hd
 split at hd
 ·rename_i hall
  cases hd;exact⟨o,ho,hit,rfl,List.all_eq_true.1 hall⟩
 ·cases hd
theorem QW (hpt:ptOk ops pt=true):∀i o,ops[i]? = some o→i∉pt.getD i []∧(∀d∈ZK o,d<ops.size∧d∈pt.getD i [])∧∀x∈pt.getD i [],x∈ZK o∨∃d∈ZK o,x∈pt.getD d []:=by
 intro i o ho;have hi:i<ops.size:=(Array.getElem?_eq_some_iff.1 ho).1;unfold ptOk at hpt
 rw [List.all_eq_true]at hpt
 have:=hpt i (by simpa using hi)
 simp only [ho,Bool.and_eq_true,List.all_eq_true,List.any_eq_true,Bool.not_eq_true',Bool.or_eq_true,beq_iff_eq,decide_eq_true_eq]at this
 refine⟨fun hx=>?_,fun d hd=>⟨(this.1.2 d hd).1,by simpa using (this.1.2 d hd).2⟩,fun x hx=>?_⟩
 ·have h1:=this.1.1
  rw [List.contains_iff_mem.2 hx]at h1
  cases h1
 obtain⟨d,hd,hx⟩:=this.2 x hx;rcases hx with rfl|hx
 ·exact .inl hd
 ·exact .inr ⟨d,hd,by simpa using hx⟩
theorem zCI (hpt:ptOk ops pt=true) {cl:Array Bool} (hc:∀i,i<ops.size→cl.getD i true=true→∀x∈pt.getD i [],cl.getD x true=true) {k:Nat} {o:Oper} (ho:ops[k]? = some o) (hd:∀d∈ZK o,cl.getD d true=true):
  (∀x∈pt.getD k [],cl.getD x true=true)∧∀i,i<ops.size→(cl.setIfInBounds k true).getD i true=true→∀x∈pt.getD i [],(cl.setIfInBounds k true).getD x true=true:=by
 have hall:∀x∈pt.getD k [],cl.getD x true=true:=by
  intro x hx;rcases(QW hpt k o ho).2.2 x hx with h|⟨d,h,hx⟩
  ·exact hd x h
  ·exact hc d ((QW hpt k o ho).2.1 d h).1 (hd d h) x hx
 refine⟨hall,fun i hi hl x hx=>?_⟩
 rw [QJ]at hl ⊢
 split
 ·rfl
 ·by_cases e:i=k
  ·subst e;exact hall x hx
  ·rw [if_neg e]at hl;exact hc i hi hl x hx
theorem TInv.push (hpt:ptOk ops pt=true) {cl al:Array Bool} {l before:List DI} (v:TInv P nt ops pt cl al l before) {k:Nat} (hk:k∈Region.ready .any ops al) {d:DI} (hd:tdi P nt ops pt before k=some d) (hq:d.q=true):
  TInv P nt ops pt cl (al.setIfInBounds k true) (l++[d]) (before++[d]):=by
 obtain⟨o,ho,h1,h2⟩:=zAB hk;obtain⟨o',ho',hit,hidx,hall⟩:=zEe hd;rw [ho]at ho'
 cases ho';have hlt:k<ops.size:=(Array.getElem?_eq_some_iff.1 ho).1;have hn:¬(cl.getD k true=true∨k∈l.map (·.idx)):=fun x=>by
  rw [(v.ao k hlt).2 x]at h1;cases h1
 have hcl:cl.getD k true=false:=by
  cases hc:cl.getD k true with
  | false=>rfl
  | true=>exact absurd (.inl hc) hn
 have mem1:∀{q:DI},q∈l++[d]↔q∈l∨q=d:=fun {q}=>by simp
 refine⟨v.cs,by simpa using v.as,fun i hi=>?_,fun q hq'=>?_,fun q hq'=>?_,fun q hq'=>?_,?_,?_,fun q hq'=>?_,v.cc,(zCI hpt v.ac ho h2).2,?_⟩
 ·rw [QJ,List.map_append,List.mem_append]
  by_cases e:i=k
  ·rw [if_pos e];exact⟨fun _=>.inr (.inr (by simp [hidx,e])),fun _=>rfl⟩
  ·rw [if_neg e,v.ao i hi]
   refine or_congr_right ⟨.inl,fun x=>x.elim id fun y=>?_⟩
   simp only [List.map_cons,List.map_nil,List.mem_singleton,hidx]at y
   exact absurd y e
 ·rcases mem1.1 hq' with hq' | rfl
  ·exact v.lc q hq'
  ·rw [hidx];exact hcl
 ·rcases mem1.1 hq' with hq' | rfl
  ·exact v.fr q hq'
  ·exact⟨o,by rw [hidx];exact ho,hit⟩
 ·rcases mem1.1 hq' with hq' | rfl
  ·exact v.qu q hq'
  ·exact hq
 ·rw [List.pairwise_append]
  refine⟨v.pw,List.pairwise_singleton _ _,fun a ha b hb=>?_⟩
  rw [List.mem_singleton.1 hb];exact hall a (v.sb a ha)
 ·rw [List.map_append,List.nodup_append]
  refine⟨v.nd,by simp,fun a ha b hb e=>?_⟩
  simp only [List.map_cons,List.map_nil,List.mem_singleton,hidx]at hb
  exact hn (.inr (by rw [←hb,←e];exact ha))
 ·rcases mem1.1 hq' with hq' | rfl
  ·exact List.mem_append_left _ (v.sb q hq')
  ·exact List.mem_append_right _ (by simp)
 ·rw [List.pairwise_append]
  refine⟨v.or,List.pairwise_singleton _ _,fun a ha b hb hx=>?_⟩
  rw [List.mem_singleton.1 hb,hidx]at hx
  obtain⟨oa,hoa,_⟩:=v.fr a ha;have hla:a.idx<ops.size:=(Array.getElem?_eq_some_iff.1 hoa).1
  have:=v.ac a.idx hla ((v.ao _ hla).2 (.inr (List.mem_map.2 ⟨a,ha,rfl⟩))) k hx
  rw [h1]at this;cases this
theorem TInv.take (hpt:ptOk ops pt=true) {cl al:Array Bool} {l1 l2 before:List DI} {p:DI} (v:TInv P nt ops pt cl al (l1++p::l2) before) (hi:p.idx∈Region.ready .any ops cl):
  TInv P nt ops pt (cl.setIfInBounds p.idx true) al (l1++l2) before∧∀q∈l1,apart q.toII p.toII=true:=by
 obtain⟨o,ho,h1,h2⟩:=zAB hi;have hlt:p.idx<ops.size:=(Array.getElem?_eq_some_iff.1 ho).1;have hsub:(l1++l2).Sublist (l1++p::l2):=(List.sublist_cons_self p l2).append_left l1;have hpn:∀q∈l1++l2,q.idx≠p.idx:=by
  intro q hq he;have h1:(l1++p::l2).Pairwise fun q p=>q.idx≠p.idx:=by
   have:=v.nd
   rw [List.Nodup,List.pairwise_map]at this
   exact this
  rw [List.pairwise_append]at h1
  rcases List.mem_append.1 hq with hq|hq
  ·exact h1.2.2 q hq p (by simp) he
  ·exact(List.pairwise_cons.1 h1.2.1).1 q hq he.symm
 obtain⟨hall,hcl⟩:=zCI hpt v.cc ho h2;refine⟨⟨by simpa using v.cs,v.as,fun i hi=>?_,fun q hq=>?_,fun q hq=>v.fr q (hsub.subset hq),fun q hq=>v.qu q (hsub.subset hq),v.pw.sublist hsub,v.nd.sublist (hsub.map _),fun q hq=>v.sb q (hsub.subset hq),hcl,v.ac,v.or.sublist hsub⟩,fun q hq=>?_⟩
 ·rw [v.ao i hi,QJ]
  by_cases e:i=p.idx
  ·rw [if_pos e]
   exact⟨fun _=>.inl rfl,fun _=>.inr (List.mem_map.2 ⟨p,by simp,e.symm⟩)⟩
  ·rw [if_neg e]
   refine or_congr_right ⟨fun x=>?_,fun x=>?_⟩
   ·obtain⟨q,hq,rfl⟩:=List.mem_map.1 x
    simp only [List.mem_append,List.mem_cons]at hq
    rcases hq with hq|rfl|hq
    ·exact List.mem_map.2 ⟨q,by simp [hq],rfl⟩
    ·exact absurd rfl e
    ·exact List.mem_map.2 ⟨q,by simp [hq],rfl⟩
   ·obtain⟨q,hq,rfl⟩:=List.mem_map.1 x
    exact List.mem_map.2 ⟨q,hsub.subset hq,rfl⟩
 ·rw [QJ,if_neg (hpn q hq)]
  exact v.lc q (hsub.subset hq)
 ·have hp:=(List.pairwise_append.1 v.pw).2.2 q hq p (by simp)
  unfold zAg at hp
  simp only [Bool.or_eq_true,Bool.and_eq_true,Bool.not_eq_true']at hp
  rcases hp with hp|⟨⟨hp,_⟩,_⟩
  ·have:=hall _ (List.contains_iff_mem.1 hp)
   rw [v.lc q (by simp [hq])]at this
   cases this
  ·exact hp
theorem TInv.eff (hpt:ptOk ops pt=true) {cl al:Array Bool} {l before:List DI} (v:TInv P nt ops pt cl al l before) {i:Nat} (hi:i∈Region.ready .any ops cl) (hn:i∉l.map (·.idx)) {d:DI} (hd:tdi P nt ops pt before i=some d) (hqd:d.q=false):
  TInv P nt ops pt (cl.setIfInBounds i true) (al.setIfInBounds i true) l before∧∀q∈l,apart q.toII d.toII=true∧(q.op.isLoad=true→d.chk.contains q.idx=true):=by
 obtain⟨o,ho,h1,h2⟩:=zAB hi;obtain⟨o',ho',hit,hidx,hb⟩:=zEe hd;have hlt:i<ops.size:=(Array.getElem?_eq_some_iff.1 ho).1;obtain⟨hall,hcl⟩:=zCI hpt v.cc ho h2;have hne:∀q∈l,q.idx≠i:=fun q hq e=>hn (List.mem_map.2 ⟨q,hq,e⟩)
 refine⟨⟨by simpa using v.cs,by simpa using v.as,fun k hk=>?_,fun q hq=>?_,v.fr,v.qu,v.pw,v.nd,v.sb,hcl,?_,v.or⟩,fun q hq=>?_⟩
 ·rw [QJ,QJ]
  by_cases e:k=i
  ·rw [if_pos e,if_pos e];exact⟨fun _=>.inl rfl,fun _=>rfl⟩
  ·rw [if_neg e,if_neg e];exact v.ao k hk
 ·rw [QJ,if_neg (hne q hq)];exact v.lc q hq
 ·refine(zCI hpt v.ac ho fun d hd=>?_).2
  exact(v.ao d ((QW hpt i o ho).2.1 d hd).1).2 (.inl (h2 d hd))
 ·have hp:=hb q (v.sb q hq)
  unfold zAg at hp
  rw [hidx]at hp
  simp only [Bool.or_eq_true,Bool.and_eq_true,Bool.not_eq_true']at hp
  rcases hp with hp|⟨⟨hp,_⟩,h4⟩
  ·have:=hall _ (List.contains_iff_mem.1 hp)
   rw [v.lc q hq]at this
   cases this
  ·refine⟨hp,fun hl=>?_⟩
   rcases h4 with (h4|h4)|h4
   ·rw [hqd]at h4;cases h4
   ·rw [hl]at h4;cases h4
   ·exact h4
theorem zKA {fuel:Nat} {listed:Array Bool} {before:List DI}:∀(l:List Nat) {t:OT},l.foldr (fun i acc=>(tdi P nt ops pt before i).bind fun d=>if d.q=false then(mkT P nt ops pt fuel (listed.setIfInBounds i true) before).bind fun nx=>acc.map fun alt=>OT.e d nx alt else none) (some .none)=some t→
  ∀i∈l,∃d nx,tdi P nt ops pt before i=some d∧d.q=false∧mkT P nt ops pt fuel (listed.setIfInBounds i true) before=some nx∧∀(recs:List Rec) (e:Env) (h:AHeap) (K:Env→AHeap→Prop),TV P t recs e h K→ge P d.toII e h fun v h'=>RecOK d.chk recs h'∧TV P nx recs (e.put d.dst v) h' K
 | [],t,_,i,hi=>absurd hi (List.not_mem_nil)
 | k::l,t,hc,i,hi=>by
  simp only [List.foldr_cons,Option.bind_eq_some_iff]at hc
  obtain⟨d,hd,hc⟩:=hc
  split at hc
  ·rename_i hq
   simp only [Option.bind_eq_some_iff,Option.map_eq_some_iff]at hc
   obtain⟨nx,hnx,alt,halt,rfl⟩:=hc;rcases List.mem_cons.1 hi with rfl|hi
   ·exact⟨d,nx,hd,hq,hnx,fun recs e h K hk=>hk.1⟩
   ·obtain⟨d',nx',a1,a2,a3,a4⟩:=zKA l halt i hi
    exact⟨d',nx',a1,a2,a3,fun recs e h K hk=>a4 recs e h K hk.2⟩
  ·cases hc
theorem zHU (hpt:ptOk ops pt=true) {cl:Array Bool} {i:Nat} (hi:i∈Region.ready .any ops cl) {K:Env→AHeap→Prop}:∀(tf:Nat) (al:Array Bool) (l before:List DI) {t:OT} {recs:List Rec} {e:Env} {h:AHeap},TInv P nt ops pt cl al l before→mkT P nt ops pt tf al before=some t→
  QV l recs e h (fun recs e=>TV P t recs e h K)→∃tf' al' l' before' t',TInv P nt ops pt cl al' l' before'∧mkT P nt ops pt tf' al' before'=some t'∧tf'+l'.length=tf+l.length∧QV l' recs e h (fun recs e=>TV P t' recs e h K)∧
   (i∈l'.map (·.idx)∨i∉l'.map (·.idx)∧∃f d nx,tf'=f+1∧tdi P nt ops pt before' i=some d∧d.q=false∧mkT P nt ops pt f (al'.setIfInBounds i true) before'=some nx∧
    ∀(recs:List Rec) (e:Env) (h:AHeap) (K:Env→AHeap→Prop),TV P t' recs e h K→ge P d.toII e h fun v h'=>RecOK d.chk recs h'∧TV P nx recs (e.put d.dst v) h' K)
 | tf,al,l,before,t,recs,e,h,v,ht,hk=>by
  obtain⟨o,ho,h1,h2⟩:=zAB hi;have hlt:i<ops.size:=(Array.getElem?_eq_some_iff.1 ho).1
  by_cases hn:i∈l.map (·.idx)
  ·exact⟨tf,al,l,before,t,v,ht,rfl,hk,.inl hn⟩
  have hal:al.getD i true=false:=by
   cases hc:al.getD i true with
   | false=>rfl
   | true=>
    rcases(v.ao i hlt).1 hc with x|x
    ·rw [h1]at x;cases x
    ·exact absurd x hn
  have hra:i∈Region.ready .any ops al:=zEi ho hal fun d hd=>by
   have hdl:=((QW hpt i o ho).2.1 d hd).1;exact⟨by rw [v.as];exact hdl,(v.ao d hdl).2 (.inl (h2 d hd))⟩
  have hne:¬(Region.ready .any ops al).isEmpty=true:=fun x=>by
   rw [List.isEmpty_iff.1 x]at hra
   cases hra
  match tf,ht with
  | 0,ht=>
   unfold mkT at ht
   rw [if_neg hne]at ht
   cases ht
  | f+1,ht=>
   have ht0:=ht;unfold mkT at ht
   rw [if_neg hne]at ht
   split at ht
   ·rename_i k hfind
    simp only [Option.bind_eq_some_iff]at ht
    obtain⟨d,hd,ht⟩:=ht
    split at ht
    ·rename_i hq
     simp only [Option.map_eq_some_iff]at ht
     obtain⟨nx,hnx,rfl⟩:=ht;obtain⟨tf',al',l',before',t',a1,a2,a3,a4,a5⟩:=zHU hpt hi f _ (l++[d]) (before++[d]) (v.push hpt (List.mem_of_find?_eq_some hfind) hd hq) hnx (QV.append l [d] hk);exact⟨tf',al',l',before',t',a1,a2,by rw [a3];simp;omega,a4,a5⟩
    ·cases ht
   ·obtain⟨d,nx,a1,a2,a3,a4⟩:=zKA _ ht i hra
    exact⟨f+1,al,l,before,t,v,ht0,rfl,hk,.inr ⟨hn,f,d,nx,rfl,a1,a2,a3,a4⟩⟩
termination_by tf=>tf
theorem subTV {P:Program} {t:OT} {h:AHeap} {K:Env→AHeap→Prop}:SubK fun recs e=>TV P t recs e h K:=fun _ _ _ hs hk=>TV.sub t hs hk
theorem zPW {B:Nat} {w0:World} {js:Inj} {hs:AHeap} {K:Env→AHeap→Prop} {Q:Exit→Act→World→Prop} (hpt:ptOk ops pt=true) (hn:∀j' h' e' a' w',FR js hs j' h'→MR B w0 j' h' w'→ER nt j' e' a'→K e' h'→Q .normal a' w'):
  ∀(n tf:Nat) (cl al:Array Bool) (l before:List DI) {t:OT} {recs:List Rec} {j:Inj} {h:AHeap} {w:World} {e:Env} {a:Act},tf+l.length=n→TInv P nt ops pt cl al l before→mkT P nt ops pt tf al before=some t→MR B w0 j h w→ER nt j e a→FR js hs j h→
   QV l recs e h (fun recs e=>TV P t recs e h K)→wpAny P .any ops Q n cl a w:=by
 have fin:∀{tf:Nat} {cl al:Array Bool} {l before:List DI} {t:OT} {recs:List Rec} {j:Inj} {h:AHeap} {w:World} {e:Env} {a:Act},TInv P nt ops pt cl al l before→mkT P nt ops pt tf al before=some t→MR B w0 j h w→ER nt j e a→FR js hs j h→
   QV l recs e h (fun recs e=>TV P t recs e h K)→Region.ready .any ops cl=[]→Q .normal a w:=by
  intro tf cl al l before t recs j h w e a v ht m r hf hk h0;have dlt:∀{i:Nat} {o:Oper},ops[i]? = some o→∀d∈ZK o,d<ops.size:=fun ho d hd=>((QW hpt _ _ ho).2.1 d hd).1
  have hl:l=[]:=by
   cases l with
   | nil=>rfl
   | cons q rest=>
    exfalso
    obtain⟨o,ho,_⟩:=v.fr q (by simp)
    have hql:q.idx<ops.size:=(Array.getElem?_eq_some_iff.1 ho).1
    have:q.idx∈Region.ready .any ops cl:=zEi ho (v.lc q (by simp)) fun d hd=>by
     refine⟨by rw [v.cs];exact dlt ho d hd,?_⟩
     have hin:=((QW hpt _ _ ho).2.1 d hd).2;rcases(v.ao d (dlt ho d hd)).1 (v.ac q.idx hql ((v.ao _ hql).2 (.inr (by simp))) d hin)with x|x
     ·exact x
     ·exfalso
      obtain⟨p,hp,rfl⟩:=List.mem_map.1 x;rcases List.mem_cons.1 hp with rfl|hp
      ·exact(QW hpt _ _ ho).1 hin
      ·exact(List.pairwise_cons.1 v.or).1 p hp hin
    rw [h0]at this
    cases this
  subst hl;have hra:(Region.ready .any ops al).isEmpty=true:=by
   rw [List.isEmpty_iff,List.eq_nil_iff_forall_not_mem];intro i hi;obtain⟨o,ho,h1,h2⟩:=zAB hi;have hlt:i<ops.size:=(Array.getElem?_eq_some_iff.1 ho).1
   have:i∈Region.ready .any ops cl:=zEi ho (by
    cases hc:cl.getD i true with
    | false=>rfl
    | true=>rw [(v.ao i hlt).2 (.inl hc)]at h1;cases h1) fun d hd=>by
    refine⟨by rw [v.cs];exact dlt ho d hd,?_⟩
    rcases(v.ao d (dlt ho d hd)).1 (h2 d hd)with x|x
    ·exact x
    ·simp at x
   rw [h0]at this
   cases this
  have:t=.done:=by
   cases tf<;>unfold mkT at ht<;>rw [if_pos hra]at ht<;>cases ht<;>rfl
  subst this;exact hn j h e a w hf m r hk
 intro n
 induction n with
 | zero=>
  intro tf cl al l before t recs j h w e a hl v ht m r hf hk;have hr:Region.ready .any ops cl=[]:=by
   rw [List.eq_nil_iff_forall_not_mem];intro i hi;obtain⟨tf',al',l',before',t',a1,a2,a3,a4,a5⟩:=zHU hpt hi (K:=K) tf al l before v ht hk;rw [hl]at a3
   rcases a5 with a5|⟨_,f,d,nx,a5,_⟩
   ·have:l'=[]:=List.eq_nil_of_length_eq_zero (by omega)
    subst this;simp at a5
   ·omega
  exact⟨hr,fin v ht m r hf hk hr⟩
 | succ n ih=>
  intro tf cl al l before t recs j h w e a hl v ht m r hf hk;refine⟨fun h0=>fin v ht m r hf hk h0,fun i hi=>?_⟩
  obtain⟨tf',al',l',before',t',v',ht',a3,hk',a5⟩:=zHU hpt hi (K:=K) tf al l before v ht hk;rcases a5 with a5|⟨hni,f,d,nx,rfl,hd,hdq,hnx,hge⟩
  ·obtain⟨p,hp,rfl⟩:=List.mem_map.1 a5
   obtain⟨o,ho,hit⟩:=v'.fr p hp;have hq:=v'.qu p hp;obtain⟨l1,l2,rfl⟩:=List.append_of_mem hp;obtain⟨v2,hap⟩:=v'.take hpt hi;obtain⟨u,hu,hk2⟩:=QV.front subTV l1 hap hk';refine quiet_step m r ho hit hq hu fun a' r'=>?_
   exact ih tf' _ al' (l1++l2) before' (by simp at a3 ⊢;omega) v2 ht' m r' hf hk2
  ·obtain⟨o,ho,hit,hidx,_⟩:=zEe hd
   obtain⟨v2,hap⟩:=v'.eff hpt hi hni hd hdq;have hk2:=QV.frontE (K':=fun recs e h'=>TV P nx recs e h' K) l' hap (QV.mono (fun recs e hk=>hge recs e h K hk) l' hk')
   refine zE4 m r ho hit hdq hk2 ?_;intro u h' j' a' w' hf' hm hr hk3;exact ih f _ _ l' before' (by omega) v2 hnx hm hr (hf.trans hf') hk3.2
end Go.Ab
