/- . -/
import Derived.Test.YtjlpbpfaihhamaaGreatAAbDrawSound
set_option linter.unusedSimpArgs false
set_option linter.unusedVariables false
namespace Go.Ab
open Go.RowKit
inductive OT where
 |done
 |none
 |q (it:DI) (next:OT)
 |e (it:DI) (next alt:OT)
def TV(P:Program):OT->List Rec->Env->AHeap->(Env->AHeap->Prop)->Prop
 | .done,_,e,h,K=>K e h
 | .none,_,_,_,_=>True
 | .q it nx,recs,e,h,K=>optK (gq 0 it.toII e h) fun v=>TV P nx (recOf it e v++recs) (e.put it.dst v) h K
 | .e it nx alt,recs,e,h,K=>(ge P it.toII e h fun v h'=>RecOK it.chk recs h'∧TV P nx recs (e.put it.dst v) h' K)∧TV P alt recs e h K
def tchk(pt:List (List Nat))(before:List DI)(q:Bool)(i:Nat):List Nat:=if q=true then []else(before.filter fun q=>q.op.isLoad && !(pt.getD i []).contains q.idx).map (·.idx)
def tdi(P:Program)(nt:Nat)(ops:Array Oper)(pt:List (List Nat))(before:List DI)(i:Nat):Option DI:=
 (ops[i]?).bind fun o=>(cItem P nt ops o).bind fun it=>if before.all (fun q=>Ql pt q ⟨it,i,tchk pt before it.q i⟩)=true then some ⟨it,i,tchk pt before it.q i⟩else none
def mkT(P:Program)(nt:Nat)(ops:Array Oper)(pt:List (List Nat)):Nat->Array Bool->List DI->Option OT
 |0,ar,_=>if (Region.ready .any ops ar).isEmpty=true then some .done else none
 |fuel+1,ar,before=>if (Region.ready .any ops ar).isEmpty=true then some .done else
  match (Region.ready .any ops ar).find? (fun i=>match ops[i]? with|some o=>(copQ P o.op).isSome|none=>false)with
  |some i=>(tdi P nt ops pt before i).bind fun d=>if d.q=true then(mkT P nt ops pt fuel (ar.setIfInBounds i true) (before++[d])).map fun nx=>.q d nx else none
  |none=>(Region.ready .any ops ar).foldr (fun i acc=>(tdi P nt ops pt before i).bind fun d=>if d.q=false then(mkT P nt ops pt fuel (ar.setIfInBounds i true) before).bind fun nx=>acc.map fun alt=>.e d nx alt else none) (some .none)
variable{P:Program}{B:Nat}{w0 w:World}{j:Inj}{h h':AHeap}{nt:Nat}{e e':Env}{a:Act}{ops:Array Oper}{pt:List (List Nat)}
theorem TV.sub:∀(t:OT) {recs aJ:List Rec} {e:Env} {h:AHeap} {K:Env->AHeap->Prop},(∀r∈aJ,r∈recs)->TV P t recs e h K->TV P t aJ e h K
 | .done,_,_,_,_,_,_,hk=>hk
 | .none,_,_,_,_,_,_,hk=>trivial
 | .q it nx,recs,aJ,e,h,K,hs,hk=>by
  obtain⟨v,hv,hk⟩:=hk;refine⟨v,hv,TV.sub nx (fun x hx=>?_) hk⟩
  simp only[List.mem_append]at hx ⊢
  exact hx.imp id (hs x)
 | .e it nx alt,recs,aJ,e,h,K,hs,hk=>⟨Qb (fun v h' hk=>⟨hk.1.sub hs,TV.sub nx hs hk.2⟩) hk.1,TV.sub alt hs hk.2⟩
def QV:List DI->List Rec->Env->AHeap->(List Rec->Env->Prop)->Prop
 |[],recs,e,_,K=>K recs e
 |it::r,recs,e,h,K=>optK (gq 0 it.toII e h) fun v=>QV r (recOf it e v++recs) (e.put it.dst v) h K
def SubK(K:List Rec->Env->Prop):Prop:=∀recs aJ e,(∀r∈aJ,r∈recs)->K recs e->K aJ e
theorem QV.sub{K:List Rec->Env->Prop}(hK:SubK K):∀(l:List DI) {recs aJ:List Rec} {e:Env} {h:AHeap},(∀r∈aJ,r∈recs)->QV l recs e h K->QV l aJ e h K
 |[],_,_,_,_,hs,hk=>hK _ _ _ hs hk
 |it::r,recs,aJ,e,h,hs,hk=>by
  obtain⟨v,hv,hk⟩:=hk;refine⟨v,hv,QV.sub hK r (fun x hx=>?_) hk⟩
  simp only[List.mem_append]at hx ⊢
  exact hx.imp id (hs x)
theorem QV.mono{K K':List Rec->Env->Prop}(hK:∀recs e,K recs e->K' recs e):∀(l:List DI) {recs:List Rec} {e:Env} {h:AHeap},QV l recs e h K->QV l recs e h K'
 |[],_,_,_,hk=>hK _ _ hk
 |it::r,recs,e,h,hk=>by
  obtain⟨v,hv,hk⟩:=hk;exact⟨v,hv,QV.mono hK r hk⟩
theorem QV.append{K:List Rec->Env->Prop}:∀(l m:List DI) {recs:List Rec} {e:Env} {h:AHeap},QV l recs e h (fun recs e=>QV m recs e h K)->QV (l++m) recs e h K
 |[],m,_,_,_,hk=>hk
 |it::r,m,recs,e,h,hk=>by
  obtain⟨v,hv,hk⟩:=hk;exact⟨v,hv,QV.append r m hk⟩
theorem QV.front{K:List Rec->Env->Prop}(hK:SubK K){p:DI}{l2:List DI}:∀(l1:List DI) {recs:List Rec} {e:Env} {h:AHeap},(∀q∈l1,apart q.toII p.toII=true)->
  QV (l1++p::l2) recs e h K->∃v,gq 0 p.toII e h=some v∧QV (l1++l2) (recOf p e v++recs) (e.put p.dst v) h K
 |[],recs,e,h,_,hk=>hk
 |q::l1,recs,e,h,ha,hk=>by
  obtain⟨s1,s2,s3⟩:=apart_spec (ha q (by simp))
  obtain⟨vq,lU,hk⟩:=hk;obtain⟨v,hv,hk⟩:=QV.front hK l1 (fun x hx=>ha x (by simp[hx])) hk
  rw[QZ (s1 e vq)]at hv
  refine⟨v,hv,vq,by rw[QZ (s2 e v)];exact lU,?_⟩
  rw[ZQ (s1 e vq)]at hk
  dsimp only
  rw[ZQ (s2 e v),<-s3];refine QV.sub hK _ (fun r hr=>?_) hk
  simp only[List.mem_append]at hr ⊢
  rcases hr with hr|hr|hr
  ·exact .inr (.inl hr)
  ·exact .inl hr
  ·exact .inr (.inr hr)
theorem zKR{q p:DI}{v vq:AV}{recs:List Rec}(dW:∀(e:Env) v,∀t∈q.reads,(e.put p.dst v) t=e t)(jA:q.op.isLoad=true->p.chk.contains q.idx=true)(lU:gq 0 q.toII e h=some vq)(iL:RecOK p.chk (recOf q e vq++recs) h'):
  gq 0 q.toII (e.put p.dst v) h'=some vq:=by
 have h1:gq 0 q.toII (e.put p.dst v) h=some vq:=by rw[QZ (dW e v)];exact lU
 rw[<-h1];cases hl:q.op.isLoad with
 |false=>
  unfold gq;simp only[zHz (nb:=0) (e:=e.put p.dst v) (h:=h') (h':=h) hl]
 |true=>
  cases aX:q.op with
  |load agg n x=>
   have bq:x.ev (e.put p.dst v)=x.ev e:=IX.ev_congr fun t ht=>dW e v t (II.reads_op (by rw[aX];exact ht))
   cases hw:qm q.guard e with
   |true=>
    have hr:=Qt.1 iL ⟨q.idx,agg,n,x.ev e,vq⟩ (by simp[recOf,aX,hw]) (jA hl)
    rw[h1];unfold gq;rw[<-ZL (e:=e.put p.dst v) (dW e v)]at hw
    unfold qm at hw
    split
    ·show qv 0 q.op _ _=_;rw[aX];simp only[qv,bq];exact hr
    ·rename_i t b hg
     rw[hg]at hw
     simp only at hw
     split at hw
     ·rename_i c hc
      rw[hc];simp only;rw[if_pos (by simpa using hw)]
      show qv 0 q.op _ _=_;rw[aX];simp only[qv,bq];exact hr
     ·cases hw
   |false=>
    rw[<-ZL (e:=e.put p.dst v) (dW e v)]at hw
    unfold gq;unfold qm at hw
    split
    ·rename_i hg;rw[hg]at hw;cases hw
    ·rename_i t b hg
     rw[hg]at hw
     simp only at hw
     split at hw
     ·rename_i c hc
      rw[hc];simp only;rw[if_neg (by simpa using hw),if_neg (by simpa using hw)]
     ·rename_i aC
      split
      ·rename_i c hc;exact absurd hc (aC c)
      ·rfl
      ·rfl
  |_=>rw[aX]at hl;cases hl
theorem QV.frontE{K':List Rec->Env->AHeap->Prop}{p:DI}:∀(l1:List DI) {recs:List Rec} {e:Env} {h:AHeap},
  (∀q∈l1,apart q.toII p.toII=true∧(q.op.isLoad=true->p.chk.contains q.idx=true))->
  QV l1 recs e h (fun recs e=>ge P p.toII e h fun v h'=>RecOK p.chk recs h'∧K' recs (e.put p.dst v) h')->
  ge P p.toII e h fun v h'=>RecOK p.chk recs h'∧QV l1 recs (e.put p.dst v) h' (fun recs e=>K' recs e h')
 |[],recs,e,h,_,hk=>hk
 |q::l1,recs,e,h,ha,hk=>by
  obtain⟨dW,jA⟩:=ha q (by simp)
  obtain⟨s1,s2,s3⟩:=apart_spec dW;obtain⟨vq,lU,hk⟩:=hk
  have:=QV.frontE l1 (fun x hx=>ha x (by simp[hx])) hk
  refine Qb (fun v h' hk=>?_) (zGV (s1 e vq) this)
  obtain⟨iL,hk⟩:=hk;refine⟨iL.sub fun r hr=>List.mem_append_right _ hr,vq,zKR s2 jA lU iL,?_⟩
  dsimp only
  rw[ZQ (s2 e v),<-s3];exact hk
theorem zDI{o:Oper}{d:Nat}:d∈zo o↔∃ed∈o.after,Region.binds .any ed=true∧ed.on=d:=by
 unfold zo;rw[List.mem_map];constructor
 ·rintro⟨ed,kR,rfl⟩
  rw[List.mem_filter]at kR
  exact⟨ed,by simpa using kR.1,kR.2,rfl⟩
 ·rintro⟨ed,h1,h2,rfl⟩
  exact⟨ed,by rw[List.mem_filter];exact⟨by simpa using h1,h2⟩,rfl⟩
theorem QF{ar:Array Bool}{i:Nat}(hi:i∈Region.ready .any ops ar):∃o,ops[i]? = some o∧ar.getD i true=false∧∀d∈zo o,ar.getD d true=true:=by
 unfold Region.ready at hi
 rw[List.mem_filter]at hi
 obtain⟨cD,dk⟩:=hi;have ai:i<ops.size:=by simpa using cD
 have ho:ops[i]? = some ops[i]:=Array.getElem?_eq_getElem ai;rw[ho]at dk
 simp only[Bool.and_eq_true,Bool.not_eq_true',Option.map_some,Option.getD_some,Array.all_eq_true']at dk
 refine⟨_,ho,dk.1,fun d hd=>?_⟩
 obtain⟨ed,h1,h2,rfl⟩:=zDI.1 hd
 have:=dk.2 ed h1
 rw[h2]at this
 simp only[Bool.not_true,Bool.false_or]at this
 simp only[Array.getD_eq_getD_getElem?]at this ⊢
 cases hx:ar[ed.on]? with
 |none=>rfl
 |some x=>rw[hx]at this;exact this
theorem zDP{ar:Array Bool}{i:Nat}{o:Oper}(ho:ops[i]? = some o)(h1:ar.getD i true=false)(h2:∀d∈zo o,d<ar.size∧ar.getD d true=true):i∈Region.ready .any ops ar:=by
 unfold Region.ready;rw[List.mem_filter];have ai:i<ops.size:=(Array.getElem?_eq_some_iff.1 ho).1;refine⟨by simpa using ai,?_⟩
 rw[h1,ho];simp only[Bool.not_false,Option.map_some,Option.getD_some,Bool.true_and,Array.all_eq_true'];intro ed kR;cases hb:Region.binds .any ed with
 |false=>rfl
 |true=>
  obtain⟨hl,this⟩:=h2 ed.on (zDI.2 ⟨ed,kR,hb,rfl⟩);simp only[Bool.not_true,Bool.false_or];simp only[Array.getD_eq_getD_getElem?]at this ⊢
  rw[Array.getElem?_eq_getElem hl]at this ⊢
  exact this
structure TInv(P:Program)(nt:Nat)(ops:Array Oper)(pt:List (List Nat))(cl al:Array Bool)(l before:List DI):Prop where
 cs:cl.size=ops.size
 as:al.size=ops.size
 ao:∀i,i<ops.size->(al.getD i true=true↔cl.getD i true=true∨i∈l.map (·.idx))
 lc:∀q∈l,cl.getD q.idx true=false
 fr:∀q∈l,∃o,ops[q.idx]? = some o∧cItem P nt ops o=some q.toII
 qu:∀q∈l,q.q=true
 pw:l.Pairwise fun q p=>Ql pt q p=true
 nd:(l.map (·.idx)).Nodup
 sb:∀q∈l,q∈before
 cc:∀i,i<ops.size->cl.getD i true=true->∀x∈pt.getD i [],cl.getD x true=true
 ac:∀i,i<ops.size->al.getD i true=true->∀x∈pt.getD i [],al.getD x true=true
 or:l.Pairwise fun q p=>p.idx∉pt.getD q.idx []
theorem zDL{before:List DI}{i:Nat}{d:DI}(hd:tdi P nt ops pt before i=some d):∃o,ops[i]? = some o∧cItem P nt ops o=some d.toII∧d.idx=i∧∀q∈before,Ql pt q d=true:=by
 simp only[tdi,Option.bind_eq_some_iff]at hd
 obtain⟨o,ho,it,hit,hd⟩:=hd
 split at hd
 ·rename_i aj
  cases hd;exact⟨o,ho,hit,rfl,List.all_eq_true.1 aj⟩
 ·cases hd
theorem ZW(cJ:ptOk ops pt=true):∀i o,ops[i]? = some o->i∉pt.getD i []∧(∀d∈zo o,d<ops.size∧d∈pt.getD i [])∧∀x∈pt.getD i [],x∈zo o∨∃d∈zo o,x∈pt.getD d []:=by
 intro i o ho;have hi:i<ops.size:=(Array.getElem?_eq_some_iff.1 ho).1;unfold ptOk at cJ
 rw[List.all_eq_true]at cJ
 have:=cJ i (by simpa using hi)
 simp only[ho,Bool.and_eq_true,List.all_eq_true,List.any_eq_true,Bool.not_eq_true',Bool.or_eq_true,beq_iff_eq,decide_eq_true_eq]at this
 refine⟨fun hx=>?_,fun d hd=>⟨(this.1.2 d hd).1,by simpa using (this.1.2 d hd).2⟩,fun x hx=>?_⟩
 ·have h1:=this.1.1
  rw[List.contains_iff_mem.2 hx]at h1
  cases h1
 obtain⟨d,hd,hx⟩:=this.2 x hx;rcases hx with rfl|hx
 ·exact .inl hd
 ·exact .inr ⟨d,hd,by simpa using hx⟩
theorem zBT(cJ:ptOk ops pt=true){cl:Array Bool}(hc:∀i,i<ops.size->cl.getD i true=true->∀x∈pt.getD i [],cl.getD x true=true){k:Nat}{o:Oper}(ho:ops[k]? = some o)(hd:∀d∈zo o,cl.getD d true=true):
  (∀x∈pt.getD k [],cl.getD x true=true)∧∀i,i<ops.size->(cl.setIfInBounds k true).getD i true=true->∀x∈pt.getD i [],(cl.setIfInBounds k true).getD x true=true:=by
 have aj:∀x∈pt.getD k [],cl.getD x true=true:=by
  intro x hx;rcases(ZW cJ k o ho).2.2 x hx with h|⟨d,h,hx⟩
  ·exact hd x h
  ·exact hc d ((ZW cJ k o ho).2.1 d h).1 (hd d h) x hx
 refine⟨aj,fun i hi hl x hx=>?_⟩
 rw[ZJ]at hl ⊢
 split
 ·rfl
 ·by_cases e:i=k
  ·subst e;exact aj x hx
  ·rw[if_neg e]at hl;exact hc i hi hl x hx
theorem TInv.push(cJ:ptOk ops pt=true){cl al:Array Bool}{l before:List DI}(v:TInv P nt ops pt cl al l before){k:Nat}(hk:k∈Region.ready .any ops al){d:DI}(hd:tdi P nt ops pt before k=some d)(hq:d.q=true):
  TInv P nt ops pt cl (al.setIfInBounds k true) (l++[d]) (before++[d]):=by
 obtain⟨o,ho,h1,h2⟩:=QF hk;obtain⟨o',cR,hit,gr,aj⟩:=zDL hd;rw[ho]at cR
 cases cR;have ai:k<ops.size:=(Array.getElem?_eq_some_iff.1 ho).1;have hn:¬(cl.getD k true=true∨k∈l.map (·.idx)):=fun x=>by
  rw[(v.ao k ai).2 x]at h1;cases h1
 have cK:cl.getD k true=false:=by
  cases hc:cl.getD k true with
  |false=>rfl
  |true=>exact absurd (.inl hc) hn
 have lR:∀{q:DI},q∈l++[d]↔q∈l∨q=d:=fun {q}=>by simp
 refine⟨v.cs,by simpa using v.as,fun i hi=>?_,fun q dg=>?_,fun q dg=>?_,fun q dg=>?_,?_,?_,fun q dg=>?_,v.cc,(zBT cJ v.ac ho h2).2,?_⟩
 ·rw[ZJ,List.map_append,List.mem_append]
  by_cases e:i=k
  ·rw[if_pos e];exact⟨fun _=>.inr (.inr (by simp[gr,e])),fun _=>rfl⟩
  ·rw[if_neg e,v.ao i hi]
   refine or_congr_right ⟨.inl,fun x=>x.elim id fun y=>?_⟩
   simp only[List.map_cons,List.map_nil,List.mem_singleton,gr]at y
   exact absurd y e
 ·rcases lR.1 dg with dg|rfl
  ·exact v.lc q dg
  ·rw[gr];exact cK
 ·rcases lR.1 dg with dg|rfl
  ·exact v.fr q dg
  ·exact⟨o,by rw[gr];exact ho,hit⟩
 ·rcases lR.1 dg with dg|rfl
  ·exact v.qu q dg
  ·exact hq
 ·rw[List.pairwise_append]
  refine⟨v.pw,List.pairwise_singleton _ _,fun a ha b hb=>?_⟩
  rw[List.mem_singleton.1 hb];exact aj a (v.sb a ha)
 ·rw[List.map_append,List.nodup_append]
  refine⟨v.nd,by simp,fun a ha b hb e=>?_⟩
  simp only[List.map_cons,List.map_nil,List.mem_singleton,gr]at hb
  exact hn (.inr (by rw[<-hb,<-e];exact ha))
 ·rcases lR.1 dg with dg|rfl
  ·exact List.mem_append_left _ (v.sb q dg)
  ·exact List.mem_append_right _ (by simp)
 ·rw[List.pairwise_append]
  refine⟨v.or,List.pairwise_singleton _ _,fun a ha b hb hx=>?_⟩
  rw[List.mem_singleton.1 hb,gr]at hx
  obtain⟨oa,CR,_⟩:=v.fr a ha;have pV:a.idx<ops.size:=(Array.getElem?_eq_some_iff.1 CR).1
  have:=v.ac a.idx pV ((v.ao _ pV).2 (.inr (List.mem_map.2 ⟨a,ha,rfl⟩))) k hx
  rw[h1]at this;cases this
theorem TInv.take(cJ:ptOk ops pt=true){cl al:Array Bool}{l1 l2 before:List DI}{p:DI}(v:TInv P nt ops pt cl al (l1++p::l2) before)(hi:p.idx∈Region.ready .any ops cl):
  TInv P nt ops pt (cl.setIfInBounds p.idx true) al (l1++l2) before∧∀q∈l1,apart q.toII p.toII=true:=by
 obtain⟨o,ho,h1,h2⟩:=QF hi;have ai:p.idx<ops.size:=(Array.getElem?_eq_some_iff.1 ho).1;have bA:(l1++l2).Sublist (l1++p::l2):=(List.sublist_cons_self p l2).append_left l1;have nX:∀q∈l1++l2,q.idx≠p.idx:=by
  intro q hq he;have h1:(l1++p::l2).Pairwise fun q p=>q.idx≠p.idx:=by
   have:=v.nd
   rw[List.Nodup,List.pairwise_map]at this
   exact this
  rw[List.pairwise_append]at h1
  rcases List.mem_append.1 hq with hq|hq
  ·exact h1.2.2 q hq p (by simp) he
  ·exact(List.pairwise_cons.1 h1.2.1).1 q hq he.symm
 obtain⟨aj,cK⟩:=zBT cJ v.cc ho h2;refine⟨⟨by simpa using v.cs,v.as,fun i hi=>?_,fun q hq=>?_,fun q hq=>v.fr q (bA.subset hq),fun q hq=>v.qu q (bA.subset hq),v.pw.sublist bA,v.nd.sublist (bA.map _),fun q hq=>v.sb q (bA.subset hq),cK,v.ac,v.or.sublist bA⟩,fun q hq=>?_⟩
 ·rw[v.ao i hi,ZJ]
  by_cases e:i=p.idx
  ·rw[if_pos e]
   exact⟨fun _=>.inl rfl,fun _=>.inr (List.mem_map.2 ⟨p,by simp,e.symm⟩)⟩
  ·rw[if_neg e]
   refine or_congr_right ⟨fun x=>?_,fun x=>?_⟩
   ·obtain⟨q,hq,rfl⟩:=List.mem_map.1 x
    simp only[List.mem_append,List.mem_cons]at hq
    rcases hq with hq|rfl|hq
    ·exact List.mem_map.2 ⟨q,by simp[hq],rfl⟩
    ·exact absurd rfl e
    ·exact List.mem_map.2 ⟨q,by simp[hq],rfl⟩
   ·obtain⟨q,hq,rfl⟩:=List.mem_map.1 x
    exact List.mem_map.2 ⟨q,bA.subset hq,rfl⟩
 ·rw[ZJ,if_neg (nX q hq)]
  exact v.lc q (bA.subset hq)
 ·have hp:=(List.pairwise_append.1 v.pw).2.2 q hq p (by simp)
  unfold Ql at hp
  simp only[Bool.or_eq_true,Bool.and_eq_true,Bool.not_eq_true']at hp
  rcases hp with hp|⟨⟨hp,_⟩,_⟩
  ·have:=aj _ (List.contains_iff_mem.1 hp)
   rw[v.lc q (by simp[hq])]at this
   cases this
  ·exact hp
theorem TInv.eff(cJ:ptOk ops pt=true){cl al:Array Bool}{l before:List DI}(v:TInv P nt ops pt cl al l before){i:Nat}(hi:i∈Region.ready .any ops cl)(hn:i∉l.map (·.idx)){d:DI}(hd:tdi P nt ops pt before i=some d)(mN:d.q=false):
  TInv P nt ops pt (cl.setIfInBounds i true) (al.setIfInBounds i true) l before∧∀q∈l,apart q.toII d.toII=true∧(q.op.isLoad=true->d.chk.contains q.idx=true):=by
 obtain⟨o,ho,h1,h2⟩:=QF hi;obtain⟨o',cR,hit,gr,hb⟩:=zDL hd;have ai:i<ops.size:=(Array.getElem?_eq_some_iff.1 ho).1;obtain⟨aj,cK⟩:=zBT cJ v.cc ho h2;have aC:∀q∈l,q.idx≠i:=fun q hq e=>hn (List.mem_map.2 ⟨q,hq,e⟩)
 refine⟨⟨by simpa using v.cs,by simpa using v.as,fun k hk=>?_,fun q hq=>?_,v.fr,v.qu,v.pw,v.nd,v.sb,cK,?_,v.or⟩,fun q hq=>?_⟩
 ·rw[ZJ,ZJ]
  by_cases e:k=i
  ·rw[if_pos e,if_pos e];exact⟨fun _=>.inl rfl,fun _=>rfl⟩
  ·rw[if_neg e,if_neg e];exact v.ao k hk
 ·rw[ZJ,if_neg (aC q hq)];exact v.lc q hq
 ·refine(zBT cJ v.ac ho fun d hd=>?_).2
  exact(v.ao d ((ZW cJ i o ho).2.1 d hd).1).2 (.inl (h2 d hd))
 ·have hp:=hb q (v.sb q hq)
  unfold Ql at hp
  rw[gr]at hp
  simp only[Bool.or_eq_true,Bool.and_eq_true,Bool.not_eq_true']at hp
  rcases hp with hp|⟨⟨hp,_⟩,h4⟩
  ·have:=aj _ (List.contains_iff_mem.1 hp)
   rw[v.lc q hq]at this
   cases this
  ·refine⟨hp,fun hl=>?_⟩
   rcases h4 with (h4|h4)|h4
   ·rw[mN]at h4;cases h4
   ·rw[hl]at h4;cases h4
   ·exact h4
theorem zH4{fuel:Nat}{ar:Array Bool}{before:List DI}:∀(l:List Nat) {t:OT},l.foldr (fun i acc=>(tdi P nt ops pt before i).bind fun d=>if d.q=false then(mkT P nt ops pt fuel (ar.setIfInBounds i true) before).bind fun nx=>acc.map fun alt=>OT.e d nx alt else none) (some .none)=some t->
  ∀i∈l,∃d nx,tdi P nt ops pt before i=some d∧d.q=false∧mkT P nt ops pt fuel (ar.setIfInBounds i true) before=some nx∧∀(recs:List Rec) (e:Env) (h:AHeap) (K:Env->AHeap->Prop),TV P t recs e h K->ge P d.toII e h fun v h'=>RecOK d.chk recs h'∧TV P nx recs (e.put d.dst v) h' K
 |[],t,_,i,hi=>absurd hi (List.not_mem_nil)
 |k::l,t,hc,i,hi=>by
  simp only[List.foldr_cons,Option.bind_eq_some_iff]at hc
  obtain⟨d,hd,hc⟩:=hc
  split at hc
  ·rename_i hq
   simp only[Option.bind_eq_some_iff,Option.map_eq_some_iff]at hc
   obtain⟨nx,cA,alt,halt,rfl⟩:=hc;rcases List.mem_cons.1 hi with rfl|hi
   ·exact⟨d,nx,hd,hq,cA,fun recs e h K hk=>hk.1⟩
   ·obtain⟨d',Ch,a1,a2,a3,a4⟩:=zH4 l halt i hi
    exact⟨d',Ch,a1,a2,a3,fun recs e h K hk=>a4 recs e h K hk.2⟩
  ·cases hc
theorem zFi(cJ:ptOk ops pt=true){cl:Array Bool}{i:Nat}(hi:i∈Region.ready .any ops cl){K:Env->AHeap->Prop}:∀(tf:Nat) (al:Array Bool) (l before:List DI) {t:OT} {recs:List Rec} {e:Env} {h:AHeap},TInv P nt ops pt cl al l before->mkT P nt ops pt tf al before=some t->
  QV l recs e h (fun recs e=>TV P t recs e h K)->∃mC ng l' bH t',TInv P nt ops pt cl ng l' bH∧mkT P nt ops pt mC ng bH=some t'∧mC+l'.length=tf+l.length∧QV l' recs e h (fun recs e=>TV P t' recs e h K)∧
   (i∈l'.map (·.idx)∨i∉l'.map (·.idx)∧∃f d nx,mC=f+1∧tdi P nt ops pt bH i=some d∧d.q=false∧mkT P nt ops pt f (ng.setIfInBounds i true) bH=some nx∧
    ∀(recs:List Rec) (e:Env) (h:AHeap) (K:Env->AHeap->Prop),TV P t' recs e h K->ge P d.toII e h fun v h'=>RecOK d.chk recs h'∧TV P nx recs (e.put d.dst v) h' K)
 |tf,al,l,before,t,recs,e,h,v,ht,hk=>by
  obtain⟨o,ho,h1,h2⟩:=QF hi;have ai:i<ops.size:=(Array.getElem?_eq_some_iff.1 ho).1
  by_cases hn:i∈l.map (·.idx)
  ·exact⟨tf,al,l,before,t,v,ht,rfl,hk,.inl hn⟩
  have eg:al.getD i true=false:=by
   cases hc:al.getD i true with
   |false=>rfl
   |true=>
    rcases(v.ao i ai).1 hc with x|x
    ·rw[h1]at x;cases x
    ·exact absurd x hn
  have eV:i∈Region.ready .any ops al:=zDP ho eg fun d hd=>by
   have fY:=((ZW cJ i o ho).2.1 d hd).1;exact⟨by rw[v.as];exact fY,(v.ao d fY).2 (.inl (h2 d hd))⟩
  have aC:¬(Region.ready .any ops al).isEmpty=true:=fun x=>by
   rw[List.isEmpty_iff.1 x]at eV
   cases eV
  match tf,ht with
  |0,ht=>
   unfold mkT at ht
   rw[if_neg aC]at ht
   cases ht
  |f+1,ht=>
   have ux:=ht;unfold mkT at ht
   rw[if_neg aC]at ht
   split at ht
   ·rename_i k tu
    simp only[Option.bind_eq_some_iff]at ht
    obtain⟨d,hd,ht⟩:=ht
    split at ht
    ·rename_i hq
     simp only[Option.map_eq_some_iff]at ht
     obtain⟨nx,cA,rfl⟩:=ht;obtain⟨mC,ng,l',bH,t',a1,a2,a3,a4,a5⟩:=zFi cJ hi f _ (l++[d]) (before++[d]) (v.push cJ (List.mem_of_find?_eq_some tu) hd hq) cA (QV.append l [d] hk);exact⟨mC,ng,l',bH,t',a1,a2,by rw[a3];simp;omega,a4,a5⟩
    ·cases ht
   ·obtain⟨d,nx,a1,a2,a3,a4⟩:=zH4 _ ht i eV
    exact⟨f+1,al,l,before,t,v,ux,rfl,hk,.inr ⟨hn,f,d,nx,rfl,a1,a2,a3,a4⟩⟩
termination_by tf=>tf
theorem subTV{P:Program}{t:OT}{h:AHeap}{K:Env->AHeap->Prop}:SubK fun recs e=>TV P t recs e h K:=fun _ _ _ hs hk=>TV.sub t hs hk
theorem zL0{B:Nat}{w0:World}{js:Inj}{hs:AHeap}{K:Env->AHeap->Prop}{Q:Exit->Act->World->Prop}(cJ:ptOk ops pt=true)(hn:∀j' h' e' a' w',FR js hs j' h'->MR B w0 j' h' w'->ER nt j' e' a'->K e' h'->Q .normal a' w'):
  ∀(n tf:Nat) (cl al:Array Bool) (l before:List DI) {t:OT} {recs:List Rec} {j:Inj} {h:AHeap} {w:World} {e:Env} {a:Act},tf+l.length=n->TInv P nt ops pt cl al l before->mkT P nt ops pt tf al before=some t->MR B w0 j h w->ER nt j e a->FR js hs j h->
   QV l recs e h (fun recs e=>TV P t recs e h K)->wpAny P .any ops Q n cl a w:=by
 have fin:∀{tf:Nat} {cl al:Array Bool} {l before:List DI} {t:OT} {recs:List Rec} {j:Inj} {h:AHeap} {w:World} {e:Env} {a:Act},TInv P nt ops pt cl al l before->mkT P nt ops pt tf al before=some t->MR B w0 j h w->ER nt j e a->FR js hs j h->
   QV l recs e h (fun recs e=>TV P t recs e h K)->Region.ready .any ops cl=[]->Q .normal a w:=by
  intro tf cl al l before t recs j h w e a v ht m r hf hk h0;have uZ:∀{i:Nat} {o:Oper},ops[i]? = some o->∀d∈zo o,d<ops.size:=fun ho d hd=>((ZW cJ _ _ ho).2.1 d hd).1
  have hl:l=[]:=by
   cases l with
   |nil=>rfl
   |cons q rest=>
    exfalso
    obtain⟨o,ho,_⟩:=v.fr q (by simp)
    have AO:q.idx<ops.size:=(Array.getElem?_eq_some_iff.1 ho).1
    have:q.idx∈Region.ready .any ops cl:=zDP ho (v.lc q (by simp)) fun d hd=>by
     refine⟨by rw[v.cs];exact uZ ho d hd,?_⟩
     have aW:=((ZW cJ _ _ ho).2.1 d hd).2;rcases(v.ao d (uZ ho d hd)).1 (v.ac q.idx AO ((v.ao _ AO).2 (.inr (by simp))) d aW)with x|x
     ·exact x
     ·exfalso
      obtain⟨p,hp,rfl⟩:=List.mem_map.1 x;rcases List.mem_cons.1 hp with rfl|hp
      ·exact(ZW cJ _ _ ho).1 aW
      ·exact(List.pairwise_cons.1 v.or).1 p hp aW
    rw[h0]at this
    cases this
  subst hl;have eV:(Region.ready .any ops al).isEmpty=true:=by
   rw[List.isEmpty_iff,List.eq_nil_iff_forall_not_mem];intro i hi;obtain⟨o,ho,h1,h2⟩:=QF hi;have ai:i<ops.size:=(Array.getElem?_eq_some_iff.1 ho).1
   have:i∈Region.ready .any ops cl:=zDP ho (by
    cases hc:cl.getD i true with
    |false=>rfl
    |true=>rw[(v.ao i ai).2 (.inl hc)]at h1;cases h1) fun d hd=>by
    refine⟨by rw[v.cs];exact uZ ho d hd,?_⟩
    rcases(v.ao d (uZ ho d hd)).1 (h2 d hd)with x|x
    ·exact x
    ·simp at x
   rw[h0]at this
   cases this
  have:t=.done:=by
   cases tf<;>unfold mkT at ht<;>rw[if_pos eV]at ht<;>cases ht<;>rfl
  subst this;exact hn j h e a w hf m r hk
 intro n
 induction n with
 |zero=>
  intro tf cl al l before t recs j h w e a hl v ht m r hf hk;have hr:Region.ready .any ops cl=[]:=by
   rw[List.eq_nil_iff_forall_not_mem];intro i hi;obtain⟨mC,ng,l',bH,t',a1,a2,a3,a4,a5⟩:=zFi cJ hi (K:=K) tf al l before v ht hk;rw[hl]at a3
   rcases a5 with a5|⟨_,f,d,nx,a5,_⟩
   ·have:l'=[]:=List.eq_nil_of_length_eq_zero (by omega)
    subst this;simp at a5
   ·omega
  exact⟨hr,fin v ht m r hf hk hr⟩
 |succ n ih=>
  intro tf cl al l before t recs j h w e a hl v ht m r hf hk;refine⟨fun h0=>fin v ht m r hf hk h0,fun i hi=>?_⟩
  obtain⟨mC,ng,l',bH,t',v',dA,a3,bU,a5⟩:=zFi cJ hi (K:=K) tf al l before v ht hk;rcases a5 with a5|⟨CX,f,d,nx,rfl,hd,A9,cA,aE⟩
  ·obtain⟨p,hp,rfl⟩:=List.mem_map.1 a5
   obtain⟨o,ho,hit⟩:=v'.fr p hp;have hq:=v'.qu p hp;obtain⟨l1,l2,rfl⟩:=List.append_of_mem hp;obtain⟨v2,dW⟩:=v'.take cJ hi;obtain⟨u,hu,dC⟩:=QV.front subTV l1 dW bU;refine quiet_step m r ho hit hq hu fun a' r'=>?_
   exact ih mC _ ng (l1++l2) bH (by simp at a3 ⊢;omega) v2 dA m r' hf dC
  ·obtain⟨o,ho,hit,gr,_⟩:=zDL hd
   obtain⟨v2,dW⟩:=v'.eff cJ hi CX hd A9;have dC:=QV.frontE (K':=fun recs e h'=>TV P nx recs e h' K) l' dW (QV.mono (fun recs e hk=>aE recs e h K hk) l' bU)
   refine zDh m r ho hit A9 dC ?_;intro u h' j' a' w' dy hm hr C9;exact ih f _ _ l' bH (by omega) v2 cA hm hr (hf.trans dy) C9.2
end Go.Ab
