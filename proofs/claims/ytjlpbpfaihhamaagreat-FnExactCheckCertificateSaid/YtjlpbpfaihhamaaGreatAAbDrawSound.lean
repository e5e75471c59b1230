/- . -/
import Derived.Test.YtjlpbpfaihhamaaGreatAAbDraw
set_option linter.unusedSimpArgs false
set_option linter.unusedVariables false
namespace Go.Ab
open Go.RowKit
def zo(o:Oper):List Nat:=(o.after.toList.filter fun x=>Region.binds .any x).map (·.on)
def IOp.revK:IOp->Option Nat
 | .rev k=>some k
 | .revS k _=>some k
 |_=>none
def cNew(P:Program)(al:Bool)(o:Oper):Option (Nat×List AV):=
 match al,o.op with
 |true,.buildSlice t len ps=>match P.underlying t with
  |some (.slice et)=>(P.info? et).bind fun i=>i.zero.bind fun z=>(zl z.cells.toList).bind fun zs=>(QR i.size ps.toList).bind fun qs=>
   if qs.all (fun p=>p.2.2.rd.isEmpty)=true∧zs.length=i.size∧i.size≠0∧len*i.size<=16777216 then(afill (zeros zs len) (qs.map fun p=>(p.1,p.2.1,p.2.2.ev (fun _=>.undef)))).map fun cs=>(len,cs)else none
  |_=>none
 |_,_=>none
def cDI(P:Program)(nt:Nat)(ops:Array Oper)(pt:List (List Nat))(al:Bool)(before:List DI)(k i:Nat):Option (DI×Option (List AV)):=
 (ops[i]?).bind fun o=>match cNew P al o with
  |some (len,zs)=>(QP ops o.guard).bind fun g=>if dstOk nt o.dst=true then some (⟨⟨o.dst,.revS k len,true,g⟩,i,[]⟩,some zs)else none
  |none=>match o.op with
  | .alloc t=>(QP ops o.guard).bind fun g=>if dstOk nt o.dst=true then((P.info? t).bind (·.zero)).bind fun z=>(zl z.cells.toList).map fun zs=>(⟨⟨o.dst,.rev k,true,g⟩,i,[]⟩,some zs)else none
  |_=>(cItem P nt ops o).map fun it=>(⟨it,i,if it.q=true then []else(before.filter fun q=>q.op.isLoad && !(pt.getD i []).contains q.idx).map (·.idx)⟩,none)
def cDIs(P:Program)(nt:Nat)(ops:Array Oper)(pt:List (List Nat))(al:Bool):List Nat->List DI->Nat->Option (List DI×List (List AV))
 |[],_,_=>some ([],[])
 |i::r,before,k=>(cDI P nt ops pt al before k i).bind fun x=>match x.2 with
  |none=>(cDIs P nt ops pt al r (before++[x.1]) k).map fun y=>(x.1::y.1,y.2)
  |some z=>(cDIs P nt ops pt al r (before++[x.1]) (k+1)).map fun y=>(x.1::y.1,z::y.2)
def Ql(pt:List (List Nat))(q p:DI):Bool:=
 (pt.getD p.idx []).contains q.idx || (apart q.toII p.toII && q.q && (p.q || !q.op.isLoad || p.chk.contains q.idx))
def pairs(f:DI->DI->Bool):List DI->Bool
 |[]=>true
 |q::r=>r.all (f q) && pairs f r
def ptOk(ops:Array Oper)(pt:List (List Nat)):Bool:=
 (List.range ops.size).all fun i=>match ops[i]? with
  |some o=>!(pt.getD i []).contains i && (zo o).all (fun d=>decide (d<ops.size) && (pt.getD i []).contains d) && (pt.getD i []).all fun x=>(zo o).any fun d=>d == x || (pt.getD d []).contains x
  |none=>true
def dOk(ops:Array Oper)(pt:List (List Nat))(order:List Nat)(aN:List DI):Bool:=
 ptOk ops pt && (aN.map (·.idx) == order) && decide order.Nodup && (order.length == ops.size) && (List.range ops.size).all (fun i=>order.contains i) &&
 pairs (Ql pt) aN && pairs (fun q p=>!(pt.getD q.idx []).contains p.idx) aN
theorem zDS{f:DI->DI->Bool}:∀{l:List DI},pairs f l=true->l.Pairwise fun q p=>f q p=true
 |[],_=>.nil
 |q::r,h=>by
  simp only[pairs,Bool.and_eq_true,List.all_eq_true]at h
  exact .cons h.1 (zDS h.2)
variable{P:Program}{B:Nat}{w0 w:World}{j:Inj}{h h':AHeap}{nt nb:Nat}{e e':Env}{a:Act}{ops:Array Oper}{Q:Exit->Act->World->Prop}{pt:List (List Nat)}{zs:List (List AV)}
def Laid(P:Program)(op:IOp)(o:Op)(k:Nat)(z':List AV):Prop:=
 (∃t i z,op=.rev k∧o=.alloc t∧P.info? t=some i∧i.zero=some z∧zl z.cells.toList=some z')∨
 ∃t et i z zs len ps qs,op=.revS k len∧o=.buildSlice t len ps∧P.underlying t=some (.slice et)∧P.info? et=some i∧i.zero=some z∧zl z.cells.toList=some zs∧zs.length=i.size∧i.size≠0∧len*i.size<=16777216∧QR i.size ps.toList=some qs∧qs.all (fun p=>p.2.2.rd.isEmpty)=true∧afill (zeros zs len) (qs.map fun p=>(p.1,p.2.1,p.2.2.ev (fun _=>.undef)))=some z'
def From(P:Program)(nt:Nat)(ops:Array Oper)(zs:List (List AV))(it:DI):Prop:=
 ∃o,ops[it.idx]? = some o∧(cItem P nt ops o=some it.toII∧it.op.revK=none∨
  ∃k z',it.op.revK=some k∧zs[k]? = some z'∧Laid P it.op o.op k z'∧it.q=true∧it.dst=o.dst∧(∀d,it.dst=some d->d<nt)∧QP ops o.guard=some it.guard)
theorem zKd{P:Program}{al:Bool}{o:Oper}{len:Nat}{z':List AV}(h:cNew P al o=some (len,z'))(k:Nat):Laid P (.revS k len) o.op k z':=by
 unfold cNew at h
 split at h
 ·rename_i t jt ps aX
  split at h
  ·rename_i et hu
   simp only[Option.bind_eq_some_iff]at h
   obtain⟨i,hi,z,hz,zs,db,qs,jx,h⟩:=h
   split at h
   ·rename_i hc
    simp only[Option.map_eq_some_iff,Prod.mk.injEq]at h
    obtain⟨cs,dJ,rfl,rfl⟩:=h;exact .inr ⟨t,et,i,z,zs,_,ps,qs,rfl,aX,hu,hi,hz,db,hc.2.1,hc.2.2.1,hc.2.2.2,jx,hc.1,dJ⟩
   ·cases h
  ·cases h
 ·cases h
theorem zDJ{o:Oper}{it:II}(hc:cItem P nt ops o=some it)(op:IOp)(hk:it.op=op)(h:(∃k,op=.rev k)∨∃k n,op=.revS k n):False:=by
 obtain⟨_,_,_,aX⟩:=zA2 hc;rcases h with ⟨k,rfl⟩|⟨k,n,rfl⟩
 ·rcases aX with ⟨_,aX⟩|⟨_,aX⟩
  ·rw[hk]at aX
   cases ho:o.op<;>rw[ho]at aX<;>simp only[copQ]at aX<;>(try (cases aX;done))<;>(repeat (first|(split at aX)|(simp only[Option.bind_eq_some_iff,Option.map_eq_some_iff]at aX)|(obtain⟨_,_,aX⟩:=aX)|(cases aX;done)))
  ·rw[hk]at aX
   cases ho:o.op<;>rw[ho]at aX<;>simp only[copE,zCl]at aX<;>(try (cases aX;done))<;>(repeat (first|(split at aX)|(simp only[Option.bind_eq_some_iff,Option.map_eq_some_iff]at aX)|(obtain⟨_,_,aX⟩:=aX)|(cases aX;done)))
 ·rcases aX with ⟨_,aX⟩|⟨_,aX⟩
  ·rw[hk]at aX
   cases ho:o.op<;>rw[ho]at aX<;>simp only[copQ]at aX<;>(try (cases aX;done))<;>(repeat (first|(split at aX)|(simp only[Option.bind_eq_some_iff,Option.map_eq_some_iff]at aX)|(obtain⟨_,_,aX⟩:=aX)|(cases aX;done)))
  ·rw[hk]at aX
   cases ho:o.op<;>rw[ho]at aX<;>simp only[copE,zCl]at aX<;>(try (cases aX;done))<;>(repeat (first|(split at aX)|(simp only[Option.bind_eq_some_iff,Option.map_eq_some_iff]at aX)|(obtain⟨_,_,aX⟩:=aX)|(cases aX;done)))
theorem zJE{o:Oper}{it:II}(hc:cItem P nt ops o=some it):it.op.revK=none:=by
 cases aX:it.op with
 |rev k=>exact(zDJ hc _ aX (.inl ⟨k,rfl⟩)).elim
 |revS k n=>exact(zDJ hc _ aX (.inr ⟨k,n,rfl⟩)).elim
 |_=>rfl
theorem zLw{al:Bool}{before:List DI}{k i:Nat}{it:DI}{oz:Option (List AV)}(hit:cDI P nt ops pt al before k i=some (it,oz)):∃o,ops[i]? = some o∧it.idx=i∧
  ((oz=none∧cItem P nt ops o=some it.toII)∨∃z',oz=some z'∧it.op.revK=some k∧Laid P it.op o.op k z'∧it.q=true∧it.dst=o.dst∧(∀d,it.dst=some d->d<nt)∧QP ops o.guard=some it.guard):=by
 simp only[cDI,Option.bind_eq_some_iff]at hit
 obtain⟨o,ho,hit⟩:=hit;have gC:∀{d0:Option Nat},dstOk nt d0=true->∀d,d0=some d->d<nt:=fun {d0} hd d gC=>by
  rw[gC]at hd
  simpa [dstOk]using hd
 split at hit
 ·rename_i len zs hn
  simp only[Option.bind_eq_some_iff]at hit
  obtain⟨g,hg,hit⟩:=hit
  split at hit
  ·rename_i hd
   cases hit;exact⟨o,ho,rfl,.inr ⟨zs,rfl,rfl,zKd hn k,rfl,rfl,gC hd,hg⟩⟩
  ·cases hit
 ·split at hit
  ·rename_i t aX
   simp only[Option.bind_eq_some_iff]at hit
   obtain⟨g,hg,hit⟩:=hit
   split at hit
   ·rename_i hd
    simp only[Option.bind_eq_some_iff,Option.map_eq_some_iff,Prod.mk.injEq]at hit
    obtain⟨z,⟨ti,uw,hz⟩,z',dU,rfl,rfl⟩:=hit;exact⟨o,ho,rfl,.inr ⟨z',rfl,rfl,.inl ⟨t,ti,z,rfl,aX,uw,hz,dU⟩,rfl,rfl,gC hd,hg⟩⟩
   ·cases hit
  ·simp only[Option.map_eq_some_iff,Prod.mk.injEq]at hit
   obtain⟨ED,oJ,rfl,rfl⟩:=hit;exact⟨o,ho,rfl,.inl ⟨rfl,oJ⟩⟩
theorem zCZ{al:Bool}:∀(order:List Nat) (before:List DI) (k:Nat) {aN:List DI} {ri:List (List AV)},cDIs P nt ops pt al order before k=some (aN,ri)->∀pre:List (List AV),pre.length=k->
  (∀it∈aN,From P nt ops (pre++ri) it∧∀m,it.op.revK=some m->k<=m)∧aN.Pairwise fun q p=>∀m m',q.op.revK=some m->p.op.revK=some m'->m≠m'
 |[],before,k,aN,ri,hc,pre,hp=>by
  cases hc;exact⟨fun it hit=>(List.not_mem_nil hit).elim,.nil⟩
 |i::r,before,k,aN,ri,hc,pre,hp=>by
  simp only[cDIs,Option.bind_eq_some_iff]at hc
  obtain⟨⟨it,oz⟩,hit,hc⟩:=hc;obtain⟨o,ho,rfl,tA⟩:=zLw hit;rcases tA with ⟨rfl,jW⟩|⟨z',rfl,dc,jh,hq,yx,ai,hg⟩
  ·simp only[Option.map_eq_some_iff,Prod.mk.injEq]at hc
   obtain⟨⟨wN,BC⟩,hr,rfl,rfl⟩:=hc;obtain⟨h1,h2⟩:=zCZ r _ k hr pre hp;have lF:=zJE jW;refine⟨fun x hx=>?_,?_⟩
   ·rcases List.mem_cons.1 hx with rfl|hx
    ·exact⟨⟨o,ho,.inl ⟨jW,lF⟩⟩,fun m hm=>by rw[lF]at hm;cases hm⟩
    ·exact h1 x hx
   ·exact .cons (fun x hx m m' hm iO=>by rw[lF]at hm;cases hm) h2
  ·simp only[Option.map_eq_some_iff,Prod.mk.injEq]at hc
   obtain⟨⟨wN,BC⟩,hr,rfl,rfl⟩:=hc;obtain⟨h1,h2⟩:=zCZ r _ (k+1) hr (pre++[z']) (by simp[hp])
   refine⟨fun x hx=>?_,?_⟩
   ·rcases List.mem_cons.1 hx with rfl|hx
    ·refine⟨⟨o,ho,.inr ⟨k,z',dc,?_,jh,hq,yx,ai,hg⟩⟩,fun m hm=>by rw[dc]at hm;cases hm;exact Nat.le_refl _⟩
     simp[<-hp]
    ·obtain⟨f1,f2⟩:=h1 x hx
     refine⟨by simpa using f1,fun m hm=>?_⟩
     have:=f2 m hm
     omega
   ·refine .cons (fun x hx m m' hm iO=>?_) h2
    have:=(h1 x hx).2 m' iO
    rw[dc]at hm
    cases hm;omega
theorem zLh(m:MR B w0 j h w){e:Env}{a:Act}(r:ER nt j e a){op:IOp}{o:Oper}{k:Nat}{z':List AV}(hl:Laid P op o.op k z')(hj:j (nb+k)=none)(eY:h.obj (nb+k)=some ⟨true,z'⟩){v:AV}(hv:qv nb op e h=some v):
  ∃(cur:Array Value) (ty:TypeId) (val:Value),(execOp a.eval o).run P w=.ok (.value val) (w.alloc (.cells cur ty))∧MR B w0 (j.put (nb+k) ⟨w.heap.size,0,0,false⟩) h (w.alloc (.cells cur ty))∧j.le (j.put (nb+k) ⟨w.heap.size,0,0,false⟩)∧VI (j.put (nb+k) ⟨w.heap.size,0,0,false⟩) v val:=by
 rcases hl with ⟨t,i,z,rfl,ho,uw,hz,dU⟩|⟨t,et,i,z,zs,len,ps,qs,rfl,ho,ht,hi,hz,db,cG,aC,kK,jx,aj,hf⟩
 ·cases hv
  obtain⟨z1,z2⟩:=zm (j:=j) dU;obtain⟨hm,hle⟩:=m.reveal (ty:=t) (cur:=z.cells) eY hj z2 z1;exact⟨_,_,_,by simp[execOp,ho,Instr.alloc,zeroValue,typeInfo,uw,hz,newVar,newRow],hm,hle,⟨⟨w.heap.size,0,0,false⟩,by simp[Inj.put],rfl,rfl⟩⟩
 ·cases hv
  obtain⟨z1,z2⟩:=zm (j:=j) db;have hl:=z1.length;have iF:z.cells.toList≠[]:=by intro x;rw[x]at hl;simp at hl;rw[hl]at cG;simp at cG;omega
  have e7:((Array.range (len*i.size)).map (z.cells[· % z.cells.size]!)).toList=(List.replicate len z.cells.toList).flatten:=by
   have:=ZG z.cells.toList iF len
   rw[<-hl,cG]at this
   simpa [madeCells]using this
  have yw:(qs.map fun p=>(p.1,p.2.1,p.2.2.ev (fun _=>AV.undef)))=qs.map fun p=>(p.1,p.2.1,p.2.2.ev e):=by
   rw[List.all_eq_true]at aj
   refine List.map_congr_left fun p hp=>?_
   rw[IX.ev_congr (x:=p.2.2) (e:=fun _=>AV.undef) (e':=e) fun t ht=>by
    have:=aj p hp
    rw[List.isEmpty_iff]at this
    rw[this]at ht;cases ht]
  rw[yw]at hf
  have iM:∀{ps:List (Nat×Operand)} {qs:List (Nat×Nat×IX)},QR i.size ps=some qs->ps.length=(qs.map fun p=>(p.1,p.2.1,p.2.2.ev e)).length∧
    ∀(k:Nat) (p:Nat×Operand) (q:Nat×Nat×AV),ps[k]? = some p->(qs.map fun q=>(q.1,q.2.1,q.2.2.ev e))[k]? = some q->(some (p.1*i.size,i.size))=some (q.1,q.2.1)∧VI j q.2.2 (a.eval p.2):=by
   intro ps
   induction ps with
   |nil=>intro qs hq;cases hq;exact⟨rfl,fun k p q hp=>by simp at hp⟩
   |cons p ps ih=>
    intro qs hq;obtain⟨n,x⟩:=p;simp only[QR,Option.bind_eq_some_iff]at hq
    obtain⟨ix,hx,vK,kz,hq⟩:=hq;cases hq;obtain⟨i1,i2⟩:=ih kz;refine⟨by simp at i1 ⊢;exact i1,fun k p q hp hq=>?_⟩
    cases k with
    |zero=>simp at hp hq;subst hp;subst hq;exact⟨rfl,zI r hx⟩
    |succ k=>exact i2 k p q (by simpa using hp) (by simpa using hq)
  obtain⟨p1,p2⟩:=iM jx;obtain⟨res,c5,r1,r2⟩:=QN (place:=fun k=>some (k*i.size,i.size)) ps.toList _ (zeros zs len) ((Array.range (len*i.size)).map (z.cells[· % z.cells.size]!)) a.eval z'
   (by rw[e7];exact z1.replicate len) (zAg z2 len) hf p1 p2
  obtain⟨hm,hle⟩:=m.reveal (ty:=et) (cur:=res) eY hj r2 r1;have kJ:¬(16777216<len*i.size):=by omega
  have dQ:(ps.map fun(i,x)=>(i,a.eval x)).toList=ps.toList.map fun p=>(p.1,a.eval p.2):=by simp
  refine⟨_,_,.slice (some ⟨w.heap.size,0,none⟩) len len,?_,hm,hle,⟨⟨w.heap.size,0,0,false⟩,_,by simp[Inj.put],rfl,.inl rfl,rfl⟩⟩
  by_cases h0:len*i.size=0
  ·have:((Array.range (len*i.size)).map (z.cells[· % z.cells.size]!)) = #[]:=by rw[h0];simp[Array.range_zero']
   rw[this]at c5
   simp[execOp,ho,Instr.buildSlice,run_underlying ht,zO hi,h0,dQ,c5,newRow,Array.range_zero']
  ·simp[execOp,ho,Instr.buildSlice,run_underlying ht,zO hi,h0,kJ,dQ,c5,newRow,zeroValue,typeInfo,hi,hz]
theorem zKz(m:MR B w0 j h w)(r:ER nt j e a){k:Nat}{o:Oper}{it:II}{z':List AV}{idx:Nat}(hi:ops[idx]? = some o)(hl:Laid P it.op o.op k z')(hd:it.dst=o.dst)(ai:∀d,it.dst=some d->d<nt)(hg:QP ops o.guard=some it.guard)
  (hj:j (nb+k)=none) (eY:h.obj (nb+k)=some ⟨true,z'⟩) {v:AV} (hv:gq nb it e h=some v)
  {next:Act->World->Prop} (hn:∀j' a' w',j.le j'->(∀o,o≠nb+k->j' o=j o)->MR B w0 j' h w'->ER nt j' (e.put it.dst v) a'->next a' w'):wpOp P ops Q idx next a w:=by
 obtain⟨w1,w2,w3⟩:=zB0 r hg;have run:qv nb it.op e h=some v->Region.wanted o (yielded ops a.tmps)=true->wpOp P ops Q idx next a w:=by
  intro hv hw;obtain⟨cur,ty,val,hr,hm,hle,ju⟩:=zLh m r hl hj eY hv;unfold wpOp;simp only[hi,hw,if_true];refine .inl ?_;unfold Oper.wp;rw[hr];refine hn _ _ _ hle (fun o' aC=>by simp[Inj.put,aC]) hm ?_
  rw[<-hd];exact(r.mono hle).put ai ju
 unfold gq at hv
 split at hv
 ·exact run hv (w1 (by assumption))
 ·rename_i t b mW
  split at hv
  ·rename_i c hc
   have hw:=w2 t b c mW hc
   split at hv
   ·rename_i gD
    exact run hv (by rw[hw];simpa using gD)
   ·rename_i gD
    cases hv;unfold wpOp
    have:Region.wanted o (yielded ops a.tmps)=false:=by rw[hw];simpa using gD
    simp only[hi,this,Bool.false_eq_true,if_false];exact hn j _ w (Inj.le.refl _) (fun _ _=>rfl) m (by rw[<-hd];exact r.put ai Q8)
  ·rename_i hc
   cases hv;unfold wpOp;simp only[hi,w3 t b mW hc,Bool.false_eq_true,if_false];exact hn j _ w (Inj.le.refl _) (fun _ _=>rfl) m (by rw[<-hd];exact r.put ai Q8)
  ·cases hv
theorem ZJ(l:Array Bool)(i x:Nat):(l.setIfInBounds i true).getD x true=(if x=i then true else l.getD x true):=by
 simp only[Array.getD_eq_getD_getElem?,Array.getElem?_setIfInBounds]
 by_cases hx:x=i
 ·subst hx
  by_cases hl:x<l.size
  ·simp[hl]
  ·simp[hl]
 ·rw[if_neg (fun y=>hx y.symm),if_neg hx]
theorem zGf{K:Env->AHeap->Prop}{js:Inj}{hs:AHeap}(AS:nb=hs.next)(cJ:ptOk ops pt=true)
  (hn:∀j' h' e' a' w',FR js hs j' h'->MR B w0 j' h' w'->ER nt j' e' a'->K e' h'->Q .normal a' w'):
  ∀(fuel:Nat) (ar:Array Bool) (rem:List DI) {j:Inj} {h:AHeap} {w:World} {e:Env} {a:Act} {recs:List Rec},rem.length=fuel->ar.size=ops.size->
   (∀i,i<ops.size->(ar.getD i true=false↔∃it∈rem,it.idx=i))->
   rem.Pairwise (fun q p=>Ql pt q p=true)->rem.Pairwise (fun q p=>(!(pt.getD q.idx []).contains p.idx)=true)->(rem.map (·.idx)).Nodup->rem.Pairwise (fun q p=>∀m m',q.op.revK=some m->p.op.revK=some m'->m≠m')->
   (∀i,i<ops.size->ar.getD i true=true->∀x∈pt.getD i [],ar.getD x true=true)->
   (∀it∈rem,From P nt ops zs it)->
   (∀it∈rem,∀k,it.op.revK=some k->nb+k<h.next∧j (nb+k)=none∧∃z,zs[k]? = some z∧h.obj (nb+k)=some ⟨true,z⟩)->
   MR B w0 j h w->ER nt j e a->DV P nb rem recs e h K->FR js hs j h->wpAny P .any ops Q fuel ar a w
 |0,ar,rem,j,h,w,e,a,recs,hlen,cG,iK,_,_,_,_,_,_,_,m,r,hk,hf=>by
  have:rem=[]:=List.eq_nil_of_length_eq_zero hlen
  subst this;refine⟨?_,hn j h e a w hf m r hk⟩;unfold Region.ready;rw[List.filter_eq_nil_iff];intro i hi;have oM:i<ops.size:=by simpa using hi
  have:ar.getD i true=true:=by
   cases hl:ar.getD i true with
   |true=>rfl
   |false=>obtain⟨x,hx,_⟩:=(iK i oM).1 hl;cases hx
  rw[this]
  simp
 |fuel+1,ar,rem,j,h,w,e,a,recs,hlen,cG,iK,aM,bD,jf,fT,cK,e9,jd,m,r,hk,hf=>by
  have ud:∀i o,ops[i]? = some o->i∉pt.getD i []∧(∀d∈zo o,d<ops.size∧d∈pt.getD i [])∧∀x∈pt.getD i [],x∈zo o∨∃d∈zo o,x∈pt.getD d []:=by
   intro i o ho;have hi:i<ops.size:=(Array.getElem?_eq_some_iff.1 ho).1;unfold ptOk at cJ
   rw[List.all_eq_true]at cJ
   have:=cJ i (by simpa using hi)
   simp only[ho,Bool.and_eq_true,List.all_eq_true,List.any_eq_true,Bool.not_eq_true',Bool.or_eq_true,beq_iff_eq,decide_eq_true_eq]at this
   refine⟨fun hx=>?_,fun d hd=>⟨(this.1.2 d hd).1,by simpa using (this.1.2 d hd).2⟩,fun x hx=>?_⟩
   ·have h1:=this.1.1
    rw[List.contains_iff_mem.2 hx]at h1
    cases h1
   obtain⟨d,hd,hx⟩:=this.2 x hx;rcases hx with rfl|hx
   ·exact .inl hd
   ·exact .inr ⟨d,hd,by simpa using hx⟩
  have rM:∀{q p:DI},(!(pt.getD q.idx []).contains p.idx)=true->p.idx∉pt.getD q.idx []:=by
   intro q p hc hx;rw[List.contains_iff_mem.2 hx]at hc
   cases hc
  refine⟨fun nT=>?_,fun i hi=>?_⟩
  ·-- pG is always ready
   exfalso
   cases rem with
   |nil=>simp at hlen
   |cons p rest=>
    obtain⟨o,ho,_⟩:=e9 p (by simp)
    have ai:p.idx<ops.size:=(Array.getElem?_eq_some_iff.1 ho).1;have nY:ar.getD p.idx true=false:=(iK p.idx ai).2 ⟨p,by simp,rfl⟩
    have gY:p.idx∈Region.ready .any ops ar:=by
     unfold Region.ready;rw[List.mem_filter];refine⟨by simpa using ai,?_⟩
     rw[nY,ho];simp only[Bool.not_false,Option.map_some,Option.getD_some,Bool.true_and,Array.all_eq_true'];intro ed kR;cases hb:Region.binds .any ed with
     |false=>rfl
     |true=>
      have yy:ed.on∈zo o:=by
       unfold zo;rw[List.mem_map];exact⟨ed,by simp[kR,hb],rfl⟩
      obtain⟨yi,mf⟩:=(ud p.idx o ho).2.1 _ yy;simp only[Bool.not_true,Bool.false_or]
      have:ar.getD ed.on true=true:=by
       cases hl:ar.getD ed.on true with
       |true=>rfl
       |false=>
        obtain⟨q,hq,AP⟩:=(iK _ yi).1 hl;rcases List.mem_cons.1 hq with rfl|hq
        ·rw[<-AP]at mf;exact absurd mf (ud q.idx o ho).1
        ·rw[<-AP]at mf
         exact absurd mf (rM ((List.pairwise_cons.1 bD).1 q hq))
      simp only[Array.getD_eq_getD_getElem?]at this ⊢
      rw[Array.getElem?_eq_getElem (by omega)]at this ⊢
      exact this
    rw[nT]at gY
    cases gY
  ·unfold Region.ready at hi
   rw[List.mem_filter]at hi
   obtain⟨cD,dk⟩:=hi;have ai:i<ops.size:=by simpa using cD
   simp only[Bool.and_eq_true,Bool.not_eq_true']at dk
   obtain⟨aH,dk⟩:=dk;obtain⟨p,hp,rfl⟩:=(iK i ai).1 aH;obtain⟨o,ho,aX⟩:=e9 p hp;rw[ho]at dk
   simp only[Option.map_some,Option.getD_some,Array.all_eq_true']at dk
   have fY:∀d∈zo o,ar.getD d true=true:=by
    intro d hd;unfold zo at hd
    rw[List.mem_map]at hd
    obtain⟨ed,kR,rfl⟩:=hd;rw[List.mem_filter]at kR
    have:=dk ed (by simpa using kR.1)
    rw[kR.2]at this
    simp only[Bool.not_true,Bool.false_or]at this
    simp only[Array.getD_eq_getD_getElem?]at this ⊢
    cases hx:ar[ed.on]? with
    |none=>rfl
    |some x=>rw[hx]at this;exact this
   have aj:∀x∈pt.getD p.idx [],ar.getD x true=true:=by
    intro x hx;rcases(ud p.idx o ho).2.2 x hx with hd|⟨d,hd,hx⟩
    ·exact fY x hd
    ·exact cK d ((ud p.idx o ho).2.1 d hd).1 (fY d hd) x hx
   obtain⟨l1,l2,rfl⟩:=List.append_of_mem hp;have bA:(l1++l2).Sublist (l1++p::l2):=(List.sublist_cons_self p l2).append_left l1;have hb:∀q∈l1,apart q.toII p.toII=true∧q.q=true∧(p.q=true∨(q.op.isLoad=true->p.chk.contains q.idx=true)):=by
    intro q hq;have h1:=(List.pairwise_append.1 aM).2.2 q hq p (by simp)
    have h2:q.idx∉pt.getD p.idx []:=by
     intro hx
     have:=aj _ hx
     obtain⟨oq,CQ,_⟩:=e9 q (by simp[hq])
     rw[(iK q.idx (Array.getElem?_eq_some_iff.1 CQ).1).2 ⟨q,by simp[hq],rfl⟩]at this
     cases this
    unfold Ql at h1
    simp only[Bool.or_eq_true,Bool.and_eq_true,Bool.not_eq_true']at h1
    rcases h1 with h1|⟨⟨h1,h3⟩,h4⟩
    ·exact absurd (List.contains_iff_mem.1 h1) h2
    ·refine⟨h1,h3,?_⟩
     rcases h4 with (h4|h4)|h4
     ·exact .inl h4
     ·exact .inr fun x=>by rw[x]at h4;cases h4
     ·exact .inr fun _=>h4
   -- BN is left behind this step
   have dR:(l1++l2).length=fuel:=by simp at hlen ⊢;omega
   have xP:(l1++l2).Pairwise fun q p=>q.idx≠p.idx:=by
    have:=(List.Nodup.sublist (bA.map (·.idx)) jf)
    rw[List.Nodup,List.pairwise_map]at this
    exact this
   have nX:∀q∈l1++l2,q.idx≠p.idx:=by
    intro q hq he;have h1:(l1++p::l2).Pairwise fun q p=>q.idx≠p.idx:=by
     rw[List.Nodup,List.pairwise_map]at jf
     exact jf
    rw[List.pairwise_append]at h1
    rcases List.mem_append.1 hq with hq|hq
    ·exact h1.2.2 q hq p (by simp) he
    ·exact(List.pairwise_cons.1 h1.2.1).1 q hq he.symm
   have sF:∀k,k<ops.size->((ar.setIfInBounds p.idx true).getD k true=false↔∃it∈l1++l2,it.idx=k):=by
    intro k hk;rw[ZJ]
    by_cases aq:k=p.idx
    ·subst aq
     rw[if_pos rfl];exact⟨fun x=>(Bool.noConfusion x),fun⟨q,hq,he⟩=>absurd he (nX q hq)⟩
    ·rw[if_neg aq,iK k hk]
     constructor
     ·rintro⟨q,hq,rfl⟩
      simp only[List.mem_append,List.mem_cons]at hq
      rcases hq with hq|rfl|hq
      ·exact⟨q,by simp[hq],rfl⟩
      ·exact absurd rfl aq
      ·exact⟨q,by simp[hq],rfl⟩
     ·rintro⟨q,hq,rfl⟩
      exact⟨q,bA.subset hq,rfl⟩
   have yC:∀k,k<ops.size->(ar.setIfInBounds p.idx true).getD k true=true->∀x∈pt.getD k [],(ar.setIfInBounds p.idx true).getD x true=true:=by
    intro k hk hJ x hx;rw[ZJ]at hJ ⊢
    split
    ·rfl
    ·by_cases aq:k=p.idx
     ·subst aq;exact aj x hx
     ·rw[if_neg aq]at hJ;exact cK k hk hJ x hx
   have go:∀{j':Inj} {h':AHeap} {w':World} {e':Env} {a':Act} {aJ:List Rec},(∀it∈l1++l2,∀k,it.op.revK=some k->nb+k<h'.next∧j' (nb+k)=none∧∃z,zs[k]? = some z∧h'.obj (nb+k)=some ⟨true,z⟩)->
     MR B w0 j' h' w'->ER nt j' e' a'->DV P nb (l1++l2) aJ e' h' K->FR js hs j' h'->wpAny P .any ops Q fuel (ar.setIfInBounds p.idx true) a' w':=by
    intro j' h' w' e' a' aJ nZ m' r' bU dy;exact zGf AS cJ hn fuel _ (l1++l2) dR (by simpa using cG) sF (aM.sublist bA) (bD.sublist bA) (by rw[List.Nodup,List.pairwise_map];exact xP) (fT.sublist bA) yC
     (fun it hit=>e9 it (bA.subset hit)) nZ m' r' bU dy
   cases hq:p.q with
   |true=>
    obtain⟨v,hv,bU⟩:=zDF hq l1 (fun q dg=>⟨(hb q dg).2.1,(hb q dg).1⟩) hk
    rcases aX with ⟨jW,_⟩|⟨k,z',dc,db,jh,_,hd,ak,hg⟩
    ·exact quiet_step m r ho jW hq hv fun a' r'=>go (fun it hit=>jd it (bA.subset hit)) m r' bU hf
    ·obtain⟨g1,g2,zz,g3,g4⟩:=jd p (by simp) k dc
     rw[db]at g3
     cases g3;refine zKz m r ho jh hd ak hg g2 g4 hv ?_;intro j' a' w' hle uI m' r';refine go (fun it hit kk mc=>?_) m' r' bU ?_
     ·obtain⟨q1,q2,q3⟩:=jd it (bA.subset hit) kk mc
      refine⟨q1,?_,q3⟩;have aC:kk≠k:=by
       rw[List.pairwise_append]at fT
       rcases List.mem_append.1 hit with hit|hit
       ·exact fT.2.2 it hit p (by simp) kk k mc dc
       ·exact fun x=>(List.pairwise_cons.1 fT.2.1).1 it hit k kk dc mc x.symm
      rw[uI _ (by omega)]
      exact q2
     ·refine⟨hf.next,fun o' cR=>?_,hf.pend⟩
      rw[uI _ (by omega)]
      exact hf.inj o' cR
   |false=>
    have bU:=zFB hq l1 (fun q dg=>⟨(hb q dg).2.1,(hb q dg).1,by
     rcases(hb q dg).2.2 with x|x
     ·rw[hq]at x;cases x
     ·exact x⟩) hk
    rcases aX with ⟨jW,_⟩|⟨k,z',dc,db,jh,pU,_⟩
    ·refine zDh m r ho jW hq bU ?_
     intro v h' j' a' w' dy m' r' yb;refine go (fun it hit kk mc=>?_) m' r' yb.2 (hf.trans dy)
     obtain⟨q1,q2,z,q3,q4⟩:=jd it (bA.subset hit) kk mc;exact⟨Nat.lt_of_lt_of_le q1 dy.next,(dy.inj _ q1).trans q2,z,q3,(dy.pend _ q1 q2).trans q4⟩
    ·rw[hq]at pU;cases pU
end Go.Ab
