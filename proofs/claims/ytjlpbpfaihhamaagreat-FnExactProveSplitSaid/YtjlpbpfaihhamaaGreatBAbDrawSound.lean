/- .. and that this walk speaks of every order. -/
import Derived.Test.YtjlpbpfaihhamaaGreatBAbDraw
set_option linter.unusedSimpArgs false
set_option linter.unusedVariables false
namespace Go.Ab
open Go.RowKit
def ZK (o:Oper):List Nat:=(o.after.toList.filter fun x=>Region.binds .any x).map (·.on)
def IOp.revK:IOp→Option Nat
 | .rev k=>some k
 | .revS k _=>some k
 | _=>none
def cNew (P:Program) (al:Bool) (o:Oper):Option (Nat×List AV):=
 match al,o.op with
 | true,.buildSlice t len ps=>match P.underlying t with
  | some (.slice et)=>(P.info? et).bind fun i=>i.zero.bind fun z=>(ZE z.cells.toList).bind fun zs=>(zAO i.size ps.toList).bind fun qs=>
   if qs.all (fun p=>p.2.2.rd.isEmpty)=true∧zs.length=i.size∧i.size≠0∧len*i.size≤16777216 then(afill (zeros zs len) (qs.map fun p=>(p.1,p.2.1,p.2.2.ev (fun _=>.undef)))).map fun cs=>(len,cs)else none
  | _=>none
 | _,_=>none
def cDI (P:Program) (nt:Nat) (ops:Array Oper) (pt:List (List Nat)) (al:Bool) (before:List DI) (k i:Nat):Option (DI×Option (List AV)):=
 (ops[i]?).bind fun o=>match cNew P al o with
  | some (len,zs)=>(zAN ops o.guard).bind fun g=>if dstOk nt o.dst=true then some (⟨⟨o.dst,.revS k len,true,g⟩,i,[]⟩,some zs)else none
  | none=>match o.op with
  | .alloc t=>(zAN ops o.guard).bind fun g=>if dstOk nt o.dst=true then((P.info? t).bind (·.zero)).bind fun z=>(ZE z.cells.toList).map fun zs=>(⟨⟨o.dst,.rev k,true,g⟩,i,[]⟩,some zs)else none
  | _=>(cItem P nt ops o).map fun it=>(⟨it,i,if it.q=true then []else(before.filter fun q=>q.op.isLoad && !(pt.getD i []).contains q.idx).map (·.idx)⟩,none)
def cDIs (P:Program) (nt:Nat) (ops:Array Oper) (pt:List (List Nat)) (al:Bool):List Nat→List DI→Nat→Option (List DI×List (List AV))
 | [],_,_=>some ([],[])
 | i::r,before,k=>(cDI P nt ops pt al before k i).bind fun x=>match x.2 with
  | none=>(cDIs P nt ops pt al r (before++[x.1]) k).map fun y=>(x.1::y.1,y.2)
  | some z=>(cDIs P nt ops pt al r (before++[x.1]) (k+1)).map fun y=>(x.1::y.1,z::y.2)
def zAg (pt:List (List Nat)) (q p:DI):Bool:=
 (pt.getD p.idx []).contains q.idx || (apart q.toII p.toII && q.q && (p.q || !q.op.isLoad || p.chk.contains q.idx))
def pairs (f:DI→DI→Bool):List DI→Bool
 | []=>true
 | q::r=>r.all (f q) && pairs f r
def ptOk (ops:Array Oper) (pt:List (List Nat)):Bool:=
 (List.range ops.size).all fun i=>match ops[i]? with
  | some o=>!(pt.getD i []).contains i && (ZK o).all (fun d=>decide (d<ops.size) && (pt.getD i []).contains d) && (pt.getD i []).all fun x=>(ZK o).any fun d=>d == x || (pt.getD d []).contains x
  | none=>true
def dOk (ops:Array Oper) (pt:List (List Nat)) (order:List Nat) (its:List DI):Bool:=
 ptOk ops pt && (its.map (·.idx) == order) && decide order.Nodup && (order.length == ops.size) && (List.range ops.size).all (fun i=>order.contains i) &&
 pairs (zAg pt) its && pairs (fun q p=>!(pt.getD q.idx []).contains p.idx) its
theorem zEn {f:DI→DI→Bool}:∀{l:List DI},pairs f l=true→l.Pairwise fun q p=>f q p=true
 | [],_=>.nil
 | q::r,h=>by
  simp only [pairs,Bool.and_eq_true,List.all_eq_true]at h
  exact .cons h.1 (zEn h.2)
variable {P:Program} {B:Nat} {w0 w:World} {j:Inj} {h h':AHeap} {nt nb:Nat} {e e':Env} {a:Act} {ops:Array Oper} {Q:Exit→Act→World→Prop} {pt:List (List Nat)} {zs:List (List AV)}
def Laid (P:Program) (op:IOp) (o:Op) (k:Nat) (z':List AV):Prop:=
 (∃t i z,op=.rev k∧o=.alloc t∧P.info? t=some i∧i.zero=some z∧ZE z.cells.toList=some z')∨
 ∃t et i z zs len ps qs,op=.revS k len∧o=.buildSlice t len ps∧P.underlying t=some (.slice et)∧P.info? et=some i∧i.zero=some z∧ZE z.cells.toList=some zs∧zs.length=i.size∧i.size≠0∧len*i.size≤16777216∧zAO i.size ps.toList=some qs∧qs.all (fun p=>p.2.2.rd.isEmpty)=true∧afill (zeros zs len) (qs.map fun p=>(p.1,p.2.1,p.2.2.ev (fun _=>.undef)))=some z'
def From (P:Program) (nt:Nat) (ops:Array Oper) (zs:List (List AV)) (it:DI):Prop:=
 ∃o,ops[it.idx]? = some o∧(cItem P nt ops o=some it.toII∧it.op.revK=none∨
  ∃k z',it.op.revK=some k∧zs[k]? = some z'∧Laid P it.op o.op k z'∧it.q=true∧it.dst=o.dst∧(∀d,it.dst=some d→d<nt)∧zAN ops o.guard=some it.guard)
theorem zNS {P:Program} {al:Bool} {o:Oper} {len:Nat} {z':List AV} (h:cNew P al o=some (len,z')) (k:Nat):Laid P (.revS k len) o.op k z':=by
 unfold cNew at h
 split at h
 ·rename_i t len' ps hop
  split at h
  ·rename_i et hu
   simp only [Option.bind_eq_some_iff]at h
   obtain⟨i,hi,z,hz,zs,hzs,qs,hqs,h⟩:=h
   split at h
   ·rename_i hc
    simp only [Option.map_eq_some_iff,Prod.mk.injEq]at h
    obtain⟨cs,hcs,rfl,rfl⟩:=h;exact .inr ⟨t,et,i,z,zs,_,ps,qs,rfl,hop,hu,hi,hz,hzs,hc.2.1,hc.2.2.1,hc.2.2.2,hqs,hc.1,hcs⟩
   ·cases h
  ·cases h
 ·cases h
theorem zEa {o:Oper} {it:II} (hc:cItem P nt ops o=some it) (op:IOp) (hk:it.op=op) (h:(∃k,op=.rev k)∨∃k n,op=.revS k n):False:=by
 obtain⟨_,_,_,hop⟩:=zBx hc;rcases h with ⟨k,rfl⟩|⟨k,n,rfl⟩
 ·rcases hop with ⟨_,hop⟩ | ⟨_,hop⟩
  ·rw [hk]at hop
   cases ho:o.op<;>rw [ho]at hop<;>simp only [copQ]at hop<;>(try (cases hop;done))<;>(repeat (first | (split at hop) | (simp only [Option.bind_eq_some_iff,Option.map_eq_some_iff]at hop) | (obtain⟨_,_,hop⟩:=hop) | (cases hop;done)))
  ·rw [hk]at hop
   cases ho:o.op<;>rw [ho]at hop<;>simp only [copE,zDz]at hop<;>(try (cases hop;done))<;>(repeat (first | (split at hop) | (simp only [Option.bind_eq_some_iff,Option.map_eq_some_iff]at hop) | (obtain⟨_,_,hop⟩:=hop) | (cases hop;done)))
 ·rcases hop with ⟨_,hop⟩ | ⟨_,hop⟩
  ·rw [hk]at hop
   cases ho:o.op<;>rw [ho]at hop<;>simp only [copQ]at hop<;>(try (cases hop;done))<;>(repeat (first | (split at hop) | (simp only [Option.bind_eq_some_iff,Option.map_eq_some_iff]at hop) | (obtain⟨_,_,hop⟩:=hop) | (cases hop;done)))
  ·rw [hk]at hop
   cases ho:o.op<;>rw [ho]at hop<;>simp only [copE,zDz]at hop<;>(try (cases hop;done))<;>(repeat (first | (split at hop) | (simp only [Option.bind_eq_some_iff,Option.map_eq_some_iff]at hop) | (obtain⟨_,_,hop⟩:=hop) | (cases hop;done)))
theorem zLS {o:Oper} {it:II} (hc:cItem P nt ops o=some it):it.op.revK=none:=by
 cases hop:it.op with
 | rev k=>exact(zEa hc _ hop (.inl ⟨k,rfl⟩)).elim
 | revS k n=>exact(zEa hc _ hop (.inr ⟨k,n,rfl⟩)).elim
 | _=>rfl
theorem zPB {al:Bool} {before:List DI} {k i:Nat} {it:DI} {oz:Option (List AV)} (hit:cDI P nt ops pt al before k i=some (it,oz)):∃o,ops[i]? = some o∧it.idx=i∧
  ((oz=none∧cItem P nt ops o=some it.toII)∨∃z',oz=some z'∧it.op.revK=some k∧Laid P it.op o.op k z'∧it.q=true∧it.dst=o.dst∧(∀d,it.dst=some d→d<nt)∧zAN ops o.guard=some it.guard):=by
 simp only [cDI,Option.bind_eq_some_iff]at hit
 obtain⟨o,ho,hit⟩:=hit;have hd':∀{d0:Option Nat},dstOk nt d0=true→∀d,d0=some d→d<nt:=fun {d0} hd d hd'=>by
  rw [hd']at hd
  simpa [dstOk]using hd
 split at hit
 ·rename_i len zs hn
  simp only [Option.bind_eq_some_iff]at hit
  obtain⟨g,hg,hit⟩:=hit
  split at hit
  ·rename_i hd
   cases hit;exact⟨o,ho,rfl,.inr ⟨zs,rfl,rfl,zNS hn k,rfl,rfl,hd' hd,hg⟩⟩
  ·cases hit
 ·split at hit
  ·rename_i t hop
   simp only [Option.bind_eq_some_iff]at hit
   obtain⟨g,hg,hit⟩:=hit
   split at hit
   ·rename_i hd
    simp only [Option.bind_eq_some_iff,Option.map_eq_some_iff,Prod.mk.injEq]at hit
    obtain⟨z,⟨ti,hti,hz⟩,z',hz',rfl,rfl⟩:=hit;exact⟨o,ho,rfl,.inr ⟨z',rfl,rfl,.inl ⟨t,ti,z,rfl,hop,hti,hz,hz'⟩,rfl,rfl,hd' hd,hg⟩⟩
   ·cases hit
  ·simp only [Option.map_eq_some_iff,Prod.mk.injEq]at hit
   obtain⟨it',hit',rfl,rfl⟩:=hit;exact⟨o,ho,rfl,.inl ⟨rfl,hit'⟩⟩
theorem zDd {al:Bool}:∀(order:List Nat) (before:List DI) (k:Nat) {its:List DI} {zs':List (List AV)},cDIs P nt ops pt al order before k=some (its,zs')→∀pre:List (List AV),pre.length=k→
  (∀it∈its,From P nt ops (pre++zs') it∧∀m,it.op.revK=some m→k≤m)∧its.Pairwise fun q p=>∀m m',q.op.revK=some m→p.op.revK=some m'→m≠m'
 | [],before,k,its,zs',hc,pre,hp=>by
  cases hc;exact⟨fun it hit=>(List.not_mem_nil hit).elim,.nil⟩
 | i::r,before,k,its,zs',hc,pre,hp=>by
  simp only [cDIs,Option.bind_eq_some_iff]at hc
  obtain⟨⟨it,oz⟩,hit,hc⟩:=hc;obtain⟨o,ho,rfl,hcase⟩:=zPB hit;rcases hcase with ⟨rfl,hci⟩|⟨z',rfl,hrev,hlaid,hq,hdst,hlt,hg⟩
  ·simp only [Option.map_eq_some_iff,Prod.mk.injEq]at hc
   obtain⟨⟨its1,zs1⟩,hr,rfl,rfl⟩:=hc;obtain⟨h1,h2⟩:=zDd r _ k hr pre hp;have hno:=zLS hci;refine⟨fun x hx=>?_,?_⟩
   ·rcases List.mem_cons.1 hx with rfl | hx
    ·exact⟨⟨o,ho,.inl ⟨hci,hno⟩⟩,fun m hm=>by rw [hno]at hm;cases hm⟩
    ·exact h1 x hx
   ·exact .cons (fun x hx m m' hm hm'=>by rw [hno]at hm;cases hm) h2
  ·simp only [Option.map_eq_some_iff,Prod.mk.injEq]at hc
   obtain⟨⟨its1,zs1⟩,hr,rfl,rfl⟩:=hc;obtain⟨h1,h2⟩:=zDd r _ (k+1) hr (pre++[z']) (by simp [hp])
   refine⟨fun x hx=>?_,?_⟩
   ·rcases List.mem_cons.1 hx with rfl | hx
    ·refine⟨⟨o,ho,.inr ⟨k,z',hrev,?_,hlaid,hq,hdst,hlt,hg⟩⟩,fun m hm=>by rw [hrev]at hm;cases hm;exact Nat.le_refl _⟩
     simp [←hp]
    ·obtain⟨f1,f2⟩:=h1 x hx
     refine⟨by simpa using f1,fun m hm=>?_⟩
     have:=f2 m hm
     omega
   ·refine .cons (fun x hx m m' hm hm'=>?_) h2
    have:=(h1 x hx).2 m' hm'
    rw [hrev]at hm
    cases hm;omega
theorem zOj (m:MR B w0 j h w) {e:Env} {a:Act} (r:ER nt j e a) {op:IOp} {o:Oper} {k:Nat} {z':List AV} (hl:Laid P op o.op k z') (hj:j (nb+k)=none) (hobj:h.obj (nb+k)=some ⟨true,z'⟩) {v:AV} (hv:qv nb op e h=some v):
  ∃(cur:Array Value) (ty:TypeId) (val:Value),(execOp a.eval o).run P w=.ok (.value val) (w.alloc (.cells cur ty))∧MR B w0 (j.put (nb+k) ⟨w.heap.size,0,0,false⟩) h (w.alloc (.cells cur ty))∧j.le (j.put (nb+k) ⟨w.heap.size,0,0,false⟩)∧VI (j.put (nb+k) ⟨w.heap.size,0,0,false⟩) v val:=by
 rcases hl with ⟨t,i,z,rfl,ho,hti,hz,hz'⟩|⟨t,et,i,z,zs,len,ps,qs,rfl,ho,ht,hi,hz,hzs,hsz,hne,hlim,hqs,hall,hf⟩
 ·cases hv
  obtain⟨z1,z2⟩:=ZH (j:=j) hz';obtain⟨hm,hle⟩:=m.reveal (ty:=t) (cur:=z.cells) hobj hj z2 z1;exact⟨_,_,_,by simp [execOp,ho,Instr.alloc,zeroValue,typeInfo,hti,hz,newVar,newRow],hm,hle,⟨⟨w.heap.size,0,0,false⟩,by simp [Inj.put],rfl,rfl⟩⟩
 ·cases hv
  obtain⟨z1,z2⟩:=ZH (j:=j) hzs;have hl:=z1.length;have hzne:z.cells.toList≠[]:=by intro x;rw [x]at hl;simp at hl;rw [hl]at hsz;simp at hsz;omega
  have hmade:((Array.range (len*i.size)).map (z.cells[· % z.cells.size]!)).toList=(List.replicate len z.cells.toList).flatten:=by
   have:=QF z.cells.toList hzne len
   rw [←hl,hsz]at this
   simpa [madeCells]using this
  have hev:(qs.map fun p=>(p.1,p.2.1,p.2.2.ev (fun _=>AV.undef)))=qs.map fun p=>(p.1,p.2.1,p.2.2.ev e):=by
   rw [List.all_eq_true]at hall
   refine List.map_congr_left fun p hp=>?_
   rw [IX.ev_congr (x:=p.2.2) (e:=fun _=>AV.undef) (e':=e) fun t ht=>by
    have:=hall p hp
    rw [List.isEmpty_iff]at this
    rw [this]at ht;cases ht]
  rw [hev]at hf
  have hparts:∀{ps:List (Nat×Operand)} {qs:List (Nat×Nat×IX)},zAO i.size ps=some qs→ps.length=(qs.map fun p=>(p.1,p.2.1,p.2.2.ev e)).length∧
    ∀(k:Nat) (p:Nat×Operand) (q:Nat×Nat×AV),ps[k]? = some p→(qs.map fun q=>(q.1,q.2.1,q.2.2.ev e))[k]? = some q→(some (p.1*i.size,i.size))=some (q.1,q.2.1)∧VI j q.2.2 (a.eval p.2):=by
   intro ps
   induction ps with
   | nil=>intro qs hq;cases hq;exact⟨rfl,fun k p q hp=>by simp at hp⟩
   | cons p ps ih=>
    intro qs hq;obtain⟨n,x⟩:=p;simp only [zAO,Option.bind_eq_some_iff]at hq
    obtain⟨ix,hx,qs',hqs',hq⟩:=hq;cases hq;obtain⟨i1,i2⟩:=ih hqs';refine⟨by simp at i1 ⊢;exact i1,fun k p q hp hq=>?_⟩
    cases k with
    | zero=>simp at hp hq;subst hp;subst hq;exact⟨rfl,zI r hx⟩
    | succ k=>exact i2 k p q (by simpa using hp) (by simpa using hq)
  obtain⟨p1,p2⟩:=hparts hqs;obtain⟨res,hres,r1,r2⟩:=zAJ (place:=fun k=>some (k*i.size,i.size)) ps.toList _ (zeros zs len) ((Array.range (len*i.size)).map (z.cells[· % z.cells.size]!)) a.eval z'
   (by rw [hmade];exact z1.replicate len) (zBd z2 len) hf p1 p2
  obtain⟨hm,hle⟩:=m.reveal (ty:=et) (cur:=res) hobj hj r2 r1;have hlim':¬(16777216<len*i.size):=by omega
  have hlist:(ps.map fun(i,x)=>(i,a.eval x)).toList=ps.toList.map fun p=>(p.1,a.eval p.2):=by simp
  refine⟨_,_,.slice (some ⟨w.heap.size,0,none⟩) len len,?_,hm,hle,⟨⟨w.heap.size,0,0,false⟩,_,by simp [Inj.put],rfl,.inl rfl,rfl⟩⟩
  by_cases h0:len*i.size=0
  ·have:((Array.range (len*i.size)).map (z.cells[· % z.cells.size]!)) = #[]:=by rw [h0];simp [Array.range_zero']
   rw [this]at hres
   simp [execOp,ho,Instr.buildSlice,run_underlying ht,qY hi,h0,hlist,hres,newRow,Array.range_zero']
  ·simp [execOp,ho,Instr.buildSlice,run_underlying ht,qY hi,h0,hlim',hlist,hres,newRow,zeroValue,typeInfo,hi,hz]
theorem zNv (m:MR B w0 j h w) (r:ER nt j e a) {k:Nat} {o:Oper} {it:II} {z':List AV} {idx:Nat} (hi:ops[idx]? = some o) (hl:Laid P it.op o.op k z') (hd:it.dst=o.dst) (hlt:∀d,it.dst=some d→d<nt) (hg:zAN ops o.guard=some it.guard)
  (hj:j (nb+k)=none) (hobj:h.obj (nb+k)=some ⟨true,z'⟩) {v:AV} (hv:gq nb it e h=some v)
  {next:Act→World→Prop} (hn:∀j' a' w',j.le j'→(∀o,o≠nb+k→j' o=j o)→MR B w0 j' h w'→ER nt j' (e.put it.dst v) a'→next a' w'):wpOp P ops Q idx next a w:=by
 obtain⟨w1,w2,w3⟩:=zCx r hg;have run:qv nb it.op e h=some v→Region.wanted o (yielded ops a.tmps)=true→wpOp P ops Q idx next a w:=by
  intro hv hw;obtain⟨cur,ty,val,hr,hm,hle,hvi⟩:=zOj m r hl hj hobj hv;unfold wpOp;simp only [hi,hw,if_true];refine .inl ?_;unfold Oper.wp;rw [hr];refine hn _ _ _ hle (fun o' hne=>by simp [Inj.put,hne]) hm ?_
  rw [←hd];exact(r.mono hle).put hlt hvi
 unfold gq at hv
 split at hv
 ·exact run hv (w1 (by assumption))
 ·rename_i t b hgd
  split at hv
  ·rename_i c hc
   have hw:=w2 t b c hgd hc
   split at hv
   ·rename_i hcb
    exact run hv (by rw [hw];simpa using hcb)
   ·rename_i hcb
    cases hv;unfold wpOp
    have:Region.wanted o (yielded ops a.tmps)=false:=by rw [hw];simpa using hcb
    simp only [hi,this,Bool.false_eq_true,if_false];exact hn j _ w (Inj.le.refl _) (fun _ _=>rfl) m (by rw [←hd];exact r.put hlt zA4)
  ·rename_i hc
   cases hv;unfold wpOp;simp only [hi,w3 t b hgd hc,Bool.false_eq_true,if_false];exact hn j _ w (Inj.le.refl _) (fun _ _=>rfl) m (by rw [←hd];exact r.put hlt zA4)
  ·cases hv
theorem QJ (l:Array Bool) (i x:Nat):(l.setIfInBounds i true).getD x true=(if x=i then true else l.getD x true):=by
 simp only [Array.getD_eq_getD_getElem?,Array.getElem?_setIfInBounds]
 by_cases hx:x=i
 ·subst hx
  by_cases hl:x<l.size
  ·simp [hl]
  ·simp [hl]
 ·rw [if_neg (fun y=>hx y.symm),if_neg hx]
theorem zIf {K:Env→AHeap→Prop} {js:Inj} {hs:AHeap} (hnb:nb=hs.next) (hpt:ptOk ops pt=true)
  (hn:∀j' h' e' a' w',FR js hs j' h'→MR B w0 j' h' w'→ER nt j' e' a'→K e' h'→Q .normal a' w'):
  ∀(fuel:Nat) (listed:Array Bool) (rem:List DI) {j:Inj} {h:AHeap} {w:World} {e:Env} {a:Act} {recs:List Rec},rem.length=fuel→listed.size=ops.size→
   (∀i,i<ops.size→(listed.getD i true=false↔∃it∈rem,it.idx=i))→
   rem.Pairwise (fun q p=>zAg pt q p=true)→rem.Pairwise (fun q p=>(!(pt.getD q.idx []).contains p.idx)=true)→(rem.map (·.idx)).Nodup→rem.Pairwise (fun q p=>∀m m',q.op.revK=some m→p.op.revK=some m'→m≠m')→
   (∀i,i<ops.size→listed.getD i true=true→∀x∈pt.getD i [],listed.getD x true=true)→
   (∀it∈rem,From P nt ops zs it)→
   (∀it∈rem,∀k,it.op.revK=some k→nb+k<h.next∧j (nb+k)=none∧∃z,zs[k]? = some z∧h.obj (nb+k)=some ⟨true,z⟩)→
   MR B w0 j h w→ER nt j e a→DV P nb rem recs e h K→FR js hs j h→wpAny P .any ops Q fuel listed a w
 | 0,listed,rem,j,h,w,e,a,recs,hlen,hsz,hrem,_,_,_,_,_,_,_,m,r,hk,hf=>by
  have:rem=[]:=List.eq_nil_of_length_eq_zero hlen
  subst this;refine⟨?_,hn j h e a w hf m r hk⟩;unfold Region.ready;rw [List.filter_eq_nil_iff];intro i hi;have hi':i<ops.size:=by simpa using hi
  have:listed.getD i true=true:=by
   cases hl:listed.getD i true with
   | true=>rfl
   | false=>obtain⟨x,hx,_⟩:=(hrem i hi').1 hl;cases hx
  rw [this]
  simp
 | fuel+1,listed,rem,j,h,w,e,a,recs,hlen,hsz,hrem,hp1,hp2,hnd,hp3,hcl,hfrom,hpend,m,r,hk,hf=>by
  have ptd:∀i o,ops[i]? = some o→i∉pt.getD i []∧(∀d∈ZK o,d<ops.size∧d∈pt.getD i [])∧∀x∈pt.getD i [],x∈ZK o∨∃d∈ZK o,x∈pt.getD d []:=by
   intro i o ho;have hi:i<ops.size:=(Array.getElem?_eq_some_iff.1 ho).1;unfold ptOk at hpt
   rw [List.all_eq_true]at hpt
   have:=hpt i (by simpa using hi)
   simp only [ho,Bool.and_eq_true,List.all_eq_true,List.any_eq_true,Bool.not_eq_true',Bool.or_eq_true,beq_iff_eq,decide_eq_true_eq]at this
   refine⟨fun hx=>?_,fun d hd=>⟨(this.1.2 d hd).1,by simpa using (this.1.2 d hd).2⟩,fun x hx=>?_⟩
   ·have h1:=this.1.1
    rw [List.contains_iff_mem.2 hx]at h1
    cases h1
   obtain⟨d,hd,hx⟩:=this.2 x hx;rcases hx with rfl|hx
   ·exact .inl hd
   ·exact .inr ⟨d,hd,by simpa using hx⟩
  have notin:∀{q p:DI},(!(pt.getD q.idx []).contains p.idx)=true→p.idx∉pt.getD q.idx []:=by
   intro q p hc hx;rw [List.contains_iff_mem.2 hx]at hc
   cases hc
  refine⟨fun hready=>?_,fun i hi=>?_⟩
  ·-- something is always ready
   exfalso
   cases rem with
   | nil=>simp at hlen
   | cons p rest=>
    obtain⟨o,ho,_⟩:=hfrom p (by simp)
    have hlt:p.idx<ops.size:=(Array.getElem?_eq_some_iff.1 ho).1;have hpl:listed.getD p.idx true=false:=(hrem p.idx hlt).2 ⟨p,by simp,rfl⟩
    have hmem:p.idx∈Region.ready .any ops listed:=by
     unfold Region.ready;rw [List.mem_filter];refine⟨by simpa using hlt,?_⟩
     rw [hpl,ho];simp only [Bool.not_false,Option.map_some,Option.getD_some,Bool.true_and,Array.all_eq_true'];intro ed hed;cases hb:Region.binds .any ed with
     | false=>rfl
     | true=>
      have hdir:ed.on∈ZK o:=by
       unfold ZK;rw [List.mem_map];exact⟨ed,by simp [hed,hb],rfl⟩
      obtain⟨hin1,hin2⟩:=(ptd p.idx o ho).2.1 _ hdir;simp only [Bool.not_true,Bool.false_or]
      have:listed.getD ed.on true=true:=by
       cases hl:listed.getD ed.on true with
       | true=>rfl
       | false=>
        obtain⟨q,hq,hqi⟩:=(hrem _ hin1).1 hl;rcases List.mem_cons.1 hq with rfl|hq
        ·rw [←hqi]at hin2;exact absurd hin2 (ptd q.idx o ho).1
        ·rw [←hqi]at hin2
         exact absurd hin2 (notin ((List.pairwise_cons.1 hp2).1 q hq))
      simp only [Array.getD_eq_getD_getElem?]at this ⊢
      rw [Array.getElem?_eq_getElem (by omega)]at this ⊢
      exact this
    rw [hready]at hmem
    cases hmem
  ·unfold Region.ready at hi
   rw [List.mem_filter]at hi
   obtain⟨hi1,hi2⟩:=hi;have hlt:i<ops.size:=by simpa using hi1
   simp only [Bool.and_eq_true,Bool.not_eq_true']at hi2
   obtain⟨hil,hi2⟩:=hi2;obtain⟨p,hp,rfl⟩:=(hrem i hlt).1 hil;obtain⟨o,ho,hop⟩:=hfrom p hp;rw [ho]at hi2
   simp only [Option.map_some,Option.getD_some,Array.all_eq_true']at hi2
   have hdl:∀d∈ZK o,listed.getD d true=true:=by
    intro d hd;unfold ZK at hd
    rw [List.mem_map]at hd
    obtain⟨ed,hed,rfl⟩:=hd;rw [List.mem_filter]at hed
    have:=hi2 ed (by simpa using hed.1)
    rw [hed.2]at this
    simp only [Bool.not_true,Bool.false_or]at this
    simp only [Array.getD_eq_getD_getElem?]at this ⊢
    cases hx:listed[ed.on]? with
    | none=>rfl
    | some x=>rw [hx]at this;exact this
   have hall:∀x∈pt.getD p.idx [],listed.getD x true=true:=by
    intro x hx;rcases(ptd p.idx o ho).2.2 x hx with hd|⟨d,hd,hx⟩
    ·exact hdl x hd
    ·exact hcl d ((ptd p.idx o ho).2.1 d hd).1 (hdl d hd) x hx
   obtain⟨l1,l2,rfl⟩:=List.append_of_mem hp;have hsub:(l1++l2).Sublist (l1++p::l2):=(List.sublist_cons_self p l2).append_left l1;have hb:∀q∈l1,apart q.toII p.toII=true∧q.q=true∧(p.q=true∨(q.op.isLoad=true→p.chk.contains q.idx=true)):=by
    intro q hq;have h1:=(List.pairwise_append.1 hp1).2.2 q hq p (by simp)
    have h2:q.idx∉pt.getD p.idx []:=by
     intro hx
     have:=hall _ hx
     obtain⟨oq,hoq,_⟩:=hfrom q (by simp [hq])
     rw [(hrem q.idx (Array.getElem?_eq_some_iff.1 hoq).1).2 ⟨q,by simp [hq],rfl⟩]at this
     cases this
    unfold zAg at h1
    simp only [Bool.or_eq_true,Bool.and_eq_true,Bool.not_eq_true']at h1
    rcases h1 with h1|⟨⟨h1,h3⟩,h4⟩
    ·exact absurd (List.contains_iff_mem.1 h1) h2
    ·refine⟨h1,h3,?_⟩
     rcases h4 with (h4|h4)|h4
     ·exact .inl h4
     ·exact .inr fun x=>by rw [x]at h4;cases h4
     ·exact .inr fun _=>h4
   -- what is left behind this step
   have hlen':(l1++l2).length=fuel:=by simp at hlen ⊢;omega
   have hnd':(l1++l2).Pairwise fun q p=>q.idx≠p.idx:=by
    have:=(List.Nodup.sublist (hsub.map (·.idx)) hnd)
    rw [List.Nodup,List.pairwise_map]at this
    exact this
   have hpn:∀q∈l1++l2,q.idx≠p.idx:=by
    intro q hq he;have h1:(l1++p::l2).Pairwise fun q p=>q.idx≠p.idx:=by
     rw [List.Nodup,List.pairwise_map]at hnd
     exact hnd
    rw [List.pairwise_append]at h1
    rcases List.mem_append.1 hq with hq|hq
    ·exact h1.2.2 q hq p (by simp) he
    ·exact(List.pairwise_cons.1 h1.2.1).1 q hq he.symm
   have hrem':∀k,k<ops.size→((listed.setIfInBounds p.idx true).getD k true=false↔∃it∈l1++l2,it.idx=k):=by
    intro k hk;rw [QJ]
    by_cases hkp:k=p.idx
    ·subst hkp
     rw [if_pos rfl];exact⟨fun x=>(Bool.noConfusion x),fun⟨q,hq,he⟩=>absurd he (hpn q hq)⟩
    ·rw [if_neg hkp,hrem k hk]
     constructor
     ·rintro ⟨q,hq,rfl⟩
      simp only [List.mem_append,List.mem_cons]at hq
      rcases hq with hq|rfl|hq
      ·exact⟨q,by simp [hq],rfl⟩
      ·exact absurd rfl hkp
      ·exact⟨q,by simp [hq],rfl⟩
     ·rintro ⟨q,hq,rfl⟩
      exact⟨q,hsub.subset hq,rfl⟩
   have hcl':∀k,k<ops.size→(listed.setIfInBounds p.idx true).getD k true=true→∀x∈pt.getD k [],(listed.setIfInBounds p.idx true).getD x true=true:=by
    intro k hk hkl x hx;rw [QJ]at hkl ⊢
    split
    ·rfl
    ·by_cases hkp:k=p.idx
     ·subst hkp;exact hall x hx
     ·rw [if_neg hkp]at hkl;exact hcl k hk hkl x hx
   have go:∀{j':Inj} {h':AHeap} {w':World} {e':Env} {a':Act} {recs':List Rec},(∀it∈l1++l2,∀k,it.op.revK=some k→nb+k<h'.next∧j' (nb+k)=none∧∃z,zs[k]? = some z∧h'.obj (nb+k)=some ⟨true,z⟩)→
     MR B w0 j' h' w'→ER nt j' e' a'→DV P nb (l1++l2) recs' e' h' K→FR js hs j' h'→wpAny P .any ops Q fuel (listed.setIfInBounds p.idx true) a' w':=by
    intro j' h' w' e' a' recs' hpend' m' r' hk' hf';exact zIf hnb hpt hn fuel _ (l1++l2) hlen' (by simpa using hsz) hrem' (hp1.sublist hsub) (hp2.sublist hsub) (by rw [List.Nodup,List.pairwise_map];exact hnd') (hp3.sublist hsub) hcl'
     (fun it hit=>hfrom it (hsub.subset hit)) hpend' m' r' hk' hf'
   cases hq:p.q with
   | true=>
    obtain⟨v,hv,hk'⟩:=zEV hq l1 (fun q hq'=>⟨(hb q hq').2.1,(hb q hq').1⟩) hk
    rcases hop with ⟨hci,_⟩|⟨k,z',hrev,hzs,hlaid,_,hd,hlt',hg⟩
    ·exact quiet_step m r ho hci hq hv fun a' r'=>go (fun it hit=>hpend it (hsub.subset hit)) m r' hk' hf
    ·obtain⟨g1,g2,zz,g3,g4⟩:=hpend p (by simp) k hrev
     rw [hzs]at g3
     cases g3;refine zNv m r ho hlaid hd hlt' hg g2 g4 hv ?_;intro j' a' w' hle hj' m' r';refine go (fun it hit kk hkk=>?_) m' r' hk' ?_
     ·obtain⟨q1,q2,q3⟩:=hpend it (hsub.subset hit) kk hkk
      refine⟨q1,?_,q3⟩;have hne:kk≠k:=by
       rw [List.pairwise_append]at hp3
       rcases List.mem_append.1 hit with hit|hit
       ·exact hp3.2.2 it hit p (by simp) kk k hkk hrev
       ·exact fun x=>(List.pairwise_cons.1 hp3.2.1).1 it hit k kk hrev hkk x.symm
      rw [hj' _ (by omega)]
      exact q2
     ·refine⟨hf.next,fun o' ho'=>?_,hf.pend⟩
      rw [hj' _ (by omega)]
      exact hf.inj o' ho'
   | false=>
    have hk':=zGm hq l1 (fun q hq'=>⟨(hb q hq').2.1,(hb q hq').1,by
     rcases(hb q hq').2.2 with x|x
     ·rw [hq]at x;cases x
     ·exact x⟩) hk
    rcases hop with ⟨hci,_⟩|⟨k,z',hrev,hzs,hlaid,hqq,_⟩
    ·refine zE4 m r ho hci hq hk' ?_
     intro v h' j' a' w' hf' m' r' hk'';refine go (fun it hit kk hkk=>?_) m' r' hk''.2 (hf.trans hf')
     obtain⟨q1,q2,z,q3,q4⟩:=hpend it (hsub.subset hit) kk hkk;exact⟨Nat.lt_of_lt_of_le q1 hf'.next,(hf'.inj _ q1).trans q2,z,q3,(hf'.pend _ q1 q2).trans q4⟩
    ·rw [hq]at hqq;cases hqq
end Go.Ab
