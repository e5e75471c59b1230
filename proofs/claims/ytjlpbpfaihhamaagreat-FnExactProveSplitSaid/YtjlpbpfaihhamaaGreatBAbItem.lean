/- AN OPERATION WITH ITS GUARD AND ITS SLOT; a region in the order of its text. -/
import Derived.Test.YtjlpbpfaihhamaaGreatBAbEffWp
set_option linter.unusedSimpArgs false
set_option linter.unusedVariables false
namespace Go.Ab
open Go.RowKit
structure II where
 dst:Option Nat
 op:IOp
 q:Bool
 guard:Option (Nat×Bool)
def zAN (ops:Array Oper):Option (Nat×Bool)→Option (Option (Nat×Bool))
 | none=>some none
 | some (k,b)=>((ops[k]?).bind (·.dst)).map fun t=>some (t,b)
def dstOk (nt:Nat):Option Nat→Bool
 | some d=>decide (d<nt)
 | none=>true
def cItem (P:Program) (nt:Nat) (ops:Array Oper) (o:Oper):Option II:=
 (zAN ops o.guard).bind fun g=>if dstOk nt o.dst=true then
  match copQ P o.op with
  | some io=>some ⟨o.dst,io,true,g⟩
  | none=>(copE P o.op).map fun io=>⟨o.dst,io,false,g⟩
 else none
def gq (nb:Nat) (it:II) (e:Env) (h:AHeap):Option AV:=
 match it.guard with
 | none=>qv nb it.op e h
 | some (t,b)=>match e t with
  | .bool c=>if c=b then qv nb it.op e h else some (.tup [])
  | .tup []=>some (.tup [])
  | _=>none
def ge (P:Program) (it:II) (e:Env) (h:AHeap) (K:AV→AHeap→Prop):Prop:=
 match it.guard with
 | none=>eff P it.op e h K
 | some (t,b)=>match e t with
  | .bool c=>if c=b then eff P it.op e h K else K (.tup []) h
  | .tup []=>K (.tup []) h
  | _=>False
def RV (P:Program):List II→Env→AHeap→(Env→AHeap→Prop)→Prop
 | [],e,h,K=>K e h
 | it::r,e,h,K=>match it.q with
  | true=>optK (gq 0 it e h) fun v=>RV P r (e.put it.dst v) h K
  | false=>ge P it e h fun v h'=>RV P r (e.put it.dst v) h' K
variable {P:Program} {B:Nat} {w0 w:World} {j:Inj} {h:AHeap} {nt:Nat} {e:Env} {a:Act} {ops:Array Oper} {Q:Exit→Act→World→Prop}
theorem zKO (r:ER nt j e a) {k t:Nat} {c:Bool} (hk:(ops[k]?).bind (·.dst)=some t) (ht:e t=.bool c):yielded ops a.tmps k=some c:=by
 have hv:=r.vals t;rw [ht]at hv
 have hv':a.tmps.getD t undef=.bool c:=hv;unfold yielded;rw [hk];rw [Array.getD_eq_getD_getElem?]at hv'
 cases hh:a.tmps[t]? with
 | none=>rw [hh]at hv';cases hv'
 | some x=>rw [hh]at hv';simp at hv';subst hv';simp [hh]
theorem zA4:VI j (.tup []) undef:=⟨[],rfl,rfl⟩
theorem zHR (r:ER nt j e a) {k t:Nat} (hk:(ops[k]?).bind (·.dst)=some t) (ht:e t=.tup []):yielded ops a.tmps k=none:=by
 have hv:=r.vals t;rw [ht]at hv
 obtain⟨vs,hvs,hv⟩:=hv;cases hvs;unfold yielded;rw [hk];rw [Array.getD_eq_getD_getElem?]at hv
 cases hh:a.tmps[t]? with
 | none=>simp [hh]
 | some x=>rw [hh]at hv;simp at hv;subst hv;simp [hh]
theorem zBx {o:Oper} {it:II} (hc:cItem P nt ops o=some it):
  it.dst=o.dst∧(∀d,it.dst=some d→d<nt)∧zAN ops o.guard=some it.guard∧(it.q=true∧copQ P o.op=some it.op∨it.q=false∧copE P o.op=some it.op):=by
 simp only [cItem,Option.bind_eq_some_iff]at hc
 obtain⟨g,hg,hc⟩:=hc
 split at hc
 ·rename_i hd
  have hd':∀d,o.dst=some d→d<nt:=by
   intro d hd';rw [hd']at hd
   simpa [dstOk]using hd
  split at hc
  ·rename_i io hq
   cases hc;exact⟨rfl,hd',hg,.inl ⟨rfl,hq⟩⟩
  ·simp only [Option.map_eq_some_iff]at hc
   obtain⟨io,hio,rfl⟩:=hc;exact⟨rfl,hd',hg,.inr ⟨rfl,hio⟩⟩
 ·cases hc
theorem zCx (r:ER nt j e a) {o:Oper} {g:Option (Nat×Bool)} (hg:zAN ops o.guard=some g):
  (g=none→Region.wanted o (yielded ops a.tmps)=true)∧(∀t b c,g=some (t,b)→e t=.bool c→Region.wanted o (yielded ops a.tmps)=decide (c=b))∧∀t b,g=some (t,b)→e t=.tup []→Region.wanted o (yielded ops a.tmps)=false:=by
 cases ho:o.guard with
 | none=>
  rw [ho]at hg
  cases hg;exact⟨fun _=>by simp [Region.wanted,ho],fun t b c x=>(by cases x),fun t b x=>by cases x⟩
 | some kb=>
  obtain⟨k,b⟩:=kb;rw [ho]at hg
  simp only [zAN,Option.map_eq_some_iff]at hg
  obtain⟨t,ht,rfl⟩:=hg;refine⟨fun x=>by(cases x),fun t' b' c x hc=>?_,fun t' b' x hc=>?_⟩
  ·cases x
   simp only [Region.wanted,ho,zKO r ht hc];cases c<;>cases b<;>rfl
  ·cases x
   simp only [Region.wanted,ho,zHR r ht hc]
   rfl
theorem quiet_step (m:MR B w0 j h w) (r:ER nt j e a) {i:Nat} {o:Oper} {it:II} (hi:ops[i]? = some o) (hc:cItem P nt ops o=some it) (hq:it.q=true) {nb:Nat} {v:AV} (hv:gq nb it e h=some v)
  {next:Act→World→Prop} (hn:∀a',ER nt j (e.put it.dst v) a'→next a' w):wpOp P ops Q i next a w:=by
 obtain⟨hd,hlt,hg,hop⟩:=zBx hc;have hcq:copQ P o.op=some it.op:=by
  rcases hop with x|x
  ·exact x.2
  ·rw [hq]at x;cases x.1
 obtain⟨w1,w2,w3⟩:=zCx r hg;have run:qv nb it.op e h=some v→Region.wanted o (yielded ops a.tmps)=true→wpOp P ops Q i next a w:=by
  intro hv hw;obtain⟨cv,h1,h2⟩:=zLT m r hcq hv;unfold wpOp;simp only [hi,hw,if_true];refine .inl ?_;unfold Oper.wp;rw [h1];exact hn _ (by rw [←hd];exact r.put hlt h2)
 unfold gq at hv
 split at hv
 ·exact run hv (w1 (by assumption))
 ·rename_i t b hgd
  split at hv
  ·rename_i c hc
   have hw:=w2 t b c hgd hc
   split at hv
   ·rename_i hcb
    exact run hv (by rw [hw];simpa using hcb)
   ·rename_i hcb
    cases hv;unfold wpOp
    have:Region.wanted o (yielded ops a.tmps)=false:=by rw [hw];simpa using hcb
    simp only [hi,this,Bool.false_eq_true,if_false];exact hn _ (by rw [←hd];exact r.put hlt zA4)
  ·rename_i hc
   cases hv;unfold wpOp;simp only [hi,w3 t b hgd hc,Bool.false_eq_true,if_false];exact hn _ (by rw [←hd];exact r.put hlt zA4)
  ·cases hv
theorem zE4 (m:MR B w0 j h w) (r:ER nt j e a) {i:Nat} {o:Oper} {it:II} (hi:ops[i]? = some o) (hc:cItem P nt ops o=some it) (hq:it.q=false) {K:AV→AHeap→Prop} (hk:ge P it e h K)
  {next:Act→World→Prop} (hn:∀v h' j' a' w',FR j h j' h'→MR B w0 j' h' w'→ER nt j' (e.put it.dst v) a'→K v h'→next a' w'):wpOp P ops Q i next a w:=by
 obtain⟨hd,hlt,hg,hop⟩:=zBx hc;have hce:copE P o.op=some it.op:=by
  rcases hop with x|x
  ·rw [hq]at x;cases x.1
  ·exact x.2
 obtain⟨w1,w2,w3⟩:=zCx r hg;have run:eff P it.op e h K→Region.wanted o (yielded ops a.tmps)=true→wpOp P ops Q i next a w:=by
  intro hk hw;unfold wpOp;simp only [hi,hw,if_true];refine .inl (zLU m r hce hk ?_);intro v h' j' cv w' hf hm hv hk;exact hn v h' j' _ w' hf hm (by rw [←hd];exact(r.mono (hf.le m)).put hlt hv) hk
 unfold ge at hk
 split at hk
 ·exact run hk (w1 (by assumption))
 ·rename_i t b hgd
  split at hk
  ·rename_i c hc
   have hw:=w2 t b c hgd hc
   split at hk
   ·rename_i hcb
    exact run hk (by rw [hw];simpa using hcb)
   ·rename_i hcb
    unfold wpOp
    have:Region.wanted o (yielded ops a.tmps)=false:=by rw [hw];simpa using hcb
    simp only [hi,this,Bool.false_eq_true,if_false];exact hn (.tup []) h j _ w (FR.refl _ _) m (by rw [←hd];exact r.put hlt zA4) hk
  ·rename_i hc
   unfold wpOp;simp only [hi,w3 t b hgd hc,Bool.false_eq_true,if_false];exact hn (.tup []) h j _ w (FR.refl _ _) m (by rw [←hd];exact r.put hlt zA4) hk
  ·exact hk.elim
def zFz (P:Program) (nt:Nat) (ops:Array Oper):List Oper→Option (List II)
 | []=>some []
 | o::r=>(cItem P nt ops o).bind fun a=>(zFz P nt ops r).bind fun b=>some (a::b)
theorem zFA:∀(os:List Oper) (its:List II) (k:Nat),zFz P nt ops os=some its→ops.toList.drop k=os→∀{j:Inj} {h:AHeap} {w:World} {e:Env} {a:Act} {K:Env→AHeap→Prop},
  MR B w0 j h w→ER nt j e a→RV P its e h K→
  (∀j' h' e' a' w',FR j h j' h'→MR B w0 j' h' w'→ER nt j' e' a'→K e' h'→Q .normal a' w')→wpOps P ops Q (List.range' k (ops.size-k)) a w
 | [],its,k,hc,hd,j,h,w,e,a,K,m,r,hk,hn=>by
  cases hc
  have:ops.size-k=0:=by
   have:=congrArg List.length hd
   simpa using this
  rw [this];exact hn j h e a w (FR.refl _ _) m r hk
 | o::os,its,k,hc,hd,j,h,w,e,a,K,m,r,hk,hn=>by
  simp only [zFz,Option.bind_eq_some_iff]at hc
  obtain⟨it,hit,its',hits,hc⟩:=hc;cases hc;have hlt:k<ops.size:=by
   have:=congrArg List.length hd
   simp at this
   omega
  have hi:ops[k]? = some o:=by
   have:ops.toList[k]? = some o:=by
    have:=congrArg List.head? hd
    rwa [List.head?_drop]at this
   simpa using this
  have hd':ops.toList.drop (k+1)=os:=by
   have:=congrArg List.tail hd
   simpa [List.tail_drop]using this
  have hr:ops.size-k=(ops.size-(k+1))+1:=by omega
  rw [hr,List.range'_succ,wpOps_cons];unfold RV at hk
  split at hk
  ·rename_i hq
   obtain⟨v,hv,hk⟩:=hk;exact quiet_step m r hi hit hq hv fun a' r'=>zFA os its' (k+1) hits hd' m r' hk hn
  ·rename_i hq
   refine zE4 m r hi hit hq hk ?_;intro v h' j' a' w' hf hm hr hk;exact zFA os its' (k+1) hits hd' hm hr hk fun j'' h'' e'' a'' w'' hf'=>hn j'' h'' e'' a'' w'' (hf.trans hf')
end Go.Ab
