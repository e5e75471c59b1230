/- THE OPERATIONS WITH EFFECTS: new objects, stores, append, copy, calls. -/
import Derived.Test.YtjlpbpfaihhamaaGreatBAbBuild
import Derived.Lib.AppendZeros
set_option linter.unusedSimpArgs false
set_option linter.unusedVariables false
namespace Go.Ab
open Go.RowKit
def zAO (size:Nat):List (Nat×Operand)→Option (List (Nat×Nat×IX))
 | []=>some []
 | (i,x)::r=>(cx x).bind fun a=>(zAO size r).bind fun b=>some ((i*size,size,a)::b)
def zDz (P:Program) (c:Call):Option IOp:=
 match c.callee with
 | .builtin b=>match b,c.args.toList,c.argTypes.toList with
  | .append,[s,x],[t,t']=>match P.underlying t with
   | some (.slice et)=>if t=t' then(P.info? et).bind fun i=>i.zero.bind fun z=>(cx s).bind fun s=>(cx x).bind fun x=>
     if z.cells.size=i.size∧i.size≠0 then some (.append i.size i.bytes s x)else none else
    match P.underlying t' with
    | some (.int _)=>(P.info? et).bind fun i=>i.zero.bind fun z=>(ZE z.cells.toList).bind fun zs=>(cx s).bind fun s=>(cx x).bind fun x=>
     if zs.length=i.size∧i.size≠0 then some (.appendMk i.size i.bytes zs s x)else none
    | _=>none
   | _=>none
  | .copy,[d,s],[t,_]=>match P.underlying t with
   | some (.slice et)=>(P.info? et).bind fun i=>(cx d).bind fun d=>(cx s).bind fun s=>some (.copy i.size d s)
   | _=>none
  | _,_,_=>none
 | .value (.func f)=>if okF P f=true then(cxs c.args.toList).map (.call f)else none
 | .value (.tmp t)=>(cxs c.args.toList).map (.callV (.t t))
 | _=>none
def KT.desc:KT→TypeDesc
 | .int k=>.int k
 | .str=>.string
def mapTy (P:Program) (t:TypeId):Option (KT×AV):=
 match P.underlying t with
 | some (.map k v)=>(match P.underlying k with | some (.int kd)=>some (KT.int kd) | some .string=>some KT.str | _=>none).bind fun kt=>(P.info? v).bind fun i=>i.zero.bind fun z=>
  match z with | .bool b=>some (kt,AV.bool b) | .int kd n=>some (kt,AV.int kd n) | _=>none
 | _=>none
def copE (P:Program):Op→Option IOp
 | .alloc t=>((P.info? t).bind (·.zero)).bind fun z=>(ZE z.cells.toList).map .alloc
 | .box _ x=>(cx x).map .box
 | .buildSlice t len ps=>match P.underlying t with
  | some (.slice et)=>(P.info? et).bind fun i=>i.zero.bind fun z=>(ZE z.cells.toList).bind fun zs=>(zAO i.size ps.toList).bind fun qs=>
   if zs.length=i.size∧i.size≠0∧len*i.size≤16777216 then some (.buildSl i.size len zs qs)else none
  | _=>none
 | .store t x v=>(P.info? t).bind fun i=>(cx x).bind fun x=>(cx v).bind fun v=>some (.store i.size x v)
 | .makeSlice t l c=>match P.underlying t with
  | some (.slice et)=>(P.info? et).bind fun i=>i.zero.bind fun z=>(ZE z.cells.toList).bind fun zs=>(cx l).bind fun l=>(cx c).bind fun c=>
   if zs.length=i.size∧i.size≠0 then some (.makeSl i.size i.bytes zs l c)else none
  | _=>none
 | .call c=>zDz P c
 | .convert src dst x=>match P.underlying src,P.underlying dst with
  | some (.slice et),some .string=>match P.underlying et with
   | some (.int .u8)=>(cx x).map .strOf
   | _=>none
  | _,_=>none
 | .makeMap _ r=>if r.isNone=true then some .makeMap else none
 | .lookup t x k ok=>if ok=false then(mapTy P t).bind fun q=>(cx x).bind fun x=>(cx k).bind fun k=>some (.lookup q.1 q.2 x k)else none
 | .mapUpdate t x k v=>(mapTy P t).bind fun q=>(cx x).bind fun x=>(cx k).bind fun k=>(cx v).bind fun v=>some (.mapUpd q.1 x k v)
 | .insert t x k v=>(mapTy P t).bind fun q=>(cx x).bind fun x=>(cx k).bind fun k=>(cx v).bind fun v=>some (.mapUpd q.1 x k v)
 | _=>none
def eff (P:Program) (op:IOp) (e:Env) (h:AHeap) (K:AV→AHeap→Prop):Prop:=
 match op with
 | .alloc z=>K (.ptr h.next 0) (h.new ⟨true,z⟩)
 | .box x=>(x.ev e).cells.all AV.one=true∧K (.ptr h.next 0) (h.new ⟨true,(x.ev e).cells⟩)
 | .buildSl sz len z ps=>optK (afill (zeros z len) (ps.map fun p=>(p.1,p.2.1,p.2.2.ev e))) fun cs=>K (.sl h.next 0 len (.known len)) (h.new ⟨true,cs⟩)
 | .store n x v=>match x.ev e with
  | .ptr o i=>(v.ev e).cells.length=n∧optK (h.wr o i (v.ev e).cells) fun h'=>K .undef h'
  | _=>False
 | .makeSl sz bytes z l c=>match l.ev e,c.ev e with
  | .int _ l,.int _ c=>(0≤l∧l≤c∧c*bytes≤140737488355328∧c≤9223372036854775807)∧K (.sl h.next 0 l.toNat (.known c.toNat)) (h.new ⟨true,zeros z c.toNat⟩)
  | _,_=>False
 | .append sz bytes s x=>optK (zA9 sz bytes h (s.ev e) (x.ev e)) fun p=>K p.1 p.2
 | .appendMk sz bytes z s n=>match s.ev e,n.ev e with
  | .nils,.int _ n=>(0≤n∧n*bytes≤140737488355328∧n≤4611686018427387904)∧if 0<n then K (.sl h.next 0 n.toNat (.grown sz)) (h.new ⟨true,zeros z n.toNat⟩)else K .nils h
  | .sl o off len c,.int _ n=>(0≤n∧n*bytes≤140737488355328∧n≤4611686018427387904)∧optK (if 0<n then agrow sz bytes h (.sl o off len c) (zeros z n.toNat) n.toNat else(asame (.sl o off len c)).map fun v=>(v,h)) fun p=>K p.1 p.2
  | _,_=>False
 | .copy sz d s=>optK (acopy sz h (d.ev e) (s.ev e)) fun p=>K p.1 p.2
 | .call f args=>qj P f (args.map (·.ev e)) h K
 | .callV f args=>match f.ev e with
  | .clo f first caps=>okF P f=true∧qj P f (first++args.map (·.ev e)++caps) h K
  | _=>False
 | .strOf x=>optK ((alen (x.ev e)).bind fun n=>(zAP 1 h (x.ev e) n).bind zBZ) fun s=>K (.str s) h
 | .makeMap=>K (.mref h.next) (h.new ⟨true,[]⟩)
 | .lookup kt z x k=>match x.ev e with
  | .mref o=>optK ((h.obj o).bind fun ob=>if kt.fits (k.ev e)=true then mget kt (k.ev e) ob.cells else none) fun r=>K (r.getD z) h
  | _=>False
 | .mapUpd kt x k v=>match x.ev e with
  | .mref o=>optK ((h.obj o).bind fun ob=>if kt.fits (k.ev e)=true∧(v.ev e).leaf=true then mset kt (k.ev e) (v.ev e) ob.cells else none) fun cs=>K .undef (h.set o cs)
  | _=>False
 | _=>False
variable {P:Program} {B:Nat} {w0 w:World} {j:Inj} {h:AHeap} {nt:Nat} {e:Env} {a:Act}
def Ends (P:Program) (s:Sem Next) (w:World) (B:Nat) (w0:World) (j:Inj) (h:AHeap) (K:AV→AHeap→Prop):Prop:=
 ∃v h' j' cv w',(s.run P w=.ok (.value cv) w'∨(s.run P w=.ok .skip w'∧cv=undef))∧FR j h j' h'∧MR B w0 j' h' w'∧VI j' v cv∧K v h'
theorem QF (z:List Value) (hz:z≠[]):∀n,(madeCells z.toArray (n*z.length)).toList=(List.replicate n z).flatten:=by
 intro n;have hpos:0<z.length:=List.length_pos_iff.2 hz;apply List.ext_getElem?;intro i
 by_cases hi:i<n*z.length
 ·have h1:(madeCells z.toArray (n*z.length)).toList[i]? = z[i % z.length]?:=by
   have hlt:i % z.length<z.length:=Nat.mod_lt _ hpos;simp [madeCells,hi,hlt]
  rw [h1];clear h1
  induction n generalizing i with
  | zero=>simp at hi
  | succ n ih=>
   rw [List.replicate_succ,List.flatten_cons]
   by_cases hlt:i<z.length
   ·rw [List.getElem?_append_left hlt,Nat.mod_eq_of_lt hlt]
   ·rw [List.getElem?_append_right (by omega)]
    have:=ih (i-z.length) (by rw [Nat.succ_mul]at hi;omega)
    rw [←this]
    congr 1
    rw [Nat.mod_eq_sub_mod (by omega)]
 ·rw [List.getElem?_eq_none (by simp [madeCells];omega),List.getElem?_eq_none (by simp;omega)]
theorem VIs.replicate {zs:List AV} {z:List Value} (hz:VIs j zs z):∀n,VIs j (zeros zs n) ((List.replicate n z).flatten)
 | 0=>rfl
 | n+1=>by
  simp only [zeros,List.replicate_succ,List.flatten_cons];exact hz.append (VIs.replicate hz n)
theorem zBd {zs:List AV} (hz:zs.all AV.one=true) (n:Nat):(zeros zs n).all AV.one=true:=by
 rw [List.all_eq_true]at hz ⊢
 intro x hx;simp only [zeros,List.mem_flatten,List.mem_replicate]at hx
 obtain⟨l,⟨_,rfl⟩,hx⟩:=hx;exact hz x hx
theorem zLY (m:MR B w0 j h w) {t:TypeId} {i:TypeInfo} {z:Value} {zs:List AV} (hi:P.info? t=some i) (hz:i.zero=some z) (hzs:ZE z.cells.toList=some zs)
  {K:AV→AHeap→Prop} (hk:K (.ptr h.next 0) (h.new ⟨true,zs⟩)):Ends P (do pure (.value (←Instr.alloc t true (.tuple #[])))) w B w0 j h K:=by
 obtain⟨z1,z2⟩:=ZH (j:=j) hzs;have hl:=z1.length;obtain⟨hm,hf⟩:=m.new (ty:=t) (cur:=z.cells) (room:=0) z2 (by rw [hl,List.take_length];exact z1) (Nat.zero_le _)
 refine⟨.ptr h.next 0,_,_,.pointer (some ⟨w.heap.size,0,none⟩),_,.inl ?_,hf,hm,⟨⟨w.heap.size,0,0,false⟩,by simp [Inj.put],rfl,rfl⟩,hk⟩
 simp [Instr.alloc,zeroValue,typeInfo,hi,hz,newVar,newRow]
theorem zPC (m:MR B w0 j h w) {t:TypeId} {v:AV} {c:Value} (hc:VI j v c) (h1:v.cells.all AV.one=true)
  {K:AV→AHeap→Prop} (hk:K (.ptr h.next 0) (h.new ⟨true,v.cells⟩)):Ends P (do pure (.value (←Instr.box t c))) w B w0 j h K:=by
 have z1:=VI.cells hc h1;have hl:=z1.length;obtain⟨hm,hf⟩:=m.new (ty:=t) (cur:=c.cells) (room:=0) h1 (by rw [hl,List.take_length];exact z1) (Nat.zero_le _)
 refine⟨.ptr h.next 0,_,_,.pointer (some ⟨w.heap.size,0,none⟩),_,.inl ?_,hf,hm,⟨⟨w.heap.size,0,0,false⟩,by simp [Inj.put],rfl,rfl⟩,hk⟩
 simp [Instr.box,newVar,newRow]
theorem MR.wr (m:MR B w0 j h w) {o k:Nat} {l:Loc} {vs:List AV} {cs:List Value} (hl:j o=some l) (hmp:l.mp=false) (z1:VIs j vs cs) {h':AHeap} (hw:h.wr o k vs=some h'):
  ∃w',(storeCells ⟨l.blk,l.base+k,none⟩ cs).run P w=.ok () w'∧MR B w0 j h' w'∧FR j h j h':=by
 obtain⟨ob,ho,hrw,hle,hone,rfl⟩:=AHeap.wr_some hw;obtain⟨cur,ty,fz,hrow,hcell,hr,_⟩:=(m.obj o ob l ho hl hmp).row;obtain⟨rfl,hbs,_⟩:=hr hrw;have hlen:=z1.length;have hcur:l.base+ob.cells.length≤cur.size:=by
  rcases Nat.eq_zero_or_pos ob.cells.length with x|x
  ·omega
  ·obtain⟨cv,e1,_⟩:=hcell (ob.cells.length-1) ob.cells[ob.cells.length-1] (List.getElem?_eq_getElem (by omega))
   have:=(Array.getElem?_eq_some_iff.1 e1).1
   omega
 have hst:=run_storeCells_at P l.blk (l.base+k) ty cs 0 cur w hrow (by omega) (z1.oneCell hone)
 simp only [Nat.add_zero]at hst
 have key:=m.setRow (cells:=ob.cells.take k++vs++ob.cells.drop (k+vs.length)) ho hl hmp hrw hrow
  (new:=(cur.toList.take (l.base+k)++cs++cur.toList.drop (l.base+k+cs.length)).toArray) (by simp;omega)
  (by
   have h0:=(m.obj o ob l ho hl hmp).one;rw [List.all_eq_true]at h0 hone ⊢
   intro x hx;simp only [List.mem_append]at hx
   rcases hx with (hx|hx)|hx
   ·exact h0 x (List.mem_of_mem_take hx)
   ·exact hone x hx
   ·exact h0 x (List.mem_of_mem_drop hx))
  (by
   intro q u hq;have hlt:q<ob.cells.length:=by
    have:=(List.getElem?_eq_some_iff.1 hq).1
    simp at this
    omega
   rcases Nat.lt_or_ge q k with x|x
   ·rw [List.append_assoc,List.getElem?_append_left (by simp;omega),List.getElem?_take,if_pos x]at hq
    obtain⟨cv,e1,e2⟩:=hcell q u hq;refine⟨cv,?_,e2⟩
    have:(cur.toList.take (l.base+k)++cs++cur.toList.drop (l.base+k+cs.length))[l.base+q]? = some cv:=by
     rw [List.append_assoc,List.getElem?_append_left (by simp;omega),List.getElem?_take,if_pos (by omega)];simpa using e1
    simpa using this
   ·rcases Nat.lt_or_ge q (k+vs.length)with y | y
    ·rw [List.getElem?_append_left (by simp;omega),List.getElem?_append_right (by simp;omega)]at hq
     have hq':vs[q-k]? = some u:=by rw [←hq];congr 1;simp;omega
     obtain⟨cv,e1,e2⟩:=z1.get hq';refine⟨cv,?_,e2⟩
     have:(cur.toList.take (l.base+k)++cs++cur.toList.drop (l.base+k+cs.length))[l.base+q]? = some cv:=by
      rw [List.getElem?_append_left (by simp;omega),List.getElem?_append_right (by simp;omega)]
      rw [←e1];congr 1;simp;omega
     simpa using this
    ·rw [List.getElem?_append_right (by simp;omega),List.getElem?_drop]at hq
     have hq':ob.cells[q]? = some u:=by rw [←hq];congr 1;simp;omega
     obtain⟨cv,e1,e2⟩:=hcell q u hq';refine⟨cv,?_,e2⟩
     have:(cur.toList.take (l.base+k)++cs++cur.toList.drop (l.base+k+cs.length))[l.base+q]? = some cv:=by
      rw [List.getElem?_append_right (by simp;omega),List.getElem?_drop]
      have hq2:cur.toList[l.base+q]? = some cv:=by simpa using e1
      rw [←hq2];congr 1;simp;omega
     simpa using this)
 exact⟨_,hst,key.1,key.2⟩
theorem zKS (m:MR B w0 j h w) {t:TypeId} {i:TypeInfo} (hi:P.info? t=some i) {o k:Nat} {v:AV} {p c:Value} (hp:VI j (.ptr o k) p) (hc:VI j v c) (hs:v.cells.length=i.size) {h':AHeap}
  (hw:h.wr o k v.cells=some h') {K:AV→AHeap→Prop} (hk:K .undef h'):Ends P (do Instr.storeAt t p c;pure .skip) w B w0 j h K:=by
 obtain⟨l,hl,rfl,hmp⟩:=hp;obtain⟨_,_,_,_,hone,_⟩:=AHeap.wr_some hw;have z1:=VI.cells hc hone;have hlen:=z1.length;obtain⟨w',hst,hm,hf⟩:=m.wr (P:=P) hl hmp z1 hw;refine⟨.undef,_,j,undef,_,.inr ⟨?_,rfl⟩,hf,hm,trivial,hk⟩;have hsz:¬(c.cells.size≠i.size):=by simp at hlen;omega
 simp only [Instr.storeAt,Instr.sureAddr,storeVar,Sem.run_bind,Sem.run_pure,Result.andThen_ok,qY hi,if_neg hsz,hst]
theorem zIk (m:MR B w0 j h w) (r:ER nt j e a) {t et:TypeId} {i:TypeInfo} {z:Value} {zs:List AV} (ht:P.underlying t=some (.slice et)) (hi:P.info? et=some i) (hz:i.zero=some z)
  (hzs:ZE z.cells.toList=some zs) {len:Nat} {ps:Array (Nat×Operand)} {qs:List (Nat×Nat×IX)} (hqs:zAO i.size ps.toList=some qs) (hsz:zs.length=i.size) (hne:i.size≠0)
  (hlim:len*i.size≤16777216) {cs:List AV} (hf:afill (zeros zs len) (qs.map fun p=>(p.1,p.2.1,p.2.2.ev e))=some cs)
  {K:AV→AHeap→Prop} (hk:K (.sl h.next 0 len (.known len)) (h.new ⟨true,cs⟩)):Ends P (do pure (.value (←Instr.buildSlice t len (ps.map fun(i,x)=>(i,a.eval x))))) w B w0 j h K:=by
 obtain⟨z1,z2⟩:=ZH (j:=j) hzs;have hl:=z1.length;have hzne:z.cells.toList≠[]:=by intro x;rw [x]at hl;simp at hl;rw [hl]at hsz;simp at hsz;omega
 have hmade:((Array.range (len*i.size)).map (z.cells[· % z.cells.size]!)).toList=(List.replicate len z.cells.toList).flatten:=by
  have:=QF z.cells.toList hzne len
  rw [←hl,hsz]at this
  simpa [madeCells]using this
 have hparts:∀{ps:List (Nat×Operand)} {qs:List (Nat×Nat×IX)},zAO i.size ps=some qs→ps.length=(qs.map fun p=>(p.1,p.2.1,p.2.2.ev e)).length∧
   ∀(k:Nat) (p:Nat×Operand) (q:Nat×Nat×AV),ps[k]? = some p→(qs.map fun q=>(q.1,q.2.1,q.2.2.ev e))[k]? = some q→(some (p.1*i.size,i.size))=some (q.1,q.2.1)∧VI j q.2.2 (a.eval p.2):=by
  intro ps
  induction ps with
  | nil=>intro qs hq;cases hq;exact⟨rfl,fun k p q hp=>by simp at hp⟩
  | cons p ps ih=>
   intro qs hq;obtain⟨n,x⟩:=p;simp only [zAO,Option.bind_eq_some_iff]at hq
   obtain⟨ix,hx,qs',hqs',hq⟩:=hq;cases hq;obtain⟨i1,i2⟩:=ih hqs';refine⟨by simp at i1 ⊢;exact i1,fun k p q hp hq=>?_⟩
   cases k with
   | zero=>simp at hp hq;subst hp;subst hq;exact⟨rfl,zI r hx⟩
   | succ k=>exact i2 k p q (by simpa using hp) (by simpa using hq)
 obtain⟨p1,p2⟩:=hparts hqs;obtain⟨res,hres,r1,r2⟩:=zAJ (place:=fun k=>some (k*i.size,i.size)) ps.toList _ (zeros zs len) ((Array.range (len*i.size)).map (z.cells[· % z.cells.size]!)) a.eval cs
  (by rw [hmade];exact z1.replicate len) (zBd z2 len) hf p1 p2
 have hlr:=r1.length;obtain⟨hm,hfr⟩:=m.new (ty:=et) (cur:=res) (room:=0) r2 (by rw [hlr,List.take_length];exact r1) (Nat.zero_le _)
 refine⟨.sl h.next 0 len (.known len),_,_,.slice (some ⟨w.heap.size,0,none⟩) len len,_,.inl ?_,hfr,hm,⟨⟨w.heap.size,0,0,false⟩,_,by simp [Inj.put],rfl,.inl rfl,rfl⟩,hk⟩
 have hlist:(ps.map fun(i,x)=>(i,a.eval x)).toList=ps.toList.map fun p=>(p.1,a.eval p.2):=by simp
 have hlim':¬(16777216<len*i.size):=by omega
 by_cases h0:len*i.size=0
 ·have:((Array.range (len*i.size)).map (z.cells[· % z.cells.size]!)) = #[]:=by rw [h0];simp [Array.range_zero']
  rw [this]at hres
  simp [Instr.buildSlice,run_underlying ht,qY hi,h0,hlist,hres,newRow,Array.range_zero']
 ·simp [Instr.buildSlice,run_underlying ht,qY hi,h0,hlim',hlist,hres,newRow,zeroValue,typeInfo,hi,hz]
theorem zJY (m:MR B w0 j h w) {t et:TypeId} {i:TypeInfo} {z:Value} {zs:List AV} (ht:P.underlying t=some (.slice et)) (hi:P.info? et=some i) (hz:i.zero=some z)
  (hzs:ZE z.cells.toList=some zs) (hsz:zs.length=i.size) (hne:i.size≠0) {kl kc:IntKind} {l c:Int} (h0:0≤l) (hlc:l≤c) (hb:c*i.bytes≤140737488355328) (h63:c≤9223372036854775807)
  {K:AV→AHeap→Prop} (hk:K (.sl h.next 0 l.toNat (.known c.toNat)) (h.new ⟨true,zeros zs c.toNat⟩)):Ends P (do pure (.value (←Instr.makeSlice t (.int kl l) (.int kc c)))) w B w0 j h K:=by
 obtain⟨z1,z2⟩:=ZH (j:=j) hzs;have hl:=z1.length;have hzne:z.cells.toList≠[]:=by intro x;rw [x]at hl;simp at hl;rw [hl]at hsz;simp at hsz;omega
 have hmade:(madeCells z.cells (c.toNat*i.size)).toList=(List.replicate c.toNat z.cells.toList).flatten:=by
  have:=QF z.cells.toList hzne c.toNat
  rw [←hl,hsz]at this
  simpa using this
 have hrun:=run_make (P:=P) w t et i z ht hi hz kl kc l c h0 hlc (by rw [Int.mul_comm];omega) h63
 have hv:=z1.replicate c.toNat;have hlv:=hv.length;obtain⟨hm,hfr⟩:=m.new (ty:=et) (cur:=madeCells z.cells (c.toNat*i.size)) (room:=0) (zBd z2 c.toNat) (by rw [hmade,hlv,List.take_length];exact hv) (Nat.zero_le _)
 exact⟨.sl h.next 0 l.toNat (.known c.toNat),_,_,.slice (some ⟨w.heap.size,0,none⟩) l.toNat c.toNat,_,.inl (by simp [hrun]),hfr,hm,⟨⟨w.heap.size,0,0,false⟩,_,by simp [Inj.put],rfl,.inl rfl,rfl⟩,hk⟩
theorem MR.adopt (m:MR B w0 j h w) {b base room:Nat} {cells:List AV} {cur new:Array Value} {ty:TypeId} (hrow:w.heap[b]? = some (.cells cur ty (0,0))) (hB:B≤b)
  (hfree:∀o ob l,h.obj o=some ob→j o=some l→l.blk≠b) (hsz:new.size=cur.size) (hroom:base+room≤cur.size) (hone:cells.all AV.one=true) (hc:VIs j cells ((new.toList.drop base).take cells.length)):
  MR B w0 (j.put h.next ⟨b,base,room,false⟩) (h.new ⟨true,cells⟩) (w.setRow b new)∧FR j h (j.put h.next ⟨b,base,room,false⟩) (h.new ⟨true,cells⟩):=by
 have hle:=m.put_le ⟨b,base,room,false⟩;have hother:∀k,k≠b→(w.setRow b new).heap[k]? = w.heap[k]?:=by
  intro k hk;simp only [World.setRow,Array.getElem?_modify];rw [if_neg (fun e=>hk e.symm)]
 have hsame:(w.setRow b new).heap[b]? = some (.cells new ty (0,0)):=by
  simp [World.setRow,Array.getElem?_modify,hrow]
 have hsize:(w.setRow b new).heap.size=w.heap.size:=by simp [World.setRow]
 refine⟨⟨m.below.trans ⟨rfl,rfl,rfl,by rw [hsize];exact Nat.le_refl _,fun k hk=>hother k (by omega)⟩,by rw [hsize];exact m.bnd,m.dr,?_,?_,?_,?_⟩,?_⟩
 ·intro o ho
  simp only [AHeap.new]at ho
  simp only [AHeap.new,Inj.put,if_neg (show ¬o=h.next by omega)]
  exact m.fresh o (by omega)
 ·intro o ob l ho hl hmp
  by_cases e:o=h.next
  ·subst e
   simp only [AHeap.new,if_true,Option.some.injEq]at ho
   simp only [Inj.put,if_true,Option.some.injEq]at hl
   subst ho;subst hl;refine⟨hone,new,ty,(0,0),hsame,fun i v hv=>?_,fun _=>⟨rfl,by rw [hsz];exact hroom,hB⟩,fun x=>by cases x⟩
   obtain⟨cv,x,y⟩:=hc.get hv;refine⟨cv,?_,VI.mono hle _ _ y⟩;rw [List.getElem?_take]at x
   split at x
   ·rw [List.getElem?_drop]at x;simpa using x
   ·cases x
  ·simp only [AHeap.new,if_neg e]at ho
   simp only [Inj.put,if_neg e]at hl
   have hk:=m.obj o ob l ho hl hmp;refine⟨hk.one,?_⟩;obtain⟨c,t,f,x,y,q⟩:=hk.row;refine⟨c,t,f,by rw [hother _ (hfree o ob l ho hl)];exact x,fun i v hv=>?_,q⟩
   obtain⟨cv,p1,p2⟩:=y i v hv;exact⟨cv,p1,VI.mono hle _ _ p2⟩
 ·intro o ob l ho hl hmp
  by_cases e:o=h.next
  ·subst e
   simp only [Inj.put,if_true,Option.some.injEq]at hl
   subst hl;cases hmp
  ·simp only [AHeap.new,if_neg e]at ho
   simp only [Inj.put,if_neg e]at hl
   have hk:=m.maps o ob l ho hl hmp;obtain⟨es,clock,x,y⟩:=hk.row;exact⟨hk.rw,hk.ge,es,clock,by rw [hother _ (hfree o ob l ho hl)];exact x,y⟩
 ·intro o o' ob ob' l l' hne ho ho' hl hl' hrw
  by_cases e:o=h.next
  ·have e':o'≠h.next:=fun x=>hne (e.trans x.symm)
   subst e;simp only [Inj.put,if_true,Option.some.injEq]at hl
   simp only [Inj.put,if_neg e']at hl'
   simp only [AHeap.new,if_neg e']at ho'
   subst hl;exact fun x=>hfree o' ob' l' ho' hl' x.symm
  ·simp only [AHeap.new,if_neg e]at ho
   simp only [Inj.put,if_neg e]at hl
   by_cases e':o'=h.next
   ·subst e'
    simp only [Inj.put,if_true,Option.some.injEq]at hl'
    subst hl';exact hfree o ob l ho hl
   ·simp only [AHeap.new,if_neg e']at ho'
    simp only [Inj.put,if_neg e']at hl'
    exact m.apart o o' ob ob' l l' hne ho ho' hl hl' hrw
 ·refine⟨by simp [AHeap.new],fun o ho=>?_,fun o ho _=>?_⟩
  ·simp [Inj.put,Nat.ne_of_lt ho]
  ·simp [AHeap.new,Nat.ne_of_lt ho]
theorem zA2 {x:AV} {c:Value} {n:Nat} (hc:VI j x c) (hn:alen x=some n):∃o cp,c=.slice o n cp∧n≤n:=by
 unfold alen at hn
 split at hn
 ·cases hn;exact⟨_,_,hc,Nat.le_refl _⟩
 ·rename_i o off n' cap
  cases hn;cases cap with
  | known q=>obtain⟨l,_,hl,hcv,_⟩:=hc;exact⟨_,_,hcv,Nat.le_refl _⟩
  | grown q=>obtain⟨l,cc,ff,hl,hcv,_⟩:=hc;exact⟨_,_,hcv,Nat.le_refl _⟩
 ·cases hn
theorem zBW (m:MR B w0 j h w) {e n:Nat} {x:AV} {c:Value} {news:List AV} (hc:VI j x c) (hn:n≠0) (hf:zAP e h x n=some news):
  ∃(ad:Addr) (len cp:Nat) (cs:List Value),c=.slice (some ad) len cp∧n≤len∧VIs j news cs∧cs.length=n*e∧news.all AV.one=true∧∀k u,cs[k]? = some u→w.cell? (ad.add k)=some u:=by
 unfold zAP at hf
 rw [if_neg hn]at hf
 split at hf
 ·rename_i o off len cap
  split at hf
  ·rename_i hle
   have key:∃l cp,j o=some l∧c=.slice (some ⟨l.blk,l.base+off,none⟩) len cp∧l.mp=false:=by
    cases cap with
    | known q=>
     obtain⟨l,a,hl,rfl,ha,hmp⟩:=hc;rcases ha with rfl|⟨_,hz⟩
     ·exact⟨l,_,hl,rfl,hmp⟩
     ·omega
    | grown q=>
     obtain⟨l,cp,f,hl,rfl,_,hf',_,hmp⟩:=hc;rcases hf' with rfl|⟨hz,_⟩
     ·exact⟨l,_,hl,rfl,hmp⟩
     ·omega
   obtain⟨l,cp,hl,rfl,hmp⟩:=key;obtain⟨cs,h1,h2,h3,h4⟩:=m.cells hf hl hmp;exact⟨_,_,_,cs,rfl,hle,h1,h2,h3,h4⟩
  ·cases hf
 ·cases hf
theorem zBF {size n len cp:Nat} {ad:Addr} {cs:List Value} (hl:cs.length=n*size) (hc:∀k u,cs[k]? = some u→w.cell? (ad.add k)=some u):
  (Builtin.firstCells size n (.slice (some ad) len cp)).run P w=.ok cs.toArray w:=by
 have:=run_loadCells_list (P:=P) w ad cs hc
 rw [hl]at this
 simpa [Builtin.firstCells]using this
theorem zCr (w:World) (t ty et:TypeId) (i:TypeInfo) (ht:P.underlying t=some (.slice et)) (hi:P.info? et=some i) (ad:Addr) (len cap:Nat)
  (a:Addr) (m c:Nat) (news:List Value) (hl:news.length=m*i.size) (hnews:∀j u,news[j]? = some u→w.cell? (a.add j)=some u) (hroom:len+m≤cap) {w':World}
  (hst:(storeCells (ad.add (len*i.size)) news).run P w=.ok () w'):
  (Builtin.append_ #[t,t] ty #[.slice (some ad) len cap,.slice (some a) m c]).run P w=.ok (.slice (some ad) (len+m) cap) w':=by
 have hf:=zBF (P:=P) (len:=m) (cp:=c) hl hnews;simp [Builtin.append_,run_underlying ht,sizeOf,typeInfo,hi,Builtin.lenOf,hroom,hf,hst]
theorem zFI (w:World) (t ty et:TypeId) (i:TypeInfo) (ht:P.underlying t=some (.slice et)) (hi:P.info? et=some i) (base o:Option Addr) (len cap c:Nat) (hroom:len≤cap):
  (Builtin.append_ #[t,t] ty #[.slice base len cap,.slice o 0 c]).run P w=.ok (.slice base len cap) w:=by
 cases base<;>cases o<;>simp [Builtin.append_,run_underlying ht,sizeOf,typeInfo,hi,Builtin.lenOf,hroom,Builtin.firstCells,loadCells,loadCellsFrom,storeCells]
theorem zIq (m:MR B w0 j h w) {t ty et:TypeId} {i:TypeInfo} {z:Value} (ht:P.underlying t=some (.slice et)) (hi:P.info? et=some i) (hz:i.zero=some z) (hzs:z.cells.size=i.size) (hne:i.size≠0)
  {s x:AV} {cs cx:Value} (hs:VI j s cs) (hx:VI j x cx) {v:AV} {h':AHeap} (hv:zA9 i.size i.bytes h s x=some (v,h')):
  ∃j' cv w',(Builtin.append_ #[t,t] ty #[cs,cx]).run P w=.ok cv w'∧FR j h j' h'∧MR B w0 j' h' w'∧VI j' v cv:=by
 simp only [zA9,Option.bind_eq_some_iff]at hv
 obtain⟨n,hn,hv⟩:=hv;obtain⟨o,cp,rfl,_⟩:=zA2 hx hn
 split at hv
 ·rename_i h0
  subst h0;simp only [Option.map_eq_some_iff,Prod.mk.injEq]at hv
  obtain⟨u,hu,rfl,rfl⟩:=hv;have key:∃b len cap,cs=.slice b len cap∧len≤cap∧u=s:=by
   unfold asame at hu
   split at hu
   ·cases hu;exact⟨_,_,_,hs,Nat.le_refl _,rfl⟩
   ·split at hu
    ·cases hu;obtain⟨l,_,hl,hcv,_⟩:=hs;exact⟨_,_,_,hcv,by assumption,rfl⟩
    ·cases hu
   ·cases hu;obtain⟨l,cc,ff,hl,hcv,hle,_⟩:=hs;exact⟨_,_,_,hcv,hle,rfl⟩
   ·cases hu
  obtain⟨b,len,cap,rfl,hle,rfl⟩:=key;exact⟨j,_,w,zFI w t ty et i ht hi b o len cap cp hle,FR.refl _ _,m,hs⟩
 ·rename_i h0
  simp only [Option.bind_eq_some_iff]at hv
  obtain⟨news,hf,hv⟩:=hv;obtain⟨ad,len',cp',nc,hcx,hle,hvs,hnl,hone,hcells⟩:=zBW m hx h0 hf;simp only [Value.slice.injEq]at hcx
  obtain⟨rfl,rfl,rfl⟩:=hcx;have hnc:=hvs.length;have hpos:0<n:=by omega
  -- a new row
  have fresh:∀(old:List AV) (oc:List Value) (len sc:Nat) (h2:AHeap),MR B w0 j h2 w→h2.next=h.next→VIs j old oc→oc.length=len*i.size→old.all AV.one=true→n+len=n+len→sc<len+n→
    MR B w0 (j.put h.next ⟨w.heap.size,0,grownCap w (len+n) sc et*i.size,false⟩) (h2.new ⟨true,old++news⟩)
     (w.drew.alloc (.cells (oc.toArray++nc.toArray++Builtin.zeroCells z.cells (grownCap w (len+n) sc et-(len+n))) et))∧
    FR j h2 (j.put h.next ⟨w.heap.size,0,grownCap w (len+n) sc et*i.size,false⟩) (h2.new ⟨true,old++news⟩)∧
    VI (j.put h.next ⟨w.heap.size,0,grownCap w (len+n) sc et*i.size,false⟩) (.sl h.next 0 (len+n) (.grown i.size)) (.slice (some ⟨w.heap.size,0,none⟩) (len+n) (grownCap w (len+n) sc et)):=by
   intro old oc len sc h2 m2 hnx hold hol hoone _ hlt;have hge:=grownCap_ge w (len+n) sc et;have hol':=hold.length;have hsz:(oc.toArray++nc.toArray++Builtin.zeroCells z.cells (grownCap w (len+n) sc et-(len+n))).size=grownCap w (len+n) sc et*i.size:=by
    simp only [Array.size_append,List.size_toArray,size_zeroCells,hzs,hol,hnl,←Nat.add_mul]
    congr 1
    omega
   have:=m2.drew.new (ty:=et) (cells:=old++news) (cur:=oc.toArray++nc.toArray++Builtin.zeroCells z.cells (grownCap w (len+n) sc et-(len+n))) (room:=grownCap w (len+n) sc et*i.size)
    (by rw [List.all_append,hoone,hone];rfl)
    (by
     have hh:=hold.append hvs;have hhl:=hh.length;rw [hhl];simp only [Array.toList_append];rw [List.take_append_of_le_length (by simp),List.take_of_length_le (by simp)]
     exact hh)
    (by rw [hsz];exact Nat.le_refl _)
   rw [hnx]at this
   refine⟨this.1,this.2,⟨⟨w.heap.size,0,grownCap w (len+n) sc et*i.size,false⟩,grownCap w (len+n) sc et,0,by simp [Inj.put],rfl,hge,.inl rfl,fun _ _=>by simp,rfl⟩⟩
  unfold agrow at hv
  split at hv
  ·split at hv
   ·rename_i hb
    cases hv;obtain⟨f1,f2,f3⟩:=fresh [] [] 0 0 h m rfl rfl (by simp) rfl rfl (by omega)
    rw [show cs=.slice none 0 0 from hs]
    have hr:=run_append_nil (P:=P) w t ty et i z ht hi hz ad n cp nc hnl hcells hpos (by omega) (by omega)
    simp only [Nat.zero_add,List.nil_append,Array.empty_append]at f1 f2 f3
    exact⟨_,_,_,hr,f2,f1,f3⟩
   ·cases hv
  ·rename_i o1 off len c
   obtain⟨l,al,hl,rfl,hal,hmp⟩:=hs
   split at hv
   ·rename_i hroom
    obtain rfl:al=⟨l.blk,l.base+off,none⟩:=by rcases hal with e|⟨e,_⟩;exact e;omega
    simp only [Option.map_eq_some_iff,Prod.mk.injEq]at hv
    obtain⟨h1,hw,rfl,rfl⟩:=hv;obtain⟨w',hst,hm,hfr⟩:=m.wr (P:=P) hl hmp hvs hw;refine⟨j,_,w',zCr w t ty et i ht hi ⟨l.blk,l.base+off,none⟩ len c ad n cp nc hnl hcells hroom ?_,hfr,hm,⟨l,_,hl,rfl,.inl rfl,hmp⟩⟩;rw [Zc];rw [←Nat.add_assoc]at hst
    exact hst
   ·rename_i hroom
    split at hv
    ·rename_i hb
     simp only [Option.map_eq_some_iff,Prod.mk.injEq]at hv
     obtain⟨old,hrd,rfl,rfl⟩:=hv;obtain⟨oc,p1,p2,p3,p4⟩:=m.cells hrd hl hmp;obtain⟨f1,f2,f3⟩:=fresh old oc len c h m rfl p1 p2 p3 rfl (by omega)
     have p4':∀k u,oc[k]? = some u→w.cell? (al.add k)=some u:=by
      rcases hal with rfl|⟨_,e⟩
      ·exact p4
      ·subst e
       rw [Nat.zero_mul,List.length_eq_zero_iff]at p2
       subst p2;intro k u hku;simp at hku
     have hr:=run_append_grow (P:=P) w t ty et i z ht hi hz al len c oc p2 p4' ad n cp nc hnl hcells (by omega) (by omega) (growslice_fits (by omega) (by omega))
     exact⟨_,_,_,hr,f2,f1,f3⟩
    ·cases hv
  ·rename_i o1 off len g
   split at hv
   ·rename_i hb
    obtain⟨hb1,hb2,rfl⟩:=hb;simp only [Option.bind_eq_some_iff]at hv
    obtain⟨ob,ho,hv⟩:=hv
    split at hv
    ·rename_i hb
     obtain⟨hrw,hlen⟩:=hb;cases hv;obtain⟨l,c,f,hl,rfl,hlc,hf',hrm,hmp⟩:=hs;obtain⟨cur,ty',fz,hrow,hcell,hr,_⟩:=(m.obj o1 ob l ho hl hmp).row;obtain⟨rfl,hroom,hB⟩:=hr hrw;obtain⟨mk,fk⟩:=m.kill hl;have hob1:=(m.obj o1 ob l ho hl hmp).one;have hrd:h.rd o1 off (len*i.size)=some ((ob.cells.drop off).take (len*i.size)):=by
      simp [AHeap.rd,ho,hlen]
     obtain⟨oc,p1,p2,p3,p4⟩:=m.cells hrd hl hmp
     by_cases hin:len+n≤c
     ·-- in place
      have hf0:f=l.base+off:=by
       rcases hf' with x|⟨_,_,x⟩
       ·exact x
       ·omega
      subst hf0;have hrm':=hrm rfl hne;have hcs:l.base+off+(len+n)*i.size≤cur.size:=by
       have q1:(len+n)*i.size≤c*i.size:=Nat.mul_le_mul_right _ hin;omega
      have hfit:l.base+off+len*i.size+nc.length≤cur.size:=by rw [hnl,Nat.add_assoc (l.base+off),←Nat.add_mul];exact hcs
      have hst:=run_storeCells_at P l.blk (l.base+off+len*i.size) ty' nc 0 cur w hrow (by omega) (hvs.oneCell hone)
      simp only [Nat.add_zero]at hst
      have hr:=zCr (P:=P) w t ty et i ht hi ⟨l.blk,l.base+off,none⟩ len c ad n cp nc hnl hcells hin (by rw [Zc];exact hst)
      have hocl:oc=(cur.toList.drop (l.base+off)).take (len*i.size):=by
       apply List.ext_getElem?;intro k
       by_cases hk:k<oc.length
       ·have q1:=p4 k oc[k] (List.getElem?_eq_getElem hk)
        rw [Zc]at q1
        simp only [World.cell?,hrow]at q1
        rw [List.getElem?_take,if_pos (by omega),List.getElem?_eq_getElem hk,List.getElem?_drop]
        simpa using q1.symm
       ·rw [List.getElem?_eq_none (by omega),List.getElem?_eq_none (by simp;omega)]
      have:=mk.adopt (b:=l.blk) (base:=l.base+off) (room:=l.room-off) (cells:=(ob.cells.drop off).take (len*i.size)++news) (cur:=cur) (ty:=ty')
       (new:=(cur.toList.take (l.base+off+len*i.size)++nc++cur.toList.drop (l.base+off+len*i.size+nc.length)).toArray) hrow hB
       (by
        intro q obq lq hq hlq e
        by_cases hqo:q=o1
        ·subst hqo;simp [AHeap.kill]at hq
        ·simp only [AHeap.kill,if_neg hqo]at hq
         exact m.apart o1 q ob obq l lq (fun x=>hqo x.symm) ho hq hl hlq hrw e.symm)
       (by simp;omega) (by omega) (by rw [List.all_append,p3,hone];rfl)
       (by
        have hh:=p1.append hvs;have hhl:=hh.length;rw [hhl];have e:((cur.toList.take (l.base+off+len*i.size)++nc++cur.toList.drop (l.base+off+len*i.size+nc.length)).toArray.toList.drop (l.base+off)).take (oc++nc).length=oc++nc:=by
         simp only [List.append_assoc];rw [List.drop_append_of_le_length (by simp;omega),List.drop_take,show l.base+off+len*i.size-(l.base+off)=len*i.size by omega,←hocl,←List.append_assoc,List.take_append_of_le_length (Nat.le_refl _),List.take_of_length_le (Nat.le_refl _)]
        rw [e];exact hh)
      refine⟨_,_,_,hr,fk.trans this.2,this.1,⟨⟨l.blk,l.base+off,l.room-off,false⟩,c,l.base+off,by simp [Inj.put,AHeap.kill],rfl,hin,.inl (by simp),fun _ _=>?_,rfl⟩⟩
      simp only [Nat.zero_add];omega
     ·have p4':∀k u,oc[k]? = some u→w.cell? ((⟨l.blk,f,none⟩:Addr).add k)=some u:=by
       rcases hf' with rfl|⟨e,_⟩
       ·exact p4
       ·subst e
        rw [Nat.zero_mul,List.length_eq_zero_iff]at p2
        subst p2;intro k u hku;simp at hku
      have hr:=run_append_grow (P:=P) w t ty et i z ht hi hz ⟨l.blk,f,none⟩ len c oc p2 p4' ad n cp nc hnl hcells (by omega) (by omega) (growslice_fits (by omega) (by omega))
      obtain⟨f1,f2,f3⟩:=fresh ((ob.cells.drop off).take (len*i.size)) oc len c (h.kill o1) mk rfl p1 p2 p3 rfl (by omega)
      exact⟨_,_,_,hr,fk.trans f2,f1,f3⟩
    ·cases hv
   ·cases hv
  ·cases hv
theorem zLJ (m:MR B w0 j h w) {et:TypeId} {i:TypeInfo} {z:Value} (hzs:z.cells.size=i.size) (hne:i.size≠0) {n:Nat} (hpos:0<n) {news:List AV} {nc:List Value} (hvs:VIs j news nc) (hnl:nc.length=n*i.size) (hone:news.all AV.one=true) {app:Value→Sem Value}
  (hN:n*i.bytes≤140737488355328→n≤4611686018427387904→(app (.slice none 0 0)).run P w=.ok (.slice (some ⟨w.heap.size,0,none⟩) n (grownCap w n 0 et)) (w.drew.alloc (.cells (nc.toArray++Builtin.zeroCells z.cells (grownCap w n 0 et-n)) et)))
  (hR:∀(ad:Addr) (len cap:Nat) (w':World),len+n≤cap→(storeCells (ad.add (len*i.size)) nc).run P w=.ok () w'→(app (.slice (some ad) len cap)).run P w=.ok (.slice (some ad) (len+n) cap) w')
  (hG:∀(al:Addr) (len c:Nat) (oc:List Value),oc.length=len*i.size→(∀k u,oc[k]? = some u→w.cell? (al.add k)=some u)→c<len+n→((len+n:Nat):Int)≤9223372036854775807→Builtin.nextslicecap (len+n) c*i.bytes≤281474976710656→
   (app (.slice (some al) len c)).run P w=.ok (.slice (some ⟨w.heap.size,0,none⟩) (len+n) (grownCap w (len+n) c et)) (w.drew.alloc (.cells (oc.toArray++nc.toArray++Builtin.zeroCells z.cells (grownCap w (len+n) c et-(len+n))) et)))
  {s:AV} {cs:Value} (hs:VI j s cs) {v:AV} {h':AHeap} (hv:agrow i.size i.bytes h s news n=some (v,h')):
  ∃j' cv w',(app cs).run P w=.ok cv w'∧FR j h j' h'∧MR B w0 j' h' w'∧VI j' v cv:=by
 have hnc:=hvs.length
 -- a new row
 have fresh:∀(old:List AV) (oc:List Value) (len sc:Nat) (h2:AHeap),MR B w0 j h2 w→h2.next=h.next→VIs j old oc→oc.length=len*i.size→old.all AV.one=true→n+len=n+len→sc<len+n→
   MR B w0 (j.put h.next ⟨w.heap.size,0,grownCap w (len+n) sc et*i.size,false⟩) (h2.new ⟨true,old++news⟩)
    (w.drew.alloc (.cells (oc.toArray++nc.toArray++Builtin.zeroCells z.cells (grownCap w (len+n) sc et-(len+n))) et))∧
   FR j h2 (j.put h.next ⟨w.heap.size,0,grownCap w (len+n) sc et*i.size,false⟩) (h2.new ⟨true,old++news⟩)∧
   VI (j.put h.next ⟨w.heap.size,0,grownCap w (len+n) sc et*i.size,false⟩) (.sl h.next 0 (len+n) (.grown i.size)) (.slice (some ⟨w.heap.size,0,none⟩) (len+n) (grownCap w (len+n) sc et)):=by
  intro old oc len sc h2 m2 hnx hold hol hoone _ hlt;have hge:=grownCap_ge w (len+n) sc et;have hol':=hold.length;have hsz:(oc.toArray++nc.toArray++Builtin.zeroCells z.cells (grownCap w (len+n) sc et-(len+n))).size=grownCap w (len+n) sc et*i.size:=by
   simp only [Array.size_append,List.size_toArray,size_zeroCells,hzs,hol,hnl,←Nat.add_mul]
   congr 1
   omega
  have:=m2.drew.new (ty:=et) (cells:=old++news) (cur:=oc.toArray++nc.toArray++Builtin.zeroCells z.cells (grownCap w (len+n) sc et-(len+n))) (room:=grownCap w (len+n) sc et*i.size)
   (by rw [List.all_append,hoone,hone];rfl)
   (by
    have hh:=hold.append hvs;have hhl:=hh.length;rw [hhl];simp only [Array.toList_append];rw [List.take_append_of_le_length (by simp),List.take_of_length_le (by simp)]
    exact hh)
   (by rw [hsz];exact Nat.le_refl _)
  rw [hnx]at this
  refine⟨this.1,this.2,⟨⟨w.heap.size,0,grownCap w (len+n) sc et*i.size,false⟩,grownCap w (len+n) sc et,0,by simp [Inj.put],rfl,hge,.inl rfl,fun _ _=>by simp,rfl⟩⟩
 unfold agrow at hv
 split at hv
 ·split at hv
  ·rename_i hb
   cases hv;obtain⟨f1,f2,f3⟩:=fresh [] [] 0 0 h m rfl rfl (by simp) rfl rfl (by omega)
   rw [show cs=.slice none 0 0 from hs]
   have hr:=hN (by omega) (by omega)
   simp only [Nat.zero_add,List.nil_append,Array.empty_append]at f1 f2 f3
   exact⟨_,_,_,hr,f2,f1,f3⟩
  ·cases hv
 ·rename_i o1 off len c
  obtain⟨l,al,hl,rfl,hal,hmp⟩:=hs
  split at hv
  ·rename_i hroom
   obtain rfl:al=⟨l.blk,l.base+off,none⟩:=by rcases hal with e|⟨e,_⟩;exact e;omega
   simp only [Option.map_eq_some_iff,Prod.mk.injEq]at hv
   obtain⟨h1,hw,rfl,rfl⟩:=hv;obtain⟨w',hst,hm,hfr⟩:=m.wr (P:=P) hl hmp hvs hw;refine⟨j,_,w',hR ⟨l.blk,l.base+off,none⟩ len c _ hroom ?_,hfr,hm,⟨l,_,hl,rfl,.inl rfl,hmp⟩⟩;rw [Zc];rw [←Nat.add_assoc]at hst
   exact hst
  ·rename_i hroom
   split at hv
   ·rename_i hb
    simp only [Option.map_eq_some_iff,Prod.mk.injEq]at hv
    obtain⟨old,hrd,rfl,rfl⟩:=hv;obtain⟨oc,p1,p2,p3,p4⟩:=m.cells hrd hl hmp;obtain⟨f1,f2,f3⟩:=fresh old oc len c h m rfl p1 p2 p3 rfl (by omega)
    have p4':∀k u,oc[k]? = some u→w.cell? (al.add k)=some u:=by
     rcases hal with rfl|⟨_,e⟩
     ·exact p4
     ·subst e
      rw [Nat.zero_mul,List.length_eq_zero_iff]at p2
      subst p2;intro k u hku;simp at hku
    have hr:=hG al len c oc p2 p4' (by omega) (by omega) (growslice_fits (by omega) (by omega))
    exact⟨_,_,_,hr,f2,f1,f3⟩
   ·cases hv
 ·rename_i o1 off len g
  split at hv
  ·rename_i hb
   obtain⟨hb1,hb2,rfl⟩:=hb;simp only [Option.bind_eq_some_iff]at hv
   obtain⟨ob,ho,hv⟩:=hv
   split at hv
   ·rename_i hb
    obtain⟨hrw,hlen⟩:=hb;cases hv;obtain⟨l,c,f,hl,rfl,hlc,hf',hrm,hmp⟩:=hs;obtain⟨cur,ty',fz,hrow,hcell,hr,_⟩:=(m.obj o1 ob l ho hl hmp).row;obtain⟨rfl,hroom,hB⟩:=hr hrw;obtain⟨mk,fk⟩:=m.kill hl;have hob1:=(m.obj o1 ob l ho hl hmp).one;have hrd:h.rd o1 off (len*i.size)=some ((ob.cells.drop off).take (len*i.size)):=by
     simp [AHeap.rd,ho,hlen]
    obtain⟨oc,p1,p2,p3,p4⟩:=m.cells hrd hl hmp
    by_cases hin:len+n≤c
    ·-- in place
     have hf0:f=l.base+off:=by
      rcases hf' with x|⟨_,_,x⟩
      ·exact x
      ·omega
     subst hf0;have hrm':=hrm rfl hne;have hcs:l.base+off+(len+n)*i.size≤cur.size:=by
      have q1:(len+n)*i.size≤c*i.size:=Nat.mul_le_mul_right _ hin;omega
     have hfit:l.base+off+len*i.size+nc.length≤cur.size:=by rw [hnl,Nat.add_assoc (l.base+off),←Nat.add_mul];exact hcs
     have hst:=run_storeCells_at P l.blk (l.base+off+len*i.size) ty' nc 0 cur w hrow (by omega) (hvs.oneCell hone)
     simp only [Nat.add_zero]at hst
     have hr:=hR ⟨l.blk,l.base+off,none⟩ len c _ hin (by rw [Zc];exact hst)
     have hocl:oc=(cur.toList.drop (l.base+off)).take (len*i.size):=by
      apply List.ext_getElem?;intro k
      by_cases hk:k<oc.length
      ·have q1:=p4 k oc[k] (List.getElem?_eq_getElem hk)
       rw [Zc]at q1
       simp only [World.cell?,hrow]at q1
       rw [List.getElem?_take,if_pos (by omega),List.getElem?_eq_getElem hk,List.getElem?_drop]
       simpa using q1.symm
      ·rw [List.getElem?_eq_none (by omega),List.getElem?_eq_none (by simp;omega)]
     have:=mk.adopt (b:=l.blk) (base:=l.base+off) (room:=l.room-off) (cells:=(ob.cells.drop off).take (len*i.size)++news) (cur:=cur) (ty:=ty')
      (new:=(cur.toList.take (l.base+off+len*i.size)++nc++cur.toList.drop (l.base+off+len*i.size+nc.length)).toArray) hrow hB
      (by
       intro q obq lq hq hlq e
       by_cases hqo:q=o1
       ·subst hqo;simp [AHeap.kill]at hq
       ·simp only [AHeap.kill,if_neg hqo]at hq
        exact m.apart o1 q ob obq l lq (fun x=>hqo x.symm) ho hq hl hlq hrw e.symm)
      (by simp;omega) (by omega) (by rw [List.all_append,p3,hone];rfl)
      (by
       have hh:=p1.append hvs;have hhl:=hh.length;rw [hhl];have e:((cur.toList.take (l.base+off+len*i.size)++nc++cur.toList.drop (l.base+off+len*i.size+nc.length)).toArray.toList.drop (l.base+off)).take (oc++nc).length=oc++nc:=by
        simp only [List.append_assoc];rw [List.drop_append_of_le_length (by simp;omega),List.drop_take,show l.base+off+len*i.size-(l.base+off)=len*i.size by omega,←hocl,←List.append_assoc,List.take_append_of_le_length (Nat.le_refl _),List.take_of_length_le (Nat.le_refl _)]
       rw [e];exact hh)
     refine⟨_,_,_,hr,fk.trans this.2,this.1,⟨⟨l.blk,l.base+off,l.room-off,false⟩,c,l.base+off,by simp [Inj.put,AHeap.kill],rfl,hin,.inl (by simp),fun _ _=>?_,rfl⟩⟩
     simp only [Nat.zero_add];omega
    ·have p4':∀k u,oc[k]? = some u→w.cell? ((⟨l.blk,f,none⟩:Addr).add k)=some u:=by
      rcases hf' with rfl|⟨e,_⟩
      ·exact p4
      ·subst e
       rw [Nat.zero_mul,List.length_eq_zero_iff]at p2
       subst p2;intro k u hku;simp at hku
     have hr:=hG ⟨l.blk,f,none⟩ len c oc p2 p4' (by omega) (by omega) (growslice_fits (by omega) (by omega))
     obtain⟨f1,f2,f3⟩:=fresh ((ob.cells.drop off).take (len*i.size)) oc len c (h.kill o1) mk rfl p1 p2 p3 rfl (by omega)
     exact⟨_,_,_,hr,fk.trans f2,f1,f3⟩
   ·cases hv
  ·cases hv
 ·cases hv
theorem zLr (w:World) (t tn ty et:TypeId) (i:TypeInfo) (z:Value) (k kn:IntKind) (ht:P.underlying t=some (.slice et)) (htn:P.underlying tn=some (.int kn)) (hi:P.info? et=some i) (hz:i.zero=some z)
  (n:Nat) (h0:0<n) (hs:0<i.size) (h63:(n:Int)≤9223372036854775807) (h48:n*i.bytes≤281474976710656):
  (∀(ad:Addr) (len cap:Nat) (w':World),len+n≤cap→(storeCells (ad.add (len*i.size)) (Builtin.zeroCells z.cells n).toList).run P w=.ok () w'→(Builtin.append_ #[t,tn] ty #[.slice (some ad) len cap,.int k n]).run P w=.ok (.slice (some ad) (len+n) cap) w')∧
  (∀(al:Addr) (len c:Nat) (oc:List Value),oc.length=len*i.size→(∀k u,oc[k]? = some u→w.cell? (al.add k)=some u)→c<len+n→((len+n:Nat):Int)≤9223372036854775807→Builtin.nextslicecap (len+n) c*i.bytes≤281474976710656→
   (Builtin.append_ #[t,tn] ty #[.slice (some al) len c,.int k n]).run P w=.ok (.slice (some ⟨w.heap.size,0,none⟩) (len+n) (grownCap w (len+n) c et)) (w.drew.alloc (.cells (oc.toArray++(Builtin.zeroCells z.cells n).toList.toArray++Builtin.zeroCells z.cells (grownCap w (len+n) c et-(len+n))) et))):=by
 have hn:n≠0:=by omega
 have hw:IntKind.i64.wrap (n:Int)=n:=by rw [IntKind.wrap_i64];omega
 have h48i:¬(281474976710656<(n:Int)*(i.bytes:Int)):=by
  rw [←Int.natCast_mul];omega
 have hneg:¬((n:Int)<0):=by omega
 have hns:¬(n*i.size=0):=Nat.mul_ne_zero hn (by omega)
 refine⟨fun ad len cap w' hroom hst=>?_,fun al len c oc hlo holds hg h63b hfit=>?_⟩
 ·simp [Builtin.append_,run_underlying ht,run_underlying htn,sizeOf,typeInfo,zeroValue,hi,hz,asInt,asIntOf,hw,hn,hneg,hns,h48i,hroom,hst]
 ·have hng:¬(len+n≤c):=by omega
  have h63':¬(9223372036854775807<((len:Int)+(n:Int))):=by omega
  have h48':¬(281474976710656<Builtin.nextslicecap (len+n) c*i.bytes):=by omega
  have hfo:=run_firstCells_some (P:=P) w.drew i.size len al len c oc hlo (by simpa using holds)
  simp [Builtin.append_,run_underlying ht,run_underlying htn,sizeOf,typeInfo,zeroValue,hi,hz,asInt,asIntOf,hw,hn,hneg,hns,h48i,hng,h63',h48',Question.forced,hfo,newRow,grownCap]
theorem zGB (w:World) (t tn ty et:TypeId) (i:TypeInfo) (k kn:IntKind) (ht:P.underlying t=some (.slice et)) (htn:P.underlying tn=some (.int kn)) (hi:P.info? et=some i) (base:Option Addr) (len cap:Nat) (hroom:len≤cap):
  (Builtin.append_ #[t,tn] ty #[.slice base len cap,.int k 0]).run P w=.ok (.slice base len cap) w:=by
 have hw:IntKind.i64.wrap (0:Int)=0:=rfl;cases base<;>simp [Builtin.append_,run_underlying ht,run_underlying htn,sizeOf,typeInfo,hi,asInt,asIntOf,hw,hroom,storeCells]
theorem zCv (m:MR B w0 j h w) {t t' ty et:TypeId} {i:TypeInfo} {z:Value} {zs:List AV} {kn:IntKind} (ht:P.underlying t=some (.slice et)) (ht':P.underlying t'=some (.int kn)) (hi:P.info? et=some i) (hz:i.zero=some z)
  (hzs:ZE z.cells.toList=some zs) (hsz:zs.length=i.size) (hne:i.size≠0) {k:IntKind} {n:Int} (h0:0≤n) (hb:n*i.bytes≤140737488355328) (h63:n≤4611686018427387904) {s:AV} {cs:Value} (hs:VI j s cs) {v:AV} {h':AHeap}
  (hv:(if 0<n then agrow i.size i.bytes h s (zeros zs n.toNat) n.toNat else(asame s).map fun v=>(v,h))=some (v,h')):
  ∃j' cv w',(Builtin.append_ #[t,t'] ty #[cs,.int k n]).run P w=.ok cv w'∧FR j h j' h'∧MR B w0 j' h' w'∧VI j' v cv:=by
 obtain⟨q,rfl⟩:∃q:Nat,n=q:=⟨n.toNat,by omega⟩
 rw [Int.toNat_natCast]at hv
 by_cases hq:0<q
 ·rw [if_pos (by omega)]at hv
  obtain⟨z1,z2⟩:=ZH (j:=j) hzs;have hl:=z1.length;have hzsz:z.cells.size=i.size:=by rw [←hsz,hl];simp
  have hzne:z.cells.toList≠[]:=by intro x;rw [x]at hl;simp at hl;rw [hl]at hsz;simp at hsz;omega
  have hmade:(Builtin.zeroCells z.cells q).toList=(List.replicate q z.cells.toList).flatten:=by
   have:=QF z.cells.toList hzne q
   simpa [madeCells,Builtin.zeroCells]using this
  have hb':q*i.bytes≤140737488355328:=by
   have:((q*i.bytes:Nat):Int)≤140737488355328:=by simpa using hb
   omega
  have hv2:VIs j (zeros zs q) (Builtin.zeroCells z.cells q).toList:=by rw [hmade];exact z1.replicate q
  obtain⟨r1,r2⟩:=zLr (P:=P) w t t' ty et i z k kn ht ht' hi hz q hq (by omega) (by omega) (by omega)
  refine zLJ m hzsz hne hq hv2 (by rw [Array.length_toList,size_zeroCells,hzsz]) (zBd z2 q) (app:=fun c=>Builtin.append_ #[t,t'] ty #[c,.int k q]) (fun _ _=>?_) r1 r2 hs hv
  rw [Array.toArray_toList];exact Lib.run_append_nil_zeros (P:=P) w t t' ty et i z k kn ht ht' hi hz q hq (by omega) (by omega) (by omega)
 ·obtain rfl:q=0:=by omega
  rw [if_neg (by omega)]at hv
  simp only [Option.map_eq_some_iff,Prod.mk.injEq]at hv
  obtain⟨u,hu,rfl,rfl⟩:=hv;have key:∃b len cap,cs=.slice b len cap∧len≤cap∧u=s:=by
   unfold asame at hu
   split at hu
   ·cases hu;exact⟨_,_,_,hs,Nat.le_refl _,rfl⟩
   ·split at hu
    ·cases hu;obtain⟨l,_,hl,hcv,_⟩:=hs;exact⟨_,_,_,hcv,by assumption,rfl⟩
    ·cases hu
   ·cases hu;obtain⟨l,cc,ff,hl,hcv,hle,_⟩:=hs;exact⟨_,_,_,hcv,hle,rfl⟩
   ·cases hu
  obtain⟨b,len,cap,rfl,hle,rfl⟩:=key;exact⟨j,_,w,zGB w t t' ty et i k kn ht ht' hi b len cap hle,FR.refl _ _,m,hs⟩
theorem zLR (m:MR B w0 j h w) {t ty t' et:TypeId} {i:TypeInfo} (ht:P.underlying t=some (.slice et)) (hi:P.info? et=some i)
  {d s:AV} {cd cs:Value} (hd:VI j d cd) (hs:VI j s cs) {v:AV} {h':AHeap} (hv:acopy i.size h d s=some (v,h')):
  ∃cv w',(Builtin.copy_ #[t,t'] ty #[cd,cs]).run P w=.ok cv w'∧FR j h j h'∧MR B w0 j h' w'∧VI j v cv:=by
 simp only [acopy,Option.bind_eq_some_iff]at hv
 obtain⟨n,hn,m',hm',hv⟩:=hv;obtain⟨od,cpd,hcd,_⟩:=zA2 hd hn;obtain⟨os,cps,hcs,_⟩:=zA2 hs hm'
 split at hv
 ·rename_i h0
  cases hv;refine⟨_,w,?_,FR.refl _ _,m,rfl⟩;subst hcd;subst hcs
  have:Nat.min m' n=0:=h0
  cases od<;>cases os<;>simp [Builtin.copy_,run_underlying ht,Builtin.lenOf,this,qY hi,Builtin.firstCells,loadCells,loadCellsFrom,storeCells,goInt]
 ·rename_i h0
  split at hv
  ·rename_i o off n' cap
   simp only [Option.bind_eq_some_iff,Option.map_eq_some_iff,Prod.mk.injEq]at hv
   obtain⟨news,hf,h1,hw,rfl,rfl⟩:=hv;obtain⟨ad,len',cp',nc,hcx,hle,hvs,hnl,hone,hcells⟩:=zBW m hs h0 hf;cases hn;have key:∃l cp,j o=some l∧cd=.slice (some ⟨l.blk,l.base+off,none⟩) n cp∧l.mp=false:=by
    cases cap with
    | known q=>
     obtain⟨l,a,hl,rfl,ha,hmp⟩:=hd;rcases ha with rfl|⟨_,hz⟩
     ·exact⟨l,_,hl,rfl,hmp⟩
     ·subst hz;simp at h0
    | grown q=>
     obtain⟨l,cp,f,hl,rfl,_,hf',_,hmp⟩:=hd;rcases hf' with rfl|⟨hz,_⟩
     ·exact⟨l,_,hl,rfl,hmp⟩
     ·subst hz;simp at h0
   obtain⟨l,cp,hl,rfl,hmp⟩:=key;obtain⟨w',hst,hm,hfr⟩:=m.wr (P:=P) hl hmp hvs hw;refine⟨_,w',?_,hfr,hm,rfl⟩;rw [hcx]at hcs
   simp only [Value.slice.injEq]at hcs
   obtain⟨rfl,rfl,rfl⟩:=hcs;subst hcx;have hmin:Nat.min len' n=min len' n:=rfl;have hff:=zBF (P:=P) (w:=w) (len:=len') (cp:=cp') hnl hcells;simp [Builtin.copy_,run_underlying ht,Builtin.lenOf,hmin,qY hi,hff,hst,goInt]
  ·cases hv
end Go.Ab
