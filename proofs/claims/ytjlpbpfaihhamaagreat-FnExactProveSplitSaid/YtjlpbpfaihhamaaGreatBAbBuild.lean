/- A struct's or a slice's literal, and the other small operations that change nothing. -/
import Derived.Test.YtjlpbpfaihhamaaGreatBAbQuiet
set_option linter.unusedSimpArgs false
set_option linter.unusedVariables false
namespace Go.Ab
open Go.RowKit
variable {P:Program} {B:Nat} {w0 w:World} {j:Inj} {h:AHeap} {nt:Nat} {e:Env} {a:Act}
theorem zEE:∀(l:List Value) (off k:Nat) (cells:Array Value),off+k+l.length≤cells.size→
  ((l.zipIdx k).foldl (fun cs (x:Value×Nat)=>cs.setIfInBounds (off+x.2) x.1) cells).toList=cells.toList.take (off+k)++l++cells.toList.drop (off+k+l.length)
 | [],off,k,cells,_=>by simp
 | v::l,off,k,cells,hl=>by
  simp only [List.zipIdx_cons,List.foldl_cons];have hlt:off+k<cells.size:=by simp at hl;omega
  rw [zEE l off (k+1) _ (by simp at hl ⊢;omega)]
  have hlt':off+k<cells.toList.length:=by simpa using hlt
  have e1:(cells.toList.set (off+k) v).take (off+(k+1))=cells.toList.take (off+k)++[v]:=by
   rw [←Nat.add_assoc,List.take_succ_eq_append_getElem (by simpa using hlt'),List.take_set_of_le (Nat.le_refl _)]
   simp
  have e2:(cells.toList.set (off+k) v).drop (off+(k+1)+l.length)=cells.toList.drop (off+k+(l.length+1)):=by
   rw [List.drop_set_of_lt (by omega)]
   congr 1;omega
  simp only [Array.toList_setIfInBounds,List.length_cons,e1,e2]
  simp
theorem zAJ {place:Nat→Option (Nat×Nat)}:∀(ps:List (Nat×Operand)) (qs:List (Nat×Nat×AV)) (cells:List AV) (cs:Array Value) (ρ:Operand→Value) (out:List AV),
  VIs j cells cs.toList→cells.all AV.one=true→afill cells qs=some out→ps.length=qs.length→(∀(k:Nat) (p:Nat×Operand) (q:Nat×Nat×AV),ps[k]? = some p→qs[k]? = some q→place p.1=some (q.1,q.2.1)∧VI j q.2.2 (ρ p.2))→
  ∃r,Instr.fill place cs (ps.map fun p=>(p.1,ρ p.2))=some r∧VIs j out r.toList∧out.all AV.one=true
 | [],qs,cells,cs,ρ,out,hc,ho,hf,hl,_=>by
  cases qs with
  | nil=>cases hf;exact⟨cs,rfl,hc,ho⟩
  | cons _ _=>simp at hl
 | p::ps,[],cells,cs,ρ,out,hc,ho,hf,hl,_=>by simp at hl
 | p::ps,(off,size,v)::qs,cells,cs,ρ,out,hc,ho,hf,hl,hp=>by
  obtain⟨h1,h2⟩:=hp 0 p (off,size,v) (by simp) (by simp)
  simp only [afill]at hf
  split at hf
  ·rename_i hb
   obtain⟨b1,b2,b3⟩:=hb;have hv:=VI.cells h2 b3;have hvl:=hv.length;have hcl:=hc.length;have hcond:¬((ρ p.2).cells.size≠size∨off+(ρ p.2).cells.size > cs.size):=by
    simp at hvl hcl
    omega
   have hnew:VIs j (cells.take off++v.cells++cells.drop (off+size)) (((ρ p.2).cells.zipIdx.foldl (fun cs (x:Value×Nat)=>cs.setIfInBounds (off+x.2) x.1) cs).toList):=by
    have hz:((ρ p.2).cells.zipIdx.foldl (fun cs (x:Value×Nat)=>cs.setIfInBounds (off+x.2) x.1) cs)=(((ρ p.2).cells.toList.zipIdx 0).foldl (fun cs (x:Value×Nat)=>cs.setIfInBounds (off+x.2) x.1) cs):=by
     rw [←Array.foldl_toList,Array.toList_zipIdx]
    rw [hz,zEE _ off 0 cs (by simp at hvl hcl ⊢;omega)]
    rw [←hvl,b1]
    simpa using ((hc.take off).append hv).append (hc.drop (off+size))
   have hone:(cells.take off++v.cells++cells.drop (off+size)).all AV.one=true:=by
    rw [List.all_eq_true]at ho b3 ⊢
    intro x hx;simp only [List.mem_append]at hx
    rcases hx with (hx|hx)|hx
    ·exact ho x (List.mem_of_mem_take hx)
    ·exact b3 x hx
    ·exact ho x (List.mem_of_mem_drop hx)
   obtain⟨r,hr,h3,h4⟩:=zAJ ps qs _ _ ρ out hnew hone hf (by simpa using hl) (fun k p' q' a b=>hp (k+1) p' q' (by simpa using a) (by simpa using b))
   refine⟨r,?_,h3,h4⟩;simp only [List.map_cons,Instr.fill,h1];rw [if_neg (by simpa using hcond)]
   exact hr
  ·cases hf
theorem zDZ (r:ER nt j e a) {fields:Array Field}:∀{ps:List (Nat×Operand)} {qs:List (Nat×Nat×IX)},zDa P fields ps=some qs→
  ps.length=qs.length∧∀(k:Nat) (p:Nat×Operand) (q:Nat×Nat×AV),ps[k]? = some p→(qs.map fun q=>(q.1,q.2.1,q.2.2.ev e))[k]? = some q→
   ((fields.map fun f=>(f.offset,P.cellsOf f.type))[p.1]?)=some (q.1,q.2.1)∧VI j q.2.2 (a.eval p.2)
 | [],qs,hq=>by cases hq;exact⟨rfl,fun k p q hp=>by simp at hp⟩
 | (i,x)::ps,qs,hq=>by
  simp only [zDa,Option.bind_eq_some_iff]at hq
  obtain⟨f,hf,fi,hfi,ix,hx,qs',hqs,hq⟩:=hq;cases hq;obtain⟨h1,h2⟩:=zDZ r hqs;refine⟨by simp [h1],fun k p q hp hq=>?_⟩
  cases k with
  | zero=>
   simp at hp hq
   subst hp;subst hq;exact⟨by simp [hf,Program.cellsOf,hfi],zI r hx⟩
  | succ k=>exact h2 k p q (by simpa using hp) (by simpa using hq)
theorem zFd:∀(fs:List Field),fs.all (fun f=>(P.info? f.type).isSome)=true→
  (fs.mapM fun f=>(do pure (f.offset,←sizeOf f.type):Sem (Nat×Nat))).run P w=.ok (fs.map fun f=>(f.offset,P.cellsOf f.type)) w
 | [],_=>by simp
 | f::fs,hfs=>by
  simp only [List.all_cons,Bool.and_eq_true]at hfs
  obtain⟨i,hi⟩:=Option.isSome_iff_exists.1 hfs.1;have ih:=zFd fs hfs.2;simp only [List.mapM_cons,Sem.run_bind,qY hi,Result.andThen_ok,Sem.run_pure,List.map_cons];rw [ih];simp [Program.cellsOf,hi]
theorem zJu (r:ER nt j e a) {t:TypeId} {fields:Array Field} {z:Array Value} {ps:Array (Nat×Operand)} {qs:List (Nat×Nat×IX)} {zs out:List AV} {i:TypeInfo}
  (ht:P.underlying t=some (.struct fields)) (hi:P.info? t=some i) (hz:i.zero=some (.agg z)) (hall:fields.toList.all (fun f=>(P.info? f.type).isSome)=true)
  (hzs:ZE z.toList=some zs) (hps:zDa P fields ps.toList=some qs) (hv:afill zs (qs.map fun q=>(q.1,q.2.1,q.2.2.ev e))=some out):
  Runs P (Instr.build t (ps.map fun(i,x)=>(i,a.eval x))) w j (.agg out):=by
 obtain⟨h1,h2⟩:=zDZ r hps;obtain⟨z1,z2⟩:=ZH (j:=j) hzs;obtain⟨res,hr,h3,_⟩:=zAJ (place:=fun k=>(fields.map fun f=>(f.offset,P.cellsOf f.type))[k]?) ps.toList _ zs z a.eval out z1 z2 hv (by simpa using h1) h2
 refine⟨.agg res,?_,_,h3,by simp⟩
 have hm:(fields.mapM fun f=>(do pure (f.offset,←sizeOf f.type):Sem (Nat×Nat))).run P w=.ok (fields.map fun f=>(f.offset,P.cellsOf f.type)) w:=by
  rw [Array.mapM_eq_mapM_toList];simp only [Sem.run_map];rw [zFd _ hall];simp only [Result.andThen_ok,Result.ok.injEq,and_true];apply Array.ext'
  simp
 have hlist:(ps.map fun(i,x)=>(i,a.eval x)).toList=ps.toList.map fun p=>(p.1,a.eval p.2):=by simp
 simp only [Instr.build,Sem.run_bind,zeroValue,typeInfo,hi,hz,run_program,Result.andThen_ok,Sem.run_pure,run_underlying ht,hm,hlist,Value.cells];rw [hr]
 simp
theorem zEb (r:ER nt j e a) {size:Nat}:∀{ps:List (Nat×Operand)} {qs:List (Nat×Nat×IX)},carts size ps=some qs→ps.length=(qs.map fun p=>(p.1,p.2.1,p.2.2.ev e)).length∧
  ∀(k:Nat) (p:Nat×Operand) (q:Nat×Nat×AV),ps[k]? = some p→(qs.map fun q=>(q.1,q.2.1,q.2.2.ev e))[k]? = some q→(some (p.1*size,size))=some (q.1,q.2.1)∧VI j q.2.2 (a.eval p.2)
 | [],qs,hq=>by cases hq;exact⟨rfl,fun k p q hp=>by simp at hp⟩
 | (n,x)::ps,qs,hq=>by
  simp only [carts,Option.bind_eq_some_iff]at hq
  obtain⟨ix,hx,qs',hqs',hq⟩:=hq;cases hq;obtain⟨i1,i2⟩:=zEb r hqs';refine⟨by simp at i1 ⊢;exact i1,fun k p q hp hq=>?_⟩
  cases k with
  | zero=>simp at hp hq;subst hp;subst hq;exact⟨rfl,zI r hx⟩
  | succ k=>exact i2 k p q (by simpa using hp) (by simpa using hq)
theorem zIl (r:ER nt j e a) {t et:TypeId} {len:Nat} {z:Array Value} {ps:Array (Nat×Operand)} {qs:List (Nat×Nat×IX)} {zs out:List AV} {i i2:TypeInfo}
  (ht:P.underlying t=some (.array len et)) (hi:P.info? t=some i) (hz:i.zero=some (.agg z)) (hi2:P.info? et=some i2)
  (hzs:ZE z.toList=some zs) (hps:carts i2.size ps.toList=some qs) (hv:afill zs (qs.map fun q=>(q.1,q.2.1,q.2.2.ev e))=some out):
  Runs P (Instr.build t (ps.map fun(i,x)=>(i,a.eval x))) w j (.agg out):=by
 obtain⟨h1,h2⟩:=zEb r hps;obtain⟨z1,z2⟩:=ZH (j:=j) hzs;obtain⟨res,hr,h3,_⟩:=zAJ (place:=fun k=>some (k*i2.size,i2.size)) ps.toList _ zs z a.eval out z1 z2 hv h1 h2
 refine⟨.agg res,?_,_,h3,by simp⟩
 have hlist:(ps.map fun(i,x)=>(i,a.eval x)).toList=ps.toList.map fun p=>(p.1,a.eval p.2):=by simp
 simp only [Instr.build,Sem.run_bind,zeroValue,typeInfo,hi,hz,run_program,Result.andThen_ok,Sem.run_pure,run_underlying ht,qY hi2,hlist,Value.cells];rw [hr]
 simp
theorem zGA {t:TypeId} (ht:P.underlying t=some .string) {x:AV} {lo hh:Option AV} {c:Value} {clo chi:Option Value} {v:AV}
  (hc:VI j x c) (h1:OB j lo clo) (h2:OB j hh chi) (hv:zAo x lo hh=some v):Runs P (Instr.sliceAt t c clo chi none) w j v:=by
 have hat:(Instr.sliceAt t c clo chi none).run P w=(Instr.slice t c clo chi none).run P w:=by simp [Instr.sliceAt,run_underlying ht]
 unfold zAo at hv
 split at hv
 ·rename_i s
  simp only [Option.bind_eq_some_iff]at hv
  obtain⟨hq,hhq,l,hl,hv⟩:=hv;cases hv;rw [show c=_ from hc]at hat ⊢
  have hsz:(⟨s.toArray⟩:ByteArray).size=s.length:=by simp [ByteArray.size]
  have hb:=Qb (P:=P) (w:=w) (sl:=false) (mx:=none) (cmx:=none) (cap:=s.length) (m:=s.length) h1 h2 trivial rfl hhq hl (fun e=>by cases e.2) (fun _=>rfl)
  refine⟨_,by rw [hat];simp only [Instr.slice,Sem.run_bind,run_underlying ht,Result.andThen_ok,hsz,Option.isSome,Bool.false_eq_true,if_false,Sem.run_pure,hb];rfl,?_⟩
  show Value.string _=Value.string _
  congr 1
  apply ByteArray.ext;apply Array.ext';simp [ByteArray.data_extract,Array.toList_extract,List.drop_take]
 ·cases hv
theorem zGO {t:TypeId} (ht:P.underlying t=some .string) {s:List UInt8} {k:IntKind} {n:Int} {c:Value} {v:AV} (hc:VI j (.str s) c)
  (hv:(if 0≤n then(s[n.toNat]?).map fun c=>AV.int .u8 c.toNat else none)=some v):Runs P (Instr.index t c (.int k n)) w j v:=by
 rw [show c=_ from hc]
 split at hv
 ·rename_i h0
  simp only [Option.map_eq_some_iff]at hv
  obtain⟨b,hb,rfl⟩:=hv;refine⟨_,?_,rfl⟩
  have:(⟨s.toArray⟩:ByteArray)[n.toNat]? = some b:=by
   have hlt:=(List.getElem?_eq_some_iff.1 hb).1;rw [getElem?_pos (c:=(⟨s.toArray⟩:ByteArray)) (i:=n.toNat) (h:=by simpa [ByteArray.size]using hlt)]
   congr 1
   exact(List.getElem?_eq_some_iff.1 hb).2
  simp [Instr.index,asIntOf,run_underlying ht,h0,this]
 ·cases hv
theorem OB.of (r:ER nt j e a) {x:Option Operand} {ix:Option IX} (hx:cxo x=some ix):OB j (ix.map (·.ev e)) (x.map a.eval):=by
 rcases zNM r hx with ⟨rfl,rfl⟩|⟨y,iy,rfl,rfl,hv⟩
 ·trivial
 ·exact hv
theorem zLT (m:MR B w0 j h w) (r:ER nt j e a) {o:Oper} {io:IOp} (hc:copQ P o.op=some io) {nb:Nat} {v:AV} (hv:qv nb io e h=some v):
  ∃cv,(execOp a.eval o).run P w=.ok (.value cv) w∧VI j v cv:=by
 obtain⟨dst,op,ty,pos,after,guard⟩:=o;have fin:∀{s:Sem Value},Runs P s w j v→∃cv,(do pure (.value (←s)):Sem Next).run P w=.ok (.value cv) w∧VI j v cv:=by
  rintro s ⟨cv,h1,h2⟩
  exact⟨cv,by simp [h1],h2⟩
 cases op<;>simp only [copQ]at hc<;>(try (cases hc;done))
 case move x=>
  simp only [Option.map_eq_some_iff]at hc
  obtain⟨ix,hx,rfl⟩:=hc;cases hv;exact⟨_,rfl,zI r hx⟩
 case assign x=>
  simp only [Option.map_eq_some_iff]at hc
  obtain⟨ix,hx,rfl⟩:=hc;cases hv;exact⟨_,rfl,zI r hx⟩
 case pick c x y=>
  simp only [Option.bind_eq_some_iff]at hc
  obtain⟨ic,hic,ix,hx,iy,hy,hc⟩:=hc;cases hc;simp only [qv,aPick,aConv,aNil,ZN,qg,q8,ZM,qx,aLen,ZL,aCap,q9,ldv]at hv
  split at hv
  ·rename_i t ht
   have hb:=zI r hic;rw [ht]at hb
   cases hv;cases t with
   | true=>exact⟨_,by simp [execOp,show a.eval c=_ from hb,asBool],zI r hx⟩
   | false=>exact⟨_,by simp [execOp,show a.eval c=_ from hb,asBool],zI r hy⟩
  ·cases hv
 case binOp bop xt x y yt=>
  simp only [Option.bind_eq_some_iff]at hc
  obtain⟨ix,hx,iy,hy,hc⟩:=hc;cases hc;simp only [qv,aPick,aConv,aNil,ZN,qg,q8,ZM,qx,aLen,ZL,aCap,q9,ldv]at hv
  obtain⟨hr,hp⟩:=zLa (P:=P) (w:=w) hv (zI r hx) (zI r hy);obtain⟨cv,h1,h2⟩:=hr;rcases hp with hp|⟨hp,xs,ys,e1,e2⟩
  ·exact⟨cv,by simp [execOp,zHI hp,h1],h2⟩
  ·rw [e1,e2]at h1
   exact⟨cv,by simp [execOp,e1,e2,run_eqGuard_agg _ _ _ _ _ _ _ hp,h1],h2⟩
 case unOp uop xt x=>
  simp only [Option.map_eq_some_iff]at hc
  obtain⟨ix,hx,rfl⟩:=hc;exact fin (zNV hv (zI r hx))
 case convert s d x=>
  split at hc
  ·rename_i k0 k hs hd
   simp only [Option.map_eq_some_iff]at hc
   obtain⟨ix,hx,rfl⟩:=hc;simp only [qv,aPick,aConv,aNil,ZN,qg,q8,ZM,qx,aLen,ZL,aCap,q9,ldv]at hv
   split at hv
   ·rename_i k1 n hn
    have:=zI r hx
    rw [hn]at this
    cases hv;refine fin ⟨_,?_,rfl⟩;simp [convert,run_underlying hs,run_underlying hd,show a.eval x=_ from this,Conv.intToInt]
   ·cases hv
  ·cases hc
 case nilCheck x=>
  simp only [Option.map_eq_some_iff]at hc
  obtain⟨ix,hx,rfl⟩:=hc;simp only [qv,aPick,aConv,aNil,ZN,qg,q8,ZM,qx,aLen,ZL,aCap,q9,ldv]at hv
  have:=zI r hx
  split at hv
  ·rename_i o i hn
   rw [hn]at this
   cases hv;obtain⟨l,hl,hcv,hp⟩:=this;exact⟨_,by simp [execOp,hcv],l,hl,rfl,hp⟩
  ·rename_i f x' y' hn
   rw [hn]at this
   cases hv;obtain⟨vs,us,h1,h2,hcv⟩:=this;exact⟨_,by simp [execOp,hcv],vs,us,h1,h2,rfl⟩
  ·cases hv
 case build t ps=>
  split at hc
  ·rename_i fields z ht hz
   split at hc
   ·rename_i hall
    simp only [Option.bind_eq_some_iff]at hc hz
    obtain⟨zs,hzs,qs,hqs,hc⟩:=hc;obtain⟨i,hi,hz⟩:=hz;cases hc;simp only [qv,Option.map_eq_some_iff]at hv
    obtain⟨out,ho,rfl⟩:=hv;exact fin (zJu r ht hi hz hall hzs hqs ho)
   ·cases hc
  ·rename_i len et z ht hz
   simp only [Option.bind_eq_some_iff]at hc hz
   obtain⟨i2,hi2,zs,hzs,qs,hqs,hc⟩:=hc;obtain⟨i,hi,hz⟩:=hz;cases hc;simp only [qv,Option.map_eq_some_iff]at hv
   obtain⟨out,ho,rfl⟩:=hv;exact fin (zIl r ht hi hz hi2 hzs hqs ho)
  ·cases hc
 case load t x=>
  split at hc
  ·rename_i d i hd hi
   simp only [Option.map_eq_some_iff]at hc
   obtain⟨ix,hx,rfl⟩:=hc;simp only [qv,aPick,aConv,aNil,ZN,qg,q8,ZM,qx,aLen,ZL,aCap,q9,ldv]at hv
   split at hv
   ·rename_i o k hn
    have:=zI r hx
    rw [hn]at this
    exact fin (zFg m hd hi this hv)
   ·cases hv
  ·cases hc
 case makeFunc fn first caps=>
  cases fn<;>simp only at hc<;>(try (cases hc;done))
  rename_i f
  simp only [Option.bind_eq_some_iff]at hc
  obtain⟨x1,hx1,x2,hx2,hc⟩:=hc;cases hc;cases hv;refine fin ⟨.func (.func f) (first.map a.eval) (caps.map a.eval),by simp [Instr.makeFunc],_,_,zAn r hx1,zAn r hx2,?_⟩
  congr 1<;>(apply Array.ext';simp)
 case slice t x lo hi mx=>
  split at hc
  ·rename_i et ht
   simp only [Option.bind_eq_some_iff]at hc
   obtain⟨i,hi',ix,hx,l1,hl1,l2,hl2,l3,hl3,hc⟩:=hc;cases hc;exact fin (zIx ht hi' (zI r hx) (OB.of r hl1) (OB.of r hl2) (OB.of r hl3) hv)
  ·rename_i ht
   simp only [Option.bind_eq_some_iff]at hc
   obtain⟨ix,hx,l1,hl1,l2,hl2,hc⟩:=hc
   split at hc
   ·cases hc
    exact fin (zGA ht (zI r hx) (OB.of r hl1) (OB.of r hl2) hv)
   ·cases hc
  ·cases hc
 case fieldAddr t x f=>
  split at hc
  ·rename_i fields ht
   simp only [Option.bind_eq_some_iff]at hc
   obtain⟨fd,hf,i,hi,hc⟩:=hc
   split at hc
   ·cases hc
   ·rename_i hne
    simp only [Option.map_eq_some_iff]at hc
    obtain⟨ix,hx,rfl⟩:=hc;simp only [qv,aPick,aConv,aNil,ZN,qg,q8,ZM,qx,aLen,ZL,aCap,q9,ldv]at hv
    split at hv
    ·rename_i o k hn
     have:=zI r hx
     rw [hn]at this
     cases hv;exact fin (zFq ht hf hi hne this)
    ·cases hv
  ·cases hc
 case field t x f=>
  split at hc
  ·rename_i fields ht
   simp only [Option.bind_eq_some_iff]at hc
   obtain⟨fd,hf,hc⟩:=hc
   split at hc
   ·rename_i d i hd hi
    simp only [Option.map_eq_some_iff]at hc
    obtain⟨ix,hx,rfl⟩:=hc;simp only [qv,aPick,aConv,aNil,ZN,qg,q8,ZM,qx,aLen,ZL,aCap,q9,ldv]at hv
    split at hv
    ·rename_i cs hn
     have:=zI r hx
     rw [hn]at this
     exact fin (zJp ht hf hd hi this hv)
    ·cases hv
   ·cases hc
  ·cases hc
 case indexAddr t x ix=>
  split at hc
  ·rename_i et ht
   simp only [Option.bind_eq_some_iff]at hc
   obtain⟨i,hi,x1,hx1,x2,hx2,hc⟩:=hc;cases hc;simp only [qv,aPick,aConv,aNil,ZN,qg,q8,ZM,qx,aLen,ZL,aCap,q9,ldv]at hv
   split at hv
   ·rename_i o off len cap k n h1 h2
    have q1:=zI r hx1;have q2:=zI r hx2;rw [h1]at q1
    rw [h2]at q2
    split at hv
    ·rename_i hb
     cases hv;refine fin ?_;rw [show a.eval ix=Value.int k n from q2]
     exact zFn ht hi q1 hb.1 hb.2
    ·cases hv
   ·cases hv
  ·rename_i len et ht
   split at hc
   ·rename_i ik n
    simp only [Option.bind_eq_some_iff]at hc
    obtain⟨i,hi,hc⟩:=hc
    split at hc
    ·rename_i hb
     simp only [Option.map_eq_some_iff]at hc
     obtain⟨x1,hx1,rfl⟩:=hc;simp only [qv,aPick,aConv,aNil,ZN,qg,q8,ZM,qx,aLen,ZL,aCap,q9,ldv]at hv
     split at hv
     ·rename_i o k hn
      have q1:=zI r hx1;rw [hn]at q1
      cases hv;exact fin (zF1 ht hi q1 hb.1 hb.2)
     ·cases hv
    ·cases hc
   ·cases hc
  ·cases hc
 case index t x ix=>
  split at hc
  ·rename_i ht
   simp only [Option.bind_eq_some_iff]at hc
   obtain⟨x1,hx1,x2,hx2,hc⟩:=hc;cases hc;simp only [qv,aPick,aConv,aNil,ZN,qg,q8,ZM,qx,aLen,ZL,aCap,q9,ldv]at hv
   split at hv
   ·rename_i s k n h1 h2
    have q1:=zI r hx1;have q2:=zI r hx2;rw [h1]at q1
    rw [h2]at q2
    refine fin ?_;rw [show a.eval ix=Value.int k n from q2]
    exact zGO ht q1 hv
   ·cases hv
  ·cases hc
 case extract x i=>
  simp only [Option.map_eq_some_iff]at hc
  obtain⟨ix,hx,rfl⟩:=hc;simp only [qv,aPick,aConv,aNil,ZN,qg,q8,ZM,qx,aLen,ZL,aCap,q9,ldv]at hv
  split at hv
  ·rename_i vs hn
   have:=zI r hx
   rw [hn]at this
   obtain⟨cs,hcs,hcv⟩:=this;obtain⟨cv,h1,h2⟩:=hcs.get hv;exact fin ⟨cv,by simp [hcv,Instr.extract,h1],h2⟩
  ·cases hv
 case call c=>
  obtain⟨callee,args,argTypes⟩:=c;cases callee<;>simp only at hc<;>(try (cases hc;done))
  rename_i b
  split at hc<;>(try (cases hc;done))
  ·rename_i x t hargs hts
   have e1:args = #[x]:=by rw [←Array.toArray_toList (xs:=args),hargs]
   have e2:argTypes = #[t]:=by rw [←Array.toArray_toList (xs:=argTypes),hts]
   clear hargs hts;subst e1;subst e2
   split at hc<;>(try (cases hc;done))
   ·rename_i et ht
    simp only [Option.map_eq_some_iff]at hc
    obtain⟨ix,hx,rfl⟩:=hc
    have:=zI r hx
    simp only [qv,aPick,aConv,aNil,ZN,qg,q8,ZM,qx,aLen,ZL,aCap,q9,ldv]at hv
    split at hv
    ·rename_i o off n cap hn
     rw [hn]at this
     cases hv;obtain⟨y,q1,q2⟩:∃y q1,a.eval x=.slice (some y) n q1:=by
      cases cap with
      | known q=>obtain⟨l,_,hl,hcv,_⟩:=this;exact⟨_,_,hcv⟩
      | grown q=>obtain⟨l,cc,ff,hl,hcv,_⟩:=this;exact⟨_,_,hcv⟩
     exact⟨.int .i64 n,by simp [execOp,resolve,invoke,builtin,q2,Builtin.len_,run_underlying ht,goInt],rfl⟩
    ·rename_i hn
     rw [hn]at this
     cases hv;exact⟨.int .i64 0,by simp [execOp,resolve,invoke,builtin,show a.eval x=_ from this,Builtin.len_,run_underlying ht,goInt],rfl⟩
    ·cases hv
   ·rename_i ht
    simp only [Option.map_eq_some_iff]at hc
    obtain⟨ix,hx,rfl⟩:=hc
    have:=zI r hx
    simp only [qv,aPick,aConv,aNil,ZN,qg,q8,ZM,qx,aLen,ZL,aCap,q9,ldv]at hv
    split at hv
    ·rename_i s hn
     rw [hn]at this
     cases hv;have hsz:(⟨s.toArray⟩:ByteArray).size=s.length:=by simp [ByteArray.size]
     exact⟨.int .i64 s.length,by simp [execOp,resolve,invoke,builtin,show a.eval x=_ from this,Builtin.len_,run_underlying ht,goInt,hsz],rfl⟩
    ·cases hv
  ·rename_i x t hargs hts
   have e1:args = #[x]:=by rw [←Array.toArray_toList (xs:=args),hargs]
   have e2:argTypes = #[t]:=by rw [←Array.toArray_toList (xs:=argTypes),hts]
   clear hargs hts;subst e1;subst e2
   split at hc<;>(try (cases hc;done))
   rename_i et ht
   simp only [Option.map_eq_some_iff]at hc
   obtain⟨ix,hx,rfl⟩:=hc
   have:=zI r hx
   simp only [qv,aPick,aConv,aNil,ZN,qg,q8,ZM,qx,aLen,ZL,aCap,q9,ldv]at hv
   split at hv
   ·rename_i o off n q hn
    rw [hn]at this
    cases hv;obtain⟨l,hl,hcv⟩:=this;exact⟨.int .i64 q,by simp [execOp,resolve,invoke,builtin,hcv,Builtin.cap_,run_underlying ht,goInt],rfl⟩
   ·rename_i hn
    rw [hn]at this
    cases hv;exact⟨.int .i64 0,by simp [execOp,resolve,invoke,builtin,show a.eval x=_ from this,Builtin.cap_,run_underlying ht,goInt],rfl⟩
   ·cases hv
  ·rename_i x y t t' hargs hts
   have e1:args = #[x,y]:=by rw [←Array.toArray_toList (xs:=args),hargs]
   clear hargs hts;subst e1
   split at hc<;>(try (cases hc;done))
   rename_i et ht
   simp only [Option.bind_eq_some_iff]at hc
   obtain⟨ix,hx,iy,hy,hc⟩:=hc;cases hc;have q1:=zI r hx;have q2:=zI r hy;simp only [qv,aPick,aConv,aNil,ZN,qg,q8,ZM,qx,aLen,ZL,aCap,q9,ldv]at hv
   split at hv
   ·rename_i k n k' n' h1 h2
    rw [h1]at q1
    rw [h2]at q2
    split at hv
    ·rename_i ek
     subst ek;cases hv;refine⟨.int k (max n n'),?_,rfl⟩;simp only [execOp,resolve,invoke,builtin];simp [show a.eval x=_ from q1,show a.eval y=_ from q2,Builtin.max_,Builtin.max2,Int.max_def]
     split<;>split<;>omega
    ·cases hv
   ·cases hv
  ·rename_i x y t t' hargs hts
   have e1:args = #[x,y]:=by rw [←Array.toArray_toList (xs:=args),hargs]
   clear hargs hts;subst e1
   split at hc<;>(try (cases hc;done))
   rename_i et ht
   simp only [Option.bind_eq_some_iff]at hc
   obtain⟨ix,hx,iy,hy,hc⟩:=hc;cases hc;have q1:=zI r hx;have q2:=zI r hy;simp only [qv,aPick,aConv,aNil,ZN,qg,q8,ZM,qx,aLen,ZL,aCap,q9,ldv]at hv
   split at hv
   ·rename_i k n k' n' h1 h2
    rw [h1]at q1
    rw [h2]at q2
    split at hv
    ·rename_i ek
     subst ek;cases hv;refine⟨.int k (min n n'),?_,rfl⟩;simp only [execOp,resolve,invoke,builtin];simp [show a.eval x=_ from q1,show a.eval y=_ from q2,Builtin.min_,Builtin.min2,Int.min_def]
     split<;>split<;>omega
    ·cases hv
   ·cases hv
end Go.Ab
