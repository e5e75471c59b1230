/- THE OPERATIONS THAT CHANGE NOTHING, each against the abstract value. -/
import Derived.Test.YtjlpbpfaihhamaaGreatBAbOps
set_option linter.unusedSimpArgs false
set_option linter.unusedVariables false
namespace Go.Ab
open Go.RowKit
variable {P:Program} {B:Nat} {w0 w:World} {j:Inj} {h:AHeap} {nt:Nat} {e:Env} {a:Act}
theorem zBg {t:TypeId} {d:TypeDesc} (ht:P.underlying t=some d):(isAgg t).run P w=.ok (zAi d) w:=by
 simp only [isAgg,Sem.run_bind,run_underlying ht,Result.andThen_ok];cases d<;>rfl
theorem qY {t:TypeId} {i:TypeInfo} (ht:P.info? t=some i):(sizeOf t).run P w=.ok i.size w:=by
 simp [sizeOf,typeInfo,ht]
theorem zFg (m:MR B w0 j h w) {t:TypeId} {d:TypeDesc} {i:TypeInfo} (ht:P.underlying t=some d) (hi:P.info? t=some i) {o k:Nat} {v:AV} {c:Value} (hc:VI j (.ptr o k) c)
  (hv:(if zAi d=true then(h.rd o k i.size).map AV.agg else h.rd1 o k)=some v):Runs P (Instr.loadAt t c) w j v:=by
 obtain⟨l,hl,rfl,hp⟩:=hc;cases hd:zAi d with
 | true=>
  rw [hd,if_pos rfl]at hv
  simp only [Option.map_eq_some_iff]at hv
  obtain⟨vs,hrd,rfl⟩:=hv;obtain⟨cs,h1,h2,_,h3⟩:=m.cells hrd hl hp;refine⟨.agg cs.toArray,?_,cs,h1,rfl⟩
  have:=run_loadCells_list (P:=P) w _ cs h3
  rw [h2]at this
  simp [Instr.loadAt,Instr.sureAddr,loadVar,zBg ht,hd,qY hi,this]
 | false=>
  rw [hd]at hv
  simp only [Bool.false_eq_true,if_false]at hv
  obtain⟨cv,h1,h2⟩:=m.cell hv hl hp;exact⟨cv,by simp [Instr.loadAt,Instr.sureAddr,loadVar,zBg ht,hd,h1],h2⟩
theorem extract_toList {α:Type} (cs:List α) (off n:Nat):cs.toArray.extract off (off+n)=((cs.drop off).take n).toArray:=by
 apply Array.ext';simp [Array.toList_extract]
theorem zJp {t:TypeId} {fields:Array Field} {f:Nat} {fd:Field} {d:TypeDesc} {i:TypeInfo} (ht:P.underlying t=some (.struct fields)) (hf:fields[f]? = some fd)
  (hd:P.underlying fd.type=some d) (hi:P.info? fd.type=some i) {cs:List AV} {v:AV} {c:Value} (hc:VI j (.agg cs) c)
  (hv:(if zAi d=true then some (AV.agg ((cs.drop fd.offset).take i.size))else cs[fd.offset]?)=some v):Runs P (Instr.field t c f) w j v:=by
 obtain⟨vs,hvs,rfl⟩:=hc;cases hg:zAi d with
 | true=>
  rw [hg,if_pos rfl]at hv
  cases hv;refine⟨.agg ((vs.drop fd.offset).take i.size).toArray,?_,_,(hvs.drop _).take _,rfl⟩;simp [Instr.field,run_underlying ht,hf,part,zBg hd,hg,asAgg,qY hi,extract_toList]
 | false=>
  rw [hg]at hv
  simp only [Bool.false_eq_true,if_false]at hv
  obtain⟨cv,h1,h2⟩:=hvs.get hv;exact⟨cv,by simp [Instr.field,run_underlying ht,hf,part,zBg hd,hg,asAgg,h1],h2⟩
theorem zFq {t:TypeId} {fields:Array Field} {f:Nat} {fd:Field} {i:TypeInfo} (ht:P.underlying t=some (.struct fields)) (hf:fields[f]? = some fd)
  (hi:P.info? fd.type=some i) (hs:i.size≠0) {o k:Nat} {c:Value} (hc:VI j (.ptr o k) c):Runs P (Instr.fieldAt t c f) w j (.ptr o (k+fd.offset)):=by
 obtain⟨l,hl,rfl,hp⟩:=hc;refine⟨_,?_,l,hl,rfl,hp⟩;simp [Instr.fieldAt,run_underlying ht,hf,Instr.sureAddr,fieldPlace,qY hi,hs,Zc,Nat.add_assoc]
theorem zF1 {t et:TypeId} {len:Nat} {i:TypeInfo} (ht:P.underlying t=some (.array len et)) (hi:P.info? et=some i) {o k:Nat} {ik:IntKind} {n:Int} {c:Value}
  (hc:VI j (.ptr o k) c) (h0:0≤n) (h1:n<len):Runs P (Instr.indexAt t c (.int ik n)) w j (.ptr o (k+n.toNat*i.size)):=by
 obtain⟨l,hl,rfl,hp⟩:=hc;refine⟨.pointer (some ⟨l.blk,l.base+k+n.toNat*i.size,none⟩),?_,l,hl,by rw [Nat.add_assoc],hp⟩
 simp [Instr.indexAt,asIntOf,Instr.sureAddr,run_underlying ht,h0,h1,qY hi,Zc]
theorem zFn {t et:TypeId} {i:TypeInfo} (ht:P.underlying t=some (.slice et)) (hi:P.info? et=some i) {o off len:Nat} {cap:Cap} {k:IntKind} {n:Int} {c:Value}
  (hc:VI j (.sl o off len cap) c) (h0:0≤n) (h1:n<len):Runs P (Instr.indexAt t c (.int k n)) w j (.ptr o (off+n.toNat*i.size)):=by
 have key:∃l cp,j o=some l∧c=.slice (some ⟨l.blk,l.base+off,none⟩) len cp∧l.mp=false:=by
  cases cap with
  | known q=>
   obtain⟨l,a,hl,rfl,ha,hp⟩:=hc;rcases ha with rfl|⟨_,hz⟩
   ·exact⟨l,_,hl,rfl,hp⟩
   ·omega
  | grown q=>
   obtain⟨l,cp,f,hl,rfl,_,hf,_,hp⟩:=hc;rcases hf with rfl|⟨hz,_⟩
   ·exact⟨l,_,hl,rfl,hp⟩
   ·omega
 obtain⟨l,cp,hl,rfl,hp⟩:=key;refine⟨.pointer (some ⟨l.blk,l.base+off+n.toNat*i.size,none⟩),?_,l,hl,by rw [Nat.add_assoc],hp⟩
 simp [Instr.indexAt,asIntOf,run_underlying ht,h0,h1,qY hi,Zc]
theorem QT {x:AV} {y m:Nat} {c:Value} (hx:zAp x y=some m) (hc:VI j x c) (code:BoundsCode):(Instr.sliceBound c y code).run P w=.ok m w∧m≤y:=by
 unfold zAp at hx
 split at hx
 ·rename_i k i
  split at hx
  ·rename_i hb
   cases hx;rw [show c=_ from hc]
   exact⟨run_sliceBound w k i y code hb.1 hb.2,by omega⟩
  ·cases hx
 ·cases hx
def OB (j:Inj):Option AV→Option Value→Prop
 | none,none=>True
 | some x,some c=>VI j x c
 | _,_=>False
theorem Qb {sl:Bool} {len cap m hh l:Nat} {lo hi mx:Option AV} {clo chi cmx:Option Value} (h1:OB j lo clo) (h2:OB j hi chi) (h3:OB j mx cmx)
  (hm:qZ mx cap cap=some m) (hhh:qZ hi len m=some hh) (hl:qZ lo 0 hh=some l) (hne:¬(hi.isNone=true∧mx.isSome=true)) (hmc:mx=none→m=cap):
  (Instr.sliceBounds sl len cap clo chi cmx).run P w=.ok (l,hh,m) w:=by
 cases mx with
 | none=>
  cases cmx with
  | some _=>exact h3.elim
  | none=>
   simp only [qZ,Option.some.injEq]at hm
   subst hm;cases hi with
   | none=>
    cases chi with
    | some _=>exact h2.elim
    | none=>
     simp only [qZ,Option.some.injEq]at hhh
     subst hhh;cases lo with
     | none=>
      cases clo with
      | some _=>exact h1.elim
      | none=>simp only [qZ,Option.some.injEq]at hl;subst hl;simp [Instr.sliceBounds]
     | some x=>
      cases clo with
      | none=>exact h1.elim
      | some c=>simp [Instr.sliceBounds,(QT hl h1 _).1]
   | some y=>
    cases chi with
    | none=>exact h2.elim
    | some d=>
     have e2:=fun q=>(QT (P:=P) (w:=w) hhh h2 q).1
     cases lo with
     | none=>
      cases clo with
      | some _=>exact h1.elim
      | none=>simp only [qZ,Option.some.injEq]at hl;subst hl;simp [Instr.sliceBounds,e2]
     | some x=>
      cases clo with
      | none=>exact h1.elim
      | some c=>simp [Instr.sliceBounds,e2,(QT hl h1 _).1]
 | some z=>
  cases cmx with
  | none=>exact h3.elim
  | some cz=>
   have e3:=fun q=>(QT (P:=P) (w:=w) hm h3 q).1
   cases hi with
   | none=>exact absurd ⟨rfl,rfl⟩ hne
   | some y=>
    cases chi with
    | none=>exact h2.elim
    | some d=>
     have e2:=fun q=>(QT (P:=P) (w:=w) hhh h2 q).1
     cases lo with
     | none=>
      cases clo with
      | some _=>exact h1.elim
      | none=>simp only [qZ,Option.some.injEq]at hl;subst hl;simp [Instr.sliceBounds,e2,e3]
     | some x=>
      cases clo with
      | none=>exact h1.elim
      | some c=>simp [Instr.sliceBounds,e2,e3,(QT hl h1 _).1]
theorem Zm {x:Option AV} {d y m:Nat} (hx:qZ x d y=some m):x=none∧m=d∨m≤y:=by
 cases x with
 | none=>cases hx;exact .inl ⟨rfl,rfl⟩
 | some x=>
  simp only [qZ,zAp]at hx
  split at hx
  ·split at hx
   ·cases hx;right;omega
   ·cases hx
  ·cases hx
theorem zEN {x:Option AV} {d y y' m:Nat} (hx:qZ x d y=some m) (hy:y≤y'):qZ x d y'=some m:=by
 cases x with
 | none=>exact hx
 | some x=>
  simp only [qZ,zAp]at hx ⊢
  split at hx
  ·split at hx
   ·cases hx;rw [if_pos (by omega)]
   ·cases hx
  ·cases hx
theorem zIx {t et:TypeId} {i:TypeInfo} (ht:P.underlying t=some (.slice et)) (hi:P.info? et=some i) {x:AV} {lo hh mx:Option AV} {c:Value} {clo chi cmx:Option Value} {v:AV}
  (hc:VI j x c) (h1:OB j lo clo) (h2:OB j hh chi) (h3:OB j mx cmx) (hv:QP i.size x lo hh mx=some v):Runs P (Instr.sliceAt t c clo chi cmx) w j v:=by
 have hat:∀x:Value,(Instr.sliceAt t x clo chi cmx).run P w=(Instr.slice t x clo chi cmx).run P w:=fun x=>by simp [Instr.sliceAt,run_underlying ht]
 unfold QP at hv
 split at hv
 ·rename_i o off len cp
  simp only [Option.bind_eq_some_iff]at hv
  obtain⟨m,hm,hq,hhq,l,hl,hv⟩:=hv
  split at hv
  ·cases hv
  ·rename_i hne
   cases hv;obtain⟨lc,ac,hlc,rfl,hac,hp⟩:=hc;have hb:=Qb (P:=P) (w:=w) (sl:=true) h1 h2 h3 hm hhq hl hne (fun e=>by subst e;cases hm;rfl)
   have hsl:(if m=l then some ac else Option.map (fun x=>x.add (l*i.size)) (some ac))=some (if m=l then ac else ac.add (l*i.size)):=by split<;>rfl
   refine⟨.slice (some (if m=l then ac else ac.add (l*i.size))) (hq-l) (m-l),by rw [hat];simp only [Instr.slice,Sem.run_bind,run_underlying ht,Result.andThen_ok,hb,qY hi,Sem.run_pure];rw [hsl],lc,_,hlc,rfl,?_,hp⟩
   rcases hac with rfl|⟨hc0,hl0⟩
   ·left
    split
    ·rfl
    ·simp [Zc,Nat.add_assoc]
   ·right
    have b1:m≤0:=by rcases Zm hm with ⟨_,x⟩ | x<;>omega
    have b2:hq≤0:=by rcases Zm hhq with ⟨_,x⟩ | x<;>omega
    omega
 ·rename_i o off len g
  obtain⟨lc,cp,f,hlc,rfl,hle,hf,hroom,hp⟩:=hc
  split at hv
  ·rename_i z
   simp only [Option.bind_eq_some_iff]at hv
   obtain⟨m,hm,hq,hhq,l,hl,hv⟩:=hv
   split at hv
   ·cases hv
   ·rename_i hne
    cases hv;have hm':qZ (some z) cp cp=some m:=zEN (x:=some z) (d:=cp) hm hle;have hb:=Qb (P:=P) (w:=w) (sl:=true) h1 h2 h3 hm' hhq hl (fun e=>hne e.1) (fun e=>by cases e)
    have hsl:(if m=l then some (⟨lc.blk,f,none⟩:Addr)else Option.map (fun x=>x.add (l*i.size)) (some (⟨lc.blk,f,none⟩:Addr)))=some (if m=l then(⟨lc.blk,f,none⟩:Addr)else(⟨lc.blk,f,none⟩:Addr).add (l*i.size)):=by split<;>rfl
    refine⟨.slice (some (if m=l then(⟨lc.blk,f,none⟩:Addr)else(⟨lc.blk,f,none⟩:Addr).add (l*i.size))) (hq-l) (m-l),by rw [hat];simp only [Instr.slice,Sem.run_bind,run_underlying ht,Result.andThen_ok,hb,qY hi,Sem.run_pure];rw [hsl],lc,_,hlc,rfl,?_,hp⟩
    have c1:m≤len:=by rcases Zm (show qZ (some z) len len=some m from hm)with ⟨_,x⟩ | x<;>omega
    have c2:hq≤m:=by
     rcases Zm hhq with ⟨e,x⟩|x
     ·exact absurd (by rw [e];rfl) hne
     ·exact x
    have c3:l≤hq:=by rcases Zm hl with ⟨_,x⟩ | x<;>omega
    by_cases hml:m=l
    ·right;omega
    ·left
     rw [if_neg hml,if_neg hml];rcases hf with rfl|hz
     ·simp [Zc,Nat.add_assoc]
     ·omega
  ·simp only [Option.bind_eq_some_iff]at hv
   obtain⟨hq,hhq,l,hl,hv⟩:=hv;cases hv;have hlh:l≤hq:=by rcases Zm hl with ⟨_,x⟩ | x<;>omega
   have hhl:hq≤len:=by rcases Zm hhq with ⟨_,x⟩ | x<;>omega
   have hb:=Qb (P:=P) (w:=w) (sl:=true) (cap:=cp) (m:=cp) h1 h2 h3 rfl (zEN hhq hle) hl (fun e=>by cases e.2) (fun _=>rfl)
   refine⟨_,by rw [hat];simp only [Instr.slice,Sem.run_bind,run_underlying ht,Result.andThen_ok,hb,qY hi,Sem.run_pure];rfl,lc,cp-l,if cp=l then f else f+l*i.size,hlc,?_,by omega,?_,?_,hp⟩
   ·split
    ·rfl
    ·simp [Zc]
   ·rcases hf with rfl | ⟨hz,hz',hz2⟩
    ·by_cases hcl:cp=l
     ·rw [if_pos hcl]
      by_cases ho:off+l*i.size=0
      ·left;omega
      ·right;exact⟨by omega,ho,by omega⟩
     ·rw [if_neg hcl];left;omega
    ·right;exact⟨by omega,by omega,by omega⟩
   ·intro ho he0
    have hge:g=i.size:=by
     by_cases x:g=i.size
     ·exact x
     ·rw [if_neg x]at he0;exact absurd rfl he0
    rw [if_pos hge]at he0 ⊢
    subst hge;have hfe:f=lc.base+off:=by
     rcases hf with x|⟨_,x,y⟩
     ·exact x
     ·subst y
      have hl0:l=0:=by omega
      subst hl0;rw [if_pos rfl,Nat.zero_mul,Nat.add_zero]at ho
      exact ho
    have h3:=hroom hfe he0;have h4:(cp-l)*i.size+l*i.size=cp*i.size:=by rw [←Nat.add_mul];congr 1;omega
    omega
 ·simp only [Option.bind_eq_some_iff]at hv
  obtain⟨m,hm,hq,hhq,l,hl,hv⟩:=hv
  split at hv
  ·cases hv
  ·rename_i hne
   cases hv;rw [show c=_ from hc]
   have hb:=Qb (P:=P) (w:=w) (sl:=true) h1 h2 h3 hm hhq hl hne (fun e=>by subst e;cases hm;rfl)
   refine⟨_,by rw [hat];simp only [Instr.slice,Sem.run_bind,run_underlying ht,Result.andThen_ok,hb,qY hi,Sem.run_pure];rfl,?_⟩
   have z1:m=0:=by rcases Zm hm with ⟨_,x⟩ | x<;>omega
   have z2:hq=0:=by rcases Zm hhq with ⟨_,x⟩ | x<;>omega
   have z3:l=0:=by rcases Zm hl with ⟨_,x⟩ | x<;>omega
   subst z1;subst z2;subst z3
   rfl
 ·cases hv
end Go.Ab
