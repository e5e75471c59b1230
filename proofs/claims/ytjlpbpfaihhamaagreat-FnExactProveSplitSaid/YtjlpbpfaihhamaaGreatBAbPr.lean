/- HOW VALUES WITHOUT A HEAP STAND FOR ABSTRACT STATES: what a frozen value reads as, where slots lie, and that quiet operations agree. -/
import Derived.Test.YtjlpbpfaihhamaaGreatBAbPv
set_option linter.unusedVariables false
set_option linter.unusedSimpArgs false
namespace Go.Ab
variable {P:Program} {ι ι':Nat→Nat} {Z Z':Nat→Prop} {h h':AHeap} {σ σ':PHeap} {n n':Nat}
theorem Zo (ι:Nat→Nat):∀cs:List PV,ers ι cs=cs.map (er ι)
 | []=>rfl
 | c::cs=>by rw [ers,Zo ι cs];rfl
theorem zGf:∀cs:List AV,ofAVs cs=cs.map ofAV
 | []=>rfl
 | c::cs=>by rw [ofAVs,zGf cs];rfl
mutual
theorem zDw (ι:Nat→Nat):∀v:AV,er ι (ofAV v)=v
 | .undef | .bool _ | .int _ _ | .str _ | .nilp | .nilf | .nils | .ptr _ _ | .mref _ | .sl _ _ _ _=>rfl
 | .clo f a b=>by simp only [ofAV,er,ZX ι a,ZX ι b]
 | .agg a=>by simp only [ofAV,er,ZX ι a]
 | .tup a=>by simp only [ofAV,er,ZX ι a]
theorem ZX (ι:Nat→Nat):∀v:List AV,ers ι (ofAVs v)=v
 | []=>rfl
 | c::cs=>by simp only [ofAVs,ers,zDw ι c,ZX ι cs]
end
def FzAt (Z:Nat→Prop) (h:AHeap) (w:Bool) (a:AV) (len:Nat) (ws:List AV):Prop:=
 (a=.nils∧len=0∧ws=[])∨∃o off cap,a=.sl o off len cap∧Z o∧(ws=[]∨h.rd o off ws.length=some ws)∧(∀c,cap=.known c→len≤c)∧(w=true→off=0∧h.obj o=some ⟨true,ws⟩)
def FpAt (Z:Nat→Prop) (h:AHeap) (a:AV) (ws:List AV):Prop:=
 a.one=true∧(ws=[]∨∃o i,a=.ptr o i∧Z o∧h.rd o i ws.length=some ws)
def idz:Nat→Nat:=fun _=>0
mutual
def VOK (Z:Nat→Prop) (h:AHeap) (n:Nat):PV→Prop
 | .undef | .bool _ | .int _ _ | .str _ | .nilp | .nilf=>True
 | .fz w a len cs=>FzAt Z h w a len (ers idz cs)∧VOKs Z h 0 cs
 | .fp a cs=>FpAt Z h a (ers idz cs)∧VOKs Z h 0 cs
 | .ptr s _=>s<n
 | .mref s=>s<n
 | .sl s _ _ _=>s<n
 | .clo _ a b=>VOKs Z h n a∧VOKs Z h n b
 | .agg cs=>VOKs Z h n cs
 | .tup cs=>VOKs Z h n cs
def VOKs (Z:Nat→Prop) (h:AHeap) (n:Nat):List PV→Prop
 | []=>True
 | c::cs=>VOK Z h n c∧VOKs Z h n cs
end
theorem ZW:∀{cs:List PV},VOKs Z h n cs↔∀c∈cs,VOK Z h n c
 | []=>by simp [VOKs]
 | c::cs=>by simp [VOKs,ZW (cs:=cs)]
theorem FzAt.mono (hz:∀o,Z o→Z' o∧h'.obj o=h.obj o) {w:Bool} {a:AV} {len:Nat} {ws:List AV} (hf:FzAt Z h w a len ws):FzAt Z' h' w a len ws:=by
 rcases hf with hf|⟨o,off,cap,rfl,h1,h2,h3,h4⟩
 ·exact .inl hf
 ·exact .inr ⟨o,off,cap,rfl,(hz o h1).1,h2.imp id fun h2=>by rw [zCQ (hz o h1).2];exact h2,h3,fun hw=>⟨(h4 hw).1,by rw [(hz o h1).2];exact(h4 hw).2⟩⟩
theorem FpAt.mono (hz:∀o,Z o→Z' o∧h'.obj o=h.obj o) {a:AV} {ws:List AV} (hf:FpAt Z h a ws):FpAt Z' h' a ws:=by
 obtain⟨h0,rfl|⟨o,i,rfl,h1,h2⟩⟩:=hf
 ·exact⟨h0,.inl rfl⟩
 ·exact⟨h0,.inr ⟨o,i,rfl,(hz o h1).1,by rw [zCQ (hz o h1).2];exact h2⟩⟩
mutual
theorem VOK.mono (hz:∀o,Z o→Z' o∧h'.obj o=h.obj o) {n n':Nat} (hn:n≤n'):∀{v:PV},VOK Z h n v→VOK Z' h' n' v
 | .undef,_ | .bool _,_ | .int _ _,_ | .str _,_ | .nilp,_ | .nilf,_=>trivial
 | .fz w a len cs,hv=>⟨hv.1.mono hz,VOKs.mono hz (Nat.le_refl 0) hv.2⟩
 | .fp a cs,hv=>⟨hv.1.mono hz,VOKs.mono hz (Nat.le_refl 0) hv.2⟩
 | .ptr s _,hv=>Nat.lt_of_lt_of_le (show s<n from hv) hn
 | .mref s,hv=>Nat.lt_of_lt_of_le (show s<n from hv) hn
 | .sl s _ _ _,hv=>Nat.lt_of_lt_of_le (show s<n from hv) hn
 | .clo _ a b,hv=>⟨VOKs.mono hz hn hv.1,VOKs.mono hz hn hv.2⟩
 | .agg cs,hv=>VOKs.mono (cs:=cs) hz hn hv
 | .tup cs,hv=>VOKs.mono (cs:=cs) hz hn hv
theorem VOKs.mono (hz:∀o,Z o→Z' o∧h'.obj o=h.obj o) {n n':Nat} (hn:n≤n'):∀{cs:List PV},VOKs Z h n cs→VOKs Z' h' n' cs
 | [],_=>trivial
 | c::cs,hv=>⟨VOK.mono hz hn hv.1,VOKs.mono hz hn hv.2⟩
end
theorem VOKs.up {v:List PV} (hv:VOKs Z h n v) (hn:n≤n'):VOKs Z h n' v:=hv.mono (fun o ho=>⟨ho,rfl⟩) hn
mutual
theorem zE0 {n:Nat} (hi:∀s,s<n→ι' s=ι s):∀{v:PV},VOK Z h n v→er ι' v=er ι v
 | .undef,_ | .bool _,_ | .int _ _,_ | .str _,_ | .nilp,_ | .nilf,_=>rfl
 | .fz w a len cs,hv=>rfl
 | .fp a cs,hv=>rfl
 | .ptr s _,hv=>by simp only [er];rw [hi s hv]
 | .mref s,hv=>by simp only [er];rw [hi s hv]
 | .sl s _ _ _,hv=>by simp only [er];rw [hi s hv]
 | .clo _ a b,hv=>by simp only [er];rw [Zy hi hv.1,Zy hi hv.2]
 | .agg cs,hv=>by simp only [er];rw [Zy (cs:=cs) hi hv]
 | .tup cs,hv=>by simp only [er];rw [Zy (cs:=cs) hi hv]
theorem Zy {n:Nat} (hi:∀s,s<n→ι' s=ι s):∀{cs:List PV},VOKs Z h n cs→ers ι' cs=ers ι cs
 | [],_=>rfl
 | c::cs,hv=>by simp only [ers];rw [zE0 hi hv.1,Zy hi hv.2]
end
theorem Qg {cs:List PV} (hv:VOKs Z h 0 cs):ers ι cs=ers idz cs:=Zy (fun s hs=>absurd hs (Nat.not_lt_zero _)) hv
theorem zDU {v:PV} (hv:VOK Z h 0 v):er ι v=er idz v:=zE0 (fun s hs=>absurd hs (Nat.not_lt_zero _)) hv
mutual
theorem VOK.ofAV:∀(v:AV),VOK Z h n (ofAV v)
 | .undef | .bool _ | .int _ _ | .str _ | .nilp | .nilf=>trivial
 | .nils=>⟨.inl ⟨rfl,rfl,rfl⟩,trivial⟩
 | .ptr _ _ | .mref _ | .sl _ _ _ _=>⟨⟨rfl,.inl rfl⟩,trivial⟩
 | .clo f a b=>⟨VOKs.ofAVs a,VOKs.ofAVs b⟩
 | .agg cs=>VOKs.ofAVs cs
 | .tup cs=>VOKs.ofAVs cs
theorem VOKs.ofAVs:∀(v:List AV),VOKs Z h n (ofAVs v)
 | []=>trivial
 | c::cs=>⟨VOK.ofAV c,VOKs.ofAVs cs⟩
end
theorem zCC {v:PV} (hv:VOK Z h n v):(er ι v).one=v.one:=by
 cases v with
 | fz w a len cs=>
  obtain⟨rfl,_⟩|⟨o,off,cap,rfl,_⟩:=hv.1<;>rfl
 | fp a cs=>exact hv.1.1
 | _=>rfl
theorem QC {a:AV} (ha:a.one=true):a.cells=[a]:=by cases a<;>first | rfl | cases ha
theorem zE1 {v:PV} (hv:VOK Z h n v):(er ι v).cells=ers ι v.cells:=by
 cases v with
 | fz w a len cs=>
  obtain⟨rfl,_⟩|⟨o,off,cap,rfl,_⟩:=hv.1<;>rfl
 | fp a cs=>exact QC hv.1.1
 | _=>rfl
theorem VOK.cells {v:PV} (hv:VOK Z h n v):VOKs Z h n v.cells:=by
 cases v with
 | agg cs=>exact hv
 | _=>exact⟨hv,trivial⟩
theorem qd (cs:List PV):(ers ι cs).length=cs.length:=by simp [Zo]
theorem Zk (as bs:List PV):ers ι (as++bs)=ers ι as++ers ι bs:=by simp [Zo]
theorem QY (as:List PV) (k:Nat):ers ι (as.take k)=(ers ι as).take k:=by simp [Zo,List.map_take]
theorem QZ (as:List PV) (k:Nat):ers ι (as.drop k)=(ers ι as).drop k:=by simp [Zo,List.map_drop]
theorem zAb (as:List PV) (k:Nat):(ers ι as)[k]? = (as[k]?).map (er ι):=by simp [Zo]
theorem zA7 {cs:List PV} (hv:VOKs Z h n cs):(ers ι cs).all AV.one=cs.all PV.one:=by
 induction cs with
 | nil=>rfl
 | cons c cs ih=>simp only [ers,List.all_cons,zCC hv.1,ih hv.2]
theorem VOKs.append {as bs:List PV} (ha:VOKs Z h n as) (hb:VOKs Z h n bs):VOKs Z h n (as++bs):=by
 rw [ZW]at *
 intro c hc;rcases List.mem_append.1 hc with hc|hc
 ·exact ha c hc
 ·exact hb c hc
theorem VOKs.take {as:List PV} (ha:VOKs Z h n as) (k:Nat):VOKs Z h n (as.take k):=by
 rw [ZW]at *;exact fun c hc=>ha c (List.mem_of_mem_take hc)
theorem VOKs.drop {as:List PV} (ha:VOKs Z h n as) (k:Nat):VOKs Z h n (as.drop k):=by
 rw [ZW]at *;exact fun c hc=>ha c (List.mem_of_mem_drop hc)
theorem VOKs.get {as:List PV} (ha:VOKs Z h n as) {k:Nat} {v:PV} (hk:as[k]? = some v):VOK Z h n v:=ZW.1 ha v (List.mem_of_getElem? hk)
structure Rel (ι:Nat→Nat) (Z:Nat→Prop) (σ:PHeap) (h:AHeap):Prop where
 hwf:HWF h
 zlt:∀o,Z o→o<h.next
 top:σ.top≤h.next
 wf:∀s,σ.next≤s→σ.obj s=none
 obj:∀s cs,σ.obj s=some cs→h.obj (ι s)=some ⟨true,ers ι cs⟩∧VOKs Z h σ.next cs∧¬Z (ι s)
 inj:∀s s' cs cs',σ.obj s=some cs→σ.obj s'=some cs'→ι s=ι s'→s=s'
structure Aft (ι:Nat→Nat) (Z:Nat→Prop) (σ:PHeap) (h:AHeap) (ι':Nat→Nat) (Z':Nat→Prop) (σ':PHeap) (h':AHeap):Prop where
 next:σ.next≤σ'.next
 hnext:h.next≤h'.next
 inj:∀s,s<σ.next→ι' s=ι s
 z:∀o,Z o→Z' o∧h'.obj o=h.obj o
 dead:∀s,s<σ.next→σ.obj s=none→σ'.obj s=none
 fresh:∀s cs,σ.next≤s→σ'.obj s=some cs→h.next≤ι' s
theorem Rel.none_lt (r:Rel ι Z σ h) {s:Nat} {cs:List PV} (hs:σ.obj s=some cs):s<σ.next:=by
 rcases Nat.lt_or_ge s σ.next with x|x
 ·exact x
 ·rw [r.wf s x]at hs;cases hs
theorem Aft.refl (r:Rel ι Z σ h):Aft ι Z σ h ι Z σ h:=⟨Nat.le_refl _,Nat.le_refl _,fun _ _=>rfl,fun o ho=>⟨ho,rfl⟩,fun _ _ h=>h,fun s cs hs ho=>absurd (r.none_lt ho) (by omega)⟩
theorem Aft.trans {ι'':Nat→Nat} {Z'':Nat→Prop} {σ'':PHeap} {h'':AHeap} (a:Aft ι Z σ h ι' Z' σ' h') (b:Aft ι' Z' σ' h' ι'' Z'' σ'' h''):Aft ι Z σ h ι'' Z'' σ'' h'':=
 ⟨Nat.le_trans a.next b.next,Nat.le_trans a.hnext b.hnext,fun s hs=>(b.inj s (Nat.lt_of_lt_of_le hs a.next)).trans (a.inj s hs),
  fun o ho=>⟨(b.z o (a.z o ho).1).1,(b.z o (a.z o ho).1).2.trans (a.z o ho).2⟩,fun s hs hn=>b.dead s (Nat.lt_of_lt_of_le hs a.next) (a.dead s hs hn),
  fun s cs hs ho=>by
   rcases Nat.lt_or_ge s σ'.next with x|x
   ·rw [b.inj s x]
    cases hc:σ'.obj s with
    | none=>rw [b.dead s x hc]at ho;cases ho
    | some ds=>exact a.fresh s ds hs hc
   ·exact Nat.le_trans a.hnext (b.fresh s cs x ho)⟩
theorem Aft.vok {v:PV} (a:Aft ι Z σ h ι' Z' σ' h') (hv:VOK Z h σ.next v):VOK Z' h' σ'.next v:=hv.mono a.z a.next
theorem Aft.voks {v:List PV} (a:Aft ι Z σ h ι' Z' σ' h') (hv:VOKs Z h σ.next v):VOKs Z' h' σ'.next v:=hv.mono a.z a.next
theorem Aft.er {v:PV} (a:Aft ι Z σ h ι' Z' σ' h') (hv:VOK Z h σ.next v):er ι' v=er ι v:=zE0 a.inj hv
theorem Aft.ers {v:List PV} (a:Aft ι Z σ h ι' Z' σ' h') (hv:VOKs Z h σ.next v):ers ι' v=ers ι v:=Zy a.inj hv
def EOK (Z:Nat→Prop) (h:AHeap) (n:Nat) (E:PEnv):Prop:=∀t,VOK Z h n (E t)
def erE (ι:Nat→Nat) (E:PEnv):Env:=fun t=>er ι (E t)
theorem Aft.eok {E:PEnv} (a:Aft ι Z σ h ι' Z' σ' h') (hv:EOK Z h σ.next E):EOK Z' h' σ'.next E:=fun t=>a.vok (hv t)
theorem Aft.erE {E:PEnv} (a:Aft ι Z σ h ι' Z' σ' h') (hv:EOK Z h σ.next E):erE ι' E=erE ι E:=funext fun t=>a.er (hv t)
theorem Q7 (E:PEnv) (d:Option Nat) (v:PV):erE ι (E.put d v)=(erE ι E).put d (er ι v):=by
 cases d with
 | none=>rfl
 | some d=>funext t;simp only [Go.Ab.erE,PEnv.put,Env.put];split<;>rfl
theorem EOK.put {E:PEnv} (he:EOK Z h n E) {v:PV} (hv:VOK Z h n v) (d:Option Nat):EOK Z h n (E.put d v):=by
 cases d with
 | none=>exact he
 | some d=>intro t;simp only [PEnv.put];split;exact hv;exact he t
theorem zAm:∀(S:List Nat) (vs:List PV),erE ι (PEnv.mk S vs)=Env.mk S (ers ι vs)
 | [],vs=>by funext t;simp [Go.Ab.erE,PEnv.mk,Env.mk,er]
 | s::S,[]=>by funext t;simp [Go.Ab.erE,PEnv.mk,Env.mk,er,Go.Ab.ers]
 | s::S,v::vs=>by
  funext t
  have:=congrFun (zAm S vs) t
  simp only [Go.Ab.erE,PEnv.mk,Env.mk,Go.Ab.ers]at this ⊢
  split
  ·rfl
  ·exact this
theorem EOK.mk:∀{S:List Nat} {vs:List PV},VOKs Z h n vs→EOK Z h n (PEnv.mk S vs)
 | [],vs,_=>fun t=>trivial
 | s::S,[],_=>fun t=>trivial
 | s::S,v::vs,hv=>fun t=>by simp only [PEnv.mk];split;exact hv.1;exact EOK.mk hv.2 t
theorem zA8 (E:PEnv) (S:List Nat):ers ι (S.map E)=S.map (erE ι E):=by simp [Zo,erE]
theorem EOK.map {E:PEnv} (he:EOK Z h n E) (S:List Nat):VOKs Z h n (S.map E):=by
 rw [ZW];intro c hc;obtain⟨t,_,rfl⟩:=List.mem_map.1 hc;exact he t
theorem er_pv (E:PEnv) (x:IX):er ι (x.pv E)=x.ev (erE ι E):=by
 cases x with
 | t n=>rfl
 | c v=>exact zDw ι v
theorem EOK.pv {E:PEnv} (he:EOK Z h n E) (x:IX):VOK Z h n (x.pv E):=by
 cases x with
 | t n=>exact he n
 | c v=>exact VOK.ofAV v
theorem zCB (E:PEnv) (l:List IX):ers ι (l.map (·.pv E))=l.map (·.ev (erE ι E)):=by
 rw [Zo,List.map_map];exact List.map_congr_left fun x _=>er_pv E x
theorem EOK.pvs {E:PEnv} (he:EOK Z h n E) (l:List IX):VOKs Z h n (l.map (·.pv E)):=by
 rw [ZW];intro c hc;obtain⟨x,_,rfl⟩:=List.mem_map.1 hc;exact he.pv x
theorem zGE (r:Rel ι Z σ h) {s i k:Nat} {vs:List PV} (hv:σ.rd s i k=some vs):h.rd (ι s) i k=some (ers ι vs)∧VOKs Z h σ.next vs:=by
 simp only [PHeap.rd,Option.bind_eq_some_iff]at hv
 obtain⟨cs,hc,hv⟩:=hv
 split at hv
 ·rename_i hl
  cases hv;obtain⟨h1,h2,_⟩:=r.obj s cs hc;refine⟨?_,(h2.drop _).take _⟩;rw [zC3 h1 (by simpa [qd]using hl),QY,QZ]
 ·cases hv
theorem zNy (r:Rel ι Z σ h) {s i:Nat} {v:PV} (hv:σ.rd1 s i=some v):h.rd1 (ι s) i=some (er ι v)∧VOK Z h σ.next v:=by
 simp only [PHeap.rd1,Option.bind_eq_some_iff]at hv
 obtain⟨cs,hc,hv⟩:=hv;obtain⟨h1,h2,_⟩:=r.obj s cs hc;exact⟨by rw [ZO h1,zAb,hv];rfl,h2.get hv⟩
theorem zCR (r:Rel ι Z σ h) {agg:Bool} {k:Nat} {x v:PV} (hx:VOK Z h σ.next x) (hv:pldv agg k x σ=some v):ldv agg k (er ι x) h=some (er ι v)∧VOK Z h σ.next v:=by
 cases x<;>simp only [pldv,reduceCtorEq]at hv
 case ptr s i=>
  simp only [er,ldv];cases agg with
  | true=>
   simp only [if_true,Option.map_eq_some_iff]at hv ⊢
   obtain⟨vs,hv,rfl⟩:=hv;obtain⟨h1,h2⟩:=zGE r hv;exact⟨⟨_,h1,rfl⟩,h2⟩
  | false=>
   simp only [Bool.false_eq_true,if_false]at hv ⊢
   exact zNy r hv
 case fp a cs=>
  obtain⟨⟨h0,h1⟩,h2⟩:=hx;have h2':=h2.up (Nat.zero_le σ.next);rcases h1 with h1|⟨o,i,rfl,h3,h4⟩
  ·have:cs=[]:=List.eq_nil_of_length_eq_zero (by rw [←qd (ι:=idz),h1];rfl)
   subst this;cases agg with
   | true=>
    simp only [if_true]at hv
    split at hv
    ·rename_i hc;simp at hc;omega
    ·cases hv
   | false=>simp at hv
  ·simp only [er,ldv]
   cases agg with
   | true=>
    simp only [if_true]at hv ⊢
    split at hv
    ·rename_i hc
     cases hv
     have:=zC2 h4 (a:=0) (b:=k) (by rw [qd];omega)
     rw [Nat.add_zero,List.drop_zero]at this
     rw [this,←QY];exact⟨by simp [er,Qg (ι:=ι) (h2.take k)],h2'.take k⟩
    ·cases hv
   | false=>
    simp only [Bool.false_eq_true,if_false]at hv ⊢
    have hl:0<(ers idz cs).length:=by
     rw [qd];exact(List.getElem?_eq_some_iff.1 hv).1
    have:=zLy h4 hl
    rw [Nat.add_zero]at this
    rw [this,zAb,hv];exact⟨by simp [zDU (ι:=ι) (h2.get hv)],h2'.get hv⟩
theorem zBs:∀{ps:List (Nat×Nat×PV)} {cells cs:List PV},(∀p∈ps,VOK Z h n p.2.2)→VOKs Z h n cells→pfill cells ps=some cs→
  afill (ers ι cells) (ps.map fun p=>(p.1,p.2.1,er ι p.2.2))=some (ers ι cs)∧VOKs Z h n cs
 | [],cells,cs,_,hc,hv=>by cases hv;exact⟨rfl,hc⟩
 | (off,size,v)::ps,cells,cs,hp,hc,hv=>by
  simp only [pfill]at hv
  split at hv
  ·rename_i hcond
   have hv0:VOK Z h n v:=hp (off,size,v) (by simp)
   have ih:=zBs (fun p hp'=>hp p (by simp [hp'])) (((hc.take off).append hv0.cells).append (hc.drop (off+size))) hv
   simp only [List.map_cons,afill];rw [zE1 hv0,if_pos ⟨by rw [qd];exact hcond.1,by rw [qd];exact hcond.2.1,by rw [zA7 hv0.cells];exact hcond.2.2⟩]
   rw [Zk,Zk,QY,QZ]at ih
   exact ih
  ·cases hv
theorem zLH {a:AV} (ha:Zj a=true):a=.nils:=by cases a<;>first | rfl | cases ha
theorem zBN {x:PV} {y k:Nat} (hv:Qk x y=some k):zAp (er ι x) y=some k:=by
 cases x<;>simp only [Qk,reduceCtorEq]at hv
 exact hv
theorem qc {x:Option PV} {d y k:Nat} (hv:qf x d y=some k):qZ (x.map (er ι)) d y=some k:=by
 cases x with
 | none=>exact hv
 | some x=>exact zBN hv
theorem zMO {x:PV} {y k:Nat} (hv:Qk x y=some k):k≤y:=by
 cases x<;>simp only [Qk,reduceCtorEq]at hv
 split at hv
 ·cases hv;omega
 ·cases hv
theorem zFP {x:Option PV} {d y k:Nat} (hd:d≤y) (hv:qf x d y=some k):k≤y:=by
 cases x with
 | none=>cases hv;exact hd
 | some x=>exact zMO hv
theorem zIo (e:Nat) (lo hi:Option AV):QP e .nils lo hi none=(qZ hi 0 0).bind fun h=>(qZ lo 0 h).bind fun _=>if hi.isNone=true∧(none:Option AV).isSome=true then none else some .nils:=rfl
theorem zHL (e o off len c:Nat) (lo hi:Option AV):QP e (.sl o off len (.known c)) lo hi none=(qZ hi len c).bind fun h=>(qZ lo 0 h).bind fun l=>
   if hi.isNone=true∧(none:Option AV).isSome=true then none else some (.sl o (if c=l then off else off+l*e) (h-l) (.known (c-l))):=rfl
theorem zHp {e:Nat} {x v:PV} {lo hi mx:Option PV} (hx:VOK Z h n x) (hv:Qi e x lo hi mx=some v):
  QP e (er ι x) (lo.map (er ι)) (hi.map (er ι)) (mx.map (er ι))=some (er ι v)∧VOK Z h n v:=by
 cases x<;>simp only [Qi,reduceCtorEq]at hv
 case sl s off len cap=>
  cases cap with
  | known c=>
   simp only [Option.bind_eq_some_iff]at hv
   obtain⟨m,h1,k,h2,l,h3,hv⟩:=hv
   split at hv
   ·cases hv
   ·rename_i hc
    cases hv;simp only [er,QP];rw [qc h1];simp only [Option.bind_some];rw [qc h2];simp only [Option.bind_some];rw [qc h3];simp only [Option.bind_some,Option.isNone_map,Option.isSome_map];rw [if_neg hc];exact⟨rfl,hx⟩
  | grown g=>
   cases mx with
   | none=>
    simp only [Option.bind_eq_some_iff]at hv
    obtain⟨k,h2,l,h3,hv⟩:=hv;cases hv;simp only [er,QP,Option.map_none];rw [qc h2];simp only [Option.bind_some];rw [qc h3];simp only [Option.bind_some];exact⟨trivial,hx⟩
   | some mx=>
    simp only [Option.bind_eq_some_iff]at hv
    obtain⟨m,h1,k,h2,l,h3,hv⟩:=hv
    split at hv
    ·cases hv
    ·rename_i hc
     cases hv;simp only [er,QP,Option.map_some];rw [zBN h1];simp only [Option.bind_some];rw [qc h2];simp only [Option.bind_some];rw [qc h3];simp only [Option.bind_some,Option.isNone_map];rw [if_neg hc];exact⟨rfl,hx⟩
 case fz w a len cs=>
  cases mx with
  | some mx=>
   cases a<;>try cases hv
   simp only [Option.bind_eq_some_iff]at hv
   obtain⟨m,h1,k,h2,l,h3,hv⟩:=hv
   split at hv
   ·cases hv
   ·rename_i hc
    cases hv;simp only [er,QP,Option.map_some];rw [show qZ (some (er ι mx)) 0 0=some m from zBN h1];simp only [Option.bind_some]
    rw [qc h2];simp only [Option.bind_some];rw [qc h3];simp only [Option.bind_some,Option.isNone_map];rw [if_neg fun h=>hc h.1]
    exact⟨rfl,.inl ⟨rfl,rfl,rfl⟩,trivial⟩
  | none=>
   simp only [Option.bind_eq_some_iff]at hv
   obtain⟨k,h2,l,h3,hv⟩:=hv;cases hv;have hk:=zFP (Nat.le_refl _) h2;have hl:=zFP (Nat.zero_le _) h3;obtain⟨hf,hc⟩:=hx;have hcc:VOKs Z h 0 ((cs.drop (l*e)).take ((k-l)*e)):=(hc.drop _).take _;simp only [er,Option.map_none];rcases hf with ⟨rfl,rfl,he⟩|⟨o,off,cap,rfl,h4,h5,h6,h7⟩
   ·have:cs=[]:=List.eq_nil_of_length_eq_zero (by rw [←qd (ι:=idz),he];rfl)
    subst this;obtain rfl:k=0:=by omega
    obtain rfl:l=0:=by omega
    rw [zIo];rw [show qZ (hi.map (er ι)) 0 0=some 0 from qc h2];simp only [Option.bind_some]
    rw [show qZ (lo.map (er ι)) 0 0=some 0 from qc h3];simp only [Option.bind_some]
    refine⟨by simp [pslA],.inl ⟨rfl,rfl,by simp [ers]⟩,by simp [VOKs]⟩
   ·have hrd:∀off',(off'=off+l*e∨(off'=off∧(k-l)*e=0))→(ers idz ((cs.drop (l*e)).take ((k-l)*e))=[]∨h.rd o off' (ers idz ((cs.drop (l*e)).take ((k-l)*e))).length=some (ers idz ((cs.drop (l*e)).take ((k-l)*e)))):=by
     rintro off' (rfl | ⟨rfl,h0⟩)
     ·rw [QY,QZ]
      by_cases hle:l*e<(ers idz cs).length
      ·right
       rcases h5 with h5|h5
       ·rw [h5]at hle;simp at hle
       ·have:=zC2 h5 (a:=l*e) (b:=((List.drop (l*e) (ers idz cs)).take ((k-l)*e)).length) (by simp;omega)
        rw [this]
        congr 1
        rw [List.length_take];apply List.ext_getElem?;intro q;simp only [List.getElem?_take]
        split
        ·split
         ·rfl
         ·omega
        ·split
         ·have:(List.drop (l*e) (ers idz cs)).length≤q:=by omega
          rw [List.getElem?_eq_none this]
         ·rfl
      ·left
       rw [List.drop_eq_nil_of_le (by omega)]
       simp
     ·left;rw [h0];rfl
    cases cap with
    | known c=>
     have hlc:=h6 c rfl;rw [zHL];have hb:∀{x:Option PV} {d q:Nat},d=len→qf x d len=some q→qZ (x.map (er ι)) d c=some q:=by
      intro x d q hd hq;cases x with
      | none=>exact hq
      | some x=>
       cases x<;>simp only [qf,Qk,reduceCtorEq]at hq
       split at hq
       ·rename_i hcond
        cases hq;simp only [Option.map_some,er,qZ,zAp];rw [if_pos ⟨hcond.1,by omega⟩]
       ·cases hq
     rw [hb rfl h2];simp only [Option.bind_some];rw [qc h3];simp only [Option.bind_some,Option.isSome_none,Bool.false_eq_true,and_false,if_false];refine⟨rfl,.inr ⟨o,_,_,rfl,h4,?_,?_,by simp⟩,hcc⟩
     ·by_cases hcl:c=l
      ·rw [if_pos hcl]
       exact hrd _ (.inr ⟨rfl,by rw [show k-l=0 by omega,Nat.zero_mul]⟩)
      ·rw [if_neg hcl]
       exact hrd _ (.inl rfl)
     ·intro c' hc'
      cases hc';omega
    | grown g=>
     simp only [QP,Option.map_none];rw [qc h2];simp only [Option.bind_some];rw [qc h3];simp only [Option.bind_some];exact⟨rfl,.inr ⟨o,_,_,rfl,h4,hrd _ (.inl rfl),(fun c hc=>by cases hc),by simp⟩,hcc⟩
end Go.Ab
