/- . -/
import Derived.Test.YtgkbfiilhocioaaGreatFAbDefs
open Nat renaming le_refl→vM
set_option linter.unusedVariables false
set_option linter.unusedSimpArgs false
namespace Go.Ab
variable{ι ι':Nat->Nat}{Z Z':Nat->Prop}{h h':AHeap}{σ σ':PHeap}{n n':Nat}
theorem Qz(ι:Nat->Nat):∀cs:List PV,ers ι cs=cs.map (er ι)
 |[]=>rfl
 |c::cs=>by rw[ers,Qz ι cs];rfl
theorem zGg:∀cs:List AV,ofAVs cs=cs.map ofAV
 |[]=>rfl
 |c::cs=>by rw[ofAVs,zGg cs];rfl
mutual
theorem zGO(ι:Nat->Nat):∀v:AV,er ι (ofAV v)=v
 | .undef | .bool _ | .int _ _ | .str _ | .nilp | .nilf | .nils | .ptr _ _ | .sl _ _ _ _=>rfl
 | .clo f a b=>by simp only[ofAV,er,ZJ ι a,ZJ ι b]
 | .agg a=>by simp only[ofAV,er,ZJ ι a]
 | .tup a=>by simp only[ofAV,er,ZJ ι a]
theorem ZJ(ι:Nat->Nat):∀v:List AV,ers ι (ofAVs v)=v
 |[]=>rfl
 |c::cs=>by simp only[ofAVs,ers,zGO ι c,ZJ ι cs]
end
def FzAt(Z:Nat->Prop)(h:AHeap)(w:Bool)(a:AV)(len:Nat)(ws:List AV):Prop:=
 (a=.nils/\len=0/\ws=[])\/∃o off cap,a=.sl o off len cap/\Z o/\(ws=[]\/h.rd o off ws.length=some ws)/\(∀c,cap=.known c->len<=c)/\(w=true->off=0/\h.obj o=some ⟨true,ws⟩)
def FpAt(Z:Nat->Prop)(h:AHeap)(a:AV)(ws:List AV):Prop:=
 a.one=true/\(ws=[]\/∃o i,a=.ptr o i/\Z o/\h.rd o i ws.length=some ws)
def idz:Nat->Nat:=λ_=>0
mutual
def VOK(Z:Nat->Prop)(h:AHeap)(n:Nat):PV->Prop
 | .undef | .bool _ | .int _ _ | .str _ | .nilp | .nilf=>True
 | .fz w a len cs=>FzAt Z h w a len (ers idz cs)/\VOKs Z h 0 cs
 | .fp a cs=>FpAt Z h a (ers idz cs)/\VOKs Z h 0 cs
 | .ptr s _=>s<n
 | .sl s _ _ _=>s<n
 | .clo _ a b=>VOKs Z h n a/\VOKs Z h n b
 | .agg cs=>VOKs Z h n cs
 | .tup cs=>VOKs Z h n cs
def VOKs(Z:Nat->Prop)(h:AHeap)(n:Nat):List PV->Prop
 |[]=>True
 |c::cs=>VOK Z h n c/\VOKs Z h n cs
end
theorem Qt:∀{cs:List PV},VOKs Z h n cs↔∀c∈cs,VOK Z h n c
 |[]=>by simp[VOKs]
 |c::cs=>by simp[VOKs,Qt (cs:=cs)]
theorem FzAt.mono(hz:∀o,Z o->Z' o/\h'.obj o=h.obj o){w:Bool}{a:AV}{len:Nat}{ws:List AV}(hf:FzAt Z h w a len ws):FzAt Z' h' w a len ws:=by
 rcases hf with hf|⟨o,off,cap,rfl,h1,h2,h3,h4⟩
 .exact .inl hf
 .exact .inr ⟨o,off,cap,rfl,(hz o h1).1,h2.imp id λh2=>by rw[zHb (hz o h1).2];exact h2,h3,λhw=>⟨(h4 hw).1,by rw[(hz o h1).2];exact(h4 hw).2⟩⟩
theorem FpAt.mono(hz:∀o,Z o->Z' o/\h'.obj o=h.obj o){a:AV}{ws:List AV}(hf:FpAt Z h a ws):FpAt Z' h' a ws:=by
 obtain⟨h0,rfl|⟨o,i,rfl,h1,h2⟩⟩:=hf
 .exact⟨h0,.inl rfl⟩
 .exact⟨h0,.inr ⟨o,i,rfl,(hz o h1).1,by rw[zHb (hz o h1).2];exact h2⟩⟩
mutual
theorem VOK.mono(hz:∀o,Z o->Z' o/\h'.obj o=h.obj o){n n':Nat}(hn:n<=n'):∀{v:PV},VOK Z h n v->VOK Z' h' n' v
 | .undef,_ | .bool _,_ | .int _ _,_ | .str _,_ | .nilp,_ | .nilf,_=>trivial
 | .fz w a len cs,hv=>⟨hv.1.mono hz,VOKs.mono hz (vM 0) hv.2⟩
 | .fp a cs,hv=>⟨hv.1.mono hz,VOKs.mono hz (vM 0) hv.2⟩
 | .ptr s _,hv=>Nat.lt_of_lt_of_le (show s<n from hv) hn
 | .sl s _ _ _,hv=>Nat.lt_of_lt_of_le (show s<n from hv) hn
 | .clo _ a b,hv=>⟨VOKs.mono hz hn hv.1,VOKs.mono hz hn hv.2⟩
 | .agg cs,hv=>VOKs.mono (cs:=cs) hz hn hv
 | .tup cs,hv=>VOKs.mono (cs:=cs) hz hn hv
theorem VOKs.mono(hz:∀o,Z o->Z' o/\h'.obj o=h.obj o){n n':Nat}(hn:n<=n'):∀{cs:List PV},VOKs Z h n cs->VOKs Z' h' n' cs
 |[],_=>trivial
 |c::cs,hv=>⟨VOK.mono hz hn hv.1,VOKs.mono hz hn hv.2⟩
end
theorem VOKs.up{v:List PV}(hv:VOKs Z h n v)(hn:n<=n'):VOKs Z h n' v:=hv.mono (λo ho=>⟨ho,rfl⟩) hn
mutual
theorem zEn{n:Nat}(hi:∀s,s<n->ι' s=ι s):∀{v:PV},VOK Z h n v->er ι' v=er ι v
 | .undef,_ | .bool _,_ | .int _ _,_ | .str _,_ | .nilp,_ | .nilf,_=>rfl
 | .fz w a len cs,hv=>rfl
 | .fp a cs,hv=>rfl
 | .ptr s _,hv=>by simp only[er];rw[hi s hv]
 | .sl s _ _ _,hv=>by simp only[er];rw[hi s hv]
 | .clo _ a b,hv=>by simp only[er];rw[Zm hi hv.1,Zm hi hv.2]
 | .agg cs,hv=>by simp only[er];rw[Zm (cs:=cs) hi hv]
 | .tup cs,hv=>by simp only[er];rw[Zm (cs:=cs) hi hv]
theorem Zm{n:Nat}(hi:∀s,s<n->ι' s=ι s):∀{cs:List PV},VOKs Z h n cs->ers ι' cs=ers ι cs
 |[],_=>rfl
 |c::cs,hv=>by simp only[ers];rw[zEn hi hv.1,Zm hi hv.2]
end
theorem zA7{cs:List PV}(hv:VOKs Z h 0 cs):ers ι cs=ers idz cs:=Zm (λs hs=>absurd hs (Nat.not_lt_zero _)) hv
theorem zDM{v:PV}(hv:VOK Z h 0 v):er ι v=er idz v:=zEn (λs hs=>absurd hs (Nat.not_lt_zero _)) hv
mutual
theorem VOK.ofAV:∀(v:AV),VOK Z h n (ofAV v)
 | .undef | .bool _ | .int _ _ | .str _ | .nilp | .nilf=>trivial
 | .nils=>⟨.inl ⟨rfl,rfl,rfl⟩,trivial⟩
 | .ptr _ _ | .sl _ _ _ _=>⟨⟨rfl,.inl rfl⟩,trivial⟩
 | .clo f a b=>⟨VOKs.ofAVs a,VOKs.ofAVs b⟩
 | .agg cs=>VOKs.ofAVs cs
 | .tup cs=>VOKs.ofAVs cs
theorem VOKs.ofAVs:∀(v:List AV),VOKs Z h n (ofAVs v)
 |[]=>trivial
 |c::cs=>⟨VOK.ofAV c,VOKs.ofAVs cs⟩
end
theorem zQ0{v:PV}(hv:VOK Z h n v):(er ι v).one=v.one:=by
 cases v with
 |fz w a len cs=>
  obtain⟨rfl,_⟩|⟨o,off,cap,rfl,_⟩:=hv.1<;>rfl
 |fp a cs=>exact hv.1.1
 |_=>rfl
theorem zIg{a:AV}(ha:a.one=true):a.cells=[a]:=by cases a<;>first|rfl|cases ha
theorem zEo{v:PV}(hv:VOK Z h n v):(er ι v).cells=ers ι v.cells:=by
 cases v with
 |fz w a len cs=>
  obtain⟨rfl,_⟩|⟨o,off,cap,rfl,_⟩:=hv.1<;>rfl
 |fp a cs=>exact zIg hv.1.1
 |_=>rfl
theorem VOK.cells{v:PV}(hv:VOK Z h n v):VOKs Z h n v.cells:=by
 cases v with
 |agg cs=>exact hv
 |_=>exact⟨hv,trivial⟩
theorem zm(cs:List PV):(ers ι cs).length=cs.length:=by simp[Qz]
theorem ZU(as bs:List PV):ers ι (as++bs)=ers ι as++ers ι bs:=by simp[Qz]
theorem QD(as:List PV)(k:Nat):ers ι (as.take k)=(ers ι as).take k:=by simp[Qz,List.map_take]
theorem QE(as:List PV)(k:Nat):ers ι (as.drop k)=(ers ι as).drop k:=by simp[Qz,List.map_drop]
theorem zCI(as:List PV)(k:Nat):(ers ι as)[k]? = (as[k]?).map (er ι):=by simp[Qz]
theorem zDv{cs:List PV}(hv:VOKs Z h n cs):(ers ι cs).all AV.one=cs.all PV.one:=by
 induction cs with
 |nil=>rfl
 |cons c cs ih=>simp only[ers,List.all_cons,zQ0 hv.1,ih hv.2]
theorem VOKs.append{as bs:List PV}(ha:VOKs Z h n as)(hb:VOKs Z h n bs):VOKs Z h n (as++bs):=by
 rw[Qt]at *;intro c hc;rcases List.mem_append.1 hc with hc|hc
 .exact ha c hc
 .exact hb c hc
theorem VOKs.take{as:List PV}(ha:VOKs Z h n as)(k:Nat):VOKs Z h n (as.take k):=by
 rw[Qt]at *;exactλc hc=>ha c (List.mem_of_mem_take hc)
theorem VOKs.drop{as:List PV}(ha:VOKs Z h n as)(k:Nat):VOKs Z h n (as.drop k):=by
 rw[Qt]at *;exactλc hc=>ha c (List.mem_of_mem_drop hc)
theorem VOKs.get{as:List PV}(ha:VOKs Z h n as){k:Nat}{v:PV}(hk:as[k]? = some v):VOK Z h n v:=Qt.1 ha v (List.mem_of_getElem? hk)
structure Rel(ι:Nat->Nat)(Z:Nat->Prop)(σ:PHeap)(h:AHeap):Prop where
 hwf:HWF h
 zlt:∀o,Z o->o<h.next
 top:σ.top<=h.next
 wf:∀s,σ.next<=s->σ.obj s=none
 obj:∀s cs,σ.obj s=some cs->h.obj (ι s)=some ⟨true,ers ι cs⟩/\VOKs Z h σ.next cs/\¬Z (ι s)
 inj:∀s s' cs dT,σ.obj s=some cs->σ.obj s'=some dT->ι s=ι s'->s=s'
structure Aft(ι:Nat->Nat)(Z:Nat->Prop)(σ:PHeap)(h:AHeap)(ι':Nat->Nat)(Z':Nat->Prop)(σ':PHeap)(h':AHeap):Prop where
 next:σ.next<=σ'.next
 hnext:h.next<=h'.next
 inj:∀s,s<σ.next->ι' s=ι s
 z:∀o,Z o->Z' o/\h'.obj o=h.obj o
 dead:∀s,s<σ.next->σ.obj s=none->σ'.obj s=none
 fresh:∀s cs,σ.next<=s->σ'.obj s=some cs->h.next<=ι' s
theorem Rel.none_lt(r:Rel ι Z σ h){s:Nat}{cs:List PV}(hs:σ.obj s=some cs):s<σ.next:=by
 rcases Nat.lt_or_ge s σ.next with x|x
 .exact x
 .rw[r.wf s x]at hs;cases hs
theorem Aft.refl(r:Rel ι Z σ h):Aft ι Z σ h ι Z σ h:=⟨vM _,vM _,λ_ _=>rfl,λo ho=>⟨ho,rfl⟩,λ_ _ h=>h,λs cs hs ho=>absurd (r.none_lt ho) (by omega)⟩
theorem Aft.trans{ι'':Nat->Nat}{si:Nat->Prop}{σ'':PHeap}{dB:AHeap}(a:Aft ι Z σ h ι' Z' σ' h')(b:Aft ι' Z' σ' h' ι'' si σ'' dB):Aft ι Z σ h ι'' si σ'' dB:=
 ⟨Nat.le_trans a.next b.next,Nat.le_trans a.hnext b.hnext,λs hs=>(b.inj s (Nat.lt_of_lt_of_le hs a.next)).trans (a.inj s hs),
  λo ho=>⟨(b.z o (a.z o ho).1).1,(b.z o (a.z o ho).1).2.trans (a.z o ho).2⟩,λs hs hn=>b.dead s (Nat.lt_of_lt_of_le hs a.next) (a.dead s hs hn),
  λs cs hs ho=>by
   rcases Nat.lt_or_ge s σ'.next with x|x
   .rw[b.inj s x];cases hc:σ'.obj s with
    |none=>rw[b.dead s x hc]at ho;cases ho
    |some ds=>exact a.fresh s ds hs hc
   .exact Nat.le_trans a.hnext (b.fresh s cs x ho)⟩
theorem Aft.vok{v:PV}(a:Aft ι Z σ h ι' Z' σ' h')(hv:VOK Z h σ.next v):VOK Z' h' σ'.next v:=hv.mono a.z a.next
theorem Aft.voks{v:List PV}(a:Aft ι Z σ h ι' Z' σ' h')(hv:VOKs Z h σ.next v):VOKs Z' h' σ'.next v:=hv.mono a.z a.next
theorem Aft.er{v:PV}(a:Aft ι Z σ h ι' Z' σ' h')(hv:VOK Z h σ.next v):er ι' v=er ι v:=zEn a.inj hv
theorem Aft.ers{v:List PV}(a:Aft ι Z σ h ι' Z' σ' h')(hv:VOKs Z h σ.next v):ers ι' v=ers ι v:=Zm a.inj hv
def EOK(Z:Nat->Prop)(h:AHeap)(n:Nat)(E:PEnv):Prop:=∀t,VOK Z h n (E t)
def erE(ι:Nat->Nat)(E:PEnv):Env:=λt=>er ι (E t)
theorem Aft.eok{E:PEnv}(a:Aft ι Z σ h ι' Z' σ' h')(hv:EOK Z h σ.next E):EOK Z' h' σ'.next E:=λt=>a.vok (hv t)
theorem Aft.erE{E:PEnv}(a:Aft ι Z σ h ι' Z' σ' h')(hv:EOK Z h σ.next E):erE ι' E=erE ι E:=funext λt=>a.er (hv t)
theorem zDx(E:PEnv)(d:Option Nat)(v:PV):erE ι (E.put d v)=(erE ι E).put d (er ι v):=by
 cases d with
 |none=>rfl
 |some d=>funext t;simp only[Go.Ab.erE,PEnv.put,Env.put];split<;>rfl
theorem EOK.put{E:PEnv}(he:EOK Z h n E){v:PV}(hv:VOK Z h n v)(d:Option Nat):EOK Z h n (E.put d v):=by
 cases d with
 |none=>exact he
 |some d=>intro t;simp only[PEnv.put];split;exact hv;exact he t
theorem zDN:∀(S:List Nat) (vs:List PV),erE ι (PEnv.mk S vs)=Env.mk S (ers ι vs)
 |[],vs=>by funext t;simp[Go.Ab.erE,PEnv.mk,Env.mk,er]
 |s::S,[]=>by funext t;simp[Go.Ab.erE,PEnv.mk,Env.mk,er,Go.Ab.ers]
 |s::S,v::vs=>by
  funext t
  have:=congrFun (zDN S vs) t
  simp only[Go.Ab.erE,PEnv.mk,Env.mk,Go.Ab.ers]at this ⊢;split
  .rfl
  .exact this
theorem EOK.mk:∀{S:List Nat} {vs:List PV},VOKs Z h n vs->EOK Z h n (PEnv.mk S vs)
 |[],vs,_=>λt=>trivial
 |s::S,[],_=>λt=>trivial
 |s::S,v::vs,hv=>λt=>by simp only[PEnv.mk];split;exact hv.1;exact EOK.mk hv.2 t
theorem zDw(E:PEnv)(S:List Nat):ers ι (S.map E)=S.map (erE ι E):=by simp[Qz,erE]
theorem EOK.map{E:PEnv}(he:EOK Z h n E)(S:List Nat):VOKs Z h n (S.map E):=by
 rw[Qt];intro c hc;obtain⟨t,_,rfl⟩:=List.mem_map.1 hc;exact he t
theorem er_pv(E:PEnv)(x:IX):er ι (x.pv E)=x.ev (erE ι E):=by
 cases x with
 |t n=>rfl
 |c v=>exact zGO ι v
theorem EOK.pv{E:PEnv}(he:EOK Z h n E)(x:IX):VOK Z h n (x.pv E):=by
 cases x with
 |t n=>exact he n
 |c v=>exact VOK.ofAV v
theorem zGN(E:PEnv)(l:List IX):ers ι (l.map (·.pv E))=l.map (·.ev (erE ι E)):=by
 rw[Qz,List.map_map];exact List.map_congr_left λx _=>er_pv E x
theorem EOK.pvs{E:PEnv}(he:EOK Z h n E)(l:List IX):VOKs Z h n (l.map (·.pv E)):=by
 rw[Qt];intro c hc;obtain⟨x,_,rfl⟩:=List.mem_map.1 hc;exact he.pv x
theorem zGD(r:Rel ι Z σ h){s i k:Nat}{vs:List PV}(hv:σ.rd s i k=some vs):h.rd (ι s) i k=some (ers ι vs)/\VOKs Z h σ.next vs:=by
 simp only[PHeap.rd,Option.bind_eq_some_iff]at hv;obtain⟨cs,hc,hv⟩:=hv;split at hv
 .rename_i hl;cases hv;obtain⟨h1,h2,_⟩:=r.obj s cs hc;refine⟨?_,(h2.drop _).take _⟩;rw[zBc h1 (by simpa [zm]using hl),QD,QE]
 .cases hv
theorem zN9(r:Rel ι Z σ h){s i:Nat}{v:PV}(hv:σ.rd1 s i=some v):h.rd1 (ι s) i=some (er ι v)/\VOK Z h σ.next v:=by
 simp only[PHeap.rd1,Option.bind_eq_some_iff]at hv;obtain⟨cs,hc,hv⟩:=hv;obtain⟨h1,h2,_⟩:=r.obj s cs hc;exact⟨by rw[zFJ h1,zCI,hv];rfl,h2.get hv⟩
theorem zCV(r:Rel ι Z σ h){agg:Bool}{k:Nat}{x v:PV}(hx:VOK Z h σ.next x)(hv:pldv agg k x σ=some v):ldv agg k (er ι x) h=some (er ι v)/\VOK Z h σ.next v:=by
 cases x<;>simp only[pldv,reduceCtorEq]at hv
 case ptr s i=>
  simp only[er,ldv];cases agg with
  |true=>
   simp only[if_true,Option.map_eq_some_iff]at hv ⊢;obtain⟨vs,hv,rfl⟩:=hv;obtain⟨h1,h2⟩:=zGD r hv;exact⟨⟨_,h1,rfl⟩,h2⟩
  |false=>
   simp only[Bool.false_eq_true,if_false]at hv ⊢;exact zN9 r hv
 case fp a cs=>
  obtain⟨⟨h0,h1⟩,h2⟩:=hx;have lM:=h2.up (Nat.zero_le σ.next);rcases h1 with h1|⟨o,i,rfl,h3,h4⟩
  .have:cs=[]:=List.eq_nil_of_length_eq_zero (by rw[<-zm (ι:=idz),h1];rfl)
   subst this;cases agg with
   |true=>
    simp only[if_true]at hv;split at hv
    .rename_i hc;simp at hc;omega
    .cases hv
   |false=>simp at hv
  .simp only[er,ldv];cases agg with
   |true=>
    simp only[if_true]at hv ⊢;split at hv
    .rename_i hc;cases hv
     have:=zC9 h4 (a:=0) (b:=k) (by rw[zm];omega)
     rw[Nat.add_zero,List.drop_zero]at this;rw[this,<-QD];exact⟨by simp[er,zA7 (ι:=ι) (h2.take k)],lM.take k⟩
    .cases hv
   |false=>
    simp only[Bool.false_eq_true,if_false]at hv ⊢;have hl:0<(ers idz cs).length:=by
     rw[zm];exact(List.getElem?_eq_some_iff.1 hv).1
    have:=zMQ h4 hl
    rw[Nat.add_zero]at this;rw[this,zCI,hv];exact⟨by simp[zDM (ι:=ι) (h2.get hv)],lM.get hv⟩
theorem zBw:∀{ps:List (Nat×Nat×PV)} {cells cs:List PV},(∀p∈ps,VOK Z h n p.2.2)->VOKs Z h n cells->pfill cells ps=some cs->
  afill (ers ι cells) (ps.map λp=>(p.1,p.2.1,er ι p.2.2))=some (ers ι cs)/\VOKs Z h n cs
 |[],cells,cs,_,hc,hv=>by cases hv;exact⟨rfl,hc⟩
 |(off,size,v)::ps,cells,cs,hp,hc,hv=>by
  simp only[pfill]at hv;split at hv
  .rename_i eQ;have mr:VOK Z h n v:=hp (off,size,v) (by simp);have ih:=zBw (λp jm=>hp p (by simp[jm])) (((hc.take off).append mr.cells).append (hc.drop (off+size))) hv;simp only[List.map_cons,afill];rw[zEo mr,if_pos ⟨by rw[zm];exact eQ.1,by rw[zm];exact eQ.2.1,by rw[zDv mr.cells];exact eQ.2.2⟩];rw[ZU,ZU,QD,QE]at ih;exact ih
  .cases hv
theorem zLk{a:AV}(ha:ZQ a=true):a=.nils:=by cases a<;>first|rfl|cases ha
theorem zBS{x:PV}{y k:Nat}(hv:Ze x y=some k):zAu (er ι x) y=some k:=by
 cases x<;>simp only[Ze,reduceCtorEq]at hv
 exact hv
theorem zl{x:Option PV}{d y k:Nat}(hv:zg x d y=some k):zi (x.map (er ι)) d y=some k:=by
 cases x with
 |none=>exact hv
 |some x=>exact zBS hv
theorem zMm{x:PV}{y k:Nat}(hv:Ze x y=some k):k<=y:=by
 cases x<;>simp only[Ze,reduceCtorEq]at hv
 split at hv
 .cases hv;omega
 .cases hv
theorem zFL{x:Option PV}{d y k:Nat}(hd:d<=y)(hv:zg x d y=some k):k<=y:=by
 cases x with
 |none=>cases hv;exact hd
 |some x=>exact zMm hv
theorem zIo(e:Nat)(lo hi:Option AV):QX e .nils lo hi none=(zi hi 0 0).bind λh=>(zi lo 0 h).bind λ_=>if hi.isNone=true/\(none:Option AV).isSome=true then none else some .nils:=rfl
theorem zHI(e o off len c:Nat)(lo hi:Option AV):QX e (.sl o off len (.known c)) lo hi none=(zi hi len c).bind λh=>(zi lo 0 h).bind λl=>
   if hi.isNone=true/\(none:Option AV).isSome=true then none else some (.sl o (if c=l then off else off+l*e) (h-l) (.known (c-l))):=rfl
theorem zHj{e:Nat}{x v:PV}{lo hi mx:Option PV}(hx:VOK Z h n x)(hv:Zd e x lo hi mx=some v):
  QX e (er ι x) (lo.map (er ι)) (hi.map (er ι)) (mx.map (er ι))=some (er ι v)/\VOK Z h n v:=by
 cases x<;>simp only[Zd,reduceCtorEq]at hv
 case sl s off len cap=>
  cases cap with
  |known c=>
   simp only[Option.bind_eq_some_iff]at hv;obtain⟨m,h1,k,h2,l,h3,hv⟩:=hv;split at hv
   .cases hv
   .rename_i hc;cases hv;simp only[er,QX];rw[zl h1];simp only[Option.bind_some];rw[zl h2];simp only[Option.bind_some];rw[zl h3];simp only[Option.bind_some,Option.isNone_map,Option.isSome_map];rw[if_neg hc];exact⟨rfl,hx⟩
  |grown g=>
   cases mx with
   |none=>
    simp only[Option.bind_eq_some_iff]at hv;obtain⟨k,h2,l,h3,hv⟩:=hv;cases hv;simp only[er,QX,Option.map_none];rw[zl h2];simp only[Option.bind_some];rw[zl h3];simp only[Option.bind_some];exact⟨trivial,hx⟩
   |some mx=>
    simp only[Option.bind_eq_some_iff]at hv;obtain⟨m,h1,k,h2,l,h3,hv⟩:=hv;split at hv
    .cases hv
    .rename_i hc;cases hv;simp only[er,QX,Option.map_some];rw[zBS h1];simp only[Option.bind_some];rw[zl h2];simp only[Option.bind_some];rw[zl h3];simp only[Option.bind_some,Option.isNone_map];rw[if_neg hc];exact⟨rfl,hx⟩
 case fz w a len cs=>
  cases mx with
  |some mx=>
   cases a<;>try cases hv
   simp only[Option.bind_eq_some_iff]at hv;obtain⟨m,h1,k,h2,l,h3,hv⟩:=hv;split at hv
   .cases hv
   .rename_i hc;cases hv;simp only[er,QX,Option.map_some];rw[show zi (some (er ι mx)) 0 0=some m from zBS h1];simp only[Option.bind_some];rw[zl h2];simp only[Option.bind_some];rw[zl h3];simp only[Option.bind_some,Option.isNone_map];rw[if_neg λh=>hc h.1];exact⟨rfl,.inl ⟨rfl,rfl,rfl⟩,trivial⟩
  |none=>
   simp only[Option.bind_eq_some_iff]at hv;obtain⟨k,h2,l,h3,hv⟩:=hv;cases hv;have hk:=zFL (vM _) h2;have hl:=zFL (Nat.zero_le _) h3;obtain⟨hf,hc⟩:=hx;have oB:VOKs Z h 0 ((cs.drop (l*e)).take ((k-l)*e)):=(hc.drop _).take _;simp only[er,Option.map_none];rcases hf with ⟨rfl,rfl,he⟩|⟨o,off,cap,rfl,h4,h5,h6,h7⟩
   .have:cs=[]:=List.eq_nil_of_length_eq_zero (by rw[<-zm (ι:=idz),he];rfl)
    subst this;obtain rfl:k=0:=by omega
    obtain rfl:l=0:=by omega
    rw[zIo];rw[show zi (hi.map (er ι)) 0 0=some 0 from zl h2];simp only[Option.bind_some];rw[show zi (lo.map (er ι)) 0 0=some 0 from zl h3];simp only[Option.bind_some];refine⟨by simp[pslA],.inl ⟨rfl,rfl,by simp[ers]⟩,by simp[VOKs]⟩
   .have bM:∀de,(de=off+l*e\/(de=off/\(k-l)*e=0))->(ers idz ((cs.drop (l*e)).take ((k-l)*e))=[]\/h.rd o de (ers idz ((cs.drop (l*e)).take ((k-l)*e))).length=some (ers idz ((cs.drop (l*e)).take ((k-l)*e)))):=by
     rintro de (rfl|⟨rfl,h0⟩)
     .rw[QD,QE];by_cases hle:l*e<(ers idz cs).length
      .right;rcases h5 with h5|h5
       .rw[h5]at hle;simp at hle
       .have:=zC9 h5 (a:=l*e) (b:=((List.drop (l*e) (ers idz cs)).take ((k-l)*e)).length) (by simp;omega)
        rw[this];congr 1;rw[List.length_take];apply List.ext_getElem?;intro q;simp only[List.getElem?_take];split
        .split
         .rfl
         .omega
        .split
         .have:(List.drop (l*e) (ers idz cs)).length<=q:=by omega
          rw[List.getElem?_eq_none this]
         .rfl
      .left;rw[List.drop_eq_nil_of_le (by omega)];simp
     .left;rw[h0];rfl
    cases cap with
    |known c=>
     have ot:=h6 c rfl;rw[zHI];have hb:∀{x:Option PV} {d q:Nat},d=len->zg x d len=some q->zi (x.map (er ι)) d c=some q:=by
      intro x d q hd hq;cases x with
      |none=>exact hq
      |some x=>
       cases x<;>simp only[zg,Ze,reduceCtorEq]at hq
       split at hq
       .rename_i eQ;cases hq;simp only[Option.map_some,er,zi,zAu];rw[if_pos ⟨eQ.1,by omega⟩]
       .cases hq
     rw[hb rfl h2];simp only[Option.bind_some];rw[zl h3];simp only[Option.bind_some,Option.isSome_none,Bool.false_eq_true,and_false,if_false];refine⟨rfl,.inr ⟨o,_,_,rfl,h4,?_,?_,by simp⟩,oB⟩
     .by_cases cI:c=l
      .rw[if_pos cI];exact bM _ (.inr ⟨rfl,by rw[show k-l=0 by omega,Nat.zero_mul]⟩)
      .rw[if_neg cI];exact bM _ (.inl rfl)
     .intro c' jL;cases jL;omega
    |grown g=>
     simp only[QX,Option.map_none];rw[zl h2];simp only[Option.bind_some];rw[zl h3];simp only[Option.bind_some];exact⟨rfl,.inr ⟨o,_,_,rfl,h4,bM _ (.inl rfl),(λc hc=>by cases hc),by simp⟩,oB⟩
end Go.Ab
set_option linter.unusedVariables false
set_option linter.unusedSimpArgs false
namespace Go.Ab
variable{P:Program}{ι ι':Nat->Nat}{Z Z':Nat->Prop}{h h':AHeap}{σ σ':PHeap}{n n':Nat}
theorem qd{op:BinOp}{b:Bool}{v:PV}(hv:pnil op b=some v):anil op b=some (er ι v)/\VOK Z h n v:=by
 cases op<;>simp only[pnil,reduceCtorEq]at hv<;>cases hv<;>exact⟨rfl,trivial⟩
theorem zA3{o:Option AV}{v:PV}(hv:o.map ofAV=some v):o=some (er ι v)/\VOK Z h n v:=by
 obtain⟨a,rfl,rfl⟩:=Option.map_eq_some_iff.1 hv;exact⟨by rw[zGO],VOK.ofAV a⟩
theorem zEA:∀{xs ys:List PV} {r:Bool},paggB xs ys=some r->aggB (ers ι xs) (ers ι ys)=some r
 |[],[],r,h=>h
 |[],y::ys,r,h=>by cases y<;>simp[paggB]at h
 |x::xs,[],r,h=>by cases x<;>simp[paggB]at h
 |x::xs,y::ys,r,h=>by
  cases x<;>cases y<;>simp only[paggB,reduceCtorEq]at h
  split at h
  .rename_i hk;obtain⟨r',hr,rfl⟩:=Option.map_eq_some_iff.1 h;simp only[ers,er,aggB,if_pos hk,zEA hr,Option.map_some]
  .cases h
theorem zLJ{op:BinOp}{ek:EqK}{x y v:PV}(hx:VOK Z h n x)(hy:VOK Z h n y)(hv:pbin op ek x y=some v):abin op ek (er ι x) (er ι y)=some (er ι v)/\VOK Z h n v:=by
 cases x<;>cases y<;>simp only[pbin,reduceCtorEq]at hv
 case int.int k a k' b=>exact zA3 hv
 case str.str a b=>
  have:=zA3 (ι:=ι) (Z:=Z) (h:=h) (n:=n) hv
  exact⟨this.1,this.2⟩
 case bool.bool a b=>cases ek<;>simp only[reduceCtorEq]at hv;exact qd hv
 case agg.agg xs ys=>
  cases ek<;>simp only[reduceCtorEq]at hv
  split at hv
  .rename_i hl;obtain⟨r,hr,hv⟩:=Option.bind_eq_some_iff.1 hv
   have:=qd (ι:=ι) (Z:=Z) (h:=h) (n:=n) hv
   refine⟨?_,this.2⟩;simp only[er,abin,zm,if_pos hl,zEA hr,Option.bind_some];exact this.1
  .cases hv
 case nilp.nilp=>cases ek<;>simp only[reduceCtorEq]at hv;exact qd hv
 case nilp.ptr=>cases ek<;>simp only[reduceCtorEq]at hv;exact qd hv
 case ptr.nilp=>cases ek<;>simp only[reduceCtorEq]at hv;exact qd hv
 case nilf.nilf=>cases ek<;>simp only[reduceCtorEq]at hv;exact qd hv
 case nilf.clo=>cases ek<;>simp only[reduceCtorEq]at hv;exact qd hv
 case clo.nilf=>cases ek<;>simp only[reduceCtorEq]at hv;exact qd hv
 case fz.fz w a l cs w' a' l' dT=>
  cases ek<;>simp only[reduceCtorEq]at hv
  obtain⟨rfl,_⟩|⟨o,off,cap,rfl,_⟩:=hx.1<;>obtain⟨rfl,_⟩|⟨o',de,aZ,rfl,_⟩:=hy.1<;>simp only[ZQ,if_true,Bool.false_eq_true,if_false,reduceCtorEq]at hv
  .exact qd hv
  .exact qd hv
  .exact qd hv
 case sl.fz s off len cap w' a' l' dT=>
  cases ek<;>simp only[reduceCtorEq]at hv
  obtain⟨rfl,_⟩|⟨o',de,aZ,rfl,_⟩:=hy.1<;>simp only[ZQ,if_true,Bool.false_eq_true,if_false,reduceCtorEq]at hv
  exact qd hv
 case fz.sl w' a' l' dT s off len cap=>
  cases ek<;>simp only[reduceCtorEq]at hv
  obtain⟨rfl,_⟩|⟨o',de,aZ,rfl,_⟩:=hx.1<;>simp only[ZQ,if_true,Bool.false_eq_true,if_false,reduceCtorEq]at hv
  exact qd hv
theorem zMT{op:UnOp}{x v:PV}(hv:pun op x=some v):aun op (er ι x)=some (er ι v)/\VOK Z h n v:=by
 cases x<;>simp only[pun,reduceCtorEq]at hv
 .exact zA3 hv
 .exact zA3 hv
theorem zHw{sz:Nat}{x i v:PV}(hx:VOK Z h n x)(hv:zCA sz x i=some v):qz sz (er ι x) (er ι i)=some (er ι v)/\VOK Z h n v:=by
 cases x<;>cases i<;>simp only[zCA,reduceCtorEq]at hv
 case sl.int s off len cap k m=>
  split at hv
  .rename_i hc;cases hv;simp only[er,qz];rw[if_pos hc];exact⟨rfl,hx⟩
  .cases hv
 case fz.int w a len cs k m=>
  split at hv
  .rename_i hc;cases hv;obtain⟨hf,fB⟩:=hx;rcases hf with ⟨rfl,rfl,_⟩|⟨o,off,cap,rfl,h1,h2,_⟩
   .omega
   .simp only[er,qz,pAt];rw[if_pos hc];refine⟨rfl,⟨rfl,?_⟩,fB.drop _⟩;rw[QE];rcases h2 with h2|h2
    .left;rw[h2];simp
    .by_cases hl:m.toNat*sz<(ers idz cs).length
     .right;refine⟨_,_,rfl,h1,?_⟩;rw[zC9 h2 (a:=m.toNat*sz) (b:=(List.drop (m.toNat*sz) (ers idz cs)).length) (by simp;omega),List.take_length]
     .left;exact List.drop_eq_nil_of_le (by omega)
  .cases hv
def RevOK(ι:Nat->Nat)(σ:PHeap)(nb nr nb1:Nat):Prop:=∀k,k<nr->nb+k<σ.next/\ι (nb+k)=nb1+k
theorem zHc(r:Rel ι Z σ h){E:PEnv}(he:EOK Z h σ.next E){nb nr nb1:Nat}(cX:RevOK ι σ nb nr nb1){op:IOp}{v:PV}(hv:qp nb nr op E σ=some v):
  qv nb1 op (erE ι E) h=some (er ι v)/\VOK Z h σ.next v:=by
 cases op<;>simp only[qp,reduceCtorEq]at hv<;>simp only[qv,<-er_pv]
 case mv x=>cases hv;exact⟨rfl,he.pv x⟩
 case pick c a b=>
  have hc:=he.pv c
  revert hv;generalize c.pv E=c';intro hv
  cases c'<;>simp only[pPick,reduceCtorEq]at hv
  cases hv;simp only[er,aPick];split
  .exact⟨rfl,he.pv a⟩
  .exact⟨rfl,he.pv b⟩
 case bin o k x y=>exact zLJ (he.pv x) (he.pv y) hv
 case un o x=>exact zMT hv
 case conv k x=>
  revert hv;generalize x.pv E=x';intro hv
  cases x'<;>simp only[pConv,reduceCtorEq]at hv
  cases hv;exact⟨rfl,trivial⟩
 case nilCheck x=>
  have hx:=he.pv x
  revert hv hx;generalize x.pv E=x';intro hv hx
  cases x'<;>simp only[pNil,reduceCtorEq]at hv
  .rename_i a cs;split at hv
   .cases hv
   .rename_i ar;cases hv;obtain⟨⟨h0,h1⟩,h2⟩:=hx;rcases h1 with h1|⟨o,i,rfl,h3⟩
    .cases cs with
     |nil=>exact absurd rfl ar
     |cons c cs=>simp[ers]at h1
    .exact⟨rfl,⟨h0,.inr ⟨o,i,rfl,h3⟩⟩,h2⟩
  .cases hv;exact⟨rfl,hx⟩
  .cases hv;exact⟨rfl,hx⟩
 case build z ps=>
  obtain⟨cs,hf,rfl⟩:=Option.map_eq_some_iff.1 hv
  have:=zBw (ι:=ι) (Z:=Z) (h:=h) (n:=σ.next) (λp hp=>by obtain⟨q,_,rfl⟩:=List.mem_map.1 hp;exact he.pv _) (VOKs.ofAVs z) hf
  rw[ZJ,List.map_map]at this;refine⟨?_,this.2⟩;have h2:(List.map ((λp:Nat×Nat×PV=>(p.1,p.2.1,er ι p.2.2)) ∘ λp:Nat×Nat×IX=>(p.1,p.2.1,p.2.2.pv E)) ps)=ps.map λp=>(p.1,p.2.1,er ι (p.2.2.pv E)):=rfl;rw[h2]at this;rw[this.1];rfl
 case field a k off x=>
  have hx:=he.pv x
  revert hv hx;generalize x.pv E=x';intro hv hx
  cases x'<;>simp only[zDD,reduceCtorEq]at hv
  rename_i cs;simp only[er,ZF];have fB:VOKs Z h σ.next cs:=hx;cases a with
  |true=>
   simp only[if_true]at hv ⊢;cases hv;simp only[er,QD,QE];exact⟨trivial,(fB.drop _).take _⟩
  |false=>
   simp only[Bool.false_eq_true,if_false]at hv ⊢;rw[zCI,hv];exact⟨rfl,fB.get hv⟩
 case fieldAddr off x=>
  have hx:=he.pv x
  revert hv hx;generalize x.pv E=x';intro hv hx
  cases x'<;>simp only[zAA,reduceCtorEq]at hv
  .rename_i a cs;split at hv
   .cases hv
   .rename_i ar;cases hv;obtain⟨⟨h0,h1⟩,h2⟩:=hx;rcases h1 with h1|⟨o,i,rfl,h3,h4⟩
    .cases cs with
     |nil=>exact absurd rfl ar
     |cons c cs=>simp[ers]at h1
    .refine⟨rfl,⟨rfl,?_⟩,h2.drop _⟩;rw[QE];by_cases hl:off<(ers idz cs).length
     .right;refine⟨o,i+off,rfl,h3,?_⟩;rw[zC9 h4 (a:=off) (b:=(List.drop off (ers idz cs)).length) (by simp;omega),List.take_length]
     .left;exact List.drop_eq_nil_of_le (by omega)
  .cases hv;exact⟨rfl,hx⟩
 case indexAddr sz x i=>exact zHw (he.pv x) hv
 case indexStr x i=>
  revert hv;generalize x.pv E=x';generalize i.pv E=i';intro hv
  cases x'<;>cases i'<;>simp only[zDp,reduceCtorEq]at hv
  split at hv
  .rename_i hc;obtain⟨c,gY,rfl⟩:=Option.map_eq_some_iff.1 hv;simp only[er,qj];rw[if_pos hc,gY];exact⟨rfl,trivial⟩
  .cases hv
 case extract x i=>
  have hx:=he.pv x
  revert hv hx;generalize x.pv E=x';intro hv hx
  cases x'<;>simp only[zCY,reduceCtorEq]at hv
  rename_i vs;simp only[er,qY];rw[zCI,hv];exact⟨rfl,VOKs.get (as:=vs) hx hv⟩
 case len x=>
  have hx:=he.pv x
  revert hv hx;generalize x.pv E=x';intro hv hx
  cases x'<;>simp only[pLen,plen,Option.map_none,Option.map_some,reduceCtorEq]at hv<;>cases hv
  .obtain⟨rfl,rfl,_⟩|⟨o,off,cap,rfl,_⟩:=hx.1<;>exact⟨rfl,trivial⟩
  .exact⟨rfl,trivial⟩
 case lenStr x=>
  revert hv;generalize x.pv E=x';intro hv
  cases x'<;>simp only[zDo,reduceCtorEq]at hv
  cases hv;exact⟨rfl,trivial⟩
 case cap x=>
  revert hv;generalize x.pv E=x';intro hv
  cases x'<;>(try (simp only[pCap,reduceCtorEq]at hv;done))
  case sl s off len cap=>
   simp only[pCap]at hv;cases cap<;>simp only[reduceCtorEq]at hv
   cases hv;exact⟨rfl,trivial⟩
  case fz w a l cs=>
   cases a<;>simp only[pCap,reduceCtorEq]at hv
   cases hv;exact⟨rfl,trivial⟩
 case slice sz x lo hi mx=>
  have:=zHj (ι:=ι) (he.pv x) hv
  simpa only[Option.map_map,Function.comp_def]using this
 case sliceStr x lo hi=>
  revert hv;generalize x.pv E=x';intro hv
  cases x'<;>simp only[zBd,reduceCtorEq]at hv
  simp only[Option.bind_eq_some_iff]at hv;obtain⟨k,h2,l,h3,hv⟩:=hv;cases hv;simp only[er,zBn];have e2:=zl (ι:=ι) h2;have e3:=zl (ι:=ι) h3;rw[Option.map_map]at e2 e3;simp only[Function.comp_def]at e2 e3;rw[e2];simp only[Option.bind_some];rw[e3];simp only[Option.bind_some];exact⟨trivial,trivial⟩
 case maxmin m x y=>
  revert hv;generalize x.pv E=x';generalize y.pv E=y';intro hv
  cases x'<;>cases y'<;>simp only[zB9,reduceCtorEq]at hv
  split at hv
  .rename_i hc;cases hv;simp only[er,qi];rw[if_pos hc];exact⟨rfl,trivial⟩
  .cases hv
 case makeFunc f a b=>
  cases hv;simp only[er,zGN,er_pv];exact⟨trivial,he.pvs a,he.pvs b⟩
 case load a k x=>exact zCV r (he.pv x) hv
 case rev k=>
  split at hv
  .rename_i hk;cases hv;obtain⟨h1,h2⟩:=cX k hk;exact⟨by simp only[er];rw[h2],h1⟩
  .cases hv
 case revS k m=>
  split at hv
  .rename_i hk;cases hv;obtain⟨h1,h2⟩:=cX k hk;exact⟨by simp only[er];rw[h2],h1⟩
  .cases hv
def Up(ι:Nat->Nat)(Z:Nat->Prop)(σ:PHeap)(h:AHeap)(K:PV->PHeap->Prop):AV->AHeap->Prop:=λv h'=>
 ∃pv σ' ι' Z',Rel ι' Z' σ' h'/\Aft ι Z σ h ι' Z' σ' h'/\VOK Z' h' σ'.next pv/\v=er ι' pv/\K pv σ'
def zA(P:Program)(f:FuncId)(args:List PV)(σ:PHeap)(K:PV->PHeap->Prop):Prop:=
 ∀(ι:Nat->Nat) (Z:Nat->Prop) (h:AHeap),Rel ι Z σ h->VOKs Z h σ.next args->ZR P f (ers ι args) h (Up ι Z σ h K)
theorem zA.mono{f:FuncId}{args:List PV}{K K':PV->PHeap->Prop}(c:zA P f args σ K)(hk:∀v σ',K v σ'->K' v σ'):zA P f args σ K':=
 λι Z h r va=>(c ι Z h r va).mono λ_ _ ⟨pv,σ',ι',Z',a,b,d,e,k⟩=>⟨pv,σ',ι',Z',a,b,d,e,hk _ _ k⟩
def ep(P:Program)(op:IOp)(e:PEnv)(σ:PHeap)(K:PV->PHeap->Prop):Prop:=
 match op with
 | .alloc z=>K (.ptr σ.next 0) (σ.new (ofAVs z))
 | .box x=>(x.pv e).cells.all PV.one=true/\K (.ptr σ.next 0) (σ.new (x.pv e).cells)
 | .buildSl sz len z ps=>optK (pfill (ofAVs (zeros z len)) (ps.map λp=>(p.1,p.2.1,p.2.2.pv e))) λcs=>K (.sl σ.next 0 len (.known len)) (σ.new cs)
 | .store n x v=>match x.pv e with
  | .ptr s i=>(v.pv e).cells.length=n/\optK (σ.wr s i (v.pv e).cells) λσ'=>K .undef σ'
  |_=>False
 | .makeSl sz bytes z l c=>match l.pv e,c.pv e with
  | .int _ l,.int _ c=>(0<=l/\l<=c/\c*bytes<=140737488355328/\c<=9223372036854775807)/\K (.sl σ.next 0 l.toNat (.known c.toNat)) (σ.new (ofAVs (zeros z c.toNat)))
  |_,_=>False
 | .append sz bytes s x=>optK (qU sz bytes σ (s.pv e) (x.pv e)) λp=>K p.1 p.2
 | .appendMk sz bytes z s n=>match s.pv e,n.pv e with
  | .fz _ .nils _ _,.int _ n=>(0<n/\n*bytes<=140737488355328/\n<=4611686018427387904)/\K (.sl σ.next 0 n.toNat (.grown sz)) (σ.new (ofAVs (zeros z n.toNat)))
  |_,_=>False
 | .copy sz d s=>optK (pcopy sz σ (d.pv e) (s.pv e)) λp=>K p.1 p.2
 | .call f args=>zA P f (args.map (·.pv e)) σ K
 | .callV f args=>match f.pv e with
  | .clo f first bj=>okF P f=true/\zA P f (first++args.map (·.pv e)++bj) σ K
  |_=>False
 |_=>False
def putι(ι:Nat->Nat)(s o:Nat):Nat->Nat:=λs'=>if s'=s then o else ι s'
theorem Rel.new(r:Rel ι Z σ h){cs:List PV}(hv:VOKs Z h σ.next cs):Rel (putι ι σ.next h.next) Z (σ.new cs) (h.new ⟨true,ers ι cs⟩)/\Aft ι Z σ h (putι ι σ.next h.next) Z (σ.new cs) (h.new ⟨true,ers ι cs⟩):=by
 have ha:Aft ι Z σ h (putι ι σ.next h.next) Z (σ.new cs) (h.new ⟨true,ers ι cs⟩):=
  ⟨by simp[PHeap.new],by simp[AHeap.new],λs hs=>by simp[putι,Nat.ne_of_lt hs],λo ho=>⟨ho,zCa (by have:=r.zlt o ho;omega) _⟩,λs hs hn=>by simp only[PHeap.new];rw[if_neg (by omega)];exact hn,
   λs ds hs ho=>by
    by_cases e:s=σ.next
    .subst e;simp[putι]
    .simp only[PHeap.new,if_neg e]at ho;exact absurd (r.none_lt ho) (by omega)⟩
 refine⟨⟨r.hwf.new _,λo ho=>by have:=r.zlt o ho;simp only[AHeap.new];omega,by have:=r.top;simp only[PHeap.new,AHeap.new];omega,λs hs=>?_,λs ds hs=>?_,λs s' a b hs cu hi=>?_⟩,ha⟩
 .simp only[PHeap.new]at hs ⊢;rw[if_neg (by omega)];exact r.wf s (by omega)
 .simp only[PHeap.new]at hs;by_cases e:s=σ.next
  .subst e;rw[if_pos rfl]at hs;cases hs;refine⟨?_,ha.voks hv,λhz=>?_⟩
   .rw[ha.ers hv];simp[putι,AHeap.new]
   .have:=r.zlt _ hz;simp[putι]at this
  .rw[if_neg e]at hs;obtain⟨h1,h2,h3⟩:=r.obj s ds hs;refine⟨?_,ha.voks h2,by simpa [putι,e]using h3⟩;rw[ha.ers h2];simp only[putι,if_neg e];rw[zCa (by have:=r.hwf.lt h1;omega)];exact h1
 .have ah:∀{t:Nat} {a:List PV},t≠σ.next->(σ.new cs).obj t=some a->σ.obj t=some a:=λht hh=>by simpa [PHeap.new,ht]using hh
  by_cases e:s=σ.next
  .by_cases e':s'=σ.next
   .rw[e,e']
   .obtain⟨h1,_⟩:=r.obj s' b (ah e' cu)
    have:=r.hwf.lt h1
    subst e;simp[putι,e']at hi;omega
  .by_cases e':s'=σ.next
   .obtain⟨h1,_⟩:=r.obj s a (ah e hs)
    have:=r.hwf.lt h1
    subst e';simp[putι,e]at hi;omega
   .simp only[putι,if_neg e,if_neg e']at hi;exact r.inj s s' a b (ah e hs) (ah e' cu) hi
theorem Rel.set(r:Rel ι Z σ h){s:Nat}{cs ds:List PV}(hs:σ.obj s=some cs)(hv:VOKs Z h σ.next ds):Rel ι Z (σ.set s ds) (h.set (ι s) (ers ι ds))/\Aft ι Z σ h ι Z (σ.set s ds) (h.set (ι s) (ers ι ds)):=by
 obtain⟨h1,h2,h3⟩:=r.obj s cs hs;have ha:Aft ι Z σ h ι Z (σ.set s ds) (h.set (ι s) (ers ι ds)):=
  ⟨vM _,vM _,λ_ _=>rfl,λo ho=>⟨ho,zFC (λe=>h3 (by rw[<-e];exact ho)) _⟩,λt ht hn=>by
   simp only[PHeap.set];rw[if_neg (λe=>by subst e;rw[hs]at hn;cases hn)];exact hn,λt ds ht ho=>by
   have:=r.none_lt hs
   simp only[PHeap.set]at ho;rw[if_neg (by omega)]at ho;exact absurd (r.none_lt ho) (by omega)⟩
 refine⟨⟨r.hwf.set (r.hwf.lt h1) _,r.zlt,r.top,λt ht=>?_,λt as ht=>?_,λt t' a b ht db hi=>?_⟩,ha⟩
 .have ar:t≠s:=λe=>by subst e;rw[r.wf t ht]at hs;cases hs
  simp only[PHeap.set,if_neg ar];exact r.wf t ht
 .simp only[PHeap.set]at ht;by_cases e:t=s
  .subst e;rw[if_pos rfl]at ht;cases ht;exact⟨zK0 _ _,ha.voks hv,h3⟩
  .rw[if_neg e]at ht;obtain⟨g1,g2,g3⟩:=r.obj t as ht;exact⟨by rw[zFC (λe'=>e (r.inj t s as cs ht hs e'))];exact g1,ha.voks g2,g3⟩
 .have conv:∀{t:Nat} {a:List PV},(σ.set s ds).obj t=some a->∃a',σ.obj t=some a':=λ{t a} ht=>by
   simp only[PHeap.set]at ht;by_cases e:t=s
   .subst e;exact⟨_,hs⟩
   .rw[if_neg e]at ht;exact⟨_,ht⟩
  obtain⟨a',lH⟩:=conv ht;obtain⟨b',gH⟩:=conv db;exact r.inj t t' a' b' lH gH hi
theorem Rel.kill(r:Rel ι Z σ h){s:Nat}{cs:List PV}(hs:σ.obj s=some cs):Rel ι Z (σ.kill s) (h.kill (ι s))/\Aft ι Z σ h ι Z (σ.kill s) (h.kill (ι s)):=by
 obtain⟨h1,h2,h3⟩:=r.obj s cs hs;have ha:Aft ι Z σ h ι Z (σ.kill s) (h.kill (ι s)):=
  ⟨vM _,vM _,λ_ _=>rfl,λo ho=>⟨ho,zEJ (λe=>h3 (by rw[<-e];exact ho))⟩,λt ht hn=>by
   simp only[PHeap.kill];split;rfl;exact hn,λt ds ht ho=>by
   simp only[PHeap.kill]at ho;split at ho;cases ho;exact absurd (r.none_lt ho) (by omega)⟩
 have conv:∀{t:Nat} {a:List PV},(σ.kill s).obj t=some a->t≠s/\σ.obj t=some a:=λ{t a} ht=>by
  simp only[PHeap.kill]at ht;split at ht
  .cases ht
  .exact⟨by assumption,ht⟩
 refine⟨⟨r.hwf.kill _,r.zlt,r.top,λt ht=>?_,λt as ht=>?_,λt t' a b ht db hi=>r.inj t t' a b (conv ht).2 (conv db).2 hi⟩,ha⟩
 .simp only[PHeap.kill];split
  .rfl
  .exact r.wf t ht
 .obtain⟨e,ht⟩:=conv ht
  obtain⟨g1,g2,g3⟩:=r.obj t as ht;exact⟨by rw[zEJ (λe'=>e (r.inj t s as cs ht hs e'))];exact g1,ha.voks g2,g3⟩
theorem zDA(r:Rel ι Z σ h){s i:Nat}{vs:List PV}(hv:VOKs Z h σ.next vs)(hw:σ.wr s i vs=some σ'):
  ∃h',h.wr (ι s) i (ers ι vs)=some h'/\Rel ι Z σ' h'/\Aft ι Z σ h ι Z σ' h':=by
 simp only[PHeap.wr,Option.bind_eq_some_iff]at hw;obtain⟨cs,hs,hw⟩:=hw;split at hw
 .rename_i hc;cases hw;obtain⟨h1,h2,h3⟩:=r.obj s cs hs;obtain⟨r',a'⟩:=r.set hs (((h2.take i).append hv).append (h2.drop (i+vs.length)));refine⟨_,?_,r',a'⟩;rw[zQX h1 (by rw[zm,zm];exact hc.1) (by rw[zDv hv];exact hc.2)];rw[ZU,ZU,QD,QE,zm]
 .cases hw
theorem zCU{x:PV}(hx:VOK Z h n x){m:Nat}(hm:plen x=some m):alen (er ι x)=some m:=by
 cases x<;>simp only[plen,reduceCtorEq]at hm<;>cases hm
 .obtain⟨rfl,rfl,_⟩|⟨o,off,cap,rfl,_⟩:=hx.1<;>rfl
 .rfl
theorem zDC(r:Rel ι Z σ h){e:Nat}{x:PV}(hx:VOK Z h σ.next x){m:Nat}{cs:List PV}(hv:Zu e σ x m=some cs):zCM e h (er ι x) m=some (ers ι cs)/\VOKs Z h σ.next cs:=by
 unfold Zu at hv;unfold zCM;split at hv
 .rename_i h0;cases hv;rw[if_pos h0];exact⟨rfl,trivial⟩
 .rename_i h0;rw[if_neg h0];split at hv
  .rename_i s off len cap;split at hv
   .rename_i hl;simp only[er];rw[if_pos hl];exact zGD r hv
   .cases hv
  .rename_i w a len cs;split at hv
   .rename_i hl;cases hv;obtain⟨hf,hc⟩:=hx;have jL:=(hc.take (m*e)).up (Nat.zero_le σ.next);simp only[er];rcases hf with ⟨rfl,rfl,_⟩|⟨o,off,cap,rfl,h1,h2,_⟩
    .omega
    .simp only;rw[if_pos hl.1,zA7 (ι:=ι) (hc.take _),QD];refine⟨?_,jL⟩;rcases h2 with h2|h2
     .have:=hl.2.1
      have h3:cs.length=0:=by rw[<-zm (ι:=idz),h2];rfl
      have:=Nat.mul_pos (Nat.pos_of_ne_zero h0) hl.2.2
      omega
     .have:=zC9 h2 (a:=0) (b:=m*e) (by rw[zm];omega)
      simpa using this
   .cases hv
  .cases hv
theorem zJJ(r:Rel ι Z σ h){e bytes:Nat}{s:PV}(hs:VOK Z h σ.next s){news:List PV}(hn:VOKs Z h σ.next news){m:Nat}{p:PV×PHeap}(hv:pgrow e bytes σ s news m=some p):
  ∃q,agrow e bytes h (er ι s) (ers ι news) m=some q/\∃ι' Z',Rel ι' Z' p.2 q.2/\Aft ι Z σ h ι' Z' p.2 q.2/\VOK Z' q.2 p.2.next p.1/\q.1=er ι' p.1:=by
 unfold pgrow at hv;split at hv
 ·-- nil
  split at hv
  .rename_i hc;cases hv;obtain⟨r',a'⟩:=r.new hn;simp only[er,agrow];rw[if_pos hc];exact⟨_,rfl,_,_,r',a',Nat.lt_succ_self _,by simp[er,putι]⟩
  .cases hv
 ·-- frozen, full
  rename_i w o off l c len cs;split at hv
  .rename_i hc;cases hv;obtain⟨hf,fB⟩:=hs;have CN:=fB.up (Nat.zero_le σ.next);obtain⟨r',a'⟩:=r.new (CN.append hn);rcases hf with ⟨hf,_⟩|⟨o',de,aZ,he,h1,h2,h3,h4⟩
   .cases hf
   cases he;simp only[er,agrow];rw[if_neg (by omega),if_pos hc.2.2.2]
   have:h.rd o off (l*e)=some (ers ι cs):=by
    rw[zA7 (ι:=ι) fB];rcases h2 with h2|h2
    .have iI:cs=[]:=List.eq_nil_of_length_eq_zero (by rw[<-zm (ι:=idz),h2];rfl);subst iI;rcases hc.2.1 with hw|hw
     .obtain⟨rfl,ho⟩:=h4 hw;rw[<-hc.2.2.1,zBc ho (by simp)];rfl
     .simp at hw
    .rw[zm,hc.2.2.1]at h2;exact h2
   rw[this,Option.map_some,<-ZU];exact⟨_,rfl,_,_,r',a',Nat.lt_succ_self _,by simp[er,putι]⟩
  .cases hv
 .rename_i s off len c;simp only[er,agrow];split at hv
  .rename_i hc;rw[if_pos hc];obtain⟨σ',hw,rfl⟩:=Option.map_eq_some_iff.1 hv;obtain⟨h',mP,r',a'⟩:=zDA r hn hw;rw[mP];exact⟨_,rfl,_,_,r',a',a'.vok hs,rfl⟩
  .rename_i hc;rw[if_neg hc];split at hv
   .rename_i gY;rw[if_pos gY];obtain⟨eX,ho,rfl⟩:=Option.map_eq_some_iff.1 hv;obtain⟨h1,h2⟩:=zGD r ho;obtain⟨r',a'⟩:=r.new (h2.append hn);rw[h1,Option.map_some,<-ZU];exact⟨_,rfl,_,_,r',a',Nat.lt_succ_self _,by simp[er,putι]⟩
   .cases hv
 .rename_i s off len g;simp only[er,agrow];split at hv
  .rename_i hc;rw[if_pos hc];simp only[Option.bind_eq_some_iff]at hv;obtain⟨cs,cu,hv⟩:=hv;split at hv
   .rename_i hl;cases hv;obtain⟨h1,h2,h3⟩:=r.obj s cs cu;obtain⟨r1,a1⟩:=r.kill cu;obtain⟨r2,a2⟩:=r1.new (a1.voks (((h2.drop off).take (len*e)).append hn));rw[h1];simp only[Option.bind_some];rw[if_pos ⟨trivial,by rw[zm];exact hl⟩,<-QE,<-QD,<-ZU];exact⟨_,rfl,_,_,r2,a1.trans a2,Nat.lt_succ_self _,by simp[er,putι,PHeap.kill,AHeap.kill]⟩
   .cases hv
  .cases hv
 .cases hv
theorem zJH{s v:PV}(hs:VOK Z h n s)(hv:psame s=some v):asame (er ι s)=some (er ι v)/\VOK Z h n v:=by
 unfold psame at hv;split at hv
 .cases hv;exact⟨rfl,.inl ⟨rfl,rfl,rfl⟩,trivial⟩
 .split at hv
  .rename_i hc;cases hv;simp only[er,asame];rw[if_pos hc];exact⟨rfl,hs⟩
  .cases hv
 .cases hv;exact⟨rfl,hs⟩
 .rename_i w o off l c len cs;cases hv;have cu:=hs;obtain⟨hf,_⟩:=hs;rcases hf with ⟨hf,_⟩|⟨o',de,aZ,he,h1,h2,h3,_⟩
  .cases hf
  cases he;simp only[er];cases c with
  |known c=>simp only[asame];rw[if_pos (h3 c rfl)];exact⟨rfl,cu⟩
  |grown g=>exact⟨rfl,cu⟩
 .cases hv
theorem zG6(r:Rel ι Z σ h){e bytes:Nat}{s x:PV}(hs:VOK Z h σ.next s)(hx:VOK Z h σ.next x){p:PV×PHeap}(hv:qU e bytes σ s x=some p):
  ∃q,zCN e bytes h (er ι s) (er ι x)=some q/\∃ι' Z',Rel ι' Z' p.2 q.2/\Aft ι Z σ h ι' Z' p.2 q.2/\VOK Z' q.2 p.2.next p.1/\q.1=er ι' p.1:=by
 simp only[qU,Option.bind_eq_some_iff]at hv;obtain⟨m,hm,hv⟩:=hv;simp only[zCN];rw[zCU hx hm];simp only[Option.bind_some];split at hv
 .rename_i h0;rw[if_pos h0];obtain⟨v,eg,rfl⟩:=Option.map_eq_some_iff.1 hv;obtain⟨h1,h2⟩:=zJH (ι:=ι) hs eg;rw[h1];exact⟨_,rfl,_,_,r,Aft.refl r,h2,rfl⟩
 .rename_i h0;rw[if_neg h0];simp only[Option.bind_eq_some_iff]at hv;obtain⟨news,hn,hv⟩:=hv;obtain⟨h1,h2⟩:=zDC r hx hn;rw[h1];exact zJJ r hs h2 hv
theorem zJK(r:Rel ι Z σ h){e:Nat}{d s:PV}(hd:VOK Z h σ.next d)(hs:VOK Z h σ.next s){p:PV×PHeap}(hv:pcopy e σ d s=some p):
  ∃q,acopy e h (er ι d) (er ι s)=some q/\∃ι' Z',Rel ι' Z' p.2 q.2/\Aft ι Z σ h ι' Z' p.2 q.2/\VOK Z' q.2 p.2.next p.1/\q.1=er ι' p.1:=by
 simp only[pcopy,Option.bind_eq_some_iff]at hv;obtain⟨m,hm,k,hk,hv⟩:=hv;simp only[acopy];rw[zCU hd hm,zCU hs hk];simp only[Option.bind_some];split at hv
 .rename_i h0;rw[if_pos h0];cases hv;exact⟨_,rfl,_,_,r,Aft.refl r,trivial,rfl⟩
 .rename_i h0;rw[if_neg h0];split at hv
  .rename_i o off len cap;simp only[Option.bind_eq_some_iff]at hv;obtain⟨cs,hc,hv⟩:=hv;obtain⟨σ',hw,rfl⟩:=Option.map_eq_some_iff.1 hv;obtain⟨h1,h2⟩:=zDC r hs hc;obtain⟨h',mP,r',a'⟩:=zDA r h2 hw;simp only[er];rw[h1];simp only[Option.bind_some];rw[mP];exact⟨_,rfl,_,_,r',a',trivial,rfl⟩
  .cases hv
theorem zIX(r:Rel ι Z σ h){E:PEnv}(he:EOK Z h σ.next E){op:IOp}{K:PV->PHeap->Prop}(hk:ep P op E σ K):eff P op (erE ι E) h (Up ι Z σ h K):=by
 have mk:∀{v:PV} {σ':PHeap} {ι':Nat->Nat} {Z':Nat->Prop} {h':AHeap},Rel ι' Z' σ' h'->Aft ι Z σ h ι' Z' σ' h'->VOK Z' h' σ'.next v->K v σ'->Up ι Z σ h K (er ι' v) h':=λa b c d=>⟨_,_,_,_,a,b,c,rfl,d⟩
 have nw:∀{cs:List PV} {v:PV} ,VOKs Z h σ.next cs->(∀ι',VOK Z (h.new ⟨true,ers ι cs⟩) (σ.next+1) v/\(ι' σ.next=h.next->er ι' v=er (putι ι σ.next h.next) v))->K v (σ.new cs)->Up ι Z σ h K (er (putι ι σ.next h.next) v) (h.new ⟨true,ers ι cs⟩):=λhc hv hk=>by
  obtain⟨r',a'⟩:=r.new hc;exact⟨_,_,_,_,r',a',(hv (putι ι σ.next h.next)).1,rfl,hk⟩
 cases op<;>simp only[ep]at hk<;>simp only[eff,<-er_pv]<;>(try (exact hk.elim))
 case alloc z=>
  obtain⟨r',a'⟩:=r.new (VOKs.ofAVs z);rw[ZJ]at r' a';exact⟨_,_,_,_,r',a',Nat.lt_succ_self _,by simp[er,putι],hk⟩
 case box x=>
  have hx:=(he.pv x).cells;obtain⟨r',a'⟩:=r.new hx;rw[zEo (he.pv x)];exact⟨by rw[zDv hx];exact hk.1,_,_,_,_,r',a',Nat.lt_succ_self _,by simp[er,putι],hk.2⟩
 case buildSl sz len z ps=>
  obtain⟨cs,hf,hk⟩:=hk
  have:=zBw (ι:=ι) (Z:=Z) (h:=h) (n:=σ.next) (λp hp=>by obtain⟨q,_,rfl⟩:=List.mem_map.1 hp;exact he.pv _) (VOKs.ofAVs (zeros z len)) hf
  rw[ZJ,List.map_map]at this;have h2:(List.map ((λp:Nat×Nat×PV=>(p.1,p.2.1,er ι p.2.2)) ∘ λp:Nat×Nat×IX=>(p.1,p.2.1,p.2.2.pv E)) ps)=ps.map λp=>(p.1,p.2.1,er ι (p.2.2.pv E)):=rfl;rw[h2]at this;obtain⟨r',a'⟩:=r.new this.2;exact⟨_,this.1,_,_,_,_,r',a',Nat.lt_succ_self _,by simp[er,putι],hk⟩
 case store k x v=>
  have hx:=he.pv x
  revert hk hx;generalize x.pv E=x';intro hk hx
  cases x'<;>simp only at hk
  rename_i s i;obtain⟨hl,σ',hw,hk⟩:=hk;obtain⟨h',mP,r',a'⟩:=zDA r (he.pv v).cells hw;simp only[er];rw[zEo (he.pv v)];exact⟨by rw[zm];exact hl,_,mP,.undef,_,_,_,r',a',trivial,rfl,hk⟩
 case makeSl sz bytes z l c=>
  revert hk;generalize l.pv E=l';generalize c.pv E=c';intro hk
  cases l'<;>cases c'<;>simp only at hk
  obtain⟨hc,hk⟩:=hk;simp only[er];rename_i k1 l k2 c;obtain⟨r',a'⟩:=r.new (VOKs.ofAVs (zeros z c.toNat));rw[ZJ]at r' a';exact⟨hc,_,_,_,_,r',a',Nat.lt_succ_self _,by simp[er,putι],hk⟩
 case appendMk sz bytes z s n=>
  have hs:=he.pv s
  revert hk hs;generalize s.pv E=s';generalize n.pv E=n';intro hk hs
  cases s'<;>cases n'<;>(try (simp only at hk;done))
  rename_i w1 a1 l1 c1 k2 n;cases a1 with
  |nils=>
   obtain⟨hc,hk⟩:=hk;simp only[er];obtain⟨r',a'⟩:=r.new (VOKs.ofAVs (zeros z n.toNat));rw[ZJ]at r' a';exact⟨hc,_,_,_,_,r',a',Nat.lt_succ_self _,by simp[er,putι],hk⟩
  |_=>simp only at hk
 case append sz bytes s x=>
  obtain⟨p,hp,hk⟩:=hk;obtain⟨q,hq,ι',Z',r',a',hv,e⟩:=zG6 r (he.pv s) (he.pv x) hp;exact⟨q,hq,_,_,_,_,r',a',hv,e,hk⟩
 case copy sz s x=>
  obtain⟨p,hp,hk⟩:=hk;obtain⟨q,hq,ι',Z',r',a',hv,e⟩:=zJK r (he.pv s) (he.pv x) hp;exact⟨q,hq,_,_,_,_,r',a',hv,e,hk⟩
 case call f args=>
  have:=hk ι Z h r (he.pvs args)
  rw[zGN]at this;simpa only[<-er_pv]using this
 case callV f args=>
  have hx:=he.pv f
  revert hk hx;generalize f.pv E=f';intro hk hx
  cases f'<;>simp only at hk
  rename_i f first bj
  obtain⟨h1,h2⟩:=hk
  have:=h2 ι Z h r ((hx.1.append (he.pvs args)).append hx.2)
  rw[ZU,ZU,zGN]at this;simp only[er];exact⟨h1,by simpa only[<-er_pv]using this⟩
end Go.Ab
set_option linter.unusedVariables false
set_option linter.unusedSimpArgs false
namespace Go.Ab
variable{ι:Nat->Nat}{Z Z':Nat->Prop}{h:AHeap}{σ σ':PHeap}{n n':Nat}
mutual
def Bel(n:Nat):PV->Prop
 | .ptr s _=>s<n
 | .sl s _ _ _=>s<n
 | .clo _ a b=>Bels n a/\Bels n b
 | .agg cs=>Bels n cs
 | .tup cs=>Bels n cs
 |_=>True
def Bels(n:Nat):List PV->Prop
 |[]=>True
 |c::cs=>Bel n c/\Bels n cs
end
theorem zE2:∀{cs:List PV},Bels n cs↔∀c∈cs,Bel n c
 |[]=>by simp[Bels]
 |c::cs=>by simp[Bels,zE2 (cs:=cs)]
mutual
theorem VOK.bel:∀{v:PV},VOK Z h n v->Bel n v
 | .undef,_ | .bool _,_ | .int _ _,_ | .str _,_ | .nilp,_ | .nilf,_ | .fz _ _ _ _,_ | .fp _ _,_=>trivial
 | .ptr _ _,hv=>hv
 | .sl _ _ _ _,hv=>hv
 | .clo _ a b,hv=>⟨VOKs.bel hv.1,VOKs.bel hv.2⟩
 | .agg cs,hv=>VOKs.bel (cs:=cs) hv
 | .tup cs,hv=>VOKs.bel (cs:=cs) hv
theorem VOKs.bel:∀{cs:List PV},VOKs Z h n cs->Bels n cs
 |[],_=>trivial
 |c::cs,hv=>⟨VOK.bel hv.1,VOKs.bel hv.2⟩
end
mutual
theorem VOK.of_bel:∀{v:PV},VOK Z h n v->Bel n' v->VOK Z h n' v
 | .undef,_,_ | .bool _,_,_ | .int _ _,_,_ | .str _,_,_ | .nilp,_,_ | .nilf,_,_=>trivial
 | .fz _ _ _ _,hv,_=>hv
 | .fp _ _,hv,_=>hv
 | .ptr _ _,_,hb=>hb
 | .sl _ _ _ _,_,hb=>hb
 | .clo _ a b,hv,hb=>⟨VOKs.of_bel hv.1 hb.1,VOKs.of_bel hv.2 hb.2⟩
 | .agg cs,hv,hb=>VOKs.of_bel (cs:=cs) hv hb
 | .tup cs,hv,hb=>VOKs.of_bel (cs:=cs) hv hb
theorem VOKs.of_bel:∀{cs:List PV},VOKs Z h n cs->Bels n' cs->VOKs Z h n' cs
 |[],_,_=>trivial
 |c::cs,hv,hb=>⟨VOK.of_bel hv.1 hb.1,VOKs.of_bel hv.2 hb.2⟩
end
mutual
theorem Bel.up(hn:n<=n'):∀{v:PV},Bel n v->Bel n' v
 | .undef,_ | .bool _,_ | .int _ _,_ | .str _,_ | .nilp,_ | .nilf,_ | .fz _ _ _ _,_ | .fp _ _,_=>trivial
 | .ptr _ _,hv=>Nat.lt_of_lt_of_le hv hn
 | .sl _ _ _ _,hv=>Nat.lt_of_lt_of_le hv hn
 | .clo _ a b,hv=>⟨Bels.up hn hv.1,Bels.up hn hv.2⟩
 | .agg cs,hv=>Bels.up (cs:=cs) hn hv
 | .tup cs,hv=>Bels.up (cs:=cs) hn hv
theorem Bels.up(hn:n<=n'):∀{cs:List PV},Bels n cs->Bels n' cs
 |[],_=>trivial
 |c::cs,hv=>⟨Bel.up hn hv.1,Bels.up hn hv.2⟩
end
structure PWF(σ:PHeap):Prop where
 wf:∀s,σ.next<=s->σ.obj s=none
 bel:∀s cs,σ.obj s=some cs->Bels σ.next cs
theorem Rel.pwf(r:Rel ι Z σ h):PWF σ:=⟨r.wf,λs cs hs=>(r.obj s cs hs).2.1.bel⟩
theorem PWF.lt(w:PWF σ){s:Nat}{cs:List PV}(hs:σ.obj s=some cs):s<σ.next:=by
 rcases Nat.lt_or_ge s σ.next with x|x
 .exact x
 .rw[w.wf s x]at hs;cases hs
def capOK:Cap->Nat->Bool
 | .known c,l=>decide (l<=c)
 | .grown _,_=>true
mutual
def sb(s o:Nat)(cs:List PV):PV->PV
 | .sl s' off l cap=>if s'=s/\off=0/\capOK cap l=true then .fz true (.sl o 0 l cap) l cs else .sl s' off l cap
 | .clo f a b=>.clo f (sbs s o cs a) (sbs s o cs b)
 | .agg vs=>.agg (sbs s o cs vs)
 | .tup vs=>.tup (sbs s o cs vs)
 |v=>v
def sbs(s o:Nat)(cs:List PV):List PV->List PV
 |[]=>[]
 |v::vs=>sb s o cs v::sbs s o cs vs
end
mutual
theorem er_sb{s o:Nat}{cs:List PV}(ho:o=ι s):∀v:PV,er ι (sb s o cs v)=er ι v
 | .undef | .bool _ | .int _ _ | .str _ | .nilp | .nilf | .fz _ _ _ _ | .fp _ _ | .ptr _ _=>rfl
 | .sl s' off l cap=>by
  simp only[sb];split
  .rename_i hc;simp only[er];rw[hc.1,hc.2.1,ho]
  .rfl
 | .clo f a b=>by simp only[sb,er,QO ho a,QO ho b]
 | .agg a=>by simp only[sb,er,QO ho a]
 | .tup a=>by simp only[sb,er,QO ho a]
theorem QO{s o:Nat}{cs:List PV}(ho:o=ι s):∀vs:List PV,ers ι (sbs s o cs vs)=ers ι vs
 |[]=>rfl
 |v::vs=>by simp only[sbs,ers,er_sb ho v,QO ho vs]
end
mutual
theorem VOK.sb{s o:Nat}{cs:List PV}(hz:Z o)(ho:h.obj o=some ⟨true,ers idz cs⟩)(hc:VOKs Z h 0 cs):∀{v:PV},VOK Z h n v->VOK Z h n (sb s o cs v)
 | .undef,_ | .bool _,_ | .int _ _,_ | .str _,_ | .nilp,_ | .nilf,_=>trivial
 | .fz _ _ _ _,hv | .fp _ _,hv | .ptr _ _,hv=>hv
 | .sl s' off l cap,hv=>by
  simp only[Go.Ab.sb];split
  .rename_i oB;refine⟨.inr ⟨o,0,cap,rfl,hz,.inr (zCT ho rfl),λc hk=>?_,λ_=>⟨rfl,ho⟩⟩,hc⟩;subst hk;simpa [capOK]using oB.2.2
  .exact hv
 | .clo f a b,hv=>⟨VOKs.sbs hz ho hc hv.1,VOKs.sbs hz ho hc hv.2⟩
 | .agg a,hv=>VOKs.sbs (vs:=a) hz ho hc hv
 | .tup a,hv=>VOKs.sbs (vs:=a) hz ho hc hv
theorem VOKs.sbs{s o:Nat}{cs:List PV}(hz:Z o)(ho:h.obj o=some ⟨true,ers idz cs⟩)(hc:VOKs Z h 0 cs):∀{vs:List PV},VOKs Z h n vs->VOKs Z h n (sbs s o cs vs)
 |[],_=>trivial
 |v::vs,hv=>⟨VOK.sb hz ho hc hv.1,VOKs.sbs hz ho hc hv.2⟩
end
theorem Rel.freeze(r:Rel ι Z σ h){s:Nat}{cs:List PV}(hs:σ.obj s=some cs)(hb:Bels 0 cs):
  (Rel ι (λo=>Z o\/o=ι s) ((σ.kill s).up (max σ.top (ι s+1))) h)/\VOKs Z h 0 cs/\h.obj (ι s)=some ⟨true,ers idz cs⟩/\¬Z (ι s):=by
 obtain⟨q1,q2,q3⟩:=r.obj s cs hs;have cD:VOKs Z h 0 cs:=q2.of_bel hb;have ah:=r.hwf.lt q1;have conv:∀{t:Nat} {a:List PV},(σ.kill s).obj t=some a->t≠s/\σ.obj t=some a:=λ{t a} ht=>by
  simp only[PHeap.kill]at ht;split at ht
  .cases ht
  .exact⟨by assumption,ht⟩
 refine⟨⟨r.hwf,?_,?_,λt ht=>?_,λt ds ht=>?_,λt t' ds xH ht db he=>r.inj t t' ds xH (conv ht).2 (conv db).2 he⟩,cD,by rw[<-zA7 cD];exact q1,q3⟩
 .rintro o (ho|rfl)
  .exact r.zlt o ho
  .exact ah
 .have:=r.top
  simp only[PHeap.up];omega
 .simp only[PHeap.kill,PHeap.up];split
  .rfl
  .exact r.wf t ht
 .obtain⟨e,ht⟩:=conv ht
  obtain⟨p1,p2,p3⟩:=r.obj t ds ht;refine⟨p1,p2.mono (λo ho=>⟨.inl ho,rfl⟩) (vM _),?_⟩
  rintro(hz|hz)
  .exact p3 hz
  .exact e (r.inj t s ds cs ht hs hz)
def PHeap.sub(σ:PHeap)(s o:Nat)(cs:List PV):PHeap:=⟨σ.next,σ.top,λt=>(σ.obj t).map (sbs s o cs)⟩
theorem Rel.sub(r:Rel ι Z σ h){s o:Nat}{cs:List PV}(hs:o=ι s)(hz:Z o)(ho:h.obj o=some ⟨true,ers idz cs⟩)(hc:VOKs Z h 0 cs):Rel ι Z (σ.sub s o cs) h:=by
 have conv:∀{t:Nat} {a:List PV},(σ.sub s o cs).obj t=some a->∃b,σ.obj t=some b/\a=sbs s o cs b:=λ{t a} ht=>by
  simp only[PHeap.sub,Option.map_eq_some_iff]at ht;obtain⟨b,h1,h2⟩:=ht;exact⟨b,h1,h2.symm⟩
 refine⟨r.hwf,r.zlt,r.top,λt ht=>by simp only[PHeap.sub];rw[r.wf t ht];rfl,λt ds ht=>?_,λt t' ds xH ht db he=>?_⟩
 .obtain⟨b,h1,rfl⟩:=conv ht
  obtain⟨p1,p2,p3⟩:=r.obj t b h1;exact⟨by rw[QO hs];exact p1,VOKs.sbs hz ho hc p2,p3⟩
 .obtain⟨b,h1,_⟩:=conv ht
  obtain⟨b',lO,_⟩:=conv db;exact r.inj t t' b b' h1 lO he
mutual
theorem zQb{s o:Nat}{cs:List PV}:∀{n:Nat} {v:PV},n<=s->Bel n v->sb s o cs v=v
 |n,.undef,_,_|n,.bool _,_,_|n,.int _ _,_,_|n,.str _,_,_|n,.nilp,_,_|n,.nilf,_,_|n,.fz _ _ _ _,_,_|n,.fp _ _,_,_|n,.ptr _ _,_,_=>rfl
 |n,.sl s' _ _ _,hn,hb=>by
  have:s'<n:=hb
  simp only[sb];rw[if_neg (by omega)]
 |n,.clo _ a b,hn,hb=>by simp only[sb,QL hn hb.1,QL hn hb.2]
 |n,.agg a,hn,hb=>by simp only[sb,QL (vs:=a) hn hb]
 |n,.tup a,hn,hb=>by simp only[sb,QL (vs:=a) hn hb]
theorem QL{s o:Nat}{cs:List PV}:∀{n:Nat} {vs:List PV},n<=s->Bels n vs->sbs s o cs vs=vs
 |n,[],_,_=>rfl
 |n,v::vs,hn,hb=>by simp only[sbs,zQb hn hb.1,QL hn hb.2]
end
theorem zFD{s o:Nat}{cs:List PV}:∀(a b:List PV),sbs s o cs (a++b)=sbs s o cs a++sbs s o cs b
 |[],b=>rfl
 |v::a,b=>by simp only[List.cons_append,sbs,zFD a b]
inductive GL(I:List PV->PHeap->Prop):List PV->PHeap->Prop where
 |here {vs:List PV} {h:PHeap} (k:I vs h):GL I vs h
 |fz {vs:List PV} {h:PHeap} (s:Nat) (cs:List PV) (hs:h.obj s=some cs) (hb:Bels 0 cs) (k:∀o,GL I (sbs s o cs vs) (h.kill s)):GL I vs h
 |fzh {vs:List PV} {h:PHeap} (s:Nat) (cs:List PV) (hs:h.obj s=some cs) (hb:Bels 0 cs) (k:∀o,GL I (sbs s o cs vs) ((h.kill s).sub s o cs)):GL I vs h
theorem GL.sound{I:List PV->PHeap->Prop}{vs:List PV}{σ:PHeap}(g:GL I vs σ):∀{ι:Nat->Nat} {Z:Nat->Prop} {h:AHeap},Rel ι Z σ h->VOKs Z h σ.next vs->
  ∃Z' σ' jR,Rel ι Z' σ' h/\Aft ι Z σ h ι Z' σ' h/\VOKs Z' h σ'.next jR/\ers ι jR=ers ι vs/\I jR σ':=by
 induction g with
 |here k=>intro ι Z h r hv;exact⟨Z,_,_,r,Aft.refl r,hv,rfl,k⟩
 |fz s cs hs hb k ih=>
  rename_i vs σ;intro ι Z h r hv;obtain⟨r',cD,ho,hz⟩:=r.freeze hs hb;have cE:∀o,Z o->(Z o\/o=ι s)/\h.obj o=h.obj o:=λo ho=>⟨.inl ho,rfl⟩
  have r2:Rel ι (λo=>Z o\/o=ι s) (σ.kill s) h:=⟨r'.hwf,r'.zlt,by have:=r.top;exact this,r'.wf,r'.obj,r'.inj⟩
  obtain⟨Z',σ',jR,q1,q2,q3,q4,q5⟩:=ih (ι s) r2 (VOKs.sbs (.inr rfl) ho (cD.mono cE (vM _)) (hv.mono cE (vM _)));have ha:Aft ι Z σ h ι (λo=>Z o\/o=ι s) (σ.kill s) h:=⟨vM _,vM _,λ_ _=>rfl,cE,λt ht hn=>by simp only[PHeap.kill];split;rfl;exact hn,λt ds ht hd=>by
   simp only[PHeap.kill]at hd;split at hd;cases hd;exact absurd (r.none_lt hd) (by omega)⟩
  exact⟨Z',σ',jR,q1,ha.trans q2,q3,q4.trans (QO rfl vs),q5⟩
 |fzh s cs hs hb k ih=>
  rename_i vs σ;intro ι Z h r hv;obtain⟨r',cD,ho,hz⟩:=r.freeze hs hb;have cE:∀o,Z o->(Z o\/o=ι s)/\h.obj o=h.obj o:=λo ho=>⟨.inl ho,rfl⟩
  have r2:Rel ι (λo=>Z o\/o=ι s) (σ.kill s) h:=⟨r'.hwf,r'.zlt,by have:=r.top;exact this,r'.wf,r'.obj,r'.inj⟩
  have r3:=r2.sub (s:=s) rfl (.inr rfl) ho (cD.mono cE (vM _));obtain⟨Z',σ',jR,q1,q2,q3,q4,q5⟩:=ih (ι s) r3 (VOKs.sbs (.inr rfl) ho (cD.mono cE (vM _)) (hv.mono cE (vM _)));have ha:Aft ι Z σ h ι (λo=>Z o\/o=ι s) ((σ.kill s).sub s (ι s) cs) h:=⟨vM _,vM _,λ_ _=>rfl,cE,λt ht hn=>by simp only[PHeap.kill,PHeap.sub];split;rfl;rw[hn];rfl,λt ds ht hd=>by
   simp only[PHeap.kill,PHeap.sub]at hd;split at hd;cases hd;cases rI:σ.obj t with
   |none=>rw[rI]at hd;cases hd
   |some b=>exact absurd (r.none_lt rI) (by omega)⟩
  exact⟨Z',σ',jR,q1,ha.trans q2,q3,q4.trans (QO rfl vs),q5⟩
end Go.Ab
set_option linter.unusedVariables false
set_option linter.unusedSimpArgs false
namespace Go.Ab
variable{P:Program}{ι ι':Nat->Nat}{Z Z':Nat->Prop}{h h':AHeap}{σ σ':PHeap}{n n':Nat}
def Qu(v:PV)(b:Bool)(x:Option PV):Option PV:=
 match v with
 | .bool c=>if c=b then x else some (.tup [])
 | .tup []=>some (.tup [])
 |_=>none
def Zt(v:PV)(b:Bool)(x y:Prop):Prop:=
 match v with
 | .bool c=>if c=b then x else y
 | .tup []=>y
 |_=>False
def Zv(v:PV)(a b:Prop):Prop:=
 match v with
 | .bool t=>if t=true then a else b
 |_=>False
def gqp(nb nr:Nat)(it:II)(e:PEnv)(σ:PHeap):Option PV:=
 match it.guard with
 |none=>qp nb nr it.op e σ
 |some (t,b)=>Qu (e t) b (qp nb nr it.op e σ)
def gep(P:Program)(it:II)(e:PEnv)(σ:PHeap)(K:PV->PHeap->Prop):Prop:=
 match it.guard with
 |none=>ep P it.op e σ K
 |some (t,b)=>Zt (e t) b (ep P it.op e σ K) (K (.tup []) σ)
def RVp(P:Program):List II->PEnv->PHeap->(PEnv->PHeap->Prop)->Prop
 |[],e,h,K=>K e h
 |it::r,e,h,K=>match it.q with
  |true=>optK (gqp 0 0 it e h) λv=>RVp P r (e.put it.dst v) h K
  |false=>gep P it e h λv h'=>RVp P r (e.put it.dst v) h' K
structure RecP where
 idx:Nat
 agg:Bool
 n:Nat
 x:PV
 v:PV
def zA8(g:Option (Nat×Bool))(e:PEnv):Bool:=
 match g with
 |none=>true
 |some (t,b)=>match e t with
  | .bool c=>decide (c=b)
  |_=>false
def qJ(it:DI)(e:PEnv)(v:PV):List RecP:=
 match it.op with
 | .load agg n x=>if zA8 it.guard e=true then [⟨it.idx,agg,n,x.pv e,v⟩]else []
 |_=>[]
def zAL(chk:List Nat):List RecP->PHeap->Prop
 |[],_=>True
 |r::rs,h=>(if chk.contains r.idx=true then pldv r.agg r.n r.x h=some r.v else True)/\zAL chk rs h
def DVp(P:Program)(nb nr:Nat):List DI->List RecP->PEnv->PHeap->(PEnv->PHeap->Prop)->Prop
 |[],_,e,h,K=>K e h
 |it::r,recs,e,h,K=>match it.q with
  |true=>optK (gqp nb nr it.toII e h) λv=>DVp P nb nr r (qJ it e v++recs) (e.put it.dst v) h K
  |false=>gep P it.toII e h λv h'=>zAL it.chk recs h'/\DVp P nb nr r recs (e.put it.dst v) h' K
def vp(P:Program):IC->(Exit->PEnv->PHeap->Prop)->PEnv->PHeap->Prop
 | .skip,Q,e,h=>Q .normal e h
 | .region S aQ,Q,e,h=>RVp P aQ e h λe' h'=>Q .normal (PEnv.mk S (S.map e')) h'
 | .draw S zs aQ,Q,e,h=>DVp P h.next zs.length aQ [] e (h.news zs) λe' h'=>Q .normal (PEnv.mk S (S.map e')) h'
 | .seq a b,Q,e,h=>vp P a (λx e' h'=>match x with | .normal=>vp P b Q e' h'|x=>Q x e' h') e h
 | .cond c a b,Q,e,h=>Zv (c.pv e) (vp P a Q e h) (vp P b Q e h)
 | .block id c,Q,e,h=>vp P c (λx e' h'=>match x with | .exit ja=>if ja=id then Q .normal e' h' else Q (.exit ja) e' h'|x=>Q x e' h') e h
 | .loop S c,Q,e,h=>∃I:Nat->List PV->PHeap->Prop,(∃n,GL (I n) (S.map e) h)/\
   ∀n vs h,I n vs h->vp P c (λx e' h'=>match x with | .normal=>∃n',n'<n/\GL (I n') (S.map e') h'|x=>Q x e' h') (PEnv.mk S vs) h
 | .exit id,Q,e,h=>Q (.exit id) e h
 | .ret,Q,e,h=>Q .ret e h
def Zc:List IRes->PEnv->PHeap->Option (List PV)
 |[],_,_=>some []
 | .tmp t::r,e,h=>(Zc r e h).map λvs=>e t::vs
 | .cell t agg n::r,e,h=>(pldv agg n (e t) h).bind λv=>(Zc r e h).map λvs=>v::vs
def packP:List PV->PV
 |[v]=>v
 |vs=>.tup vs
def retP(res:List IRes)(Q:PV->PHeap->Prop):Exit->PEnv->PHeap->Prop
 | .normal,e,h=>optK (Zc res e h) λvs=>Q (packP vs) h
 | .ret,e,h=>optK (Zc res e h) λvs=>Q (packP vs) h
 |_,_,_=>False
theorem zKe{op:IOp}{e:PEnv}{K K':PV->PHeap->Prop}(hm:∀v h',K v h'->K' v h')(hk:ep P op e σ K):ep P op e σ K':=by
 cases op<;>simp only[ep]at hk ⊢
 case alloc z=>exact hm _ _ hk
 case box x=>exact⟨hk.1,hm _ _ hk.2⟩
 case buildSl a b c ps=>obtain⟨x,y,z⟩:=hk;exact⟨x,y,hm _ _ z⟩
 case store n x v=>
  split at hk
  .obtain⟨x,y,z,u⟩:=hk;exact⟨x,y,z,hm _ _ u⟩
  .exact hk
 case makeSl a b z l c=>
  split at hk
  .exact⟨hk.1,hm _ _ hk.2⟩
  .exact hk
 case appendMk a b z l c=>
  split at hk
  .exact⟨hk.1,hm _ _ hk.2⟩
  .exact hk
 case append a b s x=>obtain⟨x,y,z⟩:=hk;exact⟨x,y,hm _ _ z⟩
 case copy a d s=>obtain⟨x,y,z⟩:=hk;exact⟨x,y,hm _ _ z⟩
 case call f a=>exact hk.mono hm
 case callV f a=>
  split at hk
  .exact⟨hk.1,hk.2.mono hm⟩
  .exact hk
theorem zIR{it:II}{e:PEnv}{K K':PV->PHeap->Prop}(hm:∀v h',K v h'->K' v h')(hk:gep P it e σ K):gep P it e σ K':=by
 obtain⟨dst,op,q,guard⟩:=it;cases guard with
 |none=>exact zKe hm hk
 |some g=>
  obtain⟨t,b⟩:=g;simp only[gep,Zt]at hk ⊢;split at hk
  .split at hk
   .rename_i h;rw[if_pos h];exact zKe hm hk
   .rename_i h;rw[if_neg h];exact hm _ _ hk
  .exact hm _ _ hk
  .exact hk
theorem zEz{K K':PEnv->PHeap->Prop}(hm:∀e h',K e h'->K' e h'):∀(aQ:List II) {e:PEnv} {σ:PHeap},RVp P aQ e σ K->RVp P aQ e σ K'
 |[],e,σ,hk=>hm _ _ hk
 |it::aQ,e,σ,hk=>by
  simp only[RVp]at hk ⊢;split at hk
  .obtain⟨v,hv,hk⟩:=hk;exact⟨v,hv,zEz hm aQ hk⟩
  .exact zIR (λv h' k=>zEz hm aQ k) hk
theorem zE1{nb nr:Nat}{K K':PEnv->PHeap->Prop}(hm:∀e h',K e h'->K' e h'):∀(aQ:List DI) {recs:List RecP} {e:PEnv} {σ:PHeap},DVp P nb nr aQ recs e σ K->DVp P nb nr aQ recs e σ K'
 |[],_,e,σ,hk=>hm _ _ hk
 |it::aQ,_,e,σ,hk=>by
  simp only[DVp]at hk ⊢;split at hk
  .obtain⟨v,hv,hk⟩:=hk;exact⟨v,hv,zE1 hm aQ hk⟩
  .exact zIR (λv h' k=>⟨k.1,zE1 hm aQ k.2⟩) hk
theorem zAN:∀(c:IC) {Q Q':Exit->PEnv->PHeap->Prop} {e:PEnv} {σ:PHeap},(∀x e h,Q x e h->Q' x e h)->vp P c Q e σ->vp P c Q' e σ
 | .skip,Q,Q',e,σ,hm,hk=>hm _ _ _ hk
 | .exit id,Q,Q',e,σ,hm,hk=>hm _ _ _ hk
 | .ret,Q,Q',e,σ,hm,hk=>hm _ _ _ hk
 | .region S aQ,Q,Q',e,σ,hm,hk=>zEz (λe h k=>hm _ _ _ k) aQ hk
 | .draw S zs aQ,Q,Q',e,σ,hm,hk=>zE1 (λe h k=>hm _ _ _ k) aQ hk
 | .seq a b,Q,Q',e,σ,hm,hk=>zAN a (λx e h k=>by cases x<;>first|exact zAN b hm k|exact hm _ _ _ k) hk
 | .cond c a b,Q,Q',e,σ,hm,hk=>by
  simp only[vp,Zv]at hk ⊢;split at hk
  .split at hk
   .rename_i h;rw[if_pos h];exact zAN a hm hk
   .rename_i h;rw[if_neg h];exact zAN b hm hk
  .exact hk
 | .block id c,Q,Q',e,σ,hm,hk=>zAN c (λx e h k=>by
   cases x with
   |exit ja=>
    dsimp only at k ⊢;split at k
    .rename_i h;rw[if_pos h];exact hm _ _ _ k
    .rename_i h;rw[if_neg h];exact hm _ _ _ k
   |_=>exact hm _ _ _ k) hk
 | .loop S c,Q,Q',e,σ,hm,⟨I,h0,hr⟩=>⟨I,h0,λn vs h hI=>zAN c (λx e h k=>by cases x<;>first|exact k|exact hm _ _ _ k) (hr n vs h hI)⟩
def Rest(ι:Nat->Nat)(Z:Nat->Prop)(σ:PHeap)(h:AHeap)(K:PEnv->PHeap->Prop)(K1:Env->AHeap->Prop):Prop:=
 ∀(E':PEnv) (σ':PHeap) (ι':Nat->Nat) (Z':Nat->Prop) (h':AHeap),Rel ι' Z' σ' h'->Aft ι Z σ h ι' Z' σ' h'->EOK Z' h' σ'.next E'->K E' σ'->K1 (erE ι' E') h'
theorem Rest.later{σ':PHeap}{K:PEnv->PHeap->Prop}{K1:Env->AHeap->Prop}(c:Rest ι Z σ h K K1)(a:Aft ι Z σ h ι' Z' σ' h'):Rest ι' Z' σ' h' K K1:=
 λxN σ'' ι'' si dB r b e k=>c xN σ'' ι'' si dB r (a.trans b) e k
theorem zGs(r:Rel ι Z σ h){E:PEnv}(he:EOK Z h σ.next E){nb nr nb1:Nat}(cX:RevOK ι σ nb nr nb1){it:II}{v:PV}(hv:gqp nb nr it E σ=some v):
  gq nb1 it (erE ι E) h=some (er ι v)/\VOK Z h σ.next v:=by
 obtain⟨dst,op,q,guard⟩:=it;cases guard with
 |none=>exact zHc r he cX hv
 |some g=>
  obtain⟨t,b⟩:=g;simp only[gqp,gq,erE]at hv ⊢;cases ht:E t with
  |bool c=>
   rw[ht]at hv;simp only[Qu]at hv;simp only[er];split at hv
   .rename_i hc;rw[if_pos hc];exact zHc r he cX hv
   .rename_i hc;rw[if_neg hc];cases hv;exact⟨rfl,trivial⟩
  |tup cs=>
   rw[ht]at hv;cases cs with
   |nil=>cases hv;exact⟨rfl,trivial⟩
   |cons x cs=>simp only[Qu,reduceCtorEq]at hv
  |_=>rw[ht]at hv;simp only[Qu,reduceCtorEq]at hv
theorem zGt(r:Rel ι Z σ h){E:PEnv}(he:EOK Z h σ.next E){it:II}{K:PV->PHeap->Prop}(hk:gep P it E σ K):ge P it (erE ι E) h (Up ι Z σ h K):=by
 obtain⟨dst,op,q,guard⟩:=it;cases guard with
 |none=>exact zIX r he hk
 |some g=>
  obtain⟨t,b⟩:=g;simp only[gep,ge,erE]at hk ⊢;cases ht:E t with
  |bool c=>
   rw[ht]at hk;simp only[Zt]at hk;simp only[er];split at hk
   .rename_i hc;rw[if_pos hc];exact zIX r he hk
   .rename_i hc;rw[if_neg hc];exact⟨.tup [],σ,ι,Z,r,Aft.refl r,trivial,rfl,hk⟩
  |tup cs=>
   rw[ht]at hk;cases cs with
   |nil=>exact⟨.tup [],σ,ι,Z,r,Aft.refl r,trivial,rfl,hk⟩
   |cons x cs=>simp only[Zt]at hk
  |_=>rw[ht]at hk;simp only[Zt]at hk
theorem zDb:∀(aQ:List II) {ι:Nat->Nat} {Z:Nat->Prop} {σ:PHeap} {h:AHeap} {E:PEnv} {K:PEnv->PHeap->Prop} {K1:Env->AHeap->Prop},Rel ι Z σ h->EOK Z h σ.next E->RVp P aQ E σ K->Rest ι Z σ h K K1->RV P aQ (erE ι E) h K1
 |[],ι,Z,σ,h,E,K,K1,r,he,hk,hr=>hr E σ ι Z h r (Aft.refl r) he hk
 |it::aQ,ι,Z,σ,h,E,K,K1,r,he,hk,hr=>by
  simp only[RVp,RV]at hk ⊢;split at hk
  .rename_i hq;simp only[hq];obtain⟨v,hv,hk⟩:=hk;obtain⟨h1,h2⟩:=zGs r he (nb1:=0) (λk hk=>absurd hk (Nat.not_lt_zero _)) hv;refine⟨_,h1,?_⟩
   have:=zDb aQ r (he.put h2 it.dst) hk hr
   rw[zDx]at this;exact this
  .rename_i hq;simp only[hq];refine zDu ?_ (zGt r he hk)
   rintro v h' ⟨pv,σ',ι',Z',r',a',hv,rfl,bZ⟩
   have:=zDb aQ r' ((a'.eok he).put hv it.dst) bZ (hr.later a')
   rw[zDx,a'.erE he]at this;exact this
def erR(ι:Nat->Nat)(r:RecP):Rec:=⟨r.idx,r.agg,r.n,er ι r.x,er ι r.v⟩
def ROK(Z:Nat->Prop)(h:AHeap)(n:Nat)(rs:List RecP):Prop:=∀r∈rs,VOK Z h n r.x/\VOK Z h n r.v
theorem Aft.rok{rs:List RecP}(a:Aft ι Z σ h ι' Z' σ' h')(hr:ROK Z h σ.next rs):ROK Z' h' σ'.next rs:=λr hm=>⟨a.vok (hr r hm).1,a.vok (hr r hm).2⟩
theorem Aft.erR{rs:List RecP}(a:Aft ι Z σ h ι' Z' σ' h')(hr:ROK Z h σ.next rs):rs.map (Go.Ab.erR ι')=rs.map (Go.Ab.erR ι):=
 List.map_congr_left λr hm=>by simp only[Go.Ab.erR];rw[a.er (hr r hm).1,a.er (hr r hm).2]
theorem zI8{E:PEnv}{it:DI}{v:PV}{nb nr:Nat}(hv:gqp nb nr it.toII E σ=some v):recOf it (erE ι E) (er ι v)=(qJ it E v).map (erR ι):=by
 obtain⟨⟨dst,op,q,guard⟩,idx,chk⟩:=it;have hw:QY guard (erE ι E)=zA8 guard E:=by
  cases guard with
  |none=>rfl
  |some g=>
   obtain⟨t,b⟩:=g;simp only[gqp]at hv;simp only[QY,zA8,erE];cases ht:E t with
   |bool c=>rfl
   |tup cs=>rfl
   |_=>rw[ht]at hv;simp only[Qu,reduceCtorEq]at hv
 cases op<;>simp only[recOf,qJ]<;>try rfl
 rw[hw];split
 .simp only[List.map_cons,List.map_nil,erR,er_pv]
 .rfl
theorem zMO(r:Rel ι Z σ h){E:PEnv}(he:EOK Z h σ.next E){it:DI}{v:PV}(hv:VOK Z h σ.next v):ROK Z h σ.next (qJ it E v):=by
 unfold qJ;split
 .split
  .intro r hr;simp only[List.mem_singleton]at hr;subst hr;exact⟨he.pv _,hv⟩
  .intro r hr;simp at hr
 .intro r hr;simp at hr
theorem zDa(r:Rel ι Z σ h){chk:List Nat}:∀{rs:List RecP},ROK Z h σ.next rs->zAL chk rs σ->RecOK chk (rs.map (erR ι)) h
 |[],_,_=>trivial
 |x::rs,hr,hk=>by
  simp only[List.map_cons,zAL,RecOK]at hk ⊢;refine⟨?_,zDa r (λy hy=>hr y (by simp[hy])) hk.2⟩;have h1:=hk.1;by_cases hc:chk.contains x.idx=true
  .rw[if_pos hc]at h1;rw[if_pos (show chk.contains (erR ι x).idx=true from hc)];exact(zCV r (hr x (by simp)).1 h1).1
  .rw[if_neg (show ¬chk.contains (erR ι x).idx=true from hc)];trivial
theorem RevOK.later{nb nr nb1:Nat}(hv:RevOK ι σ nb nr nb1)(a:Aft ι Z σ h ι' Z' σ' h'):RevOK ι' σ' nb nr nb1:=
 λk hk=>⟨Nat.lt_of_lt_of_le (hv k hk).1 a.next,by rw[a.inj _ (hv k hk).1];exact(hv k hk).2⟩
theorem zDg{nb nr nb1:Nat}:∀(aQ:List DI) {recs:List RecP} {ι:Nat->Nat} {Z:Nat->Prop} {σ:PHeap} {h:AHeap} {E:PEnv} {K:PEnv->PHeap->Prop} {K1:Env->AHeap->Prop},RevOK ι σ nb nr nb1->Rel ι Z σ h->EOK Z h σ.next E->ROK Z h σ.next recs->
  DVp P nb nr aQ recs E σ K->Rest ι Z σ h K K1->DV P nb1 aQ (recs.map (erR ι)) (erE ι E) h K1
 |[],recs,ι,Z,σ,h,E,K,K1,hv,r,he,kB,hk,hr=>hr E σ ι Z h r (Aft.refl r) he hk
 |it::aQ,recs,ι,Z,σ,h,E,K,K1,hv,r,he,kB,hk,hr=>by
  simp only[DVp,DV]at hk ⊢;split at hk
  .rename_i hq;simp only[hq];obtain⟨v,nQ,hk⟩:=hk;obtain⟨h1,h2⟩:=zGs r he hv nQ;refine⟨_,h1,?_⟩
   have:=zDg aQ hv r (he.put h2 it.dst) (recs:=qJ it E v++recs) (λx hx=>(List.mem_append.1 hx).elim (λhx=>zMO r he h2 x hx) (λhx=>kB x hx)) hk hr
   rw[zDx,List.map_append,<-zI8 nQ]at this;exact this
  .rename_i hq;simp only[hq];refine zDu ?_ (zGt r he hk)
   rintro v h' ⟨pv,σ',ι',Z',r',a',nQ,rfl,fe,bV⟩
   have h3:=zDa r' (a'.rok kB) fe;rw[a'.erR kB]at h3;refine⟨h3,?_⟩
   have:=zDg aQ (hv.later a') r' ((a'.eok he).put nQ it.dst) (a'.rok kB) bV (hr.later a')
   rw[zDx,a'.erE he,a'.erR kB]at this;exact this
theorem zH2:∀(zs:List (List AV)) {ι:Nat->Nat} {σ:PHeap} {h:AHeap},Rel ι Z σ h->
  ∃ι',Rel ι' Z (σ.news zs) (h.news zs)/\Aft ι Z σ h ι' Z (σ.news zs) (h.news zs)/\(σ.news zs).next=σ.next+zs.length/\∀k,k<zs.length->ι' (σ.next+k)=h.next+k
 |[],ι,σ,h,r=>⟨ι,r,Aft.refl r,rfl,λk hk=>absurd hk (Nat.not_lt_zero _)⟩
 |z::zs,ι,σ,h,r=>by
  obtain⟨r1,a1⟩:=r.new (cs:=ofAVs z) (VOKs.ofAVs z);rw[ZJ]at r1 a1;obtain⟨ι',r2,a2,h1,h2⟩:=zH2 zs r1;refine⟨ι',r2,a1.trans a2,?_,λk hk=>?_⟩
  .show((σ.new (ofAVs z)).news zs).next=_
   rw[h1];simp only[PHeap.new,List.length_cons];omega
  .cases k with
   |zero=>
    rw[Nat.add_zero,Nat.add_zero,a2.inj _ (by simp[PHeap.new])];simp[putι]
   |succ k=>
    have:=h2 k (by simpa using hk)
    simp only[PHeap.new,AHeap.new]at this;rw[show σ.next+(k+1)=σ.next+1+k by omega,this];omega
def RestC(ι:Nat->Nat)(Z:Nat->Prop)(σ:PHeap)(h:AHeap)(Q:Exit->PEnv->PHeap->Prop)(Q1:Exit->Env->AHeap->Prop):Prop:=
 ∀(x:Exit) (E':PEnv) (σ':PHeap) (ι':Nat->Nat) (Z':Nat->Prop) (h':AHeap),Rel ι' Z' σ' h'->Aft ι Z σ h ι' Z' σ' h'->EOK Z' h' σ'.next E'->Q x E' σ'->Q1 x (erE ι' E') h'
theorem RestC.later{σ':PHeap}{Q:Exit->PEnv->PHeap->Prop}{Q1:Exit->Env->AHeap->Prop}(c:RestC ι Z σ h Q Q1)(a:Aft ι Z σ h ι' Z' σ' h'):RestC ι' Z' σ' h' Q Q1:=
 λx xN σ'' ι'' si dB r b e k=>c x xN σ'' ι'' si dB r (a.trans b) e k
theorem Qo:∀(c:IC) {ι:Nat->Nat} {Z:Nat->Prop} {σ:PHeap} {h:AHeap} {E:PEnv} {Q:Exit->PEnv->PHeap->Prop} {Q1:Exit->Env->AHeap->Prop},Rel ι Z σ h->EOK Z h σ.next E->vp P c Q E σ->RestC ι Z σ h Q Q1->vc P c Q1 (erE ι E) h
 | .skip,ι,Z,σ,h,E,Q,Q1,r,he,hk,hr=>hr .normal E σ ι Z h r (Aft.refl r) he hk
 | .exit id,ι,Z,σ,h,E,Q,Q1,r,he,hk,hr=>hr (.exit id) E σ ι Z h r (Aft.refl r) he hk
 | .ret,ι,Z,σ,h,E,Q,Q1,r,he,hk,hr=>hr .ret E σ ι Z h r (Aft.refl r) he hk
 | .region S aQ,ι,Z,σ,h,E,Q,Q1,r,he,hk,hr=>by
  refine zDb aQ r he hk ?_;intro E' σ' ι' Z' h' r' a' e' k'
  have:=hr .normal _ σ' ι' Z' h' r' a' (EOK.mk (e'.map S)) k'
  rw[zDN,zDw]at this;exact this
 | .draw S zs aQ,ι,Z,σ,h,E,Q,Q1,r,he,hk,hr=>by
  obtain⟨ι1,r1,a1,h1,h2⟩:=zH2 zs r
  have:=zDg (nb1:=h.next) (K1:=λe' h'=>Q1 .normal (Env.mk S (S.map e')) h') aQ (recs:=[]) (λk hk=>⟨by rw[h1];omega,h2 k hk⟩) r1 (a1.eok he) (λx hx=>by simp at hx) hk ?_
  .rw[a1.erE he]at this;exact this
  .intro E' σ' ι' Z' h' r' a' e' k'
   have:=hr .normal _ σ' ι' Z' h' r' (a1.trans a') (EOK.mk (e'.map S)) k'
   rw[zDN,zDw]at this;exact this
 | .seq a b,ι,Z,σ,h,E,Q,Q1,r,he,hk,hr=>by
  refine Qo a r he hk ?_;intro x E' σ' ι' Z' h' r' a' e' k';cases x with
  |normal=>exact Qo b r' e' k' (hr.later a')
  |exit id=>exact hr _ _ _ _ _ _ r' a' e' k'
  |goto l=>exact hr _ _ _ _ _ _ r' a' e' k'
  |ret=>exact hr _ _ _ _ _ _ r' a' e' k'
  |panic ch=>exact hr _ _ _ _ _ _ r' a' e' k'
  |outgrown=>exact hr _ _ _ _ _ _ r' a' e' k'
 | .cond c a b,ι,Z,σ,h,E,Q,Q1,r,he,hk,hr=>by
  simp only[vp,vc,<-er_pv]at hk ⊢;cases hc:c.pv E<;>rw[hc]at hk<;>simp only[Zv]at hk
  simp only[er];split at hk
  .rename_i ht;rw[if_pos ht];exact Qo a r he hk hr
  .rename_i ht;rw[if_neg ht];exact Qo b r he hk hr
 | .block id c,ι,Z,σ,h,E,Q,Q1,r,he,hk,hr=>by
  refine Qo c r he hk ?_;intro x E' σ' ι' Z' h' r' a' e' k';cases x with
  |exit ja=>
   simp only at k' ⊢;split at k'
   .rename_i hc;rw[if_pos hc];exact hr _ _ _ _ _ _ r' a' e' k'
   .rename_i hc;rw[if_neg hc];exact hr _ _ _ _ _ _ r' a' e' k'
  |normal=>exact hr _ _ _ _ _ _ r' a' e' k'
  |goto l=>exact hr _ _ _ _ _ _ r' a' e' k'
  |ret=>exact hr _ _ _ _ _ _ r' a' e' k'
  |panic ch=>exact hr _ _ _ _ _ _ r' a' e' k'
  |outgrown=>exact hr _ _ _ _ _ _ r' a' e' k'
 | .loop S c,ι,Z,σ,h,E,Q,Q1,r,he,hk,hr=>by
  obtain⟨I,⟨n,h0⟩,iA⟩:=hk;obtain⟨Z0,σ0,DP,r0,a0,v0,e0,i0⟩:=h0.sound r (he.map S);refine⟨λn vs h'=>∃ι' Z' σ' pvs,Rel ι' Z' σ' h'/\Aft ι Z σ h ι' Z' σ' h'/\VOKs Z' h' σ'.next pvs/\vs=ers ι' pvs/\I n pvs σ',⟨n,ι,Z0,σ0,DP,r0,a0,v0,(zDw E S).symm.trans e0.symm,i0⟩,?_⟩
  rintro n vs h' ⟨ι',Z',σ',pvs,r',a',hv,rfl,hI⟩
  rw[<-zDN];refine Qo c r' (EOK.mk hv) (iA n pvs σ' hI) ?_;intro x xN σ'' ι'' si dB sw mH gK sA;cases x with
  |normal=>
   obtain⟨n',ah,s5⟩:=sA;obtain⟨Z1,σ1,Gt,r1,a1,v1,e1,i1⟩:=s5.sound sw (gK.map S);exact⟨n',ah,ι'',Z1,σ1,Gt,r1,a'.trans (mH.trans a1),v1,(zDw xN S).symm.trans e1.symm,i1⟩
  |exit id=>exact hr _ _ _ _ _ _ sw (a'.trans mH) gK sA
  |goto l=>exact hr _ _ _ _ _ _ sw (a'.trans mH) gK sA
  |ret=>exact hr _ _ _ _ _ _ sw (a'.trans mH) gK sA
  |panic ch=>exact hr _ _ _ _ _ _ sw (a'.trans mH) gK sA
  |outgrown=>exact hr _ _ _ _ _ _ sw (a'.trans mH) gK sA
theorem zBI(r:Rel ι Z σ h){E:PEnv}(he:EOK Z h σ.next E):∀{rs:List IRes} {vs:List PV},Zc rs E σ=some vs->rvals rs (erE ι E) h=some (ers ι vs)/\VOKs Z h σ.next vs
 |[],vs,hv=>by cases hv;exact⟨rfl,trivial⟩
 | .tmp t::rs,vs,hv=>by
  simp only[Zc,Option.map_eq_some_iff]at hv;obtain⟨jR,hv,rfl⟩:=hv;obtain⟨h1,h2⟩:=zBI r he hv;exact⟨by simp only[rvals,h1,Option.map_some,ers,erE],he t,h2⟩
 | .cell t a k::rs,vs,hv=>by
  simp only[Zc,Option.bind_eq_some_iff,Option.map_eq_some_iff]at hv;obtain⟨v,hl,jR,hv,rfl⟩:=hv;obtain⟨h1,h2⟩:=zBI r he hv;obtain⟨h3,h4⟩:=zCV r (he t) hl;refine⟨?_,h4,h2⟩;simp only[rvals,erE];rw[h3];simp only[Option.bind_some];rw[h1];rfl
theorem zJV{vs:List PV}(hv:VOKs Z h n vs):packR (ers ι vs)=er ι (packP vs)/\VOK Z h n (packP vs):=by
 cases vs with
 |nil=>exact⟨rfl,trivial⟩
 |cons v vs=>
  cases vs with
  |nil=>exact⟨rfl,hv.1⟩
  |cons u us=>exact⟨rfl,hv⟩
theorem zN(cN:P.follows .mixedOrders=true){f:FuncId}{fn:Func}{eZ:IFn}(hf:P.funcs[f]? = some fn)(hc:cF P fn=some eZ){args:List PV}{K:PV->PHeap->Prop}(hl:args.length=eZ.params.length)
  (hk:vp P eZ.body (retP eZ.res K) (PEnv.mk eZ.params args) σ):zA P f args σ K:=by
 intro ι Z h r va;refine zIw cN hf hc (by rw[zm];exact hl) ?_;rw[<-zDN];refine Qo eZ.body r (EOK.mk va) hk ?_;intro x E' σ' ι' Z' h' r' a' e' k';have fin:optK (Zc eZ.res E' σ') (λvs=>K (packP vs) σ')->optK (rvals eZ.res (erE ι' E') h') λvs=>Up ι Z σ h K (packR vs) h':=by
  rintro⟨vs,hv,hk⟩
  obtain⟨h1,h2⟩:=zBI r' e' hv;obtain⟨h3,h4⟩:=zJV (ι:=ι') h2;exact⟨_,h1,packP vs,σ',ι',Z',r',a',h4,h3,hk⟩
 cases x with
 |normal=>exact fin k'
 |ret=>exact fin k'
 |exit id=>exact k'.elim
 |goto l=>exact k'.elim
 |panic ch=>exact k'.elim
 |outgrown=>exact k'.elim
def FormQ(P:Program)(o:Option IFn)(args:List PV)(σ:PHeap)(K:PV->PHeap->Prop):Prop:=∃eZ,o=some eZ/\args.length=eZ.params.length/\vp P eZ.body (retP eZ.res K) (PEnv.mk eZ.params args) σ
theorem zD{P:Program}(cN:P.follows .mixedOrders=true){f:FuncId}{fn:Func}(hf:P.funcs[f]? = some fn){args:List PV}{K:PV->PHeap->Prop}{σ:PHeap}(h:FormQ P (cF P fn) args σ K):zA P f args σ K:=by
 obtain⟨eZ,hc,hl,hk⟩:=h;exact zN cN hf hc hl hk
theorem zF{P:Program}{p:List Nat}{r:List IRes}{b:IC}{args:List PV}{K:PV->PHeap->Prop}{σ:PHeap}(hl:args.length=p.length)(hk:vp P b (retP r K) (PEnv.mk p args) σ):FormQ P (some ⟨p,r,b⟩) args σ K:=⟨_,rfl,hl,hk⟩
end Go.Ab
set_option linter.unusedVariables false
set_option linter.unusedSimpArgs false
namespace Go.Ab
variable{P:Program}{ι ι':Nat->Nat}{Z Z':Nat->Prop}{h h':AHeap}{σ σ' σ0 σ1 σ2:PHeap}{n:Nat}{K:PV->PHeap->Prop}
mutual
def addrs:PV->List Nat
 | .fz _ (.sl o _ _ _) _ cs=>o::ZK cs
 | .fp (.ptr o _) cs=>(if cs.isEmpty then []else [o])++ZK cs
 | .clo _ a b=>ZK a++ZK b
 | .agg cs=>ZK cs
 | .tup cs=>ZK cs
 |_=>[]
def ZK:List PV->List Nat
 |[]=>[]
 |c::cs=>addrs c++ZK cs
end
mutual
theorem zGX:∀{n:Nat} {v:PV},VOK Z h n v->∀o∈addrs v,Z o
 |n,.undef,_,o,ho|n,.bool _,_,o,ho|n,.int _ _,_,o,ho|n,.str _,_,o,ho|n,.nilp,_,o,ho|n,.nilf,_,o,ho=>by simp[addrs]at ho
 |n,.ptr _ _,_,o,ho|n,.sl _ _ _ _,_,o,ho=>by simp[addrs]at ho
 |n,.fz w a len cs,hv,o,ho=>by
  obtain⟨rfl,_,_⟩|⟨o',off,cap,rfl,h1,_⟩:=hv.1
  .simp[addrs]at ho
  .simp only[addrs,List.mem_cons]at ho;rcases ho with rfl|ho
   .exact h1
   .exact QH hv.2 o ho
 |n,.fp a cs,hv,o,ho=>by
  cases a with
  |ptr o' i=>
   simp only[addrs,List.mem_append]at ho;rcases ho with ho|ho
   .split at ho
    .simp at ho
    .rename_i ar;simp only[List.mem_singleton]at ho;subst ho;obtain⟨_,h1|⟨o2,i2,he,h2,_⟩⟩:=hv.1
     .cases cs with
      |nil=>exact absurd rfl ar
      |cons c cs=>simp[ers]at h1
     .cases he;exact h2
   .exact QH hv.2 o ho
  |_=>simp[addrs]at ho
 |n,.clo _ a b,hv,o,ho=>by
  simp only[addrs,List.mem_append]at ho;exact ho.elim (QH hv.1 o) (QH hv.2 o)
 |n,.agg cs,hv,o,ho=>QH (cs:=cs) hv o (by simpa only[addrs]using ho)
 |n,.tup cs,hv,o,ho=>QH (cs:=cs) hv o (by simpa only[addrs]using ho)
theorem QH:∀{n:Nat} {cs:List PV},VOKs Z h n cs->∀o∈ZK cs,Z o
 |n,[],_,o,ho=>by simp[ZK]at ho
 |n,c::cs,hv,o,ho=>by
  simp only[ZK,List.mem_append]at ho;exact ho.elim (zGX hv.1 o) (QH hv.2 o)
end
def Gh(σ0:PHeap)(K:PV->PHeap->Prop)(v:PV)(σ1:PHeap):Prop:=
 PWF σ0->∀(ι:Nat->Nat) (Z:Nat->Prop) (h:AHeap) (b:Nat),Rel ι Z σ1 h->VOK Z h σ1.next v->σ0.next<=σ1.next->σ0.top<=b->(∀s cs,σ0.next<=s->σ1.obj s=some cs->b<=ι s)->(∀s,s<σ0.next->σ0.obj s=none->σ1.obj s=none)->
  ∃v2 σ2 ι2 Z2,Rel ι2 Z2 σ2 h/\VOK Z2 h σ2.next v2/\σ0.next<=σ2.next/\(∀s,s<σ0.next->ι2 s=ι s)/\(∀o,Z o->Z2 o)/\(∀s cs,σ0.next<=s->σ2.obj s=some cs->b<=ι2 s)/\(∀s,s<σ0.next->σ0.obj s=none->σ2.obj s=none)/\er ι2 v2=er ι v/\K v2 σ2
theorem zA.gh{f:FuncId}{args:List PV}(c:zA P f args σ (Gh σ K)):zA P f args σ K:=by
 intro ι Z h r va;refine(c ι Z h r va).mono ?_
 rintro _ h' ⟨pv,σ',ι',Z',r',a',hv,rfl,k⟩
 obtain⟨v2,σ2,ι2,Z2,g1,g2,g3,g4,g5,g6,g7,g8,g9⟩:=k r.pwf ι' Z' h' h.next r' hv a'.next r.top (λs cs hs ho=>a'.fresh s cs hs ho) a'.dead;exact⟨v2,σ2,ι2,Z2,g1,⟨g3,a'.hnext,λs hs=>(g4 s hs).trans (a'.inj s hs),λo ho=>⟨g5 o (a'.z o ho).1,(a'.z o ho).2⟩,g7,g6⟩,g2,g8.symm,g9⟩
theorem zA.pwf{f:FuncId}{args:List PV}(c:PWF σ->zA P f args σ K):zA P f args σ K:=λι Z h r va=>c r.pwf ι Z h r va
theorem zA.nil0{f:FuncId}{w:Bool}{a:AV}{l:Nat}{cs:List PV}{rest:List PV}(c:(ZQ a=true->l=0/\cs=[])->zA P f (.fz w a l cs::rest) σ K):zA P f (.fz w a l cs::rest) σ K:=λι Z h r va=>c (λhn=>by
 rw[zLk hn]at va;obtain⟨_,h1,h2⟩|⟨_,_,_,h1,_⟩:=va.1.1
 .exact⟨h1,List.eq_nil_of_length_eq_zero (by rw[<-zm (ι:=idz),h2];rfl)⟩
 .cases h1) ι Z h r va
theorem Gh.ret{v:PV}(k:K v σ1):Gh σ0 K v σ1:=λ_ ι Z h b r hv hn hb hf hd=>⟨v,σ1,ι,Z,r,hv,hn,λ_ _=>rfl,λ_ h=>h,hf,hd,rfl,k⟩
theorem Gh.cut{v:PV}(hn:σ2.next=σ0.next)(ht:σ2.top<=σ1.top)(ho:∀s cs,σ2.obj s=some cs->s<σ0.next/\σ1.obj s=some cs/\(σ0.obj s=some cs\/Bels σ0.next cs))(hb:Bel σ0.next v)(k:K v σ2):Gh σ0 K v σ1:=by
 intro w ι Z h b r hv h1 h2 h3 h4;refine⟨v,σ2,ι,Z,⟨r.hwf,r.zlt,Nat.le_trans ht r.top,λs hs=>?_,λs cs hs=>?_,λs s' cs dT hs cu hi=>r.inj s s' cs dT (ho s cs hs).2.1 (ho s' dT cu).2.1 hi⟩,by rw[hn];exact hv.of_bel hb,by omega,λ_ _=>rfl,λ_ h=>h,λs cs hs hc=>?_,λs hs hc=>?_,rfl,k⟩
 .cases hc:σ2.obj s with
  |none=>rfl
  |some cs=>have:=(ho s cs hc).1;omega
 .obtain⟨g1,g2,g3⟩:=ho s cs hs;obtain⟨q1,q2,q3⟩:=r.obj s cs g2;exact⟨q1,by rw[hn];exact q2.of_bel (g3.elim (λg=>w.bel s cs g) id),q3⟩
 .exact h3 s cs hs (ho s cs hc).2.1
 .cases jL:σ2.obj s with
  |none=>rfl
  |some cs=>have:=(ho s cs jL).2.1;rw[h4 s hs hc]at this;cases this
structure Keep(σ0 σ1:PHeap):Prop where
 next:σ0.next<=σ1.next
 top:σ0.top<=σ1.top
 obj:∀s,s<σ0.next->σ1.obj s=σ0.obj s
theorem Keep.refl(σ:PHeap):Keep σ σ:=⟨vM _,vM _,λ_ _=>rfl⟩
theorem Keep.trans(a:Keep σ0 σ1)(b:Keep σ1 σ2):Keep σ0 σ2:=⟨Nat.le_trans a.next b.next,Nat.le_trans a.top b.top,λs hs=>(b.obj s (Nat.lt_of_lt_of_le hs a.next)).trans (a.obj s hs)⟩
theorem Keep.new(a:Keep σ0 σ1)(cs:List PV):Keep σ0 (σ1.new cs):=
 ⟨by have:=a.next;simp only[PHeap.new];omega,a.top,λs hs=>by have:=a.next;simp only[PHeap.new];rw[if_neg (by omega)];exact a.obj s hs⟩
theorem Keep.set(a:Keep σ0 σ1){s:Nat}(hs:σ0.next<=s)(cs:List PV):Keep σ0 (σ1.set s cs):=
 ⟨a.next,a.top,λt ht=>by simp only[PHeap.set];rw[if_neg (by omega)];exact a.obj t ht⟩
theorem Keep.kill(a:Keep σ0 σ1){s:Nat}(hs:σ0.next<=s):Keep σ0 (σ1.kill s):=
 ⟨a.next,a.top,λt ht=>by simp only[PHeap.kill];rw[if_neg (by omega)];exact a.obj t ht⟩
theorem Keep.up(a:Keep σ0 σ1){t:Nat}(ht:σ1.top<=t):Keep σ0 (σ1.up t):=⟨a.next,Nat.le_trans a.top ht,a.obj⟩
theorem Gh.fin0T{v:PV}{t:Nat}(hk:Keep σ0 σ1)(ht:t<=σ1.top)(hb:Bel σ0.next v)(k:PWF σ0->K v (σ0.up t)):Gh σ0 K v σ1:=λw=>
 Gh.cut (σ2:=σ0.up t) rfl ht (λs cs hs=>⟨w.lt hs,by rw[hk.obj s (w.lt hs)];exact hs,.inl hs⟩) hb (k w) w
theorem Gh.fin0{v:PV}(hk:Keep σ0 σ1)(hb:Bel σ0.next v)(k:K v σ0):Gh σ0 K v σ1:=Gh.fin0T (t:=σ0.top) hk hk.top hb λ_=>k
theorem Gh.finS{s off l:Nat}{cap:Cap}{cs:List PV}(hk:Keep σ0 σ1)(hs:σ1.obj s=some cs)(h0:σ0.next<=s)(hb:Bels σ0.next cs)(k:K (.sl σ0.next off l cap) (σ0.new cs)):Gh σ0 K (.sl s off l cap) σ1:=by
 intro w ι Z h b r hv h1 h2 h3 h4;obtain⟨q1,q2,q3⟩:=r.obj s cs hs;have hi:∀{t:Nat} {ds:List PV},σ0.obj t=some ds->ι t≠ι s:=λ{t ds} ht he=>by
  have:=r.inj t s ds cs (by rw[hk.obj t (w.lt ht)];exact ht) hs he
  have:=w.lt ht
  omega
 have conv:∀t,t<σ0.next->putι ι σ0.next (ι s) t=ι t:=λt ht=>by simp[putι,Nat.ne_of_lt ht]
 have cD:VOKs Z h σ0.next cs:=q2.of_bel hb;refine⟨.sl σ0.next off l cap,σ0.new cs,putι ι σ0.next (ι s),Z,⟨r.hwf,r.zlt,Nat.le_trans hk.top r.top,λt ht=>?_,λt ds ht=>?_,λt t' ds xH ht db he=>?_⟩,Nat.lt_succ_self _,by simp[PHeap.new],conv,λ_ h=>h,λt ds ht hd=>?_,λt ht hd=>?_,(by simp[er,putι]),k⟩
 .simp only[PHeap.new]at ht ⊢;rw[if_neg (by omega)];exact w.wf t (by omega)
 .simp only[PHeap.new]at ht ⊢;by_cases e:t=σ0.next
  .subst e;rw[if_pos rfl]at ht;cases ht;rw[Zm conv cD];simp only[putι,if_true];exact⟨q1,cD.up (Nat.le_succ _),q3⟩
  .rw[if_neg e]at ht;have gu:=w.lt ht;obtain⟨p1,p2,p3⟩:=r.obj t ds (by rw[hk.obj t gu];exact ht);have AI:=p2.of_bel (w.bel t ds ht);rw[conv t gu,Zm conv AI];exact⟨p1,AI.up (Nat.le_succ _),p3⟩
 .simp only[PHeap.new]at ht db;by_cases e:t=σ0.next
  .by_cases e':t'=σ0.next
   .rw[e,e']
   .rw[if_neg e']at db;rw[conv t' (w.lt db)]at he;subst e;simp only[putι,if_true]at he;exact absurd he.symm (hi db)
  .rw[if_neg e]at ht;rw[conv t (w.lt ht)]at he;by_cases e':t'=σ0.next
   .subst e';simp only[putι,if_true]at he;exact absurd he (hi ht)
   .rw[if_neg e']at db;rw[conv t' (w.lt db)]at he;exact r.inj t t' ds xH (by rw[hk.obj t (w.lt ht)];exact ht) (by rw[hk.obj t' (w.lt db)];exact db) he
 .simp only[PHeap.new]at hd;by_cases e:t=σ0.next
  .subst e;simp only[putι,if_true];exact h3 s cs h0 hs
  .rw[if_neg e]at hd;have:=w.lt hd;omega
 .simp only[PHeap.new];rw[if_neg (by omega)];exact hd
theorem Gh.freeze{v:PV}{s:Nat}{cs:List PV}(hs:σ1.obj s=some cs)(h0:σ0.next<=s)(hb:Bels 0 cs)
  (k:∀o,σ0.top<=o->o∉ZK cs->o∉addrs v->Gh σ0 K (sb s o cs v) ((σ1.kill s).up (max σ1.top (o+1)))):Gh σ0 K v σ1:=by
 intro w ι Z h b r hv h1 h2 h3 h4;obtain⟨r',cD,ho,hz⟩:=r.freeze hs hb;have jw:=h3 s cs h0 hs;have conv:∀{t:Nat} {a:List PV},(σ1.kill s).obj t=some a->t≠s/\σ1.obj t=some a:=λ{t a} ht=>by
  simp only[PHeap.kill]at ht;split at ht
  .cases ht
  .exact⟨by assumption,ht⟩
 obtain⟨v2,σ2,ι2,Z2,g1,g2,g3,g4,g5,g6,g7,g8,g9⟩:=k (ι s) (by omega) (λhm=>hz (QH cD _ hm)) (λhm=>hz (zGX hv _ hm)) w ι (λo=>Z o\/o=ι s) h b r'
  (VOK.sb (.inr rfl) ho (cD.mono (λo ho=>⟨.inl ho,rfl⟩) (vM _)) (hv.mono (λo ho=>⟨.inl ho,rfl⟩) (vM _))) h1 h2 (λt ds ht hd=>h3 t ds ht (conv hd).2)
  (λt ht hd=>by simp only[PHeap.kill,PHeap.up];split;rfl;exact h4 t ht hd)
 exact⟨v2,σ2,ι2,Z2,g1,g2,g3,g4,λo ho=>g5 o (.inl ho),g6,g7,g8.trans (er_sb rfl v),g9⟩
theorem Gh.finZ{s l:Nat}{cap:Cap}{cs:List PV}(hk:Keep σ0 σ1)(hs:σ1.obj s=some cs)(h0:σ0.next<=s)(hb:Bels 0 cs)(bh:capOK cap l=true)
  (k:∀o,σ0.top<=o->o∉ZK cs->∀t,o<t->σ1.top<=t->K (.fz true (.sl o 0 l cap) l cs) (σ0.up t)):Gh σ0 K (.sl s 0 l cap) σ1:=
 Gh.freeze hs h0 hb λo ho hc _=>by
  simp only[sb];rw[if_pos ⟨trivial,trivial,bh⟩];exact Gh.fin0T (t:=max σ1.top (o+1)) ((hk.kill h0).up (by simp only[PHeap.kill];omega)) (vM _) trivial λw=>k o ho hc _ (by omega) (by omega)
theorem Gh.finF{s l:Nat}{cap:Cap}{cs:List PV}(hk:Keep σ0 σ1)(hs:σ1.obj s=some cs)(h0:σ0.next<=s)(hb:Bels 0 cs)(bh:capOK cap l=true)
  (k:∀o,K (.fz true (.sl o 0 l cap) l cs) σ0):Gh σ0 K (.sl s 0 l cap) σ1:=
 Gh.freeze hs h0 hb λo ho hc _=>by
  simp only[sb];rw[if_pos ⟨trivial,trivial,bh⟩];exact Gh.fin0 ((hk.kill h0).up (by simp only[PHeap.kill];omega)) trivial (k o)
theorem zA.frz{f:FuncId}{args:List PV}{s:Nat}{cs:List PV}(hs:σ.obj s=some cs)(hb:Bels 0 cs)(c:∀o,zA P f (sbs s o cs args) (σ.kill s) K):zA P f args σ K:=by
 intro ι Z h r va;obtain⟨r',cD,ho,hz⟩:=r.freeze hs hb;have r2:Rel ι (λo=>Z o\/o=ι s) (σ.kill s) h:=⟨r'.hwf,r'.zlt,by have:=r.top;exact this,r'.wf,r'.obj,r'.inj⟩
 have cE:∀o,Z o->(Z o\/o=ι s)/\h.obj o=h.obj o:=λo ho=>⟨.inl ho,rfl⟩
 have hm:(σ.kill s).next=σ.next:=rfl
 have:=c (ι s) ι _ h r2 (VOKs.sbs (.inr rfl) ho (cD.mono cE (vM _)) (va.mono cE (vM _)))
 rw[QO rfl]at this;refine this.mono ?_
 rintro v h' ⟨pv,σ',ι',Z',q1,q2,q3,q4,q5⟩
 exact⟨pv,σ',ι',Z',q1,⟨q2.next,q2.hnext,q2.inj,λo ho=>q2.z o (.inl ho),λt ht hn=>q2.dead t ht (by simp only[PHeap.kill];split;rfl;exact hn),q2.fresh⟩,q3,q4,q5⟩
end Go.Ab
set_option linter.unusedVariables false
set_option linter.unusedSimpArgs false
set_option linter.defProp false
namespace Go.Ab
section
variable{P:Program}{Q:Exit->PEnv->PHeap->Prop}{e:PEnv}{h:PHeap}{K:PEnv->PHeap->Prop}{KA:PV->PHeap->Prop}{nb nr:Nat}
theorem zPK:vp P .skip Q e h=Q .normal e h:=rfl
theorem zL3(S:List Nat)(aQ:List II):vp P (.region S aQ) Q e h=RVp P aQ e h λe' h'=>Q .normal (PEnv.mk S (S.map e')) h':=rfl
theorem zPM(S:List Nat)(zs:List (List AV))(aQ:List DI):vp P (.draw S zs aQ) Q e h=DVp P h.next zs.length aQ [] e (h.news zs) λe' h'=>Q .normal (PEnv.mk S (S.map e')) h':=rfl
theorem zQY(a b:IC):vp P (.seq a b) Q e h=vp P a (λx e' h'=>match x with | .normal=>vp P b Q e' h'|x=>Q x e' h') e h:=rfl
theorem zPN(c:IX)(a b:IC):vp P (.cond c a b) Q e h=Zv (c.pv e) (vp P a Q e h) (vp P b Q e h):=rfl
theorem zNx(id:Nat)(c:IC):vp P (.block id c) Q e h=vp P c (λx e' h'=>match x with | .exit ja=>if ja=id then Q .normal e' h' else Q (.exit ja) e' h'|x=>Q x e' h') e h:=rfl
theorem zPL(id:Nat):vp P (.exit id) Q e h=Q (.exit id) e h:=rfl
theorem zQZ:vp P .ret Q e h=Q .ret e h:=rfl
theorem zQR:RVp P [] e h K=K e h:=rfl
theorem RVp_q(d:Option Nat)(op:IOp)(g:Option (Nat×Bool))(r:List II):RVp P (⟨d,op,true,g⟩::r) e h K=optK (gqp 0 0 ⟨d,op,true,g⟩ e h) λv=>RVp P r (e.put d v) h K:=rfl
theorem RVp_e(d:Option Nat)(op:IOp)(g:Option (Nat×Bool))(r:List II):RVp P (⟨d,op,false,g⟩::r) e h K=gep P ⟨d,op,false,g⟩ e h λv h'=>RVp P r (e.put d v) h' K:=rfl
theorem zQU(recs:List RecP):DVp P nb nr [] recs e h K=K e h:=rfl
theorem DVp_q(d:Option Nat)(op:IOp)(g:Option (Nat×Bool))(i:Nat)(c:List Nat)(r:List DI)(recs:List RecP):DVp P nb nr (⟨⟨d,op,true,g⟩,i,c⟩::r) recs e h K=optK (gqp nb nr ⟨d,op,true,g⟩ e h) λv=>DVp P nb nr r (qJ ⟨⟨d,op,true,g⟩,i,c⟩ e v++recs) (e.put d v) h K:=rfl
theorem DVp_e(d:Option Nat)(op:IOp)(g:Option (Nat×Bool))(i:Nat)(c:List Nat)(r:List DI)(recs:List RecP):DVp P nb nr (⟨⟨d,op,false,g⟩,i,c⟩::r) recs e h K=gep P ⟨d,op,false,g⟩ e h λv h'=>zAL c recs h'/\DVp P nb nr r recs (e.put d v) h' K:=rfl
theorem zOu(d:Option Nat)(op:IOp)(q:Bool):gqp nb nr ⟨d,op,q,none⟩ e h=qp nb nr op e h:=rfl
theorem zOt(d:Option Nat)(op:IOp)(q:Bool)(t:Nat)(b:Bool):gqp nb nr ⟨d,op,q,some (t,b)⟩ e h=Qu (e t) b (qp nb nr op e h):=rfl
theorem zOw(d:Option Nat)(op:IOp)(q:Bool):gep P ⟨d,op,q,none⟩ e h KA=ep P op e h KA:=rfl
theorem zOv(d:Option Nat)(op:IOp)(q:Bool)(t:Nat)(b:Bool):gep P ⟨d,op,q,some (t,b)⟩ e h KA=Zt (e t) b (ep P op e h KA) (KA (.tup []) h):=rfl
theorem zJL(a b:Prop):Zv (.bool true) a b=a:=rfl
theorem zHu(a b:Prop):Zv (.bool false) a b=b:=rfl
theorem zLD(c:Prop)[Decidable c](a b:Prop):Zv (.bool (decide c)) a b=if c then a else b:=by by_cases x:c<;>simp[Zv,x]
theorem zJM(c:Prop)[Decidable c](a b:Prop):Zv (.bool (!decide c)) a b=if c then b else a:=by by_cases x:c<;>simp[Zv,x]
theorem zHs(c b:Bool)(x y:Prop):Zt (.bool c) b x y=if c=b then x else y:=rfl
theorem zHq(c b:Bool)(x:Option PV):Qu (.bool c) b x=if c=b then x else some (.tup []):=rfl
theorem zHp(b:Bool)(x:Option PV):Qu (.tup []) b x=some (.tup []):=rfl
theorem zHr(b:Bool)(x y:Prop):Zt (.tup []) b x y=y:=rfl
theorem pv_t(n:Nat):(IX.t n).pv e=e n:=rfl
theorem pv_c(v:AV):(IX.c v).pv e=ofAV v:=rfl
theorem zOM(s:Nat)(S:List Nat)(v:PV)(vs:List PV)(t:Nat):PEnv.mk (s::S) (v::vs) t=if t=s then v else PEnv.mk S vs t:=rfl
theorem zMX(d:Nat)(v:PV)(t:Nat):e.put (some d) v t=if t=d then v else e t:=rfl
theorem zMY(v:PV):e.put none v=e:=rfl
theorem qp_mv(x:IX):qp nb nr (.mv x) e h=some (x.pv e):=rfl
theorem zPX(c a b:IX):qp nb nr (.pick c a b) e h=pPick (c.pv e) (a.pv e) (b.pv e):=rfl
theorem zQg(op:BinOp)(ek:EqK)(x y:IX):qp nb nr (.bin op ek x y) e h=pbin op ek (x.pv e) (y.pv e):=rfl
theorem qp_un(op:UnOp)(x:IX):qp nb nr (.un op x) e h=pun op (x.pv e):=rfl
theorem zPZ(k:IntKind)(x:IX):qp nb nr (.conv k x) e h=pConv k (x.pv e):=rfl
theorem zJD(x:IX):qp nb nr (.nilCheck x) e h=pNil (x.pv e):=rfl
theorem zOD(z:List AV)(ps:List (Nat×Nat×IX)):qp nb nr (.build z ps) e h=(pfill (ofAVs z) (ps.map λp=>(p.1,p.2.1,p.2.2.pv e))).map .agg:=rfl
theorem zOC(a:Bool)(n off:Nat)(x:IX):qp nb nr (.field a n off x) e h=zDD a n off (x.pv e):=rfl
theorem zHe(off:Nat)(x:IX):qp nb nr (.fieldAddr off x) e h=zAA off (x.pv e):=rfl
theorem zHd(sz:Nat)(x i:IX):qp nb nr (.indexAddr sz x i) e h=zCA sz (x.pv e) (i.pv e):=rfl
theorem zJF(x i:IX):qp nb nr (.indexStr x i) e h=zDp (x.pv e) (i.pv e):=rfl
theorem zK7(x:IX)(i:Nat):qp nb nr (.extract x i) e h=zCY (x.pv e) i:=rfl
theorem zQe(x:IX):qp nb nr (.len x) e h=pLen (x.pv e):=rfl
theorem zMS(x:IX):qp nb nr (.lenStr x) e h=zDo (x.pv e):=rfl
theorem zQf(x:IX):qp nb nr (.cap x) e h=pCap (x.pv e):=rfl
theorem zOB(sz:Nat)(x:IX)(lo hi mx:Option IX):qp nb nr (.slice sz x lo hi mx) e h=Zd sz (x.pv e) (lo.map (·.pv e)) (hi.map (·.pv e)) (mx.map (·.pv e)):=rfl
theorem zJC(x:IX)(lo hi:Option IX):qp nb nr (.sliceStr x lo hi) e h=zBd (x.pv e) (lo.map (·.pv e)) (hi.map (·.pv e)):=rfl
theorem zMR(mx:Bool)(x y:IX):qp nb nr (.maxmin mx x y) e h=zB9 mx (x.pv e) (y.pv e):=rfl
theorem zJE(f:FuncId)(a b:List IX):qp nb nr (.makeFunc f a b) e h=some (.clo f (a.map (·.pv e)) (b.map (·.pv e))):=rfl
theorem zPY(a:Bool)(n:Nat)(x:IX):qp nb nr (.load a n x) e h=pldv a n (x.pv e) h:=rfl
theorem zQd(k:Nat):qp nb nr (.rev k) e h=if k<nr then some (.ptr (nb+k) 0)else none:=rfl
theorem zPW(k n:Nat):qp nb nr (.revS k n) e h=if k<nr then some (.sl (nb+k) 0 n (.known n))else none:=rfl
theorem zO3(z:List AV):ep P (.alloc z) e h KA=KA (.ptr h.next 0) (h.new (ofAVs z)):=rfl
theorem zQ2(x:IX):ep P (.box x) e h KA=((x.pv e).cells.all PV.one=true/\KA (.ptr h.next 0) (h.new (x.pv e).cells)):=rfl
theorem zLo(sz len:Nat)(z:List AV)(ps:List (Nat×Nat×IX)):ep P (.buildSl sz len z ps) e h KA=optK (pfill (ofAVs (zeros z len)) (ps.map λp=>(p.1,p.2.1,p.2.2.pv e))) λcs=>KA (.sl h.next 0 len (.known len)) (h.new cs):=rfl
def zFO(n:Nat)(x v:PV)(h:PHeap)(KA:PV->PHeap->Prop):Prop:=
 match x with
 | .ptr s i=>v.cells.length=n/\optK (h.wr s i v.cells) λh'=>KA .undef h'
 |_=>False
def pMake(sz bytes:Nat)(z:List AV)(l c:PV)(h:PHeap)(KA:PV->PHeap->Prop):Prop:=
 match l,c with
 | .int _ l,.int _ c=>(0<=l/\l<=c/\c*bytes<=140737488355328/\c<=9223372036854775807)/\KA (.sl h.next 0 l.toNat (.known c.toNat)) (h.new (ofAVs (zeros z c.toNat)))
 |_,_=>False
def zFQ(sz bytes:Nat)(z:List AV)(s n:PV)(h:PHeap)(KA:PV->PHeap->Prop):Prop:=
 match s,n with
 | .fz _ .nils _ _,.int _ n=>(0<n/\n*bytes<=140737488355328/\n<=4611686018427387904)/\KA (.sl h.next 0 n.toNat (.grown sz)) (h.new (ofAVs (zeros z n.toNat)))
 |_,_=>False
def zFP(P:Program)(f:PV)(args:List PV)(h:PHeap)(KA:PV->PHeap->Prop):Prop:=
 match f with
 | .clo f first bj=>okF P f=true/\zA P f (first++args++bj) h KA
 |_=>False
theorem zO1(n:Nat)(x v:IX):ep P (.store n x v) e h KA=zFO n (x.pv e) (v.pv e) h KA:=rfl
theorem zLO(n s i:Nat)(v:PV):zFO n (.ptr s i) v h KA=(v.cells.length=n/\optK (h.wr s i v.cells) λh'=>KA .undef h'):=rfl
theorem zNY(sz bytes:Nat)(z:List AV)(l c:IX):ep P (.makeSl sz bytes z l c) e h KA=pMake sz bytes z (l.pv e) (c.pv e) h KA:=rfl
theorem zJ4(sz bytes:Nat)(z:List AV)(s n:IX):ep P (.appendMk sz bytes z s n) e h KA=zFQ sz bytes z (s.pv e) (n.pv e) h KA:=rfl
theorem zJa(sz bytes:Nat)(z:List AV)(w:Bool)(l:Nat)(cs:List PV)(k:IntKind)(n:Int):zFQ sz bytes z (.fz w .nils l cs) (.int k n) h KA=((0<n/\n*bytes<=140737488355328/\n<=4611686018427387904)/\KA (.sl h.next 0 n.toNat (.grown sz)) (h.new (ofAVs (zeros z n.toNat)))):=rfl
theorem zMt(sz bytes:Nat)(z:List AV)(k k':IntKind)(l c:Int):pMake sz bytes z (.int k l) (.int k' c) h KA=((0<=l/\l<=c/\c*bytes<=140737488355328/\c<=9223372036854775807)/\KA (.sl h.next 0 l.toNat (.known c.toNat)) (h.new (ofAVs (zeros z c.toNat)))):=rfl
theorem zNZ(sz bytes:Nat)(s x:IX):ep P (.append sz bytes s x) e h KA=optK (qU sz bytes h (s.pv e) (x.pv e)) λp=>KA p.1 p.2:=rfl
theorem zQH(sz:Nat)(d s:IX):ep P (.copy sz d s) e h KA=optK (pcopy sz h (d.pv e) (s.pv e)) λp=>KA p.1 p.2:=rfl
theorem zQI(f:FuncId)(args:List IX):ep P (.call f args) e h KA=zA P f (args.map (·.pv e)) h KA:=rfl
theorem zO2(f:IX)(args:List IX):ep P (.callV f args) e h KA=zFP P (f.pv e) (args.map (·.pv e)) h KA:=rfl
theorem zLS(f:FuncId)(a b args:List PV):zFP P (.clo f a b) args h KA=(okF P f=true/\zA P f (a++args++b) h KA):=rfl
theorem zOg:ofAV .undef=.undef:=rfl
theorem of_bool(b:Bool):ofAV (.bool b)=.bool b:=rfl
theorem of_int(k:IntKind)(n:Int):ofAV (.int k n)=.int k n:=rfl
theorem zQo(s:List UInt8):ofAV (.str s)=.str s:=rfl
theorem zPx:ofAV .nilp=.nilp:=rfl
theorem zPy:ofAV .nilf=.nilf:=rfl
theorem zPw:ofAV .nils=.fz true .nils 0 []:=rfl
theorem zQp(f:FuncId)(a b:List AV):ofAV (.clo f a b)=.clo f (ofAVs a) (ofAVs b):=rfl
theorem zQq(a:List AV):ofAV (.agg a)=.agg (ofAVs a):=rfl
theorem zPv:ofAVs []=[]:=rfl
theorem zOf(c:AV)(cs:List AV):ofAVs (c::cs)=ofAV c::ofAVs cs:=rfl
theorem zPu(n:Nat)(c:AV):ofAVs (List.replicate n c)=List.replicate n (ofAV c):=by rw[zGg,List.map_replicate]
theorem zOb(k:IntKind)(ek:EqK)(a b:Int):pbin .add ek (.int k a) (.int k b)=some (.int k (k.wrap (a+b))):=by simp[pbin,abin,aint,ofAV]
theorem zOR(k:IntKind)(ek:EqK)(a b:Int):pbin .sub ek (.int k a) (.int k b)=some (.int k (k.wrap (a-b))):=by simp[pbin,abin,aint,ofAV]
theorem zOV(k:IntKind)(ek:EqK)(a b:Int):pbin .mul ek (.int k a) (.int k b)=some (.int k (k.wrap (a*b))):=by simp[pbin,abin,aint,ofAV]
theorem zOa(k:IntKind)(ek:EqK)(a b:Int):pbin .eql ek (.int k a) (.int k b)=some (.bool (decide (a=b))):=by simp[pbin,abin,aint,ofAV]
theorem zOU(k:IntKind)(ek:EqK)(a b:Int):pbin .neq ek (.int k a) (.int k b)=some (.bool (!decide (a=b))):=by simp[pbin,abin,aint,ofAV]
theorem zOW(k:IntKind)(ek:EqK)(a b:Int):pbin .lss ek (.int k a) (.int k b)=some (.bool (decide (a<b))):=by simp[pbin,abin,aint,ofAV]
theorem zOX(k:IntKind)(ek:EqK)(a b:Int):pbin .leq ek (.int k a) (.int k b)=some (.bool (decide (a<=b))):=by simp[pbin,abin,aint,ofAV]
theorem zOY(k:IntKind)(ek:EqK)(a b:Int):pbin .gtr ek (.int k a) (.int k b)=some (.bool (decide (b<a))):=by simp[pbin,abin,aint,ofAV]
theorem zOZ(k:IntKind)(ek:EqK)(a b:Int):pbin .geq ek (.int k a) (.int k b)=some (.bool (decide (b<=a))):=by simp[pbin,abin,aint,ofAV]
theorem zOT(k:IntKind)(ek:EqK)(a b:Int):pbin .quo ek (.int k a) (.int k b)=if b=0 then none else some (.int k (k.wrap (a.tdiv b))):=by simp only[pbin,abin,aint,if_true];split<;>rfl
theorem zOS(k:IntKind)(ek:EqK)(a b:Int):pbin .rem ek (.int k a) (.int k b)=if b=0 then none else some (.int k (a.tmod b)):=by simp only[pbin,abin,aint,if_true];split<;>rfl
theorem zLM(n:Nat)(xs ys:List PV):pbin .eql (.ints n) (.agg xs) (.agg ys)=if xs.length=n/\ys.length=n then(paggB xs ys).bind λr=>some (.bool r)else none:=rfl
theorem zMp:paggB [] []=some true:=rfl
theorem zLN(k:IntKind)(a b:Int)(xs ys:List PV):paggB (.int k a::xs) (.int k b::ys)=(paggB xs ys).map λr=>decide (a=b) && r:=by simp[paggB]
theorem zMo(a b:Bool):pbin .eql .bool (.bool a) (.bool b)=some (.bool (a == b)):=rfl
theorem zMn(a b:Bool):pbin .neq .bool (.bool a) (.bool b)=some (.bool !(a == b)):=rfl
theorem zLL(w w':Bool)(a:AV)(n n':Nat)(cs dT:List PV):pbin .eql .slice (.fz w a n cs) (.fz w' .nils n' dT)=some (.bool (ZQ a)):=rfl
theorem zJU(w w':Bool)(a:AV)(n n':Nat)(cs dT:List PV):pbin .neq .slice (.fz w a n cs) (.fz w' .nils n' dT)=some (.bool (!ZQ a)):=rfl
theorem zLK(s o n:Nat)(c:Cap)(w':Bool)(n':Nat)(dT:List PV):pbin .eql .slice (.sl s o n c) (.fz w' .nils n' dT)=some (.bool false):=rfl
theorem zJT(s o n:Nat)(c:Cap)(w':Bool)(n':Nat)(dT:List PV):pbin .neq .slice (.sl s o n c) (.fz w' .nils n' dT)=some (.bool true):=rfl
theorem zJS(ek:EqK)(a b:List UInt8):pbin .add ek (.str a) (.str b)=if a.length+b.length<=9223372036854775807 then some (.str (a++b))else none:=by simp only[pbin,astr];split<;>rfl
theorem zJR(ek:EqK)(a b:List UInt8):pbin .eql ek (.str a) (.str b)=some (.bool (a == b)):=rfl
theorem zJQ(ek:EqK)(a b:List UInt8):pbin .neq ek (.str a) (.str b)=some (.bool !(a == b)):=rfl
theorem zJ0:ZQ .nils=true:=rfl
theorem zNQ(o f n:Nat)(c:Cap):ZQ (.sl o f n c)=false:=rfl
theorem zPe(k:IntKind)(n:Int):pun .neg (.int k n)=some (.int k (k.wrap (0-n))):=rfl
theorem zPd(b:Bool):pun .not (.bool b)=some (.bool !b):=rfl
theorem zLP(a b:PV):pPick (.bool true) a b=some a:=rfl
theorem zJW(a b:PV):pPick (.bool false) a b=some b:=rfl
theorem zMw(k k':IntKind)(n:Int):pConv k (.int k' n)=some (.int k (k.wrap n)):=rfl
theorem zOc(s i:Nat):pNil (.ptr s i)=some (.ptr s i):=rfl
theorem zOd(f:FuncId)(a b:List PV):pNil (.clo f a b)=some (.clo f a b):=rfl
theorem zPp(a:AV)(c:PV)(cs:List PV):pNil (.fp a (c::cs))=some (.fp a (c::cs)):=rfl
theorem zLR(n off:Nat)(cs:List PV):zDD true n off (.agg cs)=some (.agg ((cs.drop off).take n)):=rfl
theorem zLQ(n off:Nat)(cs:List PV):zDD false n off (.agg cs)=cs[off]?:=rfl
theorem zGE(off s i:Nat):zAA off (.ptr s i)=some (.ptr s (i+off)):=rfl
theorem zG7(off:Nat)(a:AV)(c:PV)(cs:List PV):zAA off (.fp a (c::cs))=some (.fp (pAdd a off) ((c::cs).drop off)):=rfl
theorem zMu(sz s off len:Nat)(c:Cap)(k:IntKind)(n:Int):zCA sz (.sl s off len c) (.int k n)=if 0<=n/\n<len then some (.ptr s (off+n.toNat*sz))else none:=rfl
theorem zMv(sz:Nat)(w:Bool)(a:AV)(len:Nat)(cs:List PV)(k:IntKind)(n:Int):zCA sz (.fz w a len cs) (.int k n)=if 0<=n/\n<len then some (.fp (pAt a (n.toNat*sz)) (cs.drop (n.toNat*sz)))else none:=rfl
theorem zJZ(s:List UInt8)(k:IntKind)(n:Int):zDp (.str s) (.int k n)=if 0<=n then(s[n.toNat]?).map λc=>.int .u8 c.toNat else none:=rfl
theorem zHx(vs:List PV)(i:Nat):zCY (.tup vs) i=vs[i]?:=rfl
theorem zPr(w:Bool)(a:AV)(n:Nat)(cs:List PV):pLen (.fz w a n cs)=some (.int .i64 n):=rfl
theorem zPq(s o n:Nat)(c:Cap):pLen (.sl s o n c)=some (.int .i64 n):=rfl
theorem zJY(s:List UInt8):zDo (.str s)=some (.int .i64 s.length):=rfl
theorem zMx(w:Bool)(l:Nat)(cs:List PV):pCap (.fz w .nils l cs)=some (.int .i64 0):=rfl
theorem zPs(s o n c:Nat):pCap (.sl s o n (.known c))=some (.int .i64 c):=rfl
theorem zJX(mx:Bool)(k:IntKind)(a b:Int):zB9 mx (.int k a) (.int k b)=some (.int k (if mx=true then max a b else min a b)):=by simp[zB9]
theorem zMg(n s i:Nat):pldv false n (.ptr s i) h=h.rd1 s i:=rfl
theorem zMf(n s i:Nat):pldv true n (.ptr s i) h=(h.rd s i n).map .agg:=rfl
theorem zOO(n:Nat)(a:AV)(cs:List PV):pldv false n (.fp a cs) h=cs[0]?:=rfl
theorem zON(n:Nat)(a:AV)(cs:List PV):pldv true n (.fp a cs) h=if 0<n/\n<=cs.length then some (.agg (cs.take n))else none:=rfl
theorem zMe:h.news []=h:=rfl
theorem zLB(z:List AV)(zs:List (List AV)):h.news (z::zs)=(h.new (ofAVs z)).news zs:=rfl
theorem zL2(recs:List RecP):zAL [] recs h=True:=by
 apply propext;refine⟨λ_=>trivial,λ_=>?_⟩
 induction recs with
 |nil=>trivial
 |cons r rs ih=>exact⟨by simp,ih⟩
theorem zJ9(c:List Nat):zAL c [] h=True:=rfl
theorem zKA(c:List Nat)(i:Nat)(a:Bool)(n:Nat)(x v:PV)(rs:List RecP):zAL c (⟨i,a,n,x,v⟩::rs) h=((if c.contains i=true then pldv a n x h=some v else True)/\zAL c rs h):=rfl
theorem zJA(d:Option Nat)(a:Bool)(n:Nat)(x:IX)(g:Option (Nat×Bool))(i:Nat)(c:List Nat)(v:PV):qJ ⟨⟨d,.load a n x,true,g⟩,i,c⟩ e v=if zA8 g e=true then [⟨i,a,n,x.pv e,v⟩]else []:=rfl
theorem zMP(d:Option Nat)(x:IX)(g:Option (Nat×Bool))(i:Nat)(c:List Nat)(v:PV):qJ ⟨⟨d,(.mv x),true,g⟩,i,c⟩ e v=[]:=rfl
theorem zI9(d:Option Nat)(x y z:IX)(g:Option (Nat×Bool))(i:Nat)(c:List Nat)(v:PV):qJ ⟨⟨d,(.pick x y z),true,g⟩,i,c⟩ e v=[]:=rfl
theorem zK6(d:Option Nat)(op:BinOp)(ek:EqK)(x y:IX)(g:Option (Nat×Bool))(i:Nat)(c:List Nat)(v:PV):qJ ⟨⟨d,(.bin op ek x y),true,g⟩,i,c⟩ e v=[]:=rfl
theorem zMN(d:Option Nat)(op:UnOp)(x:IX)(g:Option (Nat×Bool))(i:Nat)(c:List Nat)(v:PV):qJ ⟨⟨d,(.un op x),true,g⟩,i,c⟩ e v=[]:=rfl
theorem zJB(d:Option Nat)(k:IntKind)(x:IX)(g:Option (Nat×Bool))(i:Nat)(c:List Nat)(v:PV):qJ ⟨⟨d,(.conv k x),true,g⟩,i,c⟩ e v=[]:=rfl
theorem zFG(d:Option Nat)(x:IX)(g:Option (Nat×Bool))(i:Nat)(c:List Nat)(v:PV):qJ ⟨⟨d,(.nilCheck x),true,g⟩,i,c⟩ e v=[]:=rfl
theorem zHa(d:Option Nat)(z:List AV)(ps:List (Nat×Nat×IX))(g:Option (Nat×Bool))(i:Nat)(c:List Nat)(v:PV):qJ ⟨⟨d,(.build z ps),true,g⟩,i,c⟩ e v=[]:=rfl
theorem zHZ(d:Option Nat)(a:Bool)(n off:Nat)(x:IX)(g:Option (Nat×Bool))(i:Nat)(c:List Nat)(v:PV):qJ ⟨⟨d,(.field a n off x),true,g⟩,i,c⟩ e v=[]:=rfl
theorem zEW(d:Option Nat)(off:Nat)(x:IX)(g:Option (Nat×Bool))(i:Nat)(c:List Nat)(v:PV):qJ ⟨⟨d,(.fieldAddr off x),true,g⟩,i,c⟩ e v=[]:=rfl
theorem zEV(d:Option Nat)(sz:Nat)(x y:IX)(g:Option (Nat×Bool))(i:Nat)(c:List Nat)(v:PV):qJ ⟨⟨d,(.indexAddr sz x y),true,g⟩,i,c⟩ e v=[]:=rfl
theorem zFI(d:Option Nat)(x y:IX)(g:Option (Nat×Bool))(i:Nat)(c:List Nat)(v:PV):qJ ⟨⟨d,(.indexStr x y),true,g⟩,i,c⟩ e v=[]:=rfl
theorem zGC(d:Option Nat)(x:IX)(j:Nat)(g:Option (Nat×Bool))(i:Nat)(c:List Nat)(v:PV):qJ ⟨⟨d,(.extract x j),true,g⟩,i,c⟩ e v=[]:=rfl
theorem zK4(d:Option Nat)(x:IX)(g:Option (Nat×Bool))(i:Nat)(c:List Nat)(v:PV):qJ ⟨⟨d,(.len x),true,g⟩,i,c⟩ e v=[]:=rfl
theorem zG3(d:Option Nat)(x:IX)(g:Option (Nat×Bool))(i:Nat)(c:List Nat)(v:PV):qJ ⟨⟨d,(.lenStr x),true,g⟩,i,c⟩ e v=[]:=rfl
theorem zK5(d:Option Nat)(x:IX)(g:Option (Nat×Bool))(i:Nat)(c:List Nat)(v:PV):qJ ⟨⟨d,(.cap x),true,g⟩,i,c⟩ e v=[]:=rfl
theorem zHY(d:Option Nat)(sz:Nat)(x:IX)(lo hi mx:Option IX)(g:Option (Nat×Bool))(i:Nat)(c:List Nat)(v:PV):qJ ⟨⟨d,(.slice sz x lo hi mx),true,g⟩,i,c⟩ e v=[]:=rfl
theorem zFF(d:Option Nat)(x:IX)(lo hi:Option IX)(g:Option (Nat×Bool))(i:Nat)(c:List Nat)(v:PV):qJ ⟨⟨d,(.sliceStr x lo hi),true,g⟩,i,c⟩ e v=[]:=rfl
theorem zG2(d:Option Nat)(mx:Bool)(x y:IX)(g:Option (Nat×Bool))(i:Nat)(c:List Nat)(v:PV):qJ ⟨⟨d,(.maxmin mx x y),true,g⟩,i,c⟩ e v=[]:=rfl
theorem zFH(d:Option Nat)(f:FuncId)(y z:List IX)(g:Option (Nat×Bool))(i:Nat)(c:List Nat)(v:PV):qJ ⟨⟨d,(.makeFunc f y z),true,g⟩,i,c⟩ e v=[]:=rfl
theorem zK3(d:Option Nat)(j:Nat)(g:Option (Nat×Bool))(i:Nat)(c:List Nat)(v:PV):qJ ⟨⟨d,(.rev j),true,g⟩,i,c⟩ e v=[]:=rfl
theorem zD9(d:Option Nat)(j m:Nat)(g:Option (Nat×Bool))(i:Nat)(c:List Nat)(v:PV):qJ ⟨⟨d,(.revS j m),true,g⟩,i,c⟩ e v=[]:=rfl
theorem zHP:zA8 none e=true:=rfl
theorem zHO(t:Nat)(b:Bool):zA8 (some (t,b)) e=(match e t with | .bool c=>decide (c=b)|_=>false):=rfl
theorem zK2:Zc [] e h=some []:=rfl
theorem zK1(t:Nat)(r:List IRes):Zc (.tmp t::r) e h=(Zc r e h).map λvs=>e t::vs:=rfl
theorem zI6(t:Nat)(a:Bool)(n:Nat)(r:List IRes):Zc (.cell t a n::r) e h=(pldv a n (e t) h).bind λv=>(Zc r e h).map λvs=>v::vs:=rfl
theorem zI7(res:List IRes):retP res KA .normal e h=optK (Zc res e h) λvs=>KA (packP vs) h:=rfl
theorem zN6(res:List IRes):retP res KA .ret e h=optK (Zc res e h) λvs=>KA (packP vs) h:=rfl
theorem zMr(v:PV):packP [v]=v:=rfl
theorem zMs:packP []=.tup []:=rfl
theorem zMq(u v:PV)(r:List PV):packP (u::v::r)=.tup (u::v::r):=rfl
theorem zMi(cs:List PV):pfill cs []=some cs:=rfl
theorem zLC(cs:List PV)(off size:Nat)(v:PV)(r:List (Nat×Nat×PV)):pfill cs ((off,size,v)::r)=if v.cells.length=size/\off+size<=cs.length/\v.cells.all PV.one=true then pfill (cs.take off++v.cells++cs.drop (off+size)) r else none:=rfl
theorem zLG(k:IntKind)(n:Int):PV.cells (.int k n)=[(.int k n)]:=rfl
theorem zOJ(k:IntKind)(n:Int):PV.one (.int k n)=true:=rfl
theorem zJP(b:Bool):PV.cells (.bool b)=[(.bool b)]:=rfl
theorem zMb(b:Bool):PV.one (.bool b)=true:=rfl
theorem zLE(s:List UInt8):PV.cells (.str s)=[(.str s)]:=rfl
theorem zOH(s:List UInt8):PV.one (.str s)=true:=rfl
theorem zJN:PV.cells .nilp=[.nilp]:=rfl
theorem zMZ:PV.one .nilp=true:=rfl
theorem zJO:PV.cells .nilf=[.nilf]:=rfl
theorem zMa:PV.one .nilf=true:=rfl
theorem zMk(w:Bool)(a:AV)(n:Nat)(cs:List PV):PV.cells (.fz w a n cs)=[(.fz w a n cs)]:=rfl
theorem zPh(w:Bool)(a:AV)(n:Nat)(cs:List PV):PV.one (.fz w a n cs)=true:=rfl
theorem zMl(a:AV)(cs:List PV):PV.cells (.fp a cs)=[(.fp a cs)]:=rfl
theorem zPi(a:AV)(cs:List PV):PV.one (.fp a cs)=true:=rfl
theorem zLF(s i:Nat):PV.cells (.ptr s i)=[(.ptr s i)]:=rfl
theorem zOI(s i:Nat):PV.one (.ptr s i)=true:=rfl
theorem zMj(s o n:Nat)(c:Cap):PV.cells (.sl s o n c)=[(.sl s o n c)]:=rfl
theorem zPg(s o n:Nat)(c:Cap):PV.one (.sl s o n c)=true:=rfl
theorem zLH(f:FuncId)(a b:List PV):PV.cells (.clo f a b)=[(.clo f a b)]:=rfl
theorem zOK(f:FuncId)(a b:List PV):PV.one (.clo f a b)=true:=rfl
theorem zLI(cs:List PV):PV.cells (.agg cs)=cs:=rfl
theorem zCX(k:IntKind)(i:Int)(y:Nat):Ze (.int k i) y=if 0<=i/\i<=y then some i.toNat else none:=rfl
theorem zBP(x:PV)(d y:Nat):zg (some x) d y=Ze x y:=rfl
theorem zBQ(d y:Nat):zg none d y=some d:=rfl
theorem zMV(sz:Nat)(w:Bool)(a:AV)(len:Nat)(cs:List PV)(lo hi:Option PV):Zd sz (.fz w a len cs) lo hi none=(zg hi len len).bind λh=>(zg lo 0 h).bind λl=>some (.fz false (pslA sz a l h) (h-l) ((cs.drop (l*sz)).take ((h-l)*sz))):=rfl
theorem zBL(sz s off len c:Nat)(lo hi mx:Option PV):Zd sz (.sl s off len (.known c)) lo hi mx=(zg mx c c).bind λm=>(zg hi len m).bind λh=>(zg lo 0 h).bind λl=>if hi.isNone=true/\mx.isSome=true then none else some (.sl s (if m=l then off else off+l*sz) (h-l) (.known (m-l))):=rfl
theorem zBM(sz s off len g:Nat)(lo hi:Option PV):Zd sz (.sl s off len (.grown g)) lo hi none=(zg hi len len).bind λh=>(zg lo 0 h).bind λl=>some (.sl s (off+l*sz) (h-l) (.grown (if g=sz then g else 0))):=rfl
theorem zG4(s:List UInt8)(lo hi:Option PV):zBd (.str s) lo hi=(zg hi s.length s.length).bind λh=>(zg lo 0 h).bind λl=>some (.str ((s.take h).drop l)):=rfl
theorem zPm(w:Bool)(a:AV)(n:Nat)(cs:List PV):plen (.fz w a n cs)=some n:=rfl
theorem zPl(s o n:Nat)(c:Cap):plen (.sl s o n c)=some n:=rfl
theorem Q9(sz bytes:Nat)(s x:PV):qU sz bytes h s x=(plen x).bind λm=>if m=0 then(psame s).map λv=>(v,h)else(Zu sz h x m).bind λnews=>pgrow sz bytes h s news m:=rfl
theorem zJI(s o n c:Nat):psame (.sl s o n (.known c))=if n<=c then some (.sl s o n (.known c))else none:=rfl
theorem zMh(sz:Nat)(w:Bool)(a:AV)(len:Nat)(cs:List PV)(n:Nat):Zu sz h (.fz w a len cs) n=if n=0 then some []else if n<=len/\n*sz<=cs.length/\0<sz then some (cs.take (n*sz))else none:=rfl
theorem Qv(sz s off len:Nat)(c:Cap)(n:Nat):Zu sz h (.sl s off len c) n=if n=0 then some []else if n<=len then h.rd s off (n*sz)else none:=rfl
theorem zFN(sz bytes:Nat)(w:Bool)(n:Nat)(cs news:List PV)(m:Nat):pgrow sz bytes h (.fz w .nils n cs) news m=if m*bytes<=140737488355328/\m<=4611686018427387904 then some (.sl h.next 0 m (.grown sz),h.new news)else none:=rfl
theorem zAc(sz bytes s off len c:Nat)(news:List PV)(m:Nat):pgrow sz bytes h (.sl s off len (.known c)) news m=if len+m<=c then(h.wr s (off+len*sz) news).map λσ'=>(.sl s off (len+m) (.known c),σ')else if (len+m)*bytes<=140737488355328/\len+m<=4611686018427387904 then(h.rd s off (len*sz)).map λeX=>(.sl h.next 0 (len+m) (.grown sz),h.new (eX++news))else none:=rfl
theorem zAd(sz bytes s off len g:Nat)(news:List PV)(m:Nat):pgrow sz bytes h (.sl s off len (.grown g)) news m=if (len+m)*bytes<=140737488355328/\len+m<=4611686018427387904/\g=sz then(h.obj s).bind λcs=>if off+len*sz<=cs.length then some (.sl h.next 0 (len+m) (.grown sz),(h.kill s).new ((cs.drop off).take (len*sz)++news))else none else none:=rfl
theorem zHk(cs:List PV)(s i:Nat):(h.new cs).rd1 s i=if s=h.next then cs[i]? else h.rd1 s i:=by by_cases x:s=h.next<;>simp[PHeap.rd1,PHeap.new,x]
theorem zAT(cs:List PV)(s i n:Nat):(h.new cs).rd s i n=if s=h.next then(if i+n<=cs.length then some ((cs.drop i).take n)else none)else h.rd s i n:=by by_cases x:s=h.next<;>simp[PHeap.rd,PHeap.new,x]
theorem zP(cs:List PV)(s:Nat):(h.new cs).obj s=if s=h.next then some cs else h.obj s:=rfl
theorem zPb(cs:List PV)(s i:Nat)(vs:List PV):(h.new cs).wr s i vs=if s=h.next then(if i+vs.length<=cs.length/\vs.all PV.one=true then some (h.new (cs.take i++vs++cs.drop (i+vs.length)))else none)else(h.wr s i vs).map λh'=>h'.new cs:=by
 by_cases x:s=h.next
 .subst x;simp only[PHeap.wr,PHeap.new,if_true,Option.bind_some];split
  .congr 1;simp only[PHeap.set];congr 1;funext y;by_cases hy:y=h.next<;>simp[hy]
  .rfl
 .simp only[PHeap.wr,PHeap.new,if_neg x];cases ho:h.obj s with
  |none=>rfl
  |some ob=>
   simp only[Option.bind_some];split
   .simp only[Option.map_some,PHeap.set];congr 2;funext y;by_cases hy:y=s
    .subst hy;simp[x]
    .simp[hy]
   .rfl
theorem zMd(cs:List PV):(h.new cs).next=h.next+1:=rfl
theorem zHh(cs:List PV):(h.new cs).top=h.top:=rfl
theorem zOE(cs:List PV)(s:Nat)(ds:List PV):(h.new cs).set s ds=if s=h.next then h.new ds else(h.set s ds).new cs:=by
 by_cases x:s=h.next
 .subst x;rw[if_pos rfl];simp only[PHeap.set,PHeap.new];congr 1;funext y;by_cases hy:y=h.next<;>simp[hy]
 .rw[if_neg x];simp only[PHeap.set,PHeap.new];congr 1;funext y;by_cases hy:y=s
  .subst hy;simp[x]
  .simp[hy]
theorem zAS(s:Nat)(cs ds:List PV):(h.set s cs).set s ds=h.set s ds:=by
 simp only[PHeap.set];congr 1;funext y;by_cases hy:y=s<;>simp[hy]
theorem zMc(s:Nat)(cs:List PV):(h.set s cs).next=h.next:=rfl
theorem zLA(s:Nat):(h.kill s).next=h.next:=rfl
theorem zOL(t:Nat):(h.up t).next=h.next:=rfl
theorem zKM(t:Nat):(h.up t).top=t:=rfl
theorem zPk(t:Nat)(cs:List PV):(h.up t).new cs=(h.new cs).up t:=rfl
theorem zPf(t s i:Nat):(h.up t).rd1 s i=h.rd1 s i:=rfl
theorem zQj(t s i n:Nat):(h.up t).rd s i n=h.rd s i n:=rfl
theorem zPj(t s:Nat):(h.up t).obj s=h.obj s:=rfl
theorem zQh(t s i:Nat)(vs:List PV):(h.up t).wr s i vs=(h.wr s i vs).map λh'=>h'.up t:=by
 simp only[PHeap.wr,PHeap.up];cases h.obj s with
 |none=>rfl
 |some cs=>simp only[Option.bind_some];split<;>rfl
theorem zGf(s t:Nat):(h.kill s).obj t=if t=s then none else h.obj t:=rfl
theorem zH(s:Nat)(cs:List PV)(t:Nat):(h.set s cs).obj t=if t=s then some cs else h.obj t:=rfl
theorem zMW(s t i:Nat):(h.kill s).rd1 t i=if t=s then none else h.rd1 t i:=by by_cases x:t=s<;>simp[PHeap.rd1,PHeap.kill,x]
theorem zOF(s t i n:Nat):(h.kill s).rd t i n=if t=s then none else h.rd t i n:=by by_cases x:t=s<;>simp[PHeap.rd,PHeap.kill,x]
theorem zEX(s:Nat)(cs:List PV)(t i:Nat):(h.set s cs).rd1 t i=if t=s then cs[i]? else h.rd1 t i:=by by_cases x:t=s<;>simp[PHeap.rd1,PHeap.set,x]
theorem qh(s:Nat)(cs:List PV)(t i n:Nat):(h.set s cs).rd t i n=if t=s then(if i+n<=cs.length then some ((cs.drop i).take n)else none)else h.rd t i n:=by by_cases x:t=s<;>simp[PHeap.rd,PHeap.set,x]
theorem zPa(s:Nat)(cs:List PV)(i:Nat)(vs:List PV):(h.set s cs).wr s i vs=if i+vs.length<=cs.length/\vs.all PV.one=true then some (h.set s (cs.take i++vs++cs.drop (i+vs.length)))else none:=by
 simp only[PHeap.wr,PHeap.set,if_true,Option.bind_some];split
 .congr 2;funext y;by_cases hy:y=s<;>simp[hy]
 .rfl
end
def pw0:=And.intro @zPK <| And.intro @zL3 <| And.intro @zPM <| And.intro @zQY <| And.intro @zPN <| And.intro @zNx <| And.intro @zPL <| And.intro @zQZ <| And.intro @zQR <| And.intro @RVp_q <| And.intro @RVp_e <| And.intro @zQU <| And.intro @DVp_q <| And.intro @DVp_e <| And.intro @zOu <| And.intro @zOt <| And.intro @zOw <| And.intro @zOv <| And.intro @zJL <| And.intro @zHu <| And.intro @zLD <| And.intro @zJM <| And.intro @zHs <| And.intro @zHq <| And.intro @zHp <| And.intro @zHr <| And.intro @pv_t <| And.intro @pv_c <| And.intro @zOM <| @zMX
def pw1:=And.intro @zMY <| And.intro @qp_mv <| And.intro @zPX <| And.intro @zQg <| And.intro @qp_un <| And.intro @zPZ <| And.intro @zJD <| And.intro @zOD <| And.intro @zOC <| And.intro @zHe <| And.intro @zHd <| And.intro @zJF <| And.intro @zK7 <| And.intro @zQe <| And.intro @zMS <| And.intro @zQf <| And.intro @zOB <| And.intro @zJC <| And.intro @zMR <| And.intro @zJE <| And.intro @zPY <| And.intro @zQd <| And.intro @zPW <| And.intro @zO3 <| And.intro @zQ2 <| And.intro @zLo <| And.intro @zO1 <| And.intro @zLO <| And.intro @zNY <| And.intro @zJ4 <| @zJa
def pw2:=And.intro @zMt <| And.intro @zNZ <| And.intro @zQH <| And.intro @zQI <| And.intro @zO2 <| And.intro @zLS <| And.intro @zOg <| And.intro @of_bool <| And.intro @of_int <| And.intro @zQo <| And.intro @zPx <| And.intro @zPy <| And.intro @zPw <| And.intro @zQp <| And.intro @zQq <| And.intro @zPv <| And.intro @zOf <| And.intro @zPu <| And.intro @zOb <| And.intro @zOR <| And.intro @zOV <| And.intro @zOa <| And.intro @zOU <| And.intro @zOW <| And.intro @zOX <| And.intro @zOY <| And.intro @zOZ <| And.intro @zOT <| And.intro @zOS <| @zLM
def pw3:=And.intro @zMp <| And.intro @zLN <| And.intro @zMo <| And.intro @zMn <| And.intro @zLL <| And.intro @zJU <| And.intro @zLK <| And.intro @zJT <| And.intro @zJS <| And.intro @zJR <| And.intro @zJQ <| And.intro @zJ0 <| And.intro @zNQ <| And.intro @zPe <| And.intro @zPd <| And.intro @zLP <| And.intro @zJW <| And.intro @zMw <| And.intro @zOc <| And.intro @zOd <| And.intro @zPp <| And.intro @zLR <| And.intro @zLQ <| And.intro @zGE <| And.intro @zG7 <| And.intro @zMu <| And.intro @zMv <| And.intro @zJZ <| And.intro @zHx <| @zPr
def pw4:=And.intro @zPq <| And.intro @zJY <| And.intro @zMx <| And.intro @zPs <| And.intro @zJX <| And.intro @zMg <| And.intro @zMf <| And.intro @zOO <| And.intro @zON <| And.intro @zMe <| And.intro @zLB <| And.intro @zL2 <| And.intro @zJ9 <| And.intro @zKA <| And.intro @zJA <| And.intro @zMP <| And.intro @zI9 <| And.intro @zK6 <| And.intro @zMN <| And.intro @zJB <| And.intro @zFG <| And.intro @zHa <| And.intro @zHZ <| And.intro @zEW <| And.intro @zEV <| And.intro @zFI <| And.intro @zGC <| And.intro @zK4 <| And.intro @zG3 <| @zK5
def pw5:=And.intro @zHY <| And.intro @zFF <| And.intro @zG2 <| And.intro @zFH <| And.intro @zK3 <| And.intro @zD9 <| And.intro @zHP <| And.intro @zHO <| And.intro @zK2 <| And.intro @zK1 <| And.intro @zI6 <| And.intro @zI7 <| And.intro @zN6 <| And.intro @zMr <| And.intro @zMs <| And.intro @zMq <| And.intro @zMi <| And.intro @zLC <| And.intro @zLG <| And.intro @zOJ <| And.intro @zJP <| And.intro @zMb <| And.intro @zLE <| And.intro @zOH <| And.intro @zJN <| And.intro @zMZ <| And.intro @zJO <| And.intro @zMa <| And.intro @zMk <| And.intro @zPh <| @zMl
def pw6:=And.intro @zPi <| And.intro @zLF <| And.intro @zOI <| And.intro @zMj <| And.intro @zPg <| And.intro @zLH <| And.intro @zOK <| And.intro @zLI <| And.intro @zCX <| And.intro @zBP <| And.intro @zBQ <| And.intro @zMV <| And.intro @zBL <| And.intro @zBM <| And.intro @zG4 <| And.intro @zPm <| And.intro @zPl <| And.intro @zHk <| And.intro @zAT <| And.intro @zP <| And.intro @zPb <| And.intro @zMd <| And.intro @zHh <| And.intro @zOE <| And.intro @zAS <| And.intro @zMc <| And.intro @zLA <| And.intro @zOL <| And.intro @zKM <| @zPk
def pw7:=And.intro @zPf <| And.intro @zQj <| And.intro @zPj <| And.intro @zQh <| And.intro @zGf <| And.intro @zH <| And.intro @zMW <| And.intro @zOF <| And.intro @zEX <| And.intro @qh <| And.intro @zPa <| And.intro @zBg <| And.intro @zAj <| And.intro @zMy <| And.intro @zOe <| And.intro @List.map_cons.{0,0} <| And.intro @List.map_nil.{0,0} <| And.intro @List.length_cons.{0} <| And.intro @List.length_nil.{0} <| And.intro @List.getElem?_cons_zero.{0} <| And.intro @List.getElem?_cons_succ.{0} <| And.intro @List.take_succ_cons.{0} <| And.intro @List.take_zero.{0} <| And.intro @List.drop_succ_cons.{0} <| And.intro @List.drop_zero.{0} <| And.intro @List.take_nil.{0} <| And.intro @List.drop_nil.{0} <| And.intro @List.nil_append.{0} <| And.intro @List.cons_append.{0} <| @List.append_nil.{0}
def pw8:=And.intro @List.all_cons.{0} <| And.intro @List.all_nil.{0} <| And.intro @List.contains_cons.{0} <| And.intro @List.contains_nil.{0} <| And.intro @Option.map_some.{0,0} <| And.intro @Option.map_none.{0,0} <| And.intro @Option.bind_some.{0,0} <| And.intro @Option.bind_none.{0,0} <| And.intro @decide_true <| And.intro @decide_false <| And.intro @Bool.not_true <| And.intro @Bool.not_false <| And.intro @Bool.and_true <| And.intro @Bool.true_and <| And.intro @Bool.and_self <| And.intro @Bool.or_false <| And.intro @Bool.or_true <| And.intro @Bool.true_or <| And.intro @Bool.false_or <| And.intro @true_and <| And.intro @and_true <| And.intro @Bool.true_eq_false <| And.intro @Bool.false_eq_true <| And.intro @Nat.left_eq_add <| And.intro @Nat.add_eq_left <| And.intro @Nat.succ_ne_self <| And.intro @Nat.one_ne_zero <| And.intro @Nat.add_left_cancel_iff <| And.intro @Nat.add_assoc <| @Nat.mul_one
def pw9:=And.intro @Nat.zero_add <| And.intro @Nat.add_zero <| And.intro @vM <| And.intro @Nat.lt_add_one <| And.intro @Int.toNat_natCast <| And.intro @Int.natCast_nonneg <| And.intro @Int.ofNat_lt <| And.intro @Int.le_refl <| And.intro @zKu <| And.intro @zKv <| And.intro @zHM <| And.intro @Nat.one_mul <| @Nat.zero_mul
def Z3:=And.intro pw0 <| And.intro pw1 <| And.intro pw2 <| And.intro pw3 <| And.intro pw4 <| And.intro pw5 <| And.intro pw6 <| And.intro pw7 <| And.intro pw8 <| And.intro pw9 <| And.intro @nm_eq <| And.intro @eq_self.{1} <| And.intro @Int.ofNat_le @List.getElem?_drop.{0}
end Go.Ab
set_option linter.unusedVariables false
set_option linter.unusedSimpArgs false
namespace Go.Ab
section
variable{P:Program}
@[congr] theorem cg_vp {c:IC} {Q:Exit->PEnv->PHeap->Prop} {e e':PEnv} {h h':PHeap} (h1:nm e=e') (h2:h=h'):vp P c Q e h=vp P c Q e' h':=by rw[nm_eq]at h1;rw[h1,h2]
@[congr] theorem zRY {aQ:List II} {K:PEnv->PHeap->Prop} {e e':PEnv} {h h':PHeap} (h1:nm e=e') (h2:h=h'):RVp P aQ e h K=RVp P aQ e' h' K:=by rw[nm_eq]at h1;rw[h1,h2]
@[congr] theorem zRa {nb tL nr Ep:Nat} {aQ:List DI} {recs bN:List RecP} {K:PEnv->PHeap->Prop} {e e':PEnv} {h h':PHeap} (h0:nm nb=tL) (h4:nr=Ep) (h1:recs=bN) (h2:e=e') (h3:h=h'):DVp P nb nr aQ recs e h K=DVp P tL Ep aQ bN e' h' K:=by rw[nm_eq]at h0;rw[h0,h1,h2,h3,h4]
@[congr] theorem zRV {it:II} {K:PV->PHeap->Prop} {e e':PEnv} {h h':PHeap} (h1:nm e=e') (h2:h=h'):gep P it e h K=gep P it e' h' K:=by rw[nm_eq]at h1;rw[h1,h2]
@[congr] theorem cg_ep {op:IOp} {K:PV->PHeap->Prop} {e e':PEnv} {h h':PHeap} (h1:nm e=e') (h2:h=h'):ep P op e h K=ep P op e' h' K:=by rw[nm_eq]at h1;rw[h1,h2]
@[congr] theorem zRO {f:FuncId} {K:PV->PHeap->Prop} {args c9:List PV} {h h':PHeap} (h1:nm args=c9) (h2:h=h'):zA P f args h K=zA P f c9 h' K:=by rw[nm_eq]at h1;rw[h1,h2]
@[congr] theorem zRI {n:Nat} {K:PV->PHeap->Prop} {x x' v v':PV} {h h':PHeap} (h0:nm x=x') (h1:v=v') (h2:h=h'):zFO n x v h K=zFO n x' v' h' K:=by rw[nm_eq]at h0;rw[h0,h1,h2]
@[congr] theorem zRQ {sz b:Nat} {z:List AV} {K:PV->PHeap->Prop} {x x' v v':PV} {h h':PHeap} (h0:nm x=x') (h1:v=v') (h2:h=h'):pMake sz b z x v h K=pMake sz b z x' v' h' K:=by rw[nm_eq]at h0;rw[h0,h1,h2]
@[congr] theorem zRK {sz b:Nat} {z:List AV} {K:PV->PHeap->Prop} {x x' v v':PV} {h h':PHeap} (h0:nm x=x') (h1:v=v') (h2:h=h'):zFQ sz b z x v h K=zFQ sz b z x' v' h' K:=by rw[nm_eq]at h0;rw[h0,h1,h2]
@[congr] theorem zRJ {K:PV->PHeap->Prop} {f f':PV} {args c9:List PV} {h h':PHeap} (h0:nm f=f') (h1:args=c9) (h2:h=h'):zFP P f args h K=zFP P f' c9 h' K:=by rw[nm_eq]at h0;rw[h0,h1,h2]
@[congr] theorem zRH {v v':PV} {a b:Prop} (h0:nm v=v'):Zv v a b=Zv v' a b:=by rw[nm_eq]at h0;rw[h0]
@[congr] theorem zRG {v v':PV} {b:Bool} {x y:Prop} (h0:nm v=v'):Zt v b x y=Zt v' b x y:=by rw[nm_eq]at h0;rw[h0]
end
def pis(xs:V1):List PV:=xs.map (.int .i64)
theorem zOQ(x:Int)(xs:V1):pis (x::xs)=.int .i64 x::pis xs:=rfl
theorem zJ(xs:V1):(pis xs).length=xs.length:=by simp[pis]
theorem zU(xs:V1)(k:Nat):(pis xs)[k]? = (xs[k]?).map (.int .i64):=by simp[pis]
theorem zB8(xs:V1)(k:Nat)(x:Int):(pis xs).set k (.int .i64 x)=pis (xs.set k x):=by simp[pis,List.map_set]
theorem zA2(xs ys:V1):pis xs++pis ys=pis (xs++ys):=by simp[pis]
theorem zEZ(xs:V1)(k:Nat):(pis xs).take k=pis (xs.take k):=by simp[pis,List.map_take]
theorem zOP(xs:V1)(k:Nat):(pis xs).drop k=pis (xs.drop k):=by simp[pis,List.map_drop]
theorem qA(n:Nat)(x:Int):List.replicate n (PV.int .i64 x)=pis (List.replicate n x):=by simp[pis]
theorem zL(n:Nat)(xs:V1):Bels n (pis xs):=by
 induction xs with
 |nil=>trivial
 |cons x xs ih=>exact⟨trivial,ih⟩
theorem zX{xs:V1}{i:Nat}(hi:i<xs.length){x:Int}:(pis xs).take i++[.int .i64 x]++(pis xs).drop (i+1)=pis (xs.set i x):=by
 rw[<-zB8,List.set_eq_take_append_cons_drop,if_pos (by rw[zJ];exact hi),List.append_assoc,List.singleton_append]
theorem zAP{h:PHeap}{s:Nat}{cs:List PV}(hs:h.obj s=some cs):h.set s cs=h:=by
 cases h with
 |mk n t f=>
  simp only[PHeap.set];congr 1;funext y;by_cases hy:y=s
  .subst hy;simp at hs ⊢;exact hs.symm
  .simp[hy]
theorem take_set{α:Type}(xs:List α){i:Nat}(hi:i<xs.length)(v:α):xs.take i++v::xs.drop (i+1)=xs.set i v:=by
 rw[List.set_eq_take_append_cons_drop,if_pos hi]
theorem gi{α:Type}{xs:List α}{i:Nat}(hi:i<xs.length):xs[i]? = some xs[i]:=List.getElem?_eq_getElem hi
def sm(a:Int):Prop:=-4611686018427387904<=a/\a<=4611686018427387904
theorem sm.w{a:Int}(h:sm a):IntKind.i64.wrap a=a:=wrap64 (by have:=h.1;omega) (by have:=h.2;omega)
theorem mk8{n:Nat}(h:n<=4294967296):(n:Int)*((8:Nat):Int)<=140737488355328:=by omega
theorem mk24{n:Nat}(h:n<=4294967296):(n:Int)*((24:Nat):Int)<=140737488355328:=by omega
theorem mkL{n:Nat}(h:n<=4294967296):(n:Int)<=9223372036854775807:=by omega
def subm(k:Int)(xs ys:V1):V1:=List.zipWith (λx y=>x-k*y) xs ys
theorem zD7{k:Int}{xs ys:V1}(h:xs.length<=ys.length):(subm k xs ys).length=xs.length:=by simp[subm];omega
theorem zN0{k:Int}{xs ys:V1}{i:Nat}(h1:i<xs.length)(h2:i<ys.length):(subm k xs ys)[i]? = some (xs[i] - k*ys[i]):=by
 simp[subm,List.getElem?_zipWith,gi h1,gi h2]
def FI(v:PV)(xs:V1):Prop:=∃w a,v=.fz w a xs.length (pis xs)
def FL{α:Type}(R:PV->α->Prop)(v:PV)(xs:List α):Prop:=∃w a rows,v=.fz w a xs.length rows/\All2 R rows xs
abbrev FII:PV->V2->Prop:=FL FI
abbrev FIII:PV->V3->Prop:=FL FII
theorem FI.one{v:PV}{xs:V1}(h:FI v xs):v.one=true:=by obtain⟨w,a,rfl⟩:=h;rfl
theorem FI.cells{v:PV}{xs:V1}(h:FI v xs):v.cells=[v]:=by obtain⟨w,a,rfl⟩:=h;rfl
theorem FI.bel{v:PV}{xs:V1}(h:FI v xs)(n:Nat):Bel n v:=by obtain⟨w,a,rfl⟩:=h;trivial
theorem FL.one{α:Type}{R:PV->α->Prop}{v:PV}{xs:List α}(h:FL R v xs):v.one=true:=by obtain⟨w,a,r,rfl,_⟩:=h;rfl
theorem FL.cells{α:Type}{R:PV->α->Prop}{v:PV}{xs:List α}(h:FL R v xs):v.cells=[v]:=by obtain⟨w,a,r,rfl,_⟩:=h;rfl
theorem FL.bel{α:Type}{R:PV->α->Prop}{v:PV}{xs:List α}(h:FL R v xs)(n:Nat):Bel n v:=by obtain⟨w,a,r,rfl,_⟩:=h;trivial
theorem FI.sb{v:PV}{xs:V1}(h:FI v xs)(s o:Nat)(cs:List PV):sb s o cs v=v:=by obtain⟨w,a,rfl⟩:=h;rfl
theorem FL.sb{α:Type}{R:PV->α->Prop}{v:PV}{xs:List α}(h:FL R v xs)(s o:Nat)(cs:List PV):sb s o cs v=v:=by obtain⟨w,a,r,rfl,_⟩:=h;rfl
theorem All2.rowI{rows:List PV}{mI:V2}(h:All2 FI rows mI){k:Nat}(hk:k<mI.length):∃w a,rows[k]? = some (.fz w a mI[k].length (pis mI[k])):=by
 obtain⟨r,h1,w,a,rfl⟩:=h.get hk;exact⟨w,a,h1⟩
theorem All2.rowL{α:Type}{R:PV->α->Prop}{rows:List PV}{mI:List (List α)}(h:All2 (FL R) rows mI){k:Nat}(hk:k<mI.length):∃w a rs,rows[k]? = some (.fz w a mI[k].length rs)/\All2 R rs mI[k]:=by
 obtain⟨r,h1,w,a,rs,rfl,h2⟩:=h.get hk;exact⟨w,a,rs,h1,h2⟩
theorem All2.bels{α:Type}{R:PV->α->Prop}{n:Nat}{rows:List PV}{xs:List α}(h:All2 R rows xs)(hb:∀v x,R v x->Bel n v):Bels n rows:=by
 rw[zE2];intro c hc;obtain⟨k,hk,rfl⟩:=List.mem_iff_getElem.1 hc;exact hb _ _ (h.2 k _ (xs[k]'(by rw[<-h.1];exact hk)) (List.getElem?_eq_getElem hk) (List.getElem?_eq_getElem _))
theorem All2.bI{rows:List PV}{xs:V2}(h:All2 FI rows xs)(n:Nat):Bels n rows:=h.bels λ_ _ k=>k.bel n
theorem All2.bL{α:Type}{R:PV->α->Prop}{rows:List PV}{xs:List (List α)}(h:All2 (FL R) rows xs)(n:Nat):Bels n rows:=h.bels λ_ _ k=>k.bel n
theorem All2.take{α β:Type}{R:α->β->Prop}{as:List α}{bs:List β}(h:All2 R as bs)(k:Nat):All2 R (as.take k) (bs.take k):=by
 refine⟨by simp[h.1],λj a b ha hb=>?_⟩;rw[List.getElem?_take]at ha hb;split at ha
 .exact h.2 j a b ha (by simpa [*]using hb)
 .cases ha
theorem All2.drop{α β:Type}{R:α->β->Prop}{as:List α}{bs:List β}(h:All2 R as bs)(k:Nat):All2 R (as.drop k) (bs.drop k):=by
 refine⟨by simp[h.1],λj a b ha hb=>?_⟩;rw[List.getElem?_drop]at ha hb;exact h.2 _ a b ha hb
theorem All2.append{α β:Type}{R:α->β->Prop}{as cs:List α}{bs ds:List β}(h:All2 R as bs)(g:All2 R cs ds):All2 R (as++cs) (bs++ds):=by
 refine⟨by simp[h.1,g.1],λj a b ha hb=>?_⟩;rcases Nat.lt_or_ge j as.length with x|x
 .rw[List.getElem?_append_left x]at ha;rw[List.getElem?_append_left (by rw[<-h.1];exact x)]at hb;exact h.2 j a b ha hb
 .rw[List.getElem?_append_right x]at ha;rw[List.getElem?_append_right (by rw[<-h.1];exact x),<-h.1]at hb;exact g.2 _ a b ha hb
theorem zG{P:Program}{Q:Exit->PEnv->PHeap->Prop}{e:PEnv}{h:PHeap}{S:List Nat}{c:IC}(I:Nat->List PV->PHeap->Prop)(n:Nat)(h0:I n (S.map e) h)
  (round:∀n vs h,I n vs h->vp P c (λx e' h'=>match x with | .normal=>∃n',n'<n/\I n' (S.map e') h'|x=>Q x e' h') (PEnv.mk S vs) h):vp P (.loop S c) Q e h:=
 ⟨I,⟨n,.here h0⟩,λn vs h hI=>zAN c (λx e h k=>by cases x<;>first|exact k.imp λ_ q=>⟨q.1,.here q.2⟩|exact k) (round n vs h hI)⟩
theorem ZG{P:Program}{Q:Exit->PEnv->PHeap->Prop}{e:PEnv}{h:PHeap}{S:List Nat}{c:IC}(I:Nat->List PV->PHeap->Prop)(n:Nat)(h0:GL (I n) (S.map e) h)
  (round:∀n vs h,I n vs h->vp P c (λx e' h'=>match x with | .normal=>∃n',n'<n/\GL (I n') (S.map e') h'|x=>Q x e' h') (PEnv.mk S vs) h):vp P (.loop S c) Q e h:=⟨I,⟨n,h0⟩,round⟩
theorem iteI{c:Prop}[Decidable c]{A B:Prop}(h1:c->A)(h2:¬c->B):if c then A else B:=by
 by_cases h:c
 .rw[if_pos h];exact h1 h
 .rw[if_neg h];exact h2 h
theorem pkt{K:PV->PHeap->Prop}{h:PHeap}{p:Prop}[Decidable p](hk:K (.bool (decide p)) h)(hp:p):K (.bool true) h:=by
 rw[decide_eq_true hp]at hk;exact hk
theorem pkf{K:PV->PHeap->Prop}{h:PHeap}{p:Prop}[Decidable p](hk:K (.bool (decide p)) h)(hp:¬p):K (.bool false) h:=by
 rw[decide_eq_false hp]at hk;exact hk
theorem pke{K:PV->PHeap->Prop}{h:PHeap}{p q:Prop}[Decidable p][Decidable q](hk:K (.bool (decide p)) h)(hp:p↔q):K (.bool (decide q)) h:=by
 have:decide q=decide p:=decide_eq_decide.2 hp.symm
 rw[this];exact hk
theorem zC(σ:PHeap)(cs:List PV):Keep σ (σ.new cs):=(Keep.refl σ).new cs
theorem Keep.setN{σ0 σ1:PHeap}{cs:List PV}(a:Keep (σ0.new cs) σ1)(ds:List PV):Keep (σ0.new ds) (σ1.set σ0.next ds):=
 ⟨a.next,a.top,λt ht=>by
  by_cases e:t=σ0.next
  .subst e;simp[PHeap.set,PHeap.new]
  .have:=a.obj t ht
   simp only[PHeap.set,PHeap.new,if_neg e]at this ⊢;exact this⟩
theorem Keep.of{σ0 σ1:PHeap}{cs:List PV}(a:Keep (σ0.new cs) σ1):Keep σ0 σ1:=(zC σ0 cs).trans a
theorem Keep.rd1{σ0 σ1:PHeap}(a:Keep σ0 σ1){s:Nat}(hs:s<σ0.next)(i:Nat):σ1.rd1 s i=σ0.rd1 s i:=by simp only[PHeap.rd1,a.obj s hs]
theorem Keep.rd{σ0 σ1:PHeap}(a:Keep σ0 σ1){s:Nat}(hs:s<σ0.next)(i n:Nat):σ1.rd s i n=σ0.rd s i n:=by simp only[PHeap.rd,a.obj s hs]
theorem zI{h:PHeap}{s:Nat}{cs:List PV}(ho:h.obj s=some cs)(i:Nat):h.rd1 s i=cs[i]?:=by simp[PHeap.rd1,ho]
theorem ze{h:PHeap}{s:Nat}{cs:List PV}(ho:h.obj s=some cs)(i n:Nat):h.rd s i n=if i+n<=cs.length then some ((cs.drop i).take n)else none:=by simp[PHeap.rd,ho]
theorem qC{h:PHeap}{s:Nat}{cs:List PV}(ho:h.obj s=some cs)(i:Nat)(vs:List PV):h.wr s i vs=if i+vs.length<=cs.length/\vs.all PV.one=true then some (h.set s (cs.take i++vs++cs.drop (i+vs.length)))else none:=by simp[PHeap.wr,ho]
def full(e:Nat)(cap:Cap)(n:Nat):Prop:=cap=.grown e\/cap=.known n
theorem full.ok{e n:Nat}{cap:Cap}(h:full e cap n):capOK cap n=true:=by
 rcases h with rfl|rfl
 .rfl
 .simp[capOK]
def PSl(b e:Nat)(h:PHeap)(v:PV)(n:Nat)(cs:List PV):Prop:=∃s cap,v=.sl s 0 n cap/\full e cap n/\h.obj s=some cs/\cs.length=n*e/\b<=s/\s<h.next
def PAcc(b e:Nat)(h:PHeap)(v:PV)(n:Nat)(cs:List PV):Prop:=
 (v=.fz true .nils 0 []/\n=0/\cs=[])\/PSl b e h v n cs
theorem PAcc.nil(b e:Nat)(h:PHeap):PAcc b e h (.fz true .nils 0 []) 0 []:=.inl ⟨rfl,rfl,rfl⟩
theorem PSl.own{b e n s:Nat}{h:PHeap}{cap:Cap}{cs:List PV}(hc:full e cap n)(ho:h.obj s=some cs)(hl:cs.length=n*e)(hb:b<=s)(hs:s<h.next):PSl b e h (.sl s 0 n cap) n cs:=⟨s,cap,rfl,hc,ho,hl,hb,hs⟩
theorem PSl.acc{b e n:Nat}{h:PHeap}{v:PV}{cs:List PV}(a:PSl b e h v n cs):PAcc b e h v n cs:=.inr a
theorem PSl.new(b e:Nat){h:PHeap}{n:Nat}{cs:List PV}(hl:cs.length=n*e)(hb:b<=h.next):PSl b e (h.new cs) (.sl h.next 0 n (.known n)) n cs:=⟨_,_,rfl,.inr rfl,by simp[PHeap.new],hl,hb,by simp[PHeap.new]⟩
theorem PSl.keep{b e n:Nat}{h h':PHeap}{v:PV}{cs:List PV}(a:PSl b e h v n cs)(hk:Keep h h'):PSl b e h' v n cs:=by
 obtain⟨s,cap,rfl,h1,h2,h3,h4,h5⟩:=a;exact⟨s,cap,rfl,h1,by rw[hk.obj s h5];exact h2,h3,h4,Nat.lt_of_lt_of_le h5 hk.next⟩
theorem PSl.one{b e n:Nat}{h:PHeap}{v:PV}{cs:List PV}(a:PSl b e h v n cs):v.one=true:=by obtain⟨s,cap,rfl,_⟩:=a;rfl
theorem PSl.cells{b e n:Nat}{h:PHeap}{v:PV}{cs:List PV}(a:PSl b e h v n cs):v.cells=[v]:=by obtain⟨s,cap,rfl,_⟩:=a;rfl
theorem PAcc.keep{b e n:Nat}{h h':PHeap}{v:PV}{cs:List PV}(a:PAcc b e h v n cs)(hk:Keep h h'):PAcc b e h' v n cs:=by
 rcases a with ⟨rfl,rfl,rfl⟩|⟨s,cap,rfl,h1,h2,h3,h4,h5⟩
 .exact PAcc.nil _ _ _
 .exact .inr ⟨s,cap,rfl,h1,by rw[hk.obj s h5];exact h2,h3,h4,Nat.lt_of_lt_of_le h5 hk.next⟩
theorem PAcc.one{b e n:Nat}{h:PHeap}{v:PV}{cs:List PV}(a:PAcc b e h v n cs):v.one=true:=by
 rcases a with ⟨rfl,rfl,rfl⟩|⟨s,cap,rfl,_⟩<;>rfl
theorem PAcc.cells{b e n:Nat}{h:PHeap}{v:PV}{cs:List PV}(a:PAcc b e h v n cs):v.cells=[v]:=by
 rcases a with ⟨rfl,rfl,rfl⟩|⟨s,cap,rfl,_⟩<;>rfl
theorem PSl.app{σb h:PHeap}{b e bytes n m:Nat}{v x:PV}{cs news:List PV}{K:PV×PHeap->Prop}(hk:Keep σb h)(hb:b<=σb.next)(a:PSl σb.next e h v n cs)(hx:plen x=some m)(hf:m≠0->Zu e h x m=some news)(hl:news.length=m*e)
  (h1:(n+m)*bytes<=140737488355328) (h2:n+m<=4611686018427387904) (k:∀v' h',Keep σb h'->PSl σb.next e h' v' (n+m) (cs++news)->K (v',h')):optK (qU e bytes h v x) K:=by
 rw[Q9,hx];simp only[Option.bind_some];obtain⟨s,cap,rfl,hc,q2,q3,q4,q5⟩:=a;by_cases h0:m=0
 .rw[if_pos h0];subst h0
  have:news=[]:=List.eq_nil_of_length_eq_zero (by omega)
  subst this;rcases hc with rfl|rfl
  .refine ZL rfl (k _ _ hk ?_);rw[List.append_nil,Nat.add_zero];exact⟨s,_,rfl,.inl rfl,q2,q3,q4,q5⟩
  .rw[zJI,if_pos (vM _)];refine ZL rfl (k _ _ hk ?_);rw[List.append_nil,Nat.add_zero];exact⟨s,_,rfl,.inr rfl,q2,q3,q4,q5⟩
 .rw[if_neg h0,hf h0];simp only[Option.bind_some];have hn:=hk.next;rcases hc with rfl|rfl
  .rw[zAd,if_pos ⟨h1,h2,rfl⟩,q2];simp only[Option.bind_some];rw[if_pos (by omega),List.drop_zero];refine ZL rfl (k _ _ ((hk.kill q4).new _) ?_);rw[List.take_of_length_le (by omega)];exact⟨h.next,_,rfl,.inl rfl,by simp[PHeap.new,PHeap.kill],by rw[List.length_append,q3,hl,Nat.add_mul],hn,by simp[PHeap.new,PHeap.kill]⟩
  .rw[zAc,if_neg (by omega),if_pos ⟨h1,h2⟩,ze q2,if_pos (by omega),List.drop_zero,List.take_of_length_le (by omega)];simp only[Option.map_some];refine ZL rfl (k _ _ (hk.new _) ?_);exact⟨h.next,_,rfl,.inl rfl,by simp[PHeap.new],by rw[List.length_append,q3,hl,Nat.add_mul],hn,by simp[PHeap.new]⟩
theorem PAcc.app{σb h:PHeap}{b e bytes n m:Nat}{v x:PV}{cs news:List PV}{K:PV×PHeap->Prop}(hk:Keep σb h)(hb:b<=σb.next)(a:PAcc σb.next e h v n cs)(hx:plen x=some m)(hf:m≠0->Zu e h x m=some news)(hl:news.length=m*e)
  (h1:(n+m)*bytes<=140737488355328) (h2:n+m<=4611686018427387904) (k:∀v' h',Keep σb h'->PAcc σb.next e h' v' (n+m) (cs++news)->(0<n+m->PSl σb.next e h' v' (n+m) (cs++news))->K (v',h')):optK (qU e bytes h v x) K:=by
 rcases a with ⟨rfl,rfl,rfl⟩|a
 .rw[Q9,hx];simp only[Option.bind_some];by_cases h0:m=0
  .rw[if_pos h0];subst h0
   have:news=[]:=List.eq_nil_of_length_eq_zero (by omega)
   subst this;exact ZL rfl (k _ _ hk (PAcc.nil _ _ _) (by omega))
  .rw[if_neg h0,hf h0];simp only[Option.bind_some];rw[zFN,if_pos ⟨by simpa using h1,by omega⟩];have hp:PSl σb.next e (h.new news) (.sl h.next 0 m (.grown e)) m news:=⟨h.next,_,rfl,.inl rfl,by simp[PHeap.new],hl,hk.next,by simp[PHeap.new]⟩
   refine ZL rfl (k _ _ (hk.new _) ?_ ?_)
   .rw[List.nil_append,Nat.zero_add];exact .inr hp
   .rw[List.nil_append,Nat.zero_add];exactλ_=>hp
 .exact PSl.app hk hb a hx hf hl h1 h2 λv' h' k1 k2=>k v' h' k1 (.inr k2) λ_=>k2
theorem PAcc.push{σb h:PHeap}{bytes n:Nat}{v x:PV}{cs:List PV}{K:PV×PHeap->Prop}(hk:Keep σb h)(a:PAcc σb.next 1 h v n cs) 
  (h1:(n+1)*bytes<=140737488355328) (h2:n+1<=4611686018427387904) (k:∀v' h',Keep σb h'->PSl σb.next 1 h' v' (n+1) (cs++[x])->K (v',h')):optK (qU 1 bytes (h.new [x]) v (.sl h.next 0 1 (.known 1))) K:=
 PAcc.app (news:=[x]) (m:=1) (hk.new _) (vM _) (a.keep (zC _ _)) rfl (λ_=>by simp[Qv,zAT]) rfl h1 h2 λv' h' k1 _ k3=>k v' h' k1 (k3 (by omega))
theorem PSl.push{σb h:PHeap}{bytes n:Nat}{v x:PV}{cs:List PV}{K:PV×PHeap->Prop}(hk:Keep σb h)(a:PSl σb.next 1 h v n cs)
  (h1:(n+1)*bytes<=140737488355328) (h2:n+1<=4611686018427387904) (k:∀v' h',Keep σb h'->PSl σb.next 1 h' v' (n+1) (cs++[x])->K (v',h')):optK (qU 1 bytes (h.new [x]) v (.sl h.next 0 1 (.known 1))) K:=
 PAcc.push hk a.acc h1 h2 k
theorem PSl.cat{σb h:PHeap}{bytes n m:Nat}{w:Bool}{av:AV}{v:PV}{cs news:List PV}{K:PV×PHeap->Prop}(hk:Keep σb h)(a:PSl σb.next 1 h v n cs)(hl:news.length=m)
  (h1:(n+m)*bytes<=140737488355328) (h2:n+m<=4611686018427387904) (k:∀v' h',Keep σb h'->PSl σb.next 1 h' v' (n+m) (cs++news)->K (v',h')):optK (qU 1 bytes h v (.fz w av m news)) K:=
 PSl.app (b:=0) (news:=news) (m:=m) hk (Nat.zero_le _) a rfl (λh0=>by rw[zMh,if_neg h0,if_pos ⟨vM _,by omega,by omega⟩,List.take_of_length_le (by omega)]) (by omega) h1 h2 k
theorem PSl.fin{σ h:PHeap}{e n:Nat}{v:PV}{cs:List PV}{K:PV->PHeap->Prop}(hk:Keep σ h)(a:PSl σ.next e h v n cs)(hb:Bels 0 cs)(k:∀o cap,K (.fz true (.sl o 0 n cap) n cs) σ):Gh σ K v h:=by
 obtain⟨s,cap,rfl,hc,q2,q3,q4,q5⟩:=a;exact Gh.finF hk q2 q4 hb hc.ok λo=>k _ _
theorem PSl.out{σ h:PHeap}{e n:Nat}{v:PV}{cs:List PV}{K:PV->PHeap->Prop}(hk:Keep σ h)(a:PSl σ.next e h v n cs)(hb:Bels σ.next cs)(k:∀cap,full e cap n->K (.sl σ.next 0 n cap) (σ.new cs)):Gh σ K v h:=by
 obtain⟨s,cap,rfl,hc,q2,q3,q4,q5⟩:=a;exact Gh.finS hk q2 q4 hb (k cap hc)
theorem PAcc.fin{σ h:PHeap}{e n:Nat}{v:PV}{cs:List PV}{K:PV->PHeap->Prop}(hk:Keep σ h)(a:PAcc σ.next e h v n cs)(hb:Bels 0 cs)(k:∀a,K (.fz true a n cs) σ):Gh σ K v h:=by
 rcases a with ⟨rfl,rfl,rfl⟩|⟨s,cap,rfl,hc,q2,q3,q4,q5⟩
 .exact Gh.fin0 hk trivial (k _)
 .exact Gh.finF hk q2 q4 hb hc.ok λo=>k _
theorem zA.fz{P:Program}{f:FuncId}{args:List PV}{σ:PHeap}{K:PV->PHeap->Prop}{l e:Nat}{cs:List PV}(c:∀K':PV->PHeap->Prop,(∀cap,full e cap l->K' (.sl σ.next 0 l cap) (σ.new cs))->zA P f args σ K')(hb:Bels 0 cs)
  (k:∀o cap,K (.fz true (.sl o 0 l cap) l cs) σ):zA P f args σ K:=
 zA.gh (c _ λcap hc=>Gh.finF (zC σ cs) (by simp[PHeap.new]) (vM _) hb hc.ok λo=>k o cap)
def ResI(σ:PHeap)(K:PV->PHeap->Prop)(xs:V1):Prop:=(xs=[]->K (.fz true .nils 0 []) σ)/\∀cap,full 1 cap xs.length->K (.sl σ.next 0 xs.length cap) (σ.new (pis xs))
theorem zA.fzI{P:Program}{f:FuncId}{args:List PV}{σ:PHeap}{K:PV->PHeap->Prop}{xs:V1}(c:∀K':PV->PHeap->Prop,ResI σ K' xs->zA P f args σ K')(k:∀a,K (.fz true a xs.length (pis xs)) σ):zA P f args σ K:=
 zA.gh (c _ ⟨λh0=>by subst h0;exact Gh.ret (k _),λcap hc=>Gh.finF (zC σ _) (by simp[PHeap.new]) (vM _) (zL _ _) hc.ok λo=>k _⟩)
theorem zA.fzN{P:Program}{f:FuncId}{args:List PV}{σ:PHeap}{K:PV->PHeap->Prop}{xs:V1}{n:Nat}(hl:xs.length=n)(c:∀K':PV->PHeap->Prop,ResI σ K' xs->zA P f args σ K')(k:∀a,K (.fz true a n (pis xs)) σ):zA P f args σ K:=by
 subst hl;exact zA.fzI c k
theorem PAcc.res{σ h:PHeap}{n:Nat}{v:PV}{xs:V1}{K:PV->PHeap->Prop}(hk:Keep σ h)(hn:n=xs.length)(a:PAcc σ.next 1 h v n (pis xs))(k:ResI σ K xs):Gh σ K v h:=by
 subst hn;rcases a with ⟨rfl,h0,h1⟩|a
 .exact Gh.fin0 hk trivial (k.1 (List.eq_nil_of_length_eq_zero h0))
 .exact a.out hk (zL _ _) k.2
abbrev qI(d:Nat)(o:IOp):II:=⟨some d,o,true,none⟩
abbrev eI(d:Nat)(o:IOp):II:=⟨some d,o,false,none⟩
abbrev nI(o:IOp):II:=⟨none,o,false,none⟩
abbrev qD(d:Nat)(o:IOp)(i:Nat):DI:=⟨⟨some d,o,true,none⟩,i,[]⟩
abbrev eD(d:Nat)(o:IOp)(i:Nat)(c:List Nat):DI:=⟨⟨some d,o,false,none⟩,i,c⟩
end Go.Ab
set_option linter.unusedVariables false
set_option linter.unusedSimpArgs false
namespace Go.Ab
open Go.ChangeShapes Go.WideShapes Go.RowKit Go.Deep
variable{w0 W:World}{j:Inj}{h h':AHeap}{H:Type}{enc:TypeId×Value->H}{P:Program}{α:Type}
abbrev zlt(h:AHeap):Nat->Prop:=λo=>o<h.next
theorem Ext.voks{pvs:List PV}{n:Nat}(e:Ext h h')(hv:VOKs (zlt h) h n pvs):VOKs (zlt h') h' n pvs:=hv.mono (λo ho=>⟨Nat.lt_of_lt_of_le ho e.next,e.obj o ho⟩) (vM _)
theorem MR.name(m:MR W.heap.size w0 j h W)(l:Loc):MR W.heap.size w0 (j.put h.next l) ⟨h.next+1,h.obj⟩ W/\j.le (j.put h.next l)/\Ext h ⟨h.next+1,h.obj⟩:=by
 have hle:=Inj.le_put m l;have qe:h.obj h.next=none:=(m.fresh _ (vM _)).1;have conv:∀{o:Nat} {ob:AObj} {l':Loc},h.obj o=some ob->(j.put h.next l) o=some l'->j o=some l':=λ{o ob l'} ho hl=>by
  have:o≠h.next:=λe=>by subst e;rw[qe]at ho;cases ho
  simpa [Inj.put,this]using hl
 refine⟨⟨m.below,m.bnd,λo ho=>?_,λo ob l' ho hl=>?_,λo o' x x' l1 l2 ar ho cM hl bu hr=>m.apart o o' x x' l1 l2 ar ho cM (conv ho hl) (conv cM bu) hr⟩,hle,⟨by simp,λ_ _=>rfl,λo ho=>m.wf o (by simp at ho;omega)⟩⟩
 .simp only at ho;refine⟨m.wf o (by omega),?_⟩;simp only[Inj.put];rw[if_neg (by omega)];exact(m.fresh o (by omega)).2
 .obtain⟨a,cur,ty,fz,b,c,d⟩:=m.obj o ob l' ho (conv ho hl);exact⟨a,cur,ty,fz,b,λi v hi=>by obtain⟨cv,x,y⟩:=c i v hi;exact⟨cv,x,VI.mono hle _ _ y⟩,d⟩
def Lay1(enc:TypeId×Value->H)(P:Program)(W:World)(t:TypeId)(R:PV->α->Prop):Prop:=∀(w0:World) (j:Inj) (h:AHeap) (held:Bool) (fuel:Nat) (v:Value) (x:DataW H×List MemPlace),MR W.heap.size w0 j h W->
 DataW.trod enc P W 0 (λ_=>true) held fuel t [v]=some x->∃(j':Inj) (h':AHeap) (pv:PV) (a:α),MR W.heap.size w0 j' h' W/\j.le j'/\Ext h h'/\VI j' (er idz pv) v/\VOK (zlt h') h' 0 pv/\pv.one=true/\R pv a
theorem Lay1.cells{e:TypeId}{R:PV->α->Prop}(L:Lay1 enc P W e R){V:Nat->Value}{D:Nat->DataW H}{Pl:Nat->List MemPlace}{held:Bool}{fuel:Nat}{w0:World}:∀(n:Nat) {j:Inj} {h:AHeap},MR W.heap.size w0 j h W->
  (∀i,i<n->DataW.trod enc P W 0 (λ_=>true) held fuel e [V i]=some (D i,Pl i))->
  ∃(j':Inj) (h':AHeap) (pvs:List PV) (as:List α),MR W.heap.size w0 j' h' W/\j.le j'/\Ext h h'/\pvs.length=n/\(∀i pv,pvs[i]? = some pv->VI j' (er idz pv) (V i))/\VOKs (zlt h') h' 0 pvs/\pvs.all PV.one=true/\All2 R pvs as
 |0,j,h,m,_=>⟨j,h,[],[],m,Inj.le.refl _,Ext.refl m.wf,rfl,λi pv hi=>(by simp at hi),trivial,rfl,All2.nil _⟩
 |n+1,j,h,m,hx=>by
  obtain⟨j1,h1,pvs,as,m1,l1,e1,hl,hv,ho,aV,hr⟩:=Lay1.cells L n m λi hi=>hx i (by omega);obtain⟨j2,h2,pv,a,m2,l2,e2,v2,o2,AO,r2⟩:=L w0 j1 h1 held fuel (V n) _ m1 (hx n (by omega));refine⟨j2,h2,pvs++[pv],as++[a],m2,l1.trans l2,e1.trans e2,by simp[hl],λi G8 hi=>?_,(e2.voks ho).append ⟨o2,trivial⟩,by simp[aV,AO],hr.snoc r2⟩;rcases Nat.lt_trichotomy i n with x|x|x
  .rw[List.getElem?_append_left (by omega)]at hi;exact VI.mono l2 _ _ (hv i G8 hi)
  .subst x;rw[List.getElem?_append_right (by omega)]at hi;simp[hl]at hi;subst hi;exact v2
  .rw[List.getElem?_eq_none (by simp;omega)]at hi;cases hi
theorem addr_add(a:Addr)(i:Nat):(a.add i).block=a.block:=by unfold Addr.add;split<;>rfl
theorem zNE{t e:TypeId}(ht:P.underlying t=some (.slice e))(hc:P.cellsOf e=1){R:PV->α->Prop}(L:Lay1 enc P W e R):Lay1 enc P W t (λv (xs:List α)=>FL R v xs/\xs.length<=9223372036854775807):=by
 intro w0 j h held fuel v x m hx;rcases open_slice1 ht hc hx with ⟨hv,rfl⟩|⟨a,len,c0,cap,n,V,D,Pl,hv,_,hl,hm,ES,rfl,ec⟩
 .simp only[List.cons.injEq,and_true]at hv;subst hv;exact⟨j,h,.fz true .nils 0 [],[],m,Inj.le.refl _,Ext.refl m.wf,rfl,⟨.inl ⟨rfl,rfl,rfl⟩,trivial⟩,rfl,⟨true,.nils,[],rfl,All2.nil _⟩,by simp⟩
 simp only[if_true]at ES;subst ES;simp only[List.cons.injEq,and_true]at hv;subst hv;have gV:maxLen=9223372036854775807:=rfl;by_cases h0:cap=0
 .subst h0;obtain rfl:len=0:=by omega
  obtain⟨m',l',e'⟩:=m.name ⟨0,0,0⟩;exact⟨_,_,.fz false (.sl h.next 0 0 (.known 0)) 0 [],[],m',l',e',⟨⟨0,0,0⟩,a,by simp[Inj.put],rfl,.inr ⟨rfl,rfl⟩⟩,⟨.inr ⟨h.next,0,.known 0,rfl,by simp[zlt],.inl rfl,λc hc=>by cases hc;exact vM _,by simp⟩,trivial⟩,rfl,⟨false,_,[],rfl,All2.nil _⟩,by simp⟩
 obtain⟨hs,cur,ty,fz,hb,_⟩:=zKl (ec 0 (by omega)).1;obtain⟨blk,off,spot⟩:=a;have uG:spot=none:=by simpa [Addr.add]using hs
 subst uG;have gH:W.heap[blk]? = some (.cells cur ty fz):=by simpa [Addr.add]using hb
 have CT:=zRA gH;obtain⟨j1,h1,pvs,as,m1,l1,e1,mA,cQ,m7,aV,hr⟩:=L.cells len m λi hi=>(ec i (by omega)).2;have m2:=m1.lay (cells:=ers idz pvs) (l:=⟨blk,off,0⟩) (by rw[zDv m7];exact aV) CT gH (by
  intro i v hi;rw[zCI]at hi;obtain⟨pv,B2,rfl⟩:=Option.map_eq_some_iff.1 hi;have aH:i<len:=by rw[<-mA];exact(List.getElem?_eq_some_iff.1 B2).1
  obtain⟨_,nH,sn,xj,gd,gY⟩:=zKl (ec i (by omega)).1;rw[addr_add]at gd;rw[gH]at gd;cases gd;rw[show((⟨blk,off,none⟩:Addr).add i).off=off+i by unfold Addr.add;split<;>simp_all]at gY;exact⟨_,gY,cQ i pv B2⟩)
 have e2:=Ext.new m1.wf ⟨false,ers idz pvs⟩;have cZ:=hr.1;refine⟨_,_,.fz false (.sl h1.next 0 len (.known cap)) len pvs,as,m2,l1.trans (Inj.le_put m1 _),e1.trans e2,⟨⟨blk,off,0⟩,_,by simp[Inj.put],rfl,.inl rfl⟩,⟨.inr ⟨h1.next,0,.known cap,rfl,by simp[zlt,AHeap.new],.inr (zCT (zLU _) rfl),λc hc=>by cases hc;exact hl,by simp⟩,e2.voks m7⟩,rfl,⟨false,_,pvs,by rw[<-cZ,mA],hr⟩,by omega⟩
theorem All2.all{β γ:Type}{R:β->γ->Prop}{as:List β}{bs:List γ}(h:All2 R as bs){p:γ->Prop}(hp:∀a b,R a b->p b):∀b∈bs,p b:=by
 intro b hb;obtain⟨k,hk,rfl⟩:=List.mem_iff_getElem.1 hb;obtain⟨a,_,hr⟩:=h.get hk;exact hp _ _ hr
theorem FL.all{R:PV->α->Prop}{v:PV}{xs:List α}(h:FL R v xs){p:α->Prop}(hp:∀v x,R v x->p x):∀x∈xs,p x:=by
 obtain⟨w,a,rows,rfl,h⟩:=h;exact h.all hp
def PHeap.start(h:AHeap):PHeap:=⟨0,h.next,λ_=>none⟩
theorem zMK(hw:HWF h):Rel idz (zlt h) (PHeap.start h) h:=⟨hw,λ_ ho=>ho,vM _,λ_ _=>rfl,λ_ _ ho=>(by cases ho),λ_ _ _ _ ho=>(by cases ho)⟩
theorem zA.law{f:FuncId}{args:List PV}(c:zA P f args (PHeap.start h) (λv _=>v=.bool true))(hw:HWF h)(hv:VOKs (zlt h) h 0 args):ZR P f (ers idz args) h (λv _=>v=.bool true):=by
 refine(c idz (zlt h) h (zMK hw) hv).mono ?_
 rintro v h' ⟨pv,σ',ι',Z',_,_,_,rfl,rfl⟩
 rfl
end Go.Ab
set_option linter.unusedVariables false
set_option linter.unusedSimpArgs false
namespace Go.Ab
theorem zA.lend{P:Program}{f:FuncId}{args:List PV}{σ:PHeap}{K:PV->PHeap->Prop}{s:Nat}{cs:List PV}(hs:σ.obj s=some cs)(hb:Bels 0 cs)
  (c:∀o,zA P f (sbs s o cs args) (σ.kill s) λv σ'=>σ'=σ.kill s/\(∃b,v=.bool b)/\K v σ):zA P f args σ K:=by
 intro ι Z h r va;obtain⟨r',cD,ho,hz⟩:=r.freeze hs hb;have r2:Rel ι (λo=>Z o\/o=ι s) (σ.kill s) h:=⟨r'.hwf,r'.zlt,by have:=r.top;exact this,r'.wf,r'.obj,r'.inj⟩
 have cE:∀o,Z o->(Z o\/o=ι s)/\h.obj o=h.obj o:=λo ho=>⟨.inl ho,rfl⟩
 have:=c (ι s) ι _ h r2 (VOKs.sbs (.inr rfl) ho (cD.mono cE (vM _)) (va.mono cE (vM _)))
 rw[QO rfl]at this;refine this.mono ?_
 rintro v h' ⟨pv,σ',ι',Z',q1,q2,q3,q4,rfl,⟨b,rfl⟩,hk⟩
 have eS:∀o,Z o->Z o/\h'.obj o=h.obj o:=λo ho=>⟨ho,(q2.z o (.inl ho)).2⟩
 have ob:∀t ds,σ.obj t=some ds->h'.obj (ι t)=h.obj (ι t):=by
  intro t ds ht;by_cases e:t=s
  .subst e;exact(q2.z _ (.inr rfl)).2
  .have gu:=r.none_lt ht;have bZ:(σ.kill s).obj t=some ds:=by simp only[PHeap.kill];rw[if_neg e];exact ht
   obtain⟨p1,_,_⟩:=q1.obj t ds bZ;obtain⟨g1,g2,_⟩:=r2.obj t ds bZ;rw[q2.inj t gu,q2.ers g2]at p1;rw[p1,g1]
 exact⟨.bool b,σ,ι,Z,⟨q1.hwf,λo ho=>Nat.lt_of_lt_of_le (r.zlt o ho) q2.hnext,Nat.le_trans r.top q2.hnext,r.wf,λt ds ht=>⟨by rw[ob t ds ht];exact(r.obj t ds ht).1,(r.obj t ds ht).2.1.mono eS (vM _),(r.obj t ds ht).2.2⟩,r.inj⟩,⟨vM _,q2.hnext,λ_ _=>rfl,eS,λ_ _ h=>h,λt ds ht hd=>absurd (r.none_lt hd) (by omega)⟩,trivial,q4,hk⟩
theorem PWF.newB{σ:PHeap}{cs:List PV}(w:PWF σ)(hb:Bels σ.next cs):PWF (σ.new cs):=
 ⟨λs hs=>by rw[zP,if_neg (by simp only[PHeap.new]at hs;omega)];exact w.wf s (by simp only[PHeap.new]at hs;omega),λs ds hs=>by
  rw[zP]at hs;split at hs
  .cases hs;exact hb.up (Nat.le_succ _)
  .exact(w.bel s ds hs).up (Nat.le_succ _)⟩
theorem ZT{s o:Nat}{cs:List PV}:∀vs:List PV,(sbs s o cs vs).length=vs.length
 |[]=>rfl
 |v::vs=>by simp only[sbs,List.length_cons,ZT vs]
theorem Keep.sub{σ0 h:PHeap}(w:PWF σ0)(hk:Keep σ0 h){s o:Nat}{cs:List PV}(hs:σ0.next<=s):Keep σ0 (h.sub s o cs):=
 ⟨hk.next,hk.top,λt ht=>by
  simp only[PHeap.sub];rw[hk.obj t ht];cases hd:σ0.obj t with
  |none=>rfl
  |some b=>simp only[Option.map_some];rw[QL hs (w.bel t b hd)]⟩
theorem PAcc.ne{b e n t:Nat}{h:PHeap}{v:PV}{cs:List PV}(a:PAcc b e h v n cs)(ht:h.next<=t)(off l:Nat)(c:Cap):v≠.sl t off l c:=by
 rcases a with ⟨rfl,_,_⟩|⟨s,cap,rfl,_,_,_,_,h5⟩
 .exactλe=>by cases e
 .intro e;simp only[PV.sl.injEq]at e;omega
theorem PAcc.pos{b e n:Nat}{h:PHeap}{v:PV}{cs:List PV}(a:PAcc b e h v n cs)(hn:0<n):PSl b e h v n cs:=by
 rcases a with ⟨_,h0,_⟩|a
 .omega
 .exact a
theorem PAcc.low{b b' e n:Nat}{h:PHeap}{v:PV}{cs:List PV}(a:PAcc b e h v n cs)(hb:b'<=b):PAcc b' e h v n cs:=by
 rcases a with a|⟨s,cap,rfl,h1,h2,h3,h4,h5⟩
 .exact .inl a
 .exact .inr ⟨s,cap,rfl,h1,h2,h3,Nat.le_trans hb h4,h5⟩
theorem PAcc.appS{σb h:PHeap}{e bytes n m:Nat}{v x:PV}{rows news:List PV}{K:PV×PHeap->Prop}(hk:Keep σb h)(a:PAcc σb.next e h v n rows)(hx:plen x=some m)(hm:m≠0)(hf:Zu e h x m=some news)(hl:news.length=m*e)
  (h1:(n+m)*bytes<=140737488355328) (h2:n+m<=4611686018427387904)
  (k:∀v' h',Keep σb h'->PSl σb.next e h' v' (n+m) (rows++news)->(∀t,t<h.next->(∀off l c,v≠.sl t off l c)->h'.obj t=h.obj t)->(∀t,t<h.next->∀off l c,v'≠.sl t off l c)->h.next<h'.next->K (v',h')):optK (qU e bytes h v x) K:=by
 rw[Q9,hx];simp only[Option.bind_some];rw[if_neg hm,hf];simp only[Option.bind_some];have hn:=hk.next;have nw:∀t,t<h.next->∀(off l:Nat) (c:Cap) (m':Nat) (c':Cap),PV.sl h.next 0 m' c'≠.sl t off l c:=λt ht off l c m' c' e=>by
  simp only[PV.sl.injEq]at e;omega
 rcases a with ⟨rfl,rfl,rfl⟩|⟨t,c,rfl,hc,q2,q3,q4,q5⟩
 .rw[zFN,if_pos ⟨by simpa using h1,by omega⟩];refine ZL rfl (k _ _ (hk.new _) ⟨_,_,by rw[Nat.zero_add],.inl rfl,by simp[PHeap.new],by simpa using hl,hn,by simp[PHeap.new]⟩ (λt ht _=>?_) (λt ht off l c=>nw t ht off l c _ _) (Nat.lt_succ_self _));rw[zP,if_neg (by omega)]
 .rcases hc with rfl|rfl
  .rw[zAd,if_pos ⟨h1,h2,rfl⟩,q2];simp only[Option.bind_some];rw[if_pos (by omega),List.drop_zero,List.take_of_length_le (by omega)];refine ZL rfl (k _ _ ((hk.kill q4).new _) ⟨_,_,rfl,.inl rfl,by simp[PHeap.new,PHeap.kill],by rw[List.length_append,q3,hl,Nat.add_mul],hn,by simp[PHeap.new,PHeap.kill]⟩ (λu hu ar=>?_) (λu hu off l c=>nw u hu off l c _ _) (Nat.lt_succ_self _));rw[zP,if_neg (by simp only[PHeap.kill];omega)]
   show(if u=t then none else _)=_
   rw[if_neg λe=>ar 0 n _ (by rw[e])]
  .rw[zAc,if_neg (by omega),if_pos ⟨h1,h2⟩,ze q2,if_pos (by omega),List.drop_zero,List.take_of_length_le (by omega)];simp only[Option.map_some];refine ZL rfl (k _ _ (hk.new _) ⟨_,_,rfl,.inl rfl,by simp[PHeap.new],by rw[List.length_append,q3,hl,Nat.add_mul],hn,by simp[PHeap.new]⟩ (λu hu ar=>?_) (λu hu off l c=>nw u hu off l c _ _) (Nat.lt_succ_self _));rw[zP,if_neg (by omega)]
theorem PAcc.pushS{σb h:PHeap}{e bytes n:Nat}{v:PV}{rows news:List PV}{K:PV×PHeap->Prop}(hk:Keep σb h)(a:PAcc σb.next e h v n rows)(hl:news.length=e)(h1:(n+1)*bytes<=140737488355328)(h2:n+1<=4611686018427387904)
  (k:∀v' h',Keep σb h'->PSl σb.next e h' v' (n+1) (rows++news)->(∀t,t<h.next->(∀off l c,v≠.sl t off l c)->h'.obj t=h.obj t)->(∀t,t<h.next->∀off l c,v'≠.sl t off l c)->h.next<h'.next->K (v',h')):optK (qU e bytes (h.new news) v (.sl h.next 0 1 (.known 1))) K:=
 PAcc.appS (m:=1) (hk.new _) (a.keep (zC _ _)) rfl (by omega) (by rw[Qv,if_neg (by omega),if_pos (vM _),zAT,if_pos rfl,if_pos (by omega),List.drop_zero,List.take_of_length_le (by omega)]) (by omega) h1 h2
  λv' h' k1 k2 k3 k4 k5=>k v' h' k1 k2 (λt ht ar=>by rw[k3 t (Nat.lt_succ_of_lt ht) ar,zP,if_neg (by omega)]) (λt ht=>k4 t (Nat.lt_succ_of_lt ht)) (Nat.lt_trans (Nat.lt_succ_self _) k5)
theorem PSl.fzr{σb h:PHeap}{e n s:Nat}{v:PV}{cells cs:List PV}(w:PWF σb)(hk:Keep σb h)(a:PSl σb.next e h v n cells)(hs:σb.next<=s)(ar:∀off l c,v≠.sl s off l c)(o:Nat):
  Keep σb ((h.kill s).sub s o cs)/\PSl σb.next e ((h.kill s).sub s o cs) v n (sbs s o cs cells)/\sb s o cs v=v:=by
 obtain⟨t,c,rfl,q1,q2,q3,q4,q5⟩:=a;have fx:t≠s:=λe=>ar 0 n c (by rw[e]);refine⟨(hk.kill hs).sub w hs,⟨t,c,rfl,q1,?_,by rw[ZT];exact q3,q4,q5⟩,?_⟩
 .simp only[PHeap.sub,PHeap.kill,if_neg fx,q2,Option.map_some]
 .simp only[sb];rw[if_neg λe=>fx e.1]
theorem zB6{s o l:Nat}{cap:Cap}{rows cs:List PV}(hb:Bels 0 rows)(hc:capOK cap l=true):sbs s o cs (rows++[.sl s 0 l cap])=rows++[.fz true (.sl o 0 l cap) l cs]:=by
 rw[zFD,QL (Nat.zero_le _) hb];simp only[sbs,sb,hc,and_self,if_true]
end Go.Ab
set_option linter.unusedVariables false
set_option linter.unusedSimpArgs false
set_option linter.defProp false
namespace Go.Ab
variable{P:Program}{ι:Nat->Nat}{Z:Nat->Prop}{h h':AHeap}{σ:PHeap}{K:PV->PHeap->Prop}{L:List (Nat×List PV)}
mutual
def ead:PV->List Nat
 | .fz _ a _ cs=>bif cs.isEmpty then []else match a with | .sl o _ _ _=>o::eads cs|_=>[]
 | .fp a cs=>bif cs.isEmpty then []else match a with | .ptr o _=>o::eads cs|_=>[]
 | .clo _ a b=>eads a++eads b
 | .agg cs=>eads cs
 | .tup cs=>eads cs
 |_=>[]
def eads:List PV->List Nat
 |[]=>[]
 |c::cs=>ead c++eads cs
end
mutual
def rm(L:List (Nat×List PV)):PV->PV
 | .fz w a len cs=>bif cs.isEmpty then .fz w a len cs else
  match a with
  | .sl o off l cap=>
   match L.lookup o with
   |some ms=>bif w then .fz true (.sl o off l cap) len ms else .fp (.sl o off l cap) []
   |none=>.fz w (.sl o off l cap) len (rms L cs)
  |a=>.fz w a len cs
 | .fp a cs=>bif cs.isEmpty then .fp a cs else
  match a with
  | .ptr o i=>
   match L.lookup o with
   |some _=>.fp (.ptr o i) []
   |none=>.fp (.ptr o i) (rms L cs)
  |a=>.fp a cs
 | .clo f a b=>.clo f (rms L a) (rms L b)
 | .agg cs=>.agg (rms L cs)
 | .tup cs=>.tup (rms L cs)
 |v=>v
def rms(L:List (Nat×List PV)):List PV->List PV
 |[]=>[]
 |c::cs=>rm L c::rms L cs
end
theorem zB1:∀(as bs:List PV),eads (as++bs)=eads as++eads bs
 |[],_=>rfl
 |a::as,bs=>by simp only[List.cons_append,eads,zB1 as bs,List.append_assoc]
def flat:PV->Bool
 | .int _ _ | .str _=>true
 |_=>false
structure Upd(h:AHeap)(L:List (Nat×List PV))(h':AHeap):Prop where
 next:h.next<=h'.next
 wf:HWF h'
 same:∀o,o<h.next->L.lookup o=none->h'.obj o=h.obj o
 new:∀o ms,L.lookup o=some ms->h'.obj o=some ⟨true,ers idz ms⟩/\ms.all flat=true/\ms≠[]/\∃ws,h.obj o=some ⟨true,ws⟩/\ws.length=ms.length
def PHeap.rmap(σ:PHeap)(L:List (Nat×List PV)):PHeap:=⟨σ.next,σ.top,λs=>(σ.obj s).map (rms L)⟩
def zRF(P:Program)(f:FuncId)(args:List PV)(σ:PHeap)(L:List (Nat×List PV))(k:IntKind)(r:Int):Prop:=
 ∀(ι:Nat->Nat) (Z:Nat->Prop) (h:AHeap),Rel ι Z σ h->VOKs Z h σ.next args->(∀o ms,L.lookup o=some ms->Z o)/\ZR P f (ers ι args) h λv h'=>v=.int k r/\Upd h L h'
inductive CallM(P:Program)(f:FuncId)(args:List IX):PEnv->PHeap->(PEnv->PV->PHeap->Prop)->Prop where
 |pure {e:PEnv} {σ:PHeap} {K:PEnv->PV->PHeap->Prop} (c:zA P f (args.map (·.pv e)) σ (K e)):CallM P f args e σ K
 |mark {e:PEnv} {σ:PHeap} {K:PEnv->PV->PHeap->Prop} {L:List (Nat×List PV)} {k:IntKind} {r:Int} (c:zRF P f (args.map (·.pv e)) σ L k r) (hk:K (λt=>rm L (e t)) (.int k r) (σ.rmap L)):CallM P f args e σ K
 |top {e:PEnv} {σ:PHeap} {K:PEnv->PV->PHeap->Prop} (c:∀t,σ.top<=t->(∀i,∀o∈ead (e i),o<t)->CallM P f args e (σ.up t) K):CallM P f args e σ K
 |topH {e:PEnv} {σ:PHeap} {K:PEnv->PV->PHeap->Prop} (c:∀t,σ.top<=t->(∀i,∀o∈ead (e i),o<t)->(∀s cs,σ.obj s=some cs->∀o∈eads cs,o<t)->CallM P f args e (σ.up t) K):CallM P f args e σ K
def em(P:Program)(op:IOp)(e:PEnv)(σ:PHeap)(K:PEnv->PV->PHeap->Prop):Prop:=
 match op with
 | .call f args=>CallM P f args e σ K
 |op=>ep P op e σ (K e)
def gem(P:Program)(it:II)(e:PEnv)(σ:PHeap)(K:PEnv->PV->PHeap->Prop):Prop:=
 match it.guard with
 |none=>em P it.op e σ K
 |some (t,b)=>Zt (e t) b (em P it.op e σ K) (K e (.tup []) σ)
def RVm(P:Program):List II->PEnv->PHeap->(PEnv->PHeap->Prop)->Prop
 |[],e,h,K=>K e h
 |it::r,e,h,K=>match it.q with
  |true=>optK (gqp 0 0 it e h) λv=>RVm P r (e.put it.dst v) h K
  |false=>gem P it e h λe' v h'=>RVm P r (e'.put it.dst v) h' K
def vm(P:Program):IC->(Exit->PEnv->PHeap->Prop)->PEnv->PHeap->Prop
 | .region S aQ,Q,e,h=>RVm P aQ e h λe' h'=>Q .normal (PEnv.mk S (S.map e')) h'
 | .seq a b,Q,e,h=>vm P a (λx e' h'=>match x with | .normal=>vm P b Q e' h'|x=>Q x e' h') e h
 | .cond c a b,Q,e,h=>Zv (c.pv e) (vm P a Q e h) (vm P b Q e h)
 | .block id c,Q,e,h=>vm P c (λx e' h'=>match x with | .exit ja=>if ja=id then Q .normal e' h' else Q (.exit ja) e' h'|x=>Q x e' h') e h
 |c,Q,e,h=>vp P c Q e h
section
variable{Q:Exit->PEnv->PHeap->Prop}{e:PEnv}{KE:PEnv->PHeap->Prop}{KM:PEnv->PV->PHeap->Prop}
@[congr] theorem cg_vm {c:IC} {e e':PEnv} {h h':PHeap} (h1:nm e=e') (h2:h=h'):vm P c Q e h=vm P c Q e' h':=by rw[nm_eq]at h1;rw[h1,h2]
@[congr] theorem zRZ {aQ:List II} {e e':PEnv} {h h':PHeap} (h1:nm e=e') (h2:h=h'):RVm P aQ e h KE=RVm P aQ e' h' KE:=by rw[nm_eq]at h1;rw[h1,h2]
@[congr] theorem zRW {it:II} {e e':PEnv} {h h':PHeap} (h1:nm e=e') (h2:h=h'):gem P it e h KM=gem P it e' h' KM:=by rw[nm_eq]at h1;rw[h1,h2]
@[congr] theorem cg_em {op:IOp} {e e':PEnv} {h h':PHeap} (h1:nm e=e') (h2:h=h'):em P op e h KM=em P op e' h' KM:=by rw[nm_eq]at h1;rw[h1,h2]
@[congr] theorem zRT {f:FuncId} {args:List IX} {e e':PEnv} {h h':PHeap} (h1:nm e=e') (h2:h=h'):CallM P f args e h KM=CallM P f args e' h' KM:=by rw[nm_eq]at h1;rw[h1,h2]
end
end Go.Ab
set_option linter.unusedVariables false
set_option linter.unusedSimpArgs false
namespace Go.Ab
variable{P:Program}{h:AHeap}{σ σ0 σ1:PHeap}{n lo hi Et jt t:Nat}{K:PV->PHeap->Prop}
def isSl:AV->Bool
 | .sl _ _ _ _=>true
 |_=>false
mutual
def Wh:PV->Prop
 | .fz w a _ cs=>cs=[]\/(w=true/\isSl a=true/\Whs cs)
 | .fp _ cs=>cs=[]
 | .clo _ a b=>Whs a/\Whs b
 | .agg cs=>Whs cs
 | .tup cs=>Whs cs
 |_=>True
def Whs:List PV->Prop
 |[]=>True
 |c::cs=>Wh c/\Whs cs
end
theorem zGY:∀{cs:List PV},Whs cs↔∀c∈cs,Wh c
 |[]=>by simp[Whs]
 |c::cs=>by simp[Whs,zGY (cs:=cs)]
structure Own(lo hi:Nat)(v:PV):Prop where
 wh:Wh v
 nd:(ead v).Nodup
 lt:∀o∈ead v,lo<=o/\o<hi
structure Owns(lo hi:Nat)(cs:List PV):Prop where
 wh:Whs cs
 nd:(eads cs).Nodup
 lt:∀o∈eads cs,lo<=o/\o<hi
theorem Owns.mono{v:List PV}(h:Owns lo hi v)(h1:Et<=lo)(h2:hi<=jt):Owns Et jt v:=⟨h.wh,h.nd,λo ho=>by have:=h.lt o ho;omega⟩
theorem Owns.nil(lo hi:Nat):Owns lo hi []:=⟨trivial,List.nodup_nil,λo ho=>by cases ho⟩
theorem Owns.snoc{cs:List PV}{c:PV}(h:Owns lo t cs)(g:Own t hi c)(hl:lo<=t)(ht:t<=hi):Owns lo hi (cs++[c]):=by
 refine⟨zGY.2 λx hx=>?_,?_,λo ho=>?_⟩
 .rcases List.mem_append.1 hx with hx|hx
  .exact zGY.1 h.wh x hx
  .rw[List.mem_singleton.1 hx];exact g.wh
 .rw[zB1,List.nodup_append];simp only[eads,List.append_nil];refine⟨h.nd,g.nd,λa ha b hb e=>?_⟩
  have:=h.lt a ha
  have:=g.lt b hb
  omega
 .rw[zB1]at ho;simp only[eads,List.append_nil,List.mem_append]at ho;rcases ho with ho|ho
  .have:=h.lt o ho;omega
  .have:=g.lt o ho;omega
theorem Own.empty(lo hi:Nat)(w:Bool)(a:AV)(l:Nat):Own lo hi (.fz w a l []):=⟨.inl rfl,List.nodup_nil,λo ho=>by cases ho⟩
theorem Owns.fz{cs:List PV}{o l:Nat}{cap:Cap}(h:Owns lo hi cs)(h1:lo<=o)(h2:o<hi)(hn:o∉eads cs):Own lo hi (.fz true (.sl o 0 l cap) l cs):=by
 refine⟨.inr ⟨rfl,rfl,h.wh⟩,?_,λx hx=>?_⟩
 .unfold ead;cases cs.isEmpty
  .simp only[cond_false,List.singleton_append];exact List.nodup_cons.2 ⟨hn,h.nd⟩
  .exact List.nodup_nil
 .unfold ead at hx;cases he:cs.isEmpty<;>rw[he]at hx
  .simp only[cond_false,List.singleton_append,List.mem_cons]at hx;rcases hx with rfl|hx
   .exact⟨h1,h2⟩
   .exact h.lt x hx
  .cases hx
theorem zIb(xs:V1):eads (pis xs)=[]:=by
 induction xs with
 |nil=>rfl
 |cons x xs ih=>simp only[zOQ,eads,ead,ih,List.append_nil]
theorem zQQ(xs:V1):Whs (pis xs):=by
 induction xs with
 |nil=>trivial
 |cons x xs ih=>exact⟨trivial,ih⟩
theorem Owns.pis(lo hi:Nat)(xs:V1):Owns lo hi (pis xs):=⟨zQQ xs,by rw[zIb];exact List.nodup_nil,λo ho=>by rw[zIb]at ho;cases ho⟩
mutual
theorem zNc:∀{v:PV} {o:Nat},o∈ead v->o∈addrs v
 | .undef,o,ho | .bool _,o,ho | .int _ _,o,ho | .str _,o,ho | .nilp,o,ho | .nilf,o,ho | .ptr _ _,o,ho | .sl _ _ _ _,o,ho=>by simp[ead]at ho
 | .fz w a len cs,o,ho=>by
  unfold ead at ho;cases he:cs.isEmpty<;>rw[he]at ho
  .simp only[cond_false,List.mem_append]at ho;have hc:o∈eads cs->o∈ZK cs:=Zn;cases a<;>simp only[addrs,List.mem_cons,List.not_mem_nil,false_or,or_false]at ho ⊢<;>first|exact ho.imp id hc|skip
  .cases ho
 | .fp a cs,o,ho=>by
  unfold ead at ho;cases he:cs.isEmpty<;>rw[he]at ho
  .simp only[cond_false,List.mem_append]at ho;have hc:o∈eads cs->o∈ZK cs:=Zn;cases a<;>simp only[addrs,he,Bool.false_eq_true,if_false,List.mem_append,List.mem_cons,List.not_mem_nil,false_or,or_false]at ho ⊢<;>first|exact ho.imp id hc|skip
  .cases ho
 | .clo _ a b,o,ho=>by
  simp only[ead,addrs,List.mem_append]at ho ⊢;exact ho.imp Zn Zn
 | .agg cs,o,ho=>Zn (cs:=cs) ho
 | .tup cs,o,ho=>Zn (cs:=cs) ho
theorem Zn:∀{cs:List PV} {o:Nat},o∈eads cs->o∈ZK cs
 |[],o,ho=>by cases ho
 |c::cs,o,ho=>by
  simp only[eads,ZK,List.mem_append]at ho ⊢;exact ho.imp zNc Zn
end
theorem Gh.own{s l:Nat}{cap:Cap}{cs:List PV}(hk:Keep σ0 σ1)(hs:σ1.obj s=some cs)(h0:σ0.next<=s)(hb:Bels 0 cs)(bh:capOK cap l=true)(ho:Owns σ0.top σ1.top cs)
  (k:∀o t,Own σ0.top t (.fz true (.sl o 0 l cap) l cs)->σ0.top<=t->K (.fz true (.sl o 0 l cap) l cs) (σ0.up t)):Gh σ0 K (.sl s 0 l cap) σ1:=
 Gh.finZ hk hs h0 hb bh λo h1 h2 t h3 h4=>k o t ((ho.mono (vM _) h4).fz h1 h3 λhm=>h2 (Zn hm)) (Nat.le_trans hk.top h4)
theorem zA.fzIT{f:FuncId}{args:List PV}{xs:V1}(c:∀K':PV->PHeap->Prop,ResI σ K' xs->zA P f args σ K')(k:∀v t,FI v xs->Own σ.top t v->σ.top<=t->K v (σ.up t)):zA P f args σ K:=
 zA.gh (c _ ⟨λh0=>by subst h0;exact Gh.ret (k _ σ.top ⟨true,.nils,rfl⟩ (Own.empty _ _ _ _ _) (vM _)),λcap hc=>Gh.own (zC σ _) (by simp[PHeap.new]) (vM _) (zL _ _) hc.ok (Owns.pis _ _ _) λo t h1 h2=>k _ t ⟨true,_,rfl⟩ h1 h2⟩)
theorem zLl{α:Type}{cs:List α}(h:cs≠[]):cs.isEmpty=false:=by cases cs;exact absurd rfl h;rfl
theorem zQ3{w:Bool}{o off l n:Nat}{cap:Cap}{cs:List PV}(ar:cs≠[]):ead (.fz w (.sl o off l cap) n cs)=o::eads cs:=by
 rw[ead,zLl ar];rfl
variable{α:Type}{len:α->Nat}
end Go.Ab
set_option linter.unusedVariables false
set_option linter.unusedSimpArgs false
namespace Go.Ab
variable{σ0 σ1:PHeap}{K:PV->PHeap->Prop}
theorem Gh.freezeH{v:PV}{s:Nat}{cs:List PV}(hs:σ1.obj s=some cs)(h0:σ0.next<=s)(hb:Bels 0 cs)
  (k:∀o,σ0.top<=o->(∀t ds,σ1.obj t=some ds->o∉ZK ds)->o∉addrs v->Gh σ0 K (sb s o cs v) (((σ1.kill s).sub s o cs).up (max σ1.top (o+1)))):Gh σ0 K v σ1:=by
 intro w ι Z h b r hv h1 h2 h3 h4;obtain⟨r',cD,ho,hz⟩:=r.freeze hs hb;have jw:=h3 s cs h0 hs;have cE:∀o,Z o->(Z o\/o=ι s)/\h.obj o=h.obj o:=λo ho=>⟨.inl ho,rfl⟩
 have r3:=r'.sub (s:=s) rfl (.inr rfl) ho (cD.mono cE (vM _));have conv:∀{t:Nat} {a:List PV},((σ1.kill s).sub s (ι s) cs).obj t=some a->∃b,σ1.obj t=some b:=λ{t a} ht=>by
  simp only[PHeap.sub,PHeap.kill,Option.map_eq_some_iff]at ht;obtain⟨b,hb,_⟩:=ht;split at hb
  .cases hb
  .exact⟨b,hb⟩
 obtain⟨v2,σ2,ι2,Z2,g1,g2,g3,g4,g5,g6,g7,g8,g9⟩:=k (ι s) (by omega) (λt ds ht hm=>hz (QH (r.obj t ds ht).2.1 _ hm)) (λhm=>hz (zGX hv _ hm)) w ι (λo=>Z o\/o=ι s) h b r3
  (VOK.sb (.inr rfl) ho (cD.mono cE (vM _)) (hv.mono cE (vM _))) h1 h2 (λt ds ht hd=>by obtain⟨b,hb⟩:=conv hd;exact h3 t b ht hb)
  (λt ht hd=>by
   have:=h4 t ht hd
   simp only[PHeap.sub,PHeap.kill,PHeap.up];split
   .rfl
   .rw[this];rfl)
 exact⟨v2,σ2,ι2,Z2,g1,g2,g3,g4,λo ho=>g5 o (.inl ho),g6,g7,g8.trans (er_sb rfl v),g9⟩
end Go.Ab
set_option linter.unusedVariables false
set_option linter.unusedSimpArgs false
namespace Go.Ab
structure SR where
 s:Nat
 cap:Cap
 x:V1
def SR.pv(q:SR):PV:=.sl q.s 0 q.x.length q.cap
def SR.ok(σ:PHeap)(b:Nat)(q:SR):Prop:=full 1 q.cap q.x.length/\σ.obj q.s=some (pis q.x)/\b<=q.s/\q.s<σ.next
def qf(rows:List SR):List Nat:=rows.map SR.s
end Go.Ab
set_option linter.unusedVariables false
set_option linter.unusedSimpArgs false
namespace Go.Ab
variable{h:PHeap}
theorem SR.ok.keep{b:Nat}{h':PHeap}{q:SR}(a:q.ok h b)(k:Keep h h'):q.ok h' b:=⟨a.1,by rw[k.obj _ a.2.2.2];exact a.2.1,a.2.2.1,Nat.lt_of_lt_of_le a.2.2.2 k.next⟩
end Go.Ab
set_option linter.unusedVariables false
set_option linter.unusedSimpArgs false
namespace Go.Ab
variable{σ0 σ1 σ:PHeap}{K:PV->PHeap->Prop}{ι:Nat->Nat}{Z Z':Nat->Prop}{h:AHeap}{b lo hi:Nat}{a:Nat->Nat}
inductive TR where
 |leaf (v:PV)
 |nil
 |lst (s:Nat) (cap:Cap) (kids:List TR)
 |cut (s off l:Nat) (cap:Cap) (kids:List TR)
 |agg (kids:List TR)
 |tup (kids:List TR)
def leafy:PV->Prop
 | .int _ _ | .bool _ | .str _=>True
 |_=>False
mutual
def TR.pv:TR->PV
 | .leaf v=>v
 | .nil=>.fz true .nils 0 []
 | .lst s cap kids=>.sl s 0 kids.length cap
 | .cut s off l cap kids=>.sl s off l cap
 | .agg kids=>.agg (TR.pvs kids)
 | .tup kids=>.tup (TR.pvs kids)
def TR.pvs:List TR->List PV
 |[]=>[]
 |t::ts=>TR.pv t::TR.pvs ts
end
mutual
def TR.fz(a:Nat->Nat):TR->PV
 | .leaf v=>v
 | .nil=>.fz true .nils 0 []
 | .lst s cap kids=>.fz true (.sl (a s) 0 kids.length cap) kids.length (TR.fzs a kids)
 | .cut s off l cap kids=>.fz false (.sl (a s) off l cap) l (((TR.fzs a kids).drop off).take l)
 | .agg kids=>.agg (TR.fzs a kids)
 | .tup kids=>.tup (TR.fzs a kids)
def TR.fzs(a:Nat->Nat):List TR->List PV
 |[]=>[]
 |t::ts=>TR.fz a t::TR.fzs a ts
end
mutual
def TR.slots:TR->List Nat
 | .leaf _=>[]
 | .nil=>[]
 | .lst s _ kids=>s::TR.slotss kids
 | .cut s _ _ _ kids=>s::TR.slotss kids
 | .agg kids=>TR.slotss kids
 | .tup kids=>TR.slotss kids
def TR.slotss:List TR->List Nat
 |[]=>[]
 |t::ts=>TR.slots t++TR.slotss ts
end
mutual
def TR.ok(σ:PHeap)(b:Nat):TR->Prop
 | .leaf v=>leafy v
 | .nil=>True
 | .lst s cap kids=>(full 1 cap kids.length/\σ.obj s=some (TR.pvs kids)/\b<=s/\s<σ.next)/\TR.oks σ b kids
 | .cut _ _ _ _ _=>False
 | .agg kids=>TR.oks σ b kids
 | .tup kids=>TR.oks σ b kids
def TR.oks(σ:PHeap)(b:Nat):List TR->Prop
 |[]=>True
 |t::ts=>TR.ok σ b t/\TR.oks σ b ts
end
theorem TR.fzs_length:∀ts:List TR,(TR.fzs a ts).length=ts.length
 |[]=>rfl
 |t::ts=>by simp only[TR.fzs,List.length_cons,TR.fzs_length ts]
theorem zOo{v:PV}(h:leafy v)(ι ι':Nat->Nat):er ι v=er ι' v:=by
 cases v<;>simp only[leafy]at h<;>rfl
theorem zNC{v:PV}(hl:leafy v)(n:Nat):VOK Z h n v:=by
 cases v<;>simp only[leafy]at hl<;>trivial
mutual
theorem TR.er_fz(κ:Nat->Nat):∀{t:TR},t.ok σ b->er κ (t.fz ι)=er ι t.pv
 | .leaf v,ht=>zOo ht _ _
 | .nil,_=>rfl
 | .lst s cap kids,ht=>rfl
 | .cut _ _ _ _ _,ht=>ht.elim
 | .agg kids,ht=>by simp only[TR.fz,TR.pv,er];rw[TR.ers_fz κ (ts:=kids) ht]
 | .tup kids,ht=>by simp only[TR.fz,TR.pv,er];rw[TR.ers_fz κ (ts:=kids) ht]
theorem TR.ers_fz(κ:Nat->Nat):∀{ts:List TR},TR.oks σ b ts->ers κ (TR.fzs ι ts)=ers ι (TR.pvs ts)
 |[],_=>rfl
 |t::ts,ht=>by simp only[TR.fzs,TR.pvs,ers];rw[TR.er_fz κ ht.1,TR.ers_fz κ ht.2]
end
mutual
theorem TR.vok(r:Rel ι Z σ h):∀{t:TR},t.ok σ b->(∀s∈t.slots,Z' (ι s))->VOK Z' h 0 (t.fz ι)
 | .leaf v,ht,_=>zNC ht 0
 | .nil,_,_=>⟨.inl ⟨rfl,rfl,rfl⟩,trivial⟩
 | .lst s cap kids,⟨⟨h1,h2,h3,h4⟩,ht⟩,hz=>by
  obtain⟨q1,q2,q3⟩:=r.obj s _ h2;rw[<-TR.ers_fz idz ht]at q1;refine⟨.inr ⟨ι s,0,cap,rfl,hz s (List.mem_cons_self ..),.inr (zCT q1 rfl),λc hc=>?_,λ_=>⟨rfl,q1⟩⟩,TR.voks r ht λs' cu=>hz s' (List.mem_cons_of_mem _ cu)⟩;subst hc
  have:=h1.ok
  simpa [capOK]using this
 | .cut _ _ _ _ _,ht,_=>ht.elim
 | .agg kids,ht,hz=>TR.voks r (ts:=kids) ht hz
 | .tup kids,ht,hz=>TR.voks r (ts:=kids) ht hz
theorem TR.voks(r:Rel ι Z σ h):∀{ts:List TR},TR.oks σ b ts->(∀s∈TR.slotss ts,Z' (ι s))->VOKs Z' h 0 (TR.fzs ι ts)
 |[],_,_=>trivial
 |t::ts,ht,hz=>⟨TR.vok r ht.1 λs hs=>hz s (List.mem_append.2 (.inl hs)),TR.voks r ht.2 λs hs=>hz s (List.mem_append.2 (.inr hs))⟩
end
mutual
theorem TR.slot_obj:∀{t:TR},t.ok σ b->∀s∈t.slots,b<=s/\∃cs,σ.obj s=some cs
 | .leaf v,_,s,hs=>by cases hs
 | .nil,_,s,hs=>by cases hs
 | .lst s' cap kids,⟨⟨h1,h2,h3,h4⟩,ht⟩,s,hs=>by
  simp only[TR.slots,List.mem_cons]at hs;rcases hs with rfl|hs
  .exact⟨h3,_,h2⟩
  .exact TR.slots_obj ht s hs
 | .cut _ _ _ _ _,ht,_,_=>ht.elim
 | .agg kids,ht,s,hs=>TR.slots_obj (ts:=kids) ht s hs
 | .tup kids,ht,s,hs=>TR.slots_obj (ts:=kids) ht s hs
theorem TR.slots_obj:∀{ts:List TR},TR.oks σ b ts->∀s∈TR.slotss ts,b<=s/\∃cs,σ.obj s=some cs
 |[],_,s,hs=>by cases hs
 |t::ts,ht,s,hs=>by
  simp only[TR.slotss,List.mem_append]at hs;rcases hs with hs|hs
  .exact TR.slot_obj ht.1 s hs
  .exact TR.slots_obj ht.2 s hs
end
theorem Gh.tree{t:TR}(hk:Keep σ0 σ1)(ht:t.ok σ1 σ0.next)
  (k:∀a T,(∀s∈t.slots,σ0.top<=a s/\a s<T)->(∀s∈t.slots,∀s'∈t.slots,a s=a s'->s=s')->σ0.top<=T->K (t.fz a) (σ0.up T)):Gh σ0 K t.pv σ1:=by
 intro w ι Z h b r hv h1 h2 h3 h4;have nX:=TR.slot_obj ht;have ah:∀{s:Nat} {cs:List PV},σ1.obj s=some cs->ι s<h.next:=λhs=>r.hwf.lt (r.obj _ _ hs).1;have cE:∀o,Z o->(Z o\/∃s∈t.slots,o=ι s)/\h.obj o=h.obj o:=λo ho=>⟨.inl ho,rfl⟩
 have cA:∀s∈t.slots,∀s'∈t.slots,ι s=ι s'->s=s':=λs hs s' cu e=>by
  obtain⟨_,cs,g⟩:=nX s hs;obtain⟨_,dT,g'⟩:=nX s' cu;exact r.inj s s' cs dT g g' e
 refine⟨t.fz ι,σ0.up h.next,ι,λo=>Z o\/∃s∈t.slots,o=ι s,⟨r.hwf,?_,vM _,w.wf,λs cs hs=>?_,λs s' cs dT hs cu he=>?_⟩,?_,vM _,λ_ _=>rfl,λ_ ho=>.inl ho,λs cs hs hc=>?_,λs hs hn=>hn,TR.er_fz ι ht,k ι h.next (λs hs=>?_) cA (Nat.le_trans hk.top r.top)⟩
 .rintro o (ho|⟨s,hs,rfl⟩)
  .exact r.zlt o ho
  .obtain⟨_,cs,g⟩:=nX s hs;exact ah g
 .have hl:=w.lt hs;have dF:σ1.obj s=some cs:=by rw[hk.obj s hl];exact hs
  obtain⟨q1,q2,q3⟩:=r.obj s cs dF;refine⟨q1,(q2.of_bel (w.bel s cs hs)).mono cE (vM _),?_⟩
  rintro(hz|⟨s',cu,e⟩)
  .exact q3 hz
  .obtain⟨g0,dT,g⟩:=nX s' cu
   have:=r.inj s s' cs dT dF g e
   omega
 .exact r.inj s s' cs dT (by rw[hk.obj s (w.lt hs)];exact hs) (by rw[hk.obj s' (w.lt cu)];exact cu) he
 .exact(TR.vok r ht λs hs=>.inr ⟨s,hs,rfl⟩).mono (λo ho=>⟨ho,rfl⟩) (Nat.zero_le _)
 .have:=w.lt hc
  omega
 .obtain⟨g0,cs,g⟩:=nX s hs;exact⟨Nat.le_trans h2 (h3 s cs g0 g),ah g⟩
theorem zND{v:PV}(h:leafy v):ead v=[]/\Wh v:=by
 cases v<;>simp only[leafy]at h<;>exact⟨rfl,trivial⟩
mutual
theorem TR.ead_sub:∀{t:TR},t.ok σ b->(ead (t.fz a)).Sublist (t.slots.map a)/\Wh (t.fz a)
 | .leaf v,ht=>by
  obtain⟨h1,h2⟩:=zND ht;exact⟨by simp only[TR.fz,TR.slots,h1,List.map_nil];exact List.Sublist.refl _,h2⟩
 | .nil,_=>⟨List.Sublist.refl _,.inl rfl⟩
 | .lst s cap kids,⟨_,ht⟩=>by
  obtain⟨h1,h2⟩:=TR.eads_sub ht;simp only[TR.fz,TR.slots,List.map_cons];by_cases hn:TR.fzs a kids=[]
  .rw[hn];exact⟨List.nil_sublist _,.inl rfl⟩
  .rw[zQ3 hn];exact⟨List.Sublist.cons_cons _ h1,.inr ⟨rfl,rfl,h2⟩⟩
 | .cut _ _ _ _ _,ht=>ht.elim
 | .agg kids,ht=>TR.eads_sub (ts:=kids) ht
 | .tup kids,ht=>TR.eads_sub (ts:=kids) ht
theorem TR.eads_sub:∀{ts:List TR},TR.oks σ b ts->(eads (TR.fzs a ts)).Sublist ((TR.slotss ts).map a)/\Whs (TR.fzs a ts)
 |[],_=>⟨List.Sublist.refl _,trivial⟩
 |t::ts,ht=>by
  obtain⟨h1,h2⟩:=TR.ead_sub ht.1;obtain⟨h3,h4⟩:=TR.eads_sub ht.2;simp only[TR.fzs,TR.slotss,eads,List.map_append];exact⟨h1.append h3,h2,h4⟩
end
theorem zG8{xs:List Nat}(hn:xs.Nodup)(hi:∀s∈xs,∀s'∈xs,a s=a s'->s=s'):(xs.map a).Nodup:=by
 induction xs with
 |nil=>exact List.nodup_nil
 |cons x xs ih=>
  rw[List.nodup_cons]at hn;rw[List.map_cons,List.nodup_cons];refine⟨λhm=>?_,ih hn.2 λs hs s' cu=>hi s (List.mem_cons_of_mem _ hs) s' (List.mem_cons_of_mem _ cu)⟩;obtain⟨y,hy,e⟩:=List.mem_map.1 hm
  have:=hi y (List.mem_cons_of_mem _ hy) x (List.mem_cons_self ..) e
  exact hn.1 (this ▸ hy)
theorem TR.own{t:TR}(ht:t.ok σ b)(hn:t.slots.Nodup)(hb:∀s∈t.slots,lo<=a s/\a s<hi)(Jb:∀s∈t.slots,∀s'∈t.slots,a s=a s'->s=s'):Own lo hi (t.fz a):=by
 obtain⟨h1,h2⟩:=TR.ead_sub (a:=a) ht;refine⟨h2,(zG8 hn Jb).sublist h1,λo ho=>?_⟩;obtain⟨s,hs,rfl⟩:=List.mem_map.1 (h1.subset ho);exact hb s hs
theorem Gh.treeO{t:TR}(hk:Keep σ0 σ1)(ht:t.ok σ1 σ0.next)(hn:t.slots.Nodup)(k:∀a T,Own σ0.top T (t.fz a)->σ0.top<=T->K (t.fz a) (σ0.up T)):Gh σ0 K t.pv σ1:=
 Gh.tree hk ht λa T h1 h2 h3=>k a T (TR.own ht hn h1 h2) h3
def TR.row(s:Nat)(cap:Cap)(x:V1):TR:=.lst s cap (x.map λn=>.leaf (.int .i64 n))
theorem TR.ints_pvs:∀x:V1,TR.pvs (x.map λn=>.leaf (.int .i64 n))=pis x
 |[]=>rfl
 |n::x=>by simp only[List.map_cons,TR.pvs,TR.pv,TR.ints_pvs x];rfl
theorem TR.ints_fzs:∀x:V1,TR.fzs a (x.map λn=>.leaf (.int .i64 n))=pis x
 |[]=>rfl
 |n::x=>by simp only[List.map_cons,TR.fzs,TR.fz,TR.ints_fzs x];rfl
theorem TR.ints_oks:∀x:V1,TR.oks σ b (x.map λn=>.leaf (.int .i64 n))
 |[]=>trivial
 |n::x=>⟨trivial,TR.ints_oks x⟩
theorem TR.ints_slots:∀x:V1,TR.slotss (x.map λn=>.leaf (.int .i64 n))=[]
 |[]=>rfl
 |n::x=>by simp only[List.map_cons,TR.slotss,TR.slots,List.nil_append,TR.ints_slots x]
theorem TR.row_pv{s:Nat}{cap:Cap}{x:V1}:(TR.row s cap x).pv=.sl s 0 x.length cap:=by simp[TR.row,TR.pv]
theorem TR.row_fz{s:Nat}{cap:Cap}{x:V1}:(TR.row s cap x).fz a=.fz true (.sl (a s) 0 x.length cap) x.length (pis x):=by simp only[TR.row,TR.fz,TR.ints_fzs,List.length_map]
theorem TR.row_FI{s:Nat}{cap:Cap}{x:V1}:FI ((TR.row s cap x).fz a) x:=⟨true,_,TR.row_fz⟩
theorem TR.row_ok{s:Nat}{cap:Cap}{x:V1}(h1:full 1 cap x.length)(h2:σ.obj s=some (pis x))(h3:b<=s)(h4:s<σ.next):(TR.row s cap x).ok σ b:=
 ⟨⟨by rw[List.length_map];exact h1,by rw[TR.ints_pvs];exact h2,h3,h4⟩,TR.ints_oks x⟩
theorem TR.row_slots{s:Nat}{cap:Cap}{x:V1}:(TR.row s cap x).slots=[s]:=by simp only[TR.row,TR.slots,TR.ints_slots]
def SR.tr(q:SR):TR:=TR.row q.s q.cap q.x
theorem SR.ok.tr{q:SR}(h:q.ok σ b):q.tr.ok σ b:=TR.row_ok h.1 h.2.1 h.2.2.1 h.2.2.2
theorem TR.rows_pvs:∀rows:List SR,TR.pvs (rows.map SR.tr)=rows.map SR.pv
 |[]=>rfl
 |q::rows=>by simp only[List.map_cons,TR.pvs,TR.rows_pvs rows];rw[show q.tr.pv=q.pv from TR.row_pv]
theorem TR.rows_oks:∀{rows:List SR},(∀q∈rows,q.ok σ b)->TR.oks σ b (rows.map SR.tr)
 |[],_=>trivial
 |q::rows,h=>⟨(h q (List.mem_cons_self ..)).tr,TR.rows_oks λq' hq=>h q' (List.mem_cons_of_mem _ hq)⟩
theorem TR.rows_slots:∀rows:List SR,TR.slotss (rows.map SR.tr)=qf rows
 |[]=>rfl
 |q::rows=>by
  simp only[List.map_cons,TR.slotss,TR.rows_slots rows];rw[show q.tr.slots=[q.s] from TR.row_slots];rfl
theorem TR.rows_all2:∀rows:List SR,All2 FI (TR.fzs a (rows.map SR.tr)) (rows.map SR.x)
 |[]=>All2.nil _
 |q::rows=>by
  have h:=TR.rows_all2 rows;refine⟨by simp only[List.map_cons,TR.fzs,List.length_cons,h.1],λk c x hc hx=>?_⟩;cases k with
  |zero=>
   simp only[List.map_cons,TR.fzs,List.getElem?_cons_zero,Option.some.injEq]at hc hx;rw[<-hc,<-hx];exact TR.row_FI
  |succ k=>
   simp only[List.map_cons,TR.fzs,List.getElem?_cons_succ]at hc hx;exact h.2 k c x hc hx
def TR.rows(s:Nat)(cap:Cap)(rows:List SR):TR:=.lst s cap (rows.map SR.tr)
theorem TR.rows_FII{s:Nat}{cap:Cap}{rows:List SR}:FII ((TR.rows s cap rows).fz a) (rows.map SR.x):=
 ⟨true,.sl (a s) 0 rows.length cap,TR.fzs a (rows.map SR.tr),by simp only[TR.rows,TR.fz,List.length_map],TR.rows_all2 rows⟩
theorem TR.rows_ok{s:Nat}{cap:Cap}{rows:List SR}(h1:full 1 cap rows.length)(h2:σ.obj s=some (rows.map SR.pv))(h3:b<=s)(h4:s<σ.next)(h5:∀q∈rows,q.ok σ b):(TR.rows s cap rows).ok σ b:=
 ⟨⟨by rw[List.length_map];exact h1,by rw[TR.rows_pvs];exact h2,h3,h4⟩,TR.rows_oks h5⟩
mutual
def TR.okF(σ:PHeap)(b:Nat):TR->Prop
 | .leaf v=>Bel 0 v
 | .nil=>True
 | .lst s cap kids=>(full 1 cap kids.length/\σ.obj s=some (TR.pvs kids)/\b<=s/\s<σ.next)/\TR.okFs σ b kids
 | .cut s off l cap kids=>((∀c,cap=.known c->l<=c)/\σ.obj s=some (TR.pvs kids)/\b<=s/\s<σ.next/\off+l<=kids.length)/\TR.okFs σ b kids
 | .agg kids=>TR.okFs σ b kids
 | .tup kids=>TR.okFs σ b kids
def TR.okFs(σ:PHeap)(b:Nat):List TR->Prop
 |[]=>True
 |t::ts=>TR.okF σ b t/\TR.okFs σ b ts
end
mutual
theorem TR.vokF(r:Rel ι Z σ h)(eS:∀o,Z o->Z' o):∀{n:Nat} {t:TR},t.okF σ b->VOK Z h n t.pv->(∀s∈t.slots,Z' (ι s))->VOK Z' h 0 (t.fz ι)/\∀κ,er κ (t.fz ι)=er ι t.pv
 |n,.leaf v,ht,hv,_=>by
  have h0:VOK Z h 0 v:=VOK.of_bel hv ht;exact⟨h0.mono (λo ho=>⟨eS o ho,rfl⟩) (vM _),λκ=>show er κ v=er ι v from(zDM h0).trans (zDM h0).symm⟩
 |n,.nil,_,_,_=>⟨⟨.inl ⟨rfl,rfl,rfl⟩,trivial⟩,λ_=>rfl⟩
 |n,.lst s cap kids,⟨⟨h1,h2,h3,h4⟩,ht⟩,hv,hz=>by
  obtain⟨q1,q2,q3⟩:=r.obj s _ h2;obtain⟨g1,g2⟩:=TR.voksF r eS ht q2 λs' cu=>hz s' (List.mem_cons_of_mem _ cu);rw[<-g2 idz]at q1;refine⟨⟨.inr ⟨ι s,0,cap,rfl,hz s (List.mem_cons_self ..),.inr (zCT q1 rfl),λc hc=>?_,λ_=>⟨rfl,q1⟩⟩,g1⟩,λκ=>rfl⟩;subst hc
  have:=h1.ok
  simpa [capOK]using this
 |n,.cut s off l cap kids,⟨⟨h1,h2,h3,h4,h5⟩,ht⟩,hv,hz=>by
  obtain⟨q1,q2,q3⟩:=r.obj s _ h2;obtain⟨g1,g2⟩:=TR.voksF r eS ht q2 λs' cu=>hz s' (List.mem_cons_of_mem _ cu);rw[<-g2 idz]at q1;have hl:(((TR.fzs ι kids).drop off).take l).length=l:=by rw[List.length_take,List.length_drop,TR.fzs_length];omega
  refine⟨⟨.inr ⟨ι s,off,cap,rfl,hz s (List.mem_cons_self ..),.inr ?_,h1,λe=>by cases e⟩,(g1.drop off).take l⟩,λκ=>rfl⟩;rw[QD,QE,List.length_take,List.length_drop,zm,TR.fzs_length,Nat.min_eq_left (by omega)];exact zBc q1 (by show off+l<=(ers idz (TR.fzs ι kids)).length;rw[zm,TR.fzs_length];exact h5)
 |n,.agg kids,ht,hv,hz=>by
  obtain⟨g1,g2⟩:=TR.voksF (ts:=kids) r eS ht hv hz;exact⟨g1,λκ=>by simp only[TR.fz,TR.pv,er];rw[g2 κ]⟩
 |n,.tup kids,ht,hv,hz=>by
  obtain⟨g1,g2⟩:=TR.voksF (ts:=kids) r eS ht hv hz;exact⟨g1,λκ=>by simp only[TR.fz,TR.pv,er];rw[g2 κ]⟩
theorem TR.voksF(r:Rel ι Z σ h)(eS:∀o,Z o->Z' o):∀{n:Nat} {ts:List TR},TR.okFs σ b ts->VOKs Z h n (TR.pvs ts)->(∀s∈TR.slotss ts,Z' (ι s))->VOKs Z' h 0 (TR.fzs ι ts)/\∀κ,ers κ (TR.fzs ι ts)=ers ι (TR.pvs ts)
 |n,[],_,_,_=>⟨trivial,λ_=>rfl⟩
 |n,t::ts,ht,hv,hz=>by
  obtain⟨g1,g2⟩:=TR.vokF r eS ht.1 hv.1 λs hs=>hz s (List.mem_append.2 (.inl hs));obtain⟨g3,g4⟩:=TR.voksF r eS ht.2 hv.2 λs hs=>hz s (List.mem_append.2 (.inr hs));exact⟨⟨g1,g3⟩,λκ=>by simp only[TR.fzs,TR.pvs,ers];rw[g2 κ,g4 κ]⟩
end
mutual
theorem TR.slot_objF:∀{t:TR},t.okF σ b->∀s∈t.slots,b<=s/\∃cs,σ.obj s=some cs
 | .leaf v,_,s,hs=>by cases hs
 | .nil,_,s,hs=>by cases hs
 | .lst s' cap kids,⟨⟨h1,h2,h3,h4⟩,ht⟩,s,hs=>by
  simp only[TR.slots,List.mem_cons]at hs;rcases hs with rfl|hs
  .exact⟨h3,_,h2⟩
  .exact TR.slots_objF ht s hs
 | .cut s' off l cap kids,⟨⟨h1,h2,h3,h4,h5⟩,ht⟩,s,hs=>by
  simp only[TR.slots,List.mem_cons]at hs;rcases hs with rfl|hs
  .exact⟨h3,_,h2⟩
  .exact TR.slots_objF ht s hs
 | .agg kids,ht,s,hs=>TR.slots_objF (ts:=kids) ht s hs
 | .tup kids,ht,s,hs=>TR.slots_objF (ts:=kids) ht s hs
theorem TR.slots_objF:∀{ts:List TR},TR.okFs σ b ts->∀s∈TR.slotss ts,b<=s/\∃cs,σ.obj s=some cs
 |[],_,s,hs=>by cases hs
 |t::ts,ht,s,hs=>by
  simp only[TR.slotss,List.mem_append]at hs;rcases hs with hs|hs
  .exact TR.slot_objF ht.1 s hs
  .exact TR.slots_objF ht.2 s hs
end
theorem Gh.treeF{t:TR}(hk:Keep σ0 σ1)(ht:t.okF σ1 σ0.next)(k:∀a,K (t.fz a) σ0):Gh σ0 K t.pv σ1:=by
 intro w ι Z h b r hv h1 h2 h3 h4;have nX:=TR.slot_objF ht;have ah:∀{s:Nat} {cs:List PV},σ1.obj s=some cs->ι s<h.next:=λhs=>r.hwf.lt (r.obj _ _ hs).1;have cE:∀o,Z o->(Z o\/∃s∈t.slots,o=ι s)/\h.obj o=h.obj o:=λo ho=>⟨.inl ho,rfl⟩
 obtain⟨v1,v2⟩:=TR.vokF (Z':=λo=>Z o\/∃s∈t.slots,o=ι s) r (λo ho=>.inl ho) ht hv λs hs=>.inr ⟨s,hs,rfl⟩;refine⟨t.fz ι,σ0,ι,λo=>Z o\/∃s∈t.slots,o=ι s,⟨r.hwf,?_,Nat.le_trans hk.top r.top,w.wf,λs cs hs=>?_,λs s' cs dT hs cu he=>?_⟩,v1.mono (λo ho=>⟨ho,rfl⟩) (Nat.zero_le _),vM _,λ_ _=>rfl,λ_ ho=>.inl ho,λs cs hs hc=>?_,λs hs hn=>hn,v2 ι,k ι⟩
 .rintro o (ho|⟨s,hs,rfl⟩)
  .exact r.zlt o ho
  .obtain⟨_,cs,g⟩:=nX s hs;exact ah g
 .have hl:=w.lt hs;have dF:σ1.obj s=some cs:=by rw[hk.obj s hl];exact hs
  obtain⟨q1,q2,q3⟩:=r.obj s cs dF;refine⟨q1,(q2.of_bel (w.bel s cs hs)).mono cE (vM _),?_⟩
  rintro(hz|⟨s',cu,e⟩)
  .exact q3 hz
  .obtain⟨g0,dT,g⟩:=nX s' cu
   have:=r.inj s s' cs dT dF g e
   omega
 .exact r.inj s s' cs dT (by rw[hk.obj s (w.lt hs)];exact hs) (by rw[hk.obj s' (w.lt cu)];exact cu) he
 .have:=w.lt hc
  omega
end Go.Ab
