/- THE TOP, MORE: slices whose elements are several cells wide, laid as frozen values. -/
import Derived.Test.YtmiobhfjmhgplaaDoorAAbPt
import Derived.Lib.SmallJoins
set_option linter.unusedVariables false
set_option linter.unusedSimpArgs false
namespace Go.Ab
open Go.ChangeShapes Go.WideShapes Go.RowKit Go.Deep Go.Joins
variable {w0 W:World} {j:Inj} {h h':AHeap} {H:Type} {enc:TypeId×Value→H} {P:Program} {α:Type}
def LayC (enc:TypeId×Value→H) (P:Program) (W:World) (t:TypeId) (c:Nat) (R:List PV→α→Prop):Prop:=∀(w0:World) (j:Inj) (h:AHeap) (held:Bool) (fuel:Nat) (cs:List Value) (x:DataW H×List MemPlace),MR W.heap.size w0 j h W→cs.length=c→
 DataW.trod enc P W 0 (fun _=>true) held fuel t cs=some x→∃(j':Inj) (h':AHeap) (pvs:List PV) (a:α),MR W.heap.size w0 j' h' W∧j.le j'∧Ext h h'∧pvs.length=c∧(∀(i:Nat) (pv:PV) (v:Value),pvs[i]? = some pv→cs[i]? = some v→VI j' (er idz pv) v)∧VOKs (zlt h') h' 0 pvs∧pvs.all PV.one=true∧R pvs a
theorem flat_get {β:Type} {c:Nat} (hc:0<c):∀{rows:List (List β)} (k:Nat),(∀r∈rows,r.length=c)→rows.flatten[k]? = (rows[k / c]?).bind (·[k % c]?)
 | [],k,_=>by simp
 | r::rows,k,h=>by
  have hr:=h r (by simp)
  rw [List.flatten_cons];rcases Nat.lt_or_ge k c with x|x
  ·rw [List.getElem?_append_left (by omega),Nat.div_eq_of_lt x,Nat.mod_eq_of_lt x]
   rfl
  ·rw [List.getElem?_append_right (by omega),hr,flat_get hc (k-c) fun t ht=>h t (by simp [ht])]
   have h1:k / c=(k-c) / c+1:=by rw [Nat.div_eq_sub_div hc x]
   have h2:k % c=(k-c) % c:=by rw [Nat.mod_eq_sub_mod x]
   rw [h1,h2,List.getElem?_cons_succ]
theorem LayC.cells {e:TypeId} {c:Nat} {R:List PV→α→Prop} (L:LayC enc P W e c R) {CS:Nat→List Value} {D:Nat→DataW H} {Pl:Nat→List MemPlace} {held:Bool} {fuel:Nat} {w0:World}:∀(n:Nat) {j:Inj} {h:AHeap},MR W.heap.size w0 j h W→
  (∀i,i<n→(CS i).length=c∧DataW.trod enc P W 0 (fun _=>true) held fuel e (CS i)=some (D i,Pl i))→
  ∃(j':Inj) (h':AHeap) (rows:List (List PV)) (as:List α),MR W.heap.size w0 j' h' W∧j.le j'∧Ext h h'∧rows.length=n∧(∀r∈rows,r.length=c)∧(∀(q:Nat) (row:List PV),rows[q]? = some row→∀(i:Nat) (pv:PV) (v:Value),row[i]? = some pv→(CS q)[i]? = some v→VI j' (er idz pv) v)∧VOKs (zlt h') h' 0 rows.flatten∧rows.flatten.all PV.one=true∧All2 R rows as
 | 0,j,h,m,_=>⟨j,h,[],[],m,Inj.le.refl _,Ext.refl m.wf,rfl,by simp,fun q row hq=>by simp at hq,trivial,rfl,All2.nil _⟩
 | n+1,j,h,m,hx=>by
  obtain⟨j1,h1,rows,as,m1,l1,e1,hl,hlen,hv,ho,hone,hr⟩:=LayC.cells L n m fun i hi=>hx i (by omega)
  obtain⟨j2,h2,pvs,a,m2,l2,e2,g1,g2,g3,g4,g5⟩:=L w0 j1 h1 held fuel (CS n) _ m1 (hx n (by omega)).1 (hx n (by omega)).2
  refine⟨j2,h2,rows++[pvs],as++[a],m2,l1.trans l2,e1.trans e2,by simp [hl],fun r hr'=>?_,fun q row hq i pv v hi hcv=>?_,?_,?_,hr.snoc g5⟩
  ·rcases List.mem_append.1 hr' with x | x
   ·exact hlen r x
   ·rw [List.mem_singleton.1 x];exact g1
  ·rcases Nat.lt_trichotomy q n with x | x | x
   ·rw [List.getElem?_append_left (by omega)]at hq
    exact VI.mono l2 _ _ (hv q row hq i pv v hi hcv)
   ·subst x
    rw [List.getElem?_append_right (by omega)]at hq
    simp [hl]at hq
    subst hq;exact g2 i pv v hi hcv
   ·rw [List.getElem?_eq_none (by simp;omega)]at hq
    cases hq
  ·rw [List.flatten_append]
   simp only [List.flatten_cons,List.flatten_nil,List.append_nil];exact(e2.voks ho).append g3
  ·rw [List.flatten_append]
   simp only [List.flatten_cons,List.flatten_nil,List.append_nil,List.all_append,hone,g4,Bool.and_self]
theorem zEX {t e:TypeId} {c:Nat} (hc0:0<c) (ht:P.underlying t=some (.slice e)) (hc:P.cellsOf e=c) {R:List PV→α→Prop} (L:LayC enc P W e c R):Lay1 enc P W t (fun v (xs:List α)=>(∃w a rows,v=.fz w a xs.length rows.flatten∧All2 R rows xs)∧xs.length≤9223372036854775807):=by
 intro w0 j h held fuel v x m hx;rcases open_slice ht hx with ⟨hv,rfl⟩|⟨a,len,cap,n,k,D,Pl,hv,_,hl,hm,hmm,rfl,hcell⟩
 ·simp only [List.cons.injEq,and_true]at hv
  subst hv;exact⟨j,h,.fz true .nils 0 [],[],m,Inj.le.refl _,Ext.refl m.wf,rfl,⟨.inl ⟨rfl,rfl,rfl⟩,trivial⟩,rfl,⟨true,.nils,[],rfl,All2.nil _⟩,by simp⟩
 simp only [if_true]at hmm
 subst hmm;simp only [List.cons.injEq,and_true]at hv
 subst hv;rw [hc]at hcell
 have hml:maxLen=9223372036854775807:=rfl
 by_cases h0:n=0
 ·subst h0
  obtain rfl:len=0:=by omega
  obtain⟨m',l',e'⟩:=m.name ⟨0,0,0⟩;exact⟨_,_,.fz false (.sl h.next 0 0 (.known 0)) 0 [],[],m',l',e',⟨⟨0,0,0⟩,a,by simp [Inj.put],rfl,.inr ⟨rfl,rfl⟩⟩,⟨.inr ⟨h.next,0,.known 0,rfl,by simp [zlt],.inl rfl,fun c hc=>by cases hc;exact Nat.le_refl _,by simp⟩,trivial⟩,rfl,⟨false,_,[],rfl,All2.nil _⟩,by simp⟩
 obtain⟨CS,hCS⟩:=choose_lt (α:=List Value) (p:=fun i cs=>W.cells? 0 (a.add (i*c)) c=some cs∧DataW.trod enc P W 0 (fun _=>true) held k e cs=some (D i,Pl i)) hcell
 have one:∀i,i<n→(CS i).length=c∧∀q,q<c→W.cell? (a.add (i*c+q))=(CS i)[q]?:=fun i hi=>by
  obtain⟨_,q1,q2⟩:=World.cells?_some (hCS i hi).1;exact⟨q1,fun q hq=>by rw [←add_add];exact q2 q hq⟩
 have hc00:∃v,W.cell? (a.add 0)=some v:=by
  obtain⟨q1,q2⟩:=one 0 (by omega)
  have:=q2 0 hc0
  rw [Nat.zero_mul]at this
  rw [this,List.getElem?_eq_getElem (by omega)]
  exact⟨_,rfl⟩
 obtain⟨v00,hv00⟩:=hc00;obtain⟨hs,cur,ty,fz,hb,_⟩:=zAE hv00;obtain⟨blk,off,spot⟩:=a;have hspot:spot=none:=by simpa [Addr.add]using hs
 subst hspot;have hb':W.heap[blk]? = some (.cells cur ty fz):=by simpa [Addr.add]using hb
 have hblk:=zFn hb';obtain⟨j1,h1,rows,as,m1,l1,e1,hpl,hrl,hpv,hok,hone,hr⟩:=L.cells (CS:=CS) (D:=D) (Pl:=Pl) len m fun i hi=>⟨(one i (by omega)).1,(hCS i (by omega)).2⟩
 have m2:=m1.lay (cells:=ers idz rows.flatten) (l:=⟨blk,off,0⟩) (by rw [QH hok];exact hone) hblk hb' (by
  intro i v hi;rw [Zb]at hi
  obtain⟨pv,hpi,rfl⟩:=Option.map_eq_some_iff.1 hi;rw [flat_get hc0 i hrl]at hpi
  obtain⟨row,hq,hrow⟩:=Option.bind_eq_some_iff.1 hpi;have hil:i / c<len:=by rw [←hpl];exact(List.getElem?_eq_some_iff.1 hq).1
  obtain⟨o1,o2⟩:=one (i / c) (by omega)
  have hmod:=Nat.mod_lt i hc0;have hcv:=o2 (i % c) hmod;rw [Nat.div_add_mod' i c,List.getElem?_eq_getElem (by omega)]at hcv
  obtain⟨_,cur',ty',fz',hb2,hc2⟩:=zAE hcv;rw [addr_add]at hb2
  rw [hb']at hb2
  cases hb2;rw [show((⟨blk,off,none⟩:Addr).add i).off=off+i by unfold Addr.add;split<;>simp_all]at hc2
  exact⟨_,hc2,hpv _ row hq (i % c) pv _ hrow (List.getElem?_eq_getElem (by omega))⟩)
 have e2:=Ext.new m1.wf ⟨false,ers idz rows.flatten⟩;have hal:=hr.1;refine⟨_,_,.fz false (.sl h1.next 0 len (.known n)) len rows.flatten,as,m2,l1.trans (Inj.le_put m1 _),e1.trans e2,⟨⟨blk,off,0⟩,_,by simp [Inj.put],rfl,.inl rfl⟩,⟨.inr ⟨h1.next,0,.known n,rfl,by simp [zlt,AHeap.new],.inr (zAj (zBF _) rfl),fun c hc=>by cases hc;exact hl,by simp⟩,e2.voks hok⟩,rfl,⟨false,_,rows,by rw [←hal,hpl],hr⟩,by omega⟩
theorem zDb {t:TypeId} {f0 f1 f2:Field} {held:Bool} {fuel:Nat} {cs:List Value} {x:DataW H×List MemPlace} (hs:P.underlying t=some (.struct #[f0,f1,f2])) (hone:oneCellFields P #[f0,f1,f2]=true) (hl:cs.length=3)
  (h:DataW.trod enc P W 0 (fun _=>true) held fuel t cs=some x):
  ∃(v0 v1 v2:Value) (y0 y1 y2:DataW H×List MemPlace) (n:Nat),cs=[v0,v1,v2]∧
   DataW.trod enc P W 0 (fun _=>true) held n f0.type [v0]=some y0∧DataW.trod enc P W 0 (fun _=>true) held n f1.type [v1]=some y1∧DataW.trod enc P W 0 (fun _=>true) held n f2.type [v2]=some y2:=by
 obtain⟨y0,y1,y2,n,hx,_,h0,h1,h2⟩:=trod_struct3 hs h;obtain⟨o0,k0⟩:=hone_of hone 0 f0 rfl;obtain⟨o1,k1⟩:=hone_of hone 1 f1 rfl;obtain⟨o2,k2⟩:=hone_of hone 2 f2 rfl
 match cs,hl with
 | [v0,v1,v2],_=>exact⟨v0,v1,v2,y0,y1,y2,n,rfl,by simpa [o0,k0]using h0,by simpa [o1,k1]using h1,by simpa [o2,k2]using h2⟩
end Go.Ab
