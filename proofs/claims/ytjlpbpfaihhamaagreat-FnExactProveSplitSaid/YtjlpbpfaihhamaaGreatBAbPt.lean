/- THE TOP: what an argument reads as, laid as frozen values; what a law's call answers. -/
import Derived.Test.YtjlpbpfaihhamaaGreatBAbPy
import Derived.Test.YtjlpbpfaihhamaaGreatBAbClose
set_option linter.unusedVariables false
set_option linter.unusedSimpArgs false
namespace Go.Ab
open Go.ChangeShapes Go.WideShapes Go.RowKit Go.Deep
variable {w0 W:World} {j:Inj} {h h':AHeap} {H:Type} {enc:TypeId×Value→H} {P:Program} {α:Type}
abbrev zlt (h:AHeap):Nat→Prop:=fun o=>o<h.next
theorem Ext.voks {pvs:List PV} {n:Nat} (e:Ext h h') (hv:VOKs (zlt h) h n pvs):VOKs (zlt h') h' n pvs:=hv.mono (fun o ho=>⟨Nat.lt_of_lt_of_le ho e.next,e.obj o ho⟩) (Nat.le_refl _)
theorem Ext.vok {pv:PV} {n:Nat} (e:Ext h h') (hv:VOK (zlt h) h n pv):VOK (zlt h') h' n pv:=hv.mono (fun o ho=>⟨Nat.lt_of_lt_of_le ho e.next,e.obj o ho⟩) (Nat.le_refl _)
theorem MR.name (m:MR W.heap.size w0 j h W) (l:Loc):MR W.heap.size w0 (j.put h.next l) ⟨h.next+1,h.obj⟩ W∧j.le (j.put h.next l)∧Ext h ⟨h.next+1,h.obj⟩:=by
 have hle:=Inj.le_put m l;have hno:h.obj h.next=none:=(m.fresh _ (Nat.le_refl _)).1;have conv:∀{o:Nat} {ob:AObj} {l':Loc},h.obj o=some ob→(j.put h.next l) o=some l'→j o=some l':=fun {o ob l'} ho hl=>by
  have:o≠h.next:=fun e=>by subst e;rw [hno]at ho;cases ho
  simpa [Inj.put,this]using hl
 refine⟨⟨m.below,m.bnd,m.dr,fun o ho=>?_,fun o ob l' ho hl hp=>?_,fun o ob l' ho hl hp=>m.maps o ob l' ho (conv ho hl) hp,fun o o' x x' l1 l2 hne ho ho' hl hl' hr=>m.apart o o' x x' l1 l2 hne ho ho' (conv ho hl) (conv ho' hl') hr⟩,hle,⟨by simp,fun _ _=>rfl,fun o ho=>m.wf o (by simp at ho;omega)⟩⟩
 ·simp only at ho
  refine⟨m.wf o (by omega),?_⟩
  simp only [Inj.put];rw [if_neg (by omega)]
  exact(m.fresh o (by omega)).2
 ·obtain⟨a,cur,ty,fz,b,c,d⟩:=m.obj o ob l' ho (conv ho hl) hp
  exact⟨a,cur,ty,fz,b,fun i v hi=>by obtain⟨cv,x,y⟩:=c i v hi;exact⟨cv,x,VI.mono hle _ _ y⟩,d⟩
def Lay1 (enc:TypeId×Value→H) (P:Program) (W:World) (t:TypeId) (R:PV→α→Prop):Prop:=∀(w0:World) (j:Inj) (h:AHeap) (held:Bool) (fuel:Nat) (v:Value) (x:DataW H×List MemPlace),MR W.heap.size w0 j h W→
 DataW.trod enc P W 0 (fun _=>true) held fuel t [v]=some x→∃(j':Inj) (h':AHeap) (pv:PV) (a:α),MR W.heap.size w0 j' h' W∧j.le j'∧Ext h h'∧VI j' (er idz pv) v∧VOK (zlt h') h' 0 pv∧pv.one=true∧R pv a
theorem zQY {t:TypeId} {k:IntKind} (ht:P.underlying t=some (.int k)):Lay1 enc P W t (fun pv (n:Int)=>pv=.int k n):=by
 intro w0 j h held fuel v x m hx;obtain⟨n,hn,_⟩:=DataW.trod_int ht hx;simp only [List.cons.injEq,and_true]at hn
 subst hn;exact⟨j,h,.int k n,n,m,Inj.le.refl _,Ext.refl m.wf,rfl,trivial,rfl,rfl⟩
theorem Lay1.cells {e:TypeId} {R:PV→α→Prop} (L:Lay1 enc P W e R) {V:Nat→Value} {D:Nat→DataW H} {Pl:Nat→List MemPlace} {held:Bool} {fuel:Nat} {w0:World}:∀(n:Nat) {j:Inj} {h:AHeap},MR W.heap.size w0 j h W→
  (∀i,i<n→DataW.trod enc P W 0 (fun _=>true) held fuel e [V i]=some (D i,Pl i))→
  ∃(j':Inj) (h':AHeap) (pvs:List PV) (as:List α),MR W.heap.size w0 j' h' W∧j.le j'∧Ext h h'∧pvs.length=n∧(∀i pv,pvs[i]? = some pv→VI j' (er idz pv) (V i))∧VOKs (zlt h') h' 0 pvs∧pvs.all PV.one=true∧All2 R pvs as
 | 0,j,h,m,_=>⟨j,h,[],[],m,Inj.le.refl _,Ext.refl m.wf,rfl,fun i pv hi=>(by simp at hi),trivial,rfl,All2.nil _⟩
 | n+1,j,h,m,hx=>by
  obtain⟨j1,h1,pvs,as,m1,l1,e1,hl,hv,ho,hone,hr⟩:=Lay1.cells L n m fun i hi=>hx i (by omega)
  obtain⟨j2,h2,pv,a,m2,l2,e2,v2,o2,one2,r2⟩:=L w0 j1 h1 held fuel (V n) _ m1 (hx n (by omega))
  refine⟨j2,h2,pvs++[pv],as++[a],m2,l1.trans l2,e1.trans e2,by simp [hl],fun i pv' hi=>?_,(e2.voks ho).append ⟨o2,trivial⟩,by simp [hone,one2],hr.snoc r2⟩
  rcases Nat.lt_trichotomy i n with x|x|x
  ·rw [List.getElem?_append_left (by omega)]at hi
   exact VI.mono l2 _ _ (hv i pv' hi)
  ·subst x
   rw [List.getElem?_append_right (by omega)]at hi
   simp [hl]at hi
   subst hi;exact v2
  ·rw [List.getElem?_eq_none (by simp;omega)]at hi
   cases hi
theorem addr_add (a:Addr) (i:Nat):(a.add i).block=a.block:=by unfold Addr.add;split<;>rfl
theorem zDJ {t e:TypeId} (ht:P.underlying t=some (.slice e)) (hc:P.cellsOf e=1) {R:PV→α→Prop} (L:Lay1 enc P W e R):Lay1 enc P W t (fun v (xs:List α)=>FL R v xs∧xs.length≤9223372036854775807):=by
 intro w0 j h held fuel v x m hx;rcases open_slice1 ht hc hx with ⟨hv,rfl⟩|⟨a,len,c0,cap,n,V,D,Pl,hv,_,hl,hm,hmm,rfl,hcell⟩
 ·simp only [List.cons.injEq,and_true]at hv
  subst hv;exact⟨j,h,.fz true .nils 0 [],[],m,Inj.le.refl _,Ext.refl m.wf,rfl,⟨.inl ⟨rfl,rfl,rfl⟩,trivial⟩,rfl,⟨true,.nils,[],rfl,All2.nil _⟩,by simp⟩
 simp only [if_true]at hmm
 subst hmm;simp only [List.cons.injEq,and_true]at hv
 subst hv;have hml:maxLen=9223372036854775807:=rfl
 by_cases h0:cap=0
 ·subst h0
  obtain rfl:len=0:=by omega
  obtain⟨m',l',e'⟩:=m.name ⟨0,0,0,false⟩;exact⟨_,_,.fz false (.sl h.next 0 0 (.known 0)) 0 [],[],m',l',e',⟨⟨0,0,0,false⟩,a,by simp [Inj.put],rfl,.inr ⟨rfl,rfl⟩,rfl⟩,⟨.inr ⟨h.next,0,.known 0,rfl,by simp [zlt],.inl rfl,fun c hc=>by cases hc;exact Nat.le_refl _,by simp⟩,trivial⟩,rfl,⟨false,_,[],rfl,All2.nil _⟩,by simp⟩
 obtain⟨hs,cur,ty,fz,hb,_⟩:=zKK (hcell 0 (by omega)).1
 obtain⟨blk,off,spot⟩:=a;have hspot:spot=none:=by simpa [Addr.add]using hs
 subst hspot;have hb':W.heap[blk]? = some (.cells cur ty fz):=by simpa [Addr.add]using hb
 have hblk:=zR2 hb';obtain⟨j1,h1,pvs,as,m1,l1,e1,hpl,hpv,hok,hone,hr⟩:=L.cells len m fun i hi=>(hcell i (by omega)).2
 have m2:=m1.lay (cells:=ers idz pvs) (l:=⟨blk,off,0,false⟩) (by rw [zA7 hok];exact hone) hblk hb' (by
  intro i v hi;rw [zAb]at hi
  obtain⟨pv,hpi,rfl⟩:=Option.map_eq_some_iff.1 hi;have hil:i<len:=by rw [←hpl];exact(List.getElem?_eq_some_iff.1 hpi).1
  obtain⟨_,cur',ty',fz',hb2,hc2⟩:=zKK (hcell i (by omega)).1
  rw [addr_add]at hb2
  rw [hb']at hb2
  cases hb2;rw [show((⟨blk,off,none⟩:Addr).add i).off=off+i by unfold Addr.add;split<;>simp_all]at hc2
  exact⟨_,hc2,hpv i pv hpi⟩)
 have e2:=Ext.new m1.wf ⟨false,ers idz pvs⟩;have hal:=hr.1;refine⟨_,_,.fz false (.sl h1.next 0 len (.known cap)) len pvs,as,m2,l1.trans (Inj.le_put m1 _),e1.trans e2,⟨⟨blk,off,0,false⟩,_,by simp [Inj.put],rfl,.inl rfl,rfl⟩,⟨.inr ⟨h1.next,0,.known cap,rfl,by simp [zlt,AHeap.new],.inr (Qw (zK2 _) rfl),fun c hc=>by cases hc;exact hl,by simp⟩,e2.voks hok⟩,rfl,⟨false,_,pvs,by rw [←hal,hpl],hr⟩,by omega⟩
theorem FL.ints {v:PV} {xs:List Int} (h:FL (fun pv (n:Int)=>pv=.int .i64 n) v xs):FI v xs:=by
 obtain⟨w,a,rows,rfl,hr⟩:=h;refine⟨w,a,?_⟩
 congr 1
 apply List.ext_getElem?;intro k;rw [zL];rcases Nat.lt_or_ge k xs.length with x|x
 ·obtain⟨pv,h1,h2⟩:=hr.get x
  rw [h1,gi x,h2];rfl
 ·rw [List.getElem?_eq_none (by rw [hr.1];exact x),List.getElem?_eq_none x];rfl
theorem All2.all {β γ:Type} {R:β→γ→Prop} {as:List β} {bs:List γ} (h:All2 R as bs) {p:γ→Prop} (hp:∀a b,R a b→p b):∀b∈bs,p b:=by
 intro b hb;obtain⟨k,hk,rfl⟩:=List.mem_iff_getElem.1 hb;obtain⟨a,_,hr⟩:=h.get hk;exact hp _ _ hr
theorem FL.imp {R R':PV→α→Prop} {v:PV} {xs:List α} (h:FL R v xs) (hr:∀v x,R v x→R' v x):FL R' v xs:=by
 obtain⟨w,a,rows,rfl,h⟩:=h;exact⟨w,a,rows,rfl,h.mono hr⟩
theorem FL.all {R:PV→α→Prop} {v:PV} {xs:List α} (h:FL R v xs) {p:α→Prop} (hp:∀v x,R v x→p x):∀x∈xs,p x:=by
 obtain⟨w,a,rows,rfl,h⟩:=h;exact h.all hp
theorem zOi {t e:TypeId} (ht:P.underlying t=some (.slice e)) (hc:P.cellsOf e=1) (he:P.underlying e=some (.int .i64)):Lay1 enc P W t (fun v (xs:List Int)=>FI v xs∧xs.length≤9223372036854775807):=by
 intro w0 j h held fuel v x m hx;obtain⟨j',h',pv,a,g1,g2,g3,g4,g5,g6,g7,g8⟩:=zDJ ht hc (zQY he) w0 j h held fuel v x m hx;exact⟨j',h',pv,a,g1,g2,g3,g4,g5,g6,g7.ints,g8⟩
def PHeap.start (h:AHeap):PHeap:=⟨0,h.next,fun _=>none⟩
theorem zLv (hw:HWF h):Rel idz (zlt h) (PHeap.start h) h:=⟨hw,fun _ ho=>ho,Nat.le_refl _,fun _ _=>rfl,fun _ _ ho=>(by cases ho),fun _ _ _ _ ho=>(by cases ho)⟩
end Go.Ab
