/- . -/
import Derived.Test.YtjlpbpfaihhamaaGreatAAbPt
import Derived.Lib.SmallJoins
open List renaming getElem?_eq_getElem→vX
set_option linter.unusedVariables false
set_option linter.unusedSimpArgs false
namespace Go.Ab
open Go.ChangeShapes Go.WideShapes Go.RowKit Go.Deep Go.Joins
variable{w0 W:World}{j:Inj}{h h':AHeap}{H:Type}{enc:TypeId×Value->H}{P:Program}{α:Type}
def LayC(enc:TypeId×Value->H)(P:Program)(W:World)(t:TypeId)(c:Nat)(R:List PV->α->Prop):Prop:=∀(w0:World) (j:Inj) (h:AHeap) (held:Bool) (fuel:Nat) (cs:List Value) (x:DataW H×List MemPlace),MR W.heap.size w0 j h W->cs.length=c->
 DataW.trod enc P W 0 (fun _=>true) held fuel t cs=some x->∃(j':Inj) (h':AHeap) (pvs:List PV) (a:α),MR W.heap.size w0 j' h' W∧j.le j'∧Ext h h'∧pvs.length=c∧(∀(i:Nat) (pv:PV) (v:Value),pvs[i]? = some pv->cs[i]? = some v->VI j' (er idz pv) v)∧VOKs (zlt h') h' 0 pvs∧pvs.all PV.one=true∧R pvs a
theorem flat_get{β:Type}{c:Nat}(hc:0<c):∀{rows:List (List β)} (k:Nat),(∀r∈rows,r.length=c)->rows.flatten[k]? = (rows[k / c]?).bind (·[k % c]?)
 |[],k,_=>by simp
 |r::rows,k,h=>by
  have hr:=h r (by simp)
  rw[List.flatten_cons];rcases Nat.lt_or_ge k c with x|x
  ·rw[List.getElem?_append_left (by omega),Nat.div_eq_of_lt x,Nat.mod_eq_of_lt x]
   rfl
  ·rw[List.getElem?_append_right (by omega),hr,flat_get hc (k-c) fun t ht=>h t (by simp[ht])]
   have h1:k / c=(k-c) / c+1:=by rw[Nat.div_eq_sub_div hc x]
   have h2:k % c=(k-c) % c:=by rw[Nat.mod_eq_sub_mod x]
   rw[h1,h2,List.getElem?_cons_succ]
theorem LayC.cells{e:TypeId}{c:Nat}{R:List PV->α->Prop}(L:LayC enc P W e c R){CS:Nat->List Value}{D:Nat->DataW H}{Pl:Nat->List MemPlace}{held:Bool}{fuel:Nat}{w0:World}:∀(n:Nat) {j:Inj} {h:AHeap},MR W.heap.size w0 j h W->
  (∀i,i<n->(CS i).length=c∧DataW.trod enc P W 0 (fun _=>true) held fuel e (CS i)=some (D i,Pl i))->
  ∃(j':Inj) (h':AHeap) (rows:List (List PV)) (as:List α),MR W.heap.size w0 j' h' W∧j.le j'∧Ext h h'∧rows.length=n∧(∀r∈rows,r.length=c)∧(∀(q:Nat) (row:List PV),rows[q]? = some row->∀(i:Nat) (pv:PV) (v:Value),row[i]? = some pv->(CS q)[i]? = some v->VI j' (er idz pv) v)∧VOKs (zlt h') h' 0 rows.flatten∧rows.flatten.all PV.one=true∧All2 R rows as
 |0,j,h,m,_=>⟨j,h,[],[],m,Inj.le.refl _,Ext.refl m.wf,rfl,by simp,fun q row hq=>by simp at hq,trivial,rfl,All2.nil _⟩
 |n+1,j,h,m,hx=>by
  obtain⟨j1,h1,rows,as,m1,l1,e1,hl,hlen,hv,ho,aS,hr⟩:=LayC.cells L n m fun i hi=>hx i (by omega)
  obtain⟨j2,h2,pvs,a,m2,l2,e2,g1,g2,g3,g4,g5⟩:=L w0 j1 h1 held fuel (CS n) _ m1 (hx n (by omega)).1 (hx n (by omega)).2
  refine⟨j2,h2,rows++[pvs],as++[a],m2,l1.trans l2,e1.trans e2,by simp[hl],fun r ck=>?_,fun q row hq i pv v hi bm=>?_,?_,?_,hr.snoc g5⟩
  ·rcases List.mem_append.1 ck with x|x
   ·exact hlen r x
   ·rw[List.mem_singleton.1 x];exact g1
  ·rcases Nat.lt_trichotomy q n with x|x|x
   ·rw[List.getElem?_append_left (by omega)]at hq
    exact VI.mono l2 _ _ (hv q row hq i pv v hi bm)
   ·subst x
    rw[List.getElem?_append_right (by omega)]at hq
    simp[hl]at hq
    subst hq;exact g2 i pv v hi bm
   ·rw[List.getElem?_eq_none (by simp;omega)]at hq
    cases hq
  ·rw[List.flatten_append]
   simp only[List.flatten_cons,List.flatten_nil,List.append_nil];exact(e2.voks ho).append g3
  ·rw[List.flatten_append]
   simp only[List.flatten_cons,List.flatten_nil,List.append_nil,List.all_append,aS,g4,Bool.and_self]
theorem zIu{t e:TypeId}{c:Nat}(fe:0<c)(ht:P.underlying t=some (.slice e))(hc:P.cellsOf e=c){R:List PV->α->Prop}(L:LayC enc P W e c R):Lay1 enc P W t (fun v (xs:List α)=>(∃w a rows,v=.fz w a xs.length rows.flatten∧All2 R rows xs)∧xs.length<=9223372036854775807):=by
 intro w0 j h held fuel v x m hx;rcases open_slice ht hx with ⟨hv,rfl⟩|⟨a,len,cap,n,k,D,Pl,hv,_,hl,hm,lG,rfl,cV⟩
 ·simp only[List.cons.injEq,and_true]at hv
  subst hv;exact⟨j,h,.fz true .nils 0 [],[],m,Inj.le.refl _,Ext.refl m.wf,rfl,⟨.inl ⟨rfl,rfl,rfl⟩,trivial⟩,rfl,⟨true,.nils,[],rfl,All2.nil _⟩,by simp⟩
 simp only[if_true]at lG
 subst lG;simp only[List.cons.injEq,and_true]at hv
 subst hv;rw[hc]at cV
 have cN:maxLen=9223372036854775807:=rfl
 by_cases h0:n=0
 ·subst h0
  obtain rfl:len=0:=by omega
  obtain⟨m',l',e'⟩:=m.name ⟨0,0,0,false⟩;exact⟨_,_,.fz false (.sl h.next 0 0 (.known 0)) 0 [],[],m',l',e',⟨⟨0,0,0,false⟩,a,by simp[Inj.put],rfl,.inr ⟨rfl,rfl⟩,rfl⟩,⟨.inr ⟨h.next,0,.known 0,rfl,by simp[zlt],.inl rfl,fun c hc=>by cases hc;exact Nat.le_refl _,by simp⟩,trivial⟩,rfl,⟨false,_,[],rfl,All2.nil _⟩,by simp⟩
 obtain⟨CS,Bq⟩:=choose_lt (α:=List Value) (p:=fun i cs=>W.cells? 0 (a.add (i*c)) c=some cs∧DataW.trod enc P W 0 (fun _=>true) held k e cs=some (D i,Pl i)) cV
 have one:∀i,i<n->(CS i).length=c∧∀q,q<c->W.cell? (a.add (i*c+q))=(CS i)[q]?:=fun i hi=>by
  obtain⟨_,q1,q2⟩:=World.cells?_some (Bq i hi).1;exact⟨q1,fun q hq=>by rw[<-add_add];exact q2 q hq⟩
 have yD:∃v,W.cell? (a.add 0)=some v:=by
  obtain⟨q1,q2⟩:=one 0 (by omega)
  have:=q2 0 fe
  rw[Nat.zero_mul]at this
  rw[this,vX (by omega)]
  exact⟨_,rfl⟩
 obtain⟨Ev,xc⟩:=yD;obtain⟨hs,cur,ty,fz,hb,_⟩:=zCm xc;obtain⟨blk,off,spot⟩:=a;have kj:spot=none:=by simpa [Addr.add]using hs
 subst kj;have jj:W.heap[blk]? = some (.cells cur ty fz):=by simpa [Addr.add]using hb
 have oX:=zKf jj;obtain⟨j1,h1,rows,as,m1,l1,e1,nY,bK,bM,bE,aS,hr⟩:=L.cells (CS:=CS) (D:=D) (Pl:=Pl) len m fun i hi=>⟨(one i (by omega)).1,(Bq i (by omega)).2⟩
 have m2:=m1.lay (cells:=ers idz rows.flatten) (l:=⟨blk,off,0,false⟩) (by rw[zBJ bE];exact aS) oX jj (by
  intro i v hi;rw[zAC]at hi
  obtain⟨pv,lE,rfl⟩:=Option.map_eq_some_iff.1 hi;rw[flat_get fe i bK]at lE
  obtain⟨row,hq,aK⟩:=Option.bind_eq_some_iff.1 lE;have aH:i / c<len:=by rw[<-nY];exact(List.getElem?_eq_some_iff.1 hq).1
  obtain⟨o1,o2⟩:=one (i / c) (by omega)
  have xV:=Nat.mod_lt i fe;have bm:=o2 (i % c) xV;rw[Nat.div_add_mod' i c,vX (by omega)]at bm
  obtain⟨_,lj,ll,rf,fO,eE⟩:=zCm bm;rw[addr_add]at fO
  rw[jj]at fO
  cases fO;rw[show((⟨blk,off,none⟩:Addr).add i).off=off+i by unfold Addr.add;split<;>simp_all]at eE
  exact⟨_,eE,bM _ row hq (i % c) pv _ aK (vX (by omega))⟩)
 have e2:=Ext.new m1.wf ⟨false,ers idz rows.flatten⟩;have eg:=hr.1;refine⟨_,_,.fz false (.sl h1.next 0 len (.known n)) len rows.flatten,as,m2,l1.trans (Inj.le_put m1 _),e1.trans e2,⟨⟨blk,off,0,false⟩,_,by simp[Inj.put],rfl,.inl rfl,rfl⟩,⟨.inr ⟨h1.next,0,.known n,rfl,by simp[zlt,AHeap.new],.inr (zDQ (zED _) rfl),fun c hc=>by cases hc;exact hl,by simp⟩,e2.voks bE⟩,rfl,⟨false,_,rows,by rw[<-eg,nY],hr⟩,by omega⟩
theorem zHU{t:TypeId}{f0 f1 f2:Field}{held:Bool}{fuel:Nat}{cs:List Value}{x:DataW H×List MemPlace}(hs:P.underlying t=some (.struct #[f0,f1,f2]))(aS:oneCellFields P #[f0,f1,f2]=true)(hl:cs.length=3)
  (h:DataW.trod enc P W 0 (fun _=>true) held fuel t cs=some x):
  ∃(v0 v1 v2:Value) (y0 y1 y2:DataW H×List MemPlace) (n:Nat),cs=[v0,v1,v2]∧
   DataW.trod enc P W 0 (fun _=>true) held n f0.type [v0]=some y0∧DataW.trod enc P W 0 (fun _=>true) held n f1.type [v1]=some y1∧DataW.trod enc P W 0 (fun _=>true) held n f2.type [v2]=some y2:=by
 obtain⟨y0,y1,y2,n,hx,_,h0,h1,h2⟩:=trod_struct3 hs h;obtain⟨o0,k0⟩:=hone_of aS 0 f0 rfl;obtain⟨o1,k1⟩:=hone_of aS 1 f1 rfl;obtain⟨o2,k2⟩:=hone_of aS 2 f2 rfl
 match cs,hl with
 |[v0,v1,v2],_=>exact⟨v0,v1,v2,y0,y1,y2,n,rfl,by simpa [o0,k0]using h0,by simpa [o1,k1]using h1,by simpa [o2,k2]using h2⟩
end Go.Ab
