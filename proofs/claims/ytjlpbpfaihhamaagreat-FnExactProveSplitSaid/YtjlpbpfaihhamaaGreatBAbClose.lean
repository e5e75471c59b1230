/- What a call left alone reads as before; what a law's call answers. -/
import Derived.Test.YtjlpbpfaihhamaaGreatBAbTop
import Derived.Carry
import Derived.ChangeSame
import Derived.OpenShut
set_option linter.unusedVariables false
namespace Go.Ab
open Go.ChangeShapes Go.WideShapes Go.RowKit Go.Deep
variable {H:Type} {enc:TypeId×Value→H} {P:Program}
theorem zCo (hl:laidOutB P=true) {W W':World} (hb:Below W.heap.size W W') {sp:Nat→Bool}:∀{ts:List TypeId} {vs:List Value} {ds:List (DataW H)} {ps:List MemPlace},(∀t∈ts,P.readableRec t=true∧t<P.types.size)→
  DataW.TrodAll enc P W 0 (fun _=>true) true ts vs ds ps→(∀x∈ps,x.block<W.heap.size)→(∀x∈ps,sp x.block=true)→DataW.TrodAll enc P W' 0 sp true ts vs ds ps
 | [],vs,ds,ps,_,h,_,_=>by
  obtain⟨rfl,rfl,rfl⟩:=trodAll_nil h
  rfl
 | t::ts,vs,ds,ps,ht,h,h1,h2=>by
  obtain⟨v,vs',d,ds',p,q,rfl,rfl,rfl,h0,hr⟩:=trodAll_cons h;exact trodAll_cons_mk (WideElems.Trod_stays hl (ht t (by simp)).1 (ht t (by simp)).2 h0 (fun x hx=>hb.same (h1 x (by simp [hx]))) (fun x hx=>h2 x (by simp [hx])))
   (zCo hl hb (fun t' ht'=>ht t' (by simp [ht'])) hr (fun x hx=>h1 x (by simp [hx])) (fun x hx=>h2 x (by simp [hx])))
theorem zGy {f:Func} {s:ChangeSpec} {apart fresh handsOn again:Bool} {W W':World} {args:Array Value} {ds gs:List (DataW H)} {before:List MemPlace} {tb:TypeId} (hvars:s.vars=[]) (hl:laidOutB P=true)
  (hread:∀t∈f.params.toList,P.readableRec t=true∧t<P.types.size) (hres:f.resultTypes = #[tb]) (htb:P.underlying tb=some .bool)
  (hfn:s.fn H ds={ results:=[.lit (.bool true)],args:=ds }) (hW:DataW.Whole enc P f.params.toList s.vars apart W args.toList ds gs before) (hb:Below W.heap.size W W'):
  s.post enc P f apart fresh handsOn again W args (.bool true) W':=by
 have hlt:=hW.lt;have hW':=hW;obtain⟨p,q,hA,hV,rfl,hz,hn⟩:=hW;have hV':=hV;rw [hvars]at hV
 obtain⟨rfl,rfl⟩:=trodVars_none hV;simp only [List.append_nil]at *
 have hargs:∀sp:Nat→Bool,(∀x∈p,sp x.block=true)→DataW.TrodAll enc P W' 0 sp true f.params.toList args.toList (s.fn H ds).args p:=fun sp hsp=>by
  rw [hfn];exact zCo hl hb hread hA (fun x hx=>hlt x hx) hsp
 have hr:∀(b:Nat) (sp:Nat→Bool) (hd:Bool),DataW.TrodAll enc P W' b sp hd f.resultTypes.toList ((Value.bool true).resultList f.resultTypes.size) (s.fn H ds).results []:=fun b sp hd=>by
  rw [hfn,hres];exact trodAll_cons_mk (shut_bool htb _) trodAll_mk0
 have hvs:∀sp:Nat→Bool,DataW.TrodVars enc P W' sp s.vars (s.fn H ds).vars []:=fun sp=>by rw [hfn,hvars];rfl
 have e:ds++[]=ds:=List.append_nil ds;have hold:∀x∈p,(fun b=>decide (b<W.heap.size)) x.block=true:=fun x hx=>by simpa using hlt x hx
 refine⟨ds,[],p,[],p,[],hW',by rw [e];exact hr _ _ _,by rw [e];exact hargs _ hold,by rw [e];exact hvs _,hb.frame _,fun _=>⟨ok_one hres rfl (okWide_bool_mk htb _),_,_,([]++p)++[],⟨[]++p,[],trodAll_append (hargs _ (fun _ _=>rfl)) (hr _ _ _),hvs _,rfl,?_,?_⟩,?_⟩⟩
 ·intro b off hp
  have hp':MemPlace.cell b off∈p:=by simpa using hp
  rw [hb.frozen (p:=⟨b,off,none⟩) (hlt _ hp')];exact hz b off hp'
 ·intro ha
  have:=hn ha
  simpa using this
 ·intro x hx _
  simpa using hx
theorem qj.calls {f:FuncId} {args:List AV} {h:AHeap} {j:Inj} {W:World} {cargs:Array Value} (ac:qj P f args h (fun v _=>v=.bool true)) (m:MR W.heap.size W j h W) (hv:VIs j args cargs.toList):
  Calls P f cargs W fun e W'=>e=.returned (.bool true)∧Below W.heap.size W W':=by
 have:=ac W.heap.size W j W cargs.toList m hv
 rw [Array.toArray_toList]at this
 refine this.mono ?_
 rintro e W' ⟨v,h',j',cv,rfl,_,m',hvi,rfl⟩
 exact⟨by rw [show cv=.bool true from hvi],m'.below⟩
end Go.Ab
