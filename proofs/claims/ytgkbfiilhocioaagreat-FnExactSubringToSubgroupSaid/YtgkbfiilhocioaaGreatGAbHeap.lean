/- . -/
import Derived.Test.YtgkbfiilhocioaaGreatGAbDefs
import Derived.Deep.Matrix
import Derived.Carry
import Derived.ChangeSame
import Derived.OpenShut
open Nat renaming le_refl→vH
set_option linter.unusedVariables false
set_option linter.unusedSimpArgs false
namespace Go.Ab
variable{h h' cD:AHeap}
theorem wrap64{n:Int}(h1:-9223372036854775808<=n)(h2:n<=9223372036854775807):IntKind.i64.wrap n=n:=by
 rw[IntKind.wrap_i64];omega
def HWF(h:AHeap):Prop:=∀o,h.next<=o->h.obj o=none
structure Ext(h h':AHeap):Prop where
 next:h.next<=h'.next
 obj:∀o,o<h.next->h'.obj o=h.obj o
 wf:HWF h'
theorem Ext.refl(hw:HWF h):Ext h h:=⟨vH _,λ_ _=>rfl,hw⟩
theorem Ext.trans(a:Ext h h')(b:Ext h' cD):Ext h cD:=
 ⟨Nat.le_trans a.next b.next,λo ho=>(b.obj o (Nat.lt_of_lt_of_le ho a.next)).trans (a.obj o ho),b.wf⟩
theorem HWF.lt(hw:HWF h){o:Nat}{ob:AObj}(ho:h.obj o=some ob):o<h.next:=by
 rcases Nat.lt_or_ge o h.next with x|x
 .exact x
 .rw[hw o x]at ho;cases ho
theorem HWF.new(hw:HWF h)(ob:AObj):HWF (h.new ob):=by
 intro o ho;simp only[AHeap.new]at ho ⊢;rw[if_neg (by omega)];exact hw o (by omega)
theorem HWF.set(hw:HWF h){o:Nat}(ho:o<h.next)(cs:List AV):HWF (h.set o cs):=by
 intro x hx;simp only[AHeap.set]at hx ⊢;rw[if_neg (by omega)];exact hw x hx
theorem HWF.kill(hw:HWF h)(o:Nat):HWF (h.kill o):=by
 intro x hx;simp only[AHeap.kill]at hx ⊢;split
 .rfl
 .exact hw x hx
theorem zLF(ob:AObj):(h.new ob).obj h.next=some ob:=by simp[AHeap.new]
theorem zCk{o:Nat}(ho:o≠h.next)(ob:AObj):(h.new ob).obj o=h.obj o:=by simp[AHeap.new,ho]
theorem qV(ob:AObj):(h.new ob).next=h.next+1:=rfl
theorem zCX(o:Nat)(cs:List AV):(h.set o cs).obj o=some ⟨true,cs⟩:=by simp[AHeap.set]
theorem zCW{o o':Nat}(ho:o'≠o)(cs:List AV):(h.set o cs).obj o'=h.obj o':=by simp[AHeap.set,ho]
theorem zEH{o o':Nat}(ho:o'≠o):(h.kill o).obj o'=h.obj o':=by simp[AHeap.kill,ho]
theorem set_set(o:Nat)(c d:List AV):(h.set o c).set o d=h.set o d:=by
 simp only[AHeap.set];congr 1;funext x;by_cases hx:x=o<;>simp[hx]
theorem set_self{o:Nat}{cs:List AV}(ho:h.obj o=some ⟨true,cs⟩):h.set o cs=h:=by
 cases h with
 |mk n f=>
  simp only[AHeap.set];congr 1;funext x;by_cases hx:x=o
  .subst hx;simp at ho ⊢;exact ho.symm
  .simp[hx]
theorem Ext.new(hw:HWF h)(ob:AObj):Ext h (h.new ob):=⟨by simp[AHeap.new],λo ho=>zCk (by omega) _,hw.new ob⟩
theorem zBp{o off n:Nat}{ob:AObj}(ho:h.obj o=some ob)(hl:off+n<=ob.cells.length):h.rd o off n=some ((ob.cells.drop off).take n):=by
 simp[AHeap.rd,ho,hl]
theorem zBY{o n:Nat}{ob:AObj}(ho:h.obj o=some ob)(hl:n=ob.cells.length):h.rd o 0 n=some ob.cells:=by
 subst hl;simp[AHeap.rd,ho]
theorem zCd{o off n:Nat}(ho:h'.obj o=h.obj o):h'.rd o off n=h.rd o off n:=by simp[AHeap.rd,ho]
theorem Qv{o i:Nat}{ob:AObj}(ho:h.obj o=some ob):h.rd1 o i=ob.cells[i]?:=by simp[AHeap.rd1,ho]
theorem zMG{o off n k:Nat}{vs:List AV}(hr:h.rd o off n=some vs)(hk:k<n):h.rd1 o (off+k)=vs[k]?:=by
 obtain⟨ob,ho,hl,rfl⟩:=AHeap.rd_some hr;rw[Qv ho,List.getElem?_take,if_pos hk,List.getElem?_drop]
theorem zDA{o off n a b:Nat}{vs:List AV}(hr:h.rd o off n=some vs)(iG:a+b<=n):h.rd o (off+a) b=some ((vs.drop a).take b):=by
 obtain⟨ob,ho,hl,rfl⟩:=AHeap.rd_some hr;rw[zBp ho (by omega)];congr 1;rw[List.drop_take,List.take_take,List.drop_drop];congr 1;omega
theorem zEv{o i:Nat}{cs:List AV}{v:AV}(ho:h.obj o=some ⟨true,cs⟩)(hi:i<cs.length)(hv:v.one=true):h.wr o i [v]=some (h.set o (cs.set i v)):=by
 simp only[AHeap.wr,ho,Option.bind_some,List.length_cons,List.length_nil,List.all_cons,List.all_nil,hv,Bool.and_true];rw[if_pos ⟨trivial,by omega,trivial⟩];congr 2;apply List.ext_getElem?;intro k;rw[List.getElem?_set,List.append_assoc];rcases Nat.lt_trichotomy k i with x|x|x
 .rw[if_neg (by omega),List.getElem?_append_left (by simp;omega),List.getElem?_take,if_pos x]
 .subst x;rw[if_pos rfl,if_pos hi,List.getElem?_append_right (by rw[List.length_take];omega),List.length_take]
  have:k-min k cs.length=0:=by omega
  rw[this];rfl
 .rw[if_neg (by omega),List.getElem?_append_right (by simp;omega)];have e1:k-(List.take i cs).length=(k-i-1)+1:=by rw[List.length_take];omega
  rw[e1,List.cons_append,List.getElem?_cons_succ,List.nil_append,List.getElem?_drop];congr 1;omega
def ints(xs:L3):List AV:=xs.map (.int .i64)
theorem zEI(xs:L3):(ints xs).length=xs.length:=by simp[ints]
theorem ints_set(xs:L3)(k:Nat)(x:Int):(ints xs).set k (.int .i64 x)=ints (xs.set k x):=by simp[ints,List.map_set]
def All2{α β:Type}(R:α->β->Prop)(as:List α)(bs:List β):Prop:=as.length=bs.length/\∀(k:Nat) (a:α) (b:β),as[k]? = some a->bs[k]? = some b->R a b
theorem All2.nil{α β:Type}(R:α->β->Prop):All2 R [] []:=⟨rfl,λk a b h=>by simp at h⟩
theorem All2.snoc{α β:Type}{R:α->β->Prop}{as:List α}{bs:List β}{a:α}{b:β}(h:All2 R as bs)(hr:R a b):All2 R (as++[a]) (bs++[b]):=by
 refine⟨by simp[h.1],λk x y hx hy=>?_⟩;rcases Nat.lt_trichotomy k as.length with e|e|e
 .rw[List.getElem?_append_left e]at hx;rw[List.getElem?_append_left (by rw[<-h.1];exact e)]at hy;exact h.2 k x y hx hy
 .rw[List.getElem?_append_right (by omega),e]at hx;rw[List.getElem?_append_right (by rw[<-h.1];omega),e,h.1]at hy;simp at hx hy;subst hx;subst hy;exact hr
 .rw[List.getElem?_eq_none (by simp;omega)]at hx;cases hx
theorem All2.mono{α β:Type}{R R':α->β->Prop}{as:List α}{bs:List β}(h:All2 R as bs)(hr:∀a b,R a b->R' a b):All2 R' as bs:=⟨h.1,λk a b x y=>hr a b (h.2 k a b x y)⟩
theorem All2.get{α β:Type}{R:α->β->Prop}{as:List α}{bs:List β}(h:All2 R as bs){k:Nat}(hk:k<bs.length):∃a,as[k]? = some a/\R a bs[k]:=by
 have cH:k<as.length:=by rw[h.1];exact hk
 exact⟨as[k],List.getElem?_eq_getElem cH,h.2 k _ _ (List.getElem?_eq_getElem cH) (List.getElem?_eq_getElem hk)⟩
theorem All2.cons{α β:Type}{R:α->β->Prop}{as:List α}{bs:List β}{a:α}{b:β}(h:All2 R as bs)(hr:R a b):All2 R (a::as) (b::bs):=by
 refine⟨by simp[h.1],λk x y hx hy=>?_⟩;cases k with
 |zero=>simp at hx hy;subst hx;subst hy;exact hr
 |succ k=>exact h.2 k x y (by simpa using hx) (by simpa using hy)
end Go.Ab
namespace Go.Ab
variable{h h':AHeap}
theorem wrapS{i n:Nat}(hi:i<n)(hn:n<=4611686018427387904):IntKind.i64.wrap ((i:Int)+1)=((i+1:Nat):Int):=by
 rw[wrap64 (by omega) (by omega)];omega
theorem wrapA{a b:Nat}(hn:a+b<=4611686018427387904):IntKind.i64.wrap ((a:Int)+(b:Int))=((a+b:Nat):Int):=by
 rw[wrap64 (by omega) (by omega)];omega
theorem zq(k:IntKind)(n:Int):AV.cells (.int k n)=[.int k n]:=rfl
theorem qg(k:IntKind)(n:Int):AV.one (.int k n)=true:=rfl
theorem zb(b:Bool):AV.cells (.bool b)=[.bool b]:=rfl
theorem qR(b:Bool):AV.one (.bool b)=true:=rfl
theorem zn(s:List UInt8):AV.cells (.str s)=[.str s]:=rfl
theorem qd(s:List UInt8):AV.one (.str s)=true:=rfl
theorem zY:AV.cells (.nilp)=[.nilp]:=rfl
theorem qP:AV.one (.nilp)=true:=rfl
theorem zo(o i:Nat):AV.cells (.ptr o i)=[.ptr o i]:=rfl
theorem qf(o i:Nat):AV.one (.ptr o i)=true:=rfl
theorem zX:AV.cells (.nils)=[.nils]:=rfl
theorem qO:AV.one (.nils)=true:=rfl
theorem qX(o off n:Nat)(c:Cap):AV.cells (.sl o off n c)=[.sl o off n c]:=rfl
theorem qz(o off n:Nat)(c:Cap):AV.one (.sl o off n c)=true:=rfl
theorem zZ:AV.cells (.nilf)=[.nilf]:=rfl
theorem qQ:AV.one (.nilf)=true:=rfl
theorem zw(f:FuncId)(a b:List AV):AV.cells (.clo f a b)=[.clo f a b]:=rfl
theorem qh(f:FuncId)(a b:List AV):AV.one (.clo f a b)=true:=rfl
theorem z8(cs:List AV):AV.cells (.agg cs)=cs:=rfl
theorem Qz{xs:L3}{i:Nat}(hi:i<xs.length){p:Int->Prop}(h:∀x∈xs.take i,p x)(hx:p xs[i]):∀x∈xs.take (i+1),p x:=by
 rw[List.take_succ_eq_append_getElem hi];intro x hm;rcases List.mem_append.1 hm with hm|hm
 .exact h x hm
 .simp at hm;subst hm;exact hx
theorem Qw{α:Type}{xs:List α}{i:Nat}(hi:¬i<xs.length){p:α->Prop}(h:∀x∈xs.take i,p x):∀x∈xs,p x:=by
 rwa[List.take_of_length_le (by omega)]at h
theorem zDR{α:Type}{xs:List α}{i:Nat}(hi:i<xs.length){p:α->Prop}(h:∀x∈xs.take i,p x)(hx:p xs[i]):∀x∈xs.take (i+1),p x:=by
 rw[List.take_succ_eq_append_getElem hi];intro x hm;rcases List.mem_append.1 hm with hm|hm
 .exact h x hm
 .simp at hm;subst hm;exact hx
theorem qA(cs:List AV):afill cs []=some cs:=rfl
theorem ze(cs:List AV)(off size:Nat)(v:AV)(r:List (Nat×Nat×AV)):afill cs ((off,size,v)::r) =
  if v.cells.length=size/\off+size<=cs.length/\v.cells.all AV.one=true then afill (cs.take off++v.cells++cs.drop (off+size)) r else none:=rfl
theorem zU(z:List AV):zeros z 0=[]:=rfl
theorem zV(v:AV):zeros [v] 1=[v]:=rfl
theorem zM(v:AV)(n:Nat):zeros [v] n=List.replicate n v:=by
 simp[zeros,List.flatten_replicate_singleton]
theorem zC6{α:Type}(l:List α)(z:α){i:Nat}(hi:i<l.length):(l.take i++List.replicate (l.length-i) z).set i l[i]=l.take (i+1)++List.replicate (l.length-(i+1)) z:=by
 obtain⟨k,hk⟩:∃k,l.length-i=k+1:=⟨l.length-i-1,by omega⟩
 have h1:(l.take i).length=i:=by rw[List.length_take];omega
 rw[hk,List.replicate_succ,List.set_append,if_neg (by omega),h1,Nat.sub_self,List.set_cons_zero,List.take_succ_eq_append_getElem hi,List.append_assoc,List.singleton_append];congr 3;omega
theorem qc(ob:AObj)(o i:Nat):(h.new ob).rd1 o i=if o=h.next then ob.cells[i]? else h.rd1 o i:=by
 by_cases hx:o=h.next<;>simp[AHeap.rd1,AHeap.new,hx]
theorem qy(ob:AObj)(o i n:Nat):(h.new ob).rd o i n=if o=h.next then(if i+n<=ob.cells.length then some ((ob.cells.drop i).take n)else none)else h.rd o i n:=by
 by_cases hx:o=h.next<;>simp[AHeap.rd,AHeap.new,hx]
theorem Ext.ob(hx:Ext h h'){o:Nat}{ob:AObj}(ho:o<h.next)(h1:h.obj o=some ob):h'.obj o=some ob:=by rw[hx.obj o ho];exact h1
theorem zRH{o i:Nat}{cs vs:List AV}(ho:h.obj o=some ⟨true,cs⟩)(hl:i+vs.length<=cs.length)(hv:vs.all AV.one=true):h.wr o i vs=some (h.set o (cs.take i++vs++cs.drop (i+vs.length))):=by
 simp only[AHeap.wr,ho,Option.bind_some];rw[if_pos ⟨trivial,hl,hv⟩]
theorem box1(hw:HWF h)(c0:List AV):∃hh,h.new ⟨true,c0⟩=hh/\Ext h hh/\hh.next=h.next+1/\∀k,Ext hh k->k.obj h.next=some ⟨true,c0⟩:=by
 have eJ:=Ext.new hw ⟨true,c0⟩;exact⟨_,rfl,eJ,rfl,λk hk=>hk.ob (by simp[AHeap.new]) (by simp[AHeap.new])⟩
end Go.Ab
namespace Go.Ab
variable{h:AHeap}{α:Type}{R:AHeap->AV->α->List Nat->Prop}
structure zIf(R:AHeap->AV->α->List Nat->Prop)(lo:Nat)(h:AHeap)(us:List AV)(si:List (List Nat))(xs:List α):Prop where
 len:us.length=si.length
 own:All2 (λvf x=>R h vf.1 x vf.2) (us.zip si) xs
 nodup:si.flatten.Nodup
 lo:∀o∈si.flatten,lo<=o/\o<h.next
end Go.Ab
namespace Go.Ab
end Go.Ab
namespace Go.Ab
open Go.ChangeShapes Go.WideShapes Go.RowKit Go.Deep
variable{B:Nat}{w0 w:World}{j:Inj}{h:AHeap}
theorem MR.empty(w:World):MR w.heap.size w (λ_=>none) ⟨0,λ_=>none⟩ w:=
 ⟨Below.refl _ _,vH _,λ_ _=>⟨rfl,rfl⟩,λ_ _ _ ho=>(by cases ho),λ_ _ _ _ _ _ _ ho=>(by cases ho)⟩
theorem MR.wf(m:MR B w0 j h w):HWF h:=λo ho=>(m.fresh o ho).1
theorem Inj.le_put(m:MR B w0 j h w)(l:Loc):j.le (j.put h.next l):=by
 intro o l' ho
 have:=m.lt ho
 simp[Inj.put,Nat.ne_of_lt this,ho]
theorem MR.lay(m:MR B w0 j h w){cells:List AV}{l:Loc}(aH:cells.all AV.one=true)(hb:l.blk<B){cur:Array Value}{ty:TypeId}{fz:Nat×Nat}(aS:w.heap[l.blk]? = some (.cells cur ty fz))
  (hc:∀i v,cells[i]? = some v->∃cv,cur[l.base+i]? = some cv/\VI j v cv):MR B w0 (j.put h.next l) (h.new ⟨false,cells⟩) w:=by
 have hle:=Inj.le_put m l;refine⟨m.below,m.bnd,λo ho=>?_,λo ob l' ho hl=>?_,λo o' ob gv l1 l2 ai ho cn hl aU eS=>?_⟩
 .simp only[AHeap.new]at ho
  have:o≠h.next:=by omega
  simp only[AHeap.new,Inj.put,if_neg this];exact m.fresh o (by omega)
 .by_cases e:o=h.next
  .subst e;simp only[AHeap.new,if_true,Option.some.injEq]at ho;simp only[Inj.put,if_true,Option.some.injEq]at hl;subst ho;subst hl;exact⟨aH,cur,ty,fz,aS,λi v hi=>by obtain⟨cv,a,b⟩:=hc i v hi;exact⟨cv,a,VI.mono hle _ _ b⟩,λx=>(by cases x),λ_=>hb⟩
  .simp only[AHeap.new,if_neg e]at ho;simp only[Inj.put,if_neg e]at hl;obtain⟨a,kV,j9,pU,b,c,d⟩:=m.obj o ob l' ho hl;exact⟨a,kV,j9,pU,b,λi v hi=>by obtain⟨cv,x,y⟩:=c i v hi;exact⟨cv,x,VI.mono hle _ _ y⟩,d⟩
 .by_cases e:o=h.next
  .subst e;simp only[AHeap.new,if_true,Option.some.injEq]at ho;subst ho;cases eS
  .simp only[AHeap.new,if_neg e]at ho;simp only[Inj.put,if_neg e]at hl;by_cases e':o'=h.next
   .subst e';simp only[Inj.put,if_true,Option.some.injEq]at aU;subst aU;obtain⟨_,_,_,_,_,_,d,_⟩:=m.obj o ob l1 ho hl
    have:=(d eS).2.2
    omega
   .simp only[AHeap.new,if_neg e']at cn;simp only[Inj.put,if_neg e']at aU;exact m.apart o o' ob gv l1 l2 ai ho cn hl aU eS
theorem zKW{a:Addr}{v:Value}(hc:w.cell? a=some v):a.spot=none/\∃cur ty fz,w.heap[a.block]? = some (.cells cur ty fz)/\cur[a.off]? = some v:=by
 unfold World.cell? at hc;split at hc
 .rename_i c t f hb;split at hc
  .cases hc
  .rename_i hs;exact⟨by simpa using hs,c,t,f,hb,hc⟩
 .cases hc
theorem zR8{b:Nat}{o:Obj}(hb:w.heap[b]? = some o):b<w.heap.size:=by
 rcases Nat.lt_or_ge b w.heap.size with x|x
 .exact x
 .rw[Array.getElem?_eq_none x]at hb;cases hb
end Go.Ab
namespace Go.Ab
open Go.ChangeShapes Go.WideShapes Go.RowKit Go.Deep
variable{H:Type}{enc:TypeId×Value->H}{P:Program}
theorem zCt(hl:laidOutB P=true){W W':World}(hb:Below W.heap.size W W'){sp:Nat->Bool}:∀{ts:List TypeId} {vs:List Value} {ds:List (DataW H)} {ps:List MemPlace},(∀t∈ts,P.readableRec t=true/\t<P.types.size)->
  DataW.TrodAll enc P W 0 (λ_=>true) true ts vs ds ps->(∀x∈ps,x.block<W.heap.size)->(∀x∈ps,sp x.block=true)->DataW.TrodAll enc P W' 0 sp true ts vs ds ps
 |[],vs,ds,ps,_,h,_,_=>by
  obtain⟨rfl,rfl,rfl⟩:=trodAll_nil h;rfl
 |t::ts,vs,ds,ps,ht,h,h1,h2=>by
  obtain⟨v,iS,d,pW,p,q,rfl,rfl,rfl,h0,hr⟩:=trodAll_cons h;exact trodAll_cons_mk (WideElems.Trod_stays hl (ht t (by simp)).1 (ht t (by simp)).2 h0 (λx hx=>hb.same (h1 x (by simp[hx]))) (λx hx=>h2 x (by simp[hx])))
   (zCt hl hb (λt' cg=>ht t' (by simp[cg])) hr (λx hx=>h1 x (by simp[hx])) (λx hx=>h2 x (by simp[hx])))
theorem zGn{f:Func}{s:ChangeSpec}{apart fresh handsOn again:Bool}{W W':World}{args:Array Value}{ds gs:List (DataW H)}{before:List MemPlace}{tb:TypeId}(kZ:s.vars=[])(hl:laidOutB P=true)
  (oE:∀t∈f.params.toList,P.readableRec t=true/\t<P.types.size) (cb:f.resultTypes = #[tb]) (wU:P.underlying tb=some .bool)
  (pe:s.fn H ds={ results:=[.lit (.bool true)],args:=ds }) (hW:DataW.Whole enc P f.params.toList s.vars apart W args.toList ds gs before) (hb:Below W.heap.size W W'):
  s.post enc P f apart fresh handsOn again W args (.bool true) W':=by
 have ag:=hW.lt;have uZ:=hW;obtain⟨p,q,hA,hV,rfl,hz,hn⟩:=hW;have CM:=hV;rw[kZ]at hV;obtain⟨rfl,rfl⟩:=trodVars_none hV;simp only[List.append_nil]at *;have aJ:∀sp:Nat->Bool,(∀x∈p,sp x.block=true)->DataW.TrodAll enc P W' 0 sp true f.params.toList args.toList (s.fn H ds).args p:=λsp ko=>by
  rw[pe];exact zCt hl hb oE hA (λx hx=>ag x hx) ko
 have hr:∀(b:Nat) (sp:Nat->Bool) (hd:Bool),DataW.TrodAll enc P W' b sp hd f.resultTypes.toList ((Value.bool true).resultList f.resultTypes.size) (s.fn H ds).results []:=λb sp hd=>by
  rw[pe,cb];exact trodAll_cons_mk (shut_bool wU _) trodAll_mk0
 have eA:∀sp:Nat->Bool,DataW.TrodVars enc P W' sp s.vars (s.fn H ds).vars []:=λsp=>by rw[pe,kZ];rfl
 have e:ds++[]=ds:=List.append_nil ds;have hold:∀x∈p,(λb=>decide (b<W.heap.size)) x.block=true:=λx hx=>by simpa using ag x hx
 refine⟨ds,[],p,[],p,[],uZ,by rw[e];exact hr _ _ _,by rw[e];exact aJ _ hold,by rw[e];exact eA _,hb.frame _,λ_=>⟨ok_one cb rfl (okWide_bool_mk wU _),_,_,([]++p)++[],⟨[]++p,[],trodAll_append (aJ _ (λ_ _=>rfl)) (hr _ _ _),eA _,rfl,?_,?_⟩,?_⟩⟩
 .intro b off hp;have iu:MemPlace.cell b off∈p:=by simpa using hp
  rw[hb.frozen (p:=⟨b,off,none⟩) (ag _ iu)];exact hz b off iu
 .intro ha
  have:=hn ha
  simpa using this
 .intro x hx _;simpa using hx
theorem ZI.calls{f:FuncId}{args:List AV}{h:AHeap}{j:Inj}{W:World}{cargs:Array Value}(ac:ZI P f args h (λv _=>v=.bool true))(m:MR W.heap.size W j h W)(hv:VIs j args cargs.toList):
  Calls P f cargs W λe W'=>e=.returned (.bool true)/\Below W.heap.size W W':=by
 have:=ac W.heap.size W j W cargs.toList m hv
 rw[Array.toArray_toList]at this;refine this.mono ?_
 rintro e W' ⟨v,h',j',cv,rfl,_,m',jj,rfl⟩
 exact⟨by rw[show cv=.bool true from jj],m'.below⟩
def nm{α:Type}(a:α):α:=a
theorem nm_eq{α:Type}(a:α):nm a=a:=Eq.trans rfl rfl
section
variable{P:Program}
@[congr] theorem cg_vc {c:IC} {Q:Exit->Env->AHeap->Prop} {e e':Env} {h h':AHeap} (h1:nm e=e') (h2:h=h'):vc P c Q e h=vc P c Q e' h':=by rw[nm_eq]at h1;rw[h1,h2]
@[congr] theorem cg_RV {aE:List II} {K:Env->AHeap->Prop} {e e':Env} {h h':AHeap} (h1:nm e=e') (h2:h=h'):RV P aE e h K=RV P aE e' h' K:=by rw[nm_eq]at h1;rw[h1,h2]
@[congr] theorem cg_DV {nb nE:Nat} {aE:List DI} {recs bK:List Rec} {K:Env->AHeap->Prop} {e e':Env} {h h':AHeap} (h0:nm nb=nE) (h1:recs=bK) (h2:e=e') (h3:h=h'):DV P nb aE recs e h K=DV P nE aE bK e' h' K:=by rw[nm_eq]at h0;rw[h0,h1,h2,h3]
@[congr] theorem cg_ge {it:II} {K:AV->AHeap->Prop} {e e':Env} {h h':AHeap} (h1:nm e=e') (h2:h=h'):ge P it e h K=ge P it e' h' K:=by rw[nm_eq]at h1;rw[h1,h2]
@[congr] theorem zSW {op:IOp} {K:AV->AHeap->Prop} {e e':Env} {h h':AHeap} (h1:nm e=e') (h2:h=h'):eff P op e h K=eff P op e' h' K:=by rw[nm_eq]at h1;rw[h1,h2]
@[congr] theorem zSO {f:FuncId} {K:AV->AHeap->Prop} {args bW:List AV} {h h':AHeap} (h1:nm args=bW) (h2:h=h'):ZI P f args h K=ZI P f bW h' K:=by rw[nm_eq]at h1;rw[h1,h2]
@[congr] theorem zST {α:Type} {o o':Option α} {K:α->Prop} (h1:nm o=o'):optK o K=optK o' K:=by rw[nm_eq]at h1;rw[h1]
@[congr] theorem zSL {n:Nat} {K:AV->AHeap->Prop} {x x' v v':AV} {h h':AHeap} (h0:nm x=x') (h1:v=v') (h2:h=h'):zFj n x v h K=zFj n x' v' h' K:=by rw[nm_eq]at h0;rw[h0,h1,h2]
@[congr] theorem zSR {sz b:Nat} {z:List AV} {K:AV->AHeap->Prop} {x x' v v':AV} {h h':AHeap} (h0:nm x=x') (h1:v=v') (h2:h=h'):aMake sz b z x v h K=aMake sz b z x' v' h' K:=by rw[nm_eq]at h0;rw[h0,h1,h2]
@[congr] theorem zSM {K:AV->AHeap->Prop} {f f':AV} {args bW:List AV} {h h':AHeap} (h0:nm f=f') (h1:args=bW) (h2:h=h'):zFk P f args h K=zFk P f' bW h' K:=by rw[nm_eq]at h0;rw[h0,h1,h2]
@[congr] theorem zSQ {v v':AV} {a b:Prop} (h0:nm v=v'):condK v a b=condK v' a b:=by rw[nm_eq]at h0;rw[h0]
@[congr] theorem zSK {v v':AV} {b:Bool} {x y:Prop} (h0:nm v=v'):zDP v b x y=zDP v' b x y:=by rw[nm_eq]at h0;rw[h0]
end
set_option linter.defProp false in
def abQ:=And.intro @zPr <| And.intro @zLw <| And.intro @zPt <| And.intro @zRM <| And.intro @zPu <| And.intro @zNs <| And.intro @zPs <| And.intro @zRN <| And.intro @zSC <| And.intro @RV_q <| And.intro @RV_e <| And.intro @zSE <| And.intro @DV_q <| And.intro @DV_e <| And.intro @zQq <| And.intro @zQp <| And.intro @zQt <| And.intro @zQs <| And.intro @zLc <| And.intro @zJv <| And.intro @zNd <| And.intro @zLd <| And.intro @zJo <| And.intro @zJm <| And.intro @zJl <| And.intro @zJn <| And.intro @ev_t <| And.intro @ev_c <| And.intro @zQd <| And.intro @zOE <| And.intro @zOF <| And.intro @qv_mv <| And.intro @zP3 <| And.intro @zRW <| And.intro @qv_un <| And.intro @zP6 <| And.intro @zIz <| And.intro @zOA <| And.intro @zN8 <| And.intro @zHL <| And.intro @zHK <| And.intro @zI2 <| And.intro @zKr <| And.intro @zRU <| And.intro @zMI <| And.intro @zRV <| And.intro @zN7 <| And.intro @zIy <| And.intro @zMH <| And.intro @zI1 <| And.intro @zP4 <| And.intro @zRT <| And.intro @zNX <| And.intro @zQ0 <| And.intro @zJu <| And.intro @zNU <| And.intro @zLm <| And.intro @zLV <| And.intro @zNk <| And.intro @zLW <| And.intro @zPE <| And.intro @zPF <| And.intro @zNW <| And.intro @zLq <| And.intro @zPd <| And.intro @zPP <| And.intro @zPX <| And.intro @zPT <| And.intro @zPS <| And.intro @zPc <| And.intro @zPW <| And.intro @zPY <| And.intro @zPZ <| And.intro @zPa <| And.intro @zPb <| And.intro @zNj <| And.intro @zNi <| And.intro @zQ8 <| And.intro @zQ6 <| And.intro @zQ7 <| And.intro @zPV <| And.intro @zPR <| And.intro @zPU <| And.intro @zPQ <| And.intro @zQ5 <| And.intro @zQ4 <| And.intro @zLn <| And.intro @zJ0 <| And.intro @zNn <| And.intro @zPe <| And.intro @zPf <| And.intro @zLp <| And.intro @zLo <| And.intro @zGK <| And.intro @zId <| And.intro @zQ9 <| And.intro @zNl <| And.intro @zJ2 <| And.intro @zJ1 <| And.intro @zL5 <| And.intro @zL4 <| And.intro @zKj <| And.intro @zIr <| And.intro @zN2 <| And.intro @zMl <| And.intro @zMm <| @zMk
end Go.Ab
namespace Go.Ab
inductive PV where
 |undef
 |bool (b:Bool)
 |int (k:IntKind) (n:Int)
 |str (s:List UInt8)
 |nilp
 |nilf
 |fz (w:Bool) (a:AV) (len:Nat) (cs:List PV)
 |fp (a:AV) (cs:List PV)
 |ptr (s i:Nat)
 |sl (s off len:Nat) (cap:Cap)
 |clo (f:FuncId) (first bN:List PV)
 |agg (cs:List PV)
 |tup (vs:List PV)
instance:Inhabited PV:=⟨.undef⟩
def PV.one:PV->Bool
 | .undef | .agg _ | .tup _=>false
 |_=>true
def PV.cells:PV->List PV
 | .agg cs=>cs
 |v=>[v]
mutual
def er(ι:Nat->Nat):PV->AV
 | .undef=>.undef
 | .bool b=>.bool b
 | .int k n=>.int k n
 | .str s=>.str s
 | .nilp=>.nilp
 | .nilf=>.nilf
 | .fz _ a _ _=>a
 | .fp a _=>a
 | .ptr s i=>.ptr (ι s) i
 | .sl s off len cap=>.sl (ι s) off len cap
 | .clo f a b=>.clo f (ers ι a) (ers ι b)
 | .agg cs=>.agg (ers ι cs)
 | .tup cs=>.tup (ers ι cs)
def ers(ι:Nat->Nat):List PV->List AV
 |[]=>[]
 |c::cs=>er ι c::ers ι cs
end
mutual
def ofAV:AV->PV
 | .undef=>.undef
 | .bool b=>.bool b
 | .int k n=>.int k n
 | .str s=>.str s
 | .nilp=>.nilp
 | .nilf=>.nilf
 | .nils=>.fz true .nils 0 []
 | .ptr o i=>.fp (.ptr o i) []
 | .sl o off n c=>.fp (.sl o off n c) []
 | .clo f a b=>.clo f (ofAVs a) (ofAVs b)
 | .agg cs=>.agg (ofAVs cs)
 | .tup cs=>.tup (ofAVs cs)
def ofAVs:List AV->List PV
 |[]=>[]
 |c::cs=>ofAV c::ofAVs cs
end
structure PHeap where
 next:Nat
 top:Nat
 obj:Nat->Option (List PV)
namespace PHeap
def new(U:PHeap)(cs:List PV):PHeap:=⟨U.next+1,U.top,λs=>if s=U.next then some cs else U.obj s⟩
def set(U:PHeap)(s:Nat)(cs:List PV):PHeap:=⟨U.next,U.top,λs'=>if s'=s then some cs else U.obj s'⟩
def kill(U:PHeap)(s:Nat):PHeap:=⟨U.next,U.top,λs'=>if s'=s then none else U.obj s'⟩
def up(U:PHeap)(t:Nat):PHeap:=⟨U.next,t,U.obj⟩
def rd1(U:PHeap)(s i:Nat):Option PV:=(U.obj s).bind λcs=>cs[i]?
def rd(U:PHeap)(s i n:Nat):Option (List PV):=(U.obj s).bind λcs=>if i+n<=cs.length then some ((cs.drop i).take n)else none
def wr(U:PHeap)(s i:Nat)(vs:List PV):Option PHeap:=(U.obj s).bind λcs=>
 if i+vs.length<=cs.length/\vs.all PV.one=true then some (U.set s (cs.take i++vs++cs.drop (i+vs.length)))else none
def news(U:PHeap):List (List AV)->PHeap
 |[]=>U
 |z::zs=>(U.new (ofAVs z)).news zs
end PHeap
abbrev PEnv:=Nat->PV
def PEnv.put(e:PEnv)(d:Option Nat)(v:PV):PEnv:=match d with
 |some d=>λt=>if t=d then v else e t
 |none=>e
def PEnv.mk:List Nat->List PV->PEnv
 |s::S,v::vs=>λt=>if t=s then v else PEnv.mk S vs t
 |_,_=>λ_=>.undef
def IX.pv(e:PEnv):IX->PV
 | .t n=>e n
 | .c v=>ofAV v
def Zv:AV->Bool
 | .nils=>true
 |_=>false
def pnil(op:BinOp)(r:Bool):Option PV:=
 match op with
 | .eql=>some (.bool r)
 | .neq=>some (.bool !r)
 |_=>none
def paggB:List PV->List PV->Option Bool
 |[],[]=>some true
 | .int k a::xs,.int k' b::ys=>if k=k' then(paggB xs ys).map λr=>decide (a=b) && r else none
 |_,_=>none
def pbin(op:BinOp)(ek:EqK)(x y:PV):Option PV:=
 match x,y with
 | .int k a,.int k' b=>(abin op ek (.int k a) (.int k' b)).map ofAV
 | .str a,.str b=>(astr op a b).map ofAV
 | .bool a,.bool b=>match ek with | .bool=>pnil op (a == b)|_=>none
 | .fz _ a _ _,.fz _ b _ _=>match ek with | .slice=>if Zv b=true then pnil op (Zv a)else if Zv a=true then pnil op false else none|_=>none
 | .sl _ _ _ _,.fz _ b _ _=>match ek with | .slice=>if Zv b=true then pnil op false else none|_=>none
 | .fz _ a _ _,.sl _ _ _ _=>match ek with | .slice=>if Zv a=true then pnil op false else none|_=>none
 | .nilp,.nilp=>match ek with | .pointer=>pnil op true|_=>none
 | .ptr _ _,.nilp=>match ek with | .pointer=>pnil op false|_=>none
 | .nilp,.ptr _ _=>match ek with | .pointer=>pnil op false|_=>none
 | .nilf,.nilf=>match ek with | .func=>pnil op true|_=>none
 | .clo _ _ _,.nilf=>match ek with | .func=>pnil op false|_=>none
 | .nilf,.clo _ _ _=>match ek with | .func=>pnil op false|_=>none
 | .agg xs,.agg ys=>match ek with | .ints n=>if xs.length=n/\ys.length=n then(paggB xs ys).bind λr=>pnil op r else none|_=>none
 |_,_=>none
def pun(op:UnOp)(x:PV):Option PV:=
 match x with
 | .int k n=>(aun op (.int k n)).map ofAV
 | .bool b=>(aun op (.bool b)).map ofAV
 |_=>none
def pfill(cells:List PV):List (Nat×Nat×PV)->Option (List PV)
 |[]=>some cells
 |(off,size,v)::rest=>
  if v.cells.length=size/\off+size<=cells.length/\v.cells.all PV.one=true then pfill (cells.take off++v.cells++cells.drop (off+size)) rest else none
def Qb(x:PV)(y:Nat):Option Nat:=
 match x with
 | .int _ i=>if 0<=i/\i<=y then some i.toNat else none
 |_=>none
def qN(x:Option PV)(mS y:Nat):Option Nat:=
 match x with
 |some x=>Qb x y
 |none=>some mS
def pslA(e:Nat)(a:AV)(l h:Nat):AV:=
 match a with
 | .sl o off _ (.known c)=>.sl o (if c=l then off else off+l*e) (h-l) (.known (c-l))
 | .sl o off _ (.grown g)=>.sl o (off+l*e) (h-l) (.grown (if g=e then g else 0))
 |a=>a
def pslM(e:Nat)(a:AV)(l h m:Nat):AV:=
 match a with
 | .sl o off _ _=>.sl o (if m=l then off else off+l*e) (h-l) (.known (m-l))
 |a=>a
def Z9(e:Nat)(x:PV)(lo hi mx:Option PV):Option PV:=
 match x with
 | .sl s off len (.known c)=>
  (qN mx c c).bind λm=>(qN hi len m).bind λh=>(qN lo 0 h).bind λl=>
   if hi.isNone=true/\mx.isSome=true then none else some (.sl s (if m=l then off else off+l*e) (h-l) (.known (m-l)))
 | .sl s off len (.grown g)=>
  match mx with
  |some mx=>(Qb mx len).bind λm=>(qN hi len m).bind λh=>(qN lo 0 h).bind λl=>
   if hi.isNone=true then none else some (.sl s (if m=l then 0 else off+l*e) (h-l) (.known (m-l)))
  |none=>(qN hi len len).bind λh=>(qN lo 0 h).bind λl=>
   some (.sl s (off+l*e) (h-l) (.grown (if g=e then g else 0)))
 | .fz _ a len cs=>
  match mx with
  |none=>(qN hi len len).bind λh=>(qN lo 0 h).bind λl=>some (.fz false (pslA e a l h) (h-l) ((cs.drop (l*e)).take ((h-l)*e)))
  |some mx=>match a with
   | .nils=>(Qb mx 0).bind λm=>(qN hi 0 m).bind λh=>(qN lo 0 h).bind λ_=>if hi.isNone=true then none else some (.fz true .nils 0 [])
   |_=>none
 |_=>none
def zBq(x:PV)(lo hi:Option PV):Option PV:=
 match x with
 | .str s=>(qN hi s.length s.length).bind λh=>(qN lo 0 h).bind λl=>some (.str ((s.take h).drop l))
 |_=>none
def pPick(c a b:PV):Option PV:=
 match c with
 | .bool t=>some (if t=true then a else b)
 |_=>none
def pConv(k:IntKind)(x:PV):Option PV:=
 match x with
 | .int _ n=>some (.int k (k.wrap n))
 |_=>none
def pNil(x:PV):Option PV:=
 match x with
 | .ptr s i=>some (.ptr s i)
 | .fp a cs=>if cs.isEmpty=true then none else some (.fp a cs)
 | .clo f a b=>some (.clo f a b)
 |_=>none
def zDH(agg:Bool)(n off:Nat)(x:PV):Option PV:=
 match x with
 | .agg cs=>if agg=true then some (.agg ((cs.drop off).take n))else cs[off]?
 |_=>none
def pAdd(a:AV)(k:Nat):AV:=
 match a with
 | .ptr o i=>.ptr o (i+k)
 |a=>a
def zAG(off:Nat)(x:PV):Option PV:=
 match x with
 | .ptr s i=>some (.ptr s (i+off))
 | .fp a cs=>if cs.isEmpty=true then none else some (.fp (pAdd a off) (cs.drop off))
 |_=>none
def pAt(a:AV)(k:Nat):AV:=
 match a with
 | .sl o off _ _=>.ptr o (off+k)
 |_=>.ptr 0 0
def zCH(sz:Nat)(x i:PV):Option PV:=
 match x,i with
 | .sl s off len _,.int _ n=>if 0<=n/\n<len then some (.ptr s (off+n.toNat*sz))else none
 | .fz _ a len cs,.int _ n=>if 0<=n/\n<len then some (.fp (pAt a (n.toNat*sz)) (cs.drop (n.toNat*sz)))else none
 |_,_=>none
def zDp(x i:PV):Option PV:=
 match x,i with
 | .str s,.int _ n=>if 0<=n then(s[n.toNat]?).map λc=>.int .u8 c.toNat else none
 |_,_=>none
def zCi(x:PV)(i:Nat):Option PV:=
 match x with
 | .tup vs=>vs[i]?
 |_=>none
def plen(x:PV):Option Nat:=
 match x with
 | .fz _ _ n _=>some n
 | .sl _ _ n _=>some n
 |_=>none
def pLen(x:PV):Option PV:=(plen x).map λn=>.int .i64 n
def zDo(x:PV):Option PV:=
 match x with
 | .str s=>some (.int .i64 s.length)
 |_=>none
def pCap(x:PV):Option PV:=
 match x with
 | .sl _ _ _ (.known c)=>some (.int .i64 c)
 | .fz _ .nils _ _=>some (.int .i64 0)
 |_=>none
def zCG(mx:Bool)(x y:PV):Option PV:=
 match x,y with
 | .int k a,.int k' b=>if k=k' then some (.int k (if mx=true then max a b else min a b))else none
 |_,_=>none
def pldv(agg:Bool)(n:Nat)(x:PV)(U:PHeap):Option PV:=
 match x with
 | .ptr s i=>if agg=true then(U.rd s i n).map .agg else U.rd1 s i
 | .fp _ cs=>if agg=true then(if 0<n/\n<=cs.length then some (.agg (cs.take n))else none)else cs[0]?
 |_=>none
def qp(nb nr:Nat)(op:IOp)(e:PEnv)(U:PHeap):Option PV:=
 match op with
 | .mv x=>some (x.pv e)
 | .pick c a b=>pPick (c.pv e) (a.pv e) (b.pv e)
 | .bin op ek x y=>pbin op ek (x.pv e) (y.pv e)
 | .un op x=>pun op (x.pv e)
 | .conv k x=>pConv k (x.pv e)
 | .nilCheck x=>pNil (x.pv e)
 | .build z ps=>(pfill (ofAVs z) (ps.map λp=>(p.1,p.2.1,p.2.2.pv e))).map .agg
 | .field agg n off x=>zDH agg n off (x.pv e)
 | .fieldAddr off x=>zAG off (x.pv e)
 | .indexAddr sz x i=>zCH sz (x.pv e) (i.pv e)
 | .indexStr x i=>zDp (x.pv e) (i.pv e)
 | .extract x i=>zCi (x.pv e) i
 | .len x=>pLen (x.pv e)
 | .lenStr x=>zDo (x.pv e)
 | .cap x=>pCap (x.pv e)
 | .slice sz x lo hi mx=>Z9 sz (x.pv e) (lo.map (·.pv e)) (hi.map (·.pv e)) (mx.map (·.pv e))
 | .sliceStr x lo hi=>zBq (x.pv e) (lo.map (·.pv e)) (hi.map (·.pv e))
 | .maxmin mx x y=>zCG mx (x.pv e) (y.pv e)
 | .makeFunc f first bN=>some (.clo f (first.map (·.pv e)) (bN.map (·.pv e)))
 | .load agg n x=>pldv agg n (x.pv e) U
 | .rev k=>if k<nr then some (.ptr (nb+k) 0)else none
 | .revS k n=>if k<nr then some (.sl (nb+k) 0 n (.known n))else none
 |_=>none
def QA(e:Nat)(U:PHeap)(x:PV)(n:Nat):Option (List PV):=
 if n=0 then some []else
 match x with
 | .sl s off len _=>if n<=len then U.rd s off (n*e)else none
 | .fz _ _ len cs=>if n<=len/\n*e<=cs.length/\0<e then some (cs.take (n*e))else none
 |_=>none
def pgrow(e bytes:Nat)(U:PHeap)(s:PV)(news:List PV)(m:Nat):Option (PV×PHeap):=
 match s with
 | .fz _ .nils _ _=>if m*bytes<=140737488355328/\m<=4611686018427387904 then some (.sl U.next 0 m (.grown e),U.new news)else none
 | .fz w (.sl _ _ _ (.known c)) len cs=>
  if c<len+m/\(w=true\/cs.isEmpty=false)/\cs.length=len*e/\(len+m)*bytes<=140737488355328/\len+m<=4611686018427387904 then some (.sl U.next 0 (len+m) (.grown e),U.new (cs++news))else none
 | .sl s off len (.known c)=>
  if len+m<=c then(U.wr s (off+len*e) news).map λσ'=>(.sl s off (len+m) (.known c),σ')
  else if (len+m)*bytes<=140737488355328/\len+m<=4611686018427387904 then(U.rd s off (len*e)).map λcX=>(.sl U.next 0 (len+m) (.grown e),U.new (cX++news))else none
 | .sl s off len (.grown g)=>
  if (len+m)*bytes<=140737488355328/\len+m<=4611686018427387904/\g=e then
   (U.obj s).bind λcs=>if off+len*e<=cs.length then some (.sl U.next 0 (len+m) (.grown e),(U.kill s).new ((cs.drop off).take (len*e)++news))else none
  else none
 |_=>none
def psame(s:PV):Option PV:=
 match s with
 | .fz _ .nils _ _=>some (.fz true .nils 0 [])
 | .sl s off len (.known c)=>if len<=c then some (.sl s off len (.known c))else none
 | .sl s off len (.grown e)=>some (.sl s off len (.grown e))
 | .fz w (.sl o off l c) len cs=>some (.fz w (.sl o off l c) len cs)
 |_=>none
def ZZ(e bytes:Nat)(U:PHeap)(s x:PV):Option (PV×PHeap):=
 (plen x).bind λm=>if m=0 then(psame s).map λv=>(v,U)else(QA e U x m).bind λnews=>pgrow e bytes U s news m
def pcopy(e:Nat)(U:PHeap)(d s:PV):Option (PV×PHeap):=
 (plen d).bind λn=>(plen s).bind λm=>if min m n=0 then some (.int .i64 0,U)else
  match d with
  | .sl o off _ _=>(QA e U s (min m n)).bind λcs=>(U.wr o off cs).map λσ'=>(.int .i64 (min m n:Nat),σ')
  |_=>none
end Go.Ab
set_option linter.unusedVariables false
set_option linter.unusedSimpArgs false
namespace Go.Ab
variable{ι ι':Nat->Nat}{Z Z':Nat->Prop}{h h':AHeap}{U σ':PHeap}{n n':Nat}
theorem Qj(ι:Nat->Nat):∀cs:List PV,ers ι cs=cs.map (er ι)
 |[]=>rfl
 |c::cs=>by rw[ers,Qj ι cs];rfl
theorem zGP:∀cs:List AV,ofAVs cs=cs.map ofAV
 |[]=>rfl
 |c::cs=>by rw[ofAVs,zGP cs];rfl
mutual
theorem zGF(ι:Nat->Nat):∀v:AV,er ι (ofAV v)=v
 | .undef | .bool _ | .int _ _ | .str _ | .nilp | .nilf | .nils | .ptr _ _ | .sl _ _ _ _=>rfl
 | .clo f a b=>by simp only[ofAV,er,Zh ι a,Zh ι b]
 | .agg a=>by simp only[ofAV,er,Zh ι a]
 | .tup a=>by simp only[ofAV,er,Zh ι a]
theorem Zh(ι:Nat->Nat):∀v:List AV,ers ι (ofAVs v)=v
 |[]=>rfl
 |c::cs=>by simp only[ofAVs,ers,zGF ι c,Zh ι cs]
end
def FzAt(Z:Nat->Prop)(h:AHeap)(w:Bool)(a:AV)(len:Nat)(ws:List AV):Prop:=
 (a=.nils/\len=0/\ws=[])\/∃o off cap,a=.sl o off len cap/\Z o/\(ws=[]\/h.rd o off ws.length=some ws)/\(∀c,cap=.known c->len<=c)/\(w=true->off=0/\h.obj o=some ⟨true,ws⟩)
def FpAt(Z:Nat->Prop)(h:AHeap)(a:AV)(ws:List AV):Prop:=
 a.one=true/\(ws=[]\/∃o i,a=.ptr o i/\Z o/\h.rd o i ws.length=some ws)
def idz:Nat->Nat:=λ_=>0
mutual
def VOK(Z:Nat->Prop)(h:AHeap)(n:Nat):PV->Prop
 | .undef | .bool _ | .int _ _ | .str _ | .nilp | .nilf=>True
 | .fz w a len cs=>FzAt Z h w a len (ers idz cs)/\VOKs Z h 0 cs
 | .fp a cs=>FpAt Z h a (ers idz cs)/\VOKs Z h 0 cs
 | .ptr s _=>s<n
 | .sl s _ _ _=>s<n
 | .clo _ a b=>VOKs Z h n a/\VOKs Z h n b
 | .agg cs=>VOKs Z h n cs
 | .tup cs=>VOKs Z h n cs
def VOKs(Z:Nat->Prop)(h:AHeap)(n:Nat):List PV->Prop
 |[]=>True
 |c::cs=>VOK Z h n c/\VOKs Z h n cs
end
theorem Qt:∀{cs:List PV},VOKs Z h n cs↔∀c∈cs,VOK Z h n c
 |[]=>by simp[VOKs]
 |c::cs=>by simp[VOKs,Qt (cs:=cs)]
theorem FzAt.mono(hz:∀o,Z o->Z' o/\h'.obj o=h.obj o){w:Bool}{a:AV}{len:Nat}{ws:List AV}(hf:FzAt Z h w a len ws):FzAt Z' h' w a len ws:=by
 rcases hf with hf|⟨o,off,cap,rfl,h1,h2,h3,h4⟩
 .exact .inl hf
 .exact .inr ⟨o,off,cap,rfl,(hz o h1).1,h2.imp id λh2=>by rw[zCd (hz o h1).2];exact h2,h3,λhw=>⟨(h4 hw).1,by rw[(hz o h1).2];exact(h4 hw).2⟩⟩
theorem FpAt.mono(hz:∀o,Z o->Z' o/\h'.obj o=h.obj o){a:AV}{ws:List AV}(hf:FpAt Z h a ws):FpAt Z' h' a ws:=by
 obtain⟨h0,rfl|⟨o,i,rfl,h1,h2⟩⟩:=hf
 .exact⟨h0,.inl rfl⟩
 .exact⟨h0,.inr ⟨o,i,rfl,(hz o h1).1,by rw[zCd (hz o h1).2];exact h2⟩⟩
mutual
theorem VOK.mono(hz:∀o,Z o->Z' o/\h'.obj o=h.obj o){n n':Nat}(hn:n<=n'):∀{v:PV},VOK Z h n v->VOK Z' h' n' v
 | .undef,_ | .bool _,_ | .int _ _,_ | .str _,_ | .nilp,_ | .nilf,_=>trivial
 | .fz w a len cs,hv=>⟨hv.1.mono hz,VOKs.mono hz (vH 0) hv.2⟩
 | .fp a cs,hv=>⟨hv.1.mono hz,VOKs.mono hz (vH 0) hv.2⟩
 | .ptr s _,hv=>Nat.lt_of_lt_of_le (show s<n from hv) hn
 | .sl s _ _ _,hv=>Nat.lt_of_lt_of_le (show s<n from hv) hn
 | .clo _ a b,hv=>⟨VOKs.mono hz hn hv.1,VOKs.mono hz hn hv.2⟩
 | .agg cs,hv=>VOKs.mono (cs:=cs) hz hn hv
 | .tup cs,hv=>VOKs.mono (cs:=cs) hz hn hv
theorem VOKs.mono(hz:∀o,Z o->Z' o/\h'.obj o=h.obj o){n n':Nat}(hn:n<=n'):∀{cs:List PV},VOKs Z h n cs->VOKs Z' h' n' cs
 |[],_=>trivial
 |c::cs,hv=>⟨VOK.mono hz hn hv.1,VOKs.mono hz hn hv.2⟩
end
theorem VOKs.up{v:List PV}(hv:VOKs Z h n v)(hn:n<=n'):VOKs Z h n' v:=hv.mono (λo ho=>⟨ho,rfl⟩) hn
mutual
theorem zEg{n:Nat}(hi:∀s,s<n->ι' s=ι s):∀{v:PV},VOK Z h n v->er ι' v=er ι v
 | .undef,_ | .bool _,_ | .int _ _,_ | .str _,_ | .nilp,_ | .nilf,_=>rfl
 | .fz w a len cs,hv=>rfl
 | .fp a cs,hv=>rfl
 | .ptr s _,hv=>by simp only[er];rw[hi s hv]
 | .sl s _ _ _,hv=>by simp only[er];rw[hi s hv]
 | .clo _ a b,hv=>by simp only[er];rw[QC hi hv.1,QC hi hv.2]
 | .agg cs,hv=>by simp only[er];rw[QC (cs:=cs) hi hv]
 | .tup cs,hv=>by simp only[er];rw[QC (cs:=cs) hi hv]
theorem QC{n:Nat}(hi:∀s,s<n->ι' s=ι s):∀{cs:List PV},VOKs Z h n cs->ers ι' cs=ers ι cs
 |[],_=>rfl
 |c::cs,hv=>by simp only[ers];rw[zEg hi hv.1,QC hi hv.2]
end
theorem zBB{cs:List PV}(hv:VOKs Z h 0 cs):ers ι cs=ers idz cs:=QC (λs hs=>absurd hs (Nat.not_lt_zero _)) hv
theorem zBy{v:PV}(hv:VOK Z h 0 v):er ι v=er idz v:=zEg (λs hs=>absurd hs (Nat.not_lt_zero _)) hv
mutual
theorem VOK.ofAV:∀(v:AV),VOK Z h n (ofAV v)
 | .undef | .bool _ | .int _ _ | .str _ | .nilp | .nilf=>trivial
 | .nils=>⟨.inl ⟨rfl,rfl,rfl⟩,trivial⟩
 | .ptr _ _ | .sl _ _ _ _=>⟨⟨rfl,.inl rfl⟩,trivial⟩
 | .clo f a b=>⟨VOKs.ofAVs a,VOKs.ofAVs b⟩
 | .agg cs=>VOKs.ofAVs cs
 | .tup cs=>VOKs.ofAVs cs
theorem VOKs.ofAVs:∀(v:List AV),VOKs Z h n (ofAVs v)
 |[]=>trivial
 |c::cs=>⟨VOK.ofAV c,VOKs.ofAVs cs⟩
end
theorem zIA{v:PV}(hv:VOK Z h n v):(er ι v).one=v.one:=by
 cases v with
 |fz w a len cs=>
  obtain⟨rfl,_⟩|⟨o,off,cap,rfl,_⟩:=hv.1<;>rfl
 |fp a cs=>exact hv.1.1
 |_=>rfl
theorem zBj{a:AV}(ha:a.one=true):a.cells=[a]:=by cases a<;>first|rfl|cases ha
theorem zEh{v:PV}(hv:VOK Z h n v):(er ι v).cells=ers ι v.cells:=by
 cases v with
 |fz w a len cs=>
  obtain⟨rfl,_⟩|⟨o,off,cap,rfl,_⟩:=hv.1<;>rfl
 |fp a cs=>exact zBj hv.1.1
 |_=>rfl
theorem VOK.cells{v:PV}(hv:VOK Z h n v):VOKs Z h n v.cells:=by
 cases v with
 |agg cs=>exact hv
 |_=>exact⟨hv,trivial⟩
theorem qG(cs:List PV):(ers ι cs).length=cs.length:=by simp[Qj]
theorem Zx(as bs:List PV):ers ι (as++bs)=ers ι as++ers ι bs:=by simp[Qj]
theorem QV(as:List PV)(k:Nat):ers ι (as.take k)=(ers ι as).take k:=by simp[Qj,List.map_take]
theorem QW(as:List PV)(k:Nat):ers ι (as.drop k)=(ers ι as).drop k:=by simp[Qj,List.map_drop]
theorem zAf(as:List PV)(k:Nat):(ers ι as)[k]? = (as[k]?).map (er ι):=by simp[Qj]
theorem zDw{cs:List PV}(hv:VOKs Z h n cs):(ers ι cs).all AV.one=cs.all PV.one:=by
 induction cs with
 |nil=>rfl
 |cons c cs ih=>simp only[ers,List.all_cons,zIA hv.1,ih hv.2]
theorem VOKs.append{as bs:List PV}(ha:VOKs Z h n as)(hb:VOKs Z h n bs):VOKs Z h n (as++bs):=by
 rw[Qt]at *;intro c hc;rcases List.mem_append.1 hc with hc|hc
 .exact ha c hc
 .exact hb c hc
theorem VOKs.take{as:List PV}(ha:VOKs Z h n as)(k:Nat):VOKs Z h n (as.take k):=by
 rw[Qt]at *;exactλc hc=>ha c (List.mem_of_mem_take hc)
theorem VOKs.drop{as:List PV}(ha:VOKs Z h n as)(k:Nat):VOKs Z h n (as.drop k):=by
 rw[Qt]at *;exactλc hc=>ha c (List.mem_of_mem_drop hc)
theorem VOKs.get{as:List PV}(ha:VOKs Z h n as){k:Nat}{v:PV}(hk:as[k]? = some v):VOK Z h n v:=Qt.1 ha v (List.mem_of_getElem? hk)
structure Rel(ι:Nat->Nat)(Z:Nat->Prop)(U:PHeap)(h:AHeap):Prop where
 hwf:HWF h
 zlt:∀o,Z o->o<h.next
 top:U.top<=h.next
 wf:∀s,U.next<=s->U.obj s=none
 obj:∀s cs,U.obj s=some cs->h.obj (ι s)=some ⟨true,ers ι cs⟩/\VOKs Z h U.next cs/\¬Z (ι s)
 inj:∀s s' cs dp,U.obj s=some cs->U.obj s'=some dp->ι s=ι s'->s=s'
structure Aft(ι:Nat->Nat)(Z:Nat->Prop)(U:PHeap)(h:AHeap)(ι':Nat->Nat)(Z':Nat->Prop)(σ':PHeap)(h':AHeap):Prop where
 next:U.next<=σ'.next
 hnext:h.next<=h'.next
 inj:∀s,s<U.next->ι' s=ι s
 z:∀o,Z o->Z' o/\h'.obj o=h.obj o
 dead:∀s,s<U.next->U.obj s=none->σ'.obj s=none
 fresh:∀s cs,U.next<=s->σ'.obj s=some cs->h.next<=ι' s
theorem Rel.none_lt(r:Rel ι Z U h){s:Nat}{cs:List PV}(hs:U.obj s=some cs):s<U.next:=by
 rcases Nat.lt_or_ge s U.next with x|x
 .exact x
 .rw[r.wf s x]at hs;cases hs
theorem Aft.refl(r:Rel ι Z U h):Aft ι Z U h ι Z U h:=⟨vH _,vH _,λ_ _=>rfl,λo ho=>⟨ho,rfl⟩,λ_ _ h=>h,λs cs hs ho=>absurd (r.none_lt ho) (by omega)⟩
theorem Aft.trans{ι'':Nat->Nat}{mU:Nat->Prop}{σ'':PHeap}{cD:AHeap}(a:Aft ι Z U h ι' Z' σ' h')(b:Aft ι' Z' σ' h' ι'' mU σ'' cD):Aft ι Z U h ι'' mU σ'' cD:=
 ⟨Nat.le_trans a.next b.next,Nat.le_trans a.hnext b.hnext,λs hs=>(b.inj s (Nat.lt_of_lt_of_le hs a.next)).trans (a.inj s hs),
  λo ho=>⟨(b.z o (a.z o ho).1).1,(b.z o (a.z o ho).1).2.trans (a.z o ho).2⟩,λs hs hn=>b.dead s (Nat.lt_of_lt_of_le hs a.next) (a.dead s hs hn),
  λs cs hs ho=>by
   rcases Nat.lt_or_ge s σ'.next with x|x
   .rw[b.inj s x];cases hc:σ'.obj s with
    |none=>rw[b.dead s x hc]at ho;cases ho
    |some ds=>exact a.fresh s ds hs hc
   .exact Nat.le_trans a.hnext (b.fresh s cs x ho)⟩
theorem Aft.vok{v:PV}(a:Aft ι Z U h ι' Z' σ' h')(hv:VOK Z h U.next v):VOK Z' h' σ'.next v:=hv.mono a.z a.next
theorem Aft.voks{v:List PV}(a:Aft ι Z U h ι' Z' σ' h')(hv:VOKs Z h U.next v):VOKs Z' h' σ'.next v:=hv.mono a.z a.next
theorem Aft.er{v:PV}(a:Aft ι Z U h ι' Z' σ' h')(hv:VOK Z h U.next v):er ι' v=er ι v:=zEg a.inj hv
theorem Aft.ers{v:List PV}(a:Aft ι Z U h ι' Z' σ' h')(hv:VOKs Z h U.next v):ers ι' v=ers ι v:=QC a.inj hv
def EOK(Z:Nat->Prop)(h:AHeap)(n:Nat)(E:PEnv):Prop:=∀t,VOK Z h n (E t)
def erE(ι:Nat->Nat)(E:PEnv):Env:=λt=>er ι (E t)
theorem Aft.eok{E:PEnv}(a:Aft ι Z U h ι' Z' σ' h')(hv:EOK Z h U.next E):EOK Z' h' σ'.next E:=λt=>a.vok (hv t)
theorem Aft.erE{E:PEnv}(a:Aft ι Z U h ι' Z' σ' h')(hv:EOK Z h U.next E):erE ι' E=erE ι E:=funext λt=>a.er (hv t)
theorem zBL(E:PEnv)(d:Option Nat)(v:PV):erE ι (E.put d v)=(erE ι E).put d (er ι v):=by
 cases d with
 |none=>rfl
 |some d=>funext t;simp only[Go.Ab.erE,PEnv.put,Env.put];split<;>rfl
theorem EOK.put{E:PEnv}(he:EOK Z h n E){v:PV}(hv:VOK Z h n v)(d:Option Nat):EOK Z h n (E.put d v):=by
 cases d with
 |none=>exact he
 |some d=>intro t;simp only[PEnv.put];split;exact hv;exact he t
theorem zBg:∀(S:List Nat) (vs:List PV),erE ι (PEnv.mk S vs)=Env.mk S (ers ι vs)
 |[],vs=>by funext t;simp[Go.Ab.erE,PEnv.mk,Env.mk,er]
 |s::S,[]=>by funext t;simp[Go.Ab.erE,PEnv.mk,Env.mk,er,Go.Ab.ers]
 |s::S,v::vs=>by
  funext t
  have:=congrFun (zBg S vs) t
  simp only[Go.Ab.erE,PEnv.mk,Env.mk,Go.Ab.ers]at this ⊢;split
  .rfl
  .exact this
theorem EOK.mk:∀{S:List Nat} {vs:List PV},VOKs Z h n vs->EOK Z h n (PEnv.mk S vs)
 |[],vs,_=>λt=>trivial
 |s::S,[],_=>λt=>trivial
 |s::S,v::vs,hv=>λt=>by simp only[PEnv.mk];split;exact hv.1;exact EOK.mk hv.2 t
theorem zCP(E:PEnv)(S:List Nat):ers ι (S.map E)=S.map (erE ι E):=by simp[Qj,erE]
theorem EOK.map{E:PEnv}(he:EOK Z h n E)(S:List Nat):VOKs Z h n (S.map E):=by
 rw[Qt];intro c hc;obtain⟨t,_,rfl⟩:=List.mem_map.1 hc;exact he t
theorem er_pv(E:PEnv)(x:IX):er ι (x.pv E)=x.ev (erE ι E):=by
 cases x with
 |t n=>rfl
 |c v=>exact zGF ι v
theorem EOK.pv{E:PEnv}(he:EOK Z h n E)(x:IX):VOK Z h n (x.pv E):=by
 cases x with
 |t n=>exact he n
 |c v=>exact VOK.ofAV v
theorem zCO(E:PEnv)(l:List IX):ers ι (l.map (·.pv E))=l.map (·.ev (erE ι E)):=by
 rw[Qj,List.map_map];exact List.map_congr_left λx _=>er_pv E x
theorem EOK.pvs{E:PEnv}(he:EOK Z h n E)(l:List IX):VOKs Z h n (l.map (·.pv E)):=by
 rw[Qt];intro c hc;obtain⟨x,_,rfl⟩:=List.mem_map.1 hc;exact he.pv x
theorem zF2(r:Rel ι Z U h){s i k:Nat}{vs:List PV}(hv:U.rd s i k=some vs):h.rd (ι s) i k=some (ers ι vs)/\VOKs Z h U.next vs:=by
 simp only[PHeap.rd,Option.bind_eq_some_iff]at hv;obtain⟨cs,hc,hv⟩:=hv;split at hv
 .rename_i hl;cases hv;obtain⟨h1,h2,_⟩:=r.obj s cs hc;refine⟨?_,(h2.drop _).take _⟩;rw[zBp h1 (by simpa [qG]using hl),QV,QW]
 .cases hv
theorem zN6(r:Rel ι Z U h){s i:Nat}{v:PV}(hv:U.rd1 s i=some v):h.rd1 (ι s) i=some (er ι v)/\VOK Z h U.next v:=by
 simp only[PHeap.rd1,Option.bind_eq_some_iff]at hv;obtain⟨cs,hc,hv⟩:=hv;obtain⟨h1,h2,_⟩:=r.obj s cs hc;exact⟨by rw[Qv h1,zAf,hv];rfl,h2.get hv⟩
theorem zCf(r:Rel ι Z U h){agg:Bool}{k:Nat}{x v:PV}(hx:VOK Z h U.next x)(hv:pldv agg k x U=some v):ldv agg k (er ι x) h=some (er ι v)/\VOK Z h U.next v:=by
 cases x<;>simp only[pldv,reduceCtorEq]at hv
 case ptr s i=>
  simp only[er,ldv];cases agg with
  |true=>
   simp only[if_true,Option.map_eq_some_iff]at hv ⊢;obtain⟨vs,hv,rfl⟩:=hv;obtain⟨h1,h2⟩:=zF2 r hv;exact⟨⟨_,h1,rfl⟩,h2⟩
  |false=>
   simp only[Bool.false_eq_true,if_false]at hv ⊢;exact zN6 r hv
 case fp a cs=>
  obtain⟨⟨h0,h1⟩,h2⟩:=hx;have gr:=h2.up (Nat.zero_le U.next);rcases h1 with h1|⟨o,i,rfl,h3,h4⟩
  .have:cs=[]:=List.eq_nil_of_length_eq_zero (by rw[<-qG (ι:=idz),h1];rfl)
   subst this;cases agg with
   |true=>
    simp only[if_true]at hv;split at hv
    .rename_i hc;simp at hc;omega
    .cases hv
   |false=>simp at hv
  .simp only[er,ldv];cases agg with
   |true=>
    simp only[if_true]at hv ⊢;split at hv
    .rename_i hc;cases hv
     have:=zDA h4 (a:=0) (b:=k) (by rw[qG];omega)
     rw[Nat.add_zero,List.drop_zero]at this;rw[this,<-QV];exact⟨by simp[er,zBB (ι:=ι) (h2.take k)],gr.take k⟩
    .cases hv
   |false=>
    simp only[Bool.false_eq_true,if_false]at hv ⊢;have hl:0<(ers idz cs).length:=by
     rw[qG];exact(List.getElem?_eq_some_iff.1 hv).1
    have:=zMG h4 hl
    rw[Nat.add_zero]at this;rw[this,zAf,hv];exact⟨by simp[zBy (ι:=ι) (h2.get hv)],gr.get hv⟩
theorem zB6:∀{ps:List (Nat×Nat×PV)} {cells cs:List PV},(∀p∈ps,VOK Z h n p.2.2)->VOKs Z h n cells->pfill cells ps=some cs->
  afill (ers ι cells) (ps.map λp=>(p.1,p.2.1,er ι p.2.2))=some (ers ι cs)/\VOKs Z h n cs
 |[],cells,cs,_,hc,hv=>by cases hv;exact⟨rfl,hc⟩
 |(off,size,v)::ps,cells,cs,hp,hc,hv=>by
  simp only[pfill]at hv;split at hv
  .rename_i eX;have ki:VOK Z h n v:=hp (off,size,v) (by simp);have ih:=zB6 (λp iu=>hp p (by simp[iu])) (((hc.take off).append ki.cells).append (hc.drop (off+size))) hv;simp only[List.map_cons,afill];rw[zEh ki,if_pos ⟨by rw[qG];exact eX.1,by rw[qG];exact eX.2.1,by rw[zDw ki.cells];exact eX.2.2⟩];rw[Zx,Zx,QV,QW]at ih;exact ih
  .cases hv
theorem zLP{a:AV}(ha:Zv a=true):a=.nils:=by cases a<;>first|rfl|cases ha
theorem zBc{x:PV}{y k:Nat}(hv:Qb x y=some k):zAz (er ι x) y=some k:=by
 cases x<;>simp only[Qb,reduceCtorEq]at hv
 exact hv
theorem qL{x:Option PV}{d y k:Nat}(hv:qN x d y=some k):qJ (x.map (er ι)) d y=some k:=by
 cases x with
 |none=>exact hv
 |some x=>exact zBc hv
theorem zMg{x:PV}{y k:Nat}(hv:Qb x y=some k):k<=y:=by
 cases x<;>simp only[Qb,reduceCtorEq]at hv
 split at hv
 .cases hv;omega
 .cases hv
theorem zFA{x:Option PV}{d y k:Nat}(hd:d<=y)(hv:qN x d y=some k):k<=y:=by
 cases x with
 |none=>cases hv;exact hd
 |some x=>exact zMg hv
theorem zIX(e:Nat)(lo hi:Option AV):Qe e .nils lo hi none=(qJ hi 0 0).bind λh=>(qJ lo 0 h).bind λ_=>if hi.isNone=true/\(none:Option AV).isSome=true then none else some .nils:=rfl
theorem zG0(e o off len c:Nat)(lo hi:Option AV):Qe e (.sl o off len (.known c)) lo hi none=(qJ hi len c).bind λh=>(qJ lo 0 h).bind λl=>
   if hi.isNone=true/\(none:Option AV).isSome=true then none else some (.sl o (if c=l then off else off+l*e) (h-l) (.known (c-l))):=rfl
theorem zHR{e:Nat}{x v:PV}{lo hi mx:Option PV}(hx:VOK Z h n x)(hv:Z9 e x lo hi mx=some v):
  Qe e (er ι x) (lo.map (er ι)) (hi.map (er ι)) (mx.map (er ι))=some (er ι v)/\VOK Z h n v:=by
 cases x<;>simp only[Z9,reduceCtorEq]at hv
 case sl s off len cap=>
  cases cap with
  |known c=>
   simp only[Option.bind_eq_some_iff]at hv;obtain⟨m,h1,k,h2,l,h3,hv⟩:=hv;split at hv
   .cases hv
   .rename_i hc;cases hv;simp only[er,Qe];rw[qL h1];simp only[Option.bind_some];rw[qL h2];simp only[Option.bind_some];rw[qL h3];simp only[Option.bind_some,Option.isNone_map,Option.isSome_map];rw[if_neg hc];exact⟨rfl,hx⟩
  |grown g=>
   cases mx with
   |none=>
    simp only[Option.bind_eq_some_iff]at hv;obtain⟨k,h2,l,h3,hv⟩:=hv;cases hv;simp only[er,Qe,Option.map_none];rw[qL h2];simp only[Option.bind_some];rw[qL h3];simp only[Option.bind_some];exact⟨trivial,hx⟩
   |some mx=>
    simp only[Option.bind_eq_some_iff]at hv;obtain⟨m,h1,k,h2,l,h3,hv⟩:=hv;split at hv
    .cases hv
    .rename_i hc;cases hv;simp only[er,Qe,Option.map_some];rw[zBc h1];simp only[Option.bind_some];rw[qL h2];simp only[Option.bind_some];rw[qL h3];simp only[Option.bind_some,Option.isNone_map];rw[if_neg hc];exact⟨rfl,hx⟩
 case fz w a len cs=>
  cases mx with
  |some mx=>
   cases a<;>try cases hv
   simp only[Option.bind_eq_some_iff]at hv;obtain⟨m,h1,k,h2,l,h3,hv⟩:=hv;split at hv
   .cases hv
   .rename_i hc;cases hv;simp only[er,Qe,Option.map_some];rw[show qJ (some (er ι mx)) 0 0=some m from zBc h1];simp only[Option.bind_some];rw[qL h2];simp only[Option.bind_some];rw[qL h3];simp only[Option.bind_some,Option.isNone_map];rw[if_neg λh=>hc h.1];exact⟨rfl,.inl ⟨rfl,rfl,rfl⟩,trivial⟩
  |none=>
   simp only[Option.bind_eq_some_iff]at hv;obtain⟨k,h2,l,h3,hv⟩:=hv;cases hv;have hk:=zFA (vH _) h2;have hl:=zFA (Nat.zero_le _) h3;obtain⟨hf,hc⟩:=hx;have lI:VOKs Z h 0 ((cs.drop (l*e)).take ((k-l)*e)):=(hc.drop _).take _;simp only[er,Option.map_none];rcases hf with ⟨rfl,rfl,he⟩|⟨o,off,cap,rfl,h4,h5,h6,h7⟩
   .have:cs=[]:=List.eq_nil_of_length_eq_zero (by rw[<-qG (ι:=idz),he];rfl)
    subst this;obtain rfl:k=0:=by omega
    obtain rfl:l=0:=by omega
    rw[zIX];rw[show qJ (hi.map (er ι)) 0 0=some 0 from qL h2];simp only[Option.bind_some];rw[show qJ (lo.map (er ι)) 0 0=some 0 from qL h3];simp only[Option.bind_some];refine⟨by simp[pslA],.inl ⟨rfl,rfl,by simp[ers]⟩,by simp[VOKs]⟩
   .have bH:∀c5,(c5=off+l*e\/(c5=off/\(k-l)*e=0))->(ers idz ((cs.drop (l*e)).take ((k-l)*e))=[]\/h.rd o c5 (ers idz ((cs.drop (l*e)).take ((k-l)*e))).length=some (ers idz ((cs.drop (l*e)).take ((k-l)*e)))):=by
     rintro c5 (rfl|⟨rfl,h0⟩)
     .rw[QV,QW];by_cases hle:l*e<(ers idz cs).length
      .right;rcases h5 with h5|h5
       .rw[h5]at hle;simp at hle
       .have:=zDA h5 (a:=l*e) (b:=((List.drop (l*e) (ers idz cs)).take ((k-l)*e)).length) (by simp;omega)
        rw[this];congr 1;rw[List.length_take];apply List.ext_getElem?;intro q;simp only[List.getElem?_take];split
        .split
         .rfl
         .omega
        .split
         .have:(List.drop (l*e) (ers idz cs)).length<=q:=by omega
          rw[List.getElem?_eq_none this]
         .rfl
      .left;rw[List.drop_eq_nil_of_le (by omega)];simp
     .left;rw[h0];rfl
    cases cap with
    |known c=>
     have kG:=h6 c rfl;rw[zG0];have hb:∀{x:Option PV} {d q:Nat},d=len->qN x d len=some q->qJ (x.map (er ι)) d c=some q:=by
      intro x d q hd hq;cases x with
      |none=>exact hq
      |some x=>
       cases x<;>simp only[qN,Qb,reduceCtorEq]at hq
       split at hq
       .rename_i eX;cases hq;simp only[Option.map_some,er,qJ,zAz];rw[if_pos ⟨eX.1,by omega⟩]
       .cases hq
     rw[hb rfl h2];simp only[Option.bind_some];rw[qL h3];simp only[Option.bind_some,Option.isSome_none,Bool.false_eq_true,and_false,if_false];refine⟨rfl,.inr ⟨o,_,_,rfl,h4,?_,?_,by simp⟩,lI⟩
     .by_cases di:c=l
      .rw[if_pos di];exact bH _ (.inr ⟨rfl,by rw[show k-l=0 by omega,Nat.zero_mul]⟩)
      .rw[if_neg di];exact bH _ (.inl rfl)
     .intro c' iO;cases iO;omega
    |grown g=>
     simp only[Qe,Option.map_none];rw[qL h2];simp only[Option.bind_some];rw[qL h3];simp only[Option.bind_some];exact⟨rfl,.inr ⟨o,_,_,rfl,h4,bH _ (.inl rfl),(λc hc=>by cases hc),by simp⟩,lI⟩
end Go.Ab
set_option linter.unusedVariables false
set_option linter.unusedSimpArgs false
namespace Go.Ab
variable{P:Program}{ι ι':Nat->Nat}{Z Z':Nat->Prop}{h h':AHeap}{U σ':PHeap}{n n':Nat}
theorem ZO{op:BinOp}{b:Bool}{v:PV}(hv:pnil op b=some v):anil op b=some (er ι v)/\VOK Z h n v:=by
 cases op<;>simp only[pnil,reduceCtorEq]at hv<;>cases hv<;>exact⟨rfl,trivial⟩
theorem zA9{o:Option AV}{v:PV}(hv:o.map ofAV=some v):o=some (er ι v)/\VOK Z h n v:=by
 obtain⟨a,rfl,rfl⟩:=Option.map_eq_some_iff.1 hv;exact⟨by rw[zGF],VOK.ofAV a⟩
theorem zEA:∀{xs ys:List PV} {r:Bool},paggB xs ys=some r->aggB (ers ι xs) (ers ι ys)=some r
 |[],[],r,h=>h
 |[],y::ys,r,h=>by cases y<;>simp[paggB]at h
 |x::xs,[],r,h=>by cases x<;>simp[paggB]at h
 |x::xs,y::ys,r,h=>by
  cases x<;>cases y<;>simp only[paggB,reduceCtorEq]at h
  split at h
  .rename_i hk;obtain⟨r',hr,rfl⟩:=Option.map_eq_some_iff.1 h;simp only[ers,er,aggB,if_pos hk,zEA hr,Option.map_some]
  .cases h
theorem zK4{op:BinOp}{ek:EqK}{x y v:PV}(hx:VOK Z h n x)(hy:VOK Z h n y)(hv:pbin op ek x y=some v):abin op ek (er ι x) (er ι y)=some (er ι v)/\VOK Z h n v:=by
 cases x<;>cases y<;>simp only[pbin,reduceCtorEq]at hv
 case int.int k a k' b=>exact zA9 hv
 case str.str a b=>
  have:=zA9 (ι:=ι) (Z:=Z) (h:=h) (n:=n) hv
  exact⟨this.1,this.2⟩
 case bool.bool a b=>cases ek<;>simp only[reduceCtorEq]at hv;exact ZO hv
 case agg.agg xs ys=>
  cases ek<;>simp only[reduceCtorEq]at hv
  split at hv
  .rename_i hl;obtain⟨r,hr,hv⟩:=Option.bind_eq_some_iff.1 hv
   have:=ZO (ι:=ι) (Z:=Z) (h:=h) (n:=n) hv
   refine⟨?_,this.2⟩;simp only[er,abin,qG,if_pos hl,zEA hr,Option.bind_some];exact this.1
  .cases hv
 case nilp.nilp=>cases ek<;>simp only[reduceCtorEq]at hv;exact ZO hv
 case nilp.ptr=>cases ek<;>simp only[reduceCtorEq]at hv;exact ZO hv
 case ptr.nilp=>cases ek<;>simp only[reduceCtorEq]at hv;exact ZO hv
 case nilf.nilf=>cases ek<;>simp only[reduceCtorEq]at hv;exact ZO hv
 case nilf.clo=>cases ek<;>simp only[reduceCtorEq]at hv;exact ZO hv
 case clo.nilf=>cases ek<;>simp only[reduceCtorEq]at hv;exact ZO hv
 case fz.fz w a l cs w' a' l' dp=>
  cases ek<;>simp only[reduceCtorEq]at hv
  obtain⟨rfl,_⟩|⟨o,off,cap,rfl,_⟩:=hx.1<;>obtain⟨rfl,_⟩|⟨o',c5,fN,rfl,_⟩:=hy.1<;>simp only[Zv,if_true,Bool.false_eq_true,if_false,reduceCtorEq]at hv
  .exact ZO hv
  .exact ZO hv
  .exact ZO hv
 case sl.fz s off len cap w' a' l' dp=>
  cases ek<;>simp only[reduceCtorEq]at hv
  obtain⟨rfl,_⟩|⟨o',c5,fN,rfl,_⟩:=hy.1<;>simp only[Zv,if_true,Bool.false_eq_true,if_false,reduceCtorEq]at hv
  exact ZO hv
 case fz.sl w' a' l' dp s off len cap=>
  cases ek<;>simp only[reduceCtorEq]at hv
  obtain⟨rfl,_⟩|⟨o',c5,fN,rfl,_⟩:=hx.1<;>simp only[Zv,if_true,Bool.false_eq_true,if_false,reduceCtorEq]at hv
  exact ZO hv
theorem zML{op:UnOp}{x v:PV}(hv:pun op x=some v):aun op (er ι x)=some (er ι v)/\VOK Z h n v:=by
 cases x<;>simp only[pun,reduceCtorEq]at hv
 .exact zA9 hv
 .exact zA9 hv
theorem zHg{sz:Nat}{x i v:PV}(hx:VOK Z h n x)(hv:zCH sz x i=some v):ZL sz (er ι x) (er ι i)=some (er ι v)/\VOK Z h n v:=by
 cases x<;>cases i<;>simp only[zCH,reduceCtorEq]at hv
 case sl.int s off len cap k m=>
  split at hv
  .rename_i hc;cases hv;simp only[er,ZL];rw[if_pos hc];exact⟨rfl,hx⟩
  .cases hv
 case fz.int w a len cs k m=>
  split at hv
  .rename_i hc;cases hv;obtain⟨hf,eM⟩:=hx;rcases hf with ⟨rfl,rfl,_⟩|⟨o,off,cap,rfl,h1,h2,_⟩
   .omega
   .simp only[er,ZL,pAt];rw[if_pos hc];refine⟨rfl,⟨rfl,?_⟩,eM.drop _⟩;rw[QW];rcases h2 with h2|h2
    .left;rw[h2];simp
    .by_cases hl:m.toNat*sz<(ers idz cs).length
     .right;refine⟨_,_,rfl,h1,?_⟩;rw[zDA h2 (a:=m.toNat*sz) (b:=(List.drop (m.toNat*sz) (ers idz cs)).length) (by simp;omega),List.take_length]
     .left;exact List.drop_eq_nil_of_le (by omega)
  .cases hv
def RevOK(ι:Nat->Nat)(U:PHeap)(nb nr nb1:Nat):Prop:=∀k,k<nr->nb+k<U.next/\ι (nb+k)=nb1+k
theorem zHM(r:Rel ι Z U h){E:PEnv}(he:EOK Z h U.next E){nb nr nb1:Nat}(cL:RevOK ι U nb nr nb1){op:IOp}{v:PV}(hv:qp nb nr op E U=some v):
  qv nb1 op (erE ι E) h=some (er ι v)/\VOK Z h U.next v:=by
 cases op<;>simp only[qp,reduceCtorEq]at hv<;>simp only[qv,<-er_pv]
 case mv x=>cases hv;exact⟨rfl,he.pv x⟩
 case pick c a b=>
  have hc:=he.pv c
  revert hv;generalize c.pv E=c';intro hv
  cases c'<;>simp only[pPick,reduceCtorEq]at hv
  cases hv;simp only[er,aPick];split
  .exact⟨rfl,he.pv a⟩
  .exact⟨rfl,he.pv b⟩
 case bin o k x y=>exact zK4 (he.pv x) (he.pv y) hv
 case un o x=>exact zML hv
 case conv k x=>
  revert hv;generalize x.pv E=x';intro hv
  cases x'<;>simp only[pConv,reduceCtorEq]at hv
  cases hv;exact⟨rfl,trivial⟩
 case nilCheck x=>
  have hx:=he.pv x
  revert hv hx;generalize x.pv E=x';intro hv hx
  cases x'<;>simp only[pNil,reduceCtorEq]at hv
  .rename_i a cs;split at hv
   .cases hv
   .rename_i ai;cases hv;obtain⟨⟨h0,h1⟩,h2⟩:=hx;rcases h1 with h1|⟨o,i,rfl,h3⟩
    .cases cs with
     |nil=>exact absurd rfl ai
     |cons c cs=>simp[ers]at h1
    .exact⟨rfl,⟨h0,.inr ⟨o,i,rfl,h3⟩⟩,h2⟩
  .cases hv;exact⟨rfl,hx⟩
  .cases hv;exact⟨rfl,hx⟩
 case build z ps=>
  obtain⟨cs,hf,rfl⟩:=Option.map_eq_some_iff.1 hv
  have:=zB6 (ι:=ι) (Z:=Z) (h:=h) (n:=U.next) (λp hp=>by obtain⟨q,_,rfl⟩:=List.mem_map.1 hp;exact he.pv _) (VOKs.ofAVs z) hf
  rw[Zh,List.map_map]at this;refine⟨?_,this.2⟩;have h2:(List.map ((λp:Nat×Nat×PV=>(p.1,p.2.1,er ι p.2.2)) ∘ λp:Nat×Nat×IX=>(p.1,p.2.1,p.2.2.pv E)) ps)=ps.map λp=>(p.1,p.2.1,er ι (p.2.2.pv E)):=rfl;rw[h2]at this;rw[this.1];rfl
 case field a k off x=>
  have hx:=he.pv x
  revert hv hx;generalize x.pv E=x';intro hv hx
  cases x'<;>simp only[zDH,reduceCtorEq]at hv
  rename_i cs;simp only[er,ZW];have eM:VOKs Z h U.next cs:=hx;cases a with
  |true=>
   simp only[if_true]at hv ⊢;cases hv;simp only[er,QV,QW];exact⟨trivial,(eM.drop _).take _⟩
  |false=>
   simp only[Bool.false_eq_true,if_false]at hv ⊢;rw[zAf,hv];exact⟨rfl,eM.get hv⟩
 case fieldAddr off x=>
  have hx:=he.pv x
  revert hv hx;generalize x.pv E=x';intro hv hx
  cases x'<;>simp only[zAG,reduceCtorEq]at hv
  .rename_i a cs;split at hv
   .cases hv
   .rename_i ai;cases hv;obtain⟨⟨h0,h1⟩,h2⟩:=hx;rcases h1 with h1|⟨o,i,rfl,h3,h4⟩
    .cases cs with
     |nil=>exact absurd rfl ai
     |cons c cs=>simp[ers]at h1
    .refine⟨rfl,⟨rfl,?_⟩,h2.drop _⟩;rw[QW];by_cases hl:off<(ers idz cs).length
     .right;refine⟨o,i+off,rfl,h3,?_⟩;rw[zDA h4 (a:=off) (b:=(List.drop off (ers idz cs)).length) (by simp;omega),List.take_length]
     .left;exact List.drop_eq_nil_of_le (by omega)
  .cases hv;exact⟨rfl,hx⟩
 case indexAddr sz x i=>exact zHg (he.pv x) hv
 case indexStr x i=>
  revert hv;generalize x.pv E=x';generalize i.pv E=i';intro hv
  cases x'<;>cases i'<;>simp only[zDp,reduceCtorEq]at hv
  split at hv
  .rename_i hc;obtain⟨c,iD,rfl⟩:=Option.map_eq_some_iff.1 hv;simp only[er,ZQ];rw[if_pos hc,iD];exact⟨rfl,trivial⟩
  .cases hv
 case extract x i=>
  have hx:=he.pv x
  revert hv hx;generalize x.pv E=x';intro hv hx
  cases x'<;>simp only[zCi,reduceCtorEq]at hv
  rename_i vs;simp only[er,qx];rw[zAf,hv];exact⟨rfl,VOKs.get (as:=vs) hx hv⟩
 case len x=>
  have hx:=he.pv x
  revert hv hx;generalize x.pv E=x';intro hv hx
  cases x'<;>simp only[pLen,plen,Option.map_none,Option.map_some,reduceCtorEq]at hv<;>cases hv
  .obtain⟨rfl,rfl,_⟩|⟨o,off,cap,rfl,_⟩:=hx.1<;>exact⟨rfl,trivial⟩
  .exact⟨rfl,trivial⟩
 case lenStr x=>
  revert hv;generalize x.pv E=x';intro hv
  cases x'<;>simp only[zDo,reduceCtorEq]at hv
  cases hv;exact⟨rfl,trivial⟩
 case cap x=>
  revert hv;generalize x.pv E=x';intro hv
  cases x'<;>(try (simp only[pCap,reduceCtorEq]at hv;done))
  case sl s off len cap=>
   simp only[pCap]at hv;cases cap<;>simp only[reduceCtorEq]at hv
   cases hv;exact⟨rfl,trivial⟩
  case fz w a l cs=>
   cases a<;>simp only[pCap,reduceCtorEq]at hv
   cases hv;exact⟨rfl,trivial⟩
 case slice sz x lo hi mx=>
  have:=zHR (ι:=ι) (he.pv x) hv
  simpa only[Option.map_map,Function.comp_def]using this
 case sliceStr x lo hi=>
  revert hv;generalize x.pv E=x';intro hv
  cases x'<;>simp only[zBq,reduceCtorEq]at hv
  simp only[Option.bind_eq_some_iff]at hv;obtain⟨k,h2,l,h3,hv⟩:=hv;cases hv;simp only[er,zAy];have e2:=qL (ι:=ι) h2;have e3:=qL (ι:=ι) h3;rw[Option.map_map]at e2 e3;simp only[Function.comp_def]at e2 e3;rw[e2];simp only[Option.bind_some];rw[e3];simp only[Option.bind_some];exact⟨trivial,trivial⟩
 case maxmin m x y=>
  revert hv;generalize x.pv E=x';generalize y.pv E=y';intro hv
  cases x'<;>cases y'<;>simp only[zCG,reduceCtorEq]at hv
  split at hv
  .rename_i hc;cases hv;simp only[er,ZE];rw[if_pos hc];exact⟨rfl,trivial⟩
  .cases hv
 case makeFunc f a b=>
  cases hv;simp only[er,zCO,er_pv];exact⟨trivial,he.pvs a,he.pvs b⟩
 case load a k x=>exact zCf r (he.pv x) hv
 case rev k=>
  split at hv
  .rename_i hk;cases hv;obtain⟨h1,h2⟩:=cL k hk;exact⟨by simp only[er];rw[h2],h1⟩
  .cases hv
 case revS k m=>
  split at hv
  .rename_i hk;cases hv;obtain⟨h1,h2⟩:=cL k hk;exact⟨by simp only[er];rw[h2],h1⟩
  .cases hv
def Up(ι:Nat->Nat)(Z:Nat->Prop)(U:PHeap)(h:AHeap)(K:PV->PHeap->Prop):AV->AHeap->Prop:=λv h'=>
 ∃pv σ' ι' Z',Rel ι' Z' σ' h'/\Aft ι Z U h ι' Z' σ' h'/\VOK Z' h' σ'.next pv/\v=er ι' pv/\K pv σ'
def zA(P:Program)(f:FuncId)(args:List PV)(U:PHeap)(K:PV->PHeap->Prop):Prop:=
 ∀(ι:Nat->Nat) (Z:Nat->Prop) (h:AHeap),Rel ι Z U h->VOKs Z h U.next args->ZI P f (ers ι args) h (Up ι Z U h K)
theorem zA.mono{f:FuncId}{args:List PV}{K K':PV->PHeap->Prop}(c:zA P f args U K)(hk:∀v σ',K v σ'->K' v σ'):zA P f args U K':=
 λι Z h r va=>(c ι Z h r va).mono λ_ _ ⟨pv,σ',ι',Z',a,b,d,e,k⟩=>⟨pv,σ',ι',Z',a,b,d,e,hk _ _ k⟩
def ep(P:Program)(op:IOp)(e:PEnv)(U:PHeap)(K:PV->PHeap->Prop):Prop:=
 match op with
 | .alloc z=>K (.ptr U.next 0) (U.new (ofAVs z))
 | .box x=>(x.pv e).cells.all PV.one=true/\K (.ptr U.next 0) (U.new (x.pv e).cells)
 | .buildSl sz len z ps=>optK (pfill (ofAVs (zeros z len)) (ps.map λp=>(p.1,p.2.1,p.2.2.pv e))) λcs=>K (.sl U.next 0 len (.known len)) (U.new cs)
 | .store n x v=>match x.pv e with
  | .ptr s i=>(v.pv e).cells.length=n/\optK (U.wr s i (v.pv e).cells) λσ'=>K .undef σ'
  |_=>False
 | .makeSl sz bytes z l c=>match l.pv e,c.pv e with
  | .int _ l,.int _ c=>(0<=l/\l<=c/\c*bytes<=140737488355328/\c<=9223372036854775807)/\K (.sl U.next 0 l.toNat (.known c.toNat)) (U.new (ofAVs (zeros z c.toNat)))
  |_,_=>False
 | .append sz bytes s x=>optK (ZZ sz bytes U (s.pv e) (x.pv e)) λp=>K p.1 p.2
 | .appendMk sz bytes z s n=>match s.pv e,n.pv e with
  | .fz _ .nils _ _,.int _ n=>(0<=n/\n*bytes<=140737488355328/\n<=4611686018427387904)/\if 0<n then K (.sl U.next 0 n.toNat (.grown sz)) (U.new (ofAVs (zeros z n.toNat)))else K (.fz true .nils 0 []) U
  | .sl s off len c,.int _ n=>(0<=n/\n*bytes<=140737488355328/\n<=4611686018427387904)/\optK (if 0<n then pgrow sz bytes U (.sl s off len c) (ofAVs (zeros z n.toNat)) n.toNat else(psame (.sl s off len c)).map λv=>(v,U)) λp=>K p.1 p.2
  |_,_=>False
 | .copy sz d s=>optK (pcopy sz U (d.pv e) (s.pv e)) λp=>K p.1 p.2
 | .call f args=>zA P f (args.map (·.pv e)) U K
 | .callV f args=>match f.pv e with
  | .clo f first bN=>okF P f=true/\zA P f (first++args.map (·.pv e)++bN) U K
  |_=>False
 |_=>False
def putι(ι:Nat->Nat)(s o:Nat):Nat->Nat:=λs'=>if s'=s then o else ι s'
theorem Rel.new(r:Rel ι Z U h){cs:List PV}(hv:VOKs Z h U.next cs):Rel (putι ι U.next h.next) Z (U.new cs) (h.new ⟨true,ers ι cs⟩)/\Aft ι Z U h (putι ι U.next h.next) Z (U.new cs) (h.new ⟨true,ers ι cs⟩):=by
 have ha:Aft ι Z U h (putι ι U.next h.next) Z (U.new cs) (h.new ⟨true,ers ι cs⟩):=
  ⟨by simp[PHeap.new],by simp[AHeap.new],λs hs=>by simp[putι,Nat.ne_of_lt hs],λo ho=>⟨ho,zCk (by have:=r.zlt o ho;omega) _⟩,λs hs hn=>by simp only[PHeap.new];rw[if_neg (by omega)];exact hn,
   λs ds hs ho=>by
    by_cases e:s=U.next
    .subst e;simp[putι]
    .simp only[PHeap.new,if_neg e]at ho;exact absurd (r.none_lt ho) (by omega)⟩
 refine⟨⟨r.hwf.new _,λo ho=>by have:=r.zlt o ho;simp only[AHeap.new];omega,by have:=r.top;simp only[PHeap.new,AHeap.new];omega,λs hs=>?_,λs ds hs=>?_,λs s' a b hs cw hi=>?_⟩,ha⟩
 .simp only[PHeap.new]at hs ⊢;rw[if_neg (by omega)];exact r.wf s (by omega)
 .simp only[PHeap.new]at hs;by_cases e:s=U.next
  .subst e;rw[if_pos rfl]at hs;cases hs;refine⟨?_,ha.voks hv,λhz=>?_⟩
   .rw[ha.ers hv];simp[putι,AHeap.new]
   .have:=r.zlt _ hz;simp[putι]at this
  .rw[if_neg e]at hs;obtain⟨h1,h2,h3⟩:=r.obj s ds hs;refine⟨?_,ha.voks h2,by simpa [putι,e]using h3⟩;rw[ha.ers h2];simp only[putι,if_neg e];rw[zCk (by have:=r.hwf.lt h1;omega)];exact h1
 .have ag:∀{t:Nat} {a:List PV},t≠U.next->(U.new cs).obj t=some a->U.obj t=some a:=λht hh=>by simpa [PHeap.new,ht]using hh
  by_cases e:s=U.next
  .by_cases e':s'=U.next
   .rw[e,e']
   .obtain⟨h1,_⟩:=r.obj s' b (ag e' cw)
    have:=r.hwf.lt h1
    subst e;simp[putι,e']at hi;omega
  .by_cases e':s'=U.next
   .obtain⟨h1,_⟩:=r.obj s a (ag e hs)
    have:=r.hwf.lt h1
    subst e';simp[putι,e]at hi;omega
   .simp only[putι,if_neg e,if_neg e']at hi;exact r.inj s s' a b (ag e hs) (ag e' cw) hi
theorem Rel.set(r:Rel ι Z U h){s:Nat}{cs ds:List PV}(hs:U.obj s=some cs)(hv:VOKs Z h U.next ds):Rel ι Z (U.set s ds) (h.set (ι s) (ers ι ds))/\Aft ι Z U h ι Z (U.set s ds) (h.set (ι s) (ers ι ds)):=by
 obtain⟨h1,h2,h3⟩:=r.obj s cs hs;have ha:Aft ι Z U h ι Z (U.set s ds) (h.set (ι s) (ers ι ds)):=
  ⟨vH _,vH _,λ_ _=>rfl,λo ho=>⟨ho,zCW (λe=>h3 (by rw[<-e];exact ho)) _⟩,λt ht hn=>by
   simp only[PHeap.set];rw[if_neg (λe=>by subst e;rw[hs]at hn;cases hn)];exact hn,λt ds ht ho=>by
   have:=r.none_lt hs
   simp only[PHeap.set]at ho;rw[if_neg (by omega)]at ho;exact absurd (r.none_lt ho) (by omega)⟩
 refine⟨⟨r.hwf.set (r.hwf.lt h1) _,r.zlt,r.top,λt ht=>?_,λt as ht=>?_,λt t' a b ht cg hi=>?_⟩,ha⟩
 .have ai:t≠s:=λe=>by subst e;rw[r.wf t ht]at hs;cases hs
  simp only[PHeap.set,if_neg ai];exact r.wf t ht
 .simp only[PHeap.set]at ht;by_cases e:t=s
  .subst e;rw[if_pos rfl]at ht;cases ht;exact⟨zCX _ _,ha.voks hv,h3⟩
  .rw[if_neg e]at ht;obtain⟨g1,g2,g3⟩:=r.obj t as ht;exact⟨by rw[zCW (λe'=>e (r.inj t s as cs ht hs e'))];exact g1,ha.voks g2,g3⟩
 .have conv:∀{t:Nat} {a:List PV},(U.set s ds).obj t=some a->∃a',U.obj t=some a':=λ{t a} ht=>by
   simp only[PHeap.set]at ht;by_cases e:t=s
   .subst e;exact⟨_,hs⟩
   .rw[if_neg e]at ht;exact⟨_,ht⟩
  obtain⟨a',mM⟩:=conv ht;obtain⟨b',iF⟩:=conv cg;exact r.inj t t' a' b' mM iF hi
theorem Rel.kill(r:Rel ι Z U h){s:Nat}{cs:List PV}(hs:U.obj s=some cs):Rel ι Z (U.kill s) (h.kill (ι s))/\Aft ι Z U h ι Z (U.kill s) (h.kill (ι s)):=by
 obtain⟨h1,h2,h3⟩:=r.obj s cs hs;have ha:Aft ι Z U h ι Z (U.kill s) (h.kill (ι s)):=
  ⟨vH _,vH _,λ_ _=>rfl,λo ho=>⟨ho,zEH (λe=>h3 (by rw[<-e];exact ho))⟩,λt ht hn=>by
   simp only[PHeap.kill];split;rfl;exact hn,λt ds ht ho=>by
   simp only[PHeap.kill]at ho;split at ho;cases ho;exact absurd (r.none_lt ho) (by omega)⟩
 have conv:∀{t:Nat} {a:List PV},(U.kill s).obj t=some a->t≠s/\U.obj t=some a:=λ{t a} ht=>by
  simp only[PHeap.kill]at ht;split at ht
  .cases ht
  .exact⟨by assumption,ht⟩
 refine⟨⟨r.hwf.kill _,r.zlt,r.top,λt ht=>?_,λt as ht=>?_,λt t' a b ht cg hi=>r.inj t t' a b (conv ht).2 (conv cg).2 hi⟩,ha⟩
 .simp only[PHeap.kill];split
  .rfl
  .exact r.wf t ht
 .obtain⟨e,ht⟩:=conv ht
  obtain⟨g1,g2,g3⟩:=r.obj t as ht;exact⟨by rw[zEH (λe'=>e (r.inj t s as cs ht hs e'))];exact g1,ha.voks g2,g3⟩
theorem zDB(r:Rel ι Z U h){s i:Nat}{vs:List PV}(hv:VOKs Z h U.next vs)(hw:U.wr s i vs=some σ'):
  ∃h',h.wr (ι s) i (ers ι vs)=some h'/\Rel ι Z σ' h'/\Aft ι Z U h ι Z σ' h':=by
 simp only[PHeap.wr,Option.bind_eq_some_iff]at hw;obtain⟨cs,hs,hw⟩:=hw;split at hw
 .rename_i hc;cases hw;obtain⟨h1,h2,h3⟩:=r.obj s cs hs;obtain⟨r',a'⟩:=r.set hs (((h2.take i).append hv).append (h2.drop (i+vs.length)));refine⟨_,?_,r',a'⟩;rw[zRH h1 (by rw[qG,qG];exact hc.1) (by rw[zDw hv];exact hc.2)];rw[Zx,Zx,QV,QW,qG]
 .cases hw
theorem zCe{x:PV}(hx:VOK Z h n x){m:Nat}(hm:plen x=some m):alen (er ι x)=some m:=by
 cases x<;>simp only[plen,reduceCtorEq]at hm<;>cases hm
 .obtain⟨rfl,rfl,_⟩|⟨o,off,cap,rfl,_⟩:=hx.1<;>rfl
 .rfl
theorem zDG(r:Rel ι Z U h){e:Nat}{x:PV}(hx:VOK Z h U.next x){m:Nat}{cs:List PV}(hv:QA e U x m=some cs):zCS e h (er ι x) m=some (ers ι cs)/\VOKs Z h U.next cs:=by
 unfold QA at hv;unfold zCS;split at hv
 .rename_i h0;cases hv;rw[if_pos h0];exact⟨rfl,trivial⟩
 .rename_i h0;rw[if_neg h0];split at hv
  .rename_i s off len cap;split at hv
   .rename_i hl;simp only[er];rw[if_pos hl];exact zF2 r hv
   .cases hv
  .rename_i w a len cs;split at hv
   .rename_i hl;cases hv;obtain⟨hf,hc⟩:=hx;have iO:=(hc.take (m*e)).up (Nat.zero_le U.next);simp only[er];rcases hf with ⟨rfl,rfl,_⟩|⟨o,off,cap,rfl,h1,h2,_⟩
    .omega
    .simp only;rw[if_pos hl.1,zBB (ι:=ι) (hc.take _),QV];refine⟨?_,iO⟩;rcases h2 with h2|h2
     .have:=hl.2.1
      have h3:cs.length=0:=by rw[<-qG (ι:=idz),h2];rfl
      have:=Nat.mul_pos (Nat.pos_of_ne_zero h0) hl.2.2
      omega
     .have:=zDA h2 (a:=0) (b:=m*e) (by rw[qG];omega)
      simpa using this
   .cases hv
  .cases hv
theorem zD9(r:Rel ι Z U h){e bytes:Nat}{s:PV}(hs:VOK Z h U.next s){news:List PV}(hn:VOKs Z h U.next news){m:Nat}{p:PV×PHeap}(hv:pgrow e bytes U s news m=some p):
  ∃q,agrow e bytes h (er ι s) (ers ι news) m=some q/\∃ι' Z',Rel ι' Z' p.2 q.2/\Aft ι Z U h ι' Z' p.2 q.2/\VOK Z' q.2 p.2.next p.1/\q.1=er ι' p.1:=by
 unfold pgrow at hv;split at hv
 ·-- nil
  split at hv
  .rename_i hc;cases hv;obtain⟨r',a'⟩:=r.new hn;simp only[er,agrow];rw[if_pos hc];exact⟨_,rfl,_,_,r',a',Nat.lt_succ_self _,by simp[er,putι]⟩
  .cases hv
 ·-- frozen, full
  rename_i w o off l c len cs;split at hv
  .rename_i hc;cases hv;obtain⟨hf,eM⟩:=hs;have uP:=eM.up (Nat.zero_le U.next);obtain⟨r',a'⟩:=r.new (uP.append hn);rcases hf with ⟨hf,_⟩|⟨o',c5,fN,he,h1,h2,h3,h4⟩
   .cases hf
   cases he;simp only[er,agrow];rw[if_neg (by omega),if_pos hc.2.2.2]
   have:h.rd o off (l*e)=some (ers ι cs):=by
    rw[zBB (ι:=ι) eM];rcases h2 with h2|h2
    .have gH:cs=[]:=List.eq_nil_of_length_eq_zero (by rw[<-qG (ι:=idz),h2];rfl);subst gH;rcases hc.2.1 with hw|hw
     .obtain⟨rfl,ho⟩:=h4 hw;rw[<-hc.2.2.1,zBp ho (by simp)];rfl
     .simp at hw
    .rw[qG,hc.2.2.1]at h2;exact h2
   rw[this,Option.map_some,<-Zx];exact⟨_,rfl,_,_,r',a',Nat.lt_succ_self _,by simp[er,putι]⟩
  .cases hv
 .rename_i s off len c;simp only[er,agrow];split at hv
  .rename_i hc;rw[if_pos hc];obtain⟨σ',hw,rfl⟩:=Option.map_eq_some_iff.1 hv;obtain⟨h',kd,r',a'⟩:=zDB r hn hw;rw[kd];exact⟨_,rfl,_,_,r',a',a'.vok hs,rfl⟩
  .rename_i hc;rw[if_neg hc];split at hv
   .rename_i iD;rw[if_pos iD];obtain⟨cX,ho,rfl⟩:=Option.map_eq_some_iff.1 hv;obtain⟨h1,h2⟩:=zF2 r ho;obtain⟨r',a'⟩:=r.new (h2.append hn);rw[h1,Option.map_some,<-Zx];exact⟨_,rfl,_,_,r',a',Nat.lt_succ_self _,by simp[er,putι]⟩
   .cases hv
 .rename_i s off len g;simp only[er,agrow];split at hv
  .rename_i hc;rw[if_pos hc];simp only[Option.bind_eq_some_iff]at hv;obtain⟨cs,cw,hv⟩:=hv;split at hv
   .rename_i hl;cases hv;obtain⟨h1,h2,h3⟩:=r.obj s cs cw;obtain⟨r1,a1⟩:=r.kill cw;obtain⟨r2,a2⟩:=r1.new (a1.voks (((h2.drop off).take (len*e)).append hn));rw[h1];simp only[Option.bind_some];rw[if_pos ⟨trivial,by rw[qG];exact hl⟩,<-QW,<-QV,<-Zx];exact⟨_,rfl,_,_,r2,a1.trans a2,Nat.lt_succ_self _,by simp[er,putι,PHeap.kill,AHeap.kill]⟩
   .cases hv
  .cases hv
 .cases hv
theorem zD8{s v:PV}(hs:VOK Z h n s)(hv:psame s=some v):asame (er ι s)=some (er ι v)/\VOK Z h n v:=by
 unfold psame at hv;split at hv
 .cases hv;exact⟨rfl,.inl ⟨rfl,rfl,rfl⟩,trivial⟩
 .split at hv
  .rename_i hc;cases hv;simp only[er,asame];rw[if_pos hc];exact⟨rfl,hs⟩
  .cases hv
 .cases hv;exact⟨rfl,hs⟩
 .rename_i w o off l c len cs;cases hv;have cw:=hs;obtain⟨hf,_⟩:=hs;rcases hf with ⟨hf,_⟩|⟨o',c5,fN,he,h1,h2,h3,_⟩
  .cases hf
  cases he;simp only[er];cases c with
  |known c=>simp only[asame];rw[if_pos (h3 c rfl)];exact⟨rfl,cw⟩
  |grown g=>exact⟨rfl,cw⟩
 .cases hv
theorem zGo(r:Rel ι Z U h){e bytes:Nat}{s x:PV}(hs:VOK Z h U.next s)(hx:VOK Z h U.next x){p:PV×PHeap}(hv:ZZ e bytes U s x=some p):
  ∃q,zBQ e bytes h (er ι s) (er ι x)=some q/\∃ι' Z',Rel ι' Z' p.2 q.2/\Aft ι Z U h ι' Z' p.2 q.2/\VOK Z' q.2 p.2.next p.1/\q.1=er ι' p.1:=by
 simp only[ZZ,Option.bind_eq_some_iff]at hv;obtain⟨m,hm,hv⟩:=hv;simp only[zBQ];rw[zCe hx hm];simp only[Option.bind_some];split at hv
 .rename_i h0;rw[if_pos h0];obtain⟨v,dj,rfl⟩:=Option.map_eq_some_iff.1 hv;obtain⟨h1,h2⟩:=zD8 (ι:=ι) hs dj;rw[h1];exact⟨_,rfl,_,_,r,Aft.refl r,h2,rfl⟩
 .rename_i h0;rw[if_neg h0];simp only[Option.bind_eq_some_iff]at hv;obtain⟨news,hn,hv⟩:=hv;obtain⟨h1,h2⟩:=zDG r hx hn;rw[h1];exact zD9 r hs h2 hv
theorem zI9(r:Rel ι Z U h){e:Nat}{d s:PV}(hd:VOK Z h U.next d)(hs:VOK Z h U.next s){p:PV×PHeap}(hv:pcopy e U d s=some p):
  ∃q,acopy e h (er ι d) (er ι s)=some q/\∃ι' Z',Rel ι' Z' p.2 q.2/\Aft ι Z U h ι' Z' p.2 q.2/\VOK Z' q.2 p.2.next p.1/\q.1=er ι' p.1:=by
 simp only[pcopy,Option.bind_eq_some_iff]at hv;obtain⟨m,hm,k,hk,hv⟩:=hv;simp only[acopy];rw[zCe hd hm,zCe hs hk];simp only[Option.bind_some];split at hv
 .rename_i h0;rw[if_pos h0];cases hv;exact⟨_,rfl,_,_,r,Aft.refl r,trivial,rfl⟩
 .rename_i h0;rw[if_neg h0];split at hv
  .rename_i o off len cap;simp only[Option.bind_eq_some_iff]at hv;obtain⟨cs,hc,hv⟩:=hv;obtain⟨σ',hw,rfl⟩:=Option.map_eq_some_iff.1 hv;obtain⟨h1,h2⟩:=zDG r hs hc;obtain⟨h',kd,r',a'⟩:=zDB r h2 hw;simp only[er];rw[h1];simp only[Option.bind_some];rw[kd];exact⟨_,rfl,_,_,r',a',trivial,rfl⟩
  .cases hv
theorem zEk(r:Rel ι Z U h){E:PEnv}(he:EOK Z h U.next E){op:IOp}{K:PV->PHeap->Prop}(hk:ep P op E U K):eff P op (erE ι E) h (Up ι Z U h K):=by
 have mk:∀{v:PV} {σ':PHeap} {ι':Nat->Nat} {Z':Nat->Prop} {h':AHeap},Rel ι' Z' σ' h'->Aft ι Z U h ι' Z' σ' h'->VOK Z' h' σ'.next v->K v σ'->Up ι Z U h K (er ι' v) h':=λa b c d=>⟨_,_,_,_,a,b,c,rfl,d⟩
 have nw:∀{cs:List PV} {v:PV} ,VOKs Z h U.next cs->(∀ι',VOK Z (h.new ⟨true,ers ι cs⟩) (U.next+1) v/\(ι' U.next=h.next->er ι' v=er (putι ι U.next h.next) v))->K v (U.new cs)->Up ι Z U h K (er (putι ι U.next h.next) v) (h.new ⟨true,ers ι cs⟩):=λhc hv hk=>by
  obtain⟨r',a'⟩:=r.new hc;exact⟨_,_,_,_,r',a',(hv (putι ι U.next h.next)).1,rfl,hk⟩
 cases op<;>simp only[ep]at hk<;>simp only[eff,<-er_pv]<;>(try (exact hk.elim))
 case alloc z=>
  obtain⟨r',a'⟩:=r.new (VOKs.ofAVs z);rw[Zh]at r' a';exact⟨_,_,_,_,r',a',Nat.lt_succ_self _,by simp[er,putι],hk⟩
 case box x=>
  have hx:=(he.pv x).cells;obtain⟨r',a'⟩:=r.new hx;rw[zEh (he.pv x)];exact⟨by rw[zDw hx];exact hk.1,_,_,_,_,r',a',Nat.lt_succ_self _,by simp[er,putι],hk.2⟩
 case buildSl sz len z ps=>
  obtain⟨cs,hf,hk⟩:=hk
  have:=zB6 (ι:=ι) (Z:=Z) (h:=h) (n:=U.next) (λp hp=>by obtain⟨q,_,rfl⟩:=List.mem_map.1 hp;exact he.pv _) (VOKs.ofAVs (zeros z len)) hf
  rw[Zh,List.map_map]at this;have h2:(List.map ((λp:Nat×Nat×PV=>(p.1,p.2.1,er ι p.2.2)) ∘ λp:Nat×Nat×IX=>(p.1,p.2.1,p.2.2.pv E)) ps)=ps.map λp=>(p.1,p.2.1,er ι (p.2.2.pv E)):=rfl;rw[h2]at this;obtain⟨r',a'⟩:=r.new this.2;exact⟨_,this.1,_,_,_,_,r',a',Nat.lt_succ_self _,by simp[er,putι],hk⟩
 case store k x v=>
  have hx:=he.pv x
  revert hk hx;generalize x.pv E=x';intro hk hx
  cases x'<;>simp only at hk
  rename_i s i;obtain⟨hl,σ',hw,hk⟩:=hk;obtain⟨h',kd,r',a'⟩:=zDB r (he.pv v).cells hw;simp only[er];rw[zEh (he.pv v)];exact⟨by rw[qG];exact hl,_,kd,.undef,_,_,_,r',a',trivial,rfl,hk⟩
 case makeSl sz bytes z l c=>
  revert hk;generalize l.pv E=l';generalize c.pv E=c';intro hk
  cases l'<;>cases c'<;>simp only at hk
  obtain⟨hc,hk⟩:=hk;simp only[er];rename_i k1 l k2 c;obtain⟨r',a'⟩:=r.new (VOKs.ofAVs (zeros z c.toNat));rw[Zh]at r' a';exact⟨hc,_,_,_,_,r',a',Nat.lt_succ_self _,by simp[er,putι],hk⟩
 case appendMk sz bytes z s n=>
  have hs:=he.pv s
  revert hk hs;generalize s.pv E=s';generalize n.pv E=n';intro hk hs
  cases s'<;>cases n'<;>(try (simp only at hk;done))
  .rename_i w1 a1 l1 c1 k2 n;cases a1 with
   |nils=>
    obtain⟨hc,hk⟩:=hk;simp only[er];refine⟨hc,?_⟩;by_cases h0:0<n
    .rw[if_pos h0]at hk ⊢;obtain⟨r',a'⟩:=r.new (VOKs.ofAVs (zeros z n.toNat));rw[Zh]at r' a';exact⟨_,_,_,_,r',a',Nat.lt_succ_self _,by simp[er,putι],hk⟩
    .rw[if_neg h0]at hk ⊢;exact⟨.fz true .nils 0 [],_,_,_,r,Aft.refl r,(show VOK Z h U.next (.fz true .nils 0 []) from⟨.inl ⟨rfl,rfl,rfl⟩,trivial⟩),rfl,hk⟩
   |_=>simp only at hk
  .rename_i s1 ye l1 c1 k2 n;obtain⟨hc,p,hp,hk⟩:=hk;simp only[er];by_cases h0:0<n
   .rw[if_pos h0]at hp ⊢;have hz:VOKs Z h U.next (ofAVs (zeros z n.toNat)):=VOKs.ofAVs _;obtain⟨q,hq,ι',Z',r',a',hv,e⟩:=zD9 r hs hz hp;rw[Zh]at hq;exact⟨hc,q,hq,_,_,_,_,r',a',hv,e,hk⟩
   .rw[if_neg h0]at hp ⊢;obtain⟨v,dj,rfl⟩:=Option.map_eq_some_iff.1 hp;obtain⟨h1,h2⟩:=zD8 (ι:=ι) hs dj;simp only[er]at h1;rw[h1];exact⟨hc,_,rfl,_,_,_,_,r,Aft.refl r,h2,rfl,hk⟩
 case append sz bytes s x=>
  obtain⟨p,hp,hk⟩:=hk;obtain⟨q,hq,ι',Z',r',a',hv,e⟩:=zGo r (he.pv s) (he.pv x) hp;exact⟨q,hq,_,_,_,_,r',a',hv,e,hk⟩
 case copy sz s x=>
  obtain⟨p,hp,hk⟩:=hk;obtain⟨q,hq,ι',Z',r',a',hv,e⟩:=zI9 r (he.pv s) (he.pv x) hp;exact⟨q,hq,_,_,_,_,r',a',hv,e,hk⟩
 case call f args=>
  have:=hk ι Z h r (he.pvs args)
  rw[zCO]at this;simpa only[<-er_pv]using this
 case callV f args=>
  have hx:=he.pv f
  revert hk hx;generalize f.pv E=f';intro hk hx
  cases f'<;>simp only at hk
  rename_i f first bN
  obtain⟨h1,h2⟩:=hk
  have:=h2 ι Z h r ((hx.1.append (he.pvs args)).append hx.2)
  rw[Zx,Zx,zCO]at this;simp only[er];exact⟨h1,by simpa only[<-er_pv]using this⟩
end Go.Ab
set_option linter.unusedVariables false
set_option linter.unusedSimpArgs false
namespace Go.Ab
variable{ι:Nat->Nat}{Z Z':Nat->Prop}{h:AHeap}{U σ':PHeap}{n n':Nat}
mutual
def Bel(n:Nat):PV->Prop
 | .ptr s _=>s<n
 | .sl s _ _ _=>s<n
 | .clo _ a b=>Bels n a/\Bels n b
 | .agg cs=>Bels n cs
 | .tup cs=>Bels n cs
 |_=>True
def Bels(n:Nat):List PV->Prop
 |[]=>True
 |c::cs=>Bel n c/\Bels n cs
end
theorem zEu:∀{cs:List PV},Bels n cs↔∀c∈cs,Bel n c
 |[]=>by simp[Bels]
 |c::cs=>by simp[Bels,zEu (cs:=cs)]
mutual
theorem VOK.bel:∀{v:PV},VOK Z h n v->Bel n v
 | .undef,_ | .bool _,_ | .int _ _,_ | .str _,_ | .nilp,_ | .nilf,_ | .fz _ _ _ _,_ | .fp _ _,_=>trivial
 | .ptr _ _,hv=>hv
 | .sl _ _ _ _,hv=>hv
 | .clo _ a b,hv=>⟨VOKs.bel hv.1,VOKs.bel hv.2⟩
 | .agg cs,hv=>VOKs.bel (cs:=cs) hv
 | .tup cs,hv=>VOKs.bel (cs:=cs) hv
theorem VOKs.bel:∀{cs:List PV},VOKs Z h n cs->Bels n cs
 |[],_=>trivial
 |c::cs,hv=>⟨VOK.bel hv.1,VOKs.bel hv.2⟩
end
mutual
theorem VOK.of_bel:∀{v:PV},VOK Z h n v->Bel n' v->VOK Z h n' v
 | .undef,_,_ | .bool _,_,_ | .int _ _,_,_ | .str _,_,_ | .nilp,_,_ | .nilf,_,_=>trivial
 | .fz _ _ _ _,hv,_=>hv
 | .fp _ _,hv,_=>hv
 | .ptr _ _,_,hb=>hb
 | .sl _ _ _ _,_,hb=>hb
 | .clo _ a b,hv,hb=>⟨VOKs.of_bel hv.1 hb.1,VOKs.of_bel hv.2 hb.2⟩
 | .agg cs,hv,hb=>VOKs.of_bel (cs:=cs) hv hb
 | .tup cs,hv,hb=>VOKs.of_bel (cs:=cs) hv hb
theorem VOKs.of_bel:∀{cs:List PV},VOKs Z h n cs->Bels n' cs->VOKs Z h n' cs
 |[],_,_=>trivial
 |c::cs,hv,hb=>⟨VOK.of_bel hv.1 hb.1,VOKs.of_bel hv.2 hb.2⟩
end
mutual
theorem Bel.up(hn:n<=n'):∀{v:PV},Bel n v->Bel n' v
 | .undef,_ | .bool _,_ | .int _ _,_ | .str _,_ | .nilp,_ | .nilf,_ | .fz _ _ _ _,_ | .fp _ _,_=>trivial
 | .ptr _ _,hv=>Nat.lt_of_lt_of_le hv hn
 | .sl _ _ _ _,hv=>Nat.lt_of_lt_of_le hv hn
 | .clo _ a b,hv=>⟨Bels.up hn hv.1,Bels.up hn hv.2⟩
 | .agg cs,hv=>Bels.up (cs:=cs) hn hv
 | .tup cs,hv=>Bels.up (cs:=cs) hn hv
theorem Bels.up(hn:n<=n'):∀{cs:List PV},Bels n cs->Bels n' cs
 |[],_=>trivial
 |c::cs,hv=>⟨Bel.up hn hv.1,Bels.up hn hv.2⟩
end
structure PWF(U:PHeap):Prop where
 wf:∀s,U.next<=s->U.obj s=none
 bel:∀s cs,U.obj s=some cs->Bels U.next cs
theorem Rel.pwf(r:Rel ι Z U h):PWF U:=⟨r.wf,λs cs hs=>(r.obj s cs hs).2.1.bel⟩
theorem PWF.lt(w:PWF U){s:Nat}{cs:List PV}(hs:U.obj s=some cs):s<U.next:=by
 rcases Nat.lt_or_ge s U.next with x|x
 .exact x
 .rw[w.wf s x]at hs;cases hs
def capOK:Cap->Nat->Bool
 | .known c,l=>decide (l<=c)
 | .grown _,_=>true
mutual
def sb(s o:Nat)(cs:List PV):PV->PV
 | .sl s' off l cap=>if s'=s/\off=0/\capOK cap l=true then .fz true (.sl o 0 l cap) l cs else .sl s' off l cap
 | .clo f a b=>.clo f (sbs s o cs a) (sbs s o cs b)
 | .agg vs=>.agg (sbs s o cs vs)
 | .tup vs=>.tup (sbs s o cs vs)
 |v=>v
def sbs(s o:Nat)(cs:List PV):List PV->List PV
 |[]=>[]
 |v::vs=>sb s o cs v::sbs s o cs vs
end
mutual
theorem er_sb{s o:Nat}{cs:List PV}(ho:o=ι s):∀v:PV,er ι (sb s o cs v)=er ι v
 | .undef | .bool _ | .int _ _ | .str _ | .nilp | .nilf | .fz _ _ _ _ | .fp _ _ | .ptr _ _=>rfl
 | .sl s' off l cap=>by
  simp only[sb];split
  .rename_i hc;simp only[er];rw[hc.1,hc.2.1,ho]
  .rfl
 | .clo f a b=>by simp only[sb,er,Qi ho a,Qi ho b]
 | .agg a=>by simp only[sb,er,Qi ho a]
 | .tup a=>by simp only[sb,er,Qi ho a]
theorem Qi{s o:Nat}{cs:List PV}(ho:o=ι s):∀vs:List PV,ers ι (sbs s o cs vs)=ers ι vs
 |[]=>rfl
 |v::vs=>by simp only[sbs,ers,er_sb ho v,Qi ho vs]
end
mutual
theorem VOK.sb{s o:Nat}{cs:List PV}(hz:Z o)(ho:h.obj o=some ⟨true,ers idz cs⟩)(hc:VOKs Z h 0 cs):∀{v:PV},VOK Z h n v->VOK Z h n (sb s o cs v)
 | .undef,_ | .bool _,_ | .int _ _,_ | .str _,_ | .nilp,_ | .nilf,_=>trivial
 | .fz _ _ _ _,hv | .fp _ _,hv | .ptr _ _,hv=>hv
 | .sl s' off l cap,hv=>by
  simp only[Go.Ab.sb];split
  .rename_i lI;refine⟨.inr ⟨o,0,cap,rfl,hz,.inr (zBY ho rfl),λc hk=>?_,λ_=>⟨rfl,ho⟩⟩,hc⟩;subst hk;simpa [capOK]using lI.2.2
  .exact hv
 | .clo f a b,hv=>⟨VOKs.sbs hz ho hc hv.1,VOKs.sbs hz ho hc hv.2⟩
 | .agg a,hv=>VOKs.sbs (vs:=a) hz ho hc hv
 | .tup a,hv=>VOKs.sbs (vs:=a) hz ho hc hv
theorem VOKs.sbs{s o:Nat}{cs:List PV}(hz:Z o)(ho:h.obj o=some ⟨true,ers idz cs⟩)(hc:VOKs Z h 0 cs):∀{vs:List PV},VOKs Z h n vs->VOKs Z h n (sbs s o cs vs)
 |[],_=>trivial
 |v::vs,hv=>⟨VOK.sb hz ho hc hv.1,VOKs.sbs hz ho hc hv.2⟩
end
theorem Rel.freeze(r:Rel ι Z U h){s:Nat}{cs:List PV}(hs:U.obj s=some cs)(hb:Bels 0 cs):
  (Rel ι (λo=>Z o\/o=ι s) ((U.kill s).up (max U.top (ι s+1))) h)/\VOKs Z h 0 cs/\h.obj (ι s)=some ⟨true,ers idz cs⟩/\¬Z (ι s):=by
 obtain⟨q1,q2,q3⟩:=r.obj s cs hs;have fS:VOKs Z h 0 cs:=q2.of_bel hb;have ag:=r.hwf.lt q1;have conv:∀{t:Nat} {a:List PV},(U.kill s).obj t=some a->t≠s/\U.obj t=some a:=λ{t a} ht=>by
  simp only[PHeap.kill]at ht;split at ht
  .cases ht
  .exact⟨by assumption,ht⟩
 refine⟨⟨r.hwf,?_,?_,λt ht=>?_,λt ds ht=>?_,λt t' ds pW ht cg he=>r.inj t t' ds pW (conv ht).2 (conv cg).2 he⟩,fS,by rw[<-zBB fS];exact q1,q3⟩
 .rintro o (ho|rfl)
  .exact r.zlt o ho
  .exact ag
 .have:=r.top
  simp only[PHeap.up];omega
 .simp only[PHeap.kill,PHeap.up];split
  .rfl
  .exact r.wf t ht
 .obtain⟨e,ht⟩:=conv ht
  obtain⟨p1,p2,p3⟩:=r.obj t ds ht;refine⟨p1,p2.mono (λo ho=>⟨.inl ho,rfl⟩) (vH _),?_⟩
  rintro(hz|hz)
  .exact p3 hz
  .exact e (r.inj t s ds cs ht hs hz)
def PHeap.sub(U:PHeap)(s o:Nat)(cs:List PV):PHeap:=⟨U.next,U.top,λt=>(U.obj t).map (sbs s o cs)⟩
theorem Rel.sub(r:Rel ι Z U h){s o:Nat}{cs:List PV}(hs:o=ι s)(hz:Z o)(ho:h.obj o=some ⟨true,ers idz cs⟩)(hc:VOKs Z h 0 cs):Rel ι Z (U.sub s o cs) h:=by
 have conv:∀{t:Nat} {a:List PV},(U.sub s o cs).obj t=some a->∃b,U.obj t=some b/\a=sbs s o cs b:=λ{t a} ht=>by
  simp only[PHeap.sub,Option.map_eq_some_iff]at ht;obtain⟨b,h1,h2⟩:=ht;exact⟨b,h1,h2.symm⟩
 refine⟨r.hwf,r.zlt,r.top,λt ht=>by simp only[PHeap.sub];rw[r.wf t ht];rfl,λt ds ht=>?_,λt t' ds pW ht cg he=>?_⟩
 .obtain⟨b,h1,rfl⟩:=conv ht
  obtain⟨p1,p2,p3⟩:=r.obj t b h1;exact⟨by rw[Qi hs];exact p1,VOKs.sbs hz ho hc p2,p3⟩
 .obtain⟨b,h1,_⟩:=conv ht
  obtain⟨b',jR,_⟩:=conv cg;exact r.inj t t' b b' h1 jR he
inductive GL(I:List PV->PHeap->Prop):List PV->PHeap->Prop where
 |here {vs:List PV} {h:PHeap} (k:I vs h):GL I vs h
 |fz {vs:List PV} {h:PHeap} (s:Nat) (cs:List PV) (hs:h.obj s=some cs) (hb:Bels 0 cs) (k:∀o,GL I (sbs s o cs vs) (h.kill s)):GL I vs h
 |fzh {vs:List PV} {h:PHeap} (s:Nat) (cs:List PV) (hs:h.obj s=some cs) (hb:Bels 0 cs) (k:∀o,GL I (sbs s o cs vs) ((h.kill s).sub s o cs)):GL I vs h
theorem GL.sound{I:List PV->PHeap->Prop}{vs:List PV}{U:PHeap}(g:GL I vs U):∀{ι:Nat->Nat} {Z:Nat->Prop} {h:AHeap},Rel ι Z U h->VOKs Z h U.next vs->
  ∃Z' σ' iS,Rel ι Z' σ' h/\Aft ι Z U h ι Z' σ' h/\VOKs Z' h σ'.next iS/\ers ι iS=ers ι vs/\I iS σ':=by
 induction g with
 |here k=>intro ι Z h r hv;exact⟨Z,_,_,r,Aft.refl r,hv,rfl,k⟩
 |fz s cs hs hb k ih=>
  rename_i vs U;intro ι Z h r hv;obtain⟨r',fS,ho,hz⟩:=r.freeze hs hb;have eZ:∀o,Z o->(Z o\/o=ι s)/\h.obj o=h.obj o:=λo ho=>⟨.inl ho,rfl⟩
  have r2:Rel ι (λo=>Z o\/o=ι s) (U.kill s) h:=⟨r'.hwf,r'.zlt,by have:=r.top;exact this,r'.wf,r'.obj,r'.inj⟩
  obtain⟨Z',σ',iS,q1,q2,q3,q4,q5⟩:=ih (ι s) r2 (VOKs.sbs (.inr rfl) ho (fS.mono eZ (vH _)) (hv.mono eZ (vH _)));have ha:Aft ι Z U h ι (λo=>Z o\/o=ι s) (U.kill s) h:=⟨vH _,vH _,λ_ _=>rfl,eZ,λt ht hn=>by simp only[PHeap.kill];split;rfl;exact hn,λt ds ht hd=>by
   simp only[PHeap.kill]at hd;split at hd;cases hd;exact absurd (r.none_lt hd) (by omega)⟩
  exact⟨Z',σ',iS,q1,ha.trans q2,q3,q4.trans (Qi rfl vs),q5⟩
 |fzh s cs hs hb k ih=>
  rename_i vs U;intro ι Z h r hv;obtain⟨r',fS,ho,hz⟩:=r.freeze hs hb;have eZ:∀o,Z o->(Z o\/o=ι s)/\h.obj o=h.obj o:=λo ho=>⟨.inl ho,rfl⟩
  have r2:Rel ι (λo=>Z o\/o=ι s) (U.kill s) h:=⟨r'.hwf,r'.zlt,by have:=r.top;exact this,r'.wf,r'.obj,r'.inj⟩
  have r3:=r2.sub (s:=s) rfl (.inr rfl) ho (fS.mono eZ (vH _));obtain⟨Z',σ',iS,q1,q2,q3,q4,q5⟩:=ih (ι s) r3 (VOKs.sbs (.inr rfl) ho (fS.mono eZ (vH _)) (hv.mono eZ (vH _)));have ha:Aft ι Z U h ι (λo=>Z o\/o=ι s) ((U.kill s).sub s (ι s) cs) h:=⟨vH _,vH _,λ_ _=>rfl,eZ,λt ht hn=>by simp only[PHeap.kill,PHeap.sub];split;rfl;rw[hn];rfl,λt ds ht hd=>by
   simp only[PHeap.kill,PHeap.sub]at hd;split at hd;cases hd;cases r6:U.obj t with
   |none=>rw[r6]at hd;cases hd
   |some b=>exact absurd (r.none_lt r6) (by omega)⟩
  exact⟨Z',σ',iS,q1,ha.trans q2,q3,q4.trans (Qi rfl vs),q5⟩
end Go.Ab
set_option linter.unusedVariables false
set_option linter.unusedSimpArgs false
namespace Go.Ab
variable{P:Program}{ι ι':Nat->Nat}{Z Z':Nat->Prop}{h h':AHeap}{U σ':PHeap}{n n':Nat}
def Q7(v:PV)(b:Bool)(x:Option PV):Option PV:=
 match v with
 | .bool c=>if c=b then x else some (.tup [])
 | .tup []=>some (.tup [])
 |_=>none
def Zi(v:PV)(b:Bool)(x y:Prop):Prop:=
 match v with
 | .bool c=>if c=b then x else y
 | .tup []=>y
 |_=>False
def Z6(v:PV)(a b:Prop):Prop:=
 match v with
 | .bool t=>if t=true then a else b
 |_=>False
def gqp(nb nr:Nat)(it:II)(e:PEnv)(U:PHeap):Option PV:=
 match it.guard with
 |none=>qp nb nr it.op e U
 |some (t,b)=>Q7 (e t) b (qp nb nr it.op e U)
def gep(P:Program)(it:II)(e:PEnv)(U:PHeap)(K:PV->PHeap->Prop):Prop:=
 match it.guard with
 |none=>ep P it.op e U K
 |some (t,b)=>Zi (e t) b (ep P it.op e U K) (K (.tup []) U)
def RVp(P:Program):List II->PEnv->PHeap->(PEnv->PHeap->Prop)->Prop
 |[],e,h,K=>K e h
 |it::r,e,h,K=>match it.q with
  |true=>optK (gqp 0 0 it e h) λv=>RVp P r (e.put it.dst v) h K
  |false=>gep P it e h λv h'=>RVp P r (e.put it.dst v) h' K
structure RecP where
 idx:Nat
 agg:Bool
 n:Nat
 x:PV
 v:PV
def zBC(g:Option (Nat×Bool))(e:PEnv):Bool:=
 match g with
 |none=>true
 |some (t,b)=>match e t with
  | .bool c=>decide (c=b)
  |_=>false
def qm(it:DI)(e:PEnv)(v:PV):List RecP:=
 match it.op with
 | .load agg n x=>if zBC it.guard e=true then [⟨it.idx,agg,n,x.pv e,v⟩]else []
 |_=>[]
def zAT(chk:List Nat):List RecP->PHeap->Prop
 |[],_=>True
 |r::rs,h=>(if chk.contains r.idx=true then pldv r.agg r.n r.x h=some r.v else True)/\zAT chk rs h
def DVp(P:Program)(nb nr:Nat):List DI->List RecP->PEnv->PHeap->(PEnv->PHeap->Prop)->Prop
 |[],_,e,h,K=>K e h
 |it::r,recs,e,h,K=>match it.q with
  |true=>optK (gqp nb nr it.toII e h) λv=>DVp P nb nr r (qm it e v++recs) (e.put it.dst v) h K
  |false=>gep P it.toII e h λv h'=>zAT it.chk recs h'/\DVp P nb nr r recs (e.put it.dst v) h' K
def vp(P:Program):IC->(Exit->PEnv->PHeap->Prop)->PEnv->PHeap->Prop
 | .skip,Q,e,h=>Q .normal e h
 | .region S aE,Q,e,h=>RVp P aE e h λe' h'=>Q .normal (PEnv.mk S (S.map e')) h'
 | .draw S zs aE,Q,e,h=>DVp P h.next zs.length aE [] e (h.news zs) λe' h'=>Q .normal (PEnv.mk S (S.map e')) h'
 | .seq a b,Q,e,h=>vp P a (λx e' h'=>match x with | .normal=>vp P b Q e' h'|x=>Q x e' h') e h
 | .cond c a b,Q,e,h=>Z6 (c.pv e) (vp P a Q e h) (vp P b Q e h)
 | .block id c,Q,e,h=>vp P c (λx e' h'=>match x with | .exit fO=>if fO=id then Q .normal e' h' else Q (.exit fO) e' h'|x=>Q x e' h') e h
 | .loop S c,Q,e,h=>∃I:Nat->List PV->PHeap->Prop,(∃n,GL (I n) (S.map e) h)/\
   ∀n vs h,I n vs h->vp P c (λx e' h'=>match x with | .normal=>∃n',n'<n/\GL (I n') (S.map e') h'|x=>Q x e' h') (PEnv.mk S vs) h
 | .exit id,Q,e,h=>Q (.exit id) e h
 | .ret,Q,e,h=>Q .ret e h
def Zt:List IRes->PEnv->PHeap->Option (List PV)
 |[],_,_=>some []
 | .tmp t::r,e,h=>(Zt r e h).map λvs=>e t::vs
 | .cell t agg n::r,e,h=>(pldv agg n (e t) h).bind λv=>(Zt r e h).map λvs=>v::vs
def packP:List PV->PV
 |[v]=>v
 |vs=>.tup vs
def retP(res:List IRes)(Q:PV->PHeap->Prop):Exit->PEnv->PHeap->Prop
 | .normal,e,h=>optK (Zt res e h) λvs=>Q (packP vs) h
 | .ret,e,h=>optK (Zt res e h) λvs=>Q (packP vs) h
 |_,_,_=>False
theorem zKR{op:IOp}{e:PEnv}{K K':PV->PHeap->Prop}(hm:∀v h',K v h'->K' v h')(hk:ep P op e U K):ep P op e U K':=by
 cases op<;>simp only[ep]at hk ⊢
 case alloc z=>exact hm _ _ hk
 case box x=>exact⟨hk.1,hm _ _ hk.2⟩
 case buildSl a b c ps=>obtain⟨x,y,z⟩:=hk;exact⟨x,y,hm _ _ z⟩
 case store n x v=>
  split at hk
  .obtain⟨x,y,z,u⟩:=hk;exact⟨x,y,z,hm _ _ u⟩
  .exact hk
 case makeSl a b z l c=>
  split at hk
  .exact⟨hk.1,hm _ _ hk.2⟩
  .exact hk
 case appendMk a b z l c=>
  split at hk
  .refine⟨hk.1,?_⟩;have h2:=hk.2;split at h2
   .rename_i hp;rw[if_pos hp];exact hm _ _ h2
   .rename_i hp;rw[if_neg hp];exact hm _ _ h2
  .obtain⟨x,y,z,u⟩:=hk;exact⟨x,y,z,hm _ _ u⟩
  .exact hk
 case append a b s x=>obtain⟨x,y,z⟩:=hk;exact⟨x,y,hm _ _ z⟩
 case copy a d s=>obtain⟨x,y,z⟩:=hk;exact⟨x,y,hm _ _ z⟩
 case call f a=>exact hk.mono hm
 case callV f a=>
  split at hk
  .exact⟨hk.1,hk.2.mono hm⟩
  .exact hk
theorem zH6{it:II}{e:PEnv}{K K':PV->PHeap->Prop}(hm:∀v h',K v h'->K' v h')(hk:gep P it e U K):gep P it e U K':=by
 obtain⟨dst,op,q,guard⟩:=it;cases guard with
 |none=>exact zKR hm hk
 |some g=>
  obtain⟨t,b⟩:=g;simp only[gep,Zi]at hk ⊢;split at hk
  .split at hk
   .rename_i h;rw[if_pos h];exact zKR hm hk
   .rename_i h;rw[if_neg h];exact hm _ _ hk
  .exact hm _ _ hk
  .exact hk
theorem zEr{K K':PEnv->PHeap->Prop}(hm:∀e h',K e h'->K' e h'):∀(aE:List II) {e:PEnv} {U:PHeap},RVp P aE e U K->RVp P aE e U K'
 |[],e,U,hk=>hm _ _ hk
 |it::aE,e,U,hk=>by
  simp only[RVp]at hk ⊢;split at hk
  .obtain⟨v,hv,hk⟩:=hk;exact⟨v,hv,zEr hm aE hk⟩
  .exact zH6 (λv h' k=>zEr hm aE k) hk
theorem zEt{nb nr:Nat}{K K':PEnv->PHeap->Prop}(hm:∀e h',K e h'->K' e h'):∀(aE:List DI) {recs:List RecP} {e:PEnv} {U:PHeap},DVp P nb nr aE recs e U K->DVp P nb nr aE recs e U K'
 |[],_,e,U,hk=>hm _ _ hk
 |it::aE,_,e,U,hk=>by
  simp only[DVp]at hk ⊢;split at hk
  .obtain⟨v,hv,hk⟩:=hk;exact⟨v,hv,zEt hm aE hk⟩
  .exact zH6 (λv h' k=>⟨k.1,zEt hm aE k.2⟩) hk
theorem zAV:∀(c:IC) {Q Q':Exit->PEnv->PHeap->Prop} {e:PEnv} {U:PHeap},(∀x e h,Q x e h->Q' x e h)->vp P c Q e U->vp P c Q' e U
 | .skip,Q,Q',e,U,hm,hk=>hm _ _ _ hk
 | .exit id,Q,Q',e,U,hm,hk=>hm _ _ _ hk
 | .ret,Q,Q',e,U,hm,hk=>hm _ _ _ hk
 | .region S aE,Q,Q',e,U,hm,hk=>zEr (λe h k=>hm _ _ _ k) aE hk
 | .draw S zs aE,Q,Q',e,U,hm,hk=>zEt (λe h k=>hm _ _ _ k) aE hk
 | .seq a b,Q,Q',e,U,hm,hk=>zAV a (λx e h k=>by cases x<;>first|exact zAV b hm k|exact hm _ _ _ k) hk
 | .cond c a b,Q,Q',e,U,hm,hk=>by
  simp only[vp,Z6]at hk ⊢;split at hk
  .split at hk
   .rename_i h;rw[if_pos h];exact zAV a hm hk
   .rename_i h;rw[if_neg h];exact zAV b hm hk
  .exact hk
 | .block id c,Q,Q',e,U,hm,hk=>zAV c (λx e h k=>by
   cases x with
   |exit fO=>
    dsimp only at k ⊢;split at k
    .rename_i h;rw[if_pos h];exact hm _ _ _ k
    .rename_i h;rw[if_neg h];exact hm _ _ _ k
   |_=>exact hm _ _ _ k) hk
 | .loop S c,Q,Q',e,U,hm,⟨I,h0,hr⟩=>⟨I,h0,λn vs h hI=>zAV c (λx e h k=>by cases x<;>first|exact k|exact hm _ _ _ k) (hr n vs h hI)⟩
def Rest(ι:Nat->Nat)(Z:Nat->Prop)(U:PHeap)(h:AHeap)(K:PEnv->PHeap->Prop)(K1:Env->AHeap->Prop):Prop:=
 ∀(E':PEnv) (σ':PHeap) (ι':Nat->Nat) (Z':Nat->Prop) (h':AHeap),Rel ι' Z' σ' h'->Aft ι Z U h ι' Z' σ' h'->EOK Z' h' σ'.next E'->K E' σ'->K1 (erE ι' E') h'
theorem Rest.later{σ':PHeap}{K:PEnv->PHeap->Prop}{K1:Env->AHeap->Prop}(c:Rest ι Z U h K K1)(a:Aft ι Z U h ι' Z' σ' h'):Rest ι' Z' σ' h' K K1:=
 λqk σ'' ι'' mU cD r b e k=>c qk σ'' ι'' mU cD r (a.trans b) e k
theorem zDQ(r:Rel ι Z U h){E:PEnv}(he:EOK Z h U.next E){nb nr nb1:Nat}(cL:RevOK ι U nb nr nb1){it:II}{v:PV}(hv:gqp nb nr it E U=some v):
  gq nb1 it (erE ι E) h=some (er ι v)/\VOK Z h U.next v:=by
 obtain⟨dst,op,q,guard⟩:=it;cases guard with
 |none=>exact zHM r he cL hv
 |some g=>
  obtain⟨t,b⟩:=g;simp only[gqp,gq,erE]at hv ⊢;cases ht:E t with
  |bool c=>
   rw[ht]at hv;simp only[Q7]at hv;simp only[er];split at hv
   .rename_i hc;rw[if_pos hc];exact zHM r he cL hv
   .rename_i hc;rw[if_neg hc];cases hv;exact⟨rfl,trivial⟩
  |tup cs=>
   rw[ht]at hv;cases cs with
   |nil=>cases hv;exact⟨rfl,trivial⟩
   |cons x cs=>simp only[Q7,reduceCtorEq]at hv
  |_=>rw[ht]at hv;simp only[Q7,reduceCtorEq]at hv
theorem zGZ(r:Rel ι Z U h){E:PEnv}(he:EOK Z h U.next E){it:II}{K:PV->PHeap->Prop}(hk:gep P it E U K):ge P it (erE ι E) h (Up ι Z U h K):=by
 obtain⟨dst,op,q,guard⟩:=it;cases guard with
 |none=>exact zEk r he hk
 |some g=>
  obtain⟨t,b⟩:=g;simp only[gep,ge,erE]at hk ⊢;cases ht:E t with
  |bool c=>
   rw[ht]at hk;simp only[Zi]at hk;simp only[er];split at hk
   .rename_i hc;rw[if_pos hc];exact zEk r he hk
   .rename_i hc;rw[if_neg hc];exact⟨.tup [],U,ι,Z,r,Aft.refl r,trivial,rfl,hk⟩
  |tup cs=>
   rw[ht]at hk;cases cs with
   |nil=>exact⟨.tup [],U,ι,Z,r,Aft.refl r,trivial,rfl,hk⟩
   |cons x cs=>simp only[Zi]at hk
  |_=>rw[ht]at hk;simp only[Zi]at hk
theorem zDd:∀(aE:List II) {ι:Nat->Nat} {Z:Nat->Prop} {U:PHeap} {h:AHeap} {E:PEnv} {K:PEnv->PHeap->Prop} {K1:Env->AHeap->Prop},Rel ι Z U h->EOK Z h U.next E->RVp P aE E U K->Rest ι Z U h K K1->RV P aE (erE ι E) h K1
 |[],ι,Z,U,h,E,K,K1,r,he,hk,hr=>hr E U ι Z h r (Aft.refl r) he hk
 |it::aE,ι,Z,U,h,E,K,K1,r,he,hk,hr=>by
  simp only[RVp,RV]at hk ⊢;split at hk
  .rename_i hq;simp only[hq];obtain⟨v,hv,hk⟩:=hk;obtain⟨h1,h2⟩:=zDQ r he (nb1:=0) (λk hk=>absurd hk (Nat.not_lt_zero _)) hv;refine⟨_,h1,?_⟩
   have:=zDd aE r (he.put h2 it.dst) hk hr
   rw[zBL]at this;exact this
  .rename_i hq;simp only[hq];refine zDv ?_ (zGZ r he hk)
   rintro v h' ⟨pv,σ',ι',Z',r',a',hv,rfl,cH⟩
   have:=zDd aE r' ((a'.eok he).put hv it.dst) cH (hr.later a')
   rw[zBL,a'.erE he]at this;exact this
def erR(ι:Nat->Nat)(r:RecP):Rec:=⟨r.idx,r.agg,r.n,er ι r.x,er ι r.v⟩
def ROK(Z:Nat->Prop)(h:AHeap)(n:Nat)(rs:List RecP):Prop:=∀r∈rs,VOK Z h n r.x/\VOK Z h n r.v
theorem Aft.rok{rs:List RecP}(a:Aft ι Z U h ι' Z' σ' h')(hr:ROK Z h U.next rs):ROK Z' h' σ'.next rs:=λr hm=>⟨a.vok (hr r hm).1,a.vok (hr r hm).2⟩
theorem Aft.erR{rs:List RecP}(a:Aft ι Z U h ι' Z' σ' h')(hr:ROK Z h U.next rs):rs.map (Go.Ab.erR ι')=rs.map (Go.Ab.erR ι):=
 List.map_congr_left λr hm=>by simp only[Go.Ab.erR];rw[a.er (hr r hm).1,a.er (hr r hm).2]
theorem zIt{E:PEnv}{it:DI}{v:PV}{nb nr:Nat}(hv:gqp nb nr it.toII E U=some v):recOf it (erE ι E) (er ι v)=(qm it E v).map (erR ι):=by
 obtain⟨⟨dst,op,q,guard⟩,idx,chk⟩:=it;have hw:zh guard (erE ι E)=zBC guard E:=by
  cases guard with
  |none=>rfl
  |some g=>
   obtain⟨t,b⟩:=g;simp only[gqp]at hv;simp only[zh,zBC,erE];cases ht:E t with
   |bool c=>rfl
   |tup cs=>rfl
   |_=>rw[ht]at hv;simp only[Q7,reduceCtorEq]at hv
 cases op<;>simp only[recOf,qm]<;>try rfl
 rw[hw];split
 .simp only[List.map_cons,List.map_nil,erR,er_pv]
 .rfl
theorem zME(r:Rel ι Z U h){E:PEnv}(he:EOK Z h U.next E){it:DI}{v:PV}(hv:VOK Z h U.next v):ROK Z h U.next (qm it E v):=by
 unfold qm;split
 .split
  .intro r hr;simp only[List.mem_singleton]at hr;subst hr;exact⟨he.pv _,hv⟩
  .intro r hr;simp at hr
 .intro r hr;simp at hr
theorem zDc(r:Rel ι Z U h){chk:List Nat}:∀{rs:List RecP},ROK Z h U.next rs->zAT chk rs U->RecOK chk (rs.map (erR ι)) h
 |[],_,_=>trivial
 |x::rs,hr,hk=>by
  simp only[List.map_cons,zAT,RecOK]at hk ⊢;refine⟨?_,zDc r (λy hy=>hr y (by simp[hy])) hk.2⟩;have h1:=hk.1;by_cases hc:chk.contains x.idx=true
  .rw[if_pos hc]at h1;rw[if_pos (show chk.contains (erR ι x).idx=true from hc)];exact(zCf r (hr x (by simp)).1 h1).1
  .rw[if_neg (show ¬chk.contains (erR ι x).idx=true from hc)];trivial
theorem RevOK.later{nb nr nb1:Nat}(hv:RevOK ι U nb nr nb1)(a:Aft ι Z U h ι' Z' σ' h'):RevOK ι' σ' nb nr nb1:=
 λk hk=>⟨Nat.lt_of_lt_of_le (hv k hk).1 a.next,by rw[a.inj _ (hv k hk).1];exact(hv k hk).2⟩
theorem zDi{nb nr nb1:Nat}:∀(aE:List DI) {recs:List RecP} {ι:Nat->Nat} {Z:Nat->Prop} {U:PHeap} {h:AHeap} {E:PEnv} {K:PEnv->PHeap->Prop} {K1:Env->AHeap->Prop},RevOK ι U nb nr nb1->Rel ι Z U h->EOK Z h U.next E->ROK Z h U.next recs->
  DVp P nb nr aE recs E U K->Rest ι Z U h K K1->DV P nb1 aE (recs.map (erR ι)) (erE ι E) h K1
 |[],recs,ι,Z,U,h,E,K,K1,hv,r,he,iI,hk,hr=>hr E U ι Z h r (Aft.refl r) he hk
 |it::aE,recs,ι,Z,U,h,E,K,K1,hv,r,he,iI,hk,hr=>by
  simp only[DVp,DV]at hk ⊢;split at hk
  .rename_i hq;simp only[hq];obtain⟨v,kh,hk⟩:=hk;obtain⟨h1,h2⟩:=zDQ r he hv kh;refine⟨_,h1,?_⟩
   have:=zDi aE hv r (he.put h2 it.dst) (recs:=qm it E v++recs) (λx hx=>(List.mem_append.1 hx).elim (λhx=>zME r he h2 x hx) (λhx=>iI x hx)) hk hr
   rw[zBL,List.map_append,<-zIt kh]at this;exact this
  .rename_i hq;simp only[hq];refine zDv ?_ (zGZ r he hk)
   rintro v h' ⟨pv,σ',ι',Z',r',a',kh,rfl,eK,cI⟩
   have h3:=zDc r' (a'.rok iI) eK;rw[a'.erR iI]at h3;refine⟨h3,?_⟩
   have:=zDi aE (hv.later a') r' ((a'.eok he).put kh it.dst) (a'.rok iI) cI (hr.later a')
   rw[zBL,a'.erE he,a'.erR iI]at this;exact this
theorem zHl:∀(zs:List (List AV)) {ι:Nat->Nat} {U:PHeap} {h:AHeap},Rel ι Z U h->
  ∃ι',Rel ι' Z (U.news zs) (h.news zs)/\Aft ι Z U h ι' Z (U.news zs) (h.news zs)/\(U.news zs).next=U.next+zs.length/\∀k,k<zs.length->ι' (U.next+k)=h.next+k
 |[],ι,U,h,r=>⟨ι,r,Aft.refl r,rfl,λk hk=>absurd hk (Nat.not_lt_zero _)⟩
 |z::zs,ι,U,h,r=>by
  obtain⟨r1,a1⟩:=r.new (cs:=ofAVs z) (VOKs.ofAVs z);rw[Zh]at r1 a1;obtain⟨ι',r2,a2,h1,h2⟩:=zHl zs r1;refine⟨ι',r2,a1.trans a2,?_,λk hk=>?_⟩
  .show((U.new (ofAVs z)).news zs).next=_
   rw[h1];simp only[PHeap.new,List.length_cons];omega
  .cases k with
   |zero=>
    rw[Nat.add_zero,Nat.add_zero,a2.inj _ (by simp[PHeap.new])];simp[putι]
   |succ k=>
    have:=h2 k (by simpa using hk)
    simp only[PHeap.new,AHeap.new]at this;rw[show U.next+(k+1)=U.next+1+k by omega,this];omega
def RestC(ι:Nat->Nat)(Z:Nat->Prop)(U:PHeap)(h:AHeap)(Q:Exit->PEnv->PHeap->Prop)(Q1:Exit->Env->AHeap->Prop):Prop:=
 ∀(x:Exit) (E':PEnv) (σ':PHeap) (ι':Nat->Nat) (Z':Nat->Prop) (h':AHeap),Rel ι' Z' σ' h'->Aft ι Z U h ι' Z' σ' h'->EOK Z' h' σ'.next E'->Q x E' σ'->Q1 x (erE ι' E') h'
theorem RestC.later{σ':PHeap}{Q:Exit->PEnv->PHeap->Prop}{Q1:Exit->Env->AHeap->Prop}(c:RestC ι Z U h Q Q1)(a:Aft ι Z U h ι' Z' σ' h'):RestC ι' Z' σ' h' Q Q1:=
 λx qk σ'' ι'' mU cD r b e k=>c x qk σ'' ι'' mU cD r (a.trans b) e k
theorem Zq:∀(c:IC) {ι:Nat->Nat} {Z:Nat->Prop} {U:PHeap} {h:AHeap} {E:PEnv} {Q:Exit->PEnv->PHeap->Prop} {Q1:Exit->Env->AHeap->Prop},Rel ι Z U h->EOK Z h U.next E->vp P c Q E U->RestC ι Z U h Q Q1->vc P c Q1 (erE ι E) h
 | .skip,ι,Z,U,h,E,Q,Q1,r,he,hk,hr=>hr .normal E U ι Z h r (Aft.refl r) he hk
 | .exit id,ι,Z,U,h,E,Q,Q1,r,he,hk,hr=>hr (.exit id) E U ι Z h r (Aft.refl r) he hk
 | .ret,ι,Z,U,h,E,Q,Q1,r,he,hk,hr=>hr .ret E U ι Z h r (Aft.refl r) he hk
 | .region S aE,ι,Z,U,h,E,Q,Q1,r,he,hk,hr=>by
  refine zDd aE r he hk ?_;intro E' σ' ι' Z' h' r' a' e' k'
  have:=hr .normal _ σ' ι' Z' h' r' a' (EOK.mk (e'.map S)) k'
  rw[zBg,zCP]at this;exact this
 | .draw S zs aE,ι,Z,U,h,E,Q,Q1,r,he,hk,hr=>by
  obtain⟨ι1,r1,a1,h1,h2⟩:=zHl zs r
  have:=zDi (nb1:=h.next) (K1:=λe' h'=>Q1 .normal (Env.mk S (S.map e')) h') aE (recs:=[]) (λk hk=>⟨by rw[h1];omega,h2 k hk⟩) r1 (a1.eok he) (λx hx=>by simp at hx) hk ?_
  .rw[a1.erE he]at this;exact this
  .intro E' σ' ι' Z' h' r' a' e' k'
   have:=hr .normal _ σ' ι' Z' h' r' (a1.trans a') (EOK.mk (e'.map S)) k'
   rw[zBg,zCP]at this;exact this
 | .seq a b,ι,Z,U,h,E,Q,Q1,r,he,hk,hr=>by
  refine Zq a r he hk ?_;intro x E' σ' ι' Z' h' r' a' e' k';cases x with
  |normal=>exact Zq b r' e' k' (hr.later a')
  |exit id=>exact hr _ _ _ _ _ _ r' a' e' k'
  |goto l=>exact hr _ _ _ _ _ _ r' a' e' k'
  |ret=>exact hr _ _ _ _ _ _ r' a' e' k'
  |panic ch=>exact hr _ _ _ _ _ _ r' a' e' k'
  |outgrown=>exact hr _ _ _ _ _ _ r' a' e' k'
 | .cond c a b,ι,Z,U,h,E,Q,Q1,r,he,hk,hr=>by
  simp only[vp,vc,<-er_pv]at hk ⊢;cases hc:c.pv E<;>rw[hc]at hk<;>simp only[Z6]at hk
  simp only[er];split at hk
  .rename_i ht;rw[if_pos ht];exact Zq a r he hk hr
  .rename_i ht;rw[if_neg ht];exact Zq b r he hk hr
 | .block id c,ι,Z,U,h,E,Q,Q1,r,he,hk,hr=>by
  refine Zq c r he hk ?_;intro x E' σ' ι' Z' h' r' a' e' k';cases x with
  |exit fO=>
   simp only at k' ⊢;split at k'
   .rename_i hc;rw[if_pos hc];exact hr _ _ _ _ _ _ r' a' e' k'
   .rename_i hc;rw[if_neg hc];exact hr _ _ _ _ _ _ r' a' e' k'
  |normal=>exact hr _ _ _ _ _ _ r' a' e' k'
  |goto l=>exact hr _ _ _ _ _ _ r' a' e' k'
  |ret=>exact hr _ _ _ _ _ _ r' a' e' k'
  |panic ch=>exact hr _ _ _ _ _ _ r' a' e' k'
  |outgrown=>exact hr _ _ _ _ _ _ r' a' e' k'
 | .loop S c,ι,Z,U,h,E,Q,Q1,r,he,hk,hr=>by
  obtain⟨I,⟨n,h0⟩,gD⟩:=hk;obtain⟨Z0,σ0,vN,r0,a0,v0,e0,i0⟩:=h0.sound r (he.map S);refine⟨λn vs h'=>∃ι' Z' σ' pvs,Rel ι' Z' σ' h'/\Aft ι Z U h ι' Z' σ' h'/\VOKs Z' h' σ'.next pvs/\vs=ers ι' pvs/\I n pvs σ',⟨n,ι,Z0,σ0,vN,r0,a0,v0,(zCP E S).symm.trans e0.symm,i0⟩,?_⟩
  rintro n vs h' ⟨ι',Z',σ',pvs,r',a',hv,rfl,hI⟩
  rw[<-zBg];refine Zq c r' (EOK.mk hv) (gD n pvs σ' hI) ?_;intro x qk σ'' ι'' mU cD mX j7 gl mZ;cases x with
  |normal=>
   obtain⟨n',ag,ja⟩:=mZ;obtain⟨Z1,σ1,vM,r1,a1,v1,e1,i1⟩:=ja.sound mX (gl.map S);exact⟨n',ag,ι'',Z1,σ1,vM,r1,a'.trans (j7.trans a1),v1,(zCP qk S).symm.trans e1.symm,i1⟩
  |exit id=>exact hr _ _ _ _ _ _ mX (a'.trans j7) gl mZ
  |goto l=>exact hr _ _ _ _ _ _ mX (a'.trans j7) gl mZ
  |ret=>exact hr _ _ _ _ _ _ mX (a'.trans j7) gl mZ
  |panic ch=>exact hr _ _ _ _ _ _ mX (a'.trans j7) gl mZ
  |outgrown=>exact hr _ _ _ _ _ _ mX (a'.trans j7) gl mZ
theorem zAD(r:Rel ι Z U h){E:PEnv}(he:EOK Z h U.next E):∀{rs:List IRes} {vs:List PV},Zt rs E U=some vs->rvals rs (erE ι E) h=some (ers ι vs)/\VOKs Z h U.next vs
 |[],vs,hv=>by cases hv;exact⟨rfl,trivial⟩
 | .tmp t::rs,vs,hv=>by
  simp only[Zt,Option.map_eq_some_iff]at hv;obtain⟨iS,hv,rfl⟩:=hv;obtain⟨h1,h2⟩:=zAD r he hv;exact⟨by simp only[rvals,h1,Option.map_some,ers,erE],he t,h2⟩
 | .cell t a k::rs,vs,hv=>by
  simp only[Zt,Option.bind_eq_some_iff,Option.map_eq_some_iff]at hv;obtain⟨v,hl,iS,hv,rfl⟩:=hv;obtain⟨h1,h2⟩:=zAD r he hv;obtain⟨h3,h4⟩:=zCf r (he t) hl;refine⟨?_,h4,h2⟩;simp only[rvals,erE];rw[h3];simp only[Option.bind_some];rw[h1];rfl
theorem zEB{vs:List PV}(hv:VOKs Z h n vs):packR (ers ι vs)=er ι (packP vs)/\VOK Z h n (packP vs):=by
 cases vs with
 |nil=>exact⟨rfl,trivial⟩
 |cons v vs=>
  cases vs with
  |nil=>exact⟨rfl,hv.1⟩
  |cons u us=>exact⟨rfl,hv⟩
theorem zP(cf:P.follows .mixedOrders=true){f:FuncId}{fn:Func}{cY:IFn}(hf:P.funcs[f]? = some fn)(hc:cF P fn=some cY){args:List PV}{K:PV->PHeap->Prop}(hl:args.length=cY.params.length)
  (hk:vp P cY.body (retP cY.res K) (PEnv.mk cY.params args) U):zA P f args U K:=by
 intro ι Z h r va;refine QP cf hf hc (by rw[qG];exact hl) ?_;rw[<-zBg];refine Zq cY.body r (EOK.mk va) hk ?_;intro x E' σ' ι' Z' h' r' a' e' k';have fin:optK (Zt cY.res E' σ') (λvs=>K (packP vs) σ')->optK (rvals cY.res (erE ι' E') h') λvs=>Up ι Z U h K (packR vs) h':=by
  rintro⟨vs,hv,hk⟩
  obtain⟨h1,h2⟩:=zAD r' e' hv;obtain⟨h3,h4⟩:=zEB (ι:=ι') h2;exact⟨_,h1,packP vs,σ',ι',Z',r',a',h4,h3,hk⟩
 cases x with
 |normal=>exact fin k'
 |ret=>exact fin k'
 |exit id=>exact k'.elim
 |goto l=>exact k'.elim
 |panic ch=>exact k'.elim
 |outgrown=>exact k'.elim
def FormQ(P:Program)(o:Option IFn)(args:List PV)(U:PHeap)(K:PV->PHeap->Prop):Prop:=∃cY,o=some cY/\args.length=cY.params.length/\vp P cY.body (retP cY.res K) (PEnv.mk cY.params args) U
theorem zB{P:Program}(cf:P.follows .mixedOrders=true){f:FuncId}{fn:Func}(hf:P.funcs[f]? = some fn){args:List PV}{K:PV->PHeap->Prop}{U:PHeap}(h:FormQ P (cF P fn) args U K):zA P f args U K:=by
 obtain⟨cY,hc,hl,hk⟩:=h;exact zP cf hf hc hl hk
theorem zC{P:Program}{p:List Nat}{r:List IRes}{b:IC}{args:List PV}{K:PV->PHeap->Prop}{U:PHeap}(hl:args.length=p.length)(hk:vp P b (retP r K) (PEnv.mk p args) U):FormQ P (some ⟨p,r,b⟩) args U K:=⟨_,rfl,hl,hk⟩
end Go.Ab
set_option linter.unusedVariables false
set_option linter.unusedSimpArgs false
namespace Go.Ab
variable{P:Program}{ι ι':Nat->Nat}{Z Z':Nat->Prop}{h h':AHeap}{U σ' σ0 σ1 σ2:PHeap}{n:Nat}{K:PV->PHeap->Prop}
mutual
def addrs:PV->List Nat
 | .fz _ (.sl o _ _ _) _ cs=>o::Zw cs
 | .fp (.ptr o _) cs=>(if cs.isEmpty then []else [o])++Zw cs
 | .clo _ a b=>Zw a++Zw b
 | .agg cs=>Zw cs
 | .tup cs=>Zw cs
 |_=>[]
def Zw:List PV->List Nat
 |[]=>[]
 |c::cs=>addrs c++Zw cs
end
mutual
theorem zKb:∀{n:Nat} {v:PV},VOK Z h n v->∀o∈addrs v,Z o
 |n,.undef,_,o,ho|n,.bool _,_,o,ho|n,.int _ _,_,o,ho|n,.str _,_,o,ho|n,.nilp,_,o,ho|n,.nilf,_,o,ho=>by simp[addrs]at ho
 |n,.ptr _ _,_,o,ho|n,.sl _ _ _ _,_,o,ho=>by simp[addrs]at ho
 |n,.fz w a len cs,hv,o,ho=>by
  obtain⟨rfl,_,_⟩|⟨o',off,cap,rfl,h1,_⟩:=hv.1
  .simp[addrs]at ho
  .simp only[addrs,List.mem_cons]at ho;rcases ho with rfl|ho
   .exact h1
   .exact Qs hv.2 o ho
 |n,.fp a cs,hv,o,ho=>by
  cases a with
  |ptr o' i=>
   simp only[addrs,List.mem_append]at ho;rcases ho with ho|ho
   .split at ho
    .simp at ho
    .rename_i ai;simp only[List.mem_singleton]at ho;subst ho;obtain⟨_,h1|⟨o2,i2,he,h2,_⟩⟩:=hv.1
     .cases cs with
      |nil=>exact absurd rfl ai
      |cons c cs=>simp[ers]at h1
     .cases he;exact h2
   .exact Qs hv.2 o ho
  |_=>simp[addrs]at ho
 |n,.clo _ a b,hv,o,ho=>by
  simp only[addrs,List.mem_append]at ho;exact ho.elim (Qs hv.1 o) (Qs hv.2 o)
 |n,.agg cs,hv,o,ho=>Qs (cs:=cs) hv o (by simpa only[addrs]using ho)
 |n,.tup cs,hv,o,ho=>Qs (cs:=cs) hv o (by simpa only[addrs]using ho)
theorem Qs:∀{n:Nat} {cs:List PV},VOKs Z h n cs->∀o∈Zw cs,Z o
 |n,[],_,o,ho=>by simp[Zw]at ho
 |n,c::cs,hv,o,ho=>by
  simp only[Zw,List.mem_append]at ho;exact ho.elim (zKb hv.1 o) (Qs hv.2 o)
end
def Gh(σ0:PHeap)(K:PV->PHeap->Prop)(v:PV)(σ1:PHeap):Prop:=
 PWF σ0->∀(ι:Nat->Nat) (Z:Nat->Prop) (h:AHeap) (b:Nat),Rel ι Z σ1 h->VOK Z h σ1.next v->σ0.next<=σ1.next->σ0.top<=b->(∀s cs,σ0.next<=s->σ1.obj s=some cs->b<=ι s)->(∀s,s<σ0.next->σ0.obj s=none->σ1.obj s=none)->
  ∃v2 σ2 ι2 Z2,Rel ι2 Z2 σ2 h/\VOK Z2 h σ2.next v2/\σ0.next<=σ2.next/\(∀s,s<σ0.next->ι2 s=ι s)/\(∀o,Z o->Z2 o)/\(∀s cs,σ0.next<=s->σ2.obj s=some cs->b<=ι2 s)/\(∀s,s<σ0.next->σ0.obj s=none->σ2.obj s=none)/\er ι2 v2=er ι v/\K v2 σ2
theorem zA.gh{f:FuncId}{args:List PV}(c:zA P f args U (Gh U K)):zA P f args U K:=by
 intro ι Z h r va;refine(c ι Z h r va).mono ?_
 rintro _ h' ⟨pv,σ',ι',Z',r',a',hv,rfl,k⟩
 obtain⟨v2,σ2,ι2,Z2,g1,g2,g3,g4,g5,g6,g7,g8,g9⟩:=k r.pwf ι' Z' h' h.next r' hv a'.next r.top (λs cs hs ho=>a'.fresh s cs hs ho) a'.dead;exact⟨v2,σ2,ι2,Z2,g1,⟨g3,a'.hnext,λs hs=>(g4 s hs).trans (a'.inj s hs),λo ho=>⟨g5 o (a'.z o ho).1,(a'.z o ho).2⟩,g7,g6⟩,g2,g8.symm,g9⟩
theorem zA.pwf{f:FuncId}{args:List PV}(c:PWF U->zA P f args U K):zA P f args U K:=λι Z h r va=>c r.pwf ι Z h r va
theorem zA.nil0{f:FuncId}{w:Bool}{a:AV}{l:Nat}{cs:List PV}{rest:List PV}(c:(Zv a=true->l=0/\cs=[])->zA P f (.fz w a l cs::rest) U K):zA P f (.fz w a l cs::rest) U K:=λι Z h r va=>c (λhn=>by
 rw[zLP hn]at va;obtain⟨_,h1,h2⟩|⟨_,_,_,h1,_⟩:=va.1.1
 .exact⟨h1,List.eq_nil_of_length_eq_zero (by rw[<-qG (ι:=idz),h2];rfl)⟩
 .cases h1) ι Z h r va
theorem Gh.ret{v:PV}(k:K v σ1):Gh σ0 K v σ1:=λ_ ι Z h b r hv hn hb hf hd=>⟨v,σ1,ι,Z,r,hv,hn,λ_ _=>rfl,λ_ h=>h,hf,hd,rfl,k⟩
theorem Gh.cut{v:PV}(hn:σ2.next=σ0.next)(ht:σ2.top<=σ1.top)(ho:∀s cs,σ2.obj s=some cs->s<σ0.next/\σ1.obj s=some cs/\(σ0.obj s=some cs\/Bels σ0.next cs))(hb:Bel σ0.next v)(k:K v σ2):Gh σ0 K v σ1:=by
 intro w ι Z h b r hv h1 h2 h3 h4;refine⟨v,σ2,ι,Z,⟨r.hwf,r.zlt,Nat.le_trans ht r.top,λs hs=>?_,λs cs hs=>?_,λs s' cs dp hs cw hi=>r.inj s s' cs dp (ho s cs hs).2.1 (ho s' dp cw).2.1 hi⟩,by rw[hn];exact hv.of_bel hb,by omega,λ_ _=>rfl,λ_ h=>h,λs cs hs hc=>?_,λs hs hc=>?_,rfl,k⟩
 .cases hc:σ2.obj s with
  |none=>rfl
  |some cs=>have:=(ho s cs hc).1;omega
 .obtain⟨g1,g2,g3⟩:=ho s cs hs;obtain⟨q1,q2,q3⟩:=r.obj s cs g2;exact⟨q1,by rw[hn];exact q2.of_bel (g3.elim (λg=>w.bel s cs g) id),q3⟩
 .exact h3 s cs hs (ho s cs hc).2.1
 .cases iO:σ2.obj s with
  |none=>rfl
  |some cs=>have:=(ho s cs iO).2.1;rw[h4 s hs hc]at this;cases this
structure Keep(σ0 σ1:PHeap):Prop where
 next:σ0.next<=σ1.next
 top:σ0.top<=σ1.top
 obj:∀s,s<σ0.next->σ1.obj s=σ0.obj s
theorem Keep.refl(U:PHeap):Keep U U:=⟨vH _,vH _,λ_ _=>rfl⟩
theorem Keep.trans(a:Keep σ0 σ1)(b:Keep σ1 σ2):Keep σ0 σ2:=⟨Nat.le_trans a.next b.next,Nat.le_trans a.top b.top,λs hs=>(b.obj s (Nat.lt_of_lt_of_le hs a.next)).trans (a.obj s hs)⟩
theorem Keep.new(a:Keep σ0 σ1)(cs:List PV):Keep σ0 (σ1.new cs):=
 ⟨by have:=a.next;simp only[PHeap.new];omega,a.top,λs hs=>by have:=a.next;simp only[PHeap.new];rw[if_neg (by omega)];exact a.obj s hs⟩
theorem Keep.set(a:Keep σ0 σ1){s:Nat}(hs:σ0.next<=s)(cs:List PV):Keep σ0 (σ1.set s cs):=
 ⟨a.next,a.top,λt ht=>by simp only[PHeap.set];rw[if_neg (by omega)];exact a.obj t ht⟩
theorem Keep.kill(a:Keep σ0 σ1){s:Nat}(hs:σ0.next<=s):Keep σ0 (σ1.kill s):=
 ⟨a.next,a.top,λt ht=>by simp only[PHeap.kill];rw[if_neg (by omega)];exact a.obj t ht⟩
theorem Keep.up(a:Keep σ0 σ1){t:Nat}(ht:σ1.top<=t):Keep σ0 (σ1.up t):=⟨a.next,Nat.le_trans a.top ht,a.obj⟩
theorem Gh.fin0T{v:PV}{t:Nat}(hk:Keep σ0 σ1)(ht:t<=σ1.top)(hb:Bel σ0.next v)(k:PWF σ0->K v (σ0.up t)):Gh σ0 K v σ1:=λw=>
 Gh.cut (σ2:=σ0.up t) rfl ht (λs cs hs=>⟨w.lt hs,by rw[hk.obj s (w.lt hs)];exact hs,.inl hs⟩) hb (k w) w
theorem Gh.fin0{v:PV}(hk:Keep σ0 σ1)(hb:Bel σ0.next v)(k:K v σ0):Gh σ0 K v σ1:=Gh.fin0T (t:=σ0.top) hk hk.top hb λ_=>k
theorem Gh.finS{s off l:Nat}{cap:Cap}{cs:List PV}(hk:Keep σ0 σ1)(hs:σ1.obj s=some cs)(h0:σ0.next<=s)(hb:Bels σ0.next cs)(k:K (.sl σ0.next off l cap) (σ0.new cs)):Gh σ0 K (.sl s off l cap) σ1:=by
 intro w ι Z h b r hv h1 h2 h3 h4;obtain⟨q1,q2,q3⟩:=r.obj s cs hs;have hi:∀{t:Nat} {ds:List PV},σ0.obj t=some ds->ι t≠ι s:=λ{t ds} ht he=>by
  have:=r.inj t s ds cs (by rw[hk.obj t (w.lt ht)];exact ht) hs he
  have:=w.lt ht
  omega
 have conv:∀t,t<σ0.next->putι ι σ0.next (ι s) t=ι t:=λt ht=>by simp[putι,Nat.ne_of_lt ht]
 have fS:VOKs Z h σ0.next cs:=q2.of_bel hb;refine⟨.sl σ0.next off l cap,σ0.new cs,putι ι σ0.next (ι s),Z,⟨r.hwf,r.zlt,Nat.le_trans hk.top r.top,λt ht=>?_,λt ds ht=>?_,λt t' ds pW ht cg he=>?_⟩,Nat.lt_succ_self _,by simp[PHeap.new],conv,λ_ h=>h,λt ds ht hd=>?_,λt ht hd=>?_,(by simp[er,putι]),k⟩
 .simp only[PHeap.new]at ht ⊢;rw[if_neg (by omega)];exact w.wf t (by omega)
 .simp only[PHeap.new]at ht ⊢;by_cases e:t=σ0.next
  .subst e;rw[if_pos rfl]at ht;cases ht;rw[QC conv fS];simp only[putι,if_true];exact⟨q1,fS.up (Nat.le_succ _),q3⟩
  .rw[if_neg e]at ht;have fY:=w.lt ht;obtain⟨p1,p2,p3⟩:=r.obj t ds (by rw[hk.obj t fY];exact ht);have sM:=p2.of_bel (w.bel t ds ht);rw[conv t fY,QC conv sM];exact⟨p1,sM.up (Nat.le_succ _),p3⟩
 .simp only[PHeap.new]at ht cg;by_cases e:t=σ0.next
  .by_cases e':t'=σ0.next
   .rw[e,e']
   .rw[if_neg e']at cg;rw[conv t' (w.lt cg)]at he;subst e;simp only[putι,if_true]at he;exact absurd he.symm (hi cg)
  .rw[if_neg e]at ht;rw[conv t (w.lt ht)]at he;by_cases e':t'=σ0.next
   .subst e';simp only[putι,if_true]at he;exact absurd he (hi ht)
   .rw[if_neg e']at cg;rw[conv t' (w.lt cg)]at he;exact r.inj t t' ds pW (by rw[hk.obj t (w.lt ht)];exact ht) (by rw[hk.obj t' (w.lt cg)];exact cg) he
 .simp only[PHeap.new]at hd;by_cases e:t=σ0.next
  .subst e;simp only[putι,if_true];exact h3 s cs h0 hs
  .rw[if_neg e]at hd;have:=w.lt hd;omega
 .simp only[PHeap.new];rw[if_neg (by omega)];exact hd
theorem Gh.freeze{v:PV}{s:Nat}{cs:List PV}(hs:σ1.obj s=some cs)(h0:σ0.next<=s)(hb:Bels 0 cs)
  (k:∀o,σ0.top<=o->o∉Zw cs->o∉addrs v->Gh σ0 K (sb s o cs v) ((σ1.kill s).up (max σ1.top (o+1)))):Gh σ0 K v σ1:=by
 intro w ι Z h b r hv h1 h2 h3 h4;obtain⟨r',fS,ho,hz⟩:=r.freeze hs hb;have iP:=h3 s cs h0 hs;have conv:∀{t:Nat} {a:List PV},(σ1.kill s).obj t=some a->t≠s/\σ1.obj t=some a:=λ{t a} ht=>by
  simp only[PHeap.kill]at ht;split at ht
  .cases ht
  .exact⟨by assumption,ht⟩
 obtain⟨v2,σ2,ι2,Z2,g1,g2,g3,g4,g5,g6,g7,g8,g9⟩:=k (ι s) (by omega) (λhm=>hz (Qs fS _ hm)) (λhm=>hz (zKb hv _ hm)) w ι (λo=>Z o\/o=ι s) h b r'
  (VOK.sb (.inr rfl) ho (fS.mono (λo ho=>⟨.inl ho,rfl⟩) (vH _)) (hv.mono (λo ho=>⟨.inl ho,rfl⟩) (vH _))) h1 h2 (λt ds ht hd=>h3 t ds ht (conv hd).2)
  (λt ht hd=>by simp only[PHeap.kill,PHeap.up];split;rfl;exact h4 t ht hd)
 exact⟨v2,σ2,ι2,Z2,g1,g2,g3,g4,λo ho=>g5 o (.inl ho),g6,g7,g8.trans (er_sb rfl v),g9⟩
theorem Gh.finZ{s l:Nat}{cap:Cap}{cs:List PV}(hk:Keep σ0 σ1)(hs:σ1.obj s=some cs)(h0:σ0.next<=s)(hb:Bels 0 cs)(bE:capOK cap l=true)
  (k:∀o,σ0.top<=o->o∉Zw cs->∀t,o<t->σ1.top<=t->K (.fz true (.sl o 0 l cap) l cs) (σ0.up t)):Gh σ0 K (.sl s 0 l cap) σ1:=
 Gh.freeze hs h0 hb λo ho hc _=>by
  simp only[sb];rw[if_pos ⟨trivial,trivial,bE⟩];exact Gh.fin0T (t:=max σ1.top (o+1)) ((hk.kill h0).up (by simp only[PHeap.kill];omega)) (vH _) trivial λw=>k o ho hc _ (by omega) (by omega)
theorem Gh.finF{s l:Nat}{cap:Cap}{cs:List PV}(hk:Keep σ0 σ1)(hs:σ1.obj s=some cs)(h0:σ0.next<=s)(hb:Bels 0 cs)(bE:capOK cap l=true)
  (k:∀o,K (.fz true (.sl o 0 l cap) l cs) σ0):Gh σ0 K (.sl s 0 l cap) σ1:=
 Gh.freeze hs h0 hb λo ho hc _=>by
  simp only[sb];rw[if_pos ⟨trivial,trivial,bE⟩];exact Gh.fin0 ((hk.kill h0).up (by simp only[PHeap.kill];omega)) trivial (k o)
theorem zA.frz{f:FuncId}{args:List PV}{s:Nat}{cs:List PV}(hs:U.obj s=some cs)(hb:Bels 0 cs)(c:∀o,zA P f (sbs s o cs args) (U.kill s) K):zA P f args U K:=by
 intro ι Z h r va;obtain⟨r',fS,ho,hz⟩:=r.freeze hs hb;have r2:Rel ι (λo=>Z o\/o=ι s) (U.kill s) h:=⟨r'.hwf,r'.zlt,by have:=r.top;exact this,r'.wf,r'.obj,r'.inj⟩
 have eZ:∀o,Z o->(Z o\/o=ι s)/\h.obj o=h.obj o:=λo ho=>⟨.inl ho,rfl⟩
 have hm:(U.kill s).next=U.next:=rfl
 have:=c (ι s) ι _ h r2 (VOKs.sbs (.inr rfl) ho (fS.mono eZ (vH _)) (va.mono eZ (vH _)))
 rw[Qi rfl]at this;refine this.mono ?_
 rintro v h' ⟨pv,σ',ι',Z',q1,q2,q3,q4,q5⟩
 exact⟨pv,σ',ι',Z',q1,⟨q2.next,q2.hnext,q2.inj,λo ho=>q2.z o (.inl ho),λt ht hn=>q2.dead t ht (by simp only[PHeap.kill];split;rfl;exact hn),q2.fresh⟩,q3,q4,q5⟩
end Go.Ab
set_option linter.unusedVariables false
set_option linter.unusedSimpArgs false
set_option linter.defProp false
namespace Go.Ab
section
variable{P:Program}{Q:Exit->PEnv->PHeap->Prop}{e:PEnv}{h:PHeap}{K:PEnv->PHeap->Prop}{KA:PV->PHeap->Prop}{nb nr:Nat}
theorem zPj:vp P .skip Q e h=Q .normal e h:=rfl
theorem zLt(S:List Nat)(aE:List II):vp P (.region S aE) Q e h=RVp P aE e h λe' h'=>Q .normal (PEnv.mk S (S.map e')) h':=rfl
theorem zPl(S:List Nat)(zs:List (List AV))(aE:List DI):vp P (.draw S zs aE) Q e h=DVp P h.next zs.length aE [] e (h.news zs) λe' h'=>Q .normal (PEnv.mk S (S.map e')) h':=rfl
theorem zRI(a b:IC):vp P (.seq a b) Q e h=vp P a (λx e' h'=>match x with | .normal=>vp P b Q e' h'|x=>Q x e' h') e h:=rfl
theorem zPm(c:IX)(a b:IC):vp P (.cond c a b) Q e h=Z6 (c.pv e) (vp P a Q e h) (vp P b Q e h):=rfl
theorem zNr(id:Nat)(c:IC):vp P (.block id c) Q e h=vp P c (λx e' h'=>match x with | .exit fO=>if fO=id then Q .normal e' h' else Q (.exit fO) e' h'|x=>Q x e' h') e h:=rfl
theorem zPk(id:Nat):vp P (.exit id) Q e h=Q (.exit id) e h:=rfl
theorem zRJ:vp P .ret Q e h=Q .ret e h:=rfl
theorem zRB:RVp P [] e h K=K e h:=rfl
theorem RVp_q(d:Option Nat)(op:IOp)(g:Option (Nat×Bool))(r:List II):RVp P (⟨d,op,true,g⟩::r) e h K=optK (gqp 0 0 ⟨d,op,true,g⟩ e h) λv=>RVp P r (e.put d v) h K:=rfl
theorem RVp_e(d:Option Nat)(op:IOp)(g:Option (Nat×Bool))(r:List II):RVp P (⟨d,op,false,g⟩::r) e h K=gep P ⟨d,op,false,g⟩ e h λv h'=>RVp P r (e.put d v) h' K:=rfl
theorem zRF(recs:List RecP):DVp P nb nr [] recs e h K=K e h:=rfl
theorem DVp_q(d:Option Nat)(op:IOp)(g:Option (Nat×Bool))(i:Nat)(c:List Nat)(r:List DI)(recs:List RecP):DVp P nb nr (⟨⟨d,op,true,g⟩,i,c⟩::r) recs e h K=optK (gqp nb nr ⟨d,op,true,g⟩ e h) λv=>DVp P nb nr r (qm ⟨⟨d,op,true,g⟩,i,c⟩ e v++recs) (e.put d v) h K:=rfl
theorem DVp_e(d:Option Nat)(op:IOp)(g:Option (Nat×Bool))(i:Nat)(c:List Nat)(r:List DI)(recs:List RecP):DVp P nb nr (⟨⟨d,op,false,g⟩,i,c⟩::r) recs e h K=gep P ⟨d,op,false,g⟩ e h λv h'=>zAT c recs h'/\DVp P nb nr r recs (e.put d v) h' K:=rfl
theorem zOz(d:Option Nat)(op:IOp)(q:Bool):gqp nb nr ⟨d,op,q,none⟩ e h=qp nb nr op e h:=rfl
theorem zOy(d:Option Nat)(op:IOp)(q:Bool)(t:Nat)(b:Bool):gqp nb nr ⟨d,op,q,some (t,b)⟩ e h=Q7 (e t) b (qp nb nr op e h):=rfl
theorem zO1(d:Option Nat)(op:IOp)(q:Bool):gep P ⟨d,op,q,none⟩ e h KA=ep P op e h KA:=rfl
theorem zO0(d:Option Nat)(op:IOp)(q:Bool)(t:Nat)(b:Bool):gep P ⟨d,op,q,some (t,b)⟩ e h KA=Zi (e t) b (ep P op e h KA) (KA (.tup []) h):=rfl
theorem zJA(a b:Prop):Z6 (.bool true) a b=a:=rfl
theorem zHe(a b:Prop):Z6 (.bool false) a b=b:=rfl
theorem zKy(c:Prop)[Decidable c](a b:Prop):Z6 (.bool (decide c)) a b=if c then a else b:=by by_cases x:c<;>simp[Z6,x]
theorem zJB(c:Prop)[Decidable c](a b:Prop):Z6 (.bool (!decide c)) a b=if c then b else a:=by by_cases x:c<;>simp[Z6,x]
theorem zHc(c b:Bool)(x y:Prop):Zi (.bool c) b x y=if c=b then x else y:=rfl
theorem zHa(c b:Bool)(x:Option PV):Q7 (.bool c) b x=if c=b then x else some (.tup []):=rfl
theorem zHZ(b:Bool)(x:Option PV):Q7 (.tup []) b x=some (.tup []):=rfl
theorem zHb(b:Bool)(x y:Prop):Zi (.tup []) b x y=y:=rfl
theorem pv_t(n:Nat):(IX.t n).pv e=e n:=rfl
theorem pv_c(v:AV):(IX.c v).pv e=ofAV v:=rfl
theorem zOQ(s:Nat)(S:List Nat)(v:PV)(vs:List PV)(t:Nat):PEnv.mk (s::S) (v::vs) t=if t=s then v else PEnv.mk S vs t:=rfl
theorem zMP(d:Nat)(v:PV)(t:Nat):e.put (some d) v t=if t=d then v else e t:=rfl
theorem zMQ(v:PV):e.put none v=e:=rfl
theorem qp_mv(x:IX):qp nb nr (.mv x) e h=some (x.pv e):=rfl
theorem zP8(c a b:IX):qp nb nr (.pick c a b) e h=pPick (c.pv e) (a.pv e) (b.pv e):=rfl
theorem zRa(op:BinOp)(ek:EqK)(x y:IX):qp nb nr (.bin op ek x y) e h=pbin op ek (x.pv e) (y.pv e):=rfl
theorem qp_un(op:UnOp)(x:IX):qp nb nr (.un op x) e h=pun op (x.pv e):=rfl
theorem zQA(k:IntKind)(x:IX):qp nb nr (.conv k x) e h=pConv k (x.pv e):=rfl
theorem zI4(x:IX):qp nb nr (.nilCheck x) e h=pNil (x.pv e):=rfl
theorem zOD(z:List AV)(ps:List (Nat×Nat×IX)):qp nb nr (.build z ps) e h=(pfill (ofAVs z) (ps.map λp=>(p.1,p.2.1,p.2.2.pv e))).map .agg:=rfl
theorem zOC(a:Bool)(n off:Nat)(x:IX):qp nb nr (.field a n off x) e h=zDH a n off (x.pv e):=rfl
theorem zHO(off:Nat)(x:IX):qp nb nr (.fieldAddr off x) e h=zAG off (x.pv e):=rfl
theorem zHN(sz:Nat)(x i:IX):qp nb nr (.indexAddr sz x i) e h=zCH sz (x.pv e) (i.pv e):=rfl
theorem zI6(x i:IX):qp nb nr (.indexStr x i) e h=zDp (x.pv e) (i.pv e):=rfl
theorem zKs(x:IX)(i:Nat):qp nb nr (.extract x i) e h=zCi (x.pv e) i:=rfl
theorem zRY(x:IX):qp nb nr (.len x) e h=pLen (x.pv e):=rfl
theorem zMK(x:IX):qp nb nr (.lenStr x) e h=zDo (x.pv e):=rfl
theorem zRZ(x:IX):qp nb nr (.cap x) e h=pCap (x.pv e):=rfl
theorem zOB(sz:Nat)(x:IX)(lo hi mx:Option IX):qp nb nr (.slice sz x lo hi mx) e h=Z9 sz (x.pv e) (lo.map (·.pv e)) (hi.map (·.pv e)) (mx.map (·.pv e)):=rfl
theorem zI3(x:IX)(lo hi:Option IX):qp nb nr (.sliceStr x lo hi) e h=zBq (x.pv e) (lo.map (·.pv e)) (hi.map (·.pv e)):=rfl
theorem zMJ(mx:Bool)(x y:IX):qp nb nr (.maxmin mx x y) e h=zCG mx (x.pv e) (y.pv e):=rfl
theorem zI5(f:FuncId)(a b:List IX):qp nb nr (.makeFunc f a b) e h=some (.clo f (a.map (·.pv e)) (b.map (·.pv e))):=rfl
theorem zP9(a:Bool)(n:Nat)(x:IX):qp nb nr (.load a n x) e h=pldv a n (x.pv e) h:=rfl
theorem zRX(k:Nat):qp nb nr (.rev k) e h=if k<nr then some (.ptr (nb+k) 0)else none:=rfl
theorem zP7(k n:Nat):qp nb nr (.revS k n) e h=if k<nr then some (.sl (nb+k) 0 n (.known n))else none:=rfl
theorem zPB(z:List AV):ep P (.alloc z) e h KA=KA (.ptr h.next 0) (h.new (ofAVs z)):=rfl
theorem zRx(x:IX):ep P (.box x) e h KA=((x.pv e).cells.all PV.one=true/\KA (.ptr h.next 0) (h.new (x.pv e).cells)):=rfl
theorem zLT(sz len:Nat)(z:List AV)(ps:List (Nat×Nat×IX)):ep P (.buildSl sz len z ps) e h KA=optK (pfill (ofAVs (zeros z len)) (ps.map λp=>(p.1,p.2.1,p.2.2.pv e))) λcs=>KA (.sl h.next 0 len (.known len)) (h.new cs):=rfl
def zFE(n:Nat)(x v:PV)(h:PHeap)(KA:PV->PHeap->Prop):Prop:=
 match x with
 | .ptr s i=>v.cells.length=n/\optK (h.wr s i v.cells) λh'=>KA .undef h'
 |_=>False
def pMake(sz bytes:Nat)(z:List AV)(l c:PV)(h:PHeap)(KA:PV->PHeap->Prop):Prop:=
 match l,c with
 | .int _ l,.int _ c=>(0<=l/\l<=c/\c*bytes<=140737488355328/\c<=9223372036854775807)/\KA (.sl h.next 0 l.toNat (.known c.toNat)) (h.new (ofAVs (zeros z c.toNat)))
 |_,_=>False
def zFG(sz bytes:Nat)(z:List AV)(s n:PV)(h:PHeap)(KA:PV->PHeap->Prop):Prop:=
 match s,n with
 | .fz _ .nils _ _,.int _ n=>(0<=n/\n*bytes<=140737488355328/\n<=4611686018427387904)/\if 0<n then KA (.sl h.next 0 n.toNat (.grown sz)) (h.new (ofAVs (zeros z n.toNat)))else KA (.fz true .nils 0 []) h
 | .sl s off len c,.int _ n=>(0<=n/\n*bytes<=140737488355328/\n<=4611686018427387904)/\optK (if 0<n then pgrow sz bytes h (.sl s off len c) (ofAVs (zeros z n.toNat)) n.toNat else(psame (.sl s off len c)).map λv=>(v,h)) λp=>KA p.1 p.2
 |_,_=>False
def zFF(P:Program)(f:PV)(args:List PV)(h:PHeap)(KA:PV->PHeap->Prop):Prop:=
 match f with
 | .clo f first bN=>okF P f=true/\zA P f (first++args++bN) h KA
 |_=>False
theorem zO9(n:Nat)(x v:IX):ep P (.store n x v) e h KA=zFE n (x.pv e) (v.pv e) h KA:=rfl
theorem zK9(n s i:Nat)(v:PV):zFE n (.ptr s i) v h KA=(v.cells.length=n/\optK (h.wr s i v.cells) λh'=>KA .undef h'):=rfl
theorem zNR(sz bytes:Nat)(z:List AV)(l c:IX):ep P (.makeSl sz bytes z l c) e h KA=pMake sz bytes z (l.pv e) (c.pv e) h KA:=rfl
theorem zJt(sz bytes:Nat)(z:List AV)(s n:IX):ep P (.appendMk sz bytes z s n) e h KA=zFG sz bytes z (s.pv e) (n.pv e) h KA:=rfl
theorem zJO(sz bytes:Nat)(z:List AV)(w:Bool)(l:Nat)(cs:List PV)(k:IntKind)(n:Int):zFG sz bytes z (.fz w .nils l cs) (.int k n) h KA=((0<=n/\n*bytes<=140737488355328/\n<=4611686018427387904)/\if 0<n then KA (.sl h.next 0 n.toNat (.grown sz)) (h.new (ofAVs (zeros z n.toNat)))else KA (.fz true .nils 0 []) h):=rfl
theorem zMq(sz bytes:Nat)(z:List AV)(k k':IntKind)(l c:Int):pMake sz bytes z (.int k l) (.int k' c) h KA=((0<=l/\l<=c/\c*bytes<=140737488355328/\c<=9223372036854775807)/\KA (.sl h.next 0 l.toNat (.known c.toNat)) (h.new (ofAVs (zeros z c.toNat)))):=rfl
theorem zNS(sz bytes:Nat)(s x:IX):ep P (.append sz bytes s x) e h KA=optK (ZZ sz bytes h (s.pv e) (x.pv e)) λp=>KA p.1 p.2:=rfl
theorem zQx(sz:Nat)(d s:IX):ep P (.copy sz d s) e h KA=optK (pcopy sz h (d.pv e) (s.pv e)) λp=>KA p.1 p.2:=rfl
theorem zQy(f:FuncId)(args:List IX):ep P (.call f args) e h KA=zA P f (args.map (·.pv e)) h KA:=rfl
theorem zPA(f:IX)(args:List IX):ep P (.callV f args) e h KA=zFF P (f.pv e) (args.map (·.pv e)) h KA:=rfl
theorem zLD(f:FuncId)(a b args:List PV):zFF P (.clo f a b) args h KA=(okF P f=true/\zA P f (a++args++b) h KA):=rfl
theorem zOj:ofAV .undef=.undef:=rfl
theorem of_bool(b:Bool):ofAV (.bool b)=.bool b:=rfl
theorem of_int(k:IntKind)(n:Int):ofAV (.int k n)=.int k n:=rfl
theorem zRi(s:List UInt8):ofAV (.str s)=.str s:=rfl
theorem zQX:ofAV .nilp=.nilp:=rfl
theorem zQY:ofAV .nilf=.nilf:=rfl
theorem zQW:ofAV .nils=.fz true .nils 0 []:=rfl
theorem zRj(f:FuncId)(a b:List AV):ofAV (.clo f a b)=.clo f (ofAVs a) (ofAVs b):=rfl
theorem zRk(a:List AV):ofAV (.agg a)=.agg (ofAVs a):=rfl
theorem zQV:ofAVs []=[]:=rfl
theorem zOi(c:AV)(cs:List AV):ofAVs (c::cs)=ofAV c::ofAVs cs:=rfl
theorem zQU(n:Nat)(c:AV):ofAVs (List.replicate n c)=List.replicate n (ofAV c):=by rw[zGP,List.map_replicate]
theorem zOf(k:IntKind)(ek:EqK)(a b:Int):pbin .add ek (.int k a) (.int k b)=some (.int k (k.wrap (a+b))):=by simp[pbin,abin,aint,ofAV]
theorem zOV(k:IntKind)(ek:EqK)(a b:Int):pbin .sub ek (.int k a) (.int k b)=some (.int k (k.wrap (a-b))):=by simp[pbin,abin,aint,ofAV]
theorem zOZ(k:IntKind)(ek:EqK)(a b:Int):pbin .mul ek (.int k a) (.int k b)=some (.int k (k.wrap (a*b))):=by simp[pbin,abin,aint,ofAV]
theorem zOe(k:IntKind)(ek:EqK)(a b:Int):pbin .eql ek (.int k a) (.int k b)=some (.bool (decide (a=b))):=by simp[pbin,abin,aint,ofAV]
theorem zOY(k:IntKind)(ek:EqK)(a b:Int):pbin .neq ek (.int k a) (.int k b)=some (.bool (!decide (a=b))):=by simp[pbin,abin,aint,ofAV]
theorem zOa(k:IntKind)(ek:EqK)(a b:Int):pbin .lss ek (.int k a) (.int k b)=some (.bool (decide (a<b))):=by simp[pbin,abin,aint,ofAV]
theorem zOb(k:IntKind)(ek:EqK)(a b:Int):pbin .leq ek (.int k a) (.int k b)=some (.bool (decide (a<=b))):=by simp[pbin,abin,aint,ofAV]
theorem zOc(k:IntKind)(ek:EqK)(a b:Int):pbin .gtr ek (.int k a) (.int k b)=some (.bool (decide (b<a))):=by simp[pbin,abin,aint,ofAV]
theorem zOd(k:IntKind)(ek:EqK)(a b:Int):pbin .geq ek (.int k a) (.int k b)=some (.bool (decide (b<=a))):=by simp[pbin,abin,aint,ofAV]
theorem zOX(k:IntKind)(ek:EqK)(a b:Int):pbin .quo ek (.int k a) (.int k b)=if b=0 then none else some (.int k (k.wrap (a.tdiv b))):=by simp only[pbin,abin,aint,if_true];split<;>rfl
theorem zOW(k:IntKind)(ek:EqK)(a b:Int):pbin .rem ek (.int k a) (.int k b)=if b=0 then none else some (.int k (a.tmod b)):=by simp only[pbin,abin,aint,if_true];split<;>rfl
theorem zK7(n:Nat)(xs ys:List PV):pbin .eql (.ints n) (.agg xs) (.agg ys)=if xs.length=n/\ys.length=n then(paggB xs ys).bind λr=>some (.bool r)else none:=rfl
theorem zMj:paggB [] []=some true:=rfl
theorem zK8(k:IntKind)(a b:Int)(xs ys:List PV):paggB (.int k a::xs) (.int k b::ys)=(paggB xs ys).map λr=>decide (a=b) && r:=by simp[paggB]
theorem zMi(a b:Bool):pbin .eql .bool (.bool a) (.bool b)=some (.bool (a == b)):=rfl
theorem zMh(a b:Bool):pbin .neq .bool (.bool a) (.bool b)=some (.bool !(a == b)):=rfl
theorem zK6(w w':Bool)(a:AV)(n n':Nat)(cs dp:List PV):pbin .eql .slice (.fz w a n cs) (.fz w' .nils n' dp)=some (.bool (Zv a)):=rfl
theorem zJJ(w w':Bool)(a:AV)(n n':Nat)(cs dp:List PV):pbin .neq .slice (.fz w a n cs) (.fz w' .nils n' dp)=some (.bool (!Zv a)):=rfl
theorem zK5(s o n:Nat)(c:Cap)(w':Bool)(n':Nat)(dp:List PV):pbin .eql .slice (.sl s o n c) (.fz w' .nils n' dp)=some (.bool false):=rfl
theorem zJI(s o n:Nat)(c:Cap)(w':Bool)(n':Nat)(dp:List PV):pbin .neq .slice (.sl s o n c) (.fz w' .nils n' dp)=some (.bool true):=rfl
theorem zJH(ek:EqK)(a b:List UInt8):pbin .add ek (.str a) (.str b)=if a.length+b.length<=9223372036854775807 then some (.str (a++b))else none:=by simp only[pbin,astr];split<;>rfl
theorem zJG(ek:EqK)(a b:List UInt8):pbin .eql ek (.str a) (.str b)=some (.bool (a == b)):=rfl
theorem zJF(ek:EqK)(a b:List UInt8):pbin .neq ek (.str a) (.str b)=some (.bool !(a == b)):=rfl
theorem zJi:Zv .nils=true:=rfl
theorem zNK(o f n:Nat)(c:Cap):Zv (.sl o f n c)=false:=rfl
theorem zQE(k:IntKind)(n:Int):pun .neg (.int k n)=some (.int k (k.wrap (0-n))):=rfl
theorem zQD(b:Bool):pun .not (.bool b)=some (.bool !b):=rfl
theorem zLA(a b:PV):pPick (.bool true) a b=some a:=rfl
theorem zJK(a b:PV):pPick (.bool false) a b=some b:=rfl
theorem zMt(k k':IntKind)(n:Int):pConv k (.int k' n)=some (.int k (k.wrap n)):=rfl
theorem zOg(s i:Nat):pNil (.ptr s i)=some (.ptr s i):=rfl
theorem zOh(f:FuncId)(a b:List PV):pNil (.clo f a b)=some (.clo f a b):=rfl
theorem zQQ(a:AV)(c:PV)(cs:List PV):pNil (.fp a (c::cs))=some (.fp a (c::cs)):=rfl
theorem zLC(n off:Nat)(cs:List PV):zDH true n off (.agg cs)=some (.agg ((cs.drop off).take n)):=rfl
theorem zLB(n off:Nat)(cs:List PV):zDH false n off (.agg cs)=cs[off]?:=rfl
theorem zF3(off s i:Nat):zAG off (.ptr s i)=some (.ptr s (i+off)):=rfl
theorem zGp(off:Nat)(a:AV)(c:PV)(cs:List PV):zAG off (.fp a (c::cs))=some (.fp (pAdd a off) ((c::cs).drop off)):=rfl
theorem zMr(sz s off len:Nat)(c:Cap)(k:IntKind)(n:Int):zCH sz (.sl s off len c) (.int k n)=if 0<=n/\n<len then some (.ptr s (off+n.toNat*sz))else none:=rfl
theorem zMs(sz:Nat)(w:Bool)(a:AV)(len:Nat)(cs:List PV)(k:IntKind)(n:Int):zCH sz (.fz w a len cs) (.int k n)=if 0<=n/\n<len then some (.fp (pAt a (n.toNat*sz)) (cs.drop (n.toNat*sz)))else none:=rfl
theorem zJN(s:List UInt8)(k:IntKind)(n:Int):zDp (.str s) (.int k n)=if 0<=n then(s[n.toNat]?).map λc=>.int .u8 c.toNat else none:=rfl
theorem zHh(vs:List PV)(i:Nat):zCi (.tup vs) i=vs[i]?:=rfl
theorem zQS(w:Bool)(a:AV)(n:Nat)(cs:List PV):pLen (.fz w a n cs)=some (.int .i64 n):=rfl
theorem zQR(s o n:Nat)(c:Cap):pLen (.sl s o n c)=some (.int .i64 n):=rfl
theorem zJM(s:List UInt8):zDo (.str s)=some (.int .i64 s.length):=rfl
theorem zMu(w:Bool)(l:Nat)(cs:List PV):pCap (.fz w .nils l cs)=some (.int .i64 0):=rfl
theorem zQT(s o n c:Nat):pCap (.sl s o n (.known c))=some (.int .i64 c):=rfl
theorem zJL(mx:Bool)(k:IntKind)(a b:Int):zCG mx (.int k a) (.int k b)=some (.int k (if mx=true then max a b else min a b)):=by simp[zCG]
theorem zMZ(n s i:Nat):pldv false n (.ptr s i) h=h.rd1 s i:=rfl
theorem zMY(n s i:Nat):pldv true n (.ptr s i) h=(h.rd s i n).map .agg:=rfl
theorem zOS(n:Nat)(a:AV)(cs:List PV):pldv false n (.fp a cs) h=cs[0]?:=rfl
theorem zOR(n:Nat)(a:AV)(cs:List PV):pldv true n (.fp a cs) h=if 0<n/\n<=cs.length then some (.agg (cs.take n))else none:=rfl
theorem zMX:h.news []=h:=rfl
theorem zKw(z:List AV)(zs:List (List AV)):h.news (z::zs)=(h.new (ofAVs z)).news zs:=rfl
theorem zLr(recs:List RecP):zAT [] recs h=True:=by
 apply propext;refine⟨λ_=>trivial,λ_=>?_⟩
 induction recs with
 |nil=>trivial
 |cons r rs ih=>exact⟨by simp,ih⟩
theorem zJ3(c:List Nat):zAT c [] h=True:=rfl
theorem zJ4(c:List Nat)(i:Nat)(a:Bool)(n:Nat)(x v:PV)(rs:List RecP):zAT c (⟨i,a,n,x,v⟩::rs) h=((if c.contains i=true then pldv a n x h=some v else True)/\zAT c rs h):=rfl
theorem zIw(d:Option Nat)(a:Bool)(n:Nat)(x:IX)(g:Option (Nat×Bool))(i:Nat)(c:List Nat)(v:PV):qm ⟨⟨d,.load a n x,true,g⟩,i,c⟩ e v=if zBC g e=true then [⟨i,a,n,x.pv e,v⟩]else []:=rfl
theorem zMF(d:Option Nat)(x:IX)(g:Option (Nat×Bool))(i:Nat)(c:List Nat)(v:PV):qm ⟨⟨d,(.mv x),true,g⟩,i,c⟩ e v=[]:=rfl
theorem zIv(d:Option Nat)(x y z:IX)(g:Option (Nat×Bool))(i:Nat)(c:List Nat)(v:PV):qm ⟨⟨d,(.pick x y z),true,g⟩,i,c⟩ e v=[]:=rfl
theorem zKq(d:Option Nat)(op:BinOp)(ek:EqK)(x y:IX)(g:Option (Nat×Bool))(i:Nat)(c:List Nat)(v:PV):qm ⟨⟨d,(.bin op ek x y),true,g⟩,i,c⟩ e v=[]:=rfl
theorem zMD(d:Option Nat)(op:UnOp)(x:IX)(g:Option (Nat×Bool))(i:Nat)(c:List Nat)(v:PV):qm ⟨⟨d,(.un op x),true,g⟩,i,c⟩ e v=[]:=rfl
theorem zIx(d:Option Nat)(k:IntKind)(x:IX)(g:Option (Nat×Bool))(i:Nat)(c:List Nat)(v:PV):qm ⟨⟨d,(.conv k x),true,g⟩,i,c⟩ e v=[]:=rfl
theorem zE6(d:Option Nat)(x:IX)(g:Option (Nat×Bool))(i:Nat)(c:List Nat)(v:PV):qm ⟨⟨d,(.nilCheck x),true,g⟩,i,c⟩ e v=[]:=rfl
theorem zHJ(d:Option Nat)(z:List AV)(ps:List (Nat×Nat×IX))(g:Option (Nat×Bool))(i:Nat)(c:List Nat)(v:PV):qm ⟨⟨d,(.build z ps),true,g⟩,i,c⟩ e v=[]:=rfl
theorem zHI(d:Option Nat)(a:Bool)(n off:Nat)(x:IX)(g:Option (Nat×Bool))(i:Nat)(c:List Nat)(v:PV):qm ⟨⟨d,(.field a n off x),true,g⟩,i,c⟩ e v=[]:=rfl
theorem zEU(d:Option Nat)(off:Nat)(x:IX)(g:Option (Nat×Bool))(i:Nat)(c:List Nat)(v:PV):qm ⟨⟨d,(.fieldAddr off x),true,g⟩,i,c⟩ e v=[]:=rfl
theorem zET(d:Option Nat)(sz:Nat)(x y:IX)(g:Option (Nat×Bool))(i:Nat)(c:List Nat)(v:PV):qm ⟨⟨d,(.indexAddr sz x y),true,g⟩,i,c⟩ e v=[]:=rfl
theorem zE8(d:Option Nat)(x y:IX)(g:Option (Nat×Bool))(i:Nat)(c:List Nat)(v:PV):qm ⟨⟨d,(.indexStr x y),true,g⟩,i,c⟩ e v=[]:=rfl
theorem zF1(d:Option Nat)(x:IX)(j:Nat)(g:Option (Nat×Bool))(i:Nat)(c:List Nat)(v:PV):qm ⟨⟨d,(.extract x j),true,g⟩,i,c⟩ e v=[]:=rfl
theorem zKo(d:Option Nat)(x:IX)(g:Option (Nat×Bool))(i:Nat)(c:List Nat)(v:PV):qm ⟨⟨d,(.len x),true,g⟩,i,c⟩ e v=[]:=rfl
theorem zGl(d:Option Nat)(x:IX)(g:Option (Nat×Bool))(i:Nat)(c:List Nat)(v:PV):qm ⟨⟨d,(.lenStr x),true,g⟩,i,c⟩ e v=[]:=rfl
theorem zKp(d:Option Nat)(x:IX)(g:Option (Nat×Bool))(i:Nat)(c:List Nat)(v:PV):qm ⟨⟨d,(.cap x),true,g⟩,i,c⟩ e v=[]:=rfl
theorem zHH(d:Option Nat)(sz:Nat)(x:IX)(lo hi mx:Option IX)(g:Option (Nat×Bool))(i:Nat)(c:List Nat)(v:PV):qm ⟨⟨d,(.slice sz x lo hi mx),true,g⟩,i,c⟩ e v=[]:=rfl
theorem zE5(d:Option Nat)(x:IX)(lo hi:Option IX)(g:Option (Nat×Bool))(i:Nat)(c:List Nat)(v:PV):qm ⟨⟨d,(.sliceStr x lo hi),true,g⟩,i,c⟩ e v=[]:=rfl
theorem zGk(d:Option Nat)(mx:Bool)(x y:IX)(g:Option (Nat×Bool))(i:Nat)(c:List Nat)(v:PV):qm ⟨⟨d,(.maxmin mx x y),true,g⟩,i,c⟩ e v=[]:=rfl
theorem zE7(d:Option Nat)(f:FuncId)(y z:List IX)(g:Option (Nat×Bool))(i:Nat)(c:List Nat)(v:PV):qm ⟨⟨d,(.makeFunc f y z),true,g⟩,i,c⟩ e v=[]:=rfl
theorem zKn(d:Option Nat)(j:Nat)(g:Option (Nat×Bool))(i:Nat)(c:List Nat)(v:PV):qm ⟨⟨d,(.rev j),true,g⟩,i,c⟩ e v=[]:=rfl
theorem zIu(d:Option Nat)(j m:Nat)(g:Option (Nat×Bool))(i:Nat)(c:List Nat)(v:PV):qm ⟨⟨d,(.revS j m),true,g⟩,i,c⟩ e v=[]:=rfl
theorem zG4:zBC none e=true:=rfl
theorem zG3(t:Nat)(b:Bool):zBC (some (t,b)) e=(match e t with | .bool c=>decide (c=b)|_=>false):=rfl
theorem zKl:Zt [] e h=some []:=rfl
theorem zKk(t:Nat)(r:List IRes):Zt (.tmp t::r) e h=(Zt r e h).map λvs=>e t::vs:=rfl
theorem zIp(t:Nat)(a:Bool)(n:Nat)(r:List IRes):Zt (.cell t a n::r) e h=(pldv a n (e t) h).bind λv=>(Zt r e h).map λvs=>v::vs:=rfl
theorem zIs(res:List IRes):retP res KA .normal e h=optK (Zt res e h) λvs=>KA (packP vs) h:=rfl
theorem zN3(res:List IRes):retP res KA .ret e h=optK (Zt res e h) λvs=>KA (packP vs) h:=rfl
theorem zMo(v:PV):packP [v]=v:=rfl
theorem zMp:packP []=.tup []:=rfl
theorem zMn(u v:PV)(r:List PV):packP (u::v::r)=.tup (u::v::r):=rfl
theorem zMc(cs:List PV):pfill cs []=some cs:=rfl
theorem zKx(cs:List PV)(off size:Nat)(v:PV)(r:List (Nat×Nat×PV)):pfill cs ((off,size,v)::r)=if v.cells.length=size/\off+size<=cs.length/\v.cells.all PV.one=true then pfill (cs.take off++v.cells++cs.drop (off+size)) r else none:=rfl
theorem zK1(k:IntKind)(n:Int):PV.cells (.int k n)=[(.int k n)]:=rfl
theorem zON(k:IntKind)(n:Int):PV.one (.int k n)=true:=rfl
theorem zJE(b:Bool):PV.cells (.bool b)=[(.bool b)]:=rfl
theorem zMT(b:Bool):PV.one (.bool b)=true:=rfl
theorem zKz(s:List UInt8):PV.cells (.str s)=[(.str s)]:=rfl
theorem zOL(s:List UInt8):PV.one (.str s)=true:=rfl
theorem zJC:PV.cells .nilp=[.nilp]:=rfl
theorem zMR:PV.one .nilp=true:=rfl
theorem zJD:PV.cells .nilf=[.nilf]:=rfl
theorem zMS:PV.one .nilf=true:=rfl
theorem zMe(w:Bool)(a:AV)(n:Nat)(cs:List PV):PV.cells (.fz w a n cs)=[(.fz w a n cs)]:=rfl
theorem zQH(w:Bool)(a:AV)(n:Nat)(cs:List PV):PV.one (.fz w a n cs)=true:=rfl
theorem zMf(a:AV)(cs:List PV):PV.cells (.fp a cs)=[(.fp a cs)]:=rfl
theorem zQI(a:AV)(cs:List PV):PV.one (.fp a cs)=true:=rfl
theorem zK0(s i:Nat):PV.cells (.ptr s i)=[(.ptr s i)]:=rfl
theorem zOM(s i:Nat):PV.one (.ptr s i)=true:=rfl
theorem zMd(s o n:Nat)(c:Cap):PV.cells (.sl s o n c)=[(.sl s o n c)]:=rfl
theorem zQG(s o n:Nat)(c:Cap):PV.one (.sl s o n c)=true:=rfl
theorem zK2(f:FuncId)(a b:List PV):PV.cells (.clo f a b)=[(.clo f a b)]:=rfl
theorem zOO(f:FuncId)(a b:List PV):PV.one (.clo f a b)=true:=rfl
theorem zK3(cs:List PV):PV.cells (.agg cs)=cs:=rfl
theorem zCh(k:IntKind)(i:Int)(y:Nat):Qb (.int k i) y=if 0<=i/\i<=y then some i.toNat else none:=rfl
theorem zBZ(x:PV)(d y:Nat):qN (some x) d y=Qb x y:=rfl
theorem zBa(d y:Nat):qN none d y=some d:=rfl
theorem zMN(sz:Nat)(w:Bool)(a:AV)(len:Nat)(cs:List PV)(lo hi:Option PV):Z9 sz (.fz w a len cs) lo hi none=(qN hi len len).bind λh=>(qN lo 0 h).bind λl=>some (.fz false (pslA sz a l h) (h-l) ((cs.drop (l*sz)).take ((h-l)*sz))):=rfl
theorem zDD(sz s off len c:Nat)(lo hi mx:Option PV):Z9 sz (.sl s off len (.known c)) lo hi mx=(qN mx c c).bind λm=>(qN hi len m).bind λh=>(qN lo 0 h).bind λl=>if hi.isNone=true/\mx.isSome=true then none else some (.sl s (if m=l then off else off+l*sz) (h-l) (.known (m-l))):=rfl
theorem zDE(sz s off len g:Nat)(lo hi:Option PV):Z9 sz (.sl s off len (.grown g)) lo hi none=(qN hi len len).bind λh=>(qN lo 0 h).bind λl=>some (.sl s (off+l*sz) (h-l) (.grown (if g=sz then g else 0))):=rfl
theorem zGm(s:List UInt8)(lo hi:Option PV):zBq (.str s) lo hi=(qN hi s.length s.length).bind λh=>(qN lo 0 h).bind λl=>some (.str ((s.take h).drop l)):=rfl
theorem zQM(w:Bool)(a:AV)(n:Nat)(cs:List PV):plen (.fz w a n cs)=some n:=rfl
theorem zQL(s o n:Nat)(c:Cap):plen (.sl s o n c)=some n:=rfl
theorem zAF(sz bytes:Nat)(s x:PV):ZZ sz bytes h s x=(plen x).bind λm=>if m=0 then(psame s).map λv=>(v,h)else(QA sz h x m).bind λnews=>pgrow sz bytes h s news m:=rfl
theorem zI8(s o n c:Nat):psame (.sl s o n (.known c))=if n<=c then some (.sl s o n (.known c))else none:=rfl
theorem zMb(sz:Nat)(w:Bool)(a:AV)(len:Nat)(cs:List PV)(n:Nat):QA sz h (.fz w a len cs) n=if n=0 then some []else if n<=len/\n*sz<=cs.length/\0<sz then some (cs.take (n*sz))else none:=rfl
theorem Qq(sz s off len:Nat)(c:Cap)(n:Nat):QA sz h (.sl s off len c) n=if n=0 then some []else if n<=len then h.rd s off (n*sz)else none:=rfl
theorem zFD(sz bytes:Nat)(w:Bool)(n:Nat)(cs news:List PV)(m:Nat):pgrow sz bytes h (.fz w .nils n cs) news m=if m*bytes<=140737488355328/\m<=4611686018427387904 then some (.sl h.next 0 m (.grown sz),h.new news)else none:=rfl
theorem zAh(sz bytes s off len c:Nat)(news:List PV)(m:Nat):pgrow sz bytes h (.sl s off len (.known c)) news m=if len+m<=c then(h.wr s (off+len*sz) news).map λσ'=>(.sl s off (len+m) (.known c),σ')else if (len+m)*bytes<=140737488355328/\len+m<=4611686018427387904 then(h.rd s off (len*sz)).map λcX=>(.sl h.next 0 (len+m) (.grown sz),h.new (cX++news))else none:=rfl
theorem zAi(sz bytes s off len g:Nat)(news:List PV)(m:Nat):pgrow sz bytes h (.sl s off len (.grown g)) news m=if (len+m)*bytes<=140737488355328/\len+m<=4611686018427387904/\g=sz then(h.obj s).bind λcs=>if off+len*sz<=cs.length then some (.sl h.next 0 (len+m) (.grown sz),(h.kill s).new ((cs.drop off).take (len*sz)++news))else none else none:=rfl
theorem zOJ(cs:List PV)(s i:Nat):(h.new cs).rd1 s i=if s=h.next then cs[i]? else h.rd1 s i:=by by_cases x:s=h.next<;>simp[PHeap.rd1,PHeap.new,x]
theorem zAb(cs:List PV)(s i n:Nat):(h.new cs).rd s i n=if s=h.next then(if i+n<=cs.length then some ((cs.drop i).take n)else none)else h.rd s i n:=by by_cases x:s=h.next<;>simp[PHeap.rd,PHeap.new,x]
theorem qa(cs:List PV)(s:Nat):(h.new cs).obj s=if s=h.next then some cs else h.obj s:=rfl
theorem zQC(cs:List PV)(s i:Nat)(vs:List PV):(h.new cs).wr s i vs=if s=h.next then(if i+vs.length<=cs.length/\vs.all PV.one=true then some (h.new (cs.take i++vs++cs.drop (i+vs.length)))else none)else(h.wr s i vs).map λh'=>h'.new cs:=by
 by_cases x:s=h.next
 .subst x;simp only[PHeap.wr,PHeap.new,if_true,Option.bind_some];split
  .congr 1;simp only[PHeap.set];congr 1;funext y;by_cases hy:y=h.next<;>simp[hy]
  .rfl
 .simp only[PHeap.wr,PHeap.new,if_neg x];cases ho:h.obj s with
  |none=>rfl
  |some ob=>
   simp only[Option.bind_some];split
   .simp only[Option.map_some,PHeap.set];congr 2;funext y;by_cases hy:y=s
    .subst hy;simp[x]
    .simp[hy]
   .rfl
theorem zMW(cs:List PV):(h.new cs).next=h.next+1:=rfl
theorem zEV(cs:List PV):(h.new cs).top=h.top:=rfl
theorem zOG(cs:List PV)(s:Nat)(ds:List PV):(h.new cs).set s ds=if s=h.next then h.new ds else(h.set s ds).new cs:=by
 by_cases x:s=h.next
 .subst x;rw[if_pos rfl];simp only[PHeap.set,PHeap.new];congr 1;funext y;by_cases hy:y=h.next<;>simp[hy]
 .rw[if_neg x];simp only[PHeap.set,PHeap.new];congr 1;funext y;by_cases hy:y=s
  .subst hy;simp[x]
  .simp[hy]
theorem zAa(s:Nat)(cs ds:List PV):(h.set s cs).set s ds=h.set s ds:=by
 simp only[PHeap.set];congr 1;funext y;by_cases hy:y=s<;>simp[hy]
theorem zMV(s:Nat)(cs:List PV):(h.set s cs).next=h.next:=rfl
theorem zKv(s:Nat):(h.kill s).next=h.next:=rfl
theorem zOP(t:Nat):(h.up t).next=h.next:=rfl
theorem zCF(t:Nat):(h.up t).top=t:=rfl
theorem zQK(t:Nat)(cs:List PV):(h.up t).new cs=(h.new cs).up t:=rfl
theorem zQF(t s i:Nat):(h.up t).rd1 s i=h.rd1 s i:=rfl
theorem zRd(t s i n:Nat):(h.up t).rd s i n=h.rd s i n:=rfl
theorem zQJ(t s:Nat):(h.up t).obj s=h.obj s:=rfl
theorem zRb(t s i:Nat)(vs:List PV):(h.up t).wr s i vs=(h.wr s i vs).map λh'=>h'.up t:=by
 simp only[PHeap.wr,PHeap.up];cases h.obj s with
 |none=>rfl
 |some cs=>simp only[Option.bind_some];split<;>rfl
theorem zMU(s t:Nat):(h.kill s).obj t=if t=s then none else h.obj t:=rfl
theorem zI(s:Nat)(cs:List PV)(t:Nat):(h.set s cs).obj t=if t=s then some cs else h.obj t:=rfl
theorem zMO(s t i:Nat):(h.kill s).rd1 t i=if t=s then none else h.rd1 t i:=by by_cases x:t=s<;>simp[PHeap.rd1,PHeap.kill,x]
theorem zOH(s t i n:Nat):(h.kill s).rd t i n=if t=s then none else h.rd t i n:=by by_cases x:t=s<;>simp[PHeap.rd,PHeap.kill,x]
theorem zOI(s:Nat)(cs:List PV)(t i:Nat):(h.set s cs).rd1 t i=if t=s then cs[i]? else h.rd1 t i:=by by_cases x:t=s<;>simp[PHeap.rd1,PHeap.set,x]
theorem zDn(s:Nat)(cs:List PV)(t i n:Nat):(h.set s cs).rd t i n=if t=s then(if i+n<=cs.length then some ((cs.drop i).take n)else none)else h.rd t i n:=by by_cases x:t=s<;>simp[PHeap.rd,PHeap.set,x]
theorem zQB(s:Nat)(cs:List PV)(i:Nat)(vs:List PV):(h.set s cs).wr s i vs=if i+vs.length<=cs.length/\vs.all PV.one=true then some (h.set s (cs.take i++vs++cs.drop (i+vs.length)))else none:=by
 simp only[PHeap.wr,PHeap.set,if_true,Option.bind_some];split
 .congr 2;funext y;by_cases hy:y=s<;>simp[hy]
 .rfl
end
def pw0:=And.intro @zPj <| And.intro @zLt <| And.intro @zPl <| And.intro @zRI <| And.intro @zPm <| And.intro @zNr <| And.intro @zPk <| And.intro @zRJ <| And.intro @zRB <| And.intro @RVp_q <| And.intro @RVp_e <| And.intro @zRF <| And.intro @DVp_q <| And.intro @DVp_e <| And.intro @zOz <| And.intro @zOy <| And.intro @zO1 <| And.intro @zO0 <| And.intro @zJA <| And.intro @zHe <| And.intro @zKy <| And.intro @zJB <| And.intro @zHc <| And.intro @zHa <| And.intro @zHZ <| And.intro @zHb <| And.intro @pv_t <| And.intro @pv_c <| And.intro @zOQ <| @zMP
def pw1:=And.intro @zMQ <| And.intro @qp_mv <| And.intro @zP8 <| And.intro @zRa <| And.intro @qp_un <| And.intro @zQA <| And.intro @zI4 <| And.intro @zOD <| And.intro @zOC <| And.intro @zHO <| And.intro @zHN <| And.intro @zI6 <| And.intro @zKs <| And.intro @zRY <| And.intro @zMK <| And.intro @zRZ <| And.intro @zOB <| And.intro @zI3 <| And.intro @zMJ <| And.intro @zI5 <| And.intro @zP9 <| And.intro @zRX <| And.intro @zP7 <| And.intro @zPB <| And.intro @zRx <| And.intro @zLT <| And.intro @zO9 <| And.intro @zK9 <| And.intro @zNR <| And.intro @zJt <| @zJO
def pw2:=And.intro @zMq <| And.intro @zNS <| And.intro @zQx <| And.intro @zQy <| And.intro @zPA <| And.intro @zLD <| And.intro @zOj <| And.intro @of_bool <| And.intro @of_int <| And.intro @zRi <| And.intro @zQX <| And.intro @zQY <| And.intro @zQW <| And.intro @zRj <| And.intro @zRk <| And.intro @zQV <| And.intro @zOi <| And.intro @zQU <| And.intro @zOf <| And.intro @zOV <| And.intro @zOZ <| And.intro @zOe <| And.intro @zOY <| And.intro @zOa <| And.intro @zOb <| And.intro @zOc <| And.intro @zOd <| And.intro @zOX <| And.intro @zOW <| @zK7
def pw3:=And.intro @zMj <| And.intro @zK8 <| And.intro @zMi <| And.intro @zMh <| And.intro @zK6 <| And.intro @zJJ <| And.intro @zK5 <| And.intro @zJI <| And.intro @zJH <| And.intro @zJG <| And.intro @zJF <| And.intro @zJi <| And.intro @zNK <| And.intro @zQE <| And.intro @zQD <| And.intro @zLA <| And.intro @zJK <| And.intro @zMt <| And.intro @zOg <| And.intro @zOh <| And.intro @zQQ <| And.intro @zLC <| And.intro @zLB <| And.intro @zF3 <| And.intro @zGp <| And.intro @zMr <| And.intro @zMs <| And.intro @zJN <| And.intro @zHh <| @zQS
def pw4:=And.intro @zQR <| And.intro @zJM <| And.intro @zMu <| And.intro @zQT <| And.intro @zJL <| And.intro @zMZ <| And.intro @zMY <| And.intro @zOS <| And.intro @zOR <| And.intro @zMX <| And.intro @zKw <| And.intro @zLr <| And.intro @zJ3 <| And.intro @zJ4 <| And.intro @zIw <| And.intro @zMF <| And.intro @zIv <| And.intro @zKq <| And.intro @zMD <| And.intro @zIx <| And.intro @zE6 <| And.intro @zHJ <| And.intro @zHI <| And.intro @zEU <| And.intro @zET <| And.intro @zE8 <| And.intro @zF1 <| And.intro @zKo <| And.intro @zGl <| @zKp
def pw5:=And.intro @zHH <| And.intro @zE5 <| And.intro @zGk <| And.intro @zE7 <| And.intro @zKn <| And.intro @zIu <| And.intro @zG4 <| And.intro @zG3 <| And.intro @zKl <| And.intro @zKk <| And.intro @zIp <| And.intro @zIs <| And.intro @zN3 <| And.intro @zMo <| And.intro @zMp <| And.intro @zMn <| And.intro @zMc <| And.intro @zKx <| And.intro @zK1 <| And.intro @zON <| And.intro @zJE <| And.intro @zMT <| And.intro @zKz <| And.intro @zOL <| And.intro @zJC <| And.intro @zMR <| And.intro @zJD <| And.intro @zMS <| And.intro @zMe <| And.intro @zQH <| @zMf
def pw6:=And.intro @zQI <| And.intro @zK0 <| And.intro @zOM <| And.intro @zMd <| And.intro @zQG <| And.intro @zK2 <| And.intro @zOO <| And.intro @zK3 <| And.intro @zCh <| And.intro @zBZ <| And.intro @zBa <| And.intro @zMN <| And.intro @zDD <| And.intro @zDE <| And.intro @zGm <| And.intro @zQM <| And.intro @zQL <| And.intro @zOJ <| And.intro @zAb <| And.intro @qa <| And.intro @zQC <| And.intro @zMW <| And.intro @zEV <| And.intro @zOG <| And.intro @zAa <| And.intro @zMV <| And.intro @zKv <| And.intro @zOP <| And.intro @zCF <| @zQK
def pw7:=And.intro @zQF <| And.intro @zRd <| And.intro @zQJ <| And.intro @zRb <| And.intro @zMU <| And.intro @zI <| And.intro @zMO <| And.intro @zOH <| And.intro @zOI <| And.intro @zDn <| And.intro @zQB <| And.intro @zR <| And.intro @zT <| And.intro @zi <| And.intro @qK <| And.intro @List.map_cons.{0,0} <| And.intro @List.map_nil.{0,0} <| And.intro @List.length_cons.{0} <| And.intro @List.length_nil.{0} <| And.intro @List.getElem?_cons_zero.{0} <| And.intro @List.getElem?_cons_succ.{0} <| And.intro @List.take_succ_cons.{0} <| And.intro @List.take_zero.{0} <| And.intro @List.drop_succ_cons.{0} <| And.intro @List.drop_zero.{0} <| And.intro @List.take_nil.{0} <| And.intro @List.drop_nil.{0} <| And.intro @List.nil_append.{0} <| And.intro @List.cons_append.{0} <| @List.append_nil.{0}
def pw8:=And.intro @List.all_cons.{0} <| And.intro @List.all_nil.{0} <| And.intro @List.contains_cons.{0} <| And.intro @List.contains_nil.{0} <| And.intro @Option.map_some.{0,0} <| And.intro @Option.map_none.{0,0} <| And.intro @Option.bind_some.{0,0} <| And.intro @Option.bind_none.{0,0} <| And.intro @decide_true <| And.intro @decide_false <| And.intro @Bool.not_true <| And.intro @Bool.not_false <| And.intro @Bool.and_true <| And.intro @Bool.true_and <| And.intro @Bool.and_self <| And.intro @Bool.or_false <| And.intro @Bool.or_true <| And.intro @Bool.true_or <| And.intro @Bool.false_or <| And.intro @true_and <| And.intro @and_true <| And.intro @Bool.true_eq_false <| And.intro @Bool.false_eq_true <| And.intro @Nat.left_eq_add <| And.intro @Nat.add_eq_left <| And.intro @Nat.succ_ne_self <| And.intro @Nat.one_ne_zero <| And.intro @Nat.add_left_cancel_iff <| And.intro @Nat.add_assoc <| @Nat.mul_one
def pw9:=And.intro @Nat.zero_add <| And.intro @Nat.add_zero <| And.intro @vH <| And.intro @Nat.lt_add_one <| And.intro @Int.toNat_natCast <| And.intro @Int.natCast_nonneg <| And.intro @Int.ofNat_lt <| And.intro @Int.le_refl <| And.intro @zU <| And.intro @zV <| And.intro @zM <| And.intro @Nat.one_mul <| @Nat.zero_mul
def Z3:=And.intro pw0 <| And.intro pw1 <| And.intro pw2 <| And.intro pw3 <| And.intro pw4 <| And.intro pw5 <| And.intro pw6 <| And.intro pw7 <| And.intro pw8 <| And.intro pw9 <| And.intro @nm_eq <| And.intro @eq_self.{1} <| And.intro @Int.ofNat_le @List.getElem?_drop.{0}
end Go.Ab
set_option linter.unusedVariables false
set_option linter.unusedSimpArgs false
namespace Go.Ab
section
variable{P:Program}
@[congr] theorem cg_vp {c:IC} {Q:Exit->PEnv->PHeap->Prop} {e e':PEnv} {h h':PHeap} (h1:nm e=e') (h2:h=h'):vp P c Q e h=vp P c Q e' h':=by rw[nm_eq]at h1;rw[h1,h2]
@[congr] theorem zSX {aE:List II} {K:PEnv->PHeap->Prop} {e e':PEnv} {h h':PHeap} (h1:nm e=e') (h2:h=h'):RVp P aE e h K=RVp P aE e' h' K:=by rw[nm_eq]at h1;rw[h1,h2]
@[congr] theorem zSZ {nb nE nr wF:Nat} {aE:List DI} {recs bK:List RecP} {K:PEnv->PHeap->Prop} {e e':PEnv} {h h':PHeap} (h0:nm nb=nE) (h4:nr=wF) (h1:recs=bK) (h2:e=e') (h3:h=h'):DVp P nb nr aE recs e h K=DVp P nE wF aE bK e' h' K:=by rw[nm_eq]at h0;rw[h0,h1,h2,h3,h4]
@[congr] theorem zSU {it:II} {K:PV->PHeap->Prop} {e e':PEnv} {h h':PHeap} (h1:nm e=e') (h2:h=h'):gep P it e h K=gep P it e' h' K:=by rw[nm_eq]at h1;rw[h1,h2]
@[congr] theorem cg_ep {op:IOp} {K:PV->PHeap->Prop} {e e':PEnv} {h h':PHeap} (h1:nm e=e') (h2:h=h'):ep P op e h K=ep P op e' h' K:=by rw[nm_eq]at h1;rw[h1,h2]
@[congr] theorem zSN {f:FuncId} {K:PV->PHeap->Prop} {args bW:List PV} {h h':PHeap} (h1:nm args=bW) (h2:h=h'):zA P f args h K=zA P f bW h' K:=by rw[nm_eq]at h1;rw[h1,h2]
@[congr] theorem zSH {n:Nat} {K:PV->PHeap->Prop} {x x' v v':PV} {h h':PHeap} (h0:nm x=x') (h1:v=v') (h2:h=h'):zFE n x v h K=zFE n x' v' h' K:=by rw[nm_eq]at h0;rw[h0,h1,h2]
@[congr] theorem zSP {sz b:Nat} {z:List AV} {K:PV->PHeap->Prop} {x x' v v':PV} {h h':PHeap} (h0:nm x=x') (h1:v=v') (h2:h=h'):pMake sz b z x v h K=pMake sz b z x' v' h' K:=by rw[nm_eq]at h0;rw[h0,h1,h2]
@[congr] theorem zSJ {sz b:Nat} {z:List AV} {K:PV->PHeap->Prop} {x x' v v':PV} {h h':PHeap} (h0:nm x=x') (h1:v=v') (h2:h=h'):zFG sz b z x v h K=zFG sz b z x' v' h' K:=by rw[nm_eq]at h0;rw[h0,h1,h2]
@[congr] theorem zSI {K:PV->PHeap->Prop} {f f':PV} {args bW:List PV} {h h':PHeap} (h0:nm f=f') (h1:args=bW) (h2:h=h'):zFF P f args h K=zFF P f' bW h' K:=by rw[nm_eq]at h0;rw[h0,h1,h2]
@[congr] theorem zSG {v v':PV} {a b:Prop} (h0:nm v=v'):Z6 v a b=Z6 v' a b:=by rw[nm_eq]at h0;rw[h0]
@[congr] theorem zSF {v v':PV} {b:Bool} {x y:Prop} (h0:nm v=v'):Zi v b x y=Zi v' b x y:=by rw[nm_eq]at h0;rw[h0]
end
def pis(xs:L3):List PV:=xs.map (.int .i64)
theorem zHY(x:Int)(xs:L3):pis (x::xs)=.int .i64 x::pis xs:=rfl
theorem zK(xs:L3):(pis xs).length=xs.length:=by simp[pis]
theorem zQ(xs:L3)(k:Nat):(pis xs)[k]? = (xs[k]?).map (.int .i64):=by simp[pis]
theorem zQO(xs:L3)(k:Nat)(x:Int):(pis xs).set k (.int .i64 x)=pis (xs.set k x):=by simp[pis,List.map_set]
theorem zFB(xs ys:L3):pis xs++pis ys=pis (xs++ys):=by simp[pis]
theorem zHX(xs:L3)(k:Nat):(pis xs).take k=pis (xs.take k):=by simp[pis,List.map_take]
theorem zOU(xs:L3)(k:Nat):(pis xs).drop k=pis (xs.drop k):=by simp[pis,List.map_drop]
theorem Zg(n:Nat)(x:Int):List.replicate n (PV.int .i64 x)=pis (List.replicate n x):=by simp[pis]
theorem zN(n:Nat)(xs:L3):Bels n (pis xs):=by
 induction xs with
 |nil=>trivial
 |cons x xs ih=>exact⟨trivial,ih⟩
theorem qM{xs:L3}{i:Nat}(hi:i<xs.length){x:Int}:(pis xs).take i++[.int .i64 x]++(pis xs).drop (i+1)=pis (xs.set i x):=by
 rw[<-zQO,List.set_eq_take_append_cons_drop,if_pos (by rw[zK];exact hi),List.append_assoc,List.singleton_append]
theorem zER{h:PHeap}{s:Nat}{cs:List PV}(hs:h.obj s=some cs):h.set s cs=h:=by
 cases h with
 |mk n t f=>
  simp only[PHeap.set];congr 1;funext y;by_cases hy:y=s
  .subst hy;simp at hs ⊢;exact hs.symm
  .simp[hy]
theorem take_set{α:Type}(xs:List α){i:Nat}(hi:i<xs.length)(v:α):xs.take i++v::xs.drop (i+1)=xs.set i v:=by
 rw[List.set_eq_take_append_cons_drop,if_pos hi]
theorem gi{α:Type}{xs:List α}{i:Nat}(hi:i<xs.length):xs[i]? = some xs[i]:=List.getElem?_eq_getElem hi
def sm(a:Int):Prop:=-4611686018427387904<=a/\a<=4611686018427387904
theorem sm.w{a:Int}(h:sm a):IntKind.i64.wrap a=a:=wrap64 (by have:=h.1;omega) (by have:=h.2;omega)
theorem mk8{n:Nat}(h:n<=4294967296):(n:Int)*((8:Nat):Int)<=140737488355328:=by omega
theorem mk24{n:Nat}(h:n<=4294967296):(n:Int)*((24:Nat):Int)<=140737488355328:=by omega
theorem mkL{n:Nat}(h:n<=4294967296):(n:Int)<=9223372036854775807:=by omega
def subm(k:Int)(xs ys:L3):L3:=List.zipWith (λx y=>x-k*y) xs ys
theorem zD5{k:Int}{xs ys:L3}(h:xs.length<=ys.length):(subm k xs ys).length=xs.length:=by simp[subm];omega
theorem zNv{k:Int}{xs ys:L3}{i:Nat}(h1:i<xs.length)(h2:i<ys.length):(subm k xs ys)[i]? = some (xs[i] - k*ys[i]):=by
 simp[subm,List.getElem?_zipWith,gi h1,gi h2]
def FI(v:PV)(xs:L3):Prop:=∃w a,v=.fz w a xs.length (pis xs)
def FL{α:Type}(R:PV->α->Prop)(v:PV)(xs:List α):Prop:=∃w a rows,v=.fz w a xs.length rows/\All2 R rows xs
abbrev FII:PV->L4->Prop:=FL FI
abbrev FIII:PV->L5->Prop:=FL FII
theorem FI.one{v:PV}{xs:L3}(h:FI v xs):v.one=true:=by obtain⟨w,a,rfl⟩:=h;rfl
theorem FI.cells{v:PV}{xs:L3}(h:FI v xs):v.cells=[v]:=by obtain⟨w,a,rfl⟩:=h;rfl
theorem FI.bel{v:PV}{xs:L3}(h:FI v xs)(n:Nat):Bel n v:=by obtain⟨w,a,rfl⟩:=h;trivial
theorem FL.one{α:Type}{R:PV->α->Prop}{v:PV}{xs:List α}(h:FL R v xs):v.one=true:=by obtain⟨w,a,r,rfl,_⟩:=h;rfl
theorem FL.cells{α:Type}{R:PV->α->Prop}{v:PV}{xs:List α}(h:FL R v xs):v.cells=[v]:=by obtain⟨w,a,r,rfl,_⟩:=h;rfl
theorem FL.bel{α:Type}{R:PV->α->Prop}{v:PV}{xs:List α}(h:FL R v xs)(n:Nat):Bel n v:=by obtain⟨w,a,r,rfl,_⟩:=h;trivial
theorem FI.sb{v:PV}{xs:L3}(h:FI v xs)(s o:Nat)(cs:List PV):sb s o cs v=v:=by obtain⟨w,a,rfl⟩:=h;rfl
theorem FL.sb{α:Type}{R:PV->α->Prop}{v:PV}{xs:List α}(h:FL R v xs)(s o:Nat)(cs:List PV):sb s o cs v=v:=by obtain⟨w,a,r,rfl,_⟩:=h;rfl
theorem All2.rowI{rows:List PV}{j8:L4}(h:All2 FI rows j8){k:Nat}(hk:k<j8.length):∃w a,rows[k]? = some (.fz w a j8[k].length (pis j8[k])):=by
 obtain⟨r,h1,w,a,rfl⟩:=h.get hk;exact⟨w,a,h1⟩
theorem All2.rowL{α:Type}{R:PV->α->Prop}{rows:List PV}{j8:List (List α)}(h:All2 (FL R) rows j8){k:Nat}(hk:k<j8.length):∃w a rs,rows[k]? = some (.fz w a j8[k].length rs)/\All2 R rs j8[k]:=by
 obtain⟨r,h1,w,a,rs,rfl,h2⟩:=h.get hk;exact⟨w,a,rs,h1,h2⟩
theorem All2.bels{α:Type}{R:PV->α->Prop}{n:Nat}{rows:List PV}{xs:List α}(h:All2 R rows xs)(hb:∀v x,R v x->Bel n v):Bels n rows:=by
 rw[zEu];intro c hc;obtain⟨k,hk,rfl⟩:=List.mem_iff_getElem.1 hc;exact hb _ _ (h.2 k _ (xs[k]'(by rw[<-h.1];exact hk)) (List.getElem?_eq_getElem hk) (List.getElem?_eq_getElem _))
theorem All2.bI{rows:List PV}{xs:L4}(h:All2 FI rows xs)(n:Nat):Bels n rows:=h.bels λ_ _ k=>k.bel n
theorem All2.bL{α:Type}{R:PV->α->Prop}{rows:List PV}{xs:List (List α)}(h:All2 (FL R) rows xs)(n:Nat):Bels n rows:=h.bels λ_ _ k=>k.bel n
theorem All2.take{α β:Type}{R:α->β->Prop}{as:List α}{bs:List β}(h:All2 R as bs)(k:Nat):All2 R (as.take k) (bs.take k):=by
 refine⟨by simp[h.1],λj a b ha hb=>?_⟩;rw[List.getElem?_take]at ha hb;split at ha
 .exact h.2 j a b ha (by simpa [*]using hb)
 .cases ha
theorem All2.drop{α β:Type}{R:α->β->Prop}{as:List α}{bs:List β}(h:All2 R as bs)(k:Nat):All2 R (as.drop k) (bs.drop k):=by
 refine⟨by simp[h.1],λj a b ha hb=>?_⟩;rw[List.getElem?_drop]at ha hb;exact h.2 _ a b ha hb
theorem All2.append{α β:Type}{R:α->β->Prop}{as cs:List α}{bs ds:List β}(h:All2 R as bs)(g:All2 R cs ds):All2 R (as++cs) (bs++ds):=by
 refine⟨by simp[h.1,g.1],λj a b ha hb=>?_⟩;rcases Nat.lt_or_ge j as.length with x|x
 .rw[List.getElem?_append_left x]at ha;rw[List.getElem?_append_left (by rw[<-h.1];exact x)]at hb;exact h.2 j a b ha hb
 .rw[List.getElem?_append_right x]at ha;rw[List.getElem?_append_right (by rw[<-h.1];exact x),<-h.1]at hb;exact g.2 _ a b ha hb
theorem zF{P:Program}{Q:Exit->PEnv->PHeap->Prop}{e:PEnv}{h:PHeap}{S:List Nat}{c:IC}(I:Nat->List PV->PHeap->Prop)(n:Nat)(h0:I n (S.map e) h)
  (round:∀n vs h,I n vs h->vp P c (λx e' h'=>match x with | .normal=>∃n',n'<n/\I n' (S.map e') h'|x=>Q x e' h') (PEnv.mk S vs) h):vp P (.loop S c) Q e h:=
 ⟨I,⟨n,.here h0⟩,λn vs h hI=>zAV c (λx e h k=>by cases x<;>first|exact k.imp λ_ q=>⟨q.1,.here q.2⟩|exact k) (round n vs h hI)⟩
theorem zBR{P:Program}{Q:Exit->PEnv->PHeap->Prop}{e:PEnv}{h:PHeap}{S:List Nat}{c:IC}(I:Nat->List PV->PHeap->Prop)(n:Nat)(h0:GL (I n) (S.map e) h)
  (round:∀n vs h,I n vs h->vp P c (λx e' h'=>match x with | .normal=>∃n',n'<n/\GL (I n') (S.map e') h'|x=>Q x e' h') (PEnv.mk S vs) h):vp P (.loop S c) Q e h:=⟨I,⟨n,h0⟩,round⟩
theorem iteI{c:Prop}[Decidable c]{A B:Prop}(h1:c->A)(h2:¬c->B):if c then A else B:=by
 by_cases h:c
 .rw[if_pos h];exact h1 h
 .rw[if_neg h];exact h2 h
theorem pkt{K:PV->PHeap->Prop}{h:PHeap}{p:Prop}[Decidable p](hk:K (.bool (decide p)) h)(hp:p):K (.bool true) h:=by
 rw[decide_eq_true hp]at hk;exact hk
theorem pkf{K:PV->PHeap->Prop}{h:PHeap}{p:Prop}[Decidable p](hk:K (.bool (decide p)) h)(hp:¬p):K (.bool false) h:=by
 rw[decide_eq_false hp]at hk;exact hk
theorem pke{K:PV->PHeap->Prop}{h:PHeap}{p q:Prop}[Decidable p][Decidable q](hk:K (.bool (decide p)) h)(hp:p↔q):K (.bool (decide q)) h:=by
 have:decide q=decide p:=decide_eq_decide.2 hp.symm
 rw[this];exact hk
theorem zD(U:PHeap)(cs:List PV):Keep U (U.new cs):=(Keep.refl U).new cs
theorem Keep.setN{σ0 σ1:PHeap}{cs:List PV}(a:Keep (σ0.new cs) σ1)(ds:List PV):Keep (σ0.new ds) (σ1.set σ0.next ds):=
 ⟨a.next,a.top,λt ht=>by
  by_cases e:t=σ0.next
  .subst e;simp[PHeap.set,PHeap.new]
  .have:=a.obj t ht
   simp only[PHeap.set,PHeap.new,if_neg e]at this ⊢;exact this⟩
theorem Keep.of{σ0 σ1:PHeap}{cs:List PV}(a:Keep (σ0.new cs) σ1):Keep σ0 σ1:=(zD σ0 cs).trans a
theorem Keep.rd{σ0 σ1:PHeap}(a:Keep σ0 σ1){s:Nat}(hs:s<σ0.next)(i n:Nat):σ1.rd s i n=σ0.rd s i n:=by simp only[PHeap.rd,a.obj s hs]
theorem zG{h:PHeap}{s:Nat}{cs:List PV}(ho:h.obj s=some cs)(i:Nat):h.rd1 s i=cs[i]?:=by simp[PHeap.rd1,ho]
theorem ZT{h:PHeap}{s:Nat}{cs:List PV}(ho:h.obj s=some cs)(i n:Nat):h.rd s i n=if i+n<=cs.length then some ((cs.drop i).take n)else none:=by simp[PHeap.rd,ho]
theorem QB{h:PHeap}{s:Nat}{cs:List PV}(ho:h.obj s=some cs)(i:Nat)(vs:List PV):h.wr s i vs=if i+vs.length<=cs.length/\vs.all PV.one=true then some (h.set s (cs.take i++vs++cs.drop (i+vs.length)))else none:=by simp[PHeap.wr,ho]
def full(e:Nat)(cap:Cap)(n:Nat):Prop:=cap=.grown e\/cap=.known n
theorem full.ok{e n:Nat}{cap:Cap}(h:full e cap n):capOK cap n=true:=by
 rcases h with rfl|rfl
 .rfl
 .simp[capOK]
def PSl(b e:Nat)(h:PHeap)(v:PV)(n:Nat)(cs:List PV):Prop:=∃s cap,v=.sl s 0 n cap/\full e cap n/\h.obj s=some cs/\cs.length=n*e/\b<=s/\s<h.next
def PAcc(b e:Nat)(h:PHeap)(v:PV)(n:Nat)(cs:List PV):Prop:=
 (v=.fz true .nils 0 []/\n=0/\cs=[])\/PSl b e h v n cs
theorem PAcc.nil(b e:Nat)(h:PHeap):PAcc b e h (.fz true .nils 0 []) 0 []:=.inl ⟨rfl,rfl,rfl⟩
theorem PSl.own{b e n s:Nat}{h:PHeap}{cap:Cap}{cs:List PV}(hc:full e cap n)(ho:h.obj s=some cs)(hl:cs.length=n*e)(hb:b<=s)(hs:s<h.next):PSl b e h (.sl s 0 n cap) n cs:=⟨s,cap,rfl,hc,ho,hl,hb,hs⟩
theorem PSl.acc{b e n:Nat}{h:PHeap}{v:PV}{cs:List PV}(a:PSl b e h v n cs):PAcc b e h v n cs:=.inr a
theorem PSl.new(b e:Nat){h:PHeap}{n:Nat}{cs:List PV}(hl:cs.length=n*e)(hb:b<=h.next):PSl b e (h.new cs) (.sl h.next 0 n (.known n)) n cs:=⟨_,_,rfl,.inr rfl,by simp[PHeap.new],hl,hb,by simp[PHeap.new]⟩
theorem PSl.keep{b e n:Nat}{h h':PHeap}{v:PV}{cs:List PV}(a:PSl b e h v n cs)(hk:Keep h h'):PSl b e h' v n cs:=by
 obtain⟨s,cap,rfl,h1,h2,h3,h4,h5⟩:=a;exact⟨s,cap,rfl,h1,by rw[hk.obj s h5];exact h2,h3,h4,Nat.lt_of_lt_of_le h5 hk.next⟩
theorem PSl.one{b e n:Nat}{h:PHeap}{v:PV}{cs:List PV}(a:PSl b e h v n cs):v.one=true:=by obtain⟨s,cap,rfl,_⟩:=a;rfl
theorem PSl.cells{b e n:Nat}{h:PHeap}{v:PV}{cs:List PV}(a:PSl b e h v n cs):v.cells=[v]:=by obtain⟨s,cap,rfl,_⟩:=a;rfl
theorem PAcc.keep{b e n:Nat}{h h':PHeap}{v:PV}{cs:List PV}(a:PAcc b e h v n cs)(hk:Keep h h'):PAcc b e h' v n cs:=by
 rcases a with ⟨rfl,rfl,rfl⟩|⟨s,cap,rfl,h1,h2,h3,h4,h5⟩
 .exact PAcc.nil _ _ _
 .exact .inr ⟨s,cap,rfl,h1,by rw[hk.obj s h5];exact h2,h3,h4,Nat.lt_of_lt_of_le h5 hk.next⟩
theorem PAcc.one{b e n:Nat}{h:PHeap}{v:PV}{cs:List PV}(a:PAcc b e h v n cs):v.one=true:=by
 rcases a with ⟨rfl,rfl,rfl⟩|⟨s,cap,rfl,_⟩<;>rfl
theorem PAcc.cells{b e n:Nat}{h:PHeap}{v:PV}{cs:List PV}(a:PAcc b e h v n cs):v.cells=[v]:=by
 rcases a with ⟨rfl,rfl,rfl⟩|⟨s,cap,rfl,_⟩<;>rfl
theorem PAcc.len{b e n:Nat}{h:PHeap}{v:PV}{cs:List PV}(a:PAcc b e h v n cs):plen v=some n:=by
 rcases a with ⟨rfl,rfl,rfl⟩|⟨s,cap,rfl,_⟩<;>rfl
theorem PSl.app{σb h:PHeap}{b e bytes n m:Nat}{v x:PV}{cs news:List PV}{K:PV×PHeap->Prop}(hk:Keep σb h)(hb:b<=σb.next)(a:PSl σb.next e h v n cs)(hx:plen x=some m)(hf:m≠0->QA e h x m=some news)(hl:news.length=m*e)
  (h1:(n+m)*bytes<=140737488355328) (h2:n+m<=4611686018427387904) (k:∀v' h',Keep σb h'->PSl σb.next e h' v' (n+m) (cs++news)->K (v',h')):optK (ZZ e bytes h v x) K:=by
 rw[zAF,hx];simp only[Option.bind_some];obtain⟨s,cap,rfl,hc,q2,q3,q4,q5⟩:=a;by_cases h0:m=0
 .rw[if_pos h0];subst h0
  have:news=[]:=List.eq_nil_of_length_eq_zero (by omega)
  subst this;rcases hc with rfl|rfl
  .refine Zp rfl (k _ _ hk ?_);rw[List.append_nil,Nat.add_zero];exact⟨s,_,rfl,.inl rfl,q2,q3,q4,q5⟩
  .rw[zI8,if_pos (vH _)];refine Zp rfl (k _ _ hk ?_);rw[List.append_nil,Nat.add_zero];exact⟨s,_,rfl,.inr rfl,q2,q3,q4,q5⟩
 .rw[if_neg h0,hf h0];simp only[Option.bind_some];have hn:=hk.next;rcases hc with rfl|rfl
  .rw[zAi,if_pos ⟨h1,h2,rfl⟩,q2];simp only[Option.bind_some];rw[if_pos (by omega),List.drop_zero];refine Zp rfl (k _ _ ((hk.kill q4).new _) ?_);rw[List.take_of_length_le (by omega)];exact⟨h.next,_,rfl,.inl rfl,by simp[PHeap.new,PHeap.kill],by rw[List.length_append,q3,hl,Nat.add_mul],hn,by simp[PHeap.new,PHeap.kill]⟩
  .rw[zAh,if_neg (by omega),if_pos ⟨h1,h2⟩,ZT q2,if_pos (by omega),List.drop_zero,List.take_of_length_le (by omega)];simp only[Option.map_some];refine Zp rfl (k _ _ (hk.new _) ?_);exact⟨h.next,_,rfl,.inl rfl,by simp[PHeap.new],by rw[List.length_append,q3,hl,Nat.add_mul],hn,by simp[PHeap.new]⟩
theorem PAcc.app{σb h:PHeap}{b e bytes n m:Nat}{v x:PV}{cs news:List PV}{K:PV×PHeap->Prop}(hk:Keep σb h)(hb:b<=σb.next)(a:PAcc σb.next e h v n cs)(hx:plen x=some m)(hf:m≠0->QA e h x m=some news)(hl:news.length=m*e)
  (h1:(n+m)*bytes<=140737488355328) (h2:n+m<=4611686018427387904) (k:∀v' h',Keep σb h'->PAcc σb.next e h' v' (n+m) (cs++news)->(0<n+m->PSl σb.next e h' v' (n+m) (cs++news))->K (v',h')):optK (ZZ e bytes h v x) K:=by
 rcases a with ⟨rfl,rfl,rfl⟩|a
 .rw[zAF,hx];simp only[Option.bind_some];by_cases h0:m=0
  .rw[if_pos h0];subst h0
   have:news=[]:=List.eq_nil_of_length_eq_zero (by omega)
   subst this;exact Zp rfl (k _ _ hk (PAcc.nil _ _ _) (by omega))
  .rw[if_neg h0,hf h0];simp only[Option.bind_some];rw[zFD,if_pos ⟨by simpa using h1,by omega⟩];have hp:PSl σb.next e (h.new news) (.sl h.next 0 m (.grown e)) m news:=⟨h.next,_,rfl,.inl rfl,by simp[PHeap.new],hl,hk.next,by simp[PHeap.new]⟩
   refine Zp rfl (k _ _ (hk.new _) ?_ ?_)
   .rw[List.nil_append,Nat.zero_add];exact .inr hp
   .rw[List.nil_append,Nat.zero_add];exactλ_=>hp
 .exact PSl.app hk hb a hx hf hl h1 h2 λv' h' k1 k2=>k v' h' k1 (.inr k2) λ_=>k2
theorem PAcc.push{σb h:PHeap}{bytes n:Nat}{v x:PV}{cs:List PV}{K:PV×PHeap->Prop}(hk:Keep σb h)(a:PAcc σb.next 1 h v n cs) 
  (h1:(n+1)*bytes<=140737488355328) (h2:n+1<=4611686018427387904) (k:∀v' h',Keep σb h'->PSl σb.next 1 h' v' (n+1) (cs++[x])->K (v',h')):optK (ZZ 1 bytes (h.new [x]) v (.sl h.next 0 1 (.known 1))) K:=
 PAcc.app (news:=[x]) (m:=1) (hk.new _) (vH _) (a.keep (zD _ _)) rfl (λ_=>by simp[Qq,zAb]) rfl h1 h2 λv' h' k1 _ k3=>k v' h' k1 (k3 (by omega))
theorem PSl.push{σb h:PHeap}{bytes n:Nat}{v x:PV}{cs:List PV}{K:PV×PHeap->Prop}(hk:Keep σb h)(a:PSl σb.next 1 h v n cs)
  (h1:(n+1)*bytes<=140737488355328) (h2:n+1<=4611686018427387904) (k:∀v' h',Keep σb h'->PSl σb.next 1 h' v' (n+1) (cs++[x])->K (v',h')):optK (ZZ 1 bytes (h.new [x]) v (.sl h.next 0 1 (.known 1))) K:=
 PAcc.push hk a.acc h1 h2 k
theorem PSl.cat{σb h:PHeap}{bytes n m:Nat}{w:Bool}{av:AV}{v:PV}{cs news:List PV}{K:PV×PHeap->Prop}(hk:Keep σb h)(a:PSl σb.next 1 h v n cs)(hl:news.length=m)
  (h1:(n+m)*bytes<=140737488355328) (h2:n+m<=4611686018427387904) (k:∀v' h',Keep σb h'->PSl σb.next 1 h' v' (n+m) (cs++news)->K (v',h')):optK (ZZ 1 bytes h v (.fz w av m news)) K:=
 PSl.app (b:=0) (news:=news) (m:=m) hk (Nat.zero_le _) a rfl (λh0=>by rw[zMb,if_neg h0,if_pos ⟨vH _,by omega,by omega⟩,List.take_of_length_le (by omega)]) (by omega) h1 h2 k
theorem PSl.fin{U h:PHeap}{e n:Nat}{v:PV}{cs:List PV}{K:PV->PHeap->Prop}(hk:Keep U h)(a:PSl U.next e h v n cs)(hb:Bels 0 cs)(k:∀o cap,K (.fz true (.sl o 0 n cap) n cs) U):Gh U K v h:=by
 obtain⟨s,cap,rfl,hc,q2,q3,q4,q5⟩:=a;exact Gh.finF hk q2 q4 hb hc.ok λo=>k _ _
theorem PSl.out{U h:PHeap}{e n:Nat}{v:PV}{cs:List PV}{K:PV->PHeap->Prop}(hk:Keep U h)(a:PSl U.next e h v n cs)(hb:Bels U.next cs)(k:∀cap,full e cap n->K (.sl U.next 0 n cap) (U.new cs)):Gh U K v h:=by
 obtain⟨s,cap,rfl,hc,q2,q3,q4,q5⟩:=a;exact Gh.finS hk q2 q4 hb (k cap hc)
theorem PAcc.fin{U h:PHeap}{e n:Nat}{v:PV}{cs:List PV}{K:PV->PHeap->Prop}(hk:Keep U h)(a:PAcc U.next e h v n cs)(hb:Bels 0 cs)(k:∀a,K (.fz true a n cs) U):Gh U K v h:=by
 rcases a with ⟨rfl,rfl,rfl⟩|⟨s,cap,rfl,hc,q2,q3,q4,q5⟩
 .exact Gh.fin0 hk trivial (k _)
 .exact Gh.finF hk q2 q4 hb hc.ok λo=>k _
theorem zA.fz{P:Program}{f:FuncId}{args:List PV}{U:PHeap}{K:PV->PHeap->Prop}{l e:Nat}{cs:List PV}(c:∀K':PV->PHeap->Prop,(∀cap,full e cap l->K' (.sl U.next 0 l cap) (U.new cs))->zA P f args U K')(hb:Bels 0 cs)
  (k:∀o cap,K (.fz true (.sl o 0 l cap) l cs) U):zA P f args U K:=
 zA.gh (c _ λcap hc=>Gh.finF (zD U cs) (by simp[PHeap.new]) (vH _) hb hc.ok λo=>k o cap)
def ResI(U:PHeap)(K:PV->PHeap->Prop)(xs:L3):Prop:=(xs=[]->K (.fz true .nils 0 []) U)/\∀cap,full 1 cap xs.length->K (.sl U.next 0 xs.length cap) (U.new (pis xs))
theorem zA.fzI{P:Program}{f:FuncId}{args:List PV}{U:PHeap}{K:PV->PHeap->Prop}{xs:L3}(c:∀K':PV->PHeap->Prop,ResI U K' xs->zA P f args U K')(k:∀a,K (.fz true a xs.length (pis xs)) U):zA P f args U K:=
 zA.gh (c _ ⟨λh0=>by subst h0;exact Gh.ret (k _),λcap hc=>Gh.finF (zD U _) (by simp[PHeap.new]) (vH _) (zN _ _) hc.ok λo=>k _⟩)
theorem zA.fzN{P:Program}{f:FuncId}{args:List PV}{U:PHeap}{K:PV->PHeap->Prop}{xs:L3}{n:Nat}(hl:xs.length=n)(c:∀K':PV->PHeap->Prop,ResI U K' xs->zA P f args U K')(k:∀a,K (.fz true a n (pis xs)) U):zA P f args U K:=by
 subst hl;exact zA.fzI c k
theorem PAcc.res{U h:PHeap}{n:Nat}{v:PV}{xs:L3}{K:PV->PHeap->Prop}(hk:Keep U h)(hn:n=xs.length)(a:PAcc U.next 1 h v n (pis xs))(k:ResI U K xs):Gh U K v h:=by
 subst hn;rcases a with ⟨rfl,h0,h1⟩|a
 .exact Gh.fin0 hk trivial (k.1 (List.eq_nil_of_length_eq_zero h0))
 .exact a.out hk (zN _ _) k.2
abbrev qI(d:Nat)(o:IOp):II:=⟨some d,o,true,none⟩
abbrev eI(d:Nat)(o:IOp):II:=⟨some d,o,false,none⟩
abbrev nI(o:IOp):II:=⟨none,o,false,none⟩
abbrev qD(d:Nat)(o:IOp)(i:Nat):DI:=⟨⟨some d,o,true,none⟩,i,[]⟩
abbrev eD(d:Nat)(o:IOp)(i:Nat)(c:List Nat):DI:=⟨⟨some d,o,false,none⟩,i,c⟩
end Go.Ab
set_option linter.unusedVariables false
set_option linter.unusedSimpArgs false
namespace Go.Ab
open Go.ChangeShapes Go.WideShapes Go.RowKit Go.Deep
variable{w0 W:World}{j:Inj}{h h':AHeap}{H:Type}{enc:TypeId×Value->H}{P:Program}{α:Type}
abbrev zlt(h:AHeap):Nat->Prop:=λo=>o<h.next
theorem Ext.voks{pvs:List PV}{n:Nat}(e:Ext h h')(hv:VOKs (zlt h) h n pvs):VOKs (zlt h') h' n pvs:=hv.mono (λo ho=>⟨Nat.lt_of_lt_of_le ho e.next,e.obj o ho⟩) (vH _)
theorem Ext.vok{pv:PV}{n:Nat}(e:Ext h h')(hv:VOK (zlt h) h n pv):VOK (zlt h') h' n pv:=hv.mono (λo ho=>⟨Nat.lt_of_lt_of_le ho e.next,e.obj o ho⟩) (vH _)
theorem MR.name(m:MR W.heap.size w0 j h W)(l:Loc):MR W.heap.size w0 (j.put h.next l) ⟨h.next+1,h.obj⟩ W/\j.le (j.put h.next l)/\Ext h ⟨h.next+1,h.obj⟩:=by
 have hle:=Inj.le_put m l;have mq:h.obj h.next=none:=(m.fresh _ (vH _)).1;have conv:∀{o:Nat} {ob:AObj} {l':Loc},h.obj o=some ob->(j.put h.next l) o=some l'->j o=some l':=λ{o ob l'} ho hl=>by
  have:o≠h.next:=λe=>by subst e;rw[mq]at ho;cases ho
  simpa [Inj.put,this]using hl
 refine⟨⟨m.below,m.bnd,λo ho=>?_,λo ob l' ho hl=>?_,λo o' x x' l1 l2 ai ho cn hl aU hr=>m.apart o o' x x' l1 l2 ai ho cn (conv ho hl) (conv cn aU) hr⟩,hle,⟨by simp,λ_ _=>rfl,λo ho=>m.wf o (by simp at ho;omega)⟩⟩
 .simp only at ho;refine⟨m.wf o (by omega),?_⟩;simp only[Inj.put];rw[if_neg (by omega)];exact(m.fresh o (by omega)).2
 .obtain⟨a,cur,ty,fz,b,c,d⟩:=m.obj o ob l' ho (conv ho hl);exact⟨a,cur,ty,fz,b,λi v hi=>by obtain⟨cv,x,y⟩:=c i v hi;exact⟨cv,x,VI.mono hle _ _ y⟩,d⟩
def Lay1(enc:TypeId×Value->H)(P:Program)(W:World)(t:TypeId)(R:PV->α->Prop):Prop:=∀(w0:World) (j:Inj) (h:AHeap) (held:Bool) (fuel:Nat) (v:Value) (x:DataW H×List MemPlace),MR W.heap.size w0 j h W->
 DataW.trod enc P W 0 (λ_=>true) held fuel t [v]=some x->∃(j':Inj) (h':AHeap) (pv:PV) (a:α),MR W.heap.size w0 j' h' W/\j.le j'/\Ext h h'/\VI j' (er idz pv) v/\VOK (zlt h') h' 0 pv/\pv.one=true/\R pv a
theorem zQk{t:TypeId}{k:IntKind}(ht:P.underlying t=some (.int k)):Lay1 enc P W t (λpv (n:Int)=>pv=.int k n):=by
 intro w0 j h held fuel v x m hx;obtain⟨n,hn,_⟩:=DataW.trod_int ht hx;simp only[List.cons.injEq,and_true]at hn;subst hn;exact⟨j,h,.int k n,n,m,Inj.le.refl _,Ext.refl m.wf,rfl,trivial,rfl,rfl⟩
theorem Lay1.cells{e:TypeId}{R:PV->α->Prop}(L:Lay1 enc P W e R){V:Nat->Value}{D:Nat->DataW H}{Pl:Nat->List MemPlace}{held:Bool}{fuel:Nat}{w0:World}:∀(n:Nat) {j:Inj} {h:AHeap},MR W.heap.size w0 j h W->
  (∀i,i<n->DataW.trod enc P W 0 (λ_=>true) held fuel e [V i]=some (D i,Pl i))->
  ∃(j':Inj) (h':AHeap) (pvs:List PV) (as:List α),MR W.heap.size w0 j' h' W/\j.le j'/\Ext h h'/\pvs.length=n/\(∀i pv,pvs[i]? = some pv->VI j' (er idz pv) (V i))/\VOKs (zlt h') h' 0 pvs/\pvs.all PV.one=true/\All2 R pvs as
 |0,j,h,m,_=>⟨j,h,[],[],m,Inj.le.refl _,Ext.refl m.wf,rfl,λi pv hi=>(by simp at hi),trivial,rfl,All2.nil _⟩
 |n+1,j,h,m,hx=>by
  obtain⟨j1,h1,pvs,as,m1,l1,e1,hl,hv,ho,aH,hr⟩:=Lay1.cells L n m λi hi=>hx i (by omega);obtain⟨j2,h2,pv,a,m2,l2,e2,v2,o2,sN,r2⟩:=L w0 j1 h1 held fuel (V n) _ m1 (hx n (by omega));refine⟨j2,h2,pvs++[pv],as++[a],m2,l1.trans l2,e1.trans e2,by simp[hl],λi x7 hi=>?_,(e2.voks ho).append ⟨o2,trivial⟩,by simp[aH,sN],hr.snoc r2⟩;rcases Nat.lt_trichotomy i n with x|x|x
  .rw[List.getElem?_append_left (by omega)]at hi;exact VI.mono l2 _ _ (hv i x7 hi)
  .subst x;rw[List.getElem?_append_right (by omega)]at hi;simp[hl]at hi;subst hi;exact v2
  .rw[List.getElem?_eq_none (by simp;omega)]at hi;cases hi
theorem addr_add(a:Addr)(i:Nat):(a.add i).block=a.block:=by unfold Addr.add;split<;>rfl
theorem zDL{t e:TypeId}(ht:P.underlying t=some (.slice e))(hc:P.cellsOf e=1){R:PV->α->Prop}(L:Lay1 enc P W e R):Lay1 enc P W t (λv (xs:List α)=>FL R v xs/\xs.length<=9223372036854775807):=by
 intro w0 j h held fuel v x m hx;rcases open_slice1 ht hc hx with ⟨hv,rfl⟩|⟨a,len,c0,cap,n,V,D,Pl,hv,_,hl,hm,xe,rfl,de⟩
 .simp only[List.cons.injEq,and_true]at hv;subst hv;exact⟨j,h,.fz true .nils 0 [],[],m,Inj.le.refl _,Ext.refl m.wf,rfl,⟨.inl ⟨rfl,rfl,rfl⟩,trivial⟩,rfl,⟨true,.nils,[],rfl,All2.nil _⟩,by simp⟩
 simp only[if_true]at xe;subst xe;simp only[List.cons.injEq,and_true]at hv;subst hv;have fK:maxLen=9223372036854775807:=rfl;by_cases h0:cap=0
 .subst h0;obtain rfl:len=0:=by omega
  obtain⟨m',l',e'⟩:=m.name ⟨0,0,0⟩;exact⟨_,_,.fz false (.sl h.next 0 0 (.known 0)) 0 [],[],m',l',e',⟨⟨0,0,0⟩,a,by simp[Inj.put],rfl,.inr ⟨rfl,rfl⟩⟩,⟨.inr ⟨h.next,0,.known 0,rfl,by simp[zlt],.inl rfl,λc hc=>by cases hc;exact vH _,by simp⟩,trivial⟩,rfl,⟨false,_,[],rfl,All2.nil _⟩,by simp⟩
 obtain⟨hs,cur,ty,fz,hb,_⟩:=zKW (de 0 (by omega)).1;obtain⟨blk,off,spot⟩:=a;have om:spot=none:=by simpa [Addr.add]using hs
 subst om;have iF:W.heap[blk]? = some (.cells cur ty fz):=by simpa [Addr.add]using hb
 have uT:=zR8 iF;obtain⟨j1,h1,pvs,as,m1,l1,e1,jY,gF,kD,aH,hr⟩:=L.cells len m λi hi=>(de i (by omega)).2;have m2:=m1.lay (cells:=ers idz pvs) (l:=⟨blk,off,0⟩) (by rw[zDw kD];exact aH) uT iF (by
  intro i v hi;rw[zAf]at hi;obtain⟨pv,xb,rfl⟩:=Option.map_eq_some_iff.1 hi;have aK:i<len:=by rw[<-jY];exact(List.getElem?_eq_some_iff.1 xb).1
  obtain⟨_,kV,j9,pU,dk,iD⟩:=zKW (de i (by omega)).1;rw[addr_add]at dk;rw[iF]at dk;cases dk;rw[show((⟨blk,off,none⟩:Addr).add i).off=off+i by unfold Addr.add;split<;>simp_all]at iD;exact⟨_,iD,gF i pv xb⟩)
 have e2:=Ext.new m1.wf ⟨false,ers idz pvs⟩;have cA:=hr.1;refine⟨_,_,.fz false (.sl h1.next 0 len (.known cap)) len pvs,as,m2,l1.trans (Inj.le_put m1 _),e1.trans e2,⟨⟨blk,off,0⟩,_,by simp[Inj.put],rfl,.inl rfl⟩,⟨.inr ⟨h1.next,0,.known cap,rfl,by simp[zlt,AHeap.new],.inr (zBY (zLF _) rfl),λc hc=>by cases hc;exact hl,by simp⟩,e2.voks kD⟩,rfl,⟨false,_,pvs,by rw[<-cA,jY],hr⟩,by omega⟩
theorem FL.ints{v:PV}{xs:L3}(h:FL (λpv (n:Int)=>pv=.int .i64 n) v xs):FI v xs:=by
 obtain⟨w,a,rows,rfl,hr⟩:=h;refine⟨w,a,?_⟩;congr 1;apply List.ext_getElem?;intro k;rw[zQ];rcases Nat.lt_or_ge k xs.length with x|x
 .obtain⟨pv,h1,h2⟩:=hr.get x;rw[h1,gi x,h2];rfl
 .rw[List.getElem?_eq_none (by rw[hr.1];exact x),List.getElem?_eq_none x];rfl
theorem All2.all{β γ:Type}{R:β->γ->Prop}{as:List β}{bs:List γ}(h:All2 R as bs){p:γ->Prop}(hp:∀a b,R a b->p b):∀b∈bs,p b:=by
 intro b hb;obtain⟨k,hk,rfl⟩:=List.mem_iff_getElem.1 hb;obtain⟨a,_,hr⟩:=h.get hk;exact hp _ _ hr
theorem FL.imp{R R':PV->α->Prop}{v:PV}{xs:List α}(h:FL R v xs)(hr:∀v x,R v x->R' v x):FL R' v xs:=by
 obtain⟨w,a,rows,rfl,h⟩:=h;exact⟨w,a,rows,rfl,h.mono hr⟩
theorem FL.all{R:PV->α->Prop}{v:PV}{xs:List α}(h:FL R v xs){p:α->Prop}(hp:∀v x,R v x->p x):∀x∈xs,p x:=by
 obtain⟨w,a,rows,rfl,h⟩:=h;exact h.all hp
theorem zOr{t e:TypeId}(ht:P.underlying t=some (.slice e))(hc:P.cellsOf e=1)(he:P.underlying e=some (.int .i64)):Lay1 enc P W t (λv (xs:L3)=>FI v xs/\xs.length<=9223372036854775807):=by
 intro w0 j h held fuel v x m hx;obtain⟨j',h',pv,a,g1,g2,g3,g4,g5,g6,g7,g8⟩:=zDL ht hc (zQk he) w0 j h held fuel v x m hx;exact⟨j',h',pv,a,g1,g2,g3,g4,g5,g6,g7.ints,g8⟩
def PHeap.start(h:AHeap):PHeap:=⟨0,h.next,λ_=>none⟩
theorem zMA(hw:HWF h):Rel idz (zlt h) (PHeap.start h) h:=⟨hw,λ_ ho=>ho,vH _,λ_ _=>rfl,λ_ _ ho=>(by cases ho),λ_ _ _ _ ho=>(by cases ho)⟩
end Go.Ab
set_option linter.unusedVariables false
set_option linter.unusedSimpArgs false
namespace Go.Ab
theorem PAcc.pos{b e n:Nat}{h:PHeap}{v:PV}{cs:List PV}(a:PAcc b e h v n cs)(hn:0<n):PSl b e h v n cs:=by
 rcases a with ⟨_,h0,_⟩|a
 .omega
 .exact a
theorem PAcc.appS{σb h:PHeap}{e bytes n m:Nat}{v x:PV}{rows news:List PV}{K:PV×PHeap->Prop}(hk:Keep σb h)(a:PAcc σb.next e h v n rows)(hx:plen x=some m)(hm:m≠0)(hf:QA e h x m=some news)(hl:news.length=m*e)
  (h1:(n+m)*bytes<=140737488355328) (h2:n+m<=4611686018427387904)
  (k:∀v' h',Keep σb h'->PSl σb.next e h' v' (n+m) (rows++news)->(∀t,t<h.next->(∀off l c,v≠.sl t off l c)->h'.obj t=h.obj t)->(∀t,t<h.next->∀off l c,v'≠.sl t off l c)->h.next<h'.next->K (v',h')):optK (ZZ e bytes h v x) K:=by
 rw[zAF,hx];simp only[Option.bind_some];rw[if_neg hm,hf];simp only[Option.bind_some];have hn:=hk.next;have nw:∀t,t<h.next->∀(off l:Nat) (c:Cap) (m':Nat) (c':Cap),PV.sl h.next 0 m' c'≠.sl t off l c:=λt ht off l c m' c' e=>by
  simp only[PV.sl.injEq]at e;omega
 rcases a with ⟨rfl,rfl,rfl⟩|⟨t,c,rfl,hc,q2,q3,q4,q5⟩
 .rw[zFD,if_pos ⟨by simpa using h1,by omega⟩];refine Zp rfl (k _ _ (hk.new _) ⟨_,_,by rw[Nat.zero_add],.inl rfl,by simp[PHeap.new],by simpa using hl,hn,by simp[PHeap.new]⟩ (λt ht _=>?_) (λt ht off l c=>nw t ht off l c _ _) (Nat.lt_succ_self _));rw[qa,if_neg (by omega)]
 .rcases hc with rfl|rfl
  .rw[zAi,if_pos ⟨h1,h2,rfl⟩,q2];simp only[Option.bind_some];rw[if_pos (by omega),List.drop_zero,List.take_of_length_le (by omega)];refine Zp rfl (k _ _ ((hk.kill q4).new _) ⟨_,_,rfl,.inl rfl,by simp[PHeap.new,PHeap.kill],by rw[List.length_append,q3,hl,Nat.add_mul],hn,by simp[PHeap.new,PHeap.kill]⟩ (λu hu ai=>?_) (λu hu off l c=>nw u hu off l c _ _) (Nat.lt_succ_self _));rw[qa,if_neg (by simp only[PHeap.kill];omega)]
   show(if u=t then none else _)=_
   rw[if_neg λe=>ai 0 n _ (by rw[e])]
  .rw[zAh,if_neg (by omega),if_pos ⟨h1,h2⟩,ZT q2,if_pos (by omega),List.drop_zero,List.take_of_length_le (by omega)];simp only[Option.map_some];refine Zp rfl (k _ _ (hk.new _) ⟨_,_,rfl,.inl rfl,by simp[PHeap.new],by rw[List.length_append,q3,hl,Nat.add_mul],hn,by simp[PHeap.new]⟩ (λu hu ai=>?_) (λu hu off l c=>nw u hu off l c _ _) (Nat.lt_succ_self _));rw[qa,if_neg (by omega)]
theorem PAcc.pushS{σb h:PHeap}{e bytes n:Nat}{v:PV}{rows news:List PV}{K:PV×PHeap->Prop}(hk:Keep σb h)(a:PAcc σb.next e h v n rows)(hl:news.length=e)(h1:(n+1)*bytes<=140737488355328)(h2:n+1<=4611686018427387904)
  (k:∀v' h',Keep σb h'->PSl σb.next e h' v' (n+1) (rows++news)->(∀t,t<h.next->(∀off l c,v≠.sl t off l c)->h'.obj t=h.obj t)->(∀t,t<h.next->∀off l c,v'≠.sl t off l c)->h.next<h'.next->K (v',h')):optK (ZZ e bytes (h.new news) v (.sl h.next 0 1 (.known 1))) K:=
 PAcc.appS (m:=1) (hk.new _) (a.keep (zD _ _)) rfl (by omega) (by rw[Qq,if_neg (by omega),if_pos (vH _),zAb,if_pos rfl,if_pos (by omega),List.drop_zero,List.take_of_length_le (by omega)]) (by omega) h1 h2
  λv' h' k1 k2 k3 k4 k5=>k v' h' k1 k2 (λt ht ai=>by rw[k3 t (Nat.lt_succ_of_lt ht) ai,qa,if_neg (by omega)]) (λt ht=>k4 t (Nat.lt_succ_of_lt ht)) (Nat.lt_trans (Nat.lt_succ_self _) k5)
end Go.Ab
set_option linter.unusedVariables false
set_option linter.unusedSimpArgs false
set_option linter.defProp false
namespace Go.Ab
variable{P:Program}{ι ι':Nat->Nat}{Z Z':Nat->Prop}{h h' cD:AHeap}{U σ':PHeap}{n:Nat}{K:PV->PHeap->Prop}{L L':List (Nat×List PV)}
mutual
def ead:PV->List Nat
 | .fz _ a _ cs=>bif cs.isEmpty then []else match a with | .sl o _ _ _=>o::eads cs|_=>[]
 | .fp a cs=>bif cs.isEmpty then []else match a with | .ptr o _=>o::eads cs|_=>[]
 | .clo _ a b=>eads a++eads b
 | .agg cs=>eads cs
 | .tup cs=>eads cs
 |_=>[]
def eads:List PV->List Nat
 |[]=>[]
 |c::cs=>ead c++eads cs
end
mutual
def rm(L:List (Nat×List PV)):PV->PV
 | .fz w a len cs=>bif cs.isEmpty then .fz w a len cs else
  match a with
  | .sl o off l cap=>
   match L.lookup o with
   |some ms=>bif w then .fz true (.sl o off l cap) len ms else .fp (.sl o off l cap) []
   |none=>.fz w (.sl o off l cap) len (rms L cs)
  |a=>.fz w a len cs
 | .fp a cs=>bif cs.isEmpty then .fp a cs else
  match a with
  | .ptr o i=>
   match L.lookup o with
   |some _=>.fp (.ptr o i) []
   |none=>.fp (.ptr o i) (rms L cs)
  |a=>.fp a cs
 | .clo f a b=>.clo f (rms L a) (rms L b)
 | .agg cs=>.agg (rms L cs)
 | .tup cs=>.tup (rms L cs)
 |v=>v
def rms(L:List (Nat×List PV)):List PV->List PV
 |[]=>[]
 |c::cs=>rm L c::rms L cs
end
theorem zAk:∀(as bs:List PV),eads (as++bs)=eads as++eads bs
 |[],_=>rfl
 |a::as,bs=>by simp only[List.cons_append,eads,zAk as bs,List.append_assoc]
theorem zEY:∀{cs:List PV} {o:Nat},o∈eads cs↔∃c∈cs,o∈ead c
 |[],o=>by simp[eads]
 |c::cs,o=>by simp[eads,zEY (cs:=cs)]
mutual
theorem er_rm(ι:Nat->Nat):∀v:PV,er ι (rm L v)=er ι v
 | .undef | .bool _ | .int _ _ | .str _ | .nilp | .nilf | .ptr _ _ | .sl _ _ _ _=>rfl
 | .fz w a len cs=>by
  unfold rm;cases cs.isEmpty
  .simp only[cond_false];cases a<;>try rfl
   rename_i o off l cap;simp only;cases L.lookup o
   .rfl
   .cases w<;>rfl
  .rfl
 | .fp a cs=>by
  unfold rm;cases cs.isEmpty
  .simp only[cond_false];cases a<;>try rfl
   rename_i o i;simp only;cases L.lookup o<;>rfl
  .rfl
 | .clo f a b=>by simp only[rm,er,Qx ι a,Qx ι b]
 | .agg cs=>by simp only[rm,er,Qx ι cs]
 | .tup cs=>by simp only[rm,er,Qx ι cs]
theorem Qx(ι:Nat->Nat):∀cs:List PV,ers ι (rms L cs)=ers ι cs
 |[]=>rfl
 |c::cs=>by simp only[rms,ers,er_rm ι c,Qx ι cs]
end
mutual
theorem rm_id:∀{v:PV},(∀o∈ead v,L.lookup o=none)->rm L v=v
 | .undef,_ | .bool _,_ | .int _ _,_ | .str _,_ | .nilp,_ | .nilf,_ | .ptr _ _,_ | .sl _ _ _ _,_=>rfl
 | .fz w a len cs,h=>by
  unfold rm;cases he:cs.isEmpty
  .simp only[cond_false];cases a<;>try rfl
   rename_i o off l cap;simp only[ead,he,cond_false,List.mem_cons]at h;have hc:=zBW (cs:=cs) λo ho=>h o (.inr ho);simp only[hc,h o (.inl rfl)]
  .rfl
 | .fp a cs,h=>by
  unfold rm;cases he:cs.isEmpty
  .simp only[cond_false];cases a<;>try rfl
   rename_i o i;simp only[ead,he,cond_false,List.mem_cons]at h;have hc:=zBW (cs:=cs) λo ho=>h o (.inr ho);simp only[hc,h o (.inl rfl)]
  .rfl
 | .clo f a b,h=>by
  simp only[ead,List.mem_append]at h;simp only[rm,zBW (cs:=a) λo ho=>h o (.inl ho),zBW (cs:=b) λo ho=>h o (.inr ho)]
 | .agg cs,h=>by simp only[rm,zBW (cs:=cs) h]
 | .tup cs,h=>by simp only[rm,zBW (cs:=cs) h]
theorem zBW:∀{cs:List PV},(∀o∈eads cs,L.lookup o=none)->rms L cs=cs
 |[],_=>rfl
 |c::cs,h=>by
  simp only[eads,List.mem_append]at h;simp only[rms,rm_id (v:=c) λo ho=>h o (.inl ho),zBW (cs:=cs) λo ho=>h o (.inr ho)]
end
mutual
theorem ead_z:∀{n:Nat} {v:PV},VOK Z h n v->∀o∈ead v,Z o
 |n,.undef,_,o,ho|n,.bool _,_,o,ho|n,.int _ _,_,o,ho|n,.str _,_,o,ho|n,.nilp,_,o,ho|n,.nilf,_,o,ho=>by simp[ead]at ho
 |n,.ptr _ _,_,o,ho|n,.sl _ _ _ _,_,o,ho=>by simp[ead]at ho
 |n,.fz w a len cs,hv,o,ho=>by
  unfold ead at ho;cases he:cs.isEmpty<;>simp only[he,cond_false,cond_true]at ho
  .obtain⟨rfl,_⟩|⟨o',off,cap,rfl,h1,_⟩:=hv.1
   .cases ho
   .rcases List.mem_cons.1 ho with rfl|ho
    .exact h1
    .exact zAM hv.2 o ho
  .simp at ho
 |n,.fp a cs,hv,o,ho=>by
  unfold ead at ho;cases he:cs.isEmpty<;>simp only[he,cond_false,cond_true]at ho
  .obtain⟨_,h1|⟨o2,i2,rfl,h2,_⟩⟩:=hv.1
   .cases cs with
    |nil=>cases he
    |cons c cs=>simp[ers]at h1
   .rcases List.mem_cons.1 ho with rfl|ho
    .exact h2
    .exact zAM hv.2 o ho
  .simp at ho
 |n,.clo _ a b,hv,o,ho=>by
  simp only[ead,List.mem_append]at ho;exact ho.elim (zAM hv.1 o) (zAM hv.2 o)
 |n,.agg cs,hv,o,ho=>zAM (cs:=cs) hv o (by simpa only[ead]using ho)
 |n,.tup cs,hv,o,ho=>zAM (cs:=cs) hv o (by simpa only[ead]using ho)
theorem zAM:∀{n:Nat} {cs:List PV},VOKs Z h n cs->∀o∈eads cs,Z o
 |n,[],_,o,ho=>by simp[eads]at ho
 |n,c::cs,hv,o,ho=>by
  simp only[eads,List.mem_append]at ho;exact ho.elim (ead_z hv.1 o) (zAM hv.2 o)
end
def flat:PV->Bool
 | .int _ _ | .str _=>true
 |_=>false
theorem zO6{ms:List PV}(hm:ms.all flat=true):VOKs Z h n ms:=by
 rw[Qt];intro c hc
 have:=List.all_eq_true.1 hm c hc
 cases c<;>first|trivial|cases this
theorem zOT(xs:L3):(pis xs).all flat=true:=by
 induction xs with
 |nil=>rfl
 |cons x xs ih=>simp only[zHY,List.all_cons,ih];rfl
structure Upd(h:AHeap)(L:List (Nat×List PV))(h':AHeap):Prop where
 next:h.next<=h'.next
 wf:HWF h'
 same:∀o,o<h.next->L.lookup o=none->h'.obj o=h.obj o
 new:∀o ms,L.lookup o=some ms->h'.obj o=some ⟨true,ers idz ms⟩/\ms.all flat=true/\ms≠[]/\∃ws,h.obj o=some ⟨true,ws⟩/\ws.length=ms.length
theorem Upd.refl(hw:HWF h):Upd h [] h:=⟨vH _,hw,λ_ _ _=>rfl,λo ms e=>by cases e⟩
theorem Ext.upd(e:Ext h h'):Upd h [] h':=⟨e.next,e.wf,λo ho _=>e.obj o ho,λo ms e=>by cases e⟩
theorem zBA(L L':List (Nat×List PV))(o:Nat):(L++L').lookup o=(L.lookup o).or (L'.lookup o):=by
 induction L with
 |nil=>simp
 |cons p L ih=>
  obtain⟨a,b⟩:=p;simp only[List.cons_append,List.lookup_cons];cases hb:(o == a)with
  |true=>rfl
  |false=>exact ih
theorem ZU{o:Nat}:L.lookup o=none↔o∉L.map Prod.fst:=by
 induction L with
 |nil=>simp
 |cons p L ih=>
  obtain⟨a,b⟩:=p;simp only[List.lookup_cons,List.map_cons,List.mem_cons];by_cases e:o=a
  .subst e;simp
  .rw[beq_eq_false_iff_ne.2 e];simp only[ih];exact⟨λh1 h2=>h2.elim e h1,λh1 h2=>h1 (.inr h2)⟩
theorem Upd.trans(a:Upd h L h')(b:Upd h' L' cD)(hd:∀o∈L.map Prod.fst,o∉L'.map Prod.fst)(hl:∀o∈L'.map Prod.fst,o<h.next):Upd h (L++L') cD:=by
 refine⟨Nat.le_trans a.next b.next,b.wf,λo ho hn=>?_,λo ms hm=>?_⟩
 .rw[zBA,Option.or_eq_none_iff]at hn;rw[b.same o (Nat.lt_of_lt_of_le ho a.next) hn.2,a.same o ho hn.1]
 .rw[zBA]at hm;cases h1:L.lookup o with
  |some Ca=>
   rw[h1,Option.some_or]at hm;cases hm;obtain⟨q1,q2,q3,ws,q4,q5⟩:=a.new o _ h1;have hk:o∈L.map Prod.fst:=by
    by_cases hk:o∈L.map Prod.fst
    .exact hk
    .rw[ZU.2 hk]at h1;cases h1
   have hn:L'.lookup o=none:=ZU.2 (hd o hk);have ag:o<h'.next:=a.wf.lt q1;exact⟨by rw[b.same o ag hn];exact q1,q2,q3,ws,q4,q5⟩
  |none=>
   rw[h1,Option.none_or]at hm;obtain⟨q1,q2,q3,ws,q4,q5⟩:=b.new o _ hm;refine⟨q1,q2,q3,ws,?_,q5⟩;have hk:o∈L'.map Prod.fst:=by
    by_cases hk:o∈L'.map Prod.fst
    .exact hk
    .rw[ZU.2 hk]at hm;cases hm
   rw[<-a.same o (hl o hk) h1];exact q4
mutual
theorem zE4(u:Upd h L h')(hz:∀o,Z o->o<h.next):∀{n:Nat} {v:PV},VOK Z h n v->VOK Z h' n (rm L v)
 |n,.undef,_|n,.bool _,_|n,.int _ _,_|n,.str _,_|n,.nilp,_|n,.nilf,_=>trivial
 |n,.ptr _ _,hv|n,.sl _ _ _ _,hv=>hv
 |n,.fz w a len cs,hv=>by
  unfold rm;cases he:cs.isEmpty
  .simp only[cond_false];obtain⟨rfl,_,h0⟩|⟨o,off,cap,rfl,h1,h2,h3,h4⟩:=hv.1
   .cases cs with
    |nil=>cases he
    |cons c cs=>simp[ers]at h0
   .simp only;have gr:h.rd o off (ers idz cs).length=some (ers idz cs):=h2.resolve_left λe=>by
     cases cs with
     |nil=>cases he
     |cons c cs=>simp[ers]at e
    cases hl:L.lookup o with
    |none=>
     have hs:=u.same o (hz o h1) hl;refine⟨.inr ⟨o,off,cap,rfl,h1,?_,h3,λhw=>⟨(h4 hw).1,?_⟩⟩,Q6 u hz hv.2⟩
     .right;rw[Qx,zCd hs];exact gr
     .rw[Qx,hs];exact(h4 hw).2
    |some ms=>
     cases w with
     |false=>exact⟨⟨rfl,.inl rfl⟩,trivial⟩
     |true=>
      obtain⟨q1,q2,q3,ws,q4,q5⟩:=u.new o ms hl;obtain⟨rfl,ho⟩:=h4 rfl;exact⟨.inr ⟨o,0,cap,rfl,h1,.inr (zBY q1 rfl),h3,λ_=>⟨rfl,q1⟩⟩,zO6 q2⟩
  .simp only[cond_true];have eM:cs=[]:=List.isEmpty_iff.1 he;subst eM;obtain h0|⟨o,off,cap,rfl,h1,h2,h3,h4⟩:=hv.1
   .exact⟨.inl h0,trivial⟩
   .refine⟨.inr ⟨o,off,cap,rfl,h1,.inl rfl,h3,λhw=>⟨(h4 hw).1,?_⟩⟩,trivial⟩;have ho:=(h4 hw).2;cases hl:L.lookup o with
    |none=>rw[u.same o (hz o h1) hl];exact ho
    |some ms=>
     obtain⟨q1,q2,q3,ws,q4,q5⟩:=u.new o ms hl;rw[ho]at q4;cases q4;exact absurd (List.eq_nil_of_length_eq_zero q5.symm) q3
 |n,.fp a cs,hv=>by
  unfold rm;cases he:cs.isEmpty
  .simp only[cond_false];obtain⟨h0,h1|⟨o,i,rfl,h2,h3⟩⟩:=hv.1
   .cases cs with
    |nil=>cases he
    |cons c cs=>simp[ers]at h1
   .simp only;cases hl:L.lookup o with
    |none=>
     refine⟨⟨rfl,.inr ⟨o,i,rfl,h2,?_⟩⟩,Q6 u hz hv.2⟩;rw[Qx,zCd (u.same o (hz o h2) hl)];exact h3
    |some ms=>exact⟨⟨rfl,.inl rfl⟩,trivial⟩
  .simp only[cond_true];have eM:cs=[]:=List.isEmpty_iff.1 he;subst eM;exact⟨⟨hv.1.1,.inl rfl⟩,trivial⟩
 |n,.clo f a b,hv=>⟨Q6 u hz hv.1,Q6 u hz hv.2⟩
 |n,.agg cs,hv=>Q6 (cs:=cs) u hz hv
 |n,.tup cs,hv=>Q6 (cs:=cs) u hz hv
theorem Q6(u:Upd h L h')(hz:∀o,Z o->o<h.next):∀{n:Nat} {cs:List PV},VOKs Z h n cs->VOKs Z h' n (rms L cs)
 |n,[],_=>trivial
 |n,c::cs,hv=>⟨zE4 u hz hv.1,Q6 u hz hv.2⟩
end
def PHeap.rmap(U:PHeap)(L:List (Nat×List PV)):PHeap:=⟨U.next,U.top,λs=>(U.obj s).map (rms L)⟩
theorem Rel.rmap(r:Rel ι Z U h)(u:Upd h L h')(hk:∀o ms,L.lookup o=some ms->Z o):Rel ι Z (U.rmap L) h':=by
 have hs:∀{s:Nat} {ds:List PV},(U.rmap L).obj s=some ds->∃cs,U.obj s=some cs/\ds=rms L cs:=λ{s ds} hd=>by
  obtain⟨cs,h1,h2⟩:=Option.map_eq_some_iff.1 hd;exact⟨cs,h1,h2.symm⟩
 refine⟨u.wf,λo ho=>Nat.lt_of_lt_of_le (r.zlt o ho) u.next,Nat.le_trans r.top u.next,λs hs=>by simp only[PHeap.rmap,r.wf s hs,Option.map_none],λs ds hd=>?_,λs s' a b ha hb=>?_⟩
 .obtain⟨cs,h1,rfl⟩:=hs hd;obtain⟨q1,q2,q3⟩:=r.obj s cs h1;have hn:L.lookup (ι s)=none:=by
   cases hl:L.lookup (ι s)with
   |none=>rfl
   |some ms=>exact absurd (hk _ _ hl) q3
  refine⟨?_,Q6 u r.zlt q2,q3⟩;rw[Qx,u.same _ (r.hwf.lt q1) hn];exact q1
 .obtain⟨cs,h1,_⟩:=hs ha;obtain⟨dp,h2,_⟩:=hs hb;exact r.inj s s' cs dp h1 h2
def zA1(P:Program)(f:FuncId)(args:List PV)(U:PHeap)(L:List (Nat×List PV))(k:IntKind)(r:Int):Prop:=
 ∀(ι:Nat->Nat) (Z:Nat->Prop) (h:AHeap),Rel ι Z U h->VOKs Z h U.next args->(∀o ms,L.lookup o=some ms->Z o)/\ZI P f (ers ι args) h λv h'=>v=.int k r/\Upd h L h'
inductive CallM(P:Program)(f:FuncId)(args:List IX):PEnv->PHeap->(PEnv->PV->PHeap->Prop)->Prop where
 |pure {e:PEnv} {U:PHeap} {K:PEnv->PV->PHeap->Prop} (c:zA P f (args.map (·.pv e)) U (K e)):CallM P f args e U K
 |mark {e:PEnv} {U:PHeap} {K:PEnv->PV->PHeap->Prop} {L:List (Nat×List PV)} {k:IntKind} {r:Int} (c:zA1 P f (args.map (·.pv e)) U L k r) (hk:K (λt=>rm L (e t)) (.int k r) (U.rmap L)):CallM P f args e U K
 |top {e:PEnv} {U:PHeap} {K:PEnv->PV->PHeap->Prop} (c:∀t,U.top<=t->(∀i,∀o∈ead (e i),o<t)->CallM P f args e (U.up t) K):CallM P f args e U K
 |topH {e:PEnv} {U:PHeap} {K:PEnv->PV->PHeap->Prop} (c:∀t,U.top<=t->(∀i,∀o∈ead (e i),o<t)->(∀s cs,U.obj s=some cs->∀o∈eads cs,o<t)->CallM P f args e (U.up t) K):CallM P f args e U K
theorem CallM.sound{f:FuncId}{args:List IX}{e:PEnv}{U:PHeap}{K:PEnv->PV->PHeap->Prop}(c:CallM P f args e U K):∀{ι:Nat->Nat} {Z:Nat->Prop} {h:AHeap} {K1:AV->AHeap->Prop},Rel ι Z U h->EOK Z h U.next e->
  (∀e' v σ' ι' Z' h',Rel ι' Z' σ' h'->EOK Z' h' σ'.next e'->VOK Z' h' σ'.next v->erE ι' e'=erE ι e->K e' v σ'->K1 (er ι' v) h')->ZI P f (args.map (·.ev (erE ι e))) h K1:=by
 induction c with
 |pure c=>
  intro ι Z h K1 r he hr
  have:=c ι Z h r (he.pvs args)
  rw[zCO]at this;refine this.mono ?_
  rintro _ h' ⟨pv,σ',ι',Z',r',a',hv,rfl,k⟩
  exact hr _ pv σ' ι' Z' h' r' (a'.eok he) hv (a'.erE he) k
 | @mark U K L k r c hk=>
  intro ι Z h K1 rl he hr;obtain⟨h1,h2⟩:=c ι Z h rl (he.pvs args);rw[zCO]at h2;refine h2.mono ?_
  rintro _ h' ⟨rfl,u⟩
  refine hr (λt=>rm L (e t)) (.int k r) (U.rmap L) ι Z h' (rl.rmap u h1) (λt=>zE4 u rl.zlt (he t)) trivial ?_ hk;funext t;simp only[erE,er_rm]
 |top c ih=>
  intro ι Z h K1 r he hr;refine ih h.next r.top (λi o ho=>r.zlt o (ead_z (he i) o ho)) (ι:=ι) (Z:=Z) ⟨r.hwf,r.zlt,vH _,r.wf,r.obj,r.inj⟩ he hr
 |topH c ih=>
  intro ι Z h K1 r he hr;refine ih h.next r.top (λi o ho=>r.zlt o (ead_z (he i) o ho)) (λs cs hs o ho=>r.zlt o (zAM (r.obj s cs hs).2.1 o ho)) (ι:=ι) (Z:=Z) ⟨r.hwf,r.zlt,vH _,r.wf,r.obj,r.inj⟩ he hr
def em(P:Program)(op:IOp)(e:PEnv)(U:PHeap)(K:PEnv->PV->PHeap->Prop):Prop:=
 match op with
 | .call f args=>CallM P f args e U K
 |op=>ep P op e U (K e)
def gem(P:Program)(it:II)(e:PEnv)(U:PHeap)(K:PEnv->PV->PHeap->Prop):Prop:=
 match it.guard with
 |none=>em P it.op e U K
 |some (t,b)=>Zi (e t) b (em P it.op e U K) (K e (.tup []) U)
def RVm(P:Program):List II->PEnv->PHeap->(PEnv->PHeap->Prop)->Prop
 |[],e,h,K=>K e h
 |it::r,e,h,K=>match it.q with
  |true=>optK (gqp 0 0 it e h) λv=>RVm P r (e.put it.dst v) h K
  |false=>gem P it e h λe' v h'=>RVm P r (e'.put it.dst v) h' K
def vm(P:Program):IC->(Exit->PEnv->PHeap->Prop)->PEnv->PHeap->Prop
 | .region S aE,Q,e,h=>RVm P aE e h λe' h'=>Q .normal (PEnv.mk S (S.map e')) h'
 | .seq a b,Q,e,h=>vm P a (λx e' h'=>match x with | .normal=>vm P b Q e' h'|x=>Q x e' h') e h
 | .cond c a b,Q,e,h=>Z6 (c.pv e) (vm P a Q e h) (vm P b Q e h)
 | .block id c,Q,e,h=>vm P c (λx e' h'=>match x with | .exit fO=>if fO=id then Q .normal e' h' else Q (.exit fO) e' h'|x=>Q x e' h') e h
 |c,Q,e,h=>vp P c Q e h
theorem zIG{op:IOp}{e:PEnv}{U:PHeap}{K:PEnv->PV->PHeap->Prop}(c:em P op e U K){K1:AV->AHeap->Prop}(r:Rel ι Z U h)(he:EOK Z h U.next e)
  (hr:∀e' v σ' ι' Z' h',Rel ι' Z' σ' h'->EOK Z' h' σ'.next e'->VOK Z' h' σ'.next v->erE ι' e'=erE ι e->K e' v σ'->K1 (er ι' v) h'):eff P op (erE ι e) h K1:=by
 have base:ep P op e U (K e)->eff P op (erE ι e) h K1:=λhk=>by
  refine zEl ?_ (zEk r he hk)
  rintro _ h' ⟨pv,σ',ι',Z',r',a',hv,rfl,k⟩
  exact hr _ pv σ' ι' Z' h' r' (a'.eok he) hv (a'.erE he) k
 cases op<;>first|exact base c|skip
 exact CallM.sound c r he hr
theorem zNN{it:II}{e:PEnv}{U:PHeap}{K:PEnv->PV->PHeap->Prop}(c:gem P it e U K){K1:AV->AHeap->Prop}(r:Rel ι Z U h)(he:EOK Z h U.next e)
  (hr:∀e' v σ' ι' Z' h',Rel ι' Z' σ' h'->EOK Z' h' σ'.next e'->VOK Z' h' σ'.next v->erE ι' e'=erE ι e->K e' v σ'->K1 (er ι' v) h'):ge P it (erE ι e) h K1:=by
 obtain⟨dst,op,q,guard⟩:=it;cases guard with
 |none=>exact zIG c r he hr
 |some g=>
  obtain⟨t,b⟩:=g;simp only[gem,ge]at c ⊢;cases ht:e t with
  |bool d=>
   rw[ht]at c;simp only[Zi]at c;simp only[erE,ht,er];split at c
   .rename_i hc;rw[if_pos hc];exact zIG c r he hr
   .rename_i hc;rw[if_neg hc];exact hr e (.tup []) U ι Z h r he trivial rfl c
  |tup cs=>
   rw[ht]at c;cases cs with
   |nil=>simp only[erE,ht,er];exact hr e (.tup []) U ι Z h r he trivial rfl c
   |cons x cs=>simp only[Zi]at c
  |_=>rw[ht]at c;simp only[Zi]at c
theorem zDe:∀(aE:List II) {ι:Nat->Nat} {Z:Nat->Prop} {U:PHeap} {h:AHeap} {E:PEnv} {K:PEnv->PHeap->Prop} {K1:Env->AHeap->Prop},Rel ι Z U h->EOK Z h U.next E->RVm P aE E U K->
  (∀E' σ' ι' Z' h',Rel ι' Z' σ' h'->EOK Z' h' σ'.next E'->K E' σ'->K1 (erE ι' E') h')->RV P aE (erE ι E) h K1
 |[],ι,Z,U,h,E,K,K1,r,he,hk,hr=>hr E U ι Z h r he hk
 |it::aE,ι,Z,U,h,E,K,K1,r,he,hk,hr=>by
  simp only[RVm,RV]at hk ⊢;split at hk
  .rename_i hq;simp only[hq];obtain⟨v,hv,hk⟩:=hk;obtain⟨h1,h2⟩:=zDQ r he (nb1:=0) (λk hk=>absurd hk (Nat.not_lt_zero _)) hv;refine⟨_,h1,?_⟩
   have:=zDe aE r (he.put h2 it.dst) hk hr
   rw[zBL]at this;exact this
  .rename_i hq;simp only[hq];refine zNN hk r he ?_;intro e' v σ' ι' Z' h' r' uI hv uH cH
   have:=zDe aE r' (uI.put hv it.dst) cH hr
   rw[zBL,uH]at this;exact this
theorem zAW:∀(c:IC) {ι:Nat->Nat} {Z:Nat->Prop} {U:PHeap} {h:AHeap} {E:PEnv} {Q:Exit->PEnv->PHeap->Prop} {Q1:Exit->Env->AHeap->Prop},Rel ι Z U h->EOK Z h U.next E->vm P c Q E U->
  (∀x E' σ' ι' Z' h',Rel ι' Z' σ' h'->EOK Z' h' σ'.next E'->Q x E' σ'->Q1 x (erE ι' E') h')->vc P c Q1 (erE ι E) h
 | .skip,ι,Z,U,h,E,Q,Q1,r,he,hk,hr=>Zq (.skip) r he hk λx E' σ' ι' Z' h' r' _ e' k'=>hr x E' σ' ι' Z' h' r' e' k'
 | .exit id,ι,Z,U,h,E,Q,Q1,r,he,hk,hr=>Zq (.exit id) r he hk λx E' σ' ι' Z' h' r' _ e' k'=>hr x E' σ' ι' Z' h' r' e' k'
 | .ret,ι,Z,U,h,E,Q,Q1,r,he,hk,hr=>Zq (.ret) r he hk λx E' σ' ι' Z' h' r' _ e' k'=>hr x E' σ' ι' Z' h' r' e' k'
 | .draw S zs aE,ι,Z,U,h,E,Q,Q1,r,he,hk,hr=>Zq (.draw S zs aE) r he hk λx E' σ' ι' Z' h' r' _ e' k'=>hr x E' σ' ι' Z' h' r' e' k'
 | .loop S c,ι,Z,U,h,E,Q,Q1,r,he,hk,hr=>Zq (.loop S c) r he hk λx E' σ' ι' Z' h' r' _ e' k'=>hr x E' σ' ι' Z' h' r' e' k'
 | .region S aE,ι,Z,U,h,E,Q,Q1,r,he,hk,hr=>by
  refine zDe aE r he hk ?_;intro E' σ' ι' Z' h' r' e' k'
  have:=hr .normal _ σ' ι' Z' h' r' (EOK.mk (e'.map S)) k'
  rw[zBg,zCP]at this;exact this
 | .seq a b,ι,Z,U,h,E,Q,Q1,r,he,hk,hr=>by
  refine zAW a r he hk ?_;intro x E' σ' ι' Z' h' r' e' k';cases x with
  |normal=>exact zAW b r' e' k' hr
  |exit id=>exact hr _ _ _ _ _ _ r' e' k'
  |goto l=>exact hr _ _ _ _ _ _ r' e' k'
  |ret=>exact hr _ _ _ _ _ _ r' e' k'
  |panic ch=>exact hr _ _ _ _ _ _ r' e' k'
  |outgrown=>exact hr _ _ _ _ _ _ r' e' k'
 | .cond c a b,ι,Z,U,h,E,Q,Q1,r,he,hk,hr=>by
  simp only[vm,vc,<-er_pv]at hk ⊢;cases hc:c.pv E<;>rw[hc]at hk<;>simp only[Z6]at hk
  simp only[er];split at hk
  .rename_i ht;rw[if_pos ht];exact zAW a r he hk hr
  .rename_i ht;rw[if_neg ht];exact zAW b r he hk hr
 | .block id c,ι,Z,U,h,E,Q,Q1,r,he,hk,hr=>by
  refine zAW c r he hk ?_;intro x E' σ' ι' Z' h' r' e' k';cases x with
  |exit fO=>
   simp only at k' ⊢;split at k'
   .rename_i hc;rw[if_pos hc];exact hr _ _ _ _ _ _ r' e' k'
   .rename_i hc;rw[if_neg hc];exact hr _ _ _ _ _ _ r' e' k'
  |normal=>exact hr _ _ _ _ _ _ r' e' k'
  |goto l=>exact hr _ _ _ _ _ _ r' e' k'
  |ret=>exact hr _ _ _ _ _ _ r' e' k'
  |panic ch=>exact hr _ _ _ _ _ _ r' e' k'
  |outgrown=>exact hr _ _ _ _ _ _ r' e' k'
def zDr(v:PV)(U:PHeap):Prop:=v=.bool true
theorem zM9(cf:P.follows .mixedOrders=true){f:FuncId}{fn:Func}{cY:IFn}(hf:P.funcs[f]? = some fn)(hc:cF P fn=some cY){args:List PV}(hl:args.length=cY.params.length)(hw:HWF h)(hv:VOKs (zlt h) h 0 args)
  (hk:(∀o∈eads args,o<h.next)->vm P cY.body (retP cY.res zDr) (PEnv.mk cY.params args) (PHeap.start h)):ZI P f (ers idz args) h (λv _=>v=.bool true):=by
 have hk:=hk λo ho=>zAM hv o ho;refine QP cf hf hc (by rw[qG];exact hl) ?_;rw[<-zBg];refine zAW cY.body (zMA hw) (EOK.mk hv) hk ?_;intro x E' σ' ι' Z' h' r' e' k';have fin:optK (Zt cY.res E' σ') (λvs=>zDr (packP vs) σ')->optK (rvals cY.res (erE ι' E') h') λvs=>packR vs=.bool true:=by
  rintro⟨vs,hv,hk⟩
  obtain⟨h1,h2⟩:=zAD r' e' hv;obtain⟨h3,h4⟩:=zEB (ι:=ι') h2;unfold zDr at hk;rw[hk]at h3;exact⟨_,h1,h3⟩
 cases x with
 |normal=>exact fin k'
 |ret=>exact fin k'
 |exit id=>exact k'.elim
 |goto l=>exact k'.elim
 |panic ch=>exact k'.elim
 |outgrown=>exact k'.elim
section
variable{Q:Exit->PEnv->PHeap->Prop}{e:PEnv}{hp:PHeap}{KE:PEnv->PHeap->Prop}{KM:PEnv->PV->PHeap->Prop}
theorem zPn:vm P .skip Q e hp=Q .normal e hp:=rfl
theorem zLv(S:List Nat)(aE:List II):vm P (.region S aE) Q e hp=RVm P aE e hp λe' h'=>Q .normal (PEnv.mk S (S.map e')) h':=rfl
theorem zPp(S:List Nat)(zs:List (List AV))(aE:List DI):vm P (.draw S zs aE) Q e hp=DVp P hp.next zs.length aE [] e (hp.news zs) λe' h'=>Q .normal (PEnv.mk S (S.map e')) h':=rfl
theorem zRK(a b:IC):vm P (.seq a b) Q e hp=vm P a (λx e' h'=>match x with | .normal=>vm P b Q e' h'|x=>Q x e' h') e hp:=rfl
theorem zPq(c:IX)(a b:IC):vm P (.cond c a b) Q e hp=Z6 (c.pv e) (vm P a Q e hp) (vm P b Q e hp):=rfl
theorem zPo(id:Nat):vm P (.exit id) Q e hp=Q (.exit id) e hp:=rfl
theorem zRL:vm P .ret Q e hp=Q .ret e hp:=rfl
theorem zRC:RVm P [] e hp KE=KE e hp:=rfl
theorem RVm_q(d:Option Nat)(op:IOp)(g:Option (Nat×Bool))(r:List II):RVm P (⟨d,op,true,g⟩::r) e hp KE=optK (gqp 0 0 ⟨d,op,true,g⟩ e hp) λv=>RVm P r (e.put d v) hp KE:=rfl
theorem RVm_e(d:Option Nat)(op:IOp)(g:Option (Nat×Bool))(r:List II):RVm P (⟨d,op,false,g⟩::r) e hp KE=gem P ⟨d,op,false,g⟩ e hp λe' v h'=>RVm P r (e'.put d v) h' KE:=rfl
theorem zO4(d:Option Nat)(op:IOp)(q:Bool):gem P ⟨d,op,q,none⟩ e hp KM=em P op e hp KM:=rfl
theorem zO3(d:Option Nat)(op:IOp)(q:Bool)(t:Nat)(b:Bool):gem P ⟨d,op,q,some (t,b)⟩ e hp KM=Zi (e t) b (em P op e hp KM) (KM e (.tup []) hp):=rfl
theorem zQz(f:FuncId)(args:List IX):em P (.call f args) e hp KM=CallM P f args e hp KM:=rfl
theorem zPD(z:List AV):em P (.alloc z) e hp KM=ep P (.alloc z) e hp (KM e):=rfl
theorem zRy(x:IX):em P (.box x) e hp KM=ep P (.box x) e hp (KM e):=rfl
theorem zPC(n:Nat)(x v:IX):em P (.store n x v) e hp KM=ep P (.store n x v) e hp (KM e):=rfl
theorem zLU(sz len:Nat)(z:List AV)(ps:List (Nat×Nat×IX)):em P (.buildSl sz len z ps) e hp KM=ep P (.buildSl sz len z ps) e hp (KM e):=rfl
@[congr] theorem cg_vm {c:IC} {e e':PEnv} {h h':PHeap} (h1:nm e=e') (h2:h=h'):vm P c Q e h=vm P c Q e' h':=by rw[nm_eq]at h1;rw[h1,h2]
@[congr] theorem zSY {aE:List II} {e e':PEnv} {h h':PHeap} (h1:nm e=e') (h2:h=h'):RVm P aE e h KE=RVm P aE e' h' KE:=by rw[nm_eq]at h1;rw[h1,h2]
@[congr] theorem zSV {it:II} {e e':PEnv} {h h':PHeap} (h1:nm e=e') (h2:h=h'):gem P it e h KM=gem P it e' h' KM:=by rw[nm_eq]at h1;rw[h1,h2]
@[congr] theorem cg_em {op:IOp} {e e':PEnv} {h h':PHeap} (h1:nm e=e') (h2:h=h'):em P op e h KM=em P op e' h' KM:=by rw[nm_eq]at h1;rw[h1,h2]
@[congr] theorem zSS {f:FuncId} {args:List IX} {e e':PEnv} {h h':PHeap} (h1:nm e=e') (h2:h=h'):CallM P f args e h KM=CallM P f args e' h' KM:=by rw[nm_eq]at h1;rw[h1,h2]
theorem zRR(k:IntKind)(n:Int):rm L (.int k n)=.int k n:=rfl
theorem zP2(b:Bool):rm L (.bool b)=.bool b:=rfl
theorem zN0:rm L .undef=.undef:=rfl
theorem zRP(s:List UInt8):rm L (.str s)=.str s:=rfl
theorem zRQ(s i:Nat):rm L (.ptr s i)=.ptr s i:=rfl
theorem zRS(cs:List PV):rm L (.agg cs)=.agg (rms L cs):=rfl
theorem zRO(cs:List PV):rm L (.tup cs)=.tup (rms L cs):=rfl
theorem zP1(w:Bool)(a:AV)(n:Nat):rm L (.fz w a n [])=.fz w a n []:=rfl
theorem zPz:rms L []=[]:=rfl
theorem zNx(c:PV)(cs:List PV):rms L (c::cs)=rm L c::rms L cs:=rfl
theorem zNz(cs:List PV):(hp.new cs).rmap L=(hp.rmap L).new (rms L cs):=by
 simp only[PHeap.rmap,PHeap.new];congr 1;funext s;by_cases x:s=hp.next<;>simp only[x,if_true,if_false,Option.map_some]
theorem zNy(s:Nat)(cs:List PV):(hp.set s cs).rmap L=(hp.rmap L).set s (rms L cs):=by
 simp only[PHeap.rmap,PHeap.set];congr 1;funext t;by_cases x:t=s<;>simp only[x,if_true,if_false,Option.map_some]
theorem zP0(t:Nat):(hp.up t).rmap L=(hp.rmap L).up t:=rfl
theorem zKm:(PHeap.start h).rmap L=PHeap.start h:=rfl
theorem up_up(t t':Nat):(hp.up t).up t'=hp.up t':=rfl
theorem zKu:(hp.rmap L).next=hp.next:=rfl
theorem zMM:(hp.rmap L).top=hp.top:=rfl
theorem zKt:(PHeap.start h).top=h.next:=rfl
end
def pm0:=And.intro @zPn <| And.intro @zLv <| And.intro @zPp <| And.intro @zRK <| And.intro @zPq <| And.intro @zPo <| And.intro @zRL <| And.intro @zRC <| And.intro @RVm_q <| And.intro @RVm_e <| And.intro @zO4 <| And.intro @zO3 <| And.intro @zQz <| And.intro @zPD <| And.intro @zRy <| And.intro @zPC <| And.intro @zLU <| And.intro @zRR <| And.intro @zP2 <| And.intro @zN0 <| And.intro @zRP <| And.intro @zRQ <| And.intro @zRS <| And.intro @zRO <| And.intro @zP1 <| And.intro @zPz <| And.intro @zNx <| And.intro @zNz <| And.intro @zNy <| And.intro @zP0 <| And.intro @zKm <| And.intro @up_up <| And.intro @zKu <| @zMM
end Go.Ab
