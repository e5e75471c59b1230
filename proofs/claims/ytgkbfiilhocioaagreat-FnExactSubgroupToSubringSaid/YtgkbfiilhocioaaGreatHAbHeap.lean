/- . -/
import Derived.Test.YtgkbfiilhocioaaGreatHAbDefs
import Derived.Deep.Matrix
import Derived.Carry
import Derived.ChangeSame
import Derived.OpenShut
open Nat renaming le_refl→vM
set_option linter.unusedVariables false
set_option linter.unusedSimpArgs false
namespace Go.Ab
variable{h h' cN:AHeap}
theorem wrap64{n:Int}(h1:-9223372036854775808<=n)(h2:n<=9223372036854775807):IntKind.i64.wrap n=n:=by
 rw[IntKind.wrap_i64];omega
def HWF(h:AHeap):Prop:=∀o,h.next<=o->h.obj o=none
structure Ext(h h':AHeap):Prop where
 next:h.next<=h'.next
 obj:∀o,o<h.next->h'.obj o=h.obj o
 wf:HWF h'
theorem Ext.refl(hw:HWF h):Ext h h:=⟨vM _,λ_ _=>rfl,hw⟩
theorem Ext.trans(a:Ext h h')(b:Ext h' cN):Ext h cN:=
 ⟨Nat.le_trans a.next b.next,λo ho=>(b.obj o (Nat.lt_of_lt_of_le ho a.next)).trans (a.obj o ho),b.wf⟩
theorem HWF.lt(hw:HWF h){o:Nat}{ob:AObj}(ho:h.obj o=some ob):o<h.next:=by
 rcases Nat.lt_or_ge o h.next with x|x
 .exact x
 .rw[hw o x]at ho;cases ho
theorem HWF.new(hw:HWF h)(ob:AObj):HWF (h.new ob):=by
 intro o ho;simp only[AHeap.new]at ho ⊢;rw[if_neg (by omega)];exact hw o (by omega)
theorem HWF.set(hw:HWF h){o:Nat}(ho:o<h.next)(cs:List AV):HWF (h.set o cs):=by
 intro x hx;simp only[AHeap.set]at hx ⊢;rw[if_neg (by omega)];exact hw x hx
theorem HWF.kill(hw:HWF h)(o:Nat):HWF (h.kill o):=by
 intro x hx;simp only[AHeap.kill]at hx ⊢;split
 .rfl
 .exact hw x hx
theorem zLS(ob:AObj):(h.new ob).obj h.next=some ob:=by simp[AHeap.new]
theorem zCt{o:Nat}(ho:o≠h.next)(ob:AObj):(h.new ob).obj o=h.obj o:=by simp[AHeap.new,ho]
theorem qW(ob:AObj):(h.new ob).next=h.next+1:=rfl
theorem zCg(o:Nat)(cs:List AV):(h.set o cs).obj o=some ⟨true,cs⟩:=by simp[AHeap.set]
theorem zCf{o o':Nat}(ho:o'≠o)(cs:List AV):(h.set o cs).obj o'=h.obj o':=by simp[AHeap.set,ho]
theorem zET{o o':Nat}(ho:o'≠o):(h.kill o).obj o'=h.obj o':=by simp[AHeap.kill,ho]
theorem set_set(o:Nat)(c d:List AV):(h.set o c).set o d=h.set o d:=by
 simp only[AHeap.set];congr 1;funext x;by_cases hx:x=o<;>simp[hx]
theorem set_self{o:Nat}{cs:List AV}(ho:h.obj o=some ⟨true,cs⟩):h.set o cs=h:=by
 cases h with
 |mk n f=>
  simp only[AHeap.set];congr 1;funext x;by_cases hx:x=o
  .subst hx;simp at ho ⊢;exact ho.symm
  .simp[hx]
theorem Ext.new(hw:HWF h)(ob:AObj):Ext h (h.new ob):=⟨by simp[AHeap.new],λo ho=>zCt (by omega) _,hw.new ob⟩
theorem zBv{o off n:Nat}{ob:AObj}(ho:h.obj o=some ob)(hl:off+n<=ob.cells.length):h.rd o off n=some ((ob.cells.drop off).take n):=by
 simp[AHeap.rd,ho,hl]
theorem zBc{o n:Nat}{ob:AObj}(ho:h.obj o=some ob)(hl:n=ob.cells.length):h.rd o 0 n=some ob.cells:=by
 subst hl;simp[AHeap.rd,ho]
theorem zCl{o off n:Nat}(ho:h'.obj o=h.obj o):h'.rd o off n=h.rd o off n:=by simp[AHeap.rd,ho]
theorem Qz{o i:Nat}{ob:AObj}(ho:h.obj o=some ob):h.rd1 o i=ob.cells[i]?:=by simp[AHeap.rd1,ho]
theorem zMW{o off n k:Nat}{vs:List AV}(hr:h.rd o off n=some vs)(hk:k<n):h.rd1 o (off+k)=vs[k]?:=by
 obtain⟨ob,ho,hl,rfl⟩:=AHeap.rd_some hr;rw[Qz ho,List.getElem?_take,if_pos hk,List.getElem?_drop]
theorem zDJ{o off n a b:Nat}{vs:List AV}(hr:h.rd o off n=some vs)(iU:a+b<=n):h.rd o (off+a) b=some ((vs.drop a).take b):=by
 obtain⟨ob,ho,hl,rfl⟩:=AHeap.rd_some hr;rw[zBv ho (by omega)];congr 1;rw[List.drop_take,List.take_take,List.drop_drop];congr 1;omega
theorem zE9{o i:Nat}{cs:List AV}{v:AV}(ho:h.obj o=some ⟨true,cs⟩)(hi:i<cs.length)(hv:v.one=true):h.wr o i [v]=some (h.set o (cs.set i v)):=by
 simp only[AHeap.wr,ho,Option.bind_some,List.length_cons,List.length_nil,List.all_cons,List.all_nil,hv,Bool.and_true];rw[if_pos ⟨trivial,by omega,trivial⟩];congr 2;apply List.ext_getElem?;intro k;rw[List.getElem?_set,List.append_assoc];rcases Nat.lt_trichotomy k i with x|x|x
 .rw[if_neg (by omega),List.getElem?_append_left (by simp;omega),List.getElem?_take,if_pos x]
 .subst x;rw[if_pos rfl,if_pos hi,List.getElem?_append_right (by rw[List.length_take];omega),List.length_take]
  have:k-min k cs.length=0:=by omega
  rw[this];rfl
 .rw[if_neg (by omega),List.getElem?_append_right (by simp;omega)];have e1:k-(List.take i cs).length=(k-i-1)+1:=by rw[List.length_take];omega
  rw[e1,List.cons_append,List.getElem?_cons_succ,List.nil_append,List.getElem?_drop];congr 1;omega
def ints(xs:L3):List AV:=xs.map (.int .i64)
theorem zEU(xs:L3):(ints xs).length=xs.length:=by simp[ints]
theorem ints_set(xs:L3)(k:Nat)(x:Int):(ints xs).set k (.int .i64 x)=ints (xs.set k x):=by simp[ints,List.map_set]
def All2{α β:Type}(R:α->β->Prop)(as:List α)(bs:List β):Prop:=as.length=bs.length/\∀(k:Nat) (a:α) (b:β),as[k]? = some a->bs[k]? = some b->R a b
theorem All2.nil{α β:Type}(R:α->β->Prop):All2 R [] []:=⟨rfl,λk a b h=>by simp at h⟩
theorem All2.snoc{α β:Type}{R:α->β->Prop}{as:List α}{bs:List β}{a:α}{b:β}(h:All2 R as bs)(hr:R a b):All2 R (as++[a]) (bs++[b]):=by
 refine⟨by simp[h.1],λk x y hx hy=>?_⟩;rcases Nat.lt_trichotomy k as.length with e|e|e
 .rw[List.getElem?_append_left e]at hx;rw[List.getElem?_append_left (by rw[<-h.1];exact e)]at hy;exact h.2 k x y hx hy
 .rw[List.getElem?_append_right (by omega),e]at hx;rw[List.getElem?_append_right (by rw[<-h.1];omega),e,h.1]at hy;simp at hx hy;subst hx;subst hy;exact hr
 .rw[List.getElem?_eq_none (by simp;omega)]at hx;cases hx
theorem All2.mono{α β:Type}{R R':α->β->Prop}{as:List α}{bs:List β}(h:All2 R as bs)(hr:∀a b,R a b->R' a b):All2 R' as bs:=⟨h.1,λk a b x y=>hr a b (h.2 k a b x y)⟩
theorem All2.get{α β:Type}{R:α->β->Prop}{as:List α}{bs:List β}(h:All2 R as bs){k:Nat}(hk:k<bs.length):∃a,as[k]? = some a/\R a bs[k]:=by
 have cL:k<as.length:=by rw[h.1];exact hk
 exact⟨as[k],List.getElem?_eq_getElem cL,h.2 k _ _ (List.getElem?_eq_getElem cL) (List.getElem?_eq_getElem hk)⟩
theorem All2.cons{α β:Type}{R:α->β->Prop}{as:List α}{bs:List β}{a:α}{b:β}(h:All2 R as bs)(hr:R a b):All2 R (a::as) (b::bs):=by
 refine⟨by simp[h.1],λk x y hx hy=>?_⟩;cases k with
 |zero=>simp at hx hy;subst hx;subst hy;exact hr
 |succ k=>exact h.2 k x y (by simpa using hx) (by simpa using hy)
end Go.Ab
namespace Go.Ab
variable{h h':AHeap}
theorem wrapS{i n:Nat}(hi:i<n)(hn:n<=4611686018427387904):IntKind.i64.wrap ((i:Int)+1)=((i+1:Nat):Int):=by
 rw[wrap64 (by omega) (by omega)];omega
theorem wrapA{a b:Nat}(hn:a+b<=4611686018427387904):IntKind.i64.wrap ((a:Int)+(b:Int))=((a+b:Nat):Int):=by
 rw[wrap64 (by omega) (by omega)];omega
theorem zw(k:IntKind)(n:Int):AV.cells (.int k n)=[.int k n]:=rfl
theorem qg(k:IntKind)(n:Int):AV.one (.int k n)=true:=rfl
theorem ze(b:Bool):AV.cells (.bool b)=[.bool b]:=rfl
theorem qU(b:Bool):AV.one (.bool b)=true:=rfl
theorem zo(s:List UInt8):AV.cells (.str s)=[.str s]:=rfl
theorem qd(s:List UInt8):AV.one (.str s)=true:=rfl
theorem zZ:AV.cells (.nilp)=[.nilp]:=rfl
theorem qQ:AV.one (.nilp)=true:=rfl
theorem zq(o i:Nat):AV.cells (.ptr o i)=[.ptr o i]:=rfl
theorem qf(o i:Nat):AV.one (.ptr o i)=true:=rfl
theorem zY:AV.cells (.nils)=[.nils]:=rfl
theorem qP:AV.one (.nils)=true:=rfl
theorem qX(o off n:Nat)(c:Cap):AV.cells (.sl o off n c)=[.sl o off n c]:=rfl
theorem ZA(o off n:Nat)(c:Cap):AV.one (.sl o off n c)=true:=rfl
theorem zb:AV.cells (.nilf)=[.nilf]:=rfl
theorem qR:AV.one (.nilf)=true:=rfl
theorem z8(f:FuncId)(a b:List AV):AV.cells (.clo f a b)=[.clo f a b]:=rfl
theorem qh(f:FuncId)(a b:List AV):AV.one (.clo f a b)=true:=rfl
theorem qA(cs:List AV):AV.cells (.agg cs)=cs:=rfl
theorem Q5{xs:L3}{i:Nat}(hi:i<xs.length){p:Int->Prop}(h:∀x∈xs.take i,p x)(hx:p xs[i]):∀x∈xs.take (i+1),p x:=by
 rw[List.take_succ_eq_append_getElem hi];intro x hm;rcases List.mem_append.1 hm with hm|hm
 .exact h x hm
 .simp at hm;subst hm;exact hx
theorem Q0{α:Type}{xs:List α}{i:Nat}(hi:¬i<xs.length){p:α->Prop}(h:∀x∈xs.take i,p x):∀x∈xs,p x:=by
 rwa[List.take_of_length_le (by omega)]at h
theorem zBl{α:Type}{xs:List α}{i:Nat}(hi:i<xs.length){p:α->Prop}(h:∀x∈xs.take i,p x)(hx:p xs[i]):∀x∈xs.take (i+1),p x:=by
 rw[List.take_succ_eq_append_getElem hi];intro x hm;rcases List.mem_append.1 hm with hm|hm
 .exact h x hm
 .simp at hm;subst hm;exact hx
theorem qC(cs:List AV):afill cs []=some cs:=rfl
theorem zf(cs:List AV)(off size:Nat)(v:AV)(r:List (Nat×Nat×AV)):afill cs ((off,size,v)::r) =
  if v.cells.length=size/\off+size<=cs.length/\v.cells.all AV.one=true then afill (cs.take off++v.cells++cs.drop (off+size)) r else none:=rfl
theorem zV(z:List AV):zeros z 0=[]:=rfl
theorem zW(v:AV):zeros [v] 1=[v]:=rfl
theorem zN(v:AV)(n:Nat):zeros [v] n=List.replicate n v:=by
 simp[zeros,List.flatten_replicate_singleton]
theorem zDF{α:Type}(l:List α)(z:α){i:Nat}(hi:i<l.length):(l.take i++List.replicate (l.length-i) z).set i l[i]=l.take (i+1)++List.replicate (l.length-(i+1)) z:=by
 obtain⟨k,hk⟩:∃k,l.length-i=k+1:=⟨l.length-i-1,by omega⟩
 have h1:(l.take i).length=i:=by rw[List.length_take];omega
 rw[hk,List.replicate_succ,List.set_append,if_neg (by omega),h1,Nat.sub_self,List.set_cons_zero,List.take_succ_eq_append_getElem hi,List.append_assoc,List.singleton_append];congr 3;omega
theorem qc(ob:AObj)(o i:Nat):(h.new ob).rd1 o i=if o=h.next then ob.cells[i]? else h.rd1 o i:=by
 by_cases hx:o=h.next<;>simp[AHeap.rd1,AHeap.new,hx]
theorem qz(ob:AObj)(o i n:Nat):(h.new ob).rd o i n=if o=h.next then(if i+n<=ob.cells.length then some ((ob.cells.drop i).take n)else none)else h.rd o i n:=by
 by_cases hx:o=h.next<;>simp[AHeap.rd,AHeap.new,hx]
theorem Ext.ob(hx:Ext h h'){o:Nat}{ob:AObj}(ho:o<h.next)(h1:h.obj o=some ob):h'.obj o=some ob:=by rw[hx.obj o ho];exact h1
theorem zRU{o i:Nat}{cs vs:List AV}(ho:h.obj o=some ⟨true,cs⟩)(hl:i+vs.length<=cs.length)(hv:vs.all AV.one=true):h.wr o i vs=some (h.set o (cs.take i++vs++cs.drop (i+vs.length))):=by
 simp only[AHeap.wr,ho,Option.bind_some];rw[if_pos ⟨trivial,hl,hv⟩]
theorem box1(hw:HWF h)(c0:List AV):∃hh,h.new ⟨true,c0⟩=hh/\Ext h hh/\hh.next=h.next+1/\∀k,Ext hh k->k.obj h.next=some ⟨true,c0⟩:=by
 have eX:=Ext.new hw ⟨true,c0⟩;exact⟨_,rfl,eX,rfl,λk hk=>hk.ob (by simp[AHeap.new]) (by simp[AHeap.new])⟩
end Go.Ab
namespace Go.Ab
variable{h:AHeap}{α:Type}{R:AHeap->AV->α->List Nat->Prop}
structure zIv(R:AHeap->AV->α->List Nat->Prop)(lo:Nat)(h:AHeap)(us:List AV)(tm:List (List Nat))(xs:List α):Prop where
 len:us.length=tm.length
 own:All2 (λvf x=>R h vf.1 x vf.2) (us.zip tm) xs
 nodup:tm.flatten.Nodup
 lo:∀o∈tm.flatten,lo<=o/\o<h.next
end Go.Ab
namespace Go.Ab
end Go.Ab
namespace Go.Ab
open Go.ChangeShapes Go.WideShapes Go.RowKit Go.Deep
variable{B:Nat}{w0 w:World}{j:Inj}{h:AHeap}
theorem MR.empty(w:World):MR w.heap.size w (λ_=>none) ⟨0,λ_=>none⟩ w:=
 ⟨Below.refl _ _,vM _,λ_ _=>⟨rfl,rfl⟩,λ_ _ _ ho=>(by cases ho),λ_ _ _ _ _ _ _ ho=>(by cases ho)⟩
theorem MR.wf(m:MR B w0 j h w):HWF h:=λo ho=>(m.fresh o ho).1
theorem Inj.le_put(m:MR B w0 j h w)(l:Loc):j.le (j.put h.next l):=by
 intro o l' ho
 have:=m.lt ho
 simp[Inj.put,Nat.ne_of_lt this,ho]
theorem MR.lay(m:MR B w0 j h w){cells:List AV}{l:Loc}(aK:cells.all AV.one=true)(hb:l.blk<B){cur:Array Value}{ty:TypeId}{fz:Nat×Nat}(aQ:w.heap[l.blk]? = some (.cells cur ty fz))
  (hc:∀i v,cells[i]? = some v->∃cv,cur[l.base+i]? = some cv/\VI j v cv):MR B w0 (j.put h.next l) (h.new ⟨false,cells⟩) w:=by
 have hle:=Inj.le_put m l;refine⟨m.below,m.bnd,λo ho=>?_,λo ob l' ho hl=>?_,λo o' ob gT l1 l2 ai ho cn hl aX fh=>?_⟩
 .simp only[AHeap.new]at ho
  have:o≠h.next:=by omega
  simp only[AHeap.new,Inj.put,if_neg this];exact m.fresh o (by omega)
 .by_cases e:o=h.next
  .subst e;simp only[AHeap.new,if_true,Option.some.injEq]at ho;simp only[Inj.put,if_true,Option.some.injEq]at hl;subst ho;subst hl;exact⟨aK,cur,ty,fz,aQ,λi v hi=>by obtain⟨cv,a,b⟩:=hc i v hi;exact⟨cv,a,VI.mono hle _ _ b⟩,λx=>(by cases x),λ_=>hb⟩
  .simp only[AHeap.new,if_neg e]at ho;simp only[Inj.put,if_neg e]at hl;obtain⟨a,lJ,kN,r8,b,c,d⟩:=m.obj o ob l' ho hl;exact⟨a,lJ,kN,r8,b,λi v hi=>by obtain⟨cv,x,y⟩:=c i v hi;exact⟨cv,x,VI.mono hle _ _ y⟩,d⟩
 .by_cases e:o=h.next
  .subst e;simp only[AHeap.new,if_true,Option.some.injEq]at ho;subst ho;cases fh
  .simp only[AHeap.new,if_neg e]at ho;simp only[Inj.put,if_neg e]at hl;by_cases e':o'=h.next
   .subst e';simp only[Inj.put,if_true,Option.some.injEq]at aX;subst aX;obtain⟨_,_,_,_,_,_,d,_⟩:=m.obj o ob l1 ho hl
    have:=(d fh).2.2
    omega
   .simp only[AHeap.new,if_neg e']at cn;simp only[Inj.put,if_neg e']at aX;exact m.apart o o' ob gT l1 l2 ai ho cn hl aX fh
theorem zKj{a:Addr}{v:Value}(hc:w.cell? a=some v):a.spot=none/\∃cur ty fz,w.heap[a.block]? = some (.cells cur ty fz)/\cur[a.off]? = some v:=by
 unfold World.cell? at hc;split at hc
 .rename_i c t f hb;split at hc
  .cases hc
  .rename_i hs;exact⟨by simpa using hs,c,t,f,hb,hc⟩
 .cases hc
theorem zSL{b:Nat}{o:Obj}(hb:w.heap[b]? = some o):b<w.heap.size:=by
 rcases Nat.lt_or_ge b w.heap.size with x|x
 .exact x
 .rw[Array.getElem?_eq_none x]at hb;cases hb
end Go.Ab
namespace Go.Ab
open Go.ChangeShapes Go.WideShapes Go.RowKit Go.Deep
variable{H:Type}{enc:TypeId×Value->H}{P:Program}
theorem zC1(hl:laidOutB P=true){W W':World}(hb:Below W.heap.size W W'){sp:Nat->Bool}:∀{ts:List TypeId} {vs:List Value} {ds:List (DataW H)} {ps:List MemPlace},(∀t∈ts,P.readableRec t=true/\t<P.types.size)->
  DataW.TrodAll enc P W 0 (λ_=>true) true ts vs ds ps->(∀x∈ps,x.block<W.heap.size)->(∀x∈ps,sp x.block=true)->DataW.TrodAll enc P W' 0 sp true ts vs ds ps
 |[],vs,ds,ps,_,h,_,_=>by
  obtain⟨rfl,rfl,rfl⟩:=trodAll_nil h;rfl
 |t::ts,vs,ds,ps,ht,h,h1,h2=>by
  obtain⟨v,ji,d,sf,p,q,rfl,rfl,rfl,h0,hr⟩:=trodAll_cons h;exact trodAll_cons_mk (WideElems.Trod_stays hl (ht t (by simp)).1 (ht t (by simp)).2 h0 (λx hx=>hb.same (h1 x (by simp[hx]))) (λx hx=>h2 x (by simp[hx])))
   (zC1 hl hb (λt' cZ=>ht t' (by simp[cZ])) hr (λx hx=>h1 x (by simp[hx])) (λx hx=>h2 x (by simp[hx])))
theorem zG2{f:Func}{s:ChangeSpec}{apart fresh handsOn again:Bool}{W W':World}{args:Array Value}{ds gs:List (DataW H)}{before:List MemPlace}{tb:TypeId}(lM:s.vars=[])(hl:laidOutB P=true)
  (pB:∀t∈f.params.toList,P.readableRec t=true/\t<P.types.size) (cD:f.resultTypes = #[tb]) (xN:P.underlying tb=some .bool)
  (rj:s.fn H ds={ results:=[.lit (.bool true)],args:=ds }) (hW:DataW.Whole enc P f.params.toList s.vars apart W args.toList ds gs before) (hb:Below W.heap.size W W'):
  s.post enc P f apart fresh handsOn again W args (.bool true) W':=by
 have ag:=hW.lt;have wG:=hW;obtain⟨p,q,hA,hV,rfl,hz,hn⟩:=hW;have Dy:=hV;rw[lM]at hV;obtain⟨rfl,rfl⟩:=trodVars_none hV;simp only[List.append_nil]at *;have aM:∀sp:Nat->Bool,(∀x∈p,sp x.block=true)->DataW.TrodAll enc P W' 0 sp true f.params.toList args.toList (s.fn H ds).args p:=λsp kU=>by
  rw[rj];exact zC1 hl hb pB hA (λx hx=>ag x hx) kU
 have hr:∀(b:Nat) (sp:Nat->Bool) (hd:Bool),DataW.TrodAll enc P W' b sp hd f.resultTypes.toList ((Value.bool true).resultList f.resultTypes.size) (s.fn H ds).results []:=λb sp hd=>by
  rw[rj,cD];exact trodAll_cons_mk (shut_bool xN _) trodAll_mk0
 have eR:∀sp:Nat->Bool,DataW.TrodVars enc P W' sp s.vars (s.fn H ds).vars []:=λsp=>by rw[rj,lM];rfl
 have e:ds++[]=ds:=List.append_nil ds;have hold:∀x∈p,(λb=>decide (b<W.heap.size)) x.block=true:=λx hx=>by simpa using ag x hx
 refine⟨ds,[],p,[],p,[],wG,by rw[e];exact hr _ _ _,by rw[e];exact aM _ hold,by rw[e];exact eR _,hb.frame _,λ_=>⟨ok_one cD rfl (okWide_bool_mk xN _),_,_,([]++p)++[],⟨[]++p,[],trodAll_append (aM _ (λ_ _=>rfl)) (hr _ _ _),eR _,rfl,?_,?_⟩,?_⟩⟩
 .intro b off hp;have iM:MemPlace.cell b off∈p:=by simpa using hp
  rw[hb.frozen (p:=⟨b,off,none⟩) (ag _ iM)];exact hz b off iM
 .intro ha
  have:=hn ha
  simpa using this
 .intro x hx _;simpa using hx
theorem ZK.calls{f:FuncId}{args:List AV}{h:AHeap}{j:Inj}{W:World}{cargs:Array Value}(ac:ZK P f args h (λv _=>v=.bool true))(m:MR W.heap.size W j h W)(hv:VIs j args cargs.toList):
  Calls P f cargs W λe W'=>e=.returned (.bool true)/\Below W.heap.size W W':=by
 have:=ac W.heap.size W j W cargs.toList m hv
 rw[Array.toArray_toList]at this;refine this.mono ?_
 rintro e W' ⟨v,h',j',cv,rfl,_,m',jD,rfl⟩
 exact⟨by rw[show cv=.bool true from jD],m'.below⟩
def nm{α:Type}(a:α):α:=a
theorem nm_eq{α:Type}(a:α):nm a=a:=Eq.trans rfl rfl
section
variable{P:Program}
@[congr] theorem cg_vc {c:IC} {Q:Exit->Env->AHeap->Prop} {e e':Env} {h h':AHeap} (h1:nm e=e') (h2:h=h'):vc P c Q e h=vc P c Q e' h':=by rw[nm_eq]at h1;rw[h1,h2]
@[congr] theorem cg_RV {aE:List II} {K:Env->AHeap->Prop} {e e':Env} {h h':AHeap} (h1:nm e=e') (h2:h=h'):RV P aE e h K=RV P aE e' h' K:=by rw[nm_eq]at h1;rw[h1,h2]
@[congr] theorem cg_DV {nb oD:Nat} {aE:List DI} {recs bY:List Rec} {K:Env->AHeap->Prop} {e e':Env} {h h':AHeap} (h0:nm nb=oD) (h1:recs=bY) (h2:e=e') (h3:h=h'):DV P nb aE recs e h K=DV P oD aE bY e' h' K:=by rw[nm_eq]at h0;rw[h0,h1,h2,h3]
@[congr] theorem cg_ge {it:II} {K:AV->AHeap->Prop} {e e':Env} {h h':AHeap} (h1:nm e=e') (h2:h=h'):ge P it e h K=ge P it e' h' K:=by rw[nm_eq]at h1;rw[h1,h2]
@[congr] theorem zSj {op:IOp} {K:AV->AHeap->Prop} {e e':Env} {h h':AHeap} (h1:nm e=e') (h2:h=h'):eff P op e h K=eff P op e' h' K:=by rw[nm_eq]at h1;rw[h1,h2]
@[congr] theorem zSb {f:FuncId} {K:AV->AHeap->Prop} {args cq:List AV} {h h':AHeap} (h1:nm args=cq) (h2:h=h'):ZK P f args h K=ZK P f cq h' K:=by rw[nm_eq]at h1;rw[h1,h2]
@[congr] theorem zSg {α:Type} {o o':Option α} {K:α->Prop} (h1:nm o=o'):optK o K=optK o' K:=by rw[nm_eq]at h1;rw[h1]
@[congr] theorem zSY {n:Nat} {K:AV->AHeap->Prop} {x x' v v':AV} {h h':AHeap} (h0:nm x=x') (h1:v=v') (h2:h=h'):zFz n x v h K=zFz n x' v' h' K:=by rw[nm_eq]at h0;rw[h0,h1,h2]
@[congr] theorem zSe {sz b:Nat} {z:List AV} {K:AV->AHeap->Prop} {x x' v v':AV} {h h':AHeap} (h0:nm x=x') (h1:v=v') (h2:h=h'):aMake sz b z x v h K=aMake sz b z x' v' h' K:=by rw[nm_eq]at h0;rw[h0,h1,h2]
@[congr] theorem zSZ {K:AV->AHeap->Prop} {f f':AV} {args cq:List AV} {h h':AHeap} (h0:nm f=f') (h1:args=cq) (h2:h=h'):zF0 P f args h K=zF0 P f' cq h' K:=by rw[nm_eq]at h0;rw[h0,h1,h2]
@[congr] theorem zSd {v v':AV} {a b:Prop} (h0:nm v=v'):condK v a b=condK v' a b:=by rw[nm_eq]at h0;rw[h0]
@[congr] theorem zSX {v v':AV} {b:Bool} {x y:Prop} (h0:nm v=v'):zDZ v b x y=zDZ v' b x y:=by rw[nm_eq]at h0;rw[h0]
end
set_option linter.defProp false in
def abQ:=And.intro @zP5 <| And.intro @zMB <| And.intro @zP7 <| And.intro @zRZ <| And.intro @zP8 <| And.intro @zN7 <| And.intro @zP6 <| And.intro @zRa <| And.intro @zSP <| And.intro @RV_q <| And.intro @RV_e <| And.intro @zSR <| And.intro @DV_q <| And.intro @DV_e <| And.intro @zQ4 <| And.intro @zQ3 <| And.intro @zQ7 <| And.intro @zQ6 <| And.intro @zLr <| And.intro @zKA <| And.intro @zNs <| And.intro @zLs <| And.intro @zJ4 <| And.intro @zJ2 <| And.intro @zJ1 <| And.intro @zJ3 <| And.intro @ev_t <| And.intro @ev_c <| And.intro @zQr <| And.intro @zOT <| And.intro @zOU <| And.intro @qv_mv <| And.intro @zQH <| And.intro @zRj <| And.intro @qv_un <| And.intro @zQK <| And.intro @zJF <| And.intro @zOP <| And.intro @zON <| And.intro @zHc <| And.intro @zHb <| And.intro @zJH <| And.intro @zK3 <| And.intro @zRh <| And.intro @zMY <| And.intro @zRi <| And.intro @zOM <| And.intro @zJE <| And.intro @zMX <| And.intro @zJG <| And.intro @zQI <| And.intro @zRg <| And.intro @zNm <| And.intro @zRE <| And.intro @zJ9 <| And.intro @zNj <| And.intro @zL1 <| And.intro @zLk <| And.intro @zNz <| And.intro @zLl <| And.intro @zPS <| And.intro @zPT <| And.intro @zNl <| And.intro @zL5 <| And.intro @zPr <| And.intro @zPd <| And.intro @zPl <| And.intro @zPh <| And.intro @zPg <| And.intro @zPq <| And.intro @zPk <| And.intro @zPm <| And.intro @zPn <| And.intro @zPo <| And.intro @zPp <| And.intro @zNy <| And.intro @zNx <| And.intro @zRM <| And.intro @zRK <| And.intro @zRL <| And.intro @zPj <| And.intro @zPf <| And.intro @zPi <| And.intro @zPe <| And.intro @zRJ <| And.intro @zRI <| And.intro @zL2 <| And.intro @zKF <| And.intro @zN2 <| And.intro @zPs <| And.intro @zPt <| And.intro @zL4 <| And.intro @zL3 <| And.intro @zGa <| And.intro @zIt <| And.intro @zRN <| And.intro @zN0 <| And.intro @zKH <| And.intro @zKG <| And.intro @zML <| And.intro @zMK <| And.intro @zKv <| And.intro @zI6 <| And.intro @zOH <| And.intro @zM1 <| And.intro @zM2 <| @zM0
end Go.Ab
namespace Go.Ab
inductive PV where
 |undef
 |bool (b:Bool)
 |int (k:IntKind) (n:Int)
 |str (s:List UInt8)
 |nilp
 |nilf
 |fz (w:Bool) (a:AV) (len:Nat) (cs:List PV)
 |fp (a:AV) (cs:List PV)
 |ptr (s i:Nat)
 |sl (s off len:Nat) (cap:Cap)
 |clo (f:FuncId) (first cg:List PV)
 |agg (cs:List PV)
 |tup (vs:List PV)
instance:Inhabited PV:=⟨.undef⟩
def PV.one:PV->Bool
 | .undef | .agg _ | .tup _=>false
 |_=>true
def PV.cells:PV->List PV
 | .agg cs=>cs
 |v=>[v]
mutual
def er(ι:Nat->Nat):PV->AV
 | .undef=>.undef
 | .bool b=>.bool b
 | .int k n=>.int k n
 | .str s=>.str s
 | .nilp=>.nilp
 | .nilf=>.nilf
 | .fz _ a _ _=>a
 | .fp a _=>a
 | .ptr s i=>.ptr (ι s) i
 | .sl s off len cap=>.sl (ι s) off len cap
 | .clo f a b=>.clo f (ers ι a) (ers ι b)
 | .agg cs=>.agg (ers ι cs)
 | .tup cs=>.tup (ers ι cs)
def ers(ι:Nat->Nat):List PV->List AV
 |[]=>[]
 |c::cs=>er ι c::ers ι cs
end
mutual
def ofAV:AV->PV
 | .undef=>.undef
 | .bool b=>.bool b
 | .int k n=>.int k n
 | .str s=>.str s
 | .nilp=>.nilp
 | .nilf=>.nilf
 | .nils=>.fz true .nils 0 []
 | .ptr o i=>.fp (.ptr o i) []
 | .sl o off n c=>.fp (.sl o off n c) []
 | .clo f a b=>.clo f (ofAVs a) (ofAVs b)
 | .agg cs=>.agg (ofAVs cs)
 | .tup cs=>.tup (ofAVs cs)
def ofAVs:List AV->List PV
 |[]=>[]
 |c::cs=>ofAV c::ofAVs cs
end
structure PHeap where
 next:Nat
 top:Nat
 obj:Nat->Option (List PV)
namespace PHeap
def new(U:PHeap)(cs:List PV):PHeap:=⟨U.next+1,U.top,λs=>if s=U.next then some cs else U.obj s⟩
def set(U:PHeap)(s:Nat)(cs:List PV):PHeap:=⟨U.next,U.top,λs'=>if s'=s then some cs else U.obj s'⟩
def kill(U:PHeap)(s:Nat):PHeap:=⟨U.next,U.top,λs'=>if s'=s then none else U.obj s'⟩
def up(U:PHeap)(t:Nat):PHeap:=⟨U.next,t,U.obj⟩
def rd1(U:PHeap)(s i:Nat):Option PV:=(U.obj s).bind λcs=>cs[i]?
def rd(U:PHeap)(s i n:Nat):Option (List PV):=(U.obj s).bind λcs=>if i+n<=cs.length then some ((cs.drop i).take n)else none
def wr(U:PHeap)(s i:Nat)(vs:List PV):Option PHeap:=(U.obj s).bind λcs=>
 if i+vs.length<=cs.length/\vs.all PV.one=true then some (U.set s (cs.take i++vs++cs.drop (i+vs.length)))else none
def news(U:PHeap):List (List AV)->PHeap
 |[]=>U
 |z::zs=>(U.new (ofAVs z)).news zs
end PHeap
abbrev PEnv:=Nat->PV
def PEnv.put(e:PEnv)(d:Option Nat)(v:PV):PEnv:=match d with
 |some d=>λt=>if t=d then v else e t
 |none=>e
def PEnv.mk:List Nat->List PV->PEnv
 |s::S,v::vs=>λt=>if t=s then v else PEnv.mk S vs t
 |_,_=>λ_=>.undef
def IX.pv(e:PEnv):IX->PV
 | .t n=>e n
 | .c v=>ofAV v
def Zv:AV->Bool
 | .nils=>true
 |_=>false
def pnil(op:BinOp)(r:Bool):Option PV:=
 match op with
 | .eql=>some (.bool r)
 | .neq=>some (.bool !r)
 |_=>none
def paggB:List PV->List PV->Option Bool
 |[],[]=>some true
 | .int k a::xs,.int k' b::ys=>if k=k' then(paggB xs ys).map λr=>decide (a=b) && r else none
 |_,_=>none
def pbin(op:BinOp)(ek:EqK)(x y:PV):Option PV:=
 match x,y with
 | .int k a,.int k' b=>(abin op ek (.int k a) (.int k' b)).map ofAV
 | .str a,.str b=>(astr op a b).map ofAV
 | .bool a,.bool b=>match ek with | .bool=>pnil op (a == b)|_=>none
 | .fz _ a _ _,.fz _ b _ _=>match ek with | .slice=>if Zv b=true then pnil op (Zv a)else if Zv a=true then pnil op false else none|_=>none
 | .sl _ _ _ _,.fz _ b _ _=>match ek with | .slice=>if Zv b=true then pnil op false else none|_=>none
 | .fz _ a _ _,.sl _ _ _ _=>match ek with | .slice=>if Zv a=true then pnil op false else none|_=>none
 | .nilp,.nilp=>match ek with | .pointer=>pnil op true|_=>none
 | .ptr _ _,.nilp=>match ek with | .pointer=>pnil op false|_=>none
 | .nilp,.ptr _ _=>match ek with | .pointer=>pnil op false|_=>none
 | .nilf,.nilf=>match ek with | .func=>pnil op true|_=>none
 | .clo _ _ _,.nilf=>match ek with | .func=>pnil op false|_=>none
 | .nilf,.clo _ _ _=>match ek with | .func=>pnil op false|_=>none
 | .agg xs,.agg ys=>match ek with | .ints n=>if xs.length=n/\ys.length=n then(paggB xs ys).bind λr=>pnil op r else none|_=>none
 |_,_=>none
def pun(op:UnOp)(x:PV):Option PV:=
 match x with
 | .int k n=>(aun op (.int k n)).map ofAV
 | .bool b=>(aun op (.bool b)).map ofAV
 |_=>none
def pfill(cells:List PV):List (Nat×Nat×PV)->Option (List PV)
 |[]=>some cells
 |(off,size,v)::rest=>
  if v.cells.length=size/\off+size<=cells.length/\v.cells.all PV.one=true then pfill (cells.take off++v.cells++cells.drop (off+size)) rest else none
def Qh(x:PV)(y:Nat):Option Nat:=
 match x with
 | .int _ i=>if 0<=i/\i<=y then some i.toNat else none
 |_=>none
def qN(x:Option PV)(nA y:Nat):Option Nat:=
 match x with
 |some x=>Qh x y
 |none=>some nA
def pslA(e:Nat)(a:AV)(l h:Nat):AV:=
 match a with
 | .sl o off _ (.known c)=>.sl o (if c=l then off else off+l*e) (h-l) (.known (c-l))
 | .sl o off _ (.grown g)=>.sl o (off+l*e) (h-l) (.grown (if g=e then g else 0))
 |a=>a
def pslM(e:Nat)(a:AV)(l h m:Nat):AV:=
 match a with
 | .sl o off _ _=>.sl o (if m=l then off else off+l*e) (h-l) (.known (m-l))
 |a=>a
def QE(e:Nat)(x:PV)(lo hi mx:Option PV):Option PV:=
 match x with
 | .sl s off len (.known c)=>
  (qN mx c c).bind λm=>(qN hi len m).bind λh=>(qN lo 0 h).bind λl=>
   if hi.isNone=true/\mx.isSome=true then none else some (.sl s (if m=l then off else off+l*e) (h-l) (.known (m-l)))
 | .sl s off len (.grown g)=>
  match mx with
  |some mx=>(Qh mx len).bind λm=>(qN hi len m).bind λh=>(qN lo 0 h).bind λl=>
   if hi.isNone=true then none else some (.sl s (if m=l then 0 else off+l*e) (h-l) (.known (m-l)))
  |none=>(qN hi len len).bind λh=>(qN lo 0 h).bind λl=>
   some (.sl s (off+l*e) (h-l) (.grown (if g=e then g else 0)))
 | .fz _ a len cs=>
  match mx with
  |none=>(qN hi len len).bind λh=>(qN lo 0 h).bind λl=>some (.fz false (pslA e a l h) (h-l) ((cs.drop (l*e)).take ((h-l)*e)))
  |some mx=>match a with
   | .nils=>(Qh mx 0).bind λm=>(qN hi 0 m).bind λh=>(qN lo 0 h).bind λ_=>if hi.isNone=true then none else some (.fz true .nils 0 [])
   |_=>none
 |_=>none
def zBw(x:PV)(lo hi:Option PV):Option PV:=
 match x with
 | .str s=>(qN hi s.length s.length).bind λh=>(qN lo 0 h).bind λl=>some (.str ((s.take h).drop l))
 |_=>none
def pPick(c a b:PV):Option PV:=
 match c with
 | .bool t=>some (if t=true then a else b)
 |_=>none
def pConv(k:IntKind)(x:PV):Option PV:=
 match x with
 | .int _ n=>some (.int k (k.wrap n))
 |_=>none
def pNil(x:PV):Option PV:=
 match x with
 | .ptr s i=>some (.ptr s i)
 | .fp a cs=>if cs.isEmpty=true then none else some (.fp a cs)
 | .clo f a b=>some (.clo f a b)
 |_=>none
def zDQ(agg:Bool)(n off:Nat)(x:PV):Option PV:=
 match x with
 | .agg cs=>if agg=true then some (.agg ((cs.drop off).take n))else cs[off]?
 |_=>none
def pAdd(a:AV)(k:Nat):AV:=
 match a with
 | .ptr o i=>.ptr o (i+k)
 |a=>a
def zAN(off:Nat)(x:PV):Option PV:=
 match x with
 | .ptr s i=>some (.ptr s (i+off))
 | .fp a cs=>if cs.isEmpty=true then none else some (.fp (pAdd a off) (cs.drop off))
 |_=>none
def pAt(a:AV)(k:Nat):AV:=
 match a with
 | .sl o off _ _=>.ptr o (off+k)
 |_=>.ptr 0 0
def zCP(sz:Nat)(x i:PV):Option PV:=
 match x,i with
 | .sl s off len _,.int _ n=>if 0<=n/\n<len then some (.ptr s (off+n.toNat*sz))else none
 | .fz _ a len cs,.int _ n=>if 0<=n/\n<len then some (.fp (pAt a (n.toNat*sz)) (cs.drop (n.toNat*sz)))else none
 |_,_=>none
def zDv(x i:PV):Option PV:=
 match x,i with
 | .str s,.int _ n=>if 0<=n then(s[n.toNat]?).map λc=>.int .u8 c.toNat else none
 |_,_=>none
def zCr(x:PV)(i:Nat):Option PV:=
 match x with
 | .tup vs=>vs[i]?
 |_=>none
def plen(x:PV):Option Nat:=
 match x with
 | .fz _ _ n _=>some n
 | .sl _ _ n _=>some n
 |_=>none
def pLen(x:PV):Option PV:=(plen x).map λn=>.int .i64 n
def zDu(x:PV):Option PV:=
 match x with
 | .str s=>some (.int .i64 s.length)
 |_=>none
def pCap(x:PV):Option PV:=
 match x with
 | .sl _ _ _ (.known c)=>some (.int .i64 c)
 | .fz _ .nils _ _=>some (.int .i64 0)
 |_=>none
def zCO(mx:Bool)(x y:PV):Option PV:=
 match x,y with
 | .int k a,.int k' b=>if k=k' then some (.int k (if mx=true then max a b else min a b))else none
 |_,_=>none
def pldv(agg:Bool)(n:Nat)(x:PV)(U:PHeap):Option PV:=
 match x with
 | .ptr s i=>if agg=true then(U.rd s i n).map .agg else U.rd1 s i
 | .fp _ cs=>if agg=true then(if 0<n/\n<=cs.length then some (.agg (cs.take n))else none)else cs[0]?
 |_=>none
def qp(nb nr:Nat)(op:IOp)(e:PEnv)(U:PHeap):Option PV:=
 match op with
 | .mv x=>some (x.pv e)
 | .pick c a b=>pPick (c.pv e) (a.pv e) (b.pv e)
 | .bin op ek x y=>pbin op ek (x.pv e) (y.pv e)
 | .un op x=>pun op (x.pv e)
 | .conv k x=>pConv k (x.pv e)
 | .nilCheck x=>pNil (x.pv e)
 | .build z ps=>(pfill (ofAVs z) (ps.map λp=>(p.1,p.2.1,p.2.2.pv e))).map .agg
 | .field agg n off x=>zDQ agg n off (x.pv e)
 | .fieldAddr off x=>zAN off (x.pv e)
 | .indexAddr sz x i=>zCP sz (x.pv e) (i.pv e)
 | .indexStr x i=>zDv (x.pv e) (i.pv e)
 | .extract x i=>zCr (x.pv e) i
 | .len x=>pLen (x.pv e)
 | .lenStr x=>zDu (x.pv e)
 | .cap x=>pCap (x.pv e)
 | .slice sz x lo hi mx=>QE sz (x.pv e) (lo.map (·.pv e)) (hi.map (·.pv e)) (mx.map (·.pv e))
 | .sliceStr x lo hi=>zBw (x.pv e) (lo.map (·.pv e)) (hi.map (·.pv e))
 | .maxmin mx x y=>zCO mx (x.pv e) (y.pv e)
 | .makeFunc f first cg=>some (.clo f (first.map (·.pv e)) (cg.map (·.pv e)))
 | .load agg n x=>pldv agg n (x.pv e) U
 | .rev k=>if k<nr then some (.ptr (nb+k) 0)else none
 | .revS k n=>if k<nr then some (.sl (nb+k) 0 n (.known n))else none
 |_=>none
def QF(e:Nat)(U:PHeap)(x:PV)(n:Nat):Option (List PV):=
 if n=0 then some []else
 match x with
 | .sl s off len _=>if n<=len then U.rd s off (n*e)else none
 | .fz _ _ len cs=>if n<=len/\n*e<=cs.length/\0<e then some (cs.take (n*e))else none
 |_=>none
def pgrow(e bytes:Nat)(U:PHeap)(s:PV)(news:List PV)(m:Nat):Option (PV×PHeap):=
 match s with
 | .fz _ .nils _ _=>if m*bytes<=140737488355328/\m<=4611686018427387904 then some (.sl U.next 0 m (.grown e),U.new news)else none
 | .fz w (.sl _ _ _ (.known c)) len cs=>
  if c<len+m/\(w=true\/cs.isEmpty=false)/\cs.length=len*e/\(len+m)*bytes<=140737488355328/\len+m<=4611686018427387904 then some (.sl U.next 0 (len+m) (.grown e),U.new (cs++news))else none
 | .sl s off len (.known c)=>
  if len+m<=c then(U.wr s (off+len*e) news).map λσ'=>(.sl s off (len+m) (.known c),σ')
  else if (len+m)*bytes<=140737488355328/\len+m<=4611686018427387904 then(U.rd s off (len*e)).map λdc=>(.sl U.next 0 (len+m) (.grown e),U.new (dc++news))else none
 | .sl s off len (.grown g)=>
  if (len+m)*bytes<=140737488355328/\len+m<=4611686018427387904/\g=e then
   (U.obj s).bind λcs=>if off+len*e<=cs.length then some (.sl U.next 0 (len+m) (.grown e),(U.kill s).new ((cs.drop off).take (len*e)++news))else none
  else none
 |_=>none
def psame(s:PV):Option PV:=
 match s with
 | .fz _ .nils _ _=>some (.fz true .nils 0 [])
 | .sl s off len (.known c)=>if len<=c then some (.sl s off len (.known c))else none
 | .sl s off len (.grown e)=>some (.sl s off len (.grown e))
 | .fz w (.sl o off l c) len cs=>some (.fz w (.sl o off l c) len cs)
 |_=>none
def Zb(e bytes:Nat)(U:PHeap)(s x:PV):Option (PV×PHeap):=
 (plen x).bind λm=>if m=0 then(psame s).map λv=>(v,U)else(QF e U x m).bind λnews=>pgrow e bytes U s news m
def pcopy(e:Nat)(U:PHeap)(d s:PV):Option (PV×PHeap):=
 (plen d).bind λn=>(plen s).bind λm=>if min m n=0 then some (.int .i64 0,U)else
  match d with
  | .sl o off _ _=>(QF e U s (min m n)).bind λcs=>(U.wr o off cs).map λσ'=>(.int .i64 (min m n:Nat),σ')
  |_=>none
end Go.Ab
set_option linter.unusedVariables false
set_option linter.unusedSimpArgs false
namespace Go.Ab
variable{ι ι':Nat->Nat}{Z Z':Nat->Prop}{h h':AHeap}{U σ':PHeap}{n n':Nat}
theorem Ql(ι:Nat->Nat):∀cs:List PV,ers ι cs=cs.map (er ι)
 |[]=>rfl
 |c::cs=>by rw[ers,Ql ι cs];rfl
theorem zGe:∀cs:List AV,ofAVs cs=cs.map ofAV
 |[]=>rfl
 |c::cs=>by rw[ofAVs,zGe cs];rfl
mutual
theorem zGW(ι:Nat->Nat):∀v:AV,er ι (ofAV v)=v
 | .undef | .bool _ | .int _ _ | .str _ | .nilp | .nilf | .nils | .ptr _ _ | .sl _ _ _ _=>rfl
 | .clo f a b=>by simp only[ofAV,er,Zi ι a,Zi ι b]
 | .agg a=>by simp only[ofAV,er,Zi ι a]
 | .tup a=>by simp only[ofAV,er,Zi ι a]
theorem Zi(ι:Nat->Nat):∀v:List AV,ers ι (ofAVs v)=v
 |[]=>rfl
 |c::cs=>by simp only[ofAVs,ers,zGW ι c,Zi ι cs]
end
def FzAt(Z:Nat->Prop)(h:AHeap)(w:Bool)(a:AV)(len:Nat)(ws:List AV):Prop:=
 (a=.nils/\len=0/\ws=[])\/∃o off cap,a=.sl o off len cap/\Z o/\(ws=[]\/h.rd o off ws.length=some ws)/\(∀c,cap=.known c->len<=c)/\(w=true->off=0/\h.obj o=some ⟨true,ws⟩)
def FpAt(Z:Nat->Prop)(h:AHeap)(a:AV)(ws:List AV):Prop:=
 a.one=true/\(ws=[]\/∃o i,a=.ptr o i/\Z o/\h.rd o i ws.length=some ws)
def idz:Nat->Nat:=λ_=>0
mutual
def VOK(Z:Nat->Prop)(h:AHeap)(n:Nat):PV->Prop
 | .undef | .bool _ | .int _ _ | .str _ | .nilp | .nilf=>True
 | .fz w a len cs=>FzAt Z h w a len (ers idz cs)/\VOKs Z h 0 cs
 | .fp a cs=>FpAt Z h a (ers idz cs)/\VOKs Z h 0 cs
 | .ptr s _=>s<n
 | .sl s _ _ _=>s<n
 | .clo _ a b=>VOKs Z h n a/\VOKs Z h n b
 | .agg cs=>VOKs Z h n cs
 | .tup cs=>VOKs Z h n cs
def VOKs(Z:Nat->Prop)(h:AHeap)(n:Nat):List PV->Prop
 |[]=>True
 |c::cs=>VOK Z h n c/\VOKs Z h n cs
end
theorem Qw:∀{cs:List PV},VOKs Z h n cs↔∀c∈cs,VOK Z h n c
 |[]=>by simp[VOKs]
 |c::cs=>by simp[VOKs,Qw (cs:=cs)]
theorem FzAt.mono(hz:∀o,Z o->Z' o/\h'.obj o=h.obj o){w:Bool}{a:AV}{len:Nat}{ws:List AV}(hf:FzAt Z h w a len ws):FzAt Z' h' w a len ws:=by
 rcases hf with hf|⟨o,off,cap,rfl,h1,h2,h3,h4⟩
 .exact .inl hf
 .exact .inr ⟨o,off,cap,rfl,(hz o h1).1,h2.imp id λh2=>by rw[zCl (hz o h1).2];exact h2,h3,λhw=>⟨(h4 hw).1,by rw[(hz o h1).2];exact(h4 hw).2⟩⟩
theorem FpAt.mono(hz:∀o,Z o->Z' o/\h'.obj o=h.obj o){a:AV}{ws:List AV}(hf:FpAt Z h a ws):FpAt Z' h' a ws:=by
 obtain⟨h0,rfl|⟨o,i,rfl,h1,h2⟩⟩:=hf
 .exact⟨h0,.inl rfl⟩
 .exact⟨h0,.inr ⟨o,i,rfl,(hz o h1).1,by rw[zCl (hz o h1).2];exact h2⟩⟩
mutual
theorem VOK.mono(hz:∀o,Z o->Z' o/\h'.obj o=h.obj o){n n':Nat}(hn:n<=n'):∀{v:PV},VOK Z h n v->VOK Z' h' n' v
 | .undef,_ | .bool _,_ | .int _ _,_ | .str _,_ | .nilp,_ | .nilf,_=>trivial
 | .fz w a len cs,hv=>⟨hv.1.mono hz,VOKs.mono hz (vM 0) hv.2⟩
 | .fp a cs,hv=>⟨hv.1.mono hz,VOKs.mono hz (vM 0) hv.2⟩
 | .ptr s _,hv=>Nat.lt_of_lt_of_le (show s<n from hv) hn
 | .sl s _ _ _,hv=>Nat.lt_of_lt_of_le (show s<n from hv) hn
 | .clo _ a b,hv=>⟨VOKs.mono hz hn hv.1,VOKs.mono hz hn hv.2⟩
 | .agg cs,hv=>VOKs.mono (cs:=cs) hz hn hv
 | .tup cs,hv=>VOKs.mono (cs:=cs) hz hn hv
theorem VOKs.mono(hz:∀o,Z o->Z' o/\h'.obj o=h.obj o){n n':Nat}(hn:n<=n'):∀{cs:List PV},VOKs Z h n cs->VOKs Z' h' n' cs
 |[],_=>trivial
 |c::cs,hv=>⟨VOK.mono hz hn hv.1,VOKs.mono hz hn hv.2⟩
end
theorem VOKs.up{v:List PV}(hv:VOKs Z h n v)(hn:n<=n'):VOKs Z h n' v:=hv.mono (λo ho=>⟨ho,rfl⟩) hn
mutual
theorem zEt{n:Nat}(hi:∀s,s<n->ι' s=ι s):∀{v:PV},VOK Z h n v->er ι' v=er ι v
 | .undef,_ | .bool _,_ | .int _ _,_ | .str _,_ | .nilp,_ | .nilf,_=>rfl
 | .fz w a len cs,hv=>rfl
 | .fp a cs,hv=>rfl
 | .ptr s _,hv=>by simp only[er];rw[hi s hv]
 | .sl s _ _ _,hv=>by simp only[er];rw[hi s hv]
 | .clo _ a b,hv=>by simp only[er];rw[QH hi hv.1,QH hi hv.2]
 | .agg cs,hv=>by simp only[er];rw[QH (cs:=cs) hi hv]
 | .tup cs,hv=>by simp only[er];rw[QH (cs:=cs) hi hv]
theorem QH{n:Nat}(hi:∀s,s<n->ι' s=ι s):∀{cs:List PV},VOKs Z h n cs->ers ι' cs=ers ι cs
 |[],_=>rfl
 |c::cs,hv=>by simp only[ers];rw[zEt hi hv.1,QH hi hv.2]
end
theorem zBH{cs:List PV}(hv:VOKs Z h 0 cs):ers ι cs=ers idz cs:=QH (λs hs=>absurd hs (Nat.not_lt_zero _)) hv
theorem zB5{v:PV}(hv:VOK Z h 0 v):er ι v=er idz v:=zEt (λs hs=>absurd hs (Nat.not_lt_zero _)) hv
mutual
theorem VOK.ofAV:∀(v:AV),VOK Z h n (ofAV v)
 | .undef | .bool _ | .int _ _ | .str _ | .nilp | .nilf=>trivial
 | .nils=>⟨.inl ⟨rfl,rfl,rfl⟩,trivial⟩
 | .ptr _ _ | .sl _ _ _ _=>⟨⟨rfl,.inl rfl⟩,trivial⟩
 | .clo f a b=>⟨VOKs.ofAVs a,VOKs.ofAVs b⟩
 | .agg cs=>VOKs.ofAVs cs
 | .tup cs=>VOKs.ofAVs cs
theorem VOKs.ofAVs:∀(v:List AV),VOKs Z h n (ofAVs v)
 |[]=>trivial
 |c::cs=>⟨VOK.ofAV c,VOKs.ofAVs cs⟩
end
theorem zIR{v:PV}(hv:VOK Z h n v):(er ι v).one=v.one:=by
 cases v with
 |fz w a len cs=>
  obtain⟨rfl,_⟩|⟨o,off,cap,rfl,_⟩:=hv.1<;>rfl
 |fp a cs=>exact hv.1.1
 |_=>rfl
theorem zBq{a:AV}(ha:a.one=true):a.cells=[a]:=by cases a<;>first|rfl|cases ha
theorem zEu{v:PV}(hv:VOK Z h n v):(er ι v).cells=ers ι v.cells:=by
 cases v with
 |fz w a len cs=>
  obtain⟨rfl,_⟩|⟨o,off,cap,rfl,_⟩:=hv.1<;>rfl
 |fp a cs=>exact zBq hv.1.1
 |_=>rfl
theorem VOK.cells{v:PV}(hv:VOK Z h n v):VOKs Z h n v.cells:=by
 cases v with
 |agg cs=>exact hv
 |_=>exact⟨hv,trivial⟩
theorem qG(cs:List PV):(ers ι cs).length=cs.length:=by simp[Ql]
theorem Zx(as bs:List PV):ers ι (as++bs)=ers ι as++ers ι bs:=by simp[Ql]
theorem Qb(as:List PV)(k:Nat):ers ι (as.take k)=(ers ι as).take k:=by simp[Ql,List.map_take]
theorem Qc(as:List PV)(k:Nat):ers ι (as.drop k)=(ers ι as).drop k:=by simp[Ql,List.map_drop]
theorem zAh(as:List PV)(k:Nat):(ers ι as)[k]? = (as[k]?).map (er ι):=by simp[Ql]
theorem zD2{cs:List PV}(hv:VOKs Z h n cs):(ers ι cs).all AV.one=cs.all PV.one:=by
 induction cs with
 |nil=>rfl
 |cons c cs ih=>simp only[ers,List.all_cons,zIR hv.1,ih hv.2]
theorem VOKs.append{as bs:List PV}(ha:VOKs Z h n as)(hb:VOKs Z h n bs):VOKs Z h n (as++bs):=by
 rw[Qw]at *;intro c hc;rcases List.mem_append.1 hc with hc|hc
 .exact ha c hc
 .exact hb c hc
theorem VOKs.take{as:List PV}(ha:VOKs Z h n as)(k:Nat):VOKs Z h n (as.take k):=by
 rw[Qw]at *;exactλc hc=>ha c (List.mem_of_mem_take hc)
theorem VOKs.drop{as:List PV}(ha:VOKs Z h n as)(k:Nat):VOKs Z h n (as.drop k):=by
 rw[Qw]at *;exactλc hc=>ha c (List.mem_of_mem_drop hc)
theorem VOKs.get{as:List PV}(ha:VOKs Z h n as){k:Nat}{v:PV}(hk:as[k]? = some v):VOK Z h n v:=Qw.1 ha v (List.mem_of_getElem? hk)
structure Rel(ι:Nat->Nat)(Z:Nat->Prop)(U:PHeap)(h:AHeap):Prop where
 hwf:HWF h
 zlt:∀o,Z o->o<h.next
 top:U.top<=h.next
 wf:∀s,U.next<=s->U.obj s=none
 obj:∀s cs,U.obj s=some cs->h.obj (ι s)=some ⟨true,ers ι cs⟩/\VOKs Z h U.next cs/\¬Z (ι s)
 inj:∀s s' cs dF,U.obj s=some cs->U.obj s'=some dF->ι s=ι s'->s=s'
structure Aft(ι:Nat->Nat)(Z:Nat->Prop)(U:PHeap)(h:AHeap)(ι':Nat->Nat)(Z':Nat->Prop)(σ':PHeap)(h':AHeap):Prop where
 next:U.next<=σ'.next
 hnext:h.next<=h'.next
 inj:∀s,s<U.next->ι' s=ι s
 z:∀o,Z o->Z' o/\h'.obj o=h.obj o
 dead:∀s,s<U.next->U.obj s=none->σ'.obj s=none
 fresh:∀s cs,U.next<=s->σ'.obj s=some cs->h.next<=ι' s
theorem Rel.none_lt(r:Rel ι Z U h){s:Nat}{cs:List PV}(hs:U.obj s=some cs):s<U.next:=by
 rcases Nat.lt_or_ge s U.next with x|x
 .exact x
 .rw[r.wf s x]at hs;cases hs
theorem Aft.refl(r:Rel ι Z U h):Aft ι Z U h ι Z U h:=⟨vM _,vM _,λ_ _=>rfl,λo ho=>⟨ho,rfl⟩,λ_ _ h=>h,λs cs hs ho=>absurd (r.none_lt ho) (by omega)⟩
theorem Aft.trans{ι'':Nat->Nat}{nB:Nat->Prop}{σ'':PHeap}{cN:AHeap}(a:Aft ι Z U h ι' Z' σ' h')(b:Aft ι' Z' σ' h' ι'' nB σ'' cN):Aft ι Z U h ι'' nB σ'' cN:=
 ⟨Nat.le_trans a.next b.next,Nat.le_trans a.hnext b.hnext,λs hs=>(b.inj s (Nat.lt_of_lt_of_le hs a.next)).trans (a.inj s hs),
  λo ho=>⟨(b.z o (a.z o ho).1).1,(b.z o (a.z o ho).1).2.trans (a.z o ho).2⟩,λs hs hn=>b.dead s (Nat.lt_of_lt_of_le hs a.next) (a.dead s hs hn),
  λs cs hs ho=>by
   rcases Nat.lt_or_ge s σ'.next with x|x
   .rw[b.inj s x];cases hc:σ'.obj s with
    |none=>rw[b.dead s x hc]at ho;cases ho
    |some ds=>exact a.fresh s ds hs hc
   .exact Nat.le_trans a.hnext (b.fresh s cs x ho)⟩
theorem Aft.vok{v:PV}(a:Aft ι Z U h ι' Z' σ' h')(hv:VOK Z h U.next v):VOK Z' h' σ'.next v:=hv.mono a.z a.next
theorem Aft.voks{v:List PV}(a:Aft ι Z U h ι' Z' σ' h')(hv:VOKs Z h U.next v):VOKs Z' h' σ'.next v:=hv.mono a.z a.next
theorem Aft.er{v:PV}(a:Aft ι Z U h ι' Z' σ' h')(hv:VOK Z h U.next v):er ι' v=er ι v:=zEt a.inj hv
theorem Aft.ers{v:List PV}(a:Aft ι Z U h ι' Z' σ' h')(hv:VOKs Z h U.next v):ers ι' v=ers ι v:=QH a.inj hv
def EOK(Z:Nat->Prop)(h:AHeap)(n:Nat)(E:PEnv):Prop:=∀t,VOK Z h n (E t)
def erE(ι:Nat->Nat)(E:PEnv):Env:=λt=>er ι (E t)
theorem Aft.eok{E:PEnv}(a:Aft ι Z U h ι' Z' σ' h')(hv:EOK Z h U.next E):EOK Z' h' σ'.next E:=λt=>a.vok (hv t)
theorem Aft.erE{E:PEnv}(a:Aft ι Z U h ι' Z' σ' h')(hv:EOK Z h U.next E):erE ι' E=erE ι E:=funext λt=>a.er (hv t)
theorem zBR(E:PEnv)(d:Option Nat)(v:PV):erE ι (E.put d v)=(erE ι E).put d (er ι v):=by
 cases d with
 |none=>rfl
 |some d=>funext t;simp only[Go.Ab.erE,PEnv.put,Env.put];split<;>rfl
theorem EOK.put{E:PEnv}(he:EOK Z h n E){v:PV}(hv:VOK Z h n v)(d:Option Nat):EOK Z h n (E.put d v):=by
 cases d with
 |none=>exact he
 |some d=>intro t;simp only[PEnv.put];split;exact hv;exact he t
theorem zBm:∀(S:List Nat) (vs:List PV),erE ι (PEnv.mk S vs)=Env.mk S (ers ι vs)
 |[],vs=>by funext t;simp[Go.Ab.erE,PEnv.mk,Env.mk,er]
 |s::S,[]=>by funext t;simp[Go.Ab.erE,PEnv.mk,Env.mk,er,Go.Ab.ers]
 |s::S,v::vs=>by
  funext t
  have:=congrFun (zBm S vs) t
  simp only[Go.Ab.erE,PEnv.mk,Env.mk,Go.Ab.ers]at this ⊢;split
  .rfl
  .exact this
theorem EOK.mk:∀{S:List Nat} {vs:List PV},VOKs Z h n vs->EOK Z h n (PEnv.mk S vs)
 |[],vs,_=>λt=>trivial
 |s::S,[],_=>λt=>trivial
 |s::S,v::vs,hv=>λt=>by simp only[PEnv.mk];split;exact hv.1;exact EOK.mk hv.2 t
theorem zCZ(E:PEnv)(S:List Nat):ers ι (S.map E)=S.map (erE ι E):=by simp[Ql,erE]
theorem EOK.map{E:PEnv}(he:EOK Z h n E)(S:List Nat):VOKs Z h n (S.map E):=by
 rw[Qw];intro c hc;obtain⟨t,_,rfl⟩:=List.mem_map.1 hc;exact he t
theorem er_pv(E:PEnv)(x:IX):er ι (x.pv E)=x.ev (erE ι E):=by
 cases x with
 |t n=>rfl
 |c v=>exact zGW ι v
theorem EOK.pv{E:PEnv}(he:EOK Z h n E)(x:IX):VOK Z h n (x.pv E):=by
 cases x with
 |t n=>exact he n
 |c v=>exact VOK.ofAV v
theorem zCY(E:PEnv)(l:List IX):ers ι (l.map (·.pv E))=l.map (·.ev (erE ι E)):=by
 rw[Ql,List.map_map];exact List.map_congr_left λx _=>er_pv E x
theorem EOK.pvs{E:PEnv}(he:EOK Z h n E)(l:List IX):VOKs Z h n (l.map (·.pv E)):=by
 rw[Qw];intro c hc;obtain⟨x,_,rfl⟩:=List.mem_map.1 hc;exact he.pv x
theorem zGI(r:Rel ι Z U h){s i k:Nat}{vs:List PV}(hv:U.rd s i k=some vs):h.rd (ι s) i k=some (ers ι vs)/\VOKs Z h U.next vs:=by
 simp only[PHeap.rd,Option.bind_eq_some_iff]at hv;obtain⟨cs,hc,hv⟩:=hv;split at hv
 .rename_i hl;cases hv;obtain⟨h1,h2,_⟩:=r.obj s cs hc;refine⟨?_,(h2.drop _).take _⟩;rw[zBv h1 (by simpa [qG]using hl),Qb,Qc]
 .cases hv
theorem zOL(r:Rel ι Z U h){s i:Nat}{v:PV}(hv:U.rd1 s i=some v):h.rd1 (ι s) i=some (er ι v)/\VOK Z h U.next v:=by
 simp only[PHeap.rd1,Option.bind_eq_some_iff]at hv;obtain⟨cs,hc,hv⟩:=hv;obtain⟨h1,h2,_⟩:=r.obj s cs hc;exact⟨by rw[Qz h1,zAh,hv];rfl,h2.get hv⟩
theorem zCo(r:Rel ι Z U h){agg:Bool}{k:Nat}{x v:PV}(hx:VOK Z h U.next x)(hv:pldv agg k x U=some v):ldv agg k (er ι x) h=some (er ι v)/\VOK Z h U.next v:=by
 cases x<;>simp only[pldv,reduceCtorEq]at hv
 case ptr s i=>
  simp only[er,ldv];cases agg with
  |true=>
   simp only[if_true,Option.map_eq_some_iff]at hv ⊢;obtain⟨vs,hv,rfl⟩:=hv;obtain⟨h1,h2⟩:=zGI r hv;exact⟨⟨_,h1,rfl⟩,h2⟩
  |false=>
   simp only[Bool.false_eq_true,if_false]at hv ⊢;exact zOL r hv
 case fp a cs=>
  obtain⟨⟨h0,h1⟩,h2⟩:=hx;have gR:=h2.up (Nat.zero_le U.next);rcases h1 with h1|⟨o,i,rfl,h3,h4⟩
  .have:cs=[]:=List.eq_nil_of_length_eq_zero (by rw[<-qG (ι:=idz),h1];rfl)
   subst this;cases agg with
   |true=>
    simp only[if_true]at hv;split at hv
    .rename_i hc;simp at hc;omega
    .cases hv
   |false=>simp at hv
  .simp only[er,ldv];cases agg with
   |true=>
    simp only[if_true]at hv ⊢;split at hv
    .rename_i hc;cases hv
     have:=zDJ h4 (a:=0) (b:=k) (by rw[qG];omega)
     rw[Nat.add_zero,List.drop_zero]at this;rw[this,<-Qb];exact⟨by simp[er,zBH (ι:=ι) (h2.take k)],gR.take k⟩
    .cases hv
   |false=>
    simp only[Bool.false_eq_true,if_false]at hv ⊢;have hl:0<(ers idz cs).length:=by
     rw[qG];exact(List.getElem?_eq_some_iff.1 hv).1
    have:=zMW h4 hl
    rw[Nat.add_zero]at this;rw[this,zAh,hv];exact⟨by simp[zB5 (ι:=ι) (h2.get hv)],gR.get hv⟩
theorem zCE:∀{ps:List (Nat×Nat×PV)} {cells cs:List PV},(∀p∈ps,VOK Z h n p.2.2)->VOKs Z h n cells->pfill cells ps=some cs->
  afill (ers ι cells) (ps.map λp=>(p.1,p.2.1,er ι p.2.2))=some (ers ι cs)/\VOKs Z h n cs
 |[],cells,cs,_,hc,hv=>by cases hv;exact⟨rfl,hc⟩
 |(off,size,v)::ps,cells,cs,hp,hc,hv=>by
  simp only[pfill]at hv;split at hv
  .rename_i fx;have iX:VOK Z h n v:=hp (off,size,v) (by simp);have ih:=zCE (λp iM=>hp p (by simp[iM])) (((hc.take off).append iX.cells).append (hc.drop (off+size))) hv;simp only[List.map_cons,afill];rw[zEu iX,if_pos ⟨by rw[qG];exact fx.1,by rw[qG];exact fx.2.1,by rw[zD2 iX.cells];exact fx.2.2⟩];rw[Zx,Zx,Qb,Qc]at ih;exact ih
  .cases hv
theorem zLe{a:AV}(ha:Zv a=true):a=.nils:=by cases a<;>first|rfl|cases ha
theorem zBh{x:PV}{y k:Nat}(hv:Qh x y=some k):zA2 (er ι x) y=some k:=by
 cases x<;>simp only[Qh,reduceCtorEq]at hv
 exact hv
theorem qL{x:Option PV}{d y k:Nat}(hv:qN x d y=some k):qJ (x.map (er ι)) d y=some k:=by
 cases x with
 |none=>exact hv
 |some x=>exact zBh hv
theorem zMw{x:PV}{y k:Nat}(hv:Qh x y=some k):k<=y:=by
 cases x<;>simp only[Qh,reduceCtorEq]at hv
 split at hv
 .cases hv;omega
 .cases hv
theorem zFN{x:Option PV}{d y k:Nat}(hd:d<=y)(hv:qN x d y=some k):k<=y:=by
 cases x with
 |none=>cases hv;exact hd
 |some x=>exact zMw hv
theorem zIn(e:Nat)(lo hi:Option AV):Qj e .nils lo hi none=(qJ hi 0 0).bind λh=>(qJ lo 0 h).bind λ_=>if hi.isNone=true/\(none:Option AV).isSome=true then none else some .nils:=rfl
theorem zHH(e o off len c:Nat)(lo hi:Option AV):Qj e (.sl o off len (.known c)) lo hi none=(qJ hi len c).bind λh=>(qJ lo 0 h).bind λl=>
   if hi.isNone=true/\(none:Option AV).isSome=true then none else some (.sl o (if c=l then off else off+l*e) (h-l) (.known (c-l))):=rfl
theorem zHi{e:Nat}{x v:PV}{lo hi mx:Option PV}(hx:VOK Z h n x)(hv:QE e x lo hi mx=some v):
  Qj e (er ι x) (lo.map (er ι)) (hi.map (er ι)) (mx.map (er ι))=some (er ι v)/\VOK Z h n v:=by
 cases x<;>simp only[QE,reduceCtorEq]at hv
 case sl s off len cap=>
  cases cap with
  |known c=>
   simp only[Option.bind_eq_some_iff]at hv;obtain⟨m,h1,k,h2,l,h3,hv⟩:=hv;split at hv
   .cases hv
   .rename_i hc;cases hv;simp only[er,Qj];rw[qL h1];simp only[Option.bind_some];rw[qL h2];simp only[Option.bind_some];rw[qL h3];simp only[Option.bind_some,Option.isNone_map,Option.isSome_map];rw[if_neg hc];exact⟨rfl,hx⟩
  |grown g=>
   cases mx with
   |none=>
    simp only[Option.bind_eq_some_iff]at hv;obtain⟨k,h2,l,h3,hv⟩:=hv;cases hv;simp only[er,Qj,Option.map_none];rw[qL h2];simp only[Option.bind_some];rw[qL h3];simp only[Option.bind_some];exact⟨trivial,hx⟩
   |some mx=>
    simp only[Option.bind_eq_some_iff]at hv;obtain⟨m,h1,k,h2,l,h3,hv⟩:=hv;split at hv
    .cases hv
    .rename_i hc;cases hv;simp only[er,Qj,Option.map_some];rw[zBh h1];simp only[Option.bind_some];rw[qL h2];simp only[Option.bind_some];rw[qL h3];simp only[Option.bind_some,Option.isNone_map];rw[if_neg hc];exact⟨rfl,hx⟩
 case fz w a len cs=>
  cases mx with
  |some mx=>
   cases a<;>try cases hv
   simp only[Option.bind_eq_some_iff]at hv;obtain⟨m,h1,k,h2,l,h3,hv⟩:=hv;split at hv
   .cases hv
   .rename_i hc;cases hv;simp only[er,Qj,Option.map_some];rw[show qJ (some (er ι mx)) 0 0=some m from zBh h1];simp only[Option.bind_some];rw[qL h2];simp only[Option.bind_some];rw[qL h3];simp only[Option.bind_some,Option.isNone_map];rw[if_neg λh=>hc h.1];exact⟨rfl,.inl ⟨rfl,rfl,rfl⟩,trivial⟩
  |none=>
   simp only[Option.bind_eq_some_iff]at hv;obtain⟨k,h2,l,h3,hv⟩:=hv;cases hv;have hk:=zFN (vM _) h2;have hl:=zFN (Nat.zero_le _) h3;obtain⟨hf,hc⟩:=hx;have l9:VOKs Z h 0 ((cs.drop (l*e)).take ((k-l)*e)):=(hc.drop _).take _;simp only[er,Option.map_none];rcases hf with ⟨rfl,rfl,he⟩|⟨o,off,cap,rfl,h4,h5,h6,h7⟩
   .have:cs=[]:=List.eq_nil_of_length_eq_zero (by rw[<-qG (ι:=idz),he];rfl)
    subst this;obtain rfl:k=0:=by omega
    obtain rfl:l=0:=by omega
    rw[zIn];rw[show qJ (hi.map (er ι)) 0 0=some 0 from qL h2];simp only[Option.bind_some];rw[show qJ (lo.map (er ι)) 0 0=some 0 from qL h3];simp only[Option.bind_some];refine⟨by simp[pslA],.inl ⟨rfl,rfl,by simp[ers]⟩,by simp[VOKs]⟩
   .have bg:∀di,(di=off+l*e\/(di=off/\(k-l)*e=0))->(ers idz ((cs.drop (l*e)).take ((k-l)*e))=[]\/h.rd o di (ers idz ((cs.drop (l*e)).take ((k-l)*e))).length=some (ers idz ((cs.drop (l*e)).take ((k-l)*e)))):=by
     rintro di (rfl|⟨rfl,h0⟩)
     .rw[Qb,Qc];by_cases hle:l*e<(ers idz cs).length
      .right;rcases h5 with h5|h5
       .rw[h5]at hle;simp at hle
       .have:=zDJ h5 (a:=l*e) (b:=((List.drop (l*e) (ers idz cs)).take ((k-l)*e)).length) (by simp;omega)
        rw[this];congr 1;rw[List.length_take];apply List.ext_getElem?;intro q;simp only[List.getElem?_take];split
        .split
         .rfl
         .omega
        .split
         .have:(List.drop (l*e) (ers idz cs)).length<=q:=by omega
          rw[List.getElem?_eq_none this]
         .rfl
      .left;rw[List.drop_eq_nil_of_le (by omega)];simp
     .left;rw[h0];rfl
    cases cap with
    |known c=>
     have lh:=h6 c rfl;rw[zHH];have hb:∀{x:Option PV} {d q:Nat},d=len->qN x d len=some q->qJ (x.map (er ι)) d c=some q:=by
      intro x d q hd hq;cases x with
      |none=>exact hq
      |some x=>
       cases x<;>simp only[qN,Qh,reduceCtorEq]at hq
       split at hq
       .rename_i fx;cases hq;simp only[Option.map_some,er,qJ,zA2];rw[if_pos ⟨fx.1,by omega⟩]
       .cases hq
     rw[hb rfl h2];simp only[Option.bind_some];rw[qL h3];simp only[Option.bind_some,Option.isSome_none,Bool.false_eq_true,and_false,if_false];refine⟨rfl,.inr ⟨o,_,_,rfl,h4,?_,?_,by simp⟩,l9⟩
     .by_cases eB:c=l
      .rw[if_pos eB];exact bg _ (.inr ⟨rfl,by rw[show k-l=0 by omega,Nat.zero_mul]⟩)
      .rw[if_neg eB];exact bg _ (.inl rfl)
     .intro c' jf;cases jf;omega
    |grown g=>
     simp only[Qj,Option.map_none];rw[qL h2];simp only[Option.bind_some];rw[qL h3];simp only[Option.bind_some];exact⟨rfl,.inr ⟨o,_,_,rfl,h4,bg _ (.inl rfl),(λc hc=>by cases hc),by simp⟩,l9⟩
end Go.Ab
set_option linter.unusedVariables false
set_option linter.unusedSimpArgs false
namespace Go.Ab
variable{P:Program}{ι ι':Nat->Nat}{Z Z':Nat->Prop}{h h':AHeap}{U σ':PHeap}{n n':Nat}
theorem ZQ{op:BinOp}{b:Bool}{v:PV}(hv:pnil op b=some v):anil op b=some (er ι v)/\VOK Z h n v:=by
 cases op<;>simp only[pnil,reduceCtorEq]at hv<;>cases hv<;>exact⟨rfl,trivial⟩
theorem zBC{o:Option AV}{v:PV}(hv:o.map ofAV=some v):o=some (er ι v)/\VOK Z h n v:=by
 obtain⟨a,rfl,rfl⟩:=Option.map_eq_some_iff.1 hv;exact⟨by rw[zGW],VOK.ofAV a⟩
theorem zEM:∀{xs ys:List PV} {r:Bool},paggB xs ys=some r->aggB (ers ι xs) (ers ι ys)=some r
 |[],[],r,h=>h
 |[],y::ys,r,h=>by cases y<;>simp[paggB]at h
 |x::xs,[],r,h=>by cases x<;>simp[paggB]at h
 |x::xs,y::ys,r,h=>by
  cases x<;>cases y<;>simp only[paggB,reduceCtorEq]at h
  split at h
  .rename_i hk;obtain⟨r',hr,rfl⟩:=Option.map_eq_some_iff.1 h;simp only[ers,er,aggB,if_pos hk,zEM hr,Option.map_some]
  .cases h
theorem zLH{op:BinOp}{ek:EqK}{x y v:PV}(hx:VOK Z h n x)(hy:VOK Z h n y)(hv:pbin op ek x y=some v):abin op ek (er ι x) (er ι y)=some (er ι v)/\VOK Z h n v:=by
 cases x<;>cases y<;>simp only[pbin,reduceCtorEq]at hv
 case int.int k a k' b=>exact zBC hv
 case str.str a b=>
  have:=zBC (ι:=ι) (Z:=Z) (h:=h) (n:=n) hv
  exact⟨this.1,this.2⟩
 case bool.bool a b=>cases ek<;>simp only[reduceCtorEq]at hv;exact ZQ hv
 case agg.agg xs ys=>
  cases ek<;>simp only[reduceCtorEq]at hv
  split at hv
  .rename_i hl;obtain⟨r,hr,hv⟩:=Option.bind_eq_some_iff.1 hv
   have:=ZQ (ι:=ι) (Z:=Z) (h:=h) (n:=n) hv
   refine⟨?_,this.2⟩;simp only[er,abin,qG,if_pos hl,zEM hr,Option.bind_some];exact this.1
  .cases hv
 case nilp.nilp=>cases ek<;>simp only[reduceCtorEq]at hv;exact ZQ hv
 case nilp.ptr=>cases ek<;>simp only[reduceCtorEq]at hv;exact ZQ hv
 case ptr.nilp=>cases ek<;>simp only[reduceCtorEq]at hv;exact ZQ hv
 case nilf.nilf=>cases ek<;>simp only[reduceCtorEq]at hv;exact ZQ hv
 case nilf.clo=>cases ek<;>simp only[reduceCtorEq]at hv;exact ZQ hv
 case clo.nilf=>cases ek<;>simp only[reduceCtorEq]at hv;exact ZQ hv
 case fz.fz w a l cs w' a' l' dF=>
  cases ek<;>simp only[reduceCtorEq]at hv
  obtain⟨rfl,_⟩|⟨o,off,cap,rfl,_⟩:=hx.1<;>obtain⟨rfl,_⟩|⟨o',di,gf,rfl,_⟩:=hy.1<;>simp only[Zv,if_true,Bool.false_eq_true,if_false,reduceCtorEq]at hv
  .exact ZQ hv
  .exact ZQ hv
  .exact ZQ hv
 case sl.fz s off len cap w' a' l' dF=>
  cases ek<;>simp only[reduceCtorEq]at hv
  obtain⟨rfl,_⟩|⟨o',di,gf,rfl,_⟩:=hy.1<;>simp only[Zv,if_true,Bool.false_eq_true,if_false,reduceCtorEq]at hv
  exact ZQ hv
 case fz.sl w' a' l' dF s off len cap=>
  cases ek<;>simp only[reduceCtorEq]at hv
  obtain⟨rfl,_⟩|⟨o',di,gf,rfl,_⟩:=hx.1<;>simp only[Zv,if_true,Bool.false_eq_true,if_false,reduceCtorEq]at hv
  exact ZQ hv
theorem zMb{op:UnOp}{x v:PV}(hv:pun op x=some v):aun op (er ι x)=some (er ι v)/\VOK Z h n v:=by
 cases x<;>simp only[pun,reduceCtorEq]at hv
 .exact zBC hv
 .exact zBC hv
theorem zHv{sz:Nat}{x i v:PV}(hx:VOK Z h n x)(hv:zCP sz x i=some v):ZO sz (er ι x) (er ι i)=some (er ι v)/\VOK Z h n v:=by
 cases x<;>cases i<;>simp only[zCP,reduceCtorEq]at hv
 case sl.int s off len cap k m=>
  split at hv
  .rename_i hc;cases hv;simp only[er,ZO];rw[if_pos hc];exact⟨rfl,hx⟩
  .cases hv
 case fz.int w a len cs k m=>
  split at hv
  .rename_i hc;cases hv;obtain⟨hf,fa⟩:=hx;rcases hf with ⟨rfl,rfl,_⟩|⟨o,off,cap,rfl,h1,h2,_⟩
   .omega
   .simp only[er,ZO,pAt];rw[if_pos hc];refine⟨rfl,⟨rfl,?_⟩,fa.drop _⟩;rw[Qc];rcases h2 with h2|h2
    .left;rw[h2];simp
    .by_cases hl:m.toNat*sz<(ers idz cs).length
     .right;refine⟨_,_,rfl,h1,?_⟩;rw[zDJ h2 (a:=m.toNat*sz) (b:=(List.drop (m.toNat*sz) (ers idz cs)).length) (by simp;omega),List.take_length]
     .left;exact List.drop_eq_nil_of_le (by omega)
  .cases hv
def RevOK(ι:Nat->Nat)(U:PHeap)(nb nr nb1:Nat):Prop:=∀k,k<nr->nb+k<U.next/\ι (nb+k)=nb1+k
theorem zHd(r:Rel ι Z U h){E:PEnv}(he:EOK Z h U.next E){nb nr nb1:Nat}(cW:RevOK ι U nb nr nb1){op:IOp}{v:PV}(hv:qp nb nr op E U=some v):
  qv nb1 op (erE ι E) h=some (er ι v)/\VOK Z h U.next v:=by
 cases op<;>simp only[qp,reduceCtorEq]at hv<;>simp only[qv,<-er_pv]
 case mv x=>cases hv;exact⟨rfl,he.pv x⟩
 case pick c a b=>
  have hc:=he.pv c
  revert hv;generalize c.pv E=c';intro hv
  cases c'<;>simp only[pPick,reduceCtorEq]at hv
  cases hv;simp only[er,aPick];split
  .exact⟨rfl,he.pv a⟩
  .exact⟨rfl,he.pv b⟩
 case bin o k x y=>exact zLH (he.pv x) (he.pv y) hv
 case un o x=>exact zMb hv
 case conv k x=>
  revert hv;generalize x.pv E=x';intro hv
  cases x'<;>simp only[pConv,reduceCtorEq]at hv
  cases hv;exact⟨rfl,trivial⟩
 case nilCheck x=>
  have hx:=he.pv x
  revert hv hx;generalize x.pv E=x';intro hv hx
  cases x'<;>simp only[pNil,reduceCtorEq]at hv
  .rename_i a cs;split at hv
   .cases hv
   .rename_i ai;cases hv;obtain⟨⟨h0,h1⟩,h2⟩:=hx;rcases h1 with h1|⟨o,i,rfl,h3⟩
    .cases cs with
     |nil=>exact absurd rfl ai
     |cons c cs=>simp[ers]at h1
    .exact⟨rfl,⟨h0,.inr ⟨o,i,rfl,h3⟩⟩,h2⟩
  .cases hv;exact⟨rfl,hx⟩
  .cases hv;exact⟨rfl,hx⟩
 case build z ps=>
  obtain⟨cs,hf,rfl⟩:=Option.map_eq_some_iff.1 hv
  have:=zCE (ι:=ι) (Z:=Z) (h:=h) (n:=U.next) (λp hp=>by obtain⟨q,_,rfl⟩:=List.mem_map.1 hp;exact he.pv _) (VOKs.ofAVs z) hf
  rw[Zi,List.map_map]at this;refine⟨?_,this.2⟩;have h2:(List.map ((λp:Nat×Nat×PV=>(p.1,p.2.1,er ι p.2.2)) ∘ λp:Nat×Nat×IX=>(p.1,p.2.1,p.2.2.pv E)) ps)=ps.map λp=>(p.1,p.2.1,er ι (p.2.2.pv E)):=rfl;rw[h2]at this;rw[this.1];rfl
 case field a k off x=>
  have hx:=he.pv x
  revert hv hx;generalize x.pv E=x';intro hv hx
  cases x'<;>simp only[zDQ,reduceCtorEq]at hv
  rename_i cs;simp only[er,ZY];have fa:VOKs Z h U.next cs:=hx;cases a with
  |true=>
   simp only[if_true]at hv ⊢;cases hv;simp only[er,Qb,Qc];exact⟨trivial,(fa.drop _).take _⟩
  |false=>
   simp only[Bool.false_eq_true,if_false]at hv ⊢;rw[zAh,hv];exact⟨rfl,fa.get hv⟩
 case fieldAddr off x=>
  have hx:=he.pv x
  revert hv hx;generalize x.pv E=x';intro hv hx
  cases x'<;>simp only[zAN,reduceCtorEq]at hv
  .rename_i a cs;split at hv
   .cases hv
   .rename_i ai;cases hv;obtain⟨⟨h0,h1⟩,h2⟩:=hx;rcases h1 with h1|⟨o,i,rfl,h3,h4⟩
    .cases cs with
     |nil=>exact absurd rfl ai
     |cons c cs=>simp[ers]at h1
    .refine⟨rfl,⟨rfl,?_⟩,h2.drop _⟩;rw[Qc];by_cases hl:off<(ers idz cs).length
     .right;refine⟨o,i+off,rfl,h3,?_⟩;rw[zDJ h4 (a:=off) (b:=(List.drop off (ers idz cs)).length) (by simp;omega),List.take_length]
     .left;exact List.drop_eq_nil_of_le (by omega)
  .cases hv;exact⟨rfl,hx⟩
 case indexAddr sz x i=>exact zHv (he.pv x) hv
 case indexStr x i=>
  revert hv;generalize x.pv E=x';generalize i.pv E=i';intro hv
  cases x'<;>cases i'<;>simp only[zDv,reduceCtorEq]at hv
  split at hv
  .rename_i hc;obtain⟨c,iR,rfl⟩:=Option.map_eq_some_iff.1 hv;simp only[er,ZT];rw[if_pos hc,iR];exact⟨rfl,trivial⟩
  .cases hv
 case extract x i=>
  have hx:=he.pv x
  revert hv hx;generalize x.pv E=x';intro hv hx
  cases x'<;>simp only[zCr,reduceCtorEq]at hv
  rename_i vs;simp only[er,qy];rw[zAh,hv];exact⟨rfl,VOKs.get (as:=vs) hx hv⟩
 case len x=>
  have hx:=he.pv x
  revert hv hx;generalize x.pv E=x';intro hv hx
  cases x'<;>simp only[pLen,plen,Option.map_none,Option.map_some,reduceCtorEq]at hv<;>cases hv
  .obtain⟨rfl,rfl,_⟩|⟨o,off,cap,rfl,_⟩:=hx.1<;>exact⟨rfl,trivial⟩
  .exact⟨rfl,trivial⟩
 case lenStr x=>
  revert hv;generalize x.pv E=x';intro hv
  cases x'<;>simp only[zDu,reduceCtorEq]at hv
  cases hv;exact⟨rfl,trivial⟩
 case cap x=>
  revert hv;generalize x.pv E=x';intro hv
  cases x'<;>(try (simp only[pCap,reduceCtorEq]at hv;done))
  case sl s off len cap=>
   simp only[pCap]at hv;cases cap<;>simp only[reduceCtorEq]at hv
   cases hv;exact⟨rfl,trivial⟩
  case fz w a l cs=>
   cases a<;>simp only[pCap,reduceCtorEq]at hv
   cases hv;exact⟨rfl,trivial⟩
 case slice sz x lo hi mx=>
  have:=zHi (ι:=ι) (he.pv x) hv
  simpa only[Option.map_map,Function.comp_def]using this
 case sliceStr x lo hi=>
  revert hv;generalize x.pv E=x';intro hv
  cases x'<;>simp only[zBw,reduceCtorEq]at hv
  simp only[Option.bind_eq_some_iff]at hv;obtain⟨k,h2,l,h3,hv⟩:=hv;cases hv;simp only[er,zA1];have e2:=qL (ι:=ι) h2;have e3:=qL (ι:=ι) h3;rw[Option.map_map]at e2 e3;simp only[Function.comp_def]at e2 e3;rw[e2];simp only[Option.bind_some];rw[e3];simp only[Option.bind_some];exact⟨trivial,trivial⟩
 case maxmin m x y=>
  revert hv;generalize x.pv E=x';generalize y.pv E=y';intro hv
  cases x'<;>cases y'<;>simp only[zCO,reduceCtorEq]at hv
  split at hv
  .rename_i hc;cases hv;simp only[er,ZH];rw[if_pos hc];exact⟨rfl,trivial⟩
  .cases hv
 case makeFunc f a b=>
  cases hv;simp only[er,zCY,er_pv];exact⟨trivial,he.pvs a,he.pvs b⟩
 case load a k x=>exact zCo r (he.pv x) hv
 case rev k=>
  split at hv
  .rename_i hk;cases hv;obtain⟨h1,h2⟩:=cW k hk;exact⟨by simp only[er];rw[h2],h1⟩
  .cases hv
 case revS k m=>
  split at hv
  .rename_i hk;cases hv;obtain⟨h1,h2⟩:=cW k hk;exact⟨by simp only[er];rw[h2],h1⟩
  .cases hv
def Up(ι:Nat->Nat)(Z:Nat->Prop)(U:PHeap)(h:AHeap)(K:PV->PHeap->Prop):AV->AHeap->Prop:=λv h'=>
 ∃pv σ' ι' Z',Rel ι' Z' σ' h'/\Aft ι Z U h ι' Z' σ' h'/\VOK Z' h' σ'.next pv/\v=er ι' pv/\K pv σ'
def zA(P:Program)(f:FuncId)(args:List PV)(U:PHeap)(K:PV->PHeap->Prop):Prop:=
 ∀(ι:Nat->Nat) (Z:Nat->Prop) (h:AHeap),Rel ι Z U h->VOKs Z h U.next args->ZK P f (ers ι args) h (Up ι Z U h K)
theorem zA.mono{f:FuncId}{args:List PV}{K K':PV->PHeap->Prop}(c:zA P f args U K)(hk:∀v σ',K v σ'->K' v σ'):zA P f args U K':=
 λι Z h r va=>(c ι Z h r va).mono λ_ _ ⟨pv,σ',ι',Z',a,b,d,e,k⟩=>⟨pv,σ',ι',Z',a,b,d,e,hk _ _ k⟩
def ep(P:Program)(op:IOp)(e:PEnv)(U:PHeap)(K:PV->PHeap->Prop):Prop:=
 match op with
 | .alloc z=>K (.ptr U.next 0) (U.new (ofAVs z))
 | .box x=>(x.pv e).cells.all PV.one=true/\K (.ptr U.next 0) (U.new (x.pv e).cells)
 | .buildSl sz len z ps=>optK (pfill (ofAVs (zeros z len)) (ps.map λp=>(p.1,p.2.1,p.2.2.pv e))) λcs=>K (.sl U.next 0 len (.known len)) (U.new cs)
 | .store n x v=>match x.pv e with
  | .ptr s i=>(v.pv e).cells.length=n/\optK (U.wr s i (v.pv e).cells) λσ'=>K .undef σ'
  |_=>False
 | .makeSl sz bytes z l c=>match l.pv e,c.pv e with
  | .int _ l,.int _ c=>(0<=l/\l<=c/\c*bytes<=140737488355328/\c<=9223372036854775807)/\K (.sl U.next 0 l.toNat (.known c.toNat)) (U.new (ofAVs (zeros z c.toNat)))
  |_,_=>False
 | .append sz bytes s x=>optK (Zb sz bytes U (s.pv e) (x.pv e)) λp=>K p.1 p.2
 | .appendMk sz bytes z s n=>match s.pv e,n.pv e with
  | .fz _ .nils _ _,.int _ n=>(0<=n/\n*bytes<=140737488355328/\n<=4611686018427387904)/\if 0<n then K (.sl U.next 0 n.toNat (.grown sz)) (U.new (ofAVs (zeros z n.toNat)))else K (.fz true .nils 0 []) U
  | .sl s off len c,.int _ n=>(0<=n/\n*bytes<=140737488355328/\n<=4611686018427387904)/\optK (if 0<n then pgrow sz bytes U (.sl s off len c) (ofAVs (zeros z n.toNat)) n.toNat else(psame (.sl s off len c)).map λv=>(v,U)) λp=>K p.1 p.2
  |_,_=>False
 | .copy sz d s=>optK (pcopy sz U (d.pv e) (s.pv e)) λp=>K p.1 p.2
 | .call f args=>zA P f (args.map (·.pv e)) U K
 | .callV f args=>match f.pv e with
  | .clo f first cg=>okF P f=true/\zA P f (first++args.map (·.pv e)++cg) U K
  |_=>False
 |_=>False
def putι(ι:Nat->Nat)(s o:Nat):Nat->Nat:=λs'=>if s'=s then o else ι s'
theorem Rel.new(r:Rel ι Z U h){cs:List PV}(hv:VOKs Z h U.next cs):Rel (putι ι U.next h.next) Z (U.new cs) (h.new ⟨true,ers ι cs⟩)/\Aft ι Z U h (putι ι U.next h.next) Z (U.new cs) (h.new ⟨true,ers ι cs⟩):=by
 have ha:Aft ι Z U h (putι ι U.next h.next) Z (U.new cs) (h.new ⟨true,ers ι cs⟩):=
  ⟨by simp[PHeap.new],by simp[AHeap.new],λs hs=>by simp[putι,Nat.ne_of_lt hs],λo ho=>⟨ho,zCt (by have:=r.zlt o ho;omega) _⟩,λs hs hn=>by simp only[PHeap.new];rw[if_neg (by omega)];exact hn,
   λs ds hs ho=>by
    by_cases e:s=U.next
    .subst e;simp[putι]
    .simp only[PHeap.new,if_neg e]at ho;exact absurd (r.none_lt ho) (by omega)⟩
 refine⟨⟨r.hwf.new _,λo ho=>by have:=r.zlt o ho;simp only[AHeap.new];omega,by have:=r.top;simp only[PHeap.new,AHeap.new];omega,λs hs=>?_,λs ds hs=>?_,λs s' a b hs bZ hi=>?_⟩,ha⟩
 .simp only[PHeap.new]at hs ⊢;rw[if_neg (by omega)];exact r.wf s (by omega)
 .simp only[PHeap.new]at hs;by_cases e:s=U.next
  .subst e;rw[if_pos rfl]at hs;cases hs;refine⟨?_,ha.voks hv,λhz=>?_⟩
   .rw[ha.ers hv];simp[putι,AHeap.new]
   .have:=r.zlt _ hz;simp[putι]at this
  .rw[if_neg e]at hs;obtain⟨h1,h2,h3⟩:=r.obj s ds hs;refine⟨?_,ha.voks h2,by simpa [putι,e]using h3⟩;rw[ha.ers h2];simp only[putι,if_neg e];rw[zCt (by have:=r.hwf.lt h1;omega)];exact h1
 .have ag:∀{t:Nat} {a:List PV},t≠U.next->(U.new cs).obj t=some a->U.obj t=some a:=λht hh=>by simpa [PHeap.new,ht]using hh
  by_cases e:s=U.next
  .by_cases e':s'=U.next
   .rw[e,e']
   .obtain⟨h1,_⟩:=r.obj s' b (ag e' bZ)
    have:=r.hwf.lt h1
    subst e;simp[putι,e']at hi;omega
  .by_cases e':s'=U.next
   .obtain⟨h1,_⟩:=r.obj s a (ag e hs)
    have:=r.hwf.lt h1
    subst e';simp[putι,e]at hi;omega
   .simp only[putι,if_neg e,if_neg e']at hi;exact r.inj s s' a b (ag e hs) (ag e' bZ) hi
theorem Rel.set(r:Rel ι Z U h){s:Nat}{cs ds:List PV}(hs:U.obj s=some cs)(hv:VOKs Z h U.next ds):Rel ι Z (U.set s ds) (h.set (ι s) (ers ι ds))/\Aft ι Z U h ι Z (U.set s ds) (h.set (ι s) (ers ι ds)):=by
 obtain⟨h1,h2,h3⟩:=r.obj s cs hs;have ha:Aft ι Z U h ι Z (U.set s ds) (h.set (ι s) (ers ι ds)):=
  ⟨vM _,vM _,λ_ _=>rfl,λo ho=>⟨ho,zCf (λe=>h3 (by rw[<-e];exact ho)) _⟩,λt ht hn=>by
   simp only[PHeap.set];rw[if_neg (λe=>by subst e;rw[hs]at hn;cases hn)];exact hn,λt ds ht ho=>by
   have:=r.none_lt hs
   simp only[PHeap.set]at ho;rw[if_neg (by omega)]at ho;exact absurd (r.none_lt ho) (by omega)⟩
 refine⟨⟨r.hwf.set (r.hwf.lt h1) _,r.zlt,r.top,λt ht=>?_,λt as ht=>?_,λt t' a b ht cZ hi=>?_⟩,ha⟩
 .have ai:t≠s:=λe=>by subst e;rw[r.wf t ht]at hs;cases hs
  simp only[PHeap.set,if_neg ai];exact r.wf t ht
 .simp only[PHeap.set]at ht;by_cases e:t=s
  .subst e;rw[if_pos rfl]at ht;cases ht;exact⟨zCg _ _,ha.voks hv,h3⟩
  .rw[if_neg e]at ht;obtain⟨g1,g2,g3⟩:=r.obj t as ht;exact⟨by rw[zCf (λe'=>e (r.inj t s as cs ht hs e'))];exact g1,ha.voks g2,g3⟩
 .have conv:∀{t:Nat} {a:List PV},(U.set s ds).obj t=some a->∃a',U.obj t=some a':=λ{t a} ht=>by
   simp only[PHeap.set]at ht;by_cases e:t=s
   .subst e;exact⟨_,hs⟩
   .rw[if_neg e]at ht;exact⟨_,ht⟩
  obtain⟨a',lG⟩:=conv ht;obtain⟨b',iT⟩:=conv cZ;exact r.inj t t' a' b' lG iT hi
theorem Rel.kill(r:Rel ι Z U h){s:Nat}{cs:List PV}(hs:U.obj s=some cs):Rel ι Z (U.kill s) (h.kill (ι s))/\Aft ι Z U h ι Z (U.kill s) (h.kill (ι s)):=by
 obtain⟨h1,h2,h3⟩:=r.obj s cs hs;have ha:Aft ι Z U h ι Z (U.kill s) (h.kill (ι s)):=
  ⟨vM _,vM _,λ_ _=>rfl,λo ho=>⟨ho,zET (λe=>h3 (by rw[<-e];exact ho))⟩,λt ht hn=>by
   simp only[PHeap.kill];split;rfl;exact hn,λt ds ht ho=>by
   simp only[PHeap.kill]at ho;split at ho;cases ho;exact absurd (r.none_lt ho) (by omega)⟩
 have conv:∀{t:Nat} {a:List PV},(U.kill s).obj t=some a->t≠s/\U.obj t=some a:=λ{t a} ht=>by
  simp only[PHeap.kill]at ht;split at ht
  .cases ht
  .exact⟨by assumption,ht⟩
 refine⟨⟨r.hwf.kill _,r.zlt,r.top,λt ht=>?_,λt as ht=>?_,λt t' a b ht cZ hi=>r.inj t t' a b (conv ht).2 (conv cZ).2 hi⟩,ha⟩
 .simp only[PHeap.kill];split
  .rfl
  .exact r.wf t ht
 .obtain⟨e,ht⟩:=conv ht
  obtain⟨g1,g2,g3⟩:=r.obj t as ht;exact⟨by rw[zET (λe'=>e (r.inj t s as cs ht hs e'))];exact g1,ha.voks g2,g3⟩
theorem zDK(r:Rel ι Z U h){s i:Nat}{vs:List PV}(hv:VOKs Z h U.next vs)(hw:U.wr s i vs=some σ'):
  ∃h',h.wr (ι s) i (ers ι vs)=some h'/\Rel ι Z σ' h'/\Aft ι Z U h ι Z σ' h':=by
 simp only[PHeap.wr,Option.bind_eq_some_iff]at hw;obtain⟨cs,hs,hw⟩:=hw;split at hw
 .rename_i hc;cases hw;obtain⟨h1,h2,h3⟩:=r.obj s cs hs;obtain⟨r',a'⟩:=r.set hs (((h2.take i).append hv).append (h2.drop (i+vs.length)));refine⟨_,?_,r',a'⟩;rw[zRU h1 (by rw[qG,qG];exact hc.1) (by rw[zD2 hv];exact hc.2)];rw[Zx,Zx,Qb,Qc,qG]
 .cases hw
theorem zCn{x:PV}(hx:VOK Z h n x){m:Nat}(hm:plen x=some m):alen (er ι x)=some m:=by
 cases x<;>simp only[plen,reduceCtorEq]at hm<;>cases hm
 .obtain⟨rfl,rfl,_⟩|⟨o,off,cap,rfl,_⟩:=hx.1<;>rfl
 .rfl
theorem zDP(r:Rel ι Z U h){e:Nat}{x:PV}(hx:VOK Z h U.next x){m:Nat}{cs:List PV}(hv:QF e U x m=some cs):zCa e h (er ι x) m=some (ers ι cs)/\VOKs Z h U.next cs:=by
 unfold QF at hv;unfold zCa;split at hv
 .rename_i h0;cases hv;rw[if_pos h0];exact⟨rfl,trivial⟩
 .rename_i h0;rw[if_neg h0];split at hv
  .rename_i s off len cap;split at hv
   .rename_i hl;simp only[er];rw[if_pos hl];exact zGI r hv
   .cases hv
  .rename_i w a len cs;split at hv
   .rename_i hl;cases hv;obtain⟨hf,hc⟩:=hx;have jf:=(hc.take (m*e)).up (Nat.zero_le U.next);simp only[er];rcases hf with ⟨rfl,rfl,_⟩|⟨o,off,cap,rfl,h1,h2,_⟩
    .omega
    .simp only;rw[if_pos hl.1,zBH (ι:=ι) (hc.take _),Qb];refine⟨?_,jf⟩;rcases h2 with h2|h2
     .have:=hl.2.1
      have h3:cs.length=0:=by rw[<-qG (ι:=idz),h2];rfl
      have:=Nat.mul_pos (Nat.pos_of_ne_zero h0) hl.2.2
      omega
     .have:=zDJ h2 (a:=0) (b:=m*e) (by rw[qG];omega)
      simpa using this
   .cases hv
  .cases hv
theorem zEL(r:Rel ι Z U h){e bytes:Nat}{s:PV}(hs:VOK Z h U.next s){news:List PV}(hn:VOKs Z h U.next news){m:Nat}{p:PV×PHeap}(hv:pgrow e bytes U s news m=some p):
  ∃q,agrow e bytes h (er ι s) (ers ι news) m=some q/\∃ι' Z',Rel ι' Z' p.2 q.2/\Aft ι Z U h ι' Z' p.2 q.2/\VOK Z' q.2 p.2.next p.1/\q.1=er ι' p.1:=by
 unfold pgrow at hv;split at hv
 ·-- nil
  split at hv
  .rename_i hc;cases hv;obtain⟨r',a'⟩:=r.new hn;simp only[er,agrow];rw[if_pos hc];exact⟨_,rfl,_,_,r',a',Nat.lt_succ_self _,by simp[er,putι]⟩
  .cases hv
 ·-- frozen, full
  rename_i w o off l c len cs;split at hv
  .rename_i hc;cases hv;obtain⟨hf,fa⟩:=hs;have we:=fa.up (Nat.zero_le U.next);obtain⟨r',a'⟩:=r.new (we.append hn);rcases hf with ⟨hf,_⟩|⟨o',di,gf,he,h1,h2,h3,h4⟩
   .cases hf
   cases he;simp only[er,agrow];rw[if_neg (by omega),if_pos hc.2.2.2]
   have:h.rd o off (l*e)=some (ers ι cs):=by
    rw[zBH (ι:=ι) fa];rcases h2 with h2|h2
    .have gZ:cs=[]:=List.eq_nil_of_length_eq_zero (by rw[<-qG (ι:=idz),h2];rfl);subst gZ;rcases hc.2.1 with hw|hw
     .obtain⟨rfl,ho⟩:=h4 hw;rw[<-hc.2.2.1,zBv ho (by simp)];rfl
     .simp at hw
    .rw[qG,hc.2.2.1]at h2;exact h2
   rw[this,Option.map_some,<-Zx];exact⟨_,rfl,_,_,r',a',Nat.lt_succ_self _,by simp[er,putι]⟩
  .cases hv
 .rename_i s off len c;simp only[er,agrow];split at hv
  .rename_i hc;rw[if_pos hc];obtain⟨σ',hw,rfl⟩:=Option.map_eq_some_iff.1 hv;obtain⟨h',kR,r',a'⟩:=zDK r hn hw;rw[kR];exact⟨_,rfl,_,_,r',a',a'.vok hs,rfl⟩
  .rename_i hc;rw[if_neg hc];split at hv
   .rename_i iR;rw[if_pos iR];obtain⟨dc,ho,rfl⟩:=Option.map_eq_some_iff.1 hv;obtain⟨h1,h2⟩:=zGI r ho;obtain⟨r',a'⟩:=r.new (h2.append hn);rw[h1,Option.map_some,<-Zx];exact⟨_,rfl,_,_,r',a',Nat.lt_succ_self _,by simp[er,putι]⟩
   .cases hv
 .rename_i s off len g;simp only[er,agrow];split at hv
  .rename_i hc;rw[if_pos hc];simp only[Option.bind_eq_some_iff]at hv;obtain⟨cs,bZ,hv⟩:=hv;split at hv
   .rename_i hl;cases hv;obtain⟨h1,h2,h3⟩:=r.obj s cs bZ;obtain⟨r1,a1⟩:=r.kill bZ;obtain⟨r2,a2⟩:=r1.new (a1.voks (((h2.drop off).take (len*e)).append hn));rw[h1];simp only[Option.bind_some];rw[if_pos ⟨trivial,by rw[qG];exact hl⟩,<-Qc,<-Qb,<-Zx];exact⟨_,rfl,_,_,r2,a1.trans a2,Nat.lt_succ_self _,by simp[er,putι,PHeap.kill,AHeap.kill]⟩
   .cases hv
  .cases hv
 .cases hv
theorem zEK{s v:PV}(hs:VOK Z h n s)(hv:psame s=some v):asame (er ι s)=some (er ι v)/\VOK Z h n v:=by
 unfold psame at hv;split at hv
 .cases hv;exact⟨rfl,.inl ⟨rfl,rfl,rfl⟩,trivial⟩
 .split at hv
  .rename_i hc;cases hv;simp only[er,asame];rw[if_pos hc];exact⟨rfl,hs⟩
  .cases hv
 .cases hv;exact⟨rfl,hs⟩
 .rename_i w o off l c len cs;cases hv;have bZ:=hs;obtain⟨hf,_⟩:=hs;rcases hf with ⟨hf,_⟩|⟨o',di,gf,he,h1,h2,h3,_⟩
  .cases hf
  cases he;simp only[er];cases c with
  |known c=>simp only[asame];rw[if_pos (h3 c rfl)];exact⟨rfl,bZ⟩
  |grown g=>exact⟨rfl,bZ⟩
 .cases hv
theorem zG3(r:Rel ι Z U h){e bytes:Nat}{s x:PV}(hs:VOK Z h U.next s)(hx:VOK Z h U.next x){p:PV×PHeap}(hv:Zb e bytes U s x=some p):
  ∃q,zBW e bytes h (er ι s) (er ι x)=some q/\∃ι' Z',Rel ι' Z' p.2 q.2/\Aft ι Z U h ι' Z' p.2 q.2/\VOK Z' q.2 p.2.next p.1/\q.1=er ι' p.1:=by
 simp only[Zb,Option.bind_eq_some_iff]at hv;obtain⟨m,hm,hv⟩:=hv;simp only[zBW];rw[zCn hx hm];simp only[Option.bind_some];split at hv
 .rename_i h0;rw[if_pos h0];obtain⟨v,fC,rfl⟩:=Option.map_eq_some_iff.1 hv;obtain⟨h1,h2⟩:=zEK (ι:=ι) hs fC;rw[h1];exact⟨_,rfl,_,_,r,Aft.refl r,h2,rfl⟩
 .rename_i h0;rw[if_neg h0];simp only[Option.bind_eq_some_iff]at hv;obtain⟨news,hn,hv⟩:=hv;obtain⟨h1,h2⟩:=zDP r hx hn;rw[h1];exact zEL r hs h2 hv
theorem zJO(r:Rel ι Z U h){e:Nat}{d s:PV}(hd:VOK Z h U.next d)(hs:VOK Z h U.next s){p:PV×PHeap}(hv:pcopy e U d s=some p):
  ∃q,acopy e h (er ι d) (er ι s)=some q/\∃ι' Z',Rel ι' Z' p.2 q.2/\Aft ι Z U h ι' Z' p.2 q.2/\VOK Z' q.2 p.2.next p.1/\q.1=er ι' p.1:=by
 simp only[pcopy,Option.bind_eq_some_iff]at hv;obtain⟨m,hm,k,hk,hv⟩:=hv;simp only[acopy];rw[zCn hd hm,zCn hs hk];simp only[Option.bind_some];split at hv
 .rename_i h0;rw[if_pos h0];cases hv;exact⟨_,rfl,_,_,r,Aft.refl r,trivial,rfl⟩
 .rename_i h0;rw[if_neg h0];split at hv
  .rename_i o off len cap;simp only[Option.bind_eq_some_iff]at hv;obtain⟨cs,hc,hv⟩:=hv;obtain⟨σ',hw,rfl⟩:=Option.map_eq_some_iff.1 hv;obtain⟨h1,h2⟩:=zDP r hs hc;obtain⟨h',kR,r',a'⟩:=zDK r h2 hw;simp only[er];rw[h1];simp only[Option.bind_some];rw[kR];exact⟨_,rfl,_,_,r',a',trivial,rfl⟩
  .cases hv
theorem zEx(r:Rel ι Z U h){E:PEnv}(he:EOK Z h U.next E){op:IOp}{K:PV->PHeap->Prop}(hk:ep P op E U K):eff P op (erE ι E) h (Up ι Z U h K):=by
 have mk:∀{v:PV} {σ':PHeap} {ι':Nat->Nat} {Z':Nat->Prop} {h':AHeap},Rel ι' Z' σ' h'->Aft ι Z U h ι' Z' σ' h'->VOK Z' h' σ'.next v->K v σ'->Up ι Z U h K (er ι' v) h':=λa b c d=>⟨_,_,_,_,a,b,c,rfl,d⟩
 have nw:∀{cs:List PV} {v:PV} ,VOKs Z h U.next cs->(∀ι',VOK Z (h.new ⟨true,ers ι cs⟩) (U.next+1) v/\(ι' U.next=h.next->er ι' v=er (putι ι U.next h.next) v))->K v (U.new cs)->Up ι Z U h K (er (putι ι U.next h.next) v) (h.new ⟨true,ers ι cs⟩):=λhc hv hk=>by
  obtain⟨r',a'⟩:=r.new hc;exact⟨_,_,_,_,r',a',(hv (putι ι U.next h.next)).1,rfl,hk⟩
 cases op<;>simp only[ep]at hk<;>simp only[eff,<-er_pv]<;>(try (exact hk.elim))
 case alloc z=>
  obtain⟨r',a'⟩:=r.new (VOKs.ofAVs z);rw[Zi]at r' a';exact⟨_,_,_,_,r',a',Nat.lt_succ_self _,by simp[er,putι],hk⟩
 case box x=>
  have hx:=(he.pv x).cells;obtain⟨r',a'⟩:=r.new hx;rw[zEu (he.pv x)];exact⟨by rw[zD2 hx];exact hk.1,_,_,_,_,r',a',Nat.lt_succ_self _,by simp[er,putι],hk.2⟩
 case buildSl sz len z ps=>
  obtain⟨cs,hf,hk⟩:=hk
  have:=zCE (ι:=ι) (Z:=Z) (h:=h) (n:=U.next) (λp hp=>by obtain⟨q,_,rfl⟩:=List.mem_map.1 hp;exact he.pv _) (VOKs.ofAVs (zeros z len)) hf
  rw[Zi,List.map_map]at this;have h2:(List.map ((λp:Nat×Nat×PV=>(p.1,p.2.1,er ι p.2.2)) ∘ λp:Nat×Nat×IX=>(p.1,p.2.1,p.2.2.pv E)) ps)=ps.map λp=>(p.1,p.2.1,er ι (p.2.2.pv E)):=rfl;rw[h2]at this;obtain⟨r',a'⟩:=r.new this.2;exact⟨_,this.1,_,_,_,_,r',a',Nat.lt_succ_self _,by simp[er,putι],hk⟩
 case store k x v=>
  have hx:=he.pv x
  revert hk hx;generalize x.pv E=x';intro hk hx
  cases x'<;>simp only at hk
  rename_i s i;obtain⟨hl,σ',hw,hk⟩:=hk;obtain⟨h',kR,r',a'⟩:=zDK r (he.pv v).cells hw;simp only[er];rw[zEu (he.pv v)];exact⟨by rw[qG];exact hl,_,kR,.undef,_,_,_,r',a',trivial,rfl,hk⟩
 case makeSl sz bytes z l c=>
  revert hk;generalize l.pv E=l';generalize c.pv E=c';intro hk
  cases l'<;>cases c'<;>simp only at hk
  obtain⟨hc,hk⟩:=hk;simp only[er];rename_i k1 l k2 c;obtain⟨r',a'⟩:=r.new (VOKs.ofAVs (zeros z c.toNat));rw[Zi]at r' a';exact⟨hc,_,_,_,_,r',a',Nat.lt_succ_self _,by simp[er,putι],hk⟩
 case appendMk sz bytes z s n=>
  have hs:=he.pv s
  revert hk hs;generalize s.pv E=s';generalize n.pv E=n';intro hk hs
  cases s'<;>cases n'<;>(try (simp only at hk;done))
  .rename_i w1 a1 l1 c1 k2 n;cases a1 with
   |nils=>
    obtain⟨hc,hk⟩:=hk;simp only[er];refine⟨hc,?_⟩;by_cases h0:0<n
    .rw[if_pos h0]at hk ⊢;obtain⟨r',a'⟩:=r.new (VOKs.ofAVs (zeros z n.toNat));rw[Zi]at r' a';exact⟨_,_,_,_,r',a',Nat.lt_succ_self _,by simp[er,putι],hk⟩
    .rw[if_neg h0]at hk ⊢;exact⟨.fz true .nils 0 [],_,_,_,r,Aft.refl r,(show VOK Z h U.next (.fz true .nils 0 []) from⟨.inl ⟨rfl,rfl,rfl⟩,trivial⟩),rfl,hk⟩
   |_=>simp only at hk
  .rename_i s1 y8 l1 c1 k2 n;obtain⟨hc,p,hp,hk⟩:=hk;simp only[er];by_cases h0:0<n
   .rw[if_pos h0]at hp ⊢;have hz:VOKs Z h U.next (ofAVs (zeros z n.toNat)):=VOKs.ofAVs _;obtain⟨q,hq,ι',Z',r',a',hv,e⟩:=zEL r hs hz hp;rw[Zi]at hq;exact⟨hc,q,hq,_,_,_,_,r',a',hv,e,hk⟩
   .rw[if_neg h0]at hp ⊢;obtain⟨v,fC,rfl⟩:=Option.map_eq_some_iff.1 hp;obtain⟨h1,h2⟩:=zEK (ι:=ι) hs fC;simp only[er]at h1;rw[h1];exact⟨hc,_,rfl,_,_,_,_,r,Aft.refl r,h2,rfl,hk⟩
 case append sz bytes s x=>
  obtain⟨p,hp,hk⟩:=hk;obtain⟨q,hq,ι',Z',r',a',hv,e⟩:=zG3 r (he.pv s) (he.pv x) hp;exact⟨q,hq,_,_,_,_,r',a',hv,e,hk⟩
 case copy sz s x=>
  obtain⟨p,hp,hk⟩:=hk;obtain⟨q,hq,ι',Z',r',a',hv,e⟩:=zJO r (he.pv s) (he.pv x) hp;exact⟨q,hq,_,_,_,_,r',a',hv,e,hk⟩
 case call f args=>
  have:=hk ι Z h r (he.pvs args)
  rw[zCY]at this;simpa only[<-er_pv]using this
 case callV f args=>
  have hx:=he.pv f
  revert hk hx;generalize f.pv E=f';intro hk hx
  cases f'<;>simp only at hk
  rename_i f first cg
  obtain⟨h1,h2⟩:=hk
  have:=h2 ι Z h r ((hx.1.append (he.pvs args)).append hx.2)
  rw[Zx,Zx,zCY]at this;simp only[er];exact⟨h1,by simpa only[<-er_pv]using this⟩
end Go.Ab
set_option linter.unusedVariables false
set_option linter.unusedSimpArgs false
namespace Go.Ab
variable{ι:Nat->Nat}{Z Z':Nat->Prop}{h:AHeap}{U σ':PHeap}{n n':Nat}
mutual
def Bel(n:Nat):PV->Prop
 | .ptr s _=>s<n
 | .sl s _ _ _=>s<n
 | .clo _ a b=>Bels n a/\Bels n b
 | .agg cs=>Bels n cs
 | .tup cs=>Bels n cs
 |_=>True
def Bels(n:Nat):List PV->Prop
 |[]=>True
 |c::cs=>Bel n c/\Bels n cs
end
theorem zE8:∀{cs:List PV},Bels n cs↔∀c∈cs,Bel n c
 |[]=>by simp[Bels]
 |c::cs=>by simp[Bels,zE8 (cs:=cs)]
mutual
theorem VOK.bel:∀{v:PV},VOK Z h n v->Bel n v
 | .undef,_ | .bool _,_ | .int _ _,_ | .str _,_ | .nilp,_ | .nilf,_ | .fz _ _ _ _,_ | .fp _ _,_=>trivial
 | .ptr _ _,hv=>hv
 | .sl _ _ _ _,hv=>hv
 | .clo _ a b,hv=>⟨VOKs.bel hv.1,VOKs.bel hv.2⟩
 | .agg cs,hv=>VOKs.bel (cs:=cs) hv
 | .tup cs,hv=>VOKs.bel (cs:=cs) hv
theorem VOKs.bel:∀{cs:List PV},VOKs Z h n cs->Bels n cs
 |[],_=>trivial
 |c::cs,hv=>⟨VOK.bel hv.1,VOKs.bel hv.2⟩
end
mutual
theorem VOK.of_bel:∀{v:PV},VOK Z h n v->Bel n' v->VOK Z h n' v
 | .undef,_,_ | .bool _,_,_ | .int _ _,_,_ | .str _,_,_ | .nilp,_,_ | .nilf,_,_=>trivial
 | .fz _ _ _ _,hv,_=>hv
 | .fp _ _,hv,_=>hv
 | .ptr _ _,_,hb=>hb
 | .sl _ _ _ _,_,hb=>hb
 | .clo _ a b,hv,hb=>⟨VOKs.of_bel hv.1 hb.1,VOKs.of_bel hv.2 hb.2⟩
 | .agg cs,hv,hb=>VOKs.of_bel (cs:=cs) hv hb
 | .tup cs,hv,hb=>VOKs.of_bel (cs:=cs) hv hb
theorem VOKs.of_bel:∀{cs:List PV},VOKs Z h n cs->Bels n' cs->VOKs Z h n' cs
 |[],_,_=>trivial
 |c::cs,hv,hb=>⟨VOK.of_bel hv.1 hb.1,VOKs.of_bel hv.2 hb.2⟩
end
mutual
theorem Bel.up(hn:n<=n'):∀{v:PV},Bel n v->Bel n' v
 | .undef,_ | .bool _,_ | .int _ _,_ | .str _,_ | .nilp,_ | .nilf,_ | .fz _ _ _ _,_ | .fp _ _,_=>trivial
 | .ptr _ _,hv=>Nat.lt_of_lt_of_le hv hn
 | .sl _ _ _ _,hv=>Nat.lt_of_lt_of_le hv hn
 | .clo _ a b,hv=>⟨Bels.up hn hv.1,Bels.up hn hv.2⟩
 | .agg cs,hv=>Bels.up (cs:=cs) hn hv
 | .tup cs,hv=>Bels.up (cs:=cs) hn hv
theorem Bels.up(hn:n<=n'):∀{cs:List PV},Bels n cs->Bels n' cs
 |[],_=>trivial
 |c::cs,hv=>⟨Bel.up hn hv.1,Bels.up hn hv.2⟩
end
structure PWF(U:PHeap):Prop where
 wf:∀s,U.next<=s->U.obj s=none
 bel:∀s cs,U.obj s=some cs->Bels U.next cs
theorem Rel.pwf(r:Rel ι Z U h):PWF U:=⟨r.wf,λs cs hs=>(r.obj s cs hs).2.1.bel⟩
theorem PWF.lt(w:PWF U){s:Nat}{cs:List PV}(hs:U.obj s=some cs):s<U.next:=by
 rcases Nat.lt_or_ge s U.next with x|x
 .exact x
 .rw[w.wf s x]at hs;cases hs
def capOK:Cap->Nat->Bool
 | .known c,l=>decide (l<=c)
 | .grown _,_=>true
mutual
def sb(s o:Nat)(cs:List PV):PV->PV
 | .sl s' off l cap=>if s'=s/\off=0/\capOK cap l=true then .fz true (.sl o 0 l cap) l cs else .sl s' off l cap
 | .clo f a b=>.clo f (sbs s o cs a) (sbs s o cs b)
 | .agg vs=>.agg (sbs s o cs vs)
 | .tup vs=>.tup (sbs s o cs vs)
 |v=>v
def sbs(s o:Nat)(cs:List PV):List PV->List PV
 |[]=>[]
 |v::vs=>sb s o cs v::sbs s o cs vs
end
mutual
theorem er_sb{s o:Nat}{cs:List PV}(ho:o=ι s):∀v:PV,er ι (sb s o cs v)=er ι v
 | .undef | .bool _ | .int _ _ | .str _ | .nilp | .nilf | .fz _ _ _ _ | .fp _ _ | .ptr _ _=>rfl
 | .sl s' off l cap=>by
  simp only[sb];split
  .rename_i hc;simp only[er];rw[hc.1,hc.2.1,ho]
  .rfl
 | .clo f a b=>by simp only[sb,er,Qk ho a,Qk ho b]
 | .agg a=>by simp only[sb,er,Qk ho a]
 | .tup a=>by simp only[sb,er,Qk ho a]
theorem Qk{s o:Nat}{cs:List PV}(ho:o=ι s):∀vs:List PV,ers ι (sbs s o cs vs)=ers ι vs
 |[]=>rfl
 |v::vs=>by simp only[sbs,ers,er_sb ho v,Qk ho vs]
end
mutual
theorem VOK.sb{s o:Nat}{cs:List PV}(hz:Z o)(ho:h.obj o=some ⟨true,ers idz cs⟩)(hc:VOKs Z h 0 cs):∀{v:PV},VOK Z h n v->VOK Z h n (sb s o cs v)
 | .undef,_ | .bool _,_ | .int _ _,_ | .str _,_ | .nilp,_ | .nilf,_=>trivial
 | .fz _ _ _ _,hv | .fp _ _,hv | .ptr _ _,hv=>hv
 | .sl s' off l cap,hv=>by
  simp only[Go.Ab.sb];split
  .rename_i l9;refine⟨.inr ⟨o,0,cap,rfl,hz,.inr (zBc ho rfl),λc hk=>?_,λ_=>⟨rfl,ho⟩⟩,hc⟩;subst hk;simpa [capOK]using l9.2.2
  .exact hv
 | .clo f a b,hv=>⟨VOKs.sbs hz ho hc hv.1,VOKs.sbs hz ho hc hv.2⟩
 | .agg a,hv=>VOKs.sbs (vs:=a) hz ho hc hv
 | .tup a,hv=>VOKs.sbs (vs:=a) hz ho hc hv
theorem VOKs.sbs{s o:Nat}{cs:List PV}(hz:Z o)(ho:h.obj o=some ⟨true,ers idz cs⟩)(hc:VOKs Z h 0 cs):∀{vs:List PV},VOKs Z h n vs->VOKs Z h n (sbs s o cs vs)
 |[],_=>trivial
 |v::vs,hv=>⟨VOK.sb hz ho hc hv.1,VOKs.sbs hz ho hc hv.2⟩
end
theorem Rel.freeze(r:Rel ι Z U h){s:Nat}{cs:List PV}(hs:U.obj s=some cs)(hb:Bels 0 cs):
  (Rel ι (λo=>Z o\/o=ι s) ((U.kill s).up (max U.top (ι s+1))) h)/\VOKs Z h 0 cs/\h.obj (ι s)=some ⟨true,ers idz cs⟩/\¬Z (ι s):=by
 obtain⟨q1,q2,q3⟩:=r.obj s cs hs;have eC:VOKs Z h 0 cs:=q2.of_bel hb;have ag:=r.hwf.lt q1;have conv:∀{t:Nat} {a:List PV},(U.kill s).obj t=some a->t≠s/\U.obj t=some a:=λ{t a} ht=>by
  simp only[PHeap.kill]at ht;split at ht
  .cases ht
  .exact⟨by assumption,ht⟩
 refine⟨⟨r.hwf,?_,?_,λt ht=>?_,λt ds ht=>?_,λt t' ds sf ht cZ he=>r.inj t t' ds sf (conv ht).2 (conv cZ).2 he⟩,eC,by rw[<-zBH eC];exact q1,q3⟩
 .rintro o (ho|rfl)
  .exact r.zlt o ho
  .exact ag
 .have:=r.top
  simp only[PHeap.up];omega
 .simp only[PHeap.kill,PHeap.up];split
  .rfl
  .exact r.wf t ht
 .obtain⟨e,ht⟩:=conv ht
  obtain⟨p1,p2,p3⟩:=r.obj t ds ht;refine⟨p1,p2.mono (λo ho=>⟨.inl ho,rfl⟩) (vM _),?_⟩
  rintro(hz|hz)
  .exact p3 hz
  .exact e (r.inj t s ds cs ht hs hz)
def PHeap.sub(U:PHeap)(s o:Nat)(cs:List PV):PHeap:=⟨U.next,U.top,λt=>(U.obj t).map (sbs s o cs)⟩
theorem Rel.sub(r:Rel ι Z U h){s o:Nat}{cs:List PV}(hs:o=ι s)(hz:Z o)(ho:h.obj o=some ⟨true,ers idz cs⟩)(hc:VOKs Z h 0 cs):Rel ι Z (U.sub s o cs) h:=by
 have conv:∀{t:Nat} {a:List PV},(U.sub s o cs).obj t=some a->∃b,U.obj t=some b/\a=sbs s o cs b:=λ{t a} ht=>by
  simp only[PHeap.sub,Option.map_eq_some_iff]at ht;obtain⟨b,h1,h2⟩:=ht;exact⟨b,h1,h2.symm⟩
 refine⟨r.hwf,r.zlt,r.top,λt ht=>by simp only[PHeap.sub];rw[r.wf t ht];rfl,λt ds ht=>?_,λt t' ds sf ht cZ he=>?_⟩
 .obtain⟨b,h1,rfl⟩:=conv ht
  obtain⟨p1,p2,p3⟩:=r.obj t b h1;exact⟨by rw[Qk hs];exact p1,VOKs.sbs hz ho hc p2,p3⟩
 .obtain⟨b,h1,_⟩:=conv ht
  obtain⟨b',ks,_⟩:=conv cZ;exact r.inj t t' b b' h1 ks he
inductive GL(I:List PV->PHeap->Prop):List PV->PHeap->Prop where
 |here {vs:List PV} {h:PHeap} (k:I vs h):GL I vs h
 |fz {vs:List PV} {h:PHeap} (s:Nat) (cs:List PV) (hs:h.obj s=some cs) (hb:Bels 0 cs) (k:∀o,GL I (sbs s o cs vs) (h.kill s)):GL I vs h
 |fzh {vs:List PV} {h:PHeap} (s:Nat) (cs:List PV) (hs:h.obj s=some cs) (hb:Bels 0 cs) (k:∀o,GL I (sbs s o cs vs) ((h.kill s).sub s o cs)):GL I vs h
theorem GL.sound{I:List PV->PHeap->Prop}{vs:List PV}{U:PHeap}(g:GL I vs U):∀{ι:Nat->Nat} {Z:Nat->Prop} {h:AHeap},Rel ι Z U h->VOKs Z h U.next vs->
  ∃Z' σ' ji,Rel ι Z' σ' h/\Aft ι Z U h ι Z' σ' h/\VOKs Z' h σ'.next ji/\ers ι ji=ers ι vs/\I ji σ':=by
 induction g with
 |here k=>intro ι Z h r hv;exact⟨Z,_,_,r,Aft.refl r,hv,rfl,k⟩
 |fz s cs hs hb k ih=>
  rename_i vs U;intro ι Z h r hv;obtain⟨r',eC,ho,hz⟩:=r.freeze hs hb;have dz:∀o,Z o->(Z o\/o=ι s)/\h.obj o=h.obj o:=λo ho=>⟨.inl ho,rfl⟩
  have r2:Rel ι (λo=>Z o\/o=ι s) (U.kill s) h:=⟨r'.hwf,r'.zlt,by have:=r.top;exact this,r'.wf,r'.obj,r'.inj⟩
  obtain⟨Z',σ',ji,q1,q2,q3,q4,q5⟩:=ih (ι s) r2 (VOKs.sbs (.inr rfl) ho (eC.mono dz (vM _)) (hv.mono dz (vM _)));have ha:Aft ι Z U h ι (λo=>Z o\/o=ι s) (U.kill s) h:=⟨vM _,vM _,λ_ _=>rfl,dz,λt ht hn=>by simp only[PHeap.kill];split;rfl;exact hn,λt ds ht hd=>by
   simp only[PHeap.kill]at hd;split at hd;cases hd;exact absurd (r.none_lt hd) (by omega)⟩
  exact⟨Z',σ',ji,q1,ha.trans q2,q3,q4.trans (Qk rfl vs),q5⟩
 |fzh s cs hs hb k ih=>
  rename_i vs U;intro ι Z h r hv;obtain⟨r',eC,ho,hz⟩:=r.freeze hs hb;have dz:∀o,Z o->(Z o\/o=ι s)/\h.obj o=h.obj o:=λo ho=>⟨.inl ho,rfl⟩
  have r2:Rel ι (λo=>Z o\/o=ι s) (U.kill s) h:=⟨r'.hwf,r'.zlt,by have:=r.top;exact this,r'.wf,r'.obj,r'.inj⟩
  have r3:=r2.sub (s:=s) rfl (.inr rfl) ho (eC.mono dz (vM _));obtain⟨Z',σ',ji,q1,q2,q3,q4,q5⟩:=ih (ι s) r3 (VOKs.sbs (.inr rfl) ho (eC.mono dz (vM _)) (hv.mono dz (vM _)));have ha:Aft ι Z U h ι (λo=>Z o\/o=ι s) ((U.kill s).sub s (ι s) cs) h:=⟨vM _,vM _,λ_ _=>rfl,dz,λt ht hn=>by simp only[PHeap.kill,PHeap.sub];split;rfl;rw[hn];rfl,λt ds ht hd=>by
   simp only[PHeap.kill,PHeap.sub]at hd;split at hd;cases hd;cases s8:U.obj t with
   |none=>rw[s8]at hd;cases hd
   |some b=>exact absurd (r.none_lt s8) (by omega)⟩
  exact⟨Z',σ',ji,q1,ha.trans q2,q3,q4.trans (Qk rfl vs),q5⟩
end Go.Ab
set_option linter.unusedVariables false
set_option linter.unusedSimpArgs false
namespace Go.Ab
variable{P:Program}{ι ι':Nat->Nat}{Z Z':Nat->Prop}{h h':AHeap}{U σ':PHeap}{n n':Nat}
def zAD(v:PV)(b:Bool)(x:Option PV):Option PV:=
 match v with
 | .bool c=>if c=b then x else some (.tup [])
 | .tup []=>some (.tup [])
 |_=>none
def Zj(v:PV)(b:Bool)(x y:Prop):Prop:=
 match v with
 | .bool c=>if c=b then x else y
 | .tup []=>y
 |_=>False
def Z8(v:PV)(a b:Prop):Prop:=
 match v with
 | .bool t=>if t=true then a else b
 |_=>False
def gqp(nb nr:Nat)(it:II)(e:PEnv)(U:PHeap):Option PV:=
 match it.guard with
 |none=>qp nb nr it.op e U
 |some (t,b)=>zAD (e t) b (qp nb nr it.op e U)
def gep(P:Program)(it:II)(e:PEnv)(U:PHeap)(K:PV->PHeap->Prop):Prop:=
 match it.guard with
 |none=>ep P it.op e U K
 |some (t,b)=>Zj (e t) b (ep P it.op e U K) (K (.tup []) U)
def RVp(P:Program):List II->PEnv->PHeap->(PEnv->PHeap->Prop)->Prop
 |[],e,h,K=>K e h
 |it::r,e,h,K=>match it.q with
  |true=>optK (gqp 0 0 it e h) λv=>RVp P r (e.put it.dst v) h K
  |false=>gep P it e h λv h'=>RVp P r (e.put it.dst v) h' K
structure RecP where
 idx:Nat
 agg:Bool
 n:Nat
 x:PV
 v:PV
def zBJ(g:Option (Nat×Bool))(e:PEnv):Bool:=
 match g with
 |none=>true
 |some (t,b)=>match e t with
  | .bool c=>decide (c=b)
  |_=>false
def qo(it:DI)(e:PEnv)(v:PV):List RecP:=
 match it.op with
 | .load agg n x=>if zBJ it.guard e=true then [⟨it.idx,agg,n,x.pv e,v⟩]else []
 |_=>[]
def zAV(chk:List Nat):List RecP->PHeap->Prop
 |[],_=>True
 |r::rs,h=>(if chk.contains r.idx=true then pldv r.agg r.n r.x h=some r.v else True)/\zAV chk rs h
def DVp(P:Program)(nb nr:Nat):List DI->List RecP->PEnv->PHeap->(PEnv->PHeap->Prop)->Prop
 |[],_,e,h,K=>K e h
 |it::r,recs,e,h,K=>match it.q with
  |true=>optK (gqp nb nr it.toII e h) λv=>DVp P nb nr r (qo it e v++recs) (e.put it.dst v) h K
  |false=>gep P it.toII e h λv h'=>zAV it.chk recs h'/\DVp P nb nr r recs (e.put it.dst v) h' K
def vp(P:Program):IC->(Exit->PEnv->PHeap->Prop)->PEnv->PHeap->Prop
 | .skip,Q,e,h=>Q .normal e h
 | .region S aE,Q,e,h=>RVp P aE e h λe' h'=>Q .normal (PEnv.mk S (S.map e')) h'
 | .draw S zs aE,Q,e,h=>DVp P h.next zs.length aE [] e (h.news zs) λe' h'=>Q .normal (PEnv.mk S (S.map e')) h'
 | .seq a b,Q,e,h=>vp P a (λx e' h'=>match x with | .normal=>vp P b Q e' h'|x=>Q x e' h') e h
 | .cond c a b,Q,e,h=>Z8 (c.pv e) (vp P a Q e h) (vp P b Q e h)
 | .block id c,Q,e,h=>vp P c (λx e' h'=>match x with | .exit gj=>if gj=id then Q .normal e' h' else Q (.exit gj) e' h'|x=>Q x e' h') e h
 | .loop S c,Q,e,h=>∃I:Nat->List PV->PHeap->Prop,(∃n,GL (I n) (S.map e) h)/\
   ∀n vs h,I n vs h->vp P c (λx e' h'=>match x with | .normal=>∃n',n'<n/\GL (I n') (S.map e') h'|x=>Q x e' h') (PEnv.mk S vs) h
 | .exit id,Q,e,h=>Q (.exit id) e h
 | .ret,Q,e,h=>Q .ret e h
def Zu:List IRes->PEnv->PHeap->Option (List PV)
 |[],_,_=>some []
 | .tmp t::r,e,h=>(Zu r e h).map λvs=>e t::vs
 | .cell t agg n::r,e,h=>(pldv agg n (e t) h).bind λv=>(Zu r e h).map λvs=>v::vs
def packP:List PV->PV
 |[v]=>v
 |vs=>.tup vs
def retP(res:List IRes)(Q:PV->PHeap->Prop):Exit->PEnv->PHeap->Prop
 | .normal,e,h=>optK (Zu res e h) λvs=>Q (packP vs) h
 | .ret,e,h=>optK (Zu res e h) λvs=>Q (packP vs) h
 |_,_,_=>False
theorem zKe{op:IOp}{e:PEnv}{K K':PV->PHeap->Prop}(hm:∀v h',K v h'->K' v h')(hk:ep P op e U K):ep P op e U K':=by
 cases op<;>simp only[ep]at hk ⊢
 case alloc z=>exact hm _ _ hk
 case box x=>exact⟨hk.1,hm _ _ hk.2⟩
 case buildSl a b c ps=>obtain⟨x,y,z⟩:=hk;exact⟨x,y,hm _ _ z⟩
 case store n x v=>
  split at hk
  .obtain⟨x,y,z,u⟩:=hk;exact⟨x,y,z,hm _ _ u⟩
  .exact hk
 case makeSl a b z l c=>
  split at hk
  .exact⟨hk.1,hm _ _ hk.2⟩
  .exact hk
 case appendMk a b z l c=>
  split at hk
  .refine⟨hk.1,?_⟩;have h2:=hk.2;split at h2
   .rename_i hp;rw[if_pos hp];exact hm _ _ h2
   .rename_i hp;rw[if_neg hp];exact hm _ _ h2
  .obtain⟨x,y,z,u⟩:=hk;exact⟨x,y,z,hm _ _ u⟩
  .exact hk
 case append a b s x=>obtain⟨x,y,z⟩:=hk;exact⟨x,y,hm _ _ z⟩
 case copy a d s=>obtain⟨x,y,z⟩:=hk;exact⟨x,y,hm _ _ z⟩
 case call f a=>exact hk.mono hm
 case callV f a=>
  split at hk
  .exact⟨hk.1,hk.2.mono hm⟩
  .exact hk
theorem zIM{it:II}{e:PEnv}{K K':PV->PHeap->Prop}(hm:∀v h',K v h'->K' v h')(hk:gep P it e U K):gep P it e U K':=by
 obtain⟨dst,op,q,guard⟩:=it;cases guard with
 |none=>exact zKe hm hk
 |some g=>
  obtain⟨t,b⟩:=g;simp only[gep,Zj]at hk ⊢;split at hk
  .split at hk
   .rename_i h;rw[if_pos h];exact zKe hm hk
   .rename_i h;rw[if_neg h];exact hm _ _ hk
  .exact hm _ _ hk
  .exact hk
theorem zE4{K K':PEnv->PHeap->Prop}(hm:∀e h',K e h'->K' e h'):∀(aE:List II) {e:PEnv} {U:PHeap},RVp P aE e U K->RVp P aE e U K'
 |[],e,U,hk=>hm _ _ hk
 |it::aE,e,U,hk=>by
  simp only[RVp]at hk ⊢;split at hk
  .obtain⟨v,hv,hk⟩:=hk;exact⟨v,hv,zE4 hm aE hk⟩
  .exact zIM (λv h' k=>zE4 hm aE k) hk
theorem zE6{nb nr:Nat}{K K':PEnv->PHeap->Prop}(hm:∀e h',K e h'->K' e h'):∀(aE:List DI) {recs:List RecP} {e:PEnv} {U:PHeap},DVp P nb nr aE recs e U K->DVp P nb nr aE recs e U K'
 |[],_,e,U,hk=>hm _ _ hk
 |it::aE,_,e,U,hk=>by
  simp only[DVp]at hk ⊢;split at hk
  .obtain⟨v,hv,hk⟩:=hk;exact⟨v,hv,zE6 hm aE hk⟩
  .exact zIM (λv h' k=>⟨k.1,zE6 hm aE k.2⟩) hk
theorem zAX:∀(c:IC) {Q Q':Exit->PEnv->PHeap->Prop} {e:PEnv} {U:PHeap},(∀x e h,Q x e h->Q' x e h)->vp P c Q e U->vp P c Q' e U
 | .skip,Q,Q',e,U,hm,hk=>hm _ _ _ hk
 | .exit id,Q,Q',e,U,hm,hk=>hm _ _ _ hk
 | .ret,Q,Q',e,U,hm,hk=>hm _ _ _ hk
 | .region S aE,Q,Q',e,U,hm,hk=>zE4 (λe h k=>hm _ _ _ k) aE hk
 | .draw S zs aE,Q,Q',e,U,hm,hk=>zE6 (λe h k=>hm _ _ _ k) aE hk
 | .seq a b,Q,Q',e,U,hm,hk=>zAX a (λx e h k=>by cases x<;>first|exact zAX b hm k|exact hm _ _ _ k) hk
 | .cond c a b,Q,Q',e,U,hm,hk=>by
  simp only[vp,Z8]at hk ⊢;split at hk
  .split at hk
   .rename_i h;rw[if_pos h];exact zAX a hm hk
   .rename_i h;rw[if_neg h];exact zAX b hm hk
  .exact hk
 | .block id c,Q,Q',e,U,hm,hk=>zAX c (λx e h k=>by
   cases x with
   |exit gj=>
    dsimp only at k ⊢;split at k
    .rename_i h;rw[if_pos h];exact hm _ _ _ k
    .rename_i h;rw[if_neg h];exact hm _ _ _ k
   |_=>exact hm _ _ _ k) hk
 | .loop S c,Q,Q',e,U,hm,⟨I,h0,hr⟩=>⟨I,h0,λn vs h hI=>zAX c (λx e h k=>by cases x<;>first|exact k|exact hm _ _ _ k) (hr n vs h hI)⟩
def Rest(ι:Nat->Nat)(Z:Nat->Prop)(U:PHeap)(h:AHeap)(K:PEnv->PHeap->Prop)(K1:Env->AHeap->Prop):Prop:=
 ∀(E':PEnv) (σ':PHeap) (ι':Nat->Nat) (Z':Nat->Prop) (h':AHeap),Rel ι' Z' σ' h'->Aft ι Z U h ι' Z' σ' h'->EOK Z' h' σ'.next E'->K E' σ'->K1 (erE ι' E') h'
theorem Rest.later{σ':PHeap}{K:PEnv->PHeap->Prop}{K1:Env->AHeap->Prop}(c:Rest ι Z U h K K1)(a:Aft ι Z U h ι' Z' σ' h'):Rest ι' Z' σ' h' K K1:=
 λsv σ'' ι'' nB cN r b e k=>c sv σ'' ι'' nB cN r (a.trans b) e k
theorem zDa(r:Rel ι Z U h){E:PEnv}(he:EOK Z h U.next E){nb nr nb1:Nat}(cW:RevOK ι U nb nr nb1){it:II}{v:PV}(hv:gqp nb nr it E U=some v):
  gq nb1 it (erE ι E) h=some (er ι v)/\VOK Z h U.next v:=by
 obtain⟨dst,op,q,guard⟩:=it;cases guard with
 |none=>exact zHd r he cW hv
 |some g=>
  obtain⟨t,b⟩:=g;simp only[gqp,gq,erE]at hv ⊢;cases ht:E t with
  |bool c=>
   rw[ht]at hv;simp only[zAD]at hv;simp only[er];split at hv
   .rename_i hc;rw[if_pos hc];exact zHd r he cW hv
   .rename_i hc;rw[if_neg hc];cases hv;exact⟨rfl,trivial⟩
  |tup cs=>
   rw[ht]at hv;cases cs with
   |nil=>cases hv;exact⟨rfl,trivial⟩
   |cons x cs=>simp only[zAD,reduceCtorEq]at hv
  |_=>rw[ht]at hv;simp only[zAD,reduceCtorEq]at hv
theorem zGo(r:Rel ι Z U h){E:PEnv}(he:EOK Z h U.next E){it:II}{K:PV->PHeap->Prop}(hk:gep P it E U K):ge P it (erE ι E) h (Up ι Z U h K):=by
 obtain⟨dst,op,q,guard⟩:=it;cases guard with
 |none=>exact zEx r he hk
 |some g=>
  obtain⟨t,b⟩:=g;simp only[gep,ge,erE]at hk ⊢;cases ht:E t with
  |bool c=>
   rw[ht]at hk;simp only[Zj]at hk;simp only[er];split at hk
   .rename_i hc;rw[if_pos hc];exact zEx r he hk
   .rename_i hc;rw[if_neg hc];exact⟨.tup [],U,ι,Z,r,Aft.refl r,trivial,rfl,hk⟩
  |tup cs=>
   rw[ht]at hk;cases cs with
   |nil=>exact⟨.tup [],U,ι,Z,r,Aft.refl r,trivial,rfl,hk⟩
   |cons x cs=>simp only[Zj]at hk
  |_=>rw[ht]at hk;simp only[Zj]at hk
theorem zDl:∀(aE:List II) {ι:Nat->Nat} {Z:Nat->Prop} {U:PHeap} {h:AHeap} {E:PEnv} {K:PEnv->PHeap->Prop} {K1:Env->AHeap->Prop},Rel ι Z U h->EOK Z h U.next E->RVp P aE E U K->Rest ι Z U h K K1->RV P aE (erE ι E) h K1
 |[],ι,Z,U,h,E,K,K1,r,he,hk,hr=>hr E U ι Z h r (Aft.refl r) he hk
 |it::aE,ι,Z,U,h,E,K,K1,r,he,hk,hr=>by
  simp only[RVp,RV]at hk ⊢;split at hk
  .rename_i hq;simp only[hq];obtain⟨v,hv,hk⟩:=hk;obtain⟨h1,h2⟩:=zDa r he (nb1:=0) (λk hk=>absurd hk (Nat.not_lt_zero _)) hv;refine⟨_,h1,?_⟩
   have:=zDl aE r (he.put h2 it.dst) hk hr
   rw[zBR]at this;exact this
  .rename_i hq;simp only[hq];refine zD1 ?_ (zGo r he hk)
   rintro v h' ⟨pv,σ',ι',Z',r',a',hv,rfl,cL⟩
   have:=zDl aE r' ((a'.eok he).put hv it.dst) cL (hr.later a')
   rw[zBR,a'.erE he]at this;exact this
def erR(ι:Nat->Nat)(r:RecP):Rec:=⟨r.idx,r.agg,r.n,er ι r.x,er ι r.v⟩
def ROK(Z:Nat->Prop)(h:AHeap)(n:Nat)(rs:List RecP):Prop:=∀r∈rs,VOK Z h n r.x/\VOK Z h n r.v
theorem Aft.rok{rs:List RecP}(a:Aft ι Z U h ι' Z' σ' h')(hr:ROK Z h U.next rs):ROK Z' h' σ'.next rs:=λr hm=>⟨a.vok (hr r hm).1,a.vok (hr r hm).2⟩
theorem Aft.erR{rs:List RecP}(a:Aft ι Z U h ι' Z' σ' h')(hr:ROK Z h U.next rs):rs.map (Go.Ab.erR ι')=rs.map (Go.Ab.erR ι):=
 List.map_congr_left λr hm=>by simp only[Go.Ab.erR];rw[a.er (hr r hm).1,a.er (hr r hm).2]
theorem zI9{E:PEnv}{it:DI}{v:PV}{nb nr:Nat}(hv:gqp nb nr it.toII E U=some v):recOf it (erE ι E) (er ι v)=(qo it E v).map (erR ι):=by
 obtain⟨⟨dst,op,q,guard⟩,idx,chk⟩:=it;have hw:zi guard (erE ι E)=zBJ guard E:=by
  cases guard with
  |none=>rfl
  |some g=>
   obtain⟨t,b⟩:=g;simp only[gqp]at hv;simp only[zi,zBJ,erE];cases ht:E t with
   |bool c=>rfl
   |tup cs=>rfl
   |_=>rw[ht]at hv;simp only[zAD,reduceCtorEq]at hv
 cases op<;>simp only[recOf,qo]<;>try rfl
 rw[hw];split
 .simp only[List.map_cons,List.map_nil,erR,er_pv]
 .rfl
theorem zMU(r:Rel ι Z U h){E:PEnv}(he:EOK Z h U.next E){it:DI}{v:PV}(hv:VOK Z h U.next v):ROK Z h U.next (qo it E v):=by
 unfold qo;split
 .split
  .intro r hr;simp only[List.mem_singleton]at hr;subst hr;exact⟨he.pv _,hv⟩
  .intro r hr;simp at hr
 .intro r hr;simp at hr
theorem zDk(r:Rel ι Z U h){chk:List Nat}:∀{rs:List RecP},ROK Z h U.next rs->zAV chk rs U->RecOK chk (rs.map (erR ι)) h
 |[],_,_=>trivial
 |x::rs,hr,hk=>by
  simp only[List.map_cons,zAV,RecOK]at hk ⊢;refine⟨?_,zDk r (λy hy=>hr y (by simp[hy])) hk.2⟩;have h1:=hk.1;by_cases hc:chk.contains x.idx=true
  .rw[if_pos hc]at h1;rw[if_pos (show chk.contains (erR ι x).idx=true from hc)];exact(zCo r (hr x (by simp)).1 h1).1
  .rw[if_neg (show ¬chk.contains (erR ι x).idx=true from hc)];trivial
theorem RevOK.later{nb nr nb1:Nat}(hv:RevOK ι U nb nr nb1)(a:Aft ι Z U h ι' Z' σ' h'):RevOK ι' σ' nb nr nb1:=
 λk hk=>⟨Nat.lt_of_lt_of_le (hv k hk).1 a.next,by rw[a.inj _ (hv k hk).1];exact(hv k hk).2⟩
theorem zDo{nb nr nb1:Nat}:∀(aE:List DI) {recs:List RecP} {ι:Nat->Nat} {Z:Nat->Prop} {U:PHeap} {h:AHeap} {E:PEnv} {K:PEnv->PHeap->Prop} {K1:Env->AHeap->Prop},RevOK ι U nb nr nb1->Rel ι Z U h->EOK Z h U.next E->ROK Z h U.next recs->
  DVp P nb nr aE recs E U K->Rest ι Z U h K K1->DV P nb1 aE (recs.map (erR ι)) (erE ι E) h K1
 |[],recs,ι,Z,U,h,E,K,K1,hv,r,he,iZ,hk,hr=>hr E U ι Z h r (Aft.refl r) he hk
 |it::aE,recs,ι,Z,U,h,E,K,K1,hv,r,he,iZ,hk,hr=>by
  simp only[DVp,DV]at hk ⊢;split at hk
  .rename_i hq;simp only[hq];obtain⟨v,kS,hk⟩:=hk;obtain⟨h1,h2⟩:=zDa r he hv kS;refine⟨_,h1,?_⟩
   have:=zDo aE hv r (he.put h2 it.dst) (recs:=qo it E v++recs) (λx hx=>(List.mem_append.1 hx).elim (λhx=>zMU r he h2 x hx) (λhx=>iZ x hx)) hk hr
   rw[zBR,List.map_append,<-zI9 kS]at this;exact this
  .rename_i hq;simp only[hq];refine zD1 ?_ (zGo r he hk)
   rintro v h' ⟨pv,σ',ι',Z',r',a',kS,rfl,e7,cf⟩
   have h3:=zDk r' (a'.rok iZ) e7;rw[a'.erR iZ]at h3;refine⟨h3,?_⟩
   have:=zDo aE (hv.later a') r' ((a'.eok he).put kS it.dst) (a'.rok iZ) cf (hr.later a')
   rw[zBR,a'.erE he,a'.erR iZ]at this;exact this
theorem zH0:∀(zs:List (List AV)) {ι:Nat->Nat} {U:PHeap} {h:AHeap},Rel ι Z U h->
  ∃ι',Rel ι' Z (U.news zs) (h.news zs)/\Aft ι Z U h ι' Z (U.news zs) (h.news zs)/\(U.news zs).next=U.next+zs.length/\∀k,k<zs.length->ι' (U.next+k)=h.next+k
 |[],ι,U,h,r=>⟨ι,r,Aft.refl r,rfl,λk hk=>absurd hk (Nat.not_lt_zero _)⟩
 |z::zs,ι,U,h,r=>by
  obtain⟨r1,a1⟩:=r.new (cs:=ofAVs z) (VOKs.ofAVs z);rw[Zi]at r1 a1;obtain⟨ι',r2,a2,h1,h2⟩:=zH0 zs r1;refine⟨ι',r2,a1.trans a2,?_,λk hk=>?_⟩
  .show((U.new (ofAVs z)).news zs).next=_
   rw[h1];simp only[PHeap.new,List.length_cons];omega
  .cases k with
   |zero=>
    rw[Nat.add_zero,Nat.add_zero,a2.inj _ (by simp[PHeap.new])];simp[putι]
   |succ k=>
    have:=h2 k (by simpa using hk)
    simp only[PHeap.new,AHeap.new]at this;rw[show U.next+(k+1)=U.next+1+k by omega,this];omega
def RestC(ι:Nat->Nat)(Z:Nat->Prop)(U:PHeap)(h:AHeap)(Q:Exit->PEnv->PHeap->Prop)(Q1:Exit->Env->AHeap->Prop):Prop:=
 ∀(x:Exit) (E':PEnv) (σ':PHeap) (ι':Nat->Nat) (Z':Nat->Prop) (h':AHeap),Rel ι' Z' σ' h'->Aft ι Z U h ι' Z' σ' h'->EOK Z' h' σ'.next E'->Q x E' σ'->Q1 x (erE ι' E') h'
theorem RestC.later{σ':PHeap}{Q:Exit->PEnv->PHeap->Prop}{Q1:Exit->Env->AHeap->Prop}(c:RestC ι Z U h Q Q1)(a:Aft ι Z U h ι' Z' σ' h'):RestC ι' Z' σ' h' Q Q1:=
 λx sv σ'' ι'' nB cN r b e k=>c x sv σ'' ι'' nB cN r (a.trans b) e k
theorem Zr:∀(c:IC) {ι:Nat->Nat} {Z:Nat->Prop} {U:PHeap} {h:AHeap} {E:PEnv} {Q:Exit->PEnv->PHeap->Prop} {Q1:Exit->Env->AHeap->Prop},Rel ι Z U h->EOK Z h U.next E->vp P c Q E U->RestC ι Z U h Q Q1->vc P c Q1 (erE ι E) h
 | .skip,ι,Z,U,h,E,Q,Q1,r,he,hk,hr=>hr .normal E U ι Z h r (Aft.refl r) he hk
 | .exit id,ι,Z,U,h,E,Q,Q1,r,he,hk,hr=>hr (.exit id) E U ι Z h r (Aft.refl r) he hk
 | .ret,ι,Z,U,h,E,Q,Q1,r,he,hk,hr=>hr .ret E U ι Z h r (Aft.refl r) he hk
 | .region S aE,ι,Z,U,h,E,Q,Q1,r,he,hk,hr=>by
  refine zDl aE r he hk ?_;intro E' σ' ι' Z' h' r' a' e' k'
  have:=hr .normal _ σ' ι' Z' h' r' a' (EOK.mk (e'.map S)) k'
  rw[zBm,zCZ]at this;exact this
 | .draw S zs aE,ι,Z,U,h,E,Q,Q1,r,he,hk,hr=>by
  obtain⟨ι1,r1,a1,h1,h2⟩:=zH0 zs r
  have:=zDo (nb1:=h.next) (K1:=λe' h'=>Q1 .normal (Env.mk S (S.map e')) h') aE (recs:=[]) (λk hk=>⟨by rw[h1];omega,h2 k hk⟩) r1 (a1.eok he) (λx hx=>by simp at hx) hk ?_
  .rw[a1.erE he]at this;exact this
  .intro E' σ' ι' Z' h' r' a' e' k'
   have:=hr .normal _ σ' ι' Z' h' r' (a1.trans a') (EOK.mk (e'.map S)) k'
   rw[zBm,zCZ]at this;exact this
 | .seq a b,ι,Z,U,h,E,Q,Q1,r,he,hk,hr=>by
  refine Zr a r he hk ?_;intro x E' σ' ι' Z' h' r' a' e' k';cases x with
  |normal=>exact Zr b r' e' k' (hr.later a')
  |exit id=>exact hr _ _ _ _ _ _ r' a' e' k'
  |goto l=>exact hr _ _ _ _ _ _ r' a' e' k'
  |ret=>exact hr _ _ _ _ _ _ r' a' e' k'
  |panic ch=>exact hr _ _ _ _ _ _ r' a' e' k'
  |outgrown=>exact hr _ _ _ _ _ _ r' a' e' k'
 | .cond c a b,ι,Z,U,h,E,Q,Q1,r,he,hk,hr=>by
  simp only[vp,vc,<-er_pv]at hk ⊢;cases hc:c.pv E<;>rw[hc]at hk<;>simp only[Z8]at hk
  simp only[er];split at hk
  .rename_i ht;rw[if_pos ht];exact Zr a r he hk hr
  .rename_i ht;rw[if_neg ht];exact Zr b r he hk hr
 | .block id c,ι,Z,U,h,E,Q,Q1,r,he,hk,hr=>by
  refine Zr c r he hk ?_;intro x E' σ' ι' Z' h' r' a' e' k';cases x with
  |exit gj=>
   simp only at k' ⊢;split at k'
   .rename_i hc;rw[if_pos hc];exact hr _ _ _ _ _ _ r' a' e' k'
   .rename_i hc;rw[if_neg hc];exact hr _ _ _ _ _ _ r' a' e' k'
  |normal=>exact hr _ _ _ _ _ _ r' a' e' k'
  |goto l=>exact hr _ _ _ _ _ _ r' a' e' k'
  |ret=>exact hr _ _ _ _ _ _ r' a' e' k'
  |panic ch=>exact hr _ _ _ _ _ _ r' a' e' k'
  |outgrown=>exact hr _ _ _ _ _ _ r' a' e' k'
 | .loop S c,ι,Z,U,h,E,Q,Q1,r,he,hk,hr=>by
  obtain⟨I,⟨n,h0⟩,gW⟩:=hk;obtain⟨Z0,σ0,xn,r0,a0,v0,e0,i0⟩:=h0.sound r (he.map S);refine⟨λn vs h'=>∃ι' Z' σ' pvs,Rel ι' Z' σ' h'/\Aft ι Z U h ι' Z' σ' h'/\VOKs Z' h' σ'.next pvs/\vs=ers ι' pvs/\I n pvs σ',⟨n,ι,Z0,σ0,xn,r0,a0,v0,(zCZ E S).symm.trans e0.symm,i0⟩,?_⟩
  rintro n vs h' ⟨ι',Z',σ',pvs,r',a',hv,rfl,hI⟩
  rw[<-zBm];refine Zr c r' (EOK.mk hv) (gW n pvs σ' hI) ?_;intro x sv σ'' ι'' nB cN nD kK gO nF;cases x with
  |normal=>
   obtain⟨n',ag,jt⟩:=nF;obtain⟨Z1,σ1,xm,r1,a1,v1,e1,i1⟩:=jt.sound nD (gO.map S);exact⟨n',ag,ι'',Z1,σ1,xm,r1,a'.trans (kK.trans a1),v1,(zCZ sv S).symm.trans e1.symm,i1⟩
  |exit id=>exact hr _ _ _ _ _ _ nD (a'.trans kK) gO nF
  |goto l=>exact hr _ _ _ _ _ _ nD (a'.trans kK) gO nF
  |ret=>exact hr _ _ _ _ _ _ nD (a'.trans kK) gO nF
  |panic ch=>exact hr _ _ _ _ _ _ nD (a'.trans kK) gO nF
  |outgrown=>exact hr _ _ _ _ _ _ nD (a'.trans kK) gO nF
theorem zAI(r:Rel ι Z U h){E:PEnv}(he:EOK Z h U.next E):∀{rs:List IRes} {vs:List PV},Zu rs E U=some vs->rvals rs (erE ι E) h=some (ers ι vs)/\VOKs Z h U.next vs
 |[],vs,hv=>by cases hv;exact⟨rfl,trivial⟩
 | .tmp t::rs,vs,hv=>by
  simp only[Zu,Option.map_eq_some_iff]at hv;obtain⟨ji,hv,rfl⟩:=hv;obtain⟨h1,h2⟩:=zAI r he hv;exact⟨by simp only[rvals,h1,Option.map_some,ers,erE],he t,h2⟩
 | .cell t a k::rs,vs,hv=>by
  simp only[Zu,Option.bind_eq_some_iff,Option.map_eq_some_iff]at hv;obtain⟨v,hl,ji,hv,rfl⟩:=hv;obtain⟨h1,h2⟩:=zAI r he hv;obtain⟨h3,h4⟩:=zCo r (he t) hl;refine⟨?_,h4,h2⟩;simp only[rvals,erE];rw[h3];simp only[Option.bind_some];rw[h1];rfl
theorem zEN{vs:List PV}(hv:VOKs Z h n vs):packR (ers ι vs)=er ι (packP vs)/\VOK Z h n (packP vs):=by
 cases vs with
 |nil=>exact⟨rfl,trivial⟩
 |cons v vs=>
  cases vs with
  |nil=>exact⟨rfl,hv.1⟩
  |cons u us=>exact⟨rfl,hv⟩
theorem zP(cE:P.follows .mixedOrders=true){f:FuncId}{fn:Func}{de:IFn}(hf:P.funcs[f]? = some fn)(hc:cF P fn=some de){args:List PV}{K:PV->PHeap->Prop}(hl:args.length=de.params.length)
  (hk:vp P de.body (retP de.res K) (PEnv.mk de.params args) U):zA P f args U K:=by
 intro ι Z h r va;refine QU cE hf hc (by rw[qG];exact hl) ?_;rw[<-zBm];refine Zr de.body r (EOK.mk va) hk ?_;intro x E' σ' ι' Z' h' r' a' e' k';have fin:optK (Zu de.res E' σ') (λvs=>K (packP vs) σ')->optK (rvals de.res (erE ι' E') h') λvs=>Up ι Z U h K (packR vs) h':=by
  rintro⟨vs,hv,hk⟩
  obtain⟨h1,h2⟩:=zAI r' e' hv;obtain⟨h3,h4⟩:=zEN (ι:=ι') h2;exact⟨_,h1,packP vs,σ',ι',Z',r',a',h4,h3,hk⟩
 cases x with
 |normal=>exact fin k'
 |ret=>exact fin k'
 |exit id=>exact k'.elim
 |goto l=>exact k'.elim
 |panic ch=>exact k'.elim
 |outgrown=>exact k'.elim
def FormQ(P:Program)(o:Option IFn)(args:List PV)(U:PHeap)(K:PV->PHeap->Prop):Prop:=∃de,o=some de/\args.length=de.params.length/\vp P de.body (retP de.res K) (PEnv.mk de.params args) U
theorem zB{P:Program}(cE:P.follows .mixedOrders=true){f:FuncId}{fn:Func}(hf:P.funcs[f]? = some fn){args:List PV}{K:PV->PHeap->Prop}{U:PHeap}(h:FormQ P (cF P fn) args U K):zA P f args U K:=by
 obtain⟨de,hc,hl,hk⟩:=h;exact zP cE hf hc hl hk
theorem zC{P:Program}{p:List Nat}{r:List IRes}{b:IC}{args:List PV}{K:PV->PHeap->Prop}{U:PHeap}(hl:args.length=p.length)(hk:vp P b (retP r K) (PEnv.mk p args) U):FormQ P (some ⟨p,r,b⟩) args U K:=⟨_,rfl,hl,hk⟩
end Go.Ab
set_option linter.unusedVariables false
set_option linter.unusedSimpArgs false
namespace Go.Ab
variable{P:Program}{ι ι':Nat->Nat}{Z Z':Nat->Prop}{h h':AHeap}{U σ' σ0 σ1 σ2:PHeap}{n:Nat}{K:PV->PHeap->Prop}
mutual
def addrs:PV->List Nat
 | .fz _ (.sl o _ _ _) _ cs=>o::Zw cs
 | .fp (.ptr o _) cs=>(if cs.isEmpty then []else [o])++Zw cs
 | .clo _ a b=>Zw a++Zw b
 | .agg cs=>Zw cs
 | .tup cs=>Zw cs
 |_=>[]
def Zw:List PV->List Nat
 |[]=>[]
 |c::cs=>addrs c++Zw cs
end
mutual
theorem zKo:∀{n:Nat} {v:PV},VOK Z h n v->∀o∈addrs v,Z o
 |n,.undef,_,o,ho|n,.bool _,_,o,ho|n,.int _ _,_,o,ho|n,.str _,_,o,ho|n,.nilp,_,o,ho|n,.nilf,_,o,ho=>by simp[addrs]at ho
 |n,.ptr _ _,_,o,ho|n,.sl _ _ _ _,_,o,ho=>by simp[addrs]at ho
 |n,.fz w a len cs,hv,o,ho=>by
  obtain⟨rfl,_,_⟩|⟨o',off,cap,rfl,h1,_⟩:=hv.1
  .simp[addrs]at ho
  .simp only[addrs,List.mem_cons]at ho;rcases ho with rfl|ho
   .exact h1
   .exact Qu hv.2 o ho
 |n,.fp a cs,hv,o,ho=>by
  cases a with
  |ptr o' i=>
   simp only[addrs,List.mem_append]at ho;rcases ho with ho|ho
   .split at ho
    .simp at ho
    .rename_i ai;simp only[List.mem_singleton]at ho;subst ho;obtain⟨_,h1|⟨o2,i2,he,h2,_⟩⟩:=hv.1
     .cases cs with
      |nil=>exact absurd rfl ai
      |cons c cs=>simp[ers]at h1
     .cases he;exact h2
   .exact Qu hv.2 o ho
  |_=>simp[addrs]at ho
 |n,.clo _ a b,hv,o,ho=>by
  simp only[addrs,List.mem_append]at ho;exact ho.elim (Qu hv.1 o) (Qu hv.2 o)
 |n,.agg cs,hv,o,ho=>Qu (cs:=cs) hv o (by simpa only[addrs]using ho)
 |n,.tup cs,hv,o,ho=>Qu (cs:=cs) hv o (by simpa only[addrs]using ho)
theorem Qu:∀{n:Nat} {cs:List PV},VOKs Z h n cs->∀o∈Zw cs,Z o
 |n,[],_,o,ho=>by simp[Zw]at ho
 |n,c::cs,hv,o,ho=>by
  simp only[Zw,List.mem_append]at ho;exact ho.elim (zKo hv.1 o) (Qu hv.2 o)
end
def Gh(σ0:PHeap)(K:PV->PHeap->Prop)(v:PV)(σ1:PHeap):Prop:=
 PWF σ0->∀(ι:Nat->Nat) (Z:Nat->Prop) (h:AHeap) (b:Nat),Rel ι Z σ1 h->VOK Z h σ1.next v->σ0.next<=σ1.next->σ0.top<=b->(∀s cs,σ0.next<=s->σ1.obj s=some cs->b<=ι s)->(∀s,s<σ0.next->σ0.obj s=none->σ1.obj s=none)->
  ∃v2 σ2 ι2 Z2,Rel ι2 Z2 σ2 h/\VOK Z2 h σ2.next v2/\σ0.next<=σ2.next/\(∀s,s<σ0.next->ι2 s=ι s)/\(∀o,Z o->Z2 o)/\(∀s cs,σ0.next<=s->σ2.obj s=some cs->b<=ι2 s)/\(∀s,s<σ0.next->σ0.obj s=none->σ2.obj s=none)/\er ι2 v2=er ι v/\K v2 σ2
theorem zA.gh{f:FuncId}{args:List PV}(c:zA P f args U (Gh U K)):zA P f args U K:=by
 intro ι Z h r va;refine(c ι Z h r va).mono ?_
 rintro _ h' ⟨pv,σ',ι',Z',r',a',hv,rfl,k⟩
 obtain⟨v2,σ2,ι2,Z2,g1,g2,g3,g4,g5,g6,g7,g8,g9⟩:=k r.pwf ι' Z' h' h.next r' hv a'.next r.top (λs cs hs ho=>a'.fresh s cs hs ho) a'.dead;exact⟨v2,σ2,ι2,Z2,g1,⟨g3,a'.hnext,λs hs=>(g4 s hs).trans (a'.inj s hs),λo ho=>⟨g5 o (a'.z o ho).1,(a'.z o ho).2⟩,g7,g6⟩,g2,g8.symm,g9⟩
theorem zA.pwf{f:FuncId}{args:List PV}(c:PWF U->zA P f args U K):zA P f args U K:=λι Z h r va=>c r.pwf ι Z h r va
theorem zA.nil0{f:FuncId}{w:Bool}{a:AV}{l:Nat}{cs:List PV}{rest:List PV}(c:(Zv a=true->l=0/\cs=[])->zA P f (.fz w a l cs::rest) U K):zA P f (.fz w a l cs::rest) U K:=λι Z h r va=>c (λhn=>by
 rw[zLe hn]at va;obtain⟨_,h1,h2⟩|⟨_,_,_,h1,_⟩:=va.1.1
 .exact⟨h1,List.eq_nil_of_length_eq_zero (by rw[<-qG (ι:=idz),h2];rfl)⟩
 .cases h1) ι Z h r va
theorem Gh.ret{v:PV}(k:K v σ1):Gh σ0 K v σ1:=λ_ ι Z h b r hv hn hb hf hd=>⟨v,σ1,ι,Z,r,hv,hn,λ_ _=>rfl,λ_ h=>h,hf,hd,rfl,k⟩
theorem Gh.cut{v:PV}(hn:σ2.next=σ0.next)(ht:σ2.top<=σ1.top)(ho:∀s cs,σ2.obj s=some cs->s<σ0.next/\σ1.obj s=some cs/\(σ0.obj s=some cs\/Bels σ0.next cs))(hb:Bel σ0.next v)(k:K v σ2):Gh σ0 K v σ1:=by
 intro w ι Z h b r hv h1 h2 h3 h4;refine⟨v,σ2,ι,Z,⟨r.hwf,r.zlt,Nat.le_trans ht r.top,λs hs=>?_,λs cs hs=>?_,λs s' cs dF hs bZ hi=>r.inj s s' cs dF (ho s cs hs).2.1 (ho s' dF bZ).2.1 hi⟩,by rw[hn];exact hv.of_bel hb,by omega,λ_ _=>rfl,λ_ h=>h,λs cs hs hc=>?_,λs hs hc=>?_,rfl,k⟩
 .cases hc:σ2.obj s with
  |none=>rfl
  |some cs=>have:=(ho s cs hc).1;omega
 .obtain⟨g1,g2,g3⟩:=ho s cs hs;obtain⟨q1,q2,q3⟩:=r.obj s cs g2;exact⟨q1,by rw[hn];exact q2.of_bel (g3.elim (λg=>w.bel s cs g) id),q3⟩
 .exact h3 s cs hs (ho s cs hc).2.1
 .cases jf:σ2.obj s with
  |none=>rfl
  |some cs=>have:=(ho s cs jf).2.1;rw[h4 s hs hc]at this;cases this
structure Keep(σ0 σ1:PHeap):Prop where
 next:σ0.next<=σ1.next
 top:σ0.top<=σ1.top
 obj:∀s,s<σ0.next->σ1.obj s=σ0.obj s
theorem Keep.refl(U:PHeap):Keep U U:=⟨vM _,vM _,λ_ _=>rfl⟩
theorem Keep.trans(a:Keep σ0 σ1)(b:Keep σ1 σ2):Keep σ0 σ2:=⟨Nat.le_trans a.next b.next,Nat.le_trans a.top b.top,λs hs=>(b.obj s (Nat.lt_of_lt_of_le hs a.next)).trans (a.obj s hs)⟩
theorem Keep.new(a:Keep σ0 σ1)(cs:List PV):Keep σ0 (σ1.new cs):=
 ⟨by have:=a.next;simp only[PHeap.new];omega,a.top,λs hs=>by have:=a.next;simp only[PHeap.new];rw[if_neg (by omega)];exact a.obj s hs⟩
theorem Keep.set(a:Keep σ0 σ1){s:Nat}(hs:σ0.next<=s)(cs:List PV):Keep σ0 (σ1.set s cs):=
 ⟨a.next,a.top,λt ht=>by simp only[PHeap.set];rw[if_neg (by omega)];exact a.obj t ht⟩
theorem Keep.kill(a:Keep σ0 σ1){s:Nat}(hs:σ0.next<=s):Keep σ0 (σ1.kill s):=
 ⟨a.next,a.top,λt ht=>by simp only[PHeap.kill];rw[if_neg (by omega)];exact a.obj t ht⟩
theorem Keep.up(a:Keep σ0 σ1){t:Nat}(ht:σ1.top<=t):Keep σ0 (σ1.up t):=⟨a.next,Nat.le_trans a.top ht,a.obj⟩
theorem Gh.fin0T{v:PV}{t:Nat}(hk:Keep σ0 σ1)(ht:t<=σ1.top)(hb:Bel σ0.next v)(k:PWF σ0->K v (σ0.up t)):Gh σ0 K v σ1:=λw=>
 Gh.cut (σ2:=σ0.up t) rfl ht (λs cs hs=>⟨w.lt hs,by rw[hk.obj s (w.lt hs)];exact hs,.inl hs⟩) hb (k w) w
theorem Gh.fin0{v:PV}(hk:Keep σ0 σ1)(hb:Bel σ0.next v)(k:K v σ0):Gh σ0 K v σ1:=Gh.fin0T (t:=σ0.top) hk hk.top hb λ_=>k
theorem Gh.finS{s off l:Nat}{cap:Cap}{cs:List PV}(hk:Keep σ0 σ1)(hs:σ1.obj s=some cs)(h0:σ0.next<=s)(hb:Bels σ0.next cs)(k:K (.sl σ0.next off l cap) (σ0.new cs)):Gh σ0 K (.sl s off l cap) σ1:=by
 intro w ι Z h b r hv h1 h2 h3 h4;obtain⟨q1,q2,q3⟩:=r.obj s cs hs;have hi:∀{t:Nat} {ds:List PV},σ0.obj t=some ds->ι t≠ι s:=λ{t ds} ht he=>by
  have:=r.inj t s ds cs (by rw[hk.obj t (w.lt ht)];exact ht) hs he
  have:=w.lt ht
  omega
 have conv:∀t,t<σ0.next->putι ι σ0.next (ι s) t=ι t:=λt ht=>by simp[putι,Nat.ne_of_lt ht]
 have eC:VOKs Z h σ0.next cs:=q2.of_bel hb;refine⟨.sl σ0.next off l cap,σ0.new cs,putι ι σ0.next (ι s),Z,⟨r.hwf,r.zlt,Nat.le_trans hk.top r.top,λt ht=>?_,λt ds ht=>?_,λt t' ds sf ht cZ he=>?_⟩,Nat.lt_succ_self _,by simp[PHeap.new],conv,λ_ h=>h,λt ds ht hd=>?_,λt ht hd=>?_,(by simp[er,putι]),k⟩
 .simp only[PHeap.new]at ht ⊢;rw[if_neg (by omega)];exact w.wf t (by omega)
 .simp only[PHeap.new]at ht ⊢;by_cases e:t=σ0.next
  .subst e;rw[if_pos rfl]at ht;cases ht;rw[QH conv eC];simp only[putι,if_true];exact⟨q1,eC.up (Nat.le_succ _),q3⟩
  .rw[if_neg e]at ht;have gE:=w.lt ht;obtain⟨p1,p2,p3⟩:=r.obj t ds (by rw[hk.obj t gE];exact ht);have tL:=p2.of_bel (w.bel t ds ht);rw[conv t gE,QH conv tL];exact⟨p1,tL.up (Nat.le_succ _),p3⟩
 .simp only[PHeap.new]at ht cZ;by_cases e:t=σ0.next
  .by_cases e':t'=σ0.next
   .rw[e,e']
   .rw[if_neg e']at cZ;rw[conv t' (w.lt cZ)]at he;subst e;simp only[putι,if_true]at he;exact absurd he.symm (hi cZ)
  .rw[if_neg e]at ht;rw[conv t (w.lt ht)]at he;by_cases e':t'=σ0.next
   .subst e';simp only[putι,if_true]at he;exact absurd he (hi ht)
   .rw[if_neg e']at cZ;rw[conv t' (w.lt cZ)]at he;exact r.inj t t' ds sf (by rw[hk.obj t (w.lt ht)];exact ht) (by rw[hk.obj t' (w.lt cZ)];exact cZ) he
 .simp only[PHeap.new]at hd;by_cases e:t=σ0.next
  .subst e;simp only[putι,if_true];exact h3 s cs h0 hs
  .rw[if_neg e]at hd;have:=w.lt hd;omega
 .simp only[PHeap.new];rw[if_neg (by omega)];exact hd
theorem Gh.freeze{v:PV}{s:Nat}{cs:List PV}(hs:σ1.obj s=some cs)(h0:σ0.next<=s)(hb:Bels 0 cs)
  (k:∀o,σ0.top<=o->o∉Zw cs->o∉addrs v->Gh σ0 K (sb s o cs v) ((σ1.kill s).up (max σ1.top (o+1)))):Gh σ0 K v σ1:=by
 intro w ι Z h b r hv h1 h2 h3 h4;obtain⟨r',eC,ho,hz⟩:=r.freeze hs hb;have iA:=h3 s cs h0 hs;have conv:∀{t:Nat} {a:List PV},(σ1.kill s).obj t=some a->t≠s/\σ1.obj t=some a:=λ{t a} ht=>by
  simp only[PHeap.kill]at ht;split at ht
  .cases ht
  .exact⟨by assumption,ht⟩
 obtain⟨v2,σ2,ι2,Z2,g1,g2,g3,g4,g5,g6,g7,g8,g9⟩:=k (ι s) (by omega) (λhm=>hz (Qu eC _ hm)) (λhm=>hz (zKo hv _ hm)) w ι (λo=>Z o\/o=ι s) h b r'
  (VOK.sb (.inr rfl) ho (eC.mono (λo ho=>⟨.inl ho,rfl⟩) (vM _)) (hv.mono (λo ho=>⟨.inl ho,rfl⟩) (vM _))) h1 h2 (λt ds ht hd=>h3 t ds ht (conv hd).2)
  (λt ht hd=>by simp only[PHeap.kill,PHeap.up];split;rfl;exact h4 t ht hd)
 exact⟨v2,σ2,ι2,Z2,g1,g2,g3,g4,λo ho=>g5 o (.inl ho),g6,g7,g8.trans (er_sb rfl v),g9⟩
theorem Gh.finZ{s l:Nat}{cap:Cap}{cs:List PV}(hk:Keep σ0 σ1)(hs:σ1.obj s=some cs)(h0:σ0.next<=s)(hb:Bels 0 cs)(bQ:capOK cap l=true)
  (k:∀o,σ0.top<=o->o∉Zw cs->∀t,o<t->σ1.top<=t->K (.fz true (.sl o 0 l cap) l cs) (σ0.up t)):Gh σ0 K (.sl s 0 l cap) σ1:=
 Gh.freeze hs h0 hb λo ho hc _=>by
  simp only[sb];rw[if_pos ⟨trivial,trivial,bQ⟩];exact Gh.fin0T (t:=max σ1.top (o+1)) ((hk.kill h0).up (by simp only[PHeap.kill];omega)) (vM _) trivial λw=>k o ho hc _ (by omega) (by omega)
theorem Gh.finF{s l:Nat}{cap:Cap}{cs:List PV}(hk:Keep σ0 σ1)(hs:σ1.obj s=some cs)(h0:σ0.next<=s)(hb:Bels 0 cs)(bQ:capOK cap l=true)
  (k:∀o,K (.fz true (.sl o 0 l cap) l cs) σ0):Gh σ0 K (.sl s 0 l cap) σ1:=
 Gh.freeze hs h0 hb λo ho hc _=>by
  simp only[sb];rw[if_pos ⟨trivial,trivial,bQ⟩];exact Gh.fin0 ((hk.kill h0).up (by simp only[PHeap.kill];omega)) trivial (k o)
theorem zA.frz{f:FuncId}{args:List PV}{s:Nat}{cs:List PV}(hs:U.obj s=some cs)(hb:Bels 0 cs)(c:∀o,zA P f (sbs s o cs args) (U.kill s) K):zA P f args U K:=by
 intro ι Z h r va;obtain⟨r',eC,ho,hz⟩:=r.freeze hs hb;have r2:Rel ι (λo=>Z o\/o=ι s) (U.kill s) h:=⟨r'.hwf,r'.zlt,by have:=r.top;exact this,r'.wf,r'.obj,r'.inj⟩
 have dz:∀o,Z o->(Z o\/o=ι s)/\h.obj o=h.obj o:=λo ho=>⟨.inl ho,rfl⟩
 have hm:(U.kill s).next=U.next:=rfl
 have:=c (ι s) ι _ h r2 (VOKs.sbs (.inr rfl) ho (eC.mono dz (vM _)) (va.mono dz (vM _)))
 rw[Qk rfl]at this;refine this.mono ?_
 rintro v h' ⟨pv,σ',ι',Z',q1,q2,q3,q4,q5⟩
 exact⟨pv,σ',ι',Z',q1,⟨q2.next,q2.hnext,q2.inj,λo ho=>q2.z o (.inl ho),λt ht hn=>q2.dead t ht (by simp only[PHeap.kill];split;rfl;exact hn),q2.fresh⟩,q3,q4,q5⟩
end Go.Ab
set_option linter.unusedVariables false
set_option linter.unusedSimpArgs false
set_option linter.defProp false
namespace Go.Ab
section
variable{P:Program}{Q:Exit->PEnv->PHeap->Prop}{e:PEnv}{h:PHeap}{K:PEnv->PHeap->Prop}{KA:PV->PHeap->Prop}{nb nr:Nat}
theorem zPx:vp P .skip Q e h=Q .normal e h:=rfl
theorem zL8(S:List Nat)(aE:List II):vp P (.region S aE) Q e h=RVp P aE e h λe' h'=>Q .normal (PEnv.mk S (S.map e')) h':=rfl
theorem zPz(S:List Nat)(zs:List (List AV))(aE:List DI):vp P (.draw S zs aE) Q e h=DVp P h.next zs.length aE [] e (h.news zs) λe' h'=>Q .normal (PEnv.mk S (S.map e')) h':=rfl
theorem zRV(a b:IC):vp P (.seq a b) Q e h=vp P a (λx e' h'=>match x with | .normal=>vp P b Q e' h'|x=>Q x e' h') e h:=rfl
theorem zP0(c:IX)(a b:IC):vp P (.cond c a b) Q e h=Z8 (c.pv e) (vp P a Q e h) (vp P b Q e h):=rfl
theorem zN6(id:Nat)(c:IC):vp P (.block id c) Q e h=vp P c (λx e' h'=>match x with | .exit gj=>if gj=id then Q .normal e' h' else Q (.exit gj) e' h'|x=>Q x e' h') e h:=rfl
theorem zPy(id:Nat):vp P (.exit id) Q e h=Q (.exit id) e h:=rfl
theorem zRW:vp P .ret Q e h=Q .ret e h:=rfl
theorem zRP:RVp P [] e h K=K e h:=rfl
theorem RVp_q(d:Option Nat)(op:IOp)(g:Option (Nat×Bool))(r:List II):RVp P (⟨d,op,true,g⟩::r) e h K=optK (gqp 0 0 ⟨d,op,true,g⟩ e h) λv=>RVp P r (e.put d v) h K:=rfl
theorem RVp_e(d:Option Nat)(op:IOp)(g:Option (Nat×Bool))(r:List II):RVp P (⟨d,op,false,g⟩::r) e h K=gep P ⟨d,op,false,g⟩ e h λv h'=>RVp P r (e.put d v) h' K:=rfl
theorem zRS(recs:List RecP):DVp P nb nr [] recs e h K=K e h:=rfl
theorem DVp_q(d:Option Nat)(op:IOp)(g:Option (Nat×Bool))(i:Nat)(c:List Nat)(r:List DI)(recs:List RecP):DVp P nb nr (⟨⟨d,op,true,g⟩,i,c⟩::r) recs e h K=optK (gqp nb nr ⟨d,op,true,g⟩ e h) λv=>DVp P nb nr r (qo ⟨⟨d,op,true,g⟩,i,c⟩ e v++recs) (e.put d v) h K:=rfl
theorem DVp_e(d:Option Nat)(op:IOp)(g:Option (Nat×Bool))(i:Nat)(c:List Nat)(r:List DI)(recs:List RecP):DVp P nb nr (⟨⟨d,op,false,g⟩,i,c⟩::r) recs e h K=gep P ⟨d,op,false,g⟩ e h λv h'=>zAV c recs h'/\DVp P nb nr r recs (e.put d v) h' K:=rfl
theorem zPD(d:Option Nat)(op:IOp)(q:Bool):gqp nb nr ⟨d,op,q,none⟩ e h=qp nb nr op e h:=rfl
theorem zPC(d:Option Nat)(op:IOp)(q:Bool)(t:Nat)(b:Bool):gqp nb nr ⟨d,op,q,some (t,b)⟩ e h=zAD (e t) b (qp nb nr op e h):=rfl
theorem zPF(d:Option Nat)(op:IOp)(q:Bool):gep P ⟨d,op,q,none⟩ e h KA=ep P op e h KA:=rfl
theorem zPE(d:Option Nat)(op:IOp)(q:Bool)(t:Nat)(b:Bool):gep P ⟨d,op,q,some (t,b)⟩ e h KA=Zj (e t) b (ep P op e h KA) (KA (.tup []) h):=rfl
theorem zJP(a b:Prop):Z8 (.bool true) a b=a:=rfl
theorem zHt(a b:Prop):Z8 (.bool false) a b=b:=rfl
theorem zLB(c:Prop)[Decidable c](a b:Prop):Z8 (.bool (decide c)) a b=if c then a else b:=by by_cases x:c<;>simp[Z8,x]
theorem zJQ(c:Prop)[Decidable c](a b:Prop):Z8 (.bool (!decide c)) a b=if c then b else a:=by by_cases x:c<;>simp[Z8,x]
theorem zHr(c b:Bool)(x y:Prop):Zj (.bool c) b x y=if c=b then x else y:=rfl
theorem zHp(c b:Bool)(x:Option PV):zAD (.bool c) b x=if c=b then x else some (.tup []):=rfl
theorem zHo(b:Bool)(x:Option PV):zAD (.tup []) b x=some (.tup []):=rfl
theorem zHq(b:Bool)(x y:Prop):Zj (.tup []) b x y=y:=rfl
theorem pv_t(n:Nat):(IX.t n).pv e=e n:=rfl
theorem pv_c(v:AV):(IX.c v).pv e=ofAV v:=rfl
theorem zOf(s:Nat)(S:List Nat)(v:PV)(vs:List PV)(t:Nat):PEnv.mk (s::S) (v::vs) t=if t=s then v else PEnv.mk S vs t:=rfl
theorem zMf(d:Nat)(v:PV)(t:Nat):e.put (some d) v t=if t=d then v else e t:=rfl
theorem zMg(v:PV):e.put none v=e:=rfl
theorem qp_mv(x:IX):qp nb nr (.mv x) e h=some (x.pv e):=rfl
theorem zQM(c a b:IX):qp nb nr (.pick c a b) e h=pPick (c.pv e) (a.pv e) (b.pv e):=rfl
theorem zRn(op:BinOp)(ek:EqK)(x y:IX):qp nb nr (.bin op ek x y) e h=pbin op ek (x.pv e) (y.pv e):=rfl
theorem qp_un(op:UnOp)(x:IX):qp nb nr (.un op x) e h=pun op (x.pv e):=rfl
theorem zQO(k:IntKind)(x:IX):qp nb nr (.conv k x) e h=pConv k (x.pv e):=rfl
theorem zJJ(x:IX):qp nb nr (.nilCheck x) e h=pNil (x.pv e):=rfl
theorem zOS(z:List AV)(ps:List (Nat×Nat×IX)):qp nb nr (.build z ps) e h=(pfill (ofAVs z) (ps.map λp=>(p.1,p.2.1,p.2.2.pv e))).map .agg:=rfl
theorem zOR(a:Bool)(n off:Nat)(x:IX):qp nb nr (.field a n off x) e h=zDQ a n off (x.pv e):=rfl
theorem zHf(off:Nat)(x:IX):qp nb nr (.fieldAddr off x) e h=zAN off (x.pv e):=rfl
theorem zHe(sz:Nat)(x i:IX):qp nb nr (.indexAddr sz x i) e h=zCP sz (x.pv e) (i.pv e):=rfl
theorem zJL(x i:IX):qp nb nr (.indexStr x i) e h=zDv (x.pv e) (i.pv e):=rfl
theorem zK4(x:IX)(i:Nat):qp nb nr (.extract x i) e h=zCr (x.pv e) i:=rfl
theorem zRl(x:IX):qp nb nr (.len x) e h=pLen (x.pv e):=rfl
theorem zMa(x:IX):qp nb nr (.lenStr x) e h=zDu (x.pv e):=rfl
theorem zRm(x:IX):qp nb nr (.cap x) e h=pCap (x.pv e):=rfl
theorem zOQ(sz:Nat)(x:IX)(lo hi mx:Option IX):qp nb nr (.slice sz x lo hi mx) e h=QE sz (x.pv e) (lo.map (·.pv e)) (hi.map (·.pv e)) (mx.map (·.pv e)):=rfl
theorem zJI(x:IX)(lo hi:Option IX):qp nb nr (.sliceStr x lo hi) e h=zBw (x.pv e) (lo.map (·.pv e)) (hi.map (·.pv e)):=rfl
theorem zMZ(mx:Bool)(x y:IX):qp nb nr (.maxmin mx x y) e h=zCO mx (x.pv e) (y.pv e):=rfl
theorem zJK(f:FuncId)(a b:List IX):qp nb nr (.makeFunc f a b) e h=some (.clo f (a.map (·.pv e)) (b.map (·.pv e))):=rfl
theorem zQN(a:Bool)(n:Nat)(x:IX):qp nb nr (.load a n x) e h=pldv a n (x.pv e) h:=rfl
theorem zRk(k:Nat):qp nb nr (.rev k) e h=if k<nr then some (.ptr (nb+k) 0)else none:=rfl
theorem zQL(k n:Nat):qp nb nr (.revS k n) e h=if k<nr then some (.sl (nb+k) 0 n (.known n))else none:=rfl
theorem zPP(z:List AV):ep P (.alloc z) e h KA=KA (.ptr h.next 0) (h.new (ofAVs z)):=rfl
theorem zSA(x:IX):ep P (.box x) e h KA=((x.pv e).cells.all PV.one=true/\KA (.ptr h.next 0) (h.new (x.pv e).cells)):=rfl
theorem zLi(sz len:Nat)(z:List AV)(ps:List (Nat×Nat×IX)):ep P (.buildSl sz len z ps) e h KA=optK (pfill (ofAVs (zeros z len)) (ps.map λp=>(p.1,p.2.1,p.2.2.pv e))) λcs=>KA (.sl h.next 0 len (.known len)) (h.new cs):=rfl
def zFR(n:Nat)(x v:PV)(h:PHeap)(KA:PV->PHeap->Prop):Prop:=
 match x with
 | .ptr s i=>v.cells.length=n/\optK (h.wr s i v.cells) λh'=>KA .undef h'
 |_=>False
def pMake(sz bytes:Nat)(z:List AV)(l c:PV)(h:PHeap)(KA:PV->PHeap->Prop):Prop:=
 match l,c with
 | .int _ l,.int _ c=>(0<=l/\l<=c/\c*bytes<=140737488355328/\c<=9223372036854775807)/\KA (.sl h.next 0 l.toNat (.known c.toNat)) (h.new (ofAVs (zeros z c.toNat)))
 |_,_=>False
def zFT(sz bytes:Nat)(z:List AV)(s n:PV)(h:PHeap)(KA:PV->PHeap->Prop):Prop:=
 match s,n with
 | .fz _ .nils _ _,.int _ n=>(0<=n/\n*bytes<=140737488355328/\n<=4611686018427387904)/\if 0<n then KA (.sl h.next 0 n.toNat (.grown sz)) (h.new (ofAVs (zeros z n.toNat)))else KA (.fz true .nils 0 []) h
 | .sl s off len c,.int _ n=>(0<=n/\n*bytes<=140737488355328/\n<=4611686018427387904)/\optK (if 0<n then pgrow sz bytes h (.sl s off len c) (ofAVs (zeros z n.toNat)) n.toNat else(psame (.sl s off len c)).map λv=>(v,h)) λp=>KA p.1 p.2
 |_,_=>False
def zFS(P:Program)(f:PV)(args:List PV)(h:PHeap)(KA:PV->PHeap->Prop):Prop:=
 match f with
 | .clo f first cg=>okF P f=true/\zA P f (first++args++cg) h KA
 |_=>False
theorem zPN(n:Nat)(x v:IX):ep P (.store n x v) e h KA=zFR n (x.pv e) (v.pv e) h KA:=rfl
theorem zLM(n s i:Nat)(v:PV):zFR n (.ptr s i) v h KA=(v.cells.length=n/\optK (h.wr s i v.cells) λh'=>KA .undef h'):=rfl
theorem zNh(sz bytes:Nat)(z:List AV)(l c:IX):ep P (.makeSl sz bytes z l c) e h KA=pMake sz bytes z (l.pv e) (c.pv e) h KA:=rfl
theorem zJ8(sz bytes:Nat)(z:List AV)(s n:IX):ep P (.appendMk sz bytes z s n) e h KA=zFT sz bytes z (s.pv e) (n.pv e) h KA:=rfl
theorem zJd(sz bytes:Nat)(z:List AV)(w:Bool)(l:Nat)(cs:List PV)(k:IntKind)(n:Int):zFT sz bytes z (.fz w .nils l cs) (.int k n) h KA=((0<=n/\n*bytes<=140737488355328/\n<=4611686018427387904)/\if 0<n then KA (.sl h.next 0 n.toNat (.grown sz)) (h.new (ofAVs (zeros z n.toNat)))else KA (.fz true .nils 0 []) h):=rfl
theorem zM6(sz bytes:Nat)(z:List AV)(k k':IntKind)(l c:Int):pMake sz bytes z (.int k l) (.int k' c) h KA=((0<=l/\l<=c/\c*bytes<=140737488355328/\c<=9223372036854775807)/\KA (.sl h.next 0 l.toNat (.known c.toNat)) (h.new (ofAVs (zeros z c.toNat)))):=rfl
theorem zNi(sz bytes:Nat)(s x:IX):ep P (.append sz bytes s x) e h KA=optK (Zb sz bytes h (s.pv e) (x.pv e)) λp=>KA p.1 p.2:=rfl
theorem zRB(sz:Nat)(d s:IX):ep P (.copy sz d s) e h KA=optK (pcopy sz h (d.pv e) (s.pv e)) λp=>KA p.1 p.2:=rfl
theorem zRC(f:FuncId)(args:List IX):ep P (.call f args) e h KA=zA P f (args.map (·.pv e)) h KA:=rfl
theorem zPO(f:IX)(args:List IX):ep P (.callV f args) e h KA=zFS P (f.pv e) (args.map (·.pv e)) h KA:=rfl
theorem zLQ(f:FuncId)(a b args:List PV):zFS P (.clo f a b) args h KA=(okF P f=true/\zA P f (a++args++b) h KA):=rfl
theorem zOy:ofAV .undef=.undef:=rfl
theorem of_bool(b:Bool):ofAV (.bool b)=.bool b:=rfl
theorem of_int(k:IntKind)(n:Int):ofAV (.int k n)=.int k n:=rfl
theorem zRv(s:List UInt8):ofAV (.str s)=.str s:=rfl
theorem zQl:ofAV .nilp=.nilp:=rfl
theorem zQm:ofAV .nilf=.nilf:=rfl
theorem zQk:ofAV .nils=.fz true .nils 0 []:=rfl
theorem zRw(f:FuncId)(a b:List AV):ofAV (.clo f a b)=.clo f (ofAVs a) (ofAVs b):=rfl
theorem zRx(a:List AV):ofAV (.agg a)=.agg (ofAVs a):=rfl
theorem zQj:ofAVs []=[]:=rfl
theorem zOx(c:AV)(cs:List AV):ofAVs (c::cs)=ofAV c::ofAVs cs:=rfl
theorem zQi(n:Nat)(c:AV):ofAVs (List.replicate n c)=List.replicate n (ofAV c):=by rw[zGe,List.map_replicate]
theorem zOu(k:IntKind)(ek:EqK)(a b:Int):pbin .add ek (.int k a) (.int k b)=some (.int k (k.wrap (a+b))):=by simp[pbin,abin,aint,ofAV]
theorem zOk(k:IntKind)(ek:EqK)(a b:Int):pbin .sub ek (.int k a) (.int k b)=some (.int k (k.wrap (a-b))):=by simp[pbin,abin,aint,ofAV]
theorem zOo(k:IntKind)(ek:EqK)(a b:Int):pbin .mul ek (.int k a) (.int k b)=some (.int k (k.wrap (a*b))):=by simp[pbin,abin,aint,ofAV]
theorem zOt(k:IntKind)(ek:EqK)(a b:Int):pbin .eql ek (.int k a) (.int k b)=some (.bool (decide (a=b))):=by simp[pbin,abin,aint,ofAV]
theorem zOn(k:IntKind)(ek:EqK)(a b:Int):pbin .neq ek (.int k a) (.int k b)=some (.bool (!decide (a=b))):=by simp[pbin,abin,aint,ofAV]
theorem zOp(k:IntKind)(ek:EqK)(a b:Int):pbin .lss ek (.int k a) (.int k b)=some (.bool (decide (a<b))):=by simp[pbin,abin,aint,ofAV]
theorem zOq(k:IntKind)(ek:EqK)(a b:Int):pbin .leq ek (.int k a) (.int k b)=some (.bool (decide (a<=b))):=by simp[pbin,abin,aint,ofAV]
theorem zOr(k:IntKind)(ek:EqK)(a b:Int):pbin .gtr ek (.int k a) (.int k b)=some (.bool (decide (b<a))):=by simp[pbin,abin,aint,ofAV]
theorem zOs(k:IntKind)(ek:EqK)(a b:Int):pbin .geq ek (.int k a) (.int k b)=some (.bool (decide (b<=a))):=by simp[pbin,abin,aint,ofAV]
theorem zOm(k:IntKind)(ek:EqK)(a b:Int):pbin .quo ek (.int k a) (.int k b)=if b=0 then none else some (.int k (k.wrap (a.tdiv b))):=by simp only[pbin,abin,aint,if_true];split<;>rfl
theorem zOl(k:IntKind)(ek:EqK)(a b:Int):pbin .rem ek (.int k a) (.int k b)=if b=0 then none else some (.int k (a.tmod b)):=by simp only[pbin,abin,aint,if_true];split<;>rfl
theorem zLK(n:Nat)(xs ys:List PV):pbin .eql (.ints n) (.agg xs) (.agg ys)=if xs.length=n/\ys.length=n then(paggB xs ys).bind λr=>some (.bool r)else none:=rfl
theorem zMz:paggB [] []=some true:=rfl
theorem zLL(k:IntKind)(a b:Int)(xs ys:List PV):paggB (.int k a::xs) (.int k b::ys)=(paggB xs ys).map λr=>decide (a=b) && r:=by simp[paggB]
theorem zMy(a b:Bool):pbin .eql .bool (.bool a) (.bool b)=some (.bool (a == b)):=rfl
theorem zMx(a b:Bool):pbin .neq .bool (.bool a) (.bool b)=some (.bool !(a == b)):=rfl
theorem zLJ(w w':Bool)(a:AV)(n n':Nat)(cs dF:List PV):pbin .eql .slice (.fz w a n cs) (.fz w' .nils n' dF)=some (.bool (Zv a)):=rfl
theorem zJY(w w':Bool)(a:AV)(n n':Nat)(cs dF:List PV):pbin .neq .slice (.fz w a n cs) (.fz w' .nils n' dF)=some (.bool (!Zv a)):=rfl
theorem zLI(s o n:Nat)(c:Cap)(w':Bool)(n':Nat)(dF:List PV):pbin .eql .slice (.sl s o n c) (.fz w' .nils n' dF)=some (.bool false):=rfl
theorem zJX(s o n:Nat)(c:Cap)(w':Bool)(n':Nat)(dF:List PV):pbin .neq .slice (.sl s o n c) (.fz w' .nils n' dF)=some (.bool true):=rfl
theorem zJW(ek:EqK)(a b:List UInt8):pbin .add ek (.str a) (.str b)=if a.length+b.length<=9223372036854775807 then some (.str (a++b))else none:=by simp only[pbin,astr];split<;>rfl
theorem zJV(ek:EqK)(a b:List UInt8):pbin .eql ek (.str a) (.str b)=some (.bool (a == b)):=rfl
theorem zJU(ek:EqK)(a b:List UInt8):pbin .neq ek (.str a) (.str b)=some (.bool !(a == b)):=rfl
theorem zJy:Zv .nils=true:=rfl
theorem zNa(o f n:Nat)(c:Cap):Zv (.sl o f n c)=false:=rfl
theorem zQS(k:IntKind)(n:Int):pun .neg (.int k n)=some (.int k (k.wrap (0-n))):=rfl
theorem zQR(b:Bool):pun .not (.bool b)=some (.bool !b):=rfl
theorem zLN(a b:PV):pPick (.bool true) a b=some a:=rfl
theorem zJZ(a b:PV):pPick (.bool false) a b=some b:=rfl
theorem zM9(k k':IntKind)(n:Int):pConv k (.int k' n)=some (.int k (k.wrap n)):=rfl
theorem zOv(s i:Nat):pNil (.ptr s i)=some (.ptr s i):=rfl
theorem zOw(f:FuncId)(a b:List PV):pNil (.clo f a b)=some (.clo f a b):=rfl
theorem zQe(a:AV)(c:PV)(cs:List PV):pNil (.fp a (c::cs))=some (.fp a (c::cs)):=rfl
theorem zLP(n off:Nat)(cs:List PV):zDQ true n off (.agg cs)=some (.agg ((cs.drop off).take n)):=rfl
theorem zLO(n off:Nat)(cs:List PV):zDQ false n off (.agg cs)=cs[off]?:=rfl
theorem zGJ(off s i:Nat):zAN off (.ptr s i)=some (.ptr s (i+off)):=rfl
theorem zG4(off:Nat)(a:AV)(c:PV)(cs:List PV):zAN off (.fp a (c::cs))=some (.fp (pAdd a off) ((c::cs).drop off)):=rfl
theorem zM7(sz s off len:Nat)(c:Cap)(k:IntKind)(n:Int):zCP sz (.sl s off len c) (.int k n)=if 0<=n/\n<len then some (.ptr s (off+n.toNat*sz))else none:=rfl
theorem zM8(sz:Nat)(w:Bool)(a:AV)(len:Nat)(cs:List PV)(k:IntKind)(n:Int):zCP sz (.fz w a len cs) (.int k n)=if 0<=n/\n<len then some (.fp (pAt a (n.toNat*sz)) (cs.drop (n.toNat*sz)))else none:=rfl
theorem zJc(s:List UInt8)(k:IntKind)(n:Int):zDv (.str s) (.int k n)=if 0<=n then(s[n.toNat]?).map λc=>.int .u8 c.toNat else none:=rfl
theorem zHw(vs:List PV)(i:Nat):zCr (.tup vs) i=vs[i]?:=rfl
theorem zQg(w:Bool)(a:AV)(n:Nat)(cs:List PV):pLen (.fz w a n cs)=some (.int .i64 n):=rfl
theorem zQf(s o n:Nat)(c:Cap):pLen (.sl s o n c)=some (.int .i64 n):=rfl
theorem zJb(s:List UInt8):zDu (.str s)=some (.int .i64 s.length):=rfl
theorem zNA(w:Bool)(l:Nat)(cs:List PV):pCap (.fz w .nils l cs)=some (.int .i64 0):=rfl
theorem zQh(s o n c:Nat):pCap (.sl s o n (.known c))=some (.int .i64 c):=rfl
theorem zJa(mx:Bool)(k:IntKind)(a b:Int):zCO mx (.int k a) (.int k b)=some (.int k (if mx=true then max a b else min a b)):=by simp[zCO]
theorem zMp(n s i:Nat):pldv false n (.ptr s i) h=h.rd1 s i:=rfl
theorem zMo(n s i:Nat):pldv true n (.ptr s i) h=(h.rd s i n).map .agg:=rfl
theorem zOh(n:Nat)(a:AV)(cs:List PV):pldv false n (.fp a cs) h=cs[0]?:=rfl
theorem zOg(n:Nat)(a:AV)(cs:List PV):pldv true n (.fp a cs) h=if 0<n/\n<=cs.length then some (.agg (cs.take n))else none:=rfl
theorem zMn:h.news []=h:=rfl
theorem zK9(z:List AV)(zs:List (List AV)):h.news (z::zs)=(h.new (ofAVs z)).news zs:=rfl
theorem zL6(recs:List RecP):zAV [] recs h=True:=by
 apply propext;refine⟨λ_=>trivial,λ_=>?_⟩
 induction recs with
 |nil=>trivial
 |cons r rs ih=>exact⟨by simp,ih⟩
theorem zKI(c:List Nat):zAV c [] h=True:=rfl
theorem zKJ(c:List Nat)(i:Nat)(a:Bool)(n:Nat)(x v:PV)(rs:List RecP):zAV c (⟨i,a,n,x,v⟩::rs) h=((if c.contains i=true then pldv a n x h=some v else True)/\zAV c rs h):=rfl
theorem zJC(d:Option Nat)(a:Bool)(n:Nat)(x:IX)(g:Option (Nat×Bool))(i:Nat)(c:List Nat)(v:PV):qo ⟨⟨d,.load a n x,true,g⟩,i,c⟩ e v=if zBJ g e=true then [⟨i,a,n,x.pv e,v⟩]else []:=rfl
theorem zMV(d:Option Nat)(x:IX)(g:Option (Nat×Bool))(i:Nat)(c:List Nat)(v:PV):qo ⟨⟨d,(.mv x),true,g⟩,i,c⟩ e v=[]:=rfl
theorem zJB(d:Option Nat)(x y z:IX)(g:Option (Nat×Bool))(i:Nat)(c:List Nat)(v:PV):qo ⟨⟨d,(.pick x y z),true,g⟩,i,c⟩ e v=[]:=rfl
theorem zK2(d:Option Nat)(op:BinOp)(ek:EqK)(x y:IX)(g:Option (Nat×Bool))(i:Nat)(c:List Nat)(v:PV):qo ⟨⟨d,(.bin op ek x y),true,g⟩,i,c⟩ e v=[]:=rfl
theorem zMT(d:Option Nat)(op:UnOp)(x:IX)(g:Option (Nat×Bool))(i:Nat)(c:List Nat)(v:PV):qo ⟨⟨d,(.un op x),true,g⟩,i,c⟩ e v=[]:=rfl
theorem zJD(d:Option Nat)(k:IntKind)(x:IX)(g:Option (Nat×Bool))(i:Nat)(c:List Nat)(v:PV):qo ⟨⟨d,(.conv k x),true,g⟩,i,c⟩ e v=[]:=rfl
theorem zFJ(d:Option Nat)(x:IX)(g:Option (Nat×Bool))(i:Nat)(c:List Nat)(v:PV):qo ⟨⟨d,(.nilCheck x),true,g⟩,i,c⟩ e v=[]:=rfl
theorem zHa(d:Option Nat)(z:List AV)(ps:List (Nat×Nat×IX))(g:Option (Nat×Bool))(i:Nat)(c:List Nat)(v:PV):qo ⟨⟨d,(.build z ps),true,g⟩,i,c⟩ e v=[]:=rfl
theorem zHZ(d:Option Nat)(a:Bool)(n off:Nat)(x:IX)(g:Option (Nat×Bool))(i:Nat)(c:List Nat)(v:PV):qo ⟨⟨d,(.field a n off x),true,g⟩,i,c⟩ e v=[]:=rfl
theorem zEf(d:Option Nat)(off:Nat)(x:IX)(g:Option (Nat×Bool))(i:Nat)(c:List Nat)(v:PV):qo ⟨⟨d,(.fieldAddr off x),true,g⟩,i,c⟩ e v=[]:=rfl
theorem zEe(d:Option Nat)(sz:Nat)(x y:IX)(g:Option (Nat×Bool))(i:Nat)(c:List Nat)(v:PV):qo ⟨⟨d,(.indexAddr sz x y),true,g⟩,i,c⟩ e v=[]:=rfl
theorem zFL(d:Option Nat)(x y:IX)(g:Option (Nat×Bool))(i:Nat)(c:List Nat)(v:PV):qo ⟨⟨d,(.indexStr x y),true,g⟩,i,c⟩ e v=[]:=rfl
theorem zGH(d:Option Nat)(x:IX)(j:Nat)(g:Option (Nat×Bool))(i:Nat)(c:List Nat)(v:PV):qo ⟨⟨d,(.extract x j),true,g⟩,i,c⟩ e v=[]:=rfl
theorem zK0(d:Option Nat)(x:IX)(g:Option (Nat×Bool))(i:Nat)(c:List Nat)(v:PV):qo ⟨⟨d,(.len x),true,g⟩,i,c⟩ e v=[]:=rfl
theorem zG0(d:Option Nat)(x:IX)(g:Option (Nat×Bool))(i:Nat)(c:List Nat)(v:PV):qo ⟨⟨d,(.lenStr x),true,g⟩,i,c⟩ e v=[]:=rfl
theorem zK1(d:Option Nat)(x:IX)(g:Option (Nat×Bool))(i:Nat)(c:List Nat)(v:PV):qo ⟨⟨d,(.cap x),true,g⟩,i,c⟩ e v=[]:=rfl
theorem zHY(d:Option Nat)(sz:Nat)(x:IX)(lo hi mx:Option IX)(g:Option (Nat×Bool))(i:Nat)(c:List Nat)(v:PV):qo ⟨⟨d,(.slice sz x lo hi mx),true,g⟩,i,c⟩ e v=[]:=rfl
theorem zFI(d:Option Nat)(x:IX)(lo hi:Option IX)(g:Option (Nat×Bool))(i:Nat)(c:List Nat)(v:PV):qo ⟨⟨d,(.sliceStr x lo hi),true,g⟩,i,c⟩ e v=[]:=rfl
theorem zGz(d:Option Nat)(mx:Bool)(x y:IX)(g:Option (Nat×Bool))(i:Nat)(c:List Nat)(v:PV):qo ⟨⟨d,(.maxmin mx x y),true,g⟩,i,c⟩ e v=[]:=rfl
theorem zFK(d:Option Nat)(f:FuncId)(y z:List IX)(g:Option (Nat×Bool))(i:Nat)(c:List Nat)(v:PV):qo ⟨⟨d,(.makeFunc f y z),true,g⟩,i,c⟩ e v=[]:=rfl
theorem zKz(d:Option Nat)(j:Nat)(g:Option (Nat×Bool))(i:Nat)(c:List Nat)(v:PV):qo ⟨⟨d,(.rev j),true,g⟩,i,c⟩ e v=[]:=rfl
theorem zJA(d:Option Nat)(j m:Nat)(g:Option (Nat×Bool))(i:Nat)(c:List Nat)(v:PV):qo ⟨⟨d,(.revS j m),true,g⟩,i,c⟩ e v=[]:=rfl
theorem zHL:zBJ none e=true:=rfl
theorem zHK(t:Nat)(b:Bool):zBJ (some (t,b)) e=(match e t with | .bool c=>decide (c=b)|_=>false):=rfl
theorem zKx:Zu [] e h=some []:=rfl
theorem zKw(t:Nat)(r:List IRes):Zu (.tmp t::r) e h=(Zu r e h).map λvs=>e t::vs:=rfl
theorem zI4(t:Nat)(a:Bool)(n:Nat)(r:List IRes):Zu (.cell t a n::r) e h=(pldv a n (e t) h).bind λv=>(Zu r e h).map λvs=>v::vs:=rfl
theorem zI7(res:List IRes):retP res KA .normal e h=optK (Zu res e h) λvs=>KA (packP vs) h:=rfl
theorem zOI(res:List IRes):retP res KA .ret e h=optK (Zu res e h) λvs=>KA (packP vs) h:=rfl
theorem zM4(v:PV):packP [v]=v:=rfl
theorem zM5:packP []=.tup []:=rfl
theorem zM3(u v:PV)(r:List PV):packP (u::v::r)=.tup (u::v::r):=rfl
theorem zMs(cs:List PV):pfill cs []=some cs:=rfl
theorem zLA(cs:List PV)(off size:Nat)(v:PV)(r:List (Nat×Nat×PV)):pfill cs ((off,size,v)::r)=if v.cells.length=size/\off+size<=cs.length/\v.cells.all PV.one=true then pfill (cs.take off++v.cells++cs.drop (off+size)) r else none:=rfl
theorem zLE(k:IntKind)(n:Int):PV.cells (.int k n)=[(.int k n)]:=rfl
theorem zOc(k:IntKind)(n:Int):PV.one (.int k n)=true:=rfl
theorem zJT(b:Bool):PV.cells (.bool b)=[(.bool b)]:=rfl
theorem zMj(b:Bool):PV.one (.bool b)=true:=rfl
theorem zLC(s:List UInt8):PV.cells (.str s)=[(.str s)]:=rfl
theorem zOa(s:List UInt8):PV.one (.str s)=true:=rfl
theorem zJR:PV.cells .nilp=[.nilp]:=rfl
theorem zMh:PV.one .nilp=true:=rfl
theorem zJS:PV.cells .nilf=[.nilf]:=rfl
theorem zMi:PV.one .nilf=true:=rfl
theorem zMu(w:Bool)(a:AV)(n:Nat)(cs:List PV):PV.cells (.fz w a n cs)=[(.fz w a n cs)]:=rfl
theorem zQV(w:Bool)(a:AV)(n:Nat)(cs:List PV):PV.one (.fz w a n cs)=true:=rfl
theorem zMv(a:AV)(cs:List PV):PV.cells (.fp a cs)=[(.fp a cs)]:=rfl
theorem zQW(a:AV)(cs:List PV):PV.one (.fp a cs)=true:=rfl
theorem zLD(s i:Nat):PV.cells (.ptr s i)=[(.ptr s i)]:=rfl
theorem zOb(s i:Nat):PV.one (.ptr s i)=true:=rfl
theorem zMt(s o n:Nat)(c:Cap):PV.cells (.sl s o n c)=[(.sl s o n c)]:=rfl
theorem zQU(s o n:Nat)(c:Cap):PV.one (.sl s o n c)=true:=rfl
theorem zLF(f:FuncId)(a b:List PV):PV.cells (.clo f a b)=[(.clo f a b)]:=rfl
theorem zOd(f:FuncId)(a b:List PV):PV.one (.clo f a b)=true:=rfl
theorem zLG(cs:List PV):PV.cells (.agg cs)=cs:=rfl
theorem zCq(k:IntKind)(i:Int)(y:Nat):Qh (.int k i) y=if 0<=i/\i<=y then some i.toNat else none:=rfl
theorem zBe(x:PV)(d y:Nat):qN (some x) d y=Qh x y:=rfl
theorem zBf(d y:Nat):qN none d y=some d:=rfl
theorem zMd(sz:Nat)(w:Bool)(a:AV)(len:Nat)(cs:List PV)(lo hi:Option PV):QE sz (.fz w a len cs) lo hi none=(qN hi len len).bind λh=>(qN lo 0 h).bind λl=>some (.fz false (pslA sz a l h) (h-l) ((cs.drop (l*sz)).take ((h-l)*sz))):=rfl
theorem zDL(sz s off len c:Nat)(lo hi mx:Option PV):QE sz (.sl s off len (.known c)) lo hi mx=(qN mx c c).bind λm=>(qN hi len m).bind λh=>(qN lo 0 h).bind λl=>if hi.isNone=true/\mx.isSome=true then none else some (.sl s (if m=l then off else off+l*sz) (h-l) (.known (m-l))):=rfl
theorem zDM(sz s off len g:Nat)(lo hi:Option PV):QE sz (.sl s off len (.grown g)) lo hi none=(qN hi len len).bind λh=>(qN lo 0 h).bind λl=>some (.sl s (off+l*sz) (h-l) (.grown (if g=sz then g else 0))):=rfl
theorem zG1(s:List UInt8)(lo hi:Option PV):zBw (.str s) lo hi=(qN hi s.length s.length).bind λh=>(qN lo 0 h).bind λl=>some (.str ((s.take h).drop l)):=rfl
theorem zQa(w:Bool)(a:AV)(n:Nat)(cs:List PV):plen (.fz w a n cs)=some n:=rfl
theorem zQZ(s o n:Nat)(c:Cap):plen (.sl s o n c)=some n:=rfl
theorem zAL(sz bytes:Nat)(s x:PV):Zb sz bytes h s x=(plen x).bind λm=>if m=0 then(psame s).map λv=>(v,h)else(QF sz h x m).bind λnews=>pgrow sz bytes h s news m:=rfl
theorem zJN(s o n c:Nat):psame (.sl s o n (.known c))=if n<=c then some (.sl s o n (.known c))else none:=rfl
theorem zMr(sz:Nat)(w:Bool)(a:AV)(len:Nat)(cs:List PV)(n:Nat):QF sz h (.fz w a len cs) n=if n=0 then some []else if n<=len/\n*sz<=cs.length/\0<sz then some (cs.take (n*sz))else none:=rfl
theorem Qs(sz s off len:Nat)(c:Cap)(n:Nat):QF sz h (.sl s off len c) n=if n=0 then some []else if n<=len then h.rd s off (n*sz)else none:=rfl
theorem zFQ(sz bytes:Nat)(w:Bool)(n:Nat)(cs news:List PV)(m:Nat):pgrow sz bytes h (.fz w .nils n cs) news m=if m*bytes<=140737488355328/\m<=4611686018427387904 then some (.sl h.next 0 m (.grown sz),h.new news)else none:=rfl
theorem zAl(sz bytes s off len c:Nat)(news:List PV)(m:Nat):pgrow sz bytes h (.sl s off len (.known c)) news m=if len+m<=c then(h.wr s (off+len*sz) news).map λσ'=>(.sl s off (len+m) (.known c),σ')else if (len+m)*bytes<=140737488355328/\len+m<=4611686018427387904 then(h.rd s off (len*sz)).map λdc=>(.sl h.next 0 (len+m) (.grown sz),h.new (dc++news))else none:=rfl
theorem zAm(sz bytes s off len g:Nat)(news:List PV)(m:Nat):pgrow sz bytes h (.sl s off len (.grown g)) news m=if (len+m)*bytes<=140737488355328/\len+m<=4611686018427387904/\g=sz then(h.obj s).bind λcs=>if off+len*sz<=cs.length then some (.sl h.next 0 (len+m) (.grown sz),(h.kill s).new ((cs.drop off).take (len*sz)++news))else none else none:=rfl
theorem zOY(cs:List PV)(s i:Nat):(h.new cs).rd1 s i=if s=h.next then cs[i]? else h.rd1 s i:=by by_cases x:s=h.next<;>simp[PHeap.rd1,PHeap.new,x]
theorem zAd(cs:List PV)(s i n:Nat):(h.new cs).rd s i n=if s=h.next then(if i+n<=cs.length then some ((cs.drop i).take n)else none)else h.rd s i n:=by by_cases x:s=h.next<;>simp[PHeap.rd,PHeap.new,x]
theorem qa(cs:List PV)(s:Nat):(h.new cs).obj s=if s=h.next then some cs else h.obj s:=rfl
theorem zQQ(cs:List PV)(s i:Nat)(vs:List PV):(h.new cs).wr s i vs=if s=h.next then(if i+vs.length<=cs.length/\vs.all PV.one=true then some (h.new (cs.take i++vs++cs.drop (i+vs.length)))else none)else(h.wr s i vs).map λh'=>h'.new cs:=by
 by_cases x:s=h.next
 .subst x;simp only[PHeap.wr,PHeap.new,if_true,Option.bind_some];split
  .congr 1;simp only[PHeap.set];congr 1;funext y;by_cases hy:y=h.next<;>simp[hy]
  .rfl
 .simp only[PHeap.wr,PHeap.new,if_neg x];cases ho:h.obj s with
  |none=>rfl
  |some ob=>
   simp only[Option.bind_some];split
   .simp only[Option.map_some,PHeap.set];congr 2;funext y;by_cases hy:y=s
    .subst hy;simp[x]
    .simp[hy]
   .rfl
theorem zMm(cs:List PV):(h.new cs).next=h.next+1:=rfl
theorem zEg(cs:List PV):(h.new cs).top=h.top:=rfl
theorem zOV(cs:List PV)(s:Nat)(ds:List PV):(h.new cs).set s ds=if s=h.next then h.new ds else(h.set s ds).new cs:=by
 by_cases x:s=h.next
 .subst x;rw[if_pos rfl];simp only[PHeap.set,PHeap.new];congr 1;funext y;by_cases hy:y=h.next<;>simp[hy]
 .rw[if_neg x];simp only[PHeap.set,PHeap.new];congr 1;funext y;by_cases hy:y=s
  .subst hy;simp[x]
  .simp[hy]
theorem zAc(s:Nat)(cs ds:List PV):(h.set s cs).set s ds=h.set s ds:=by
 simp only[PHeap.set];congr 1;funext y;by_cases hy:y=s<;>simp[hy]
theorem zMl(s:Nat)(cs:List PV):(h.set s cs).next=h.next:=rfl
theorem zK8(s:Nat):(h.kill s).next=h.next:=rfl
theorem zOe(t:Nat):(h.up t).next=h.next:=rfl
theorem zBM(t:Nat):(h.up t).top=t:=rfl
theorem zQY(t:Nat)(cs:List PV):(h.up t).new cs=(h.new cs).up t:=rfl
theorem zQT(t s i:Nat):(h.up t).rd1 s i=h.rd1 s i:=rfl
theorem zRq(t s i n:Nat):(h.up t).rd s i n=h.rd s i n:=rfl
theorem zQX(t s:Nat):(h.up t).obj s=h.obj s:=rfl
theorem zRo(t s i:Nat)(vs:List PV):(h.up t).wr s i vs=(h.wr s i vs).map λh'=>h'.up t:=by
 simp only[PHeap.wr,PHeap.up];cases h.obj s with
 |none=>rfl
 |some cs=>simp only[Option.bind_some];split<;>rfl
theorem zMk(s t:Nat):(h.kill s).obj t=if t=s then none else h.obj t:=rfl
theorem zI(s:Nat)(cs:List PV)(t:Nat):(h.set s cs).obj t=if t=s then some cs else h.obj t:=rfl
theorem zMe(s t i:Nat):(h.kill s).rd1 t i=if t=s then none else h.rd1 t i:=by by_cases x:t=s<;>simp[PHeap.rd1,PHeap.kill,x]
theorem zOW(s t i n:Nat):(h.kill s).rd t i n=if t=s then none else h.rd t i n:=by by_cases x:t=s<;>simp[PHeap.rd,PHeap.kill,x]
theorem zOX(s:Nat)(cs:List PV)(t i:Nat):(h.set s cs).rd1 t i=if t=s then cs[i]? else h.rd1 t i:=by by_cases x:t=s<;>simp[PHeap.rd1,PHeap.set,x]
theorem zDt(s:Nat)(cs:List PV)(t i n:Nat):(h.set s cs).rd t i n=if t=s then(if i+n<=cs.length then some ((cs.drop i).take n)else none)else h.rd t i n:=by by_cases x:t=s<;>simp[PHeap.rd,PHeap.set,x]
theorem zQP(s:Nat)(cs:List PV)(i:Nat)(vs:List PV):(h.set s cs).wr s i vs=if i+vs.length<=cs.length/\vs.all PV.one=true then some (h.set s (cs.take i++vs++cs.drop (i+vs.length)))else none:=by
 simp only[PHeap.wr,PHeap.set,if_true,Option.bind_some];split
 .congr 2;funext y;by_cases hy:y=s<;>simp[hy]
 .rfl
end
def pw0:=And.intro @zPx <| And.intro @zL8 <| And.intro @zPz <| And.intro @zRV <| And.intro @zP0 <| And.intro @zN6 <| And.intro @zPy <| And.intro @zRW <| And.intro @zRP <| And.intro @RVp_q <| And.intro @RVp_e <| And.intro @zRS <| And.intro @DVp_q <| And.intro @DVp_e <| And.intro @zPD <| And.intro @zPC <| And.intro @zPF <| And.intro @zPE <| And.intro @zJP <| And.intro @zHt <| And.intro @zLB <| And.intro @zJQ <| And.intro @zHr <| And.intro @zHp <| And.intro @zHo <| And.intro @zHq <| And.intro @pv_t <| And.intro @pv_c <| And.intro @zOf <| @zMf
def pw1:=And.intro @zMg <| And.intro @qp_mv <| And.intro @zQM <| And.intro @zRn <| And.intro @qp_un <| And.intro @zQO <| And.intro @zJJ <| And.intro @zOS <| And.intro @zOR <| And.intro @zHf <| And.intro @zHe <| And.intro @zJL <| And.intro @zK4 <| And.intro @zRl <| And.intro @zMa <| And.intro @zRm <| And.intro @zOQ <| And.intro @zJI <| And.intro @zMZ <| And.intro @zJK <| And.intro @zQN <| And.intro @zRk <| And.intro @zQL <| And.intro @zPP <| And.intro @zSA <| And.intro @zLi <| And.intro @zPN <| And.intro @zLM <| And.intro @zNh <| And.intro @zJ8 <| @zJd
def pw2:=And.intro @zM6 <| And.intro @zNi <| And.intro @zRB <| And.intro @zRC <| And.intro @zPO <| And.intro @zLQ <| And.intro @zOy <| And.intro @of_bool <| And.intro @of_int <| And.intro @zRv <| And.intro @zQl <| And.intro @zQm <| And.intro @zQk <| And.intro @zRw <| And.intro @zRx <| And.intro @zQj <| And.intro @zOx <| And.intro @zQi <| And.intro @zOu <| And.intro @zOk <| And.intro @zOo <| And.intro @zOt <| And.intro @zOn <| And.intro @zOp <| And.intro @zOq <| And.intro @zOr <| And.intro @zOs <| And.intro @zOm <| And.intro @zOl <| @zLK
def pw3:=And.intro @zMz <| And.intro @zLL <| And.intro @zMy <| And.intro @zMx <| And.intro @zLJ <| And.intro @zJY <| And.intro @zLI <| And.intro @zJX <| And.intro @zJW <| And.intro @zJV <| And.intro @zJU <| And.intro @zJy <| And.intro @zNa <| And.intro @zQS <| And.intro @zQR <| And.intro @zLN <| And.intro @zJZ <| And.intro @zM9 <| And.intro @zOv <| And.intro @zOw <| And.intro @zQe <| And.intro @zLP <| And.intro @zLO <| And.intro @zGJ <| And.intro @zG4 <| And.intro @zM7 <| And.intro @zM8 <| And.intro @zJc <| And.intro @zHw <| @zQg
def pw4:=And.intro @zQf <| And.intro @zJb <| And.intro @zNA <| And.intro @zQh <| And.intro @zJa <| And.intro @zMp <| And.intro @zMo <| And.intro @zOh <| And.intro @zOg <| And.intro @zMn <| And.intro @zK9 <| And.intro @zL6 <| And.intro @zKI <| And.intro @zKJ <| And.intro @zJC <| And.intro @zMV <| And.intro @zJB <| And.intro @zK2 <| And.intro @zMT <| And.intro @zJD <| And.intro @zFJ <| And.intro @zHa <| And.intro @zHZ <| And.intro @zEf <| And.intro @zEe <| And.intro @zFL <| And.intro @zGH <| And.intro @zK0 <| And.intro @zG0 <| @zK1
def pw5:=And.intro @zHY <| And.intro @zFI <| And.intro @zGz <| And.intro @zFK <| And.intro @zKz <| And.intro @zJA <| And.intro @zHL <| And.intro @zHK <| And.intro @zKx <| And.intro @zKw <| And.intro @zI4 <| And.intro @zI7 <| And.intro @zOI <| And.intro @zM4 <| And.intro @zM5 <| And.intro @zM3 <| And.intro @zMs <| And.intro @zLA <| And.intro @zLE <| And.intro @zOc <| And.intro @zJT <| And.intro @zMj <| And.intro @zLC <| And.intro @zOa <| And.intro @zJR <| And.intro @zMh <| And.intro @zJS <| And.intro @zMi <| And.intro @zMu <| And.intro @zQV <| @zMv
def pw6:=And.intro @zQW <| And.intro @zLD <| And.intro @zOb <| And.intro @zMt <| And.intro @zQU <| And.intro @zLF <| And.intro @zOd <| And.intro @zLG <| And.intro @zCq <| And.intro @zBe <| And.intro @zBf <| And.intro @zMd <| And.intro @zDL <| And.intro @zDM <| And.intro @zG1 <| And.intro @zQa <| And.intro @zQZ <| And.intro @zOY <| And.intro @zAd <| And.intro @qa <| And.intro @zQQ <| And.intro @zMm <| And.intro @zEg <| And.intro @zOV <| And.intro @zAc <| And.intro @zMl <| And.intro @zK8 <| And.intro @zOe <| And.intro @zBM <| @zQY
def pw7:=And.intro @zQT <| And.intro @zRq <| And.intro @zQX <| And.intro @zRo <| And.intro @zMk <| And.intro @zI <| And.intro @zMe <| And.intro @zOW <| And.intro @zOX <| And.intro @zDt <| And.intro @zQP <| And.intro @zR <| And.intro @zT <| And.intro @zl <| And.intro @qK <| And.intro @List.map_cons.{0,0} <| And.intro @List.map_nil.{0,0} <| And.intro @List.length_cons.{0} <| And.intro @List.length_nil.{0} <| And.intro @List.getElem?_cons_zero.{0} <| And.intro @List.getElem?_cons_succ.{0} <| And.intro @List.take_succ_cons.{0} <| And.intro @List.take_zero.{0} <| And.intro @List.drop_succ_cons.{0} <| And.intro @List.drop_zero.{0} <| And.intro @List.take_nil.{0} <| And.intro @List.drop_nil.{0} <| And.intro @List.nil_append.{0} <| And.intro @List.cons_append.{0} <| @List.append_nil.{0}
def pw8:=And.intro @List.all_cons.{0} <| And.intro @List.all_nil.{0} <| And.intro @List.contains_cons.{0} <| And.intro @List.contains_nil.{0} <| And.intro @Option.map_some.{0,0} <| And.intro @Option.map_none.{0,0} <| And.intro @Option.bind_some.{0,0} <| And.intro @Option.bind_none.{0,0} <| And.intro @decide_true <| And.intro @decide_false <| And.intro @Bool.not_true <| And.intro @Bool.not_false <| And.intro @Bool.and_true <| And.intro @Bool.true_and <| And.intro @Bool.and_self <| And.intro @Bool.or_false <| And.intro @Bool.or_true <| And.intro @Bool.true_or <| And.intro @Bool.false_or <| And.intro @true_and <| And.intro @and_true <| And.intro @Bool.true_eq_false <| And.intro @Bool.false_eq_true <| And.intro @Nat.left_eq_add <| And.intro @Nat.add_eq_left <| And.intro @Nat.succ_ne_self <| And.intro @Nat.one_ne_zero <| And.intro @Nat.add_left_cancel_iff <| And.intro @Nat.add_assoc <| @Nat.mul_one
def pw9:=And.intro @Nat.zero_add <| And.intro @Nat.add_zero <| And.intro @vM <| And.intro @Nat.lt_add_one <| And.intro @Int.toNat_natCast <| And.intro @Int.natCast_nonneg <| And.intro @Int.ofNat_lt <| And.intro @Int.le_refl <| And.intro @zV <| And.intro @zW <| And.intro @zN <| And.intro @Nat.one_mul <| @Nat.zero_mul
def Z3:=And.intro pw0 <| And.intro pw1 <| And.intro pw2 <| And.intro pw3 <| And.intro pw4 <| And.intro pw5 <| And.intro pw6 <| And.intro pw7 <| And.intro pw8 <| And.intro pw9 <| And.intro @nm_eq <| And.intro @eq_self.{1} <| And.intro @Int.ofNat_le @List.getElem?_drop.{0}
end Go.Ab
set_option linter.unusedVariables false
set_option linter.unusedSimpArgs false
namespace Go.Ab
section
variable{P:Program}
@[congr] theorem cg_vp {c:IC} {Q:Exit->PEnv->PHeap->Prop} {e e':PEnv} {h h':PHeap} (h1:nm e=e') (h2:h=h'):vp P c Q e h=vp P c Q e' h':=by rw[nm_eq]at h1;rw[h1,h2]
@[congr] theorem zSk {aE:List II} {K:PEnv->PHeap->Prop} {e e':PEnv} {h h':PHeap} (h1:nm e=e') (h2:h=h'):RVp P aE e h K=RVp P aE e' h' K:=by rw[nm_eq]at h1;rw[h1,h2]
@[congr] theorem zSm {nb oD nr xB:Nat} {aE:List DI} {recs bY:List RecP} {K:PEnv->PHeap->Prop} {e e':PEnv} {h h':PHeap} (h0:nm nb=oD) (h4:nr=xB) (h1:recs=bY) (h2:e=e') (h3:h=h'):DVp P nb nr aE recs e h K=DVp P oD xB aE bY e' h' K:=by rw[nm_eq]at h0;rw[h0,h1,h2,h3,h4]
@[congr] theorem zSh {it:II} {K:PV->PHeap->Prop} {e e':PEnv} {h h':PHeap} (h1:nm e=e') (h2:h=h'):gep P it e h K=gep P it e' h' K:=by rw[nm_eq]at h1;rw[h1,h2]
@[congr] theorem cg_ep {op:IOp} {K:PV->PHeap->Prop} {e e':PEnv} {h h':PHeap} (h1:nm e=e') (h2:h=h'):ep P op e h K=ep P op e' h' K:=by rw[nm_eq]at h1;rw[h1,h2]
@[congr] theorem zSa {f:FuncId} {K:PV->PHeap->Prop} {args cq:List PV} {h h':PHeap} (h1:nm args=cq) (h2:h=h'):zA P f args h K=zA P f cq h' K:=by rw[nm_eq]at h1;rw[h1,h2]
@[congr] theorem zSU {n:Nat} {K:PV->PHeap->Prop} {x x' v v':PV} {h h':PHeap} (h0:nm x=x') (h1:v=v') (h2:h=h'):zFR n x v h K=zFR n x' v' h' K:=by rw[nm_eq]at h0;rw[h0,h1,h2]
@[congr] theorem zSc {sz b:Nat} {z:List AV} {K:PV->PHeap->Prop} {x x' v v':PV} {h h':PHeap} (h0:nm x=x') (h1:v=v') (h2:h=h'):pMake sz b z x v h K=pMake sz b z x' v' h' K:=by rw[nm_eq]at h0;rw[h0,h1,h2]
@[congr] theorem zSW {sz b:Nat} {z:List AV} {K:PV->PHeap->Prop} {x x' v v':PV} {h h':PHeap} (h0:nm x=x') (h1:v=v') (h2:h=h'):zFT sz b z x v h K=zFT sz b z x' v' h' K:=by rw[nm_eq]at h0;rw[h0,h1,h2]
@[congr] theorem zSV {K:PV->PHeap->Prop} {f f':PV} {args cq:List PV} {h h':PHeap} (h0:nm f=f') (h1:args=cq) (h2:h=h'):zFS P f args h K=zFS P f' cq h' K:=by rw[nm_eq]at h0;rw[h0,h1,h2]
@[congr] theorem zST {v v':PV} {a b:Prop} (h0:nm v=v'):Z8 v a b=Z8 v' a b:=by rw[nm_eq]at h0;rw[h0]
@[congr] theorem zSS {v v':PV} {b:Bool} {x y:Prop} (h0:nm v=v'):Zj v b x y=Zj v' b x y:=by rw[nm_eq]at h0;rw[h0]
end
def pis(xs:L3):List PV:=xs.map (.int .i64)
theorem zHn(x:Int)(xs:L3):pis (x::xs)=.int .i64 x::pis xs:=rfl
theorem zJ(xs:L3):(pis xs).length=xs.length:=by simp[pis]
theorem zL(xs:L3)(k:Nat):(pis xs)[k]? = (xs[k]?).map (.int .i64):=by simp[pis]
theorem zQc(xs:L3)(k:Nat)(x:Int):(pis xs).set k (.int .i64 x)=pis (xs.set k x):=by simp[pis,List.map_set]
theorem zFO(xs ys:L3):pis xs++pis ys=pis (xs++ys):=by simp[pis]
theorem zEi(xs:L3)(k:Nat):(pis xs).take k=pis (xs.take k):=by simp[pis,List.map_take]
theorem zOj(xs:L3)(k:Nat):(pis xs).drop k=pis (xs.drop k):=by simp[pis,List.map_drop]
theorem ZV(n:Nat)(x:Int):List.replicate n (PV.int .i64 x)=pis (List.replicate n x):=by simp[pis]
theorem zO(n:Nat)(xs:L3):Bels n (pis xs):=by
 induction xs with
 |nil=>trivial
 |cons x xs ih=>exact⟨trivial,ih⟩
theorem qM{xs:L3}{i:Nat}(hi:i<xs.length){x:Int}:(pis xs).take i++[.int .i64 x]++(pis xs).drop (i+1)=pis (xs.set i x):=by
 rw[<-zQc,List.set_eq_take_append_cons_drop,if_pos (by rw[zJ];exact hi),List.append_assoc,List.singleton_append]
theorem zEc{h:PHeap}{s:Nat}{cs:List PV}(hs:h.obj s=some cs):h.set s cs=h:=by
 cases h with
 |mk n t f=>
  simp only[PHeap.set];congr 1;funext y;by_cases hy:y=s
  .subst hy;simp at hs ⊢;exact hs.symm
  .simp[hy]
theorem take_set{α:Type}(xs:List α){i:Nat}(hi:i<xs.length)(v:α):xs.take i++v::xs.drop (i+1)=xs.set i v:=by
 rw[List.set_eq_take_append_cons_drop,if_pos hi]
theorem gi{α:Type}{xs:List α}{i:Nat}(hi:i<xs.length):xs[i]? = some xs[i]:=List.getElem?_eq_getElem hi
def sm(a:Int):Prop:=-4611686018427387904<=a/\a<=4611686018427387904
theorem sm.w{a:Int}(h:sm a):IntKind.i64.wrap a=a:=wrap64 (by have:=h.1;omega) (by have:=h.2;omega)
theorem mk8{n:Nat}(h:n<=4294967296):(n:Int)*((8:Nat):Int)<=140737488355328:=by omega
theorem mk24{n:Nat}(h:n<=4294967296):(n:Int)*((24:Nat):Int)<=140737488355328:=by omega
theorem mkL{n:Nat}(h:n<=4294967296):(n:Int)<=9223372036854775807:=by omega
def subm(k:Int)(xs ys:L3):L3:=List.zipWith (λx y=>x-k*y) xs ys
theorem zEG{k:Int}{xs ys:L3}(h:xs.length<=ys.length):(subm k xs ys).length=xs.length:=by simp[subm];omega
theorem zOA{k:Int}{xs ys:L3}{i:Nat}(h1:i<xs.length)(h2:i<ys.length):(subm k xs ys)[i]? = some (xs[i] - k*ys[i]):=by
 simp[subm,List.getElem?_zipWith,gi h1,gi h2]
def FI(v:PV)(xs:L3):Prop:=∃w a,v=.fz w a xs.length (pis xs)
def FL{α:Type}(R:PV->α->Prop)(v:PV)(xs:List α):Prop:=∃w a rows,v=.fz w a xs.length rows/\All2 R rows xs
abbrev FII:PV->L4->Prop:=FL FI
abbrev FIII:PV->L5->Prop:=FL FII
theorem FI.one{v:PV}{xs:L3}(h:FI v xs):v.one=true:=by obtain⟨w,a,rfl⟩:=h;rfl
theorem FI.cells{v:PV}{xs:L3}(h:FI v xs):v.cells=[v]:=by obtain⟨w,a,rfl⟩:=h;rfl
theorem FI.bel{v:PV}{xs:L3}(h:FI v xs)(n:Nat):Bel n v:=by obtain⟨w,a,rfl⟩:=h;trivial
theorem FL.one{α:Type}{R:PV->α->Prop}{v:PV}{xs:List α}(h:FL R v xs):v.one=true:=by obtain⟨w,a,r,rfl,_⟩:=h;rfl
theorem FL.cells{α:Type}{R:PV->α->Prop}{v:PV}{xs:List α}(h:FL R v xs):v.cells=[v]:=by obtain⟨w,a,r,rfl,_⟩:=h;rfl
theorem FL.bel{α:Type}{R:PV->α->Prop}{v:PV}{xs:List α}(h:FL R v xs)(n:Nat):Bel n v:=by obtain⟨w,a,r,rfl,_⟩:=h;trivial
theorem FI.sb{v:PV}{xs:L3}(h:FI v xs)(s o:Nat)(cs:List PV):sb s o cs v=v:=by obtain⟨w,a,rfl⟩:=h;rfl
theorem FL.sb{α:Type}{R:PV->α->Prop}{v:PV}{xs:List α}(h:FL R v xs)(s o:Nat)(cs:List PV):sb s o cs v=v:=by obtain⟨w,a,r,rfl,_⟩:=h;rfl
theorem All2.rowI{rows:List PV}{kL:L4}(h:All2 FI rows kL){k:Nat}(hk:k<kL.length):∃w a,rows[k]? = some (.fz w a kL[k].length (pis kL[k])):=by
 obtain⟨r,h1,w,a,rfl⟩:=h.get hk;exact⟨w,a,h1⟩
theorem All2.rowL{α:Type}{R:PV->α->Prop}{rows:List PV}{kL:List (List α)}(h:All2 (FL R) rows kL){k:Nat}(hk:k<kL.length):∃w a rs,rows[k]? = some (.fz w a kL[k].length rs)/\All2 R rs kL[k]:=by
 obtain⟨r,h1,w,a,rs,rfl,h2⟩:=h.get hk;exact⟨w,a,rs,h1,h2⟩
theorem All2.bels{α:Type}{R:PV->α->Prop}{n:Nat}{rows:List PV}{xs:List α}(h:All2 R rows xs)(hb:∀v x,R v x->Bel n v):Bels n rows:=by
 rw[zE8];intro c hc;obtain⟨k,hk,rfl⟩:=List.mem_iff_getElem.1 hc;exact hb _ _ (h.2 k _ (xs[k]'(by rw[<-h.1];exact hk)) (List.getElem?_eq_getElem hk) (List.getElem?_eq_getElem _))
theorem All2.bI{rows:List PV}{xs:L4}(h:All2 FI rows xs)(n:Nat):Bels n rows:=h.bels λ_ _ k=>k.bel n
theorem All2.bL{α:Type}{R:PV->α->Prop}{rows:List PV}{xs:List (List α)}(h:All2 (FL R) rows xs)(n:Nat):Bels n rows:=h.bels λ_ _ k=>k.bel n
theorem All2.take{α β:Type}{R:α->β->Prop}{as:List α}{bs:List β}(h:All2 R as bs)(k:Nat):All2 R (as.take k) (bs.take k):=by
 refine⟨by simp[h.1],λj a b ha hb=>?_⟩;rw[List.getElem?_take]at ha hb;split at ha
 .exact h.2 j a b ha (by simpa [*]using hb)
 .cases ha
theorem All2.drop{α β:Type}{R:α->β->Prop}{as:List α}{bs:List β}(h:All2 R as bs)(k:Nat):All2 R (as.drop k) (bs.drop k):=by
 refine⟨by simp[h.1],λj a b ha hb=>?_⟩;rw[List.getElem?_drop]at ha hb;exact h.2 _ a b ha hb
theorem All2.append{α β:Type}{R:α->β->Prop}{as cs:List α}{bs ds:List β}(h:All2 R as bs)(g:All2 R cs ds):All2 R (as++cs) (bs++ds):=by
 refine⟨by simp[h.1,g.1],λj a b ha hb=>?_⟩;rcases Nat.lt_or_ge j as.length with x|x
 .rw[List.getElem?_append_left x]at ha;rw[List.getElem?_append_left (by rw[<-h.1];exact x)]at hb;exact h.2 j a b ha hb
 .rw[List.getElem?_append_right x]at ha;rw[List.getElem?_append_right (by rw[<-h.1];exact x),<-h.1]at hb;exact g.2 _ a b ha hb
theorem zF{P:Program}{Q:Exit->PEnv->PHeap->Prop}{e:PEnv}{h:PHeap}{S:List Nat}{c:IC}(I:Nat->List PV->PHeap->Prop)(n:Nat)(h0:I n (S.map e) h)
  (round:∀n vs h,I n vs h->vp P c (λx e' h'=>match x with | .normal=>∃n',n'<n/\I n' (S.map e') h'|x=>Q x e' h') (PEnv.mk S vs) h):vp P (.loop S c) Q e h:=
 ⟨I,⟨n,.here h0⟩,λn vs h hI=>zAX c (λx e h k=>by cases x<;>first|exact k.imp λ_ q=>⟨q.1,.here q.2⟩|exact k) (round n vs h hI)⟩
theorem zAY{P:Program}{Q:Exit->PEnv->PHeap->Prop}{e:PEnv}{h:PHeap}{S:List Nat}{c:IC}(I:Nat->List PV->PHeap->Prop)(n:Nat)(h0:GL (I n) (S.map e) h)
  (round:∀n vs h,I n vs h->vp P c (λx e' h'=>match x with | .normal=>∃n',n'<n/\GL (I n') (S.map e') h'|x=>Q x e' h') (PEnv.mk S vs) h):vp P (.loop S c) Q e h:=⟨I,⟨n,h0⟩,round⟩
theorem iteI{c:Prop}[Decidable c]{A B:Prop}(h1:c->A)(h2:¬c->B):if c then A else B:=by
 by_cases h:c
 .rw[if_pos h];exact h1 h
 .rw[if_neg h];exact h2 h
theorem pkt{K:PV->PHeap->Prop}{h:PHeap}{p:Prop}[Decidable p](hk:K (.bool (decide p)) h)(hp:p):K (.bool true) h:=by
 rw[decide_eq_true hp]at hk;exact hk
theorem pkf{K:PV->PHeap->Prop}{h:PHeap}{p:Prop}[Decidable p](hk:K (.bool (decide p)) h)(hp:¬p):K (.bool false) h:=by
 rw[decide_eq_false hp]at hk;exact hk
theorem pke{K:PV->PHeap->Prop}{h:PHeap}{p q:Prop}[Decidable p][Decidable q](hk:K (.bool (decide p)) h)(hp:p↔q):K (.bool (decide q)) h:=by
 have:decide q=decide p:=decide_eq_decide.2 hp.symm
 rw[this];exact hk
theorem zD(U:PHeap)(cs:List PV):Keep U (U.new cs):=(Keep.refl U).new cs
theorem Keep.setN{σ0 σ1:PHeap}{cs:List PV}(a:Keep (σ0.new cs) σ1)(ds:List PV):Keep (σ0.new ds) (σ1.set σ0.next ds):=
 ⟨a.next,a.top,λt ht=>by
  by_cases e:t=σ0.next
  .subst e;simp[PHeap.set,PHeap.new]
  .have:=a.obj t ht
   simp only[PHeap.set,PHeap.new,if_neg e]at this ⊢;exact this⟩
theorem Keep.of{σ0 σ1:PHeap}{cs:List PV}(a:Keep (σ0.new cs) σ1):Keep σ0 σ1:=(zD σ0 cs).trans a
theorem Keep.rd{σ0 σ1:PHeap}(a:Keep σ0 σ1){s:Nat}(hs:s<σ0.next)(i n:Nat):σ1.rd s i n=σ0.rd s i n:=by simp only[PHeap.rd,a.obj s hs]
theorem zG{h:PHeap}{s:Nat}{cs:List PV}(ho:h.obj s=some cs)(i:Nat):h.rd1 s i=cs[i]?:=by simp[PHeap.rd1,ho]
theorem ZN{h:PHeap}{s:Nat}{cs:List PV}(ho:h.obj s=some cs)(i n:Nat):h.rd s i n=if i+n<=cs.length then some ((cs.drop i).take n)else none:=by simp[PHeap.rd,ho]
theorem Z9{h:PHeap}{s:Nat}{cs:List PV}(ho:h.obj s=some cs)(i:Nat)(vs:List PV):h.wr s i vs=if i+vs.length<=cs.length/\vs.all PV.one=true then some (h.set s (cs.take i++vs++cs.drop (i+vs.length)))else none:=by simp[PHeap.wr,ho]
def full(e:Nat)(cap:Cap)(n:Nat):Prop:=cap=.grown e\/cap=.known n
theorem full.ok{e n:Nat}{cap:Cap}(h:full e cap n):capOK cap n=true:=by
 rcases h with rfl|rfl
 .rfl
 .simp[capOK]
def PSl(b e:Nat)(h:PHeap)(v:PV)(n:Nat)(cs:List PV):Prop:=∃s cap,v=.sl s 0 n cap/\full e cap n/\h.obj s=some cs/\cs.length=n*e/\b<=s/\s<h.next
def PAcc(b e:Nat)(h:PHeap)(v:PV)(n:Nat)(cs:List PV):Prop:=
 (v=.fz true .nils 0 []/\n=0/\cs=[])\/PSl b e h v n cs
theorem PAcc.nil(b e:Nat)(h:PHeap):PAcc b e h (.fz true .nils 0 []) 0 []:=.inl ⟨rfl,rfl,rfl⟩
theorem PSl.own{b e n s:Nat}{h:PHeap}{cap:Cap}{cs:List PV}(hc:full e cap n)(ho:h.obj s=some cs)(hl:cs.length=n*e)(hb:b<=s)(hs:s<h.next):PSl b e h (.sl s 0 n cap) n cs:=⟨s,cap,rfl,hc,ho,hl,hb,hs⟩
theorem PSl.acc{b e n:Nat}{h:PHeap}{v:PV}{cs:List PV}(a:PSl b e h v n cs):PAcc b e h v n cs:=.inr a
theorem PSl.new(b e:Nat){h:PHeap}{n:Nat}{cs:List PV}(hl:cs.length=n*e)(hb:b<=h.next):PSl b e (h.new cs) (.sl h.next 0 n (.known n)) n cs:=⟨_,_,rfl,.inr rfl,by simp[PHeap.new],hl,hb,by simp[PHeap.new]⟩
theorem PSl.keep{b e n:Nat}{h h':PHeap}{v:PV}{cs:List PV}(a:PSl b e h v n cs)(hk:Keep h h'):PSl b e h' v n cs:=by
 obtain⟨s,cap,rfl,h1,h2,h3,h4,h5⟩:=a;exact⟨s,cap,rfl,h1,by rw[hk.obj s h5];exact h2,h3,h4,Nat.lt_of_lt_of_le h5 hk.next⟩
theorem PSl.one{b e n:Nat}{h:PHeap}{v:PV}{cs:List PV}(a:PSl b e h v n cs):v.one=true:=by obtain⟨s,cap,rfl,_⟩:=a;rfl
theorem PSl.cells{b e n:Nat}{h:PHeap}{v:PV}{cs:List PV}(a:PSl b e h v n cs):v.cells=[v]:=by obtain⟨s,cap,rfl,_⟩:=a;rfl
theorem PAcc.keep{b e n:Nat}{h h':PHeap}{v:PV}{cs:List PV}(a:PAcc b e h v n cs)(hk:Keep h h'):PAcc b e h' v n cs:=by
 rcases a with ⟨rfl,rfl,rfl⟩|⟨s,cap,rfl,h1,h2,h3,h4,h5⟩
 .exact PAcc.nil _ _ _
 .exact .inr ⟨s,cap,rfl,h1,by rw[hk.obj s h5];exact h2,h3,h4,Nat.lt_of_lt_of_le h5 hk.next⟩
theorem PAcc.one{b e n:Nat}{h:PHeap}{v:PV}{cs:List PV}(a:PAcc b e h v n cs):v.one=true:=by
 rcases a with ⟨rfl,rfl,rfl⟩|⟨s,cap,rfl,_⟩<;>rfl
theorem PAcc.cells{b e n:Nat}{h:PHeap}{v:PV}{cs:List PV}(a:PAcc b e h v n cs):v.cells=[v]:=by
 rcases a with ⟨rfl,rfl,rfl⟩|⟨s,cap,rfl,_⟩<;>rfl
theorem PAcc.len{b e n:Nat}{h:PHeap}{v:PV}{cs:List PV}(a:PAcc b e h v n cs):plen v=some n:=by
 rcases a with ⟨rfl,rfl,rfl⟩|⟨s,cap,rfl,_⟩<;>rfl
theorem PSl.app{σb h:PHeap}{b e bytes n m:Nat}{v x:PV}{cs news:List PV}{K:PV×PHeap->Prop}(hk:Keep σb h)(hb:b<=σb.next)(a:PSl σb.next e h v n cs)(hx:plen x=some m)(hf:m≠0->QF e h x m=some news)(hl:news.length=m*e)
  (h1:(n+m)*bytes<=140737488355328) (h2:n+m<=4611686018427387904) (k:∀v' h',Keep σb h'->PSl σb.next e h' v' (n+m) (cs++news)->K (v',h')):optK (Zb e bytes h v x) K:=by
 rw[zAL,hx];simp only[Option.bind_some];obtain⟨s,cap,rfl,hc,q2,q3,q4,q5⟩:=a;by_cases h0:m=0
 .rw[if_pos h0];subst h0
  have:news=[]:=List.eq_nil_of_length_eq_zero (by omega)
  subst this;rcases hc with rfl|rfl
  .refine Zq rfl (k _ _ hk ?_);rw[List.append_nil,Nat.add_zero];exact⟨s,_,rfl,.inl rfl,q2,q3,q4,q5⟩
  .rw[zJN,if_pos (vM _)];refine Zq rfl (k _ _ hk ?_);rw[List.append_nil,Nat.add_zero];exact⟨s,_,rfl,.inr rfl,q2,q3,q4,q5⟩
 .rw[if_neg h0,hf h0];simp only[Option.bind_some];have hn:=hk.next;rcases hc with rfl|rfl
  .rw[zAm,if_pos ⟨h1,h2,rfl⟩,q2];simp only[Option.bind_some];rw[if_pos (by omega),List.drop_zero];refine Zq rfl (k _ _ ((hk.kill q4).new _) ?_);rw[List.take_of_length_le (by omega)];exact⟨h.next,_,rfl,.inl rfl,by simp[PHeap.new,PHeap.kill],by rw[List.length_append,q3,hl,Nat.add_mul],hn,by simp[PHeap.new,PHeap.kill]⟩
  .rw[zAl,if_neg (by omega),if_pos ⟨h1,h2⟩,ZN q2,if_pos (by omega),List.drop_zero,List.take_of_length_le (by omega)];simp only[Option.map_some];refine Zq rfl (k _ _ (hk.new _) ?_);exact⟨h.next,_,rfl,.inl rfl,by simp[PHeap.new],by rw[List.length_append,q3,hl,Nat.add_mul],hn,by simp[PHeap.new]⟩
theorem PAcc.app{σb h:PHeap}{b e bytes n m:Nat}{v x:PV}{cs news:List PV}{K:PV×PHeap->Prop}(hk:Keep σb h)(hb:b<=σb.next)(a:PAcc σb.next e h v n cs)(hx:plen x=some m)(hf:m≠0->QF e h x m=some news)(hl:news.length=m*e)
  (h1:(n+m)*bytes<=140737488355328) (h2:n+m<=4611686018427387904) (k:∀v' h',Keep σb h'->PAcc σb.next e h' v' (n+m) (cs++news)->(0<n+m->PSl σb.next e h' v' (n+m) (cs++news))->K (v',h')):optK (Zb e bytes h v x) K:=by
 rcases a with ⟨rfl,rfl,rfl⟩|a
 .rw[zAL,hx];simp only[Option.bind_some];by_cases h0:m=0
  .rw[if_pos h0];subst h0
   have:news=[]:=List.eq_nil_of_length_eq_zero (by omega)
   subst this;exact Zq rfl (k _ _ hk (PAcc.nil _ _ _) (by omega))
  .rw[if_neg h0,hf h0];simp only[Option.bind_some];rw[zFQ,if_pos ⟨by simpa using h1,by omega⟩];have hp:PSl σb.next e (h.new news) (.sl h.next 0 m (.grown e)) m news:=⟨h.next,_,rfl,.inl rfl,by simp[PHeap.new],hl,hk.next,by simp[PHeap.new]⟩
   refine Zq rfl (k _ _ (hk.new _) ?_ ?_)
   .rw[List.nil_append,Nat.zero_add];exact .inr hp
   .rw[List.nil_append,Nat.zero_add];exactλ_=>hp
 .exact PSl.app hk hb a hx hf hl h1 h2 λv' h' k1 k2=>k v' h' k1 (.inr k2) λ_=>k2
theorem PAcc.push{σb h:PHeap}{bytes n:Nat}{v x:PV}{cs:List PV}{K:PV×PHeap->Prop}(hk:Keep σb h)(a:PAcc σb.next 1 h v n cs) 
  (h1:(n+1)*bytes<=140737488355328) (h2:n+1<=4611686018427387904) (k:∀v' h',Keep σb h'->PSl σb.next 1 h' v' (n+1) (cs++[x])->K (v',h')):optK (Zb 1 bytes (h.new [x]) v (.sl h.next 0 1 (.known 1))) K:=
 PAcc.app (news:=[x]) (m:=1) (hk.new _) (vM _) (a.keep (zD _ _)) rfl (λ_=>by simp[Qs,zAd]) rfl h1 h2 λv' h' k1 _ k3=>k v' h' k1 (k3 (by omega))
theorem PSl.push{σb h:PHeap}{bytes n:Nat}{v x:PV}{cs:List PV}{K:PV×PHeap->Prop}(hk:Keep σb h)(a:PSl σb.next 1 h v n cs)
  (h1:(n+1)*bytes<=140737488355328) (h2:n+1<=4611686018427387904) (k:∀v' h',Keep σb h'->PSl σb.next 1 h' v' (n+1) (cs++[x])->K (v',h')):optK (Zb 1 bytes (h.new [x]) v (.sl h.next 0 1 (.known 1))) K:=
 PAcc.push hk a.acc h1 h2 k
theorem PSl.cat{σb h:PHeap}{bytes n m:Nat}{w:Bool}{av:AV}{v:PV}{cs news:List PV}{K:PV×PHeap->Prop}(hk:Keep σb h)(a:PSl σb.next 1 h v n cs)(hl:news.length=m)
  (h1:(n+m)*bytes<=140737488355328) (h2:n+m<=4611686018427387904) (k:∀v' h',Keep σb h'->PSl σb.next 1 h' v' (n+m) (cs++news)->K (v',h')):optK (Zb 1 bytes h v (.fz w av m news)) K:=
 PSl.app (b:=0) (news:=news) (m:=m) hk (Nat.zero_le _) a rfl (λh0=>by rw[zMr,if_neg h0,if_pos ⟨vM _,by omega,by omega⟩,List.take_of_length_le (by omega)]) (by omega) h1 h2 k
theorem PSl.fin{U h:PHeap}{e n:Nat}{v:PV}{cs:List PV}{K:PV->PHeap->Prop}(hk:Keep U h)(a:PSl U.next e h v n cs)(hb:Bels 0 cs)(k:∀o cap,K (.fz true (.sl o 0 n cap) n cs) U):Gh U K v h:=by
 obtain⟨s,cap,rfl,hc,q2,q3,q4,q5⟩:=a;exact Gh.finF hk q2 q4 hb hc.ok λo=>k _ _
theorem PSl.out{U h:PHeap}{e n:Nat}{v:PV}{cs:List PV}{K:PV->PHeap->Prop}(hk:Keep U h)(a:PSl U.next e h v n cs)(hb:Bels U.next cs)(k:∀cap,full e cap n->K (.sl U.next 0 n cap) (U.new cs)):Gh U K v h:=by
 obtain⟨s,cap,rfl,hc,q2,q3,q4,q5⟩:=a;exact Gh.finS hk q2 q4 hb (k cap hc)
theorem PAcc.fin{U h:PHeap}{e n:Nat}{v:PV}{cs:List PV}{K:PV->PHeap->Prop}(hk:Keep U h)(a:PAcc U.next e h v n cs)(hb:Bels 0 cs)(k:∀a,K (.fz true a n cs) U):Gh U K v h:=by
 rcases a with ⟨rfl,rfl,rfl⟩|⟨s,cap,rfl,hc,q2,q3,q4,q5⟩
 .exact Gh.fin0 hk trivial (k _)
 .exact Gh.finF hk q2 q4 hb hc.ok λo=>k _
theorem zA.fz{P:Program}{f:FuncId}{args:List PV}{U:PHeap}{K:PV->PHeap->Prop}{l e:Nat}{cs:List PV}(c:∀K':PV->PHeap->Prop,(∀cap,full e cap l->K' (.sl U.next 0 l cap) (U.new cs))->zA P f args U K')(hb:Bels 0 cs)
  (k:∀o cap,K (.fz true (.sl o 0 l cap) l cs) U):zA P f args U K:=
 zA.gh (c _ λcap hc=>Gh.finF (zD U cs) (by simp[PHeap.new]) (vM _) hb hc.ok λo=>k o cap)
def ResI(U:PHeap)(K:PV->PHeap->Prop)(xs:L3):Prop:=(xs=[]->K (.fz true .nils 0 []) U)/\∀cap,full 1 cap xs.length->K (.sl U.next 0 xs.length cap) (U.new (pis xs))
theorem zA.fzI{P:Program}{f:FuncId}{args:List PV}{U:PHeap}{K:PV->PHeap->Prop}{xs:L3}(c:∀K':PV->PHeap->Prop,ResI U K' xs->zA P f args U K')(k:∀a,K (.fz true a xs.length (pis xs)) U):zA P f args U K:=
 zA.gh (c _ ⟨λh0=>by subst h0;exact Gh.ret (k _),λcap hc=>Gh.finF (zD U _) (by simp[PHeap.new]) (vM _) (zO _ _) hc.ok λo=>k _⟩)
theorem zA.fzN{P:Program}{f:FuncId}{args:List PV}{U:PHeap}{K:PV->PHeap->Prop}{xs:L3}{n:Nat}(hl:xs.length=n)(c:∀K':PV->PHeap->Prop,ResI U K' xs->zA P f args U K')(k:∀a,K (.fz true a n (pis xs)) U):zA P f args U K:=by
 subst hl;exact zA.fzI c k
theorem PAcc.res{U h:PHeap}{n:Nat}{v:PV}{xs:L3}{K:PV->PHeap->Prop}(hk:Keep U h)(hn:n=xs.length)(a:PAcc U.next 1 h v n (pis xs))(k:ResI U K xs):Gh U K v h:=by
 subst hn;rcases a with ⟨rfl,h0,h1⟩|a
 .exact Gh.fin0 hk trivial (k.1 (List.eq_nil_of_length_eq_zero h0))
 .exact a.out hk (zO _ _) k.2
abbrev qI(d:Nat)(o:IOp):II:=⟨some d,o,true,none⟩
abbrev eI(d:Nat)(o:IOp):II:=⟨some d,o,false,none⟩
abbrev nI(o:IOp):II:=⟨none,o,false,none⟩
abbrev qD(d:Nat)(o:IOp)(i:Nat):DI:=⟨⟨some d,o,true,none⟩,i,[]⟩
abbrev eD(d:Nat)(o:IOp)(i:Nat)(c:List Nat):DI:=⟨⟨some d,o,false,none⟩,i,c⟩
end Go.Ab
set_option linter.unusedVariables false
set_option linter.unusedSimpArgs false
namespace Go.Ab
open Go.ChangeShapes Go.WideShapes Go.RowKit Go.Deep
variable{w0 W:World}{j:Inj}{h h':AHeap}{H:Type}{enc:TypeId×Value->H}{P:Program}{α:Type}
abbrev zlt(h:AHeap):Nat->Prop:=λo=>o<h.next
theorem Ext.voks{pvs:List PV}{n:Nat}(e:Ext h h')(hv:VOKs (zlt h) h n pvs):VOKs (zlt h') h' n pvs:=hv.mono (λo ho=>⟨Nat.lt_of_lt_of_le ho e.next,e.obj o ho⟩) (vM _)
theorem Ext.vok{pv:PV}{n:Nat}(e:Ext h h')(hv:VOK (zlt h) h n pv):VOK (zlt h') h' n pv:=hv.mono (λo ho=>⟨Nat.lt_of_lt_of_le ho e.next,e.obj o ho⟩) (vM _)
theorem MR.name(m:MR W.heap.size w0 j h W)(l:Loc):MR W.heap.size w0 (j.put h.next l) ⟨h.next+1,h.obj⟩ W/\j.le (j.put h.next l)/\Ext h ⟨h.next+1,h.obj⟩:=by
 have hle:=Inj.le_put m l;have mY:h.obj h.next=none:=(m.fresh _ (vM _)).1;have conv:∀{o:Nat} {ob:AObj} {l':Loc},h.obj o=some ob->(j.put h.next l) o=some l'->j o=some l':=λ{o ob l'} ho hl=>by
  have:o≠h.next:=λe=>by subst e;rw[mY]at ho;cases ho
  simpa [Inj.put,this]using hl
 refine⟨⟨m.below,m.bnd,λo ho=>?_,λo ob l' ho hl=>?_,λo o' x x' l1 l2 ai ho cn hl aX hr=>m.apart o o' x x' l1 l2 ai ho cn (conv ho hl) (conv cn aX) hr⟩,hle,⟨by simp,λ_ _=>rfl,λo ho=>m.wf o (by simp at ho;omega)⟩⟩
 .simp only at ho;refine⟨m.wf o (by omega),?_⟩;simp only[Inj.put];rw[if_neg (by omega)];exact(m.fresh o (by omega)).2
 .obtain⟨a,cur,ty,fz,b,c,d⟩:=m.obj o ob l' ho (conv ho hl);exact⟨a,cur,ty,fz,b,λi v hi=>by obtain⟨cv,x,y⟩:=c i v hi;exact⟨cv,x,VI.mono hle _ _ y⟩,d⟩
def Lay1(enc:TypeId×Value->H)(P:Program)(W:World)(t:TypeId)(R:PV->α->Prop):Prop:=∀(w0:World) (j:Inj) (h:AHeap) (held:Bool) (fuel:Nat) (v:Value) (x:DataW H×List MemPlace),MR W.heap.size w0 j h W->
 DataW.trod enc P W 0 (λ_=>true) held fuel t [v]=some x->∃(j':Inj) (h':AHeap) (pv:PV) (a:α),MR W.heap.size w0 j' h' W/\j.le j'/\Ext h h'/\VI j' (er idz pv) v/\VOK (zlt h') h' 0 pv/\pv.one=true/\R pv a
theorem zQy{t:TypeId}{k:IntKind}(ht:P.underlying t=some (.int k)):Lay1 enc P W t (λpv (n:Int)=>pv=.int k n):=by
 intro w0 j h held fuel v x m hx;obtain⟨n,hn,_⟩:=DataW.trod_int ht hx;simp only[List.cons.injEq,and_true]at hn;subst hn;exact⟨j,h,.int k n,n,m,Inj.le.refl _,Ext.refl m.wf,rfl,trivial,rfl,rfl⟩
theorem Lay1.cells{e:TypeId}{R:PV->α->Prop}(L:Lay1 enc P W e R){V:Nat->Value}{D:Nat->DataW H}{Pl:Nat->List MemPlace}{held:Bool}{fuel:Nat}{w0:World}:∀(n:Nat) {j:Inj} {h:AHeap},MR W.heap.size w0 j h W->
  (∀i,i<n->DataW.trod enc P W 0 (λ_=>true) held fuel e [V i]=some (D i,Pl i))->
  ∃(j':Inj) (h':AHeap) (pvs:List PV) (as:List α),MR W.heap.size w0 j' h' W/\j.le j'/\Ext h h'/\pvs.length=n/\(∀i pv,pvs[i]? = some pv->VI j' (er idz pv) (V i))/\VOKs (zlt h') h' 0 pvs/\pvs.all PV.one=true/\All2 R pvs as
 |0,j,h,m,_=>⟨j,h,[],[],m,Inj.le.refl _,Ext.refl m.wf,rfl,λi pv hi=>(by simp at hi),trivial,rfl,All2.nil _⟩
 |n+1,j,h,m,hx=>by
  obtain⟨j1,h1,pvs,as,m1,l1,e1,hl,hv,ho,aK,hr⟩:=Lay1.cells L n m λi hi=>hx i (by omega);obtain⟨j2,h2,pv,a,m2,l2,e2,v2,o2,tM,r2⟩:=L w0 j1 h1 held fuel (V n) _ m1 (hx n (by omega));refine⟨j2,h2,pvs++[pv],as++[a],m2,l1.trans l2,e1.trans e2,by simp[hl],λi yY hi=>?_,(e2.voks ho).append ⟨o2,trivial⟩,by simp[aK,tM],hr.snoc r2⟩;rcases Nat.lt_trichotomy i n with x|x|x
  .rw[List.getElem?_append_left (by omega)]at hi;exact VI.mono l2 _ _ (hv i yY hi)
  .subst x;rw[List.getElem?_append_right (by omega)]at hi;simp[hl]at hi;subst hi;exact v2
  .rw[List.getElem?_eq_none (by simp;omega)]at hi;cases hi
theorem addr_add(a:Addr)(i:Nat):(a.add i).block=a.block:=by unfold Addr.add;split<;>rfl
theorem zDU{t e:TypeId}(ht:P.underlying t=some (.slice e))(hc:P.cellsOf e=1){R:PV->α->Prop}(L:Lay1 enc P W e R):Lay1 enc P W t (λv (xs:List α)=>FL R v xs/\xs.length<=9223372036854775807):=by
 intro w0 j h held fuel v x m hx;rcases open_slice1 ht hc hx with ⟨hv,rfl⟩|⟨a,len,c0,cap,n,V,D,Pl,hv,_,hl,hm,xZ,rfl,dt⟩
 .simp only[List.cons.injEq,and_true]at hv;subst hv;exact⟨j,h,.fz true .nils 0 [],[],m,Inj.le.refl _,Ext.refl m.wf,rfl,⟨.inl ⟨rfl,rfl,rfl⟩,trivial⟩,rfl,⟨true,.nils,[],rfl,All2.nil _⟩,by simp⟩
 simp only[if_true]at xZ;subst xZ;simp only[List.cons.injEq,and_true]at hv;subst hv;have fZ:maxLen=9223372036854775807:=rfl;by_cases h0:cap=0
 .subst h0;obtain rfl:len=0:=by omega
  obtain⟨m',l',e'⟩:=m.name ⟨0,0,0⟩;exact⟨_,_,.fz false (.sl h.next 0 0 (.known 0)) 0 [],[],m',l',e',⟨⟨0,0,0⟩,a,by simp[Inj.put],rfl,.inr ⟨rfl,rfl⟩⟩,⟨.inr ⟨h.next,0,.known 0,rfl,by simp[zlt],.inl rfl,λc hc=>by cases hc;exact vM _,by simp⟩,trivial⟩,rfl,⟨false,_,[],rfl,All2.nil _⟩,by simp⟩
 obtain⟨hs,cur,ty,fz,hb,_⟩:=zKj (dt 0 (by omega)).1;obtain⟨blk,off,spot⟩:=a;have pe:spot=none:=by simpa [Addr.add]using hs
 subst pe;have iT:W.heap[blk]? = some (.cells cur ty fz):=by simpa [Addr.add]using hb
 have wm:=zSL iT;obtain⟨j1,h1,pvs,as,m1,l1,e1,kE,eY,la,aK,hr⟩:=L.cells len m λi hi=>(dt i (by omega)).2;have m2:=m1.lay (cells:=ers idz pvs) (l:=⟨blk,off,0⟩) (by rw[zD2 la];exact aK) wm iT (by
  intro i v hi;rw[zAh]at hi;obtain⟨pv,xT,rfl⟩:=Option.map_eq_some_iff.1 hi;have aI:i<len:=by rw[<-kE];exact(List.getElem?_eq_some_iff.1 xT).1
  obtain⟨_,lJ,kN,r8,dw,iR⟩:=zKj (dt i (by omega)).1;rw[addr_add]at dw;rw[iT]at dw;cases dw;rw[show((⟨blk,off,none⟩:Addr).add i).off=off+i by unfold Addr.add;split<;>simp_all]at iR;exact⟨_,iR,eY i pv xT⟩)
 have e2:=Ext.new m1.wf ⟨false,ers idz pvs⟩;have cM:=hr.1;refine⟨_,_,.fz false (.sl h1.next 0 len (.known cap)) len pvs,as,m2,l1.trans (Inj.le_put m1 _),e1.trans e2,⟨⟨blk,off,0⟩,_,by simp[Inj.put],rfl,.inl rfl⟩,⟨.inr ⟨h1.next,0,.known cap,rfl,by simp[zlt,AHeap.new],.inr (zBc (zLS _) rfl),λc hc=>by cases hc;exact hl,by simp⟩,e2.voks la⟩,rfl,⟨false,_,pvs,by rw[<-cM,kE],hr⟩,by omega⟩
theorem FL.ints{v:PV}{xs:L3}(h:FL (λpv (n:Int)=>pv=.int .i64 n) v xs):FI v xs:=by
 obtain⟨w,a,rows,rfl,hr⟩:=h;refine⟨w,a,?_⟩;congr 1;apply List.ext_getElem?;intro k;rw[zL];rcases Nat.lt_or_ge k xs.length with x|x
 .obtain⟨pv,h1,h2⟩:=hr.get x;rw[h1,gi x,h2];rfl
 .rw[List.getElem?_eq_none (by rw[hr.1];exact x),List.getElem?_eq_none x];rfl
theorem All2.all{β γ:Type}{R:β->γ->Prop}{as:List β}{bs:List γ}(h:All2 R as bs){p:γ->Prop}(hp:∀a b,R a b->p b):∀b∈bs,p b:=by
 intro b hb;obtain⟨k,hk,rfl⟩:=List.mem_iff_getElem.1 hb;obtain⟨a,_,hr⟩:=h.get hk;exact hp _ _ hr
theorem FL.imp{R R':PV->α->Prop}{v:PV}{xs:List α}(h:FL R v xs)(hr:∀v x,R v x->R' v x):FL R' v xs:=by
 obtain⟨w,a,rows,rfl,h⟩:=h;exact⟨w,a,rows,rfl,h.mono hr⟩
theorem FL.all{R:PV->α->Prop}{v:PV}{xs:List α}(h:FL R v xs){p:α->Prop}(hp:∀v x,R v x->p x):∀x∈xs,p x:=by
 obtain⟨w,a,rows,rfl,h⟩:=h;exact h.all hp
theorem zO6{t e:TypeId}(ht:P.underlying t=some (.slice e))(hc:P.cellsOf e=1)(he:P.underlying e=some (.int .i64)):Lay1 enc P W t (λv (xs:L3)=>FI v xs/\xs.length<=9223372036854775807):=by
 intro w0 j h held fuel v x m hx;obtain⟨j',h',pv,a,g1,g2,g3,g4,g5,g6,g7,g8⟩:=zDU ht hc (zQy he) w0 j h held fuel v x m hx;exact⟨j',h',pv,a,g1,g2,g3,g4,g5,g6,g7.ints,g8⟩
def PHeap.start(h:AHeap):PHeap:=⟨0,h.next,λ_=>none⟩
theorem zMQ(hw:HWF h):Rel idz (zlt h) (PHeap.start h) h:=⟨hw,λ_ ho=>ho,vM _,λ_ _=>rfl,λ_ _ ho=>(by cases ho),λ_ _ _ _ ho=>(by cases ho)⟩
end Go.Ab
set_option linter.unusedVariables false
set_option linter.unusedSimpArgs false
namespace Go.Ab
theorem PAcc.pos{b e n:Nat}{h:PHeap}{v:PV}{cs:List PV}(a:PAcc b e h v n cs)(hn:0<n):PSl b e h v n cs:=by
 rcases a with ⟨_,h0,_⟩|a
 .omega
 .exact a
theorem PAcc.appS{σb h:PHeap}{e bytes n m:Nat}{v x:PV}{rows news:List PV}{K:PV×PHeap->Prop}(hk:Keep σb h)(a:PAcc σb.next e h v n rows)(hx:plen x=some m)(hm:m≠0)(hf:QF e h x m=some news)(hl:news.length=m*e)
  (h1:(n+m)*bytes<=140737488355328) (h2:n+m<=4611686018427387904)
  (k:∀v' h',Keep σb h'->PSl σb.next e h' v' (n+m) (rows++news)->(∀t,t<h.next->(∀off l c,v≠.sl t off l c)->h'.obj t=h.obj t)->(∀t,t<h.next->∀off l c,v'≠.sl t off l c)->h.next<h'.next->K (v',h')):optK (Zb e bytes h v x) K:=by
 rw[zAL,hx];simp only[Option.bind_some];rw[if_neg hm,hf];simp only[Option.bind_some];have hn:=hk.next;have nw:∀t,t<h.next->∀(off l:Nat) (c:Cap) (m':Nat) (c':Cap),PV.sl h.next 0 m' c'≠.sl t off l c:=λt ht off l c m' c' e=>by
  simp only[PV.sl.injEq]at e;omega
 rcases a with ⟨rfl,rfl,rfl⟩|⟨t,c,rfl,hc,q2,q3,q4,q5⟩
 .rw[zFQ,if_pos ⟨by simpa using h1,by omega⟩];refine Zq rfl (k _ _ (hk.new _) ⟨_,_,by rw[Nat.zero_add],.inl rfl,by simp[PHeap.new],by simpa using hl,hn,by simp[PHeap.new]⟩ (λt ht _=>?_) (λt ht off l c=>nw t ht off l c _ _) (Nat.lt_succ_self _));rw[qa,if_neg (by omega)]
 .rcases hc with rfl|rfl
  .rw[zAm,if_pos ⟨h1,h2,rfl⟩,q2];simp only[Option.bind_some];rw[if_pos (by omega),List.drop_zero,List.take_of_length_le (by omega)];refine Zq rfl (k _ _ ((hk.kill q4).new _) ⟨_,_,rfl,.inl rfl,by simp[PHeap.new,PHeap.kill],by rw[List.length_append,q3,hl,Nat.add_mul],hn,by simp[PHeap.new,PHeap.kill]⟩ (λu hu ai=>?_) (λu hu off l c=>nw u hu off l c _ _) (Nat.lt_succ_self _));rw[qa,if_neg (by simp only[PHeap.kill];omega)]
   show(if u=t then none else _)=_
   rw[if_neg λe=>ai 0 n _ (by rw[e])]
  .rw[zAl,if_neg (by omega),if_pos ⟨h1,h2⟩,ZN q2,if_pos (by omega),List.drop_zero,List.take_of_length_le (by omega)];simp only[Option.map_some];refine Zq rfl (k _ _ (hk.new _) ⟨_,_,rfl,.inl rfl,by simp[PHeap.new],by rw[List.length_append,q3,hl,Nat.add_mul],hn,by simp[PHeap.new]⟩ (λu hu ai=>?_) (λu hu off l c=>nw u hu off l c _ _) (Nat.lt_succ_self _));rw[qa,if_neg (by omega)]
theorem PAcc.pushS{σb h:PHeap}{e bytes n:Nat}{v:PV}{rows news:List PV}{K:PV×PHeap->Prop}(hk:Keep σb h)(a:PAcc σb.next e h v n rows)(hl:news.length=e)(h1:(n+1)*bytes<=140737488355328)(h2:n+1<=4611686018427387904)
  (k:∀v' h',Keep σb h'->PSl σb.next e h' v' (n+1) (rows++news)->(∀t,t<h.next->(∀off l c,v≠.sl t off l c)->h'.obj t=h.obj t)->(∀t,t<h.next->∀off l c,v'≠.sl t off l c)->h.next<h'.next->K (v',h')):optK (Zb e bytes (h.new news) v (.sl h.next 0 1 (.known 1))) K:=
 PAcc.appS (m:=1) (hk.new _) (a.keep (zD _ _)) rfl (by omega) (by rw[Qs,if_neg (by omega),if_pos (vM _),zAd,if_pos rfl,if_pos (by omega),List.drop_zero,List.take_of_length_le (by omega)]) (by omega) h1 h2
  λv' h' k1 k2 k3 k4 k5=>k v' h' k1 k2 (λt ht ai=>by rw[k3 t (Nat.lt_succ_of_lt ht) ai,qa,if_neg (by omega)]) (λt ht=>k4 t (Nat.lt_succ_of_lt ht)) (Nat.lt_trans (Nat.lt_succ_self _) k5)
end Go.Ab
set_option linter.unusedVariables false
set_option linter.unusedSimpArgs false
set_option linter.defProp false
namespace Go.Ab
variable{P:Program}{ι ι':Nat->Nat}{Z Z':Nat->Prop}{h h' cN:AHeap}{U σ':PHeap}{n:Nat}{K:PV->PHeap->Prop}{L L':List (Nat×List PV)}
mutual
def ead:PV->List Nat
 | .fz _ a _ cs=>bif cs.isEmpty then []else match a with | .sl o _ _ _=>o::eads cs|_=>[]
 | .fp a cs=>bif cs.isEmpty then []else match a with | .ptr o _=>o::eads cs|_=>[]
 | .clo _ a b=>eads a++eads b
 | .agg cs=>eads cs
 | .tup cs=>eads cs
 |_=>[]
def eads:List PV->List Nat
 |[]=>[]
 |c::cs=>ead c++eads cs
end
mutual
def rm(L:List (Nat×List PV)):PV->PV
 | .fz w a len cs=>bif cs.isEmpty then .fz w a len cs else
  match a with
  | .sl o off l cap=>
   match L.lookup o with
   |some ms=>bif w then .fz true (.sl o off l cap) len ms else .fp (.sl o off l cap) []
   |none=>.fz w (.sl o off l cap) len (rms L cs)
  |a=>.fz w a len cs
 | .fp a cs=>bif cs.isEmpty then .fp a cs else
  match a with
  | .ptr o i=>
   match L.lookup o with
   |some _=>.fp (.ptr o i) []
   |none=>.fp (.ptr o i) (rms L cs)
  |a=>.fp a cs
 | .clo f a b=>.clo f (rms L a) (rms L b)
 | .agg cs=>.agg (rms L cs)
 | .tup cs=>.tup (rms L cs)
 |v=>v
def rms(L:List (Nat×List PV)):List PV->List PV
 |[]=>[]
 |c::cs=>rm L c::rms L cs
end
theorem zAo:∀(as bs:List PV),eads (as++bs)=eads as++eads bs
 |[],_=>rfl
 |a::as,bs=>by simp only[List.cons_append,eads,zAo as bs,List.append_assoc]
theorem zEl:∀{cs:List PV} {o:Nat},o∈eads cs↔∃c∈cs,o∈ead c
 |[],o=>by simp[eads]
 |c::cs,o=>by simp[eads,zEl (cs:=cs)]
mutual
theorem er_rm(ι:Nat->Nat):∀v:PV,er ι (rm L v)=er ι v
 | .undef | .bool _ | .int _ _ | .str _ | .nilp | .nilf | .ptr _ _ | .sl _ _ _ _=>rfl
 | .fz w a len cs=>by
  unfold rm;cases cs.isEmpty
  .simp only[cond_false];cases a<;>try rfl
   rename_i o off l cap;simp only;cases L.lookup o
   .rfl
   .cases w<;>rfl
  .rfl
 | .fp a cs=>by
  unfold rm;cases cs.isEmpty
  .simp only[cond_false];cases a<;>try rfl
   rename_i o i;simp only;cases L.lookup o<;>rfl
  .rfl
 | .clo f a b=>by simp only[rm,er,Q3 ι a,Q3 ι b]
 | .agg cs=>by simp only[rm,er,Q3 ι cs]
 | .tup cs=>by simp only[rm,er,Q3 ι cs]
theorem Q3(ι:Nat->Nat):∀cs:List PV,ers ι (rms L cs)=ers ι cs
 |[]=>rfl
 |c::cs=>by simp only[rms,ers,er_rm ι c,Q3 ι cs]
end
mutual
theorem rm_id:∀{v:PV},(∀o∈ead v,L.lookup o=none)->rm L v=v
 | .undef,_ | .bool _,_ | .int _ _,_ | .str _,_ | .nilp,_ | .nilf,_ | .ptr _ _,_ | .sl _ _ _ _,_=>rfl
 | .fz w a len cs,h=>by
  unfold rm;cases he:cs.isEmpty
  .simp only[cond_false];cases a<;>try rfl
   rename_i o off l cap;simp only[ead,he,cond_false,List.mem_cons]at h;have hc:=zBb (cs:=cs) λo ho=>h o (.inr ho);simp only[hc,h o (.inl rfl)]
  .rfl
 | .fp a cs,h=>by
  unfold rm;cases he:cs.isEmpty
  .simp only[cond_false];cases a<;>try rfl
   rename_i o i;simp only[ead,he,cond_false,List.mem_cons]at h;have hc:=zBb (cs:=cs) λo ho=>h o (.inr ho);simp only[hc,h o (.inl rfl)]
  .rfl
 | .clo f a b,h=>by
  simp only[ead,List.mem_append]at h;simp only[rm,zBb (cs:=a) λo ho=>h o (.inl ho),zBb (cs:=b) λo ho=>h o (.inr ho)]
 | .agg cs,h=>by simp only[rm,zBb (cs:=cs) h]
 | .tup cs,h=>by simp only[rm,zBb (cs:=cs) h]
theorem zBb:∀{cs:List PV},(∀o∈eads cs,L.lookup o=none)->rms L cs=cs
 |[],_=>rfl
 |c::cs,h=>by
  simp only[eads,List.mem_append]at h;simp only[rms,rm_id (v:=c) λo ho=>h o (.inl ho),zBb (cs:=cs) λo ho=>h o (.inr ho)]
end
mutual
theorem ead_z:∀{n:Nat} {v:PV},VOK Z h n v->∀o∈ead v,Z o
 |n,.undef,_,o,ho|n,.bool _,_,o,ho|n,.int _ _,_,o,ho|n,.str _,_,o,ho|n,.nilp,_,o,ho|n,.nilf,_,o,ho=>by simp[ead]at ho
 |n,.ptr _ _,_,o,ho|n,.sl _ _ _ _,_,o,ho=>by simp[ead]at ho
 |n,.fz w a len cs,hv,o,ho=>by
  unfold ead at ho;cases he:cs.isEmpty<;>simp only[he,cond_false,cond_true]at ho
  .obtain⟨rfl,_⟩|⟨o',off,cap,rfl,h1,_⟩:=hv.1
   .cases ho
   .rcases List.mem_cons.1 ho with rfl|ho
    .exact h1
    .exact zAR hv.2 o ho
  .simp at ho
 |n,.fp a cs,hv,o,ho=>by
  unfold ead at ho;cases he:cs.isEmpty<;>simp only[he,cond_false,cond_true]at ho
  .obtain⟨_,h1|⟨o2,i2,rfl,h2,_⟩⟩:=hv.1
   .cases cs with
    |nil=>cases he
    |cons c cs=>simp[ers]at h1
   .rcases List.mem_cons.1 ho with rfl|ho
    .exact h2
    .exact zAR hv.2 o ho
  .simp at ho
 |n,.clo _ a b,hv,o,ho=>by
  simp only[ead,List.mem_append]at ho;exact ho.elim (zAR hv.1 o) (zAR hv.2 o)
 |n,.agg cs,hv,o,ho=>zAR (cs:=cs) hv o (by simpa only[ead]using ho)
 |n,.tup cs,hv,o,ho=>zAR (cs:=cs) hv o (by simpa only[ead]using ho)
theorem zAR:∀{n:Nat} {cs:List PV},VOKs Z h n cs->∀o∈eads cs,Z o
 |n,[],_,o,ho=>by simp[eads]at ho
 |n,c::cs,hv,o,ho=>by
  simp only[eads,List.mem_append]at ho;exact ho.elim (ead_z hv.1 o) (zAR hv.2 o)
end
def flat:PV->Bool
 | .int _ _ | .str _=>true
 |_=>false
theorem zPK{ms:List PV}(hm:ms.all flat=true):VOKs Z h n ms:=by
 rw[Qw];intro c hc
 have:=List.all_eq_true.1 hm c hc
 cases c<;>first|trivial|cases this
theorem zOi(xs:L3):(pis xs).all flat=true:=by
 induction xs with
 |nil=>rfl
 |cons x xs ih=>simp only[zHn,List.all_cons,ih];rfl
structure Upd(h:AHeap)(L:List (Nat×List PV))(h':AHeap):Prop where
 next:h.next<=h'.next
 wf:HWF h'
 same:∀o,o<h.next->L.lookup o=none->h'.obj o=h.obj o
 new:∀o ms,L.lookup o=some ms->h'.obj o=some ⟨true,ers idz ms⟩/\ms.all flat=true/\ms≠[]/\∃ws,h.obj o=some ⟨true,ws⟩/\ws.length=ms.length
theorem Upd.refl(hw:HWF h):Upd h [] h:=⟨vM _,hw,λ_ _ _=>rfl,λo ms e=>by cases e⟩
theorem Ext.upd(e:Ext h h'):Upd h [] h':=⟨e.next,e.wf,λo ho _=>e.obj o ho,λo ms e=>by cases e⟩
theorem zBD(L L':List (Nat×List PV))(o:Nat):(L++L').lookup o=(L.lookup o).or (L'.lookup o):=by
 induction L with
 |nil=>simp
 |cons p L ih=>
  obtain⟨a,b⟩:=p;simp only[List.cons_append,List.lookup_cons];cases hb:(o == a)with
  |true=>rfl
  |false=>exact ih
theorem ZW{o:Nat}:L.lookup o=none↔o∉L.map Prod.fst:=by
 induction L with
 |nil=>simp
 |cons p L ih=>
  obtain⟨a,b⟩:=p;simp only[List.lookup_cons,List.map_cons,List.mem_cons];by_cases e:o=a
  .subst e;simp
  .rw[beq_eq_false_iff_ne.2 e];simp only[ih];exact⟨λh1 h2=>h2.elim e h1,λh1 h2=>h1 (.inr h2)⟩
theorem Upd.trans(a:Upd h L h')(b:Upd h' L' cN)(hd:∀o∈L.map Prod.fst,o∉L'.map Prod.fst)(hl:∀o∈L'.map Prod.fst,o<h.next):Upd h (L++L') cN:=by
 refine⟨Nat.le_trans a.next b.next,b.wf,λo ho hn=>?_,λo ms hm=>?_⟩
 .rw[zBD,Option.or_eq_none_iff]at hn;rw[b.same o (Nat.lt_of_lt_of_le ho a.next) hn.2,a.same o ho hn.1]
 .rw[zBD]at hm;cases h1:L.lookup o with
  |some CW=>
   rw[h1,Option.some_or]at hm;cases hm;obtain⟨q1,q2,q3,ws,q4,q5⟩:=a.new o _ h1;have hk:o∈L.map Prod.fst:=by
    by_cases hk:o∈L.map Prod.fst
    .exact hk
    .rw[ZW.2 hk]at h1;cases h1
   have hn:L'.lookup o=none:=ZW.2 (hd o hk);have ag:o<h'.next:=a.wf.lt q1;exact⟨by rw[b.same o ag hn];exact q1,q2,q3,ws,q4,q5⟩
  |none=>
   rw[h1,Option.none_or]at hm;obtain⟨q1,q2,q3,ws,q4,q5⟩:=b.new o _ hm;refine⟨q1,q2,q3,ws,?_,q5⟩;have hk:o∈L'.map Prod.fst:=by
    by_cases hk:o∈L'.map Prod.fst
    .exact hk
    .rw[ZW.2 hk]at hm;cases hm
   rw[<-a.same o (hl o hk) h1];exact q4
mutual
theorem zFH(u:Upd h L h')(hz:∀o,Z o->o<h.next):∀{n:Nat} {v:PV},VOK Z h n v->VOK Z h' n (rm L v)
 |n,.undef,_|n,.bool _,_|n,.int _ _,_|n,.str _,_|n,.nilp,_|n,.nilf,_=>trivial
 |n,.ptr _ _,hv|n,.sl _ _ _ _,hv=>hv
 |n,.fz w a len cs,hv=>by
  unfold rm;cases he:cs.isEmpty
  .simp only[cond_false];obtain⟨rfl,_,h0⟩|⟨o,off,cap,rfl,h1,h2,h3,h4⟩:=hv.1
   .cases cs with
    |nil=>cases he
    |cons c cs=>simp[ers]at h0
   .simp only;have gR:h.rd o off (ers idz cs).length=some (ers idz cs):=h2.resolve_left λe=>by
     cases cs with
     |nil=>cases he
     |cons c cs=>simp[ers]at e
    cases hl:L.lookup o with
    |none=>
     have hs:=u.same o (hz o h1) hl;refine⟨.inr ⟨o,off,cap,rfl,h1,?_,h3,λhw=>⟨(h4 hw).1,?_⟩⟩,zAC u hz hv.2⟩
     .right;rw[Q3,zCl hs];exact gR
     .rw[Q3,hs];exact(h4 hw).2
    |some ms=>
     cases w with
     |false=>exact⟨⟨rfl,.inl rfl⟩,trivial⟩
     |true=>
      obtain⟨q1,q2,q3,ws,q4,q5⟩:=u.new o ms hl;obtain⟨rfl,ho⟩:=h4 rfl;exact⟨.inr ⟨o,0,cap,rfl,h1,.inr (zBc q1 rfl),h3,λ_=>⟨rfl,q1⟩⟩,zPK q2⟩
  .simp only[cond_true];have fa:cs=[]:=List.isEmpty_iff.1 he;subst fa;obtain h0|⟨o,off,cap,rfl,h1,h2,h3,h4⟩:=hv.1
   .exact⟨.inl h0,trivial⟩
   .refine⟨.inr ⟨o,off,cap,rfl,h1,.inl rfl,h3,λhw=>⟨(h4 hw).1,?_⟩⟩,trivial⟩;have ho:=(h4 hw).2;cases hl:L.lookup o with
    |none=>rw[u.same o (hz o h1) hl];exact ho
    |some ms=>
     obtain⟨q1,q2,q3,ws,q4,q5⟩:=u.new o ms hl;rw[ho]at q4;cases q4;exact absurd (List.eq_nil_of_length_eq_zero q5.symm) q3
 |n,.fp a cs,hv=>by
  unfold rm;cases he:cs.isEmpty
  .simp only[cond_false];obtain⟨h0,h1|⟨o,i,rfl,h2,h3⟩⟩:=hv.1
   .cases cs with
    |nil=>cases he
    |cons c cs=>simp[ers]at h1
   .simp only;cases hl:L.lookup o with
    |none=>
     refine⟨⟨rfl,.inr ⟨o,i,rfl,h2,?_⟩⟩,zAC u hz hv.2⟩;rw[Q3,zCl (u.same o (hz o h2) hl)];exact h3
    |some ms=>exact⟨⟨rfl,.inl rfl⟩,trivial⟩
  .simp only[cond_true];have fa:cs=[]:=List.isEmpty_iff.1 he;subst fa;exact⟨⟨hv.1.1,.inl rfl⟩,trivial⟩
 |n,.clo f a b,hv=>⟨zAC u hz hv.1,zAC u hz hv.2⟩
 |n,.agg cs,hv=>zAC (cs:=cs) u hz hv
 |n,.tup cs,hv=>zAC (cs:=cs) u hz hv
theorem zAC(u:Upd h L h')(hz:∀o,Z o->o<h.next):∀{n:Nat} {cs:List PV},VOKs Z h n cs->VOKs Z h' n (rms L cs)
 |n,[],_=>trivial
 |n,c::cs,hv=>⟨zFH u hz hv.1,zAC u hz hv.2⟩
end
def PHeap.rmap(U:PHeap)(L:List (Nat×List PV)):PHeap:=⟨U.next,U.top,λs=>(U.obj s).map (rms L)⟩
theorem Rel.rmap(r:Rel ι Z U h)(u:Upd h L h')(hk:∀o ms,L.lookup o=some ms->Z o):Rel ι Z (U.rmap L) h':=by
 have hs:∀{s:Nat} {ds:List PV},(U.rmap L).obj s=some ds->∃cs,U.obj s=some cs/\ds=rms L cs:=λ{s ds} hd=>by
  obtain⟨cs,h1,h2⟩:=Option.map_eq_some_iff.1 hd;exact⟨cs,h1,h2.symm⟩
 refine⟨u.wf,λo ho=>Nat.lt_of_lt_of_le (r.zlt o ho) u.next,Nat.le_trans r.top u.next,λs hs=>by simp only[PHeap.rmap,r.wf s hs,Option.map_none],λs ds hd=>?_,λs s' a b ha hb=>?_⟩
 .obtain⟨cs,h1,rfl⟩:=hs hd;obtain⟨q1,q2,q3⟩:=r.obj s cs h1;have hn:L.lookup (ι s)=none:=by
   cases hl:L.lookup (ι s)with
   |none=>rfl
   |some ms=>exact absurd (hk _ _ hl) q3
  refine⟨?_,zAC u r.zlt q2,q3⟩;rw[Q3,u.same _ (r.hwf.lt q1) hn];exact q1
 .obtain⟨cs,h1,_⟩:=hs ha;obtain⟨dF,h2,_⟩:=hs hb;exact r.inj s s' cs dF h1 h2
def zA4(P:Program)(f:FuncId)(args:List PV)(U:PHeap)(L:List (Nat×List PV))(k:IntKind)(r:Int):Prop:=
 ∀(ι:Nat->Nat) (Z:Nat->Prop) (h:AHeap),Rel ι Z U h->VOKs Z h U.next args->(∀o ms,L.lookup o=some ms->Z o)/\ZK P f (ers ι args) h λv h'=>v=.int k r/\Upd h L h'
inductive CallM(P:Program)(f:FuncId)(args:List IX):PEnv->PHeap->(PEnv->PV->PHeap->Prop)->Prop where
 |pure {e:PEnv} {U:PHeap} {K:PEnv->PV->PHeap->Prop} (c:zA P f (args.map (·.pv e)) U (K e)):CallM P f args e U K
 |mark {e:PEnv} {U:PHeap} {K:PEnv->PV->PHeap->Prop} {L:List (Nat×List PV)} {k:IntKind} {r:Int} (c:zA4 P f (args.map (·.pv e)) U L k r) (hk:K (λt=>rm L (e t)) (.int k r) (U.rmap L)):CallM P f args e U K
 |top {e:PEnv} {U:PHeap} {K:PEnv->PV->PHeap->Prop} (c:∀t,U.top<=t->(∀i,∀o∈ead (e i),o<t)->CallM P f args e (U.up t) K):CallM P f args e U K
 |topH {e:PEnv} {U:PHeap} {K:PEnv->PV->PHeap->Prop} (c:∀t,U.top<=t->(∀i,∀o∈ead (e i),o<t)->(∀s cs,U.obj s=some cs->∀o∈eads cs,o<t)->CallM P f args e (U.up t) K):CallM P f args e U K
theorem CallM.sound{f:FuncId}{args:List IX}{e:PEnv}{U:PHeap}{K:PEnv->PV->PHeap->Prop}(c:CallM P f args e U K):∀{ι:Nat->Nat} {Z:Nat->Prop} {h:AHeap} {K1:AV->AHeap->Prop},Rel ι Z U h->EOK Z h U.next e->
  (∀e' v σ' ι' Z' h',Rel ι' Z' σ' h'->EOK Z' h' σ'.next e'->VOK Z' h' σ'.next v->erE ι' e'=erE ι e->K e' v σ'->K1 (er ι' v) h')->ZK P f (args.map (·.ev (erE ι e))) h K1:=by
 induction c with
 |pure c=>
  intro ι Z h K1 r he hr
  have:=c ι Z h r (he.pvs args)
  rw[zCY]at this;refine this.mono ?_
  rintro _ h' ⟨pv,σ',ι',Z',r',a',hv,rfl,k⟩
  exact hr _ pv σ' ι' Z' h' r' (a'.eok he) hv (a'.erE he) k
 | @mark U K L k r c hk=>
  intro ι Z h K1 rl he hr;obtain⟨h1,h2⟩:=c ι Z h rl (he.pvs args);rw[zCY]at h2;refine h2.mono ?_
  rintro _ h' ⟨rfl,u⟩
  refine hr (λt=>rm L (e t)) (.int k r) (U.rmap L) ι Z h' (rl.rmap u h1) (λt=>zFH u rl.zlt (he t)) trivial ?_ hk;funext t;simp only[erE,er_rm]
 |top c ih=>
  intro ι Z h K1 r he hr;refine ih h.next r.top (λi o ho=>r.zlt o (ead_z (he i) o ho)) (ι:=ι) (Z:=Z) ⟨r.hwf,r.zlt,vM _,r.wf,r.obj,r.inj⟩ he hr
 |topH c ih=>
  intro ι Z h K1 r he hr;refine ih h.next r.top (λi o ho=>r.zlt o (ead_z (he i) o ho)) (λs cs hs o ho=>r.zlt o (zAR (r.obj s cs hs).2.1 o ho)) (ι:=ι) (Z:=Z) ⟨r.hwf,r.zlt,vM _,r.wf,r.obj,r.inj⟩ he hr
def em(P:Program)(op:IOp)(e:PEnv)(U:PHeap)(K:PEnv->PV->PHeap->Prop):Prop:=
 match op with
 | .call f args=>CallM P f args e U K
 |op=>ep P op e U (K e)
def gem(P:Program)(it:II)(e:PEnv)(U:PHeap)(K:PEnv->PV->PHeap->Prop):Prop:=
 match it.guard with
 |none=>em P it.op e U K
 |some (t,b)=>Zj (e t) b (em P it.op e U K) (K e (.tup []) U)
def RVm(P:Program):List II->PEnv->PHeap->(PEnv->PHeap->Prop)->Prop
 |[],e,h,K=>K e h
 |it::r,e,h,K=>match it.q with
  |true=>optK (gqp 0 0 it e h) λv=>RVm P r (e.put it.dst v) h K
  |false=>gem P it e h λe' v h'=>RVm P r (e'.put it.dst v) h' K
def vm(P:Program):IC->(Exit->PEnv->PHeap->Prop)->PEnv->PHeap->Prop
 | .region S aE,Q,e,h=>RVm P aE e h λe' h'=>Q .normal (PEnv.mk S (S.map e')) h'
 | .seq a b,Q,e,h=>vm P a (λx e' h'=>match x with | .normal=>vm P b Q e' h'|x=>Q x e' h') e h
 | .cond c a b,Q,e,h=>Z8 (c.pv e) (vm P a Q e h) (vm P b Q e h)
 | .block id c,Q,e,h=>vm P c (λx e' h'=>match x with | .exit gj=>if gj=id then Q .normal e' h' else Q (.exit gj) e' h'|x=>Q x e' h') e h
 |c,Q,e,h=>vp P c Q e h
theorem zIX{op:IOp}{e:PEnv}{U:PHeap}{K:PEnv->PV->PHeap->Prop}(c:em P op e U K){K1:AV->AHeap->Prop}(r:Rel ι Z U h)(he:EOK Z h U.next e)
  (hr:∀e' v σ' ι' Z' h',Rel ι' Z' σ' h'->EOK Z' h' σ'.next e'->VOK Z' h' σ'.next v->erE ι' e'=erE ι e->K e' v σ'->K1 (er ι' v) h'):eff P op (erE ι e) h K1:=by
 have base:ep P op e U (K e)->eff P op (erE ι e) h K1:=λhk=>by
  refine zEy ?_ (zEx r he hk)
  rintro _ h' ⟨pv,σ',ι',Z',r',a',hv,rfl,k⟩
  exact hr _ pv σ' ι' Z' h' r' (a'.eok he) hv (a'.erE he) k
 cases op<;>first|exact base c|skip
 exact CallM.sound c r he hr
theorem zNc{it:II}{e:PEnv}{U:PHeap}{K:PEnv->PV->PHeap->Prop}(c:gem P it e U K){K1:AV->AHeap->Prop}(r:Rel ι Z U h)(he:EOK Z h U.next e)
  (hr:∀e' v σ' ι' Z' h',Rel ι' Z' σ' h'->EOK Z' h' σ'.next e'->VOK Z' h' σ'.next v->erE ι' e'=erE ι e->K e' v σ'->K1 (er ι' v) h'):ge P it (erE ι e) h K1:=by
 obtain⟨dst,op,q,guard⟩:=it;cases guard with
 |none=>exact zIX c r he hr
 |some g=>
  obtain⟨t,b⟩:=g;simp only[gem,ge]at c ⊢;cases ht:e t with
  |bool d=>
   rw[ht]at c;simp only[Zj]at c;simp only[erE,ht,er];split at c
   .rename_i hc;rw[if_pos hc];exact zIX c r he hr
   .rename_i hc;rw[if_neg hc];exact hr e (.tup []) U ι Z h r he trivial rfl c
  |tup cs=>
   rw[ht]at c;cases cs with
   |nil=>simp only[erE,ht,er];exact hr e (.tup []) U ι Z h r he trivial rfl c
   |cons x cs=>simp only[Zj]at c
  |_=>rw[ht]at c;simp only[Zj]at c
theorem zDm:∀(aE:List II) {ι:Nat->Nat} {Z:Nat->Prop} {U:PHeap} {h:AHeap} {E:PEnv} {K:PEnv->PHeap->Prop} {K1:Env->AHeap->Prop},Rel ι Z U h->EOK Z h U.next E->RVm P aE E U K->
  (∀E' σ' ι' Z' h',Rel ι' Z' σ' h'->EOK Z' h' σ'.next E'->K E' σ'->K1 (erE ι' E') h')->RV P aE (erE ι E) h K1
 |[],ι,Z,U,h,E,K,K1,r,he,hk,hr=>hr E U ι Z h r he hk
 |it::aE,ι,Z,U,h,E,K,K1,r,he,hk,hr=>by
  simp only[RVm,RV]at hk ⊢;split at hk
  .rename_i hq;simp only[hq];obtain⟨v,hv,hk⟩:=hk;obtain⟨h1,h2⟩:=zDa r he (nb1:=0) (λk hk=>absurd hk (Nat.not_lt_zero _)) hv;refine⟨_,h1,?_⟩
   have:=zDm aE r (he.put h2 it.dst) hk hr
   rw[zBR]at this;exact this
  .rename_i hq;simp only[hq];refine zNc hk r he ?_;intro e' v σ' ι' Z' h' r' vI hv vH cL
   have:=zDm aE r' (vI.put hv it.dst) cL hr
   rw[zBR,vH]at this;exact this
theorem zAZ:∀(c:IC) {ι:Nat->Nat} {Z:Nat->Prop} {U:PHeap} {h:AHeap} {E:PEnv} {Q:Exit->PEnv->PHeap->Prop} {Q1:Exit->Env->AHeap->Prop},Rel ι Z U h->EOK Z h U.next E->vm P c Q E U->
  (∀x E' σ' ι' Z' h',Rel ι' Z' σ' h'->EOK Z' h' σ'.next E'->Q x E' σ'->Q1 x (erE ι' E') h')->vc P c Q1 (erE ι E) h
 | .skip,ι,Z,U,h,E,Q,Q1,r,he,hk,hr=>Zr (.skip) r he hk λx E' σ' ι' Z' h' r' _ e' k'=>hr x E' σ' ι' Z' h' r' e' k'
 | .exit id,ι,Z,U,h,E,Q,Q1,r,he,hk,hr=>Zr (.exit id) r he hk λx E' σ' ι' Z' h' r' _ e' k'=>hr x E' σ' ι' Z' h' r' e' k'
 | .ret,ι,Z,U,h,E,Q,Q1,r,he,hk,hr=>Zr (.ret) r he hk λx E' σ' ι' Z' h' r' _ e' k'=>hr x E' σ' ι' Z' h' r' e' k'
 | .draw S zs aE,ι,Z,U,h,E,Q,Q1,r,he,hk,hr=>Zr (.draw S zs aE) r he hk λx E' σ' ι' Z' h' r' _ e' k'=>hr x E' σ' ι' Z' h' r' e' k'
 | .loop S c,ι,Z,U,h,E,Q,Q1,r,he,hk,hr=>Zr (.loop S c) r he hk λx E' σ' ι' Z' h' r' _ e' k'=>hr x E' σ' ι' Z' h' r' e' k'
 | .region S aE,ι,Z,U,h,E,Q,Q1,r,he,hk,hr=>by
  refine zDm aE r he hk ?_;intro E' σ' ι' Z' h' r' e' k'
  have:=hr .normal _ σ' ι' Z' h' r' (EOK.mk (e'.map S)) k'
  rw[zBm,zCZ]at this;exact this
 | .seq a b,ι,Z,U,h,E,Q,Q1,r,he,hk,hr=>by
  refine zAZ a r he hk ?_;intro x E' σ' ι' Z' h' r' e' k';cases x with
  |normal=>exact zAZ b r' e' k' hr
  |exit id=>exact hr _ _ _ _ _ _ r' e' k'
  |goto l=>exact hr _ _ _ _ _ _ r' e' k'
  |ret=>exact hr _ _ _ _ _ _ r' e' k'
  |panic ch=>exact hr _ _ _ _ _ _ r' e' k'
  |outgrown=>exact hr _ _ _ _ _ _ r' e' k'
 | .cond c a b,ι,Z,U,h,E,Q,Q1,r,he,hk,hr=>by
  simp only[vm,vc,<-er_pv]at hk ⊢;cases hc:c.pv E<;>rw[hc]at hk<;>simp only[Z8]at hk
  simp only[er];split at hk
  .rename_i ht;rw[if_pos ht];exact zAZ a r he hk hr
  .rename_i ht;rw[if_neg ht];exact zAZ b r he hk hr
 | .block id c,ι,Z,U,h,E,Q,Q1,r,he,hk,hr=>by
  refine zAZ c r he hk ?_;intro x E' σ' ι' Z' h' r' e' k';cases x with
  |exit gj=>
   simp only at k' ⊢;split at k'
   .rename_i hc;rw[if_pos hc];exact hr _ _ _ _ _ _ r' e' k'
   .rename_i hc;rw[if_neg hc];exact hr _ _ _ _ _ _ r' e' k'
  |normal=>exact hr _ _ _ _ _ _ r' e' k'
  |goto l=>exact hr _ _ _ _ _ _ r' e' k'
  |ret=>exact hr _ _ _ _ _ _ r' e' k'
  |panic ch=>exact hr _ _ _ _ _ _ r' e' k'
  |outgrown=>exact hr _ _ _ _ _ _ r' e' k'
def zDx(v:PV)(U:PHeap):Prop:=v=.bool true
theorem zNQ(cE:P.follows .mixedOrders=true){f:FuncId}{fn:Func}{de:IFn}(hf:P.funcs[f]? = some fn)(hc:cF P fn=some de){args:List PV}(hl:args.length=de.params.length)(hw:HWF h)(hv:VOKs (zlt h) h 0 args)
  (hk:(∀o∈eads args,o<h.next)->vm P de.body (retP de.res zDx) (PEnv.mk de.params args) (PHeap.start h)):ZK P f (ers idz args) h (λv _=>v=.bool true):=by
 have hk:=hk λo ho=>zAR hv o ho;refine QU cE hf hc (by rw[qG];exact hl) ?_;rw[<-zBm];refine zAZ de.body (zMQ hw) (EOK.mk hv) hk ?_;intro x E' σ' ι' Z' h' r' e' k';have fin:optK (Zu de.res E' σ') (λvs=>zDx (packP vs) σ')->optK (rvals de.res (erE ι' E') h') λvs=>packR vs=.bool true:=by
  rintro⟨vs,hv,hk⟩
  obtain⟨h1,h2⟩:=zAI r' e' hv;obtain⟨h3,h4⟩:=zEN (ι:=ι') h2;unfold zDx at hk;rw[hk]at h3;exact⟨_,h1,h3⟩
 cases x with
 |normal=>exact fin k'
 |ret=>exact fin k'
 |exit id=>exact k'.elim
 |goto l=>exact k'.elim
 |panic ch=>exact k'.elim
 |outgrown=>exact k'.elim
section
variable{Q:Exit->PEnv->PHeap->Prop}{e:PEnv}{hp:PHeap}{KE:PEnv->PHeap->Prop}{KM:PEnv->PV->PHeap->Prop}
theorem zP1:vm P .skip Q e hp=Q .normal e hp:=rfl
theorem zMA(S:List Nat)(aE:List II):vm P (.region S aE) Q e hp=RVm P aE e hp λe' h'=>Q .normal (PEnv.mk S (S.map e')) h':=rfl
theorem zP3(S:List Nat)(zs:List (List AV))(aE:List DI):vm P (.draw S zs aE) Q e hp=DVp P hp.next zs.length aE [] e (hp.news zs) λe' h'=>Q .normal (PEnv.mk S (S.map e')) h':=rfl
theorem zRX(a b:IC):vm P (.seq a b) Q e hp=vm P a (λx e' h'=>match x with | .normal=>vm P b Q e' h'|x=>Q x e' h') e hp:=rfl
theorem zP4(c:IX)(a b:IC):vm P (.cond c a b) Q e hp=Z8 (c.pv e) (vm P a Q e hp) (vm P b Q e hp):=rfl
theorem zP2(id:Nat):vm P (.exit id) Q e hp=Q (.exit id) e hp:=rfl
theorem zRY:vm P .ret Q e hp=Q .ret e hp:=rfl
theorem zRQ:RVm P [] e hp KE=KE e hp:=rfl
theorem RVm_q(d:Option Nat)(op:IOp)(g:Option (Nat×Bool))(r:List II):RVm P (⟨d,op,true,g⟩::r) e hp KE=optK (gqp 0 0 ⟨d,op,true,g⟩ e hp) λv=>RVm P r (e.put d v) hp KE:=rfl
theorem RVm_e(d:Option Nat)(op:IOp)(g:Option (Nat×Bool))(r:List II):RVm P (⟨d,op,false,g⟩::r) e hp KE=gem P ⟨d,op,false,g⟩ e hp λe' v h'=>RVm P r (e'.put d v) h' KE:=rfl
theorem zPI(d:Option Nat)(op:IOp)(q:Bool):gem P ⟨d,op,q,none⟩ e hp KM=em P op e hp KM:=rfl
theorem zPH(d:Option Nat)(op:IOp)(q:Bool)(t:Nat)(b:Bool):gem P ⟨d,op,q,some (t,b)⟩ e hp KM=Zj (e t) b (em P op e hp KM) (KM e (.tup []) hp):=rfl
theorem zRD(f:FuncId)(args:List IX):em P (.call f args) e hp KM=CallM P f args e hp KM:=rfl
theorem zPR(z:List AV):em P (.alloc z) e hp KM=ep P (.alloc z) e hp (KM e):=rfl
theorem zSB(x:IX):em P (.box x) e hp KM=ep P (.box x) e hp (KM e):=rfl
theorem zPQ(n:Nat)(x v:IX):em P (.store n x v) e hp KM=ep P (.store n x v) e hp (KM e):=rfl
theorem zLj(sz len:Nat)(z:List AV)(ps:List (Nat×Nat×IX)):em P (.buildSl sz len z ps) e hp KM=ep P (.buildSl sz len z ps) e hp (KM e):=rfl
@[congr] theorem cg_vm {c:IC} {e e':PEnv} {h h':PHeap} (h1:nm e=e') (h2:h=h'):vm P c Q e h=vm P c Q e' h':=by rw[nm_eq]at h1;rw[h1,h2]
@[congr] theorem zSl {aE:List II} {e e':PEnv} {h h':PHeap} (h1:nm e=e') (h2:h=h'):RVm P aE e h KE=RVm P aE e' h' KE:=by rw[nm_eq]at h1;rw[h1,h2]
@[congr] theorem zSi {it:II} {e e':PEnv} {h h':PHeap} (h1:nm e=e') (h2:h=h'):gem P it e h KM=gem P it e' h' KM:=by rw[nm_eq]at h1;rw[h1,h2]
@[congr] theorem cg_em {op:IOp} {e e':PEnv} {h h':PHeap} (h1:nm e=e') (h2:h=h'):em P op e h KM=em P op e' h' KM:=by rw[nm_eq]at h1;rw[h1,h2]
@[congr] theorem zSf {f:FuncId} {args:List IX} {e e':PEnv} {h h':PHeap} (h1:nm e=e') (h2:h=h'):CallM P f args e h KM=CallM P f args e' h' KM:=by rw[nm_eq]at h1;rw[h1,h2]
theorem zRe(k:IntKind)(n:Int):rm L (.int k n)=.int k n:=rfl
theorem zQG(b:Bool):rm L (.bool b)=.bool b:=rfl
theorem zOF:rm L .undef=.undef:=rfl
theorem zRc(s:List UInt8):rm L (.str s)=.str s:=rfl
theorem zRd(s i:Nat):rm L (.ptr s i)=.ptr s i:=rfl
theorem zRf(cs:List PV):rm L (.agg cs)=.agg (rms L cs):=rfl
theorem zRb(cs:List PV):rm L (.tup cs)=.tup (rms L cs):=rfl
theorem zQF(w:Bool)(a:AV)(n:Nat):rm L (.fz w a n [])=.fz w a n []:=rfl
theorem zQD:rms L []=[]:=rfl
theorem zOC(c:PV)(cs:List PV):rms L (c::cs)=rm L c::rms L cs:=rfl
theorem zOE(cs:List PV):(hp.new cs).rmap L=(hp.rmap L).new (rms L cs):=by
 simp only[PHeap.rmap,PHeap.new];congr 1;funext s;by_cases x:s=hp.next<;>simp only[x,if_true,if_false,Option.map_some]
theorem zOD(s:Nat)(cs:List PV):(hp.set s cs).rmap L=(hp.rmap L).set s (rms L cs):=by
 simp only[PHeap.rmap,PHeap.set];congr 1;funext t;by_cases x:t=s<;>simp only[x,if_true,if_false,Option.map_some]
theorem zQE(t:Nat):(hp.up t).rmap L=(hp.rmap L).up t:=rfl
theorem zKy:(PHeap.start h).rmap L=PHeap.start h:=rfl
theorem up_up(t t':Nat):(hp.up t).up t'=hp.up t':=rfl
theorem zK7:(hp.rmap L).next=hp.next:=rfl
theorem zMc:(hp.rmap L).top=hp.top:=rfl
theorem zK5:(PHeap.start h).top=h.next:=rfl
end
def pm0:=And.intro @zP1 <| And.intro @zMA <| And.intro @zP3 <| And.intro @zRX <| And.intro @zP4 <| And.intro @zP2 <| And.intro @zRY <| And.intro @zRQ <| And.intro @RVm_q <| And.intro @RVm_e <| And.intro @zPI <| And.intro @zPH <| And.intro @zRD <| And.intro @zPR <| And.intro @zSB <| And.intro @zPQ <| And.intro @zLj <| And.intro @zRe <| And.intro @zQG <| And.intro @zOF <| And.intro @zRc <| And.intro @zRd <| And.intro @zRf <| And.intro @zRb <| And.intro @zQF <| And.intro @zQD <| And.intro @zOC <| And.intro @zOE <| And.intro @zOD <| And.intro @zQE <| And.intro @zKy <| And.intro @up_up <| And.intro @zK7 <| @zMc
end Go.Ab
