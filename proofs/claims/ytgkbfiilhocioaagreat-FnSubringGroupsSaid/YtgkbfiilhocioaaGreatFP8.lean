/- . -/
import Derived.Test.YtgkbfiilhocioaaGreatFP7
open Nat renaming le_refl→vM
open Int renaming reduceNatCast'->ae
set_option maxRecDepth 100000
set_option linter.unusedSimpArgs false
set_option linter.unusedVariables false
set_option linter.unusedSectionVars false
namespace Go.Proofs
open Go.Ab Go.Lie
variable{σ h:PHeap}{K:PV->PHeap->Prop}{s n:Nat}{p:Int}{sP sB:Nat}{capP ai:Cap}{cs:List PV}{ls:List LS}{W:V2}{B:V3}
abbrev zrow(n:Nat):V1:=List.replicate n 0
def zB(n i:Nat):V3:=(List.range i).map λj=>List.replicate (n-1-j) (zrow n)
def Any(_:PV)(_:V1):Prop:=True
theorem zKE(n i:Nat):zB n (i+1)=zB n i++[List.replicate (n-1-i) (zrow n)]:=by unfold zB;rw[List.range_succ,List.map_append];rfl
theorem zBZ(n i:Nat):(zB n i).length=i:=by simp[zB]
theorem zPC{vs:List PV}{ws:V2}(e:vs.length=ws.length):All2 Any vs ws:=⟨e,λ_ _ _ _ _=>trivial⟩
theorem zIt{α β:Type}{R:α->β->Prop}{xs:List α}{y:β}{k:Nat}(a:All2 R xs (List.replicate k y)){x:α}(hx:R x y):All2 R (xs++[x]) (List.replicate (k+1) y):=by
 rw[List.replicate_succ'];exact a.snoc hx
structure CycI(T h:PHeap)(m p0 n q:Nat)(p:Int)(v3 vB:PV)(cP cC:List PV)(ls:List LS)(vR:PV)(cells:List PV):Prop where
 su:SU T h p0 (.int .i64 p) [(v3,cP),(vB,cC)] ls
 row:PSl m 1 h vR q cells
 all:All2 FI cells (List.replicate q (zrow n))
 le:m<=h.next
 lo:∀t,(t=p0\/(∃f∈[(v3,cP),(vB,cC)],∃off l c,f.1=.sl t off l c)\/∃q∈ls,q.s=t)->t<m
theorem zIC(dX:1<=n)(aN:n<=6)
  (hk:∀sP capP cs sB ai ls h,Keep σ h->RS Any FI σ.next h n sP capP cs sB ai ls (List.replicate n []) (zB n n)->K (.agg [.int .i64 p,.sl sP 0 n capP,.sl sB 0 n ai]) h):
  zA Tryz.prog 282 [.int .i64 p,.int .i64 n] σ K:=by
 refine zA.pwf λw=>?_;generalize hT:σ.new [.int .i64 0,.fz true .nils 0 [],.fz true .nils 0 []]=T;have cJ:T.next=σ.next+1:=by rw[<-hT];rfl
 have cg:Keep σ T:=by rw[<-hT];exact zC σ _
 have wT:PWF T:=by rw[<-hT];exact w.newB ⟨trivial,trivial,trivial,trivial⟩
 have aI:∀{g:PHeap} {u0 u1 u2:PV},Keep T g->u0.one=true->u1.one=true->u2.one=true->g.wr σ.next 0 [u0,u1,u2]=some (g.set σ.next [u0,u1,u2])/\(g.set σ.next [u0,u1,u2]).rd σ.next 0 3=some [u0,u1,u2]:=λ{g u0 u1 u2} k z0 z1 z2=>by
  have aI:g.obj σ.next=some [.int .i64 0,.fz true .nils 0 [],.fz true .nils 0 []]:=by rw[k.obj _ (by omega),<-hT];simp only[Z3,seval,-ae]
  exact⟨by rw[qC aI,if_pos ⟨by simp,by simp only[List.all_cons,List.all_nil,z0,z1,z2];rfl⟩];rfl,by rw[qh,if_pos rfl];rfl⟩
 refine zD mix Tryz.func282 ?_
 conv=>arg 2;cbv
 refine zF rfl ?_;simp only[Z3,seval,-ae];rw[hT];refine zG (λm us h=>∃(i:Nat) (vQ vB:PV) (cP cC:List PV) (ls:List LS),i<=n/\m=n-i/\us=[.int .i64 n,.ptr σ.next 0,.ptr (σ.next+3) 0,.int .i64 i]/\SU T h (σ.next+3) (.int .i64 p) [(vQ,cP),(vB,cC)] ls/\cP.length=i/\cC=ls.map LS.pv/\(ls.map LS.s).Nodup/\RowsG FI ls (zB n i)) n ?_ ?_
 .refine⟨0,.sl (σ.next+1) 0 0 (.known 0),.sl (σ.next+2) 0 0 (.known 0),[],[],[],by omega,by omega,rfl,⟨((zC T _).new _).new _,by simp only[Z3,seval,-ae,cJ],⟨by omega,by first|(simp only[Z3,seval,-ae,cJ];done)|(simp only[Z3,seval,-ae,cJ];omega)⟩,λf hf=>?_,λf hf off l c e=>?_,λi j f g hf hg ar s off l c e de l' c' e'=>?_,λq hq=>(by cases hq),λq hq=>(by cases hq)⟩,rfl,rfl,List.nodup_nil,All2.nil _⟩
  .simp only[List.mem_cons,List.not_mem_nil,or_false]at hf;rcases hf with rfl|rfl
   .exact PSl.own (.inr rfl) (by simp only[Z3,seval,-ae,cJ]) rfl (by omega) (by first|(simp only[Z3,seval,-ae,cJ];done)|(simp only[Z3,seval,-ae,cJ];omega))
   .exact PSl.own (.inr rfl) (by simp only[Z3,seval,-ae,cJ]) rfl (by omega) (by first|(simp only[Z3,seval,-ae,cJ];done)|(simp only[Z3,seval,-ae,cJ];omega))
  .simp only[List.mem_cons,List.not_mem_nil,or_false]at hf;rcases hf with rfl|rfl<;>(simp only[PV.sl.injEq]at e;omega)
  .match i,j with
   |0,0=>exact ar rfl
   |1,1=>exact ar rfl
   |0,1|1,0=>cases hf;cases hg;simp only[PV.sl.injEq]at e e';omega
   |i+2,_=>simp at hf
   |0,j+2|1,j+2=>simp at hg
 as_aux_lemma=>
 rintro m us h ⟨i,vQ,vB,cP,cC,ls,hi,rfl,rfl,a,rM,iP,jU,fZ⟩
 have aP:=a.acc (vQ,cP) (by simp);have aC:=a.acc (vB,cC) (by simp);have f3:h.rd (σ.next+3) 0 3=some [.int .i64 p,vQ,vB]:=by rw[ze a.obj];rfl
 have f1:h.rd1 (σ.next+3) 1=some vQ:=by rw[zI a.obj];rfl
 simp only[Z3,seval,-ae];refine iteI (λah=>?_) λaG=>?_;rotate_left
 .as_aux_lemma=>
  have aK:i=n:=by omega
  subst aK;obtain⟨g1,g2⟩:=aI a.keep (u0:=.int .i64 p) rfl aP.one aC.one;simp only[Z3,seval,-ae,f3,g1,g2];obtain⟨sP,capP,sB,ai,e1,e2,rs⟩:=a.rs (n:=i) (RP:=Any) (R:=FI) (W:=List.replicate i []) (B:=zB i i) iP jU (zPC (by rw[rM];simp)) fZ (by simp) (zBZ i i);subst e1 e2;exact hk sP capP cP sB ai ls _ ((cg.trans a.keep).set (vM _) _) ((rs.low (by omega)).move (λt ht=>by
   have:=(rs.lt ht).1
   rw[zH,if_neg (by omega)]) (vM _))
 have aE:i<n:=by omega
 have bB:IntKind.i64.wrap ((i:Int)+1)=((i+1:Nat):Int):=wrapS aE (by omega);have nj:¬σ.next+3=h.next:=by have:=a.p0b.2;omega
 have jn:∀f,f∈[(vQ,cP),(vB,cC)]->f.1.one=true:=λf hf=>(a.acc f hf).one;simp only[Z3,seval,-ae,mk8 (n:=n) (by omega),mkL (n:=n) (by omega),qA,bB];refine iteI (λh1=>?_) λh1=>?_;rotate_left
 .generalize hX:(List.replicate n (PV.int .i64 0))=X;clear hX;simp only[Z3,seval,-ae,nj,f1];refine SU.push (a.keepI (zC h X)) (j:=0) (bytes:=24) rfl (by omega) (by omega) jn λv3 h3 z4 z5 z6 a3=>?_;simp only[List.set_cons_zero,List.set_cons_succ,List.map_cons,List.map_nil]at z6 a3;generalize h3.set (σ.next+3) [.int .i64 p,v3,vB]=h4 at *
  simp only[Z3,seval,-ae,z4,z5,z6,bB];clear z4 z5 z6 f1 f3;have AZ:∀t,(t=σ.next+3\/(∃f∈[(v3,cP++[PV.sl h.next 0 n (.known n)]),(vB,cC)],∃off l c,f.1=.sl t off l c)\/∃q∈ls,q.s=t)->t<h4.next:=λt ht=>by
   rcases ht with rfl|⟨f,hf,off,l,c,e⟩|⟨q,hq,rfl⟩
   .exact a3.p0b.2
   .exact QU (a3.acc f hf) e
   .exact(a3.lok q hq).2.2.2
  refine ZG (λm us h=>∃(q:Nat) (vR:PV) (fT cells:List PV),i+(1+q)<=n/\m=n-(i+(1+q))/\us=[.int .i64 n,.ptr σ.next 0,.ptr (σ.next+3) 0,.int .i64 i,vR,.int .i64 ((i+(1+q):Nat):Int)]/\CycI T h h4.next (σ.next+3) n q p v3 vB fT cC ls vR cells/\fT.length=i+1) (n-(i+1)) (.here ⟨0,.sl h4.next 0 0 (.known 0),_,[],by omega,rfl,rfl,⟨a3.keepI (zC _ _),PSl.new _ 1 rfl (vM _),All2.nil _,Nat.le_succ _,AZ⟩,by rw[List.length_append];simp;omega⟩) ?_
  rintro m us h7 ⟨q,vR,fT,cells,hq,rfl,rfl,c,lr⟩
  simp only[Z3,seval,-ae];refine iteI (λjF=>?_) λrn=>?_;rotate_left
  .have gR:q=n-1-i:=by omega
   subst gR;obtain⟨su,row,all,le,lo⟩:=c;obtain⟨t,cap,rfl,hf,q2,q3,q4,q5⟩:=row;have f2:h7.rd1 (σ.next+3) 2=some vB:=by rw[zI su.obj];rfl
   have uZ:¬σ.next+3=h7.next:=by have:=su.p0b.2;omega
   have gA:∀f,f∈[(v3,fT),(vB,cC)]->f.1.one=true:=λf hf=>(su.acc f hf).one;have ox:cells.length=n-1-i:=by omega
   have fP:∀u,(u=σ.next+3\/(∃f∈[(v3,fT),(vB,cC)],∃off l c,f.1=.sl u off l c)\/∃q∈ls,q.s=u)->t≠u:=λu hu e=>by have:=lo u hu;omega
   have sh:=SU.more (q:=⟨t,cap,cells⟩) su ⟨by rw[ox];exact hf,q2,by have:=a3.keep.next;show T.next<=t;omega,q5⟩ ⟨fP _ (.inl rfl),λf hf off l c e=>fP t (.inr (.inl ⟨f,hf,off,l,c,e⟩)) rfl⟩;simp only[Z3,seval,-ae,f2,uZ];refine SU.push sh (j:=1) (bytes:=24) rfl (by rw[iP,List.length_map,fZ.1,zBZ];omega) (by omega) gA λv5 h5 z1 z2 z3 a5=>?_;simp only[List.set_cons_zero,List.set_cons_succ,List.map_cons,List.map_nil]at z3 a5;generalize h5.set (σ.next+3) [.int .i64 p,v3,v5]=h6 at *
   simp only[Z3,seval,-ae,z1,z2,z3,bB];refine⟨_,by omega,i+1,v3,v5,fT,_,ls++[⟨t,cap,cells⟩],by omega,rfl,rfl,a5,lr,?_,?_,?_⟩
   .rw[iP,List.map_append];simp only[List.map_cons,List.map_nil,LS.pv];rw[ox]
   .rw[List.map_append,List.nodup_append];refine⟨jU,by simp,λx hx y hy e=>?_⟩;simp only[List.map_cons,List.map_nil,List.mem_singleton]at hy;obtain⟨q',bm,rfl⟩:=List.mem_map.1 hx;exact fP q'.s (.inr (.inr ⟨q',bm,rfl⟩)) (by rw[e,hy])
   .rw[zKE];exact All2.snoc fZ all
  have bm:i+(1+q)<n:=by omega
  have e5:IntKind.i64.wrap (((i+(1+q):Nat):Int)+1)=((i+(1+(q+1)):Nat):Int):=by rw[wrap64 (by omega) (by omega)];omega
  obtain⟨su,row,all,le,lo⟩:=c;simp only[Z3,seval,-ae,mk8 (n:=n) (by omega),mkL (n:=n) (by omega),qA];refine PAcc.pushS (σb:=T) (bytes:=24) (su.keep.new _) ((row.acc.keep (zC _ _)).low (by have:=a3.keep.next;omega)) rfl (by omega) (by omega) λv9 h8 k8 p8 o8 n8 l8=>?_;have dk:(h7.new (pis (List.replicate n 0))).next=h7.next+1:=rfl;rw[dk]at o8 n8 l8;simp only[Z3,seval,-ae,e5];have BQ:∀t,t<h4.next->∀off l c,vR≠.sl t off l c:=λt ht off l c e=>by
   obtain⟨s',aZ,e',_,_,_,g4,_⟩:=row;rw[e']at e;cases e;omega
  have An:SU T h8 (σ.next+3) (.int .i64 p) [(v3,fT),(vB,cC)] ls:=su.move k8 (by omega) λt ht=>by
   have:=lo t ht
   rw[o8 t (by omega) (BQ t this),zP,if_neg (by omega)]
  have fJ:h8.obj h7.next=some (pis (zrow n)):=by
   rw[o8 _ (by omega) (λoff l c e=>by have:=QU row e;omega),zP,if_pos rfl]
  have C5:T.next<=h7.next:=su.keep.next;refine⟨n-(i+(1+(q+1))),by omega,.fzh h7.next (pis (zrow n)) fJ (zL _ _) λo1=>.here ⟨q+1,v9,sbs h7.next o1 (pis (zrow n)) fT,cells++[.fz true (.sl o1 0 n (.known n)) n (pis (zrow n))],by omega,rfl,?_,?_,by rw[ZT];exact lr⟩⟩
  .have:sb h7.next o1 (pis (zrow n)) v9=v9:=by
    obtain⟨s',aZ,e',_,_,_,g4,_⟩:=p8
    have:s'≠h7.next:=λe=>n8 h7.next (by omega) 0 (q+1) aZ (by rw[e',e])
    rw[e'];simp only[sb,this,false_and,if_false]
   simp only[sbs,sb,this]
  have nB:∀q∈ls,Bels 0 q.cs:=λq hq=>by
   obtain⟨k,fY,rfl⟩:=List.mem_iff_getElem.1 hq;exact(fZ.2 k _ _ (List.getElem?_eq_getElem fY) (List.getElem?_eq_getElem (by rw[<-fZ.1];exact fY))).bI 0
  have u7:∀q∈ls,q.s≠h7.next:=λq hq e=>by have:=lo _ (.inr (.inr ⟨q,hq,e⟩));omega
  have mJ:=SU.fzh (o:=o1) (xs:=pis (zrow n)) wT An C5 (by have:=lo _ (.inl rfl);omega) rfl (λf hf off l c e=>by have:=lo _ (.inr (.inl ⟨f,hf,off,l,c,e⟩));omega) u7;rw[LS.fr_same nB]at mJ;simp only[List.map_cons,List.map_nil]at mJ;rw[iP,LS.sbs_pv u7,<-iP]at mJ;refine⟨mJ,?_,?_,by show h4.next<=h8.next;omega,λt ht=>lo t ?_⟩
  .obtain⟨s',aZ,e',g1,g2,g3,g4,g5⟩:=p8;have ar:s'≠h7.next:=λe=>n8 h7.next (by omega) 0 (q+1) aZ (by rw[e',e]);refine⟨s',aZ,e',g1,?_,?_,?_,g5⟩
   .rw[QK ar g2,zB6 (all.bI 0) (by simp[capOK])]
   .rw[List.length_append]at g3 ⊢;exact g3
   .rcases Nat.lt_or_ge s' h4.next with g|g
    .exact absurd e' (n8 s' (by omega) 0 (q+1) aZ)
    .exact g
  .exact zIt all ⟨true,_,by rw[List.length_replicate]⟩
  .rcases ht with e|⟨f,hf,off,l,c,e⟩|e
   .exact .inl e
   .simp only[List.mem_cons,List.not_mem_nil,or_false]at hf;rcases hf with rfl|rfl
    .exact .inr (.inl ⟨(v3,fT),by simp,off,l,c,e⟩)
    .exact .inr (.inl ⟨(vB,cC),by simp,off,l,c,e⟩)
   .exact .inr (.inr e)
 .have lO:i+1<n:=by omega
  simp only[Z3,seval,-ae,lO,List.length_replicate,zJ,Nat.succ_le_of_lt lO];generalize hX:(List.take (i+1) (List.replicate n (PV.int .i64 0))++[PV.int IntKind.i64 1]++List.drop (i+2) (List.replicate n (PV.int .i64 0)))=X;clear hX;simp only[Z3,seval,-ae,nj,f1];refine SU.push (a.keepI (zC h X)) (j:=0) (bytes:=24) rfl (by omega) (by omega) jn λv3 h3 z4 z5 z6 a3=>?_;simp only[List.set_cons_zero,List.set_cons_succ,List.map_cons,List.map_nil]at z6 a3;generalize h3.set (σ.next+3) [.int .i64 p,v3,vB]=h4 at *
  simp only[Z3,seval,-ae,z4,z5,z6,bB];clear z4 z5 z6 f1 f3;have AZ:∀t,(t=σ.next+3\/(∃f∈[(v3,cP++[PV.sl h.next 0 n (.known n)]),(vB,cC)],∃off l c,f.1=.sl t off l c)\/∃q∈ls,q.s=t)->t<h4.next:=λt ht=>by
   rcases ht with rfl|⟨f,hf,off,l,c,e⟩|⟨q,hq,rfl⟩
   .exact a3.p0b.2
   .exact QU (a3.acc f hf) e
   .exact(a3.lok q hq).2.2.2
  refine ZG (λm us h=>∃(q:Nat) (vR:PV) (fT cells:List PV),i+(1+q)<=n/\m=n-(i+(1+q))/\us=[.int .i64 n,.ptr σ.next 0,.ptr (σ.next+3) 0,.int .i64 i,vR,.int .i64 ((i+(1+q):Nat):Int)]/\CycI T h h4.next (σ.next+3) n q p v3 vB fT cC ls vR cells/\fT.length=i+1) (n-(i+1)) (.here ⟨0,.sl h4.next 0 0 (.known 0),_,[],by omega,rfl,rfl,⟨a3.keepI (zC _ _),PSl.new _ 1 rfl (vM _),All2.nil _,Nat.le_succ _,AZ⟩,by rw[List.length_append];simp;omega⟩) ?_
  rintro m us h7 ⟨q,vR,fT,cells,hq,rfl,rfl,c,lr⟩
  simp only[Z3,seval,-ae];refine iteI (λjF=>?_) λrn=>?_;rotate_left
  .have gR:q=n-1-i:=by omega
   subst gR;obtain⟨su,row,all,le,lo⟩:=c;obtain⟨t,cap,rfl,hf,q2,q3,q4,q5⟩:=row;have f2:h7.rd1 (σ.next+3) 2=some vB:=by rw[zI su.obj];rfl
   have uZ:¬σ.next+3=h7.next:=by have:=su.p0b.2;omega
   have gA:∀f,f∈[(v3,fT),(vB,cC)]->f.1.one=true:=λf hf=>(su.acc f hf).one;have ox:cells.length=n-1-i:=by omega
   have fP:∀u,(u=σ.next+3\/(∃f∈[(v3,fT),(vB,cC)],∃off l c,f.1=.sl u off l c)\/∃q∈ls,q.s=u)->t≠u:=λu hu e=>by have:=lo u hu;omega
   have sh:=SU.more (q:=⟨t,cap,cells⟩) su ⟨by rw[ox];exact hf,q2,by have:=a3.keep.next;show T.next<=t;omega,q5⟩ ⟨fP _ (.inl rfl),λf hf off l c e=>fP t (.inr (.inl ⟨f,hf,off,l,c,e⟩)) rfl⟩;simp only[Z3,seval,-ae,f2,uZ];refine SU.push sh (j:=1) (bytes:=24) rfl (by rw[iP,List.length_map,fZ.1,zBZ];omega) (by omega) gA λv5 h5 z1 z2 z3 a5=>?_;simp only[List.set_cons_zero,List.set_cons_succ,List.map_cons,List.map_nil]at z3 a5;generalize h5.set (σ.next+3) [.int .i64 p,v3,v5]=h6 at *
   simp only[Z3,seval,-ae,z1,z2,z3,bB];refine⟨_,by omega,i+1,v3,v5,fT,_,ls++[⟨t,cap,cells⟩],by omega,rfl,rfl,a5,lr,?_,?_,?_⟩
   .rw[iP,List.map_append];simp only[List.map_cons,List.map_nil,LS.pv];rw[ox]
   .rw[List.map_append,List.nodup_append];refine⟨jU,by simp,λx hx y hy e=>?_⟩;simp only[List.map_cons,List.map_nil,List.mem_singleton]at hy;obtain⟨q',bm,rfl⟩:=List.mem_map.1 hx;exact fP q'.s (.inr (.inr ⟨q',bm,rfl⟩)) (by rw[e,hy])
   .rw[zKE];exact All2.snoc fZ all
  have bm:i+(1+q)<n:=by omega
  have e5:IntKind.i64.wrap (((i+(1+q):Nat):Int)+1)=((i+(1+(q+1)):Nat):Int):=by rw[wrap64 (by omega) (by omega)];omega
  obtain⟨su,row,all,le,lo⟩:=c;simp only[Z3,seval,-ae,mk8 (n:=n) (by omega),mkL (n:=n) (by omega),qA];refine PAcc.pushS (σb:=T) (bytes:=24) (su.keep.new _) ((row.acc.keep (zC _ _)).low (by have:=a3.keep.next;omega)) rfl (by omega) (by omega) λv9 h8 k8 p8 o8 n8 l8=>?_;have dk:(h7.new (pis (List.replicate n 0))).next=h7.next+1:=rfl;rw[dk]at o8 n8 l8;simp only[Z3,seval,-ae,e5];have BQ:∀t,t<h4.next->∀off l c,vR≠.sl t off l c:=λt ht off l c e=>by
   obtain⟨s',aZ,e',_,_,_,g4,_⟩:=row;rw[e']at e;cases e;omega
  have An:SU T h8 (σ.next+3) (.int .i64 p) [(v3,fT),(vB,cC)] ls:=su.move k8 (by omega) λt ht=>by
   have:=lo t ht
   rw[o8 t (by omega) (BQ t this),zP,if_neg (by omega)]
  have fJ:h8.obj h7.next=some (pis (zrow n)):=by
   rw[o8 _ (by omega) (λoff l c e=>by have:=QU row e;omega),zP,if_pos rfl]
  have C5:T.next<=h7.next:=su.keep.next;refine⟨n-(i+(1+(q+1))),by omega,.fzh h7.next (pis (zrow n)) fJ (zL _ _) λo1=>.here ⟨q+1,v9,sbs h7.next o1 (pis (zrow n)) fT,cells++[.fz true (.sl o1 0 n (.known n)) n (pis (zrow n))],by omega,rfl,?_,?_,by rw[ZT];exact lr⟩⟩
  .have:sb h7.next o1 (pis (zrow n)) v9=v9:=by
    obtain⟨s',aZ,e',_,_,_,g4,_⟩:=p8
    have:s'≠h7.next:=λe=>n8 h7.next (by omega) 0 (q+1) aZ (by rw[e',e])
    rw[e'];simp only[sb,this,false_and,if_false]
   simp only[sbs,sb,this]
  have nB:∀q∈ls,Bels 0 q.cs:=λq hq=>by
   obtain⟨k,fY,rfl⟩:=List.mem_iff_getElem.1 hq;exact(fZ.2 k _ _ (List.getElem?_eq_getElem fY) (List.getElem?_eq_getElem (by rw[<-fZ.1];exact fY))).bI 0
  have u7:∀q∈ls,q.s≠h7.next:=λq hq e=>by have:=lo _ (.inr (.inr ⟨q,hq,e⟩));omega
  have mJ:=SU.fzh (o:=o1) (xs:=pis (zrow n)) wT An C5 (by have:=lo _ (.inl rfl);omega) rfl (λf hf off l c e=>by have:=lo _ (.inr (.inl ⟨f,hf,off,l,c,e⟩));omega) u7;rw[LS.fr_same nB]at mJ;simp only[List.map_cons,List.map_nil]at mJ;rw[iP,LS.sbs_pv u7,<-iP]at mJ;refine⟨mJ,?_,?_,by show h4.next<=h8.next;omega,λt ht=>lo t ?_⟩
  .obtain⟨s',aZ,e',g1,g2,g3,g4,g5⟩:=p8;have ar:s'≠h7.next:=λe=>n8 h7.next (by omega) 0 (q+1) aZ (by rw[e',e]);refine⟨s',aZ,e',g1,?_,?_,?_,g5⟩
   .rw[QK ar g2,zB6 (all.bI 0) (by simp[capOK])]
   .rw[List.length_append]at g3 ⊢;exact g3
   .rcases Nat.lt_or_ge s' h4.next with g|g
    .exact absurd e' (n8 s' (by omega) 0 (q+1) aZ)
    .exact g
  .exact zIt all ⟨true,_,by rw[List.length_replicate]⟩
  .rcases ht with e|⟨f,hf,off,l,c,e⟩|e
   .exact .inl e
   .simp only[List.mem_cons,List.not_mem_nil,or_false]at hf;rcases hf with rfl|rfl
    .exact .inr (.inl ⟨(v3,fT),by simp,off,l,c,e⟩)
    .exact .inr (.inl ⟨(vB,cC),by simp,off,l,c,e⟩)
   .exact .inr (.inr e)
def FI0(v:PV)(w:V1):Prop:=w=[]\/FI v w
def FI1(t n:Nat)(v:PV)(w:V1):Prop:=w=[]\/FI v w\/(v=.sl t 0 n (.known n)/\w=zrow n)
def zW(n i:Nat):V2:=List.replicate i (zrow n)++List.replicate (n-i) []
theorem zQW{i:Nat}(hi:i<n):(zW n i).set i (zrow n)=zW n (i+1):=by
 unfold zW;rw[List.set_append_right _ _ (by simp),List.length_replicate,Nat.sub_self,show n-i=(n-(i+1))+1 by omega,List.replicate_succ,List.set_cons_zero,List.replicate_succ',List.append_assoc];rfl
theorem zKR{t:Nat}(X Y:List PV)(ht:t≠h.next):(h.new X).set t Y=(h.set t Y).new X:=by
 have e:∀u,((h.new X).set t Y).obj u=((h.set t Y).new X).obj u:=λu=>by
  rw[zH,zP,zP,zH]
  show(if u=t then some Y else if u=h.next then some X else h.obj u)=(if u=h.next then some X else if u=t then some Y else h.obj u)
  by_cases e1:u=t
  .by_cases e2:u=h.next
   .exact absurd (e1.symm.trans e2) ht
   .simp[e1,ht]
  .simp[e1]
 show(⟨h.next+1,h.top,((h.new X).set t Y).obj⟩:PHeap)=⟨h.next+1,h.top,((h.set t Y).new X).obj⟩
 rw[funext e]
structure FlatI(T h:PHeap)(p0 n i:Nat)(p:Int)(sP:Nat)(capP:Cap)(cs:List PV)(sB:Nat)(ai:Cap)(ls:List LS):Prop where
 keep:Keep T h
 obj:h.obj p0=some [.int .i64 p,.sl sP 0 n capP,.sl sB 0 n ai]
 lt:p0<h.next
 ge:T.next<=p0
 ne:∀t,(t=sP\/t=sB\/∃q∈ls,q.s=t)->p0≠t
 rs:RS FI0 FI T.next h n sP capP cs sB ai ls (zW n i) (zB n n)
theorem zCe(dX:1<=n)(aN:n<=6)
  (hk:∀sP capP cs sB ai ls h,Keep σ h->RS FI FI σ.next h n sP capP cs sB ai ls (List.replicate n (zrow n)) (zB n n)->K (.agg [.int .i64 p,.sl sP 0 n capP,.sl sB 0 n ai]) h):
  zA Tryz.prog 204 [.int .i64 p,.int .i64 n] σ K:=by
 refine zA.pwf λw=>?_;generalize hT:σ.new [.int .i64 0,.fz true .nils 0 [],.fz true .nils 0 []]=T;have cJ:T.next=σ.next+1:=by rw[<-hT];rfl
 have cg:Keep σ T:=by rw[<-hT];exact zC σ _
 have wT:PWF T:=by rw[<-hT];exact w.newB ⟨trivial,trivial,trivial,trivial⟩
 have aI:∀{g:PHeap} {u0 u1 u2:PV},Keep T g->u0.one=true->u1.one=true->u2.one=true->g.wr σ.next 0 [u0,u1,u2]=some (g.set σ.next [u0,u1,u2])/\(g.set σ.next [u0,u1,u2]).rd σ.next 0 3=some [u0,u1,u2]:=λ{g u0 u1 u2} k z0 z1 z2=>by
  have aI:g.obj σ.next=some [.int .i64 0,.fz true .nils 0 [],.fz true .nils 0 []]:=by rw[k.obj _ (by omega),<-hT];simp only[Z3,seval,-ae]
  exact⟨by rw[qC aI,if_pos ⟨by simp,by simp only[List.all_cons,List.all_nil,z0,z1,z2];rfl⟩];rfl,by rw[qh,if_pos rfl];rfl⟩
 refine zD mix Tryz.func204 ?_
 conv=>arg 2;cbv
 refine zF rfl ?_;simp only[Z3,seval,-ae];rw[hT];refine zIC dX aN λsP capP cs sB ai ls h1 k1 nK=>?_;have Cd:=k1.next;simp only[Z3,seval,-ae];refine ZG (λm us h=>∃(i:Nat) (cs:List PV) (ls:List LS),i<=n/\m=n-i/\us=[.int .i64 n,.ptr σ.next 0,.ptr h1.next 0,.int .i64 i]/\FlatI T h h1.next n i p sP capP cs sB ai ls) n (.here ⟨0,cs,ls,by omega,by omega,rfl,⟨k1.new _,by simp only[Z3,seval,-ae],by show _<h1.next+1;omega,Cd,λt ht e=>by have:=(nK.lt ht).2;omega,?_⟩⟩) ?_
 .rw[show zW n 0=List.replicate n [] by simp[zW]];exact(nK.imp (RP':=FI0) ⟨by rw[nK.csl];simp,λj x y hx hy=>.inl (List.eq_of_mem_replicate (List.mem_of_getElem? hy))⟩ nK.aB).new _
 rintro m us h2 ⟨i,cs,ls,hi,rfl,rfl,⟨keep,obj,lt,ge,ne,rs⟩⟩
 have f3:h2.rd h1.next 0 3=some [.int .i64 p,.sl sP 0 n capP,.sl sB 0 n ai]:=by rw[ze obj];rfl
 have f1:h2.rd1 h1.next 1=some (.sl sP 0 n capP):=by rw[zI obj];rfl
 simp only[Z3,seval,-ae];refine iteI (λah=>?_) λaG=>?_;rotate_left
 .have aK:i=n:=by omega
  subst aK;obtain⟨g1,g2⟩:=aI (u0:=.int .i64 p) (u1:=.sl sP 0 i capP) (u2:=.sl sB 0 i ai) keep rfl rfl rfl;simp only[Z3,seval,-ae,f3,g1,g2];have e0:zW i i=List.replicate i (zrow i):=by simp[zW]
  rw[e0]at rs;have mK:RS FI FI T.next h2 i sP capP cs sB ai ls (List.replicate i (zrow i)) (zB i i):=rs.imp ⟨rs.aP.1,λj x y hx hy=>(rs.aP.2 j x y hx hy).resolve_left λe=>by
   have:=List.eq_of_mem_replicate (List.mem_of_getElem? hy)
   rw[this]at e
   have:=congrArg List.length e
   simp at this;omega⟩ rs.aB
  exact hk sP capP cs sB ai ls _ ((cg.trans keep).set (vM _) _) ((mK.low (by omega)).move (λt ht=>by
   have:=(mK.lt ht).1
   rw[zH,if_neg (by omega)]) (vM _))
 have aE:i<n:=by omega
 have MP:=keep.next;have nj:¬h1.next=h2.next:=by omega
 have bB:IntKind.i64.wrap ((i:Int)+1)=((i+1:Nat):Int):=wrapS aE (by omega);have qn:¬sP=h2.next:=λe=>by have:=(rs.lt (.inl e.symm)).2;omega
 have BH:∀t,(t=sP\/t=sB\/∃q∈ls,q.s=t)->t<h2.next:=λt ht=>(rs.lt ht).2;have tq:=(rs.imp (RP':=FI1 h2.next n) ⟨rs.aP.1,λj x y hx hy=>(rs.aP.2 j x y hx hy).imp id .inl⟩ rs.aB).new (pis (zrow n));obtain⟨w1,Ay⟩:=tq.putP (i:=i) (v:=.sl h2.next 0 n (.known n)) (w:=zrow n) aE (.inr (.inr ⟨rfl,rfl⟩)) rfl;rw[zQW aE]at Ay;simp only[Z3,seval,-ae,f1,mk8 (n:=n) (by omega),mkL (n:=n) (by omega),qA,aE,w1,bB,nj,qn];rw[zKR _ _ qn]at Ay;refine⟨n-(i+1),by omega,.fzh h2.next (pis (zrow n)) (by rw[zP];exact if_pos rfl) (zL _ _) λo1=>.here ⟨i+1,sbs h2.next o1 (pis (zrow n)) (cs.set i (.sl h2.next 0 n (.known n))),ls.map (LS.fr h2.next o1 (pis (zrow n))),by omega,rfl,by simp only[sbs,sb],?_⟩⟩;have ky:∀t,(t=sP\/t=sB\/∃q∈ls,q.s=t)->t≠h2.next:=λt ht e=>by have:=BH t ht;omega
 have G2:=Ay.fzh (RP':=FI0) (R':=FI) (t:=h2.next) (o:=o1) (xs:=pis (zrow n)) ⟨Ne.symm (ky _ (.inl rfl)),Ne.symm (ky _ (.inr (.inl rfl))),λq hq=>ky _ (.inr (.inr ⟨q,hq,rfl⟩))⟩ (λv w hv=>?_) (λv w hv=>by rw[hv.sb];exact hv)
 .refine⟨((keep.set (by have:=rs.P.2.2.1;omega) _).new _ |>.kill (by omega)).sub wT (by omega),?_,?_,ge,λt ht=>ne t ?_,G2⟩
  .rw[QK nj (by rw[zP,if_neg (by exact nj),zH,if_neg (ne _ (.inl rfl))];exact obj)];simp only[sbs,sb,qn,Ne.symm (ky _ (.inr (.inl rfl))),ky _ (.inr (.inl rfl)),false_and,if_false]
  .show h1.next<h2.next+1;omega
  .rcases ht with e|e|⟨q,hq,e⟩
   .exact .inl e
   .exact .inr (.inl e)
   .obtain⟨q',bm,rfl⟩:=List.mem_map.1 hq;exact .inr (.inr ⟨q',bm,e⟩)
 .rcases hv with e|e|⟨e,e2⟩
  .exact .inl e
  .exact .inr (by rw[e.sb];exact e)
  .refine .inr ?_;rw[e,e2];simp only[sb,capOK,and_self,if_true,vM,decide_true];exact⟨true,_,by rw[List.length_replicate]⟩
variable{h':PHeap}{vC:PV}{bs:V1}{b r0:Nat}{R:PV->V1->Prop}{F F':V2->V3->Prop}
structure OkF(p:Int)(n:Nat)(W:V2)(B:V3):Prop where
 w:OkW p n W
 b:OkB p n B
theorem OkF.zero(hp:okp p)(hn:n<=6):OkF p n (List.replicate n (zrow n)) (zB n n):=by
 have hz:El p n (zrow n):=⟨by simp,λy hy=>by rw[List.eq_of_mem_replicate hy];have:=hp.1;omega⟩
 refine⟨⟨hp,hn,by simp,λi hi=>?_⟩,⟨zBZ n n,λi hi=>by simp[zB],λi hi k hk=>?_⟩⟩
 .rw[List.getElem_replicate];exact⟨hz.1,hz.2,λj _=>zn _ _⟩
 .simp only[zB,List.getElem_map,List.getElem_range,List.getElem_replicate];exact⟨hz,λj _=>zn _ _⟩
theorem OkF.setP(a:OkF p n W B){i:Nat}{w:V1}(hw:El p n w)(hz:∀j,j<=i->at_ w j=0):OkF p n (W.set i w) B:=by
 refine⟨⟨a.w.pr,a.w.le,by rw[List.length_set];exact a.w.len,λj hj=>?_⟩,a.b⟩;rw[List.getElem_set];split
 .rename_i e;subst e;exact⟨hw.1,hw.2,hz⟩
 .exact a.w.row j (by rw[List.length_set]at hj;exact hj)
theorem OkF.setB(a:OkF p n W B){i k:Nat}{w:V1}(hi:i<n)(hw:El p n w)(hz:∀j,j<=i+k+1->at_ w j=0):OkF p n W (B.set i ((B.getD i []).set k w)):=by
 have dw:i<B.length:=by rw[a.b.len];exact hi
 refine⟨a.w,⟨by rw[List.length_set];exact a.b.len,λj hj=>?_,λj hj m hm=>?_⟩⟩
 .rw[List.getElem_set];split
  .rename_i e;subst e;rw[List.length_set,zO dw];exact a.b.row i dw
  .exact a.b.row j (by rw[List.length_set]at hj;exact hj)
 .rw[List.length_set]at hj;by_cases e:i=j
  .subst e;have e2:(B.set i ((B.getD i []).set k w))[i]'(by rw[List.length_set];exact hj)=(B.getD i []).set k w:=by simp
   simp only[e2]at hm ⊢;rw[List.getElem_set];rw[List.length_set,zO dw]at hm;split
   .rename_i e3;subst e3;exact⟨hw,hz⟩
   .have:=a.b.ent i hj m hm
    simp only[zO dw];exact this
  .have e2:(B.set i ((B.getD i []).set k w))[j]'(by rw[List.length_set];exact hj)=B[j]:=by simp[e]
   simp only[e2]at hm ⊢;exact a.b.ent j hj m hm
structure SmF(W:V2)(B:V3):Prop where
 w:∀r∈W,r.length<=6
 bl:∀q∈B,q.length<=6
 b:∀q∈B,∀r∈q,r.length<=6
theorem OkF.sm(a:OkF p n W B):SmF W B:=by
 have hn:=a.w.le;refine⟨λr hr=>?_,λq hq=>?_,λq hq r hr=>?_⟩
 .obtain⟨i,hi,rfl⟩:=List.mem_iff_getElem.1 hr;rw[(a.w.row i hi).1];exact hn
 .obtain⟨i,hi,rfl⟩:=List.mem_iff_getElem.1 hq;rw[a.b.row i hi];omega
 .obtain⟨i,hi,rfl⟩:=List.mem_iff_getElem.1 hq;obtain⟨k,hk,rfl⟩:=List.mem_iff_getElem.1 hr;rw[(a.b.ent i hi k hk).1.1];exact hn
theorem SmF.setP(a:SmF W B){i:Nat}{w:V1}(hw:w.length<=6):SmF (W.set i w) B:=⟨λr hr=>by
 rcases List.mem_or_eq_of_mem_set hr with e|e
 .exact a.w r e
 .rw[e];exact hw,a.bl,a.b⟩
theorem SmF.setB(a:SmF W B){i k:Nat}{w:V1}(hi:i<B.length)(hw:w.length<=6):SmF W (B.set i ((B.getD i []).set k w)):=by
 have hm:B.getD i []∈B:=by rw[zO hi];exact List.getElem_mem hi
 refine⟨a.w,λq hq=>?_,λq hq r hr=>?_⟩
 .rcases List.mem_or_eq_of_mem_set hq with e|e
  .exact a.bl q e
  .rw[e,List.length_set];exact a.bl _ hm
 .rcases List.mem_or_eq_of_mem_set hq with e|e
  .exact a.b q e r hr
  .rw[e]at hr;rcases List.mem_or_eq_of_mem_set hr with e2|e2
   .exact a.b _ hm r e2
   .rw[e2];exact hw
structure GS(E:Nat->V1->Prop)(R:PV->V1->Prop)(F:V2->V3->Prop)(σ h:PHeap)(s:Nat)(vC:PV)(bs:V1)(r0:Nat)(p:Int)(n sP:Nat)(capP:Cap)(sB:Nat)(ai:Cap):Prop where
 km:KM σ s h
 so:So h s vC bs
 sl:s<σ.next
 obj:h.obj r0=some [.int .i64 p,.sl sP 0 n capP,.sl sB 0 n ai]
 r0b:σ.next<=r0/\r0<h.next
 rs:∃cs ls W B,RS FI R σ.next h n sP capP cs sB ai ls W B/\F W B/\(∀t,(t=sP\/t=sB\/∃q∈ls,q.s=t)->r0≠t)/\∀u x,E u x->∀t,(t=sP\/t=sB\/∃q∈ls,q.s=t)->u≠t
 ex:∀u x,E u x->h.obj u=some (pis x)/\σ.next<=u/\u<h.next/\u≠r0
def E0(_:Nat)(_:V1):Prop:=False
variable{E:Nat->V1->Prop}
theorem GS.rd(a:GS E R F σ h s vC bs r0 p n sP capP sB ai):h.rd r0 0 3=some [.int .i64 p,.sl sP 0 n capP,.sl sB 0 n ai]/\h.rd1 r0 0=some (.int .i64 p)/\h.rd1 r0 1=some (.sl sP 0 n capP)/\h.rd1 r0 2=some (.sl sB 0 n ai):=by
 refine⟨by rw[ze a.obj];rfl,?_,?_,?_⟩<;>(rw[zI a.obj];rfl)
theorem GS.mv(a:GS E R F σ h s vC bs r0 p n sP capP sB ai)(m:Mv h s h')(so:So h' s vC bs):GS E R F σ h' s vC bs r0 p n sP capP sB ai:=by
 have hs:=a.sl;obtain⟨cs,ls,W,B,rs,f,ne⟩:=a.rs;exact⟨a.km.mv hs m,so,hs,by rw[m.obj (by have:=a.r0b.1;omega)];exact a.obj,⟨a.r0b.1,by rw[m.next];exact a.r0b.2⟩,⟨cs,ls,W,B,rs.mv hs m,f,ne⟩,λu x e=>by
  obtain⟨g1,g2,g3,g4⟩:=a.ex u x e;exact⟨by rw[m.obj (by omega)];exact g1,g2,by rw[m.next];exact g3,g4⟩⟩
theorem GS.keep(a:GS E R F σ h s vC bs r0 p n sP capP sB ai)(k:Keep h h'):GS E R F σ h' s vC bs r0 p n sP capP sB ai:=by
 obtain⟨cs,ls,W,B,rs,f,ne⟩:=a.rs;exact⟨a.km.keep k,a.so.keep k,a.sl,by rw[k.obj _ a.r0b.2];exact a.obj,⟨a.r0b.1,Nat.lt_of_lt_of_le a.r0b.2 k.next⟩,⟨cs,ls,W,B,rs.keep k,f,ne⟩,λu x e=>by
  obtain⟨g1,g2,g3,g4⟩:=a.ex u x e;exact⟨by rw[k.obj _ g3];exact g1,g2,Nat.lt_of_lt_of_le g3 k.next,g4⟩⟩
theorem GS.new(a:GS E R F σ h s vC bs r0 p n sP capP sB ai)(xs:List PV):GS E R F σ (h.new xs) s vC bs r0 p n sP capP sB ai:=a.keep (zC h xs)
theorem GS.newE{t:Nat}{x:V1}(a:GS E0 R F σ h s vC bs r0 p n sP capP sB ai)(ht:t=h.next):GS (λu y=>u=t/\y=x) R F σ (h.new (pis x)) s vC bs r0 p n sP capP sB ai:=by
 subst ht;have b:=a.new (pis x);obtain⟨cs,ls,W,B,rs,f,ne,_⟩:=b.rs;obtain⟨dT,HJ,W',B',mK,f',ne',_⟩:=a.rs;refine⟨b.km,b.so,b.sl,b.obj,b.r0b,⟨dT,HJ,W',B',mK.new _,f',ne',λu y e t ht e2=>?_⟩,λu y e=>?_⟩
 .have:=(mK.lt ht).2
  omega
 .obtain⟨rfl,rfl⟩:=e;exact⟨by rw[zP,if_pos rfl],by have:=a.km.next;omega,Nat.lt_succ_self _,by have:=a.r0b.2;omega⟩
theorem GS.setE{t i:Nat}{x:V1}{y:Int}(a:GS (λu y=>u=t/\y=x) R F σ h s vC bs r0 p n sP capP sB ai)(hi:i<x.length):
  ∃h',h.wr t i [.int .i64 y]=some h'/\GS (λu z=>u=t/\z=x.set i y) R F σ h' s vC bs r0 p n sP capP sB ai:=by
 obtain⟨g1,g2,g3,g4⟩:=a.ex t x ⟨rfl,rfl⟩;obtain⟨cs,ls,W,B,rs,f,ne,nx⟩:=a.rs;have hw:=QS (v:=.int .i64 y) g1 (by rw[zJ];exact hi) rfl;rw[zB8]at hw;refine⟨_,hw,a.km.set g2 _,a.so.set (by have:=a.sl;omega) _,a.sl,by rw[zH,if_neg (Ne.symm g4)];exact a.obj,a.r0b,⟨cs,ls,W,B,rs.move (λu hu=>by rw[zH,if_neg (Ne.symm (nx t x ⟨rfl,rfl⟩ u hu))]) (vM _),f,ne,λu z e u' Ig=>?_⟩,λu z e=>?_⟩
 .obtain⟨rfl,rfl⟩:=e;exact nx _ x ⟨rfl,rfl⟩ u' Ig
 .obtain⟨rfl,rfl⟩:=e;exact⟨by rw[zH,if_pos rfl],g2,g3,g4⟩
theorem GS.putP(a:GS E R F σ h s vC bs r0 p n sP capP sB ai){i:Nat}{v:PV}{w:V1}(hi:i<n)(hv:FI v w)(hF:∀W B,F W B->F' (W.set i w) B):
  ∃h',h.wr sP i [v]=some h'/\GS E R F' σ h' s vC bs r0 p n sP capP sB ai:=by
 obtain⟨cs,ls,W,B,rs,f,ne,nx⟩:=a.rs;obtain⟨w1,mK⟩:=rs.putP hi hv hv.one;have h1:=rs.P.2.2.1;have h2:=ne _ (.inl rfl);refine⟨_,w1,a.km.set h1 _,a.so.set (by have:=a.sl;omega) _,a.sl,by rw[zH,if_neg h2];exact a.obj,a.r0b,⟨_,ls,_,B,mK,hF W B f,ne,nx⟩,λu x e=>?_⟩;obtain⟨g1,g2,g3,g4⟩:=a.ex u x e;exact⟨by rw[zH,if_neg (nx u x e _ (.inl rfl))];exact g1,g2,g3,g4⟩
theorem GS.rdB(a:GS E R F σ h s vC bs r0 p n sP capP sB ai){i:Nat}(hi:i<n)(hF:∀W B,F W B->(B.getD i []).length=n-1-i):∃t cap,h.rd1 sB i=some (.sl t 0 (n-1-i) cap):=by
 obtain⟨cs,ls,W,B,rs,f,ne⟩:=a.rs;obtain⟨q,h1,h2,h3⟩:=rs.rdB hi;rw[hF W B f]at h3;exact⟨q.s,q.cap,by rw[h2,LS.pv,h3]⟩
theorem GS.putB{R':PV->V1->Prop}(a:GS E R F σ h s vC bs r0 p n sP capP sB ai){i k t l:Nat}{cap:Cap}{v:PV}{w:V1}(hi:i<n)(hr:h.rd1 sB i=some (.sl t 0 l cap))(hk:k<l)(hR:∀v w,R v w->R' v w)(hv:R' v w)(ho:v.one=true)(hF:∀W B,i<B.length->F W B->F' W (B.set i ((B.getD i []).set k w))):
    ∃h',h.wr t k [v]=some h'/\GS E R' F' σ h' s vC bs r0 p n sP capP sB ai/\h'.rd1 sB i=some (.sl t 0 l cap)/\h'.rd1 t k=some v:=by
  obtain⟨cs,ls,W,B,rs,f,ne,nx⟩:=a.rs;obtain⟨q,h1,h2,h3⟩:=rs.rdB hi;rw[h2,LS.pv,Option.some.injEq,PV.sl.injEq]at hr;obtain⟨rfl,_,rfl,rfl⟩:=hr;have tq:RS FI R' σ.next h n sP capP cs sB ai ls W B:=rs.imp rs.aP ⟨rs.aB.1,λj x y hx hy=>⟨(rs.aB.2 j x y hx hy).1,λj' x' y' df H6=>hR _ _ ((rs.aB.2 j x y hx hy).2 j' x' y' df H6)⟩⟩;obtain⟨w1,mK⟩:=tq.putB h1 hk hv ho;have hm:=List.mem_of_getElem? h1;have g1:=(rs.lok q hm).2.2.1;have g2:=ne _ (.inr (.inr ⟨q,hm,rfl⟩));have g3:=rs.lne q hm;have IT:i<B.length:=by rw[rs.lB];exact hi
  have cl:∀{X:Nat},(∀t,(t=sP\/t=sB\/∃q∈ls,q.s=t)->X≠t)->∀u,(u=sP\/u=sB\/∃q'∈ls.set i ⟨q.s,q.cap,q.cs.set k v⟩,q'.s=u)->X≠u:=λne u hu=>by
    rcases hu with e|e|⟨q',bm,e⟩
    .exact ne u (.inl e)
    .exact ne u (.inr (.inl e))
    . obtain⟨j,hj⟩:=List.getElem?_of_mem bm
      rw[List.getElem?_set]at hj;split at hj
      . first
        |(cases hj;exact ne u (.inr (.inr ⟨q,hm,e⟩)))
        | (split at hj
           .cases hj;exact ne u (.inr (.inr ⟨q,hm,e⟩))
           .cases hj)
      .exact ne u (.inr (.inr ⟨q',List.mem_of_getElem? hj,e⟩))
  refine⟨_,w1,⟨a.km.set g1 _,a.so.set (by have:=a.sl;omega) _,a.sl,by rw[zH,if_neg g2];exact a.obj,a.r0b,⟨cs,_,W,_,mK,hF W B IT f,cl ne,λu x e=>cl (nx u x e)⟩,λu x e=>?_⟩,?_,?_⟩
  . obtain⟨y1,y2,y3,y4⟩:=a.ex u x e
    exact⟨by rw[zH,if_neg (nx u x e _ (.inr (.inr ⟨q,hm,rfl⟩)))];exact y1,y2,y3,y4⟩
  .rw[zEX,if_neg (Ne.symm g3.2)];exact h2
  .rw[zEX,if_pos rfl,List.getElem?_set,if_pos rfl,if_pos hk]
theorem GS.sBb{E:Nat->V1->Prop}(a:GS E R F σ h s vC bs r0 p n sP capP sB ai):σ.next<=sB/\sB<h.next:=by
 obtain⟨cs,ls,W,B,rs,_⟩:=a.rs;exact rs.Q.2.2
theorem Mv.rd1(m:Mv h s h'){u i:Nat}(hu:u≠s):h'.rd1 u i=h.rd1 u i:=by simp only[PHeap.rd1,m.obj hu]
theorem PWF.setS{c0 c1:List PV}(w:PWF σ)(h0:σ.obj s=some c0)(hb:Bels 0 c1):PWF (σ.set s c1):=by
 have hs:s<σ.next:=w.lt h0;refine⟨λt ht=>?_,λt cs ht=>?_⟩
 .have db:σ.next<=t:=ht;rw[zH,if_neg (by omega)];exact w.wf t db
 .rw[zH]at ht;split at ht
  .cases ht;exact Bels.up (Nat.zero_le _) hb
  .exact w.bel t cs ht
theorem KM.fr{t o u:Nat}{xs:List PV}(k:KM σ s h)(w:PWF σ)(ht:σ.next<=t)(hu:h.top<=u):KM σ s (((h.kill t).sub t o xs).up u):=by
 obtain⟨σ',⟨c0,c1,h0,h1,rfl⟩,q⟩:=k;have q2:Keep (σ.set s c1) ((h.kill t).sub t o xs):=(q.kill (s:=t) (by exact ht)).sub (PWF.setS w h0 h1) (by exact ht);exact⟨_,⟨c0,c1,h0,h1,rfl⟩,q2.next,Nat.le_trans q.top hu,q2.obj⟩
theorem So.fr{t o u:Nat}{xs:List PV}(k:So h s vC bs)(ht:s≠t):So (((h.kill t).sub t o xs).up u) s vC bs:=by
 obtain⟨a,sd,S⟩:=k;refine⟨a,sd,?_,S.lt,S.fb,S.byt,S.le,S.sd⟩
 have:=QK (o:=o) (xs:=xs) ht S.obj
 rw[QL (Nat.zero_le _) (S.fb.bels 0 _ _)]at this;exact this
def FI2(t n:Nat)(cap:Cap)(X:V1)(v:PV)(w:V1):Prop:=FI v w\/(v=.sl t 0 n cap/\w=X)
theorem GS.setp{E:Nat->V1->Prop}(a:GS E R F σ h s vC bs r0 p n sP capP sB ai)(q:Int):
  ∃h',h.wr r0 0 [.int .i64 q]=some h'/\GS E R F σ h' s vC bs r0 q n sP capP sB ai:=by
 obtain⟨cs,ls,W,B,rs,f,ne,nx⟩:=a.rs;refine⟨_,QS a.obj (by simp) rfl,a.km.set a.r0b.1 _,a.so.set (by have:=a.sl;have:=a.r0b.1;omega) _,a.sl,by rw[zH,if_pos rfl];rfl,a.r0b,⟨cs,ls,W,B,rs.move (λt ht=>by rw[zH,if_neg (Ne.symm (ne t ht))]) (vM _),f,ne,nx⟩,λu x e=>?_⟩;obtain⟨g1,g2,g3,g4⟩:=a.ex u x e;exact⟨by rw[zH,if_neg g4];exact g1,g2,g3,g4⟩
theorem GS.imp{E:Nat->V1->Prop}(a:GS E R F σ h s vC bs r0 p n sP capP sB ai)(hF:∀W B,F W B->F' W B):GS E R F' σ h s vC bs r0 p n sP capP sB ai:=by
 obtain⟨cs,ls,W,B,rs,f,ne⟩:=a.rs;exact⟨a.km,a.so,a.sl,a.obj,a.r0b,⟨cs,ls,W,B,rs,hF W B f,ne⟩,a.ex⟩
theorem natlt:((0:Int)<((1:Nat):Int))/\((0:Int)<((2:Nat):Int))/\((0:Int)<((3:Nat):Int))/\((0:Int)<((4:Nat):Int))/\((0:Int)<((5:Nat):Int))/\((0:Int)<((6:Nat):Int))/\((1:Int)<((2:Nat):Int))/\((1:Int)<((3:Nat):Int))/\((1:Int)<((4:Nat):Int))/\((1:Int)<((5:Nat):Int))/\((1:Int)<((6:Nat):Int))/\((2:Int)<((3:Nat):Int))/\((2:Int)<((4:Nat):Int))/\((2:Int)<((5:Nat):Int))/\((2:Int)<((6:Nat):Int))/\((3:Int)<((4:Nat):Int))/\((3:Int)<((5:Nat):Int))/\((3:Int)<((6:Nat):Int)):=by decide
theorem ownFI{v:PV}{xs:V1}(hv:FI v xs)(hb:xs.length<=4294967296)(hk:∀v',FI v' xs->K v' σ):zA Tryz.prog 271 [v] σ K:=by
 obtain⟨w,a,rfl⟩:=hv;exact zGm rfl hb λv=>hk _ ⟨_,_,rfl⟩
end Go.Proofs
namespace Go.Proofs
open Go.Ab Go.Lie
variable{σ h:PHeap}{K:PV->PHeap->Prop}{vC:PV}{bs:V1}{s b n r0:Nat}{p:Int}{sP sB:Nat}{capP ai:Cap}{cs:List PV}{ls:List LS}{W:V2}{B:V3}{F':V2->V3->Prop}
theorem zFZ(so:So σ s vC bs)
  (hk:∀p n sP capP cs sB ai ls h W B,isP p->1<=n->ipow p n<=729->OkF p n W B->KM σ s h->So h s vC bs->RS FI FI σ.next h n sP capP cs sB ai ls W B->K (.agg [.int .i64 p,.sl sP 0 n capP,.sl sB 0 n ai]) h):
  zA Tryz.prog 304 [.ptr s 0] σ K:=by
 refine zA.pwf λw=>?_;have bK:=so.lt;refine zA.gh ?_;generalize hT:σ.new [.int .i64 0,.fz true .nils 0 [],.fz true .nils 0 []]=T;have cJ:T.next=σ.next+1:=by rw[<-hT];rfl
 have cg:Keep σ T:=by rw[<-hT];exact zC σ _
 have dp:So T s vC bs:=so.keep cg;have bQ:s<T.next:=dp.lt;have fU:T.obj σ.next=some [.int .i64 0,.fz true .nils 0 [],.fz true .nils 0 []]:=by rw[<-hT];simp only[Z3,seval,-ae]
 refine zN mix Tryz.func304 cf304 rfl ?_;dsimp only[if304,qI,eI,nI,qD,eD,mI0,kI0,lI0,LI0,fI0,xI0,bI0,cI0,C2,mD0,lD0,fD0,xD0,I0,yI0,vI0,wD0,R0,S0];simp only[Z3,seval,-ae];rw[hT];refine zw dp (by decide) λkd h1 kR m1 dP=>?_;have Ew:=kR.1;have HO:=kR.lt (by decide);simp only[Z3,seval,-ae];refine zw dP (by decide) λx h2 hx m2 dy=>?_;have x0:=hx.1;have x4:=hx.lt (by decide);have wx:IntKind.i64.wrap (1+x)=1+x:=wrap64 (by omega) (by omega);obtain⟨n,dX,aN,EN,uY⟩:∃n:Nat,1<=n/\n<=6/\([1+x,3,4,4,5,5,6,3]:V1)[kd.toNat]? = some (n:Int)/\(kd=0\/(kd=1/\n=3)\/(kd=2/\n=4)\/(kd=3/\n=4)\/(kd=4/\n=5)\/(kd=5/\n=5)\/(kd=6/\n=6)\/(kd=7/\n=3)):=by
  have e:kd=0\/kd=1\/kd=2\/kd=3\/kd=4\/kd=5\/kd=6\/kd=7:=by omega
  rcases e with rfl|rfl|rfl|rfl|rfl|rfl|rfl|rfl
  .exact⟨(1+x).toNat,by omega,by omega,by simp;omega,.inl rfl⟩
  .exact⟨3,by omega,by omega,rfl,by simp⟩
  .exact⟨4,by omega,by omega,rfl,by simp⟩
  .exact⟨4,by omega,by omega,rfl,by simp⟩
  .exact⟨5,by omega,by omega,rfl,by simp⟩
  .exact⟨5,by omega,by omega,rfl,by simp⟩
  .exact⟨6,by omega,by omega,rfl,by simp⟩
  .exact⟨3,by omega,by omega,rfl,by simp⟩
 have jh:([PV.int .i64 (1+x),.int .i64 3,.int .i64 4,.int .i64 4,.int .i64 5,.int .i64 5,.int .i64 6,.int .i64 3]:List PV)[kd.toNat]? = some (.int .i64 (n:Int)):=by
  have:=congrArg (Option.map (PV.int .i64)) EN
  rw[<-List.getElem?_map]at this;exact this
 have Cs:0<=kd/\kd<((8:Nat):Int):=⟨Ew,HO⟩;simp only[Z3,seval,-ae,wx,jh,Cs];have dO:So (h2.new [PV.int .i64 (1+x),.int .i64 3,.int .i64 4,.int .i64 4,.int .i64 5,.int .i64 5,.int .i64 6,.int .i64 3]) s vC bs:=dy.keep (zC _ _);have eY:KM T s (h2.new [PV.int .i64 (1+x),.int .i64 3,.int .i64 4,.int .i64 4,.int .i64 5,.int .i64 5,.int .i64 6,.int .i64 3]):=((dp.km.mv bQ m1).mv bQ m2).new _;generalize h2.new [PV.int .i64 (1+x),.int .i64 3,.int .i64 4,.int .i64 4,.int .i64 5,.int .i64 5,.int .i64 6,.int .i64 3]=h3 at *
 clear EN jh;refine zIB dO aN λp h4 hp e9 m4 dV=>?_;have ig:=eY.mv bQ m4;have dA:=hp.bd;have bG:2<=p/\p<=7:=by omega
 simp only[Z3,seval,-ae];refine zCe dX aN λsP capP cs sB ai ls h5 k5 iX=>?_;have gM:=dV.keep k5;have mn:=ig.keep k5;have Ku:=k5.next;have Fq:=ig.next;have pd:IntKind.i64.wrap ((n:Int)-1)=((n-1:Nat):Int):=by rw[wrap64 (by omega) (by omega)];omega
 have j9:okp p:=dA;have gs:GS E0 FI (OkF p n) T (h5.new [.int .i64 p,.sl sP 0 n capP,.sl sB 0 n ai]) s vC bs h5.next p n sP capP sB ai:=
  ⟨mn.new _,gM.keep (zC _ _),bQ,by rw[zP,if_pos rfl],⟨by omega,Nat.lt_succ_self _⟩,⟨cs,ls,_,_,(iX.low Fq).new _,OkF.zero j9 aN,λt ht e=>by have:=(iX.lt ht).2;omega,λu x e=>e.elim⟩,λu x e=>e.elim⟩
 clear iX;have fin:∀{g:PHeap},GS E0 FI (OkF p n) T g s vC bs h5.next p n sP capP sB ai->g.rd h5.next 0 3=some [.int .i64 p,.sl sP 0 n capP,.sl sB 0 n ai]/\g.wr σ.next 0 [.int .i64 p,.sl sP 0 n capP,.sl sB 0 n ai]=some (g.set σ.next [.int .i64 p,.sl sP 0 n capP,.sl sB 0 n ai])
   /\(g.set σ.next [.int .i64 p,.sl sP 0 n capP,.sl sB 0 n ai]).rd σ.next 0 3=some [.int .i64 p,.sl sP 0 n capP,.sl sB 0 n ai]/\Gh σ K (.agg [.int .i64 p,.sl sP 0 n capP,.sl sB 0 n ai]) (g.set σ.next [.int .i64 p,.sl sP 0 n capP,.sl sB 0 n ai]):=λ{g} a=>by
  have aI:g.obj σ.next=some [.int .i64 0,.fz true .nils 0 [],.fz true .nils 0 []]:=by rw[a.km.obj (by omega) (by omega)];exact fU
  obtain⟨cs,ls,W,B,rs,f,ne,_⟩:=a.rs;refine⟨a.rd.1,by rw[qC aI,if_pos ⟨by simp,by rfl⟩];rfl,by rw[qh,if_pos rfl];rfl,Gh.ret (hk p n sP capP cs sB ai ls _ W B hp dX e9 f ?_ (a.so.set (by omega) _) ((rs.low (by omega)).move (λt ht=>?_) (vM _)))⟩
  .exact((so.kmK cg).trans bK a.km).set (vM _) _
  .have:=(rs.lt ht).1
   rw[zH,if_neg (by omega)]
 have cL:∀{W:V2} {B:V3} {i:Nat},OkF p n W B->i<n->(B.getD i []).length=n-1-i:=λ{W B i} q hi=>by
  have h1:i<B.length:=by rw[q.b.len];exact hi
  rw[zO h1];exact q.b.row i h1
 have hle:El p n (unitL n (n-1)):=zV j9 (by omega);simp only[Z3,seval,-ae,pd];refine Qe (n:=n) (k:=n-1) rfl rfl rfl (by omega) (by omega) λvl cH=>?_;generalize h5.new [PV.int .i64 p,.sl sP 0 n capP,.sl sB 0 n ai]=g5 at *
 generalize h5.next=r0 at *
 clear m1 m2 m4 dP dy dO dV gM eY ig mn k5 Ku Fq;rcases uY with rfl|⟨rfl,rfl⟩|⟨rfl,rfl⟩|⟨rfl,rfl⟩|⟨rfl,rfl⟩|⟨rfl,rfl⟩|⟨rfl,rfl⟩|⟨rfl,rfl⟩
 .as_aux_lemma=>
  simp only[Z3,seval,-ae];refine zG (λm us g=>∃i:Nat,i<=n/\m=n-i/\us=[.ptr s 0,.ptr σ.next 0,.int .i64 n,.ptr r0 0,.int .i64 i]/\GS E0 FI (OkF p n) T g s vC bs r0 p n sP capP sB ai) n ⟨0,by omega,by omega,rfl,gs⟩ ?_
  rintro m us g ⟨i,hi,rfl,rfl,a⟩
  simp only[Z3,seval,-ae];refine iteI (λah=>?_) λaG=>?_;rotate_left
  .obtain⟨e1,e2,e3,e4⟩:=fin a;simp only[Z3,seval,-ae,e1,e2,e3];exact e4
  have aE:i<n:=by omega
  have bB:IntKind.i64.wrap ((i:Int)+1)=((i+1:Nat):Int):=wrapS aE (by omega);obtain⟨f3,f0,f1,f2⟩:=a.rd;simp only[Z3,seval,-ae,f3,f1,bB];refine zf (vP:=.sl sP 0 n capP) (vB:=.sl sB 0 n ai) (n:=n) (k:=i+1) a.so bG rfl rfl rfl (by omega) (by omega) λv x k hx hz hv m so=>?_;have gt:=a.mv m so;obtain⟨p3,p0,p1,p2⟩:=gt.rd;obtain⟨h9,w9,nE⟩:=gt.putP (F':=OkF p n) (i:=i) (w:=x) aE hv (λW B q=>q.setP hx (λj hj=>hz j (by omega)));simp only[Z3,seval,-ae,p1,w9,hv.cells,aE,bB];exact⟨_,by omega,i+1,by omega,rfl,rfl,nE⟩
 .as_aux_lemma=>
  simp only[Z3,seval,-ae];obtain⟨KR,Lb,K0,DC⟩:=gs.rd;obtain⟨LO,M8,tB⟩:=gs.rdB (i:=0) (by omega) (λW B q=>cL q (by omega));obtain⟨JZ,xT,jP,_⟩:=gs.putB (F':=OkF p 3) (i:=0) (k:=0) (by omega) tB (by omega) (λ_ _ h=>h) cH cH.one (λW B _ q=>q.setB (by omega) hle (λj hj=>by rw[qR (by omega),if_neg (by omega)]));simp only[Z3,seval,-ae,DC,tB,xT,natlt,cH.cells];obtain⟨Dz,La,DH,KW⟩:=jP.rd;simp only[Z3,seval,-ae,Dz,DH,natlt];refine zf (vP:=.sl sP 0 3 capP) (vB:=.sl sB 0 3 ai) (n:=3) (k:=2) jP.so bG rfl rfl rfl (by omega) (by omega) λLH Ge L4 Bt Bg ux HG At=>?_;have xe:=jP.mv HG At;obtain⟨Hg,Hq,AN,Hl⟩:=xe.rd;obtain⟨JO,xR,iT⟩:=xe.putP (F':=OkF p 3) (i:=0) (w:=Ge) (by omega) ux (λW B q=>q.setP Bt (λj hj=>Bg j (by omega)));simp only[Z3,seval,-ae,AN,xR,natlt,ux.cells];obtain⟨Dy,K9,DG,KV⟩:=iT.rd;simp only[Z3,seval,-ae,Dy,DG,natlt];refine zf (vP:=.sl sP 0 3 capP) (vB:=.sl sB 0 3 ai) (n:=3) (k:=2) iT.so bG rfl rfl rfl (by omega) (by omega) λLF Gd L3 Bs Bf uw HF As=>?_;have xd:=iT.mv HF As;obtain⟨Hf,Hp,AM,Hk⟩:=xd.rd;obtain⟨JM,xQ,lR⟩:=xd.putP (F':=OkF p 3) (i:=1) (w:=Gd) (by omega) uw (λW B q=>q.setP Bs (λj hj=>Bf j (by omega)));simp only[Z3,seval,-ae,AM,xQ,natlt,uw.cells];obtain⟨e1,e2,e3,e4⟩:=fin lR;simp only[Z3,seval,-ae,e1,e2,e3];exact e4
 .as_aux_lemma=>
  simp only[Z3,seval,-ae];obtain⟨f3,f0,f1,f2⟩:=gs.rd;obtain⟨t,c,rB⟩:=gs.rdB (i:=0) (by omega) (λW B q=>cL q (by omega));have EJ:=gs.sBb;simp only[Z3,seval,-ae,f3,f2,rB,natlt];refine zFY (vP:=.sl sP 0 4 capP) (vB:=.sl sB 0 4 ai) (n:=4) (k:=2) gs.so bG rfl rfl rfl (by omega) (by omega) λx k cap hx hz bh m GU=>?_;have gt:=(gs.mv m GU).newE (t:=g5.next) (x:=x) m.next.symm;obtain⟨p3,p0,p1,p2⟩:=gt.rd;have mj:(k.new (pis x)).rd1 sB 0=some (.sl t 0 (4-1-0) c):=by rw[zHk,if_neg (by rw[m.next];omega),m.rd1 (by omega)];exact rB
  have aW:=hx.1;have hX:El p 4 (x.set 2 1):=⟨by rw[List.length_set];exact aW,λz eS=>by
   rcases List.mem_or_eq_of_mem_set eS with e|e
   .exact hx.2 z e
   .omega⟩
  have J2:=hX.1;obtain⟨JZ,xT,jP,q1,q2⟩:=gt.putB (R':=FI2 g5.next 4 cap (x.set 2 1)) (F':=OkF p 4) (i:=0) (k:=0) (w:=x.set 2 1) (v:=.sl g5.next 0 4 cap) (by omega) mj (by omega) (λ_ _ h=>.inl h) (.inr ⟨rfl,rfl⟩) rfl (λW B _ q=>q.setB (by omega) hX (λj hj=>by rw[at_set (by omega),if_neg (by omega)];exact hz j (by omega)));generalize g5.next=t0 at *
  generalize k.new (pis x)=g6 at *
  simp only[Z3,seval,-ae,p2,mj,natlt,xT];clear f3 f0 f1 f2 rB p3 p0 p1 p2 mj xT;obtain⟨f3,f0,f1,f2⟩:=jP.rd;obtain⟨JO,xR,iT⟩:=jP.setE (i:=2) (y:=1) (by omega);simp only[Z3,seval,-ae,f2,q1,q2,natlt,xR];clear f3 f0 f1 f2 q1 q2 xR;obtain⟨f3,f0,f1,f2⟩:=iT.rd;obtain⟨t3,c3,rB⟩:=iT.rdB (i:=0) (by omega) (λW B q=>cL q (by omega));obtain⟨JM,xQ,lR,_⟩:=iT.putB (R':=FI2 t0 4 cap (x.set 2 1)) (F':=OkF p 4) (i:=0) (k:=1) (by omega) rB (by omega) (λ_ _ h=>h) (.inl cH) cH.one (λW B _ q=>q.setB (by omega) hle (λj hj=>by rw[qR (by omega),if_neg (by omega)]));simp only[Z3,seval,-ae,f2,rB,xQ,natlt,cH.cells];clear f3 f0 f1 f2 rB xQ;obtain⟨f3,f0,f1,f2⟩:=lR.rd;simp only[Z3,seval,-ae,f3,f1,natlt];refine zf (vP:=.sl sP 0 4 capP) (vB:=.sl sB 0 4 ai) (n:=4) (k:=3) lR.so bG rfl rfl rfl (by omega) (by omega) λv4 x4 k4 Ia Bi pL m4 dV=>?_;have Fv:=lR.mv m4 dV;obtain⟨p3,p0,p1,p2⟩:=Fv.rd;obtain⟨JL,xO,iS⟩:=Fv.putP (F':=OkF p 4) (i:=0) (w:=x4) (by omega) pL (λW B q=>q.setP Ia (λj hj=>Bi j (by omega)));simp only[Z3,seval,-ae,p1,xO,natlt,pL.cells];clear f3 f0 f1 f2 p3 p0 p1 p2 xO;obtain⟨f3,f0,f1,f2⟩:=iS.rd;simp only[Z3,seval,-ae,f3,f1,natlt];refine zf (vP:=.sl sP 0 4 capP) (vB:=.sl sB 0 4 ai) (n:=4) (k:=3) iS.so bG rfl rfl rfl (by omega) (by omega) λv5 x5 k5 H9 Bh ye m5 gM=>?_;have Fu:=iS.mv m5 gM;obtain⟨p3,p0,p1,p2⟩:=Fu.rd;obtain⟨oG,y8,a⟩:=Fu.putP (F':=OkF p 4) (i:=1) (w:=x5) (by omega) ye (λW B q=>q.setP H9 (λj hj=>Bh j (by omega)));have aI:oG.obj σ.next=some [.int .i64 0,.fz true .nils 0 [],.fz true .nils 0 []]:=by rw[a.km.obj (by omega) (by omega)];exact fU
  have u1:oG.wr σ.next 0 [.int .i64 p,.sl sP 0 4 capP,.sl sB 0 4 ai]=some (oG.set σ.next [.int .i64 p,.sl sP 0 4 capP,.sl sB 0 4 ai]):=by rw[qC aI,if_pos ⟨by simp,by rfl⟩];rfl
  have u2:(oG.set σ.next [.int .i64 p,.sl sP 0 4 capP,.sl sB 0 4 ai]).rd σ.next 0 3=some [.int .i64 p,.sl sP 0 4 capP,.sl sB 0 4 ai]:=by rw[qh,if_pos rfl];rfl
  obtain⟨y3,y0,y1,y2⟩:=a.rd;simp only[Z3,seval,-ae,p1,y8,natlt,ye.cells,y3,u1,u2];obtain⟨cs,ls,W,B,rs,f,ne,nx⟩:=a.rs;obtain⟨z1,z2,z3,z4⟩:=a.ex t0 _ ⟨rfl,rfl⟩;have tJ:=nx t0 _ ⟨rfl,rfl⟩;have GZ:RS FI (FI2 t0 4 cap (x.set 2 1)) T.next (oG.set σ.next [.int .i64 p,.sl sP 0 4 capP,.sl sB 0 4 ai]) 4 sP capP cs sB ai ls W B:=rs.move (λt ht=>by
   have:=(rs.lt ht).1
   rw[zH,if_neg (by omega)]) (vM _)
  have tO:KM σ s (oG.set σ.next [.int .i64 p,.sl sP 0 4 capP,.sl sB 0 4 ai]):=((so.kmK cg).trans bK a.km).set (vM _) _;have Au:So (oG.set σ.next [.int .i64 p,.sl sP 0 4 capP,.sl sB 0 4 ai]) s vC bs:=a.so.set (by omega) _;refine Gh.freezeH (s:=t0) (cs:=pis (x.set 2 1)) (by rw[zH,if_neg (by omega)];exact z1) (by omega) (zL _ _) λo1 g1 g2 g3=>?_;have n1:sP≠t0:=Ne.symm (tJ _ (.inl rfl));have n2:sB≠t0:=Ne.symm (tJ _ (.inr (.inl rfl)));have GY:=GZ.fzh (RP':=FI) (R':=FI) (t:=t0) (o:=o1) (xs:=pis (x.set 2 1)) ⟨tJ _ (.inl rfl),tJ _ (.inr (.inl rfl)),λq hq=>Ne.symm (tJ _ (.inr (.inr ⟨q,hq,rfl⟩)))⟩ (λv w hv=>by rw[hv.sb];exact hv) (λv w hv=>by
   rcases hv with e|⟨e,e2⟩
   .rw[e.sb];exact e
   .rw[e,e2];simp only[sb,bh.ok,and_self,if_true];exact⟨true,_,by rw[J2]⟩)
  simp only[sb,sbs,n1,n2,false_and,if_false];exact Gh.ret (hk p 4 sP capP _ sB ai _ _ W B hp (by omega) e9 f (tO.fr w (by omega) (by show _<=max _ _;omega)) (Au.fr (by omega)) ((GY.low (by omega)).move (λ_ _=>rfl) (vM _)))
 .as_aux_lemma=>
  simp only[Z3,seval,-ae];obtain⟨KQ,K8,KZ,DB⟩:=gs.rd;obtain⟨LN,M7,tA⟩:=gs.rdB (i:=0) (by omega) (λW B q=>cL q (by omega));obtain⟨JL,xO,iS,_⟩:=gs.putB (F':=OkF p 4) (i:=0) (k:=0) (by omega) tA (by omega) (λ_ _ h=>h) cH cH.one (λW B _ q=>q.setB (by omega) hle (λj hj=>by rw[qR (by omega),if_neg (by omega)]));simp only[Z3,seval,-ae,DB,tA,xO,natlt,cH.cells];obtain⟨Dx,K7,DF,KU⟩:=iS.rd;simp only[Z3,seval,-ae,Dx,DF,natlt];refine zf (vP:=.sl sP 0 4 capP) (vB:=.sl sB 0 4 ai) (n:=4) (k:=2) iS.so bG rfl rfl rfl (by omega) (by omega) λLD Gc L2 Br Be uv HE Ar=>?_;have xc:=iS.mv HE Ar;obtain⟨He,Ho,AL,Hj⟩:=xc.rd;obtain⟨oG,y8,r8⟩:=xc.putP (F':=OkF p 4) (i:=0) (w:=Gc) (by omega) uv (λW B q=>q.setP Br (λj hj=>Be j (by omega)));simp only[Z3,seval,-ae,AL,y8,natlt,uv.cells];obtain⟨Dw,K6,DE,KT⟩:=r8.rd;simp only[Z3,seval,-ae,Dw,DE,natlt];refine zf (vP:=.sl sP 0 4 capP) (vB:=.sl sB 0 4 ai) (n:=4) (k:=2) r8.so bG rfl rfl rfl (by omega) (by omega) λLC Gb L1 Bq Bd uu HC Aq=>?_;have xb:=r8.mv HC Aq;obtain⟨Hd,Hn,AK,Hi⟩:=xb.rd;obtain⟨MK,Gn,r7⟩:=xb.putP (F':=OkF p 4) (i:=1) (w:=Gb) (by omega) uu (λW B q=>q.setP Bq (λj hj=>Bd j (by omega)));simp only[Z3,seval,-ae,AK,Gn,natlt,uu.cells];obtain⟨Dv,K5,DD,KS⟩:=r7.rd;simp only[Z3,seval,-ae,Dv,DD,natlt];refine zf (vP:=.sl sP 0 4 capP) (vB:=.sl sB 0 4 ai) (n:=4) (k:=3) r7.so bG rfl rfl rfl (by omega) (by omega) λLB Ga L0 Bp Bb ur HB Ap=>?_;have wZ:=r7.mv HB Ap;obtain⟨Hc,Hm,AJ,Hh⟩:=wZ.rd;obtain⟨MJ,Gm,Dq⟩:=wZ.putP (F':=OkF p 4) (i:=2) (w:=Ga) (by omega) ur (λW B q=>q.setP Bp (λj hj=>Bb j (by omega)));simp only[Z3,seval,-ae,AJ,Gm,natlt,ur.cells];obtain⟨e1,e2,e3,e4⟩:=fin Dq;simp only[Z3,seval,-ae,e1,e2,e3];exact e4
 .as_aux_lemma=>
  simp only[Z3,seval,-ae];obtain⟨KP,K4,KY,DA⟩:=gs.rd;obtain⟨LM,M6,tz⟩:=gs.rdB (i:=0) (by omega) (λW B q=>cL q (by omega));obtain⟨MI,Gl,rZ,_⟩:=gs.putB (F':=OkF p 5) (i:=0) (k:=0) (by omega) tz (by omega) (λ_ _ h=>h) cH cH.one (λW B _ q=>q.setB (by omega) hle (λj hj=>by rw[qR (by omega),if_neg (by omega)]));simp only[Z3,seval,-ae,DA,tz,Gl,natlt,cH.cells];obtain⟨KO,K3,KX,xv⟩:=rZ.rd;obtain⟨LL,M5,px⟩:=rZ.rdB (i:=2) (by omega) (λW B q=>cL q (by omega));simp only[Z3,seval,-ae,xv,px,natlt];refine ownFI cH (by rw[qH];omega) λLA pJ=>?_;obtain⟨MH,Gk,rY,_⟩:=rZ.putB (F':=OkF p 5) (i:=2) (k:=0) (by omega) px (by omega) (λ_ _ h=>h) pJ pJ.one (λW B _ q=>q.setB (by omega) hle (λj hj=>by rw[qR (by omega),if_neg (by omega)]));simp only[Z3,seval,-ae,xv,px,Gk,natlt,pJ.cells];obtain⟨xu,F4,xF,FG⟩:=rY.rd;simp only[Z3,seval,-ae,xu,xF,natlt];refine zf (vP:=.sl sP 0 5 capP) (vB:=.sl sB 0 5 ai) (n:=5) (k:=4) rY.so bG rfl rfl rfl (by omega) (by omega) λGB yY HT ug tV nW AY tj=>?_;have oU:=rY.mv AY tj;obtain⟨Eb,Em,tI,Eg⟩:=oU.rd;obtain⟨JY,Ag,xi⟩:=oU.putP (F':=OkF p 5) (i:=0) (w:=yY) (by omega) nW (λW B q=>q.setP ug (λj hj=>tV j (by omega)));simp only[Z3,seval,-ae,tI,Ag,natlt,nW.cells];obtain⟨e1,e2,e3,e4⟩:=fin xi;simp only[Z3,seval,-ae,e1,e2,e3];exact e4
 .as_aux_lemma=>
  simp only[Z3,seval,-ae];obtain⟨xr,F3,FP,oZ⟩:=gs.rd;obtain⟨GN,Lp,j7⟩:=gs.rdB (i:=0) (by omega) (λW B q=>cL q (by omega));simp only[Z3,seval,-ae,xr,oZ,j7,natlt];refine Qe (vP:=.sl sP 0 5 capP) (vB:=.sl sB 0 5 ai) (n:=5) (k:=3) rfl rfl rfl (by omega) (by omega) λGA kx=>?_;obtain⟨JX,Af,l9,_⟩:=gs.putB (F':=OkF p 5) (i:=0) (k:=0) (by omega) j7 (by omega) (λ_ _ h=>h) kx kx.one (λW B _ q=>q.setB (by omega) (zV q.w.pr (by omega)) (λj hj=>by rw[qR (by omega),if_neg (by omega)]));simp only[Z3,seval,-ae,oZ,j7,Af,natlt,kx.cells];obtain⟨Fz,F0,FO,xz⟩:=l9.rd;obtain⟨GM,Lo,nN⟩:=l9.rdB (i:=0) (by omega) (λW B q=>cL q (by omega));obtain⟨JW,Ae,l7,_⟩:=l9.putB (F':=OkF p 5) (i:=0) (k:=1) (by omega) nN (by omega) (λ_ _ h=>h) cH cH.one (λW B _ q=>q.setB (by omega) hle (λj hj=>by rw[qR (by omega),if_neg (by omega)]));simp only[Z3,seval,-ae,xz,nN,Ae,natlt,cH.cells];obtain⟨xq,FZ,xE,FF⟩:=l7.rd;simp only[Z3,seval,-ae,xq,xE,natlt];refine zf (vP:=.sl sP 0 5 capP) (vB:=.sl sB 0 5 ai) (n:=5) (k:=3) l7.so bG rfl rfl rfl (by omega) (by omega) λGz yX HS uf tU nV AX th=>?_;have oT:=l7.mv AX th;obtain⟨Ea,Ek,tH,Ef⟩:=oT.rd;obtain⟨JV,Ad,lZ⟩:=oT.putP (F':=OkF p 5) (i:=1) (w:=yX) (by omega) nV (λW B q=>q.setP uf (λj hj=>tU j (by omega)));simp only[Z3,seval,-ae,tH,Ad,natlt,nV.cells];obtain⟨xp,FY,xD,FE⟩:=lZ.rd;simp only[Z3,seval,-ae,xp,xD,natlt];refine zf (vP:=.sl sP 0 5 capP) (vB:=.sl sB 0 5 ai) (n:=5) (k:=3) lZ.so bG rfl rfl rfl (by omega) (by omega) λGy yW HR ue tT nU AW tg=>?_;have oS:=lZ.mv AW tg;obtain⟨D9,Ej,tG,Ee⟩:=oS.rd;obtain⟨JU,Ac,xh⟩:=oS.putP (F':=OkF p 5) (i:=0) (w:=yW) (by omega) nU (λW B q=>q.setP ue (λj hj=>tT j (by omega)));simp only[Z3,seval,-ae,tG,Ac,natlt,nU.cells];obtain⟨e1,e2,e3,e4⟩:=fin xh;simp only[Z3,seval,-ae,e1,e2,e3];exact e4
 .as_aux_lemma=>
  simp only[Z3,seval,-ae];obtain⟨xo,FX,FN,oY⟩:=gs.rd;obtain⟨GK,Ln,j6⟩:=gs.rdB (i:=0) (by omega) (λW B q=>cL q (by omega));simp only[Z3,seval,-ae,xo,oY,j6,natlt];refine Qe (vP:=.sl sP 0 6 capP) (vB:=.sl sB 0 6 ai) (n:=6) (k:=3) rfl rfl rfl (by omega) (by omega) λGx kv=>?_;obtain⟨JT,Aa,lY,_⟩:=gs.putB (F':=OkF p 6) (i:=0) (k:=0) (by omega) j6 (by omega) (λ_ _ h=>h) kv kv.one (λW B _ q=>q.setB (by omega) (zV q.w.pr (by omega)) (λj hj=>by rw[qR (by omega),if_neg (by omega)]));simp only[Z3,seval,-ae,oY,j6,Aa,natlt,kv.cells];obtain⟨xn,FW,FM,oX⟩:=lY.rd;obtain⟨GJ,Lm,j5⟩:=lY.rdB (i:=0) (by omega) (λW B q=>cL q (by omega));simp only[Z3,seval,-ae,xn,oX,j5,natlt];refine Qe (vP:=.sl sP 0 6 capP) (vB:=.sl sB 0 6 ai) (n:=6) (k:=4) rfl rfl rfl (by omega) (by omega) λGw ku=>?_;obtain⟨JS,z7,lX,_⟩:=lY.putB (F':=OkF p 6) (i:=0) (k:=1) (by omega) j5 (by omega) (λ_ _ h=>h) ku ku.one (λW B _ q=>q.setB (by omega) (zV q.w.pr (by omega)) (λj hj=>by rw[qR (by omega),if_neg (by omega)]));simp only[Z3,seval,-ae,oX,j5,z7,natlt,ku.cells];obtain⟨Fy,FV,FK,xx⟩:=lX.rd;obtain⟨GI,Ll,nM⟩:=lX.rdB (i:=1) (by omega) (λW B q=>cL q (by omega));obtain⟨JR,zE,xg,_⟩:=lX.putB (F':=OkF p 6) (i:=1) (k:=0) (by omega) nM (by omega) (λ_ _ h=>h) cH cH.one (λW B _ q=>q.setB (by omega) hle (λj hj=>by rw[qR (by omega),if_neg (by omega)]));simp only[Z3,seval,-ae,xx,nM,zE,natlt,cH.cells];obtain⟨e1,e2,e3,e4⟩:=fin xg;simp only[Z3,seval,-ae,e1,e2,e3];exact e4
 .as_aux_lemma=>
  simp only[Z3,seval,-ae];obtain⟨Fx,FU,FJ,xw⟩:=gs.rd;obtain⟨GH,Lk,nL⟩:=gs.rdB (i:=0) (by omega) (λW B q=>cL q (by omega));obtain⟨JQ,zp,lV,_⟩:=gs.putB (F':=OkF p 3) (i:=0) (k:=0) (by omega) nL (by omega) (λ_ _ h=>h) cH cH.one (λW B _ q=>q.setB (by omega) hle (λj hj=>by rw[qR (by omega),if_neg (by omega)]));simp only[Z3,seval,-ae,xw,nL,zp,natlt,cH.cells];obtain⟨xm,FT,xB,FD⟩:=lV.rd;simp only[Z3,seval,-ae,xm,xB,natlt];refine zf (vP:=.sl sP 0 3 capP) (vB:=.sl sB 0 3 ai) (n:=3) (k:=2) lV.so bG rfl rfl rfl (by omega) (by omega) λGv yV HQ ud tS nT AU tf=>?_;have oR:=lV.mv AU tf;obtain⟨D8,Ei,tF,Ed⟩:=oR.rd;obtain⟨JP,zj,lU⟩:=oR.putP (F':=OkF p 3) (i:=0) (w:=yV) (by omega) nT (λW B q=>q.setP ud (λj hj=>tS j (by omega)));simp only[Z3,seval,-ae,tF,zj,natlt,nT.cells];obtain⟨xk,FQ,xA,FA⟩:=lU.rd;simp only[Z3,seval,-ae,xk,xA,natlt];refine zf (vP:=.sl sP 0 3 capP) (vB:=.sl sB 0 3 ai) (n:=3) (k:=2) lU.so bG rfl rfl rfl (by omega) (by omega) λGu yU HP uc tR nS AT td=>?_;have oQ:=lU.mv AT td;obtain⟨D7,Eh,tE,Ec⟩:=oQ.rd;obtain⟨JN,y9,xf⟩:=oQ.putP (F':=OkF p 3) (i:=1) (w:=yU) (by omega) nS (λW B q=>q.setP uc (λj hj=>tR j (by omega)));simp only[Z3,seval,-ae,tE,y9,natlt,nS.cells];obtain⟨e1,e2,e3,e4⟩:=fin xf;simp only[Z3,seval,-ae,e1,e2,e3];exact e4
variable{h':PHeap}{vP vB:PV}
theorem zBN{b e m:Nat}{v:PV}{cs:List PV}(a:PSl b e h v m cs)(hs:s<b)(mv:Mv h s h'):PSl b e h' v m cs:=Qq a (λt off l c e=>mv.obj (by
 obtain⟨s',cap,rfl,_,_,_,h4,_⟩:=a;cases e;omega)) (by rw[mv.next];exact vM _)
theorem zKL{T h:PHeap}{bytes n:Nat}{v x:PV}{cs:List PV}{K:PV×PHeap->Prop}(so:So h s vC bs)(hs:s<T.next)(km:KM T s h)(a:PSl T.next 1 h v n cs)
  (h1:(n+1)*bytes<=140737488355328) (h2:n+1<=4611686018427387904) (k:∀v' h',KM T s h'->So h' s vC bs->PSl T.next 1 h' v' (n+1) (cs++[x])->K (v',h')):optK (qU 1 bytes (h.new [x]) v (.sl h.next 0 1 (.known 1))) K:=by
 obtain⟨σ',m,q⟩:=km;have hn:=m.next;have cU:So σ' s vC bs:=by
  obtain⟨a0,nJ,S⟩:=so;exact⟨a0,nJ,by rw[<-q.obj s (by omega)];exact S.obj,by omega,S.fb,S.byt,S.le,S.sd⟩
 refine PSl.push (σb:=σ') (bytes:=bytes) q (by rw[hn];exact a) h1 h2 λv' h' k1 k2=>k v' h' ⟨σ',m,k1⟩ (cU.keep k1) (by rw[<-hn];exact k2)
structure ElI(T h:PHeap)(s:Nat)(vC:PV)(bs:V1)(v:PV)(x:V1):Prop where
 km:KM T s h
 so:So h s vC bs
 ps:PSl T.next 1 h v x.length (pis x)
theorem zHB(so:So σ s vC bs)(hR:IsR vP vB W B)(hp:-4611686018427387904<=p/\p<=4611686018427387904)(hl:W.length<=1048576)
  (hk:∀x h cap,full 1 cap x.length->x.length<=W.length+1->Mv σ s h->So h s vC bs->K (.sl σ.next 0 x.length cap) (h.new (pis x))):zA Tryz.prog 210 [.ptr s 0,.agg [.int .i64 p,vP,vB]] σ K:=by
 have g1:=hR.P.one;have g2:=hR.B.one;obtain⟨⟨wp,ap,rp,rfl,jf⟩,hB⟩:=hR;have bK:=so.lt;refine zA.gh ?_;generalize hT:σ.new [.int .i64 p,.fz wp ap W.length rp,vB]=T;have cJ:T.next=σ.next+1:=by rw[<-hT];rfl
 have cg:Keep σ T:=by rw[<-hT];exact zC σ _
 have dp:So T s vC bs:=so.keep cg;have bQ:s<T.next:=dp.lt;have fU:T.obj σ.next=some [.int .i64 p,.fz wp ap W.length rp,vB]:=by rw[<-hT];simp only[Z3,seval,-ae]
 have jS:∀{g:PHeap},KM T s g->g.rd1 σ.next 0=some (.int .i64 p)/\g.rd1 σ.next 1=some (.fz wp ap W.length rp):=λ{g} k=>by
  have ob:=k.obj (t:=σ.next) (by omega) (by omega);rw[fU]at ob;exact⟨by rw[zI ob];rfl,by rw[zI ob];rfl⟩
 have fin:∀{g v x},ElI T g s vC bs v x->x.length<=W.length+1->Gh σ K v g:=λ{g v x} a hx=>by
  refine Gh.km ((so.kmK cg).trans bK a.km) a.so bK λσ' m' cU kp=>?_;obtain⟨t,cap,rfl,hc,q2,q3,q4,q5⟩:=a.ps;refine Gh.finS (s:=t) kp q2 (by rw[m'.next];omega) (zL _ _) ?_;rw[m'.next];exact hk x σ' cap hc hx m' cU
 refine zD mix Tryz.func210 ?_
 conv=>arg 2;cbv
 refine zF rfl ?_;simp only[Z3,seval,-ae,g1,g2];rw[hT];refine zG (λm us h=>∃(i:Nat) (v:PV) (x:V1),i<=W.length/\m=W.length-i/\us=[.ptr s 0,.ptr σ.next 0,v,.int .i64 i]/\x.length=i/\ElI T h s vC bs v x) W.length ⟨0,.sl T.next 0 0 (.known 0),[],by omega,by omega,by first|(rw[cJ];rfl)|rfl,rfl,⟨dp.kmK (zC _ _),dp.keep (zC _ _),PSl.new _ 1 rfl (vM _)⟩⟩ ?_
 rintro m us h ⟨i,v,x,hi,rfl,rfl,hx,a⟩
 obtain⟨tC,AD⟩:=jS a.km;simp only[Z3,seval,-ae,AD];refine iteI (λah=>?_) λaG=>?_
 .have aE:i<W.length:=by omega
  have bB:IntKind.i64.wrap ((i:Int)+1)=((i+1:Nat):Int):=wrapS aE (by omega);simp only[Z3,seval,-ae,tC];refine zw a.so (by omega) λy h3 hy m3 dO=>?_;simp only[Z3,seval,-ae];refine zKL (bytes:=8) dO bQ (a.km.mv bQ m3) (zBN a.ps bQ m3) (by omega) (by omega) λv' h4 k4 dV p4=>?_;simp only[Z3,seval,-ae,bB];exact⟨_,by omega,i+1,v',x++[y],by omega,rfl,rfl,by simp;omega,k4,dV,by rw[<-zA2,List.length_append];exact p4⟩
 have aK:i=W.length:=by omega
 simp only[Z3,seval,-ae];refine zw a.so (by decide) λy h3 hy m3 dO=>?_;have a3:ElI T h3 s vC bs v x:=⟨a.km.mv bQ m3,dO,zBN a.ps bQ m3⟩
 by_cases sF:y=0
 .have pG:y=0:=sF;simp only[Z3,seval,-ae,pG,decide_true];refine zKL (bytes:=8) a3.so bQ a3.km a3.ps (by omega) (by omega) λv' h4 k4 dV p4=>?_;have a4:ElI T h4 s vC bs v' (x++[0]):=⟨k4,dV,by rw[<-zA2,List.length_append];exact p4⟩
  simp only[Z3,seval,-ae];refine zw a4.so (by decide) λz h5 hz m5 gM=>?_;have a5:ElI T h5 s vC bs v' (x++[0]):=⟨a4.km.mv bQ m5,gM,zBN a4.ps bQ m5⟩;obtain⟨tC,AD⟩:=jS a5.km;obtain⟨t,cap,ev,q1,q2,q3,q4,q5⟩:=a5.ps;have cH:pLen v'=some (.int .i64 (x++[0]).length):=by rw[ev];rfl
  by_cases ck:z=0
  .have fF:z=0:=ck;by_cases fV:0<(x++[0]).length
   .have iu:((x++[0]).length:Int) > 0:=by omega
    have hw:=QS (v:=.int .i64 p) (i:=0) q2 (by rw[zJ];exact fV) rfl;rw[zB8]at hw;have a6:ElI T (h5.set t (pis ((x++[0]).set 0 p))) s vC bs v' ((x++[0]).set 0 p):=⟨a5.km.set (by omega) _,a5.so.set (by omega) _,t,cap,by rw[List.length_set];exact ev,by rw[List.length_set];exact q1,by rw[zH,if_pos rfl],by rw[zJ,Nat.mul_one],q4,q5⟩
    subst ev;have ko:(0:Int)<((x++[0]).length:Int):=by omega
    simp only[Z3,seval,-ae,fF,decide_true,iu,ko,tC,hw];exact fin a6 (by rw[List.length_set];simp;omega)
   .have iu:¬((x++[0]).length:Int) > 0:=by omega
    simp only[Z3,seval,-ae,fF,decide_true,cH,iu,decide_false];exact fin a5 (by simp;omega)
  .have fF:¬z=0:=ck;simp only[Z3,seval,-ae,fF,decide_false];exact fin a5 (by simp;omega)
 .have pG:¬y=0:=sF;simp only[Z3,seval,-ae,pG,decide_false];refine zw a3.so (by decide) λz h5 hz m5 gM=>?_;have a5:ElI T h5 s vC bs v x:=⟨a3.km.mv bQ m5,gM,zBN a3.ps bQ m5⟩;obtain⟨tC,AD⟩:=jS a5.km;obtain⟨t,cap,ev,q1,q2,q3,q4,q5⟩:=a5.ps;have cH:pLen v=some (.int .i64 (x).length):=by rw[ev];rfl
  by_cases ck:z=0
  .have fF:z=0:=ck;by_cases fV:0<(x).length
   .have iu:((x).length:Int) > 0:=by omega
    have hw:=QS (v:=.int .i64 p) (i:=0) q2 (by rw[zJ];exact fV) rfl;rw[zB8]at hw;have a6:ElI T (h5.set t (pis ((x).set 0 p))) s vC bs v ((x).set 0 p):=⟨a5.km.set (by omega) _,a5.so.set (by omega) _,t,cap,by rw[List.length_set];exact ev,by rw[List.length_set];exact q1,by rw[zH,if_pos rfl],by rw[zJ,Nat.mul_one],q4,q5⟩
    subst ev;have ko:(0:Int)<((x).length:Int):=by omega
    simp only[Z3,seval,-ae,fF,decide_true,iu,ko,tC,hw];exact fin a6 (by rw[List.length_set];omega)
   .have iu:¬((x).length:Int) > 0:=by omega
    simp only[Z3,seval,-ae,fF,decide_true,cH,iu,decide_false];exact fin a5 (by omega)
  .have fF:¬z=0:=ck;simp only[Z3,seval,-ae,fF,decide_false];exact fin a5 (by omega)
structure DrR(p:Int)(W:V2)(B:V3):Prop where
 p:1<=p/\p<=11
 wl:W.length<=6
 bl:B.length<=6
 sm:SmF W B
theorem DrR.sz(a:DrR p W B):SzR W B:=⟨by have:=a.wl;omega,λr hr=>by have:=a.sm.w r hr;omega,by have:=a.bl;omega,λq hq=>by have:=a.sm.bl q hq;omega,λq hq r hr=>by have:=a.sm.b q hq r hr;omega⟩
theorem zK8{cap:Cap}(hc:full 1 cap n)(hn:1<=n):∃off aZ,Zd 1 (.sl s 0 n cap) (some (.int .i64 1)) none none=some (.sl s off (n-1) aZ)/\(off=1\/(off=0/\n=1))/\∀c,aZ=.known c->n-1<=c:=by
 have h1:(0:Int)<=1/\(1:Int)<=(n:Int):=by omega
 rcases hc with rfl|rfl
 .refine⟨1,.grown 1,?_,.inl rfl,λc e=>by cases e⟩;rw[zBM];simp[zg,Ze,h1]
 .rw[zBL];by_cases e:n=1
  .subst e;exact⟨0,.known 0,by simp[zg,Ze],.inr ⟨rfl,rfl⟩,λc e=>by omega⟩
  .refine⟨1,.known (n-1),?_,.inl rfl,λc e=>by cases e;exact vM _⟩;simp[zg,Ze,h1,e]
theorem RS.finCut{off:Nat}{cap:Cap}{cs:List PV}{ls:List LS}(a:RS FI FI b h n sP capP cs sB ai ls W B)(hk:Keep σ h)(hb:σ.next<=b)(hn:1<=n)(p6:off=1\/(off=0/\n=1))(hc:∀c,cap=.known c->n-1<=c)(k:∀vP vB,IsR vP vB W (B.drop 1)->K (.agg [.int .i64 p,vP,vB]) σ):Gh σ K (.agg [.int .i64 p,.sl sP 0 n capP,.sl sB off (n-1) cap]) h:=by
 obtain⟨p1,p2,p3,p4⟩:=a.P;obtain⟨q1,q2,q3,q4⟩:=a.Q;have e1:=a.csl;have e2:=a.lsl;have et:(TR.agg [.leaf (.int .i64 p),.lst sP capP (cs.map TR.leaf),.cut sB off (n-1) cap (ls.map LS.tr)]).pv=.agg [.int .i64 p,.sl sP 0 n capP,.sl sB off (n-1) cap]:=by
  simp only[TR.pv,TR.pvs,List.length_map];rw[e1]
 rw[<-et];refine Gh.treeF hk ⟨trivial,⟨⟨by rw[List.length_map,e1];exact p1,by rw[Qw];exact p2,by omega,p4⟩,Qx (a.aP.bI 0)⟩,⟨⟨hc,by rw[LS.tr_pvs];exact q2,by omega,q4,by rw[List.length_map,e2];omega⟩,LS.trs_okF λq hq=>?_⟩,trivial⟩ λaa=>k _ _ ⟨⟨true,.sl (aa sP) 0 cs.length capP,cs,?_,a.aP⟩,⟨false,.sl (aa sB) off (n-1) cap,((TR.fzs aa (ls.map LS.tr)).drop off).take (n-1),?_,?_⟩⟩
 .obtain⟨g1,g2,g3,g4⟩:=a.lok q hq;refine⟨⟨g1,g2,by omega,g4⟩,?_⟩;obtain⟨k,fY,rfl⟩:=List.mem_iff_getElem.1 hq;exact(a.aB.2 k _ _ (List.getElem?_eq_getElem fY) (List.getElem?_eq_getElem (by rw[<-a.aB.1];exact fY))).bI 0
 .simp only[TR.fz,Qy,List.length_map];rw[e1,a.lW]
 .simp only[TR.fz,List.length_drop];rw[a.lB]
 .rcases p6 with rfl|⟨rfl,rfl⟩
  .have:=((zBu (a:=aa) a.aB).drop 1).take (n-1)
   rw[List.take_of_length_le (l:=B.drop 1) (by rw[List.length_drop,a.lB];exact vM _)]at this;exact this
  .rw[List.eq_nil_of_length_eq_zero (l:=B.drop 1) (by rw[List.length_drop,a.lB])];exact All2.nil _
theorem zLd(so:So σ s vC bs)(hk:∀p vP vB W B h,DrR p W B->IsR vP vB W B->Mv σ s h->So h s vC bs->K (.agg [.int .i64 p,vP,vB]) h):zA Tryz.prog 251 [.ptr s 0] σ K:=by
 have bK:=so.lt;refine zA.gh ?_;generalize hT:σ.new [.int .i64 0,.fz true .nils 0 [],.fz true .nils 0 []]=T;have cJ:T.next=σ.next+1:=by rw[<-hT];rfl
 have cg:Keep σ T:=by rw[<-hT];exact zC σ _
 have dp:So T s vC bs:=so.keep cg;have bQ:s<T.next:=dp.lt;have fU:T.obj σ.next=some [.int .i64 0,.fz true .nils 0 [],.fz true .nils 0 []]:=by rw[<-hT];simp only[Z3,seval,-ae]
 have aI:∀{g:PHeap} {u0 u1 u2:PV},KM T s g->u0.one=true->u1.one=true->u2.one=true->g.wr σ.next 0 [u0,u1,u2]=some (g.set σ.next [u0,u1,u2])/\(g.set σ.next [u0,u1,u2]).rd σ.next 0 3=some [u0,u1,u2]:=λ{g u0 u1 u2} k z0 z1 z2=>by
  have aI:g.obj σ.next=some [.int .i64 0,.fz true .nils 0 [],.fz true .nils 0 []]:=by rw[k.obj (by omega) (by omega)];exact fU
  exact⟨by rw[qC aI,if_pos ⟨by simp,by simp only[List.all_cons,List.all_nil,z0,z1,z2];rfl⟩];rfl,by rw[qh,if_pos rfl];rfl⟩
 refine zN mix Tryz.func251 cf251 rfl ?_;dsimp only[if251,qI,eI,qD,eD,mI0,lI0,LI0,fI0,xI0,cI0,sI0,C1,C2,mD0,lD0,fD0,xD0,I0,vI0,wD0,R0,S0];simp only[Z3,seval,-ae];rw[hT];refine zFZ dp λp n sP capP cs sB ai ls h1 W B hp dX e9 hF iZ dP nK=>?_;have aN:=hF.w.le;have dA:=hp.bd;have bG:2<=p/\p<=7:=by omega
 have Fs:=iZ.next;have gs:GS E0 FI (OkF p n) T (h1.new [.int .i64 p,.sl sP 0 n capP,.sl sB 0 n ai]) s vC bs h1.next p n sP capP sB ai:=
  ⟨iZ.new _,dP.keep (zC _ _),bQ,by rw[zP,if_pos rfl],⟨by omega,Nat.lt_succ_self _⟩,⟨cs,ls,W,B,nK.new _,hF,λt ht e=>by have:=(nK.lt ht).2;omega,λu x e=>e.elim⟩,λu x e=>e.elim⟩
 clear nK hF W B cs ls;have fin:∀{g:PHeap} {q:Int},1<=q/\q<=11->GS E0 FI SmF T g s vC bs h1.next q n sP capP sB ai->g.rd h1.next 0 3=some [.int .i64 q,.sl sP 0 n capP,.sl sB 0 n ai]/\g.wr σ.next 0 [.int .i64 q,.sl sP 0 n capP,.sl sB 0 n ai]=some (g.set σ.next [.int .i64 q,.sl sP 0 n capP,.sl sB 0 n ai])
   /\(g.set σ.next [.int .i64 q,.sl sP 0 n capP,.sl sB 0 n ai]).rd σ.next 0 3=some [.int .i64 q,.sl sP 0 n capP,.sl sB 0 n ai]/\Gh σ K (.agg [.int .i64 q,.sl sP 0 n capP,.sl sB 0 n ai]) (g.set σ.next [.int .i64 q,.sl sP 0 n capP,.sl sB 0 n ai]):=λ{g q} hq a=>by
  obtain⟨x1,x2⟩:=aI (u0:=.int .i64 q) (u1:=.sl sP 0 n capP) (u2:=.sl sB 0 n ai) a.km rfl rfl rfl;refine⟨a.rd.1,x1,x2,?_⟩;obtain⟨cs,ls,W,B,rs,f,ne,_⟩:=a.rs;refine Gh.km (((so.kmK cg).trans bK a.km).set (vM _) _) (a.so.set (by omega) _) bK λσ' m' cU kp=>?_;refine RS.fin ((rs.low (b':=σ'.next) (by rw[m'.next];omega)).move (λt ht=>?_) (vM _)) kp (vM _) λvP vB hR=>hk q vP vB W B σ' ⟨hq,by rw[rs.lW];exact aN,by rw[rs.lB];exact aN,f⟩ hR m' cU
  have:=(rs.lt ht).1
  rw[zH,if_neg (by omega)]
 have cL:∀{W:V2} {B:V3} {i:Nat},OkF p n W B->i<n->(B.getD i []).length=n-1-i:=λ{W B i} q hi=>by
  have h1:i<B.length:=by rw[q.b.len];exact hi
  rw[zO h1];exact q.b.row i h1
 simp only[Z3,seval,-ae];generalize h1.new [PV.int .i64 p,.sl sP 0 n capP,.sl sB 0 n ai]=g1 at *
 have MV:σ.next<h1.next:=by omega
 generalize h1.next=r0 at *
 refine zw gs.so (by omega) λi0 g2 EY m2 dy=>?_;have Dr:=gs.mv m2 dy;have L7:=EY.1;have sE:=EY.lt (by omega);obtain⟨i,rfl⟩:∃i:Nat,i0=i:=⟨i0.toNat,by omega⟩
 have cA:i<n:=by omega
 have bB:IntKind.i64.wrap ((i:Int)+1)=((i+1:Nat):Int):=by rw[wrap64 (by omega) (by omega)];omega
 have y6:IntKind.i64.wrap ((i:Int)+2)=((i+2:Nat):Int):=by rw[wrap64 (by omega) (by omega)];omega
 have Gj:IntKind.i64.wrap (i:Int)=(i:Int):=by rw[wrap64 (by omega) (by omega)]
 simp only[Z3,seval,-ae,Gj];refine zw Dr.so (by decide) λkd g3 kR m3 dO=>?_;have dC:=Dr.mv m3 dO;clear gs Dr;have Ew:=kR.1;by_cases e0:kd=0
 .subst e0;have dV:=dC.so;simp only[Z3,seval,-ae];refine zw (dC.new _).so (by decide) λy g4 hy m4 gM=>?_;have jQ:=(dC.new _).mv m4 gM;have y0:=hy.1;have y5:=hy.lt (by decide);have MO:=dC.km.next;have ob:g4.obj g3.next=some (pis [1,4,11,7,2]):=by rw[m4.obj (by omega),zP,if_pos rfl];rfl
  obtain⟨k,rfl⟩:∃k:Nat,y=k:=⟨y.toNat,by omega⟩
  have I1:k<5:=by omega
  obtain⟨q,hq,hr⟩:∃q:Int,(1<=q/\q<=11)/\g4.rd1 g3.next k=some (.int .i64 q):=by
   have e:k=0\/k=1\/k=2\/k=3\/k=4:=by omega
   rcases e with rfl|rfl|rfl|rfl|rfl
   .exact⟨1,by decide,by rw[zI ob];rfl⟩
   .exact⟨4,by decide,by rw[zI ob];rfl⟩
   .exact⟨11,by decide,by rw[zI ob];rfl⟩
   .exact⟨7,by decide,by rw[zI ob];rfl⟩
   .exact⟨2,by decide,by rw[zI ob];rfl⟩
  obtain⟨g5,w5,KF⟩:=jQ.setp q;have a:=KF.imp λW B f=>f.sm;simp only[Z3,seval,-ae,hr,I1,w5];obtain⟨e1,e2,e3,e4⟩:=fin hq a;simp only[Z3,seval,-ae,e1,e2,e3];exact e4
 have hq:1<=p/\p<=11:=by omega
 by_cases e1:kd=1
 .subst e1;obtain⟨f3,f0,f1,f2⟩:=dC.rd;simp only[Z3,seval,-ae,f3,f1,bB];refine zf (vP:=.sl sP 0 n capP) (vB:=.sl sB 0 n ai) (n:=n) (k:=i+1) dC.so bG rfl rfl rfl (by omega) (by omega) λv x g4 hx hz hv m4 dV=>?_;have jQ:=dC.mv m4 dV;obtain⟨p3,p0,p1,p2⟩:=jQ.rd;have aW:=hx.1;obtain⟨g5,w5,a⟩:=jQ.putP (F':=SmF) (i:=i) (w:=x) cA hv (λW B q=>q.sm.setP (by omega));simp only[Z3,seval,-ae,p1,w5,hv.cells,cA,bB];obtain⟨e1,e2,e3,e4⟩:=fin hq a;simp only[Z3,seval,-ae,e1,e2,e3];exact e4
 by_cases e2:kd=2
 .subst e2;obtain⟨f3,f0,f1,f2⟩:=dC.rd;simp only[Z3,seval,-ae,f3,f1];refine zf (vP:=.sl sP 0 n capP) (vB:=.sl sB 0 n ai) (n:=n) (k:=i) dC.so bG rfl rfl rfl (by omega) (by omega) λv x g4 hx hz hv m4 dV=>?_;have jQ:=dC.mv m4 dV;obtain⟨p3,p0,p1,p2⟩:=jQ.rd;have aW:=hx.1;obtain⟨g5,w5,a⟩:=jQ.putP (F':=SmF) (i:=i) (w:=x) cA hv (λW B q=>q.sm.setP (by omega));simp only[Z3,seval,-ae,p1,w5,hv.cells,cA];obtain⟨e1,e2,e3,e4⟩:=fin hq a;simp only[Z3,seval,-ae,e1,e2,e3];exact e4
 by_cases e3:kd=3
 .subst e3;obtain⟨f3,f0,f1,f2⟩:=dC.rd;obtain⟨t,c,rB⟩:=dC.rdB cA (λW B q=>cL q cA);have EJ:=dC.sBb;by_cases yu:0<n-1-i
  .have vi:(0:Int)<((n-1-i:Nat):Int):=by omega
   have kP:((n-1-i:Nat):Int) > 0:=by omega
   simp only[Z3,seval,-ae,f3,f2,rB,cA,vi,kP,decide_true,y6];refine zf (vP:=.sl sP 0 n capP) (vB:=.sl sB 0 n ai) (n:=n) (k:=i+2) dC.so bG rfl rfl rfl (by omega) (by omega) λv x g4 hx hz hv m4 dV=>?_;have jQ:=dC.mv m4 dV;obtain⟨p3,p0,p1,p2⟩:=jQ.rd;have aW:=hx.1;have mj:g4.rd1 sB i=some (.sl t 0 (n-1-i) c):=by rw[m4.rd1 (by omega)];exact rB
   obtain⟨g5,w5,a,_⟩:=jQ.putB (F':=SmF) (i:=i) (k:=0) (w:=x) cA mj yu (λ_ _ h=>h) hv hv.one (λW B hB q=>q.sm.setB hB (by omega));simp only[Z3,seval,-ae,p2,mj,w5,hv.cells,cA,vi];obtain⟨e1,e2,e3,e4⟩:=fin hq a;simp only[Z3,seval,-ae,e1,e2,e3];exact e4
  .have kP:¬((n-1-i:Nat):Int) > 0:=by omega
   have a:=dC.imp λW B f=>f.sm;simp only[Z3,seval,-ae,f2,rB,cA,kP,decide_false];obtain⟨e1,e2,e3,e4⟩:=fin hq a;simp only[Z3,seval,-ae,e1,e2,e3];exact e4
 by_cases e4:kd=4
 .subst e4;obtain⟨f3,f0,f1,f2⟩:=dC.rd;obtain⟨cs,ls,W,B,rs,f,ne,_⟩:=dC.rs;obtain⟨off,aZ,z1,z2,z3⟩:=zK8 (s:=sB) rs.Q.1 dX;have w5:=QS (v:=.sl sB off (n-1) aZ) (i:=2) dC.obj (by simp) rfl;simp only[List.set_cons_succ,List.set_cons_zero]at w5;have iF:=dC.r0b;have Im:=dC.sl;have mn:KM T s (g3.set r0 [.int .i64 p,.sl sP 0 n capP,.sl sB off (n-1) aZ]):=dC.km.set dC.r0b.1 _;obtain⟨x1,x2⟩:=aI (u0:=.int .i64 p) (u1:=.sl sP 0 n capP) (u2:=.sl sB off (n-1) aZ) mn rfl rfl rfl;have x0:(g3.set r0 [.int .i64 p,.sl sP 0 n capP,.sl sB off (n-1) aZ]).rd r0 0 3=some [.int .i64 p,.sl sP 0 n capP,.sl sB off (n-1) aZ]:=by rw[qh,if_pos rfl];rfl
  have gM:So (g3.set r0 [.int .i64 p,.sl sP 0 n capP,.sl sB off (n-1) aZ]) s vC bs:=dC.so.set (by omega) _;have iX:=rs.move (h':=g3.set r0 [.int .i64 p,.sl sP 0 n capP,.sl sB off (n-1) aZ]) (λt ht=>by rw[zH,if_neg (Ne.symm (ne t ht))]) (vM _);simp only[Z3,seval,-ae,f2,z1,w5];generalize g3.set r0 [.int .i64 p,.sl sP 0 n capP,.sl sB off (n-1) aZ]=g5 at *
  simp only[Z3,seval,-ae,x0,x1,x2];refine Gh.km (((so.kmK cg).trans bK mn).set (vM _) _) (gM.set (by omega) _) bK λσ' m' cU kp=>?_;refine RS.finCut ((iX.low (b':=σ'.next) (by rw[m'.next];omega)).move (λt ht=>?_) (vM _)) kp (vM _) dX z2 z3 λvP vB hR=>hk p vP vB W _ σ' ⟨hq,by rw[rs.lW];exact aN,by rw[List.length_drop,rs.lB];omega,f.sm.w,λq hq=>f.sm.bl q (List.mem_of_mem_drop hq),λq hq=>f.sm.b q (List.mem_of_mem_drop hq)⟩ hR m' cU
  have:=(iX.lt ht).1
  rw[zH,if_neg (by omega)]
 by_cases e5:kd=5
 .subst e5;have iF:=dC.r0b;have w5:g3.wr r0 0 [.int .i64 3,.fz true .nils 0 [],.fz true .nils 0 []]=some (g3.set r0 [.int .i64 3,.fz true .nils 0 [],.fz true .nils 0 []]):=by rw[qC dC.obj,if_pos ⟨by simp,by rfl⟩];rfl
  have mn:KM T s (g3.set r0 [.int .i64 3,.fz true .nils 0 [],.fz true .nils 0 []]):=dC.km.set dC.r0b.1 _;obtain⟨x1,x2⟩:=aI (u0:=.int .i64 3) (u1:=.fz true .nils 0 []) (u2:=.fz true .nils 0 []) mn rfl rfl rfl;have x0:(g3.set r0 [.int .i64 3,.fz true .nils 0 [],.fz true .nils 0 []]).rd r0 0 3=some [.int .i64 3,.fz true .nils 0 [],.fz true .nils 0 []]:=by rw[qh,if_pos rfl];rfl
  have gM:So (g3.set r0 [.int .i64 3,.fz true .nils 0 [],.fz true .nils 0 []]) s vC bs:=dC.so.set (by omega) _;simp only[Z3,seval,-ae,w5];generalize g3.set r0 [.int .i64 3,.fz true .nils 0 [],.fz true .nils 0 []]=g5 at *
  simp only[Z3,seval,-ae,x0,x1,x2];refine Gh.km (((so.kmK cg).trans bK mn).set (vM _) _) (gM.set (by omega) _) bK λσ' m' cU kp=>?_;exact Gh.fin0 kp ⟨trivial,trivial,trivial,trivial⟩ (hk 3 _ _ [] [] σ' ⟨by decide,by decide,by decide,⟨λr hr=>(by cases hr),λr hr=>(by cases hr),λr hr=>(by cases hr)⟩⟩ ⟨⟨true,.nils,[],rfl,All2.nil _⟩,⟨true,.nils,[],rfl,All2.nil _⟩⟩ m' cU)
 have a:=dC.imp λW B f=>f.sm;simp only[Z3,seval,-ae,e0,e1,e2,e3,e4,e5];obtain⟨e1,e2,e3,e4⟩:=fin hq a;simp only[Z3,seval,-ae,e1,e2,e3];exact e4
theorem DrR.ok(hp:isP p)(hF:OkF p n W B):DrR p W B:=⟨by have:=hp.bd;omega,by rw[hF.w.len];exact hF.w.le,by rw[hF.b.len];exact hF.w.le,hF.sm⟩
theorem zLc(so:So σ s vC bs)(hk:∀p n vP vB W B h,isP p->OkF p n W B->IsR vP vB W B->Mv σ s h->So h s vC bs->K (.agg [.int .i64 p,vP,vB]) h):zA Tryz.prog 304 [.ptr s 0] σ K:=
 zA.gh (zFZ so λp n sP capP cs sB ai ls h W B hp dX e9 hF km dy rs=>Gh.km km dy so.lt λσ' m' cU kp=>RS.fin (rs.low (b':=σ'.next) (by rw[m'.next];exact vM _)) kp (vM _) λvP vB hR=>hk p n vP vB W B σ' hp hF hR m' cU)
theorem zLW(so:So σ s vC bs)(hk:∀p vP vB W B h,DrR p W B->IsR vP vB W B->Mv σ s h->So h s vC bs->K (.agg [.int .i64 p,vP,vB]) h):zA Tryz.prog 252 [.ptr s 0] σ K:=by
 have bK:=so.lt;refine zA.gh ?_;generalize hT:σ.new [.int .i64 0,.fz true .nils 0 [],.fz true .nils 0 []]=T;have cJ:T.next=σ.next+1:=by rw[<-hT];rfl
 have cg:Keep σ T:=by rw[<-hT];exact zC σ _
 have dp:So T s vC bs:=so.keep cg;have bQ:s<T.next:=dp.lt;have fU:T.obj σ.next=some [.int .i64 0,.fz true .nils 0 [],.fz true .nils 0 []]:=by rw[<-hT];simp only[Z3,seval,-ae]
 have aI:∀{g:PHeap} {u0 u1 u2:PV},KM T s g->u0.one=true->u1.one=true->u2.one=true->g.wr σ.next 0 [u0,u1,u2]=some (g.set σ.next [u0,u1,u2])/\(g.set σ.next [u0,u1,u2]).rd σ.next 0 3=some [u0,u1,u2]:=λ{g u0 u1 u2} k z0 z1 z2=>by
  have aI:g.obj σ.next=some [.int .i64 0,.fz true .nils 0 [],.fz true .nils 0 []]:=by rw[k.obj (by omega) (by omega)];exact fU
  exact⟨by rw[qC aI,if_pos ⟨by simp,by simp only[List.all_cons,List.all_nil,z0,z1,z2];rfl⟩];rfl,by rw[qh,if_pos rfl];rfl⟩
 refine zN mix Tryz.func252 cf252 rfl ?_;dsimp only[if252,qI,eI,qD,eD,mI0,lI0,LI0,fI0,xI0,cI0,C1,C2,mD0,lD0,fD0,I0,G0,gm0,aI0,yI0,vI0,wD0,R0,S0];simp only[Z3,seval,-ae];rw[hT];refine zLc dp λp1 n1 jZ j4 W1 B1 h1 mZ Dh s4 m1 dP=>?_;have iZ:=dp.km.mv bQ m1;have g1:=s4.P.one;have g2:=s4.B.one;have Fs:=iZ.next;have py:KM T s (h1.new [.int .i64 p1,jZ,j4]):=iZ.new _;have tk:So (h1.new [.int .i64 p1,jZ,j4]) s vC bs:=dP.keep (zC _ _);have Eo:(h1.new [.int .i64 p1,jZ,j4]).obj h1.next=some [.int .i64 p1,jZ,j4]:=by rw[zP,if_pos rfl]
 have HI:h1.next<(h1.new [.int .i64 p1,jZ,j4]).next:=Nat.lt_succ_self _;simp only[Z3,seval,-ae,g1,g2];generalize h1.new [PV.int .i64 p1,jZ,j4]=KG at *
 have iF:T.next<=h1.next:=Fs;generalize h1.next=r0 at *
 refine zEd s4 Dh.w Dh.b mZ λt ht=>?_;cases t with
 |true=>
  have x0:KG.rd r0 0 3=some [.int .i64 p1,jZ,j4]:=by rw[ze Eo];rfl
  obtain⟨x1,x2⟩:=aI (u0:=.int .i64 p1) (u1:=jZ) (u2:=j4) py rfl g1 g2;simp only[Z3,seval,-ae,x0,x1,x2];refine Gh.km (((so.kmK cg).trans bK py).set (vM _) _) (tk.set (by omega) _) bK λσ' m' cU kp=>?_;exact Gh.fin0 kp ⟨trivial,s4.P.bel _,s4.B.bel _,trivial⟩ (hk p1 jZ j4 W1 B1 σ' (DrR.ok mZ Dh) s4 m' cU)
 |false=>
 simp only[Z3,seval,-ae];refine zw tk (by decide) λx h2 hx m2 dy=>?_;have gk:=py.mv bQ m2;have x0:=hx.1;have x2:=hx.lt (by decide);obtain⟨n,nj,IK,wn⟩:∃n:Nat,3<=n/\n<=4/\IntKind.i64.wrap (3+x)=(n:Int):=⟨(3+x).toNat,by omega,by omega,by rw[wrap64 (by omega) (by omega)];omega⟩
 simp only[Z3,seval,-ae,wn];refine zw (dy.keep (zC _ _)) (by decide) λy h3 hy m3 dO=>?_;have eY:=(gk.new [.int .i64 3,.int .i64 5]).mv bQ m3;have y0:=hy.1;have y2:=hy.lt (by decide);have MW:=gk.next;have En:h3.obj h2.next=some (pis [3,5]):=by rw[m3.obj (by omega),zP,if_pos rfl];rfl
 obtain⟨k,rfl⟩:∃k:Nat,y=k:=⟨y.toNat,by omega⟩
 have bV:k<2:=by omega
 obtain⟨p,hp,Ix,hr⟩:∃p:Int,isP p/\(p=3\/p=5)/\h3.rd1 h2.next k=some (.int .i64 p):=by
  have e:k=0\/k=1:=by omega
  rcases e with rfl|rfl
  .exact⟨3,.inr (.inl rfl),.inl rfl,by rw[zI En];rfl⟩
  .exact⟨5,.inr (.inr (.inl rfl)),.inr rfl,by rw[zI En];rfl⟩
 have G5:r0<h2.next:=by rw[m2.next];exact HI
 have AQ:h3.obj r0=some [.int .i64 p1,jZ,j4]:=by rw[m3.obj (by omega),zP,if_neg (by omega),m2.obj (by omega)];exact Eo
 have tN:r0<h3.next:=by rw[m3.next];show r0<h2.next+1;omega
 have dX:1<=n:=by omega
 have aN:n<=6:=by omega
 have dA:=hp.bd;have bG:2<=p/\p<=7:=by omega
 simp only[Z3,seval,-ae,hr,bV];refine zCe dX aN λsP capP cs sB ai ls h5 k5 iX=>?_;have gM:=dO.keep k5;have mn:=eY.keep k5;have Hv:h5.obj r0=some [.int .i64 p1,jZ,j4]:=by rw[k5.obj r0 tN];exact AQ
 have HH:r0<h5.next:=Nat.lt_of_lt_of_le tN k5.next;have KB:=eY.next;have w5:h5.wr r0 0 [.int .i64 p,.sl sP 0 n capP,.sl sB 0 n ai]=some (h5.set r0 [.int .i64 p,.sl sP 0 n capP,.sl sB 0 n ai]):=by rw[qC Hv,if_pos ⟨by simp,by rfl⟩];rfl
 have j9:okp p:=dA;have gs:GS E0 FI (OkF p n) T (h5.set r0 [.int .i64 p,.sl sP 0 n capP,.sl sB 0 n ai]) s vC bs r0 p n sP capP sB ai:=
  ⟨mn.set iF _,gM.set (by omega) _,bQ,by rw[zH,if_pos rfl],⟨iF,HH⟩,⟨cs,ls,_,_,(iX.low KB).move (λt ht=>by rw[zH,if_neg (by have:=(iX.lt ht).1;omega)]) (vM _),OkF.zero j9 aN,λt ht e=>by have:=(iX.lt ht).1;omega,λu x e=>e.elim⟩,λu x e=>e.elim⟩
 clear iX;have pd:IntKind.i64.wrap ((n:Int)-1)=((n-1:Nat):Int):=by rw[wrap64 (by omega) (by omega)];omega
 have fin:∀{g:PHeap},GS E0 FI (OkF p n) T g s vC bs r0 p n sP capP sB ai->g.rd r0 0 3=some [.int .i64 p,.sl sP 0 n capP,.sl sB 0 n ai]/\g.wr σ.next 0 [.int .i64 p,.sl sP 0 n capP,.sl sB 0 n ai]=some (g.set σ.next [.int .i64 p,.sl sP 0 n capP,.sl sB 0 n ai])
   /\(g.set σ.next [.int .i64 p,.sl sP 0 n capP,.sl sB 0 n ai]).rd σ.next 0 3=some [.int .i64 p,.sl sP 0 n capP,.sl sB 0 n ai]/\Gh σ K (.agg [.int .i64 p,.sl sP 0 n capP,.sl sB 0 n ai]) (g.set σ.next [.int .i64 p,.sl sP 0 n capP,.sl sB 0 n ai]):=λ{g} a=>by
  obtain⟨x1,x2⟩:=aI (u0:=.int .i64 p) (u1:=.sl sP 0 n capP) (u2:=.sl sB 0 n ai) a.km rfl rfl rfl;refine⟨a.rd.1,x1,x2,?_⟩;obtain⟨cs,ls,W,B,rs,f,ne,_⟩:=a.rs;refine Gh.km (((so.kmK cg).trans bK a.km).set (vM _) _) (a.so.set (by omega) _) bK λσ' m' cU kp=>?_;refine RS.fin ((rs.low (b':=σ'.next) (by rw[m'.next];omega)).move (λt ht=>?_) (vM _)) kp (vM _) λvP vB hR=>hk p vP vB W B σ' (DrR.ok hp f) hR m' cU
  have:=(rs.lt ht).1
  rw[zH,if_neg (by omega)]
 have cL:∀{W:V2} {B:V3} {i:Nat},OkF p n W B->i<n->(B.getD i []).length=n-1-i:=λ{W B i} q hi=>by
  have h1:i<B.length:=by rw[q.b.len];exact hi
  rw[zO h1];exact q.b.row i h1
 have hle:El p n (unitL n (n-1)):=zV j9 (by omega);have sE:(0:Int)<(n:Int):=by omega
 have sD:(1:Int)<(n:Int):=by omega
 have H0:(0:Int)<((n-1-0:Nat):Int):=by omega
 have HY:(1:Int)<((n-1-0:Nat):Int):=by omega
 have HZ:(0:Int)<((n-1-1:Nat):Int):=by omega
 simp only[Z3,seval,-ae,w5];clear w5;generalize h5.set r0 [PV.int .i64 p,.sl sP 0 n capP,.sl sB 0 n ai]=g5 at *
 obtain⟨f3,f0,f1,f2⟩:=gs.rd;simp only[Z3,seval,-ae,f3,pd];refine Qe (vP:=.sl sP 0 n capP) (vB:=.sl sB 0 n ai) (n:=n) (k:=n-1) rfl rfl rfl (by omega) (by omega) λvl cH=>?_;obtain⟨t6,c6,rB⟩:=gs.rdB (i:=0) (by omega) (λW B q=>cL q (by omega));simp only[Z3,seval,-ae,f3,f2,rB,sE];refine Qe (vP:=.sl sP 0 n capP) (vB:=.sl sB 0 n ai) (n:=n) (k:=2) rfl rfl rfl (by omega) (by omega) λv6 pK=>?_;obtain⟨g6,w6,nF,_⟩:=gs.putB (F':=OkF p n) (i:=0) (k:=0) (by omega) rB (by omega) (λ_ _ h=>h) pK pK.one (λW B _ q=>q.setB (by omega) (zV q.w.pr (by omega)) (λj hj=>by rw[qR (by omega),if_neg (by omega)]));simp only[Z3,seval,-ae,f2,rB,w6,sE,H0,pK.cells];clear f3 f0 f1 f2 rB w6 gs;by_cases IJ:n=4;rotate_left
 .as_aux_lemma=>
  have u4:¬(n:Int)=4:=by omega
  simp only[Z3,seval,-ae,u4,decide_false];obtain⟨f3,f0,f1,f2⟩:=nF.rd;simp only[Z3,seval,-ae,f3,f1,pd];refine zf (vP:=.sl sP 0 n capP) (vB:=.sl sB 0 n ai) (n:=n) (k:=n-1) nF.so bG rfl rfl rfl (by omega) (by omega) λv9 x9 k9 pH pE jA m9 po=>?_;have lQ:=nF.mv m9 po;obtain⟨p3,p0,p1,p2⟩:=lQ.rd;obtain⟨h9,w9,nE⟩:=lQ.putP (F':=OkF p n) (i:=1) (w:=x9) (by omega) jA (λW B q=>q.setP pH (λj hj=>pE j (by omega)));simp only[Z3,seval,-ae,p1,w9,sD,jA.cells];obtain⟨e1,e2,e3,e4⟩:=fin nE;simp only[Z3,seval,-ae,e1,e2,e3];exact e4
 have E6:decide ((n:Int)=4)=true:=decide_eq_true (by omega);by_cases EM:p=5;rotate_left
 .as_aux_lemma=>
  simp only[Z3,seval,-ae,E6,EM,decide_true,decide_false];obtain⟨f3,f0,f1,f2⟩:=nF.rd;simp only[Z3,seval,-ae,f3,f1,pd];refine zf (vP:=.sl sP 0 n capP) (vB:=.sl sB 0 n ai) (n:=n) (k:=n-1) nF.so bG rfl rfl rfl (by omega) (by omega) λv9 x9 k9 pH pE jA m9 po=>?_;have lQ:=nF.mv m9 po;obtain⟨p3,p0,p1,p2⟩:=lQ.rd;obtain⟨h9,w9,nE⟩:=lQ.putP (F':=OkF p n) (i:=1) (w:=x9) (by omega) jA (λW B q=>q.setP pH (λj hj=>pE j (by omega)));simp only[Z3,seval,-ae,p1,w9,sD,jA.cells];obtain⟨e1,e2,e3,e4⟩:=fin nE;simp only[Z3,seval,-ae,e1,e2,e3];exact e4
 obtain⟨f3,f0,f1,f2⟩:=nF.rd;obtain⟨t7,c7,rB⟩:=nF.rdB (i:=0) (by omega) (λW B q=>cL q (by omega));obtain⟨g7,w7,Fw,_⟩:=nF.putB (F':=OkF p n) (i:=0) (k:=1) (by omega) rB (by omega) (λ_ _ h=>h) cH cH.one (λW B _ q=>q.setB (by omega) hle (λj hj=>by rw[qR (by omega),if_neg (by omega)]));have B4:decide (p=5)=true:=decide_eq_true EM;simp only[Z3,seval,-ae,E6,B4,decide_true,f2,rB,w7,sE,HY,cH.cells];clear f3 f0 f1 f2 rB w7;refine zw Fw.so (by decide) λz g8 Ey m8 GV=>?_;have oV:=Fw.mv m8 GV;by_cases ck:z=0
 .as_aux_lemma=>
  obtain⟨f3,f0,f1,f2⟩:=oV.rd;obtain⟨t,c,rB⟩:=oV.rdB (i:=1) (by omega) (λW B q=>cL q (by omega));have EJ:=oV.sBb;simp only[Z3,seval,-ae,ck,decide_true,f3,f2,rB,sD];refine zf (vP:=.sl sP 0 n capP) (vB:=.sl sB 0 n ai) (n:=n) (k:=3) oV.so bG rfl rfl rfl (by omega) (by omega) λv x g4 hx hz hv m4 dV=>?_;have jQ:=oV.mv m4 dV;obtain⟨p3,p0,p1,p2⟩:=jQ.rd;have mj:g4.rd1 sB 1=some (.sl t 0 (n-1-1) c):=by rw[m4.rd1 (by omega)];exact rB
  obtain⟨gb,w5,Dn,_⟩:=jQ.putB (F':=OkF p n) (i:=1) (k:=0) (w:=x) (by omega) mj (by omega) (λ_ _ h=>h) hv hv.one (λW B hB q=>q.setB (by omega) hx (λj hj=>hz j (by omega)));simp only[Z3,seval,-ae,p2,mj,w5,hv.cells,sD,HZ];clear f3 f0 f1 f2 rB p3 p0 p1 p2 mj w5;obtain⟨f3,f0,f1,f2⟩:=Dn.rd;simp only[Z3,seval,-ae,f3,f1];refine zf (vP:=.sl sP 0 n capP) (vB:=.sl sB 0 n ai) (n:=n) (k:=3) Dn.so bG rfl rfl rfl (by omega) (by omega) λva xa ka ub Ba dD ma Ao=>?_;have wY:=Dn.mv ma Ao;obtain⟨p3,p0,p1,p2⟩:=wY.rd;obtain⟨ha,wa,rX⟩:=wY.putP (F':=OkF p n) (i:=0) (w:=xa) (by omega) dD (λW B q=>q.setP ub (λj hj=>Ba j (by omega)));simp only[Z3,seval,-ae,p1,wa,sE,dD.cells];clear f3 f0 f1 f2 p3 p0 p1 p2 wa;obtain⟨f3,f0,f1,f2⟩:=rX.rd;simp only[Z3,seval,-ae,f3,f1,pd];refine zf (vP:=.sl sP 0 n capP) (vB:=.sl sB 0 n ai) (n:=n) (k:=n-1) rX.so bG rfl rfl rfl (by omega) (by omega) λv9 x9 k9 pH pE jA m9 po=>?_;have lQ:=rX.mv m9 po;obtain⟨p3,p0,p1,p2⟩:=lQ.rd;obtain⟨h9,w9,nE⟩:=lQ.putP (F':=OkF p n) (i:=1) (w:=x9) (by omega) jA (λW B q=>q.setP pH (λj hj=>pE j (by omega)));simp only[Z3,seval,-ae,p1,w9,sD,jA.cells];obtain⟨e1,e2,e3,e4⟩:=fin nE;simp only[Z3,seval,-ae,e1,e2,e3];exact e4
 .as_aux_lemma=>
  simp only[Z3,seval,-ae,ck,decide_false];obtain⟨f3,f0,f1,f2⟩:=oV.rd;simp only[Z3,seval,-ae,f3,f1];refine zf (vP:=.sl sP 0 n capP) (vB:=.sl sB 0 n ai) (n:=n) (k:=3) oV.so bG rfl rfl rfl (by omega) (by omega) λva xa ka ub Ba dD ma Ao=>?_;have wY:=oV.mv ma Ao;obtain⟨p3,p0,p1,p2⟩:=wY.rd;obtain⟨ha,wa,rX⟩:=wY.putP (F':=OkF p n) (i:=0) (w:=xa) (by omega) dD (λW B q=>q.setP ub (λj hj=>Ba j (by omega)));simp only[Z3,seval,-ae,p1,wa,sE,dD.cells];clear f3 f0 f1 f2 p3 p0 p1 p2 wa;obtain⟨f3,f0,f1,f2⟩:=rX.rd;simp only[Z3,seval,-ae,f3,f1,pd];refine zf (vP:=.sl sP 0 n capP) (vB:=.sl sB 0 n ai) (n:=n) (k:=n-1) rX.so bG rfl rfl rfl (by omega) (by omega) λv9 x9 k9 pH pE jA m9 po=>?_;have lQ:=rX.mv m9 po;obtain⟨p3,p0,p1,p2⟩:=lQ.rd;obtain⟨h9,w9,nE⟩:=lQ.putP (F':=OkF p n) (i:=1) (w:=x9) (by omega) jA (λW B q=>q.setP pH (λj hj=>pE j (by omega)));simp only[Z3,seval,-ae,p1,w9,sD,jA.cells];obtain⟨e1,e2,e3,e4⟩:=fin nE;simp only[Z3,seval,-ae,e1,e2,e3];exact e4
theorem zLY(so:So σ s vC bs)(hk:∀p vP vB W B h,DrR p W B->IsR vP vB W B->Mv σ s h->So h s vC bs->K (.agg [.int .i64 p,vP,vB]) h):zA Tryz.prog 163 [.ptr s 0] σ K:=by
 have bK:=so.lt;refine zA.gh ?_;generalize hT:σ.new [.int .i64 0,.fz true .nils 0 [],.fz true .nils 0 []]=T;have cJ:T.next=σ.next+1:=by rw[<-hT];rfl
 have cg:Keep σ T:=by rw[<-hT];exact zC σ _
 have dp:So T s vC bs:=so.keep cg;have bQ:s<T.next:=dp.lt;have fU:T.obj σ.next=some [.int .i64 0,.fz true .nils 0 [],.fz true .nils 0 []]:=by rw[<-hT];simp only[Z3,seval,-ae]
 have aI:∀{g:PHeap} {u0 u1 u2:PV},KM T s g->u0.one=true->u1.one=true->u2.one=true->g.wr σ.next 0 [u0,u1,u2]=some (g.set σ.next [u0,u1,u2])/\(g.set σ.next [u0,u1,u2]).rd σ.next 0 3=some [u0,u1,u2]:=λ{g u0 u1 u2} k z0 z1 z2=>by
  have aI:g.obj σ.next=some [.int .i64 0,.fz true .nils 0 [],.fz true .nils 0 []]:=by rw[k.obj (by omega) (by omega)];exact fU
  exact⟨by rw[qC aI,if_pos ⟨by simp,by simp only[List.all_cons,List.all_nil,z0,z1,z2];rfl⟩];rfl,by rw[qh,if_pos rfl];rfl⟩
 have fin:∀{g:PHeap} {p:Int} {vP vB:PV} {W:V2} {B:V3},DrR p W B->IsR vP vB W B->KM T s g->So g s vC bs->Gh σ K (.agg [.int .i64 p,vP,vB]) (g.set σ.next [.int .i64 p,vP,vB]):=λ{g p vP vB W B} d hR km dP=>by
  refine Gh.km (((so.kmK cg).trans bK km).set (vM _) _) (dP.set (by omega) _) bK λσ' m' cU kp=>?_;exact Gh.fin0 kp ⟨trivial,hR.P.bel _,hR.B.bel _,trivial⟩ (hk p vP vB W B σ' d hR m' cU)
 refine zD mix Tryz.func163 ?_
 conv=>arg 2;cbv
 refine zF rfl ?_;simp only[Z3,seval,-ae];rw[hT];refine zw dp (by decide) λx h1 hx m1 dP=>?_;have iZ:=dp.km.mv bQ m1;by_cases fV:x=0
 .simp only[Z3,seval,-ae,fV,decide_true];refine zLd dP λp vP vB W B h2 d hR m2 dy=>?_;have gk:=iZ.mv bQ m2;have g1:=hR.P.one;have g2:=hR.B.one;obtain⟨x1,x2⟩:=aI (u0:=.int .i64 p) (u1:=vP) (u2:=vB) gk rfl g1 g2;simp only[Z3,seval,-ae,g1,g2,x1,x2];exact fin d hR gk dy
 .simp only[Z3,seval,-ae,fV,decide_false];refine zLW dP λp vP vB W B h2 d hR m2 dy=>?_;have gk:=iZ.mv bQ m2;have g1:=hR.P.one;have g2:=hR.B.one;obtain⟨x1,x2⟩:=aI (u0:=.int .i64 p) (u1:=vP) (u2:=vB) gk rfl g1 g2;simp only[Z3,seval,-ae,g1,g2,x1,x2];exact fin d hR gk dy
variable{σ0:PHeap}
theorem KM.keepOf(k:KM σ s h)(hk:Keep σ0 σ)(hs:σ0.next<=s):Keep σ0 h:=by
 obtain⟨σ',⟨c0,c1,h0,h1,rfl⟩,q⟩:=k;exact(hk.set hs _).trans q
variable{vx vy:PV}{x y:V1}
theorem zED(hx:FI vx x)(hy:FI vy y)(hl:x.length<=1048576)(hk:∀t:Bool,(t=true↔x=y)->K (.bool t) σ):zA Tryz.prog 35 [vx,vy] σ K:=by
 obtain⟨wx,ax,rfl⟩:=hx;obtain⟨wy,ay,rfl⟩:=hy;refine zD mix Tryz.func35 ?_
 conv=>arg 2;cbv
 refine zF rfl ?_;simp only[Z3,seval,-ae];by_cases jb:x.length=y.length;rotate_left
 .have ar:¬(x.length:Int)=(y.length:Int):=by omega
  simp only[Z3,seval,-ae,ar];exact hk false ⟨λh=>(by cases h),λh=>absurd (by rw[h]) jb⟩
 have heq:(x.length:Int)=(y.length:Int):=by omega
 simp only[Z3,seval,-ae,heq];refine zG (λm us g=>∃i:Nat,i<=y.length/\m=y.length-i/\us=[.fz wx ax x.length (pis x),.fz wy ay y.length (pis y),.int .i64 i]/\g=σ/\∀j,j<i->x[j]? = y[j]?) y.length ⟨0,by omega,by omega,rfl,rfl,λj hj=>absurd hj (Nat.not_lt_zero _)⟩ ?_
 rintro m us g ⟨i,hi,rfl,rfl,rfl,he⟩
 simp only[Z3,seval,-ae,heq];refine iteI (λah=>?_) λaG=>?_;rotate_left
 .refine hk true ⟨λ_=>List.ext_getElem? λj=>?_,λ_=>rfl⟩;rcases Nat.lt_or_ge j i with e|e
  .exact he j e
  .rw[List.getElem?_eq_none (by omega),List.getElem?_eq_none (by omega)]
 have fK:i<x.length:=by omega
 have fa:i<y.length:=by omega
 have bB:IntKind.i64.wrap ((i:Int)+1)=((i+1:Nat):Int):=wrapS fa (by omega);simp only[Z3,seval,-ae,pisAt fK,pisAt fa,fK,fa,bB];refine iteI (λhv=>?_) λhv=>?_
 .refine⟨_,by omega,i+1,by omega,rfl,rfl,λj hj=>?_⟩;rcases Nat.lt_or_ge j i with e|e
  .exact he j e
  .obtain rfl:j=i:=by omega
   rw[List.getElem?_eq_getElem fK,List.getElem?_eq_getElem fa,<-at_eq fK,<-at_eq fa,hv]
 .refine hk false ⟨λh=>(by cases h),λh=>absurd ?_ hv⟩;rw[h]
theorem zRB(hb:FB vC bs)(hk:∀t:Bool,(t=true↔4096<bs.length)->K (.bool t) σ):zA Tryz.prog 24 [vC] σ K:=by
 obtain⟨w,a,rfl⟩:=hb;refine zD mix Tryz.func24 ?_
 conv=>arg 2;cbv
 refine zF rfl ?_;simp only[Z3,seval,-ae];refine hk _ ?_;rw[decide_eq_true_eq];omega
end Go.Proofs
namespace Go.Grp
end Go.Grp
namespace Go.Proofs
open Go.Ab Go.Lie Go.Grp
variable{O:V1}{x:V1}{p:Int}
theorem zQw:isExp O x↔gS O x:=by
 constructor
 .rintro⟨h1,h2⟩
  exact⟨h1,λj hj=>by have:=h2 j (by omega);omega,λj hj=>by omega⟩
 .intro h;exact⟨h.len,λj hj=>by have:=h.bd j (by rw[<-h.len];exact hj);omega⟩
theorem zGd(p:Int):∀k,pw_ p k=p ^ k
 |0=>by simp[pw_]
 |k+1=>by rw[Int.pow_succ,<-zGd p k];simp only[pw_];rw[Int.mul_comm]
variable{σ h h':PHeap}{K:PV->PHeap->Prop}{y:V1}{P:V2}{C:V3}{vO vP vC vx:PV}{D R:List (Option V1)}{rb:List PV}{d n sT:Nat}
def DRf(n:Nat)(c:PV)(r:Option V1):Prop:=(c=.fz true .nils 0 []/\r=none)\/∃w a y,c=.fz w a n (pis y)/\y.length=n/\r=some y
theorem DRf.get(h:All2 (DRf n) rb D){d:Nat}(hd:d<D.length):(rb[d]? = some (.fz true .nils 0 [])/\D[d]? = some none)\/∃w a y,rb[d]? = some (.fz w a n (pis y))/\y.length=n/\D[d]? = some (some y):=by
 have hb:d<rb.length:=by rw[h.1];exact hd
 rw[List.getElem?_eq_getElem hb,List.getElem?_eq_getElem hd];rcases h.2 d _ _ (List.getElem?_eq_getElem hb) (List.getElem?_eq_getElem hd)with ⟨e1,e2⟩|⟨w,a,y,e1,e3,e2⟩
 .exact .inl ⟨by rw[e1],by rw[e2]⟩
 .exact .inr ⟨w,a,y,by rw[e1],e3,by rw[e2]⟩
theorem DRf.put(h:All2 (DRf n) rb D){v:PV}(hv:FI v y)(hy:y.length=n):All2 (DRf n) (rb.set d v) (D.set d (some y)):=by
 obtain⟨w,a,rfl⟩:=hv;refine⟨by rw[List.length_set,List.length_set];exact h.1,λk c r hc hr=>?_⟩;rw[List.getElem?_set]at hc hr;by_cases e:d=k
 .rw[if_pos e]at hc hr;split at hc
  .split at hr
   .cases hc;cases hr;exact .inr ⟨w,a,y,by rw[hy],hy,rfl⟩
   .cases hr
  .cases hc
 .rw[if_neg e]at hc hr;exact h.2 k c r hc hr
theorem DRf.start(n m:Nat):All2 (DRf n) (List.replicate m (.fz true .nils 0 [])) (List.replicate m none):=by
 refine⟨by simp,λk c r hc hr=>?_⟩;rw[List.getElem?_replicate]at hc hr;split at hc
 .rename_i h;rw[if_pos h]at hr;cases hc;cases hr;exact .inl ⟨rfl,rfl⟩
 .cases hc
theorem zJr(g:LG O P C)(hR:IsPr vO vP vC O P C)(hT:σ.obj sT=some rb)(C4:sT<σ.next)(hD:OkD O D)(bD:All2 (DRf O.length) rb D)(hx:gS O x)(aX:FI vx x)
  (hk:∀v z,FI v z->gS O z->(dep z<O.length->D[dep z]? = some none)->Rdu O P C D x z->K (.tup [.int .i64 (dep z),v]) σ):zA Tryz.prog 181 [.agg [vO,vP,vC],.sl sT 0 O.length (.known O.length),vx] σ K:=by
 have h0:=hR.O.one;have h1:=hR.P.one;have h2:=hR.C.one;have s:=g.s;have F:=g.F;have G:=F.g;have aN:=s.le;have aW:=hx.len;refine zA.gh ?_;have ar:¬sT=σ.next:=Nat.ne_of_lt C4;refine zD mix Tryz.func181 ?_
 conv=>arg 2;cbv
 refine zF rfl ?_;simp only[Z3,seval,-ae,h0,h1,h2];refine ownFI aX (by omega) λv0 mr=>?_;simp only[Z3,seval,-ae];refine zG (λm vs h'=>∃(d:Nat) (z:V1) (v:PV),d<=O.length/\m=O.length-d/\vs=[.sl sT 0 O.length (.known O.length),.ptr σ.next 0,v,.int .i64 d]/\σ.new [vO,vP,vC]=h'/\TT O d z/\FI v z/\Rdu O P C D x z) O.length ⟨0,x,v0,by omega,by omega,rfl,rfl,hx,mr,.refl _⟩ ?_
 rintro m vs h' ⟨d,z,v,hd,rfl,rfl,rfl,hz,hv,hr⟩
 have tW:gS O z:=hz.mono (Nat.zero_le _);have dQ:=hz.len;simp only[Z3,seval,-ae];refine iteI (λah=>?_) λaG=>?_;rotate_left
 .have Jr:d=O.length:=by omega
  subst Jr;have ck:z=zv O:=hz.ext (s.zv _) λj h1 h2=>by omega
  have hdz:dep z=O.length:=by rw[ck];exact zHL s
  exact Gh.fin0 (zC σ _) ⟨trivial,hv.bel _,trivial⟩ (by rw[<-hdz];exact hk v z hv tW (λh=>by omega) hr)
 have aE:d<O.length:=by omega
 have hdz:d<z.length:=by omega
 obtain⟨wz,az,rfl⟩:=hv;have yd:FI (.fz wz az z.length (pis z)) z:=⟨wz,az,rfl⟩;have w1:IntKind.i64.wrap ((d:Int)+1)=((d+1:Nat):Int):=by rw[wrap64 (by omega) (by omega)];omega
 have bz:=tW.bd d aE;have bO:=s.pr d aE;by_cases ck:at_ z d=0
 .simp only[Z3,seval,-ae,hdz,pisAt hdz,ck,w1];refine⟨_,by omega,d+1,z,_,by omega,rfl,rfl,⟨hz.len,hz.bd,λj hj=>?_⟩,yd,hr⟩;rcases Nat.lt_or_ge j d with h|h
  .exact hz.zero j h
  .rw[show j=d by omega];exact ck
 have bM:=zI hT d;rcases DRf.get bD (d:=d) (by rw[hD.len];exact aE)with ⟨e1,e2⟩|⟨w,a,y,e1,e3,e2⟩
 .rw[e1]at bM;have E5:dep z=d:=zAr (λj hj=>hz.zero j hj) ck;simp only[Z3,seval,-ae,hdz,pisAt hdz,ck,aE,ar,bM];exact Gh.fin0 (zC σ _) ⟨trivial,yd.bel _,trivial⟩ (by rw[<-E5];exact hk _ z yd tW (λ_=>by rw[E5];exact e2) hr)
 .rw[e1]at bM;obtain⟨y1,y2⟩:=hD.row _ _ e2;have yS:gS O y:=y1.mono (Nat.zero_le _);have yq:¬((O.length:Int)=0):=by omega
  have cY:IntKind.i64.wrap (0-at_ z d)=-at_ z d:=by rw[wrap64 (by omega) (by omega)];omega
  simp only[Z3,seval,-ae,hdz,pisAt hdz,ck,aE,ar,bM,yq,h0,h1,h2,cY];refine zFa g hR yS ⟨w,a,by rw[e3]⟩ (k:=-at_ z d) (by omega) λv1 f1=>?_;rw[Int.neg_neg]at f1;obtain⟨q1,q2,q3,q4⟩:=zFB s F g.cent aE tW y1 y2;have q5:TT O (d+1) (gm O P C z (Grp.pw (gm O P C) (zv O) (ginv (gS O) (gm O P C) (zv O) y) (at_ z d).toNat)):=⟨q1.len,q1.bd,λj hj=>by
   rcases Nat.lt_or_ge j d with h|h
   .rw[q3 j h];exact hz.zero j h
   .rw[show j=d by omega];exact q4⟩
  have my:=hr.trans (Rdu.stepR s F g.cent hD e2 aE hz ck q1 q2 q5);simp only[Z3,seval,-ae,h0,h1,h2];refine zAn s hR tW (G.pw (G.inv_in yS).1 _) yd f1 λv2 f2=>?_;simp only[Z3,seval,-ae,w1];exact⟨_,by omega,d+1,_,v2,by omega,rfl,rfl,q5,f2,my⟩
structure FullI(O:V1)(P:V2)(C:V3)(D R:List (Option V1))(k:Nat):Prop where
 len:R.length=O.length
 dom:∀d,k<=d->d<O.length->((∃y,R[d]? = some (some y))↔∃y,D[d]? = some (some y))
 row:∀(d:Nat) (y:V1),k<=d->R[d]? = some (some y)->TT O d y/\at_ y d=1
 red:∀(d e:Nat) (y z:V1),k<=d->k<=e->d≠e->R[d]? = some (some y)->R[e]? = some (some z)->at_ y e=0
 iff:∀N,gB O P C N->((∀(d:Nat) (y:V1),k<=d->R[d]? = some (some y)->N y)↔∀(d:Nat) (y:V1),k<=d->D[d]? = some (some y)->N y)
theorem FullI.start(n:Nat)(hn:O.length=n)(hD:D.length=n):FullI O P C D (List.replicate n none) n:=by
 have no:∀{E:List (Option V1)} {d y},E.length=n->n<=d->E[d]? = some (some y)->False:=λhE hd h=>by
  rw[List.getElem?_eq_none (by omega)]at h;cases h
 exact⟨by simp[hn],λd h1 h2=>by omega,λd y h1 h2=>(no (by simp) h1 h2).elim,λd e y z h1 _ _ h2=>(no (by simp) h1 h2).elim,λN _=>⟨λ_ d y h1 h2=>(no hD h1 h2).elim,λ_ d y h1 h2=>(no (by simp) h1 h2).elim⟩⟩
theorem FullI.skip{k:Nat}(f:FullI O P C D R (k+1))(hk:k<O.length)(h1:D[k]? = some none)(h2:R[k]? = some none):FullI O P C D R k:=by
 have up:∀{d:Nat} {y:V1},k<=d->(R[d]? = some (some y)\/D[d]? = some (some y))->k+1<=d:=λ{d y} hd h=>by
  rcases Nat.lt_or_ge k d with e|e
  .exact e
  .rw[show d=k by omega,h1,h2]at h;rcases h with h|h<;>cases h
 refine⟨f.len,λd a b=>?_,λd y a b=>f.row d y (up a (.inl b)) b,λd e y z a b c h h'=>f.red d e y z (up a (.inl h)) (up b (.inl h')) c h h',λN hN=>?_⟩
 .constructor
  .rintro⟨y,hy⟩;exact(f.dom d (up a (.inl hy)) b).1 ⟨y,hy⟩
  .rintro⟨y,hy⟩;exact(f.dom d (up a (.inr hy)) b).2 ⟨y,hy⟩
 .constructor
  .intro g d y a b;exact(f.iff N hN).1 (λd y a' b'=>g d y (by omega) b') d y (up a (.inr b)) b
  .intro g d y a b;exact(f.iff N hN).2 (λd y a' b'=>g d y (by omega) b') d y (up a (.inl b)) b
theorem FullI.put{k:Nat}{x y:V1}(f:FullI O P C D R (k+1))(hk:k<O.length)(h1:D[k]? = some (some y))(hx:TT O k x)(gO:at_ x k=1)(hz:∀(e:Nat) (z:V1),k<e->R[e]? = some (some z)->at_ x e=0)
  (hN:∀N,gB O P C N->(∀(d:Nat) (y:V1),k+1<=d->R[d]? = some (some y)->N y)->(N y↔N x)):FullI O P C D (R.set k (some x)) k:=by
 have hl:k<R.length:=by rw[f.len];exact hk
 have ge:∀{d:Nat} {w:V1},(R.set k (some x))[d]? = some (some w)->(d=k/\w=x)\/(d≠k/\R[d]? = some (some w)):=λ{d w} h=>by
  rw[List.getElem?_set]at h;split at h
  .rename_i e;cases h;exact .inl ⟨e.symm,rfl⟩
  .rename_i e;exact .inr ⟨λh=>e h.symm,h⟩
 have xM:(R.set k (some x))[k]? = some (some x):=by rw[List.getElem?_set,if_pos rfl,if_pos hl]
 have xL:∀{d:Nat} {w:V1},d≠k->R[d]? = some (some w)->(R.set k (some x))[d]? = some (some w):=λ{d w} h e=>by rw[List.getElem?_set,if_neg (λh'=>h h'.symm)];exact e
 refine⟨by rw[List.length_set];exact f.len,λd a b=>?_,λd w a b=>?_,λd e w z a b c h h'=>?_,λN wP=>?_⟩
 .by_cases e:d=k
  .subst e;exact⟨λ_=>⟨y,h1⟩,λ_=>⟨x,xM⟩⟩
  .constructor
   .rintro⟨w,hw⟩
    rcases ge hw with ⟨e',_⟩|⟨_,hw⟩
    .exact absurd e' e
    .exact(f.dom d (by omega) b).1 ⟨w,hw⟩
   .rintro⟨w,hw⟩
    obtain⟨z,cG⟩:=(f.dom d (by omega) b).2 ⟨w,hw⟩;exact⟨z,xL e cG⟩
 .rcases ge b with ⟨rfl,rfl⟩|⟨e,hw⟩
  .exact⟨hx,gO⟩
  .exact f.row d w (by omega) hw
 .rcases ge h with ⟨e1,e2⟩|⟨e1,hw⟩
  .rcases ge h' with ⟨e3,_⟩|⟨e3,cG⟩
   .omega
   .rw[e2];exact hz e z (by omega) cG
  .rcases ge h' with ⟨e3,e4⟩|⟨e3,cG⟩
   .have:=(f.row d w (by omega) hw).1.zero
    rw[e3];exact this k (by omega)
   .exact f.red d e w z (by omega) (by omega) c hw cG
 .have key:((∀(d:Nat) (w:V1),k<=d->(R.set k (some x))[d]? = some (some w)->N w)↔(N x/\∀(d:Nat) (w:V1),k+1<=d->R[d]? = some (some w)->N w)):=by
   constructor
   .intro h;exact⟨h k x (vM _) xM,λd w a b=>h d w (by omega) (xL (by omega) b)⟩
   .rintro⟨h2,h3⟩ d w a b
    rcases ge b with ⟨_,rfl⟩|⟨e,hw⟩
    .exact h2
    .exact h3 d w (by omega) hw
  have A4:((∀(d:Nat) (w:V1),k<=d->D[d]? = some (some w)->N w)↔(N y/\∀(d:Nat) (w:V1),k+1<=d->D[d]? = some (some w)->N w)):=by
   constructor
   .intro h;exact⟨h k y (vM _) h1,λd w a b=>h d w (by omega) b⟩
   .rintro⟨h2,h3⟩ d w a b
    by_cases e:d=k
    .subst e;rw[h1]at b;cases b;exact h2
    .exact h3 d w (by omega) b
  rw[key,A4,<-f.iff N wP];constructor
  .rintro⟨a,b⟩;exact⟨(hN N wP b).2 a,b⟩
  .rintro⟨a,b⟩;exact⟨(hN N wP b).1 a,b⟩
variable{rr:List PV}
def rowsD(R:List (Option V1))(k:Nat):V2:=(R.take k).filterMap id
theorem zCR{k:Nat}(h:R[k]? = some none):rowsD R (k+1)=rowsD R k:=by
 unfold rowsD;have hl:k<R.length:=by
  rcases Nat.lt_or_ge k R.length with e|e
  .exact e
  .rw[List.getElem?_eq_none e]at h;cases h
 rw[List.getElem?_eq_getElem hl]at h;rw[List.take_succ_eq_append_getElem hl,List.filterMap_append,Option.some.inj h];simp
theorem zCQ{k:Nat}(h:R[k]? = some (some y)):rowsD R (k+1)=rowsD R k++[y]:=by
 unfold rowsD;have hl:k<R.length:=by
  rcases Nat.lt_or_ge k R.length with e|e
  .exact e
  .rw[List.getElem?_eq_none e]at h;cases h
 rw[List.getElem?_eq_getElem hl]at h;rw[List.take_succ_eq_append_getElem hl,List.filterMap_append,Option.some.inj h];simp
theorem zGb(k:Nat):(rowsD R k).length<=k:=by
 unfold rowsD;refine Nat.le_trans (List.length_filterMap_le _ _) ?_;rw[List.length_take];omega
theorem zAm{v:V1}{k:Nat}:v∈rowsD R k↔∃d,d<k/\R[d]? = some (some v):=by
 unfold rowsD;rw[List.mem_filterMap];constructor
 .rintro⟨o,ho,rfl⟩
  obtain⟨d,hd,e⟩:=List.mem_iff_getElem.1 ho;rw[List.length_take]at hd;refine⟨d,by omega,?_⟩;rw[List.getElem_take]at e;rw[List.getElem?_eq_getElem (by omega),e]
 .rintro⟨d,hd,e⟩
  have hl:d<R.length:=by
   rcases Nat.lt_or_ge d R.length with e'|e'
   .exact e'
   .rw[List.getElem?_eq_none e']at e;cases e
  refine⟨some v,?_,rfl⟩;rw[List.mem_take_iff_getElem];rw[List.getElem?_eq_getElem hl]at e;exact⟨d,by omega,Option.some.inj e⟩
theorem zDk(hy:TT O d y)(h1:at_ y d=1):dep y=d:=zAr (λj hj=>hy.zero j hj) (by rw[h1];decide)
theorem zMH(f:FullI O P C D R 0)(hD:OkD O D):CanD O P C D (rowsD R O.length):=by
 have hR:∀{d:Nat} {y:V1},R[d]? = some (some y)->d<O.length:=λ{d y} h=>by
  rw[<-f.len];rcases Nat.lt_or_ge d R.length with e|e
  .exact e
  .rw[List.getElem?_eq_none e]at h;cases h
 have get:∀{v:V1},v∈rowsD R O.length->∃d,d<O.length/\R[d]? = some (some v)/\TT O d v/\at_ v d=1/\dep v=d:=λ{v} hv=>by
  obtain⟨d,hd,e⟩:=zAm.1 hv;obtain⟨h1,h2⟩:=f.row d v (Nat.zero_le _) e;exact⟨d,hd,e,h1,h2,zDk h1 h2⟩
 refine⟨λv hv=>?_,?_,λv hv w hw ar=>?_,λd y hy=>?_,zGb _,λN hN=>?_⟩
 .obtain⟨d,hd,e,h1,h2,h3⟩:=get hv;exact⟨h1.mono (Nat.zero_le _),by omega,by rw[h3];exact h2⟩
 .have:∀k,k<=O.length->(rowsD R k).Pairwise λa b=>dep a<dep b:=by
   intro k
   induction k with
   |zero=>intro _;simp[rowsD]
   |succ k ih=>
    intro hk;have hl:k<R.length:=by rw[f.len];omega
    rcases hc:R[k]? with _|_|y
    .rw[List.getElem?_eq_getElem hl]at hc;cases hc
    .rw[zCR hc];exact ih (by omega)
    .rw[zCQ hc,List.pairwise_append];obtain⟨h1,h2⟩:=f.row k y (Nat.zero_le _) hc;refine⟨ih (by omega),by simp,λa ha b hb=>?_⟩;rw[List.mem_singleton.1 hb,zDk h1 h2];obtain⟨d,hd,e⟩:=zAm.1 ha;obtain⟨h3,h4⟩:=f.row d a (Nat.zero_le _) e
     have:=zDk h3 h4;omega
  exact this _ (vM _)
 .obtain⟨d,hd,e,h1,h2,h3⟩:=get hv;obtain⟨d',jK,e',lO,lM,Kv⟩:=get hw;rw[Kv];exact f.red d d' v w (Nat.zero_le _) (Nat.zero_le _) (by omega) e e'
 .have hd:d<O.length:=by
   rw[<-hD.len];rcases Nat.lt_or_ge d D.length with e|e
   .exact e
   .rw[List.getElem?_eq_none e]at hy;cases hy
  obtain⟨z,hz⟩:=(f.dom d (Nat.zero_le _) hd).2 ⟨y,hy⟩;obtain⟨h1,h2⟩:=f.row d z (Nat.zero_le _) hz;exact⟨z,zAm.2 ⟨d,hd,hz⟩,zDk h1 h2⟩
 .constructor
  .intro h;exactλd y hy=>(f.iff N hN).1 (λd y _ hy=>h y (zAm.2 ⟨d,hR hy,hy⟩)) d y (Nat.zero_le _) hy
  .intro h v hv;obtain⟨d,hd,e⟩:=zAm.1 hv;exact(f.iff N hN).2 (λd y _ hy=>h d y hy) d v (Nat.zero_le _) e
theorem zLf(g:LG O P C)(hR:IsPr vO vP vC O P C)(hT:σ.obj sT=some rb)(C4:sT<σ.next)(hD:OkD O D)(bD:All2 (DRf O.length) rb D)
  (hk:∀v u,FII v u->CanD O P C D u->K v σ):zA Tryz.prog 185 [.agg [vO,vP,vC],.sl sT 0 O.length (.known O.length)] σ K:=by
 have h0:=hR.O.one;have h1:=hR.P.one;have h2:=hR.C.one;have s:=g.s;have F:=g.F;have G:=F.g;have aN:=s.le;refine zA.gh ?_;have ar:¬sT=σ.next:=Nat.ne_of_lt C4;have Bu:IntKind.i64.wrap ((O.length:Int)-1)=(O.length:Int)-1:=wrap64 (by omega) (by omega);refine zN mix Tryz.func185 cf185 rfl ?_;dsimp only[if185,eI,qD,eD,mI0,kI0,lI0,xI0,bI0,cI0,sI0,mD0,lD0,xD0,I0,G0,gm0,aI0,zI0,vI0,R0,S0];simp only[Z3,seval,-ae,h0,h1,h2,mk24 (n:=O.length) (by omega),mkL (n:=O.length) (by omega),Bu];have eU:(σ.new [vO,vP,vC]).rd σ.next 0 3=some [vO,vP,vC]:=by simp only[Z3,seval,-ae]
 have J5:(σ.new [vO,vP,vC]).obj sT=some rb:=by simp only[Z3,seval,-ae,ar];exact hT
 have uT:(σ.new [vO,vP,vC]).next=σ.next+1:=rfl;have kp:Keep σ (σ.new [vO,vP,vC]):=zC σ _;generalize σ.new [vO,vP,vC]=T at *
 rw[<-uT];have nB:Bel T.next vO/\Bel T.next vP/\Bel T.next vC:=⟨hR.O.bel _,hR.P.bel _,hR.C.bel _⟩;refine zG (λm vs h'=>∃(k:Nat) (R:List (Option V1)) (rr:List PV),m=k/\k<=O.length/\vs=[.sl sT 0 O.length (.known O.length),.ptr σ.next 0,.sl T.next 0 O.length (.known O.length),.int .i64 ((k:Int)-1)]/\h'=T.new rr/\All2 (DRf O.length) rr R/\FullI O P C D R k/\(∀d,d<k->R[d]? = some none)) O.length ?_ ?_
 .exact⟨O.length,List.replicate O.length none,_,rfl,vM _,rfl,rfl,DRf.start _ _,FullI.start _ rfl hD.len,λd hd=>by rw[List.getElem?_replicate,if_pos hd]⟩
 rintro m vs h' ⟨k,R,rr,rfl,bF,rfl,rfl,uK,hf,dL⟩
 have na:(T.new rr).obj T.next=some rr:=by rw[zP,if_pos rfl]
 have B8:(T.new rr).obj sT=some rb:=by rw[zP,if_neg (by omega)];exact J5
 have jW:(T.new rr).rd σ.next 0 3=some [vO,vP,vC]:=by rw[zAT,if_neg (by omega)];exact eU
 have u9:rr.length=O.length:=by rw[uK.1];exact hf.len
 rcases Nat.eq_zero_or_pos m with rfl|oi
 .simp only[Z3,seval,-ae,show ¬((0:Int)<=((0:Nat):Int)-1) by omega];refine zG (λm vs h'=>∃(i:Nat) (v:PV) (cs:List PV),i<=O.length/\m=O.length-i/\vs=[.sl T.next 0 O.length (.known O.length),v,.int .i64 i]/\Keep (T.new rr) h'/\PSl (T.new rr).next 1 h' v (rowsD R i).length cs/\All2 FI cs (rowsD R i)) O.length ?_ ?_
  .exact⟨0,_,[],by omega,by omega,rfl,zC _ _,PSl.new (h:=T.new rr) (cs:=[]) (T.next+1) 1 rfl (vM _),All2.nil _⟩
  rintro m vs h' ⟨i,v,cs,hi,rfl,rfl,kk,ps,aj⟩
  have bp:=zGb (R:=R) i;have bM:=zI (h:=h') (by rw[kk.obj _ (by show T.next<T.next+1;omega)];exact na) i;simp only[Z3,seval,-ae];refine iteI (λah=>?_) λaG=>?_;rotate_left
  .have aK:i=O.length:=by omega
   subst aK;have wm:=zMH hf hD;have pz:=kk.keepOf2 kp;have dX:σ.next<=(T.new rr).next:=by show σ.next<=T.next+1;omega
   have D3:PSl σ.next 1 h' v (rowsD R O.length).length cs:=by
    obtain⟨s1,fS,a1,a2,a3,a4,a5,a6⟩:=ps;exact⟨s1,fS,a1,a2,a3,a4,by omega,a6⟩
   exact D3.fin pz (aj.bI 0) λo cap=>hk _ _ ⟨_,_,_,rfl,aj⟩ wm
  have aE:i<O.length:=by omega
  rcases DRf.get uK (d:=i) (by rw[hf.len];exact aE)with ⟨e1,e2⟩|⟨w,a,y,e1,e3,e2⟩
  .rw[e1]at bM;simp only[Z3,seval,-ae,aE,bM,wrapS aE (by omega:O.length<=4611686018427387904)];exact⟨_,by omega,i+1,v,cs,by omega,rfl,rfl,kk,by rw[zCR e2];exact ps,by rw[zCR e2];exact aj⟩
  .rw[e1]at bM;have aF:(0:Int)<(O.length:Int):=by omega
   simp only[Z3,seval,-ae,aE,bM,aF];refine PSl.push (bytes:=24) (σb:=T.new rr) kk ps (by omega) (by omega) λv2 h2 k2 a2=>?_;simp only[Z3,seval,-ae,wrapS aE (by omega:O.length<=4611686018427387904)];refine⟨_,by omega,i+1,v2,cs++[.fz w a O.length (pis y)],by omega,rfl,rfl,k2,?_,?_⟩
   .rw[zCQ e2,List.length_append];exact a2
   .rw[zCQ e2];exact aj.snoc ⟨w,a,by rw[e3]⟩
 obtain⟨k,rfl⟩:∃k,m=k+1:=⟨m-1,by omega⟩
 have e:((k+1:Nat):Int)-1=(k:Int):=by omega
 have dh:k<O.length:=bF;rw[e];have mW:=zI B8 k;have It:=zI na k;have gP:IntKind.i64.wrap ((k:Int)-1)=(k:Int)-1:=wrap64 (by omega) (by omega);rcases DRf.get bD (d:=k) (by rw[hD.len];exact dh)with ⟨e1,e2⟩|⟨w,a,y,e1,e3,e2⟩
 .rw[e1]at mW;simp only[Z3,seval,-ae,dh,mW,gP];exact⟨k,Nat.lt_succ_self k,k,R,rr,rfl,by omega,rfl,rfl,uK,hf.skip dh e2 (dL k (Nat.lt_succ_self k)),λd hd=>dL d (by omega)⟩
 rw[e1]at mW;obtain⟨y1,y2⟩:=hD.row _ _ e2;have yS:gS O y:=y1.mono (Nat.zero_le _);have yq:¬((O.length:Int)=0):=by omega
 have w1:IntKind.i64.wrap ((k:Int)+1)=((k+1:Nat):Int):=by rw[wrap64 (by omega) (by omega)];omega
 simp only[Z3,seval,-ae,dh,mW,yq,w1];refine zG (λm vs h'=>∃(e:Nat) (x:V1) (v:PV),k+1<=e/\e<=O.length/\m=O.length-e/\vs=[.sl sT 0 O.length (.known O.length),.ptr σ.next 0,.sl T.next 0 O.length (.known O.length),.int .i64 k,v,.int .i64 e]/\h'=T.new rr/\FI v x/\TT O k x/\at_ x k=1/\(∀(j:Nat) (z:V1),k<j->j<e->R[j]? = some (some z)->at_ x j=0)/\(∀N,gB O P C N->(∀(d:Nat) (y:V1),k+1<=d->R[d]? = some (some y)->N y)->(N y↔N x))) (O.length-(k+1)) ?_ ?_
 .exact⟨k+1,y,.fz w a O.length (pis y),vM _,bF,by omega,rfl,rfl,⟨w,a,by rw[e3]⟩,y1,y2,λj z h1 h2=>by omega,λ_ _ _=>Iff.rfl⟩
 rintro m vs h' ⟨e,x,v,dJ,MF,rfl,rfl,rfl,hv,hx,gO,fV,hN⟩
 have xS:gS O x:=hx.mono (Nat.zero_le _);have aW:=hx.len;obtain⟨wx,ax,rfl⟩:=hv;have aX:FI (.fz wx ax x.length (pis x)) x:=⟨wx,ax,rfl⟩;simp only[Z3,seval,-ae];refine iteI (λah=>?_) λaG=>?_;rotate_left
 .have Jo:e=O.length:=by omega
  subst Jo;have jc:=QS na (i:=k) (v:=.fz wx ax x.length (pis x)) (by omega) aX.one;rw[aW]at jc aX;have Ik:(T.new rr).set T.next (rr.set k (.fz wx ax O.length (pis x)))=T.new (rr.set k (.fz wx ax O.length (pis x))):=zME T rr _;rw[Ik]at jc;simp only[Z3,seval,-ae,aW,dh,jc,gP];refine⟨k,Nat.lt_succ_self k,k,R.set k (some x),rr.set k (.fz wx ax O.length (pis x)),rfl,by omega,rfl,rfl,DRf.put uK (by rw[<-aW];exact⟨wx,ax,rfl⟩) aW,hf.put dh e2 hx gO (λj z h1 h2=>?_) hN,λd hd=>?_⟩
  .have hj:j<O.length:=by
    rw[<-hf.len];rcases Nat.lt_or_ge j R.length with e|e
    .exact e
    .rw[List.getElem?_eq_none e]at h2;cases h2
   exact fV j z h1 hj h2
  .rw[List.getElem?_set,if_neg (by omega)];exact dL d (by omega)
 have aE:e<O.length:=by omega
 have kE:=zI na e;have hex:e<x.length:=by omega
 have w2:IntKind.i64.wrap ((e:Int)+1)=((e+1:Nat):Int):=by rw[wrap64 (by omega) (by omega)];omega
 rcases DRf.get uK (d:=e) (by rw[hf.len];exact aE)with ⟨f1,f2⟩|⟨w',a',r,f1,f3,f2⟩
 .rw[f1]at kE;have kh:¬((0:Int)<((0:Nat):Int)):=by decide
  simp only[Z3,seval,-ae,aE,kE,w2,kh,decide_false];refine⟨_,by omega,e+1,x,_,by omega,by omega,rfl,rfl,aX,hx,gO,λj z h1 h2 h3=>?_,hN⟩;rcases Nat.lt_or_ge j e with h|h
  .exact fV j z h1 h h3
  .rw[show j=e by omega,f2]at h3;cases h3
 rw[f1]at kE;obtain⟨r1,r2⟩:=hf.row e r (by omega) f2;have rS:gS O r:=r1.mono (Nat.zero_le _);have bx:=xS.bd e aE;have bO:=s.pr e aE;have aF:(0:Int)<(O.length:Int):=by omega
 by_cases hz:at_ x e=0
 .simp only[Z3,seval,-ae,aE,kE,aF,decide_true,hex,pisAt hex,hz,w2];refine⟨_,by omega,e+1,x,_,by omega,by omega,rfl,rfl,aX,hx,gO,λj z h1 h2 h3=>?_,hN⟩;rcases Nat.lt_or_ge j e with h|h
  .exact fV j z h1 h h3
  .rw[show j=e by omega];exact hz
 have cY:IntKind.i64.wrap (0-at_ x e)=-at_ x e:=by rw[wrap64 (by omega) (by omega)];omega
 obtain⟨q1,q2,q3,q4⟩:=zFB s F g.cent aE xS r1 r2;simp only[Z3,seval,-ae,aE,kE,aF,decide_true,hex,pisAt hex,hz,jW,cY];refine zFa g hR rS ⟨w',a',by rw[f3]⟩ (k:=-at_ x e) (by omega) λv1 g1=>?_;rw[Int.neg_neg]at g1;simp only[Z3,seval,-ae,jW];refine zAn s hR xS (G.pw (G.inv_in rS).1 _) aX g1 λv2 g2=>?_;simp only[Z3,seval,-ae,w2];generalize gm O P C x (Grp.pw (gm O P C) (zv O) (ginv (gS O) (gm O P C) (zv O) r) (at_ x e).toNat)=x' at *
 refine⟨_,by omega,e+1,x',v2,by omega,by omega,rfl,rfl,g2,⟨q1.len,q1.bd,λj hj=>by rw[q3 j (by omega)];exact hx.zero j hj⟩,by rw[q3 k (by omega)];exact gO,λj z h1 h2 h3=>?_,λN yJ yI=>(hN N yJ yI).trans ?_⟩
 .rcases Nat.lt_or_ge j e with h|h
  .rw[q3 j h];exact fV j z h1 h h3
  .rw[show j=e by omega];exact q4
 .have hr:=yI e r (by omega) f2;have hp:=yJ.pw hr (at_ x e).toNat;constructor
  .intro h;rw[<-q2]at h;exact yJ.quotR G hp q1 h
  .intro h;rw[<-q2];exact yJ.cl h hp
variable{vL:PV}{L:V2}
theorem All2.unsnoc{α β:Type}{R:α->β->Prop}{us:List α}{bs:List β}{b:β}(h:All2 R us (bs++[b])):∃DQ a,us=DQ++[a]/\All2 R DQ bs/\R a b:=by
 have hl:=h.1;rw[List.length_append,List.length_singleton]at hl;have ar:us≠[]:=λe=>by rw[e]at hl;simp at hl
 refine⟨us.dropLast,us.getLast ar,(List.dropLast_concat_getLast ar).symm,⟨by rw[List.length_dropLast];omega,λk c r hc hr=>?_⟩,?_⟩
 .have hk:k<us.dropLast.length:=by
   rcases Nat.lt_or_ge k us.dropLast.length with e|e
   .exact e
   .rw[List.getElem?_eq_none e]at hc;cases hc
  rw[List.length_dropLast]at hk;refine h.2 k c r ?_ ?_
  .rw[List.getElem?_eq_getElem (by rw[List.length_dropLast];exact hk),List.getElem_dropLast]at hc;rw[List.getElem?_eq_getElem (by omega)];exact hc
  .rw[List.getElem?_append_left (by omega)];exact hr
 .refine h.2 bs.length _ _ ?_ ?_
  .rw[List.getLast_eq_getElem,List.getElem?_eq_getElem (by omega)];congr 2;omega
  .rw[List.getElem?_append_right (vM _),Nat.sub_self];rfl
theorem zM9{α:Type}(Q:List α):Q=[]\/∃Q' x,Q=Q'++[x]:=by
 rcases Q.eq_nil_or_concat with h|⟨l,b,h⟩
 .exact .inl h
 .exact .inr ⟨l,b,by rw[h,List.concat_eq_append]⟩
theorem zEH(g:LG O P C)(hR:IsPr vO vP vC O P C)(hL:FII vL L)(sz:SzL L)(hg:∀x∈L,gS O x)
  (hk:∀v u,FII v u->CanG O (GC O P C L) u->K v σ):zA Tryz.prog 87 [.agg [vO,vP,vC],vL] σ K:=by
 have h1:=hR.P.one;have h2:=hR.C.one;have s:=g.s;have F:=g.F;have G:=F.g;have hC:=g.cent;have aN:=s.le;have hp:=qx.isp g.pr;have yK:=sz.l;have aJ:=hR;obtain⟨⟨w0,a0,rfl⟩,yG,yH⟩:=hR;refine zA.gh ?_;refine zN mix Tryz.func87 cf87 rfl ?_;dsimp only[if87,qI,eI,qD,eD,mI0,kI0,lI0,LI0,fI0,xI0,bI0,cI0,sI0,eI0,C1,C2,C3,mD0,lD0,fD0,xD0,I0,G0,gm0,aI0,zI0,vI0,R0,S0];simp only[Z3,seval,-ae,h1,h2,mk24 (n:=O.length) (by omega),mkL (n:=O.length) (by omega),hL.sb];have JB:(σ.new [.fz w0 a0 O.length (pis O),vP,vC]).obj σ.next=some [.fz w0 a0 O.length (pis O),vP,vC]:=by simp only[Z3,seval,-ae]
 have uT:(σ.new [.fz w0 a0 O.length (pis O),vP,vC]).next=σ.next+1:=rfl;have kp:Keep σ (σ.new [.fz w0 a0 O.length (pis O),vP,vC]):=zC σ _;generalize σ.new [.fz w0 a0 O.length (pis O),vP,vC]=T at *
 rw[<-uT];refine zNL hL sz λvQ lO rq kq pq je=>?_;simp only[Z3,seval,-ae];have iY:∀{rb:List PV} {h:PHeap},Keep (T.new rb) h->h.rd σ.next 0 3=some [.fz w0 a0 O.length (pis O),vP,vC]/\h.rd1 σ.next 0=some (.fz w0 a0 O.length (pis O))/\h.obj T.next=some rb/\T.next<h.next:=λ{rb h} k=>by
  have e1:∀t,t<T.next->h.obj t=T.obj t:=λt ht=>by rw[k.obj t (by show t<T.next+1;omega),zP,if_neg (by omega)]
  have e2:=e1 σ.next (by omega);rw[JB]at e2;refine⟨by rw[ze e2];rfl,by rw[zI e2];rfl,?_,k.next⟩
  .rw[k.obj T.next (Nat.lt_succ_self _),zP,if_pos rfl]
 have mM:∀{rb rb':List PV} {h:PHeap},Keep (T.new rb) h->Keep (T.new rb') (h.set T.next rb'):=λ{rb rb' h} k=>⟨k.next,k.top,λt ht=>by
  rw[zH];split
  .rename_i e;rw[e,zP,if_pos rfl]
  .rename_i e;rw[k.obj t ht,zP,zP,if_neg e,if_neg e]⟩
 refine zG (λm vs h'=>∃(D:List (Option V1)) (rb:List PV) (Q:V2) (vQ:PV) (rq:List PV),m=10*free D+Q.length/\vs=[.ptr σ.next 0,.int .i64 O.length,.sl T.next 0 O.length (.known O.length),vQ]/\Keep (T.new rb) h'/\PT (T.next+1) h' vQ Q.length rq/\All2 FI rq Q/\(∀x∈Q,gS O x)/\All2 (DRf O.length) rb D/\OkD O D/\QI O P C D Q/\(∀N,gB O P C N->((InD N D/\∀q∈Q,N q)↔∀q∈L,N q))/\Q.length+10*free D<=L.length+10*O.length) (10*free (List.replicate O.length none)+L.length) ?_ ?_
 .refine⟨List.replicate O.length none,_,L,vQ,rq,rfl,rfl,kq,pq,je,hg,DRf.start _ _,OkD.start _ rfl,QI.start _,λN _=>⟨λh=>h.2,λh=>⟨InD.start _,h⟩⟩,?_⟩
  have:=zBC (List.replicate O.length none)
  rw[List.length_replicate]at this;omega
 clear kq pq je vQ rq lO
 rintro m vs h' ⟨D,rb,Q,vQ,rq,rfl,rfl,kk,pq,je,vw,bD,hD,wI,hS,CW⟩
 obtain⟨l3,l1,lT,Eu⟩:=iY kk;have hlen:=pq.pLen;have CG:=zBC D;rw[hD.len]at CG;rcases zM9 Q with rfl|⟨Q,x,rfl⟩
 .have kh:¬((0:Int)<((0:Nat):Int)):=by decide
  simp only[List.length_nil]at hlen;simp only[Z3,seval,-ae,hlen,kh,l3];refine zLf g aJ lT Eu hD bD λv u hv wm=>?_;simp only[Z3,seval,-ae];exact Gh.fin0 (kk.keepOf2 kp) (hv.bel _) (hk v u hv (wm.can s F hC hD wI λN hN=>⟨λh=>(hS N hN).1 ⟨h,λq hq=>(by cases hq)⟩,λh=>((hS N hN).2 h).1⟩))
 have kL:(Q++[x]).length=Q.length+1:=by simp
 rw[kL]at pq hlen CW;obtain⟨fv,c,rfl,gw,hc⟩:=All2.unsnoc je;obtain⟨sq,off,cap,ef,rfl,bM,bK,D6⟩:=pq.unsnoc;have hx:=vw x (by simp);have kX:∀q∈Q,gS O q:=λq hq=>vw q (by simp[hq]);have aF:(0:Int)<((Q.length+1:Nat):Int):=by omega
 have dg:IntKind.i64.wrap (((Q.length+1:Nat):Int)-1)=(Q.length:Int):=by rw[wrap64 (by omega) (by omega)];omega
 have C8:Q.length<Q.length+1:=Nat.lt_succ_self _;rw[kL];simp only[Z3,seval,-ae,hlen,aF,dg,C8,bM,bK,l3];refine zJr g aJ lT Eu hD bD hx hc λvz z fz gz cE cf=>?_;have dQ:=gz.len;by_cases hd:dep z<O.length;rotate_left
 .have dY:dep z=O.length:=by have:=Zz z;omega
  have ck:=zDP gz (by omega);simp only[Z3,seval,-ae,dY];refine⟨_,?_,D,rb,Q,ef,fv,rfl,rfl,kk,D6,gw,kX,bD,hD,(wI.mem (Q':=x::Q) (λq hq=>by
   rcases List.mem_append.1 hq with h|h
   .exact List.mem_cons_of_mem _ h
   .rw[List.mem_singleton.1 h];simp)).drop (by rw[<-ck];exact cf),λN hN=>?_,by omega⟩
  .omega
  .rw[<-hS N hN];refine⟨λ⟨h1,h2⟩=>⟨h1,λq hq=>?_⟩,λ⟨h1,h2⟩=>⟨h1,λq hq=>h2 q (by simp[hq])⟩⟩;rcases List.mem_append.1 hq with hq|hq
   .exact h2 q hq
   .rw[List.mem_singleton.1 hq,cf.iff F hN h1,ck];exact hN.one
 have hdz:dep z<z.length:=by omega
 have wN:=hp _ (List.getElem_mem hd);have bO:=wN.bd;have bz:=gz.bd _ hd;have nz:=qa hdz;have eO:at_ O (dep z)=O[dep z]:=at_eq hd;rw[eO]at bz;have dY:((dep z:Int)=(O.length:Int))=False:=by simp;omega
 obtain⟨wz,az,rfl⟩:=fz;have fz:FI (.fz wz az z.length (pis z)) z:=⟨wz,az,rfl⟩;simp only[Z3,seval,-ae,dY,l3,l1,hdz,pisAt hdz,hd,pisAt hd];refine zGo (p:=at_ O (dep z)) (by rw[eO];exact wN) (by rw[eO];omega) λq q1 q2 q3=>?_;simp only[Z3,seval,-ae,dY,l3,l1];refine zGk g aJ gz fz (k:=q) (by rw[eO]at q2;omega) λvy fy=>?_;obtain⟨y1,y2⟩:=zAR s F hC hd (zAg gz) q.toNat;have kj:at_ (Grp.pw (gm O P C) (zv O) z q.toNat) (dep z)=1:=by
  rw[y2,Int.toNat_of_nonneg (by omega),Int.mul_comm];exact q3
 have Db:∀N,gB O P C N->N z->N (Grp.pw (gm O P C) (zv O) z q.toNat):=λN hN h=>hN.pw h _;generalize Grp.pw (gm O P C) (zv O) z q.toNat=y at *
 have yS:gS O y:=y1.mono (Nat.zero_le _);have dz:=yS.len;obtain⟨wy,ay,rfl⟩:=fy;have fy:FI (.fz wy ay y.length (pis y)) y:=⟨wy,ay,rfl⟩;have dW:D[dep z]? = some none:=cE hd;have dL:=zEl (y:=y) dW;have ny:dep z<rb.length:=by rw[bD.1,hD.len];exact hd
 have jc:=QS lT (i:=dep z) (v:=.fz wy ay y.length (pis y)) ny fy.one;have pz:=mM (rb':=rb.set (dep z) (.fz wy ay y.length (pis y))) kk;have iD:=DRf.put (d:=dep z) bD fy dz;have Kp:=hD.put hd y1 kj;obtain⟨k3,k1,kT,L5⟩:=iY pz;have Ha:=D6.set (t:=T.next) (Nat.lt_succ_self _) (rb.set (dep z) (.fz wy ay y.length (pis y)));have dk:(h'.set T.next (rb.set (dep z) (.fz wy ay y.length (pis y)))).next=h'.next:=rfl;simp only[Z3,seval,-ae,hd,jc];generalize h'.set T.next (rb.set (dep z) (.fz wy ay y.length (pis y)))=h2 at *
 rw[<-dk];refine PT.push (bytes:=24) (σb:=T.new (rb.set (dep z) (.fz wy ay y.length (pis y)))) fz.one pz Ha (by omega) (by omega) λv3 h3 A3 D5=>?_;obtain⟨m3,m1,mT,Er⟩:=iY A3;simp only[Z3,seval,-ae,m3,m1,hd,pisAt hd];refine zGk g aJ yS fy (k:=at_ O (dep z)) (by rw[eO];omega) λvo fo=>?_;have Ds:gS O (Grp.pw (gm O P C) (zv O) y (at_ O (dep z)).toNat):=G.pw yS _;have KI:=fo.one;have KH:=fo.cells;simp only[Z3,seval,-ae,KI,KH,m3,m1,hd,pisAt hd];refine PT.push (bytes:=24) (σb:=T.new (rb.set (dep z) (.fz wy ay y.length (pis y)))) fo.one A3 D5 (by omega) (by omega) λv4 h4 Ev AF=>?_;have BL:All2 FI ((fv++[.fz wz az z.length (pis z)])++[vo]) ((Q++[z])++[Grp.pw (gm O P C) (zv O) y (at_ O (dep z)).toNat]):=(gw.snoc fz).snoc fo;have rE:∀q∈(Q++[z])++[Grp.pw (gm O P C) (zv O) y (at_ O (dep z)).toNat],gS O q:=λq hq=>by
  rcases List.mem_append.1 hq with hq|hq
  .rcases List.mem_append.1 hq with hq|hq
   .exact kX q hq
   .rw[List.mem_singleton.1 hq];exact gz
  .rw[List.mem_singleton.1 hq];exact Ds
 generalize lI:(Q++[z])++[Grp.pw (gm O P C) (zv O) y (at_ O (dep z)).toNat]=Q2 at *
 have rR:Q2.length=Q.length+1+1:=by rw[<-lI];simp
 have Ce:z∈Q2:=by rw[<-lI];simp
 have Ch:∀q∈Q,q∈Q2:=λq hq=>by rw[<-lI];simp[hq]
 have oi:Grp.pw (gm O P C) (zv O) y (at_ O (dep z)).toNat∈Q2:=by rw[<-lI];simp
 have lL:∀N,gB O P C N->N y->((∀q∈Q2,N q)↔(∀q∈Q,N q)/\N z):=λN hN hy=>by
  rw[<-lI];refine⟨λh=>⟨λq hq=>h q (by simp[hq]),h z (by simp)⟩,λ⟨h3,h4⟩ q hq=>?_⟩;rcases List.mem_append.1 hq with hq|hq
  .rcases List.mem_append.1 hq with hq|hq
   .exact h3 q hq
   .rw[List.mem_singleton.1 hq];exact h4
  .rw[List.mem_singleton.1 hq];exact hN.pw hy _
 generalize (fv++[PV.fz wz az z.length (pis z)])++[vo]=G3 at *
 rw[<-rR]at AF;simp only[Z3,seval,-ae];refine zG (λm us h3=>∃(i:Nat) (vQ:PV) (E:V2) (re:List PV),i<=O.length/\m=O.length-i/\us=[.ptr σ.next 0,.int .i64 O.length,.sl T.next 0 O.length (.known O.length),vQ,.int .i64 (dep z),.fz wy ay y.length (pis y),.int .i64 i]/\Keep (T.new (rb.set (dep z) (.fz wy ay y.length (pis y)))) h3/\PT (T.next+1) h3 vQ (Q2++E).length re/\All2 FI re (Q2++E)/\(∀q∈E,gS O q)/\E.length<=i/\(∀(e:Nat) (b:V1),e<i->D[e]? = some (some b)->gcom O P C y b∈E)/\∀N,gB O P C N->InD N D->N y->∀q∈E,N q) O.length ?_ ?_
 .exact⟨0,v4,[],_,by omega,by omega,rfl,Ev,by rw[List.append_nil];exact AF,by rw[List.append_nil];exact BL,λq hq=>(by cases hq),vM _,λe b h=>(by omega),λN _ _ _ q hq=>(by cases hq)⟩
 clear Ev AF v4 h4 A3 D5 v3 h3 m3 m1 mT Er
 rintro m us h5 ⟨i,Ai,E,re,hi,rfl,rfl,tP,x6,jT,ow,Km,oD,oM⟩
 obtain⟨m3,m1,mT,Er⟩:=iY tP;simp only[Z3,seval,-ae];refine iteI (λah=>?_) λaG=>?_;rotate_left
 .refine⟨10*free (D.set (dep z) (some y))+(Q2++E).length,?_,D.set (dep z) (some y),_,Q2++E,Ai,re,rfl,rfl,tP,x6,jT,?_,iD,Kp,(wI.mem (Q':=x::Q) (λq hq=>by
   rcases List.mem_append.1 hq with h|h
   .exact List.mem_cons_of_mem _ h
   .rw[List.mem_singleton.1 h];simp)).put cf dW (by simp[Ce]) (λq hq=>by simp[Ch q hq]) (List.mem_append.2 (.inl oi)) (λe b hb=>.inr (by
    have:=oD e b (by
     rcases Nat.lt_or_ge e D.length with h|h
     .have:=hD.len;omega
     .rw[List.getElem?_eq_none h]at hb;cases hb) hb
    simp[this])),λN hN=>?_,?_⟩
  .simp only[List.length_append,List.length_singleton];omega
  .intro q hq;rcases List.mem_append.1 hq with hq|hq
   .exact rE q hq
   .exact ow q hq
  .rw[<-hS N hN,InD.put dW];constructor
   .rintro⟨⟨g1,g2⟩,g3⟩
    obtain⟨g4,g5⟩:=(lL N hN g2).1 λq hq=>g3 q (by simp[hq]);refine⟨g1,λq hq=>?_⟩;rcases List.mem_append.1 hq with hq|hq
    .exact g4 q hq
    .rw[List.mem_singleton.1 hq];exact(cf.iff F hN g1).2 g5
   .rintro⟨g1,g2⟩
    have wW:=(cf.iff F hN g1).1 (g2 x (by simp));have gy:=Db N hN wW;refine⟨⟨g1,gy⟩,λq hq=>?_⟩;rcases List.mem_append.1 hq with hq|hq
    .exact(lL N hN gy).2 ⟨λq hq=>g2 q (by simp[hq]),wW⟩ q hq
    .exact oM N hN g1 gy q hq
  .simp only[List.length_append];omega
 have aE:i<O.length:=by omega
 have w1:IntKind.i64.wrap ((i:Int)+1)=((i+1:Nat):Int):=by rw[wrap64 (by omega) (by omega)];omega
 have dG:=zI mT i;by_cases aK:i=dep z
 .subst aK;simp only[Z3,seval,-ae,w1];refine⟨_,by omega,dep z+1,Ai,E,re,by omega,rfl,rfl,tP,x6,jT,ow,by omega,λe b h1 h2=>?_,oM⟩;rcases Nat.lt_or_ge e (dep z)with h|h
  .exact oD e b h h2
  .rw[show e=dep z by omega,dW]at h2;cases h2
 have ri:¬((i:Int)=(dep z:Int)):=by omega
 have vv:(rb.set (dep z) (.fz wy ay y.length (pis y)))[i]? = rb[i]?:=by rw[List.getElem?_set,if_neg (by omega)]
 rw[vv]at dG;rcases DRf.get bD (d:=i) (by rw[hD.len];exact aE)with ⟨e1,e2⟩|⟨w,a,b,e1,e3,e2⟩
 .rw[e1]at dG;have kh:¬((0:Int)<((0:Nat):Int)):=by decide
  simp only[Z3,seval,-ae,ri,aE,dG,kh,decide_false,w1];refine⟨_,by omega,i+1,Ai,E,re,by omega,rfl,rfl,tP,x6,jT,ow,by omega,λe b h1 h2=>?_,oM⟩;rcases Nat.lt_or_ge e i with h|h
  .exact oD e b h h2
  .rw[show e=i by omega,e2]at h2;cases h2
 rw[e1]at dG;have bS:gS O b:=(hD.row _ _ e2).1.mono (Nat.zero_le _);have aF:(0:Int)<(O.length:Int):=by omega
 simp only[Z3,seval,-ae,ri,aE,dG,aF,decide_true,m3];refine zFc s g.co aJ yS bS fy ⟨w,a,by rw[e3]⟩ λvc fc=>?_;have KL:=fc.one;have KK:=fc.cells;simp only[Z3,seval,-ae,ri,aE,dG,aF,decide_true,m3,KL,KK];refine PT.push (bytes:=24) (σb:=T.new (rb.set (dep z) (.fz wy ay y.length (pis y)))) fc.one tP x6 (by rw[List.length_append];omega) (by rw[List.length_append];omega) λv6 h6 HN G9=>?_;simp only[Z3,seval,-ae,w1];refine⟨_,by omega,i+1,v6,E++[gcom O P C y b],re++[vc],by omega,rfl,rfl,HN,?_,?_,?_,?_,?_,?_⟩;rotate_left
 .rw[<-List.append_assoc];exact jT.snoc fc
 .intro q hq;rcases List.mem_append.1 hq with hq|hq
  .exact ow q hq
  .rw[List.mem_singleton.1 hq];exact G.com_in yS bS
 .simp;omega
 .intro e b' h1 h2;rcases Nat.lt_or_ge e i with h|h
  .simp[oD e b' h h2]
  .rw[show e=i by omega,e2]at h2;cases h2;simp
 .intro N hN wS hy q hq;rcases List.mem_append.1 hq with hq|hq
  .exact oM N hN wS hy q hq
  .rw[List.mem_singleton.1 hq];exact hN.com_in hy (wS _ _ e2)
 .rw[<-List.append_assoc,List.length_append,List.length_singleton];exact G9
end Go.Proofs
namespace Go.Proofs
open Go.Ab Go.Lie
variable{p:Int}{n:Nat}{W:V2}{B:V3}{id:Prop}
theorem zKZ(o:OkW p n W)(q:OkB p n B)(nf:qE p W B n){u w:V2}{f g:Vec}(hf:Gen p n W u f)(hg:Gen p n W w g):Gen p n W (brL p W B n u w) (brv B n f g):=by
 have hS:=zM (p:=p) (n:=n) (W:=W) (brL p W B n u w);have z1:∀(f:Vec) (t:Nat),brv B n (λ_=>0) f t=0:=λf t=>by
  have:=zq (B:=B) (n:=n) 0 (λ_=>0) f t
  simpa using this
 refine Zk (S:=λf=>Gen p n W (brL p W B n u w) (brv B n f g)) ⟨hS.eqv _ _ (Eqv.of_eq (z1 g)) hS.zero,λf f' h h'=>hS.eqv _ _ (Eqv.of_eq λt=>ZM f f' g t) (hS.add _ _ h h'),λk f h=>hS.eqv _ _ (Eqv.of_eq λt=>zq k f g t) (hS.mul k _ h),λf f' h h'=>hS.eqv _ _ (Z4 o q nf g h) h'⟩ (λx hx=>?_) hf;refine Zk (S:=λg=>Gen p n W (brL p W B n u w) (brv B n (at_ x) g)) ⟨hS.eqv _ _ (Eqv.of_eq λt=>by rw[zZ,z1];rfl) hS.zero,λf f' h h'=>hS.eqv _ _ (Eqv.of_eq λt=>Qs (at_ x) f f' t) (hS.add _ _ h h'),λk f h=>hS.eqv _ _ (Eqv.of_eq λt=>Zp k (at_ x) f t) (hS.mul k _ h),λf f' h h'=>hS.eqv _ _ (zEu o q nf (at_ x) h) h'⟩ (λy hy=>?_) hg;exact hS.eqv _ _ (qg o q x y).symm (zQ (List.mem_flatMap.2 ⟨x,hx,List.mem_map.2 ⟨y,hy,rfl⟩⟩))
def Shut(B:V3)(n:Nat)(id:Prop)(S:Vec->Prop):Prop:=∀f g,S f->(id\/S g)->S (brv B n f g)
structure Grw(p:Int)(n:Nat)(W:V2)(B:V3)(id:Prop)(gens u:V2):Prop where
 base:Base p n W u
 red:Red u
 mem:∀v∈gens,Gen p n W u (at_ v)
 low:∀S,IsSub p n W S->(∀v∈gens,S (at_ v))->Shut B n id S->∀f,Gen p n W u f->S f
structure ClsOf(p:Int)(n:Nat)(W:V2)(B:V3)(id:Prop)(gens u:V2):Prop extends Grw p n W B id gens u where
 clo:Shut B n id (Gen p n W u)
theorem Grw.start{gens u:V2}(c:Canon p n W gens u):Grw p n W B id gens u:=
 ⟨c.base,c.red,λv hv=>(c.gen _).1 (zQ hv),λS hS hg _ f hf=>Zk hS hg ((c.gen f).2 hf)⟩
theorem Grw.len(o:OkW p n W){gens u:V2}(a:Grw p n W B id gens u):u.length<=n:=ZV (λv hv=>(a.base.led v hv).2.1) a.base.asc
structure Rnd(p:Int)(n:Nat)(W:V2)(B:V3)(id:Prop)(u v:V2):Prop where
 base:Base p n W v
 red:Red v
 up:∀f,Gen p n W u f->Gen p n W v f
 br:∀f g,Gen p n W u f->(id\/Gen p n W u g)->Gen p n W v (brv B n f g)
 low:∀S,IsSub p n W S->(∀x∈u,S (at_ x))->Shut B n id S->∀f,Gen p n W v f->S f
theorem Grw.next{gens u v:V2}(a:Grw p n W B id gens u)(r:Rnd p n W B id u v):Grw p n W B id gens v:=
 ⟨r.base,r.red,λx hx=>r.up _ (a.mem x hx),λS hS hg hs=>r.low S hS (λx hx=>a.low S hS hg hs _ (zQ hx)) hs⟩
theorem Grw.done(o:OkW p n W){gens u v:V2}(a:Grw p n W B id gens u)(r:Rnd p n W B id u v)(hl:v.length<=u.length):ClsOf p n W B id gens u:=
 ⟨a,λf g hf hg=>(zKn o a.base r.base r.up).2 hl _ (r.br f g hf hg)⟩
theorem Grw.less(o:OkW p n W){gens u v:V2}(a:Grw p n W B id gens u)(r:Rnd p n W B id u v)(hl:v.length≠u.length):u.length<v.length:=by
 have:=(zKn o a.base r.base r.up).1
 omega
theorem zQc(o:OkW p n W)(q:OkB p n B){u L v:V2}(c:Canon p n W L v)(h1:∀x∈u,Gen p n W L (at_ x))(h2:∀f g,Gen p n W u f->(id\/Gen p n W u g)->Gen p n W L (brv B n f g))
  (h3:∀S,IsSub p n W S->(∀x∈u,S (at_ x))->Shut B n id S->∀x∈L,S (at_ x)):Rnd p n W B id u v:=
 ⟨c.base,c.red,λf hf=>(c.gen f).1 (qw h1 hf),λf g hf hg=>(c.gen _).1 (h2 f g hf hg),λS hS hu hs f hf=>Zk hS (h3 S hS hu hs) ((c.gen f).2 hf)⟩
theorem Q0{u w:V2}{z:V1}:z∈brL p W B n u w↔∃x∈u,∃y∈w,z=br p W B n x y:=by
 constructor
 .intro h;obtain⟨x,hx,h⟩:=List.mem_flatMap.1 h;obtain⟨y,hy,rfl⟩:=List.mem_map.1 h;exact⟨x,hx,y,hy,rfl⟩
 .rintro⟨x,hx,y,hy,rfl⟩
  exact List.mem_flatMap.2 ⟨x,hx,List.mem_map.2 ⟨y,hy,rfl⟩⟩
theorem zPS(o:OkW p n W)(q:OkB p n B){S:Vec->Prop}(hS:IsSub p n W S)(hs:Shut B n id S){x y:V1}(hx:S (at_ x))(hy:id\/S (at_ y)):S (at_ (br p W B n x y)):=hS.eqv _ _ (qg o q x y) (hs _ _ hx hy)
def wl(n:Nat)(id:Prop)(w:V2):Prop:=(id/\w=units n)\/(¬id/\w=[])
theorem zHX(o:OkW p n W)(q:OkB p n B)(nf:qE p W B n){u w b v:V2}(hw:(id/\w=units n)\/(¬id/\w=u))(cb:Canon p n W (brL p W B n u w) b)(c:Canon p n W (u++b) v):Rnd p n W B id u v:=by
 have hb:∀{f},Gen p n W (brL p W B n u w) f->Gen p n W (u++b) f:=λ{f} hf=>zb (λz hz=>List.mem_append_right _ hz) ((cb.gen f).1 hf);refine zQc o q c (λx hx=>zQ (by simp[hx])) (λf g hf hg=>?_) λS hS hu hs x hx=>?_
 .rcases hw with ⟨hi,rfl⟩|⟨hi,rfl⟩
  .exact hb (zFg o q nf hf g)
  .rcases hg with h|h
   .exact absurd h hi
   .exact hb (zKZ o q nf hf h)
 .rcases List.mem_append.1 hx with h|h
  .exact hu x h
  .refine Zk hS (λz hz=>?_) ((cb.gen _).2 (zQ h));obtain⟨x,hx,y,hy,rfl⟩:=Q0.1 hz;refine zPS o q hS hs (hu x hx) ?_;rcases hw with ⟨hi,rfl⟩|⟨hi,rfl⟩
   .exact .inl hi
   .exact .inr (hu y hy)
def Cent(p:Int)(n:Nat)(W:V2)(B:V3)(u:V2)(f:Vec):Prop:=∀y∈u,Eqv p n W (brv B n f (at_ y)) λ_=>0
theorem zEq(o:OkW p n W)(q:OkB p n B)(nf:qE p W B n)(u:V2):IsSub p n W (Cent p n W B u):=by
 refine⟨λy hy=>Eqv.of_eq λt=>?_,λf f' h h' y hy=>?_,λk f h y hy=>?_,λf f' h h' y hy=>(Z4 o q nf _ h).trans (h' y hy)⟩
 .have:=zq (B:=B) (n:=n) 0 (λ_=>0) (at_ y) t
  simpa using this
 .exact(Eqv.of_eq λt=>ZM f f' (at_ y) t).trans (((h y hy).add (h' y hy)).trans (Eqv.of_eq λt=>by omega))
 .exact(Eqv.of_eq λt=>zq k f (at_ y) t).trans (((h y hy).mul k).trans (Eqv.of_eq λt=>by omega))
theorem zNh(o:OkW p n W)(q:OkB p n B)(nf:qE p W B n)(u:V2):Shut B n False (Cent p n W B u):=by
 intro f g hf hg y hy;have hg:=hg.resolve_left id;have j:=zEh o q nf f g (at_ y);have z:∀(h:Vec) {k:Vec},Eqv p n W k (λ_=>0)->Eqv p n W (brv B n k h) λ_=>0:=λh {k} e=>(Z4 o q nf h e).trans (Eqv.of_eq λt=>by
  have:=zq (B:=B) (n:=n) 0 (λ_=>0) h t
  simpa using this)
 have e1:=z f (hg y hy);have e2:Eqv p n W (brv B n (brv B n (at_ y) f) g) λ_=>0:=by
  refine z g ((Eqv.of_eq λt=>zZ (at_ y) f t).trans (((hf y hy).mul (-1)).trans (Eqv.of_eq λt=>by omega)))
 have e3:=(e1.add e2).mul (-1);exact(Eqv.of_eq λt=>by show _=jac B n f g (at_ y) t + -1*(brv B n (brv B n g (at_ y)) f t+brv B n (brv B n (at_ y) f) g t);unfold jac;omega).trans ((j.add e3).trans (Eqv.of_eq λt=>by omega))
def cz(p:Int)(n:Nat)(W:V2)(B:V3)(u:V2)(x:V1):Prop:=∀y∈u,∀j,at_ (br p W B n x y) j=0
theorem zGP(o:OkW p n W){x:V1}(hx:El p n x):(∀j,at_ x j=0)↔Eqv p n W (at_ x) λ_=>0:=by
 refine⟨λh=>Eqv.of_eq h,λh j=>?_⟩;rcases Nat.lt_or_ge j n with g|g
 .exact zCi o hx h (vM _) (λ_ _=>rfl) j g
 .exact hx.beyond g
theorem zFp(o:OkW p n W)(q:OkB p n B){u:V2}{x:V1}:cz p n W B u x↔Cent p n W B u (at_ x):=
 ⟨λh y hy=>((qg o q x y).symm.trans (Eqv.of_eq (h y hy))),λh y hy=>(zGP o (br_el o q)).2 ((qg o q x y).trans (h y hy))⟩
theorem zJ6{P:Nat}(hP:0<P)(hp:p=(P:Int))(o:OkW p n W)(q:OkB p n B)(nf:qE p W B n){u c L:V2}(hc:Canon p n W L c)(hL:∀x,x∈L↔x∈allE P n/\cz p n W B u x):
  (∀x∈c,∀y∈c,Gen p n W c (at_ (br p W B n x y)))/\∀x∈u,∀y∈c,∀j,at_ (br p W B n x y) j=0:=by
 subst hp;have h1:∀f,Gen _ n W c f->Cent _ n W B u f:=λf hf=>Zk (zEq o q nf u) (λx hx=>(zFp o q).1 ((hL x).1 hx).2) ((hc.gen f).2 hf);refine⟨λx hx y hy=>?_,λx hx y hy=>?_⟩
 .have hb:=zNh o q nf u _ _ (h1 _ (zQ hx)) (.inr (h1 _ (zQ hy)));refine(hc.gen _).1 (zQ ((hL _).2 ⟨zFo hP (br_el o q),(zFp o q).2 ((zEq o q nf u).eqv _ _ (qg o q x y) hb)⟩))
 .refine(zGP o (br_el o q)).2 ((qg o q x y).trans ((Eqv.of_eq λt=>zZ (at_ x) (at_ y) t).trans (((h1 _ (zQ hy) x hx).mul (-1)).trans (Eqv.of_eq λt=>by omega))))
end Go.Proofs
