/- . -/
import Derived.Test.YtgkbfiilhocioaaGreatHP8
open Nat renaming le_refl→vM
open Int renaming reduceNatCast'->ae
set_option maxRecDepth 100000
namespace Go.Grp
end Go.Grp
set_option linter.unusedSimpArgs false
set_option linter.unusedVariables false
namespace Go.Proofs
open Go.Ab Go.Lie Go.Grp
variable{U h h':PHeap}{K:PV->PHeap->Prop}{O x y:L3}{P:L4}{C:L5}{vO vP vC:PV}{D R:List (Option L3)}{rb rr:List PV}{d n sT:Nat}
def rowsD(R:List (Option L3))(k:Nat):L4:=(R.take k).filterMap id
theorem zCj{k:Nat}(h:R[k]? = some none):rowsD R (k+1)=rowsD R k:=by
 unfold rowsD;have hl:k<R.length:=by
  rcases Nat.lt_or_ge k R.length with e|e
  .exact e
  .rw[List.getElem?_eq_none e]at h;cases h
 rw[List.getElem?_eq_getElem hl]at h;rw[List.take_succ_eq_append_getElem hl,List.filterMap_append,Option.some.inj h];simp
theorem zCi{k:Nat}(h:R[k]? = some (some y)):rowsD R (k+1)=rowsD R k++[y]:=by
 unfold rowsD;have hl:k<R.length:=by
  rcases Nat.lt_or_ge k R.length with e|e
  .exact e
  .rw[List.getElem?_eq_none e]at h;cases h
 rw[List.getElem?_eq_getElem hl]at h;rw[List.take_succ_eq_append_getElem hl,List.filterMap_append,Option.some.inj h];simp
theorem zGc(k:Nat):(rowsD R k).length<=k:=by
 unfold rowsD;refine Nat.le_trans (List.length_filterMap_le _ _) ?_;rw[List.length_take];omega
theorem zAt{v:L3}{k:Nat}:v∈rowsD R k↔∃d,d<k/\R[d]? = some (some v):=by
 unfold rowsD;rw[List.mem_filterMap];constructor
 .rintro⟨o,ho,rfl⟩
  obtain⟨d,hd,e⟩:=List.mem_iff_getElem.1 ho;rw[List.length_take]at hd;refine⟨d,by omega,?_⟩;rw[List.getElem_take]at e;rw[List.getElem?_eq_getElem (by omega),e]
 .rintro⟨d,hd,e⟩
  have hl:d<R.length:=by
   rcases Nat.lt_or_ge d R.length with e'|e'
   .exact e'
   .rw[List.getElem?_eq_none e']at e;cases e
  refine⟨some v,?_,rfl⟩;rw[List.mem_take_iff_getElem];rw[List.getElem?_eq_getElem hl]at e;exact⟨d,by omega,Option.some.inj e⟩
theorem zDq(hy:TT O d y)(h1:at_ y d=1):dep y=d:=zBo (λj hj=>hy.zero j hj) (by rw[h1];decide)
theorem zMN(f:FullI O P C D R 0)(hD:OkD O D):CanD O P C D (rowsD R O.length):=by
 have hR:∀{d:Nat} {y:L3},R[d]? = some (some y)->d<O.length:=λ{d y} h=>by
  rw[<-f.len];rcases Nat.lt_or_ge d R.length with e|e
  .exact e
  .rw[List.getElem?_eq_none e]at h;cases h
 have get:∀{v:L3},v∈rowsD R O.length->∃d,d<O.length/\R[d]? = some (some v)/\TT O d v/\at_ v d=1/\dep v=d:=λ{v} hv=>by
  obtain⟨d,hd,e⟩:=zAt.1 hv;obtain⟨h1,h2⟩:=f.row d v (Nat.zero_le _) e;exact⟨d,hd,e,h1,h2,zDq h1 h2⟩
 refine⟨λv hv=>?_,?_,λv hv w hw ai=>?_,λd y hy=>?_,zGc _,λN hN=>?_⟩
 .obtain⟨d,hd,e,h1,h2,h3⟩:=get hv;exact⟨h1.mono (Nat.zero_le _),by omega,by rw[h3];exact h2⟩
 .have:∀k,k<=O.length->(rowsD R k).Pairwise λa b=>dep a<dep b:=by
   intro k
   induction k with
   |zero=>intro _;simp[rowsD]
   |succ k ih=>
    intro hk;have hl:k<R.length:=by rw[f.len];omega
    rcases hc:R[k]? with _|_|y
    .rw[List.getElem?_eq_getElem hl]at hc;cases hc
    .rw[zCj hc];exact ih (by omega)
    .rw[zCi hc,List.pairwise_append];obtain⟨h1,h2⟩:=f.row k y (Nat.zero_le _) hc;refine⟨ih (by omega),by simp,λa ha b hb=>?_⟩;rw[List.mem_singleton.1 hb,zDq h1 h2];obtain⟨d,hd,e⟩:=zAt.1 ha;obtain⟨h3,h4⟩:=f.row d a (Nat.zero_le _) e
     have:=zDq h3 h4;omega
  exact this _ (vM _)
 .obtain⟨d,hd,e,h1,h2,h3⟩:=get hv;obtain⟨d',je,e',ks,gR,Cf⟩:=get hw;rw[Cf];exact f.red d d' v w (Nat.zero_le _) (Nat.zero_le _) (by omega) e e'
 .have hd:d<O.length:=by
   rw[<-hD.len];rcases Nat.lt_or_ge d D.length with e|e
   .exact e
   .rw[List.getElem?_eq_none e]at hy;cases hy
  obtain⟨z,hz⟩:=(f.dom d (Nat.zero_le _) hd).2 ⟨y,hy⟩;obtain⟨h1,h2⟩:=f.row d z (Nat.zero_le _) hz;exact⟨z,zAt.2 ⟨d,hd,hz⟩,zDq h1 h2⟩
 .constructor
  .intro h;exactλd y hy=>(f.iff N hN).1 (λd y _ hy=>h y (zAt.2 ⟨d,hR hy,hy⟩)) d y (Nat.zero_le _) hy
  .intro h v hv;obtain⟨d,hd,e⟩:=zAt.1 hv;exact(f.iff N hN).2 (λd y _ hy=>h d y hy) d v (Nat.zero_le _) e
theorem zLb(g:LG O P C)(hR:IsPr vO vP vC O P C)(hT:U.obj sT=some rb)(wI:sT<U.next)(hD:OkD O D)(cu:All2 (DRf O.length) rb D)
  (hk:∀v u,FII v u->CanD O P C D u->K v U):zA Tryz.prog 185 [.agg [vO,vP,vC],.sl sT 0 O.length (.known O.length)] U K:=by
 have h0:=hR.O.one;have h1:=hR.P.one;have h2:=hR.C.one;have s:=g.s;have F:=g.F;have G:=F.g;have aW:=s.le;refine zA.gh ?_;have ai:¬sT=U.next:=Nat.ne_of_lt wI;have oW:IntKind.i64.wrap ((O.length:Int)-1)=(O.length:Int)-1:=wrap64 (by omega) (by omega);refine zP mix Tryz.func185 cf185 rfl ?_;dsimp only[if185,eI,qD,eD,mI0,kI0,lI0,xI0,bI0,cI0,sI0,mD0,lD0,xD0,I0,G0,gm0,aI0,zI0,vI0,R0,S0];simp only[Z3,seval,-ae,h0,h1,h2,mk24 (n:=O.length) (by omega),mkL (n:=O.length) (by omega),oW];have fQ:(U.new [vO,vP,vC]).rd U.next 0 3=some [vO,vP,vC]:=by simp only[Z3,seval,-ae]
 have BU:(U.new [vO,vP,vC]).obj sT=some rb:=by simp only[Z3,seval,-ae,ai];exact hT
 have pH:(U.new [vO,vP,vC]).next=U.next+1:=rfl;have kp:Keep U (U.new [vO,vP,vC]):=zD U _;generalize U.new [vO,vP,vC]=T at *
 rw[<-pH];have BJ:Bel T.next vO/\Bel T.next vP/\Bel T.next vC:=⟨hR.O.bel _,hR.P.bel _,hR.C.bel _⟩;refine zF (λm vs h'=>∃(k:Nat) (R:List (Option L3)) (rr:List PV),m=k/\k<=O.length/\vs=[.sl sT 0 O.length (.known O.length),.ptr U.next 0,.sl T.next 0 O.length (.known O.length),.int .i64 ((k:Int)-1)]/\h'=T.new rr/\All2 (DRf O.length) rr R/\FullI O P C D R k/\(∀d,d<k->R[d]? = some none)) O.length ?_ ?_
 .exact⟨O.length,List.replicate O.length none,_,rfl,vM _,rfl,rfl,DRf.start _ _,FullI.start _ rfl hD.len,λd hd=>by rw[List.getElem?_replicate,if_pos hd]⟩
 rintro m vs h' ⟨k,R,rr,rfl,cw,rfl,rfl,mM,hf,dr⟩
 have lb:(T.new rr).obj T.next=some rr:=by rw[qa,if_pos rfl]
 have uQ:(T.new rr).obj sT=some rb:=by rw[qa,if_neg (by omega)];exact BU
 have iN:(T.new rr).rd U.next 0 3=some [vO,vP,vC]:=by rw[zAd,if_neg (by omega)];exact fQ
 have pW:rr.length=O.length:=by rw[mM.1];exact hf.len
 rcases Nat.eq_zero_or_pos m with rfl|lY
 .simp only[Z3,seval,-ae,show ¬((0:Int)<=((0:Nat):Int)-1) by omega];refine zF (λm vs h'=>∃(i:Nat) (v:PV) (cs:List PV),i<=O.length/\m=O.length-i/\vs=[.sl T.next 0 O.length (.known O.length),v,.int .i64 i]/\Keep (T.new rr) h'/\PSl (T.new rr).next 1 h' v (rowsD R i).length cs/\All2 FI cs (rowsD R i)) O.length ?_ ?_
  .exact⟨0,_,[],by omega,by omega,rfl,zD _ _,PSl.new (h:=T.new rr) (cs:=[]) (T.next+1) 1 rfl (vM _),All2.nil _⟩
  rintro m vs h' ⟨i,v,cs,hi,rfl,rfl,kk,ps,ah⟩
  have aR:=zGc (R:=R) i;have bg:=zG (h:=h') (by rw[kk.obj _ (by show T.next<T.next+1;omega)];exact lb) i;simp only[Z3,seval,-ae];refine iteI (λag=>?_) λaF=>?_;rotate_left
  .have aJ:i=O.length:=by omega
   subst aJ;have rH:=zMN hf hD;have sH:=kk.keepOf2 kp;have jo:U.next<=(T.new rr).next:=by show U.next<=T.next+1;omega
   have xx:PSl U.next 1 h' v (rowsD R O.length).length cs:=by
    obtain⟨s1,gd,a1,a2,a3,a4,a5,a6⟩:=ps;exact⟨s1,gd,a1,a2,a3,a4,by omega,a6⟩
   exact xx.fin sH (ah.bI 0) λo cap=>hk _ _ ⟨_,_,_,rfl,ah⟩ rH
  have aG:i<O.length:=by omega
  rcases DRf.get mM (d:=i) (by rw[hf.len];exact aG)with ⟨e1,e2⟩|⟨w,a,y,e1,e3,e2⟩
  .rw[e1]at bg;simp only[Z3,seval,-ae,aG,bg,wrapS aG (by omega:O.length<=4611686018427387904)];exact⟨_,by omega,i+1,v,cs,by omega,rfl,rfl,kk,by rw[zCj e2];exact ps,by rw[zCj e2];exact ah⟩
  .rw[e1]at bg;have aD:(0:Int)<(O.length:Int):=by omega
   simp only[Z3,seval,-ae,aG,bg,aD];refine PSl.push (bytes:=24) (σb:=T.new rr) kk ps (by omega) (by omega) λv2 h2 k2 a2=>?_;simp only[Z3,seval,-ae,wrapS aG (by omega:O.length<=4611686018427387904)];refine⟨_,by omega,i+1,v2,cs++[.fz w a O.length (pis y)],by omega,rfl,rfl,k2,?_,?_⟩
   .rw[zCi e2,List.length_append];exact a2
   .rw[zCi e2];exact ah.snoc ⟨w,a,by rw[e3]⟩
 obtain⟨k,rfl⟩:∃k,m=k+1:=⟨m-1,by omega⟩
 have e:((k+1:Nat):Int)-1=(k:Int):=by omega
 have cH:k<O.length:=cw;rw[e];have kV:=zG uQ k;have AA:=zG lb k;have gl:IntKind.i64.wrap ((k:Int)-1)=(k:Int)-1:=wrap64 (by omega) (by omega);rcases DRf.get cu (d:=k) (by rw[hD.len];exact cH)with ⟨e1,e2⟩|⟨w,a,y,e1,e3,e2⟩
 .rw[e1]at kV;simp only[Z3,seval,-ae,cH,kV,gl];exact⟨k,Nat.lt_succ_self k,k,R,rr,rfl,by omega,rfl,rfl,mM,hf.skip cH e2 (dr k (Nat.lt_succ_self k)),λd hd=>dr d (by omega)⟩
 rw[e1]at kV;obtain⟨y1,y2⟩:=hD.row _ _ e2;have yS:gS O y:=y1.mono (Nat.zero_le _);have sW:¬((O.length:Int)=0):=by omega
 have w1:IntKind.i64.wrap ((k:Int)+1)=((k+1:Nat):Int):=by rw[wrap64 (by omega) (by omega)];omega
 simp only[Z3,seval,-ae,cH,kV,sW,w1];refine zF (λm vs h'=>∃(e:Nat) (x:L3) (v:PV),k+1<=e/\e<=O.length/\m=O.length-e/\vs=[.sl sT 0 O.length (.known O.length),.ptr U.next 0,.sl T.next 0 O.length (.known O.length),.int .i64 k,v,.int .i64 e]/\h'=T.new rr/\FI v x/\TT O k x/\at_ x k=1/\(∀(j:Nat) (z:L3),k<j->j<e->R[j]? = some (some z)->at_ x j=0)/\(∀N,gB O P C N->(∀(d:Nat) (y:L3),k+1<=d->R[d]? = some (some y)->N y)->(N y↔N x))) (O.length-(k+1)) ?_ ?_
 .exact⟨k+1,y,.fz w a O.length (pis y),vM _,cw,by omega,rfl,rfl,⟨w,a,by rw[e3]⟩,y1,y2,λj z h1 h2=>by omega,λ_ _ _=>Iff.rfl⟩
 rintro m vs h' ⟨e,x,v,fI,Du,rfl,rfl,rfl,hv,hx,eX,nH,hN⟩
 have xS:gS O x:=hx.mono (Nat.zero_le _);have aV:=hx.len;obtain⟨wx,ax,rfl⟩:=hv;have aY:FI (.fz wx ax x.length (pis x)) x:=⟨wx,ax,rfl⟩;simp only[Z3,seval,-ae];refine iteI (λag=>?_) λaF=>?_;rotate_left
 .have vH:e=O.length:=by omega
  subst vH;have iW:=zE9 lb (i:=k) (v:=.fz wx ax x.length (pis x)) (by omega) aY.one;rw[aV]at iW aY;have Aw:(T.new rr).set T.next (rr.set k (.fz wx ax O.length (pis x)))=T.new (rr.set k (.fz wx ax O.length (pis x))):=zMH T rr _;rw[Aw]at iW;simp only[Z3,seval,-ae,aV,cH,iW,gl];refine⟨k,Nat.lt_succ_self k,k,R.set k (some x),rr.set k (.fz wx ax O.length (pis x)),rfl,by omega,rfl,rfl,DRf.put mM (by rw[<-aV];exact⟨wx,ax,rfl⟩) aV,hf.put cH e2 hx eX (λj z h1 h2=>?_) hN,λd hd=>?_⟩
  .have hj:j<O.length:=by
    rw[<-hf.len];rcases Nat.lt_or_ge j R.length with e|e
    .exact e
    .rw[List.getElem?_eq_none e]at h2;cases h2
   exact nH j z h1 hj h2
  .rw[List.getElem?_set,if_neg (by omega)];exact dr d (by omega)
 have aG:e<O.length:=by omega
 have jE:=zG lb e;have hex:e<x.length:=by omega
 have w2:IntKind.i64.wrap ((e:Int)+1)=((e+1:Nat):Int):=by rw[wrap64 (by omega) (by omega)];omega
 rcases DRf.get mM (d:=e) (by rw[hf.len];exact aG)with ⟨f1,f2⟩|⟨w',a',r,f1,f3,f2⟩
 .rw[f1]at jE;have jy:¬((0:Int)<((0:Nat):Int)):=by decide
  simp only[Z3,seval,-ae,aG,jE,w2,jy,decide_false];refine⟨_,by omega,e+1,x,_,by omega,by omega,rfl,rfl,aY,hx,eX,λj z h1 h2 h3=>?_,hN⟩;rcases Nat.lt_or_ge j e with h|h
  .exact nH j z h1 h h3
  .rw[show j=e by omega,f2]at h3;cases h3
 rw[f1]at jE;obtain⟨r1,r2⟩:=hf.row e r (by omega) f2;have rS:gS O r:=r1.mono (Nat.zero_le _);have bx:=xS.bd e aG;have bO:=s.pr e aG;have aD:(0:Int)<(O.length:Int):=by omega
 by_cases hz:at_ x e=0
 .simp only[Z3,seval,-ae,aG,jE,aD,decide_true,hex,pisAt hex,hz,w2];refine⟨_,by omega,e+1,x,_,by omega,by omega,rfl,rfl,aY,hx,eX,λj z h1 h2 h3=>?_,hN⟩;rcases Nat.lt_or_ge j e with h|h
  .exact nH j z h1 h h3
  .rw[show j=e by omega];exact hz
 have bN:IntKind.i64.wrap (0-at_ x e)=-at_ x e:=by rw[wrap64 (by omega) (by omega)];omega
 obtain⟨q1,q2,q3,q4⟩:=zFF s F g.cent aG xS r1 r2;simp only[Z3,seval,-ae,aG,jE,aD,decide_true,hex,pisAt hex,hz,iN,bN];refine zFb g hR rS ⟨w',a',by rw[f3]⟩ (k:=-at_ x e) (by omega) λv1 g1=>?_;rw[Int.neg_neg]at g1;simp only[Z3,seval,-ae,iN];refine zAu s hR xS (G.pw (G.inv_in rS).1 _) aY g1 λv2 g2=>?_;simp only[Z3,seval,-ae,w2];generalize gm O P C x (Grp.pw (gm O P C) (zv O) (ginv (gS O) (gm O P C) (zv O) r) (at_ x e).toNat)=x' at *
 refine⟨_,by omega,e+1,x',v2,by omega,by omega,rfl,rfl,g2,⟨q1.len,q1.bd,λj hj=>by rw[q3 j (by omega)];exact hx.zero j hj⟩,by rw[q3 k (by omega)];exact eX,λj z h1 h2 h3=>?_,λN tg tf=>(hN N tg tf).trans ?_⟩
 .rcases Nat.lt_or_ge j e with h|h
  .rw[q3 j h];exact nH j z h1 h h3
  .rw[show j=e by omega];exact q4
 .have hr:=tf e r (by omega) f2;have hp:=tg.pw hr (at_ x e).toNat;constructor
  .intro h;rw[<-q2]at h;exact tg.quotR G hp q1 h
  .intro h;rw[<-q2];exact tg.cl h hp
end Go.Proofs
namespace Go.Proofs
open Go.Ab Go.Lie Go.Grp
variable{U h h':PHeap}{K:PV->PHeap->Prop}{O x y:L3}{P:L4}{C:L5}{vO vP vC vL:PV}{L:L4}{D R:List (Option L3)}{rb:List PV}{d n:Nat}
theorem All2.unsnoc{α β:Type}{R:α->β->Prop}{us:List α}{bs:List β}{b:β}(h:All2 R us (bs++[b])):∃xo a,us=xo++[a]/\All2 R xo bs/\R a b:=by
 have hl:=h.1;rw[List.length_append,List.length_singleton]at hl;have ai:us≠[]:=λe=>by rw[e]at hl;simp at hl
 refine⟨us.dropLast,us.getLast ai,(List.dropLast_concat_getLast ai).symm,⟨by rw[List.length_dropLast];omega,λk c r hc hr=>?_⟩,?_⟩
 .have hk:k<us.dropLast.length:=by
   rcases Nat.lt_or_ge k us.dropLast.length with e|e
   .exact e
   .rw[List.getElem?_eq_none e]at hc;cases hc
  rw[List.length_dropLast]at hk;refine h.2 k c r ?_ ?_
  .rw[List.getElem?_eq_getElem (by rw[List.length_dropLast];exact hk),List.getElem_dropLast]at hc;rw[List.getElem?_eq_getElem (by omega)];exact hc
  .rw[List.getElem?_append_left (by omega)];exact hr
 .refine h.2 bs.length _ _ ?_ ?_
  .rw[List.getLast_eq_getElem,List.getElem?_eq_getElem (by omega)];congr 2;omega
  .rw[List.getElem?_append_right (vM _),Nat.sub_self];rfl
theorem zNK{α:Type}(Q:List α):Q=[]\/∃Q' x,Q=Q'++[x]:=by
 rcases Q.eq_nil_or_concat with h|⟨l,b,h⟩
 .exact .inl h
 .exact .inr ⟨l,b,by rw[h,List.concat_eq_append]⟩
theorem zJr(g:LG O P C)(hR:IsPr vO vP vC O P C)(hL:FII vL L)(sz:SzL L)(hg:∀x∈L,gS O x)
  (hk:∀v u,FII v u->CanG O (GC O P C L) u->K v U):zA Tryz.prog 87 [.agg [vO,vP,vC],vL] U K:=by
 have h1:=hR.P.one;have h2:=hR.C.one;have s:=g.s;have F:=g.F;have G:=F.g;have hC:=g.cent;have aW:=s.le;have hp:=QB.isp g.pr;have rX:=sz.l;have aH:=hR;obtain⟨⟨w0,a0,rfl⟩,Dz,DA⟩:=hR;refine zA.gh ?_;refine zP mix Tryz.func87 cf87 rfl ?_;dsimp only[if87,qI,eI,qD,eD,mI0,kI0,lI0,LI0,fI0,xI0,bI0,cI0,sI0,eI0,C1,C2,C3,mD0,lD0,fD0,xD0,I0,G0,gm0,aI0,zI0,vI0,R0,S0];simp only[Z3,seval,-ae,h1,h2,mk24 (n:=O.length) (by omega),mkL (n:=O.length) (by omega),hL.sb];have BH:(U.new [.fz w0 a0 O.length (pis O),vP,vC]).obj U.next=some [.fz w0 a0 O.length (pis O),vP,vC]:=by simp only[Z3,seval,-ae]
 have pH:(U.new [.fz w0 a0 O.length (pis O),vP,vC]).next=U.next+1:=rfl;have kp:Keep U (U.new [.fz w0 a0 O.length (pis O),vP,vC]):=zD U _;generalize U.new [.fz w0 a0 O.length (pis O),vP,vC]=T at *
 rw[<-pH];refine zNW hL sz λvQ ks rq kq pq fW=>?_;simp only[Z3,seval,-ae];have iG:∀{rb:List PV} {h:PHeap},Keep (T.new rb) h->h.rd U.next 0 3=some [.fz w0 a0 O.length (pis O),vP,vC]/\h.rd1 U.next 0=some (.fz w0 a0 O.length (pis O))/\h.obj T.next=some rb/\T.next<h.next:=λ{rb h} k=>by
  have e1:∀t,t<T.next->h.obj t=T.obj t:=λt ht=>by rw[k.obj t (by show t<T.next+1;omega),qa,if_neg (by omega)]
  have e2:=e1 U.next (by omega);rw[BH]at e2;refine⟨by rw[ZN e2];rfl,by rw[zG e2];rfl,?_,k.next⟩
  .rw[k.obj T.next (Nat.lt_succ_self _),qa,if_pos rfl]
 have tZ:∀{rb rb':List PV} {h:PHeap},Keep (T.new rb) h->Keep (T.new rb') (h.set T.next rb'):=λ{rb rb' h} k=>⟨k.next,k.top,λt ht=>by
  rw[zI];split
  .rename_i e;rw[e,qa,if_pos rfl]
  .rename_i e;rw[k.obj t ht,qa,qa,if_neg e,if_neg e]⟩
 refine zF (λm vs h'=>∃(D:List (Option L3)) (rb:List PV) (Q:L4) (vQ:PV) (rq:List PV),m=10*free D+Q.length/\vs=[.ptr U.next 0,.int .i64 O.length,.sl T.next 0 O.length (.known O.length),vQ]/\Keep (T.new rb) h'/\PT (T.next+1) h' vQ Q.length rq/\All2 FI rq Q/\(∀x∈Q,gS O x)/\All2 (DRf O.length) rb D/\OkD O D/\QI O P C D Q/\(∀N,gB O P C N->((InD N D/\∀q∈Q,N q)↔∀q∈L,N q))/\Q.length+10*free D<=L.length+10*O.length) (10*free (List.replicate O.length none)+L.length) ?_ ?_
 .refine⟨List.replicate O.length none,_,L,vQ,rq,rfl,rfl,kq,pq,fW,hg,DRf.start _ _,OkD.start _ rfl,QI.start _,λN _=>⟨λh=>h.2,λh=>⟨InD.start _,h⟩⟩,?_⟩
  have:=zBP (List.replicate O.length none)
  rw[List.length_replicate]at this;omega
 clear kq pq fW vQ rq ks
 rintro m vs h' ⟨D,rb,Q,vQ,rq,rfl,rfl,kk,pq,fW,qT,cu,hD,rR,hS,BK⟩
 obtain⟨l3,l1,lT,xE⟩:=iG kk;have hlen:=pq.pLen;have vD:=zBP D;rw[hD.len]at vD;rcases zNK Q with rfl|⟨Q,x,rfl⟩
 .have jy:¬((0:Int)<((0:Nat):Int)):=by decide
  simp only[List.length_nil]at hlen;simp only[Z3,seval,-ae,hlen,jy,l3];refine zLb g aH lT xE hD cu λv u hv rH=>?_;simp only[Z3,seval,-ae];exact Gh.fin0 (kk.keepOf2 kp) (hv.bel _) (hk v u hv (rH.can s F hC hD rR λN hN=>⟨λh=>(hS N hN).1 ⟨h,λq hq=>(by cases hq)⟩,λh=>((hS N hN).2 h).1⟩))
 have m4:(Q++[x]).length=Q.length+1:=by simp
 rw[m4]at pq hlen BK;obtain⟨dx,c,rfl,fj,hc⟩:=All2.unsnoc fW;obtain⟨sq,off,cap,kM,rfl,bg,gF,xA⟩:=pq.unsnoc;have hx:=qT x (by simp);have jV:∀q∈Q,gS O q:=λq hq=>qT q (by simp[hq]);have aD:(0:Int)<((Q.length+1:Nat):Int):=by omega
 have c4:IntKind.i64.wrap (((Q.length+1:Nat):Int)-1)=(Q.length:Int):=by rw[wrap64 (by omega) (by omega)];omega
 have wM:Q.length<Q.length+1:=Nat.lt_succ_self _;rw[m4];simp only[Z3,seval,-ae,hlen,aD,c4,wM,bg,gF,l3];refine zJq g aH lT xE hD cu hx hc λvz z fz gz dz cK=>?_;have eQ:=gz.len;by_cases hd:dep z<O.length;rotate_left
 .have dh:dep z=O.length:=by have:=QR z;omega
  have fT:=zIc gz (by omega);simp only[Z3,seval,-ae,dh];refine⟨_,?_,D,rb,Q,kM,dx,rfl,rfl,kk,xA,fj,jV,cu,hD,(rR.mem (Q':=x::Q) (λq hq=>by
   rcases List.mem_append.1 hq with h|h
   .exact List.mem_cons_of_mem _ h
   .rw[List.mem_singleton.1 h];simp)).drop (by rw[<-fT];exact cK),λN hN=>?_,by omega⟩
  .omega
  .rw[<-hS N hN];refine⟨λ⟨h1,h2⟩=>⟨h1,λq hq=>?_⟩,λ⟨h1,h2⟩=>⟨h1,λq hq=>h2 q (by simp[hq])⟩⟩;rcases List.mem_append.1 hq with hq|hq
   .exact h2 q hq
   .rw[List.mem_singleton.1 hq,cK.iff F hN h1,fT];exact hN.one
 have hdz:dep z<z.length:=by omega
 have rU:=hp _ (List.getElem_mem hd);have bO:=rU.bd;have bz:=gz.bd _ hd;have nz:=Zg hdz;have eO:at_ O (dep z)=O[dep z]:=at_eq hd;rw[eO]at bz;have dh:((dep z:Int)=(O.length:Int))=False:=by simp;omega
 obtain⟨wz,az,rfl⟩:=fz;have fz:FI (.fz wz az z.length (pis z)) z:=⟨wz,az,rfl⟩;simp only[Z3,seval,-ae,dh,l3,l1,hdz,pisAt hdz,hd,pisAt hd];refine zGk (p:=at_ O (dep z)) (by rw[eO];exact rU) (by rw[eO];omega) λq q1 q2 q3=>?_;simp only[Z3,seval,-ae,dh,l3,l1];refine zGg g aH gz fz (k:=q) (by rw[eO]at q2;omega) λvy fy=>?_;obtain⟨y1,y2⟩:=zAb s F hC hd (zCL gz) q.toNat;have jA:at_ (Grp.pw (gm O P C) (zv O) z q.toNat) (dep z)=1:=by
  rw[y2,Int.toNat_of_nonneg (by omega),Int.mul_comm];exact q3
 have wN:∀N,gB O P C N->N z->N (Grp.pw (gm O P C) (zv O) z q.toNat):=λN hN h=>hN.pw h _;generalize Grp.pw (gm O P C) (zv O) z q.toNat=y at *
 have yS:gS O y:=y1.mono (Nat.zero_le _);have gk:=yS.len;obtain⟨wy,ay,rfl⟩:=fy;have fy:FI (.fz wy ay y.length (pis y)) y:=⟨wy,ay,rfl⟩;have ez:D[dep z]? = some none:=dz hd;have dr:=zEr (y:=y) ez;have iu:dep z<rb.length:=by rw[cu.1,hD.len];exact hd
 have iW:=zE9 lT (i:=dep z) (v:=.fz wy ay y.length (pis y)) iu fy.one;have sH:=tZ (rb':=rb.set (dep z) (.fz wy ay y.length (pis y))) kk;have kW:=DRf.put (d:=dep z) cu fy gk;have Ca:=hD.put hd y1 jA;obtain⟨k3,k1,kT,CX⟩:=iG sH;have y5:=xA.set (t:=T.next) (Nat.lt_succ_self _) (rb.set (dep z) (.fz wy ay y.length (pis y)));have eZ:(h'.set T.next (rb.set (dep z) (.fz wy ay y.length (pis y)))).next=h'.next:=rfl;simp only[Z3,seval,-ae,hd,iW];generalize h'.set T.next (rb.set (dep z) (.fz wy ay y.length (pis y)))=h2 at *
 rw[<-eZ];refine PT.push (bytes:=24) (σb:=T.new (rb.set (dep z) (.fz wy ay y.length (pis y)))) fz.one sH y5 (by omega) (by omega) λv3 h3 ua xz=>?_;obtain⟨m3,m1,mT,xD⟩:=iG ua;simp only[Z3,seval,-ae,m3,m1,hd,pisAt hd];refine zGg g aH yS fy (k:=at_ O (dep z)) (by rw[eO];omega) λvo fo=>?_;have xc:gS O (Grp.pw (gm O P C) (zv O) y (at_ O (dep z)).toNat):=G.pw yS _;have Cq:=fo.one;have Cp:=fo.cells;simp only[Z3,seval,-ae,Cq,Cp,m3,m1,hd,pisAt hd];refine PT.push (bytes:=24) (σb:=T.new (rb.set (dep z) (.fz wy ay y.length (pis y)))) fo.one ua xz (by omega) (by omega) λv4 h4 xF tJ=>?_;have uC:All2 FI ((dx++[.fz wz az z.length (pis z)])++[vo]) ((Q++[z])++[Grp.pw (gm O P C) (zv O) y (at_ O (dep z)).toNat]):=(fj.snoc fz).snoc fo;have nh:∀q∈(Q++[z])++[Grp.pw (gm O P C) (zv O) y (at_ O (dep z)).toNat],gS O q:=λq hq=>by
  rcases List.mem_append.1 hq with hq|hq
  .rcases List.mem_append.1 hq with hq|hq
   .exact jV q hq
   .rw[List.mem_singleton.1 hq];exact gz
  .rw[List.mem_singleton.1 hq];exact xc
 generalize kh:(Q++[z])++[Grp.pw (gm O P C) (zv O) y (at_ O (dep z)).toNat]=Q2 at *
 have nu:Q2.length=Q.length+1+1:=by rw[<-kh];simp
 have uV:z∈Q2:=by rw[<-kh];simp
 have uX:∀q∈Q,q∈Q2:=λq hq=>by rw[<-kh];simp[hq]
 have lY:Grp.pw (gm O P C) (zv O) y (at_ O (dep z)).toNat∈Q2:=by rw[<-kh];simp
 have ko:∀N,gB O P C N->N y->((∀q∈Q2,N q)↔(∀q∈Q,N q)/\N z):=λN hN hy=>by
  rw[<-kh];refine⟨λh=>⟨λq hq=>h q (by simp[hq]),h z (by simp)⟩,λ⟨h3,h4⟩ q hq=>?_⟩;rcases List.mem_append.1 hq with hq|hq
  .rcases List.mem_append.1 hq with hq|hq
   .exact h3 q hq
   .rw[List.mem_singleton.1 hq];exact h4
  .rw[List.mem_singleton.1 hq];exact hN.pw hy _
 generalize (dx++[PV.fz wz az z.length (pis z)])++[vo]=yV at *
 rw[<-nu]at tJ;simp only[Z3,seval,-ae];refine zF (λm us h3=>∃(i:Nat) (vQ:PV) (E:L4) (re:List PV),i<=O.length/\m=O.length-i/\us=[.ptr U.next 0,.int .i64 O.length,.sl T.next 0 O.length (.known O.length),vQ,.int .i64 (dep z),.fz wy ay y.length (pis y),.int .i64 i]/\Keep (T.new (rb.set (dep z) (.fz wy ay y.length (pis y)))) h3/\PT (T.next+1) h3 vQ (Q2++E).length re/\All2 FI re (Q2++E)/\(∀q∈E,gS O q)/\E.length<=i/\(∀(e:Nat) (b:L3),e<i->D[e]? = some (some b)->gcom O P C y b∈E)/\∀N,gB O P C N->InD N D->N y->∀q∈E,N q) O.length ?_ ?_
 .exact⟨0,v4,[],_,by omega,by omega,rfl,xF,by rw[List.append_nil];exact tJ,by rw[List.append_nil];exact uC,λq hq=>(by cases hq),vM _,λe b h=>(by omega),λN _ _ _ q hq=>(by cases hq)⟩
 clear xF tJ v4 h4 ua xz v3 h3 m3 m1 mT xD
 rintro m us h5 ⟨i,tD,E,re,hi,rfl,rfl,oM,sE,lS,l7,B8,ma,mh⟩
 obtain⟨m3,m1,mT,xD⟩:=iG oM;simp only[Z3,seval,-ae];refine iteI (λag=>?_) λaF=>?_;rotate_left
 .refine⟨10*free (D.set (dep z) (some y))+(Q2++E).length,?_,D.set (dep z) (some y),_,Q2++E,tD,re,rfl,rfl,oM,sE,lS,?_,kW,Ca,(rR.mem (Q':=x::Q) (λq hq=>by
   rcases List.mem_append.1 hq with h|h
   .exact List.mem_cons_of_mem _ h
   .rw[List.mem_singleton.1 h];simp)).put cK ez (by simp[uV]) (λq hq=>by simp[uX q hq]) (List.mem_append.2 (.inl lY)) (λe b hb=>.inr (by
    have:=ma e b (by
     rcases Nat.lt_or_ge e D.length with h|h
     .have:=hD.len;omega
     .rw[List.getElem?_eq_none h]at hb;cases hb) hb
    simp[this])),λN hN=>?_,?_⟩
  .simp only[List.length_append,List.length_singleton];omega
  .intro q hq;rcases List.mem_append.1 hq with hq|hq
   .exact nh q hq
   .exact l7 q hq
  .rw[<-hS N hN,InD.put ez];constructor
   .rintro⟨⟨g1,g2⟩,g3⟩
    obtain⟨g4,g5⟩:=(ko N hN g2).1 λq hq=>g3 q (by simp[hq]);refine⟨g1,λq hq=>?_⟩;rcases List.mem_append.1 hq with hq|hq
    .exact g4 q hq
    .rw[List.mem_singleton.1 hq];exact(cK.iff F hN g1).2 g5
   .rintro⟨g1,g2⟩
    have r7:=(cK.iff F hN g1).1 (g2 x (by simp));have gy:=wN N hN r7;refine⟨⟨g1,gy⟩,λq hq=>?_⟩;rcases List.mem_append.1 hq with hq|hq
    .exact(ko N hN gy).2 ⟨λq hq=>g2 q (by simp[hq]),r7⟩ q hq
    .exact mh N hN g1 gy q hq
  .simp only[List.length_append];omega
 have aG:i<O.length:=by omega
 have w1:IntKind.i64.wrap ((i:Int)+1)=((i+1:Nat):Int):=by rw[wrap64 (by omega) (by omega)];omega
 have dC:=zG mT i;by_cases aJ:i=dep z
 .subst aJ;simp only[Z3,seval,-ae,w1];refine⟨_,by omega,dep z+1,tD,E,re,by omega,rfl,rfl,oM,sE,lS,l7,by omega,λe b h1 h2=>?_,mh⟩;rcases Nat.lt_or_ge e (dep z)with h|h
  .exact ma e b h h2
  .rw[show e=dep z by omega,ez]at h2;cases h2
 have m9:¬((i:Int)=(dep z:Int)):=by omega
 have qt:(rb.set (dep z) (.fz wy ay y.length (pis y)))[i]? = rb[i]?:=by rw[List.getElem?_set,if_neg (by omega)]
 rw[qt]at dC;rcases DRf.get cu (d:=i) (by rw[hD.len];exact aG)with ⟨e1,e2⟩|⟨w,a,b,e1,e3,e2⟩
 .rw[e1]at dC;have jy:¬((0:Int)<((0:Nat):Int)):=by decide
  simp only[Z3,seval,-ae,m9,aG,dC,jy,decide_false,w1];refine⟨_,by omega,i+1,tD,E,re,by omega,rfl,rfl,oM,sE,lS,l7,by omega,λe b h1 h2=>?_,mh⟩;rcases Nat.lt_or_ge e i with h|h
  .exact ma e b h h2
  .rw[show e=i by omega,e2]at h2;cases h2
 rw[e1]at dC;have bS:gS O b:=(hD.row _ _ e2).1.mono (Nat.zero_le _);have aD:(0:Int)<(O.length:Int):=by omega
 simp only[Z3,seval,-ae,m9,aG,dC,aD,decide_true,m3];refine zLc s g.co aH yS bS fy ⟨w,a,by rw[e3]⟩ λvc fc=>?_;have Ct:=fc.one;have Cs:=fc.cells;simp only[Z3,seval,-ae,m9,aG,dC,aD,decide_true,m3,Ct,Cs];refine PT.push (bytes:=24) (σb:=T.new (rb.set (dep z) (.fz wy ay y.length (pis y)))) fc.one oM sE (by rw[List.length_append];omega) (by rw[List.length_append];omega) λv6 h6 Ag yZ=>?_;simp only[Z3,seval,-ae,w1];refine⟨_,by omega,i+1,v6,E++[gcom O P C y b],re++[vc],by omega,rfl,rfl,Ag,?_,?_,?_,?_,?_,?_⟩;rotate_left
 .rw[<-List.append_assoc];exact lS.snoc fc
 .intro q hq;rcases List.mem_append.1 hq with hq|hq
  .exact l7 q hq
  .rw[List.mem_singleton.1 hq];exact G.com_in yS bS
 .simp;omega
 .intro e b' h1 h2;rcases Nat.lt_or_ge e i with h|h
  .simp[ma e b' h h2]
  .rw[show e=i by omega,e2]at h2;cases h2;simp
 .intro N hN rZ hy q hq;rcases List.mem_append.1 hq with hq|hq
  .exact mh N hN rZ hy q hq
  .rw[List.mem_singleton.1 hq];exact hN.com_in hy (rZ _ _ e2)
 .rw[<-List.append_assoc,List.length_append,List.length_singleton];exact yZ
end Go.Proofs
namespace Go.Proofs
open Go.Ab Go.Lie
variable{n:Nat}{id:Prop}
def wl(n:Nat)(id:Prop)(w:L4):Prop:=(id/\w=units n)\/(¬id/\w=[])
end Go.Proofs
set_option linter.unusedSectionVars false
namespace Go.Proofs
open Go.Ab Go.Lie
variable{U:PHeap}{K:PV->PHeap->Prop}{vU vV:PV}
theorem zJv{xs ys:L4}(hU:FII vU xs)(hV:FII vV ys)(hx:xs.length<=1048576)(aV:∀x∈xs,x.length<=1048576)(hk:∀t:Bool,(t=true↔xs=ys)->K (.bool t) U):zA Tryz.prog 173 [vU,vV] U K:=by
 have fl:∀{A:Prop},¬A->((false=true)↔A):=λh=>⟨λx=>(by cases x),λx=>absurd x h⟩
 obtain⟨wA,aA,rA,rfl,AE⟩:=hU;obtain⟨wB,aB,rB,rfl,AD⟩:=hV;refine zB mix Tryz.func173 ?_
 conv=>arg 2;cbv
 refine zC rfl ?_;by_cases hl:xs.length=ys.length;rotate_left
 .have aX:¬(xs.length:Int)=(ys.length:Int):=by omega
  simp only[Z3,seval,-ae,aX];exact hk _ (fl λh=>hl (by rw[h]))
 have aX:(xs.length:Int)=(ys.length:Int):=by omega
 simp only[Z3,seval,-ae,eq_true aX];refine zF (λm vs h'=>∃i:Nat,i<=xs.length/\m=xs.length-i/\vs=[.fz wA aA xs.length rA,.fz wB aB ys.length rB,.int .i64 i]/\U=h'/\xs.take i=ys.take i) xs.length ?_ ?_
 .exact⟨0,by omega,by omega,rfl,rfl,rfl⟩
 rintro m vs h' ⟨i,hi,rfl,rfl,rfl,heq⟩
 simp only[Z3,seval,-ae];refine iteI (λag=>?_) λaF=>?_;rotate_left
 .have aJ:i=xs.length:=by omega
  subst aJ;rw[List.take_length,hl,List.take_length]at heq;exact hk _ ⟨λ_=>heq,λ_=>rfl⟩
 have an:i<ys.length:=by omega
 obtain⟨w4,a4,hr⟩:=AE.rowI ag;obtain⟨w5,a5,pE⟩:=AD.rowI an;have hb:=aV _ (List.getElem_mem ag);simp only[Z3,seval,-ae,ag,an,hr,pE];refine zFe rfl rfl (by omega) ?_;by_cases he:xs[i]=ys[i]
 .simp only[Z3,seval,-ae,he,wrapS ag (by omega:xs.length<=4611686018427387904)];refine⟨_,by omega,i+1,by omega,rfl,rfl,?_⟩;rw[List.take_succ_eq_append_getElem ag,List.take_succ_eq_append_getElem an,heq,he]
 .simp only[Z3,seval,-ae,he];refine hk _ (fl λh=>he ?_);subst h;rfl
end Go.Proofs
namespace Go.Proofs
open Go.Ab Go.Lie Go.Grp
variable{U h h':PHeap}{K:PV->PHeap->Prop}{O x:L3}{P:L4}{C:L5}{vO vP vC vL vU:PV}{L u:L4}{sp:Nat}
def zCR(O:L3)(P:L4)(C:L5)(u:L4):Prop:=(∀x∈u,gS O x)/\CanG O (GC O P C u) u
theorem zIN(g:LG O P C)(hs:PtrG U sp vO vP vC)(hR:IsPr vO vP vC O P C)(hL:FII vL L)(hg:∀x∈L,gS O x)(rX:L.length<=1000000)
  (hk:∀v u,FII v u->CanG O (GC O P C L) u->K v U):zA Tryz.prog 96 [.ptr sp 0,vL] U K:=by
 have s:=g.s;have F:=g.F;have hC:=g.cent;have hp:=QB.isp g.pr;have wR:=hL;obtain⟨wl,al,rl,rfl,aR⟩:=hL;refine zA.gh ?_;refine zB mix Tryz.func96 ?_
 conv=>arg 2;cbv
 refine zC rfl ?_;simp only[Z3,seval,-ae];refine zGL s hs hR λss sb h1 k1 n1 n2 q1=>?_;simp only[Z3,seval,-ae];refine zSO s F hC hp q1 hR (OkD.start O.length rfl) ⟨by simp,λk c r hc hr=>?_⟩ (QI.start _) wR hg rX λt rb' D' fX jv BY rW hf dg=>?_
 .rw[List.getElem?_replicate]at hc hr;split at hc
  .rename_i h;rw[if_pos h]at hr;cases hc;cases hr;exact .inl ⟨rfl,rfl⟩
  .cases hc
 simp only[Z3,seval,-ae];refine zIf s F hC (q1.setB rb') hR jv fX λv u f1 cd=>?_;simp only[Z3,seval,-ae];exact Gh.fin0 (k1.set n2 _) (f1.bel _) (hk v u f1 (cd.can s F hC jv BY λN hN=>(rW N hN).trans ⟨λh=>h.2,λh=>⟨InD.start _,h⟩⟩))
theorem zCR.len(h:zCR O P C u):u.length<=O.length:=h.2.len
theorem zFx{wL:Bool}{aL:AV}(g:LG O P C)(hs:PtrG U sp vO vP vC)(hR:IsPr vO vP vC O P C)(sz:SzP O P C)(hU:FII vU u)(eW:SzL u)(hk:∀t:Bool,(t=true↔zCR O P C u)->K (.bool t) U):zA Tryz.prog 107 [.ptr sp 0,.fz wL aL 1 [vU]] U K:=by
 have fl:∀{A:Prop},¬A->((false=true)↔A):=λh=>⟨λx=>(by cases x),λx=>absurd x h⟩
 have s:=g.s;have F:=g.F;have aW:=s.le;have r3:U.rd sp 0 3=some [vO,vP,vC]:=by rw[ZN hs.obj];rfl
 have aH:=hR;obtain⟨⟨w0,a0,rfl⟩,_,_⟩:=hR;have r1:U.rd1 sp 0=some (.fz w0 a0 O.length (pis O)):=by rw[zG hs.obj];rfl
 have c6:=eW.l;have oh:=hU;obtain⟨wu,au,ru,rfl,fG⟩:=hU;refine zB mix Tryz.func107 ?_
 conv=>arg 2;cbv
 refine zC rfl ?_;simp only[Z3,seval,-ae,r3];refine zF2 aH sz λt ht=>?_;obtain rfl:t=true:=ht.2 ⟨g.pr,g.co⟩;clear ht;simp only[Z3,seval,-ae];refine zF (λm us h'=>∃i:Nat,i<=1/\m=1-i/\us=[.ptr sp 0,.fz wL aL 1 [.fz wu au u.length ru],.int .i64 ((1:Nat):Int),.int .i64 i]/\U=h'/\(i=1->zCR O P C u)) 1 ⟨0,by omega,by omega,rfl,rfl,λh=>by omega⟩ ?_
 rintro m us h' ⟨i,hi,rfl,rfl,rfl,ah⟩
 rcases Nat.lt_or_ge i 1 with vt|vt;rotate_left
 .obtain rfl:i=1:=by omega
  have n1:¬(((1:Nat):Int)<((1:Nat):Int)):=by omega
  simp only[Z3,seval,-ae,n1,decide_false];exact hk true ⟨λ_=>ah rfl,λ_=>rfl⟩
 obtain rfl:i=0:=by omega
 have n0:((0:Nat):Int)<((1:Nat):Int):=by omega
 have z9:(0:Int)<((1:Nat):Int):=by omega
 have z7:(0:Nat)<1:=by omega
 simp only[Z3,seval,-ae,n0,z9,z7,decide_true,r1];refine iteI (λBe=>?_) λhle=>?_
 .refine hk _ (fl λh=>?_)
  have:=h.len
  omega
 have AU:u.length<=O.length:=by omega
 refine zF (λm us h'=>∃i:Nat,i<=u.length/\m=u.length-i/\us=[.ptr sp 0,.fz wu au u.length ru,.fz wL aL 1 [.fz wu au u.length ru],.int .i64 ((1:Nat):Int),.int .i64 ((0:Nat):Int),.fz wu au u.length ru,.int .i64 u.length,.int .i64 i]/\U=h'/\∀x∈u.take i,isExp O x) u.length ⟨0,by omega,by omega,rfl,rfl,by simp⟩ ?_
 rintro m us h' ⟨i,gQ,rfl,rfl,rfl,j8⟩
 simp only[Z3,seval,-ae];refine iteI (λag=>?_) λaF=>?_;rotate_left
 .have aJ:i=u.length:=by omega
  subst aJ;rw[List.take_length]at j8;have ng:∀x∈u,gS O x:=λx hx=>(j8 x hx).gS;simp only[Z3,seval,-ae];refine zIN g hs aH oh ng (by omega) λv z hv hz=>?_;simp only[Z3,seval,-ae];have eQ:=hz.len;refine zEI hv oh (by omega) (λx hx=>by have:=(hz.one x hx).1.len;omega) λt ht=>?_;cases t with
  |false=>
   simp only[Z3,seval,-ae];refine hk _ (fl λh=>?_)
   have:=ht.2 (hz.unique s F (GC.sub F ng) h.2)
   cases this
  |true=>
   have e:=ht.1 rfl;have w1:IntKind.i64.wrap (((0:Nat):Int)+1)=((1:Nat):Int):=by rw[wrap64 (by omega) (by omega)];omega
   simp only[Z3,seval,-ae,w1];exact⟨0,by omega,1,vM _,by omega,rfl,λ_=>⟨ng,by rw[e]at hz;exact hz⟩⟩
 obtain⟨w4,a4,hr⟩:=fG.rowI ag;have kQ:=eW.r _ (List.getElem_mem ag);simp only[Z3,seval,-ae,ag,hr];refine zCS hs aH.O (by omega) (QB.isp g.pr) ⟨w4,a4,rfl⟩ kQ λt ht=>?_;cases t with
 |false=>
  simp only[Z3,seval,-ae];refine hk _ (fl λh=>?_)
  have:=ht.2 (zNd.2 (h.1 _ (List.getElem_mem ag)))
  cases this
 |true=>
 have h1:=ht.1 rfl;simp only[Z3,seval,-ae,wrapS ag (by omega:u.length<=4611686018427387904)];refine⟨_,by omega,i+1,by omega,rfl,rfl,λx hx=>?_⟩;rw[List.take_succ_eq_append_getElem ag,List.mem_append,List.mem_singleton]at hx;rcases hx with hx|hx
 .exact j8 x hx
 .rw[hx];exact h1
theorem zGT(hR:IsPr vO vP vC O P C)(mq:O.length<=1048576)(bO:∀o∈O,isP o)(hL:FII vL L)(sz:SzL L)(hk:∀t:Bool,(t=true↔∀x∈L,isExp O x)->K (.bool t) U):zA Tryz.prog 196 [.agg [vO,vP,vC],vL] U K:=by
 have fl:∀{A:Prop},¬A->((false=true)↔A):=λh=>⟨λx=>(by cases x),λx=>absurd x h⟩
 have h0:=hR.O.one;have h1:=hR.P.one;have h2:=hR.C.one;have aV:=sz.l;obtain⟨wl,al,rl,rfl,aR⟩:=hL;refine zA.gh ?_;refine zB mix Tryz.func196 ?_
 conv=>arg 2;cbv
 refine zC rfl ?_;simp only[Z3,seval,-ae,h0,h1,h2];have aq:Keep U (U.new [vO,vP,vC]):=zD U _;have iN:(U.new [vO,vP,vC]).rd U.next 0 3=some [vO,vP,vC]:=by simp only[Z3,seval,-ae]
 generalize U.new [vO,vP,vC]=H at *
 refine zF (λm us h'=>∃i:Nat,i<=L.length/\m=L.length-i/\us=[.fz wl al L.length rl,.ptr U.next 0,.int .i64 i]/\H=h'/\∀x∈L.take i,isExp O x) L.length ⟨0,by omega,by omega,rfl,rfl,by simp⟩ ?_
 rintro m us h' ⟨i,hi,rfl,rfl,rfl,ah⟩
 simp only[Z3,seval,-ae];refine iteI (λag=>?_) λaF=>?_;rotate_left
 .have aJ:i=L.length:=by omega
  subst aJ;rw[List.take_length]at ah;exact Gh.fin0 aq trivial (hk _ ⟨λ_=>ah,λ_=>rfl⟩)
 obtain⟨w4,a4,hr⟩:=aR.rowI ag;have kQ:=sz.r _ (List.getElem_mem ag);simp only[Z3,seval,-ae,ag,hr,iN];refine zH9 hR mq bO ⟨w4,a4,rfl⟩ kQ λt ht=>?_;cases t with
 |false=>
  simp only[Z3,seval,-ae];exact Gh.fin0 aq trivial (hk _ (fl λh=>by have:=ht.2 (h _ (List.getElem_mem ag));cases this))
 |true=>
 have h3:=ht.1 rfl;simp only[Z3,seval,-ae,wrapS ag (by omega:L.length<=4611686018427387904)];refine⟨_,by omega,i+1,by omega,rfl,rfl,λx hx=>?_⟩;rw[List.take_succ_eq_append_getElem ag,List.mem_append,List.mem_singleton]at hx;rcases hx with hx|hx
 .exact ah x hx
 .rw[hx];exact h3
theorem zO9(g:LG O P C)(hR:IsPr vO vP vC O P C)(hU:FII vU u)(eW:SzL u)(hk:∀t:Bool,(t=true↔zCR O P C u)->K (.bool t) U):zA Tryz.prog 103 [.agg [vO,vP,vC],vU] U K:=by
 have fl:∀{A:Prop},¬A->((false=true)↔A):=λh=>⟨λx=>(by cases x),λx=>absurd x h⟩
 have h1:=hR.P.one;have h2:=hR.C.one;have s:=g.s;have F:=g.F;have aW:=s.le;have c6:=eW.l;have oh:=hU;have aH:=hR;obtain⟨⟨w0,a0,rfl⟩,_,_⟩:=hR;obtain⟨wu,au,ru,rfl,fG⟩:=hU;refine zA.gh ?_;refine zB mix Tryz.func103 ?_
 conv=>arg 2;cbv
 refine zC rfl ?_;have aq:Keep U (U.new [.fz w0 a0 O.length (pis O),vP,vC]):=zD U _;by_cases hlen:u.length<=O.length;rotate_left
 .have hl:¬((u.length:Int)<=(O.length:Int)):=by omega
  simp only[Z3,seval,-ae,h1,h2,hlen,hl,decide_false];exact Gh.fin0 aq trivial (hk _ (fl λh=>hlen h.len))
 have hl:(u.length:Int)<=(O.length:Int):=by omega
 simp only[Z3,seval,-ae,h1,h2,hlen,hl,decide_true];refine zGT aH (by omega) (QB.isp g.pr) oh eW λt ht=>?_;cases t with
 |false=>
  simp only[Z3,seval,-ae];exact Gh.fin0 aq trivial (hk _ (fl λh=>by have:=ht.2 λx hx=>zNd.2 (h.1 x hx);cases this))
 |true=>
 have ng:∀x∈u,gS O x:=λx hx=>(ht.1 rfl x hx).gS;simp only[Z3,seval,-ae];refine zJr g aH oh eW ng λv z hv hz=>?_;simp only[Z3,seval,-ae];have eQ:=hz.len;refine zJv hv oh (by omega) (λx hx=>by have:=(hz.one x hx).1.len;omega) λt ht=>?_;simp only[Z3,seval,-ae];exact Gh.fin0 aq trivial (hk _ (ht.trans ⟨λe=>⟨ng,by rw[e]at hz;exact hz⟩,λh=>hz.unique s F (GC.sub F ng) h.2⟩))
end Go.Proofs
namespace Go.Proofs
open Go.Ab Go.Lie Go.Grp
variable{c:Nat}{p:Int}{W:L4}{B:L5}{O:L3}{P:L4}{C:L5}
def LGR(p:Int)(W:L4)(B:L5)(O:L3)(P:L4)(C:L5)(c:Int):Prop:=
 (CodeL p W B [] c/\c≠0/\O=[]/\P=[]/\C=[])\/(CodeL p W B [] 0/\c=0/\O=List.replicate W.length p/\P=lgPs p W.length W B W.length/\C=lgCs p W.length W B W.length)
theorem lg_bd{c:Int}(h:LGR p W B O P C c):SzP O P C:=by
 rcases h with ⟨_,_,rfl,rfl,rfl⟩|⟨h1,_,rfl,rfl,rfl⟩
 .exact⟨by simp,⟨by simp,λy hy=>by cases hy⟩,⟨by simp,λy hy=>by cases hy⟩⟩
 .have h6:=h1.zero.1.1.1.w.le;refine⟨by simp;omega,⟨by simp[lgPs];omega,λy hy=>?_⟩,⟨by simp[lgCs];omega,λq hq=>?_⟩⟩
  .obtain⟨i,_,rfl⟩:=List.mem_map.1 hy;rw[show(lgP p W.length W B i).length=W.length from QC _];omega
  .obtain⟨i,_,rfl⟩:=List.mem_map.1 hq;refine⟨by simp[lgR];omega,λy hy=>?_⟩;obtain⟨k,_,rfl⟩:=List.mem_map.1 hy;rw[show(lgC p W.length W B i k).length=W.length from QC _];omega
end Go.Proofs
namespace Go.Proofs
open Go.Ab Go.Lie Go.Grp
variable{U h:PHeap}{K:PV->PHeap->Prop}{p:Int}{c:Nat}{W:L4}{B:L5}{vP vB vU:PV}{u x:L4}{s:Nat}
abbrev RSub(p:Int)(W:L4)(B:L5)(u:L4):Prop:=zCR (rO p W.length) (lgPs p W.length W B W.length) (lgCs p W.length W B W.length) u
def SgR(p:Int)(W:L4)(B:L5)(u z:L4)(c:Int):Prop:=
 (CodeL p W B [] c/\c≠0/\z=[])\/(CodeL p W B [] 0/\¬RSub p W B u/\z=[]/\c=1)\/(CodeL p W B [] 0/\RSub p W B u/\Canon p W.length W (u.map λe=>ptG p W.length W B e W.length) z/\c=0)
theorem SgR.unique{z z':L4}{c c':Int}(h:SgR p W B u z c)(g:SgR p W B u z' c'):z=z'/\c=c':=by
 rcases h with ⟨h1,h2,h3⟩|⟨h1,h2,h3,h4⟩|⟨h1,h2,h3,h4⟩<;>rcases g with ⟨g1,g2,g3⟩|⟨g1,g2,g3,g4⟩|⟨g1,g2,g3,g4⟩
 .exact⟨by rw[h3,g3],h1.unique g1⟩
 .exact absurd (h1.unique g1) h2
 .exact absurd (h1.unique g1) h2
 .exact absurd (g1.unique h1) g2
 .exact⟨by rw[h3,g3],by rw[h4,g4]⟩
 .exact absurd g2 h2
 .exact absurd (g1.unique h1) g2
 .exact absurd h2 g2
 .exact⟨h3.unique h1.zero.1.1.1.w g3,by rw[h4,g4]⟩
theorem SgR.bd{z:L4}{c:Int}(h:SgR p W B u z c):SzL z:=by
 rcases h with ⟨h1,h2,rfl⟩|⟨h1,h2,rfl,h4⟩|⟨h1,h2,h3,h4⟩
 .exact⟨by simp,λx hx=>by cases hx⟩
 .exact⟨by simp,λx hx=>by cases hx⟩
 .have o:=h1.zero.1.1.1.w
  have:=h3.len
  have:=o.le
  exact⟨by omega,λx hx=>by have:=(h3.els x hx).1;omega⟩
theorem zPu(hR:IsR vP vB W B)(fM:SzR W B)(hU:FII vU u)(eW:SzL u)
  (hk:∀v z c,SgR p W B u z c->FII v z->K (.tup [v,.int .i64 c]) U):zA Tryz.prog 22 [.agg [.int .i64 p,vP,vB],vU] U K:=by
 have h1:=hR.P.one;have h2:=hR.B.one;refine zA.gh ?_;refine zB mix Tryz.func22 ?_
 conv=>arg 2;cbv
 refine zC rfl ?_;simp only[Z3,seval,-ae,h1,h2];have aq:Keep U (((U.new [.int .i64 p,vP,vB]).new []).kill (U.next+1)):=((zD U _).new _).kill (by omega);have iN:(((U.new [.int .i64 p,vP,vB]).new []).kill (U.next+1)).rd U.next 0 3=some [.int .i64 p,vP,vB]:=by
  have ob:(((U.new [.int .i64 p,vP,vB]).new []).kill (U.next+1)).obj U.next=some [.int .i64 p,vP,vB]:=by simp only[Z3,seval,-ae]
  rw[ZN ob];rfl
 have uY:U.next<(((U.new [.int .i64 p,vP,vB]).new []).kill (U.next+1)).next:=by show U.next<U.next+1+1;omega
 refine zA.frz (s:=U.next+1) (cs:=[]) (by simp only[Z3,seval,-ae]) trivial λo1=>?_;simp only[sbs,Go.Ab.sb,capOK,and_self,if_true,decide_true,vM,hR.P.sb,hR.B.sb];generalize ((U.new [.int .i64 p,vP,vB]).new []).kill (U.next+1)=H at *
 refine zLX (xs:=[]) hR fM ⟨true,_,[],rfl,All2.nil _⟩ ⟨by simp,λy hy=>by cases hy⟩ λc hc=>?_;by_cases eC:c=0;rotate_left
 .simp only[Z3,seval,-ae,eC];exact Gh.fin0 aq ⟨trivial,trivial,trivial⟩ (hk _ [] _ (.inl ⟨hc,eC,rfl⟩) ⟨true,.nils,[],rfl,All2.nil _⟩)
 subst eC;obtain⟨⟨hl,_⟩,hz⟩:=hc.zero;obtain⟨cc,lz⟩:=Lz.of hl hz;have o:=lz.r.o;have aW:=o.le;have g:=lg_LG lz;have c6:=eW.l;simp only[Z3,seval,-ae,iN];refine zJj lz hR λvO vQ vC f1 f2 f3=>?_;have cQ:IsPr vO vQ vC (rO p W.length) (lgPs p W.length W B W.length) (lgCs p W.length W B W.length):=⟨f1,f2,f3⟩;simp only[Z3,seval,-ae,iN];refine zO9 g cQ hU eW λt ht=>?_;cases t with
 |false=>
  simp only[Z3,seval,-ae];exact Gh.fin0 aq ⟨trivial,trivial,trivial⟩ (hk _ [] _ (.inr (.inl ⟨hc,λe=>(by have:=ht.2 e;cases this),rfl,rfl⟩)) ⟨true,.nils,[],rfl,All2.nil _⟩)
 |true=>
 have hu:=ht.1 rfl;have bh:∀e∈u,El p W.length e:=λe he=>(gS_el lz).1 (hu.1 e he);obtain⟨wu,au,ru,rfl,fG⟩:=hU;have hU:FII (.fz wu au u.length ru) u:=⟨wu,au,ru,rfl,fG⟩;have lU:∀{h:PHeap},Keep H h->h.rd U.next 0 3=some [.int .i64 p,vP,vB]:=λ{h} k=>by rw[k.rd uY];exact iN
 simp only[Z3,seval,-ae];refine zF (λm us h=>∃(i:Nat) (vL:PV) (rows:List PV),i<=u.length/\m=u.length-i/\us=[.fz wu au u.length ru,.ptr U.next 0,vL,.int .i64 i]/\Keep H h/\PSl H.next 1 h vL i rows/\All2 FI rows ((u.take i).map λe=>ptG p W.length W B e W.length)) u.length ?_ ?_
 .exact⟨0,_,[],by omega,by omega,rfl,zD _ _,PSl.new _ 1 rfl (vM _),by simpa using All2.nil _⟩
 rintro m us h ⟨i,vL,rows,hi,rfl,rfl,gI,ha,ar⟩
 have l3:=lU gI;simp only[Z3,seval,-ae];refine iteI (λag=>?_) λaF=>?_;rotate_left
 .have aJ:i=u.length:=by omega
  subst aJ;rw[List.take_length]at ar;have eL:Els p W.length (u.map λe=>ptG p W.length W B e W.length):=λx hx=>by
   obtain⟨e,_,rfl⟩:=List.mem_map.1 hx;exact pt_el lz e
  obtain⟨t,cap,rfl,nk,q2,q3,q4,q5⟩:=ha;simp only[Z3,seval,-ae,l3];refine zA.frz q2 (ar.bI 0) λo1=>?_;simp only[sbs,sb,nk.ok,and_self,if_true,hR.P.sb,hR.B.sb];refine zFa hR o lz.hp ⟨true,_,rows,by rw[List.length_map],ar⟩ eL (by rw[List.length_map];omega) λv' out c hO=>?_;simp only[Z3,seval,-ae];exact Gh.fin0 (aq.trans (gI.kill q4)) ⟨hO.bel _,trivial,trivial⟩ (hk v' out 0 (.inr (.inr ⟨hc,hu,c,rfl⟩)) hO)
 obtain⟨w4,a4,hr⟩:=fG.rowI ag;have vG:=bh _ (List.getElem_mem ag);simp only[Z3,seval,-ae,ag,hr,l3];refine zJi lz hR vG ⟨w4,a4,rfl⟩ λv2 f4=>?_;have y1:=f4.one;have y2:=f4.cells;simp only[Z3,seval,-ae,y1,y2,ag,hr,l3];refine PSl.push (bytes:=24) (σb:=H) gI ha (by omega) (by omega) λv' h3 k3 a3=>?_;simp only[Z3,seval,-ae,wrapS ag (by omega:u.length<=4611686018427387904)];refine⟨_,by omega,i+1,v',_,by omega,rfl,rfl,k3,a3,?_⟩;rw[List.take_succ_eq_append_getElem ag,List.map_append];exact ar.snoc f4
end Go.Proofs
namespace Go.Proofs
open Go.Ab Go.Lie Go.Grp
variable{U h:PHeap}{K:PV->PHeap->Prop}{p:Int}{c:Nat}{W:L4}{B:L5}{vP vB vU:PV}{u x:L4}{s:Nat}
theorem zIu(hR:IsR vP vB W B)(fM:SzR W B)(hU:FII vU u)(eW:SzL u)
  (hk:∀v z c t,SgR p W B u z c->FII v z->Own U.top t v->U.top<=t->K (.tup [v,.int .i64 c]) (U.up t)):zA Tryz.prog 23 [.agg [.int .i64 p,vP,vB],vU] U K:=by
 have h1:=hR.P.one;have h2:=hR.B.one;refine zA.gh ?_;refine zB mix Tryz.func23 ?_
 conv=>arg 2;cbv
 refine zC rfl ?_;simp only[Z3,seval,-ae,h1,h2];have aq:Keep U (U.new [.int .i64 p,vP,vB]):=zD U _;have hs:PtrR (U.new [.int .i64 p,vP,vB]) U.next p vP vB:=⟨by simp only[Z3,seval,-ae],Nat.lt_succ_self _⟩
 have iV:(U.new [.int .i64 p,vP,vB]).next=U.next+1:=rfl;generalize U.new [.int .i64 p,vP,vB]=T at *
 refine zHA (xs:=[]) hs hR fM ⟨true,.nils,[],rfl,All2.nil _⟩ ⟨by simp,λy hy=>by cases hy⟩ λc hc=>?_;by_cases eC:c=0;rotate_left
 .simp only[Z3,seval,-ae,eC];exact Gh.fin0T aq aq.top ⟨trivial,trivial,trivial⟩ λ_=>hk _ [] _ U.top (.inl ⟨hc,eC,rfl⟩) ⟨true,.nils,[],rfl,All2.nil _⟩ (Own.empty _ _ _ _ _) (vM _)
 subst eC;obtain⟨⟨hl,_⟩,hz⟩:=hc.zero;obtain⟨cc,lz⟩:=Lz.of hl hz;have o:=lz.r.o;have aW:=o.le;have g:=lg_LG lz;have c6:=eW.l;simp only[Z3,seval,-ae];refine zG9 lz hs hR λvO vQ vC t f1 f2 f3 ho ht=>?_;have cQ:IsPr vO vQ vC (rO p W.length) (lgPs p W.length W B W.length) (lgCs p W.length W B W.length):=⟨f1,f2,f3⟩;have yQ:=lg_bd (.inr ⟨hc,rfl,rfl,rfl,rfl⟩:LGR p W B (rO p W.length) (lgPs p W.length W B W.length) (lgCs p W.length W B W.length) 0);have k0:=cQ.O.one;have k1:=cQ.P.one;have k2:=cQ.C.one;simp only[Z3,seval,-ae,k0,k1,k2,hU.one,hU.cells];have cf:Keep U ((((T.new [vO,vQ,vC]).new [vU]).kill (T.next+1)).up t):=aq.trans ((((zD T _).new _).kill (by omega)).up ht);have gn:PtrR ((((T.new [vO,vQ,vC]).new [vU]).kill (T.next+1)).up t) U.next p vP vB:=hs.keep ((((zD T _).new _).kill (by omega)).up ht);have nX:PtrG ((((T.new [vO,vQ,vC]).new [vU]).kill (T.next+1)).up t) T.next vO vQ vC:=⟨by simp only[Z3,seval,-ae],by simp only[Z3,seval,-ae];omega⟩
 refine zA.frz (s:=T.next+1) (cs:=[vU]) (by simp only[Z3,seval,-ae]) ⟨hU.bel 0,trivial⟩ λo1=>?_;rw[show(((T.new [vO,vQ,vC]).new [vU]).up t).kill (T.next+1)=(((T.new [vO,vQ,vC]).new [vU]).kill (T.next+1)).up t from rfl];generalize (((T.new [vO,vQ,vC]).new [vU]).kill (T.next+1)).up t=H at *
 simp only[sbs,Go.Ab.sb,capOK,and_self,if_true,decide_true,vM];refine zFx g nX cQ yQ hU eW λt ht=>?_;cases t with
 |false=>
  simp only[Z3,seval,-ae];exact Gh.fin0T cf cf.top ⟨trivial,trivial,trivial⟩ λ_=>hk _ [] _ U.top (.inr (.inl ⟨hc,λe=>(by have:=ht.2 e;cases this),rfl,rfl⟩)) ⟨true,.nils,[],rfl,All2.nil _⟩ (Own.empty _ _ _ _ _) (vM _)
 |true=>
 have hu:=ht.1 rfl;have bh:∀e∈u,El p W.length e:=λe he=>(gS_el lz).1 (hu.1 e he);obtain⟨wu,au,ru,rfl,fG⟩:=hU;have hU:FII (.fz wu au u.length ru) u:=⟨wu,au,ru,rfl,fG⟩;simp only[Z3,seval,-ae];refine zF (λm us h=>∃(i:Nat) (vL:PV) (rows:List PV),i<=u.length/\m=u.length-i/\us=[.ptr U.next 0,vL,.fz wu au u.length ru,.int .i64 u.length,.int .i64 i]/\Keep H h/\PAcc H.next 1 h vL i rows/\All2 FI rows ((u.take i).map λe=>ptG p W.length W B e W.length)) u.length ?_ ?_
 .exact⟨0,_,[],by omega,by omega,rfl,Keep.refl _,PAcc.nil _ _ _,by simpa using All2.nil _⟩
 rintro m us h ⟨i,vL,rows,hi,rfl,rfl,gI,ha,ar⟩
 simp only[Z3,seval,-ae];refine iteI (λag=>?_) λaF=>?_;rotate_left
 .have aJ:i=u.length:=by omega
  subst aJ;rw[List.take_length]at ar;have eL:Els p W.length (u.map λe=>ptG p W.length W B e W.length):=λx hx=>by
   obtain⟨e,_,rfl⟩:=List.mem_map.1 hx;exact pt_el lz e
  have fin:∀{g:PHeap} {v:PV} {Q:PV->PHeap->Prop},Keep H g->FII v (u.map λe=>ptG p W.length W B e W.length)->(∀w t,g.top<=t->w.one=true->Gh U K (.tup [w,.int .i64 0]) (g.up t)->Q w (g.up t))->zA Tryz.prog 109 [.ptr U.next 0,v] g Q:=λ{g v Q} kg hv hQ=>
   zNL (gn.keep kg) hR.P o lz.hp hv eL (by rw[List.length_map];omega) λv' out t c hO ho ht=>hQ _ t ht hO.one (Gh.fin0T (Keep.up (cf.trans kg) ht) (vM _) ⟨hO.bel _,trivial,trivial⟩ λ_=>hk v' out 0 t (.inr (.inr ⟨hc,hu,c,rfl⟩)) hO (ho.mono (cf.trans kg).top (vM _)) (Nat.le_trans (cf.trans kg).top ht))
  rcases ha with ⟨rfl,h1,h2⟩|⟨t,cap,rfl,nk,q2,q3,q4,q5⟩
  .have wR:u=[]:=List.eq_nil_of_length_eq_zero h1;subst wR;simp only[Z3,seval,-ae];refine fin gI ⟨true,.nils,[],rfl,All2.nil _⟩ λw t ht mF hg=>?_;simp only[Z3,seval,-ae,mF];exact hg
  .have cA:=gn.lt;have ai:U.next≠t:=by omega
   simp only[Z3,seval,-ae];refine zA.frz q2 (ar.bI 0) λo1=>?_;simp only[sbs,sb,nk.ok,and_self,if_true,ai,false_and,if_false];refine fin (gI.kill q4) ⟨true,_,rows,by rw[List.length_map],ar⟩ λw t ht mF hg=>?_;simp only[Z3,seval,-ae,mF];exact hg
 obtain⟨w4,a4,hr⟩:=fG.rowI ag;have vG:=bh _ (List.getElem_mem ag);simp only[Z3,seval,-ae,ag,hr];refine zA.fzI (λK'=>zHC lz (gn.keep gI) hR vG ⟨w4,a4,rfl⟩) λa2=>?_;simp only[Z3,seval,-ae];refine PAcc.push (bytes:=24) gI ha (by omega) (by omega) λv' h3 k3 a3=>?_;simp only[Z3,seval,-ae,wrapS ag (by omega:u.length<=4611686018427387904)];refine⟨_,by omega,i+1,v',_,by omega,rfl,rfl,k3,a3.acc,?_⟩;rw[List.take_succ_eq_append_getElem ag,List.map_append];exact ar.snoc ⟨_,_,rfl⟩
end Go.Proofs
