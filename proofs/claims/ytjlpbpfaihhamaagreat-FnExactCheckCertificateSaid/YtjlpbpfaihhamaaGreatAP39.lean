/- . -/
import Derived.Test.YtjlpbpfaihhamaaGreatAAbPk
import Derived.Test.YtjlpbpfaihhamaaGreatAP33
open List renaming getElem?_eq_getElem→vX
open Nat renaming le_refl→vM
open Int renaming reduceNatCast'->ah
set_option maxRecDepth 100000
namespace Go.Grp
end Go.Grp
set_option linter.unusedSimpArgs false
set_option linter.unusedVariables false
namespace Go.Proofs
open Go.Ab Go.Lie Go.Grp
variable{σ:PHeap}{K:PV->PHeap->Prop}{O:List Int}{P:List (List Int)}{C:List (List (List Int))}{vO vP vC:PV}{x:List Int}{sp:Nat}
theorem zGd{k0:Nat}(s:Shp O P C)(hs:PtrG σ sp vO vP vC)(hO:FI vO O)(dh:k0<=1000000)(hk:K (.sl σ.next 0 O.length (.known O.length)) (σ.new (pis (dgs O O.length k0)))):zA Tryz.prog 149 [.ptr sp 0,.int .i64 k0] σ K:=by
 have bJ:=s.le;obtain⟨w0,a0,rfl⟩:=hO;have e0:∀{h:PHeap},Keep σ h->h.rd1 sp 0=some (.fz w0 a0 O.length (pis O)):=fun k=>by rw[zF (hs.keep k).obj];rfl
 have uy:=hs.lt;refine zB mix Tryz.func149 ?_;have ew:IntKind.i64.wrap ((O.length:Int)-1)=(O.length:Int)-1:=wrap64 (by omega) (by omega)
 simp only[Z3,seval,-ah,e0 (Keep.refl σ),mk8 (n:=O.length) (by omega),mkL (n:=O.length) (by omega),ew,List.length_replicate,zZ]
 refine zC (fun m vs h'=>∃(c kk:Nat) (out:List Int),c<=O.length∧m=c∧vs=[.ptr sp 0,.int .i64 kk,.sl σ.next 0 O.length (.known O.length),.int .i64 ((c:Int)-1)]∧h'=σ.new (pis out)∧out.length=O.length∧kk<=k0∧dgs O c kk++out.drop c=dgs O O.length k0) O.length ?_ ?_
 ·refine⟨O.length,k0,List.replicate O.length 0,vM _,rfl,rfl,?_,by simp,vM _,?_⟩
  ·first|rfl|simp[pis]
  rw[List.drop_of_length_le (by simp),List.append_nil]
 rintro m vs h' ⟨c,kk,out,ml,rfl,rfl,rfl,je,mc,hd⟩
 have kp:Keep σ (σ.new (pis out)):=zD _ _;rcases Nat.eq_zero_or_pos m with rfl|aF
 ·simp only[Z3,seval,-ah,show ¬((0:Int)<=((0:Nat):Int)-1) by omega]
  have he:out=dgs O O.length k0:=by simpa [dgs]using hd
  rw[he];exact hk
 ·obtain⟨c,rfl⟩:∃c,m=c+1:=⟨m-1,by omega⟩
  have e:((c+1:Nat):Int)-1=(c:Int):=by omega
  have oV:c<out.length:=by omega
  have ef:c<O.length:=by omega
  have jo:IntKind.i64.wrap ((c:Int)-1)=(c:Int)-1:=wrap64 (by omega) (by omega)
  rw[e];have hb:=s.pr c ef;have eF:=at_eq ef;obtain⟨q,hq⟩:∃q:Nat,at_ O c=(q:Int):=⟨(at_ O c).toNat,by omega⟩
  rw[hq]at hb
  rw[hq]at eF
  have yL:¬(q:Int)=0:=by omega
  have et:(kk:Int).tmod (q:Int)=((kk % q:Nat):Int):=rfl;have ed:(kk:Int).tdiv (q:Int)=((kk / q:Nat):Int):=rfl;have fY:kk / q<=kk:=Nat.div_le_self _ _;have lh:∀q:Nat,q<=kk->IntKind.i64.wrap (q:Int)=(q:Int):=fun q hq=>wrap64 (by omega) (by omega)
  have lh:=lh _ fY;have oR:c+1<=out.length:=oV;have cM:=zV oV (x:=((kk % q:Nat):Int));have dF:(pis O)[c]? = some (.int .i64 (q:Int)):=by rw[zG,vX ef,<-eF];rfl
  have mM:¬sp=σ.next:=by omega
  simp only[Z3,seval,-ah,e0 kp,e0 (zD σ (pis (out.set c ((kk % q:Nat):Int)))),yL,et,ed,lh,ef,dF,oR,zJ,cM,jo];refine⟨c,Nat.lt_succ_self c,c,kk / q,out.set c ((kk % q:Nat):Int),by omega,rfl,rfl,rfl,by rw[List.length_set];exact je,Nat.le_trans fY mc,?_⟩
  rw[<-hd,dgs,hq,Int.toNat_natCast,List.append_assoc]
  congr 1
  rw[List.drop_eq_getElem_cons (by rw[List.length_set];exact oV),List.getElem_set_self,List.drop_set_of_lt (by omega)]
  rfl
theorem zH6{k0:Nat}(bJ:O.length<=6)(cE:∀j,j<O.length->2<=at_ O j∧at_ O j<=7)(hR:IsPr vO vP vC O P C)(dh:k0<=1000000)(hk:∀v,FI v (dgs O O.length k0)->K v σ):zA Tryz.prog 122 [.agg [vO,vP,vC],.int .i64 k0] σ K:=by
 have h1:=hR.P.one;have h2:=hR.C.one;obtain⟨⟨w0,a0,rfl⟩,jH,jJ⟩:=hR;have one:∀{σ:PHeap} {K:PV->PHeap->Prop},(K (.sl σ.next 0 O.length (.known O.length)) (σ.new (pis (List.replicate O.length 0))))->zA Tryz.prog 107 [.agg [.fz w0 a0 O.length (pis O),vP,vC]] σ K:=fun {σ K} hk=>by
  refine zA.gh ?_;refine zB mix Tryz.func107 ?_;simp only[Z3,seval,-ah,h1,h2,mk8 (n:=O.length) (by omega),mkL (n:=O.length) (by omega),List.length_replicate,zZ]
  exact Gh.finS (s:=σ.next+1) ((zD σ _).new _) (by simp only[Z3,seval,-ah,zZ]) (by omega) (zK _ _) hk
 refine zA.gh ?_;refine zB mix Tryz.func122 ?_;simp only[Z3,seval,-ah,h1,h2];refine one ?_;have ew:IntKind.i64.wrap ((O.length:Int)-1)=(O.length:Int)-1:=wrap64 (by omega) (by omega)
 simp only[Z3,seval,-ah,ew];refine zC (fun m vs h'=>∃(c kk:Nat) (out:List Int),c<=O.length∧m=c∧vs=[.int .i64 kk,.ptr σ.next 0,.sl (σ.next+1) 0 O.length (.known O.length),.int .i64 ((c:Int)-1)]∧h'=(σ.new [.fz w0 a0 O.length (pis O),vP,vC]).new (pis out)∧out.length=O.length∧kk<=k0∧dgs O c kk++out.drop c=dgs O O.length k0) O.length ?_ ?_
 ·refine⟨O.length,k0,List.replicate O.length 0,vM _,rfl,rfl,rfl,by simp,vM _,?_⟩
  rw[List.drop_of_length_le (by simp),List.append_nil]
 rintro m vs h' ⟨c,kk,out,ml,rfl,rfl,rfl,je,mc,hd⟩
 rcases Nat.eq_zero_or_pos m with rfl|aF
 ·simp only[Z3,seval,-ah,show ¬((0:Int)<=((0:Nat):Int)-1) by omega]
  have he:out=dgs O O.length k0:=by simpa [dgs]using hd
  rw[<-he]at hk
  clear he hd;rw[<-je];exact Gh.finF (s:=σ.next+1) ((zD σ _).new _) (by simp only[Z3,seval,-ah]) (by omega) (zK _ _) (by simp[capOK]) fun o1=>hk _ ⟨_,_,rfl⟩
 ·obtain⟨c,rfl⟩:∃c,m=c+1:=⟨m-1,by omega⟩
  have e:((c+1:Nat):Int)-1=(c:Int):=by omega
  have oV:c<out.length:=by omega
  have ef:c<O.length:=by omega
  have jo:IntKind.i64.wrap ((c:Int)-1)=(c:Int)-1:=wrap64 (by omega) (by omega)
  rw[e];have hb:=cE c ef;have eF:=at_eq ef;obtain⟨q,hq⟩:∃q:Nat,at_ O c=(q:Int):=⟨(at_ O c).toNat,by omega⟩
  rw[hq]at hb
  rw[hq]at eF
  have yL:¬(q:Int)=0:=by omega
  have et:(kk:Int).tmod (q:Int)=((kk % q:Nat):Int):=rfl;have ed:(kk:Int).tdiv (q:Int)=((kk / q:Nat):Int):=rfl;have fY:kk / q<=kk:=Nat.div_le_self _ _;have lh:∀q:Nat,q<=kk->IntKind.i64.wrap (q:Int)=(q:Int):=fun q hq=>wrap64 (by omega) (by omega)
  have lh:=lh _ fY;have oR:c+1<=out.length:=oV;have cM:=zV oV (x:=((kk % q:Nat):Int));have dF:(pis O)[c]? = some (.int .i64 (q:Int)):=by rw[zG,vX ef,<-eF];rfl
  simp only[Z3,seval,-ah,yL,et,ed,lh,ef,dF,oR,zJ,cM,jo];refine⟨c,Nat.lt_succ_self c,c,kk / q,out.set c ((kk % q:Nat):Int),by omega,rfl,rfl,rfl,by rw[List.length_set];exact je,Nat.le_trans fY mc,?_⟩
  rw[<-hd,dgs,hq,Int.toNat_natCast,List.append_assoc]
  congr 1
  rw[List.drop_eq_getElem_cons (by rw[List.length_set];exact oV),List.getElem_set_self,List.drop_set_of_lt (by omega)]
  rfl
theorem zH7{k0:Nat}(s:Shp O P C)(hR:IsPr vO vP vC O P C)(dh:k0<=1000000)(hk:∀v,FI v (dgs O O.length k0)->K v σ):zA Tryz.prog 122 [.agg [vO,vP,vC],.int .i64 k0] σ K:=zH6 s.le s.pr hR dh hk
end Go.Proofs
namespace Go.Proofs
open Go.Ab Go.Lie Go.Grp
variable{O:List Int}{P:List (List Int)}{C:List (List (List Int))}
def nEl(O:List Int):Nat:=(ordF O O.length).toNat
theorem QH(s:Shp O P C):ordF O O.length=(nEl O:Int)∧1<=nEl O:=by
 have h1:=QW s.pr (i:=O.length) (vM _);unfold nEl;omega
end Go.Proofs
set_option linter.unusedSectionVars false
namespace Go.Grp
open Go.Ab Go.Lie
theorem zHv{x:List Int}:∀{c t:Nat},wf x t (c+1)=wf x t c++List.replicate (nx x (t+c)) (t+c)
 |0,t=>by simp[wf]
 |c+1,t=>by
  rw[wf,zHv (c:=c) (t:=t+1),wf,List.append_assoc,show t+1+c=t+(c+1) by omega]
theorem Z6{O x:List Int}(hl:x.length=O.length):Mx.nw x=(nword O x).map fun(a:Nat)=>(a:Int)+1:=by
 have key:∀i,Mx.nword x i=(wf x 0 i).map fun(a:Nat)=>(a:Int)+1:=by
  intro i
  induction i with
  |zero=>rfl
  |succ i ih=>rw[Mx.nword,ih,zHv,List.map_append,List.map_replicate,Nat.zero_add]
 show Mx.nword x x.length=_;rw[hl];exact key _
end Go.Grp
namespace Go.Proofs
open Go.Ab Go.Lie Go.Grp
variable{O x y:List Int}{P:List (List Int)}{C:List (List (List Int))}{i j k t:Nat}{w:List Int}
theorem zBb:∀{c:Nat},(∀j,j<c->at_ x j=at_ y j)->numF O x c=numF O y c
 |0,_=>rfl
 |c+1,h=>by rw[numF,numF,zBb fun j hj=>h j (by omega),h c (by omega)]
theorem zGE(h:∀j,j<O.length->2<=at_ O j∧at_ O j<=7):∀{c k:Nat},c<=O.length->(k:Int)<ordF O c->numF O (dgs O c k) c=k
 |0,k,_,hk=>by simp only[ordF]at hk;simp only[numF];omega
 |c+1,k,hc,hk=>by
  have hb:=h c (by omega)
  have h0:=(QW h (i:=c) (by omega)).1
  obtain⟨o,ho⟩:∃o:Nat,at_ O c=o:=⟨(at_ O c).toNat,by omega⟩
  have dC:((k / o:Nat):Int)<ordF O c:=by
   rw[ordF,ho]at hk
   obtain⟨q,hq⟩:∃q:Nat,ordF O c=q:=⟨(ordF O c).toNat,by omega⟩
   rw[hq]at hk ⊢
   have:k<q*o:=by exact_mod_cast hk
   exact_mod_cast (Nat.div_lt_iff_lt_mul (by omega)).2 this
  have ih:=zGE h (c:=c) (k:=k / o) (by omega) dC
  rw[numF,dgs,ho,Int.toNat_natCast];have e1:numF O (dgs O c (k / o)++[((k % o:Nat):Int)]) c=((k / o:Nat):Int):=by
   rw[<-ih];exact zBb fun j hj=>by rw[zAc,ZK,if_pos hj]
  have e2:at_ (dgs O c (k / o)++[((k % o:Nat):Int)]) c=((k % o:Nat):Int):=by
   rw[zAc,ZK,if_neg (by omega),Nat.sub_self];rfl
  rw[e1,e2]
  have:=Nat.div_add_mod k o
  rw[Nat.mul_comm]at this
  exact_mod_cast this
theorem zNN(s:Shp O P C)(hx:gS O x):(numF O x O.length).toNat<nEl O∧(((numF O x O.length).toNat:Nat):Int)=numF O x O.length:=by
 have h:=zAA s.pr (fun j hj=>hx.bd j hj) (i:=O.length) (vM _)
 have:=QH s
 omega
theorem zNO(s:Shp O P C)(ht:t<nEl O):numF O (dgs O O.length t) O.length=t:=zGE s.pr (vM _) (by have:=QH s;omega)
theorem zKX(s:Shp O P C)(hx:gS O x):dgs O O.length (numF O x O.length).toNat=x:=by
 have h:=zNN s hx;refine zLe s (zKZ s _) hx ?_;rw[zNO s h.1,h.2]
noncomputable def ac(O:List Int)(P:List (List Int))(C:List (List (List Int)))(x:List Int)(l:Int):List Int:=
 if l<0 then gm O P C x (ginv (gS O) (gm O P C) (zv O) (Grp.unit O ((-l).toNat-1)))else gm O P C x (Grp.unit O (l.toNat-1))
noncomputable def acW(O:List Int)(P:List (List Int))(C:List (List (List Int)))(x w:List Int):List Int:=w.foldl (ac O P C) x
def Lts(n:Nat)(w:List Int):Prop:=∀l∈w,l≠0∧-(n:Int)<=l∧l<=(n:Int)
def Lps(n:Nat)(w:List Int):Prop:=∀l∈w,1<=l∧l<=(n:Int)
def winv(w:List Int):List Int:=(w.map fun l=>-l).reverse
theorem Qn{c:List Int}(hc:TT O t c)(ht:t<=O.length):Lps O.length (Mx.nw c):=fun l hl=>by
 rw[Z6 hc.len]at hl
 obtain⟨a,ha,rfl⟩:=List.mem_map.1 hl
 have:=zDT hc ht a ha
 omega
def relW(O:List Int)(P:List (List Int))(i:Nat):List Int:=List.replicate (nx O i) ((i:Int)+1)++winv (Mx.nw (pvec P i))
def conW(C:List (List (List Int)))(i k:Nat):List Int:=[-((i:Int)+1),((i+k:Nat):Int)+2,(i:Int)+1]++winv (Mx.nw (cvec C i (i+(1+k))))
theorem zK2(s:Shp O P C)(hi:i<O.length):Lts O.length (relW O P i):=fun l hl=>by
 rcases List.mem_append.1 hl with h|h
 ·rw[List.eq_of_mem_replicate h];omega
 ·unfold winv at h
  rw[List.mem_reverse]at h
  obtain⟨a,ha,rfl⟩:=List.mem_map.1 h
  have:=Qn (s.pw i hi) (by omega) a ha
  omega
theorem zLv(s:Shp O P C)(hi:i+(1+k)<O.length):Lts O.length (conW C i k):=fun l hl=>by
 rcases List.mem_append.1 hl with h|h
 ·simp only[List.mem_cons,List.not_mem_nil,or_false]at h;omega
 ·unfold winv at h
  rw[List.mem_reverse]at h
  obtain⟨a,ha,rfl⟩:=List.mem_map.1 h
  have:=Qn (s.cj i (i+(1+k)) (by omega) hi) (by omega) a ha
  omega
end Go.Proofs
namespace Go.Proofs
open Go.Ab Go.Lie Go.Grp
variable{σ h:PHeap}{K:PV->PHeap->Prop}{x:List Int}{vw v:PV}{t:Nat}{w:List Int}
def rvx(x:List Int)(i:Nat):List Int:=(List.range x.length).map fun j=>if j<i∨x.length<=j+i then x.getD (x.length-1-j) 0 else x.getD j 0
theorem ZP(i:Nat):(rvx x i).length=x.length:=by simp[rvx]
theorem Q9{i j:Nat}(hj:j<x.length):(rvx x i)[j]? = some (if j<i∨x.length<=j+i then x.getD (x.length-1-j) 0 else x.getD j 0):=by
 unfold rvx;rw[List.getElem?_map,List.getElem?_range hj];rfl
theorem zKx:rvx x 0=x:=by
 refine List.ext_getElem? fun j=>?_
 rcases Nat.lt_or_ge j x.length with h|h
 ·rw[Q9 h,if_neg (by omega),List.getD_eq_getElem?_getD,vX h];rfl
 ·rw[List.getElem?_eq_none (by rw[ZP];exact h),List.getElem?_eq_none h]
theorem zME{i:Nat}(h:x.length<=2*i+1):rvx x i=x.reverse:=by
 refine List.ext_getElem? fun j=>?_
 rcases Nat.lt_or_ge j x.length with h1|h1
 ·rw[Q9 h1,List.getElem?_reverse h1,vX (by omega)]
  congr 1
  split
  ·rw[List.getD_eq_getElem?_getD,vX (by omega)];rfl
  ·have e:x.length-1-j=j:=by omega
   simp only[e];rw[List.getD_eq_getElem?_getD,vX h1];rfl
 ·rw[List.getElem?_eq_none (by rw[ZP];exact h1),List.getElem?_eq_none (by rw[List.length_reverse];exact h1)]
theorem zKy{i:Nat}(h:2*i+1<x.length):((rvx x i).set i (x.getD (x.length-1-i) 0)).set (x.length-1-i) (x.getD i 0)=rvx x (i+1):=by
 refine List.ext_getElem? fun j=>?_
 rcases Nat.lt_or_ge j x.length with h1|h1
 ·rw[Q9 h1,List.getElem?_set,List.getElem?_set,List.length_set,ZP]
  by_cases e1:x.length-1-i=j
  ·subst e1
   rw[if_pos rfl,if_pos h1,if_pos (by omega),show x.length-1-(x.length-1-i)=i by omega]
  ·rw[if_neg e1]
   by_cases e2:i=j
   ·subst e2
    rw[if_pos rfl,if_pos h1,if_pos (by omega)]
   ·rw[if_neg e2,Q9 h1]
    congr 1
    by_cases e3:j<i∨x.length<=j+i
    ·rw[if_pos e3,if_pos (by omega)]
    ·rw[if_neg e3,if_neg (by omega)]
 ·rw[List.getElem?_eq_none (by simp[ZP];exact h1),List.getElem?_eq_none (by rw[ZP];exact h1)]
theorem zJM{s n:Nat}{cap:Cap}(hs:σ.obj s=some (pis x))(hn:n=x.length)(hb:x.length<=1000)(hk:K (.tup []) (σ.set s (pis x.reverse))):zA Tryz.prog 210 [.sl s 0 n cap] σ K:=by
 subst hn;have wl:IntKind.i64.wrap ((x.length:Int)-1)=(x.length:Int)-1:=wrap64 (by omega) (by omega)
 refine zB mix Tryz.func210 ?_;simp only[Z3,seval,-ah,wl];refine zC (fun m vs h'=>∃i:Nat,2*i<=x.length+1∧m=x.length-i∧vs=[.sl s 0 x.length cap,.int .i64 i,.int .i64 ((x.length:Int)-1-(i:Int))]∧h'=σ.set s (pis (rvx x i))) x.length ?_ ?_
 ·exact⟨0,by omega,by omega,by rw[show((x.length:Int)-1-((0:Nat):Int))=(x.length:Int)-1 by omega];rfl,by rw[zKx,q8 hs]⟩
 rintro m vs h' ⟨i,hi,rfl,rfl,rfl⟩
 by_cases ai:2*i+1<x.length
 rotate_left
 ·have hc:¬(i:Int)<(x.length:Int)-1-(i:Int):=by omega
  rw[zME (by omega)]
  simp only[Z3,seval,-ah,hc];exact hk
 have hc:(i:Int)<(x.length:Int)-1-(i:Int):=by omega
 have ej:(x.length:Int)-1-(i:Int)=((x.length-1-i:Nat):Int):=by omega
 have cD:i<x.length:=by omega
 have fX:x.length-1-i<x.length:=by omega
 have y5:(pis (rvx x i))[i]? = some (.int .i64 (x.getD i 0)):=by rw[zG,Q9 cD,if_neg (by omega)];rfl
 have y4:(pis (rvx x i))[x.length-1-i]? = some (.int .i64 (x.getD (x.length-1-i) 0)):=by rw[zG,Q9 fX,if_neg (by omega)];rfl
 have ji:i+1<=(rvx x i).length:=by rw[ZP];omega
 have fF:x.length-1-i+1<=(rvx x i).length:=by rw[ZP];omega
 have wi:IntKind.i64.wrap ((i:Int)+1)=((i+1:Nat):Int):=wrapS cD (by omega)
 have wj:IntKind.i64.wrap (((x.length-1-i:Nat):Int)-1)=(x.length:Int)-1-((i+1:Nat):Int):=by rw[wrap64 (by omega) (by omega)];omega
 rw[ej]at hc ⊢
 have bh:((x.length-1-i:Nat):Int)<(x.length:Int):=by omega
 have bp:(i:Int)<(x.length:Int):=by omega
 have hA:List.take i (pis (rvx x i))++[PV.int .i64 (x.getD (x.length-1-i) 0)]++List.drop (i+1) (pis (rvx x i))=pis ((rvx x i).set i (x.getD (x.length-1-i) 0)):=zV (by rw[ZP];exact cD)
 have hB:List.take (x.length-1-i) (pis ((rvx x i).set i (x.getD (x.length-1-i) 0)))++[PV.int .i64 (x.getD i 0)]++List.drop (x.length-1-i+1) (pis ((rvx x i).set i (x.getD (x.length-1-i) 0)))=pis (rvx x (i+1)):=by
  rw[zV (by rw[List.length_set,ZP];exact fX),zKy ai]
 have mb:x.length-1-i+1<=((rvx x i).set i (x.getD (x.length-1-i) 0)).length:=by rw[List.length_set,ZP];omega
 simp only[Z3,seval,-ah,hc,cD,fX,bh,bp,y5,y4,ji,fF,mb,hA,hB,zJ,wi,wj,zL,zN];exact⟨_,by omega,i+1,by omega,rfl,rfl,rfl⟩
theorem zHr(hk:K (.tup []) σ):zA Tryz.prog 210 [.fz true .nils 0 []] σ K:=by
 have wl:IntKind.i64.wrap (((0:Nat):Int)-1)=-1:=rfl;have BL:IntKind.i64.wrap ((0:Int)-1)=-1:=rfl;have n0:¬(0:Int) < -1:=by decide
 refine zB mix Tryz.func210 ?_;simp only[Z3,seval,-ah,wl,BL];refine zC (fun m vs h'=>vs=[.fz true .nils 0 [],.int .i64 0,.int .i64 (-1)]∧h'=σ) 0 ⟨rfl,rfl⟩ ?_
 rintro m vs h' ⟨rfl,rfl⟩
 simp only[Z3,seval,-ah,n0];exact hk
theorem zBt(hl:w.length<=900)(hb:∀l∈w,-1000<=l∧l<=1000)(hv:FI vw w)(hk:∀v,FI v (winv w)->K v σ):zA Tryz.prog 170 [vw] σ K:=by
 obtain⟨w0,a0,rfl⟩:=hv;refine zA.gh ?_;refine zB mix Tryz.func170 ?_;simp only[Z3,seval,-ah];refine zC (fun m vs h'=>∃(i:Nat) (vL:PV),i<=w.length∧m=w.length-i∧vs=[vL,.fz w0 a0 w.length (pis w),.int .i64 w.length,.int .i64 i]∧Keep σ h'∧PAcc σ.next 1 h' vL i (pis ((w.take i).map fun l=>-l))) w.length ?_ ?_
 ·exact⟨0,_,by omega,by omega,rfl,Keep.refl σ,PAcc.nil _ _ _⟩
 rintro m vs h' ⟨i,vL,hi,rfl,rfl,aq,ha⟩
 simp only[Z3,seval,-ah];refine iteI (fun ai=>?_) fun aE=>?_
 ·have b1:=hb _ (List.getElem_mem ai)
  have wn:IntKind.i64.wrap (0-w[i])=-w[i]:=by rw[wrap64 (by omega) (by omega)];omega
  simp only[Z3,seval,-ah,ai,gi ai,zG,wn];refine PAcc.push (bytes:=8) aq ha (by omega) (by omega) fun v' h2 k2 a2=>?_
  simp only[Z3,seval,-ah,wrapS ai (by omega:w.length<=4611686018427387904)]
  refine⟨_,by omega,i+1,v',by omega,rfl,rfl,k2,?_⟩
  rw[List.take_succ_eq_append_getElem ai,List.map_append,<-Zm];exact a2.acc
 have bn:i=w.length:=by omega
 subst bn;rw[List.take_length]at ha
 rcases ha with ⟨rfl,h1,h2⟩|⟨t,cap,rfl,Dv,q2,q3,q4,q5⟩
 ·have h0:w=[]:=List.eq_nil_of_length_eq_zero h1
  subst h0;simp only[Z3,seval,-ah];refine zHr ?_;simp only[Z3,seval,-ah];exact Gh.fin0 aq trivial (hk _ ⟨_,_,rfl⟩)
 ·simp only[Z3,seval,-ah]
  refine zJM q2 (by rw[List.length_map]) (by rw[List.length_map];omega) ?_
  simp only[Z3,seval,-ah];have e:(List.map (fun l=>-l) w).reverse.length=w.length:=by simp
  exact Gh.finF (s:=t) (aq.set q4 _) (by rw[zg,if_pos rfl]) q4 (zK _ _) Dv.ok fun o=>hk _ ⟨true,.sl o 0 w.length cap,by unfold winv;rw[e]⟩
end Go.Proofs
namespace Go.Proofs
open Go.Ab Go.Lie Go.Grp
variable{σ h:PHeap}{K:PV->PHeap->Prop}{x y:List Int}{L L':List PV}{va vb vf v:PV}{s n a b i j:Nat}{cap:Cap}
def CellR(L:List PV):Prop:=∀c∈L,∃x:List Int,FI c x∧x.length<=1000
theorem CellR.perm(h:CellR L)(p:L'.Perm L):CellR L':=fun c hc=>h c (p.mem_iff.1 hc)
theorem CellR.get(h:CellR L)(hi:i<L.length):∃x:List Int,FI L[i] x∧x.length<=1000:=h _ (List.getElem_mem hi)
theorem CellR.one(h:CellR L)(hi:i<L.length):(L[i]).cells=[L[i]]∧(L[i]).one=true:=by
 obtain⟨x,hx,_⟩:=h.get hi;obtain⟨w,o,e⟩:=hx;rw[e];exact⟨rfl,rfl⟩
theorem zA6{v:PV}(hi:i<L.length):List.take i L++[v]++List.drop (i+1) L=L.set i v:=by
 rw[List.set_eq_take_append_cons_drop,if_pos hi];simp
def swp(L:List PV)(i j:Nat):List PV:=(L.set i (L.getD j .undef)).set j (L.getD i .undef)
theorem qA(hi:i<L.length)(hj:j<L.length):(swp L i j).Perm L:=by
 unfold swp;rw[List.getD_eq_getElem?_getD,List.getD_eq_getElem?_getD,vX hi,vX hj];exact List.set_set_perm hi hj
theorem pgetD(hi:i<L.length):L[i]? = some (L.getD i .undef):=by
 rw[List.getD_eq_getElem?_getD,vX hi];rfl
theorem CellR.oneD(h:CellR L)(hi:i<L.length):(L.getD i .undef).cells=[L.getD i .undef]∧(L.getD i .undef).one=true∧∃x,FI (L.getD i .undef) x∧x.length<=1000:=by
 have e:L.getD i .undef=L[i]:=by rw[List.getD_eq_getElem?_getD,vX hi];rfl
 rw[e];exact⟨(h.one hi).1,(h.one hi).2,h.get hi⟩
theorem zGQ{k:Int}(hk:K (.bool false) σ):zA Tryz.prog 229 [.int .i64 k] σ K:=by
 refine zB mix Tryz.func229 ?_;simp only[Z3,seval,-ah];exact hk
theorem zMv{k l:Int}(hk:∀c:Int,K (.int .i64 c) σ):zA Tryz.prog 200 [.int .i64 k,.int .i64 l] σ K:=by
 refine zB mix Tryz.func200 ?_;simp only[Z3,seval,-ah];refine zGQ ?_;simp only[Z3,seval,-ah];refine zGQ ?_;simp only[Z3,seval,-ah]
 repeat' split
 all_goals exact hk _
theorem qU(ha:FI va x)(hb:FI vb y)(hx:x.length<=1000)(hy:y.length<=1000)(hk:∀c:Int,K (.int .i64 c) σ):zA Tryz.prog 201 [va,vb] σ K:=by
 obtain⟨wa,aa,rfl⟩:=ha;obtain⟨wb,ab,rfl⟩:=hb;refine zB mix Tryz.func201 ?_;simp only[Z3,seval,-ah];refine zC (fun m vs h'=>∃i:Nat,i<=x.length∧m=x.length-i∧vs=[.fz wa aa x.length (pis x),.fz wb ab y.length (pis y),.fz wa aa x.length (pis x),.int .i64 x.length,.int .i64 i]∧h'=σ) x.length ?_ ?_
 ·exact⟨0,by omega,by omega,rfl,rfl⟩
 rintro m vs h' ⟨i,hi,rfl,rfl,rfl⟩
 simp only[Z3,seval,-ah];refine iteI (fun ai=>?_) fun aE=>?_
 ·have cD:i<x.length:=by omega
  have wi:IntKind.i64.wrap ((i:Int)+1)=((i+1:Nat):Int):=wrapS cD (by omega)
  have gx:(pis x)[i]? = some (.int .i64 x[i]):=by rw[zG,vX cD];rfl
  simp only[Z3,seval,-ah,gx,cD];refine iteI (fun ES=>?_) fun EI=>?_
  ·exact hk _
  have fX:i<y.length:=by omega
  have gy:(pis y)[i]? = some (.int .i64 y[i]):=by rw[zG,vX fX];rfl
  simp only[Z3,seval,-ah,gy,fX];refine zMv fun c=>?_
  simp only[Z3,seval,-ah,wi];refine iteI (fun hc=>?_) fun hc=>?_
  ·exact⟨_,by omega,i+1,by omega,rfl,rfl⟩
  ·exact hk _
 ·repeat' split
  all_goals exact hk _
theorem zG1(hs:σ.obj s=some L)(hn:n=L.length)(hL:L.length<=1000)(hc:CellR L)(gf:a<b)(hb:b<=n)(hk:∀L',L'.Perm L->K (.tup []) (σ.set s L')):
  zA Tryz.prog 248 [.sl s 0 n cap,.int .i64 a,.int .i64 b,vf] σ K:=by
 subst hn;have wb:IntKind.i64.wrap ((b:Int)-1)=((b-1:Nat):Int):=by rw[wrap64 (by omega) (by omega)];omega
 refine zB mix Tryz.func248 ?_;simp only[Z3,seval,-ah,wb];refine zC (fun m vs h'=>∃(i j:Nat) (L':List PV),L'.Perm L∧i<=L.length∧j<L.length∧m=j-i∧vs=[.sl s 0 L.length cap,.int .i64 i,.int .i64 j]∧h'=σ.set s L') (b-1-a) ?_ ?_
 ·exact⟨a,b-1,L,.refl _,by omega,by omega,rfl,rfl,by rw[q8 hs]⟩
 rintro m vs h' ⟨i,j,L',hp,hi,hj,rfl,rfl,rfl⟩
 have hl:=hp.length_eq
 by_cases ai:i<j
 rotate_left
 ·have hc:¬(i:Int)<(j:Int):=by omega
  simp only[Z3,seval,-ah,hc];exact hk _ hp
 have jF:(i:Int)<(j:Int):=by omega
 have bh:(j:Int)<(L.length:Int):=by omega
 have bp:(i:Int)<(L.length:Int):=by omega
 have wi:IntKind.i64.wrap ((i:Int)+1)=((i+1:Nat):Int):=wrapS (show i<1000 by omega) (by omega)
 have wj:IntKind.i64.wrap ((j:Int)-1)=((j-1:Nat):Int):=by rw[wrap64 (by omega) (by omega)];omega
 have cD:i<L'.length:=by omega
 have fX:j<L'.length:=by omega
 have y5:=pgetD cD;have y4:=pgetD fX;obtain⟨ci,oi,_⟩:=(hc.perm hp).oneD cD;obtain⟨cj,oj,_⟩:=(hc.perm hp).oneD fX;have hA:List.take i L'++[L'.getD j .undef]++List.drop (i+1) L'=L'.set i (L'.getD j .undef):=zA6 cD;have hB:List.take j (L'.set i (L'.getD j .undef))++[L'.getD i .undef]++List.drop (j+1) (L'.set i (L'.getD j .undef))=swp L' i j:=zA6 (by rw[List.length_set];exact fX)
 have fF:j+1<=(L'.set i (L'.getD j .undef)).length:=by rw[List.length_set];omega
 generalize hu:L'.getD i .undef=u at *
 generalize hw:L'.getD j .undef=w at *
 simp only[Z3,seval,-ah,jF,bh,bp,y5,y4,hA,hB,ci,oi,cj,oj,fF,Nat.succ_le_of_lt cD,wi,wj];refine⟨_,?_,i+1,j-1,swp L' i j,(qA cD fX).trans hp,by omega,by omega,rfl,rfl,rfl⟩
 omega
end Go.Proofs
namespace Go.Proofs
open Go.Ab Go.Lie Go.Grp
variable{σ h:PHeap}{K:PV->PHeap->Prop}{x:List Int}{L L':List PV}{s n a b i j:Nat}{cap:Cap}
abbrev cmpV:PV:=.clo 201 [] []
theorem inb{i n:Nat}(h:i<n):((i:Int)<(n:Int))∧(0:Int)<=(i:Int):=⟨by omega,by omega⟩
theorem zQ(hc:CellR L)(hi:i<L.length)(hj:j<L.length):∃u w,L[i]? = some u∧L[j]? = some w∧u.cells=[u]∧u.one=true∧w.cells=[w]∧w.one=true∧i+1<=L.length∧
  (L.take i++[w]++L.drop (i+1)=L.set i w)∧j+1<=(L.set i w).length∧((L.set i w).take j++[u]++(L.set i w).drop (j+1)=swp L i j)∧(∃x,FI u x∧x.length<=1000)∧(∃x,FI w x∧x.length<=1000):=by
 obtain⟨ci,oi,fi⟩:=hc.oneD hi;obtain⟨cj,oj,fj⟩:=hc.oneD hj;exact⟨_,_,pgetD hi,pgetD hj,ci,oi,cj,oj,hi,zA6 hi,by rw[List.length_set];exact hj,zA6 (by rw[List.length_set];exact hj),fi,fj⟩
theorem zAR:okF Tryz.prog 201=true:=by kernel_rfl
theorem zAk(s:Nat)(cs:List PV):(σ.set s cs).obj s=some cs:=by rw[zg,if_pos rfl]
theorem zI6(hs:σ.obj s=some L)(hn:n=L.length)(hL:L.length<=1000)(hc:CellR L)(gf:a<=b)(hb:b<=n)(hk:∀L',L'.Perm L->K (.tup []) (σ.set s L')):
  zA Tryz.prog 244 [.sl s 0 n cap,.int .i64 a,.int .i64 b,cmpV] σ K:=by
 subst hn;have wa:IntKind.i64.wrap ((a:Int)+1)=((a+1:Nat):Int):=wrapS (show a<1001 by omega) (by omega)
 refine zB mix Tryz.func244 ?_;simp only[Z3,seval,-ah,wa];refine zC (fun m vs h'=>∃(i:Nat) (L':List PV),L'.Perm L∧a+1<=i∧i<=b+1∧m=b+1-i∧vs=[.sl s 0 L.length cap,.int .i64 a,.int .i64 b,cmpV,.int .i64 i]∧h'=σ.set s L') (b-a) ?_ ?_
 ·exact⟨a+1,L,.refl _,by omega,by omega,by omega,rfl,by rw[q8 hs]⟩
 rintro m vs h' ⟨i,L1,aM,hi,ym,rfl,rfl,rfl⟩
 by_cases ai:i<b
 rotate_left
 ·have hc:¬(i:Int)<(b:Int):=by omega
  simp only[Z3,seval,-ah,hc];exact hk _ aM
 have jF:(i:Int)<(b:Int):=by omega
 have wi:IntKind.i64.wrap ((i:Int)+1)=((i+1:Nat):Int):=wrapS (show i<1000 by omega) (by omega)
 simp only[Z3,seval,-ah,jF];refine zC (fun m vs h'=>∃(j:Nat) (L':List PV),L'.Perm L∧j<=i∧m=j∧vs=[.sl s 0 L.length cap,.int .i64 a,.int .i64 b,cmpV,.int .i64 i,.int .i64 j]∧h'=σ.set s L') i ?_ ?_
 ·exact⟨i,L1,aM,by omega,rfl,rfl,rfl⟩
 rintro j vs h' ⟨_,L2,bD,hj,rfl,rfl,rfl⟩
 have hl:=bD.length_eq
 by_cases yf:a<j
 rotate_left
 ·simp only[Z3,seval,-ah,yf,wi]
  exact⟨_,by omega,i+1,L2,bD,by omega,by omega,rfl,rfl,rfl⟩
 have wj:IntKind.i64.wrap ((j:Int)-1)=((j-1:Nat):Int):=by rw[wrap64 (by omega) (by omega)];omega
 obtain⟨u,w,gu,gw,cu,ou,cw,ow,e1,e2,e3,e4,fu,fw⟩:=zQ (hc.perm bD) (show j<L2.length by omega) (show j-1<L2.length by omega)
 obtain⟨xu,fu,lu⟩:=fu;obtain⟨xw,fw,dT⟩:=fw;have bh:=inb (show j<L.length by omega)
 have A3:=inb (show j-1<L.length by omega)
 have fT:=(qA (L:=L2) (show j<L2.length by omega) (show j-1<L2.length by omega)).trans bD
 simp only[Z3,seval,-ah,yf,bh,A3,gu,gw,wj];refine⟨zAR,qU fu fw lu dT fun c=>?_⟩
 simp only[Z3,seval,-ah,yf,bh,A3,gu,gw,wj,cu,ou,cw,ow,e1,e2,e3,e4,wi];refine iteI (fun cL=>?_) fun cL=>?_
 ·exact⟨_,by omega,j-1,_,fT,by omega,rfl,rfl,rfl⟩
 ·exact⟨_,by omega,i+1,L2,bD,by omega,by omega,rfl,rfl,rfl⟩
end Go.Proofs
namespace Go.Proofs
open Go.Ab Go.Lie Go.Grp
variable{σ:PHeap}{K:PV->PHeap->Prop}{L L':List PV}{s n a b i lo hi fi:Nat}{cap:Cap}
theorem zC1(hs:σ.obj s=some L)(hn:n=L.length)(hL:L.length<=1000)(hc:CellR L)(uG:lo<=hi)(hb:fi+hi<=n)(hk:∀L',L'.Perm L->K (.tup []) (σ.set s L')):
  zA Tryz.prog 252 [.sl s 0 n cap,.int .i64 lo,.int .i64 hi,.int .i64 fi,cmpV] σ K:=by
 subst hn;refine qB mix Tryz.func252 ?_;simp only[Z3,seval,-ah];refine zC (fun m vs h'=>∃(r:Nat) (L':List PV),L'.Perm L∧r<=hi∧m=hi+1-r∧vs=[.sl s 0 L.length cap,.int .i64 hi,.int .i64 fi,cmpV,.int .i64 r]∧h'=σ.set s L') (hi+1-lo) ?_ ?_
 ·exact⟨lo,L,.refl _,by omega,by omega,rfl,by rw[q8 hs]⟩
 rintro m vs h' ⟨r,L1,aM,hr,rfl,rfl,rfl⟩
 have hl:=aM.length_eq;have w1:IntKind.i64.wrap (2*(r:Int))=((2*r:Nat):Int):=by rw[wrap64 (by omega) (by omega)];omega
 have w2:IntKind.i64.wrap (((2*r:Nat):Int)+1)=((2*r+1:Nat):Int):=wrapS (show 2*r<10000 by omega) (by omega)
 by_cases EX:2*r+1<hi
 rotate_left
 ·have g1:hi<=2*r+1:=by omega
  simp only[Z3,seval,-ah,w1,w2,g1];exact hk _ aM
 have g1:¬hi<=2*r+1:=by omega
 have w3:IntKind.i64.wrap (((2*r+1:Nat):Int)+1)=((2*r+2:Nat):Int):=wrapS (show 2*r+1<10000 by omega) (by omega)
 have w4:IntKind.i64.wrap ((fi:Int)+((2*r+1:Nat):Int))=((fi+(2*r+1):Nat):Int):=by rw[wrap64 (by omega) (by omega)];omega
 have w5:IntKind.i64.wrap (((fi+(2*r+1):Nat):Int)+1)=((fi+(2*r+2):Nat):Int):=by rw[wrap64 (by omega) (by omega)];omega
 have w6:IntKind.i64.wrap ((fi:Int)+(r:Int))=((fi+r:Nat):Int):=by rw[wrap64 (by omega) (by omega)];omega
 have w7:IntKind.i64.wrap ((fi:Int)+((2*r+2:Nat):Int))=((fi+(2*r+2):Nat):Int):=by rw[wrap64 (by omega) (by omega)];omega
 have dV:=zAR
 by_cases mn:2*r+2<hi
 ·obtain⟨u,w,gu,gw,_,_,_,_,_,_,_,_,⟨xu,fu,lu⟩,⟨xw,fw,dT⟩⟩:=zQ (hc.perm aM) (show fi+(2*r+1)<L1.length by omega) (show fi+(2*r+2)<L1.length by omega)
  have bp:=inb (show fi+(2*r+1)<L.length by omega)
  have bh:=inb (show fi+(2*r+2)<L.length by omega)
  simp only[Z3,seval,-ah,w1,w2,g1,w3,w4,w5,mn,bp,bh,gu,gw,dV];refine qU fu fw lu dT fun c=>?_
  simp only[Z3,seval,-ah,w1,w2,g1,w3,w4,w5,mn,bp,bh,gu,gw,dV];refine iteI (fun cL=>?_) fun cL=>?_
  ·clear gu gw fu fw bp bh
   obtain⟨p,ep⟩:∃p,p=fi+r:=⟨_,rfl⟩
   obtain⟨q,eq⟩:∃q,q=fi+(2*r+2):=⟨_,rfl⟩
   rw[<-ep]at w6
   rw[<-eq]at w7
   obtain⟨u,w,gu,gw,cu,ou,cw,ow,e1,e2,e3,e4,⟨xu,fu,lu⟩,⟨xw,fw,dT⟩⟩:=zQ (hc.perm aM) (show p<L1.length by omega) (show q<L1.length by omega)
   have bp:=inb (show p<L.length by omega)
   have bh:=inb (show q<L.length by omega)
   simp only[Z3,seval,-ah,w4,w6,w7,bp,bh,gu,gw,dV];refine qU fu fw lu dT fun c=>?_
   simp only[Z3,seval,-ah,w4,w6,w7,bp,bh,gu,gw,cu,ou,cw,ow,e1,e2,e3,e4];refine iteI (fun cL=>?_) fun cL=>?_
   ·exact⟨_,by omega,2*r+2,_,(qA (by omega) (by omega)).trans aM,by omega,rfl,rfl,rfl⟩
   ·exact hk _ aM
  ·clear gu gw fu fw bp bh
   obtain⟨p,ep⟩:∃p,p=fi+r:=⟨_,rfl⟩
   obtain⟨q,eq⟩:∃q,q=fi+(2*r+1):=⟨_,rfl⟩
   rw[<-ep]at w6
   rw[<-eq]at w4
   obtain⟨u,w,gu,gw,cu,ou,cw,ow,e1,e2,e3,e4,⟨xu,fu,lu⟩,⟨xw,fw,dT⟩⟩:=zQ (hc.perm aM) (show p<L1.length by omega) (show q<L1.length by omega)
   have bp:=inb (show p<L.length by omega)
   have bh:=inb (show q<L.length by omega)
   simp only[Z3,seval,-ah,w4,w6,w7,bp,bh,gu,gw,dV];refine qU fu fw lu dT fun c=>?_
   simp only[Z3,seval,-ah,w4,w6,w7,bp,bh,gu,gw,cu,ou,cw,ow,e1,e2,e3,e4];refine iteI (fun cL=>?_) fun cL=>?_
   ·exact⟨_,by omega,2*r+1,_,(qA (by omega) (by omega)).trans aM,by omega,rfl,rfl,rfl⟩
   ·exact hk _ aM
 ·simp only[Z3,seval,-ah,w1,w2,g1,w3,w4,w5,mn]
  clear mn;obtain⟨p,ep⟩:∃p,p=fi+r:=⟨_,rfl⟩
  obtain⟨q,eq⟩:∃q,q=fi+(2*r+1):=⟨_,rfl⟩
  rw[<-ep]at w6
  rw[<-eq]at w4
  obtain⟨u,w,gu,gw,cu,ou,cw,ow,e1,e2,e3,e4,⟨xu,fu,lu⟩,⟨xw,fw,dT⟩⟩:=zQ (hc.perm aM) (show p<L1.length by omega) (show q<L1.length by omega)
  have bp:=inb (show p<L.length by omega)
  have bh:=inb (show q<L.length by omega)
  simp only[Z3,seval,-ah,w4,w6,w7,bp,bh,gu,gw,dV];refine qU fu fw lu dT fun c=>?_
  simp only[Z3,seval,-ah,w4,w6,w7,bp,bh,gu,gw,cu,ou,cw,ow,e1,e2,e3,e4];refine iteI (fun cL=>?_) fun cL=>?_
  ·exact⟨_,by omega,2*r+1,_,(qA (by omega) (by omega)).trans aM,by omega,rfl,rfl,rfl⟩
  ·exact hk _ aM
theorem zHm(hs:σ.obj s=some L)(hn:n=L.length)(hL:L.length<=1000)(hc:CellR L)(gf:a<b)(hb:b<=n)(hk:∀L',L'.Perm L->K (.tup []) (σ.set s L')):
  zA Tryz.prog 245 [.sl s 0 n cap,.int .i64 a,.int .i64 b,cmpV] σ K:=by
 subst hn;have w1:IntKind.i64.wrap ((b:Int)-(a:Int))=((b-a:Nat):Int):=by rw[wrap64 (by omega) (by omega)];omega
 have w2:IntKind.i64.wrap (((b-a:Nat):Int)-1)=((b-a-1:Nat):Int):=by rw[wrap64 (by omega) (by omega)];omega
 have w3:IntKind.i64.wrap (((b-a-1:Nat):Int).tdiv 2)=(((b-a-1) / 2:Nat):Int):=by
  have e:(((b-a-1:Nat):Int)).tdiv 2=(((b-a-1) / 2:Nat):Int):=by rw[Int.tdiv_eq_ediv_of_nonneg (by omega)];omega
  rw[e,wrap64 (by omega) (by omega)]
 have wd:∀{i:Int},-1<=i->i<2000->IntKind.i64.wrap (i-1)=i-1:=fun h1 h2=>wrap64 (by omega) (by omega)
 refine zB mix Tryz.func245 ?_;simp only[Z3,seval,-ah,w1,w2,w3];have wz:((0:Nat):Int)=0:=rfl;refine zC (fun m vs h'=>∃(L':List PV),L'.Perm L∧m<=b-a∧vs=[.sl s 0 L.length cap,cmpV,.int .i64 a,.int .i64 ((0:Nat):Int),.int .i64 ((b-a:Nat):Int),.int .i64 ((m:Int)-1)]∧h'=σ.set s L') ((b-a-1) / 2+1) ?_ ?_
 ·exact⟨L,.refl _,by omega,by rw[show((((b-a-1) / 2+1:Nat):Int)-1)=(((b-a-1) / 2:Nat):Int) by omega];rfl,by rw[q8 hs]⟩
 rintro k vs h' ⟨L1,aM,uH,rfl,rfl⟩
 have hl:=aM.length_eq;cases k with
 |succ k=>
  rw[show(((k+1:Nat):Int)-1)=(k:Int) by omega]
  have g0:(0:Int)<=(k:Int):=by omega
  simp only[Z3,seval,-ah,g0];refine zC1 (zAk s L1) (by rw[hl]) (by omega) (hc.perm aM) (by omega) (by omega) fun L2 bD=>?_
  have wk:IntKind.i64.wrap ((k:Int)-1)=(k:Int)-1:=wrap64 (by omega) (by omega)
  simp only[Z3,seval,-ah,wk,zf];exact⟨k,by omega,L2,bD.trans aM,by omega,rfl,rfl⟩
 |zero=>
 have g0:¬(0:Int)<=((0:Nat):Int)-1:=by omega
 simp only[Z3,seval,-ah,g0,w2];refine zC (fun m vs h'=>∃(L':List PV),L'.Perm L∧m<=b-a∧vs=[.sl s 0 L.length cap,cmpV,.int .i64 a,.int .i64 ((0:Nat):Int),.int .i64 ((m:Int)-1)]∧h'=σ.set s L') (b-a) ?_ ?_
 ·exact⟨L1,aM,by omega,by rw[show(((b-a:Nat):Int)-1)=((b-a-1:Nat):Int) by omega];rfl,rfl⟩
 clear aM hl uH
 rintro k vs h' ⟨L1,aM,uH,rfl,rfl⟩
 have hl:=aM.length_eq;cases k with
 |zero=>
  simp only[Z3,seval,-ah,g0];exact hk _ aM
 |succ k=>
  rw[show(((k+1:Nat):Int)-1)=(k:Int) by omega]
  have g1:(0:Int)<=(k:Int):=by omega
  obtain⟨q,eq⟩:∃q,q=a+k:=⟨_,rfl⟩
  have wq:IntKind.i64.wrap ((a:Int)+(k:Int))=(q:Int):=by rw[wrap64 (by omega) (by omega)];omega
  have wk:IntKind.i64.wrap ((k:Int)-1)=(k:Int)-1:=wrap64 (by omega) (by omega)
  obtain⟨u,w,gu,gw,cu,ou,cw,ow,e1,e2,e3,e4,⟨xu,fu,lu⟩,⟨xw,fw,dT⟩⟩:=zQ (hc.perm aM) (show a<L1.length by omega) (show q<L1.length by omega)
  have bp:=inb (show a<L.length by omega)
  have bh:=inb (show q<L.length by omega)
  have bD:=(qA (L:=L1) (show a<L1.length by omega) (show q<L1.length by omega)).trans aM
  have fF:=bD.length_eq;simp only[Z3,seval,-ah,g1,wq,bp,bh,gu,gw,cu,ou,cw,ow,e1,e2,e3,e4];refine zC1 (lo:=0) (zAk s _) (by rw[fF]) (by omega) (hc.perm bD) (by omega) (by omega) fun L3 fT=>?_
  simp only[Z3,seval,-ah,wk,zf];exact⟨k,by omega,L3,fT.trans bD,by omega,rfl,rfl⟩
end Go.Proofs
namespace Go.Proofs
open Go.Ab Go.Lie Go.Grp
variable{σ h:PHeap}{K:PV->PHeap->Prop}{x:List Int}{L L':List PV}{s n a b i j pv:Nat}{cap:Cap}
theorem wr1c{w:PV}(ho:σ.obj s=some L)(hi:i<L.length)(hv:w.one=true):σ.wr s i [w]=some (σ.set s (L.set i w)):=by
 rw[ZZ ho,if_pos ⟨(show i+1<=_ from hi),by simp[hv]⟩,<-zA6 hi];rfl
theorem Z4{P:Program}{Q:Exit->PEnv->PHeap->Prop}{e:PEnv}{h:PHeap}{S:List Nat}{c:IC}{id:Nat}(I:Nat->List PV->PHeap->Prop)(E:List PV->PHeap->Prop)(n:Nat)(h0:I n (S.map e) h)
  (round:∀n vs h,I n vs h->vp P c (fun x e' h'=>match x with | .normal=>∃n',n'<n∧I n' (S.map e') h'|x=>x=.exit id∧E (S.map e') h') (PEnv.mk S vs) h)
  (fin:∀e' h',E (S.map e') h'->Q (.exit id) e' h'):vp P (.loop S c) Q e h:=
 Z7 _ (fun x e' h' k=>by obtain⟨rfl,hE⟩:=k;exact fin e' h' hE) (zC (Q:=fun x e' h'=>x=.exit id∧E (S.map e') h') I n h0 round)
theorem zJz(hs:σ.obj s=some L)(hn:n=L.length)(hL:L.length<=900)(hc:CellR L)(bM:a<=pv∧pv<b)(hb:b<=n)(hk:∀L' i,L'.Perm L->a<i->i<=b->K (.int .i64 (i:Nat)) (σ.set s L')):
  zA Tryz.prog 250 [.sl s 0 n cap,.int .i64 a,.int .i64 b,.int .i64 pv,cmpV] σ K:=by
 subst hn;have dV:=zAR;obtain⟨u,w,gu,gw,cu,ou,cw,ow,e1,e2,e3,e4,-,-⟩:=zQ hc (show a<L.length by omega) (show pv<L.length by omega)
 have bp:=inb (show a<L.length by omega)
 have bh:=inb (show pv<L.length by omega)
 have wa:IntKind.i64.wrap ((a:Int)+1)=((a+1:Nat):Int):=wrapS (show a<1000 by omega) (by omega)
 have wb:IntKind.i64.wrap ((b:Int)-1)=((b-1:Nat):Int):=by rw[wrap64 (by omega) (by omega)];omega
 have aM:=qA (L:=L) (show a<L.length by omega) (show pv<L.length by omega)
 have r1:σ.rd1 s a=some u:=by rw[zF hs];exact gu
 have r2:σ.rd1 s pv=some w:=by rw[zF hs];exact gw
 have rJ:σ.wr s a [w]=some (σ.set s (L.set a w)):=wr1c hs (by omega) ow
 refine qB mix Tryz.func250 ?_;simp only[Z3,seval,-ah,wa,wb,bp,bh,r1,r2,cu,ou,cw,ow,rJ,e3,e4];generalize swp L a pv=L1 at *
 clear gu gw cu ou cw ow e1 e2 e3 e4 bp bh r1 r2 rJ u w;have hl:=aM.length_eq;refine zC (fun m vs h'=>∃(i j0:Nat) (L1:List PV),L1.Perm L∧a+1<=i∧i<=b∧a<=j0∧j0<b∧m=j0+b-i∧vs=[.sl s 0 L.length cap,.int .i64 a,cmpV,.int .i64 i,.int .i64 j0]∧h'=σ.set s L1) (b-1+b-(a+1)) ?_ ?_
 ·exact⟨a+1,b-1,L1,aM,by omega,by omega,by omega,by omega,rfl,rfl,rfl⟩
 clear aM hl
 rintro m vs h' ⟨i0,j0,L1,aM,cD,dk,fX,mS,rfl,rfl,rfl⟩
 have hl:=aM.length_eq;simp only[Z3,seval,-ah];refine Z4 (id:=2) (fun m vs h'=>∃i:Nat,i0<=i∧i<=b∧m=b+1-i∧vs=[.sl s 0 L.length cap,.int .i64 a,cmpV,.int .i64 i,.int .i64 j0]∧h'=σ.set s L1) (fun vs h'=>∃i:Nat,i0<=i∧i<=b∧vs=[.sl s 0 L.length cap,.int .i64 a,cmpV,.int .i64 i,.int .i64 j0]∧h'=σ.set s L1) (b+1-(i0)) ?_ ?_ ?_
 ·exact⟨i0,by omega,by omega,rfl,rfl,rfl⟩
 ·rintro m vs h' ⟨i,cD,dk,rfl,rfl,rfl⟩
  by_cases cI:i<=j0
  rotate_left
  ·simp only[Z3,seval,-ah,cI]
   exact⟨i,by omega,by omega,rfl⟩
  obtain⟨u,w,gu,gw,_,_,_,_,_,_,_,_,⟨xu,fu,lu⟩,⟨xw,fw,dT⟩⟩:=zQ (hc.perm aM) (show a<L1.length by omega) (show i<L1.length by omega)
  have bp:=inb (show a<L.length by omega)
  have bh:=inb (show i<L.length by omega)
  have wi:IntKind.i64.wrap ((i:Int)+1)=((i+1:Nat):Int):=wrapS (show i<1000 by omega) (by omega)
  simp only[Z3,seval,-ah,cI,bp,bh,gu,gw,dV];refine qU fu fw lu dT fun c=>?_
  simp only[Z3,seval,-ah,cI,bp,bh,gu,gw,dV,wi];refine iteI (fun cL=>?_) fun cL=>?_
  all_goals first
   |exact⟨_,by omega,i+1,by omega,by omega,rfl,rfl⟩
   |exact⟨i,by omega,by omega,rfl⟩
 rintro e' h' ⟨i,cD,dk,he,rfl⟩
 simp only[List.map,List.cons.injEq]at he
 obtain⟨z0,z1,z2,z3,z4,-⟩:=he;simp only[Z3,seval,-ah,z0,z1,z2,z3,z4];refine Z4 (id:=4) (fun m vs h'=>∃j:Nat,(a<=j∧j<=j0)∧j<b∧m=j+1∧vs=[.sl s 0 L.length cap,.int .i64 a,cmpV,.int .i64 i,.int .i64 j]∧h'=σ.set s L1) (fun vs h'=>∃j:Nat,(a<=j∧j<=j0)∧j<b∧vs=[.sl s 0 L.length cap,.int .i64 a,cmpV,.int .i64 i,.int .i64 j]∧h'=σ.set s L1) (j0+1) ?_ ?_ ?_
 ·exact⟨j0,by omega,by omega,rfl,by simp only[List.map,z0,z1,z2,z3,z4],rfl⟩
 ·rintro m vs h' ⟨j,fX,mS,rfl,rfl,rfl⟩
  by_cases cI:i<=j
  rotate_left
  ·simp only[Z3,seval,-ah,cI]
   exact⟨j,by omega,by omega,rfl⟩
  obtain⟨u,w,gu,gw,_,_,_,_,_,_,_,_,⟨xu,fu,lu⟩,⟨xw,fw,dT⟩⟩:=zQ (hc.perm aM) (show a<L1.length by omega) (show j<L1.length by omega)
  have bp:=inb (show a<L.length by omega)
  have bh:=inb (show j<L.length by omega)
  have wj:IntKind.i64.wrap ((j:Int)-1)=((j-1:Nat):Int):=by rw[wrap64 (by omega) (by omega)];omega
  simp only[Z3,seval,-ah,cI,bp,bh,gu,gw,dV];refine qU fu fw lu dT fun c=>?_
  simp only[Z3,seval,-ah,cI,bp,bh,gu,gw,dV,wj];refine iteI (fun cL=>?_) fun cL=>?_
  all_goals first
   |exact⟨_,by omega,j-1,by omega,by omega,rfl,rfl⟩
   |exact⟨j,by omega,by omega,rfl⟩
 clear z0 z1 z2 z3 z4
 rintro e' h' ⟨j,fX,mS,he,rfl⟩
 simp only[List.map,List.cons.injEq]at he
 obtain⟨z0,z1,z2,z3,z4,-⟩:=he
 by_cases cI:j<i
 ·simp only[Z3,seval,-ah,z0,z1,z2,z3,z4,cI]
  exact hk _ _ aM (by omega) (by omega)
 have wi:IntKind.i64.wrap ((i:Int)+1)=((i+1:Nat):Int):=wrapS (show i<1000 by omega) (by omega)
 have wj:IntKind.i64.wrap ((j:Int)-1)=((j-1:Nat):Int):=by rw[wrap64 (by omega) (by omega)];omega
 obtain⟨u,w,gu,gw,cu,ou,cw,ow,e1,e2,e3,e4,-,-⟩:=zQ (hc.perm aM) (show i<L1.length by omega) (show j<L1.length by omega)
 have bp:=inb (show i<L.length by omega)
 have bh:=inb (show j<L.length by omega)
 have bD:=(qA (L:=L1) (show i<L1.length by omega) (show j<L1.length by omega)).trans aM
 simp only[Z3,seval,-ah,z0,z1,z2,z3,z4,cI,bp,bh,gu,gw,cu,ou,cw,ow,e1,e2,e3,e4,wi,wj];exact⟨_,by omega,i+1,j-1,_,bD,by omega,by omega,by omega,by omega,rfl,rfl,rfl⟩
end Go.Proofs
namespace Go.Proofs
open Go.Ab Go.Lie Go.Grp
variable{σ:PHeap}{K:PV->PHeap->Prop}{L L':List PV}{s n a b i j pv:Nat}{cap:Cap}
set_option maxHeartbeats 1600000 in
theorem zMX(hs:σ.obj s=some L)(hn:n=L.length)(hL:L.length<=900)(hc:CellR L)(bM:a<=pv∧pv<b)(hb:b<=n)(hk:∀L' j t,L'.Perm L->a<=j->j<b->K (.tup [.int .i64 (j:Nat),.bool t]) (σ.set s L')):
  zA Tryz.prog 251 [.sl s 0 n cap,.int .i64 a,.int .i64 b,.int .i64 pv,cmpV] σ K:=by
 subst hn;have dV:=zAR;obtain⟨u,w,gu,gw,cu,ou,cw,ow,e1,e2,e3,e4,-,-⟩:=zQ hc (show a<L.length by omega) (show pv<L.length by omega)
 have bp:=inb (show a<L.length by omega)
 have bh:=inb (show pv<L.length by omega)
 have wa:IntKind.i64.wrap ((a:Int)+1)=((a+1:Nat):Int):=wrapS (show a<1000 by omega) (by omega)
 have wb:IntKind.i64.wrap ((b:Int)-1)=((b-1:Nat):Int):=by rw[wrap64 (by omega) (by omega)];omega
 have aM:=qA (L:=L) (show a<L.length by omega) (show pv<L.length by omega)
 have r1:σ.rd1 s a=some u:=by rw[zF hs];exact gu
 have r2:σ.rd1 s pv=some w:=by rw[zF hs];exact gw
 have rJ:σ.wr s a [w]=some (σ.set s (L.set a w)):=wr1c hs (by omega) ow
 refine qB mix Tryz.func251 ?_;simp only[Z3,seval,-ah,wa,wb,bp,bh,r1,r2,cu,ou,cw,ow,rJ,e3,e4];generalize swp L a pv=L1 at *
 clear gu gw cu ou cw ow e1 e2 e3 e4 bp bh r1 r2 rJ u w;have hl:=aM.length_eq;obtain⟨j0,Bx⟩:∃j0,j0=b-1:=⟨_,rfl⟩
 obtain⟨i0,By⟩:∃i0,i0=a+1:=⟨_,rfl⟩
 rw[<-Bx,<-By];refine Z4 (id:=0) (fun m vs h'=>∃i:Nat,i0<=i∧i<=b∧m=b+1-i∧vs=[.sl s 0 L.length cap,.int .i64 a,cmpV,.int .i64 i,.int .i64 j0]∧h'=σ.set s L1) (fun vs h'=>∃i:Nat,i0<=i∧i<=b∧vs=[.sl s 0 L.length cap,.int .i64 a,cmpV,.int .i64 i,.int .i64 j0]∧h'=σ.set s L1) (b+1-(i0)) ?_ ?_ ?_
 ·exact⟨i0,by omega,by omega,rfl,rfl,rfl⟩
 ·rintro m vs h' ⟨i,cD,dk,rfl,rfl,rfl⟩
  by_cases cI:i<=j0
  rotate_left
  ·simp only[Z3,seval,-ah,cI]
   exact⟨i,by omega,by omega,rfl⟩
  obtain⟨u,w,gu,gw,_,_,_,_,_,_,_,_,⟨xu,fu,lu⟩,⟨xw,fw,dT⟩⟩:=zQ (hc.perm aM) (show i<L1.length by omega) (show a<L1.length by omega)
  have bp:=inb (show i<L.length by omega)
  have bh:=inb (show a<L.length by omega)
  have wi:IntKind.i64.wrap ((i:Int)+1)=((i+1:Nat):Int):=wrapS (show i<1000 by omega) (by omega)
  simp only[Z3,seval,-ah,cI,bp,bh,gu,gw,dV];refine qU fu fw lu dT fun c=>?_
  simp only[Z3,seval,-ah,cI,bp,bh,gu,gw,dV,wi];refine iteI (fun cL=>?_) fun cL=>?_
  all_goals first
   |exact⟨_,by omega,i+1,by omega,by omega,rfl,rfl⟩
   |exact⟨i,by omega,by omega,rfl⟩
 rintro e' h' ⟨i,cD,dk,he,rfl⟩
 simp only[List.map,List.cons.injEq]at he
 obtain⟨z0,z1,z2,z3,z4,-⟩:=he;simp only[Z3,seval,-ah,z0,z1,z2,z3,z4];refine Z4 (id:=2) (fun m vs h'=>∃j:Nat,(a<=j∧j<=j0)∧j<b∧m=j+1∧vs=[.sl s 0 L.length cap,.int .i64 a,cmpV,.int .i64 i,.int .i64 j]∧h'=σ.set s L1) (fun vs h'=>∃j:Nat,(a<=j∧j<=j0)∧j<b∧vs=[.sl s 0 L.length cap,.int .i64 a,cmpV,.int .i64 i,.int .i64 j]∧h'=σ.set s L1) (j0+1) ?_ ?_ ?_
 ·exact⟨j0,by omega,by omega,rfl,by simp only[List.map,z0,z1,z2,z3,z4],rfl⟩
 ·rintro m vs h' ⟨j,fX,mS,rfl,rfl,rfl⟩
  by_cases cI:i<=j
  rotate_left
  ·simp only[Z3,seval,-ah,cI]
   exact⟨j,by omega,by omega,rfl⟩
  obtain⟨u,w,gu,gw,_,_,_,_,_,_,_,_,⟨xu,fu,lu⟩,⟨xw,fw,dT⟩⟩:=zQ (hc.perm aM) (show j<L1.length by omega) (show a<L1.length by omega)
  have bp:=inb (show j<L.length by omega)
  have bh:=inb (show a<L.length by omega)
  have wj:IntKind.i64.wrap ((j:Int)-1)=((j-1:Nat):Int):=by rw[wrap64 (by omega) (by omega)];omega
  simp only[Z3,seval,-ah,cI,bp,bh,gu,gw,dV];refine qU fu fw lu dT fun c=>?_
  simp only[Z3,seval,-ah,cI,bp,bh,gu,gw,dV,wj];refine iteI (fun cL=>?_) fun cL=>?_
  all_goals first
   |exact⟨_,by omega,j-1,by omega,by omega,rfl,rfl⟩
   |exact⟨j,by omega,by omega,rfl⟩
 clear z0 z1 z2 z3 z4
 rintro e' h' ⟨j,fX,mS,he,rfl⟩
 simp only[List.map,List.cons.injEq]at he
 obtain⟨z0,z1,z2,z3,z4,-⟩:=he
 by_cases cI:j<i
 ·obtain⟨u,w,gu,gw,cu,ou,cw,ow,e1,e2,e3,e4,-,-⟩:=zQ (hc.perm aM) (show j<L1.length by omega) (show a<L1.length by omega)
  have bp:=inb (show j<L.length by omega)
  have bh:=inb (show a<L.length by omega)
  have bD:=(qA (L:=L1) (show j<L1.length by omega) (show a<L1.length by omega)).trans aM
  simp only[Z3,seval,-ah,z0,z1,z2,z3,z4,cI,bp,bh,gu,gw,cu,ou,cw,ow,e1,e2,e3,e4];exact hk _ _ _ bD (by omega) (by omega)
 have wi:IntKind.i64.wrap ((i:Int)+1)=((i+1:Nat):Int):=wrapS (show i<1000 by omega) (by omega)
 have wj:IntKind.i64.wrap ((j:Int)-1)=((j-1:Nat):Int):=by rw[wrap64 (by omega) (by omega)];omega
 obtain⟨u,w,gu,gw,cu,ou,cw,ow,e1,e2,e3,e4,-,-⟩:=zQ (hc.perm aM) (show i<L1.length by omega) (show j<L1.length by omega)
 have bp:=inb (show i<L.length by omega)
 have bh:=inb (show j<L.length by omega)
 have bD:=(qA (L:=L1) (show i<L1.length by omega) (show j<L1.length by omega)).trans aM
 simp only[Z3,seval,-ah,z0,z1,z2,z3,z4,cI,bp,bh,gu,gw,cu,ou,cw,ow,e1,e2,e3,e4,wi,wj];clear gu gw cu ou cw ow e1 e2 e3 e4 bp bh z0 z1 z2 z3 z4 wi wj;refine zC (fun m vs h'=>∃(i j0:Nat) (L1:List PV),L1.Perm L∧a+1<=i∧i<=b∧a<=j0∧j0<b∧m=j0+b-i∧vs=[.sl s 0 L.length cap,.int .i64 a,cmpV,.int .i64 i,.int .i64 j0]∧h'=σ.set s L1) (j-1+b-(i+1)) ?_ ?_
 ·exact⟨i+1,j-1,_,bD,by omega,by omega,by omega,by omega,rfl,rfl,rfl⟩
 generalize swp L1 i j=L2 at *
 clear aM hl bD cI cD dk fX mS Bx By;clear L1 i j i0 j0 e' L2
 rintro m vs h' ⟨i0,j0,L1,aM,cD,dk,fX,mS,rfl,rfl,rfl⟩
 have hl:=aM.length_eq;simp only[Z3,seval,-ah];refine Z4 (id:=6) (fun m vs h'=>∃i:Nat,i0<=i∧i<=b∧m=b+1-i∧vs=[.sl s 0 L.length cap,.int .i64 a,cmpV,.int .i64 i,.int .i64 j0]∧h'=σ.set s L1) (fun vs h'=>∃i:Nat,i0<=i∧i<=b∧vs=[.sl s 0 L.length cap,.int .i64 a,cmpV,.int .i64 i,.int .i64 j0]∧h'=σ.set s L1) (b+1-(i0)) ?_ ?_ ?_
 ·exact⟨i0,by omega,by omega,rfl,rfl,rfl⟩
 ·rintro m vs h' ⟨i,cD,dk,rfl,rfl,rfl⟩
  by_cases cI:i<=j0
  rotate_left
  ·simp only[Z3,seval,-ah,cI]
   exact⟨i,by omega,by omega,rfl⟩
  obtain⟨u,w,gu,gw,_,_,_,_,_,_,_,_,⟨xu,fu,lu⟩,⟨xw,fw,dT⟩⟩:=zQ (hc.perm aM) (show i<L1.length by omega) (show a<L1.length by omega)
  have bp:=inb (show i<L.length by omega)
  have bh:=inb (show a<L.length by omega)
  have wi:IntKind.i64.wrap ((i:Int)+1)=((i+1:Nat):Int):=wrapS (show i<1000 by omega) (by omega)
  simp only[Z3,seval,-ah,cI,bp,bh,gu,gw,dV];refine qU fu fw lu dT fun c=>?_
  simp only[Z3,seval,-ah,cI,bp,bh,gu,gw,dV,wi];refine iteI (fun cL=>?_) fun cL=>?_
  all_goals first
   |exact⟨_,by omega,i+1,by omega,by omega,rfl,rfl⟩
   |exact⟨i,by omega,by omega,rfl⟩
 rintro e' h' ⟨i,cD,dk,he,rfl⟩
 simp only[List.map,List.cons.injEq]at he
 obtain⟨z0,z1,z2,z3,z4,-⟩:=he;simp only[Z3,seval,-ah,z0,z1,z2,z3,z4];refine Z4 (id:=8) (fun m vs h'=>∃j:Nat,(a<=j∧j<=j0)∧j<b∧m=j+1∧vs=[.sl s 0 L.length cap,.int .i64 a,cmpV,.int .i64 i,.int .i64 j]∧h'=σ.set s L1) (fun vs h'=>∃j:Nat,(a<=j∧j<=j0)∧j<b∧vs=[.sl s 0 L.length cap,.int .i64 a,cmpV,.int .i64 i,.int .i64 j]∧h'=σ.set s L1) (j0+1) ?_ ?_ ?_
 ·exact⟨j0,by omega,by omega,rfl,by simp only[List.map,z0,z1,z2,z3,z4],rfl⟩
 ·rintro m vs h' ⟨j,fX,mS,rfl,rfl,rfl⟩
  by_cases cI:i<=j
  rotate_left
  ·simp only[Z3,seval,-ah,cI]
   exact⟨j,by omega,by omega,rfl⟩
  obtain⟨u,w,gu,gw,_,_,_,_,_,_,_,_,⟨xu,fu,lu⟩,⟨xw,fw,dT⟩⟩:=zQ (hc.perm aM) (show j<L1.length by omega) (show a<L1.length by omega)
  have bp:=inb (show j<L.length by omega)
  have bh:=inb (show a<L.length by omega)
  have wj:IntKind.i64.wrap ((j:Int)-1)=((j-1:Nat):Int):=by rw[wrap64 (by omega) (by omega)];omega
  simp only[Z3,seval,-ah,cI,bp,bh,gu,gw,dV];refine qU fu fw lu dT fun c=>?_
  simp only[Z3,seval,-ah,cI,bp,bh,gu,gw,dV,wj];refine iteI (fun cL=>?_) fun cL=>?_
  all_goals first
   |exact⟨_,by omega,j-1,by omega,by omega,rfl,rfl⟩
   |exact⟨j,by omega,by omega,rfl⟩
 clear z0 z1 z2 z3 z4
 rintro e' h' ⟨j,fX,mS,he,rfl⟩
 simp only[List.map,List.cons.injEq]at he
 obtain⟨z0,z1,z2,z3,z4,-⟩:=he
 by_cases cI:j<i
 ·obtain⟨u,w,gu,gw,cu,ou,cw,ow,e1,e2,e3,e4,-,-⟩:=zQ (hc.perm aM) (show j<L1.length by omega) (show a<L1.length by omega)
  have bp:=inb (show j<L.length by omega)
  have bh:=inb (show a<L.length by omega)
  have bD:=(qA (L:=L1) (show j<L1.length by omega) (show a<L1.length by omega)).trans aM
  simp only[Z3,seval,-ah,z0,z1,z2,z3,z4,cI,bp,bh,gu,gw,cu,ou,cw,ow,e1,e2,e3,e4];exact hk _ _ _ bD (by omega) (by omega)
 have wi:IntKind.i64.wrap ((i:Int)+1)=((i+1:Nat):Int):=wrapS (show i<1000 by omega) (by omega)
 have wj:IntKind.i64.wrap ((j:Int)-1)=((j-1:Nat):Int):=by rw[wrap64 (by omega) (by omega)];omega
 obtain⟨u,w,gu,gw,cu,ou,cw,ow,e1,e2,e3,e4,-,-⟩:=zQ (hc.perm aM) (show i<L1.length by omega) (show j<L1.length by omega)
 have bp:=inb (show i<L.length by omega)
 have bh:=inb (show j<L.length by omega)
 have bD:=(qA (L:=L1) (show i<L1.length by omega) (show j<L1.length by omega)).trans aM
 simp only[Z3,seval,-ah,z0,z1,z2,z3,z4,cI,bp,bh,gu,gw,cu,ou,cw,ow,e1,e2,e3,e4,wi,wj];exact⟨_,by omega,i+1,j-1,_,bD,by omega,by omega,by omega,by omega,rfl,rfl,rfl⟩
end Go.Proofs
namespace Go.Proofs
open Go.Ab Go.Lie Go.Grp
variable{σ:PHeap}{K:PV->PHeap->Prop}{x y:List Int}{L:List PV}{s n a b c i t:Nat}{cap:Cap}{k:Int}
theorem zD7(hs:σ.obj s=some L)(hn:n=L.length)(hL:L.length<=900)(hc:CellR L)(gf:a<b)(hb:b<=n)(tO:b-a<50)(hk:∀r,K (.bool r) σ):
  zA Tryz.prog 249 [.sl s 0 n cap,.int .i64 a,.int .i64 b,cmpV] σ K:=by
 subst hn;have dV:=zAR;have wa:IntKind.i64.wrap ((a:Int)+1)=((a+1:Nat):Int):=wrapS (show a<1000 by omega) (by omega)
 have BO:IntKind.i64.wrap ((b:Int)-(a:Int))=((b-a:Nat):Int):=by rw[wrap64 (by omega) (by omega)];omega
 have DP:((b-a:Nat):Int)<50:=by omega
 refine qB mix Tryz.func249 ?_;simp only[Z3,seval,-ah,wa];refine zC (fun m vs h'=>vs=[.sl s 0 L.length cap,.int .i64 a,.int .i64 b,cmpV,.int .i64 ((a+1:Nat):Int),.int .i64 0]∧h'=σ) 0 ⟨rfl,rfl⟩ ?_
 rintro m vs h' ⟨rfl,rfl⟩
 simp only[Z3,seval,-ah];refine Z4 (id:=2) (fun m vs cX=>∃i:Nat,a+1<=i∧i<=b∧m=b-i∧vs=[.sl s 0 L.length cap,.int .i64 a,.int .i64 b,cmpV,.int .i64 i,.int .i64 0]∧cX=h') (fun vs cX=>∃i:Nat,a+1<=i∧i<=b∧vs=[.sl s 0 L.length cap,.int .i64 a,.int .i64 b,cmpV,.int .i64 i,.int .i64 0]∧cX=h') (b-(a+1)) ?_ ?_ ?_
 ·exact⟨a+1,by omega,by omega,rfl,rfl,rfl⟩
 ·rintro m vs cX ⟨i,cD,dk,rfl,rfl,rfl⟩
  by_cases cI:i<b
  rotate_left
  ·simp only[Z3,seval,-ah,cI]
   exact⟨i,by omega,by omega,rfl⟩
  obtain⟨u,w,gu,gw,_,_,_,_,_,_,_,_,⟨xu,fu,lu⟩,⟨xw,fw,dT⟩⟩:=zQ hc (show i<L.length by omega) (show i-1<L.length by omega)
  have bp:=inb (show i<L.length by omega)
  have bh:=inb (show i-1<L.length by omega)
  have r1:cX.rd1 s i=some u:=by rw[zF hs];exact gu
  have r2:cX.rd1 s (i-1)=some w:=by rw[zF hs];exact gw
  have wi:IntKind.i64.wrap ((i:Int)+1)=((i+1:Nat):Int):=wrapS (show i<1000 by omega) (by omega)
  have wj:IntKind.i64.wrap ((i:Int)-1)=((i-1:Nat):Int):=by rw[wrap64 (by omega) (by omega)];omega
  simp only[Z3,seval,-ah,cI,bp,bh,r1,r2,dV,wj];refine qU fu fw lu dT fun c=>?_
  simp only[Z3,seval,-ah,cI,bp,bh,r1,r2,dV,wi,wj];refine iteI (fun cL=>?_) fun cL=>?_
  all_goals first
   |exact⟨_,by omega,i+1,by omega,by omega,rfl,rfl⟩
   |exact⟨i,by omega,by omega,rfl⟩
 rintro e' cX ⟨i,cD,dk,he,rfl⟩
 simp only[List.map,List.cons.injEq]at he
 obtain⟨z0,z1,z2,z3,z4,z5,-⟩:=he
 by_cases ym:i=b
 ·simp only[Z3,seval,-ah,z0,z1,z2,z3,z4,z5,ym]
  exact hk _
 ·have yk:¬(i:Int)=(b:Int):=by omega
  simp only[Z3,seval,-ah,z0,z1,z2,z3,z4,z5,ym,yk,BO,DP];exact hk _
theorem zCG(hs:σ.obj s=some L)(hn:n=L.length)(hL:L.length<=900)(hc:CellR L)(ha:a<n)(hb:b<n)(ht:σ.obj t=some [.int .i64 k])(hk:∀x y (k':Int),(x=a∧y=b)∨(x=b∧y=a)->K (.tup [.int .i64 (x:Nat),.int .i64 (y:Nat)]) (σ.set t [.int .i64 k'])):
  zA Tryz.prog 255 [.sl s 0 n cap,.int .i64 a,.int .i64 b,.ptr t 0,cmpV] σ K:=by
 subst hn;have dV:=zAR;obtain⟨u,w,gu,gw,_,_,_,_,_,_,_,_,⟨xu,fu,lu⟩,⟨xw,fw,dT⟩⟩:=zQ hc ha hb;have bp:=inb ha;have bh:=inb hb;have r1:σ.rd1 s a=some u:=by rw[zF hs];exact gu
 have r2:σ.rd1 s b=some w:=by rw[zF hs];exact gw
 have r3:σ.rd1 t 0=some (.int .i64 k):=by rw[zF ht];rfl
 have w3:∀k',σ.wr t 0 [.int .i64 k']=some (σ.set t [.int .i64 k']):=fun k'=>by rw[ZZ ht];rfl
 refine zB mix Tryz.func255 ?_;simp only[Z3,seval,-ah,bp,bh,r1,r2,dV];refine qU fw fu dT lu fun c=>?_
 simp only[Z3,seval,-ah,bp,bh,r1,r2,r3,w3,dV];refine iteI (fun cL=>?_) fun cL=>?_
 ·exact hk b a _ (.inr ⟨rfl,rfl⟩)
 ·have:=hk a b k (.inl ⟨rfl,rfl⟩)
  rwa[q8 ht]at this
theorem zKE(hs:σ.obj s=some L)(hn:n=L.length)(hL:L.length<=900)(hc:CellR L)(ha:a<n)(hb:b<n)(ml:c<n)(ht:σ.obj t=some [.int .i64 k])(du:s≠t)(hk:∀x (k':Int),x=a∨x=b∨x=c->K (.int .i64 (x:Nat)) (σ.set t [.int .i64 k'])):
  zA Tryz.prog 254 [.sl s 0 n cap,.int .i64 a,.int .i64 b,.int .i64 c,.ptr t 0,cmpV] σ K:=by
 have os:∀k',(σ.set t [.int .i64 k']).obj s=some L:=fun k'=>by rw[zg,if_neg du];exact hs
 have ot:∀k':Int,(σ.set t [.int .i64 k']).obj t=some [.int .i64 k']:=fun k'=>by rw[zg,if_pos rfl]
 refine zB mix Tryz.func254 ?_;simp only[Z3,seval,-ah];refine zCG hs hn hL hc ha hb ht fun x y k1 h1=>?_
 simp only[Z3,seval,-ah];refine zCG (os _) hn hL hc (by omega) ml (ot _) fun x2 y2 k2 h2=>?_
 rw[zf];simp only[Z3,seval,-ah];refine zCG (os _) hn hL hc (by omega) (by omega) (ot _) fun x3 y3 k3 h3=>?_
 rw[zf];simp only[Z3,seval,-ah];exact hk _ _ (by omega)
end Go.Proofs
set_option maxRecDepth 20000
namespace Go.Proofs
open Go.Ab Go.Lie Go.Grp
variable{σ h:PHeap}{K:PV->PHeap->Prop}{x:List Int}{L L':List PV}{s n a b c i t:Nat}{cap:Cap}{k:Int}
theorem zKc(hs:σ.obj s=some L)(dw:s<σ.next)(hn:n=L.length)(hL:L.length<=900)(hc:CellR L)(hb:b<=n)(tQ:12<b-a)(tO:b-a<50)(hk:∀(p:Nat) (r:Int),a<=p->p<b->K (.tup [.int .i64 p,.int .i64 r]) σ):
  zA Tryz.prog 247 [.sl s 0 n cap,.int .i64 a,.int .i64 b,cmpV] σ K:=by
 subst hn;refine zA.gh ?_;have w1:IntKind.i64.wrap ((b:Int)-(a:Int))=((b-a:Nat):Int):=by rw[wrap64 (by omega) (by omega)];omega
 obtain⟨q,hq⟩:∃q,q=(b-a) / 4:=⟨_,rfl⟩
 have w2:IntKind.i64.wrap (((b-a:Nat):Int).tdiv 4)=(q:Int):=by
  have e:(((b-a:Nat):Int)).tdiv 4=(q:Int):=by rw[Int.tdiv_eq_ediv_of_nonneg (by omega)];omega
  rw[e,wrap64 (by omega) (by omega)]
 have w3:IntKind.i64.wrap ((q:Int)*1)=(q:Int):=by rw[wrap64 (by omega) (by omega)];omega
 have w4:IntKind.i64.wrap ((q:Int)*2)=((q*2:Nat):Int):=by rw[wrap64 (by omega) (by omega)];omega
 have w5:IntKind.i64.wrap ((q:Int)*3)=((q*3:Nat):Int):=by rw[wrap64 (by omega) (by omega)];omega
 have w6:IntKind.i64.wrap ((a:Int)+(q:Int))=((a+q:Nat):Int):=by rw[wrap64 (by omega) (by omega)];omega
 have w7:IntKind.i64.wrap ((a:Int)+((q*2:Nat):Int))=((a+q*2:Nat):Int):=by rw[wrap64 (by omega) (by omega)];omega
 have w8:IntKind.i64.wrap ((a:Int)+((q*3:Nat):Int))=((a+q*3:Nat):Int):=by rw[wrap64 (by omega) (by omega)];omega
 have g8:(8:Int)<=((b-a:Nat):Int):=by omega
 have D1:¬(50:Int)<=((b-a:Nat):Int):=by omega
 refine zB mix Tryz.func247 ?_;simp only[Z3,seval,-ah,w1,w2,w3,w4,w5,w6,w7,w8,g8,D1];have os:(σ.new [.int .i64 0]).obj s=some L:=by rw[zH,if_neg (by omega)];exact hs
 refine zKE (k:=0) os rfl hL hc (by omega) (by omega) (by omega) (by rw[zH,if_pos rfl]) (by omega) fun p k' hp=>?_
 have r1:((σ.new [.int .i64 0]).set σ.next [.int .i64 k']).rd1 σ.next 0=some (.int .i64 k'):=by rw[zF (zAk _ _)];rfl
 have fin:∀r:Int,Gh σ K (.tup [.int .i64 p,.int .i64 r]) (σ.new [.int .i64 k']):=fun r=>Gh.fin0 (zD σ _) ⟨trivial,trivial,trivial⟩ (hk p r (by omega) (by omega))
 simp only[Z3,seval,-ah,r1];refine iteI (fun h0=>?_) fun h0=>?_
 ·exact fin _
 refine iteI (fun h1=>?_) fun h1=>?_
 ·exact fin _
 ·exact fin _
theorem tblI{T:List UInt8}{u:Nat}{F:UInt8->Prop}(hT:(List.range 64).all (fun u=>match T[u]? with|some l=>decide (l.toNat<=6∧u<2 ^ l.toNat∧(u=0∨2 ^ l.toNat<=2*u))|none=>false)=true)(hu:u<64)
  (k:∀l:UInt8,l.toNat<=6->u<2 ^ l.toNat->(u=0∨2 ^ l.toNat<=2*u)->F l):optK T[u]? F:=by
 have h:=List.all_eq_true.1 hT u (List.mem_range.2 hu);cases e:T[u]? with
 |none=>rw[e]at h;cases h
 |some l=>
  rw[e]at h
  obtain⟨h1,h2,h3⟩:=of_decide_eq_true h;exact⟨l,rfl,k l h1 h2 h3⟩
theorem zL3{u:Nat}(hu:u<64)(hk:∀l:Nat,l<=6->u<2 ^ l->(u=0∨2 ^ l<=2*u)->K (.int .i64 l) σ):zA Tryz.prog 228 [.int .u64 u] σ K:=by
 have w0:IntKind.u8.wrap (u:Int)=(u:Int):=by show(u:Int) % 256=_;omega
 have g1:¬(4294967296:Int)<=(u:Int):=by omega
 have g2:¬(65536:Int)<=(u:Int):=by omega
 have g3:¬(256:Int)<=(u:Int):=by omega
 refine zB mix Tryz.func228 ?_;simp only[Z3,seval,-ah,g1,g2,g3,w0];refine tblI (by decide) hu fun l h1 h2 h3=>?_
 have w1:IntKind.i64.wrap (l.toNat:Int)=(l.toNat:Int):=wrap64 (by omega) (by omega)
 have w2:IntKind.i64.wrap (0+(l.toNat:Int))=(l.toNat:Int):=by rw[Int.zero_add];exact w1
 simp only[Z3,seval,-ah,w1,w2];exact hk _ h1 h2 h3
theorem zKr{u:Nat}(hu:u<64)(hk:∀l:Nat,l<=6->u<2 ^ l->(u=0∨2 ^ l<=2*u)->K (.int .i64 l) σ):zA Tryz.prog 198 [.int .u64 u] σ K:=by
 refine zB mix Tryz.func198 ?_;simp only[Z3,seval,-ah];refine zL3 hu fun l h1 h2 h3=>?_
 simp only[Z3,seval,-ah];exact hk _ h1 h2 h3
theorem zMh{u:Nat}(hu:u<64)(h1:1<=u)(hk:∀m:Nat,1<=m->m<=2*u->K (.int .u64 m) σ):zA Tryz.prog 238 [.int .i64 u] σ K:=by
 have w0:IntKind.u64.wrap (u:Int)=(u:Int):=by show(u:Int) % 18446744073709551616=_;omega
 refine zB mix Tryz.func238 ?_;simp only[Z3,seval,-ah,w0];refine zKr hu fun l h1 h2 h3=>?_
 have hl:l=0∨l=1∨l=2∨l=3∨l=4∨l=5∨l=6:=by omega
 have e:pbin .shl .other (.int .u64 1) (.int .i64 l)=some (.int .u64 ((2 ^ l:Nat):Int)):=by
  rcases hl with rfl|rfl|rfl|rfl|rfl|rfl|rfl<;>rfl
 simp only[Z3,seval,-ah,e];exact hk _ (Nat.one_le_two_pow) (by omega)
theorem zM4(ht:σ.obj t=some [.int .u64 k])(hk:∀r:Int,K (.int .u64 r) (σ.set t [.int .u64 r])):zA Tryz.prog 239 [.ptr t 0] σ K:=by
 have r0:σ.rd1 t 0=some (.int .u64 k):=by rw[zF ht];rfl
 have w3:∀k',σ.wr t 0 [.int .u64 k']=some (σ.set t [.int .u64 k']):=fun k'=>by rw[ZZ ht];rfl
 have s1:∀a:Int,pbin .shl .other (.int .u64 a) (.int .u64 13)=some (.int .u64 (IntKind.u64.wrap (a*8192))):=fun a=>rfl
 have s2:∀a:Int,pbin .shr .other (.int .u64 a) (.int .u64 7)=some (.int .u64 (a.fdiv 128)):=fun a=>rfl
 have s3:∀a:Int,pbin .shl .other (.int .u64 a) (.int .u64 17)=some (.int .u64 (IntKind.u64.wrap (a*131072))):=fun a=>rfl
 have x1:∀a b:Int,∃r:Int,pbin .xor .other (.int .u64 a) (.int .u64 b)=some (.int .u64 r):=fun a b=>⟨_,rfl⟩
 obtain⟨a1,e1⟩:=x1 k (IntKind.u64.wrap (k*8192));obtain⟨a2,e2⟩:=x1 a1 (a1.fdiv 128);obtain⟨a3,e3⟩:=x1 a2 (IntKind.u64.wrap (a2*131072));refine zB mix Tryz.func239 ?_;simp only[Z3,seval,-ah,r0,s1,s2,s3,e1,e2,e3,w3];exact hk _
theorem CellR.bels(hc:CellR L)(m:Nat):Bels m L:=Zj.2 fun c cL=>by
 obtain⟨x,⟨w,o,e⟩,_⟩:=hc c cL;rw[e];trivial
theorem zIL{a:Int}{m:Nat}(hm:1<=m)(jy:m<=1000):∃r:Nat,pbin .and .other (.int .u64 a) (.int .u64 ((m-1:Nat):Int))=some (.int .u64 r)∧r<m:=by
 have h1:(BitVec.ofInt 64 a &&& BitVec.ofInt 64 ((m-1:Nat):Int)).toNat<=m-1:=by
  rw[BitVec.toNat_and];refine Nat.le_trans Nat.and_le_right ?_;rw[BitVec.toNat_ofInt]
  have:((m-1:Nat):Int) % ((2 ^ 64:Nat):Int)=((m-1:Nat):Int):=Int.emod_eq_of_lt (by omega) (by show _<(18446744073709551616:Int);omega)
  rw[this];exact Nat.le_of_eq (Int.toNat_natCast _)
 have h2:IntKind.u64.wrap (((BitVec.ofInt 64 a &&& BitVec.ofInt 64 ((m-1:Nat):Int)).toNat:Nat):Int)=(((BitVec.ofInt 64 a &&& BitVec.ofInt 64 ((m-1:Nat):Int)).toNat:Nat):Int):=by
  show(_:Int) % _=_
  exact Int.emod_eq_of_lt (by omega) (by show _<(18446744073709551616:Int);omega)
 refine⟨_,?_,Nat.lt_of_le_of_lt h1 (by omega)⟩
 show(some (AV.int .u64 (IntKind.u64.wrap (((BitVec.ofInt 64 a &&& BitVec.ofInt 64 ((m-1:Nat):Int)).toNat:Nat):Int)))).map ofAV=_
 rw[h2];rfl
set_option maxHeartbeats 1600000 in
theorem zKe(hs:σ.obj s=some L)(dw:s<σ.next)(hn:n=L.length)(hL:L.length<=900)(hc:CellR L)(hb:b<=n)(tQ:12<b-a)(tO:b-a<50)(hk:∀L',L'.Perm L->K (.tup []) (σ.set s L')):
  zA Tryz.prog 246 [.sl s 0 n cap,.int .i64 a,.int .i64 b,cmpV] σ K:=by
 subst hn;refine zA.gh ?_;have w1:IntKind.i64.wrap ((b:Int)-(a:Int))=((b-a:Nat):Int):=by rw[wrap64 (by omega) (by omega)];omega
 obtain⟨l,hl⟩:∃l,l=b-a:=⟨_,rfl⟩
 rw[<-hl]at w1 tQ tO
 obtain⟨q,hq⟩:∃q,q=l / 4:=⟨_,rfl⟩
 obtain⟨c,Bg⟩:∃c,c=a+q*2:=⟨_,rfl⟩
 have w2:IntKind.i64.wrap ((l:Int).tdiv 4)=(q:Int):=by
  have e:((l:Int)).tdiv 4=(q:Int):=by rw[Int.tdiv_eq_ediv_of_nonneg (by omega)];omega
  rw[e,wrap64 (by omega) (by omega)]
 have w3:IntKind.i64.wrap ((q:Int)*2)=((q*2:Nat):Int):=by rw[wrap64 (by omega) (by omega)];omega
 have w4:IntKind.i64.wrap ((a:Int)+((q*2:Nat):Int))=(c:Int):=by rw[wrap64 (by omega) (by omega)];omega
 have w5:IntKind.i64.wrap ((c:Int)-1)=((c-1:Nat):Int):=by rw[wrap64 (by omega) (by omega)];omega
 have w6:IntKind.i64.wrap ((c:Int)+1)=((c+1:Nat):Int):=by rw[wrap64 (by omega) (by omega)];omega
 have w7:IntKind.u64.wrap (l:Int)=(l:Int):=by show(l:Int) % 18446744073709551616=_;omega
 have g8:(8:Int)<=(l:Int):=by omega
 refine zB mix Tryz.func246 ?_;simp only[Z3,seval,-ah,w1,w2,w3,w4,w5,w7,g8];refine zMh (by omega) (by omega) fun m uF jy=>?_
 have wm:IntKind.u64.wrap ((m:Int)-1)=((m-1:Nat):Int):=by show((m:Int)-1) % 18446744073709551616=_;omega
 simp only[Z3,seval,-ah,w1,w2,w3,w4,w5,w7,g8];refine zC (fun k vs h'=>∃(i:Nat) (r:Int) (L':List PV),L'.Perm L∧c<=i+1∧i<=c+2∧k=c+2-i∧vs=[.sl s 0 L.length cap,.int .i64 a,.int .i64 l,.ptr σ.next 0,.int .u64 m,.int .i64 i]∧h'=(σ.set s L').new [.int .u64 r]) 3 ?_ ?_
 ·exact⟨c-1,l,L,.refl _,by omega,by omega,by omega,rfl,by rw[q8 hs]⟩
 rintro k vs h' ⟨i,r,L1,aM,cD,dk,rfl,rfl,rfl⟩
 have ji:=aM.length_eq
 by_cases cI:i<=c+1
 rotate_left
 ·simp only[Z3,seval,-ah,w2,w3,w4,w6,cI]
  exact Gh.finB dw (zD _ _) ((hc.perm aM).bels 0) (by trivial) (hk _ aM)
 have wi:IntKind.i64.wrap ((i:Int)+1)=((i+1:Nat):Int):=wrapS (show i<1000 by omega) (by omega)
 simp only[Z3,seval,-ah,w2,w3,w4,w6,cI];refine zM4 (k:=r) (by rw[zH];exact if_pos rfl) fun r2=>?_
 obtain⟨o,eo,ho⟩:=zIL (a:=r2) uF (show m<=1000 by omega)
 have wo:IntKind.i64.wrap (o:Int)=(o:Int):=wrap64 (by omega) (by omega)
 have n1:¬s=σ.next:=by omega
 have n2:¬σ.next=s:=by omega
 by_cases je:l<=o
 ·obtain⟨o2,E6⟩:∃o2,o2=o-l:=⟨_,rfl⟩
  have wx:IntKind.i64.wrap ((o:Int)-(l:Int))=(o2:Int):=by rw[wrap64 (by omega) (by omega)];omega
  obtain⟨p,ep⟩:∃p,p=a+o2:=⟨_,rfl⟩
  have wp:IntKind.i64.wrap ((a:Int)+(o2:Int))=(p:Int):=by rw[wrap64 (by omega) (by omega)];omega
  obtain⟨u,w,gu,gw,cu,ou,cw,ow,e1,e2,e3,e4,-,-⟩:=zQ (hc.perm aM) (show i<L1.length by omega) (show p<L1.length by omega)
  have bp:=inb (show i<L.length by omega)
  have bh:=inb (show p<L.length by omega)
  have bD:=(qA (L:=L1) (show i<L1.length by omega) (show p<L1.length by omega)).trans aM
  simp only[Z3,seval,-ah,eo,wm,wo,je,wx,wp,bp,bh,gu,gw,cu,ou,cw,ow,e1,e2,e3,e4,n1,n2,wi];refine⟨_,?_,i+1,r2,_,bD,?_,?_,rfl,rfl,?_⟩
  ·omega
  ·omega
  ·omega
  ·rfl
 ·have wx:True:=trivial
  obtain⟨p,ep⟩:∃p,p=a+o:=⟨_,rfl⟩
  have wp:IntKind.i64.wrap ((a:Int)+(o:Int))=(p:Int):=by rw[wrap64 (by omega) (by omega)];omega
  obtain⟨u,w,gu,gw,cu,ou,cw,ow,e1,e2,e3,e4,-,-⟩:=zQ (hc.perm aM) (show i<L1.length by omega) (show p<L1.length by omega)
  have bp:=inb (show i<L.length by omega)
  have bh:=inb (show p<L.length by omega)
  have bD:=(qA (L:=L1) (show i<L1.length by omega) (show p<L1.length by omega)).trans aM
  simp only[Z3,seval,-ah,eo,wm,wo,je,wx,wp,bp,bh,gu,gw,cu,ou,cw,ow,e1,e2,e3,e4,n1,n2,wi];refine⟨_,?_,i+1,r2,_,bD,?_,?_,rfl,rfl,?_⟩
  ·omega
  ·omega
  ·omega
  ·rfl
end Go.Proofs
namespace Go.Proofs
open Go.Ab Go.Lie Go.Grp
theorem optWp{wp:Bool}{A B:PV}{F:PV->Prop}(h1:wp=true->F A)(h0:wp=false->F B):optK (if wp=true then some A else some B) F:=by
 cases wp
 ·exact⟨B,rfl,h0 rfl⟩
 ·exact⟨A,rfl,h1 rfl⟩
set_option maxHeartbeats 12800000 in
theorem zNH:∀(N:Nat) {σ:PHeap} {K:PV->PHeap->Prop} {L:List PV} {s n a b:Nat} {mF:Int} {cap:Cap} (hs:σ.obj s=some L) (dw:s<σ.next) (hn:n=L.length) (hL:L.length<=900) (hc:CellR L) (gf:a<=b) (hb:b<=n) (tO:b-a<50) (hN:b-a<N)
    (hk:∀L',L'.Perm L->K (.tup []) (σ.set s L')),zA Tryz.prog 242 [.sl s 0 n cap,.int .i64 a,.int .i64 b,.int .i64 mF,cmpV] σ K:=by
  intro N
  induction N with
  |zero=>intros;omega
  |succ N ih=>
  intro σ K L s n a b mF cap hs dw hn hL hc gf hb tO hN hk;subst hn;have dV:=zAR;refine qB mix Tryz.func242 ?_;simp only[Z3,seval,-ah];refine zC (fun m vs h'=>∃(a' b':Nat) (mF:Int) (wb wp:Bool) (L':List PV),L'.Perm L∧a'<=b'∧b'<=b∧b'-a'<=b-a∧m=b'-a'∧vs=[.sl s 0 L.length cap,.int .i64 a',.int .i64 b',.int .i64 mF,cmpV,.bool wb,.bool wp]∧h'=σ.set s L') (b-a) ?_ ?_
  · exact⟨a,b,mF,true,true,L,.refl _,gf,by omega,by omega,rfl,rfl,by rw[q8 hs]⟩
  clear mF
  rintro m vs h' ⟨a1,b1,mF,wb,wp,L1,aM,h1,h2,h3,rfl,rfl,rfl⟩
  have ji:=aM.length_eq;have jF:=hc.perm aM;have o1:∀L2,(σ.set s L2).obj s=some L2:=fun L2=>zAk s L2
  obtain⟨l,hl⟩:∃l,l=b1-a1:=⟨_,rfl⟩
  have w1:IntKind.i64.wrap ((b1:Int)-(a1:Int))=(l:Int):=by rw[wrap64 (by omega) (by omega)];omega
  by_cases C5:l<=12
  · have g1:(l:Int)<=12:=by omega
    simp only[Z3,seval,-ah,w1,g1];refine zI6 (o1 L1) ji.symm (by omega) jF (by omega) (by omega) fun L2 bD=>?_
    simp only[Z3,seval,-ah,zf];exact hk _ (bD.trans aM)
  have g1:¬(l:Int)<=12:=by omega
  by_cases kK:mF=0
  · simp only[Z3,seval,-ah,w1,g1,kK]
    refine zHm (o1 L1) ji.symm (by omega) jF (by omega) (by omega) fun L2 bD=>?_
    simp only[Z3,seval,-ah,zf];exact hk _ (bD.trans aM)
  obtain⟨t8,EE⟩:∃t8,t8=IntKind.i64.wrap ((l:Int).tdiv 8):=⟨_,rfl⟩
  cases wb
  case' false=>
    simp only[Z3,seval,-ah,w1,g1,kK];refine zKe (o1 L1) dw ji.symm (by omega) jF (by omega) (by omega) (by omega) fun L2 bD=>?_
    have bD:=bD.trans aM;rw[zf];simp only[Z3,seval,-ah]
  case' true=>
    simp only[Z3,seval,-ah,w1,g1,kK];obtain⟨L2,bD,e2⟩:∃L2:List PV,L2.Perm L∧L2=L1:=⟨L1,aM,rfl⟩
    rw[<-e2]
  all_goals
    have fF:=bD.length_eq;have eE:=hc.perm bD;refine zKc (o1 L2) dw fF.symm (by omega) eE (by omega) (by omega) (by omega) fun pv r CO CN=>?_
    by_cases hr:r=2
    case' pos=>
      have BI:IntKind.i64.wrap ((b1:Int)-1)=((b1-1:Nat):Int):=by rw[wrap64 (by omega) (by omega)];omega
      have BH:IntKind.i64.wrap ((pv:Int)-(a1:Int))=((pv-a1:Nat):Int):=by rw[wrap64 (by omega) (by omega)];omega
      have Ad:IntKind.i64.wrap (((b1-1:Nat):Int)-((pv-a1:Nat):Int))=((b1-1-(pv-a1):Nat):Int):=by rw[wrap64 (by omega) (by omega)];omega
      simp only[Z3,seval,-ah,hr];refine zG1 (o1 L2) fF.symm (by omega) eE (by omega) (by omega) fun L3 fT=>?_
      have fT:=fT.trans bD;rw[zf];obtain⟨p2,y7⟩:∃p2,p2=b1-1-(pv-a1):=⟨_,rfl⟩
      rw[<-y7]at Ad
      simp only[Z3,seval,-ah,BI,BH,Ad];have sM:a1<=p2∧p2<b1:=by omega
    case' neg=>
      simp only[Z3,seval,-ah,hr];obtain⟨L3,fT,e3⟩:∃L3:List PV,L3.Perm L∧L3=L2:=⟨L2,bD,rfl⟩
      rw[<-e3];obtain⟨p2,y7⟩:∃p2,p2=pv:=⟨_,rfl⟩
      rw[<-y7];have sM:a1<=p2∧p2<b1:=by omega
    all_goals
      have mb:=fT.length_eq;have k8:=hc.perm fT
      try
        refine optWp (wp:=wp) (fun hw=>?_) (fun hw=>?_)
        rotate_left
        focus simp only[Z3,seval,-ah,hw]
        rotate_left
        focus
          first
          | (simp only[Z3,seval,-ah,hw]
             refine zD7 (o1 L3) mb.symm (by omega) k8 (by omega) (by omega) (by omega) fun q=>?_
             cases q
             case' true=>(simp only[Z3,seval,-ah];exact hk _ fT)
             case' false=>simp only[Z3,seval,-ah])
          | (by_cases uz:r=1
             case' pos=>
               simp only[Z3,seval,-ah,hw,uz];refine zD7 (o1 L3) mb.symm (by omega) k8 (by omega) (by omega) (by omega) fun q=>?_
               cases q
               case' true=>(simp only[Z3,seval,-ah];exact hk _ fT)
               case' false=>simp only[Z3,seval,-ah]
             case' neg=>simp only[Z3,seval,-ah,hw,uz])
      all_goals
        have bh:=inb (show p2<L.length by omega)
        by_cases h0:(0:Int)<(a1:Int)
        case' pos=>
          obtain⟨u,w,gu,gw,-,-,-,-,-,-,-,-,⟨xu,fu,lu⟩,⟨xw,fw,dT⟩⟩:=zQ k8 (show a1-1<L3.length by omega) (show p2<L3.length by omega)
          have wa:IntKind.i64.wrap ((a1:Int)-1)=((a1-1:Nat):Int):=by rw[wrap64 (by omega) (by omega)];omega
          have bp:=inb (show a1-1<L.length by omega)
          simp only[Z3,seval,-ah,h0,wa,bp,bh,gu,gw,dV];refine qU fu fw lu dT fun c=>?_
          simp only[Z3,seval,-ah,h0,wa,bp,bh,gu,gw,dV];refine iteI (fun cL=>?_) fun cL=>?_
          rotate_left
          · refine zJz (o1 L3) mb.symm (by omega) k8 ⟨sM.1,sM.2⟩ (by omega) fun L4 i mP cD dk=>?_
            simp only[Z3,seval,-ah,zf];exact⟨_,by omega,i,b1,_,_,_,L4,mP.trans fT,dk,h2,by omega,rfl,rfl,rfl⟩
        case' neg=>simp only[Z3,seval,-ah,h0]
        all_goals
          refine zMX (o1 L3) mb.symm (by omega) k8 ⟨sM.1,sM.2⟩ (by omega) fun L4 lQ t mP uF jy=>?_
          have mP:=mP.trans fT;have A1:=mP.length_eq;have Bj:=hc.perm mP;have BK:IntKind.i64.wrap ((lQ:Int)-(a1:Int))=((lQ-a1:Nat):Int):=by rw[wrap64 (by omega) (by omega)];omega
          have BJ:IntKind.i64.wrap ((b1:Int)-(lQ:Int))=((b1-lQ:Nat):Int):=by rw[wrap64 (by omega) (by omega)];omega
          have u9:IntKind.i64.wrap ((lQ:Int)+1)=((lQ+1:Nat):Int):=wrapS (show lQ<1000 by omega) (by omega)
          simp only[Z3,seval,-ah,zf,BK,BJ,u9];refine iteI (fun om=>?_) fun om=>?_
          · refine ih (o1 L4) dw A1.symm (by omega) Bj (by omega) (by omega) (by omega) (by omega) fun L5 xE=>?_
            simp only[Z3,seval,-ah,zf,u9];exact⟨_,by omega,lQ+1,b1,_,_,_,L5,xE.trans mP,by omega,h2,by omega,rfl,rfl,rfl⟩
          · refine ih (o1 L4) dw A1.symm (by omega) Bj (by omega) (by omega) (by omega) (by omega) fun L5 xE=>?_
            simp only[Z3,seval,-ah,zf,u9];exact⟨_,by omega,a1,lQ,_,_,_,L5,xE.trans mP,by omega,by omega,by omega,rfl,rfl,rfl⟩
variable{σ:PHeap}{K:PV->PHeap->Prop}{L:List PV}{s n:Nat}{cap:Cap}
theorem zL1(hs:σ.obj s=some L)(dw:s<σ.next)(hn:n=L.length)(hL:L.length<50)(hc:CellR L)(hk:∀L',L'.Perm L->K (.tup []) (σ.set s L')):
  zA Tryz.prog 231 [.sl s 0 n cap,cmpV] σ K:=by
 have w0:IntKind.u64.wrap (n:Int)=(n:Int):=by show(n:Int) % 18446744073709551616=_;omega
 refine zB mix Tryz.func231 ?_;simp only[Z3,seval,-ah,w0];refine zKr (by omega) fun l _ _ _=>?_
 simp only[Z3,seval,-ah];refine zNH (n+1) (a:=0) (b:=n) hs dw hn (by omega) hc (by omega) (vM _) (by omega) (by omega) fun L' hp=>?_
 simp only[Z3,seval,-ah];exact hk L' hp
end Go.Proofs
namespace Go.Ab
end Go.Ab
namespace Go.Proofs
open Go.Ab Go.Lie Go.Grp
variable{h:PHeap}{O x:List Int}{P:List (List Int)}{C:List (List (List Int))}
theorem TT.nw_hyp(s:Shp O P C){i:Nat}(h:TT O i x):(∀j,0<=at_ x j∧at_ x j<=7)∧x.length<=6:=by
 refine⟨fun j=>?_,by rw[h.len];exact s.le⟩
 rcases Nat.lt_or_ge j O.length with g|g
 ·have:=h.bd j g
  have:=s.pr j g
  omega
 ·rw[at_ge (by rw[h.len];exact g)];omega
theorem zAm(s:Shp O P C){i:Nat}(h:TT O i x):(nword O x).length<=42:=by
 have e:=Z6 h.len;have h1:=Mx.nword_length (x:=x) (b:=7) (fun j=>by have:=(TT.nw_hyp s h).1 j;show(at_ x j).toNat<=7;omega) x.length
 have h2:(Mx.nw x).length=(nword O x).length:=by rw[e,List.length_map]
 have h3:=(TT.nw_hyp s h).2;have h4:(Mx.nw x).length<=x.length*7:=h1;omega
end Go.Proofs
namespace Go.Proofs
open Go.Ab Go.Lie Go.Grp
variable{σ h h':PHeap}{K:PV->PHeap->Prop}{O:List Int}{P:List (List Int)}{C:List (List (List Int))}{vO vP vC vx vL v c x:PV}{xs:List (List Int)}{b m t:Nat}{cs ds:List PV}
theorem _root_.Go.Ab.Keep.keepOf2{σ T h:PHeap}{rr:List PV}(k:Keep (T.new rr) h)(kp:Keep σ T):Keep σ h:=(kp.new rr).trans k
def PT(b:Nat)(h:PHeap)(v:PV)(m:Nat)(cs:List PV):Prop:=
 (v=.fz true .nils 0 []∧m=0∧cs=[])∨∃s off cap row,v=.sl s off m cap∧(cap=.grown 1∨∃c,cap=.known c∧m<=c∧off+c<=row.length)∧h.obj s=some row∧(row.drop off).take m=cs∧off+m<=row.length∧b<=s∧s<h.next
theorem PT.len(a:PT b h v m cs):cs.length=m:=by
 rcases a with ⟨_,rfl,rfl⟩|⟨s,off,cap,row,rfl,h1,h2,h3,h4,h5,h6⟩
 ·rfl
 ·rw[<-h3,List.length_take,List.length_drop];omega
theorem PT.of(a:PSl b 1 h v m cs):PT b h v m cs:=by
 obtain⟨s,cap,rfl,h1,h2,h3,h4,h5⟩:=a;refine .inr ⟨s,0,cap,cs,rfl,?_,h2,by rw[List.drop_zero,List.take_of_length_le (by omega)],by omega,h4,h5⟩
 rcases h1 with rfl|rfl
 ·exact .inl rfl
 ·exact .inr ⟨m,rfl,vM _,by omega⟩
theorem PT.set(a:PT b h v m cs)(ht:t<b)(ds:List PV):PT b (h.set t ds) v m cs:=by
 rcases a with a|⟨s,off,cap,row,rfl,h1,h2,h3,h4,h5,h6⟩
 ·exact .inl a
 ·exact .inr ⟨s,off,cap,row,rfl,h1,by rw[zg,if_neg (by omega)];exact h2,h3,h4,h5,h6⟩
theorem PT.pLen(a:PT b h v m cs):pLen v=some (.int .i64 m):=by
 rcases a with ⟨rfl,rfl,_⟩|⟨s,off,cap,row,rfl,_⟩<;>rfl
theorem PT.unsnoc(a:PT b h v (m+1) (cs++[c])):∃s off cap v',v=.sl s off (m+1) cap∧h.rd1 s (off+m)=some c∧Zq 1 v none (some (.int .i64 m)) none=some v'∧PT b h v' m cs:=by
 have hl:=a.len;rcases a with ⟨_,e,_⟩|⟨s,off,cap,row,rfl,h1,h2,h3,h4,h5,h6⟩
 ·cases e
 have hlen:cs.length=m:=by simpa using hl
 have e4:row[off+m]? = some c:=by
  have e:((row.drop off).take (m+1))[m]? = some c:=by
   rw[h3,List.getElem?_append_right (by omega),hlen,Nat.sub_self];rfl
  rw[List.getElem?_take_of_lt (by omega),List.getElem?_drop]at e
  exact e
 have e3:(row.drop off).take m=cs:=by
  have e:((row.drop off).take (m+1)).take m=cs:=by rw[h3,List.take_append_of_le_length (by omega),List.take_of_length_le (by omega)]
  rw[List.take_take,Nat.min_eq_left (by omega)]at e
  exact e
 have hz:(m:Int)<=((m+1:Nat):Int):=by omega
 rcases h1 with rfl|⟨k,rfl,dI,dC⟩
 ·refine⟨s,off,_,.sl s off m (.grown 1),rfl,by rw[zF h2];exact e4,?_,.inr ⟨s,off,_,row,rfl,.inl rfl,h2,e3,by omega,h5,h6⟩⟩
  simp only[Z3,seval,-ah,hz]
  rfl
 ·have uE:(m:Int)<=(k:Int):=by omega
  refine⟨s,off,_,.sl s off m (.known k),rfl,by rw[zF h2];exact e4,?_,.inr ⟨s,off,_,row,rfl,.inr ⟨k,rfl,by omega,dC⟩,h2,e3,by omega,h5,h6⟩⟩
  simp only[Z3,seval,-ah,hz,uE];rw[if_pos (show m<=k by omega)]
  simp
theorem PT.push{σb:PHeap}{bytes:Nat}{K:PV×PHeap->Prop}(iA:x.one=true)(hk:Keep σb h)(a:PT σb.next h v m cs)
  (h1:(m+1)*bytes<=140737488355328) (h2:m+1<=4611686018427387904) (k:∀v' h',Keep σb h'->PT σb.next h' v' (m+1) (cs++[x])->K (v',h')):optK (qC 1 bytes (h.new [x]) v (.sl h.next 0 1 (.known 1))) K:=by
 have hl:=a.len;rcases a with ⟨rfl,rfl,rfl⟩|⟨s,off,cap,row,rfl,q1,q2,q3,q4,q5,q6⟩
 ·exact PAcc.push hk (PAcc.nil _ _ _) h1 h2 fun v' h' k1 k2=>k v' h' k1 (.of k2)
 rw[qo];have hp:qX 1 (h.new [x]) (.sl h.next 0 1 (.known 1)) 1=some [x]:=by simp[ZY,QA]
 have eY:(h.new [x]).obj s=some row:=by simp only[PHeap.new];rw[if_neg (by omega)];exact q2
 have hn:=hk.next;simp only[plen,Option.bind_some];rw[if_neg (by omega),hp]
 simp only[Option.bind_some];rcases q1 with rfl|⟨c,rfl,c1,c2⟩
 ·rw[Qd,if_pos ⟨h1,h2,rfl⟩,eY]
  simp only[Option.bind_some];rw[if_pos (by omega),Nat.mul_one,q3]
  refine qR rfl (k _ _ (((hk.new _).kill (by omega)).new _) (.inr ⟨(h.new [x]).next,0,_,cs++[x],rfl,.inl rfl,by simp[PHeap.new,PHeap.kill],?_,by simp[hl],by simp[PHeap.new];omega,by simp[PHeap.new,PHeap.kill]⟩))
  rw[List.drop_zero,List.take_of_length_le (by simp[hl])]
 ·rw[Zr]
  by_cases hc:m+1<=c
  ·rw[if_pos hc,Nat.mul_one,ZZ eY,if_pos ⟨by simp;omega,by simp[iA]⟩]
   simp only[Option.map_some,List.length_singleton];refine qR rfl (k _ _ ((hk.new _).set q5 _) (.inr ⟨s,off,_,_,rfl,.inr ⟨c,rfl,hc,?_⟩,by rw[zg,if_pos rfl],?_,?_,q5,Nat.lt_succ_of_lt q6⟩))
   ·simp;omega
   ·have e1:(row.take (off+m)).length=off+m:=by simp;omega
    rw[List.append_assoc,List.drop_append_of_le_length (by omega),List.take_append,show((row.take (off+m)).drop off).length=m by simp;omega]
    have e2:(row.take (off+m)).drop off=cs:=by
     rw[<-q3,List.drop_take];congr 1;omega
    rw[e2,List.take_of_length_le (by omega),show m+1-m=1 by omega]
    simp
   ·simp;omega
  ·rw[if_neg hc,if_pos ⟨h1,h2⟩,zb eY,if_pos (by omega),Nat.mul_one,q3]
   simp only[Option.map_some];refine qR rfl (k _ _ ((hk.new _).new _) (.inr ⟨(h.new [x]).next,0,_,cs++[x],rfl,.inl rfl,by simp[PHeap.new],?_,by simp[hl],by simp[PHeap.new];omega,by simp[PHeap.new]⟩))
   rw[List.drop_zero,List.take_of_length_le (by simp[hl])]
theorem zE8(hL:FII vL xs)(sz:SzL xs)(hk:∀v h' rows,Keep σ h'->PSl σ.next 1 h' v xs.length rows->All2 FI rows xs->K v h'):zA Tryz.prog 38 [vL] σ K:=by
 have hb:=sz.l;obtain⟨wl,al,rl,rfl,bK⟩:=hL;refine zB mix Tryz.func38 ?_;simp only[Z3,seval,-ah];refine zC (fun m vs h'=>∃i v rows,i<=xs.length∧m=xs.length-i∧vs=[.fz wl al xs.length rl,v,.int .i64 (i:Nat)]∧Keep σ h'∧PSl σ.next 1 h' v i rows∧All2 FI rows (xs.take i)) xs.length ?_ ?_
 ·exact⟨0,_,[],by omega,by omega,rfl,zD σ _,PSl.new σ.next 1 rfl (vM _),by simpa using All2.nil _⟩
 ·rintro m vs h' ⟨i,v,rows,hi,rfl,rfl,aq,ha,aj⟩
  simp only[Z3,seval,-ah];refine iteI (fun ai=>?_) fun aE=>?_
  ·obtain⟨w4,a4,cZ⟩:=bK.rowI ai
   simp only[Z3,seval,-ah,ai,cZ];refine zA.fz (e:=1) (fun K'=>Za rfl (by have:=sz.r _ (List.getElem_mem ai);omega)) (zK _ _) fun o cap=>?_
   simp only[Z3,seval,-ah];refine PSl.push (bytes:=24) (σb:=σ) aq ha (by omega) (by omega) fun v2 h2 k2 a2=>?_
   simp only[Z3,seval,-ah,wrapS ai (by omega:xs.length<=4611686018427387904)]
   refine⟨_,by omega,i+1,v2,_,by omega,rfl,rfl,k2,a2,?_⟩
   rw[List.take_succ_eq_append_getElem ai];exact aj.snoc ⟨_,_,rfl⟩
  ·have bn:i=xs.length:=by omega
   subst bn;rw[List.take_length]at aj
   exact hk _ _ rows aq ha aj
theorem zKJ(hL:FII vL xs)(sz:SzL xs)(hk:∀v h' rows,Keep σ h'->PT σ.next h' v xs.length rows->All2 FI rows xs->K v h'):zA Tryz.prog 38 [vL] σ K:=zE8 hL sz fun v h' rows k a r=>hk v h' rows k (.of a) r
theorem zBf{x:List Int}{vx:PV}(g:LG O P C)(hR:IsPr vO vP vC O P C)(hx:gS O x)(bq:FI vx x){k:Int}(dh:-1000<=k∧k<0)(hk:∀v,FI v (Grp.pw (gm O P C) (zv O) (ginv (gS O) (gm O P C) (zv O) x) (-k).toNat)->K v σ):
  zA Tryz.prog 115 [.agg [vO,vP,vC],vx,.int .i64 k] σ K:=by
 have h0:=hR.O.one;have h1:=hR.P.one;have h2:=hR.C.one;have M:=g.F.g.toMon;have dI:k<0:=dh.2;have C6:IntKind.i64.wrap (0-k)=-k:=by rw[wrap64 (by omega) (by omega)];omega
 refine zA.gh ?_;refine zB mix Tryz.func115 ?_;simp only[Z3,seval,-ah,h0,h1,h2,dI];refine zAq g.s g.co hR hx bq fun v hv=>?_
 simp only[Z3,seval,-ah,h0,h1,h2,C6];refine zAT g.s (d:=O.length) (i:=0) (by omega) (QX g.s (by omega)) M hR (g.F.g.inv_in hx).1 hv (by omega) fun v hv=>?_
 simp only[Z3,seval,-ah];exact Gh.fin0 (zD σ _) (hv.bel _) (hk v hv)
end Go.Proofs
namespace Go.Proofs
open Go.Ab Go.Lie
structure LS where
 s:Nat
 cap:Cap
 cs:List PV
end Go.Proofs
namespace Go.Proofs
open Go.Ab Go.Lie
variable{σ:PHeap}{bs:List Int}{a:Int}
def FB(v:PV)(bs:List Int):Prop:=∃w a,v=.fz w a bs.length (bs.map (.int .u8))
theorem FB.one{v:PV}(h:FB v bs):v.one=true:=by obtain⟨w,a,rfl⟩:=h;rfl
theorem zJT(σ:PHeap)(x y:List PV):(σ.new x).set σ.next y=σ.new y:=by
 simp only[PHeap.new,PHeap.set]
 congr 1
 funext t
 split<;>rfl
end Go.Proofs
namespace Go.Proofs
open Go.Ab Go.Lie
variable{h:PHeap}{cs:List PV}
theorem zFe{h:PHeap}{t i:Nat}{cs:List PV}{v:PV}(ho:h.obj t=some cs)(hi:i<cs.length)(hv:v.one=true):h.wr t i [v]=some (h.set t (cs.set i v)):=by
 rw[ZZ ho,if_pos ⟨by simp;omega,by simp[hv]⟩]
 congr 2
 rw[List.append_assoc];exact take_set cs hi v
end Go.Proofs
namespace Go.Proofs
open Go.Ab Go.Lie
variable{σ:PHeap}{K:PV->PHeap->Prop}
theorem ownFI{v:PV}{xs:List Int}(hv:FI v xs)(hb:xs.length<=4294967296)(hk:∀v',FI v' xs->K v' σ):zA Tryz.prog 89 [v] σ K:=by
 obtain⟨w,a,rfl⟩:=hv;exact zE7 rfl hb fun v=>hk _ ⟨_,_,rfl⟩
end Go.Proofs
namespace Go.Proofs
open Go.Ab Go.Lie Go.Grp
variable{σ:PHeap}{K:PV->PHeap->Prop}{O:List Int}{P:List (List Int)}{C:List (List (List Int))}{vO vP vC vy:PV}{x y:List Int}
theorem zGW:isExp O x↔gS O x:=by
 constructor
 ·rintro⟨h1,h2⟩
  exact⟨h1,fun j hj=>by have:=h2 j (by omega);omega,fun j hj=>by omega⟩
 ·intro h
  exact⟨h.len,fun j hj=>by have:=h.bd j (by rw[<-h.len];exact hj);omega⟩
theorem zGO(hR:IsPr vO vP vC O P C)(lx:O.length<=1048576)(bO:∀o∈O,isP o)(hy:FI vy y)(hb:y.length<=1048576)(hk:∀t:Bool,(t=true↔isExp O y)->K (.bool t) σ):zA Tryz.prog 62 [.agg [vO,vP,vC],vy] σ K:=by
 have h0:=hR.O.one;have h1:=hR.P.one;have h2:=hR.C.one;refine zA.gh ?_;refine zB mix Tryz.func62 ?_;simp only[Z3,seval,-ah,h0,h1,h2];refine ZU (t:=0) (by omega) (Nat.zero_le _) hR.O lx bO hy hb fun t ht=>?_
 simp only[Z3,seval,-ah];exact Gh.fin0 (zD σ _) trivial (hk _ (ht.trans ⟨fun h=>h.1,fun h=>⟨h,fun x hx=>by simp at hx⟩⟩))
end Go.Proofs
namespace Go.Proofs
open Go.Ab Go.Lie Go.Grp
variable{σ h h':PHeap}{K:PV->PHeap->Prop}{O x y:List Int}{P:List (List Int)}{C:List (List (List Int))}{vO vP vC vx:PV}{D R:List (Option (List Int))}{rb:List PV}{d n sT:Nat}
def DRf(n:Nat)(c:PV)(r:Option (List Int)):Prop:=(c=.fz true .nils 0 []∧r=none)∨∃w a y,c=.fz w a n (pis y)∧y.length=n∧r=some y
theorem DRf.bel{c:PV}{r:Option (List Int)}(h:DRf n c r):Bel 0 c:=by
 rcases h with ⟨rfl,_⟩|⟨w,a,y,rfl,_⟩
 ·trivial
 ·rename_i e2;obtain⟨hl,_⟩:=e2;subst hl;exact FI.bel ⟨w,a,rfl⟩ 0
theorem DRf.bels(h:All2 (DRf n) rb D)(m:Nat):Bels m rb:=by
 refine Zj.2 fun c hc=>?_
 obtain⟨k,hk,rfl⟩:=List.mem_iff_getElem.1 hc;exact(DRf.bel (h.2 k _ _ (vX hk) (vX (by rw[<-h.1];exact hk)))).up (Nat.zero_le _)
theorem DRf.get(h:All2 (DRf n) rb D){d:Nat}(hd:d<D.length):(rb[d]? = some (.fz true .nils 0 [])∧D[d]? = some none)∨∃w a y,rb[d]? = some (.fz w a n (pis y))∧y.length=n∧D[d]? = some (some y):=by
 have hb:d<rb.length:=by rw[h.1];exact hd
 rw[vX hb,vX hd];rcases h.2 d _ _ (vX hb) (vX hd)with ⟨e1,e2⟩|⟨w,a,y,e1,e3,e2⟩
 ·exact .inl ⟨by rw[e1],by rw[e2]⟩
 ·exact .inr ⟨w,a,y,by rw[e1],e3,by rw[e2]⟩
theorem DRf.put(h:All2 (DRf n) rb D){v:PV}(hv:FI v y)(hy:y.length=n):All2 (DRf n) (rb.set d v) (D.set d (some y)):=by
 obtain⟨w,a,rfl⟩:=hv;refine⟨by rw[List.length_set,List.length_set];exact h.1,fun k c r hc hr=>?_⟩
 rw[List.getElem?_set]at hc hr
 by_cases e:d=k
 ·rw[if_pos e]at hc hr
  split at hc
  ·split at hr
   ·cases hc;cases hr;exact .inr ⟨w,a,y,by rw[hy],hy,rfl⟩
   ·cases hr
  ·cases hc
 ·rw[if_neg e]at hc hr
  exact h.2 k c r hc hr
theorem DRf.start(n m:Nat):All2 (DRf n) (List.replicate m (.fz true .nils 0 [])) (List.replicate m none):=by
 refine⟨by simp,fun k c r hc hr=>?_⟩
 rw[List.getElem?_replicate]at hc hr
 split at hc
 ·rename_i h
  rw[if_pos h]at hr
  cases hc;cases hr;exact .inl ⟨rfl,rfl⟩
 ·cases hc
theorem zHb(g:LG O P C)(hR:IsPr vO vP vC O P C)(hT:σ.obj sT=some rb)(yI:sT<σ.next)(hD:OkD O D)(bB:All2 (DRf O.length) rb D)(hx:gS O x)(bq:FI vx x)
  (hk:∀v z,FI v z->gS O z->(dep z<O.length->D[dep z]? = some none)->Rdu O P C D x z->K (.tup [.int .i64 (dep z),v]) σ):zA Tryz.prog 114 [.agg [vO,vP,vC],.sl sT 0 O.length (.known O.length),vx] σ K:=by
 have h0:=hR.O.one;have h1:=hR.P.one;have h2:=hR.C.one;have s:=g.s;have F:=g.F;have G:=F.g;have bJ:=s.le;have dz:=hx.len;refine zA.gh ?_;have aC:¬sT=σ.next:=Nat.ne_of_lt yI;refine zB mix Tryz.func114 ?_;simp only[Z3,seval,-ah,h0,h1,h2];refine ownFI bq (by omega) fun v0 gF=>?_
 simp only[Z3,seval,-ah];refine zC (fun m vs h'=>∃(d:Nat) (z:List Int) (v:PV),d<=O.length∧m=O.length-d∧vs=[.sl sT 0 O.length (.known O.length),.ptr σ.next 0,v,.int .i64 d]∧σ.new [vO,vP,vC]=h'∧TT O d z∧FI v z∧Rdu O P C D x z) O.length ⟨0,x,v0,by omega,by omega,rfl,rfl,hx,gF,.refl _⟩ ?_
 rintro m vs h' ⟨d,z,v,hd,rfl,rfl,rfl,hz,hv,hr⟩
 have r6:gS O z:=hz.mono (Nat.zero_le _);have di:=hz.len;simp only[Z3,seval,-ah];refine iteI (fun ai=>?_) fun aE=>?_
 rotate_left
 ·have Dq:d=O.length:=by omega
  subst Dq;have eM:z=zv O:=hz.ext (s.zv _) fun j h1 h2=>by omega
  have hdz:dep z=O.length:=by rw[eM];exact zJP s
  exact Gh.fin0 (zD σ _) ⟨trivial,hv.bel _,trivial⟩ (by rw[<-hdz];exact hk v z hv r6 (fun h=>by omega) hr)
 have ak:d<O.length:=by omega
 have hdz:d<z.length:=by omega
 obtain⟨wz,az,rfl⟩:=hv;have uq:FI (.fz wz az z.length (pis z)) z:=⟨wz,az,rfl⟩;have w1:IntKind.i64.wrap ((d:Int)+1)=((d+1:Nat):Int):=by rw[wrap64 (by omega) (by omega)];omega
 have bz:=r6.bd d ak;have bO:=s.pr d ak
 by_cases eM:at_ z d=0
 ·simp only[Z3,seval,-ah,hdz,pisAt hdz,eM,w1]
  refine⟨_,by omega,d+1,z,_,by omega,rfl,rfl,⟨hz.len,hz.bd,fun j hj=>?_⟩,uq,hr⟩
  rcases Nat.lt_or_ge j d with h|h
  ·exact hz.zero j h
  ·rw[show j=d by omega];exact eM
 have cH:=zF hT d;rcases DRf.get bB (d:=d) (by rw[hD.len];exact ak)with ⟨e1,e2⟩|⟨w,a,y,e1,e3,e2⟩
 ·rw[e1]at cH
  have Ba:dep z=d:=zGh (fun j hj=>hz.zero j hj) eM
  simp only[Z3,seval,-ah,hdz,pisAt hdz,eM,ak,aC,cH];exact Gh.fin0 (zD σ _) ⟨trivial,uq.bel _,trivial⟩ (by rw[<-Ba];exact hk _ z uq r6 (fun _=>by rw[Ba];exact e2) hr)
 ·rw[e1]at cH
  obtain⟨y1,y2⟩:=hD.row _ _ e2;have yS:gS O y:=y1.mono (Nat.zero_le _);have xK:¬((O.length:Int)=0):=by omega
  have fJ:IntKind.i64.wrap (0-at_ z d)=-at_ z d:=by rw[wrap64 (by omega) (by omega)];omega
  simp only[Z3,seval,-ah,hdz,pisAt hdz,eM,ak,aC,cH,xK,h0,h1,h2,fJ];refine zBf g hR yS ⟨w,a,by rw[e3]⟩ (k:=-at_ z d) (by omega) fun v1 f1=>?_
  rw[Int.neg_neg]at f1
  obtain⟨q1,q2,q3,q4⟩:=zBP s F g.cent ak r6 y1 y2;have q5:TT O (d+1) (gm O P C z (Grp.pw (gm O P C) (zv O) (ginv (gS O) (gm O P C) (zv O) y) (at_ z d).toNat)):=⟨q1.len,q1.bd,fun j hj=>by
   rcases Nat.lt_or_ge j d with h|h
   ·rw[q3 j h];exact hz.zero j h
   ·rw[show j=d by omega];exact q4⟩
  have nV:=hr.trans (Rdu.stepR s F g.cent hD e2 ak hz eM q1 q2 q5);simp only[Z3,seval,-ah,h0,h1,h2];refine qP s hR r6 (G.pw (G.inv_in yS).1 _) uq f1 fun v2 f2=>?_
  simp only[Z3,seval,-ah,w1];exact⟨_,by omega,d+1,_,v2,by omega,rfl,rfl,q5,f2,nV⟩
structure FullI(O:List Int)(P:List (List Int))(C:List (List (List Int)))(D R:List (Option (List Int)))(k:Nat):Prop where
 len:R.length=O.length
 dom:∀d,k<=d->d<O.length->((∃y,R[d]? = some (some y))↔∃y,D[d]? = some (some y))
 row:∀(d:Nat) (y:List Int),k<=d->R[d]? = some (some y)->TT O d y∧at_ y d=1
 red:∀(d e:Nat) (y z:List Int),k<=d->k<=e->d≠e->R[d]? = some (some y)->R[e]? = some (some z)->at_ y e=0
 iff:∀N,gB O P C N->((∀(d:Nat) (y:List Int),k<=d->R[d]? = some (some y)->N y)↔∀(d:Nat) (y:List Int),k<=d->D[d]? = some (some y)->N y)
theorem FullI.start(n:Nat)(hn:O.length=n)(hD:D.length=n):FullI O P C D (List.replicate n none) n:=by
 have no:∀{E:List (Option (List Int))} {d y},E.length=n->n<=d->E[d]? = some (some y)->False:=fun hE hd h=>by
  rw[List.getElem?_eq_none (by omega)]at h;cases h
 exact⟨by simp[hn],fun d h1 h2=>by omega,fun d y h1 h2=>(no (by simp) h1 h2).elim,fun d e y z h1 _ _ h2=>(no (by simp) h1 h2).elim,fun N _=>⟨fun _ d y h1 h2=>(no hD h1 h2).elim,fun _ d y h1 h2=>(no (by simp) h1 h2).elim⟩⟩
theorem FullI.skip{k:Nat}(f:FullI O P C D R (k+1))(hk:k<O.length)(h1:D[k]? = some none)(h2:R[k]? = some none):FullI O P C D R k:=by
 have up:∀{d:Nat} {y:List Int},k<=d->(R[d]? = some (some y)∨D[d]? = some (some y))->k+1<=d:=fun {d y} hd h=>by
  rcases Nat.lt_or_ge k d with e|e
  ·exact e
  ·rw[show d=k by omega,h1,h2]at h
   rcases h with h|h<;>cases h
 refine⟨f.len,fun d a b=>?_,fun d y a b=>f.row d y (up a (.inl b)) b,fun d e y z a b c h h'=>f.red d e y z (up a (.inl h)) (up b (.inl h')) c h h',fun N hN=>?_⟩
 ·constructor
  ·rintro⟨y,hy⟩;exact(f.dom d (up a (.inl hy)) b).1 ⟨y,hy⟩
  ·rintro⟨y,hy⟩;exact(f.dom d (up a (.inr hy)) b).2 ⟨y,hy⟩
 ·constructor
  ·intro g d y a b
   exact(f.iff N hN).1 (fun d y a' b'=>g d y (by omega) b') d y (up a (.inr b)) b
  ·intro g d y a b
   exact(f.iff N hN).2 (fun d y a' b'=>g d y (by omega) b') d y (up a (.inl b)) b
theorem FullI.put{k:Nat}{x y:List Int}(f:FullI O P C D R (k+1))(hk:k<O.length)(h1:D[k]? = some (some y))(hx:TT O k x)(iA:at_ x k=1)(hz:∀(e:Nat) (z:List Int),k<e->R[e]? = some (some z)->at_ x e=0)
  (hN:∀N,gB O P C N->(∀(d:Nat) (y:List Int),k+1<=d->R[d]? = some (some y)->N y)->(N y↔N x)):FullI O P C D (R.set k (some x)) k:=by
 have hl:k<R.length:=by rw[f.len];exact hk
 have ge:∀{d:Nat} {w:List Int},(R.set k (some x))[d]? = some (some w)->(d=k∧w=x)∨(d≠k∧R[d]? = some (some w)):=fun {d w} h=>by
  rw[List.getElem?_set]at h
  split at h
  ·rename_i e
   cases h;exact .inl ⟨e.symm,rfl⟩
  ·rename_i e;exact .inr ⟨fun h=>e h.symm,h⟩
 have tX:(R.set k (some x))[k]? = some (some x):=by rw[List.getElem?_set,if_pos rfl,if_pos hl]
 have tW:∀{d:Nat} {w:List Int},d≠k->R[d]? = some (some w)->(R.set k (some x))[d]? = some (some w):=fun {d w} h e=>by rw[List.getElem?_set,if_neg (fun h'=>h h'.symm)];exact e
 refine⟨by rw[List.length_set];exact f.len,fun d a b=>?_,fun d w a b=>?_,fun d e w z a b c h h'=>?_,fun N lJ=>?_⟩
 ·by_cases e:d=k
  ·subst e;exact⟨fun _=>⟨y,h1⟩,fun _=>⟨x,tX⟩⟩
  ·constructor
   ·rintro⟨w,hw⟩
    rcases ge hw with ⟨e',_⟩|⟨_,hw⟩
    ·exact absurd e' e
    ·exact(f.dom d (by omega) b).1 ⟨w,hw⟩
   ·rintro⟨w,hw⟩
    obtain⟨z,dU⟩:=(f.dom d (by omega) b).2 ⟨w,hw⟩
    exact⟨z,tW e dU⟩
 ·rcases ge b with ⟨rfl,rfl⟩|⟨e,hw⟩
  ·exact⟨hx,iA⟩
  ·exact f.row d w (by omega) hw
 ·rcases ge h with ⟨e1,e2⟩|⟨e1,hw⟩
  ·rcases ge h' with ⟨e3,_⟩|⟨e3,dU⟩
   ·omega
   ·rw[e2];exact hz e z (by omega) dU
  ·rcases ge h' with ⟨e3,e4⟩|⟨e3,dU⟩
   ·have:=(f.row d w (by omega) hw).1.zero
    rw[e3];exact this k (by omega)
   ·exact f.red d e w z (by omega) (by omega) c hw dU
 ·have key:((∀(d:Nat) (w:List Int),k<=d->(R.set k (some x))[d]? = some (some w)->N w)↔(N x∧∀(d:Nat) (w:List Int),k+1<=d->R[d]? = some (some w)->N w)):=by
   constructor
   ·intro h
    exact⟨h k x (vM _) tX,fun d w a b=>h d w (by omega) (tW (by omega) b)⟩
   ·rintro⟨h2,h3⟩ d w a b
    rcases ge b with ⟨_,rfl⟩|⟨e,hw⟩
    ·exact h2
    ·exact h3 d w (by omega) hw
  have wK:((∀(d:Nat) (w:List Int),k<=d->D[d]? = some (some w)->N w)↔(N y∧∀(d:Nat) (w:List Int),k+1<=d->D[d]? = some (some w)->N w)):=by
   constructor
   ·intro h
    exact⟨h k y (vM _) h1,fun d w a b=>h d w (by omega) b⟩
   ·rintro⟨h2,h3⟩ d w a b
    by_cases e:d=k
    ·subst e;rw[h1]at b;cases b;exact h2
    ·exact h3 d w (by omega) b
  rw[key,wK,<-f.iff N lJ];constructor
  ·rintro⟨a,b⟩;exact⟨(hN N lJ b).2 a,b⟩
  ·rintro⟨a,b⟩;exact⟨(hN N lJ b).1 a,b⟩
end Go.Proofs
namespace Go.Proofs
open Go.Ab Go.Lie Go.Grp
variable{σ h h':PHeap}{K:PV->PHeap->Prop}{O x y:List Int}{P:List (List Int)}{C:List (List (List Int))}{vO vP vC:PV}{D R:List (Option (List Int))}{rb rr:List PV}{d n sT:Nat}
def rowsD(R:List (Option (List Int)))(k:Nat):List (List Int):=(R.take k).filterMap id
theorem zBV{k:Nat}(h:R[k]? = some none):rowsD R (k+1)=rowsD R k:=by
 unfold rowsD;have hl:k<R.length:=by
  rcases Nat.lt_or_ge k R.length with e|e
  ·exact e
  ·rw[List.getElem?_eq_none e]at h;cases h
 rw[vX hl]at h
 rw[List.take_succ_eq_append_getElem hl,List.filterMap_append,Option.some.inj h]
 simp
theorem zBU{k:Nat}(h:R[k]? = some (some y)):rowsD R (k+1)=rowsD R k++[y]:=by
 unfold rowsD;have hl:k<R.length:=by
  rcases Nat.lt_or_ge k R.length with e|e
  ·exact e
  ·rw[List.getElem?_eq_none e]at h;cases h
 rw[vX hl]at h
 rw[List.take_succ_eq_append_getElem hl,List.filterMap_append,Option.some.inj h]
 simp
theorem zE0(k:Nat):(rowsD R k).length<=k:=by
 unfold rowsD;refine Nat.le_trans (List.length_filterMap_le _ _) ?_;rw[List.length_take];omega
theorem Qo{v:List Int}{k:Nat}:v∈rowsD R k↔∃d,d<k∧R[d]? = some (some v):=by
 unfold rowsD;rw[List.mem_filterMap];constructor
 ·rintro⟨o,ho,rfl⟩
  obtain⟨d,hd,e⟩:=List.mem_iff_getElem.1 ho;rw[List.length_take]at hd
  refine⟨d,by omega,?_⟩
  rw[List.getElem_take]at e
  rw[vX (by omega),e]
 ·rintro⟨d,hd,e⟩
  have hl:d<R.length:=by
   rcases Nat.lt_or_ge d R.length with e'|e'
   ·exact e'
   ·rw[List.getElem?_eq_none e']at e;cases e
  refine⟨some v,?_,rfl⟩;rw[List.mem_take_iff_getElem];rw[vX hl]at e
  exact⟨d,by omega,Option.some.inj e⟩
theorem zCf(hy:TT O d y)(h1:at_ y d=1):dep y=d:=zGh (fun j hj=>hy.zero j hj) (by rw[h1];decide)
theorem zJW(f:FullI O P C D R 0)(hD:OkD O D):CanD O P C D (rowsD R O.length):=by
 have hR:∀{d:Nat} {y:List Int},R[d]? = some (some y)->d<O.length:=fun {d y} h=>by
  rw[<-f.len];rcases Nat.lt_or_ge d R.length with e|e
  ·exact e
  ·rw[List.getElem?_eq_none e]at h;cases h
 have get:∀{v:List Int},v∈rowsD R O.length->∃d,d<O.length∧R[d]? = some (some v)∧TT O d v∧at_ v d=1∧dep v=d:=fun {v} hv=>by
  obtain⟨d,hd,e⟩:=Qo.1 hv;obtain⟨h1,h2⟩:=f.row d v (Nat.zero_le _) e;exact⟨d,hd,e,h1,h2,zCf h1 h2⟩
 refine⟨fun v hv=>?_,?_,fun v hv w hw aC=>?_,fun d y hy=>?_,zE0 _,fun N hN=>?_⟩
 ·obtain⟨d,hd,e,h1,h2,h3⟩:=get hv
  exact⟨h1.mono (Nat.zero_le _),by omega,by rw[h3];exact h2⟩
 ·have:∀k,k<=O.length->(rowsD R k).Pairwise fun a b=>dep a<dep b:=by
   intro k
   induction k with
   |zero=>intro _;simp[rowsD]
   |succ k ih=>
    intro hk;have hl:k<R.length:=by rw[f.len];omega
    rcases hc:R[k]? with _|_|y
    ·rw[vX hl]at hc;cases hc
    ·rw[zBV hc];exact ih (by omega)
    ·rw[zBU hc,List.pairwise_append]
     obtain⟨h1,h2⟩:=f.row k y (Nat.zero_le _) hc;refine⟨ih (by omega),by simp,fun a ha b hb=>?_⟩
     rw[List.mem_singleton.1 hb,zCf h1 h2];obtain⟨d,hd,e⟩:=Qo.1 ha;obtain⟨h3,h4⟩:=f.row d a (Nat.zero_le _) e
     have:=zCf h3 h4;omega
  exact this _ (vM _)
 ·obtain⟨d,hd,e,h1,h2,h3⟩:=get hv
  obtain⟨d',gC,e',jn,lK,yX⟩:=get hw;rw[yX];exact f.red d d' v w (Nat.zero_le _) (Nat.zero_le _) (by omega) e e'
 ·have hd:d<O.length:=by
   rw[<-hD.len];rcases Nat.lt_or_ge d D.length with e|e
   ·exact e
   ·rw[List.getElem?_eq_none e]at hy;cases hy
  obtain⟨z,hz⟩:=(f.dom d (Nat.zero_le _) hd).2 ⟨y,hy⟩;obtain⟨h1,h2⟩:=f.row d z (Nat.zero_le _) hz;exact⟨z,Qo.2 ⟨d,hd,hz⟩,zCf h1 h2⟩
 ·constructor
  ·intro h
   exact fun d y hy=>(f.iff N hN).1 (fun d y _ hy=>h y (Qo.2 ⟨d,hR hy,hy⟩)) d y (Nat.zero_le _) hy
  ·intro h v hv
   obtain⟨d,hd,e⟩:=Qo.1 hv;exact(f.iff N hN).2 (fun d y _ hy=>h d y hy) d v (Nat.zero_le _) e
theorem zIx(g:LG O P C)(hR:IsPr vO vP vC O P C)(hT:σ.obj sT=some rb)(yI:sT<σ.next)(hD:OkD O D)(bB:All2 (DRf O.length) rb D)
  (hk:∀v u,FII v u->CanD O P C D u->K v σ):zA Tryz.prog 118 [.agg [vO,vP,vC],.sl sT 0 O.length (.known O.length)] σ K:=by
 have h0:=hR.O.one;have h1:=hR.P.one;have h2:=hR.C.one;have s:=g.s;have F:=g.F;have G:=F.g;have bJ:=s.le;refine zA.gh ?_;have aC:¬sT=σ.next:=Nat.ne_of_lt yI;have sh:IntKind.i64.wrap ((O.length:Int)-1)=(O.length:Int)-1:=wrap64 (by omega) (by omega)
 refine zB mix Tryz.func118 ?_;simp only[Z3,seval,-ah,h0,h1,h2,mk24 (n:=O.length) (by omega),mkL (n:=O.length) (by omega),sh]
 have jX:(σ.new [vO,vP,vC]).rd σ.next 0 3=some [vO,vP,vC]:=by simp only[Z3,seval,-ah]
 have DD:(σ.new [vO,vP,vC]).obj sT=some rb:=by simp only[Z3,seval,-ah,aC];exact hT
 have nX:(σ.new [vO,vP,vC]).next=σ.next+1:=rfl;have kp:Keep σ (σ.new [vO,vP,vC]):=zD σ _;generalize σ.new [vO,vP,vC]=T at *
 rw[<-nX];have Dz:Bel T.next vO∧Bel T.next vP∧Bel T.next vC:=⟨hR.O.bel _,hR.P.bel _,hR.C.bel _⟩;refine zC (fun m vs h'=>∃(k:Nat) (R:List (Option (List Int))) (rr:List PV),m=k∧k<=O.length∧vs=[.sl sT 0 O.length (.known O.length),.ptr σ.next 0,.sl T.next 0 O.length (.known O.length),.int .i64 ((k:Int)-1)]∧h'=T.new rr∧All2 (DRf O.length) rr R∧FullI O P C D R k∧(∀d,d<k->R[d]? = some none)) O.length ?_ ?_
 ·exact⟨O.length,List.replicate O.length none,_,rfl,vM _,rfl,rfl,DRf.start _ _,FullI.start _ rfl hD.len,fun d hd=>by rw[List.getElem?_replicate,if_pos hd]⟩
 rintro m vs h' ⟨k,R,rr,rfl,eC,rfl,rfl,sC,hf,de⟩
 have l8:(T.new rr).obj T.next=some rr:=by rw[zH,if_pos rfl]
 have xI:(T.new rr).obj sT=some rb:=by rw[zH,if_neg (by omega)];exact DD
 have jA:(T.new rr).rd σ.next 0 3=some [vO,vP,vC]:=by rw[QA,if_neg (by omega)];exact jX
 have om:rr.length=O.length:=by rw[sC.1];exact hf.len
 rcases Nat.eq_zero_or_pos m with rfl|bj
 ·simp only[Z3,seval,-ah,show ¬((0:Int)<=((0:Nat):Int)-1) by omega]
  refine zC (fun m vs h'=>∃(i:Nat) (v:PV) (cs:List PV),i<=O.length∧m=O.length-i∧vs=[.sl T.next 0 O.length (.known O.length),v,.int .i64 i]∧Keep (T.new rr) h'∧PSl (T.new rr).next 1 h' v (rowsD R i).length cs∧All2 FI cs (rowsD R i)) O.length ?_ ?_
  ·exact⟨0,_,[],by omega,by omega,rfl,zD _ _,PSl.new (h:=T.new rr) (cs:=[]) (T.next+1) 1 rfl (vM _),All2.nil _⟩
  rintro m vs h' ⟨i,v,cs,hi,rfl,rfl,kk,ps,aj⟩
  have bK:=zE0 (R:=R) i;have cH:=zF (h:=h') (by rw[kk.obj _ (by show T.next<T.next+1;omega)];exact l8) i
  simp only[Z3,seval,-ah];refine iteI (fun ai=>?_) fun aE=>?_
  rotate_left
  ·have bn:i=O.length:=by omega
   subst bn;have qe:=zJW hf hD;have uf:=kk.keepOf2 kp;have jg:σ.next<=(T.new rr).next:=by show σ.next<=T.next+1;omega
   have Cc:PSl σ.next 1 h' v (rowsD R O.length).length cs:=by
    obtain⟨s1,jN,a1,a2,a3,a4,a5,a6⟩:=ps;exact⟨s1,jN,a1,a2,a3,a4,by omega,a6⟩
   exact Cc.fin uf (aj.bI 0) fun o cap=>hk _ _ ⟨_,_,_,rfl,aj⟩ qe
  have ak:i<O.length:=by omega
  rcases DRf.get sC (d:=i) (by rw[hf.len];exact ak)with ⟨e1,e2⟩|⟨w,a,y,e1,e3,e2⟩
  ·rw[e1]at cH
   simp only[Z3,seval,-ah,ak,cH,wrapS ak (by omega:O.length<=4611686018427387904)]
   exact⟨_,by omega,i+1,v,cs,by omega,rfl,rfl,kk,by rw[zBV e2];exact ps,by rw[zBV e2];exact aj⟩
  ·rw[e1]at cH
   have aF:(0:Int)<(O.length:Int):=by omega
   simp only[Z3,seval,-ah,ak,cH,aF];refine PSl.push (bytes:=24) (σb:=T.new rr) kk ps (by omega) (by omega) fun v2 h2 k2 a2=>?_
   simp only[Z3,seval,-ah,wrapS ak (by omega:O.length<=4611686018427387904)]
   refine⟨_,by omega,i+1,v2,cs++[.fz w a O.length (pis y)],by omega,rfl,rfl,k2,?_,?_⟩
   ·rw[zBU e2,List.length_append];exact a2
   ·rw[zBU e2];exact aj.snoc ⟨w,a,by rw[e3]⟩
 obtain⟨k,rfl⟩:∃k,m=k+1:=⟨m-1,by omega⟩
 have e:((k+1:Nat):Int)-1=(k:Int):=by omega
 have fK:k<O.length:=eC;rw[e];have l5:=zF xI k;have CK:=zF l8 k;have jS:IntKind.i64.wrap ((k:Int)-1)=(k:Int)-1:=wrap64 (by omega) (by omega)
 rcases DRf.get bB (d:=k) (by rw[hD.len];exact fK)with ⟨e1,e2⟩|⟨w,a,y,e1,e3,e2⟩
 ·rw[e1]at l5
  simp only[Z3,seval,-ah,fK,l5,jS];exact⟨k,Nat.lt_succ_self k,k,R,rr,rfl,by omega,rfl,rfl,sC,hf.skip fK e2 (de k (Nat.lt_succ_self k)),fun d hd=>de d (by omega)⟩
 rw[e1]at l5
 obtain⟨y1,y2⟩:=hD.row _ _ e2;have yS:gS O y:=y1.mono (Nat.zero_le _);have xK:¬((O.length:Int)=0):=by omega
 have w1:IntKind.i64.wrap ((k:Int)+1)=((k+1:Nat):Int):=by rw[wrap64 (by omega) (by omega)];omega
 simp only[Z3,seval,-ah,fK,l5,xK,w1];refine zC (fun m vs h'=>∃(e:Nat) (x:List Int) (v:PV),k+1<=e∧e<=O.length∧m=O.length-e∧vs=[.sl sT 0 O.length (.known O.length),.ptr σ.next 0,.sl T.next 0 O.length (.known O.length),.int .i64 k,v,.int .i64 e]∧h'=T.new rr∧FI v x∧TT O k x∧at_ x k=1∧(∀(j:Nat) (z:List Int),k<j->j<e->R[j]? = some (some z)->at_ x j=0)∧(∀N,gB O P C N->(∀(d:Nat) (y:List Int),k+1<=d->R[d]? = some (some y)->N y)->(N y↔N x))) (O.length-(k+1)) ?_ ?_
 ·exact⟨k+1,y,.fz w a O.length (pis y),vM _,eC,by omega,rfl,rfl,⟨w,a,by rw[e3]⟩,y1,y2,fun j z h1 h2=>by omega,fun _ _ _=>Iff.rfl⟩
 rintro m vs h' ⟨e,x,v,eP,EW,rfl,rfl,rfl,hv,hx,iA,eK,hN⟩
 have xS:gS O x:=hx.mono (Nat.zero_le _);have dz:=hx.len;obtain⟨wx,ax,rfl⟩:=hv;have bq:FI (.fz wx ax x.length (pis x)) x:=⟨wx,ax,rfl⟩;simp only[Z3,seval,-ah];refine iteI (fun ai=>?_) fun aE=>?_
 rotate_left
 ·have Dm:e=O.length:=by omega
  subst Dm;have lz:=zFe l8 (i:=k) (v:=.fz wx ax x.length (pis x)) (by omega) bq.one
  rw[dz]at lz bq
  have CF:(T.new rr).set T.next (rr.set k (.fz wx ax O.length (pis x)))=T.new (rr.set k (.fz wx ax O.length (pis x))):=zJT T rr _;rw[CF]at lz
  simp only[Z3,seval,-ah,dz,fK,lz,jS];refine⟨k,Nat.lt_succ_self k,k,R.set k (some x),rr.set k (.fz wx ax O.length (pis x)),rfl,by omega,rfl,rfl,DRf.put sC (by rw[<-dz];exact⟨wx,ax,rfl⟩) dz,hf.put fK e2 hx iA (fun j z h1 h2=>?_) hN,fun d hd=>?_⟩
  ·have hj:j<O.length:=by
    rw[<-hf.len];rcases Nat.lt_or_ge j R.length with e|e
    ·exact e
    ·rw[List.getElem?_eq_none e]at h2;cases h2
   exact eK j z h1 hj h2
  ·rw[List.getElem?_set,if_neg (by omega)];exact de d (by omega)
 have ak:e<O.length:=by omega
 have ky:=zF l8 e;have hex:e<x.length:=by omega
 have w2:IntKind.i64.wrap ((e:Int)+1)=((e+1:Nat):Int):=by rw[wrap64 (by omega) (by omega)];omega
 rcases DRf.get sC (d:=e) (by rw[hf.len];exact ak)with ⟨f1,f2⟩|⟨w',a',r,f1,f3,f2⟩
 ·rw[f1]at ky
  have kd:¬((0:Int)<((0:Nat):Int)):=by decide
  simp only[Z3,seval,-ah,ak,ky,w2,kd,decide_false];refine⟨_,by omega,e+1,x,_,by omega,by omega,rfl,rfl,bq,hx,iA,fun j z h1 h2 h3=>?_,hN⟩
  rcases Nat.lt_or_ge j e with h|h
  ·exact eK j z h1 h h3
  ·rw[show j=e by omega,f2]at h3;cases h3
 rw[f1]at ky
 obtain⟨r1,r2⟩:=hf.row e r (by omega) f2
 have rS:gS O r:=r1.mono (Nat.zero_le _);have bx:=xS.bd e ak;have bO:=s.pr e ak;have aF:(0:Int)<(O.length:Int):=by omega
 by_cases hz:at_ x e=0
 ·simp only[Z3,seval,-ah,ak,ky,aF,decide_true,hex,pisAt hex,hz,w2]
  refine⟨_,by omega,e+1,x,_,by omega,by omega,rfl,rfl,bq,hx,iA,fun j z h1 h2 h3=>?_,hN⟩
  rcases Nat.lt_or_ge j e with h|h
  ·exact eK j z h1 h h3
  ·rw[show j=e by omega];exact hz
 have fJ:IntKind.i64.wrap (0-at_ x e)=-at_ x e:=by rw[wrap64 (by omega) (by omega)];omega
 obtain⟨q1,q2,q3,q4⟩:=zBP s F g.cent ak xS r1 r2;simp only[Z3,seval,-ah,ak,ky,aF,decide_true,hex,pisAt hex,hz,jA,fJ];refine zBf g hR rS ⟨w',a',by rw[f3]⟩ (k:=-at_ x e) (by omega) fun v1 g1=>?_
 rw[Int.neg_neg]at g1
 simp only[Z3,seval,-ah,jA];refine qP s hR xS (G.pw (G.inv_in rS).1 _) bq g1 fun v2 g2=>?_
 simp only[Z3,seval,-ah,w2];generalize gm O P C x (Grp.pw (gm O P C) (zv O) (ginv (gS O) (gm O P C) (zv O) r) (at_ x e).toNat)=x' at *
 refine⟨_,by omega,e+1,x',v2,by omega,by omega,rfl,rfl,g2,⟨q1.len,q1.bd,fun j hj=>by rw[q3 j (by omega)];exact hx.zero j hj⟩,by rw[q3 k (by omega)];exact iA,fun j z h1 h2 h3=>?_,fun N iV ld=>(hN N iV ld).trans ?_⟩
 ·rcases Nat.lt_or_ge j e with h|h
  ·rw[q3 j h];exact eK j z h1 h h3
  ·rw[show j=e by omega];exact q4
 ·have hr:=ld e r (by omega) f2
  have hp:=iV.pw hr (at_ x e).toNat;constructor
  ·intro h;rw[<-q2]at h;exact iV.quotR G hp q1 h
  ·intro h;rw[<-q2];exact iV.cl h hp
end Go.Proofs
namespace Go.Proofs
open Go.Ab Go.Lie Go.Grp
variable{σ h h':PHeap}{K:PV->PHeap->Prop}{O x y:List Int}{P:List (List Int)}{C:List (List (List Int))}{vO vP vC vL:PV}{L:List (List Int)}{D R:List (Option (List Int))}{rb:List PV}{d n:Nat}
theorem All2.unsnoc{α β:Type}{R:α->β->Prop}{us:List α}{bs:List β}{b:β}(h:All2 R us (bs++[b])):∃Ah a,us=Ah++[a]∧All2 R Ah bs∧R a b:=by
 have hl:=h.1;rw[List.length_append,List.length_singleton]at hl
 have aC:us≠[]:=fun e=>by rw[e]at hl;simp at hl
 refine⟨us.dropLast,us.getLast aC,(List.dropLast_concat_getLast aC).symm,⟨by rw[List.length_dropLast];omega,fun k c r hc hr=>?_⟩,?_⟩
 ·have hk:k<us.dropLast.length:=by
   rcases Nat.lt_or_ge k us.dropLast.length with e|e
   ·exact e
   ·rw[List.getElem?_eq_none e]at hc;cases hc
  rw[List.length_dropLast]at hk
  refine h.2 k c r ?_ ?_
  ·rw[vX (by rw[List.length_dropLast];exact hk),List.getElem_dropLast]at hc
   rw[vX (by omega)];exact hc
  ·rw[List.getElem?_append_left (by omega)];exact hr
 ·refine h.2 bs.length _ _ ?_ ?_
  ·rw[List.getLast_eq_getElem,vX (by omega)]
   congr 2;omega
  ·rw[List.getElem?_append_right (vM _),Nat.sub_self];rfl
theorem zE5{α:Type}(Q:List α):Q=[]∨∃Q' x,Q=Q'++[x]:=by
 rcases Q.eq_nil_or_concat with h|⟨l,b,h⟩
 ·exact .inl h
 ·exact .inr ⟨l,b,by rw[h,List.concat_eq_append]⟩
theorem Qg(g:LG O P C)(hR:IsPr vO vP vC O P C)(hL:FII vL L)(sz:SzL L)(hg:∀x∈L,gS O x)
  (hk:∀v u,FII v u->CanG O (GC O P C L) u->K v σ):zA Tryz.prog 70 [.agg [vO,vP,vC],vL] σ K:=by
 have h1:=hR.P.one;have h2:=hR.C.one;have s:=g.s;have F:=g.F;have G:=F.g;have hC:=g.cent;have bJ:=s.le;have hp:=zM.isp g.pr;have yO:=sz.l;have aV:=hR;obtain⟨⟨w0,a0,rfl⟩,jH,jJ⟩:=hR;refine zA.gh ?_;refine zB mix Tryz.func70 ?_;simp only[Z3,seval,-ah,h1,h2,mk24 (n:=O.length) (by omega),mkL (n:=O.length) (by omega),hL.sb]
 have Dy:(σ.new [.fz w0 a0 O.length (pis O),vP,vC]).obj σ.next=some [.fz w0 a0 O.length (pis O),vP,vC]:=by simp only[Z3,seval,-ah]
 have nX:(σ.new [.fz w0 a0 O.length (pis O),vP,vC]).next=σ.next+1:=rfl;have kp:Keep σ (σ.new [.fz w0 a0 O.length (pis O),vP,vC]):=zD σ _;generalize σ.new [.fz w0 a0 O.length (pis O),vP,vC]=T at *
 rw[<-nX];refine zKJ hL sz fun vQ jn rq kq pq lY=>?_
 simp only[Z3,seval,-ah];have ja:∀{rb:List PV} {h:PHeap},Keep (T.new rb) h->h.rd σ.next 0 3=some [.fz w0 a0 O.length (pis O),vP,vC]∧h.rd1 σ.next 0=some (.fz w0 a0 O.length (pis O))∧h.obj T.next=some rb∧T.next<h.next:=fun {rb h} k=>by
  have e1:∀t,t<T.next->h.obj t=T.obj t:=fun t ht=>by rw[k.obj t (by show t<T.next+1;omega),zH,if_neg (by omega)]
  have e2:=e1 σ.next (by omega)
  rw[Dy]at e2
  refine⟨by rw[zb e2];rfl,by rw[zF e2];rfl,?_,k.next⟩
  ·rw[k.obj T.next (Nat.lt_succ_self _),zH,if_pos rfl]
 have wI:∀{rb rb':List PV} {h:PHeap},Keep (T.new rb) h->Keep (T.new rb') (h.set T.next rb'):=fun {rb rb' h} k=>⟨k.next,k.top,fun t ht=>by
  rw[zg]
  split
  ·rename_i e;rw[e,zH,if_pos rfl]
  ·rename_i e
   rw[k.obj t ht,zH,zH,if_neg e,if_neg e]⟩
 refine zC (fun m vs h'=>∃(D:List (Option (List Int))) (rb:List PV) (Q:List (List Int)) (vQ:PV) (rq:List PV),m=10*free D+Q.length∧vs=[.ptr σ.next 0,.int .i64 O.length,.sl T.next 0 O.length (.known O.length),vQ]∧Keep (T.new rb) h'∧PT (T.next+1) h' vQ Q.length rq∧All2 FI rq Q∧(∀x∈Q,gS O x)∧All2 (DRf O.length) rb D∧OkD O D∧QI O P C D Q∧(∀N,gB O P C N->((InD N D∧∀q∈Q,N q)↔∀q∈L,N q))∧Q.length+10*free D<=L.length+10*O.length) (10*free (List.replicate O.length none)+L.length) ?_ ?_
 ·refine⟨List.replicate O.length none,_,L,vQ,rq,rfl,rfl,kq,pq,lY,hg,DRf.start _ _,OkD.start _ rfl,QI.start _,fun N _=>⟨fun h=>h.2,fun h=>⟨InD.start _,h⟩⟩,?_⟩
  have:=zAB (List.replicate O.length none)
  rw[List.length_replicate]at this
  omega
 clear kq pq lY vQ rq jn
 rintro m vs h' ⟨D,rb,Q,vQ,rq,rfl,rfl,kk,pq,lY,th,bB,hD,tG,hS,DA⟩
 obtain⟨l3,l1,lT,Ax⟩:=ja kk;have hlen:=pq.pLen;have yu:=zAB D;rw[hD.len]at yu
 rcases zE5 Q with rfl|⟨Q,x,rfl⟩
 ·have kd:¬((0:Int)<((0:Nat):Int)):=by decide
  simp only[List.length_nil]at hlen
  simp only[Z3,seval,-ah,hlen,kd,l3];refine zIx g aV lT Ax hD bB fun v u hv qe=>?_
  simp only[Z3,seval,-ah];exact Gh.fin0 (kk.keepOf2 kp) (hv.bel _) (hk v u hv (qe.can s F hC hD tG fun N hN=>⟨fun h=>(hS N hN).1 ⟨h,fun q hq=>(by cases hq)⟩,fun h=>((hS N hN).2 h).1⟩))
 have l9:(Q++[x]).length=Q.length+1:=by simp
 rw[l9]at pq hlen DA
 obtain⟨jP,c,rfl,ku,hc⟩:=All2.unsnoc lY;obtain⟨sq,off,cap,vh,rfl,cH,dw,Ap⟩:=pq.unsnoc;have hx:=th x (by simp)
 have kP:∀q∈Q,gS O q:=fun q hq=>th q (by simp[hq])
 have aF:(0:Int)<((Q.length+1:Nat):Int):=by omega
 have bA:IntKind.i64.wrap (((Q.length+1:Nat):Int)-1)=(Q.length:Int):=by rw[wrap64 (by omega) (by omega)];omega
 have yK:Q.length<Q.length+1:=Nat.lt_succ_self _;rw[l9];simp only[Z3,seval,-ah,hlen,aF,bA,yK,cH,dw,l3];refine zHb g aV lT Ax hD bB hx hc fun vz z fz gz fR eJ=>?_
 have di:=gz.len
 by_cases hd:dep z<O.length
 rotate_left
 ·have kU:dep z=O.length:=by have:=zAa z;omega
  have eM:=Zx gz (by omega)
  simp only[Z3,seval,-ah,kU];refine⟨_,?_,D,rb,Q,vh,jP,rfl,rfl,kk,Ap,ku,kP,bB,hD,(tG.mem (Q':=x::Q) (fun q hq=>by
   rcases List.mem_append.1 hq with h|h
   ·exact List.mem_cons_of_mem _ h
   ·rw[List.mem_singleton.1 h];simp)).drop (by rw[<-eM];exact eJ),fun N hN=>?_,by omega⟩
  ·omega
  ·rw[<-hS N hN]
   refine⟨fun⟨h1,h2⟩=>⟨h1,fun q hq=>?_⟩,fun⟨h1,h2⟩=>⟨h1,fun q hq=>h2 q (by simp[hq])⟩⟩
   rcases List.mem_append.1 hq with hq|hq
   ·exact h2 q hq
   ·rw[List.mem_singleton.1 hq,eJ.iff F hN h1,eM];exact hN.one
 have hdz:dep z<z.length:=by omega
 have tK:=hp _ (List.getElem_mem hd);have bO:=tK.bd;have bz:=gz.bd _ hd;have nz:=Zd hdz;have eO:at_ O (dep z)=O[dep z]:=at_eq hd;rw[eO]at bz
 have kU:((dep z:Int)=(O.length:Int))=False:=by simp;omega
 obtain⟨wz,az,rfl⟩:=fz;have fz:FI (.fz wz az z.length (pis z)) z:=⟨wz,az,rfl⟩;simp only[Z3,seval,-ah,kU,l3,l1,hdz,pisAt hdz,hd,pisAt hd];refine zKL (p:=at_ O (dep z)) (by rw[eO];exact tK) (by rw[eO];omega) fun q q1 q2 q3=>?_
 simp only[Z3,seval,-ah,kU,l3,l1];refine zCL g aV gz fz (k:=q) (by rw[eO]at q2;omega) fun vy fy=>?_
 obtain⟨y1,y2⟩:=Z9 s F hC hd (ZM gz) q.toNat;have ly:at_ (Grp.pw (gm O P C) (zv O) z q.toNat) (dep z)=1:=by
  rw[y2,Int.toNat_of_nonneg (by omega),Int.mul_comm];exact q3
 have yM:∀N,gB O P C N->N z->N (Grp.pw (gm O P C) (zv O) z q.toNat):=fun N hN h=>hN.pw h _
 generalize Grp.pw (gm O P C) (zv O) z q.toNat=y at *
 have yS:gS O y:=y1.mono (Nat.zero_le _);have nB:=yS.len;obtain⟨wy,ay,rfl⟩:=fy;have fy:FI (.fz wy ay y.length (pis y)) y:=⟨wy,ay,rfl⟩;have eA:D[dep z]? = some none:=fR hd;have de:=zDd (y:=y) eA;have tx:dep z<rb.length:=by rw[bB.1,hD.len];exact hd
 have lz:=zFe lT (i:=dep z) (v:=.fz wy ay y.length (pis y)) tx fy.one;have uf:=wI (rb':=rb.set (dep z) (.fz wy ay y.length (pis y))) kk;have gl:=DRf.put (d:=dep z) bB fy nB;have yT:=hD.put hd y1 ly;obtain⟨k3,k1,kT,EB⟩:=ja uf;have Ce:=Ap.set (t:=T.next) (Nat.lt_succ_self _) (rb.set (dep z) (.fz wy ay y.length (pis y)));have cA:(h'.set T.next (rb.set (dep z) (.fz wy ay y.length (pis y)))).next=h'.next:=rfl;simp only[Z3,seval,-ah,hd,lz];generalize h'.set T.next (rb.set (dep z) (.fz wy ay y.length (pis y)))=h2 at *
 rw[<-cA];refine PT.push (bytes:=24) (σb:=T.new (rb.set (dep z) (.fz wy ay y.length (pis y)))) fz.one uf Ce (by omega) (by omega) fun v3 h3 wJ Ao=>?_
 obtain⟨m3,m1,mT,Aw⟩:=ja wJ;simp only[Z3,seval,-ah,m3,m1,hd,pisAt hd];refine zCL g aV yS fy (k:=at_ O (dep z)) (by rw[eO];omega) fun vo fo=>?_
 have yZ:gS O (Grp.pw (gm O P C) (zv O) y (at_ O (dep z)).toNat):=G.pw yS _;have D4:=fo.one;have D3:=fo.cells;simp only[Z3,seval,-ah,D4,D3,m3,m1,hd,pisAt hd];refine PT.push (bytes:=24) (σb:=T.new (rb.set (dep z) (.fz wy ay y.length (pis y)))) fo.one wJ Ao (by omega) (by omega) fun v4 h4 Ay vN=>?_
 have xp:All2 FI ((jP++[.fz wz az z.length (pis z)])++[vo]) ((Q++[z])++[Grp.pw (gm O P C) (zv O) y (at_ O (dep z)).toNat]):=(ku.snoc fz).snoc fo;have oN:∀q∈(Q++[z])++[Grp.pw (gm O P C) (zv O) y (at_ O (dep z)).toNat],gS O q:=fun q hq=>by
  rcases List.mem_append.1 hq with hq|hq
  ·rcases List.mem_append.1 hq with hq|hq
   ·exact kP q hq
   ·rw[List.mem_singleton.1 hq];exact gz
  ·rw[List.mem_singleton.1 hq];exact yZ
 generalize jK:(Q++[z])++[Grp.pw (gm O P C) (zv O) y (at_ O (dep z)).toNat]=Q2 at *
 have o6:Q2.length=Q.length+1+1:=by rw[<-jK];simp
 have xU:z∈Q2:=by rw[<-jK];simp
 have xX:∀q∈Q,q∈Q2:=fun q hq=>by rw[<-jK];simp[hq]
 have bj:Grp.pw (gm O P C) (zv O) y (at_ O (dep z)).toNat∈Q2:=by rw[<-jK];simp
 have lb:∀N,gB O P C N->N y->((∀q∈Q2,N q)↔(∀q∈Q,N q)∧N z):=fun N hN hy=>by
  rw[<-jK];refine⟨fun h=>⟨fun q hq=>h q (by simp[hq]),h z (by simp)⟩,fun⟨h3,h4⟩ q hq=>?_⟩
  rcases List.mem_append.1 hq with hq|hq
  ·rcases List.mem_append.1 hq with hq|hq
   ·exact h3 q hq
   ·rw[List.mem_singleton.1 hq];exact h4
  ·rw[List.mem_singleton.1 hq];exact hN.pw hy _
 generalize (jP++[PV.fz wz az z.length (pis z)])++[vo]=B7 at *
 rw[<-o6]at vN
 simp only[Z3,seval,-ah];refine zC (fun m us h3=>∃(i:Nat) (vQ:PV) (E:List (List Int)) (re:List PV),i<=O.length∧m=O.length-i∧us=[.ptr σ.next 0,.int .i64 O.length,.sl T.next 0 O.length (.known O.length),vQ,.int .i64 (dep z),.fz wy ay y.length (pis y),.int .i64 i]∧Keep (T.new (rb.set (dep z) (.fz wy ay y.length (pis y)))) h3∧PT (T.next+1) h3 vQ (Q2++E).length re∧All2 FI re (Q2++E)∧(∀q∈E,gS O q)∧E.length<=i∧(∀(e:Nat) (b:List Int),e<i->D[e]? = some (some b)->gcom O P C y b∈E)∧∀N,gB O P C N->InD N D->N y->∀q∈E,N q) O.length ?_ ?_
 ·exact⟨0,v4,[],_,by omega,by omega,rfl,Ay,by rw[List.append_nil];exact vN,by rw[List.append_nil];exact xp,fun q hq=>(by cases hq),vM _,fun e b h=>(by omega),fun N _ _ _ q hq=>(by cases hq)⟩
 clear Ay vN v4 h4 wJ Ao v3 h3 m3 m1 mT Aw
 rintro m us h5 ⟨i,ve,E,re,hi,rfl,rfl,rX,ue,jT,mX,DK,m6,m7⟩
 obtain⟨m3,m1,mT,Aw⟩:=ja rX;simp only[Z3,seval,-ah];refine iteI (fun ai=>?_) fun aE=>?_
 rotate_left
 ·refine⟨10*free (D.set (dep z) (some y))+(Q2++E).length,?_,D.set (dep z) (some y),_,Q2++E,ve,re,rfl,rfl,rX,ue,jT,?_,gl,yT,(tG.mem (Q':=x::Q) (fun q hq=>by
   rcases List.mem_append.1 hq with h|h
   ·exact List.mem_cons_of_mem _ h
   ·rw[List.mem_singleton.1 h];simp)).put eJ eA (by simp[xU]) (fun q hq=>by simp[xX q hq]) (List.mem_append.2 (.inl bj)) (fun e b hb=>.inr (by
    have:=m6 e b (by
     rcases Nat.lt_or_ge e D.length with h|h
     ·have:=hD.len;omega
     ·rw[List.getElem?_eq_none h]at hb;cases hb) hb
    simp[this])),fun N hN=>?_,?_⟩
  ·simp only[List.length_append,List.length_singleton];omega
  ·intro q hq
   rcases List.mem_append.1 hq with hq|hq
   ·exact oN q hq
   ·exact mX q hq
  ·rw[<-hS N hN,InD.put eA]
   constructor
   ·rintro⟨⟨g1,g2⟩,g3⟩
    obtain⟨g4,g5⟩:=(lb N hN g2).1 fun q hq=>g3 q (by simp[hq])
    refine⟨g1,fun q hq=>?_⟩
    rcases List.mem_append.1 hq with hq|hq
    ·exact g4 q hq
    ·rw[List.mem_singleton.1 hq];exact(eJ.iff F hN g1).2 g5
   ·rintro⟨g1,g2⟩
    have tS:=(eJ.iff F hN g1).1 (g2 x (by simp))
    have gy:=yM N hN tS;refine⟨⟨g1,gy⟩,fun q hq=>?_⟩
    rcases List.mem_append.1 hq with hq|hq
    ·exact(lb N hN gy).2 ⟨fun q hq=>g2 q (by simp[hq]),tS⟩ q hq
    ·exact m7 N hN g1 gy q hq
  ·simp only[List.length_append];omega
 have ak:i<O.length:=by omega
 have w1:IntKind.i64.wrap ((i:Int)+1)=((i+1:Nat):Int):=by rw[wrap64 (by omega) (by omega)];omega
 have dY:=zF mT i
 by_cases bn:i=dep z
 ·subst bn
  simp only[Z3,seval,-ah,w1];refine⟨_,by omega,dep z+1,ve,E,re,by omega,rfl,rfl,rX,ue,jT,mX,by omega,fun e b h1 h2=>?_,m7⟩
  rcases Nat.lt_or_ge e (dep z)with h|h
  ·exact m6 e b h h2
  ·rw[show e=dep z by omega,eA]at h2;cases h2
 have oK:¬((i:Int)=(dep z:Int)):=by omega
 have tc:(rb.set (dep z) (.fz wy ay y.length (pis y)))[i]? = rb[i]?:=by rw[List.getElem?_set,if_neg (by omega)]
 rw[tc]at dY
 rcases DRf.get bB (d:=i) (by rw[hD.len];exact ak)with ⟨e1,e2⟩|⟨w,a,b,e1,e3,e2⟩
 ·rw[e1]at dY
  have kd:¬((0:Int)<((0:Nat):Int)):=by decide
  simp only[Z3,seval,-ah,oK,ak,dY,kd,decide_false,w1];refine⟨_,by omega,i+1,ve,E,re,by omega,rfl,rfl,rX,ue,jT,mX,by omega,fun e b h1 h2=>?_,m7⟩
  rcases Nat.lt_or_ge e i with h|h
  ·exact m6 e b h h2
  ·rw[show e=i by omega,e2]at h2;cases h2
 rw[e1]at dY
 have bS:gS O b:=(hD.row _ _ e2).1.mono (Nat.zero_le _);have aF:(0:Int)<(O.length:Int):=by omega
 simp only[Z3,seval,-ah,oK,ak,dY,aF,decide_true,m3];refine zI2 s g.co aV yS bS fy ⟨w,a,by rw[e3]⟩ fun vc fc=>?_
 have D9:=fc.one;have D8:=fc.cells;simp only[Z3,seval,-ah,oK,ak,dY,aF,decide_true,m3,D9,D8];refine PT.push (bytes:=24) (σb:=T.new (rb.set (dep z) (.fz wy ay y.length (pis y)))) fc.one rX ue (by rw[List.length_append];omega) (by rw[List.length_append];omega) fun v6 h6 Cp Cd=>?_
 simp only[Z3,seval,-ah,w1];refine⟨_,by omega,i+1,v6,E++[gcom O P C y b],re++[vc],by omega,rfl,rfl,Cp,?_,?_,?_,?_,?_,?_⟩
 rotate_left
 ·rw[<-List.append_assoc];exact jT.snoc fc
 ·intro q hq
  rcases List.mem_append.1 hq with hq|hq
  ·exact mX q hq
  ·rw[List.mem_singleton.1 hq];exact G.com_in yS bS
 ·simp;omega
 ·intro e b' h1 h2
  rcases Nat.lt_or_ge e i with h|h
  ·simp[m6 e b' h h2]
  ·rw[show e=i by omega,e2]at h2;cases h2;simp
 ·intro N hN dG hy q hq
  rcases List.mem_append.1 hq with hq|hq
  ·exact m7 N hN dG hy q hq
  ·rw[List.mem_singleton.1 hq];exact hN.com_in hy (dG _ _ e2)
 ·rw[<-List.append_assoc,List.length_append,List.length_singleton];exact Cd
end Go.Proofs
namespace Go.Proofs
open Go.Ab Go.Lie
variable{σ:PHeap}{K:PV->PHeap->Prop}{vU vV:PV}
end Go.Proofs
namespace Go.Proofs
open Go.Ab Go.Lie Go.Grp
variable{σ h h':PHeap}{K:PV->PHeap->Prop}{O x:List Int}{P:List (List Int)}{C:List (List (List Int))}{vO vP vC vx vL vU:PV}{L u:List (List Int)}{sp:Nat}
def zR(O:List Int)(P:List (List Int))(C:List (List (List Int)))(u:List (List Int)):Prop:=(∀x∈u,gS O x)∧CanG O (GC O P C u) u
theorem zAW(g:LG O P C)(hs:PtrG σ sp vO vP vC)(hR:IsPr vO vP vC O P C)(hL:FII vL L)(hg:∀x∈L,gS O x)(yO:L.length<=1000000)
  (hk:∀v u,FII v u->CanG O (GC O P C L) u->K v σ):zA Tryz.prog 139 [.ptr sp 0,vL] σ K:=by
 have s:=g.s;have F:=g.F;have hC:=g.cent;have hp:=zM.isp g.pr;have lf:=hL;obtain⟨wl,al,rl,rfl,bK⟩:=hL;refine zA.gh ?_;refine zB mix Tryz.func139 ?_;simp only[Z3,seval,-ah];refine zBD s hs hR fun ss sb h1 k1 n1 n2 q1=>?_
 simp only[Z3,seval,-ah];refine zKm s F hC hp q1 hR (OkD.start O.length rfl) ⟨by simp,fun k c r hc hr=>?_⟩ (QI.start _) lf hg yO fun t rb' D' dZ ig tH lJ hf dy=>?_
 ·rw[List.getElem?_replicate]at hc hr
  split at hc
  ·rename_i h
   rw[if_pos h]at hr
   cases hc;cases hr;exact .inl ⟨rfl,rfl⟩
  ·cases hc
 simp only[Z3,seval,-ah];refine zCX s F hC (q1.setB rb') hR ig dZ fun v u f1 cd=>?_
 simp only[Z3,seval,-ah];exact Gh.fin0 (k1.set n2 _) (f1.bel _) (hk v u f1 (cd.can s F hC ig tH fun N hN=>(lJ N hN).trans ⟨fun h=>h.2,fun h=>⟨InD.start _,h⟩⟩))
theorem zR.len(h:zR O P C u):u.length<=O.length:=h.2.len
theorem zGG(g:LG O P C){H:List Int->Prop}(hH:gB O P C H)(hu:CanG O H u){x z:List Int}(hx:gS O x)(hz:gS O z)(h0:∀v∈u,at_ z (dep v)=0)(hN:∀N,gB O P C N->(∀v∈u,N v)->(N x↔N z)):z=zv O↔H x:=by
 have s:=g.s;constructor
 ·rintro rfl
  exact(hN H hH hu.mem).2 hH.one
 ·intro h
  have wQ:=(hN H hH hu.mem).1 h;rcases Nat.lt_or_ge (dep z) O.length with hd|hd
  ·obtain⟨v,hv,e⟩:=hu.all z wQ hd
   exact absurd (by rw[<-e];exact h0 v hv) (Zd (by rw[hz.len];exact hd))
  ·exact Zx hz hd
theorem zB6(hU:FII vU [])(bq:FI vx [])(hk:∀w a,K (.fz w a 0 []) σ):zA Tryz.prog 179 [.ptr sp 0,vU,vx] σ K:=by
 obtain⟨wx,ax,rfl⟩:=bq;have qn:=hU;obtain⟨wl,al,rl,rfl,bK⟩:=hU;refine zA.gh ?_;refine zB mix Tryz.func179 ?_;simp only[Z3,seval,-ah];refine zBn rfl (by simp) ⟨fun h0=>?_,fun cap hc=>?_⟩
 ·simp only[Z3,seval,-ah]
  refine Qk qn (fun v hv=>by cases hv) (by simp) fun vp=>?_
  simp only[Z3,seval,-ah];refine zC (fun m vs h'=>vs=[.ptr sp 0,.fz wl al 0 rl,.fz true .nils 0 [],.fz true vp 0 (pis (deps [])),.int .i64 0,.int .i64 0]∧h'=σ) 0 ⟨rfl,rfl⟩ ?_
  rintro m vs h' ⟨rfl,rfl⟩
  simp only[Z3,seval,-ah];exact Gh.fin0 (Keep.refl _) trivial (hk _ _)
 ·simp only[Z3,seval,-ah]
  refine Qk qn (fun v hv=>by cases hv) (by simp) fun vp=>?_
  simp only[Z3,seval,-ah];refine zC (fun m vs h'=>vs=[.ptr sp 0,.fz wl al 0 rl,.sl σ.next 0 0 cap,.fz true vp 0 (pis (deps [])),.int .i64 0,.int .i64 0]∧h'=σ.new []) 0 ⟨rfl,rfl⟩ ?_
  rintro m vs h' ⟨rfl,rfl⟩
  simp only[Z3,seval,-ah];exact Gh.finF (s:=σ.next) (cs:=[]) (zD σ _) (by simp only[Z3,seval,-ah]) (vM _) trivial hc.ok fun o=>hk _ _
theorem Qh(g:LG O P C)(hs:PtrG σ sp vO vP vC)(hR:IsPr vO vP vC O P C)(hU:FII vU u)(hu:zR O P C u)(hx:gS O x)(bq:FI vx x)(hk:∀t:Bool,(t=true↔GC O P C u x)->K (.bool t) σ):zA Tryz.prog 136 [.ptr sp 0,vU,vx] σ K:=by
 have s:=g.s;have F:=g.F;have bJ:=s.le;have eU:=hu.len;rcases Nat.eq_zero_or_pos O.length with hn|hn
 ·obtain rfl:u=[]:=List.eq_nil_of_length_eq_zero (by omega)
  obtain rfl:x=[]:=List.eq_nil_of_length_eq_zero (by rw[hx.len,hn])
  refine zB mix Tryz.func136 ?_;simp only[Z3,seval,-ah];refine zB6 hU bq fun w a=>?_
  simp only[Z3,seval,-ah];refine zAs (xs:=[]) rfl (by simp) ?_
  simp only[Z3,seval,-ah];refine hk _ ?_;rw[decide_eq_true_iff];refine⟨fun _=>?_,fun _ x hx=>by cases hx⟩
  have:=(GC.sub (L:=[]) F (fun x hx=>by cases hx)).one
  rwa[show zv O=[] from List.eq_nil_of_length_eq_zero (by simp[zv,hn])]at this
 refine zB mix Tryz.func136 ?_;simp only[Z3,seval,-ah];refine Qx s F g.cent hn hs hR hU hu.2.one hu.2.asc (by omega) hx bq fun o cap z hz h1 h0 hN=>?_
 have di:=hz.len;simp only[Z3,seval,-ah];refine zAs di.symm (by omega) ?_
 simp only[Z3,seval,-ah];refine hk _ ?_;rw[decide_eq_true_iff,zNS di];exact zGG g (GC.sub F hu.1) hu.2 hx hz h0 hN
theorem Zn(hR:IsPr vO vP vC O P C)(lx:O.length<=1048576)(bO:∀o∈O,isP o)(hL:FII vL L)(sz:SzL L)(hk:∀t:Bool,(t=true↔∀x∈L,isExp O x)->K (.bool t) σ):zA Tryz.prog 63 [.agg [vO,vP,vC],vL] σ K:=by
 have fl:∀{A:Prop},¬A->((false=true)↔A):=fun h=>⟨fun x=>(by cases x),fun x=>absurd x h⟩
 have h0:=hR.O.one;have h1:=hR.P.one;have h2:=hR.C.one;have dz:=sz.l;obtain⟨wl,al,rl,rfl,bK⟩:=hL;refine zA.gh ?_;refine zB mix Tryz.func63 ?_;simp only[Z3,seval,-ah,h0,h1,h2];have aq:Keep σ (σ.new [vO,vP,vC]):=zD σ _;have jA:(σ.new [vO,vP,vC]).rd σ.next 0 3=some [vO,vP,vC]:=by simp only[Z3,seval,-ah]
 generalize σ.new [vO,vP,vC]=H at *
 refine zC (fun m us h'=>∃i:Nat,i<=L.length∧m=L.length-i∧us=[.fz wl al L.length rl,.ptr σ.next 0,.int .i64 i]∧H=h'∧∀x∈L.take i,isExp O x) L.length ⟨0,by omega,by omega,rfl,rfl,by simp⟩ ?_
 rintro m us h' ⟨i,hi,rfl,rfl,rfl,aj⟩
 simp only[Z3,seval,-ah];refine iteI (fun ai=>?_) fun aE=>?_
 rotate_left
 ·have bn:i=L.length:=by omega
  subst bn;rw[List.take_length]at aj
  exact Gh.fin0 aq trivial (hk _ ⟨fun _=>aj,fun _=>rfl⟩)
 obtain⟨w4,a4,hr⟩:=bK.rowI ai;have jR:=sz.r _ (List.getElem_mem ai);simp only[Z3,seval,-ah,ai,hr,jA];refine zGO hR lx bO ⟨w4,a4,rfl⟩ jR fun t ht=>?_
 cases t with
 |false=>
  simp only[Z3,seval,-ah];exact Gh.fin0 aq trivial (hk _ (fl fun h=>by have:=ht.2 (h _ (List.getElem_mem ai));cases this))
 |true=>
 have h3:=ht.1 rfl;simp only[Z3,seval,-ah,wrapS ai (by omega:L.length<=4611686018427387904)]
 refine⟨_,by omega,i+1,by omega,rfl,rfl,fun x hx=>?_⟩
 rw[List.take_succ_eq_append_getElem ai,List.mem_append,List.mem_singleton]at hx
 rcases hx with hx|hx
 ·exact aj x hx
 ·rw[hx];exact h3
theorem zDW(g:LG O P C)(hR:IsPr vO vP vC O P C)(hU:FII vU u)(gg:SzL u)(hk:∀t:Bool,(t=true↔zR O P C u)->K (.bool t) σ):zA Tryz.prog 66 [.agg [vO,vP,vC],vU] σ K:=by
 have fl:∀{A:Prop},¬A->((false=true)↔A):=fun h=>⟨fun x=>(by cases x),fun x=>absurd x h⟩
 have h1:=hR.P.one;have h2:=hR.C.one;have s:=g.s;have F:=g.F;have bJ:=s.le;have eU:=gg.l;have ie:=hU;have aV:=hR;obtain⟨⟨w0,a0,rfl⟩,_,_⟩:=hR;obtain⟨wu,au,ru,rfl,ks⟩:=hU;refine zA.gh ?_;refine zB mix Tryz.func66 ?_;have aq:Keep σ (σ.new [.fz w0 a0 O.length (pis O),vP,vC]):=zD σ _
 by_cases hlen:u.length<=O.length
 rotate_left
 ·have hl:¬((u.length:Int)<=(O.length:Int)):=by omega
  simp only[Z3,seval,-ah,h1,h2,hlen,hl,decide_false];exact Gh.fin0 aq trivial (hk _ (fl fun h=>hlen h.len))
 have hl:(u.length:Int)<=(O.length:Int):=by omega
 simp only[Z3,seval,-ah,h1,h2,hlen,hl,decide_true];refine Zn aV (by omega) (zM.isp g.pr) ie gg fun t ht=>?_
 cases t with
 |false=>
  simp only[Z3,seval,-ah];exact Gh.fin0 aq trivial (hk _ (fl fun h=>by have:=ht.2 fun x hx=>zGW.2 (h.1 x hx);cases this))
 |true=>
 have kO:∀x∈u,gS O x:=fun x hx=>(ht.1 rfl x hx).gS
 simp only[Z3,seval,-ah];refine Qg g aV ie gg kO fun v z hv hz=>?_
 simp only[Z3,seval,-ah];have di:=hz.len;refine zDD hv ie (by omega) (fun x hx=>by have:=(hz.one x hx).1.len;omega) fun t ht=>?_
 simp only[Z3,seval,-ah];exact Gh.fin0 aq trivial (hk _ (ht.trans ⟨fun e=>⟨kO,by rw[e]at hz;exact hz⟩,fun h=>hz.unique s F (GC.sub F kO) h.2⟩))
end Go.Proofs
namespace Go.Proofs
open Go.Ab Go.Lie Go.Grp
variable{σ h h':PHeap}{K:PV->PHeap->Prop}{O x y:List Int}{P:List (List Int)}{C:List (List (List Int))}{vO vP vC vx vU:PV}{u:List (List Int)}{D:List (Option (List Int))}{rb:List PV}{d n:Nat}
theorem zKI{l:Nat}{w:Bool}{a:AV}{xs:List Int}(hl:l=xs.length)(hb:xs.length<=1048576)(hk:K (.int .i64 (dep xs)) σ):zA Tryz.prog 161 [.fz w a l (pis xs)] σ K:=by
 subst hl;refine zB mix Tryz.func161 ?_;simp only[Z3,seval,-ah];refine zC (fun m vs h'=>∃i:Nat,i<=dep xs∧m=dep xs-i∧vs=[.fz w a xs.length (pis xs),.int .i64 i]∧σ=h') (dep xs) ?_ ?_
 ·exact⟨0,by omega,by omega,rfl,rfl⟩
 rintro m vs h' ⟨i,hi,rfl,rfl,rfl⟩
 have fY:=zAa xs
 by_cases ai:i<xs.length
 ·simp only[Z3,seval,-ah,ai,zG,gi ai]
  by_cases h0:xs[i]=0
  ·have iU:i<dep xs:=by
    rcases Nat.lt_or_ge i (dep xs)with x|x
    ·exact x
    ·have:i=dep xs:=by omega
     subst this;exact absurd (by rw[at_eq ai];exact h0) (Zd ai)
   simp only[Z3,seval,-ah,h0,wrapS ai (by omega:xs.length<=4611686018427387904)]
   exact⟨_,by omega,i+1,by omega,rfl,rfl⟩
  ·have iU:i=dep xs:=by
    rcases Nat.lt_or_ge i (dep xs)with x|x
    ·exact absurd (by rw[<-at_eq ai];exact qW x) h0
    ·omega
   subst iU;simp only[Z3,seval,-ah,h0];exact hk
 ·have iU:i=dep xs:=by omega
  have Cy:xs.length=dep xs:=by omega
  simp only[Z3,seval,-ah,ai];rw[Cy];exact hk
theorem zAy{l:Nat}{w:Bool}{a:AV}(hl:l=x.length)(hb:x.length<=1048576)(hk:K (.int .i64 (dep x)) σ):zA Tryz.prog 113 [.fz w a l (pis x)] σ K:=by
 refine zB mix Tryz.func113 ?_;simp only[Z3,seval,-ah];refine zKI hl hb ?_;simp only[Z3,seval,-ah];exact hk
structure TabD(O:List Int)(u:List (List Int))(D:List (Option (List Int))):Prop where
 ok:OkD O D
 sub:∀(d:Nat) (b:List Int),D[d]? = some (some b)->b∈u∧dep b=d
 all:∀v∈u,D[dep v]? = some (some v)
theorem TabD.ind{N:List Int->Prop}(t:TabD O u D):InD N D↔∀v∈u,N v:=
 ⟨fun h v hv=>h _ v (t.all v hv),fun h d b hb=>h b (t.sub d b hb).1⟩
theorem zHa(hn:O.length<=6)(hR:IsPr vO vP vC O P C)(hU:FII vU u)(eU:u.length<=1000)(one:∀v∈u,gS O v∧dep v<O.length∧at_ v (dep v)=1)(asc:u.Pairwise fun a b=>dep a<dep b)
  (hk:∀a rb D,All2 (DRf O.length) rb D->TabD O u D->K (.fz true a O.length rb) σ):zA Tryz.prog 160 [.agg [vO,vP,vC],vU] σ K:=by
 have h1:=hR.P.one;have h2:=hR.C.one;obtain⟨⟨w0,a0,rfl⟩,jH,jJ⟩:=hR;obtain⟨wu,au,ru,rfl,ks⟩:=hU;refine zA.gh ?_;refine zB mix Tryz.func160 ?_;simp only[Z3,seval,-ah,h1,h2,mk24 (n:=O.length) (by omega),mkL (n:=O.length) (by omega)]
 refine zC (fun m vs h'=>∃(i:Nat) (rb:List PV) (D:List (Option (List Int))),i<=u.length∧m=u.length-i∧vs=[.fz wu au u.length ru,.sl (σ.next+1) 0 O.length (.known O.length),.int .i64 i]∧h'=(σ.new [.fz w0 a0 O.length (pis O),vP,vC]).new rb∧All2 (DRf O.length) rb D∧TabD O (u.take i) D) u.length ?_ ?_
 ·refine⟨0,_,List.replicate O.length none,by omega,by omega,rfl,rfl,DRf.start _ _,⟨OkD.start _ rfl,fun d b hb=>?_,fun v hv=>by simp at hv⟩⟩
  exact(zDU hb).elim
 rintro m vs h' ⟨i,rb,D,hi,rfl,rfl,rfl,bB,hD⟩
 simp only[Z3,seval,-ah];refine iteI (fun ai=>?_) fun aE=>?_
 rotate_left
 ·have bn:i=u.length:=by omega
  subst bn;rw[List.take_length]at hD
  exact Gh.finF (s:=σ.next+1) ((zD σ _).new _) (by simp only[Z3,seval,-ah]) (by omega) (DRf.bels bB 0) (by simp[capOK]) fun o=>hk _ rb D bB hD
 obtain⟨w4,a4,hr⟩:=ks.rowI ai;obtain⟨u1,u2,u3⟩:=one _ (List.getElem_mem ai);have xe:=u1.len;simp only[Z3,seval,-ah,ai,hr];refine zAy rfl (by omega) ?_
 have hlen:rb.length=O.length:=by rw[bB.1];exact hD.ok.len
 have tx:dep u[i] + 1<=rb.length:=by omega
 simp only[Z3,seval,-ah,u2,tx,wrapS ai (by omega:u.length<=4611686018427387904)]
 have de:D[dep u[i]]? = some none:=by
  have hl:dep u[i] < D.length:=by rw[hD.ok.len];exact u2
  rw[vX hl];cases hc:D[dep u[i]]with
  |none=>rfl
  |some b=>
   exfalso
   obtain⟨jX,fO⟩:=hD.sub _ b (by rw[vX hl,hc])
   obtain⟨k,dI,rfl⟩:=List.mem_take_iff_getElem.1 jX
   have:=List.pairwise_iff_getElem.1 asc k i (by omega) ai (by omega)
   omega
 have cM:List.take (dep u[i]) rb++[PV.fz w4 a4 u[i].length (pis u[i])]++List.drop (dep u[i] + 1) rb=rb.set (dep u[i]) (.fz w4 a4 u[i].length (pis u[i])):=by
  rw[List.set_eq_take_append_cons_drop,if_pos (by omega),List.append_assoc]
  rfl
 rw[cM];refine⟨hr,_,by omega,i+1,rb.set (dep u[i]) (.fz w4 a4 u[i].length (pis u[i])),D.set (dep u[i]) (some u[i]),by omega,rfl,rfl,rfl,DRf.put bB ⟨w4,a4,rfl⟩ xe,?_⟩
 ·have pN:∀{v:List Int},v∈u.take (i+1)↔v∈u.take i∨v=u[i]:=fun {v}=>by
   rw[List.take_succ_eq_append_getElem ai,List.mem_append,List.mem_singleton]
  refine⟨hD.ok.put u2 (ZM u1) u3,fun d b hb=>?_,fun v hv=>?_⟩
  ·rw[List.getElem?_set]at hb
   split at hb
   ·rename_i he
    split at hb
    ·cases hb
     exact⟨pN.2 (.inr rfl),he⟩
    ·cases hb
   ·obtain⟨p1,p2⟩:=hD.sub d b hb
    exact⟨pN.2 (.inl p1),p2⟩
  ·rcases pN.1 hv with hv|rfl
   ·have bu:=hv
    obtain⟨k,dI,rfl⟩:=List.mem_take_iff_getElem.1 hv
    have:=List.pairwise_iff_getElem.1 asc k i (by omega) ai (by omega)
    rw[List.getElem?_set,if_neg (by omega)]
    exact hD.all _ bu
   ·rw[List.getElem?_set,if_pos rfl,if_pos (by rw[hD.ok.len];exact u2)]
theorem zGL(g:LG O P C)(hR:IsPr vO vP vC O P C){wT:Bool}{aT:AV}(bB:All2 (DRf O.length) rb D)(hD:OkD O D)(hx:gS O x)(bq:FI vx x)
  (hk:∀v z,FI v z->gS O z->(∀(d:Nat) (b:List Int),D[d]? = some (some b)->at_ z d=0)->(∀N,gB O P C N->InD N D->(N x↔N z))->K v σ):zA Tryz.prog 159 [.agg [vO,vP,vC],.fz wT aT O.length rb,vx] σ K:=by
 have h0:=hR.O.one;have h1:=hR.P.one;have h2:=hR.C.one;have s:=g.s;have F:=g.F;have G:=F.g;have bJ:=s.le;have dz:=hx.len;refine zA.gh ?_;refine zB mix Tryz.func159 ?_;simp only[Z3,seval,-ah,h0,h1,h2,bq.one];obtain⟨Et,Fk,rfl⟩:=bq;refine zE7 rfl (by omega) fun ax=>?_
 have jA:(σ.new [vO,vP,vC]).rd σ.next 0 3=some [vO,vP,vC]:=by simp only[Z3,seval,-ah]
 simp only[Z3,seval,-ah];refine zC (fun m vs h'=>∃(i:Nat) (z:List Int) (w:Bool) (a:AV),i<=O.length∧m=O.length-i∧vs=[.fz wT aT O.length rb,.ptr σ.next 0,.fz w a O.length (pis z),.int .i64 i]∧h'=σ.new [vO,vP,vC]∧gS O z∧(∀(d:Nat) (b:List Int),d<i->D[d]? = some (some b)->at_ z d=0)∧∀N,gB O P C N->InD N D->(N x↔N z)) O.length ⟨0,x,true,ax,by omega,by omega,by rw[dz];rfl,rfl,hx,fun d b hd=>by omega,fun _ _ _=>Iff.rfl⟩ ?_
 rintro m vs h' ⟨i,z,w,a,hi,rfl,rfl,rfl,hz,hzero,hN⟩
 have di:=hz.len;simp only[Z3,seval,-ah];refine iteI (fun ai=>?_) fun aE=>?_
 rotate_left
 ·have bn:i=O.length:=by omega
  exact Gh.fin0 (zD σ _) trivial (hk _ z ⟨w,a,by rw[di]⟩ hz (fun d b hb=>hzero d b (by
   rw[bn,<-hD.len];rcases Nat.lt_or_ge d D.length with h|h
   ·exact h
   ·rw[List.getElem?_eq_none h]at hb;cases hb) hb) hN)
 have ak:i<O.length:=by omega
 have oe:i<z.length:=by omega
 have bz:=hz.bd i ak;have bO:=s.pr i ak;rw[at_eq oe]at bz
 have d0:decide ((0:Int)<((0:Nat):Int))=false:=rfl;rcases DRf.get bB (d:=i) (by rw[hD.len];exact ak)with ⟨e1,e2⟩|⟨w4,a4,y,e1,e3,e2⟩
 ·simp only[Z3,seval,-ah,ak,e1,d0,wrapS ak (by omega:O.length<=4611686018427387904)]
  refine⟨_,by omega,i+1,z,w,a,by omega,rfl,rfl,hz,fun d b hd hb=>?_,hN⟩
  by_cases e:d=i
  ·subst e;rw[e2]at hb;cases hb
  ·exact hzero d b (by omega) hb
 have dp:((0:Int)<((O.length:Nat):Int))=True:=by simp;omega
 by_cases eM:z[i]=0
 ·simp only[Z3,seval,-ah,ak,e1,dp,oe,zG,gi oe,eM,wrapS ak (by omega:O.length<=4611686018427387904)]
  refine⟨_,by omega,i+1,z,w,a,by omega,rfl,rfl,hz,fun d b hd hb=>?_,hN⟩
  by_cases e:d=i
  ·subst e;rw[at_eq oe];exact eM
  ·exact hzero d b (by omega) hb
 obtain⟨y1,y2⟩:=hD.row _ _ e2;have yS:gS O y:=y1.mono (Nat.zero_le _);have fJ:IntKind.i64.wrap (0-z[i])=-z[i]:=by rw[wrap64 (by omega) (by omega)];omega
 simp only[Z3,seval,-ah,ak,e1,dp,oe,zG,gi oe,eM,jA,fJ];refine zBf g hR yS ⟨w4,a4,by rw[e3]⟩ (by omega) fun v1 f1=>?_
 simp only[Z3,seval,-ah,jA];obtain⟨q1,q2,q3,q4⟩:=zBP s F g.cent ak hz y1 y2;have ek:(-(-z[i])).toNat=(at_ z i).toNat:=by rw[Int.neg_neg,at_eq oe]
 rw[ek]at f1
 have ib:=(G.inv_in yS).1;have pS:=G.pw ib (at_ z i).toNat;refine qP s hR hz pS ⟨w,a,by rw[di]⟩ f1 fun v2 f2=>?_
 obtain⟨w5,a5,rfl⟩:=f2;have B9:=q1.len;simp only[Z3,seval,-ah,wrapS ak (by omega:O.length<=4611686018427387904)]
 refine⟨_,by omega,i+1,_,w5,a5,by omega,rfl,by rw[B9],q1,fun d b hd hb=>?_,fun N h3 h4=>(hN N h3 h4).trans ?_⟩
 ·by_cases e:d=i
  ·subst e;exact q4
  ·rw[q3 d (by omega)];exact hzero d b (by omega) hb
 ·have nb:N y:=h4 i y e2
  refine⟨fun hh=>?_,fun hh=>?_⟩
  ·exact h3.cl hh (h3.pw (h3.inv nb) _)
  ·have:=h3.cl hh (h3.pw nb (at_ z i).toNat)
   rwa[q2]at this
theorem zKG(g:LG O P C)(hR:IsPr vO vP vC O P C){H:List Int->Prop}(hH:gB O P C H)(hU:FII vU u)(hu:CanG O H u)(hx:gS O x)(bq:FI vx x)(hk:∀t:Bool,(t=true↔H x)->K (.bool t) σ):zA Tryz.prog 67 [.agg [vO,vP,vC],vU,vx] σ K:=by
 have h0:=hR.O.one;have h1:=hR.P.one;have h2:=hR.C.one;have bJ:=g.s.le;have eU:=hu.len;have vF:∀{σ:PHeap} {K:PV->PHeap->Prop},(∀v z,FI v z->gS O z->(z=zv O↔H x)->K v σ)->zA Tryz.prog 112 [.agg [vO,vP,vC],vU,vx] σ K:=fun {σ K} hk=>by
  refine zA.gh ?_;refine zB mix Tryz.func112 ?_;simp only[Z3,seval,-ah,h0,h1,h2,bq.one,hU.one];refine zHa bJ hR hU (by omega) hu.one hu.asc fun a rb D bB hD=>?_
  simp only[Z3,seval,-ah,h0,h1,h2];refine zGL g hR bB hD.ok hx bq fun v z hv hz eM hN=>?_
  simp only[Z3,seval,-ah];refine Gh.fin0 (zD σ _) (hv.bel _) (hk v z hv hz (zGG g hH hu hx hz (fun w hw=>eM _ _ (hD.all w hw)) fun N h3 h4=>hN N h3 (hD.ind.2 h4)))
 refine zA.gh ?_;refine zB mix Tryz.func67 ?_;simp only[Z3,seval,-ah,h0,h1,h2,bq.one,hU.one];refine vF fun v z hv hz wQ=>?_
 obtain⟨wx,ax,rfl⟩:=hv;have di:=hz.len;simp only[Z3,seval,-ah];refine zEK rfl (by omega) ?_
 simp only[Z3,seval,-ah];refine Gh.fin0 (zD σ _) trivial (hk _ ?_);rw[decide_eq_true_iff,<-wQ];constructor
 ·intro h
  refine hz.ext (g.s.zv _) fun j _ _=>?_
  rw[zNT h];exact(qz _ j).symm
 ·rintro rfl y hy
  exact List.eq_of_mem_replicate hy
end Go.Proofs
namespace Go.Proofs
open Go.Ab Go.Lie Go.Grp
variable{h:PHeap}
theorem zBB{h:PHeap}{t i:Nat}{cs:List PV}{v:PV}(ho:h.obj t=some cs)(hi:i<cs.length)(hv:v.one=true):h.wr t i [v]=some (h.set t (cs.set i v)):=by
 unfold PHeap.wr;rw[ho];simp only[Option.bind_some,List.length_cons,List.length_nil,List.all_cons,List.all_nil,hv,Bool.and_self,and_true];rw[if_pos (by omega),List.set_eq_take_append_cons_drop,if_pos hi,List.append_assoc]
 rfl
end Go.Proofs
