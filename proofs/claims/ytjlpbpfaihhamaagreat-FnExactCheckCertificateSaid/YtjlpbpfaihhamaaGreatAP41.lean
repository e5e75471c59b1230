/- . -/
import Derived.Test.YtjlpbpfaihhamaaGreatAP40
open List renaming getElem?_eq_getElem→vX
open Nat renaming le_refl→vM
open Int renaming reduceNatCast'->ah
set_option maxRecDepth 100000
namespace Go.Grp
end Go.Grp
set_option linter.unusedSimpArgs false
set_option linter.unusedVariables false
set_option linter.unusedSectionVars false
namespace Go.Proofs
open Go.Ab Go.Lie Go.Grp
variable{σ h:PHeap}{K:PV->PHeap->Prop}{O x y:List Int}{P:List (List Int)}{C:List (List (List Int))}{u w Z A T:List (List Int)}{t sp:Nat}{vO vP vC vU vW vZ:PV}{cs:List PV}
def splP(O:List Int)(P:List (List Int))(C:List (List (List Int)))(Z:List (List Int)):Prop:=
 (zM O P C∧Cons O P C)∧∃u w,Z=[(u.length:Int)]::(u++w)∧zR O P C u∧zR O P C w∧NorG O P C u∧szU O u*szU O w=ordF O O.length∧TrivM O P C u w
theorem zBR{l1:List Int}(h:splP O P C (l1::T)):∃u w,l1=[(u.length:Int)]∧T=u++w:=by
 obtain⟨_,u,w,e,_⟩:=h;simp only[List.cons.injEq]at e
 exact⟨u,w,e.1,e.2⟩
theorem ZI(h:splP O P C ([(u.length:Int)]::(u++w))):(zM O P C∧Cons O P C)∧zR O P C u∧zR O P C w∧NorG O P C u∧szU O u*szU O w=ordF O O.length∧TrivM O P C u w:=by
 obtain⟨g,u',w',e,a,b,c,d,f⟩:=h;simp only[List.cons.injEq,and_true]at e
 have hl:u.length=u'.length:=by omega
 obtain⟨rfl,rfl⟩:=List.append_inj e.2 hl;exact⟨g,a,b,c,d,f⟩
theorem zDZ(hs:PtrG σ sp vO vP vC)(hR:IsPr vO vP vC O P C)(sz:SzP O P C)(hZ:FII vZ Z)(c7:SzL Z)(hk:∀t:Bool,(t=true↔splP O P C Z)->K (.bool t) σ):zA Tryz.prog 85 [.ptr sp 0,vZ] σ K:=by
 have fl:∀{A:Prop},¬A->((false=true)↔A):=fun h=>⟨fun x=>(by cases x),fun x=>absurd x h⟩
 have lI:=c7.l;obtain⟨wZ,aZ,rZ,rfl,gT⟩:=hZ;refine zA.gh ?_;refine zB mix Tryz.func85 ?_
 by_cases c2:(Z.length:Int)<1
 ·simp only[Z3,seval,-ah,c2]
  exact Gh.fin0 (Keep.refl σ) trivial (hk _ (fl fun⟨_,u,w,e,_⟩=>by rw[e]at c2;simp only[List.length_cons]at c2;omega))
 obtain⟨l1,T,rfl⟩:∃w L,Z=w::L:=by
  match Z,c2 with
  |[],h=>simp at h
  |w::L,_=>exact⟨w,L,rfl⟩
 have eR:(l1::T).length=T.length+1:=rfl;obtain⟨r1,rT,rfl⟩:∃r1 rL,rZ=r1::rL:=by
  have:=gT.1
  match rZ,this with
  |[],h=>simp at h
  |r1::rL,_=>exact⟨r1,rL,rfl⟩
 obtain⟨h1,oZ⟩:=All2.tl gT;have hT:All2 FI rT T:=oZ;obtain⟨w1,a1,rfl⟩:=h1;rw[eR]at c2 lI ⊢
 obtain⟨N,hN⟩:∃N,N=T.length+1:=⟨_,rfl⟩
 have d2:¬((N:Int)<1):=by omega
 have z0:(0:Int)<(N:Int):=by omega
 have m2:IntKind.i64.wrap ((N:Int)-1)=(N:Int)-1:=wrap64 (by omega) (by omega)
 rw[<-hN]
 by_cases c1:l1.length=1
 rotate_left
 ·have eT:¬((l1.length:Int)=1):=by omega
  simp only[Z3,seval,-ah,d2,z0,eT,c1];exact Gh.fin0 (Keep.refl σ) trivial (hk _ (fl fun h=>by obtain⟨L,u,e,_⟩:=zBR h;rw[e]at c1;exact c1 rfl))
 obtain⟨m,rfl⟩:∃m,l1=[m]:=by
  match l1,c1 with
  |[m],_=>exact⟨m,rfl⟩
 have g1:(pis [m])[0]? = some (.int .i64 m):=rfl;have eT:(((1:Nat):Int)=1)=True:=by simp
 have jQ:(0:Int)<((1:Nat):Int):=by decide
 have ol:[m].length=1:=rfl;rw[ol];simp only[Z3,seval,-ah,d2,z0,m2,g1,eT,jQ];refine qx ?_
 by_cases aW:0<=m∧m<=(N:Int)-1
 rotate_left
 ·simp only[Z3,seval,-ah,aW,decide_false]
  exact Gh.fin0 (Keep.refl σ) trivial (hk _ (fl fun h=>by
   obtain⟨L,u,e,e2⟩:=zBR h;simp only[List.cons.injEq,and_true]at e
   have:=congrArg List.length e2
   rw[List.length_append]at this
   omega))
 obtain⟨u,w,rfl,rfl⟩:∃L u,m=((L.length:Nat):Int)∧T=L++u:=⟨T.take m.toNat,T.drop m.toNat,by rw[List.length_take];omega,(List.take_append_drop _ _).symm⟩
 have ld:N=u.length+w.length+1:=by rw[hN,List.length_append]
 have hU:All2 FI (rT.take u.length) u:=by have:=hT.take u.length;rwa[List.take_left]at this
 have hW:All2 FI (rT.drop u.length) w:=by have:=hT.drop u.length;rwa[List.drop_left]at this
 have w2:IntKind.i64.wrap (1+(u.length:Int))=((1+u.length:Nat):Int):=by rw[wrap64 (by omega) (by omega)];omega
 have b1:((1+u.length:Nat):Int)<=(N:Int):=by omega
 have pB:1+u.length<=N:=by omega
 have b2:(1:Int)<=((1+u.length:Nat):Int):=by omega
 have pA:1<=1+u.length:=by omega
 have b3:1+u.length-1=u.length:=by omega
 have b4:N-(1+u.length)=w.length:=by omega
 have b5:(1:Int)<=(N:Int):=by omega
 have b6:List.drop (1+u.length) (PV.fz w1 a1 1 (pis [(u.length:Int)])::rT)=rT.drop u.length:=by rw[Nat.add_comm];rfl
 have b7:List.take w.length (rT.drop u.length)=rT.drop u.length:=List.take_of_length_le (by rw[hW.1];exact vM _)
 simp only[Z3,seval,-ah,aW,d2,z0,m2,g1,eT,jQ,w2,b1,pB,b2,pA,b3,b4,b5,b6,b7,List.drop_succ_cons,List.drop_zero];generalize mJ:PV.fz false (pslA 1 aZ 1 (1+u.length)) u.length (List.take u.length rT)=vU;generalize wY:PV.fz false (pslA 1 aZ (1+u.length) N) w.length (List.drop u.length rT)=vW;have fU:FII vU u:=by rw[<-mJ];exact⟨false,_,_,rfl,hU⟩
 have fW:FII vW w:=by rw[<-wY];exact⟨false,_,_,rfl,hW⟩
 have gg:SzL u:=⟨by omega,fun y hy=>c7.2 y (by simp[hy])⟩
 have ni:SzL w:=⟨by omega,fun y hy=>c7.2 y (by simp[hy])⟩
 have Aa:All2 FII [vU,vW] [u,w]:=@All2.snoc _ _ FII [vU] [u] _ _ (@All2.snoc _ _ FII [] [] _ _ (All2.nil _) fU) fW;have vE:sp<σ.next:=hs.lt;have n1:¬sp=σ.next:=by omega
 have eL:capOK (.known 2) 2=true:=rfl;refine zA.frz (s:=σ.next) (cs:=[vU,vW]) (by rw[zH,if_pos rfl]) ⟨fU.bel 0,fW.bel 0,trivial⟩ fun o=>?_
 simp only[sbs,Go.Ab.sb,eL,and_self,if_true,nm_eq,n1,if_false];have kH:Keep σ ((σ.new [vU,vW]).kill σ.next):=(zD _ _).kill (vM _);generalize (σ.new [vU,vW]).kill σ.next=H at *
 have xm:=hs.keep kH;refine zEx (LL:=[u,w]) xm hR sz Aa (by simp) (fun U hU=>by
  rcases List.mem_cons.1 hU with rfl|hU
  ·exact gg
  ·rw[List.mem_singleton.1 hU];exact ni) fun t ht=>?_
 cases t with
 |false=>
  simp only[Z3,seval,-ah];exact Gh.fin0 kH trivial (hk _ (fl fun h=>by
   obtain⟨a,b,c,_⟩:=ZI h
   have:false=true:=ht.2 ⟨a,fun U hU=>by
    rcases List.mem_cons.1 hU with rfl|hU
    ·exact b
    ·rw[List.mem_singleton.1 hU];exact c⟩
   cases this))
 |true=>
 obtain⟨gp,bA⟩:=ht.1 rfl;have g:LG O P C:=⟨gp.1,gp.2⟩;have su:=bA u (by simp)
 have sw:=bA w (by simp)
 simp only[Z3,seval,-ah];refine zHj g xm hR fU su fun t hn=>?_
 cases t with
 |false=>
  simp only[Z3,seval,-ah];exact Gh.fin0 kH trivial (hk _ (fl fun h=>by
   obtain⟨_,_,_,d,_⟩:=ZI h
   have:=hn.2 d
   cases this))
 |true=>
 simp only[Z3,seval,-ah];refine zEM g xm hR fU su fW sw fun t hc=>?_
 simp only[Z3,seval,-ah];exact Gh.fin0 kH trivial (hk t (hc.trans ⟨fun h=>⟨gp,u,w,rfl,su,sw,hn.1 rfl,h.1,h.2⟩,fun h=>(ZI h).2.2.2.2⟩))
end Go.Proofs
namespace Go.Proofs
open Go.Ab Go.Lie Go.Grp
variable{h:PHeap}{O x y a b:List Int}{P:List (List Int)}{C:List (List (List Int))}{u:List (List Int)}{k t i:Nat}
theorem zGg(h:∀j,j<O.length->2<=at_ O j∧at_ O j<=7):∀{c:Nat} {x:List Int},c<=O.length->x.length=c->(∀j,j<c->0<=at_ x j∧at_ x j<at_ O j)->0<=numF O x c∧dgs O c (numF O x c).toNat=x
 |0,x,_,hl,_=>by rw[List.eq_nil_of_length_eq_zero hl];exact⟨Int.le_refl _,rfl⟩
 |c+1,x,hc,hl,hx=>by
  obtain⟨y,b,rfl⟩:∃y b,x=y++[b]:=by
   rcases zE5 x with e|e
   ·rw[e]at hl;simp at hl
   ·exact e
  have nB:y.length=c:=by simpa using hl
  have eF:∀j,j<c->at_ (y++[b]) j=at_ y j:=fun j hj=>by rw[zAc,if_pos (by omega)]
  have hb:at_ (y++[b]) c=b:=by rw[zAc,if_neg (by omega),nB,Nat.sub_self];rfl
  obtain⟨h0,ih⟩:=zGg h (c:=c) (x:=y) (by omega) nB fun j hj=>by rw[<-eF j hj];exact hx j (by omega)
  have bb:=hx c (by omega)
  rw[hb]at bb
  have ho:=h c (by omega)
  obtain⟨o,eo⟩:∃o:Nat,at_ O c=(o:Int):=⟨(at_ O c).toNat,by omega⟩
  obtain⟨n,en⟩:∃n:Nat,numF O y c=(n:Int):=⟨(numF O y c).toNat,by omega⟩
  obtain⟨r,er⟩:∃r:Nat,b=(r:Int):=⟨b.toNat,by omega⟩
  have e1:numF O (y++[b]) c=numF O y c:=zBb eF;rw[numF,e1,hb,en,eo,er];have e2:(n:Int)*(o:Int)+(r:Int)=((n*o+r:Nat):Int):=by simp
  rw[e2];refine⟨by omega,?_⟩
  rw[Int.toNat_natCast,dgs,eo,Int.toNat_natCast];rw[en,Int.toNat_natCast]at ih
  have ro:r<o:=by omega
  have d1:(n*o+r) / o=n:=by rw[Nat.add_comm,Nat.add_mul_div_right _ _ (by omega),Nat.div_eq_of_lt ro,Nat.zero_add]
  have d2:(n*o+r) % o=r:=by rw[Nat.add_comm,Nat.add_mul_mod_self_right,Nat.mod_eq_of_lt ro]
  rw[d1,d2,ih]
def prdN(O:List Int)(P:List (List Int))(C:List (List (List Int)))(u:List (List Int))(a:List Int):Nat->List Int
 |0=>zv O
 |i+1=>gm O P C (prdN O P C u a i) (gpw O P C (u.getD i []) (at_ a i).toNat)
theorem zIZ(h:∀j,j<i->at_ a j=at_ b j):prdN O P C u a i=prdN O P C u b i:=by
 induction i with
 |zero=>rfl
 |succ i ih=>rw[prdN,prdN,ih fun j hj=>h j (by omega),h i (by omega)]
def ordsU(O:List Int)(u:List (List Int)):List Int:=u.map fun v=>at_ O (dep v)
theorem QU(hi:i<u.length):at_ (ordsU O u) i=at_ O (dep u[i]):=by
 rw[at_eq (show i<(ordsU O u).length by simpa [ordsU]using hi)];simp[ordsU]
theorem zGX(hi:i<u.length):exA O P C [zv O] (u.take (i+1))=exN O P C (exA O P C [zv O] (u.take i)) u[i]:=by
 unfold exA;rw[List.take_succ_eq_append_getElem hi,List.foldl_append];rfl
theorem zH2(ha:∀j,j<u.length->0<=at_ a j∧at_ a j<at_ O (dep (u.getD j []))):∀i,i<=u.length->prdN O P C u a i∈exA O P C [zv O] (u.take i)
 |0,_=>by simp[prdN,exA]
 |i+1,hi=>by
  have hl:i<u.length:=hi;have g:u.getD i []=u[i]:=by rw[List.getD_eq_getElem?_getD,vX hl];rfl
  have:=ha i hl
  rw[zGX hl,prdN,g];rw[g]at this
  exact List.mem_flatMap.2 ⟨_,zH2 ha i (by omega),List.mem_map.2 ⟨_,List.mem_range.2 (by show(at_ a i).toNat<(at_ O (dep u[i])).toNat;omega),rfl⟩⟩
theorem zH5:∀i,i<=u.length->∀x,x∈exA O P C [zv O] (u.take i)->∃a:List Int,a.length=i∧(∀j,j<i->0<=at_ a j∧at_ a j<at_ O (dep (u.getD j [])))∧x=prdN O P C u a i
 |0,_,x,hx=>⟨[],rfl,fun j hj=>by omega,by simpa [exA,prdN]using hx⟩
 |i+1,hi,x,hx=>by
  have hl:i<u.length:=hi;have g:u.getD i []=u[i]:=by rw[List.getD_eq_getElem?_getD,vX hl];rfl
  rw[zGX hl]at hx
  obtain⟨y,hy,h1⟩:=List.mem_flatMap.1 hx;obtain⟨t,ht,rfl⟩:=List.mem_map.1 h1;have ht:=List.mem_range.1 ht;obtain⟨a,h2,h3,rfl⟩:=zH5 i (by omega) y hy
  have eF:∀j,j<i->at_ (a++[(t:Int)]) j=at_ a j:=fun j hj=>by rw[zAc,if_pos (by omega)]
  have hb:at_ (a++[(t:Int)]) i=t:=by rw[zAc,if_neg (by omega),h2,Nat.sub_self];rfl
  have dA:t<(at_ O (dep u[i])).toNat:=ht;refine⟨a++[(t:Int)],by simp[h2],fun j hj=>?_,?_⟩
  ·rcases Nat.lt_or_ge j i with e|e
   ·rw[eF j e];exact h3 j e
   ·obtain rfl:j=i:=by omega
    rw[hb,g];omega
  ·rw[prdN,hb,g,Int.toNat_natCast,zIZ (fun j hj=>eF j hj)]
theorem zKw:szU O u=ordF (ordsU O u) u.length:=by
 have key:∀i,i<=u.length->szU O (u.take i)=ordF (ordsU O u) i:=by
  intro i
  induction i with
  |zero=>intro _;simp[szU,ordF]
  |succ i ih=>
   intro hi;rw[List.take_succ_eq_append_getElem (show i<u.length by omega),zAG,ih (by omega),ordF,QU]
 have:=key u.length (vM _)
 rwa[List.take_length]at this
theorem zDA(g:LG O P C)(hu:zR O P C u)(x:List Int):GC O P C u x↔∃k:Nat,(k:Int)<szU O u∧x=prdN O P C u (dgs (ordsU O u) u.length k) u.length:=by
 have s:=g.s;obtain⟨b1,b2⟩:=qL s hu.2;have ol:(ordsU O u).length=u.length:=by simp[ordsU]
 have gd:∀j (hj:j<u.length),u.getD j []=u[j]:=fun j hj=>by rw[List.getD_eq_getElem?_getD,vX hj];rfl
 have cE:∀j,j<(ordsU O u).length->2<=at_ (ordsU O u) j∧at_ (ordsU O u) j<=7:=fun j hj=>by
  rw[ol]at hj
  rw[QU hj];exact s.pr _ (b2 _ (List.getElem_mem hj)).2
 rw[<-zEs g hu x];constructor
 ·intro h
  rw[<-List.take_length (l:=u)]at h
  obtain⟨a,h1,h2,e⟩:=zH5 u.length (vM _) x h;have hb:∀j,j<u.length->0<=at_ a j∧at_ a j<at_ (ordsU O u) j:=fun j hj=>by rw[QU hj,<-gd j hj];exact h2 j hj
  obtain⟨n0,nd⟩:=zGg cE (c:=u.length) (x:=a) (by omega) h1 hb
  have bd:=zAA cE (x:=a) (fun j hj=>hb j (by omega)) (i:=u.length) (by omega)
  refine⟨(numF (ordsU O u) a u.length).toNat,by rw[zKw];omega,?_⟩
  rw[nd];exact e
 ·rintro⟨k,hk,rfl⟩
  have:=zH2 (O:=O) (P:=P) (C:=C) (u:=u) (a:=dgs (ordsU O u) u.length k) (fun j hj=>by
   have:=zEY cE (c:=u.length) (k:=k) (by omega) j hj
   rw[QU hj]at this
   rw[gd j hj];exact this) u.length (vM _)
  rwa[List.take_length]at this
end Go.Proofs
namespace Go.Proofs
open Go.Ab Go.Lie Go.Grp
variable{σ h:PHeap}{K:PV->PHeap->Prop}{O x z a b:List Int}{P:List (List Int)}{C:List (List (List Int))}{u:List (List Int)}{i:Nat}{vO vP vC vU va:PV}
theorem zGM(g:LG O P C)(hR:IsPr vO vP vC O P C)(hU:FII vU u)(hu:zR O P C u)(hk:∀v,FI v (ordsU O u)->K v σ):zA Tryz.prog 206 [.agg [vO,vP,vC],vU] σ K:=by
 have s:=g.s;have bJ:=s.le;have eU:=hu.len;have g0:=hR.O.one;have g1:=hR.P.one;have g2:=hR.C.one;obtain⟨b1,b2⟩:=qL s hu.2;obtain⟨⟨w0,a0,rfl⟩,_,_⟩:=hR;obtain⟨wU,aU,rU,rfl,sJ⟩:=hU;refine zA.gh ?_;refine zB mix Tryz.func206 ?_;simp only[Z3,seval,-ah,g0,g1,g2];refine zC (fun m vs h=>∃(i:Nat) (vo:PV),i<=u.length∧m=u.length-i∧vs=[.fz wU aU u.length rU,.ptr σ.next 0,vo,.int .i64 i]∧Keep (σ.new [.fz w0 a0 O.length (pis O),vP,vC]) h∧PSl (σ.next+1) 1 h vo i (pis (ordsU O (u.take i)))) u.length ?_ ?_
 ·exact⟨0,_,Nat.zero_le _,rfl,rfl,zD _ _,PSl.new _ _ rfl (vM _)⟩
 rintro m vs h ⟨i,vo,hi,rfl,rfl,kH,ho⟩
 have e0:h.rd1 σ.next 0=some (.fz w0 a0 O.length (pis O)):=by rw[zF (by rw[kH.obj _ (by show σ.next<σ.next+1;omega),zH];exact if_pos rfl)];rfl
 simp only[Z3,seval,-ah];refine iteI (fun ai=>?_) fun aE=>?_
 rotate_left
 ·obtain rfl:i=u.length:=by omega
  rw[List.take_length]at ho
  exact PAcc.fin ((zD σ _).trans kH) (ho.acc.low (by omega)) (zK _ _) fun a=>hk _ ⟨true,a,by simp[ordsU]⟩
 have ak:(i:Int)<(u.length:Int):=by omega
 have mem:=List.getElem_mem ai;obtain⟨hl,hd⟩:=b2 _ mem;have gC:((dep u[i]:Nat):Int)<(O.length:Int):=by omega
 obtain⟨w5,a5,h5⟩:=sJ.rowI ai;have gO:(pis O)[dep u[i]]? = some (.int .i64 O[dep u[i]]):=by rw[zG,gi hd];rfl
 simp only[Z3,seval,-ah,ai,ak,h5,e0];refine zAy (x:=u[i]) rfl (by omega) ?_
 simp only[Z3,seval,-ah,ai,ak,h5,e0,hd,gC,gO];refine PAcc.push (σb:=σ.new [.fz w0 a0 O.length (pis O),vP,vC]) (bytes:=8) kH ho.acc (by omega) (by omega) fun v' h2 k2 a2=>?_
 simp only[Z3,seval,-ah,wrapS ai (by omega:u.length<=4611686018427387904)]
 refine⟨_,by omega,i+1,v',by omega,rfl,rfl,k2,?_⟩
 have e:ordsU O (u.take (i+1))=ordsU O (u.take i)++[O[dep u[i]]]:=by
  unfold ordsU;rw[List.take_succ_eq_append_getElem ai,List.map_append];exact congrArg (fun z=>_++[z]) (at_eq hd)
 rw[e,show pis (ordsU O (u.take i)++[O[dep u[i]]])=pis (ordsU O (u.take i))++[.int .i64 O[dep u[i]]] by simp[pis]]
 exact a2
theorem zFR(g:LG O P C)(hR:IsPr vO vP vC O P C)(hU:FII vU u)(hu:zR O P C u)(ha:FI va a)(eg:a.length=u.length)(gf:∀j,j<u.length->0<=at_ a j∧at_ a j<at_ (ordsU O u) j)
  (hk:∀v,FI v (prdN O P C u a u.length)->K v σ):zA Tryz.prog 208 [.agg [vO,vP,vC],vU,va] σ K:=by
 have s:=g.s;have F:=g.F;have bJ:=s.le;have eU:=hu.len;have g0:=hR.O.one;have g1:=hR.P.one;have g2:=hR.C.one;obtain⟨b1,b2⟩:=qL s hu.2;obtain⟨wU,aU,rU,rfl,sJ⟩:=hU;obtain⟨wa,aa,rfl⟩:=ha;refine zA.gh ?_;refine zB mix Tryz.func208 ?_;simp only[Z3,seval,-ah,g0,g1,g2];generalize hH:σ.new [vO,vP,vC]=H';have kH:Keep σ H':=by rw[<-hH];exact zD _ _
 have r3:H'.rd σ.next 0 3=some [vO,vP,vC]:=by rw[<-hH];simp only[Z3,seval,-ah]
 clear hH;simp only[Z3,seval,-ah,r3,g0,g1,g2];refine zGN hR (by omega) fun v0 f0=>?_
 simp only[Z3,seval,-ah];refine zC (fun m vs h=>∃(i:Nat) (vx:PV),i<=u.length∧m=u.length-i∧vs=[.fz wU aU u.length rU,.fz wa aa a.length (pis a),.ptr σ.next 0,vx,.int .i64 i]∧h=H'∧FI vx (prdN O P C u a i)) u.length ?_ ?_
 ·exact⟨0,v0,Nat.zero_le _,rfl,rfl,rfl,f0⟩
 rintro m vs h ⟨i,vx,hi,rfl,rfl,rfl,fx⟩
 have inS:∀i,i<=u.length->gS O (prdN O P C u a i):=fun i hi=>by
  induction i with
  |zero=>exact F.g.one
  |succ i ih=>
   have hl:i<u.length:=hi;rw[prdN,List.getD_eq_getElem?_getD,vX hl];exact F.g.cl (ih (by omega)) (F.g.pw (hu.1 _ (List.getElem_mem hl)) _)
 simp only[Z3,seval,-ah];refine iteI (fun ai=>?_) fun aE=>?_
 rotate_left
 ·obtain rfl:i=u.length:=by omega
  exact Gh.fin0 kH (fx.bel _) (hk _ fx)
 have ak:(i:Int)<(u.length:Int):=by omega
 have xY:(i:Int)<(a.length:Int):=by omega
 have pV:i<a.length:=by omega
 have mem:=List.getElem_mem ai;obtain⟨w5,a5,h5⟩:=sJ.rowI ai;have ga:(pis a)[i]? = some (.int .i64 a[i]):=by rw[zG,gi pV];rfl
 have b:=gf i ai;rw[QU ai]at b
 have bo:=b1 _ mem;have ea:at_ a i=a[i]:=at_eq pV;simp only[Z3,seval,-ah,ai,ak,xY,pV,h5,ga,r3,g0,g1,g2];refine zCL g hR (hu.1 _ mem) ⟨w5,a5,rfl⟩ (by omega) fun v1 f1=>?_
 simp only[Z3,seval,-ah,r3,g0,g1,g2];refine qP s hR (inS i (by omega)) (F.g.pw (hu.1 _ mem) _) fx f1 fun v2 f2=>?_
 simp only[Z3,seval,-ah,wrapS ai (by omega:u.length<=4611686018427387904)]
 refine⟨_,by omega,i+1,v2,by omega,rfl,rfl,?_⟩
 rw[prdN,List.getD_eq_getElem?_getD,vX ai,ea];exact f2
end Go.Proofs
namespace Go.Proofs
open Go.Ab Go.Lie Go.Grp
variable{σ h:PHeap}{K:PV->PHeap->Prop}{O x a b:List Int}{P:List (List Int)}{C:List (List (List Int))}{u Z:List (List Int)}{k t N:Nat}{vO vP vC vU:PV}{cs:List PV}{f:Nat->Nat}
def hitB(f:Nat->Nat)(k t:Nat):Bool:=(List.range k).any fun j=>f j == t
def hitL(f:Nat->Nat)(N k:Nat):List PV:=(List.range N).map fun t=>.bool (hitB f k t)
theorem zGT:hitB f k t=true↔∃j,j<k∧f j=t:=by
 unfold hitB;rw[List.any_eq_true];exact⟨fun⟨j,h1,h2⟩=>⟨j,List.mem_range.1 h1,by simpa using h2⟩,fun⟨j,h1,h2⟩=>⟨j,List.mem_range.2 h1,by simpa using h2⟩⟩
theorem zAV:(hitL f N k).length=N:=by simp[hitL]
theorem zBg(ht:t<N):(hitL f N k)[t]? = some (.bool (hitB f k t)):=by
 unfold hitL;rw[List.getElem?_map,List.getElem?_range ht];rfl
theorem zKP:hitL f N 0=List.replicate N (.bool false):=by
 refine List.ext_getElem? fun t=>?_
 rcases Nat.lt_or_ge t N with h|h
 ·rw[zBg h,List.getElem?_replicate,if_pos h];rfl
 ·rw[List.getElem?_eq_none (by rw[zAV];exact h),List.getElem?_eq_none (by simpa using h)]
theorem zLl:(hitL f N k).set (f k) (.bool true)=hitL f N (k+1):=by
 refine List.ext_getElem? fun t=>?_
 rcases Nat.lt_or_ge t N with h|h
 ·rw[zBg h,List.getElem?_set,zBg h,zAV]
  have e:hitB f (k+1) t=(hitB f k t || (f k == t)):=by
   unfold hitB;rw[List.range_succ,List.any_append];simp
  by_cases c:f k=t
  ·rw[if_pos c,if_pos (by omega),e,c];simp
  ·rw[if_neg c,e,show(f k == t)=false by simpa using c,Bool.or_false]
 ·rw[List.getElem?_eq_none (by rw[List.length_set,zAV];exact h),List.getElem?_eq_none (by rw[zAV];exact h)]
theorem zNh{a:AV}:FII (.fz true a 0 []) []:=⟨true,a,[],rfl,All2.nil _⟩
set_option maxHeartbeats 1600000 in
theorem zEo(g:LG O P C)(hR:IsPr vO vP vC O P C)(hU:FII vU u)(hu:zR O P C u)(hk:∀v Z,FII v Z->(∀x,x∈Z↔GC O P C u x)->Z.length<=729->K v σ):zA Tryz.prog 166 [.agg [vO,vP,vC],vU] σ K:=by
 have s:=g.s;have F:=g.F;have bJ:=s.le;have eU:=hu.len;have g0:=hR.O.one;have g1:=hR.P.one;have g2:=hR.C.one;have ie:=hU;have gU:=hU.one;obtain⟨b1,b2⟩:=qL s hu.2;obtain⟨hN,iV⟩:=QH s;have ho:=g.pr.ord;refine zA.gh ?_;refine zB mix Tryz.func166 ?_;simp only[Z3,seval,-ah,g0,g1,g2];generalize hH:σ.new [vO,vP,vC]=H1;have kH:Keep σ H1:=by rw[<-hH];exact zD _ _
 have nH:H1.next=σ.next+1:=by rw[<-hH];rfl
 have r3:H1.rd σ.next 0 3=some [vO,vP,vC]:=by rw[<-hH];simp only[Z3,seval,-ah]
 have oH:H1.obj σ.next=some [vO,vP,vC]:=by rw[<-hH,zH,if_pos rfl]
 clear hH;simp only[Z3,seval,-ah,r3,g0,g1,g2];refine Qf s hR ie hu.2 (by omega) ?_
 simp only[Z3,seval,-ah,r3,g0,g1,g2];refine qN s hR ?_;rw[hN];have Cn:((nEl O:Nat):Int)*((1:Nat):Int)<=140737488355328:=by omega
 have n1:¬σ.next=H1.next:=by omega
 simp only[Z3,seval,-ah,r3,g0,g1,g2,Cn,mkL (n:=nEl O) (by omega),n1]
 refine zGM g hR ie hu fun vD fD=>?_
 have fD0:=fD;obtain⟨wd,ad,rfl⟩:=fD;have Au:(ordsU O u).length=u.length:=by simp[ordsU]
 simp only[Z3,seval,-ah,r3,g0,g1,g2,n1];have cE:∀j,j<(ordsU O u).length->2<=at_ (ordsU O u) j∧at_ (ordsU O u) j<=7:=fun j hj=>by
  rw[Au]at hj
  rw[QU hj];exact s.pr _ (b2 _ (List.getElem_mem hj)).2
 have nM:IsPr (.fz wd ad (ordsU O u).length (pis (ordsU O u))) (.fz true .nils 0 []) (.fz true .nils 0 []) (ordsU O u) [] []:=⟨fD0,zNh,⟨true,.nils,[],rfl,⟨rfl,fun k a b ha=>by cases ha⟩⟩⟩
 have j6:∀k:Nat,(k:Int)<szU O u->GC O P C u (prdN O P C u (dgs (ordsU O u) u.length k) u.length):=fun k hk=>(zDA g hu _).2 ⟨k,hk,rfl⟩
 have hS:=GC.sub F hu.1;obtain⟨f,hf⟩:∃f:Nat->Nat,∀k,f k=(numF O (prdN O P C u (dgs (ordsU O u) u.length k) u.length) O.length).toNat:=⟨_,fun _=>rfl⟩
 have fN:∀k:Nat,(k:Int)<szU O u->numF O (prdN O P C u (dgs (ordsU O u) u.length k) u.length) O.length=((f k:Nat):Int)∧f k<nEl O:=fun k hk=>by
  have b:=zAA s.pr (fun j hj=>(hS.inS (j6 k hk)).bd j hj) (vM O.length)
  rw[hf];omega
 have pu:=ZC b1 u.length (vM _);rw[List.take_length]at pu
 have p7:=pow7b (show u.length<=6 by omega)
 obtain⟨S,eS⟩:∃S:Nat,szU O u=(S:Int):=⟨(szU O u).toNat,by omega⟩
 rw[eS]at j6 fN pu ⊢
 refine zC (fun m vs h=>∃k:Nat,k<=S∧m=S-k∧vs=[vU,.ptr σ.next 0,.int .i64 (S:Int),.sl H1.next 0 (nEl O) (.known (nEl O)),.ptr (H1.next+1) 0,.int .i64 k]∧h=(H1.new (hitL f (nEl O) k)).new [.fz wd ad (ordsU O u).length (pis (ordsU O u)),.fz true .nils 0 [],.fz true .nils 0 []]) S ?_ ?_
 ·exact⟨0,by omega,by omega,rfl,by rw[zKP]⟩
 rintro m vs h ⟨k,EL,rfl,rfl,rfl⟩
 have n2:¬σ.next=H1.next+1:=by omega
 by_cases ai:k<S
 rotate_left
 ·obtain rfl:k=S:=by omega
  simp only[Z3,seval,-ah,ai];generalize uT:(H1.new (hitL f (nEl O) k)).new [.fz wd ad (ordsU O u).length (pis (ordsU O u)),.fz true .nils 0 [],.fz true .nils 0 []]=H2;have k2:Keep H1 H2:=by rw[<-uT];exact(zD _ _).new _
  have Cj:H2.next=H1.next+2:=by rw[<-uT];rfl
  have ob:H2.obj H1.next=some (hitL f (nEl O) k):=by
   rw[<-uT,zH,if_neg (by show ¬H1.next=H1.next+1;omega),zH,if_pos rfl]
  clear uT;refine zC (fun m vs h=>∃(t:Nat) (vo:PV) (rows:List PV),t<=nEl O∧m=nEl O-t∧vs=[.ptr σ.next 0,.sl H1.next 0 (nEl O) (.known (nEl O)),vo,.int .i64 t]∧Keep H2 h∧PSl H2.next 1 h vo rows.length rows∧rows.length<=t∧All2 FI rows (((List.range t).filter (hitB f k)).map fun t=>dgs O O.length t)) (nEl O) ?_ ?_
  ·refine⟨0,.sl (H1.next+2) 0 0 (.known 0),[],by omega,by omega,rfl,zD _ _,?_,by simp,by simpa using All2.nil _⟩
   rw[<-Cj];exact PSl.new H2.next 1 (h:=H2) (n:=0) (cs:=[]) rfl (vM _)
  rintro m vs h ⟨t,vo,rows,ht,rfl,rfl,kh,po,rl,dx⟩
  have et:h.rd σ.next 0 3=some [vO,vP,vC]:=by rw[zb (by rw[kh.obj _ (by omega),k2.obj _ (by omega)];exact oH)];rfl
  by_cases jv:t<nEl O
  rotate_left
  ·obtain rfl:t=nEl O:=by omega
   simp only[Z3,seval,-ah,jv];refine PAcc.fin ((kH.trans k2).trans kh) (po.acc.low (by omega)) (dx.bI 0) fun a=>?_
   refine hk _ _ ⟨true,a,rows,by rw[dx.1],dx⟩ (fun x=>?_) ?_
   ·rw[List.mem_map,zDA g hu x]
    constructor
    ·rintro⟨t,h1,rfl⟩
     obtain⟨h1,h2⟩:=List.mem_filter.1 h1;obtain⟨j,hj,e⟩:=zGT.1 h2;refine⟨j,by rw[eS];omega,?_⟩
     obtain⟨e1,e2⟩:=fN j (by omega)
     rw[<-e,hf,zKX s (hS.inS (j6 j (by omega)))]
    ·rintro⟨j,hj,rfl⟩
     rw[eS]at hj
     obtain⟨e1,e2⟩:=fN j hj;refine⟨f j,List.mem_filter.2 ⟨List.mem_range.2 e2,zGT.2 ⟨j,by omega,rfl⟩⟩,?_⟩
     rw[hf,zKX s (hS.inS (j6 j hj))]
   ·rw[<-dx.1];omega
  have AI:=inb jv;have rb:h.rd1 H1.next t=some (.bool (hitB f k t)):=by rw[zF (by rw[kh.obj _ (by omega)];exact ob)];exact zBg jv
  have wt:IntKind.i64.wrap ((t:Int)+1)=((t+1:Nat):Int):=wrapS (show t<200000 by omega) (by omega)
  have rs:List.range (t+1)=List.range t++[t]:=List.range_succ;cases hb:hitB f k t with
  |false=>
   rw[hb]at rb
   simp only[Z3,seval,-ah,jv,AI,rb,wt];exact⟨_,by omega,t+1,vo,rows,by omega,rfl,rfl,kh,po,by omega,by rw[rs,List.filter_append,List.map_append];simpa [hb]using dx⟩
  |true=>
   rw[hb]at rb
   simp only[Z3,seval,-ah,jv,AI,rb,et,g0,g1,g2];refine zH7 s hR (by omega) fun v3 f3=>?_
   have f30:=f3;obtain⟨w3,a3,rfl⟩:=f3;simp only[Z3,seval,-ah];refine PAcc.push (σb:=H2) (bytes:=24) kh po.acc (by omega) (by omega) fun v' h2 k3 p3=>?_
   simp only[Z3,seval,-ah,wt];refine⟨_,by omega,t+1,v',rows++[.fz w3 a3 (dgs O O.length t).length (pis (dgs O O.length t))],by omega,rfl,rfl,k3,by rw[List.length_append];exact p3,by rw[List.length_append];simp;omega,?_⟩
   rw[rs,List.filter_append,List.map_append];have e:([t].filter (hitB f k)).map (fun t=>dgs O O.length t)=[dgs O O.length t]:=by simp[hb]
   rw[e];exact dx.snoc f30
 have ak:(k:Int)<(S:Int):=by omega
 obtain⟨en,fl⟩:=fN k ak;have wk:IntKind.i64.wrap ((k:Int)+1)=((k+1:Nat):Int):=wrapS (show k<200000 by omega) (by omega)
 simp only[Z3,seval,-ah,ai,ak,r3,g0,g1,g2,n1,n2,gU];refine zH6 (by omega) cE nM (by omega) fun v1 f1=>?_
 rw[Au]at f1
 have g3:=f1.one;simp only[Z3,seval,-ah,r3,g0,g1,g2,n1,n2,gU,g3];refine zFR g hR ie hu f1 (ZK _ _ _) (fun j hj=>zEY cE (by omega) j hj) fun v2 f2=>?_
 have g4:=f2.one;simp only[Z3,seval,-ah,r3,g0,g1,g2,n1,n2,gU,g3,g4];refine zHe s hR (hS.inS (j6 k ak)) f2 ?_;rw[en];have D7:=inb fl;have e1:f k+1<=(hitL f (nEl O) k).length:=by rw[zAV];exact fl
 have e2:List.take (f k) (hitL f (nEl O) k)++[PV.bool true]++List.drop (f k+1) (hitL f (nEl O) k)=hitL f (nEl O) (k+1):=by rw[<-zLl];exact zA6 e1
 simp only[Z3,seval,-ah,r3,g0,g1,g2,n1,n2,gU,g3,g4,D7,e1,e2,wk];exact⟨_,by omega,k+1,by omega,rfl,rfl,rfl⟩
end Go.Proofs
namespace Go.Proofs
open Go.Ab Go.Lie Go.Grp
variable{σ h:PHeap}{K:PV->PHeap->Prop}{O x y z:List Int}{P:List (List Int)}{C:List (List (List Int))}{u w Z A:List (List Int)}{t i:Nat}{vO vP vC vU vW vZ:PV}{cs:List PV}
set_option maxHeartbeats 1600000 in
theorem zIw(g:LG O P C)(hR:IsPr vO vP vC O P C)(hU:FII vU u)(hu:zR O P C u)(hW:FII vW w)(hw:zR O P C w)
  (hk:∀v L,FII v L->(L.length=0↔TrivM O P C u w)->K v σ):zA Tryz.prog 121 [.agg [vO,vP,vC],vU,vW] σ K:=by
 have s:=g.s;have F:=g.F;have bJ:=s.le;have g0:=hR.O.one;have g1:=hR.P.one;have g2:=hR.C.one;have gW:=hW.one;refine zA.gh ?_;refine zB mix Tryz.func121 ?_;simp only[Z3,seval,-ah,g0,g1,g2];generalize hH:σ.new [vO,vP,vC]=H1;have kH:Keep σ H1:=by rw[<-hH];exact zD _ _
 have nH:H1.next=σ.next+1:=by rw[<-hH];rfl
 have r3:H1.rd σ.next 0 3=some [vO,vP,vC]:=by rw[<-hH];simp only[Z3,seval,-ah]
 have oH:H1.obj σ.next=some [vO,vP,vC]:=by rw[<-hH,zH,if_pos rfl]
 clear hH;simp only[Z3,seval,-ah,r3,g0,g1,g2];refine zEo g hR hU hu fun vZ Z fZ mZ lZ=>?_
 have Eb:=fZ;obtain⟨wz,az,rz,rfl,pQ⟩:=fZ;simp only[Z3,seval,-ah];refine zC (fun m vs h=>∃(i:Nat) (vo:PV) (rows:List PV),i<=Z.length∧m=Z.length-i∧vs=[vW,.ptr σ.next 0,.fz wz az Z.length rz,vo,.int .i64 i]∧Keep H1 h∧PSl H1.next 1 h vo rows.length rows∧∃A,All2 FI rows A∧A.length<=i∧(∀x,x∈A↔x∈Z.take i∧GC O P C w x)) Z.length ?_ ?_
 ·exact⟨0,_,[],by omega,by omega,rfl,zD _ _,PSl.new _ _ rfl (vM _),[],All2.nil _,by simp,fun x=>by simp⟩
 rintro m vs h ⟨i,vo,rows,hi,rfl,rfl,kh,po,A,hA,lA,mA⟩
 have r4:h.rd σ.next 0 3=some [vO,vP,vC]:=by rw[zb (by rw[kh.obj _ (by omega)];exact oH)];rfl
 have gA:∀x∈A,gS O x:=fun x hx=>(GC.sub F hu.1).inS ((mZ x).1 (List.mem_of_mem_take ((mA x).1 hx).1))
 have DM:=hA.1
 by_cases ai:i<Z.length
 rotate_left
 ·obtain rfl:i=Z.length:=by omega
  rw[List.take_length]at mA
  obtain⟨so,cap,rfl,bZ,q2,q3,q4,q5⟩:=po;simp only[Z3,seval,-ah,ai,r4,g0,g1,g2];have n1:¬σ.next=so:=by omega
  have pn:=bZ.ok;refine zA.frz (s:=so) (cs:=rows) q2 (hA.bI 0) fun o=>?_
  have bO:Go.Ab.sb so o rows vO=vO:=zAJ (Nat.zero_le _) (hR.O.bel 0);have bP:Go.Ab.sb so o rows vP=vP:=zAJ (Nat.zero_le _) (hR.P.bel 0);have bC:Go.Ab.sb so o rows vC=vC:=zAJ (Nat.zero_le _) (hR.C.bel 0);simp only[sbs,Go.Ab.sb,bO,bP,bC,pn,and_self,if_true,nm_eq];refine Qg (L:=A) g hR ⟨true,.sl o 0 rows.length cap,rows,by rw[DM],hA⟩ ⟨by omega,fun y hy=>by have:=(gA y hy).len;omega⟩ gA fun v L f1 hL=>?_
  simp only[Z3,seval,-ah];refine Gh.fin0 ((kH.trans kh).kill (by omega)) (f1.bel _) (hk v L f1 ?_)
  refine(zGm F gA hL).trans ⟨fun h x h1 h2=>h x ((mA x).2 ⟨(mZ x).2 h1,h2⟩),fun h x hx=>?_⟩
  obtain⟨h1,h2⟩:=(mA x).1 hx;exact h x ((mZ x).1 h1) h2
 obtain⟨wx,ax,pR⟩:=pQ.rowI ai;have ak:(i:Int)<(Z.length:Int):=by omega
 have mz:=List.getElem_mem ai;have xS:=(GC.sub F hu.1).inS ((mZ _).1 mz);have tk:Z.take (i+1)=Z.take i++[Z[i]]:=List.take_succ_eq_append_getElem ai;have wt:IntKind.i64.wrap ((i:Int)+1)=((i+1:Nat):Int):=wrapS ai (by omega)
 simp only[Z3,seval,-ah,ai,ak,pR,r4,g0,g1,g2,gW];refine zBe g hR hW hw xS ⟨wx,ax,rfl⟩ fun t ht=>?_
 cases t with
 |false=>
  have nt:¬GC O P C w Z[i]:=fun h=>by have:=ht.2 h;cases this
  simp only[Z3,seval,-ah,wt];refine⟨_,by omega,i+1,vo,rows,by omega,rfl,rfl,kh,po,A,hA,by omega,fun x=>(mA x).trans ⟨fun h=>⟨by rw[tk];exact List.mem_append_left _ h.1,h.2⟩,fun h=>⟨?_,h.2⟩⟩⟩
  rw[tk]at h
  rcases List.mem_append.1 h.1 with h1|h1
  ·exact h1
  ·exact absurd (List.mem_singleton.1 h1 ▸ h.2) nt
 |true=>
  have yt:GC O P C w Z[i]:=ht.1 rfl;simp only[Z3,seval,-ah,ai,ak,pR];refine PAcc.push (σb:=H1) (bytes:=24) kh po.acc (by omega) (by omega) fun v' h2 k3 p3=>?_
  simp only[Z3,seval,-ah,wt];refine⟨_,by omega,i+1,v',rows++[.fz wx ax Z[i].length (pis Z[i])],by omega,rfl,rfl,k3,by rw[List.length_append];exact p3,A++[Z[i]],hA.snoc ⟨wx,ax,rfl⟩,by rw[List.length_append];simp;omega,fun x=>?_⟩
  rw[tk,List.mem_append,List.mem_append,List.mem_singleton];exact⟨fun h=>h.elim (fun h=>⟨.inl ((mA x).1 h).1,((mA x).1 h).2⟩) (fun h=>⟨.inr h,by rw[h];exact yt⟩),fun h=>h.1.elim (fun h1=>.inl ((mA x).2 ⟨h1,h.2⟩)) .inr⟩
theorem zDV(g:LG O P C)(hR:IsPr vO vP vC O P C)(hU:FII vU u)(hu:zR O P C u)(hW:FII vW w)(hw:zR O P C w)
  (hk:∀t:Bool,(t=true↔szU O u*szU O w=ordF O O.length∧TrivM O P C u w)->K (.bool t) σ):zA Tryz.prog 72 [.agg [vO,vP,vC],vU,vW] σ K:=by
 have fl:∀{A:Prop},¬A->((false=true)↔A):=fun h=>⟨fun x=>(by cases x),fun x=>absurd x h⟩
 have s:=g.s;have bJ:=s.le;have eU:=hu.len;have fH:=hw.len;have g0:=hR.O.one;have g1:=hR.P.one;have g2:=hR.C.one;have gU:=hU.one;have gW:=hW.one;obtain⟨pz,u5⟩:=qL s hu.2;obtain⟨py,u4⟩:=qL s hw.2;have pu:=ZC pz u.length (vM _);have mD:=ZC py w.length (vM _);rw[List.take_length]at pu mD
 have p7:=pow7b (show u.length<=6 by omega)
 have q7:=pow7b (show w.length<=6 by omega)
 have wm:IntKind.i64.wrap (szU O u*szU O w)=szU O u*szU O w:=by
  have h1:szU O u*szU O w<=117649*117649:=Int.mul_le_mul (by omega) (by omega) (by omega) (by omega)
  have h2:0<=szU O u*szU O w:=Int.mul_nonneg (by omega) (by omega)
  exact wrap64 (by omega) (by omega)
 refine zA.gh ?_;refine zB mix Tryz.func72 ?_;simp only[Z3,seval,-ah,g0,g1,g2,gU,gW];generalize hH:σ.new [vO,vP,vC]=H1;have kH:Keep σ H1:=by rw[<-hH];exact zD _ _
 have r3:H1.rd σ.next 0 3=some [vO,vP,vC]:=by rw[<-hH];simp only[Z3,seval,-ah]
 clear hH;simp only[Z3,seval,-ah,r3,g0,g1,g2,gU,gW];refine Qf s hR hU hu.2 (by omega) ?_
 simp only[Z3,seval,-ah,r3,g0,g1,g2,gU,gW];refine Qf s hR hW hw.2 (by omega) ?_
 simp only[Z3,seval,-ah,r3,g0,g1,g2,gU,gW,wm];refine qN s hR ?_
 by_cases e:szU O u*szU O w=ordF O O.length
 rotate_left
 ·simp only[Z3,seval,-ah,r3,g0,g1,g2,gU,gW,wm,e,decide_false]
  exact Gh.fin0 kH trivial (hk false (fl fun h=>e h.1))
 ·simp only[Z3,seval,-ah,r3,g0,g1,g2,gU,gW,wm,e,decide_true]
  refine zIw g hR hU hu hW hw fun v L f1 hL=>?_
  obtain⟨w1,a1,r1,rfl,uz⟩:=f1
  by_cases h0:L.length=0
  ·have z:((L.length:Nat):Int)=0:=by omega
   simp only[Z3,seval,-ah,r3,g0,g1,g2,gU,gW,z,decide_true];exact Gh.fin0 kH trivial (hk true ⟨fun _=>⟨e,hL.1 h0⟩,fun _=>rfl⟩)
  ·have z:¬((L.length:Nat):Int)=0:=by omega
   simp only[Z3,seval,-ah,r3,g0,g1,g2,gU,gW,h0,z,decide_false];exact Gh.fin0 kH trivial (hk false (fl fun h=>h0 (hL.2 h.2)))
end Go.Proofs
namespace Go.Proofs
open Go.Ab Go.Lie Go.Grp
variable{σ:PHeap}{K:PV->PHeap->Prop}{O:List Int}{P:List (List Int)}{C:List (List (List Int))}{vO vP vC:PV}{n:Nat}
theorem zKH(hn:O.length<=6)(hk:∀v,FII v (ZB O)->K v σ):zA Tryz.prog 165 [.int .i64 O.length] σ K:=by
 have hl:(ZB O).length=O.length:=by simp[ZB]
 refine zA.pwf fun w0=>zA.gh ?_
 refine zB mix Tryz.func165 ?_;simp only[Z3,seval,-ah];refine qK (fun m vs h'=>∃(i:Nat) (vC:PV) (rows:List PV),i<=O.length∧m=O.length-i∧vs=[.int .i64 O.length,vC,.int .i64 i]∧Keep σ h'∧PSl σ.next 1 h' vC i rows∧All2 FI rows ((List.range i).map (Grp.unit O))) O.length ?_ ?_
 ·exact .here ⟨0,_,[],by omega,by omega,rfl,zD σ _,PSl.new _ 1 rfl (vM _),All2.nil _⟩
 rintro m vs h' ⟨i,vC,rows,hi,rfl,rfl,aq,ha,aj⟩
 simp only[Z3,seval,-ah];refine iteI (fun ai=>?_) fun aE=>?_
 rotate_left
 ·have bn:i=O.length:=by omega
  subst bn;exact ha.fin aq (aj.bI 0) fun o cap=>hk _ ⟨true,_,rows,by rw[hl],aj⟩
 have ak:i<O.length:=by omega
 have cM:(pis (List.replicate O.length 0)).take i++[PV.int .i64 1]++(pis (List.replicate O.length 0)).drop (i+1)=pis (Grp.unit O i):=zV (by simpa using ak)
 have eU:(Grp.unit O i).length=O.length:=by simp
 simp only[Z3,seval,-ah,ak,List.length_replicate,zZ,zJ,cM,mk8 (n:=O.length) (by omega),mkL (n:=O.length) (by omega),Nat.succ_le_of_lt ak]
 refine PAcc.pushS (σb:=σ) (bytes:=24) (aq.new _) (ha.acc.keep (zD _ _)) rfl (by omega) (by omega) fun v' h2 k2 a2 o2 n2 l2=>?_
 have cA:(h'.new (pis (Grp.unit O i))).next=h'.next+1:=rfl;rw[cA]at o2 n2 l2
 have sD:h2.obj h'.next=some (pis (Grp.unit O i)):=by rw[o2 _ (by omega) (ha.acc.ne (vM _)),zH,if_pos rfl]
 simp only[Z3,seval,-ah,wrapS ak (by omega:O.length<=4611686018427387904)]
 refine⟨O.length-(i+1),by omega,.fzh h'.next (pis (Grp.unit O i)) sD (zK _ _) fun o1=>?_⟩
 obtain⟨f1,f2,f3⟩:=PSl.fzr w0 k2 a2 (s:=h'.next) (cs:=pis (Grp.unit O i)) (by have:=aq.next;omega) (n2 _ (by omega)) o1
 refine .here ⟨i+1,v',rows++[.fz true (.sl o1 0 O.length (.known O.length)) O.length (pis (Grp.unit O i))],by omega,rfl,?_,f1,?_,?_⟩
 ·simp only[sbs,Go.Ab.sb,f3]
 ·have bZ:capOK (.known O.length) O.length=true:=by simp[capOK]
  rwa[zA8 (aj.bI 0) bZ]at f2
 ·rw[zCx]
  exact aj.snoc ⟨true,_,by rw[eU]⟩
theorem zHZ(hR:IsPr vO vP vC O P C)(hn:O.length<=6)(hk:∀v,FII v (ZB O)->K v σ):zA Tryz.prog 120 [.agg [vO,vP,vC]] σ K:=by
 have h1:=hR.P.one;have h2:=hR.C.one;obtain⟨⟨w0,a0,rfl⟩,jH,jJ⟩:=hR;refine zA.gh ?_;refine zB mix Tryz.func120 ?_;simp only[Z3,seval,-ah,h1,h2];refine zKH hn fun v hv=>?_
 simp only[Z3,seval,-ah];exact Gh.fin0 (zD σ _) (hv.bel _) (hk v hv)
end Go.Proofs
namespace Go.Proofs
open Go.Ab Go.Lie Go.Grp
variable{σ h:PHeap}{K:PV->PHeap->Prop}{O x y z a b:List Int}{P:List (List Int)}{C:List (List (List Int))}{u w L:List (List Int)}{vO vP vC vx vy:PV}
theorem zKi(h:u.Pairwise fun a b=>dep a<dep b):(u.map dep).Nodup:=by
 rw[List.Nodup,List.pairwise_map];exact h.imp fun h=>by omega
theorem zBc:∀{a b:List Nat},a.Nodup->(∀x∈a,x∈b)->a.length<=b.length
 |[],_,_,_=>Nat.zero_le _
 |x::a,b,h,s=>by
  rw[List.nodup_cons]at h
  have hx:=s x (List.mem_cons_self ..)
  have:=zBc (b:=b.erase x) h.2 fun y hy=>(List.mem_erase_of_ne (fun e=>h.1 (by rw[<-e];exact hy))).2 (s y (List.mem_cons_of_mem _ hy))
  rw[List.length_erase_of_mem hx]at this
  have:=List.length_pos_of_mem hx
  simp only[List.length_cons];omega
theorem zKC:∀{a b:List Nat},a.Nodup->(∀x∈a,x∈b)->a.length=b.length->∀x∈b,x∈a:=by
 intro a b h s e x hx;rcases Classical.em (x∈a)with h1|h1
 ·exact h1
 ·have:=zBc (a:=x::a) (b:=b) (List.nodup_cons.2 ⟨h1,h⟩) (fun y hy=>by
   rcases List.mem_cons.1 hy with rfl|hy
   ·exact hx
   ·exact s y hy)
  simp only[List.length_cons]at this;omega
theorem zMA(g:LG O P C)(hu:zR O P C u)(hL:∀x∈L,gS O x)(hw:CanG O (GC O P C L) w)(hs:∀x∈u,x∈L):u.length<=w.length∧(u.length=w.length->∀x,GC O P C L x->GC O P C u x):=by
 have F:=g.F;have tF:=GC.sub F hL;have uS:=GC.sub F hu.1;have sub:∀d∈u.map dep,d∈w.map dep:=fun d hd=>by
  obtain⟨v,hv,rfl⟩:=List.mem_map.1 hd;obtain⟨v',h1,h2⟩:=hw.all v (GC.mem (hs v hv)) (hu.2.one v hv).2.1;exact List.mem_map.2 ⟨v',h1,h2⟩
 have nd:=zKi hu.2.asc;refine⟨by have:=zBc nd sub;simpa using this,fun e=>?_⟩
 have back:=zKC nd sub (by simpa using e)
 have key:∀n x,O.length-dep x<=n->GC O P C L x->GC O P C u x:=by
  intro n
  induction n with
  |zero=>
   intro x hx h;rw[Zx (tF.inS h) (by omega)];exact uS.one
  |succ n ih=>
   intro x hx h;have xS:=tF.inS h;rcases Nat.lt_or_ge (dep x) O.length with hd|hd
   ·obtain⟨v',h1,h2⟩:=hw.all x h hd
    obtain⟨v,hv,ev⟩:=List.mem_map.1 (back (dep x) (List.mem_map.2 ⟨v',h1,h2⟩));obtain⟨v1,v2,v3⟩:=hu.2.one v hv;have vT:=ZM v1;rw[ev]at vT v3
    obtain⟨z,zS,zT,e1,e2⟩:=zBQ g hd (ZM xS) vT v3;have hz:GC O P C L z:=by
     rw[e2];exact tF.cl (tF.inv (tF.pw (GC.mem (hs v hv)) _)) h
    have:=Grp.dep_ge zT hd
    rw[e1];exact uS.cl (uS.pw (GC.mem hv) _) (ih z (by omega) hz)
   ·rw[Zx xS hd];exact uS.one
 exact fun x h=>key _ x (vM _) h
theorem zI1(g:LG O P C)(hR:IsPr vO vP vC O P C)(hx:gS O x)(hy:gS O y)(bq:FI vx x)(mG:FI vy y)(hk:∀v,FI v (gcnj O P C x y)->K v σ):zA Tryz.prog 164 [.agg [vO,vP,vC],vx,vy] σ K:=by
 have s:=g.s;have F:=g.F;have G:=F.g;have g0:=hR.O.one;have g1:=hR.P.one;have g2:=hR.C.one;have gx:=bq.one;have gy:=mG.one;refine zA.gh ?_;refine zB mix Tryz.func164 ?_;simp only[Z3,seval,-ah,g0,g1,g2,gx,gy];generalize hH:σ.new [vO,vP,vC]=H1;have kH:Keep σ H1:=by rw[<-hH];exact zD _ _
 have r3:H1.rd σ.next 0 3=some [vO,vP,vC]:=by rw[<-hH];simp only[Z3,seval,-ah]
 clear hH;simp only[Z3,seval,-ah,r3,g0,g1,g2,gx,gy];refine zAq s g.co hR hy mG fun v1 f1=>?_
 have o1:=f1.one;simp only[Z3,seval,-ah,r3,g0,g1,g2,gx,gy,o1];refine qP s hR hx hy bq mG fun v2 f2=>?_
 have o2:=f2.one;simp only[Z3,seval,-ah,r3,g0,g1,g2,gx,gy,o1,o2];have iy:=(G.inv_in hy).1;refine qP s hR iy (G.cl hx hy) f1 f2 fun v3 f3=>?_
 have o3:=f3.one;simp only[Z3,seval,-ah,r3,g0,g1,g2,gx,gy,o1,o2,o3];refine Gh.fin0 kH (f3.bel _) (hk _ ?_);have e:gm O P C (ginv (gS O) (gm O P C) (zv O) y) (gm O P C x y)=gcnj O P C x y:=G.cnj_eq hx hy (G.cl iy (G.cl hx hy)) (by rw[<-G.as hy iy (G.cl hx hy),G.inv_r hy,G.l1 (G.cl hx hy)])
 rw[e]at f3
 exact f3
end Go.Proofs
namespace Go.Proofs
open Go.Ab Go.Lie Go.Grp
variable{σ h:PHeap}{K:PV->PHeap->Prop}{O x y z:List Int}{P:List (List Int)}{C:List (List (List Int))}{u w out A L B:List (List Int)}{i:Nat}{vO vP vC vU vB:PV}{cs:List PV}
theorem zNg(g:LG O P C){H:List Int->Prop}(hH:gB O P C H)(hw:CanG O H w):∀x,H x->GC O P C w x:=by
 have F:=g.F;have uR:=GC.sub F (L:=w) fun x hx=>(hw.one x hx).1
 have key:∀n x,O.length-dep x<=n->H x->GC O P C w x:=by
  intro n
  induction n with
  |zero=>
   intro x hx h;rw[Zx (hH.inS h) (by omega)];exact uR.one
  |succ n ih=>
   intro x hx h;have xS:=hH.inS h;rcases Nat.lt_or_ge (dep x) O.length with hd|hd
   ·obtain⟨v,hv,ev⟩:=hw.all x h hd
    obtain⟨v1,v2,v3⟩:=hw.one v hv;have vT:=ZM v1;rw[ev]at vT v3
    obtain⟨z,zS,zT,e1,e2⟩:=zBQ g hd (ZM xS) vT v3;have hz:H z:=by
     rw[e2];exact hH.cl (hH.inv (hH.pw (hw.mem v hv) _)) h
    have:=Grp.dep_ge zT hd
    rw[e1];exact uR.cl (uR.pw (GC.mem hv) _) (ih z (by omega) hz)
   ·rw[Zx xS hd];exact uR.one
 exact fun x h=>key _ x (vM _) h
set_option maxHeartbeats 1600000 in
theorem zFQ(g:LG O P C)(hR:IsPr vO vP vC O P C)(hU:FII vU u)(hu:zR O P C u)(hB:FII vB B)(Br:∀y∈B,gS O y)(E2:B.length<=6)
  (hk:∀v L,FII v L->(L.length=u.length↔∀y∈B,∀x∈u,GC O P C u (gcnj O P C x y))->K v σ):zA Tryz.prog 119 [.agg [vO,vP,vC],vU,vB] σ K:=by
 have s:=g.s;have F:=g.F;have bJ:=s.le;have g0:=hR.O.one;have g1:=hR.P.one;have g2:=hR.C.one;obtain⟨wb,ab,rb,rfl,bB⟩:=hB;refine zA.gh ?_;refine zB mix Tryz.func119 ?_;simp only[Z3,seval,-ah,g0,g1,g2];generalize hH:σ.new [vO,vP,vC]=H1;have kH:Keep σ H1:=by rw[<-hH];exact zD _ _
 have nH:H1.next=σ.next+1:=by rw[<-hH];rfl
 have oH:H1.obj σ.next=some [vO,vP,vC]:=by rw[<-hH,zH,if_pos rfl]
 clear hH;refine zC (fun m vs h=>∃(vo:PV) (out:List (List Int)),m=O.length-out.length∧vs=[.fz wb ab B.length rb,.ptr σ.next 0,vo]∧Keep H1 h∧FII vo out∧zR O P C out∧(out=u∨(¬(∀y∈B,∀x∈u,GC O P C u (gcnj O P C x y))∧u.length<out.length))) (O.length-u.length) ?_ ?_
 ·exact⟨vU,u,rfl,rfl,Keep.refl _,hU,hu,.inl rfl⟩
 rintro m vs h0 ⟨vo,out,rfl,rfl,k0,fo,so,uD⟩
 have je:=so.len;have B0:SzL out:=⟨by omega,fun y hy=>by have:=(so.1 y hy).len;omega⟩
 have D5:=fo;obtain⟨wo,ao,ro,rfl,gG⟩:=fo;simp only[Z3,seval,-ah];refine zE8 D5 B0 fun v1 h1 rows k1 p1 r1=>?_
 simp only[Z3,seval,-ah];refine zC (fun m vs h2=>∃(i:Nat) (vl:PV) (rows:List PV) (A:List (List Int)),i<=B.length∧m=B.length-i∧vs=[.fz wb ab B.length rb,.ptr σ.next 0,.fz wo ao out.length ro,vl,.int .i64 i]∧Keep h0 h2∧PSl h0.next 1 h2 vl rows.length rows∧All2 FI rows (out++A)∧A.length<=6*i∧(∀x∈A,∃y∈B,∃z∈out,x=gcnj O P C z y)∧(∀y∈B.take i,∀z∈out,gcnj O P C z y∈A)) B.length ?_ ?_
 ·refine⟨0,v1,rows,[],by omega,by omega,rfl,k1,by rw[r1.1];exact p1,by rw[List.append_nil];exact r1,by simp,fun x hx=>(by cases hx),fun y hy=>(by simp at hy)⟩
 clear p1 r1 k1
 rintro m vs h2 ⟨i,vl,rows,A,hi,rfl,rfl,k2,p2,r2,lA,a1,a2⟩
 have BB:∀x∈A,gS O x:=fun x hx=>by
  obtain⟨y,hy,z,hz,rfl⟩:=a1 x hx;exact F.g.cnj_in (so.1 z hz) (Br y hy)
 by_cases ai:i<B.length
 rotate_left
 ·obtain rfl:i=B.length:=by omega
  rw[List.take_length]at a2
  have gL:∀x∈out++A,gS O x:=fun x hx=>(List.mem_append.1 hx).elim (so.1 x) (BB x)
  have bK:=r2.1;rw[List.length_append]at bK
  obtain⟨sl,cap,rfl,bZ,q2,q3,q4,q5⟩:=p2;have Cr:=k0.next;have EC:=k2.next;have r4:h2.rd σ.next 0 3=some [vO,vP,vC]:=by rw[zb (by rw[k2.obj _ (by omega),k0.obj _ (by omega)];exact oH)];rfl
  simp only[Z3,seval,-ah,ai,r4,g0,g1,g2];have pn:=bZ.ok;refine zA.frz (s:=sl) (cs:=rows) q2 (r2.bI 0) fun o=>?_
  have bO:Go.Ab.sb sl o rows vO=vO:=zAJ (Nat.zero_le _) (hR.O.bel 0);have bP:Go.Ab.sb sl o rows vP=vP:=zAJ (Nat.zero_le _) (hR.P.bel 0);have bC:Go.Ab.sb sl o rows vC=vC:=zAJ (Nat.zero_le _) (hR.C.bel 0);simp only[sbs,Go.Ab.sb,bO,bP,bC,pn,and_self,if_true,nm_eq];refine Qg (L:=out++A) g hR ⟨true,.sl o 0 rows.length cap,rows,by rw[List.length_append,bK],r2⟩ ⟨by rw[List.length_append];omega,fun y hy=>by have:=(gL y hy).len;omega⟩ gL fun v L f1 hL=>?_
  have kk:Keep h0 (h2.kill sl):=k2.kill q4;have sL:zR O P C L:=⟨fun x hx=>(hL.one x hx).1,hL.congr fun x=>⟨zNg g (GC.sub F gL) hL x,fun h=>h _ (GC.sub F gL) hL.mem⟩⟩
  obtain⟨l1,l2⟩:=zMA g so gL hL fun x hx=>List.mem_append_left _ hx
  have f10:=f1;obtain⟨wl,al,rl,rfl,CI⟩:=f1
  by_cases hlen:L.length=out.length
  ·simp only[Z3,seval,-ah,hlen]
   have f11:FII (.fz wl al out.length rl) L:=by rw[<-hlen];exact f10
   refine Gh.fin0 ((kH.trans k0).trans kk) (f11.bel _) (hk _ L f11 ?_);have all:=l2 hlen.symm;rcases uD with rfl|⟨hn,uG⟩
   ·exact⟨fun _ y hy x hx=>all _ (GC.mem (List.mem_append_right _ (a2 y hy x hx))),fun _=>hlen⟩
   ·exact⟨fun h=>by omega,fun h=>absurd h hn⟩
  ·have hI:¬((L.length:Nat):Int)=(out.length:Int):=by omega
   simp only[Z3,seval,-ah,hlen,hI];have Ex:=sL.len;refine⟨_,?_,_,L,rfl,rfl,k0.trans kk,f10,sL,.inr ?_⟩
   ·omega
   ·rcases uD with rfl|⟨hn,uG⟩
    ·refine⟨fun h=>hlen ?_,by omega⟩
     have e:∀x,GC O P C (out++A) x↔GC O P C out x:=fun x=>⟨fun hx=>hx _ (GC.sub F so.1) fun l hl=>(List.mem_append.1 hl).elim GC.mem fun h1=>by
      obtain⟨y,hy,z,hz,rfl⟩:=a1 l h1;exact h y hy z hz,fun hx=>hx _ (GC.sub F gL) fun l hl=>GC.mem (List.mem_append_left _ hl)⟩
     rw[(hL.congr e).unique s F (GC.sub F so.1) so.2]
    ·exact⟨hn,by omega⟩
 obtain⟨wy,ay,AL⟩:=bB.rowI ai;have ak:(i:Int)<(B.length:Int):=by omega
 have my:=List.getElem_mem ai;have yS:=Br _ my;have tk:B.take (i+1)=B.take i++[B[i]]:=List.take_succ_eq_append_getElem ai;have wi:IntKind.i64.wrap ((i:Int)+1)=((i+1:Nat):Int):=wrapS ai (by omega)
 simp only[Z3,seval,-ah,ai];refine zC (fun m vs h3=>∃(j:Nat) (vl:PV) (rows:List PV) (A':List (List Int)),j<=out.length∧m=out.length-j∧vs=[.fz wb ab B.length rb,.ptr σ.next 0,.fz wo ao out.length ro,vl,.int .i64 i,.int .i64 j]∧Keep h0 h3∧PSl h0.next 1 h3 vl rows.length rows∧All2 FI rows (out++A')∧A'.length<=6*i+j∧(∀x∈A',∃y∈B,∃z∈out,x=gcnj O P C z y)∧(∀y∈B.take i,∀z∈out,gcnj O P C z y∈A')∧(∀z∈out.take j,gcnj O P C z B[i]∈A')) out.length ?_ ?_
 ·exact⟨0,vl,rows,A,by omega,by omega,rfl,k2,p2,r2,by omega,a1,a2,fun z hz=>(by simp at hz)⟩
 clear p2 r2 k2 lA a1 a2 BB A rows vl
 rintro m vs h3 ⟨j,vl,rows,A,hj,rfl,rfl,k3,p3,r3,lA,a1,a2,a3⟩
 have bK:=r3.1;rw[List.length_append]at bK
 by_cases dE:j<out.length
 rotate_left
 ·obtain rfl:j=out.length:=by omega
  rw[List.take_length]at a3
  simp only[Z3,seval,-ah,dE,wi];refine⟨_,by omega,i+1,vl,rows,A,by omega,rfl,rfl,k3,p3,r3,by omega,a1,fun y hy z hz=>?_⟩
  rw[tk]at hy
  rcases List.mem_append.1 hy with h|h
  ·exact a2 y h z hz
  ·rw[List.mem_singleton.1 h];exact a3 z hz
 obtain⟨wz,az,pQ⟩:=gG.rowI dE;have s7:(j:Int)<(out.length:Int):=by omega
 have mz:=List.getElem_mem dE;have zS:=so.1 _ mz;have Cr:=k0.next;have r4:h3.rd σ.next 0 3=some [vO,vP,vC]:=by rw[zb (by rw[k3.obj _ (by omega),k0.obj _ (by omega)];exact oH)];rfl
 have wj:IntKind.i64.wrap ((j:Int)+1)=((j+1:Nat):Int):=wrapS dE (by omega)
 simp only[Z3,seval,-ah,dE,s7,ai,ak,pQ,AL,r4,g0,g1,g2];refine zI1 g hR zS yS ⟨wz,az,rfl⟩ ⟨wy,ay,rfl⟩ fun v4 f4=>?_
 have f40:=f4;obtain⟨w4,a4,rfl⟩:=f4;simp only[Z3,seval,-ah,dE,s7,ai,ak,pQ,AL,r4,g0,g1,g2];refine PAcc.push (σb:=h0) (bytes:=24) k3 p3.acc (by omega) (by omega) fun v' h5 k5 p5=>?_
 simp only[Z3,seval,-ah,wj];refine⟨_,by omega,j+1,v',rows++[.fz w4 a4 (gcnj O P C out[j] B[i]).length (pis (gcnj O P C out[j] B[i]))],A++[gcnj O P C out[j] B[i]],by omega,rfl,rfl,k5,by rw[List.length_append];exact p5,by rw[<-List.append_assoc];exact r3.snoc f40,by rw[List.length_append];simp;omega,fun x hx=>?_,fun y hy z hz=>List.mem_append_left _ (a2 y hy z hz),fun z hz=>?_⟩
 ·rcases List.mem_append.1 hx with h|h
  ·exact a1 x h
  ·exact⟨_,my,_,mz,List.mem_singleton.1 h⟩
 ·rw[List.take_succ_eq_append_getElem dE]at hz
  rcases List.mem_append.1 hz with h|h
  ·exact List.mem_append_left _ (a3 z h)
  ·rw[List.mem_singleton.1 h];exact List.mem_append_right _ (List.mem_singleton.2 rfl)
end Go.Proofs
namespace Go.Proofs
open Go.Ab Go.Lie Go.Grp
variable{σ h:PHeap}{K:PV->PHeap->Prop}{O x y:List Int}{P:List (List Int)}{C:List (List (List Int))}{u w Z A T L:List (List Int)}{t N:Nat}{vO vP vC vU vW vZ vB:PV}
theorem zGK(g:LG O P C)(hR:IsPr vO vP vC O P C)(hU:FII vU u)(hu:zR O P C u)(hk:∀t:Bool,(t=true↔NorG O P C u)->K (.bool t) σ):zA Tryz.prog 71 [.agg [vO,vP,vC],vU] σ K:=by
 have s:=g.s;have bJ:=s.le;have g0:=hR.O.one;have g1:=hR.P.one;have g2:=hR.C.one;have ie:=hU;have De:(ZB O).length=O.length:=by simp[ZB]
 obtain⟨wu,au,ru,rfl,ks⟩:=hU;refine zA.gh ?_;refine zB mix Tryz.func71 ?_;simp only[Z3,seval,-ah,g0,g1,g2];generalize hH:σ.new [vO,vP,vC]=H1;have kH:Keep σ H1:=by rw[<-hH];exact zD _ _
 have r3:H1.rd σ.next 0 3=some [vO,vP,vC]:=by rw[<-hH];simp only[Z3,seval,-ah]
 clear hH;simp only[Z3,seval,-ah,r3,g0,g1,g2];refine zHZ hR (by omega) fun vB fB=>?_
 have oB:=fB.one;simp only[Z3,seval,-ah,r3,g0,g1,g2,oB];refine zFQ g hR ie hu fB (zEz s) (by omega) fun v L f1 hL=>?_
 obtain⟨wl,al,rl,rfl,bK⟩:=f1;simp only[Z3,seval,-ah,r3,g0,g1,g2,oB];refine Gh.fin0 kH trivial (hk _ ?_);rw[decide_eq_true_iff];exact Iff.trans ⟨fun h=>by omega,fun h=>by omega⟩ hL
theorem zGI(hR:IsPr vO vP vC O P C)(sz:SzP O P C)(hZ:FII vZ Z)(c7:SzL Z)(hk:∀t:Bool,(t=true↔splP O P C Z)->K (.bool t) σ):zA Tryz.prog 29 [.agg [vO,vP,vC],vZ] σ K:=by
 have fl:∀{A:Prop},¬A->((false=true)↔A):=fun h=>⟨fun x=>(by cases x),fun x=>absurd x h⟩
 have q0:=hR.O.one;have q1:=hR.P.one;have q2:=hR.C.one;have lI:=c7.l;obtain⟨wZ,aZ,rZ,rfl,gT⟩:=hZ;refine zA.gh ?_;refine zB mix Tryz.func29 ?_;simp only[Z3,seval,-ah,q0,q1,q2];generalize hH:σ.new [vO,vP,vC]=H;have kH:Keep σ H:=by rw[<-hH];exact zD _ _
 have r3:H.rd σ.next 0 3=some [vO,vP,vC]:=by rw[<-hH];simp only[Z3,seval,-ah]
 clear hH;simp only[Z3,seval,-ah,r3,q0,q1,q2];refine q9 hR sz fun t ht=>?_
 cases t with
 |false=>
  simp only[Z3,seval,-ah];exact Gh.fin0 kH trivial (hk _ (fl fun h=>by have:=ht.2 h.1;cases this))
 |true=>
 have gp:=ht.1 rfl;have g:LG O P C:=⟨gp.1,gp.2⟩
 by_cases c2:(Z.length:Int)<1
 ·simp only[Z3,seval,-ah,c2]
  exact Gh.fin0 kH trivial (hk _ (fl fun⟨_,u,w,e,_⟩=>by rw[e]at c2;simp only[List.length_cons]at c2;omega))
 obtain⟨l1,T,rfl⟩:∃w L,Z=w::L:=by
  match Z,c2 with
  |[],h=>simp at h
  |w::L,_=>exact⟨w,L,rfl⟩
 have eR:(l1::T).length=T.length+1:=rfl;obtain⟨r1,rT,rfl⟩:∃r1 rL,rZ=r1::rL:=by
  have:=gT.1
  match rZ,this with
  |[],h=>simp at h
  |r1::rL,_=>exact⟨r1,rL,rfl⟩
 obtain⟨h1,oZ⟩:=All2.tl gT;have hT:All2 FI rT T:=oZ;obtain⟨w1,a1,rfl⟩:=h1;rw[eR]at c2 lI ⊢
 obtain⟨N,hN⟩:∃N,N=T.length+1:=⟨_,rfl⟩
 have d2:¬((N:Int)<1):=by omega
 have z0:(0:Int)<(N:Int):=by omega
 have m2:IntKind.i64.wrap ((N:Int)-1)=(N:Int)-1:=wrap64 (by omega) (by omega)
 rw[<-hN]
 by_cases c1:l1.length=1
 rotate_left
 ·have eT:¬((l1.length:Int)=1):=by omega
  simp only[Z3,seval,-ah,d2,z0,eT,c1];exact Gh.fin0 kH trivial (hk _ (fl fun h=>by obtain⟨L,u,e,_⟩:=zBR h;rw[e]at c1;exact c1 rfl))
 obtain⟨m,rfl⟩:∃m,l1=[m]:=by
  match l1,c1 with
  |[m],_=>exact⟨m,rfl⟩
 have g1:(pis [m])[0]? = some (.int .i64 m):=rfl;have eT:(((1:Nat):Int)=1)=True:=by simp
 have jQ:(0:Int)<((1:Nat):Int):=by decide
 have ol:[m].length=1:=rfl;rw[ol];simp only[Z3,seval,-ah,d2,z0,m2,g1,eT,jQ];refine QY ?_
 by_cases aW:0<=m∧m<=(N:Int)-1
 rotate_left
 ·simp only[Z3,seval,-ah,aW,decide_false]
  exact Gh.fin0 kH trivial (hk _ (fl fun h=>by
   obtain⟨L,u,e,e2⟩:=zBR h;simp only[List.cons.injEq,and_true]at e
   have:=congrArg List.length e2
   rw[List.length_append]at this
   omega))
 obtain⟨u,w,rfl,rfl⟩:∃L u,m=((L.length:Nat):Int)∧T=L++u:=⟨T.take m.toNat,T.drop m.toNat,by rw[List.length_take];omega,(List.take_append_drop _ _).symm⟩
 have ld:N=u.length+w.length+1:=by rw[hN,List.length_append]
 have hU:All2 FI (rT.take u.length) u:=by have:=hT.take u.length;rwa[List.take_left]at this
 have hW:All2 FI (rT.drop u.length) w:=by have:=hT.drop u.length;rwa[List.drop_left]at this
 have w2:IntKind.i64.wrap (1+(u.length:Int))=((1+u.length:Nat):Int):=by rw[wrap64 (by omega) (by omega)];omega
 have b1:((1+u.length:Nat):Int)<=(N:Int):=by omega
 have pB:1+u.length<=N:=by omega
 have b2:(1:Int)<=((1+u.length:Nat):Int):=by omega
 have pA:1<=1+u.length:=by omega
 have b3:1+u.length-1=u.length:=by omega
 have b4:N-(1+u.length)=w.length:=by omega
 have b5:(1:Int)<=(N:Int):=by omega
 have b6:List.drop (1+u.length) (PV.fz w1 a1 1 (pis [(u.length:Int)])::rT)=rT.drop u.length:=by rw[Nat.add_comm];rfl
 have b7:List.take w.length (rT.drop u.length)=rT.drop u.length:=List.take_of_length_le (by rw[hW.1];exact vM _)
 simp only[Z3,seval,-ah,aW,d2,z0,m2,g1,eT,jQ,w2,b1,pB,b2,pA,b3,b4,b5,b6,b7,List.drop_succ_cons,List.drop_zero,r3,q0,q1,q2];generalize mJ:PV.fz false (pslA 1 aZ 1 (1+u.length)) u.length (List.take u.length rT)=vU;generalize wY:PV.fz false (pslA 1 aZ (1+u.length) N) w.length (List.drop u.length rT)=vW;have fU:FII vU u:=by rw[<-mJ];exact⟨false,_,_,rfl,hU⟩
 have fW:FII vW w:=by rw[<-wY];exact⟨false,_,_,rfl,hW⟩
 have oU:=fU.one;have oW:=fW.one;have gg:SzL u:=⟨by omega,fun y hy=>c7.2 y (by simp[hy])⟩
 have ni:SzL w:=⟨by omega,fun y hy=>c7.2 y (by simp[hy])⟩
 refine zDW g hR fU gg fun t hu=>?_
 cases t with
 |false=>
  simp only[Z3,seval,-ah,r3,q0,q1,q2,oU,oW];exact Gh.fin0 kH trivial (hk _ (fl fun h=>by have:=hu.2 (ZI h).2.1;cases this))
 |true=>
 have su:=hu.1 rfl;simp only[Z3,seval,-ah,r3,q0,q1,q2,oU,oW];refine zDW g hR fW ni fun t hw=>?_
 cases t with
 |false=>
  simp only[Z3,seval,-ah,r3,q0,q1,q2,oU,oW];exact Gh.fin0 kH trivial (hk _ (fl fun h=>by have:=hw.2 (ZI h).2.2.1;cases this))
 |true=>
 have sw:=hw.1 rfl;simp only[Z3,seval,-ah,r3,q0,q1,q2,oU,oW];refine zGK g hR fU su fun t hn=>?_
 cases t with
 |false=>
  simp only[Z3,seval,-ah,r3,q0,q1,q2,oU,oW];exact Gh.fin0 kH trivial (hk _ (fl fun h=>by have:=hn.2 (ZI h).2.2.2.1;cases this))
 |true=>
 simp only[Z3,seval,-ah,r3,q0,q1,q2,oU,oW];refine zDV g hR fU su fW sw fun t hc=>?_
 simp only[Z3,seval,-ah,r3,q0,q1,q2,oU,oW];exact Gh.fin0 kH trivial (hk t (hc.trans ⟨fun h=>⟨gp,u,w,rfl,su,sw,hn.1 rfl,h.1,h.2⟩,fun h=>(ZI h).2.2.2.2⟩))
end Go.Proofs
namespace Go.Proofs
open Go.Ab Go.Lie Go.Grp
variable{σ h:PHeap}{K:PV->PHeap->Prop}{x l a b:List Int}{va:PV}{N t:Nat}
def Bij(N:Nat)(b:List Int):Prop:=b.length=N∧(∀x∈b,0<=x∧x<(N:Int))∧b.Nodup
theorem zCH:∀{N:Nat} {l:List Nat},l.Nodup->(∀x∈l,x<N)->l.length<=N
 |0,l,_,h=>by
  cases l with
  |nil=>exact vM _
  |cons a l=>exact absurd (h a (List.mem_cons_self ..)) (Nat.not_lt_zero _)
 |N+1,l,hn,h=>by
  by_cases hm:N∈l
  ·have h1:=zCH (N:=N) (hn.erase N) fun x hx=>by
    have h2:=(List.Nodup.mem_erase_iff hn).1 hx
    have:=h x h2.2
    have:=h2.1
    omega
   rw[List.length_erase_of_mem hm]at h1
   omega
  ·have:=zCH (N:=N) hn fun x hx=>by
    have:=h x hx
    have:x≠N:=fun e=>hm (e ▸ hx)
    omega
   omega
theorem zHV(h:∀x∈l,0<=x)(hn:l.Nodup):(l.map Int.toNat).Nodup:=by
 refine List.pairwise_map.2 (hn.imp_of_mem fun {a b} ha hb aC e=>aC ?_)
 have:=h a ha
 have:=h b hb
 omega
theorem zAS(h:∀x∈l,0<=x∧x<(N:Int))(hn:l.Nodup):l.length<=N:=by
 have:=zCH (N:=N) (zHV (fun x hx=>(h x hx).1) hn) fun x hx=>by
  obtain⟨y,hy,rfl⟩:=List.mem_map.1 hx
  have:=h y hy
  omega
 rwa[List.length_map]at this
theorem Bij.sur(hb:Bij N b){j:Nat}(hj:j<N):(j:Int)∈b:=by
 refine Classical.byContradiction fun hm=>?_
 have:=zAS (l:=(j:Int)::b) (N:=N) (fun x hx=>by
  rcases List.mem_cons.1 hx with rfl|hx
  ·omega
  ·exact hb.2.1 x hx) (List.nodup_cons.2 ⟨hm,hb.2.2⟩)
 rw[List.length_cons,hb.1]at this
 omega
theorem zEN(hl:l.length<=1048576)(hv:FI va l)(hk:∀t:Bool,(t=true↔Bij l.length l)->K (.bool t) σ):zA Tryz.prog 126 [va] σ K:=by
 have fl:∀{A:Prop},¬A->((false=true)↔A):=fun h=>⟨fun x=>(by cases x),fun x=>absurd x h⟩
 obtain⟨w0,a0,rfl⟩:=hv;refine zA.gh ?_;have hz:List.replicate l.length (PV.bool false)=seenB l l.length 0:=zDs.symm;have wl:IntKind.i64.wrap ((l.length:Int)-1)=(l.length:Int)-1:=wrap64 (by omega) (by omega)
 refine zB mix Tryz.func126 ?_;simp only[Z3,seval,-ah,Go.Ab.mkL (n:=l.length) (by omega),show(l.length:Int)*((1:Nat):Int)<=140737488355328 by omega]
 refine zC (fun m us h'=>∃i:Nat,i<=l.length∧m=l.length-i∧us=[.fz w0 a0 l.length (pis l),.sl σ.next 0 l.length (.known l.length),.fz w0 a0 l.length (pis l),.int .i64 l.length,.int .i64 i]∧h'=σ.new (seenB l l.length i)∧(∀x∈l.take i,0<=x∧x<(l.length:Int))∧(l.take i).Nodup) l.length ?_ ?_
 ·refine⟨0,by omega,by omega,rfl,?_,fun x hx=>by simp at hx,by simp⟩
  rw[<-hz]
 rintro m us h' ⟨i,hi,rfl,rfl,rfl,aW,jf⟩
 simp only[Z3,seval,-ah];refine iteI (fun ai=>?_) fun aE=>?_
 rotate_left
 ·rw[List.take_of_length_le (by omega)]at aW jf
  exact Gh.fin0 (zD σ _) trivial (hk _ ⟨fun _=>⟨rfl,aW,jf⟩,fun _=>rfl⟩)
 have mem:=List.getElem_mem ai;simp only[Z3,seval,-ah,ai,gi ai,zG,wl];refine qx ?_
 by_cases b1:0<=l[i]∧l[i]<=(l.length:Int)-1
 rotate_left
 ·simp only[Z3,seval,-ah,b1,decide_false]
  exact Gh.fin0 (zD σ _) trivial (hk _ (fl fun h=>b1 (by have:=h.2.1 _ mem;omega)))
 obtain⟨m,hm⟩:∃m:Nat,l[i]=(m:Int):=⟨l[i].toNat,by omega⟩
 have cN:m<l.length:=by omega
 have mI:(m:Int)<=(l.length:Int)-1:=by omega
 have rV:(m:Int)<(l.length:Int):=by omega
 have m0:(0:Int)<=(m:Int):=by omega
 by_cases eZ:(m:Int)∈l.take i
 ·have gs:(seenB l l.length i)[m]? = some (.bool true):=by rw[ZV cN,decide_eq_true eZ]
  simp only[Z3,seval,-ah,ai,gi ai,zG,hm,mI,m0,gs,cN,rV,wl];refine Gh.fin0 (zD σ _) trivial (hk _ (fl fun h=>?_))
  rw[<-hm]at eZ
  obtain⟨q,hq,e⟩:=List.mem_iff_getElem.1 eZ;rw[List.length_take]at hq
  rw[List.getElem_take]at e
  have:=(List.getElem_inj (h₀:=by omega) (h₁:=ai) h.2.2).1 e
  omega
 have gs:(seenB l l.length i)[m]? = some (.bool false):=by rw[ZV cN,decide_eq_false eZ]
 have wr:(σ.new (seenB l l.length i)).wr σ.next m [.bool true]=some ((σ.new (seenB l l.length i)).set σ.next ((seenB l l.length i).set m (.bool true))):=zBB (by rw[zH,if_pos rfl]) (by rw[Z8];exact cN) rfl
 have cM:(σ.new (seenB l l.length i)).set σ.next ((seenB l l.length i).set m (.bool true))=σ.new (seenB l l.length (i+1)):=by rw[ZX,zDt ai hm]
 simp only[Z3,seval,-ah,ai,gi ai,zG,hm,mI,m0,gs,cN,rV,wr,cM,wl,wrapS ai (by omega:l.length<=4611686018427387904)]
 refine⟨_,by omega,i+1,by omega,rfl,rfl,rfl,?_,?_⟩
 ·intro x hx
  rw[List.take_succ_eq_append_getElem ai]at hx
  rcases List.mem_append.1 hx with hx|hx
  ·exact aW x hx
  ·rw[List.mem_singleton.1 hx];omega
 ·rw[List.take_succ_eq_append_getElem ai,List.nodup_append]
  refine⟨jf,by simp,fun x hx y hy e=>?_⟩
  rw[List.mem_singleton.1 hy,hm]at e
  exact eZ (e ▸ hx)
theorem zBx(hl:l.length<=1048576)(hv:FI va l)(hk:∀t:Bool,(t=true↔l.length<=128∧Bij l.length l)->K (.bool t) σ):zA Tryz.prog 101 [va] σ K:=by
 have fl:∀{A:Prop},¬A->((false=true)↔A):=fun h=>⟨fun x=>(by cases x),fun x=>absurd x h⟩
 obtain⟨w0,a0,rfl⟩:=hv;refine zA.gh ?_;have hz:List.replicate l.length (PV.bool false)=seenB l l.length 0:=zDs.symm;have wl:IntKind.i64.wrap ((l.length:Int)-1)=(l.length:Int)-1:=wrap64 (by omega) (by omega)
 refine zB mix Tryz.func101 ?_
 by_cases fh:(128:Int)<(l.length:Int)
 ·simp only[Z3,seval,-ah,fh]
  exact Gh.fin0 (Keep.refl σ) trivial (hk _ (fl fun h=>by have:=h.1;omega))
 simp only[Z3,seval,-ah,fh,Go.Ab.mkL (n:=l.length) (by omega),show(l.length:Int)*((1:Nat):Int)<=140737488355328 by omega]
 refine zC (fun m us h'=>∃i:Nat,i<=l.length∧m=l.length-i∧us=[.fz w0 a0 l.length (pis l),.sl σ.next 0 l.length (.known l.length),.int .i64 i]∧h'=σ.new (seenB l l.length i)∧(∀x∈l.take i,0<=x∧x<(l.length:Int))∧(l.take i).Nodup) l.length ?_ ?_
 ·refine⟨0,by omega,by omega,rfl,?_,fun x hx=>by simp at hx,by simp⟩
  rw[<-hz]
 rintro m us h' ⟨i,hi,rfl,rfl,rfl,aW,jf⟩
 simp only[Z3,seval,-ah];refine iteI (fun ai=>?_) fun aE=>?_
 rotate_left
 ·rw[List.take_of_length_le (by omega)]at aW jf
  exact Gh.fin0 (zD σ _) trivial (hk _ ⟨fun _=>⟨by omega,rfl,aW,jf⟩,fun _=>rfl⟩)
 have mem:=List.getElem_mem ai;have oh:(i:Int)<(l.length:Int):=by omega
 simp only[Z3,seval,-ah,ai,oh,gi ai,zG,wl];refine QY ?_
 by_cases b1:0<=l[i]∧l[i]<=(l.length:Int)-1
 rotate_left
 ·simp only[Z3,seval,-ah,b1,decide_false]
  exact Gh.fin0 (zD σ _) trivial (hk _ (fl fun h=>b1 (by have:=h.2.2.1 _ mem;omega)))
 obtain⟨m,hm⟩:∃m:Nat,l[i]=(m:Int):=⟨l[i].toNat,by omega⟩
 have cN:m<l.length:=by omega
 have mI:(m:Int)<=(l.length:Int)-1:=by omega
 have rV:(m:Int)<(l.length:Int):=by omega
 have m0:(0:Int)<=(m:Int):=by omega
 by_cases eZ:(m:Int)∈l.take i
 ·have gs:(seenB l l.length i)[m]? = some (.bool true):=by rw[ZV cN,decide_eq_true eZ]
  simp only[Z3,seval,-ah,ai,oh,gi ai,zG,hm,mI,m0,gs,cN,rV,wl];refine Gh.fin0 (zD σ _) trivial (hk _ (fl fun h=>?_))
  rw[<-hm]at eZ
  obtain⟨q,hq,e⟩:=List.mem_iff_getElem.1 eZ;rw[List.length_take]at hq
  rw[List.getElem_take]at e
  have:=(List.getElem_inj (h₀:=by omega) (h₁:=ai) h.2.2.2).1 e
  omega
 have gs:(seenB l l.length i)[m]? = some (.bool false):=by rw[ZV cN,decide_eq_false eZ]
 have wr:(σ.new (seenB l l.length i)).wr σ.next m [.bool true]=some ((σ.new (seenB l l.length i)).set σ.next ((seenB l l.length i).set m (.bool true))):=zBB (by rw[zH,if_pos rfl]) (by rw[Z8];exact cN) rfl
 have cM:(σ.new (seenB l l.length i)).set σ.next ((seenB l l.length i).set m (.bool true))=σ.new (seenB l l.length (i+1)):=by rw[ZX,zDt ai hm]
 simp only[Z3,seval,-ah,ai,oh,gi ai,zG,hm,mI,m0,gs,cN,rV,wr,cM,wl,wrapS ai (by omega:l.length<=4611686018427387904)]
 refine⟨_,by omega,i+1,by omega,rfl,rfl,rfl,?_,?_⟩
 ·intro x hx
  rw[List.take_succ_eq_append_getElem ai]at hx
  rcases List.mem_append.1 hx with hx|hx
  ·exact aW x hx
  ·rw[List.mem_singleton.1 hx];omega
 ·rw[List.take_succ_eq_append_getElem ai,List.nodup_append]
  refine⟨jf,by simp,fun x hx y hy e=>?_⟩
  rw[List.mem_singleton.1 hy,hm]at e
  exact eZ (e ▸ hx)
end Go.Proofs
namespace Go.Proofs
open Go.Ab Go.Lie Go.Grp
variable{σ h:PHeap}{K:PV->PHeap->Prop}{x l a b w:List Int}{Z:List (List Int)}{vw v va vb vZ:PV}{N t:Nat}
def idL(N:Nat):List Int:=(List.range N).map fun(t:Nat)=>(t:Int)
theorem zCj:(idL N).length=N:=by simp[idL]
def aft(a b:List Int):List Int:=a.map fun x=>b.getD x.toNat 0
def invB(b:List Int):List Int:=(List.range b.length).map fun(j:Nat)=>((b.idxOf (j:Int):Nat):Int)
theorem zAU:(invB b).length=b.length:=by simp[invB]
def bLt(Z:List (List Int))(k:Int):List Int:=if 0<k then Z.getD (k-1).toNat []else invB (Z.getD (-k-1).toNat [])
def cmpS(N:Nat)(Z:List (List Int))(w:List Int):List Int:=w.foldl (fun a k=>aft a (bLt Z k)) (idL N)
theorem zCW{k:Int}:cmpS N Z (w++[k])=aft (cmpS N Z w) (bLt Z k):=by unfold cmpS;rw[List.foldl_append];rfl
def Rng(N:Nat)(b:List Int):Prop:=b.length=N∧∀x∈b,0<=x∧x<(N:Int)
theorem Bij.rng(h:Bij N b):Rng N b:=⟨h.1,h.2.1⟩
theorem zMo:Rng N (idL N):=⟨zCj,fun x hx=>by
 obtain⟨t,ht,rfl⟩:=List.mem_map.1 hx
 have:=List.mem_range.1 ht
 omega⟩
theorem zMw(ha:Rng N a)(hb:Rng N b):Rng N (aft a b):=⟨by rw[aft,List.length_map];exact ha.1,fun x hx=>by
 obtain⟨y,hy,rfl⟩:=List.mem_map.1 hx;have h1:=ha.2 y hy;have h2:y.toNat<b.length:=by rw[hb.1];omega
 rw[List.getD_eq_getElem?_getD,vX h2];exact hb.2 _ (List.getElem_mem h2)⟩
theorem zLk(hb:Bij N b):Rng N (invB b):=⟨by rw[zAU];exact hb.1,fun x hx=>by
 obtain⟨j,hj,rfl⟩:=List.mem_map.1 hx;have hj:=List.mem_range.1 hj
 have:=List.idxOf_lt_length_of_mem (hb.sur (by rw[<-hb.1];exact hj))
 rw[hb.1]at this
 omega⟩
theorem zH8(hb:Bij N b):∀t (ht:t<b.length),(invB b).getD (b[t]).toNat 0=t:=fun t ht=>by
 have h1:=hb.2.1 _ (List.getElem_mem ht);have h2:(b[t]).toNat<b.length:=by rw[hb.1];omega
 have e:(invB b)[(b[t]).toNat]'(by rw[zAU];exact h2)=((b.idxOf (((b[t]).toNat:Nat):Int):Nat):Int):=by simp[invB]
 rw[List.getD_eq_getElem?_getD,vX (by rw[zAU];exact h2),e,Int.toNat_of_nonneg h1.1]
 show((b.idxOf b[t]:Nat):Int)=t
 rw[hb.2.2.idxOf_getElem t ht]
theorem zEv(hZ:∀b∈Z,Bij N b){k:Int}(hk:k≠0∧-(Z.length:Int)<=k∧k<=(Z.length:Int)):Rng N (bLt Z k):=by
 have get:∀j:Nat,j<Z.length->Bij N (Z.getD j []):=fun j hj=>by
  rw[List.getD_eq_getElem?_getD,vX hj];exact hZ _ (List.getElem_mem hj)
 unfold bLt
 split
 ·exact(get _ (by omega)).rng
 ·exact zLk (get _ (by omega))
theorem zBj(hZ:∀b∈Z,Bij N b):∀{w:List Int},(∀k∈w,k≠0∧-(Z.length:Int)<=k∧k<=(Z.length:Int))->Rng N (cmpS N Z w):=by
 intro w;have key:∀(w:List Int) (a:List Int),Rng N a->(∀k∈w,k≠0∧-(Z.length:Int)<=k∧k<=(Z.length:Int))->Rng N (w.foldl (fun a k=>aft a (bLt Z k)) a):=by
  intro w
  induction w with
  |nil=>exact fun a ha _=>ha
  |cons k w ih=>exact fun a ha hw=>ih _ (zMw ha (zEv hZ (hw k (List.mem_cons_self ..)))) fun k' bU=>hw k' (List.mem_cons_of_mem _ bU)
 exact key w _ zMo
theorem zHl(hl:N<=1000)(hb:Bij N b)(hv:FI va b)(hk:∀v,FI v (invB b)->K v σ):zA Tryz.prog 173 [va] σ K:=
 zI5 (l:=b) (c:=invB b) (by rw[hb.1];exact hl) zAU (fun x hx=>by rw[hb.1];exact hb.2.1 x hx) (zH8 hb) (fun j hj=>hb.sur (by rw[<-hb.1];exact hj)) hv hk
theorem zFZ(hN:N<=1000)(hZ:∀b∈Z,Bij N b)(eR:Z.length<=100)(hw:∀k∈w,k≠0∧-(Z.length:Int)<=k∧k<=(Z.length:Int))(fH:w.length<=1000)(wW:FI vw w)(wX:FII vZ Z)(hk:∀v,FI v (cmpS N Z w)->K v σ):zA Tryz.prog 128 [vw,vZ,.int .i64 N] σ K:=by
 obtain⟨w0,a0,rfl⟩:=wW;obtain⟨wL,aL,rL,rfl,eW⟩:=wX;refine zA.gh ?_;refine zB mix Tryz.func128 ?_;simp only[Z3,seval,-ah,mk8 (n:=N) (by omega),Go.Ab.mkL (n:=N) (by omega),zZ]
 refine zC (fun m us h'=>∃i:Nat,i<=N∧m=N-i∧us=[.fz w0 a0 w.length (pis w),.fz wL aL Z.length rL,.sl σ.next 0 N (.known N),.int .i64 N,.int .i64 i]∧h'=σ.new (pis ((List.range i).map (fun(t:Nat)=>(t:Int))++List.replicate (N-i) 0))) N ?_ ?_
 ·exact⟨0,by omega,by omega,rfl,by simp⟩
 rintro m us h' ⟨i,hi,rfl,rfl,rfl⟩
 simp only[Z3,seval,-ah];refine iteI (fun ai=>?_) fun aE=>?_
 ·have ji:i+1<=((List.range i).map (fun(t:Nat)=>(t:Int))++List.replicate (N-i) 0).length:=by simp;omega
  have e:(pis ((List.range i).map (fun(t:Nat)=>(t:Int))++List.replicate (N-i) 0)).take i++[PV.int .i64 i]++(pis ((List.range i).map (fun(t:Nat)=>(t:Int))++List.replicate (N-i) 0)).drop (i+1)=pis ((List.range (i+1)).map (fun(t:Nat)=>(t:Int))++List.replicate (N-(i+1)) 0):=by
   rw[zV (by simp;omega)]
   congr 1
   rw[List.set_append_right _ _ (by simp),List.length_map,List.length_range,Nat.sub_self,List.range_succ,List.map_append,List.append_assoc]
   congr 1
   rw[show N-i=(N-(i+1))+1 by omega,List.replicate_succ]
   rfl
  have iI:(i:Int)<(N:Int):=by omega
  simp only[Z3,seval,-ah,ai,iI,ji,e,zJ,wrapS ai (by omega:N<=4611686018427387904)]
  exact⟨_,by omega,i+1,by omega,rfl,rfl,rfl⟩
 obtain rfl:i=N:=by omega
 rw[Nat.sub_self,List.replicate_zero,List.append_nil];show vp _ _ _ _ (σ.new (pis (idL i)));have cK:=zCj (N:=i);refine qK (fun m us h'=>∃(q:Nat) (vv:PV),q<=w.length∧m=w.length-q∧us=[.fz wL aL Z.length rL,vv,.fz w0 a0 w.length (pis w),.int .i64 w.length,.int .i64 q]∧Keep σ h'∧FI vv (cmpS i Z (w.take q))) w.length ?_ ?_
 ·refine .fz σ.next (pis (idL i)) (by rw[zH,if_pos rfl]) (zK _ _) fun o=>.here ⟨0,.fz true (.sl o 0 i (.known i)) i (pis (idL i)),by omega,by omega,?_,(zD σ _).kill (vM _),⟨true,_,by rw[List.take_zero];show _=PV.fz true _ (idL i).length (pis (idL i));rw[cK]⟩⟩
  have z6:capOK (.known i) i=true:=by simp[capOK]
  show sbs σ.next o (pis (idL i)) [PV.fz wL aL Z.length rL,PV.sl σ.next 0 i (.known i),PV.fz w0 a0 w.length (pis w),PV.int .i64 w.length,PV.int .i64 0]=_;simp only[sbs,sb,z6,and_self,if_true]
  rfl
 clear aE hi
 rintro m us h' ⟨q,vv,hq,rfl,rfl,aq,fC⟩
 simp only[Z3,seval,-ah];refine iteI (fun ai=>?_) fun aE=>?_
 rotate_left
 ·rw[List.take_of_length_le (by omega)]at fC
  exact Gh.fin0 aq (fC.bel _) (hk _ fC)
 have hl:=hw _ (List.getElem_mem ai);have um:∀k∈w.take q,k≠0∧-(Z.length:Int)<=k∧k<=(Z.length:Int):=fun k hk=>hw k (List.mem_of_mem_take hk)
 have uo:w.take (q+1)=w.take q++[w[q]]:=List.take_succ_eq_append_getElem ai;have cr:=zBj hZ um;have nxt:∀{vb:PV},FI vb (bLt Z w[q])->∀{K':PV->PHeap->Prop},(∀v,FI v (cmpS i Z (w.take (q+1)))->K' v h')->zA Tryz.prog 174 [vv,vb] h' K':=fun {vb} dq {K'} bU=>
  zJH (by rw[cr.1];omega) (fun x hx=>by have:=cr.2 x hx;rw[(zEv hZ hl).1];exact this) fC dq fun v hv=>bU v (by rw[uo,zCW];exact hv)
 simp only[Z3,seval,-ah,ai,gi ai,zG];rcases Int.lt_or_le w[q] 0 with fJ|aF
 ·obtain⟨j,hj⟩:∃j:Nat,w[q]=-((j:Int)+1):=⟨(-w[q]).toNat-1,by omega⟩
  have dD:j<Z.length:=by omega
  obtain⟨w5,a5,dj⟩:=eW.rowI dD;have wj:IntKind.i64.wrap ((j:Int)+1-1)=(j:Int):=by rw[wrap64 (by omega) (by omega)];omega
  have jI:(j:Int)<(Z.length:Int):=by omega
  have nI:-((j:Int)+1)<0:=by omega
  have eb:bLt Z w[q]=invB Z[j]:=by
   unfold bLt;rw[if_neg (by omega),hj,show(-(-((j:Int)+1))-1).toNat=j by omega,List.getD_eq_getElem?_getD,vX dD];rfl
  rw[hj];refine zIG (by omega) ?_
  simp only[Z3,seval,-ah,wj,dD,jI,dj,nI];refine zHl hN (hZ _ (List.getElem_mem dD)) ⟨w5,a5,rfl⟩ fun vb dq=>?_
  simp only[Z3,seval,-ah,dq.one];refine nxt (by rw[eb];exact dq) fun v hv=>?_
  simp only[Z3,seval,-ah,wrapS ai (by omega:w.length<=4611686018427387904)]
  exact⟨_,by omega,.here ⟨q+1,v,by omega,rfl,rfl,aq,hv⟩⟩
 ·obtain⟨j,hj⟩:∃j:Nat,w[q]=(j:Int)+1:=⟨w[q].toNat-1,by omega⟩
  have dD:j<Z.length:=by omega
  obtain⟨w5,a5,dj⟩:=eW.rowI dD;have wj:IntKind.i64.wrap ((j:Int)+1-1)=(j:Int):=by rw[wrap64 (by omega) (by omega)];omega
  have jI:(j:Int)<(Z.length:Int):=by omega
  have nI:¬(j:Int)+1<0:=by omega
  have eb:bLt Z w[q]=Z[j]:=by
   unfold bLt;rw[if_pos (by omega),hj,show((j:Int)+1-1).toNat=j by omega,List.getD_eq_getElem?_getD,vX dD];rfl
  rw[hj];refine zKn (n:=(j:Int)+1) (by omega) ?_
  simp only[Z3,seval,-ah,wj,dD,jI,dj,nI];refine nxt (by rw[eb];exact⟨w5,a5,rfl⟩) fun v hv=>?_
  simp only[Z3,seval,-ah,wrapS ai (by omega:w.length<=4611686018427387904)]
  exact⟨_,by omega,.here ⟨q+1,v,by omega,rfl,rfl,aq,hv⟩⟩
theorem zEH(hN:N<=1000)(hk:∀v,FI v (idL N)->K v σ):zA Tryz.prog 59 [.int .i64 N] σ K:=by
 refine zA.gh ?_;refine zB mix Tryz.func59 ?_;simp only[Z3,seval,-ah];refine zC (fun m us h=>∃(i:Nat) (v:PV),i<=N∧m=N-i∧us=[.int .i64 N,v,.int .i64 i]∧Keep σ h∧PSl σ.next 1 h v i (pis (idL i))) N ?_ ?_
 ·exact⟨0,_,Nat.zero_le _,rfl,rfl,zD σ _,PSl.new _ 1 rfl (vM _)⟩
 rintro m us h ⟨i,v,hi,rfl,rfl,kk,pa⟩
 have h1:=pa.one;simp only[Z3,seval,-ah,h1];refine iteI (fun ai=>?_) fun aE=>?_
 rotate_left
 ·obtain rfl:i=N:=by omega
  exact pa.fin kk (zK _ _) fun o cap=>hk _ ⟨true,_,by rw[zCj]⟩
 simp only[Z3,seval,-ah,h1];refine PSl.push (σb:=σ) (bytes:=8) kk pa (by omega) (by omega) fun v2 h2 k2 a2=>?_
 have h3:=a2.one;have e:idL (i+1)=idL i++[(i:Int)]:=by unfold idL;rw[List.range_succ,List.map_append];rfl
 simp only[Z3,seval,-ah,h3,wrapS ai (by omega:N<=4611686018427387904)]
 exact⟨_,by omega,i+1,v2,by omega,rfl,rfl,k2,by rw[e,show pis (idL i++[(i:Int)])=pis (idL i)++[.int .i64 i] by simp[pis]];exact a2⟩
theorem zDC(hN:N<=1000)(ha:Rng N a)(hb:Rng N b)(dN:FI va a)(dq:FI vb b)(hk:∀v,FI v (aft a b)->K v σ):zA Tryz.prog 104 [va,vb] σ K:=by
 obtain⟨w0,a0,rfl⟩:=dN;obtain⟨w1,a1,rfl⟩:=dq;have eg:=ha.1;have uN:=hb.1;have cK:(aft a b).length=a.length:=by simp[aft]
 refine zA.gh ?_;refine zB mix Tryz.func104 ?_;simp only[Z3,seval,-ah];refine zC (fun m us h=>∃(i:Nat) (v:PV),i<=a.length∧m=a.length-i∧us=[.fz w0 a0 a.length (pis a),.fz w1 a1 b.length (pis b),v,.int .i64 i]∧Keep σ h∧PSl σ.next 1 h v i (pis ((aft a b).take i))) a.length ?_ ?_
 ·exact⟨0,_,Nat.zero_le _,rfl,rfl,zD σ _,PSl.new _ 1 rfl (vM _)⟩
 rintro m us h ⟨i,v,hi,rfl,rfl,kk,pa⟩
 have h1:=pa.one;simp only[Z3,seval,-ah,h1];refine iteI (fun ai=>?_) fun aE=>?_
 rotate_left
 ·rw[List.take_of_length_le (by omega)]at pa
  obtain rfl:i=a.length:=by omega
  exact pa.fin kk (zK _ _) fun o cap=>hk _ ⟨true,_,by rw[cK]⟩
 have ak:(i:Int)<(a.length:Int):=by omega
 have b1:=ha.2 _ (List.getElem_mem ai);obtain⟨m,hm⟩:∃m:Nat,a[i]=(m:Int):=⟨a[i].toNat,by omega⟩
 have cN:m<b.length:=by omega
 have mI:(m:Int)<(b.length:Int):=by omega
 have gx:(pis a)[i]? = some (.int .i64 m):=by rw[zG,gi ai,hm];rfl
 have gb:(pis b)[m]? = some (.int .i64 b[m]):=by rw[zG,gi cN];rfl
 have jW:(aft a b)[i]'(by omega)=b[m]:=by
  unfold aft;rw[List.getElem_map,hm,Int.toNat_natCast,List.getD_eq_getElem?_getD,vX cN];rfl
 simp only[Z3,seval,-ah,h1,ai,ak,gx,gb,cN,mI];refine PSl.push (σb:=σ) (bytes:=8) kk pa (by omega) (by omega) fun v2 h2 k2 a2=>?_
 have h3:=a2.one;simp only[Z3,seval,-ah,h3,wrapS ai (by omega:a.length<=4611686018427387904)]
 refine⟨_,by omega,i+1,v2,by omega,rfl,rfl,k2,?_⟩
 rw[List.take_succ_eq_append_getElem (by omega),jW,show ∀z:List Int,pis (z++[b[m]])=pis z++[.int .i64 b[m]] from fun z=>by simp[pis]]
 exact a2
theorem zIz(hN:N<=1000)(hb:Bij N b)(hv:FI va b)(hk:∀v,FI v (invB b)->K v σ):zA Tryz.prog 105 [va] σ K:=by
 obtain⟨w0,a0,rfl⟩:=hv;have uN:=hb.1;have cK:=zAU (b:=b);have eF:=zH8 hb;refine zA.gh ?_;refine zB mix Tryz.func105 ?_;simp only[Z3,seval,-ah,mk8 (n:=b.length) (by omega),Go.Ab.mkL (n:=b.length) (by omega),zZ]
 refine zC (fun m us h'=>∃(i:Nat) (z:List Int),i<=b.length∧m=b.length-i∧us=[.fz w0 a0 b.length (pis b),.sl σ.next 0 b.length (.known b.length),.int .i64 i]∧h'=σ.new (pis z)∧z.length=b.length∧∀j:Nat,(j:Int)∈b.take i->j<b.length->z.getD j 0=(invB b).getD j 0) b.length ?_ ?_
 ·exact⟨0,List.replicate b.length 0,by omega,by omega,rfl,rfl,by simp,fun j hj=>by simp at hj⟩
 rintro m us h' ⟨i,z,hi,rfl,rfl,rfl,di,hz⟩
 simp only[Z3,seval,-ah];refine iteI (fun ai=>?_) fun aE=>?_
 rotate_left
 ·have wP:z=invB b:=by
   refine List.ext_getElem (by omega) fun j h1 h2=>?_
   have:=hz j (by rw[List.take_of_length_le (by omega)];exact hb.sur (by omega)) (by omega)
   rwa[List.getD_eq_getElem?_getD,List.getD_eq_getElem?_getD,vX h1,vX h2]at this
  subst wP;rw[<-di];exact Gh.finF (s:=σ.next) (zD σ _) (by rw[zH,if_pos rfl]) (vM _) (zK _ _) (by simp[capOK]) fun o=>hk _ ⟨true,_,rfl⟩
 have b1:=hb.2.1 _ (List.getElem_mem ai);obtain⟨m,hm⟩:∃m:Nat,b[i]=(m:Int):=⟨b[i].toNat,by omega⟩
 have cN:m<b.length:=by omega
 have mI:(m:Int)<(b.length:Int):=by omega
 have ak:(i:Int)<(b.length:Int):=by omega
 have gx:(pis b)[i]? = some (.int .i64 m):=by rw[zG,gi ai,hm];rfl
 have wr:(σ.new (pis z)).wr σ.next m [.int .i64 i]=some ((σ.new (pis z)).set σ.next ((pis z).set m (.int .i64 i))):=zBB (by rw[zH,if_pos rfl]) (by rw[zJ];omega) rfl
 have cM:(σ.new (pis z)).set σ.next ((pis z).set m (.int .i64 i))=σ.new (pis (z.set m i)):=by
  rw[ZX];simp[pis]
 simp only[Z3,seval,-ah,ai,ak,gx,mI,cN,wr,cM,wrapS ai (by omega:b.length<=4611686018427387904)]
 refine⟨_,by omega,i+1,z.set m i,by omega,rfl,rfl,rfl,by rw[List.length_set];exact di,fun j hj dE=>?_⟩
 rw[List.take_succ_eq_append_getElem ai,List.mem_append,List.mem_singleton]at hj
 rw[List.getD_eq_getElem?_getD,List.getElem?_set]
 by_cases e:m=j
 ·subst e
  rw[if_pos rfl,if_pos (by omega)]
  have:=eF i ai
  rw[hm,Int.toNat_natCast]at this
  rw[this];rfl
 ·rw[if_neg e,<-List.getD_eq_getElem?_getD]
  exact hz j (hj.resolve_right (by omega)) dE
theorem zIy(hN:N<=1000)(hZ:∀b∈Z,Bij N b)(eR:Z.length<=100)(hw:∀k∈w,k≠0∧-(Z.length:Int)<=k∧k<=(Z.length:Int))(fH:w.length<=1000)(wW:FI vw w)(wX:FII vZ Z)(hk:∀v,FI v (cmpS N Z w)->K v σ):zA Tryz.prog 58 [vw,vZ,.int .i64 N] σ K:=by
 obtain⟨w0,a0,rfl⟩:=wW;obtain⟨wL,aL,rL,rfl,eW⟩:=wX;refine zB mix Tryz.func58 ?_;simp only[Z3,seval,-ah];refine zEH hN fun v0 gF=>?_
 simp only[Z3,seval,-ah,gF.one];refine zC (fun m us h'=>∃(q:Nat) (vv:PV),q<=w.length∧m=w.length-q∧us=[.fz w0 a0 w.length (pis w),.fz wL aL Z.length rL,vv,.int .i64 q]∧FI vv (cmpS N Z (w.take q))∧σ=h') w.length ?_ ?_
 ·exact⟨0,v0,Nat.zero_le _,rfl,rfl,gF,rfl⟩
 rintro m us h' ⟨q,vv,hq,rfl,rfl,fC,rfl⟩
 have h1:=fC.one;simp only[Z3,seval,-ah,h1];refine iteI (fun ai=>?_) fun aE=>?_
 rotate_left
 ·rw[List.take_of_length_le (by omega)]at fC
  exact hk _ fC
 have hl:=hw _ (List.getElem_mem ai);have ak:(q:Int)<(w.length:Int):=by omega
 have um:∀k∈w.take q,k≠0∧-(Z.length:Int)<=k∧k<=(Z.length:Int):=fun k hk=>hw k (List.mem_of_mem_take hk)
 have uo:w.take (q+1)=w.take q++[w[q]]:=List.take_succ_eq_append_getElem ai;have cr:=zBj hZ um;have br:=zEv hZ hl;have gx:(pis w)[q]? = some (.int .i64 w[q]):=by rw[zG,gi ai];rfl
 by_cases aF:0<w[q]
 ·obtain⟨j,hj⟩:∃j:Nat,w[q]=(j:Int)+1:=⟨w[q].toNat-1,by omega⟩
  have dD:j<Z.length:=by omega
  obtain⟨w5,a5,dj⟩:=eW.rowI dD;have wj:IntKind.i64.wrap ((j:Int)+1-1)=(j:Int):=by rw[wrap64 (by omega) (by omega)];omega
  have jI:(j:Int)<(Z.length:Int):=by omega
  have nI:(0:Int)<(j:Int)+1:=by omega
  have eb:bLt Z w[q]=Z[j]:=by
   unfold bLt;rw[if_pos (by omega),hj,show((j:Int)+1-1).toNat=j by omega,List.getD_eq_getElem?_getD,vX dD];rfl
  rw[hj]at gx
  simp only[Z3,seval,-ah,h1,ai,ak,gx,wj,dD,jI,dj,nI];refine zDC hN cr (by rw[<-eb];exact br) fC ⟨w5,a5,rfl⟩ fun v hv=>?_
  rw[<-eb,<-zCW,<-uo]at hv
  simp only[Z3,seval,-ah,hv.one,wrapS ai (by omega:w.length<=4611686018427387904)]
  exact⟨_,by omega,q+1,v,by omega,rfl,rfl,hv⟩
 ·obtain⟨j,hj⟩:∃j:Nat,w[q]=-((j:Int)+1):=⟨(-w[q]).toNat-1,by omega⟩
  have dD:j<Z.length:=by omega
  obtain⟨w5,a5,dj⟩:=eW.rowI dD;have wn:IntKind.i64.wrap (0 - -((j:Int)+1))=(j:Int)+1:=by rw[wrap64 (by omega) (by omega)];omega
  have wj:IntKind.i64.wrap ((j:Int)+1-1)=(j:Int):=by rw[wrap64 (by omega) (by omega)];omega
  have jI:(j:Int)<(Z.length:Int):=by omega
  have nI:¬(0:Int) < -((j:Int)+1):=by omega
  have eb:bLt Z w[q]=invB Z[j]:=by
   unfold bLt;rw[if_neg (by omega),hj,show(-(-((j:Int)+1))-1).toNat=j by omega,List.getD_eq_getElem?_getD,vX dD];rfl
  rw[hj]at gx
  simp only[Z3,seval,-ah,h1,ai,ak,gx,wn,wj,dD,jI,dj,nI];refine zIz hN (hZ _ (List.getElem_mem dD)) ⟨w5,a5,rfl⟩ fun vb dq=>?_
  simp only[Z3,seval,-ah,h1,dq.one];refine zDC hN cr (by rw[<-eb];exact br) fC dq fun v hv=>?_
  rw[<-eb,<-zCW,<-uo]at hv
  simp only[Z3,seval,-ah,hv.one,wrapS ai (by omega:w.length<=4611686018427387904)]
  exact⟨_,by omega,q+1,v,by omega,rfl,rfl,hv⟩
end Go.Proofs
namespace Go.Proofs
open Go.Ab Go.Lie Go.Grp
variable{σ h:PHeap}{K:PV->PHeap->Prop}{xs:List Int}{t:Nat}{k:Int}
theorem zM1{s n:Nat}{cap:Cap}(ho:σ.obj s=some (pis xs))(hn:n=xs.length)(hb:xs.length<=1048576)(hk:∀r:Int,(0<=r↔k∈xs)->K (.int .i64 r) σ):zA Tryz.prog 175 [.sl s 0 n cap,.int .i64 k] σ K:=by
 subst hn;have rd:∀{i:Nat} (hi:i<xs.length),σ.rd1 s i=some (.int .i64 xs[i]):=fun {i} hi=>by rw[zF ho,zG,gi hi];rfl
 refine zB mix Tryz.func175 ?_;simp only[Z3,seval,-ah];refine zC (fun m us h=>∃i:Nat,i<=xs.length∧m=xs.length-i∧us=[.sl s 0 xs.length cap,.int .i64 k,.int .i64 xs.length,.int .i64 i]∧σ=h∧∀j (h:j<xs.length),j<i->xs[j]≠k) xs.length ⟨0,by omega,by omega,rfl,rfl,fun j h hj=>by omega⟩ ?_
 rintro m us h ⟨i,hi,rfl,rfl,rfl,aj⟩
 simp only[Z3,seval,-ah];refine iteI (fun ai=>?_) fun aE=>?_
 rotate_left
 ·refine hk _ ⟨fun h=>by omega,fun h=>?_⟩
  obtain⟨j,hj,e⟩:=List.mem_iff_getElem.1 h;exact absurd e (aj j hj (by omega))
 by_cases he:k=xs[i]
 ·simp only[Z3,seval,-ah,ai,rd ai,he,eq_true he]
  exact hk _ ⟨fun _=>by rw[he];exact List.getElem_mem ai,fun _=>by omega⟩
 ·simp only[Z3,seval,-ah,ai,rd ai,he,wrapS ai (by omega:xs.length<=4611686018427387904)]
  refine⟨_,by omega,i+1,by omega,rfl,rfl,fun j h hj e=>?_⟩
  by_cases e2:j=i
  ·subst e2;exact he e.symm
  ·exact aj j h (by omega) e
theorem zJO{s n:Nat}{cap:Cap}(ho:σ.obj s=some (pis xs))(hn:n=xs.length)(hb:xs.length<=1048576)(hk:∀t:Bool,(t=true↔k∈xs)->K (.bool t) σ):zA Tryz.prog 129 [.sl s 0 n cap,.int .i64 k] σ K:=by
 refine zB mix Tryz.func129 ?_;simp only[Z3,seval,-ah];refine zM1 ho hn hb fun r hr=>?_
 simp only[Z3,seval,-ah];exact hk _ (by rw[decide_eq_true_eq];exact hr)
end Go.Proofs
namespace Go.Proofs
open Go.Ab Go.Lie Go.Grp
variable{σ h:PHeap}{K:PV->PHeap->Prop}{O x l a b w R:List Int}{P:List (List Int)}{C:List (List (List Int))}{Z:List (List Int)}{vO vP vC v vZ:PV}{N t:Nat}
def nxR(Z:List (List Int))(a:Int):Nat->List Int->List Int
 |0,R=>R
 |j+1,R=>if (Z.getD j []).getD a.toNat 0∈nxR Z a j R then nxR Z a j R else nxR Z a j R++[(Z.getD j []).getD a.toNat 0]
def stR(Z:List (List Int)):Nat->List Int
 |0=>[0]
 |k+1=>nxR Z ((stR Z k).getD k 0) Z.length (stR Z k)
def RS_(N:Nat)(R:List Int):Prop:=(∀x∈R,0<=x∧x<(N:Int))∧R.Nodup
theorem zEC{a':Int}(hZ:∀b∈Z,Bij N b)(ha:0<=a'∧a'<(N:Int))(hR:RS_ N R):∀{j},j<=Z.length->RS_ N (nxR Z a' j R)
 |0,_=>hR
 |j+1,hj=>by
  have ih:=zEC hZ ha hR (j:=j) (by omega)
  unfold nxR
  split
  ·exact ih
  ·rename_i hn
   have hb:=hZ _ (List.getElem_mem (show j<Z.length by omega))
   have e:(Z.getD j []).getD a'.toNat 0=(Z[j]'(by omega))[a'.toNat]'(by rw[hb.1];omega):=by
    rw[List.getD_eq_getElem?_getD,List.getD_eq_getElem?_getD,vX (show j<Z.length by omega)]
    show((Z[j]'(by omega))[a'.toNat]?).getD 0=_
    rw[vX (by rw[hb.1];omega)];rfl
   refine⟨fun x hx=>?_,?_⟩
   ·rcases List.mem_append.1 hx with hx|hx
    ·exact ih.1 x hx
    ·rw[List.mem_singleton.1 hx,e];exact hb.2.1 _ (List.getElem_mem _)
   ·rw[List.nodup_append]
    refine⟨ih.2,by simp,fun x hx y hy e2=>?_⟩
    rw[List.mem_singleton.1 hy]at e2
    exact hn (e2 ▸ hx)
theorem zBC{a':Int}:∀j,∃T,nxR Z a' j R=R++T
 |0=>⟨[],(List.append_nil _).symm⟩
 |j+1=>by
  obtain⟨T,hT⟩:=zBC j;unfold nxR
  split
  ·exact⟨T,hT⟩
  ·exact⟨T++[_],by rw[hT,List.append_assoc]⟩
theorem zFm(hN:1<=N)(hZ:∀b∈Z,Bij N b):∀{k},(∀i,i<k->i<(stR Z i).length)->RS_ N (stR Z k)
 |0,_=>⟨fun x hx=>by rw[List.mem_singleton.1 hx];omega,by simp[stR]⟩
 |k+1,h=>by
  have ih:=zFm hN hZ (k:=k) fun i hi=>h i (by omega)
  have hk:=h k (by omega)
  refine zEC hZ (a':=(stR Z k).getD k 0) ?_ ih (vM _);rw[List.getD_eq_getElem?_getD,vX hk];exact ih.1 _ (List.getElem_mem hk)
def Rch(Z:List (List Int))(m:Nat):Prop:=(∀i,i<m->i<(stR Z i).length)∧(stR Z m).length=m
theorem Rch.unique{m m':Nat}(h:Rch Z m)(h':Rch Z m'):m=m':=by
 rcases Nat.lt_trichotomy m m' with e|e|e
 ·have:=h'.1 m e
  rw[h.2]at this
  omega
 ·exact e
 ·have:=h.1 m' e
  rw[h'.2]at this
  omega
def realP(O:List Int)(P:List (List Int))(C:List (List (List Int)))(Z:List (List Int)):Prop:=
 Z.length=O.length∧(∀b∈Z,Bij (nEl O) b)∧(∀r,RelOK O P C r->cmpS (nEl O) Z r=idL (nEl O))∧Rch Z (nEl O)
set_option maxHeartbeats 1600000 in
theorem zEe(hp:zM O P C)(sz:SzP O P C)(hR:IsPr vO vP vC O P C)(hZ:FII vZ Z)(c7:SzL Z)
  (hk:∀t:Bool,(t=true↔nEl O<=128∧realP O P C Z)->K (.tup [.bool t,.int .i64 (if nEl O<=128 then 0 else 3)]) σ):
  zA Tryz.prog 79 [.agg [vO,vP,vC],vZ] σ K:=by
 have fl:∀{A:Prop},¬A->((false=true)↔A):=fun h=>⟨fun x=>(by cases x),fun x=>absurd x h⟩
 have s:=hp.shp;have h6:=s.le;obtain⟨xR,iV⟩:=QH s;have g1:=hR.O.one;have g2:=hR.P.one;have g3:=hR.C.one;have oY:=hZ;have lI:=c7.l;obtain⟨wL,aL,rL,rfl,eW⟩:=hZ;refine zA.gh ?_;refine zB mix Tryz.func79 ?_;simp only[Z3,seval,-ah,g1,g2,g3];refine qZ hR sz fun t ht=>?_
 obtain rfl:t=true:=ht.2 hp;simp only[Z3,seval,-ah];have ob:(σ.new [vO,vP,vC]).obj σ.next=some [vO,vP,vC]:=by rw[zH,if_pos rfl]
 have hs:PtrG (σ.new [vO,vP,vC]) σ.next vO vP vC:=⟨ob,Nat.lt_succ_self _⟩;have k1:=zD σ [vO,vP,vC];have jg:(σ.new [vO,vP,vC]).next=σ.next+1:=rfl;generalize σ.new [vO,vP,vC]=H at *
 refine QC s hs hR.O ?_;rw[xR];have r0:H.rd1 σ.next 0=some vO:=by rw[zF ob];rfl
 have r3:H.rd σ.next 0 3=some [vO,vP,vC]:=by rw[zb ob];rfl
 by_cases hN:nEl O<=128
 rotate_left
 ·have jm:(128:Int)<(nEl O:Int):=by omega
  rw[if_neg hN]at hk
  simp only[Z3,seval,-ah,jm];exact Gh.fin0 k1 ⟨trivial,trivial,trivial⟩ (hk _ (fl fun h=>hN h.1))
 rw[if_pos hN]at hk
 have jm:¬(128:Int)<(nEl O:Int):=by omega
 have pl:pLen vO=some (.int .i64 O.length):=by obtain⟨w,a,rfl⟩:=hR.O;rfl
 have no:∀{h'},Keep H h'->¬realP O P C Z->Gh σ K (.tup [.bool false,.int .i64 0]) h':=fun kk hn=>Gh.fin0 (k1.trans kk) ⟨trivial,trivial,trivial⟩ (hk _ (fl fun h=>hn h.2))
 by_cases eR:Z.length=O.length
 rotate_left
 ·have leq:¬((Z.length:Int)=(O.length:Int)):=by omega
  simp only[Z3,seval,-ah,jm,r0,r3,pl,leq,g1];exact no (Keep.refl H) fun h=>eR h.1
 have leq:((Z.length:Int)=(O.length:Int))=True:=eq_true (by omega)
 simp only[Z3,seval,-ah,jm,r0,r3,pl,leq,g1];refine zC (fun m us h'=>∃i:Nat,i<=Z.length∧m=Z.length-i∧us=[.fz wL aL Z.length rL,.ptr σ.next 0,.int .i64 (nEl O),.fz wL aL Z.length rL,.int .i64 Z.length,.int .i64 i]∧H=h'∧∀b∈Z.take i,Bij (nEl O) b) Z.length ?_ ?_
 ·exact⟨0,by omega,by omega,rfl,rfl,fun b hb=>by simp at hb⟩
 rintro m us h' ⟨i,hi,rfl,rfl,rfl,aj⟩
 simp only[Z3,seval,-ah];refine iteI (fun ai=>?_) fun aE=>?_
 ·obtain⟨w5,a5,dj⟩:=eW.rowI ai
  have mem:=List.getElem_mem ai
  by_cases l9:Z[i].length=nEl O
  rotate_left
  ·have iP:¬((Z[i].length:Int)=(nEl O:Int)):=by omega
   simp only[Z3,seval,-ah,ai,dj,iP];exact no (Keep.refl H) fun h=>l9 (h.2.1 _ mem).1
  have iP:((Z[i].length:Int)=(nEl O:Int))=True:=eq_true (by omega)
  simp only[Z3,seval,-ah,ai,dj,iP];refine zEN (l:=Z[i]) (c7.2 _ mem) ⟨w5,a5,rfl⟩ fun t hb=>?_
  rw[l9]at hb
  cases t with
  |false=>
   simp only[Z3,seval,-ah];exact no (Keep.refl H) fun h=>by have:=hb.2 (h.2.1 _ mem);cases this
  |true=>
  simp only[Z3,seval,-ah,wrapS ai (by omega:Z.length<=4611686018427387904)]
  refine⟨_,by omega,i+1,by omega,rfl,rfl,fun b tC=>?_⟩
  rw[List.take_succ_eq_append_getElem ai]at tC
  rcases List.mem_append.1 tC with h|h
  ·exact aj b h
  ·rw[List.mem_singleton.1 h];exact hb.1 rfl
 rw[List.take_of_length_le (by omega)]at aj
 have hB:=aj;clear aj;simp only[Z3,seval,-ah,r3,g1,g2,g3];refine ql hp sz hR fun vR R lC ⟨mo,jk⟩ fQ=>?_
 obtain⟨wR,aR,rR,rfl,lD⟩:=lC;simp only[Z3,seval,-ah];refine zC (fun m us h'=>∃i:Nat,i<=R.length∧m=R.length-i∧us=[.fz wL aL Z.length rL,.int .i64 (nEl O),.fz wR aR R.length rR,.int .i64 R.length,.int .i64 i]∧H=h'∧∀r∈R.take i,cmpS (nEl O) Z r=idL (nEl O)) R.length ?_ ?_
 ·exact⟨0,by omega,by omega,rfl,rfl,fun r hr=>by simp at hr⟩
 clear aE hi
 rintro m us h' ⟨i,hi,rfl,rfl,rfl,ey⟩
 simp only[Z3,seval,-ah];refine iteI (fun ai=>?_) fun aE=>?_
 ·obtain⟨w5,a5,dj⟩:=lD.rowI ai
  have mem:=List.getElem_mem ai;have bE:=mo _ mem;obtain⟨q1,q2⟩:=bE.facts s;rw[<-eR]at q1
  have cr:=zBj hB q1;simp only[Z3,seval,-ah,ai,dj];refine zFZ (by omega) hB (by omega) q1 (by omega) ⟨w5,a5,rfl⟩ oY fun vo iB=>?_
  obtain⟨w6,a6,rfl⟩:=iB;have Ej:=cr.1;generalize Be:cmpS (nEl O) Z R[i]=cw at *
  simp only[Z3,seval,-ah];refine zC (fun m us h2=>∃q:Nat,q<=cw.length∧m=cw.length-q∧us=[.fz wL aL Z.length rL,.int .i64 (nEl O),.fz wR aR R.length rR,.int .i64 R.length,.int .i64 i,.fz w6 a6 cw.length (pis cw),.int .i64 cw.length,.int .i64 q]∧H=h2∧∀(j:Nat) (hj:j<cw.length),j<q->cw[j]=(j:Int)) cw.length ?_ ?_
  ·exact⟨0,by omega,by omega,rfl,rfl,fun j hj h=>by omega⟩
  rintro m us h2 ⟨q,hq,rfl,rfl,rfl,heq⟩
  simp only[Z3,seval,-ah];refine iteI (fun eB=>?_) fun yp=>?_
  ·have gq:(pis cw)[q]? = some (.int .i64 cw[q]):=by rw[zG,gi eB];rfl
   by_cases e:cw[q]=(q:Int)
   ·rw[e]at gq
    simp only[Z3,seval,-ah,eB,gq,wrapS eB (by omega:cw.length<=4611686018427387904)]
    refine⟨_,by omega,q+1,by omega,rfl,rfl,fun j hj h=>?_⟩
    rcases Nat.lt_or_ge j q with z|z
    ·exact heq j hj z
    ·obtain rfl:j=q:=by omega
     exact e
   ·simp only[Z3,seval,-ah,eB,gq,e]
    refine no (Keep.refl H) fun h=>e ?_
    have:=h.2.2.1 _ bE
    rw[Be]at this
    subst this;simp[idL]
  ·have iU:cw=idL (nEl O):=by
    refine List.ext_getElem (by rw[Ej,zCj]) fun j h1 h2=>?_
    rw[heq j h1 (by omega)]
    simp[idL]
   simp only[Z3,seval,-ah,wrapS ai (by omega:R.length<=4611686018427387904)]
   refine⟨_,by omega,i+1,by omega,rfl,rfl,fun r hr=>?_⟩
   rw[List.take_succ_eq_append_getElem ai]at hr
   rcases List.mem_append.1 hr with h|h
   ·exact ey r h
   ·rw[List.mem_singleton.1 h,Be];exact iU
 rw[List.take_of_length_le (by omega)]at ey
 have o5:∀r,RelOK O P C r->cmpS (nEl O) Z r=idL (nEl O):=fun r hr=>ey r (jk r hr)
 clear aE hi lD mo fQ ey jk;simp only[Z3,seval,-ah];refine zC (fun m us h'=>∃(k:Nat) (v:PV),m=nEl O-k∧us=[.fz wL aL Z.length rL,.int .i64 (nEl O),v,.int .i64 k]∧Keep H h'∧PSl H.next 1 h' v (stR Z k).length (pis (stR Z k))∧(∀i,i<k->i<(stR Z i).length)) (nEl O) ?_ ?_
 ·exact⟨0,_,rfl,rfl,zD H _,PSl.new (h:=H) H.next 1 (n:=1) (cs:=pis [0]) rfl (vM _),fun i hi=>by omega⟩
 rintro m us h' ⟨k,v,rfl,rfl,aq,hv,ai⟩
 have ok:=zFm iV hB ai;have bd:=zAS ok.1 ok.2;simp only[Z3,seval,-ah,hv.acc.pLen];refine iteI (fun cL=>?_) fun aE=>?_
 rotate_left
 ·have hle:(stR Z k).length<=k:=by omega
  have hJ:(stR Z k).length=k:=by
   rcases Nat.eq_zero_or_pos k with e|e
   ·subst e;simp[stR]at hle
   ·have h1:=ai (k-1) (by omega)
    obtain⟨T,hT⟩:=zBC (Z:=Z) (R:=stR Z (k-1)) (a':=(stR Z (k-1)).getD (k-1) 0) Z.length;have e2:stR Z k=stR Z (k-1)++T:=by
     obtain⟨q,rfl⟩:∃q,k=q+1:=⟨k-1,by omega⟩
     exact hT
    rw[e2,List.length_append];rw[e2,List.length_append]at hle
    omega
  have sI:Rch Z k:=⟨ai,hJ⟩;refine Gh.fin0 (k1.trans aq) ⟨trivial,trivial,trivial⟩ (hk _ ?_);rw[decide_eq_true_iff];refine⟨fun h=>⟨hN,eR,hB,o5,?_⟩,fun h=>?_⟩
  ·have:k=nEl O:=by omega
   rw[<-this];exact sI
  ·have:=h.2.2.2.2.unique sI
   omega
 have fg:k<(stR Z k).length:=by omega
 have yF:(stR Z k)[k]? = some (stR Z k)[k]:=vX fg;have aB:=ok.1 _ (List.getElem_mem fg);have cA:stR Z (k+1)=nxR Z (stR Z k)[k] Z.length (stR Z k):=by
  rw[stR,List.getD_eq_getElem?_getD,vX fg];rfl
 have ak:∀i,i<k+1->i<(stR Z i).length:=fun i hi=>by
  rcases Nat.lt_or_ge i k with z|z
  ·exact ai i z
  ·obtain rfl:i=k:=by omega
   exact fg
 generalize (stR Z k)[k]=a at *
 refine zC (fun m us h3=>∃(j:Nat) (v:PV),j<=Z.length∧m=Z.length-j∧us=[.fz wL aL Z.length rL,.int .i64 (nEl O),v,.int .i64 k,.fz wL aL Z.length rL,.int .i64 Z.length,.int .i64 j]∧Keep H h3∧PSl H.next 1 h3 v (nxR Z a j (stR Z k)).length (pis (nxR Z a j (stR Z k)))) Z.length ?_ ?_
 ·exact⟨0,v,by omega,by omega,rfl,aq,hv⟩
 clear hv aq
 rintro m us h3 ⟨j,v,hj,rfl,rfl,aq,hv⟩
 have rK:=zEC hB aB ok hj;obtain⟨T,hT⟩:=zBC (Z:=Z) (R:=stR Z k) (a':=a) j;have Ek:=zAS rK.1 rK.2;simp only[Z3,seval,-ah];refine iteI (fun jV=>?_) fun p6=>?_
 rotate_left
 ·obtain rfl:j=Z.length:=by omega
  have wk:IntKind.i64.wrap ((k:Int)+1)=((k+1:Nat):Int):=wrapS fg (by omega)
  simp only[Z3,seval,-ah,wk];refine⟨_,by omega,k+1,v,rfl,rfl,aq,?_,ak⟩
  rw[cA];exact hv
 obtain⟨w5,a5,dj⟩:=eW.rowI jV;have uO:=hB _ (List.getElem_mem jV);obtain⟨an,rfl⟩:∃an:Nat,a=(an:Int):=⟨a.toNat,by omega⟩
 have fP:an<Z[j].length:=by rw[uO.1];omega
 have eh:nxR Z (an:Int) (j+1) (stR Z k)=if Z[j][an]∈nxR Z (an:Int) j (stR Z k)then nxR Z (an:Int) j (stR Z k)else nxR Z (an:Int) j (stR Z k)++[Z[j][an]]:=by
  have e:(Z.getD j []).getD ((an:Int)).toNat 0=Z[j][an]:=by
   rw[List.getD_eq_getElem?_getD,List.getD_eq_getElem?_getD,vX jV,Int.toNat_natCast]
   show(Z[j][an]?).getD 0=_
   rw[vX fP];rfl
  rw[nxR,e]
 obtain⟨t0,cap,rfl,q1,q2,q3,q4,q5⟩:=hv;have s6:k<(nxR Z (an:Int) j (stR Z k)).length:=by rw[hT,List.length_append];omega
 have e8:h3.rd1 t0 k=some (.int .i64 (an:Int)):=by
  rw[zF q2,zG,hT,List.getElem?_append_left fg,yF];rfl
 have gb:(pis Z[j])[an]? = some (.int .i64 Z[j][an]):=by rw[zG,gi fP];rfl
 have nI:(an:Int)<(Z[j].length:Int):=by omega
 have kI:(k:Int)<((nxR Z (an:Int) j (stR Z k)).length:Int):=by omega
 have jI:(j:Int)<(Z.length:Int):=by omega
 have wj:IntKind.i64.wrap ((j:Int)+1)=((j+1:Nat):Int):=wrapS jV (by omega)
 simp only[Z3,seval,-ah,jV,jI,dj,s6,kI,e8,nI,fP,gb];refine zJO q2 rfl (by omega) fun t ht=>?_
 cases t with
 |true=>
  simp only[Z3,seval,-ah,wj];refine⟨_,by omega,j+1,_,by omega,rfl,rfl,aq,?_⟩
  rw[eh,if_pos (ht.1 rfl)];exact⟨t0,cap,rfl,q1,q2,q3,q4,q5⟩
 |false=>
  have xL:¬Z[j][an]∈nxR Z (an:Int) j (stR Z k):=fun h=>by have:=ht.2 h;cases this
  simp only[Z3,seval,-ah,s6,kI,e8,nI,fP,gb,dj];refine PSl.push (σb:=H) (bytes:=8) aq ⟨t0,cap,rfl,q1,q2,q3,q4,q5⟩ (by omega) (by omega) fun v' h4 k4 a4=>?_
  simp only[Z3,seval,-ah,wj];refine⟨_,by omega,j+1,v',by omega,rfl,rfl,k4,?_⟩
  rw[eh,if_neg xL,show pis (nxR Z (an:Int) j (stR Z k)++[Z[j][an]])=pis (nxR Z (an:Int) j (stR Z k))++[.int .i64 Z[j][an]] by simp[pis],List.length_append]
  exact a4
end Go.Proofs
namespace Go.Proofs
open Go.Ab Go.Lie Go.Grp
variable{σ h:PHeap}{K:PV->PHeap->Prop}{O x l a b w R:List Int}{P:List (List Int)}{C:List (List (List Int))}{Z:List (List Int)}{vO vP vC v vZ:PV}{N t:Nat}
theorem zHc(hN:N<=128)(hZ:FII vZ Z)(c7:SzL Z)(hk:∀t:Bool,(t=true↔∀b∈Z,Bij N b)->K (.bool t) σ):zA Tryz.prog 55 [vZ,.int .i64 N] σ K:=by
 have fl:∀{A:Prop},¬A->((false=true)↔A):=fun h=>⟨fun x=>(by cases x),fun x=>absurd x h⟩
 have lI:=c7.l;obtain⟨wL,aL,rL,rfl,eW⟩:=hZ;refine zB mix Tryz.func55 ?_;simp only[Z3,seval,-ah];refine zC (fun m us h'=>∃i:Nat,i<=Z.length∧m=Z.length-i∧us=[.fz wL aL Z.length rL,.int .i64 N,.int .i64 i]∧σ=h'∧∀b∈Z.take i,Bij N b) Z.length ?_ ?_
 ·exact⟨0,by omega,by omega,rfl,rfl,fun b hb=>by simp at hb⟩
 rintro m us h' ⟨i,hi,rfl,rfl,rfl,aj⟩
 simp only[Z3,seval,-ah];refine iteI (fun ai=>?_) fun aE=>?_
 rotate_left
 ·rw[List.take_of_length_le (by omega)]at aj
  exact hk _ ⟨fun _=>aj,fun _=>rfl⟩
 obtain⟨w5,a5,dj⟩:=eW.rowI ai;have ak:(i:Int)<(Z.length:Int):=by omega
 have mem:=List.getElem_mem ai
 by_cases l9:Z[i].length=N
 rotate_left
 ·have iP:¬((Z[i].length:Int)=(N:Int)):=by omega
  simp only[Z3,seval,-ah,ai,ak,dj,iP];exact hk _ (fl fun h=>l9 (h _ mem).1)
 have iP:((Z[i].length:Int)=(N:Int))=True:=eq_true (by omega)
 simp only[Z3,seval,-ah,ai,ak,dj,iP];refine zBx (l:=Z[i]) (c7.2 _ mem) ⟨w5,a5,rfl⟩ fun t hb=>?_
 rw[l9]at hb
 cases t with
 |false=>
  simp only[Z3,seval,-ah];exact hk _ (fl fun h=>by have:=hb.2 ⟨hN,h _ mem⟩;cases this)
 |true=>
 simp only[Z3,seval,-ah,wrapS ai (by omega:Z.length<=4611686018427387904)]
 refine⟨_,by omega,i+1,by omega,rfl,rfl,fun b tC=>?_⟩
 rw[List.take_succ_eq_append_getElem ai]at tC
 rcases List.mem_append.1 tC with h|h
 ·exact aj b h
 ·rw[List.mem_singleton.1 h];exact(hb.1 rfl).2
def snL(N:Nat)(R:List Int):List PV:=(List.range N).map fun(j:Nat)=>.bool (decide ((j:Int)∈R))
theorem zA7:(snL N R).length=N:=by simp[snL]
theorem zCe{j:Nat}(hj:j<N):(snL N R)[j]? = some (.bool (decide ((j:Int)∈R))):=by
 unfold snL;rw[List.getElem?_map,List.getElem?_range hj];rfl
theorem zFo{m:Nat}:(snL N R).set m (.bool true)=snL N (R++[(m:Int)]):=by
 refine List.ext_getElem? fun j=>?_
 rcases Nat.lt_or_ge j N with h|h
 ·rw[zCe h,List.getElem?_set,zA7]
  by_cases e:m=j
  ·subst e
   rw[if_pos rfl,if_pos h]
   simp
  ·rw[if_neg e,zCe h]
   have:(j:Int)≠(m:Int):=by omega
   have e2:((j:Int)∈R++[(m:Int)])=((j:Int)∈R):=by
    rw[List.mem_append,List.mem_singleton];exact propext ⟨fun h=>h.resolve_right this,.inl⟩
   simp only[e2]
 ·rw[List.getElem?_eq_none (by rw[List.length_set,zA7];exact h),List.getElem?_eq_none (by rw[zA7];exact h)]
theorem zMB:snL N []=List.replicate N (.bool false):=by
 refine List.ext_getElem? fun j=>?_
 rcases Nat.lt_or_ge j N with h|h
 ·rw[zCe h,List.getElem?_replicate,if_pos h];simp
 ·rw[List.getElem?_eq_none (by rw[zA7];exact h),List.getElem?_eq_none (by simp;exact h)]
set_option maxHeartbeats 1600000 in
theorem zHd(hN:1<=N∧N<=128)(hB:∀b∈Z,Bij N b)(eR:Z.length<=100)(hZ:FII vZ Z)(hk:∀m:Nat,Rch Z m->K (.int .i64 m) σ):zA Tryz.prog 60 [vZ,.int .i64 N] σ K:=by
 obtain⟨iV,ld⟩:=hN;obtain⟨wL,aL,rL,rfl,eW⟩:=hZ;refine zA.gh ?_;refine zB mix Tryz.func60 ?_;have z0:(0:Int)<(N:Int):=by omega
 have sh:(σ.new (List.replicate N (PV.bool false))).wr σ.next 0 [.bool true]=some (σ.new (snL N [0])):=by
  rw[zBB (by rw[zH,if_pos rfl]) (by simp;omega) rfl,ZX,<-zMB]
  exact congrArg (fun z=>some (σ.new z)) (zFo (R:=[]) (m:=0))
 simp only[Z3,seval,-ah,Go.Ab.mkL (n:=N) (by omega),show(N:Int)*((1:Nat):Int)<=140737488355328 by omega,z0,sh]
 have hS:(σ.new (snL N [0])).obj σ.next=some (snL N [0]):=by rw[zH,if_pos rfl]
 have DE:(σ.new (snL N [0])).next=σ.next+1:=rfl;have kS:=zD σ (snL N [0]);generalize σ.new (snL N [0])=S at *
 rw[<-DE];have CM:PSl σ.next 1 (S.new [PV.int .i64 0]) (.sl S.next 0 1 (.known 1)) (stR Z 0).length (pis (stR Z 0)):=⟨S.next,.known 1,rfl,.inr rfl,by rw[zH,if_pos rfl];rfl,rfl,by omega,Nat.lt_succ_self _⟩
 refine zC (fun m us h'=>∃(k:Nat) (v:PV),m=N-k∧us=[.fz wL aL Z.length rL,.sl σ.next 0 N (.known N),v,.int .i64 k]∧Keep σ h'∧PSl σ.next 1 h' v (stR Z k).length (pis (stR Z k))∧(∀i,i<k->i<(stR Z i).length)∧h'.obj σ.next=some (snL N (stR Z k))∧(∀off l c,v≠.sl σ.next off l c)∧σ.next<h'.next) N ?_ ?_
 ·refine⟨0,_,rfl,rfl,kS.new _,CM,fun i hi=>by omega,by rw[zH,if_neg (by omega)];exact hS,fun off l c e=>?_,by show σ.next<S.next+1;omega⟩
  have:=PV.sl.inj e
  omega
 rintro m us h' ⟨k,v,rfl,rfl,aq,hv,ai,dH,nD,sY⟩
 have ok:=zFm iV hB ai;have bd:=zAS ok.1 ok.2;have v1:=hv.acc.one;simp only[Z3,seval,-ah,hv.acc.pLen,v1];refine iteI (fun cL=>?_) fun aE=>?_
 rotate_left
 ·have hle:(stR Z k).length<=k:=by omega
  have hJ:(stR Z k).length=k:=by
   rcases Nat.eq_zero_or_pos k with e|e
   ·subst e;simp[stR]at hle
   ·have h1:=ai (k-1) (by omega)
    obtain⟨T,hT⟩:=zBC (Z:=Z) (R:=stR Z (k-1)) (a':=(stR Z (k-1)).getD (k-1) 0) Z.length;have e2:stR Z k=stR Z (k-1)++T:=by
     obtain⟨q,rfl⟩:∃q,k=q+1:=⟨k-1,by omega⟩
     exact hT
    rw[e2,List.length_append];rw[e2,List.length_append]at hle
    omega
  have tv:=hk k ⟨ai,hJ⟩;rw[<-hJ]at tv
  exact Gh.fin0 aq trivial tv
 have fg:k<(stR Z k).length:=by omega
 have yF:(stR Z k)[k]? = some (stR Z k)[k]:=vX fg;have aB:=ok.1 _ (List.getElem_mem fg);have cA:stR Z (k+1)=nxR Z (stR Z k)[k] Z.length (stR Z k):=by
  rw[stR,List.getD_eq_getElem?_getD,vX fg];rfl
 have ak:∀i,i<k+1->i<(stR Z i).length:=fun i hi=>by
  rcases Nat.lt_or_ge i k with z|z
  ·exact ai i z
  ·obtain rfl:i=k:=by omega
   exact fg
 generalize (stR Z k)[k]=a at *
 refine zC (fun m us h3=>∃(j:Nat) (v:PV),j<=Z.length∧m=Z.length-j∧us=[.fz wL aL Z.length rL,.sl σ.next 0 N (.known N),v,.int .i64 k,.int .i64 j]∧Keep σ h3∧PSl σ.next 1 h3 v (nxR Z a j (stR Z k)).length (pis (nxR Z a j (stR Z k)))∧h3.obj σ.next=some (snL N (nxR Z a j (stR Z k)))∧(∀off l c,v≠.sl σ.next off l c)∧σ.next<h3.next) Z.length ?_ ?_
 ·exact⟨0,v,by omega,by omega,rfl,aq,hv,dH,nD,sY⟩
 clear hv aq dH nD sY v1
 rintro m us h3 ⟨j,v,hj,rfl,rfl,aq,hv,dH,nD,sY⟩
 have rK:=zEC hB aB ok hj;obtain⟨T,hT⟩:=zBC (Z:=Z) (R:=stR Z k) (a':=a) j;have Ek:=zAS rK.1 rK.2;have v1:=hv.acc.one;simp only[Z3,seval,-ah,v1];refine iteI (fun jV=>?_) fun p6=>?_
 rotate_left
 ·obtain rfl:j=Z.length:=by omega
  have wk:IntKind.i64.wrap ((k:Int)+1)=((k+1:Nat):Int):=wrapS fg (by omega)
  simp only[Z3,seval,-ah,wk,v1];refine⟨_,by omega,k+1,v,rfl,rfl,aq,?_,ak,?_,nD,sY⟩
  ·rw[cA];exact hv
  ·rw[cA];exact dH
 obtain⟨w5,a5,dj⟩:=eW.rowI jV;have uO:=hB _ (List.getElem_mem jV);obtain⟨an,rfl⟩:∃an:Nat,a=(an:Int):=⟨a.toNat,by omega⟩
 have fP:an<Z[j].length:=by rw[uO.1];omega
 have eh:nxR Z (an:Int) (j+1) (stR Z k)=if Z[j][an]∈nxR Z (an:Int) j (stR Z k)then nxR Z (an:Int) j (stR Z k)else nxR Z (an:Int) j (stR Z k)++[Z[j][an]]:=by
  have e:(Z.getD j []).getD ((an:Int)).toNat 0=Z[j][an]:=by
   rw[List.getD_eq_getElem?_getD,List.getD_eq_getElem?_getD,vX jV,Int.toNat_natCast]
   show(Z[j][an]?).getD 0=_
   rw[vX fP];rfl
  rw[nxR,e]
 have tB:=uO.2.1 _ (List.getElem_mem fP);obtain⟨tn,jv⟩:∃tn:Nat,Z[j][an]=(tn:Int):=⟨Z[j][an].toNat,by omega⟩
 rw[jv]at eh tB
 have tl:tn<N:=by omega
 have tI:(tn:Int)<(N:Int):=by omega
 obtain⟨t0,cap,rfl,q1,q2,q3,q4,q5⟩:=hv;have s6:k<(nxR Z (an:Int) j (stR Z k)).length:=by rw[hT,List.length_append];omega
 have e8:h3.rd1 t0 k=some (.int .i64 (an:Int)):=by
  rw[zF q2,zG,hT,List.getElem?_append_left fg,yF];rfl
 have gb:(pis Z[j])[an]? = some (.int .i64 (tn:Int)):=by rw[zG,gi fP,jv];rfl
 have nI:(an:Int)<(Z[j].length:Int):=by omega
 have kI:(k:Int)<((nxR Z (an:Int) j (stR Z k)).length:Int):=by omega
 have jI:(j:Int)<(Z.length:Int):=by omega
 have wj:IntKind.i64.wrap ((j:Int)+1)=((j+1:Nat):Int):=wrapS jV (by omega)
 have es:h3.rd1 σ.next tn=some (.bool (decide ((tn:Int)∈nxR Z (an:Int) j (stR Z k)))):=by
  rw[zF dH,zCe tl]
 by_cases aW:(tn:Int)∈nxR Z (an:Int) j (stR Z k)
 ·rw[decide_eq_true aW]at es
  simp only[Z3,seval,-ah,jV,jI,dj,s6,kI,e8,nI,fP,gb,tl,tI,es,wj,zL,zN];refine⟨_,by omega,j+1,_,by omega,rfl,rfl,aq,?_,?_,nD,sY⟩
  ·rw[eh,if_pos aW]
   exact⟨t0,cap,rfl,q1,q2,q3,q4,q5⟩
  ·rw[eh,if_pos aW];exact dH
 ·rw[decide_eq_false aW]at es
  have hw:h3.wr σ.next tn [.bool true]=some (h3.set σ.next (snL N (nxR Z (an:Int) j (stR Z k)++[(tn:Int)]))):=by
   rw[zBB dH (by rw[zA7];exact tl) rfl,zFo]
  have oS:(h3.set σ.next (snL N (nxR Z (an:Int) j (stR Z k)++[(tn:Int)]))).obj σ.next=some (snL N (nxR Z (an:Int) j (stR Z k)++[(tn:Int)])):=by simp[PHeap.set]
  have BY:t0≠σ.next:=fun e=>nD 0 _ cap (by rw[e])
  have oT:(h3.set σ.next (snL N (nxR Z (an:Int) j (stR Z k)++[(tn:Int)]))).obj t0=some (pis (nxR Z (an:Int) j (stR Z k))):=by
   rw[zg,if_neg BY];exact q2
  have kG:Keep σ (h3.set σ.next (snL N (nxR Z (an:Int) j (stR Z k)++[(tn:Int)]))):=aq.set (vM _) _;have nG:(h3.set σ.next (snL N (nxR Z (an:Int) j (stR Z k)++[(tn:Int)]))).next=h3.next:=rfl;simp only[Z3,seval,-ah,jV,jI,dj,s6,kI,e8,nI,fP,gb,tl,tI,es,hw,zL,zN];generalize h3.set σ.next (snL N (nxR Z (an:Int) j (stR Z k)++[(tn:Int)]))=G at *
  rw[<-nG];refine PAcc.pushS (σb:=σ) (bytes:=8) (e:=1) (news:=[.int .i64 tn]) kG (PSl.acc ⟨t0,cap,rfl,q1,oT,q3,q4,by omega⟩) rfl (by omega) (by omega) fun v' h4 k4 a4 o4 n4 l4=>?_
  have v2:=a4.acc.one;simp only[Z3,seval,-ah,v2,wj];refine⟨_,by omega,j+1,v',by omega,rfl,rfl,k4,?_,?_,fun off l c e=>?_,by omega⟩
  ·rw[eh,if_neg aW,show pis (nxR Z (an:Int) j (stR Z k)++[(tn:Int)])=pis (nxR Z (an:Int) j (stR Z k))++[.int .i64 tn] by simp[pis],List.length_append]
   exact a4
  ·rw[eh,if_neg aW,o4 _ (by omega) nD];exact oS
  ·exact n4 σ.next (by omega) off l c e
theorem zLi(hp:zM O P C)(hR:IsPr vO vP vC O P C)(hN:nEl O<=128)(hZ:FII vZ Z)(c7:SzL Z)(hk:∀t:Bool,(t=true↔realP O P C Z)->K (.bool t) σ):zA Tryz.prog 25 [.agg [vO,vP,vC],vZ] σ K:=by
 have fl:∀{A:Prop},¬A->((false=true)↔A):=fun h=>⟨fun x=>(by cases x),fun x=>absurd x h⟩
 have s:=hp.shp;have h6:=s.le;obtain⟨xR,iV⟩:=QH s;have g1:=hR.O.one;have g2:=hR.P.one;have g3:=hR.C.one;have Bo:=hZ.one;have oY:=hZ;have lI:=c7.l;refine zA.gh ?_;refine zB mix Tryz.func25 ?_;simp only[Z3,seval,-ah,g1,g2,g3,Bo];have ob:(σ.new [vO,vP,vC]).obj σ.next=some [vO,vP,vC]:=by rw[zH,if_pos rfl]
 have k1:=zD σ [vO,vP,vC];generalize σ.new [vO,vP,vC]=H at *
 have r0:H.rd1 σ.next 0=some vO:=by rw[zF ob];rfl
 have r3:H.rd σ.next 0 3=some [vO,vP,vC]:=by rw[zb ob];rfl
 have pl:pLen vO=some (.int .i64 O.length):=by obtain⟨w,a,rfl⟩:=hR.O;rfl
 simp only[Z3,seval,-ah,r3,g1,g2,g3,Bo];refine qN s hR ?_;rw[xR];obtain⟨wL,aL,rL,rfl,eW⟩:=hZ
 by_cases eR:Z.length=O.length
 rotate_left
 ·have leq:¬((Z.length:Int)=(O.length:Int)):=by omega
  simp only[Z3,seval,-ah,r0,r3,pl,leq,g1];exact Gh.fin0 k1 trivial (hk _ (fl fun h=>eR h.1))
 have leq:((Z.length:Int)=(O.length:Int))=True:=eq_true (by omega)
 simp only[Z3,seval,-ah,r0,r3,pl,leq,g1];refine zHc hN oY c7 fun t hb=>?_
 cases t with
 |false=>
  simp only[Z3,seval,-ah];exact Gh.fin0 k1 trivial (hk _ (fl fun h=>by have:=hb.2 h.2.1;cases this))
 |true=>
 have hB:=hb.1 rfl;simp only[Z3,seval,-ah,r3,g1,g2,g3];refine zBF hp hR fun vR R lC ⟨mo,jk⟩ fQ=>?_
 obtain⟨wR,aR,rR,rfl,lD⟩:=lC;simp only[Z3,seval,-ah];refine zC (fun m us h'=>∃i:Nat,i<=R.length∧m=R.length-i∧us=[.fz wL aL Z.length rL,.int .i64 (nEl O),.fz wR aR R.length rR,.int .i64 i]∧H=h'∧∀r∈R.take i,cmpS (nEl O) Z r=idL (nEl O)) R.length ?_ ?_
 ·exact⟨0,by omega,by omega,rfl,rfl,fun r hr=>by simp at hr⟩
 rintro m us h' ⟨i,hi,rfl,rfl,rfl,ey⟩
 simp only[Z3,seval,-ah];refine iteI (fun ai=>?_) fun aE=>?_
 rotate_left
 ·rw[List.take_of_length_le (by omega)]at ey
  simp only[Z3,seval,-ah];refine zHd ⟨iV,hN⟩ hB (by omega) oY fun m hm=>?_
  simp only[Z3,seval,-ah];refine Gh.fin0 k1 trivial (hk _ ?_);rw[decide_eq_true_iff];refine⟨fun h=>⟨eR,hB,fun r hr=>ey r (jk r hr),?_⟩,fun h=>?_⟩
  ·have:m=nEl O:=by omega
   rw[<-this];exact hm
  ·have:=h.2.2.2.unique hm
   omega
 obtain⟨w5,a5,dj⟩:=lD.rowI ai;have ak:(i:Int)<(R.length:Int):=by omega
 have mem:=List.getElem_mem ai;have bE:=mo _ mem;obtain⟨q1,q2⟩:=bE.facts s;rw[<-eR]at q1
 have cr:=zBj hB q1;simp only[Z3,seval,-ah,ai,ak,dj];refine zIy (by omega) hB (by omega) q1 (by omega) ⟨w5,a5,rfl⟩ oY fun vo iB=>?_
 simp only[Z3,seval,-ah,iB.one];refine zEH (by omega) fun vi ju=>?_
 obtain⟨w6,a6,rfl⟩:=iB;obtain⟨w7,a7,rfl⟩:=ju;simp only[Z3,seval,-ah];refine qw rfl rfl (by rw[cr.1];omega) ?_
 by_cases e:cmpS (nEl O) Z R[i]=idL (nEl O)
 ·simp only[Z3,seval,-ah,e,decide_true,wrapS ai (by omega:R.length<=4611686018427387904)]
  refine⟨_,by omega,i+1,by omega,rfl,rfl,fun r hr=>?_⟩
  rw[List.take_succ_eq_append_getElem ai]at hr
  rcases List.mem_append.1 hr with h|h
  ·exact ey r h
  ·rw[List.mem_singleton.1 h];exact e
 ·simp only[Z3,seval,-ah,e,decide_false]
  exact Gh.fin0 k1 trivial (hk _ (fl fun h=>e (h.2.2.1 _ bE)))
end Go.Proofs
namespace Go.Proofs
open Go.Ab Go.Lie Go.Grp
variable{σ h:PHeap}{K:PV->PHeap->Prop}{O O' x y w:List Int}{P P':List (List Int)}{C C':List (List (List Int))}{vO vP vC bV bQ bW vD vR:PV}{u D R:List (List Int)}
def isoP(O:List Int)(P:List (List Int))(C:List (List (List Int)))(O':List Int)(P':List (List Int))(C':List (List (List Int)))(D:List (List Int)):Prop:=
 (zM O P C∧Cons O P C)∧(zM O' P' C'∧Cons O' P' C')∧(∀y∈D,isExp O' y)∧D.length=O.length∧ordF O O.length=ordF O' O'.length∧zB7 O P C O' P' C' D∧
  ∃u,CanG O' (GC O' P' C' D) u∧szU O' u=ordF O' O'.length
theorem zDl(hR:IsPr vO vP vC O P C)(sz:SzP O P C)(bc:IsPr bV bQ bW O' P' C')(jZ:SzP O' P' C')(hD:FII vD D)(ub:SzL D)
  (hk:∀t:Bool,(t=true↔isoP O P C O' P' C' D)->K (.bool t) σ):zA Tryz.prog 82 [.agg [vO,vP,vC],.agg [bV,bQ,bW],vD] σ K:=by
 have fl:∀{A:Prop},¬A->((false=true)↔A):=fun h=>⟨fun x=>(by cases x),fun x=>absurd x h⟩
 have g0:=hR.O.one;have g1:=hR.P.one;have g2:=hR.C.one;have q0:=bc.O.one;have q1:=bc.P.one;have q2:=bc.C.one;have dG:=hD.one;have m8:∀{h:PHeap},plen vD=some D.length:=fun {h}=>by obtain⟨w,a,r,rfl,_⟩:=hD;rfl
 refine zA.gh ?_;refine zB mix Tryz.func82 ?_;simp only[Z3,seval,-ah,g0,g1,g2,q0,q1,q2,dG];generalize hH:(σ.new [vO,vP,vC]).new [bV,bQ,bW]=H;have kH:Keep σ H:=by rw[<-hH];exact(zD _ _).new _
 have o1:H.obj σ.next=some [vO,vP,vC]:=by rw[<-hH];simp only[Z3,seval,-ah]
 have o2:H.obj (σ.next+1)=some [bV,bQ,bW]:=by rw[<-hH];simp only[Z3,seval,-ah]
 have hn:H.next=σ.next+2:=by rw[<-hH];rfl
 have r1:H.rd σ.next 0 3=some [vO,vP,vC]:=by rw[zb o1];rfl
 have j4:H.rd1 σ.next 0=some vO:=by rw[zF o1];rfl
 have s1:PtrG H σ.next vO vP vC:=⟨o1,by omega⟩
 have s2:PtrG H (σ.next+1) bV bQ bW:=⟨o2,by omega⟩
 clear hH;simp only[Z3,seval,-ah,r1,g0,g1,g2,dG];refine zq hR sz fun t ht=>?_
 cases t with
 |false=>
  simp only[Z3,seval,-ah,dG];exact Gh.fin0 kH trivial (hk _ (fl fun h=>by have:=ht.2 h.1;cases this))
 |true=>
 have gp:=ht.1 rfl;simp only[Z3,seval,-ah,dG];refine zEy s2 bc jZ hD ub fun t hy=>?_
 cases t with
 |false=>
  simp only[Z3,seval,-ah,dG];exact Gh.fin0 kH trivial (hk _ (fl fun h=>by have:=hy.2 ⟨h.2.1,h.2.2.1⟩;cases this))
 |true=>
 obtain⟨gq,hex⟩:=hy.1 rfl;have g:LG O P C:=⟨gp.1,gp.2⟩;have g':LG O' P' C':=⟨gq.1,gq.2⟩;have hg:∀y∈D,gS O' y:=fun y h=>(hex y h).gS
 have h6:=g.s.le;have jL:=g'.s.le;obtain⟨⟨w0,a0,rfl⟩,jH,jJ⟩:=hR
 by_cases hl:D.length=O.length
 rotate_left
 ·obtain⟨wD,aD,rD,rfl,nU⟩:=hD
  have aY:¬((D.length:Int)=(O.length:Int)):=by omega
  simp only[Z3,seval,-ah,j4,aY,decide_true,decide_false];exact Gh.fin0 kH trivial (hk _ (fl fun h=>hl h.2.2.2.1))
 have pW:((D.length:Int)=(O.length:Int))=True:=eq_true (by omega)
 have ra:=hD;obtain⟨wD,aD,rD,rfl,nU⟩:=hD;have mq:IsPr (.fz w0 a0 O.length (pis O)) vP vC O P C:=⟨⟨w0,a0,rfl⟩,jH,jJ⟩;simp only[Z3,seval,-ah,j4,pW,decide_true,decide_false];refine QC g.s s1 ⟨w0,a0,rfl⟩ ?_;simp only[Z3,seval,-ah,pW];refine QC g'.s s2 bc.O ?_
 by_cases ho:ordF O O.length=ordF O' O'.length
 rotate_left
 ·simp only[Z3,seval,-ah,ho,decide_true,decide_false]
  exact Gh.fin0 kH trivial (hk _ (fl fun h=>ho h.2.2.2.2.1))
 simp only[Z3,seval,-ah,ho,decide_true,decide_false,r1,g1,g2];refine ql gp.1 sz mq fun vR R lC ⟨bE,aj⟩ fQ=>?_
 have DF:=lC.one;simp only[Z3,seval,-ah,DF];refine zC3 g' s2 bc lC (fun r hr=>by rw[hl];exact(bE r hr).facts g.s) fQ ra (by omega) hg fun t c5=>?_
 cases t with
 |false=>
  simp only[Z3,seval,-ah];exact Gh.fin0 kH trivial (hk _ (fl fun h=>by have:=c5.2 fun r hr=>h.2.2.2.2.2.1 r (bE r hr);cases this))
 |true=>
 have bK:zB7 O P C O' P' C' D:=fun r hr=>c5.1 rfl r (aj r hr)
 simp only[Z3,seval,-ah];refine zAW g' s2 bc ra hg (by omega) fun vu u hu cu=>?_
 have xf:=hu.one;simp only[Z3,seval,-ah,xf];refine sizeOf_ok g'.s s2 bc.O hu cu (by have:=cu.len;omega) ?_
 simp only[Z3,seval,-ah];refine QC g'.s s2 bc.O ?_;simp only[Z3,seval,-ah];refine Gh.fin0 kH trivial (hk _ ?_);rw[decide_eq_true_iff];refine⟨fun h=>⟨gp,gq,hex,hl,ho,bK,u,cu,h⟩,fun h=>?_⟩
 obtain⟨u',y9,e⟩:=h.2.2.2.2.2.2;rw[cu.unique g'.s g'.F (GC.sub g'.F hg) y9];exact e
theorem zBS(hR:IsPr vO vP vC O P C)(sz:SzP O P C)(bc:IsPr bV bQ bW O' P' C')(jZ:SzP O' P' C')(hD:FII vD D)(ub:SzL D)
  (hk:∀t:Bool,(t=true↔isoP O P C O' P' C' D)->K (.bool t) σ):zA Tryz.prog 28 [.agg [vO,vP,vC],.agg [bV,bQ,bW],vD] σ K:=by
 have fl:∀{A:Prop},¬A->((false=true)↔A):=fun h=>⟨fun x=>(by cases x),fun x=>absurd x h⟩
 have g0:=hR.O.one;have g1:=hR.P.one;have g2:=hR.C.one;have q0:=bc.O.one;have q1:=bc.P.one;have q2:=bc.C.one;have dG:=hD.one;refine zA.gh ?_;refine qB mix Tryz.func28 ?_;simp only[Z3,seval,-ah,g0,g1,g2,q0,q1,q2,dG];generalize hH:(σ.new [vO,vP,vC]).new [bV,bQ,bW]=H;have kH:Keep σ H:=by rw[<-hH];exact(zD _ _).new _
 have o1:H.obj σ.next=some [vO,vP,vC]:=by rw[<-hH];simp only[Z3,seval,-ah]
 have o2:H.obj (σ.next+1)=some [bV,bQ,bW]:=by rw[<-hH];simp only[Z3,seval,-ah]
 have r1:H.rd σ.next 0 3=some [vO,vP,vC]:=by rw[zb o1];rfl
 have r2:H.rd (σ.next+1) 0 3=some [bV,bQ,bW]:=by rw[zb o2];rfl
 have j4:H.rd1 σ.next 0=some vO:=by rw[zF o1];rfl
 clear hH;simp only[Z3,seval,-ah,r1,g0,g1,g2,dG];refine q9 hR sz fun t ht=>?_
 cases t with
 |false=>
  simp only[Z3,seval,-ah,dG];exact Gh.fin0 kH trivial (hk _ (fl fun h=>by have:=ht.2 h.1;cases this))
 |true=>
 have gp:=ht.1 rfl;simp only[Z3,seval,-ah,dG,r2,q0,q1,q2];refine q9 bc jZ fun t ht=>?_
 cases t with
 |false=>
  simp only[Z3,seval,-ah,dG];exact Gh.fin0 kH trivial (hk _ (fl fun h=>by have:=ht.2 h.2.1;cases this))
 |true=>
 have gq:=ht.1 rfl;have g:LG O P C:=⟨gp.1,gp.2⟩;have g':LG O' P' C':=⟨gq.1,gq.2⟩;have h6:=g.s.le;have jL:=g'.s.le;have mq:=hR;obtain⟨⟨w0,a0,rfl⟩,jH,jJ⟩:=hR;have ra:=hD;obtain⟨wD,aD,rD,rfl,nU⟩:=hD
 by_cases hl:D.length=O.length
 rotate_left
 ·have aY:¬((D.length:Int)=(O.length:Int)):=by omega
  simp only[Z3,seval,-ah,j4,aY,decide_true,decide_false];exact Gh.fin0 kH trivial (hk _ (fl fun h=>hl h.2.2.2.1))
 have pW:((D.length:Int)=(O.length:Int))=True:=eq_true (by omega)
 simp only[Z3,seval,-ah,j4,pW,decide_true,decide_false,r2,q0,q1,q2];refine Zn bc (by omega) (zM.isp gq.1) ra ub fun t hy=>?_
 cases t with
 |false=>
  simp only[Z3,seval,-ah];exact Gh.fin0 kH trivial (hk _ (fl fun h=>by have:=hy.2 h.2.2.1;cases this))
 |true=>
 have hex:=hy.1 rfl;have hg:∀y∈D,gS O' y:=fun y h=>(hex y h).gS
 simp only[Z3,seval,-ah,r1,r2,g1,g2,q0,q1,q2,zL,zN];refine qN g.s mq ?_;simp only[Z3,seval,-ah,r1,r2,g1,g2,q0,q1,q2,zL,zN];refine qN g'.s bc ?_
 by_cases ho:ordF O O.length=ordF O' O'.length
 rotate_left
 ·simp only[Z3,seval,-ah,ho,decide_true,decide_false,r1,r2,g1,g2,q0,q1,q2,zL,zN]
  exact Gh.fin0 kH trivial (hk _ (fl fun h=>ho h.2.2.2.2.1))
 simp only[Z3,seval,-ah,ho,decide_true,decide_false,r1,r2,g1,g2,q0,q1,q2,zL,zN];refine zBE gp.1 mq g' bc ra hl hg fun t c5=>?_
 cases t with
 |false=>
  simp only[Z3,seval,-ah,r1,r2,g1,g2,q0,q1,q2,zL,zN];exact Gh.fin0 kH trivial (hk _ (fl fun h=>by have:=c5.2 h.2.2.2.2.2.1;cases this))
 |true=>
 have bK:=c5.1 rfl;simp only[Z3,seval,-ah,r1,r2,g1,g2,q0,q1,q2,zL,zN];refine Qg g' bc ra ub hg fun vu u hu cu=>?_
 have xf:=hu.one;simp only[Z3,seval,-ah,r1,r2,g1,g2,q0,q1,q2,xf,zL,zN];refine Qf g'.s bc hu cu (by have:=cu.len;omega) ?_
 simp only[Z3,seval,-ah,r1,r2,g1,g2,q0,q1,q2,zL,zN];refine qN g'.s bc ?_;simp only[Z3,seval,-ah,zL,zN];refine Gh.fin0 kH trivial (hk _ ?_);rw[decide_eq_true_iff];refine⟨fun h=>⟨gp,gq,hex,hl,ho,bK,u,cu,h⟩,fun h=>?_⟩
 obtain⟨u',y9,e⟩:=h.2.2.2.2.2.2;rw[cu.unique g'.s g'.F (GC.sub g'.F hg) y9];exact e
end Go.Proofs
namespace Go.Proofs
open Go.Ab Go.Lie Go.Grp
variable{O:List Int}
theorem zEB:∀{i:Nat},i<=O.length->ordF O i=prodL (O.take i)
 |0,_=>by simp[ordF,prodL]
 |i+1,hi=>by rw[ordF,zEB (by omega),Zl (by omega),at_eq (by omega)]
end Go.Proofs
namespace Go.Proofs
open Go.Ab Go.Lie Go.Grp
variable{σ h:PHeap}{K:PV->PHeap->Prop}{O O' y:List Int}{P P':List (List Int)}{C C':List (List (List Int))}{vO vP vC bV bQ bW vD v:PV}{n N t:Nat}
def tpF(N:Nat):Nat->Nat
 |0=>1
 |i+1=>if tpF N i<=4096 then tpF N i*N else tpF N i
theorem zAF(hN:N<=729):∀i,tpF N i<=2985984
 |0=>by simp[tpF]
 |i+1=>by
  have:=zAF hN i
  unfold tpF
  split
  ·rename_i h
   have:=Nat.mul_le_mul h hN
   omega
  ·exact this
theorem zFk{i:Nat}(h:4096<tpF N i):∀j,i<=j->4096<tpF N j
 |0,hj=>by
  obtain rfl:i=0:=by omega
  exact h
 |j+1,hj=>by
  rcases Nat.eq_or_lt_of_le hj with e|e
  ·rw[<-e];exact h
  ·have:=zFk h j (by omega)
   unfold tpF;rw[if_neg (by omega)];exact this
def tpD(N:Nat):Nat->Nat->List Nat
 |0,_=>[]
 |i+1,t=>tpD N i (t / N)++[t % N]
theorem zHw:∀i t,(tpD N i t).length=i
 |0,_=>rfl
 |i+1,t=>by simp[tpD,zHw i]
def tpI(O':List Int)(N n t:Nat):List (List Int):=(tpD N n t).map (dgs O' O'.length)
theorem zA5:(tpI O' N n t).length=n:=by simp[tpI,zHw]
theorem zJR(s:Shp O' P' C'):∀y∈tpI O' N n t,gS O' y:=fun y hy=>by
 obtain⟨k,_,rfl⟩:=List.mem_map.1 hy;exact zKZ s k
open Classical in
noncomputable def homN(O:List Int)(P:List (List Int))(C:List (List (List Int)))(O':List Int)(P':List (List Int))(C':List (List (List Int))):Nat->Nat
 |0=>0
 |k+1=>homN O P C O' P' C' k+if zB7 O P C O' P' C' (tpI O' (nEl O') O.length k)then 1 else 0
theorem zEq:∀k,homN O P C O' P' C' k<=k
 |0=>vM _
 |k+1=>by have:=zEq k;unfold homN;split<;>omega
open Classical in
noncomputable def homC(O:List Int)(P:List (List Int))(C:List (List (List Int)))(O':List Int)(P':List (List Int))(C':List (List (List Int))):Int:=
 if (zM O P C∧Cons O P C)∧(zM O' P' C'∧Cons O' P' C')then(if 4096<tpF (nEl O') O.length then 3 else 0)else 1
open Classical in
noncomputable def homK(O:List Int)(P:List (List Int))(C:List (List (List Int)))(O':List Int)(P':List (List Int))(C':List (List (List Int))):Int:=
 if homC O P C O' P' C'=0 then(homN O P C O' P' C' (tpF (nEl O') O.length):Int)else 0
theorem zEE(hp:zM O P C):nEl O<=729:=by
 have h:=zEB (O:=O) (i:=O.length) (vM _);rw[List.take_length]at h
 have:=hp.2.2.2.2.1
 unfold nEl;omega
theorem zCK(hn:O.length<=6)(hR:IsPr vO vP vC O P C)(eN:zM O' P' C')(bc:IsPr bV bQ bW O' P' C')(hk:K (.int .i64 (tpF (nEl O') O.length:Nat)) σ):zA Tryz.prog 74 [.agg [vO,vP,vC],.agg [bV,bQ,bW]] σ K:=by
 have g1:=hR.P.one;have g2:=hR.C.one;have q0:=bc.O.one;have q1:=bc.P.one;have q2:=bc.C.one;have s':=eN.shp;have hN:=zEE eN;obtain⟨qq,iV⟩:=QH s';obtain⟨⟨w0,a0,rfl⟩,jH,jJ⟩:=hR;refine zA.gh ?_;refine zB mix Tryz.func74 ?_;simp only[Z3,seval,-ah,g1,g2,q0,q1,q2];generalize hH:(σ.new [PV.fz w0 a0 O.length (pis O),vP,vC]).new [bV,bQ,bW]=H;have kH:Keep σ H:=by rw[<-hH];exact(zD _ _).new _
 have j4:H.rd1 σ.next 0=some (.fz w0 a0 O.length (pis O)):=by rw[<-hH];simp only[Z3,seval,-ah]
 have r2:H.rd (σ.next+1) 0 3=some [bV,bQ,bW]:=by rw[<-hH];simp only[Z3,seval,-ah]
 clear hH;refine zC (fun m vs h=>∃(i:Nat),i<=O.length∧m=O.length-i∧vs=[.ptr σ.next 0,.ptr (σ.next+1) 0,.int .i64 (tpF (nEl O') i:Nat),.int .i64 i]∧h=H) O.length ?_ ?_
 ·exact⟨0,Nat.zero_le _,rfl,rfl,rfl⟩
 rintro m vs h ⟨i,hi,rfl,rfl,rfl⟩
 simp only[Z3,seval,-ah,j4];refine iteI (fun ai=>?_) fun aE=>?_
 rotate_left
 ·obtain rfl:i=O.length:=by omega
  exact Gh.fin0 kH trivial hk
 have hb:=zAF hN i;have fO:=zAF hN (i+1)
 by_cases hc:tpF (nEl O') i<=4096
 ·have k7:(tpF (nEl O') i:Int)<=4096:=by omega
  have e:tpF (nEl O') (i+1)=tpF (nEl O') i*nEl O':=by rw[tpF,if_pos hc]
  have wm:IntKind.i64.wrap ((tpF (nEl O') i:Int)*ordF O' O'.length)=((tpF (nEl O') (i+1):Nat):Int):=by
   rw[qq,<-Int.natCast_mul,<-e,wrap64 (by omega) (by omega)]
  simp only[Z3,seval,-ah,k7,r2,q0,q1,q2];refine qN s' bc ?_;simp only[Z3,seval,-ah,wm,wrapS ai (by omega:O.length<=4611686018427387904)]
  exact⟨_,by omega,i+1,by omega,rfl,rfl⟩
 ·have k7:¬(tpF (nEl O') i:Int)<=4096:=by omega
  have e:tpF (nEl O') (i+1)=tpF (nEl O') i:=by rw[tpF,if_neg hc]
  simp only[Z3,seval,-ah,k7,wrapS ai (by omega:O.length<=4611686018427387904)]
  exact⟨_,by omega,i+1,by omega,rfl,by rw[e]⟩
theorem zIv(hR:IsPr vO vP vC O P C)(sz:SzP O P C)(bc:IsPr bV bQ bW O' P' C')(jZ:SzP O' P' C')(hk:K (.int .i64 (homC O P C O' P' C')) σ):zA Tryz.prog 73 [.agg [vO,vP,vC],.agg [bV,bQ,bW]] σ K:=by
 have g0:=hR.O.one;have g1:=hR.P.one;have g2:=hR.C.one;have q0:=bc.O.one;have q1:=bc.P.one;have q2:=bc.C.one;unfold homC at hk
 refine zA.gh ?_;refine zB mix Tryz.func73 ?_;simp only[Z3,seval,-ah,g0,g1,g2,q0,q1,q2];generalize hH:(σ.new [vO,vP,vC]).new [bV,bQ,bW]=H;have kH:Keep σ H:=by rw[<-hH];exact(zD _ _).new _
 have r1:H.rd σ.next 0 3=some [vO,vP,vC]:=by rw[<-hH];simp only[Z3,seval,-ah]
 have r2:H.rd (σ.next+1) 0 3=some [bV,bQ,bW]:=by rw[<-hH];simp only[Z3,seval,-ah]
 clear hH;simp only[Z3,seval,-ah,r1,g0,g1,g2];refine q9 hR sz fun t ht=>?_
 cases t with
 |false=>
  simp only[Z3,seval,-ah];rw[if_neg fun h=>by have:=ht.2 h.1;cases this]at hk
  exact Gh.fin0 kH trivial hk
 |true=>
 have gp:=ht.1 rfl;simp only[Z3,seval,-ah,r2,q0,q1,q2];refine q9 bc jZ fun t ht=>?_
 cases t with
 |false=>
  simp only[Z3,seval,-ah];rw[if_neg fun h=>by have:=ht.2 h.2;cases this]at hk
  exact Gh.fin0 kH trivial hk
 |true=>
 have gq:=ht.1 rfl;rw[if_pos ⟨gp,gq⟩]at hk
 simp only[Z3,seval,-ah,r1,r2,g0,g1,g2,q0,q1,q2];refine zCK gp.1.shp.le hR gq.1 bc ?_
 by_cases hc:4096<tpF (nEl O') O.length
 ·have k7:(4096:Int)<(tpF (nEl O') O.length:Int):=by omega
  rw[if_pos hc]at hk
  simp only[Z3,seval,-ah,k7];exact Gh.fin0 kH trivial hk
 ·have k7:¬(4096:Int)<(tpF (nEl O') O.length:Int):=by omega
  rw[if_neg hc]at hk
  simp only[Z3,seval,-ah,k7];exact Gh.fin0 kH trivial hk
theorem zHY(eN:zM O' P' C')(bc:IsPr bV bQ bW O' P' C')(hn:n<=6)(ht:t<=3000000)(hk:∀v,FII v (tpI O' (nEl O') n t)->K v σ):zA Tryz.prog 75 [.agg [bV,bQ,bW],.int .i64 n,.int .i64 t] σ K:=by
 have q0:=bc.O.one;have q1:=bc.P.one;have q2:=bc.C.one;have s':=eN.shp;have hN:=zEE eN;obtain⟨qq,iV⟩:=QH s';refine zA.gh ?_;refine zB mix Tryz.func75 ?_;have w0:IntKind.i64.wrap ((n:Int)-1)=(n:Int)-1:=wrap64 (by omega) (by omega)
 simp only[Z3,seval,-ah,q0,q1,q2,mk8 (n:=n) (by omega),w0]
 generalize hH:σ.new [bV,bQ,bW]=H;have kH:Keep σ H:=by rw[<-hH];exact zD _ _
 have o2:H.obj σ.next=some [bV,bQ,bW]:=by rw[<-hH];simp only[Z3,seval,-ah]
 have jg:H.next=σ.next+1:=by rw[<-hH];rfl
 rw[<-jg];clear hH;have nv:∀c:Nat,(List.replicate c (PV.fz true AV.nils 0 [])).length=c:=fun c=>List.length_replicate
 refine⟨⟨by simp;omega,by omega⟩,?_⟩
 refine zC (fun m vs h'=>∃(c tj:Nat) (cs:List PV) (gH:List Nat),c<=n∧m=c∧vs=[.int .i64 tj,.ptr σ.next 0,.sl H.next 0 n (.known n),.int .i64 ((c:Int)-1)]∧Keep H h'∧H.next<h'.next∧h'.obj H.next=some (List.replicate c (PV.fz true AV.nils 0 [])++cs)∧All2 FI cs (gH.map (dgs O' O'.length))∧c+gH.length=n∧tpD (nEl O') c tj++gH=tpD (nEl O') n t∧tj<=t) n ?_ ?_
 ·exact⟨n,t,[],[],vM _,rfl,rfl,zD H _,Nat.lt_succ_self _,by rw[List.append_nil,zH,if_pos rfl],All2.nil _,rfl,by rw[List.append_nil],vM _⟩
 rintro m vs h' ⟨c,tj,cs,gH,hc,rfl,rfl,bU,jz,dH,aj,hlen,mj,CE⟩
 have r2:h'.rd σ.next 0 3=some [bV,bQ,bW]:=by rw[zb (by rw[bU.obj _ (by omega)];exact o2)];rfl
 have cK:cs.length=gH.length:=by have:=aj.1;rwa[List.length_map]at this
 cases m with
 |zero=>
  simp only[Z3,seval,-ah,show ¬((0:Int)<=((0:Nat):Int)-1) by omega]
  have e:gH=tpD (nEl O') n t:=by simpa [tpD]using mj
  have fI:n=cs.length:=by omega
  have h2:h'.obj H.next=some cs:=by simpa using dH
  refine Gh.finF (kH.trans bU) h2 (by omega) (aj.bI 0) (show full 1 (.known n) n from .inr rfl).ok fun o=>hk _ ⟨true,.sl o 0 n (.known n),cs,by rw[zA5],by rw[e]at aj;exact aj⟩
 |succ c=>
  have e:((c+1:Nat):Int)-1=(c:Int):=by omega
  have tL:¬((nEl O':Nat):Int)=0:=by omega
  have et:(tj:Int).tmod (nEl O':Int)=((tj % nEl O':Nat):Int):=rfl;have ed:(tj:Int).tdiv (nEl O':Int)=((tj / nEl O':Nat):Int):=rfl;have fY:tj / nEl O'<=tj:=Nat.div_le_self _ _;have cN:tj % nEl O'<nEl O':=Nat.mod_lt _ (by omega)
  have o9:∀q:Nat,q<=tj->IntKind.i64.wrap (q:Int)=(q:Int):=fun q hq=>wrap64 (by omega) (by omega)
  have lh:=o9 _ fY;have jo:IntKind.i64.wrap ((c:Int)-1)=(c:Int)-1:=wrap64 (by omega) (by omega)
  rw[e];have ml:c<n:=by omega
  have ef:(c:Int)<(n:Int):=by omega
  have c0:(0:Int)<=(c:Int):=by omega
  simp only[Z3,seval,-ah,r2,q0,q1,q2,c0,zL,zN];refine qN s' bc ?_;rw[qq];simp only[Z3,seval,-ah,r2,q0,q1,q2,tL,et,zL,zN];refine zH7 s' bc (by omega) fun v hv=>?_
  obtain⟨wv,av,AD⟩:=hv;have hv:FI v _:=⟨wv,av,AD⟩;have v1:=hv.one;have vc:v.cells=[v]:=by rw[AD];rfl
  have hw:h'.wr H.next c [v]=some (h'.set H.next (List.replicate c (PV.fz true AV.nils 0 [])++(v::cs))):=by
   rw[ZZ dH,if_pos ⟨by simp,by simp[v1]⟩]
   congr 2
   rw[List.take_append_of_le_length (by simp),List.take_replicate,show min c (c+1)=c by omega,List.drop_append_of_le_length (by simp)]
   simp[List.drop_replicate]
  have r3:(h'.set H.next (List.replicate c (PV.fz true AV.nils 0 [])++(v::cs))).rd σ.next 0 3=some [bV,bQ,bW]:=by rw[zH1,if_neg (by omega)];exact r2
  have k3:Keep H (h'.set H.next (List.replicate c (PV.fz true AV.nils 0 [])++(v::cs))):=bU.set (vM _) _;have o3:(h'.set H.next (List.replicate c (PV.fz true AV.nils 0 [])++(v::cs))).obj H.next=some (List.replicate c (PV.fz true AV.nils 0 [])++(v::cs)):=by simp[PHeap.set]
  have n3:(h'.set H.next (List.replicate c (PV.fz true AV.nils 0 [])++(v::cs))).next=h'.next:=rfl;simp only[Z3,seval,-ah,v1,vc,ml,ef,hw,r3,zL,zN];generalize h'.set H.next (List.replicate c (PV.fz true AV.nils 0 [])++(v::cs))=G at *
  simp only[Z3,seval,-ah,r3,q0,q1,q2];refine qN s' bc ?_;rw[qq];simp only[Z3,seval,-ah,tL,ed,lh,jo];refine⟨c,by omega,c,tj / nEl O',v::cs,(tj % nEl O')::gH,by omega,rfl,rfl,k3,by omega,o3,?_,by simp only[List.length_cons];omega,?_,by omega⟩
  ·refine⟨by simp[cK],fun k a b ha hb=>?_⟩
   cases k with
   |zero=>
    simp only[List.map_cons,List.getElem?_cons_zero,Option.some.injEq]at ha hb
    subst ha;subst hb;exact hv
   |succ k=>
    simp only[List.map_cons,List.getElem?_cons_succ]at ha hb
    exact aj.2 k a b ha hb
  ·rw[<-mj,tpD,List.append_assoc];rfl
open Classical in
theorem zAI(hR:IsPr vO vP vC O P C)(sz:SzP O P C)(bc:IsPr bV bQ bW O' P' C')(jZ:SzP O' P' C')(hk:K (.tup [.int .i64 (homK O P C O' P' C'),.int .i64 (homC O P C O' P' C')]) σ):zA Tryz.prog 30 [.agg [vO,vP,vC],.agg [bV,bQ,bW]] σ K:=by
 have g0:=hR.O.one;have g1:=hR.P.one;have g2:=hR.C.one;have q0:=bc.O.one;have q1:=bc.P.one;have q2:=bc.C.one;refine zA.gh ?_;refine zB mix Tryz.func30 ?_;simp only[Z3,seval,-ah,g0,g1,g2,q0,q1,q2];generalize hH:(σ.new [vO,vP,vC]).new [bV,bQ,bW]=H;have kH:Keep σ H:=by rw[<-hH];exact(zD _ _).new _
 have r1:H.rd σ.next 0 3=some [vO,vP,vC]:=by rw[<-hH];simp only[Z3,seval,-ah]
 have j4:H.rd1 σ.next 0=some vO:=by rw[<-hH];simp only[Z3,seval,-ah]
 have r2:H.rd (σ.next+1) 0 3=some [bV,bQ,bW]:=by rw[<-hH];simp only[Z3,seval,-ah]
 clear hH;simp only[Z3,seval,-ah,r1,r2,g0,g1,g2,q0,q1,q2];refine zIv hR sz bc jZ ?_
 by_cases hc:homC O P C O' P' C'=0
 rotate_left
 ·have e:homK O P C O' P' C'=0:=by unfold homK;rw[if_neg hc]
  rw[e]at hk
  simp only[Z3,seval,-ah,hc,decide_false];exact Gh.fin0 kH ⟨trivial,trivial,trivial⟩ hk
 have dC:homK O P C O' P' C'=(homN O P C O' P' C' (tpF (nEl O') O.length):Int):=by unfold homK;rw[if_pos hc]
 have DX:(zM O P C∧Cons O P C)∧(zM O' P' C'∧Cons O' P' C'):=by
  refine Classical.byContradiction fun h=>?_
  unfold homC at hc
  rw[if_neg h]at hc
  exact absurd hc (by decide)
 obtain⟨gp,gq⟩:=DX;have g:LG O P C:=⟨gp.1,gp.2⟩;have g':LG O' P' C':=⟨gq.1,gq.2⟩;have bJ:=g.s.le;have Bp:=zAF (zEE gq.1) O.length;have mq:=hR;obtain⟨⟨w0,a0,rfl⟩,jH,jJ⟩:=hR;rw[dC,hc]at hk
 simp only[Z3,seval,-ah,hc];refine zC (fun m vs h=>∃(k:Nat),k<=tpF (nEl O') O.length∧m=tpF (nEl O') O.length-k∧vs=[.ptr σ.next 0,.ptr (σ.next+1) 0,.int .i64 (homN O P C O' P' C' k:Nat),.int .i64 k]∧h=H) (tpF (nEl O') O.length) ?_ ?_
 ·exact⟨0,Nat.zero_le _,rfl,rfl,rfl⟩
 rintro m vs h ⟨k,hi,rfl,rfl,rfl⟩
 simp only[Z3,seval,-ah,r1,r2,g0,g1,g2,q0,q1,q2];refine zCK bJ mq gq.1 bc ?_;have uH:=zEq (O:=O) (P:=P) (C:=C) (O':=O') (P':=P') (C':=C') k;rcases Nat.lt_or_ge k (tpF (nEl O') O.length)with ai|aE
 rotate_left
 ·obtain rfl:k=tpF (nEl O') O.length:=by omega
  have n1:¬((tpF (nEl O') O.length:Nat):Int)<((tpF (nEl O') O.length:Nat):Int):=by omega
  simp only[Z3,seval,-ah,n1];exact Gh.fin0 kH ⟨trivial,trivial,trivial⟩ hk
 have ak:(k:Int)<((tpF (nEl O') O.length:Nat):Int):=by omega
 have wk:IntKind.i64.wrap ((k:Int)+1)=((k+1:Nat):Int):=by rw[wrap64 (by omega) (by omega)];omega
 have wn:IntKind.i64.wrap ((homN O P C O' P' C' k:Int)+1)=((homN O P C O' P' C' k+1:Nat):Int):=by rw[wrap64 (by omega) (by omega)];omega
 simp only[Z3,seval,-ah,ak,r1,r2,j4,g1,g2,q0,q1,q2,zL,zN];refine zHY gq.1 bc bJ (by omega) fun vD hD=>?_
 have dG:=hD.one;simp only[Z3,seval,-ah,ak,r1,r2,g1,g2,q0,q1,q2,dG,zL,zN];refine zBE gp.1 mq g' bc hD zA5 (zJR g'.s) fun t ht=>?_
 cases t with
 |true=>
  have e:homN O P C O' P' C' (k+1)=homN O P C O' P' C' k+1:=by rw[homN,if_pos (ht.1 rfl)]
  simp only[Z3,seval,-ah,wk,wn];exact⟨_,by omega,k+1,by omega,rfl,by rw[e]⟩
 |false=>
  have e:homN O P C O' P' C' (k+1)=homN O P C O' P' C' k:=by rw[homN,if_neg fun h=>by have:=ht.2 h;cases this];rfl
  simp only[Z3,seval,-ah,wk];exact⟨_,by omega,k+1,by omega,rfl,by rw[e]⟩
end Go.Proofs
