/- . -/
import Derived.Test.YtgkbfiilhocioaaGreatFP2
open Nat renaming le_refl→vM
open Int renaming reduceNatCast'->ae
set_option maxRecDepth 100000
set_option linter.unusedSimpArgs false
set_option linter.unusedVariables false
namespace Go.Proofs
open Go.Ab Go.Lie
variable{σ:PHeap}{K:PV->PHeap->Prop}{p:Int}{n:Nat}{W:V2}{B:V3}{vP vB:PV}{s:Nat}
structure SzR(W:V2)(B:V3):Prop where
 Wl:W.length<=1048576
 w:∀r∈W,r.length<=1048576
 Bl:B.length<=1048576
 b:∀q∈B,q.length<=1048576
 c:∀q∈B,∀r∈q,r.length<=1048576
def entOK(p:Int)(n k:Nat)(v:V1):Prop:=isVec v p n/\isZ (v.take k)
def rowOK(p:Int)(n:Nat)(W:V2)(B:V3)(i:Nat):Prop:=
 entOK p n (i+1) (W.getD i [])/\(B.getD i []).length=n-1-i/\∀k,k<n-1-i->entOK p n (i+k+2) ((B.getD i []).getD k [])
def ZY(p:Int)(W:V2)(B:V3):Prop:=
 isP p/\W.length<=6/\B.length=W.length/\ipow p W.length<=729/\∀i,i<W.length->rowOK p W.length W B i
theorem entOK.el{k:Nat}{v:V1}(h:entOK p n k v):El p n v/\∀j,j<k->at_ v j=0:=by
 refine⟨⟨by have:=h.1.1;omega,h.1.2⟩,λj hj=>?_⟩;rcases Nat.lt_or_ge j v.length with x|x
 .rw[at_eq x];exact h.2 _ (by rw[List.mem_take_iff_getElem];exact⟨j,by omega,rfl⟩)
 .exact at_ge x
theorem ZY.w(h:ZY p W B):OkW p W.length W:=by
 obtain⟨h1,h2,h3,h4,h5⟩:=h;refine⟨h1.bd,h2,rfl,λi hi=>?_⟩;obtain⟨a,b⟩:=(h5 i hi).1.el;rw[qL hi]at a b;exact⟨a.1,a.2,λj hj=>b j (by omega)⟩
theorem ZY.b(h:ZY p W B):OkB p W.length B:=by
 obtain⟨h1,h2,h3,h4,h5⟩:=h;have hr:∀i (h:i<B.length),B[i].length=W.length-1-i:=λi hi=>by have:=(h5 i (by omega)).2.1;rwa[zO hi]at this
 refine⟨h3,hr,λi hi k hk=>?_⟩;obtain⟨a,b⟩:=((h5 i (by omega)).2.2 k (by rw[<-hr i hi];exact hk)).el;rw[zO hi,zO hk]at a b;exact⟨a,λj hj=>b j (by omega)⟩
theorem zAE{l:Nat}{w:Bool}{a:AV}{xs:V1}(hs:PtrR σ s p vP vB)(hP:FII vP W)(hl:l=xs.length)(hb:xs.length<=1048576)(hp:isP p)(hk:K (.bool (decide (isVec xs p W.length))) σ):
  zA Tryz.prog 116 [.ptr s 0,.fz w a l (pis xs)] σ K:=by
 have dA:=hp.bd;obtain⟨w1,a1,rP,rfl,hP⟩:=hP;refine zD mix Tryz.func116 ?_
 conv=>arg 2;cbv
 refine zF rfl ?_;simp only[Z3,seval,-ae,zI hs.obj];refine zJy hl (by omega) (by omega) (by omega) ?_;simp only[Z3,seval,-ae];exact hk
theorem zHK(hR:IsR vP vB W B)(sz:SzR W B)(hk:∀t:Bool,(t=true↔ZY p W B)->K (.bool t) σ):zA Tryz.prog 229 [.agg [.int .i64 p,vP,vB]] σ K:=by
 have Fl:=hR.P;have MT:=hR.B;obtain⟨⟨w1,a1,rP,rfl,hP⟩,⟨w3,a3,rB,rfl,hB⟩⟩:=hR;refine zA.gh ?_;have fin:∀{t:Bool} {σ':PHeap},(t=true↔ZY p W B)->Keep σ σ'->Gh σ K (.bool t) σ':=λh k=>Gh.fin0 k trivial (hk _ h);have no:∀{σ':PHeap},¬ZY p W B->Keep σ σ'->Gh σ K (.bool false) σ':=λh k=>fin ⟨λx=>(by cases x),λx=>absurd x h⟩ k;have aq:=zC σ [.int .i64 p,.fz w1 a1 W.length rP,.fz w3 a3 B.length rB];have ji:PtrR (σ.new [.int .i64 p,.fz w1 a1 W.length rP,.fz w3 a3 B.length rB]) σ.next p (.fz w1 a1 W.length rP) (.fz w3 a3 B.length rB):=⟨by simp only[Z3,seval,-ae],by simp only[Z3,seval,-ae]⟩
 refine zD mix Tryz.func229 ?_
 conv=>arg 2;cbv
 refine zF rfl ?_;by_cases h6:W.length<=6
 .have fm:¬(6:Int)<(W.length:Int):=by omega
  by_cases rV:B.length=W.length
  .have iR:(B.length:Int)=(W.length:Int):=by omega
   simp only[Z3,seval,-ae,fm,iR];refine zBq ?_;by_cases hp:isP p
   .simp only[Z3,seval,-ae,hp];refine zBk hp.bd h6 ?_;by_cases ho:ipow p W.length<=729
    .have cM:¬(729:Int)<ipow p W.length:=by omega
     simp only[Z3,seval,-ae,cM];refine zG (λm vs h'=>∃i:Nat,i<=W.length/\m=W.length-i/\vs=[.ptr σ.next 0,.int .i64 W.length,.fz w1 a1 W.length rP,.int .i64 W.length,.int .i64 i]/\h'=σ.new [.int .i64 p,.fz w1 a1 W.length rP,.fz w3 a3 B.length rB]/\∀j,j<i->rowOK p W.length W B j) W.length ?_ ?_
     .exact⟨0,by omega,by omega,rfl,rfl,λj hj=>by omega⟩
     .rintro m vs h' ⟨i,hi,rfl,rfl,rfl,aj⟩
      simp only[Z3,seval,-ae];refine iteI (λah=>?_) λaG=>?_
      .obtain⟨w4,a4,hr⟩:=hP.rowI ah;have dw:i<B.length:=by omega
       obtain⟨w5,a5,rs,bD,du⟩:=hB.rowL dw;have mO:=sz.w _ (List.getElem_mem ah);have jM:=sz.b _ (List.getElem_mem dw);have bad:(isVec W[i] p W.length->isZ (W[i].take (i+1))->B[i].length=W.length-1-i->(∀k (h:k<B[i].length),entOK p W.length (i+k+2) B[i][k])->False)->¬ZY p W B:=λhb eH=>by
        obtain⟨⟨q1,q2⟩,q3,q4⟩:=eH.2.2.2.2 i ah;rw[qL ah]at q1 q2;rw[zO dw]at q3;refine hb q1 q2 q3 λk h=>?_
        have:=q4 k (by omega)
        rwa[zO dw,zO h]at this
       simp only[Z3,seval,-ae,ah,hr];refine zAE ji Fl rfl mO hp ?_;by_cases hv:isVec W[i] p W.length
       .have hle:((i:Int)+1<=(W[i].length:Int)):=by have:=hv.1;omega
        have yq:(0:Int)<=((i+1:Nat):Int):=by omega
        have kO:((i+1:Nat):Int)<=(W[i].length:Int):=by omega
        simp only[Z3,seval,-ae,hv,wrapS ah (by omega:W.length<=4611686018427387904),kO,zEZ,Nat.sub_zero];refine Z8 (by simp;omega) (by simp;omega) ?_;by_cases hz:isZ (W[i].take (i+1))
        .have e1:IntKind.i64.wrap ((W.length:Int)-1)=(W.length:Int)-1:=wrap64 (by omega) (by omega);have e2:IntKind.i64.wrap ((W.length:Int)-1-(i:Int))=(W.length:Int)-1-(i:Int):=wrap64 (by omega) (by omega);by_cases hlen:B[i].length=W.length-1-i
         .have aY:(B[i].length:Int)=(W.length:Int)-1-(i:Int):=by omega
          simp only[Z3,seval,-ae,hz,ah,dw,bD,e1,e2,eq_true aY];refine zG (λm vs h'=>∃k:Nat,k<=B[i].length/\m=B[i].length-k/\vs=[.ptr σ.next 0,.int .i64 W.length,.int .i64 i,.fz w1 a1 W.length rP,.int .i64 W.length,.int .i64 i,.fz w5 a5 B[i].length rs,.int .i64 B[i].length,.int .i64 k]/\
           h'=σ.new [.int .i64 p,.fz w1 a1 W.length rP,.fz w3 a3 B.length rB]/\∀j (h:j<B[i].length),j<k->entOK p W.length (i+j+2) B[i][j]) B[i].length ?_ ?_
          .exact⟨0,by omega,by omega,rfl,rfl,λj h hj=>by omega⟩
          .rintro m vs h' ⟨k,bZ,rfl,rfl,rfl,aR⟩
           simp only[Z3,seval,-ae];refine iteI (λaD=>?_) λaG=>?_
           .obtain⟨w6,a6,cw⟩:=du.rowI aD;have cI:=sz.c _ (List.getElem_mem dw) _ (List.getElem_mem aD);simp only[Z3,seval,-ae,aD,cw];refine zAE ji Fl rfl cI hp ?_;by_cases bW:isVec B[i][k] p W.length
            .have e3:IntKind.i64.wrap ((i:Int)+(k:Int))=((i+k:Nat):Int):=wrapA (by omega);have e4:IntKind.i64.wrap (((i+k:Nat):Int)+2)=((i+k+2:Nat):Int):=wrap64 (by omega) (by omega);have qt:((i+(k+2):Nat):Int)<=(B[i][k].length:Int):=by have:=bW.1;omega
             simp only[Z3,seval,-ae,bW,e3,e4,qt,zEZ,Nat.sub_zero];refine Z8 (by simp;omega) (by simp;omega) ?_;by_cases cf:isZ (B[i][k].take (i+(k+2)))
             .simp only[Z3,seval,-ae,cf,wrapS aD (by omega:B[i].length<=4611686018427387904)];refine⟨_,by omega,k+1,by omega,rfl,rfl,λj h hj=>?_⟩;by_cases e:j=k
              .subst e;exact⟨bW,cf⟩
              .exact aR j h (by omega)
             .simp only[Z3,seval,-ae,cf];exact no (bad λ_ _ _ q=>cf (q k aD).2) aq
            .simp only[Z3,seval,-ae,bW];exact no (bad λ_ _ _ q=>bW (q k aD).1) aq
           .simp only[Z3,seval,-ae,wrapS ah (by omega:W.length<=4611686018427387904)];refine⟨_,by omega,i+1,by omega,rfl,rfl,λj hj=>?_⟩;by_cases e:j=i
            .subst e;refine⟨by rw[qL ah];exact⟨hv,hz⟩,by rw[zO dw];exact hlen,λt ht=>?_⟩;rw[zO dw,zO (by omega:t<B[j].length)];exact aR t (by omega) (by omega)
            .exact aj j (by omega)
         .have aY:¬(B[i].length:Int)=(W.length:Int)-1-(i:Int):=by omega
          simp only[Z3,seval,-ae,hz,ah,dw,bD,e1,e2,aY];exact no (bad λ_ _ q _=>hlen q) aq
        .simp only[Z3,seval,-ae,hz];exact no (bad λ_ q _ _=>hz q) aq
       .simp only[Z3,seval,-ae,hv];exact no (bad λq _ _ _=>hv q) aq
      .exact fin ⟨λ_=>⟨hp,h6,rV,ho,λj hj=>aj j (by omega)⟩,λ_=>rfl⟩ aq
    .have cM:(729:Int)<ipow p W.length:=by omega
     simp only[Z3,seval,-ae,cM];exact no (λh=>ho h.2.2.2.1) aq
   .simp only[Z3,seval,-ae,hp];exact no (λh=>hp h.1) aq
  .have iR:¬(B.length:Int)=(W.length:Int):=by omega
   simp only[Z3,seval,-ae,fm,iR];exact no (λh=>rV h.2.2.1) aq
 .have fm:(6:Int)<(W.length:Int):=by omega
  simp only[Z3,seval,-ae,fm];exact no (λh=>h6 h.2.1) aq
theorem zJn(hR:IsR vP vB W B)(sz:SzR W B)(hk:∀t:Bool,(t=true↔ZY p W B)->K (.bool t) σ):zA Tryz.prog 222 [.agg [.int .i64 p,vP,vB]] σ K:=by
 obtain⟨⟨w1,a1,rP,rfl,hP⟩,⟨w3,a3,rB,rfl,hB⟩⟩:=hR;refine zA.gh ?_;have fin:∀{t:Bool} {σ':PHeap},(t=true↔ZY p W B)->Keep σ σ'->Gh σ K (.bool t) σ':=λh k=>Gh.fin0 k trivial (hk _ h);have no:∀{σ':PHeap},¬ZY p W B->Keep σ σ'->Gh σ K (.bool false) σ':=λh k=>fin ⟨λx=>(by cases x),λx=>absurd x h⟩ k;have aq:=zC σ [.int .i64 p,.fz w1 a1 W.length rP,.fz w3 a3 B.length rB];refine zN mix Tryz.func222 cf222 rfl ?_;dsimp only[if222,eI,qD,eD,mI0,kI0,tI0,lI0,fI0,xI0,bI0,cI0,nI0,sI0,C1,C3,mD0,lD0,fD0,xD0,I0,G0,gm0,oI0,R0,S0];simp only[Z3,seval,-ae];refine zEI ?_;by_cases hp:isP p;rotate_left
 .simp only[Z3,seval,-ae,hp];exact no (λh=>hp h.1) aq
 by_cases h6:W.length<=6;rotate_left
 .have fm:(6:Int)<(W.length:Int):=by omega
  simp only[Z3,seval,-ae,hp,fm];exact no (λh=>h6 h.2.1) aq
 have fm:¬(6:Int)<(W.length:Int):=by omega
 by_cases rV:B.length=W.length;rotate_left
 .have iR:¬(B.length:Int)=(W.length:Int):=by omega
  simp only[Z3,seval,-ae,hp,fm,iR];exact no (λh=>rV h.2.2.1) aq
 have iR:(B.length:Int)=(W.length:Int):=by omega
 have dA:=hp.bd;simp only[Z3,seval,-ae,hp,fm,eq_true iR];refine zCd hp.bd h6 λo k1 k2 k3 k4=>?_;by_cases ho:ipow p W.length<=729;rotate_left
 .have cM:(729:Int)<o:=by rcases Int.lt_or_le 729 o with x|x;exact x;exact absurd (k1.1 x) ho
  simp only[Z3,seval,-ae,cM];exact no (λh=>ho h.2.2.2.1) aq
 have cM:¬(729:Int)<o:=by have:=k1.2 ho;omega
 simp only[Z3,seval,-ae,cM];refine zG (λm vs h'=>∃i:Nat,i<=W.length/\m=W.length-i/\vs=[.ptr σ.next 0,.int .i64 W.length,.int .i64 i]/\h'=σ.new [.int .i64 p,.fz w1 a1 W.length rP,.fz w3 a3 B.length rB]/\∀j,j<i->rowOK p W.length W B j) W.length ?_ ?_
 .exact⟨0,by omega,by omega,rfl,rfl,λj hj=>by omega⟩
 .rintro m vs h' ⟨i,hi,rfl,rfl,rfl,aj⟩
  simp only[Z3,seval,-ae];refine iteI (λah=>?_) λaG=>?_;rotate_left
  .exact fin ⟨λ_=>⟨hp,h6,rV,ho,λj hj=>aj j (by omega)⟩,λ_=>rfl⟩ aq
  obtain⟨w4,a4,hr⟩:=hP.rowI ah;have dw:i<B.length:=by omega
  obtain⟨w5,a5,rs,bD,du⟩:=hB.rowL dw;have mO:=sz.w _ (List.getElem_mem ah);have jM:=sz.b _ (List.getElem_mem dw);have bad:(isVec W[i] p W.length->isZ (W[i].take (i+1))->B[i].length=W.length-1-i->(∀k (h:k<B[i].length),entOK p W.length (i+k+2) B[i][k])->False)->¬ZY p W B:=λhb eH=>by
   obtain⟨⟨q1,q2⟩,q3,q4⟩:=eH.2.2.2.2 i ah;rw[qL ah]at q1 q2;rw[zO dw]at q3;refine hb q1 q2 q3 λk h=>?_
   have:=q4 k (by omega)
   rwa[zO dw,zO h]at this
  simp only[Z3,seval,-ae,ah,hr];refine zEf rfl (by omega) (by omega) (by omega) ?_;by_cases hv:isVec W[i] p W.length;rotate_left
  .simp only[Z3,seval,-ae,hv];exact no (bad λq _ _ _=>hv q) aq
  have eF:W[i].length=W.length:=by have:=hv.1;omega
  simp only[Z3,seval,-ae,hv,ah,hr];refine zEG rfl (by omega) (by omega) ?_;by_cases hz:isZ (W[i].take (i+1));rotate_left
  .simp only[Z3,seval,-ae,hz];exact no (bad λ_ q _ _=>hz q) aq
  have e1:IntKind.i64.wrap ((W.length:Int)-1)=(W.length:Int)-1:=wrap64 (by omega) (by omega);have e2:IntKind.i64.wrap ((W.length:Int)-1-(i:Int))=(W.length:Int)-1-(i:Int):=wrap64 (by omega) (by omega);by_cases hlen:B[i].length=W.length-1-i;rotate_left
  .have aY:¬(B[i].length:Int)=(W.length:Int)-1-(i:Int):=by omega
   simp only[Z3,seval,-ae,hz,ah,dw,bD,e1,e2,aY];exact no (bad λ_ _ q _=>hlen q) aq
  have aY:(B[i].length:Int)=(W.length:Int)-1-(i:Int):=by omega
  simp only[Z3,seval,-ae,hz,ah,dw,bD,e1,e2,eq_true aY,wrapS ah (by omega:W.length<=4611686018427387904)];refine zG (λm vs h'=>∃k:Nat,k<=B[i].length/\m=B[i].length-k/\vs=[.ptr σ.next 0,.int .i64 W.length,.int .i64 i,.int .i64 ((i+(1+k):Nat):Int)]/\
   h'=σ.new [.int .i64 p,.fz w1 a1 W.length rP,.fz w3 a3 B.length rB]/\∀j (h:j<B[i].length),j<k->entOK p W.length (i+j+2) B[i][j]) B[i].length ?_ ?_
  .exact⟨0,by omega,by omega,rfl,rfl,λj h hj=>by omega⟩
  .rintro m vs h' ⟨k,bZ,rfl,rfl,rfl,aR⟩
   simp only[Z3,seval,-ae];refine iteI (λhj=>?_) λaG=>?_;rotate_left
   .simp only[Z3,seval,-ae,wrapS ah (by omega:W.length<=4611686018427387904)];refine⟨_,by omega,i+1,by omega,rfl,rfl,λj hj=>?_⟩;by_cases e:j=i
    .subst e;refine⟨by rw[qL ah];exact⟨hv,hz⟩,by rw[zO dw];exact hlen,λt ht=>?_⟩;rw[zO dw,zO (by omega:t<B[j].length)];exact aR t (by omega) (by omega)
    .exact aj j (by omega)
   have aD:k<B[i].length:=by omega
   obtain⟨w6,a6,cw⟩:=du.rowI aD;have cI:=sz.c _ (List.getElem_mem dw) _ (List.getElem_mem aD);have e3:IntKind.i64.wrap (((i+(1+k):Nat):Int)-(i:Int))=((1+k:Nat):Int):=by rw[wrap64 (by omega) (by omega)];omega
   have e4:IntKind.i64.wrap (((1+k:Nat):Int)-1)=(k:Int):=by rw[wrap64 (by omega) (by omega)];omega
   simp only[Z3,seval,-ae,dw,bD,e3,e4,aD,cw];refine zEf rfl (by omega) (by omega) (by omega) ?_;by_cases bW:isVec B[i][k] p W.length;rotate_left
   .simp only[Z3,seval,-ae,bW];exact no (bad λ_ _ _ q=>bW (q k aD).1) aq
   have Ib:B[i][k].length=W.length:=by have:=bW.1;omega
   simp only[Z3,seval,-ae,bW];refine zEG rfl (by omega) (by omega) ?_;have ek:i+(1+k)+1=i+(k+2):=by omega
   rw[ek];by_cases cf:isZ (B[i][k].take (i+(k+2)));rotate_left
   .simp only[Z3,seval,-ae,cf];exact no (bad λ_ _ _ q=>cf (q k aD).2) aq
   have e5:IntKind.i64.wrap (((i+(1+k):Nat):Int)+1)=((i+(1+(k+1)):Nat):Int):=by rw[wrap64 (by omega) (by omega)];omega
   simp only[Z3,seval,-ae,cf,e5];refine⟨_,by omega,k+1,by omega,rfl,rfl,λj h hj=>?_⟩;by_cases e:j=k
   .subst e;exact⟨bW,cf⟩
   .exact aR j h (by omega)
abbrev br(p:Int)(W:V2)(B:V3)(n:Nat)(a b:V1):V1:=norm p W (bsum B a b n)
abbrev ladd(p:Int)(W:V2)(a b:V1):V1:=norm p W (lmix 1 a 1 b)
abbrev lmul(p:Int)(W:V2)(k:Int)(a:V1):V1:=norm p W (lmix k a 0 a)
theorem br_el(o:OkW p n W)(q:OkB p n B){a b:V1}:El p n (br p W B n a b):=zGF o (qm q)
theorem zK(o:OkW p n W){k m:Int}{a b:V1}(ha:El p n a)(hb:El p n b):El p n (norm p W (lmix k a m b)):=zGF o (by rw[zT (ha.1.trans hb.1.symm)];exact ha.1)
theorem zV(hp:okp p){k:Nat}(hk:k<n):El p n (unitL n k):=⟨qH n k,λx hx=>by
 have:=hp.1
 rcases List.mem_or_eq_of_mem_set hx with h|h
 .rw[List.eq_of_mem_replicate h];omega
 .omega⟩
def F1(p:Int)(W:V2)(B:V3)(n i j:Nat):Prop:=lmul p W p (br p W B n (unitL n i) (unitL n j))=br p W B n (W.getD i []) (unitL n j)
def F2(p:Int)(W:V2)(B:V3)(n i j k:Nat):Prop:=
 isZ (ladd p W (ladd p W (br p W B n (br p W B n (unitL n i) (unitL n j)) (unitL n k)) (br p W B n (br p W B n (unitL n j) (unitL n k)) (unitL n i))) (br p W B n (br p W B n (unitL n k) (unitL n i)) (unitL n j)))
def qE(p:Int)(W:V2)(B:V3)(n:Nat):Prop:=(∀i j,i<n->j<n->F1 p W B n i j)/\∀i j k,i<j->j<k->k<n->F2 p W B n i j k
theorem qB{k:Nat}(hn:n<=1048576)(bF:k<n)(hk:∀a,K (.fz true a n (pis (unitL n k))) σ):zA Tryz.prog 159 [.int .i64 n,.int .i64 k] σ K:=
 zA.fz (λK'=>zG1 hn bF) (zL _ _) λo cap=>hk _
theorem qo{l l':Nat}{w w':Bool}{av bv:AV}{a b:V1}(hs:PtrR σ s p vP vB)(hR:IsR vP vB W B)(o:OkW p n W)(q:OkB p n B)(ha:El p n a)(hb:El p n b)(hl:l=a.length)(bu:l'=b.length)
  (hk:∀v,K (.fz true v n (pis (br p W B n a b))) σ):zA Tryz.prog 162 [.ptr s 0,.fz w av l (pis a),.fz w' bv l' (pis b)] σ K:=
 zA.fzN (br_el o q).1 (λK'=>zLv hs hR o q ha hb hl bu) hk
theorem Q5{l l':Nat}{w w':Bool}{av bv:AV}{a b:V1}(hs:PtrR σ s p vP vB)(hP:FII vP W)(o:OkW p n W)(ha:El p n a)(hb:El p n b)(hl:l=a.length)(bu:l'=b.length)
  (hk:∀v,K (.fz true v n (pis (ladd p W a b))) σ):zA Tryz.prog 161 [.ptr s 0,.fz w av l (pis a),.fz w' bv l' (pis b)] σ K:=
 zA.fzN (zK o ha hb).1 (λK'=>zDZ hs hP o ha hb hl bu) hk
theorem QJ{l:Nat}{w:Bool}{av:AV}{k:Int}{a:V1}(hs:PtrR σ s p vP vB)(hP:FII vP W)(o:OkW p n W)(ha:El p n a)(hl:l=a.length)(kS:-1000000000<=k/\k<=1000000000)
  (hk:∀v,K (.fz true v n (pis (lmul p W k a))) σ):zA Tryz.prog 191 [.ptr s 0,.int .i64 k,.fz w av l (pis a)] σ K:=
 zA.fzN (zK o ha ha).1 (λK'=>zBs hs hP o ha hl kS) hk
theorem zMI(o:OkW p n W){i:Nat}(hi:i<W.length):El p n W[i]:=⟨(o.row i hi).1,(o.row i hi).2.1⟩
theorem zJe(hs:PtrR σ s p vP vB)(hR:IsR vP vB W B)(o:OkW p n W)(q:OkB p n B)(hk:∀kind i j k:Int,(kind=0↔qE p W B n)->K (.tup [.int .i64 kind,.int .i64 i,.int .i64 j,.int .i64 k]) σ):zA Tryz.prog 230 [.ptr s 0] σ K:=by
 have aN:=o.le;have eV:=o.len;have hp:=o.pr;have aJ:=hR;have mG:=hR.P;obtain⟨⟨w1,a1,rP,rfl,hP⟩,⟨w3,a3,rB,rfl,hB⟩⟩:=hR;have sL:-1000000000<=p/\p<=1000000000:=by unfold okp at hp;omega
 subst eV;refine zN mix Tryz.func230 cf230 rfl ?_;dsimp only[if230,qD,eD,mI0,kI0,lI0,fI0,bI0,cI0,nI0,sI0,pI0,C1,C2,C3,mD0,lD0,fD0,xD0,pD0,R0,S0];simp only[Z3,seval,-ae,zI hs.obj];refine zG (λm vs h'=>∃i:Nat,i<=W.length/\m=W.length-i/\vs=[.ptr s 0,.int .i64 W.length,.int .i64 W.length,.int .i64 i]/\σ=h'/\∀i' j',i'<i->j'<W.length->F1 p W B W.length i' j') W.length ?_ ?_
 .exact⟨0,by omega,by omega,rfl,rfl,λi' j' h=>by omega⟩
 rintro m vs h' ⟨i,hi,rfl,rfl,rfl,aj⟩
 simp only[Z3,seval,-ae];refine iteI (λah=>?_) λaG=>?_
 .refine zG (λm vs h'=>∃j:Nat,j<=W.length/\m=W.length-j/\vs=[.ptr s 0,.int .i64 W.length,.int .i64 i,.int .i64 W.length,.int .i64 i,.int .i64 W.length,.int .i64 j]/\σ=h'/\∀j',j'<j->F1 p W B W.length i j') W.length ?_ ?_
  .exact⟨0,by omega,by omega,rfl,rfl,λj' h=>by omega⟩
  rintro m vs h' ⟨j,hj,rfl,rfl,rfl,aR⟩
  simp only[Z3,seval,-ae];refine iteI (λaD=>?_) λaG=>?_
  .have ei:=zV hp ah;have ej:=zV hp aD;have eb:=br_el o q (a:=unitL W.length i) (b:=unitL W.length j);obtain⟨w4,a4,hr⟩:=hP.rowI ah;have er:=zMI o ah;refine qB (by omega) ah λv1=>?_;simp only[Z3,seval,-ae];refine qB (by omega) aD λv2=>?_;simp only[Z3,seval,-ae,zI hs.obj,ah,hr];refine qo hs aJ o q ei ej (qH _ _).symm (qH _ _).symm λv3=>?_;simp only[Z3,seval,-ae,zI hs.obj,ah,hr];refine QJ hs mG o eb eb.1.symm sL λv4=>?_;simp only[Z3,seval,-ae,zI hs.obj,ah,hr];refine qo hs aJ o q er ej rfl (qH _ _).symm λv5=>?_;simp only[Z3,seval,-ae];refine zAZ (zK o eb eb).1.symm (br_el o q).1.symm (by rw[(zK o eb eb).1];omega) ?_;have hF:(lmul p W p (br p W B W.length (unitL W.length i) (unitL W.length j))=br p W B W.length W[i] (unitL W.length j))↔F1 p W B W.length i j:=by unfold F1;rw[qL ah]
   by_cases hf:lmul p W p (br p W B W.length (unitL W.length i) (unitL W.length j))=br p W B W.length W[i] (unitL W.length j)
   .simp only[Z3,seval,-ae,eq_true hf,wrapS aD (by omega:W.length<=4611686018427387904)];refine⟨_,by omega,j+1,by omega,rfl,rfl,λj' h=>?_⟩;by_cases e:j'=j
    .subst e;exact hF.1 hf
    .exact aR j' (by omega)
   .simp only[Z3,seval,-ae,hf];exact hk _ _ _ _ ⟨λx=>by omega,λx=>absurd (hF.2 (x.1 i j ah aD)) hf⟩
  .simp only[Z3,seval,-ae,wrapS ah (by omega:W.length<=4611686018427387904)];refine⟨_,by omega,i+1,by omega,rfl,rfl,λi' j' h h'=>?_⟩;by_cases e:i'=i
   .subst e;exact aR j' (by omega)
   .exact aj i' j' (by omega) h'
 have aj:∀i j,i<W.length->j<W.length->F1 p W B W.length i j:=λi' j' h h'=>aj i' j' (by omega) h';clear aG hi;refine zG (λm vs h'=>∃i:Nat,i<=W.length/\m=W.length-i/\vs=[.ptr s 0,.int .i64 W.length,.int .i64 W.length,.int .i64 i]/\σ=h'/\∀i' j k,i'<i->i'<j->j<k->k<W.length->F2 p W B W.length i' j k) W.length ?_ ?_
 .exact⟨0,by omega,by omega,rfl,rfl,λi' j k h=>by omega⟩
 rintro m vs h' ⟨i,hi,rfl,rfl,rfl,lG⟩
 simp only[Z3,seval,-ae];refine iteI (λah=>?_) λaG=>?_;rotate_left
 .exact hk _ _ _ _ ⟨λ_=>⟨aj,λi j k h1 h2 h3=>lG i j k (by omega) h1 h2 h3⟩,λ_=>rfl⟩
 simp only[Z3,seval,-ae,wrapS ah (by omega:W.length<=4611686018427387904)];refine zG (λm vs h'=>∃j:Nat,i+1<=j/\j<=W.length/\m=W.length-j/\vs=[.ptr s 0,.int .i64 W.length,.int .i64 i,.int .i64 j,.int .i64 W.length,.int .i64 i]/\σ=h'/\∀j' k,i<j'->j'<j->j'<k->k<W.length->F2 p W B W.length i j' k) (W.length-(i+1)) ?_ ?_
 .exact⟨i+1,by omega,by omega,by omega,rfl,rfl,λj' k h1 h2=>by omega⟩
 rintro m vs h' ⟨j,kV,hj,rfl,rfl,rfl,lF⟩
 simp only[Z3,seval,-ae];refine iteI (λaD=>?_) λaG=>?_;rotate_left
 .simp only[Z3,seval,-ae,wrapS ah (by omega:W.length<=4611686018427387904)];refine⟨_,by omega,i+1,by omega,rfl,rfl,λi' j' k h1 h2 h3 h4=>?_⟩;by_cases e:i'=i
  .subst e;exact lF j' k h2 (by omega) h3 h4
  .exact lG i' j' k (by omega) h2 h3 h4
 simp only[Z3,seval,-ae,wrapS aD (by omega:W.length<=4611686018427387904)];refine zG (λm vs h'=>∃k:Nat,j+1<=k/\k<=W.length/\m=W.length-k/\vs=[.ptr s 0,.int .i64 W.length,.int .i64 i,.int .i64 j,.int .i64 k,.int .i64 W.length,.int .i64 i]/\σ=h'/\∀k',j<k'->k'<k->F2 p W B W.length i j k') (W.length-(j+1)) ?_ ?_
 .exact⟨j+1,by omega,by omega,by omega,rfl,rfl,λk' h1 h2=>by omega⟩
 rintro m vs h' ⟨k,sS,bZ,rfl,rfl,rfl,lE⟩
 simp only[Z3,seval,-ae];refine iteI (λbn=>?_) λaG=>?_;rotate_left
 .simp only[Z3,seval,-ae,wrapS aD (by omega:W.length<=4611686018427387904)];refine⟨_,by omega,j+1,by omega,by omega,rfl,rfl,λj' k' h1 h2 h3 h4=>?_⟩;by_cases e:j'=j
  .subst e;exact lE k' h3 (by omega)
  .exact lF j' k' h1 (by omega) h3 h4
 have ei:=zV hp ah;have ej:=zV hp aD;have ek:=zV hp bn;have bb:∀a b,El p W.length (br p W B W.length a b):=λa b=>br_el o q;refine qB (by omega) ah λv1=>?_;simp only[Z3,seval,-ae];refine qB (by omega) aD λv2=>?_;simp only[Z3,seval,-ae];refine qB (by omega) bn λv3=>?_;simp only[Z3,seval,-ae];refine qo hs aJ o q ei ej ei.1.symm ej.1.symm λv4=>?_;simp only[Z3,seval,-ae];refine qo hs aJ o q (bb _ _) ek (bb _ _).1.symm ek.1.symm λv5=>?_;simp only[Z3,seval,-ae];refine qo hs aJ o q ej ek ej.1.symm ek.1.symm λv6=>?_;simp only[Z3,seval,-ae];refine qo hs aJ o q (bb _ _) ei (bb _ _).1.symm ei.1.symm λv7=>?_;simp only[Z3,seval,-ae];refine Q5 hs mG o (bb _ _) (bb _ _) (bb _ _).1.symm (bb _ _).1.symm λv8=>?_;have e8:=zK o (k:=1) (m:=1) (bb (br p W B W.length (unitL W.length i) (unitL W.length j)) (unitL W.length k)) (bb (br p W B W.length (unitL W.length j) (unitL W.length k)) (unitL W.length i));simp only[Z3,seval,-ae];refine qo hs aJ o q ek ei ek.1.symm ei.1.symm λv9=>?_;simp only[Z3,seval,-ae];refine qo hs aJ o q (bb _ _) ej (bb _ _).1.symm ej.1.symm λv10=>?_;simp only[Z3,seval,-ae];refine Q5 hs mG o e8 (bb _ _) e8.1.symm (bb _ _).1.symm λv11=>?_;have xG:=zK o (k:=1) (m:=1) e8 (bb (br p W B W.length (unitL W.length k) (unitL W.length i)) (unitL W.length j));simp only[Z3,seval,-ae];refine Z8 xG.1.symm (by rw[xG.1];omega) ?_;have hF:isZ (norm p W (lmix 1 (ladd p W (br p W B W.length (br p W B W.length (unitL W.length i) (unitL W.length j)) (unitL W.length k)) (br p W B W.length (br p W B W.length (unitL W.length j) (unitL W.length k)) (unitL W.length i))) 1 (br p W B W.length (br p W B W.length (unitL W.length k) (unitL W.length i)) (unitL W.length j))))↔F2 p W B W.length i j k:=Iff.rfl;by_cases hf:isZ (norm p W (lmix 1 (ladd p W (br p W B W.length (br p W B W.length (unitL W.length i) (unitL W.length j)) (unitL W.length k)) (br p W B W.length (br p W B W.length (unitL W.length j) (unitL W.length k)) (unitL W.length i))) 1 (br p W B W.length (br p W B W.length (unitL W.length k) (unitL W.length i)) (unitL W.length j))))
 .simp only[Z3,seval,-ae,eq_true hf,wrapS bn (by omega:W.length<=4611686018427387904)];refine⟨_,by omega,k+1,by omega,by omega,rfl,rfl,λk' h1 h2=>?_⟩;by_cases e:k'=k
  .subst e;exact hF.1 hf
  .exact lE k' h1 (by omega)
 .simp only[Z3,seval,-ae,hf];exact hk _ _ _ _ ⟨λx=>by omega,λx=>absurd (hF.2 (x.2 i j k (by omega) (by omega) bn)) hf⟩
theorem zJp(hR:IsR vP vB W B)(o:OkW p n W)(q:OkB p n B)(hk:∀kind i j k:Int,(kind=0↔qE p W B n)->K (.tup [.int .i64 kind,.int .i64 i,.int .i64 j,.int .i64 k]) σ):zA Tryz.prog 223 [.agg [.int .i64 p,vP,vB]] σ K:=by
 have aN:=o.le;have eV:=o.len;have hp:=o.pr;have aJ:=hR;have mG:=hR.P;obtain⟨⟨w1,a1,rP,rfl,hP⟩,⟨w3,a3,rB,rfl,hB⟩⟩:=hR;have sL:-1000000000<=p/\p<=1000000000:=by unfold okp at hp;omega
 subst eV;refine zA.gh ?_;have aq:=zC σ [.int .i64 p,.fz w1 a1 W.length rP,.fz w3 a3 B.length rB];have fin:∀kind i j k:Int,(kind=0↔qE p W B W.length)->Gh σ K (.tup [.int .i64 kind,.int .i64 i,.int .i64 j,.int .i64 k]) (σ.new [.int .i64 p,.fz w1 a1 W.length rP,.fz w3 a3 B.length rB]):=λkind i j k h=>Gh.fin0 aq ⟨trivial,trivial,trivial,trivial,trivial⟩ (hk kind i j k h);refine zN mix Tryz.func223 cf223 rfl ?_;dsimp only[if223,eI,qD,eD,mI0,kI0,lI0,fI0,bI0,cI0,sI0,mD0,lD0,fD0,xD0,I0,R0,S0];simp only[Z3,seval,-ae];refine zG (λm vs h'=>∃i:Nat,i<=W.length/\m=W.length-i/\vs=[.ptr σ.next 0,.int .i64 W.length,.int .i64 i]/\σ.new [.int .i64 p,.fz w1 a1 W.length rP,.fz w3 a3 B.length rB]=h'/\∀i' j',i'<i->j'<W.length->F1 p W B W.length i' j') W.length ?_ ?_
 .exact⟨0,by omega,by omega,rfl,rfl,λi' j' h=>by omega⟩
 rintro m vs h' ⟨i,hi,rfl,rfl,rfl,aj⟩
 simp only[Z3,seval,-ae];refine iteI (λah=>?_) λaG=>?_
 .refine zG (λm vs h'=>∃j:Nat,j<=W.length/\m=W.length-j/\vs=[.ptr σ.next 0,.int .i64 W.length,.int .i64 i,.int .i64 j]/\σ.new [.int .i64 p,.fz w1 a1 W.length rP,.fz w3 a3 B.length rB]=h'/\∀j',j'<j->F1 p W B W.length i j') W.length ?_ ?_
  .exact⟨0,by omega,by omega,rfl,rfl,λj' h=>by omega⟩
  rintro m vs h' ⟨j,hj,rfl,rfl,rfl,aR⟩
  simp only[Z3,seval,-ae];refine iteI (λaD=>?_) λaG=>?_
  .have ei:=zV hp ah;have ej:=zV hp aD;have eb:=br_el o q (a:=unitL W.length i) (b:=unitL W.length j);obtain⟨w4,a4,hr⟩:=hP.rowI ah;have er:=zMI o ah;refine ZI aJ rfl (by omega) ah λv1=>?_;simp only[Z3,seval,-ae];refine ZI aJ rfl (by omega) aD λv2=>?_;simp only[Z3,seval,-ae,ah,hr];refine qF aJ o q ei ej (qH _ _).symm (qH _ _).symm λv3=>?_;simp only[Z3,seval,-ae,ah,hr];refine zCc aJ rfl (by omega) λvz=>?_;simp only[Z3,seval,-ae];refine qW aJ o eb (ZO hp) eb.1.symm (by simp) sL (by decide) λv4=>?_;rw[zOn (eb.1.trans (by simp))];simp only[Z3,seval,-ae,ah,hr];refine ZI aJ rfl (by omega) aD λv6=>?_;simp only[Z3,seval,-ae,ah,hr];refine qF aJ o q er ej rfl (qH _ _).symm λv5=>?_;simp only[Z3,seval,-ae];refine Qg (zK o eb eb).1.symm (br_el o q).1.symm (by rw[(zK o eb eb).1];omega) ?_;have hF:(lmul p W p (br p W B W.length (unitL W.length i) (unitL W.length j))=br p W B W.length W[i] (unitL W.length j))↔F1 p W B W.length i j:=by unfold F1;rw[qL ah]
   by_cases hf:lmul p W p (br p W B W.length (unitL W.length i) (unitL W.length j))=br p W B W.length W[i] (unitL W.length j)
   .simp only[Z3,seval,-ae,eq_true hf,wrapS aD (by omega:W.length<=4611686018427387904)];refine⟨_,by omega,j+1,by omega,rfl,rfl,λj' h=>?_⟩;by_cases e:j'=j
    .subst e;exact hF.1 hf
    .exact aR j' (by omega)
   .simp only[Z3,seval,-ae,hf];exact fin _ _ _ _ ⟨λx=>by omega,λx=>absurd (hF.2 (x.1 i j ah aD)) hf⟩
  .simp only[Z3,seval,-ae,wrapS ah (by omega:W.length<=4611686018427387904)];refine⟨_,by omega,i+1,by omega,rfl,rfl,λi' j' h h'=>?_⟩;by_cases e:i'=i
   .subst e;exact aR j' (by omega)
   .exact aj i' j' (by omega) h'
 have aj:∀i j,i<W.length->j<W.length->F1 p W B W.length i j:=λi' j' h h'=>aj i' j' (by omega) h';clear aG hi;refine zG (λm vs h'=>∃i:Nat,i<=W.length/\m=W.length-i/\vs=[.ptr σ.next 0,.int .i64 W.length,.int .i64 i]/\σ.new [.int .i64 p,.fz w1 a1 W.length rP,.fz w3 a3 B.length rB]=h'/\∀i' j k,i'<i->i'<j->j<k->k<W.length->F2 p W B W.length i' j k) W.length ?_ ?_
 .exact⟨0,by omega,by omega,rfl,rfl,λi' j k h=>by omega⟩
 rintro m vs h' ⟨i,hi,rfl,rfl,rfl,lG⟩
 simp only[Z3,seval,-ae];refine iteI (λah=>?_) λaG=>?_;rotate_left
 .exact fin _ _ _ _ ⟨λ_=>⟨aj,λi j k h1 h2 h3=>lG i j k (by omega) h1 h2 h3⟩,λ_=>rfl⟩
 simp only[Z3,seval,-ae,wrapS ah (by omega:W.length<=4611686018427387904)];refine zG (λm vs h'=>∃j:Nat,i+1<=j/\j<=W.length/\m=W.length-j/\vs=[.ptr σ.next 0,.int .i64 W.length,.int .i64 i,.int .i64 j]/\σ.new [.int .i64 p,.fz w1 a1 W.length rP,.fz w3 a3 B.length rB]=h'/\∀j' k,i<j'->j'<j->j'<k->k<W.length->F2 p W B W.length i j' k) (W.length-(i+1)) ?_ ?_
 .exact⟨i+1,by omega,by omega,by omega,rfl,rfl,λj' k h1 h2=>by omega⟩
 rintro m vs h' ⟨j,kV,hj,rfl,rfl,rfl,lF⟩
 simp only[Z3,seval,-ae];refine iteI (λaD=>?_) λaG=>?_;rotate_left
 .simp only[Z3,seval,-ae,wrapS ah (by omega:W.length<=4611686018427387904)];refine⟨_,by omega,i+1,by omega,rfl,rfl,λi' j' k h1 h2 h3 h4=>?_⟩;by_cases e:i'=i
  .subst e;exact lF j' k h2 (by omega) h3 h4
  .exact lG i' j' k (by omega) h2 h3 h4
 simp only[Z3,seval,-ae,wrapS aD (by omega:W.length<=4611686018427387904)];refine zG (λm vs h'=>∃k:Nat,j+1<=k/\k<=W.length/\m=W.length-k/\vs=[.ptr σ.next 0,.int .i64 W.length,.int .i64 i,.int .i64 j,.int .i64 k]/\σ.new [.int .i64 p,.fz w1 a1 W.length rP,.fz w3 a3 B.length rB]=h'/\∀k',j<k'->k'<k->F2 p W B W.length i j k') (W.length-(j+1)) ?_ ?_
 .exact⟨j+1,by omega,by omega,by omega,rfl,rfl,λk' h1 h2=>by omega⟩
 rintro m vs h' ⟨k,sS,bZ,rfl,rfl,rfl,lE⟩
 simp only[Z3,seval,-ae];refine iteI (λbn=>?_) λaG=>?_;rotate_left
 .simp only[Z3,seval,-ae,wrapS aD (by omega:W.length<=4611686018427387904)];refine⟨_,by omega,j+1,by omega,by omega,rfl,rfl,λj' k' h1 h2 h3 h4=>?_⟩;by_cases e:j'=j
  .subst e;exact lE k' h3 (by omega)
  .exact lF j' k' h1 (by omega) h3 h4
 have ei:=zV hp ah;have ej:=zV hp aD;have ek:=zV hp bn;have bb:∀a b,El p W.length (br p W B W.length a b):=λa b=>br_el o q;refine ZI aJ rfl (by omega) ah λv1=>?_;simp only[Z3,seval,-ae];refine ZI aJ rfl (by omega) aD λv2=>?_;simp only[Z3,seval,-ae];refine ZI aJ rfl (by omega) bn λv3=>?_;simp only[Z3,seval,-ae];refine qF aJ o q ei ej ei.1.symm ej.1.symm λv4=>?_;simp only[Z3,seval,-ae];refine qF aJ o q (bb _ _) ek (bb _ _).1.symm ek.1.symm λv5=>?_;simp only[Z3,seval,-ae];refine qF aJ o q ej ek ej.1.symm ek.1.symm λv6=>?_;simp only[Z3,seval,-ae];refine qF aJ o q (bb _ _) ei (bb _ _).1.symm ei.1.symm λv7=>?_;simp only[Z3,seval,-ae];refine qW aJ o (bb _ _) (bb _ _) (bb _ _).1.symm (bb _ _).1.symm (by decide) (by decide) λv8=>?_;have e8:=zK o (k:=1) (m:=1) (bb (br p W B W.length (unitL W.length i) (unitL W.length j)) (unitL W.length k)) (bb (br p W B W.length (unitL W.length j) (unitL W.length k)) (unitL W.length i));simp only[Z3,seval,-ae];refine qF aJ o q ek ei ek.1.symm ei.1.symm λv9=>?_;simp only[Z3,seval,-ae];refine qF aJ o q (bb _ _) ej (bb _ _).1.symm ej.1.symm λv10=>?_;simp only[Z3,seval,-ae];refine qW aJ o e8 (bb _ _) e8.1.symm (bb _ _).1.symm (by decide) (by decide) λv11=>?_;have xG:=zK o (k:=1) (m:=1) e8 (bb (br p W B W.length (unitL W.length k) (unitL W.length i)) (unitL W.length j));simp only[Z3,seval,-ae];refine Qf xG.1.symm (by rw[xG.1];omega) ?_;have hF:isZ (norm p W (lmix 1 (ladd p W (br p W B W.length (br p W B W.length (unitL W.length i) (unitL W.length j)) (unitL W.length k)) (br p W B W.length (br p W B W.length (unitL W.length j) (unitL W.length k)) (unitL W.length i))) 1 (br p W B W.length (br p W B W.length (unitL W.length k) (unitL W.length i)) (unitL W.length j))))↔F2 p W B W.length i j k:=Iff.rfl;by_cases hf:isZ (norm p W (lmix 1 (ladd p W (br p W B W.length (br p W B W.length (unitL W.length i) (unitL W.length j)) (unitL W.length k)) (br p W B W.length (br p W B W.length (unitL W.length j) (unitL W.length k)) (unitL W.length i))) 1 (br p W B W.length (br p W B W.length (unitL W.length k) (unitL W.length i)) (unitL W.length j))))
 .simp only[Z3,seval,-ae,eq_true hf,wrapS bn (by omega:W.length<=4611686018427387904)];refine⟨_,by omega,k+1,by omega,by omega,rfl,rfl,λk' h1 h2=>?_⟩;by_cases e:k'=k
  .subst e;exact hF.1 hf
  .exact lE k' h1 (by omega)
 .simp only[Z3,seval,-ae,hf];exact fin _ _ _ _ ⟨λx=>by omega,λx=>absurd (hF.2 (x.2 i j k (by omega) (by omega) bn)) hf⟩
def isLie(p:Int)(W:V2)(B:V3):Prop:=ZY p W B/\qE p W B W.length
theorem zBW(hR:IsR vP vB W B)(sz:SzR W B)(hk:∀t:Bool,(t=true↔isLie p W B)->K (.bool t) σ):zA Tryz.prog 143 [.agg [.int .i64 p,vP,vB]] σ K:=by
 have h1:=hR.P.one;have h2:=hR.B.one;refine zA.gh ?_;have aq:=zC σ [.int .i64 p,vP,vB];refine zD mix Tryz.func143 ?_
 conv=>arg 2;cbv
 refine zF rfl ?_;simp only[Z3,seval,-ae,h1,h2];refine zHK hR sz λt ht=>?_;cases t with
 |false=>
  simp only[Z3,seval,-ae];exact Gh.fin0 aq trivial (hk _ ⟨λx=>(by cases x),λx=>ht.2 x.1⟩)
 |true=>
  have eH:=ht.1 rfl;simp only[Z3,seval,-ae];refine zJe ⟨by simp only[Z3,seval,-ae],by simp only[Z3,seval,-ae]⟩ hR eH.w eH.b λkind i j k h=>?_;simp only[Z3,seval,-ae];exact Gh.fin0 aq trivial (hk _ ⟨λx=>⟨eH,h.1 (by simpa using x)⟩,λx=>by simpa using h.2 x.2⟩)
theorem zAC(hR:IsR vP vB W B)(sz:SzR W B)(hk:∀t:Bool,(t=true↔isLie p W B)->K (.bool t) σ):zA Tryz.prog 136 [.agg [.int .i64 p,vP,vB]] σ K:=by
 have h1:=hR.P.one;have h2:=hR.B.one;refine zA.gh ?_;have aq:=zC σ [.int .i64 p,vP,vB];refine zD mix Tryz.func136 ?_
 conv=>arg 2;cbv
 refine zF rfl ?_;simp only[Z3,seval,-ae,h1,h2];refine zJn hR sz λt ht=>?_;cases t with
 |false=>
  simp only[Z3,seval,-ae];exact Gh.fin0 aq trivial (hk _ ⟨λx=>(by cases x),λx=>ht.2 x.1⟩)
 |true=>
  have eH:=ht.1 rfl;simp only[Z3,seval,-ae];refine zJp hR eH.w eH.b λkind i j k h=>?_;simp only[Z3,seval,-ae];exact Gh.fin0 aq trivial (hk _ ⟨λx=>⟨eH,h.1 (by simpa using x)⟩,λx=>by simpa using h.2 x.2⟩)
variable{vL:PV}
theorem zEj{xs:V1}:isVec xs p n↔El p n xs:=⟨λh=>⟨by have:=h.1;omega,h.2⟩,λh=>⟨by have:=h.1;omega,h.2⟩⟩
theorem zNI{l:Nat}{w:Bool}{a:AV}{xs:V1}(hR:IsR vP vB W B)(hl:l=xs.length)(hb:xs.length<=1048576)(hp:okp p)(hk:∀t:Bool,(t=true↔El p W.length xs)->K (.bool t) σ):
  zA Tryz.prog 224 [.agg [.int .i64 p,vP,vB],.fz w a l (pis xs)] σ K:=by
 have h2:=hR.B.one;unfold okp at hp;obtain⟨⟨w1,a1,rP,rfl,hP⟩,hB⟩:=hR;refine zA.gh ?_;have aq:=zC σ [.int .i64 p,.fz w1 a1 W.length rP,vB];refine zD mix Tryz.func224 ?_
 conv=>arg 2;cbv
 refine zF rfl ?_;simp only[Z3,seval,-ae,h2];refine zEf hl (by omega) (by omega) (by omega) ?_;simp only[Z3,seval,-ae];exact Gh.fin0 aq trivial (hk _ (by rw[decide_eq_true_iff];exact zEj))
def Els(p:Int)(n:Nat)(xs:V2):Prop:=∀x∈xs,El p n x
structure SzL(xs:V2):Prop where
 l:xs.length<=1048576
 r:∀x∈xs,x.length<=1048576
theorem Qc{xs:V2}(hR:IsR vP vB W B)(hL:FII vL xs)(sz:SzL xs)(hp:okp p)(hk:∀t:Bool,(t=true↔Els p W.length xs)->K (.bool t) σ):
  zA Tryz.prog 138 [.agg [.int .i64 p,vP,vB],vL] σ K:=by
 have h1:=hR.P.one;have h2:=hR.B.one;have aW:=sz.l;obtain⟨wl,al,rl,rfl,bp⟩:=hL;refine zA.gh ?_;have aq:=zC σ [.int .i64 p,vP,vB];refine zD mix Tryz.func138 ?_
 conv=>arg 2;cbv
 refine zF rfl ?_;simp only[Z3,seval,-ae,h1,h2];refine zG (λm vs h'=>∃i:Nat,i<=xs.length/\m=xs.length-i/\vs=[.fz wl al xs.length rl,.ptr σ.next 0,.int .i64 i]/\σ.new [.int .i64 p,vP,vB]=h'/\∀j (h:j<xs.length),j<i->El p W.length xs[j]) xs.length ?_ ?_
 .exact⟨0,by omega,by omega,rfl,rfl,λj h hj=>by omega⟩
 rintro m vs h' ⟨i,hi,rfl,rfl,rfl,aj⟩
 simp only[Z3,seval,-ae];refine iteI (λah=>?_) λaG=>?_
 .obtain⟨w4,a4,hr⟩:=bp.rowI ah;simp only[Z3,seval,-ae,ah,hr];refine zNI hR rfl (sz.r _ (List.getElem_mem ah)) hp λt ht=>?_;cases t with
  |false=>
   simp only[Z3,seval,-ae];exact Gh.fin0 aq trivial (hk _ ⟨λx=>(by cases x),λx=>ht.2 (x _ (List.getElem_mem ah))⟩)
  |true=>
   simp only[Z3,seval,-ae,wrapS ah (by omega:xs.length<=4611686018427387904)];refine⟨_,by omega,i+1,by omega,rfl,rfl,λj h hj=>?_⟩;by_cases e:j=i
   .subst e;exact ht.1 rfl
   .exact aj j h (by omega)
 .refine Gh.fin0 aq trivial (hk _ ⟨λ_ x hx=>?_,λ_=>rfl⟩);obtain⟨j,hj,rfl⟩:=List.mem_iff_getElem.1 hx;exact aj j hj (by omega)
theorem zCC{xs:V2}(hs:PtrR σ s p vP vB)(hR:IsR vP vB W B)(dU:SzR W B)(hL:FII vL xs)(sz:SzL xs)(hk:∀t:Bool,(t=true↔isLie p W B/\Els p W.length xs)->K (.bool t) σ):
  zA Tryz.prog 133 [.ptr s 0,vL] σ K:=by
 have mG:=hR.P;have aW:=sz.l;obtain⟨wl,al,rl,rfl,bp⟩:=hL;refine zD mix Tryz.func133 ?_
 conv=>arg 2;cbv
 refine zF rfl ?_;simp only[Z3,seval,-ae,zI hs.obj,ze hs.obj];refine zBW hR dU λt ht=>?_;cases t with
 |false=>
  simp only[Z3,seval,-ae];exact hk _ ⟨λx=>(by cases x),λx=>ht.2 x.1⟩
 |true=>
 have vd:=ht.1 rfl;simp only[Z3,seval,-ae];refine zG (λm vs h'=>∃i:Nat,i<=xs.length/\m=xs.length-i/\vs=[.ptr s 0,.fz wl al xs.length rl,.int .i64 xs.length,.int .i64 i]/\σ=h'/\∀j (h:j<xs.length),j<i->El p W.length xs[j]) xs.length ?_ ?_
 .exact⟨0,by omega,by omega,rfl,rfl,λj h hj=>by omega⟩
 rintro m vs h' ⟨i,hi,rfl,rfl,rfl,aj⟩
 simp only[Z3,seval,-ae];refine iteI (λah=>?_) λaG=>?_
 .obtain⟨w4,a4,hr⟩:=bp.rowI ah;simp only[Z3,seval,-ae,ah,hr];refine zAE hs mG rfl (sz.r _ (List.getElem_mem ah)) vd.1.1 ?_;by_cases hv:isVec xs[i] p W.length
  .simp only[Z3,seval,-ae,hv,wrapS ah (by omega:xs.length<=4611686018427387904)];refine⟨_,by omega,i+1,by omega,rfl,rfl,λj h hj=>?_⟩;by_cases e:j=i
   .subst e;exact zEj.1 hv
   .exact aj j h (by omega)
  .simp only[Z3,seval,-ae,hv];exact hk _ ⟨λx=>(by cases x),λx=>absurd (zEj.2 (x.2 _ (List.getElem_mem ah))) hv⟩
 .refine hk _ ⟨λ_=>⟨vd,λx hx=>?_⟩,λ_=>rfl⟩;obtain⟨j,hj,rfl⟩:=List.mem_iff_getElem.1 hx;exact aj j hj (by omega)
structure SzM(B:V3):Prop where
 l:B.length<=1048576
 r:∀q∈B,SzL q
theorem zQ1{α:Type}{xs ys:List α}(hl:xs.length=ys.length){i:Nat}(hi:i<xs.length)(h:xs.take i=ys.take i)(he:xs[i]=ys[i]'(by omega)):xs.take (i+1)=ys.take (i+1):=by
 rw[List.take_succ_eq_append_getElem hi,List.take_succ_eq_append_getElem (by omega:i<ys.length),h,he]
end Go.Proofs
namespace Go.Lie
open Go.Ab
variable{p:Int}{n:Nat}{W:V2}
abbrev Vec:=Nat->Int
structure IsSub(p:Int)(n:Nat)(W:V2)(S:Vec->Prop):Prop where
 zero:S λ_=>0
 add:∀f g,S f->S g->S λj=>f j+g j
 mul:∀k f,S f->S λj=>k*f j
 eqv:∀f g,Eqv p n W f g->S g->S f
def comb(c:Nat->Int)(L:V2):Vec:=λj=>sumN L.length λk=>c k*at_ (L.getD k []) j
def Gen(p:Int)(n:Nat)(W:V2)(L:V2)(f:Vec):Prop:=∃c:Nat->Int,Eqv p n W f (comb c L)
theorem zO6(c d:Nat->Int)(L:V2)(j:Nat):comb (λk=>c k+d k) L j=comb c L j+comb d L j:=by
 unfold comb;rw[<-QT];exact qM λi _=>Int.add_mul _ _ _
theorem zO5(m:Int)(c:Nat->Int)(L:V2)(j:Nat):comb (λk=>m*c k) L j=m*comb c L j:=by
 unfold comb;rw[<-Zb];exact qM λi _=>Int.mul_assoc _ _ _
theorem zM(L:V2):IsSub p n W (Gen p n W L):=by
 refine⟨⟨λ_=>0,Eqv.of_eq λj=>?_⟩,λf g ⟨c,hc⟩ ⟨d,hd⟩=>⟨λk=>c k+d k,(hc.add hd).trans (Eqv.of_eq λj=>(zO6 c d L j).symm)⟩,
  λk f ⟨c,hc⟩=>⟨λi=>k*c i,(hc.mul k).trans (Eqv.of_eq λj=>(zO5 k c L j).symm)⟩,λf g h ⟨c,hc⟩=>⟨c,h.trans hc⟩⟩
 unfold comb;rw[qV _ (λi _=>Int.zero_mul _)]
theorem zQ{L:V2}{v:V1}(h:v∈L):Gen p n W L (at_ v):=by
 obtain⟨k,hk,rfl⟩:=List.mem_iff_getElem.1 h;refine⟨λi=>if i=k then 1 else 0,Eqv.of_eq λj=>?_⟩;unfold comb;rw[zAO hk (λi _ hi=>by dsimp only;rw[if_neg hi,Int.zero_mul])];dsimp only;rw[if_pos rfl,Int.one_mul];simp[List.getD_eq_getElem?_getD,List.getElem?_eq_getElem hk]
theorem IsSub.sum{S:Vec->Prop}(h:IsSub p n W S):∀{m:Nat} {F:Nat->Vec},(∀k,k<m->S (F k))->S λj=>sumN m λk=>F k j
 |0,_,_=>h.zero
 |m+1,F,hF=>h.add _ _ (IsSub.sum h λk hk=>hF k (by omega)) (hF m (by omega))
theorem IsSub.comb{S:Vec->Prop}(h:IsSub p n W S){L:V2}(hL:∀v∈L,S (at_ v))(c:Nat->Int):S (comb c L):=
 h.sum λk hk=>h.mul (c k) _ (hL _ (by
  have:L.getD k []=L[k]:=by simp[List.getD_eq_getElem?_getD,List.getElem?_eq_getElem hk]
  rw[this];exact List.getElem_mem hk))
theorem Zk{S:Vec->Prop}(h:IsSub p n W S){L:V2}(hL:∀v∈L,S (at_ v)){f:Vec}(hf:Gen p n W L f):S f:=by
 obtain⟨c,hc⟩:=hf;exact h.eqv _ _ hc (h.comb hL c)
theorem qw{L M:V2}(h:∀v∈L,Gen p n W M (at_ v)){f:Vec}(hf:Gen p n W L f):Gen p n W M f:=Zk (zM M) h hf
theorem zb{L M:V2}(h:∀v∈L,v∈M){f:Vec}(hf:Gen p n W L f):Gen p n W M f:=qw (λv hv=>zQ (h v hv)) hf
theorem zKX{f:Vec}(hf:Gen p n W [] f):Eqv p n W f λ_=>0:=by
 obtain⟨c,hc⟩:=hf;exact hc
theorem IsSub.sub{S:Vec->Prop}(h:IsSub p n W S){f g:Vec}(hf:S f)(hg:S g):S λj=>f j-g j:=by
 have:=h.add _ _ hf (h.mul (-1) _ hg)
 exact h.eqv _ _ (Eqv.of_eq λj=>by omega) this
def dep:V1->Nat
 |[]=>0
 |x::xs=>if x=0 then dep xs+1 else 0
theorem Zz:∀v:V1,dep v<=v.length
 |[]=>vM _
 |x::xs=>by simp only[dep,List.length_cons];have:=Zz xs;split<;>omega
theorem zY:∀{v:V1} {j:Nat},j<dep v->at_ v j=0
 |[],j,h=>by simp[at_]
 |x::xs,j,h=>by
  simp only[dep]at h;split at h
  .rename_i hx;cases j with
   |zero=>simp[at_,hx]
   |succ j=>
    have:=zY (v:=xs) (j:=j) (by omega)
    simpa [at_]using this
  .omega
theorem qa:∀{v:V1},dep v<v.length->at_ v (dep v)≠0
 |[],h=>by simp at h
 |x::xs,h=>by
  simp only[dep,List.length_cons]at h ⊢;split at h
  .rename_i hx;rw[if_pos hx]
   have:=qa (v:=xs) (by omega)
   simpa [at_]using this
  .rename_i hx;rw[if_neg hx];simpa [at_]using hx
theorem zAr{v:V1}{d:Nat}(h1:∀j,j<d->at_ v j=0)(h2:at_ v d≠0):dep v=d:=by
 rcases Nat.lt_trichotomy (dep v) d with x|x|x
 .have hd:d<v.length:=by
   rcases Nat.lt_or_ge d v.length with y|y
   .exact y
   .exact absurd (at_ge y) h2
  exact absurd (h1 _ x) (qa (by omega))
 .exact x
 .exact absurd (zY x) h2
theorem dep_ge{v:V1}{d:Nat}(hd:d<=v.length)(h1:∀j,j<d->at_ v j=0):d<=dep v:=by
 rcases Nat.lt_or_ge (dep v) d with x|x
 .exact absurd (h1 _ x) (qa (by omega))
 .exact x
theorem zO4{v:V1}(h:dep v=v.length):∀x∈v,x=0:=λx hx=>by
 obtain⟨j,hj,rfl⟩:=List.mem_iff_getElem.1 hx;rw[<-at_eq hj];exact zY (by omega)
theorem QF(o:OkW p n W){f g:Vec}(h:Eqv p n W f g){d:Nat}(hd:d<n)(hf:∀j,j<d->0<=f j/\f j<=p-1)(hg:∀j,j<d->0<=g j/\g j<=p-1):(∀j,j<d->f j=g j)/\∃k:Int,f d=g d-k*p:=by
 obtain⟨c,hc⟩:=h;have hp:=o.pr;unfold okp at hp;have val:∀i,i<=d->(∀k,k<i->c k=0)->f i=g i-c i*p:=by
  intro i hi hk;have h1:=hc i;rw[zAO (k:=i) (by omega) (λk bF ar=>by
   rcases Nat.lt_or_ge k i with x|x
   .rw[hk k x,Int.zero_mul]
   .rw[rel,o.zero x,if_neg (λe=>ar e.symm)];simp)]at h1
  rw[rel,o.zero (vM _),if_pos rfl,Int.zero_sub,Int.mul_neg]at h1;omega
 have key:∀m,m<=d->∀i,i<m->c i=0:=by
  intro m
  induction m with
  |zero=>intro _ i hi;omega
  |succ m ih=>
   intro hm i hi;by_cases e:i=m
   .subst e;have h1:=val i (by omega) (ih (by omega));have h2:=hf i (by omega);have h3:=hg i (by omega);rcases Int.lt_trichotomy (c i) 0 with x|x|x
    .have:=Int.mul_le_mul_of_nonneg_right (show c i<=-1 by omega) (show 0<=p by omega)
     omega
    .exact x
    .have:=Int.mul_le_mul_of_nonneg_right (show 1<=c i by omega) (show 0<=p by omega)
     omega
   .exact ih (by omega) i (by omega)
 refine⟨λj hj=>?_,c d,val d (vM _) (key d (vM _))⟩
 have:=val j (by omega) (λk hk=>key d (vM _) k (by omega))
 rw[key d (vM _) j hj]at this;omega
theorem zAk(o:OkW p n W){v:V1}(hv:v.length=n){d:Nat}(hd:d<=n)(h:∀j,j<d->at_ v j=0):∀j,j<d->at_ (norm p W v) j=0:=by
 have hp:=o.pr;unfold okp at hp;have hb:=QC o hv;intro j hj
 have:=(QF o (qX o hv) (d:=j) (by omega) (λi _=>hb.at (by omega) i) (λi hi=>by rw[h i (by omega)];omega)).1
 obtain⟨k,hk⟩:=(QF o (qX o hv) (d:=j) (by omega) (λi _=>hb.at (by omega) i) (λi hi=>by rw[h i (by omega)];omega)).2;rw[h j hj]at hk;have h2:=hb.at (by omega) j;rcases Int.lt_trichotomy k 0 with x|x|x
 .have:=Int.mul_le_mul_of_nonneg_right (show k<=-1 by omega) (show 0<=p by omega)
  omega
 .rw[x]at hk;omega
 .have:=Int.mul_le_mul_of_nonneg_right (show 1<=k by omega) (show 0<=p by omega)
  omega
theorem zDF(o:OkW p n W){v:V1}(hv:v.length=n){d:Nat}(hd:d<n)(h:∀j,j<d->at_ v j=0):at_ (norm p W v) d=at_ v d % p:=by
 have hp:=o.pr;unfold okp at hp;have hb:=QC o hv;obtain⟨k,hk⟩:=(QF o (qX o hv) hd (λi _=>hb.at (by omega) i) (λi hi=>by rw[h i hi];omega)).2;have h2:=hb.at (by omega) d
 have:at_ v d=at_ (norm p W v) d+p*k:=by rw[Int.mul_comm p k];omega
 rw[this,Int.add_mul_emod_self_left];exact(Int.emod_eq_of_lt h2.1 (by omega)).symm
theorem push(o:OkW p n W){d:Nat}(hd:d<n){f:Vec}(h:∀j,j<d->f j=0)(hn:∀j,n<=j->f j=0):∃g:Vec,Eqv p n W (λj=>p*f j) g/\(∀j,j<=d->g j=0)/\∀j,n<=j->g j=0:=by
 have h1:=(Eqv.rel (p:=p) (W:=W) hd).mul (f d);refine⟨λj=>p*f j+f d*rel p W d j,?_,λj hj=>?_,λj hj=>?_⟩
 .have h2:=(Eqv.refl (p:=p) (n:=n) (W:=W) (λj=>p*f j)).add h1.symm;refine(Eqv.of_eq λj=>?_).trans h2;omega
 .dsimp only;rcases Nat.lt_or_ge j d with x|x
  .rw[h j x,rel,o.zero (by omega:j<=d),if_neg (by omega)];simp
  .have:j=d:=by omega
   subst this;rw[rel,o.zero (vM _),if_pos rfl,Int.zero_sub,Int.mul_neg,Int.mul_comm p];omega
 .dsimp only;rw[hn j hj,rel,if_neg (by omega)]
  have:w_ W d j=0:=by
   rw[w_];exact at_ge (by rw[o.rowlen hd];exact hj)
  rw[this];simp
def pw_(p:Int):Nat->Int
 |0=>1
 |k+1=>p*pw_ p k
theorem kill(o:OkW p n W):∀(k:Nat) {f:Vec},k<=n->(∀j,j<n-k->f j=0)->(∀j,n<=j->f j=0)->Eqv p n W (λj=>pw_ p k*f j) λ_=>0
 |0,f,_,h,hn=>Eqv.of_eq λj=>by
  rcases Nat.lt_or_ge j n with x|x
  .rw[h j (by omega)];simp
  .rw[hn j x];simp
 |k+1,f,hk,h,hn=>by
  obtain⟨g,h1,h2,h3⟩:=push o (d:=n-(k+1)) (by omega) h hn;have ih:=kill o k (f:=g) (by omega) (λj hj=>h2 j (by omega)) h3;have h4:=h1.mul (pw_ p k);refine(Eqv.of_eq λj=>?_).trans (h4.trans ih);rw[pw_,Int.mul_comm p,Int.mul_assoc]
theorem Qr(o:OkW p n W){f:Vec}(hn:∀j,n<=j->f j=0):Eqv p n W (λj=>pw_ p n*f j) λ_=>0:=kill o n (vM _) (λj hj=>by omega) hn
theorem inv_one(t:Int):∀m:Nat,0<m->∃e s:Int,e*(1+p*t)=1+pw_ p m*s
 |0,h=>by omega
 |1,_=>⟨1,t,by simp[pw_]⟩
 |m+2,_=>by
  obtain⟨e,s,h⟩:=inv_one t (m+1) (by omega);refine⟨e*(1-pw_ p (m+1)*s),-(pw_ p m*s*s),?_⟩;have h1:e*(1-pw_ p (m+1)*s)*(1+p*t)=(e*(1+p*t))*(1-pw_ p (m+1)*s):=by
   rw[Int.mul_assoc,Int.mul_comm (1-pw_ p (m+1)*s),<-Int.mul_assoc]
  rw[h1,h];have h2:pw_ p (m+2) * -(pw_ p m*s*s)=-(pw_ p (m+1)*s*(pw_ p (m+1)*s)):=by
   simp only[pw_];rw[Int.mul_neg];congr 1;simp only[Int.mul_assoc,Int.mul_left_comm,Int.mul_comm]
  rw[h2,Int.add_mul,Int.one_mul,Int.mul_sub,Int.mul_one];omega
theorem El.at0{v:V1}(h:El p n v)(o:OkW p n W)(j:Nat):0<=at_ v j/\at_ v j<=p-1:=h.2.at (by have:=o.pr.1;omega) j
theorem El.beyond{v:V1}(h:El p n v){j:Nat}(hj:n<=j):at_ v j=0:=at_ge (by rw[h.1];exact hj)
theorem zBA(o:OkW p n W){v:V1}(hv:v.length=n):El p n (norm p W v):=⟨ZH o hv,QC o hv⟩
theorem zNa{a b:V1}(ha:El p n a)(hb:El p n b)(h:∀j,j<n->at_ a j=at_ b j):a=b:=Zl (ha.1.trans hb.1.symm) λj hj=>h j (by rw[<-ha.1];exact hj)
theorem zM4(o:OkW p n W){v:V1}(hv:v.length=n){m:Nat}(hm:m<=n)(h:∀j,j<m->0<=at_ v j/\at_ v j<=p-1){j:Nat}(hj:j<m):at_ (norm p W v) j=at_ v j:=by
 have hp:=o.pr;unfold okp at hp;have hb:=QC o hv;obtain⟨k,hk⟩:=(QF o (qX o hv) (d:=j) (by omega) (λi _=>hb.at (by omega) i) (λi hi=>h i (by omega))).2;have h1:=hb.at (by omega) j;have h2:=h j hj;rcases Int.lt_trichotomy k 0 with x|x|x
 .have:=Int.mul_le_mul_of_nonneg_right (show k<=-1 by omega) (show 0<=p by omega)
  omega
 .rw[x]at hk;omega
 .have:=Int.mul_le_mul_of_nonneg_right (show 1<=k by omega) (show 0<=p by omega)
  omega
abbrev red1(p:Int)(W:V2)(x v:V1):V1:=norm p W (lmix 1 x (-(at_ x (dep v))) v)
def redL(p:Int)(W:V2):V2->V1->V1
 |[],x=>x
 |v::u,x=>redL p W u (red1 p W x v)
def Led(p:Int)(n:Nat)(v:V1):Prop:=El p n v/\dep v<n/\at_ v (dep v)=1
theorem zB7(o:OkW p n W){x v:V1}(hx:El p n x)(hv:El p n v):El p n (red1 p W x v):=zBA o (by rw[zT (hx.1.trans hv.1.symm)];exact hx.1)
theorem zEU(o:OkW p n W){x v:V1}(hx:El p n x)(hv:El p n v):Eqv p n W (at_ (red1 p W x v)) (λj=>at_ x j-at_ x (dep v)*at_ v j):=
 (qX o (by rw[zT (hx.1.trans hv.1.symm)];exact hx.1)).trans (Eqv.of_eq λj=>by rw[zo (hx.1.trans hv.1.symm),Int.neg_mul];omega)
theorem zDl(o:OkW p n W){x v:V1}(hx:El p n x)(hv:Led p n v){j:Nat}(hj:j<=dep v):at_ (red1 p W x v) j=if j=dep v then 0 else at_ x j:=by
 have hl:=hx.1.trans hv.1.1.symm;have hp:=o.pr;unfold okp at hp;have e:∀i,i<=dep v->at_ (lmix 1 x (-(at_ x (dep v))) v) i=if i=dep v then 0 else at_ x i:=λi hi=>by
  rw[zo hl];split
  .rename_i h;subst h;rw[hv.2.2];omega
  .rw[zY (by omega:i<dep v)];omega
 rw[zM4 o (m:=dep v+1) (by rw[zT hl];exact hx.1) (by have:=hv.2.1;omega) (λi hi=>by
  rw[e i (by omega)]
  have:=hx.at0 o i
  split<;>omega) (by omega),e j hj]
theorem zMM(o:OkW p n W){x v:V1}(hx:El p n x)(hv:El p n v)(h:at_ x (dep v)=0):red1 p W x v=x:=by
 have hl:=hx.1.trans hv.1.symm
 have:lmix 1 x (-(at_ x (dep v))) v=x:=Zl (zT hl) λj _=>by rw[zo hl,h];omega
 rw[red1,this,zM3 o hx.1 hx.2]
theorem Zj(o:OkW p n W):∀{u:V2} {x:V1},(∀v∈u,El p n v)->El p n x->El p n (redL p W u x)
 |[],x,_,hx=>hx
 |v::u,x,hu,hx=>by rw[redL];exact Zj o (λw hw=>hu w (by simp[hw])) (zB7 o hx (hu v (by simp)))
theorem zBK(o:OkW p n W):∀{u:V2} {x:V1},(∀v∈u,El p n v)->El p n x->Gen p n W u (λj=>at_ x j-at_ (redL p W u x) j)
 |[],x,_,hx=>(zM []).eqv _ _ (Eqv.of_eq λj=>Int.sub_self _) (zM []).zero
 |v::u,x,hu,hx=>by
  have hv:=hu v (by simp);have h1:=zBK o (u:=u) (λw hw=>hu w (by simp[hw])) (zB7 o hx hv);have h2:Gen p n W (v::u) (λj=>at_ (red1 p W x v) j-at_ (redL p W u (red1 p W x v)) j):=zb (λw hw=>by simp[hw]) h1;have h3:=(zM (v::u)).mul (at_ x (dep v)) _ (zQ (p:=p) (n:=n) (W:=W) (show v∈v::u by simp));have h4:=(zM (v::u)).add _ _ h3 h2;refine(zM (v::u)).eqv _ _ ?_ h4;have e1:=(zEU o hx hv).symm.add (Eqv.refl (p:=p) (n:=n) (W:=W) λj=>at_ x (dep v)*at_ v j-at_ (redL p W u (red1 p W x v)) j);refine(Eqv.of_eq λj=>?_).trans (e1.trans (Eqv.of_eq λj=>?_))
  .rw[redL];omega
  .omega
abbrev Asc(u:V2):Prop:=u.Pairwise λa b=>dep a<dep b
theorem zAQ(o:OkW p n W):∀{u:V2} {x:V1},(∀v∈u,Led p n v)->Asc u->El p n x->
  (∀v∈u,at_ (redL p W u x) (dep v)=0)/\∀j,(∀v∈u,j<dep v)->at_ (redL p W u x) j=at_ x j
 |[],x,_,_,hx=>⟨λv hv=>(by cases hv),λj _=>rfl⟩
 |v::u,x,hu,ha,hx=>by
  have hv:=hu v (by simp);obtain⟨JK,JJ⟩:=List.pairwise_cons.1 ha;obtain⟨h1,h2⟩:=zAQ o (λw hw=>hu w (by simp[hw])) JJ (zB7 o hx hv.1);refine⟨λw hw=>?_,λj hj=>?_⟩
  .rcases List.mem_cons.1 hw with rfl|hw
   .rw[redL,h2 _ (λz hz=>JK z hz),zDl o hx hv (vM _),if_pos rfl]
   .exact h1 w hw
  .have:=hj v (by simp)
   rw[redL,h2 j (λz hz=>hj z (by simp[hz])),zDl o hx hv (by omega),if_neg (by omega)]
theorem zCh(o:OkW p n W){u:V2}(hu:∀v∈u,El p n v){m:Nat}(hm:m<=n)(h:∀v∈u,∀j,j<m->at_ v j=0){z:V1}(hz:El p n z)(hg:Gen p n W u (at_ z)):∀j,j<m->at_ z j=0:=by
 obtain⟨c,hc⟩:=hg;have oA:∀j,j<m->comb c u j=0:=λj hj=>qV _ λk hk=>by
  have:u.getD k []=u[k]:=by simp[List.getD_eq_getElem?_getD,List.getElem?_eq_getElem hk]
  rw[this,h _ (List.getElem_mem hk) j hj,Int.mul_zero]
 intro j hj;have hp:=o.pr;unfold okp at hp;obtain⟨k,hk⟩:=(QF o hc (d:=j) (by omega) (λi _=>hz.at0 o i) (λi hi=>by rw[oA i (by omega)];omega)).2;rw[oA j hj]at hk;have h1:=hz.at0 o j;rcases Int.lt_trichotomy k 0 with x|x|x
 .have:=Int.mul_le_mul_of_nonneg_right (show k<=-1 by omega) (show 0<=p by omega)
  omega
 .rw[x]at hk;omega
 .have:=Int.mul_le_mul_of_nonneg_right (show 1<=k by omega) (show 0<=p by omega)
  omega
def tab(n:Nat)(f:Vec):V1:=(List.range n).map f
theorem Q6(f:Vec):(tab n f).length=n:=by simp[tab]
theorem zHW(f:Vec)(hf:∀j,n<=j->f j=0)(j:Nat):at_ (tab n f) j=f j:=by
 rcases Nat.lt_or_ge j n with x|x
 .rw[at_eq (by rw[Q6];exact x)];simp[tab]
 .rw[at_ge (by rw[Q6];exact x),hf j x]
theorem zJ5{u:V2}(hu:∀v∈u,El p n v)(c:Nat->Int){j:Nat}(hj:n<=j):comb c u j=0:=qV _ λk hk=>by
 have:u.getD k []=u[k]:=by simp[List.getD_eq_getElem?_getD,List.getElem?_eq_getElem hk]
 rw[this,(hu _ (List.getElem_mem hk)).beyond hj,Int.mul_zero]
theorem zDt(o:OkW p n W){u:V2}(hu:∀v∈u,El p n v){f:Vec}(hg:Gen p n W u f):∃z,El p n z/\Eqv p n W f (at_ z)/\Gen p n W u (at_ z):=by
 obtain⟨c,hc⟩:=hg;have h1:=qX o (Q6 (comb c u));have h2:at_ (tab n (comb c u))=comb c u:=funext λj=>zHW _ (λj hj=>zJ5 hu c hj) j;rw[h2]at h1;exact⟨_,zBA o (Q6 _),hc.trans h1.symm,c,h1⟩
theorem zNg(c:Nat->Int)(v:V1)(u:V2)(j:Nat):comb c (v::u) j=c 0*at_ v j+comb (λk=>c (k+1)) u j:=by
 unfold comb
 have:∀(m:Nat) (f:Nat->Int),sumN (m+1) f=f 0+sumN m λk=>f (k+1):=by
  intro m f
  induction m with
  |zero=>simp[sumN]
  |succ m ih=>rw[sumN,ih,sumN];omega
 rw[List.length_cons,this];rfl
theorem zOx{v:V1}{u:V2}{f:Vec}(hg:Gen p n W (v::u) f):∃(k:Int) (g:Vec),Gen p n W u g/\Eqv p n W f λj=>k*at_ v j+g j:=by
 obtain⟨c,hc⟩:=hg;exact⟨c 0,comb (λk=>c (k+1)) u,⟨_,Eqv.refl _⟩,hc.trans (Eqv.of_eq λj=>zNg c v u j)⟩
inductive Base(p:Int)(n:Nat)(W:V2):V2->Prop where
 |nil:Base p n W []
 |cons {v:V1} {u:V2} (hv:Led p n v) (ha:∀w∈u,dep v<dep w) (hc:Gen p n W u λj=>p*at_ v j) (h:Base p n W u):Base p n W (v::u)
theorem Base.led:∀{u:V2},Base p n W u->∀v∈u,Led p n v
 |_,.nil,v,h=>(by cases h)
 |_,.cons hv _ _ hb,w,h=>(List.mem_cons.1 h).elim (λe=>e ▸ hv) (λh=>hb.led w h)
theorem Base.asc:∀{u:V2},Base p n W u->Asc u
 |_,.nil=>List.Pairwise.nil
 |_,.cons _ ha _ hb=>List.pairwise_cons.2 ⟨ha,hb.asc⟩
theorem Base.els{u:V2}(h:Base p n W u):∀v∈u,El p n v:=λv hv=>(h.led v hv).1
theorem QN(o:OkW p n W):∀{u:V2},Base p n W u->∀{z:V1},El p n z->Gen p n W u (at_ z)->dep z<n->∃v∈u,dep v=dep z
 |_,.nil,z,hz,hg,hd=>by
  have h1:=zCh o (u:=[]) (by simp) (vM n) (by simp) hz hg;exact absurd (h1 _ hd) (qa (by rw[hz.1];exact hd))
 |_,.cons (v:=v) (u:=u) hv ha hc hb,z,hz,hg,hd=>by
  have hp:=o.pr;unfold okp at hp;obtain⟨k,g,vE,he⟩:=zOx hg;have h1:Gen p n W u λj=>(k / p)*(p*at_ v j)+g j:=(zM u).add _ _ ((zM u).mul (k / p) _ hc) vE;obtain⟨y,hy,Ez,tX⟩:=zDt o hb.els h1;have Cf:=Int.emod_add_mul_ediv k p;have h2:Eqv p n W (at_ z) λj=>k % p*at_ v j+at_ y j:=by
   refine he.trans ?_
   have:=(Eqv.refl (p:=p) (n:=n) (W:=W) λj=>k % p*at_ v j).add Ez
   refine(Eqv.of_eq λj=>?_).trans this;have e1:k*at_ v j=(k % p+p*(k / p))*at_ v j:=by rw[Cf]
   rw[e1,Int.add_mul,Int.mul_comm p (k / p),Int.mul_assoc];omega
  by_cases h0:k % p=0
  .obtain⟨w,hw,e⟩:=QN o hb hz ((zM u).eqv _ _ (h2.trans (Eqv.of_eq λj=>by rw[h0];omega)) tX) hd;exact⟨w,by simp[hw],e⟩
  .refine⟨v,by simp,?_⟩;have H4:=zCh o hb.els (m:=dep v+1) (by have:=hv.2.1;omega) (λw hw j hj=>zY (by have:=ha w hw;omega)) hy tX;have kS:=Int.emod_nonneg k (show p≠0 by omega);have di:=Int.emod_lt_of_pos k (show 0<p by omega);have gr:∀j,j<=dep v->k % p*at_ v j+at_ y j=if j=dep v then k % p else 0:=λj hj=>by
    rw[H4 j (by omega)];split
    .rename_i e;subst e;rw[hv.2.2];omega
    .rw[zY (by omega:j<dep v)];simp
   have key:=λd (hd:d<=dep v)=>QF o h2 (d:=d) (by have:=hv.2.1;omega) (λi _=>hz.at0 o i) (λi hi=>by rw[gr i (by omega),if_neg (by omega)];omega);refine(zAr (λj hj=>?_) ?_).symm
   .rw[(key (dep v) (vM _)).1 j hj,gr j (by omega),if_neg (by omega)]
   .obtain⟨t,ht⟩:=(key (dep v) (vM _)).2;rw[gr _ (vM _),if_pos rfl]at ht;intro h;rw[h]at ht;rcases Int.lt_trichotomy t 0 with x|x|x
    .have:=Int.mul_le_mul_of_nonneg_right (show t<=-1 by omega) (show 0<=p by omega)
     omega
    .rw[x]at ht;omega
    .have:=Int.mul_le_mul_of_nonneg_right (show 1<=t by omega) (show 0<=p by omega)
     omega
theorem zBT{α:Type}{R:α->α->Prop}:∀{l:List α},l.Pairwise R->∀{a b:α},a∈l->b∈l->a=b\/R a b\/R b a
 |[],_,a,b,ha,_=>by cases ha
 |x::l,h,a,b,ha,hb=>by
  obtain⟨h1,h2⟩:=List.pairwise_cons.1 h;rcases List.mem_cons.1 ha with ea|lH
  .rcases List.mem_cons.1 hb with eb|gH
   .exact .inl (ea.trans eb.symm)
   .rw[ea];exact .inr (.inl (h1 b gH))
  .rcases List.mem_cons.1 hb with eb|gH
   .rw[eb];exact .inr (.inr (h1 a lH))
   .exact zBT h2 lH gH
theorem zKr:∀{u w:V2},Asc u->Asc w->(∀v,v∈u↔v∈w)->u=w
 |[],[],_,_,_=>rfl
 |[],x::w,_,_,h=>by have:=(h x).2 (by simp);cases this
 |x::u,[],_,_,h=>by have:=(h x).1 (by simp);cases this
 |x::u,y::w,hu,hw,h=>by
  obtain⟨h1,h2⟩:=List.pairwise_cons.1 hu;obtain⟨h3,h4⟩:=List.pairwise_cons.1 hw;have e:x=y:=by
   rcases List.mem_cons.1 ((h x).1 (by simp))with e|e
   .exact e
   .rcases List.mem_cons.1 ((h y).2 (by simp))with e'|e'
    .exact e'.symm
    .have:=h3 x e;have:=h1 y e';omega
  subst e;congr 1;refine zKr h2 h4 λv=>⟨λhv=>?_,λhv=>?_⟩
  .rcases List.mem_cons.1 ((h v).1 (by simp[hv]))with e|e
   .subst e;have:=h1 v hv;omega
   .exact e
  .rcases List.mem_cons.1 ((h v).2 (by simp[hv]))with e|e
   .subst e;have:=h3 v hv;omega
   .exact e
abbrev Red(u:V2):Prop:=u.Pairwise λa b=>at_ a (dep b)=0
theorem zML{u:V2}(ha:Asc u)(hr:Red u){v x:V1}(hv:v∈u)(hx:x∈u)(h:dep v<dep x):at_ v (dep x)=0:=by
 have:=zBT (R:=λa b:V1=>dep a<dep b/\at_ a (dep b)=0) (List.Pairwise.and ha hr) hv hx
 rcases this with e|e|e
 .subst e;omega
 .exact e.2
 .omega
theorem zGz(o:OkW p n W){u w:V2}(hu:Base p n W u)(ru:Red u)(hw:Base p n W w)(xW:Red w)(h:∀f,Gen p n W u f->Gen p n W w f)(h':∀f,Gen p n W w f->Gen p n W u f){v x:V1}(hv:v∈u)(hx:x∈w)(e:dep x=dep v):v=x:=by
 have lv:=hu.led v hv;have lx:=hw.led x hx;have hl:=lv.1.1.trans lx.1.1.symm;have hp:=o.pr;unfold okp at hp;have dz:(lmix 1 v (-1) x).length=n:=by rw[zT hl];exact lv.1.1
 rcases Nat.lt_or_ge (dep (lmix 1 v (-1) x)) n with hd|hd;rotate_left
 .refine zNa lv.1 lx.1 λj hj=>?_
  have:=zY (v:=lmix 1 v (-1) x) (j:=j) (by omega)
  rw[zo hl]at this;omega
 have hz:∀j,j<dep (lmix 1 v (-1) x)->at_ (norm p W (lmix 1 v (-1) x)) j=0:=zAk o dz (by omega) λj hj=>zY hj;have ar:at_ (norm p W (lmix 1 v (-1) x)) (dep (lmix 1 v (-1) x))≠0:=by
  rw[zDF o dz hd λj hj=>zY hj];have h1:=qa (v:=lmix 1 v (-1) x) (by rw[dz];exact hd);rw[zo hl]at h1 ⊢;have b1:=lv.1.at0 o (dep (lmix 1 v (-1) x));have b2:=lx.1.at0 o (dep (lmix 1 v (-1) x));intro h0
  have:=Int.emod_add_mul_ediv (1*at_ v (dep (lmix 1 v (-1) x)) + -1*at_ x (dep (lmix 1 v (-1) x))) p
  rw[h0,Int.zero_add]at this;generalize (1*at_ v (dep (lmix 1 v (-1) x)) + -1*at_ x (dep (lmix 1 v (-1) x))) / p=q at this;rcases Int.lt_trichotomy q 0 with y|y|y
  .have:=Int.mul_le_mul_of_nonneg_left (show q<=-1 by omega) (show 0<=p by omega)
   omega
  .rw[y]at this;omega
  .have:=Int.mul_le_mul_of_nonneg_left (show 1<=q by omega) (show 0<=p by omega)
   omega
 have eB:=zAr hz ar;have hg:Gen p n W u (at_ (norm p W (lmix 1 v (-1) x))):=by
  refine(zM u).eqv _ _ ((qX o dz).trans (Eqv.of_eq λj=>?_)) ((zM u).sub (zQ hv) (h' _ (zQ hx)));rw[zo hl];omega
 obtain⟨t,ht,et⟩:=QN o hu (zBA o dz) hg (by omega);obtain⟨s,hs,es⟩:=QN o hw (zBA o dz) (h _ hg) (by omega);have dY:=qa (v:=lmix 1 v (-1) x) (by rw[dz];exact hd);rw[zo hl]at dY;exfalso;rcases Nat.lt_trichotomy (dep v) (dep t)with y|y|y
 .have q1:=zML hu.asc ru hv ht y;have q2:=zML hw.asc xW hx hs (by omega);rw[et,eB]at q1;rw[es,eB]at q2;rw[q1,q2]at dY;omega
 .have e2:dep (lmix 1 v (-1) x)=dep v:=by omega
  rw[e2,lv.2.2,<-e,lx.2.2]at dY;omega
 .have e2:dep (lmix 1 v (-1) x)<dep v:=by omega
  rw[zY e2,zY (by omega)]at dY;omega
theorem zDT(o:OkW p n W){u w:V2}(hu:Base p n W u)(ru:Red u)(hw:Base p n W w)(xW:Red w)(h:∀f,Gen p n W u f->Gen p n W w f)(h':∀f,Gen p n W w f->Gen p n W u f):u=w:=by
 refine zKr hu.asc hw.asc λv=>⟨λhv=>?_,λhv=>?_⟩
 .have lv:=hu.led v hv;obtain⟨x,hx,e⟩:=QN o hw lv.1 (h _ (zQ hv)) lv.2.1;rw[zGz o hu ru hw xW h h' hv hx e];exact hx
 .have lv:=hw.led v hv;obtain⟨x,hx,e⟩:=QN o hu lv.1 (h' _ (zQ hv)) lv.2.1;rw[zGz o hw xW hu ru h' h hv hx e];exact hx
theorem zIT(o:OkW p n W){v:V1}{t t' s:V2}(hb:Base p n W (v::t))(gH:Base p n W t')(fX:Red t')(hg:∀f,Gen p n W t f↔Gen p n W t' f)(hs:Base p n W s)(uJ:∀x∈t',∃y∈s,dep y=dep x)(bK:∀y∈s,dep v<dep y)(cW:∀f,Gen p n W s f->Gen p n W t' f)(yi:∀x∈t',dep v<dep x):
  Base p n W (redL p W s v::t')/\Red (redL p W s v::t')/\(∀f,Gen p n W (v::t) f↔Gen p n W (redL p W s v::t') f)/\dep (redL p W s v)=dep v:=by
 cases hb with
 |cons hv ha hc Fb=>
 have bg:=Zj o hs.els hv.1;obtain⟨h1,h2⟩:=zAQ o hs.led hs.asc hv.1;have vE:=zBK o hs.els hv.1;have dE:∀j,j<=dep v->at_ (redL p W s v) j=at_ v j:=λj hj=>h2 j λy hy=>by have:=bK y hy;omega
 have eB:dep (redL p W s v)=dep v:=zAr (λj hj=>by rw[dE j (by omega)];exact zY hj) (by rw[dE _ (vM _),hv.2.2];decide);refine⟨.cons ⟨bg,by rw[eB];exact hv.2.1,by rw[eB,dE _ (vM _)];exact hv.2.2⟩ (λx hx=>by rw[eB];exact yi x hx) ?_ gH,List.pairwise_cons.2 ⟨λx hx=>?_,fX⟩,λf=>⟨λhf=>?_,λhf=>?_⟩,eB⟩
 .have q1:=(zM t').mul p _ (cW _ vE);have q2:=(zM t').sub ((hg _).1 hc) q1;exact(zM t').eqv _ _ (Eqv.of_eq λj=>by rw[Int.mul_sub];omega) q2
 .obtain⟨y,hy,e⟩:=uJ x hx;rw[<-e];exact h1 y hy
 .refine qw (λx hx=>?_) hf;rcases List.mem_cons.1 hx with rfl|hx
  .have q1:Gen p n W (redL p W s x::t') λj=>at_ x j-at_ (redL p W s x) j:=zb (λy hy=>by simp[hy]) (cW _ vE);have q2:=(zM (redL p W s x::t')).add _ _ q1 (zQ (v:=redL p W s x) (by simp));exact(zM _).eqv _ _ (Eqv.of_eq λj=>by omega) q2
  .exact zb (λy hy=>by simp[hy]) ((hg _).1 (zQ hx))
 .refine qw (λx hx=>?_) hf;rcases List.mem_cons.1 hx with rfl|hx
  .have q1:Gen p n W (v::t) λj=>at_ v j-at_ (redL p W s v) j:=zb (λy hy=>by simp[hy]) ((hg _).2 (cW _ vE));have q2:=(zM (v::t)).sub (zQ (v:=v) (by simp)) q1;exact(zM _).eqv _ _ (Eqv.of_eq λj=>by omega) q2
  .exact zb (λy hy=>by simp[hy]) ((hg _).2 (zQ hx))
def finS(p:Int)(W:V2):V2->V2
 |[]=>[]
 |v::t=>redL p W t v::finS p W t
def finI(p:Int)(W:V2):V2->V2
 |[]=>[]
 |v::t=>redL p W (finI p W t) v::finI p W t
structure Canon(p:Int)(n:Nat)(W:V2)(gens out:V2):Prop where
 base:Base p n W out
 red:Red out
 gen:∀f,Gen p n W gens f↔Gen p n W out f
theorem zKb(o:OkW p n W):∀{u:V2},Base p n W u->Canon p n W u (finS p W u)/\(finS p W u).map dep=u.map dep
 |_,.nil=>⟨⟨.nil,List.Pairwise.nil,λ_=>Iff.rfl⟩,rfl⟩
 |_,.cons (v:=v) (u:=t) hv ha hc hb=>by
  obtain⟨c,hd⟩:=zKb o hb;have dd:∀x∈finS p W t,∃y∈t,dep y=dep x:=λx hx=>by
   have:dep x∈t.map dep:=by rw[<-hd];exact List.mem_map_of_mem hx
   obtain⟨y,hy,e⟩:=List.mem_map.1 this;exact⟨y,hy,e⟩
  obtain⟨q1,q2,q3,q4⟩:=zIT o (.cons hv ha hc hb) c.base c.red c.gen hb dd ha (λf hf=>(c.gen f).1 hf) λx hx=>by
   obtain⟨y,hy,e⟩:=dd x hx;have:=ha y hy;omega
  exact⟨⟨q1,q2,q3⟩,by simp only[finS,List.map_cons,q4,hd]⟩
theorem zGM(o:OkW p n W):∀{u:V2},Base p n W u->Canon p n W u (finI p W u)/\(finI p W u).map dep=u.map dep
 |_,.nil=>⟨⟨.nil,List.Pairwise.nil,λ_=>Iff.rfl⟩,rfl⟩
 |_,.cons (v:=v) (u:=t) hv ha hc hb=>by
  obtain⟨c,hd⟩:=zGM o hb;have dd:∀x∈finI p W t,dep v<dep x:=λx hx=>by
   have:dep x∈t.map dep:=by rw[<-hd];exact List.mem_map_of_mem hx
   obtain⟨y,hy,e⟩:=List.mem_map.1 this
   have:=ha y hy;omega
  obtain⟨q1,q2,q3,q4⟩:=zIT o (.cons hv ha hc hb) c.base c.red c.gen c.base (λx hx=>⟨x,hx,rfl⟩) dd (λf hf=>hf) dd;exact⟨⟨q1,q2,q3⟩,by simp only[finI,List.map_cons,q4,hd]⟩
theorem Canon.unique(o:OkW p n W){gens a b:V2}(ha:Canon p n W gens a)(hb:Canon p n W gens b):a=b:=
 zDT o ha.base ha.red hb.base hb.red (λf hf=>(hb.gen f).1 ((ha.gen f).2 hf)) λf hf=>(ha.gen f).1 ((hb.gen f).2 hf)
theorem Canon.trans{gens u out:V2}(h:Canon p n W u out)(hg:∀f,Gen p n W gens f↔Gen p n W u f):Canon p n W gens out:=⟨h.base,h.red,λf=>(hg f).trans (h.gen f)⟩
abbrev Dp(u:V2)(d:Nat):V2:=u.filter λv=>decide (d<dep v)
abbrev Fp(u:V2)(d:Nat):V2:=u.filter λv=>decide (d<=dep v)
structure Grow(p:Int)(n:Nat)(W gens u Q:V2):Prop where
 led:∀v∈u,Led p n v
 asc:Asc u
 els:∀x∈Q,El p n x
 clo:∀v∈u,Gen p n W (Dp u (dep v)) (λj=>p*at_ v j)\/∃x∈Q,dep v<dep x/\Gen p n W (Dp u (dep v)) λj=>p*at_ v j-at_ x j
 gen:∀f,Gen p n W gens f↔Gen p n W (u++Q) f
theorem Grow.perm{gens u Q Q':V2}(g:Grow p n W gens u Q)(h:∀x,x∈Q↔x∈Q'):Grow p n W gens u Q':=
 ⟨g.led,g.asc,λx hx=>g.els x ((h x).2 hx),λv hv=>(g.clo v hv).imp id λ⟨x,hx,r⟩=>⟨x,(h x).1 hx,r⟩,
  λf=>(g.gen f).trans ⟨zb λv hv=>by simp only[List.mem_append]at hv ⊢;exact hv.imp id (h v).1,zb λv hv=>by simp only[List.mem_append]at hv ⊢;exact hv.imp id (h v).2⟩⟩
theorem Grow.start{gens:V2}(h:∀v∈gens,El p n v):Grow p n W gens [] gens:=⟨λv hv=>(by cases hv),List.Pairwise.nil,h,λv hv=>(by cases hv),λf=>Iff.rfl⟩
theorem Grow.replace{gens u Q:V2}{g x:V1}(h:Grow p n W gens u (g::Q))(hx:El p n x)(hd:dep g<=dep x)(hg:Gen p n W (Fp u (dep g)) λj=>at_ g j-at_ x j):Grow p n W gens u (x::Q):=by
 have sV:∀M:V2,(∀v∈u,v∈M)->Gen p n W M λj=>at_ g j-at_ x j:=λM hM=>zb (λv hv=>hM v (List.mem_filter.1 hv).1) hg;refine⟨h.led,h.asc,λy hy=>(List.mem_cons.1 hy).elim (λe=>e ▸ hx) λhy=>h.els y (by simp[hy]),λv hv=>?_,λf=>(h.gen f).trans ⟨qw λy hy=>?_,qw λy hy=>?_⟩⟩
 .rcases h.clo v hv with h1|⟨y,hy,h1,h2⟩
  .exact .inl h1
  .rcases List.mem_cons.1 hy with rfl|hy
   .refine .inr ⟨x,by simp,by omega,?_⟩;have q1:Gen p n W (Dp u (dep v)) λj=>at_ y j-at_ x j:=zb (λw hw=>by
     simp only[List.mem_filter,decide_eq_true_eq]at hw ⊢;exact⟨hw.1,by omega⟩) hg
    have q2:=(zM _).add _ _ h2 q1;exact(zM _).eqv _ _ (Eqv.of_eq λj=>by omega) q2
   .exact .inr ⟨y,by simp[hy],h1,h2⟩
 .simp only[List.mem_append,List.mem_cons]at hy;rcases hy with hy|rfl|hy
  .exact zQ (by simp[hy])
  .have q1:=(zM (p:=p) (n:=n) (W:=W) (u++x::Q)).add _ _ (sV _ λv hv=>by simp[hv]) (zQ (v:=x) (by simp));exact(zM _).eqv _ _ (Eqv.of_eq λj=>by omega) q1
  .exact zQ (by simp[hy])
 .simp only[List.mem_append,List.mem_cons]at hy;rcases hy with hy|rfl|hy
  .exact zQ (by simp[hy])
  .have q1:=(zM (p:=p) (n:=n) (W:=W) (u++g::Q)).sub (zQ (v:=g) (by simp)) (sV _ λv hv=>by simp[hv]);exact(zM _).eqv _ _ (Eqv.of_eq λj=>by omega) q1
  .exact zQ (by simp[hy])
theorem Grow.drop{gens u Q:V2}{x:V1}(h:Grow p n W gens u (x::Q))(h0:∀j,at_ x j=0):Grow p n W gens u Q:=by
 have hz:∀M:V2,Gen p n W M (at_ x):=λM=>(zM M).eqv _ _ (Eqv.of_eq h0) (zM M).zero;refine⟨h.led,h.asc,λy hy=>h.els y (by simp[hy]),λv hv=>?_,λf=>(h.gen f).trans ⟨qw λy hy=>?_,zb λy hy=>by simp only[List.mem_append,List.mem_cons]at hy ⊢;exact hy.imp id .inr⟩⟩
 .rcases h.clo v hv with h1|⟨y,hy,h1,h2⟩
  .exact .inl h1
  .rcases List.mem_cons.1 hy with rfl|hy
   .exact .inl ((zM _).eqv _ _ (Eqv.of_eq λj=>by rw[h0 j];omega) h2)
   .exact .inr ⟨y,hy,h1,h2⟩
 .simp only[List.mem_append,List.mem_cons]at hy;rcases hy with hy|rfl|hy
  .exact zQ (by simp[hy])
  .exact hz _
  .exact zQ (by simp[hy])
def insD:V2->V1->V2
 |[],x=>[x]
 |v::u,x=>if dep v<dep x then v::insD u x else x::v::u
theorem ZN:∀{u:V2} {x v:V1},v∈insD u x↔v=x\/v∈u
 |[],x,v=>by simp[insD]
 |w::u,x,v=>by
  simp only[insD];split
  .rw[List.mem_cons,ZN,List.mem_cons];constructor
   .rintro(h|h|h);exact .inr (.inl h);exact .inl h;exact .inr (.inr h)
   .rintro(h|h|h);exact .inr (.inl h);exact .inl h;exact .inr (.inr h)
  .simp
theorem zIO:∀{u:V2} {x:V1},Asc u->(∀v∈u,dep v≠dep x)->Asc (insD u x)
 |[],x,_,_=>List.pairwise_singleton _ _
 |w::u,x,hu,hx=>by
  obtain⟨h1,h2⟩:=List.pairwise_cons.1 hu;simp only[insD];split
  .rename_i ah;refine List.pairwise_cons.2 ⟨λv hv=>?_,zIO h2 λv hv=>hx v (by simp[hv])⟩;rcases ZN.1 hv with rfl|hv
   .exact ah
   .exact h1 v hv
  .rename_i aG
   have:=hx w (by simp)
   refine List.pairwise_cons.2 ⟨λv hv=>?_,hu⟩;rcases List.mem_cons.1 hv with rfl|hv
   .omega
   .have:=h1 v hv;omega
theorem QM:∀(u:V2) (x:V1),(insD u x).length=u.length+1
 |[],x=>rfl
 |w::u,x=>by simp only[insD];split<;>simp[QM u x]
theorem Grow.insert{gens u Q:V2}{x y z:V1}(h:Grow p n W gens u (x::Q))(hy:Led p n y)(hd:dep y=dep x)(fJ:∀v∈u,dep v≠dep x)(jb:Gen p n W [y] (at_ x))(pF:Gen p n W [x] (at_ y))(hz:El p n z)(H2:dep y<dep z)(Ex:Eqv p n W (at_ z) λj=>p*at_ y j):Grow p n W gens (insD u y) (z::Q):=by
 have sub:∀d,∀v∈Dp u d,v∈Dp (insD u y) d:=λd v hv=>by
  simp only[List.mem_filter,decide_eq_true_eq]at hv ⊢;exact⟨ZN.2 (.inr hv.1),hv.2⟩
 have yT:∀d,d<dep y->y∈Dp (insD u y) d:=λd hd=>by
  simp only[List.mem_filter,decide_eq_true_eq];exact⟨ZN.2 (.inl rfl),hd⟩
 refine⟨λv hv=>?_,zIO h.asc λv hv=>by rw[hd];exact fJ v hv,λv hv=>?_,λv hv=>?_,λf=>(h.gen f).trans ⟨qw λv hv=>?_,qw λv hv=>?_⟩⟩
 .rcases ZN.1 hv with rfl|hv
  .exact hy
  .exact h.led v hv
 .rcases List.mem_cons.1 hv with rfl|hv
  .exact hz
  .exact h.els v (by simp[hv])
 .rcases ZN.1 hv with rfl|hv
  .refine .inr ⟨z,by simp,H2,?_⟩
   have:=Ex.symm.add (Eqv.refl (p:=p) (n:=n) (W:=W) λj=>- at_ z j)
   refine(zM _).eqv _ _ ((Eqv.of_eq λj=>?_).trans (this.trans (Eqv.of_eq λj=>?_))) (zM _).zero
   .omega
   .omega
  .rcases h.clo v hv with h1|⟨t,ht,h1,h2⟩
   .exact .inl (zb (sub _) h1)
   .rcases List.mem_cons.1 ht with rfl|ht
    .have q1:Gen p n W (Dp (insD u y) (dep v)) (at_ t):=zb (λw hw=>by rw[List.mem_singleton.1 hw];exact yT _ (by omega)) jb;have q2:=(zM _).add _ _ (zb (sub (dep v)) h2) q1;exact .inl ((zM _).eqv _ _ (Eqv.of_eq λj=>by omega) q2)
    .exact .inr ⟨t,by simp[ht],h1,zb (sub _) h2⟩
 .simp only[List.mem_append,List.mem_cons]at hv;rcases hv with hv|rfl|hv
  .exact zQ (by simp[ZN,hv])
  .exact zb (λw hw=>by rw[List.mem_singleton.1 hw];simp[ZN]) jb
  .exact zQ (by simp[hv])
 .simp only[List.mem_append,List.mem_cons,ZN]at hv;have tX:Gen p n W (u++x::Q) (at_ y):=zb (λw hw=>by rw[List.mem_singleton.1 hw];simp) pF;rcases hv with (rfl|hv)|rfl|hv
  .exact tX
  .exact zQ (by simp[hv])
  .exact(zM _).eqv _ _ Ex ((zM _).mul p _ tX)
  .exact zQ (by simp[hv])
theorem zJ2{v:V1}{t:V2}(h:∀w∈t,dep v<dep w):Dp (v::t) (dep v)=t:=by
 rw[Dp,List.filter_cons,if_neg (by simp)];exact List.filter_eq_self.2 λw hw=>by simpa using h w hw
theorem Grow.base{gens:V2}:∀{u:V2},Grow p n W gens u []->Base p n W u:=by
 have key:∀(u:V2),(∀v∈u,Led p n v)->Asc u->(∀v∈u,Gen p n W (Dp u (dep v)) λj=>p*at_ v j)->Base p n W u:=by
  intro u
  induction u with
  |nil=>intro _ _ _;exact .nil
  |cons v t ih=>
   intro hl ha hc;obtain⟨h1,h2⟩:=List.pairwise_cons.1 ha;have hv:=hc v (by simp);rw[zJ2 h1]at hv;refine .cons (hl v (by simp)) h1 hv (ih (λw hw=>hl w (by simp[hw])) h2 λw hw=>?_);have mP:=hc w (by simp[hw])
   have:Dp (v::t) (dep w)=Dp t (dep w):=by
    rw[Dp,List.filter_cons,if_neg (by have:=h1 w hw;simp;omega)]
   rwa[this]at mP
 intro u h;exact key u h.led h.asc λv hv=>(h.clo v hv).elim id λ⟨x,hx,_⟩=>by cases hx
theorem Grow.done{gens u out:V2}(h:Grow p n W gens u [])(c:Canon p n W u out):Canon p n W gens out:=c.trans λf=>by
 have:=h.gen f
 rwa[List.append_nil]at this
theorem ZV{u:V2}(hl:∀v∈u,dep v<n)(ha:Asc u):u.length<=n:=by
 have:∀(u:V2) (m:Nat),(∀v∈u,m<=dep v/\dep v<n)->Asc u->m+u.length<=max m n:=by
  intro u
  induction u with
  |nil=>intro m _ _;simp;omega
  |cons v t ih=>
   intro m hm ha;obtain⟨h1,h2⟩:=List.pairwise_cons.1 ha;have q:=hm v (by simp)
   have:=ih (dep v+1) (λw hw=>⟨h1 w hw,(hm w (by simp[hw])).2⟩) h2
   rw[List.length_cons];omega
 have:=this u 0 (λv hv=>⟨Nat.zero_le _,hl v hv⟩) ha
 omega
theorem zKz(hp:0<p){a k:Int}(h:0<=a/\a<=p-1)(e:a=0-k*p):a=0:=by
 rcases Int.lt_trichotomy k 0 with x|x|x
 .have:=Int.mul_le_mul_of_nonneg_right (show k<=-1 by omega) (show 0<=p by omega)
  omega
 .rw[x]at e;omega
 .have:=Int.mul_le_mul_of_nonneg_right (show 1<=k by omega) (show 0<=p by omega)
  omega
theorem zCi(o:OkW p n W){z:V1}{g:Vec}(hz:El p n z)(h:Eqv p n W (at_ z) g){m:Nat}(hm:m<=n)(hg:∀j,j<m->g j=0):∀j,j<m->at_ z j=0:=by
 intro j hj;have hp:=o.pr;unfold okp at hp;obtain⟨k,hk⟩:=(QF o h (d:=j) (by omega) (λi _=>hz.at0 o i) (λi hi=>by rw[hg i (by omega)];omega)).2;rw[hg j hj]at hk;exact zKz (by omega) (hz.at0 o j) hk
theorem zDe{u:V2}{d:Nat}(h:∀v∈u,d<=dep v):Fp u d=u:=List.filter_eq_self.2 λv hv=>by simpa using h v hv
theorem zGB(o:OkW p n W):∀{u:V2} {g:V1},(∀v∈u,El p n v)->Asc u->El p n g->redL p W u g=redL p W (Fp u (dep g)) g
 |[],g,_,_,_=>rfl
 |v::u,g,hu,ha,hg=>by
  obtain⟨h1,h2⟩:=List.pairwise_cons.1 ha;by_cases hd:dep g<=dep v
  .rw[zDe];intro w hw;rcases List.mem_cons.1 hw with rfl|hw
   .exact hd
   .have:=h1 w hw;omega
  .have e:Fp (v::u) (dep g)=Fp u (dep g):=by rw[Fp,List.filter_cons,if_neg (by simpa using hd)]
   rw[e,redL,zMM o hg (hu v (by simp)) (zY (by omega))];exact zGB o (λw hw=>hu w (by simp[hw])) h2 hg
theorem zF0{u:V2}{d:Nat}{v:V1}:v∈Fp u d↔v∈u/\d<=dep v:=by simp[Fp]
theorem zN8(o:OkW p n W){u:V2}{g:V1}(hu:∀v∈u,Led p n v)(ha:Asc u)(hg:El p n g):dep g<=dep (redL p W u g):=by
 have bg:=Zj o (λv hv=>(hu v hv).1) hg;refine dep_ge (by rw[bg.1,<-hg.1];exact Zz g) λj hj=>?_;rw[zGB o (λv hv=>(hu v hv).1) ha hg]
 have:=(zAQ o (u:=Fp u (dep g)) (λv hv=>hu v (zF0.1 hv).1) (ha.sublist List.filter_sublist) hg).2 j λv hv=>by have:=(zF0.1 hv).2;omega
 rw[this];exact zY hj
theorem Grow.reduce(o:OkW p n W){gens u Q:V2}{g:V1}(h:Grow p n W gens u (g::Q)):Grow p n W gens u (redL p W u g::Q):=by
 have hg:=h.els g (by simp);have he:∀v∈u,El p n v:=λv hv=>(h.led v hv).1;refine h.replace (Zj o he hg) (zN8 o h.led h.asc hg) ?_;rw[zGB o he h.asc hg];exact zBK o (λv hv=>he v (zF0.1 hv).1) hg
theorem Grow.reduce1(o:OkW p n W){gens u Q:V2}{g v:V1}(h:Grow p n W gens u (g::Q))(hv:v∈u)(hd:dep v=dep g):Grow p n W gens u (red1 p W g v::Q)/\dep g<dep (red1 p W g v):=by
 have hg:=h.els g (by simp);have lv:=h.led v hv;have bg:=zB7 o hg lv.1;have Js:dep g<dep (red1 p W g v):=dep_ge (by rw[bg.1];have:=lv.2.1;omega) λj hj=>by
  rw[zDl o hg lv (by omega)];split
  .rfl
  .exact zY (by omega)
 refine⟨h.replace bg (by omega) ?_,Js⟩;have q1:=(zM (p:=p) (n:=n) (W:=W) (Fp u (dep g))).mul (at_ g (dep v)) _ (zQ (zF0.2 ⟨hv,by omega⟩));refine(zM _).eqv _ _ ?_ q1
 have:=(zEU o hg lv.1).symm.add (Eqv.refl (p:=p) (n:=n) (W:=W) λj=>at_ g (dep v)*at_ v j-at_ (red1 p W g v) j)
 refine(Eqv.of_eq λj=>?_).trans (this.trans (Eqv.of_eq λj=>?_))
 .omega
 .omega
theorem Zw(o:OkW p n W){x:V1}(hx:El p n x)(k:Int):El p n (norm p W (lmix k x 0 x))/\Eqv p n W (at_ (norm p W (lmix k x 0 x))) λj=>k*at_ x j:=by
 have hl:(lmix k x 0 x).length=n:=by rw[zT rfl];exact hx.1
 exact⟨zBA o hl,(qX o hl).trans (Eqv.of_eq λj=>by rw[zo rfl];omega)⟩
theorem zBa(o:OkW p n W){x:V1}(hx:El p n x)(hd:dep x<n){k:Int}(hk:at_ x (dep x)*k % p=1):
  Led p n (norm p W (lmix k x 0 x))/\dep (norm p W (lmix k x 0 x))=dep x/\Gen p n W [norm p W (lmix k x 0 x)] (at_ x)/\Gen p n W [x] (at_ (norm p W (lmix k x 0 x))):=by
 have hp:=o.pr;unfold okp at hp;have hl:(lmix k x 0 x).length=n:=by rw[zT rfl];exact hx.1
 obtain⟨bg,heq⟩:=Zw o hx k;have hz:∀j,j<dep x->at_ (lmix k x 0 x) j=0:=λj hj=>by rw[zo rfl,zY hj];simp
 have h1:=zAk o hl (by omega) hz;have h2:=zDF o hl hd hz;have e:at_ (lmix k x 0 x) (dep x)=at_ x (dep x)*k:=by rw[zo rfl,Int.mul_comm k];omega
 rw[e,hk]at h2;have eB:dep (norm p W (lmix k x 0 x))=dep x:=zAr h1 (by rw[h2];decide);refine⟨⟨bg,by rw[eB];exact hd,by rw[eB];exact h2⟩,eB,?_,?_⟩
 .obtain⟨t,ht⟩:∃t,at_ x (dep x)*k=1+p*t:=⟨at_ x (dep x)*k / p,by have:=Int.emod_add_mul_ediv (at_ x (dep x)*k) p;omega⟩
  obtain⟨e,s,Jm⟩:=inv_one (p:=p) t n (by omega);have g1:=(zM (p:=p) (n:=n) (W:=W) [norm p W (lmix k x 0 x)]).mul (e*at_ x (dep x)) _ (zQ (List.mem_singleton.2 rfl));have k1:=(Qr o (f:=at_ x) λj hj=>hx.beyond hj).mul (-s);refine(zM _).eqv _ _ ?_ g1;have h3:=heq.symm.mul (e*at_ x (dep x));have h4:=h3.add k1;refine(Eqv.of_eq λj=>?_).trans (h4.trans (Eqv.of_eq λj=>by simp))
  have:e*at_ x (dep x)*(k*at_ x j)=(e*(at_ x (dep x)*k))*at_ x j:=by simp only[Int.mul_assoc]
  rw[this,ht,Jm,Int.add_mul,Int.one_mul]
  have:-s*(pw_ p n*at_ x j)=-(pw_ p n*s*at_ x j):=by rw[Int.neg_mul,Int.mul_left_comm,Int.mul_assoc]
  rw[this];omega
 .refine(zM _).eqv _ _ heq ((zM _).mul k _ (zQ (List.mem_singleton.2 rfl)))
theorem zHm(o:OkW p n W){y:V1}(hy:El p n y)(hd:dep y<n):dep y<dep (norm p W (lmix p y 0 y)):=by
 obtain⟨bg,heq⟩:=Zw o hy p;obtain⟨g,h1,h2,h3⟩:=push o hd (f:=at_ y) (λj hj=>zY hj) λj hj=>hy.beyond hj
 have:=zCi o bg (heq.trans h1) (m:=dep y+1) (by omega) λj hj=>h2 j (by omega)
 exact dep_ge (by rw[bg.1];omega) this
theorem Grow.take(o:OkW p n W){gens u Q:V2}{x:V1}{k:Int}(h:Grow p n W gens u (x::Q))(hd:dep x<n)(fJ:∀v∈u,dep v≠dep x)(hk:at_ x (dep x)*k % p=1):
  Grow p n W gens (insD u (norm p W (lmix k x 0 x))) (norm p W (lmix p (norm p W (lmix k x 0 x)) 0 (norm p W (lmix k x 0 x)))::Q):=by
 have hx:=h.els x (by simp);obtain⟨h1,h2,h3,h4⟩:=zBa o hx hd hk;obtain⟨h5,h6⟩:=Zw o h1.1 p;exact h.insert h1 h2 fJ h3 h4 h5 (zHm o h1.1 h1.2.1) h6
theorem zQv{p a:Int}(hp:p=2\/p=3\/p=5\/p=7)(h1:0<a)(h2:a<p):∃x,1<=x/\x<p/\a*x % p=1:=by
 rcases hp with rfl|rfl|rfl|rfl
 .exact⟨1,by omega,by omega,by
   have:a=1:=by omega
   subst this;decide⟩
 .obtain rfl|rfl:a=1\/a=2:=by omega
  .exact⟨1,by decide,by decide,by decide⟩
  .exact⟨2,by decide,by decide,by decide⟩
 .obtain rfl|rfl|rfl|rfl:a=1\/a=2\/a=3\/a=4:=by omega
  .exact⟨1,by decide,by decide,by decide⟩
  .exact⟨3,by decide,by decide,by decide⟩
  .exact⟨2,by decide,by decide,by decide⟩
  .exact⟨4,by decide,by decide,by decide⟩
 .obtain rfl|rfl|rfl|rfl|rfl|rfl:a=1\/a=2\/a=3\/a=4\/a=5\/a=6:=by omega
  .exact⟨1,by decide,by decide,by decide⟩
  .exact⟨4,by decide,by decide,by decide⟩
  .exact⟨5,by decide,by decide,by decide⟩
  .exact⟨2,by decide,by decide,by decide⟩
  .exact⟨3,by decide,by decide,by decide⟩
  .exact⟨6,by decide,by decide,by decide⟩
end Go.Lie
namespace Go.Proofs
open Go.Ab Go.Lie
variable{σ:PHeap}{K:PV->PHeap->Prop}{p:Int}{n:Nat}{W:V2}{B:V3}{vP vB vU:PV}
theorem zGo{a p:Int}(hp:isP p)(ha:0<a/\a<p)(hk:∀x,1<=x->x<p->a*x % p=1->K (.int .i64 x) σ):zA Tryz.prog 183 [.int .i64 a,.int .i64 p] σ K:=by
 have dA:=hp.bd;obtain⟨y,kj,Bk,H5⟩:=zQv hp ha.1 ha.2;refine zD mix Tryz.func183 ?_
 conv=>arg 2;cbv
 refine zF rfl ?_;simp only[Z3,seval,-ae];refine zG (λm vs h'=>∃i:Int,1<=i/\i<=y/\m=(y-i).toNat/\vs=[.int .i64 a,.int .i64 p,.int .i64 i]/\σ=h') (y-1).toNat ?_ ?_
 .exact⟨1,by omega,kj,rfl,rfl,rfl⟩
 rintro m vs h' ⟨i,hi,My,rfl,rfl,rfl⟩
 have EX:i<p:=by omega
 simp only[Z3,seval,-ae,EX];refine zGn (by omega) (by omega) ?_;have nC:a % p=a:=Int.emod_eq_of_lt (by omega) (by omega);have hm:a*i<=49/\0<=a*i:=by
  have h1:=Int.mul_le_mul_of_nonneg_left (show i<=7 by omega) (show 0<=a by omega);have h2:=Int.mul_nonneg (show 0<=a by omega) (show 0<=i by omega);omega
 have gU:p≠0:=by omega
 rw[nC];simp only[Z3,seval,-ae,wrap64 (n:=a*i) (by omega) (by omega),gU];have e:(a*i).tmod p=a*i % p:=Int.tmod_eq_emod_of_nonneg hm.2;rw[e];by_cases h1:a*i % p=1
 .simp only[Z3,seval,-ae,h1];exact hk i hi EX h1
 .have ar:i≠y:=λe=>h1 (by rw[e];exact H5);simp only[Z3,seval,-ae,h1,wrap64 (n:=i+1) (by omega) (by omega)];exact⟨_,by omega,i+1,by omega,by omega,rfl,rfl⟩
theorem zJv{l:Nat}{w:Bool}{a:AV}{xs:V1}(hl:l=xs.length)(hb:xs.length<=1048576)(hk:K (.int .i64 (dep xs)) σ):zA Tryz.prog 280 [.fz w a l (pis xs)] σ K:=by
 subst hl;refine zD mix Tryz.func280 ?_
 conv=>arg 2;cbv
 refine zF rfl ?_;simp only[Z3,seval,-ae];refine zG (λm vs h'=>∃i:Nat,i<=dep xs/\m=dep xs-i/\vs=[.fz w a xs.length (pis xs),.int .i64 i]/\σ=h') (dep xs) ?_ ?_
 .exact⟨0,by omega,by omega,rfl,rfl⟩
 rintro m vs h' ⟨i,hi,rfl,rfl,rfl⟩
 have dZ:=Zz xs;by_cases ah:i<xs.length
 .simp only[Z3,seval,-ae,ah,zU,gi ah];refine iteI (λh0=>?_) λh0=>?_
  .have gW:i<dep xs:=by
    rcases Nat.lt_or_ge i (dep xs)with x|x
    .exact x
    .have:i=dep xs:=by omega
     subst this;exact absurd (by rw[at_eq ah];exact h0) (qa ah)
   simp only[Z3,seval,-ae,wrapS ah (by omega:xs.length<=4611686018427387904)];exact⟨_,by omega,i+1,by omega,rfl,rfl⟩
  .have gW:i=dep xs:=by
    rcases Nat.lt_or_ge i (dep xs)with x|x
    .exact absurd (by rw[<-at_eq ah];exact zY x) h0
    .omega
   subst gW;exact hk
 .have gW:i=dep xs:=by omega
  subst gW;simp only[Z3,seval,-ae,ah];exact hk
theorem zAe{l:Nat}{w:Bool}{a:AV}{xs:V1}(hl:l=xs.length)(hb:xs.length<=1048576)(hk:K (.int .i64 (dep xs)) σ):zA Tryz.prog 199 [.fz w a l (pis xs)] σ K:=by
 refine zD mix Tryz.func199 ?_
 conv=>arg 2;cbv
 refine zF rfl ?_;simp only[Z3,seval,-ae];refine zJv hl hb ?_;simp only[Z3,seval,-ae];exact hk
theorem zGm{l:Nat}{w:Bool}{a:AV}{xs:V1}(hl:l=xs.length)(hb:xs.length<=4294967296)(hk:∀v,K (.fz true v xs.length (pis xs)) σ):zA Tryz.prog 271 [.fz w a l (pis xs)] σ K:=
 zA.fz (λK'=>Z7 hl hb) (zL _ _) λo cap=>hk _
theorem zGc(u:V2)(v x:V1):redL p W (u++[v]) x=red1 p W (redL p W u x) v:=by
 induction u generalizing x with
 |nil=>rfl
 |cons w u ih=>rw[List.cons_append,redL,ih,redL]
theorem zAB{l:Nat}{w:Bool}{a:AV}{u:V2}{x:V1}(hR:IsR vP vB W B)(o:OkW p n W)(hL:FII vU u)(hu:∀v∈u,El p n v/\dep v<n)(cq:u.length<=1048576)(hx:El p n x)(hl:l=x.length)
  (hk:∀v,K (.fz true v n (pis (redL p W u x))) σ):zA Tryz.prog 197 [.agg [.int .i64 p,vP,vB],vU,.fz w a l (pis x)] σ K:=by
 have h1:=hR.P.one;have h2:=hR.B.one;have aN:=o.le;have hp:=o.pr;unfold okp at hp;obtain⟨wl,al,rl,rfl,bp⟩:=hL;refine zA.gh ?_;refine zN mix Tryz.func197 cf197 rfl ?_;dsimp only[if197,eI,qD,eD,mI0,kI0,bI0,cI0,sI0,C1,mD0,lD0,xD0,I0,zI0,R0,S0];simp only[Z3,seval,-ae,h1,h2];refine zGm hl (by rw[hx.1];omega) λv0=>?_;rw[hx.1];simp only[Z3,seval,-ae];refine zG (λm vs h'=>∃i:Nat,i<=u.length/\m=u.length-i/\∃v,vs=[.fz wl al u.length rl,.ptr σ.next 0,.fz true v n (pis (redL p W (u.take i) x)),.int .i64 i]/\σ.new [.int .i64 p,vP,vB]=h') u.length ?_ ?_
 .exact⟨0,by omega,by omega,v0,by rw[List.take_zero,redL];rfl,rfl⟩
 rintro m vs h' ⟨i,hi,rfl,v,rfl,rfl⟩
 simp only[Z3,seval,-ae];have bg:El p n (redL p W (u.take i) x):=Zj o (λv hv=>(hu v (List.mem_of_mem_take hv)).1) hx;refine iteI (λah=>?_) λaG=>?_
 .obtain⟨w4,a4,hr⟩:=bp.rowI ah;have dq:=hu _ (List.getElem_mem ah);have eG:redL p W (u.take (i+1)) x=red1 p W (redL p W (u.take i) x) u[i]:=by rw[List.take_succ_eq_append_getElem ah,zGc]
  generalize hy:redL p W (u.take i) x=y at *
  have dZ:dep u[i] < y.length:=by rw[bg.1];exact dq.2
  have tY:=bg.at o.pr (dep u[i]);rw[at_eq dZ]at tY;simp only[Z3,seval,-ae,ah,hr];refine zAe rfl (by rw[dq.1.1];omega) ?_;have cY:IntKind.i64.wrap (0-y[dep u[i]])=-y[dep u[i]]:=by rw[wrap64 (by omega) (by omega)];omega
  simp only[Z3,seval,-ae,ah,hr,dq.2,zU,gi dZ,cY];refine qW hR o bg dq.1 bg.1.symm rfl (by decide) (by omega) λv'=>?_;simp only[Z3,seval,-ae,wrapS ah (by omega:u.length<=4611686018427387904)];refine⟨_,by omega,i+1,by omega,rfl,v',?_⟩;rw[eG,red1,at_eq dZ]
 .have aK:i=u.length:=by omega
  subst aK;rw[List.take_length];exact Gh.fin0 (zC σ _) trivial (hk v)
theorem zGr:∀(u:V2) (x:V1) (k:Nat),k<=u.length->(∀j (h:j<u.length),j<k->dep u[j] < dep x)->(∀h:k<u.length,¬dep u[k] < dep x)->insD u x=u.take k++[x]++u.drop k
 |[],x,k,hk,_,_=>by
  have:k=0:=by simpa using hk
  subst this;rfl
 |v::u,x,0,_,_,h2=>by
  have:=h2 (by simp)
  simp only[List.getElem_cons_zero]at this;rw[insD,if_neg this];rfl
 |v::u,x,k+1,hk,h1,h2=>by
  have:=h1 0 (by simp) (by omega)
  simp only[List.getElem_cons_zero]at this;rw[insD,if_pos this,zGr u x k (by simpa using hk) (λj h hj=>by have:=h1 (j+1) (by simpa using h) (by omega);simpa using this) (λh=>by have:=h2 (by simpa using h);simpa using this)];rfl
theorem zIA{l:Nat}{w:Bool}{a:AV}{u:V2}{x:V1}(hL:FII vU u)(hu:∀v∈u,v.length<=1048576)(cq:u.length<=1048576)(aW:x.length<=1048576)(hl:l=x.length)
  (hk:∀v,FII v (insD u x)->K v σ):zA Tryz.prog 200 [vU,.fz w a l (pis x)] σ K:=by
 subst hl;obtain⟨wl,al,rl,rfl,bp⟩:=hL;refine zA.gh ?_;refine zD mix Tryz.func200 ?_
 conv=>arg 2;cbv
 refine zF rfl ?_;simp only[Z3,seval,-ae];refine zG (λm vs h'=>∃i:Nat,i<=u.length/\m=u.length-i/\vs=[.fz wl al u.length rl,.fz w a x.length (pis x),.int .i64 i]/\σ=h'/\∀j (h:j<u.length),j<i->dep u[j] < dep x) u.length ?_ ?_
 .exact⟨0,by omega,by omega,rfl,rfl,λj h hj=>by omega⟩
 rintro m vs h' ⟨i,hi,rfl,rfl,rfl,aj⟩
 have fin:(∀h:i<u.length,¬dep u[i] < dep x)->insD u x=u.take i++[x]++u.drop i:=zGr u x i hi aj;have tail:(∀h:i<u.length,¬dep u[i] < dep x)->∀v' h',Keep σ h'->PSl σ.next 1 h' v' (u.length+1) (rl.take i++[PV.fz w a x.length (pis x)]++rl.drop i)->Gh σ K v' h':=λhs v' h' bZ ha=>by
  have aR:All2 FI (rl.take i++[PV.fz w a x.length (pis x)]++rl.drop i) (insD u x):=by
   rw[fin hs];exact((bp.take i).append (All2.nil FI |>.snoc ⟨w,a,rfl⟩)).append (bp.drop i)
  exact ha.fin bZ (aR.bI 0) λo cap=>hk _ ⟨true,.sl o 0 (u.length+1) cap,_,by rw[QM],aR⟩
 have Is:=bp.1;have cG:i<=u.length:=hi;have ju:(rl.drop i).take (u.length-i)=rl.drop i:=List.take_of_length_le (by rw[List.length_drop];omega);by_cases ah:i<u.length
 .obtain⟨w4,a4,hr⟩:=bp.rowI ah;simp only[Z3,seval,-ae,ah,hr];refine zAe rfl (hu _ (List.getElem_mem ah)) ?_;simp only[Z3,seval,-ae,ah,hr];refine zAe rfl aW ?_;simp only[Z3,seval,-ae];refine iteI (λhd=>?_) λhd=>?_
  .simp only[Z3,seval,-ae,wrapS ah (by omega:u.length<=4611686018427387904)];refine⟨_,by omega,i+1,by omega,rfl,rfl,λj h hj=>?_⟩;by_cases e:j=i
   .subst e;exact hd
   .exact aj j h (by omega)
  .simp only[Z3,seval,-ae,cG,Nat.sub_zero];refine PSl.cat (bytes:=24) (σb:=σ) (n:=0) (cs:=[]) (zC σ _) (PSl.new _ 1 rfl (vM _)) (by rw[List.length_take];omega) (by omega) (by omega) λv1 h1 k1 a1=>?_;rw[List.nil_append,Nat.zero_add]at a1;simp only[Z3,seval,-ae];refine PSl.push (bytes:=24) k1 a1 (by omega) (by omega) λv2 h2 k2 a2=>?_;simp only[Z3,seval,-ae,cG,ju];refine PSl.cat (bytes:=24) k2 a2 (by rw[List.length_drop];omega) (by omega) (by omega) λv3 h3 k3 a3=>?_;simp only[Z3,seval,-ae];refine tail ?_ v3 h3 k3 ?_
   .exactλ_=>hd
   .have:i+1+(u.length-i)=u.length+1:=by omega
    rw[this]at a3;exact a3
 .simp only[Z3,seval,-ae,ah];simp only[Z3,seval,-ae,ah,Int.ofNat_le,cG,Nat.sub_zero];refine PSl.cat (bytes:=24) (σb:=σ) (n:=0) (cs:=[]) (zC σ _) (PSl.new _ 1 rfl (vM _)) (by rw[List.length_take];omega) (by omega) (by omega) λv1 h1 k1 a1=>?_;rw[List.nil_append,Nat.zero_add]at a1;simp only[Z3,seval,-ae];refine PSl.push (bytes:=24) k1 a1 (by omega) (by omega) λv2 h2 k2 a2=>?_;simp only[Z3,seval,-ae,cG,ju];refine PSl.cat (bytes:=24) k2 a2 (by rw[List.length_drop];omega) (by omega) (by omega) λv3 h3 k3 a3=>?_;simp only[Z3,seval,-ae];refine tail ?_ v3 h3 k3 ?_
  .exactλh=>absurd h ah
  .have:i+1+(u.length-i)=u.length+1:=by omega
   rw[this]at a3;exact a3
variable{vL:PV}
theorem Qm:∀u:V2,(finS p W u).length=u.length
 |[]=>rfl
 |v::t=>by simp[finS,Qm t]
theorem zIU:∀(u:V2) (k:Nat) (h:k<u.length),(finS p W u)[k]? = some (redL p W (u.drop (k+1)) u[k])
 |[],k,h=>by simp at h
 |v::t,0,h=>by simp[finS]
 |v::t,k+1,h=>by
  have:=zIU t k (by simpa using h)
  simp only[finS,List.getElem?_cons_succ,List.drop_succ_cons,List.getElem_cons_succ];exact this
theorem ZP{xs:V1}(h:isZ xs)(j:Nat):at_ xs j=0:=by
 rcases Nat.lt_or_ge j xs.length with x|x
 .rw[at_eq x];exact h _ (List.getElem_mem x)
 .exact at_ge x
theorem zBx{xs:V1}(h:¬isZ xs):dep xs<xs.length:=by
 rcases Nat.lt_or_ge (dep xs) xs.length with x|x
 .exact x
 .exact absurd (zO4 (by have:=Zz xs;omega)) h
theorem zQt{u:V2}{x:V1}(hz:∀v∈u,at_ x (dep v)=0)(hx:dep x<x.length):∀v∈u,dep v≠dep x:=λv hv e=>qa hx (by rw[<-e];exact hz v hv)
theorem zGj{gens:V2}(hR:IsR vP vB W B)(o:OkW p n W)(hp:isP p)(hL:FII vL gens)(he:Els p n gens)(jI:gens.length<=1048576)(hk:∀out rows cap,Canon p n W gens out->All2 FI rows out->full 1 cap out.length->K (.sl σ.next 0 out.length cap) (σ.new rows)):
  zA Tryz.prog 105 [.agg [.int .i64 p,vP,vB],vL] σ K:=by
 have h1:=hR.P.one;have h2:=hR.B.one;have aN:=o.le;have dA:=hp.bd;have sL:-1000000000<=p/\p<=1000000000:=by omega
 obtain⟨wl,al,rl,rfl,bp⟩:=hL;refine zA.gh ?_;refine zN mix Tryz.func105 cf105 rfl ?_;dsimp only[if105,eI,qD,eD,mI0,kI0,bI0,cI0,nI0,sI0,C1,C2,mD0,lD0,fD0,xD0,I0,zI0,R0,S0];simp only[Z3,seval,-ae,h1,h2];generalize hH:((σ.new [.int .i64 p,vP,vB]).new []).kill (σ.next+1)=H;have gZ:H.next=σ.next+2:=by rw[<-hH];simp only[Z3,seval,-ae]
 have fR:Keep σ H:=by rw[<-hH];exact((zC σ _).new _).kill (by omega)
 have jN:H.rd σ.next 0 3=some [.int .i64 p,vP,vB]:=by rw[<-hH];simp only[Z3,seval,-ae]
 have eU:H.rd1 σ.next 0=some (.int .i64 p):=by rw[<-hH];simp only[Z3,seval,-ae]
 have iU:∀{u Q:V2},Grow p n W gens u Q->(∀v∈u,El p n v/\dep v<n)/\u.length<=n:=λg=>⟨λv hv=>⟨(g.led v hv).1,(g.led v hv).2.1⟩,ZV (λv hv=>(g.led v hv).2.1) g.asc⟩
 refine ZG (λm vs h'=>∃i:Nat,i<=gens.length/\m=gens.length-i/\∃vU u,vs=[.fz wl al gens.length rl,.ptr σ.next 0,vU,.int .i64 i]/\H=h'/\FII vU u/\Grow p n W gens u (gens.drop i)) gens.length ?_ ?_
 .refine .fz (σ.next+1) [] (by simp only[Z3,seval,-ae]) trivial λo1=>.here ?_;rw[hH];refine⟨0,by omega,by omega,.fz true (.sl o1 0 0 (.known 0)) 0 [],[],?_,rfl,⟨_,_,_,rfl,All2.nil _⟩,by rw[List.drop_zero];exact Grow.start he⟩;simp only[Z3,seval,-ae];simp only[sbs,sb,capOK,vM,decide_true,and_self,if_true];rfl
 rintro m vs h' ⟨i,hi,rfl,vU,u,rfl,rfl,hU,hg⟩
 simp only[Z3,seval,-ae];refine iteI (λah=>?_) λaG=>?_
 .obtain⟨w4,a4,hr⟩:=bp.rowI ah;have aG:=he _ (List.getElem_mem ah);have hd:gens.drop i=gens[i]::gens.drop (i+1):=List.drop_eq_getElem_cons ah;rw[hd]at hg;simp only[Z3,seval,-ae,ah,hr,jN,eU];refine zAB hR o hU (iU hg).1 (by have:=(iU hg).2;omega) aG rfl λv0=>?_;simp only[Z3,seval,-ae];refine zG (λm vs h'=>∃vU u vX x,m=n-u.length/\vs=[.fz wl al gens.length rl,.ptr σ.next 0,vU,.int .i64 i,.fz true vX n (pis x)]/\H=h'/\FII vU u/\Grow p n W gens u (x::gens.drop (i+1))/\∀v∈u,at_ x (dep v)=0) (n-u.length) ?_ ?_
  .exact⟨vU,u,v0,_,rfl,rfl,rfl,hU,hg.reduce o,(zAQ o hg.led hg.asc aG).1⟩
  rintro m vs h' ⟨vU,u,vX,x,rfl,rfl,rfl,hU,hg,hz⟩
  have hx:=hg.els x (by simp);have aW:=hx.1;simp only[Z3,seval,-ae];refine Qf aW.symm (by omega) ?_;by_cases h0:isZ x
  .simp only[Z3,seval,-ae,h0,wrapS ah (by omega:gens.length<=4611686018427387904)];exact⟨_,by omega,.here ⟨i+1,by omega,rfl,vU,u,rfl,rfl,hU,hg.drop (ZP h0)⟩⟩
  .have dN:dep x<x.length:=zBx h0;have dY:dep x<n:=by omega
   have Bo:=hx.at0 o (dep x);have ar:=qa dN;rw[at_eq dN]at Bo ar;simp only[Z3,seval,-ae,h0,jN,eU];refine zAe aW.symm (by omega) ?_;simp only[Z3,seval,-ae,dY,dN,gi dN,zU,jN,eU];refine zGo hp (by omega) λk fe bV mC=>?_;simp only[Z3,seval,-ae,dY,dN,gi dN,zU,jN,eU];refine qW hR o hx hx aW.symm aW.symm (by omega) (by decide) λv1=>?_;have hT:=hg.take o dY (zQt hz dN) (k:=k) (by rw[at_eq dN];exact mC);obtain⟨y1,y2,y3,y4⟩:=zBa o hx dY (k:=k) (by rw[at_eq dN];exact mC);generalize norm p W (lmix k x 0 x)=y at *
   simp only[Z3,seval,-ae];refine zIA hU (λv hv=>by rw[((iU hg).1 v hv).1.1];omega) (by have:=(iU hg).2;omega) (by rw[y1.1.1];omega) y1.1.1.symm λGF Ff=>?_;simp only[Z3,seval,-ae,jN,eU];refine qW hR o y1.1 y1.1 y1.1.1.symm y1.1.1.symm sL (by decide) λv2=>?_;obtain⟨z1,z2⟩:=Zw o y1.1 p;generalize norm p W (lmix p y 0 y)=z at *
   simp only[Z3,seval,-ae,jN,eU];refine zAB hR o Ff (iU hT).1 (by have:=(iU hT).2;omega) z1 z1.1.symm λv3=>?_;simp only[Z3,seval,-ae];have hlen:=(iU hT).2;rw[QM]at hlen;exact⟨_,by rw[QM];omega,GF,insD u y,v3,_,rfl,rfl,Ff,hT.reduce o,(zAQ o hT.led hT.asc z1).1⟩
 .have aK:i=gens.length:=by omega
  subst aK;rw[List.drop_length]at hg;have fC:=hg.base;have Mm:=(iU hg).2;obtain⟨bE,_⟩:=zKb o fC;obtain⟨wu,au,ru,rfl,dt⟩:=hU;have Ip:=dt.1;refine zG (λm vs h'=>∃k:Nat,k<=u.length/\m=u.length-k/\∃vO rows,vs=[.ptr σ.next 0,.fz wu au u.length ru,vO,.int .i64 k]/\Keep H h'/\PSl H.next 1 h' vO k rows/\All2 FI rows ((finS p W u).take k)) u.length ?_ ?_
  .exact⟨0,by omega,by omega,_,[],rfl,zC H _,PSl.new _ 1 rfl (vM _),by simpa using All2.nil _⟩
  rintro m vs h' ⟨k,bZ,rfl,vO,rows,rfl,aq,ha,an⟩
  simp only[Z3,seval,-ae];refine iteI (λah=>?_) λaG=>?_
  .obtain⟨w5,a5,cw⟩:=dt.rowI ah;have hle:k+1<=u.length:=ah;have ju:(ru.drop (k+1)).take (u.length-(k+1))=ru.drop (k+1):=List.take_of_length_le (by rw[List.length_drop];omega);have CX:h'.rd σ.next 0 3=some [.int .i64 p,vP,vB]:=by rw[aq.rd (by omega)];exact jN
   simp only[Z3,seval,-ae,ah,cw,CX,hle,ju,wrapS ah (by omega:u.length<=4611686018427387904)];refine zAB hR o (u:=u.drop (k+1)) ⟨false,pslA 1 au (k+1) u.length,_,by rw[List.length_drop],dt.drop _⟩ (λv hv=>(iU hg).1 v (List.mem_of_mem_drop hv)) (by rw[List.length_drop];omega) (fC.led _ (List.getElem_mem ah)).1 rfl λv1=>?_;simp only[Z3,seval,-ae];refine PSl.push (bytes:=24) aq ha (by omega) (by omega) λfq h2 k2 a2=>?_;simp only[Z3,seval,-ae,wrapS ah (by omega:u.length<=4611686018427387904)];refine⟨_,by omega,k+1,by omega,rfl,fq,_,rfl,k2,a2,?_⟩;have rF:=zIU (p:=p) (W:=W) u k ah;have jq:k<(finS p W u).length:=by rw[Qm];exact ah
   rw[List.take_succ_eq_append_getElem jq];rw[List.getElem?_eq_getElem jq]at rF;rw[Option.some.inj rF];have BN:=(Zj o (u:=u.drop (k+1)) (λv hv=>((iU hg).1 v (List.mem_of_mem_drop hv)).1) (fC.led _ (List.getElem_mem ah)).1).1;exact an.snoc ⟨true,v1,by rw[BN]⟩
  .have aK:k=u.length:=by omega
   subst aK;rw[List.take_of_length_le (by rw[Qm];exact vM _)]at an;obtain⟨s,cap,rfl,hc,q2,q3,q4,q5⟩:=ha;have fL:=hk (finS p W u) rows cap (hg.done bE) an (by rw[Qm];exact hc);rw[Qm]at fL;exact Gh.finS (fR.trans aq) q2 (by omega) (an.bI _) fL
theorem Qb{gens:V2}(hR:IsR vP vB W B)(o:OkW p n W)(hp:isP p)(hL:FII vL gens)(he:Els p n gens)(jI:gens.length<=1048576)(hk:∀v out,Canon p n W gens out->FII v out->K v σ):
  zA Tryz.prog 105 [.agg [.int .i64 p,vP,vB],vL] σ K:=by
 refine zA.gh (zGj hR o hp hL he jI λout rows cap hc hr bh=>?_);exact Gh.finF (s:=σ.next) (zC σ _) (by rw[zP,if_pos rfl]) (vM _) (hr.bI 0) bh.ok λo1=>hk _ out hc ⟨true,.sl o1 0 out.length cap,rows,rfl,hr⟩
variable{s:Nat}
def euc(p a:Int):Nat->Int×Int×Int×Int
 |0=>(p,a,0,1)
 |k+1=>let t:=euc p a k
  if t.2.1=0 then t else(t.2.1,t.1-t.1.tdiv t.2.1*t.2.1,t.2.2.2,t.2.2.1-t.1.tdiv t.2.1*t.2.2.2)
def eucOK(p a:Int)(k:Nat):Bool:=
 let t:=euc p a k
 decide (-7<=t.1/\t.1<=7/\-7<=t.2.1/\t.2.1<=7/\-7<=t.2.2.1/\t.2.2.1<=7/\-7<=t.2.2.2/\t.2.2.2<=7/\-7<=t.1.tdiv t.2.1/\t.1.tdiv t.2.1<=7/\-49<=t.1.tdiv t.2.1*t.2.1/\t.1.tdiv t.2.1*t.2.1<=49/\-49<=t.1.tdiv t.2.1*t.2.2.2/\t.1.tdiv t.2.1*t.2.2.2<=49/\(k=8->t.2.1=0)/\(t.2.1=0->a*(t.2.2.1 % p) % p=1 % p))
theorem zQG:∀p∈[2,3,5,7],∀a∈[1,2,3,4,5,6],(a:Int)<p->∀k∈[0,1,2,3,4,5,6,7,8],eucOK p a k=true:=by decide +kernel
theorem zQz{a:Int}(hp:isP p)(ha:0<a/\a<p){k:Nat}(hk:k<=8):eucOK p a k=true:=by
 have dA:=hp.bd;refine zQG p ?_ a ?_ ha.2 k ?_
 .rcases hp with h|h|h|h<;>simp[h]
 .have:a=1\/a=2\/a=3\/a=4\/a=5\/a=6:=by omega
  rcases this with h|h|h|h|h|h<;>simp[h]
 .have:k=0\/k=1\/k=2\/k=3\/k=4\/k=5\/k=6\/k=7\/k=8:=by omega
  rcases this with h|h|h|h|h|h|h|h|h<;>simp[h]
theorem zCt{a:Int}(hp:isP p)(ha:0<a/\a<p)(hk:∀(x:Int) (b:Bool),0<=x->x<p->a*x % p=1->K (.tup [.int .i64 x,.bool b]) σ):zA Tryz.prog 203 [.int .i64 a,.int .i64 p] σ K:=by
 have dA:=hp.bd;refine zD mix Tryz.func203 ?_
 conv=>arg 2;cbv
 refine zF rfl ?_;simp only[Z3,seval,-ae];refine zG (λm vs h'=>∃k:Nat,k<=8/\m=8-k/\vs=[.int .i64 p,.int .i64 (euc p a k).1,.int .i64 (euc p a k).2.1,.int .i64 (euc p a k).2.2.1,.int .i64 (euc p a k).2.2.2]/\σ=h') 8 ?_ ?_
 .exact⟨0,by omega,by omega,rfl,rfl⟩
 rintro m vs h' ⟨k,EW,rfl,rfl,rfl⟩
 have m7:=zQz hp ha EW;unfold eucOK at m7;have cW:euc p a (k+1)=if (euc p a k).2.1=0 then euc p a k else((euc p a k).2.1,(euc p a k).1-(euc p a k).1.tdiv (euc p a k).2.1*(euc p a k).2.1,(euc p a k).2.2.2,(euc p a k).2.2.1-(euc p a k).1.tdiv (euc p a k).2.1*(euc p a k).2.2.2):=rfl
 generalize hT:euc p a k=T at *
 obtain⟨r,nx,x,y⟩:=T;dsimp only at m7 cW ⊢;simp only[decide_eq_true_eq]at m7;obtain⟨b1,b2,b3,b4,b5,b6,b7,b8,b9,Ng,Nf,Nd,Nc,Nb,Lr,Lq⟩:=m7;by_cases h0:nx=0
 .subst h0;simp only[Z3,seval,-ae];refine zCS (by omega) (by omega) ?_;simp only[Z3,seval,-ae];refine hk _ _ (Int.emod_nonneg _ (by omega)) (Int.emod_lt_of_pos _ (by omega)) ?_;rw[Lq rfl];exact Int.emod_eq_of_lt (by omega) (by omega)
 .rw[if_neg h0]at cW;have fY:k≠8:=λe=>h0 (Lr e);simp only[Z3,seval,-ae,h0,wrap64 (n:=r.tdiv nx) (by omega) (by omega),wrap64 (n:=r.tdiv nx*nx) (by omega) (by omega),wrap64 (n:=r.tdiv nx*y) (by omega) (by omega),wrap64 (n:=r-r.tdiv nx*nx) (by omega) (by omega),wrap64 (n:=x-r.tdiv nx*y) (by omega) (by omega)];refine⟨_,by omega,k+1,by omega,rfl,?_⟩;rw[cW]
theorem zAG{l:Nat}{w:Bool}{a:AV}{xs:V1}(hl:l=xs.length)(hb:xs.length<=1048576)(hk:K (.int .i64 (dep xs)) σ):zA Tryz.prog 202 [.fz w a l (pis xs)] σ K:=by
 subst hl;refine zD mix Tryz.func202 ?_
 conv=>arg 2;cbv
 refine zF rfl ?_;simp only[Z3,seval,-ae];refine zG (λm vs h'=>∃i:Nat,i<=dep xs/\m=dep xs-i/\vs=[.fz w a xs.length (pis xs),.fz w a xs.length (pis xs),.int .i64 xs.length,.int .i64 i]/\σ=h') (dep xs) ?_ ?_
 .exact⟨0,by omega,by omega,rfl,rfl⟩
 rintro m vs h' ⟨i,hi,rfl,rfl,rfl⟩
 have dZ:=Zz xs;by_cases ah:i<xs.length
 .by_cases h0:xs[i]=0
  .have gW:i<dep xs:=by
    rcases Nat.lt_or_ge i (dep xs)with x|x
    .exact x
    .have:i=dep xs:=by omega
     subst this;exact absurd (by rw[at_eq ah];exact h0) (qa ah)
   simp only[Z3,seval,-ae,ah,zU,gi ah,h0,wrapS ah (by omega:xs.length<=4611686018427387904)];exact⟨_,by omega,i+1,by omega,rfl,rfl⟩
  .have gW:i=dep xs:=by
    rcases Nat.lt_or_ge i (dep xs)with x|x
    .exact absurd (by rw[<-at_eq ah];exact zY x) h0
    .omega
   subst gW;simp only[Z3,seval,-ae,ah,zU,gi ah,h0];exact hk
 .have gW:i=dep xs:=by omega
  subst gW;simp only[Z3,seval,-ae,ah];have hd:dep xs=xs.length:=by omega
  rw[hd]at hk;exact hk
theorem zPn{x:Int}(hk:K (.bool (!decide (x=0))) σ):zA Tryz.prog 284 [.int .i64 x] σ K:=by
 refine zD mix Tryz.func284 ?_
 conv=>arg 2;cbv
 refine zF rfl ?_;simp only[Z3,seval,-ae];exact hk
theorem zQl:okF Tryz.prog 284=true:=by kernel_rfl
theorem zIz{l:Nat}{w:Bool}{a:AV}{xs:V1}(hl:l=xs.length)(hb:xs.length<=1048576)(hd:dep xs<xs.length)(hk:K (.int .i64 (dep xs)) σ):
  zA Tryz.prog 283 [.fz w a l (pis xs),.clo 284 [] []] σ K:=by
 subst hl;refine zD mix Tryz.func283 ?_
 conv=>arg 2;cbv
 refine zF rfl ?_;simp only[Z3,seval,-ae];refine zG (λm vs h'=>∃i:Nat,i<=dep xs/\m=dep xs-i/\vs=[.fz w a xs.length (pis xs),.clo 284 [] [],.int .i64 xs.length,.int .i64 i]/\σ=h') (dep xs) ?_ ?_
 .exact⟨0,by omega,by omega,rfl,rfl⟩
 rintro m vs h' ⟨i,hi,rfl,rfl,rfl⟩
 have ah:i<xs.length:=by omega
 simp only[Z3,seval,-ae,ah,zU,gi ah];refine⟨zQl,zPn ?_⟩;by_cases h0:xs[i]=0
 .have gW:i<dep xs:=by
   rcases Nat.lt_or_ge i (dep xs)with x|x
   .exact x
   .have:i=dep xs:=by omega
    subst this;exact absurd (by rw[at_eq ah];exact h0) (qa ah)
  simp only[Z3,seval,-ae,h0,ne_eq,not_true,decide_false,wrapS ah (by omega:xs.length<=4611686018427387904)];exact⟨_,by omega,i+1,by omega,rfl,rfl⟩
 .have gW:i=dep xs:=by
   rcases Nat.lt_or_ge i (dep xs)with x|x
   .exact absurd (by rw[<-at_eq ah];exact zY x) h0
   .omega
  subst gW;simp only[Z3,seval,-ae,h0,ne_eq,not_false_iff,decide_true];exact hk
abbrev deps(u:V2):V1:=u.map λv=>(dep v:Int)
theorem zBe{u:V2}(hL:FII vU u)(hu:∀v∈u,dep v<v.length/\v.length<=1048576)(cq:u.length<=1048576)(hk:∀v,K (.fz true v u.length (pis (deps u))) σ):zA Tryz.prog 207 [vU] σ K:=by
 obtain⟨wl,al,rl,rfl,bp⟩:=hL;refine zA.gh ?_;refine zD mix Tryz.func207 ?_
 conv=>arg 2;cbv
 refine zF rfl ?_;simp only[Z3,seval,-ae];refine zG (λm vs h'=>∃(i:Nat) (v:PV),i<=u.length/\m=u.length-i/\vs=[v,.fz wl al u.length rl,.int .i64 u.length,.int .i64 i]/\Keep σ h'/\PAcc σ.next 1 h' v i (pis (deps (u.take i)))) u.length ?_ ?_
 .exact⟨0,_,by omega,by omega,rfl,Keep.refl σ,PAcc.nil _ _ _⟩
 rintro m vs h' ⟨i,v,hi,rfl,rfl,aq,ha⟩
 simp only[Z3,seval,-ae];refine iteI (λah=>?_) λaG=>?_
 .obtain⟨w4,a4,hr⟩:=bp.rowI ah;have dq:=hu _ (List.getElem_mem ah);simp only[Z3,seval,-ae,ah,hr];refine zIz rfl dq.2 dq.1 ?_;simp only[Z3,seval,-ae];refine PAcc.push (bytes:=8) aq ha (by omega) (by omega) λv' h2 k2 a2=>?_;simp only[Z3,seval,-ae,wrapS ah (by omega:u.length<=4611686018427387904)];refine⟨_,by omega,i+1,v',by omega,rfl,rfl,k2,?_⟩;have e:pis (deps (u.take (i+1)))=pis (deps (u.take i))++[.int .i64 (dep u[i])]:=by rw[List.take_succ_eq_append_getElem ah,deps,List.map_append,<-zA2];rfl
  rw[e];exact a2.acc
 .have aK:i=u.length:=by omega
  subst aK;rw[List.take_length]at ha;exact ha.fin aq (zL _ _) hk
theorem zKs(o:OkW p n W){y v:V1}(hy:El p n y)(hv:El p n v)(c:Int):ladd p W y (lmul p W c v)=norm p W (lmix 1 y c v):=by
 have hm:(lmix c v 0 v).length=n:=by rw[zT rfl];exact hv.1
 have hz:El p n (lmul p W c v):=zBA o hm;refine zFR o (by rw[zT (hy.1.trans hz.1.symm)];exact hy.1) (by rw[zT (hy.1.trans hv.1.symm)];exact hy.1) ?_;have h1:Eqv p n W (λj=>at_ y j+at_ (lmul p W c v) j) (λj=>at_ y j+at_ (lmix c v 0 v) j):=(Eqv.refl _).add (qX o hm);refine((Eqv.of_eq λj=>?_).trans h1).trans (Eqv.of_eq λj=>?_)
 .rw[zo (hy.1.trans hz.1.symm)];omega
 .rw[zo (hy.1.trans hv.1.symm),zo rfl];omega
theorem zC8{l:Nat}{w:Bool}{a:AV}{u:V2}{x:V1}(hs:PtrR σ s p vP vB)(hP:FII vP W)(o:OkW p n W)(hL:FII vU u)(hu:∀v∈u,El p n v/\dep v<n)(cq:u.length<=1048576)(hx:El p n x)(hl:l=x.length)
  (hk:∀v,K (.fz true v n (pis (redL p W u x))) σ):zA Tryz.prog 118 [.ptr s 0,vU,.fz w a l (pis x)] σ K:=by
 have aN:=o.le;have hp:=o.pr;unfold okp at hp;refine zD mix Tryz.func118 ?_
 conv=>arg 2;cbv
 refine zF rfl ?_;simp only[Z3,seval,-ae];refine zA.fzN hx.1 (λK'=>Zh hl (by rw[hx.1];omega)) λv0=>?_;simp only[Z3,seval,-ae];refine zBe hL (λv hv=>⟨by rw[(hu v hv).1.1];exact(hu v hv).2,by rw[(hu v hv).1.1];omega⟩) cq λvp=>?_;obtain⟨wl,al,rl,rfl,bp⟩:=hL;simp only[Z3,seval,-ae];refine zG (λm vs h'=>∃i:Nat,i<=u.length/\m=u.length-i/\∃v,vs=[.ptr s 0,.fz wl al u.length rl,.fz true v n (pis (redL p W (u.take i) x)),.fz true vp u.length (pis (deps u)),.int .i64 u.length,.int .i64 i]/\σ=h') u.length ?_ ?_
 .exact⟨0,by omega,by omega,v0,by rw[List.take_zero,redL];rfl,rfl⟩
 rintro m vs h' ⟨i,hi,rfl,v,rfl,rfl⟩
 simp only[Z3,seval,-ae];have bg:El p n (redL p W (u.take i) x):=Zj o (λv hv=>(hu v (List.mem_of_mem_take hv)).1) hx;refine iteI (λah=>?_) λaG=>?_
 .obtain⟨w4,a4,hr⟩:=bp.rowI ah;have dq:=hu _ (List.getElem_mem ah);have eG:redL p W (u.take (i+1)) x=red1 p W (redL p W (u.take i) x) u[i]:=by rw[List.take_succ_eq_append_getElem ah,zGc]
  generalize hy:redL p W (u.take i) x=y at *
  have dZ:dep u[i] < y.length:=by rw[bg.1];exact dq.2
  have tY:=bg.at o.pr (dep u[i]);rw[at_eq dZ]at tY;have cY:IntKind.i64.wrap (0-y[dep u[i]])=-y[dep u[i]]:=by rw[wrap64 (by omega) (by omega)];omega
  have yo:(deps u)[i]? = some (dep u[i]:Int):=by simp[deps,ah]
  simp only[Z3,seval,-ae,ah,hr,dq.2,zU,yo,gi dZ,cY];refine QJ hs hP o dq.1 rfl (by omega) λv1=>?_;simp only[Z3,seval,-ae];refine Q5 hs hP o bg (zK o dq.1 dq.1) bg.1.symm (zK o dq.1 dq.1).1.symm λv2=>?_;simp only[Z3,seval,-ae,wrapS ah (by omega:u.length<=4611686018427387904)];refine⟨_,by omega,i+1,by omega,rfl,v2,?_⟩;rw[eG,red1,at_eq dZ,<-zKs o bg dq.1]
 .have aK:i=u.length:=by omega
  subst aK;rw[List.take_length];exact hk v
def PQ(b:Nat)(h:PHeap)(v:PV)(m:Nat)(cs:List PV):Prop:=
 (v=.fz true .nils 0 []/\m=0/\cs=[])\/∃s off cap row,v=.sl s off m cap/\full 1 cap m/\h.obj s=some row/\(row.drop off).take m=cs/\off+m<=row.length/\b<=s/\s<h.next
theorem PQ.of{b m:Nat}{h:PHeap}{v:PV}{cs:List PV}(a:PAcc b 1 h v m cs):PQ b h v m cs:=by
 rcases a with a|⟨s,cap,rfl,h1,h2,h3,h4,h5⟩
 .exact .inl a
 .exact .inr ⟨s,0,cap,cs,rfl,h1,h2,by rw[List.drop_zero,List.take_of_length_le (by omega)],by omega,h4,h5⟩
theorem PQ.set{b m t:Nat}{h:PHeap}{v:PV}{cs:List PV}(a:PQ b h v m cs)(ht:t<b)(ds:List PV):PQ b (h.set t ds) v m cs:=by
 rcases a with a|⟨s,off,cap,row,rfl,h1,h2,h3,h4,h5,h6⟩
 .exact .inl a
 .exact .inr ⟨s,off,cap,row,rfl,h1,by rw[zH,if_neg (by omega)];exact h2,h3,h4,h5,h6⟩
theorem PQ.pLen{b m:Nat}{h:PHeap}{v:PV}{cs:List PV}(a:PQ b h v m cs):pLen v=some (.int .i64 m):=by
 rcases a with ⟨rfl,rfl,_⟩|⟨s,off,cap,row,rfl,_⟩<;>rfl
theorem PQ.uncons{b m:Nat}{h:PHeap}{v c:PV}{cs:List PV}(a:PQ b h v m (c::cs)):∃s off cap v',v=.sl s off m cap/\h.rd1 s off=some c/\0<m/\Zd 1 v (some (.int .i64 1)) none none=some v'/\PQ b h v' (m-1) cs:=by
 rcases a with ⟨_,_,e⟩|⟨s,off,cap,row,rfl,h1,h2,h3,h4,h5,h6⟩
 .cases e
 .have hm:0<m:=by
   rcases Nat.eq_zero_or_pos m with x|x
   .subst x;cases h3
   .exact x
  have e2:row.drop off=c::row.drop (off+1):=by
   have ah:off<row.length:=by omega
   rw[List.drop_eq_getElem_cons ah]at h3 ⊢;obtain⟨m',rfl⟩:∃m',m=m'+1:=⟨m-1,by omega⟩
   rw[List.take_succ_cons]at h3;cases h3;rfl
  have e3:(row.drop (off+1)).take (m-1)=cs:=by
   rw[e2]at h3;obtain⟨m',rfl⟩:∃m',m=m'+1:=⟨m-1,by omega⟩
   rw[List.take_succ_cons]at h3;cases h3;rfl
  have e4:row[off]? = some c:=by
   have ah:off<row.length:=by omega
   rw[List.drop_eq_getElem_cons ah]at e2;rw[List.getElem?_eq_getElem ah];cases e2;rfl
  have hz:(1:Int)<=(m:Int):=by omega
  rcases h1 with rfl|rfl
  .refine⟨s,off,_,.sl s (off+1) (m-1) (.grown 1),rfl,by rw[zI h2];exact e4,hm,?_,.inr ⟨s,off+1,_,row,rfl,.inl rfl,h2,e3,by omega,h5,h6⟩⟩;simp only[Z3,seval,-ae,hm,hz]
  .by_cases s8:m=1
   .subst s8;refine⟨s,off,_,.sl s off 0 (.known 0),rfl,by rw[zI h2];exact e4,hm,?_,.inr ⟨s,off,_,row,rfl,.inr rfl,h2,by simpa using e3,by omega,h5,h6⟩⟩;rfl
   .refine⟨s,off,_,.sl s (off+1) (m-1) (.known (m-1)),rfl,by rw[zI h2];exact e4,hm,?_,.inr ⟨s,off+1,_,row,rfl,.inr rfl,h2,e3,by omega,h5,h6⟩⟩;simp only[Z3,seval,-ae,hm,hz,s8];rfl
theorem PQ.push{σb h:PHeap}{bytes m:Nat}{v x:PV}{cs:List PV}{K:PV×PHeap->Prop}(hk:Keep σb h)(a:PQ σb.next h v m cs)
  (h1:(m+1)*bytes<=140737488355328) (h2:m+1<=4611686018427387904) (k:∀v' h',Keep σb h'->PQ σb.next h' v' (m+1) (cs++[x])->K (v',h')):optK (qU 1 bytes (h.new [x]) v (.sl h.next 0 1 (.known 1))) K:=by
 rcases a with ⟨rfl,rfl,rfl⟩|⟨s,off,cap,row,rfl,q1,q2,q3,q4,q5,q6⟩
 .exact PAcc.push hk (PAcc.nil _ _ _) h1 h2 λv' h' k1 k2=>k v' h' k1 (.of k2.acc)
 .rw[Q9];have hp:Zu 1 (h.new [x]) (.sl h.next 0 1 (.known 1)) 1=some [x]:=by simp[Qv,zAT]
  have dH:(h.new [x]).obj s=some row:=by simp only[PHeap.new];rw[if_neg (by omega)];exact q2
  have hn:=hk.next;simp only[plen,Option.bind_some];rw[if_neg (by omega),hp];simp only[Option.bind_some];have hl:cs.length=m:=by rw[<-q3,List.length_take,List.length_drop];omega
  rcases q1 with rfl|rfl
  .rw[zAd,if_pos ⟨h1,h2,rfl⟩,dH];simp only[Option.bind_some];rw[if_pos (by omega),Nat.mul_one,q3];refine ZL rfl (k _ _ (((hk.new _).kill (by omega)).new _) (.inr ⟨(h.new [x]).next,0,_,cs++[x],rfl,.inl rfl,by simp[PHeap.new,PHeap.kill],?_,by simp[hl],by simp[PHeap.new];omega,by simp[PHeap.new,PHeap.kill]⟩));rw[List.drop_zero,List.take_of_length_le (by simp[hl])]
  .rw[zAc,if_neg (by omega),if_pos ⟨h1,h2⟩,ze dH,if_pos (by omega),Nat.mul_one,q3];simp only[Option.map_some];refine ZL rfl (k _ _ ((hk.new _).new _) (.inr ⟨(h.new [x]).next,0,_,cs++[x],rfl,.inl rfl,by simp[PHeap.new],?_,by simp[hl],by simp[PHeap.new];omega,by simp[PHeap.new]⟩));rw[List.drop_zero,List.take_of_length_le (by simp[hl])]
theorem zNv{w:Bool}{a:AV}{m:Nat}{rows:List PV}(hl:rows.length=m)(hb:Bels 0 rows)(hm:m<=1048576)(eC:rows=[]->K (.fz true .nils 0 []) σ)(fe:∀cap,full 1 cap m->K (.sl σ.next 0 m cap) (σ.new rows)):
  zA Tryz.prog 201 [.fz w a m rows] σ K:=by
 refine zA.nil0 λiI=>zA.gh ?_;refine zD mix Tryz.func201 ?_
 conv=>arg 2;cbv
 refine zF rfl ?_;simp only[Z3,seval,-ae];cases hn:ZQ a
 .simp only[Z3,seval,-ae];refine PSl.cat (bytes:=24) (σb:=σ) (n:=0) (cs:=[]) (zC σ _) (PSl.new _ 1 rfl (vM _)) hl (by omega) (by omega) λv' h' bZ ha=>?_;simp only[Z3,seval,-ae]at ha ⊢;exact ha.out bZ (hb.up (Nat.zero_le _)) fe
 .simp only[Z3,seval,-ae];exact Gh.ret (eC (iI hn).2)
theorem zI2{w:Bool}{a:AV}{m:Nat}{rows:List PV}(hl:rows.length=m)(hb:Bels 0 rows)(hm:m<=1048576)(hk:∀v h',Keep σ h'->PQ σ.next h' v m rows->K v h'):
  zA Tryz.prog 201 [.fz w a m rows] σ K:=
 zNv hl hb hm (λh0=>hk _ _ (Keep.refl _) (.inl ⟨rfl,by rw[<-hl,h0];rfl,h0⟩)) λcap hc=>hk _ _ (zC _ _) (.of (.inr (PSl.own hc (by simp[PHeap.new]) (by omega) (vM _) (by simp[PHeap.new]))))
theorem zI3{l:Nat}{w:Bool}{av:AV}{k:Int}{a:V1}(hs:PtrR σ s p vP vB)(hP:FII vP W)(o:OkW p n W)(ha:El p n a)(hl:l=a.length)(kS:-1000000000<=k/\k<=1000000000)(hn:0<n)
  (hk:∀o cap,K (.fz true (.sl o 0 n cap) n (pis (lmul p W k a))) σ):zA Tryz.prog 191 [.ptr s 0,.int .i64 k,.fz w av l (pis a)] σ K:=by
 have hlen:=(zK o ha ha (k:=k) (m:=0)).1;refine zA.gh (zBs hs hP o ha hl kS ⟨λh0=>?_,λcap hc=>?_⟩)
 .exact absurd hlen (by rw[h0];simp;omega)
 .rw[hlen]at hc ⊢;exact Gh.finF (zC σ _) (by simp[PHeap.new]) (vM _) (zL _ _) hc.ok λo=>hk o cap
theorem PtrR.keep{h:PHeap}(hs:PtrR σ s p vP vB)(hk:Keep σ h):PtrR h s p vP vB:=⟨by rw[hk.obj s hs.lt];exact hs.obj,Nat.lt_of_lt_of_le hs.lt hk.next⟩
def BRow(n:Nat)(u:V2)(d:Nat)(v:PV):Prop:=
 (v=.fz true .nils 0 []/\∀y∈u,dep y≠d)\/∃o cap y,v=.fz true (.sl o 0 n cap) n (pis y)/\y∈u/\dep y=d
def BRows(n:Nat)(u:V2)(rb:List PV):Prop:=rb.length=n/\∀d (h:d<rb.length),BRow n u d rb[d]
theorem BRows.take{u:V2}{rb:List PV}{o d:Nat}{cap:Cap}{y:V1}(h:BRows n u rb)(hd:d<n)(hy:dep y=d):BRows n (insD u y) (rb.set d (.fz true (.sl o 0 n cap) n (pis y))):=by
 refine⟨by rw[List.length_set];exact h.1,λe he=>?_⟩;rw[List.length_set]at he;rw[List.getElem_set];by_cases x:d=e
 .subst x;rw[if_pos rfl];exact .inr ⟨o,cap,y,rfl,ZN.2 (.inl rfl),hy⟩
 .rw[if_neg x];rcases h.2 e he with ⟨h1,h2⟩|⟨o',c',y',h1,h2,h3⟩
  .exact .inl ⟨h1,λv hv=>by
    rcases ZN.1 hv with rfl|hv
    .omega
    .exact h2 v hv⟩
  .exact .inr ⟨o',c',y',h1,ZN.2 (.inr h2),h3⟩
theorem Fp_le{u:V2}{k:Nat}(ha:Asc u):(∃y∈u,dep y=k)->∃y∈u,dep y=k/\Fp u k=y::Fp u (k+1):=by
 induction u with
 |nil=>rintro⟨y,hy,_⟩;cases hy
 |cons v t ih=>
  have ht:∀w∈t,dep v<dep w:=λw hw=>List.rel_of_pairwise_cons ha hw;have BD:Asc t:=(List.pairwise_cons.1 ha).2
  rintro⟨y,hy,rfl⟩
  rcases List.mem_cons.1 hy with rfl|hy
  .refine⟨y,by simp,rfl,?_⟩;have e1:Fp t (dep y)=t:=zDe λw hw=>Nat.le_of_lt (ht w hw);have e2:Fp t (dep y+1)=t:=zDe λw hw=>ht w hw;rw[Fp,List.filter_cons,if_pos (by simp)];rw[show(List.filter (λv=>decide (dep y<=dep v)) t)=t from e1];rw[Fp,List.filter_cons,if_neg (by simp)];rw[show(List.filter (λv=>decide (dep y+1<=dep v)) t)=t from e2]
  .obtain⟨y',h1,h2,h3⟩:=ih BD ⟨y,hy,rfl⟩
   have:=ht y hy
   refine⟨y',List.mem_cons_of_mem _ h1,h2,?_⟩;rw[Fp,List.filter_cons,if_neg (by simp;omega)];rw[Fp,List.filter_cons,if_neg (by simp;omega)];exact h3
theorem zQT{u:V2}{k:Nat}(h:∀y∈u,dep y≠k):Fp u k=Fp u (k+1):=List.filter_congr λv hv=>by
 have:=h v hv
 simp only[decide_eq_decide];omega
theorem zKo:∀{u:V2} {k:Nat},Base p n W u->Base p n W (Fp u k)
 |[],k,h=>h
 |v::t,k,h=>by
  by_cases x:k<=dep v
  .have e:Fp (v::t) k=v::t:=zDe λw hw=>by
    rcases List.mem_cons.1 hw with rfl|hw
    .exact x
    .have:=List.rel_of_pairwise_cons h.asc hw
     omega
   rw[e];exact h
  .rw[Fp,List.filter_cons,if_neg (by simpa using x)];cases h with
   |cons _ _ _ h4=>exact zKo (by assumption)
theorem _root_.Go.Lie.Base.fp'{u:V2}{k:Nat}(h:Base p n W u):Base p n W (Fp u k):=zKo h
theorem zA4{gens:V2}(hs:PtrR σ s p vP vB)(hP:FII vP W)(o:OkW p n W)(hp:isP p)(hL:FII vL gens)(he:Els p n gens)(jI:gens.length<=1048576)(hk:∀v out,Canon p n W gens out->FII v out->K v σ):
  zA Tryz.prog 109 [.ptr s 0,vL] σ K:=by
 have aN:=o.le;have dA:=hp.bd;have sL:-1000000000<=p/\p<=1000000000:=by omega
 have mF:=o.len;obtain⟨wl,al,rl,rfl,bp⟩:=hL;have wM:=hP;obtain⟨wp,ap,rp,rfl,jf⟩:=hP;have bK:=hs.lt;have Da:σ.rd1 s 1=some (.fz wp ap W.length rp):=by rw[zI hs.obj];rfl
 refine zA.gh ?_;refine zN mix Tryz.func109 cf109 rfl ?_;dsimp only[if109,qI,eI,qD,eD,mI0,lI0,fI0,xI0,bI0,cI0,sI0,pI0,C1,C3,mD0,lD0,fD0,xD0,pD0,I0,G0,gm0,aI0,zI0,yI0,vI0,R0,S0];simp only[Z3,seval,-ae,Da,mF,mk24 (n:=n) (by omega),mkL (n:=n) (by omega)];have iU:∀{u Q:V2},Grow p n W gens u Q->(∀v∈u,El p n v/\dep v<n)/\u.length<=n:=λg=>⟨λv hv=>⟨(g.led v hv).1,(g.led v hv).2.1⟩,ZV (λv hv=>(g.led v hv).2.1) g.asc⟩
 refine zI2 bp.1 (bp.bI 0) jI λvQ h1 k1 q1=>?_;simp only[Z3,seval,-ae];refine zG (λm vs h'=>∃u Q vQ rb rq,m=2*(n-u.length)+Q.length/\vs=[.ptr s 0,.sl σ.next 0 n (.known n),vQ]/\Keep (σ.new rb) h'/\PQ (σ.next+1) h' vQ Q.length rq/\All2 FI rq Q/\Grow p n W gens u Q/\BRows n u rb/\Q.length<=gens.length) (2*n+gens.length) ?_ ?_
 .refine⟨[],gens,vQ,_,rl,rfl,rfl,k1,q1,bp,Grow.start he,⟨by simp,λd hd=>.inl ⟨by simp,λy hy=>by cases hy⟩⟩,vM _⟩
 rintro m vs h' ⟨u,Q,vQ,rb,rq,rfl,rfl,aq,hq,je,hg,hb,MS⟩
 have eC:Keep σ h':=aq.of;have cu:=hs.keep eC;have gU:h'.rd1 s 0=some (.int .i64 p):=by rw[zI cu.obj];rfl
 have dH:h'.obj σ.next=some rb:=by rw[aq.obj _ (by simp[PHeap.new])];simp[PHeap.new]
 cases Q with
 |nil=>
  have hlen:pLen vQ=some (.int .i64 0):=hq.pLen;have hw:IntKind.i64.wrap ((n:Int)-1)=(n:Int)-1:=wrap64 (by omega) (by omega);have fC:=hg.base;have Kk:Fp u n=[]:=List.filter_eq_nil_iff.2 λv hv=>by have:=((iU hg).1 v hv).2;simp;omega
  simp only[Z3,seval,-ae,hlen,hw];refine ZG (λm vs h2=>∃(k:Nat) (vO:PV),k<=n/\m=k/\vs=[.ptr s 0,.sl σ.next 0 n (.known n),vO,.int .i64 ((k:Int)-1)]/\Keep (σ.new rb) h2/\FII vO (finI p W (Fp u k))) n (.here ⟨n,_,vM _,rfl,rfl,aq,by rw[Kk];exact⟨_,_,_,rfl,All2.nil _⟩⟩) ?_
  rintro m vs h2 ⟨k,vO,bF,rfl,rfl,bV,hO⟩
  have vj:Keep σ h2:=bV.of;have fA:=hs.keep vj;have kH:h2.obj σ.next=some rb:=by rw[bV.obj _ (by simp[PHeap.new])];simp[PHeap.new]
  rcases Nat.eq_zero_or_pos m with rfl|oi
  .simp only[Z3,seval,-ae,show ¬((0:Int)<=((0:Nat):Int)-1) by omega];have Kl:Fp u 0=u:=zDe λv hv=>Nat.zero_le _;rw[Kl]at hO;exact Gh.fin0 vj (hO.bel _) (hk vO _ (hg.done (zGM o fC).1) hO)
  .obtain⟨k,rfl⟩:∃k,m=k+1:=⟨m-1,by omega⟩
   have e:((k+1:Nat):Int)-1=(k:Int):=by omega
   have dh:k<n:=bF;have di:k<rb.length:=by rw[hb.1];exact dh
   have bM:=zI kH k;rw[List.getElem?_eq_getElem di]at bM;have jw:=fC.fp' (k:=k+1);rw[e];have gP:IntKind.i64.wrap ((k:Int)-1)=(k:Int)-1:=wrap64 (by omega) (by omega);rcases hb.2 k di with ⟨e1,e2⟩|⟨oo,cap,y,e1,e2,e3⟩
   .rw[e1]at bM;simp only[Z3,seval,-ae,dh,bM,gP];refine⟨_,Nat.lt_succ_self k,.here ⟨k,vO,by omega,rfl,rfl,bV,?_⟩⟩;rw[zQT e2];exact hO
   .rw[e1]at bM;obtain⟨y',y1,y2,y3⟩:=Fp_le hg.asc ⟨y,e2,e3⟩;obtain rfl:y'=y:=by
     rcases zBT hg.asc y1 e2 with x|x|x
     .exact x
     .omega
     .omega
    simp only[Z3,seval,-ae,dh,bM,gP];have hF:=(zGM o jw).1;have yK:(finI p W (Fp u (k+1))).length<=n:=ZV (λv hv=>(hF.base.led v hv).2.1) hF.base.asc;have hy:=((iU hg).1 y' e2).1;refine zC8 fA wM o hO (λv hv=>⟨(hF.base.led v hv).1,(hF.base.led v hv).2.1⟩) (by omega) hy hy.1.symm λv1=>?_;have bp:=(Zj o (u:=finI p W (Fp u (k+1))) (λv hv=>(hF.base.led v hv).1) hy).1;have wQ:finI p W (Fp u k)=redL p W (finI p W (Fp u (k+1))) y'::finI p W (Fp u (k+1)):=by rw[y3];rfl
    generalize finI p W (Fp u (k+1))=L at *
    generalize redL p W L y'=z at *
    obtain⟨wO,aO,rO,rfl,uQ⟩:=hO;simp only[Z3,seval,-ae];refine PSl.cat (bytes:=24) (σb:=h2) (n:=1) (cs:=[.fz true v1 n (pis z)]) (zC h2 _) (PSl.new _ 1 rfl (vM _)) uQ.1 (by omega) (by omega) λv3 h3 k3 a3=>?_;obtain⟨s3,me,rfl,rN,yp,Co,rD,bn⟩:=a3;have aj:All2 FI ([.fz true v1 n (pis z)]++rO) (z::L):=(All2.nil FI |>.snoc (⟨true,v1,by rw[bp]⟩:FI (.fz true v1 n (pis z)) z)).append uQ;have ar:σ.next≠s3:=by
     have:=bV.next
     simp only[PHeap.new]at this;omega
    simp only[Z3,seval,-ae,gP];refine⟨k,Nat.lt_succ_self k,.fz s3 _ yp (aj.bI 0) λo1=>.here ⟨k,.fz true (.sl o1 0 (1+L.length) me) (1+L.length) ([.fz true v1 n (pis z)]++rO),by omega,rfl,?_,(bV.trans k3).kill (by have:=bV.next;simp only[PHeap.new]at this ⊢;omega),by rw[wQ];exact⟨true,_,_,by rw[List.length_cons,Nat.add_comm],aj⟩⟩⟩;simp only[Z3,seval,-ae];simp only[sbs,sb,ar,rN.ok,false_and,and_self,if_true,if_false]
 |cons x Q=>
  have hlen:=hq.pLen;obtain⟨c,fv,rfl,hc,gw⟩:∃c fv,rq=c::fv/\FI c x/\All2 FI fv Q:=by
   cases rq with
   |nil=>exact absurd je.1 (by simp)
   |cons c fv=>exact⟨c,fv,rfl,je.2 0 c x rfl rfl,⟨by simpa using je.1,λk a b ha hb=>je.2 (k+1) a b (by simpa using ha) (by simpa using hb)⟩⟩
  obtain⟨sq,off,cap,ef,rfl,bM,aF,kz,bm⟩:=hq.uncons;obtain⟨w4,a4,rfl⟩:=hc;generalize di:(x::Q).length=k at *
  have Fg:Q.length=k-1:=by rw[<-di];simp
  have jj:(0:Int)<(k:Int):=by omega
  have hx:=hg.els x (by simp);simp only[Z3,seval,-ae,hlen,jj,aF,bM,kz];refine zAG rfl (by rw[hx.1];omega) ?_;simp only[Z3,seval,-ae];refine zG (λm vs h2=>∃x wX vX,m=n-dep x/\vs=[.ptr s 0,.sl σ.next 0 n (.known n),ef,.fz wX vX n (pis x),.int .i64 (dep x)]/\h'=h2/\Grow p n W gens u (x::Q)) (n-dep x) ?_ ?_
  .exact⟨x,_,_,rfl,by rw[hx.1];rfl,rfl,hg⟩
  clear hg hx hlen di
  rintro m vs h2 ⟨x,wX,vX,rfl,rfl,rfl,hg⟩
  have hx:=hg.els x (by simp);have aW:=hx.1;have vT:=Zz x;by_cases hd:dep x<n
  .have dN:dep x<x.length:=by omega
   have Bo:=hx.at0 o (dep x);have ar:=qa dN;rw[at_eq dN]at Bo ar;have ny:dep x<rb.length:=by rw[hb.1];exact hd
   have jB:=zI dH (dep x);rw[List.getElem?_eq_getElem ny]at jB;rcases hb.2 _ ny with ⟨e1,e2⟩|⟨oo,gL,y,e1,e2,e3⟩
   .rw[e1]at jB;have dY:((dep x:Int)=(n:Int))=False:=by simp;omega
    simp only[Z3,seval,-ae,hd,jB,dY,gU,zU,gi dN];refine zCt hp (by omega) λq qb yn mY oa=>?_;simp only[Z3,seval,-ae,hd,jB,gU,zU,gi dN];refine zI3 cu wM o hx aW.symm (by omega) (by omega) λoz cK=>?_;have hT:Grow p n W gens (insD u (lmul p W q x)) (lmul p W p (lmul p W q x)::Q):=hg.take o hd e2 (k:=q) (by rw[at_eq dN];exact oa);obtain⟨y1,y2⟩:Led p n (lmul p W q x)/\dep (lmul p W q x)=dep x:=⟨(zBa o hx hd (k:=q) (by rw[at_eq dN];exact oa)).1,(zBa o hx hd (k:=q) (by rw[at_eq dN];exact oa)).2.1⟩
    have gd:=hb.take (o:=oz) (cap:=cK) hd y2;generalize lmul p W q x=y at *
    have hy:=y1.1;have jc:h'.wr σ.next (dep x) [.fz true (.sl oz 0 n cK) n (pis y)]=some (h'.set σ.next (rb.set (dep x) (.fz true (.sl oz 0 n cK) n (pis y)))):=by
     rw[qC dH,if_pos ⟨by rw[List.length_singleton];omega,rfl⟩];rw[List.append_assoc,List.singleton_append,List.length_singleton,take_set _ ny]
    have mC:Keep (σ.new (rb.set (dep x) (.fz true (.sl oz 0 n cK) n (pis y)))) (h'.set σ.next (rb.set (dep x) (.fz true (.sl oz 0 n cK) n (pis y)))):=aq.setN _;have BX:=bm.set (Nat.lt_succ_self _) (rb.set (dep x) (.fz true (.sl oz 0 n cK) n (pis y)));have dG:(h'.set σ.next (rb.set (dep x) (.fz true (.sl oz 0 n cK) n (pis y)))).rd1 σ.next (dep x)=some (.fz true (.sl oz 0 n cK) n (pis y)):=by
     rw[zI (by rw[zH,if_pos rfl]),List.getElem?_set_self ny]
    have sH:=cu.set (by omega) (rb.set (dep x) (.fz true (.sl oz 0 n cK) n (pis y))) (t:=σ.next);have pY:(h'.set σ.next (rb.set (dep x) (.fz true (.sl oz 0 n cK) n (pis y)))).rd1 s 0=some (.int .i64 p):=by rw[zI sH.obj];rfl
    have bY:(rb.set (dep x) (.fz true (.sl oz 0 n cK) n (pis y)))[dep x]? = some (.fz true (.sl oz 0 n cK) n (pis y)):=List.getElem?_set_self ny;simp only[Z3,seval,-ae,hd,jc,Nat.ne_of_lt bK,gU,bY];generalize h'.set σ.next (rb.set (dep x) (.fz true (.sl oz 0 n cK) n (pis y)))=h3 at *
    generalize rb.set (dep x) (.fz true (.sl oz 0 n cK) n (pis y))=rb' at *
    refine QJ sH wM o hy hy.1.symm (by omega) λv2=>?_;have hz:El p n (lmul p W p y):=(Zw o hy p).1;generalize lmul p W p y=z at *
    simp only[Z3,seval,-ae];refine PQ.push (bytes:=24) (σb:=σ.new rb') mC BX (by omega) (by omega) λv4 h4 k4 q4=>?_;simp only[Z3,seval,-ae];have cq:=(iU hT).2;rw[QM]at cq;refine⟨_,?_,insD u y,Q++[z],v4,rb',fv++[.fz true v2 n (pis z)],rfl,rfl,k4,?_,gw.append (All2.nil FI |>.snoc ⟨true,v2,by rw[hz.1]⟩),hT.perm λv=>by simp[or_comm],gd,by rw[List.length_append,List.length_singleton];omega⟩
    .rw[QM,List.length_append,List.length_singleton];omega
    .rw[List.length_append,List.length_singleton,Fg];exact q4
   .rw[e1]at jB;have hy:=((iU hg).1 y e2).1;have cY:IntKind.i64.wrap (0-x[dep x])=-x[dep x]:=by rw[wrap64 (by omega) (by omega)];omega
    simp only[Z3,seval,-ae,hd,jB,zU,gi dN,cY];refine QJ cu wM o hy hy.1.symm (by omega) λv1=>?_;simp only[Z3,seval,-ae];refine Q5 cu wM o hx (zK o hy hy) aW.symm (zK o hy hy).1.symm λv2=>?_;obtain⟨g2,g3⟩:=hg.reduce1 o e2 e3;have mz:ladd p W x (lmul p W (-x[dep x]) y)=red1 p W x y:=by rw[zKs o hx hy,red1,e3,at_eq dN]
    have hz:=g2.els _ (List.mem_cons_self ..);rw[mz];simp only[Z3,seval,-ae];refine zAG hz.1.symm (by rw[hz.1];omega) ?_;simp only[Z3,seval,-ae];exact⟨_,by omega,_,_,_,rfl,rfl,g2⟩
  .have dY:dep x=n:=by omega
   simp only[Z3,seval,-ae,dY,Nat.lt_irrefl];refine⟨_,?_,u,Q,ef,rb,fv,rfl,rfl,aq,by rw[Fg];exact bm,gw,hg.drop λj=>?_,hb,by omega⟩
   .omega
   .rcases Nat.lt_or_ge j n with h|h
    .exact zY (by omega)
    .exact hx.beyond h
variable{vV:PV}
def units(n:Nat):V2:=(List.range n).map (unitL n)
theorem qG:(units n).length=n:=by simp[units]
theorem zL6{i:Nat}(h:i<n):(units n)[i]? = some (unitL n i):=by simp[units,h]
theorem ZW(hp:okp p):Els p n (units n):=λv hv=>by
 obtain⟨i,hi,rfl⟩:=List.mem_map.1 hv;exact zV hp (List.mem_range.1 hi)
theorem zE7{i:Nat}(h:i<n):(units n).take (i+1)=(units n).take i++[unitL n i]:=by
 have hl:i<(units n).length:=by rw[qG];exact h
 have e:=zL6 h;rw[List.getElem?_eq_getElem hl]at e;rw[List.take_succ_eq_append_getElem hl,Option.some.inj e]
def brL(p:Int)(W:V2)(B:V3)(n:Nat)(u v:V2):V2:=u.flatMap λx=>v.map λy=>br p W B n x y
theorem zAK(u v:V2):(brL p W B n u v).length=u.length*v.length:=by
 induction u with
 |nil=>simp[brL]
 |cons x u ih=>
  have:(brL p W B n (x::u) v)=v.map (λy=>br p W B n x y)++brL p W B n u v:=rfl
  rw[this,List.length_append,List.length_map,ih,List.length_cons,Nat.add_mul,Nat.one_mul,Nat.add_comm]
theorem zIl(u v:V2)(x:V1):brL p W B n (u++[x]) v=brL p W B n u v++v.map λy=>br p W B n x y:=by
 simp[brL,List.flatMap_append]
theorem zCK(o:OkW p n W)(q:OkB p n B)(u v:V2):Els p n (brL p W B n u v):=λz hz=>by
 obtain⟨x,hx,h⟩:=List.mem_flatMap.1 hz;obtain⟨y,hy,rfl⟩:=List.mem_map.1 h;exact br_el o q
theorem zAa(hs:PtrR σ s p vP vB)(hP:FII vP W)(mF:W.length=n)(hn:n<=1048576)(hk:∀v,FII v (units n)->K v σ):zA Tryz.prog 141 [.ptr s 0] σ K:=by
 obtain⟨wp,ap,rp,rfl,jf⟩:=hP;have Da:σ.rd1 s 1=some (.fz wp ap W.length rp):=by rw[zI hs.obj];rfl
 refine zA.gh ?_;refine zD mix Tryz.func141 ?_
 conv=>arg 2;cbv
 refine zF rfl ?_;simp only[Z3,seval,-ae,Da,mF];refine zG (λm vs h'=>∃(i:Nat) (v:PV) (rows:List PV),i<=n/\m=n-i/\vs=[.ptr s 0,v,.int .i64 n,.int .i64 i]/\Keep σ h'/\PAcc σ.next 1 h' v i rows/\All2 FI rows ((units n).take i)) n ?_ ?_
 .exact⟨0,_,[],by omega,by omega,rfl,Keep.refl σ,PAcc.nil _ _ _,by rw[List.take_zero];exact All2.nil _⟩
 rintro m vs h' ⟨i,v,rows,hi,rfl,rfl,aq,ha,an⟩
 simp only[Z3,seval,-ae];have cu:=hs.keep aq;have C9:h'.rd1 s 1=some (.fz wp ap W.length rp):=by rw[zI cu.obj];rfl
 refine iteI (λah=>?_) λaG=>?_
 .simp only[Z3,seval,-ae,C9,mF];refine qB hn ah λa1=>?_;simp only[Z3,seval,-ae];refine PAcc.push (bytes:=24) aq ha (by omega) (by omega) λv' h2 k2 a2=>?_;simp only[Z3,seval,-ae,wrapS ah (by omega:n<=4611686018427387904)];refine⟨_,by omega,i+1,v',_,by omega,rfl,rfl,k2,a2.acc,?_⟩;rw[zE7 ah];exact an.snoc ⟨true,a1,by rw[qH]⟩
 .have aK:i=n:=by omega
  subst aK;rw[List.take_of_length_le (by rw[qG];exact vM _)]at an;exact ha.fin aq (an.bI 0) λa=>hk _ ⟨true,a,rows,by rw[qG],an⟩
theorem zIk{u v:V2}(hs:PtrR σ s p vP vB)(hR:IsR vP vB W B)(o:OkW p n W)(q:OkB p n B)(hU:FII vU u)(hV:FII vV v)(eu:Els p n u)(ev:Els p n v)(cq:u.length<=6)(eF:v.length<=12)
  (hk:∀z,FII z (brL p W B n u v)->K z σ):zA Tryz.prog 188 [.ptr s 0,vU,vV] σ K:=by
 obtain⟨wu,au,ru,rfl,dt⟩:=hU;obtain⟨wv,av,rv,rfl,fW⟩:=hV;have bnd:∀(i j:Nat),i<u.length->j<=v.length->(brL p W B n (u.take i) v++(v.take j).map λy=>br p W B n (u.getD i []) y).length<=84:=λi j hi hj=>by
  rw[List.length_append,zAK,List.length_map,List.length_take,List.length_take]
  have:min i u.length*v.length<=6*12:=Nat.mul_le_mul (by omega) eF
  omega
 refine zA.gh ?_;refine zD mix Tryz.func188 ?_
 conv=>arg 2;cbv
 refine zF rfl ?_;simp only[Z3,seval,-ae];refine zG (λm vs h'=>∃(i:Nat) (z:PV) (rows:List PV),i<=u.length/\m=u.length-i/\vs=[.ptr s 0,.fz wv av v.length rv,z,.fz wu au u.length ru,.int .i64 u.length,.int .i64 i]/\Keep σ h'/\PAcc σ.next 1 h' z (brL p W B n (u.take i) v).length rows/\All2 FI rows (brL p W B n (u.take i) v)) u.length ?_ ?_
 .exact⟨0,_,[],by omega,by omega,rfl,Keep.refl σ,PAcc.nil _ _ _,by rw[List.take_zero];exact All2.nil _⟩
 rintro m vs h' ⟨i,z,rows,hi,rfl,rfl,aq,ha,an⟩
 simp only[Z3,seval,-ae];refine iteI (λah=>?_) λaG=>?_
 .obtain⟨w4,a4,hr⟩:=dt.rowI ah;have dq:=eu _ (List.getElem_mem ah);have fg:u.getD i []=u[i]:=by simp[List.getD_eq_getElem?_getD,ah]
  simp only[Z3,seval,-ae,ah,hr];refine zG (λm vs h'=>∃(j:Nat) (z:PV) (rows:List PV),j<=v.length/\m=v.length-j/\vs=[.ptr s 0,.fz wv av v.length rv,z,.fz w4 a4 u[i].length (pis u[i]),.fz wu au u.length ru,.int .i64 u.length,.int .i64 i,.fz wv av v.length rv,.int .i64 v.length,.int .i64 j]/\Keep σ h'/\
   PAcc σ.next 1 h' z (brL p W B n (u.take i) v++(v.take j).map λy=>br p W B n (u.getD i []) y).length rows/\All2 FI rows (brL p W B n (u.take i) v++(v.take j).map λy=>br p W B n (u.getD i []) y)) v.length ?_ ?_
  .exact⟨0,z,rows,by omega,by omega,rfl,aq,by simpa using ha,by simpa using an⟩
  clear aq ha an z rows
  rintro m vs h' ⟨j,z,rows,hj,rfl,rfl,aq,ha,an⟩
  simp only[Z3,seval,-ae];refine iteI (λkM=>?_) λJd=>?_
  .obtain⟨w5,a5,iE⟩:=fW.rowI kM;have Bx:=ev _ (List.getElem_mem kM);simp only[Z3,seval,-ae,kM,iE];refine qo (hs.keep aq) hR o q dq Bx rfl rfl λa6=>?_;have hb:=bnd i j ah hj;simp only[Z3,seval,-ae];refine PAcc.push (bytes:=24) aq ha (by omega) (by omega) λv' h2 k2 a2=>?_;simp only[Z3,seval,-ae,wrapS kM (by omega:v.length<=4611686018427387904)];have e:(brL p W B n (u.take i) v++(v.take (j+1)).map λy=>br p W B n (u.getD i []) y)=(brL p W B n (u.take i) v++(v.take j).map λy=>br p W B n (u.getD i []) y)++[br p W B n u[i] v[j]]:=by
    rw[List.take_succ_eq_append_getElem kM,List.map_append,List.append_assoc,fg];rfl
   refine⟨_,by omega,j+1,v',rows++[.fz true a6 n (pis (br p W B n u[i] v[j]))],by omega,rfl,rfl,k2,?_,?_⟩
   .rw[e,List.length_append];exact a2.acc
   .rw[e];exact an.snoc ⟨true,a6,by rw[(br_el o q).1]⟩
  .have iJ:j=v.length:=by omega
   subst iJ;have e:(brL p W B n (u.take i) v++(v.take v.length).map λy=>br p W B n (u.getD i []) y)=brL p W B n (u.take (i+1)) v:=by
    rw[List.take_length,List.take_succ_eq_append_getElem ah,zIl,fg]
   rw[e]at ha an;simp only[Z3,seval,-ae,wrapS ah (by omega:u.length<=4611686018427387904)];exact⟨_,by omega,i+1,z,rows,by omega,rfl,rfl,aq,ha,an⟩
 .have aK:i=u.length:=by omega
  subst aK;rw[List.take_length]at ha an;exact ha.fin aq (an.bI 0) λa=>hk _ ⟨true,a,rows,rfl,an⟩
theorem zER{u v:V2}(hs:PtrR σ s p vP vB)(hR:IsR vP vB W B)(o:OkW p n W)(q:OkB p n B)(hU:FII vU u)(hV:FII vV v)(eu:Els p n u)(ev:Els p n v)(cq:u.length<=6)(eF:v.length<=6)
  (hk:∀z,FII z (brL p W B n u v)->K z σ):zA Tryz.prog 188 [.ptr s 0,vU,vV] σ K:=zIk hs hR o q hU hV eu ev cq (by omega) hk
end Go.Proofs
