/- . -/
import Derived.Test.YtgkbfiilhocioaaGreatHP3
open Nat renaming le_refl→vM
open Int renaming reduceNatCast'->ae
set_option maxRecDepth 100000
set_option linter.unusedSimpArgs false
set_option linter.unusedVariables false
namespace Go.Proofs
open Go.Ab Go.Lie
variable{U:PHeap}{K:PV->PHeap->Prop}{p:Int}{n:Nat}{W:L4}{B:L5}{vP vB:PV}{s:Nat}
abbrev br(p:Int)(W:L4)(B:L5)(n:Nat)(a b:L3):L3:=norm p W (bsum B a b n)
abbrev ladd(p:Int)(W:L4)(a b:L3):L3:=norm p W (lmix 1 a 1 b)
abbrev lmul(p:Int)(W:L4)(k:Int)(a:L3):L3:=norm p W (lmix k a 0 a)
theorem br_el(o:OkW p n W)(q:OkB p n B){a b:L3}:El p n (br p W B n a b):=zGK o (ZX q)
theorem zH(o:OkW p n W){k m:Int}{a b:L3}(ha:El p n a)(hb:El p n b):El p n (norm p W (lmix k a m b)):=zGK o (by rw[zM (ha.1.trans hb.1.symm)];exact ha.1)
theorem zU(hp:okp p){k:Nat}(hk:k<n):El p n (unitL n k):=⟨ZM n k,λx hx=>by
 have:=hp.1
 rcases List.mem_or_eq_of_mem_set hx with h|h
 .rw[List.eq_of_mem_replicate h];omega
 .omega⟩
def F1(p:Int)(W:L4)(B:L5)(n i j:Nat):Prop:=lmul p W p (br p W B n (unitL n i) (unitL n j))=br p W B n (W.getD i []) (unitL n j)
def F2(p:Int)(W:L4)(B:L5)(n i j k:Nat):Prop:=
 isZ (ladd p W (ladd p W (br p W B n (br p W B n (unitL n i) (unitL n j)) (unitL n k)) (br p W B n (br p W B n (unitL n j) (unitL n k)) (unitL n i))) (br p W B n (br p W B n (unitL n k) (unitL n i)) (unitL n j)))
def Zm(p:Int)(W:L4)(B:L5)(n:Nat):Prop:=(∀i j,i<n->j<n->F1 p W B n i j)/\∀i j k,i<j->j<k->k<n->F2 p W B n i j k
theorem qm{k:Nat}(hn:n<=1048576)(cw:k<n)(hk:∀a,K (.fz true a n (pis (unitL n k))) U):zA Tryz.prog 159 [.int .i64 n,.int .i64 k] U K:=
 zA.fz (λK'=>zGw hn cw) (zO _ _) λo cap=>hk _
theorem Za{l l':Nat}{w w':Bool}{av bv:AV}{a b:L3}(hs:PtrR U s p vP vB)(hR:IsR vP vB W B)(o:OkW p n W)(q:OkB p n B)(ha:El p n a)(hb:El p n b)(hl:l=a.length)(aX:l'=b.length)
  (hk:∀v,K (.fz true v n (pis (br p W B n a b))) U):zA Tryz.prog 162 [.ptr s 0,.fz w av l (pis a),.fz w' bv l' (pis b)] U K:=
 zA.fzN (br_el o q).1 (λK'=>zLu hs hR o q ha hb hl aX) hk
theorem Qv{l l':Nat}{w w':Bool}{av bv:AV}{a b:L3}(hs:PtrR U s p vP vB)(hP:FII vP W)(o:OkW p n W)(ha:El p n a)(hb:El p n b)(hl:l=a.length)(aX:l'=b.length)
  (hk:∀v,K (.fz true v n (pis (ladd p W a b))) U):zA Tryz.prog 161 [.ptr s 0,.fz w av l (pis a),.fz w' bv l' (pis b)] U K:=
 zA.fzN (zH o ha hb).1 (λK'=>zB8 hs hP o ha hb hl aX) hk
theorem Zn{l:Nat}{w:Bool}{av:AV}{k:Int}{a:L3}(hs:PtrR U s p vP vB)(hP:FII vP W)(o:OkW p n W)(ha:El p n a)(hl:l=a.length)(jR:-1000000000<=k/\k<=1000000000)
  (hk:∀v,K (.fz true v n (pis (lmul p W k a))) U):zA Tryz.prog 191 [.ptr s 0,.int .i64 k,.fz w av l (pis a)] U K:=
 zA.fzN (zH o ha ha).1 (λK'=>zCB hs hP o ha hl jR) hk
theorem zMO(o:OkW p n W){i:Nat}(hi:i<W.length):El p n W[i]:=⟨(o.row i hi).1,(o.row i hi).2.1⟩
theorem zJh(hs:PtrR U s p vP vB)(hR:IsR vP vB W B)(o:OkW p n W)(q:OkB p n B)(hk:∀kind i j k:Int,(kind=0↔Zm p W B n)->K (.tup [.int .i64 kind,.int .i64 i,.int .i64 j,.int .i64 k]) U):zA Tryz.prog 230 [.ptr s 0] U K:=by
 have aW:=o.le;have eV:=o.len;have hp:=o.pr;have aH:=hR;have mg:=hR.P;obtain⟨⟨w1,a1,rP,rfl,hP⟩,⟨w3,a3,rB,rfl,hB⟩⟩:=hR;have mU:-1000000000<=p/\p<=1000000000:=by unfold okp at hp;omega
 subst eV;refine zP mix Tryz.func230 cf230 rfl ?_;dsimp only[if230,qD,eD,mI0,kI0,lI0,fI0,bI0,cI0,nI0,sI0,pI0,C1,C2,C3,mD0,lD0,fD0,xD0,pD0,R0,S0];simp only[Z3,seval,-ae,zG hs.obj];refine zF (λm vs h'=>∃i:Nat,i<=W.length/\m=W.length-i/\vs=[.ptr s 0,.int .i64 W.length,.int .i64 W.length,.int .i64 i]/\U=h'/\∀i' j',i'<i->j'<W.length->F1 p W B W.length i' j') W.length ?_ ?_
 .exact⟨0,by omega,by omega,rfl,rfl,λi' j' h=>by omega⟩
 rintro m vs h' ⟨i,hi,rfl,rfl,rfl,ah⟩
 simp only[Z3,seval,-ae];refine iteI (λag=>?_) λaF=>?_
 .refine zF (λm vs h'=>∃j:Nat,j<=W.length/\m=W.length-j/\vs=[.ptr s 0,.int .i64 W.length,.int .i64 i,.int .i64 W.length,.int .i64 i,.int .i64 W.length,.int .i64 j]/\U=h'/\∀j',j'<j->F1 p W B W.length i j') W.length ?_ ?_
  .exact⟨0,by omega,by omega,rfl,rfl,λj' h=>by omega⟩
  rintro m vs h' ⟨j,hj,rfl,rfl,rfl,bc⟩
  simp only[Z3,seval,-ae];refine iteI (λan=>?_) λaF=>?_
  .have ei:=zU hp ag;have ej:=zU hp an;have eb:=br_el o q (a:=unitL W.length i) (b:=unitL W.length j);obtain⟨w4,a4,hr⟩:=hP.rowI ag;have er:=zMO o ag;refine qm (by omega) ag λv1=>?_;simp only[Z3,seval,-ae];refine qm (by omega) an λv2=>?_;simp only[Z3,seval,-ae,zG hs.obj,ag,hr];refine Za hs aH o q ei ej (ZM _ _).symm (ZM _ _).symm λv3=>?_;simp only[Z3,seval,-ae,zG hs.obj,ag,hr];refine Zn hs mg o eb eb.1.symm mU λv4=>?_;simp only[Z3,seval,-ae,zG hs.obj,ag,hr];refine Za hs aH o q er ej rfl (ZM _ _).symm λv5=>?_;simp only[Z3,seval,-ae];refine zAj (zH o eb eb).1.symm (br_el o q).1.symm (by rw[(zH o eb eb).1];omega) ?_;have hF:(lmul p W p (br p W B W.length (unitL W.length i) (unitL W.length j))=br p W B W.length W[i] (unitL W.length j))↔F1 p W B W.length i j:=by unfold F1;rw[ZE ag]
   by_cases hf:lmul p W p (br p W B W.length (unitL W.length i) (unitL W.length j))=br p W B W.length W[i] (unitL W.length j)
   .simp only[Z3,seval,-ae,eq_true hf,wrapS an (by omega:W.length<=4611686018427387904)];refine⟨_,by omega,j+1,by omega,rfl,rfl,λj' h=>?_⟩;by_cases e:j'=j
    .subst e;exact hF.1 hf
    .exact bc j' (by omega)
   .simp only[Z3,seval,-ae,hf];exact hk _ _ _ _ ⟨λx=>by omega,λx=>absurd (hF.2 (x.1 i j ag an)) hf⟩
  .simp only[Z3,seval,-ae,wrapS ag (by omega:W.length<=4611686018427387904)];refine⟨_,by omega,i+1,by omega,rfl,rfl,λi' j' h h'=>?_⟩;by_cases e:i'=i
   .subst e;exact bc j' (by omega)
   .exact ah i' j' (by omega) h'
 have ah:∀i j,i<W.length->j<W.length->F1 p W B W.length i j:=λi' j' h h'=>ah i' j' (by omega) h';clear aF hi;refine zF (λm vs h'=>∃i:Nat,i<=W.length/\m=W.length-i/\vs=[.ptr s 0,.int .i64 W.length,.int .i64 W.length,.int .i64 i]/\U=h'/\∀i' j k,i'<i->i'<j->j<k->k<W.length->F2 p W B W.length i' j k) W.length ?_ ?_
 .exact⟨0,by omega,by omega,rfl,rfl,λi' j k h=>by omega⟩
 rintro m vs h' ⟨i,hi,rfl,rfl,rfl,kd⟩
 simp only[Z3,seval,-ae];refine iteI (λag=>?_) λaF=>?_;rotate_left
 .exact hk _ _ _ _ ⟨λ_=>⟨ah,λi j k h1 h2 h3=>kd i j k (by omega) h1 h2 h3⟩,λ_=>rfl⟩
 simp only[Z3,seval,-ae,wrapS ag (by omega:W.length<=4611686018427387904)];refine zF (λm vs h'=>∃j:Nat,i+1<=j/\j<=W.length/\m=W.length-j/\vs=[.ptr s 0,.int .i64 W.length,.int .i64 i,.int .i64 j,.int .i64 W.length,.int .i64 i]/\U=h'/\∀j' k,i<j'->j'<j->j'<k->k<W.length->F2 p W B W.length i j' k) (W.length-(i+1)) ?_ ?_
 .exact⟨i+1,by omega,by omega,by omega,rfl,rfl,λj' k h1 h2=>by omega⟩
 rintro m vs h' ⟨j,jT,hj,rfl,rfl,rfl,ka⟩
 simp only[Z3,seval,-ae];refine iteI (λan=>?_) λaF=>?_;rotate_left
 .simp only[Z3,seval,-ae,wrapS ag (by omega:W.length<=4611686018427387904)];refine⟨_,by omega,i+1,by omega,rfl,rfl,λi' j' k h1 h2 h3 h4=>?_⟩;by_cases e:i'=i
  .subst e;exact ka j' k h2 (by omega) h3 h4
  .exact kd i' j' k (by omega) h2 h3 h4
 simp only[Z3,seval,-ae,wrapS an (by omega:W.length<=4611686018427387904)];refine zF (λm vs h'=>∃k:Nat,j+1<=k/\k<=W.length/\m=W.length-k/\vs=[.ptr s 0,.int .i64 W.length,.int .i64 i,.int .i64 j,.int .i64 k,.int .i64 W.length,.int .i64 i]/\U=h'/\∀k',j<k'->k'<k->F2 p W B W.length i j k') (W.length-(j+1)) ?_ ?_
 .exact⟨j+1,by omega,by omega,by omega,rfl,rfl,λk' h1 h2=>by omega⟩
 rintro m vs h' ⟨k,nU,cL,rfl,rfl,rfl,j9⟩
 simp only[Z3,seval,-ae];refine iteI (λbe=>?_) λaF=>?_;rotate_left
 .simp only[Z3,seval,-ae,wrapS an (by omega:W.length<=4611686018427387904)];refine⟨_,by omega,j+1,by omega,by omega,rfl,rfl,λj' k' h1 h2 h3 h4=>?_⟩;by_cases e:j'=j
  .subst e;exact j9 k' h3 (by omega)
  .exact ka j' k' h1 (by omega) h3 h4
 have ei:=zU hp ag;have ej:=zU hp an;have ek:=zU hp be;have bb:∀a b,El p W.length (br p W B W.length a b):=λa b=>br_el o q;refine qm (by omega) ag λv1=>?_;simp only[Z3,seval,-ae];refine qm (by omega) an λv2=>?_;simp only[Z3,seval,-ae];refine qm (by omega) be λv3=>?_;simp only[Z3,seval,-ae];refine Za hs aH o q ei ej ei.1.symm ej.1.symm λv4=>?_;simp only[Z3,seval,-ae];refine Za hs aH o q (bb _ _) ek (bb _ _).1.symm ek.1.symm λv5=>?_;simp only[Z3,seval,-ae];refine Za hs aH o q ej ek ej.1.symm ek.1.symm λv6=>?_;simp only[Z3,seval,-ae];refine Za hs aH o q (bb _ _) ei (bb _ _).1.symm ei.1.symm λv7=>?_;simp only[Z3,seval,-ae];refine Qv hs mg o (bb _ _) (bb _ _) (bb _ _).1.symm (bb _ _).1.symm λv8=>?_;have e8:=zH o (k:=1) (m:=1) (bb (br p W B W.length (unitL W.length i) (unitL W.length j)) (unitL W.length k)) (bb (br p W B W.length (unitL W.length j) (unitL W.length k)) (unitL W.length i));simp only[Z3,seval,-ae];refine Za hs aH o q ek ei ek.1.symm ei.1.symm λv9=>?_;simp only[Z3,seval,-ae];refine Za hs aH o q (bb _ _) ej (bb _ _).1.symm ej.1.symm λv10=>?_;simp only[Z3,seval,-ae];refine Qv hs mg o e8 (bb _ _) e8.1.symm (bb _ _).1.symm λv11=>?_;have r9:=zH o (k:=1) (m:=1) e8 (bb (br p W B W.length (unitL W.length k) (unitL W.length i)) (unitL W.length j));simp only[Z3,seval,-ae];refine zAv r9.1.symm (by rw[r9.1];omega) ?_;have hF:isZ (norm p W (lmix 1 (ladd p W (br p W B W.length (br p W B W.length (unitL W.length i) (unitL W.length j)) (unitL W.length k)) (br p W B W.length (br p W B W.length (unitL W.length j) (unitL W.length k)) (unitL W.length i))) 1 (br p W B W.length (br p W B W.length (unitL W.length k) (unitL W.length i)) (unitL W.length j))))↔F2 p W B W.length i j k:=Iff.rfl;by_cases hf:isZ (norm p W (lmix 1 (ladd p W (br p W B W.length (br p W B W.length (unitL W.length i) (unitL W.length j)) (unitL W.length k)) (br p W B W.length (br p W B W.length (unitL W.length j) (unitL W.length k)) (unitL W.length i))) 1 (br p W B W.length (br p W B W.length (unitL W.length k) (unitL W.length i)) (unitL W.length j))))
 .simp only[Z3,seval,-ae,eq_true hf,wrapS be (by omega:W.length<=4611686018427387904)];refine⟨_,by omega,k+1,by omega,by omega,rfl,rfl,λk' h1 h2=>?_⟩;by_cases e:k'=k
  .subst e;exact hF.1 hf
  .exact j9 k' h1 (by omega)
 .simp only[Z3,seval,-ae,hf];exact hk _ _ _ _ ⟨λx=>by omega,λx=>absurd (hF.2 (x.2 i j k (by omega) (by omega) be)) hf⟩
theorem zJp(hR:IsR vP vB W B)(o:OkW p n W)(q:OkB p n B)(hk:∀kind i j k:Int,(kind=0↔Zm p W B n)->K (.tup [.int .i64 kind,.int .i64 i,.int .i64 j,.int .i64 k]) U):zA Tryz.prog 223 [.agg [.int .i64 p,vP,vB]] U K:=by
 have aW:=o.le;have eV:=o.len;have hp:=o.pr;have aH:=hR;have mg:=hR.P;obtain⟨⟨w1,a1,rP,rfl,hP⟩,⟨w3,a3,rB,rfl,hB⟩⟩:=hR;have mU:-1000000000<=p/\p<=1000000000:=by unfold okp at hp;omega
 subst eV;refine zA.gh ?_;have aq:=zD U [.int .i64 p,.fz w1 a1 W.length rP,.fz w3 a3 B.length rB];have fin:∀kind i j k:Int,(kind=0↔Zm p W B W.length)->Gh U K (.tup [.int .i64 kind,.int .i64 i,.int .i64 j,.int .i64 k]) (U.new [.int .i64 p,.fz w1 a1 W.length rP,.fz w3 a3 B.length rB]):=λkind i j k h=>Gh.fin0 aq ⟨trivial,trivial,trivial,trivial,trivial⟩ (hk kind i j k h);refine zP mix Tryz.func223 cf223 rfl ?_;dsimp only[if223,eI,qD,eD,mI0,kI0,lI0,fI0,bI0,cI0,sI0,mD0,lD0,fD0,xD0,I0,R0,S0];simp only[Z3,seval,-ae];refine zF (λm vs h'=>∃i:Nat,i<=W.length/\m=W.length-i/\vs=[.ptr U.next 0,.int .i64 W.length,.int .i64 i]/\U.new [.int .i64 p,.fz w1 a1 W.length rP,.fz w3 a3 B.length rB]=h'/\∀i' j',i'<i->j'<W.length->F1 p W B W.length i' j') W.length ?_ ?_
 .exact⟨0,by omega,by omega,rfl,rfl,λi' j' h=>by omega⟩
 rintro m vs h' ⟨i,hi,rfl,rfl,rfl,ah⟩
 simp only[Z3,seval,-ae];refine iteI (λag=>?_) λaF=>?_
 .refine zF (λm vs h'=>∃j:Nat,j<=W.length/\m=W.length-j/\vs=[.ptr U.next 0,.int .i64 W.length,.int .i64 i,.int .i64 j]/\U.new [.int .i64 p,.fz w1 a1 W.length rP,.fz w3 a3 B.length rB]=h'/\∀j',j'<j->F1 p W B W.length i j') W.length ?_ ?_
  .exact⟨0,by omega,by omega,rfl,rfl,λj' h=>by omega⟩
  rintro m vs h' ⟨j,hj,rfl,rfl,rfl,bc⟩
  simp only[Z3,seval,-ae];refine iteI (λan=>?_) λaF=>?_
  .have ei:=zU hp ag;have ej:=zU hp an;have eb:=br_el o q (a:=unitL W.length i) (b:=unitL W.length j);obtain⟨w4,a4,hr⟩:=hP.rowI ag;have er:=zMO o ag;refine Zf aH rfl (by omega) ag λv1=>?_;simp only[Z3,seval,-ae];refine Zf aH rfl (by omega) an λv2=>?_;simp only[Z3,seval,-ae,ag,hr];refine qx aH o q ei ej (ZM _ _).symm (ZM _ _).symm λv3=>?_;simp only[Z3,seval,-ae,ag,hr];refine zBE aH rfl (by omega) λvz=>?_;simp only[Z3,seval,-ae];refine ZB aH o eb (zAJ hp) eb.1.symm (by simp) mU (by decide) λv4=>?_;rw[zO4 (eb.1.trans (by simp))];simp only[Z3,seval,-ae,ag,hr];refine Zf aH rfl (by omega) an λv6=>?_;simp only[Z3,seval,-ae,ag,hr];refine qx aH o q er ej rfl (ZM _ _).symm λv5=>?_;simp only[Z3,seval,-ae];refine zFe (zH o eb eb).1.symm (br_el o q).1.symm (by rw[(zH o eb eb).1];omega) ?_;have hF:(lmul p W p (br p W B W.length (unitL W.length i) (unitL W.length j))=br p W B W.length W[i] (unitL W.length j))↔F1 p W B W.length i j:=by unfold F1;rw[ZE ag]
   by_cases hf:lmul p W p (br p W B W.length (unitL W.length i) (unitL W.length j))=br p W B W.length W[i] (unitL W.length j)
   .simp only[Z3,seval,-ae,eq_true hf,wrapS an (by omega:W.length<=4611686018427387904)];refine⟨_,by omega,j+1,by omega,rfl,rfl,λj' h=>?_⟩;by_cases e:j'=j
    .subst e;exact hF.1 hf
    .exact bc j' (by omega)
   .simp only[Z3,seval,-ae,hf];exact fin _ _ _ _ ⟨λx=>by omega,λx=>absurd (hF.2 (x.1 i j ag an)) hf⟩
  .simp only[Z3,seval,-ae,wrapS ag (by omega:W.length<=4611686018427387904)];refine⟨_,by omega,i+1,by omega,rfl,rfl,λi' j' h h'=>?_⟩;by_cases e:i'=i
   .subst e;exact bc j' (by omega)
   .exact ah i' j' (by omega) h'
 have ah:∀i j,i<W.length->j<W.length->F1 p W B W.length i j:=λi' j' h h'=>ah i' j' (by omega) h';clear aF hi;refine zF (λm vs h'=>∃i:Nat,i<=W.length/\m=W.length-i/\vs=[.ptr U.next 0,.int .i64 W.length,.int .i64 i]/\U.new [.int .i64 p,.fz w1 a1 W.length rP,.fz w3 a3 B.length rB]=h'/\∀i' j k,i'<i->i'<j->j<k->k<W.length->F2 p W B W.length i' j k) W.length ?_ ?_
 .exact⟨0,by omega,by omega,rfl,rfl,λi' j k h=>by omega⟩
 rintro m vs h' ⟨i,hi,rfl,rfl,rfl,kd⟩
 simp only[Z3,seval,-ae];refine iteI (λag=>?_) λaF=>?_;rotate_left
 .exact fin _ _ _ _ ⟨λ_=>⟨ah,λi j k h1 h2 h3=>kd i j k (by omega) h1 h2 h3⟩,λ_=>rfl⟩
 simp only[Z3,seval,-ae,wrapS ag (by omega:W.length<=4611686018427387904)];refine zF (λm vs h'=>∃j:Nat,i+1<=j/\j<=W.length/\m=W.length-j/\vs=[.ptr U.next 0,.int .i64 W.length,.int .i64 i,.int .i64 j]/\U.new [.int .i64 p,.fz w1 a1 W.length rP,.fz w3 a3 B.length rB]=h'/\∀j' k,i<j'->j'<j->j'<k->k<W.length->F2 p W B W.length i j' k) (W.length-(i+1)) ?_ ?_
 .exact⟨i+1,by omega,by omega,by omega,rfl,rfl,λj' k h1 h2=>by omega⟩
 rintro m vs h' ⟨j,jT,hj,rfl,rfl,rfl,ka⟩
 simp only[Z3,seval,-ae];refine iteI (λan=>?_) λaF=>?_;rotate_left
 .simp only[Z3,seval,-ae,wrapS ag (by omega:W.length<=4611686018427387904)];refine⟨_,by omega,i+1,by omega,rfl,rfl,λi' j' k h1 h2 h3 h4=>?_⟩;by_cases e:i'=i
  .subst e;exact ka j' k h2 (by omega) h3 h4
  .exact kd i' j' k (by omega) h2 h3 h4
 simp only[Z3,seval,-ae,wrapS an (by omega:W.length<=4611686018427387904)];refine zF (λm vs h'=>∃k:Nat,j+1<=k/\k<=W.length/\m=W.length-k/\vs=[.ptr U.next 0,.int .i64 W.length,.int .i64 i,.int .i64 j,.int .i64 k]/\U.new [.int .i64 p,.fz w1 a1 W.length rP,.fz w3 a3 B.length rB]=h'/\∀k',j<k'->k'<k->F2 p W B W.length i j k') (W.length-(j+1)) ?_ ?_
 .exact⟨j+1,by omega,by omega,by omega,rfl,rfl,λk' h1 h2=>by omega⟩
 rintro m vs h' ⟨k,nU,cL,rfl,rfl,rfl,j9⟩
 simp only[Z3,seval,-ae];refine iteI (λbe=>?_) λaF=>?_;rotate_left
 .simp only[Z3,seval,-ae,wrapS an (by omega:W.length<=4611686018427387904)];refine⟨_,by omega,j+1,by omega,by omega,rfl,rfl,λj' k' h1 h2 h3 h4=>?_⟩;by_cases e:j'=j
  .subst e;exact j9 k' h3 (by omega)
  .exact ka j' k' h1 (by omega) h3 h4
 have ei:=zU hp ag;have ej:=zU hp an;have ek:=zU hp be;have bb:∀a b,El p W.length (br p W B W.length a b):=λa b=>br_el o q;refine Zf aH rfl (by omega) ag λv1=>?_;simp only[Z3,seval,-ae];refine Zf aH rfl (by omega) an λv2=>?_;simp only[Z3,seval,-ae];refine Zf aH rfl (by omega) be λv3=>?_;simp only[Z3,seval,-ae];refine qx aH o q ei ej ei.1.symm ej.1.symm λv4=>?_;simp only[Z3,seval,-ae];refine qx aH o q (bb _ _) ek (bb _ _).1.symm ek.1.symm λv5=>?_;simp only[Z3,seval,-ae];refine qx aH o q ej ek ej.1.symm ek.1.symm λv6=>?_;simp only[Z3,seval,-ae];refine qx aH o q (bb _ _) ei (bb _ _).1.symm ei.1.symm λv7=>?_;simp only[Z3,seval,-ae];refine ZB aH o (bb _ _) (bb _ _) (bb _ _).1.symm (bb _ _).1.symm (by decide) (by decide) λv8=>?_;have e8:=zH o (k:=1) (m:=1) (bb (br p W B W.length (unitL W.length i) (unitL W.length j)) (unitL W.length k)) (bb (br p W B W.length (unitL W.length j) (unitL W.length k)) (unitL W.length i));simp only[Z3,seval,-ae];refine qx aH o q ek ei ek.1.symm ei.1.symm λv9=>?_;simp only[Z3,seval,-ae];refine qx aH o q (bb _ _) ej (bb _ _).1.symm ej.1.symm λv10=>?_;simp only[Z3,seval,-ae];refine ZB aH o e8 (bb _ _) e8.1.symm (bb _ _).1.symm (by decide) (by decide) λv11=>?_;have r9:=zH o (k:=1) (m:=1) e8 (bb (br p W B W.length (unitL W.length k) (unitL W.length i)) (unitL W.length j));simp only[Z3,seval,-ae];refine zBF r9.1.symm (by rw[r9.1];omega) ?_;have hF:isZ (norm p W (lmix 1 (ladd p W (br p W B W.length (br p W B W.length (unitL W.length i) (unitL W.length j)) (unitL W.length k)) (br p W B W.length (br p W B W.length (unitL W.length j) (unitL W.length k)) (unitL W.length i))) 1 (br p W B W.length (br p W B W.length (unitL W.length k) (unitL W.length i)) (unitL W.length j))))↔F2 p W B W.length i j k:=Iff.rfl;by_cases hf:isZ (norm p W (lmix 1 (ladd p W (br p W B W.length (br p W B W.length (unitL W.length i) (unitL W.length j)) (unitL W.length k)) (br p W B W.length (br p W B W.length (unitL W.length j) (unitL W.length k)) (unitL W.length i))) 1 (br p W B W.length (br p W B W.length (unitL W.length k) (unitL W.length i)) (unitL W.length j))))
 .simp only[Z3,seval,-ae,eq_true hf,wrapS be (by omega:W.length<=4611686018427387904)];refine⟨_,by omega,k+1,by omega,by omega,rfl,rfl,λk' h1 h2=>?_⟩;by_cases e:k'=k
  .subst e;exact hF.1 hf
  .exact j9 k' h1 (by omega)
 .simp only[Z3,seval,-ae,hf];exact fin _ _ _ _ ⟨λx=>by omega,λx=>absurd (hF.2 (x.2 i j k (by omega) (by omega) be)) hf⟩
def isLie(p:Int)(W:L4)(B:L5):Prop:=Z5 p W B/\Zm p W B W.length
theorem zIw(hR:IsR vP vB W B)(sz:SzR W B)(hk:∀t:Bool,(t=true↔isLie p W B)->K (.bool t) U):zA Tryz.prog 143 [.agg [.int .i64 p,vP,vB]] U K:=by
 have h1:=hR.P.one;have h2:=hR.B.one;refine zA.gh ?_;have aq:=zD U [.int .i64 p,vP,vB];refine zB mix Tryz.func143 ?_
 conv=>arg 2;cbv
 refine zC rfl ?_;simp only[Z3,seval,-ae,h1,h2];refine zHI hR sz λt ht=>?_;cases t with
 |false=>
  simp only[Z3,seval,-ae];exact Gh.fin0 aq trivial (hk _ ⟨λx=>(by cases x),λx=>ht.2 x.1⟩)
 |true=>
  have fV:=ht.1 rfl;simp only[Z3,seval,-ae];refine zJh ⟨by simp only[Z3,seval,-ae],by simp only[Z3,seval,-ae]⟩ hR fV.w fV.b λkind i j k h=>?_;simp only[Z3,seval,-ae];exact Gh.fin0 aq trivial (hk _ ⟨λx=>⟨fV,h.1 (by simpa using x)⟩,λx=>by simpa using h.2 x.2⟩)
theorem zLZ(hR:IsR vP vB W B)(sz:SzR W B)(hk:∀t:Bool,(t=true↔isLie p W B)->K (.bool t) U):zA Tryz.prog 136 [.agg [.int .i64 p,vP,vB]] U K:=by
 have h1:=hR.P.one;have h2:=hR.B.one;refine zA.gh ?_;have aq:=zD U [.int .i64 p,vP,vB];refine zB mix Tryz.func136 ?_
 conv=>arg 2;cbv
 refine zC rfl ?_;simp only[Z3,seval,-ae,h1,h2];refine zJn hR sz λt ht=>?_;cases t with
 |false=>
  simp only[Z3,seval,-ae];exact Gh.fin0 aq trivial (hk _ ⟨λx=>(by cases x),λx=>ht.2 x.1⟩)
 |true=>
  have fV:=ht.1 rfl;simp only[Z3,seval,-ae];refine zJp hR fV.w fV.b λkind i j k h=>?_;simp only[Z3,seval,-ae];exact Gh.fin0 aq trivial (hk _ ⟨λx=>⟨fV,h.1 (by simpa using x)⟩,λx=>by simpa using h.2 x.2⟩)
variable{vL:PV}
theorem zEp{xs:L3}:isVec xs p n↔El p n xs:=⟨λh=>⟨by have:=h.1;omega,h.2⟩,λh=>⟨by have:=h.1;omega,h.2⟩⟩
theorem zNV{l:Nat}{w:Bool}{a:AV}{xs:L3}(hR:IsR vP vB W B)(hl:l=xs.length)(hb:xs.length<=1048576)(hp:okp p)(hk:∀t:Bool,(t=true↔El p W.length xs)->K (.bool t) U):
  zA Tryz.prog 224 [.agg [.int .i64 p,vP,vB],.fz w a l (pis xs)] U K:=by
 have h2:=hR.B.one;unfold okp at hp;obtain⟨⟨w1,a1,rP,rfl,hP⟩,hB⟩:=hR;refine zA.gh ?_;have aq:=zD U [.int .i64 p,.fz w1 a1 W.length rP,vB];refine zB mix Tryz.func224 ?_
 conv=>arg 2;cbv
 refine zC rfl ?_;simp only[Z3,seval,-ae,h2];refine zEn hl (by omega) (by omega) (by omega) ?_;simp only[Z3,seval,-ae];exact Gh.fin0 aq trivial (hk _ (by rw[decide_eq_true_iff];exact zEp))
def Els(p:Int)(n:Nat)(xs:L4):Prop:=∀x∈xs,El p n x
structure SzL(xs:L4):Prop where
 l:xs.length<=1048576
 r:∀x∈xs,x.length<=1048576
theorem zGR{xs:L4}(hR:IsR vP vB W B)(hL:FII vL xs)(sz:SzL xs)(hp:okp p)(hk:∀t:Bool,(t=true↔Els p W.length xs)->K (.bool t) U):
  zA Tryz.prog 138 [.agg [.int .i64 p,vP,vB],vL] U K:=by
 have h1:=hR.P.one;have h2:=hR.B.one;have aV:=sz.l;obtain⟨wl,al,rl,rfl,aR⟩:=hL;refine zA.gh ?_;have aq:=zD U [.int .i64 p,vP,vB];refine zB mix Tryz.func138 ?_
 conv=>arg 2;cbv
 refine zC rfl ?_;simp only[Z3,seval,-ae,h1,h2];refine zF (λm vs h'=>∃i:Nat,i<=xs.length/\m=xs.length-i/\vs=[.fz wl al xs.length rl,.ptr U.next 0,.int .i64 i]/\U.new [.int .i64 p,vP,vB]=h'/\∀j (h:j<xs.length),j<i->El p W.length xs[j]) xs.length ?_ ?_
 .exact⟨0,by omega,by omega,rfl,rfl,λj h hj=>by omega⟩
 rintro m vs h' ⟨i,hi,rfl,rfl,rfl,ah⟩
 simp only[Z3,seval,-ae];refine iteI (λag=>?_) λaF=>?_
 .obtain⟨w4,a4,hr⟩:=aR.rowI ag;simp only[Z3,seval,-ae,ag,hr];refine zNV hR rfl (sz.r _ (List.getElem_mem ag)) hp λt ht=>?_;cases t with
  |false=>
   simp only[Z3,seval,-ae];exact Gh.fin0 aq trivial (hk _ ⟨λx=>(by cases x),λx=>ht.2 (x _ (List.getElem_mem ag))⟩)
  |true=>
   simp only[Z3,seval,-ae,wrapS ag (by omega:xs.length<=4611686018427387904)];refine⟨_,by omega,i+1,by omega,rfl,rfl,λj h hj=>?_⟩;by_cases e:j=i
   .subst e;exact ht.1 rfl
   .exact ah j h (by omega)
 .refine Gh.fin0 aq trivial (hk _ ⟨λ_ x hx=>?_,λ_=>rfl⟩);obtain⟨j,hj,rfl⟩:=List.mem_iff_getElem.1 hx;exact ah j hj (by omega)
theorem zGP{xs:L4}(hs:PtrR U s p vP vB)(hR:IsR vP vB W B)(fM:SzR W B)(hL:FII vL xs)(sz:SzL xs)(hk:∀t:Bool,(t=true↔isLie p W B/\Els p W.length xs)->K (.bool t) U):
  zA Tryz.prog 133 [.ptr s 0,vL] U K:=by
 have mg:=hR.P;have aV:=sz.l;obtain⟨wl,al,rl,rfl,aR⟩:=hL;refine zB mix Tryz.func133 ?_
 conv=>arg 2;cbv
 refine zC rfl ?_;simp only[Z3,seval,-ae,zG hs.obj,ZN hs.obj];refine zIw hR fM λt ht=>?_;cases t with
 |false=>
  simp only[Z3,seval,-ae];exact hk _ ⟨λx=>(by cases x),λx=>ht.2 x.1⟩
 |true=>
 have pX:=ht.1 rfl;simp only[Z3,seval,-ae];refine zF (λm vs h'=>∃i:Nat,i<=xs.length/\m=xs.length-i/\vs=[.ptr s 0,.fz wl al xs.length rl,.int .i64 xs.length,.int .i64 i]/\U=h'/\∀j (h:j<xs.length),j<i->El p W.length xs[j]) xs.length ?_ ?_
 .exact⟨0,by omega,by omega,rfl,rfl,λj h hj=>by omega⟩
 rintro m vs h' ⟨i,hi,rfl,rfl,rfl,ah⟩
 simp only[Z3,seval,-ae];refine iteI (λag=>?_) λaF=>?_
 .obtain⟨w4,a4,hr⟩:=aR.rowI ag;simp only[Z3,seval,-ae,ag,hr];refine zAP hs mg rfl (sz.r _ (List.getElem_mem ag)) pX.1.1 ?_;by_cases hv:isVec xs[i] p W.length
  .simp only[Z3,seval,-ae,hv,wrapS ag (by omega:xs.length<=4611686018427387904)];refine⟨_,by omega,i+1,by omega,rfl,rfl,λj h hj=>?_⟩;by_cases e:j=i
   .subst e;exact zEp.1 hv
   .exact ah j h (by omega)
  .simp only[Z3,seval,-ae,hv];exact hk _ ⟨λx=>(by cases x),λx=>absurd (zEp.2 (x.2 _ (List.getElem_mem ag))) hv⟩
 .refine hk _ ⟨λ_=>⟨pX,λx hx=>?_⟩,λ_=>rfl⟩;obtain⟨j,hj,rfl⟩:=List.mem_iff_getElem.1 hx;exact ah j hj (by omega)
variable{p':Int}{W':L4}{B':L5}{sw sy:PV}
def left_(l:Int):Prop:=0<=l/\l<=1048576
theorem zI2{l:Int}{xs:L3}{v:PV}(hI:FI v xs)(hb:xs.length<=9223372036854775807)(hl:left_ l)(hk:∀r:Int,(r=-1\/(left_ r/\xs.length<=1048576))->K (.int .i64 r) U):zA Tryz.prog 81 [v,.int .i64 l] U K:=by
 obtain⟨w,a,rfl⟩:=hI;unfold left_ at hl;refine zB mix Tryz.func81 ?_
 conv=>arg 2;cbv
 refine zC rfl ?_;simp only[Z3,seval,-ae,wrap64 (n:=l-(xs.length:Int)) (by omega) (by omega)];refine iteI (λh=>?_) λh=>?_
 .exact hk _ (.inl rfl)
 .exact hk _ (.inr ⟨by unfold left_;omega,by omega⟩)
theorem zBY{l:Int}{xs:L4}{v:PV}(hI:FII v xs)(hb:xs.length<=9223372036854775807)(dw:∀x∈xs,x.length<=9223372036854775807)(hl:left_ l)(hk:∀r:Int,(r=-1\/(left_ r/\SzL xs))->K (.int .i64 r) U):zA Tryz.prog 12 [v,.int .i64 l] U K:=by
 obtain⟨w,a,rs,rfl,hr⟩:=hI;have aX:=hl;unfold left_ at hl;refine zB mix Tryz.func12 ?_
 conv=>arg 2;cbv
 refine zC rfl ?_;simp only[Z3,seval,-ae,wrap64 (n:=l-(xs.length:Int)) (by omega) (by omega)];refine iteI (λh=>?_) λh=>?_
 .exact hk _ (.inl rfl)
 refine zF (λm vs h'=>∃i:Nat,i<=xs.length/\m=xs.length-i/\∃r:Int,left_ r/\vs=[.fz w a xs.length rs,.int .i64 r,.int .i64 i]/\U=h'/\∀x∈xs.take i,x.length<=1048576) xs.length ?_ ?_
 .exact⟨0,by omega,by omega,_,(by unfold left_;omega),rfl,rfl,by simp⟩
 rintro m vs h' ⟨i,hi,rfl,r,cI,rfl,rfl,ah⟩
 simp only[Z3,seval,-ae];refine iteI (λag=>?_) λaF=>?_;rotate_left
 .exact hk _ (.inr ⟨cI,by omega,Q0 (by omega) ah⟩)
 obtain⟨w4,a4,cb⟩:=hr.rowI ag;simp only[Z3,seval,-ae,ag,cb];refine zI2 ⟨_,_,rfl⟩ (dw _ (List.getElem_mem ag)) cI λr' h=>?_;rcases h with rfl|⟨h1,h2⟩
 .simp only[Z3,seval,-ae];exact hk _ (.inl rfl)
 .have:¬r'<0:=by unfold left_ at h1;omega
  simp only[Z3,seval,-ae,this,wrapS ag (by omega:xs.length<=4611686018427387904)];exact⟨_,by omega,i+1,by omega,rfl,_,h1,rfl,zBl ag ah h2⟩
structure SzM(B:L5):Prop where
 l:B.length<=1048576
 r:∀q∈B,SzL q
theorem zGy{l:Int}{xs:L5}{v:PV}(hI:FIII v xs)(hb:xs.length<=9223372036854775807)(dw:∀q∈xs,q.length<=9223372036854775807/\∀x∈q,x.length<=9223372036854775807)(hl:left_ l)(hk:∀r:Int,(r=-1\/(left_ r/\SzM xs))->K (.int .i64 r) U):zA Tryz.prog 80 [v,.int .i64 l] U K:=by
 obtain⟨w,a,rs,rfl,hr⟩:=hI;have aX:=hl;unfold left_ at hl;refine zB mix Tryz.func80 ?_
 conv=>arg 2;cbv
 refine zC rfl ?_;simp only[Z3,seval,-ae,wrap64 (n:=l-(xs.length:Int)) (by omega) (by omega)];refine iteI (λh=>?_) λh=>?_
 .exact hk _ (.inl rfl)
 refine zF (λm vs h'=>∃i:Nat,i<=xs.length/\m=xs.length-i/\∃r:Int,left_ r/\vs=[.fz w a xs.length rs,.int .i64 r,.int .i64 i]/\U=h'/\∀x∈xs.take i,SzL x) xs.length ?_ ?_
 .exact⟨0,by omega,by omega,_,(by unfold left_;omega),rfl,rfl,by simp⟩
 rintro m vs h' ⟨i,hi,rfl,r,cI,rfl,rfl,ah⟩
 simp only[Z3,seval,-ae];refine iteI (λag=>?_) λaF=>?_;rotate_left
 .exact hk _ (.inr ⟨cI,by omega,Q0 (by omega) ah⟩)
 obtain⟨w4,a4,rk,cb,dp⟩:=hr.rowL ag;have iS:=dw _ (List.getElem_mem ag);simp only[Z3,seval,-ae,ag,cb];refine zBY ⟨_,_,_,rfl,dp⟩ iS.1 iS.2 cI λr' h=>?_;rcases h with rfl|⟨h1,h2⟩
 .simp only[Z3,seval,-ae];exact hk _ (.inl rfl)
 .have:¬r'<0:=by unfold left_ at h1;omega
  simp only[Z3,seval,-ae,this,wrapS ag (by omega:xs.length<=4611686018427387904)];exact⟨_,by omega,i+1,by omega,rfl,_,h1,rfl,zBl ag ah h2⟩
structure MxR(W:L4)(B:L5):Prop where
 a:W.length<=9223372036854775807
 b:∀x∈W,x.length<=9223372036854775807
 c:B.length<=9223372036854775807
 d:∀q∈B,q.length<=9223372036854775807/\∀x∈q,x.length<=9223372036854775807
theorem zHS{l:Int}(hR:IsR vP vB W B)(mx:MxR W B)(hl:left_ l)(hk:∀r:Int,(r=-1\/(left_ r/\SzR W B))->K (.int .i64 r) U):zA Tryz.prog 11 [.agg [.int .i64 p,vP,vB],.int .i64 l] U K:=by
 have h1:=hR.P.one;have h2:=hR.B.one;refine zA.gh ?_;have aq:=zD U [.int .i64 p,vP,vB];refine zB mix Tryz.func11 ?_
 conv=>arg 2;cbv
 refine zC rfl ?_;simp only[Z3,seval,-ae,h1,h2];refine zBY hR.P mx.a mx.b hl λr h=>?_;rcases h with rfl|⟨g1,g2⟩
 .simp only[Z3,seval,-ae];exact Gh.fin0 aq trivial (hk _ (.inl rfl))
 have:¬r<0:=by unfold left_ at g1;omega
 simp only[Z3,seval,-ae,this,h1,h2];refine zGy hR.B mx.c mx.d g1 λr' h=>?_;rcases h with rfl|⟨g3,g4⟩
 .simp only[Z3,seval,-ae];exact Gh.fin0 aq trivial (hk _ (.inl rfl))
 have:¬r'<0:=by unfold left_ at g3;omega
 simp only[Z3,seval,-ae,this];exact Gh.fin0 aq trivial (hk _ (.inr ⟨g3,g2.l,g2.r,g4.l,λq hq=>(g4.r q hq).l,λq hq=>(g4.r q hq).r⟩))
theorem zEE{v:PV}{xs:L3}(hI:FI v xs)(hb:xs.length<=1048576)(hk:∀cap,full 1 cap xs.length->K (.sl U.next 0 xs.length cap) (U.new (pis xs))):zA Tryz.prog 90 [v] U K:=by
 obtain⟨w,a,rfl⟩:=hI;refine zB mix Tryz.func90 ?_
 conv=>arg 2;cbv
 refine zC rfl ?_;simp only[Z3,seval,-ae,ZV,mk8 (n:=xs.length) (by omega),mkL (n:=xs.length) (by omega)];refine zF (λm vs h'=>∃i:Nat,i<=xs.length/\m=xs.length-i/\vs=[.fz w a xs.length (pis xs),.sl U.next 0 xs.length (.known xs.length),.int .i64 i]/\h'=U.new (pis (xs.take i++List.replicate (xs.length-i) 0))) xs.length ?_ ?_
 .exact⟨0,by omega,by omega,rfl,by rw[List.take_zero,List.nil_append,Nat.sub_zero]⟩
 rintro m vs h' ⟨i,hi,rfl,rfl,rfl⟩
 simp only[Z3,seval,-ae];refine iteI (λag=>?_) λaF=>?_
 .have hlen:i+1<=(xs.take i++List.replicate (xs.length-i) 0).length:=by simp;omega
  simp only[Z3,seval,-ae,ag,gi ag,zL,zJ,hlen,wrapS ag (by omega:xs.length<=4611686018427387904)];refine⟨_,by omega,i+1,by omega,rfl,rfl,?_⟩;rw[qM (by omega),zDF xs 0 ag]
 .have aJ:i=xs.length:=by omega
  subst aJ;rw[List.take_length,Nat.sub_self,List.replicate_zero,List.append_nil];exact hk _ (.inr rfl)
theorem zI1{v:PV}{xs:L3}(hI:FI v xs)(hb:xs.length<=1048576)(hk:∀v,FI v xs->K v U):zA Tryz.prog 90 [v] U K:=
 zA.fz (λK'=>zEE hI hb) (zO _ _) λo cap=>hk _ ⟨_,_,rfl⟩
theorem zCh{rows:List PV}{z r:PV}{n i:Nat}(hl:rows.length=i)(hi:i<n):(rows++List.replicate (n-i) z).take i++[r]++(rows++List.replicate (n-i) z).drop (i+1)=(rows++[r])++List.replicate (n-(i+1)) z:=by
 rw[List.take_append_of_le_length (by omega),List.take_of_length_le (by omega),List.drop_append,List.drop_eq_nil_of_le (by omega),List.nil_append,hl];congr 1;obtain⟨k,hk⟩:∃k,n-i=k+1:=⟨n-i-1,by omega⟩
 rw[hk,show i+1-i=1 by omega,List.replicate_succ,List.drop_succ_cons,List.drop_zero];congr 1;omega
theorem Qq{v:PV}{xs:L4}(hI:FII v xs)(sz:SzL xs)(hk:∀v,FII v xs->K v U):zA Tryz.prog 15 [v] U K:=by
 obtain⟨w,a,rs,rfl,hr⟩:=hI;have hb:=sz.l;refine zA.gh ?_;refine zB mix Tryz.func15 ?_
 conv=>arg 2;cbv
 refine zC rfl ?_;simp only[Z3,seval,-ae,mk24 (n:=xs.length) (by omega),mkL (n:=xs.length) (by omega)];refine zF (λm vs h'=>∃i:Nat,i<=xs.length/\m=xs.length-i/\vs=[.fz w a xs.length rs,.sl U.next 0 xs.length (.known xs.length),.int .i64 i]/\∃rows:List PV,rows.length=i/\All2 FI rows (xs.take i)/\h'=U.new (rows++List.replicate (xs.length-i) (.fz true .nils 0 []))) xs.length ?_ ?_
 .exact⟨0,by omega,by omega,rfl,[],rfl,by simpa using All2.nil _,by simp⟩
 rintro m vs h' ⟨i,hi,rfl,rfl,rows,aR,fY,rfl⟩
 simp only[Z3,seval,-ae];refine iteI (λag=>?_) λaF=>?_
 .obtain⟨w4,a4,cb⟩:=hr.rowI ag;simp only[Z3,seval,-ae,ag,cb];refine zI1 ⟨_,_,rfl⟩ (sz.r _ (List.getElem_mem ag)) λr cI=>?_;have hlen:i+1<=(rows++List.replicate (xs.length-i) (PV.fz true .nils 0 [])).length:=by simp;omega
  simp only[Z3,seval,-ae,ag,hlen,cI.cells,cI.one,wrapS ag (by omega:xs.length<=4611686018427387904)];refine⟨_,by omega,i+1,by omega,rfl,rfl,rows++[r],by simp[aR],?_,?_⟩
  .rw[List.take_succ_eq_append_getElem ag];exact fY.snoc cI
  .rw[zCh aR ag]
 .have aJ:i=xs.length:=by omega
  subst aJ;rw[List.take_length]at fY;rw[Nat.sub_self,List.replicate_zero,List.append_nil];exact Gh.finF (zD U _) (by simp only[Z3,seval,-ae]) (vM _) (fY.bI 0) (by simp[capOK]) λo=>hk _ ⟨_,_,_,rfl,fY⟩
theorem zGx{v:PV}{xs:L5}(hI:FIII v xs)(sz:SzM xs)(hk:∀v,FIII v xs->K v U):zA Tryz.prog 89 [v] U K:=by
 obtain⟨w,a,rs,rfl,hr⟩:=hI;have hb:=sz.l;refine zA.gh ?_;refine zB mix Tryz.func89 ?_
 conv=>arg 2;cbv
 refine zC rfl ?_;simp only[Z3,seval,-ae,mk24 (n:=xs.length) (by omega),mkL (n:=xs.length) (by omega)];refine zF (λm vs h'=>∃i:Nat,i<=xs.length/\m=xs.length-i/\vs=[.fz w a xs.length rs,.sl U.next 0 xs.length (.known xs.length),.int .i64 i]/\∃rows:List PV,rows.length=i/\All2 FII rows (xs.take i)/\h'=U.new (rows++List.replicate (xs.length-i) (.fz true .nils 0 []))) xs.length ?_ ?_
 .exact⟨0,by omega,by omega,rfl,[],rfl,by simpa using All2.nil _,by simp⟩
 rintro m vs h' ⟨i,hi,rfl,rfl,rows,aR,fY,rfl⟩
 simp only[Z3,seval,-ae];refine iteI (λag=>?_) λaF=>?_
 .obtain⟨w4,a4,rk,cb,dp⟩:=hr.rowL ag;simp only[Z3,seval,-ae,ag,cb];refine Qq ⟨_,_,_,rfl,dp⟩ (sz.r _ (List.getElem_mem ag)) λr cI=>?_;have hlen:i+1<=(rows++List.replicate (xs.length-i) (PV.fz true .nils 0 [])).length:=by simp;omega
  simp only[Z3,seval,-ae,ag,hlen,cI.cells,cI.one,wrapS ag (by omega:xs.length<=4611686018427387904)];refine⟨_,by omega,i+1,by omega,rfl,rfl,rows++[r],by simp[aR],?_,?_⟩
  .rw[List.take_succ_eq_append_getElem ag];exact fY.snoc cI
  .rw[zCh aR ag]
 .have aJ:i=xs.length:=by omega
  subst aJ;rw[List.take_length]at fY;rw[Nat.sub_self,List.replicate_zero,List.append_nil];exact Gh.finF (zD U _) (by simp only[Z3,seval,-ae]) (vM _) (fY.bL 0) (by simp[capOK]) λo=>hk _ ⟨_,_,_,rfl,fY⟩
theorem SzR.L(sz:SzR W B):SzL W:=⟨sz.Wl,sz.w⟩
theorem SzR.M(sz:SzR W B):SzM B:=⟨sz.Bl,λq hq=>⟨sz.b q hq,sz.c q hq⟩⟩
theorem zBX(hR:IsR vP vB W B)(sz:SzR W B)(hk:∀vP vB,IsR vP vB W B->K (.agg [.int .i64 p,vP,vB]) U):zA Tryz.prog 14 [.agg [.int .i64 p,vP,vB]] U K:=by
 have h1:=hR.P.one;have h2:=hR.B.one;refine zA.gh ?_;refine zB mix Tryz.func14 ?_
 conv=>arg 2;cbv
 refine zC rfl ?_;simp only[Z3,seval,-ae,h1,h2];refine Qq hR.P sz.L λv1 fB=>?_;simp only[Z3,seval,-ae,fB.cells,fB.one];refine zGx hR.B sz.M λv2 bX=>?_;simp only[Z3,seval,-ae,bX.cells,bX.one,fB.one];exact Gh.fin0 (v:=.agg [.int .i64 p,v1,v2]) (((zD U _).new _).new _) ⟨trivial,fB.bel _,bX.bel _,trivial⟩ (hk v1 v2 ⟨fB,bX⟩)
theorem zJ7{v v':PV}{xs ys:L3}(hI:FI v xs)(jt:FI v' ys)(hb:xs.length<=4611686018427387904)(hk:K (.bool (decide (xs=ys))) U):zA Tryz.prog 97 [v,v'] U K:=by
 obtain⟨w,a,rfl⟩:=hI;obtain⟨w',a',rfl⟩:=jt;refine zB mix Tryz.func97 ?_
 conv=>arg 2;cbv
 refine zC rfl ?_;simp only[Z3,seval,-ae];refine iteI (λhl=>?_) λhl=>?_;rotate_left
 .exact pkf hk λhv=>hl (by rw[hv])
 have hl:xs.length=ys.length:=by omega
 refine zF (λm vs h'=>∃i:Nat,i<=xs.length/\m=xs.length-i/\vs=[.fz w a xs.length (pis xs),.fz w' a' ys.length (pis ys),.int .i64 i]/\U=h'/\xs.take i=ys.take i) xs.length ?_ ?_
 .exact⟨0,by omega,by omega,rfl,rfl,by simp⟩
 rintro m vs h' ⟨i,hi,rfl,rfl,rfl,ah⟩
 simp only[Z3,seval,-ae];refine iteI (λag=>?_) λaF=>?_
 .have an:i<ys.length:=by omega
  simp only[Z3,seval,-ae,ag,an,zL,gi ag,gi an];refine iteI (λh0=>?_) λhn=>?_
  .simp only[Z3,seval,-ae,wrapS ag hb];exact⟨_,by omega,i+1,by omega,rfl,rfl,zIV hl ag ah h0⟩
  .exact pkf hk λhv=>hn (by subst hv;rfl)
 .refine pkt hk ?_;rwa[List.take_of_length_le (by omega),List.take_of_length_le (by omega)]at ah
theorem zIU{α:Type}{xs ys:List α}(hl:xs.length=ys.length){i:Nat}(hi:i<xs.length)(h:xs.take i=ys.take i)(he:xs[i]=ys[i]'(by omega)):xs.take (i+1)=ys.take (i+1):=by
 rw[List.take_succ_eq_append_getElem hi,List.take_succ_eq_append_getElem (by omega:i<ys.length),h,he]
theorem QQ{v v':PV}{xs ys:L4}(hI:FII v xs)(jt:FII v' ys)(sz:SzL xs)(hk:∀t:Bool,(t=true↔xs=ys)->K (.bool t) U):zA Tryz.prog 17 [v,v'] U K:=by
 obtain⟨w,a,rs,rfl,hr⟩:=hI;obtain⟨w',a',tG,rfl,cI⟩:=jt;have hb:=sz.l;have fl:∀{A:Prop},¬A->((false=true)↔A):=λh=>⟨λx=>(by cases x),λx=>absurd x h⟩
 refine zB mix Tryz.func17 ?_
 conv=>arg 2;cbv
 refine zC rfl ?_;simp only[Z3,seval,-ae];refine iteI (λhl=>?_) λhl=>?_;rotate_left
 .exact hk _ (fl λhv=>hl (by rw[hv]))
 have hl:xs.length=ys.length:=by omega
 refine zF (λm vs h'=>∃i:Nat,i<=xs.length/\m=xs.length-i/\vs=[.fz w a xs.length rs,.fz w' a' ys.length tG,.int .i64 i]/\U=h'/\xs.take i=ys.take i) xs.length ?_ ?_
 .exact⟨0,by omega,by omega,rfl,rfl,by simp⟩
 rintro m vs h' ⟨i,hi,rfl,rfl,rfl,ah⟩
 simp only[Z3,seval,-ae];refine iteI (λag=>?_) λaF=>?_
 .have an:i<ys.length:=by omega
  obtain⟨w4,a4,h4⟩:=hr.rowI ag;obtain⟨w5,a5,h5⟩:=cI.rowI an;simp only[Z3,seval,-ae,ag,an,h4,h5];refine zJ7 ⟨_,_,rfl⟩ ⟨_,_,rfl⟩ (by have:=sz.r _ (List.getElem_mem ag);omega) ?_;by_cases he:xs[i]=ys[i]
  .simp only[Z3,seval,-ae,eq_true he,wrapS ag (by omega:xs.length<=4611686018427387904)];exact⟨_,by omega,i+1,by omega,rfl,rfl,zIU hl ag ah he⟩
  .simp only[Z3,seval,-ae,he];exact hk _ (fl λhv=>he (by subst hv;rfl))
 .refine hk _ ⟨λ_=>?_,λ_=>rfl⟩;rwa[List.take_of_length_le (by omega),List.take_of_length_le (by omega)]at ah
theorem zHE{v v':PV}{xs ys:L5}(hI:FIII v xs)(jt:FIII v' ys)(sz:SzM xs)(hk:∀t:Bool,(t=true↔xs=ys)->K (.bool t) U):zA Tryz.prog 98 [v,v'] U K:=by
 obtain⟨w,a,rs,rfl,hr⟩:=hI;obtain⟨w',a',tG,rfl,cI⟩:=jt;have hb:=sz.l;have fl:∀{A:Prop},¬A->((false=true)↔A):=λh=>⟨λx=>(by cases x),λx=>absurd x h⟩
 refine zB mix Tryz.func98 ?_
 conv=>arg 2;cbv
 refine zC rfl ?_;simp only[Z3,seval,-ae];refine iteI (λhl=>?_) λhl=>?_;rotate_left
 .exact hk _ (fl λhv=>hl (by rw[hv]))
 have hl:xs.length=ys.length:=by omega
 refine zF (λm vs h'=>∃i:Nat,i<=xs.length/\m=xs.length-i/\vs=[.fz w a xs.length rs,.fz w' a' ys.length tG,.int .i64 i]/\U=h'/\xs.take i=ys.take i) xs.length ?_ ?_
 .exact⟨0,by omega,by omega,rfl,rfl,by simp⟩
 rintro m vs h' ⟨i,hi,rfl,rfl,rfl,ah⟩
 simp only[Z3,seval,-ae];refine iteI (λag=>?_) λaF=>?_
 .have an:i<ys.length:=by omega
  obtain⟨w4,a4,r4,h4,g4⟩:=hr.rowL ag;obtain⟨w5,a5,r5,h5,g5⟩:=cI.rowL an;simp only[Z3,seval,-ae,ag,an,h4,h5];refine QQ ⟨_,_,_,rfl,g4⟩ ⟨_,_,_,rfl,g5⟩ (sz.r _ (List.getElem_mem ag)) λt ht=>?_;cases t with
  |true=>
   simp only[Z3,seval,-ae,wrapS ag (by omega:xs.length<=4611686018427387904)];exact⟨_,by omega,i+1,by omega,rfl,rfl,zIU hl ag ah (ht.1 rfl)⟩
  |false=>
   simp only[Z3,seval,-ae];exact hk _ (fl λhv=>by subst hv;cases ht.2 rfl)
 .refine hk _ ⟨λ_=>?_,λ_=>rfl⟩;rwa[List.take_of_length_le (by omega),List.take_of_length_le (by omega)]at ah
theorem zIW(hR:IsR vP vB W B)(ns:IsR sw sy W' B')(sz:SzR W B)(hk:∀t:Bool,(t=true↔p=p'/\W=W'/\B=B')->K (.bool t) U):zA Tryz.prog 18 [.agg [.int .i64 p,vP,vB],.agg [.int .i64 p',sw,sy]] U K:=by
 have h1:=hR.P.one;have h2:=hR.B.one;have ks:=ns.P.one;have gR:=ns.B.one;refine zA.gh ?_;have aq:Keep U ((U.new [.int .i64 p,vP,vB]).new [.int .i64 p',sw,sy]):=(zD U _).new _;have fin:∀{t:Bool},(t=true↔p=p'/\W=W'/\B=B')->Gh U K (.bool t) ((U.new [.int .i64 p,vP,vB]).new [.int .i64 p',sw,sy]):=λh=>Gh.fin0 aq trivial (hk _ h);have fl:∀{A:Prop},¬A->((false=true)↔A):=λh=>⟨λx=>(by cases x),λx=>absurd x h⟩
 refine zB mix Tryz.func18 ?_
 conv=>arg 2;cbv
 refine zC rfl ?_;by_cases hp:p=p';rotate_left
 .simp only[Z3,seval,-ae,h1,h2,ks,gR,hp];exact fin (fl λh=>hp h.1)
 simp only[Z3,seval,-ae,h1,h2,ks,gR,hp];refine QQ hR.P ns.P sz.L λt ht=>?_;cases t with
 |false=>
  simp only[Z3,seval,-ae]
  have:=fin (fl λh:p=p'/\W=W'/\B=B'=>by cases ht.2 h.2.1)
  rw[hp]at this;exact this
 |true=>
 simp only[Z3,seval,-ae];refine zHE hR.B ns.B sz.M λt cZ=>?_
 have:=fin (t:=t) ⟨λh=>⟨hp,ht.1 rfl,cZ.1 h⟩,λh=>cZ.2 h.2.2⟩
 rw[hp]at this;cases t with
 |false=>
  simp only[Z3,seval,-ae];exact this
 |true=>
  simp only[Z3,seval,-ae];exact this
end Go.Proofs
namespace Go.Lie
open Go.Ab
variable{p:Int}{n:Nat}{W:L4}
abbrev Vec:=Nat->Int
structure IsSub(p:Int)(n:Nat)(W:L4)(S:Vec->Prop):Prop where
 zero:S λ_=>0
 add:∀f g,S f->S g->S λj=>f j+g j
 mul:∀k f,S f->S λj=>k*f j
 eqv:∀f g,Eqv p n W f g->S g->S f
def comb(c:Nat->Int)(L:L4):Vec:=λj=>sumN L.length λk=>c k*at_ (L.getD k []) j
def Gen(p:Int)(n:Nat)(W:L4)(L:L4)(f:Vec):Prop:=∃c:Nat->Int,Eqv p n W f (comb c L)
theorem zPW(c d:Nat->Int)(L:L4)(j:Nat):comb (λk=>c k+d k) L j=comb c L j+comb d L j:=by
 unfold comb;rw[<-Qr];exact qw λi _=>Int.add_mul _ _ _
theorem zPV(m:Int)(c:Nat->Int)(L:L4)(j:Nat):comb (λk=>m*c k) L j=m*comb c L j:=by
 unfold comb;rw[<-Z6];exact qw λi _=>Int.mul_assoc _ _ _
theorem zQ(L:L4):IsSub p n W (Gen p n W L):=by
 refine⟨⟨λ_=>0,Eqv.of_eq λj=>?_⟩,λf g ⟨c,hc⟩ ⟨d,hd⟩=>⟨λk=>c k+d k,(hc.add hd).trans (Eqv.of_eq λj=>(zPW c d L j).symm)⟩,
  λk f ⟨c,hc⟩=>⟨λi=>k*c i,(hc.mul k).trans (Eqv.of_eq λj=>(zPV k c L j).symm)⟩,λf g h ⟨c,hc⟩=>⟨c,h.trans hc⟩⟩
 unfold comb;rw[ZI _ (λi _=>Int.zero_mul _)]
theorem qO{L:L4}{v:L3}(h:v∈L):Gen p n W L (at_ v):=by
 obtain⟨k,hk,rfl⟩:=List.mem_iff_getElem.1 h;refine⟨λi=>if i=k then 1 else 0,Eqv.of_eq λj=>?_⟩;unfold comb;rw[zAa hk (λi _ hi=>by dsimp only;rw[if_neg hi,Int.zero_mul])];dsimp only;rw[if_pos rfl,Int.one_mul];simp[List.getD_eq_getElem?_getD,List.getElem?_eq_getElem hk]
theorem IsSub.sum{S:Vec->Prop}(h:IsSub p n W S):∀{m:Nat} {F:Nat->Vec},(∀k,k<m->S (F k))->S λj=>sumN m λk=>F k j
 |0,_,_=>h.zero
 |m+1,F,hF=>h.add _ _ (IsSub.sum h λk hk=>hF k (by omega)) (hF m (by omega))
theorem IsSub.comb{S:Vec->Prop}(h:IsSub p n W S){L:L4}(hL:∀v∈L,S (at_ v))(c:Nat->Int):S (comb c L):=
 h.sum λk hk=>h.mul (c k) _ (hL _ (by
  have:L.getD k []=L[k]:=by simp[List.getD_eq_getElem?_getD,List.getElem?_eq_getElem hk]
  rw[this];exact List.getElem_mem hk))
theorem zIO{S:Vec->Prop}(h:IsSub p n W S){L:L4}(hL:∀v∈L,S (at_ v)){f:Vec}(hf:Gen p n W L f):S f:=by
 obtain⟨c,hc⟩:=hf;exact h.eqv _ _ hc (h.comb hL c)
theorem Qa{L M:L4}(h:∀v∈L,Gen p n W M (at_ v)){f:Vec}(hf:Gen p n W L f):Gen p n W M f:=zIO (zQ M) h hf
theorem ql{L M:L4}(h:∀v∈L,v∈M){f:Vec}(hf:Gen p n W L f):Gen p n W M f:=Qa (λv hv=>qO (h v hv)) hf
theorem zQ5{f:Vec}(hf:Gen p n W [] f):Eqv p n W f λ_=>0:=by
 obtain⟨c,hc⟩:=hf;exact hc
theorem IsSub.sub{S:Vec->Prop}(h:IsSub p n W S){f g:Vec}(hf:S f)(hg:S g):S λj=>f j-g j:=by
 have:=h.add _ _ hf (h.mul (-1) _ hg)
 exact h.eqv _ _ (Eqv.of_eq λj=>by omega) this
def dep:L3->Nat
 |[]=>0
 |x::xs=>if x=0 then dep xs+1 else 0
theorem QR:∀v:L3,dep v<=v.length
 |[]=>vM _
 |x::xs=>by simp only[dep,List.length_cons];have:=QR xs;split<;>omega
theorem qF:∀{v:L3} {j:Nat},j<dep v->at_ v j=0
 |[],j,h=>by simp[at_]
 |x::xs,j,h=>by
  simp only[dep]at h;split at h
  .rename_i hx;cases j with
   |zero=>simp[at_,hx]
   |succ j=>
    have:=qF (v:=xs) (j:=j) (by omega)
    simpa [at_]using this
  .omega
theorem Zg:∀{v:L3},dep v<v.length->at_ v (dep v)≠0
 |[],h=>by simp at h
 |x::xs,h=>by
  simp only[dep,List.length_cons]at h ⊢;split at h
  .rename_i hx;rw[if_pos hx]
   have:=Zg (v:=xs) (by omega)
   simpa [at_]using this
  .rename_i hx;rw[if_neg hx];simpa [at_]using hx
theorem zBo{v:L3}{d:Nat}(h1:∀j,j<d->at_ v j=0)(h2:at_ v d≠0):dep v=d:=by
 rcases Nat.lt_trichotomy (dep v) d with x|x|x
 .have hd:d<v.length:=by
   rcases Nat.lt_or_ge d v.length with y|y
   .exact y
   .exact absurd (at_ge y) h2
  exact absurd (h1 _ x) (Zg (by omega))
 .exact x
 .exact absurd (qF x) h2
theorem zAS{v:L3}{d:Nat}(hd:d<=v.length)(h1:∀j,j<d->at_ v j=0):d<=dep v:=by
 rcases Nat.lt_or_ge (dep v) d with x|x
 .exact absurd (h1 _ x) (Zg (by omega))
 .exact x
theorem zPU{v:L3}(h:dep v=v.length):∀x∈v,x=0:=λx hx=>by
 obtain⟨j,hj,rfl⟩:=List.mem_iff_getElem.1 hx;rw[<-at_eq hj];exact qF (by omega)
theorem Qd(o:OkW p n W){f g:Vec}(h:Eqv p n W f g){d:Nat}(hd:d<n)(hf:∀j,j<d->0<=f j/\f j<=p-1)(hg:∀j,j<d->0<=g j/\g j<=p-1):(∀j,j<d->f j=g j)/\∃k:Int,f d=g d-k*p:=by
 obtain⟨c,hc⟩:=h;have hp:=o.pr;unfold okp at hp;have val:∀i,i<=d->(∀k,k<i->c k=0)->f i=g i-c i*p:=by
  intro i hi hk;have h1:=hc i;rw[zAa (k:=i) (by omega) (λk cw ai=>by
   rcases Nat.lt_or_ge k i with x|x
   .rw[hk k x,Int.zero_mul]
   .rw[rel,o.zero x,if_neg (λe=>ai e.symm)];simp)]at h1
  rw[rel,o.zero (vM _),if_pos rfl,Int.zero_sub,Int.mul_neg]at h1;omega
 have key:∀m,m<=d->∀i,i<m->c i=0:=by
  intro m
  induction m with
  |zero=>intro _ i hi;omega
  |succ m ih=>
   intro hm i hi;by_cases e:i=m
   .subst e;have h1:=val i (by omega) (ih (by omega));have h2:=hf i (by omega);have h3:=hg i (by omega);rcases Int.lt_trichotomy (c i) 0 with x|x|x
    .have:=Int.mul_le_mul_of_nonneg_right (show c i<=-1 by omega) (show 0<=p by omega)
     omega
    .exact x
    .have:=Int.mul_le_mul_of_nonneg_right (show 1<=c i by omega) (show 0<=p by omega)
     omega
   .exact ih (by omega) i (by omega)
 refine⟨λj hj=>?_,c d,val d (vM _) (key d (vM _))⟩
 have:=val j (by omega) (λk hk=>key d (vM _) k (by omega))
 rw[key d (vM _) j hj]at this;omega
theorem zAs(o:OkW p n W){v:L3}(hv:v.length=n){d:Nat}(hd:d<=n)(h:∀j,j<d->at_ v j=0):∀j,j<d->at_ (norm p W v) j=0:=by
 have hp:=o.pr;unfold okp at hp;have hb:=QZ o hv;intro j hj
 have:=(Qd o (ZJ o hv) (d:=j) (by omega) (λi _=>hb.at (by omega) i) (λi hi=>by rw[h i (by omega)];omega)).1
 obtain⟨k,hk⟩:=(Qd o (ZJ o hv) (d:=j) (by omega) (λi _=>hb.at (by omega) i) (λi hi=>by rw[h i (by omega)];omega)).2;rw[h j hj]at hk;have h2:=hb.at (by omega) j;rcases Int.lt_trichotomy k 0 with x|x|x
 .have:=Int.mul_le_mul_of_nonneg_right (show k<=-1 by omega) (show 0<=p by omega)
  omega
 .rw[x]at hk;omega
 .have:=Int.mul_le_mul_of_nonneg_right (show 1<=k by omega) (show 0<=p by omega)
  omega
theorem zDS(o:OkW p n W){v:L3}(hv:v.length=n){d:Nat}(hd:d<n)(h:∀j,j<d->at_ v j=0):at_ (norm p W v) d=at_ v d % p:=by
 have hp:=o.pr;unfold okp at hp;have hb:=QZ o hv;obtain⟨k,hk⟩:=(Qd o (ZJ o hv) hd (λi _=>hb.at (by omega) i) (λi hi=>by rw[h i hi];omega)).2;have h2:=hb.at (by omega) d
 have:at_ v d=at_ (norm p W v) d+p*k:=by rw[Int.mul_comm p k];omega
 rw[this,Int.add_mul_emod_self_left];exact(Int.emod_eq_of_lt h2.1 (by omega)).symm
theorem push(o:OkW p n W){d:Nat}(hd:d<n){f:Vec}(h:∀j,j<d->f j=0)(hn:∀j,n<=j->f j=0):∃g:Vec,Eqv p n W (λj=>p*f j) g/\(∀j,j<=d->g j=0)/\∀j,n<=j->g j=0:=by
 have h1:=(Eqv.rel (p:=p) (W:=W) hd).mul (f d);refine⟨λj=>p*f j+f d*rel p W d j,?_,λj hj=>?_,λj hj=>?_⟩
 .have h2:=(Eqv.refl (p:=p) (n:=n) (W:=W) (λj=>p*f j)).add h1.symm;refine(Eqv.of_eq λj=>?_).trans h2;omega
 .dsimp only;rcases Nat.lt_or_ge j d with x|x
  .rw[h j x,rel,o.zero (by omega:j<=d),if_neg (by omega)];simp
  .have:j=d:=by omega
   subst this;rw[rel,o.zero (vM _),if_pos rfl,Int.zero_sub,Int.mul_neg,Int.mul_comm p];omega
 .dsimp only;rw[hn j hj,rel,if_neg (by omega)]
  have:w_ W d j=0:=by
   rw[w_];exact at_ge (by rw[o.rowlen hd];exact hj)
  rw[this];simp
def pw_(p:Int):Nat->Int
 |0=>1
 |k+1=>p*pw_ p k
theorem kill(o:OkW p n W):∀(k:Nat) {f:Vec},k<=n->(∀j,j<n-k->f j=0)->(∀j,n<=j->f j=0)->Eqv p n W (λj=>pw_ p k*f j) λ_=>0
 |0,f,_,h,hn=>Eqv.of_eq λj=>by
  rcases Nat.lt_or_ge j n with x|x
  .rw[h j (by omega)];simp
  .rw[hn j x];simp
 |k+1,f,hk,h,hn=>by
  obtain⟨g,h1,h2,h3⟩:=push o (d:=n-(k+1)) (by omega) h hn;have ih:=kill o k (f:=g) (by omega) (λj hj=>h2 j (by omega)) h3;have h4:=h1.mul (pw_ p k);refine(Eqv.of_eq λj=>?_).trans (h4.trans ih);rw[pw_,Int.mul_comm p,Int.mul_assoc]
theorem zAf(o:OkW p n W){f:Vec}(hn:∀j,n<=j->f j=0):Eqv p n W (λj=>pw_ p n*f j) λ_=>0:=kill o n (vM _) (λj hj=>by omega) hn
theorem zGU(t:Int):∀m:Nat,0<m->∃e s:Int,e*(1+p*t)=1+pw_ p m*s
 |0,h=>by omega
 |1,_=>⟨1,t,by simp[pw_]⟩
 |m+2,_=>by
  obtain⟨e,s,h⟩:=zGU t (m+1) (by omega);refine⟨e*(1-pw_ p (m+1)*s),-(pw_ p m*s*s),?_⟩;have h1:e*(1-pw_ p (m+1)*s)*(1+p*t)=(e*(1+p*t))*(1-pw_ p (m+1)*s):=by
   rw[Int.mul_assoc,Int.mul_comm (1-pw_ p (m+1)*s),<-Int.mul_assoc]
  rw[h1,h];have h2:pw_ p (m+2) * -(pw_ p m*s*s)=-(pw_ p (m+1)*s*(pw_ p (m+1)*s)):=by
   simp only[pw_];rw[Int.mul_neg];congr 1;simp only[Int.mul_assoc,Int.mul_left_comm,Int.mul_comm]
  rw[h2,Int.add_mul,Int.one_mul,Int.mul_sub,Int.mul_one];omega
theorem El.at0{v:L3}(h:El p n v)(o:OkW p n W)(j:Nat):0<=at_ v j/\at_ v j<=p-1:=h.2.at (by have:=o.pr.1;omega) j
theorem El.beyond{v:L3}(h:El p n v){j:Nat}(hj:n<=j):at_ v j=0:=at_ge (by rw[h.1];exact hj)
theorem zBN(o:OkW p n W){v:L3}(hv:v.length=n):El p n (norm p W v):=⟨Zo o hv,QZ o hv⟩
theorem zSC{a b:L3}(ha:El p n a)(hb:El p n b)(h:∀j,j<n->at_ a j=at_ b j):a=b:=Qi (ha.1.trans hb.1.symm) λj hj=>h j (by rw[<-ha.1];exact hj)
theorem zNF(o:OkW p n W){v:L3}(hv:v.length=n){m:Nat}(hm:m<=n)(h:∀j,j<m->0<=at_ v j/\at_ v j<=p-1){j:Nat}(hj:j<m):at_ (norm p W v) j=at_ v j:=by
 have hp:=o.pr;unfold okp at hp;have hb:=QZ o hv;obtain⟨k,hk⟩:=(Qd o (ZJ o hv) (d:=j) (by omega) (λi _=>hb.at (by omega) i) (λi hi=>h i (by omega))).2;have h1:=hb.at (by omega) j;have h2:=h j hj;rcases Int.lt_trichotomy k 0 with x|x|x
 .have:=Int.mul_le_mul_of_nonneg_right (show k<=-1 by omega) (show 0<=p by omega)
  omega
 .rw[x]at hk;omega
 .have:=Int.mul_le_mul_of_nonneg_right (show 1<=k by omega) (show 0<=p by omega)
  omega
abbrev red1(p:Int)(W:L4)(x v:L3):L3:=norm p W (lmix 1 x (-(at_ x (dep v))) v)
def redL(p:Int)(W:L4):L4->L3->L3
 |[],x=>x
 |v::u,x=>redL p W u (red1 p W x v)
def Led(p:Int)(n:Nat)(v:L3):Prop:=El p n v/\dep v<n/\at_ v (dep v)=1
theorem zDr(o:OkW p n W){x v:L3}(hx:El p n x)(hv:El p n v):El p n (red1 p W x v):=zBN o (by rw[zM (hx.1.trans hv.1.symm)];exact hx.1)
theorem zHX(o:OkW p n W){x v:L3}(hx:El p n x)(hv:El p n v):Eqv p n W (at_ (red1 p W x v)) (λj=>at_ x j-at_ x (dep v)*at_ v j):=
 (ZJ o (by rw[zM (hx.1.trans hv.1.symm)];exact hx.1)).trans (Eqv.of_eq λj=>by rw[qY (hx.1.trans hv.1.symm),Int.neg_mul];omega)
theorem zGG(o:OkW p n W){x v:L3}(hx:El p n x)(hv:Led p n v){j:Nat}(hj:j<=dep v):at_ (red1 p W x v) j=if j=dep v then 0 else at_ x j:=by
 have hl:=hx.1.trans hv.1.1.symm;have hp:=o.pr;unfold okp at hp;have e:∀i,i<=dep v->at_ (lmix 1 x (-(at_ x (dep v))) v) i=if i=dep v then 0 else at_ x i:=λi hi=>by
  rw[qY hl];split
  .rename_i h;subst h;rw[hv.2.2];omega
  .rw[qF (by omega:i<dep v)];omega
 rw[zNF o (m:=dep v+1) (by rw[zM hl];exact hx.1) (by have:=hv.2.1;omega) (λi hi=>by
  rw[e i (by omega)]
  have:=hx.at0 o i
  split<;>omega) (by omega),e j hj]
theorem zMS(o:OkW p n W){x v:L3}(hx:El p n x)(hv:El p n v)(h:at_ x (dep v)=0):red1 p W x v=x:=by
 have hl:=hx.1.trans hv.1.symm
 have:lmix 1 x (-(at_ x (dep v))) v=x:=Qi (zM hl) λj _=>by rw[qY hl,h];omega
 rw[red1,this,zNE o hx.1 hx.2]
theorem Z4(o:OkW p n W):∀{u:L4} {x:L3},(∀v∈u,El p n v)->El p n x->El p n (redL p W u x)
 |[],x,_,hx=>hx
 |v::u,x,hu,hx=>by rw[redL];exact Z4 o (λw hw=>hu w (by simp[hw])) (zDr o hx (hu v (by simp)))
theorem zEd(o:OkW p n W):∀{u:L4} {x:L3},(∀v∈u,El p n v)->El p n x->Gen p n W u (λj=>at_ x j-at_ (redL p W u x) j)
 |[],x,_,hx=>(zQ []).eqv _ _ (Eqv.of_eq λj=>Int.sub_self _) (zQ []).zero
 |v::u,x,hu,hx=>by
  have hv:=hu v (by simp);have h1:=zEd o (u:=u) (λw hw=>hu w (by simp[hw])) (zDr o hx hv);have h2:Gen p n W (v::u) (λj=>at_ (red1 p W x v) j-at_ (redL p W u (red1 p W x v)) j):=ql (λw hw=>by simp[hw]) h1;have h3:=(zQ (v::u)).mul (at_ x (dep v)) _ (qO (p:=p) (n:=n) (W:=W) (show v∈v::u by simp));have h4:=(zQ (v::u)).add _ _ h3 h2;refine(zQ (v::u)).eqv _ _ ?_ h4;have e1:=(zHX o hx hv).symm.add (Eqv.refl (p:=p) (n:=n) (W:=W) λj=>at_ x (dep v)*at_ v j-at_ (redL p W u (red1 p W x v)) j);refine(Eqv.of_eq λj=>?_).trans (e1.trans (Eqv.of_eq λj=>?_))
  .rw[redL];omega
  .omega
abbrev Asc(u:L4):Prop:=u.Pairwise λa b=>dep a<dep b
theorem zCN(o:OkW p n W):∀{u:L4} {x:L3},(∀v∈u,Led p n v)->Asc u->El p n x->
  (∀v∈u,at_ (redL p W u x) (dep v)=0)/\∀j,(∀v∈u,j<dep v)->at_ (redL p W u x) j=at_ x j
 |[],x,_,_,hx=>⟨λv hv=>(by cases hv),λj _=>rfl⟩
 |v::u,x,hu,ha,hx=>by
  have hv:=hu v (by simp);obtain⟨ta,wF⟩:=List.pairwise_cons.1 ha;obtain⟨h1,h2⟩:=zCN o (λw hw=>hu w (by simp[hw])) wF (zDr o hx hv.1);refine⟨λw hw=>?_,λj hj=>?_⟩
  .rcases List.mem_cons.1 hw with rfl|hw
   .rw[redL,h2 _ (λz hz=>ta z hz),zGG o hx hv (vM _),if_pos rfl]
   .exact h1 w hw
  .have:=hj v (by simp)
   rw[redL,h2 j (λz hz=>hj z (by simp[hz])),zGG o hx hv (by omega),if_neg (by omega)]
theorem zCu(o:OkW p n W){u:L4}(hu:∀v∈u,El p n v){m:Nat}(hm:m<=n)(h:∀v∈u,∀j,j<m->at_ v j=0){z:L3}(hz:El p n z)(hg:Gen p n W u (at_ z)):∀j,j<m->at_ z j=0:=by
 obtain⟨c,hc⟩:=hg;have l8:∀j,j<m->comb c u j=0:=λj hj=>ZI _ λk hk=>by
  have:u.getD k []=u[k]:=by simp[List.getD_eq_getElem?_getD,List.getElem?_eq_getElem hk]
  rw[this,h _ (List.getElem_mem hk) j hj,Int.mul_zero]
 intro j hj;have hp:=o.pr;unfold okp at hp;obtain⟨k,hk⟩:=(Qd o hc (d:=j) (by omega) (λi _=>hz.at0 o i) (λi hi=>by rw[l8 i (by omega)];omega)).2;rw[l8 j hj]at hk;have h1:=hz.at0 o j;rcases Int.lt_trichotomy k 0 with x|x|x
 .have:=Int.mul_le_mul_of_nonneg_right (show k<=-1 by omega) (show 0<=p by omega)
  omega
 .rw[x]at hk;omega
 .have:=Int.mul_le_mul_of_nonneg_right (show 1<=k by omega) (show 0<=p by omega)
  omega
def tab(n:Nat)(f:Vec):L3:=(List.range n).map f
theorem zAG(f:Vec):(tab n f).length=n:=by simp[tab]
theorem zHR(f:Vec)(hf:∀j,n<=j->f j=0)(j:Nat):at_ (tab n f) j=f j:=by
 rcases Nat.lt_or_ge j n with x|x
 .rw[at_eq (by rw[zAG];exact x)];simp[tab]
 .rw[at_ge (by rw[zAG];exact x),hf j x]
theorem zKB{u:L4}(hu:∀v∈u,El p n v)(c:Nat->Int){j:Nat}(hj:n<=j):comb c u j=0:=ZI _ λk hk=>by
 have:u.getD k []=u[k]:=by simp[List.getD_eq_getElem?_getD,List.getElem?_eq_getElem hk]
 rw[this,(hu _ (List.getElem_mem hk)).beyond hj,Int.mul_zero]
theorem zKa(o:OkW p n W){u:L4}(hu:∀v∈u,El p n v){f:Vec}(hg:Gen p n W u f):∃z,El p n z/\Eqv p n W f (at_ z)/\Gen p n W u (at_ z):=by
 obtain⟨c,hc⟩:=hg;have h1:=ZJ o (zAG (comb c u));have h2:at_ (tab n (comb c u))=comb c u:=funext λj=>zHR _ (λj hj=>zKB hu c hj) j;rw[h2]at h1;exact⟨_,zBN o (zAG _),hc.trans h1.symm,c,h1⟩
theorem zNt(c:Nat->Int)(v:L3)(u:L4)(j:Nat):comb c (v::u) j=c 0*at_ v j+comb (λk=>c (k+1)) u j:=by
 unfold comb
 have:∀(m:Nat) (f:Nat->Int),sumN (m+1) f=f 0+sumN m λk=>f (k+1):=by
  intro m f
  induction m with
  |zero=>simp[sumN]
  |succ m ih=>rw[sumN,ih,sumN];omega
 rw[List.length_cons,this];rfl
theorem zPG{v:L3}{u:L4}{f:Vec}(hg:Gen p n W (v::u) f):∃(k:Int) (g:Vec),Gen p n W u g/\Eqv p n W f λj=>k*at_ v j+g j:=by
 obtain⟨c,hc⟩:=hg;exact⟨c 0,comb (λk=>c (k+1)) u,⟨_,Eqv.refl _⟩,hc.trans (Eqv.of_eq λj=>zNt c v u j)⟩
inductive Base(p:Int)(n:Nat)(W:L4):L4->Prop where
 |nil:Base p n W []
 |cons {v:L3} {u:L4} (hv:Led p n v) (ha:∀w∈u,dep v<dep w) (hc:Gen p n W u λj=>p*at_ v j) (h:Base p n W u):Base p n W (v::u)
theorem Base.led:∀{u:L4},Base p n W u->∀v∈u,Led p n v
 |_,.nil,v,h=>(by cases h)
 |_,.cons hv _ _ hb,w,h=>(List.mem_cons.1 h).elim (λe=>e ▸ hv) (λh=>hb.led w h)
theorem Base.asc:∀{u:L4},Base p n W u->Asc u
 |_,.nil=>List.Pairwise.nil
 |_,.cons _ ha _ hb=>List.pairwise_cons.2 ⟨ha,hb.asc⟩
theorem Base.els{u:L4}(h:Base p n W u):∀v∈u,El p n v:=λv hv=>(h.led v hv).1
theorem zCW(o:OkW p n W):∀{u:L4},Base p n W u->∀{z:L3},El p n z->Gen p n W u (at_ z)->dep z<n->∃v∈u,dep v=dep z
 |_,.nil,z,hz,hg,hd=>by
  have h1:=zCu o (u:=[]) (by simp) (vM n) (by simp) hz hg;exact absurd (h1 _ hd) (Zg (by rw[hz.1];exact hd))
 |_,.cons (v:=v) (u:=u) hv ha hc hb,z,hz,hg,hd=>by
  have hp:=o.pr;unfold okp at hp;obtain⟨k,g,ra,he⟩:=zPG hg;have h1:Gen p n W u λj=>(k / p)*(p*at_ v j)+g j:=(zQ u).add _ _ ((zQ u).mul (k / p) _ hc) ra;obtain⟨y,hy,xH,oR⟩:=zKa o hb.els h1;have uW:=Int.emod_add_mul_ediv k p;have h2:Eqv p n W (at_ z) λj=>k % p*at_ v j+at_ y j:=by
   refine he.trans ?_
   have:=(Eqv.refl (p:=p) (n:=n) (W:=W) λj=>k % p*at_ v j).add xH
   refine(Eqv.of_eq λj=>?_).trans this;have e1:k*at_ v j=(k % p+p*(k / p))*at_ v j:=by rw[uW]
   rw[e1,Int.add_mul,Int.mul_comm p (k / p),Int.mul_assoc];omega
  by_cases h0:k % p=0
  .obtain⟨w,hw,e⟩:=zCW o hb hz ((zQ u).eqv _ _ (h2.trans (Eqv.of_eq λj=>by rw[h0];omega)) oR) hd;exact⟨w,by simp[hw],e⟩
  .refine⟨v,by simp,?_⟩;have Am:=zCu o hb.els (m:=dep v+1) (by have:=hv.2.1;omega) (λw hw j hj=>qF (by have:=ha w hw;omega)) hy oR;have jR:=Int.emod_nonneg k (show p≠0 by omega);have dE:=Int.emod_lt_of_pos k (show 0<p by omega);have fU:∀j,j<=dep v->k % p*at_ v j+at_ y j=if j=dep v then k % p else 0:=λj hj=>by
    rw[Am j (by omega)];split
    .rename_i e;subst e;rw[hv.2.2];omega
    .rw[qF (by omega:j<dep v)];simp
   have key:=λd (hd:d<=dep v)=>Qd o h2 (d:=d) (by have:=hv.2.1;omega) (λi _=>hz.at0 o i) (λi hi=>by rw[fU i (by omega),if_neg (by omega)];omega);refine(zBo (λj hj=>?_) ?_).symm
   .rw[(key (dep v) (vM _)).1 j hj,fU j (by omega),if_neg (by omega)]
   .obtain⟨t,ht⟩:=(key (dep v) (vM _)).2;rw[fU _ (vM _),if_pos rfl]at ht;intro h;rw[h]at ht;rcases Int.lt_trichotomy t 0 with x|x|x
    .have:=Int.mul_le_mul_of_nonneg_right (show t<=-1 by omega) (show 0<=p by omega)
     omega
    .rw[x]at ht;omega
    .have:=Int.mul_le_mul_of_nonneg_right (show 1<=t by omega) (show 0<=p by omega)
     omega
theorem zAM{α:Type}{R:α->α->Prop}:∀{l:List α},l.Pairwise R->∀{a b:α},a∈l->b∈l->a=b\/R a b\/R b a
 |[],_,a,b,ha,_=>by cases ha
 |x::l,h,a,b,ha,hb=>by
  obtain⟨h1,h2⟩:=List.pairwise_cons.1 h;rcases List.mem_cons.1 ha with ea|lG
  .rcases List.mem_cons.1 hb with eb|iT
   .exact .inl (ea.trans eb.symm)
   .rw[ea];exact .inr (.inl (h1 b iT))
  .rcases List.mem_cons.1 hb with eb|iT
   .rw[eb];exact .inr (.inr (h1 a lG))
   .exact zAM h2 lG iT
theorem zKn:∀{u w:L4},Asc u->Asc w->(∀v,v∈u↔v∈w)->u=w
 |[],[],_,_,_=>rfl
 |[],x::w,_,_,h=>by have:=(h x).2 (by simp);cases this
 |x::u,[],_,_,h=>by have:=(h x).1 (by simp);cases this
 |x::u,y::w,hu,hw,h=>by
  obtain⟨h1,h2⟩:=List.pairwise_cons.1 hu;obtain⟨h3,h4⟩:=List.pairwise_cons.1 hw;have e:x=y:=by
   rcases List.mem_cons.1 ((h x).1 (by simp))with e|e
   .exact e
   .rcases List.mem_cons.1 ((h y).2 (by simp))with e'|e'
    .exact e'.symm
    .have:=h3 x e;have:=h1 y e';omega
  subst e;congr 1;refine zKn h2 h4 λv=>⟨λhv=>?_,λhv=>?_⟩
  .rcases List.mem_cons.1 ((h v).1 (by simp[hv]))with e|e
   .subst e;have:=h1 v hv;omega
   .exact e
  .rcases List.mem_cons.1 ((h v).2 (by simp[hv]))with e|e
   .subst e;have:=h3 v hv;omega
   .exact e
abbrev Red(u:L4):Prop:=u.Pairwise λa b=>at_ a (dep b)=0
theorem zMR{u:L4}(ha:Asc u)(hr:Red u){v x:L3}(hv:v∈u)(hx:x∈u)(h:dep v<dep x):at_ v (dep x)=0:=by
 have:=zAM (R:=λa b:L3=>dep a<dep b/\at_ a (dep b)=0) (List.Pairwise.and ha hr) hv hx
 rcases this with e|e|e
 .subst e;omega
 .exact e.2
 .omega
theorem zGu(o:OkW p n W){u w:L4}(hu:Base p n W u)(ru:Red u)(hw:Base p n W w)(sA:Red w)(h:∀f,Gen p n W u f->Gen p n W w f)(h':∀f,Gen p n W w f->Gen p n W u f){v x:L3}(hv:v∈u)(hx:x∈w)(e:dep x=dep v):v=x:=by
 have lv:=hu.led v hv;have lx:=hw.led x hx;have hl:=lv.1.1.trans lx.1.1.symm;have hp:=o.pr;unfold okp at hp;have gk:(lmix 1 v (-1) x).length=n:=by rw[zM hl];exact lv.1.1
 rcases Nat.lt_or_ge (dep (lmix 1 v (-1) x)) n with hd|hd;rotate_left
 .refine zSC lv.1 lx.1 λj hj=>?_
  have:=qF (v:=lmix 1 v (-1) x) (j:=j) (by omega)
  rw[qY hl]at this;omega
 have hz:∀j,j<dep (lmix 1 v (-1) x)->at_ (norm p W (lmix 1 v (-1) x)) j=0:=zAs o gk (by omega) λj hj=>qF hj;have ai:at_ (norm p W (lmix 1 v (-1) x)) (dep (lmix 1 v (-1) x))≠0:=by
  rw[zDS o gk hd λj hj=>qF hj];have h1:=Zg (v:=lmix 1 v (-1) x) (by rw[gk];exact hd);rw[qY hl]at h1 ⊢;have b1:=lv.1.at0 o (dep (lmix 1 v (-1) x));have b2:=lx.1.at0 o (dep (lmix 1 v (-1) x));intro h0
  have:=Int.emod_add_mul_ediv (1*at_ v (dep (lmix 1 v (-1) x)) + -1*at_ x (dep (lmix 1 v (-1) x))) p
  rw[h0,Int.zero_add]at this;generalize (1*at_ v (dep (lmix 1 v (-1) x)) + -1*at_ x (dep (lmix 1 v (-1) x))) / p=q at this;rcases Int.lt_trichotomy q 0 with y|y|y
  .have:=Int.mul_le_mul_of_nonneg_left (show q<=-1 by omega) (show 0<=p by omega)
   omega
  .rw[y]at this;omega
  .have:=Int.mul_le_mul_of_nonneg_left (show 1<=q by omega) (show 0<=p by omega)
   omega
 have eU:=zBo hz ai;have hg:Gen p n W u (at_ (norm p W (lmix 1 v (-1) x))):=by
  refine(zQ u).eqv _ _ ((ZJ o gk).trans (Eqv.of_eq λj=>?_)) ((zQ u).sub (qO hv) (h' _ (qO hx)));rw[qY hl];omega
 obtain⟨t,ht,et⟩:=zCW o hu (zBN o gk) hg (by omega);obtain⟨s,hs,es⟩:=zCW o hw (zBN o gk) (h _ hg) (by omega);have dh:=Zg (v:=lmix 1 v (-1) x) (by rw[gk];exact hd);rw[qY hl]at dh;exfalso;rcases Nat.lt_trichotomy (dep v) (dep t)with y|y|y
 .have q1:=zMR hu.asc ru hv ht y;have q2:=zMR hw.asc sA hx hs (by omega);rw[et,eU]at q1;rw[es,eU]at q2;rw[q1,q2]at dh;omega
 .have e2:dep (lmix 1 v (-1) x)=dep v:=by omega
  rw[e2,lv.2.2,<-e,lx.2.2]at dh;omega
 .have e2:dep (lmix 1 v (-1) x)<dep v:=by omega
  rw[qF e2,qF (by omega)]at dh;omega
theorem zIg(o:OkW p n W){u w:L4}(hu:Base p n W u)(ru:Red u)(hw:Base p n W w)(sA:Red w)(h:∀f,Gen p n W u f->Gen p n W w f)(h':∀f,Gen p n W w f->Gen p n W u f):u=w:=by
 refine zKn hu.asc hw.asc λv=>⟨λhv=>?_,λhv=>?_⟩
 .have lv:=hu.led v hv;obtain⟨x,hx,e⟩:=zCW o hw lv.1 (h _ (qO hv)) lv.2.1;rw[zGu o hu ru hw sA h h' hv hx e];exact hx
 .have lv:=hw.led v hv;obtain⟨x,hx,e⟩:=zCW o hu lv.1 (h' _ (qO hv)) lv.2.1;rw[zGu o hw sA hu ru h' h hv hx e];exact hx
theorem zIP(o:OkW p n W){v:L3}{t t' s:L4}(hb:Base p n W (v::t))(iT:Base p n W t')(cI:Red t')(hg:∀f,Gen p n W t f↔Gen p n W t' f)(hs:Base p n W s)(Ax:∀x∈t',∃y∈s,dep y=dep x)(gF:∀y∈s,dep v<dep y)(cA:∀f,Gen p n W s f->Gen p n W t' f)(sQ:∀x∈t',dep v<dep x):
  Base p n W (redL p W s v::t')/\Red (redL p W s v::t')/\(∀f,Gen p n W (v::t) f↔Gen p n W (redL p W s v::t') f)/\dep (redL p W s v)=dep v:=by
 cases hb with
 |cons hv ha hc Dv=>
 have bh:=Z4 o hs.els hv.1;obtain⟨h1,h2⟩:=zCN o hs.led hs.asc hv.1;have ra:=zEd o hs.els hv.1;have fg:∀j,j<=dep v->at_ (redL p W s v) j=at_ v j:=λj hj=>h2 j λy hy=>by have:=gF y hy;omega
 have eU:dep (redL p W s v)=dep v:=zBo (λj hj=>by rw[fg j (by omega)];exact qF hj) (by rw[fg _ (vM _),hv.2.2];decide);refine⟨.cons ⟨bh,by rw[eU];exact hv.2.1,by rw[eU,fg _ (vM _)];exact hv.2.2⟩ (λx hx=>by rw[eU];exact sQ x hx) ?_ iT,List.pairwise_cons.2 ⟨λx hx=>?_,cI⟩,λf=>⟨λhf=>?_,λhf=>?_⟩,eU⟩
 .have q1:=(zQ t').mul p _ (cA _ ra);have q2:=(zQ t').sub ((hg _).1 hc) q1;exact(zQ t').eqv _ _ (Eqv.of_eq λj=>by rw[Int.mul_sub];omega) q2
 .obtain⟨y,hy,e⟩:=Ax x hx;rw[<-e];exact h1 y hy
 .refine Qa (λx hx=>?_) hf;rcases List.mem_cons.1 hx with rfl|hx
  .have q1:Gen p n W (redL p W s x::t') λj=>at_ x j-at_ (redL p W s x) j:=ql (λy hy=>by simp[hy]) (cA _ ra);have q2:=(zQ (redL p W s x::t')).add _ _ q1 (qO (v:=redL p W s x) (by simp));exact(zQ _).eqv _ _ (Eqv.of_eq λj=>by omega) q2
  .exact ql (λy hy=>by simp[hy]) ((hg _).1 (qO hx))
 .refine Qa (λx hx=>?_) hf;rcases List.mem_cons.1 hx with rfl|hx
  .have q1:Gen p n W (v::t) λj=>at_ v j-at_ (redL p W s v) j:=ql (λy hy=>by simp[hy]) ((hg _).2 (cA _ ra));have q2:=(zQ (v::t)).sub (qO (v:=v) (by simp)) q1;exact(zQ _).eqv _ _ (Eqv.of_eq λj=>by omega) q2
  .exact ql (λy hy=>by simp[hy]) ((hg _).2 (qO hx))
def finS(p:Int)(W:L4):L4->L4
 |[]=>[]
 |v::t=>redL p W t v::finS p W t
def finI(p:Int)(W:L4):L4->L4
 |[]=>[]
 |v::t=>redL p W (finI p W t) v::finI p W t
structure Canon(p:Int)(n:Nat)(W:L4)(aj out:L4):Prop where
 base:Base p n W out
 red:Red out
 gen:∀f,Gen p n W aj f↔Gen p n W out f
theorem zKc(o:OkW p n W):∀{u:L4},Base p n W u->Canon p n W u (finS p W u)/\(finS p W u).map dep=u.map dep
 |_,.nil=>⟨⟨.nil,List.Pairwise.nil,λ_=>Iff.rfl⟩,rfl⟩
 |_,.cons (v:=v) (u:=t) hv ha hc hb=>by
  obtain⟨c,hd⟩:=zKc o hb;have dd:∀x∈finS p W t,∃y∈t,dep y=dep x:=λx hx=>by
   have:dep x∈t.map dep:=by rw[<-hd];exact List.mem_map_of_mem hx
   obtain⟨y,hy,e⟩:=List.mem_map.1 this;exact⟨y,hy,e⟩
  obtain⟨q1,q2,q3,q4⟩:=zIP o (.cons hv ha hc hb) c.base c.red c.gen hb dd ha (λf hf=>(c.gen f).1 hf) λx hx=>by
   obtain⟨y,hy,e⟩:=dd x hx;have:=ha y hy;omega
  exact⟨⟨q1,q2,q3⟩,by simp only[finS,List.map_cons,q4,hd]⟩
theorem zCX(o:OkW p n W):∀{u:L4},Base p n W u->Canon p n W u (finI p W u)/\(finI p W u).map dep=u.map dep
 |_,.nil=>⟨⟨.nil,List.Pairwise.nil,λ_=>Iff.rfl⟩,rfl⟩
 |_,.cons (v:=v) (u:=t) hv ha hc hb=>by
  obtain⟨c,hd⟩:=zCX o hb;have dd:∀x∈finI p W t,dep v<dep x:=λx hx=>by
   have:dep x∈t.map dep:=by rw[<-hd];exact List.mem_map_of_mem hx
   obtain⟨y,hy,e⟩:=List.mem_map.1 this
   have:=ha y hy;omega
  obtain⟨q1,q2,q3,q4⟩:=zIP o (.cons hv ha hc hb) c.base c.red c.gen c.base (λx hx=>⟨x,hx,rfl⟩) dd (λf hf=>hf) dd;exact⟨⟨q1,q2,q3⟩,by simp only[finI,List.map_cons,q4,hd]⟩
theorem Canon.unique(o:OkW p n W){aj a b:L4}(ha:Canon p n W aj a)(hb:Canon p n W aj b):a=b:=
 zIg o ha.base ha.red hb.base hb.red (λf hf=>(hb.gen f).1 ((ha.gen f).2 hf)) λf hf=>(ha.gen f).1 ((hb.gen f).2 hf)
theorem Canon.trans{aj u out:L4}(h:Canon p n W u out)(hg:∀f,Gen p n W aj f↔Gen p n W u f):Canon p n W aj out:=⟨h.base,h.red,λf=>(hg f).trans (h.gen f)⟩
abbrev Dp(u:L4)(d:Nat):L4:=u.filter λv=>decide (d<dep v)
abbrev Fp(u:L4)(d:Nat):L4:=u.filter λv=>decide (d<=dep v)
structure Grow(p:Int)(n:Nat)(W aj u Q:L4):Prop where
 led:∀v∈u,Led p n v
 asc:Asc u
 els:∀x∈Q,El p n x
 clo:∀v∈u,Gen p n W (Dp u (dep v)) (λj=>p*at_ v j)\/∃x∈Q,dep v<dep x/\Gen p n W (Dp u (dep v)) λj=>p*at_ v j-at_ x j
 gen:∀f,Gen p n W aj f↔Gen p n W (u++Q) f
theorem Grow.perm{aj u Q Q':L4}(g:Grow p n W aj u Q)(h:∀x,x∈Q↔x∈Q'):Grow p n W aj u Q':=
 ⟨g.led,g.asc,λx hx=>g.els x ((h x).2 hx),λv hv=>(g.clo v hv).imp id λ⟨x,hx,r⟩=>⟨x,(h x).1 hx,r⟩,
  λf=>(g.gen f).trans ⟨ql λv hv=>by simp only[List.mem_append]at hv ⊢;exact hv.imp id (h v).1,ql λv hv=>by simp only[List.mem_append]at hv ⊢;exact hv.imp id (h v).2⟩⟩
theorem Grow.start{aj:L4}(h:∀v∈aj,El p n v):Grow p n W aj [] aj:=⟨λv hv=>(by cases hv),List.Pairwise.nil,h,λv hv=>(by cases hv),λf=>Iff.rfl⟩
theorem Grow.replace{aj u Q:L4}{g x:L3}(h:Grow p n W aj u (g::Q))(hx:El p n x)(hd:dep g<=dep x)(hg:Gen p n W (Fp u (dep g)) λj=>at_ g j-at_ x j):Grow p n W aj u (x::Q):=by
 have x9:∀M:L4,(∀v∈u,v∈M)->Gen p n W M λj=>at_ g j-at_ x j:=λM hM=>ql (λv hv=>hM v (List.mem_filter.1 hv).1) hg;refine⟨h.led,h.asc,λy hy=>(List.mem_cons.1 hy).elim (λe=>e ▸ hx) λhy=>h.els y (by simp[hy]),λv hv=>?_,λf=>(h.gen f).trans ⟨Qa λy hy=>?_,Qa λy hy=>?_⟩⟩
 .rcases h.clo v hv with h1|⟨y,hy,h1,h2⟩
  .exact .inl h1
  .rcases List.mem_cons.1 hy with rfl|hy
   .refine .inr ⟨x,by simp,by omega,?_⟩;have q1:Gen p n W (Dp u (dep v)) λj=>at_ y j-at_ x j:=ql (λw hw=>by
     simp only[List.mem_filter,decide_eq_true_eq]at hw ⊢;exact⟨hw.1,by omega⟩) hg
    have q2:=(zQ _).add _ _ h2 q1;exact(zQ _).eqv _ _ (Eqv.of_eq λj=>by omega) q2
   .exact .inr ⟨y,by simp[hy],h1,h2⟩
 .simp only[List.mem_append,List.mem_cons]at hy;rcases hy with hy|rfl|hy
  .exact qO (by simp[hy])
  .have q1:=(zQ (p:=p) (n:=n) (W:=W) (u++x::Q)).add _ _ (x9 _ λv hv=>by simp[hv]) (qO (v:=x) (by simp));exact(zQ _).eqv _ _ (Eqv.of_eq λj=>by omega) q1
  .exact qO (by simp[hy])
 .simp only[List.mem_append,List.mem_cons]at hy;rcases hy with hy|rfl|hy
  .exact qO (by simp[hy])
  .have q1:=(zQ (p:=p) (n:=n) (W:=W) (u++g::Q)).sub (qO (v:=g) (by simp)) (x9 _ λv hv=>by simp[hv]);exact(zQ _).eqv _ _ (Eqv.of_eq λj=>by omega) q1
  .exact qO (by simp[hy])
theorem Grow.drop{aj u Q:L4}{x:L3}(h:Grow p n W aj u (x::Q))(h0:∀j,at_ x j=0):Grow p n W aj u Q:=by
 have hz:∀M:L4,Gen p n W M (at_ x):=λM=>(zQ M).eqv _ _ (Eqv.of_eq h0) (zQ M).zero;refine⟨h.led,h.asc,λy hy=>h.els y (by simp[hy]),λv hv=>?_,λf=>(h.gen f).trans ⟨Qa λy hy=>?_,ql λy hy=>by simp only[List.mem_append,List.mem_cons]at hy ⊢;exact hy.imp id .inr⟩⟩
 .rcases h.clo v hv with h1|⟨y,hy,h1,h2⟩
  .exact .inl h1
  .rcases List.mem_cons.1 hy with rfl|hy
   .exact .inl ((zQ _).eqv _ _ (Eqv.of_eq λj=>by rw[h0 j];omega) h2)
   .exact .inr ⟨y,hy,h1,h2⟩
 .simp only[List.mem_append,List.mem_cons]at hy;rcases hy with hy|rfl|hy
  .exact qO (by simp[hy])
  .exact hz _
  .exact qO (by simp[hy])
def insD:L4->L3->L4
 |[],x=>[x]
 |v::u,x=>if dep v<dep x then v::insD u x else x::v::u
theorem Zt:∀{u:L4} {x v:L3},v∈insD u x↔v=x\/v∈u
 |[],x,v=>by simp[insD]
 |w::u,x,v=>by
  simp only[insD];split
  .rw[List.mem_cons,Zt,List.mem_cons];constructor
   .rintro(h|h|h);exact .inr (.inl h);exact .inl h;exact .inr (.inr h)
   .rintro(h|h|h);exact .inr (.inl h);exact .inl h;exact .inr (.inr h)
  .simp
theorem zII:∀{u:L4} {x:L3},Asc u->(∀v∈u,dep v≠dep x)->Asc (insD u x)
 |[],x,_,_=>List.pairwise_singleton _ _
 |w::u,x,hu,hx=>by
  obtain⟨h1,h2⟩:=List.pairwise_cons.1 hu;simp only[insD];split
  .rename_i ag;refine List.pairwise_cons.2 ⟨λv hv=>?_,zII h2 λv hv=>hx v (by simp[hv])⟩;rcases Zt.1 hv with rfl|hv
   .exact ag
   .exact h1 v hv
  .rename_i aF
   have:=hx w (by simp)
   refine List.pairwise_cons.2 ⟨λv hv=>?_,hu⟩;rcases List.mem_cons.1 hv with rfl|hv
   .omega
   .have:=h1 v hv;omega
theorem Zz:∀(u:L4) (x:L3),(insD u x).length=u.length+1
 |[],x=>rfl
 |w::u,x=>by simp only[insD];split<;>simp[Zz u x]
theorem Grow.insert{aj u Q:L4}{x y z:L3}(h:Grow p n W aj u (x::Q))(hy:Led p n y)(hd:dep y=dep x)(jK:∀v∈u,dep v≠dep x)(mD:Gen p n W [y] (at_ x))(nG:Gen p n W [x] (at_ y))(hz:El p n z)(Ak:dep y<dep z)(xG:Eqv p n W (at_ z) λj=>p*at_ y j):Grow p n W aj (insD u y) (z::Q):=by
 have sub:∀d,∀v∈Dp u d,v∈Dp (insD u y) d:=λd v hv=>by
  simp only[List.mem_filter,decide_eq_true_eq]at hv ⊢;exact⟨Zt.2 (.inr hv.1),hv.2⟩
 have tw:∀d,d<dep y->y∈Dp (insD u y) d:=λd hd=>by
  simp only[List.mem_filter,decide_eq_true_eq];exact⟨Zt.2 (.inl rfl),hd⟩
 refine⟨λv hv=>?_,zII h.asc λv hv=>by rw[hd];exact jK v hv,λv hv=>?_,λv hv=>?_,λf=>(h.gen f).trans ⟨Qa λv hv=>?_,Qa λv hv=>?_⟩⟩
 .rcases Zt.1 hv with rfl|hv
  .exact hy
  .exact h.led v hv
 .rcases List.mem_cons.1 hv with rfl|hv
  .exact hz
  .exact h.els v (by simp[hv])
 .rcases Zt.1 hv with rfl|hv
  .refine .inr ⟨z,by simp,Ak,?_⟩
   have:=xG.symm.add (Eqv.refl (p:=p) (n:=n) (W:=W) λj=>- at_ z j)
   refine(zQ _).eqv _ _ ((Eqv.of_eq λj=>?_).trans (this.trans (Eqv.of_eq λj=>?_))) (zQ _).zero
   .omega
   .omega
  .rcases h.clo v hv with h1|⟨t,ht,h1,h2⟩
   .exact .inl (ql (sub _) h1)
   .rcases List.mem_cons.1 ht with rfl|ht
    .have q1:Gen p n W (Dp (insD u y) (dep v)) (at_ t):=ql (λw hw=>by rw[List.mem_singleton.1 hw];exact tw _ (by omega)) mD;have q2:=(zQ _).add _ _ (ql (sub (dep v)) h2) q1;exact .inl ((zQ _).eqv _ _ (Eqv.of_eq λj=>by omega) q2)
    .exact .inr ⟨t,by simp[ht],h1,ql (sub _) h2⟩
 .simp only[List.mem_append,List.mem_cons]at hv;rcases hv with hv|rfl|hv
  .exact qO (by simp[Zt,hv])
  .exact ql (λw hw=>by rw[List.mem_singleton.1 hw];simp[Zt]) mD
  .exact qO (by simp[hv])
 .simp only[List.mem_append,List.mem_cons,Zt]at hv;have oR:Gen p n W (u++x::Q) (at_ y):=ql (λw hw=>by rw[List.mem_singleton.1 hw];simp) nG;rcases hv with (rfl|hv)|rfl|hv
  .exact oR
  .exact qO (by simp[hv])
  .exact(zQ _).eqv _ _ xG ((zQ _).mul p _ oR)
  .exact qO (by simp[hv])
theorem zJ5{v:L3}{t:L4}(h:∀w∈t,dep v<dep w):Dp (v::t) (dep v)=t:=by
 rw[Dp,List.filter_cons,if_neg (by simp)];exact List.filter_eq_self.2 λw hw=>by simpa using h w hw
theorem Grow.base{aj:L4}:∀{u:L4},Grow p n W aj u []->Base p n W u:=by
 have key:∀(u:L4),(∀v∈u,Led p n v)->Asc u->(∀v∈u,Gen p n W (Dp u (dep v)) λj=>p*at_ v j)->Base p n W u:=by
  intro u
  induction u with
  |nil=>intro _ _ _;exact .nil
  |cons v t ih=>
   intro hl ha hc;obtain⟨h1,h2⟩:=List.pairwise_cons.1 ha;have hv:=hc v (by simp);rw[zJ5 h1]at hv;refine .cons (hl v (by simp)) h1 hv (ih (λw hw=>hl w (by simp[hw])) h2 λw hw=>?_);have kR:=hc w (by simp[hw])
   have:Dp (v::t) (dep w)=Dp t (dep w):=by
    rw[Dp,List.filter_cons,if_neg (by have:=h1 w hw;simp;omega)]
   rwa[this]at kR
 intro u h;exact key u h.led h.asc λv hv=>(h.clo v hv).elim id λ⟨x,hx,_⟩=>by cases hx
theorem Grow.done{aj u out:L4}(h:Grow p n W aj u [])(c:Canon p n W u out):Canon p n W aj out:=c.trans λf=>by
 have:=h.gen f
 rwa[List.append_nil]at this
theorem QK{u:L4}(hl:∀v∈u,dep v<n)(ha:Asc u):u.length<=n:=by
 have:∀(u:L4) (m:Nat),(∀v∈u,m<=dep v/\dep v<n)->Asc u->m+u.length<=max m n:=by
  intro u
  induction u with
  |nil=>intro m _ _;simp;omega
  |cons v t ih=>
   intro m hm ha;obtain⟨h1,h2⟩:=List.pairwise_cons.1 ha;have q:=hm v (by simp)
   have:=ih (dep v+1) (λw hw=>⟨h1 w hw,(hm w (by simp[hw])).2⟩) h2
   rw[List.length_cons];omega
 have:=this u 0 (λv hv=>⟨Nat.zero_le _,hl v hv⟩) ha
 omega
theorem zKu(hp:0<p){a k:Int}(h:0<=a/\a<=p-1)(e:a=0-k*p):a=0:=by
 rcases Int.lt_trichotomy k 0 with x|x|x
 .have:=Int.mul_le_mul_of_nonneg_right (show k<=-1 by omega) (show 0<=p by omega)
  omega
 .rw[x]at e;omega
 .have:=Int.mul_le_mul_of_nonneg_right (show 1<=k by omega) (show 0<=p by omega)
  omega
theorem zEv(o:OkW p n W){z:L3}{g:Vec}(hz:El p n z)(h:Eqv p n W (at_ z) g){m:Nat}(hm:m<=n)(hg:∀j,j<m->g j=0):∀j,j<m->at_ z j=0:=by
 intro j hj;have hp:=o.pr;unfold okp at hp;obtain⟨k,hk⟩:=(Qd o h (d:=j) (by omega) (λi _=>hz.at0 o i) (λi hi=>by rw[hg i (by omega)];omega)).2;rw[hg j hj]at hk;exact zKu (by omega) (hz.at0 o j) hk
theorem zCb{u:L4}{d:Nat}(h:∀v∈u,d<=dep v):Fp u d=u:=List.filter_eq_self.2 λv hv=>by simpa using h v hv
theorem zGF(o:OkW p n W):∀{u:L4} {g:L3},(∀v∈u,El p n v)->Asc u->El p n g->redL p W u g=redL p W (Fp u (dep g)) g
 |[],g,_,_,_=>rfl
 |v::u,g,hu,ha,hg=>by
  obtain⟨h1,h2⟩:=List.pairwise_cons.1 ha;by_cases hd:dep g<=dep v
  .rw[zCb];intro w hw;rcases List.mem_cons.1 hw with rfl|hw
   .exact hd
   .have:=h1 w hw;omega
  .have e:Fp (v::u) (dep g)=Fp u (dep g):=by rw[Fp,List.filter_cons,if_neg (by simpa using hd)]
   rw[e,redL,zMS o hg (hu v (by simp)) (qF (by omega))];exact zGF o (λw hw=>hu w (by simp[hw])) h2 hg
theorem zF3{u:L4}{d:Nat}{v:L3}:v∈Fp u d↔v∈u/\d<=dep v:=by simp[Fp]
theorem zOK(o:OkW p n W){u:L4}{g:L3}(hu:∀v∈u,Led p n v)(ha:Asc u)(hg:El p n g):dep g<=dep (redL p W u g):=by
 have bh:=Z4 o (λv hv=>(hu v hv).1) hg;refine zAS (by rw[bh.1,<-hg.1];exact QR g) λj hj=>?_;rw[zGF o (λv hv=>(hu v hv).1) ha hg]
 have:=(zCN o (u:=Fp u (dep g)) (λv hv=>hu v (zF3.1 hv).1) (ha.sublist List.filter_sublist) hg).2 j λv hv=>by have:=(zF3.1 hv).2;omega
 rw[this];exact qF hj
theorem Grow.reduce(o:OkW p n W){aj u Q:L4}{g:L3}(h:Grow p n W aj u (g::Q)):Grow p n W aj u (redL p W u g::Q):=by
 have hg:=h.els g (by simp);have he:∀v∈u,El p n v:=λv hv=>(h.led v hv).1;refine h.replace (Z4 o he hg) (zOK o h.led h.asc hg) ?_;rw[zGF o he h.asc hg];exact zEd o (λv hv=>he v (zF3.1 hv).1) hg
theorem Grow.reduce1(o:OkW p n W){aj u Q:L4}{g v:L3}(h:Grow p n W aj u (g::Q))(hv:v∈u)(hd:dep v=dep g):Grow p n W aj u (red1 p W g v::Q)/\dep g<dep (red1 p W g v):=by
 have hg:=h.els g (by simp);have lv:=h.led v hv;have bh:=zDr o hg lv.1;have Bt:dep g<dep (red1 p W g v):=zAS (by rw[bh.1];have:=lv.2.1;omega) λj hj=>by
  rw[zGG o hg lv (by omega)];split
  .rfl
  .exact qF (by omega)
 refine⟨h.replace bh (by omega) ?_,Bt⟩;have q1:=(zQ (p:=p) (n:=n) (W:=W) (Fp u (dep g))).mul (at_ g (dep v)) _ (qO (zF3.2 ⟨hv,by omega⟩));refine(zQ _).eqv _ _ ?_ q1
 have:=(zHX o hg lv.1).symm.add (Eqv.refl (p:=p) (n:=n) (W:=W) λj=>at_ g (dep v)*at_ v j-at_ (red1 p W g v) j)
 refine(Eqv.of_eq λj=>?_).trans (this.trans (Eqv.of_eq λj=>?_))
 .omega
 .omega
theorem QD(o:OkW p n W){x:L3}(hx:El p n x)(k:Int):El p n (norm p W (lmix k x 0 x))/\Eqv p n W (at_ (norm p W (lmix k x 0 x))) λj=>k*at_ x j:=by
 have hl:(lmix k x 0 x).length=n:=by rw[zM rfl];exact hx.1
 exact⟨zBN o hl,(ZJ o hl).trans (Eqv.of_eq λj=>by rw[qY rfl];omega)⟩
theorem zAB(o:OkW p n W){x:L3}(hx:El p n x)(hd:dep x<n){k:Int}(hk:at_ x (dep x)*k % p=1):
  Led p n (norm p W (lmix k x 0 x))/\dep (norm p W (lmix k x 0 x))=dep x/\Gen p n W [norm p W (lmix k x 0 x)] (at_ x)/\Gen p n W [x] (at_ (norm p W (lmix k x 0 x))):=by
 have hp:=o.pr;unfold okp at hp;have hl:(lmix k x 0 x).length=n:=by rw[zM rfl];exact hx.1
 obtain⟨bh,heq⟩:=QD o hx k;have hz:∀j,j<dep x->at_ (lmix k x 0 x) j=0:=λj hj=>by rw[qY rfl,qF hj];simp
 have h1:=zAs o hl (by omega) hz;have h2:=zDS o hl hd hz;have e:at_ (lmix k x 0 x) (dep x)=at_ x (dep x)*k:=by rw[qY rfl,Int.mul_comm k];omega
 rw[e,hk]at h2;have eU:dep (norm p W (lmix k x 0 x))=dep x:=zBo h1 (by rw[h2];decide);refine⟨⟨bh,by rw[eU];exact hd,by rw[eU];exact h2⟩,eU,?_,?_⟩
 .obtain⟨t,ht⟩:∃t,at_ x (dep x)*k=1+p*t:=⟨at_ x (dep x)*k / p,by have:=Int.emod_add_mul_ediv (at_ x (dep x)*k) p;omega⟩
  obtain⟨e,s,Bn⟩:=zGU (p:=p) t n (by omega);have g1:=(zQ (p:=p) (n:=n) (W:=W) [norm p W (lmix k x 0 x)]).mul (e*at_ x (dep x)) _ (qO (List.mem_singleton.2 rfl));have k1:=(zAf o (f:=at_ x) λj hj=>hx.beyond hj).mul (-s);refine(zQ _).eqv _ _ ?_ g1;have h3:=heq.symm.mul (e*at_ x (dep x));have h4:=h3.add k1;refine(Eqv.of_eq λj=>?_).trans (h4.trans (Eqv.of_eq λj=>by simp))
  have:e*at_ x (dep x)*(k*at_ x j)=(e*(at_ x (dep x)*k))*at_ x j:=by simp only[Int.mul_assoc]
  rw[this,ht,Bn,Int.add_mul,Int.one_mul]
  have:-s*(pw_ p n*at_ x j)=-(pw_ p n*s*at_ x j):=by rw[Int.neg_mul,Int.mul_left_comm,Int.mul_assoc]
  rw[this];omega
 .refine(zQ _).eqv _ _ heq ((zQ _).mul k _ (qO (List.mem_singleton.2 rfl)))
theorem zHl(o:OkW p n W){y:L3}(hy:El p n y)(hd:dep y<n):dep y<dep (norm p W (lmix p y 0 y)):=by
 obtain⟨bh,heq⟩:=QD o hy p;obtain⟨g,h1,h2,h3⟩:=push o hd (f:=at_ y) (λj hj=>qF hj) λj hj=>hy.beyond hj
 have:=zEv o bh (heq.trans h1) (m:=dep y+1) (by omega) λj hj=>h2 j (by omega)
 exact zAS (by rw[bh.1];omega) this
theorem Grow.take(o:OkW p n W){aj u Q:L4}{x:L3}{k:Int}(h:Grow p n W aj u (x::Q))(hd:dep x<n)(jK:∀v∈u,dep v≠dep x)(hk:at_ x (dep x)*k % p=1):
  Grow p n W aj (insD u (norm p W (lmix k x 0 x))) (norm p W (lmix p (norm p W (lmix k x 0 x)) 0 (norm p W (lmix k x 0 x)))::Q):=by
 have hx:=h.els x (by simp);obtain⟨h1,h2,h3,h4⟩:=zAB o hx hd hk;obtain⟨h5,h6⟩:=QD o h1.1 p;exact h.insert h1 h2 jK h3 h4 h5 (zHl o h1.1 h1.2.1) h6
theorem zR5{p a:Int}(hp:p=2\/p=3\/p=5\/p=7)(h1:0<a)(h2:a<p):∃x,1<=x/\x<p/\a*x % p=1:=by
 rcases hp with rfl|rfl|rfl|rfl
 .exact⟨1,by omega,by omega,by
   have:a=1:=by omega
   subst this;decide⟩
 .obtain rfl|rfl:a=1\/a=2:=by omega
  .exact⟨1,by decide,by decide,by decide⟩
  .exact⟨2,by decide,by decide,by decide⟩
 .obtain rfl|rfl|rfl|rfl:a=1\/a=2\/a=3\/a=4:=by omega
  .exact⟨1,by decide,by decide,by decide⟩
  .exact⟨3,by decide,by decide,by decide⟩
  .exact⟨2,by decide,by decide,by decide⟩
  .exact⟨4,by decide,by decide,by decide⟩
 .obtain rfl|rfl|rfl|rfl|rfl|rfl:a=1\/a=2\/a=3\/a=4\/a=5\/a=6:=by omega
  .exact⟨1,by decide,by decide,by decide⟩
  .exact⟨4,by decide,by decide,by decide⟩
  .exact⟨5,by decide,by decide,by decide⟩
  .exact⟨2,by decide,by decide,by decide⟩
  .exact⟨3,by decide,by decide,by decide⟩
  .exact⟨6,by decide,by decide,by decide⟩
end Go.Lie
namespace Go.Proofs
open Go.Ab Go.Lie
variable{U:PHeap}{K:PV->PHeap->Prop}{p:Int}{n:Nat}{W:L4}{B:L5}{vP vB vU:PV}
theorem zGk{a p:Int}(hp:isP p)(ha:0<a/\a<p)(hk:∀x,1<=x->x<p->a*x % p=1->K (.int .i64 x) U):zA Tryz.prog 183 [.int .i64 a,.int .i64 p] U K:=by
 have jb:=hp.bd;obtain⟨y,jA,uf,An⟩:=zR5 hp ha.1 ha.2;refine zB mix Tryz.func183 ?_
 conv=>arg 2;cbv
 refine zC rfl ?_;simp only[Z3,seval,-ae];refine zF (λm vs h'=>∃i:Int,1<=i/\i<=y/\m=(y-i).toNat/\vs=[.int .i64 a,.int .i64 p,.int .i64 i]/\U=h') (y-1).toNat ?_ ?_
 .exact⟨1,by omega,jA,rfl,rfl,rfl⟩
 rintro m vs h' ⟨i,hi,Dm,rfl,rfl,rfl⟩
 have x8:i<p:=by omega
 simp only[Z3,seval,-ae,x8];refine zGj (by omega) (by omega) ?_;have lF:a % p=a:=Int.emod_eq_of_lt (by omega) (by omega);have hm:a*i<=49/\0<=a*i:=by
  have h1:=Int.mul_le_mul_of_nonneg_left (show i<=7 by omega) (show 0<=a by omega);have h2:=Int.mul_nonneg (show 0<=a by omega) (show 0<=i by omega);omega
 have gr:p≠0:=by omega
 rw[lF];simp only[Z3,seval,-ae,wrap64 (n:=a*i) (by omega) (by omega),gr];have e:(a*i).tmod p=a*i % p:=Int.tmod_eq_emod_of_nonneg hm.2;rw[e];by_cases h1:a*i % p=1
 .simp only[Z3,seval,-ae,h1];exact hk i hi x8 h1
 .have ai:i≠y:=λe=>h1 (by rw[e];exact An);simp only[Z3,seval,-ae,h1,wrap64 (n:=i+1) (by omega) (by omega)];exact⟨_,by omega,i+1,by omega,by omega,rfl,rfl⟩
theorem zJt{l:Nat}{w:Bool}{a:AV}{xs:L3}(hl:l=xs.length)(hb:xs.length<=1048576)(hk:K (.int .i64 (dep xs)) U):zA Tryz.prog 280 [.fz w a l (pis xs)] U K:=by
 subst hl;refine zB mix Tryz.func280 ?_
 conv=>arg 2;cbv
 refine zC rfl ?_;simp only[Z3,seval,-ae];refine zF (λm vs h'=>∃i:Nat,i<=dep xs/\m=dep xs-i/\vs=[.fz w a xs.length (pis xs),.int .i64 i]/\U=h') (dep xs) ?_ ?_
 .exact⟨0,by omega,by omega,rfl,rfl⟩
 rintro m vs h' ⟨i,hi,rfl,rfl,rfl⟩
 have gb:=QR xs;by_cases ag:i<xs.length
 .simp only[Z3,seval,-ae,ag,zL,gi ag];refine iteI (λh0=>?_) λh0=>?_
  .have iP:i<dep xs:=by
    rcases Nat.lt_or_ge i (dep xs)with x|x
    .exact x
    .have:i=dep xs:=by omega
     subst this;exact absurd (by rw[at_eq ag];exact h0) (Zg ag)
   simp only[Z3,seval,-ae,wrapS ag (by omega:xs.length<=4611686018427387904)];exact⟨_,by omega,i+1,by omega,rfl,rfl⟩
  .have iP:i=dep xs:=by
    rcases Nat.lt_or_ge i (dep xs)with x|x
    .exact absurd (by rw[<-at_eq ag];exact qF x) h0
    .omega
   subst iP;exact hk
 .have iP:i=dep xs:=by omega
  subst iP;simp only[Z3,seval,-ae,ag];exact hk
theorem zAn{l:Nat}{w:Bool}{a:AV}{xs:L3}(hl:l=xs.length)(hb:xs.length<=1048576)(hk:K (.int .i64 (dep xs)) U):zA Tryz.prog 199 [.fz w a l (pis xs)] U K:=by
 refine zB mix Tryz.func199 ?_
 conv=>arg 2;cbv
 refine zC rfl ?_;simp only[Z3,seval,-ae];refine zJt hl hb ?_;simp only[Z3,seval,-ae];exact hk
theorem zGi{l:Nat}{w:Bool}{a:AV}{xs:L3}(hl:l=xs.length)(hb:xs.length<=4294967296)(hk:∀v,K (.fz true v xs.length (pis xs)) U):zA Tryz.prog 271 [.fz w a l (pis xs)] U K:=
 zA.fz (λK'=>QW hl hb) (zO _ _) λo cap=>hk _
theorem zDI(u:L4)(v x:L3):redL p W (u++[v]) x=red1 p W (redL p W u x) v:=by
 induction u generalizing x with
 |nil=>rfl
 |cons w u ih=>rw[List.cons_append,redL,ih,redL]
theorem zBi{l:Nat}{w:Bool}{a:AV}{u:L4}{x:L3}(hR:IsR vP vB W B)(o:OkW p n W)(hL:FII vU u)(hu:∀v∈u,El p n v/\dep v<n)(c6:u.length<=1048576)(hx:El p n x)(hl:l=x.length)
  (hk:∀v,K (.fz true v n (pis (redL p W u x))) U):zA Tryz.prog 197 [.agg [.int .i64 p,vP,vB],vU,.fz w a l (pis x)] U K:=by
 have h1:=hR.P.one;have h2:=hR.B.one;have aW:=o.le;have hp:=o.pr;unfold okp at hp;obtain⟨wl,al,rl,rfl,aR⟩:=hL;refine zA.gh ?_;refine zP mix Tryz.func197 cf197 rfl ?_;dsimp only[if197,eI,qD,eD,mI0,kI0,bI0,cI0,sI0,C1,mD0,lD0,xD0,I0,zI0,R0,S0];simp only[Z3,seval,-ae,h1,h2];refine zGi hl (by rw[hx.1];omega) λv0=>?_;rw[hx.1];simp only[Z3,seval,-ae];refine zF (λm vs h'=>∃i:Nat,i<=u.length/\m=u.length-i/\∃v,vs=[.fz wl al u.length rl,.ptr U.next 0,.fz true v n (pis (redL p W (u.take i) x)),.int .i64 i]/\U.new [.int .i64 p,vP,vB]=h') u.length ?_ ?_
 .exact⟨0,by omega,by omega,v0,by rw[List.take_zero,redL];rfl,rfl⟩
 rintro m vs h' ⟨i,hi,rfl,v,rfl,rfl⟩
 simp only[Z3,seval,-ae];have bh:El p n (redL p W (u.take i) x):=Z4 o (λv hv=>(hu v (List.mem_of_mem_take hv)).1) hx;refine iteI (λag=>?_) λaF=>?_
 .obtain⟨w4,a4,hr⟩:=aR.rowI ag;have cY:=hu _ (List.getElem_mem ag);have dk:redL p W (u.take (i+1)) x=red1 p W (redL p W (u.take i) x) u[i]:=by rw[List.take_succ_eq_append_getElem ag,zDI]
  generalize hy:redL p W (u.take i) x=y at *
  have gb:dep u[i] < y.length:=by rw[bh.1];exact cY.2
  have mC:=bh.at o.pr (dep u[i]);rw[at_eq gb]at mC;simp only[Z3,seval,-ae,ag,hr];refine zAn rfl (by rw[cY.1.1];omega) ?_;have bN:IntKind.i64.wrap (0-y[dep u[i]])=-y[dep u[i]]:=by rw[wrap64 (by omega) (by omega)];omega
  simp only[Z3,seval,-ae,ag,hr,cY.2,zL,gi gb,bN];refine ZB hR o bh cY.1 bh.1.symm rfl (by decide) (by omega) λv'=>?_;simp only[Z3,seval,-ae,wrapS ag (by omega:u.length<=4611686018427387904)];refine⟨_,by omega,i+1,by omega,rfl,v',?_⟩;rw[dk,red1,at_eq gb]
 .have aJ:i=u.length:=by omega
  subst aJ;rw[List.take_length];exact Gh.fin0 (zD U _) trivial (hk v)
theorem zGn:∀(u:L4) (x:L3) (k:Nat),k<=u.length->(∀j (h:j<u.length),j<k->dep u[j] < dep x)->(∀h:k<u.length,¬dep u[k] < dep x)->insD u x=u.take k++[x]++u.drop k
 |[],x,k,hk,_,_=>by
  have:k=0:=by simpa using hk
  subst this;rfl
 |v::u,x,0,_,_,h2=>by
  have:=h2 (by simp)
  simp only[List.getElem_cons_zero]at this;rw[insD,if_neg this];rfl
 |v::u,x,k+1,hk,h1,h2=>by
  have:=h1 0 (by simp) (by omega)
  simp only[List.getElem_cons_zero]at this;rw[insD,if_pos this,zGn u x k (by simpa using hk) (λj h hj=>by have:=h1 (j+1) (by simpa using h) (by omega);simpa using this) (λh=>by have:=h2 (by simpa using h);simpa using this)];rfl
theorem zH8{l:Nat}{w:Bool}{a:AV}{u:L4}{x:L3}(hL:FII vU u)(hu:∀v∈u,v.length<=1048576)(c6:u.length<=1048576)(aV:x.length<=1048576)(hl:l=x.length)
  (hk:∀v,FII v (insD u x)->K v U):zA Tryz.prog 200 [vU,.fz w a l (pis x)] U K:=by
 subst hl;obtain⟨wl,al,rl,rfl,aR⟩:=hL;refine zA.gh ?_;refine zB mix Tryz.func200 ?_
 conv=>arg 2;cbv
 refine zC rfl ?_;simp only[Z3,seval,-ae];refine zF (λm vs h'=>∃i:Nat,i<=u.length/\m=u.length-i/\vs=[.fz wl al u.length rl,.fz w a x.length (pis x),.int .i64 i]/\U=h'/\∀j (h:j<u.length),j<i->dep u[j] < dep x) u.length ?_ ?_
 .exact⟨0,by omega,by omega,rfl,rfl,λj h hj=>by omega⟩
 rintro m vs h' ⟨i,hi,rfl,rfl,rfl,ah⟩
 have fin:(∀h:i<u.length,¬dep u[i] < dep x)->insD u x=u.take i++[x]++u.drop i:=zGn u x i hi ah;have tail:(∀h:i<u.length,¬dep u[i] < dep x)->∀v' h',Keep U h'->PSl U.next 1 h' v' (u.length+1) (rl.take i++[PV.fz w a x.length (pis x)]++rl.drop i)->Gh U K v' h':=λhs v' h' cL ha=>by
  have bc:All2 FI (rl.take i++[PV.fz w a x.length (pis x)]++rl.drop i) (insD u x):=by
   rw[fin hs];exact((aR.take i).append (All2.nil FI |>.snoc ⟨w,a,rfl⟩)).append (aR.drop i)
  exact ha.fin cL (bc.bI 0) λo cap=>hk _ ⟨true,.sl o 0 (u.length+1) cap,_,by rw[Zz],bc⟩
 have Az:=aR.1;have cU:i<=u.length:=hi;have iQ:(rl.drop i).take (u.length-i)=rl.drop i:=List.take_of_length_le (by rw[List.length_drop];omega);by_cases ag:i<u.length
 .obtain⟨w4,a4,hr⟩:=aR.rowI ag;simp only[Z3,seval,-ae,ag,hr];refine zAn rfl (hu _ (List.getElem_mem ag)) ?_;simp only[Z3,seval,-ae,ag,hr];refine zAn rfl aV ?_;simp only[Z3,seval,-ae];refine iteI (λhd=>?_) λhd=>?_
  .simp only[Z3,seval,-ae,wrapS ag (by omega:u.length<=4611686018427387904)];refine⟨_,by omega,i+1,by omega,rfl,rfl,λj h hj=>?_⟩;by_cases e:j=i
   .subst e;exact hd
   .exact ah j h (by omega)
  .simp only[Z3,seval,-ae,cU,Nat.sub_zero];refine PSl.cat (bytes:=24) (σb:=U) (n:=0) (cs:=[]) (zD U _) (PSl.new _ 1 rfl (vM _)) (by rw[List.length_take];omega) (by omega) (by omega) λv1 h1 k1 a1=>?_;rw[List.nil_append,Nat.zero_add]at a1;simp only[Z3,seval,-ae];refine PSl.push (bytes:=24) k1 a1 (by omega) (by omega) λv2 h2 k2 a2=>?_;simp only[Z3,seval,-ae,cU,iQ];refine PSl.cat (bytes:=24) k2 a2 (by rw[List.length_drop];omega) (by omega) (by omega) λv3 h3 k3 a3=>?_;simp only[Z3,seval,-ae];refine tail ?_ v3 h3 k3 ?_
   .exactλ_=>hd
   .have:i+1+(u.length-i)=u.length+1:=by omega
    rw[this]at a3;exact a3
 .simp only[Z3,seval,-ae,ag];simp only[Z3,seval,-ae,ag,Int.ofNat_le,cU,Nat.sub_zero];refine PSl.cat (bytes:=24) (σb:=U) (n:=0) (cs:=[]) (zD U _) (PSl.new _ 1 rfl (vM _)) (by rw[List.length_take];omega) (by omega) (by omega) λv1 h1 k1 a1=>?_;rw[List.nil_append,Nat.zero_add]at a1;simp only[Z3,seval,-ae];refine PSl.push (bytes:=24) k1 a1 (by omega) (by omega) λv2 h2 k2 a2=>?_;simp only[Z3,seval,-ae,cU,iQ];refine PSl.cat (bytes:=24) k2 a2 (by rw[List.length_drop];omega) (by omega) (by omega) λv3 h3 k3 a3=>?_;simp only[Z3,seval,-ae];refine tail ?_ v3 h3 k3 ?_
  .exactλh=>absurd h ag
  .have:i+1+(u.length-i)=u.length+1:=by omega
   rw[this]at a3;exact a3
variable{vL:PV}
theorem Q6:∀u:L4,(finS p W u).length=u.length
 |[]=>rfl
 |v::t=>by simp[finS,Q6 t]
theorem zIQ:∀(u:L4) (k:Nat) (h:k<u.length),(finS p W u)[k]? = some (redL p W (u.drop (k+1)) u[k])
 |[],k,h=>by simp at h
 |v::t,0,h=>by simp[finS]
 |v::t,k+1,h=>by
  have:=zIQ t k (by simpa using h)
  simp only[finS,List.getElem?_cons_succ,List.drop_succ_cons,List.getElem_cons_succ];exact this
theorem QG{xs:L3}(h:isZ xs)(j:Nat):at_ xs j=0:=by
 rcases Nat.lt_or_ge j xs.length with x|x
 .rw[at_eq x];exact h _ (List.getElem_mem x)
 .exact at_ge x
theorem zCF{xs:L3}(h:¬isZ xs):dep xs<xs.length:=by
 rcases Nat.lt_or_ge (dep xs) xs.length with x|x
 .exact x
 .exact absurd (zPU (by have:=QR xs;omega)) h
theorem zR1{u:L4}{x:L3}(hz:∀v∈u,at_ x (dep v)=0)(hx:dep x<x.length):∀v∈u,dep v≠dep x:=λv hv e=>Zg hx (by rw[<-e];exact hz v hv)
theorem zNT{aj:L4}(hR:IsR vP vB W B)(o:OkW p n W)(hp:isP p)(hL:FII vL aj)(he:Els p n aj)(nW:aj.length<=1048576)(hk:∀out rows cap,Canon p n W aj out->All2 FI rows out->full 1 cap out.length->K (.sl U.next 0 out.length cap) (U.new rows)):
  zA Tryz.prog 105 [.agg [.int .i64 p,vP,vB],vL] U K:=by
 have h1:=hR.P.one;have h2:=hR.B.one;have aW:=o.le;have jb:=hp.bd;have mU:-1000000000<=p/\p<=1000000000:=by omega
 obtain⟨wl,al,rl,rfl,aR⟩:=hL;refine zA.gh ?_;refine zP mix Tryz.func105 cf105 rfl ?_;dsimp only[if105,eI,qD,eD,mI0,kI0,bI0,cI0,nI0,sI0,C1,C2,mD0,lD0,fD0,xD0,I0,zI0,R0,S0];simp only[Z3,seval,-ae,h1,h2];generalize hH:((U.new [.int .i64 p,vP,vB]).new []).kill (U.next+1)=H;have oi:H.next=U.next+2:=by rw[<-hH];simp only[Z3,seval,-ae]
 have ju:Keep U H:=by rw[<-hH];exact((zD U _).new _).kill (by omega)
 have jg:H.rd U.next 0 3=some [.int .i64 p,vP,vB]:=by rw[<-hH];simp only[Z3,seval,-ae]
 have fQ:H.rd1 U.next 0=some (.int .i64 p):=by rw[<-hH];simp only[Z3,seval,-ae]
 have fS:∀{u Q:L4},Grow p n W aj u Q->(∀v∈u,El p n v/\dep v<n)/\u.length<=n:=λg=>⟨λv hv=>⟨(g.led v hv).1,(g.led v hv).2.1⟩,QK (λv hv=>(g.led v hv).2.1) g.asc⟩
 refine zAY (λm vs h'=>∃i:Nat,i<=aj.length/\m=aj.length-i/\∃vU u,vs=[.fz wl al aj.length rl,.ptr U.next 0,vU,.int .i64 i]/\H=h'/\FII vU u/\Grow p n W aj u (aj.drop i)) aj.length ?_ ?_
 .refine .fz (U.next+1) [] (by simp only[Z3,seval,-ae]) trivial λo1=>.here ?_;rw[hH];refine⟨0,by omega,by omega,.fz true (.sl o1 0 0 (.known 0)) 0 [],[],?_,rfl,⟨_,_,_,rfl,All2.nil _⟩,by rw[List.drop_zero];exact Grow.start he⟩;simp only[Z3,seval,-ae];simp only[sbs,sb,capOK,vM,decide_true,and_self,if_true];rfl
 rintro m vs h' ⟨i,hi,rfl,vU,u,rfl,rfl,hU,hg⟩
 simp only[Z3,seval,-ae];refine iteI (λag=>?_) λaF=>?_
 .obtain⟨w4,a4,hr⟩:=aR.rowI ag;have aF:=he _ (List.getElem_mem ag);have hd:aj.drop i=aj[i]::aj.drop (i+1):=List.drop_eq_getElem_cons ag;rw[hd]at hg;simp only[Z3,seval,-ae,ag,hr,jg,fQ];refine zBi hR o hU (fS hg).1 (by have:=(fS hg).2;omega) aF rfl λv0=>?_;simp only[Z3,seval,-ae];refine zF (λm vs h'=>∃vU u vX x,m=n-u.length/\vs=[.fz wl al aj.length rl,.ptr U.next 0,vU,.int .i64 i,.fz true vX n (pis x)]/\H=h'/\FII vU u/\Grow p n W aj u (x::aj.drop (i+1))/\∀v∈u,at_ x (dep v)=0) (n-u.length) ?_ ?_
  .exact⟨vU,u,v0,_,rfl,rfl,rfl,hU,hg.reduce o,(zCN o hg.led hg.asc aF).1⟩
  rintro m vs h' ⟨vU,u,vX,x,rfl,rfl,rfl,hU,hg,hz⟩
  have hx:=hg.els x (by simp);have aV:=hx.1;simp only[Z3,seval,-ae];refine zBF aV.symm (by omega) ?_;by_cases h0:isZ x
  .simp only[Z3,seval,-ae,h0,wrapS ag (by omega:aj.length<=4611686018427387904)];exact⟨_,by omega,.here ⟨i+1,by omega,rfl,vU,u,rfl,rfl,hU,hg.drop (QG h0)⟩⟩
  .have c8:dep x<x.length:=zCF h0;have dh:dep x<n:=by omega
   have oU:=hx.at0 o (dep x);have ai:=Zg c8;rw[at_eq c8]at oU ai;simp only[Z3,seval,-ae,h0,jg,fQ];refine zAn aV.symm (by omega) ?_;simp only[Z3,seval,-ae,dh,c8,gi c8,zL,jg,fQ];refine zGk hp (by omega) λk e7 cf nT=>?_;simp only[Z3,seval,-ae,dh,c8,gi c8,zL,jg,fQ];refine ZB hR o hx hx aV.symm aV.symm (by omega) (by decide) λv1=>?_;have hT:=hg.take o dh (zR1 hz c8) (k:=k) (by rw[at_eq c8];exact nT);obtain⟨y1,y2,y3,y4⟩:=zAB o hx dh (k:=k) (by rw[at_eq c8];exact nT);generalize norm p W (lmix k x 0 x)=y at *
   simp only[Z3,seval,-ae];refine zH8 hU (λv hv=>by rw[((fS hg).1 v hv).1.1];omega) (by have:=(fS hg).2;omega) (by rw[y1.1.1];omega) y1.1.1.symm λyL ym=>?_;simp only[Z3,seval,-ae,jg,fQ];refine ZB hR o y1.1 y1.1 y1.1.1.symm y1.1.1.symm mU (by decide) λv2=>?_;obtain⟨z1,z2⟩:=QD o y1.1 p;generalize norm p W (lmix p y 0 y)=z at *
   simp only[Z3,seval,-ae,jg,fQ];refine zBi hR o ym (fS hT).1 (by have:=(fS hT).2;omega) z1 z1.1.symm λv3=>?_;simp only[Z3,seval,-ae];have hlen:=(fS hT).2;rw[Zz]at hlen;exact⟨_,by rw[Zz];omega,yL,insD u y,v3,_,rfl,rfl,ym,hT.reduce o,(zCN o hT.led hT.asc z1).1⟩
 .have aJ:i=aj.length:=by omega
  subst aJ;rw[List.drop_length]at hg;have du:=hg.base;have Df:=(fS hg).2;obtain⟨c5,_⟩:=zKc o du;obtain⟨wu,au,ru,rfl,fG⟩:=hU;have Ay:=fG.1;refine zF (λm vs h'=>∃k:Nat,k<=u.length/\m=u.length-k/\∃vO rows,vs=[.ptr U.next 0,.fz wu au u.length ru,vO,.int .i64 k]/\Keep H h'/\PSl H.next 1 h' vO k rows/\All2 FI rows ((finS p W u).take k)) u.length ?_ ?_
  .exact⟨0,by omega,by omega,_,[],rfl,zD H _,PSl.new _ 1 rfl (vM _),by simpa using All2.nil _⟩
  rintro m vs h' ⟨k,cL,rfl,vO,rows,rfl,aq,ha,ar⟩
  simp only[Z3,seval,-ae];refine iteI (λag=>?_) λaF=>?_
  .obtain⟨w5,a5,cb⟩:=fG.rowI ag;have hle:k+1<=u.length:=ag;have iQ:(ru.drop (k+1)).take (u.length-(k+1))=ru.drop (k+1):=List.take_of_length_le (by rw[List.length_drop];omega);have wE:h'.rd U.next 0 3=some [.int .i64 p,vP,vB]:=by rw[aq.rd (by omega)];exact jg
   simp only[Z3,seval,-ae,ag,cb,wE,hle,iQ,wrapS ag (by omega:u.length<=4611686018427387904)];refine zBi hR o (u:=u.drop (k+1)) ⟨false,pslA 1 au (k+1) u.length,_,by rw[List.length_drop],fG.drop _⟩ (λv hv=>(fS hg).1 v (List.mem_of_mem_drop hv)) (by rw[List.length_drop];omega) (du.led _ (List.getElem_mem ag)).1 rfl λv1=>?_;simp only[Z3,seval,-ae];refine PSl.push (bytes:=24) aq ha (by omega) (by omega) λyN h2 k2 a2=>?_;simp only[Z3,seval,-ae,wrapS ag (by omega:u.length<=4611686018427387904)];refine⟨_,by omega,k+1,by omega,rfl,yN,_,rfl,k2,a2,?_⟩;have nX:=zIQ (p:=p) (W:=W) u k ag;have jq:k<(finS p W u).length:=by rw[Q6];exact ag
   rw[List.take_succ_eq_append_getElem jq];rw[List.getElem?_eq_getElem jq]at nX;rw[Option.some.inj nX];have uG:=(Z4 o (u:=u.drop (k+1)) (λv hv=>((fS hg).1 v (List.mem_of_mem_drop hv)).1) (du.led _ (List.getElem_mem ag)).1).1;exact ar.snoc ⟨true,v1,by rw[uG]⟩
  .have aJ:k=u.length:=by omega
   subst aJ;rw[List.take_of_length_le (by rw[Q6];exact vM _)]at ar;obtain⟨s,cap,rfl,hc,q2,q3,q4,q5⟩:=ha;have jQ:=hk (finS p W u) rows cap (hg.done c5) ar (by rw[Q6];exact hc);rw[Q6]at jQ;exact Gh.finS (ju.trans aq) q2 (by omega) (ar.bI _) jQ
theorem zFa{aj:L4}(hR:IsR vP vB W B)(o:OkW p n W)(hp:isP p)(hL:FII vL aj)(he:Els p n aj)(nW:aj.length<=1048576)(hk:∀v out,Canon p n W aj out->FII v out->K v U):
  zA Tryz.prog 105 [.agg [.int .i64 p,vP,vB],vL] U K:=by
 refine zA.gh (zNT hR o hp hL he nW λout rows cap hc hr bQ=>?_);exact Gh.finF (s:=U.next) (zD U _) (by rw[qa,if_pos rfl]) (vM _) (hr.bI 0) bQ.ok λo1=>hk _ out hc ⟨true,.sl o1 0 out.length cap,rows,rfl,hr⟩
variable{s:Nat}
def euc(p a:Int):Nat->Int×Int×Int×Int
 |0=>(p,a,0,1)
 |k+1=>let t:=euc p a k
  if t.2.1=0 then t else(t.2.1,t.1-t.1.tdiv t.2.1*t.2.1,t.2.2.2,t.2.2.1-t.1.tdiv t.2.1*t.2.2.2)
def eucOK(p a:Int)(k:Nat):Bool:=
 let t:=euc p a k
 decide (-7<=t.1/\t.1<=7/\-7<=t.2.1/\t.2.1<=7/\-7<=t.2.2.1/\t.2.2.1<=7/\-7<=t.2.2.2/\t.2.2.2<=7/\-7<=t.1.tdiv t.2.1/\t.1.tdiv t.2.1<=7/\-49<=t.1.tdiv t.2.1*t.2.1/\t.1.tdiv t.2.1*t.2.1<=49/\-49<=t.1.tdiv t.2.1*t.2.2.2/\t.1.tdiv t.2.1*t.2.2.2<=49/\(k=8->t.2.1=0)/\(t.2.1=0->a*(t.2.2.1 % p) % p=1 % p))
theorem zRA:∀p∈[2,3,5,7],∀a∈[1,2,3,4,5,6],(a:Int)<p->∀k∈[0,1,2,3,4,5,6,7,8],eucOK p a k=true:=by decide +kernel
theorem zR9{a:Int}(hp:isP p)(ha:0<a/\a<p){k:Nat}(hk:k<=8):eucOK p a k=true:=by
 have jb:=hp.bd;refine zRA p ?_ a ?_ ha.2 k ?_
 .rcases hp with h|h|h|h<;>simp[h]
 .have:a=1\/a=2\/a=3\/a=4\/a=5\/a=6:=by omega
  rcases this with h|h|h|h|h|h<;>simp[h]
 .have:k=0\/k=1\/k=2\/k=3\/k=4\/k=5\/k=6\/k=7\/k=8:=by omega
  rcases this with h|h|h|h|h|h|h|h|h<;>simp[h]
theorem zA9{a:Int}(hp:isP p)(ha:0<a/\a<p)(hk:∀(x:Int) (b:Bool),0<=x->x<p->a*x % p=1->K (.tup [.int .i64 x,.bool b]) U):zA Tryz.prog 203 [.int .i64 a,.int .i64 p] U K:=by
 have jb:=hp.bd;refine zB mix Tryz.func203 ?_
 conv=>arg 2;cbv
 refine zC rfl ?_;simp only[Z3,seval,-ae];refine zF (λm vs h'=>∃k:Nat,k<=8/\m=8-k/\vs=[.int .i64 p,.int .i64 (euc p a k).1,.int .i64 (euc p a k).2.1,.int .i64 (euc p a k).2.2.1,.int .i64 (euc p a k).2.2.2]/\U=h') 8 ?_ ?_
 .exact⟨0,by omega,by omega,rfl,rfl⟩
 rintro m vs h' ⟨k,x7,rfl,rfl,rfl⟩
 have la:=zR9 hp ha x7;unfold eucOK at la;have cA:euc p a (k+1)=if (euc p a k).2.1=0 then euc p a k else((euc p a k).2.1,(euc p a k).1-(euc p a k).1.tdiv (euc p a k).2.1*(euc p a k).2.1,(euc p a k).2.2.2,(euc p a k).2.2.1-(euc p a k).1.tdiv (euc p a k).2.1*(euc p a k).2.2.2):=rfl
 generalize hT:euc p a k=T at *
 obtain⟨r,nx,x,y⟩:=T;dsimp only at la cA ⊢;simp only[decide_eq_true_eq]at la;obtain⟨b1,b2,b3,b4,b5,b6,b7,b8,b9,DY,DX,DW,DU,DT,CD,CC⟩:=la;by_cases h0:nx=0
 .subst h0;simp only[Z3,seval,-ae];refine zCk (by omega) (by omega) ?_;simp only[Z3,seval,-ae];refine hk _ _ (Int.emod_nonneg _ (by omega)) (Int.emod_lt_of_pos _ (by omega)) ?_;rw[CC rfl];exact Int.emod_eq_of_lt (by omega) (by omega)
 .rw[if_neg h0]at cA;have vd:k≠8:=λe=>h0 (CD e);simp only[Z3,seval,-ae,h0,wrap64 (n:=r.tdiv nx) (by omega) (by omega),wrap64 (n:=r.tdiv nx*nx) (by omega) (by omega),wrap64 (n:=r.tdiv nx*y) (by omega) (by omega),wrap64 (n:=r-r.tdiv nx*nx) (by omega) (by omega),wrap64 (n:=x-r.tdiv nx*y) (by omega) (by omega)];refine⟨_,by omega,k+1,by omega,rfl,?_⟩;rw[cA]
theorem Qe{l:Nat}{w:Bool}{a:AV}{xs:L3}(hl:l=xs.length)(hb:xs.length<=1048576)(hk:K (.int .i64 (dep xs)) U):zA Tryz.prog 202 [.fz w a l (pis xs)] U K:=by
 subst hl;refine zB mix Tryz.func202 ?_
 conv=>arg 2;cbv
 refine zC rfl ?_;simp only[Z3,seval,-ae];refine zF (λm vs h'=>∃i:Nat,i<=dep xs/\m=dep xs-i/\vs=[.fz w a xs.length (pis xs),.fz w a xs.length (pis xs),.int .i64 xs.length,.int .i64 i]/\U=h') (dep xs) ?_ ?_
 .exact⟨0,by omega,by omega,rfl,rfl⟩
 rintro m vs h' ⟨i,hi,rfl,rfl,rfl⟩
 have gb:=QR xs;by_cases ag:i<xs.length
 .by_cases h0:xs[i]=0
  .have iP:i<dep xs:=by
    rcases Nat.lt_or_ge i (dep xs)with x|x
    .exact x
    .have:i=dep xs:=by omega
     subst this;exact absurd (by rw[at_eq ag];exact h0) (Zg ag)
   simp only[Z3,seval,-ae,ag,zL,gi ag,h0,wrapS ag (by omega:xs.length<=4611686018427387904)];exact⟨_,by omega,i+1,by omega,rfl,rfl⟩
  .have iP:i=dep xs:=by
    rcases Nat.lt_or_ge i (dep xs)with x|x
    .exact absurd (by rw[<-at_eq ag];exact qF x) h0
    .omega
   subst iP;simp only[Z3,seval,-ae,ag,zL,gi ag,h0];exact hk
 .have iP:i=dep xs:=by omega
  subst iP;simp only[Z3,seval,-ae,ag];have hd:dep xs=xs.length:=by omega
  rw[hd]at hk;exact hk
theorem zQb{x:Int}(hk:K (.bool (!decide (x=0))) U):zA Tryz.prog 284 [.int .i64 x] U K:=by
 refine zB mix Tryz.func284 ?_
 conv=>arg 2;cbv
 refine zC rfl ?_;simp only[Z3,seval,-ae];exact hk
theorem zRs:okF Tryz.prog 284=true:=by kernel_rfl
theorem zIx{l:Nat}{w:Bool}{a:AV}{xs:L3}(hl:l=xs.length)(hb:xs.length<=1048576)(hd:dep xs<xs.length)(hk:K (.int .i64 (dep xs)) U):
  zA Tryz.prog 283 [.fz w a l (pis xs),.clo 284 [] []] U K:=by
 subst hl;refine zB mix Tryz.func283 ?_
 conv=>arg 2;cbv
 refine zC rfl ?_;simp only[Z3,seval,-ae];refine zF (λm vs h'=>∃i:Nat,i<=dep xs/\m=dep xs-i/\vs=[.fz w a xs.length (pis xs),.clo 284 [] [],.int .i64 xs.length,.int .i64 i]/\U=h') (dep xs) ?_ ?_
 .exact⟨0,by omega,by omega,rfl,rfl⟩
 rintro m vs h' ⟨i,hi,rfl,rfl,rfl⟩
 have ag:i<xs.length:=by omega
 simp only[Z3,seval,-ae,ag,zL,gi ag];refine⟨zRs,zQb ?_⟩;by_cases h0:xs[i]=0
 .have iP:i<dep xs:=by
   rcases Nat.lt_or_ge i (dep xs)with x|x
   .exact x
   .have:i=dep xs:=by omega
    subst this;exact absurd (by rw[at_eq ag];exact h0) (Zg ag)
  simp only[Z3,seval,-ae,h0,ne_eq,not_true,decide_false,wrapS ag (by omega:xs.length<=4611686018427387904)];exact⟨_,by omega,i+1,by omega,rfl,rfl⟩
 .have iP:i=dep xs:=by
   rcases Nat.lt_or_ge i (dep xs)with x|x
   .exact absurd (by rw[<-at_eq ag];exact qF x) h0
   .omega
  subst iP;simp only[Z3,seval,-ae,h0,ne_eq,not_false_iff,decide_true];exact hk
abbrev deps(u:L4):L3:=u.map λv=>(dep v:Int)
theorem zDO{u:L4}(hL:FII vU u)(hu:∀v∈u,dep v<v.length/\v.length<=1048576)(c6:u.length<=1048576)(hk:∀v,K (.fz true v u.length (pis (deps u))) U):zA Tryz.prog 207 [vU] U K:=by
 obtain⟨wl,al,rl,rfl,aR⟩:=hL;refine zA.gh ?_;refine zB mix Tryz.func207 ?_
 conv=>arg 2;cbv
 refine zC rfl ?_;simp only[Z3,seval,-ae];refine zF (λm vs h'=>∃(i:Nat) (v:PV),i<=u.length/\m=u.length-i/\vs=[v,.fz wl al u.length rl,.int .i64 u.length,.int .i64 i]/\Keep U h'/\PAcc U.next 1 h' v i (pis (deps (u.take i)))) u.length ?_ ?_
 .exact⟨0,_,by omega,by omega,rfl,Keep.refl U,PAcc.nil _ _ _⟩
 rintro m vs h' ⟨i,v,hi,rfl,rfl,aq,ha⟩
 simp only[Z3,seval,-ae];refine iteI (λag=>?_) λaF=>?_
 .obtain⟨w4,a4,hr⟩:=aR.rowI ag;have cY:=hu _ (List.getElem_mem ag);simp only[Z3,seval,-ae,ag,hr];refine zIx rfl cY.2 cY.1 ?_;simp only[Z3,seval,-ae];refine PAcc.push (bytes:=8) aq ha (by omega) (by omega) λv' h2 k2 a2=>?_;simp only[Z3,seval,-ae,wrapS ag (by omega:u.length<=4611686018427387904)];refine⟨_,by omega,i+1,v',by omega,rfl,rfl,k2,?_⟩;have e:pis (deps (u.take (i+1)))=pis (deps (u.take i))++[.int .i64 (dep u[i])]:=by rw[List.take_succ_eq_append_getElem ag,deps,List.map_append,<-zFO];rfl
  rw[e];exact a2.acc
 .have aJ:i=u.length:=by omega
  subst aJ;rw[List.take_length]at ha;exact ha.fin aq (zO _ _) hk
theorem zD5(o:OkW p n W){y v:L3}(hy:El p n y)(hv:El p n v)(c:Int):ladd p W y (lmul p W c v)=norm p W (lmix 1 y c v):=by
 have hm:(lmix c v 0 v).length=n:=by rw[zM rfl];exact hv.1
 have hz:El p n (lmul p W c v):=zBN o hm;refine zFU o (by rw[zM (hy.1.trans hz.1.symm)];exact hy.1) (by rw[zM (hy.1.trans hv.1.symm)];exact hy.1) ?_;have h1:Eqv p n W (λj=>at_ y j+at_ (lmul p W c v) j) (λj=>at_ y j+at_ (lmix c v 0 v) j):=(Eqv.refl _).add (ZJ o hm);refine((Eqv.of_eq λj=>?_).trans h1).trans (Eqv.of_eq λj=>?_)
 .rw[qY (hy.1.trans hz.1.symm)];omega
 .rw[qY (hy.1.trans hv.1.symm),qY rfl];omega
theorem zHW{l:Nat}{w:Bool}{a:AV}{u:L4}{x:L3}(hs:PtrR U s p vP vB)(hP:FII vP W)(o:OkW p n W)(hL:FII vU u)(hu:∀v∈u,El p n v/\dep v<n)(c6:u.length<=1048576)(hx:El p n x)(hl:l=x.length)
  (hk:∀v,K (.fz true v n (pis (redL p W u x))) U):zA Tryz.prog 118 [.ptr s 0,vU,.fz w a l (pis x)] U K:=by
 have aW:=o.le;have hp:=o.pr;unfold okp at hp;refine zB mix Tryz.func118 ?_
 conv=>arg 2;cbv
 refine zC rfl ?_;simp only[Z3,seval,-ae];refine zA.fzN hx.1 (λK'=>QO hl (by rw[hx.1];omega)) λv0=>?_;simp only[Z3,seval,-ae];refine zDO hL (λv hv=>⟨by rw[(hu v hv).1.1];exact(hu v hv).2,by rw[(hu v hv).1.1];omega⟩) c6 λvp=>?_;obtain⟨wl,al,rl,rfl,aR⟩:=hL;simp only[Z3,seval,-ae];refine zF (λm vs h'=>∃i:Nat,i<=u.length/\m=u.length-i/\∃v,vs=[.ptr s 0,.fz wl al u.length rl,.fz true v n (pis (redL p W (u.take i) x)),.fz true vp u.length (pis (deps u)),.int .i64 u.length,.int .i64 i]/\U=h') u.length ?_ ?_
 .exact⟨0,by omega,by omega,v0,by rw[List.take_zero,redL];rfl,rfl⟩
 rintro m vs h' ⟨i,hi,rfl,v,rfl,rfl⟩
 simp only[Z3,seval,-ae];have bh:El p n (redL p W (u.take i) x):=Z4 o (λv hv=>(hu v (List.mem_of_mem_take hv)).1) hx;refine iteI (λag=>?_) λaF=>?_
 .obtain⟨w4,a4,hr⟩:=aR.rowI ag;have cY:=hu _ (List.getElem_mem ag);have dk:redL p W (u.take (i+1)) x=red1 p W (redL p W (u.take i) x) u[i]:=by rw[List.take_succ_eq_append_getElem ag,zDI]
  generalize hy:redL p W (u.take i) x=y at *
  have gb:dep u[i] < y.length:=by rw[bh.1];exact cY.2
  have mC:=bh.at o.pr (dep u[i]);rw[at_eq gb]at mC;have bN:IntKind.i64.wrap (0-y[dep u[i]])=-y[dep u[i]]:=by rw[wrap64 (by omega) (by omega)];omega
  have pI:(deps u)[i]? = some (dep u[i]:Int):=by simp[deps,ag]
  simp only[Z3,seval,-ae,ag,hr,cY.2,zL,pI,gi gb,bN];refine Zn hs hP o cY.1 rfl (by omega) λv1=>?_;simp only[Z3,seval,-ae];refine Qv hs hP o bh (zH o cY.1 cY.1) bh.1.symm (zH o cY.1 cY.1).1.symm λv2=>?_;simp only[Z3,seval,-ae,wrapS ag (by omega:u.length<=4611686018427387904)];refine⟨_,by omega,i+1,by omega,rfl,v2,?_⟩;rw[dk,red1,at_eq gb,<-zD5 o bh cY.1]
 .have aJ:i=u.length:=by omega
  subst aJ;rw[List.take_length];exact hk v
def PQ(b:Nat)(h:PHeap)(v:PV)(m:Nat)(cs:List PV):Prop:=
 (v=.fz true .nils 0 []/\m=0/\cs=[])\/∃s off cap row,v=.sl s off m cap/\full 1 cap m/\h.obj s=some row/\(row.drop off).take m=cs/\off+m<=row.length/\b<=s/\s<h.next
theorem PQ.of{b m:Nat}{h:PHeap}{v:PV}{cs:List PV}(a:PAcc b 1 h v m cs):PQ b h v m cs:=by
 rcases a with a|⟨s,cap,rfl,h1,h2,h3,h4,h5⟩
 .exact .inl a
 .exact .inr ⟨s,0,cap,cs,rfl,h1,h2,by rw[List.drop_zero,List.take_of_length_le (by omega)],by omega,h4,h5⟩
theorem PQ.set{b m t:Nat}{h:PHeap}{v:PV}{cs:List PV}(a:PQ b h v m cs)(ht:t<b)(ds:List PV):PQ b (h.set t ds) v m cs:=by
 rcases a with a|⟨s,off,cap,row,rfl,h1,h2,h3,h4,h5,h6⟩
 .exact .inl a
 .exact .inr ⟨s,off,cap,row,rfl,h1,by rw[zI,if_neg (by omega)];exact h2,h3,h4,h5,h6⟩
theorem PQ.pLen{b m:Nat}{h:PHeap}{v:PV}{cs:List PV}(a:PQ b h v m cs):pLen v=some (.int .i64 m):=by
 rcases a with ⟨rfl,rfl,_⟩|⟨s,off,cap,row,rfl,_⟩<;>rfl
theorem PQ.uncons{b m:Nat}{h:PHeap}{v c:PV}{cs:List PV}(a:PQ b h v m (c::cs)):∃s off cap v',v=.sl s off m cap/\h.rd1 s off=some c/\0<m/\QE 1 v (some (.int .i64 1)) none none=some v'/\PQ b h v' (m-1) cs:=by
 rcases a with ⟨_,_,e⟩|⟨s,off,cap,row,rfl,h1,h2,h3,h4,h5,h6⟩
 .cases e
 .have hm:0<m:=by
   rcases Nat.eq_zero_or_pos m with x|x
   .subst x;cases h3
   .exact x
  have e2:row.drop off=c::row.drop (off+1):=by
   have ag:off<row.length:=by omega
   rw[List.drop_eq_getElem_cons ag]at h3 ⊢;obtain⟨m',rfl⟩:∃m',m=m'+1:=⟨m-1,by omega⟩
   rw[List.take_succ_cons]at h3;cases h3;rfl
  have e3:(row.drop (off+1)).take (m-1)=cs:=by
   rw[e2]at h3;obtain⟨m',rfl⟩:∃m',m=m'+1:=⟨m-1,by omega⟩
   rw[List.take_succ_cons]at h3;cases h3;rfl
  have e4:row[off]? = some c:=by
   have ag:off<row.length:=by omega
   rw[List.drop_eq_getElem_cons ag]at e2;rw[List.getElem?_eq_getElem ag];cases e2;rfl
  have hz:(1:Int)<=(m:Int):=by omega
  rcases h1 with rfl|rfl
  .refine⟨s,off,_,.sl s (off+1) (m-1) (.grown 1),rfl,by rw[zG h2];exact e4,hm,?_,.inr ⟨s,off+1,_,row,rfl,.inl rfl,h2,e3,by omega,h5,h6⟩⟩;simp only[Z3,seval,-ae,hm,hz]
  .by_cases om:m=1
   .subst om;refine⟨s,off,_,.sl s off 0 (.known 0),rfl,by rw[zG h2];exact e4,hm,?_,.inr ⟨s,off,_,row,rfl,.inr rfl,h2,by simpa using e3,by omega,h5,h6⟩⟩;rfl
   .refine⟨s,off,_,.sl s (off+1) (m-1) (.known (m-1)),rfl,by rw[zG h2];exact e4,hm,?_,.inr ⟨s,off+1,_,row,rfl,.inr rfl,h2,e3,by omega,h5,h6⟩⟩;simp only[Z3,seval,-ae,hm,hz,om];rfl
theorem PQ.push{σb h:PHeap}{bytes m:Nat}{v x:PV}{cs:List PV}{K:PV×PHeap->Prop}(hk:Keep σb h)(a:PQ σb.next h v m cs)
  (h1:(m+1)*bytes<=140737488355328) (h2:m+1<=4611686018427387904) (k:∀v' h',Keep σb h'->PQ σb.next h' v' (m+1) (cs++[x])->K (v',h')):optK (Zb 1 bytes (h.new [x]) v (.sl h.next 0 1 (.known 1))) K:=by
 rcases a with ⟨rfl,rfl,rfl⟩|⟨s,off,cap,row,rfl,q1,q2,q3,q4,q5,q6⟩
 .exact PAcc.push hk (PAcc.nil _ _ _) h1 h2 λv' h' k1 k2=>k v' h' k1 (.of k2.acc)
 .rw[zAL];have hp:QF 1 (h.new [x]) (.sl h.next 0 1 (.known 1)) 1=some [x]:=by simp[Qs,zAd]
  have cX:(h.new [x]).obj s=some row:=by simp only[PHeap.new];rw[if_neg (by omega)];exact q2
  have hn:=hk.next;simp only[plen,Option.bind_some];rw[if_neg (by omega),hp];simp only[Option.bind_some];have hl:cs.length=m:=by rw[<-q3,List.length_take,List.length_drop];omega
  rcases q1 with rfl|rfl
  .rw[zAm,if_pos ⟨h1,h2,rfl⟩,cX];simp only[Option.bind_some];rw[if_pos (by omega),Nat.mul_one,q3];refine Zq rfl (k _ _ (((hk.new _).kill (by omega)).new _) (.inr ⟨(h.new [x]).next,0,_,cs++[x],rfl,.inl rfl,by simp[PHeap.new,PHeap.kill],?_,by simp[hl],by simp[PHeap.new];omega,by simp[PHeap.new,PHeap.kill]⟩));rw[List.drop_zero,List.take_of_length_le (by simp[hl])]
  .rw[zAl,if_neg (by omega),if_pos ⟨h1,h2⟩,ZN cX,if_pos (by omega),Nat.mul_one,q3];simp only[Option.map_some];refine Zq rfl (k _ _ ((hk.new _).new _) (.inr ⟨(h.new [x]).next,0,_,cs++[x],rfl,.inl rfl,by simp[PHeap.new],?_,by simp[hl],by simp[PHeap.new];omega,by simp[PHeap.new]⟩));rw[List.drop_zero,List.take_of_length_le (by simp[hl])]
theorem zN5{w:Bool}{a:AV}{m:Nat}{rows:List PV}(hl:rows.length=m)(hb:Bels 0 rows)(hm:m<=1048576)(df:rows=[]->K (.fz true .nils 0 []) U)(e7:∀cap,full 1 cap m->K (.sl U.next 0 m cap) (U.new rows)):
  zA Tryz.prog 201 [.fz w a m rows] U K:=by
 refine zA.nil0 λgZ=>zA.gh ?_;refine zB mix Tryz.func201 ?_
 conv=>arg 2;cbv
 refine zC rfl ?_;simp only[Z3,seval,-ae];cases hn:Zv a
 .simp only[Z3,seval,-ae];refine PSl.cat (bytes:=24) (σb:=U) (n:=0) (cs:=[]) (zD U _) (PSl.new _ 1 rfl (vM _)) hl (by omega) (by omega) λv' h' cL ha=>?_;simp only[Z3,seval,-ae]at ha ⊢;exact ha.out cL (hb.up (Nat.zero_le _)) e7
 .simp only[Z3,seval,-ae];exact Gh.ret (df (gZ hn).2)
theorem zE7{w:Bool}{a:AV}{m:Nat}{rows:List PV}(hl:rows.length=m)(hb:Bels 0 rows)(hm:m<=1048576)(hk:∀v h',Keep U h'->PQ U.next h' v m rows->K v h'):
  zA Tryz.prog 201 [.fz w a m rows] U K:=
 zN5 hl hb hm (λh0=>hk _ _ (Keep.refl _) (.inl ⟨rfl,by rw[<-hl,h0];rfl,h0⟩)) λcap hc=>hk _ _ (zD _ _) (.of (.inr (PSl.own hc (by simp[PHeap.new]) (by omega) (vM _) (by simp[PHeap.new]))))
theorem zEF{l:Nat}{w:Bool}{av:AV}{k:Int}{a:L3}(hs:PtrR U s p vP vB)(hP:FII vP W)(o:OkW p n W)(ha:El p n a)(hl:l=a.length)(jR:-1000000000<=k/\k<=1000000000)(hn:0<n)
  (hk:∀o cap,K (.fz true (.sl o 0 n cap) n (pis (lmul p W k a))) U):zA Tryz.prog 191 [.ptr s 0,.int .i64 k,.fz w av l (pis a)] U K:=by
 have hlen:=(zH o ha ha (k:=k) (m:=0)).1;refine zA.gh (zCB hs hP o ha hl jR ⟨λh0=>?_,λcap hc=>?_⟩)
 .exact absurd hlen (by rw[h0];simp;omega)
 .rw[hlen]at hc ⊢;exact Gh.finF (zD U _) (by simp[PHeap.new]) (vM _) (zO _ _) hc.ok λo=>hk o cap
theorem PtrR.keep{h:PHeap}(hs:PtrR U s p vP vB)(hk:Keep U h):PtrR h s p vP vB:=⟨by rw[hk.obj s hs.lt];exact hs.obj,Nat.lt_of_lt_of_le hs.lt hk.next⟩
def BRow(n:Nat)(u:L4)(d:Nat)(v:PV):Prop:=
 (v=.fz true .nils 0 []/\∀y∈u,dep y≠d)\/∃o cap y,v=.fz true (.sl o 0 n cap) n (pis y)/\y∈u/\dep y=d
def BRows(n:Nat)(u:L4)(rb:List PV):Prop:=rb.length=n/\∀d (h:d<rb.length),BRow n u d rb[d]
theorem BRows.take{u:L4}{rb:List PV}{o d:Nat}{cap:Cap}{y:L3}(h:BRows n u rb)(hd:d<n)(hy:dep y=d):BRows n (insD u y) (rb.set d (.fz true (.sl o 0 n cap) n (pis y))):=by
 refine⟨by rw[List.length_set];exact h.1,λe he=>?_⟩;rw[List.length_set]at he;rw[List.getElem_set];by_cases x:d=e
 .subst x;rw[if_pos rfl];exact .inr ⟨o,cap,y,rfl,Zt.2 (.inl rfl),hy⟩
 .rw[if_neg x];rcases h.2 e he with ⟨h1,h2⟩|⟨o',c',y',h1,h2,h3⟩
  .exact .inl ⟨h1,λv hv=>by
    rcases Zt.1 hv with rfl|hv
    .omega
    .exact h2 v hv⟩
  .exact .inr ⟨o',c',y',h1,Zt.2 (.inr h2),h3⟩
theorem Fp_le{u:L4}{k:Nat}(ha:Asc u):(∃y∈u,dep y=k)->∃y∈u,dep y=k/\Fp u k=y::Fp u (k+1):=by
 induction u with
 |nil=>rintro⟨y,hy,_⟩;cases hy
 |cons v t ih=>
  have ht:∀w∈t,dep v<dep w:=λw hw=>List.rel_of_pairwise_cons ha hw;have uy:Asc t:=(List.pairwise_cons.1 ha).2
  rintro⟨y,hy,rfl⟩
  rcases List.mem_cons.1 hy with rfl|hy
  .refine⟨y,by simp,rfl,?_⟩;have e1:Fp t (dep y)=t:=zCb λw hw=>Nat.le_of_lt (ht w hw);have e2:Fp t (dep y+1)=t:=zCb λw hw=>ht w hw;rw[Fp,List.filter_cons,if_pos (by simp)];rw[show(List.filter (λv=>decide (dep y<=dep v)) t)=t from e1];rw[Fp,List.filter_cons,if_neg (by simp)];rw[show(List.filter (λv=>decide (dep y+1<=dep v)) t)=t from e2]
  .obtain⟨y',h1,h2,h3⟩:=ih uy ⟨y,hy,rfl⟩
   have:=ht y hy
   refine⟨y',List.mem_cons_of_mem _ h1,h2,?_⟩;rw[Fp,List.filter_cons,if_neg (by simp;omega)];rw[Fp,List.filter_cons,if_neg (by simp;omega)];exact h3
theorem zGb{u:L4}{k:Nat}(h:∀y∈u,dep y≠k):Fp u k=Fp u (k+1):=List.filter_congr λv hv=>by
 have:=h v hv
 simp only[decide_eq_decide];omega
theorem zKl:∀{u:L4} {k:Nat},Base p n W u->Base p n W (Fp u k)
 |[],k,h=>h
 |v::t,k,h=>by
  by_cases x:k<=dep v
  .have e:Fp (v::t) k=v::t:=zCb λw hw=>by
    rcases List.mem_cons.1 hw with rfl|hw
    .exact x
    .have:=List.rel_of_pairwise_cons h.asc hw
     omega
   rw[e];exact h
  .rw[Fp,List.filter_cons,if_neg (by simpa using x)];cases h with
   |cons _ _ _ h4=>exact zKl (by assumption)
theorem _root_.Go.Lie.Base.fp'{u:L4}{k:Nat}(h:Base p n W u):Base p n W (Fp u k):=zKl h
theorem zLU{aj:L4}(hs:PtrR U s p vP vB)(hP:FII vP W)(o:OkW p n W)(hp:isP p)(hL:FII vL aj)(he:Els p n aj)(nW:aj.length<=1048576)(hk:∀v out,Canon p n W aj out->FII v out->K v U):
  zA Tryz.prog 109 [.ptr s 0,vL] U K:=by
 have aW:=o.le;have jb:=hp.bd;have mU:-1000000000<=p/\p<=1000000000:=by omega
 have lH:=o.len;obtain⟨wl,al,rl,rfl,aR⟩:=hL;have ki:=hP;obtain⟨wp,ap,rp,rfl,lR⟩:=hP;have gF:=hs.lt;have rT:U.rd1 s 1=some (.fz wp ap W.length rp):=by rw[zG hs.obj];rfl
 refine zA.gh ?_;refine zP mix Tryz.func109 cf109 rfl ?_;dsimp only[if109,qI,eI,qD,eD,mI0,lI0,fI0,xI0,bI0,cI0,sI0,pI0,C1,C3,mD0,lD0,fD0,xD0,pD0,I0,G0,gm0,aI0,zI0,yI0,vI0,R0,S0];simp only[Z3,seval,-ae,rT,lH,mk24 (n:=n) (by omega),mkL (n:=n) (by omega)];have fS:∀{u Q:L4},Grow p n W aj u Q->(∀v∈u,El p n v/\dep v<n)/\u.length<=n:=λg=>⟨λv hv=>⟨(g.led v hv).1,(g.led v hv).2.1⟩,QK (λv hv=>(g.led v hv).2.1) g.asc⟩
 refine zE7 aR.1 (aR.bI 0) nW λvQ h1 k1 q1=>?_;simp only[Z3,seval,-ae];refine zF (λm vs h'=>∃u Q vQ rb rq,m=2*(n-u.length)+Q.length/\vs=[.ptr s 0,.sl U.next 0 n (.known n),vQ]/\Keep (U.new rb) h'/\PQ (U.next+1) h' vQ Q.length rq/\All2 FI rq Q/\Grow p n W aj u Q/\BRows n u rb/\Q.length<=aj.length) (2*n+aj.length) ?_ ?_
 .refine⟨[],aj,vQ,_,rl,rfl,rfl,k1,q1,aR,Grow.start he,⟨by simp,λd hd=>.inl ⟨by simp,λy hy=>by cases hy⟩⟩,vM _⟩
 rintro m vs h' ⟨u,Q,vQ,rb,rq,rfl,rfl,aq,hq,fW,hg,hb,BX⟩
 have df:Keep U h':=aq.of;have bZ:=hs.keep df;have gr:h'.rd1 s 0=some (.int .i64 p):=by rw[zG bZ.obj];rfl
 have cX:h'.obj U.next=some rb:=by rw[aq.obj _ (by simp[PHeap.new])];simp[PHeap.new]
 cases Q with
 |nil=>
  have hlen:pLen vQ=some (.int .i64 0):=hq.pLen;have hw:IntKind.i64.wrap ((n:Int)-1)=(n:Int)-1:=wrap64 (by omega) (by omega);have du:=hg.base;have th:Fp u n=[]:=List.filter_eq_nil_iff.2 λv hv=>by have:=((fS hg).1 v hv).2;simp;omega
  simp only[Z3,seval,-ae,hlen,hw];refine zAY (λm vs h2=>∃(k:Nat) (vO:PV),k<=n/\m=k/\vs=[.ptr s 0,.sl U.next 0 n (.known n),vO,.int .i64 ((k:Int)-1)]/\Keep (U.new rb) h2/\FII vO (finI p W (Fp u k))) n (.here ⟨n,_,vM _,rfl,rfl,aq,by rw[th];exact⟨_,_,_,rfl,All2.nil _⟩⟩) ?_
  rintro m vs h2 ⟨k,vO,cw,rfl,rfl,cf,hO⟩
  have jc:Keep U h2:=cf.of;have gn:=hs.keep jc;have jJ:h2.obj U.next=some rb:=by rw[cf.obj _ (by simp[PHeap.new])];simp[PHeap.new]
  rcases Nat.eq_zero_or_pos m with rfl|lY
  .simp only[Z3,seval,-ae,show ¬((0:Int)<=((0:Nat):Int)-1) by omega];have wT:Fp u 0=u:=zCb λv hv=>Nat.zero_le _;rw[wT]at hO;exact Gh.fin0 jc (hO.bel _) (hk vO _ (hg.done (zCX o du).1) hO)
  .obtain⟨k,rfl⟩:∃k,m=k+1:=⟨m-1,by omega⟩
   have e:((k+1:Nat):Int)-1=(k:Int):=by omega
   have cH:k<n:=cw;have dE:k<rb.length:=by rw[hb.1];exact cH
   have bg:=zG jJ k;rw[List.getElem?_eq_getElem dE]at bg;have iA:=du.fp' (k:=k+1);rw[e];have gl:IntKind.i64.wrap ((k:Int)-1)=(k:Int)-1:=wrap64 (by omega) (by omega);rcases hb.2 k dE with ⟨e1,e2⟩|⟨oo,cap,y,e1,e2,e3⟩
   .rw[e1]at bg;simp only[Z3,seval,-ae,cH,bg,gl];refine⟨_,Nat.lt_succ_self k,.here ⟨k,vO,by omega,rfl,rfl,cf,?_⟩⟩;rw[zGb e2];exact hO
   .rw[e1]at bg;obtain⟨y',y1,y2,y3⟩:=Fp_le hg.asc ⟨y,e2,e3⟩;obtain rfl:y'=y:=by
     rcases zAM hg.asc y1 e2 with x|x|x
     .exact x
     .omega
     .omega
    simp only[Z3,seval,-ae,cH,bg,gl];have hF:=(zCX o iA).1;have rX:(finI p W (Fp u (k+1))).length<=n:=QK (λv hv=>(hF.base.led v hv).2.1) hF.base.asc;have hy:=((fS hg).1 y' e2).1;refine zHW gn ki o hO (λv hv=>⟨(hF.base.led v hv).1,(hF.base.led v hv).2.1⟩) (by omega) hy hy.1.symm λv1=>?_;have aR:=(Z4 o (u:=finI p W (Fp u (k+1))) (λv hv=>(hF.base.led v hv).1) hy).1;have mi:finI p W (Fp u k)=redL p W (finI p W (Fp u (k+1))) y'::finI p W (Fp u (k+1)):=by rw[y3];rfl
    generalize finI p W (Fp u (k+1))=L at *
    generalize redL p W L y'=z at *
    obtain⟨wO,aO,rO,rfl,pC⟩:=hO;simp only[Z3,seval,-ae];refine PSl.cat (bytes:=24) (σb:=h2) (n:=1) (cs:=[.fz true v1 n (pis z)]) (zD h2 _) (PSl.new _ 1 rfl (vM _)) pC.1 (by omega) (by omega) λv3 h3 k3 a3=>?_;obtain⟨s3,iF,rfl,lD,pN,pY,jU,be⟩:=a3;have ah:All2 FI ([.fz true v1 n (pis z)]++rO) (z::L):=(All2.nil FI |>.snoc (⟨true,v1,by rw[aR]⟩:FI (.fz true v1 n (pis z)) z)).append pC;have ai:U.next≠s3:=by
     have:=cf.next
     simp only[PHeap.new]at this;omega
    simp only[Z3,seval,-ae,gl];refine⟨k,Nat.lt_succ_self k,.fz s3 _ pN (ah.bI 0) λo1=>.here ⟨k,.fz true (.sl o1 0 (1+L.length) iF) (1+L.length) ([.fz true v1 n (pis z)]++rO),by omega,rfl,?_,(cf.trans k3).kill (by have:=cf.next;simp only[PHeap.new]at this ⊢;omega),by rw[mi];exact⟨true,_,_,by rw[List.length_cons,Nat.add_comm],ah⟩⟩⟩;simp only[Z3,seval,-ae];simp only[sbs,sb,ai,lD.ok,false_and,and_self,if_true,if_false]
 |cons x Q=>
  have hlen:=hq.pLen;obtain⟨c,dx,rfl,hc,fj⟩:∃c dx,rq=c::dx/\FI c x/\All2 FI dx Q:=by
   cases rq with
   |nil=>exact absurd fW.1 (by simp)
   |cons c dx=>exact⟨c,dx,rfl,fW.2 0 c x rfl rfl,⟨by simpa using fW.1,λk a b ha hb=>fW.2 (k+1) a b (by simpa using ha) (by simpa using hb)⟩⟩
  obtain⟨sq,off,cap,kM,rfl,bg,aD,gV,cJ⟩:=hq.uncons;obtain⟨w4,a4,rfl⟩:=hc;generalize dE:(x::Q).length=k at *
  have rQ:Q.length=k-1:=by rw[<-dE];simp
  have fO:(0:Int)<(k:Int):=by omega
  have hx:=hg.els x (by simp);simp only[Z3,seval,-ae,hlen,fO,aD,bg,gV];refine Qe rfl (by rw[hx.1];omega) ?_;simp only[Z3,seval,-ae];refine zF (λm vs h2=>∃x wX vX,m=n-dep x/\vs=[.ptr s 0,.sl U.next 0 n (.known n),kM,.fz wX vX n (pis x),.int .i64 (dep x)]/\h'=h2/\Grow p n W aj u (x::Q)) (n-dep x) ?_ ?_
  .exact⟨x,_,_,rfl,by rw[hx.1];rfl,rfl,hg⟩
  clear hg hx hlen dE
  rintro m vs h2 ⟨x,wX,vX,rfl,rfl,rfl,hg⟩
  have hx:=hg.els x (by simp);have aV:=hx.1;have nj:=QR x;by_cases hd:dep x<n
  .have c8:dep x<x.length:=by omega
   have oU:=hx.at0 o (dep x);have ai:=Zg c8;rw[at_eq c8]at oU ai;have iu:dep x<rb.length:=by rw[hb.1];exact hd
   have dD:=zG cX (dep x);rw[List.getElem?_eq_getElem iu]at dD;rcases hb.2 _ iu with ⟨e1,e2⟩|⟨oo,gP,y,e1,e2,e3⟩
   .rw[e1]at dD;have dh:((dep x:Int)=(n:Int))=False:=by simp;omega
    simp only[Z3,seval,-ae,hd,dD,dh,gr,zL,gi c8];refine zA9 hp (by omega) λq qb pF nP jk=>?_;simp only[Z3,seval,-ae,hd,dD,gr,zL,gi c8];refine zEF bZ ki o hx aV.symm (by omega) (by omega) λoz aU=>?_;have hT:Grow p n W aj (insD u (lmul p W q x)) (lmul p W p (lmul p W q x)::Q):=hg.take o hd e2 (k:=q) (by rw[at_eq c8];exact jk);obtain⟨y1,y2⟩:Led p n (lmul p W q x)/\dep (lmul p W q x)=dep x:=⟨(zAB o hx hd (k:=q) (by rw[at_eq c8];exact jk)).1,(zAB o hx hd (k:=q) (by rw[at_eq c8];exact jk)).2.1⟩
    have dw:=hb.take (o:=oz) (cap:=aU) hd y2;generalize lmul p W q x=y at *
    have hy:=y1.1;have iW:h'.wr U.next (dep x) [.fz true (.sl oz 0 n aU) n (pis y)]=some (h'.set U.next (rb.set (dep x) (.fz true (.sl oz 0 n aU) n (pis y)))):=by
     rw[Z9 cX,if_pos ⟨by rw[List.length_singleton];omega,rfl⟩];rw[List.append_assoc,List.singleton_append,List.length_singleton,take_set _ iu]
    have nT:Keep (U.new (rb.set (dep x) (.fz true (.sl oz 0 n aU) n (pis y)))) (h'.set U.next (rb.set (dep x) (.fz true (.sl oz 0 n aU) n (pis y)))):=aq.setN _;have mS:=cJ.set (Nat.lt_succ_self _) (rb.set (dep x) (.fz true (.sl oz 0 n aU) n (pis y)));have dC:(h'.set U.next (rb.set (dep x) (.fz true (.sl oz 0 n aU) n (pis y)))).rd1 U.next (dep x)=some (.fz true (.sl oz 0 n aU) n (pis y)):=by
     rw[zG (by rw[zI,if_pos rfl]),List.getElem?_set_self iu]
    have po:=bZ.set (by omega) (rb.set (dep x) (.fz true (.sl oz 0 n aU) n (pis y))) (t:=U.next);have lV:(h'.set U.next (rb.set (dep x) (.fz true (.sl oz 0 n aU) n (pis y)))).rd1 s 0=some (.int .i64 p):=by rw[zG po.obj];rfl
    have dA:(rb.set (dep x) (.fz true (.sl oz 0 n aU) n (pis y)))[dep x]? = some (.fz true (.sl oz 0 n aU) n (pis y)):=List.getElem?_set_self iu;simp only[Z3,seval,-ae,hd,iW,Nat.ne_of_lt gF,gr,dA];generalize h'.set U.next (rb.set (dep x) (.fz true (.sl oz 0 n aU) n (pis y)))=h3 at *
    generalize rb.set (dep x) (.fz true (.sl oz 0 n aU) n (pis y))=rb' at *
    refine Zn po ki o hy hy.1.symm (by omega) λv2=>?_;have hz:El p n (lmul p W p y):=(QD o hy p).1;generalize lmul p W p y=z at *
    simp only[Z3,seval,-ae];refine PQ.push (bytes:=24) (σb:=U.new rb') nT mS (by omega) (by omega) λv4 h4 k4 q4=>?_;simp only[Z3,seval,-ae];have c6:=(fS hT).2;rw[Zz]at c6;refine⟨_,?_,insD u y,Q++[z],v4,rb',dx++[.fz true v2 n (pis z)],rfl,rfl,k4,?_,fj.append (All2.nil FI |>.snoc ⟨true,v2,by rw[hz.1]⟩),hT.perm λv=>by simp[or_comm],dw,by rw[List.length_append,List.length_singleton];omega⟩
    .rw[Zz,List.length_append,List.length_singleton];omega
    .rw[List.length_append,List.length_singleton,rQ];exact q4
   .rw[e1]at dD;have hy:=((fS hg).1 y e2).1;have bN:IntKind.i64.wrap (0-x[dep x])=-x[dep x]:=by rw[wrap64 (by omega) (by omega)];omega
    simp only[Z3,seval,-ae,hd,dD,zL,gi c8,bN];refine Zn bZ ki o hy hy.1.symm (by omega) λv1=>?_;simp only[Z3,seval,-ae];refine Qv bZ ki o hx (zH o hy hy) aV.symm (zH o hy hy).1.symm λv2=>?_;obtain⟨g2,g3⟩:=hg.reduce1 o e2 e3;have nN:ladd p W x (lmul p W (-x[dep x]) y)=red1 p W x y:=by rw[zD5 o hx hy,red1,e3,at_eq c8]
    have hz:=g2.els _ (List.mem_cons_self ..);rw[nN];simp only[Z3,seval,-ae];refine Qe hz.1.symm (by rw[hz.1];omega) ?_;simp only[Z3,seval,-ae];exact⟨_,by omega,_,_,_,rfl,rfl,g2⟩
  .have dh:dep x=n:=by omega
   simp only[Z3,seval,-ae,dh,Nat.lt_irrefl];refine⟨_,?_,u,Q,kM,rb,dx,rfl,rfl,aq,by rw[rQ];exact cJ,fj,hg.drop λj=>?_,hb,by omega⟩
   .omega
   .rcases Nat.lt_or_ge j n with h|h
    .exact qF (by omega)
    .exact hx.beyond h
variable{vV:PV}
def units(n:Nat):L4:=(List.range n).map (unitL n)
theorem Zd:(units n).length=n:=by simp[units]
theorem zMD{i:Nat}(h:i<n):(units n)[i]? = some (unitL n i):=by simp[units,h]
theorem zDB(hp:okp p):Els p n (units n):=λv hv=>by
 obtain⟨i,hi,rfl⟩:=List.mem_map.1 hv;exact zU hp (List.mem_range.1 hi)
theorem zFB{i:Nat}(h:i<n):(units n).take (i+1)=(units n).take i++[unitL n i]:=by
 have hl:i<(units n).length:=by rw[Zd];exact h
 have e:=zMD h;rw[List.getElem?_eq_getElem hl]at e;rw[List.take_succ_eq_append_getElem hl,Option.some.inj e]
def brL(p:Int)(W:L4)(B:L5)(n:Nat)(u v:L4):L4:=u.flatMap λx=>v.map λy=>br p W B n x y
theorem zBI(u v:L4):(brL p W B n u v).length=u.length*v.length:=by
 induction u with
 |nil=>simp[brL]
 |cons x u ih=>
  have:(brL p W B n (x::u) v)=v.map (λy=>br p W B n x y)++brL p W B n u v:=rfl
  rw[this,List.length_append,List.length_map,ih,List.length_cons,Nat.add_mul,Nat.one_mul,Nat.add_comm]
theorem zIm(u v:L4)(x:L3):brL p W B n (u++[x]) v=brL p W B n u v++v.map λy=>br p W B n x y:=by
 simp[brL,List.flatMap_append]
theorem zD4(o:OkW p n W)(q:OkB p n B)(u v:L4):Els p n (brL p W B n u v):=λz hz=>by
 obtain⟨x,hx,h⟩:=List.mem_flatMap.1 hz;obtain⟨y,hy,rfl⟩:=List.mem_map.1 h;exact br_el o q
theorem zED(hs:PtrR U s p vP vB)(hP:FII vP W)(lH:W.length=n)(hn:n<=1048576)(hk:∀v,FII v (units n)->K v U):zA Tryz.prog 141 [.ptr s 0] U K:=by
 obtain⟨wp,ap,rp,rfl,lR⟩:=hP;have rT:U.rd1 s 1=some (.fz wp ap W.length rp):=by rw[zG hs.obj];rfl
 refine zA.gh ?_;refine zB mix Tryz.func141 ?_
 conv=>arg 2;cbv
 refine zC rfl ?_;simp only[Z3,seval,-ae,rT,lH];refine zF (λm vs h'=>∃(i:Nat) (v:PV) (rows:List PV),i<=n/\m=n-i/\vs=[.ptr s 0,v,.int .i64 n,.int .i64 i]/\Keep U h'/\PAcc U.next 1 h' v i rows/\All2 FI rows ((units n).take i)) n ?_ ?_
 .exact⟨0,_,[],by omega,by omega,rfl,Keep.refl U,PAcc.nil _ _ _,by rw[List.take_zero];exact All2.nil _⟩
 rintro m vs h' ⟨i,v,rows,hi,rfl,rfl,aq,ha,ar⟩
 simp only[Z3,seval,-ae];have bZ:=hs.keep aq;have B3:h'.rd1 s 1=some (.fz wp ap W.length rp):=by rw[zG bZ.obj];rfl
 refine iteI (λag=>?_) λaF=>?_
 .simp only[Z3,seval,-ae,B3,lH];refine qm hn ag λa1=>?_;simp only[Z3,seval,-ae];refine PAcc.push (bytes:=24) aq ha (by omega) (by omega) λv' h2 k2 a2=>?_;simp only[Z3,seval,-ae,wrapS ag (by omega:n<=4611686018427387904)];refine⟨_,by omega,i+1,v',_,by omega,rfl,rfl,k2,a2.acc,?_⟩;rw[zFB ag];exact ar.snoc ⟨true,a1,by rw[ZM]⟩
 .have aJ:i=n:=by omega
  subst aJ;rw[List.take_of_length_le (by rw[Zd];exact vM _)]at ar;exact ha.fin aq (ar.bI 0) λa=>hk _ ⟨true,a,rows,by rw[Zd],ar⟩
theorem zIl{u v:L4}(hs:PtrR U s p vP vB)(hR:IsR vP vB W B)(o:OkW p n W)(q:OkB p n B)(hU:FII vU u)(hV:FII vV v)(eu:Els p n u)(ev:Els p n v)(c6:u.length<=6)(gA:v.length<=12)
  (hk:∀z,FII z (brL p W B n u v)->K z U):zA Tryz.prog 188 [.ptr s 0,vU,vV] U K:=by
 obtain⟨wu,au,ru,rfl,fG⟩:=hU;obtain⟨wv,av,rv,rfl,iY⟩:=hV;have bnd:∀(i j:Nat),i<u.length->j<=v.length->(brL p W B n (u.take i) v++(v.take j).map λy=>br p W B n (u.getD i []) y).length<=84:=λi j hi hj=>by
  rw[List.length_append,zBI,List.length_map,List.length_take,List.length_take]
  have:min i u.length*v.length<=6*12:=Nat.mul_le_mul (by omega) gA
  omega
 refine zA.gh ?_;refine zB mix Tryz.func188 ?_
 conv=>arg 2;cbv
 refine zC rfl ?_;simp only[Z3,seval,-ae];refine zF (λm vs h'=>∃(i:Nat) (z:PV) (rows:List PV),i<=u.length/\m=u.length-i/\vs=[.ptr s 0,.fz wv av v.length rv,z,.fz wu au u.length ru,.int .i64 u.length,.int .i64 i]/\Keep U h'/\PAcc U.next 1 h' z (brL p W B n (u.take i) v).length rows/\All2 FI rows (brL p W B n (u.take i) v)) u.length ?_ ?_
 .exact⟨0,_,[],by omega,by omega,rfl,Keep.refl U,PAcc.nil _ _ _,by rw[List.take_zero];exact All2.nil _⟩
 rintro m vs h' ⟨i,z,rows,hi,rfl,rfl,aq,ha,ar⟩
 simp only[Z3,seval,-ae];refine iteI (λag=>?_) λaF=>?_
 .obtain⟨w4,a4,hr⟩:=fG.rowI ag;have cY:=eu _ (List.getElem_mem ag);have fK:u.getD i []=u[i]:=by simp[List.getD_eq_getElem?_getD,ag]
  simp only[Z3,seval,-ae,ag,hr];refine zF (λm vs h'=>∃(j:Nat) (z:PV) (rows:List PV),j<=v.length/\m=v.length-j/\vs=[.ptr s 0,.fz wv av v.length rv,z,.fz w4 a4 u[i].length (pis u[i]),.fz wu au u.length ru,.int .i64 u.length,.int .i64 i,.fz wv av v.length rv,.int .i64 v.length,.int .i64 j]/\Keep U h'/\
   PAcc U.next 1 h' z (brL p W B n (u.take i) v++(v.take j).map λy=>br p W B n (u.getD i []) y).length rows/\All2 FI rows (brL p W B n (u.take i) v++(v.take j).map λy=>br p W B n (u.getD i []) y)) v.length ?_ ?_
  .exact⟨0,z,rows,by omega,by omega,rfl,aq,by simpa using ha,by simpa using ar⟩
  clear aq ha ar z rows
  rintro m vs h' ⟨j,z,rows,hj,rfl,rfl,aq,ha,ar⟩
  simp only[Z3,seval,-ae];refine iteI (λjN=>?_) λBf=>?_
  .obtain⟨w5,a5,pD⟩:=iY.rowI jN;have uo:=ev _ (List.getElem_mem jN);simp only[Z3,seval,-ae,jN,pD];refine Za (hs.keep aq) hR o q cY uo rfl rfl λa6=>?_;have hb:=bnd i j ag hj;simp only[Z3,seval,-ae];refine PAcc.push (bytes:=24) aq ha (by omega) (by omega) λv' h2 k2 a2=>?_;simp only[Z3,seval,-ae,wrapS jN (by omega:v.length<=4611686018427387904)];have e:(brL p W B n (u.take i) v++(v.take (j+1)).map λy=>br p W B n (u.getD i []) y)=(brL p W B n (u.take i) v++(v.take j).map λy=>br p W B n (u.getD i []) y)++[br p W B n u[i] v[j]]:=by
    rw[List.take_succ_eq_append_getElem jN,List.map_append,List.append_assoc,fK];rfl
   refine⟨_,by omega,j+1,v',rows++[.fz true a6 n (pis (br p W B n u[i] v[j]))],by omega,rfl,rfl,k2,?_,?_⟩
   .rw[e,List.length_append];exact a2.acc
   .rw[e];exact ar.snoc ⟨true,a6,by rw[(br_el o q).1]⟩
  .have jr:j=v.length:=by omega
   subst jr;have e:(brL p W B n (u.take i) v++(v.take v.length).map λy=>br p W B n (u.getD i []) y)=brL p W B n (u.take (i+1)) v:=by
    rw[List.take_length,List.take_succ_eq_append_getElem ag,zIm,fK]
   rw[e]at ha ar;simp only[Z3,seval,-ae,wrapS ag (by omega:u.length<=4611686018427387904)];exact⟨_,by omega,i+1,z,rows,by omega,rfl,rfl,aq,ha,ar⟩
 .have aJ:i=u.length:=by omega
  subst aJ;rw[List.take_length]at ha ar;exact ha.fin aq (ar.bI 0) λa=>hk _ ⟨true,a,rows,rfl,ar⟩
theorem zKD{u v:L4}(hs:PtrR U s p vP vB)(hR:IsR vP vB W B)(o:OkW p n W)(q:OkB p n B)(hU:FII vU u)(hV:FII vV v)(eu:Els p n u)(ev:Els p n v)(c6:u.length<=6)(gA:v.length<=6)
  (hk:∀z,FII z (brL p W B n u v)->K z U):zA Tryz.prog 188 [.ptr s 0,vU,vV] U K:=zIl hs hR o q hU hV eu ev c6 (by omega) hk
end Go.Proofs
