/- Collection: the step. -/
import Derived.Test.YtgkbfiilhocioaaGreatCP27
open Int renaming reduceNatCast'→iQ0
set_option maxRecDepth 100000
set_option linter.unusedSimpArgs false
set_option linter.unusedVariables false
namespace Go.Proofs
open Go.Ab Go.Lie
variable {σ:PHeap} {K:PV→PHeap→Prop} {p:Int} {n:Nat} {W:List (List Int)} {B:List (List (List Int))} {vP vB:PV} {s:Nat}
structure SzR (W:List (List Int)) (B:List (List (List Int))):Prop where
 Wl:W.length≤1048576
 w:∀r∈W,r.length≤1048576
 Bl:B.length≤1048576
 b:∀q∈B,q.length≤1048576
 c:∀q∈B,∀r∈q,r.length≤1048576
def entOK (p:Int) (n k:Nat) (v:List Int):Prop:=isVec v p n∧isZ (v.take k)
def rowOK (p:Int) (n:Nat) (W:List (List Int)) (B:List (List (List Int))) (i:Nat):Prop:=
 entOK p n (i+1) (W.getD i [])∧(B.getD i []).length=n-1-i∧∀k,k<n-1-i→entOK p n (i+k+2) ((B.getD i []).getD k [])
def ZN (p:Int) (W:List (List Int)) (B:List (List (List Int))):Prop:=
 isP p∧W.length≤6∧B.length=W.length∧ipow p W.length≤729∧∀i,i<W.length→rowOK p W.length W B i
theorem entOK.el {k:Nat} {v:List Int} (h:entOK p n k v):El p n v∧∀j,j<k→at_ v j=0:=by
 refine⟨⟨by have:=h.1.1;omega,h.1.2⟩,fun j hj=>?_⟩
 rcases Nat.lt_or_ge j v.length with x|x
 ·rw [at_eq x]
  exact h.2 _ (by rw [List.mem_take_iff_getElem];exact⟨j,by omega,rfl⟩)
 ·exact at_ge x
theorem ZN.w (h:ZN p W B):OkW p W.length W:=by
 obtain⟨h1,h2,h3,h4,h5⟩:=h;refine⟨h1.bd,h2,rfl,fun i hi=>?_⟩
 obtain⟨a,b⟩:=(h5 i hi).1.el;rw [qK hi]at a b
 exact⟨a.1,a.2,fun j hj=>b j (by omega)⟩
theorem ZN.b (h:ZN p W B):OkB p W.length B:=by
 obtain⟨h1,h2,h3,h4,h5⟩:=h;have hr:∀i (h:i<B.length),B[i].length=W.length-1-i:=fun i hi=>by have:=(h5 i (by omega)).2.1;rwa [zR hi]at this
 refine⟨h3,hr,fun i hi k hk=>?_⟩
 obtain⟨a,b⟩:=((h5 i (by omega)).2.2 k (by rw [←hr i hi];exact hk)).el
 rw [zR hi,zR hk]at a b
 exact⟨a,fun j hj=>b j (by omega)⟩
theorem QC {l:Nat} {w:Bool} {a:AV} {xs:List Int} (hs:PtrR σ s p vP vB) (hP:FII vP W) (hl:l=xs.length) (hb:xs.length≤1048576) (hp:isP p) (hk:K (.bool (decide (isVec xs p W.length))) σ):
  zA Tryz.prog 116 [.ptr s 0,.fz w a l (pis xs)] σ K:=by
 have hpb:=hp.bd;obtain⟨w1,a1,rP,rfl,hP⟩:=hP;refine zD mix Tryz.func116 ?_
 conv=>arg 2;cbv
 refine zF rfl ?_;simp only [pwA,seval,-iQ0,zI hs.obj];refine zIw hl (by omega) (by omega) (by omega) ?_
 simp only [pwA,seval,-iQ0];exact hk
theorem zGS (hR:IsR vP vB W B) (sz:SzR W B) (hk:∀t:Bool,(t=true↔ZN p W B)→K (.bool t) σ):zA Tryz.prog 229 [.agg [.int .i64 p,vP,vB]] σ K:=by
 have hFP:=hR.P;have hFB:=hR.B;obtain⟨⟨w1,a1,rP,rfl,hP⟩,⟨w3,a3,rB,rfl,hB⟩⟩:=hR;refine zA.gh ?_;have fin:∀{t:Bool} {σ':PHeap},(t=true↔ZN p W B)→Keep σ σ'→Gh σ K (.bool t) σ':=fun h k=>Gh.fin0 k trivial (hk _ h)
 have no:∀{σ':PHeap},¬ZN p W B→Keep σ σ'→Gh σ K (.bool false) σ':=fun h k=>fin ⟨fun x=>(by cases x),fun x=>absurd x h⟩ k
 have hkp:=zC σ [.int .i64 p,.fz w1 a1 W.length rP,.fz w3 a3 B.length rB];have hpt:PtrR (σ.new [.int .i64 p,.fz w1 a1 W.length rP,.fz w3 a3 B.length rB]) σ.next p (.fz w1 a1 W.length rP) (.fz w3 a3 B.length rB):=⟨by simp only [pwA,seval,-iQ0],by simp only [pwA,seval,-iQ0]⟩
 refine zD mix Tryz.func229 ?_
 conv=>arg 2;cbv
 refine zF rfl ?_
 by_cases h6:W.length≤6
 ·have h6':¬(6:Int)<(W.length:Int):=by omega
  by_cases hBl:B.length=W.length
  ·have hBl':(B.length:Int)=(W.length:Int):=by omega
   simp only [pwA,seval,-iQ0,h6',hBl'];refine zBO ?_
   by_cases hp:isP p
   ·simp only [pwA,seval,-iQ0,hp]
    refine zBI hp.bd h6 ?_
    by_cases ho:ipow p W.length≤729
    ·have ho':¬(729:Int)<ipow p W.length:=by omega
     simp only [pwA,seval,-iQ0,ho'];refine zG (fun m vs h'=>∃i:Nat,i≤W.length∧m=W.length-i∧vs=[.ptr σ.next 0,.int .i64 W.length,.fz w1 a1 W.length rP,.int .i64 W.length,.int .i64 i]∧h'=σ.new [.int .i64 p,.fz w1 a1 W.length rP,.fz w3 a3 B.length rB]∧∀j,j<i→rowOK p W.length W B j) W.length ?_ ?_
     ·exact⟨0,by omega,by omega,rfl,rfl,fun j hj=>by omega⟩
     ·rintro m vs h' ⟨i,hi,rfl,rfl,rfl,hall⟩
      simp only [pwA,seval,-iQ0];refine iteI (fun hlt=>?_) fun hge=>?_
      ·obtain⟨w4,a4,hr⟩:=hP.rowI hlt
       have hiB:i<B.length:=by omega
       obtain⟨w5,a5,rs,hrb,hrs⟩:=hB.rowL hiB;have hwl:=sz.w _ (List.getElem_mem hlt);have hbl:=sz.b _ (List.getElem_mem hiB);have bad:(isVec W[i] p W.length→isZ (W[i].take (i+1))→B[i].length=W.length-1-i→(∀k (h:k<B[i].length),entOK p W.length (i+k+2) B[i][k])→False)→¬ZN p W B:=fun hb hsh=>by
        obtain⟨⟨q1,q2⟩,q3,q4⟩:=hsh.2.2.2.2 i hlt;rw [qK hlt]at q1 q2
        rw [zR hiB]at q3
        refine hb q1 q2 q3 fun k h=>?_
        have:=q4 k (by omega)
        rwa [zR hiB,zR h]at this
       simp only [pwA,seval,-iQ0,hlt,hr];refine QC hpt hFP rfl hwl hp ?_
       by_cases hv:isVec W[i] p W.length
       ·have hle:((i:Int)+1≤(W[i].length:Int)):=by have:=hv.1;omega
        have hnn:(0:Int)≤((i+1:Nat):Int):=by omega
        have hle2:((i+1:Nat):Int)≤(W[i].length:Int):=by omega
        simp only [pwA,seval,-iQ0,hv,wrapS hlt (by omega:W.length≤4611686018427387904),hle2,zDw,Nat.sub_zero]
        refine ZX (by simp;omega) (by simp;omega) ?_
        by_cases hz:isZ (W[i].take (i+1))
        ·have e1:IntKind.i64.wrap ((W.length:Int)-1)=(W.length:Int)-1:=wrap64 (by omega) (by omega)
         have e2:IntKind.i64.wrap ((W.length:Int)-1-(i:Int))=(W.length:Int)-1-(i:Int):=wrap64 (by omega) (by omega)
         by_cases hlen:B[i].length=W.length-1-i
         ·have hlen':(B[i].length:Int)=(W.length:Int)-1-(i:Int):=by omega
          simp only [pwA,seval,-iQ0,hz,hlt,hiB,hrb,e1,e2,eq_true hlen'];refine zG (fun m vs h'=>∃k:Nat,k≤B[i].length∧m=B[i].length-k∧vs=[.ptr σ.next 0,.int .i64 W.length,.int .i64 i,.fz w1 a1 W.length rP,.int .i64 W.length,.int .i64 i,.fz w5 a5 B[i].length rs,.int .i64 B[i].length,.int .i64 k]∧
           h'=σ.new [.int .i64 p,.fz w1 a1 W.length rP,.fz w3 a3 B.length rB]∧∀j (h:j<B[i].length),j<k→entOK p W.length (i+j+2) B[i][j]) B[i].length ?_ ?_
          ·exact⟨0,by omega,by omega,rfl,rfl,fun j h hj=>by omega⟩
          ·rintro m vs h' ⟨k,hk',rfl,rfl,rfl,hall2⟩
           simp only [pwA,seval,-iQ0];refine iteI (fun hlt2=>?_) fun hge=>?_
           ·obtain⟨w6,a6,hrk⟩:=hrs.rowI hlt2
            have hcl:=sz.c _ (List.getElem_mem hiB) _ (List.getElem_mem hlt2);simp only [pwA,seval,-iQ0,hlt2,hrk];refine QC hpt hFP rfl hcl hp ?_
            by_cases hv2:isVec B[i][k] p W.length
            ·have e3:IntKind.i64.wrap ((i:Int)+(k:Int))=((i+k:Nat):Int):=wrapA (by omega)
             have e4:IntKind.i64.wrap (((i+k:Nat):Int)+2)=((i+k+2:Nat):Int):=wrap64 (by omega) (by omega)
             have hle3:((i+(k+2):Nat):Int)≤(B[i][k].length:Int):=by have:=hv2.1;omega
             simp only [pwA,seval,-iQ0,hv2,e3,e4,hle3,zDw,Nat.sub_zero];refine ZX (by simp;omega) (by simp;omega) ?_
             by_cases hz2:isZ (B[i][k].take (i+(k+2)))
             ·simp only [pwA,seval,-iQ0,hz2,wrapS hlt2 (by omega:B[i].length≤4611686018427387904)]
              refine⟨_,by omega,k+1,by omega,rfl,rfl,fun j h hj=>?_⟩
              by_cases e:j=k
              ·subst e;exact⟨hv2,hz2⟩
              ·exact hall2 j h (by omega)
             ·simp only [pwA,seval,-iQ0,hz2]
              exact no (bad fun _ _ _ q=>hz2 (q k hlt2).2) hkp
            ·simp only [pwA,seval,-iQ0,hv2]
             exact no (bad fun _ _ _ q=>hv2 (q k hlt2).1) hkp
           ·simp only [pwA,seval,-iQ0,wrapS hlt (by omega:W.length≤4611686018427387904)]
            refine⟨_,by omega,i+1,by omega,rfl,rfl,fun j hj=>?_⟩
            by_cases e:j=i
            ·subst e
             refine⟨by rw [qK hlt];exact⟨hv,hz⟩,by rw [zR hiB];exact hlen,fun t ht=>?_⟩
             rw [zR hiB,zR (by omega:t<B[j].length)]
             exact hall2 t (by omega) (by omega)
            ·exact hall j (by omega)
         ·have hlen':¬(B[i].length:Int)=(W.length:Int)-1-(i:Int):=by omega
          simp only [pwA,seval,-iQ0,hz,hlt,hiB,hrb,e1,e2,hlen'];exact no (bad fun _ _ q _=>hlen q) hkp
        ·simp only [pwA,seval,-iQ0,hz]
         exact no (bad fun _ q _ _=>hz q) hkp
       ·simp only [pwA,seval,-iQ0,hv]
        exact no (bad fun q _ _ _=>hv q) hkp
      ·exact fin ⟨fun _=>⟨hp,h6,hBl,ho,fun j hj=>hall j (by omega)⟩,fun _=>rfl⟩ hkp
    ·have ho':(729:Int)<ipow p W.length:=by omega
     simp only [pwA,seval,-iQ0,ho'];exact no (fun h=>ho h.2.2.2.1) hkp
   ·simp only [pwA,seval,-iQ0,hp]
    exact no (fun h=>hp h.1) hkp
  ·have hBl':¬(B.length:Int)=(W.length:Int):=by omega
   simp only [pwA,seval,-iQ0,h6',hBl'];exact no (fun h=>hBl h.2.2.1) hkp
 ·have h6':(6:Int)<(W.length:Int):=by omega
  simp only [pwA,seval,-iQ0,h6'];exact no (fun h=>h6 h.2.1) hkp
end Go.Proofs
namespace Go.Proofs
open Go.Ab Go.Lie
variable {σ:PHeap} {K:PV→PHeap→Prop} {p:Int} {n:Nat} {W:List (List Int)} {B:List (List (List Int))} {vP vB:PV} {s:Nat}
theorem zIn (hR:IsR vP vB W B) (sz:SzR W B) (hk:∀t:Bool,(t=true↔ZN p W B)→K (.bool t) σ):zA Tryz.prog 222 [.agg [.int .i64 p,vP,vB]] σ K:=by
 obtain⟨⟨w1,a1,rP,rfl,hP⟩,⟨w3,a3,rB,rfl,hB⟩⟩:=hR;refine zA.gh ?_;have fin:∀{t:Bool} {σ':PHeap},(t=true↔ZN p W B)→Keep σ σ'→Gh σ K (.bool t) σ':=fun h k=>Gh.fin0 k trivial (hk _ h)
 have no:∀{σ':PHeap},¬ZN p W B→Keep σ σ'→Gh σ K (.bool false) σ':=fun h k=>fin ⟨fun x=>(by cases x),fun x=>absurd x h⟩ k
 have hkp:=zC σ [.int .i64 p,.fz w1 a1 W.length rP,.fz w3 a3 B.length rB];refine zL mix Tryz.func222 cf222 rfl ?_;dsimp only [if222,qI,eI,qD,eD,mI0,kI0,tI0,lI0,fI0,xI0,bI0,cI0,nI0,sI0,C1,C3,mD0,lD0,fD0,xD0,R0,S0];simp only [pwA,seval,-iQ0];refine zIv ?_
 by_cases hp:isP p
 rotate_left
 ·simp only [pwA,seval,-iQ0,hp]
  exact no (fun h=>hp h.1) hkp
 by_cases h6:W.length≤6
 rotate_left
 ·have h6':(6:Int)<(W.length:Int):=by omega
  simp only [pwA,seval,-iQ0,hp,h6'];exact no (fun h=>h6 h.2.1) hkp
 have h6':¬(6:Int)<(W.length:Int):=by omega
 by_cases hBl:B.length=W.length
 rotate_left
 ·have hBl':¬(B.length:Int)=(W.length:Int):=by omega
  simp only [pwA,seval,-iQ0,hp,h6',hBl'];exact no (fun h=>hBl h.2.2.1) hkp
 have hBl':(B.length:Int)=(W.length:Int):=by omega
 have hpb:=hp.bd;simp only [pwA,seval,-iQ0,hp,h6',eq_true hBl'];refine zB9 hp.bd h6 fun o k1 k2 k3 k4=>?_
 by_cases ho:ipow p W.length≤729
 rotate_left
 ·have ho':(729:Int)<o:=by rcases Int.lt_or_le 729 o with x | x;exact x;exact absurd (k1.1 x) ho
  simp only [pwA,seval,-iQ0,ho'];exact no (fun h=>ho h.2.2.2.1) hkp
 have ho':¬(729:Int)<o:=by have:=k1.2 ho;omega
 simp only [pwA,seval,-iQ0,ho'];refine zG (fun m vs h'=>∃i:Nat,i≤W.length∧m=W.length-i∧vs=[.ptr σ.next 0,.int .i64 W.length,.int .i64 i]∧h'=σ.new [.int .i64 p,.fz w1 a1 W.length rP,.fz w3 a3 B.length rB]∧∀j,j<i→rowOK p W.length W B j) W.length ?_ ?_
 ·exact⟨0,by omega,by omega,rfl,rfl,fun j hj=>by omega⟩
 ·rintro m vs h' ⟨i,hi,rfl,rfl,rfl,hall⟩
  simp only [pwA,seval,-iQ0];refine iteI (fun hlt=>?_) fun hge=>?_
  rotate_left
  ·exact fin ⟨fun _=>⟨hp,h6,hBl,ho,fun j hj=>hall j (by omega)⟩,fun _=>rfl⟩ hkp
  obtain⟨w4,a4,hr⟩:=hP.rowI hlt;have hiB:i<B.length:=by omega
  obtain⟨w5,a5,rs,hrb,hrs⟩:=hB.rowL hiB;have hwl:=sz.w _ (List.getElem_mem hlt);have hbl:=sz.b _ (List.getElem_mem hiB);have bad:(isVec W[i] p W.length→isZ (W[i].take (i+1))→B[i].length=W.length-1-i→(∀k (h:k<B[i].length),entOK p W.length (i+k+2) B[i][k])→False)→¬ZN p W B:=fun hb hsh=>by
   obtain⟨⟨q1,q2⟩,q3,q4⟩:=hsh.2.2.2.2 i hlt;rw [qK hlt]at q1 q2
   rw [zR hiB]at q3
   refine hb q1 q2 q3 fun k h=>?_
   have:=q4 k (by omega)
   rwa [zR hiB,zR h]at this
  simp only [pwA,seval,-iQ0,hlt,hr];refine zD1 rfl (by omega) (by omega) (by omega) ?_
  by_cases hv:isVec W[i] p W.length
  rotate_left
  ·simp only [pwA,seval,-iQ0,hv]
   exact no (bad fun q _ _ _=>hv q) hkp
  have hvl:W[i].length=W.length:=by have:=hv.1;omega
  simp only [pwA,seval,-iQ0,hv,hlt,hr];refine zDh rfl (by omega) (by omega) ?_
  by_cases hz:isZ (W[i].take (i+1))
  rotate_left
  ·simp only [pwA,seval,-iQ0,hz]
   exact no (bad fun _ q _ _=>hz q) hkp
  have e1:IntKind.i64.wrap ((W.length:Int)-1)=(W.length:Int)-1:=wrap64 (by omega) (by omega)
  have e2:IntKind.i64.wrap ((W.length:Int)-1-(i:Int))=(W.length:Int)-1-(i:Int):=wrap64 (by omega) (by omega)
  by_cases hlen:B[i].length=W.length-1-i
  rotate_left
  ·have hlen':¬(B[i].length:Int)=(W.length:Int)-1-(i:Int):=by omega
   simp only [pwA,seval,-iQ0,hz,hlt,hiB,hrb,e1,e2,hlen'];exact no (bad fun _ _ q _=>hlen q) hkp
  have hlen':(B[i].length:Int)=(W.length:Int)-1-(i:Int):=by omega
  simp only [pwA,seval,-iQ0,hz,hlt,hiB,hrb,e1,e2,eq_true hlen',wrapS hlt (by omega:W.length≤4611686018427387904)]
  refine zG (fun m vs h'=>∃k:Nat,k≤B[i].length∧m=B[i].length-k∧vs=[.ptr σ.next 0,.int .i64 W.length,.int .i64 i,.int .i64 ((i+(1+k):Nat):Int)]∧
   h'=σ.new [.int .i64 p,.fz w1 a1 W.length rP,.fz w3 a3 B.length rB]∧∀j (h:j<B[i].length),j<k→entOK p W.length (i+j+2) B[i][j]) B[i].length ?_ ?_
  ·exact⟨0,by omega,by omega,rfl,rfl,fun j h hj=>by omega⟩
  ·rintro m vs h' ⟨k,hk',rfl,rfl,rfl,hall2⟩
   simp only [pwA,seval,-iQ0];refine iteI (fun hj=>?_) fun hge=>?_
   rotate_left
   ·simp only [pwA,seval,-iQ0,wrapS hlt (by omega:W.length≤4611686018427387904)]
    refine⟨_,by omega,i+1,by omega,rfl,rfl,fun j hj=>?_⟩
    by_cases e:j=i
    ·subst e
     refine⟨by rw [qK hlt];exact⟨hv,hz⟩,by rw [zR hiB];exact hlen,fun t ht=>?_⟩
     rw [zR hiB,zR (by omega:t<B[j].length)]
     exact hall2 t (by omega) (by omega)
    ·exact hall j (by omega)
   have hlt2:k<B[i].length:=by omega
   obtain⟨w6,a6,hrk⟩:=hrs.rowI hlt2;have hcl:=sz.c _ (List.getElem_mem hiB) _ (List.getElem_mem hlt2);have e3:IntKind.i64.wrap (((i+(1+k):Nat):Int)-(i:Int))=((1+k:Nat):Int):=by rw [wrap64 (by omega) (by omega)];omega
   have e4:IntKind.i64.wrap (((1+k:Nat):Int)-1)=(k:Int):=by rw [wrap64 (by omega) (by omega)];omega
   simp only [pwA,seval,-iQ0,hiB,hrb,e3,e4,hlt2,hrk];refine zD1 rfl (by omega) (by omega) (by omega) ?_
   by_cases hv2:isVec B[i][k] p W.length
   rotate_left
   ·simp only [pwA,seval,-iQ0,hv2]
    exact no (bad fun _ _ _ q=>hv2 (q k hlt2).1) hkp
   have hvl2:B[i][k].length=W.length:=by have:=hv2.1;omega
   simp only [pwA,seval,-iQ0,hv2];refine zDh rfl (by omega) (by omega) ?_
   have ek:i+(1+k)+1=i+(k+2):=by omega
   rw [ek]
   by_cases hz2:isZ (B[i][k].take (i+(k+2)))
   rotate_left
   ·simp only [pwA,seval,-iQ0,hz2]
    exact no (bad fun _ _ _ q=>hz2 (q k hlt2).2) hkp
   have e5:IntKind.i64.wrap (((i+(1+k):Nat):Int)+1)=((i+(1+(k+1)):Nat):Int):=by rw [wrap64 (by omega) (by omega)];omega
   simp only [pwA,seval,-iQ0,hz2,e5];refine⟨_,by omega,k+1,by omega,rfl,rfl,fun j h hj=>?_⟩
   by_cases e:j=k
   ·subst e;exact⟨hv2,hz2⟩
   ·exact hall2 j h (by omega)
end Go.Proofs
namespace Go.Proofs
open Go.Ab Go.Lie
variable {σ:PHeap} {K:PV→PHeap→Prop} {p:Int} {n:Nat} {W:List (List Int)} {B:List (List (List Int))} {vP vB:PV} {s:Nat}
abbrev br (p:Int) (W:List (List Int)) (B:List (List (List Int))) (n:Nat) (a b:List Int):List Int:=norm p W (bsum B a b n)
abbrev ladd (p:Int) (W:List (List Int)) (a b:List Int):List Int:=norm p W (lmix 1 a 1 b)
abbrev lmul (p:Int) (W:List (List Int)) (k:Int) (a:List Int):List Int:=norm p W (lmix k a 0 a)
theorem br_el (o:OkW p n W) (q:OkB p n B) {a b:List Int}:El p n (br p W B n a b):=zFT o (qd q)
theorem zJ (o:OkW p n W) {k m:Int} {a b:List Int} (ha:El p n a) (hb:El p n b):El p n (norm p W (lmix k a m b)):=zFT o (by rw [zQ (ha.1.trans hb.1.symm)];exact ha.1)
theorem zT (hp:okp p) {k:Nat} (hk:k<n):El p n (unitL n k):=⟨qF n k,fun x hx=>by
 have:=hp.1
 rcases List.mem_or_eq_of_mem_set hx with h|h
 ·rw [List.eq_of_mem_replicate h];omega
 ·omega⟩
def F1 (p:Int) (W:List (List Int)) (B:List (List (List Int))) (n i j:Nat):Prop:=lmul p W p (br p W B n (unitL n i) (unitL n j))=br p W B n (W.getD i []) (unitL n j)
def F2 (p:Int) (W:List (List Int)) (B:List (List (List Int))) (n i j k:Nat):Prop:=
 isZ (ladd p W (ladd p W (br p W B n (br p W B n (unitL n i) (unitL n j)) (unitL n k)) (br p W B n (br p W B n (unitL n j) (unitL n k)) (unitL n i))) (br p W B n (br p W B n (unitL n k) (unitL n i)) (unitL n j)))
def qz (p:Int) (W:List (List Int)) (B:List (List (List Int))) (n:Nat):Prop:=(∀i j,i<n→j<n→F1 p W B n i j)∧∀i j k,i<j→j<k→k<n→F2 p W B n i j k
theorem z8 {k:Nat} (hn:n≤1048576) (hkn:k<n) (hk:∀a,K (.fz true a n (pis (unitL n k))) σ):zA Tryz.prog 159 [.int .i64 n,.int .i64 k] σ K:=
 zA.fz (fun K'=>zGD hn hkn) (zN _ _) fun o cap=>hk _
theorem qg {l l':Nat} {w w':Bool} {av bv:AV} {a b:List Int} (hs:PtrR σ s p vP vB) (hR:IsR vP vB W B) (o:OkW p n W) (q:OkB p n B) (ha:El p n a) (hb:El p n b) (hl:l=a.length) (hl':l'=b.length)
  (hk:∀v,K (.fz true v n (pis (br p W B n a b))) σ):zA Tryz.prog 162 [.ptr s 0,.fz w av l (pis a),.fz w' bv l' (pis b)] σ K:=
 zA.fzN (br_el o q).1 (fun K'=>zKm hs hR o q ha hb hl hl') hk
theorem Qk {l l':Nat} {w w':Bool} {av bv:AV} {a b:List Int} (hs:PtrR σ s p vP vB) (hP:FII vP W) (o:OkW p n W) (ha:El p n a) (hb:El p n b) (hl:l=a.length) (hl':l'=b.length)
  (hk:∀v,K (.fz true v n (pis (ladd p W a b))) σ):zA Tryz.prog 161 [.ptr s 0,.fz w av l (pis a),.fz w' bv l' (pis b)] σ K:=
 zA.fzN (zJ o ha hb).1 (fun K'=>zC6 hs hP o ha hb hl hl') hk
theorem Z8 {l:Nat} {w:Bool} {av:AV} {k:Int} {a:List Int} (hs:PtrR σ s p vP vB) (hP:FII vP W) (o:OkW p n W) (ha:El p n a) (hl:l=a.length) (hkb:-1000000000≤k∧k≤1000000000)
  (hk:∀v,K (.fz true v n (pis (lmul p W k a))) σ):zA Tryz.prog 191 [.ptr s 0,.int .i64 k,.fz w av l (pis a)] σ K:=
 zA.fzN (zJ o ha ha).1 (fun K'=>zBP hs hP o ha hl hkb) hk
theorem zK7 (o:OkW p n W) {i:Nat} (hi:i<W.length):El p n W[i]:=⟨(o.row i hi).1,(o.row i hi).2.1⟩
theorem zIg (hs:PtrR σ s p vP vB) (hR:IsR vP vB W B) (o:OkW p n W) (q:OkB p n B) (hk:∀kind i j k:Int,(kind=0↔qz p W B n)→K (.tup [.int .i64 kind,.int .i64 i,.int .i64 j,.int .i64 k]) σ):zA Tryz.prog 230 [.ptr s 0] σ K:=by
 have hn6:=o.le;have hWl:=o.len;have hp:=o.pr;have hR0:=hR;have hPP:=hR.P;obtain⟨⟨w1,a1,rP,rfl,hP⟩,⟨w3,a3,rB,rfl,hB⟩⟩:=hR;have hpk:-1000000000≤p∧p≤1000000000:=by unfold okp at hp;omega
 subst hWl;refine zL mix Tryz.func230 cf230 rfl ?_;dsimp only [if230,qD,eD,mI0,kI0,lI0,fI0,bI0,cI0,nI0,sI0,pI0,C1,C2,C3,mD0,lD0,fD0,xD0,pD0,R0,S0];simp only [pwA,seval,-iQ0,zI hs.obj];refine zG (fun m vs h'=>∃i:Nat,i≤W.length∧m=W.length-i∧vs=[.ptr s 0,.int .i64 W.length,.int .i64 W.length,.int .i64 i]∧σ=h'∧∀i' j',i'<i→j'<W.length→F1 p W B W.length i' j') W.length ?_ ?_
 ·exact⟨0,by omega,by omega,rfl,rfl,fun i' j' h=>by omega⟩
 rintro m vs h' ⟨i,hi,rfl,rfl,rfl,hall⟩
 simp only [pwA,seval,-iQ0];refine iteI (fun hlt=>?_) fun hge=>?_
 ·refine zG (fun m vs h'=>∃j:Nat,j≤W.length∧m=W.length-j∧vs=[.ptr s 0,.int .i64 W.length,.int .i64 i,.int .i64 W.length,.int .i64 i,.int .i64 W.length,.int .i64 j]∧σ=h'∧∀j',j'<j→F1 p W B W.length i j') W.length ?_ ?_
  ·exact⟨0,by omega,by omega,rfl,rfl,fun j' h=>by omega⟩
  rintro m vs h' ⟨j,hj,rfl,rfl,rfl,hall2⟩
  simp only [pwA,seval,-iQ0];refine iteI (fun hlt2=>?_) fun hge=>?_
  ·have ei:=zT hp hlt
   have ej:=zT hp hlt2;have eb:=br_el o q (a:=unitL W.length i) (b:=unitL W.length j);obtain⟨w4,a4,hr⟩:=hP.rowI hlt;have er:=zK7 o hlt;refine z8 (by omega) hlt fun v1=>?_
   simp only [pwA,seval,-iQ0];refine z8 (by omega) hlt2 fun v2=>?_
   simp only [pwA,seval,-iQ0,zI hs.obj,hlt,hr];refine qg hs hR0 o q ei ej (qF _ _).symm (qF _ _).symm fun v3=>?_
   simp only [pwA,seval,-iQ0,zI hs.obj,hlt,hr];refine Z8 hs hPP o eb eb.1.symm hpk fun v4=>?_
   simp only [pwA,seval,-iQ0,zI hs.obj,hlt,hr];refine qg hs hR0 o q er ej rfl (qF _ _).symm fun v5=>?_
   simp only [pwA,seval,-iQ0];refine zAA (zJ o eb eb).1.symm (br_el o q).1.symm (by rw [(zJ o eb eb).1];omega) ?_
   have hF:(lmul p W p (br p W B W.length (unitL W.length i) (unitL W.length j))=br p W B W.length W[i] (unitL W.length j))↔F1 p W B W.length i j:=by unfold F1;rw [qK hlt]
   by_cases hf:lmul p W p (br p W B W.length (unitL W.length i) (unitL W.length j))=br p W B W.length W[i] (unitL W.length j)
   ·simp only [pwA,seval,-iQ0,eq_true hf,wrapS hlt2 (by omega:W.length≤4611686018427387904)]
    refine⟨_,by omega,j+1,by omega,rfl,rfl,fun j' h=>?_⟩
    by_cases e:j'=j
    ·subst e;exact hF.1 hf
    ·exact hall2 j' (by omega)
   ·simp only [pwA,seval,-iQ0,hf]
    exact hk _ _ _ _ ⟨fun x=>by omega,fun x=>absurd (hF.2 (x.1 i j hlt hlt2)) hf⟩
  ·simp only [pwA,seval,-iQ0,wrapS hlt (by omega:W.length≤4611686018427387904)]
   refine⟨_,by omega,i+1,by omega,rfl,rfl,fun i' j' h h'=>?_⟩
   by_cases e:i'=i
   ·subst e;exact hall2 j' (by omega)
   ·exact hall i' j' (by omega) h'
 have hall:∀i j,i<W.length→j<W.length→F1 p W B W.length i j:=fun i' j' h h'=>hall i' j' (by omega) h'
 clear hge hi;refine zG (fun m vs h'=>∃i:Nat,i≤W.length∧m=W.length-i∧vs=[.ptr s 0,.int .i64 W.length,.int .i64 W.length,.int .i64 i]∧σ=h'∧∀i' j k,i'<i→i'<j→j<k→k<W.length→F2 p W B W.length i' j k) W.length ?_ ?_
 ·exact⟨0,by omega,by omega,rfl,rfl,fun i' j k h=>by omega⟩
 rintro m vs h' ⟨i,hi,rfl,rfl,rfl,hal1⟩
 simp only [pwA,seval,-iQ0];refine iteI (fun hlt=>?_) fun hge=>?_
 rotate_left
 ·exact hk _ _ _ _ ⟨fun _=>⟨hall,fun i j k h1 h2 h3=>hal1 i j k (by omega) h1 h2 h3⟩,fun _=>rfl⟩
 simp only [pwA,seval,-iQ0,wrapS hlt (by omega:W.length≤4611686018427387904)]
 refine zG (fun m vs h'=>∃j:Nat,i+1≤j∧j≤W.length∧m=W.length-j∧vs=[.ptr s 0,.int .i64 W.length,.int .i64 i,.int .i64 j,.int .i64 W.length,.int .i64 i]∧σ=h'∧∀j' k,i<j'→j'<j→j'<k→k<W.length→F2 p W B W.length i j' k) (W.length-(i+1)) ?_ ?_
 ·exact⟨i+1,by omega,by omega,by omega,rfl,rfl,fun j' k h1 h2=>by omega⟩
 rintro m vs h' ⟨j,hij,hj,rfl,rfl,rfl,hal2⟩
 simp only [pwA,seval,-iQ0];refine iteI (fun hlt2=>?_) fun hge=>?_
 rotate_left
 ·simp only [pwA,seval,-iQ0,wrapS hlt (by omega:W.length≤4611686018427387904)]
  refine⟨_,by omega,i+1,by omega,rfl,rfl,fun i' j' k h1 h2 h3 h4=>?_⟩
  by_cases e:i'=i
  ·subst e;exact hal2 j' k h2 (by omega) h3 h4
  ·exact hal1 i' j' k (by omega) h2 h3 h4
 simp only [pwA,seval,-iQ0,wrapS hlt2 (by omega:W.length≤4611686018427387904)]
 refine zG (fun m vs h'=>∃k:Nat,j+1≤k∧k≤W.length∧m=W.length-k∧vs=[.ptr s 0,.int .i64 W.length,.int .i64 i,.int .i64 j,.int .i64 k,.int .i64 W.length,.int .i64 i]∧σ=h'∧∀k',j<k'→k'<k→F2 p W B W.length i j k') (W.length-(j+1)) ?_ ?_
 ·exact⟨j+1,by omega,by omega,by omega,rfl,rfl,fun k' h1 h2=>by omega⟩
 rintro m vs h' ⟨k,hjk,hk',rfl,rfl,rfl,hal3⟩
 simp only [pwA,seval,-iQ0];refine iteI (fun hlt3=>?_) fun hge=>?_
 rotate_left
 ·simp only [pwA,seval,-iQ0,wrapS hlt2 (by omega:W.length≤4611686018427387904)]
  refine⟨_,by omega,j+1,by omega,by omega,rfl,rfl,fun j' k' h1 h2 h3 h4=>?_⟩
  by_cases e:j'=j
  ·subst e;exact hal3 k' h3 (by omega)
  ·exact hal2 j' k' h1 (by omega) h3 h4
 have ei:=zT hp hlt;have ej:=zT hp hlt2;have ek:=zT hp hlt3;have bb:∀a b,El p W.length (br p W B W.length a b):=fun a b=>br_el o q
 refine z8 (by omega) hlt fun v1=>?_
 simp only [pwA,seval,-iQ0];refine z8 (by omega) hlt2 fun v2=>?_
 simp only [pwA,seval,-iQ0];refine z8 (by omega) hlt3 fun v3=>?_
 simp only [pwA,seval,-iQ0];refine qg hs hR0 o q ei ej ei.1.symm ej.1.symm fun v4=>?_
 simp only [pwA,seval,-iQ0];refine qg hs hR0 o q (bb _ _) ek (bb _ _).1.symm ek.1.symm fun v5=>?_
 simp only [pwA,seval,-iQ0];refine qg hs hR0 o q ej ek ej.1.symm ek.1.symm fun v6=>?_
 simp only [pwA,seval,-iQ0];refine qg hs hR0 o q (bb _ _) ei (bb _ _).1.symm ei.1.symm fun v7=>?_
 simp only [pwA,seval,-iQ0];refine Qk hs hPP o (bb _ _) (bb _ _) (bb _ _).1.symm (bb _ _).1.symm fun v8=>?_
 have e8:=zJ o (k:=1) (m:=1) (bb (br p W B W.length (unitL W.length i) (unitL W.length j)) (unitL W.length k)) (bb (br p W B W.length (unitL W.length j) (unitL W.length k)) (unitL W.length i));simp only [pwA,seval,-iQ0];refine qg hs hR0 o q ek ei ek.1.symm ei.1.symm fun v9=>?_
 simp only [pwA,seval,-iQ0];refine qg hs hR0 o q (bb _ _) ej (bb _ _).1.symm ej.1.symm fun v10=>?_
 simp only [pwA,seval,-iQ0];refine Qk hs hPP o e8 (bb _ _) e8.1.symm (bb _ _).1.symm fun v11=>?_
 have e11:=zJ o (k:=1) (m:=1) e8 (bb (br p W B W.length (unitL W.length k) (unitL W.length i)) (unitL W.length j));simp only [pwA,seval,-iQ0];refine ZX e11.1.symm (by rw [e11.1];omega) ?_
 have hF:isZ (norm p W (lmix 1 (ladd p W (br p W B W.length (br p W B W.length (unitL W.length i) (unitL W.length j)) (unitL W.length k)) (br p W B W.length (br p W B W.length (unitL W.length j) (unitL W.length k)) (unitL W.length i))) 1 (br p W B W.length (br p W B W.length (unitL W.length k) (unitL W.length i)) (unitL W.length j))))↔F2 p W B W.length i j k:=Iff.rfl
 by_cases hf:isZ (norm p W (lmix 1 (ladd p W (br p W B W.length (br p W B W.length (unitL W.length i) (unitL W.length j)) (unitL W.length k)) (br p W B W.length (br p W B W.length (unitL W.length j) (unitL W.length k)) (unitL W.length i))) 1 (br p W B W.length (br p W B W.length (unitL W.length k) (unitL W.length i)) (unitL W.length j))))
 ·simp only [pwA,seval,-iQ0,eq_true hf,wrapS hlt3 (by omega:W.length≤4611686018427387904)]
  refine⟨_,by omega,k+1,by omega,by omega,rfl,rfl,fun k' h1 h2=>?_⟩
  by_cases e:k'=k
  ·subst e;exact hF.1 hf
  ·exact hal3 k' h1 (by omega)
 ·simp only [pwA,seval,-iQ0,hf]
  exact hk _ _ _ _ ⟨fun x=>by omega,fun x=>absurd (hF.2 (x.2 i j k (by omega) (by omega) hlt3)) hf⟩
end Go.Proofs
namespace Go.Proofs
open Go.Ab Go.Lie
variable {σ:PHeap} {K:PV→PHeap→Prop} {p:Int} {n:Nat} {W:List (List Int)} {B:List (List (List Int))} {vP vB:PV} {s:Nat}
theorem zIp (hR:IsR vP vB W B) (o:OkW p n W) (q:OkB p n B) (hk:∀kind i j k:Int,(kind=0↔qz p W B n)→K (.tup [.int .i64 kind,.int .i64 i,.int .i64 j,.int .i64 k]) σ):zA Tryz.prog 223 [.agg [.int .i64 p,vP,vB]] σ K:=by
 have hn6:=o.le;have hWl:=o.len;have hp:=o.pr;have hR0:=hR;have hPP:=hR.P;obtain⟨⟨w1,a1,rP,rfl,hP⟩,⟨w3,a3,rB,rfl,hB⟩⟩:=hR;have hpk:-1000000000≤p∧p≤1000000000:=by unfold okp at hp;omega
 subst hWl;refine zA.gh ?_;have hkp:=zC σ [.int .i64 p,.fz w1 a1 W.length rP,.fz w3 a3 B.length rB];have fin:∀kind i j k:Int,(kind=0↔qz p W B W.length)→Gh σ K (.tup [.int .i64 kind,.int .i64 i,.int .i64 j,.int .i64 k]) (σ.new [.int .i64 p,.fz w1 a1 W.length rP,.fz w3 a3 B.length rB]):=fun kind i j k h=>Gh.fin0 hkp ⟨trivial,trivial,trivial,trivial,trivial⟩ (hk kind i j k h)
 refine zL mix Tryz.func223 cf223 rfl ?_;dsimp only [if223,eI,qD,eD,mI0,kI0,lI0,fI0,bI0,cI0,sI0,mD0,lD0,fD0,xD0,R0,S0];simp only [pwA,seval,-iQ0];refine zG (fun m vs h'=>∃i:Nat,i≤W.length∧m=W.length-i∧vs=[.ptr σ.next 0,.int .i64 W.length,.int .i64 i]∧σ.new [.int .i64 p,.fz w1 a1 W.length rP,.fz w3 a3 B.length rB]=h'∧∀i' j',i'<i→j'<W.length→F1 p W B W.length i' j') W.length ?_ ?_
 ·exact⟨0,by omega,by omega,rfl,rfl,fun i' j' h=>by omega⟩
 rintro m vs h' ⟨i,hi,rfl,rfl,rfl,hall⟩
 simp only [pwA,seval,-iQ0];refine iteI (fun hlt=>?_) fun hge=>?_
 ·refine zG (fun m vs h'=>∃j:Nat,j≤W.length∧m=W.length-j∧vs=[.ptr σ.next 0,.int .i64 W.length,.int .i64 i,.int .i64 j]∧σ.new [.int .i64 p,.fz w1 a1 W.length rP,.fz w3 a3 B.length rB]=h'∧∀j',j'<j→F1 p W B W.length i j') W.length ?_ ?_
  ·exact⟨0,by omega,by omega,rfl,rfl,fun j' h=>by omega⟩
  rintro m vs h' ⟨j,hj,rfl,rfl,rfl,hall2⟩
  simp only [pwA,seval,-iQ0];refine iteI (fun hlt2=>?_) fun hge=>?_
  ·have ei:=zT hp hlt
   have ej:=zT hp hlt2;have eb:=br_el o q (a:=unitL W.length i) (b:=unitL W.length j);obtain⟨w4,a4,hr⟩:=hP.rowI hlt;have er:=zK7 o hlt;refine qo hR0 rfl (by omega) hlt fun v1=>?_
   simp only [pwA,seval,-iQ0];refine qo hR0 rfl (by omega) hlt2 fun v2=>?_
   simp only [pwA,seval,-iQ0,hlt,hr];refine qE hR0 o q ei ej (qF _ _).symm (qF _ _).symm fun v3=>?_
   simp only [pwA,seval,-iQ0,hlt,hr];refine zAZ hR0 rfl (by omega) fun vz=>?_
   simp only [pwA,seval,-iQ0];refine qG hR0 o eb (ZV hp) eb.1.symm (by simp) hpk (by decide) fun v4=>?_
   rw [zNR (eb.1.trans (by simp))]
   simp only [pwA,seval,-iQ0,hlt,hr];refine qo hR0 rfl (by omega) hlt2 fun v6=>?_
   simp only [pwA,seval,-iQ0,hlt,hr];refine qE hR0 o q er ej rfl (qF _ _).symm fun v5=>?_
   simp only [pwA,seval,-iQ0];refine zEs (zJ o eb eb).1.symm (br_el o q).1.symm (by rw [(zJ o eb eb).1];omega) ?_
   have hF:(lmul p W p (br p W B W.length (unitL W.length i) (unitL W.length j))=br p W B W.length W[i] (unitL W.length j))↔F1 p W B W.length i j:=by unfold F1;rw [qK hlt]
   by_cases hf:lmul p W p (br p W B W.length (unitL W.length i) (unitL W.length j))=br p W B W.length W[i] (unitL W.length j)
   ·simp only [pwA,seval,-iQ0,eq_true hf,wrapS hlt2 (by omega:W.length≤4611686018427387904)]
    refine⟨_,by omega,j+1,by omega,rfl,rfl,fun j' h=>?_⟩
    by_cases e:j'=j
    ·subst e;exact hF.1 hf
    ·exact hall2 j' (by omega)
   ·simp only [pwA,seval,-iQ0,hf]
    exact fin _ _ _ _ ⟨fun x=>by omega,fun x=>absurd (hF.2 (x.1 i j hlt hlt2)) hf⟩
  ·simp only [pwA,seval,-iQ0,wrapS hlt (by omega:W.length≤4611686018427387904)]
   refine⟨_,by omega,i+1,by omega,rfl,rfl,fun i' j' h h'=>?_⟩
   by_cases e:i'=i
   ·subst e;exact hall2 j' (by omega)
   ·exact hall i' j' (by omega) h'
 have hall:∀i j,i<W.length→j<W.length→F1 p W B W.length i j:=fun i' j' h h'=>hall i' j' (by omega) h'
 clear hge hi;refine zG (fun m vs h'=>∃i:Nat,i≤W.length∧m=W.length-i∧vs=[.ptr σ.next 0,.int .i64 W.length,.int .i64 i]∧σ.new [.int .i64 p,.fz w1 a1 W.length rP,.fz w3 a3 B.length rB]=h'∧∀i' j k,i'<i→i'<j→j<k→k<W.length→F2 p W B W.length i' j k) W.length ?_ ?_
 ·exact⟨0,by omega,by omega,rfl,rfl,fun i' j k h=>by omega⟩
 rintro m vs h' ⟨i,hi,rfl,rfl,rfl,hal1⟩
 simp only [pwA,seval,-iQ0];refine iteI (fun hlt=>?_) fun hge=>?_
 rotate_left
 ·exact fin _ _ _ _ ⟨fun _=>⟨hall,fun i j k h1 h2 h3=>hal1 i j k (by omega) h1 h2 h3⟩,fun _=>rfl⟩
 simp only [pwA,seval,-iQ0,wrapS hlt (by omega:W.length≤4611686018427387904)]
 refine zG (fun m vs h'=>∃j:Nat,i+1≤j∧j≤W.length∧m=W.length-j∧vs=[.ptr σ.next 0,.int .i64 W.length,.int .i64 i,.int .i64 j]∧σ.new [.int .i64 p,.fz w1 a1 W.length rP,.fz w3 a3 B.length rB]=h'∧∀j' k,i<j'→j'<j→j'<k→k<W.length→F2 p W B W.length i j' k) (W.length-(i+1)) ?_ ?_
 ·exact⟨i+1,by omega,by omega,by omega,rfl,rfl,fun j' k h1 h2=>by omega⟩
 rintro m vs h' ⟨j,hij,hj,rfl,rfl,rfl,hal2⟩
 simp only [pwA,seval,-iQ0];refine iteI (fun hlt2=>?_) fun hge=>?_
 rotate_left
 ·simp only [pwA,seval,-iQ0,wrapS hlt (by omega:W.length≤4611686018427387904)]
  refine⟨_,by omega,i+1,by omega,rfl,rfl,fun i' j' k h1 h2 h3 h4=>?_⟩
  by_cases e:i'=i
  ·subst e;exact hal2 j' k h2 (by omega) h3 h4
  ·exact hal1 i' j' k (by omega) h2 h3 h4
 simp only [pwA,seval,-iQ0,wrapS hlt2 (by omega:W.length≤4611686018427387904)]
 refine zG (fun m vs h'=>∃k:Nat,j+1≤k∧k≤W.length∧m=W.length-k∧vs=[.ptr σ.next 0,.int .i64 W.length,.int .i64 i,.int .i64 j,.int .i64 k]∧σ.new [.int .i64 p,.fz w1 a1 W.length rP,.fz w3 a3 B.length rB]=h'∧∀k',j<k'→k'<k→F2 p W B W.length i j k') (W.length-(j+1)) ?_ ?_
 ·exact⟨j+1,by omega,by omega,by omega,rfl,rfl,fun k' h1 h2=>by omega⟩
 rintro m vs h' ⟨k,hjk,hk',rfl,rfl,rfl,hal3⟩
 simp only [pwA,seval,-iQ0];refine iteI (fun hlt3=>?_) fun hge=>?_
 rotate_left
 ·simp only [pwA,seval,-iQ0,wrapS hlt2 (by omega:W.length≤4611686018427387904)]
  refine⟨_,by omega,j+1,by omega,by omega,rfl,rfl,fun j' k' h1 h2 h3 h4=>?_⟩
  by_cases e:j'=j
  ·subst e;exact hal3 k' h3 (by omega)
  ·exact hal2 j' k' h1 (by omega) h3 h4
 have ei:=zT hp hlt;have ej:=zT hp hlt2;have ek:=zT hp hlt3;have bb:∀a b,El p W.length (br p W B W.length a b):=fun a b=>br_el o q
 refine qo hR0 rfl (by omega) hlt fun v1=>?_
 simp only [pwA,seval,-iQ0];refine qo hR0 rfl (by omega) hlt2 fun v2=>?_
 simp only [pwA,seval,-iQ0];refine qo hR0 rfl (by omega) hlt3 fun v3=>?_
 simp only [pwA,seval,-iQ0];refine qE hR0 o q ei ej ei.1.symm ej.1.symm fun v4=>?_
 simp only [pwA,seval,-iQ0];refine qE hR0 o q (bb _ _) ek (bb _ _).1.symm ek.1.symm fun v5=>?_
 simp only [pwA,seval,-iQ0];refine qE hR0 o q ej ek ej.1.symm ek.1.symm fun v6=>?_
 simp only [pwA,seval,-iQ0];refine qE hR0 o q (bb _ _) ei (bb _ _).1.symm ei.1.symm fun v7=>?_
 simp only [pwA,seval,-iQ0];refine qG hR0 o (bb _ _) (bb _ _) (bb _ _).1.symm (bb _ _).1.symm (by decide) (by decide) fun v8=>?_
 have e8:=zJ o (k:=1) (m:=1) (bb (br p W B W.length (unitL W.length i) (unitL W.length j)) (unitL W.length k)) (bb (br p W B W.length (unitL W.length j) (unitL W.length k)) (unitL W.length i));simp only [pwA,seval,-iQ0];refine qE hR0 o q ek ei ek.1.symm ei.1.symm fun v9=>?_
 simp only [pwA,seval,-iQ0];refine qE hR0 o q (bb _ _) ej (bb _ _).1.symm ej.1.symm fun v10=>?_
 simp only [pwA,seval,-iQ0];refine qG hR0 o e8 (bb _ _) e8.1.symm (bb _ _).1.symm (by decide) (by decide) fun v11=>?_
 have e11:=zJ o (k:=1) (m:=1) e8 (bb (br p W B W.length (unitL W.length k) (unitL W.length i)) (unitL W.length j));simp only [pwA,seval,-iQ0];refine zAa e11.1.symm (by rw [e11.1];omega) ?_
 have hF:isZ (norm p W (lmix 1 (ladd p W (br p W B W.length (br p W B W.length (unitL W.length i) (unitL W.length j)) (unitL W.length k)) (br p W B W.length (br p W B W.length (unitL W.length j) (unitL W.length k)) (unitL W.length i))) 1 (br p W B W.length (br p W B W.length (unitL W.length k) (unitL W.length i)) (unitL W.length j))))↔F2 p W B W.length i j k:=Iff.rfl
 by_cases hf:isZ (norm p W (lmix 1 (ladd p W (br p W B W.length (br p W B W.length (unitL W.length i) (unitL W.length j)) (unitL W.length k)) (br p W B W.length (br p W B W.length (unitL W.length j) (unitL W.length k)) (unitL W.length i))) 1 (br p W B W.length (br p W B W.length (unitL W.length k) (unitL W.length i)) (unitL W.length j))))
 ·simp only [pwA,seval,-iQ0,eq_true hf,wrapS hlt3 (by omega:W.length≤4611686018427387904)]
  refine⟨_,by omega,k+1,by omega,by omega,rfl,rfl,fun k' h1 h2=>?_⟩
  by_cases e:k'=k
  ·subst e;exact hF.1 hf
  ·exact hal3 k' h1 (by omega)
 ·simp only [pwA,seval,-iQ0,hf]
  exact fin _ _ _ _ ⟨fun x=>by omega,fun x=>absurd (hF.2 (x.2 i j k (by omega) (by omega) hlt3)) hf⟩
def isLie (p:Int) (W:List (List Int)) (B:List (List (List Int))):Prop:=ZN p W B∧qz p W B W.length
theorem zDA (hR:IsR vP vB W B) (sz:SzR W B) (hk:∀t:Bool,(t=true↔isLie p W B)→K (.bool t) σ):zA Tryz.prog 143 [.agg [.int .i64 p,vP,vB]] σ K:=by
 have h1:=hR.P.one;have h2:=hR.B.one;refine zA.gh ?_;have hkp:=zC σ [.int .i64 p,vP,vB];refine zD mix Tryz.func143 ?_
 conv=>arg 2;cbv
 refine zF rfl ?_;simp only [pwA,seval,-iQ0,h1,h2];refine zGS hR sz fun t ht=>?_
 cases t with
 | false=>
  simp only [pwA,seval,-iQ0];exact Gh.fin0 hkp trivial (hk _ ⟨fun x=>(by cases x),fun x=>ht.2 x.1⟩)
 | true=>
  have hsh:=ht.1 rfl;simp only [pwA,seval,-iQ0];refine zIg ⟨by simp only [pwA,seval,-iQ0],by simp only [pwA,seval,-iQ0]⟩ hR hsh.w hsh.b fun kind i j k h=>?_
  simp only [pwA,seval,-iQ0];exact Gh.fin0 hkp trivial (hk _ ⟨fun x=>⟨hsh,h.1 (by simpa using x)⟩,fun x=>by simpa using h.2 x.2⟩)
theorem zEn (hR:IsR vP vB W B) (sz:SzR W B) (hk:∀t:Bool,(t=true↔isLie p W B)→K (.bool t) σ):zA Tryz.prog 136 [.agg [.int .i64 p,vP,vB]] σ K:=by
 have h1:=hR.P.one;have h2:=hR.B.one;refine zA.gh ?_;have hkp:=zC σ [.int .i64 p,vP,vB];refine zD mix Tryz.func136 ?_
 conv=>arg 2;cbv
 refine zF rfl ?_;simp only [pwA,seval,-iQ0,h1,h2];refine zIn hR sz fun t ht=>?_
 cases t with
 | false=>
  simp only [pwA,seval,-iQ0];exact Gh.fin0 hkp trivial (hk _ ⟨fun x=>(by cases x),fun x=>ht.2 x.1⟩)
 | true=>
  have hsh:=ht.1 rfl;simp only [pwA,seval,-iQ0];refine zIp hR hsh.w hsh.b fun kind i j k h=>?_
  simp only [pwA,seval,-iQ0];exact Gh.fin0 hkp trivial (hk _ ⟨fun x=>⟨hsh,h.1 (by simpa using x)⟩,fun x=>by simpa using h.2 x.2⟩)
end Go.Proofs
namespace Go.Proofs
open Go.Ab Go.Lie
variable {σ:PHeap} {K:PV→PHeap→Prop} {p:Int} {n:Nat} {W:List (List Int)} {B:List (List (List Int))} {vP vB vL:PV} {s:Nat}
theorem zCB {xs:List Int}:isVec xs p n↔El p n xs:=⟨fun h=>⟨by have:=h.1;omega,h.2⟩,fun h=>⟨by have:=h.1;omega,h.2⟩⟩
theorem zL9 {l:Nat} {w:Bool} {a:AV} {xs:List Int} (hR:IsR vP vB W B) (hl:l=xs.length) (hb:xs.length≤1048576) (hp:okp p) (hk:∀t:Bool,(t=true↔El p W.length xs)→K (.bool t) σ):
  zA Tryz.prog 224 [.agg [.int .i64 p,vP,vB],.fz w a l (pis xs)] σ K:=by
 have h2:=hR.B.one;unfold okp at hp
 obtain⟨⟨w1,a1,rP,rfl,hP⟩,hB⟩:=hR;refine zA.gh ?_;have hkp:=zC σ [.int .i64 p,.fz w1 a1 W.length rP,vB];refine zD mix Tryz.func224 ?_
 conv=>arg 2;cbv
 refine zF rfl ?_;simp only [pwA,seval,-iQ0,h2];refine zD1 hl (by omega) (by omega) (by omega) ?_
 simp only [pwA,seval,-iQ0];exact Gh.fin0 hkp trivial (hk _ (by rw [decide_eq_true_iff];exact zCB))
def Els (p:Int) (n:Nat) (xs:List (List Int)):Prop:=∀x∈xs,El p n x
structure SzL (xs:List (List Int)):Prop where
 l:xs.length≤1048576
 r:∀x∈xs,x.length≤1048576
theorem zFY {xs:List (List Int)} (hR:IsR vP vB W B) (hL:FII vL xs) (sz:SzL xs) (hp:okp p) (hk:∀t:Bool,(t=true↔Els p W.length xs)→K (.bool t) σ):
  zA Tryz.prog 138 [.agg [.int .i64 p,vP,vB],vL] σ K:=by
 have h1:=hR.P.one;have h2:=hR.B.one;have hxl:=sz.l;obtain⟨wl,al,rl,rfl,hrl⟩:=hL;refine zA.gh ?_;have hkp:=zC σ [.int .i64 p,vP,vB];refine zD mix Tryz.func138 ?_
 conv=>arg 2;cbv
 refine zF rfl ?_;simp only [pwA,seval,-iQ0,h1,h2];refine zG (fun m vs h'=>∃i:Nat,i≤xs.length∧m=xs.length-i∧vs=[.fz wl al xs.length rl,.ptr σ.next 0,.int .i64 i]∧σ.new [.int .i64 p,vP,vB]=h'∧∀j (h:j<xs.length),j<i→El p W.length xs[j]) xs.length ?_ ?_
 ·exact⟨0,by omega,by omega,rfl,rfl,fun j h hj=>by omega⟩
 rintro m vs h' ⟨i,hi,rfl,rfl,rfl,hall⟩
 simp only [pwA,seval,-iQ0];refine iteI (fun hlt=>?_) fun hge=>?_
 ·obtain⟨w4,a4,hr⟩:=hrl.rowI hlt
  simp only [pwA,seval,-iQ0,hlt,hr];refine zL9 hR rfl (sz.r _ (List.getElem_mem hlt)) hp fun t ht=>?_
  cases t with
  | false=>
   simp only [pwA,seval,-iQ0];exact Gh.fin0 hkp trivial (hk _ ⟨fun x=>(by cases x),fun x=>ht.2 (x _ (List.getElem_mem hlt))⟩)
  | true=>
   simp only [pwA,seval,-iQ0,wrapS hlt (by omega:xs.length≤4611686018427387904)]
   refine⟨_,by omega,i+1,by omega,rfl,rfl,fun j h hj=>?_⟩
   by_cases e:j=i
   ·subst e;exact ht.1 rfl
   ·exact hall j h (by omega)
 ·refine Gh.fin0 hkp trivial (hk _ ⟨fun _ x hx=>?_,fun _=>rfl⟩)
  obtain⟨j,hj,rfl⟩:=List.mem_iff_getElem.1 hx;exact hall j hj (by omega)
theorem zBh {xs:List (List Int)} (hs:PtrR σ s p vP vB) (hR:IsR vP vB W B) (szr:SzR W B) (hL:FII vL xs) (sz:SzL xs) (hk:∀t:Bool,(t=true↔isLie p W B∧Els p W.length xs)→K (.bool t) σ):
  zA Tryz.prog 133 [.ptr s 0,vL] σ K:=by
 have hPP:=hR.P;have hxl:=sz.l;obtain⟨wl,al,rl,rfl,hrl⟩:=hL;refine zD mix Tryz.func133 ?_
 conv=>arg 2;cbv
 refine zF rfl ?_;simp only [pwA,seval,-iQ0,zI hs.obj,zi hs.obj];refine zDA hR szr fun t ht=>?_
 cases t with
 | false=>
  simp only [pwA,seval,-iQ0];exact hk _ ⟨fun x=>(by cases x),fun x=>ht.2 x.1⟩
 | true=>
 have hlie:=ht.1 rfl;simp only [pwA,seval,-iQ0];refine zG (fun m vs h'=>∃i:Nat,i≤xs.length∧m=xs.length-i∧vs=[.ptr s 0,.fz wl al xs.length rl,.int .i64 xs.length,.int .i64 i]∧σ=h'∧∀j (h:j<xs.length),j<i→El p W.length xs[j]) xs.length ?_ ?_
 ·exact⟨0,by omega,by omega,rfl,rfl,fun j h hj=>by omega⟩
 rintro m vs h' ⟨i,hi,rfl,rfl,rfl,hall⟩
 simp only [pwA,seval,-iQ0];refine iteI (fun hlt=>?_) fun hge=>?_
 ·obtain⟨w4,a4,hr⟩:=hrl.rowI hlt
  simp only [pwA,seval,-iQ0,hlt,hr];refine QC hs hPP rfl (sz.r _ (List.getElem_mem hlt)) hlie.1.1 ?_
  by_cases hv:isVec xs[i] p W.length
  ·simp only [pwA,seval,-iQ0,hv,wrapS hlt (by omega:xs.length≤4611686018427387904)]
   refine⟨_,by omega,i+1,by omega,rfl,rfl,fun j h hj=>?_⟩
   by_cases e:j=i
   ·subst e;exact zCB.1 hv
   ·exact hall j h (by omega)
  ·simp only [pwA,seval,-iQ0,hv]
   exact hk _ ⟨fun x=>(by cases x),fun x=>absurd (zCB.2 (x.2 _ (List.getElem_mem hlt))) hv⟩
 ·refine hk _ ⟨fun _=>⟨hlie,fun x hx=>?_⟩,fun _=>rfl⟩
  obtain⟨j,hj,rfl⟩:=List.mem_iff_getElem.1 hx;exact hall j hj (by omega)
end Go.Proofs
namespace Go.Proofs
open Go.Ab Go.Lie
variable {σ:PHeap} {K:PV→PHeap→Prop} {p p':Int} {n:Nat} {W W':List (List Int)} {B B':List (List (List Int))} {vP vB vP' vB' vL vL':PV}
structure SzM (B:List (List (List Int))):Prop where
 l:B.length≤1048576
 r:∀q∈B,SzL q
theorem zPX {α:Type} {xs ys:List α} (hl:xs.length=ys.length) {i:Nat} (hi:i<xs.length) (h:xs.take i=ys.take i) (he:xs[i]=ys[i]'(by omega)):xs.take (i+1)=ys.take (i+1):=by
 rw [List.take_succ_eq_append_getElem hi,List.take_succ_eq_append_getElem (by omega:i<ys.length),h,he]
end Go.Proofs
namespace Go.Grp
open Go.Ab Go.Lie
structure Mon {α:Type} (S:α→Prop) (m:α→α→α) (e:α):Prop where
 one:S e
 cl:∀{a b},S a→S b→S (m a b)
 «as»:∀{a b c},S a→S b→S c→m (m a b) c=m a (m b c)
 l1:∀{a},S a→m e a=a
 r1:∀{a},S a→m a e=a
section
variable {α:Type} {S:α→Prop} {m:α→α→α} {e:α}
def pw (m:α→α→α) (e x:α):Nat→α
 | 0=>e
 | k+1=>m (pw m e x k) x
def rep (m:α→α→α) (x:α):Nat→α→α
 | 0,a=>a
 | k+1,a=>rep m x k (m a x)
def ph (m:α→α→α) (e:α) (h:Nat→α) (x:Nat→Nat):Nat→Nat→α
 | t,0=>e
 | t,d+1=>m (pw m e (h t) (x t)) (ph m e h x (t+1) d)
def fo (m:α→α→α) (h:Nat→α) (x:Nat→Nat):Nat→Nat→α→α
 | t,0,a=>a
 | t,d+1,a=>fo m h x (t+1) d (rep m (h t) (x t) a)
theorem Mon.pw (M:Mon S m e) {x:α} (hx:S x):∀k,S (pw m e x k)
 | 0=>M.one
 | k+1=>M.cl (M.pw hx k) hx
theorem Mon.pw_add (M:Mon S m e) {x:α} (hx:S x) (a:Nat):∀b,Grp.pw m e x (a+b)=m (Grp.pw m e x a) (Grp.pw m e x b)
 | 0=>(M.r1 (M.pw hx a)).symm
 | b+1=>by
  show m (Grp.pw m e x (a+b)) x=m _ (m (Grp.pw m e x b) x);rw [M.pw_add hx a b,M.as (M.pw hx a) (M.pw hx b) hx]
theorem Mon.pw_one (M:Mon S m e) {x:α} (hx:S x):Grp.pw m e x 1=x:=M.l1 hx
theorem Mon.pw_comm (M:Mon S m e) {x:α} (hx:S x) (a:Nat):m (Grp.pw m e x a) x=m x (Grp.pw m e x a):=by
 have h1:=M.pw_add hx a 1;have h2:=M.pw_add hx 1 a;rw [M.pw_one hx]at h1 h2
 rw [←h1,←h2,Nat.add_comm]
theorem Mon.rep_eq (M:Mon S m e) {x:α} (hx:S x):∀(k:Nat) {a:α},S a→rep m x k a=m a (Grp.pw m e x k)
 | 0,a,ha=>(M.r1 ha).symm
 | k+1,a,ha=>by
  show rep m x k (m a x)=m a (m (Grp.pw m e x k) x);rw [M.rep_eq hx k (M.cl ha hx),M.as ha hx (M.pw hx k),M.pw_comm hx k]
theorem Mon.ph (M:Mon S m e) {h:Nat→α} {x:Nat→Nat}:∀{d t:Nat},(∀j,t≤j→j<t+d→S (h j))→S (ph m e h x t d)
 | 0,t,_=>M.one
 | d+1,t,hh=>M.cl (M.pw (hh t (Nat.le_refl _) (by omega)) _) (M.ph fun j h1 h2=>hh j (by omega) (by omega))
theorem Mon.fo_eq (M:Mon S m e) {h:Nat→α} {x:Nat→Nat}:∀{d t:Nat} {a:α},(∀j,t≤j→j<t+d→S (h j))→S a→fo m h x t d a=m a (Grp.ph m e h x t d)
 | 0,t,a,_,ha=>(M.r1 ha).symm
 | d+1,t,a,hh,ha=>by
  have ht:=hh t (Nat.le_refl _) (by omega)
  show fo m h x (t+1) d (rep m (h t) (x t) a)=m a (m _ _);rw [M.rep_eq ht _ ha,M.fo_eq (fun j h1 h2=>hh j (by omega) (by omega)) (M.cl ha (M.pw ht _)),M.as ha (M.pw ht _) (M.ph fun j h1 h2=>hh j (by omega) (by omega))]
theorem zB2 {h h':Nat→α} {x x':Nat→Nat}:∀{d t:Nat},(∀j,t≤j→j<t+d→h j=h' j∧x j=x' j)→Grp.ph m e h x t d=Grp.ph m e h' x' t d
 | 0,t,_=>rfl
 | d+1,t,hh=>by
  simp only [Grp.ph];rw [(hh t (Nat.le_refl _) (by omega)).1,(hh t (Nat.le_refl _) (by omega)).2,zB2 fun j h1 h2=>hh j (by omega) (by omega)]
theorem Mon.past_pw (M:Mon S m e) {g u v:α} (hg:S g) (hu:S u) (hv:S v) (h:m u g=m g v):∀k,m (Grp.pw m e u k) g=m g (Grp.pw m e v k)
 | 0=>by rw [Grp.pw,Grp.pw,M.l1 hg,M.r1 hg]
 | k+1=>by
  show m (m (Grp.pw m e u k) u) g=m g (m (Grp.pw m e v k) v);rw [M.as (M.pw hu k) hu hg,h,←M.as (M.pw hu k) hg hv,M.past_pw hg hu hv h k,M.as hg (M.pw hv k) hv]
theorem Mon.past_ph (M:Mon S m e) {g:α} (hg:S g) {h h':Nat→α} {x:Nat→Nat}:∀{d t:Nat},(∀j,t≤j→j<t+d→S (h j)∧S (h' j)∧m (h j) g=m g (h' j))→m (Grp.ph m e h x t d) g=m g (Grp.ph m e h' x t d)
 | 0,t,_=>by rw [Grp.ph,Grp.ph,M.l1 hg,M.r1 hg]
 | d+1,t,hh=>by
  obtain⟨h1,h2,h3⟩:=hh t (Nat.le_refl _) (by omega)
  have i1:=M.ph (x:=x) (fun j a b=>(hh j (show t≤j by omega) (by omega)).1) (d:=d) (t:=t+1)
  have i2:=M.ph (x:=x) (fun j a b=>(hh j (show t≤j by omega) (by omega)).2.1) (d:=d) (t:=t+1)
  show m (m _ _) g=m g (m _ _);rw [M.as (M.pw h1 _) i1 hg,M.past_ph hg fun j a b=>hh j (by omega) (by omega),←M.as (M.pw h1 _) hg i2,M.past_pw hg h1 h2 h3,M.as hg (M.pw h2 _) i2]
end
variable {O:List Int} {P:List (List Int)} {C:List (List (List Int))}
structure TT (O:List Int) (t:Nat) (x:List Int):Prop where
 len:x.length=O.length
 bd:∀j,j<O.length→0≤at_ x j∧at_ x j<at_ O j
 zero:∀j,j<t→at_ x j=0
abbrev nx (x:List Int) (j:Nat):Nat:=(at_ x j).toNat
abbrev cvec (C:List (List (List Int))) (i j:Nat):List Int:=(C.getD i []).getD (j-i-1) []
abbrev pvec (P:List (List Int)) (i:Nat):List Int:=P.getD i []
abbrev zv (O:List Int):List Int:=List.replicate O.length 0
structure Shp (O:List Int) (P:List (List Int)) (C:List (List (List Int))):Prop where
 le:O.length≤6
 pr:∀j,j<O.length→2≤at_ O j∧at_ O j≤7
 pl:P.length=O.length
 cl:C.length=O.length
 pw:∀i,i<O.length→TT O (i+1) (pvec P i)
 row:∀i,i<O.length→(C.getD i []).length=O.length-1-i
 cj:∀i j,i<j→j<O.length→TT O (i+1) (cvec C i j)
def img (O:List Int) (C:List (List (List Int))) (m:List Int→List Int→List Int) (i:Nat) (x:List Int):List Int:=fo m (cvec C i) (nx x) (i+1) (O.length-1-i) (zv O)
def iter {α:Type} (f:α→α):Nat→α→α
 | 0,a=>a
 | k+1,a=>iter f k (f a)
theorem zD2 {α:Type} (f:α→α) (a b:Nat) (x:α):iter f (a+b) x=iter f b (iter f a x):=by
 induction a generalizing x with
 | zero=>rw [Nat.zero_add];rfl
 | succ a ih=>rw [show a+1+b=(a+b)+1 by omega];exact ih (f x)
def mu (O:List Int) (P:List (List Int)) (C:List (List (List Int))):Nat→List Int→List Int→List Int
 | 0,_,_=>zv O
 | d+1,a,b=>
  let i:=O.length-(d+1)
  let r:=mu O P C d (iter (img O C (mu O P C d) i) (nx b i) (a.set i 0)) (b.set i 0)
  if at_ a i+at_ b i ≥ at_ O i then(mu O P C d (pvec P i) r).set i (at_ a i+at_ b i-at_ O i)else r.set i (at_ a i+at_ b i)
theorem TT.zv (t:Nat) (h:∀j,j<O.length→0<at_ O j):TT O t (zv O):=⟨by simp,fun j hj=>by rw [zo];exact⟨by omega,h j hj⟩,fun j _=>zo _ j⟩
theorem TT.mono {t t':Nat} {x:List Int} (h:TT O t x) (ht:t'≤t):TT O t' x:=⟨h.len,h.bd,fun j hj=>h.zero j (by omega)⟩
theorem TT.set {t i:Nat} {x:List Int} (h:TT O t x) (hi:i<O.length) (hti:t≤i) {c:Int} (hc:0≤c∧c<at_ O i):TT O t (x.set i c):=by
 have hl:i<x.length:=by rw [h.len];exact hi
 refine⟨by rw [List.length_set,h.len],fun j hj=>?_,fun j hj=>?_⟩
 ·rw [at_set hl];split
  ·rename_i e;subst e;exact hc
  ·exact h.bd j hj
 ·rw [at_set hl,if_neg (by omega)];exact h.zero j hj
theorem TT.set0 {i:Nat} {x:List Int} (h:TT O i x) (hi:i<O.length) (hO:0<at_ O i):TT O (i+1) (x.set i 0):=by
 have hl:i<x.length:=by rw [h.len];exact hi
 have h1:=h.set hi (Nat.le_refl _) (c:=0) ⟨by omega,hO⟩
 refine⟨h1.len,h1.bd,fun j hj=>?_⟩
 rw [at_set hl];split
 ·rfl
 ·exact h.zero j (by omega)
theorem TT.ext {t:Nat} {x y:List Int} (h:TT O t x) (g:TT O t y) (he:∀j,t≤j→j<O.length→at_ x j=at_ y j):x=y:=by
 refine ZY (by rw [h.len,g.len]) fun j hj=>?_
 rcases Nat.lt_or_ge j t with e|e
 ·rw [h.zero j e,g.zero j e]
 ·exact he j e (by rw [←h.len];exact hj)
theorem Shp.pos (s:Shp O P C) {j:Nat} (hj:j<O.length):0<at_ O j:=by have:=(s.pr j hj).1;omega
theorem Shp.zv (s:Shp O P C) (t:Nat):TT O t (zv O):=TT.zv t fun j hj=>s.pos hj
theorem zK8 {α:Type} {S:α→Prop} {m:α→α→α} {x:α} (h:∀a,S a→S (m a x)):∀(k:Nat) {a:α},S a→S (rep m x k a)
 | 0,a,ha=>ha
 | k+1,a,ha=>zK8 h k (h a ha)
theorem fo_in {α:Type} {S:α→Prop} {m:α→α→α} {h:Nat→α} {x:Nat→Nat}:∀{d t:Nat} {a:α},(∀j,t≤j→j<t+d→∀a,S a→S (m a (h j)))→S a→S (fo m h x t d a)
 | 0,t,a,_,ha=>ha
 | d+1,t,a,hh,ha=>by
  show S (fo m h x (t+1) d (rep m (h t) (x t) a));exact fo_in (fun j h1 h2=>hh j (by omega) (by omega)) (zK8 (hh t (Nat.le_refl _) (by omega)) (x t) ha)
theorem zAj {α:Type} {S:α→Prop} {f:α→α} (h:∀a,S a→S (f a)):∀(k:Nat) {a:α},S a→S (iter f k a)
 | 0,a,ha=>ha
 | k+1,a,ha=>zAj h k (h a ha)
theorem zA3 (s:Shp O P C) {m:List Int→List Int→List Int} {i:Nat} (hm:∀a b,TT O (i+1) a→TT O (i+1) b→TT O (i+1) (m a b)) (x:List Int):TT O (i+1) (img O C m i x):=
 fo_in (fun j h1 h2 a ha=>hm a _ ha (s.cj i j (by omega) (by omega))) (s.zv _)
theorem mu_tt (s:Shp O P C):∀{d:Nat} {a b:List Int},d≤O.length→TT O (O.length-d) a→TT O (O.length-d) b→TT O (O.length-d) (mu O P C d a b)
 | 0,a,b,_,ha,hb=>s.zv _
 | d+1,a,b,hd,ha,hb=>by
  have hi:O.length-(d+1)<O.length:=by omega
  have e:O.length-d=O.length-(d+1)+1:=by omega
  have hm:∀a b,TT O (O.length-(d+1)+1) a→TT O (O.length-(d+1)+1) b→TT O (O.length-(d+1)+1) (mu O P C d a b):=by
   rw [←e];exact fun a b h1 h2=>mu_tt s (by omega) h1 h2
  have hpos:=s.pos hi;have ba:=ha.bd _ hi;have bb:=hb.bd _ hi;have ir:=hm _ _ (zAj (fun x _=>zA3 s hm x) (nx b (O.length-(d+1))) (ha.set0 hi hpos)) (hb.set0 hi hpos)
  simp only [mu]
  split
  ·exact((hm _ _ (s.pw _ hi) ir).mono (Nat.le_succ _)).set hi (Nat.le_refl _) ⟨by omega,by omega⟩
  ·exact(ir.mono (Nat.le_succ _)).set hi (Nat.le_refl _) ⟨by omega,by omega⟩
end Go.Grp
namespace Go.Grp
open Go.Ab Go.Lie
variable {O:List Int} {P:List (List Int)} {C:List (List (List Int))} {α:Type} {S:α→Prop} {m:α→α→α} {e:α} {h:Nat→α} {t0:Nat}
abbrev Ph (O:List Int) (m:α→α→α) (e:α) (h:Nat→α) (d:Nat) (x:List Int):α:=ph m e h (nx x) (O.length-d) d
structure Rel (O:List Int) (P:List (List Int)) (C:List (List (List Int))) (S:α→Prop) (m:α→α→α) (e:α) (h:Nat→α) (t0:Nat):Prop where
 mem:∀j,t0≤j→j<O.length→S (h j)
 pow:∀j,t0≤j→j<O.length→pw m e (h j) (nx O j)=Ph O m e h (O.length-(j+1)) (pvec P j)
 cj:∀j k,t0≤j→j<k→k<O.length→m (h k) (h j)=m (h j) (Ph O m e h (O.length-(j+1)) (cvec C j k))
theorem Ph_in (M:Mon S m e) (r:Rel O P C S m e h t0) {d:Nat} (hd:d≤O.length-t0) (x:List Int):S (Ph O m e h d x):=M.ph fun j h1 h2=>r.mem j (by omega) (by omega)
theorem zFC {d i:Nat} (hi:i<O.length-d) {x:List Int} (hx:x.length=O.length) (c:Int):Ph O m e h d (x.set i c)=Ph O m e h d x:=
 zB2 fun j h1 h2=>⟨rfl,by show(at_ _ j).toNat=(at_ x j).toNat;rw [at_set (by omega),if_neg (by omega)]⟩
theorem zJm {d:Nat} (hd:d<O.length) (x:List Int):Ph O m e h (d+1) x=m (pw m e (h (O.length-(d+1))) (nx x (O.length-(d+1)))) (Ph O m e h d x):=by
 show ph m e h (nx x) _ (d+1)=_;rw [ph,show O.length-(d+1)+1=O.length-d by omega]
theorem Ph_zv (M:Mon S m e):∀d:Nat,Ph O m e h d (zv O)=e:=by
 intro d
 have:∀(d t:Nat),ph m e h (nx (zv O)) t d=e:=by
  intro d
  induction d with
  | zero=>intro t;rfl
  | succ d ih=>
   intro t;have h0:nx (zv O) t=0:=by show(at_ (zv O) t).toNat=0;rw [zo];rfl
   rw [ph,ih,h0];exact M.l1 M.one
 exact this d _
theorem Ph_fo (M:Mon S m e) {T:List Int→Prop} {mm:List Int→List Int→List Int} {F:List Int→α} (hF:∀a b,T a→T b→T (mm a b)∧F (mm a b)=m (F a) (F b)) {c:Nat→List Int} {x:Nat→Nat}:
  ∀{d t:Nat} {a:List Int},(∀j,t≤j→j<t+d→T (c j))→T a→T (fo mm c x t d a)∧F (fo mm c x t d a)=fo m (fun j=>F (c j)) x t d (F a)
 | 0,t,a,_,ha=>⟨ha,rfl⟩
 | d+1,t,a,hc,ha=>by
  have hr:∀(k:Nat) {a:List Int},T a→T (rep mm (c t) k a)∧F (rep mm (c t) k a)=rep m (F (c t)) k (F a):=by
   intro k
   induction k with
   | zero=>exact fun ha=>⟨ha,rfl⟩
   | succ k ih=>
    intro a ha;obtain⟨h1,h2⟩:=hF a (c t) ha (hc t (Nat.le_refl _) (by omega))
    obtain⟨h3,h4⟩:=ih h1;exact⟨h3,by show F (rep mm (c t) k (mm a (c t)))=rep m (F (c t)) k (m (F a) (F (c t)));rw [h4,h2]⟩
  obtain⟨h1,h2⟩:=hr (x t) ha;obtain⟨h3,h4⟩:=Ph_fo M hF (c:=c) (x:=x) (d:=d) (t:=t+1) (fun j h1 h2=>hc j (by omega) (by omega)) h1
  refine⟨h3,?_⟩;show F (fo mm c x (t+1) d _)=fo m _ x (t+1) d (rep m (F (c t)) (x t) (F a));rw [h4,h2]
theorem dyck (s:Shp O P C) (M:Mon S m e) (r:Rel O P C S m e h t0):∀{d:Nat},d≤O.length-t0→∀{a b:List Int},TT O (O.length-d) a→TT O (O.length-d) b→Ph O m e h d (mu O P C d a b)=m (Ph O m e h d a) (Ph O m e h d b)
 | 0,_,a,b,_,_=>(M.l1 M.one).symm
 | d+1,hd,a,b,ha,hb=>by
  have hi:O.length-(d+1)<O.length:=by omega
  have hit:t0≤O.length-(d+1):=by omega
  have e1:O.length-d=O.length-(d+1)+1:=by omega
  have e2:O.length-1-(O.length-(d+1))=d:=by omega
  have e3:O.length-(O.length-(d+1)+1)=d:=by omega
  have hpos:=s.pos hi;have ba:=ha.bd _ hi;have bb:=hb.bd _ hi;have hS:=r.mem _ hit hi;have ih:∀{a b:List Int},TT O (O.length-d) a→TT O (O.length-d) b→Ph O m e h d (mu O P C d a b)=m (Ph O m e h d a) (Ph O m e h d b):=fun h1 h2=>dyck s M r (by omega) h1 h2
  have cl:∀{a b:List Int},TT O (O.length-d) a→TT O (O.length-d) b→TT O (O.length-d) (mu O P C d a b):=fun h1 h2=>mu_tt s (by omega) h1 h2
  have pin:∀x,S (Ph O m e h d x):=fun x=>Ph_in M r (by omega) x
  generalize hie:O.length-(d+1)=i at *
  have him:∀{x:List Int},TT O (O.length-d) x→TT O (O.length-d) (img O C (mu O P C d) i x)∧m (Ph O m e h d x) (h i)=m (h i) (Ph O m e h d (img O C (mu O P C d) i x)):=by
   intro x hx;have hc:∀j,i+1≤j→j<i+1+d→TT O (O.length-d) (cvec C i j):=fun j h1 h2=>by rw [e1];exact s.cj i j (by omega) (by omega)
   have hzz:TT O (O.length-d) (zv O):=s.zv _;obtain⟨f1,f2⟩:=Ph_fo M (T:=TT O (O.length-d)) (mm:=mu O P C d) (F:=Ph O m e h d) (fun a b h1 h2=>⟨cl h1 h2,ih h1 h2⟩) (c:=cvec C i) (x:=nx x) hc hzz
   have eim:img O C (mu O P C d) i x=fo (mu O P C d) (cvec C i) (nx x) (i+1) d (zv O):=by rw [img,e2]
   rw [eim];refine⟨f1,?_⟩;rw [f2,Ph_zv M,M.fo_eq (fun j _ _=>pin _) M.one,M.l1 (M.ph fun j _ _=>pin _)]
   show m (ph m e h (nx x) (O.length-d) d) (h i)=_;rw [e1];refine M.past_ph hS fun j h1 h2=>⟨r.mem j (by omega) (by omega),pin _,?_⟩
   have:=r.cj i j hit (by omega) (by omega)
   rw [e3]at this
   exact this
  have hit':∀(k:Nat) {x:List Int},TT O (O.length-d) x→TT O (O.length-d) (iter (img O C (mu O P C d) i) k x)∧m (Ph O m e h d x) (pw m e (h i) k)=m (pw m e (h i) k) (Ph O m e h d (iter (img O C (mu O P C d) i) k x)):=by
   intro k
   induction k with
   | zero=>exact fun {x} hx=>⟨hx,by show m _ e=m e _;rw [M.r1 (pin x)];exact(M.l1 (pin x)).symm⟩
   | succ k ik=>
    intro x hx;obtain⟨g1,g2⟩:=him hx;obtain⟨g3,g4⟩:=ik g1;refine⟨g3,?_⟩;show m _ (m (pw m e (h i) k) (h i))=m (m (pw m e (h i) k) (h i)) (Ph O m e h d (iter _ k (img O C (mu O P C d) i x)));rw [M.pw_comm hS,←M.as (pin _) hS (M.pw hS k),g2,M.as hS (pin _) (M.pw hS k),g4,←M.as hS (M.pw hS k) (pin _)]
  have ha0:TT O (O.length-d) (a.set i 0):=by rw [e1];exact ha.set0 hi hpos
  have hb0:TT O (O.length-d) (b.set i 0):=by rw [e1];exact hb.set0 hi hpos
  obtain⟨k1,k2⟩:=hit' (nx b i) ha0;have il:i<O.length-d:=by omega
  rw [zFC il ha.len]at k2
  have er:=ih k1 hb0;rw [zFC il hb.len]at er
  have ct:=cl k1 hb0;have psucc:∀x,Ph O m e h (d+1) x=m (pw m e (h i) (nx x i)) (Ph O m e h d x):=fun x=>by rw [zJm (by omega),hie]
  rw [psucc a,psucc b,psucc];generalize hL:iter (img O C (mu O P C d) i) (nx b i) (a.set i 0)=L at *
  have emu:mu O P C (d+1) a b=if at_ a i+at_ b i ≥ at_ O i then(mu O P C d (pvec P i) (mu O P C d L (b.set i 0))).set i (at_ a i+at_ b i-at_ O i)else(mu O P C d L (b.set i 0)).set i (at_ a i+at_ b i):=by
   simp only [mu,hie,hL]
  have rhs:m (m (pw m e (h i) (nx a i)) (Ph O m e h d a)) (m (pw m e (h i) (nx b i)) (Ph O m e h d b))=m (pw m e (h i) (nx a i+nx b i)) (Ph O m e h d (mu O P C d L (b.set i 0))):=by
   rw [er,M.pw_add hS,M.as (M.pw hS _) (pin _) (M.cl (M.pw hS _) (pin _)),←M.as (pin _) (M.pw hS _) (pin _),k2,M.as (M.pw hS _) (pin _) (pin _),←M.as (M.pw hS _) (M.pw hS _) (M.cl (pin _) (pin _))]
  rw [rhs,emu];have hn:(at_ a i+at_ b i).toNat=nx a i+nx b i:=by show _=(at_ a i).toNat+(at_ b i).toNat;omega
  have hat:∀{x:List Int} (c:Int),TT O (O.length-d) x→nx (x.set i c) i=c.toNat:=fun {x} c hx=>by show(at_ _ i).toNat=_;rw [at_set (by rw [hx.len];exact hi),if_pos rfl]
  split
  ·rename_i hge
   have hp:TT O (O.length-d) (pvec P i):=by rw [e1];exact s.pw i hi
   have cp:=cl hp ct;rw [hat _ cp,zFC il cp.len,ih hp ct];have rp:=r.pow i hit hi;rw [e3]at rp
   rw [←rp,←M.as (M.pw hS _) (M.pw hS _) (pin _),←M.pw_add hS]
   congr 2
   show(at_ a i+at_ b i-at_ O i).toNat+(at_ O i).toNat=(at_ a i).toNat+(at_ b i).toNat
   omega
  ·rw [hat _ ct,zFC il ct.len,hn]
end Go.Grp
namespace Go.Grp
open Go.Ab Go.Lie
variable {O:List Int} {P:List (List Int)} {C:List (List (List Int))} {α:Type} {S:α→Prop} {m:α→α→α} {e:α} {h:Nat→α}
structure Gp {α:Type} (S:α→Prop) (m:α→α→α) (e:α):Prop extends Mon S m e where
 inv:∀{a},S a→∃b,S b∧m a b=e∧m b a=e
theorem Gp.cancel (G:Gp S m e) {a b c:α} (ha:S a) (hb:S b) (hc:S c) (h:m a b=m a c):b=c:=by
 obtain⟨i,hi,_,h1⟩:=G.inv ha
 have:=congrArg (m i) h
 rwa [←G.as hi ha hb,←G.as hi ha hc,h1,G.l1 hb,G.l1 hc]at this
theorem Gp.of_right (M:Mon S m e) (hr:∀{a},S a→∃b,S b∧m a b=e):Gp S m e:=by
 refine⟨M,fun {a} ha=>?_⟩
 obtain⟨b,hb,h1⟩:=hr ha;obtain⟨c,hc,h2⟩:=hr hb;refine⟨b,hb,h1,?_⟩
 have:a=c:=by rw [←M.r1 ha,←h2,←M.as ha hb hc,h1,M.l1 hc]
 rw [this];exact h2
theorem Mon.pw_ind (M:Mon S m e) {Q:α→Prop} (h1:Q e) (hm:∀a b,S a→S b→Q a→Q b→Q (m a b)) {x:α} (hx:S x) (hq:Q x):∀k,Q (Grp.pw m e x k)
 | 0=>h1
 | k+1=>hm _ _ (M.pw hx k) hx (M.pw_ind h1 hm hx hq k) hq
theorem Mon.ph_ind (M:Mon S m e) {Q:α→Prop} (h1:Q e) (hm:∀a b,S a→S b→Q a→Q b→Q (m a b)) {h:Nat→α} {x:Nat→Nat}:∀{d t:Nat},(∀j,t≤j→j<t+d→S (h j)∧Q (h j))→Q (Grp.ph m e h x t d)
 | 0,t,_=>h1
 | d+1,t,hh=>by
  obtain⟨g1,g2⟩:=hh t (Nat.le_refl _) (by omega)
  exact hm _ _ (M.pw g1 _) (M.ph fun j a b=>(hh j (by omega) (by omega)).1) (M.pw_ind h1 hm g1 g2 _) (M.ph_ind h1 hm fun j a b=>hh j (by omega) (by omega))
theorem Mon.ph_skip (M:Mon S m e) {h:Nat→α} {x:Nat→Nat} {d:Nat}:∀{k t:Nat},(∀j,t≤j→j<t+k→x j=0)→(∀j,t+k≤j→j<t+k+d→S (h j))→Grp.ph m e h x t (k+d)=Grp.ph m e h x (t+k) d
 | 0,t,_,_=>by rw [Nat.zero_add,Nat.add_zero]
 | k+1,t,h0,hs=>by
  have:=M.ph_skip (h:=h) (x:=x) (d:=d) (k:=k) (t:=t+1) (fun j a b=>h0 j (by omega) (by omega)) (fun j a b=>hs j (by omega) (by omega))
  rw [show k+1+d=(k+d)+1 by omega,Grp.ph,h0 t (Nat.le_refl _) (by omega),this,show t+1+k=t+(k+1) by omega]
  exact M.l1 (M.ph fun j a b=>hs j (by omega) (by omega))
abbrev unit (O:List Int) (j:Nat):List Int:=(zv O).set j 1
theorem Shp.unit (s:Shp O P C) {t j:Nat} (hj:j<O.length) (ht:t≤j):TT O t (unit O j):=(s.zv t).set hj ht ⟨by omega,by have:=(s.pr j hj).1;omega⟩
structure Lv (O:List Int) (P:List (List Int)) (C:List (List (List Int))) (i:Nat):Prop where
 pow:∀j,i<j→j<O.length→pw (mu O P C (O.length-1-i)) (zv O) (cvec C i j) (nx O j)=img O C (mu O P C (O.length-1-i)) i (pvec P j)
 cj:∀j k,i<j→j<k→k<O.length→mu O P C (O.length-1-i) (cvec C i k) (cvec C i j)=mu O P C (O.length-1-i) (cvec C i j) (img O C (mu O P C (O.length-1-i)) i (cvec C j k))
 fix:img O C (mu O P C (O.length-1-i)) i (pvec P i)=pvec P i
 inn:∀j,i<j→j<O.length→mu O P C (O.length-1-i) (pvec P i) (iter (img O C (mu O P C (O.length-1-i)) i) (nx O i) (unit O j))=mu O P C (O.length-1-i) (unit O j) (pvec P i)
structure Beh (O:List Int) (P:List (List Int)) (C:List (List (List Int))) (d:Nat):Prop where
 le:d≤O.length
 gp:Gp (TT O (O.length-d)) (mu O P C d) (zv O)
 nf:∀{x},TT O (O.length-d) x→Ph O (mu O P C d) (zv O) (unit O) d x=x
theorem qJ {x:List Int} {i:Nat} (h:at_ x i=0) (hi:i<x.length):x.set i 0=x:=by
 refine ZY (by simp) fun j hj=>?_
 rw [at_set hi];split
 ·rename_i e;subst e;exact h.symm
 ·rfl
theorem zCa (x:List Int) (i:Nat) (a b:Int):(x.set i a).set i b=x.set i b:=List.set_set ..
theorem zK4 {x:List Int} {i:Nat} (hi:i<x.length):(x.set i 0).set i (at_ x i)=x:=by
 rw [zCa];refine ZY (by simp) fun j hj=>?_
 rw [at_set hi];split
 ·rename_i e;subst e;rfl
 ·rfl
section
variable {d i:Nat}
abbrev al (O:List Int) (P:List (List Int)) (C:List (List (List Int))) (d i:Nat):List Int→List Int:=img O C (mu O P C d) i
theorem al_ph (s:Shp O P C) (B:Beh O P C d) (hi:O.length-d=i+1) (x:List Int):al O P C d i x=Ph O (mu O P C d) (zv O) (cvec C i) d x:=by
 have hle:=B.le;have hs:∀j,i+1≤j→j<i+1+d→TT O (O.length-d) (cvec C i j):=fun j h1 h2=>by rw [hi];exact s.cj i j (by omega) (by omega)
 have e:O.length-1-i=d:=by omega
 show fo _ _ _ _ _ _=ph _ _ _ _ _ _;rw [e,B.gp.fo_eq hs B.gp.one,B.gp.l1 (B.gp.ph hs),hi]
theorem al_zv (s:Shp O P C) (B:Beh O P C d) (hi:O.length-d=i+1):al O P C d i (zv O)=zv O:=by rw [al_ph s B hi,Ph_zv B.gp.toMon]
theorem zPM (s:Shp O P C) (B:Beh O P C d) (hi:O.length-d=i+1) (L:Lv O P C i):Rel O P C (TT O (O.length-d)) (mu O P C d) (zv O) (cvec C i) (i+1):=by
 have hle:=B.le;have e:O.length-1-i=d:=by omega
 have hs:∀j,i+1≤j→j<O.length→TT O (O.length-d) (cvec C i j):=fun j h1 h2=>by rw [hi];exact s.cj i j (by omega) h2
 have sk:∀{j:Nat} {x:List Int},i<j→j<O.length→TT O (j+1) x→al O P C d i x=Ph O (mu O P C d) (zv O) (cvec C i) (O.length-(j+1)) x:=fun {j x} h1 h2 hx=>by
  rw [al_ph s B hi];show ph _ _ _ _ _ _=ph _ _ _ _ _ _
  have:=B.gp.toMon.ph_skip (h:=cvec C i) (x:=nx x) (d:=O.length-(j+1)) (k:=j-i) (t:=i+1) (fun t a b=>by show(at_ x t).toNat=0;rw [hx.zero t (by omega)];rfl) (fun t a b=>hs t (by omega) (by omega))
  rw [show j-i+(O.length-(j+1))=d by omega,show i+1+(j-i)=O.length-(O.length-(j+1)) by omega]at this
  rw [hi];exact this
 refine⟨hs,fun j h1 h2=>?_,fun j k h1 h2 h3=>?_⟩
 ·have:=L.pow j (by omega) h2
  rw [e]at this
  rw [this];exact sk (by omega) h2 (s.pw j h2)
 ·have:=L.cj j k (by omega) h2 h3
  rw [e]at this
  rw [this];congr 1;exact sk (by omega) (by omega) (s.cj j k h2 h3)
theorem al_in (s:Shp O P C) (B:Beh O P C d) (hi:O.length-d=i+1) (x:List Int):TT O (O.length-d) (al O P C d i x):=by
 rw [hi];exact zA3 s (by rw [←hi];exact fun a b h1 h2=>B.gp.cl h1 h2) x
theorem zPi (s:Shp O P C) (B:Beh O P C d) (hi:O.length-d=i+1) (L:Lv O P C i) {a b:List Int} (ha:TT O (O.length-d) a) (hb:TT O (O.length-d) b):al O P C d i (mu O P C d a b)=mu O P C d (al O P C d i a) (al O P C d i b):=by
 rw [al_ph s B hi,al_ph s B hi,al_ph s B hi];exact dyck s B.gp.toMon (zPM s B hi L) (by have:=B.le;omega) ha hb
theorem it_in (s:Shp O P C) (B:Beh O P C d) (hi:O.length-d=i+1) (k:Nat) {x:List Int} (hx:TT O (O.length-d) x):TT O (O.length-d) (iter (al O P C d i) k x):=zAj (fun a _=>al_in s B hi a) k hx
theorem zHN (s:Shp O P C) (B:Beh O P C d) (hi:O.length-d=i+1) (L:Lv O P C i):∀(k:Nat) {a b:List Int},TT O (O.length-d) a→TT O (O.length-d) b→iter (al O P C d i) k (mu O P C d a b)=mu O P C d (iter (al O P C d i) k a) (iter (al O P C d i) k b)
 | 0,a,b,ha,hb=>rfl
 | k+1,a,b,ha,hb=>by
  show iter _ k (al O P C d i _)=_;rw [zPi s B hi L ha hb,zHN s B hi L k (al_in s B hi a) (al_in s B hi b)]
  rfl
theorem zCr {f:List Int→List Int} {w:List Int} (h:f w=w):∀k,iter f k w=w
 | 0=>rfl
 | k+1=>by show iter f k (f w)=w;rw [h];exact zCr h k
theorem zOb (s:Shp O P C) (B:Beh O P C d) (hi:O.length-d=i+1) (L:Lv O P C i) {x:List Int} (hx:TT O (O.length-d) x):mu O P C d (pvec P i) (iter (al O P C d i) (nx O i) x)=mu O P C d x (pvec P i):=by
 have hle:=B.le;have hil:i<O.length:=by omega
 have e:O.length-1-i=d:=by omega
 have hw:TT O (O.length-d) (pvec P i):=by rw [hi];exact s.pw i hil
 have M:=B.gp.toMon
 have:=M.ph_ind (Q:=fun x=>mu O P C d (pvec P i) (iter (al O P C d i) (nx O i) x)=mu O P C d x (pvec P i)) ?_ ?_ (h:=unit O) (x:=nx x) (d:=d) (t:=O.length-d) fun j h1 h2=>⟨s.unit (by omega) h1,?_⟩
 ·have nf:=B.nf hx
  rw [show Ph O (mu O P C d) (zv O) (unit O) d x=ph (mu O P C d) (zv O) (unit O) (nx x) (O.length-d) d from rfl]at nf
  rw [nf]at this
  exact this
 ·rw [zCr (al_zv s B hi),M.r1 hw,M.l1 hw]
 ·intro a b ha hb h1 h2
  rw [zHN s B hi L _ ha hb,←M.as hw (it_in s B hi _ ha) (it_in s B hi _ hb),h1,M.as ha hw (it_in s B hi _ hb),h2,←M.as ha hb hw]
 ·have:=L.inn j (by omega) (by omega)
  rw [e]at this
  exact this
theorem zDL (s:Shp O P C) (B:Beh O P C d) (hi:O.length-d=i+1) {a b:Int} {x y:List Int} (hx:TT O (O.length-d) x) (hy:TT O (O.length-d) y):
  mu O P C (d+1) (x.set i a) (y.set i b)=if a+b ≥ at_ O i then(mu O P C d (pvec P i) (mu O P C d (iter (al O P C d i) b.toNat x) y)).set i (a+b-at_ O i)else(mu O P C d (iter (al O P C d i) b.toNat x) y).set i (a+b):=by
 have hle:=B.le;have hil:i<O.length:=by omega
 have h0:O.length-(d+1)=i:=by omega
 have xl:i<x.length:=by rw [hx.len];exact hil
 have yl:i<y.length:=by rw [hy.len];exact hil
 have zx:at_ x i=0:=hx.zero i (by omega)
 have zy:at_ y i=0:=hy.zero i (by omega)
 simp only [mu,h0];rw [zCa,zCa,qJ zx xl,qJ zy yl];have e1:at_ (x.set i a) i=a:=by rw [at_set xl,if_pos rfl]
 have e2:at_ (y.set i b) i=b:=by rw [at_set yl,if_pos rfl]
 show(if at_ (x.set i a) i+at_ (y.set i b) i ≥ _ then _ else _)=_
 have e3:nx (y.set i b) i=b.toNat:=by show(at_ _ i).toNat=_;rw [e2]
 rw [e1,e2,e3]
theorem pair (h:i<O.length) {t:Nat} {x:List Int} (hx:TT O i x) (hpos:0<at_ O i):∃y a,TT O (i+1) y∧x=y.set i a∧0≤a∧a<at_ O i:=
 ⟨x.set i 0,at_ x i,hx.set0 h hpos,(zK4 (by rw [hx.len];exact h)).symm,(hx.bd i h).1,(hx.bd i h).2⟩
theorem zNp (s:Shp O P C) (B:Beh O P C d) (hi:O.length-d=i+1) (L:Lv O P C i):Beh O P C (d+1):=by
 have hle:=B.le;have hil:i<O.length:=by omega
 have h0:O.length-(d+1)=i:=by omega
 have e:O.length-1-i=d:=by omega
 have hpos:=s.pos hil;have hw:TT O (O.length-d) (pvec P i):=by rw [hi];exact s.pw i hil
 have M:=B.gp.toMon;have mp:=fun {a b:Int} {x y:List Int} (hx:TT O (O.length-d) x) (hy:TT O (O.length-d) y)=>zDL s B hi (a:=a) (b:=b) hx hy
 have ii:=fun(k:Nat) {x:List Int} (hx:TT O (O.length-d) x)=>it_in s B hi k hx
 have im:=fun(k:Nat) {x y:List Int} (hx:TT O (O.length-d) x) (hy:TT O (O.length-d) y)=>zHN s B hi L k hx hy
 have iw:∀k,iter (al O P C d i) k (pvec P i)=pvec P i:=fun k=>zCr (by have:=L.fix;rw [e]at this;exact this) k
 have iz:∀k,iter (al O P C d i) k (zv O)=zv O:=fun k=>zCr (al_zv s B hi) k
 have pr:∀{x:List Int},TT O i x→∃y a,TT O (O.length-d) y∧x=y.set i a∧0≤a∧a<at_ O i:=fun hx=>by rw [hi];exact pair hil (t:=0) hx hpos
 have zs:zv O=(zv O).set i 0:=(qJ (zo _ i) (by simp;exact hil)).symm
 have hz:TT O (O.length-d) (zv O):=s.zv _;have l1:∀{a:List Int},TT O i a→mu O P C (d+1) (zv O) a=a:=fun {a} ha=>by
  obtain⟨x,a,hx,rfl,b1,b2⟩:=pr ha;rw [zs,mp hz hx,if_neg (by omega),iz,M.l1 hx,Int.zero_add]
 have r1:∀{a:List Int},TT O i a→mu O P C (d+1) a (zv O)=a:=fun {a} ha=>by
  obtain⟨x,a,hx,rfl,b1,b2⟩:=pr ha
  conv=>lhs;rw [zs]
  rw [mp hx hz,if_neg (by omega),Int.add_zero]
  show(mu O P C d x (zv O)).set i a=_
  rw [M.r1 hx]
 have cl:∀{a b:List Int},TT O i a→TT O i b→TT O i (mu O P C (d+1) a b):=fun {a b} ha hb=>by
  have:=mu_tt s (d:=d+1) (by omega) (by rw [h0];exact ha) (by rw [h0];exact hb)
  rwa [h0]at this
 have assc:∀{a b c:List Int},TT O i a→TT O i b→TT O i c→mu O P C (d+1) (mu O P C (d+1) a b) c=mu O P C (d+1) a (mu O P C (d+1) b c):=fun {a b c} ha hb hc=>by
  obtain⟨x,a,hx,rfl,a1,a2⟩:=pr ha;obtain⟨y,b,hy,rfl,b1,b2⟩:=pr hb;obtain⟨z,c,hz',rfl,c1,c2⟩:=pr hc;have A:=ii b.toNat hx;have Bc:=ii c.toNat hy;have AB:=M.cl A hy;have BZ:=M.cl Bc hz';have past:=fun {u:List Int} (hu:TT O (O.length-d) u)=>zOb s B hi L hu
  have ic:iter (al O P C d i) c.toNat (iter (al O P C d i) b.toNat x)=iter (al O P C d i) (b.toNat+c.toNat) x:=(zD2 _ _ _ _).symm;have X:=ii (b.toNat+c.toNat) hx;rw [mp hx hy,mp hy hz']
  by_cases h1:a+b ≥ at_ O i
  ·rw [if_pos h1,mp (M.cl hw AB) hz',im _ hw AB,iw,im _ A hy,ic]
   by_cases h2:b+c ≥ at_ O i
   ·rw [if_pos h2,mp hx (M.cl hw BZ)]
    have hk:(b+c-at_ O i).toNat+nx O i=b.toNat+c.toNat:=by show _+(at_ O i).toNat=_;omega
    have hX:=past (ii (b+c-at_ O i).toNat hx);rw [←zD2,hk]at hX
    have e5:mu O P C d (iter (al O P C d i) (b+c-at_ O i).toNat x) (mu O P C d (pvec P i) (mu O P C d (iter (al O P C d i) c.toNat y) z))=mu O P C d (mu O P C d (pvec P i) (mu O P C d (iter (al O P C d i) (b.toNat+c.toNat) x) (iter (al O P C d i) c.toNat y))) z:=by
     rw [←M.as (ii _ hx) hw BZ,←hX,M.as hw X BZ,←M.as X Bc hz',←M.as hw (M.cl X Bc) hz']
    rw [e5]
    by_cases h3:a+b-at_ O i+c ≥ at_ O i
    ·rw [if_pos h3,if_pos (by omega)];congr 1;omega
    ·rw [if_neg h3,if_neg (by omega)];congr 1;omega
   ·rw [if_neg h2,mp hx BZ,if_neg (by omega),if_pos (by omega),show(b+c).toNat=b.toNat+c.toNat by omega]
    rw [←M.as X Bc hz',←M.as hw (M.cl X Bc) hz']
    congr 1;omega
  ·rw [if_neg h1,mp AB hz',im _ A hy,ic]
   by_cases h2:b+c ≥ at_ O i
   ·rw [if_pos h2,mp hx (M.cl hw BZ),if_pos (by omega),if_neg (by omega)]
    have hk:(b+c-at_ O i).toNat+nx O i=b.toNat+c.toNat:=by show _+(at_ O i).toNat=_;omega
    have hX:=past (ii (b+c-at_ O i).toNat hx);rw [←zD2,hk]at hX
    rw [←M.as (ii _ hx) hw BZ,←hX,M.as hw X BZ,←M.as X Bc hz']
    congr 1;omega
   ·rw [if_neg h2,mp hx BZ,show(b+c).toNat=b.toNat+c.toNat by omega,←M.as X Bc hz']
    by_cases h3:a+b+c ≥ at_ O i
    ·rw [if_pos h3,if_pos (by omega)];congr 1;omega
    ·rw [if_neg h3,if_neg (by omega)];congr 1;omega
 have Mn:Mon (TT O (O.length-(d+1))) (mu O P C (d+1)) (zv O):=by
  rw [h0];exact⟨s.zv _,cl,assc,l1,r1⟩
 refine⟨by omega,Gp.of_right Mn ?_,?_⟩
 ·rw [h0]
  intro a ha;obtain⟨x,a,hx,rfl,a1,a2⟩:=pr ha
  by_cases h0':a=0
  ·subst h0'
   obtain⟨y,hy,h1,_⟩:=B.gp.inv hx;refine⟨y.set i 0,(hy.mono (by omega)).set hil (Nat.le_refl _) ⟨by omega,hpos⟩,?_⟩
   rw [mp hx hy,if_neg (by omega)]
   show(mu O P C d x y).set i _=_
   rw [h1,Int.add_zero];exact zs.symm
  ·obtain⟨y,hy,h1,_⟩:=B.gp.inv (M.cl hw (ii (at_ O i-a).toNat hx))
   refine⟨y.set i (at_ O i-a),(hy.mono (by omega)).set hil (Nat.le_refl _) ⟨by omega,by omega⟩,?_⟩
   rw [mp hx hy,if_pos (by omega),←M.as hw (ii _ hx) hy,h1,show a+(at_ O i-a)-at_ O i=0 by omega]
   exact zs.symm
 ·rw [h0]
  intro x hx;obtain⟨y,a,hy,rfl,a1,a2⟩:=pr hx;have yl:i<y.length:=by rw [hy.len];exact hil
  have hu:∀k:Nat,(k:Int)<at_ O i→pw (mu O P C (d+1)) (zv O) (unit O i) k=(zv O).set i k:=by
   intro k
   induction k with
   | zero=>intro _;exact zs
   | succ k ih=>
    intro hk;show mu O P C (d+1) (pw _ _ _ k) (unit O i)=_;rw [ih (by omega),mp hz hz,if_neg (by omega)]
    show(mu O P C d (al O P C d i (zv O)) (zv O)).set i _=_
    rw [al_zv s B hi,M.l1 hz]
    congr 1
  have sub:∀{u v:List Int},TT O (O.length-d) u→TT O (O.length-d) v→mu O P C (d+1) u v=mu O P C d u v:=fun {u v} hu hv=>by
   have ul:i<u.length:=by rw [hu.len];exact hil
   have vl:i<v.length:=by rw [hv.len];exact hil
   have h3:=mp (a:=0) (b:=0) hu hv;rw [qJ (hu.zero i (by omega)) ul,qJ (hv.zero i (by omega)) vl,if_neg (by omega)]at h3
   rw [h3];have huv:=M.cl hu hv;exact qJ (huv.zero i (by omega)) (by show i<(mu O P C d u v).length;rw [huv.len];exact hil)
  have pws:∀{u:List Int},TT O (O.length-d) u→∀k,pw (mu O P C (d+1)) (zv O) u k=pw (mu O P C d) (zv O) u k:=fun {u} hu k=>by
   induction k with
   | zero=>rfl
   | succ k ih=>show mu O P C (d+1) (pw _ _ u k) u=mu O P C d (pw _ _ u k) u;rw [ih,sub (M.pw hu k) hu]
  have phs:∀(c t:Nat),O.length-d≤t→t+c≤O.length→ph (mu O P C (d+1)) (zv O) (unit O) (nx (y.set i a)) t c=ph (mu O P C d) (zv O) (unit O) (nx y) t c:=by
   intro c
   induction c with
   | zero=>intro t _ _;rfl
   | succ c ih=>
    intro t h1 h2;have hut:TT O (O.length-d) (unit O t):=s.unit (by omega) h1
    have hnx:nx (y.set i a) t=nx y t:=by show(at_ _ t).toNat=(at_ y t).toNat;rw [at_set yl,if_neg (by omega)]
    rw [ph,ph,ih (t+1) (by omega) (by omega),pws hut,hnx,sub (M.pw hut _) (M.ph fun j g1 g2=>s.unit (by omega) (by omega))]
  rw [zJm (by omega),h0,show Ph O (mu O P C (d+1)) (zv O) (unit O) d (y.set i a)=Ph O (mu O P C d) (zv O) (unit O) d y from phs d _ (Nat.le_refl _) (by omega),B.nf hy]
  have hnx:nx (y.set i a) i=a.toNat:=by show(at_ _ i).toNat=_;rw [at_set yl,if_pos rfl]
  have ys:y=y.set i 0:=(qJ (hy.zero i (by omega)) yl).symm
  rw [hnx,hu _ (by omega)]
  conv=>lhs;rw [ys]
  rw [mp hz hy,if_neg (by omega)]
  show(mu O P C d (zv O) y).set i _=_
  rw [M.l1 hy];congr 1;omega
theorem zNo (s:Shp O P C):Beh O P C 0:=by
 have h0:∀{x:List Int},TT O (O.length-0) x→x=zv O:=fun {x} hx=>hx.ext (s.zv _) fun j h1 h2=>by omega
 refine⟨Nat.zero_le _,⟨⟨s.zv _,fun _ _=>s.zv _,fun _ _ _=>rfl,fun h=>(h0 h).symm,fun h=>(h0 h).symm⟩,fun h=>⟨zv O,s.zv _,rfl,rfl⟩⟩,fun h=>(h0 h).symm⟩
end
def Cons (O:List Int) (P:List (List Int)) (C:List (List (List Int))):Prop:=∀i,i<O.length→Lv O P C i
end Go.Grp
namespace Go.Grp
open Go.Ab Go.Lie
variable {O:List Int} {P:List (List Int)} {C:List (List (List Int))} {α:Type} {S:α→Prop} {m:α→α→α} {e:α} {h:Nat→α} {d i:Nat}
theorem zFV (s:Shp O P C) (hd:d+1≤O.length) {u v:List Int} (hu:TT O (O.length-d) u) (hv:TT O (O.length-d) v):mu O P C (d+1) u v=mu O P C d u v:=by
 have hil:O.length-(d+1)<O.length:=by omega
 have zu:=hu.zero (O.length-(d+1)) (by omega)
 have zv':=hv.zero (O.length-(d+1)) (by omega)
 have huv:=mu_tt s (by omega:d≤O.length) hu hv
 have hp:=s.pos hil;simp only [mu];rw [qJ zu (by rw [hu.len];exact hil),qJ zv' (by rw [hv.len];exact hil),zu,zv',if_neg (by omega)]
 have:nx v (O.length-(d+1))=0:=by show(at_ v _).toNat=0;rw [zv'];rfl
 rw [this];exact qJ (huv.zero _ (by omega)) (by show _<(mu O P C d u v).length;rw [huv.len];exact hil)
theorem zLv (s:Shp O P C):∀{k:Nat},d+k≤O.length→∀{u v:List Int},TT O (O.length-d) u→TT O (O.length-d) v→mu O P C (d+k) u v=mu O P C d u v
 | 0,_,u,v,_,_=>rfl
 | k+1,hk,u,v,hu,hv=>by
  rw [show d+(k+1)=(d+k)+1 by omega,zFV s (by omega) (hu.mono (by omega)) (hv.mono (by omega)),zLv s (by omega) hu hv]
theorem zGm {m':α→α→α} (h:∀a b,S a→S b→m' a b=m a b) (M:Mon S m e) {x:α} (hx:S x):∀k,pw m' e x k=pw m e x k
 | 0=>rfl
 | k+1=>by show m' (pw m' e x k) x=m (pw m e x k) x;rw [zGm h M hx k,h _ _ (M.pw hx k) hx]
theorem zEZ {m':α→α→α} (h:∀a b,S a→S b→m' a b=m a b) (M:Mon S m e) {f:Nat→α} {x:Nat→Nat}:∀{c t:Nat},(∀j,t≤j→j<t+c→S (f j))→ph m' e f x t c=ph m e f x t c
 | 0,t,_=>rfl
 | c+1,t,hf=>by
  have ht:=hf t (Nat.le_refl _) (by omega)
  have i:=zEZ h M (f:=f) (x:=x) (c:=c) (t:=t+1) fun j a b=>hf j (by omega) (by omega)
  rw [ph,ph,i,zGm h M ht];exact h _ _ (M.pw ht _) (M.ph fun j a b=>hf j (by omega) (by omega))
theorem zOw {m:List Int→List Int→List Int} (M:Mon (TT O (O.length-d)) m (zv O)) (s:Shp O P C) {f:Nat→List Int} (hf:∀j,O.length-d≤j→j<O.length→TT O (O.length-d) (f j)) (hd:d≤O.length) {k:Nat} (h1:O.length-d≤k) (h2:k<O.length):Ph O m (zv O) f d (unit O k)=f k:=by
 have:∀(c t:Nat),O.length-d≤t→t+c=O.length→ph m (zv O) f (nx (unit O k)) t c=if t≤k then f k else zv O:=by
  intro c
  induction c with
  | zero=>intro t g1 g2;rw [ph,if_neg (by omega)]
  | succ c ih=>
   intro t g1 g2;have hn:nx (unit O k) t=if t=k then 1 else 0:=by
    show(at_ ((zv O).set k 1) t).toNat=_
    rw [at_set (by simp;exact h2)]
    split
    ·rfl
    ·rw [zo];rfl
   rw [ph,ih (t+1) (by omega) (by omega),hn]
   have ft:=hf t g1 (by omega)
   by_cases e:t=k
   ·subst e
    rw [if_pos rfl,if_neg (by omega),if_pos (Nat.le_refl _),M.pw_one ft,M.r1 ft]
   ·rw [if_neg e]
    show m (zv O) _=_
    by_cases g:t≤k
    ·rw [if_pos (by omega),if_pos g,M.l1 (hf k h1 h2)]
    ·rw [if_neg (by omega),if_neg g,M.l1 M.one]
 have:=this d (O.length-d) (Nat.le_refl _) (by omega)
 rw [if_pos h1]at this
 exact this
structure Full (O:List Int) (P:List (List Int)) (C:List (List (List Int))) (d:Nat):Prop extends Beh O P C d where
 rel:Rel O P C (TT O (O.length-d)) (mu O P C d) (zv O) (unit O) (O.length-d)
theorem zMH (s:Shp O P C):Full O P C 0:=⟨zNo s,⟨fun j h1 h2=>s.unit h2 h1,fun j h1 h2=>by omega,fun j k h1 h2 h3=>by omega⟩⟩
theorem zMI (s:Shp O P C) (B:Full O P C d) (hi:O.length-d=i+1) (L:Lv O P C i):Full O P C (d+1):=by
 have hle:=B.le;have hil:i<O.length:=by omega
 have h0:O.length-(d+1)=i:=by omega
 have B1:=zNp s B.toBeh hi L;refine⟨B1,?_⟩;have M:=B.gp.toMon;have M1:=B1.gp.toMon;have hpos:=s.pos hil;have hz:TT O (O.length-d) (zv O):=s.zv _;have hw:TT O (O.length-d) (pvec P i):=by rw [hi];exact s.pw i hil
 have sub:∀a b,TT O (O.length-d) a→TT O (O.length-d) b→mu O P C (d+1) a b=mu O P C d a b:=fun a b ha hb=>zFV s (by omega) ha hb
 have un:∀j,O.length-d≤j→j<O.length→TT O (O.length-d) (unit O j):=fun j h1 h2=>s.unit h2 h1
 have mp:=fun {a b:Int} {x y:List Int} (hx:TT O (O.length-d) x) (hy:TT O (O.length-d) y)=>zDL s B.toBeh hi (a:=a) (b:=b) hx hy
 have zs:zv O=(zv O).set i 0:=(qJ (zo _ i) (by simp;exact hil)).symm
 have nfx:∀{j:Nat} {x:List Int},i≤j→j<O.length→TT O (j+1) x→Ph O (mu O P C (d+1)) (zv O) (unit O) (O.length-(j+1)) x=x:=fun {j x} h1 h2 hx=>by
  have hn:=B.nf (hx.mono (by omega:O.length-d≤j+1))
  have e1:Ph O (mu O P C (d+1)) (zv O) (unit O) (O.length-(j+1)) x=Ph O (mu O P C d) (zv O) (unit O) (O.length-(j+1)) x:=zEZ sub M fun k a b=>un k (by omega) (by omega)
  rw [e1]
  have:=M.ph_skip (h:=unit O) (x:=nx x) (d:=O.length-(j+1)) (k:=j-i) (t:=O.length-d) (fun t a b=>by show(at_ x t).toNat=0;rw [hx.zero t (by omega)];rfl) (fun t a b=>un t (by omega) (by omega))
  rw [show j-i+(O.length-(j+1))=d by omega,show O.length-d+(j-i)=O.length-(O.length-(j+1)) by omega]at this
  show ph _ _ _ _ _ _=x;rw [←this];exact hn
 rw [h0];refine⟨fun j h1 h2=>s.unit h2 h1,fun j h1 h2=>?_,fun j k h1 h2 h3=>?_⟩
 ·rw [nfx h1 h2 (s.pw j h2)]
  by_cases e:j=i
  ·subst e
   have hu:∀k:Nat,(k:Int)<at_ O j→pw (mu O P C (d+1)) (zv O) (unit O j) k=(zv O).set j k:=by
    intro k
    induction k with
    | zero=>intro _;exact zs
    | succ k ih=>
     intro hk;show mu O P C (d+1) (pw _ _ _ k) (unit O j)=_;rw [ih (by omega),mp hz hz,if_neg (by omega)]
     show(mu O P C d (al O P C d j (zv O)) (zv O)).set j _=_
     rw [al_zv s B.toBeh hi,M.l1 hz]
     congr 1
   obtain⟨o,ho⟩:∃o:Nat,nx O j=o+1:=⟨nx O j-1,by show(at_ O j).toNat=_;have:nx O j=(at_ O j).toNat:=rfl;omega⟩
   have hoi:at_ O j=(o:Int)+1:=by have:nx O j=(at_ O j).toNat:=rfl;omega
   rw [ho];show mu O P C (d+1) (pw _ _ _ o) (unit O j)=_;rw [hu o (by omega),mp hz hz,if_pos (by omega)]
   show(mu O P C d (pvec P j) (mu O P C d (al O P C d j (zv O)) (zv O))).set j _=_
   rw [al_zv s B.toBeh hi,M.l1 hz,M.r1 hw,show(o:Int)+1-at_ O j=0 by omega]
   exact qJ (hw.zero j (by omega)) (by rw [hw.len];exact hil)
  ·rw [zGm sub M (un j (by omega) h2),B.rel.pow j (by omega) h2]
   have hn:=nfx h1 h2 (s.pw j h2);have e1:Ph O (mu O P C (d+1)) (zv O) (unit O) (O.length-(j+1)) (pvec P j)=Ph O (mu O P C d) (zv O) (unit O) (O.length-(j+1)) (pvec P j):=zEZ sub M fun k a b=>un k (by omega) (by omega)
   rw [←e1];exact hn
 ·rw [nfx h1 (by omega) (s.cj j k h2 h3)]
  by_cases e:j=i
  ·subst e
   have hc:TT O (O.length-d) (cvec C j k):=by rw [hi];exact s.cj j k h2 h3
   have uk:=un k (by omega) h3
   have zu:=uk.zero j (by omega)
   have zc:=hc.zero j (by omega)
   have e1:mu O P C (d+1) (unit O k) (unit O j)=(cvec C j k).set j 1:=by
    have:=mp (a:=0) (b:=1) uk hz
    rw [qJ zu (by rw [uk.len];exact hil),if_neg (by have:=(s.pr j hil).1;omega)]at this
    rw [this]
    show(mu O P C d (al O P C d j (unit O k)) (zv O)).set j _=_
    rw [al_ph s B.toBeh hi,zOw M s (fun q a b=>by rw [hi];exact s.cj j q (by omega) b) hle (by omega) h3,M.r1 hc]
    congr 1
   have e2:mu O P C (d+1) (unit O j) (cvec C j k)=(cvec C j k).set j 1:=by
    have:=mp (a:=1) (b:=0) hz hc
    rw [qJ zc (by rw [hc.len];exact hil),if_neg (by have:=(s.pr j hil).1;omega)]at this
    rw [this]
    show(mu O P C d (zv O) (cvec C j k)).set j _=_
    rw [M.l1 hc]
    congr 1
   rw [e1,e2]
  ·have hcj:TT O (O.length-d) (cvec C j k):=(s.cj j k h2 h3).mono (by omega)
   have hn:=nfx h1 (by omega) (s.cj j k h2 h3)
   have e1:Ph O (mu O P C (d+1)) (zv O) (unit O) (O.length-(j+1)) (cvec C j k)=Ph O (mu O P C d) (zv O) (unit O) (O.length-(j+1)) (cvec C j k):=zEZ sub M fun k a b=>un k (by omega) (by omega)
   rw [e1]at hn
   have:=B.rel.cj j k (by omega) h2 h3
   rw [hn]at this
   rw [sub _ _ (un k (by omega) h3) (un j (by omega) (by omega)),sub _ _ (un j (by omega) (by omega)) hcj]
   exact this
theorem full_of (s:Shp O P C):∀{d:Nat},d≤O.length→(∀i,O.length-d≤i→i<O.length→Lv O P C i)→Full O P C d
 | 0,_,_=>zMH s
 | d+1,hd,h=>zMI s (full_of s (by omega) fun i h1 h2=>h i (by omega) h2) (by omega) (h (O.length-(d+1)) (Nat.le_refl _) (by omega))
theorem Mon.ph_app (M:Mon S m e) {f:Nat→α} {x:Nat→Nat} {b:Nat}:∀{a t:Nat},(∀j,t≤j→j<t+a+b→S (f j))→Grp.ph m e f x t (a+b)=m (Grp.ph m e f x t a) (Grp.ph m e f x (t+a) b)
 | 0,t,hf=>by
  rw [Nat.zero_add,Nat.add_zero];exact(M.l1 (M.ph fun j h1 h2=>hf j (by omega) (by omega))).symm
 | a+1,t,hf=>by
  have ft:=hf t (Nat.le_refl _) (by omega)
  rw [show a+1+b=(a+b)+1 by omega,Grp.ph,Grp.ph,M.ph_app fun j h1 h2=>hf j (by omega) (by omega),show t+(a+1)=t+1+a by omega,M.as (M.pw ft _) (M.ph fun j h1 h2=>hf j (by omega) (by omega)) (M.ph fun j h1 h2=>hf j (by omega) (by omega))]
def hdz (x:List Int) (j:Nat):List Int:=x.take (j+1)++List.replicate (x.length-(j+1)) 0
theorem zDN (x:List Int) (j:Nat):(hdz x j).length=x.length:=by simp [hdz];omega
theorem zBk (x:List Int) (j k:Nat):at_ (hdz x j) k=if k≤j then at_ x k else 0:=by
 simp only [hdz,at_,List.getD_eq_getElem?_getD]
 by_cases hk:k≤j
 ·rw [if_pos hk]
  by_cases hl:k<x.length
  ·rw [List.getElem?_append_left (by simp;omega),List.getElem?_take,if_pos (by omega)]
  ·rw [List.getElem?_eq_none (by simp;omega),List.getElem?_eq_none (by omega)]
 ·rw [if_neg hk]
  by_cases hl:k<x.length
  ·rw [List.getElem?_append_right (by simp;omega),List.getElem?_replicate]
   split<;>rfl
  ·rw [List.getElem?_eq_none (by simp;omega)];rfl
theorem zHS {t j:Nat} {x:List Int} (hx:TT O t x) (hO:∀j,j<O.length→0<at_ O j):TT O t (hdz x j):=by
 refine⟨by rw [zDN,hx.len],fun k hk=>?_,fun k hk=>?_⟩
 ·rw [zBk];split
  ·exact hx.bd k hk
  ·exact⟨by omega,hO k hk⟩
 ·rw [zBk];split
  ·exact hx.zero k hk
  ·rfl
def tstep (O:List Int) (P:List (List Int)) (C:List (List (List Int))) (m:List Int→List Int→List Int) (x:List Int) (j:Nat):List Int:=
 fo m (cvec C j) (nx x) (j+1) (O.length-1-j) (if at_ x j+1=at_ O j then m ((hdz x j).set j 0) (pvec P j)else(hdz x j).set j (at_ x j+1))
theorem zMe (s:Shp O P C) (B:Full O P C d) {x:List Int} (hx:TT O (O.length-d) x) {j:Nat} (h1:O.length-d≤j) (h2:j<O.length):tstep O P C (mu O P C d) x j=mu O P C d x (unit O j):=by
 have hle:=B.le;have M:=B.gp.toMon;have hpos:=s.pos h2;have bx:=hx.bd j h2;have un:∀k,O.length-d≤k→k<O.length→TT O (O.length-d) (unit O k):=fun k a b=>s.unit b a
 have cv:∀k,j+1≤k→k<O.length→TT O (O.length-d) (cvec C j k):=fun k a b=>(s.cj j k (by omega) b).mono (by omega)
 have hpv:TT O (O.length-d) (pvec P j):=(s.pw j h2).mono (by omega)
 have uj:=un j h1 h2;have jl:j<(hdz x j).length:=by rw [zDN,hx.len];exact h2
 -- the head, the generator's power, the rest
 let H:=ph (mu O P C d) (zv O) (unit O) (nx x) (O.length-d) (j-(O.length-d))
 have hH:TT O (O.length-d) H:=M.ph fun k a b=>un k (by omega) (by omega)
 have spl:∀{y:List Int},(∀k,k<j→at_ y k=at_ x k)→TT O (O.length-d) y→y=mu O P C d H (mu O P C d (pw (mu O P C d) (zv O) (unit O j) (nx y j)) (ph (mu O P C d) (zv O) (unit O) (nx y) (j+1) (O.length-1-j))):=fun {y} hy ht=>by
  have e1:=B.nf ht;have e2:Ph O (mu O P C d) (zv O) (unit O) d y=mu O P C d (ph (mu O P C d) (zv O) (unit O) (nx y) (O.length-d) (j-(O.length-d))) (ph (mu O P C d) (zv O) (unit O) (nx y) j (O.length-1-j+1)):=by
   have:=M.ph_app (f:=unit O) (x:=nx y) (a:=j-(O.length-d)) (b:=O.length-1-j+1) (t:=O.length-d) fun k a b=>un k (by omega) (by omega)
   rw [show j-(O.length-d)+(O.length-1-j+1)=d by omega,show O.length-d+(j-(O.length-d))=j by omega]at this
   exact this
  have e3:ph (mu O P C d) (zv O) (unit O) (nx y) (O.length-d) (j-(O.length-d))=H:=zB2 fun k a b=>⟨rfl,by show(at_ y k).toNat=(at_ x k).toNat;rw [hy k (by omega)]⟩
  rw [e3]at e2
  exact e1.symm.trans e2
 have rest0:∀{y:List Int},(∀k,j<k→at_ y k=0)→ph (mu O P C d) (zv O) (unit O) (nx y) (j+1) (O.length-1-j)=zv O:=fun {y} hy=>by
  have e1:ph (mu O P C d) (zv O) (unit O) (nx y) (j+1) (O.length-1-j)=ph (mu O P C d) (zv O) (unit O) (nx (zv O)) (j+1) (O.length-1-j):=zB2 fun k a b=>⟨rfl,by show(at_ y k).toNat=(at_ (zv O) k).toNat;rw [hy k (by omega),zo]⟩
  rw [e1]
  have:=Ph_zv (O:=O) (h:=unit O) M (O.length-1-j)
  show ph _ _ _ _ _ _=_;rw [show j+1=O.length-(O.length-1-j) by omega]
  exact this
 let R:=ph (mu O P C d) (zv O) (unit O) (nx x) (j+1) (O.length-1-j)
 let R':=ph (mu O P C d) (zv O) (cvec C j) (nx x) (j+1) (O.length-1-j)
 have hR:TT O (O.length-d) R:=M.ph fun k a b=>un k (by omega) (by omega)
 have hR':TT O (O.length-d) R':=M.ph fun k a b=>cv k a (by omega)
 have past:mu O P C d R (unit O j)=mu O P C d (unit O j) R':=M.past_ph uj fun k a b=>⟨un k (by omega) (by omega),cv k a (by omega),by
  have:=B.rel.cj j k h1 (by omega) (by omega)
  have nfc:Ph O (mu O P C d) (zv O) (unit O) (O.length-(j+1)) (cvec C j k)=cvec C j k:=by
   have hc:=s.cj j k (by omega) (by omega)
   have hn:=B.nf (cv k a (by omega))
   have h3:=M.ph_skip (h:=unit O) (x:=nx (cvec C j k)) (d:=O.length-(j+1)) (k:=j+1-(O.length-d)) (t:=O.length-d) (fun t a b=>by show(at_ _ t).toNat=0;rw [hc.zero t (by omega)];rfl) (fun t a b=>un t (by omega) (by omega))
   rw [show j+1-(O.length-d)+(O.length-(j+1))=d by omega,show O.length-d+(j+1-(O.length-d))=O.length-(O.length-(j+1)) by omega]at h3
   show ph _ _ _ _ _ _=_;rw [←h3];exact hn
  rw [nfc]at this;exact this⟩
 have pj:pw (mu O P C d) (zv O) (unit O j) (nx O j)=pvec P j:=by
  rw [B.rel.pow j h1 h2];have hc:=s.pw j h2;have hn:=B.nf hpv;have h3:=M.ph_skip (h:=unit O) (x:=nx (pvec P j)) (d:=O.length-(j+1)) (k:=j+1-(O.length-d)) (t:=O.length-d) (fun t a b=>by show(at_ _ t).toNat=0;rw [hc.zero t (by omega)];rfl) (fun t a b=>un t (by omega) (by omega))
  rw [show j+1-(O.length-d)+(O.length-(j+1))=d by omega,show O.length-d+(j+1-(O.length-d))=O.length-(O.length-(j+1)) by omega]at h3
  show ph _ _ _ _ _ _=_;rw [←h3];exact hn
 have pwj:∀k,TT O (O.length-d) (pw (mu O P C d) (zv O) (unit O j) k):=fun k=>M.pw uj k
 -- both sides are H g^(e+1) R'
 have rhs:mu O P C d x (unit O j)=mu O P C d (mu O P C d H (pw (mu O P C d) (zv O) (unit O j) (nx x j+1))) R':=by
  conv=>lhs;rw [spl (fun _ _=>rfl) hx]
  rw [M.as hH (M.cl (pwj _) hR) uj,M.as (pwj _) hR uj,past,←M.as (pwj _) uj hR',M.as hH (pwj (nx x j+1)) hR']
  rfl
 have hd1:∀{c:Int},0≤c→c<at_ O j→(hdz x j).set j c=mu O P C d H (pw (mu O P C d) (zv O) (unit O j) c.toNat):=fun {c} c0 c1=>by
  have ht:TT O (O.length-d) ((hdz x j).set j c):=(zHS hx fun k hk=>s.pos hk).set h2 h1 ⟨c0,c1⟩
  have hs:=spl (y:=(hdz x j).set j c) (fun k hk=>by rw [at_set jl,if_neg (by omega),zBk,if_pos (by omega)]) ht
  rw [rest0 fun k hk=>by rw [at_set jl,if_neg (by omega),zBk,if_neg (by omega)],M.r1 (pwj _)]at hs
  rw [hs]
  congr 2
  show(at_ _ j).toNat=_
  rw [at_set jl,if_pos rfl]
 have lhs:(if at_ x j+1=at_ O j then mu O P C d ((hdz x j).set j 0) (pvec P j)else(hdz x j).set j (at_ x j+1))=mu O P C d H (pw (mu O P C d) (zv O) (unit O j) (nx x j+1)):=by
  split
  ·rename_i hc
   rw [hd1 (Int.le_refl _) hpos,←pj,show nx O j=nx x j+1 by show(at_ O j).toNat=(at_ x j).toNat+1;omega]
   show mu O P C d (mu O P C d H (zv O)) _=_;rw [M.r1 hH]
  ·rw [hd1 (by omega) (by omega),show(at_ x j+1).toNat=nx x j+1 by show _=(at_ x j).toNat+1;omega]
 rw [tstep,lhs,rhs];exact M.fo_eq (fun k a b=>cv k a (by omega)) (M.cl hH (pwj _))
end Go.Grp
namespace Go.Grp
end Go.Grp
namespace Go.Proofs
open Go.Ab Go.Lie Go.Grp
variable {σ:PHeap} {K:PV→PHeap→Prop} {O:List Int} {P:List (List Int)} {C:List (List (List Int))} {vO vP vC vx:PV} {s:Nat} {x:List Int}
structure IsPr (vO vP vC:PV) (O:List Int) (P:List (List Int)) (C:List (List (List Int))):Prop where
 O:FI vO O
 P:FII vP P
 C:FIII vC C
structure SzP (O:List Int) (P:List (List Int)) (C:List (List (List Int))):Prop where
 O:O.length≤1048576
 P:SzL P
 C:SzM C
structure PtrG (σ:PHeap) (s:Nat) (vO vP vC:PV):Prop where
 obj:σ.obj s=some [vO,vP,vC]
 lt:s<σ.next
theorem PtrG.new (h:PtrG σ s vO vP vC) (cs:List PV):PtrG (σ.new cs) s vO vP vC:=⟨by have:=h.lt;simp only [pwA,seval,-iQ0,Nat.ne_of_lt this];exact h.obj,by have:=h.lt;simp only [pwA,seval,-iQ0];omega⟩
theorem PtrG.set (h:PtrG σ s vO vP vC) {t:Nat} (ht:s≠t) (cs:List PV):PtrG (σ.set t cs) s vO vP vC:=⟨by simp only [pwA,seval,-iQ0,ht];exact h.obj,h.lt⟩
theorem PtrG.keep {h:PHeap} (hs:PtrG σ s vO vP vC) (hk:Keep σ h):PtrG h s vO vP vC:=⟨by rw [hk.obj s hs.lt];exact hs.obj,Nat.lt_of_lt_of_le hs.lt hk.next⟩
def isExp (O x:List Int):Prop:=x.length=O.length∧∀j,j<x.length→0≤at_ x j∧at_ x j≤at_ O j-1
def QQ (O:List Int) (t:Nat) (x:List Int):Prop:=isExp O x∧isZ (x.take t)
def prodL:List Int→Int
 | []=>1
 | o::O=>o*prodL O
def rowPr (O:List Int) (P:List (List Int)) (C:List (List (List Int))) (i:Nat):Prop:=QQ O (i+1) (P.getD i [])∧(C.getD i []).length=O.length-1-i∧∀k,k<(C.getD i []).length→QQ O (i+1) ((C.getD i []).getD k [])
def ZI (O:List Int) (P:List (List Int)) (C:List (List (List Int))):Prop:=
 O.length≤6∧P.length=O.length∧C.length=O.length∧(∀o∈O,isP o)∧prodL O≤729∧∀i,i<O.length→rowPr O P C i
theorem QQ.tt {t:Nat} (h:QQ O t x):TT O t x:=by
 refine⟨h.1.1,fun j hj=>by have:=h.1.2 j (by rw [h.1.1];exact hj);omega,fun j hj=>?_⟩
 rcases Nat.lt_or_ge j x.length with e|e
 ·rw [at_eq e]
  exact h.2 _ (by rw [List.mem_take_iff_getElem];exact⟨j,by omega,rfl⟩)
 ·exact at_ge e
theorem ZI.shp (h:ZI O P C):Shp O P C:=by
 obtain⟨h1,h2,h3,h4,h5,h6⟩:=h;refine⟨h1,fun j hj=>?_,h2,h3,fun i hi=>(h6 i hi).1.tt,fun i hi=>(h6 i hi).2.1,fun i j hij hj=>?_⟩
 ·rw [at_eq hj];exact(h4 _ (List.getElem_mem hj)).bd
 ·have:=(h6 i (by omega)).2.2 (j-i-1) (by rw [(h6 i (by omega)).2.1];omega)
  exact this.tt
theorem Q4 (hs:PtrG σ s vO vP vC) (hO:FI vO O) (szO:O.length≤1048576) (bO:∀o∈O,isP o) (hx:FI vx x) (hb:x.length≤1048576) (hk:∀t:Bool,(t=true↔isExp O x)→K (.bool t) σ):zA Tryz.prog 119 [.ptr s 0,vx] σ K:=by
 have fl:∀{A:Prop},¬A→((false=true)↔A):=fun h=>⟨fun x=>(by cases x),fun x=>absurd x h⟩
 obtain⟨wo,ao,rfl⟩:=hO;obtain⟨wx,ax,rfl⟩:=hx;have e0:σ.rd1 s 0=some (.fz wo ao O.length (pis O)):=by rw [zI hs.obj];rfl
 refine zD mix Tryz.func119 ?_
 conv=>arg 2;cbv
 refine zF rfl ?_;simp only [pwA,seval,-iQ0,e0];refine iteI (fun hl=>?_) fun hl=>?_
 rotate_left
 ·exact hk _ (fl fun h=>hl (by rw [h.1]))
 have hl:x.length=O.length:=by omega
 refine zG (fun m vs h'=>∃i:Nat,i≤x.length∧m=x.length-i∧vs=[.ptr s 0,.fz wx ax x.length (pis x),.int .i64 x.length,.int .i64 i]∧σ=h'∧∀j,j<i→0≤at_ x j∧at_ x j≤at_ O j-1) x.length ?_ ?_
 ·exact⟨0,by omega,by omega,rfl,rfl,fun j hj=>by omega⟩
 rintro m vs h' ⟨i,hi,rfl,rfl,rfl,hall⟩
 simp only [pwA,seval,-iQ0];refine iteI (fun hlt=>?_) fun hge=>?_
 ·have hO':i<O.length:=by omega
  have bo:=(bO _ (List.getElem_mem hO')).bd;simp only [pwA,seval,-iQ0,hlt,hO',e0,gi hlt,gi hO',zU,wrap64 (n:=O[i] - 1) (by omega) (by omega)]
  refine zF3 ?_
  by_cases hin:0≤x[i]∧x[i]≤O[i] - 1
  ·simp only [pwA,seval,-iQ0,hin,wrapS hlt (by omega:x.length≤4611686018427387904)]
   refine⟨_,by omega,i+1,by omega,rfl,rfl,fun j hj=>?_⟩
   by_cases e:j=i
   ·subst e;rw [at_eq hlt,at_eq hO'];exact hin
   ·exact hall j (by omega)
  ·simp only [pwA,seval,-iQ0,hin]
   exact hk _ (fl fun h=>hin (by have:=h.2 i hlt;rwa [at_eq hlt,at_eq hO']at this))
 ·exact hk _ ⟨fun _=>⟨hl,fun j hj=>hall j (by omega)⟩,fun _=>rfl⟩
theorem zCK {i:Nat} (hs:PtrG σ s vO vP vC) (hO:FI vO O) (szO:O.length≤1048576) (bO:∀o∈O,isP o) (hx:FI vx x) (hb:x.length≤1048576) (hi:i<O.length) (hk:∀t:Bool,(t=true↔QQ O (i+1) x)→K (.bool t) σ):zA Tryz.prog 212 [.ptr s 0,.int .i64 i,vx] σ K:=by
 have fl:∀{A:Prop},¬A→((false=true)↔A):=fun h=>⟨fun x=>(by cases x),fun x=>absurd x h⟩
 refine zD mix Tryz.func212 ?_
 conv=>arg 2;cbv
 refine zF rfl ?_;simp only [pwA,seval,-iQ0];refine Q4 hs hO szO bO hx hb fun t ht=>?_
 cases t with
 | false=>
  simp only [pwA,seval,-iQ0];exact hk _ (fl fun h=>by cases ht.2 h.1)
 | true=>
  have he:=ht.1 rfl;have hl:=he.1;obtain⟨wx,ax,rfl⟩:=hx;have hle2:((i+1:Nat):Int)≤(x.length:Int):=by omega
  have hle3:i+1≤x.length:=by omega
  simp only [pwA,seval,-iQ0,wrapS hi (by omega:O.length≤4611686018427387904),hle2,hle3,zDw,Nat.sub_zero]
  refine ZX (by simp;omega) (by simp;omega) ?_
  by_cases hz:isZ (x.take (i+1))
  ·simp only [pwA,seval,-iQ0,hz]
   exact hk _ ⟨fun _=>⟨he,hz⟩,fun _=>rfl⟩
  ·simp only [pwA,seval,-iQ0,hz]
   exact hk _ (fl fun h=>hz h.2)
theorem zAv:∀(a b:List Int),prodL (a++b)=prodL a*prodL b
 | [],b=>by simp [prodL]
 | x::a,b=>by simp [prodL,zAv a b,Int.mul_assoc]
theorem zBy {i:Nat} (hi:i<O.length):prodL (O.take (i+1))=prodL (O.take i)*O[i]:=by
 rw [List.take_succ_eq_append_getElem hi,zAv];simp [prodL]
theorem zBC:∀{O:List Int},(∀o∈O,isP o)→1≤prodL O
 | [],_=>by simp [prodL]
 | o::O,h=>by
  have h1:=(h o (by simp)).bd
  have h2:=zBC (O:=O) fun q hq=>h q (by simp [hq])
  simp only [prodL]
  have:=Int.mul_le_mul h1.1 h2 (by omega) (by omega)
  omega
theorem zJ2 (h:∀o∈O,isP o) (i:Nat):prodL (O.take i)≤prodL O:=by
 have h1:=zBC fun o ho=>h o (List.mem_of_mem_take (i:=i) ho)
 have h2:=zBC fun o ho=>h o (List.mem_of_mem_drop (i:=i) ho)
 have:prodL O=prodL (O.take i)*prodL (O.drop i):=by rw [←zAv,List.take_append_drop]
 have h3:=Int.mul_le_mul (Int.le_refl (prodL (O.take i))) h2 (by omega) (by omega)
 omega
theorem zDY (hR:IsPr vO vP vC O P C) (sz:SzP O P C) (hk:∀t:Bool,(t=true↔ZI O P C)→K (.bool t) σ):zA Tryz.prog 123 [.agg [vO,vP,vC]] σ K:=by
 have hFO:=hR.O;have ho1:=hR.O.one;have szP:=sz.P;have szC:=sz.C;obtain⟨⟨w0,a0,rfl⟩,⟨w1,a1,rP,rfl,hP⟩,⟨w3,a3,rC,rfl,hC⟩⟩:=hR;refine zA.gh ?_;have fin:∀{t:Bool} {σ':PHeap},(t=true↔ZI O P C)→Keep σ σ'→Gh σ K (.bool t) σ':=fun h k=>Gh.fin0 k trivial (hk _ h)
 have no:∀{σ':PHeap},¬ZI O P C→Keep σ σ'→Gh σ K (.bool false) σ':=fun h k=>fin ⟨fun x=>(by cases x),fun x=>absurd x h⟩ k
 have hkp:=zC σ [.fz w0 a0 O.length (pis O),.fz w1 a1 P.length rP,.fz w3 a3 C.length rC];have hpt:PtrG (σ.new [.fz w0 a0 O.length (pis O),.fz w1 a1 P.length rP,.fz w3 a3 C.length rC]) σ.next (.fz w0 a0 O.length (pis O)) (.fz w1 a1 P.length rP) (.fz w3 a3 C.length rC):=⟨by simp only [pwA,seval,-iQ0],by simp only [pwA,seval,-iQ0]⟩
 refine zD mix Tryz.func123 ?_
 conv=>arg 2;cbv
 refine zF rfl ?_;simp only [pwA,seval,-iQ0]
 by_cases h6:O.length≤6
 rotate_left
 ·have h6':(6:Int)<(O.length:Int):=by omega
  simp only [pwA,seval,-iQ0,h6'];exact no (fun h=>h6 h.1) hkp
 have h6':¬(6:Int)<(O.length:Int):=by omega
 by_cases hPl:P.length=O.length
 rotate_left
 ·have hPl':¬(P.length:Int)=(O.length:Int):=by omega
  simp only [pwA,seval,-iQ0,h6',hPl'];exact no (fun h=>hPl h.2.1) hkp
 have hPl':(P.length:Int)=(O.length:Int):=by omega
 by_cases hCl:C.length=O.length
 rotate_left
 ·have hCl':¬(C.length:Int)=(O.length:Int):=by omega
  simp only [pwA,seval,-iQ0,h6',eq_true hPl',hCl'];exact no (fun h=>hCl h.2.2.1) hkp
 have hCl':(C.length:Int)=(O.length:Int):=by omega
 simp only [pwA,seval,-iQ0,h6',eq_true hPl',eq_true hCl'];refine zG (fun m vs h'=>∃i:Nat,i≤O.length∧m=O.length-i∧vs=[.ptr σ.next 0,.int .i64 O.length,.int .i64 (prodL (O.take i)),.fz w0 a0 O.length (pis O),.int .i64 O.length,.int .i64 i]∧h'=σ.new [.fz w0 a0 O.length (pis O),.fz w1 a1 P.length rP,.fz w3 a3 C.length rC]∧(∀o∈O.take i,isP o)∧prodL (O.take i)≤729) O.length ?_ ?_
 ·exact⟨0,by omega,by omega,rfl,rfl,by simp,by simp [prodL]⟩
 rintro m vs h' ⟨i,hi,rfl,rfl,rfl,hall,hpr⟩
 simp only [pwA,seval,-iQ0];refine iteI (fun hlt=>?_) fun hge=>?_
 ·simp only [pwA,seval,-iQ0,hlt,gi hlt,zU]
  refine zBO ?_
  by_cases hp:isP O[i]
  rotate_left
  ·simp only [pwA,seval,-iQ0,hp]
   exact no (fun h=>hp (h.2.2.2.1 _ (List.getElem_mem hlt))) hkp
  have hpb:=hp.bd;have h1:=zBC hall;have hm1:0≤prodL (O.take i)*O[i]:=Int.mul_nonneg (by omega) (by omega)
  have hm2:=Int.mul_le_mul hpr hpb.2 (by omega) (by omega)
  have hw:IntKind.i64.wrap (prodL (O.take i)*O[i])=prodL (O.take i)*O[i]:=wrap64 (by omega) (by omega)
  by_cases ho:prodL (O.take i)*O[i]≤729
  ·have ho':¬(729:Int)<prodL (O.take i)*O[i]:=by omega
   simp only [pwA,seval,-iQ0,hp,hw,ho',hlt,gi hlt,zU,wrapS hlt (by omega:O.length≤4611686018427387904)]
   refine⟨_,by omega,i+1,by omega,rfl,?_,zHW hlt hall hp,?_⟩
   ·rw [zBy hlt]
   ·rw [zBy hlt];exact ho
  ·have ho':(729:Int)<prodL (O.take i)*O[i]:=by omega
   simp only [pwA,seval,-iQ0,hp,hw,ho'];refine no (fun h=>?_) hkp
   have:=zJ2 h.2.2.2.1 (i+1)
   rw [zBy hlt]at this
   have:=h.2.2.2.2.1
   omega
 have hie:i=O.length:=by omega
 subst hie;rw [List.take_length]at hall hpr
 refine zG (fun m vs h'=>∃i:Nat,i≤O.length∧m=O.length-i∧vs=[.ptr σ.next 0,.int .i64 O.length,.int .i64 O.length,.int .i64 i]∧h'=σ.new [.fz w0 a0 O.length (pis O),.fz w1 a1 P.length rP,.fz w3 a3 C.length rC]∧∀j,j<i→rowPr O P C j) O.length ?_ ?_
 ·exact⟨0,by omega,by omega,rfl,rfl,fun j hj=>by omega⟩
 rintro m vs h' ⟨i,hi,rfl,rfl,rfl,hrow⟩
 simp only [pwA,seval,-iQ0];refine iteI (fun hlt=>?_) fun hge=>?_
 rotate_left
 ·exact fin ⟨fun _=>⟨h6,hPl,hCl,hall,hpr,fun j hj=>hrow j (by omega)⟩,fun _=>rfl⟩ hkp
 have hiP:i<P.length:=by omega
 have hiC:i<C.length:=by omega
 obtain⟨w4,a4,hr⟩:=hP.rowI hiP;obtain⟨w5,a5,rs,hrb,hrs⟩:=hC.rowL hiC;have hwl:=szP.r _ (List.getElem_mem hiP);have hbl:=(szC.r _ (List.getElem_mem hiC)).l;have bad:(QQ O (i+1) P[i]→C[i].length=O.length-1-i→(∀k (h:k<C[i].length),QQ O (i+1) C[i][k])→False)→¬ZI O P C:=fun hb hsh=>by
  obtain⟨q1,q3,q4⟩:=hsh.2.2.2.2.2 i hlt;rw [qK hiP]at q1
  rw [zR hiC]at q3
  refine hb q1 q3 fun k h=>?_
  have:=q4 k (by rw [zR hiC];exact h)
  rwa [zR hiC,zR h]at this
 simp only [pwA,seval,-iQ0,hiP,hr];refine zCK hpt hFO sz.O hall ⟨_,_,rfl⟩ hwl hlt fun t ht=>?_
 cases t with
 | false=>
  simp only [pwA,seval,-iQ0];exact no (bad fun q _ _=>by cases ht.2 q) hkp
 | true=>
 have hv:=ht.1 rfl;have e1:IntKind.i64.wrap ((O.length:Int)-1)=(O.length:Int)-1:=wrap64 (by omega) (by omega)
 have e2:IntKind.i64.wrap ((O.length:Int)-1-(i:Int))=(O.length:Int)-1-(i:Int):=wrap64 (by omega) (by omega)
 by_cases hlen:C[i].length=O.length-1-i
 rotate_left
 ·have hlen':¬(C[i].length:Int)=(O.length:Int)-1-(i:Int):=by omega
  simp only [pwA,seval,-iQ0,hlt,hiC,hrb,e1,e2,hlen'];exact no (bad fun _ q _=>hlen q) hkp
 have hlen':(C[i].length:Int)=(O.length:Int)-1-(i:Int):=by omega
 simp only [pwA,seval,-iQ0,hlt,hiC,hrb,e1,e2,eq_true hlen'];refine zG (fun m vs h'=>∃k:Nat,k≤C[i].length∧m=C[i].length-k∧vs=[.ptr σ.next 0,.int .i64 O.length,.int .i64 i,.int .i64 O.length,.int .i64 i,.fz w5 a5 C[i].length rs,.int .i64 C[i].length,.int .i64 k]∧
  h'=σ.new [.fz w0 a0 O.length (pis O),.fz w1 a1 P.length rP,.fz w3 a3 C.length rC]∧∀j (h:j<C[i].length),j<k→QQ O (i+1) C[i][j]) C[i].length ?_ ?_
 ·exact⟨0,by omega,by omega,rfl,rfl,fun j h hj=>by omega⟩
 rintro m vs h' ⟨k,hk',rfl,rfl,rfl,hall2⟩
 simp only [pwA,seval,-iQ0];refine iteI (fun hlt2=>?_) fun hge=>?_
 ·obtain⟨w6,a6,hrk⟩:=hrs.rowI hlt2
  have hcl:=(szC.r _ (List.getElem_mem hiC)).r _ (List.getElem_mem hlt2);simp only [pwA,seval,-iQ0,hlt2,hrk];refine zCK hpt hFO sz.O hall ⟨_,_,rfl⟩ hcl hlt fun t ht=>?_
  cases t with
  | false=>
   simp only [pwA,seval,-iQ0];exact no (bad fun _ _ q=>by cases ht.2 (q k hlt2)) hkp
  | true=>
   simp only [pwA,seval,-iQ0,wrapS hlt2 (by omega:C[i].length≤4611686018427387904)]
   refine⟨_,by omega,k+1,by omega,rfl,rfl,fun j h hj=>?_⟩
   by_cases e:j=k
   ·subst e;exact ht.1 rfl
   ·exact hall2 j h (by omega)
 ·simp only [pwA,seval,-iQ0,wrapS hlt (by omega:O.length≤4611686018427387904)]
  refine⟨_,by omega,i+1,by omega,rfl,rfl,fun j hj=>?_⟩
  by_cases e:j=i
  ·subst e
   refine⟨by rw [qK hiP];exact hv,by rw [zR hiC];exact hlen,fun t ht=>?_⟩
   rw [zR hiC]at ht ⊢
   rw [zR ht];exact hall2 t ht (by omega)
  ·exact hrow j (by omega)
end Go.Proofs
namespace Go.Grp
end Go.Grp
namespace Go.Proofs
open Go.Ab Go.Lie Go.Grp
variable {σ:PHeap} {K:PV→PHeap→Prop} {O:List Int} {P:List (List Int)} {C:List (List (List Int))} {vO vP vC vx:PV} {s:Nat} {x:List Int}
theorem zEr {t:Nat} {z:Int} (hz:z=(t:Int)-1) (ht:t≤O.length) (hO:FI vO O) (szO:O.length≤1048576) (bO:∀o∈O,isP o) (hx:FI vx x) (hb:x.length≤1048576) (hk:∀b:Bool,(b=true↔QQ O t x)→K (.bool b) σ):zA Tryz.prog 218 [vO,vx,.int .i64 z] σ K:=by
 have fl:∀{A:Prop},¬A→((false=true)↔A):=fun h=>⟨fun x=>(by cases x),fun x=>absurd x h⟩
 obtain⟨wo,ao,rfl⟩:=hO;obtain⟨wx,ax,rfl⟩:=hx;subst hz;refine zL mix Tryz.func218 cf218 rfl ?_;dsimp only [if218,qD,eD,mI0,kI0,tI0,bI0,cI0,sI0,mD0,lD0,xD0,R0,S0];simp only [pwA,seval,-iQ0];refine iteI (fun hl=>?_) fun hl=>?_
 rotate_left
 ·exact hk _ (fl fun h=>hl (by rw [h.1.1]))
 have hl:x.length=O.length:=by omega
 refine zG (fun m vs h'=>∃i:Nat,i≤x.length∧m=x.length-i∧vs=[.fz wo ao O.length (pis O),.fz wx ax x.length (pis x),.int .i64 ((t:Int)-1),.int .i64 i]∧σ=h'∧∀j,j<i→(0≤at_ x j∧at_ x j≤at_ O j-1)∧(j<t→at_ x j=0)) x.length ?_ ?_
 ·exact⟨0,by omega,by omega,rfl,rfl,fun j hj=>by omega⟩
 rintro m vs h' ⟨i,hi,rfl,rfl,rfl,hall⟩
 simp only [pwA,seval,-iQ0];refine iteI (fun hlt=>?_) fun hge=>?_
 rotate_left
 ·refine hk _ ⟨fun _=>⟨⟨hl,fun j hj=>(hall j (by omega)).1⟩,fun y hy=>?_⟩,fun _=>rfl⟩
  rw [List.mem_take_iff_getElem]at hy
  obtain⟨j,hj,rfl⟩:=hy
  have:=(hall j (by omega)).2 (by omega)
  rwa [at_eq (by omega)]at this
 have hO':i<O.length:=by omega
 have bo:=(bO _ (List.getElem_mem hO')).bd;simp only [pwA,seval,-iQ0,hlt,hO',gi hlt,gi hO',zU,wrap64 (n:=O[i] - 1) (by omega) (by omega)]
 refine zHJ ?_
 by_cases hin:0≤x[i]∧x[i]≤O[i] - 1
 rotate_left
 ·simp only [pwA,seval,-iQ0,hin]
  exact hk _ (fl fun h=>hin (by have:=h.1.2 i hlt;rwa [at_eq hlt,at_eq hO']at this))
 have next:(i<t→x[i]=0)→∃n',n'<x.length-i∧∃i':Nat,i'≤x.length∧n'=x.length-i'∧[PV.fz wo ao O.length (pis O),.fz wx ax x.length (pis x),.int .i64 ((t:Int)-1),.int .i64 ((i+1:Nat):Int)]=[.fz wo ao O.length (pis O),.fz wx ax x.length (pis x),.int .i64 ((t:Int)-1),.int .i64 i']∧∀j,j<i'→(0≤at_ x j∧at_ x j≤at_ O j-1)∧(j<t→at_ x j=0):=fun h0=>by
  refine⟨_,by omega,i+1,by omega,rfl,rfl,fun j hj=>?_⟩
  by_cases e:j=i
  ·subst e;rw [at_eq hlt,at_eq hO'];exact⟨hin,h0⟩
  ·exact hall j (by omega)
 by_cases hle:(i:Int)≤(t:Int)-1
 ·simp only [pwA,seval,-iQ0,hin,hle,hlt,gi hlt,zU]
  refine iteI (fun h0=>?_) fun h0=>?_
  ·simp only [pwA,seval,-iQ0,wrapS hlt (by omega:x.length≤4611686018427387904)]
   exact next fun _=>h0
  ·refine hk _ (fl fun h=>h0 ?_)
   exact h.2 _ (by rw [List.mem_take_iff_getElem];exact⟨i,by omega,rfl⟩)
 ·simp only [pwA,seval,-iQ0,hin,hle,hlt,wrapS hlt (by omega:x.length≤4611686018427387904)]
  exact next fun h=>absurd h (by omega)
end Go.Proofs
namespace Go.Grp
end Go.Grp
namespace Go.Proofs
open Go.Ab Go.Lie Go.Grp
variable {σ:PHeap} {K:PV→PHeap→Prop} {O:List Int} {P:List (List Int)} {C:List (List (List Int))} {vO vP vC vx:PV} {s:Nat} {x:List Int} {rP rC:List PV}
theorem pisAt {i:Nat} (h:i<x.length):(pis x)[i]? = some (.int .i64 (at_ x i)):=by rw [zU,gi h,at_eq h];rfl
theorem pvRow (s:Shp O P C) (hP:All2 FI rP P) {i:Nat} (hi:i<O.length):∃w a,rP[i]? = some (.fz w a O.length (pis (pvec P i))):=by
 have hiP:i<P.length:=by rw [s.pl];exact hi
 obtain⟨w,a,h⟩:=hP.rowI hiP;refine⟨w,a,?_⟩;have e:pvec P i=P[i]:=qK hiP;rw [h,e,show P[i].length=O.length by rw [←e];exact(s.pw i hi).len]
theorem cvRow (s:Shp O P C) (hC:All2 FII rC C) {i:Nat} (hi:i<O.length):∃w a rs,rC[i]? = some (.fz w a (O.length-1-i) rs)∧∀q,q<O.length-1-i→∃w' a',rs[q]? = some (.fz w' a' O.length (pis (cvec C i (i+(1+q))))):=by
 have hiC:i<C.length:=by rw [s.cl];exact hi
 obtain⟨w,a,rs,h,hrs⟩:=hC.rowL hiC;have e:C.getD i []=C[i]:=zR hiC;have hl:C[i].length=O.length-1-i:=by rw [←e];exact s.row i hi
 refine⟨w,a,rs,by rw [h,hl],fun q hq=>?_⟩
 have hq':q<C[i].length:=by omega
 obtain⟨w',a',h'⟩:=hrs.rowI hq';have e2:cvec C i (i+(1+q))=C[i][q]:=by
  show(C.getD i []).getD (i+(1+q)-i-1) []=_
  rw [e,show i+(1+q)-i-1=q by omega];exact qK hq'
 exact⟨w',a',by rw [h',e2,show C[i][q].length=O.length by rw [←e2];exact(s.cj i _ (by omega) (by omega)).len]⟩
theorem FI.mk {w:Bool} {a:AV} {n:Nat} (h:x.length=n):FI (.fz w a n (pis x)) x:=⟨w,a,by rw [h]⟩
def AtOK (O:List Int) (P:List (List Int)) (C:List (List (List Int))) (d i:Nat):Prop:=
 ∀{σ:PHeap} {K:PV→PHeap→Prop} {a b:List Int} {va vb vO vP vC:PV},IsPr vO vP vC O P C→TT O i a→TT O i b→FI va a→FI vb b→(∀v,FI v (mu O P C d a b)→K v σ)→zA Tryz.prog 219 [.agg [vO,vP,vC],.int .i64 i,va,vb] σ K
theorem zIr (s:Shp O P C) {d i:Nat} (hi:O.length=d+(i+1)) (hAt:AtOK O P C d (i+1)) (hR:IsPr vO vP vC O P C) (hx:TT O 0 x) (hvx:FI vx x) (hk:∀v,FI v (Grp.img O C (mu O P C d) i x)→K v σ):
  zA Tryz.prog 291 [.agg [vO,vP,vC],.int .i64 i,vx] σ K:=by
 have hn6:=s.le;have hR0:=hR;have hl:=hx.len;have hil:i<O.length:=by omega
 have hm:∀a b,TT O (i+1) a→TT O (i+1) b→TT O (i+1) (mu O P C d a b):=fun a b ha hb=>by
  have:=mu_tt s (d:=d) (a:=a) (b:=b) (by omega) (by rwa [show O.length-d=i+1 by omega]) (by rwa [show O.length-d=i+1 by omega])
  rwa [show O.length-d=i+1 by omega]at this
 obtain⟨⟨w0,a0,rfl⟩,⟨w1,a1,rP,rfl,hP⟩,⟨w3,a3,rC,rfl,hC⟩⟩:=hR;obtain⟨w5,a5,rs,hrb,hrs⟩:=cvRow s hC hil;have hiC:i<C.length:=by rw [s.cl];exact hil
 obtain⟨wx,ax,rfl⟩:=hvx;rw [hl];refine zA.gh ?_;refine zL mix Tryz.func291 cf291 rfl ?_;dsimp only [if291,qI,eI,qD,eD,mI0,kI0,lI0,fI0,xI0,bI0,cI0,sI0,mD0,lD0,fD0,xD0,R0,S0];simp only [pwA,seval,-iQ0,List.length_replicate,qH,mk8 (n:=O.length) (by omega),mkL (n:=O.length) (by omega),wrapS hil (by omega:O.length≤4611686018427387904)]
 have hkp:Keep σ (((σ.new [.fz w0 a0 O.length (pis O),.fz w1 a1 P.length rP,.fz w3 a3 C.length rC]).new (pis (zv O))).kill (σ.next+1)):=((zC σ _).new _).kill (by omega)
 refine Zc (fun m vs h'=>∃(q:Nat) (vo:PV) (A:List Int),q≤d∧m=d-q∧vs=[.int .i64 i,.fz wx ax O.length (pis x),.ptr σ.next 0,.int .i64 O.length,vo,.int .i64 ((i+(1+q):Nat):Int)]∧
  h'=((σ.new [.fz w0 a0 O.length (pis O),.fz w1 a1 P.length rP,.fz w3 a3 C.length rC]).new (pis (zv O))).kill (σ.next+1)∧FI vo A∧TT O (i+1) A∧fo (mu O P C d) (cvec C i) (nx x) (i+(1+q)) (d-q) A=Grp.img O C (mu O P C d) i x) d ?_ ?_
 ·refine .fz (σ.next+1) (pis (zv O)) (by simp only [pwA,seval,-iQ0]) (zN _ _) fun o1=>.here ?_
  refine⟨0,.fz true (.sl o1 0 O.length (.known O.length)) O.length (pis (zv O)),zv O,by omega,by omega,?_,rfl,FI.mk (by simp),s.zv _,?_⟩
  ·simp only [pwA,seval,-iQ0]
   simp only [sbs,sb,capOK,Nat.le_refl,decide_true,and_self,if_true]
  ·show _=fo _ _ _ (i+1) (O.length-1-i) (zv O)
   rw [show O.length-1-i=d by omega];rfl
 rintro m vs h' ⟨q,vo,A,hq,rfl,rfl,rfl,hvo,hA,hfo⟩
 simp only [pwA,seval,-iQ0];refine iteI (fun hlt=>?_) fun hge=>?_
 rotate_left
 ·have hqd:q=d:=by omega
  subst hqd;rw [Nat.sub_self]at hfo
  have:A=Grp.img O C (mu O P C q) i x:=hfo
  rw [←this]at hk
  exact Gh.fin0 hkp (hvo.bel _) (hk _ hvo)
 have hqd:q<d:=by omega
 have hjl:i+(1+q)<x.length:=by omega
 have bx:=hx.bd (i+(1+q)) (by omega)
 have bO:=s.pr (i+(1+q)) (by omega)
 obtain⟨w6,a6,hrk⟩:=hrs q (by omega)
 have hjr:q<O.length-1-i:=by omega
 have hcv:=s.cj i (i+(1+q)) (by omega) (by omega)
 have e3:IntKind.i64.wrap (((i+(1+q):Nat):Int)-(i:Int))=((1+q:Nat):Int):=by rw [wrap64 (by omega) (by omega)];omega
 have e4:IntKind.i64.wrap (((1+q:Nat):Int)-1)=(q:Int):=by rw [wrap64 (by omega) (by omega)];omega
 have e5:IntKind.i64.wrap (((i+(1+q):Nat):Int)+1)=((i+(1+(q+1)):Nat):Int):=by rw [wrap64 (by omega) (by omega)];omega
 rw [show d-q=(d-q-1)+1 by omega]at hfo
 refine zG (fun m vs h'=>∃(k:Nat) (vo:PV) (A:List Int),k≤nx x (i+(1+q))∧m=nx x (i+(1+q))-k∧vs=[.int .i64 i,.fz wx ax O.length (pis x),.ptr σ.next 0,.int .i64 O.length,vo,.int .i64 ((i+(1+q):Nat):Int),.int .i64 k]∧
  h'=((σ.new [.fz w0 a0 O.length (pis O),.fz w1 a1 P.length rP,.fz w3 a3 C.length rC]).new (pis (zv O))).kill (σ.next+1)∧FI vo A∧TT O (i+1) A∧fo (mu O P C d) (cvec C i) (nx x) (i+(1+q)+1) (d-q-1) (rep (mu O P C d) (cvec C i (i+(1+q))) (nx x (i+(1+q))-k) A)=Grp.img O C (mu O P C d) i x) (nx x (i+(1+q))) ?_ ?_
 ·exact⟨0,vo,A,by omega,by omega,rfl,rfl,hvo,hA,hfo⟩
 rintro m vs h' ⟨k,vo,A,hkn,rfl,rfl,rfl,hvo,hA,hfo⟩
 have hnx:((nx x (i+(1+q)):Nat):Int)=at_ x (i+(1+q)):=Int.toNat_of_nonneg bx.1;simp only [pwA,seval,-iQ0,pisAt hjl,hjl,hl ▸ hjl];refine iteI (fun hlt2=>?_) fun hge2=>?_
 ·have hlt3:k<nx x (i+(1+q)):=by omega
  simp only [pwA,seval,-iQ0,wrapS hil (by omega:O.length≤4611686018427387904),hiC,hrb,e3,e4,hjr,hrk]
  refine hAt hR0 hA hcv hvo (FI.mk hcv.len) fun v hv=>?_
  simp only [pwA,seval,-iQ0,wrapS hlt3 (by omega:nx x (i+(1+q))≤4611686018427387904)]
  refine⟨_,by omega,k+1,v,_,by omega,rfl,rfl,hv,hm _ _ hA hcv,?_⟩
  rw [show nx x (i+(1+q))-k=(nx x (i+(1+q))-(k+1))+1 by omega]at hfo
  exact hfo
 ·have hke:k=nx x (i+(1+q)):=by omega
  subst hke;simp only [pwA,seval,-iQ0,e5];refine⟨d-(q+1),by omega,.here ⟨q+1,vo,A,by omega,rfl,rfl,rfl,hvo,hA,?_⟩⟩
  rw [Nat.sub_self]at hfo
  rw [show d-(q+1)=d-q-1 by omega]
  exact hfo
theorem zA2 (s:Shp O P C):∀{d i:Nat},O.length=d+i→AtOK O P C d i
 | 0,i,hi=>by
  rename_i σ K a b va vb vO vP vC
  intro hR ha hb hva hvb hk;have hn6:=s.le;obtain⟨⟨w0,a0,rfl⟩,⟨w1,a1,rP,rfl,hP⟩,⟨w3,a3,rC,rfl,hC⟩⟩:=hR;refine zA.gh ?_;have hge:(O.length:Int)≤(i:Int):=by omega
  refine zL mix Tryz.func219 cf219 rfl ?_;dsimp only [if219,qI,eI,nI,qD,eD,mI0,kI0,lI0,LI0,fI0,xI0,bI0,cI0,sI0,C1,C3,mD0,lD0,fD0,xD0,R0,S0];simp only [pwA,seval,-iQ0,hge,List.length_replicate,qH,mk8 (n:=O.length) (by omega),mkL (n:=O.length) (by omega)]
  exact Gh.finF (s:=σ.next+1) ((zC σ _).new _) (by simp only [pwA,seval,-iQ0];rfl) (by omega) (zN _ _) (by simp [capOK]) fun o1=>hk _ (FI.mk (by simp [mu]))
 | d+1,i,hi=>by
  rename_i σ K a b va vb vO vP vC
  intro hR ha hb hva hvb hk;have hAt:AtOK O P C d (i+1):=zA2 s (by omega)
  have hn6:=s.le;have hR0:=hR;have hil:i<O.length:=by omega
  have hO:=s.pr i hil;have hal:=ha.len;have hbl:=hb.len;have ba:=ha.bd i hil;have bb:=hb.bd i hil;have hpos:=s.pos hil;have h0i:O.length-(d+1)=i:=by omega
  have hm:∀a b,TT O (i+1) a→TT O (i+1) b→TT O (i+1) (mu O P C d a b):=fun a b ha hb=>by
   have:=mu_tt s (d:=d) (a:=a) (b:=b) (by omega) (by rwa [show O.length-d=i+1 by omega]) (by rwa [show O.length-d=i+1 by omega])
   rwa [show O.length-d=i+1 by omega]at this
  obtain⟨⟨w0,a0,rfl⟩,⟨w1,a1,rP,rfl,hP⟩,⟨w3,a3,rC,rfl,hC⟩⟩:=hR;obtain⟨w5,a5,hpr⟩:=pvRow s hP hil;have hiP:i<P.length:=by rw [s.pl];exact hil
  have hpv:=s.pw i hil;obtain⟨wa,aa,rfl⟩:=hva;obtain⟨wb,ab,rfl⟩:=hvb;have hila:i<a.length:=by omega
  have hilb:i<b.length:=by omega
  have hge:¬(O.length:Int)≤(i:Int):=by omega
  have sa:=ha.set0 hil hpos;have sb':=hb.set0 hil hpos;have sal:=sa.len;have sbl:=sb'.len;refine zA.gh ?_;refine zL mix Tryz.func219 cf219 rfl ?_;dsimp only [if219,qI,eI,nI,qD,eD,mI0,kI0,lI0,LI0,fI0,xI0,bI0,cI0,sI0,C1,C3,mD0,lD0,fD0,xD0,R0,S0];simp only [pwA,seval,-iQ0,hge];refine Zr rfl (by omega) fun cap1 hc1=>?_
  simp only [pwA,seval,-iQ0];refine Zr rfl (by omega) fun cap2 hc2=>?_
  have g1:i<a.length∧i+1≤a.length:=⟨hila,hila⟩;have g2:i<b.length∧i+1≤b.length:=⟨hilb,hilb⟩;simp only [pwA,seval,-iQ0,g1.1,g1.2,g2.1,g2.2,zK,zY hila,zY hilb];refine Zc (fun m vs h'=>∃(k:Nat) (vl vr:PV) (A:List Int),k≤nx b i∧m=nx b i-k∧vs=[.int .i64 i,.fz wa aa a.length (pis a),.fz wb ab b.length (pis b),.ptr σ.next 0,vl,vr,.int .i64 k]∧
   h'=((((σ.new [.fz w0 a0 O.length (pis O),.fz w1 a1 P.length rP,.fz w3 a3 C.length rC]).new (pis (a.set i 0))).new (pis (b.set i 0))).kill (σ.next+1)).kill (σ.next+2)∧FI vl A∧FI vr (b.set i 0)∧TT O (i+1) A∧iter (Grp.img O C (mu O P C d) i) (nx b i-k) A=iter (Grp.img O C (mu O P C d) i) (nx b i) (a.set i 0)) (nx b i) ?_ ?_
  ·refine .fz (σ.next+1) (pis (a.set i 0)) (by simp only [pwA,seval,-iQ0]) (zN _ _) fun o1=>.fz (σ.next+2) (pis (b.set i 0)) (by simp only [pwA,seval,-iQ0]) (zN _ _) fun o2=>.here ?_
   refine⟨0,.fz true (.sl o1 0 a.length cap1) a.length (pis (a.set i 0)),.fz true (.sl o2 0 b.length cap2) b.length (pis (b.set i 0)),a.set i 0,by omega,by omega,?_,rfl,FI.mk (by simp),FI.mk (by simp),sa,rfl⟩
   simp only [pwA,seval,-iQ0];have k1:=hc1.ok;have k2:=hc2.ok;have hne:¬(σ.next+2=σ.next+1):=by omega
   simp only [sbs,sb,k1,k2,hne,false_and,if_false,Nat.le_refl,decide_true,and_self,if_true]
   rfl
  rintro m vs h' ⟨k,vl,vr,A,hkn,rfl,rfl,rfl,hvl,hvr,hA,hit⟩
  have hnx:((nx b i:Nat):Int)=at_ b i:=Int.toNat_of_nonneg bb.1;have hcap1:=hc1.ok;simp only [pwA,seval,-iQ0,pisAt hilb,hilb];refine iteI (fun hlt=>?_) fun hge2=>?_
  ·have hlt3:k<nx b i:=by omega
   simp only [pwA,seval,-iQ0];refine zIr s (by omega) hAt hR0 (hA.mono (Nat.zero_le _)) hvl fun v hv=>?_
   simp only [pwA,seval,-iQ0,wrapS hlt3 (by omega:nx b i≤4611686018427387904)]
   refine⟨nx b i-(k+1),by omega,.here ⟨k+1,v,vr,_,by omega,rfl,rfl,rfl,hv,hvr,zA3 s hm _,?_⟩⟩
   rw [show nx b i-k=(nx b i-(k+1))+1 by omega]at hit
   exact hit
  have hke:k=nx b i:=by omega
  subst hke;rw [Nat.sub_self]at hit
  have hA':A=iter (Grp.img O C (mu O P C d) i) (nx b i) (a.set i 0):=hit;subst hA';simp only [pwA,seval,-iQ0,wrapS hil (by omega:O.length≤4611686018427387904)]
  have ir:=hm _ _ hA sb';have irl:=ir.len;refine hAt hR0 hA sb' hvl hvr fun v hv=>?_
  have hab:IntKind.i64.wrap (at_ a i+at_ b i)=at_ a i+at_ b i:=wrap64 (by omega) (by omega)
  have hiO:i<O.length:=hil;simp only [pwA,seval,-iQ0,pisAt hila,pisAt hilb,hila,hilb,pisAt hil,hiO,hab];have hmu:∀c e:List Int,(if at_ a i+at_ b i ≥ at_ O i then(mu O P C d (pvec P i) (mu O P C d (iter (Grp.img O C (mu O P C d) i) (nx b i) (a.set i 0)) (b.set i 0))).set i (at_ a i+at_ b i-at_ O i)else(mu O P C d (iter (Grp.img O C (mu O P C d) i) (nx b i) (a.set i 0)) (b.set i 0)).set i (at_ a i+at_ b i))=mu O P C (d+1) a b:=fun _ _=>by
   simp only [mu,h0i]
  refine iteI (fun hge3=>?_) fun hlt3=>?_
  ·have hsub:IntKind.i64.wrap (at_ a i+at_ b i-at_ O i)=at_ a i+at_ b i-at_ O i:=wrap64 (by omega) (by omega)
   have e:=hmu a b;rw [if_pos hge3]at e
   simp only [pwA,seval,-iQ0,pisAt hil,hiO,hsub,wrapS hil (by omega:O.length≤4611686018427387904),hiP,hpr]
   have ir2:=hm _ _ hpv ir;have ir2l:i<(mu O P C d (pvec P i) (mu O P C d (iter (Grp.img O C (mu O P C d) i) (nx b i) (a.set i 0)) (b.set i 0))).length:=by rw [ir2.len];exact hil
   refine hAt hR0 hpv ir (FI.mk hpv.len) hv fun v2 hv2=>?_
   obtain⟨w7,a7,rfl⟩:=hv2;simp only [pwA,seval,-iQ0,pisAt hil,hiO,hsub,wrapS hil (by omega:O.length≤4611686018427387904),hiP,hpr]
   refine Zr rfl (by have:=ir2.len;omega) fun cap3 hc3=>?_
   simp only [pwA,seval,-iQ0,ir2l,Nat.succ_le_of_lt ir2l,zK,zY ir2l];rw [←e]at hk
   exact Gh.finF (s:=σ.next+1+2) ((((((zC σ _).new _).new _).kill (by omega)).kill (by omega)).new _) (by simp only [pwA,seval,-iQ0]) (by omega) (zN _ _) hc3.ok fun o1=>hk _ (FI.mk (by simp))
  ·have e:=hmu a b
   rw [if_neg (by omega)]at e
   have irl2:i<(mu O P C d (iter (Grp.img O C (mu O P C d) i) (nx b i) (a.set i 0)) (b.set i 0)).length:=by rw [irl];exact hil
   obtain⟨w7,a7,rfl⟩:=hv;simp only [pwA,seval,-iQ0];refine Zr rfl (by omega) fun cap3 hc3=>?_
   simp only [pwA,seval,-iQ0,irl2,Nat.succ_le_of_lt irl2,zK,zY irl2];rw [←e]at hk
   exact Gh.finF (s:=σ.next+1+2) ((((((zC σ _).new _).new _).kill (by omega)).kill (by omega)).new _) (by simp only [pwA,seval,-iQ0]) (by omega) (zN _ _) hc3.ok fun o1=>hk _ (FI.mk (by simp))
end Go.Proofs
namespace Go.Grp
end Go.Grp
namespace Go.Proofs
open Go.Ab Go.Lie Go.Grp
variable {σ:PHeap} {K:PV→PHeap→Prop} {O:List Int} {P:List (List Int)} {C:List (List (List Int))} {vO vP vC vx:PV} {s:Nat} {x:List Int} {rP rC:List PV}
theorem pw_sq {α:Type} {S:α→Prop} {m:α→α→α} {e:α} (M:Mon S m e) {x:α} (hx:S x):∀q,Grp.pw m e (m x x) q=Grp.pw m e x (q+q)
 | 0=>rfl
 | q+1=>by
  rw [show q+1+(q+1)=(q+q)+1+1 by omega]
  show m (Grp.pw m e (m x x) q) (m x x)=m (m (Grp.pw m e x (q+q)) x) x;rw [pw_sq M hx q,M.as (M.pw hx _) hx hx]
theorem zPD {α:Type} {S:α→Prop} {m:α→α→α} {e:α} (M:Mon S m e) {x:α} (hx:S x) (q:Nat):m x (Grp.pw m e (m x x) q)=Grp.pw m e x (q+q+1):=by
 rw [pw_sq M hx q];exact(M.pw_comm hx _).symm
theorem zCq (s:Shp O P C) {d i:Nat} (hi:O.length=d+i) (hAt:AtOK O P C d i) (M:Mon (TT O i) (mu O P C d) (zv O)) (hR:IsPr vO vP vC O P C) (hx:TT O i x) (hvx:FI vx x) {k:Int} (hk0:0≤k∧k≤1000)
  (hk:∀v,FI v (pw (mu O P C d) (zv O) x k.toNat)→K v σ):zA Tryz.prog 272 [.agg [vO,vP,vC],.int .i64 i,vx,.int .i64 k] σ K:=by
 have hn6:=s.le;have hR0:=hR;obtain⟨kn,rfl⟩:∃kn:Nat,k=kn:=⟨k.toNat,by omega⟩
 obtain⟨⟨w0,a0,rfl⟩,⟨w1,a1,rP,rfl,hP⟩,⟨w3,a3,rC,rfl,hC⟩⟩:=hR;refine zA.gh ?_;refine zD mix Tryz.func272 ?_
 conv=>arg 2;cbv
 refine zF rfl ?_;simp only [pwA,seval,-iQ0,List.length_replicate,qH,mk8 (n:=O.length) (by omega),mkL (n:=O.length) (by omega)]
 have hkp:Keep σ (((σ.new [.fz w0 a0 O.length (pis O),.fz w1 a1 P.length rP,.fz w3 a3 C.length rC]).new (pis (zv O))).kill (σ.next+1)):=((zC σ _).new _).kill (by omega)
 refine Zc (fun m vs h'=>∃(k:Nat) (vo vb:PV) (A b:List Int),k≤1000∧m=k∧vs=[.int .i64 i,.int .i64 k,.ptr σ.next 0,vo,vb]∧
  h'=((σ.new [.fz w0 a0 O.length (pis O),.fz w1 a1 P.length rP,.fz w3 a3 C.length rC]).new (pis (zv O))).kill (σ.next+1)∧FI vo A∧FI vb b∧TT O i A∧TT O i b∧mu O P C d A (pw (mu O P C d) (zv O) b k)=pw (mu O P C d) (zv O) x kn) kn ?_ ?_
 ·refine .fz (σ.next+1) (pis (zv O)) (by simp only [pwA,seval,-iQ0]) (zN _ _) fun o1=>.here ?_
  refine⟨kn,.fz true (.sl o1 0 O.length (.known O.length)) O.length (pis (zv O)),vx,zv O,x,by omega,rfl,?_,rfl,FI.mk (by simp),hvx,s.zv _,hx,M.l1 (M.pw hx _)⟩
  simp only [pwA,seval,-iQ0];simp only [sbs,sb,capOK,Nat.le_refl,decide_true,and_self,if_true,hvx.sb]
 rintro m vs h' ⟨k,vo,vb,A,b,hk1,rfl,rfl,rfl,hvo,hvb,hA,hb,hinv⟩
 simp only [pwA,seval,-iQ0];refine iteI (fun hgt=>?_) fun hle=>?_
 rotate_left
 ·have hm0:m=0:=by omega
  subst hm0;rw [show pw (mu O P C d) (zv O) b 0=zv O from rfl,M.r1 hA]at hinv
  rw [show((kn:Int)).toNat=kn from Int.toNat_natCast kn,←hinv]at hk
  exact Gh.fin0 hkp (hvo.bel _) (hk _ hvo)
 have htm:Int.tmod (m:Int) 2=((m % 2:Nat):Int):=by rw [Int.tmod_eq_emod_of_nonneg (by omega)];rfl
 have htd:Int.tdiv (m:Int) 2=((m / 2:Nat):Int):=by rw [Int.tdiv_eq_ediv_of_nonneg (by omega)];rfl
 have h2:¬((2:Int)=0):=by decide
 have hwd:IntKind.i64.wrap ((m / 2:Nat):Int)=((m / 2:Nat):Int):=wrap64 (by omega) (by omega)
 have hwt:IntKind.i64.wrap ((m % 2:Nat):Int)=((m % 2:Nat):Int):=wrap64 (by omega) (by omega)
 have hbb:=M.cl hb hb
 by_cases ho:m % 2=1
 ·have ho':((m % 2:Nat):Int)=1:=by omega
  simp only [pwA,seval,-iQ0,h2,htm,ho',eq_true ho'];refine hAt hR0 hA hb hvo hvb fun v hv=>?_
  simp only [pwA,seval,-iQ0];refine hAt hR0 hb hb hvb hvb fun v2 hv2=>?_
  simp only [pwA,seval,-iQ0,h2,htd,hwd];refine⟨m / 2,by omega,.here ⟨m / 2,v,v2,_,_,by omega,rfl,rfl,rfl,hv,hv2,M.cl hA hb,hbb,?_⟩⟩
  rw [M.as hA hb (M.pw hbb _),zPD M hb,show m / 2+m / 2+1=m by omega]
  exact hinv
 ·have ho':¬((m % 2:Nat):Int)=1:=by omega
  simp only [pwA,seval,-iQ0,h2,htm,ho'];refine hAt hR0 hb hb hvb hvb fun v2 hv2=>?_
  simp only [pwA,seval,-iQ0,h2,htd,hwd];refine⟨m / 2,by omega,.here ⟨m / 2,vo,v2,_,_,by omega,rfl,rfl,rfl,hvo,hv2,hA,hbb,?_⟩⟩
  rw [pw_sq M hb,show m / 2+m / 2=m by omega]
  exact hinv
end Go.Proofs
namespace Go.Grp
end Go.Grp
namespace Go.Proofs
open Go.Ab Go.Lie Go.Grp
variable {σ:PHeap} {K:PV→PHeap→Prop} {O:List Int} {P:List (List Int)} {C:List (List (List Int))} {vO vP vC vx vf:PV} {x y f:List Int} {rP rC:List PV} {d:Nat}
theorem zNw {s off l:Nat} {cap:Cap} {ys:List Int} (hs:s<σ.next) (hr:σ.rd s off l=some (pis ys)) (hl:ys.length=l) (hb:l≤1048576) (hk:∀a,K (.fz true a l (pis ys)) σ):zA Tryz.prog 206 [.sl s off l cap] σ K:=by
 refine zA.gh ?_;have hne:¬s=σ.next:=Nat.ne_of_lt hs;refine zD mix Tryz.func206 ?_
 conv=>arg 2;cbv
 refine zF rfl ?_;simp only [pwA,seval,-iQ0];refine PSl.app (b:=0) (news:=pis ys) (m:=l) (zC σ _) (Nat.zero_le _) (PSl.new _ 1 rfl (Nat.le_refl _)) rfl (fun h0=>?_) (by rw [zK,hl,Nat.mul_one]) (by omega) (by omega) fun v' h' k1 k2=>?_
 ·rw [Qd]
  simp only [h0,if_false,Nat.le_refl,if_true,Nat.mul_one,Qz,hne];exact hr
 ·simp only [pwA,seval,-iQ0]at k2 ⊢
  exact k2.fin k1 (zN _ _) fun o cap=>hk _
theorem zJW {α:Type} {m:α→α→α} {h:Nat→α} {x:Nat→Nat} {c:Nat}:∀{k t:Nat} {a:α},(∀j,t≤j→j<t+k→x j=0)→fo m h x t (k+c) a=fo m h x (t+k) c a
 | 0,t,a,_=>by rw [Nat.zero_add,Nat.add_zero]
 | k+1,t,a,h0=>by
  rw [show k+1+c=(k+c)+1 by omega,fo,h0 t (Nat.le_refl _) (by omega)]
  show fo _ _ _ (t+1) (k+c) a=_;rw [zJW (fun j h1 h2=>h0 j (by omega) (by omega)),show t+1+k=t+(k+1) by omega]
theorem zOl (s:Shp O P C) (F:Full O P C d) (hx:TT O (O.length-d) x) (hf:TT O (O.length-d) f):fo (mu O P C d) (Grp.unit O) (nx f) 0 O.length x=mu O P C d x f:=by
 have hle:=F.le;have M:=F.gp.toMon;have h1:=zJW (m:=mu O P C d) (h:=Grp.unit O) (x:=nx f) (c:=d) (k:=O.length-d) (t:=0) (a:=x) fun j _ h2=>by show(at_ f j).toNat=0;rw [hf.zero j (by omega)];rfl
 rw [show O.length-d+d=O.length by omega,Nat.zero_add]at h1
 rw [h1,M.fo_eq (fun j h1 h2=>s.unit (by omega) h1) hx]
 congr 1
 exact F.nf hf
def TGok (O:List Int) (P:List (List Int)) (C:List (List (List Int))) (d j:Nat):Prop:=
 ∀(σ:PHeap) (K:PV→PHeap→Prop) (sp se:Nat) (cap:Cap) (x:List Int) (vO vP vC:PV),PtrG σ sp vO vP vC→IsPr vO vP vC O P C→σ.obj se=some (pis x)→se<σ.next→sp≠se→full 1 cap O.length→TT O (O.length-d) x→
  K (.tup []) (σ.set se (pis (mu O P C d x (Grp.unit O j))))→zA Tryz.prog 286 [.ptr sp 0,.sl se 0 O.length cap,.int .i64 j] σ K
theorem QK (s:Shp O P C) (F:Full O P C d) {t:Nat} (ht:O.length-d≤t) (hTG:∀j,t≤j→j<O.length→TGok O P C d j) {sp se:Nat} {cap:Cap} (hs:PtrG σ sp vO vP vC) (hR:IsPr vO vP vC O P C)
  (he:σ.obj se=some (pis x)) (hse:se<σ.next) (hne:sp≠se) (hcap:full 1 cap O.length) (hx:TT O (O.length-d) x) (hf:TT O t f) (hvf:FI vf f) (hk:K (.tup []) (σ.set se (pis (mu O P C d x f)))):zA Tryz.prog 215 [.ptr sp 0,.sl se 0 O.length cap,vf] σ K:=by
 have hn6:=s.le;have hfl:=hf.len;have M:=F.gp.toMon;obtain⟨wf,af,rfl⟩:=hvf;refine zD mix Tryz.func215 ?_
 conv=>arg 2;cbv
 refine zF rfl ?_;simp only [pwA,seval,-iQ0];refine zG (fun m vs h'=>∃(q:Nat) (y:List Int),q≤O.length∧m=O.length-q∧vs=[.ptr sp 0,.sl se 0 O.length cap,.fz wf af f.length (pis f),.int .i64 f.length,.int .i64 q]∧h'=σ.set se (pis y)∧TT O (O.length-d) y∧fo (mu O P C d) (Grp.unit O) (nx f) q (O.length-q) y=mu O P C d x f) O.length ?_ ?_
 ·exact⟨0,x,by omega,by omega,rfl,(QZ he).symm,hx,zOl s F hx (hf.mono ht)⟩
 rintro m vs h' ⟨q,y,hq,rfl,rfl,rfl,hy,hfo⟩
 simp only [pwA,seval,-iQ0];refine iteI (fun hlt=>?_) fun hge=>?_
 rotate_left
 ·have hqe:q=O.length:=by omega
  subst hqe;rw [Nat.sub_self]at hfo
  rw [←hfo]at hk
  exact hk
 have hqO:q<O.length:=by omega
 have bf:=hf.bd q hqO;have bO:=s.pr q hqO;have hnx:((nx f q:Nat):Int)=at_ f q:=Int.toNat_of_nonneg bf.1;rw [show O.length-q=(O.length-(q+1))+1 by omega]at hfo
 simp only [pwA,seval,-iQ0,pisAt hlt,hlt];refine zG (fun m vs h'=>∃(k:Nat) (y:List Int),k≤nx f q∧m=nx f q-k∧vs=[.ptr sp 0,.sl se 0 O.length cap,.int .i64 q,.fz wf af f.length (pis f),.int .i64 f.length,.int .i64 q,.int .i64 (at_ f q),.int .i64 k]∧h'=σ.set se (pis y)∧TT O (O.length-d) y∧fo (mu O P C d) (Grp.unit O) (nx f) (q+1) (O.length-(q+1)) (rep (mu O P C d) (Grp.unit O q) (nx f q-k) y)=mu O P C d x f) (nx f q) ?_ ?_
 ·exact⟨0,y,by omega,by omega,rfl,rfl,hy,hfo⟩
 rintro m vs h' ⟨k,y,hkn,rfl,rfl,rfl,hy,hfo⟩
 simp only [pwA,seval,-iQ0];refine iteI (fun hlt2=>?_) fun hge2=>?_
 ·have hlt3:k<nx f q:=by omega
  have htq:t≤q:=by
   rcases Nat.lt_or_ge q t with h|h
   ·have:=hf.zero q h;omega
   ·exact h
  have hu:TT O (O.length-d) (Grp.unit O q):=s.unit hqO (by omega)
  refine hTG q htq hqO _ _ sp se cap y vO vP vC (hs.set hne _) hR (by simp only [pwA,seval,-iQ0]) hse hne hcap hy ?_
  simp only [pwA,seval,-iQ0,wrapS hlt3 (by omega:nx f q≤4611686018427387904)]
  refine⟨_,by omega,k+1,_,by omega,rfl,rfl,rfl,M.cl hy hu,?_⟩
  rw [show nx f q-k=(nx f q-(k+1))+1 by omega]at hfo
  exact hfo
 ·have hke:k=nx f q:=by omega
  subst hke;rw [Nat.sub_self]at hfo
  simp only [pwA,seval,-iQ0,wrapS hlt (by omega:f.length≤4611686018427387904)]
  exact⟨_,by omega,q+1,y,by omega,rfl,rfl,rfl,hy,hfo⟩
end Go.Proofs
namespace Go.Grp
end Go.Grp
namespace Go.Proofs
open Go.Ab Go.Lie Go.Grp
variable {σ:PHeap} {K:PV→PHeap→Prop} {O:List Int} {P:List (List Int)} {C:List (List (List Int))} {vO vP vC vx vf:PV} {x y f:List Int} {rP rC:List PV} {d j:Nat}
def zr (x:List Int) (j:Nat):Nat→List Int
 | 0=>x
 | k+1=>(zr x j k).set (j+(1+k)) 0
theorem zBb:∀k,(zr x j k).length=x.length
 | 0=>rfl
 | k+1=>by rw [zr,List.length_set];exact zBb k
theorem zr_at:∀{k:Nat},j+(1+k)≤x.length→∀t,at_ (zr x j k) t=if j<t∧t<j+(1+k)then 0 else at_ x t
 | 0,_,t=>by rw [if_neg (by omega)];rfl
 | k+1,h,t=>by
  rw [zr,at_set (by rw [zBb];omega)]
  split
  ·rename_i e;rw [if_pos (by omega)]
  ·rename_i e
   rw [zr_at (by omega)]
   by_cases g:j<t∧t<j+(1+k)
   ·rw [if_pos g,if_pos (by omega)]
   ·rw [if_neg g,if_neg (by omega)]
theorem zOz (hj:j<x.length):zr x j (x.length-1-j)=hdz x j:=by
 refine ZY (by rw [zBb,zDN]) fun t ht=>?_
 rw [zBb]at ht
 rw [zr_at (by omega),zBk]
 by_cases g:t≤j
 ·rw [if_neg (by omega),if_pos g]
 ·rw [if_pos (by omega),if_neg g]
theorem zIJ {se n:Nat} {cap:Cap} (hc:full 1 cap n) (hj:j+1≤n):∃off cap',ZQ 1 (.sl se 0 n cap) (some (.int .i64 ((j+1:Nat):Int))) none none=some (.sl se off (n-(j+1)) cap')∧(off=j+1∨(off=0∧n-(j+1)=0)):=by
 have e:(0:Int)≤((j+1:Nat):Int)∧((j+1:Nat):Int)≤(n:Int):=⟨by omega,by omega⟩
 rcases hc with rfl|rfl
 ·refine⟨j+1,.grown 1,?_,.inl rfl⟩
  rw [zAu];simp only [zAx,zAw,zB3,Option.bind_some,if_pos e,Int.toNat_natCast]
  simp
 ·rw [zAt]
  simp only [zAx,zAw,zB3,Option.bind_some,if_pos e,Int.toNat_natCast]
  by_cases h:n=j+1
  ·refine⟨0,.known (n-(j+1)),?_,.inr ⟨rfl,by omega⟩⟩
   rw [if_pos h];simp
  ·refine⟨j+1,.known (n-(j+1)),?_,.inl rfl⟩
   rw [if_neg h];simp
theorem Zg (s:Shp O P C) (F:Full O P C d):∀(r:Nat) {j:Nat},O.length-d≤j→j<O.length→O.length-j≤r→TGok O P C d j
 | 0,j,h1,h2,h3=>by omega
 | r+1,j,h1,h2,h3=>by
  intro σ K sp se cap x vO vP vC hs hR he hse hne hcap hx hk;have hTG:∀j',j+1≤j'→j'<O.length→TGok O P C d j':=fun j' g1 g2=>Zg s F r (by omega) g2 (by omega)
  have hn6:=s.le;have hR0:=hR;have hs0:=hs;have hxl:=hx.len;have hjx:j<x.length:=by omega
  have bx:=hx.bd j h2;have bO:=s.pr j h2;have M:=F.gp.toMon;rw [←zMe s F hx h1 h2]at hk
  obtain⟨⟨w0,a0,rfl⟩,⟨w1,a1,rP,rfl,hP⟩,⟨w3,a3,rC,rfl,hC⟩⟩:=hR;obtain⟨w5,a5,rs,hrb,hrs⟩:=cvRow s hC h2;obtain⟨w6,a6,hpr⟩:=pvRow s hP h2;have hjC:j<C.length:=by rw [s.cl];exact h2
  have hjP:j<P.length:=by rw [s.pl];exact h2
  have hpv:=s.pw j h2;have e0:σ.rd1 sp 0=some (.fz w0 a0 O.length (pis O)):=by rw [zI hs.obj];rfl
  have e1:σ.rd1 sp 1=some (.fz w1 a1 P.length rP):=by rw [zI hs.obj];rfl
  have e2:σ.rd1 sp 2=some (.fz w3 a3 C.length rC):=by rw [zI hs.obj];rfl
  have ern:∀t,σ.rd1 se t=(pis x)[t]?:=fun t=>zI he t
  obtain⟨off,cap',hsl,hoff⟩:=zIJ (se:=se) hcap (Nat.succ_le_of_lt h2);have wj1:IntKind.i64.wrap ((j:Int)+1)=((j+1:Nat):Int):=wrapS h2 (by omega)
  refine zD mix Tryz.func286 ?_
  conv=>arg 2;cbv
  refine zF rfl ?_;simp only [pwA,seval,-iQ0,wj1,hsl];have hdl:(x.drop (j+1)).length=O.length-(j+1):=by simp [hxl]
  refine zNw hse (ys:=x.drop (j+1)) ?_ hdl (by omega) fun av=>?_
  ·rw [zi he,zK]
   rcases hoff with rfl|⟨rfl,h0⟩
   ·rw [if_pos (by omega),←zM3,List.take_of_length_le (by rw [List.length_drop,zK];omega)]
   ·rw [h0,if_pos (by omega),List.take_zero,List.drop_eq_nil_of_le (by omega)];rfl
  simp only [pwA,seval,-iQ0,zK];refine zG (fun m vs h'=>∃k:Nat,k≤O.length-(j+1)∧m=O.length-(j+1)-k∧vs=[.ptr sp 0,.sl se 0 O.length cap,.int .i64 j,.fz true av (O.length-(j+1)) (pis (x.drop (j+1))),.int .i64 ((O.length-(j+1):Nat):Int),.int .i64 k]∧h'=σ.set se (pis (zr x j k))) (O.length-(j+1)) ?_ ?_
  ·exact⟨0,by omega,by omega,rfl,(QZ he).symm⟩
  ·rintro m vs h' ⟨k,hk1,rfl,rfl,rfl⟩
   simp only [pwA,seval,-iQ0];refine iteI (fun hlt=>?_) fun hge=>?_
   ·have e3:IntKind.i64.wrap (((j+1:Nat):Int)+(k:Int))=((j+(1+k):Nat):Int):=by rw [wrap64 (by omega) (by omega)];omega
    have hjl:j+(1+k)<O.length:=by omega
    have hjz:j+(1+k)<(zr x j k).length:=by rw [zBb];omega
    have hset:(pis (zr x j k)).take (j+(1+k))++[.int .i64 0]++(pis (zr x j k)).drop (j+(1+(k+1)))=pis (zr x j (k+1)):=by rw [show j+(1+(k+1))=j+(1+k)+1 by omega];exact zY hjz
    have hle2:j+(1+(k+1))≤O.length:=by omega
    simp only [pwA,seval,-iQ0,wj1,e3,hjl,zK,zBb,hxl,hle2,hset,wrapS hlt (by omega:O.length-(j+1)≤4611686018427387904)]
    exact⟨_,by omega,k+1,by omega,rfl,rfl,rfl⟩
   have hke:k=x.length-1-j:=by omega
   subst hke;rw [zOz hjx];have hzl:(hdz x j).length=O.length:=by rw [zDN];exact hxl
   have hjz:j<(hdz x j).length:=by omega
   have hdat:at_ (hdz x j) j=at_ x j:=by rw [zBk,if_pos (Nat.le_refl _)]
   have wx1:IntKind.i64.wrap (at_ x j+1)=at_ x j+1:=wrap64 (by omega) (by omega)
   have hz2:j<((hdz x j).set j (at_ x j+1)).length:=by rw [List.length_set];exact hjz
   have hat2:at_ ((hdz x j).set j (at_ x j+1)) j=at_ x j+1:=by rw [at_set hjz,if_pos rfl]
   have p1:=pisAt hjz;have p2:=pisAt hz2;rw [hdat]at p1
   rw [hat2]at p2
   have hsle:j+1≤O.length:=h2;simp only [pwA,seval,-iQ0,h2,hzl,zK,p1,wx1,hsle,zY hjz,Qy];simp only [pwA,seval,-iQ0,h2,hzl,zK,p1,p2,wx1,hsle,zY hjz,Qy,hne,e0,pisAt h2];refine iteI (fun heq=>?_) fun hneq=>?_
   ·have hh0:((hdz x j).set j (at_ x j+1)).set j 0=(hdz x j).set j 0:=by rw [List.set_set]
    simp only [pwA,seval,-iQ0,h2,hzl,List.length_set,zK,hsle,zY hz2,hh0,hne,e1,hjP,hpr];have ht0:TT O (O.length-d) ((hdz x j).set j 0):=(zHS hx fun t ht=>s.pos ht).set h2 h1 ⟨by omega,by omega⟩
    refine QK s F (t:=j+1) (by omega) hTG (hs0.set hne (pis ((hdz x j).set j 0))) hR0 (x:=(hdz x j).set j 0) (by simp only [pwA,seval,-iQ0]) hse hne hcap ht0 hpv (FI.mk hpv.len) ?_
    simp only [pwA,seval,-iQ0,Qy];have hY:TT O (O.length-d) (mu O P C d ((hdz x j).set j 0) (pvec P j)):=M.cl ht0 (hpv.mono (by omega))
    have hfoY:fo (mu O P C d) (cvec C j) (nx x) (j+(1+0)) (O.length-(j+1)-0) (mu O P C d ((hdz x j).set j 0) (pvec P j))=tstep O P C (mu O P C d) x j:=by
     rw [tstep,if_pos heq,show O.length-1-j=O.length-(j+1)-0 by omega]
    generalize mu O P C d ((hdz x j).set j 0) (pvec P j)=Y at hY hfoY ⊢
    refine zG (fun m vs h'=>∃(k:Nat) (y:List Int),k≤O.length-(j+1)∧m=O.length-(j+1)-k∧vs=[.ptr sp 0,.sl se 0 O.length cap,.int .i64 j,.fz true av (O.length-(j+1)) (pis (x.drop (j+1))),.int .i64 ((O.length-(j+1):Nat):Int),.int .i64 k]∧h'=σ.set se (pis y)∧TT O (O.length-d) y∧fo (mu O P C d) (cvec C j) (nx x) (j+(1+k)) (O.length-(j+1)-k) y=tstep O P C (mu O P C d) x j) (O.length-(j+1)) ?_ ?_
    ·exact⟨0,Y,by omega,by omega,rfl,rfl,hY,hfoY⟩
    rintro m vs h' ⟨k,y,hk1,rfl,rfl,rfl,hy,hfo⟩
    simp only [pwA,seval,-iQ0];refine iteI (fun hlt=>?_) fun hge=>?_
    rotate_left
    ·have hke:O.length-(j+1)-k=0:=by omega
     rw [hke]at hfo
     rw [←hfo]at hk
     exact hk
    have hjl:j+(1+k)<O.length:=by omega
    have hkd:k<(x.drop (j+1)).length:=by omega
    have hdat3:at_ (x.drop (j+1)) k=at_ x (j+(1+k)):=by
     simp only [at_,List.getD_eq_getElem?_getD,List.getElem?_drop,show j+1+k=j+(1+k) by omega]
    have pk:=pisAt hkd;rw [hdat3]at pk
    have bk:=hx.bd (j+(1+k)) hjl;have bOk:=s.pr _ hjl;have hnx:((nx x (j+(1+k)):Nat):Int)=at_ x (j+(1+k)):=Int.toNat_of_nonneg bk.1;obtain⟨w7,a7,hrk⟩:=hrs k (by omega)
    have hcv:=s.cj j (j+(1+k)) (by omega) hjl
    have hkr:k<O.length-1-j:=by omega
    rw [show O.length-(j+1)-k=(O.length-(j+1)-k-1)+1 by omega]at hfo
    simp only [pwA,seval,-iQ0,pk,hkd,hlt];refine zG (fun m vs h'=>∃(q:Nat) (y:List Int),q≤nx x (j+(1+k))∧m=nx x (j+(1+k))-q∧vs=[.ptr sp 0,.sl se 0 O.length cap,.int .i64 j,.int .i64 k,.fz true av (O.length-(j+1)) (pis (x.drop (j+1))),.int .i64 ((O.length-(j+1):Nat):Int),.int .i64 k,.int .i64 (at_ x (j+(1+k))),.int .i64 q]∧h'=σ.set se (pis y)∧TT O (O.length-d) y∧fo (mu O P C d) (cvec C j) (nx x) (j+(1+k)+1) (O.length-(j+1)-k-1) (rep (mu O P C d) (cvec C j (j+(1+k))) (nx x (j+(1+k))-q) y)=tstep O P C (mu O P C d) x j) (nx x (j+(1+k))) ?_ ?_
    ·exact⟨0,y,by omega,by omega,rfl,rfl,hy,hfo⟩
    rintro m vs h' ⟨q,y,hqn,rfl,rfl,rfl,hy,hfo⟩
    simp only [pwA,seval,-iQ0];refine iteI (fun hlt2=>?_) fun hge2=>?_
    ·have hlt3:q<nx x (j+(1+k)):=by omega
     simp only [pwA,seval,-iQ0,hne,e2,hjC,hrb,hkr,hrk];refine QK s F (t:=j+1) (by omega) hTG (hs0.set hne (pis y)) hR0 (x:=y) (by simp only [pwA,seval,-iQ0]) hse hne hcap hy hcv (FI.mk hcv.len) ?_
     simp only [pwA,seval,-iQ0,Qy,wrapS hlt3 (by omega:nx x (j+(1+k))≤4611686018427387904)]
     refine⟨_,by omega,q+1,_,by omega,rfl,rfl,rfl,M.cl hy (hcv.mono (by omega)),?_⟩
     rw [show nx x (j+(1+k))-q=(nx x (j+(1+k))-(q+1))+1 by omega]at hfo
     exact hfo
    ·have hqe:q=nx x (j+(1+k)):=by omega
     subst hqe;rw [Nat.sub_self]at hfo
     simp only [pwA,seval,-iQ0,wrapS hlt (by omega:O.length-(j+1)≤4611686018427387904)]
     refine⟨_,by omega,k+1,y,by omega,rfl,rfl,rfl,hy,?_⟩
     rw [show O.length-(j+1)-(k+1)=O.length-(j+1)-k-1 by omega]
     exact hfo
   ·have hY:TT O (O.length-d) ((hdz x j).set j (at_ x j+1)):=(zHS hx fun t ht=>s.pos ht).set h2 h1 ⟨by omega,by omega⟩
    have hfoY:fo (mu O P C d) (cvec C j) (nx x) (j+(1+0)) (O.length-(j+1)-0) ((hdz x j).set j (at_ x j+1))=tstep O P C (mu O P C d) x j:=by
     rw [tstep,if_neg hneq,show O.length-1-j=O.length-(j+1)-0 by omega]
    clear p2 hat2 hz2;generalize (hdz x j).set j (at_ x j+1)=Y at hY hfoY ⊢
    refine zG (fun m vs h'=>∃(k:Nat) (y:List Int),k≤O.length-(j+1)∧m=O.length-(j+1)-k∧vs=[.ptr sp 0,.sl se 0 O.length cap,.int .i64 j,.fz true av (O.length-(j+1)) (pis (x.drop (j+1))),.int .i64 ((O.length-(j+1):Nat):Int),.int .i64 k]∧h'=σ.set se (pis y)∧TT O (O.length-d) y∧fo (mu O P C d) (cvec C j) (nx x) (j+(1+k)) (O.length-(j+1)-k) y=tstep O P C (mu O P C d) x j) (O.length-(j+1)) ?_ ?_
    ·exact⟨0,Y,by omega,by omega,rfl,rfl,hY,hfoY⟩
    rintro m vs h' ⟨k,y,hk1,rfl,rfl,rfl,hy,hfo⟩
    simp only [pwA,seval,-iQ0];refine iteI (fun hlt=>?_) fun hge=>?_
    rotate_left
    ·have hke:O.length-(j+1)-k=0:=by omega
     rw [hke]at hfo
     rw [←hfo]at hk
     exact hk
    have hjl:j+(1+k)<O.length:=by omega
    have hkd:k<(x.drop (j+1)).length:=by omega
    have hdat3:at_ (x.drop (j+1)) k=at_ x (j+(1+k)):=by
     simp only [at_,List.getD_eq_getElem?_getD,List.getElem?_drop,show j+1+k=j+(1+k) by omega]
    have pk:=pisAt hkd;rw [hdat3]at pk
    have bk:=hx.bd (j+(1+k)) hjl;have bOk:=s.pr _ hjl;have hnx:((nx x (j+(1+k)):Nat):Int)=at_ x (j+(1+k)):=Int.toNat_of_nonneg bk.1;obtain⟨w7,a7,hrk⟩:=hrs k (by omega)
    have hcv:=s.cj j (j+(1+k)) (by omega) hjl
    have hkr:k<O.length-1-j:=by omega
    rw [show O.length-(j+1)-k=(O.length-(j+1)-k-1)+1 by omega]at hfo
    simp only [pwA,seval,-iQ0,pk,hkd,hlt];refine zG (fun m vs h'=>∃(q:Nat) (y:List Int),q≤nx x (j+(1+k))∧m=nx x (j+(1+k))-q∧vs=[.ptr sp 0,.sl se 0 O.length cap,.int .i64 j,.int .i64 k,.fz true av (O.length-(j+1)) (pis (x.drop (j+1))),.int .i64 ((O.length-(j+1):Nat):Int),.int .i64 k,.int .i64 (at_ x (j+(1+k))),.int .i64 q]∧h'=σ.set se (pis y)∧TT O (O.length-d) y∧fo (mu O P C d) (cvec C j) (nx x) (j+(1+k)+1) (O.length-(j+1)-k-1) (rep (mu O P C d) (cvec C j (j+(1+k))) (nx x (j+(1+k))-q) y)=tstep O P C (mu O P C d) x j) (nx x (j+(1+k))) ?_ ?_
    ·exact⟨0,y,by omega,by omega,rfl,rfl,hy,hfo⟩
    rintro m vs h' ⟨q,y,hqn,rfl,rfl,rfl,hy,hfo⟩
    simp only [pwA,seval,-iQ0];refine iteI (fun hlt2=>?_) fun hge2=>?_
    ·have hlt3:q<nx x (j+(1+k)):=by omega
     simp only [pwA,seval,-iQ0,hne,e2,hjC,hrb,hkr,hrk];refine QK s F (t:=j+1) (by omega) hTG (hs0.set hne (pis y)) hR0 (x:=y) (by simp only [pwA,seval,-iQ0]) hse hne hcap hy hcv (FI.mk hcv.len) ?_
     simp only [pwA,seval,-iQ0,Qy,wrapS hlt3 (by omega:nx x (j+(1+k))≤4611686018427387904)]
     refine⟨_,by omega,q+1,_,by omega,rfl,rfl,rfl,M.cl hy (hcv.mono (by omega)),?_⟩
     rw [show nx x (j+(1+k))-q=(nx x (j+(1+k))-(q+1))+1 by omega]at hfo
     exact hfo
    ·have hqe:q=nx x (j+(1+k)):=by omega
     subst hqe;rw [Nat.sub_self]at hfo
     simp only [pwA,seval,-iQ0,wrapS hlt (by omega:O.length-(j+1)≤4611686018427387904)]
     refine⟨_,by omega,k+1,y,by omega,rfl,rfl,rfl,hy,?_⟩
     rw [show O.length-(j+1)-(k+1)=O.length-(j+1)-k-1 by omega]
     exact hfo
theorem QJ (s:Shp O P C) (F:Full O P C d) {sp se:Nat} {cap:Cap} (hs:PtrG σ sp vO vP vC) (hR:IsPr vO vP vC O P C)
  (he:σ.obj se=some (pis x)) (hse:se<σ.next) (hne:sp≠se) (hcap:full 1 cap O.length) (hx:TT O (O.length-d) x) (hf:TT O (O.length-d) f) (hvf:FI vf f) (hk:K (.tup []) (σ.set se (pis (mu O P C d x f)))):zA Tryz.prog 215 [.ptr sp 0,.sl se 0 O.length cap,vf] σ K:=
 QK s F (Nat.le_refl _) (fun j h1 h2=>Zg s F O.length h1 h2 (by omega)) hs hR he hse hne hcap hx hf hvf hk
end Go.Proofs
