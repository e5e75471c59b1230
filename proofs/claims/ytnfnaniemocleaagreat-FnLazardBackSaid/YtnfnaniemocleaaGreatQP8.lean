/- . -/
import Derived.Test.YtnfnaniemocleaaGreatQP7
set_option linter.all false
set_option linter.defProp false
open Go.IntKind renaming wrap->Lp
open List renaming length->Lu
open Go.Proofs.Tryz renaming prog->Li
open Bool renaming true->DF
open Int renaming add_mul_emod_self_right->KE,dvd_of_emod_eq_zero->Iq,emod_add_emod->IP,mul_le_mul->HI,pow_succ->HN,zero_emod->IL
open List renaming all_cons->Ej,all_eq_true->D2,all_nil->Em,flatten_append->KS,flatten_cons->FY,getElem?_cons_succ->D3,getElem?_cons_zero->Hk,getElem?_of_mem->Ic,length->F6,mem_or_eq_of_mem_set->Hs,nodup_append->FQ,nodup_cons->He,nodup_nil->FK,range->DO,range_succ->Ia,replicate->Ep,replicate_succ'->HR,set_cons_succ->Ib,set_cons_zero->Eu,zipWith->FD,zipWith_cons_cons->KV
open Nat renaming eq_zero_or_pos->F4,lt_trichotomy->Eo,min_le_right->KD,mul_le_mul->Kq
open Option renaming map_some->EF,some->Dc
open Prod renaming fst->Lb
open True renaming intro->DJ
open Int renaming reduceNatCast'->ae
set_option maxRecDepth 100000
namespace Go.Proofs
open Go.Ab Go.Lie
variable{cap capC capO capP:jZ}{p:Int}{cO pc:List PV}{c j k m n sC sO sP tp:Nat}{H h σ:cg}{vB vL vO vP vx vy:PV}{K:PV->cg->Prop}{O a u v x y z:V1}{P W xs:V2}{B C:V3}
section
variable{ls:List (Option LS)}{rows cur:List SR}{Rs:List (List SR)}
structure BF(σ H:cg)(tp sO sP sC:Nat)(ls:List (Option LS)):Prop where
 b:∀s,s∈[tp,sO,sP,sC]++LS.ca ls->σ.aM<=s/\s<H.aM
 nd:([tp,sO,sP,sC]++LS.ca ls).Nodup
def cont(Rs:List (List SR))(cur:List SR)(j:Nat)(q:LS):List PV:=
 if j<(Lu Rs) then(Rs.getD j []).map SR.pv else if j=(Lu Rs) then cur.map SR.pv++q.cs.drop (Lu cur) else q.cs
structure LI(σ H h:cg)(tp sO sP sC:Nat)(vO:PV)(capP capC:jZ)(n:Nat)(cO:List PV)(pc:List PV)(ls:List (Option LS))(rows:List SR)(Rs:List (List SR))(cur:List SR):Prop where
 cf:cT σ h
 nx:H.aM<=h.aM
 tpo:h.bt tp=Dc [vO,.sl sP 0 n capP,.sl sC 0 n capC]
 oO:h.bt sO=Dc cO
 oP:h.bt sP=Dc (rows.map SR.pv++pc.drop (Lu rows))
 oC:h.bt sC=Dc (ls.map LS.pvo)
 oL:∀j q,ls[j]? = Dc (Dc q)->h.bt q.s=Dc (cont Rs cur j q)
 ok:∀q,q∈rows\/q∈Rs.flatten\/q∈cur->q.ok h H.aM
 nd:(qM (rows++(Rs.flatten++cur))).Nodup
def LS.mem_of_get{j:Nat}{q:LS}(h:ls[j]? = Dc (Dc q)):q.s∈LS.ca ls:=LS.mem_slots.2 ⟨q,Yg h,rfl⟩
def LI.keepI{A:cg}(b:BF σ H tp sO sP sC ls)(a:LI σ H h tp sO sP sC vO capP capC n cO pc ls rows Rs cur)(k:cT h A):LI σ H A tp sO sP sC vO capP capC n cO pc ls rows Rs cur:=by
 have D:=a.nx;have o:∀s,s∈[tp,sO,sP,sC]++LS.ca ls->A.bt s=h.bt s:=λs hs=>k.bt s (by have:=(b.b s hs).2;omega);refine⟨a.cf.trans k,UJ a.nx k.aM,by rw[o tp aK];exact a.tpo,by rw[o sO aK];exact a.oO,by rw[o sP aK];exact a.oP,by rw[o sC aK];exact a.oC,λj q l=>?_,λq l=>(a.ok q l).cf k,a.nd⟩;rw[o q.s (YY.2 (.inr (LS.mem_of_get l)))];exact a.oL j q l
def LS.slots_inj:∀{ls:List (Option LS)} {i j:Nat} {q l:LS},(LS.ca ls).Nodup->ls[i]? = Dc (Dc q)->ls[j]? = Dc (Dc l)->q.s=l.s->i=j
 |[],i,j,q,l,_,h,_,_=>by simp at h
 |o::ls,0,0,q,l,_,_,_,_=>rfl
 |none::ls,0,j+1,q,l,_,h,_,_=>by simp at h
 |none::ls,i+1,0,q,l,_,_,h,_=>by simp at h
 |some r::ls,0,j+1,q,l,hn,h,g,e=>by
  simp only[Hk,YC,D3,LS.ca,He]at h g hn;subst h;exact absurd (LS.mem_of_get g) (by rw[<-e];exact hn.1)
 |some r::ls,i+1,0,q,l,hn,h,g,e=>by
  simp only[Hk,YC,D3,LS.ca,He]at h g hn;subst g;exact absurd (LS.mem_of_get h) (by rw[e];exact hn.1)
 |none::ls,i+1,j+1,q,l,hn,h,g,e=>by have:=LS.slots_inj (ls:=ls) hn (by simpa using h) (by simpa using g) e;omega
 |some r::ls,i+1,j+1,q,l,hn,h,g,e=>by
  simp only[LS.ca,He]at hn
  have:=LS.slots_inj (ls:=ls) hn.2 (by simpa using h) (by simpa using g) e
  omega
def zKI{a b:List PV}:(a++b).drop (Lu a+1)=b.drop 1:=by
 rw[<-List.drop_drop,List.drop_left'];rfl
def zBy{q:SR}{s:Nat}{cs:List PV}(a:q.ok h H.aM)(hs:s<H.aM):q.ok (h.set s cs) H.aM:=⟨a.1,by rw[zG,DL (by have:=a.2.2.1;omega)];exact a.2.1,a.2.2.1,a.2.2.2⟩
def zQs{q:SR}(l:q∈rows++(Rs.flatten++cur)):q∈rows\/q∈Rs.flatten\/q∈cur:=by
 simpa only[YY]using l
def LI.fresh(a:LI σ H h tp sO sP sC vO capP capC n cO pc ls rows Rs cur):h.aM∉qM (rows++(Rs.flatten++cur)):=λl=>by
 obtain⟨q,A,e⟩:=YI.1 l
 have:=(a.ok q (zQs A)).2.2.2
 omega
def LI.putP(b:BF σ H tp sO sP sC ls)(a:LI σ H h tp sO sP sC vO capP capC n cO pc ls rows Rs cur)(J:full 1 cap (Lu x))(S:(Lu rows)<Lu pc):
  (h.bf (cS x)).wr sP (Lu rows) [.sl h.aM 0 (Lu x) cap]=Dc ((h.bf (cS x)).set sP ((rows++[(⟨h.aM,cap,x⟩:SR)]).map SR.pv++pc.drop (Lu rows+1)))/\
  LI σ H ((h.bf (cS x)).set sP ((rows++[(⟨h.aM,cap,x⟩:SR)]).map SR.pv++pc.drop (Lu rows+1))) tp sO sP sC vO capP capC n cO pc ls (rows++[(⟨h.aM,cap,x⟩:SR)]) Rs cur:=by
 have l:=a.keepI b (zC h (cS x));have E:=a.nx;have A:=b.b sP aK;have D:=b.nd;simp only[Yr,Yl,He,YH,not_or]at D;obtain⟨⟨U,L,V,n4⟩,⟨M,n6,n7⟩,⟨N,Q⟩,_⟩:=D;have R:=l.oP;refine⟨?_,l.cf.set A.1 _,l.nx,by rw[zG,DL L];exact l.tpo,by rw[zG,DL M];exact l.oO,by rw[zG,DK rfl,YB,Yb],by rw[zG,DL (Ne.symm N)];exact l.oC,λj q hq=>?_,λq hq=>?_,?_⟩
 .rw[zR R,DK ⟨by simp only[YB,YF,UQ,Yb];omega,rfl⟩];congr 2;have G:(rows.map SR.pv++pc.drop (Lu rows)).take (Lu rows)=rows.map SR.pv:=by
   have:(rows.map SR.pv).length=Lu rows:=YF _
   rw[<-this,List.take_left'];rfl
  have I:(rows.map SR.pv++pc.drop (Lu rows)).drop (Lu rows+1)=pc.drop (Lu rows+1):=by
   have:=zKI (a:=rows.map SR.pv) (b:=pc.drop (Lu rows))
   rwa[YF,List.drop_drop]at this
  rw[Yb,G,I,Yx];rfl
 .have hm:=LS.mem_of_get hq;rw[zG,DL λe=>Q (by rw[<-e];exact hm)];exact l.oL j q hq
 .have new:SR.ok (h.bf (cS x)) H.aM (⟨h.aM,cap,x⟩:SR):=⟨J,by rw[zI,DK rfl],E,YM _⟩
  rcases hq with hq|hq
  .rcases YY.1 hq with hq|hq
   .exact zBy (l.ok q (.inl hq)) A.2
   .rw[YT.1 hq];exact zBy new A.2
  .exact zBy (l.ok q (.inr hq)) A.2
 .have hp:(qM ((rows++[(⟨h.aM,cap,x⟩:SR)])++(Rs.flatten++cur))).Perm (h.aM::qM (rows++(Rs.flatten++cur))):=by
   simp only[qM,Yv,Yx,YE,Ya,Yr,Yl];exact List.perm_middle
  exact hp.nodup_iff.2 (He.2 ⟨a.fresh,a.nd⟩)
def LI.putC{l:LS}(b:BF σ H tp sO sP sC ls)(a:LI σ H h tp sO sP sC vO capP capC n cO pc ls rows Rs cur)(V:full 1 cap (Lu x))(G:ls[(Lu Rs)]? = Dc (Dc l))(hl:(Lu cur)<Lu l.cs):
  (h.bf (cS x)).wr l.s (Lu cur) [.sl h.aM 0 (Lu x) cap]=Dc ((h.bf (cS x)).set l.s ((cur++[(⟨h.aM,cap,x⟩:SR)]).map SR.pv++l.cs.drop (Lu cur+1)))/\
  LI σ H ((h.bf (cS x)).set l.s ((cur++[(⟨h.aM,cap,x⟩:SR)]).map SR.pv++l.cs.drop (Lu cur+1))) tp sO sP sC vO capP capC n cO pc ls rows Rs (cur++[(⟨h.aM,cap,x⟩:SR)]):=by
 have A:=a.keepI b (zC h (cS x));have N:=a.nx;have E:=LS.mem_of_get G;have D:=b.b l.s (YY.2 (.inr E));have I:=b.nd;simp only[Yr,Yl,He,YH,not_or]at I;obtain⟨⟨n1,n2,n3,n4⟩,⟨n5,n6,n7⟩,⟨n8,n9⟩,L,M⟩:=I;have J:=A.oL _ _ G;have U:cont Rs cur (Lu Rs) l=cur.map SR.pv++l.cs.drop (Lu cur):=by unfold cont;rw[DL (Uh _),DK rfl]
 rw[U]at J;refine⟨?_,A.cf.set D.1 _,A.nx,by rw[zG,DL λe=>n4 (by rw[e];exact E)];exact A.tpo,by rw[zG,DL λe=>n7 (by rw[e];exact E)];exact A.oO,by rw[zG,DL λe=>n9 (by rw[e];exact E)];exact A.oP,by rw[zG,DL λe=>L (by rw[e];exact E)];exact A.oC,λj q hq=>?_,λq hq=>?_,?_⟩
 .rw[zR J,DK ⟨by simp only[YB,YF,UQ,Yb];omega,rfl⟩];congr 2;have Q:(cur.map SR.pv++l.cs.drop (Lu cur)).take (Lu cur)=cur.map SR.pv:=by
   have:(cur.map SR.pv).length=Lu cur:=YF _
   rw[<-this,List.take_left'];rfl
  have R:(cur.map SR.pv++l.cs.drop (Lu cur)).drop (Lu cur+1)=l.cs.drop (Lu cur+1):=by
   have:=zKI (a:=cur.map SR.pv) (b:=l.cs.drop (Lu cur))
   rwa[YF,List.drop_drop]at this
  rw[Yb,Q,R,Yx];rfl
 .by_cases e:j=Lu Rs
  .subst e;rw[G]at hq;cases hq;rw[zG,DK rfl];unfold cont;rw[DL (Uh _),DK rfl,YB,Yb]
  .have an:q.s≠l.s:=λS=>by
    exact e (LS.slots_inj M hq G S)
   rw[zG,DL an,A.oL j q hq];unfold cont;rw[DL (show ¬j=(Lu Rs) from e),DL (show ¬j=(Lu Rs) from e)]
 .have new:SR.ok (h.bf (cS x)) H.aM (⟨h.aM,cap,x⟩:SR):=⟨V,by rw[zI,DK rfl],N,YM _⟩
  rcases hq with hq|hq|hq
  .exact zBy (A.ok q (.inl hq)) D.2
  .exact zBy (A.ok q (.inr (.inl hq))) D.2
  .rcases YY.1 hq with hq|hq
   .exact zBy (A.ok q (.inr (.inr hq))) D.2
   .rw[YT.1 hq];exact zBy new D.2
 .have hp:(qM (rows++(Rs.flatten++(cur++[(⟨h.aM,cap,x⟩:SR)])))).Perm (h.aM::qM (rows++(Rs.flatten++cur))):=by
   simp only[qM,Yx,YE,Ya];rw[<-Yv,<-Yv,Yv (List.map SR.s rows)];exact List.perm_append_singleton _ _
  exact hp.nodup_iff.2 (He.2 ⟨a.fresh,a.nd⟩)
def LI.close(a:LI σ H h tp sO sP sC vO capP capC n cO pc ls rows Rs cur)(l:∀q,ls[(Lu Rs)]? = Dc (Dc q)->(Lu cur)=Lu q.cs):LI σ H h tp sO sP sC vO capP capC n cO pc ls rows (Rs++[cur]) []:=by
 refine⟨a.cf,a.nx,a.tpo,a.oO,a.oP,a.oC,λj q hq=>?_,λq hq=>a.ok q ?_,?_⟩
 .rw[a.oL j q hq];unfold cont;rw[YB,Yb];rcases Eo j (Lu Rs) with x|x|x
  .rw[DK x,DK af];simp[YW,Yn x]
  .subst x;rw[DL (Uh _),DK rfl,DK af,Ug (by rw[l q hq];exact na _)];simp[YW]
  .rw[DL af,DL af,DL af];split<;>simp
 .rcases hq with hq|hq|hq
  .exact .inl hq
  .simp only[KS,FY,List.flatten_nil,Ye,YY]at hq;exact .inr hq
  .cases hq
 .have:=a.nd
  simpa [KS]using this
end
section
variable{a:Nat->Nat}{b:Nat}{ls:List (Option LS)}{rows:List SR}{Rs:List (List SR)}
def lrT:Option LS->List SR->TR
 |none,_=>.nil
 |some q,R=>TR.rows q.s q.cap R
def Fit1:Option LS->List SR->Prop
 |none,R=>R=[]
 |some q,R=>(Lu R)=Lu q.cs
def Fits(ls:List (Option LS))(Rs:List (List SR)):Prop:=dd Fit1 ls Rs
def Fits.tl{o:Option LS}{R:List SR}(h:Fits (o::ls) (R::Rs)):Fit1 o R/\Fits ls Rs:=
 ⟨h.2 0 o R rfl rfl,by have:=h.1;simpa using this,λk a b l A=>h.2 (k+1) a b (by simpa using l) (by simpa using A)⟩
def zGo:∀{ls:List (Option LS)} {Rs:List (List SR)},Fits ls Rs->TR.pvs (FD lrT ls Rs)=ls.map LS.pvo
 |[],[],_=>rfl
 |[],R::Rs,h=>by have:=h.1;simp at this
 |o::ls,[],h=>by have:=h.1;simp at this
 |none::ls,R::Rs,h=>by
  simp only[KV,TR.pvs,YE,zGo h.tl.2];rfl
 |some q::ls,R::Rs,h=>by
  have l:(Lu R)=Lu q.cs:=h.tl.1;simp only[KV,TR.pvs,YE,zGo h.tl.2];simp only[lrT,TR.rows,TR.pv,LS.pvo,LS.pv,YF,l]
def zDe:∀{ls:List (Option LS)} {Rs:List (List SR)},Fits ls Rs->(TR.slotss (FD lrT ls Rs)).Perm (LS.ca ls++qM Rs.flatten)
 |[],[],_=>List.Perm.refl _
 |[],R::Rs,h=>by have:=h.1;simp at this
 |o::ls,[],h=>by have:=h.1;simp at this
 |none::ls,R::Rs,h=>by
  have l:R=[]:=h.tl.1;subst l;simp only[KV,TR.slotss,lrT,TR.ca,Yl,FY,LS.ca];exact zDe h.tl.2
 |some q::ls,R::Rs,h=>by
  have A:=zDe h.tl.2;simp only[KV,TR.slotss,lrT,TR.rows,TR.ca,TR.rows_slots,FY,LS.ca,Yr];refine List.Perm.cons _ ?_;have e:qM (R++Rs.flatten)=qM R++qM Rs.flatten:=by simp[qM]
  rw[e];refine((A.append_left (qM R)).trans ?_);rw[<-Yv,<-Yv];exact List.perm_append_comm.append_right _
def zJh:∀{ls:List (Option LS)} {Rs:List (List SR)},(∀(j:Nat) (o:Option LS) (R:List SR),ls[j]? = Dc o->Rs[j]? = Dc R->(lrT o R).ok h b)->TR.oks h b (FD lrT ls Rs)
 |[],_,_=>trivial
 |o::ls,[],_=>trivial
 |o::ls,R::Rs,k=>⟨k 0 o R rfl rfl,zJh λj D R' l A=>k (j+1) D R' (by simpa using l) (by simpa using A)⟩
def zHq:∀{ls:List (Option LS)} {Rs:List (List SR)},Fits ls Rs->dd jj (TR.fzs a (FD lrT ls Rs)) (Rs.map λR=>R.map SR.x)
 |[],[],_=>dd.nil _
 |[],R::Rs,h=>by have:=h.1;simp at this
 |o::ls,[],h=>by have:=h.1;simp at this
 |o::ls,R::Rs,h=>by
  have D:=zHq h.tl.2;refine⟨by simp only[KV,TR.fzs,YE,Yu,D.1],λk c y l A=>?_⟩;cases k with
  |zero=>
   simp only[KV,TR.fzs,YE,Hk,YC]at l A;rw[<-l,<-A];cases o with
   |none=>
    have E:R=[]:=h.tl.1;subst E;exact⟨DF,.b8,[],rfl,dd.nil _⟩
   |some q=>exact TR.rows_FII
  |succ k=>
   simp only[KV,TR.fzs,YE,D3]at l A;exact D.2 k c y l A
def LI.fin{σ0 T:cg}{Y:List PV}{res:Nat}(S:cT σ0 T)(aQ:σ0.aM<=res/\res<T.aM)(Nv:full 1 capO (Lu O))(Gi:full 1 capP (Lu rows))(Gx:full 1 capC (Lu Rs))(LM:(Lu pc)=Lu rows)
  (nA:∀q,Dc q∈ls->full 1 q.cap (Lu q.cs)) (A:BF T H tp sO sP sC ls) (l:LI T H h tp sO sP sC vO capP capC n (cS O) pc ls rows Rs []) (D:Fits ls Rs)
  (hk:∀vO Q N t,FI vO O->jj Q (rows.map SR.x)->Db N (Rs.map λR=>R.map SR.x)->Own σ0.top t (.agg [vO,Q,N])->σ0.top<=t->K (.agg [vO,Q,N]) (σ0.up t)):
  Gh σ0 K (.agg [.sl sO 0 (Lu O) capO,.sl sP 0 (Lu rows) capP,.sl sC 0 (Lu Rs) capC]) (h.set res Y):=by
 have bT:=S.aM;have bO:=A.b sO aK;have bP:=A.b sP aK;have bC:=A.b sC aK;have fq:=l.nx;have hlen:(Lu ls)=Lu Rs:=D.1;have J:(FD lrT ls Rs).length=Lu Rs:=by rw[Uo];omega
 have e:(TR.agg [TR.row sO capO O,TR.rows sP capP rows,.lst sC capC (FD lrT ls Rs)]).pv=.agg [.sl sO 0 (Lu O) capO,.sl sP 0 (Lu rows) capP,.sl sC 0 (Lu Rs) capC]:=by
  simp only[TR.pv,TR.pvs,TR.row_pv,TR.rows,YF,J]
 rw[<-e];have E:∀s,s≠res->(h.set res Y).bt s=h.bt s:=λs hs=>by rw[zG,DL hs]
 have rok:∀q:SR,q.ok h H.aM->q.ok (h.set res Y) σ0.aM:=λq ⟨L,M,g3,g4⟩=>⟨L,by rw[E _ (by have:=(A.b sO aK);omega)];exact M,by have:=(A.b sO aK);omega,g4⟩
 have D1:∀q∈rows,q.ok (h.set res Y) σ0.aM:=λq hq=>rok q (l.ok q (.inl hq));refine Gh.treeO ((S.trans l.cf).set aQ.1 _) ⟨TR.row_ok Nv (by rw[E _ af];exact l.oO) af (by show sO<h.aM;omega),TR.rows_ok Gi (by rw[E _ af,l.oP,Ug af,Ye]) af (by show sP<h.aM;omega) D1,⟨⟨by rw[J];exact Gx,by rw[E _ af,l.oC,zGo D],af,by show sC<h.aM;omega⟩,zJh λj o R I G=>?_⟩,DJ⟩ ?_ λa T' L M=>?_
 .cases o with
  |none=>trivial
  |some q=>
   have hm:=LS.mem_of_get I;have bq:=A.b q.s (YY.2 (.inr hm));have jB:(Lu R)=Lu q.cs:=D.2 j _ _ I G;obtain⟨hj,fI⟩:=Yj.1 G;refine TR.rows_ok (by rw[jB];exact nA q (Yg I)) ?_ af (by show q.s<h.aM;omega) λq' aT=>rok q' (l.ok q' (.inr (.inl (List.mem_flatten.2 ⟨R,Yg G,aT⟩))));rw[E _ af,l.oL j q I];unfold cont;rw[DK hj,YW,G];rfl
 .have nd:=A.nd;have V:=l.nd;rw[Ye]at V;have hp:((TR.agg [TR.row sO capO O,TR.rows sP capP rows,.lst sC capC (FD lrT ls Rs)]).ca).Perm (([sO,sP,sC]++LS.ca ls)++qM (rows++Rs.flatten)):=by
   have e2:qM (rows++Rs.flatten)=qM rows++qM Rs.flatten:=by simp[qM]
   simp only[TR.ca,TR.slotss,TR.row_slots,TR.rows,TR.rows_slots,Ye,Yr,Yl,e2];refine List.Perm.cons _ (List.Perm.cons _ ?_);have h3:=(zDe D).cons sC |>.append_left (qM rows);refine h3.trans ?_;simp only[<-Yr];rw[<-Yv,<-Yv];exact List.perm_append_comm.append_right _
  refine hp.nodup_iff.2 (FQ.2 ⟨?_,V,λx U y hy e=>?_⟩)
  .simp only[Yr,Yl,He]at nd ⊢;exact nd.2
  .have h1:=(A.b x (by simp only[Yr,Yl,YH]at U ⊢;exact .inr U)).2;obtain⟨q,hq,e3⟩:=YI.1 hy;have h2:=(l.ok q (by rcases YY.1 hq with hq|hq;exact .inl hq;exact .inr (.inl hq))).2.2.1;omega
 .exact hk _ _ _ T' TR.row_FI TR.rows_FII ⟨DF,.sl (a sC) 0 (Lu Rs) capC,TR.fzs a (FD lrT ls Rs),by simp only[TR.fz,J,YF],zHq D⟩ L M
end
def adj(p:Int)(n:Nat)(W:V2)(B:V3)(y x:V1):Nat->V1
 |0=>x
 |j+1=>br p W B n (adj p n W B y x j) y
def fact:Nat->Int
 |0=>1
 |j+1=>fact j*(j+1:Nat)
noncomputable def cterm(p:Int)(n:Nat)(W:V2)(B:V3)(y x:V1)(j:Nat):V1:=dv p n W (fact j) (adj p n W B y x j)
def zTR(o:eT p n W)(q:lS p n B)(l:El p n x):∀j,El p n (adj p n W B y x j)
 |0=>l
 |j+1=>ey o q
section
variable{f g h:hK}
def zBB(f g g':hK)(t:Nat):fh B n f (λj=>g j+g' j) t=fh B n f g t+fh B n f g' t:=by
 rw[zf,QF,zf g f,zf g' f];grind
def zHQ(f g:hK)(t:Nat):fh B n f g t=jn n λk=>f k*fh B n (at_ (cD n k)) g t:=by
 rw[zf,zBX f g,<-Zi];refine qP λk l=>?_;rw[zf g (at_ (cD n k))];grind
def QY{f f' g g':hK}(h:∀j,f j=f' j)(h':∀j,g j=g' j)(t:Nat):fh B n f g t=fh B n f' g' t:=zBY (λj _=>h j) (λj _=>h' j) t
def yq(B:V3)(n:Nat)(f g h:hK):hK:=λt=>fh B n (fh B n f g) h t+fh B n (fh B n g h) f t+fh B n (fh B n h f) g t
def zMJ(f g h:hK)(t:Nat):yq B n f g h t=yq B n g h f t:=by
 simp only[yq];omega
def zGG(f g h:hK)(t:Nat):fh B n (fh B n f g) h t=-1*fh B n (fh B n g f) h t:=by
 rw[QY (f':=λj=>-1*fh B n g f j) (g':=h) (λj=>zf f g j) (λ_=>rfl),qV]
def zJx(f g h:hK)(t:Nat):yq B n f g h t=-1*yq B n g f h t:=by
 simp only[yq];rw[zGG f g,zGG g h,zGG h f];omega
def zQy(f h:hK)(t:Nat):yq B n f f h t=0:=by
 have:=zJx (B:=B) (n:=n) f f h t
 omega
def zSC(f g h:hK)(t:Nat):yq B n f g h t=jn n λk=>f k*yq B n (at_ (cD n k)) g h t:=by
 simp only[yq];rw[QY (f':=λj=>jn n λk=>f k*fh B n (at_ (cD n k)) g j) (g':=h) (λj=>zHQ f g j) (λ_=>rfl),zBw (t:=t) (g:=h) n (λk j=>f k*fh B n (at_ (cD n k)) g j),
  zBX f (fh B n g h),QY (f':=λj=>jn n λk=>f k*fh B n h (at_ (cD n k)) j) (g':=g) (λj=>zBX f h j) (λ_=>rfl),zBw (t:=t) (g:=g) n (λk j=>f k*fh B n h (at_ (cD n k)) j),<-Qr,<-Qr]
 refine qP λk l=>?_;rw[qV,qV];grind
def zJy(A:∀k,k<n->dq p n W (yq B n (at_ (cD n k)) g h) λ_=>0):dq p n W (yq B n f g h) λ_=>0:=
 (dq.of_eq λt=>zSC f g h t).trans (zDh n (λk t=>f k*yq B n (at_ (cD n k)) g h t) λk l=>((A k l).mul (f k)).trans (dq.of_eq λt=>by grind))
def zA3(o:eT p n W)(q:lS p n B)(l:ZF p W B n){i j k:Nat}(A:i<j)(E:j<k)(D:k<n):dq p n W (yq B n (at_ (cD n i)) (at_ (cD n j)) (at_ (cD n k))) λ_=>0:=by
 have h:=l.2 i j k A E D;unfold F2 at h;have e:∀a b c:V1,dq p n W (at_ (br p W B n (br p W B n a b) c)) (fh B n (fh B n (at_ a) (at_ b)) (at_ c)):=λa b c=>(ZY o q _ _).trans (zBA o q l _ (ZY o q a b));have uT:=(((qZ o (zK o (ey o q) (ey o q)) (ey o q)).symm.trans (dq.of_eq (ZW h))));refine dq.trans ?_ uT;refine(dq.of_eq λt=>rfl).trans (dq.add (dq.trans ?_ (qZ o (ey o q) (ey o q)).symm) (e _ _ _).symm);exact dq.add (e _ _ _).symm (e _ _ _).symm
def zPP(o:eT p n W)(q:lS p n B)(A:ZF p W B n){i j k:Nat}(E:i<n)(G:j<n)(I:k<n):dq p n W (yq B n (at_ (cD n i)) (at_ (cD n j)) (at_ (cD n k))) λ_=>0:=by
 have l:∀{a b c:hK},dq p n W (yq B n b c a) (λ_=>0)->dq p n W (yq B n a b c) λ_=>0:=λh=>(dq.of_eq λt=>zMJ _ _ _ t).trans h;have swp:∀{a b c:hK},dq p n W (yq B n b a c) (λ_=>0)->dq p n W (yq B n a b c) λ_=>0:=λh=>(dq.of_eq λt=>zJx _ _ _ t).trans ((h.mul (-1)).trans (dq.of_eq λt=>rfl));have D:∀{a c:hK},dq p n W (yq B n a a c) (λ_=>0):=dq.of_eq λt=>zQy _ _ t;rcases Eo i j with h1|rfl|h1
 .rcases Eo j k with h2|rfl|h2
  .exact zA3 o q A h1 h2 I
  .exact l D
  .rcases Eo i k with h3|rfl|h3
   .exact l (swp (l (l (zA3 o q A h3 h2 G))))
   .exact l (l D)
   .exact l (l (zA3 o q A h3 h1 G))
 .exact D
 .rcases Eo j k with h2|rfl|h2
  .rcases Eo i k with h3|rfl|h3
   .exact swp (zA3 o q A h1 h3 I)
   .exact l (l D)
   .exact l (zA3 o q A h2 h3 E)
  .exact l D
  .exact swp (l (l (zA3 o q A h2 h1 E)))
def zJw(o:eT p n W)(q:lS p n B)(G:ZF p W B n)(f g h:hK):dq p n W (yq B n f g h) λ_=>0:=by
 have l:∀{a b c:hK},dq p n W (yq B n b c a) (λ_=>0)->dq p n W (yq B n a b c) λ_=>0:=λh=>(dq.of_eq λt=>zMJ _ _ _ t).trans h;refine zJy λi A=>l (zJy λj D=>l (zJy λk E=>l ?_));exact zPP o q G A D E
def Rg.brk3(r:Rg p n W B c)(l:Lw p n W B k h)(f g:hK):Lw p n W B (k+2) (fh B n (fh B n f g) h):=by
 have D:=r.brk2 (r.brk2 l g) f;have E:=r.brk2 (r.brk2 l f) g;refine(r.sub _).eqv _ _ ?_ ((r.sub _).add _ _ D ((r.sub _).mul (-1) _ E));have A:=zJw r.o r.q r.nf f g h;refine(dq.of_eq λt=>?_).trans ((((dq.refl (λt=>fh B n f (fh B n g h) t + -1*fh B n g (fh B n f h) t)).add A)).trans (dq.of_eq λt=>af));simp only[yq];have wI:=zf (B:=B) (n:=n) (fh B n g h) f t;have uT:=zf (B:=B) (n:=n) (fh B n h f) g t;have Ca:fh B n g (fh B n h f) t=-1*fh B n g (fh B n f h) t:=by
  rw[QY (f':=g) (g':=λj=>-1*fh B n f h j) (λ_=>rfl) (λj=>zf h f j),QX]
 omega
section
variable{X Y Z:hK}
def wI(X Y Z:hK)(a:V1):hK:=λt=>at_ a 0*X t+at_ a 1*Y t+at_ a 2*Z t
def uT(B:V3)(n:Nat)(X Y Z:hK)(a:V1):hK:=λt=>at_ a 3*fh B n X Y t+at_ a 4*fh B n X Z t+at_ a 5*fh B n Y Z t
def Ca(B:V3)(n:Nat)(X Y Z:hK)(a:V1):hK:=λt=>
 at_ a 6*fh B n X (fh B n X Y) t+at_ a 7*fh B n Y (fh B n X Y) t+at_ a 8*fh B n Z (fh B n X Y) t+at_ a 9*fh B n X (fh B n X Z) t
 + at_ a 10*fh B n Y (fh B n X Z) t+at_ a 11*fh B n Z (fh B n X Z) t+at_ a 12*fh B n Y (fh B n Y Z) t+at_ a 13*fh B n Z (fh B n Y Z) t
def A6(B:V3)(n:Nat)(X Y Z:hK)(a:V1):hK:=λt=>wI X Y Z a t+(uT B n X Y Z a t+Ca B n X Y Z a t)
def xS(a b:V1):V1:=
  [0,0,0,at_ a 0*at_ b 1-at_ a 1*at_ b 0,at_ a 0*at_ b 2-at_ a 2*at_ b 0,at_ a 1*at_ b 2-at_ a 2*at_ b 1,
   at_ a 0*at_ b 3-at_ b 0*at_ a 3,at_ a 1*at_ b 3-at_ b 1*at_ a 3,at_ a 2*at_ b 3-at_ a 0*at_ b 5-(at_ b 2*at_ a 3-at_ b 0*at_ a 5),
   at_ a 0*at_ b 4-at_ b 0*at_ a 4,at_ a 1*at_ b 4+at_ a 0*at_ b 5-(at_ b 1*at_ a 4+at_ b 0*at_ a 5),at_ a 2*at_ b 4-at_ b 2*at_ a 4,
   at_ a 1*at_ b 5-at_ b 1*at_ a 5,at_ a 2*at_ b 5-at_ b 2*at_ a 5]
def zEm(a b:V1):at_ (xS a b) 0=0/\at_ (xS a b) 1=0/\at_ (xS a b) 2=0/\at_ (xS a b) 3=at_ a 0*at_ b 1-at_ a 1*at_ b 0/\at_ (xS a b) 4=at_ a 0*at_ b 2-at_ a 2*at_ b 0
  /\at_ (xS a b) 5=at_ a 1*at_ b 2-at_ a 2*at_ b 1/\at_ (xS a b) 6=at_ a 0*at_ b 3-at_ b 0*at_ a 3/\at_ (xS a b) 7=at_ a 1*at_ b 3-at_ b 1*at_ a 3
  /\at_ (xS a b) 8=at_ a 2*at_ b 3-at_ a 0*at_ b 5-(at_ b 2*at_ a 3-at_ b 0*at_ a 5)/\at_ (xS a b) 9=at_ a 0*at_ b 4-at_ b 0*at_ a 4
  /\at_ (xS a b) 10=at_ a 1*at_ b 4+at_ a 0*at_ b 5-(at_ b 1*at_ a 4+at_ b 0*at_ a 5)/\at_ (xS a b) 11=at_ a 2*at_ b 4-at_ b 2*at_ a 4
  /\at_ (xS a b) 12=at_ a 1*at_ b 5-at_ b 1*at_ a 5/\at_ (xS a b) 13=at_ a 2*at_ b 5-at_ b 2*at_ a 5:=⟨rfl,rfl,rfl,rfl,rfl,rfl,rfl,rfl,rfl,rfl,rfl,rfl,rfl,rfl⟩
def zPe(a:V1)(g:hK)(t:Nat):fh B n (wI X Y Z a) g t=at_ a 0*fh B n X g t+at_ a 1*fh B n Y g t+at_ a 2*fh B n Z g t:=by
 unfold wI;rw[QF,QF,qV,qV,qV]
def zTL(a:V1)(g:hK)(t:Nat):fh B n g (wI X Y Z a) t=at_ a 0*fh B n g X t+at_ a 1*fh B n g Y t+at_ a 2*fh B n g Z t:=by
 unfold wI;rw[zBB,zBB,QX,QX,QX]
def zTK(a:V1)(g:hK)(t:Nat):fh B n g (uT B n X Y Z a) t=at_ a 3*fh B n g (fh B n X Y) t+at_ a 4*fh B n g (fh B n X Z) t+at_ a 5*fh B n g (fh B n Y Z) t:=by
 unfold uT;rw[zBB,zBB,QX,QX,QX]
def zTF(a:V1)(g:hK)(t:Nat):fh B n (uT B n X Y Z a) g t=at_ a 3*fh B n (fh B n X Y) g t+at_ a 4*fh B n (fh B n X Z) g t+at_ a 5*fh B n (fh B n Y Z) g t:=by
 unfold uT;rw[QF,QF,qV,qV,qV]
def br11(a b:V1)(t:Nat):fh B n (wI X Y Z a) (wI X Y Z b) t=uT B n X Y Z (xS a b) t:=by
 simp only[zPe,zTL,zKT,zf (B:=B) (n:=n) Y X,zf (B:=B) (n:=n) Z X,zf (B:=B) (n:=n) Z Y,uT];obtain⟨_,_,_,l,A,D,_⟩:=zEm a b;rw[l,A,D];grind
def br123(a b:V1)(t:Nat):fh B n (wI X Y Z a) (uT B n X Y Z b) t+fh B n (uT B n X Y Z a) (wI X Y Z b) t
  = Ca B n X Y Z (xS a b) t+(at_ b 0*at_ a 5-at_ a 0*at_ b 5)*yq B n Z X Y t:=by
 rw[zf (uT B n X Y Z a)];simp only[zPe,zTK,Ca,yq];obtain⟨_,_,_,_,_,_,A,D,E,G,I,L,J,l⟩:=zEm a b;rw[A,D,E,G,I,L,J,l,zf (fh B n Z X),zf (fh B n X Y),zf (fh B n Y Z),
  QY (f:=Y) (f':=Y) (g':=λj=>-1*fh B n X Z j) (λ_=>rfl) (λj=>zf Z X j),QX]
 grind
def Rg.e1_lw(r:Rg p n W B c)(l:Lw p n W B 0 X)(A:Lw p n W B 0 Y)(D:Lw p n W B 0 Z)(a:V1):Lw p n W B 0 (wI X Y Z a):=
 (r.sub 0).add _ _ ((r.sub 0).add _ _ ((r.sub 0).mul _ _ l) ((r.sub 0).mul _ _ A)) ((r.sub 0).mul _ _ D)
def Rg.e2_lw(r:Rg p n W B c)(A:Lw p n W B 0 Y)(l:Lw p n W B 0 Z)(a:V1):Lw p n W B 1 (uT B n X Y Z a):=
 (r.sub 1).add _ _ ((r.sub 1).add _ _ ((r.sub 1).mul _ _ (r.brk2 A _)) ((r.sub 1).mul _ _ (r.brk2 l _))) ((r.sub 1).mul _ _ (r.brk2 l _))
def Rg.e3_lw(r:Rg p n W B c)(D:Lw p n W B 0 Y)(A:Lw p n W B 0 Z)(a:V1):Lw p n W B 2 (Ca B n X Y Z a):=by
 have l:∀{e f g:hK},Lw p n W B 0 g->Lw p n W B 2 (fh B n e (fh B n f g)):=λh=>r.brk2 (r.brk2 h _) _;have s:=r.sub 2;exact s.add _ _ (s.add _ _ (s.add _ _ (s.add _ _ (s.add _ _ (s.add _ _ (s.add _ _ (s.mul _ _ (l D)) (s.mul _ _ (l D))) (s.mul _ _ (l D))) (s.mul _ _ (l A))) (s.mul _ _ (l A))) (s.mul _ _ (l A))) (s.mul _ _ (l A))) (s.mul _ _ (l A))
def Rg.evv_brv(r:Rg p n W B c)(Q:c<=3)(N:Lw p n W B 0 X)(l:Lw p n W B 0 Y)(A:Lw p n W B 0 Z)(a b:V1):
  dq p n W (fh B n (A6 B n X Y Z a) (A6 B n X Y Z b)) (A6 B n X Y Z (xS a b)):=by
 have s:=λk=>r.sub k;have l1:=λa=>r.e1_lw N l A a;have R:=λa=>r.e2_lw (X:=X) l A a;have E:=λa=>r.e3_lw (X:=X) l A a;have G:∀{f:hK},Lw p n W B 3 f->dq p n W f λ_=>0:=λh=>r.top Q h;have U:dq p n W (fh B n (Ca B n X Y Z a) (A6 B n X Y Z b)) λ_=>0:=G (r.brk (E a) _);have V:dq p n W (fh B n (wI X Y Z a) (Ca B n X Y Z b)) λ_=>0:=G (r.brk2 (E b) _);have y4:dq p n W (fh B n (uT B n X Y Z a) (λj=>uT B n X Y Z b j+Ca B n X Y Z b j)) λ_=>0:=by
  have D:Lw p n W B 1 (λj=>uT B n X Y Z b j+Ca B n X Y Z b j):=(s 1).add _ _ (R b) (r.down (E b));refine G ((s 3).eqv _ _ (dq.of_eq λt=>zTF a _ t) ?_);exact(s 3).add _ _ ((s 3).add _ _ ((s 3).mul _ _ (r.brk3 D _ _)) ((s 3).mul _ _ (r.brk3 D _ _))) ((s 3).mul _ _ (r.brk3 D _ _))
 have yj:=(zJw r.o r.q r.nf Z X Y).mul (at_ b 0*at_ a 5-at_ a 0*at_ b 5);have all:=((U.add V).add y4).add yj;refine(dq.of_eq λt=>?_).trans (((dq.refl (A6 B n X Y Z (xS a b))).add all).trans (dq.of_eq λt=>aK));have q1:=br11 (B:=B) (n:=n) (X:=X) (Y:=Y) (Z:=Z) a b t;have q2:=br123 (B:=B) (n:=n) (X:=X) (Y:=Y) (Z:=Z) a b t;have q3:fh B n (A6 B n X Y Z a) (A6 B n X Y Z b) t=fh B n (wI X Y Z a) (A6 B n X Y Z b) t+(fh B n (uT B n X Y Z a) (A6 B n X Y Z b) t+fh B n (Ca B n X Y Z a) (A6 B n X Y Z b) t):=by
  rw[show A6 B n X Y Z a=λj=>wI X Y Z a j+(λj=>uT B n X Y Z a j+Ca B n X Y Z a j) j from rfl,QF,QF]
 have I:∀f:hK,fh B n f (A6 B n X Y Z b) t=fh B n f (wI X Y Z b) t+fh B n f (λj=>uT B n X Y Z b j+Ca B n X Y Z b j) t:=λf=>by
  rw[show A6 B n X Y Z b=λj=>wI X Y Z b j+(λj=>uT B n X Y Z b j+Ca B n X Y Z b j) j from rfl,zBB]
 have S:∀f:hK,fh B n f (λj=>uT B n X Y Z b j+Ca B n X Y Z b j) t=fh B n f (uT B n X Y Z b) t+fh B n f (Ca B n X Y Z b) t:=λf=>zBB _ _ _ t;have q6:=I (wI X Y Z a);have q7:=I (uT B n X Y Z a);have q8:=S (wI X Y Z a);have q9:wI X Y Z (xS a b) t=0:=by
  obtain⟨J,L,M,_⟩:=zEm a b;simp only[wI];rw[J,L,M];omega
 have PE:A6 B n X Y Z (xS a b) t=wI X Y Z (xS a b) t+(uT B n X Y Z (xS a b) t+Ca B n X Y Z (xS a b) t):=rfl;omega
end
end
section
variable{X Y Z:hK}{b:V1}
def kadd(a b:V1):V1:=[at_ a 0+at_ b 0,at_ a 1+at_ b 1,at_ a 2+at_ b 2,at_ a 3+at_ b 3,at_ a 4+at_ b 4,at_ a 5+at_ b 5,at_ a 6+at_ b 6,at_ a 7+at_ b 7,at_ a 8+at_ b 8,at_ a 9+at_ b 9,at_ a 10+at_ b 10,at_ a 11+at_ b 11,at_ a 12+at_ b 12,at_ a 13+at_ b 13]
def kmul(k:Int)(a:V1):V1:=[k*at_ a 0,k*at_ a 1,k*at_ a 2,k*at_ a 3,k*at_ a 4,k*at_ a 5,k*at_ a 6,k*at_ a 7,k*at_ a 8,k*at_ a 9,k*at_ a 10,k*at_ a 11,k*at_ a 12,k*at_ a 13]
def kdiv(a:V1)(k:Int):V1:=[at_ a 0 / k,at_ a 1 / k,at_ a 2 / k,at_ a 3 / k,at_ a 4 / k,at_ a 5 / k,at_ a 6 / k,at_ a 7 / k,at_ a 8 / k,at_ a 9 / k,at_ a 10 / k,at_ a 11 / k,at_ a 12 / k,at_ a 13 / k]
def at_lt{f:Nat->Int}{l:V1}(A:at_ l 0=f 0/\at_ l 1=f 1/\at_ l 2=f 2/\at_ l 3=f 3/\at_ l 4=f 4/\at_ l 5=f 5/\at_ l 6=f 6/\at_ l 7=f 7/\at_ l 8=f 8/\at_ l 9=f 9/\at_ l 10=f 10/\at_ l 11=f 11/\at_ l 12=f 12/\at_ l 13=f 13):∀i,i<14->at_ l i=f i:=λi S=>by
 obtain⟨A,E,G,I,J,L,M,N,Q,R,U,xF,V,D⟩:=A
 match i,S with
 |0,_=>exact A
 |1,_=>exact E
 |2,_=>exact G
 |3,_=>exact I
 |4,_=>exact J
 |5,_=>exact L
 |6,_=>exact M
 |7,_=>exact N
 |8,_=>exact Q
 |9,_=>exact R
 |10,_=>exact U
 |11,_=>exact xF
 |12,_=>exact V
 |13,_=>exact D
def zMZ(a b:V1):∀i,i<14->at_ (kadd a b) i=at_ a i+at_ b i:=at_lt (f:=λi=>at_ a i+at_ b i) ⟨rfl,rfl,rfl,rfl,rfl,rfl,rfl,rfl,rfl,rfl,rfl,rfl,rfl,rfl⟩
def zH1(k:Int)(a:V1):∀i,i<14->at_ (kmul k a) i=k*at_ a i:=at_lt (f:=λi=>k*at_ a i) ⟨rfl,rfl,rfl,rfl,rfl,rfl,rfl,rfl,rfl,rfl,rfl,rfl,rfl,rfl⟩
def zH2(k:Int)(a:V1):∀i,i<14->at_ (kdiv a k) i=at_ a i / k:=at_lt (f:=λi=>at_ a i / k) ⟨rfl,rfl,rfl,rfl,rfl,rfl,rfl,rfl,rfl,rfl,rfl,rfl,rfl,rfl⟩
def zSN(t:Nat):A6 B n X Y Z (kadd a b) t=A6 B n X Y Z a t+A6 B n X Y Z b t:=by
 have h:=zMZ a b;simp only[A6,wI,uT,Ca];rw[h 0 af,h 1 af,h 2 af,h 3 af,h 4 af,h 5 af,h 6 af,h 7 af,h 8 af,h 9 af,h 10 af,h 11 af,h 12 af,h 13 af];grind
def zMQ(k:Int)(t:Nat):A6 B n X Y Z (kmul k a) t=k*A6 B n X Y Z a t:=by
 have h:=zH1 k a;simp only[A6,wI,uT,Ca];rw[h 0 af,h 1 af,h 2 af,h 3 af,h 4 af,h 5 af,h 6 af,h 7 af,h 8 af,h 9 af,h 10 af,h 11 af,h 12 af,h 13 af];grind
structure Md(p:Int)(c m:Nat):Prop where
 c3:c<=3
 cut:m=14\/(m=6/\c<=2)\/(m=3/\c<=1)
 d2:m<=3\/(vh p 2/\vh p (-2))
 d12:m<=6\/(vh p 12/\vh p (-12))
structure Cx(p:Int)(n:Nat)(W:V2)(B:V3)(c m:Nat)(X Y Z:hK):Prop where
 z:Lz p n W B c
 md:Md p c m
 x:Lw p n W B 0 X
 y:Lw p n W B 0 Y
 w:Lw p n W B 0 Z
structure EV(p:Int)(n:Nat)(W:V2)(B:V3)(X Y Z:hK)(a x:V1):Prop where
 el:El p n x
 eqv:dq p n W (at_ x) (A6 B n X Y Z a)
def Cx.cut(k:Cx p n W B c m X Y Z)(h:∀i,i<m->at_ a i=at_ b i):dq p n W (A6 B n X Y Z a) (A6 B n X Y Z b):=by
 have r:=k.z.r;rcases k.md.cut with rfl|⟨rfl,A⟩|⟨rfl,A⟩
 .refine dq.of_eq λt=>?_;simp only[A6,wI,uT,Ca];rw[h 0 af,h 1 af,h 2 af,h 3 af,h 4 af,h 5 af,h 6 af,h 7 af,h 8 af,h 9 af,h 10 af,h 11 af,h 12 af,h 13 af]
 .have h3:∀a,dq p n W (Ca B n X Y Z a) λ_=>0:=λa=>r.top A (r.e3_lw k.y k.w a);refine(((dq.refl (wI X Y Z a)).add ((dq.refl (uT B n X Y Z a)).add (h3 a))).trans (dq.of_eq λt=>?_)).trans ((dq.refl (wI X Y Z b)).add ((dq.refl (uT B n X Y Z b)).add (h3 b))).symm;simp only[wI,uT];rw[h 0 af,h 1 af,h 2 af,h 3 af,h 4 af,h 5 af]
 .have h3:∀a,dq p n W (Ca B n X Y Z a) λ_=>0:=λa=>r.top af (r.e3_lw k.y k.w a);have l:∀a,dq p n W (uT B n X Y Z a) λ_=>0:=λa=>r.top af (r.e2_lw k.y k.w a);refine(((dq.refl (wI X Y Z a)).add ((l a).add (h3 a))).trans (dq.of_eq λt=>?_)).trans ((dq.refl (wI X Y Z b)).add ((l b).add (h3 b))).symm;simp only[wI];rw[h 0 af,h 1 af,h 2 af]
def zS8(k:Cx p n W B c m X Y Z)(a:V1):Lw p n W B 0 (A6 B n X Y Z a):=
 (k.z.r.sub 0).add _ _ (k.z.r.e1_lw k.x k.y k.w a) ((k.z.r.sub 0).add _ _ (k.z.r.le af (k.z.r.e2_lw k.y k.w a)) (k.z.r.le af (k.z.r.e3_lw k.y k.w a)))
def zS9(k:Cx p n W B c m X Y Z)(a:V1):∃z,EV p n W B X Y Z a z:=by
 obtain⟨u,E,D⟩:=zS8 k a;obtain⟨z,l,A,_⟩:=zML k.z.r.o (E.els k.z.r.o).1 D;exact⟨z,l,A.symm⟩
def EV.same(k:Cx p n W B c m X Y Z)(h:EV p n W B X Y Z a x)(g:EV p n W B X Y Z b y)(e:∀i,i<m->at_ a i=at_ b i):x=y:=
 qX k.z.r.o h.el.1 g.el.1 h.el.2 g.el.2 (h.eqv.trans ((k.cut e).trans g.eqv.symm))
def EV.to(k:Cx p n W B c m X Y Z)(h:EV p n W B X Y Z a x)(e:∀i,i<m->at_ a i=at_ b i):EV p n W B X Y Z b x:=⟨h.el,h.eqv.trans (k.cut e)⟩
def EV.add(k:Cx p n W B c m X Y Z)(h:EV p n W B X Y Z a x)(g:EV p n W B X Y Z b y):EV p n W B X Y Z (kadd a b) (j3 p W x y):=
 ⟨zK k.z.r.o h.el g.el,(qZ k.z.r.o h.el g.el).trans ((h.eqv.add g.eqv).trans (dq.of_eq λt=>(zSN t).symm))⟩
def EV.mul(k:Cx p n W B c m X Y Z)(h:EV p n W B X Y Z a x)(q:Int):EV p n W B X Y Z (kmul q a) (ed p W q x):=
 ⟨zK k.z.r.o h.el h.el,(qK k.z.r.o h.el q).trans ((h.eqv.mul q).trans (dq.of_eq λt=>(zMQ q t).symm))⟩
def EV.brk(k:Cx p n W B c m X Y Z)(h:EV p n W B X Y Z a x)(g:EV p n W B X Y Z b y):EV p n W B X Y Z (xS a b) (br p W B n x y):=
 ⟨ey k.z.r.o k.z.r.q,(ZY k.z.r.o k.z.r.q x y).trans (((zBA k.z.r.o k.z.r.q k.z.r.nf _ h.eqv).trans (zKU k.z.r.o k.z.r.q k.z.r.nf _ g.eqv)).trans (k.z.r.evv_brv k.md.c3 k.x k.y k.w a b))⟩
def dv_of(o:eT p n W){k:Int}{x z:V1}(E:vh p k)(A:El p n x)(l:El p n z)(h:dq p n W (λj=>k*at_ z j) (at_ x)):z=dv p n W k x:=by
 refine dv_eq o A ⟨l,λD=>?_,λ_=>h⟩ (.inr E);rcases F4 n with hn|hn
 .have wI:=l.1;have uT:=A.1;rw[YU (wI.trans hn),YU (uT.trans hn)]
 .obtain⟨a,w,L⟩:=zA8 (p:=p) E hn;have e:dq p n W (λj=>k*at_ z j) (λj=>0):=h.trans (dq.of_eq (ZW D));have I:=(Qv o (f:=at_ z) (λj G=>l.beyond G)).mul w;have J:=(dq.refl (p:=p) (n:=n) (W:=W) (at_ z)).add I;have Ca:dq p n W (at_ z) (at_ x):=(((dq.of_eq λj=>(by omega)).trans J.symm).trans (dq.of_eq λj=>(by grind))).trans ((e.mul a).trans (dq.of_eq λj=>(by rw[ZW D,Y9])));exact qX o l.1 A.1 l.2 A.2 Ca
def EV.div(k:Cx p n W B c m X Y Z)(h:EV p n W B X Y Z a x){q:Int}(e:∀i,i<m->at_ a i=q*at_ b i)(A:vh p q):EV p n W B X Y Z b (dv p n W q x):=by
 obtain⟨w,hw⟩:=zS9 k b;rw[<-dv_of k.z.r.o A h.el hw.el]
 .exact hw
 .refine((hw.eqv.mul q).trans (dq.of_eq λt=>(zMQ q t).symm)).trans ((k.cut λi l=>?_).trans h.eqv.symm);have D:m<=14:=by rcases k.md.cut with h|h|h<;>omega
  rw[zH1 q b i af,e i l]
def EV.divZ(k:Cx p n W B c m X Y Z)(h:EV p n W B X Y Z a x){q:Int}(e:∀i,i<m->at_ a i=0):EV p n W B X Y Z a (dv p n W q x):=by
 have l:mw x:=Zd k.z.r.o h.el (h.eqv.trans ((k.cut (b:=[]) λi A=>e i A).trans (dq.of_eq λt=>by simp[A6,wI,uT,Ca])));rw[(Zp k.z.r.o h.el (k:=q)).nil l];exact h
def kallm(m:Nat)(f:Nat->Bool):Bool:=(DO m).all f
def zGH{m:Nat}{f:Nat->Bool}(h:kallm m f=DF):∀i,i<m->f i=DF:=λi l=>by
 have:=D2.1 h i (UC.2 l)
 exact this
def keqm(m:Nat)(a b:V1):Bool:=kallm m λi=>at_ a i == at_ b i
def kdvd(m:Nat)(a:V1)(q:Int):Bool:=kallm m λi=>at_ a i % q == 0
def EV.eq(k:Cx p n W B c m X Y Z)(h:EV p n W B X Y Z a x)(g:EV p n W B X Y Z b y)(e:keqm m a b=DF):x=y:=h.same k g λi l=>by simpa using zGH e i l
def EV.dvk(k:Cx p n W B c m X Y Z)(h:EV p n W B X Y Z a x){q:Int}(e:kdvd m a q=DF)(A:vh p q):EV p n W B X Y Z (kdiv a q) (dv p n W q x):=by
 have D:m<=14:=by rcases k.md.cut with h|h|h<;>omega
 refine h.div k (λi l=>?_) A;rw[zH2 q a i af]
 have:=zGH e i l
 simp only[beq_iff_eq]at this;exact(Int.mul_ediv_cancel' (Iq this)).symm
def zDD(a b:V1):V1:=kadd (xS a (xS a b)) (xS b (kmul (-1) (xS a b)))
def kbch(a b:V1):V1:=kadd (kadd (kadd a b) (kdiv (xS a b) 2)) (kdiv (zDD a b) 12)
def kokb(m:Nat)(a b:V1):Bool:=kdvd m (xS a b) 2 && kdvd m (zDD a b) 12
def zHc(a b:V1){i:Nat}(E:i<3):at_ (xS a b) i=0:=by
 obtain⟨l,A,D,_⟩:=zEm a b
 match i,E with
 |0,_=>exact l
 |1,_=>exact A
 |2,_=>exact D
def zI3(a b:V1)(l:∀i,i<3->at_ b i=0){i:Nat}(N:i<6):at_ (xS a b) i=0:=by
 obtain⟨E,G,I,J,L,M,_⟩:=zEm a b;have A:=l 0 af;have b1:=l 1 af;have D:=l 2 af
 match i,N with
 |0,_=>exact E
 |1,_=>exact G
 |2,_=>exact I
 |3,_=>rw[J,A,b1];omega
 |4,_=>rw[L,A,D];omega
 |5,_=>rw[M,b1,D];omega
def zNc(a b:V1){i:Nat}(l:i<6):at_ (zDD a b) i=0:=by
 rw[zDD,zMZ _ _ i af,zI3 _ _ (λi l=>zHc a b l) l,zI3 _ _ (λi l=>by rw[zH1 _ _ i af,zHc a b l];omega) l];omega
def EV.third(k:Cx p n W B c m X Y Z)(h:EV p n W B X Y Z a x)(g:EV p n W B X Y Z b y):EV p n W B X Y Z (zDD a b) (qo p W B n x y):=
 (h.brk k (h.brk k g)).add k (g.brk k ((h.brk k g).mul k (-1)))
def EV.jU(k:Cx p n W B c m X Y Z)(h:EV p n W B X Y Z a x)(g:EV p n W B X Y Z b y)(e:kokb m a b=DF):EV p n W B X Y Z (kbch a b) (jU p n W B x y):=by
 have L:m<=14:=by rcases k.md.cut with h|h|h<;>omega
 simp only[kokb,Yo]at e;have D:∀{a:V1} {q:Int} {v:V1},(∀i,i<m->at_ a i=0)->EV p n W B X Y Z a v->EV p n W B X Y Z (kdiv a q) (dv p n W q v):=λA J=>(J.divZ k A).to k λi l=>by
  rw[zH2 _ _ i af,A i l,Int.zero_ediv]
 have E:EV p n W B X Y Z (kdiv (xS a b) 2) (dv p n W 2 (br p W B n x y)):=by
  rcases k.md.d2 with I|hc
  .exact D (λi l=>zHc a b af) (h.brk k g)
  .exact(h.brk k g).dvk k e.1 hc.1
 have G:EV p n W B X Y Z (kdiv (zDD a b) 12) (dv p n W 12 (qo p W B n x y)):=by
  rcases k.md.d12 with I|hc
  .exact D (λi l=>zNc a b af) (h.third k g)
  .exact(h.third k g).dvk k e.2 hc.1
 exact((h.add k g).add k E).add k G
def EV.zero(k:Cx p n W B c m X Y Z):EV p n W B X Y Z [] (Ep n 0):=
 ⟨ZB k.z.r.o.pr,dq.of_eq λt=>by rw[zb];simp[A6,wI,uT,Ca]⟩
def zRJ(o:eT p n W)(q:lS p n B)(a b:V1):∀j,j<2->at_ (br p W B n a b) j=0:=by
 have hs:∀t,t<2->at_ (xk B a b n) t=0:=λt D=>by
  rw[xk,bi_at q t (na _)];refine qQ _ λi A=>qQ _ λj l=>?_;rw[(q.get A l).2 t af,Y9]
 intro j l;rcases YG j n with x|x
 .exact zBO o (qc q) (d:=min 2 n) (KD _ _) (λj l=>hs j af) j af
 .exact nX (by rw[(ey o q).1];exact x)
def zJj(o:eT p n W)(q:lS p n B):∀{k:Nat} {u:V2},wV p n W B (k+1) u->∀x∈u,k+2<=cX x
 |0,u,h,y,hy=>by
  cases h with
  |succ h hc=>
   have l:=hc.base.led y hy;have A:=(hc.gen _).2 (zY hy);have E:=zDf o (m:=min 2 n) (zDO o q _ _) (KD _ _) (λv D j I=>by
    obtain⟨x,J,h⟩:=UD.1 D;obtain⟨e,G,rfl⟩:=YI.1 h;exact zRJ o q _ _ j af) l.1 A
   have hd:=zAJ (v:=y) (d:=min 2 n) (by rw[l.1.1];exact KD _ _) E
   have:=l.2.1
   omega
 |k+1,u,h,y,hy=>by
  cases h with
  |succ h hc=>exact zDS o q hc (zJj o q h) y hy
def zJ1{a b:Int}(l:0<=b)(h:b<=a):∀k,fG b k<=fG a k/\0<=fG b k
 |0=>⟨UA _,by show(0:Int)<=1;decide⟩
 |k+1=>by
  obtain⟨A,D⟩:=zJ1 l h k;rw[fG,fG];exact⟨HI A h l af,UG D l⟩
def Lz.md(z:Lz p n W B c):∃m,Md p c m:=by
 have J:=z.hc;have l:=z.hp;have hw:=z.pow;have L:=z.r.o.le;by_cases A:p=2
 .exact⟨3,af,.inr (.inr ⟨rfl,af⟩),.inl (na _),.inl af⟩
 .by_cases G:p=3
  .exact⟨6,af,.inr (.inl ⟨rfl,af⟩),.inr (zH0 l A),.inl (na _)⟩
  .refine⟨14,?_,.inl rfl,.inr (zH0 l A),.inr (zHK l A G)⟩;have M:n<=4:=by
    rcases YG 4 n with hx|hx
    .exfalso;have I:(5:Int)<=p:=by rcases l with h|h|h|h<;>omega
     have:=(zJ1 (a:=p) (b:=5) af I n).1
     have e:n=5\/n=6:=af
     rcases e with rfl|rfl
     .have:fG 5 5=3125:=by decide
      omega
     .have:fG 5 6=15625:=by decide
      omega
    .exact hx
   rcases YG 3 c with hx|hx
   .exfalso;obtain⟨u,D⟩:=z.r.low 3;have E:=z.r.cls.2 3 u hx D;cases u with
    |nil=>exact E rfl
    |cons v t=>
     have hd:=zJj z.r.o z.r.q D v aK;cases D with
     |succ h dK=>
      have:=(dK.base.led v aK).2.1
      omega
   .exact hx
def scl(m:Nat):Int:=if m=14 then 1728 else if m=6 then 16 else 1
def Md.scl(h:Md p c m)(l:jF p):vh p (scl m):=by
 have one:vh p 1:=⟨1,0,af⟩
 have mul:∀{a b:Int},vh p a->vh p b->vh p (a*b):=λ{a b} ⟨e,t,h⟩ ⟨f,s,g⟩=>⟨e*f,t+s+p*t*s,by grind⟩
 rcases h.cut with rfl|⟨rfl,_⟩|⟨rfl,_⟩
 .rcases h.d12 with h|h
  .omega
  .exact mul (mul h.1 h.1) h.1
 .rcases h.d2 with h|h
  .omega
  .exact mul (mul (mul h.1 h.1) h.1) h.1
 .exact one
def scaled(o:eT p n W){q:Int}(l:vh p q)(A:El p n x):dq p n W (at_ x) λj=>q*at_ (dv p n W q x) j:=((Zp o A).eqv l).symm
def Lz.cx(z:Lz p n W B c){x y w:V1}(A:El p n x)(D:El p n y)(hw:El p n w):∃m X Y Z,Cx p n W B c m X Y Z/\EV p n W B X Y Z [scl m] x/\EV p n W B X Y Z [0,scl m] y/\EV p n W B X Y Z [0,0,scl m] w/\(m=14\/m=6\/m=3):=by
 obtain⟨m,md⟩:=z.md;have l:=md.scl z.hp;have o:=z.r.o;refine⟨m,at_ (dv p n W (scl m) x),at_ (dv p n W (scl m) y),at_ (dv p n W (scl m) w),⟨z,md,z.r.all (mR o A),z.r.all (mR o D),z.r.all (mR o hw)⟩,⟨A,(scaled o l A).trans (dq.of_eq λt=>?_)⟩,⟨D,(scaled o l D).trans (dq.of_eq λt=>?_)⟩,⟨hw,(scaled o l hw).trans (dq.of_eq λt=>?_)⟩,by rcases md.cut with h|h|h<;>omega⟩
 all_goals simp[A6,wI,uT,Ca]
def Lz.assoc(z:Lz p n W B c){x y w:V1}(G:El p n x)(I:El p n y)(hw:El p n w):Go.Proofs.jU p n W B (Go.Proofs.jU p n W B x y) w=Go.Proofs.jU p n W B x (Go.Proofs.jU p n W B y w):=by
 obtain⟨m,X,Y,Z,k,A,D,l,E⟩:=z.cx G I hw;rcases E with rfl|rfl|rfl<;>exact((A.jU k D LB).jU k l LB).eq k (A.jU k (D.jU k l LB) LB) LB
end
section
variable{X Y Z:hK}{b:V1}
def kok2(m:Nat)(a:V1):Bool:=kdvd m a 2 && (decide (3<m) || keqm m a [])
def kok12(m:Nat)(a:V1):Bool:=kdvd m a 12 && (decide (6<m) || keqm m a [])
def EV.dv0(k:Cx p n W B c m X Y Z)(h:EV p n W B X Y Z a x){q:Int}(e:keqm m a []=DF):EV p n W B X Y Z (kdiv a q) (dv p n W q x):=by
 have D:m<=14:=by rcases k.md.cut with h|h|h<;>omega
 have A:∀i,i<m->at_ a i=0:=λi l=>by simpa using zGH e i l
 exact(h.divZ k A).to k λi l=>by rw[zH2 _ _ i af,A i l,Int.zero_ediv]
def EV.dv2(k:Cx p n W B c m X Y Z)(h:EV p n W B X Y Z a x)(e:kok2 m a=DF):EV p n W B X Y Z (kdiv a 2) (dv p n W 2 x):=by
 simp only[kok2,Yo,Uv,decide_eq_true_eq]at e;rcases e.2 with h3|h3
 .rcases k.md.d2 with l|hc
  .omega
  .exact h.dvk k e.1 hc.1
 .exact h.dv0 k h3
def EV.dv12(k:Cx p n W B c m X Y Z)(h:EV p n W B X Y Z a x)(e:kok12 m a=DF):EV p n W B X Y Z (kdiv a 12) (dv p n W 12 x):=by
 simp only[kok12,Yo,Uv,decide_eq_true_eq]at e;rcases e.2 with h3|h3
 .rcases k.md.d12 with l|hc
  .omega
  .exact h.dvk k e.1 hc.1
 .exact h.dv0 k h3
def kf3(a b d:V1):V1:=kbch (kbch (kbch [] a) b) d
def kok3(m:Nat)(a b d:V1):Bool:=kokb m [] a && kokb m (kbch [] a) b && kokb m (kbch (kbch [] a) b) d
def EV.fold3(k:Cx p n W B c m X Y Z){d w:V1}(l:EV p n W B X Y Z a x)(A:EV p n W B X Y Z b y)(hw:EV p n W B X Y Z d w)(e:kok3 m a b d=DF):EV p n W B X Y Z (kf3 a b d) (fold p n W B [x,y,w]):=by
 simp only[kok3,Yo]at e;exact(((EV.zero k).jU k l e.1.1).jU k A e.1.2).jU k hw e.2
def kf4(a b d e:V1):V1:=kbch (kf3 a b d) e
def kok4(m:Nat)(a b d e:V1):Bool:=kok3 m a b d && kokb m (kf3 a b d) e
def EV.fold4(k:Cx p n W B c m X Y Z){d w l A:V1}(E:EV p n W B X Y Z a x)(G:EV p n W B X Y Z b y)(hw:EV p n W B X Y Z d w)(D:EV p n W B X Y Z l A)(e:kok4 m a b d l=DF):EV p n W B X Y Z (kf4 a b d l) (fold p n W B [x,y,w,A]):=by
 simp only[kok4,Yo]at e;exact(EV.fold3 k E G hw e.1).jU k D e.2
def kcomm(a b:V1):V1:=kf4 (kmul (-1) a) (kmul (-1) b) a b
def kokc(m:Nat)(a b:V1):Bool:=kok4 m (kmul (-1) a) (kmul (-1) b) a b
def EV.comm(k:Cx p n W B c m X Y Z)(l:EV p n W B X Y Z a x)(A:EV p n W B X Y Z b y)(e:kokc m a b=DF):EV p n W B X Y Z (kcomm a b) (comm p n W B x y):=EV.fold4 k (l.mul k _) (A.mul k _) l A e
def kconj(a b:V1):V1:=kf3 (kmul (-1) b) a b
def EV.mT(k:Cx p n W B c m X Y Z)(A:EV p n W B X Y Z a x)(l:EV p n W B X Y Z b y)(e:kok3 m (kmul (-1) b) a b=DF):EV p n W B X Y Z (kconj a b) (mT p n W B x y):=EV.fold3 k (l.mul k _) A l e
def Lz.inv_l(z:Lz p n W B c)(l:El p n x):jU p n W B (ed p W (-1) x) x=Ep n 0:=by
 obtain⟨m,X,Y,Z,k,A,G,E,D⟩:=z.cx l l l;rcases D with rfl|rfl|rfl<;>exact((A.mul k _).jU k A LB).eq k (EV.zero k) LB
def Lz.inv_r(z:Lz p n W B c)(l:El p n x):jU p n W B x (ed p W (-1) x)=Ep n 0:=by
 obtain⟨m,X,Y,Z,k,A,G,E,D⟩:=z.cx l l l;rcases D with rfl|rfl|rfl<;>exact(A.jU k (A.mul k _) LB).eq k (EV.zero k) LB
def Lz.one_l(z:Lz p n W B c)(l:El p n x):jU p n W B (Ep n 0) x=x:=by
 obtain⟨m,X,Y,Z,k,A,G,E,D⟩:=z.cx l l l;rcases D with rfl|rfl|rfl<;>exact((EV.zero k).jU k A LB).eq k A LB
def Lz.one_r(z:Lz p n W B c)(l:El p n x):jU p n W B x (Ep n 0)=x:=by
 obtain⟨m,X,Y,Z,k,A,G,E,D⟩:=z.cx l l l;rcases D with rfl|rfl|rfl<;>exact(A.jU k (EV.zero k) LB).eq k A LB
def Lz.sumP(z:Lz p n W B c)(D:El p n x)(G:El p n y):Go.Proofs.sumP p n W B x y=j3 p W x y:=by
 obtain⟨m,X,Y,Z,k,l,A,I,E⟩:=z.cx D G D;have out:∀{e:V1},keqm m (kcomm [scl m] [0,scl m]) e=DF->True:=λ_=>trivial;rcases E with rfl|rfl|rfl<;>
  exact(((((EV.zero k).jU k l LB).jU k A LB).jU k (((l.comm k A LB).dv2 k LB).mul k (-1)) LB).jU k (((l.comm k A LB).comm k l LB).dv12 k LB) LB
   |>.jU k ((((l.comm k A LB).comm k A LB).dv12 k LB).mul k (-1)) LB).eq k (l.add k A) LB
def Lz.brkP(z:Lz p n W B c)(D:El p n x)(G:El p n y):Go.Proofs.brkP p n W B x y=br p W B n x y:=by
 obtain⟨m,X,Y,Z,k,l,A,I,E⟩:=z.cx D G D;rcases E with rfl|rfl|rfl<;>
  exact(EV.fold3 k (l.comm k A LB) ((((l.comm k A LB).comm k l LB).dv2 k LB).mul k (-1)) ((((l.comm k A LB).comm k A LB).dv2 k LB).mul k (-1)) LB).eq k (l.brk k A) LB
end
section
variable{X Y Z:hK}
noncomputable def tsum(p:Int)(n:Nat)(W:V2)(B:V3)(y x:V1):Nat->V1
 |0=>Ep n 0
 |j+1=>j3 p W (tsum p n W B y x j) (cterm p n W B y x j)
def zDi(o:eT p n W)(q:lS p n B)(l:El p n x)(j:Nat):El p n (cterm p n W B y x j):=mR o (zTR o q l j)
def zHb(o:eT p n W)(q:lS p n B)(l:El p n x):∀j,El p n (tsum p n W B y x j)
 |0=>ZB o.pr
 |j+1=>zK o (zHb o q l j) (zDi o q l j)
def zPG(o:eT p n W){s z:V1}(hs:El p n s)(l:El p n z)(A:mw z):j3 p W s z=s:=
 qX o (zK o hs l).1 hs.1 (zK o hs l).2 hs.2 ((qZ o hs l).trans (dq.of_eq λt=>by rw[ZW A,UO]))
def EV.dv1(k:Cx p n W B c m X Y Z)(h:EV p n W B X Y Z a x):EV p n W B X Y Z a (dv p n W 1 x):=by
 rw[<-dv_of k.z.r.o ⟨1,0,af⟩ h.el h.el (dq.of_eq λj=>Ub _)];exact h
def Lz.conj_sum3(z:Lz p n W B c)(D:El p n x)(G:El p n y):tsum p n W B y x 3=Go.Proofs.mT p n W B x y:=by
 obtain⟨m,X,Y,Z,k,l,A,I,E⟩:=z.cx D G D;rcases E with rfl|rfl|rfl<;>
  exact((((EV.zero k).add k (l.dv1 k)).add k ((l.brk k A).dv1 k)).add k (((l.brk k A).brk k A).dv2 k LB)).eq k (l.mT k A LB) LB
def Lz.conj_move(z:Lz p n W B c)(D:El p n x)(G:El p n y):jU p n W B y (Go.Proofs.mT p n W B x y)=jU p n W B x y:=by
 obtain⟨m,X,Y,Z,k,A,l,I,E⟩:=z.cx D G D;rcases E with rfl|rfl|rfl<;>exact(l.jU k (A.mT k l LB) LB).eq k (A.jU k l LB) LB
def Lz.conj_comm(z:Lz p n W B c)(D:El p n x)(G:El p n y):jU p n W B (ed p W (-1) x) (Go.Proofs.mT p n W B x y)=Go.Proofs.comm p n W B x y:=by
 obtain⟨m,X,Y,Z,k,l,A,I,E⟩:=z.cx D G D;rcases E with rfl|rfl|rfl<;>exact((l.mul k _).jU k (l.mT k A LB) LB).eq k (l.comm k A LB) LB
def Lz.pow_step(z:Lz p n W B c)(l:El p n x)(j:Int):jU p n W B (ed p W j x) x=ed p W (j+1) x:=by
 have o:=z.r.o;have q:=z.r.q;have D:=zK o l l (k:=j) (m:=0);have A:mw (br p W B n (ed p W j x) x):=by
  refine Zd o (ey o q) ((ZY o q _ _).trans ((zBA o q z.r.nf _ (qK o l j)).trans (dq.of_eq λt=>?_)));rw[qV,zKT,Y9]
 have E:mw (qo p W B n (ed p W j x) x):=by
  refine Zd o (Zh o q) ((qZ o (ey o q) (ey o q)).trans (dq.of_eq λt=>?_));have I:mw (br p W B n (ed p W j x) (br p W B n (ed p W j x) x)):=by
   refine Zd o (ey o q) ((ZY o q _ _).trans (dq.of_eq λt=>?_));rw[zf,QY (f':=λj=>0*at_ x j) (g':=at_ (ed p W j x)) (λj=>by rw[ZW A,UU]) (λ_=>rfl),qV,UU,Y9]
  have J:mw (br p W B n x (ed p W (-1) (br p W B n (ed p W j x) x))):=by
   have L:mw (ed p W (-1) (br p W B n (ed p W j x) x)):=Zd o (zK o (ey o q) (ey o q)) ((qK o (ey o q) (-1)).trans (dq.of_eq λt=>by rw[ZW A,Y9]));refine Zd o (ey o q) ((ZY o q _ _).trans (dq.of_eq λt=>?_));rw[zf,QY (f':=λj=>0*at_ x j) (g':=at_ x) (λj=>by rw[ZW L,UU]) (λ_=>rfl),qV,UU,Y9]
  rw[ZW I,ZW J];rfl
 unfold Go.Proofs.jU;have M:mw (dv p n W 2 (br p W B n (ed p W j x) x)):=by rw[(Zp o (ey o q) (k:=2)).nil A];exact A
 have G:mw (dv p n W 12 (qo p W B n (ed p W j x) x)):=by rw[(Zp o (Zh o q) (k:=12)).nil E];exact E
 have hs:El p n (j3 p W (ed p W j x) x):=zK o D l;rw[zPG o hs (mR o (ey o q)) M,zPG o hs (mR o (Zh o q)) G];refine qX o hs.1 (zK o l l).1 hs.2 (zK o l l).2 ((qZ o D l).trans (((qK o l j).add (dq.refl _)).trans (dq.trans (dq.of_eq λt=>?_) (qK o l (j+1)).symm)));grind
end
section
open Go.Grp
def Lz.gp(z:Lz p n W B c):Gp (El p n) (jU p n W B) (Ep n 0):=by
 have o:=z.r.o;have q:=z.r.q;refine⟨⟨⟨aK,λy E=>by rw[Yi E];have:=o.pr.1;omega⟩,λl A=>QG o q l A,λl A D=>z.assoc l A D,λl=>z.one_l l,λl=>z.one_r l⟩,λ{a} l=>⟨ed p W (-1) a,zK o l l,z.inv_r l,z.inv_l l⟩⟩
def Lz.pw_eq(z:Lz p n W B c){x:V1}(l:El p n x):∀k:Nat,Grp.pw (jU p n W B) (Ep n 0) x k=ed p W k x
 |0=>by
  have o:=z.r.o;have A:El p n (Ep n 0):=z.gp.one;have e:=(qK o l ((0:Nat):Int));refine(qX o A.1 (zK o l l).1 A.2 (zK o l l).2 ?_);refine dq.trans ?_ e.symm;exact dq.of_eq λj=>by show at_ (Ep n (0:Int)) j=_;rw[zb];simp
 |k+1=>by
  show jU p n W B (Grp.pw (jU p n W B) (Ep n 0) x k) x=_;rw[z.pw_eq l k,z.pow_step l];rfl
end
section
open Go.Grp
variable{a:Nat}{f g:hK}
def Dzv(p:Int)(n:Nat)(W:V2)(a:Nat)(f:hK):Prop:=∃v:V1,(Lu v)=n/\(∀j,j<a->at_ v j=0)/\dq p n W f (at_ v)
def Dzv.sub(a:Nat):pY p n W (Dzv p n W a) where
 zero:=⟨Ep n 0,aK,λj _=>zb n j,dq.of_eq λj=>(zb n j).symm⟩
 add:=λf g ⟨v,l,A,D⟩ ⟨w,G,I,J⟩=>⟨eX 1 v 1 w,by rw[zT (l.trans G.symm)];exact l,λj E=>by rw[qC (l.trans G.symm),A j E,I j E];rfl,(D.add J).trans (dq.of_eq λj=>by rw[qC (l.trans G.symm)];omega)⟩
 mul:=λk f ⟨v,l,A,D⟩=>⟨eX k v 0 v,by rw[zT rfl];exact l,λj E=>by rw[qC rfl,A j E];simp,(D.mul k).trans (dq.of_eq λj=>by rw[qC rfl];simp)⟩
 eqv:=λf g e ⟨v,l,A,D⟩=>⟨v,l,A,e.trans D⟩
def Dzv.of(l:El p n x)(h:∀j,j<a->at_ x j=0):Dzv p n W a (at_ x):=⟨x,l.1,h,dq.refl _⟩
def Dzv.mono{b:Nat}(h:Dzv p n W a f)(E:b<=a):Dzv p n W b f:=by
 obtain⟨v,l,A,D⟩:=h;exact⟨v,l,λj G=>A j af,D⟩
def zTM(q:lS p n B){v:V1}(h:∀j,j<a->at_ v j=0)(g:hK):(∀t,t<a+1->fh B n (at_ v) g t=0)/\∀t,n<=t->fh B n (at_ v) g t=0:=by
 refine⟨λt G=>qQ n λi l=>qQ _ λj A=>?_,λt G=>qQ n λi l=>qQ _ λj A=>?_⟩
 .obtain⟨D,E⟩:=q.get l A;rcases YG (i+1+j) a with h1|h1
  .rw[h i af,h (i+1+j) h1];simp
  .rw[E t af,Y9]
 .obtain⟨D,E⟩:=q.get l A;rw[D.beyond G,Y9]
def Dzv.rj(o:eT p n W)(q:lS p n B)(I:ZF p W B n)(h:Dzv p n W a f)(g:hK):Dzv p n W (a+1) (fh B n f g):=by
 obtain⟨v,J,A,D⟩:=h;obtain⟨G,l⟩:=zTM q A g;refine⟨tab n (fh B n (at_ v) g),zAb _,λj E=>by rw[zI6 _ l];exact G j E,(zBA o q I g D).trans (dq.of_eq λj=>(zI6 _ l j).symm)⟩
structure Fil(p:Int)(n:Nat)(W:V2)(B:V3)(S:Nat->hK->Prop):Prop where
 sub:∀k,pY p n W (S k)
 down:∀k f,S (k+1) f->S k f
 rj:∀k f g,S k f->S (k+1) (fh B n f g)
def Fil.brR{S:Nat->hK->Prop}(F:Fil p n W B S)(k:Nat)(f g:hK)(h:S k g):S (k+1) (fh B n f g):=
 (F.sub _).eqv _ _ (dq.of_eq λt=>zf f g t) ((F.sub _).mul _ _ (F.rj k g f h))
def Fil.br{S:Nat->hK->Prop}(F:Fil p n W B S)(o:eT p n W)(q:lS p n B){k:Nat}(h:S k (at_ x)\/S k (at_ y)):S (k+1) (at_ (br p W B n x y)):=
 (F.sub _).eqv _ _ (ZY o q x y) (by
  rcases h with h|h
  .exact F.rj _ _ _ h
  .exact F.brR _ _ _ h)
def Lz.fil(z:Lz p n W B c):Fil p n W B (Lw p n W B):=⟨λk=>z.r.sub k,λk f h=>z.r.down h,λk f g h=>z.r.brk h g⟩
def Lz.filD(z:Lz p n W B c):Fil p n W B (Dzv p n W):=⟨λk=>Dzv.sub k,λk f h=>h.mono af,λk f g h=>h.rj z.r.o z.r.q z.r.nf g⟩
def Lz.bch_fil(z:Lz p n W B c){S:Nat->hK->Prop}(F:Fil p n W B S)(l:El p n x)(D:El p n y):∃u:hK,(∀k,S k (at_ x)\/S k (at_ y)->S (k+1) u)/\dq p n W (at_ (jU p n W B x y)) λj=>at_ x j+at_ y j+u j:=by
 have o:=z.r.o;have q:=z.r.q;have A:El p n (Go.Proofs.br p W B n x y):=ey o q;have E:El p n (qo p W B n x y):=Zh o q;refine⟨λj=>at_ (dv p n W 2 (Go.Proofs.br p W B n x y)) j+at_ (dv p n W 12 (qo p W B n x y)) j,λk h=>?_,?_⟩
 .have d1:S (k+1) (at_ (Go.Proofs.br p W B n x y)):=F.br o q h;have d2:S (k+1) (at_ (qo p W B n x y)):=by
   refine(F.sub _).eqv _ _ (qZ o (ey o q) (ey o q)) ((F.sub _).add _ _ ?_ ?_)
   .exact F.down _ _ (F.br o q (.inr d1))
   .exact F.down _ _ (F.br o q (.inr ((F.sub _).eqv _ _ (qK o A (-1)) ((F.sub _).mul _ _ d1))))
  exact(F.sub _).add _ _ (zHI o (F.sub _) (Zp o A) (z.d2 l) d1) (zHI o (F.sub _) (Zp o E) (z.d12 l) d2)
 .refine(qZ o (zK o (zK o l D) (mR o A)) (mR o E)).trans ?_;refine((qZ o (zK o l D) (mR o A)).add (dq.refl _)).trans ?_;refine(((qZ o l D).add (dq.refl _)).add (dq.refl _)).trans (dq.of_eq λj=>?_);show _=at_ x j+at_ y j+(_+_);omega
def zMT:vh p 1:=⟨1,0,af⟩
def zDM(o:eT p n W)(q:lS p n B)(A:El p n x)(l:El p n y):El p n (mT p n W B x y):=zA6 o q (els3 (Qu o l) A l)
def Lz.conj_fil(z:Lz p n W B c){S:Nat->hK->Prop}(F:Fil p n W B S)(l:El p n x)(L:El p n y):∃u:hK,(∀k,S k (at_ x)\/S k (at_ y)->S (k+1) u)/\dq p n W (at_ (mT p n W B x y)) λj=>at_ x j+u j:=by
 have o:=z.r.o;have q:=z.r.q;have A:El p n (Go.Proofs.br p W B n x y):=ey o q;have J:El p n (Go.Proofs.br p W B n (Go.Proofs.br p W B n x y) y):=ey o q;refine⟨λj=>at_ (dv p n W 1 (Go.Proofs.br p W B n x y)) j+at_ (dv p n W 2 (Go.Proofs.br p W B n (Go.Proofs.br p W B n x y) y)) j,λk h=>?_,?_⟩
 .have d1:S (k+1) (at_ (Go.Proofs.br p W B n x y)):=F.br o q h;exact(F.sub _).add _ _ (zHI o (F.sub _) (Zp o A) (.inr zMT) d1) (zHI o (F.sub _) (Zp o J) (z.d2 A) (F.down _ _ (F.br o q (.inl d1))))
 .rw[<-z.conj_sum3 l L];have D:El p n (cterm p n W B y x 0):=zDi o q l 0;have E:El p n (cterm p n W B y x 1):=zDi o q l 1;have G:El p n (cterm p n W B y x 2):=zDi o q l 2;have M:El p n (tsum p n W B y x 1):=zHb o q l 1;have N:El p n (tsum p n W B y x 2):=zHb o q l 2;have I:dq p n W (at_ (cterm p n W B y x 0)) (at_ x):=((dq.of_eq λj=>by show _=1*at_ (dv p n W 1 x) j;rw[Ub];rfl).trans ((Zp o l (k:=1)).eqv zMT))
  refine(qZ o N G).trans (((qZ o M E).add (dq.refl _)).trans ?_);refine((((qZ o (ZB o.pr) D).trans ((dq.of_eq (λj=>zb n j)).add I)).add (dq.refl _)).add (dq.refl _)).trans (dq.of_eq λj=>?_);show 0+at_ x j+at_ (dv p n W 1 (Go.Proofs.br p W B n x y)) j+at_ (dv p n W 2 (Go.Proofs.br p W B n (Go.Proofs.br p W B n x y) y)) j=at_ x j+(_+_);omega
def Lz.comm_fil(z:Lz p n W B c){S:Nat->hK->Prop}(F:Fil p n W B S)(l:El p n x)(A:El p n y){k:Nat}(h:S k (at_ x)):S (k+1) (at_ (Go.Proofs.comm p n W B x y)):=by
 have o:=z.r.o;have q:=z.r.q;have I:=Qu o l;have E:=zDM o q l A;obtain⟨u,J,e⟩:=z.conj_fil F l A;obtain⟨v,L,D⟩:=z.bch_fil F I E;rw[<-z.conj_comm l A];have G:S (k+1) v:=L k (.inl ((F.sub _).eqv _ _ (qK o l (-1)) ((F.sub _).mul _ _ h)));refine(F.sub _).eqv _ _ D ((F.sub _).eqv _ _ (((qK o l (-1)).add e).add (dq.refl v)) ((F.sub _).eqv _ _ (dq.of_eq λj=>?_) ((F.sub _).add _ _ (J k (.inl h)) G)));show -1*at_ x j+(at_ x j+u j)+v j=u j+v j;omega
def Lz.bch_eqv(z:Lz p n W B c)(l:El p n x)(A:El p n y):∃u:hK,(∀a,Dzv p n W a (at_ x)\/Dzv p n W a (at_ y)->Dzv p n W (a+1) u)/\dq p n W (at_ (jU p n W B x y)) λj=>at_ x j+at_ y j+u j:=z.bch_fil z.filD l A
def zGm{A B k p:Int}(h:A=B-k*p)(l:0<=A/\A<=p-1):A=B % p:=by
 have:B=A+k*p:=af
 rw[this,KE,Ys l.1 af]
def Lz.head(z:Lz p n W B c)(E:El p n x)(G:El p n y)(M:a<n)(h:Dzv p n W a (at_ x)\/Dzv p n W a (at_ y))(hs:∀j,j<a->0<=at_ x j+at_ y j/\at_ x j+at_ y j<=p-1):
  (∀j,j<a->at_ (jU p n W B x y) j=at_ x j+at_ y j)/\at_ (jU p n W B x y) a=(at_ x a+at_ y a) % p:=by
 have o:=z.r.o;obtain⟨u,N,e⟩:=z.bch_eqv E G;obtain⟨v,R,A,L⟩:=N a h;have D:El p n (jU p n W B x y):=QG o z.r.q E G;have J:=e.trans ((dq.refl (λj=>at_ x j+at_ y j)).add L);obtain⟨Q,k,I⟩:=QW o J M (λj l=>D.at0 o j) (λj l=>by rw[A j af];have:=hs j l;omega);refine⟨λj l=>by rw[Q j l,A j af];omega,?_⟩;rw[A a af]at I
 have:=zGm I (D.at0 o a)
 rw[this,UO]
def Lz.headL(z:Lz p n W B c)(A:El p n x)(D:El p n y)(I:a<n)(h:∀j,j<a->at_ x j=0):
  (∀j,j<a->at_ (jU p n W B x y) j=at_ y j)/\at_ (jU p n W B x y) a=(at_ x a+at_ y a) % p:=by
 obtain⟨E,G⟩:=z.head A D I (.inl (Dzv.of A h)) λj l=>by rw[h j l];have:=D.at0 z.r.o j;omega
 exact⟨λj l=>by rw[E j l,h j l];omega,G⟩
def zQq(o:eT p n W)(G:El p n x)(D:a<n)(h:∀j,j<a->at_ x j=0)(k:Int):(∀j,j<a->at_ (ed p W k x) j=0)/\at_ (ed p W k x) a=(k*at_ x a) % p:=by
 have l:∀j,j<a->at_ (eX k x 0 x) j=0:=λj E=>by rw[qC rfl,h j E];simp
 have A:(eX k x 0 x).length=n:=by rw[zT rfl];exact G.1
 refine⟨zBO o A af l,?_⟩;rw[zEI o A D l,qC rfl];simp
def zBJ{i:Nat}(l:i<n):(∀j,j<i->at_ (cD n i) j=0)/\at_ (cD n i) i=1:=⟨λj A=>by rw[zw l,DL af],by rw[zw l,DK rfl]⟩
def zCZ(o:eT p n W){i:Nat}(l:i<n)(k:Int):El p n (ed p W k (cD n i))/\(∀j,j<i->at_ (ed p W k (cD n i)) j=0)/\at_ (ed p W k (cD n i)) i=k % p:=by
 have A:=zQ (n:=n) o.pr l;obtain⟨D,E⟩:=zQq o A l (zBJ l).1 k;exact⟨zK o A A,D,by rw[E,(zBJ l).2,Ur]⟩
def zLv(z:Lz p n W B c)(l:El p n x):∀{i:Nat},i<=n->∀j,j<i->at_ (mC p n W B x i).2 j=0
 |0,_,j,hj=>by omega
 |i+1,hi,j,hj=>by
  have o:=z.r.o;obtain⟨A,D,E⟩:=zCZ o (show i<n by omega) (-at_ (mC p n W B x i).2 i);have G:=zBK o z.r.q l (i:=i) af;obtain⟨I,J⟩:=z.headL A G af D;show at_ (jU p n W B _ _) j=0;rcases YG j i with h|h
  .rw[I j h];exact zLv z l af j h
  .have hj:j=i:=af
   subst hj;rw[J,E,IP,show -at_ (mC p n W B x j).2 j+at_ (mC p n W B x j).2 j=0 by omega,IL]
def zN5{m:Nat}:∀{i:Nat},m<i->i<=n->at_ (mC p n W B x i).1 m=at_ (mC p n W B x m).2 m
 |0,h,_=>by omega
 |i+1,h,hi=>by
  have l:=Zo (p:=p) (n:=n) (W:=W) (B:=B) (x:=x) i;show at_ ((mC p n W B x i).1.set i _) m=_;rw[eJ af];split
  .rename_i e;subst e;rfl
  .exact zN5 af af
def zGQ{m:Nat}(l:m<n):at_ (yG p n W B x) m=at_ (mC p n W B x m).2 m:=zN5 l (na _)
def zN0:(yG p n W B x).length=n:=Zo n
def vc_el(z:Lz p n W B c)(D:El p n x):El p n (yG p n W B x):=by
 have o:=z.r.o;refine⟨zN0,λy E=>?_⟩;obtain⟨i,l,rfl⟩:=YR.1 E;have A:i<n:=by rw[<-zN0 (p:=p) (n:=n) (W:=W) (B:=B) (x:=x)];exact l
 rw[<-dp l,zGQ A];exact(zBK o z.r.q D af).at0 o i
def zQu(o:eT p n W)(A:El p n x)(k l:Int):ed p W k (ed p W l x)=ed p W (k*l) x:=by
 have D:El p n (ed p W l x):=zK o A A;refine qX o (zK o D D).1 (zK o A A).1 (zK o D D).2 (zK o A A).2 ?_;refine(qK o D k).trans (((qK o A l).mul k).trans (dq.trans (dq.of_eq λj=>?_) (qK o A (k*l)).symm));rw[UR]
def zO6(o:eT p n W)(l:El p n x):ed p W 0 x=Ep n 0:=by
 refine qX o (zK o l l).1 aK (zK o l l).2 (ZB o.pr).2 ?_;exact(qK o l 0).trans (dq.of_eq λj=>by rw[zb];simp)
def zLx(z:Lz p n W B c)(D:El p n x):∀{i:Nat},i<=n->jU p n W B (Cn p n W B (yG p n W B x) i) (mC p n W B x i).2=x
 |0,_=>z.one_l D
 |i+1,hi=>by
  have o:=z.r.o;have q:=z.r.q;have A:=zBK o q D (i:=i) af;have E:=zAe o q (yG p n W B x) (i:=i) af;have l:=λk=>(zCZ o (show i<n by omega) k).1;show jU p n W B (jU p n W B (Cn p n W B (yG p n W B x) i) (ed p W (at_ (yG p n W B x) i) (cD n i))) (jU p n W B (ed p W (-at_ (mC p n W B x i).2 i) (cD n i)) (mC p n W B x i).2)=x;rw[zGQ af,z.assoc E (l _) (QG o q (l _) A),<-z.assoc (l _) (l _) A];have e:ed p W (-at_ (mC p n W B x i).2 i) (cD n i)=ed p W (-1) (ed p W (at_ (mC p n W B x i).2 i) (cD n i)):=by
   rw[zQu o (zQ o.pr af)];congr 1;omega
  rw[e,z.inv_r (l _),z.one_l A,zLx z D af]
def pt_vc(z:Lz p n W B c)(l:El p n x):Cn p n W B (yG p n W B x) n=x:=by
 have o:=z.r.o;have h:=zLx z l (na n);have e:(mC p n W B x n).2=Ep n 0:=Zz (by rw[(zBK o z.r.q l (na n)).1];simp) λj A=>by
  rw[(zBK o z.r.q l (na n)).1]at A;rw[zLv z l (na n) j A,zb]
 rw[e,z.one_r (zAe o z.r.q _ (na n))]at h;exact h
def zHe(z:Lz p n W B c)(l:El p n x)(h:∀j,j<a->at_ x j=0):∀{i:Nat},i<=n->i<=a->(mC p n W B x i).2=x
 |0,_,_=>rfl
 |i+1,hi,ha=>by
  have A:=zHe z l h (i:=i) af af;show jU p n W B (ed p W (-at_ (mC p n W B x i).2 i) (cD n i)) (mC p n W B x i).2=x;rw[A,h i af,Int.neg_zero,zO6 z.r.o (zQ z.r.o.pr af),z.one_l l]
def zHY(z:Lz p n W B c)(l:El p n x)(E:a<=n)(h:∀j,j<a->at_ x j=0):(∀j,j<a->at_ (yG p n W B x) j=0)/\(a<n->at_ (yG p n W B x) a=at_ x a):=by
 refine⟨λj A=>by rw[zGQ af,zHe z l h af af];exact h j A,λD=>by rw[zGQ D,zHe z l h af (na _)]⟩
end
section
open Go.Grp
variable{a:Nat}{f:hK}
noncomputable def lgP(p:Int)(n:Nat)(W:V2)(B:V3)(i:Nat):V1:=yG p n W B (ed p W p (cD n i))
noncomputable def lgC(p:Int)(n:Nat)(W:V2)(B:V3)(i k:Nat):V1:=yG p n W B (mT p n W B (cD n (i+(1+k))) (cD n i))
noncomputable def jo(p:Int)(n:Nat)(W:V2)(B:V3)(m:Nat):V2:=(DO m).map (lgP p n W B)
noncomputable def lgR(p:Int)(n:Nat)(W:V2)(B:V3)(i m:Nat):V2:=(DO m).map (lgC p n W B i)
noncomputable def jm(p:Int)(n:Nat)(W:V2)(B:V3)(m:Nat):V3:=(DO m).map λi=>lgR p n W B i (n-1-i)
abbrev rO(p:Int)(n:Nat):V1:=Ep n p
def wM{j:Nat}(h:j<n):at_ (rO p n) j=p:=by rw[dp (by simpa using h)];simp
def getD_map{α:Type}(f:Nat->α)(d:α){m i:Nat}(h:i<m):((DO m).map f).getD i d=f i:=by
 rw[YW,UZ,List.getElem?_range h];rfl
def zMG{j:Nat}(h:j<n):eM (jo p n W B n) j=lgP p n W B j:=getD_map _ _ h
def zO7{i:Nat}(h:i<n):(jm p n W B n).getD i []=lgR p n W B i (n-1-i):=getD_map _ _ h
def zHs{i j:Nat}(h:i<j)(l:j<n):du (jm p n W B n) i j=yG p n W B (mT p n W B (cD n j) (cD n i)):=by
 show((jm p n W B n).getD i []).getD (j-i-1) []=_
 rw[zO7 af];unfold lgR;rw[getD_map _ _ af];unfold lgC;rw[show i+(1+(j-i-1))=j by omega]
def tt_el{t:Nat}(o:eT p n W):TT (rO p n) t x↔El p n x/\∀j,j<t->at_ x j=0:=by
 constructor
 .intro h;have E:(Lu x)=n:=by rw[h.len];simp
  refine⟨⟨E,λy G=>?_⟩,h.zero⟩;obtain⟨i,A,rfl⟩:=YR.1 G
  have:=h.bd i (by simp;omega)
  rw[wM af,dp A]at this;omega
 .rintro⟨h,l⟩
  refine⟨by rw[h.1];simp,λj D=>?_,l⟩;rw[wM (by simpa using D)]
  have:=h.at0 o j
  omega
noncomputable abbrev rPh (p:Int) (n:Nat) (W:V2) (B:V3) (x:V1) (t d:Nat):V1:=Grp.ph (jU p n W B) (Ep n 0) (cD n) (nx x) t d
def Lz.pwu(z:Lz p n W B c){i:Nat}(l:i<n)(k:Nat):Grp.pw (jU p n W B) (Ep n 0) (cD n i) k=ed p W k (cD n i):=z.pw_eq (zQ z.r.o.pr l) k
def nx_eq(h:0<=at_ x a):((nx x a:Nat):Int)=at_ x a:=YD h
def zB9(z:Lz p n W B c){x:V1}:∀{d t:Nat},t+d<=n->El p n (rPh p n W B x t d)/\(∀j,j<t->at_ (rPh p n W B x t d) j=0)/\(0<d->at_ (rPh p n W B x t d) t=(nx x t:Int) % p)
 |0,t,h=>⟨ZB z.r.o.pr,λj _=>zb n j,λh=>af⟩
 |d+1,t,h=>by
  obtain⟨A,D,M⟩:=zB9 z (x:=x) (d:=d) (t:=t+1) af;have e:rPh p n W B x t (d+1)=jU p n W B (ed p W (nx x t) (cD n t)) (rPh p n W B x (t+1) d):=by
   show jU p n W B (Grp.pw _ _ _ _) _=_;rw[z.pwu af]
  obtain⟨l,E,G⟩:=zCZ z.r.o (show t<n by omega) (nx x t:Int);obtain⟨J,L⟩:=z.headL l A af E;rw[e];refine⟨QG z.r.o z.r.q l A,λj I=>by rw[J j I];exact D j af,λ_=>?_⟩;rw[L,G,D t af,UO,UK _ (Uk p)]
def zJS(z:Lz p n W B c):∀{d t:Nat} {x y:V1},t+d<=n->(∀j,t<=j->j<t+d->(0<=at_ x j/\at_ x j<p)/\(0<=at_ y j/\at_ y j<p))->rPh p n W B x t d=rPh p n W B y t d->∀j,t<=j->j<t+d->at_ x j=at_ y j
 |0,t,x,y,h,hr,e,j,A,D=>by omega
 |d+1,t,x,y,h,hr,e,j,A,D=>by
  have l:=(zB9 z (x:=x) (d:=d+1) (t:=t) h).2.2 af;have I:=(zB9 z (x:=y) (d:=d+1) (t:=t) h).2.2 af;obtain⟨⟨r1,r2⟩,r3,L⟩:=hr t (na _) af;have E:at_ x t=at_ y t:=by
   rw[e,I,nx_eq r1,nx_eq r3,Ys r1 r2,Ys r3 L]at l;exact l.symm
  rcases YG t j with hj|hj
  .have G:=z.gp;refine zJS z (d:=d) (t:=t+1) af (λj A D=>hr j af af) ?_ j hj af;have J:=zQ (n:=n) z.r.o.pr (show t<n by omega);refine G.cancel (G.pw J (nx x t)) (zB9 z af).1 (zB9 z af).1 ?_
   have:nx x t=nx y t:=by unfold nx;rw[E]
   show rPh p n W B x t (d+1)=_;rw[e,this];rfl
  .have:j=t:=af
   subst this;exact E
def B4(z:Lz p n W B c)(D:El p n x):rPh p n W B x 0 n=Cn p n W B x n:=by
 have o:=z.r.o;have key:∀i,i<=n->jU p n W B (Cn p n W B x i) (rPh p n W B x i (n-i))=rPh p n W B x 0 n:=by
  intro i
  induction i with
  |zero=>intro _;exact z.one_l (zB9 z af).1
  |succ i ih=>
   intro E;rw[<-ih af];have l:=zQ (n:=n) o.pr (show i<n by omega);have A:=zAe o z.r.q x (i:=i) af;have e:rPh p n W B x i (n-i)=jU p n W B (ed p W (nx x i) (cD n i)) (rPh p n W B x (i+1) (n-(i+1))):=by
    rw[show n-i=(n-(i+1))+1 by omega];show jU p n W B (Grp.pw _ _ _ _) _=_;rw[z.pwu af]
   rw[e,<-z.assoc A (zK o l l) (zB9 z af).1,nx_eq (D.at0 o i).1];rfl
 rw[<-key n (na _),Yk];exact z.one_r (zAe o z.r.q x (na _))
def ph_vc(z:Lz p n W B c)(l:El p n x){t:Nat}(D:t<=n)(h:∀j,j<t->at_ x j=0):rPh p n W B (yG p n W B x) t (n-t)=x:=by
 have e:=B4 z (vc_el z l);rw[pt_vc z l]at e;have k:=z.gp.toMon.ph_skip (h:=cD n) (x:=nx (yG p n W B x)) (d:=n-t) (k:=t) (t:=0) (λj _ A=>by unfold nx;rw[(zHY z l D h).1 j af];rfl) (λj _ A=>zQ z.r.o.pr af);rw[Y5,show t+(n-t)=n by omega]at k;exact k.symm.trans e
def zPj(z:Lz p n W B c)(A:El p n x)(G:El p n y)(L:a<n)(h:∀j,j<a->at_ x j=0):(∀j,j<a->at_ (mT p n W B x y) j=0)/\at_ (mT p n W B x y) a=at_ x a:=by
 have o:=z.r.o;have E:=zDM o z.r.q A G;obtain⟨u,M,e⟩:=z.conj_fil z.filD A G;obtain⟨v,R,D,J⟩:=M a (.inl (Dzv.of A h));have I:=e.trans ((dq.refl (at_ x)).add J);obtain⟨N,k,Q⟩:=QW o I L (λj l=>E.at0 o j) (λj l=>by rw[D j af,h j l];have:=o.pr.1;omega);refine⟨λj l=>by rw[N j l,D j af,h j l];rfl,?_⟩
 have:=zGm Q (E.at0 o a)
 rw[this,D a af,UO,Ys (A.at0 o a).1 (by have:=A.at0 o a;omega)]
def vc_tt(z:Lz p n W B c)(l:El p n x){t:Nat}(A:t<=n)(h:∀j,j<t->at_ x j=0):TT (rO p n) t (yG p n W B x):=(tt_el z.r.o).2 ⟨vc_el z l,(zHY z l A h).1⟩
def zDk(z:Lz p n W B c){i j:Nat}(h:i<j)(l:j<n):El p n (mT p n W B (cD n j) (cD n i))/\(∀k,k<j->at_ (mT p n W B (cD n j) (cD n i)) k=0)/\at_ (mT p n W B (cD n j) (cD n i)) j=1:=by
 have o:=z.r.o;have A:=zQ (n:=n) o.pr (show i<n by omega);have D:=zQ (n:=n) o.pr l;obtain⟨E,G⟩:=zPj z D A l (zBJ l).1;exact⟨zDM o z.r.q D A,E,by rw[G,(zBJ l).2]⟩
def zEE(z:Lz p n W B c){j:Nat}(E:j<n):El p n (ed p W p (cD n j))/\∀k,k<j+1->at_ (ed p W p (cD n j)) k=0:=by
 obtain⟨l,A,D⟩:=zCZ z.r.o E p;refine⟨l,λk G=>?_⟩;rcases YG k j with h|h
 .exact A k h
 .have:k=j:=af
  subst this;rw[D,Int.emod_self]
def zL7(z:Lz p n W B c){t j:Nat}(h:t<=j)(l:j<n):rPh p n W B (cD n j) t (n-t)=cD n j:=by
 have o:=z.r.o;have E:=zQ (n:=n) o.pr l;have k:=z.gp.toMon.ph_skip (h:=cD n) (x:=nx (cD n j)) (d:=n-j) (k:=j-t) (t:=t) (λk A D=>by unfold nx;rw[zw l,DL af];rfl) (λk A D=>zQ o.pr af);rw[show j-t+(n-j)=n-t by omega,show t+(j-t)=j by omega]at k;refine k.trans ?_;have G:=z.gp.toMon.ph_skip (h:=cD n) (x:=nx (cD n j)) (d:=0) (k:=n-(j+1)) (t:=j+1) (λk A D=>by unfold nx;rw[zw l,DL af];rfl) (λk A D=>zQ o.pr af);simp only[UF]at G;rw[show n-j=(n-(j+1))+1 by omega];show jU p n W B (Grp.pw _ _ _ _) (Grp.ph _ _ _ _ _ _)=_;rw[G];have I:nx (cD n j) j=1:=by unfold nx;rw[(zBJ l).2];rfl
 rw[I,z.gp.toMon.pw_one E];exact z.one_r E
def zBQ(z:Lz p n W B c):jl (rO p n) (jo p n W B n) (jm p n W B n) where
 le:=by simp;exact z.r.o.le
 pr:=λj D=>by rw[wM (by simpa using D)];exact z.r.o.pr
 pl:=by simp[jo]
 cl:=by simp[jm]
 pw:=λi A=>by
  have l:i<n:=by simpa using A
  rw[zMG l];exact vc_tt z (zEE z l).1 af (zEE z l).2
 row:=λi A=>by
  have l:i<n:=by simpa using A
  rw[zO7 l];simp[lgR]
 cj:=λi j E D=>by
  have G:j<n:=by simpa using D
  rw[zHs E G];obtain⟨I,J,L⟩:=zDk z E G;exact vc_tt z I af λk M=>J k af
def zO8(z:Lz p n W B c):Rel (rO p n) (jo p n W B n) (jm p n W B n) (El p n) (jU p n W B) (Ep n 0) (cD n) 0 where
 mem:=λj _ G=>zQ z.r.o.pr (by simpa using G)
 pow:=λj _ G=>by
  have l:j<n:=by simpa using G
  obtain⟨D,E⟩:=zEE z l;rw[zMG l];have e:=ph_vc z D (show j+1<=n by omega) E;have el:(rO p n).length=n:=aK
  show _=Grp.ph _ _ _ _ ((rO p n).length-((rO p n).length-(j+1))) ((rO p n).length-(j+1));rw[el,show n-(n-(j+1))=j+1 by omega];refine Eq.trans ?_ e.symm;rw[z.pwu l];unfold nx;rw[wM l,YD (by have:=z.r.o.pr.1;omega)]
 cj:=λj k _ I J=>by
  have A:k<n:=by simpa using J
  have o:=z.r.o;obtain⟨D,E,L⟩:=zDk z I A;rw[zHs I A];have e:=ph_vc z D (show j+1<=n by omega) (λi M=>E i af);have el:(rO p n).length=n:=aK
  show _=jU p n W B _ (Grp.ph _ _ _ _ ((rO p n).length-((rO p n).length-(j+1))) ((rO p n).length-(j+1)));rw[el,show n-(n-(j+1))=j+1 by omega];refine Eq.trans ?_ (congrArg (jU p n W B (cD n j)) e.symm);exact(z.conj_move (zQ o.pr A) (zQ o.pr af)).symm
def zMI(z:Lz p n W B c):Cons (rO p n) (jo p n W B n) (jm p n W B n):=by
 have el:(rO p n).length=n:=aK
 have o:=z.r.o;have l:∀i x,Ph (rO p n) (jU p n W B) (Ep n 0) (cD n) ((rO p n).length-(i+1)) x=Grp.ph (jU p n W B) (Ep n 0) (cD n) (nx x) (n-(n-(i+1))) (n-(i+1)):=λi x=>by
  show Grp.ph _ _ _ _ ((rO p n).length-((rO p n).length-(i+1))) ((rO p n).length-(i+1))=_;rw[el]
 refine Cons.of_rel (zBQ z) z.gp (zO8 z) (λi N x y D J e=>?_) (λi j x M G D=>?_) (λi j M G=>?_)
 .have fJ:i<n:=by simpa using N
  rw[show(rO p n).length-1-i=(rO p n).length-(i+1) by omega,l,l,show n-(n-(i+1))=i+1 by omega]at e;have Q:∀j,i+1<=j->j<i+1+(n-(i+1))->(0<=at_ x j/\at_ x j<p)/\(0<=at_ y j/\at_ y j<p):=λj A E=>by
   have b1:=D.bd j (by rw[el];omega);have I:=J.bd j (by rw[el];omega);rw[wM af]at b1 I;exact⟨b1,I⟩
  have:=zJS z af Q e
  exact D.ext J λj A E=>this j A af
 .have gE:j<n:=by simpa using G
  rw[show(rO p n).length-1-i=(rO p n).length-(i+1) by omega,l,l,show n-(n-(i+1))=i+1 by omega,show n-(n-(j+1))=j+1 by omega];have k:=z.gp.toMon.ph_skip (h:=cD n) (x:=nx x) (d:=n-(j+1)) (k:=j-i) (t:=i+1) (λk A E=>by unfold nx;rw[D.zero k af];rfl) (λk A E=>zQ o.pr af);rw[show j-i+(n-(j+1))=n-(i+1) by omega,show i+1+(j-i)=j+1 by omega]at k;exact k
 .have gE:j<n:=by simpa using G
  rw[show(rO p n).length-1-i=(rO p n).length-(i+1) by omega,l,show n-(n-(i+1))=i+1 by omega];have L:Grp.unit (rO p n) j=cD n j:=by show(Ep (rO p n).length 0).set j 1=_;rw[el];rfl
  rw[L];exact zL7 z af gE
end
section
open Go.Grp
variable{g:hK}
def zHa{O x:V1}{t:Nat}(h:TT O t x):Zy O t x:=by
 refine⟨⟨h.len,λj l=>by have:=h.bd j (by rw[<-h.len];exact l);omega⟩,λv A=>?_⟩;rw[UB]at A;obtain⟨j,l,rfl⟩:=A;rw[<-dp];exact h.zero j af
def zF6(p:Int):∀n,fG p n=p ^ n
 |0=>by simp[fG]
 |n+1=>by rw[HN,<-zF6 p n];simp only[fG];try rw[UN]
def zMH(z:Lz p n W B c):qG (rO p n) (jo p n W B n) (jm p n W B n):=by
 have s:=zBQ z;have el:(rO p n).length=n:=aK
 refine⟨s.le,s.pl,s.cl,λo A=>by rw[Yi A];exact z.hp,?_,λi l=>⟨zHa (s.pw i l),s.row i l,λk D=>?_⟩⟩
 .rw[zED λo A=>Yi A,el,<-zF6];exact z.pow
 .rw[s.row i l]at D
  have:=s.cj i (i+1+k) af af
  unfold du at this;rw[show i+1+k-i-1=k by omega]at this;exact zHa this
def zO9(z:Lz p n W B c):vF (rO p n) (jm p n W B n):=by
 have el:(rO p n).length=n:=aK
 intro i E;rw[el]at E;refine⟨by rw[wM E,wM af],λq l=>?_⟩;rw[el]at l;obtain⟨A,D,G⟩:=zDk z (i:=i) (j:=i+(1+q)) af l;have e:=zHs (p:=p) (W:=W) (B:=B) (i:=i) (j:=i+(1+q)) af l;obtain⟨J,I⟩:=zHY z A (Y8 l) D;refine⟨?_,?_⟩
 .rw[e,I l,G]
 .rw[e];exact(zHa (vc_tt z A (Y8 l) D)).2
def mV(z:Lz p n W B c):LG (rO p n) (jo p n W B n) (jm p n W B n):=⟨zMH z,zMI z,zO9 z⟩
def jx(z:Lz p n W B c):gS (rO p n) x↔El p n x:=by
 rw[show gS (rO p n) x=TT (rO p n) 0 x from rfl,tt_el z.r.o];exact⟨λh=>h.1,λh=>⟨h,λj l=>af⟩⟩
def vc_pt(z:Lz p n W B c)(A:El p n x):yG p n W B (Cn p n W B x n)=x:=by
 have o:=z.r.o;have D:=zAe o z.r.q x (na n);have l:=vc_el z D;refine zHF l A λj E=>?_;refine zJS z (d:=n) (t:=0) (x:=yG p n W B (Cn p n W B x n)) (y:=x) af (λj _ _=>⟨by have:=l.at0 o j;omega,by have:=A.at0 o j;omega⟩) ?_ j (YV _) af;rw[B4 z l,pt_vc z D,B4 z A]
def zJL(z:Lz p n W B c)(l:El p n x)(A:El p n y)(h:Cn p n W B x n=Cn p n W B y n):x=y:=by rw[<-vc_pt z l,h,vc_pt z A]
noncomputable abbrev rgm (p:Int) (n:Nat) (W:V2) (B:V3):V1->V1->V1:=gm (rO p n) (jo p n W B n) (jm p n W B n)
def Qd(z:Lz p n W B c)(l:El p n x)(A:El p n y):El p n (rgm p n W B x y)/\Cn p n W B (rgm p n W B x y) n=jU p n W B (Cn p n W B x n) (Cn p n W B y n):=by
 have el:(rO p n).length=n:=aK
 have G:=(mV z).F.g;have D:=(jx z).1 (G.cl ((jx z).2 l) ((jx z).2 A));refine⟨D,?_⟩;have tt:∀{x},El p n x->TT (rO p n) ((rO p n).length-(rO p n).length) x:=λ{x} h=>by rw[Yk];exact(jx z).2 h
 have d:=dyck (zBQ z) z.gp.toMon (zO8 z) (d:=(rO p n).length) af (tt l) (tt A);have e:∀x,Ph (rO p n) (jU p n W B) (Ep n 0) (cD n) (rO p n).length x=rPh p n W B x 0 n:=λx=>by show Grp.ph _ _ _ _ ((rO p n).length-(rO p n).length) (rO p n).length=_;rw[el,Yk]
 rw[e,e,e,B4 z l,B4 z A]at d;rw[<-d];exact(B4 z D).symm
def ji(z:Lz p n W B c)(x:V1):El p n (Cn p n W B x n):=zAe z.r.o z.r.q x (na n)
def zv_rO:zv (rO p n)=Ep n 0:=by show Ep (rO p n).length 0=_;simp
def Qm(z:Lz p n W B c):Cn p n W B (zv (rO p n)) n=Ep n 0:=by
 have o:=z.r.o;rw[zv_rO,<-B4 z (ZB o.pr)]
 have:=z.gp.toMon.ph_skip (h:=cD n) (x:=nx (Ep n (0:Int))) (d:=0) (k:=n) (t:=0) (λj _ D=>by unfold nx;rw[zb];rfl) (λj l A=>af)
 simp only[UF]at this;exact this
def Lz.comm_spec(z:Lz p n W B c)(l:El p n x)(A:El p n y):jU p n W B (jU p n W B y x) (Go.Proofs.comm p n W B x y)=jU p n W B x y:=by
 have o:=z.r.o;have q:=z.r.q;have D:=zDM o q l A;have E:=Qu o l;rw[<-z.conj_comm l A,z.assoc A l (QG o q E D),<-z.assoc l E D,z.inv_r l,z.one_l D,z.conj_move l A]
def zB2(z:Lz p n W B c)(l:El p n x)(A:El p n y):Cn p n W B (dM (rO p n) (jo p n W B n) (jm p n W B n) x y) n=comm p n W B (Cn p n W B x n) (Cn p n W B y n):=by
 have G:=(mV z).F.g;have o:=z.r.o;have q:=z.r.q;have E:=(jx z).2 l;have I:=(jx z).2 A;have J:=(jx z).1 (G.com_in E I);have e:=G.com_spec E I;have D:Cn p n W B (rgm p n W B (rgm p n W B y x) (dM (rO p n) (jo p n W B n) (jm p n W B n) x y)) n=Cn p n W B (rgm p n W B x y) n:=by
  have:rgm p n W B (rgm p n W B y x) (dM (rO p n) (jo p n W B n) (jm p n W B n) x y)=rgm p n W B x y:=e
  rw[this]
 rw[(Qd z (Qd z A l).1 J).2,(Qd z A l).2,(Qd z l A).2,<-z.comm_spec (ji z x) (ji z y)]at D;exact z.gp.cancel (QG o q (ji z y) (ji z x)) (ji z _) (Qo z (ji z x) (ji z y)) D
def zNj(z:Lz p n W B c){i:Nat}(l:i<(rO p n).length):El p n (Grp.unit (rO p n) i):=(jx z).1 ((zBQ z).unit l (YV _))
def zJl(z:Lz p n W B c):∀k,∀x∈Lc (rO p n) (jo p n W B n) (jm p n W B n) k,El p n x/\Lw p n W B k (at_ (Cn p n W B x n))
 |0,x,hx=>by
  have h:=(uB (zBQ z) (mV z).F 0 x hx).1;exact⟨(jx z).1 h,z.r.all (ji z x)⟩
 |k+1,x,hx=>by
  have h:=(uB (zBQ z) (mV z).F (k+1) x hx).1;refine⟨(jx z).1 h,?_⟩;obtain⟨⟨y,i,E,D,rfl⟩,G⟩:=zA1.1 hx;obtain⟨l,A⟩:=zJl z k y E;rw[zB2 z l (zNj z D)];exact z.comm_fil z.fil (ji z y) (ji z _) A
def zBR(z:Lz p n W B c):jq (rO p n) (jo p n W B n) (jm p n W B n):=by
 rcases F4 n with h0|h0
 .left;subst h0;rfl
 .right;refine⟨c,by rw[wM h0];exact z.hc,?_⟩;refine List.eq_nil_iff_forall_not_mem.2 λx D=>?_;obtain⟨l,A⟩:=zJl z c x D;have E:=z.r.zero (na _) (ji z x) A;refine(uB (zBQ z) (mV z).F c x D).2 (zJL z l (by rw[zv_rO];exact ZB z.r.o.pr) ?_);rw[Qm z];refine UM (by rw[(ji z x).1];simp) λi l A=>?_;rw[E _ (YZ l)];simp
def zSA(z:Lz p n W B c):isLG (rO p n) (jo p n W B n) (jm p n W B n):=⟨⟨⟨zMH z,zMI z⟩,zO9 z⟩,zBR z⟩
end
section
variable{s:Nat}
def zD6{P:Program}{c:IC}{Q:Exit->ec->cg->Prop}{e:ec}{h:cg}(id:Nat)(J:ec->cg->Prop)(A:∀l:Exit->ec->cg->Prop,(∀e h,J e h->l (.exit id) e h)->vp P c l e h)(D:∀e h,J e h->Q (.exit id) e h):vp P c Q e h:=A Q D
def zIi(z:Lz p n W B c)(hs:jE σ s p vP vB)(hR:lx vP vB W B)
  (hk:∀vO vQ vC t,FI vO (Ep n p)->jj vQ (jo p n W B n)->Db vC (jm p n W B n)->Own σ.top t (.agg [vO,vQ,vC])->σ.top<=t->K (.agg [vO,vQ,vC]) (σ.up t)):
  zA Li 61 [.ptr s 0] σ K:=by
 have o:=z.r.o;have q:=z.r.q;have aX:=o.le;have dS:=o.len;have dZ:=hs.lt;have gA:=z.hp.bd;have aJ:=hR;obtain⟨⟨wp,ap,rp,rfl,lT⟩,hB⟩:=hR;have G:σ.dR s 1=Dc (.fz wp ap (Lu W) rp):=by rw[zH hs.bt];rfl
 have e0:σ.dR s 0=Dc (.int .i64 p):=by rw[zH hs.bt];rfl
 have dg:¬s=σ.aM:=af
 refine zA.gh ?_;refine qH mix Tryz.func61 ?_;simp only[Z3,seval,-ae,e0,G,dg,dS];refine zA.frz (s:=σ.aM+1) (cs:=cS [p]) (by refine Lk ?_;rfl) (zL _ _) λo1=>?_;simp only[kq,Go.Ab.sb,gk,and_self,if_true,decide_true,na];refine zPv rfl aX λvr hr=>?_;refine Lk ?_;have fD:∀{g:cg} {u0 u1 u2:PV},cT (σ.bf [Ln,Ln,Ln]) g->u0.one=DF->u1.one=DF->u2.one=DF->g.wr σ.aM 0 [u0,u1,u2]=Dc (g.set σ.aM [u0,u1,u2])/\(g.set σ.aM [u0,u1,u2]).rd σ.aM 0 3=Dc [u0,u1,u2]:=λ{g u0 u1 u2} k z0 z1 z2=>by
  have aQ:g.bt σ.aM=Dc [Ln,Ln,Ln]:=by rw[k.bt _ (YM _),zI,DK rfl]
  exact⟨by rw[zR aQ,DK ⟨aK,by simp only[Ej,Em,z0,z1,z2];rfl⟩];rfl,by rw[zi,DK rfl];rfl⟩
 generalize hS:((σ.bf [Ln,Ln,Ln]).bf [.int .i64 p]).kill (σ.aM+1)=S;have Gb:S.aM=σ.aM+2:=by rw[<-hS];rfl
 have Fl:cT (σ.bf [Ln,Ln,Ln]) S:=by rw[<-hS];exact(zC _ _).kill (na _)
 have ez:=zC σ [Ln,Ln,Ln];rcases F4 n with gg|aL
 .as_aux_lemma=>
  subst gg;refine zD7 hr (λA k1=>?_) λA cap hc k1 ho ah=>?_
  .have k2:=(Fl.trans k1).bf [Ln,Ln,Ln];obtain⟨g1,I⟩:=fD k2 (u0:=Ln) (u1:=Ln) (u2:=Ln) rfl rfl rfl;have g3:(A.bf [Ln,Ln,Ln]).rd A.aM 0 3=Dc [Ln,Ln,Ln]:=by simp only[Z3,seval,-ae]
   refine Lk ?_;refine zF (λm J h'=>m=0/\J=[.ptr s 0,.ptr σ.aM 0,.int .i64 (0:Nat),.ptr A.aM 0,.int .i64 (0:Nat),.int .i64 (0:Nat)]/\h'=A.bf [Ln,Ln,Ln]) 0 ⟨rfl,rfl,rfl⟩ ?_
   rintro m J h' ⟨rfl,rfl,rfl⟩
   generalize hg:A.bf [Ln,Ln,Ln]=g at *
   simp only[Z3,seval,-ae,g1,I,g3];exact Gh.treeO (t:=.agg [.nil,.nil,.nil]) ((ez.trans k2).set (na _) _) ⟨DJ,DJ,DJ,DJ⟩ FK λa T A h2=>hk _ _ _ T ⟨DF,.b8,rfl⟩ ⟨DF,.b8,[],rfl,dd.nil _⟩ ⟨DF,.b8,[],rfl,dd.nil _⟩ A h2
  .have k2:=(Fl.trans k1).bf [.sl (S.aM+1) 0 0 cap,Ln,Ln];obtain⟨g1,I⟩:=fD k2 (u0:=.sl (S.aM+1) 0 0 cap) (u1:=Ln) (u2:=Ln) rfl rfl rfl;have g3:(A.bf [.sl (S.aM+1) 0 0 cap,Ln,Ln]).rd A.aM 0 3=Dc [.sl (S.aM+1) 0 0 cap,Ln,Ln]:=by simp only[Z3,seval,-ae]
   refine Lk ?_;refine zF (λm J h'=>m=0/\J=[.ptr s 0,.ptr σ.aM 0,.int .i64 (0:Nat),.ptr A.aM 0,.int .i64 (0:Nat),.int .i64 (0:Nat)]/\h'=A.bf [.sl (S.aM+1) 0 0 cap,Ln,Ln]) 0 ⟨rfl,rfl,rfl⟩ ?_
   rintro m J h' ⟨rfl,rfl,rfl⟩
   generalize hg:A.bf [.sl (S.aM+1) 0 0 cap,Ln,Ln]=g at *
   simp only[Z3,seval,-ae,g1,I,g3];refine Gh.treeO (t:=.agg [TR.row (S.aM+1) cap [],.nil,.nil]) ((ez.trans k2).set (na _) _) ⟨TR.row_ok hc ?_ af ?_,DJ,DJ,DJ⟩ (by simp[TR.ca,TR.slotss,TR.row]) λa T A h2=>hk _ _ _ T TR.row_FI ⟨DF,.b8,[],rfl,dd.nil _⟩ ⟨DF,.b8,[],rfl,dd.nil _⟩ A h2
   .rw[zG,DL af,<-hg,zI,DL af];exact ho
   .rw[<-hg];show S.aM+1<A.aM+1;omega
 refine zD2 (n:=n) hr aK aL aX λcapO vQ vC pc ls A nM D je lV dO=>?_;obtain⟨sP,capP,rfl,cP,oP,lP,bP,xP⟩:=D.accP.pos af;obtain⟨sC,capC,rfl,cC,oC,lC,bC,xC⟩:=D.accC.pos af;rw[je]at cP;rw[lV]at cC;have xO:=D.oO;have tg:=D.sOb;have b:BF (σ.bf [Ln,Ln,Ln]) (A.bf [.sl (S.aM+1) 0 n capO,.sl sP 0 n capP,.sl sC 0 n capC]) A.aM (S.aM+1) sP sC ls:=by
  have hb:∀s,s∈[A.aM,S.aM+1,sP,sC]++LS.ca ls->S.aM<=s/\s<A.aM+1:=λs hs=>by
   simp only[Yr,Yl,YH]at hs
   have:=D.cf.aM
   rcases hs with rfl|rfl|rfl|rfl|hs
   .omega
   .omega
   .omega
   .omega
   .have:=D.lt hs;omega
  refine⟨λs hs=>⟨by have:=(hb s hs).1;show σ.aM+1<=s;omega,(hb s hs).2⟩,?_⟩;simp only[Yr,Yl,He,YH,not_or];refine⟨⟨af,af,af,λhm=>by have:=(D.lt hm).2;omega⟩,⟨λe=>D.neP (S.aM+1) (.inr (.inr rfl)) 0 _ capP (by rw[<-e]),λe=>D.neC (S.aM+1) (.inr (.inr rfl)) 0 _ capC (by rw[<-e]),D.neL.2⟩,⟨λe=>D.nePC sP 0 _ capP rfl 0 _ capC (by rw[e]),λhm=>D.neP sP (.inl hm) 0 _ capP rfl⟩,λhm=>D.neC sC (.inl hm) 0 _ capC rfl,D.nd⟩
 have li:LI (σ.bf [Ln,Ln,Ln]) (A.bf [.sl (S.aM+1) 0 n capO,.sl sP 0 n capP,.sl sC 0 n capC]) (A.bf [.sl (S.aM+1) 0 n capO,.sl sP 0 n capP,.sl sC 0 n capC]) A.aM (S.aM+1) sP sC (.sl (S.aM+1) 0 n capO) capP capC n (cS (Ep n p)) pc ls [] [] []:=by
  refine⟨(Fl.trans D.cf).bf _,na _,by rw[zI,DK rfl],by rw[zI,DL af];exact xO,by rw[zI,DL af];simpa using oP,by rw[zI,DL af];exact oC,λj q hq=>?_,λq hq=>(by simp at hq),by simp[qM]⟩
  have:=(D.ok q (Yg hq))
  rw[zI,DL (by have:=this.2.2.2;omega),this.2.1];unfold cont;simp
 rw[je,lV];refine Lk ?_;clear oP oC lP lC bP bC xO tg;generalize A.bf [.sl (S.aM+1) 0 n capO,.sl sP 0 n capP,.sl sC 0 n capC]=H at *
 generalize A.aM=tp at *
 refine zF (λm J h=>∃(i:Nat) (rows:List SR) (Rs:List (List SR)),i<=n/\m=n-i/\J=[.ptr s 0,.ptr σ.aM 0,.int .i64 n,.ptr tp 0,.int .i64 n,.int .i64 i]/\LI (σ.bf [Ln,Ln,Ln]) H h tp (S.aM+1) sP sC (.sl (S.aM+1) 0 n capO) capP capC n (cS (Ep n p)) pc ls rows Rs []/\Lu rows=i/\Lu Rs=i/\rows.map SR.x=jo p n W B i/\Rs.map (λR=>R.map SR.x)=jm p n W B i) n ⟨0,[],[],af,af,rfl,li,rfl,rfl,rfl,rfl⟩ ?_
 as_aux_lemma=>
 rintro m J h ⟨i,rows,Rs,hi,rfl,rfl,a,bp,jB,fA,pT⟩
 have iu:jE (σ.bf [Ln,Ln,Ln]) s p (.fz wp ap (Lu W) rp) vB:=hs.bf _;have kX:=iu.cf a.cf;have p0:h.dR s 0=Dc (.int .i64 p):=by rw[zH kX.bt];rfl
 have f1:h.dR tp 1=Dc (.sl sP 0 n capP):=by rw[zH a.tpo];rfl
 have f2:h.dR tp 2=Dc (.sl sC 0 n capC):=by rw[zH a.tpo];rfl
 have f3:h.rd tp 0 3=Dc [.sl (S.aM+1) 0 n capO,.sl sP 0 n capP,.sl sC 0 n capC]:=by rw[zV a.tpo];rfl
 refine Lk ?_;refine Ll (λaG=>?_) λah=>?_
 .as_aux_lemma=>
  have aU:i=n:=af
  rw[aU]at bp jB fA pT;obtain⟨g1,I⟩:=fD a.cf (u0:=.sl (S.aM+1) 0 n capO) (u1:=.sl sP 0 n capP) (u2:=.sl sC 0 n capC) rfl rfl rfl;simp only[Z3,seval,-ae,f3,g1,I];have hf:Fits ls Rs:=by
   refine⟨af,λj o' R ho hR=>?_⟩;obtain⟨hj,fI⟩:=Yj.1 ho;obtain⟨uQ,Fu⟩:=Yj.1 hR;have Gc:(Lu R)=n-1-j:=by
    have e:=congrArg (λL=>L[j]?) pT;simp only[UZ,hR,EF]at e;unfold jm at e;rw[UZ,List.getElem?_range af]at e;simp only[EF,YC]at e
    have:=congrArg F6 e
    simpa [lgR]using this
   obtain⟨s1,s2⟩:=dO j hj;rw[fI]at s1 s2;by_cases e:j+1=n
   .rw[s1 e];exact YU af
   .obtain⟨q,G,e2⟩:=s2 af;rw[G];show (Lu R)=_;omega
  have fin:=LI.fin (K:=K) (Y:=[.sl (S.aM+1) 0 n capO,.sl sP 0 n capP,.sl sC 0 n capC]) (res:=σ.aM) (capO:=capO) (capP:=capP) (capC:=capC) ez ⟨na _,YM _⟩ (by rw[YL];exact nM) (by rw[bp];exact cP) (by rw[jB];exact cC) af (λq hq=>(D.ok q hq).1) b a hf λvO vQ vC t A h2 h3 h4 h5=>hk vO vQ vC t A (by rw[<-fA];exact h2) (by rw[<-pT];exact h3) h4 h5;rw[YL,bp,jB]at fin;exact fin
 have aq:i<n:=af
 have V:=zQ (n:=n) o.pr aq;have an:¬tp=h.aM:=by have:=(b.b tp aK).2;have:=a.nx;omega
 refine Lk ?_;refine zm af aq λM=>?_;simp only[Z3,seval,-ae,f1,p0,dS];refine zCp o kX aJ.P V ⟨DF,M,by rw[V.1]⟩ (k:=p) af λv1 xG=>?_;have bH:=zK o (k:=p) (m:=0) V V;simp only[Z3,seval,-ae,f1];refine zDt z kX aJ (x:=ed p W p (cD n i)) bH xG λbD fT=>?_;have bj:(yG p n W B (ed p W p (cD n i))).length=n:=Zo n;have Cp:yG p n W B (ed p W p (cD n i))=lgP p n W B i:=rfl;rw[Cp]at bj ⊢;have a9:=a;obtain⟨u1,N⟩:=LI.putP b a (x:=lgP p n W B i) (cap:=bD) (by rw[bj];exact fT) af;rw[bp,bj]at u1;rw[bp]at N;have BH:(h.bf (cS (lgP p n W B i))).dR tp 1=Dc (.sl sP 0 n capP):=by rw[zH (a.keepI b (zC h _)).tpo];rfl
 generalize h.bf (cS (lgP p n W B i))=hN at *
 have cA:(rows++[(⟨h.aM,bD,lgP p n W B i⟩:SR)]).map SR.x=jo p n W B (i+1):=by
  rw[Yx,fA];unfold jo;rw[Ia,Yx];rfl
 have yY:(rows++[(⟨h.aM,bD,lgP p n W B i⟩:SR)]).length=i+1:=by rw[YB,bp];rfl
 generalize rows++[(⟨h.aM,bD,lgP p n W B i⟩:SR)]=dE at *
 clear f1 f2 f3 p0 fA bp a9;generalize hN.set sP (dE.map SR.pv++pc.drop (i+1))=h0 at *
 have lC:∀{g:cg} {cur:List SR},LI (σ.bf [Ln,Ln,Ln]) H g tp (S.aM+1) sP sC (.sl (S.aM+1) 0 n capO) capP capC n (cS (Ep n p)) pc ls dE Rs cur->g.dR tp 2=Dc (.sl sC 0 n capC)/\g.dR sC i=Dc (LS.pvo (ls[i]'(by omega)))/\g.dR s 0=Dc (.int .i64 p):=λ{g cur} l=>by
  refine⟨by rw[zH l.tpo];rfl,?_,by rw[zH (iu.cf l.cf).bt];rfl⟩;rw[zH l.oC,UZ,YQ af];rfl
 obtain⟨I,gC,gp⟩:=lC N;obtain⟨s1,s2⟩:=dO i af;have je:mo (LS.pvo (ls[i]'(by omega)))=Dc (.int .i64 ((n-1-i:Nat):Int)):=by
  by_cases e:i+1=n
  .rw[s1 e,show n-1-i=0 by omega];rfl
  .obtain⟨q',G,e2⟩:=s2 af;rw[G,<-e2];rfl
 simp only[Z3,seval,-ae,BH,aq,u1,I,gC,je];clear u1 BH;refine zD6 2 (λe h=>∃(cur:List SR) (b0:PV),e=ec.mk [0,2,3,4,5,6,21,22,46,47,48] [.ptr s 0,.ptr σ.aM 0,.int .i64 n,.ptr tp 0,.int .i64 i,.fz DF M n (cS (cD n i)),.int .i64 n,.int .i64 i,.int .i64 ((n-1-i:Nat):Int),.int .i64 ((n-1-i:Nat):Int),b0]/\LI (σ.bf [Ln,Ln,Ln]) H h tp (S.aM+1) sP sC (.sl (S.aM+1) 0 n capO) capP capC n (cS (Ep n p)) pc ls dE Rs cur/\cur.map SR.x=lgR p n W B i (n-1-i)) (λQ hQ=>?_) ?_;rotate_left
 .as_aux_lemma=>
  rintro e h9 ⟨cur,b0,rfl,l,bB⟩
  have bJ:(Lu cur)=n-1-i:=by have:=congrArg F6 bB;simpa [lgR]using this
  have l2:=l.close (λq' aT=>by
   rw[jB]at aT;obtain⟨hj,fI⟩:=Yj.1 aT;by_cases e:i+1=n
   .rw[s1 e]at fI;cases fI
   .obtain⟨q2,G,e2⟩:=s2 af;rw[G]at fI;cases fI;omega)
  simp only[Z3,seval,-ae,WX aq];refine⟨_,af,i+1,dE,Rs++[cur],af,rfl,rfl,l2,yY,by rw[YB,jB];rfl,cA,?_⟩;rw[Yx,pT];unfold jm;rw[Ia,Yx];simp only[YE,Ya,bB]
 as_aux_lemma=>
 refine zF (λm J h=>∃(k:Nat) (cur:List SR),k<=n-1-i/\m=n-1-i-k/\J=[.ptr s 0,.ptr σ.aM 0,.int .i64 n,.ptr tp 0,.int .i64 i,.fz DF M n (cS (cD n i)),.int .i64 n,.int .i64 i,.int .i64 ((n-1-i:Nat):Int),.int .i64 k]/\LI (σ.bf [Ln,Ln,Ln]) H h tp (S.aM+1) sP sC (.sl (S.aM+1) 0 n capO) capP capC n (cS (Ep n p)) pc ls dE Rs cur/\Lu cur=k/\cur.map SR.x=lgR p n W B i k) (n-1-i) ⟨0,[],af,af,rfl,N,rfl,rfl⟩ ?_
 rintro m J U ⟨k,cur,Fo,rfl,rfl,l,bJ,bB⟩
 obtain⟨I,gC,gp⟩:=lC l;refine Lk ?_;refine Ll (λFG=>?_) λFf=>?_
 .have eg:k=n-1-i:=af
  rw[eg]at bB;exact hQ _ _ ⟨cur,_,by rw[eg],l,bB⟩
 have bM:k<n-1-i:=af
 obtain⟨E,G,e2⟩:=s2 af;have hj:i+(1+k)<n:=af
 have iZ:=zQ (n:=n) o.pr hj;have oN:Lp .i64 ((i:Int)+1)=((i+1:Nat):Int):=WQ
 have lI:Lp .i64 (((i+1:Nat):Int)+(k:Int))=((i+(1+k):Nat):Int):=WQ
 rw[G]at gC;have sZ:U.dR sC i=Dc (.sl E.s 0 (Lu E.cs) E.cap):=gC;simp only[Z3,seval,-ae,I,sZ,aq,oN,lI];have mE:=iu.cf l.cf;refine zCp o mE aJ.P V ⟨DF,M,by rw[V.1]⟩ (k:=-1) af λv1 xG=>?_;have MM:El p n (ed p W (-1) (cD n i)):=Qu o V;have GN:=xG;obtain⟨w1,x1,rfl⟩:=xG;simp only[Z3,seval,-ae,I,sZ,oN,lI];refine zm af hj λN=>?_;have LR:¬tp=U.aM:=by have:=(b.b tp aK).2;have:=l.nx;omega
 have LY:¬sC=U.aM:=by have:=(b.b sC aK).2;have:=l.nx;omega
 have Rh:¬s=U.aM:=by have:=mE.lt;omega
 simp only[Z3,seval,-ae,I,sZ,LR,LY];have aN:dd FI [.fz w1 x1 (ed p W (-1) (cD n i)).length (cS (ed p W (-1) (cD n i))),.fz DF N n (cS (cD n (i+(1+k)))),.fz DF M n (cS (cD n i))] [ed p W (-1) (cD n i),cD n (i+(1+k)),cD n i]:=
  (((dd.nil _).snoc GN).snoc ⟨DF,N,by rw[iZ.1]⟩).snoc ⟨DF,M,by rw[V.1]⟩
 refine zA.frz (s:=U.aM) (by rw[zI,DK rfl]) (aN.bI 0) λo2=>?_;simp only[kq,Go.Ab.sb,gk,and_self,if_true,decide_true,na];have lk:=l.keepI b (((cT.refl U).bf [.fz w1 x1 (ed p W (-1) (cD n i)).length (cS (ed p W (-1) (cD n i))),.fz DF N n (cS (cD n (i+(1+k)))),.fz DF M n (cS (cD n i))]).kill (na _));generalize (U.bf [.fz w1 x1 (ed p W (-1) (cD n i)).length (cS (ed p W (-1) (cD n i))),.fz DF N n (cS (cD n (i+(1+k)))),.fz DF M n (cS (cD n i))]).kill U.aM=h7 at *
 obtain⟨k2,kC,kp⟩:=lC lk;rw[G]at kC;have K9:h7.dR sC i=Dc (.sl E.s 0 (Lu E.cs) E.cap):=kC;have yM:=iu.cf lk.cf;have AF:yx p n [ed p W (-1) (cD n i),cD n (i+(1+k)),cD n i]:=λy hy=>by
  simp only[YH,Ym,or_false]at hy;rcases hy with rfl|rfl|rfl<;>assumption
 refine zA.fzI (λK' h'=>zNr z yM aJ ⟨DF,_,_,rfl,aN⟩ AF aK h') λa3=>?_;have FN:=zA6 o q AF;simp only[Z3,seval,-ae,k2,K9];refine zDt z yM aJ (x:=mT p n W B (cD n (i+(1+k))) (cD n i)) FN ⟨DF,a3,rfl⟩ λbn c8=>?_;have bj:(yG p n W B (mT p n W B (cD n (i+(1+k))) (cD n i))).length=n:=Zo n;have Cp:yG p n W B (mT p n W B (cD n (i+(1+k))) (cD n i))=lgC p n W B i k:=rfl;rw[Cp]at bj ⊢;have iA:ls[(Lu Rs)]? = Dc (Dc E):=by rw[jB,YQ af,G]
 obtain⟨u1,l2⟩:=LI.putC b lk (x:=lgC p n W B i k) (cap:=bn) (by rw[bj];exact c8) iA af;rw[bJ,bj]at u1;rw[bJ]at l2;have lN:=lk.keepI b (zC h7 (cS (lgC p n W B i k)));obtain⟨j2,jC,jp⟩:=lC lN;rw[G]at jC;have Ek:(h7.bf (cS (lgC p n W B i k))).dR sC i=Dc (.sl E.s 0 (Lu E.cs) E.cap):=jC;generalize h7.bf (cS (lgC p n W B i k))=hN at *
 have hJ:(cur++[(⟨h7.aM,bn,lgC p n W B i k⟩:SR)]).map SR.x=lgR p n W B i (k+1):=by
  rw[Yx,bB];unfold lgR;rw[Ia,Yx];rfl
 have uZ:(cur++[(⟨h7.aM,bn,lgC p n W B i k⟩:SR)]).length=k+1:=by rw[YB,bJ];rfl
 generalize cur++[(⟨h7.aM,bn,lgC p n W B i k⟩:SR)]=ot at *
 generalize hN.set E.s (ot.map SR.pv++E.cs.drop (k+1))=hE at *
 have Fj:k<Lu E.cs:=af
 simp only[Z3,seval,-ae,j2,Ek,Fj,u1,WX bM];exact⟨_,af,k+1,ot,af,rfl,rfl,l2,uZ,hJ⟩
end
section
variable{s:Nat}
def zN2{i j:Nat}(l:i<n):at_ (cD n i) j=if j=i then 1 else 0:=by
 unfold cD;rw[eJ (by simp;exact l),zb]
def zOo(o:eT p n W){i:Nat}(l:i<n):ed p W p (cD n i)=W.getD i []:=by
 have I:=o.len;have A:i<Lu W:=af
 obtain⟨r1,r2,r3⟩:=o.row i A;rw[qJ A];obtain⟨D,E⟩:=ZT o (zQ (n:=n) o.pr l) p;refine qX o D.1 r1 D.2 r2 (E.trans ?_);have G:=((dq.rel (p:=p) (n:=n) (W:=W) l).symm).add (dq.refl (λj=>p*at_ (cD n i) j));refine((dq.of_eq λj=>af).trans G).trans (dq.of_eq λj=>?_);rw[zN2 l];unfold rel w_;rw[qJ A];split<;>omega
structure ST(T h:cg)(p0:Nat)(fs:List (PV×List PV))(ls:List LS):Prop where
 cf:cT T h
 bt:h.bt p0=Dc (fs.map Lb)
 p0b:T.aM<=p0/\p0<h.aM
 acc:∀f,f∈fs->eA T.aM 1 h f.1 (Lu f.2) f.2
 ne:∀f,f∈fs->∀off l c,f.1≠.sl p0 off l c
 dis:∀(i j:Nat) f g,fs[i]? = Dc f->fs[j]? = Dc g->i≠j->∀s off l c,f.1=.sl s off l c->∀off l c,g.1≠.sl s off l c
 lok:∀q,q∈ls->q.ok h T.aM
 lne:∀q,q∈ls->q.s≠p0/\∀f,f∈fs->∀off l c,f.1≠.sl q.s off l c
variable{T:cg}{p0:Nat}{fs:List (PV×List PV)}{ls:List LS}
def zAz{b e m:Nat}{h A:cg}{v:PV}{cs:List PV}(a:eA b e h v m cs)(L:∀s off l c,v=.sl s off l c->A.bt s=h.bt s)(J:h.aM<=A.aM):eA b e A v m cs:=by
 obtain⟨s,cap,rfl,D,M,E,G,I⟩:=a;exact⟨s,cap,rfl,D,by rw[L s 0 _ cap rfl];exact M,E,G,Yw I J⟩
def QB{b e m:Nat}{h:cg}{v:PV}{cs:List PV}(a:eA b e h v m cs){s off l:Nat}{c:jZ}(A:v=.sl s off l c):s<h.aM:=Q7 a.acc A
def ST.keepI{l:cg}(a:ST T h p0 fs ls)(k:cT h l):ST T l p0 fs ls:=
 ⟨a.cf.trans k,by rw[k.bt _ a.p0b.2];exact a.bt,⟨a.p0b.1,Yw a.p0b.2 k.aM⟩,λf D=>(a.acc f D).cf k,a.ne,a.dis,λq A=>(a.lok q A).move (k.bt _ (a.lok q A).2.2.2) k.aM,a.lne⟩
def ST.more{q:LS}(a:ST T h p0 fs ls)(E:q.ok h T.aM)(G:q.s≠p0/\∀f,f∈fs->∀off l c,f.1≠.sl q.s off l c):ST T h p0 fs (ls++[q]):=
 ⟨a.cf,a.bt,a.p0b,a.acc,a.ne,a.dis,λD A=>(YY.1 A).elim (a.lok D) λe=>by rw[YT.1 e];exact E,λD A=>(YY.1 A).elim (a.lne D) λe=>by rw[YT.1 e];exact G⟩
def ST.push{K:PV×cg->Prop}{bytes j:Nat}{v x:PV}{cs:List PV}(a:ST T h p0 fs ls)(hj:fs[j]? = Dc (v,cs))(hb:(Lu cs)<=1000)(pQ:bytes<=24)(aH:∀f,f∈fs->f.1.one=DF)
    (k:∀A I,A.one=DF->A.cells=[A]->I.wr p0 j [A]=Dc (I.set p0 ((fs.set j (A,cs++[x])).map Lb))->ST T (I.set p0 ((fs.set j (A,cs++[x])).map Lb)) p0 (fs.set j (A,cs++[x])) ls->K (A,I)):
    fw (qL 1 bytes (h.bf [x]) v (.sl h.aM 0 1 (.b6 1))) K:=by
  have hm:(v,cs)∈fs:=Yg hj;obtain⟨V,fI⟩:=Yj.1 hj;have gF:(Lu cs+1)*bytes<=1001*24:=Kq af pQ;refine ei.pushS (σb:=T) (bytes:=bytes) a.cf (a.acc _ hm).acc rfl (by show(Lu cs+1)*bytes<=_;omega) (by show (Lu cs)+1<=_;omega) λA I k2 S o2 R l2=>?_;have N:=a.p0b;have kA:I.bt p0=Dc (fs.map Lb):=by rw[o2 _ N.2 (a.ne _ hm)];exact a.bt
  have di:(fs.set j (A,cs++[x])).map Lb=(fs.map Lb).set j A:=by rw[List.map_set]
  have U:∀f,f∈fs.set j (A,cs++[x])->f=(A,cs++[x])\/∃i,i≠j/\fs[i]? = Dc f:=λf D=>by
    obtain⟨i,E⟩:=Ic D;rw[Y4]at E;split at E
    . first
      |(cases E;exact .inl rfl)
      | (split at E
         .cases E;exact .inl rfl
         .cases E)
    .rename_i e;exact .inr ⟨i,λG=>e G.symm,E⟩
  refine k A I S.one S.cells ?_ ⟨k2.set N.1 _,by rw[zG,DK rfl],⟨N.1,by show p0<I.aM;omega⟩,λf D=>?_,λf D=>?_,λi1 i2 f g D J an s off l c e=>?_,λq L=>?_,λq L=>⟨(a.lne q L).1,λf D=>?_⟩⟩
  . rw[zR kA,DK ⟨by rw[YF,Yb];omega,by simp only[Ej,Em,S.one];rfl⟩,di]
    congr 2;rw[Yv,US,Yb,take_set _ (by rw[YF];exact V)]
  . rcases U f D with rfl|⟨i,E,M⟩
    . have a3:eA T.aM 1 (I.set p0 ((fs.set j (A,cs++[x])).map Lb)) A (Lu cs+1) (cs++[x]):=zAz S (λs off l c e=>by rw[zG,DL λG=>R p0 N.2 off l c (by rw[e,G])]) (na _)
      simpa using a3
    . have Q:=Yg M
      refine zAz (a.acc f Q) (λs off l c e=>?_) (Y8 l2);rw[zG,DL λG=>a.ne f Q off l c (by rw[e,G]),o2 s (QB (a.acc f Q) e) (a.dis i j f _ M hj E s off l c e)]
  . rcases U f D with rfl|⟨i,E,M⟩
    .exact R p0 N.2
    .exact a.ne f (Yg M)
  . rw[Y4]at D J
    by_cases e1:j=i1
    . rw[DK e1,DK V]at D
      cases D;rw[DL λG=>an (e1.symm.trans G)]at J;have FE:=Yg J;intro dx l' c' e';exact R s (QB (a.acc g FE) e') off l c e
    . rw[DL e1]at D
      have Q:=Yg D;by_cases G:j=i2
      . rw[DK G,DK V]at J
        cases J;exact R s (QB (a.acc f Q) e)
      . rw[DL G]at J
        exact a.dis i1 i2 f g D J an s off l c e
  . have aT:=a.lok q L
    refine aT.move ?_ (Y8 l2);rw[zG,DL (a.lne q L).1,o2 _ aT.2.2.2 ((a.lne q L).2 _ hm)]
  . rcases U f D with rfl|⟨i,E,M⟩
    .exact R _ (a.lok q L).2.2.2
    .exact(a.lne q L).2 f (Yg M)
def Zu:∀cs:List PV,TR.pvs (cs.map TR.leaf)=cs
 |[]=>rfl
 |c::cs=>by simp only[YE,TR.pvs,TR.pv,Zu cs]
def Zw{a:Nat->Nat}:∀cs:List PV,TR.fzs a (cs.map TR.leaf)=cs
 |[]=>rfl
 |c::cs=>by simp only[YE,TR.fzs,TR.fz,Zw cs]
def Zv{b:Nat}:∀{cs:List PV},hZ 0 cs->TR.okFs h b (cs.map TR.leaf)
 |[],_=>trivial
 |c::cs,hb=>⟨hb.1,Zv hb.2⟩
def LS.tr(q:LS):TR:=.lst q.s q.cap (q.cs.map TR.leaf)
def LS.tr_pvs:∀ls:List LS,TR.pvs (ls.map LS.tr)=ls.map LS.pv
 |[]=>rfl
 |q::ls=>by simp only[YE,TR.pvs,LS.tr_pvs ls];simp only[LS.tr,TR.pv,YF,LS.pv]
def LS.mg{b:Nat}{q:LS}(l:q.ok h b)(A:hZ 0 q.cs):(LS.tr q).okF h b:=⟨⟨by rw[YF];exact l.1,by rw[Zu];exact l.2.1,l.2.2.1,l.2.2.2⟩,Zv A⟩
def LS.trs_okF{b:Nat}:∀{ls:List LS},(∀q,q∈ls->q.ok h b/\hZ 0 q.cs)->TR.okFs h b (ls.map LS.tr)
 |[],_=>trivial
 |q::ls,k=>⟨LS.mg (k q (UH ..)).1 (k q (UH ..)).2,LS.trs_okF λA l=>k A (Yt _ l)⟩
def zEp(ls:List LS)(l:V3):Prop:=dd (λ(q:LS) (R:V2)=>dd FI q.cs R) ls l
def zAC{a:Nat->Nat}{ls:List LS}{l:V3}(k:zEp ls l):dd jj (TR.fzs a (ls.map LS.tr)) l:=by
 have I:∀ls:List LS,(TR.fzs a (ls.map LS.tr)).length=Lu ls:=λls=>by rw[TR.fzs_length,YF]
 have G:∀(ls:List LS) (i:Nat),(TR.fzs a (ls.map LS.tr))[i]? = ls[i]?.map λq=>(LS.tr q).fz a:=by
  intro ls
  induction ls with
  |nil=>intro i;simp[TR.fzs]
  |cons q ls ih=>
   intro i;cases i with
   |zero=>simp[TR.fzs]
   |succ i=>simpa [TR.fzs]using ih i
 refine⟨by rw[I];exact k.1,λi c R D E=>?_⟩;rw[G]at D;obtain⟨q,J,rfl⟩:=YK.1 D;have A:=k.2 i q R J E;exact⟨DF,.sl (a q.s) 0 (Lu q.cs) q.cap,q.cs,by simp only[LS.tr,TR.fz,Zw,YF];rw[A.1],A⟩
def zLL(z:Lz p n W B c)(hR:lx vP vB W B)(hk:∀vO vQ E,FI vO (Ep n p)->jj vQ (jo p n W B n)->Db E (jm p n W B n)->K (.agg [vO,vQ,E]) σ):zA Li 62 [.agg [.int .i64 p,vP,vB]] σ K:=by
 have o:=z.r.o;have q:=z.r.q;have aX:=o.le;have dS:=o.len;have gA:=z.hp.bd;have aJ:=hR;have A9:=hR.B.one;obtain⟨⟨wp,ap,rp,rfl,lT⟩,hB⟩:=hR;refine zA.gh ?_;generalize hT:(σ.bf [.int .i64 p,.fz wp ap (Lu W) rp,vB]).bf [Ln,Ln,Ln]=T;have G:T.aM=σ.aM+2:=by rw[<-hT];rfl
 have cZ:cT σ T:=by rw[<-hT];exact(zC σ _).bf _
 have ld:∀{g:cg},cT T g->g.rd σ.aM 0 3=Dc [.int .i64 p,.fz wp ap (Lu W) rp,vB]/\g.dR σ.aM 0=Dc (.int .i64 p)/\g.dR σ.aM 1=Dc (.fz wp ap (Lu W) rp):=λ{g} k=>by
  have J:g.bt σ.aM=Dc [.int .i64 p,.fz wp ap (Lu W) rp,vB]:=by rw[k.bt _ af,<-hT];simp only[Z3,seval,-ae]
  exact⟨by rw[zV J];rfl,by rw[zH J];rfl,by rw[zH J];rfl⟩
 have fD:∀{g:cg} {u0 u1 u2:PV},cT T g->u0.one=DF->u1.one=DF->u2.one=DF->g.wr (σ.aM+1) 0 [u0,u1,u2]=Dc (g.set (σ.aM+1) [u0,u1,u2])/\(g.set (σ.aM+1) [u0,u1,u2]).rd (σ.aM+1) 0 3=Dc [u0,u1,u2]:=λ{g u0 u1 u2} k z0 z1 z2=>by
  have aQ:g.bt (σ.aM+1)=Dc [Ln,Ln,Ln]:=by rw[k.bt _ af,<-hT];simp only[Z3,seval,-ae]
  exact⟨by rw[zR aQ,DK ⟨aK,by simp only[Ej,Em,z0,z1,z2];rfl⟩];rfl,by rw[zi,DK rfl];rfl⟩
 obtain⟨I,l0,U⟩:=ld (cT.refl T);refine Lg Tryz.func62 ?_;simp only[Z3,seval,-ae,A9];rw[hT];simp only[Z3,seval,-ae,U,dS];refine zF (λm us h=>∃(i:Nat) (vO vP E:PV) (cO D cC:List PV) (ls:List LS),i<=n/\m=n-i/\us=[.ptr σ.aM 0,.ptr (σ.aM+1) 0,.int .i64 n,.ptr (σ.aM+5) 0,.int .i64 i]/\ST T h (σ.aM+5) [(vO,cO),(vP,D),(E,cC)] ls/\cO=cS (Ep i p)/\dd FI D (jo p n W B i)/\cC=ls.map LS.pv/\zEp ls (jm p n W B i)) n ?_ ?_
 .refine⟨0,.sl (σ.aM+2) 0 0 (.b6 0),.sl (σ.aM+3) 0 0 (.b6 0),.sl (σ.aM+4) 0 0 (.b6 0),[],[],[],[],af,af,rfl,⟨(((zC T _).bf _).bf _).bf _,by simp only[Z3,seval,-ae,G],⟨af,by first|(simp only[Z3,seval,-ae,G];done)|(simp only[Z3,seval,-ae,G];omega)⟩,λf A=>?_,λf A off l c e=>?_,λi j f g A hg an s off l c e dx l' c' e'=>?_,λq S=>(by cases S),λq S=>(by cases S)⟩,rfl,dd.nil _,rfl,dd.nil _⟩
  .simp only[YH,Ym,or_false]at A;rcases A with rfl|rfl|rfl
   .exact eA.own (.inr rfl) (by simp only[Z3,seval,-ae,G]) rfl af (by first|(simp only[Z3,seval,-ae,G];done)|(simp only[Z3,seval,-ae,G];omega))
   .exact eA.own (.inr rfl) (by simp only[Z3,seval,-ae,G]) rfl af (by first|(simp only[Z3,seval,-ae,G];done)|(simp only[Z3,seval,-ae,G];omega))
   .exact eA.own (.inr rfl) (by simp only[Z3,seval,-ae,G]) rfl af (by first|(simp only[Z3,seval,-ae,G];done)|(simp only[Z3,seval,-ae,G];omega))
  .simp only[YH,Ym,or_false]at A;rcases A with rfl|rfl|rfl<;>(simp only[PV.sl.injEq]at e;omega)
  .match i,j with
   |0,0=>exact an rfl
   |1,1=>exact an rfl
   |2,2=>exact an rfl
   |0,1|0,2|1,0|1,2|2,0|2,1=>cases A;cases hg;simp only[PV.sl.injEq]at e e';omega
   |i+3,_=>simp at A
   |0,j+3|1,j+3|2,j+3=>simp at hg
 as_aux_lemma=>
 rintro m us h ⟨i,vO,vP,E,cO,D,cC,ls,hi,rfl,rfl,a,nM,iT,fj,R⟩
 obtain⟨I,l0,U⟩:=ld a.cf;have aO:=a.acc (vO,cO) aK;have aP:=a.acc (vP,D) aK;have aC:=a.acc (E,cC) aK;have f0:h.dR (σ.aM+5) 0=Dc vO:=by rw[zH a.bt];rfl
 have f3:h.rd (σ.aM+5) 0 3=Dc [vO,vP,E]:=by rw[zV a.bt];rfl
 refine Lk ?_;refine Ll (λaG=>?_) λah=>?_
 .as_aux_lemma=>
  have aU:i=n:=af
  subst aU;obtain⟨g1,g2⟩:=fD a.cf aO.one aP.one aC.one;simp only[Z3,seval,-ae,f3,g1,g2];obtain⟨sO,capO,e1,o1,o2,o3,o4,o5⟩:=aO;obtain⟨sP,capP,e2,q1,q2,q3,q4,q5⟩:=aP;obtain⟨sC,capC,e3,r1,r2,r3,r4,r5⟩:=aC;dsimp only at e1 o1 o2 o3 e2 q1 q2 q3 e3 r1 r2 r3;subst e1 e2 e3;have et:(TR.agg [.lst sO capO (cO.map TR.leaf),.lst sP capP (D.map TR.leaf),.lst sC capC (ls.map LS.tr)]).pv=.agg [.sl sO 0 (Lu cO) capO,.sl sP 0 (Lu D) capP,.sl sC 0 (Lu cC) capC]:=by
   simp only[TR.pv,TR.pvs,YF];rw[fj,YF]
  rw[<-et];have J:∀s,T.aM<=s->(h.set (σ.aM+1) [.sl sO 0 (Lu cO) capO,.sl sP 0 (Lu D) capP,.sl sC 0 (Lu cC) capC]).bt s=h.bt s:=λs hs=>by rw[zG,DL af]
  refine Gh.treeF ((cZ.trans a.cf).set af _) ⟨⟨⟨by rw[YF];exact o1,by rw[J _ o4,Zu];exact o2,af,o5⟩,Zv (by rw[nM];exact zL _ _)⟩,⟨⟨by rw[YF];exact q1,by rw[J _ q4,Zu];exact q2,af,q5⟩,Zv (iT.bI 0)⟩,⟨⟨by rw[YF];rw[fj,YF]at r1;exact r1,by rw[J _ r4,LS.tr_pvs,<-fj];exact r2,af,r5⟩,LS.trs_okF λq S=>?_⟩,DJ⟩ λaa=>hk _ _ _ ⟨DF,.sl (aa sO) 0 (Lu cO) capO,?_⟩ ⟨DF,.sl (aa sP) 0 (Lu D) capP,D,?_,iT⟩ ⟨DF,.sl (aa sC) 0 (Lu ls) capC,TR.fzs aa (ls.map LS.tr),?_,zAC R⟩
  .obtain⟨g1,g2,g3,g4⟩:=a.lok q S;refine⟨⟨g1,by rw[J _ g3];exact g2,af,g4⟩,?_⟩;obtain⟨k,fQ,rfl⟩:=YR.1 S;exact(R.2 k _ _ (YQ fQ) (YQ (by rw[<-R.1];exact fQ))).bI 0
  .simp only[TR.fz,Zw,YF];rw[nM];simp[zJ]
  .simp only[TR.fz,Zw,YF];rw[iT.1]
  .simp only[TR.fz,YF];rw[R.1]
 have aq:i<n:=af
 have kE:i<Lu W:=af
 have aH:∀f,f∈[(vO,cO),(vP,D),(E,cC)]->f.1.one=DF:=λf A=>(a.acc f A).one;have F0:(Lu cO)=i:=by rw[nM];simp[zJ]
 have AM:(Lu D)=i:=by rw[iT.1];simp[jo]
 have AN:(Lu cC)=i:=by rw[fj,YF,R.1];simp[jm]
 simp only[Z3,seval,-ae,f0,l0];refine ST.push a (j:=0) (bytes:=8) rfl af af aH λV h1 z1 z2 z3 M=>?_;simp only[Eu,YE,Ya]at z3 M;generalize h1.set (σ.aM+5) [V,vP,E]=h2 at *
 obtain⟨I,l0,U⟩:=ld M.cf;have f1:h2.dR (σ.aM+5) 1=Dc vP:=by rw[zH M.bt];rfl
 obtain⟨w4,a4,uh⟩:=lT.rowI kE;simp only[Z3,seval,-ae,z1,z2,z3,I,U,f1,kE,uh];obtain⟨BW,Dd,JJ⟩:=o.row i kE;refine zEO z aJ (x:=W[i]) ⟨BW,Dd⟩ ⟨w4,a4,rfl⟩ λv2 cA=>?_;have fX:FI v2 (lgP p n W B i):=by unfold lgP;rw[zOo o aq,qJ kE];exact cA
 have y1:=fX.one;have y2:=fX.cells;have gD:¬σ.aM+5=h2.aM:=by have:=M.p0b.2;omega
 simp only[Z3,seval,-ae,y1,y2,f1,gD];have fB:∀f,f∈[(V,cO++[.int .i64 p]),(vP,D),(E,cC)]->f.1.one=DF:=λf A=>(M.acc f A).one;refine ST.push M (j:=1) (bytes:=24) rfl af af fB λv3 h3 z4 z5 z6 N=>?_;simp only[Eu,Ib,YE,Ya]at z6 N;generalize h3.set (σ.aM+5) [V,v3,E]=h4 at *
 have bG:Lp .i64 ((i:Int)+1)=((i+1:Nat):Int):=gX aq af;simp only[Z3,seval,-ae,z4,z5,z6,bG];clear z1 z2 z3 z4 z5 z6 f0 f1 f3 I l0 U y1 y2;refine zD6 2 (λe h=>∃(L:PV) (cells:List PV) (b0:PV),e=ec.mk [1,2,3,4,5,6,7,44] [.ptr σ.aM 0,.ptr (σ.aM+1) 0,.int .i64 n,.ptr (σ.aM+5) 0,.int .i64 i,L,.int .i64 n,b0]/\cT h4 h/\eA h4.aM 1 h L (n-1-i) cells/\dd FI cells (lgR p n W B i (n-1-i))) (λQ hQ=>?_) ?_;rotate_left
 .as_aux_lemma=>
  rintro e h9 ⟨L,cells,b0,rfl,k9,p9,bJ⟩
  have a9:=N.keepI k9;obtain⟨t,cap,rfl,A,q2,q3,q4,q5⟩:=p9;have f2:h9.dR (σ.aM+5) 2=Dc E:=by rw[zH a9.bt];rfl
  have pE:¬σ.aM+5=h9.aM:=by have:=a9.p0b.2;omega
  have eK:∀f,f∈[(V,cO++[.int .i64 p]),(v3,D++[v2]),(E,cC)]->f.1.one=DF:=λf A=>(a9.acc f A).one;have kJ:(Lu cells)=n-1-i:=af
  have lL:=ST.more (q:=⟨t,cap,cells⟩) a9 ⟨by rw[kJ];exact A,q2,by have:=N.cf.aM;show T.aM<=t;omega,q5⟩ ⟨by have:=N.p0b.2;show t≠σ.aM+5;omega,λf A off l c e=>by
   have:=QB (N.acc f A) e
   have:t<h4.aM:=this
   omega⟩
  simp only[Z3,seval,-ae,f2,pE];refine ST.push lL (j:=2) (bytes:=24) rfl af af eK λv5 h5 z1 z2 z3 a5=>?_;simp only[Eu,Ib,YE,Ya]at z3 a5;generalize h5.set (σ.aM+5) [V,v3,v5]=h6 at *
  simp only[Z3,seval,-ae,z1,z2,z3,WX aq];refine⟨_,af,i+1,V,v3,v5,_,_,_,ls++[⟨t,cap,cells⟩],af,rfl,rfl,a5,?_,?_,?_,?_⟩
  .rw[nM,HR,<-QL];rfl
  .unfold jo;rw[Ia,Yx];exact iT.snoc fX
  .rw[fj,Yx];simp only[YE,Ya,LS.pv];rw[kJ]
  .unfold jm;rw[Ia,Yx];exact R.snoc bJ
 as_aux_lemma=>
 refine zF (λm us h=>∃(k:Nat) (L:PV) (cells:List PV),i+(1+k)<=n/\m=n-(i+(1+k))/\us=[.ptr σ.aM 0,.ptr (σ.aM+1) 0,.int .i64 n,.ptr (σ.aM+5) 0,.int .i64 i,L,.int .i64 ((i+(1+k):Nat):Int)]/\cT h4 h/\eA h4.aM 1 h L k cells/\dd FI cells (lgR p n W B i k)) (n-(i+1)) ⟨0,_,[],af,rfl,rfl,zC _ _,eA.bf _ 1 rfl (na _),dd.nil _⟩ ?_
 rintro m us h7 ⟨k,L,cells,sD,rfl,rfl,k7,p7,bJ⟩
 obtain⟨I,l0,U⟩:=ld (N.keepI k7).cf;refine Lk ?_;refine Ll (λAw=>?_) λAn=>?_
 .have eg:k=n-1-i:=af
  subst eg;exact hQ _ _ ⟨L,cells,_,by rw[show((i+(1+(n-1-i)):Nat):Int)=(n:Int) by omega],k7,p7,bJ⟩
 have hj:i+(1+k)<n:=af
 have cY:=zQ (n:=n) o.pr aq;have iZ:=zQ (n:=n) o.pr hj;simp only[Z3,seval,-ae,I];refine qf aJ dS af hj λb1=>?_;simp only[Z3,seval,-ae,I];refine qf aJ dS af aq λb2=>?_;simp only[Z3,seval,-ae,I];refine zNO z aJ iZ cY ⟨DF,b1,by rw[iZ.1]⟩ ⟨DF,b2,by rw[cY.1]⟩ λv6 pf=>?_;have AK:El p n (mT p n W B (cD n (i+(1+k))) (cD n i)):=zA6 o q λy hy=>by
  simp only[YH,Ym,or_false]at hy;rcases hy with rfl|rfl|rfl
  .exact Qu o cY
  .exact iZ
  .exact cY
 simp only[Z3,seval,-ae,I];refine zEO z aJ AK pf λv8 mD=>?_;have y1:=mD.one;have y2:=mD.cells;have fO:k<=10:=af
 simp only[Z3,seval,-ae,y1,y2];refine eA.push (bytes:=24) (σb:=h4) k7 p7 af af λv9 h8 k8 p8=>?_;have e5:Lp .i64 (((i+(1+k):Nat):Int)+1)=((i+(1+(k+1)):Nat):Int):=WQ
 simp only[Z3,seval,-ae,e5];refine⟨_,af,k+1,v9,_,af,rfl,rfl,k8,p8,?_⟩;unfold lgR;rw[Ia,Yx];exact bJ.snoc mD
end
section
variable{s:Nat}
def zLO(o:eT p n W)(q:lS p n B)(M:fG p n<=729)(hp:jF p)(l:lx vP vB W B)(A:El p n x)(D:El p n y)(bm:FI vx x)(cI:FI vy y)
  (hk:∀a I J L Q R S,El p n Q->El p n R->El p n S->FI I Q->FI J R->FI L S->K (.fz DF a 3 [I,J,L]) σ):
  zA Li 177 [.agg [.int .i64 p,vP,vB],vx,vy] σ K:=by
 have bj:=A.1;have gJ:=D.1;have h1:=l.P.one;have h2:=l.B.one;obtain⟨wx,ax,rfl⟩:=bm;obtain⟨wy,ay,rfl⟩:=cI;refine zA.gh ?_;have bel:=ey o q (a:=x) (b:=y);refine Lg Tryz.func177 ?_;simp only[Z3,seval,-ae,h1,h2];refine qB l o q A D rfl rfl λI=>?_;refine Lk ?_;refine qB l o q A bel rfl bel.1.symm λJ=>?_;refine Lk ?_;refine qB l o q D bel rfl bel.1.symm λL=>?_;refine Lk ?_;have E:El p n (br p W B n x (br p W B n x y)):=ey o q;have G:El p n (br p W B n y (br p W B n x y)):=ey o q;refine qF l o E G E.1.symm G.1.symm LB LB λv4=>?_;have U:El p n (norm p W (eX 1 (br p W B n x (br p W B n x y)) (-1) (br p W B n y (br p W B n x y)))):=zK o E G;generalize norm p W (eX 1 (br p W B n x (br p W B n x y)) (-1) (br p W B n y (br p W B n x y)))=th at *
 refine Lk ?_;refine qF l o A D rfl rfl LB LB λV=>?_;refine Lk ?_;refine zBh l o M bel bel.1.symm λw6 v6 z2 d2=>?_;refine Lk ?_;refine zBh l o M (x:=th) U U.1.symm λw7 v7 z3 N=>?_;refine Lk ?_;exact Gh.finF (s:=σ.aM+1) (cs:=[.fz DF V n (cS (j3 p W x y)),.fz w6 v6 n (cS z2),.fz w7 v7 n (cS z3)]) (((zC σ _).bf _)) (by simp only[Z3,seval,-ae]) af ⟨DJ,DJ,DJ,DJ⟩ (by simp[gk]) λo4=>hk _ _ _ _ _ _ _ (zK o A D) d2.el N.el ⟨DF,V,by rw[(zK (k:=1) (m:=1) o A D).1]⟩ ⟨w6,v6,by rw[d2.el.1]⟩ ⟨w7,v7,by rw[N.el.1]⟩
def zII(o:eT p n W)(q:lS p n B)(M:fG p n<=729)(hp:jF p)(l:lx vP vB W B)(hx:El p n x)(hy:El p n y)(N:FI vx x)(U:FI vy y)(hk:∀v u,El p n u->FI v u->K v σ):
  zA Li 103 [.agg [.int .i64 p,vP,vB],vx,vy] σ K:=by
 have h1:=l.P.one;have h2:=l.B.one;refine Lh Tryz.func103 ?_;simp only[Z3,seval,-ae,h1,h2];refine zLO o q M hp l hx hy N U λa v1 v2 v3 D E t3 G I J V f2 f3=>?_;obtain⟨w1,a1,rfl⟩:=V;obtain⟨w2,a2,rfl⟩:=f2;obtain⟨w3,a3,rfl⟩:=f3;have A:El p n (j3 p W D E):=zK o G I;have L:El p n (j3 p W (j3 p W D E) t3):=zK o A J;have Q:(0:Int)<((3:Nat):Int):=by decide
 have R:(1:Int)<((3:Nat):Int):=by decide
 have S:(2:Int)<((3:Nat):Int):=by decide
 simp only[Z3,seval,-ae,Q,R,S];refine qF l o G I rfl rfl LB LB λv4=>?_;refine Lk ?_;refine qF l o (a:=j3 p W D E) A J A.1.symm rfl LB LB λv5=>?_;refine Lk ?_;exact Gh.fin0 (zC σ _) trivial (hk _ _ L ⟨DF,v5,by rw[L.1]⟩)
def zNK(o:eT p n W)(q:lS p n B)(G:fG p n<=729)(S:jF p)(A:lx vP vB W B)(Q:jj vL xs)(U:yx p n xs)(hb:(Lu xs)<=1048576)(R:∀v u,El p n u->FI v u->K v σ):zA Li 185 [.agg [.int .i64 p,vP,vB],vL] σ K:=by
 have aX:=o.le;have L:=o.len;have M:=A.P.one;have N:=A.B.one;obtain⟨wl,al,rl,rfl,I⟩:=Q;refine Lh Tryz.func185 ?_;simp only[Z3,seval,-ae,M,N];refine zBi A L af λv0=>?_;refine Lk ?_;refine zF (λm vs h'=>∃i v,i<=Lu xs/\m=Lu xs-i/\vs=[.fz wl al (Lu xs) rl,.ptr σ.aM 0,v,.int .i64 (i:Nat)]/\h'=σ.bf [.int .i64 p,vP,vB]/\∃u,El p n u/\FI v u) (Lu xs) ?_ ?_
 .exact⟨0,_,af,af,rfl,rfl,_,ZB o.pr,⟨DF,v0,by rw[YL];rfl⟩⟩
 .rintro m vs h' ⟨i,v,hi,rfl,rfl,rfl,uu,E,D⟩
  refine Lk ?_;refine de (λl=>?_) λaG=>?_
  .obtain⟨w4,a4,J⟩:=I.rowI l;have ks:=U _ (YZ l);simp only[Z3,seval,-ae,l,J];refine zII o q G S A E ks D ⟨_,_,rfl⟩ λv' u' yK V=>?_;simp only[Z3,seval,-ae,WX l];exact⟨_,af,i+1,v',af,rfl,rfl,u',yK,V⟩
  .have aU:i=Lu xs:=af
   subst aU;exact Gh.fin0 (zC σ _) (D.bel _) (R v _ E D)
def zNN(o:eT p n W)(q:lS p n B)(J:fG p n<=729)(Q:jF p)(l:lx vP vB W B)(S:El p n x)(G:El p n y)(D:FI vx x)(A:FI vy y)(N:∀v u,El p n u->FI v u->K v σ):
  zA Li 118 [.agg [.int .i64 p,vP,vB],vx,vy] σ K:=by
 have L:=l.P.one;have M:=l.B.one;refine Lh Tryz.func118 ?_;simp only[Z3,seval,-ae,L,M];refine zIH o l G A λU E=>?_;simp only[Z3,seval,-ae,E.one,E.cells,D.one,D.cells,A.one,A.cells];refine zA.frz (s:=σ.aM+1) (cs:=[U,vx,vy]) (by simp only[Z3,seval,-ae]) ⟨E.bel 0,D.bel 0,A.bel 0,DJ⟩ λV=>?_;simp only[kq,sb,gk,and_self,if_true,decide_true,na,l.P.sb,l.B.sb];refine zNK o q J Q l (rows3 E D A) (els3 (Qu o G) S G) aK λv u R I=>?_;refine Lk ?_;exact Gh.fin0 (((zC σ _).bf _).kill af) (I.bel _) (N v _ R I)
def zEN(o:eT p n W)(q:lS p n B)(bh:fG p n<=729)(U:jF p)(E:lx vP vB W B)(V:El p n x)(bm:FI vx x)(hk:∀v u,El p n u->FI v u->K v σ):zA Li 117 [.agg [.int .i64 p,vP,vB],vx] σ K:=by
 have aX:=o.le;have Q:=o.len;have N:=V.1;have h1:=E.P.one;have h2:=E.B.one;obtain⟨wx,M,rfl⟩:=bm;refine Lh Tryz.func117 ?_;simp only[Z3,seval,-ae,h1,h2,N];refine zCt E Q af λcap hc=>?_;refine Lk ?_;refine zF (λm vs h'=>∃i v l r,i<=n/\m=n-i/\vs=[.fz wx M n (cS x),.ptr σ.aM 0,.sl (σ.aM+1) 0 n cap,v,.int .i64 (i:Nat)]/\h'=(σ.bf [.int .i64 p,vP,vB]).bf (cS l)/\FI v r/\El p n l/\El p n r) n ?_ ?_
 .exact⟨0,.fz wx M n (cS x),Ep n 0,x,af,af,rfl,rfl,⟨_,_,by rw[N]⟩,ZB o.pr,V⟩
 .rintro m vs h' ⟨i,v,l,r,hi,rfl,rfl,rfl,hv,G,D⟩
  refine Lk ?_;refine de (λA=>?_) λaG=>?_
  .have hu:=zQ (n:=n) o.pr A;have hb:=zKF D U i;have J:i<Lu r:=by rw[D.1];exact A
   have I:i<Lu l:=by rw[G.1];exact A
   have L:=D.1;have lh:=G.1;obtain⟨w0,a0,rfl⟩:=hv;have di:(cS l).take i++[.int .i64 (at_ r i)]++(cS l).drop (i+1)=cS (l.set i (at_ r i)):=zX I;have Ad:El p n (l.set i (at_ r i)):=⟨by rw[YA];exact G.1,λy hy=>by
    rcases Hs hy with h|h
    .exact G.2 y h
    .rw[h,dp J];exact D.2 _ (YZ J)⟩
   have R:at_ (l.set i (at_ r i)) i=at_ r i:=by rw[dp (by rw[YA];exact I)];simp
   have S:i<(l.set i (at_ r i)).length:=by rw[YA];exact I
   have ne:=zK o (k:=-at_ r i) (m:=0) hu D;have dj:Lp .i64 (0-at_ r i)=-at_ r i:=WQ
   rw[L];simp only[Z3,seval,-ae,A,xL J,J,I,UX I,UX A,zJ,di,xL S,R,dj,lh];refine qf E Q af A λa1=>?_;simp only[Z3,seval,-ae,xL S,R];refine qF E o hu D hu.1.symm L.symm (k:=-at_ r i) (m:=0) af LB λv1=>?_;refine Lk ?_;refine zII o q bh U E ne D ⟨DF,v1,by rw[ne.1]⟩ ⟨_,_,by rw[L]⟩ λv' u' yK iY=>?_;simp only[Z3,seval,-ae,WX A];exact⟨_,af,i+1,v',_,u',af,rfl,rfl,rfl,iY,Ad,yK⟩
  .have aU:i=n:=af
   subst aU;exact Gh.finF (s:=σ.aM+1) ((zC σ _).bf _) (by refine Lk ?_;rfl) af (zL _ _) hc.ok λo2=>hk _ _ G ⟨DF,.sl o2 0 i cap,by rw[G.1]⟩
structure ShR(p:Int)(n i:Nat)(Ps:V2)(Cs:V3):Prop where
 pl:(Lu Ps)=i
 pe:yx p n Ps
 cl:(Lu Cs)=i
 cq:∀(j:Nat) (h:j<Lu Cs),Cs[j].length=n-1-j/\yx p n Cs[j]
def ShR.zero:ShR p n 0 [] []:=⟨rfl,λr l=>(by cases l),rfl,λj h=>(by simp at h)⟩
def ShR.snoc{i:Nat}{A:V2}{l:V3}{u:V1}{R:V2}(a:ShR p n i A l)(I:El p n u)(D:(Lu R)=n-1-i)(E:yx p n R):ShR p n (i+1) (A++[u]) (l++[R]):=by
 refine⟨by rw[YB,a.pl];rfl,λr G=>?_,by rw[YB,a.cl];rfl,λj h=>?_⟩
 .rcases YY.1 G with h|h
  .exact a.pe r h
  .rw[YT.1 h];exact I
 .rw[YB,Yb]at h;rcases YG j (Lu l) with g|g
  .rw[Uc g];exact a.cq j g
  .have e:j=Lu l:=af
   subst e;rw[Ud g];simp only[Yk,List.getElem_singleton];rw[a.cl];exact⟨D,E⟩
def zLK(o:eT p n W)(q:lS p n B)(bh:fG p n<=729)(hp:jF p)(hR:lx vP vB W B)(hk:∀vO vQ E N M,FI vO (Ep n p)->jj vQ N->Db E M->ShR p n n N M->K (.agg [vO,vQ,E]) σ):zA Li 62 [.agg [.int .i64 p,vP,vB]] σ K:=by
 have aX:=o.le;have dS:=o.len;have gA:=hp.bd;have aJ:=hR;have A9:=hR.B.one;obtain⟨⟨wp,ap,rp,rfl,lT⟩,hB⟩:=hR;refine zA.gh ?_;generalize hT:(σ.bf [.int .i64 p,.fz wp ap (Lu W) rp,vB]).bf [Ln,Ln,Ln]=T;have G:T.aM=σ.aM+2:=by rw[<-hT];rfl
 have cZ:cT σ T:=by rw[<-hT];exact(zC σ _).bf _
 have ld:∀{g:cg},cT T g->g.rd σ.aM 0 3=Dc [.int .i64 p,.fz wp ap (Lu W) rp,vB]/\g.dR σ.aM 0=Dc (.int .i64 p)/\g.dR σ.aM 1=Dc (.fz wp ap (Lu W) rp):=λ{g} k=>by
  have J:g.bt σ.aM=Dc [.int .i64 p,.fz wp ap (Lu W) rp,vB]:=by rw[k.bt _ af,<-hT];simp only[Z3,seval,-ae]
  exact⟨by rw[zV J];rfl,by rw[zH J];rfl,by rw[zH J];rfl⟩
 have fD:∀{g:cg} {u0 u1 u2:PV},cT T g->u0.one=DF->u1.one=DF->u2.one=DF->g.wr (σ.aM+1) 0 [u0,u1,u2]=Dc (g.set (σ.aM+1) [u0,u1,u2])/\(g.set (σ.aM+1) [u0,u1,u2]).rd (σ.aM+1) 0 3=Dc [u0,u1,u2]:=λ{g u0 u1 u2} k z0 z1 z2=>by
  have aQ:g.bt (σ.aM+1)=Dc [Ln,Ln,Ln]:=by rw[k.bt _ af,<-hT];simp only[Z3,seval,-ae]
  exact⟨by rw[zR aQ,DK ⟨aK,by simp only[Ej,Em,z0,z1,z2];rfl⟩];rfl,by rw[zi,DK rfl];rfl⟩
 obtain⟨I,l0,l1⟩:=ld (cT.refl T);refine Lg Tryz.func62 ?_;simp only[Z3,seval,-ae,A9];rw[hT];simp only[Z3,seval,-ae,l1,dS];refine zF (λm us h=>∃(i:Nat) (vO vP E:PV) (cO D cC:List PV) (ls:List LS) (N:V2) (M:V3),ShR p n i N M/\i<=n/\m=n-i/\us=[.ptr σ.aM 0,.ptr (σ.aM+1) 0,.int .i64 n,.ptr (σ.aM+5) 0,.int .i64 i]/\ST T h (σ.aM+5) [(vO,cO),(vP,D),(E,cC)] ls/\cO=cS (Ep i p)/\dd FI D N/\cC=ls.map LS.pv/\zEp ls M) n ?_ ?_
 .refine⟨0,.sl (σ.aM+2) 0 0 (.b6 0),.sl (σ.aM+3) 0 0 (.b6 0),.sl (σ.aM+4) 0 0 (.b6 0),[],[],[],[],[],[],ShR.zero,af,af,rfl,⟨(((zC T _).bf _).bf _).bf _,by simp only[Z3,seval,-ae,G],⟨af,by first|(simp only[Z3,seval,-ae,G];done)|(simp only[Z3,seval,-ae,G];omega)⟩,λf A=>?_,λf A off l c e=>?_,λi j f g A hg an s off l c e dx l' c' e'=>?_,λq hq=>(by cases hq),λq hq=>(by cases hq)⟩,rfl,dd.nil _,rfl,dd.nil _⟩
  .simp only[YH,Ym,or_false]at A;rcases A with rfl|rfl|rfl
   .exact eA.own (.inr rfl) (by simp only[Z3,seval,-ae,G]) rfl af (by first|(simp only[Z3,seval,-ae,G];done)|(simp only[Z3,seval,-ae,G];omega))
   .exact eA.own (.inr rfl) (by simp only[Z3,seval,-ae,G]) rfl af (by first|(simp only[Z3,seval,-ae,G];done)|(simp only[Z3,seval,-ae,G];omega))
   .exact eA.own (.inr rfl) (by simp only[Z3,seval,-ae,G]) rfl af (by first|(simp only[Z3,seval,-ae,G];done)|(simp only[Z3,seval,-ae,G];omega))
  .simp only[YH,Ym,or_false]at A;rcases A with rfl|rfl|rfl<;>(simp only[PV.sl.injEq]at e;omega)
  .match i,j with
   |0,0=>exact an rfl
   |1,1=>exact an rfl
   |2,2=>exact an rfl
   |0,1|0,2|1,0|1,2|2,0|2,1=>cases A;cases hg;simp only[PV.sl.injEq]at e e';omega
   |i+3,_=>simp at A
   |0,j+3|1,j+3|2,j+3=>simp at hg
 as_aux_lemma=>
 rintro m us h ⟨i,vO,vP,E,cO,D,cC,ls,N,M,dO,hi,rfl,rfl,a,nM,iT,fj,V⟩
 obtain⟨I,l0,l1⟩:=ld a.cf;have aO:=a.acc (vO,cO) aK;have aP:=a.acc (vP,D) aK;have aC:=a.acc (E,cC) aK;have f0:h.dR (σ.aM+5) 0=Dc vO:=by rw[zH a.bt];rfl
 have f3:h.rd (σ.aM+5) 0 3=Dc [vO,vP,E]:=by rw[zV a.bt];rfl
 refine Lk ?_;refine Ll (λaG=>?_) λah=>?_
 .as_aux_lemma=>
  have aU:i=n:=af
  subst aU;obtain⟨g1,g2⟩:=fD a.cf aO.one aP.one aC.one;simp only[Z3,seval,-ae,f3,g1,g2];obtain⟨sO,capO,e1,o1,o2,o3,o4,o5⟩:=aO;obtain⟨sP,capP,e2,q1,q2,q3,q4,q5⟩:=aP;obtain⟨sC,capC,e3,r1,r2,r3,r4,r5⟩:=aC;dsimp only at e1 o1 o2 o3 e2 q1 q2 q3 e3 r1 r2 r3;subst e1 e2 e3;have et:(TR.agg [.lst sO capO (cO.map TR.leaf),.lst sP capP (D.map TR.leaf),.lst sC capC (ls.map LS.tr)]).pv=.agg [.sl sO 0 (Lu cO) capO,.sl sP 0 (Lu D) capP,.sl sC 0 (Lu cC) capC]:=by
   simp only[TR.pv,TR.pvs,YF];rw[fj,YF]
  rw[<-et];have J:∀s,T.aM<=s->(h.set (σ.aM+1) [.sl sO 0 (Lu cO) capO,.sl sP 0 (Lu D) capP,.sl sC 0 (Lu cC) capC]).bt s=h.bt s:=λs hs=>by rw[zG,DL af]
  refine Gh.treeF ((cZ.trans a.cf).set af _) ⟨⟨⟨by rw[YF];exact o1,by rw[J _ o4,Zu];exact o2,af,o5⟩,Zv (by rw[nM];exact zL _ _)⟩,⟨⟨by rw[YF];exact q1,by rw[J _ q4,Zu];exact q2,af,q5⟩,Zv (iT.bI 0)⟩,⟨⟨by rw[YF];rw[fj,YF]at r1;exact r1,by rw[J _ r4,LS.tr_pvs,<-fj];exact r2,af,r5⟩,LS.trs_okF λq hq=>?_⟩,DJ⟩ λaa=>hk _ _ _ _ _ ⟨DF,.sl (aa sO) 0 (Lu cO) capO,?_⟩ ⟨DF,.sl (aa sP) 0 (Lu D) capP,D,?_,iT⟩ ⟨DF,.sl (aa sC) 0 (Lu ls) capC,TR.fzs aa (ls.map LS.tr),?_,zAC V⟩ dO
  .obtain⟨g1,g2,g3,g4⟩:=a.lok q hq;refine⟨⟨g1,by rw[J _ g3];exact g2,af,g4⟩,?_⟩;obtain⟨k,fQ,rfl⟩:=YR.1 hq;exact(V.2 k _ _ (YQ fQ) (YQ (by rw[<-V.1];exact fQ))).bI 0
  .simp only[TR.fz,Zw,YF];rw[nM];simp[zJ]
  .simp only[TR.fz,Zw,YF];rw[iT.1]
  .simp only[TR.fz,YF];rw[V.1]
 have aq:i<n:=af
 have kE:i<Lu W:=af
 have aH:∀f,f∈[(vO,cO),(vP,D),(E,cC)]->f.1.one=DF:=λf A=>(a.acc f A).one;have F0:(Lu cO)=i:=by rw[nM];simp[zJ]
 have AM:(Lu D)=i:=by rw[iT.1];exact dO.pl
 have AN:(Lu cC)=i:=by rw[fj,YF,V.1];exact dO.cl
 simp only[Z3,seval,-ae,f0,l0];refine ST.push a (j:=0) (bytes:=8) rfl af af aH λv1 h1 z1 z2 z3 S=>?_;simp only[Eu,YE,Ya]at z3 S;generalize h1.set (σ.aM+5) [v1,vP,E]=h2 at *
 obtain⟨I,l0,l1⟩:=ld S.cf;have f1:h2.dR (σ.aM+5) 1=Dc vP:=by rw[zH S.bt];rfl
 obtain⟨w4,a4,uh⟩:=lT.rowI kE;simp only[Z3,seval,-ae,z1,z2,z3,I,l1,f1,kE,uh];obtain⟨BW,Dd,JJ⟩:=o.row i kE;have JK:=BW;refine zEN o q bh hp aJ (x:=W[i]) ⟨BW,Dd⟩ ⟨w4,a4,rfl⟩ λv2 u2 Ls fX=>?_;have y1:=fX.one;have y2:=fX.cells;have gD:¬σ.aM+5=h2.aM:=by have:=S.p0b.2;omega
 simp only[Z3,seval,-ae,y1,y2,f1,gD];have fB:∀f,f∈[(v1,cO++[.int .i64 p]),(vP,D),(E,cC)]->f.1.one=DF:=λf A=>(S.acc f A).one;refine ST.push S (j:=1) (bytes:=24) rfl af af fB λv3 h3 z4 z5 z6 U=>?_;simp only[Eu,Ib,YE,Ya]at z6 U;generalize h3.set (σ.aM+5) [v1,v3,E]=h4 at *
 have bG:Lp .i64 ((i:Int)+1)=((i+1:Nat):Int):=gX aq af;simp only[Z3,seval,-ae,z4,z5,z6,bG];clear z1 z2 z3 z4 z5 z6 f0 f1 f3 I l0 l1 y1 y2;refine zD6 2 (λe h=>∃(L:PV) (cells:List PV) (b0:PV),e=ec.mk [1,2,3,4,5,6,7,44] [.ptr σ.aM 0,.ptr (σ.aM+1) 0,.int .i64 n,.ptr (σ.aM+5) 0,.int .i64 i,L,.int .i64 n,b0]/\cT h4 h/\eA h4.aM 1 h L (n-1-i) cells/\∃R:V2,(Lu R)=n-1-i/\yx p n R/\dd FI cells R) (λQ hQ=>?_) ?_;rotate_left
 .as_aux_lemma=>
  rintro e h9 ⟨L,cells,b0,rfl,k9,p9,R,jK,jJ,bJ⟩
  have a9:=U.keepI k9;obtain⟨t,cap,rfl,A,q2,q3,q4,q5⟩:=p9;have f2:h9.dR (σ.aM+5) 2=Dc E:=by rw[zH a9.bt];rfl
  have pE:¬σ.aM+5=h9.aM:=by have:=a9.p0b.2;omega
  have eK:∀f,f∈[(v1,cO++[.int .i64 p]),(v3,D++[v2]),(E,cC)]->f.1.one=DF:=λf A=>(a9.acc f A).one;have kJ:(Lu cells)=n-1-i:=af
  have lL:=ST.more (q:=⟨t,cap,cells⟩) a9 ⟨by rw[kJ];exact A,q2,by have:=U.cf.aM;show T.aM<=t;omega,q5⟩ ⟨by have:=U.p0b.2;show t≠σ.aM+5;omega,λf A off l c e=>by
   have:=QB (U.acc f A) e
   have:t<h4.aM:=this
   omega⟩
  simp only[Z3,seval,-ae,f2,pE];refine ST.push lL (j:=2) (bytes:=24) rfl af af eK λv5 h5 z1 z2 z3 a5=>?_;simp only[Eu,Ib,YE,Ya]at z3 a5;generalize h5.set (σ.aM+5) [v1,v3,v5]=h6 at *
  simp only[Z3,seval,-ae,z1,z2,z3,WX aq];refine⟨_,af,i+1,v1,v3,v5,_,_,_,ls++[⟨t,cap,cells⟩],N++[u2],M++[R],dO.snoc Ls jK jJ,af,rfl,rfl,a5,?_,?_,?_,?_⟩
  .rw[nM,HR,<-QL];rfl
  .exact iT.snoc fX
  .rw[fj,Yx];simp only[YE,Ya,LS.pv];rw[kJ]
  .exact V.snoc bJ
 as_aux_lemma=>
 refine zF (λm us h=>∃(k:Nat) (L:PV) (cells:List PV),i+(1+k)<=n/\m=n-(i+(1+k))/\us=[.ptr σ.aM 0,.ptr (σ.aM+1) 0,.int .i64 n,.ptr (σ.aM+5) 0,.int .i64 i,L,.int .i64 ((i+(1+k):Nat):Int)]/\cT h4 h/\eA h4.aM 1 h L k cells/\∃R:V2,(Lu R)=k/\yx p n R/\dd FI cells R) (n-(i+1)) ⟨0,_,[],af,rfl,rfl,zC _ _,eA.bf _ 1 rfl (na _),[],rfl,λr hr=>(by cases hr),dd.nil _⟩ ?_
 rintro m us h7 ⟨k,L,cells,sD,rfl,rfl,k7,p7,R,jK,jJ,bJ⟩
 obtain⟨I,l0,l1⟩:=ld (U.keepI k7).cf;refine Lk ?_;refine Ll (λAw=>?_) λAn=>?_
 .have eg:k=n-1-i:=af
  subst eg;exact hQ _ _ ⟨L,cells,_,by rw[show((i+(1+(n-1-i)):Nat):Int)=(n:Int) by omega],k7,p7,R,jK,jJ,bJ⟩
 have hj:i+(1+k)<n:=af
 have cY:=zQ (n:=n) o.pr aq;have iZ:=zQ (n:=n) o.pr hj;simp only[Z3,seval,-ae,I];refine qf aJ dS af hj λb1=>?_;simp only[Z3,seval,-ae,I];refine qf aJ dS af aq λb2=>?_;simp only[Z3,seval,-ae,I];refine zNN o q bh hp aJ iZ cY ⟨DF,b1,by rw[iZ.1]⟩ ⟨DF,b2,by rw[cY.1]⟩ λv6 u6 AK pf=>?_;simp only[Z3,seval,-ae,I];refine zEN o q bh hp aJ AK pf λv8 u8 Lr mD=>?_;have y1:=mD.one;have y2:=mD.cells;have fO:k<=10:=af
 simp only[Z3,seval,-ae,y1,y2];refine eA.push (bytes:=24) (σb:=h4) k7 p7 af af λv9 h8 k8 p8=>?_;have e5:Lp .i64 (((i+(1+k):Nat):Int)+1)=((i+(1+(k+1)):Nat):Int):=WQ
 simp only[Z3,seval,-ae,e5];refine⟨_,af,k+1,v9,_,af,rfl,rfl,k8,p8,R++[u8],by rw[YB,jK];rfl,λr hr=>?_,bJ.snoc mD⟩;rcases YY.1 hr with h|h
 .exact jJ r h
 .rw[YT.1 h];exact Lr
end
section
open Go.Grp
variable{w:V1}
structure ResG{α:Type}(r:α×Int)(z:α)(c:Int):Prop where
 eq:(z,c)=r
def ResG.unique{α:Type}{r:α×Int}{z A:α}{c l:Int}(h:ResG r z c)(h':ResG r A l):z=A/\c=l:=by
 have:=h.eq.trans h'.eq.symm
 simpa using this
def rt_ex(g:LG O P C)(l:gS O z){c:Int}(M:z≠zv O->OkC (at_ O 0) c)(S:c=2\/c=12):gS O (rt O P C z c):=by
 by_cases A:z=zv O
 .exact(zC4 (w:=zv O) (.inl ⟨A,rfl⟩)).gS g.F g.s l
 .have h0:=ZQ l A;have V:=(g.isp h0).bd;have L:=g.bound h0 (na (Lu O));have I:∀i,i<=Lu O->TT O i (Grp.pw (gm O P C) (zv O) z ((at_ O 0).toNat ^ i)):=by
   intro i U
   induction i with
   |zero=>rw[Nat.pow_zero,g.F.g.toMon.pw_one l];exact l
   |succ i ih=>
    have:=zAR g.s g.F g.cent (show i<(Lu O) by omega) (ih af)
    rw[g.eq (show i<(Lu O) by omega),<-g.F.g.toMon.pw_mul l]at this;rw[Nat.pow_succ];exact this
  have D:(((at_ O 0).toNat ^ (Lu O):Nat):Int)=at_ O 0 ^ (Lu O):=by
   rw[Int.natCast_pow,YD af]
  have G:Grp.pw (gm O P C) (zv O) z ((at_ O 0).toNat ^ (Lu O))=zv O:=(I _ (na _)).ext (g.s.zv _) λj Q R=>by omega
  obtain⟨Y,J⟩:=zDG (M A) D af (c:=c) af;have N:((at_ O 0).toNat ^ (Lu O):Nat)≠0:=λe=>by have E:=L.1;rw[<-D,e]at E;simp at E
  have b1:=Y3 Y (show(((at_ O 0).toNat ^ (Lu O):Nat):Int)≠0 by omega);refine(zC4 (w:=Grp.pw (gm O P C) (zv O) z (Y % ((at_ O 0).toNat ^ (Lu O):Nat)).toNat) (.inr ⟨A,(Lu O),_,_,D,G,?_,rfl⟩)).gS g.F g.s l;rw[YD b1,Uw,UK _ (Uk _),<-Uw];exact J
def zSG(g:LG O P C)(k:jq O P C)(l:gS O x)(A:gS O y):gS O (tu O P C x y):=by
 have G:=g.F.g;have D:=G.com_in l A;exact G.cl (G.cl (G.cl (G.cl l A) (G.inv_in (rt_ex g D (ok2 g k l A (.inl rfl)) (.inl rfl))).1) (rt_ex g (G.com_in D l) (sn g k l A l) (.inr rfl))) (G.inv_in (rt_ex g (G.com_in D A) (sn g k l A A) (.inr rfl))).1
def zJ7(g:LG O P C)(k:jq O P C)(l:gS O x)(A:gS O y):gS O (gbr O P C x y):=by
 have G:=g.F.g;have D:=G.com_in l A;exact G.cl (G.cl D (G.inv_in (rt_ex g (G.com_in D l) (sn g k l A l) (.inl rfl))).1) (G.inv_in (rt_ex g (G.com_in D A) (sn g k l A A) (.inl rfl))).1
end
end Go.Proofs
