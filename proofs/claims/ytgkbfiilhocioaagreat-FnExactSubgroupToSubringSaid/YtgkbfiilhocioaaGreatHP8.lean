/- . -/
import Derived.Test.YtgkbfiilhocioaaGreatHP7
open Nat renaming le_refl→vM
open Int renaming reduceNatCast'->ae
set_option maxRecDepth 100000
set_option linter.unusedSimpArgs false
set_option linter.unusedVariables false
namespace Go.Proofs
open Go.Ab Go.Lie
variable{U h:PHeap}{K:PV->PHeap->Prop}{n:Nat}{p0 sO:Nat}{vO vP vC:PV}{cO pc:List PV}{ls:List (Option LS)}{O:L3}
theorem TI.res{X Y:List PV}(a:TI (U.new X) h p0 sO vO vP vC cO pc ls):TI U (h.set U.next Y) p0 sO vO vP vC cO pc ls:=by
 have hn:(U.new X).next=U.next+1:=rfl;have hp:=a.p0b;have hs:=a.sOb;refine⟨((zD U X).trans a.keep).set (vM _) _,by rw[zI,if_neg (by omega)];exact a.obj,⟨by omega,hp.2⟩,by rw[zI,if_neg (by omega)];exact a.oO,⟨by omega,hs.2⟩,a.pO,?_,?_,λq hq=>?_,a.nd,a.neP,a.neC,a.neL,a.nePC⟩
 .rcases a.accP with g|⟨s,cap,e,h1,h2,h3,h4,h5⟩
  .exact .inl g
  .exact .inr ⟨s,cap,e,h1,by rw[zI,if_neg (by omega)];exact h2,h3,by omega,h5⟩
 .rcases a.accC with g|⟨s,cap,e,h1,h2,h3,h4,h5⟩
  .exact .inl g
  .exact .inr ⟨s,cap,e,h1,by rw[zI,if_neg (by omega)];exact h2,h3,by omega,h5⟩
 .obtain⟨h1,h2,h3,h4⟩:=a.ok q hq;exact⟨h1,by rw[zI,if_neg (by omega)];exact h2,by omega,h4⟩
def zDn(n:Nat)(ls:List (Option LS)):Prop:=∀j (h:j<ls.length),(j+1=n->ls[j]=none)/\(j+1<n->∃q,ls[j]=some q/\q.cs.length=n-1-j)
theorem zDn.snoc{o:Option LS}(h:zDn n ls)(h1:ls.length+1=n->o=none)(h2:ls.length+1<n->∃q,o=some q/\q.cs.length=n-1-ls.length):zDn n (ls++[o]):=by
 intro j hj;rw[List.length_append,List.length_singleton]at hj;rcases Nat.lt_or_ge j ls.length with x|x
 .rw[List.getElem_append_left x];exact h j x
 .have e:j=ls.length:=by omega
  subst e;rw[List.getElem_append_right (vM _)];simp only[Nat.sub_self,List.getElem_cons_zero];exact⟨h1,h2⟩
theorem zDC(hv:FI vO [])(hk:∀h,Keep U h->K (.agg [.fz true .nils 0 [],.fz true .nils 0 [],.fz true .nils 0 []]) h)
  (cf:∀h cap,full 1 cap 0->Keep U h->h.obj (U.next+1)=some []->U.next+1<h.next->K (.agg [.sl (U.next+1) 0 0 cap,.fz true .nils 0 [],.fz true .nils 0 []]) h):zA Tryz.prog 189 [vO] U K:=by
 obtain⟨w,a,rfl⟩:=hv;refine zB mix Tryz.func189 ?_
 conv=>arg 2;cbv
 refine zC rfl ?_;simp only[Z3,seval,-ae];refine QO rfl (by simp) ⟨λh0=>?_,λcap hc=>?_⟩
 .simp only[Z3,seval,-ae];refine zF (λm us h'=>m=0/\us=[.ptr U.next 0,.int .i64 (0:Nat),.ptr (U.next+1) 0,.int .i64 (0:Nat),.int .i64 (0:Nat)]/\h'=(U.new [.fz true .nils 0 [],.fz true .nils 0 [],.fz true .nils 0 []]).new [.fz true .nils 0 [],.fz true .nils 0 [],.fz true .nils 0 []]) 0 ⟨rfl,rfl,rfl⟩ ?_
  rintro m us h' ⟨rfl,rfl,rfl⟩
  simp only[Z3,seval,-ae];exact hk _ ((zD U _).new _)
 .simp only[Z3,seval,-ae];refine zF (λm us h'=>m=0/\us=[.ptr U.next 0,.int .i64 (0:Nat),.ptr (U.next+2) 0,.int .i64 (0:Nat),.int .i64 (0:Nat)]/\h'=((U.new [.fz true .nils 0 [],.fz true .nils 0 [],.fz true .nils 0 []]).new []).new [.sl (U.next+1) 0 0 cap,.fz true .nils 0 [],.fz true .nils 0 []]) 0 ⟨rfl,rfl,rfl⟩ ?_
  rintro m us h' ⟨rfl,rfl,rfl⟩
  simp only[Z3,seval,-ae];refine cf _ cap hc (((zD U _).new _).new _) ?_ ?_
  .simp only[Z3,seval,-ae]
  .simp only[Z3,seval,-ae];omega
theorem zC9(hv:FI vO O)(hn:O.length=n)(jo:1<=n)(aW:n<=6)
  (hk:∀cap vP vC pc ls h,full 1 cap n->TI U h (U.next+2) (U.next+1) (.sl (U.next+1) 0 n cap) vP vC (pis O) pc ls->pc.length=n->ls.length=n->zDn n ls->K (.agg [.sl (U.next+1) 0 n cap,vP,vC]) h):
  zA Tryz.prog 189 [vO] U K:=by
 obtain⟨w,a,rfl⟩:=hv;subst hn;refine zB mix Tryz.func189 ?_
 conv=>arg 2;cbv
 refine zC rfl ?_;simp only[Z3,seval,-ae];refine QO rfl (by omega) ⟨λh0=>by rw[h0]at jo;simp at jo,λcap hc=>?_⟩;generalize hS:U.new [.fz true .nils 0 [],.fz true .nils 0 [],.fz true .nils 0 []]=S;have wJ:S.next=U.next+1:=by rw[<-hS];rfl
 simp only[Z3,seval,-ae];refine zF (λm us h'=>∃(i:Nat) (vP vC:PV) (pc:List PV) (ls:List (Option LS)),i<=O.length/\m=O.length-i/\us=[.ptr U.next 0,.int .i64 O.length,.ptr (S.next+1) 0,.int .i64 O.length,.int .i64 i]/\TI S h' (S.next+1) S.next (.sl S.next 0 O.length cap) vP vC (pis O) pc ls/\pc.length=i/\ls.length=i/\zDn O.length ls) O.length ?_ ?_
 .exact⟨0,_,_,[],[],by omega,by omega,rfl,⟨(zD S _).new _,by simp only[Z3,seval,-ae],⟨by omega,by simp only[Z3,seval,-ae]⟩,by simp only[Z3,seval,-ae],⟨vM _,by simp only[Z3,seval,-ae];omega⟩,by omega,PAcc.nil _ _ _,PAcc.nil _ _ _,λq hq=>(by cases hq),List.nodup_nil,λs hs off l c e=>(by cases e),λs hs off l c e=>(by cases e),⟨λh=>(by cases h),λh=>(by cases h)⟩,λs off l c e=>(by cases e)⟩,rfl,rfl,λj hj=>absurd hj (by simp)⟩
 as_aux_lemma=>
 rintro m us h' ⟨i,vP,vC,pc,ls,hi,rfl,rfl,a,kE,m4,fV⟩
 have aK:vP.one=true/\vC.one=true:=⟨a.accP.one,a.accC.one⟩;have q0:h'.rd1 (S.next+1) 1=some vP:=by rw[zG a.obj];rfl
 have q3:h'.rd (S.next+1) 0 3=some [.sl S.next 0 O.length cap,vP,vC]:=by rw[ZN a.obj];rfl
 simp only[Z3,seval,-ae];refine iteI (λag=>?_) λaF=>?_;rotate_left
 .have aJ:i=O.length:=by omega
  have cD:h'.obj U.next=some [.fz true .nils 0 [],.fz true .nils 0 [],.fz true .nils 0 []]:=by rw[a.keep.obj _ (by omega),<-hS];simp only[Z3,seval,-ae]
  have iW:h'.wr U.next 0 [.sl S.next 0 O.length cap,vP,vC]=some (h'.set U.next [.sl S.next 0 O.length cap,vP,vC]):=by
   rw[Z9 cD,if_pos ⟨by simp,by simp only[List.all_cons,List.all_nil,aK.1,aK.2];rfl⟩];rfl
  have bg:(h'.set U.next [.sl S.next 0 O.length cap,vP,vC]).rd U.next 0 3=some [.sl S.next 0 O.length cap,vP,vC]:=by rw[zDt,if_pos rfl];rfl
  rw[<-hS]at a;have a2:=a.res (Y:=[.sl S.next 0 O.length cap,vP,vC]);rw[hS]at a2;rw[wJ]at a2
  have:=hk cap vP vC pc ls _ hc a2 (by omega) (by omega) fV
  simp only[Z3,seval,-ae,q3,iW,bg];rw[wJ];exact this
 have aG:i<O.length:=by omega
 have mk:=mk8 (n:=O.length) (by omega);have pR:¬S.next+1=h'.next:=by have:=a.p0b.2;omega
 have lg:¬S.next=h'.next:=by have:=a.sOb.2;omega
 simp only[Z3,seval,-ae,q0,mk,mkL (n:=O.length) (by omega),List.length_replicate,pR,lg];refine TI.pushP (a.keepI (zD h' _)) ⟨rfl,aK.2⟩ (by omega) λv2 h2 u1 u2 u3 a2 l2=>?_;simp only[Z3,seval,-ae,u1,u2,u3];clear u1 u2 u3 q0 q3 pR lg;generalize h2.set (S.next+1) [.sl S.next 0 O.length cap,v2,vC]=hb at *
 have gg:IntKind.i64.wrap ((i:Int)+1)=((i+1:Nat):Int):=wrapS aG (by omega);simp only[Z3,seval,-ae,gg];refine zF (λm us h3=>∃(q:Nat) (vL:PV) (cells:List PV),i+(1+q)<=O.length/\m=O.length-(i+(1+q))/\us=[.ptr U.next 0,.int .i64 O.length,.ptr (S.next+1) 0,vL,.int .i64 ((i+(1+q):Nat):Int),.int .i64 O.length,.int .i64 i]/\Keep hb h3/\PAcc hb.next 1 h3 vL q cells/\(q=0->vL=.fz true .nils 0 [])) (O.length-(i+1)) ⟨0,_,[],by omega,rfl,rfl,Keep.refl _,PAcc.nil _ _ _,λ_=>rfl⟩ ?_
 rintro m us h3 ⟨q,vL,cells,hq,rfl,rfl,k3,p3,gZ⟩
 have b:=a2.keepI k3;have q2:h3.rd1 (S.next+1) 2=some vC:=by rw[zG b.obj];rfl
 simp only[Z3,seval,-ae];refine iteI (λAP=>?_) λBg=>?_
 .have cJ:i+(1+q)<O.length:=by omega
  have e5:IntKind.i64.wrap (((i+(1+q):Nat):Int)+1)=((i+(1+(q+1)):Nat):Int):=by rw[wrap64 (by omega) (by omega)];omega
  simp only[Z3,seval,-ae];refine qm (by omega) cJ λav=>?_;simp only[Z3,seval,-ae];refine PAcc.push (bytes:=24) (σb:=hb) k3 p3 (by omega) (by omega) λv' h4 k4 p4=>?_;simp only[Z3,seval,-ae,e5];exact⟨_,by omega,q+1,v',_,by omega,rfl,rfl,k4,p4.acc,λh=>by omega⟩
 have kD:q=O.length-1-i:=by omega
 have ai:¬S.next+1=h3.next:=by have:=b.p0b.2;omega
 have B7:=p3.one;have B6:=p3.cells;have Dw:hb.next<=h3.next:=k3.next;obtain⟨o,ho,uL⟩:∃o:Option LS,LS.pvo o=vL/\((o=none/\q=0)\/∃s c,o=some ⟨s,c,cells⟩/\cells.length=q/\0<q/\full 1 c q/\h3.obj s=some cells/\hb.next<=s/\s<h3.next):=by
  rcases Nat.eq_zero_or_pos q with e|e
  .exact⟨none,(gZ e).symm,.inl ⟨rfl,e⟩⟩
  .obtain⟨s,c,rfl,z1,z2,z3,z4,z5⟩:=p3.pos e;exact⟨some ⟨s,c,cells⟩,by simp only[LS.pvo,LS.pv];rw[show cells.length=q by omega],.inr ⟨s,c,rfl,by omega,e,z1,z2,z4,z5⟩⟩
 subst ho;simp only[Z3,seval,-ae,q2,B7,B6,ai];refine TI.pushC b ⟨rfl,b.accP.one⟩ (by omega) (λq' e=>?_) λv5 h5 u1 u2 u3 a5 l5=>?_
 .rcases uL with ⟨e1,_⟩|⟨s,c,e1,z0,z1,z2,z3,z4,z5⟩
  .rw[e1]at e;cases e
  .rw[e1]at e;cases e;have kI:=a2.p0b;have fQ:=a2.sOb;refine⟨⟨by rw[z0];exact z2,z3,by have:=a2.keep.next;show S.next<=s;omega,z5⟩,λhm=>?_,by show s≠_;omega,by show s≠_;omega,λoff l c' e2=>?_,λoff l c' e2=>?_⟩
   .have:=(a2.lt hm).2
    have:s<hb.next:=this
    omega
   .have:s<hb.next:=zAe a2.accP e2
    omega
   .have:s<hb.next:=zAe a2.accC e2
    omega
 simp only[Z3,seval,-ae,u1,u2,u3,wrapS aG (by omega:O.length<=4611686018427387904)];refine⟨_,by omega,i+1,v2,v5,_,ls++[o],by omega,rfl,rfl,a5,by rw[List.length_append];simp;omega,by rw[List.length_append];simp;omega,fV.snoc (λe=>?_) λe=>?_⟩
 .rcases uL with ⟨e1,_⟩|⟨s,c,e1,z0,z1,z2,z3,z4,z5⟩
  .exact e1
  .omega
 .rcases uL with ⟨e1,e2⟩|⟨s,c,e1,z0,z1,z2,z3,z4,z5⟩
  .omega
  .exact⟨_,e1,by rw[m4];show cells.length=_;omega⟩
end Go.Proofs
namespace Go.Proofs
open Go.Ab Go.Lie
variable{U H h:PHeap}{n:Nat}{tp sO sP sC:Nat}{vO:PV}{pc cO:List PV}{ls:List (Option LS)}{x:L3}{capP capC cap:Cap}{rows cur:List SR}{Rs:List (List SR)}
structure BF(U H:PHeap)(tp sO sP sC:Nat)(ls:List (Option LS)):Prop where
 b:∀s,s∈[tp,sO,sP,sC]++LS.slots ls->U.next<=s/\s<H.next
 nd:([tp,sO,sP,sC]++LS.slots ls).Nodup
def cont(Rs:List (List SR))(cur:List SR)(j:Nat)(q:LS):List PV:=
 if j<Rs.length then(Rs.getD j []).map SR.pv else if j=Rs.length then cur.map SR.pv++q.cs.drop cur.length else q.cs
structure LI(U H h:PHeap)(tp sO sP sC:Nat)(vO:PV)(capP capC:Cap)(n:Nat)(cO:List PV)(pc:List PV)(ls:List (Option LS))(rows:List SR)(Rs:List (List SR))(cur:List SR):Prop where
 keep:Keep U h
 nx:H.next<=h.next
 tpo:h.obj tp=some [vO,.sl sP 0 n capP,.sl sC 0 n capC]
 oO:h.obj sO=some cO
 oP:h.obj sP=some (rows.map SR.pv++pc.drop rows.length)
 oC:h.obj sC=some (ls.map LS.pvo)
 oL:∀j q,ls[j]? = some (some q)->h.obj q.s=some (cont Rs cur j q)
 ok:∀q,q∈rows\/q∈Rs.flatten\/q∈cur->q.ok h H.next
 nd:(ZU (rows++(Rs.flatten++cur))).Nodup
theorem LS.mem_of_get{j:Nat}{q:LS}(h:ls[j]? = some (some q)):q.s∈LS.slots ls:=LS.mem_slots.2 ⟨q,List.mem_of_getElem? h,rfl⟩
theorem LI.keepI{h2:PHeap}(b:BF U H tp sO sP sC ls)(a:LI U H h tp sO sP sC vO capP capC n cO pc ls rows Rs cur)(k:Keep h h2):LI U H h2 tp sO sP sC vO capP capC n cO pc ls rows Rs cur:=by
 have hn:=a.nx;have o:∀s,s∈[tp,sO,sP,sC]++LS.slots ls->h2.obj s=h.obj s:=λs hs=>k.obj s (by have:=(b.b s hs).2;omega);refine⟨a.keep.trans k,Nat.le_trans a.nx k.next,by rw[o tp (by simp)];exact a.tpo,by rw[o sO (by simp)];exact a.oO,by rw[o sP (by simp)];exact a.oP,by rw[o sC (by simp)];exact a.oC,λj q hq=>?_,λq hq=>(a.ok q hq).keep k,a.nd⟩;rw[o q.s (List.mem_append.2 (.inr (LS.mem_of_get hq)))];exact a.oL j q hq
theorem LS.slots_inj:∀{ls:List (Option LS)} {i j:Nat} {q q':LS},(LS.slots ls).Nodup->ls[i]? = some (some q)->ls[j]? = some (some q')->q.s=q'.s->i=j
 |[],i,j,q,q',_,h,_,_=>by simp at h
 |o::ls,0,0,q,q',_,_,_,_=>rfl
 |none::ls,0,j+1,q,q',_,h,_,_=>by simp at h
 |none::ls,i+1,0,q,q',_,_,h,_=>by simp at h
 |some r::ls,0,j+1,q,q',hn,h,g,e=>by
  simp only[List.getElem?_cons_zero,Option.some.injEq,List.getElem?_cons_succ,LS.slots,List.nodup_cons]at h g hn;subst h;exact absurd (LS.mem_of_get g) (by rw[<-e];exact hn.1)
 |some r::ls,i+1,0,q,q',hn,h,g,e=>by
  simp only[List.getElem?_cons_zero,Option.some.injEq,List.getElem?_cons_succ,LS.slots,List.nodup_cons]at h g hn;subst g;exact absurd (LS.mem_of_get h) (by rw[e];exact hn.1)
 |none::ls,i+1,j+1,q,q',hn,h,g,e=>by have:=LS.slots_inj (ls:=ls) hn (by simpa using h) (by simpa using g) e;omega
 |some r::ls,i+1,j+1,q,q',hn,h,g,e=>by
  simp only[LS.slots,List.nodup_cons]at hn
  have:=LS.slots_inj (ls:=ls) hn.2 (by simpa using h) (by simpa using g) e
  omega
theorem zIa{a b:List PV}:(a++b).drop (a.length+1)=b.drop 1:=by
 rw[<-List.drop_drop,List.drop_left'];rfl
theorem zBZ{q:SR}{s:Nat}{cs:List PV}(a:q.ok h H.next)(hs:s<H.next):q.ok (h.set s cs) H.next:=⟨a.1,by rw[zI,if_neg (by have:=a.2.2.1;omega)];exact a.2.1,a.2.2.1,a.2.2.2⟩
theorem zO2{q:SR}(hq:q∈rows++(Rs.flatten++cur)):q∈rows\/q∈Rs.flatten\/q∈cur:=by
 simpa only[List.mem_append]using hq
theorem LI.fresh(a:LI U H h tp sO sP sC vO capP capC n cO pc ls rows Rs cur):h.next∉ZU (rows++(Rs.flatten++cur)):=λhm=>by
 obtain⟨q,hq,e⟩:=List.mem_map.1 hm
 have:=(a.ok q (zO2 hq)).2.2.2
 omega
theorem LI.putP(b:BF U H tp sO sP sC ls)(a:LI U H h tp sO sP sC vO capP capC n cO pc ls rows Rs cur)(hf:full 1 cap x.length)(hl:rows.length<pc.length):
  (h.new (pis x)).wr sP rows.length [.sl h.next 0 x.length cap]=some ((h.new (pis x)).set sP ((rows++[(⟨h.next,cap,x⟩:SR)]).map SR.pv++pc.drop (rows.length+1)))/\
  LI U H ((h.new (pis x)).set sP ((rows++[(⟨h.next,cap,x⟩:SR)]).map SR.pv++pc.drop (rows.length+1))) tp sO sP sC vO capP capC n cO pc ls (rows++[(⟨h.next,cap,x⟩:SR)]) Rs cur:=by
 have a1:=a.keepI b (zD h (pis x));have eZ:=a.nx;have bP:=b.b sP (by simp);have nd:=b.nd;simp only[List.cons_append,List.nil_append,List.nodup_cons,List.mem_cons,not_or]at nd;obtain⟨⟨n1,n2,n3,n4⟩,⟨n5,n6,n7⟩,⟨n8,n9⟩,_⟩:=nd;have ob:=a1.oP;refine⟨?_,a1.keep.set bP.1 _,a1.nx,by rw[zI,if_neg n2];exact a1.tpo,by rw[zI,if_neg n5];exact a1.oO,by rw[zI,if_pos rfl,List.length_append,List.length_singleton],by rw[zI,if_neg (Ne.symm n8)];exact a1.oC,λj q hq=>?_,λq hq=>?_,?_⟩
 .rw[Z9 ob,if_pos ⟨by simp only[List.length_append,List.length_map,List.length_drop,List.length_singleton];omega,rfl⟩];congr 2;have e1:(rows.map SR.pv++pc.drop rows.length).take rows.length=rows.map SR.pv:=by
   have:(rows.map SR.pv).length=rows.length:=List.length_map _
   rw[<-this,List.take_left'];rfl
  have e2:(rows.map SR.pv++pc.drop rows.length).drop (rows.length+1)=pc.drop (rows.length+1):=by
   have:=zIa (a:=rows.map SR.pv) (b:=pc.drop rows.length)
   rwa[List.length_map,List.drop_drop]at this
  rw[List.length_singleton,e1,e2,List.map_append];rfl
 .have hm:=LS.mem_of_get hq;rw[zI,if_neg λe=>n9 (by rw[<-e];exact hm)];exact a1.oL j q hq
 .have new:SR.ok (h.new (pis x)) H.next (⟨h.next,cap,x⟩:SR):=⟨hf,by rw[qa,if_pos rfl],eZ,Nat.lt_succ_self _⟩
  rcases hq with hq|hq
  .rcases List.mem_append.1 hq with hq|hq
   .exact zBZ (a1.ok q (.inl hq)) bP.2
   .rw[List.mem_singleton.1 hq];exact zBZ new bP.2
  .exact zBZ (a1.ok q (.inr hq)) bP.2
 .have hp:(ZU ((rows++[(⟨h.next,cap,x⟩:SR)])++(Rs.flatten++cur))).Perm (h.next::ZU (rows++(Rs.flatten++cur))):=by
   simp only[ZU,List.append_assoc,List.map_append,List.map_cons,List.map_nil,List.cons_append,List.nil_append];exact List.perm_middle
  exact hp.nodup_iff.2 (List.nodup_cons.2 ⟨a.fresh,a.nd⟩)
theorem LI.putC{q0:LS}(b:BF U H tp sO sP sC ls)(a:LI U H h tp sO sP sC vO capP capC n cO pc ls rows Rs cur)(hf:full 1 cap x.length)(jG:ls[Rs.length]? = some (some q0))(hl:cur.length<q0.cs.length):
  (h.new (pis x)).wr q0.s cur.length [.sl h.next 0 x.length cap]=some ((h.new (pis x)).set q0.s ((cur++[(⟨h.next,cap,x⟩:SR)]).map SR.pv++q0.cs.drop (cur.length+1)))/\
  LI U H ((h.new (pis x)).set q0.s ((cur++[(⟨h.next,cap,x⟩:SR)]).map SR.pv++q0.cs.drop (cur.length+1))) tp sO sP sC vO capP capC n cO pc ls rows Rs (cur++[(⟨h.next,cap,x⟩:SR)]):=by
 have a1:=a.keepI b (zD h (pis x));have eZ:=a.nx;have mZ:=LS.mem_of_get jG;have bP:=b.b q0.s (List.mem_append.2 (.inr mZ));have nd:=b.nd;simp only[List.cons_append,List.nil_append,List.nodup_cons,List.mem_cons,not_or]at nd;obtain⟨⟨n1,n2,n3,n4⟩,⟨n5,n6,n7⟩,⟨n8,n9⟩,zE,zp⟩:=nd;have ob:=a1.oL _ _ jG;have hc:cont Rs cur Rs.length q0=cur.map SR.pv++q0.cs.drop cur.length:=by unfold cont;rw[if_neg (Nat.lt_irrefl _),if_pos rfl]
 rw[hc]at ob;refine⟨?_,a1.keep.set bP.1 _,a1.nx,by rw[zI,if_neg λe=>n4 (by rw[e];exact mZ)];exact a1.tpo,by rw[zI,if_neg λe=>n7 (by rw[e];exact mZ)];exact a1.oO,by rw[zI,if_neg λe=>n9 (by rw[e];exact mZ)];exact a1.oP,by rw[zI,if_neg λe=>zE (by rw[e];exact mZ)];exact a1.oC,λj q hq=>?_,λq hq=>?_,?_⟩
 .rw[Z9 ob,if_pos ⟨by simp only[List.length_append,List.length_map,List.length_drop,List.length_singleton];omega,rfl⟩];congr 2;have e1:(cur.map SR.pv++q0.cs.drop cur.length).take cur.length=cur.map SR.pv:=by
   have:(cur.map SR.pv).length=cur.length:=List.length_map _
   rw[<-this,List.take_left'];rfl
  have e2:(cur.map SR.pv++q0.cs.drop cur.length).drop (cur.length+1)=q0.cs.drop (cur.length+1):=by
   have:=zIa (a:=cur.map SR.pv) (b:=q0.cs.drop cur.length)
   rwa[List.length_map,List.drop_drop]at this
  rw[List.length_singleton,e1,e2,List.map_append];rfl
 .by_cases e:j=Rs.length
  .subst e;rw[jG]at hq;cases hq;rw[zI,if_pos rfl];unfold cont;rw[if_neg (Nat.lt_irrefl _),if_pos rfl,List.length_append,List.length_singleton]
  .have ai:q.s≠q0.s:=λes=>by
    exact e (LS.slots_inj zp hq jG es)
   rw[zI,if_neg ai,a1.oL j q hq];unfold cont;rw[if_neg (show ¬j=Rs.length from e),if_neg (show ¬j=Rs.length from e)]
 .have new:SR.ok (h.new (pis x)) H.next (⟨h.next,cap,x⟩:SR):=⟨hf,by rw[qa,if_pos rfl],eZ,Nat.lt_succ_self _⟩
  rcases hq with hq|hq|hq
  .exact zBZ (a1.ok q (.inl hq)) bP.2
  .exact zBZ (a1.ok q (.inr (.inl hq))) bP.2
  .rcases List.mem_append.1 hq with hq|hq
   .exact zBZ (a1.ok q (.inr (.inr hq))) bP.2
   .rw[List.mem_singleton.1 hq];exact zBZ new bP.2
 .have hp:(ZU (rows++(Rs.flatten++(cur++[(⟨h.next,cap,x⟩:SR)])))).Perm (h.next::ZU (rows++(Rs.flatten++cur))):=by
   simp only[ZU,List.map_append,List.map_cons,List.map_nil];rw[<-List.append_assoc,<-List.append_assoc,List.append_assoc (List.map SR.s rows)];exact List.perm_append_singleton _ _
  exact hp.nodup_iff.2 (List.nodup_cons.2 ⟨a.fresh,a.nd⟩)
theorem LI.close(a:LI U H h tp sO sP sC vO capP capC n cO pc ls rows Rs cur)(hl:∀q,ls[Rs.length]? = some (some q)->cur.length=q.cs.length):LI U H h tp sO sP sC vO capP capC n cO pc ls rows (Rs++[cur]) []:=by
 refine⟨a.keep,a.nx,a.tpo,a.oO,a.oP,a.oC,λj q hq=>?_,λq hq=>a.ok q ?_,?_⟩
 .rw[a.oL j q hq];unfold cont;rw[List.length_append,List.length_singleton];rcases Nat.lt_trichotomy j Rs.length with x|x|x
  .rw[if_pos x,if_pos (by omega)];simp[List.getD_eq_getElem?_getD,List.getElem?_append_left x]
  .subst x;rw[if_neg (Nat.lt_irrefl _),if_pos rfl,if_pos (by omega),List.drop_of_length_le (by rw[hl q hq];exact vM _)];simp[List.getD_eq_getElem?_getD]
  .rw[if_neg (by omega),if_neg (by omega),if_neg (by omega)];split<;>simp
 .rcases hq with hq|hq|hq
  .exact .inl hq
  .simp only[List.flatten_append,List.flatten_cons,List.flatten_nil,List.append_nil,List.mem_append]at hq;exact .inr hq
  .cases hq
 .have:=a.nd
  simpa [List.flatten_append]using this
end Go.Proofs
namespace Go.Proofs
open Go.Ab Go.Lie
variable{H h:PHeap}{K:PV->PHeap->Prop}{n:Nat}{a:Nat->Nat}{b:Nat}{tp sO sP sC:Nat}{vO:PV}{pc:List PV}{ls:List (Option LS)}{O x:L3}{capO capP capC cap:Cap}{rows:List SR}{Rs:List (List SR)}
def lrT:Option LS->List SR->TR
 |none,_=>.nil
 |some q,R=>TR.rows q.s q.cap R
def Fit1:Option LS->List SR->Prop
 |none,R=>R=[]
 |some q,R=>R.length=q.cs.length
def Fits(ls:List (Option LS))(Rs:List (List SR)):Prop:=All2 Fit1 ls Rs
theorem Fits.tl{o:Option LS}{R:List SR}(h:Fits (o::ls) (R::Rs)):Fit1 o R/\Fits ls Rs:=
 ⟨h.2 0 o R rfl rfl,by have:=h.1;simpa using this,λk a b ha hb=>h.2 (k+1) a b (by simpa using ha) (by simpa using hb)⟩
theorem zH4:∀{ls:List (Option LS)} {Rs:List (List SR)},Fits ls Rs->TR.pvs (List.zipWith lrT ls Rs)=ls.map LS.pvo
 |[],[],_=>rfl
 |[],R::Rs,h=>by have:=h.1;simp at this
 |o::ls,[],h=>by have:=h.1;simp at this
 |none::ls,R::Rs,h=>by
  simp only[List.zipWith_cons_cons,TR.pvs,List.map_cons,zH4 h.tl.2];rfl
 |some q::ls,R::Rs,h=>by
  have hl:R.length=q.cs.length:=h.tl.1;simp only[List.zipWith_cons_cons,TR.pvs,List.map_cons,zH4 h.tl.2];simp only[lrT,TR.rows,TR.pv,LS.pvo,LS.pv,List.length_map,hl]
theorem zEm:∀{ls:List (Option LS)} {Rs:List (List SR)},Fits ls Rs->(TR.slotss (List.zipWith lrT ls Rs)).Perm (LS.slots ls++ZU Rs.flatten)
 |[],[],_=>List.Perm.refl _
 |[],R::Rs,h=>by have:=h.1;simp at this
 |o::ls,[],h=>by have:=h.1;simp at this
 |none::ls,R::Rs,h=>by
  have hR:R=[]:=h.tl.1;subst hR;simp only[List.zipWith_cons_cons,TR.slotss,lrT,TR.slots,List.nil_append,List.flatten_cons,LS.slots];exact zEm h.tl.2
 |some q::ls,R::Rs,h=>by
  have ih:=zEm h.tl.2;simp only[List.zipWith_cons_cons,TR.slotss,lrT,TR.rows,TR.slots,TR.rows_slots,List.flatten_cons,LS.slots,List.cons_append];refine List.Perm.cons _ ?_;have e:ZU (R++Rs.flatten)=ZU R++ZU Rs.flatten:=by simp[ZU]
  rw[e];refine((ih.append_left (ZU R)).trans ?_);rw[<-List.append_assoc,<-List.append_assoc];exact List.perm_append_comm.append_right _
theorem zNI:∀{ls:List (Option LS)} {Rs:List (List SR)},(∀(j:Nat) (o:Option LS) (R:List SR),ls[j]? = some o->Rs[j]? = some R->(lrT o R).ok h b)->TR.oks h b (List.zipWith lrT ls Rs)
 |[],_,_=>trivial
 |o::ls,[],_=>trivial
 |o::ls,R::Rs,k=>⟨k 0 o R rfl rfl,zNI λj o' R' h1 h2=>k (j+1) o' R' (by simpa using h1) (by simpa using h2)⟩
theorem zKW:∀{ls:List (Option LS)} {Rs:List (List SR)},Fits ls Rs->All2 FII (TR.fzs a (List.zipWith lrT ls Rs)) (Rs.map λR=>R.map SR.x)
 |[],[],_=>All2.nil _
 |[],R::Rs,h=>by have:=h.1;simp at this
 |o::ls,[],h=>by have:=h.1;simp at this
 |o::ls,R::Rs,h=>by
  have ih:=zKW h.tl.2;refine⟨by simp only[List.zipWith_cons_cons,TR.fzs,List.map_cons,List.length_cons,ih.1],λk c y hc hy=>?_⟩;cases k with
  |zero=>
   simp only[List.zipWith_cons_cons,TR.fzs,List.map_cons,List.getElem?_cons_zero,Option.some.injEq]at hc hy;rw[<-hc,<-hy];cases o with
   |none=>
    have hR:R=[]:=h.tl.1;subst hR;exact⟨true,.nils,[],rfl,All2.nil _⟩
   |some q=>exact TR.rows_FII
  |succ k=>
   simp only[List.zipWith_cons_cons,TR.fzs,List.map_cons,List.getElem?_cons_succ]at hc hy;exact ih.2 k c y hc hy
theorem LI.fin{σ0 T:PHeap}{Y:List PV}{res:Nat}(hT:Keep σ0 T)(cD:σ0.next<=res/\res<T.next)(B4:full 1 capO O.length)(B2:full 1 capP rows.length)(Cb:full 1 capC Rs.length)(C9:pc.length=rows.length)
  (rh:∀q,some q∈ls->full 1 q.cap q.cs.length) (bf:BF T H tp sO sP sC ls) (l:LI T H h tp sO sP sC vO capP capC n (pis O) pc ls rows Rs []) (hf:Fits ls Rs)
  (hk:∀vO vQ vC t,FI vO O->FII vQ (rows.map SR.x)->FIII vC (Rs.map λR=>R.map SR.x)->Own σ0.top t (.agg [vO,vQ,vC])->σ0.top<=t->K (.agg [vO,vQ,vC]) (σ0.up t)):
  Gh σ0 K (.agg [.sl sO 0 O.length capO,.sl sP 0 rows.length capP,.sl sC 0 Rs.length capC]) (h.set res Y):=by
 have iV:=hT.next;have bO:=bf.b sO (by simp);have bP:=bf.b sP (by simp);have bC:=bf.b sC (by simp);have oi:=l.nx;have hlen:ls.length=Rs.length:=hf.1;have eQ:(List.zipWith lrT ls Rs).length=Rs.length:=by rw[List.length_zipWith];omega
 have e:(TR.agg [TR.row sO capO O,TR.rows sP capP rows,.lst sC capC (List.zipWith lrT ls Rs)]).pv=.agg [.sl sO 0 O.length capO,.sl sP 0 rows.length capP,.sl sC 0 Rs.length capC]:=by
  simp only[TR.pv,TR.pvs,TR.row_pv,TR.rows,List.length_map,eQ]
 rw[<-e];have ob:∀s,s≠res->(h.set res Y).obj s=h.obj s:=λs hs=>by rw[zI,if_neg hs]
 have rok:∀q:SR,q.ok h H.next->q.ok (h.set res Y) σ0.next:=λq ⟨g1,g2,g3,g4⟩=>⟨g1,by rw[ob _ (by have:=(bf.b sO (by simp));omega)];exact g2,by have:=(bf.b sO (by simp));omega,g4⟩
 have y7:∀q∈rows,q.ok (h.set res Y) σ0.next:=λq hq=>rok q (l.ok q (.inl hq));refine Gh.treeO ((hT.trans l.keep).set cD.1 _) ⟨TR.row_ok B4 (by rw[ob _ (by omega)];exact l.oO) (by omega) (by show sO<h.next;omega),TR.rows_ok B2 (by rw[ob _ (by omega),l.oP,List.drop_of_length_le (by omega),List.append_nil]) (by omega) (by show sP<h.next;omega) y7,⟨⟨by rw[eQ];exact Cb,by rw[ob _ (by omega),l.oC,zH4 hf],by omega,by show sC<h.next;omega⟩,zNI λj o R ho hR=>?_⟩,trivial⟩ ?_ λa T' g1 g2=>?_
 .cases o with
  |none=>trivial
  |some q=>
   have hm:=LS.mem_of_get ho;have bq:=bf.b q.s (List.mem_append.2 (.inr hm));have mf:R.length=q.cs.length:=hf.2 j _ _ ho hR;obtain⟨hj,jr⟩:=List.getElem?_eq_some_iff.1 hR;refine TR.rows_ok (by rw[mf];exact rh q (List.mem_of_getElem? ho)) ?_ (by omega) (by show q.s<h.next;omega) λq' cJ=>rok q' (l.ok q' (.inr (.inl (List.mem_flatten.2 ⟨R,List.mem_of_getElem? hR,cJ⟩))));rw[ob _ (by omega),l.oL j q ho];unfold cont;rw[if_pos hj,List.getD_eq_getElem?_getD,hR];rfl
 .have nd:=bf.nd;have nr:=l.nd;rw[List.append_nil]at nr;have hp:((TR.agg [TR.row sO capO O,TR.rows sP capP rows,.lst sC capC (List.zipWith lrT ls Rs)]).slots).Perm (([sO,sP,sC]++LS.slots ls)++ZU (rows++Rs.flatten)):=by
   have e2:ZU (rows++Rs.flatten)=ZU rows++ZU Rs.flatten:=by simp[ZU]
   simp only[TR.slots,TR.slotss,TR.row_slots,TR.rows,TR.rows_slots,List.append_nil,List.cons_append,List.nil_append,e2];refine List.Perm.cons _ (List.Perm.cons _ ?_);have h3:=(zEm hf).cons sC |>.append_left (ZU rows);refine h3.trans ?_;simp only[<-List.cons_append];rw[<-List.append_assoc,<-List.append_assoc];exact List.perm_append_comm.append_right _
  refine hp.nodup_iff.2 (List.nodup_append.2 ⟨?_,nr,λx hx y hy e=>?_⟩)
  .simp only[List.cons_append,List.nil_append,List.nodup_cons]at nd ⊢;exact nd.2
  .have h1:=(bf.b x (by simp only[List.cons_append,List.nil_append,List.mem_cons]at hx ⊢;exact .inr hx)).2;obtain⟨q,hq,e3⟩:=List.mem_map.1 hy;have h2:=(l.ok q (by rcases List.mem_append.1 hq with hq|hq;exact .inl hq;exact .inr (.inl hq))).2.2.1;omega
 .exact hk _ _ _ T' TR.row_FI TR.rows_FII ⟨true,.sl (a sC) 0 Rs.length capC,TR.fzs a (List.zipWith lrT ls Rs),by simp only[TR.fz,eQ,List.length_map],zKW hf⟩ g1 g2
end Go.Proofs
namespace Go.Proofs
open Go.Ab Go.Lie
variable{p:Int}{n:Nat}{W:L4}{B:L5}{c k:Nat}{f g h:Vec}
theorem zAi(f g g':Vec)(t:Nat):brv B n f (λj=>g j+g' j) t=brv B n f g t+brv B n f g' t:=by
 rw[zm,QS,zm g f,zm g' f];grind
theorem zLt(f g:Vec)(t:Nat):brv B n f g t=sumN n λk=>f k*brv B n (at_ (unitL n k)) g t:=by
 rw[zm,zB7 f g,<-Z6];refine qw λk hk=>?_;rw[zm g (at_ (unitL n k))];grind
theorem Qg{f f' g g':Vec}(h:∀j,f j=f' j)(h':∀j,g j=g' j)(t:Nat):brv B n f g t=brv B n f' g' t:=zA0 (λj _=>h j) (λj _=>h' j) t
def jac(B:L5)(n:Nat)(f g h:Vec):Vec:=λt=>brv B n (brv B n f g) h t+brv B n (brv B n g h) f t+brv B n (brv B n h f) g t
theorem zKY(f g h:Vec)(t:Nat):jac B n f g h t=jac B n g h f t:=by
 simp only[jac];omega
theorem zE0(f g h:Vec)(t:Nat):brv B n (brv B n f g) h t=-1*brv B n (brv B n g f) h t:=by
 rw[Qg (f':=λj=>-1*brv B n g f j) (g':=h) (λj=>zm f g j) (λ_=>rfl),ZG]
theorem zIC(f g h:Vec)(t:Nat):jac B n f g h t=-1*jac B n g f h t:=by
 simp only[jac];rw[zE0 f g,zE0 g h,zE0 h f];omega
theorem zPA(f h:Vec)(t:Nat):jac B n f f h t=0:=by
 have:=zIC (B:=B) (n:=n) f f h t
 omega
theorem zQz(f g h:Vec)(t:Nat):jac B n f g h t=sumN n λk=>f k*jac B n (at_ (unitL n k)) g h t:=by
 simp only[jac];rw[Qg (f':=λj=>sumN n λk=>f k*brv B n (at_ (unitL n k)) g j) (g':=h) (λj=>zLt f g j) (λ_=>rfl),zBT (t:=t) (g:=h) n (λk j=>f k*brv B n (at_ (unitL n k)) g j),
  zB7 f (brv B n g h),Qg (f':=λj=>sumN n λk=>f k*brv B n h (at_ (unitL n k)) j) (g':=g) (λj=>zB7 f h j) (λ_=>rfl),zBT (t:=t) (g:=g) n (λk j=>f k*brv B n h (at_ (unitL n k)) j),<-Qr,<-Qr]
 refine qw λk hk=>?_;rw[ZG,ZG];grind
theorem zID(hu:∀k,k<n->Eqv p n W (jac B n (at_ (unitL n k)) g h) λ_=>0):Eqv p n W (jac B n f g h) λ_=>0:=
 (Eqv.of_eq λt=>zQz f g h t).trans (zCv n (λk t=>f k*jac B n (at_ (unitL n k)) g h t) λk hk=>((hu k hk).mul (f k)).trans (Eqv.of_eq λt=>by grind))
theorem zAg(o:OkW p n W)(q:OkB p n B)(nf:Zm p W B n){i j k:Nat}(jT:i<j)(nU:j<k)(hk:k<n):Eqv p n W (jac B n (at_ (unitL n i)) (at_ (unitL n j)) (at_ (unitL n k))) λ_=>0:=by
 have h:=nf.2 i j k jT nU hk;unfold F2 at h;have e:∀a b c:L3,Eqv p n W (at_ (br p W B n (br p W B n a b) c)) (brv B n (brv B n (at_ a) (at_ b)) (at_ c)):=λa b c=>(QT o q _ _).trans (zBU o q nf _ (QT o q a b));have ev2:=(((Ze o (zH o (br_el o q) (br_el o q)) (br_el o q)).symm.trans (Eqv.of_eq (QG h))));refine Eqv.trans ?_ ev2;refine(Eqv.of_eq λt=>rfl).trans (Eqv.add (Eqv.trans ?_ (Ze o (br_el o q) (br_el o q)).symm) (e _ _ _).symm);exact Eqv.add (e _ _ _).symm (e _ _ _).symm
theorem zNY(o:OkW p n W)(q:OkB p n B)(nf:Zm p W B n){i j k:Nat}(hi:i<n)(hj:j<n)(hk:k<n):Eqv p n W (jac B n (at_ (unitL n i)) (at_ (unitL n j)) (at_ (unitL n k))) λ_=>0:=by
 have gu:∀{a b c:Vec},Eqv p n W (jac B n b c a) (λ_=>0)->Eqv p n W (jac B n a b c) λ_=>0:=λh=>(Eqv.of_eq λt=>zKY _ _ _ t).trans h;have swp:∀{a b c:Vec},Eqv p n W (jac B n b a c) (λ_=>0)->Eqv p n W (jac B n a b c) λ_=>0:=λh=>(Eqv.of_eq λt=>zIC _ _ _ t).trans ((h.mul (-1)).trans (Eqv.of_eq λt=>rfl));have ov:∀{a c:Vec},Eqv p n W (jac B n a a c) (λ_=>0):=Eqv.of_eq λt=>zPA _ _ t;rcases Nat.lt_trichotomy i j with h1|rfl|h1
 .rcases Nat.lt_trichotomy j k with h2|rfl|h2
  .exact zAg o q nf h1 h2 hk
  .exact gu ov
  .rcases Nat.lt_trichotomy i k with h3|rfl|h3
   .exact gu (swp (gu (gu (zAg o q nf h3 h2 hj))))
   .exact gu (gu ov)
   .exact gu (gu (zAg o q nf h3 h1 hj))
 .exact ov
 .rcases Nat.lt_trichotomy j k with h2|rfl|h2
  .rcases Nat.lt_trichotomy i k with h3|rfl|h3
   .exact swp (zAg o q nf h1 h3 hk)
   .exact gu (gu ov)
   .exact gu (zAg o q nf h2 h3 hi)
  .exact gu ov
  .exact swp (gu (gu (zAg o q nf h2 h1 hi)))
theorem zIB(o:OkW p n W)(q:OkB p n B)(nf:Zm p W B n)(f g h:Vec):Eqv p n W (jac B n f g h) λ_=>0:=by
 have gu:∀{a b c:Vec},Eqv p n W (jac B n b c a) (λ_=>0)->Eqv p n W (jac B n a b c) λ_=>0:=λh=>(Eqv.of_eq λt=>zKY _ _ _ t).trans h;refine zID λi hi=>gu (zID λj hj=>gu (zID λk hk=>gu ?_));exact zNY o q nf hi hj hk
theorem Rg.brk3(r:Rg p n W B c)(hh:Lw p n W B k h)(f g:Vec):Lw p n W B (k+2) (brv B n (brv B n f g) h):=by
 have h1:=r.brk2 (r.brk2 hh g) f;have h2:=r.brk2 (r.brk2 hh f) g;refine(r.sub _).eqv _ _ ?_ ((r.sub _).add _ _ h1 ((r.sub _).mul (-1) _ h2));have h0:=zIB r.o r.q r.nf f g h;refine(Eqv.of_eq λt=>?_).trans ((((Eqv.refl (λt=>brv B n f (brv B n g h) t + -1*brv B n g (brv B n f h) t)).add h0)).trans (Eqv.of_eq λt=>by omega));simp only[jac];have ev1:=zm (B:=B) (n:=n) (brv B n g h) f t;have ev2:=zm (B:=B) (n:=n) (brv B n h f) g t;have ev3:brv B n g (brv B n h f) t=-1*brv B n g (brv B n f h) t:=by
  rw[Qg (f':=g) (g':=λj=>-1*brv B n f h j) (λ_=>rfl) (λj=>zm h f j),Qf]
 omega
section
variable{X Y Z:Vec}
def ev1(X Y Z:Vec)(a:L3):Vec:=λt=>at_ a 0*X t+at_ a 1*Y t+at_ a 2*Z t
def ev2(B:L5)(n:Nat)(X Y Z:Vec)(a:L3):Vec:=λt=>at_ a 3*brv B n X Y t+at_ a 4*brv B n X Z t+at_ a 5*brv B n Y Z t
def ev3(B:L5)(n:Nat)(X Y Z:Vec)(a:L3):Vec:=λt=>
 at_ a 6*brv B n X (brv B n X Y) t+at_ a 7*brv B n Y (brv B n X Y) t+at_ a 8*brv B n Z (brv B n X Y) t+at_ a 9*brv B n X (brv B n X Z) t
 + at_ a 10*brv B n Y (brv B n X Z) t+at_ a 11*brv B n Z (brv B n X Z) t+at_ a 12*brv B n Y (brv B n Y Z) t+at_ a 13*brv B n Z (brv B n Y Z) t
def evv(B:L5)(n:Nat)(X Y Z:Vec)(a:L3):Vec:=λt=>ev1 X Y Z a t+(ev2 B n X Y Z a t+ev3 B n X Y Z a t)
def tbl(a b:L3):L3:=
  [0,0,0,at_ a 0*at_ b 1-at_ a 1*at_ b 0,at_ a 0*at_ b 2-at_ a 2*at_ b 0,at_ a 1*at_ b 2-at_ a 2*at_ b 1,
   at_ a 0*at_ b 3-at_ b 0*at_ a 3,at_ a 1*at_ b 3-at_ b 1*at_ a 3,at_ a 2*at_ b 3-at_ a 0*at_ b 5-(at_ b 2*at_ a 3-at_ b 0*at_ a 5),
   at_ a 0*at_ b 4-at_ b 0*at_ a 4,at_ a 1*at_ b 4+at_ a 0*at_ b 5-(at_ b 1*at_ a 4+at_ b 0*at_ a 5),at_ a 2*at_ b 4-at_ b 2*at_ a 4,
   at_ a 1*at_ b 5-at_ b 1*at_ a 5,at_ a 2*at_ b 5-at_ b 2*at_ a 5]
theorem zDh(a b:L3):at_ (tbl a b) 0=0/\at_ (tbl a b) 1=0/\at_ (tbl a b) 2=0/\at_ (tbl a b) 3=at_ a 0*at_ b 1-at_ a 1*at_ b 0/\at_ (tbl a b) 4=at_ a 0*at_ b 2-at_ a 2*at_ b 0
  /\at_ (tbl a b) 5=at_ a 1*at_ b 2-at_ a 2*at_ b 1/\at_ (tbl a b) 6=at_ a 0*at_ b 3-at_ b 0*at_ a 3/\at_ (tbl a b) 7=at_ a 1*at_ b 3-at_ b 1*at_ a 3
  /\at_ (tbl a b) 8=at_ a 2*at_ b 3-at_ a 0*at_ b 5-(at_ b 2*at_ a 3-at_ b 0*at_ a 5)/\at_ (tbl a b) 9=at_ a 0*at_ b 4-at_ b 0*at_ a 4
  /\at_ (tbl a b) 10=at_ a 1*at_ b 4+at_ a 0*at_ b 5-(at_ b 1*at_ a 4+at_ b 0*at_ a 5)/\at_ (tbl a b) 11=at_ a 2*at_ b 4-at_ b 2*at_ a 4
  /\at_ (tbl a b) 12=at_ a 1*at_ b 5-at_ b 1*at_ a 5/\at_ (tbl a b) 13=at_ a 2*at_ b 5-at_ b 2*at_ a 5:=⟨rfl,rfl,rfl,rfl,rfl,rfl,rfl,rfl,rfl,rfl,rfl,rfl,rfl,rfl⟩
theorem zNp(a:L3)(g:Vec)(t:Nat):brv B n (ev1 X Y Z a) g t=at_ a 0*brv B n X g t+at_ a 1*brv B n Y g t+at_ a 2*brv B n Z g t:=by
 unfold ev1;rw[QS,QS,ZG,ZG,ZG]
theorem zSJ(a:L3)(g:Vec)(t:Nat):brv B n g (ev1 X Y Z a) t=at_ a 0*brv B n g X t+at_ a 1*brv B n g Y t+at_ a 2*brv B n g Z t:=by
 unfold ev1;rw[zAi,zAi,Qf,Qf,Qf]
theorem zSI(a:L3)(g:Vec)(t:Nat):brv B n g (ev2 B n X Y Z a) t=at_ a 3*brv B n g (brv B n X Y) t+at_ a 4*brv B n g (brv B n X Z) t+at_ a 5*brv B n g (brv B n Y Z) t:=by
 unfold ev2;rw[zAi,zAi,Qf,Qf,Qf]
theorem zSD(a:L3)(g:Vec)(t:Nat):brv B n (ev2 B n X Y Z a) g t=at_ a 3*brv B n (brv B n X Y) g t+at_ a 4*brv B n (brv B n X Z) g t+at_ a 5*brv B n (brv B n Y Z) g t:=by
 unfold ev2;rw[QS,QS,ZG,ZG,ZG]
theorem br11(a b:L3)(t:Nat):brv B n (ev1 X Y Z a) (ev1 X Y Z b) t=ev2 B n X Y Z (tbl a b) t:=by
 simp only[zNp,zSJ,zIj,zm (B:=B) (n:=n) Y X,zm (B:=B) (n:=n) Z X,zm (B:=B) (n:=n) Z Y,ev2];obtain⟨_,_,_,h3,h4,h5,_⟩:=zDh a b;rw[h3,h4,h5];grind
theorem br123(a b:L3)(t:Nat):brv B n (ev1 X Y Z a) (ev2 B n X Y Z b) t+brv B n (ev2 B n X Y Z a) (ev1 X Y Z b) t
  = ev3 B n X Y Z (tbl a b) t+(at_ b 0*at_ a 5-at_ a 0*at_ b 5)*jac B n Z X Y t:=by
 rw[zm (ev2 B n X Y Z a)];simp only[zNp,zSI,ev3,jac];obtain⟨_,_,_,_,_,_,h6,h7,h8,h9,om,xb,oj,wZ⟩:=zDh a b;rw[h6,h7,h8,h9,om,xb,oj,wZ,zm (brv B n Z X),zm (brv B n X Y),zm (brv B n Y Z),
  Qg (f:=Y) (f':=Y) (g':=λj=>-1*brv B n X Z j) (λ_=>rfl) (λj=>zm Z X j),Qf]
 grind
theorem Rg.e1_lw(r:Rg p n W B c)(hX:Lw p n W B 0 X)(hY:Lw p n W B 0 Y)(hZ:Lw p n W B 0 Z)(a:L3):Lw p n W B 0 (ev1 X Y Z a):=
 (r.sub 0).add _ _ ((r.sub 0).add _ _ ((r.sub 0).mul _ _ hX) ((r.sub 0).mul _ _ hY)) ((r.sub 0).mul _ _ hZ)
theorem Rg.e2_lw(r:Rg p n W B c)(hY:Lw p n W B 0 Y)(hZ:Lw p n W B 0 Z)(a:L3):Lw p n W B 1 (ev2 B n X Y Z a):=
 (r.sub 1).add _ _ ((r.sub 1).add _ _ ((r.sub 1).mul _ _ (r.brk2 hY _)) ((r.sub 1).mul _ _ (r.brk2 hZ _))) ((r.sub 1).mul _ _ (r.brk2 hZ _))
theorem Rg.e3_lw(r:Rg p n W B c)(hY:Lw p n W B 0 Y)(hZ:Lw p n W B 0 Z)(a:L3):Lw p n W B 2 (ev3 B n X Y Z a):=by
 have b2:∀{e f g:Vec},Lw p n W B 0 g->Lw p n W B 2 (brv B n e (brv B n f g)):=λh=>r.brk2 (r.brk2 h _) _;have s:=r.sub 2;exact s.add _ _ (s.add _ _ (s.add _ _ (s.add _ _ (s.add _ _ (s.add _ _ (s.add _ _ (s.mul _ _ (b2 hY)) (s.mul _ _ (b2 hY))) (s.mul _ _ (b2 hY))) (s.mul _ _ (b2 hZ))) (s.mul _ _ (b2 hZ))) (s.mul _ _ (b2 hZ))) (s.mul _ _ (b2 hZ))) (s.mul _ _ (b2 hZ))
theorem Rg.evv_brv(r:Rg p n W B c)(hc:c<=3)(hX:Lw p n W B 0 X)(hY:Lw p n W B 0 Y)(hZ:Lw p n W B 0 Z)(a b:L3):
  Eqv p n W (brv B n (evv B n X Y Z a) (evv B n X Y Z b)) (evv B n X Y Z (tbl a b)):=by
 have s:=λk=>r.sub k;have l1:=λa=>r.e1_lw hX hY hZ a;have l2:=λa=>r.e2_lw (X:=X) hY hZ a;have l3:=λa=>r.e3_lw (X:=X) hY hZ a;have z3:∀{f:Vec},Lw p n W B 3 f->Eqv p n W f λ_=>0:=λh=>r.top hc h;have y1:Eqv p n W (brv B n (ev3 B n X Y Z a) (evv B n X Y Z b)) λ_=>0:=z3 (r.brk (l3 a) _);have y2:Eqv p n W (brv B n (ev1 X Y Z a) (ev3 B n X Y Z b)) λ_=>0:=z3 (r.brk2 (l3 b) _);have y4:Eqv p n W (brv B n (ev2 B n X Y Z a) (λj=>ev2 B n X Y Z b j+ev3 B n X Y Z b j)) λ_=>0:=by
  have hl:Lw p n W B 1 (λj=>ev2 B n X Y Z b j+ev3 B n X Y Z b j):=(s 1).add _ _ (l2 b) (r.down (l3 b));refine z3 ((s 3).eqv _ _ (Eqv.of_eq λt=>zSD a _ t) ?_);exact(s 3).add _ _ ((s 3).add _ _ ((s 3).mul _ _ (r.brk3 hl _ _)) ((s 3).mul _ _ (r.brk3 hl _ _))) ((s 3).mul _ _ (r.brk3 hl _ _))
 have yj:=(zIB r.o r.q r.nf Z X Y).mul (at_ b 0*at_ a 5-at_ a 0*at_ b 5);have all:=((y1.add y2).add y4).add yj;refine(Eqv.of_eq λt=>?_).trans (((Eqv.refl (evv B n X Y Z (tbl a b))).add all).trans (Eqv.of_eq λt=>by simp));have q1:=br11 (B:=B) (n:=n) (X:=X) (Y:=Y) (Z:=Z) a b t;have q2:=br123 (B:=B) (n:=n) (X:=X) (Y:=Y) (Z:=Z) a b t;have q3:brv B n (evv B n X Y Z a) (evv B n X Y Z b) t=brv B n (ev1 X Y Z a) (evv B n X Y Z b) t+(brv B n (ev2 B n X Y Z a) (evv B n X Y Z b) t+brv B n (ev3 B n X Y Z a) (evv B n X Y Z b) t):=by
  rw[show evv B n X Y Z a=λj=>ev1 X Y Z a j+(λj=>ev2 B n X Y Z a j+ev3 B n X Y Z a j) j from rfl,QS,QS]
 have q4:∀f:Vec,brv B n f (evv B n X Y Z b) t=brv B n f (ev1 X Y Z b) t+brv B n f (λj=>ev2 B n X Y Z b j+ev3 B n X Y Z b j) t:=λf=>by
  rw[show evv B n X Y Z b=λj=>ev1 X Y Z b j+(λj=>ev2 B n X Y Z b j+ev3 B n X Y Z b j) j from rfl,zAi]
 have q5:∀f:Vec,brv B n f (λj=>ev2 B n X Y Z b j+ev3 B n X Y Z b j) t=brv B n f (ev2 B n X Y Z b) t+brv B n f (ev3 B n X Y Z b) t:=λf=>zAi _ _ _ t;have q6:=q4 (ev1 X Y Z a);have q7:=q4 (ev2 B n X Y Z a);have q8:=q5 (ev1 X Y Z a);have q9:ev1 X Y Z (tbl a b) t=0:=by
  obtain⟨h0,h1,h2,_⟩:=zDh a b;simp only[ev1];rw[h0,h1,h2];omega
 have CQ:evv B n X Y Z (tbl a b) t=ev1 X Y Z (tbl a b) t+(ev2 B n X Y Z (tbl a b) t+ev3 B n X Y Z (tbl a b) t):=rfl;omega
end
end Go.Proofs
namespace Go.Proofs
open Go.Ab Go.Lie
variable{p:Int}{n m:Nat}{W:L4}{B:L5}{c:Nat}{X Y Z:Vec}{a b:L3}{x y:L3}
def kadd(a b:L3):L3:=[at_ a 0+at_ b 0,at_ a 1+at_ b 1,at_ a 2+at_ b 2,at_ a 3+at_ b 3,at_ a 4+at_ b 4,at_ a 5+at_ b 5,at_ a 6+at_ b 6,at_ a 7+at_ b 7,at_ a 8+at_ b 8,at_ a 9+at_ b 9,at_ a 10+at_ b 10,at_ a 11+at_ b 11,at_ a 12+at_ b 12,at_ a 13+at_ b 13]
def kmul(k:Int)(a:L3):L3:=[k*at_ a 0,k*at_ a 1,k*at_ a 2,k*at_ a 3,k*at_ a 4,k*at_ a 5,k*at_ a 6,k*at_ a 7,k*at_ a 8,k*at_ a 9,k*at_ a 10,k*at_ a 11,k*at_ a 12,k*at_ a 13]
def kdiv(a:L3)(k:Int):L3:=[at_ a 0 / k,at_ a 1 / k,at_ a 2 / k,at_ a 3 / k,at_ a 4 / k,at_ a 5 / k,at_ a 6 / k,at_ a 7 / k,at_ a 8 / k,at_ a 9 / k,at_ a 10 / k,at_ a 11 / k,at_ a 12 / k,at_ a 13 / k]
theorem at_lt{f:Nat->Int}{l:L3}(h0:at_ l 0=f 0/\at_ l 1=f 1/\at_ l 2=f 2/\at_ l 3=f 3/\at_ l 4=f 4/\at_ l 5=f 5/\at_ l 6=f 6/\at_ l 7=f 7/\at_ l 8=f 8/\at_ l 9=f 9/\at_ l 10=f 10/\at_ l 11=f 11/\at_ l 12=f 12/\at_ l 13=f 13):∀i,i<14->at_ l i=f i:=λi hi=>by
 obtain⟨h0,h1,h2,h3,h4,h5,h6,h7,h8,h9,om,xb,oj,wZ⟩:=h0
 match i,hi with
 |0,_=>exact h0
 |1,_=>exact h1
 |2,_=>exact h2
 |3,_=>exact h3
 |4,_=>exact h4
 |5,_=>exact h5
 |6,_=>exact h6
 |7,_=>exact h7
 |8,_=>exact h8
 |9,_=>exact h9
 |10,_=>exact om
 |11,_=>exact xb
 |12,_=>exact oj
 |13,_=>exact wZ
theorem zKm(a b:L3):∀i,i<14->at_ (kadd a b) i=at_ a i+at_ b i:=at_lt (f:=λi=>at_ a i+at_ b i) ⟨rfl,rfl,rfl,rfl,rfl,rfl,rfl,rfl,rfl,rfl,rfl,rfl,rfl,rfl⟩
theorem zGY(k:Int)(a:L3):∀i,i<14->at_ (kmul k a) i=k*at_ a i:=at_lt (f:=λi=>k*at_ a i) ⟨rfl,rfl,rfl,rfl,rfl,rfl,rfl,rfl,rfl,rfl,rfl,rfl,rfl,rfl⟩
theorem zGZ(k:Int)(a:L3):∀i,i<14->at_ (kdiv a k) i=at_ a i / k:=at_lt (f:=λi=>at_ a i / k) ⟨rfl,rfl,rfl,rfl,rfl,rfl,rfl,rfl,rfl,rfl,rfl,rfl,rfl,rfl⟩
theorem zQ9(t:Nat):evv B n X Y Z (kadd a b) t=evv B n X Y Z a t+evv B n X Y Z b t:=by
 have h:=zKm a b;simp only[evv,ev1,ev2,ev3];rw[h 0 (by omega),h 1 (by omega),h 2 (by omega),h 3 (by omega),h 4 (by omega),h 5 (by omega),h 6 (by omega),h 7 (by omega),h 8 (by omega),h 9 (by omega),h 10 (by omega),h 11 (by omega),h 12 (by omega),h 13 (by omega)];grind
theorem zKd(k:Int)(t:Nat):evv B n X Y Z (kmul k a) t=k*evv B n X Y Z a t:=by
 have h:=zGY k a;simp only[evv,ev1,ev2,ev3];rw[h 0 (by omega),h 1 (by omega),h 2 (by omega),h 3 (by omega),h 4 (by omega),h 5 (by omega),h 6 (by omega),h 7 (by omega),h 8 (by omega),h 9 (by omega),h 10 (by omega),h 11 (by omega),h 12 (by omega),h 13 (by omega)];grind
structure Md(p:Int)(c m:Nat):Prop where
 c3:c<=3
 cut:m=14\/(m=6/\c<=2)\/(m=3/\c<=1)
 d2:m<=3\/(Cop p 2/\Cop p (-2))
 d12:m<=6\/(Cop p 12/\Cop p (-12))
structure Cx(p:Int)(n:Nat)(W:L4)(B:L5)(c m:Nat)(X Y Z:Vec):Prop where
 z:Lz p n W B c
 md:Md p c m
 x:Lw p n W B 0 X
 y:Lw p n W B 0 Y
 w:Lw p n W B 0 Z
structure EV(p:Int)(n:Nat)(W:L4)(B:L5)(X Y Z:Vec)(a x:L3):Prop where
 el:El p n x
 eqv:Eqv p n W (at_ x) (evv B n X Y Z a)
theorem Cx.cut(k:Cx p n W B c m X Y Z)(h:∀i,i<m->at_ a i=at_ b i):Eqv p n W (evv B n X Y Z a) (evv B n X Y Z b):=by
 have r:=k.z.r;rcases k.md.cut with rfl|⟨rfl,hc⟩|⟨rfl,hc⟩
 .refine Eqv.of_eq λt=>?_;simp only[evv,ev1,ev2,ev3];rw[h 0 (by omega),h 1 (by omega),h 2 (by omega),h 3 (by omega),h 4 (by omega),h 5 (by omega),h 6 (by omega),h 7 (by omega),h 8 (by omega),h 9 (by omega),h 10 (by omega),h 11 (by omega),h 12 (by omega),h 13 (by omega)]
 .have h3:∀a,Eqv p n W (ev3 B n X Y Z a) λ_=>0:=λa=>r.top hc (r.e3_lw k.y k.w a);refine(((Eqv.refl (ev1 X Y Z a)).add ((Eqv.refl (ev2 B n X Y Z a)).add (h3 a))).trans (Eqv.of_eq λt=>?_)).trans ((Eqv.refl (ev1 X Y Z b)).add ((Eqv.refl (ev2 B n X Y Z b)).add (h3 b))).symm;simp only[ev1,ev2];rw[h 0 (by omega),h 1 (by omega),h 2 (by omega),h 3 (by omega),h 4 (by omega),h 5 (by omega)]
 .have h3:∀a,Eqv p n W (ev3 B n X Y Z a) λ_=>0:=λa=>r.top (by omega) (r.e3_lw k.y k.w a);have h2:∀a,Eqv p n W (ev2 B n X Y Z a) λ_=>0:=λa=>r.top (by omega) (r.e2_lw k.y k.w a);refine(((Eqv.refl (ev1 X Y Z a)).add ((h2 a).add (h3 a))).trans (Eqv.of_eq λt=>?_)).trans ((Eqv.refl (ev1 X Y Z b)).add ((h2 b).add (h3 b))).symm;simp only[ev1];rw[h 0 (by omega),h 1 (by omega),h 2 (by omega)]
theorem zR7(k:Cx p n W B c m X Y Z)(a:L3):Lw p n W B 0 (evv B n X Y Z a):=
 (k.z.r.sub 0).add _ _ (k.z.r.e1_lw k.x k.y k.w a) ((k.z.r.sub 0).add _ _ (k.z.r.le (by omega) (k.z.r.e2_lw k.y k.w a)) (k.z.r.le (by omega) (k.z.r.e3_lw k.y k.w a)))
theorem zR8(k:Cx p n W B c m X Y Z)(a:L3):∃z,EV p n W B X Y Z a z:=by
 obtain⟨u,hu,hg⟩:=zR7 k a;obtain⟨z,h1,h2,_⟩:=zKa k.z.r.o (hu.els k.z.r.o).1 hg;exact⟨z,h1,h2.symm⟩
theorem EV.same(k:Cx p n W B c m X Y Z)(h:EV p n W B X Y Z a x)(g:EV p n W B X Y Z b y)(e:∀i,i<m->at_ a i=at_ b i):x=y:=
 ZZ k.z.r.o h.el.1 g.el.1 h.el.2 g.el.2 (h.eqv.trans ((k.cut e).trans g.eqv.symm))
theorem EV.to(k:Cx p n W B c m X Y Z)(h:EV p n W B X Y Z a x)(e:∀i,i<m->at_ a i=at_ b i):EV p n W B X Y Z b x:=⟨h.el,h.eqv.trans (k.cut e)⟩
theorem EV.add(k:Cx p n W B c m X Y Z)(h:EV p n W B X Y Z a x)(g:EV p n W B X Y Z b y):EV p n W B X Y Z (kadd a b) (ladd p W x y):=
 ⟨zH k.z.r.o h.el g.el,(Ze k.z.r.o h.el g.el).trans ((h.eqv.add g.eqv).trans (Eqv.of_eq λt=>(zQ9 t).symm))⟩
theorem EV.mul(k:Cx p n W B c m X Y Z)(h:EV p n W B X Y Z a x)(q:Int):EV p n W B X Y Z (kmul q a) (lmul p W q x):=
 ⟨zH k.z.r.o h.el h.el,(Zk k.z.r.o h.el q).trans ((h.eqv.mul q).trans (Eqv.of_eq λt=>(zKd q t).symm))⟩
theorem EV.brk(k:Cx p n W B c m X Y Z)(h:EV p n W B X Y Z a x)(g:EV p n W B X Y Z b y):EV p n W B X Y Z (tbl a b) (br p W B n x y):=
 ⟨br_el k.z.r.o k.z.r.q,(QT k.z.r.o k.z.r.q x y).trans (((zBU k.z.r.o k.z.r.q k.z.r.nf _ h.eqv).trans (zIk k.z.r.o k.z.r.q k.z.r.nf _ g.eqv)).trans (k.z.r.evv_brv k.md.c3 k.x k.y k.w a b))⟩
theorem dv_of(o:OkW p n W){k:Int}{x z:L3}(hk:Cop p k)(hx:El p n x)(hz:El p n z)(h:Eqv p n W (λj=>k*at_ z j) (at_ x)):z=dv p n W k x:=by
 refine dv_eq o hx ⟨hz,λh0=>?_,λ_=>h⟩ (.inr hk);rcases Nat.eq_zero_or_pos n with hn|hn
 .have ev1:=hz.1;have ev2:=hx.1;rw[List.eq_nil_of_length_eq_zero (ev1.trans hn),List.eq_nil_of_length_eq_zero (ev2.trans hn)]
 .obtain⟨a,w,ha⟩:=zBS (p:=p) hk hn;have e:Eqv p n W (λj=>k*at_ z j) (λj=>0):=h.trans (Eqv.of_eq (QG h0));have k1:=(zAf o (f:=at_ z) (λj hj=>hz.beyond hj)).mul w;have k2:=(Eqv.refl (p:=p) (n:=n) (W:=W) (at_ z)).add k1;have ev3:Eqv p n W (at_ z) (at_ x):=(((Eqv.of_eq λj=>(by omega)).trans k2.symm).trans (Eqv.of_eq λj=>(by grind))).trans ((e.mul a).trans (Eqv.of_eq λj=>(by rw[QG h0,Int.mul_zero])));exact ZZ o hz.1 hx.1 hz.2 hx.2 ev3
theorem EV.div(k:Cx p n W B c m X Y Z)(h:EV p n W B X Y Z a x){q:Int}(e:∀i,i<m->at_ a i=q*at_ b i)(hq:Cop p q):EV p n W B X Y Z b (dv p n W q x):=by
 obtain⟨w,hw⟩:=zR8 k b;rw[<-dv_of k.z.r.o hq h.el hw.el]
 .exact hw
 .refine((hw.eqv.mul q).trans (Eqv.of_eq λt=>(zKd q t).symm)).trans ((k.cut λi hi=>?_).trans h.eqv.symm);have hm:m<=14:=by rcases k.md.cut with h|h|h<;>omega
  rw[zGY q b i (by omega),e i hi]
theorem EV.divZ(k:Cx p n W B c m X Y Z)(h:EV p n W B X Y Z a x){q:Int}(e:∀i,i<m->at_ a i=0):EV p n W B X Y Z a (dv p n W q x):=by
 have h0:isZ x:=QL k.z.r.o h.el (h.eqv.trans ((k.cut (b:=[]) λi hi=>e i hi).trans (Eqv.of_eq λt=>by simp[evv,ev1,ev2,ev3])));rw[(Qm k.z.r.o h.el (k:=q)).nil h0];exact h
def kallm(m:Nat)(f:Nat->Bool):Bool:=(List.range m).all f
theorem zE1{m:Nat}{f:Nat->Bool}(h:kallm m f=true):∀i,i<m->f i=true:=λi hi=>by
 have:=List.all_eq_true.1 h i (List.mem_range.2 hi)
 exact this
def keqm(m:Nat)(a b:L3):Bool:=kallm m λi=>at_ a i == at_ b i
def kdvd(m:Nat)(a:L3)(q:Int):Bool:=kallm m λi=>at_ a i % q == 0
theorem EV.eq(k:Cx p n W B c m X Y Z)(h:EV p n W B X Y Z a x)(g:EV p n W B X Y Z b y)(e:keqm m a b=true):x=y:=h.same k g λi hi=>by simpa using zE1 e i hi
theorem EV.dvk(k:Cx p n W B c m X Y Z)(h:EV p n W B X Y Z a x){q:Int}(e:kdvd m a q=true)(hq:Cop p q):EV p n W B X Y Z (kdiv a q) (dv p n W q x):=by
 have hm:m<=14:=by rcases k.md.cut with h|h|h<;>omega
 refine h.div k (λi hi=>?_) hq;rw[zGZ q a i (by omega)]
 have:=zE1 e i hi
 simp only[beq_iff_eq]at this;exact(Int.mul_ediv_cancel' (Int.dvd_of_emod_eq_zero this)).symm
def zCQ(a b:L3):L3:=kadd (tbl a (tbl a b)) (tbl b (kmul (-1) (tbl a b)))
def kbch(a b:L3):L3:=kadd (kadd (kadd a b) (kdiv (tbl a b) 2)) (kdiv (zCQ a b) 12)
def kokb(m:Nat)(a b:L3):Bool:=kdvd m (tbl a b) 2 && kdvd m (zCQ a b) 12
theorem zGA(a b:L3){i:Nat}(hi:i<3):at_ (tbl a b) i=0:=by
 obtain⟨h0,h1,h2,_⟩:=zDh a b
 match i,hi with
 |0,_=>exact h0
 |1,_=>exact h1
 |2,_=>exact h2
theorem zHP(a b:L3)(hb:∀i,i<3->at_ b i=0){i:Nat}(hi:i<6):at_ (tbl a b) i=0:=by
 obtain⟨h0,h1,h2,h3,h4,h5,_⟩:=zDh a b;have b0:=hb 0 (by omega);have b1:=hb 1 (by omega);have b2:=hb 2 (by omega)
 match i,hi with
 |0,_=>exact h0
 |1,_=>exact h1
 |2,_=>exact h2
 |3,_=>rw[h3,b0,b1];omega
 |4,_=>rw[h4,b0,b2];omega
 |5,_=>rw[h5,b1,b2];omega
theorem zLd(a b:L3){i:Nat}(hi:i<6):at_ (zCQ a b) i=0:=by
 rw[zCQ,zKm _ _ i (by omega),zHP _ _ (λi hi=>zGA a b hi) hi,zHP _ _ (λi hi=>by rw[zGY _ _ i (by omega),zGA a b hi];omega) hi];omega
theorem EV.third(k:Cx p n W B c m X Y Z)(h:EV p n W B X Y Z a x)(g:EV p n W B X Y Z b y):EV p n W B X Y Z (zCQ a b) (Zp p W B n x y):=
 (h.brk k (h.brk k g)).add k (g.brk k ((h.brk k g).mul k (-1)))
theorem EV.bch(k:Cx p n W B c m X Y Z)(h:EV p n W B X Y Z a x)(g:EV p n W B X Y Z b y)(e:kokb m a b=true):EV p n W B X Y Z (kbch a b) (bch p n W B x y):=by
 have hm:m<=14:=by rcases k.md.cut with h|h|h<;>omega
 simp only[kokb,Bool.and_eq_true]at e;have z0:∀{a:L3} {q:Int} {v:L3},(∀i,i<m->at_ a i=0)->EV p n W B X Y Z a v->EV p n W B X Y Z (kdiv a q) (dv p n W q v):=λh0 hv=>(hv.divZ k h0).to k λi hi=>by
  rw[zGZ _ _ i (by omega),h0 i hi,Int.zero_ediv]
 have h2:EV p n W B X Y Z (kdiv (tbl a b) 2) (dv p n W 2 (br p W B n x y)):=by
  rcases k.md.d2 with hl|hc
  .exact z0 (λi hi=>zGA a b (by omega)) (h.brk k g)
  .exact(h.brk k g).dvk k e.1 hc.1
 have h3:EV p n W B X Y Z (kdiv (zCQ a b) 12) (dv p n W 12 (Zp p W B n x y)):=by
  rcases k.md.d12 with hl|hc
  .exact z0 (λi hi=>zLd a b (by omega)) (h.third k g)
  .exact(h.third k g).dvk k e.2 hc.1
 exact((h.add k g).add k h2).add k h3
theorem EV.zero(k:Cx p n W B c m X Y Z):EV p n W B X Y Z [] (List.replicate n 0):=
 ⟨zAJ k.z.r.o.pr,Eqv.of_eq λt=>by rw[ZF];simp[evv,ev1,ev2,ev3]⟩
theorem zPY(o:OkW p n W)(q:OkB p n B)(a b:L3):∀j,j<2->at_ (br p W B n a b) j=0:=by
 have hs:∀t,t<2->at_ (bsum B a b n) t=0:=λt ht=>by
  rw[bsum,bi_at q t (vM _)];refine ZI _ λi hi=>ZI _ λj hj=>?_;rw[(q.get hi hj).2 t (by omega),Int.mul_zero]
 intro j hj;rcases Nat.lt_or_ge j n with x|x
 .exact zAs o (ZX q) (d:=min 2 n) (Nat.min_le_right _ _) (λj hj=>hs j (by omega)) j (by omega)
 .exact at_ge (by rw[(br_el o q).1];exact x)
theorem zH6(o:OkW p n W)(q:OkB p n B):∀{k:Nat} {u:L4},Low p n W B (k+1) u->∀x∈u,k+2<=dep x
 |0,u,h,y,hy=>by
  cases h with
  |succ h hc=>
   have hl:=hc.base.led y hy;have hg:=(hc.gen _).2 (qO hy);have hz:=zCu o (m:=min 2 n) (zD4 o q _ _) (Nat.min_le_right _ _) (λv hv j hj=>by
    obtain⟨x,hx,h⟩:=List.mem_flatMap.1 hv;obtain⟨e,he,rfl⟩:=List.mem_map.1 h;exact zPY o q _ _ j (by omega)) hl.1 hg
   have hd:=zAS (v:=y) (d:=min 2 n) (by rw[hl.1.1];exact Nat.min_le_right _ _) hz
   have:=hl.2.1
   omega
 |k+1,u,h,y,hy=>by
  cases h with
  |succ h hc=>exact zCe o q hc (zH6 o q h) y hy
theorem zIG{a b:Int}(hb:0<=b)(h:b<=a):∀k,ipow b k<=ipow a k/\0<=ipow b k
 |0=>⟨Int.le_refl _,by show(0:Int)<=1;decide⟩
 |k+1=>by
  obtain⟨h1,h2⟩:=zIG hb h k;rw[ipow,ipow];exact⟨Int.mul_le_mul h1 h hb (by omega),Int.mul_nonneg h2 hb⟩
theorem Lz.md(z:Lz p n W B c):∃m,Md p c m:=by
 have hc:=z.hc;have hp:=z.hp;have hw:=z.pow;have hn:=z.r.o.le;by_cases h2:p=2
 .exact⟨3,by omega,.inr (.inr ⟨rfl,by omega⟩),.inl (vM _),.inl (by omega)⟩
 .by_cases h3:p=3
  .exact⟨6,by omega,.inr (.inl ⟨rfl,by omega⟩),.inr (zGX hp h2),.inl (vM _)⟩
  .refine⟨14,?_,.inl rfl,.inr (zGX hp h2),.inr (zFr hp h2 h3)⟩;have Dc:n<=4:=by
    rcases Nat.lt_or_ge 4 n with hx|hx
    .exfalso;have h5:(5:Int)<=p:=by rcases hp with h|h|h|h<;>omega
     have:=(zIG (a:=p) (b:=5) (by omega) h5 n).1
     have e:n=5\/n=6:=by omega
     rcases e with rfl|rfl
     .have:ipow 5 5=3125:=by decide
      omega
     .have:ipow 5 6=15625:=by decide
      omega
    .exact hx
   rcases Nat.lt_or_ge 3 c with hx|hx
   .exfalso;obtain⟨u,hu⟩:=z.r.low 3;have ai:=z.r.cls.2 3 u hx hu;cases u with
    |nil=>exact ai rfl
    |cons v t=>
     have hd:=zH6 z.r.o z.r.q hu v (by simp);cases hu with
     |succ h c5=>
      have:=(c5.base.led v (by simp)).2.1
      omega
   .exact hx
def scl(m:Nat):Int:=if m=14 then 1728 else if m=6 then 16 else 1
theorem Md.scl(h:Md p c m)(hp:isP p):Cop p (scl m):=by
 have one:Cop p 1:=⟨1,0,by omega⟩
 have mul:∀{a b:Int},Cop p a->Cop p b->Cop p (a*b):=λ{a b} ⟨e,t,h⟩ ⟨f,s,g⟩=>⟨e*f,t+s+p*t*s,by grind⟩
 rcases h.cut with rfl|⟨rfl,_⟩|⟨rfl,_⟩
 .rcases h.d12 with h|h
  .omega
  .exact mul (mul h.1 h.1) h.1
 .rcases h.d2 with h|h
  .omega
  .exact mul (mul (mul h.1 h.1) h.1) h.1
 .exact one
theorem scaled(o:OkW p n W){q:Int}(hq:Cop p q)(hx:El p n x):Eqv p n W (at_ x) λj=>q*at_ (dv p n W q x) j:=((Qm o hx).eqv hq).symm
theorem Lz.cx(z:Lz p n W B c){x y w:L3}(hx:El p n x)(hy:El p n y)(hw:El p n w):∃m X Y Z,Cx p n W B c m X Y Z/\EV p n W B X Y Z [scl m] x/\EV p n W B X Y Z [0,scl m] y/\EV p n W B X Y Z [0,0,scl m] w/\(m=14\/m=6\/m=3):=by
 obtain⟨m,md⟩:=z.md;have hq:=md.scl z.hp;have o:=z.r.o;refine⟨m,at_ (dv p n W (scl m) x),at_ (dv p n W (scl m) y),at_ (dv p n W (scl m) w),⟨z,md,z.r.all (dv_el o hx),z.r.all (dv_el o hy),z.r.all (dv_el o hw)⟩,⟨hx,(scaled o hq hx).trans (Eqv.of_eq λt=>?_)⟩,⟨hy,(scaled o hq hy).trans (Eqv.of_eq λt=>?_)⟩,⟨hw,(scaled o hq hw).trans (Eqv.of_eq λt=>?_)⟩,by rcases md.cut with h|h|h<;>omega⟩
 all_goals simp[evv,ev1,ev2,ev3]
theorem Lz.assoc(z:Lz p n W B c){x y w:L3}(hx:El p n x)(hy:El p n y)(hw:El p n w):Go.Proofs.bch p n W B (Go.Proofs.bch p n W B x y) w=Go.Proofs.bch p n W B x (Go.Proofs.bch p n W B y w):=by
 obtain⟨m,X,Y,Z,k,ex,ey,ew,hm⟩:=z.cx hx hy hw;rcases hm with rfl|rfl|rfl<;>exact((ex.bch k ey (by decide)).bch k ew (by decide)).eq k (ex.bch k (ey.bch k ew (by decide)) (by decide)) (by decide)
end Go.Proofs
namespace Go.Proofs
open Go.Ab Go.Lie
variable{p:Int}{n m:Nat}{W:L4}{B:L5}{c:Nat}{X Y Z:Vec}{a b:L3}{x y:L3}
def kok2(m:Nat)(a:L3):Bool:=kdvd m a 2 && (decide (3<m) || keqm m a [])
theorem EV.dv0(k:Cx p n W B c m X Y Z)(h:EV p n W B X Y Z a x){q:Int}(e:keqm m a []=true):EV p n W B X Y Z (kdiv a q) (dv p n W q x):=by
 have hm:m<=14:=by rcases k.md.cut with h|h|h<;>omega
 have h0:∀i,i<m->at_ a i=0:=λi hi=>by simpa using zE1 e i hi
 exact(h.divZ k h0).to k λi hi=>by rw[zGZ _ _ i (by omega),h0 i hi,Int.zero_ediv]
theorem EV.dv2(k:Cx p n W B c m X Y Z)(h:EV p n W B X Y Z a x)(e:kok2 m a=true):EV p n W B X Y Z (kdiv a 2) (dv p n W 2 x):=by
 simp only[kok2,Bool.and_eq_true,Bool.or_eq_true,decide_eq_true_eq]at e;rcases e.2 with h3|h3
 .rcases k.md.d2 with hl|hc
  .omega
  .exact h.dvk k e.1 hc.1
 .exact h.dv0 k h3
def kf3(a b d:L3):L3:=kbch (kbch (kbch [] a) b) d
def kok3(m:Nat)(a b d:L3):Bool:=kokb m [] a && kokb m (kbch [] a) b && kokb m (kbch (kbch [] a) b) d
theorem EV.fold3(k:Cx p n W B c m X Y Z){d w:L3}(hx:EV p n W B X Y Z a x)(hy:EV p n W B X Y Z b y)(hw:EV p n W B X Y Z d w)(e:kok3 m a b d=true):EV p n W B X Y Z (kf3 a b d) (fold p n W B [x,y,w]):=by
 simp only[kok3,Bool.and_eq_true]at e;exact(((EV.zero k).bch k hx e.1.1).bch k hy e.1.2).bch k hw e.2
def kconj(a b:L3):L3:=kf3 (kmul (-1) b) a b
theorem EV.conj(k:Cx p n W B c m X Y Z)(hx:EV p n W B X Y Z a x)(hy:EV p n W B X Y Z b y)(e:kok3 m (kmul (-1) b) a b=true):EV p n W B X Y Z (kconj a b) (conj p n W B x y):=EV.fold3 k (hy.mul k _) hx hy e
theorem Lz.inv_l(z:Lz p n W B c)(hx:El p n x):bch p n W B (lmul p W (-1) x) x=List.replicate n 0:=by
 obtain⟨m,X,Y,Z,k,ex,ey,ew,hm⟩:=z.cx hx hx hx;rcases hm with rfl|rfl|rfl<;>exact((ex.mul k _).bch k ex (by decide)).eq k (EV.zero k) (by decide)
theorem Lz.inv_r(z:Lz p n W B c)(hx:El p n x):bch p n W B x (lmul p W (-1) x)=List.replicate n 0:=by
 obtain⟨m,X,Y,Z,k,ex,ey,ew,hm⟩:=z.cx hx hx hx;rcases hm with rfl|rfl|rfl<;>exact(ex.bch k (ex.mul k _) (by decide)).eq k (EV.zero k) (by decide)
theorem Lz.one_l(z:Lz p n W B c)(hx:El p n x):bch p n W B (List.replicate n 0) x=x:=by
 obtain⟨m,X,Y,Z,k,ex,ey,ew,hm⟩:=z.cx hx hx hx;rcases hm with rfl|rfl|rfl<;>exact((EV.zero k).bch k ex (by decide)).eq k ex (by decide)
theorem Lz.one_r(z:Lz p n W B c)(hx:El p n x):bch p n W B x (List.replicate n 0)=x:=by
 obtain⟨m,X,Y,Z,k,ex,ey,ew,hm⟩:=z.cx hx hx hx;rcases hm with rfl|rfl|rfl<;>exact(ex.bch k (EV.zero k) (by decide)).eq k ex (by decide)
end Go.Proofs
namespace Go.Proofs
open Go.Ab Go.Lie
variable{p:Int}{n m:Nat}{W:L4}{B:L5}{c:Nat}{X Y Z:Vec}{a:L3}{x y:L3}
noncomputable def tsum(p:Int)(n:Nat)(W:L4)(B:L5)(y x:L3):Nat->L3
 |0=>List.replicate n 0
 |j+1=>ladd p W (tsum p n W B y x j) (cterm p n W B y x j)
theorem zCw(o:OkW p n W)(q:OkB p n B)(hx:El p n x)(j:Nat):El p n (cterm p n W B y x j):=dv_el o (zSN o q hx j)
theorem zF8(o:OkW p n W)(q:OkB p n B)(hx:El p n x):∀j,El p n (tsum p n W B y x j)
 |0=>zAJ o.pr
 |j+1=>zH o (zF8 o q hx j) (zCw o q hx j)
theorem zNR(o:OkW p n W){s z:L3}(hs:El p n s)(hz:El p n z)(h0:isZ z):ladd p W s z=s:=
 ZZ o (zH o hs hz).1 hs.1 (zH o hs hz).2 hs.2 ((Ze o hs hz).trans (Eqv.of_eq λt=>by rw[QG h0,Int.add_zero]))
theorem EV.dv1(k:Cx p n W B c m X Y Z)(h:EV p n W B X Y Z a x):EV p n W B X Y Z a (dv p n W 1 x):=by
 rw[<-dv_of k.z.r.o ⟨1,0,by omega⟩ h.el h.el (Eqv.of_eq λj=>Int.one_mul _)];exact h
theorem Lz.conj_sum3(z:Lz p n W B c)(hx:El p n x)(hy:El p n y):tsum p n W B y x 3=Go.Proofs.conj p n W B x y:=by
 obtain⟨m,X,Y,Z,k,ex,ey,ew,hm⟩:=z.cx hx hy hx;rcases hm with rfl|rfl|rfl<;>
  exact((((EV.zero k).add k (ex.dv1 k)).add k ((ex.brk k ey).dv1 k)).add k (((ex.brk k ey).brk k ey).dv2 k (by decide))).eq k (ex.conj k ey (by decide)) (by decide)
theorem Lz.conj_move(z:Lz p n W B c)(hx:El p n x)(hy:El p n y):bch p n W B y (Go.Proofs.conj p n W B x y)=bch p n W B x y:=by
 obtain⟨m,X,Y,Z,k,ex,ey,ew,hm⟩:=z.cx hx hy hx;rcases hm with rfl|rfl|rfl<;>exact(ey.bch k (ex.conj k ey (by decide)) (by decide)).eq k (ex.bch k ey (by decide)) (by decide)
theorem Lz.pow_step(z:Lz p n W B c)(hx:El p n x)(j:Int):bch p n W B (lmul p W j x) x=lmul p W (j+1) x:=by
 have o:=z.r.o;have q:=z.r.q;have hj:=zH o hx hx (k:=j) (m:=0);have hb:isZ (br p W B n (lmul p W j x) x):=by
  refine QL o (br_el o q) ((QT o q _ _).trans ((zBU o q z.r.nf _ (Zk o hx j)).trans (Eqv.of_eq λt=>?_)));rw[ZG,zIj,Int.mul_zero]
 have ht:isZ (Zp p W B n (lmul p W j x) x):=by
  refine QL o (QM o q) ((Ze o (br_el o q) (br_el o q)).trans (Eqv.of_eq λt=>?_));have h2:isZ (br p W B n (lmul p W j x) (br p W B n (lmul p W j x) x)):=by
   refine QL o (br_el o q) ((QT o q _ _).trans (Eqv.of_eq λt=>?_));rw[zm,Qg (f':=λj=>0*at_ x j) (g':=at_ (lmul p W j x)) (λj=>by rw[QG hb,Int.zero_mul]) (λ_=>rfl),ZG,Int.zero_mul,Int.mul_zero]
  have h3:isZ (br p W B n x (lmul p W (-1) (br p W B n (lmul p W j x) x))):=by
   have hn:isZ (lmul p W (-1) (br p W B n (lmul p W j x) x)):=QL o (zH o (br_el o q) (br_el o q)) ((Zk o (br_el o q) (-1)).trans (Eqv.of_eq λt=>by rw[QG hb,Int.mul_zero]));refine QL o (br_el o q) ((QT o q _ _).trans (Eqv.of_eq λt=>?_));rw[zm,Qg (f':=λj=>0*at_ x j) (g':=at_ x) (λj=>by rw[QG hn,Int.zero_mul]) (λ_=>rfl),ZG,Int.zero_mul,Int.mul_zero]
  rw[QG h2,QG h3];rfl
 unfold Go.Proofs.bch;have s8:isZ (dv p n W 2 (br p W B n (lmul p W j x) x)):=by rw[(Qm o (br_el o q) (k:=2)).nil hb];exact hb
 have vT:isZ (dv p n W 12 (Zp p W B n (lmul p W j x) x)):=by rw[(Qm o (QM o q) (k:=12)).nil ht];exact ht
 have hs:El p n (ladd p W (lmul p W j x) x):=zH o hj hx;rw[zNR o hs (dv_el o (br_el o q)) s8,zNR o hs (dv_el o (QM o q)) vT];refine ZZ o hs.1 (zH o hx hx).1 hs.2 (zH o hx hx).2 ((Ze o hj hx).trans (((Zk o hx j).add (Eqv.refl _)).trans (Eqv.trans (Eqv.of_eq λt=>?_) (Zk o hx (j+1)).symm)));grind
end Go.Proofs
namespace Go.Grp
end Go.Grp
namespace Go.Proofs
open Go.Ab Go.Lie Go.Grp
variable{p:Int}{n c:Nat}{W:L4}{B:L5}
theorem Lz.gp(z:Lz p n W B c):Gp (El p n) (bch p n W B) (List.replicate n 0):=by
 have o:=z.r.o;have q:=z.r.q;refine⟨⟨⟨by simp,λy hy=>by rw[List.eq_of_mem_replicate hy];have:=o.pr.1;omega⟩,λha hb=>Q8 o q ha hb,λha hb hc=>z.assoc ha hb hc,λha=>z.one_l ha,λha=>z.one_r ha⟩,λ{a} ha=>⟨lmul p W (-1) a,zH o ha ha,z.inv_r ha,z.inv_l ha⟩⟩
theorem Lz.pw_eq(z:Lz p n W B c){x:L3}(hx:El p n x):∀k:Nat,Grp.pw (bch p n W B) (List.replicate n 0) x k=lmul p W k x
 |0=>by
  have o:=z.r.o;have hz:El p n (List.replicate n 0):=z.gp.one;have e:=(Zk o hx ((0:Nat):Int));refine(ZZ o hz.1 (zH o hx hx).1 hz.2 (zH o hx hx).2 ?_);refine Eqv.trans ?_ e.symm;exact Eqv.of_eq λj=>by show at_ (List.replicate n (0:Int)) j=_;rw[ZF];simp
 |k+1=>by
  show bch p n W B (Grp.pw (bch p n W B) (List.replicate n 0) x k) x=_;rw[z.pw_eq hx k,z.pow_step hx];rfl
end Go.Proofs
namespace Go.Proofs
open Go.Ab Go.Lie Go.Grp
variable{p:Int}{n c a:Nat}{W:L4}{B:L5}{x y:L3}{f g:Vec}
def Dzv(p:Int)(n:Nat)(W:L4)(a:Nat)(f:Vec):Prop:=∃v:L3,v.length=n/\(∀j,j<a->at_ v j=0)/\Eqv p n W f (at_ v)
theorem Dzv.sub(a:Nat):IsSub p n W (Dzv p n W a) where
 zero:=⟨List.replicate n 0,by simp,λj _=>ZF n j,Eqv.of_eq λj=>(ZF n j).symm⟩
 add:=λf g ⟨v,h1,h2,h3⟩ ⟨w,g1,g2,g3⟩=>⟨lmix 1 v 1 w,by rw[zM (h1.trans g1.symm)];exact h1,λj hj=>by rw[qY (h1.trans g1.symm),h2 j hj,g2 j hj];rfl,(h3.add g3).trans (Eqv.of_eq λj=>by rw[qY (h1.trans g1.symm)];omega)⟩
 mul:=λk f ⟨v,h1,h2,h3⟩=>⟨lmix k v 0 v,by rw[zM rfl];exact h1,λj hj=>by rw[qY rfl,h2 j hj];simp,(h3.mul k).trans (Eqv.of_eq λj=>by rw[qY rfl];simp)⟩
 eqv:=λf g e ⟨v,h1,h2,h3⟩=>⟨v,h1,h2,e.trans h3⟩
theorem Dzv.of(hx:El p n x)(h:∀j,j<a->at_ x j=0):Dzv p n W a (at_ x):=⟨x,hx.1,h,Eqv.refl _⟩
theorem Dzv.mono{b:Nat}(h:Dzv p n W a f)(hb:b<=a):Dzv p n W b f:=by
 obtain⟨v,h1,h2,h3⟩:=h;exact⟨v,h1,λj hj=>h2 j (by omega),h3⟩
theorem zSK(q:OkB p n B){v:L3}(h:∀j,j<a->at_ v j=0)(g:Vec):(∀t,t<a+1->brv B n (at_ v) g t=0)/\∀t,n<=t->brv B n (at_ v) g t=0:=by
 refine⟨λt ht=>ZI n λi hi=>ZI _ λj hj=>?_,λt ht=>ZI n λi hi=>ZI _ λj hj=>?_⟩
 .obtain⟨e1,e2⟩:=q.get hi hj;rcases Nat.lt_or_ge (i+1+j) a with h1|h1
  .rw[h i (by omega),h (i+1+j) h1];simp
  .rw[e2 t (by omega),Int.mul_zero]
 .obtain⟨e1,e2⟩:=q.get hi hj;rw[e1.beyond ht,Int.mul_zero]
theorem Dzv.brL(o:OkW p n W)(q:OkB p n B)(nf:Zm p W B n)(h:Dzv p n W a f)(g:Vec):Dzv p n W (a+1) (brv B n f g):=by
 obtain⟨v,h1,h2,h3⟩:=h;obtain⟨k1,k2⟩:=zSK q h2 g;refine⟨tab n (brv B n (at_ v) g),zAG _,λj hj=>by rw[zHR _ k2];exact k1 j hj,(zBU o q nf g h3).trans (Eqv.of_eq λj=>(zHR _ k2 j).symm)⟩
structure Fil(p:Int)(n:Nat)(W:L4)(B:L5)(S:Nat->Vec->Prop):Prop where
 sub:∀k,IsSub p n W (S k)
 down:∀k f,S (k+1) f->S k f
 brL:∀k f g,S k f->S (k+1) (brv B n f g)
theorem Fil.brR{S:Nat->Vec->Prop}(F:Fil p n W B S)(k:Nat)(f g:Vec)(h:S k g):S (k+1) (brv B n f g):=
 (F.sub _).eqv _ _ (Eqv.of_eq λt=>zm f g t) ((F.sub _).mul _ _ (F.brL k g f h))
theorem Fil.br{S:Nat->Vec->Prop}(F:Fil p n W B S)(o:OkW p n W)(q:OkB p n B){k:Nat}(h:S k (at_ x)\/S k (at_ y)):S (k+1) (at_ (br p W B n x y)):=
 (F.sub _).eqv _ _ (QT o q x y) (by
  rcases h with h|h
  .exact F.brL _ _ _ h
  .exact F.brR _ _ _ h)
theorem Lz.filD(z:Lz p n W B c):Fil p n W B (Dzv p n W):=⟨λk=>Dzv.sub k,λk f h=>h.mono (by omega),λk f g h=>h.brL z.r.o z.r.q z.r.nf g⟩
theorem Lz.bch_fil(z:Lz p n W B c){S:Nat->Vec->Prop}(F:Fil p n W B S)(hx:El p n x)(hy:El p n y):∃u:Vec,(∀k,S k (at_ x)\/S k (at_ y)->S (k+1) u)/\Eqv p n W (at_ (bch p n W B x y)) λj=>at_ x j+at_ y j+u j:=by
 have o:=z.r.o;have q:=z.r.q;have hb:El p n (Go.Proofs.br p W B n x y):=br_el o q;have h3:El p n (Zp p W B n x y):=QM o q;refine⟨λj=>at_ (dv p n W 2 (Go.Proofs.br p W B n x y)) j+at_ (dv p n W 12 (Zp p W B n x y)) j,λk h=>?_,?_⟩
 .have d1:S (k+1) (at_ (Go.Proofs.br p W B n x y)):=F.br o q h;have d2:S (k+1) (at_ (Zp p W B n x y)):=by
   refine(F.sub _).eqv _ _ (Ze o (br_el o q) (br_el o q)) ((F.sub _).add _ _ ?_ ?_)
   .exact F.down _ _ (F.br o q (.inr d1))
   .exact F.down _ _ (F.br o q (.inr ((F.sub _).eqv _ _ (Zk o hb (-1)) ((F.sub _).mul _ _ d1))))
  exact(F.sub _).add _ _ (zFq o (F.sub _) (Qm o hb) (z.d2 hx) d1) (zFq o (F.sub _) (Qm o h3) (z.d12 hx) d2)
 .refine(Ze o (zH o (zH o hx hy) (dv_el o hb)) (dv_el o h3)).trans ?_;refine((Ze o (zH o hx hy) (dv_el o hb)).add (Eqv.refl _)).trans ?_;refine(((Ze o hx hy).add (Eqv.refl _)).add (Eqv.refl _)).trans (Eqv.of_eq λj=>?_);show _=at_ x j+at_ y j+(_+_);omega
theorem zKf:Cop p 1:=⟨1,0,by omega⟩
theorem zKg(o:OkW p n W)(q:OkB p n B)(hx:El p n x)(hy:El p n y):El p n (conj p n W B x y):=zBQ o q (els3 (zFV o hy) hx hy)
theorem Lz.conj_fil(z:Lz p n W B c){S:Nat->Vec->Prop}(F:Fil p n W B S)(hx:El p n x)(hy:El p n y):∃u:Vec,(∀k,S k (at_ x)\/S k (at_ y)->S (k+1) u)/\Eqv p n W (at_ (conj p n W B x y)) λj=>at_ x j+u j:=by
 have o:=z.r.o;have q:=z.r.q;have hb:El p n (Go.Proofs.br p W B n x y):=br_el o q;have dw:El p n (Go.Proofs.br p W B n (Go.Proofs.br p W B n x y) y):=br_el o q;refine⟨λj=>at_ (dv p n W 1 (Go.Proofs.br p W B n x y)) j+at_ (dv p n W 2 (Go.Proofs.br p W B n (Go.Proofs.br p W B n x y) y)) j,λk h=>?_,?_⟩
 .have d1:S (k+1) (at_ (Go.Proofs.br p W B n x y)):=F.br o q h;exact(F.sub _).add _ _ (zFq o (F.sub _) (Qm o hb) (.inr zKf) d1) (zFq o (F.sub _) (Qm o dw) (z.d2 hb) (F.down _ _ (F.br o q (.inl d1))))
 .rw[<-z.conj_sum3 hx hy];have c0:El p n (cterm p n W B y x 0):=zCw o q hx 0;have c1:El p n (cterm p n W B y x 1):=zCw o q hx 1;have c2:El p n (cterm p n W B y x 2):=zCw o q hx 2;have t1:El p n (tsum p n W B y x 1):=zF8 o q hx 1;have t2:El p n (tsum p n W B y x 2):=zF8 o q hx 2;have e0:Eqv p n W (at_ (cterm p n W B y x 0)) (at_ x):=((Eqv.of_eq λj=>by show _=1*at_ (dv p n W 1 x) j;rw[Int.one_mul];rfl).trans ((Qm o hx (k:=1)).eqv zKf))
  refine(Ze o t2 c2).trans (((Ze o t1 c1).add (Eqv.refl _)).trans ?_);refine((((Ze o (zAJ o.pr) c0).trans ((Eqv.of_eq (λj=>ZF n j)).add e0)).add (Eqv.refl _)).add (Eqv.refl _)).trans (Eqv.of_eq λj=>?_);show 0+at_ x j+at_ (dv p n W 1 (Go.Proofs.br p W B n x y)) j+at_ (dv p n W 2 (Go.Proofs.br p W B n (Go.Proofs.br p W B n x y) y)) j=at_ x j+(_+_);omega
theorem Lz.bch_eqv(z:Lz p n W B c)(hx:El p n x)(hy:El p n y):∃u:Vec,(∀a,Dzv p n W a (at_ x)\/Dzv p n W a (at_ y)->Dzv p n W (a+1) u)/\Eqv p n W (at_ (bch p n W B x y)) λj=>at_ x j+at_ y j+u j:=z.bch_fil z.filD hx hy
theorem zFW{A B k p:Int}(h:A=B-k*p)(h0:0<=A/\A<=p-1):A=B % p:=by
 have:B=A+k*p:=by omega
 rw[this,Int.add_mul_emod_self_right,Int.emod_eq_of_lt h0.1 (by omega)]
theorem Lz.head(z:Lz p n W B c)(hx:El p n x)(hy:El p n y)(ha:a<n)(h:Dzv p n W a (at_ x)\/Dzv p n W a (at_ y))(hs:∀j,j<a->0<=at_ x j+at_ y j/\at_ x j+at_ y j<=p-1):
  (∀j,j<a->at_ (bch p n W B x y) j=at_ x j+at_ y j)/\at_ (bch p n W B x y) a=(at_ x a+at_ y a) % p:=by
 have o:=z.r.o;obtain⟨u,hu,e⟩:=z.bch_eqv hx hy;obtain⟨v,h1,h2,h3⟩:=hu a h;have hb:El p n (bch p n W B x y):=Q8 o z.r.q hx hy;have e2:=e.trans ((Eqv.refl (λj=>at_ x j+at_ y j)).add h3);obtain⟨k1,k,k2⟩:=Qd o e2 ha (λj hj=>hb.at0 o j) (λj hj=>by rw[h2 j (by omega)];have:=hs j hj;omega);refine⟨λj hj=>by rw[k1 j hj,h2 j (by omega)];omega,?_⟩;rw[h2 a (by omega)]at k2
 have:=zFW k2 (hb.at0 o a)
 rw[this,Int.add_zero]
theorem Lz.headL(z:Lz p n W B c)(hx:El p n x)(hy:El p n y)(ha:a<n)(h:∀j,j<a->at_ x j=0):
  (∀j,j<a->at_ (bch p n W B x y) j=at_ y j)/\at_ (bch p n W B x y) a=(at_ x a+at_ y a) % p:=by
 obtain⟨h1,h2⟩:=z.head hx hy ha (.inl (Dzv.of hx h)) λj hj=>by rw[h j hj];have:=hy.at0 z.r.o j;omega
 exact⟨λj hj=>by rw[h1 j hj,h j hj];omega,h2⟩
theorem zO0(o:OkW p n W)(hx:El p n x)(ha:a<n)(h:∀j,j<a->at_ x j=0)(k:Int):(∀j,j<a->at_ (lmul p W k x) j=0)/\at_ (lmul p W k x) a=(k*at_ x a) % p:=by
 have h0:∀j,j<a->at_ (lmix k x 0 x) j=0:=λj hj=>by rw[qY rfl,h j hj];simp
 have hl:(lmix k x 0 x).length=n:=by rw[zM rfl];exact hx.1
 refine⟨zAs o hl (by omega) h0,?_⟩;rw[zDS o hl ha h0,qY rfl];simp
theorem zAp{i:Nat}(hi:i<n):(∀j,j<i->at_ (unitL n i) j=0)/\at_ (unitL n i) i=1:=⟨λj hj=>by rw[zAA hi,if_neg (by omega)],by rw[zAA hi,if_pos rfl]⟩
theorem zBz(o:OkW p n W){i:Nat}(hi:i<n)(k:Int):El p n (lmul p W k (unitL n i))/\(∀j,j<i->at_ (lmul p W k (unitL n i)) j=0)/\at_ (lmul p W k (unitL n i)) i=k % p:=by
 have hu:=zU (n:=n) o.pr hi;obtain⟨h1,h2⟩:=zO0 o hu hi (zAp hi).1 k;exact⟨zH o hu hu,h1,by rw[h2,(zAp hi).2,Int.mul_one]⟩
theorem zKN(z:Lz p n W B c)(hx:El p n x):∀{i:Nat},i<=n->∀j,j<i->at_ (stG p n W B x i).2 j=0
 |0,_,j,hj=>by omega
 |i+1,hi,j,hj=>by
  have o:=z.r.o;obtain⟨e1,e2,e3⟩:=zBz o (show i<n by omega) (-at_ (stG p n W B x i).2 i);have hr:=zAq o z.r.q hx (i:=i) (by omega);obtain⟨k1,k2⟩:=z.headL e1 hr (by omega) e2;show at_ (bch p n W B _ _) j=0;rcases Nat.lt_or_ge j i with h|h
  .rw[k1 j h];exact zKN z hx (by omega) j h
  .have hj:j=i:=by omega
   subst hj;rw[k2,e3,Int.emod_add_emod,show -at_ (stG p n W B x j).2 j+at_ (stG p n W B x j).2 j=0 by omega,Int.zero_emod]
theorem zMF{m:Nat}:∀{i:Nat},m<i->i<=n->at_ (stG p n W B x i).1 m=at_ (stG p n W B x m).2 m
 |0,h,_=>by omega
 |i+1,h,hi=>by
  have hl:=QC (p:=p) (n:=n) (W:=W) (B:=B) (x:=x) i;show at_ ((stG p n W B x i).1.set i _) m=_;rw[at_set (by omega)];split
  .rename_i e;subst e;rfl
  .exact zMF (by omega) (by omega)
theorem zFA{m:Nat}(hm:m<n):at_ (vcG p n W B x) m=at_ (stG p n W B x m).2 m:=zMF hm (vM _)
theorem zMC:(vcG p n W B x).length=n:=QC n
theorem vc_el(z:Lz p n W B c)(hx:El p n x):El p n (vcG p n W B x):=by
 have o:=z.r.o;refine⟨zMC,λy hy=>?_⟩;obtain⟨i,hi,rfl⟩:=List.mem_iff_getElem.1 hy;have e9:i<n:=by rw[<-zMC (p:=p) (n:=n) (W:=W) (B:=B) (x:=x)];exact hi
 rw[<-at_eq hi,zFA e9];exact(zAq o z.r.q hx (by omega)).at0 o i
theorem zO3(o:OkW p n W)(hx:El p n x)(k l:Int):lmul p W k (lmul p W l x)=lmul p W (k*l) x:=by
 have hy:El p n (lmul p W l x):=zH o hx hx;refine ZZ o (zH o hy hy).1 (zH o hx hx).1 (zH o hy hy).2 (zH o hx hx).2 ?_;refine(Zk o hy k).trans (((Zk o hx l).mul k).trans (Eqv.trans (Eqv.of_eq λj=>?_) (Zk o hx (k*l)).symm));rw[Int.mul_assoc]
theorem zNJ(o:OkW p n W)(hx:El p n x):lmul p W 0 x=List.replicate n 0:=by
 refine ZZ o (zH o hx hx).1 (by simp) (zH o hx hx).2 (zAJ o.pr).2 ?_;exact(Zk o hx 0).trans (Eqv.of_eq λj=>by rw[ZF];simp)
theorem zKO(z:Lz p n W B c)(hx:El p n x):∀{i:Nat},i<=n->bch p n W B (ptG p n W B (vcG p n W B x) i) (stG p n W B x i).2=x
 |0,_=>z.one_l hx
 |i+1,hi=>by
  have o:=z.r.o;have q:=z.r.q;have hr:=zAq o q hx (i:=i) (by omega);have hp:=zAK o q (vcG p n W B x) (i:=i) (by omega);have e1:=λk=>(zBz o (show i<n by omega) k).1;show bch p n W B (bch p n W B (ptG p n W B (vcG p n W B x) i) (lmul p W (at_ (vcG p n W B x) i) (unitL n i))) (bch p n W B (lmul p W (-at_ (stG p n W B x i).2 i) (unitL n i)) (stG p n W B x i).2)=x;rw[zFA (by omega),z.assoc hp (e1 _) (Q8 o q (e1 _) hr),<-z.assoc (e1 _) (e1 _) hr];have e:lmul p W (-at_ (stG p n W B x i).2 i) (unitL n i)=lmul p W (-1) (lmul p W (at_ (stG p n W B x i).2 i) (unitL n i)):=by
   rw[zO3 o (zU o.pr (by omega))];congr 1;omega
  rw[e,z.inv_r (e1 _),z.one_l hr,zKO z hx (by omega)]
theorem pt_vc(z:Lz p n W B c)(hx:El p n x):ptG p n W B (vcG p n W B x) n=x:=by
 have o:=z.r.o;have h:=zKO z hx (vM n);have e:(stG p n W B x n).2=List.replicate n 0:=Qi (by rw[(zAq o z.r.q hx (vM n)).1];simp) λj hj=>by
  rw[(zAq o z.r.q hx (vM n)).1]at hj;rw[zKN z hx (vM n) j hj,ZF]
 rw[e,z.one_r (zAK o z.r.q _ (vM n))]at h;exact h
theorem zGC(z:Lz p n W B c)(hx:El p n x)(h:∀j,j<a->at_ x j=0):∀{i:Nat},i<=n->i<=a->(stG p n W B x i).2=x
 |0,_,_=>rfl
 |i+1,hi,ha=>by
  have ih:=zGC z hx h (i:=i) (by omega) (by omega);show bch p n W B (lmul p W (-at_ (stG p n W B x i).2 i) (unitL n i)) (stG p n W B x i).2=x;rw[ih,h i (by omega),Int.neg_zero,zNJ z.r.o (zU z.r.o.pr (by omega)),z.one_l hx]
theorem zF5(z:Lz p n W B c)(hx:El p n x)(ha:a<=n)(h:∀j,j<a->at_ x j=0):(∀j,j<a->at_ (vcG p n W B x) j=0)/\(a<n->at_ (vcG p n W B x) a=at_ x a):=by
 refine⟨λj hj=>by rw[zFA (by omega),zGC z hx h (by omega) (by omega)];exact h j hj,λhn=>by rw[zFA hn,zGC z hx h (by omega) (vM _)]⟩
end Go.Proofs
namespace Go.Proofs
open Go.Ab Go.Lie Go.Grp
variable{p:Int}{n c a:Nat}{W:L4}{B:L5}{x y:L3}{f:Vec}
noncomputable def lgP(p:Int)(n:Nat)(W:L4)(B:L5)(i:Nat):L3:=vcG p n W B (lmul p W p (unitL n i))
noncomputable def lgC(p:Int)(n:Nat)(W:L4)(B:L5)(i k:Nat):L3:=vcG p n W B (conj p n W B (unitL n (i+(1+k))) (unitL n i))
noncomputable def lgPs(p:Int)(n:Nat)(W:L4)(B:L5)(m:Nat):L4:=(List.range m).map (lgP p n W B)
noncomputable def lgR(p:Int)(n:Nat)(W:L4)(B:L5)(i m:Nat):L4:=(List.range m).map (lgC p n W B i)
noncomputable def lgCs(p:Int)(n:Nat)(W:L4)(B:L5)(m:Nat):L5:=(List.range m).map λi=>lgR p n W B i (n-1-i)
abbrev rO(p:Int)(n:Nat):L3:=List.replicate n p
theorem rO_at{j:Nat}(h:j<n):at_ (rO p n) j=p:=by rw[at_eq (by simpa using h)];simp
theorem getD_map{α:Type}(f:Nat->α)(d:α){m i:Nat}(h:i<m):((List.range m).map f).getD i d=f i:=by
 rw[List.getD_eq_getElem?_getD,List.getElem?_map,List.getElem?_range h];rfl
theorem zKX{j:Nat}(h:j<n):pvec (lgPs p n W B n) j=lgP p n W B j:=getD_map _ _ h
theorem zNN{i:Nat}(h:i<n):(lgCs p n W B n).getD i []=lgR p n W B i (n-1-i):=getD_map _ _ h
theorem zGQ{i j:Nat}(h:i<j)(hj:j<n):cvec (lgCs p n W B n) i j=vcG p n W B (conj p n W B (unitL n j) (unitL n i)):=by
 show((lgCs p n W B n).getD i []).getD (j-i-1) []=_
 rw[zNN (by omega)];unfold lgR;rw[getD_map _ _ (by omega)];unfold lgC;rw[show i+(1+(j-i-1))=j by omega]
theorem tt_el{t:Nat}(o:OkW p n W):TT (rO p n) t x↔El p n x/\∀j,j<t->at_ x j=0:=by
 constructor
 .intro h;have hl:x.length=n:=by rw[h.len];simp
  refine⟨⟨hl,λy hy=>?_⟩,h.zero⟩;obtain⟨i,hi,rfl⟩:=List.mem_iff_getElem.1 hy
  have:=h.bd i (by simp;omega)
  rw[rO_at (by omega),at_eq hi]at this;omega
 .rintro⟨h,h2⟩
  refine⟨by rw[h.1];simp,λj hj=>?_,h2⟩;rw[rO_at (by simpa using hj)]
  have:=h.at0 o j
  omega
noncomputable abbrev rPh (p:Int) (n:Nat) (W:L4) (B:L5) (x:L3) (t d:Nat):L3:=Grp.ph (bch p n W B) (List.replicate n 0) (unitL n) (nx x) t d
theorem Lz.pwu(z:Lz p n W B c){i:Nat}(hi:i<n)(k:Nat):Grp.pw (bch p n W B) (List.replicate n 0) (unitL n i) k=lmul p W k (unitL n i):=z.pw_eq (zU z.r.o.pr hi) k
theorem nx_eq(h:0<=at_ x a):((nx x a:Nat):Int)=at_ x a:=Int.toNat_of_nonneg h
theorem zBg(z:Lz p n W B c){x:L3}:∀{d t:Nat},t+d<=n->El p n (rPh p n W B x t d)/\(∀j,j<t->at_ (rPh p n W B x t d) j=0)/\(0<d->at_ (rPh p n W B x t d) t=(nx x t:Int) % p)
 |0,t,h=>⟨zAJ z.r.o.pr,λj _=>ZF n j,λh=>by omega⟩
 |d+1,t,h=>by
  obtain⟨h1,h2,h3⟩:=zBg z (x:=x) (d:=d) (t:=t+1) (by omega);have e:rPh p n W B x t (d+1)=bch p n W B (lmul p W (nx x t) (unitL n t)) (rPh p n W B x (t+1) d):=by
   show bch p n W B (Grp.pw _ _ _ _) _=_;rw[z.pwu (by omega)]
  obtain⟨e1,e2,e3⟩:=zBz z.r.o (show t<n by omega) (nx x t:Int);obtain⟨k1,k2⟩:=z.headL e1 h1 (by omega) e2;rw[e];refine⟨Q8 z.r.o z.r.q e1 h1,λj hj=>by rw[k1 j hj];exact h2 j (by omega),λ_=>?_⟩;rw[k2,e3,h2 t (by omega),Int.add_zero,Int.emod_emod_of_dvd _ (Int.dvd_refl p)]
theorem zMq(z:Lz p n W B c):∀{d t:Nat} {x y:L3},t+d<=n->(∀j,t<=j->j<t+d->(0<=at_ x j/\at_ x j<p)/\(0<=at_ y j/\at_ y j<p))->rPh p n W B x t d=rPh p n W B y t d->∀j,t<=j->j<t+d->at_ x j=at_ y j
 |0,t,x,y,h,hr,e,j,h1,h2=>by omega
 |d+1,t,x,y,h,hr,e,j,h1,h2=>by
  have a1:=(zBg z (x:=x) (d:=d+1) (t:=t) h).2.2 (by omega);have a2:=(zBg z (x:=y) (d:=d+1) (t:=t) h).2.2 (by omega);obtain⟨⟨r1,r2⟩,r3,r4⟩:=hr t (vM _) (by omega);have ht:at_ x t=at_ y t:=by
   rw[e,a2,nx_eq r1,nx_eq r3,Int.emod_eq_of_lt r1 r2,Int.emod_eq_of_lt r3 r4]at a1;exact a1.symm
  rcases Nat.lt_or_ge t j with hj|hj
  .have G:=z.gp;refine zMq z (d:=d) (t:=t+1) (by omega) (λj h1 h2=>hr j (by omega) (by omega)) ?_ j hj (by omega);have hu:=zU (n:=n) z.r.o.pr (show t<n by omega);refine G.cancel (G.pw hu (nx x t)) (zBg z (by omega)).1 (zBg z (by omega)).1 ?_
   have:nx x t=nx y t:=by unfold nx;rw[ht]
   show rPh p n W B x t (d+1)=_;rw[e,this];rfl
  .have:j=t:=by omega
   subst this;exact ht
theorem pt_ph(z:Lz p n W B c)(hx:El p n x):rPh p n W B x 0 n=ptG p n W B x n:=by
 have o:=z.r.o;have key:∀i,i<=n->bch p n W B (ptG p n W B x i) (rPh p n W B x i (n-i))=rPh p n W B x 0 n:=by
  intro i
  induction i with
  |zero=>intro _;exact z.one_l (zBg z (by omega)).1
  |succ i ih=>
   intro hi;rw[<-ih (by omega)];have hu:=zU (n:=n) o.pr (show i<n by omega);have hp:=zAK o z.r.q x (i:=i) (by omega);have e:rPh p n W B x i (n-i)=bch p n W B (lmul p W (nx x i) (unitL n i)) (rPh p n W B x (i+1) (n-(i+1))):=by
    rw[show n-i=(n-(i+1))+1 by omega];show bch p n W B (Grp.pw _ _ _ _) _=_;rw[z.pwu (by omega)]
   rw[e,<-z.assoc hp (zH o hu hu) (zBg z (by omega)).1,nx_eq (hx.at0 o i).1];rfl
 rw[<-key n (vM _),Nat.sub_self];exact z.one_r (zAK o z.r.q x (vM _))
theorem ph_vc(z:Lz p n W B c)(hx:El p n x){t:Nat}(ht:t<=n)(h:∀j,j<t->at_ x j=0):rPh p n W B (vcG p n W B x) t (n-t)=x:=by
 have e:=pt_ph z (vc_el z hx);rw[pt_vc z hx]at e;have k:=z.gp.toMon.ph_skip (h:=unitL n) (x:=nx (vcG p n W B x)) (d:=n-t) (k:=t) (t:=0) (λj _ hj=>by unfold nx;rw[(zF5 z hx ht h).1 j (by omega)];rfl) (λj _ hj=>zU z.r.o.pr (by omega));rw[Nat.zero_add,show t+(n-t)=n by omega]at k;exact k.symm.trans e
theorem zNr(z:Lz p n W B c)(hx:El p n x)(hy:El p n y)(ha:a<n)(h:∀j,j<a->at_ x j=0):(∀j,j<a->at_ (conj p n W B x y) j=0)/\at_ (conj p n W B x y) a=at_ x a:=by
 have o:=z.r.o;have hc:=zKg o z.r.q hx hy;obtain⟨u,hu,e⟩:=z.conj_fil z.filD hx hy;obtain⟨v,h1,h2,h3⟩:=hu a (.inl (Dzv.of hx h));have e2:=e.trans ((Eqv.refl (at_ x)).add h3);obtain⟨k1,k,k2⟩:=Qd o e2 ha (λj hj=>hc.at0 o j) (λj hj=>by rw[h2 j (by omega),h j hj];have:=o.pr.1;omega);refine⟨λj hj=>by rw[k1 j hj,h2 j (by omega),h j hj];rfl,?_⟩
 have:=zFW k2 (hc.at0 o a)
 rw[this,h2 a (by omega),Int.add_zero,Int.emod_eq_of_lt (hx.at0 o a).1 (by have:=hx.at0 o a;omega)]
theorem vc_tt(z:Lz p n W B c)(hx:El p n x){t:Nat}(ht:t<=n)(h:∀j,j<t->at_ x j=0):TT (rO p n) t (vcG p n W B x):=(tt_el z.r.o).2 ⟨vc_el z hx,(zF5 z hx ht h).1⟩
theorem zCx(z:Lz p n W B c){i j:Nat}(h:i<j)(hj:j<n):El p n (conj p n W B (unitL n j) (unitL n i))/\(∀k,k<j->at_ (conj p n W B (unitL n j) (unitL n i)) k=0)/\at_ (conj p n W B (unitL n j) (unitL n i)) j=1:=by
 have o:=z.r.o;have hi:=zU (n:=n) o.pr (show i<n by omega);have hu:=zU (n:=n) o.pr hj;obtain⟨h1,h2⟩:=zNr z hu hi hj (zAp hj).1;exact⟨zKg o z.r.q hu hi,h1,by rw[h2,(zAp hj).2]⟩
theorem zDN(z:Lz p n W B c){j:Nat}(hj:j<n):El p n (lmul p W p (unitL n j))/\∀k,k<j+1->at_ (lmul p W p (unitL n j)) k=0:=by
 obtain⟨e1,e2,e3⟩:=zBz z.r.o hj p;refine⟨e1,λk hk=>?_⟩;rcases Nat.lt_or_ge k j with h|h
 .exact e2 k h
 .have:k=j:=by omega
  subst this;rw[e3,Int.emod_self]
theorem zQd(z:Lz p n W B c){t j:Nat}(h:t<=j)(hj:j<n):rPh p n W B (unitL n j) t (n-t)=unitL n j:=by
 have o:=z.r.o;have hu:=zU (n:=n) o.pr hj;have k:=z.gp.toMon.ph_skip (h:=unitL n) (x:=nx (unitL n j)) (d:=n-j) (k:=j-t) (t:=t) (λk h1 h2=>by unfold nx;rw[zAA hj,if_neg (by omega)];rfl) (λk h1 h2=>zU o.pr (by omega));rw[show j-t+(n-j)=n-t by omega,show t+(j-t)=j by omega]at k;refine k.trans ?_;have k2:=z.gp.toMon.ph_skip (h:=unitL n) (x:=nx (unitL n j)) (d:=0) (k:=n-(j+1)) (t:=j+1) (λk h1 h2=>by unfold nx;rw[zAA hj,if_neg (by omega)];rfl) (λk h1 h2=>zU o.pr (by omega));simp only[Nat.add_zero]at k2;rw[show n-j=(n-(j+1))+1 by omega];show bch p n W B (Grp.pw _ _ _ _) (Grp.ph _ _ _ _ _ _)=_;rw[k2];have e1:nx (unitL n j) j=1:=by unfold nx;rw[(zAp hj).2];rfl
 rw[e1,z.gp.toMon.pw_one hu];exact z.one_r hu
theorem zNM(z:Lz p n W B c):Shp (rO p n) (lgPs p n W B n) (lgCs p n W B n) where
 le:=by simp;exact z.r.o.le
 pr:=λj hj=>by rw[rO_at (by simpa using hj)];exact z.r.o.pr
 pl:=by simp[lgPs]
 cl:=by simp[lgCs]
 pw:=λi hi=>by
  have gQ:i<n:=by simpa using hi
  rw[zKX gQ];exact vc_tt z (zDN z gQ).1 (by omega) (zDN z gQ).2
 row:=λi hi=>by
  have gQ:i<n:=by simpa using hi
  rw[zNN gQ];simp[lgR]
 cj:=λi j jT hj=>by
  have fJ:j<n:=by simpa using hj
  rw[zGQ jT fJ];obtain⟨h1,h2,h3⟩:=zCx z jT fJ;exact vc_tt z h1 (by omega) λk hk=>h2 k (by omega)
theorem zRz(z:Lz p n W B c):Rel (rO p n) (lgPs p n W B n) (lgCs p n W B n) (El p n) (bch p n W B) (List.replicate n 0) (unitL n) 0 where
 mem:=λj _ hj=>zU z.r.o.pr (by simpa using hj)
 pow:=λj _ hj=>by
  have fJ:j<n:=by simpa using hj
  obtain⟨h1,h2⟩:=zDN z fJ;rw[zKX fJ];have e:=ph_vc z h1 (show j+1<=n by omega) h2;have el:(rO p n).length=n:=by simp
  show _=Grp.ph _ _ _ _ ((rO p n).length-((rO p n).length-(j+1))) ((rO p n).length-(j+1));rw[el,show n-(n-(j+1))=j+1 by omega];refine Eq.trans ?_ e.symm;rw[z.pwu fJ];unfold nx;rw[rO_at fJ,Int.toNat_of_nonneg (by have:=z.r.o.pr.1;omega)]
 cj:=λj k _ nU hk=>by
  have cL:k<n:=by simpa using hk
  have o:=z.r.o;obtain⟨h1,h2,h3⟩:=zCx z nU cL;rw[zGQ nU cL];have e:=ph_vc z h1 (show j+1<=n by omega) (λi hi=>h2 i (by omega));have el:(rO p n).length=n:=by simp
  show _=bch p n W B _ (Grp.ph _ _ _ _ ((rO p n).length-((rO p n).length-(j+1))) ((rO p n).length-(j+1)));rw[el,show n-(n-(j+1))=j+1 by omega];refine Eq.trans ?_ (congrArg (bch p n W B (unitL n j)) e.symm);exact(z.conj_move (zU o.pr cL) (zU o.pr (by omega))).symm
theorem zQx(z:Lz p n W B c):Cons (rO p n) (lgPs p n W B n) (lgCs p n W B n):=by
 have el:(rO p n).length=n:=by simp
 have o:=z.r.o;have gw:∀i x,Ph (rO p n) (bch p n W B) (List.replicate n 0) (unitL n) ((rO p n).length-(i+1)) x=Grp.ph (bch p n W B) (List.replicate n 0) (unitL n) (nx x) (n-(n-(i+1))) (n-(i+1)):=λi x=>by
  show Grp.ph _ _ _ _ ((rO p n).length-((rO p n).length-(i+1))) ((rO p n).length-(i+1))=_;rw[el]
 refine Cons.of_rel (zNM z) z.gp (zRz z) (λi hi x y hx hy e=>?_) (λi j x jT hj hx=>?_) (λi j jT hj=>?_)
 .have gQ:i<n:=by simpa using hi
  rw[show(rO p n).length-1-i=(rO p n).length-(i+1) by omega,gw,gw,show n-(n-(i+1))=i+1 by omega]at e;have hr:∀j,i+1<=j->j<i+1+(n-(i+1))->(0<=at_ x j/\at_ x j<p)/\(0<=at_ y j/\at_ y j<p):=λj h1 h2=>by
   have b1:=hx.bd j (by rw[el];omega);have b2:=hy.bd j (by rw[el];omega);rw[rO_at (by omega)]at b1 b2;exact⟨b1,b2⟩
  have:=zMq z (by omega) hr e
  exact hx.ext hy λj h1 h2=>this j h1 (by omega)
 .have fJ:j<n:=by simpa using hj
  rw[show(rO p n).length-1-i=(rO p n).length-(i+1) by omega,gw,gw,show n-(n-(i+1))=i+1 by omega,show n-(n-(j+1))=j+1 by omega];have k:=z.gp.toMon.ph_skip (h:=unitL n) (x:=nx x) (d:=n-(j+1)) (k:=j-i) (t:=i+1) (λk h1 h2=>by unfold nx;rw[hx.zero k (by omega)];rfl) (λk h1 h2=>zU o.pr (by omega));rw[show j-i+(n-(j+1))=n-(i+1) by omega,show i+1+(j-i)=j+1 by omega]at k;exact k
 .have fJ:j<n:=by simpa using hj
  rw[show(rO p n).length-1-i=(rO p n).length-(i+1) by omega,gw,show n-(n-(i+1))=i+1 by omega];have eu:Grp.unit (rO p n) j=unitL n j:=by show(List.replicate (rO p n).length 0).set j 1=_;rw[el];rfl
  rw[eu];exact zQd z (by omega) fJ
end Go.Proofs
namespace Go.Proofs
open Go.Ab Go.Lie Go.Grp
variable{p:Int}{n c:Nat}{W:L4}{B:L5}{x:L3}
theorem zF7{O x:L3}{t:Nat}(h:TT O t x):Q4 O t x:=by
 refine⟨⟨h.len,λj hj=>by have:=h.bd j (by rw[<-h.len];exact hj);omega⟩,λv hv=>?_⟩;rw[List.mem_take_iff_getElem]at hv;obtain⟨j,hj,rfl⟩:=hv;rw[<-at_eq];exact h.zero j (by omega)
theorem zIF(p:Int):∀n,ipow p n=p ^ n
 |0=>by simp[ipow]
 |n+1=>by rw[Int.pow_succ,<-zIF p n];simp only[ipow];try rw[Int.mul_comm]
theorem zQw(z:Lz p n W B c):QB (rO p n) (lgPs p n W B n) (lgCs p n W B n):=by
 have s:=zNM z;have el:(rO p n).length=n:=by simp
 refine⟨s.le,s.pl,s.cl,λo ho=>by rw[List.eq_of_mem_replicate ho];exact z.hp,?_,λi hi=>⟨zF7 (s.pw i hi),s.row i hi,λk hk=>?_⟩⟩
 .rw[zGd λo ho=>List.eq_of_mem_replicate ho,el,<-zIF];exact z.pow
 .rw[s.row i hi]at hk
  have:=s.cj i (i+1+k) (by omega) (by omega)
  unfold cvec at this;rw[show i+1+k-i-1=k by omega]at this;exact zF7 this
theorem zR0(z:Lz p n W B c):isCen (rO p n) (lgCs p n W B n):=by
 have el:(rO p n).length=n:=by simp
 intro i hi;rw[el]at hi;refine⟨by rw[rO_at hi,rO_at (by omega)],λq hq=>?_⟩;rw[el]at hq;obtain⟨h1,h2,h3⟩:=zCx z (i:=i) (j:=i+(1+q)) (by omega) hq;have e:=zGQ (p:=p) (W:=W) (B:=B) (i:=i) (j:=i+(1+q)) (by omega) hq;obtain⟨k1,k2⟩:=zF5 z h1 (Nat.le_of_lt hq) h2;refine⟨?_,?_⟩
 .rw[e,k2 hq,h3]
 .rw[e];exact(zF7 (vc_tt z h1 (Nat.le_of_lt hq) h2)).2
theorem lg_LG(z:Lz p n W B c):LG (rO p n) (lgPs p n W B n) (lgCs p n W B n):=⟨zQw z,zQx z,zR0 z⟩
theorem gS_el(z:Lz p n W B c):gS (rO p n) x↔El p n x:=by
 rw[show gS (rO p n) x=TT (rO p n) 0 x from rfl,tt_el z.r.o];exact⟨λh=>h.1,λh=>⟨h,λj hj=>by omega⟩⟩
theorem pt_el(z:Lz p n W B c)(x:L3):El p n (ptG p n W B x n):=zAK z.r.o z.r.q x (vM n)
end Go.Proofs
namespace Go.Proofs
open Go.Ab Go.Lie
variable{U H h:PHeap}{K:PV->PHeap->Prop}{n c:Nat}{p:Int}{W:L4}{B:L5}{vP vB:PV}{s:Nat}
theorem zL9{P:Program}{c:IC}{Q:Exit->PEnv->PHeap->Prop}{e:PEnv}{h:PHeap}(id:Nat)(J:PEnv->PHeap->Prop)(h1:∀Q':Exit->PEnv->PHeap->Prop,(∀e h,J e h->Q' (.exit id) e h)->vp P c Q' e h)(h2:∀e h,J e h->Q (.exit id) e h):vp P c Q e h:=h1 Q h2
theorem zG9(z:Lz p n W B c)(hs:PtrR U s p vP vB)(hR:IsR vP vB W B)
  (hk:∀vO vQ vC t,FI vO (List.replicate n p)->FII vQ (lgPs p n W B n)->FIII vC (lgCs p n W B n)->Own U.top t (.agg [vO,vQ,vC])->U.top<=t->K (.agg [vO,vQ,vC]) (U.up t)):
  zA Tryz.prog 94 [.ptr s 0] U K:=by
 have o:=z.r.o;have q:=z.r.q;have aW:=o.le;have eV:=o.len;have gF:=hs.lt;have jb:=z.hp.bd;have aH:=hR;obtain⟨⟨wp,ap,rp,rfl,lR⟩,hB⟩:=hR;have e1:U.rd1 s 1=some (.fz wp ap W.length rp):=by rw[zG hs.obj];rfl
 have e0:U.rd1 s 0=some (.int .i64 p):=by rw[zG hs.obj];rfl
 have jo:¬s=U.next:=by omega
 refine zA.gh ?_;refine zP mix Tryz.func94 cf94 rfl ?_;dsimp only[if94,eI,qD,eD,mI0,kI0,lI0,LI0,fI0,xI0,bI0,cI0,sI0,pI0,C1,C2,mD0,lD0,fD0,xD0,pD0,I0,vI0,wD0,R0,S0];simp only[Z3,seval,-ae,e0,e1,jo,eV];refine zA.frz (s:=U.next+1) (cs:=pis [p]) (by simp only[Z3,seval,-ae];rfl) (zO _ _) λo1=>?_;simp only[sbs,Go.Ab.sb,capOK,and_self,if_true,decide_true,vM];refine zN3 rfl aW λvr hr=>?_;simp only[Z3,seval,-ae];have rV:∀{g:PHeap} {u0 u1 u2:PV},Keep (U.new [.fz true .nils 0 [],.fz true .nils 0 [],.fz true .nils 0 []]) g->u0.one=true->u1.one=true->u2.one=true->g.wr U.next 0 [u0,u1,u2]=some (g.set U.next [u0,u1,u2])/\(g.set U.next [u0,u1,u2]).rd U.next 0 3=some [u0,u1,u2]:=λ{g u0 u1 u2} k z0 z1 z2=>by
  have cD:g.obj U.next=some [.fz true .nils 0 [],.fz true .nils 0 [],.fz true .nils 0 []]:=by rw[k.obj _ (Nat.lt_succ_self _),qa,if_pos rfl]
  exact⟨by rw[Z9 cD,if_pos ⟨by simp,by simp only[List.all_cons,List.all_nil,z0,z1,z2];rfl⟩];rfl,by rw[zDt,if_pos rfl];rfl⟩
 generalize hS:((U.new [.fz true .nils 0 [],.fz true .nils 0 [],.fz true .nils 0 []]).new [.int .i64 p]).kill (U.next+1)=S;have wJ:S.next=U.next+2:=by rw[<-hS];rfl
 have u9:Keep (U.new [.fz true .nils 0 [],.fz true .nils 0 [],.fz true .nils 0 []]) S:=by rw[<-hS];exact(zD _ _).kill (vM _)
 have df:=zD U [.fz true .nils 0 [],.fz true .nils 0 [],.fz true .nils 0 []];rcases Nat.eq_zero_or_pos n with uU|aD
 .as_aux_lemma=>
  subst uU;refine zDC hr (λh1 k1=>?_) λh1 cap hc k1 ho ag=>?_
  .have k2:=(u9.trans k1).new [.fz true .nils 0 [],.fz true .nils 0 [],.fz true .nils 0 []];obtain⟨g1,g2⟩:=rV k2 (u0:=.fz true .nils 0 []) (u1:=.fz true .nils 0 []) (u2:=.fz true .nils 0 []) rfl rfl rfl;have g3:(h1.new [.fz true .nils 0 [],.fz true .nils 0 [],.fz true .nils 0 []]).rd h1.next 0 3=some [.fz true .nils 0 [],.fz true .nils 0 [],.fz true .nils 0 []]:=by simp only[Z3,seval,-ae]
   simp only[Z3,seval,-ae];refine zF (λm us h'=>m=0/\us=[.ptr s 0,.ptr U.next 0,.int .i64 (0:Nat),.ptr h1.next 0,.int .i64 (0:Nat),.int .i64 (0:Nat)]/\h'=h1.new [.fz true .nils 0 [],.fz true .nils 0 [],.fz true .nils 0 []]) 0 ⟨rfl,rfl,rfl⟩ ?_
   rintro m us h' ⟨rfl,rfl,rfl⟩
   generalize hg:h1.new [.fz true .nils 0 [],.fz true .nils 0 [],.fz true .nils 0 []]=g at *
   simp only[Z3,seval,-ae,g1,g2,g3];exact Gh.treeO (t:=.agg [.nil,.nil,.nil]) ((df.trans k2).set (vM _) _) ⟨trivial,trivial,trivial,trivial⟩ List.nodup_nil λa T h1 h2=>hk _ _ _ T ⟨true,.nils,rfl⟩ ⟨true,.nils,[],rfl,All2.nil _⟩ ⟨true,.nils,[],rfl,All2.nil _⟩ h1 h2
  .have k2:=(u9.trans k1).new [.sl (S.next+1) 0 0 cap,.fz true .nils 0 [],.fz true .nils 0 []];obtain⟨g1,g2⟩:=rV k2 (u0:=.sl (S.next+1) 0 0 cap) (u1:=.fz true .nils 0 []) (u2:=.fz true .nils 0 []) rfl rfl rfl;have g3:(h1.new [.sl (S.next+1) 0 0 cap,.fz true .nils 0 [],.fz true .nils 0 []]).rd h1.next 0 3=some [.sl (S.next+1) 0 0 cap,.fz true .nils 0 [],.fz true .nils 0 []]:=by simp only[Z3,seval,-ae]
   simp only[Z3,seval,-ae];refine zF (λm us h'=>m=0/\us=[.ptr s 0,.ptr U.next 0,.int .i64 (0:Nat),.ptr h1.next 0,.int .i64 (0:Nat),.int .i64 (0:Nat)]/\h'=h1.new [.sl (S.next+1) 0 0 cap,.fz true .nils 0 [],.fz true .nils 0 []]) 0 ⟨rfl,rfl,rfl⟩ ?_
   rintro m us h' ⟨rfl,rfl,rfl⟩
   generalize hg:h1.new [.sl (S.next+1) 0 0 cap,.fz true .nils 0 [],.fz true .nils 0 []]=g at *
   simp only[Z3,seval,-ae,g1,g2,g3];refine Gh.treeO (t:=.agg [TR.row (S.next+1) cap [],.nil,.nil]) ((df.trans k2).set (vM _) _) ⟨TR.row_ok hc ?_ (by omega) ?_,trivial,trivial,trivial⟩ (by simp[TR.slots,TR.slotss,TR.row]) λa T h1 h2=>hk _ _ _ T TR.row_FI ⟨true,.nils,[],rfl,All2.nil _⟩ ⟨true,.nils,[],rfl,All2.nil _⟩ h1 h2
   .rw[zI,if_neg (by omega),<-hg,qa,if_neg (by omega)];exact ho
   .rw[<-hg];show S.next+1<h1.next+1;omega
 refine zC9 (n:=n) hr (by simp) aD aW λcapO vQ vC pc ls h1 oa ti kE m4 fV=>?_;obtain⟨sP,capP,rfl,cP,oP,lP,bP,xP⟩:=ti.accP.pos (by omega);obtain⟨sC,capC,rfl,cC,oC,lC,bC,xC⟩:=ti.accC.pos (by omega);rw[kE]at cP;rw[m4]at cC;have xp:=ti.oO;have tE:=ti.sOb;have b:BF (U.new [.fz true .nils 0 [],.fz true .nils 0 [],.fz true .nils 0 []]) (h1.new [.sl (S.next+1) 0 n capO,.sl sP 0 n capP,.sl sC 0 n capC]) h1.next (S.next+1) sP sC ls:=by
  have hb:∀s,s∈[h1.next,S.next+1,sP,sC]++LS.slots ls->S.next<=s/\s<h1.next+1:=λs hs=>by
   simp only[List.cons_append,List.nil_append,List.mem_cons]at hs
   have:=ti.keep.next
   rcases hs with rfl|rfl|rfl|rfl|hs
   .omega
   .omega
   .omega
   .omega
   .have:=ti.lt hs;omega
  refine⟨λs hs=>⟨by have:=(hb s hs).1;show U.next+1<=s;omega,(hb s hs).2⟩,?_⟩;simp only[List.cons_append,List.nil_append,List.nodup_cons,List.mem_cons,not_or];refine⟨⟨by omega,by omega,by omega,λhm=>by have:=(ti.lt hm).2;omega⟩,⟨λe=>ti.neP (S.next+1) (.inr (.inr rfl)) 0 _ capP (by rw[<-e]),λe=>ti.neC (S.next+1) (.inr (.inr rfl)) 0 _ capC (by rw[<-e]),ti.neL.2⟩,⟨λe=>ti.nePC sP 0 _ capP rfl 0 _ capC (by rw[e]),λhm=>ti.neP sP (.inl hm) 0 _ capP rfl⟩,λhm=>ti.neC sC (.inl hm) 0 _ capC rfl,ti.nd⟩
 have li:LI (U.new [.fz true .nils 0 [],.fz true .nils 0 [],.fz true .nils 0 []]) (h1.new [.sl (S.next+1) 0 n capO,.sl sP 0 n capP,.sl sC 0 n capC]) (h1.new [.sl (S.next+1) 0 n capO,.sl sP 0 n capP,.sl sC 0 n capC]) h1.next (S.next+1) sP sC (.sl (S.next+1) 0 n capO) capP capC n (pis (List.replicate n p)) pc ls [] [] []:=by
  refine⟨(u9.trans ti.keep).new _,vM _,by rw[qa,if_pos rfl],by rw[qa,if_neg (by omega)];exact xp,by rw[qa,if_neg (by omega)];simpa using oP,by rw[qa,if_neg (by omega)];exact oC,λj q hq=>?_,λq hq=>(by simp at hq),by simp[ZU]⟩
  have:=(ti.ok q (List.mem_of_getElem? hq))
  rw[qa,if_neg (by have:=this.2.2.2;omega),this.2.1];unfold cont;simp
 rw[kE,m4];simp only[Z3,seval,-ae];clear oP oC lP lC bP bC xp tE;generalize h1.new [.sl (S.next+1) 0 n capO,.sl sP 0 n capP,.sl sC 0 n capC]=H at *
 generalize h1.next=tp at *
 refine zF (λm us h=>∃(i:Nat) (rows:List SR) (Rs:List (List SR)),i<=n/\m=n-i/\us=[.ptr s 0,.ptr U.next 0,.int .i64 n,.ptr tp 0,.int .i64 n,.int .i64 i]/\LI (U.new [.fz true .nils 0 [],.fz true .nils 0 [],.fz true .nils 0 []]) H h tp (S.next+1) sP sC (.sl (S.next+1) 0 n capO) capP capC n (pis (List.replicate n p)) pc ls rows Rs []/\rows.length=i/\Rs.length=i/\rows.map SR.x=lgPs p n W B i/\Rs.map (λR=>R.map SR.x)=lgCs p n W B i) n ⟨0,[],[],by omega,by omega,rfl,li,rfl,rfl,rfl,rfl⟩ ?_
 as_aux_lemma=>
 rintro m us h ⟨i,rows,Rs,hi,rfl,rfl,a,aR,mf,iY,td⟩
 have sR:PtrR (U.new [.fz true .nils 0 [],.fz true .nils 0 [],.fz true .nils 0 []]) s p (.fz wp ap W.length rp) vB:=hs.new _;have kU:=sR.keep a.keep;have p0:h.rd1 s 0=some (.int .i64 p):=by rw[zG kU.obj];rfl
 have f1:h.rd1 tp 1=some (.sl sP 0 n capP):=by rw[zG a.tpo];rfl
 have f2:h.rd1 tp 2=some (.sl sC 0 n capC):=by rw[zG a.tpo];rfl
 have f3:h.rd tp 0 3=some [.sl (S.next+1) 0 n capO,.sl sP 0 n capP,.sl sC 0 n capC]:=by rw[ZN a.tpo];rfl
 simp only[Z3,seval,-ae];refine iteI (λag=>?_) λaF=>?_;rotate_left
 .as_aux_lemma=>
  have aJ:i=n:=by omega
  rw[aJ]at aR mf iY td;obtain⟨g1,g2⟩:=rV a.keep (u0:=.sl (S.next+1) 0 n capO) (u1:=.sl sP 0 n capP) (u2:=.sl sC 0 n capC) rfl rfl rfl;simp only[Z3,seval,-ae,f3,g1,g2];have hf:Fits ls Rs:=by
   refine⟨by omega,λj o' R ho hR=>?_⟩;obtain⟨hj,jr⟩:=List.getElem?_eq_some_iff.1 ho;obtain⟨Dk,A3⟩:=List.getElem?_eq_some_iff.1 hR;have BV:R.length=n-1-j:=by
    have e:=congrArg (λL=>L[j]?) td;simp only[List.getElem?_map,hR,Option.map_some]at e;unfold lgCs at e;rw[List.getElem?_map,List.getElem?_range (by omega)]at e;simp only[Option.map_some,Option.some.injEq]at e
    have:=congrArg List.length e
    simpa [lgR]using this
   obtain⟨s1,s2⟩:=fV j hj;rw[jr]at s1 s2;by_cases e:j+1=n
   .rw[s1 e];exact List.eq_nil_of_length_eq_zero (by omega)
   .obtain⟨q,e1,e2⟩:=s2 (by omega);rw[e1];show R.length=_;omega
  have fin:=LI.fin (K:=K) (Y:=[.sl (S.next+1) 0 n capO,.sl sP 0 n capP,.sl sC 0 n capC]) (res:=U.next) (capO:=capO) (capP:=capP) (capC:=capC) df ⟨vM _,Nat.lt_succ_self _⟩ (by rw[List.length_replicate];exact oa) (by rw[aR];exact cP) (by rw[mf];exact cC) (by omega) (λq hq=>(ti.ok q hq).1) b a hf λvO vQ vC t h1 h2 h3 h4 h5=>hk vO vQ vC t h1 (by rw[<-iY];exact h2) (by rw[<-td];exact h3) h4 h5;rw[List.length_replicate,aR,mf]at fin;exact fin
 have aG:i<n:=by omega
 have hu:=zU (n:=n) o.pr aG;have ai:¬tp=h.next:=by have:=(b.b tp (by simp)).2;have:=a.nx;omega
 simp only[Z3,seval,-ae];refine qm (by omega) aG λa1=>?_;simp only[Z3,seval,-ae,f1,p0,eV];refine zAk o kU aH.P hu ⟨true,a1,by rw[hu.1]⟩ (k:=p) (by omega) λv1 tk=>?_;have bh:=zH o (k:=p) (m:=0) hu hu;simp only[Z3,seval,-ae,f1];refine zC5 z kU aH (x:=lmul p W p (unitL n i)) bh tk λgd mb=>?_;have aV:(vcG p n W B (lmul p W p (unitL n i))).length=n:=QC n;have ug:vcG p n W B (lmul p W p (unitL n i))=lgP p n W B i:=rfl;rw[ug]at aV ⊢;have a9:=a;obtain⟨u1,a2⟩:=LI.putP b a (x:=lgP p n W B i) (cap:=gd) (by rw[aV];exact mb) (by omega);rw[aR,aV]at u1;rw[aR]at a2;have yw:(h.new (pis (lgP p n W B i))).rd1 tp 1=some (.sl sP 0 n capP):=by rw[zG (a.keepI b (zD h _)).tpo];rfl
 generalize h.new (pis (lgP p n W B i))=hN at *
 have bX:(rows++[(⟨h.next,gd,lgP p n W B i⟩:SR)]).map SR.x=lgPs p n W B (i+1):=by
  rw[List.map_append,iY];unfold lgPs;rw[List.range_succ,List.map_append];rfl
 have pE:(rows++[(⟨h.next,gd,lgP p n W B i⟩:SR)]).length=i+1:=by rw[List.length_append,aR];rfl
 generalize rows++[(⟨h.next,gd,lgP p n W B i⟩:SR)]=gv at *
 clear f1 f2 f3 p0 iY aR a9;generalize hN.set sP (gv.map SR.pv++pc.drop (i+1))=h0 at *
 have lC:∀{g:PHeap} {cur:List SR},LI (U.new [.fz true .nils 0 [],.fz true .nils 0 [],.fz true .nils 0 []]) H g tp (S.next+1) sP sC (.sl (S.next+1) 0 n capO) capP capC n (pis (List.replicate n p)) pc ls gv Rs cur->g.rd1 tp 2=some (.sl sC 0 n capC)/\g.rd1 sC i=some (LS.pvo (ls[i]'(by omega)))/\g.rd1 s 0=some (.int .i64 p):=λ{g cur} l=>by
  refine⟨by rw[zG l.tpo];rfl,?_,by rw[zG (sR.keep l.keep).obj];rfl⟩;rw[zG l.oC,List.getElem?_map,List.getElem?_eq_getElem (by omega)];rfl
 obtain⟨g2,gC,gp⟩:=lC a2;obtain⟨s1,s2⟩:=fV i (by omega);have kE:pLen (LS.pvo (ls[i]'(by omega)))=some (.int .i64 ((n-1-i:Nat):Int)):=by
  by_cases e:i+1=n
  .rw[s1 e,show n-1-i=0 by omega];rfl
  .obtain⟨q',e1,e2⟩:=s2 (by omega);rw[e1,<-e2];rfl
 simp only[Z3,seval,-ae,yw,aG,u1,g2,gC,kE];clear u1 yw;refine zL9 2 (λe h=>∃(cur:List SR) (b0:PV),e=PEnv.mk [0,2,3,4,5,6,21,22,46,47,48] [.ptr s 0,.ptr U.next 0,.int .i64 n,.ptr tp 0,.int .i64 i,.fz true a1 n (pis (unitL n i)),.int .i64 n,.int .i64 i,.int .i64 ((n-1-i:Nat):Int),.int .i64 ((n-1-i:Nat):Int),b0]/\LI (U.new [.fz true .nils 0 [],.fz true .nils 0 [],.fz true .nils 0 []]) H h tp (S.next+1) sP sC (.sl (S.next+1) 0 n capO) capP capC n (pis (List.replicate n p)) pc ls gv Rs cur/\cur.map SR.x=lgR p n W B i (n-1-i)) (λQ hQ=>?_) ?_;rotate_left
 .as_aux_lemma=>
  rintro e h9 ⟨cur,b0,rfl,l,bW⟩
  have eB:cur.length=n-1-i:=by have:=congrArg List.length bW;simpa [lgR]using this
  have l2:=l.close (λq' cJ=>by
   rw[mf]at cJ;obtain⟨hj,jr⟩:=List.getElem?_eq_some_iff.1 cJ;by_cases e:i+1=n
   .rw[s1 e]at jr;cases jr
   .obtain⟨q2,e1,e2⟩:=s2 (by omega);rw[e1]at jr;cases jr;omega)
  simp only[Z3,seval,-ae,wrapS aG (by omega:n<=4611686018427387904)];refine⟨_,by omega,i+1,gv,Rs++[cur],by omega,rfl,rfl,l2,pE,by rw[List.length_append,mf];rfl,bX,?_⟩;rw[List.map_append,td];unfold lgCs;rw[List.range_succ,List.map_append];simp only[List.map_cons,List.map_nil,bW]
 as_aux_lemma=>
 refine zF (λm us h=>∃(k:Nat) (cur:List SR),k<=n-1-i/\m=n-1-i-k/\us=[.ptr s 0,.ptr U.next 0,.int .i64 n,.ptr tp 0,.int .i64 i,.fz true a1 n (pis (unitL n i)),.int .i64 n,.int .i64 i,.int .i64 ((n-1-i:Nat):Int),.int .i64 k]/\LI (U.new [.fz true .nils 0 [],.fz true .nils 0 [],.fz true .nils 0 []]) H h tp (S.next+1) sP sC (.sl (S.next+1) 0 n capO) capP capC n (pis (List.replicate n p)) pc ls gv Rs cur/\cur.length=k/\cur.map SR.x=lgR p n W B i k) (n-1-i) ⟨0,[],by omega,by omega,rfl,a2,rfl,rfl⟩ ?_
 rintro m us h8 ⟨k,cur,x7,rfl,rfl,l,eB,bW⟩
 obtain⟨g2,gC,gp⟩:=lC l;simp only[Z3,seval,-ae];refine iteI (λAQ=>?_) λBh=>?_;rotate_left
 .have fI:k=n-1-i:=by omega
  rw[fI]at bW;exact hQ _ _ ⟨cur,_,by rw[fI],l,bW⟩
 have cw:k<n-1-i:=by omega
 obtain⟨q0,e1,e2⟩:=s2 (by omega);have hj:i+(1+k)<n:=by omega
 have pa:=zU (n:=n) o.pr hj;have yy:IntKind.i64.wrap ((i:Int)+1)=((i+1:Nat):Int):=by rw[wrap64 (by omega) (by omega)];omega
 have yx:IntKind.i64.wrap (((i+1:Nat):Int)+(k:Int))=((i+(1+k):Nat):Int):=by rw[wrap64 (by omega) (by omega)];omega
 rw[e1]at gC;have xd:h8.rd1 sC i=some (.sl q0.s 0 q0.cs.length q0.cap):=gC;simp only[Z3,seval,-ae,g2,xd,aG,yy,yx];have pf:=sR.keep l.keep;refine zAk o pf aH.P hu ⟨true,a1,by rw[hu.1]⟩ (k:=-1) (by omega) λv1 tk=>?_;have Bo:El p n (lmul p W (-1) (unitL n i)):=zFV o hu;have xe:=tk;obtain⟨w1,x1,rfl⟩:=tk;simp only[Z3,seval,-ae,g2,xd,yy,yx];refine qm (by omega) hj λa2=>?_;have AH:¬tp=h8.next:=by have:=(b.b tp (by simp)).2;have:=l.nx;omega
 have AL:¬sC=h8.next:=by have:=(b.b sC (by simp)).2;have:=l.nx;omega
 have Db:¬s=h8.next:=by have:=pf.lt;omega
 simp only[Z3,seval,-ae,g2,xd,AH,AL];have aQ:All2 FI [.fz w1 x1 (lmul p W (-1) (unitL n i)).length (pis (lmul p W (-1) (unitL n i))),.fz true a2 n (pis (unitL n (i+(1+k)))),.fz true a1 n (pis (unitL n i))] [lmul p W (-1) (unitL n i),unitL n (i+(1+k)),unitL n i]:=
  (((All2.nil _).snoc xe).snoc ⟨true,a2,by rw[pa.1]⟩).snoc ⟨true,a1,by rw[hu.1]⟩
 refine zA.frz (s:=h8.next) (by rw[qa,if_pos rfl]) (aQ.bI 0) λo2=>?_;simp only[sbs,Go.Ab.sb,capOK,and_self,if_true,decide_true,vM];have lk:=l.keepI b (((Keep.refl h8).new [.fz w1 x1 (lmul p W (-1) (unitL n i)).length (pis (lmul p W (-1) (unitL n i))),.fz true a2 n (pis (unitL n (i+(1+k)))),.fz true a1 n (pis (unitL n i))]).kill (vM _));generalize (h8.new [.fz w1 x1 (lmul p W (-1) (unitL n i)).length (pis (lmul p W (-1) (unitL n i))),.fz true a2 n (pis (unitL n (i+(1+k)))),.fz true a1 n (pis (unitL n i))]).kill h8.next=h7 at *
 obtain⟨k2,kC,kp⟩:=lC lk;rw[e1]at kC;have Ah:h7.rd1 sC i=some (.sl q0.s 0 q0.cs.length q0.cap):=kC;have pn:=sR.keep lk.keep;have ry:Els p n [lmul p W (-1) (unitL n i),unitL n (i+(1+k)),unitL n i]:=λy hy=>by
  simp only[List.mem_cons,List.not_mem_nil,or_false]at hy;rcases hy with rfl|rfl|rfl<;>assumption
 refine zA.fzI (λK' h'=>zLw z pn aH ⟨true,_,_,rfl,aQ⟩ ry (by simp) h') λa3=>?_;have vw:=zBQ o q ry;simp only[Z3,seval,-ae,k2,Ah];refine zC5 z pn aH (x:=conj p n W B (unitL n (i+(1+k))) (unitL n i)) vw ⟨true,a3,rfl⟩ λgP iR=>?_;have aV:(vcG p n W B (conj p n W B (unitL n (i+(1+k))) (unitL n i))).length=n:=QC n;have ug:vcG p n W B (conj p n W B (unitL n (i+(1+k))) (unitL n i))=lgC p n W B i k:=rfl;rw[ug]at aV ⊢;have jG:ls[Rs.length]? = some (some q0):=by rw[mf,List.getElem?_eq_getElem (by omega),e1]
 obtain⟨u1,l2⟩:=LI.putC b lk (x:=lgC p n W B i k) (cap:=gP) (by rw[aV];exact iR) jG (by omega);rw[eB,aV]at u1;rw[eB]at l2;have lN:=lk.keepI b (zD h7 (pis (lgC p n W B i k)));obtain⟨j2,jC,jp⟩:=lC lN;rw[e1]at jC;have Ai:(h7.new (pis (lgC p n W B i k))).rd1 sC i=some (.sl q0.s 0 q0.cs.length q0.cap):=jC;generalize h7.new (pis (lgC p n W B i k))=hN at *
 have lA:(cur++[(⟨h7.next,gP,lgC p n W B i k⟩:SR)]).map SR.x=lgR p n W B i (k+1):=by
  rw[List.map_append,bW];unfold lgR;rw[List.range_succ,List.map_append];rfl
 have wg:(cur++[(⟨h7.next,gP,lgC p n W B i k⟩:SR)]).length=k+1:=by rw[List.length_append,eB];rfl
 generalize cur++[(⟨h7.next,gP,lgC p n W B i k⟩:SR)]=sg at *
 generalize hN.set q0.s (sg.map SR.pv++q0.cs.drop (k+1))=hE at *
 have AX:k<q0.cs.length:=by omega
 simp only[Z3,seval,-ae,j2,Ai,AX,u1,wrapS cw (by omega:n-1-i<=4611686018427387904)];exact⟨_,by omega,k+1,sg,by omega,rfl,rfl,l2,wg,lA⟩
end Go.Proofs
namespace Go.Proofs
open Go.Ab Go.Lie
variable{U h:PHeap}{K:PV->PHeap->Prop}{n c:Nat}{p:Int}{W:L4}{B:L5}{vP vB:PV}{s:Nat}
theorem zME{i j:Nat}(hi:i<n):at_ (unitL n i) j=if j=i then 1 else 0:=by
 unfold unitL;rw[at_set (by simp;exact hi),ZF]
theorem zRr(o:OkW p n W){i:Nat}(hi:i<n):lmul p W p (unitL n i)=W.getD i []:=by
 have hl:=o.len;have kF:i<W.length:=by omega
 obtain⟨r1,r2,r3⟩:=o.row i kF;rw[ZE kF];obtain⟨e1,e2⟩:=QD o (zU (n:=n) o.pr hi) p;refine ZZ o e1.1 r1 e1.2 r2 (e2.trans ?_);have h1:=((Eqv.rel (p:=p) (n:=n) (W:=W) hi).symm).add (Eqv.refl (λj=>p*at_ (unitL n i) j));refine((Eqv.of_eq λj=>by omega).trans h1).trans (Eqv.of_eq λj=>?_);rw[zME hi];unfold rel w_;rw[ZE kF];split<;>omega
structure ST(T h:PHeap)(p0:Nat)(fs:List (PV×List PV))(ls:List LS):Prop where
 keep:Keep T h
 obj:h.obj p0=some (fs.map Prod.fst)
 p0b:T.next<=p0/\p0<h.next
 acc:∀f,f∈fs->PSl T.next 1 h f.1 f.2.length f.2
 ne:∀f,f∈fs->∀off l c,f.1≠.sl p0 off l c
 dis:∀(i j:Nat) f g,fs[i]? = some f->fs[j]? = some g->i≠j->∀s off l c,f.1=.sl s off l c->∀off l c,g.1≠.sl s off l c
 lok:∀q,q∈ls->q.ok h T.next
 lne:∀q,q∈ls->q.s≠p0/\∀f,f∈fs->∀off l c,f.1≠.sl q.s off l c
variable{T:PHeap}{p0:Nat}{fs:List (PV×List PV)}{ls:List LS}
theorem zHj{b e m:Nat}{h h2:PHeap}{v:PV}{cs:List PV}(a:PSl b e h v m cs)(ho:∀s off l c,v=.sl s off l c->h2.obj s=h.obj s)(hn:h.next<=h2.next):PSl b e h2 v m cs:=by
 obtain⟨s,cap,rfl,h1,gR,h3,h4,h5⟩:=a;exact⟨s,cap,rfl,h1,by rw[ho s 0 _ cap rfl];exact gR,h3,h4,Nat.lt_of_lt_of_le h5 hn⟩
theorem zFM{b e m:Nat}{h:PHeap}{v:PV}{cs:List PV}(a:PSl b e h v m cs){s off l:Nat}{c:Cap}(hv:v=.sl s off l c):s<h.next:=zAe a.acc hv
theorem ST.keepI{h2:PHeap}(a:ST T h p0 fs ls)(k:Keep h h2):ST T h2 p0 fs ls:=
 ⟨a.keep.trans k,by rw[k.obj _ a.p0b.2];exact a.obj,⟨a.p0b.1,Nat.lt_of_lt_of_le a.p0b.2 k.next⟩,λf hf=>(a.acc f hf).keep k,a.ne,a.dis,λq hq=>(a.lok q hq).move (k.obj _ (a.lok q hq).2.2.2) k.next,a.lne⟩
theorem ST.more{q:LS}(a:ST T h p0 fs ls)(h1:q.ok h T.next)(h2:q.s≠p0/\∀f,f∈fs->∀off l c,f.1≠.sl q.s off l c):ST T h p0 fs (ls++[q]):=
 ⟨a.keep,a.obj,a.p0b,a.acc,a.ne,a.dis,λq' hq=>(List.mem_append.1 hq).elim (a.lok q') λe=>by rw[List.mem_singleton.1 e];exact h1,λq' hq=>(List.mem_append.1 hq).elim (a.lne q') λe=>by rw[List.mem_singleton.1 e];exact h2⟩
theorem ST.push{K:PV×PHeap->Prop}{bytes j:Nat}{v x:PV}{cs:List PV}(a:ST T h p0 fs ls)(hj:fs[j]? = some (v,cs))(hb:cs.length<=1000)(BD:bytes<=24)(aK:∀f,f∈fs->f.1.one=true)
    (k:∀v' h2,v'.one=true->v'.cells=[v']->h2.wr p0 j [v']=some (h2.set p0 ((fs.set j (v',cs++[x])).map Prod.fst))->ST T (h2.set p0 ((fs.set j (v',cs++[x])).map Prod.fst)) p0 (fs.set j (v',cs++[x])) ls->K (v',h2)):
    optK (Zb 1 bytes (h.new [x]) v (.sl h.next 0 1 (.known 1))) K:=by
  have hm:(v,cs)∈fs:=List.mem_of_getElem? hj;obtain⟨fv,jr⟩:=List.getElem?_eq_some_iff.1 hj;have dw:(cs.length+1)*bytes<=1001*24:=Nat.mul_le_mul (by omega) BD;refine PAcc.pushS (σb:=T) (bytes:=bytes) a.keep (a.acc _ hm).acc rfl (by show(cs.length+1)*bytes<=_;omega) (by show cs.length+1<=_;omega) λv' h2 k2 a2 o2 n2 l2=>?_;have hp:=a.p0b;have jm:h2.obj p0=some (fs.map Prod.fst):=by rw[o2 _ hp.2 (a.ne _ hm)];exact a.obj
  have dA:(fs.set j (v',cs++[x])).map Prod.fst=(fs.map Prod.fst).set j v':=by rw[List.map_set]
  have eT:∀f,f∈fs.set j (v',cs++[x])->f=(v',cs++[x])\/∃i,i≠j/\fs[i]? = some f:=λf hf=>by
    obtain⟨i,hi⟩:=List.getElem?_of_mem hf;rw[List.getElem?_set]at hi;split at hi
    . first
      |(cases hi;exact .inl rfl)
      | (split at hi
         .cases hi;exact .inl rfl
         .cases hi)
    .rename_i e;exact .inr ⟨i,λe2=>e e2.symm,hi⟩
  refine k v' h2 a2.one a2.cells ?_ ⟨k2.set hp.1 _,by rw[zI,if_pos rfl],⟨hp.1,by show p0<h2.next;omega⟩,λf hf=>?_,λf hf=>?_,λi1 i2 f g hf hg ai s off l c e=>?_,λq hq=>?_,λq hq=>⟨(a.lne q hq).1,λf hf=>?_⟩⟩
  . rw[Z9 jm,if_pos ⟨by rw[List.length_map,List.length_singleton];omega,by simp only[List.all_cons,List.all_nil,a2.one];rfl⟩,dA]
    congr 2;rw[List.append_assoc,List.singleton_append,List.length_singleton,take_set _ (by rw[List.length_map];exact fv)]
  . rcases eT f hf with rfl|⟨i,hi,he⟩
    . have a3:PSl T.next 1 (h2.set p0 ((fs.set j (v',cs++[x])).map Prod.fst)) v' (cs.length+1) (cs++[x]):=zHj a2 (λs off l c e=>by rw[zI,if_neg λe2=>n2 p0 hp.2 off l c (by rw[e,e2])]) (vM _)
      simpa using a3
    . have ni:=List.mem_of_getElem? he
      refine zHj (a.acc f ni) (λs off l c e=>?_) (Nat.le_of_lt l2);rw[zI,if_neg λe2=>a.ne f ni off l c (by rw[e,e2]),o2 s (zFM (a.acc f ni) e) (a.dis i j f _ he hj hi s off l c e)]
  . rcases eT f hf with rfl|⟨i,hi,he⟩
    .exact n2 p0 hp.2
    .exact a.ne f (List.mem_of_getElem? he)
  . rw[List.getElem?_set]at hf hg
    by_cases e1:j=i1
    . rw[if_pos e1,if_pos fv]at hf
      cases hf;rw[if_neg λe2=>ai (e1.symm.trans e2)]at hg;have qn:=List.mem_of_getElem? hg;intro di l' c' e';exact n2 s (zFM (a.acc g qn) e') off l c e
    . rw[if_neg e1]at hf
      have ni:=List.mem_of_getElem? hf;by_cases e2:j=i2
      . rw[if_pos e2,if_pos fv]at hg
        cases hg;exact n2 s (zFM (a.acc f ni) e)
      . rw[if_neg e2]at hg
        exact a.dis i1 i2 f g hf hg ai s off l c e
  . have cJ:=a.lok q hq
    refine cJ.move ?_ (Nat.le_of_lt l2);rw[zI,if_neg (a.lne q hq).1,o2 _ cJ.2.2.2 ((a.lne q hq).2 _ hm)]
  . rcases eT f hf with rfl|⟨i,hi,he⟩
    .exact n2 _ (a.lok q hq).2.2.2
    .exact(a.lne q hq).2 f (List.mem_of_getElem? he)
theorem zB0:∀cs:List PV,TR.pvs (cs.map TR.leaf)=cs
 |[]=>rfl
 |c::cs=>by simp only[List.map_cons,TR.pvs,TR.pv,zB0 cs]
theorem zB2{a:Nat->Nat}:∀cs:List PV,TR.fzs a (cs.map TR.leaf)=cs
 |[]=>rfl
 |c::cs=>by simp only[List.map_cons,TR.fzs,TR.fz,zB2 cs]
theorem zB1{b:Nat}:∀{cs:List PV},Bels 0 cs->TR.okFs h b (cs.map TR.leaf)
 |[],_=>trivial
 |c::cs,hb=>⟨hb.1,zB1 hb.2⟩
def LS.tr(q:LS):TR:=.lst q.s q.cap (q.cs.map TR.leaf)
theorem LS.tr_pvs:∀ls:List LS,TR.pvs (ls.map LS.tr)=ls.map LS.pv
 |[]=>rfl
 |q::ls=>by simp only[List.map_cons,TR.pvs,LS.tr_pvs ls];simp only[LS.tr,TR.pv,List.length_map,LS.pv]
theorem LS.tr_okF{b:Nat}{q:LS}(h1:q.ok h b)(h2:Bels 0 q.cs):(LS.tr q).okF h b:=⟨⟨by rw[List.length_map];exact h1.1,by rw[zB0];exact h1.2.1,h1.2.2.1,h1.2.2.2⟩,zB1 h2⟩
theorem LS.trs_okF{b:Nat}:∀{ls:List LS},(∀q,q∈ls->q.ok h b/\Bels 0 q.cs)->TR.okFs h b (ls.map LS.tr)
 |[],_=>trivial
 |q::ls,k=>⟨LS.tr_okF (k q (List.mem_cons_self ..)).1 (k q (List.mem_cons_self ..)).2,LS.trs_okF λq' hq=>k q' (List.mem_cons_of_mem _ hq)⟩
def zIv(ls:List LS)(Ms:L5):Prop:=All2 (λ(q:LS) (R:L4)=>All2 FI q.cs R) ls Ms
theorem zI5{a:Nat->Nat}{ls:List LS}{Ms:L5}(k:zIv ls Ms):All2 FII (TR.fzs a (ls.map LS.tr)) Ms:=by
 have hl:∀ls:List LS,(TR.fzs a (ls.map LS.tr)).length=ls.length:=λls=>by rw[TR.fzs_length,List.length_map]
 have hg:∀(ls:List LS) (i:Nat),(TR.fzs a (ls.map LS.tr))[i]? = ls[i]?.map λq=>(LS.tr q).fz a:=by
  intro ls
  induction ls with
  |nil=>intro i;simp[TR.fzs]
  |cons q ls ih=>
   intro i;cases i with
   |zero=>simp[TR.fzs]
   |succ i=>simpa [TR.fzs]using ih i
 refine⟨by rw[hl];exact k.1,λi c R hc hR=>?_⟩;rw[hg]at hc;obtain⟨q,hq,rfl⟩:=Option.map_eq_some_iff.1 hc;have h2:=k.2 i q R hq hR;exact⟨true,.sl (a q.s) 0 q.cs.length q.cap,q.cs,by simp only[LS.tr,TR.fz,zB2,List.length_map];rw[h2.1],h2⟩
theorem zJj(z:Lz p n W B c)(hR:IsR vP vB W B)(hk:∀vO vQ vC,FI vO (List.replicate n p)->FII vQ (lgPs p n W B n)->FIII vC (lgCs p n W B n)->K (.agg [vO,vQ,vC]) U):zA Tryz.prog 88 [.agg [.int .i64 p,vP,vB]] U K:=by
 have o:=z.r.o;have q:=z.r.q;have aW:=o.le;have eV:=o.len;have jb:=z.hp.bd;have aH:=hR;have Cc:=hR.B.one;obtain⟨⟨wp,ap,rp,rfl,lR⟩,hB⟩:=hR;refine zA.gh ?_;generalize hT:(U.new [.int .i64 p,.fz wp ap W.length rp,vB]).new [.fz true .nils 0 [],.fz true .nils 0 [],.fz true .nils 0 []]=T;have iV:T.next=U.next+2:=by rw[<-hT];rfl
 have A1:Keep U T:=by rw[<-hT];exact(zD U _).new _
 have ld:∀{g:PHeap},Keep T g->g.rd U.next 0 3=some [.int .i64 p,.fz wp ap W.length rp,vB]/\g.rd1 U.next 0=some (.int .i64 p)/\g.rd1 U.next 1=some (.fz wp ap W.length rp):=λ{g} k=>by
  have ob:g.obj U.next=some [.int .i64 p,.fz wp ap W.length rp,vB]:=by rw[k.obj _ (by omega),<-hT];simp only[Z3,seval,-ae]
  exact⟨by rw[ZN ob];rfl,by rw[zG ob];rfl,by rw[zG ob];rfl⟩
 have rV:∀{g:PHeap} {u0 u1 u2:PV},Keep T g->u0.one=true->u1.one=true->u2.one=true->g.wr (U.next+1) 0 [u0,u1,u2]=some (g.set (U.next+1) [u0,u1,u2])/\(g.set (U.next+1) [u0,u1,u2]).rd (U.next+1) 0 3=some [u0,u1,u2]:=λ{g u0 u1 u2} k z0 z1 z2=>by
  have cD:g.obj (U.next+1)=some [.fz true .nils 0 [],.fz true .nils 0 [],.fz true .nils 0 []]:=by rw[k.obj _ (by omega),<-hT];simp only[Z3,seval,-ae]
  exact⟨by rw[Z9 cD,if_pos ⟨by simp,by simp only[List.all_cons,List.all_nil,z0,z1,z2];rfl⟩];rfl,by rw[zDt,if_pos rfl];rfl⟩
 obtain⟨l3,l0,l1⟩:=ld (Keep.refl T);refine zP mix Tryz.func88 cf88 rfl ?_;dsimp only[if88,qI,eI,qD,eD,mI0,kI0,lI0,LI0,fI0,bI0,cI0,sI0,mD0,lD0,fD0,xD0,vI0,wD0,R0,S0];simp only[Z3,seval,-ae,Cc];rw[hT];simp only[Z3,seval,-ae,l1,eV];refine zF (λm us h=>∃(i:Nat) (vO vP vC:PV) (cO cP cC:List PV) (ls:List LS),i<=n/\m=n-i/\us=[.ptr U.next 0,.ptr (U.next+1) 0,.int .i64 n,.ptr (U.next+5) 0,.int .i64 i]/\ST T h (U.next+5) [(vO,cO),(vP,cP),(vC,cC)] ls/\cO=pis (List.replicate i p)/\All2 FI cP (lgPs p n W B i)/\cC=ls.map LS.pv/\zIv ls (lgCs p n W B i)) n ?_ ?_
 .refine⟨0,.sl (U.next+2) 0 0 (.known 0),.sl (U.next+3) 0 0 (.known 0),.sl (U.next+4) 0 0 (.known 0),[],[],[],[],by omega,by omega,rfl,⟨(((zD T _).new _).new _).new _,by simp only[Z3,seval,-ae,iV],⟨by omega,by first|(simp only[Z3,seval,-ae,iV];done)|(simp only[Z3,seval,-ae,iV];omega)⟩,λf hf=>?_,λf hf off l c e=>?_,λi j f g hf hg ai s off l c e di l' c' e'=>?_,λq hq=>(by cases hq),λq hq=>(by cases hq)⟩,rfl,All2.nil _,rfl,All2.nil _⟩
  .simp only[List.mem_cons,List.not_mem_nil,or_false]at hf;rcases hf with rfl|rfl|rfl
   .exact PSl.own (.inr rfl) (by simp only[Z3,seval,-ae,iV]) rfl (by omega) (by first|(simp only[Z3,seval,-ae,iV];done)|(simp only[Z3,seval,-ae,iV];omega))
   .exact PSl.own (.inr rfl) (by simp only[Z3,seval,-ae,iV]) rfl (by omega) (by first|(simp only[Z3,seval,-ae,iV];done)|(simp only[Z3,seval,-ae,iV];omega))
   .exact PSl.own (.inr rfl) (by simp only[Z3,seval,-ae,iV]) rfl (by omega) (by first|(simp only[Z3,seval,-ae,iV];done)|(simp only[Z3,seval,-ae,iV];omega))
  .simp only[List.mem_cons,List.not_mem_nil,or_false]at hf;rcases hf with rfl|rfl|rfl<;>(simp only[PV.sl.injEq]at e;omega)
  .match i,j with
   |0,0=>exact ai rfl
   |1,1=>exact ai rfl
   |2,2=>exact ai rfl
   |0,1|0,2|1,0|1,2|2,0|2,1=>cases hf;cases hg;simp only[PV.sl.injEq]at e e';omega
   |i+3,_=>simp at hf
   |0,j+3|1,j+3|2,j+3=>simp at hg
 as_aux_lemma=>
 rintro m us h ⟨i,vO,vP,vC,cO,cP,cC,ls,hi,rfl,rfl,a,oa,rJ,rK,nZ⟩
 obtain⟨l3,l0,l1⟩:=ld a.keep;have aO:=a.acc (vO,cO) (by simp);have aP:=a.acc (vP,cP) (by simp);have aC:=a.acc (vC,cC) (by simp);have f0:h.rd1 (U.next+5) 0=some vO:=by rw[zG a.obj];rfl
 have f3:h.rd (U.next+5) 0 3=some [vO,vP,vC]:=by rw[ZN a.obj];rfl
 simp only[Z3,seval,-ae];refine iteI (λag=>?_) λaF=>?_;rotate_left
 .as_aux_lemma=>
  have aJ:i=n:=by omega
  subst aJ;obtain⟨g1,g2⟩:=rV a.keep aO.one aP.one aC.one;simp only[Z3,seval,-ae,f3,g1,g2];obtain⟨sO,capO,e1,o1,o2,o3,o4,o5⟩:=aO;obtain⟨sP,capP,e2,q1,q2,q3,q4,q5⟩:=aP;obtain⟨sC,capC,e3,r1,r2,r3,r4,r5⟩:=aC;dsimp only at e1 o1 o2 o3 e2 q1 q2 q3 e3 r1 r2 r3;subst e1 e2 e3;have et:(TR.agg [.lst sO capO (cO.map TR.leaf),.lst sP capP (cP.map TR.leaf),.lst sC capC (ls.map LS.tr)]).pv=.agg [.sl sO 0 cO.length capO,.sl sP 0 cP.length capP,.sl sC 0 cC.length capC]:=by
   simp only[TR.pv,TR.pvs,List.length_map];rw[rK,List.length_map]
  rw[<-et];have ob:∀s,T.next<=s->(h.set (U.next+1) [.sl sO 0 cO.length capO,.sl sP 0 cP.length capP,.sl sC 0 cC.length capC]).obj s=h.obj s:=λs hs=>by rw[zI,if_neg (by omega)]
  refine Gh.treeF ((A1.trans a.keep).set (by omega) _) ⟨⟨⟨by rw[List.length_map];exact o1,by rw[ob _ o4,zB0];exact o2,by omega,o5⟩,zB1 (by rw[oa];exact zO _ _)⟩,⟨⟨by rw[List.length_map];exact q1,by rw[ob _ q4,zB0];exact q2,by omega,q5⟩,zB1 (rJ.bI 0)⟩,⟨⟨by rw[List.length_map];rw[rK,List.length_map]at r1;exact r1,by rw[ob _ r4,LS.tr_pvs,<-rK];exact r2,by omega,r5⟩,LS.trs_okF λq hq=>?_⟩,trivial⟩ λaa=>hk _ _ _ ⟨true,.sl (aa sO) 0 cO.length capO,?_⟩ ⟨true,.sl (aa sP) 0 cP.length capP,cP,?_,rJ⟩ ⟨true,.sl (aa sC) 0 ls.length capC,TR.fzs aa (ls.map LS.tr),?_,zI5 nZ⟩
  .obtain⟨g1,g2,g3,g4⟩:=a.lok q hq;refine⟨⟨g1,by rw[ob _ g3];exact g2,by omega,g4⟩,?_⟩;obtain⟨k,vd,rfl⟩:=List.mem_iff_getElem.1 hq;exact(nZ.2 k _ _ (List.getElem?_eq_getElem vd) (List.getElem?_eq_getElem (by rw[<-nZ.1];exact vd))).bI 0
  .simp only[TR.fz,zB2,List.length_map];rw[oa];simp[zJ]
  .simp only[TR.fz,zB2,List.length_map];rw[rJ.1]
  .simp only[TR.fz,List.length_map];rw[nZ.1]
 have aG:i<n:=by omega
 have kF:i<W.length:=by omega
 have aK:∀f,f∈[(vO,cO),(vP,cP),(vC,cC)]->f.1.one=true:=λf hf=>(a.acc f hf).one;have BB:cO.length=i:=by rw[oa];simp[zJ]
 have BA:cP.length=i:=by rw[rJ.1];simp[lgPs]
 have BC:cC.length=i:=by rw[rK,List.length_map,nZ.1];simp[lgCs]
 simp only[Z3,seval,-ae,f0,l0];refine ST.push a (j:=0) (bytes:=8) rfl (by omega) (by omega) aK λv1 h1 z1 z2 z3 a1=>?_;simp only[List.set_cons_zero,List.map_cons,List.map_nil]at z3 a1;generalize h1.set (U.next+5) [v1,vP,vC]=h2 at *
 obtain⟨l3,l0,l1⟩:=ld a1.keep;have f1:h2.rd1 (U.next+5) 1=some vP:=by rw[zG a1.obj];rfl
 obtain⟨w4,a4,AF⟩:=lR.rowI kF;simp only[Z3,seval,-ae,z1,z2,z3,l3,l1,f1,kF,AF];obtain⟨yH,yG,CG⟩:=o.row i kF;refine zDV z aH (x:=W[i]) ⟨yH,yG⟩ ⟨w4,a4,rfl⟩ λv2 bX=>?_;have mG:FI v2 (lgP p n W B i):=by unfold lgP;rw[zRr o aG,ZE kF];exact bX
 have y1:=mG.one;have y2:=mG.cells;have AM:¬U.next+5=h2.next:=by have:=a1.p0b.2;omega
 simp only[Z3,seval,-ae,y1,y2,f1,AM];have pM:∀f,f∈[(v1,cO++[.int .i64 p]),(vP,cP),(vC,cC)]->f.1.one=true:=λf hf=>(a1.acc f hf).one;refine ST.push a1 (j:=1) (bytes:=24) rfl (by omega) (by omega) pM λv3 h3 z4 z5 z6 a3=>?_;simp only[List.set_cons_zero,List.set_cons_succ,List.map_cons,List.map_nil]at z6 a3;generalize h3.set (U.next+5) [v1,v3,vC]=h4 at *
 have gg:IntKind.i64.wrap ((i:Int)+1)=((i+1:Nat):Int):=wrapS aG (by omega);simp only[Z3,seval,-ae,z4,z5,z6,gg];clear z1 z2 z3 z4 z5 z6 f0 f1 f3 l3 l0 l1 y1 y2;refine zL9 2 (λe h=>∃(vR:PV) (cells:List PV) (b0:PV),e=PEnv.mk [1,2,3,4,5,6,7,44] [.ptr U.next 0,.ptr (U.next+1) 0,.int .i64 n,.ptr (U.next+5) 0,.int .i64 i,vR,.int .i64 n,b0]/\Keep h4 h/\PSl h4.next 1 h vR (n-1-i) cells/\All2 FI cells (lgR p n W B i (n-1-i))) (λQ hQ=>?_) ?_;rotate_left
 .as_aux_lemma=>
  rintro e h9 ⟨vR,cells,b0,rfl,k9,p9,eB⟩
  have a9:=a3.keepI k9;obtain⟨t,cap,rfl,hf,q2,q3,q4,q5⟩:=p9;have f2:h9.rd1 (U.next+5) 2=some vC:=by rw[zG a9.obj];rfl
  have uT:¬U.next+5=h9.next:=by have:=a9.p0b.2;omega
  have pL:∀f,f∈[(v1,cO++[.int .i64 p]),(v3,cP++[v2]),(vC,cC)]->f.1.one=true:=λf hf=>(a9.acc f hf).one;have yf:cells.length=n-1-i:=by omega
  have yC:=ST.more (q:=⟨t,cap,cells⟩) a9 ⟨by rw[yf];exact hf,q2,by have:=a3.keep.next;show T.next<=t;omega,q5⟩ ⟨by have:=a3.p0b.2;show t≠U.next+5;omega,λf hf off l c e=>by
   have:=zFM (a3.acc f hf) e
   have:t<h4.next:=this
   omega⟩
  simp only[Z3,seval,-ae,f2,uT];refine ST.push yC (j:=2) (bytes:=24) rfl (by omega) (by omega) pL λv5 h5 z1 z2 z3 a5=>?_;simp only[List.set_cons_zero,List.set_cons_succ,List.map_cons,List.map_nil]at z3 a5;generalize h5.set (U.next+5) [v1,v3,v5]=h6 at *
  simp only[Z3,seval,-ae,z1,z2,z3,wrapS aG (by omega:n<=4611686018427387904)];refine⟨_,by omega,i+1,v1,v3,v5,_,_,_,ls++[⟨t,cap,cells⟩],by omega,rfl,rfl,a5,?_,?_,?_,?_⟩
  .rw[oa,List.replicate_succ',<-zFO];rfl
  .unfold lgPs;rw[List.range_succ,List.map_append];exact rJ.snoc mG
  .rw[rK,List.map_append];simp only[List.map_cons,List.map_nil,LS.pv];rw[yf]
  .unfold lgCs;rw[List.range_succ,List.map_append];exact nZ.snoc eB
 as_aux_lemma=>
 refine zF (λm us h=>∃(k:Nat) (vR:PV) (cells:List PV),i+(1+k)<=n/\m=n-(i+(1+k))/\us=[.ptr U.next 0,.ptr (U.next+1) 0,.int .i64 n,.ptr (U.next+5) 0,.int .i64 i,vR,.int .i64 ((i+(1+k):Nat):Int)]/\Keep h4 h/\PSl h4.next 1 h vR k cells/\All2 FI cells (lgR p n W B i k)) (n-(i+1)) ⟨0,_,[],by omega,rfl,rfl,zD _ _,PSl.new _ 1 rfl (vM _),All2.nil _⟩ ?_
 rintro m us h7 ⟨k,vR,cells,Dh,rfl,rfl,k7,p7,eB⟩
 obtain⟨l3,l0,l1⟩:=ld (a3.keepI k7).keep;simp only[Z3,seval,-ae];refine iteI (λAS=>?_) λBi=>?_;rotate_left
 .have fI:k=n-1-i:=by omega
  subst fI;exact hQ _ _ ⟨vR,cells,_,by rw[show((i+(1+(n-1-i)):Nat):Int)=(n:Int) by omega],k7,p7,eB⟩
 have hj:i+(1+k)<n:=by omega
 have cY:=zU (n:=n) o.pr aG;have pa:=zU (n:=n) o.pr hj;simp only[Z3,seval,-ae,l3];refine Zf aH eV (by omega) hj λb1=>?_;simp only[Z3,seval,-ae,l3];refine Zf aH eV (by omega) aG λb2=>?_;simp only[Z3,seval,-ae,l3];refine zLW z aH pa cY ⟨true,b1,by rw[pa.1]⟩ ⟨true,b2,by rw[cY.1]⟩ λv6 oZ=>?_;have wj:El p n (conj p n W B (unitL n (i+(1+k))) (unitL n i)):=zBQ o q λy hy=>by
  simp only[List.mem_cons,List.not_mem_nil,or_false]at hy;rcases hy with rfl|rfl|rfl
  .exact zFV o cY
  .exact pa
  .exact cY
 simp only[Z3,seval,-ae,l3];refine zDV z aH wj oZ λv8 ur=>?_;have y1:=ur.one;have y2:=ur.cells;have dE:k<=10:=by omega
 simp only[Z3,seval,-ae,y1,y2];refine PSl.push (bytes:=24) (σb:=h4) k7 p7 (by omega) (by omega) λv9 h8 k8 p8=>?_;have e5:IntKind.i64.wrap (((i+(1+k):Nat):Int)+1)=((i+(1+(k+1)):Nat):Int):=by rw[wrap64 (by omega) (by omega)];omega
 simp only[Z3,seval,-ae,e5];refine⟨_,by omega,k+1,v9,_,by omega,rfl,rfl,k8,p8,?_⟩;unfold lgR;rw[List.range_succ,List.map_append];exact eB.snoc ur
end Go.Proofs
namespace Go.Proofs
open Go.Ab Go.Lie
variable{U:PHeap}{bs:L3}{a:Int}
def FB(v:PV)(bs:L3):Prop:=∃w a,v=.fz w a bs.length (bs.map (.int .u8))
theorem FB.one{v:PV}(h:FB v bs):v.one=true:=by obtain⟨w,a,rfl⟩:=h;rfl
theorem zMH(U:PHeap)(x y:List PV):(U.new x).set U.next y=U.new y:=by
 simp only[PHeap.new,PHeap.set];congr 1;funext t;split<;>rfl
end Go.Proofs
set_option linter.unusedSectionVars false
namespace Go.Proofs
open Go.Ab Go.Lie
variable{h:PHeap}{cs:List PV}
theorem zE9{h:PHeap}{t i:Nat}{cs:List PV}{v:PV}(ho:h.obj t=some cs)(hi:i<cs.length)(hv:v.one=true):h.wr t i [v]=some (h.set t (cs.set i v)):=by
 rw[Z9 ho,if_pos ⟨by simp;omega,by simp[hv]⟩];congr 2;rw[List.append_assoc];exact take_set cs hi v
end Go.Proofs
namespace Go.Proofs
open Go.Ab Go.Lie
variable{U:PHeap}{K:PV->PHeap->Prop}
theorem ownFI{v:PV}{xs:L3}(hv:FI v xs)(hb:xs.length<=4294967296)(hk:∀v',FI v' xs->K v' U):zA Tryz.prog 271 [v] U K:=by
 obtain⟨w,a,rfl⟩:=hv;exact zGi rfl hb λv=>hk _ ⟨_,_,rfl⟩
end Go.Proofs
namespace Go.Proofs
open Go.Ab Go.Lie Go.Grp
variable{U:PHeap}{K:PV->PHeap->Prop}{O:L3}{P:L4}{C:L5}{vO vP vC vy:PV}{x y:L3}
theorem zNd:isExp O x↔gS O x:=by
 constructor
 .rintro⟨h1,h2⟩
  exact⟨h1,λj hj=>by have:=h2 j (by omega);omega,λj hj=>by omega⟩
 .intro h;exact⟨h.len,λj hj=>by have:=h.bd j (by rw[<-h.len];exact hj);omega⟩
theorem zH9(hR:IsPr vO vP vC O P C)(mq:O.length<=1048576)(bO:∀o∈O,isP o)(hy:FI vy y)(hb:y.length<=1048576)(hk:∀t:Bool,(t=true↔isExp O y)->K (.bool t) U):zA Tryz.prog 129 [.agg [vO,vP,vC],vy] U K:=by
 have h0:=hR.O.one;have h1:=hR.P.one;have h2:=hR.C.one;refine zA.gh ?_;refine zB mix Tryz.func129 ?_
 conv=>arg 2;cbv
 refine zC rfl ?_;simp only[Z3,seval,-ae,h0,h1,h2];refine zFd (t:=0) (by omega) (Nat.zero_le _) hR.O mq bO hy hb λt ht=>?_;simp only[Z3,seval,-ae];exact Gh.fin0 (zD U _) trivial (hk _ (ht.trans ⟨λh=>h.1,λh=>⟨h,λx hx=>by simp at hx⟩⟩))
end Go.Proofs
namespace Go.Proofs
open Go.Ab Go.Lie Go.Grp
variable{U h h':PHeap}{K:PV->PHeap->Prop}{O x y:L3}{P:L4}{C:L5}{vO vP vC vx:PV}{D R:List (Option L3)}{rb:List PV}{d n sT:Nat}
def DRf(n:Nat)(c:PV)(r:Option L3):Prop:=(c=.fz true .nils 0 []/\r=none)\/∃w a y,c=.fz w a n (pis y)/\y.length=n/\r=some y
theorem DRf.get(h:All2 (DRf n) rb D){d:Nat}(hd:d<D.length):(rb[d]? = some (.fz true .nils 0 [])/\D[d]? = some none)\/∃w a y,rb[d]? = some (.fz w a n (pis y))/\y.length=n/\D[d]? = some (some y):=by
 have hb:d<rb.length:=by rw[h.1];exact hd
 rw[List.getElem?_eq_getElem hb,List.getElem?_eq_getElem hd];rcases h.2 d _ _ (List.getElem?_eq_getElem hb) (List.getElem?_eq_getElem hd)with ⟨e1,e2⟩|⟨w,a,y,e1,e3,e2⟩
 .exact .inl ⟨by rw[e1],by rw[e2]⟩
 .exact .inr ⟨w,a,y,by rw[e1],e3,by rw[e2]⟩
theorem DRf.put(h:All2 (DRf n) rb D){v:PV}(hv:FI v y)(hy:y.length=n):All2 (DRf n) (rb.set d v) (D.set d (some y)):=by
 obtain⟨w,a,rfl⟩:=hv;refine⟨by rw[List.length_set,List.length_set];exact h.1,λk c r hc hr=>?_⟩;rw[List.getElem?_set]at hc hr;by_cases e:d=k
 .rw[if_pos e]at hc hr;split at hc
  .split at hr
   .cases hc;cases hr;exact .inr ⟨w,a,y,by rw[hy],hy,rfl⟩
   .cases hr
  .cases hc
 .rw[if_neg e]at hc hr;exact h.2 k c r hc hr
theorem DRf.start(n m:Nat):All2 (DRf n) (List.replicate m (.fz true .nils 0 [])) (List.replicate m none):=by
 refine⟨by simp,λk c r hc hr=>?_⟩;rw[List.getElem?_replicate]at hc hr;split at hc
 .rename_i h;rw[if_pos h]at hr;cases hc;cases hr;exact .inl ⟨rfl,rfl⟩
 .cases hc
theorem zJq(g:LG O P C)(hR:IsPr vO vP vC O P C)(hT:U.obj sT=some rb)(wI:sT<U.next)(hD:OkD O D)(cu:All2 (DRf O.length) rb D)(hx:gS O x)(aY:FI vx x)
  (hk:∀v z,FI v z->gS O z->(dep z<O.length->D[dep z]? = some none)->Rdu O P C D x z->K (.tup [.int .i64 (dep z),v]) U):zA Tryz.prog 181 [.agg [vO,vP,vC],.sl sT 0 O.length (.known O.length),vx] U K:=by
 have h0:=hR.O.one;have h1:=hR.P.one;have h2:=hR.C.one;have s:=g.s;have F:=g.F;have G:=F.g;have aW:=s.le;have aV:=hx.len;refine zA.gh ?_;have ai:¬sT=U.next:=Nat.ne_of_lt wI;refine zB mix Tryz.func181 ?_
 conv=>arg 2;cbv
 refine zC rfl ?_;simp only[Z3,seval,-ae,h0,h1,h2];refine ownFI aY (by omega) λv0 iX=>?_;simp only[Z3,seval,-ae];refine zF (λm vs h'=>∃(d:Nat) (z:L3) (v:PV),d<=O.length/\m=O.length-d/\vs=[.sl sT 0 O.length (.known O.length),.ptr U.next 0,v,.int .i64 d]/\U.new [vO,vP,vC]=h'/\TT O d z/\FI v z/\Rdu O P C D x z) O.length ⟨0,x,v0,by omega,by omega,rfl,rfl,hx,iX,.refl _⟩ ?_
 rintro m vs h' ⟨d,z,v,hd,rfl,rfl,rfl,hz,hv,hr⟩
 have oQ:gS O z:=hz.mono (Nat.zero_le _);have eQ:=hz.len;simp only[Z3,seval,-ae];refine iteI (λag=>?_) λaF=>?_;rotate_left
 .have Bq:d=O.length:=by omega
  subst Bq;have fT:z=zv O:=hz.ext (s.zv _) λj h1 h2=>by omega
  have hdz:dep z=O.length:=by rw[fT];exact zL7 s
  exact Gh.fin0 (zD U _) ⟨trivial,hv.bel _,trivial⟩ (by rw[<-hdz];exact hk v z hv oQ (λh=>by omega) hr)
 have aG:d<O.length:=by omega
 have hdz:d<z.length:=by omega
 obtain⟨wz,az,rfl⟩:=hv;have nK:FI (.fz wz az z.length (pis z)) z:=⟨wz,az,rfl⟩;have w1:IntKind.i64.wrap ((d:Int)+1)=((d+1:Nat):Int):=by rw[wrap64 (by omega) (by omega)];omega
 have bz:=oQ.bd d aG;have bO:=s.pr d aG;by_cases fT:at_ z d=0
 .simp only[Z3,seval,-ae,hdz,pisAt hdz,fT,w1];refine⟨_,by omega,d+1,z,_,by omega,rfl,rfl,⟨hz.len,hz.bd,λj hj=>?_⟩,nK,hr⟩;rcases Nat.lt_or_ge j d with h|h
  .exact hz.zero j h
  .rw[show j=d by omega];exact fT
 have bg:=zG hT d;rcases DRf.get cu (d:=d) (by rw[hD.len];exact aG)with ⟨e1,e2⟩|⟨w,a,y,e1,e3,e2⟩
 .rw[e1]at bg;have ye:dep z=d:=zBo (λj hj=>hz.zero j hj) fT;simp only[Z3,seval,-ae,hdz,pisAt hdz,fT,aG,ai,bg];exact Gh.fin0 (zD U _) ⟨trivial,nK.bel _,trivial⟩ (by rw[<-ye];exact hk _ z nK oQ (λ_=>by rw[ye];exact e2) hr)
 .rw[e1]at bg;obtain⟨y1,y2⟩:=hD.row _ _ e2;have yS:gS O y:=y1.mono (Nat.zero_le _);have sW:¬((O.length:Int)=0):=by omega
  have bN:IntKind.i64.wrap (0-at_ z d)=-at_ z d:=by rw[wrap64 (by omega) (by omega)];omega
  simp only[Z3,seval,-ae,hdz,pisAt hdz,fT,aG,ai,bg,sW,h0,h1,h2,bN];refine zFb g hR yS ⟨w,a,by rw[e3]⟩ (k:=-at_ z d) (by omega) λv1 f1=>?_;rw[Int.neg_neg]at f1;obtain⟨q1,q2,q3,q4⟩:=zFF s F g.cent aG oQ y1 y2;have q5:TT O (d+1) (gm O P C z (Grp.pw (gm O P C) (zv O) (ginv (gS O) (gm O P C) (zv O) y) (at_ z d).toNat)):=⟨q1.len,q1.bd,λj hj=>by
   rcases Nat.lt_or_ge j d with h|h
   .rw[q3 j h];exact hz.zero j h
   .rw[show j=d by omega];exact q4⟩
  have pE:=hr.trans (Rdu.stepR s F g.cent hD e2 aG hz fT q1 q2 q5);simp only[Z3,seval,-ae,h0,h1,h2];refine zAu s hR oQ (G.pw (G.inv_in yS).1 _) nK f1 λv2 f2=>?_;simp only[Z3,seval,-ae,w1];exact⟨_,by omega,d+1,_,v2,by omega,rfl,rfl,q5,f2,pE⟩
structure FullI(O:L3)(P:L4)(C:L5)(D R:List (Option L3))(k:Nat):Prop where
 len:R.length=O.length
 dom:∀d,k<=d->d<O.length->((∃y,R[d]? = some (some y))↔∃y,D[d]? = some (some y))
 row:∀(d:Nat) (y:L3),k<=d->R[d]? = some (some y)->TT O d y/\at_ y d=1
 red:∀(d e:Nat) (y z:L3),k<=d->k<=e->d≠e->R[d]? = some (some y)->R[e]? = some (some z)->at_ y e=0
 iff:∀N,gB O P C N->((∀(d:Nat) (y:L3),k<=d->R[d]? = some (some y)->N y)↔∀(d:Nat) (y:L3),k<=d->D[d]? = some (some y)->N y)
theorem FullI.start(n:Nat)(hn:O.length=n)(hD:D.length=n):FullI O P C D (List.replicate n none) n:=by
 have no:∀{E:List (Option L3)} {d y},E.length=n->n<=d->E[d]? = some (some y)->False:=λhE hd h=>by
  rw[List.getElem?_eq_none (by omega)]at h;cases h
 exact⟨by simp[hn],λd h1 h2=>by omega,λd y h1 h2=>(no (by simp) h1 h2).elim,λd e y z h1 _ _ h2=>(no (by simp) h1 h2).elim,λN _=>⟨λ_ d y h1 h2=>(no hD h1 h2).elim,λ_ d y h1 h2=>(no (by simp) h1 h2).elim⟩⟩
theorem FullI.skip{k:Nat}(f:FullI O P C D R (k+1))(hk:k<O.length)(h1:D[k]? = some none)(h2:R[k]? = some none):FullI O P C D R k:=by
 have up:∀{d:Nat} {y:L3},k<=d->(R[d]? = some (some y)\/D[d]? = some (some y))->k+1<=d:=λ{d y} hd h=>by
  rcases Nat.lt_or_ge k d with e|e
  .exact e
  .rw[show d=k by omega,h1,h2]at h;rcases h with h|h<;>cases h
 refine⟨f.len,λd a b=>?_,λd y a b=>f.row d y (up a (.inl b)) b,λd e y z a b c h h'=>f.red d e y z (up a (.inl h)) (up b (.inl h')) c h h',λN hN=>?_⟩
 .constructor
  .rintro⟨y,hy⟩;exact(f.dom d (up a (.inl hy)) b).1 ⟨y,hy⟩
  .rintro⟨y,hy⟩;exact(f.dom d (up a (.inr hy)) b).2 ⟨y,hy⟩
 .constructor
  .intro g d y a b;exact(f.iff N hN).1 (λd y a' b'=>g d y (by omega) b') d y (up a (.inr b)) b
  .intro g d y a b;exact(f.iff N hN).2 (λd y a' b'=>g d y (by omega) b') d y (up a (.inl b)) b
theorem FullI.put{k:Nat}{x y:L3}(f:FullI O P C D R (k+1))(hk:k<O.length)(h1:D[k]? = some (some y))(hx:TT O k x)(eX:at_ x k=1)(hz:∀(e:Nat) (z:L3),k<e->R[e]? = some (some z)->at_ x e=0)
  (hN:∀N,gB O P C N->(∀(d:Nat) (y:L3),k+1<=d->R[d]? = some (some y)->N y)->(N y↔N x)):FullI O P C D (R.set k (some x)) k:=by
 have hl:k<R.length:=by rw[f.len];exact hk
 have ge:∀{d:Nat} {w:L3},(R.set k (some x))[d]? = some (some w)->(d=k/\w=x)\/(d≠k/\R[d]? = some (some w)):=λ{d w} h=>by
  rw[List.getElem?_set]at h;split at h
  .rename_i e;cases h;exact .inl ⟨e.symm,rfl⟩
  .rename_i e;exact .inr ⟨λh=>e h.symm,h⟩
 have sn:(R.set k (some x))[k]? = some (some x):=by rw[List.getElem?_set,if_pos rfl,if_pos hl]
 have sj:∀{d:Nat} {w:L3},d≠k->R[d]? = some (some w)->(R.set k (some x))[d]? = some (some w):=λ{d w} h e=>by rw[List.getElem?_set,if_neg (λh'=>h h'.symm)];exact e
 refine⟨by rw[List.length_set];exact f.len,λd a b=>?_,λd w a b=>?_,λd e w z a b c h h'=>?_,λN rW=>?_⟩
 .by_cases e:d=k
  .subst e;exact⟨λ_=>⟨y,h1⟩,λ_=>⟨x,sn⟩⟩
  .constructor
   .rintro⟨w,hw⟩
    rcases ge hw with ⟨e',_⟩|⟨_,hw⟩
    .exact absurd e' e
    .exact(f.dom d (by omega) b).1 ⟨w,hw⟩
   .rintro⟨w,hw⟩
    obtain⟨z,cU⟩:=(f.dom d (by omega) b).2 ⟨w,hw⟩;exact⟨z,sj e cU⟩
 .rcases ge b with ⟨rfl,rfl⟩|⟨e,hw⟩
  .exact⟨hx,eX⟩
  .exact f.row d w (by omega) hw
 .rcases ge h with ⟨e1,e2⟩|⟨e1,hw⟩
  .rcases ge h' with ⟨e3,_⟩|⟨e3,cU⟩
   .omega
   .rw[e2];exact hz e z (by omega) cU
  .rcases ge h' with ⟨e3,e4⟩|⟨e3,cU⟩
   .have:=(f.row d w (by omega) hw).1.zero
    rw[e3];exact this k (by omega)
   .exact f.red d e w z (by omega) (by omega) c hw cU
 .have key:((∀(d:Nat) (w:L3),k<=d->(R.set k (some x))[d]? = some (some w)->N w)↔(N x/\∀(d:Nat) (w:L3),k+1<=d->R[d]? = some (some w)->N w)):=by
   constructor
   .intro h;exact⟨h k x (vM _) sn,λd w a b=>h d w (by omega) (sj (by omega) b)⟩
   .rintro⟨h2,h3⟩ d w a b
    rcases ge b with ⟨_,rfl⟩|⟨e,hw⟩
    .exact h2
    .exact h3 d w (by omega) hw
  have ub:((∀(d:Nat) (w:L3),k<=d->D[d]? = some (some w)->N w)↔(N y/\∀(d:Nat) (w:L3),k+1<=d->D[d]? = some (some w)->N w)):=by
   constructor
   .intro h;exact⟨h k y (vM _) h1,λd w a b=>h d w (by omega) b⟩
   .rintro⟨h2,h3⟩ d w a b
    by_cases e:d=k
    .subst e;rw[h1]at b;cases b;exact h2
    .exact h3 d w (by omega) b
  rw[key,ub,<-f.iff N rW];constructor
  .rintro⟨a,b⟩;exact⟨(hN N rW b).2 a,b⟩
  .rintro⟨a,b⟩;exact⟨(hN N rW b).1 a,b⟩
end Go.Proofs
