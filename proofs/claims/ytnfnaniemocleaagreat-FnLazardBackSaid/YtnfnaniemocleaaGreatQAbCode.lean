/- . -/
import Derived.Test.YtnfnaniemocleaaGreatQAbDefs
import Derived.Deep.LoopGhost
import Derived.Deep.Matrix
import Derived.Carry
import Derived.ChangeSame
import Derived.OpenShut
set_option linter.all false
set_option linter.defProp false
open Go.IntKind renaming wrap->Lp
open List renaming length->Lu
open Array renaming getD_eq_getD_getElem?->D0,replicate->DR,toArray_toList->Ew
open Bool renaming false_eq_true->EB,true->DF
open Int renaming toNat_natCast->Fs
open List renaming all_cons->Ej,all_eq_true->D2,all_nil->Em,drop_eq_nil_of_le->EG,drop_zero->EC,ext_getElem?->En,getElem?_cons_succ->D3,getElem?_cons_zero->Hk,length_nil->Eg,map_congr_left->EA,mem_of_mem_drop->Ey,nodup_append->FQ,nodup_cons->He,nodup_nil->FK,range->DO,replicate->Ep,replicate_succ->Es,set_cons_zero->Eu,set_eq_take_append_cons_drop->Fv,zipWith->FD
open Nat renaming add_mul->FF,lt_trichotomy->Eo,mul_one->Fe,ne_of_lt->Ev,not_lt_zero->Ex,sub_zero->Ed,zero_mul->E1
open Option renaming map_some->EF,some->Dc
open True renaming intro->DJ
set_option maxRecDepth 100000
namespace Go.Ab
variable{B Hx fJ hi lo n n' t:Nat}
section
open Go.RowKit
inductive IC where
 |skip
 |region (S:List Nat) (be:List II)
 |draw (S:List Nat) (zs:List (List AV)) (be:List DI)
 |tree (S:List Nat) (t:OT)
 |seq (a b:IC)
 |cond (c:IX) (a b:IC)
 |block (id:Nat) (c:IC)
 |loop (S:List Nat) (c:IC)
 |exit (id:Nat)
 |ret
def Env.mk:List Nat->List AV->Env
 |s::S,v::vs=>λt=>if t=s then v else Env.mk S vs t
 |_,_=>λ_=>.undef
def ct.news(h:ct):List (List AV)->ct
 |[]=>h
 |z::zs=>(h.bf ⟨DF,z⟩).news zs
def vc(P:Program):IC->(Exit->Env->ct->Prop)->Env->ct->Prop
 | .skip,Q,e,h=>Q .normal e h
 | .region S be,Q,e,h=>RV P be e h λe' h'=>Q .normal (Env.mk S (S.map e')) h'
 | .draw S zs be,Q,e,h=>DV P h.aM be [] e (h.news zs) λe' h'=>Q .normal (Env.mk S (S.map e')) h'
 | .tree S t,Q,e,h=>TV P t [] e h λe' h'=>Q .normal (Env.mk S (S.map e')) h'
 | .seq a b,Q,e,h=>vc P a (λx e' h'=>match x with | .normal=>vc P b Q e' h'|x=>Q x e' h') e h
 | .cond c a b,Q,e,h=>match c.ev e with
  | .bool t=>if t=DF then vc P a Q e h else vc P b Q e h
  |_=>False
 | .block id c,Q,e,h=>vc P c (λx e' h'=>match x with | .exit my=>if my=id then Q .normal e' h' else Q (.exit my) e' h'|x=>Q x e' h') e h
 | .loop S c,Q,e,h=>∃I:Nat->List AV->ct->Prop,(∃n,I n (S.map e) h)/\
   ∀n vs h,I n vs h->vc P c (λx e' h'=>match x with | .normal=>∃n',n'<n/\I n' (S.map e') h'|x=>Q x e' h') (Env.mk S vs) h
 | .exit id,Q,e,h=>Q (.exit id) e h
 | .ret,Q,e,h=>Q .ret e h
def insS(x:Nat):List Nat->List Nat
 |[]=>[x]
 |y::r=>if x<y then x::y::r else if x=y then y::r else y::insS x r
def zC0(a b:List Nat):List Nat:=a.foldr insS b
def zJc(l:List Operand):List Nat:=l.filterMap λ| .tmp t=>Dc t|_=>none
def zOw(ops:Array Oper)(o:Oper):List Nat:=
 zJc o.op.operands.toList++(match o.guard with|some (k,_)=>((ops[k]?).bind (·.dst)).toList|none=>[])
def lvOps(ops:Array Oper):List Oper->List Nat->List Nat
 |[],out=>out
 |o::r,out=>
  let l:=lvOps ops r out
  let l:=match o.dst with|some d=>l.filter (· != d)|none=>l
  zC0 (zOw ops o) l
def exitL(id:Nat):List (Nat×List Nat)->List Nat
 |[]=>[]
 |(i,l)::r=>if i=id then l else exitL id r
def lv:Code->List Nat->List (Nat×List Nat)->List Nat->List Nat
 | .region _ ops _,out,_,_=>lvOps ops ops.toList out
 | .seq a b,out,ex,rt=>lv a (lv b out ex rt) ex rt
 | .cond c a b,out,ex,rt=>zC0 (zJc [c]) (zC0 (lv a out ex rt) (lv b out ex rt))
 | .block id c,out,ex,rt=>lv c out ((id,out)::ex) rt
 | .loop c,_,ex,rt=>lv c [] ex rt
 | .exit id,_,ex,_=>exitL id ex
 | .ret,_,_,rt=>rt
 | .scope c,out,ex,rt=>lv c out ex rt
 |_,out,_,_=>out
def mkPt(ops:Array Oper):List (List Nat):=
 ops.toList.foldl (λu o=>u++[(qg o).foldl (λl d=>zC0 (insS d (u.getD d [])) l) []]) []
def zPQ(P:Program)(al:Bool)(o:Oper):Bool:=
 match o.op with
 | .alloc _=>DF
 | .buildSlice _ _ _=>(cNew P al o).isSome
 |op=>(copQ P op).isSome
def zHp(l:List (List Nat))(u:List Bool):Nat->List Nat->List Nat->List Nat
 |0,_,done=>done
 |fuel+1,rem,done=>
  let ready:=rem.filter λi=>(l.getD i []).all λx=>done.contains x
  match ready.find? (λi=>u.getD i false)with
  |some i=>zHp l u fuel (rem.filter (· != i)) (done++[i])
  |none=>match ready with
   |i::_=>zHp l u fuel (rem.filter (· != i)) (done++[i])
   |[]=>done
def zHP(P:Program)(nt:Nat)(ops:Array Oper)(al:Bool):Option (List DI×List (List AV)):=
 let pt:=mkPt ops
 let order:=zHp pt (ops.toList.map (zPQ P al)) ops.size (DO ops.size) []
 (cDIs P nt ops pt al order [] 0).bind λx=>if dOk ops pt order x.1=DF then Dc x else none
def cDraw(P:Program)(nt:Nat)(ops:Array Oper):Option (List DI×List (List AV)):=
 match zHP P nt ops false with
 |some x=>Dc x
 |none=>zHP P nt ops DF
def cTree(P:Program)(nt:Nat)(ops:Array Oper):Option OT:=
 if (ops.toList.filter λo=>(copQ P o.op).isNone).length<=6/\Cf ops (mkPt ops)=DF then mkT P nt ops (mkPt ops) ops.size (DR ops.size false) []else none
def deadI:II:=⟨none,.extract (.c (.bool false)) 0,DF,none⟩
def zSE(o:Oper):Bool:=
 match o.op with
 | .panic _=>DF
 |_=>false
def cC(P:Program)(nt:Nat):Code->List Nat->List (Nat×List Nat)->List Nat->Option (IC×List Nat)
 | .skip,out,_,_ | .label _,out,_,_=>Dc (.skip,out)
 | .region _ ops false,out,_,_=>if ops.toList.any zSE=DF then Dc (.region [] [deadI],[])else(zHO P nt ops ops.toList).map λl=>(.region out l,lvOps ops ops.toList out)
 | .region _ ops DF,out,_,_=>match cDraw P nt ops with
  |some x=>Dc (.draw out x.2 x.1,lvOps ops ops.toList out)
  |none=>(cTree P nt ops).map λt=>(.tree out t,lvOps ops ops.toList out)
 | .seq a b,out,ex,rt=>(cC P nt b out ex rt).bind λy=>(cC P nt a y.2 ex rt).map λx=>(.seq x.1 y.1,x.2)
 | .cond c a b,out,ex,rt=>(cx c).bind λu=>(cC P nt a out ex rt).bind λx=>(cC P nt b out ex rt).map λy=>(.cond u x.1 y.1,zC0 (zJc [c]) (zC0 x.2 y.2))
 | .block id c,out,ex,rt=>(cC P nt c out ((id,out)::ex) rt).map λx=>(.block id x.1,x.2)
 | .loop c,_,ex,rt=>
  let X:=lv c [] ex rt
  (cC P nt c X ex rt).map λx=>(.loop X x.1,X)
 | .exit id,_,ex,_=>Dc (.exit id,exitL id ex)
 | .ret,_,_,rt=>Dc (.ret,rt)
 |_,_,_,_=>none
variable{P:Program}{B:Nat}{w0 w:World}{j:gz}{h h':ct}{nt nb:Nat}{e e':Env}{a:Act}{ops:Array Oper}
def Env.mk_map(e:Env):∀(S:List Nat) (t:Nat),Env.mk S (S.map e) t=e t\/Env.mk S (S.map e) t=.undef
 |[],t=>.inr rfl
 |s::S,t=>by
  simp only[YE,Env.mk];by_cases hs:t=s
  .subst hs;rw[DK rfl];exact .inl rfl
  .rw[DL hs];exact Env.mk_map e S t
def ER.trim(r:ER nt j e a)(S:List Nat):ER nt j (Env.mk S (S.map e)) a:=by
 refine⟨λt=>?_,r.size,r.defers⟩;rcases Env.mk_map e S t with x|x
 .rw[x];exact r.vals t
 .rw[x];trivial
def MR.pend(m:MR B w0 j h w)(S:tZ):MR B w0 j (h.bf S) w:=by
 have E:j h.aM=none:=(m.fresh h.aM (na _)).2;refine⟨m.below,m.bnd,λo A=>?_,λo N l A u=>?_,λo I x T l O C A G u D M=>?_⟩
 .simp only[ct.bf]at A ⊢;rw[DL af];exact m.fresh o af
 .have C:o≠h.aM:=λy=>by rw[y,E]at u;cases u
  simp only[ct.bf,DL C]at A;exact m.bt o N l A u
 .have h1:o≠h.aM:=λy=>by rw[y,E]at u;cases u
  have J:I≠h.aM:=λy=>by rw[y,E]at D;cases D
  simp only[ct.bf,DL h1]at A;simp only[ct.bf,DL J]at G;exact m.apart o I x T l O C A G u D M
def zIF:∀(zs:List (List AV)) {h:ct},MR B w0 j h w->MR B w0 j (h.news zs) w/\(h.news zs).aM=h.aM+Lu zs/\(∀o,o<h.aM->(h.news zs).bt o=h.bt o)/\
  (∀k z,zs[k]? = Dc z->(h.news zs).bt (h.aM+k)=Dc ⟨DF,z⟩)/\∀k,k<Lu zs->j (h.aM+k)=none
 |[],h,m=>⟨m,rfl,λ_ _=>rfl,λk z I=>by simp at I,λk C=>by simp at C⟩
 |z::zs,h,m=>by
  obtain⟨D,E,A,G,J⟩:=zIF zs (m.pend ⟨DF,z⟩);refine⟨D,?_,λo M=>?_,λk u l=>?_,λk C=>?_⟩
  .show((h.bf ⟨DF,z⟩).news zs).aM=_
   rw[E];simp only[ct.bf,Yu];omega
  .simp only[ct.news];rw[A o (by simp only[ct.bf];omega)];simp only[ct.bf];rw[DL af]
  .simp only[ct.news];cases k with
   |zero=>
    simp at l;subst l;rw[A _ (by simp[ct.bf])];simp[ct.bf]
   |succ k=>
    have:=G k u (by simpa using l)
    simp only[ct.bf]at this;rw[<-this];congr 1;omega
  .exact(m.fresh _ (Nat.le_add_right _ _)).2
def Post(B:Nat)(w0:World)(nt:Nat)(j:gz)(h:ct)(Q:Exit->Env->ct->Prop):Exit->Act->World->Prop:=λx a' u=>
 ∃l h' e',FR j h l h'/\MR B w0 l h' u/\ER nt l e' a'/\Q x e' h'
def zFj(X:P.follows .mixedOrders=DF){id:Nat}{l:List DI}{zs:List (List AV)}{al:Bool}(u:zHP P nt ops al=Dc (l,zs))(m:MR B w0 j h w)(r:ER nt j e a){S:List Nat}{Q:Exit->Env->ct->Prop}
  (C:DV P h.aM l [] e (h.news zs) λe' h'=>Q .normal (Env.mk S (S.map e')) h'):(Code.region id ops DF).wp P (Post B w0 nt j h Q) a w:=by
 simp only[zHP,YJ]at u;obtain⟨⟨tL,xI⟩,ln,u⟩:=u;split at u
 .rename_i hd;cases u;simp only[dOk,Yo,beq_iff_eq,decide_eq_true_eq]at hd;obtain⟨⟨⟨⟨⟨⟨V,E⟩,lU⟩,hlen⟩,G⟩,iL⟩,mM⟩:=hd;obtain⟨J,uw⟩:=zEl _ [] 0 ln [] rfl;obtain⟨m1,N,n2,n3,n4⟩:=zIF zs m.drew;have zE:(l.map (·.idx)).length=ops.size:=by rw[E];exact hlen
  refine wp_region_any X ?_;have yN:∀i,i<ops.size->((DR ops.size false).getD i DF=false↔∃it∈l,it.idx=i):=by
   intro i hi;have h1:(DR ops.size false).getD i DF=false:=by simp[D0,hi]
   refine⟨λ_=>?_,λ_=>h1⟩;have U:i∈l.map (·.idx):=by
    rw[E];rw[D2]at G;exact List.contains_iff_mem.1 (G i (by simpa using hi))
   obtain⟨it,A,he⟩:=YI.1 U;exact⟨it,A,he⟩
  refine zKJ (zs:=zs) (js:=j) (hs:=h) (nb:=h.aM) (K:=λe' h'=>Q .normal (Env.mk S (S.map e')) h') rfl V ?_ ops.size _ l (by simpa using zE) aK yN (zFv iL) (zFv mM) (by rw[E];exact lU) uw ?_
   (λit A=>by simpa using (J it A).1) ?_ m1 r C ⟨by rw[N];omega,λ_ _=>rfl,λo M _=>n2 o M⟩
  .intro j' h' e' a' w' hf hm hr hq;exact⟨j',h',_,hf,hm,hr.trim S,hq⟩
  .intro i hi aR;rw[(show(DR ops.size false).getD i DF=false from by simp[D0,hi])]at aR;cases aR
  .intro it A k C;obtain⟨o,M,T⟩:=(J it A).1;rcases T with ⟨_,uD⟩|⟨k',O,I,D,_⟩
   .rw[uD]at C;cases C
   .rw[C]at I;cases I;simp only[Yl]at D;have Y:k<Lu zs:=(Yj.1 D).1;exact⟨by rw[N];omega,n4 k Y,O,D,n3 k O D⟩
 .cases u
def zNk(A:P.follows .mixedOrders=DF){id:Nat}{u:List DI}{zs:List (List AV)}(l:cDraw P nt ops=Dc (u,zs))(m:MR B w0 j h w)(r:ER nt j e a){S:List Nat}{Q:Exit->Env->ct->Prop}
  (C:DV P h.aM u [] e (h.news zs) λe' h'=>Q .normal (Env.mk S (S.map e')) h'):(Code.region id ops DF).wp P (Post B w0 nt j h Q) a w:=by
 unfold cDraw at l;split at l
 .rename_i x D;cases l;exact zFj A D m r C
 .exact zFj A l m r C
def yk.start:yk P nt ops (mkPt ops) (DR ops.size false) (DR ops.size false) [] []:=by
 have g:∀i,i<ops.size->(DR ops.size false).getD i DF=false:=λi hi=>by
  simp[D0,Array.getElem?_replicate,hi]
 exact⟨aK,aK,λi hi=>aK,λq l=>absurd l (Ym),λq l=>absurd l (Ym),λq l=>absurd l (Ym),.nil,aK,λq l=>absurd l (Ym),
  λi hi h=>(by rw[g i hi]at h;cases h),λi hi h=>(by rw[g i hi]at h;cases h),.nil⟩
def zAL(J:P.follows .mixedOrders=DF):∀(c:Code) (out:List Nat) (G:List (Nat×List Nat)) (rt:List Nat) {I:IC} {X:List Nat},cC P nt c out G rt=Dc (I,X)->
  ∀{B:Nat} {w0:World} {j:gz} {h:ct} {w:World} {e:Env} {a:Act} {Q:Exit->Env->ct->Prop},MR B w0 j h w->ER nt j e a->vc P I Q e h->c.wp P (Post B w0 nt j h Q) a w
 | .skip,out,G,rt,I,X,hc,B,w0,j,h,w,e,a,Q,m,r,hk=>by
  cases hc;exact wp_skip ⟨j,h,e,FR.refl _ _,m,r,hk⟩
 | .label l,out,G,rt,I,X,hc,B,w0,j,h,w,e,a,Q,m,r,hk=>by
  cases hc;exact wp_label ⟨j,h,e,FR.refl _ _,m,r,hk⟩
 | .region id ops false,out,G,rt,I,X,hc,B,w0,j,h,w,e,a,Q,m,r,hk=>by
  simp only[cC]at hc;split at hc
  .cases hc;obtain⟨v,hv,_⟩:=hk;cases hv
  simp only[YK,Y7]at hc;obtain⟨be,ln,rfl,rfl⟩:=hc;refine wp_region ?_;rw[List.range_eq_range']
  have:=zGL (Q:=Post B w0 nt j h Q) ops.toList be 0 ln rfl m r hk ?_
  .simpa using this
  .intro C h' e' a' w' A D E u;exact⟨C,h',_,A,D,E.trim out,u⟩
 | .region id ops DF,out,G,rt,I,X,hc,B,w0,j,h,w,e,a,Q,m,r,hk=>by
  simp only[cC]at hc;split at hc
  .rename_i x hx;cases hc;exact zNk J hx m r hk
  .simp only[YK,Y7]at hc;obtain⟨t,V,rfl,rfl⟩:=hc;unfold cTree at V;split at V
   .rename_i cJ;refine wp_region_any J ?_;exact zRO (K:=λe' h'=>Q .normal (Env.mk out (out.map e')) h') cJ.2 (λC h' e' a' w' A D E u=>⟨C,h',_,A,D,E.trim out,u⟩) _ ops.size _ _ [] [] rfl yk.start V m.drew r (FR.refl _ _) hk
   .cases V
 | .seq c d,out,G,rt,I,X,hc,B,w0,j,h,w,e,a,Q,m,r,hk=>by
  simp only[cC,YJ,YK,Y7]at hc;obtain⟨⟨id,Y⟩,hd,⟨ia,X'⟩,U,rfl,rfl⟩:=hc;refine wp_seq (wp_mono (zAL J c _ G rt U m r hk) ?_)
  rintro x a' w' ⟨C,h',e',A,D,E,u⟩
  cases x with
  |normal=>
   refine wp_mono (zAL J d out G rt hd D E u) ?_
   rintro y oQ Dw ⟨T,eB,N,M,S,O,aT⟩
   exact⟨T,eB,N,A.trans M,S,O,aT⟩
  |exit id=>exact⟨C,h',e',A,D,E,u⟩
  |goto l=>exact⟨C,h',e',A,D,E,u⟩
  |ret=>exact⟨C,h',e',A,D,E,u⟩
  |panic ch=>exact⟨C,h',e',A,D,E,u⟩
  |outgrown=>exact⟨C,h',e',A,D,E,u⟩
 | .cond c x y,out,G,rt,I,X,hc,B,w0,j,h,w,e,a,Q,m,r,hk=>by
  simp only[cC,YJ,YK,Y7]at hc;obtain⟨ix,hx,⟨ia,Xa⟩,U,⟨ib,Xb⟩,hb,rfl,rfl⟩:=hc;simp only[vc]at hk;have hv:=zP r hx;split at hk
  .rename_i t V;rw[V]at hv;refine wp_cond (t:=t) hv ?_;cases t with
   |true=>rw[DK rfl]at hk ⊢;exact zAL J x out G rt U m r hk
   |false=>rw[DL aK]at hk ⊢;exact zAL J y out G rt hb m r hk
  .exact hk.elim
 | .block id c,out,G,rt,I,X,hc,B,w0,j,h,w,e,a,Q,m,r,hk=>by
  simp only[cC,YK,Y7]at hc;obtain⟨⟨ia,Xa⟩,U,rfl,rfl⟩:=hc;refine wp_block (wp_mono (zAL J c out _ rt U m r hk) ?_)
  rintro x a' w' ⟨C,h',e',A,D,E,u⟩
  cases x with
  |exit my=>
   simp only[Exit.inBlock];simp only at u;split
   .rename_i he;rw[DK he]at u;exact⟨C,h',e',A,D,E,u⟩
   .rename_i he;rw[DL he]at u;exact⟨C,h',e',A,D,E,u⟩
  |normal=>exact⟨C,h',e',A,D,E,u⟩
  |goto l=>exact⟨C,h',e',A,D,E,u⟩
  |ret=>exact⟨C,h',e',A,D,E,u⟩
  |panic ch=>exact⟨C,h',e',A,D,E,u⟩
  |outgrown=>exact⟨C,h',e',A,D,E,u⟩
 | .loop c,out,G,rt,I,X,hc,B,w0,j,h,w,e,a,Q,m,r,hk=>by
  simp only[cC,YK,Y7]at hc;obtain⟨⟨ia,Xa⟩,U,rfl,rfl⟩:=hc;obtain⟨a0,⟨n,h0⟩,jR⟩:=hk;refine wp_loop_ghost (λn a' w'=>∃C h' e' vs,FR j h C h'/\MR B w0 C h' w'/\ER nt C (Env.mk (lv c [] G rt) vs) a'/\a0 n vs h') n ⟨j,h,e,_,FR.refl _ _,m,r.trim _,h0⟩ ?_
  rintro n a' w' ⟨C,h',e',vs,A,D,E,hI⟩
  refine wp_mono (zAL J c _ G rt U D E (jR n vs h' hI)) ?_
  rintro x oQ Dw ⟨T,eB,N,M,S,O,u⟩
  cases x with
  |normal=>
   obtain⟨n',ah,xD⟩:=u;exact⟨n',ah,T,eB,N,_,A.trans M,S,O.trim _,xD⟩
  |exit id=>exact⟨T,eB,N,A.trans M,S,O,u⟩
  |goto l=>exact⟨T,eB,N,A.trans M,S,O,u⟩
  |ret=>exact⟨T,eB,N,A.trans M,S,O,u⟩
  |panic ch=>exact⟨T,eB,N,A.trans M,S,O,u⟩
  |outgrown=>exact⟨T,eB,N,A.trans M,S,O,u⟩
 | .exit id,out,G,rt,I,X,hc,B,w0,j,h,w,e,a,Q,m,r,hk=>by
  cases hc;exact wp_exit ⟨j,h,e,FR.refl _ _,m,r,hk⟩
 | .ret,out,G,rt,I,X,hc,B,w0,j,h,w,e,a,Q,m,r,hk=>by
  cases hc;exact wp_ret ⟨j,h,e,FR.refl _ _,m,r,hk⟩
 | .rangeFunc ..,_,_,_,_,_,hc,_,_,_,_,_,_,_,_,_,_,_=>by cases hc
 | .scope ..,_,_,_,_,_,hc,_,_,_,_,_,_,_,_,_,_,_=>by cases hc
 | .goto ..,_,_,_,_,_,hc,_,_,_,_,_,_,_,_,_,_,_=>by cases hc
 | .refuse ..,_,_,_,_,_,hc,_,_,_,_,_,_,_,_,_,_,_=>by cases hc
inductive x6 where
 |tmp (t:Nat)
 |cell (t:Nat) (agg:Bool) (n:Nat)
def x6.slot:x6->Nat
 | .tmp t=>t
 | .cell t _ _=>t
structure IFn where
 params:List Nat
 res:List x6
 body:IC
def uk:List x6->Env->ct->Option (List AV)
 |[],_,_=>Dc []
 | .tmp t::r,e,h=>(uk r e h).map λvs=>e t::vs
 | .cell t agg n::r,e,h=>(CF agg n (e t) h).bind λv=>(uk r e h).map λvs=>v::vs
def BZ:List AV->AV
 |[v]=>v
 |vs=>.tup vs
def retQ(res:List x6)(Q:AV->ct->Prop):Exit->Env->ct->Prop
 | .normal,e,h=>fw (uk res e h) λvs=>Q (BZ vs) h
 | .ret,e,h=>fw (uk res e h) λvs=>Q (BZ vs) h
 |_,_,_=>False
def cRes(P:Program):List ResultVar->Option (List x6)
 |[]=>Dc []
 | .tmp t::r=>(cRes P r).map (.tmp t::·)
 | .cell t ty::r=>match P.underlying ty,P.info? ty with
  |some d,Dc i=>(cRes P r).map (.cell t (zBT d) i.size::·)
  |_,_=>none
def cF(P:Program)(u:Func):Option IFn:=
 u.body.bind λc=>(cRes P u.results.toList).bind λres=>(cC P u.ntmps c (res.foldr (λr l=>insS r.slot l) []) [] (res.foldr (λr l=>insS r.slot l) [])).bind λx=>
  if u.params.size+u.nfree<=u.ntmps then Dc ⟨DO (u.params.size+u.nfree),res,x.1⟩else none
def rvS(a:Act):ResultVar->Sem Value
 | .tmp t=>pure (a.tmps.getD t undef)
 | .cell x t=>do loadVar t (<-asAddr (a.tmps.getD x undef))
def zBb(m:MR B w0 j h w)(r:ER nt j e a):∀{rs:List ResultVar} {res:List x6} {vs:List AV},cRes P rs=Dc res->uk res e h=Dc vs->
  ∃cs:List Value,(rs.mapM (rvS a)).run P w=.ok cs w/\l6 j vs cs
 |[],res,vs,hc,u=>by
  cases hc;cases u;exact⟨[],aK,rfl⟩
 | .tmp t::rs,res,vs,hc,u=>by
  simp only[cRes,YK]at hc;obtain⟨J,I,rfl⟩:=hc;simp only[uk,YK]at u;obtain⟨S,u,rfl⟩:=u;obtain⟨cs,D,E⟩:=zBb m r I u;refine⟨a.tmps.getD t undef::cs,?_,⟨_,_,rfl,r.vals t,E⟩⟩;simp only[List.mapM_cons,rvS,Sem.run_bind,Sem.run_pure,Result.andThen_ok];rw[D];rfl
 | .cell x t::rs,res,vs,hc,u=>by
  simp only[cRes]at hc;split at hc
  .rename_i d i hd hi;simp only[YK]at hc;obtain⟨J,I,rfl⟩:=hc;simp only[uk,YJ,YK]at u;obtain⟨v,C,S,u,rfl⟩:=u;obtain⟨cs,D,E⟩:=zBb m r I u;unfold CF at C;split at C
   .rename_i o k O;have A:=r.vals x;rw[O]at A;obtain⟨M,G,N⟩:=zGq (P:=P) m hd hi A C;obtain⟨l,T,A⟩:=A;refine⟨M::cs,?_,⟨_,_,rfl,N,E⟩⟩;rw[A]at G;simp only[Instr.loadAt,Instr.sureAddr,Sem.run_bind,Sem.run_pure,Result.andThen_ok]at G;simp only[List.mapM_cons,rvS,Sem.run_bind,A,asAddr,Sem.run_pure,Result.andThen_ok,G];rw[D];rfl
   .cases C
  .cases hc
def zKh(cW:P.follows .mixedOrders=DF){f:FuncId}{C:Func}{J:IFn}(hf:P.funcs[f]? = Dc C)(I:cF P C=Dc J){args:List AV}{h:ct}{K:AV->ct->Prop}(A:args.length=Lu J.params)
  (hk:vc P J.body (retQ J.res K) (Env.mk J.params args) h):Zm P f args h K:=by
 simp only[cF,YJ]at I;obtain⟨c,hb,res,aQ,⟨ic,X⟩,sI,I⟩:=I;split at I
 .rename_i hle;cases I;intro B w0 j w cargs m S;have db:=S.length;simp only[U0]at A;refine calls_of_wp hf hb (wp_mono (zAL cW c _ _ _ sI m (e:=Env.mk (DO (C.params.size+C.nfree)) args) (a:=⟨cargs.toArray++DR (C.ntmps-cargs.toArray.size) undef,[]⟩) ⟨λt=>?_,?_,rfl⟩ hk) ?_)
  ·-- oT arguments
   have key:∀(n s:Nat) (as:List AV) (t:Nat),as.length=n->(Env.mk (List.range' s n) as t=.undef/\(t<s\/s+n<=t))\/(s<=t/\as[t-s]? = Dc (Env.mk (List.range' s n) as t)):=by
    intro n
    induction n with
    |zero=>intro s as t A;refine .inl ⟨?_,af⟩;cases as with|nil=>rfl|cons _ _=>simp at A
    |succ n ih=>
     intro s as t A;cases as with
     |nil=>simp at A
     |cons v as=>
      rw[List.range'_succ];simp only[Env.mk];by_cases ht:t=s
      .subst ht;right;simp
      .rw[DL ht];rcases ih (s+1) as t (by simpa using A)with ⟨G,D⟩|⟨G,D⟩
       .exact .inl ⟨G,af⟩
       .refine .inr ⟨af,?_⟩;rw[<-D]
        have:t-s=(t-(s+1))+1:=af
        rw[this,D3]
   rw[List.range_eq_range'];rcases key _ 0 args t A with ⟨G,_⟩|⟨_,D⟩
   .rw[G];trivial
   .rw[Ed]at D;obtain⟨M,V,h4⟩:=S.get D
    have:(cargs.toArray++DR (C.ntmps-cargs.toArray.size) undef).getD t undef=M:=by
     have ah:=(Yj.1 V).1;have h5:=(Yj.1 V).2;simp[D0,Array.getElem?_append_left,ah,h5]
    rw[this];exact h4
  .simp;omega
  .rintro x a' N ⟨j',h',e',dV,Y,hr,E⟩
   have fin:(∃vs,uk res e' h'=Dc vs/\K (BZ vs) h')->a'.defers=[]/\∃v,(results C a'.tmps).run P N=.ok v N/\
     ∃v' eB O M,Ending.returned v=.returned M/\FR j h O eB/\MR B w0 O eB N/\VI O v' M/\K v' eB:=by
    rintro⟨vs,hv,E⟩
    obtain⟨cs,G,D⟩:=zBb Y hr aQ hv;have A:=D.length;refine⟨hr.defers,(if h:cs.toArray.size=1 then cs.toArray[0]else .tuple cs.toArray),?_,BZ vs,h',j',_,rfl,dV,Y,?_,E⟩
    .show(do let vs<-C.results.mapM (rvS a');pure (if h:vs.size=1 then vs[0]else Value.tuple vs):Sem Value).run P N=_
     rw[Sem.run_bind,Array.mapM_eq_mapM_toList];simp only[Sem.run_map,G,Result.andThen_ok,Sem.run_pure]
    .cases vs with
     |nil=>
      have:cs=[]:=YU (by simpa using A.symm)
      subst this;exact⟨[],rfl,aK⟩
     |cons v vs=>
      obtain⟨c1,cr,rfl,T,U⟩:=D;cases vs with
      |nil=>
       rw[show cr=[] from U];simpa [BZ]using T
      |cons u us=>
       obtain⟨c2,R2,rfl,g3,g4⟩:=U;simp only[BZ];rw[dif_neg aK];exact⟨_,⟨_,_,rfl,T,_,_,rfl,g3,g4⟩,rfl⟩
   cases x with
   |normal=>exact fin E
   |ret=>exact fin E
   |exit id=>exact E.elim
   |goto l=>exact E.elim
   |panic ch=>exact E.elim
   |outgrown=>exact E.elim
 .cases I
def condK(v:AV)(a b:Prop):Prop:=
 match v with
 | .bool t=>if t=DF then a else b
 |_=>False
def zPT(v:AV)(b:Bool)(x y:Prop):Prop:=
 match v with
 | .bool c=>if c=b then x else y
 | .tup []=>y
 |_=>False
section
variable{P:Program}{h:ct}{KA:AV->ct->Prop}
def zPt(n:Nat)(x v:AV)(h:ct)(KA:AV->ct->Prop):Prop:=
 match x with
 | .ptr o i=>v.cells.length=n/\fw (h.wr o i v.cells) λh'=>KA .undef h'
 |_=>False
def aMake(sz bytes:Nat)(z:List AV)(l c:AV)(h:ct)(KA:AV->ct->Prop):Prop:=
 match l,c with
 | .int _ l,.int _ c=>(0<=l/\l<=c/\c*bytes<=140737488355328/\c<=9223372036854775807)/\KA (.sl h.aM 0 l.toNat (.b6 c.toNat)) (h.bf ⟨DF,iU z c.toNat⟩)
 |_,_=>False
def zPu(P:Program)(f:AV)(args:List AV)(h:ct)(KA:AV->ct->Prop):Prop:=
 match f with
 | .clo f first cR=>okF P f=DF/\Zm P f (first++args++cR) h KA
 |_=>False
end
end
section
variable{h h' eB:ct}
def fl{n:Int}(l:-9223372036854775808<=n)(u:n<=9223372036854775807):Lp .i64 n=n:=by
 rw[IntKind.wrap_i64];omega
def WE{n:Int}(l:-9223372036854775808<=n:=by omega)(u:n<=9223372036854775807:=by omega):Lp .i64 n=n:=fl l u
def WQ{n m:Int}(e:n=m:=by omega)(l:-9223372036854775808<=n:=by omega)(u:n<=9223372036854775807:=by omega):Lp .i64 n=m:=(fl l u).trans e
def HWF(h:ct):Prop:=∀o,h.aM<=o->h.bt o=none
structure Ext(h h':ct):Prop where
 aM:h.aM<=h'.aM
 bt:∀o,o<h.aM->h'.bt o=h.bt o
 wf:HWF h'
def Ext.refl(hw:HWF h):Ext h h:=⟨na _,λ_ _=>rfl,hw⟩
def Ext.trans(a:Ext h h')(b:Ext h' eB):Ext h eB:=
 ⟨UJ a.aM b.aM,λo l=>(b.bt o (Yw l a.aM)).trans (a.bt o l),b.wf⟩
def HWF.lt(hw:HWF h){o:Nat}{u:tZ}(l:h.bt o=Dc u):o<h.aM:=by
 rcases YG o h.aM with x|x
 .exact x
 .rw[hw o x]at l;cases l
def HWF.bf(hw:HWF h)(u:tZ):HWF (h.bf u):=by
 intro o l;simp only[ct.bf]at l ⊢;rw[DL af];exact hw o af
def HWF.set(hw:HWF h){o:Nat}(u:o<h.aM)(cs:List AV):HWF (h.set o cs):=by
 intro x l;simp only[ct.set]at l ⊢;rw[DL af];exact hw x l
def HWF.kill(hw:HWF h)(o:Nat):HWF (h.kill o):=by
 intro x l;simp only[ct.kill]at l ⊢;split
 .rfl
 .exact hw x l
def zNF(l:tZ):(h.bf l).bt h.aM=Dc l:=by simp[ct.bf]
def zDd{o:Nat}(l:o≠h.aM)(u:tZ):(h.bf u).bt o=h.bt o:=by simp[ct.bf,l]
def zMl(o:Nat)(cs:List AV):(h.set o cs).bt o=Dc ⟨DF,cs⟩:=by simp[ct.set]
def zGY{o l:Nat}(u:l≠o)(cs:List AV):(h.set o cs).bt l=h.bt l:=by simp[ct.set,u]
def zFe{o l:Nat}(u:l≠o):(h.kill o).bt l=h.bt l:=by simp[ct.kill,u]
def Ext.bf(hw:HWF h)(l:tZ):Ext h (h.bf l):=⟨by simp[ct.bf],λo u=>zDd af _,hw.bf l⟩
def zCU{o off n:Nat}{l:tZ}(A:h.bt o=Dc l)(u:off+n<=Lu l.cells):h.rd o off n=Dc ((l.cells.drop off).take n):=by
 simp[ct.rd,A,u]
def zDU{o n:Nat}{l:tZ}(A:h.bt o=Dc l)(u:n=Lu l.cells):h.rd o 0 n=Dc l.cells:=by
 subst u;simp[ct.rd,A]
def zJE{o off n:Nat}(l:h'.bt o=h.bt o):h'.rd o off n=h.rd o off n:=by simp[ct.rd,l]
def zGg{o i:Nat}{l:tZ}(u:h.bt o=Dc l):h.dR o i=l.cells[i]?:=by simp[ct.dR,u]
def zOL{o off n k:Nat}{vs:List AV}(A:h.rd o off n=Dc vs)(l:k<n):h.dR o (off+k)=vs[k]?:=by
 obtain⟨D,u,C,rfl⟩:=ct.rd_some A;rw[zGg u,Yc,DK l,Y0]
def zEA{o off n a b:Nat}{vs:List AV}(u:h.rd o off n=Dc vs)(C:a+b<=n):h.rd o (off+a) b=Dc ((vs.drop a).take b):=by
 obtain⟨D,l,A,rfl⟩:=ct.rd_some u;rw[zCU l af];congr 1;rw[List.drop_take,List.take_take,List.drop_drop];congr 1;omega
def zBI{o i:Nat}{cs:List AV}{v:AV}(u:h.bt o=Dc ⟨DF,cs⟩)(hi:i<Lu cs)(A:v.one=DF):h.wr o i [v]=Dc (h.set o (cs.set i v)):=by
 simp only[ct.wr,u,YP,Yu,Eg,Ej,Em,A,Bool.and_true];rw[DK ⟨DJ,af,DJ⟩];congr 2;apply En;intro k;rw[Y4,Yv];rcases Eo k i with x|x|x
 .rw[DL af,Yn (by simp;omega),Yc,DK x]
 .subst x;rw[DK rfl,DK hi,Yz (by rw[Yh];omega),Yh]
  have:k-min k cs.length=0:=af
  rw[this];rfl
 .rw[DL af,Yz (by simp;omega)];have l:k-(List.take i cs).length=(k-i-1)+1:=by rw[Yh];omega
  rw[l,Yr,D3,Yl,Y0];congr 1;omega
def dd{α β:Type}(R:α->β->Prop)(as:List α)(l:List β):Prop:=as.length=Lu l/\∀(k:Nat) (a:α) (b:β),as[k]? = Dc a->l[k]? = Dc b->R a b
def dd.nil{α β:Type}(R:α->β->Prop):dd R [] []:=⟨rfl,λk a b h=>by simp at h⟩
def dd.snoc{α β:Type}{R:α->β->Prop}{as:List α}{A:List β}{a:α}{b:β}(h:dd R as A)(C:R a b):dd R (as++[a]) (A++[b]):=by
 refine⟨by simp[h.1],λk x y l u=>?_⟩;rcases Eo k as.length with e|e|e
 .rw[Yn e]at l;rw[Yn (by rw[<-h.1];exact e)]at u;exact h.2 k x y l u
 .rw[Yz af,e]at l;rw[Yz (by rw[<-h.1];omega),e,h.1]at u;simp at l u;subst l;subst u;exact C
 .rw[Yq (by simp;omega)]at l;cases l
def dd.get{α β:Type}{R:α->β->Prop}{as:List α}{l:List β}(h:dd R as l){k:Nat}(A:k<Lu l):∃a,as[k]? = Dc a/\R a l[k]:=by
 have u:k<Lu as:=by rw[h.1];exact A
 exact⟨as[k],YQ u,h.2 k _ _ (YQ u) (YQ A)⟩
def dd.cons{α β:Type}{R:α->β->Prop}{as:List α}{A:List β}{a:α}{b:β}(h:dd R as A)(C:R a b):dd R (a::as) (b::A):=by
 refine⟨by simp[h.1],λk x y l u=>?_⟩;cases k with
 |zero=>simp at l u;subst l;subst u;exact C
 |succ k=>exact h.2 k x y (by simpa using l) (by simpa using u)
end
section
variable{h:ct}
def gX{i n:Nat}(hi:i<n)(l:n<=4611686018427387904):Lp .i64 ((i:Int)+1)=((i+1:Nat):Int):=WQ
def WX{i n:Nat}(l:i<n)(u:n<=4611686018427387904:=by omega):Lp .i64 ((i:Int)+1)=((i+1:Nat):Int):=gX l u
def wrapA{a b:Nat}(l:a+b<=4611686018427387904):Lp .i64 ((a:Int)+(b:Int))=((a+b:Nat):Int):=WQ
def zAG{xs:V1}{i:Nat}(hi:i<Lu xs){p:Int->Prop}(h:∀x∈xs.take i,p x)(l:p xs[i]):∀x∈xs.take (i+1),p x:=by
 rw[YN hi];intro x hm;rcases YY.1 hm with hm|hm
 .exact h x hm
 .simp at hm;subst hm;exact l
def zBl{α:Type}{xs:List α}{i:Nat}(hi:¬i<Lu xs){p:α->Prop}(h:∀x∈xs.take i,p x):∀x∈xs,p x:=by
 rwa[YS af]at h
def zEc{α:Type}{xs:List α}{i:Nat}(hi:i<Lu xs){p:α->Prop}(h:∀x∈xs.take i,p x)(l:p xs[i]):∀x∈xs.take (i+1),p x:=by
 rw[YN hi];intro x hm;rcases YY.1 hm with hm|hm
 .exact h x hm
 .simp at hm;subst hm;exact l
def zMe(z:List AV):iU z 0=[]:=rfl
def zMf(v:AV):iU [v] 1=[v]:=rfl
def zD4(v:AV)(n:Nat):iU [v] n=Ep n v:=by
 simp[iU,List.flatten_replicate_singleton]
def zI4{α:Type}(l:List α)(z:α){i:Nat}(hi:i<Lu l):(l.take i++Ep (Lu l-i) z).set i l[i]=l.take (i+1)++Ep (Lu l-(i+1)) z:=by
 obtain⟨k,hk⟩:∃k,l.length-i=k+1:=⟨l.length-i-1,af⟩
 have u:(l.take i).length=i:=by rw[Yh];omega
 rw[hk,Es,List.set_append,DL af,u,Yk,Eu,YN hi,Yv,US];congr 3;omega
def zMC(h:ct)(a b:List AV):(h.bf ⟨DF,a⟩).set h.aM b=h.bf ⟨DF,b⟩:=by
 simp only[ct.set,ct.bf];congr 1;funext x;by_cases l:x=h.aM<;>simp[l]
def zSe{o i:Nat}{cs vs:List AV}(u:h.bt o=Dc ⟨DF,cs⟩)(l:i+Lu vs<=Lu cs)(A:vs.all AV.one=DF):h.wr o i vs=Dc (h.set o (cs.take i++vs++cs.drop (i+Lu vs))):=by
 simp only[ct.wr,u,YP];rw[DK ⟨DJ,l,A⟩]
end
section
variable{h:ct}{α:Type}{R:ct->AV->α->List Nat->Prop}
structure zEp(R:ct->AV->α->List Nat->Prop)(lo:Nat)(h:ct)(us:List AV)(CZ:List (List Nat))(xs:List α):Prop where
 len:us.length=Lu CZ
 own:dd (λvf x=>R h vf.1 x vf.2) (us.zip CZ) xs
 nodup:CZ.flatten.Nodup
 lo:∀o∈CZ.flatten,lo<=o/\o<h.aM
end
section
open Go.ChangeShapes Go.WideShapes Go.RowKit Go.Deep
variable{w0 w:World}{j:gz}{h:ct}
def MR.empty(w:World):MR w.heap.size w (λ_=>none) ⟨0,λ_=>none⟩ w:=
 ⟨Below.refl _ _,na _,λ_ _=>⟨rfl,rfl⟩,λ_ _ _ l=>(by cases l),λ_ _ _ _ _ _ _ l=>(by cases l)⟩
def MR.wf(m:MR B w0 j h w):HWF h:=λo l=>(m.fresh o l).1
def gz.le_put(m:MR B w0 j h w)(l:Loc):j.le (j.put h.aM l):=by
 intro o A u
 have:=m.lt u
 simp[gz.put,Ev this,u]
def MR.lay(m:MR B w0 j h w){cells:List AV}{l:Loc}(O:cells.all AV.one=DF)(U:l.blk<B){cur:Array Value}{ty:TypeId}{fz:Nat×Nat}(S:w.heap[l.blk]? = Dc (.cells cur ty fz))
  (V:∀i v,cells[i]? = Dc v->∃C,cur[l.base+i]? = Dc C/\VI j v C):MR B w0 (j.put h.aM l) (h.bf ⟨false,cells⟩) w:=by
 have hle:=gz.le_put m l;refine⟨m.below,m.bnd,λo u=>?_,λo E Y u A=>?_,λo M E X J l2 T u I A D G=>?_⟩
 .simp only[ct.bf]at u
  have:o≠h.aM:=af
  simp only[ct.bf,gz.put,DL this];exact m.fresh o af
 .by_cases e:o=h.aM
  .subst e;simp only[ct.bf,if_true,YC]at u;simp only[gz.put,if_true,YC]at A;subst u;subst A;exact⟨O,cur,ty,fz,S,λi v hi=>by obtain⟨C,a,b⟩:=V i v hi;exact⟨C,a,VI.mono hle _ _ b⟩,λx=>(by cases x),λ_=>U⟩
  .simp only[ct.bf,DL e]at u;simp only[gz.put,DL e]at A;obtain⟨a,qq,oS,N,b,c,d⟩:=m.bt o E Y u A;exact⟨a,qq,oS,N,b,λi v hi=>by obtain⟨C,x,y⟩:=c i v hi;exact⟨C,x,VI.mono hle _ _ y⟩,d⟩
 .by_cases e:o=h.aM
  .subst e;simp only[ct.bf,if_true,YC]at u;subst u;cases G
  .simp only[ct.bf,DL e]at u;simp only[gz.put,DL e]at A;by_cases e':M=h.aM
   .subst e';simp only[gz.put,if_true,YC]at D;subst D;obtain⟨_,_,_,_,_,_,d,_⟩:=m.bt o E J u A
    have:=(d G).2.2
    omega
   .simp only[ct.bf,DL e']at I;simp only[gz.put,DL e']at D;exact m.apart o M E X J l2 T u I A D G
def zMW{a:Addr}{v:Value}(l:w.cell? a=Dc v):a.spot=none/\∃cur ty fz,w.heap[a.block]? = Dc (.cells cur ty fz)/\cur[a.off]? = Dc v:=by
 unfold World.cell? at l;split at l
 .rename_i c t f u;split at l
  .cases l
  .rename_i hs;exact⟨by simpa using hs,c,t,f,u,l⟩
 .cases l
def eE(w:World)(A:Option Addr)(L C:Nat)(Z:V1):Prop:=
 L<=C/\C<=maxLen/\Lu Z=C/\(A=none->C=0)/\∀a',A=Dc a'->∀c,c<C->w.cell? (a'.add c)=Dc (.int .i64 (Z.getD c 0))
def zTN{b:Nat}{o:Obj}(l:w.heap[b]? = Dc o):b<w.heap.size:=by
 rcases YG b w.heap.size with x|x
 .exact x
 .rw[Array.getElem?_eq_none x]at l;cases l
end
section
open Go.ChangeShapes Go.WideShapes Go.RowKit Go.Deep
variable{H:Type}{enc:TypeId×Value->H}{P:Program}
def zDo(E:laidOutB P=DF){W C:World}(D:Below W.heap.size W C){G:Nat->Bool}:∀{ts:List TypeId} {vs:List Value} {A:List (DataW H)} {u:List MemPlace},(∀t∈ts,P.readableRec t=DF/\t<P.types.size)->
  DataW.TrodAll enc P W 0 (λ_=>DF) DF ts vs A u->(∀x∈u,x.block<W.heap.size)->(∀x∈u,G x.block=DF)->DataW.TrodAll enc P C 0 G DF ts vs A u
 |[],vs,A,u,_,h,_,_=>by
  obtain⟨rfl,rfl,rfl⟩:=trodAll_nil h;rfl
 |t::ts,vs,A,u,ht,h,h1,h2=>by
  obtain⟨v,N,d,O,p,q,rfl,rfl,rfl,J,M⟩:=trodAll_cons h;exact trodAll_cons_mk (WideElems.Trod_stays E (ht t aK).1 (ht t aK).2 J (λx l=>D.same (h1 x (by simp[l]))) (λx l=>h2 x (by simp[l])))
   (zDo E D (λt' I=>ht t' (by simp[I])) M (λx l=>h1 x (by simp[l])) (λx l=>h2 x (by simp[l])))
def zId{f:Func}{s:ChangeSpec}{apart fresh handsOn again:Bool}{W A:World}{args:Array Value}{l gs:List (DataW H)}{before:List MemPlace}{X:TypeId}(V:s.vars=[])(hl:laidOutB P=DF)
  (kv:∀t∈f.params.toList,P.readableRec t=DF/\t<P.types.size) (N:f.resultTypes = #[X]) (M:P.underlying X=Dc .bool)
  (D:s.fn H l={ results:=[.lit (.bool DF)],args:=l }) (I:DataW.Whole enc P f.params.toList s.vars apart W args.toList l gs before) (J:Below W.heap.size W A):
  s.post enc P f apart fresh handsOn again W args (.bool DF) A:=by
 have E:=I.lt;have Y:=I;obtain⟨p,q,hA,G,rfl,hz,hn⟩:=I;have RF:=G;rw[V]at G;obtain⟨rfl,rfl⟩:=trodVars_none G;simp only[Ye]at *;have O:∀u:Nat->Bool,(∀x∈p,u x.block=DF)->DataW.TrodAll enc P A 0 u DF f.params.toList args.toList (s.fn H l).args p:=λu kX=>by
  rw[D];exact zDo hl J kv hA (λx C=>E x C) kX
 have T:∀(b:Nat) (u:Nat->Bool) (hd:Bool),DataW.TrodAll enc P A b u hd f.resultTypes.toList ((Value.bool DF).resultList f.resultTypes.size) (s.fn H l).results []:=λb u hd=>by
  rw[D,N];exact trodAll_cons_mk (shut_bool M _) trodAll_mk0
 have S:∀u:Nat->Bool,DataW.TrodVars enc P A u s.vars (s.fn H l).vars []:=λu=>by rw[D,V];rfl
 have e:l++[]=l:=Ye l;have hold:∀x∈p,(λb=>decide (b<W.heap.size)) x.block=DF:=λx C=>by simpa using E x C
 refine⟨l,[],p,[],p,[],Y,by rw[e];exact T _ _ _,by rw[e];exact O _ hold,by rw[e];exact S _,J.frame _,λ_=>⟨ok_one N rfl (okWide_bool_mk M _),_,_,([]++p)++[],⟨[]++p,[],trodAll_append (O _ (λ_ _=>rfl)) (T _ _ _),S _,rfl,?_,?_⟩,?_⟩⟩
 .intro b off hp;have U:MemPlace.cell b off∈p:=by simpa using hp
  rw[J.frozen (p:=⟨b,off,none⟩) (E _ U)];exact hz b off U
 .intro ha
  have:=hn ha
  simpa using this
 .intro x C _;simpa using C
def Zm.calls{f:FuncId}{args:List AV}{h:ct}{j:gz}{W:World}{cargs:Array Value}(u:Zm P f args h (λv _=>v=.bool DF))(m:MR W.heap.size W j h W)(C:l6 j args cargs.toList):
  Calls P f cargs W λe l=>e=.returned (.bool DF)/\Below W.heap.size W l:=by
 have:=u W.heap.size W j W cargs.toList m C
 rw[Ew]at this;refine this.mono ?_
 rintro e l ⟨v,h',G,A,rfl,_,D,E,rfl⟩
 exact⟨by rw[show A=.bool DF from E],D.below⟩
def nm{α:Type}(a:α):α:=a
def kr{α:Type}(a:α):nm a=a:=Eq.trans rfl rfl
section
variable{P:Program}
@[congr] theorem cg_vc {c:IC} {Q:Exit->Env->ct->Prop} {e e':Env} {h h':ct} (l:nm e=e') (u:h=h'):vc P c Q e h=vc P c Q e' h':=by rw[kr]at l;rw[l,u]
@[congr] theorem cg_TV {t:OT} {recs l:List Rec} {K:Env->ct->Prop} {e e':Env} {h h':ct} (A:recs=l) (u:nm e=e') (C:h=h'):TV P t recs e h K=TV P t l e' h' K:=by rw[kr]at u;rw[A,u,C]
@[congr] theorem cg_RV {l:List II} {K:Env->ct->Prop} {e e':Env} {h h':ct} (u:nm e=e') (A:h=h'):RV P l e h K=RV P l e' h' K:=by rw[kr]at u;rw[u,A]
@[congr] theorem cg_DV {nb C:Nat} {u:List DI} {recs l:List Rec} {K:Env->ct->Prop} {e e':Env} {h h':ct} (A:nm nb=C) (D:recs=l) (E:e=e') (G:h=h'):DV P nb u recs e h K=DV P C u l e' h' K:=by rw[kr]at A;rw[A,D,E,G]
@[congr] theorem cg_ge {it:II} {K:AV->ct->Prop} {e e':Env} {h h':ct} (l:nm e=e') (u:h=h'):ge P it e h K=ge P it e' h' K:=by rw[kr]at l;rw[l,u]
@[congr] theorem zTi {op:qk} {K:AV->ct->Prop} {e e':Env} {h h':ct} (l:nm e=e') (u:h=h'):eff P op e h K=eff P op e' h' K:=by rw[kr]at l;rw[l,u]
@[congr] theorem zTc {f:FuncId} {K:AV->ct->Prop} {args l:List AV} {h h':ct} (u:nm args=l) (A:h=h'):Zm P f args h K=Zm P f l h' K:=by rw[kr]at u;rw[u,A]
@[congr] theorem zTg {α:Type} {o u:Option α} {K:α->Prop} (l:nm o=u):fw o K=fw u K:=by rw[kr]at l;rw[l]
@[congr] theorem zTZ {n:Nat} {K:AV->ct->Prop} {x A v u:AV} {h h':ct} (l:nm x=A) (C:v=u) (D:h=h'):zPt n x v h K=zPt n A u h' K:=by rw[kr]at l;rw[l,C,D]
@[congr] theorem zTf {sz b:Nat} {z:List AV} {K:AV->ct->Prop} {x A v u:AV} {h h':ct} (l:nm x=A) (C:v=u) (D:h=h'):aMake sz b z x v h K=aMake sz b z A u h' K:=by rw[kr]at l;rw[l,C,D]
@[congr] theorem zTa {K:AV->ct->Prop} {f f':AV} {args l:List AV} {h h':ct} (u:nm f=f') (A:args=l) (C:h=h'):zPu P f args h K=zPu P f' l h' K:=by rw[kr]at u;rw[u,A,C]
@[congr] theorem zTe {v u:AV} {a b:Prop} (l:nm v=u):condK v a b=condK u a b:=by rw[kr]at l;rw[l]
@[congr] theorem zTY {v u:AV} {b:Bool} {x y:Prop} (l:nm v=u):zPT v b x y=zPT u b x y:=by rw[kr]at l;rw[l]
end
end
inductive PV where
 |undef
 |bool (b:Bool)
 |int (k:IntKind) (n:Int)
 |str (s:List UInt8)
 |nilp
 |nilf
 |fz (w:Bool) (a:AV) (len:Nat) (cs:List PV)
 |fp (a:AV) (cs:List PV)
 |ptr (s i:Nat)
 |sl (s off len:Nat) (cap:jZ)
 |clo (f:FuncId) (first cR:List PV)
 |agg (cs:List PV)
 |tup (vs:List PV)
instance:Inhabited PV:=⟨.undef⟩
def PV.one:PV->Bool
 | .undef | .agg _ | .tup _=>false
 |_=>DF
def PV.cells:PV->List PV
 | .agg cs=>cs
 |v=>[v]
mutual
def er(ι:Nat->Nat):PV->AV
 | .undef=>.undef
 | .bool b=>.bool b
 | .int k n=>.int k n
 | .str s=>.str s
 | .nilp=>.nilp
 | .nilf=>.nilf
 | .fz _ a _ _=>a
 | .fp a _=>a
 | .ptr s i=>.ptr (ι s) i
 | .sl s off len cap=>.sl (ι s) off len cap
 | .clo f a b=>.clo f (ju ι a) (ju ι b)
 | .agg cs=>.agg (ju ι cs)
 | .tup cs=>.tup (ju ι cs)
def ju(ι:Nat->Nat):List PV->List AV
 |[]=>[]
 |c::cs=>er ι c::ju ι cs
end
mutual
def lb:AV->PV
 | .undef=>.undef
 | .bool b=>.bool b
 | .int k n=>.int k n
 | .str s=>.str s
 | .nilp=>.nilp
 | .nilf=>.nilf
 | .b8=>.fz DF .b8 0 []
 | .ptr o i=>.fp (.ptr o i) []
 | .sl o off n c=>.fp (.sl o off n c) []
 | .clo f a b=>.clo f (fi a) (fi b)
 | .agg cs=>.agg (fi cs)
 | .tup cs=>.tup (fi cs)
def fi:List AV->List PV
 |[]=>[]
 |c::cs=>lb c::fi cs
end
structure cg where
 aM:Nat
 top:Nat
 bt:Nat->Option (List PV)
namespace cg
def bf(σ:cg)(cs:List PV):cg:=⟨σ.aM+1,σ.top,λs=>if s=σ.aM then Dc cs else σ.bt s⟩
def set(σ:cg)(s:Nat)(cs:List PV):cg:=⟨σ.aM,σ.top,λl=>if l=s then Dc cs else σ.bt l⟩
def kill(σ:cg)(s:Nat):cg:=⟨σ.aM,σ.top,λl=>if l=s then none else σ.bt l⟩
def up(σ:cg)(t:Nat):cg:=⟨σ.aM,t,σ.bt⟩
def dR(σ:cg)(s i:Nat):Option PV:=(σ.bt s).bind λcs=>cs[i]?
def rd(σ:cg)(s i n:Nat):Option (List PV):=(σ.bt s).bind λcs=>if i+n<=cs.length then Dc ((cs.drop i).take n)else none
def wr(σ:cg)(s i:Nat)(vs:List PV):Option cg:=(σ.bt s).bind λcs=>
 if i+Lu vs<=Lu cs/\vs.all PV.one=DF then Dc (σ.set s (cs.take i++vs++cs.drop (i+Lu vs)))else none
def news(σ:cg):List (List AV)->cg
 |[]=>σ
 |z::zs=>(σ.bf (fi z)).news zs
end cg
abbrev ec:=Nat->PV
def ec.put(e:ec)(d:Option Nat)(v:PV):ec:=match d with
 |some d=>λt=>if t=d then v else e t
 |none=>e
def ec.mk:List Nat->List PV->ec
 |s::S,v::vs=>λt=>if t=s then v else ec.mk S vs t
 |_,_=>λ_=>.undef
def IX.pv(e:ec):IX->PV
 | .t n=>e n
 | .c v=>lb v
def ZX:AV->Bool
 | .b8=>DF
 |_=>false
def Aj(op:BinOp)(r:Bool):Option PV:=
 match op with
 | .eql=>Dc (.bool r)
 | .neq=>Dc (.bool !r)
 |_=>none
def vE:List PV->List PV->Option Bool
 |[],[]=>Dc DF
 | .int k a::xs,.int k' b::ys=>if k=k' then(vE xs ys).map λr=>decide (a=b) && r else none
 |_,_=>none
def j7(op:BinOp)(l:CP)(x y:PV):Option PV:=
 match x,y with
 | .int k a,.int k' b=>(vT op l (.int k a) (.int k' b)).map lb
 | .str a,.str b=>(astr op a b).map lb
 | .bool a,.bool b=>match l with | .bool=>Aj op (a == b)|_=>none
 | .fz _ a _ _,.fz _ b _ _=>match l with | .slice=>if ZX b=DF then Aj op (ZX a)else if ZX a=DF then Aj op false else none|_=>none
 | .sl _ _ _ _,.fz _ b _ _=>match l with | .slice=>if ZX b=DF then Aj op false else none|_=>none
 | .fz _ a _ _,.sl _ _ _ _=>match l with | .slice=>if ZX a=DF then Aj op false else none|_=>none
 | .nilp,.nilp=>match l with | .pointer=>Aj op DF|_=>none
 | .ptr _ _,.nilp=>match l with | .pointer=>Aj op false|_=>none
 | .nilp,.ptr _ _=>match l with | .pointer=>Aj op false|_=>none
 | .nilf,.nilf=>match l with | .func=>Aj op DF|_=>none
 | .clo _ _ _,.nilf=>match l with | .func=>Aj op false|_=>none
 | .nilf,.clo _ _ _=>match l with | .func=>Aj op false|_=>none
 | .agg xs,.agg ys=>match l with | .ints n=>if xs.length=n/\Lu ys=n then(vE xs ys).bind λr=>Aj op r else none|_=>none
 |_,_=>none
def pun(op:UnOp)(x:PV):Option PV:=
 match x with
 | .int k n=>(aun op (.int k n)).map lb
 | .bool b=>(aun op (.bool b)).map lb
 |_=>none
def yy(cells:List PV):List (Nat×Nat×PV)->Option (List PV)
 |[]=>Dc cells
 |(off,size,v)::rest=>
  if v.cells.length=size/\off+size<=Lu cells/\v.cells.all PV.one=DF then yy (cells.take off++v.cells++cells.drop (off+size)) rest else none
def Zl(x:PV)(y:Nat):Option Nat:=
 match x with
 | .int _ i=>if 0<=i/\i<=y then Dc i.toNat else none
 |_=>none
def zl(x:Option PV)(l y:Nat):Option Nat:=
 match x with
 |some x=>Zl x y
 |none=>Dc l
def pslA(e:Nat)(a:AV)(l h:Nat):AV:=
 match a with
 | .sl o off _ (.b6 c)=>.sl o (if c=l then off else off+l*e) (h-l) (.b6 (c-l))
 | .sl o off _ (.grown g)=>.sl o (off+l*e) (h-l) (.grown (if g=e then g else 0))
 |a=>a
def pslM(e:Nat)(a:AV)(l h m:Nat):AV:=
 match a with
 | .sl o off _ _=>.sl o (if m=l then off else off+l*e) (h-l) (.b6 (m-l))
 |a=>a
def Zt(e:Nat)(x:PV)(lo hi mx:Option PV):Option PV:=
 match x with
 | .sl s off len (.b6 c)=>
  (zl mx c c).bind λm=>(zl hi len m).bind λh=>(zl lo 0 h).bind λl=>
   if hi.isNone=DF/\mx.isSome=DF then none else Dc (.sl s (if m=l then off else off+l*e) (h-l) (.b6 (m-l)))
 | .sl s off len (.grown g)=>
  match mx with
  |some mx=>(Zl mx len).bind λm=>(zl hi len m).bind λh=>(zl lo 0 h).bind λl=>
   if hi.isNone=DF then none else Dc (.sl s (if m=l then 0 else off+l*e) (h-l) (.b6 (m-l)))
  |none=>(zl hi len len).bind λh=>(zl lo 0 h).bind λl=>
   Dc (.sl s (off+l*e) (h-l) (.grown (if g=e then g else 0)))
 | .fz _ a len cs=>
  match mx with
  |none=>(zl hi len len).bind λh=>(zl lo 0 h).bind λl=>Dc (.fz false (pslA e a l h) (h-l) ((cs.drop (l*e)).take ((h-l)*e)))
  |some mx=>match a with
   | .b8=>(Zl mx 0).bind λm=>(zl hi 0 m).bind λh=>(zl lo 0 h).bind λ_=>if hi.isNone=DF then none else Dc (.fz DF .b8 0 [])
   |_=>none
 |_=>none
def zCW(x:PV)(lo hi:Option PV):Option PV:=
 match x with
 | .str s=>(zl hi s.length s.length).bind λh=>(zl lo 0 h).bind λl=>Dc (.str ((s.take h).drop l))
 |_=>none
def pPick(c a b:PV):Option PV:=
 match c with
 | .bool t=>Dc (if t=DF then a else b)
 |_=>none
def pConv(k:IntKind)(x:PV):Option PV:=
 match x with
 | .int _ n=>Dc (.int k (k.wrap n))
 |_=>none
def pNil(x:PV):Option PV:=
 match x with
 | .ptr s i=>Dc (.ptr s i)
 | .fp a cs=>if cs.isEmpty=DF then none else Dc (.fp a cs)
 | .clo f a b=>Dc (.clo f a b)
 |_=>none
def zEG(agg:Bool)(n off:Nat)(x:PV):Option PV:=
 match x with
 | .agg cs=>if agg=DF then Dc (.agg ((cs.drop off).take n))else cs[off]?
 |_=>none
def pAdd(a:AV)(k:Nat):AV:=
 match a with
 | .ptr o i=>.ptr o (i+k)
 |a=>a
def zAg(off:Nat)(x:PV):Option PV:=
 match x with
 | .ptr s i=>Dc (.ptr s (i+off))
 | .fp a cs=>if cs.isEmpty=DF then none else Dc (.fp (pAdd a off) (cs.drop off))
 |_=>none
def pAt(a:AV)(k:Nat):AV:=
 match a with
 | .sl o off _ _=>.ptr o (off+k)
 |_=>.ptr 0 0
def zC9(sz:Nat)(x i:PV):Option PV:=
 match x,i with
 | .sl s off len _,.int _ n=>if 0<=n/\n<len then Dc (.ptr s (off+n.toNat*sz))else none
 | .fz _ a len cs,.int _ n=>if 0<=n/\n<len then Dc (.fp (pAt a (n.toNat*sz)) (cs.drop (n.toNat*sz)))else none
 |_,_=>none
def zE3(x i:PV):Option PV:=
 match x,i with
 | .str s,.int _ n=>if 0<=n then(s[n.toNat]?).map λc=>.int .u8 c.toNat else none
 |_,_=>none
def zDb(x:PV)(i:Nat):Option PV:=
 match x with
 | .tup vs=>vs[i]?
 |_=>none
def vd(x:PV):Option Nat:=
 match x with
 | .fz _ _ n _=>Dc n
 | .sl _ _ n _=>Dc n
 |_=>none
def mo(x:PV):Option PV:=(vd x).map λn=>.int .i64 n
def zE2(x:PV):Option PV:=
 match x with
 | .str s=>Dc (.int .i64 s.length)
 |_=>none
def pCap(x:PV):Option PV:=
 match x with
 | .sl _ _ _ (.b6 c)=>Dc (.int .i64 c)
 | .fz _ .b8 _ _=>Dc (.int .i64 0)
 |_=>none
def zC8(mx:Bool)(x y:PV):Option PV:=
 match x,y with
 | .int k a,.int k' b=>if k=k' then Dc (.int k (if mx=DF then max a b else min a b))else none
 |_,_=>none
def Cy(agg:Bool)(n:Nat)(x:PV)(σ:cg):Option PV:=
 match x with
 | .ptr s i=>if agg=DF then(σ.rd s i n).map .agg else σ.dR s i
 | .fp _ cs=>if agg=DF then(if 0<n/\n<=cs.length then Dc (.agg (cs.take n))else none)else cs[0]?
 |_=>none
def qp(nb nr:Nat)(op:qk)(e:ec)(σ:cg):Option PV:=
 match op with
 | .mv x=>Dc (x.pv e)
 | .pick c a b=>pPick (c.pv e) (a.pv e) (b.pv e)
 | .bin op ek x y=>j7 op ek (x.pv e) (y.pv e)
 | .un op x=>pun op (x.pv e)
 | .conv k x=>pConv k (x.pv e)
 | .nilCheck x=>pNil (x.pv e)
 | .build z ps=>(yy (fi z) (ps.map λp=>(p.1,p.2.1,p.2.2.pv e))).map .agg
 | .field agg n off x=>zEG agg n off (x.pv e)
 | .fieldAddr off x=>zAg off (x.pv e)
 | .indexAddr sz x i=>zC9 sz (x.pv e) (i.pv e)
 | .indexStr x i=>zE3 (x.pv e) (i.pv e)
 | .extract x i=>zDb (x.pv e) i
 | .len x=>mo (x.pv e)
 | .lenStr x=>zE2 (x.pv e)
 | .cap x=>pCap (x.pv e)
 | .slice sz x lo hi mx=>Zt sz (x.pv e) (lo.map (·.pv e)) (hi.map (·.pv e)) (mx.map (·.pv e))
 | .sliceStr x lo hi=>zCW (x.pv e) (lo.map (·.pv e)) (hi.map (·.pv e))
 | .maxmin mx x y=>zC8 mx (x.pv e) (y.pv e)
 | .makeFunc f first cR=>Dc (.clo f (first.map (·.pv e)) (cR.map (·.pv e)))
 | .load agg n x=>Cy agg n (x.pv e) σ
 | .rev k=>if k<nr then Dc (.ptr (nb+k) 0)else none
 | .revS k n=>if k<nr then Dc (.sl (nb+k) 0 n (.b6 n))else none
 |_=>none
def ZV(e:Nat)(σ:cg)(x:PV)(n:Nat):Option (List PV):=
 if n=0 then Dc []else
 match x with
 | .sl s off len _=>if n<=len then σ.rd s off (n*e)else none
 | .fz _ _ len cs=>if n<=len/\n*e<=Lu cs/\0<e then Dc (cs.take (n*e))else none
 |_=>none
def zC7:List PV->Option (List UInt8)
 |[]=>Dc []
 | .int .u8 n::r=>(zC7 r).map λs=>UInt8.ofNat n.toNat::s
 |_=>none
def zCD(σ:cg)(x:PV):Option (List UInt8):=(vd x).bind λn=>(ZV 1 σ x n).bind zC7
def yA(e bytes:Nat)(σ:cg)(s:PV)(news:List PV)(m:Nat):Option (PV×cg):=
 match s with
 | .fz _ .b8 _ _=>if m*bytes<=140737488355328/\m<=4611686018427387904 then Dc (.sl σ.aM 0 m (.grown e),σ.bf news)else none
 | .fz w (.sl _ _ _ (.b6 c)) len cs=>
  if c<len+m/\(w=DF\/cs.isEmpty=false)/\Lu cs=len*e/\(len+m)*bytes<=140737488355328/\len+m<=4611686018427387904 then Dc (.sl σ.aM 0 (len+m) (.grown e),σ.bf (cs++news))else none
 | .sl s off len (.b6 c)=>
  if len+m<=c then(σ.wr s (off+len*e) news).map λσ'=>(.sl s off (len+m) (.b6 c),σ')
  else if (len+m)*bytes<=140737488355328/\len+m<=4611686018427387904 then(σ.rd s off (len*e)).map λold=>(.sl σ.aM 0 (len+m) (.grown e),σ.bf (old++news))else none
 | .sl s off len (.grown g)=>
  if (len+m)*bytes<=140737488355328/\len+m<=4611686018427387904/\g=e then
   (σ.bt s).bind λcs=>if off+len*e<=cs.length then Dc (.sl σ.aM 0 (len+m) (.grown e),(σ.kill s).bf ((cs.drop off).take (len*e)++news))else none
  else none
 |_=>none
def B3(s:PV):Option PV:=
 match s with
 | .fz _ .b8 _ _=>Dc (.fz DF .b8 0 [])
 | .sl s off len (.b6 c)=>if len<=c then Dc (.sl s off len (.b6 c))else none
 | .sl s off len (.grown e)=>Dc (.sl s off len (.grown e))
 | .fz w (.sl o off l c) len cs=>Dc (.fz w (.sl o off l c) len cs)
 |_=>none
def qL(e bytes:Nat)(σ:cg)(s x:PV):Option (PV×cg):=
 (vd x).bind λm=>if m=0 then(B3 s).map λv=>(v,σ)else(ZV e σ x m).bind λnews=>yA e bytes σ s news m
def Az(e:Nat)(σ:cg)(d s:PV):Option (PV×cg):=
 (vd d).bind λn=>(vd s).bind λm=>if min m n=0 then Dc (.int .i64 0,σ)else
  match d with
  | .sl o off _ _=>(ZV e σ s (min m n)).bind λcs=>(σ.wr o off cs).map λσ'=>(.int .i64 (min m n:Nat),σ')
  |_=>none
section
variable{ι ι':Nat->Nat}{Z Z':Nat->Prop}{h h':ct}{σ σ':cg}
def zAW(ι:Nat->Nat):∀cs:List PV,ju ι cs=cs.map (er ι)
 |[]=>rfl
 |c::cs=>by rw[ju,zAW ι cs];rfl
def zIE:∀cs:List AV,fi cs=cs.map lb
 |[]=>rfl
 |c::cs=>by rw[fi,zIE cs];rfl
mutual
def zHy(ι:Nat->Nat):∀v:AV,er ι (lb v)=v
 | .undef | .bool _ | .int _ _ | .str _ | .nilp | .nilf | .b8 | .ptr _ _ | .sl _ _ _ _=>rfl
 | .clo f a b=>by simp only[lb,er,ZH ι a,ZH ι b]
 | .agg a=>by simp only[lb,er,ZH ι a]
 | .tup a=>by simp only[lb,er,ZH ι a]
def ZH(ι:Nat->Nat):∀v:List AV,ju ι (fi v)=v
 |[]=>rfl
 |c::cs=>by simp only[fi,ju,zHy ι c,ZH ι cs]
end
def FzAt(Z:Nat->Prop)(h:ct)(w:Bool)(a:AV)(len:Nat)(l:List AV):Prop:=
 (a=.b8/\len=0/\l=[])\/∃o off cap,a=.sl o off len cap/\Z o/\(l=[]\/h.rd o off l.length=Dc l)/\(∀c,cap=.b6 c->len<=c)/\(w=DF->off=0/\h.bt o=Dc ⟨DF,l⟩)
def FpAt(Z:Nat->Prop)(h:ct)(a:AV)(l:List AV):Prop:=
 a.one=DF/\(l=[]\/∃o i,a=.ptr o i/\Z o/\h.rd o i l.length=Dc l)
def vq:Nat->Nat:=λ_=>0
mutual
def kj(Z:Nat->Prop)(h:ct)(n:Nat):PV->Prop
 | .undef | .bool _ | .int _ _ | .str _ | .nilp | .nilf=>True
 | .fz w a len cs=>FzAt Z h w a len (ju vq cs)/\dP Z h 0 cs
 | .fp a cs=>FpAt Z h a (ju vq cs)/\dP Z h 0 cs
 | .ptr s _=>s<n
 | .sl s _ _ _=>s<n
 | .clo _ a b=>dP Z h n a/\dP Z h n b
 | .agg cs=>dP Z h n cs
 | .tup cs=>dP Z h n cs
def dP(Z:Nat->Prop)(h:ct)(n:Nat):List PV->Prop
 |[]=>True
 |c::cs=>kj Z h n c/\dP Z h n cs
end
def zAP:∀{cs:List PV},dP Z h n cs↔∀c∈cs,kj Z h n c
 |[]=>by simp[dP]
 |c::cs=>by simp[dP,zAP (cs:=cs)]
def FzAt.mono(C:∀o,Z o->Z' o/\h'.bt o=h.bt o){w:Bool}{a:AV}{len:Nat}{E:List AV}(A:FzAt Z h w a len E):FzAt Z' h' w a len E:=by
 rcases A with A|⟨o,off,cap,rfl,l,u,G,D⟩
 .exact .inl A
 .exact .inr ⟨o,off,cap,rfl,(C o l).1,u.imp id λu=>by rw[zJE (C o l).2];exact u,G,λhw=>⟨(D hw).1,by rw[(C o l).2];exact(D hw).2⟩⟩
def FpAt.mono(A:∀o,Z o->Z' o/\h'.bt o=h.bt o){a:AV}{C:List AV}(E:FpAt Z h a C):FpAt Z' h' a C:=by
 obtain⟨l,rfl|⟨o,i,rfl,u,D⟩⟩:=E
 .exact⟨l,.inl rfl⟩
 .exact⟨l,.inr ⟨o,i,rfl,(A o u).1,by rw[zJE (A o u).2];exact D⟩⟩
mutual
def kj.mono(l:∀o,Z o->Z' o/\h'.bt o=h.bt o){n n':Nat}(u:n<=n'):∀{v:PV},kj Z h n v->kj Z' h' n' v
 | .undef,_ | .bool _,_ | .int _ _,_ | .str _,_ | .nilp,_ | .nilf,_=>trivial
 | .fz w a len cs,hv=>⟨hv.1.mono l,dP.mono l (na 0) hv.2⟩
 | .fp a cs,hv=>⟨hv.1.mono l,dP.mono l (na 0) hv.2⟩
 | .ptr s _,hv=>Yw (show s<n from hv) u
 | .sl s _ _ _,hv=>Yw (show s<n from hv) u
 | .clo _ a b,hv=>⟨dP.mono l u hv.1,dP.mono l u hv.2⟩
 | .agg cs,hv=>dP.mono (cs:=cs) l u hv
 | .tup cs,hv=>dP.mono (cs:=cs) l u hv
def dP.mono(u:∀o,Z o->Z' o/\h'.bt o=h.bt o){n n':Nat}(l:n<=n'):∀{cs:List PV},dP Z h n cs->dP Z' h' n' cs
 |[],_=>trivial
 |c::cs,hv=>⟨kj.mono u l hv.1,dP.mono u l hv.2⟩
end
def dP.up{v:List PV}(A:dP Z h n v)(l:n<=n'):dP Z h n' v:=A.mono (λo u=>⟨u,rfl⟩) l
mutual
def zF9{n:Nat}(hi:∀s,s<n->ι' s=ι s):∀{v:PV},kj Z h n v->er ι' v=er ι v
 | .undef,_ | .bool _,_ | .int _ _,_ | .str _,_ | .nilp,_ | .nilf,_=>rfl
 | .fz w a len cs,hv=>rfl
 | .fp a cs,hv=>rfl
 | .ptr s _,hv=>by simp only[er];rw[hi s hv]
 | .sl s _ _ _,hv=>by simp only[er];rw[hi s hv]
 | .clo _ a b,hv=>by simp only[er];rw[Z4 hi hv.1,Z4 hi hv.2]
 | .agg cs,hv=>by simp only[er];rw[Z4 (cs:=cs) hi hv]
 | .tup cs,hv=>by simp only[er];rw[Z4 (cs:=cs) hi hv]
def Z4{n:Nat}(hi:∀s,s<n->ι' s=ι s):∀{cs:List PV},dP Z h n cs->ju ι' cs=ju ι cs
 |[],_=>rfl
 |c::cs,hv=>by simp only[ju];rw[zF9 hi hv.1,Z4 hi hv.2]
end
def zBm{cs:List PV}(l:dP Z h 0 cs):ju ι cs=ju vq cs:=Z4 (λs hs=>absurd hs (Ex _)) l
def zEe{v:PV}(l:kj Z h 0 v):er ι v=er vq v:=zF9 (λs hs=>absurd hs (Ex _)) l
mutual
def kj.lb:∀(v:AV),kj Z h n (lb v)
 | .undef | .bool _ | .int _ _ | .str _ | .nilp | .nilf=>trivial
 | .b8=>⟨.inl ⟨rfl,rfl,rfl⟩,DJ⟩
 | .ptr _ _ | .sl _ _ _ _=>⟨⟨rfl,.inl rfl⟩,DJ⟩
 | .clo f a b=>⟨dP.fi a,dP.fi b⟩
 | .agg cs=>dP.fi cs
 | .tup cs=>dP.fi cs
def dP.fi:∀(v:List AV),dP Z h n (fi v)
 |[]=>trivial
 |c::cs=>⟨kj.lb c,dP.fi cs⟩
end
def zTB{v:PV}(l:kj Z h n v):(er ι v).one=v.one:=by
 cases v with
 |fz w a len cs=>
  obtain⟨rfl,_⟩|⟨o,off,cap,rfl,_⟩:=l.1<;>rfl
 |fp a cs=>exact l.1.1
 |_=>rfl
def zKO{a:AV}(l:a.one=DF):a.cells=[a]:=by cases a<;>first|rfl|cases l
def zGA{v:PV}(l:kj Z h n v):(er ι v).cells=ju ι v.cells:=by
 cases v with
 |fz w a len cs=>
  obtain⟨rfl,_⟩|⟨o,off,cap,rfl,_⟩:=l.1<;>rfl
 |fp a cs=>exact zKO l.1.1
 |_=>rfl
def kj.cells{v:PV}(l:kj Z h n v):dP Z h n v.cells:=by
 cases v with
 |agg cs=>exact l
 |_=>exact⟨l,DJ⟩
def qA(cs:List PV):(ju ι cs).length=Lu cs:=by simp[zAW]
def Zc(as l:List PV):ju ι (as++l)=ju ι as++ju ι l:=by simp[zAW]
def QT(as:List PV)(k:Nat):ju ι (as.take k)=(ju ι as).take k:=by simp[zAW,List.map_take]
def QU(as:List PV)(k:Nat):ju ι (as.drop k)=(ju ι as).drop k:=by simp[zAW,List.map_drop]
def zDJ(as:List PV)(k:Nat):(ju ι as)[k]? = (as[k]?).map (er ι):=by simp[zAW]
def zFB{cs:List PV}(l:dP Z h n cs):(ju ι cs).all AV.one=cs.all PV.one:=by
 induction cs with
 |nil=>rfl
 |cons c cs ih=>simp only[ju,Ej,zTB l.1,ih l.2]
def dP.append{as l:List PV}(u:dP Z h n as)(A:dP Z h n l):dP Z h n (as++l):=by
 rw[zAP]at *;intro c hc;rcases YY.1 hc with hc|hc
 .exact u c hc
 .exact A c hc
def dP.take{as:List PV}(l:dP Z h n as)(k:Nat):dP Z h n (as.take k):=by
 rw[zAP]at *;exactλc u=>l c (UY u)
def dP.drop{as:List PV}(l:dP Z h n as)(k:Nat):dP Z h n (as.drop k):=by
 rw[zAP]at *;exactλc u=>l c (Ey u)
def dP.get{as:List PV}(l:dP Z h n as){k:Nat}{v:PV}(u:as[k]? = Dc v):kj Z h n v:=zAP.1 l v (Yg u)
structure Rel(ι:Nat->Nat)(Z:Nat->Prop)(σ:cg)(h:ct):Prop where
 hwf:HWF h
 Cz:∀o,Z o->o<h.aM
 top:σ.top<=h.aM
 wf:∀s,σ.aM<=s->σ.bt s=none
 bt:∀s cs,σ.bt s=Dc cs->h.bt (ι s)=Dc ⟨DF,ju ι cs⟩/\dP Z h σ.aM cs/\¬Z (ι s)
 inj:∀s s' cs fv,σ.bt s=Dc cs->σ.bt s'=Dc fv->ι s=ι s'->s=s'
structure mF(ι:Nat->Nat)(Z:Nat->Prop)(σ:cg)(h:ct)(ι':Nat->Nat)(Z':Nat->Prop)(σ':cg)(h':ct):Prop where
 aM:σ.aM<=σ'.aM
 hnext:h.aM<=h'.aM
 inj:∀s,s<σ.aM->ι' s=ι s
 z:∀o,Z o->Z' o/\h'.bt o=h.bt o
 dead:∀s,s<σ.aM->σ.bt s=none->σ'.bt s=none
 fresh:∀s cs,σ.aM<=s->σ'.bt s=Dc cs->h.aM<=ι' s
def Rel.none_lt(r:Rel ι Z σ h){s:Nat}{cs:List PV}(hs:σ.bt s=Dc cs):s<σ.aM:=by
 rcases YG s σ.aM with x|x
 .exact x
 .rw[r.wf s x]at hs;cases hs
def mF.refl(r:Rel ι Z σ h):mF ι Z σ h ι Z σ h:=⟨na _,na _,λ_ _=>rfl,λo l=>⟨l,rfl⟩,λ_ _ h=>h,λs cs hs l=>absurd (r.none_lt l) af⟩
def mF.trans{ι'':Nat->Nat}{u:Nat->Prop}{σ'':cg}{eB:ct}(a:mF ι Z σ h ι' Z' σ' h')(b:mF ι' Z' σ' h' ι'' u σ'' eB):mF ι Z σ h ι'' u σ'' eB:=
 ⟨UJ a.aM b.aM,UJ a.hnext b.hnext,λs hs=>(b.inj s (Yw hs a.aM)).trans (a.inj s hs),
  λo l=>⟨(b.z o (a.z o l).1).1,(b.z o (a.z o l).1).2.trans (a.z o l).2⟩,λs hs A=>b.dead s (Yw hs a.aM) (a.dead s hs A),
  λs cs hs l=>by
   rcases YG s σ'.aM with x|x
   .rw[b.inj s x];cases hc:σ'.bt s with
    |none=>rw[b.dead s x hc]at l;cases l
    |some ds=>exact a.fresh s ds hs hc
   .exact UJ a.hnext (b.fresh s cs x l)⟩
def mF.vok{v:PV}(a:mF ι Z σ h ι' Z' σ' h')(l:kj Z h σ.aM v):kj Z' h' σ'.aM v:=l.mono a.z a.aM
def mF.voks{v:List PV}(a:mF ι Z σ h ι' Z' σ' h')(l:dP Z h σ.aM v):dP Z' h' σ'.aM v:=l.mono a.z a.aM
def mF.er{v:PV}(a:mF ι Z σ h ι' Z' σ' h')(l:kj Z h σ.aM v):er ι' v=er ι v:=zF9 a.inj l
def mF.ju{v:List PV}(a:mF ι Z σ h ι' Z' σ' h')(l:dP Z h σ.aM v):ju ι' v=ju ι v:=Z4 a.inj l
def yn(Z:Nat->Prop)(h:ct)(n:Nat)(E:ec):Prop:=∀t,kj Z h n (E t)
def uS(ι:Nat->Nat)(E:ec):Env:=λt=>er ι (E t)
def mF.eok{E:ec}(a:mF ι Z σ h ι' Z' σ' h')(l:yn Z h σ.aM E):yn Z' h' σ'.aM E:=λt=>a.vok (l t)
def mF.uS{E:ec}(a:mF ι Z σ h ι' Z' σ' h')(l:yn Z h σ.aM E):uS ι' E=uS ι E:=funext λt=>a.er (l t)
def zBv(E:ec)(d:Option Nat)(v:PV):uS ι (E.put d v)=(uS ι E).put d (er ι v):=by
 cases d with
 |none=>rfl
 |some d=>funext t;simp only[Go.Ab.uS,ec.put,Env.put];split<;>rfl
def yn.put{E:ec}(l:yn Z h n E){v:PV}(u:kj Z h n v)(d:Option Nat):yn Z h n (E.put d v):=by
 cases d with
 |none=>exact l
 |some d=>intro t;simp only[ec.put];split;exact u;exact l t
def zDL:∀(S:List Nat) (vs:List PV),uS ι (ec.mk S vs)=Env.mk S (ju ι vs)
 |[],vs=>by funext t;simp[Go.Ab.uS,ec.mk,Env.mk,er]
 |s::S,[]=>by funext t;simp[Go.Ab.uS,ec.mk,Env.mk,er,Go.Ab.ju]
 |s::S,v::vs=>by
  funext t
  have:=congrFun (zDL S vs) t
  simp only[Go.Ab.uS,ec.mk,Env.mk,Go.Ab.ju]at this ⊢;split
  .rfl
  .exact this
def yn.mk:∀{S:List Nat} {vs:List PV},dP Z h n vs->yn Z h n (ec.mk S vs)
 |[],vs,_=>λt=>trivial
 |s::S,[],_=>λt=>trivial
 |s::S,v::vs,hv=>λt=>by simp only[ec.mk];split;exact hv.1;exact yn.mk hv.2 t
def zDK(E:ec)(S:List Nat):ju ι (S.map E)=S.map (uS ι E):=by simp[zAW,uS]
def yn.map{E:ec}(u:yn Z h n E)(S:List Nat):dP Z h n (S.map E):=by
 rw[zAP];intro c l;obtain⟨t,_,rfl⟩:=YI.1 l;exact u t
def BU(E:ec)(x:IX):er ι (x.pv E)=x.ev (uS ι E):=by
 cases x with
 |t n=>rfl
 |c v=>exact zHy ι v
def yn.pv{E:ec}(l:yn Z h n E)(x:IX):kj Z h n (x.pv E):=by
 cases x with
 |t n=>exact l n
 |c v=>exact kj.lb v
def zHx(E:ec)(l:List IX):ju ι (l.map (·.pv E))=l.map (·.ev (uS ι E)):=by
 rw[zAW,Un];exact EA λx _=>BU E x
def yn.pvs{E:ec}(A:yn Z h n E)(l:List IX):dP Z h n (l.map (·.pv E)):=by
 rw[zAP];intro c u;obtain⟨x,_,rfl⟩:=YI.1 u;exact A.pv x
def zHk(r:Rel ι Z σ h){s i k:Nat}{vs:List PV}(l:σ.rd s i k=Dc vs):h.rd (ι s) i k=Dc (ju ι vs)/\dP Z h σ.aM vs:=by
 simp only[cg.rd,YJ]at l;obtain⟨cs,C,l⟩:=l;split at l
 .rename_i D;cases l;obtain⟨u,A,_⟩:=r.bt s cs C;refine⟨?_,(A.drop _).take _⟩;rw[zCU u (by simpa [qA]using D),QT,QU]
 .cases l
def zQD(r:Rel ι Z σ h){s i:Nat}{v:PV}(l:σ.dR s i=Dc v):h.dR (ι s) i=Dc (er ι v)/\kj Z h σ.aM v:=by
 simp only[cg.dR,YJ]at l;obtain⟨cs,C,l⟩:=l;obtain⟨u,A,_⟩:=r.bt s cs C;exact⟨by rw[zGg u,zDJ,l];rfl,A.get l⟩
def zDX(r:Rel ι Z σ h){agg:Bool}{k:Nat}{x v:PV}(I:kj Z h σ.aM x)(l:Cy agg k x σ=Dc v):CF agg k (er ι x) h=Dc (er ι v)/\kj Z h σ.aM v:=by
 cases x<;>simp only[Cy,reduceCtorEq]at l
 case ptr s i=>
  simp only[er,CF];cases agg with
  |true=>
   simp only[if_true,YK]at l ⊢;obtain⟨vs,l,rfl⟩:=l;obtain⟨u,A⟩:=zHk r l;exact⟨⟨_,u,rfl⟩,A⟩
  |false=>
   simp only[EB,if_false]at l ⊢;exact zQD r l
 case fp a cs=>
  obtain⟨⟨J,u⟩,A⟩:=I;have E:=A.up (YV σ.aM);rcases u with u|⟨o,i,rfl,M,C⟩
  .have:cs=[]:=YU (by rw[<-qA (ι:=vq),u];rfl)
   subst this;cases agg with
   |true=>
    simp only[if_true]at l;split at l
    .rename_i D;simp at D;omega
    .cases l
   |false=>simp at l
  .simp only[er,CF];cases agg with
   |true=>
    simp only[if_true]at l ⊢;split at l
    .rename_i D;cases l
     have:=zEA C (a:=0) (b:=k) (by rw[qA];omega)
     rw[UF,EC]at this;rw[this,<-QT];exact⟨by simp[er,zBm (ι:=ι) (A.take k)],E.take k⟩
    .cases l
   |false=>
    simp only[EB,if_false]at l ⊢;have G:0<(ju vq cs).length:=by
     rw[qA];exact(Yj.1 l).1
    have:=zOL C G
    rw[UF]at this;rw[this,zDJ,l];exact⟨by simp[zEe (ι:=ι) (A.get l)],E.get l⟩
def zCr:∀{l:List (Nat×Nat×PV)} {cells cs:List PV},(∀p∈l,kj Z h n p.2.2)->dP Z h n cells->yy cells l=Dc cs->
  uy (ju ι cells) (l.map λp=>(p.1,p.2.1,er ι p.2.2))=Dc (ju ι cs)/\dP Z h n cs
 |[],cells,cs,_,hc,hv=>by cases hv;exact⟨rfl,hc⟩
 |(off,size,v)::l,cells,cs,hp,hc,hv=>by
  simp only[yy]at hv;split at hv
  .rename_i u;have A:kj Z h n v:=hp (off,size,v) aK;have C:=zCr (λp D=>hp p (by simp[D])) (((hc.take off).append A.cells).append (hc.drop (off+size))) hv;simp only[YE,uy];rw[zGA A,DK ⟨by rw[qA];exact u.1,by rw[qA];exact u.2.1,by rw[zFB A.cells];exact u.2.2⟩];rw[Zc,Zc,QT,QU]at C;exact C
  .cases hv
def zNd{a:AV}(l:ZX a=DF):a=.b8:=by cases a<;>first|rfl|cases l
def zCB{x:PV}{y k:Nat}(l:Zl x y=Dc k):zBZ (er ι x) y=Dc k:=by
 cases x<;>simp only[Zl,reduceCtorEq]at l
 exact l
def z8{x:Option PV}{d y k:Nat}(l:zl x d y=Dc k):zq (x.map (er ι)) d y=Dc k:=by
 cases x with
 |none=>exact l
 |some x=>exact zCB l
def zOh{x:PV}{y k:Nat}(l:Zl x y=Dc k):k<=y:=by
 cases x<;>simp only[Zl,reduceCtorEq]at l
 split at l
 .cases l;omega
 .cases l
def zGh{x:Option PV}{d y k:Nat}(hd:d<=y)(l:zl x d y=Dc k):k<=y:=by
 cases x with
 |none=>cases l;exact hd
 |some x=>exact zOh l
def zKa(e:Nat)(lo hi:Option AV):Qy e .b8 lo hi none=(zq hi 0 0).bind λh=>(zq lo 0 h).bind λ_=>if hi.isNone=DF/\(none:Option AV).isSome=DF then none else Dc .b8:=rfl
def zIt(e o off len c:Nat)(lo hi:Option AV):Qy e (.sl o off len (.b6 c)) lo hi none=(zq hi len c).bind λh=>(zq lo 0 h).bind λl=>
   if hi.isNone=DF/\(none:Option AV).isSome=DF then none else Dc (.sl o (if c=l then off else off+l*e) (h-l) (.b6 (c-l))):=rfl
def zJN{e:Nat}{x v:PV}{lo hi mx:Option PV}(J:kj Z h n x)(u:Zt e x lo hi mx=Dc v):
  Qy e (er ι x) (lo.map (er ι)) (hi.map (er ι)) (mx.map (er ι))=Dc (er ι v)/\kj Z h n v:=by
 cases x<;>simp only[Zt,reduceCtorEq]at u
 case sl s off len cap=>
  cases cap with
  |b6 c=>
   simp only[YJ]at u;obtain⟨m,E,k,A,l,C,u⟩:=u;split at u
   .cases u
   .rename_i D;cases u;simp only[er,Qy];rw[z8 E];simp only[YP];rw[z8 A];simp only[YP];rw[z8 C];simp only[YP,Option.isNone_map,Option.isSome_map];rw[DL D];exact⟨rfl,J⟩
  |grown g=>
   cases mx with
   |none=>
    simp only[YJ]at u;obtain⟨k,A,l,C,u⟩:=u;cases u;simp only[er,Qy,Option.map_none];rw[z8 A];simp only[YP];rw[z8 C];simp only[YP];exact⟨DJ,J⟩
   |some mx=>
    simp only[YJ]at u;obtain⟨m,E,k,A,l,C,u⟩:=u;split at u
    .cases u
    .rename_i D;cases u;simp only[er,Qy,EF];rw[zCB E];simp only[YP];rw[z8 A];simp only[YP];rw[z8 C];simp only[YP,Option.isNone_map];rw[DL D];exact⟨rfl,J⟩
 case fz w a len cs=>
  cases mx with
  |some mx=>
   cases a<;>try cases u
   simp only[YJ]at u;obtain⟨m,E,k,A,l,C,u⟩:=u;split at u
   .cases u
   .rename_i D;cases u;simp only[er,Qy,EF];rw[show zq (Dc (er ι mx)) 0 0=Dc m from zCB E];simp only[YP];rw[z8 A];simp only[YP];rw[z8 C];simp only[YP,Option.isNone_map];rw[DL λh=>D h.1];exact⟨rfl,.inl ⟨rfl,rfl,rfl⟩,DJ⟩
  |none=>
   simp only[YJ]at u;obtain⟨k,A,l,C,u⟩:=u;cases u;have hk:=zGh (na _) A;have hl:=zGh (YV _) C;obtain⟨Y,D⟩:=J;have O:dP Z h 0 ((cs.drop (l*e)).take ((k-l)*e)):=(D.drop _).take _;simp only[er,Option.map_none];rcases Y with ⟨rfl,rfl,X⟩|⟨o,off,cap,rfl,N,h5,U,h7⟩
   .have:cs=[]:=YU (by rw[<-qA (ι:=vq),X];rfl)
    subst this;obtain rfl:k=0:=af
    obtain rfl:l=0:=af
    rw[zKa];rw[show zq (hi.map (er ι)) 0 0=Dc 0 from z8 A];simp only[YP];rw[show zq (lo.map (er ι)) 0 0=Dc 0 from z8 C];simp only[YP];refine⟨by simp[pslA],.inl ⟨rfl,rfl,by simp[ju]⟩,by simp[dP]⟩
   .have cM:∀I,(I=off+l*e\/(I=off/\(k-l)*e=0))->(ju vq ((cs.drop (l*e)).take ((k-l)*e))=[]\/h.rd o I (ju vq ((cs.drop (l*e)).take ((k-l)*e))).length=Dc (ju vq ((cs.drop (l*e)).take ((k-l)*e)))):=by
     rintro I (rfl|⟨rfl,T⟩)
     .rw[QT,QU];by_cases hle:l*e<(ju vq cs).length
      .right;rcases h5 with h5|h5
       .rw[h5]at hle;simp at hle
       .have:=zEA h5 (a:=l*e) (b:=((List.drop (l*e) (ju vq cs)).take ((k-l)*e)).length) (by simp;omega)
        rw[this];congr 1;rw[Yh];apply En;intro q;simp only[Yc];split
        .split
         .rfl
         .omega
        .split
         .have:(List.drop (l*e) (ju vq cs)).length<=q:=af
          rw[Yq this]
         .rfl
      .left;rw[EG af];simp
     .left;rw[T];rfl
    cases cap with
    |b6 c=>
     have pF:=U c rfl;rw[zIt];have V:∀{x:Option PV} {d q:Nat},d=len->zl x d len=Dc q->zq (x.map (er ι)) d c=Dc q:=by
      intro x d q hd G;cases x with
      |none=>exact G
      |some x=>
       cases x<;>simp only[zl,Zl,reduceCtorEq]at G
       split at G
       .rename_i S;cases G;simp only[EF,er,zq,zBZ];rw[DK ⟨S.1,af⟩]
       .cases G
     rw[V rfl A];simp only[YP];rw[z8 C];simp only[YP,Option.isSome_none,EB,and_false,if_false];refine⟨rfl,.inr ⟨o,_,_,rfl,N,?_,?_,aK⟩,O⟩
     .by_cases M:c=l
      .rw[DK M];exact cM _ (.inr ⟨rfl,by rw[show k-l=0 by omega,E1]⟩)
      .rw[DL M];exact cM _ (.inl rfl)
     .intro c' lA;cases lA;omega
    |grown g=>
     simp only[Qy,Option.map_none];rw[z8 A];simp only[YP];rw[z8 C];simp only[YP];exact⟨rfl,.inr ⟨o,_,_,rfl,N,cM _ (.inl rfl),(λc D=>by cases D),aK⟩,O⟩
end
section
variable{P:Program}{ι ι':Nat->Nat}{Z Z':Nat->Prop}{h h':ct}{σ σ':cg}
def qd{op:BinOp}{b:Bool}{v:PV}(l:Aj op b=Dc v):Aq op b=Dc (er ι v)/\kj Z h n v:=by
 cases op<;>simp only[Aj,reduceCtorEq]at l<;>cases l<;>exact⟨rfl,DJ⟩
def zBg{o:Option AV}{v:PV}(l:o.map lb=Dc v):o=Dc (er ι v)/\kj Z h n v:=by
 obtain⟨a,rfl,rfl⟩:=YK.1 l;exact⟨by rw[zHy],kj.lb a⟩
def zFX:∀{xs ys:List PV} {r:Bool},vE xs ys=Dc r->aggB (ju ι xs) (ju ι ys)=Dc r
 |[],[],r,h=>h
 |[],y::ys,r,h=>by cases y<;>simp[vE]at h
 |x::xs,[],r,h=>by cases x<;>simp[vE]at h
 |x::xs,y::ys,r,h=>by
  cases x<;>cases y<;>simp only[vE,reduceCtorEq]at h
  split at h
  .rename_i l;obtain⟨A,u,rfl⟩:=YK.1 h;simp only[ju,er,aggB,DK l,zFX u,EF]
  .cases h
def zM4{op:BinOp}{A:CP}{x y v:PV}(E:kj Z h n x)(G:kj Z h n y)(u:j7 op A x y=Dc v):vT op A (er ι x) (er ι y)=Dc (er ι v)/\kj Z h n v:=by
 cases x<;>cases y<;>simp only[j7,reduceCtorEq]at u
 case int.int k a k' b=>exact zBg u
 case str.str a b=>
  have:=zBg (ι:=ι) (Z:=Z) (h:=h) (n:=n) u
  exact⟨this.1,this.2⟩
 case bool.bool a b=>cases A<;>simp only[reduceCtorEq]at u;exact qd u
 case agg.agg xs ys=>
  cases A<;>simp only[reduceCtorEq]at u
  split at u
  .rename_i J;obtain⟨r,M,u⟩:=YJ.1 u
   have:=qd (ι:=ι) (Z:=Z) (h:=h) (n:=n) u
   refine⟨?_,this.2⟩;simp only[er,vT,qA,DK J,zFX M,YP];exact this.1
  .cases u
 case nilp.nilp=>cases A<;>simp only[reduceCtorEq]at u;exact qd u
 case nilp.ptr=>cases A<;>simp only[reduceCtorEq]at u;exact qd u
 case ptr.nilp=>cases A<;>simp only[reduceCtorEq]at u;exact qd u
 case nilf.nilf=>cases A<;>simp only[reduceCtorEq]at u;exact qd u
 case nilf.clo=>cases A<;>simp only[reduceCtorEq]at u;exact qd u
 case clo.nilf=>cases A<;>simp only[reduceCtorEq]at u;exact qd u
 case fz.fz w a l cs w' a' l' fv=>
  cases A<;>simp only[reduceCtorEq]at u
  obtain⟨rfl,_⟩|⟨o,off,cap,rfl,_⟩:=E.1<;>obtain⟨rfl,_⟩|⟨I,D,C,rfl,_⟩:=G.1<;>simp only[ZX,if_true,EB,if_false,reduceCtorEq]at u
  .exact qd u
  .exact qd u
  .exact qd u
 case sl.fz s off len cap w' a' l' fv=>
  cases A<;>simp only[reduceCtorEq]at u
  obtain⟨rfl,_⟩|⟨I,D,C,rfl,_⟩:=G.1<;>simp only[ZX,if_true,EB,if_false,reduceCtorEq]at u
  exact qd u
 case fz.sl w' a' l' fv s off len cap=>
  cases A<;>simp only[reduceCtorEq]at u
  obtain⟨rfl,_⟩|⟨I,D,C,rfl,_⟩:=E.1<;>simp only[ZX,if_true,EB,if_false,reduceCtorEq]at u
  exact qd u
def zOO{op:UnOp}{x v:PV}(l:pun op x=Dc v):aun op (er ι x)=Dc (er ι v)/\kj Z h n v:=by
 cases x<;>simp only[pun,reduceCtorEq]at l
 .exact zBg l
 .exact zBg l
def zJZ{sz:Nat}{x i v:PV}(A:kj Z h n x)(l:zC9 sz x i=Dc v):qy sz (er ι x) (er ι i)=Dc (er ι v)/\kj Z h n v:=by
 cases x<;>cases i<;>simp only[zC9,reduceCtorEq]at l
 case sl.int s off len cap k m=>
  split at l
  .rename_i u;cases l;simp only[er,qy];rw[DK u];exact⟨rfl,A⟩
  .cases l
 case fz.int w a len cs k m=>
  split at l
  .rename_i u;cases l;obtain⟨E,C⟩:=A;rcases E with ⟨rfl,rfl,_⟩|⟨o,off,cap,rfl,D,h2,_⟩
   .omega
   .simp only[er,qy,pAt];rw[DK u];refine⟨rfl,⟨rfl,?_⟩,C.drop _⟩;rw[QU];rcases h2 with h2|h2
    .left;rw[h2];simp
    .by_cases G:m.toNat*sz<(ju vq cs).length
     .right;refine⟨_,_,rfl,D,?_⟩;rw[zEA h2 (a:=m.toNat*sz) (b:=(List.drop (m.toNat*sz) (ju vq cs)).length) (by simp;omega),Yf]
     .left;exact EG af
  .cases l
def RevOK(ι:Nat->Nat)(σ:cg)(nb nr nb1:Nat):Prop:=∀k,k<nr->nb+k<σ.aM/\ι (nb+k)=nb1+k
def zJF(r:Rel ι Z σ h){E:ec}(C:yn Z h σ.aM E){nb nr nb1:Nat}(T:RevOK ι σ nb nr nb1){op:qk}{v:PV}(u:qp nb nr op E σ=Dc v):
  qv nb1 op (uS ι E) h=Dc (er ι v)/\kj Z h σ.aM v:=by
 cases op<;>simp only[qp,reduceCtorEq]at u<;>simp only[qv,<-BU]
 case mv x=>cases u;exact⟨rfl,C.pv x⟩
 case pick c a b=>
  have J:=C.pv c
  revert u;generalize c.pv E=c';intro u
  cases c'<;>simp only[pPick,reduceCtorEq]at u
  cases u;simp only[er,nu];split
  .exact⟨rfl,C.pv a⟩
  .exact⟨rfl,C.pv b⟩
 case bin o k x y=>exact zM4 (C.pv x) (C.pv y) u
 case un o x=>exact zOO u
 case conv k x=>
  revert u;generalize x.pv E=x';intro u
  cases x'<;>simp only[pConv,reduceCtorEq]at u
  cases u;exact⟨rfl,DJ⟩
 case nilCheck x=>
  have A:=C.pv x
  revert u A;generalize x.pv E=x';intro u A
  cases x'<;>simp only[pNil,reduceCtorEq]at u
  .rename_i a cs;split at u
   .cases u
   .rename_i M;cases u;obtain⟨⟨V,D⟩,G⟩:=A;rcases D with D|⟨o,i,rfl,I⟩
    .cases cs with
     |nil=>exact absurd rfl M
     |cons c cs=>simp[ju]at D
    .exact⟨rfl,⟨V,.inr ⟨o,i,rfl,I⟩⟩,G⟩
  .cases u;exact⟨rfl,A⟩
  .cases u;exact⟨rfl,A⟩
 case build z ps=>
  obtain⟨cs,hf,rfl⟩:=YK.1 u
  have:=zCr (ι:=ι) (Z:=Z) (h:=h) (n:=σ.aM) (λp hp=>by obtain⟨q,_,rfl⟩:=YI.1 hp;exact C.pv _) (dP.fi z) hf
  rw[ZH,Un]at this;refine⟨?_,this.2⟩;have G:(List.map ((λp:Nat×Nat×PV=>(p.1,p.2.1,er ι p.2.2)) ∘ λp:Nat×Nat×IX=>(p.1,p.2.1,p.2.2.pv E)) ps)=ps.map λp=>(p.1,p.2.1,er ι (p.2.2.pv E)):=rfl;rw[G]at this;rw[this.1];rfl
 case field a k off x=>
  have A:=C.pv x
  revert u A;generalize x.pv E=x';intro u A
  cases x'<;>simp only[zEG,reduceCtorEq]at u
  rename_i cs;simp only[er,ZK];have U:dP Z h σ.aM cs:=A;cases a with
  |true=>
   simp only[if_true]at u ⊢;cases u;simp only[er,QT,QU];exact⟨DJ,(U.drop _).take _⟩
  |false=>
   simp only[EB,if_false]at u ⊢;rw[zDJ,u];exact⟨rfl,U.get u⟩
 case fieldAddr off x=>
  have A:=C.pv x
  revert u A;generalize x.pv E=x';intro u A
  cases x'<;>simp only[zAg,reduceCtorEq]at u
  .rename_i a cs;split at u
   .cases u
   .rename_i M;cases u;obtain⟨⟨V,D⟩,G⟩:=A;rcases D with D|⟨o,i,rfl,I,Y⟩
    .cases cs with
     |nil=>exact absurd rfl M
     |cons c cs=>simp[ju]at D
    .refine⟨rfl,⟨rfl,?_⟩,G.drop _⟩;rw[QU];by_cases hl:off<(ju vq cs).length
     .right;refine⟨o,i+off,rfl,I,?_⟩;rw[zEA Y (a:=off) (b:=(List.drop off (ju vq cs)).length) (by simp;omega),Yf]
     .left;exact EG af
  .cases u;exact⟨rfl,A⟩
 case indexAddr sz x i=>exact zJZ (C.pv x) u
 case indexStr x i=>
  revert u;generalize x.pv E=x';generalize i.pv E=i';intro u
  cases x'<;>cases i'<;>simp only[zE3,reduceCtorEq]at u
  split at u
  .rename_i J;obtain⟨c,X,rfl⟩:=YK.1 u;simp only[er,qj];rw[DK J,X];exact⟨rfl,DJ⟩
  .cases u
 case extract x i=>
  have A:=C.pv x
  revert u A;generalize x.pv E=x';intro u A
  cases x'<;>simp only[zDb,reduceCtorEq]at u
  rename_i vs;simp only[er,qW];rw[zDJ,u];exact⟨rfl,dP.get (as:=vs) A u⟩
 case len x=>
  have A:=C.pv x
  revert u A;generalize x.pv E=x';intro u A
  cases x'<;>simp only[mo,vd,Option.map_none,EF,reduceCtorEq]at u<;>cases u
  .obtain⟨rfl,rfl,_⟩|⟨o,off,cap,rfl,_⟩:=A.1<;>exact⟨rfl,DJ⟩
  .exact⟨rfl,DJ⟩
 case lenStr x=>
  revert u;generalize x.pv E=x';intro u
  cases x'<;>simp only[zE2,reduceCtorEq]at u
  cases u;exact⟨rfl,DJ⟩
 case cap x=>
  revert u;generalize x.pv E=x';intro u
  cases x'<;>(try (simp only[pCap,reduceCtorEq]at u;done))
  case sl s off len cap=>
   simp only[pCap]at u;cases cap<;>simp only[reduceCtorEq]at u
   cases u;exact⟨rfl,DJ⟩
  case fz w a l cs=>
   cases a<;>simp only[pCap,reduceCtorEq]at u
   cases u;exact⟨rfl,DJ⟩
 case slice sz x lo hi mx=>
  have:=zJN (ι:=ι) (C.pv x) u
  simpa only[Option.map_map,Function.comp_def]using this
 case sliceStr x lo hi=>
  revert u;generalize x.pv E=x';intro u
  cases x'<;>simp only[zCW,reduceCtorEq]at u
  simp only[YJ]at u;obtain⟨k,G,l,I,u⟩:=u;cases u;simp only[er,zCk];have N:=z8 (ι:=ι) G;have O:=z8 (ι:=ι) I;rw[Option.map_map]at N O;simp only[Function.comp_def]at N O;rw[N];simp only[YP];rw[O];simp only[YP];exact⟨DJ,DJ⟩
 case maxmin m x y=>
  revert u;generalize x.pv E=x';generalize y.pv E=y';intro u
  cases x'<;>cases y'<;>simp only[zC8,reduceCtorEq]at u
  split at u
  .rename_i J;cases u;simp only[er,qi];rw[DK J];exact⟨rfl,DJ⟩
  .cases u
 case makeFunc f a b=>
  cases u;simp only[er,zHx,BU];exact⟨DJ,C.pvs a,C.pvs b⟩
 case load a k x=>exact zDX r (C.pv x) u
 case rev k=>
  split at u
  .rename_i S;cases u;obtain⟨D,G⟩:=T k S;exact⟨by simp only[er];rw[G],D⟩
  .cases u
 case revS k m=>
  split at u
  .rename_i S;cases u;obtain⟨D,G⟩:=T k S;exact⟨by simp only[er];rw[G],D⟩
  .cases u
def Up(ι:Nat->Nat)(Z:Nat->Prop)(σ:cg)(h:ct)(K:PV->cg->Prop):AV->ct->Prop:=λv h'=>
 ∃pv σ' ι' Z',Rel ι' Z' σ' h'/\mF ι Z σ h ι' Z' σ' h'/\kj Z' h' σ'.aM pv/\v=er ι' pv/\K pv σ'
def zA(P:Program)(f:FuncId)(args:List PV)(σ:cg)(K:PV->cg->Prop):Prop:=
 ∀(ι:Nat->Nat) (Z:Nat->Prop) (h:ct),Rel ι Z σ h->dP Z h σ.aM args->Zm P f (ju ι args) h (Up ι Z σ h K)
def zA.mono{f:FuncId}{args:List PV}{K K':PV->cg->Prop}(c:zA P f args σ K)(l:∀v σ',K v σ'->K' v σ'):zA P f args σ K':=
 λι Z h r u=>(c ι Z h r u).mono λ_ _ ⟨pv,σ',ι',Z',a,b,d,e,k⟩=>⟨pv,σ',ι',Z',a,b,d,e,l _ _ k⟩
def ep(P:Program)(op:qk)(e:ec)(σ:cg)(K:PV->cg->Prop):Prop:=
 match op with
 | .alloc z=>K (.ptr σ.aM 0) (σ.bf (fi z))
 | .box x=>(x.pv e).cells.all PV.one=DF/\K (.ptr σ.aM 0) (σ.bf (x.pv e).cells)
 | .buildSl sz len z ps=>fw (yy (fi (iU z len)) (ps.map λp=>(p.1,p.2.1,p.2.2.pv e))) λcs=>K (.sl σ.aM 0 len (.b6 len)) (σ.bf cs)
 | .store n x v=>match x.pv e with
  | .ptr s i=>(v.pv e).cells.length=n/\fw (σ.wr s i (v.pv e).cells) λσ'=>K .undef σ'
  |_=>False
 | .makeSl sz bytes z l c=>match l.pv e,c.pv e with
  | .int _ l,.int _ c=>(0<=l/\l<=c/\c*bytes<=140737488355328/\c<=9223372036854775807)/\K (.sl σ.aM 0 l.toNat (.b6 c.toNat)) (σ.bf (fi (iU z c.toNat)))
  |_,_=>False
 | .append sz bytes s x=>fw (qL sz bytes σ (s.pv e) (x.pv e)) λp=>K p.1 p.2
 | .appendMk sz bytes z s n=>match s.pv e,n.pv e with
  | .fz _ .b8 _ _,.int _ n=>(0<=n/\n*bytes<=140737488355328/\n<=4611686018427387904)/\if 0<n then K (.sl σ.aM 0 n.toNat (.grown sz)) (σ.bf (fi (iU z n.toNat)))else K (.fz DF .b8 0 []) σ
  | .sl s off len c,.int _ n=>(0<=n/\n*bytes<=140737488355328/\n<=4611686018427387904)/\fw (if 0<n then yA sz bytes σ (.sl s off len c) (fi (iU z n.toNat)) n.toNat else(B3 (.sl s off len c)).map λv=>(v,σ)) λp=>K p.1 p.2
  |_,_=>False
 | .copy sz d s=>fw (Az sz σ (d.pv e) (s.pv e)) λp=>K p.1 p.2
 | .call f args=>zA P f (args.map (·.pv e)) σ K
 | .callV f args=>match f.pv e with
  | .clo f first cR=>okF P f=DF/\zA P f (first++args.map (·.pv e)++cR) σ K
  |_=>False
 | .strOf x=>fw (zCD σ (x.pv e)) λs=>K (.str s) σ
 |_=>False
def me(ι:Nat->Nat)(s o:Nat):Nat->Nat:=λl=>if l=s then o else ι l
def Rel.bf(r:Rel ι Z σ h){cs:List PV}(I:dP Z h σ.aM cs):Rel (me ι σ.aM h.aM) Z (σ.bf cs) (h.bf ⟨DF,ju ι cs⟩)/\mF ι Z σ h (me ι σ.aM h.aM) Z (σ.bf cs) (h.bf ⟨DF,ju ι cs⟩):=by
 have A:mF ι Z σ h (me ι σ.aM h.aM) Z (σ.bf cs) (h.bf ⟨DF,ju ι cs⟩):=
  ⟨by simp[cg.bf],by simp[ct.bf],λs hs=>by simp[me,Ev hs],λo l=>⟨l,zDd (by have:=r.Cz o l;omega) _⟩,λs hs N=>by simp only[cg.bf];rw[DL af];exact N,
   λs E hs l=>by
    by_cases e:s=σ.aM
    .subst e;simp[me]
    .simp only[cg.bf,DL e]at l;exact absurd (r.none_lt l) af⟩
 refine⟨⟨r.hwf.bf _,λo l=>by have:=r.Cz o l;simp only[ct.bf];omega,by have:=r.top;simp only[cg.bf,ct.bf];omega,λs hs=>?_,λs E hs=>?_,λs C a b hs D hi=>?_⟩,A⟩
 .simp only[cg.bf]at hs ⊢;rw[DL af];exact r.wf s af
 .simp only[cg.bf]at hs;by_cases e:s=σ.aM
  .subst e;rw[DK rfl]at hs;cases hs;refine⟨?_,A.voks I,λS=>?_⟩
   .rw[A.ju I];simp[me,ct.bf]
   .have:=r.Cz _ S;simp[me]at this
  .rw[DL e]at hs;obtain⟨u,G,J⟩:=r.bt s E hs;refine⟨?_,A.voks G,by simpa [me,e]using J⟩;rw[A.ju G];simp only[me,DL e];rw[zDd (by have:=r.hwf.lt u;omega)];exact u
 .have ah:∀{t:Nat} {a:List PV},t≠σ.aM->(σ.bf cs).bt t=Dc a->σ.bt t=Dc a:=λO M=>by simpa [cg.bf,O]using M
  by_cases e:s=σ.aM
  .by_cases e':C=σ.aM
   .rw[e,e']
   .obtain⟨u,_⟩:=r.bt C b (ah e' D)
    have:=r.hwf.lt u
    subst e;simp[me,e']at hi;omega
  .by_cases e':C=σ.aM
   .obtain⟨u,_⟩:=r.bt s a (ah e hs)
    have:=r.hwf.lt u
    subst e';simp[me,e]at hi;omega
   .simp only[me,DL e,DL e']at hi;exact r.inj s C a b (ah e hs) (ah e' D) hi
def Rel.set(r:Rel ι Z σ h){s:Nat}{cs u:List PV}(hs:σ.bt s=Dc cs)(O:dP Z h σ.aM u):Rel ι Z (σ.set s u) (h.set (ι s) (ju ι u))/\mF ι Z σ h ι Z (σ.set s u) (h.set (ι s) (ju ι u)):=by
 obtain⟨N,U,E⟩:=r.bt s cs hs;have C:mF ι Z σ h ι Z (σ.set s u) (h.set (ι s) (ju ι u)):=
  ⟨na _,na _,λ_ _=>rfl,λo A=>⟨A,zGY (λe=>E (by rw[<-e];exact A)) _⟩,λt l D=>by
   simp only[cg.set];rw[DL (λe=>by subst e;rw[hs]at D;cases D)];exact D,λt u l A=>by
   have:=r.none_lt hs
   simp only[cg.set]at A;rw[DL af]at A;exact absurd (r.none_lt A) af⟩
 refine⟨⟨r.hwf.set (r.hwf.lt N) _,r.Cz,r.top,λt l=>?_,λt as l=>?_,λt t' a b l G hi=>?_⟩,C⟩
 .have an:t≠s:=λe=>by subst e;rw[r.wf t l]at hs;cases hs
  simp only[cg.set,DL an];exact r.wf t l
 .simp only[cg.set]at l;by_cases e:t=s
  .subst e;rw[DK rfl]at l;cases l;exact⟨zMl _ _,C.voks O,E⟩
  .rw[DL e]at l;obtain⟨I,J,M⟩:=r.bt t as l;exact⟨by rw[zGY (λe'=>e (r.inj t s as cs l hs e'))];exact I,C.voks J,M⟩
 .have conv:∀{t:Nat} {a:List PV},(σ.set s u).bt t=Dc a->∃a',σ.bt t=Dc a':=λ{t a} l=>by
   simp only[cg.set]at l;by_cases e:t=s
   .subst e;exact⟨_,hs⟩
   .rw[DL e]at l;exact⟨_,l⟩
  obtain⟨a',T⟩:=conv l;obtain⟨b',S⟩:=conv G;exact r.inj t t' a' b' T S hi
def Rel.kill(r:Rel ι Z σ h){s:Nat}{cs:List PV}(hs:σ.bt s=Dc cs):Rel ι Z (σ.kill s) (h.kill (ι s))/\mF ι Z σ h ι Z (σ.kill s) (h.kill (ι s)):=by
 obtain⟨N,O,I⟩:=r.bt s cs hs;have A:mF ι Z σ h ι Z (σ.kill s) (h.kill (ι s)):=
  ⟨na _,na _,λ_ _=>rfl,λo u=>⟨u,zFe (λe=>I (by rw[<-e];exact u))⟩,λt l J=>by
   simp only[cg.kill];split;rfl;exact J,λt M l u=>by
   simp only[cg.kill]at u;split at u;cases u;exact absurd (r.none_lt u) af⟩
 have conv:∀{t:Nat} {a:List PV},(σ.kill s).bt t=Dc a->t≠s/\σ.bt t=Dc a:=λ{t a} l=>by
  simp only[cg.kill]at l;split at l
  .cases l
  .exact⟨by assumption,l⟩
 refine⟨⟨r.hwf.kill _,r.Cz,r.top,λt l=>?_,λt as l=>?_,λt t' a b l C hi=>r.inj t t' a b (conv l).2 (conv C).2 hi⟩,A⟩
 .simp only[cg.kill];split
  .rfl
  .exact r.wf t l
 .obtain⟨e,l⟩:=conv l
  obtain⟨D,E,G⟩:=r.bt t as l;exact⟨by rw[zFe (λe'=>e (r.inj t s as cs l hs e'))];exact D,A.voks E,G⟩
def zEB(r:Rel ι Z σ h){s i:Nat}{vs:List PV}(A:dP Z h σ.aM vs)(hw:σ.wr s i vs=Dc σ'):
  ∃h',h.wr (ι s) i (ju ι vs)=Dc h'/\Rel ι Z σ' h'/\mF ι Z σ h ι Z σ' h':=by
 simp only[cg.wr,YJ]at hw;obtain⟨cs,hs,hw⟩:=hw;split at hw
 .rename_i u;cases hw;obtain⟨C,l,E⟩:=r.bt s cs hs;obtain⟨D,a'⟩:=r.set hs (((l.take i).append A).append (l.drop (i+Lu vs)));refine⟨_,?_,D,a'⟩;rw[zSe C (by rw[qA,qA];exact u.1) (by rw[zFB A];exact u.2)];rw[Zc,Zc,QT,QU,qA]
 .cases hw
def zBe{x:PV}(u:kj Z h n x){m:Nat}(l:vd x=Dc m):alen (er ι x)=Dc m:=by
 cases x<;>simp only[vd,reduceCtorEq]at l<;>cases l
 .obtain⟨rfl,rfl,_⟩|⟨o,off,cap,rfl,_⟩:=u.1<;>rfl
 .rfl
def zCA(r:Rel ι Z σ h){e:Nat}{x:PV}(E:kj Z h σ.aM x){m:Nat}{cs:List PV}(l:ZV e σ x m=Dc cs):zAu e h (er ι x) m=Dc (ju ι cs)/\dP Z h σ.aM cs:=by
 unfold ZV at l;unfold zAu;split at l
 .rename_i A;cases l;rw[DK A];exact⟨rfl,DJ⟩
 .rename_i A;rw[DL A];split at l
  .rename_i s off len cap;split at l
   .rename_i u;simp only[er];rw[DK u];exact zHk r l
   .cases l
  .rename_i w a len cs;split at l
   .rename_i u;cases l;obtain⟨D,C⟩:=E;have G:=(C.take (m*e)).up (YV σ.aM);simp only[er];rcases D with ⟨rfl,rfl,_⟩|⟨o,off,cap,rfl,I,h2,_⟩
    .omega
    .simp only;rw[DK u.1,zBm (ι:=ι) (C.take _),QT];refine⟨?_,G⟩;rcases h2 with h2|h2
     .have:=u.2.1
      have J:cs.length=0:=by rw[<-qA (ι:=vq),h2];rfl
      have:=Nat.mul_pos (Nat.pos_of_ne_zero A) u.2.2
      omega
     .have:=zEA h2 (a:=0) (b:=m*e) (by rw[qA];omega)
      simpa using this
   .cases l
  .cases l
def zFW(r:Rel ι Z σ h){e bytes:Nat}{s:PV}(hs:kj Z h σ.aM s){news:List PV}(D:dP Z h σ.aM news){m:Nat}{p:PV×cg}(u:yA e bytes σ s news m=Dc p):
  ∃q,tx e bytes h (er ι s) (ju ι news) m=Dc q/\∃ι' Z',Rel ι' Z' p.2 q.2/\mF ι Z σ h ι' Z' p.2 q.2/\kj Z' q.2 p.2.aM p.1/\q.1=er ι' p.1:=by
 unfold yA at u;split at u
 ·-- nil
  split at u
  .rename_i A;cases u;obtain⟨C,a'⟩:=r.bf D;simp only[er,tx];rw[DK A];exact⟨_,rfl,_,_,C,a',YM _,by simp[er,me]⟩
  .cases u
 ·-- frozen, full
  rename_i w o off l c len cs;split at u
  .rename_i A;cases u;obtain⟨G,N⟩:=hs;have O:=N.up (YV σ.aM);obtain⟨C,a'⟩:=r.bf (O.append D);rcases G with ⟨G,_⟩|⟨o',dx,aE,X,E,h2,U,V⟩
   .cases G
   cases X;simp only[er,tx];rw[DL af,DK A.2.2.2]
   have:h.rd o off (l*e)=Dc (ju ι cs):=by
    rw[zBm (ι:=ι) N];rcases h2 with h2|h2
    .have ef:cs=[]:=YU (by rw[<-qA (ι:=vq),h2];rfl);subst ef;rcases A.2.1 with hw|hw
     .obtain⟨rfl,I⟩:=V hw;rw[<-A.2.2.1,zCU I aK];rfl
     .simp at hw
    .rw[qA,A.2.2.1]at h2;exact h2
   rw[this,EF,<-Zc];exact⟨_,rfl,_,_,C,a',YM _,by simp[er,me]⟩
  .cases u
 .rename_i s off len c;simp only[er,tx];split at u
  .rename_i A;rw[DK A];obtain⟨σ',hw,rfl⟩:=YK.1 u;obtain⟨h',tS,C,a'⟩:=zEB r D hw;rw[tS];exact⟨_,rfl,_,_,C,a',a'.vok hs,rfl⟩
  .rename_i A;rw[DL A];split at u
   .rename_i T;rw[DK T];obtain⟨old,I,rfl⟩:=YK.1 u;obtain⟨E,h2⟩:=zHk r I;obtain⟨C,a'⟩:=r.bf (h2.append D);rw[E,EF,<-Zc];exact⟨_,rfl,_,_,C,a',YM _,by simp[er,me]⟩
   .cases u
 .rename_i s off len g;simp only[er,tx];split at u
  .rename_i A;rw[DK A];simp only[YJ]at u;obtain⟨cs,M,u⟩:=u;split at u
   .rename_i Y;cases u;obtain⟨E,h2,U⟩:=r.bt s cs M;obtain⟨r1,J⟩:=r.kill M;obtain⟨r2,S⟩:=r1.bf (J.voks (((h2.drop off).take (len*e)).append D));rw[E];simp only[YP];rw[DK ⟨DJ,by rw[qA];exact Y⟩,<-QU,<-QT,<-Zc];exact⟨_,rfl,_,_,r2,J.trans S,YM _,by simp[er,me,cg.kill,ct.kill]⟩
   .cases u
  .cases u
 .cases u
def zFV{s v:PV}(hs:kj Z h n s)(u:B3 s=Dc v):AW (er ι s)=Dc (er ι v)/\kj Z h n v:=by
 unfold B3 at u;split at u
 .cases u;exact⟨rfl,.inl ⟨rfl,rfl,rfl⟩,DJ⟩
 .split at u
  .rename_i E;cases u;simp only[er,AW];rw[DK E];exact⟨rfl,hs⟩
  .cases u
 .cases u;exact⟨rfl,hs⟩
 .rename_i w o off l c len cs;cases u;have C:=hs;obtain⟨A,_⟩:=hs;rcases A with ⟨A,_⟩|⟨O,J,I,G,M,N,D,_⟩
  .cases A
  cases G;simp only[er];cases c with
  |b6 c=>simp only[AW];rw[DK (D c rfl)];exact⟨rfl,C⟩
  |grown g=>exact⟨rfl,C⟩
 .cases u
def zIe(r:Rel ι Z σ h){e bytes:Nat}{s x:PV}(hs:kj Z h σ.aM s)(D:kj Z h σ.aM x){p:PV×cg}(l:qL e bytes σ s x=Dc p):
  ∃q,zDP e bytes h (er ι s) (er ι x)=Dc q/\∃ι' Z',Rel ι' Z' p.2 q.2/\mF ι Z σ h ι' Z' p.2 q.2/\kj Z' q.2 p.2.aM p.1/\q.1=er ι' p.1:=by
 simp only[qL,YJ]at l;obtain⟨m,E,l⟩:=l;simp only[zDP];rw[zBe D E];simp only[YP];split at l
 .rename_i u;rw[DK u];obtain⟨v,I,rfl⟩:=YK.1 l;obtain⟨A,C⟩:=zFV (ι:=ι) hs I;rw[A];exact⟨_,rfl,_,_,r,mF.refl r,C,rfl⟩
 .rename_i u;rw[DL u];simp only[YJ]at l;obtain⟨news,G,l⟩:=l;obtain⟨A,C⟩:=zCA r D G;rw[A];exact zFW r hs C l
def zK1(r:Rel ι Z σ h){e:Nat}{d s:PV}(hd:kj Z h σ.aM d)(hs:kj Z h σ.aM s){p:PV×cg}(l:Az e σ d s=Dc p):
  ∃q,acopy e h (er ι d) (er ι s)=Dc q/\∃ι' Z',Rel ι' Z' p.2 q.2/\mF ι Z σ h ι' Z' p.2 q.2/\kj Z' q.2 p.2.aM p.1/\q.1=er ι' p.1:=by
 simp only[Az,YJ]at l;obtain⟨m,G,k,E,l⟩:=l;simp only[acopy];rw[zBe hd G,zBe hs E];simp only[YP];split at l
 .rename_i u;rw[DK u];cases l;exact⟨_,rfl,_,_,r,mF.refl r,DJ,rfl⟩
 .rename_i u;rw[DL u];split at l
  .rename_i o off len cap;simp only[YJ]at l;obtain⟨cs,D,l⟩:=l;obtain⟨σ',hw,rfl⟩:=YK.1 l;obtain⟨A,C⟩:=zCA r hs D;obtain⟨h',J,I,a'⟩:=zEB r C hw;simp only[er];rw[A];simp only[YP];rw[J];exact⟨_,rfl,_,_,I,a',DJ,rfl⟩
  .cases l
def zEF:∀{cs:List PV} {s:List UInt8},zC7 cs=Dc s->zCK (ju ι cs)=Dc s
 |[],s,hs=>hs
 |c::cs,s,hs=>by
  unfold zC7 at hs;split at hs
  .rename_i heq;cases heq
  .rename_i n r heq;cases heq;obtain⟨t,l,rfl⟩:=YK.1 hs;simp only[ju,er,zCK,zEF l,EF]
  .cases hs
def zKE(r:Rel ι Z σ h){E:ec}(C:yn Z h σ.aM E){op:qk}{K:PV->cg->Prop}(u:ep P op E σ K):eff P op (uS ι E) h (Up ι Z σ h K):=by
 have mk:∀{v:PV} {σ':cg} {ι':Nat->Nat} {Z':Nat->Prop} {h':ct},Rel ι' Z' σ' h'->mF ι Z σ h ι' Z' σ' h'->kj Z' h' σ'.aM v->K v σ'->Up ι Z σ h K (er ι' v) h':=λa b c d=>⟨_,_,_,_,a,b,c,rfl,d⟩
 have nw:∀{cs:List PV} {v:PV} ,dP Z h σ.aM cs->(∀ι',kj Z (h.bf ⟨DF,ju ι cs⟩) (σ.aM+1) v/\(ι' σ.aM=h.aM->er ι' v=er (me ι σ.aM h.aM) v))->K v (σ.bf cs)->Up ι Z σ h K (er (me ι σ.aM h.aM) v) (h.bf ⟨DF,ju ι cs⟩):=λD J u=>by
  obtain⟨A,a'⟩:=r.bf D;exact⟨_,_,_,_,A,a',(J (me ι σ.aM h.aM)).1,rfl,u⟩
 cases op<;>simp only[ep]at u<;>simp only[eff,<-BU]<;>(try (exact u.elim))
 case alloc z=>
  obtain⟨A,a'⟩:=r.bf (dP.fi z);rw[ZH]at A a';exact⟨_,_,_,_,A,a',YM _,by simp[er,me],u⟩
 case box x=>
  have I:=(C.pv x).cells;obtain⟨A,a'⟩:=r.bf I;rw[zGA (C.pv x)];exact⟨by rw[zFB I];exact u.1,_,_,_,_,A,a',YM _,by simp[er,me],u.2⟩
 case buildSl sz len z ps=>
  obtain⟨cs,hf,u⟩:=u
  have:=zCr (ι:=ι) (Z:=Z) (h:=h) (n:=σ.aM) (λp G=>by obtain⟨q,_,rfl⟩:=YI.1 G;exact C.pv _) (dP.fi (iU z len)) hf
  rw[ZH,Un]at this;have O:(List.map ((λp:Nat×Nat×PV=>(p.1,p.2.1,er ι p.2.2)) ∘ λp:Nat×Nat×IX=>(p.1,p.2.1,p.2.2.pv E)) ps)=ps.map λp=>(p.1,p.2.1,er ι (p.2.2.pv E)):=rfl;rw[O]at this;obtain⟨A,a'⟩:=r.bf this.2;exact⟨_,this.1,_,_,_,_,A,a',YM _,by simp[er,me],u⟩
 case store k x v=>
  have I:=C.pv x
  revert u I;generalize x.pv E=x';intro u I
  cases x'<;>simp only at u
  rename_i s i;obtain⟨hl,σ',hw,u⟩:=u;obtain⟨h',tS,A,a'⟩:=zEB r (C.pv v).cells hw;simp only[er];rw[zGA (C.pv v)];exact⟨by rw[qA];exact hl,_,tS,.undef,_,_,_,A,a',DJ,rfl,u⟩
 case makeSl sz bytes z l c=>
  revert u;generalize l.pv E=l';generalize c.pv E=c';intro u
  cases l'<;>cases c'<;>simp only at u
  obtain⟨D,u⟩:=u;simp only[er];rename_i k1 l T c;obtain⟨A,a'⟩:=r.bf (dP.fi (iU z c.toNat));rw[ZH]at A a';exact⟨D,_,_,_,_,A,a',YM _,by simp[er,me],u⟩
 case appendMk sz bytes z s n=>
  have hs:=C.pv s
  revert u hs;generalize s.pv E=s';generalize n.pv E=n';intro u hs
  cases s'<;>cases n'<;>(try (simp only at u;done))
  .rename_i w1 U l1 X T n;cases U with
   |b8=>
    obtain⟨D,u⟩:=u;simp only[er];refine⟨D,?_⟩;by_cases N:0<n
    .rw[DK N]at u ⊢;obtain⟨A,a'⟩:=r.bf (dP.fi (iU z n.toNat));rw[ZH]at A a';exact⟨_,_,_,_,A,a',YM _,by simp[er,me],u⟩
    .rw[DL N]at u ⊢;exact⟨.fz DF .b8 0 [],_,_,_,r,mF.refl r,(show kj Z h σ.aM (.fz DF .b8 0 []) from⟨.inl ⟨rfl,rfl,rfl⟩,DJ⟩),rfl,u⟩
   |_=>simp only at u
  .rename_i s1 KI l1 X T n;obtain⟨D,p,G,u⟩:=u;simp only[er];by_cases N:0<n
   .rw[DK N]at G ⊢;have hz:dP Z h σ.aM (fi (iU z n.toNat)):=dP.fi _;obtain⟨q,M,ι',Z',A,a',J,e⟩:=zFW r hs hz G;rw[ZH]at M;exact⟨D,q,M,_,_,_,_,A,a',J,e,u⟩
   .rw[DL N]at G ⊢;obtain⟨v,iY,rfl⟩:=YK.1 G;obtain⟨S,O⟩:=zFV (ι:=ι) hs iY;simp only[er]at S;rw[S];exact⟨D,_,rfl,_,_,_,_,r,mF.refl r,O,rfl,u⟩
 case append sz bytes s x=>
  obtain⟨p,G,u⟩:=u;obtain⟨q,M,ι',Z',A,a',J,e⟩:=zIe r (C.pv s) (C.pv x) G;exact⟨q,M,_,_,_,_,A,a',J,e,u⟩
 case copy sz s x=>
  obtain⟨p,G,u⟩:=u;obtain⟨q,M,ι',Z',A,a',J,e⟩:=zK1 r (C.pv s) (C.pv x) G;exact⟨q,M,_,_,_,_,A,a',J,e,u⟩
 case call f args=>
  have:=u ι Z h r (C.pvs args)
  rw[zHx]at this;simpa only[<-BU]using this
 case callV f args=>
  have I:=C.pv f
  revert u I;generalize f.pv E=f';intro u I
  cases f'<;>simp only at u
  rename_i f first cR
  obtain⟨S,O⟩:=u
  have:=O ι Z h r ((I.1.append (C.pvs args)).append I.2)
  rw[Zc,Zc,zHx]at this;simp only[er];exact⟨S,by simpa only[<-BU]using this⟩
 case strOf x=>
  obtain⟨s,hs,u⟩:=u;unfold zCD at hs;simp only[YJ]at hs;obtain⟨k,V,cs,D,hb⟩:=hs;obtain⟨Y,g2⟩:=zCA r (C.pv x) D;refine⟨s,?_,.str s,_,_,_,r,mF.refl r,DJ,rfl,u⟩;simp only[zBe (C.pv x) V,YP,Y];exact zEF hb
end
section
variable{ι:Nat->Nat}{Z Z':Nat->Prop}{h:ct}{σ σ':cg}
mutual
def Bel(n:Nat):PV->Prop
 | .ptr s _=>s<n
 | .sl s _ _ _=>s<n
 | .clo _ a b=>hZ n a/\hZ n b
 | .agg cs=>hZ n cs
 | .tup cs=>hZ n cs
 |_=>True
def hZ(n:Nat):List PV->Prop
 |[]=>True
 |c::cs=>Bel n c/\hZ n cs
end
def zBD:∀{cs:List PV},hZ n cs↔∀c∈cs,Bel n c
 |[]=>by simp[hZ]
 |c::cs=>by simp[hZ,zBD (cs:=cs)]
mutual
def kj.bel:∀{v:PV},kj Z h n v->Bel n v
 | .undef,_ | .bool _,_ | .int _ _,_ | .str _,_ | .nilp,_ | .nilf,_ | .fz _ _ _ _,_ | .fp _ _,_=>trivial
 | .ptr _ _,hv=>hv
 | .sl _ _ _ _,hv=>hv
 | .clo _ a b,hv=>⟨dP.bel hv.1,dP.bel hv.2⟩
 | .agg cs,hv=>dP.bel (cs:=cs) hv
 | .tup cs,hv=>dP.bel (cs:=cs) hv
def dP.bel:∀{cs:List PV},dP Z h n cs->hZ n cs
 |[],_=>trivial
 |c::cs,hv=>⟨kj.bel hv.1,dP.bel hv.2⟩
end
mutual
def kj.of_bel:∀{v:PV},kj Z h n v->Bel n' v->kj Z h n' v
 | .undef,_,_ | .bool _,_,_ | .int _ _,_,_ | .str _,_,_ | .nilp,_,_ | .nilf,_,_=>trivial
 | .fz _ _ _ _,hv,_=>hv
 | .fp _ _,hv,_=>hv
 | .ptr _ _,_,hb=>hb
 | .sl _ _ _ _,_,hb=>hb
 | .clo _ a b,hv,hb=>⟨dP.of_bel hv.1 hb.1,dP.of_bel hv.2 hb.2⟩
 | .agg cs,hv,hb=>dP.of_bel (cs:=cs) hv hb
 | .tup cs,hv,hb=>dP.of_bel (cs:=cs) hv hb
def dP.of_bel:∀{cs:List PV},dP Z h n cs->hZ n' cs->dP Z h n' cs
 |[],_,_=>trivial
 |c::cs,hv,hb=>⟨kj.of_bel hv.1 hb.1,dP.of_bel hv.2 hb.2⟩
end
mutual
def Bel.up(l:n<=n'):∀{v:PV},Bel n v->Bel n' v
 | .undef,_ | .bool _,_ | .int _ _,_ | .str _,_ | .nilp,_ | .nilf,_ | .fz _ _ _ _,_ | .fp _ _,_=>trivial
 | .ptr _ _,hv=>Yw hv l
 | .sl _ _ _ _,hv=>Yw hv l
 | .clo _ a b,hv=>⟨hZ.up l hv.1,hZ.up l hv.2⟩
 | .agg cs,hv=>hZ.up (cs:=cs) l hv
 | .tup cs,hv=>hZ.up (cs:=cs) l hv
def hZ.up(l:n<=n'):∀{cs:List PV},hZ n cs->hZ n' cs
 |[],_=>trivial
 |c::cs,hv=>⟨Bel.up l hv.1,hZ.up l hv.2⟩
end
structure PWF(σ:cg):Prop where
 wf:∀s,σ.aM<=s->σ.bt s=none
 bel:∀s cs,σ.bt s=Dc cs->hZ σ.aM cs
def Rel.pwf(r:Rel ι Z σ h):PWF σ:=⟨r.wf,λs cs hs=>(r.bt s cs hs).2.1.bel⟩
def PWF.lt(w:PWF σ){s:Nat}{cs:List PV}(hs:σ.bt s=Dc cs):s<σ.aM:=by
 rcases YG s σ.aM with x|x
 .exact x
 .rw[w.wf s x]at hs;cases hs
def gk:jZ->Nat->Bool
 | .b6 c,l=>decide (l<=c)
 | .grown _,_=>DF
mutual
def sb(s o:Nat)(cs:List PV):PV->PV
 | .sl s' off l cap=>if s'=s/\off=0/\gk cap l=DF then .fz DF (.sl o 0 l cap) l cs else .sl s' off l cap
 | .clo f a b=>.clo f (kq s o cs a) (kq s o cs b)
 | .agg vs=>.agg (kq s o cs vs)
 | .tup vs=>.tup (kq s o cs vs)
 |v=>v
def kq(s o:Nat)(cs:List PV):List PV->List PV
 |[]=>[]
 |v::vs=>sb s o cs v::kq s o cs vs
end
mutual
def er_sb{s o:Nat}{cs:List PV}(u:o=ι s):∀v:PV,er ι (sb s o cs v)=er ι v
 | .undef | .bool _ | .int _ _ | .str _ | .nilp | .nilf | .fz _ _ _ _ | .fp _ _ | .ptr _ _=>rfl
 | .sl s' off l cap=>by
  simp only[sb];split
  .rename_i A;simp only[er];rw[A.1,A.2.1,u]
  .rfl
 | .clo f a b=>by simp only[sb,er,zAA u a,zAA u b]
 | .agg a=>by simp only[sb,er,zAA u a]
 | .tup a=>by simp only[sb,er,zAA u a]
def zAA{s o:Nat}{cs:List PV}(l:o=ι s):∀vs:List PV,ju ι (kq s o cs vs)=ju ι vs
 |[]=>rfl
 |v::vs=>by simp only[kq,ju,er_sb l v,zAA l vs]
end
mutual
def kj.sb{s o:Nat}{cs:List PV}(C:Z o)(u:h.bt o=Dc ⟨DF,ju vq cs⟩)(A:dP Z h 0 cs):∀{v:PV},kj Z h n v->kj Z h n (sb s o cs v)
 | .undef,_ | .bool _,_ | .int _ _,_ | .str _,_ | .nilp,_ | .nilf,_=>trivial
 | .fz _ _ _ _,hv | .fp _ _,hv | .ptr _ _,hv=>hv
 | .sl s' off l cap,hv=>by
  simp only[Go.Ab.sb];split
  .rename_i E;refine⟨.inr ⟨o,0,cap,rfl,C,.inr (zDU u rfl),λc D=>?_,λ_=>⟨rfl,u⟩⟩,A⟩;subst D;simpa [gk]using E.2.2
  .exact hv
 | .clo f a b,hv=>⟨dP.kq C u A hv.1,dP.kq C u A hv.2⟩
 | .agg a,hv=>dP.kq (vs:=a) C u A hv
 | .tup a,hv=>dP.kq (vs:=a) C u A hv
def dP.kq{s o:Nat}{cs:List PV}(A:Z o)(u:h.bt o=Dc ⟨DF,ju vq cs⟩)(l:dP Z h 0 cs):∀{vs:List PV},dP Z h n vs->dP Z h n (kq s o cs vs)
 |[],_=>trivial
 |v::vs,hv=>⟨kj.sb A u l hv.1,dP.kq A u l hv.2⟩
end
def Rel.freeze(r:Rel ι Z σ h){s:Nat}{cs:List PV}(hs:σ.bt s=Dc cs)(I:hZ 0 cs):
  (Rel ι (λo=>Z o\/o=ι s) ((σ.kill s).up (max σ.top (ι s+1))) h)/\dP Z h 0 cs/\h.bt (ι s)=Dc ⟨DF,ju vq cs⟩/\¬Z (ι s):=by
 obtain⟨D,S,T⟩:=r.bt s cs hs;have C:dP Z h 0 cs:=S.of_bel I;have E:=r.hwf.lt D;have conv:∀{t:Nat} {a:List PV},(σ.kill s).bt t=Dc a->t≠s/\σ.bt t=Dc a:=λ{t a} l=>by
  simp only[cg.kill]at l;split at l
  .cases l
  .exact⟨by assumption,l⟩
 refine⟨⟨r.hwf,?_,?_,λt l=>?_,λt u l=>?_,λt t' u U l G J=>r.inj t t' u U (conv l).2 (conv G).2 J⟩,C,by rw[<-zBm C];exact D,T⟩
 .rintro o (A|rfl)
  .exact r.Cz o A
  .exact E
 .have:=r.top
  simp only[cg.up];omega
 .simp only[cg.kill,cg.up];split
  .rfl
  .exact r.wf t l
 .obtain⟨e,l⟩:=conv l
  obtain⟨M,N,O⟩:=r.bt t u l;refine⟨M,N.mono (λo A=>⟨.inl A,rfl⟩) (na _),?_⟩
  rintro(hz|hz)
  .exact O hz
  .exact e (r.inj t s u cs l hs hz)
def cg.sub(σ:cg)(s o:Nat)(cs:List PV):cg:=⟨σ.aM,σ.top,λt=>(σ.bt t).map (kq s o cs)⟩
def Rel.sub(r:Rel ι Z σ h){s o:Nat}{cs:List PV}(hs:o=ι s)(J:Z o)(I:h.bt o=Dc ⟨DF,ju vq cs⟩)(E:dP Z h 0 cs):Rel ι Z (σ.sub s o cs) h:=by
 have conv:∀{t:Nat} {a:List PV},(σ.sub s o cs).bt t=Dc a->∃b,σ.bt t=Dc b/\a=kq s o cs b:=λ{t a} l=>by
  simp only[cg.sub,YK]at l;obtain⟨b,u,D⟩:=l;exact⟨b,u,D.symm⟩
 refine⟨r.hwf,r.Cz,r.top,λt l=>by simp only[cg.sub];rw[r.wf t l];rfl,λt C l=>?_,λt t' C T l A G=>?_⟩
 .obtain⟨b,u,rfl⟩:=conv l
  obtain⟨M,N,O⟩:=r.bt t b u;exact⟨by rw[zAA hs];exact M,dP.kq J I E N,O⟩
 .obtain⟨b,u,_⟩:=conv l
  obtain⟨b',S,_⟩:=conv A;exact r.inj t t' b b' u S G
mutual
def zSk{s o:Nat}{cs:List PV}:∀{n:Nat} {v:PV},n<=s->Bel n v->sb s o cs v=v
 |n,.undef,_,_|n,.bool _,_,_|n,.int _ _,_,_|n,.str _,_,_|n,.nilp,_,_|n,.nilf,_,_|n,.fz _ _ _ _,_,_|n,.fp _ _,_,_|n,.ptr _ _,_,_=>rfl
 |n,.sl s' _ _ _,hn,hb=>by
  have:s'<n:=hb
  simp only[sb];rw[DL af]
 |n,.clo _ a b,hn,hb=>by simp only[sb,Q5 hn hb.1,Q5 hn hb.2]
 |n,.agg a,hn,hb=>by simp only[sb,Q5 (vs:=a) hn hb]
 |n,.tup a,hn,hb=>by simp only[sb,Q5 (vs:=a) hn hb]
def Q5{s o:Nat}{cs:List PV}:∀{n:Nat} {vs:List PV},n<=s->hZ n vs->kq s o cs vs=vs
 |n,[],_,_=>rfl
 |n,v::vs,hn,hb=>by simp only[kq,zSk hn hb.1,Q5 hn hb.2]
end
def zGZ{s o:Nat}{cs:List PV}:∀(a b:List PV),kq s o cs (a++b)=kq s o cs a++kq s o cs b
 |[],b=>rfl
 |v::a,b=>by simp only[Yr,kq,zGZ a b]
inductive GL(I:List PV->cg->Prop):List PV->cg->Prop where
 |here {vs:List PV} {h:cg} (k:I vs h):GL I vs h
 |fz {vs:List PV} {h:cg} (s:Nat) (cs:List PV) (hs:h.bt s=Dc cs) (hb:hZ 0 cs) (k:∀o,GL I (kq s o cs vs) (h.kill s)):GL I vs h
 |fzh {vs:List PV} {h:cg} (s:Nat) (cs:List PV) (hs:h.bt s=Dc cs) (hb:hZ 0 cs) (k:∀o,GL I (kq s o cs vs) ((h.kill s).sub s o cs)):GL I vs h
def GL.sound{I:List PV->cg->Prop}{vs:List PV}{σ:cg}(g:GL I vs σ):∀{ι:Nat->Nat} {Z:Nat->Prop} {h:ct},Rel ι Z σ h->dP Z h σ.aM vs->
  ∃Z' σ' C,Rel ι Z' σ' h/\mF ι Z σ h ι Z' σ' h/\dP Z' h σ'.aM C/\ju ι C=ju ι vs/\I C σ':=by
 induction g with
 |here k=>intro ι Z h r hv;exact⟨Z,_,_,r,mF.refl r,hv,rfl,k⟩
 |fz s cs hs hb k ih=>
  rename_i vs σ;intro ι Z h r hv;obtain⟨l,D,A,V⟩:=r.freeze hs hb;have u:∀o,Z o->(Z o\/o=ι s)/\h.bt o=h.bt o:=λo A=>⟨.inl A,rfl⟩
  have r2:Rel ι (λo=>Z o\/o=ι s) (σ.kill s) h:=⟨l.hwf,l.Cz,by have:=r.top;exact this,l.wf,l.bt,l.inj⟩
  obtain⟨Z',σ',C,M,N,O,S,T⟩:=ih (ι s) r2 (dP.kq (.inr rfl) A (D.mono u (na _)) (hv.mono u (na _)));have E:mF ι Z σ h ι (λo=>Z o\/o=ι s) (σ.kill s) h:=⟨na _,na _,λ_ _=>rfl,u,λt J G=>by simp only[cg.kill];split;rfl;exact G,λt U J hd=>by
   simp only[cg.kill]at hd;split at hd;cases hd;exact absurd (r.none_lt hd) af⟩
  exact⟨Z',σ',C,M,E.trans N,O,S.trans (zAA rfl vs),T⟩
 |fzh s cs hs hb k ih=>
  rename_i vs σ;intro ι Z h r hv;obtain⟨l,D,A,V⟩:=r.freeze hs hb;have u:∀o,Z o->(Z o\/o=ι s)/\h.bt o=h.bt o:=λo A=>⟨.inl A,rfl⟩
  have r2:Rel ι (λo=>Z o\/o=ι s) (σ.kill s) h:=⟨l.hwf,l.Cz,by have:=r.top;exact this,l.wf,l.bt,l.inj⟩
  have r3:=r2.sub (s:=s) rfl (.inr rfl) A (D.mono u (na _));obtain⟨Z',σ',C,M,N,O,S,T⟩:=ih (ι s) r3 (dP.kq (.inr rfl) A (D.mono u (na _)) (hv.mono u (na _)));have E:mF ι Z σ h ι (λo=>Z o\/o=ι s) ((σ.kill s).sub s (ι s) cs) h:=⟨na _,na _,λ_ _=>rfl,u,λt J G=>by simp only[cg.kill,cg.sub];split;rfl;rw[G];rfl,λt U J hd=>by
   simp only[cg.kill,cg.sub]at hd;split at hd;cases hd;cases xp:σ.bt t with
   |none=>rw[xp]at hd;cases hd
   |some b=>exact absurd (r.none_lt xp) af⟩
  exact⟨Z',σ',C,M,E.trans N,O,S.trans (zAA rfl vs),T⟩
end
section
variable{P:Program}{ι ι':Nat->Nat}{Z Z':Nat->Prop}{h h':ct}{σ σ':cg}
def zAT(v:PV)(b:Bool)(x:Option PV):Option PV:=
 match v with
 | .bool c=>if c=b then x else Dc (.tup [])
 | .tup []=>Dc (.tup [])
 |_=>none
def Qn(v:PV)(b:Bool)(x y:Prop):Prop:=
 match v with
 | .bool c=>if c=b then x else y
 | .tup []=>y
 |_=>False
def Qe(v:PV)(a b:Prop):Prop:=
 match v with
 | .bool t=>if t=DF then a else b
 |_=>False
def gqp(nb nr:Nat)(it:II)(e:ec)(σ:cg):Option PV:=
 match it.guard with
 |none=>qp nb nr it.op e σ
 |some (t,b)=>zAT (e t) b (qp nb nr it.op e σ)
def gep(P:Program)(it:II)(e:ec)(σ:cg)(K:PV->cg->Prop):Prop:=
 match it.guard with
 |none=>ep P it.op e σ K
 |some (t,b)=>Qn (e t) b (ep P it.op e σ K) (K (.tup []) σ)
def RVp(P:Program):List II->ec->cg->(ec->cg->Prop)->Prop
 |[],e,h,K=>K e h
 |it::r,e,h,K=>match it.q with
  |true=>fw (gqp 0 0 it e h) λv=>RVp P r (e.put it.dst v) h K
  |false=>gep P it e h λv h'=>RVp P r (e.put it.dst v) h' K
structure pk where
 idx:Nat
 agg:Bool
 n:Nat
 x:PV
 v:PV
def zBp(g:Option (Nat×Bool))(e:ec):Bool:=
 match g with
 |none=>DF
 |some (t,b)=>match e t with
  | .bool c=>decide (c=b)
  |_=>false
def qE(it:DI)(e:ec)(v:PV):List pk:=
 match it.op with
 | .load agg n x=>if zBp it.guard e=DF then [⟨it.idx,agg,n,x.pv e,v⟩]else []
 |_=>[]
def Qz(chk:List Nat):List pk->cg->Prop
 |[],_=>True
 |r::rs,h=>(if chk.contains r.idx=DF then Cy r.agg r.n r.x h=Dc r.v else True)/\Qz chk rs h
def DVp(P:Program)(nb nr:Nat):List DI->List pk->ec->cg->(ec->cg->Prop)->Prop
 |[],_,e,h,K=>K e h
 |it::r,recs,e,h,K=>match it.q with
  |true=>fw (gqp nb nr it.toII e h) λv=>DVp P nb nr r (qE it e v++recs) (e.put it.dst v) h K
  |false=>gep P it.toII e h λv h'=>Qz it.chk recs h'/\DVp P nb nr r recs (e.put it.dst v) h' K
def TVp(P:Program):OT->List pk->ec->cg->(ec->cg->Prop)->Prop
 | .done,_,e,h,K=>K e h
 | .none,_,_,_,_=>True
 | .q it nx,recs,e,h,K=>fw (gqp 0 0 it.toII e h) λv=>TVp P nx (qE it e v++recs) (e.put it.dst v) h K
 | .e it nx alt,recs,e,h,K=>(gep P it.toII e h λv h'=>Qz it.chk recs h'/\TVp P nx recs (e.put it.dst v) h' K)/\TVp P alt recs e h K
def vp(P:Program):IC->(Exit->ec->cg->Prop)->ec->cg->Prop
 | .skip,Q,e,h=>Q .normal e h
 | .region S be,Q,e,h=>RVp P be e h λe' h'=>Q .normal (ec.mk S (S.map e')) h'
 | .draw S zs be,Q,e,h=>DVp P h.aM zs.length be [] e (h.news zs) λe' h'=>Q .normal (ec.mk S (S.map e')) h'
 | .tree S t,Q,e,h=>TVp P t [] e h λe' h'=>Q .normal (ec.mk S (S.map e')) h'
 | .seq a b,Q,e,h=>vp P a (λx e' h'=>match x with | .normal=>vp P b Q e' h'|x=>Q x e' h') e h
 | .cond c a b,Q,e,h=>Qe (c.pv e) (vp P a Q e h) (vp P b Q e h)
 | .block id c,Q,e,h=>vp P c (λx e' h'=>match x with | .exit my=>if my=id then Q .normal e' h' else Q (.exit my) e' h'|x=>Q x e' h') e h
 | .loop S c,Q,e,h=>∃I:Nat->List PV->cg->Prop,(∃n,GL (I n) (S.map e) h)/\
   ∀n vs h,I n vs h->vp P c (λx e' h'=>match x with | .normal=>∃n',n'<n/\GL (I n') (S.map e') h'|x=>Q x e' h') (ec.mk S vs) h
 | .exit id,Q,e,h=>Q (.exit id) e h
 | .ret,Q,e,h=>Q .ret e h
def Zj:List x6->ec->cg->Option (List PV)
 |[],_,_=>Dc []
 | .tmp t::r,e,h=>(Zj r e h).map λvs=>e t::vs
 | .cell t agg n::r,e,h=>(Cy agg n (e t) h).bind λv=>(Zj r e h).map λvs=>v::vs
def vD:List PV->PV
 |[v]=>v
 |vs=>.tup vs
def retP(res:List x6)(Q:PV->cg->Prop):Exit->ec->cg->Prop
 | .normal,e,h=>fw (Zj res e h) λvs=>Q (vD vs) h
 | .ret,e,h=>fw (Zj res e h) λvs=>Q (vD vs) h
 |_,_,_=>False
def zMR{op:qk}{e:ec}{K K':PV->cg->Prop}(C:∀v h',K v h'->K' v h')(A:ep P op e σ K):ep P op e σ K':=by
 cases op<;>simp only[ep]at A ⊢
 case alloc z=>exact C _ _ A
 case box x=>exact⟨A.1,C _ _ A.2⟩
 case buildSl a b c ps=>obtain⟨x,y,z⟩:=A;exact⟨x,y,C _ _ z⟩
 case store n x v=>
  split at A
  .obtain⟨x,y,z,u⟩:=A;exact⟨x,y,z,C _ _ u⟩
  .exact A
 case makeSl a b z l c=>
  split at A
  .exact⟨A.1,C _ _ A.2⟩
  .exact A
 case appendMk a b z l c=>
  split at A
  .refine⟨A.1,?_⟩;have D:=A.2;split at D
   .rename_i E;rw[DK E];exact C _ _ D
   .rename_i E;rw[DL E];exact C _ _ D
  .obtain⟨x,y,z,u⟩:=A;exact⟨x,y,z,C _ _ u⟩
  .exact A
 case append a b s x=>obtain⟨x,y,z⟩:=A;exact⟨x,y,C _ _ z⟩
 case copy a d s=>obtain⟨x,y,z⟩:=A;exact⟨x,y,C _ _ z⟩
 case call f a=>exact A.mono C
 case callV f a=>
  split at A
  .exact⟨A.1,A.2.mono C⟩
  .exact A
 case strOf x=>obtain⟨s,hs,A⟩:=A;exact⟨s,hs,C _ _ A⟩
def zF7{it:II}{e:ec}{K K':PV->cg->Prop}(u:∀v h',K v h'->K' v h')(l:gep P it e σ K):gep P it e σ K':=by
 obtain⟨dst,op,q,guard⟩:=it;cases guard with
 |none=>exact zMR u l
 |some g=>
  obtain⟨t,b⟩:=g;simp only[gep,Qn]at l ⊢;split at l
  .split at l
   .rename_i h;rw[DK h];exact zMR u l
   .rename_i h;rw[DL h];exact u _ _ l
  .exact u _ _ l
  .exact l
def zGK{K K':ec->cg->Prop}(A:∀e h',K e h'->K' e h'):∀(u:List II) {e:ec} {σ:cg},RVp P u e σ K->RVp P u e σ K'
 |[],e,σ,l=>A _ _ l
 |it::u,e,σ,l=>by
  simp only[RVp]at l ⊢;split at l
  .obtain⟨v,C,l⟩:=l;exact⟨v,C,zGK A u l⟩
  .exact zF7 (λv h' k=>zGK A u k) l
def zDn{K K':ec->cg->Prop}(u:∀e h',K e h'->K' e h'):∀(t:OT) {recs:List pk} {e:ec} {σ:cg},TVp P t recs e σ K->TVp P t recs e σ K'
 | .done,_,e,σ,l=>u _ _ l
 | .none,_,e,σ,l=>trivial
 | .q it nx,_,e,σ,l=>by
  obtain⟨v,A,l⟩:=l;exact⟨v,A,zDn u nx l⟩
 | .e it nx alt,_,e,σ,l=>⟨zF7 (λv h' k=>⟨k.1,zDn u nx k.2⟩) l.1,zDn u alt l.2⟩
def zGN{nb nr:Nat}{K K':ec->cg->Prop}(A:∀e h',K e h'->K' e h'):∀(u:List DI) {recs:List pk} {e:ec} {σ:cg},DVp P nb nr u recs e σ K->DVp P nb nr u recs e σ K'
 |[],_,e,σ,l=>A _ _ l
 |it::u,_,e,σ,l=>by
  simp only[DVp]at l ⊢;split at l
  .obtain⟨v,C,l⟩:=l;exact⟨v,C,zGN A u l⟩
  .exact zF7 (λv h' k=>⟨k.1,zGN A u k.2⟩) l
def zAw:∀(c:IC) {Q l:Exit->ec->cg->Prop} {e:ec} {σ:cg},(∀x e h,Q x e h->l x e h)->vp P c Q e σ->vp P c l e σ
 | .skip,Q,l,e,σ,hm,hk=>hm _ _ _ hk
 | .exit id,Q,l,e,σ,hm,hk=>hm _ _ _ hk
 | .ret,Q,l,e,σ,hm,hk=>hm _ _ _ hk
 | .region S be,Q,l,e,σ,hm,hk=>zGK (λe h k=>hm _ _ _ k) be hk
 | .tree S t,Q,l,e,σ,hm,hk=>zDn (λe h k=>hm _ _ _ k) t hk
 | .draw S zs be,Q,l,e,σ,hm,hk=>zGN (λe h k=>hm _ _ _ k) be hk
 | .seq a b,Q,l,e,σ,hm,hk=>zAw a (λx e h k=>by cases x<;>first|exact zAw b hm k|exact hm _ _ _ k) hk
 | .cond c a b,Q,l,e,σ,hm,hk=>by
  simp only[vp,Qe]at hk ⊢;split at hk
  .split at hk
   .rename_i h;rw[DK h];exact zAw a hm hk
   .rename_i h;rw[DL h];exact zAw b hm hk
  .exact hk
 | .block id c,Q,l,e,σ,hm,hk=>zAw c (λx e h k=>by
   cases x with
   |exit my=>
    dsimp only at k ⊢;split at k
    .rename_i h;rw[DK h];exact hm _ _ _ k
    .rename_i h;rw[DL h];exact hm _ _ _ k
   |_=>exact hm _ _ _ k) hk
 | .loop S c,Q,l,e,σ,hm,⟨I,h0,hr⟩=>⟨I,h0,λn vs h u=>zAw c (λx e h k=>by cases x<;>first|exact k|exact hm _ _ _ k) (hr n vs h u)⟩
def Rest(ι:Nat->Nat)(Z:Nat->Prop)(σ:cg)(h:ct)(K:ec->cg->Prop)(K1:Env->ct->Prop):Prop:=
 ∀(l:ec) (σ':cg) (ι':Nat->Nat) (Z':Nat->Prop) (h':ct),Rel ι' Z' σ' h'->mF ι Z σ h ι' Z' σ' h'->yn Z' h' σ'.aM l->K l σ'->K1 (uS ι' l) h'
def Rest.later{σ':cg}{K:ec->cg->Prop}{K1:Env->ct->Prop}(c:Rest ι Z σ h K K1)(a:mF ι Z σ h ι' Z' σ' h'):Rest ι' Z' σ' h' K K1:=
 λl σ'' ι'' u eB r b e k=>c l σ'' ι'' u eB r (a.trans b) e k
def zEZ(r:Rel ι Z σ h){E:ec}(C:yn Z h σ.aM E){nb nr nb1:Nat}(A:RevOK ι σ nb nr nb1){it:II}{v:PV}(l:gqp nb nr it E σ=Dc v):
  gq nb1 it (uS ι E) h=Dc (er ι v)/\kj Z h σ.aM v:=by
 obtain⟨dst,op,q,guard⟩:=it;cases guard with
 |none=>exact zJF r C A l
 |some g=>
  obtain⟨t,b⟩:=g;simp only[gqp,gq,uS]at l ⊢;cases ht:E t with
  |bool c=>
   rw[ht]at l;simp only[zAT]at l;simp only[er];split at l
   .rename_i u;rw[DK u];exact zJF r C A l
   .rename_i u;rw[DL u];cases l;exact⟨rfl,DJ⟩
  |tup cs=>
   rw[ht]at l;cases cs with
   |nil=>cases l;exact⟨rfl,DJ⟩
   |cons x cs=>simp only[zAT,reduceCtorEq]at l
  |_=>rw[ht]at l;simp only[zAT,reduceCtorEq]at l
def zEa(r:Rel ι Z σ h){E:ec}(A:yn Z h σ.aM E){it:II}{K:PV->cg->Prop}(l:gep P it E σ K):ge P it (uS ι E) h (Up ι Z σ h K):=by
 obtain⟨dst,op,q,guard⟩:=it;cases guard with
 |none=>exact zKE r A l
 |some g=>
  obtain⟨t,b⟩:=g;simp only[gep,ge,uS]at l ⊢;cases ht:E t with
  |bool c=>
   rw[ht]at l;simp only[Qn]at l;simp only[er];split at l
   .rename_i u;rw[DK u];exact zKE r A l
   .rename_i u;rw[DL u];exact⟨.tup [],σ,ι,Z,r,mF.refl r,DJ,rfl,l⟩
  |tup cs=>
   rw[ht]at l;cases cs with
   |nil=>exact⟨.tup [],σ,ι,Z,r,mF.refl r,DJ,rfl,l⟩
   |cons x cs=>simp only[Qn]at l
  |_=>rw[ht]at l;simp only[Qn]at l
def zEq:∀(u:List II) {ι:Nat->Nat} {Z:Nat->Prop} {σ:cg} {h:ct} {E:ec} {K:ec->cg->Prop} {K1:Env->ct->Prop},Rel ι Z σ h->yn Z h σ.aM E->RVp P u E σ K->Rest ι Z σ h K K1->RV P u (uS ι E) h K1
 |[],ι,Z,σ,h,E,K,K1,r,he,l,hr=>hr E σ ι Z h r (mF.refl r) he l
 |it::u,ι,Z,σ,h,E,K,K1,r,he,l,hr=>by
  simp only[RVp,RV]at l ⊢;split at l
  .rename_i A;simp only[A];obtain⟨v,C,l⟩:=l;obtain⟨G,I⟩:=zEZ r he (nb1:=0) (λk l=>absurd l (Ex _)) C;refine⟨_,G,?_⟩
   have:=zEq u r (he.put I it.dst) l hr
   rw[zBv]at this;exact this
  .rename_i A;simp only[A];refine zA5 ?_ (zEa r he l)
   rintro v h' ⟨pv,σ',ι',Z',J,a',C,rfl,D⟩
   have:=zEq u J ((a'.eok he).put C it.dst) D (hr.later a')
   rw[zBv,a'.uS he]at this;exact this
def erR(ι:Nat->Nat)(r:pk):Rec:=⟨r.idx,r.agg,r.n,er ι r.x,er ι r.v⟩
def ROK(Z:Nat->Prop)(h:ct)(n:Nat)(rs:List pk):Prop:=∀r∈rs,kj Z h n r.x/\kj Z h n r.v
def mF.rok{rs:List pk}(a:mF ι Z σ h ι' Z' σ' h')(u:ROK Z h σ.aM rs):ROK Z' h' σ'.aM rs:=λr l=>⟨a.vok (u r l).1,a.vok (u r l).2⟩
def mF.erR{rs:List pk}(a:mF ι Z σ h ι' Z' σ' h')(u:ROK Z h σ.aM rs):rs.map (Go.Ab.erR ι')=rs.map (Go.Ab.erR ι):=
 EA λr l=>by simp only[Go.Ab.erR];rw[a.er (u r l).1,a.er (u r l).2]
def zFU{E:ec}{it:DI}{v:PV}{nb nr:Nat}(l:gqp nb nr it.toII E σ=Dc v):tj it (uS ι E) (er ι v)=(qE it E v).map (erR ι):=by
 obtain⟨⟨dst,op,q,guard⟩,idx,chk⟩:=it;have hw:Zn guard (uS ι E)=zBp guard E:=by
  cases guard with
  |none=>rfl
  |some g=>
   obtain⟨t,b⟩:=g;simp only[gqp]at l;simp only[Zn,zBp,uS];cases ht:E t with
   |bool c=>rfl
   |tup cs=>rfl
   |_=>rw[ht]at l;simp only[zAT,reduceCtorEq]at l
 cases op<;>simp only[tj,qE]<;>try rfl
 rw[hw];split
 .simp only[YE,Ya,erR,BU]
 .rfl
def zIA(r:Rel ι Z σ h){E:ec}(l:yn Z h σ.aM E){it:DI}{v:PV}(u:kj Z h σ.aM v):ROK Z h σ.aM (qE it E v):=by
 unfold qE;split
 .split
  .intro r hr;simp only[YT]at hr;subst hr;exact⟨l.pv _,u⟩
  .intro r hr;simp at hr
 .intro r hr;simp at hr
def zCL(r:Rel ι Z σ h){chk:List Nat}:∀{rs:List pk},ROK Z h σ.aM rs->Qz chk rs σ->oc chk (rs.map (erR ι)) h
 |[],_,_=>trivial
 |x::rs,hr,hk=>by
  simp only[YE,Qz,oc]at hk ⊢;refine⟨?_,zCL r (λy A=>hr y (by simp[A])) hk.2⟩;have u:=hk.1;by_cases l:chk.contains x.idx=DF
  .rw[DK l]at u;rw[DK (show chk.contains (erR ι x).idx=DF from l)];exact(zDX r (hr x aK).1 u).1
  .rw[DL (show ¬chk.contains (erR ι x).idx=DF from l)];trivial
def RevOK.later{nb nr nb1:Nat}(u:RevOK ι σ nb nr nb1)(a:mF ι Z σ h ι' Z' σ' h'):RevOK ι' σ' nb nr nb1:=
 λk l=>⟨Yw (u k l).1 a.aM,by rw[a.inj _ (u k l).1];exact(u k l).2⟩
def zEv{nb nr nb1:Nat}:∀(u:List DI) {recs:List pk} {ι:Nat->Nat} {Z:Nat->Prop} {σ:cg} {h:ct} {E:ec} {K:ec->cg->Prop} {K1:Env->ct->Prop},RevOK ι σ nb nr nb1->Rel ι Z σ h->yn Z h σ.aM E->ROK Z h σ.aM recs->
  DVp P nb nr u recs E σ K->Rest ι Z σ h K K1->DV P nb1 u (recs.map (erR ι)) (uS ι E) h K1
 |[],recs,ι,Z,σ,h,E,K,K1,hv,r,he,jc,l,hr=>hr E σ ι Z h r (mF.refl r) he l
 |it::u,recs,ι,Z,σ,h,E,K,K1,hv,r,he,jc,l,hr=>by
  simp only[DVp,DV]at l ⊢;split at l
  .rename_i D;simp only[D];obtain⟨v,C,l⟩:=l;obtain⟨O,G⟩:=zEZ r he hv C;refine⟨_,O,?_⟩
   have:=zEv u hv r (he.put G it.dst) (recs:=qE it E v++recs) (λx A=>(YY.1 A).elim (λA=>zIA r he G x A) (λA=>jc x A)) l hr
   rw[zBv,Yx,<-zFU C]at this;exact this
  .rename_i D;simp only[D];refine zA5 ?_ (zEa r he l)
   rintro v h' ⟨pv,σ',ι',Z',J,a',C,rfl,M,N⟩
   have I:=zCL J (a'.rok jc) M;rw[a'.erR jc]at I;refine⟨I,?_⟩
   have:=zEv u (hv.later a') J ((a'.eok he).put C it.dst) (a'.rok jc) N (hr.later a')
   rw[zBv,a'.uS he,a'.erR jc]at this;exact this
def zCl:∀(t:OT) {recs:List pk} {ι:Nat->Nat} {Z:Nat->Prop} {σ:cg} {h:ct} {E:ec} {K:ec->cg->Prop} {K1:Env->ct->Prop},Rel ι Z σ h->yn Z h σ.aM E->ROK Z h σ.aM recs->TVp P t recs E σ K->Rest ι Z σ h K K1->TV P t (recs.map (erR ι)) (uS ι E) h K1
 | .done,_,ι,Z,σ,h,E,K,K1,r,he,jc,l,hr=>hr E σ ι Z h r (mF.refl r) he l
 | .none,_,ι,Z,σ,h,E,K,K1,r,he,jc,l,hr=>trivial
 | .q it nx,recs,ι,Z,σ,h,E,K,K1,r,he,jc,l,hr=>by
  obtain⟨v,A,l⟩:=l;obtain⟨M,C⟩:=zEZ r he (nb1:=0) (λk l=>absurd l (Ex _)) A;refine⟨_,M,?_⟩
  have:=zCl nx r (he.put C it.dst) (recs:=qE it E v++recs) (λx u=>(YY.1 u).elim (λu=>zIA r he C x u) (λu=>jc x u)) l hr
  rw[zBv,Yx,<-zFU A]at this;exact this
 | .e it nx alt,recs,ι,Z,σ,h,E,K,K1,r,he,jc,l,hr=>by
  refine⟨?_,zCl alt r he jc l.2 hr⟩;refine zA5 ?_ (zEa r he l.1)
  rintro v h' ⟨pv,σ',ι',Z',G,a',A,rfl,I,J⟩
  have D:=zCL G (a'.rok jc) I;rw[a'.erR jc]at D;refine⟨D,?_⟩
  have:=zCl nx G ((a'.eok he).put A it.dst) (a'.rok jc) J (hr.later a')
  rw[zBv,a'.uS he,a'.erR jc]at this;exact this
def zJf:∀(zs:List (List AV)) {ι:Nat->Nat} {σ:cg} {h:ct},Rel ι Z σ h->
  ∃ι',Rel ι' Z (σ.news zs) (h.news zs)/\mF ι Z σ h ι' Z (σ.news zs) (h.news zs)/\(σ.news zs).aM=σ.aM+Lu zs/\∀k,k<Lu zs->ι' (σ.aM+k)=h.aM+k
 |[],ι,σ,h,r=>⟨ι,r,mF.refl r,rfl,λk l=>absurd l (Ex _)⟩
 |z::zs,ι,σ,h,r=>by
  obtain⟨r1,u⟩:=r.bf (cs:=fi z) (dP.fi z);rw[ZH]at r1 u;obtain⟨ι',r2,A,C,D⟩:=zJf zs r1;refine⟨ι',r2,u.trans A,?_,λk l=>?_⟩
  .show((σ.bf (fi z)).news zs).aM=_
   rw[C];simp only[cg.bf,Yu];omega
  .cases k with
   |zero=>
    rw[UF,UF,A.inj _ (by simp[cg.bf])];simp[me]
   |succ k=>
    have:=D k (by simpa using l)
    simp only[cg.bf,ct.bf]at this;rw[show σ.aM+(k+1)=σ.aM+1+k by omega,this];omega
def RestC(ι:Nat->Nat)(Z:Nat->Prop)(σ:cg)(h:ct)(Q:Exit->ec->cg->Prop)(u:Exit->Env->ct->Prop):Prop:=
 ∀(x:Exit) (l:ec) (σ':cg) (ι':Nat->Nat) (Z':Nat->Prop) (h':ct),Rel ι' Z' σ' h'->mF ι Z σ h ι' Z' σ' h'->yn Z' h' σ'.aM l->Q x l σ'->u x (uS ι' l) h'
def RestC.later{σ':cg}{Q:Exit->ec->cg->Prop}{l:Exit->Env->ct->Prop}(c:RestC ι Z σ h Q l)(a:mF ι Z σ h ι' Z' σ' h'):RestC ι' Z' σ' h' Q l:=
 λx u σ'' ι'' A eB r b e k=>c x u σ'' ι'' A eB r (a.trans b) e k
def zAK:∀(c:IC) {ι:Nat->Nat} {Z:Nat->Prop} {σ:cg} {h:ct} {E:ec} {Q:Exit->ec->cg->Prop} {D:Exit->Env->ct->Prop},Rel ι Z σ h->yn Z h σ.aM E->vp P c Q E σ->RestC ι Z σ h Q D->vc P c D (uS ι E) h
 | .skip,ι,Z,σ,h,E,Q,D,r,he,u,hr=>hr .normal E σ ι Z h r (mF.refl r) he u
 | .exit id,ι,Z,σ,h,E,Q,D,r,he,u,hr=>hr (.exit id) E σ ι Z h r (mF.refl r) he u
 | .ret,ι,Z,σ,h,E,Q,D,r,he,u,hr=>hr .ret E σ ι Z h r (mF.refl r) he u
 | .region S be,ι,Z,σ,h,E,Q,D,r,he,u,hr=>by
  refine zEq be r he u ?_;intro U σ' ι' Z' h' C a' e' A
  have:=hr .normal _ σ' ι' Z' h' C a' (yn.mk (e'.map S)) A
  rw[zDL,zDK]at this;exact this
 | .tree S t,ι,Z,σ,h,E,Q,D,r,he,u,hr=>by
  refine zCl t r he (recs:=[]) (λx X=>by simp at X) u ?_;intro U σ' ι' Z' h' C a' e' A
  have:=hr .normal _ σ' ι' Z' h' C a' (yn.mk (e'.map S)) A
  rw[zDL,zDK]at this;exact this
 | .draw S zs be,ι,Z,σ,h,E,Q,D,r,he,u,hr=>by
  obtain⟨ι1,r1,O,h1,h2⟩:=zJf zs r
  have:=zEv (nb1:=h.aM) (K1:=λe' h'=>D .normal (Env.mk S (S.map e')) h') be (recs:=[]) (λk u=>⟨by rw[h1];omega,h2 k u⟩) r1 (O.eok he) (λx X=>by simp at X) u ?_
  .rw[O.uS he]at this;exact this
  .intro U σ' ι' Z' h' C a' e' A
   have:=hr .normal _ σ' ι' Z' h' C (O.trans a') (yn.mk (e'.map S)) A
   rw[zDL,zDK]at this;exact this
 | .seq a b,ι,Z,σ,h,E,Q,D,r,he,u,hr=>by
  refine zAK a r he u ?_;intro x U σ' ι' Z' h' C a' e' A;cases x with
  |normal=>exact zAK b C e' A (hr.later a')
  |exit id=>exact hr _ _ _ _ _ _ C a' e' A
  |goto l=>exact hr _ _ _ _ _ _ C a' e' A
  |ret=>exact hr _ _ _ _ _ _ C a' e' A
  |panic ch=>exact hr _ _ _ _ _ _ C a' e' A
  |outgrown=>exact hr _ _ _ _ _ _ C a' e' A
 | .cond c a b,ι,Z,σ,h,E,Q,D,r,he,u,hr=>by
  simp only[vp,vc,<-BU]at u ⊢;cases T:c.pv E<;>rw[T]at u<;>simp only[Qe]at u
  simp only[er];split at u
  .rename_i V;rw[DK V];exact zAK a r he u hr
  .rename_i V;rw[DL V];exact zAK b r he u hr
 | .block id c,ι,Z,σ,h,E,Q,D,r,he,u,hr=>by
  refine zAK c r he u ?_;intro x U σ' ι' Z' h' C a' e' A;cases x with
  |exit my=>
   simp only at A ⊢;split at A
   .rename_i T;rw[DK T];exact hr _ _ _ _ _ _ C a' e' A
   .rename_i T;rw[DL T];exact hr _ _ _ _ _ _ C a' e' A
  |normal=>exact hr _ _ _ _ _ _ C a' e' A
  |goto l=>exact hr _ _ _ _ _ _ C a' e' A
  |ret=>exact hr _ _ _ _ _ _ C a' e' A
  |panic ch=>exact hr _ _ _ _ _ _ C a' e' A
  |outgrown=>exact hr _ _ _ _ _ _ C a' e' A
 | .loop S c,ι,Z,σ,h,E,Q,D,r,he,u,hr=>by
  obtain⟨I,⟨n,h0⟩,jR⟩:=u;obtain⟨Z0,σ0,Hi,r0,a0,v0,e0,i0⟩:=h0.sound r (he.map S);refine⟨λn vs h'=>∃ι' Z' σ' pvs,Rel ι' Z' σ' h'/\mF ι Z σ h ι' Z' σ' h'/\dP Z' h' σ'.aM pvs/\vs=ju ι' pvs/\I n pvs σ',⟨n,ι,Z0,σ0,Hi,r0,a0,v0,(zDK E S).symm.trans e0.symm,i0⟩,?_⟩
  rintro n vs h' ⟨ι',Z',σ',pvs,C,a',hv,rfl,hI⟩
  rw[<-zDL];refine zAK c C (yn.mk hv) (jR n pvs σ' hI) ?_;intro x Y σ'' ι'' vN eB M J G N;cases x with
  |normal=>
   obtain⟨n',ah,xD⟩:=N;obtain⟨Z1,σ1,J4,r1,O,v1,e1,i1⟩:=xD.sound M (G.map S);exact⟨n',ah,ι'',Z1,σ1,J4,r1,a'.trans (J.trans O),v1,(zDK Y S).symm.trans e1.symm,i1⟩
  |exit id=>exact hr _ _ _ _ _ _ M (a'.trans J) G N
  |goto l=>exact hr _ _ _ _ _ _ M (a'.trans J) G N
  |ret=>exact hr _ _ _ _ _ _ M (a'.trans J) G N
  |panic ch=>exact hr _ _ _ _ _ _ M (a'.trans J) G N
  |outgrown=>exact hr _ _ _ _ _ _ M (a'.trans J) G N
def zB0(r:Rel ι Z σ h){E:ec}(u:yn Z h σ.aM E):∀{rs:List x6} {vs:List PV},Zj rs E σ=Dc vs->uk rs (uS ι E) h=Dc (ju ι vs)/\dP Z h σ.aM vs
 |[],vs,l=>by cases l;exact⟨rfl,DJ⟩
 | .tmp t::rs,vs,l=>by
  simp only[Zj,YK]at l;obtain⟨J,l,rfl⟩:=l;obtain⟨A,C⟩:=zB0 r u l;exact⟨by simp only[uk,A,EF,ju,uS],u t,C⟩
 | .cell t a k::rs,vs,l=>by
  simp only[Zj,YJ,YK]at l;obtain⟨v,I,J,l,rfl⟩:=l;obtain⟨A,C⟩:=zB0 r u l;obtain⟨D,G⟩:=zDX r (u t) I;refine⟨?_,G,C⟩;simp only[uk,uS];rw[D];simp only[YP];rw[A];rfl
def zLC{vs:List PV}(l:dP Z h n vs):BZ (ju ι vs)=er ι (vD vs)/\kj Z h n (vD vs):=by
 cases vs with
 |nil=>exact⟨rfl,DJ⟩
 |cons v vs=>
  cases vs with
  |nil=>exact⟨rfl,l.1⟩
  |cons u us=>exact⟨rfl,l⟩
def QC(I:P.follows .mixedOrders=DF){f:FuncId}{E:Func}{u:IFn}(T:P.funcs[f]? = Dc E)(S:cF P E=Dc u){args:List PV}{K:PV->cg->Prop}(U:args.length=Lu u.params)
  (C:vp P u.body (retP u.res K) (ec.mk u.params args) σ):zA P f args σ K:=by
 intro ι Z h r va;refine zKh I T S (by rw[qA];exact U) ?_;rw[<-zDL];refine zAK u.body r (yn.mk va) C ?_;intro x D σ' ι' Z' h' G a' e' A;have fin:fw (Zj u.res D σ') (λvs=>K (vD vs) σ')->fw (uk u.res (uS ι' D) h') λvs=>Up ι Z σ h K (BZ vs) h':=by
  rintro⟨vs,V,C⟩
  obtain⟨J,M⟩:=zB0 G e' V;obtain⟨N,O⟩:=zLC (ι:=ι') M;exact⟨_,J,vD vs,σ',ι',Z',G,a',O,N,C⟩
 cases x with
 |normal=>exact fin A
 |ret=>exact fin A
 |exit id=>exact A.elim
 |goto l=>exact A.elim
 |panic ch=>exact A.elim
 |outgrown=>exact A.elim
def zD{P:Program}(u:P.follows .mixedOrders=DF){f:FuncId}{l:Func}(C:P.funcs[f]? = Dc l){args:List PV}{K:PV->cg->Prop}{σ:cg}{p:List Nat}{r:List x6}{b:IC}(D:vp P b (retP r K) (ec.mk p args) σ)(A:cF P l=Dc ⟨p,r,b⟩:=by conv=>lhs;cbv)(E:args.length=Lu p:=by rfl):zA P f args σ K:=QC u C A E D
def qH{P:Program}(u:P.follows .mixedOrders=DF){f:FuncId}{l:Func}(C:P.funcs[f]? = Dc l){args:List PV}{K:PV->cg->Prop}{σ:cg}{p:List Nat}{r:List x6}{b:IC}(D:vp P b (retP r K) (ec.mk p args) σ)(A:cF P l=Dc ⟨p,r,b⟩:=by conv=>lhs;reduce)(E:args.length=Lu p:=by rfl):zA P f args σ K:=QC u C A E D
end
section
variable{P:Program}{ι ι':Nat->Nat}{Z Z':Nat->Prop}{h h':ct}{σ σ' σ0 σ1 σ2:cg}{K:PV->cg->Prop}
mutual
def oi:PV->List Nat
 | .fz _ (.sl o _ _ _) _ cs=>o::ZR cs
 | .fp (.ptr o _) cs=>(if cs.isEmpty then []else [o])++ZR cs
 | .clo _ a b=>ZR a++ZR b
 | .agg cs=>ZR cs
 | .tup cs=>ZR cs
 |_=>[]
def ZR:List PV->List Nat
 |[]=>[]
 |c::cs=>oi c++ZR cs
end
mutual
def zH4:∀{n:Nat} {v:PV},kj Z h n v->∀o∈oi v,Z o
 |n,.undef,_,o,ho|n,.bool _,_,o,ho|n,.int _ _,_,o,ho|n,.str _,_,o,ho|n,.nilp,_,o,ho|n,.nilf,_,o,ho=>by simp[oi]at ho
 |n,.ptr _ _,_,o,ho|n,.sl _ _ _ _,_,o,ho=>by simp[oi]at ho
 |n,.fz w a len cs,hv,o,ho=>by
  obtain⟨rfl,_,_⟩|⟨D,off,cap,rfl,l,_⟩:=hv.1
  .simp[oi]at ho
  .simp only[oi,YH]at ho;rcases ho with rfl|ho
   .exact l
   .exact QZ hv.2 o ho
 |n,.fp a cs,hv,o,ho=>by
  cases a with
  |ptr D i=>
   simp only[oi,YY]at ho;rcases ho with ho|ho
   .split at ho
    .simp at ho
    .rename_i u;simp only[YT]at ho;subst ho;obtain⟨_,l|⟨G,E,C,A,_⟩⟩:=hv.1
     .cases cs with
      |nil=>exact absurd rfl u
      |cons c cs=>simp[ju]at l
     .cases C;exact A
   .exact QZ hv.2 o ho
  |_=>simp[oi]at ho
 |n,.clo _ a b,hv,o,ho=>by
  simp only[oi,YY]at ho;exact ho.elim (QZ hv.1 o) (QZ hv.2 o)
 |n,.agg cs,hv,o,ho=>QZ (cs:=cs) hv o (by simpa only[oi]using ho)
 |n,.tup cs,hv,o,ho=>QZ (cs:=cs) hv o (by simpa only[oi]using ho)
def QZ:∀{n:Nat} {cs:List PV},dP Z h n cs->∀o∈ZR cs,Z o
 |n,[],_,o,ho=>by simp[ZR]at ho
 |n,c::cs,hv,o,ho=>by
  simp only[ZR,YY]at ho;exact ho.elim (zH4 hv.1 o) (QZ hv.2 o)
end
def Gh(σ0:cg)(K:PV->cg->Prop)(v:PV)(σ1:cg):Prop:=
 PWF σ0->∀(ι:Nat->Nat) (Z:Nat->Prop) (h:ct) (b:Nat),Rel ι Z σ1 h->kj Z h σ1.aM v->σ0.aM<=σ1.aM->σ0.top<=b->(∀s cs,σ0.aM<=s->σ1.bt s=Dc cs->b<=ι s)->(∀s,s<σ0.aM->σ0.bt s=none->σ1.bt s=none)->
  ∃v2 σ2 ι2 Z2,Rel ι2 Z2 σ2 h/\kj Z2 h σ2.aM v2/\σ0.aM<=σ2.aM/\(∀s,s<σ0.aM->ι2 s=ι s)/\(∀o,Z o->Z2 o)/\(∀s cs,σ0.aM<=s->σ2.bt s=Dc cs->b<=ι2 s)/\(∀s,s<σ0.aM->σ0.bt s=none->σ2.bt s=none)/\er ι2 v2=er ι v/\K v2 σ2
def zA.gh{f:FuncId}{args:List PV}(c:zA P f args σ (Gh σ K)):zA P f args σ K:=by
 intro ι Z h r va;refine(c ι Z h r va).mono ?_
 rintro _ h' ⟨pv,σ',ι',Z',S,a',O,rfl,k⟩
 obtain⟨T,σ2,ι2,u,A,C,D,E,G,I,J,M,N⟩:=k r.pwf ι' Z' h' h.aM S O a'.aM r.top (λs cs hs l=>a'.fresh s cs hs l) a'.dead;exact⟨T,σ2,ι2,u,A,⟨D,a'.hnext,λs hs=>(E s hs).trans (a'.inj s hs),λo l=>⟨G o (a'.z o l).1,(a'.z o l).2⟩,J,I⟩,C,M.symm,N⟩
def zA.pwf{f:FuncId}{args:List PV}(c:PWF σ->zA P f args σ K):zA P f args σ K:=λι Z h r l=>c r.pwf ι Z h r l
def zA.nil0{f:FuncId}{w:Bool}{a:AV}{l:Nat}{cs:List PV}{rest:List PV}(c:(ZX a=DF->l=0/\cs=[])->zA P f (.fz w a l cs::rest) σ K):zA P f (.fz w a l cs::rest) σ K:=λι Z h r A=>c (λD=>by
 rw[zNd D]at A;obtain⟨_,u,C⟩|⟨_,_,_,u,_⟩:=A.1.1
 .exact⟨u,YU (by rw[<-qA (ι:=vq),C];rfl)⟩
 .cases u) ι Z h r A
def Gh.ret{v:PV}(k:K v σ1):Gh σ0 K v σ1:=λ_ ι Z h b r A u C l hd=>⟨v,σ1,ι,Z,r,A,u,λ_ _=>rfl,λ_ h=>h,l,hd,rfl,k⟩
def Gh.cut{v:PV}(C:σ2.aM=σ0.aM)(O:σ2.top<=σ1.top)(l:∀s cs,σ2.bt s=Dc cs->s<σ0.aM/\σ1.bt s=Dc cs/\(σ0.bt s=Dc cs\/hZ σ0.aM cs))(N:Bel σ0.aM v)(k:K v σ2):Gh σ0 K v σ1:=by
 intro w ι Z h b r S Y h2 J M;refine⟨v,σ2,ι,Z,⟨r.hwf,r.Cz,UJ O r.top,λs hs=>?_,λs cs hs=>?_,λs D cs A hs E hi=>r.inj s D cs A (l s cs hs).2.1 (l D A E).2.1 hi⟩,by rw[C];exact S.of_bel N,af,λ_ _=>rfl,λ_ h=>h,λs cs hs u=>?_,λs hs u=>?_,rfl,k⟩
 .cases u:σ2.bt s with
  |none=>rfl
  |some cs=>have:=(l s cs u).1;omega
 .obtain⟨X,G,I⟩:=l s cs hs;obtain⟨T,U,V⟩:=r.bt s cs G;exact⟨T,by rw[C];exact U.of_bel (I.elim (λg=>w.bel s cs g) id),V⟩
 .exact J s cs hs (l s cs u).2.1
 .cases lA:σ2.bt s with
  |none=>rfl
  |some cs=>have:=(l s cs lA).2.1;rw[M s hs u]at this;cases this
structure cT(σ0 σ1:cg):Prop where
 aM:σ0.aM<=σ1.aM
 top:σ0.top<=σ1.top
 bt:∀s,s<σ0.aM->σ1.bt s=σ0.bt s
def cT.refl(σ:cg):cT σ σ:=⟨na _,na _,λ_ _=>rfl⟩
def cT.trans(a:cT σ0 σ1)(b:cT σ1 σ2):cT σ0 σ2:=⟨UJ a.aM b.aM,UJ a.top b.top,λs hs=>(b.bt s (Yw hs a.aM)).trans (a.bt s hs)⟩
def cT.bf(a:cT σ0 σ1)(cs:List PV):cT σ0 (σ1.bf cs):=
 ⟨by have:=a.aM;simp only[cg.bf];omega,a.top,λs hs=>by have:=a.aM;simp only[cg.bf];rw[DL af];exact a.bt s hs⟩
def cT.set(a:cT σ0 σ1){s:Nat}(hs:σ0.aM<=s)(cs:List PV):cT σ0 (σ1.set s cs):=
 ⟨a.aM,a.top,λt l=>by simp only[cg.set];rw[DL af];exact a.bt t l⟩
def cT.kill(a:cT σ0 σ1){s:Nat}(hs:σ0.aM<=s):cT σ0 (σ1.kill s):=
 ⟨a.aM,a.top,λt l=>by simp only[cg.kill];rw[DL af];exact a.bt t l⟩
def cT.up(a:cT σ0 σ1){t:Nat}(l:σ1.top<=t):cT σ0 (σ1.up t):=⟨a.aM,UJ a.top l,a.bt⟩
def Gh.fin0T{v:PV}{t:Nat}(u:cT σ0 σ1)(A:t<=σ1.top)(l:Bel σ0.aM v)(k:PWF σ0->K v (σ0.up t)):Gh σ0 K v σ1:=λw=>
 Gh.cut (σ2:=σ0.up t) rfl A (λs cs hs=>⟨w.lt hs,by rw[u.bt s (w.lt hs)];exact hs,.inl hs⟩) l (k w) w
def Gh.fin0{v:PV}(l:cT σ0 σ1)(u:Bel σ0.aM v)(k:K v σ0):Gh σ0 K v σ1:=Gh.fin0T (t:=σ0.top) l l.top u λ_=>k
def Gh.np{s off l:Nat}{cap:jZ}{cs:List PV}(E:cT σ0 σ1)(hs:σ1.bt s=Dc cs)(M:σ0.aM<=s)(O:hZ σ0.aM cs)(k:K (.sl σ0.aM off l cap) (σ0.bf cs)):Gh σ0 K (.sl s off l cap) σ1:=by
 intro w ι Z h b r hv h1 h2 N h4;obtain⟨V,X,Y⟩:=r.bt s cs hs;have hi:∀{t:Nat} {C:List PV},σ0.bt t=Dc C->ι t≠ι s:=λ{t C} u A=>by
  have:=r.inj t s C cs (by rw[E.bt t (w.lt u)];exact u) hs A
  have:=w.lt u
  omega
 have conv:∀t,t<σ0.aM->me ι σ0.aM (ι s) t=ι t:=λt u=>by simp[me,Ev u]
 have I:dP Z h σ0.aM cs:=X.of_bel O;refine⟨.sl σ0.aM off l cap,σ0.bf cs,me ι σ0.aM (ι s),Z,⟨r.hwf,r.Cz,UJ E.top r.top,λt u=>?_,λt C u=>?_,λt t' C qn u D A=>?_⟩,YM _,by simp[cg.bf],conv,λ_ h=>h,λt C u hd=>?_,λt u hd=>?_,(by simp[er,me]),k⟩
 .simp only[cg.bf]at u ⊢;rw[DL af];exact w.wf t af
 .simp only[cg.bf]at u ⊢;by_cases e:t=σ0.aM
  .subst e;rw[DK rfl]at u;cases u;rw[Z4 conv I];simp only[me,if_true];exact⟨V,I.up (UW _),Y⟩
  .rw[DL e]at u;have G:=w.lt u;obtain⟨S,T,U⟩:=r.bt t C (by rw[E.bt t G];exact u);have J:=T.of_bel (w.bel t C u);rw[conv t G,Z4 conv J];exact⟨S,J.up (UW _),U⟩
 .simp only[cg.bf]at u D;by_cases e:t=σ0.aM
  .by_cases e':t'=σ0.aM
   .rw[e,e']
   .rw[DL e']at D;rw[conv t' (w.lt D)]at A;subst e;simp only[me,if_true]at A;exact absurd A.symm (hi D)
  .rw[DL e]at u;rw[conv t (w.lt u)]at A;by_cases e':t'=σ0.aM
   .subst e';simp only[me,if_true]at A;exact absurd A (hi u)
   .rw[DL e']at D;rw[conv t' (w.lt D)]at A;exact r.inj t t' C qn (by rw[E.bt t (w.lt u)];exact u) (by rw[E.bt t' (w.lt D)];exact D) A
 .simp only[cg.bf]at hd;by_cases e:t=σ0.aM
  .subst e;simp only[me,if_true];exact N s cs M hs
  .rw[DL e]at hd;have:=w.lt hd;omega
 .simp only[cg.bf];rw[DL af];exact hd
def Gh.freeze{v:PV}{s:Nat}{cs:List PV}(hs:σ1.bt s=Dc cs)(h0:σ0.aM<=s)(hb:hZ 0 cs)
  (k:∀o,σ0.top<=o->o∉ZR cs->o∉oi v->Gh σ0 K (sb s o cs v) ((σ1.kill s).up (max σ1.top (o+1)))):Gh σ0 K v σ1:=by
 intro w ι Z h b r E h1 h2 D h4;obtain⟨r',C,u,G⟩:=r.freeze hs hb;have kK:=D s cs h0 hs;have conv:∀{t:Nat} {a:List PV},(σ1.kill s).bt t=Dc a->t≠s/\σ1.bt t=Dc a:=λ{t a} l=>by
  simp only[cg.kill]at l;split at l
  .cases l
  .exact⟨by assumption,l⟩
 obtain⟨v2,σ2,ι2,I,M,N,O,S,T,U,V,X,Y⟩:=k (ι s) af (λA=>G (QZ C _ A)) (λA=>G (zH4 E _ A)) w ι (λo=>Z o\/o=ι s) h b r'
  (kj.sb (.inr rfl) u (C.mono (λo u=>⟨.inl u,rfl⟩) (na _)) (E.mono (λo u=>⟨.inl u,rfl⟩) (na _))) h1 h2 (λt J l hd=>D t J l (conv hd).2)
  (λt l hd=>by simp only[cg.kill,cg.up];split;rfl;exact h4 t l hd)
 exact⟨v2,σ2,ι2,I,M,N,O,S,λo u=>T o (.inl u),U,V,X.trans (er_sb rfl v),Y⟩
def Gh.finZ{s l:Nat}{cap:jZ}{cs:List PV}(E:cT σ0 σ1)(hs:σ1.bt s=Dc cs)(u:σ0.aM<=s)(C:hZ 0 cs)(A:gk cap l=DF)
  (k:∀o,σ0.top<=o->o∉ZR cs->∀t,o<t->σ1.top<=t->K (.fz DF (.sl o 0 l cap) l cs) (σ0.up t)):Gh σ0 K (.sl s 0 l cap) σ1:=
 Gh.freeze hs u C λo G D _=>by
  simp only[sb];rw[DK ⟨DJ,DJ,A⟩];exact Gh.fin0T (t:=max σ1.top (o+1)) ((E.kill u).up (by simp only[cg.kill];omega)) (na _) trivial λw=>k o G D _ af af
def Gh.finF{s l:Nat}{cap:jZ}{cs:List PV}(D:cT σ0 σ1)(hs:σ1.bt s=Dc cs)(u:σ0.aM<=s)(C:hZ 0 cs)(A:gk cap l=DF)
  (k:∀o,K (.fz DF (.sl o 0 l cap) l cs) σ0):Gh σ0 K (.sl s 0 l cap) σ1:=
 Gh.freeze hs u C λo G E _=>by
  simp only[sb];rw[DK ⟨DJ,DJ,A⟩];exact Gh.fin0 ((D.kill u).up (by simp only[cg.kill];omega)) trivial (k o)
def zA.frz{f:FuncId}{args:List PV}{s:Nat}{cs:List PV}(hs:σ.bt s=Dc cs)(E:hZ 0 cs)(c:∀o,zA P f (kq s o cs args) (σ.kill s) K):zA P f args σ K:=by
 intro ι Z h r va;obtain⟨A,D,u,T⟩:=r.freeze hs E;have r2:Rel ι (λo=>Z o\/o=ι s) (σ.kill s) h:=⟨A.hwf,A.Cz,by have:=r.top;exact this,A.wf,A.bt,A.inj⟩
 have C:∀o,Z o->(Z o\/o=ι s)/\h.bt o=h.bt o:=λo u=>⟨.inl u,rfl⟩
 have S:(σ.kill s).aM=σ.aM:=rfl
 have:=c (ι s) ι _ h r2 (dP.kq (.inr rfl) u (D.mono C (na _)) (va.mono C (na _)))
 rw[zAA rfl]at this;refine this.mono ?_
 rintro v h' ⟨pv,σ',ι',Z',J,l,M,N,O⟩
 exact⟨pv,σ',ι',Z',J,⟨l.aM,l.hnext,l.inj,λo u=>l.z o (.inl u),λt I G=>l.dead t I (by simp only[cg.kill];split;rfl;exact G),l.fresh⟩,M,N,O⟩
end
section
variable{P:Program}{Q:Exit->ec->cg->Prop}{e:ec}{h:cg}{K:ec->cg->Prop}{KA:PV->cg->Prop}{nb nr:Nat}
def zRS:vp P .skip Q e h=Q .normal e h:=rfl
def zNz(S:List Nat)(l:List II):vp P (.region S l) Q e h=RVp P l e h λe' h'=>Q .normal (ec.mk S (S.map e')) h':=rfl
def zHW(S:List Nat)(t:OT):vp P (.tree S t) Q e h=TVp P t [] e h λe' h'=>Q .normal (ec.mk S (S.map e')) h':=rfl
def Qb(recs:List pk):TVp P .done recs e h K=K e h:=rfl
def Qa(recs:List pk):TVp P .none recs e h K=True:=rfl
def z9(d:Option Nat)(op:qk)(g:Option (Nat×Bool))(q:Bool)(i:Nat)(c:List Nat)(nx:OT)(recs:List pk):TVp P (.q ⟨⟨d,op,q,g⟩,i,c⟩ nx) recs e h K=fw (gqp 0 0 ⟨d,op,q,g⟩ e h) λv=>TVp P nx (qE ⟨⟨d,op,q,g⟩,i,c⟩ e v++recs) (e.put d v) h K:=rfl
def AP(d:Option Nat)(op:qk)(g:Option (Nat×Bool))(q:Bool)(i:Nat)(c:List Nat)(nx alt:OT)(recs:List pk):TVp P (.e ⟨⟨d,op,q,g⟩,i,c⟩ nx alt) recs e h K=((gep P ⟨d,op,q,g⟩ e h λv h'=>Qz c recs h'/\TVp P nx recs (e.put d v) h' K)/\TVp P alt recs e h K):=rfl
def zRU(S:List Nat)(zs:List (List AV))(l:List DI):vp P (.draw S zs l) Q e h=DVp P h.aM zs.length l [] e (h.news zs) λe' h'=>Q .normal (ec.mk S (S.map e')) h':=rfl
def zSf(a b:IC):vp P (.seq a b) Q e h=vp P a (λx e' h'=>match x with | .normal=>vp P b Q e' h'|x=>Q x e' h') e h:=rfl
def zRV(c:IX)(a b:IC):vp P (.cond c a b) Q e h=Qe (c.pv e) (vp P a Q e h) (vp P b Q e h):=rfl
def zP1(id:Nat)(c:IC):vp P (.block id c) Q e h=vp P c (λx e' h'=>match x with | .exit my=>if my=id then Q .normal e' h' else Q (.exit my) e' h'|x=>Q x e' h') e h:=rfl
def zRT(id:Nat):vp P (.exit id) Q e h=Q (.exit id) e h:=rfl
def zSg:vp P .ret Q e h=Q .ret e h:=rfl
def zSX:RVp P [] e h K=K e h:=rfl
def RVp_q(d:Option Nat)(op:qk)(g:Option (Nat×Bool))(r:List II):RVp P (⟨d,op,DF,g⟩::r) e h K=fw (gqp 0 0 ⟨d,op,DF,g⟩ e h) λv=>RVp P r (e.put d v) h K:=rfl
def RVp_e(d:Option Nat)(op:qk)(g:Option (Nat×Bool))(r:List II):RVp P (⟨d,op,false,g⟩::r) e h K=gep P ⟨d,op,false,g⟩ e h λv h'=>RVp P r (e.put d v) h' K:=rfl
def zSa(recs:List pk):DVp P nb nr [] recs e h K=K e h:=rfl
def DVp_q(d:Option Nat)(op:qk)(g:Option (Nat×Bool))(i:Nat)(c:List Nat)(r:List DI)(recs:List pk):DVp P nb nr (⟨⟨d,op,DF,g⟩,i,c⟩::r) recs e h K=fw (gqp nb nr ⟨d,op,DF,g⟩ e h) λv=>DVp P nb nr r (qE ⟨⟨d,op,DF,g⟩,i,c⟩ e v++recs) (e.put d v) h K:=rfl
def DVp_e(d:Option Nat)(op:qk)(g:Option (Nat×Bool))(i:Nat)(c:List Nat)(r:List DI)(recs:List pk):DVp P nb nr (⟨⟨d,op,false,g⟩,i,c⟩::r) recs e h K=gep P ⟨d,op,false,g⟩ e h λv h'=>Qz c recs h'/\DVp P nb nr r recs (e.put d v) h' K:=rfl
def zQ1(d:Option Nat)(op:qk)(q:Bool):gqp nb nr ⟨d,op,q,none⟩ e h=qp nb nr op e h:=rfl
def zQ0(d:Option Nat)(op:qk)(q:Bool)(t:Nat)(b:Bool):gqp nb nr ⟨d,op,q,Dc (t,b)⟩ e h=zAT (e t) b (qp nb nr op e h):=rfl
def zQ3(d:Option Nat)(op:qk)(q:Bool):gep P ⟨d,op,q,none⟩ e h KA=ep P op e h KA:=rfl
def zQ2(d:Option Nat)(op:qk)(q:Bool)(t:Nat)(b:Bool):gep P ⟨d,op,q,Dc (t,b)⟩ e h KA=Qn (e t) b (ep P op e h KA) (KA (.tup []) h):=rfl
def zK2(a b:Prop):Qe (.bool DF) a b=a:=rfl
def zJY(a b:Prop):Qe (.bool false) a b=b:=rfl
def zMy(c:Prop)[Decidable c](a b:Prop):Qe (.bool (decide c)) a b=if c then a else b:=by by_cases x:c<;>simp[Qe,x]
def zK3(c:Prop)[Decidable c](a b:Prop):Qe (.bool (!decide c)) a b=if c then b else a:=by by_cases x:c<;>simp[Qe,x]
def zJW(c b:Bool)(x y:Prop):Qn (.bool c) b x y=if c=b then x else y:=rfl
def zJU(c b:Bool)(x:Option PV):zAT (.bool c) b x=if c=b then x else Dc (.tup []):=rfl
def zJT(b:Bool)(x:Option PV):zAT (.tup []) b x=Dc (.tup []):=rfl
def zJV(b:Bool)(x y:Prop):Qn (.tup []) b x y=y:=rfl
def pv_t(n:Nat):(IX.t n).pv e=e n:=rfl
def pv_c(v:AV):(IX.c v).pv e=lb v:=rfl
def zQR(s:Nat)(S:List Nat)(v:PV)(vs:List PV)(t:Nat):ec.mk (s::S) (v::vs) t=if t=s then v else ec.mk S vs t:=rfl
def zOT(d:Nat)(v:PV)(t:Nat):e.put (Dc d) v t=if t=d then v else e t:=rfl
def zOU(v:PV):e.put none v=e:=rfl
def qp_mv(x:IX):qp nb nr (.mv x) e h=Dc (x.pv e):=rfl
def zRd(c a b:IX):qp nb nr (.pick c a b) e h=pPick (c.pv e) (a.pv e) (b.pv e):=rfl
def zSo(op:BinOp)(l:CP)(x y:IX):qp nb nr (.bin op l x y) e h=j7 op l (x.pv e) (y.pv e):=rfl
def qp_un(op:UnOp)(x:IX):qp nb nr (.un op x) e h=pun op (x.pv e):=rfl
def zRf(k:IntKind)(x:IX):qp nb nr (.conv k x) e h=pConv k (x.pv e):=rfl
def zKw(x:IX):qp nb nr (.nilCheck x) e h=pNil (x.pv e):=rfl
def zQH(z:List AV)(l:List (Nat×Nat×IX)):qp nb nr (.build z l) e h=(yy (fi z) (l.map λp=>(p.1,p.2.1,p.2.2.pv e))).map .agg:=rfl
def zQG(a:Bool)(n off:Nat)(x:IX):qp nb nr (.field a n off x) e h=zEG a n off (x.pv e):=rfl
def zJH(off:Nat)(x:IX):qp nb nr (.fieldAddr off x) e h=zAg off (x.pv e):=rfl
def zJG(sz:Nat)(x i:IX):qp nb nr (.indexAddr sz x i) e h=zC9 sz (x.pv e) (i.pv e):=rfl
def zKy(x i:IX):qp nb nr (.indexStr x i) e h=zE3 (x.pv e) (i.pv e):=rfl
def zMs(x:IX)(i:Nat):qp nb nr (.extract x i) e h=zDb (x.pv e) i:=rfl
def zSm(x:IX):qp nb nr (.len x) e h=mo (x.pv e):=rfl
def zON(x:IX):qp nb nr (.lenStr x) e h=zE2 (x.pv e):=rfl
def zSn(x:IX):qp nb nr (.cap x) e h=pCap (x.pv e):=rfl
def zQF(sz:Nat)(x:IX)(lo hi mx:Option IX):qp nb nr (.slice sz x lo hi mx) e h=Zt sz (x.pv e) (lo.map (·.pv e)) (hi.map (·.pv e)) (mx.map (·.pv e)):=rfl
def zKv(x:IX)(lo hi:Option IX):qp nb nr (.sliceStr x lo hi) e h=zCW (x.pv e) (lo.map (·.pv e)) (hi.map (·.pv e)):=rfl
def zOM(mx:Bool)(x y:IX):qp nb nr (.maxmin mx x y) e h=zC8 mx (x.pv e) (y.pv e):=rfl
def zKx(f:FuncId)(a b:List IX):qp nb nr (.makeFunc f a b) e h=Dc (.clo f (a.map (·.pv e)) (b.map (·.pv e))):=rfl
def zRe(a:Bool)(n:Nat)(x:IX):qp nb nr (.load a n x) e h=Cy a n (x.pv e) h:=rfl
def zSl(k:Nat):qp nb nr (.rev k) e h=if k<nr then Dc (.ptr (nb+k) 0)else none:=rfl
def zRc(k n:Nat):qp nb nr (.revS k n) e h=if k<nr then Dc (.sl (nb+k) 0 n (.b6 n))else none:=rfl
def zRC(z:List AV):ep P (.alloc z) e h KA=KA (.ptr h.aM 0) (h.bf (fi z)):=rfl
def zTD(x:IX):ep P (.box x) e h KA=((x.pv e).cells.all PV.one=DF/\KA (.ptr h.aM 0) (h.bf (x.pv e).cells)):=rfl
def zNi(sz len:Nat)(z:List AV)(l:List (Nat×Nat×IX)):ep P (.buildSl sz len z l) e h KA=fw (yy (fi (iU z len)) (l.map λp=>(p.1,p.2.1,p.2.2.pv e))) λcs=>KA (.sl h.aM 0 len (.b6 len)) (h.bf cs):=rfl
def zGj(n:Nat)(x v:PV)(h:cg)(KA:PV->cg->Prop):Prop:=
 match x with
 | .ptr s i=>v.cells.length=n/\fw (h.wr s i v.cells) λh'=>KA .undef h'
 |_=>False
def pMake(sz bytes:Nat)(z:List AV)(l c:PV)(h:cg)(KA:PV->cg->Prop):Prop:=
 match l,c with
 | .int _ l,.int _ c=>(0<=l/\l<=c/\c*bytes<=140737488355328/\c<=9223372036854775807)/\KA (.sl h.aM 0 l.toNat (.b6 c.toNat)) (h.bf (fi (iU z c.toNat)))
 |_,_=>False
def zDA(sz bytes:Nat)(z:List AV)(s n:PV)(h:cg)(KA:PV->cg->Prop):Prop:=
 match s,n with
 | .fz _ .b8 _ _,.int _ n=>(0<=n/\n*bytes<=140737488355328/\n<=4611686018427387904)/\if 0<n then KA (.sl h.aM 0 n.toNat (.grown sz)) (h.bf (fi (iU z n.toNat)))else KA (.fz DF .b8 0 []) h
 | .sl s off len c,.int _ n=>(0<=n/\n*bytes<=140737488355328/\n<=4611686018427387904)/\fw (if 0<n then yA sz bytes h (.sl s off len c) (fi (iU z n.toNat)) n.toNat else(B3 (.sl s off len c)).map λv=>(v,h)) λp=>KA p.1 p.2
 |_,_=>False
def zGk(P:Program)(f:PV)(args:List PV)(h:cg)(KA:PV->cg->Prop):Prop:=
 match f with
 | .clo f first cR=>okF P f=DF/\zA P f (first++args++cR) h KA
 |_=>False
def zRA(n:Nat)(x v:IX):ep P (.store n x v) e h KA=zGj n (x.pv e) (v.pv e) h KA:=rfl
def zM9(n s i:Nat)(v:PV):zGj n (.ptr s i) v h KA=(Lu v.cells=n/\fw (h.wr s i v.cells) λh'=>KA .undef h'):=rfl
def zPa(sz bytes:Nat)(z:List AV)(l c:IX):ep P (.makeSl sz bytes z l c) e h KA=pMake sz bytes z (l.pv e) (c.pv e) h KA:=rfl
def zLi(sz bytes:Nat)(z:List AV)(s n:IX):ep P (.appendMk sz bytes z s n) e h KA=zDA sz bytes z (s.pv e) (n.pv e) h KA:=rfl
def zLH(sz bytes:Nat)(z:List AV)(w:Bool)(l:Nat)(cs:List PV)(k:IntKind)(n:Int):zDA sz bytes z (.fz w .b8 l cs) (.int k n) h KA=((0<=n/\n*bytes<=140737488355328/\n<=4611686018427387904)/\if 0<n then KA (.sl h.aM 0 n.toNat (.grown sz)) (h.bf (fi (iU z n.toNat)))else KA (.fz DF .b8 0 []) h):=rfl
def zOu(sz bytes:Nat)(z:List AV)(s off len:Nat)(c:jZ)(k:IntKind)(n:Int):zDA sz bytes z (.sl s off len c) (.int k n) h KA=((0<=n/\n*bytes<=140737488355328/\n<=4611686018427387904)/\fw (if 0<n then yA sz bytes h (.sl s off len c) (fi (iU z n.toNat)) n.toNat else(B3 (.sl s off len c)).map λv=>(v,h)) λp=>KA p.1 p.2):=rfl
def zOp(sz bytes:Nat)(z:List AV)(k u:IntKind)(l c:Int):pMake sz bytes z (.int k l) (.int u c) h KA=((0<=l/\l<=c/\c*bytes<=140737488355328/\c<=9223372036854775807)/\KA (.sl h.aM 0 l.toNat (.b6 c.toNat)) (h.bf (fi (iU z c.toNat)))):=rfl
def zPb(sz bytes:Nat)(s x:IX):ep P (.append sz bytes s x) e h KA=fw (qL sz bytes h (s.pv e) (x.pv e)) λp=>KA p.1 p.2:=rfl
def zSP(sz:Nat)(d s:IX):ep P (.copy sz d s) e h KA=fw (Az sz h (d.pv e) (s.pv e)) λp=>KA p.1 p.2:=rfl
def zSQ(f:FuncId)(args:List IX):ep P (.call f args) e h KA=zA P f (args.map (·.pv e)) h KA:=rfl
def zA7(x:IX):ep P (.strOf x) e h KA=fw (zCD h (x.pv e)) λs=>KA (.str s) h:=rfl
def zRB(f:IX)(args:List IX):ep P (.callV f args) e h KA=zGk P (f.pv e) (args.map (·.pv e)) h KA:=rfl
def zND(f:FuncId)(a b args:List PV):zGk P (.clo f a b) args h KA=(okF P f=DF/\zA P f (a++args++b) h KA):=rfl
def zQn:lb .undef=.undef:=rfl
def of_bool(b:Bool):lb (.bool b)=.bool b:=rfl
def of_int(k:IntKind)(n:Int):lb (.int k n)=.int k n:=rfl
def zSw(s:List UInt8):lb (.str s)=.str s:=rfl
def zRz:lb .nilp=.nilp:=rfl
def zR0:lb .nilf=.nilf:=rfl
def zRy:lb .b8=.fz DF .b8 0 []:=rfl
def zSx(f:FuncId)(a b:List AV):lb (.clo f a b)=.clo f (fi a) (fi b):=rfl
def zSy(a:List AV):lb (.agg a)=.agg (fi a):=rfl
def zRx:fi []=[]:=rfl
def zQm(c:AV)(cs:List AV):fi (c::cs)=lb c::fi cs:=rfl
def zL8(n:Nat)(c:AV):fi (Ep n c)=Ep n (lb c):=by rw[zIE,List.map_replicate]
def zQg(k:IntKind)(l:CP)(a b:Int):j7 .add l (.int k a) (.int k b)=Dc (.int k (k.wrap (a+b))):=by simp[j7,vT,xW,lb]
def zQW(k:IntKind)(l:CP)(a b:Int):j7 .sub l (.int k a) (.int k b)=Dc (.int k (k.wrap (a-b))):=by simp[j7,vT,xW,lb]
def zQa(k:IntKind)(l:CP)(a b:Int):j7 .mul l (.int k a) (.int k b)=Dc (.int k (k.wrap (a*b))):=by simp[j7,vT,xW,lb]
def zQf(k:IntKind)(l:CP)(a b:Int):j7 .eql l (.int k a) (.int k b)=Dc (.bool (decide (a=b))):=by simp[j7,vT,xW,lb]
def zQZ(k:IntKind)(l:CP)(a b:Int):j7 .neq l (.int k a) (.int k b)=Dc (.bool (!decide (a=b))):=by simp[j7,vT,xW,lb]
def zQb(k:IntKind)(l:CP)(a b:Int):j7 .lss l (.int k a) (.int k b)=Dc (.bool (decide (a<b))):=by simp[j7,vT,xW,lb]
def zQc(k:IntKind)(l:CP)(a b:Int):j7 .leq l (.int k a) (.int k b)=Dc (.bool (decide (a<=b))):=by simp[j7,vT,xW,lb]
def zQd(k:IntKind)(l:CP)(a b:Int):j7 .gtr l (.int k a) (.int k b)=Dc (.bool (decide (b<a))):=by simp[j7,vT,xW,lb]
def zQe(k:IntKind)(l:CP)(a b:Int):j7 .geq l (.int k a) (.int k b)=Dc (.bool (decide (b<=a))):=by simp[j7,vT,xW,lb]
def zQY(k:IntKind)(l:CP)(a b:Int):j7 .quo l (.int k a) (.int k b)=if b=0 then none else Dc (.int k (k.wrap (a.tdiv b))):=by simp only[j7,vT,xW,if_true];split<;>rfl
def zQX(k:IntKind)(l:CP)(a b:Int):j7 .rem l (.int k a) (.int k b)=if b=0 then none else Dc (.int k (a.tmod b)):=by simp only[j7,vT,xW,if_true];split<;>rfl
def zM7(n:Nat)(xs ys:List PV):j7 .eql (.ints n) (.agg xs) (.agg ys)=if xs.length=n/\Lu ys=n then(vE xs ys).bind λr=>Dc (.bool r)else none:=rfl
def zOk:vE [] []=Dc DF:=rfl
def zM8(k:IntKind)(a b:Int)(xs ys:List PV):vE (.int k a::xs) (.int k b::ys)=(vE xs ys).map λr=>decide (a=b) && r:=by simp[vE]
def zOj(a b:Bool):j7 .eql .bool (.bool a) (.bool b)=Dc (.bool (a == b)):=rfl
def zOi(a b:Bool):j7 .neq .bool (.bool a) (.bool b)=Dc (.bool !(a == b)):=rfl
def zM6(w u:Bool)(a:AV)(n n':Nat)(cs l:List PV):j7 .eql .slice (.fz w a n cs) (.fz u .b8 n' l)=Dc (.bool (ZX a)):=rfl
def zLB(w u:Bool)(a:AV)(n n':Nat)(cs l:List PV):j7 .neq .slice (.fz w a n cs) (.fz u .b8 n' l)=Dc (.bool (!ZX a)):=rfl
def zM5(s o n:Nat)(c:jZ)(u:Bool)(n':Nat)(l:List PV):j7 .eql .slice (.sl s o n c) (.fz u .b8 n' l)=Dc (.bool false):=rfl
def zLA(s o n:Nat)(c:jZ)(u:Bool)(n':Nat)(l:List PV):j7 .neq .slice (.sl s o n c) (.fz u .b8 n' l)=Dc (.bool DF):=rfl
def zK9(l:CP)(a b:List UInt8):j7 .add l (.str a) (.str b)=if a.length+Lu b<=9223372036854775807 then Dc (.str (a++b))else none:=by simp only[j7,astr];split<;>rfl
def zK8(l:CP)(a b:List UInt8):j7 .eql l (.str a) (.str b)=Dc (.bool (a == b)):=rfl
def zK7(l:CP)(a b:List UInt8):j7 .neq l (.str a) (.str b)=Dc (.bool !(a == b)):=rfl
def zLf:ZX .b8=DF:=rfl
def zPR(o f n:Nat)(c:jZ):ZX (.sl o f n c)=false:=rfl
def zRk(k:IntKind)(n:Int):pun .neg (.int k n)=Dc (.int k (k.wrap (0-n))):=rfl
def zRj(b:Bool):pun .not (.bool b)=Dc (.bool !b):=rfl
def zNA(a b:PV):pPick (.bool DF) a b=Dc a:=rfl
def zLD(a b:PV):pPick (.bool false) a b=Dc b:=rfl
def zOs(k l:IntKind)(n:Int):pConv k (.int l n)=Dc (.int k (k.wrap n)):=rfl
def zQh(s i:Nat):pNil (.ptr s i)=Dc (.ptr s i):=rfl
def zQi(f:FuncId)(a b:List PV):pNil (.clo f a b)=Dc (.clo f a b):=rfl
def zRt(a:AV)(c:PV)(cs:List PV):pNil (.fp a (c::cs))=Dc (.fp a (c::cs)):=rfl
def zNC(n off:Nat)(cs:List PV):zEG DF n off (.agg cs)=Dc (.agg ((cs.drop off).take n)):=rfl
def zNB(n off:Nat)(cs:List PV):zEG false n off (.agg cs)=cs[off]?:=rfl
def zHl(off s i:Nat):zAg off (.ptr s i)=Dc (.ptr s (i+off)):=rfl
def zIf(off:Nat)(a:AV)(c:PV)(cs:List PV):zAg off (.fp a (c::cs))=Dc (.fp (pAdd a off) ((c::cs).drop off)):=rfl
def zOq(sz s off len:Nat)(c:jZ)(k:IntKind)(n:Int):zC9 sz (.sl s off len c) (.int k n)=if 0<=n/\n<len then Dc (.ptr s (off+n.toNat*sz))else none:=rfl
def zOr(sz:Nat)(w:Bool)(a:AV)(len:Nat)(cs:List PV)(k:IntKind)(n:Int):zC9 sz (.fz w a len cs) (.int k n)=if 0<=n/\n<len then Dc (.fp (pAt a (n.toNat*sz)) (cs.drop (n.toNat*sz)))else none:=rfl
def zLG(s:List UInt8)(k:IntKind)(n:Int):zE3 (.str s) (.int k n)=if 0<=n then(s[n.toNat]?).map λc=>.int .u8 c.toNat else none:=rfl
def zJa(vs:List PV)(i:Nat):zDb (.tup vs) i=vs[i]?:=rfl
def zRv(w:Bool)(a:AV)(n:Nat)(cs:List PV):mo (.fz w a n cs)=Dc (.int .i64 n):=rfl
def zRu(s o n:Nat)(c:jZ):mo (.sl s o n c)=Dc (.int .i64 n):=rfl
def zLF(s:List UInt8):zE2 (.str s)=Dc (.int .i64 s.length):=rfl
def zOt(w:Bool)(l:Nat)(cs:List PV):pCap (.fz w .b8 l cs)=Dc (.int .i64 0):=rfl
def zRw(s o n c:Nat):pCap (.sl s o n (.b6 c))=Dc (.int .i64 c):=rfl
def zLE(mx:Bool)(k:IntKind)(a b:Int):zC8 mx (.int k a) (.int k b)=Dc (.int k (if mx=DF then max a b else min a b)):=by simp[zC8]
def zOc(n s i:Nat):Cy false n (.ptr s i) h=h.dR s i:=rfl
def zOb(n s i:Nat):Cy DF n (.ptr s i) h=(h.rd s i n).map .agg:=rfl
def zQT(n:Nat)(a:AV)(cs:List PV):Cy false n (.fp a cs) h=cs[0]?:=rfl
def zQS(n:Nat)(a:AV)(cs:List PV):Cy DF n (.fp a cs) h=if 0<n/\n<=cs.length then Dc (.agg (cs.take n))else none:=rfl
def zOa:h.news []=h:=rfl
def zMw(z:List AV)(zs:List (List AV)):h.news (z::zs)=(h.bf (fi z)).news zs:=rfl
def zNw(recs:List pk):Qz [] recs h=True:=by
 apply propext;refine⟨λ_=>trivial,λ_=>?_⟩
 induction recs with
 |nil=>trivial
 |cons r rs ih=>exact⟨aK,ih⟩
def zLn(c:List Nat):Qz c [] h=True:=rfl
def zLo(c:List Nat)(i:Nat)(a:Bool)(n:Nat)(x v:PV)(rs:List pk):Qz c (⟨i,a,n,x,v⟩::rs) h=((if c.contains i=DF then Cy a n x h=Dc v else True)/\Qz c rs h):=rfl
def zKt(d:Option Nat)(a:Bool)(n:Nat)(x:IX)(g:Option (Nat×Bool))(i:Nat)(c:List Nat)(v:PV):qE ⟨⟨d,.load a n x,DF,g⟩,i,c⟩ e v=if zBp g e=DF then [⟨i,a,n,x.pv e,v⟩]else []:=rfl
def zOK(d:Option Nat)(x:IX)(g:Option (Nat×Bool))(i:Nat)(c:List Nat)(v:PV):qE ⟨⟨d,(.mv x),DF,g⟩,i,c⟩ e v=[]:=rfl
def zKs(d:Option Nat)(x y z:IX)(g:Option (Nat×Bool))(i:Nat)(c:List Nat)(v:PV):qE ⟨⟨d,(.pick x y z),DF,g⟩,i,c⟩ e v=[]:=rfl
def zMr(d:Option Nat)(op:BinOp)(l:CP)(x y:IX)(g:Option (Nat×Bool))(i:Nat)(c:List Nat)(v:PV):qE ⟨⟨d,(.bin op l x y),DF,g⟩,i,c⟩ e v=[]:=rfl
def zOJ(d:Option Nat)(op:UnOp)(x:IX)(g:Option (Nat×Bool))(i:Nat)(c:List Nat)(v:PV):qE ⟨⟨d,(.un op x),DF,g⟩,i,c⟩ e v=[]:=rfl
def zKu(d:Option Nat)(k:IntKind)(x:IX)(g:Option (Nat×Bool))(i:Nat)(c:List Nat)(v:PV):qE ⟨⟨d,(.conv k x),DF,g⟩,i,c⟩ e v=[]:=rfl
def zGd(d:Option Nat)(x:IX)(g:Option (Nat×Bool))(i:Nat)(c:List Nat)(v:PV):qE ⟨⟨d,(.nilCheck x),DF,g⟩,i,c⟩ e v=[]:=rfl
def zJD(d:Option Nat)(z:List AV)(l:List (Nat×Nat×IX))(g:Option (Nat×Bool))(i:Nat)(c:List Nat)(v:PV):qE ⟨⟨d,(.build z l),DF,g⟩,i,c⟩ e v=[]:=rfl
def zJC(d:Option Nat)(a:Bool)(n off:Nat)(x:IX)(g:Option (Nat×Bool))(i:Nat)(c:List Nat)(v:PV):qE ⟨⟨d,(.field a n off x),DF,g⟩,i,c⟩ e v=[]:=rfl
def zFr(d:Option Nat)(off:Nat)(x:IX)(g:Option (Nat×Bool))(i:Nat)(c:List Nat)(v:PV):qE ⟨⟨d,(.fieldAddr off x),DF,g⟩,i,c⟩ e v=[]:=rfl
def zFq(d:Option Nat)(sz:Nat)(x y:IX)(g:Option (Nat×Bool))(i:Nat)(c:List Nat)(v:PV):qE ⟨⟨d,(.indexAddr sz x y),DF,g⟩,i,c⟩ e v=[]:=rfl
def zGf(d:Option Nat)(x y:IX)(g:Option (Nat×Bool))(i:Nat)(c:List Nat)(v:PV):qE ⟨⟨d,(.indexStr x y),DF,g⟩,i,c⟩ e v=[]:=rfl
def zHj(d:Option Nat)(x:IX)(j:Nat)(g:Option (Nat×Bool))(i:Nat)(c:List Nat)(v:PV):qE ⟨⟨d,(.extract x j),DF,g⟩,i,c⟩ e v=[]:=rfl
def zMp(d:Option Nat)(x:IX)(g:Option (Nat×Bool))(i:Nat)(c:List Nat)(v:PV):qE ⟨⟨d,(.len x),DF,g⟩,i,c⟩ e v=[]:=rfl
def zIb(d:Option Nat)(x:IX)(g:Option (Nat×Bool))(i:Nat)(c:List Nat)(v:PV):qE ⟨⟨d,(.lenStr x),DF,g⟩,i,c⟩ e v=[]:=rfl
def zMq(d:Option Nat)(x:IX)(g:Option (Nat×Bool))(i:Nat)(c:List Nat)(v:PV):qE ⟨⟨d,(.cap x),DF,g⟩,i,c⟩ e v=[]:=rfl
def zJB(d:Option Nat)(sz:Nat)(x:IX)(lo hi mx:Option IX)(g:Option (Nat×Bool))(i:Nat)(c:List Nat)(v:PV):qE ⟨⟨d,(.slice sz x lo hi mx),DF,g⟩,i,c⟩ e v=[]:=rfl
def zGc(d:Option Nat)(x:IX)(lo hi:Option IX)(g:Option (Nat×Bool))(i:Nat)(c:List Nat)(v:PV):qE ⟨⟨d,(.sliceStr x lo hi),DF,g⟩,i,c⟩ e v=[]:=rfl
def zIa(d:Option Nat)(mx:Bool)(x y:IX)(g:Option (Nat×Bool))(i:Nat)(c:List Nat)(v:PV):qE ⟨⟨d,(.maxmin mx x y),DF,g⟩,i,c⟩ e v=[]:=rfl
def zGe(d:Option Nat)(f:FuncId)(y z:List IX)(g:Option (Nat×Bool))(i:Nat)(c:List Nat)(v:PV):qE ⟨⟨d,(.makeFunc f y z),DF,g⟩,i,c⟩ e v=[]:=rfl
def zMo(d:Option Nat)(j:Nat)(g:Option (Nat×Bool))(i:Nat)(c:List Nat)(v:PV):qE ⟨⟨d,(.rev j),DF,g⟩,i,c⟩ e v=[]:=rfl
def zKr(d:Option Nat)(j m:Nat)(g:Option (Nat×Bool))(i:Nat)(c:List Nat)(v:PV):qE ⟨⟨d,(.revS j m),DF,g⟩,i,c⟩ e v=[]:=rfl
def zIz:zBp none e=DF:=rfl
def zIy(t:Nat)(b:Bool):zBp (Dc (t,b)) e=(match e t with | .bool c=>decide (c=b)|_=>false):=rfl
def zMn:Zj [] e h=Dc []:=rfl
def zMm(t:Nat)(r:List x6):Zj (.tmp t::r) e h=(Zj r e h).map λvs=>e t::vs:=rfl
def zKp(t:Nat)(a:Bool)(n:Nat)(r:List x6):Zj (.cell t a n::r) e h=(Cy a n (e t) h).bind λv=>(Zj r e h).map λvs=>v::vs:=rfl
def zKq(res:List x6):retP res KA .normal e h=fw (Zj res e h) λvs=>KA (vD vs) h:=rfl
def zQA(res:List x6):retP res KA .ret e h=fw (Zj res e h) λvs=>KA (vD vs) h:=rfl
def zOm(v:PV):vD [v]=v:=rfl
def zOn:vD []=.tup []:=rfl
def zOl(u v:PV)(r:List PV):vD (u::v::r)=.tup (u::v::r):=rfl
def zOd(cs:List PV):yy cs []=Dc cs:=rfl
def zMx(cs:List PV)(off size:Nat)(v:PV)(r:List (Nat×Nat×PV)):yy cs ((off,size,v)::r)=if v.cells.length=size/\off+size<=Lu cs/\v.cells.all PV.one=DF then yy (cs.take off++v.cells++cs.drop (off+size)) r else none:=rfl
def zM1(k:IntKind)(n:Int):PV.cells (.int k n)=[(.int k n)]:=rfl
def zQO(k:IntKind)(n:Int):PV.one (.int k n)=DF:=rfl
def zK6(b:Bool):PV.cells (.bool b)=[(.bool b)]:=rfl
def zOX(b:Bool):PV.one (.bool b)=DF:=rfl
def zMz(s:List UInt8):PV.cells (.str s)=[(.str s)]:=rfl
def zQM(s:List UInt8):PV.one (.str s)=DF:=rfl
def zK4:PV.cells .nilp=[.nilp]:=rfl
def zOV:PV.one .nilp=DF:=rfl
def zK5:PV.cells .nilf=[.nilf]:=rfl
def zOW:PV.one .nilf=DF:=rfl
def zOf(w:Bool)(a:AV)(n:Nat)(cs:List PV):PV.cells (.fz w a n cs)=[(.fz w a n cs)]:=rfl
def zRo(w:Bool)(a:AV)(n:Nat)(cs:List PV):PV.one (.fz w a n cs)=DF:=rfl
def zOg(a:AV)(cs:List PV):PV.cells (.fp a cs)=[(.fp a cs)]:=rfl
def zRp(a:AV)(cs:List PV):PV.one (.fp a cs)=DF:=rfl
def zM0(s i:Nat):PV.cells (.ptr s i)=[(.ptr s i)]:=rfl
def zQN(s i:Nat):PV.one (.ptr s i)=DF:=rfl
def zOe(s o n:Nat)(c:jZ):PV.cells (.sl s o n c)=[(.sl s o n c)]:=rfl
def zRn(s o n:Nat)(c:jZ):PV.one (.sl s o n c)=DF:=rfl
def zM2(f:FuncId)(a b:List PV):PV.cells (.clo f a b)=[(.clo f a b)]:=rfl
def zQP(f:FuncId)(a b:List PV):PV.one (.clo f a b)=DF:=rfl
def zM3(cs:List PV):PV.cells (.agg cs)=cs:=rfl
def zDa(k:IntKind)(i:Int)(y:Nat):Zl (.int k i) y=if 0<=i/\i<=y then Dc i.toNat else none:=rfl
def zB6(x:PV)(d y:Nat):zl (Dc x) d y=Zl x y:=rfl
def zB7(d y:Nat):zl none d y=Dc d:=rfl
def zOQ(sz:Nat)(w:Bool)(a:AV)(len:Nat)(cs:List PV)(lo hi:Option PV):Zt sz (.fz w a len cs) lo hi none=(zl hi len len).bind λh=>(zl lo 0 h).bind λl=>Dc (.fz false (pslA sz a l h) (h-l) ((cs.drop (l*sz)).take ((h-l)*sz))):=rfl
def zB3(sz s off len c:Nat)(lo hi mx:Option PV):Zt sz (.sl s off len (.b6 c)) lo hi mx=(zl mx c c).bind λm=>(zl hi len m).bind λh=>(zl lo 0 h).bind λl=>if hi.isNone=DF/\mx.isSome=DF then none else Dc (.sl s (if m=l then off else off+l*sz) (h-l) (.b6 (m-l))):=rfl
def zB4(sz s off len g:Nat)(lo hi:Option PV):Zt sz (.sl s off len (.grown g)) lo hi none=(zl hi len len).bind λh=>(zl lo 0 h).bind λl=>Dc (.sl s (off+l*sz) (h-l) (.grown (if g=sz then g else 0))):=rfl
def zIc(s:List UInt8)(lo hi:Option PV):zCW (.str s) lo hi=(zl hi s.length s.length).bind λh=>(zl lo 0 h).bind λl=>Dc (.str ((s.take h).drop l)):=rfl
def zC6(w:Bool)(a:AV)(n:Nat)(cs:List PV):vd (.fz w a n cs)=Dc n:=rfl
def zE1(s o n:Nat)(c:jZ):vd (.sl s o n c)=Dc n:=rfl
def ZZ(sz bytes:Nat)(s x:PV):qL sz bytes h s x=(vd x).bind λm=>if m=0 then(B3 s).map λv=>(v,h)else(ZV sz h x m).bind λnews=>yA sz bytes h s news m:=rfl
def zK0(s o n c:Nat):B3 (.sl s o n (.b6 c))=if n<=c then Dc (.sl s o n (.b6 c))else none:=rfl
def zCX(sz:Nat)(w:Bool)(a:AV)(len:Nat)(cs:List PV)(n:Nat):ZV sz h (.fz w a len cs) n=if n=0 then Dc []else if n<=len/\n*sz<=Lu cs/\0<sz then Dc (cs.take (n*sz))else none:=rfl
def ZG(sz s off len:Nat)(c:jZ)(n:Nat):ZV sz h (.sl s off len c) n=if n=0 then Dc []else if n<=len then h.rd s off (n*sz)else none:=rfl
def zBf(sz bytes:Nat)(w:Bool)(n:Nat)(cs news:List PV)(m:Nat):yA sz bytes h (.fz w .b8 n cs) news m=if m*bytes<=140737488355328/\m<=4611686018427387904 then Dc (.sl h.aM 0 m (.grown sz),h.bf news)else none:=rfl
def zCq(sz bytes s off len c:Nat)(news:List PV)(m:Nat):yA sz bytes h (.sl s off len (.b6 c)) news m=if len+m<=c then(h.wr s (off+len*sz) news).map λσ'=>(.sl s off (len+m) (.b6 c),σ')else if (len+m)*bytes<=140737488355328/\len+m<=4611686018427387904 then(h.rd s off (len*sz)).map λold=>(.sl h.aM 0 (len+m) (.grown sz),h.bf (old++news))else none:=rfl
def zBE(sz bytes s off len g:Nat)(news:List PV)(m:Nat):yA sz bytes h (.sl s off len (.grown g)) news m=if (len+m)*bytes<=140737488355328/\len+m<=4611686018427387904/\g=sz then(h.bt s).bind λcs=>if off+len*sz<=cs.length then Dc (.sl h.aM 0 (len+m) (.grown sz),(h.kill s).bf ((cs.drop off).take (len*sz)++news))else none else none:=rfl
def zFu(cs:List PV)(s i:Nat):(h.bf cs).dR s i=if s=h.aM then cs[i]? else h.dR s i:=by by_cases x:s=h.aM<;>simp[cg.dR,cg.bf,x]
def zAS(cs:List PV)(s i n:Nat):(h.bf cs).rd s i n=if s=h.aM then(if i+n<=cs.length then Dc ((cs.drop i).take n)else none)else h.rd s i n:=by by_cases x:s=h.aM<;>simp[cg.rd,cg.bf,x]
def zI(cs:List PV)(s:Nat):(h.bf cs).bt s=if s=h.aM then Dc cs else h.bt s:=rfl
def zRh(cs:List PV)(s i:Nat)(vs:List PV):(h.bf cs).wr s i vs=if s=h.aM then(if i+Lu vs<=Lu cs/\vs.all PV.one=DF then Dc (h.bf (cs.take i++vs++cs.drop (i+Lu vs)))else none)else(h.wr s i vs).map λh'=>h'.bf cs:=by
 by_cases x:s=h.aM
 .subst x;simp only[cg.wr,cg.bf,if_true,YP];split
  .congr 1;simp only[cg.set];congr 1;funext y;by_cases l:y=h.aM<;>simp[l]
  .rfl
 .simp only[cg.wr,cg.bf,DL x];cases ho:h.bt s with
  |none=>rfl
  |some ob=>
   simp only[YP];split
   .simp only[EF,cg.set];congr 2;funext y;by_cases l:y=s
    .subst l;simp[x]
    .simp[l]
   .rfl
def zOZ(cs:List PV):(h.bf cs).aM=h.aM+1:=rfl
def zJK(cs:List PV):(h.bf cs).top=h.top:=rfl
def zQJ(cs:List PV)(s:Nat)(u:List PV):(h.bf cs).set s u=if s=h.aM then h.bf u else(h.set s u).bf cs:=by
 by_cases x:s=h.aM
 .subst x;rw[DK rfl];simp only[cg.set,cg.bf];congr 1;funext y;by_cases l:y=h.aM<;>simp[l]
 .rw[DL x];simp only[cg.set,cg.bf];congr 1;funext y;by_cases l:y=s
  .subst l;simp[x]
  .simp[l]
def zA0(s:Nat)(cs l:List PV):(h.set s cs).set s l=h.set s l:=by
 simp only[cg.set];congr 1;funext y;by_cases u:y=s<;>simp[u]
def zOY(s:Nat)(cs:List PV):(h.set s cs).aM=h.aM:=rfl
def zMv(s:Nat):(h.kill s).aM=h.aM:=rfl
def zQQ(t:Nat):(h.up t).aM=h.aM:=rfl
def zL3(t:Nat):(h.up t).top=t:=rfl
def zRr(t:Nat)(cs:List PV):(h.up t).bf cs=(h.bf cs).up t:=rfl
def zRl(t s i:Nat):(h.up t).dR s i=h.dR s i:=rfl
def zSs(t s i n:Nat):(h.up t).rd s i n=h.rd s i n:=rfl
def zRq(t s:Nat):(h.up t).bt s=h.bt s:=rfl
def zSp(t s i:Nat)(vs:List PV):(h.up t).wr s i vs=(h.wr s i vs).map λh'=>h'.up t:=by
 simp only[cg.wr,cg.up];cases h.bt s with
 |none=>rfl
 |some cs=>simp only[YP];split<;>rfl
def zIC(s t:Nat):(h.kill s).bt t=if t=s then none else h.bt t:=rfl
def zG(s:Nat)(cs:List PV)(t:Nat):(h.set s cs).bt t=if t=s then Dc cs else h.bt t:=rfl
def zOR(s t i:Nat):(h.kill s).dR t i=if t=s then none else h.dR t i:=by by_cases x:t=s<;>simp[cg.dR,cg.kill,x]
def zQK(s t i n:Nat):(h.kill s).rd t i n=if t=s then none else h.rd t i n:=by by_cases x:t=s<;>simp[cg.rd,cg.kill,x]
def zFt(s:Nat)(cs:List PV)(t i:Nat):(h.set s cs).dR t i=if t=s then cs[i]? else h.dR t i:=by by_cases x:t=s<;>simp[cg.dR,cg.set,x]
def zi(s:Nat)(cs:List PV)(t i n:Nat):(h.set s cs).rd t i n=if t=s then(if i+n<=cs.length then Dc ((cs.drop i).take n)else none)else h.rd t i n:=by by_cases x:t=s<;>simp[cg.rd,cg.set,x]
def zRg(s:Nat)(cs:List PV)(i:Nat)(vs:List PV):(h.set s cs).wr s i vs=if i+Lu vs<=Lu cs/\vs.all PV.one=DF then Dc (h.set s (cs.take i++vs++cs.drop (i+Lu vs)))else none:=by
 simp only[cg.wr,cg.set,if_true,YP];split
 .congr 2;funext y;by_cases l:y=s<;>simp[l]
 .rfl
end
def pw0:=YX @zRS <| YX @zNz <| YX @zRU <| YX @zSf <| YX @zRV <| YX @zP1 <| YX @zRT <| YX @zSg <| YX @zSX <| YX @RVp_q <| YX @RVp_e <| YX @zSa <| YX @DVp_q <| YX @DVp_e <| YX @zQ1 <| YX @zQ0 <| YX @zQ3 <| YX @zQ2 <| YX @zK2 <| YX @zJY <| YX @zMy <| YX @zK3 <| YX @zJW <| YX @zJU <| YX @zJT <| YX @zJV <| YX @pv_t <| YX @pv_c <| YX @zQR <| @zOT
def pw1:=YX @zOU <| YX @qp_mv <| YX @zRd <| YX @zSo <| YX @qp_un <| YX @zRf <| YX @zKw <| YX @zQH <| YX @zQG <| YX @zJH <| YX @zJG <| YX @zKy <| YX @zMs <| YX @zSm <| YX @zON <| YX @zSn <| YX @zQF <| YX @zKv <| YX @zOM <| YX @zKx <| YX @zRe <| YX @zSl <| YX @zRc <| YX @zRC <| YX @zTD <| YX @zNi <| YX @zRA <| YX @zM9 <| YX @zPa <| YX @zLi <| @zLH
def pw2:=YX @zOp <| YX @zPb <| YX @zSP <| YX @zSQ <| YX @zRB <| YX @zND <| YX @zQn <| YX @of_bool <| YX @of_int <| YX @zSw <| YX @zRz <| YX @zR0 <| YX @zRy <| YX @zSx <| YX @zSy <| YX @zRx <| YX @zQm <| YX @zL8 <| YX @zQg <| YX @zQW <| YX @zQa <| YX @zQf <| YX @zQZ <| YX @zQb <| YX @zQc <| YX @zQd <| YX @zQe <| YX @zQY <| YX @zQX <| @zM7
def pw3:=YX @zOk <| YX @zM8 <| YX @zOj <| YX @zOi <| YX @zM6 <| YX @zLB <| YX @zM5 <| YX @zLA <| YX @zK9 <| YX @zK8 <| YX @zK7 <| YX @zLf <| YX @zPR <| YX @zRk <| YX @zRj <| YX @zNA <| YX @zLD <| YX @zOs <| YX @zQh <| YX @zQi <| YX @zRt <| YX @zNC <| YX @zNB <| YX @zHl <| YX @zIf <| YX @zOq <| YX @zOr <| YX @zLG <| YX @zJa <| @zRv
def pw4:=YX @zRu <| YX @zLF <| YX @zOt <| YX @zRw <| YX @zLE <| YX @zOc <| YX @zOb <| YX @zQT <| YX @zQS <| YX @zOa <| YX @zMw <| YX @zNw <| YX @zLn <| YX @zLo <| YX @zKt <| YX @zOK <| YX @zKs <| YX @zMr <| YX @zOJ <| YX @zKu <| YX @zGd <| YX @zJD <| YX @zJC <| YX @zFr <| YX @zFq <| YX @zGf <| YX @zHj <| YX @zMp <| YX @zIb <| @zMq
def pw5:=YX @zJB <| YX @zGc <| YX @zIa <| YX @zGe <| YX @zMo <| YX @zKr <| YX @zIz <| YX @zIy <| YX @zMn <| YX @zMm <| YX @zKp <| YX @zKq <| YX @zQA <| YX @zOm <| YX @zOn <| YX @zOl <| YX @zOd <| YX @zMx <| YX @zM1 <| YX @zQO <| YX @zK6 <| YX @zOX <| YX @zMz <| YX @zQM <| YX @zK4 <| YX @zOV <| YX @zK5 <| YX @zOW <| YX @zOf <| YX @zRo <| @zOg
def pw6:=YX @zRp <| YX @zM0 <| YX @zQN <| YX @zOe <| YX @zRn <| YX @zM2 <| YX @zQP <| YX @zM3 <| YX @zDa <| YX @zB6 <| YX @zB7 <| YX @zOQ <| YX @zB3 <| YX @zB4 <| YX @zIc <| YX @zC6 <| YX @zE1 <| YX @zFu <| YX @zAS <| YX @zI <| YX @zRh <| YX @zOZ <| YX @zJK <| YX @zQJ <| YX @zA0 <| YX @zOY <| YX @zMv <| YX @zQQ <| YX @zL3 <| @zRr
def pw7:=YX @zRl <| YX @zSs <| YX @zRq <| YX @zSp <| YX @zIC <| YX @zG <| YX @zOR <| YX @zQK <| YX @zFt <| YX @zi <| YX @zRg <| YX @zCY <| YX @zBN <| YX @zOv <| YX @zQl <| YX @List.map_cons.{0,0} <| YX @List.map_nil.{0,0} <| YX @List.length_cons.{0} <| YX @Eg.{0} <| YX @Hk.{0} <| YX @D3.{0} <| YX @List.take_succ_cons.{0} <| YX @List.take_zero.{0} <| YX @List.drop_succ_cons.{0} <| YX @EC.{0} <| YX @List.take_nil.{0} <| YX @List.drop_nil.{0} <| YX @List.nil_append.{0} <| YX @List.cons_append.{0} <| @List.append_nil.{0}
def pw8:=YX @Ej.{0} <| YX @Em.{0} <| YX @List.contains_cons.{0} <| YX @List.contains_nil.{0} <| YX @EF.{0,0} <| YX @Option.map_none.{0,0} <| YX @Option.bind_some.{0,0} <| YX @Option.bind_none.{0,0} <| YX @decide_true <| YX @decide_false <| YX @Bool.not_true <| YX @Bool.not_false <| YX @Bool.and_true <| YX @Bool.true_and <| YX @Bool.and_self <| YX @Bool.or_false <| YX @Bool.or_true <| YX @Bool.true_or <| YX @Bool.false_or <| YX @true_and <| YX @and_true <| YX @Bool.true_eq_false <| YX @EB <| YX @Nat.left_eq_add <| YX @Nat.add_eq_left <| YX @Nat.succ_ne_self <| YX @Nat.one_ne_zero <| YX @Nat.add_left_cancel_iff <| YX @Nat.add_assoc <| @Fe
def pw9:=YX @Nat.zero_add <| YX @Nat.add_zero <| YX @Nat.le_refl <| YX @Nat.lt_add_one <| YX @Fs <| YX @Int.natCast_nonneg <| YX @Int.ofNat_lt <| YX @Int.le_refl <| YX @zMe <| YX @zMf <| YX @zD4 <| YX @Nat.one_mul <| @E1
def Z3:=YX pw0 <| YX pw1 <| YX pw2 <| YX pw3 <| YX pw4 <| YX pw5 <| YX pw6 <| YX pw7 <| YX pw8 <| YX pw9 <| YX @kr <| YX @eq_self.{1} <| YX @Int.ofNat_le @List.getElem?_drop.{0}
section
variable{P:Program}
@[congr] theorem cg_vp {c:IC} {Q:Exit->ec->cg->Prop} {e e':ec} {h h':cg} (l:nm e=e') (u:h=h'):vp P c Q e h=vp P c Q e' h':=by rw[kr]at l;rw[l,u]
@[congr] theorem zTj {t:OT} {recs l:List pk} {K:ec->cg->Prop} {e e':ec} {h h':cg} (A:recs=l) (u:nm e=e') (C:h=h'):TVp P t recs e h K=TVp P t l e' h' K:=by rw[kr]at u;rw[A,u,C]
@[congr] theorem zTk {l:List II} {K:ec->cg->Prop} {e e':ec} {h h':cg} (u:nm e=e') (A:h=h'):RVp P l e h K=RVp P l e' h' K:=by rw[kr]at u;rw[u,A]
@[congr] theorem zTl {nb D nr l:Nat} {A:List DI} {recs u:List pk} {K:ec->cg->Prop} {e e':ec} {h h':cg} (C:nm nb=D) (J:nr=l) (E:recs=u) (G:e=e') (I:h=h'):DVp P nb nr A recs e h K=DVp P D l A u e' h' K:=by rw[kr]at C;rw[C,E,G,I,J]
@[congr] theorem zTh {it:II} {K:PV->cg->Prop} {e e':ec} {h h':cg} (l:nm e=e') (u:h=h'):gep P it e h K=gep P it e' h' K:=by rw[kr]at l;rw[l,u]
@[congr] theorem cg_ep {op:qk} {K:PV->cg->Prop} {e e':ec} {h h':cg} (l:nm e=e') (u:h=h'):ep P op e h K=ep P op e' h' K:=by rw[kr]at l;rw[l,u]
@[congr] theorem zTb {f:FuncId} {K:PV->cg->Prop} {args l:List PV} {h h':cg} (u:nm args=l) (A:h=h'):zA P f args h K=zA P f l h' K:=by rw[kr]at u;rw[u,A]
@[congr] theorem zTV {n:Nat} {K:PV->cg->Prop} {x A v u:PV} {h h':cg} (l:nm x=A) (C:v=u) (D:h=h'):zGj n x v h K=zGj n A u h' K:=by rw[kr]at l;rw[l,C,D]
@[congr] theorem zTd {sz b:Nat} {z:List AV} {K:PV->cg->Prop} {x A v u:PV} {h h':cg} (l:nm x=A) (C:v=u) (D:h=h'):pMake sz b z x v h K=pMake sz b z A u h' K:=by rw[kr]at l;rw[l,C,D]
@[congr] theorem zTX {sz b:Nat} {z:List AV} {K:PV->cg->Prop} {x A v u:PV} {h h':cg} (l:nm x=A) (C:v=u) (D:h=h'):zDA sz b z x v h K=zDA sz b z A u h' K:=by rw[kr]at l;rw[l,C,D]
@[congr] theorem zTW {K:PV->cg->Prop} {f f':PV} {args l:List PV} {h h':cg} (u:nm f=f') (A:args=l) (C:h=h'):zGk P f args h K=zGk P f' l h' K:=by rw[kr]at u;rw[u,A,C]
@[congr] theorem zTU {v u:PV} {a b:Prop} (l:nm v=u):Qe v a b=Qe u a b:=by rw[kr]at l;rw[l]
@[congr] theorem zTT {v u:PV} {b:Bool} {x y:Prop} (l:nm v=u):Qn v b x y=Qn u b x y:=by rw[kr]at l;rw[l]
end
def cS(xs:V1):List PV:=xs.map (.int .i64)
def zQV(x:Int)(xs:V1):cS (x::xs)=.int .i64 x::cS xs:=rfl
def zJ(xs:V1):(cS xs).length=Lu xs:=by simp[cS]
def zN(xs:V1)(k:Nat):(cS xs)[k]? = (xs[k]?).map (.int .i64):=by simp[cS]
def zL6(xs:V1)(k:Nat)(x:Int):(cS xs).set k (.int .i64 x)=cS (xs.set k x):=by simp[cS,List.map_set]
def QL(xs ys:V1):cS xs++cS ys=cS (xs++ys):=by simp[cS]
def zB8(xs:V1)(k:Nat):(cS xs).take k=cS (xs.take k):=by simp[cS,List.map_take]
def zQU(xs:V1)(k:Nat):(cS xs).drop k=cS (xs.drop k):=by simp[cS,List.map_drop]
def zh(n:Nat)(x:Int):Ep n (PV.int .i64 x)=cS (Ep n x):=by simp[cS]
def zL(n:Nat)(xs:V1):hZ n (cS xs):=by
 induction xs with
 |nil=>trivial
 |cons x xs ih=>exact⟨DJ,ih⟩
def zX{xs:V1}{i:Nat}(hi:i<Lu xs){x:Int}:(cS xs).take i++[.int .i64 x]++(cS xs).drop (i+1)=cS (xs.set i x):=by
 rw[<-zL6,Fv,DK (by rw[zJ];exact hi),Yv,US]
def zBz{h:cg}{s:Nat}{cs:List PV}(hs:h.bt s=Dc cs):h.set s cs=h:=by
 cases h with
 |mk n t f=>
  simp only[cg.set];congr 1;funext y;by_cases l:y=s
  .subst l;simp at hs ⊢;exact hs.symm
  .simp[l]
def take_set{α:Type}(xs:List α){i:Nat}(hi:i<Lu xs)(v:α):xs.take i++v::xs.drop (i+1)=xs.set i v:=by
 rw[Fv,DK hi]
def gi{α:Type}{xs:List α}{i:Nat}(hi:i<Lu xs):xs[i]? = Dc xs[i]:=YQ hi
def sm(a:Int):Prop:=-4611686018427387904<=a/\a<=4611686018427387904
def sm.w{a:Int}(h:sm a):Lp .i64 a=a:=fl (by have:=h.1;omega) (by have:=h.2;omega)
def uK{n:Nat}(h:n<=4294967296):(n:Int)*((8:Nat):Int)<=140737488355328:=af
def mk24{n:Nat}(h:n<=4294967296):(n:Int)*((24:Nat):Int)<=140737488355328:=af
def tn{n:Nat}(h:n<=4294967296):(n:Int)<=9223372036854775807:=af
def yB(k:Int)(xs ys:V1):V1:=FD (λx y=>x-k*y) xs ys
def zFR{k:Int}{xs ys:V1}(h:xs.length<=Lu ys):(yB k xs ys).length=Lu xs:=by simp[yB];omega
def zP5{k:Int}{xs ys:V1}{i:Nat}(l:i<Lu xs)(u:i<Lu ys):(yB k xs ys)[i]? = Dc (xs[i] - k*ys[i]):=by
 simp[yB,List.getElem?_zipWith,gi l,gi u]
def FI(v:PV)(xs:V1):Prop:=∃w a,v=.fz w a xs.length (cS xs)
def FL{α:Type}(R:PV->α->Prop)(v:PV)(xs:List α):Prop:=∃w a rows,v=.fz w a xs.length rows/\dd R rows xs
abbrev jj:PV->V2->Prop:=FL FI
abbrev Db:PV->V3->Prop:=FL jj
def FI.one{v:PV}{xs:V1}(h:FI v xs):v.one=DF:=by obtain⟨w,a,rfl⟩:=h;rfl
def FI.cells{v:PV}{xs:V1}(h:FI v xs):v.cells=[v]:=by obtain⟨w,a,rfl⟩:=h;rfl
def FI.bel{v:PV}{xs:V1}(h:FI v xs)(n:Nat):Bel n v:=by obtain⟨w,a,rfl⟩:=h;trivial
def FL.one{α:Type}{R:PV->α->Prop}{v:PV}{xs:List α}(h:FL R v xs):v.one=DF:=by obtain⟨w,a,r,rfl,_⟩:=h;rfl
def FL.cells{α:Type}{R:PV->α->Prop}{v:PV}{xs:List α}(h:FL R v xs):v.cells=[v]:=by obtain⟨w,a,r,rfl,_⟩:=h;rfl
def FL.bel{α:Type}{R:PV->α->Prop}{v:PV}{xs:List α}(h:FL R v xs)(n:Nat):Bel n v:=by obtain⟨w,a,r,rfl,_⟩:=h;trivial
def FI.sb{v:PV}{xs:V1}(h:FI v xs)(s o:Nat)(cs:List PV):sb s o cs v=v:=by obtain⟨w,a,rfl⟩:=h;rfl
def FL.sb{α:Type}{R:PV->α->Prop}{v:PV}{xs:List α}(h:FL R v xs)(s o:Nat)(cs:List PV):sb s o cs v=v:=by obtain⟨w,a,r,rfl,_⟩:=h;rfl
def dd.rowI{rows:List PV}{l:V2}(h:dd FI rows l){k:Nat}(A:k<Lu l):∃w a,rows[k]? = Dc (.fz w a l[k].length (cS l[k])):=by
 obtain⟨r,u,w,a,rfl⟩:=h.get A;exact⟨w,a,u⟩
def dd.rowL{α:Type}{R:PV->α->Prop}{rows:List PV}{l:List (List α)}(h:dd (FL R) rows l){k:Nat}(C:k<Lu l):∃w a rs,rows[k]? = Dc (.fz w a l[k].length rs)/\dd R rs l[k]:=by
 obtain⟨r,u,w,a,rs,rfl,A⟩:=h.get C;exact⟨w,a,rs,u,A⟩
def dd.bels{α:Type}{R:PV->α->Prop}{n:Nat}{rows:List PV}{xs:List α}(h:dd R rows xs)(u:∀v x,R v x->Bel n v):hZ n rows:=by
 rw[zBD];intro c A;obtain⟨k,l,rfl⟩:=YR.1 A;exact u _ _ (h.2 k _ (xs[k]'(by rw[<-h.1];exact l)) (YQ l) (YQ _))
def dd.bI{rows:List PV}{xs:V2}(h:dd FI rows xs)(n:Nat):hZ n rows:=h.bels λ_ _ k=>k.bel n
def dd.bL{α:Type}{R:PV->α->Prop}{rows:List PV}{xs:List (List α)}(h:dd (FL R) rows xs)(n:Nat):hZ n rows:=h.bels λ_ _ k=>k.bel n
def dd.take{α β:Type}{R:α->β->Prop}{as:List α}{u:List β}(h:dd R as u)(k:Nat):dd R (as.take k) (u.take k):=by
 refine⟨by simp[h.1],λj a b l A=>?_⟩;rw[Yc]at l A;split at l
 .exact h.2 j a b l (by simpa [*]using A)
 .cases l
def dd.drop{α β:Type}{R:α->β->Prop}{as:List α}{l:List β}(h:dd R as l)(k:Nat):dd R (as.drop k) (l.drop k):=by
 refine⟨by simp[h.1],λj a b u A=>?_⟩;rw[Y0]at u A;exact h.2 _ a b u A
def dd.append{α β:Type}{R:α->β->Prop}{as cs:List α}{A C:List β}(h:dd R as A)(g:dd R cs C):dd R (as++cs) (A++C):=by
 refine⟨by simp[h.1,g.1],λj a b l u=>?_⟩;rcases YG j as.length with x|x
 .rw[Yn x]at l;rw[Yn (by rw[<-h.1];exact x)]at u;exact h.2 j a b l u
 .rw[Yz x]at l;rw[Yz (by rw[<-h.1];exact x),<-h.1]at u;exact g.2 _ a b l u
def zF{P:Program}{Q:Exit->ec->cg->Prop}{e:ec}{h:cg}{S:List Nat}{c:IC}(I:Nat->List PV->cg->Prop)(n:Nat)(l:I n (S.map e) h)
  (round:∀n vs h,I n vs h->vp P c (λx e' h'=>match x with | .normal=>∃n',n'<n/\I n' (S.map e') h'|x=>Q x e' h') (ec.mk S vs) h):vp P (.loop S c) Q e h:=
 ⟨I,⟨n,.here l⟩,λn vs h u=>zAw c (λx e h k=>by cases x<;>first|exact k.imp λ_ q=>⟨q.1,.here q.2⟩|exact k) (round n vs h u)⟩
def Zg{P:Program}{Q:Exit->ec->cg->Prop}{e:ec}{h:cg}{S:List Nat}{c:IC}(I:Nat->List PV->cg->Prop)(n:Nat)(l:GL (I n) (S.map e) h)
  (round:∀n vs h,I n vs h->vp P c (λx e' h'=>match x with | .normal=>∃n',n'<n/\GL (I n') (S.map e') h'|x=>Q x e' h') (ec.mk S vs) h):vp P (.loop S c) Q e h:=⟨I,⟨n,l⟩,round⟩
def de{c:Prop}[Decidable c]{A B:Prop}(l:c->A)(u:¬c->B):if c then A else B:=by
 by_cases h:c
 .rw[DK h];exact l h
 .rw[DL h];exact u h
def Ll{c:Prop}[Decidable c]{a b:Prop}(k:¬c->b)(h:c->a):if c then a else b:=de h k
def pkt{K:PV->cg->Prop}{h:cg}{p:Prop}[Decidable p](l:K (.bool (decide p)) h)(u:p):K (.bool DF) h:=by
 rw[decide_eq_true u]at l;exact l
def pkf{K:PV->cg->Prop}{h:cg}{p:Prop}[Decidable p](l:K (.bool (decide p)) h)(u:¬p):K (.bool false) h:=by
 rw[decide_eq_false u]at l;exact l
def pke{K:PV->cg->Prop}{h:cg}{p q:Prop}[Decidable p][Decidable q](l:K (.bool (decide p)) h)(u:p↔q):K (.bool (decide q)) h:=by
 have:decide q=decide p:=decide_eq_decide.2 u.symm
 rw[this];exact l
def zC(σ:cg)(cs:List PV):cT σ (σ.bf cs):=(cT.refl σ).bf cs
def cT.setN{σ0 σ1:cg}{cs:List PV}(a:cT (σ0.bf cs) σ1)(l:List PV):cT (σ0.bf l) (σ1.set σ0.aM l):=
 ⟨a.aM,a.top,λt u=>by
  by_cases e:t=σ0.aM
  .subst e;simp[cg.set,cg.bf]
  .have:=a.bt t u
   simp only[cg.set,cg.bf,DL e]at this ⊢;exact this⟩
def cT.of{σ0 σ1:cg}{cs:List PV}(a:cT (σ0.bf cs) σ1):cT σ0 σ1:=(zC σ0 cs).trans a
def cT.rd{σ0 σ1:cg}(a:cT σ0 σ1){s:Nat}(hs:s<σ0.aM)(i n:Nat):σ1.rd s i n=σ0.rd s i n:=by simp only[cg.rd,a.bt s hs]
def zH{h:cg}{s:Nat}{cs:List PV}(l:h.bt s=Dc cs)(i:Nat):h.dR s i=cs[i]?:=by simp[cg.dR,l]
def zV{h:cg}{s:Nat}{cs:List PV}(l:h.bt s=Dc cs)(i n:Nat):h.rd s i n=if i+n<=cs.length then Dc ((cs.drop i).take n)else none:=by simp[cg.rd,l]
def zR{h:cg}{s:Nat}{cs:List PV}(l:h.bt s=Dc cs)(i:Nat)(vs:List PV):h.wr s i vs=if i+Lu vs<=Lu cs/\vs.all PV.one=DF then Dc (h.set s (cs.take i++vs++cs.drop (i+Lu vs)))else none:=by simp[cg.wr,l]
def full(e:Nat)(cap:jZ)(n:Nat):Prop:=cap=.grown e\/cap=.b6 n
def full.ok{e n:Nat}{cap:jZ}(h:full e cap n):gk cap n=DF:=by
 rcases h with rfl|rfl
 .rfl
 .simp[gk]
def eA(b e:Nat)(h:cg)(v:PV)(n:Nat)(cs:List PV):Prop:=∃s cap,v=.sl s 0 n cap/\full e cap n/\h.bt s=Dc cs/\Lu cs=n*e/\b<=s/\s<h.aM
def ei(b e:Nat)(h:cg)(v:PV)(n:Nat)(cs:List PV):Prop:=
 (v=.fz DF .b8 0 []/\n=0/\cs=[])\/eA b e h v n cs
def ei.nil(b e:Nat)(h:cg):ei b e h (.fz DF .b8 0 []) 0 []:=.inl ⟨rfl,rfl,rfl⟩
def eA.own{b e n s:Nat}{h:cg}{cap:jZ}{cs:List PV}(u:full e cap n)(C:h.bt s=Dc cs)(A:cs.length=n*e)(l:b<=s)(hs:s<h.aM):eA b e h (.sl s 0 n cap) n cs:=⟨s,cap,rfl,u,C,A,l,hs⟩
def eA.acc{b e n:Nat}{h:cg}{v:PV}{cs:List PV}(a:eA b e h v n cs):ei b e h v n cs:=.inr a
def eA.bf(b e:Nat){h:cg}{n:Nat}{cs:List PV}(u:cs.length=n*e)(l:b<=h.aM):eA b e (h.bf cs) (.sl h.aM 0 n (.b6 n)) n cs:=⟨_,_,rfl,.inr rfl,by simp[cg.bf],u,l,by simp[cg.bf]⟩
def eA.cf{b e n:Nat}{h h':cg}{v:PV}{cs:List PV}(a:eA b e h v n cs)(u:cT h h'):eA b e h' v n cs:=by
 obtain⟨s,cap,rfl,A,C,D,E,l⟩:=a;exact⟨s,cap,rfl,A,by rw[u.bt s l];exact C,D,E,Yw l u.aM⟩
def eA.one{b e n:Nat}{h:cg}{v:PV}{cs:List PV}(a:eA b e h v n cs):v.one=DF:=by obtain⟨s,cap,rfl,_⟩:=a;rfl
def eA.cells{b e n:Nat}{h:cg}{v:PV}{cs:List PV}(a:eA b e h v n cs):v.cells=[v]:=by obtain⟨s,cap,rfl,_⟩:=a;rfl
def ei.cf{b e n:Nat}{h h':cg}{v:PV}{cs:List PV}(a:ei b e h v n cs)(u:cT h h'):ei b e h' v n cs:=by
 rcases a with ⟨rfl,rfl,rfl⟩|⟨s,cap,rfl,A,C,D,E,l⟩
 .exact ei.nil _ _ _
 .exact .inr ⟨s,cap,rfl,A,by rw[u.bt s l];exact C,D,E,Yw l u.aM⟩
def ei.one{b e n:Nat}{h:cg}{v:PV}{cs:List PV}(a:ei b e h v n cs):v.one=DF:=by
 rcases a with ⟨rfl,rfl,rfl⟩|⟨s,cap,rfl,_⟩<;>rfl
def ei.cells{b e n:Nat}{h:cg}{v:PV}{cs:List PV}(a:ei b e h v n cs):v.cells=[v]:=by
 rcases a with ⟨rfl,rfl,rfl⟩|⟨s,cap,rfl,_⟩<;>rfl
def eA.app{σb h:cg}{b e bytes n m:Nat}{v x:PV}{cs news:List PV}{K:PV×cg->Prop}(l:cT σb h)(U:b<=σb.aM)(a:eA σb.aM e h v n cs)(T:vd x=Dc m)(S:m≠0->ZV e h x m=Dc news)(J:news.length=m*e)
  (E:(n+m)*bytes<=140737488355328) (G:n+m<=4611686018427387904) (k:∀O h',cT σb h'->eA σb.aM e h' O (n+m) (cs++news)->K (O,h')):fw (qL e bytes h v x) K:=by
 rw[ZZ,T];simp only[YP];obtain⟨s,cap,rfl,I,A,C,D,N⟩:=a;by_cases u:m=0
 .rw[DK u];subst u
  have:news=[]:=YU af
  subst this;rcases I with rfl|rfl
  .refine QD rfl (k _ _ l ?_);rw[Ye,UF];exact⟨s,_,rfl,.inl rfl,A,C,D,N⟩
  .rw[zK0,DK (na _)];refine QD rfl (k _ _ l ?_);rw[Ye,UF];exact⟨s,_,rfl,.inr rfl,A,C,D,N⟩
 .rw[DL u,S u];simp only[YP];have M:=l.aM;rcases I with rfl|rfl
  .rw[zBE,DK ⟨E,G,rfl⟩,A];simp only[YP];rw[DK af,EC];refine QD rfl (k _ _ ((l.kill D).bf _) ?_);rw[YS af];exact⟨h.aM,_,rfl,.inl rfl,by simp[cg.bf,cg.kill],by rw[YB,C,J,FF],M,by simp[cg.bf,cg.kill]⟩
  .rw[zCq,DL af,DK ⟨E,G⟩,zV A,DK af,EC,YS af];simp only[EF];refine QD rfl (k _ _ (l.bf _) ?_);exact⟨h.aM,_,rfl,.inl rfl,by simp[cg.bf],by rw[YB,C,J,FF],M,by simp[cg.bf]⟩
def ei.app{σb h:cg}{b e bytes n m:Nat}{v x:PV}{cs news:List PV}{K:PV×cg->Prop}(A:cT σb h)(N:b<=σb.aM)(a:ei σb.aM e h v n cs)(I:vd x=Dc m)(D:m≠0->ZV e h x m=Dc news)(E:news.length=m*e)
  (C:(n+m)*bytes<=140737488355328) (M:n+m<=4611686018427387904) (k:∀l h',cT σb h'->ei σb.aM e h' l (n+m) (cs++news)->(0<n+m->eA σb.aM e h' l (n+m) (cs++news))->K (l,h')):fw (qL e bytes h v x) K:=by
 rcases a with ⟨rfl,rfl,rfl⟩|a
 .rw[ZZ,I];simp only[YP];by_cases u:m=0
  .rw[DK u];subst u
   have:news=[]:=YU af
   subst this;exact QD rfl (k _ _ A (ei.nil _ _ _) af)
  .rw[DL u,D u];simp only[YP];rw[zBf,DK ⟨by simpa using C,af⟩];have G:eA σb.aM e (h.bf news) (.sl h.aM 0 m (.grown e)) m news:=⟨h.aM,_,rfl,.inl rfl,by simp[cg.bf],E,A.aM,by simp[cg.bf]⟩
   refine QD rfl (k _ _ (A.bf _) ?_ ?_)
   .rw[Yl,Y5];exact .inr G
   .rw[Yl,Y5];exactλ_=>G
 .exact eA.app A N a I D E C M λl h' O J=>k l h' O (.inr J) λ_=>J
def ei.push{σb h:cg}{bytes n:Nat}{v x:PV}{cs:List PV}{K:PV×cg->Prop}(C:cT σb h)(a:ei σb.aM 1 h v n cs) 
  (u:(n+1)*bytes<=140737488355328) (A:n+1<=4611686018427387904) (k:∀l h',cT σb h'->eA σb.aM 1 h' l (n+1) (cs++[x])->K (l,h')):fw (qL 1 bytes (h.bf [x]) v (.sl h.aM 0 1 (.b6 1))) K:=
 ei.app (news:=[x]) (m:=1) (C.bf _) (na _) (a.cf (zC _ _)) rfl (λ_=>by simp[ZG,zAS]) rfl u A λl h' D _ E=>k l h' D (E af)
def eA.push{σb h:cg}{bytes n:Nat}{v x:PV}{cs:List PV}{K:PV×cg->Prop}(C:cT σb h)(a:eA σb.aM 1 h v n cs)
  (u:(n+1)*bytes<=140737488355328) (A:n+1<=4611686018427387904) (k:∀l h',cT σb h'->eA σb.aM 1 h' l (n+1) (cs++[x])->K (l,h')):fw (qL 1 bytes (h.bf [x]) v (.sl h.aM 0 1 (.b6 1))) K:=
 ei.push C a.acc u A k
def ei.cat{σb h:cg}{bytes n m:Nat}{w:Bool}{av:AV}{v:PV}{cs news:List PV}{K:PV×cg->Prop}(D:cT σb h)(a:ei σb.aM 1 h v n cs)(I:news.length=m)
  (A:(n+m)*bytes<=140737488355328) (C:n+m<=4611686018427387904) (k:∀l h',cT σb h'->ei σb.aM 1 h' l (n+m) (cs++news)->K (l,h')):fw (qL 1 bytes h v (.fz w av m news)) K:=
 ei.app (news:=news) (m:=m) D (na _) a rfl (λu=>by rw[zCX,DL u,DK ⟨na _,af,af⟩,YS af]) af A C λl h' E G _=>k l h' E G
def eA.cat{σb h:cg}{bytes n m:Nat}{w:Bool}{av:AV}{v:PV}{cs news:List PV}{K:PV×cg->Prop}(D:cT σb h)(a:eA σb.aM 1 h v n cs)(E:news.length=m)
  (A:(n+m)*bytes<=140737488355328) (C:n+m<=4611686018427387904) (k:∀l h',cT σb h'->eA σb.aM 1 h' l (n+m) (cs++news)->K (l,h')):fw (qL 1 bytes h v (.fz w av m news)) K:=
 eA.app (b:=0) (news:=news) (m:=m) D (YV _) a rfl (λu=>by rw[zCX,DL u,DK ⟨na _,af,af⟩,YS af]) af A C k
def eA.fin{σ h:cg}{e n:Nat}{v:PV}{cs:List PV}{K:PV->cg->Prop}(A:cT σ h)(a:eA σ.aM e h v n cs)(l:hZ 0 cs)(k:∀o cap,K (.fz DF (.sl o 0 n cap) n cs) σ):Gh σ K v h:=by
 obtain⟨s,cap,rfl,u,C,E,D,G⟩:=a;exact Gh.finF A C D l u.ok λo=>k _ _
def eA.out{σ h:cg}{e n:Nat}{v:PV}{cs:List PV}{K:PV->cg->Prop}(A:cT σ h)(a:eA σ.aM e h v n cs)(l:hZ σ.aM cs)(k:∀cap,full e cap n->K (.sl σ.aM 0 n cap) (σ.bf cs)):Gh σ K v h:=by
 obtain⟨s,cap,rfl,u,C,E,D,G⟩:=a;exact Gh.np A C D l (k cap u)
def ei.fin{σ h:cg}{e n:Nat}{v:PV}{cs:List PV}{K:PV->cg->Prop}(l:cT σ h)(a:ei σ.aM e h v n cs)(u:hZ 0 cs)(k:∀a,K (.fz DF a n cs) σ):Gh σ K v h:=by
 rcases a with ⟨rfl,rfl,rfl⟩|⟨s,cap,rfl,A,C,E,D,G⟩
 .exact Gh.fin0 l trivial (k _)
 .exact Gh.finF l C D u A.ok λo=>k _
def zA.fz{P:Program}{f:FuncId}{args:List PV}{σ:cg}{K:PV->cg->Prop}{l e:Nat}{cs:List PV}(c:∀K':PV->cg->Prop,(∀cap,full e cap l->K' (.sl σ.aM 0 l cap) (σ.bf cs))->zA P f args σ K')(u:hZ 0 cs)
  (k:∀o cap,K (.fz DF (.sl o 0 l cap) l cs) σ):zA P f args σ K:=
 zA.gh (c _ λcap A=>Gh.finF (zC σ cs) (by simp[cg.bf]) (na _) u A.ok λo=>k o cap)
def tb(σ:cg)(K:PV->cg->Prop)(xs:V1):Prop:=(xs=[]->K (.fz DF .b8 0 []) σ)/\∀cap,full 1 cap xs.length->K (.sl σ.aM 0 xs.length cap) (σ.bf (cS xs))
def zA.fzI{P:Program}{f:FuncId}{args:List PV}{σ:cg}{K:PV->cg->Prop}{xs:V1}(c:∀K':PV->cg->Prop,tb σ K' xs->zA P f args σ K')(k:∀a,K (.fz DF a xs.length (cS xs)) σ):zA P f args σ K:=
 zA.gh (c _ ⟨λl=>by subst l;exact Gh.ret (k _),λcap u=>Gh.finF (zC σ _) (by simp[cg.bf]) (na _) (zL _ _) u.ok λo=>k _⟩)
def zA.fzN{P:Program}{f:FuncId}{args:List PV}{σ:cg}{K:PV->cg->Prop}{xs:V1}{n:Nat}(l:xs.length=n)(c:∀K':PV->cg->Prop,tb σ K' xs->zA P f args σ K')(k:∀a,K (.fz DF a n (cS xs)) σ):zA P f args σ K:=by
 subst l;exact zA.fzI c k
def ei.res{σ h:cg}{n:Nat}{v:PV}{xs:V1}{K:PV->cg->Prop}(l:cT σ h)(A:n=Lu xs)(a:ei σ.aM 1 h v n (cS xs))(k:tb σ K xs):Gh σ K v h:=by
 subst A;rcases a with ⟨rfl,u,C⟩|a
 .exact Gh.fin0 l trivial (k.1 (YU u))
 .exact a.out l (zL _ _) k.2
abbrev qI(d:Nat)(o:qk):II:=⟨Dc d,o,DF,none⟩
abbrev eI(d:Nat)(o:qk):II:=⟨Dc d,o,false,none⟩
abbrev nI(o:qk):II:=⟨none,o,false,none⟩
abbrev qD(d:Nat)(o:qk)(i:Nat):DI:=⟨⟨Dc d,o,DF,none⟩,i,[]⟩
abbrev eD(d:Nat)(o:qk)(i:Nat)(c:List Nat):DI:=⟨⟨Dc d,o,false,none⟩,i,c⟩
def PWF.newB{σ:cg}{cs:List PV}(w:PWF σ)(u:hZ σ.aM cs):PWF (σ.bf cs):=
 ⟨λs hs=>by rw[zI,DL (by simp only[cg.bf]at hs;omega)];exact w.wf s (by simp only[cg.bf]at hs;omega),λs l hs=>by
  rw[zI]at hs;split at hs
  .cases hs;exact u.up (UW _)
  .exact(w.bel s l hs).up (UW _)⟩
def Zq{s o:Nat}{cs:List PV}:∀vs:List PV,(kq s o cs vs).length=Lu vs
 |[]=>rfl
 |v::vs=>by simp only[kq,Yu,Zq vs]
def cT.sub{σ0 h:cg}(w:PWF σ0)(l:cT σ0 h){s o:Nat}{cs:List PV}(hs:σ0.aM<=s):cT σ0 (h.sub s o cs):=
 ⟨l.aM,l.top,λt u=>by
  simp only[cg.sub];rw[l.bt t u];cases hd:σ0.bt t with
  |none=>rfl
  |some b=>simp only[EF];rw[Q5 hs (w.bel t b hd)]⟩
def ei.pos{b e n:Nat}{h:cg}{v:PV}{cs:List PV}(a:ei b e h v n cs)(u:0<n):eA b e h v n cs:=by
 rcases a with ⟨_,l,_⟩|a
 .omega
 .exact a
def ei.low{b b' e n:Nat}{h:cg}{v:PV}{cs:List PV}(a:ei b e h v n cs)(E:b'<=b):ei b' e h v n cs:=by
 rcases a with a|⟨s,cap,rfl,l,u,A,C,D⟩
 .exact .inl a
 .exact .inr ⟨s,cap,rfl,l,u,A,UJ E C,D⟩
def ei.appS{σb h:cg}{e bytes n m:Nat}{v x:PV}{rows news:List PV}{K:PV×cg->Prop}(C:cT σb h)(a:ei σb.aM e h v n rows)(hx:vd x=Dc m)(hm:m≠0)(Y:ZV e h x m=Dc news)(E:news.length=m*e)
  (D:(n+m)*bytes<=140737488355328) (S:n+m<=4611686018427387904)
  (k:∀M h',cT σb h'->eA σb.aM e h' M (n+m) (rows++news)->(∀t,t<h.aM->(∀off l c,v≠.sl t off l c)->h'.bt t=h.bt t)->(∀t,t<h.aM->∀off l c,M≠.sl t off l c)->h.aM<h'.aM->K (M,h')):fw (qL e bytes h v x) K:=by
 rw[ZZ,hx];simp only[YP];rw[DL hm,Y];simp only[YP];have G:=C.aM;have J:∀t,t<h.aM->∀(off l:Nat) (c:jZ) (T:Nat) (O:jZ),PV.sl h.aM 0 T O≠.sl t off l c:=λt I off l c T O e=>by
  simp only[PV.sl.injEq]at e;omega
 rcases a with ⟨rfl,rfl,rfl⟩|⟨t,c,rfl,X,U,V,q4,q5⟩
 .rw[zBf,DK ⟨by simpa using D,af⟩];refine QD rfl (k _ _ (C.bf _) ⟨_,_,by rw[Y5],.inl rfl,by simp[cg.bf],by simpa using E,G,by simp[cg.bf]⟩ (λt I _=>?_) (λt I off l c=>J t I off l c _ _) (YM _));rw[zI,DL af]
 .rcases X with rfl|rfl
  .rw[zBE,DK ⟨D,S,rfl⟩,U];simp only[YP];rw[DK af,EC,YS af];refine QD rfl (k _ _ ((C.kill q4).bf _) ⟨_,_,rfl,.inl rfl,by simp[cg.bf,cg.kill],by rw[YB,V,E,FF],G,by simp[cg.bf,cg.kill]⟩ (λu A N=>?_) (λu A off l c=>J u A off l c _ _) (YM _));rw[zI,DL (by simp only[cg.kill];omega)]
   show(if u=t then none else _)=_
   rw[DL λe=>N 0 n _ (by rw[e])]
  .rw[zCq,DL af,DK ⟨D,S⟩,zV U,DK af,EC,YS af];simp only[EF];refine QD rfl (k _ _ (C.bf _) ⟨_,_,rfl,.inl rfl,by simp[cg.bf],by rw[YB,V,E,FF],G,by simp[cg.bf]⟩ (λu A N=>?_) (λu A off l c=>J u A off l c _ _) (YM _));rw[zI,DL af]
def ei.pushS{σb h:cg}{e bytes n:Nat}{v:PV}{rows news:List PV}{K:PV×cg->Prop}(G:cT σb h)(a:ei σb.aM e h v n rows)(S:news.length=e)(D:(n+1)*bytes<=140737488355328)(E:n+1<=4611686018427387904)
  (k:∀u h',cT σb h'->eA σb.aM e h' u (n+1) (rows++news)->(∀t,t<h.aM->(∀off l c,v≠.sl t off l c)->h'.bt t=h.bt t)->(∀t,t<h.aM->∀off l c,u≠.sl t off l c)->h.aM<h'.aM->K (u,h')):fw (qL e bytes (h.bf news) v (.sl h.aM 0 1 (.b6 1))) K:=
 ei.appS (m:=1) (G.bf _) (a.cf (zC _ _)) rfl af (by rw[ZG,DL af,DK (na _),zAS,DK rfl,DK af,EC,YS af]) af D E
  λu h' I J M N O=>k u h' I J (λt A C=>by rw[M t (Nat.lt_succ_of_lt A) C,zI,DL af]) (λt A=>N t (Nat.lt_succ_of_lt A)) (Nat.lt_trans (YM _) O)
def zLy{s o l:Nat}{cap:jZ}{rows cs:List PV}(u:hZ 0 rows)(A:gk cap l=DF):kq s o cs (rows++[.sl s 0 l cap])=rows++[.fz DF (.sl o 0 l cap) l cs]:=by
 rw[zGZ,Q5 (YV _) u];simp only[kq,sb,A,and_self,if_true]
section
open Go.ChangeShapes Go.WideShapes Go.RowKit Go.Deep
variable{w0 W:World}{j:gz}{h h':ct}{H:Type}{enc:TypeId×Value->H}{P:Program}{α:Type}
abbrev Cz(h:ct):Nat->Prop:=λo=>o<h.aM
def Ext.voks{pvs:List PV}{n:Nat}(e:Ext h h')(u:dP (Cz h) h n pvs):dP (Cz h') h' n pvs:=u.mono (λo l=>⟨Yw l e.aM,e.bt o l⟩) (na _)
def MR.name(m:MR W.heap.size w0 j h W)(l:Loc):MR W.heap.size w0 (j.put h.aM l) ⟨h.aM+1,h.bt⟩ W/\j.le (j.put h.aM l)/\Ext h ⟨h.aM+1,h.bt⟩:=by
 have hle:=gz.le_put m l;have T:h.bt h.aM=none:=(m.fresh _ (na _)).1;have conv:∀{o:Nat} {D:tZ} {C:Loc},h.bt o=Dc D->(j.put h.aM l) o=Dc C->j o=Dc C:=λ{o D C} u A=>by
  have:o≠h.aM:=λe=>by subst e;rw[T]at u;cases u
  simpa [gz.put,this]using A
 refine⟨⟨m.below,m.bnd,λo u=>?_,λo D C u A=>?_,λo S x U N O G u E A I M=>m.apart o S x U N O G u E (conv u A) (conv E I) M⟩,hle,⟨aK,λ_ _=>rfl,λo u=>m.wf o (by simp at u;omega)⟩⟩
 .simp only at u;refine⟨m.wf o af,?_⟩;simp only[gz.put];rw[DL af];exact(m.fresh o af).2
 .obtain⟨a,cur,ty,fz,b,c,d⟩:=m.bt o D C u (conv u A);exact⟨a,cur,ty,fz,b,λi v hi=>by obtain⟨J,x,y⟩:=c i v hi;exact⟨J,x,VI.mono hle _ _ y⟩,d⟩
def Lay1(enc:TypeId×Value->H)(P:Program)(W:World)(t:TypeId)(R:PV->α->Prop):Prop:=∀(w0:World) (j:gz) (h:ct) (held:Bool) (fuel:Nat) (v:Value) (x:DataW H×List MemPlace),MR W.heap.size w0 j h W->
 DataW.trod enc P W 0 (λ_=>DF) held fuel t [v]=Dc x->∃(l:gz) (h':ct) (pv:PV) (a:α),MR W.heap.size w0 l h' W/\j.le l/\Ext h h'/\VI l (er vq pv) v/\kj (Cz h') h' 0 pv/\pv.one=DF/\R pv a
def Lay1.cells{e:TypeId}{R:PV->α->Prop}(L:Lay1 enc P W e R){V:Nat->Value}{D:Nat->DataW H}{I:Nat->List MemPlace}{held:Bool}{fuel:Nat}{w0:World}:∀(n:Nat) {j:gz} {h:ct},MR W.heap.size w0 j h W->
  (∀i,i<n->DataW.trod enc P W 0 (λ_=>DF) held fuel e [V i]=Dc (D i,I i))->
  ∃(l:gz) (h':ct) (pvs:List PV) (as:List α),MR W.heap.size w0 l h' W/\j.le l/\Ext h h'/\Lu pvs=n/\(∀i pv,pvs[i]? = Dc pv->VI l (er vq pv) (V i))/\dP (Cz h') h' 0 pvs/\pvs.all PV.one=DF/\dd R pvs as
 |0,j,h,m,_=>⟨j,h,[],[],m,gz.le.refl _,Ext.refl m.wf,rfl,λi pv hi=>(by simp at hi),DJ,rfl,dd.nil _⟩
 |n+1,j,h,m,hx=>by
  obtain⟨X,N,pvs,as,m1,l1,M,A,U,S,J,T⟩:=Lay1.cells L n m λi hi=>hx i af;obtain⟨Y,O,pv,a,m2,C,u,v2,o2,E,r2⟩:=L w0 X N held fuel (V n) _ m1 (hx n af);refine⟨Y,O,pvs++[pv],as++[a],m2,l1.trans C,M.trans u,by simp[A],λi G hi=>?_,(u.voks S).append ⟨o2,DJ⟩,by simp[J,E],T.snoc r2⟩;rcases Eo i n with x|x|x
  .rw[Yn af]at hi;exact VI.mono C _ _ (U i G hi)
  .subst x;rw[Yz af]at hi;simp[A]at hi;subst hi;exact v2
  .rw[Yq (by simp;omega)]at hi;cases hi
def addr_add(a:Addr)(i:Nat):(a.add i).block=a.block:=by unfold Addr.add;split<;>rfl
def zPF{t e:TypeId}(ht:P.underlying t=Dc (.slice e))(u:P.cellsOf e=1){R:PV->α->Prop}(L:Lay1 enc P W e R):Lay1 enc P W t (λv (xs:List α)=>FL R v xs/\Lu xs<=9223372036854775807):=by
 intro w0 j h held fuel v x m hx;rcases open_slice1 ht u hx with ⟨A,rfl⟩|⟨a,len,c0,cap,n,a0,D,Pl,A,_,hl,hm,J,rfl,C⟩
 .simp only[List.cons.injEq,and_true]at A;subst A;exact⟨j,h,.fz DF .b8 0 [],[],m,gz.le.refl _,Ext.refl m.wf,rfl,⟨.inl ⟨rfl,rfl,rfl⟩,DJ⟩,rfl,⟨DF,.b8,[],rfl,dd.nil _⟩,aK⟩
 simp only[if_true]at J;subst J;simp only[List.cons.injEq,and_true]at A;subst A;have gK:maxLen=9223372036854775807:=rfl;by_cases h0:cap=0
 .subst h0;obtain rfl:len=0:=af
  obtain⟨m',l',e'⟩:=m.name ⟨0,0,0⟩;exact⟨_,_,.fz false (.sl h.aM 0 0 (.b6 0)) 0 [],[],m',l',e',⟨⟨0,0,0⟩,a,by simp[gz.put],rfl,.inr ⟨rfl,rfl⟩⟩,⟨.inr ⟨h.aM,0,.b6 0,rfl,by simp[Cz],.inl rfl,λc u=>by cases u;exact na _,aK⟩,DJ⟩,rfl,⟨false,_,[],rfl,dd.nil _⟩,aK⟩
 obtain⟨hs,cur,ty,fz,hb,_⟩:=zMW (C 0 af).1;obtain⟨blk,off,spot⟩:=a;have yL:spot=none:=by simpa [Addr.add]using hs
 subst yL;have G:W.heap[blk]? = Dc (.cells cur ty fz):=by simpa [Addr.add]using hb
 have X:=zTN G;obtain⟨j1,O,pvs,as,I,l1,e1,T,dB,U,Y,S⟩:=L.cells len m λi hi=>(C i af).2;have m2:=I.lay (cells:=ju vq pvs) (l:=⟨blk,off,0⟩) (by rw[zFB U];exact Y) X G (by
  intro i v hi;rw[zDJ]at hi;obtain⟨pv,V,rfl⟩:=YK.1 hi;have aR:i<len:=by rw[<-T];exact(Yj.1 V).1
  obtain⟨_,qq,oS,Bt,E,M⟩:=zMW (C i af).1;rw[addr_add]at E;rw[G]at E;cases E;rw[show((⟨blk,off,none⟩:Addr).add i).off=off+i by unfold Addr.add;split<;>simp_all]at M;exact⟨_,M,dB i pv V⟩)
 have N:=Ext.bf I.wf ⟨false,ju vq pvs⟩;have db:=S.1;refine⟨_,_,.fz false (.sl O.aM 0 len (.b6 cap)) len pvs,as,m2,l1.trans (gz.le_put I _),e1.trans N,⟨⟨blk,off,0⟩,_,by simp[gz.put],rfl,.inl rfl⟩,⟨.inr ⟨O.aM,0,.b6 cap,rfl,by simp[Cz,ct.bf],.inr (zDU (zNF _) rfl),λc u=>by cases u;exact hl,aK⟩,N.voks U⟩,rfl,⟨false,_,pvs,by rw[<-db,T],S⟩,af⟩
def dd.all{β γ:Type}{R:β->γ->Prop}{as:List β}{l:List γ}(h:dd R as l){p:γ->Prop}(C:∀a b,R a b->p b):∀b∈l,p b:=by
 intro b u;obtain⟨k,A,rfl⟩:=YR.1 u;obtain⟨a,_,D⟩:=h.get A;exact C _ _ D
def FL.all{R:PV->α->Prop}{v:PV}{xs:List α}(h:FL R v xs){p:α->Prop}(l:∀v x,R v x->p x):∀x∈xs,p x:=by
 obtain⟨w,a,rows,rfl,h⟩:=h;exact h.all l
def cg.start(h:ct):cg:=⟨0,h.aM,λ_=>none⟩
def zOG(hw:HWF h):Rel vq (Cz h) (cg.start h) h:=⟨hw,λ_ l=>l,na _,λ_ _=>rfl,λ_ _ l=>(by cases l),λ_ _ _ _ l=>(by cases l)⟩
def zA.law{f:FuncId}{args:List PV}(c:zA P f args (cg.start h) (λv _=>v=.bool DF))(hw:HWF h)(l:dP (Cz h) h 0 args):Zm P f (ju vq args) h (λv _=>v=.bool DF):=by
 refine(c vq (Cz h) h (zOG hw) l).mono ?_
 rintro v h' ⟨pv,σ',ι',Z',_,_,_,rfl,rfl⟩
 rfl
end
section
variable{σ:cg}{L:List (Nat×List PV)}
mutual
def ead:PV->List Nat
 | .fz _ a _ cs=>bif cs.isEmpty then []else match a with | .sl o _ _ _=>o::n0 cs|_=>[]
 | .fp a cs=>bif cs.isEmpty then []else match a with | .ptr o _=>o::n0 cs|_=>[]
 | .clo _ a b=>n0 a++n0 b
 | .agg cs=>n0 cs
 | .tup cs=>n0 cs
 |_=>[]
def n0:List PV->List Nat
 |[]=>[]
 |c::cs=>ead c++n0 cs
end
mutual
def rm(L:List (Nat×List PV)):PV->PV
 | .fz w a len cs=>bif cs.isEmpty then .fz w a len cs else
  match a with
  | .sl o off l cap=>
   match L.lookup o with
   |some ms=>bif w then .fz DF (.sl o off l cap) len ms else .fp (.sl o off l cap) []
   |none=>.fz w (.sl o off l cap) len (rms L cs)
  |a=>.fz w a len cs
 | .fp a cs=>bif cs.isEmpty then .fp a cs else
  match a with
  | .ptr o i=>
   match L.lookup o with
   |some _=>.fp (.ptr o i) []
   |none=>.fp (.ptr o i) (rms L cs)
  |a=>.fp a cs
 | .clo f a b=>.clo f (rms L a) (rms L b)
 | .agg cs=>.agg (rms L cs)
 | .tup cs=>.tup (rms L cs)
 |v=>v
def rms(L:List (Nat×List PV)):List PV->List PV
 |[]=>[]
 |c::cs=>rm L c::rms L cs
end
def zCx:∀(as l:List PV),n0 (as++l)=n0 as++n0 l
 |[],_=>rfl
 |a::as,l=>by simp only[Yr,n0,zCx as l,Yv]
def cg.rmap(σ:cg)(L:List (Nat×List PV)):cg:=⟨σ.aM,σ.top,λs=>(σ.bt s).map (rms L)⟩
end
section
variable{P:Program}{h:ct}{σ σ0 σ1:cg}{K:PV->cg->Prop}
def isSl:AV->Bool
 | .sl _ _ _ _=>DF
 |_=>false
mutual
def Wh:PV->Prop
 | .fz w a _ cs=>cs=[]\/(w=DF/\isSl a=DF/\Whs cs)
 | .fp _ cs=>cs=[]
 | .clo _ a b=>Whs a/\Whs b
 | .agg cs=>Whs cs
 | .tup cs=>Whs cs
 |_=>True
def Whs:List PV->Prop
 |[]=>True
 |c::cs=>Wh c/\Whs cs
end
def zH5:∀{cs:List PV},Whs cs↔∀c∈cs,Wh c
 |[]=>by simp[Whs]
 |c::cs=>by simp[Whs,zH5 (cs:=cs)]
structure Own(lo hi:Nat)(v:PV):Prop where
 wh:Wh v
 nd:(ead v).Nodup
 lt:∀o∈ead v,lo<=o/\o<hi
structure xz(lo hi:Nat)(cs:List PV):Prop where
 wh:Whs cs
 nd:(n0 cs).Nodup
 lt:∀o∈n0 cs,lo<=o/\o<hi
def xz.mono{v:List PV}(h:xz lo hi v)(u:Hx<=lo)(A:hi<=fJ):xz Hx fJ v:=⟨h.wh,h.nd,λo l=>by have:=h.lt o l;omega⟩
def xz.nil(lo hi:Nat):xz lo hi []:=⟨DJ,FK,λo l=>by cases l⟩
def xz.snoc{cs:List PV}{c:PV}(h:xz lo t cs)(g:Own t hi c)(A:lo<=t)(C:t<=hi):xz lo hi (cs++[c]):=by
 refine⟨zH5.2 λx hx=>?_,?_,λo ho=>?_⟩
 .rcases YY.1 hx with hx|hx
  .exact zH5.1 h.wh x hx
  .rw[YT.1 hx];exact g.wh
 .rw[zCx,FQ];simp only[n0,Ye];refine⟨h.nd,g.nd,λa l b u e=>?_⟩
  have:=h.lt a l
  have:=g.lt b u
  omega
 .rw[zCx]at ho;simp only[n0,Ye,YY]at ho;rcases ho with ho|ho
  .have:=h.lt o ho;omega
  .have:=g.lt o ho;omega
def Own.empty(lo hi:Nat)(w:Bool)(a:AV)(l:Nat):Own lo hi (.fz w a l []):=⟨.inl rfl,FK,λo u=>by cases u⟩
def xz.fz{cs:List PV}{o l:Nat}{cap:jZ}(h:xz lo hi cs)(u:lo<=o)(A:o<hi)(C:o∉n0 cs):Own lo hi (.fz DF (.sl o 0 l cap) l cs):=by
 refine⟨.inr ⟨rfl,rfl,h.wh⟩,?_,λx hx=>?_⟩
 .unfold ead;cases cs.isEmpty
  .simp only[cond_false,US];exact He.2 ⟨C,h.nd⟩
  .exact FK
 .unfold ead at hx;cases he:cs.isEmpty<;>rw[he]at hx
  .simp only[cond_false,US,YH]at hx;rcases hx with rfl|hx
   .exact⟨u,A⟩
   .exact h.lt x hx
  .cases hx
def zKH(xs:V1):n0 (cS xs)=[]:=by
 induction xs with
 |nil=>rfl
 |cons x xs ih=>simp only[zQV,n0,ead,ih,Ye]
def zSW(xs:V1):Whs (cS xs):=by
 induction xs with
 |nil=>trivial
 |cons x xs ih=>exact⟨DJ,ih⟩
def xz.cS(lo hi:Nat)(xs:V1):xz lo hi (cS xs):=⟨zSW xs,by rw[zKH];exact FK,λo l=>by rw[zKH]at l;cases l⟩
mutual
def zPd:∀{v:PV} {o:Nat},o∈ead v->o∈oi v
 | .undef,o,ho | .bool _,o,ho | .int _ _,o,ho | .str _,o,ho | .nilp,o,ho | .nilf,o,ho | .ptr _ _,o,ho | .sl _ _ _ _,o,ho=>by simp[ead]at ho
 | .fz w a len cs,o,ho=>by
  unfold ead at ho;cases he:cs.isEmpty<;>rw[he]at ho
  .simp only[cond_false,YY]at ho;have l:o∈n0 cs->o∈ZR cs:=Z5;cases a<;>simp only[oi,YH,Ym,false_or,or_false]at ho ⊢<;>first|exact ho.imp id l|skip
  .cases ho
 | .fp a cs,o,ho=>by
  unfold ead at ho;cases he:cs.isEmpty<;>rw[he]at ho
  .simp only[cond_false,YY]at ho;have l:o∈n0 cs->o∈ZR cs:=Z5;cases a<;>simp only[oi,he,EB,if_false,YY,YH,Ym,false_or,or_false]at ho ⊢<;>first|exact ho.imp id l|skip
  .cases ho
 | .clo _ a b,o,ho=>by
  simp only[ead,oi,YY]at ho ⊢;exact ho.imp Z5 Z5
 | .agg cs,o,ho=>Z5 (cs:=cs) ho
 | .tup cs,o,ho=>Z5 (cs:=cs) ho
def Z5:∀{cs:List PV} {o:Nat},o∈n0 cs->o∈ZR cs
 |[],o,ho=>by cases ho
 |c::cs,o,ho=>by
  simp only[n0,ZR,YY]at ho ⊢;exact ho.imp zPd Z5
end
def Gh.own{s l:Nat}{cap:jZ}{cs:List PV}(A:cT σ0 σ1)(hs:σ1.bt s=Dc cs)(D:σ0.aM<=s)(J:hZ 0 cs)(C:gk cap l=DF)(N:xz σ0.top σ1.top cs)
  (k:∀o t,Own σ0.top t (.fz DF (.sl o 0 l cap) l cs)->σ0.top<=t->K (.fz DF (.sl o 0 l cap) l cs) (σ0.up t)):Gh σ0 K (.sl s 0 l cap) σ1:=
 Gh.finZ A hs D J C λo E G t I u=>k o t ((N.mono (na _) u).fz E I λM=>G (Z5 M)) (UJ A.top u)
def zA.fzIT{f:FuncId}{args:List PV}{xs:V1}(c:∀K':PV->cg->Prop,tb σ K' xs->zA P f args σ K')(k:∀v t,FI v xs->Own σ.top t v->σ.top<=t->K v (σ.up t)):zA P f args σ K:=
 zA.gh (c _ ⟨λl=>by subst l;exact Gh.ret (k _ σ.top ⟨DF,.b8,rfl⟩ (Own.empty _ _ _ _ _) (na _)),λcap C=>Gh.own (zC σ _) (by simp[cg.bf]) (na _) (zL _ _) C.ok (xz.cS _ _ _) λo t u A=>k _ t ⟨DF,_,rfl⟩ u A⟩)
def zNe{α:Type}{cs:List α}(h:cs≠[]):cs.isEmpty=false:=by cases cs;exact absurd rfl h;rfl
def zTE{w:Bool}{o off l n:Nat}{cap:jZ}{cs:List PV}(u:cs≠[]):ead (.fz w (.sl o off l cap) n cs)=o::n0 cs:=by
 rw[ead,zNe u];rfl
variable{α:Type}{len:α->Nat}
end
section
variable{σ0 σ1:cg}{K:PV->cg->Prop}
def Gh.freezeH{v:PV}{s:Nat}{cs:List PV}(hs:σ1.bt s=Dc cs)(h0:σ0.aM<=s)(u:hZ 0 cs)
  (k:∀o,σ0.top<=o->(∀t C,σ1.bt t=Dc C->o∉ZR C)->o∉oi v->Gh σ0 K (sb s o cs v) (((σ1.kill s).sub s o cs).up (max σ1.top (o+1)))):Gh σ0 K v σ1:=by
 intro w ι Z h b r J h1 h2 I h4;obtain⟨r',G,A,M⟩:=r.freeze hs u;have kK:=I s cs h0 hs;have D:∀o,Z o->(Z o\/o=ι s)/\h.bt o=h.bt o:=λo A=>⟨.inl A,rfl⟩
 have r3:=r'.sub (s:=s) rfl (.inr rfl) A (G.mono D (na _));have conv:∀{t:Nat} {a:List PV},((σ1.kill s).sub s (ι s) cs).bt t=Dc a->∃b,σ1.bt t=Dc b:=λ{t a} l=>by
  simp only[cg.sub,cg.kill,YK]at l;obtain⟨b,u,_⟩:=l;split at u
  .cases u
  .exact⟨b,u⟩
 obtain⟨v2,σ2,ι2,N,O,S,T,U,V,X,Y,g8,g9⟩:=k (ι s) af (λt C l E=>M (QZ (r.bt t C l).2.1 _ E)) (λE=>M (zH4 J _ E)) w ι (λo=>Z o\/o=ι s) h b r3
  (kj.sb (.inr rfl) A (G.mono D (na _)) (J.mono D (na _))) h1 h2 (λt C l hd=>by obtain⟨b,u⟩:=conv hd;exact I t b l u)
  (λt l hd=>by
   have:=h4 t l hd
   simp only[cg.sub,cg.kill,cg.up];split
   .rfl
   .rw[this];rfl)
 exact⟨v2,σ2,ι2,N,O,S,T,U,λo A=>V o (.inl A),X,Y,g8.trans (er_sb rfl v),g9⟩
def dd.imp{α β:Type}{R S:α->β->Prop}{as:List α}{l:List β}(h:dd R as l)(hi:∀a b,R a b->S a b):dd S as l:=⟨h.1,λk a b u A=>hi a b (h.2 k a b u A)⟩
end
structure SR where
 s:Nat
 cap:jZ
 x:V1
def SR.pv(q:SR):PV:=.sl q.s 0 q.x.length q.cap
def SR.ok(σ:cg)(b:Nat)(q:SR):Prop:=full 1 q.cap q.x.length/\σ.bt q.s=Dc (cS q.x)/\b<=q.s/\q.s<σ.aM
def qM(rows:List SR):List Nat:=rows.map SR.s
section
variable{h:cg}
def SR.ok.cf{b:Nat}{h':cg}{q:SR}(a:q.ok h b)(k:cT h h'):q.ok h' b:=⟨a.1,by rw[k.bt _ a.2.2.2];exact a.2.1,a.2.2.1,Yw a.2.2.2 k.aM⟩
end
def Lk{P Q:Prop}(h:Q)(e:P=Q:=by simp only[Z3,seval,-Int.reduceNatCast'];rfl):P:=e.mpr h
def Lm{A:Prop}(h:¬A):(false=true)↔A:=⟨λx=>(by cases x),λx=>absurd x h⟩
abbrev Ln:PV:=.fz true .b8 0 []
end Go.Ab
