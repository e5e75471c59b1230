/- . -/
import Derived.Test.YtjcghjopopohiaaGreatDoorQAbDefs
import Derived.Deep.LoopGhost
import Derived.Deep.Matrix
import Derived.Carry
import Derived.ChangeSame
import Derived.OpenShut
set_option linter.all false
set_option linter.defProp false
open Go.IntKind renaming wrap->Tu
open List renaming length->Tw
open Array renaming getD_eq_getD_getElem?->IS,replicate->IA,toArray_toList->Js
open Bool renaming false_eq_true->JM,true->Im
open Int renaming toNat_natCast->KH
open List renaming drop->Kf,drop_eq_nil_of_le->Kz,drop_take->Jc,drop_zero->J0,ext_getElem?->Kr,getElem?_cons_succ->IU,getElem?_cons_zero->Og,length_nil->Ov,map_congr_left->JI,mem_of_mem_drop->Jx,nodup_append->LD,nodup_cons->Q1,nodup_nil->LC,range->Iw,replicate->Jf,set_eq_take_append_cons_drop->KL
open Nat renaming add_mul->La,lt_succ_of_lt->Lk,lt_trichotomy->Je,mul_one->KE,ne_of_lt->Jn,not_lt_zero->Jv
open Option renaming isSome_none->Kx,map_some->Kc,some->Ik
open True renaming intro->Is
set_option maxRecDepth 100000
namespace Go.Ab
variable{B Jy hi hi' lo n n' t:Nat}
section
open Go.RowKit
inductive IC where
 |skip
 |region (S:List Nat) (bA:List II)
 |draw (S:List Nat) (zs:List (List AV)) (bA:List DI)
 |tree (S:List Nat) (t:OT)
 |seq (a b:IC)
 |cond (c:IX) (a b:IC)
 |block (id:Nat) (c:IC)
 |loop (S:List Nat) (c:IC)
 |exit (id:Nat)
 |ret
def Env.mk:List Nat->List AV->Env
 |s::S,v::vs=>λt=>if t=s then v else Env.mk S vs t
 |_,_=>λ_=>.undef
def dN.news(h:dN):List (List AV)->dN
 |[]=>h
 |z::zs=>(h.cb ⟨Im,z⟩).news zs
def vc(P:Program):IC->(Exit->Env->dN->Prop)->Env->dN->Prop
 | .skip,Q,e,h=>Q .normal e h
 | .region S bA,Q,e,h=>RV P bA e h λe' h'=>Q .normal (Env.mk S (S.map e')) h'
 | .draw S zs bA,Q,e,h=>DV P h.bY bA [] e (h.news zs) λe' h'=>Q .normal (Env.mk S (S.map e')) h'
 | .tree S t,Q,e,h=>TV P t [] e h λe' h'=>Q .normal (Env.mk S (S.map e')) h'
 | .seq a b,Q,e,h=>vc P a (λx e' h'=>match x with | .normal=>vc P b Q e' h'|x=>Q x e' h') e h
 | .cond c a b,Q,e,h=>match c.ev e with
  | .bool t=>if t=Im then vc P a Q e h else vc P b Q e h
  |_=>False
 | .block id c,Q,e,h=>vc P c (λx e' h'=>match x with | .exit sU=>if sU=id then Q .normal e' h' else Q (.exit sU) e' h'|x=>Q x e' h') e h
 | .loop S c,Q,e,h=>∃I:Nat->List AV->dN->Prop,(∃n,I n (S.map e) h)/\
   ∀n vs h,I n vs h->vc P c (λx e' h'=>match x with | .normal=>∃n',n'<n/\I n' (S.map e') h'|x=>Q x e' h') (Env.mk S vs) h
 | .exit id,Q,e,h=>Q (.exit id) e h
 | .ret,Q,e,h=>Q .ret e h
def insS(x:Nat):List Nat->List Nat
 |[]=>[x]
 |y::r=>if x<y then x::y::r else if x=y then y::r else y::insS x r
def zBi(a b:List Nat):List Nat:=a.foldr insS b
def zIA(l:List Operand):List Nat:=l.filterMap λ| .tmp t=>Ik t|_=>none
def zNa(ops:Array Oper)(o:Oper):List Nat:=
 zIA o.op.operands.toList++(match o.guard with|some (k,_)=>((ops[k]?).bind (·.dst)).toList|none=>[])
def lvOps(ops:Array Oper):List Oper->List Nat->List Nat
 |[],out=>out
 |o::r,out=>
  let l:=lvOps ops r out
  let l:=match o.dst with|some d=>l.filter (· != d)|none=>l
  zBi (zNa ops o) l
def exitL(id:Nat):List (Nat×List Nat)->List Nat
 |[]=>[]
 |(i,l)::r=>if i=id then l else exitL id r
def lv:Code->List Nat->List (Nat×List Nat)->List Nat->List Nat
 | .region _ ops _,out,_,_=>lvOps ops ops.toList out
 | .seq a b,out,ex,rt=>lv a (lv b out ex rt) ex rt
 | .cond c a b,out,ex,rt=>zBi (zIA [c]) (zBi (lv a out ex rt) (lv b out ex rt))
 | .block id c,out,ex,rt=>lv c out ((id,out)::ex) rt
 | .loop c,_,ex,rt=>lv c [] ex rt
 | .exit id,_,ex,_=>exitL id ex
 | .ret,_,_,rt=>rt
 | .scope c,out,ex,rt=>lv c out ex rt
 |_,out,_,_=>out
def mkPt(ops:Array Oper):List (List Nat):=
 ops.toList.foldl (λm o=>m++[(qK o).foldl (λl d=>zBi (insS d (m.getD d [])) l) []]) []
def zN2(P:Program)(al:Bool)(o:Oper):Bool:=
 match o.op with
 | .alloc _=>Im
 | .buildSlice _ _ _=>(cNew P al o).isSome
 |op=>(copQ P op).isSome
def zGH(m:List (List Nat))(u:List Bool):Nat->List Nat->List Nat->List Nat
 |0,_,done=>done
 |fuel+1,rem,done=>
  let ready:=rem.filter λi=>(m.getD i []).all λx=>done.contains x
  match ready.find? (λi=>u.getD i false)with
  |some i=>zGH m u fuel (rem.filter (· != i)) (done++[i])
  |none=>match ready with
   |i::_=>zGH m u fuel (rem.filter (· != i)) (done++[i])
   |[]=>done
def zFv(P:Program)(nt:Nat)(ops:Array Oper)(al:Bool):Option (List DI×List (List AV)):=
 let pt:=mkPt ops
 let order:=zGH pt (ops.toList.map (zN2 P al)) ops.size (Iw ops.size) []
 (cDIs P nt ops pt al order [] 0).bind λx=>if dOk ops pt order x.1=Im then Ik x else none
def cDraw(P:Program)(nt:Nat)(ops:Array Oper):Option (List DI×List (List AV)):=
 match zFv P nt ops false with
 |some x=>Ik x
 |none=>zFv P nt ops Im
def cTree(P:Program)(nt:Nat)(ops:Array Oper):Option OT:=
 if (ops.toList.filter λo=>(copQ P o.op).isNone).length<=6/\F6 ops (mkPt ops)=Im then mkT P nt ops (mkPt ops) ops.size (IA ops.size false) []else none
def deadI:II:=⟨none,.extract (.c (.bool false)) 0,Im,none⟩
def zRA(o:Oper):Bool:=
 match o.op with
 | .panic _=>Im
 |_=>false
def cC(P:Program)(nt:Nat):Code->List Nat->List (Nat×List Nat)->List Nat->Option (IC×List Nat)
 | .skip,out,_,_ | .label _,out,_,_=>Ik (.skip,out)
 | .region _ ops false,out,_,_=>if ops.toList.any zRA=Im then Ik (.region [] [deadI],[])else(zFu P nt ops ops.toList).map λm=>(.region out m,lvOps ops ops.toList out)
 | .region _ ops Im,out,_,_=>match cDraw P nt ops with
  |some x=>Ik (.draw out x.2 x.1,lvOps ops ops.toList out)
  |none=>(cTree P nt ops).map λt=>(.tree out t,lvOps ops ops.toList out)
 | .seq a b,out,ex,rt=>(cC P nt b out ex rt).bind λy=>(cC P nt a y.2 ex rt).map λx=>(.seq x.1 y.1,x.2)
 | .cond c a b,out,ex,rt=>(cx c).bind λu=>(cC P nt a out ex rt).bind λx=>(cC P nt b out ex rt).map λy=>(.cond u x.1 y.1,zBi (zIA [c]) (zBi x.2 y.2))
 | .block id c,out,ex,rt=>(cC P nt c out ((id,out)::ex) rt).map λx=>(.block id x.1,x.2)
 | .loop c,_,ex,rt=>
  let X:=lv c [] ex rt
  (cC P nt c X ex rt).map λx=>(.loop X x.1,X)
 | .exit id,_,ex,_=>Ik (.exit id,exitL id ex)
 | .ret,_,_,rt=>Ik (.ret,rt)
 |_,_,_,_=>none
variable{P:Program}{B:Nat}{w0 w:World}{j:jv}{h h':dN}{nt nb:Nat}{e e':Env}{a:Act}{ops:Array Oper}
def Env.mk_map(e:Env):∀(S:List Nat) (t:Nat),Env.mk S (S.map e) t=e t\/Env.mk S (S.map e) t=.undef
 |[],t=>.inr rfl
 |s::S,t=>by
  simp only[Yw,Env.mk];by_cases hs:t=s
  .subst hs;rw[Iu rfl];exact .inl rfl
  .rw[Iv hs];exact Env.mk_map e S t
def ER.trim(r:ER nt j e a)(S:List Nat):ER nt j (Env.mk S (S.map e)) a:=by
 refine⟨λt=>?_,r.size,r.defers⟩;rcases Env.mk_map e S t with x|x
 .rw[x];exact r.vals t
 .rw[x];trivial
def MR.pend(m:MR B w0 j h w)(S:u2):MR B w0 j (h.cb S) w:=by
 have E:j h.bY=none:=(m.fresh h.bY (sB _)).2;refine⟨m.below,m.bnd,m.gd,λo A=>?_,λo O l A u=>?_,λo I x T l R C A G u D N=>?_⟩
 .simp only[dN.cb]at A ⊢;rw[Iv aH];exact m.fresh o aH
 .have C:o≠h.bY:=λy=>by rw[y,E]at u;cases u
  simp only[dN.cb,Iv C]at A;exact m.cd o O l A u
 .have h1:o≠h.bY:=λy=>by rw[y,E]at u;cases u
  have J:I≠h.bY:=λy=>by rw[y,E]at D;cases D
  simp only[dN.cb,Iv h1]at A;simp only[dN.cb,Iv J]at G;exact m.apart o I x T l R C A G u D N
def zGd:∀(zs:List (List AV)) {h:dN},MR B w0 j h w->MR B w0 j (h.news zs) w/\(h.news zs).bY=h.bY+Tw zs/\(∀o,o<h.bY->(h.news zs).cd o=h.cd o)/\
  (∀k z,zs[k]? = Ik z->(h.news zs).cd (h.bY+k)=Ik ⟨Im,z⟩)/\∀k,k<Tw zs->j (h.bY+k)=none
 |[],h,m=>⟨m,rfl,λ_ _=>rfl,λk z J=>by simp at J,λk D=>by simp at D⟩
 |z::zs,h,m=>by
  obtain⟨E,G,C,I,N⟩:=zGd zs (m.pend ⟨Im,z⟩);refine⟨E,?_,λo O=>?_,λk u A=>?_,λk D=>?_⟩
  .show((h.cb ⟨Im,z⟩).news zs).bY=_
   rw[G];simp only[dN.cb,YF];omega
  .simp only[dN.news];rw[C o (by simp only[dN.cb];omega)];simp only[dN.cb];rw[Iv aH]
  .simp only[dN.news];cases k with
   |zero=>
    simp at A;subst A;rw[C _ (by simp[dN.cb])];simp[dN.cb]
   |succ k=>
    have:=I k u (by simpa using A)
    simp only[dN.cb]at this;rw[<-this];congr 1;omega
  .exact(m.fresh _ (Um _ _)).2
def Post(B:Nat)(w0:World)(nt:Nat)(j:jv)(h:dN)(Q:Exit->Env->dN->Prop):Exit->Act->World->Prop:=λx a' w'=>
 ∃m h' e',FR j h m h'/\MR B w0 m h' w'/\ER nt m e' a'/\Q x e' h'
def zEL(U:P.follows .mixedOrders=Im){id:Nat}{u:List DI}{zs:List (List AV)}{al:Bool}(A:zFv P nt ops al=Ik (u,zs))(m:MR B w0 j h w)(r:ER nt j e a){S:List Nat}{Q:Exit->Env->dN->Prop}
  (E:DV P h.bY u [] e (h.news zs) λe' h'=>Q .normal (Env.mk S (S.map e')) h'):(Code.region id ops Im).wp P (Post B w0 nt j h Q) a w:=by
 simp only[zFv,YX]at A;obtain⟨⟨xW,Bf⟩,ny,A⟩:=A;split at A
 .rename_i D;cases A;simp only[dOk,Yt,beq_iff_eq,decide_eq_true_eq]at D;obtain⟨⟨⟨⟨⟨⟨T,C⟩,R⟩,hlen⟩,af⟩,X⟩,mq⟩:=D;obtain⟨I,J⟩:=zDT _ [] 0 ny [] rfl;obtain⟨Y,n1,n2,n3,n4⟩:=zGd zs m.drew;have O:(u.map (·.idx)).length=ops.size:=by rw[C];exact hlen
  refine wp_region_any U ?_;have N:∀i,i<ops.size->((IA ops.size false).getD i Im=false↔∃it∈u,it.idx=i):=by
   intro i hi;have V:(IA ops.size false).getD i Im=false:=by simp[IS,hi]
   refine⟨λ_=>?_,λ_=>V⟩;have pX:i∈u.map (·.idx):=by
    simp_all
   grind
  refine zI1 (zs:=zs) (js:=j) (hs:=h) (nb:=h.bY) (K:=λe' h'=>Q .normal (Env.mk S (S.map e')) h') rfl T ?_ ops.size _ u (by simpa using O) bj N (zEZ X) (zEZ mq) (by rw[C];exact R) J ?_
   (λit hit=>by simpa using (I it hit).1) ?_ Y r E ⟨by rw[n1];omega,λ_ _=>rfl,λo G _=>n2 o G⟩
  .intro j' h' e' a' w' hf hm hr hq;exact⟨j',h',_,hf,hm,hr.trim S,hq⟩
  .simp_all
  .intro it hit k E;obtain⟨o,G,bU⟩:=(I it hit).1;grind
 .cases A
def zMQ(C:P.follows .mixedOrders=Im){id:Nat}{A:List DI}{zs:List (List AV)}(u:cDraw P nt ops=Ik (A,zs))(m:MR B w0 j h w)(r:ER nt j e a){S:List Nat}{Q:Exit->Env->dN->Prop}
  (D:DV P h.bY A [] e (h.news zs) λe' h'=>Q .normal (Env.mk S (S.map e')) h'):(Code.region id ops Im).wp P (Post B w0 nt j h Q) a w:=by
 unfold cDraw at u;split at u
 .rename_i x E;cases u;exact zEL C E m r D
 .exact zEL C u m r D
def B4.start:B4 P nt ops (mkPt ops) (IA ops.size false) (IA ops.size false) [] []:=by
 have g:∀i,i<ops.size->(IA ops.size false).getD i Im=false:=λi hi=>by
  simp_all
 exact⟨bj,bj,λi hi=>bj,λq m=>absurd m (Ya),λq m=>absurd m (Ya),λq m=>absurd m (Ya),.nil,bj,λq m=>absurd m (Ya),
  λi hi h=>(by rw[g i hi]at h;cases h),λi hi h=>(by rw[g i hi]at h;cases h),.nil⟩
def QU(N:P.follows .mixedOrders=Im):∀(c:Code) (out:List Nat) (ex:List (Nat×List Nat)) (G:List Nat) {J:IC} {X:List Nat},cC P nt c out ex G=Ik (J,X)->
  ∀{B:Nat} {w0:World} {j:jv} {h:dN} {w:World} {e:Env} {a:Act} {Q:Exit->Env->dN->Prop},MR B w0 j h w->ER nt j e a->vc P J Q e h->c.wp P (Post B w0 nt j h Q) a w
 | .skip,out,ex,G,J,X,hc,B,w0,j,h,w,e,a,Q,m,r,hk=>by
  cases hc;exact wp_skip ⟨j,h,e,FR.refl _ _,m,r,hk⟩
 | .label l,out,ex,G,J,X,hc,B,w0,j,h,w,e,a,Q,m,r,hk=>by
  cases hc;exact wp_label ⟨j,h,e,FR.refl _ _,m,r,hk⟩
 | .region id ops false,out,ex,G,J,X,hc,B,w0,j,h,w,e,a,Q,m,r,hk=>by
  simp only[cC]at hc;split at hc
  .cases hc;obtain⟨v,hv,_⟩:=hk;cases hv
  simp only[YJ,Yo]at hc;obtain⟨bA,ny,rfl,rfl⟩:=hc;refine wp_region ?_;rw[List.range_eq_range']
  have:=zEx (Q:=Post B w0 nt j h Q) ops.toList bA 0 ny rfl m r hk ?_
  .simpa using this
  .intro C h' e' a' w' A D E u;exact⟨C,h',_,A,D,E.trim out,u⟩
 | .region id ops Im,out,ex,G,J,X,hc,B,w0,j,h,w,e,a,Q,m,r,hk=>by
  simp only[cC]at hc;split at hc
  .rename_i x hx;cases hc;exact zMQ N hx m r hk
  .simp only[YJ,Yo]at hc;obtain⟨t,ht,rfl,rfl⟩:=hc;unfold cTree at ht;split at ht
   .rename_i dL;refine wp_region_any N ?_;exact zQB (K:=λe' h'=>Q .normal (Env.mk out (out.map e')) h') dL.2 (λC h' e' a' w' A D E u=>⟨C,h',_,A,D,E.trim out,u⟩) _ ops.size _ _ [] [] rfl B4.start ht m.drew r (FR.refl _ _) hk
   .cases ht
 | .seq c d,out,ex,G,J,X,hc,B,w0,j,h,w,e,a,Q,m,r,hk=>by
  simp only[cC,YX,YJ,Yo]at hc;obtain⟨⟨id,Y⟩,hd,⟨ia,X'⟩,V,rfl,rfl⟩:=hc;refine wp_seq (wp_mono (QU N c _ ex G V m r hk) ?_)
  rintro x a' w' ⟨C,h',e',A,D,E,u⟩
  cases x with
  |normal=>
   refine wp_mono (QU N d out ex G hd D E u) ?_
   rintro y tC EH ⟨U,fJ,R,O,T,S,cH⟩
   exact⟨U,fJ,R,A.trans O,T,S,cH⟩
  |exit id=>exact⟨C,h',e',A,D,E,u⟩
  |goto l=>exact⟨C,h',e',A,D,E,u⟩
  |ret=>exact⟨C,h',e',A,D,E,u⟩
  |panic ch=>exact⟨C,h',e',A,D,E,u⟩
  |outgrown=>exact⟨C,h',e',A,D,E,u⟩
 | .cond c x y,out,ex,G,J,X,hc,B,w0,j,h,w,e,a,Q,m,r,hk=>by
  simp only[cC,YX,YJ,Yo]at hc;obtain⟨ix,hx,⟨ia,Xa⟩,V,⟨ib,Xb⟩,hb,rfl,rfl⟩:=hc;simp only[vc]at hk;have hv:=zM r hx;split at hk
  .rename_i t ht;rw[ht]at hv;refine wp_cond (t:=t) hv ?_;cases t with
   |true=>rw[Iu rfl]at hk ⊢;exact QU N x out ex G V m r hk
   |false=>rw[Iv bj]at hk ⊢;exact QU N y out ex G hb m r hk
  .exact hk.elim
 | .block id c,out,ex,G,J,X,hc,B,w0,j,h,w,e,a,Q,m,r,hk=>by
  simp only[cC,YJ,Yo]at hc;obtain⟨⟨ia,Xa⟩,V,rfl,rfl⟩:=hc;refine wp_block (wp_mono (QU N c out _ G V m r hk) ?_)
  rintro x a' w' ⟨C,h',e',A,D,E,u⟩
  cases x with
  |exit sU=>
   simp only[Exit.inBlock];simp only at u;split
   .rename_i he;rw[Iu he]at u;exact⟨C,h',e',A,D,E,u⟩
   .rename_i he;rw[Iv he]at u;exact⟨C,h',e',A,D,E,u⟩
  |normal=>exact⟨C,h',e',A,D,E,u⟩
  |goto l=>exact⟨C,h',e',A,D,E,u⟩
  |ret=>exact⟨C,h',e',A,D,E,u⟩
  |panic ch=>exact⟨C,h',e',A,D,E,u⟩
  |outgrown=>exact⟨C,h',e',A,D,E,u⟩
 | .loop c,out,ex,G,J,X,hc,B,w0,j,h,w,e,a,Q,m,r,hk=>by
  simp only[cC,YJ,Yo]at hc;obtain⟨⟨ia,Xa⟩,V,rfl,rfl⟩:=hc;obtain⟨I,⟨n,h0⟩,lF⟩:=hk;refine wp_loop_ghost (λn a' w'=>∃C h' e' vs,FR j h C h'/\MR B w0 C h' w'/\ER nt C (Env.mk (lv c [] ex G) vs) a'/\I n vs h') n ⟨j,h,e,_,FR.refl _ _,m,r.trim _,h0⟩ ?_
  rintro n a' w' ⟨C,h',e',vs,A,D,E,hI⟩
  refine wp_mono (QU N c _ ex G V D E (lF n vs h' hI)) ?_
  rintro x tC EH ⟨U,fJ,R,O,T,S,u⟩
  cases x with
  |normal=>
   obtain⟨n',af,If⟩:=u;exact⟨n',af,U,fJ,R,_,A.trans O,T,S.trim _,If⟩
  |exit id=>exact⟨U,fJ,R,A.trans O,T,S,u⟩
  |goto l=>exact⟨U,fJ,R,A.trans O,T,S,u⟩
  |ret=>exact⟨U,fJ,R,A.trans O,T,S,u⟩
  |panic ch=>exact⟨U,fJ,R,A.trans O,T,S,u⟩
  |outgrown=>exact⟨U,fJ,R,A.trans O,T,S,u⟩
 | .exit id,out,ex,G,J,X,hc,B,w0,j,h,w,e,a,Q,m,r,hk=>by
  cases hc;exact wp_exit ⟨j,h,e,FR.refl _ _,m,r,hk⟩
 | .ret,out,ex,G,J,X,hc,B,w0,j,h,w,e,a,Q,m,r,hk=>by
  cases hc;exact wp_ret ⟨j,h,e,FR.refl _ _,m,r,hk⟩
 | .rangeFunc ..,_,_,_,_,_,hc,_,_,_,_,_,_,_,_,_,_,_=>by cases hc
 | .scope ..,_,_,_,_,_,hc,_,_,_,_,_,_,_,_,_,_,_=>by cases hc
 | .goto ..,_,_,_,_,_,hc,_,_,_,_,_,_,_,_,_,_,_=>by cases hc
 | .refuse ..,_,_,_,_,_,hc,_,_,_,_,_,_,_,_,_,_,_=>by cases hc
inductive B1 where
 |tmp (t:Nat)
 |cell (t:Nat) (agg:Bool) (n:Nat)
def B1.slot:B1->Nat
 | .tmp t=>t
 | .cell t _ _=>t
structure IFn where
 params:List Nat
 res:List B1
 body:IC
def xT:List B1->Env->dN->Option (List AV)
 |[],_,_=>Ik []
 | .tmp t::r,e,h=>(xT r e h).map λvs=>e t::vs
 | .cell t agg n::r,e,h=>(GZ agg n (e t) h).bind λv=>(xT r e h).map λvs=>v::vs
def FX:List AV->AV
 |[v]=>v
 |vs=>.tup vs
def retQ(res:List B1)(Q:AV->dN->Prop):Exit->Env->dN->Prop
 | .normal,e,h=>iU (xT res e h) λvs=>Q (FX vs) h
 | .ret,e,h=>iU (xT res e h) λvs=>Q (FX vs) h
 |_,_,_=>False
def cRes(P:Program):List ResultVar->Option (List B1)
 |[]=>Ik []
 | .tmp t::r=>(cRes P r).map (.tmp t::·)
 | .cell t ty::r=>match P.underlying ty,P.info? ty with
  |some d,Ik i=>(cRes P r).map (.cell t (zAJ d) i.size::·)
  |_,_=>none
def cF(P:Program)(m:Func):Option IFn:=
 m.body.bind λc=>(cRes P m.results.toList).bind λres=>(cC P m.ntmps c (res.foldr (λr l=>insS r.slot l) []) [] (res.foldr (λr l=>insS r.slot l) [])).bind λx=>
  if m.params.size+m.nfree<=m.ntmps then Ik ⟨Iw (m.params.size+m.nfree),res,x.1⟩else none
def rvS(a:Act):ResultVar->Sem Value
 | .tmp t=>pure (a.tmps.getD t undef)
 | .cell x t=>do loadVar t (<-asAddr (a.tmps.getD x undef))
def zAU(m:MR B w0 j h w)(r:ER nt j e a):∀{D:List ResultVar} {res:List B1} {vs:List AV},cRes P D=Ik res->xT res e h=Ik vs->
  ∃cs:List Value,(D.mapM (rvS a)).run P w=.ok cs w/\oy j vs cs
 |[],res,vs,hc,u=>by
  cases hc;cases u;exact⟨[],bj,rfl⟩
 | .tmp t::D,res,vs,hc,u=>by
  simp only[cRes,YJ]at hc;obtain⟨N,J,rfl⟩:=hc;simp only[xT,YJ]at u;obtain⟨U,u,rfl⟩:=u;obtain⟨cs,E,G⟩:=zAU m r J u;refine⟨a.tmps.getD t undef::cs,?_,⟨_,_,rfl,r.vals t,G⟩⟩;simp only[List.mapM_cons,rvS,Sem.run_bind,Sem.run_pure,Result.andThen_ok];rw[E];rfl
 | .cell x t::D,res,vs,hc,u=>by
  simp only[cRes]at hc;split at hc
  .rename_i d i S hi;simp only[YJ]at hc;obtain⟨N,J,rfl⟩:=hc;simp only[xT,YX,YJ]at u;obtain⟨v,C,U,u,rfl⟩:=u;obtain⟨cs,E,G⟩:=zAU m r J u;unfold GZ at C;split at C
   .rename_i o k T;have A:=r.vals x;rw[T]at A;obtain⟨O,I,R⟩:=zFU (P:=P) m S hi A C;obtain⟨l,V,A⟩:=A;refine⟨O::cs,?_,⟨_,_,rfl,R,G⟩⟩;rw[A]at I;simp only[Instr.loadAt,Instr.sureAddr,Sem.run_bind,Sem.run_pure,Result.andThen_ok]at I;simp only[List.mapM_cons,rvS,Sem.run_bind,A,asAddr,Sem.run_pure,Result.andThen_ok,I];rw[E];rfl
   .cases C
  .cases hc
def zJJ(dy:P.follows .mixedOrders=Im){f:FuncId}{C:Func}{J:IFn}(hf:P.funcs[f]? = Ik C)(G:cF P C=Ik J){args:List AV}{h:dN}{K:AV->dN->Prop}(A:args.length=Tw J.params)
  (hk:vc P J.body (retQ J.res K) (Env.mk J.params args) h):ZH P f args h K:=by
 simp only[cF,YX]at G;obtain⟨c,hb,res,dG,⟨ic,X⟩,A0,G⟩:=G;split at G
 .rename_i hle;cases G;intro B w0 j w cargs m R;have lu:=R.length;simp only[Ux]at A;refine calls_of_wp hf hb (wp_mono (QU dy c _ _ _ A0 m (e:=Env.mk (Iw (C.params.size+C.nfree)) args) (a:=⟨cargs.toArray++IA (C.ntmps-cargs.toArray.size) undef,[]⟩) ⟨λt=>?_,?_,rfl⟩ hk) ?_)
  ·-- xr arguments
   have key:∀(n s:Nat) (as:List AV) (t:Nat),as.length=n->(Env.mk (List.range' s n) as t=.undef/\(t<s\/s+n<=t))\/(s<=t/\as[t-s]? = Ik (Env.mk (List.range' s n) as t)):=by
    intro n
    induction n with
    |zero=>intro s as t A;refine .inl ⟨?_,aH⟩;cases as with|nil=>rfl|cons _ _=>simp at A
    |succ n ih=>
     intro s as t A;cases as with
     |nil=>simp at A
     |cons v as=>
      rw[List.range'_succ];simp only[Env.mk];by_cases ht:t=s
      .subst ht;right;simp
      .rw[Iv ht];rcases ih (s+1) as t (by simpa using A)with ⟨I,D⟩|⟨I,D⟩
       .exact .inl ⟨I,aH⟩
       .refine .inr ⟨aH,?_⟩;rw[<-D]
        have:t-s=(t-(s+1))+1:=aH
        rw[this,IU]
   rw[List.range_eq_range'];rcases key _ 0 args t A with ⟨I,_⟩|⟨_,D⟩
   .rw[I];trivial
   .rw[Nat.sub_zero]at D;obtain⟨N,U,h4⟩:=R.get D
    have:(cargs.toArray++IA (C.ntmps-cargs.toArray.size) undef).getD t undef=N:=by
     have af:=(Yg.1 U).1;have h5:=(Yg.1 U).2;simp[IS,Array.getElem?_append_left,af,h5]
    rw[this];exact h4
  .simp;omega
  .rintro x a' w' ⟨j',h',e',fX,V,Y,E⟩
   have fin:(∃vs,xT res e' h'=Ik vs/\K (FX vs) h')->a'.defers=[]/\∃v,(results C a'.tmps).run P w'=.ok v w'/\
     ∃v' fJ O N,Ending.returned v=.returned N/\FR j h O fJ/\MR B w0 O fJ w'/\VI O v' N/\K v' fJ:=by
    rintro⟨vs,hv,E⟩
    obtain⟨cs,I,D⟩:=zAU V Y dG hv;have A:=D.length;refine⟨Y.defers,(if h:cs.toArray.size=1 then cs.toArray[0]else .tuple cs.toArray),?_,FX vs,h',j',_,rfl,fX,V,?_,E⟩
    .show(do let vs<-C.results.mapM (rvS a');pure (if h:vs.size=1 then vs[0]else Value.tuple vs):Sem Value).run P w'=_
     rw[Sem.run_bind,Array.mapM_eq_mapM_toList];simp_all
    .cases vs with
     |nil=>
      have:cs=[]:=YM (by simpa using A.symm)
      subst this;exact⟨[],rfl,bj⟩
     |cons v vs=>
      obtain⟨c1,cr,rfl,S,T⟩:=D;cases vs with
      |nil=>
       rw[show cr=[] from T];simpa [FX]using S
      |cons u us=>
       obtain⟨c2,Tc,rfl,g3,g4⟩:=T;simp only[FX];rw[dif_neg bj];exact⟨_,⟨_,_,rfl,S,_,_,rfl,g3,g4⟩,rfl⟩
   cases x with
   |normal=>exact fin E
   |ret=>exact fin E
   |exit id=>exact E.elim
   |goto l=>exact E.elim
   |panic ch=>exact E.elim
   |outgrown=>exact E.elim
 .cases G
def condK(v:AV)(a b:Prop):Prop:=
 match v with
 | .bool t=>if t=Im then a else b
 |_=>False
def zN5(v:AV)(b:Bool)(x y:Prop):Prop:=
 match v with
 | .bool c=>if c=b then x else y
 | .tup []=>y
 |_=>False
section
variable{P:Program}{h:dN}{KA:AV->dN->Prop}
def zOZ(n:Nat)(x v:AV)(h:dN)(KA:AV->dN->Prop):Prop:=
 match x with
 | .ptr o i=>v.cells.length=n/\iU (h.wr o i v.cells) λh'=>KA .undef h'
 |_=>False
def aMake(sz bytes:Nat)(z:List AV)(l c:AV)(h:dN)(KA:AV->dN->Prop):Prop:=
 match l,c with
 | .int _ l,.int _ c=>(0<=l/\l<=c/\c*bytes<=140737488355328/\c<=9223372036854775807)/\KA (.sl h.bY 0 l.toNat (.cm c.toNat)) (h.cb ⟨Im,jE z c.toNat⟩)
 |_,_=>False
def zOa(P:Program)(f:AV)(args:List AV)(h:dN)(KA:AV->dN->Prop):Prop:=
 match f with
 | .clo f first dw=>okF P f=Im/\ZH P f (first++args++dw) h KA
 |_=>False
end
end
section
variable{h h' fJ:dN}
def mn{n:Int}(m:-9223372036854775808<=n)(u:n<=9223372036854775807):Tu .i64 n=n:=by
 rw[IntKind.wrap_i64];omega
def WE{n:Int}(l:-9223372036854775808<=n:=by omega)(u:n<=9223372036854775807:=by omega):Tu .i64 n=n:=mn l u
def WQ{n m:Int}(e:n=m:=by omega)(l:-9223372036854775808<=n:=by omega)(u:n<=9223372036854775807:=by omega):Tu .i64 n=m:=(mn l u).trans e
def HWF(h:dN):Prop:=∀o,h.bY<=o->h.cd o=none
structure Ext(h h':dN):Prop where
 bY:h.bY<=h'.bY
 cd:∀o,o<h.bY->h'.cd o=h.cd o
 wf:HWF h'
def Ext.refl(m:HWF h):Ext h h:=⟨sB _,λ_ _=>rfl,m⟩
def Ext.trans(a:Ext h h')(b:Ext h' fJ):Ext h fJ:=
 ⟨Yv a.bY b.bY,λo m=>(b.cd o (YO m a.bY)).trans (a.cd o m),b.wf⟩
def HWF.lt(u:HWF h){o:Nat}{A:u2}(m:h.cd o=Ik A):o<h.bY:=by
 rcases YY o h.bY with x|x
 .exact x
 .rw[u o x]at m;cases m
def HWF.cb(u:HWF h)(A:u2):HWF (h.cb A):=by
 intro o m;simp only[dN.cb]at m ⊢;rw[Iv aH];exact u o aH
def HWF.set(u:HWF h){o:Nat}(A:o<h.bY)(cs:List AV):HWF (h.set o cs):=by
 intro x m;simp only[dN.set]at m ⊢;rw[Iv aH];exact u x m
def HWF.kill(u:HWF h)(o:Nat):HWF (h.kill o):=by
 intro x m;simp only[dN.kill]at m ⊢;split
 .rfl
 .exact u x m
def zLj(m:u2):(h.cb m).cd h.bY=Ik m:=by simp[dN.cb]
def zCN{o:Nat}(m:o≠h.bY)(u:u2):(h.cb u).cd o=h.cd o:=by simp[dN.cb,m]
def zK8(o:Nat)(cs:List AV):(h.set o cs).cd o=Ik ⟨Im,cs⟩:=by simp[dN.set]
def zFA{o m:Nat}(u:m≠o)(cs:List AV):(h.set o cs).cd m=h.cd m:=by simp[dN.set,u]
def zEI{o m:Nat}(u:m≠o):(h.kill o).cd m=h.cd m:=by simp[dN.kill,u]
def Ext.cb(u:HWF h)(m:u2):Ext h (h.cb m):=⟨by simp[dN.cb],λo A=>zCN aH _,u.cb m⟩
def zBF{o off n:Nat}{m:u2}(A:h.cd o=Ik m)(u:off+n<=Tw m.cells):h.rd o off n=Ik ((m.cells.drop off).take n):=by
 simp[dN.rd,A,u]
def QW{o n:Nat}{m:u2}(A:h.cd o=Ik m)(u:n=Tw m.cells):h.rd o 0 n=Ik m.cells:=by
 subst u;simp[dN.rd,A]
def zHn{o off n:Nat}(m:h'.cd o=h.cd o):h'.rd o off n=h.rd o off n:=by simp[dN.rd,m]
def zFH{o i:Nat}{m:u2}(u:h.cd o=Ik m):h.gv o i=m.cells[i]?:=by simp[dN.gv,u]
def zMy{o off n k:Nat}{vs:List AV}(A:h.rd o off n=Ik vs)(m:k<n):h.gv o (off+k)=vs[k]?:=by
 obtain⟨D,u,C,rfl⟩:=dN.rd_some A;rw[zFH u,Y3,Iu m,Y0]
def zBq{o off n a b:Nat}{vs:List AV}(u:h.rd o off n=Ik vs)(D:a+b<=n):h.rd o (off+a) b=Ik ((vs.drop a).take b):=by
 obtain⟨C,m,A,rfl⟩:=dN.rd_some u;rw[zBF m aH];congr 1;rw[Jc,List.take_take,List.drop_drop];congr 1;omega
def ez{α β:Type}(R:α->β->Prop)(as:List α)(m:List β):Prop:=as.length=Tw m/\∀(k:Nat) (a:α) (b:β),as[k]? = Ik a->m[k]? = Ik b->R a b
def ez.nil{α β:Type}(R:α->β->Prop):ez R [] []:=⟨rfl,λk a b h=>by simp at h⟩
def ez.snoc{α β:Type}{R:α->β->Prop}{as:List α}{A:List β}{a:α}{b:β}(h:ez R as A)(C:R a b):ez R (as++[a]) (A++[b]):=by
 refine⟨by simp[h.1],λk x y m u=>?_⟩;rcases Je k as.length with e|e|e
 .rw[YC e]at m;rw[YC (by rw[<-h.1];exact e)]at u;exact h.2 k x y m u
 .rw[Yz aH,e]at m;rw[Yz (by rw[<-h.1];omega),e,h.1]at u;simp at m u;subst m;subst u;exact C
 grind
def ez.get{α β:Type}{R:α->β->Prop}{as:List α}{m:List β}(h:ez R as m){k:Nat}(A:k<Tw m):∃a,as[k]? = Ik a/\R a m[k]:=by
 have u:k<Tw as:=by rw[h.1];exact A
 exact⟨as[k],na u,h.2 k _ _ (na u) (na A)⟩
def ez.cons{α β:Type}{R:α->β->Prop}{as:List α}{A:List β}{a:α}{b:β}(h:ez R as A)(C:R a b):ez R (a::as) (b::A):=by
 refine⟨by simp[h.1],λk x y m u=>?_⟩;cases k with
 |zero=>simp at m u;subst m;subst u;exact C
 |succ k=>exact h.2 k x y (by simpa using m) (by simpa using u)
def ez.set{α β:Type}{R:α->β->Prop}{as:List α}{A:List β}{a:α}{b:β}(h:ez R as A)(i:Nat)(C:R a b):ez R (as.set i a) (A.set i b):=by
 refine⟨by simp[h.1],λk x y m u=>?_⟩;rw[Yu]at m u
 have:=h.1
 by_cases e:i=k
 .simp_all
 .rw[Iv e]at m u;exact h.2 k x y m u
end
section
variable{h:dN}
def lG{i n:Nat}(hi:i<n)(m:n<=4611686018427387904):Tu .i64 ((i:Int)+1)=((i+1:Nat):Int):=WQ
def WX{i n:Nat}(l:i<n)(u:n<=4611686018427387904:=by omega):Tu .i64 ((i:Int)+1)=((i+1:Nat):Int):=lG l u
def Q8{xs:V1}{i:Nat}(hi:i<Tw xs){p:Int->Prop}(h:∀x∈xs.take i,p x)(m:p xs[i]):∀x∈xs.take (i+1),p x:=by
 rw[YV hi];intro x hm;rcases YZ.1 hm with hm|hm
 .exact h x hm
 .simp at hm;subst hm;exact m
def zFh{α:Type}{xs:List α}{i:Nat}(hi:¬i<Tw xs){p:α->Prop}(h:∀x∈xs.take i,p x):∀x∈xs,p x:=by
 rwa[YU aH]at h
def zDL{α:Type}{xs:List α}{i:Nat}(hi:i<Tw xs){p:α->Prop}(h:∀x∈xs.take i,p x)(m:p xs[i]):∀x∈xs.take (i+1),p x:=by
 rw[YV hi];intro x hm;rcases YZ.1 hm with hm|hm
 .exact h x hm
 .simp at hm;subst hm;exact m
def zK1(z:List AV):jE z 0=[]:=rfl
def zK2(v:AV):jE [v] 1=[v]:=rfl
def zCk(v:AV)(n:Nat):jE [v] n=Jf n v:=by
 simp[jE,List.flatten_replicate_singleton]
def zRY{o i:Nat}{cs vs:List AV}(u:h.cd o=Ik ⟨Im,cs⟩)(m:i+Tw vs<=Tw cs)(A:vs.all AV.one=Im):h.wr o i vs=Ik (h.set o (cs.take i++vs++cs.drop (i+Tw vs))):=by
 simp only[dN.wr,u,YG];rw[Iu ⟨Is,m,A⟩]
end
section
open Go.ChangeShapes Go.WideShapes Go.RowKit Go.Deep
variable{w0 w:World}{j:jv}{h:dN}
def MR.empty(w:World)(g:Gd w.heap.size w):MR w.heap.size w (λ_=>none) ⟨0,λ_=>none⟩ w:=
 ⟨Below.refl _ _,sB _,g,λ_ _=>⟨rfl,rfl⟩,λ_ _ _ m=>(by cases m),λ_ _ _ _ _ _ _ m=>(by cases m)⟩
def MR.wf(m:MR B w0 j h w):HWF h:=λo u=>(m.fresh o u).1
def jv.le_put(m:MR B w0 j h w)(l:Loc):j.le (j.put h.bY l):=by
 intro o A u
 have:=m.lt u
 simp[jv.put,Jn this,u]
def MR.lay(m:MR B w0 j h w){cells:List AV}{l:Loc}(T:cells.all AV.one=Im)(U:l.blk<B){cur:Array Value}{ty:TypeId}{fz:Nat×Nat}(R:w.heap[l.blk]? = Ik (.cells cur ty fz))
  (V:∀i v,cells[i]? = Ik v->∃C,cur[l.base+i]? = Ik C/\VI j v C):MR B w0 (j.put h.bY l) (h.cb ⟨false,cells⟩) w:=by
 have hle:=jv.le_put m l;refine⟨m.below,m.bnd,m.gd,λo u=>?_,λo E Y u A=>?_,λo N E X J l2 S u I A D G=>?_⟩
 .simp only[dN.cb]at u
  have:o≠h.bY:=aH
  simp only[dN.cb,jv.put,Iv this];exact m.fresh o aH
 .by_cases e:o=h.bY
  .subst e;simp only[dN.cb,if_true,YR]at u;simp only[jv.put,if_true,YR]at A;subst u;subst A;exact⟨T,cur,ty,fz,R,λi v hi=>by obtain⟨C,a,b⟩:=V i v hi;exact⟨C,a,VI.mono hle _ _ b⟩,λx=>(by cases x),λ_=>U⟩
  .simp only[dN.cb,Iv e]at u;simp only[jv.put,Iv e]at A;obtain⟨a,uF,tE,O,b,c,d⟩:=m.cd o E Y u A;exact⟨a,uF,tE,O,b,λi v hi=>by obtain⟨C,x,y⟩:=c i v hi;exact⟨C,x,VI.mono hle _ _ y⟩,d⟩
 .by_cases e:o=h.bY
  .subst e;simp only[dN.cb,if_true,YR]at u;subst u;cases G
  .simp only[dN.cb,Iv e]at u;simp only[jv.put,Iv e]at A;by_cases e':N=h.bY
   .subst e';simp only[jv.put,if_true,YR]at D;subst D;obtain⟨_,_,_,_,_,_,d,_⟩:=m.cd o E J u A
    have:=(d G).2.2
    omega
   .simp only[dN.cb,Iv e']at I;simp only[jv.put,Iv e']at D;exact m.apart o N E X J l2 S u I A D G
def zKx{a:Addr}{v:Value}(m:w.cell? a=Ik v):a.spot=none/\∃cur ty fz,w.heap[a.block]? = Ik (.cells cur ty fz)/\cur[a.off]? = Ik v:=by
 unfold World.cell? at m;split at m
 .rename_i c t f u;split at m
  .cases m
  .rename_i hs;exact⟨by simpa using hs,c,t,f,u,m⟩
 .cases m
def gw(w:World)(A:Option Addr)(L C:Nat)(Z:V1):Prop:=
 L<=C/\C<=maxLen/\Tw Z=C/\(A=none->C=0)/\∀a',A=Ik a'->∀c,c<C->w.cell? (a'.add c)=Ik (.int .i64 (Z.getD c 0))
def zSO{b:Nat}{o:Obj}(m:w.heap[b]? = Ik o):b<w.heap.size:=by
 rcases YY b w.heap.size with x|x
 .exact x
 .rw[Array.getElem?_eq_none x]at m;cases m
end
section
open Go.ChangeShapes Go.WideShapes Go.RowKit Go.Deep
variable{H:Type}{enc:TypeId×Value->H}{P:Program}
def zCX(E:laidOutB P=Im){W C:World}(D:Below W.heap.size W C){G:Nat->Bool}:∀{ts:List TypeId} {vs:List Value} {A:List (DataW H)} {u:List MemPlace},(∀t∈ts,P.readableRec t=Im/\t<P.types.size)->
  DataW.TrodAll enc P W 0 (λ_=>Im) Im ts vs A u->(∀x∈u,x.block<W.heap.size)->(∀x∈u,G x.block=Im)->DataW.TrodAll enc P C 0 G Im ts vs A u
 |[],vs,A,u,_,h,_,_=>by
  obtain⟨rfl,rfl,rfl⟩:=trodAll_nil h;rfl
 |t::ts,vs,A,u,ht,h,h1,h2=>by
  obtain⟨v,O,d,R,p,q,rfl,rfl,rfl,J,N⟩:=trodAll_cons h;exact trodAll_cons_mk (WideElems.Trod_stays E (ht t bj).1 (ht t bj).2 J (λx m=>D.same (h1 x (by simp[m]))) (λx m=>h2 x (by simp[m])))
   (zCX E D (λt' I=>ht t' (by simp[I])) N (λx m=>h1 x (by simp[m])) (λx m=>h2 x (by simp[m])))
def zG3{f:Func}{s:ChangeSpec}{apart fresh handsOn again:Bool}{W A:World}{args:Array Value}{m gs:List (DataW H)}{before:List MemPlace}{tb:TypeId}(X:s.vars=[])(hl:laidOutB P=Im)
  (Y:∀t∈f.params.toList,P.readableRec t=Im/\t<P.types.size) (R:f.resultTypes = #[tb]) (N:P.underlying tb=Ik .bool)
  (J:s.fn H m={ results:=[.lit (.bool Im)],args:=m }) (G:DataW.Whole enc P f.params.toList s.vars apart W args.toList m gs before) (I:Below W.heap.size W A):
  s.post enc P f apart fresh handsOn again W args (.bool Im) A:=by
 have D:=G.lt;have HY:=G;obtain⟨p,q,hA,E,rfl,hz,hn⟩:=G;have SJ:=E;rw[X]at E;obtain⟨rfl,rfl⟩:=trodVars_none E;simp only[YL]at *;have O:∀u:Nat->Bool,(∀x∈p,u x.block=Im)->DataW.TrodAll enc P A 0 u Im f.params.toList args.toList (s.fn H m).args p:=λu Nu=>by
  rw[J];exact zCX hl I Y hA (λx C=>D x C) Nu
 have U:∀(b:Nat) (u:Nat->Bool) (T:Bool),DataW.TrodAll enc P A b u T f.resultTypes.toList ((Value.bool Im).resultList f.resultTypes.size) (s.fn H m).results []:=λb u T=>by
  rw[J,R];exact trodAll_cons_mk (shut_bool N _) trodAll_mk0
 have S:∀u:Nat->Bool,DataW.TrodVars enc P A u s.vars (s.fn H m).vars []:=λu=>by rw[J,X];rfl
 have e:m++[]=m:=YL m;have hold:∀x∈p,(λb=>decide (b<W.heap.size)) x.block=Im:=λx C=>by simpa using D x C
 refine⟨m,[],p,[],p,[],HY,by rw[e];exact U _ _ _,by rw[e];exact O _ hold,by rw[e];exact S _,I.frame _,λ_=>⟨ok_one R rfl (okWide_bool_mk N _),_,_,([]++p)++[],⟨[]++p,[],trodAll_append (O _ (λ_ _=>rfl)) (U _ _ _),S _,rfl,?_,?_⟩,?_⟩⟩
 .intro b off hp;have V:MemPlace.cell b off∈p:=by simpa using hp
  rw[I.frozen (p:=⟨b,off,none⟩) (D _ V)];exact hz b off V
 .intro ha
  have:=hn ha
  simpa using this
 .intro x C _;simpa using C
def ZH.calls{f:FuncId}{args:List AV}{h:dN}{j:jv}{W:World}{cargs:Array Value}(A:ZH P f args h (λv _=>v=.bool Im))(m:MR W.heap.size W j h W)(D:oy j args cargs.toList):
  Calls P f cargs W λe u=>e=.returned (.bool Im)/\Below W.heap.size W u:=by
 have:=A W.heap.size W j W cargs.toList m D
 rw[Js]at this;refine this.mono ?_
 rintro e u ⟨v,h',I,C,rfl,_,E,G,rfl⟩
 exact⟨by rw[show C=.bool Im from G],E.below⟩
def nm{α:Type}(a:α):α:=a
def mr{α:Type}(a:α):nm a=a:=Eq.trans rfl rfl
section
variable{P:Program}
@[congr] theorem cg_vc {c:IC} {Q:Exit->Env->dN->Prop} {e e':Env} {h h':dN} (m:nm e=e') (u:h=h'):vc P c Q e h=vc P c Q e' h':=by rw[mr]at m;rw[m,u]
@[congr] theorem cg_TV {t:OT} {recs m:List Rec} {K:Env->dN->Prop} {e e':Env} {h h':dN} (A:recs=m) (u:nm e=e') (C:h=h'):TV P t recs e h K=TV P t m e' h' K:=by rw[mr]at u;rw[A,u,C]
@[congr] theorem cg_RV {m:List II} {K:Env->dN->Prop} {e e':Env} {h h':dN} (u:nm e=e') (A:h=h'):RV P m e h K=RV P m e' h' K:=by rw[mr]at u;rw[u,A]
@[congr] theorem cg_DV {nb m:Nat} {u:List DI} {recs A:List Rec} {K:Env->dN->Prop} {e e':Env} {h h':dN} (C:nm nb=m) (D:recs=A) (E:e=e') (G:h=h'):DV P nb u recs e h K=DV P m u A e' h' K:=by rw[mr]at C;rw[C,D,E,G]
@[congr] theorem cg_ge {it:II} {K:AV->dN->Prop} {e e':Env} {h h':dN} (m:nm e=e') (u:h=h'):ge P it e h K=ge P it e' h' K:=by rw[mr]at m;rw[m,u]
@[congr] theorem zSh {op:tT} {K:AV->dN->Prop} {e e':Env} {h h':dN} (m:nm e=e') (u:h=h'):eff P op e h K=eff P op e' h' K:=by rw[mr]at m;rw[m,u]
@[congr] theorem zSb {f:FuncId} {K:AV->dN->Prop} {args m:List AV} {h h':dN} (u:nm args=m) (A:h=h'):ZH P f args h K=ZH P f m h' K:=by rw[mr]at u;rw[u,A]
@[congr] theorem zSf {α:Type} {o u:Option α} {K:α->Prop} (m:nm o=u):iU o K=iU u K:=by rw[mr]at m;rw[m]
@[congr] theorem zSY {n:Nat} {K:AV->dN->Prop} {x A v u:AV} {h h':dN} (m:nm x=A) (C:v=u) (D:h=h'):zOZ n x v h K=zOZ n A u h' K:=by rw[mr]at m;rw[m,C,D]
@[congr] theorem zSe {sz b:Nat} {z:List AV} {K:AV->dN->Prop} {x A v u:AV} {h h':dN} (m:nm x=A) (C:v=u) (D:h=h'):aMake sz b z x v h K=aMake sz b z A u h' K:=by rw[mr]at m;rw[m,C,D]
@[congr] theorem zSZ {K:AV->dN->Prop} {f u:AV} {args m:List AV} {h h':dN} (A:nm f=u) (C:args=m) (D:h=h'):zOa P f args h K=zOa P u m h' K:=by rw[mr]at A;rw[A,C,D]
@[congr] theorem zSd {v u:AV} {a b:Prop} (m:nm v=u):condK v a b=condK u a b:=by rw[mr]at m;rw[m]
@[congr] theorem zSX {v u:AV} {b:Bool} {x y:Prop} (m:nm v=u):zN5 v b x y=zN5 u b x y:=by rw[mr]at m;rw[m]
end
end
inductive PV where
 |undef
 |bool (b:Bool)
 |int (k:IntKind) (n:Int)
 |str (s:List UInt8)
 |nilp
 |nilf
 |err (b:Bool)
 |fz (w:Bool) (a:AV) (len:Nat) (cs:List PV)
 |fp (a:AV) (cs:List PV)
 |ptr (s i:Nat)
 |sl (s off len:Nat) (cap:nK)
 |clo (f:FuncId) (first dw:List PV)
 |agg (cs:List PV)
 |tup (vs:List PV)
instance:Inhabited PV:=⟨.undef⟩
def PV.one:PV->Bool
 | .undef | .agg _ | .tup _=>false
 |_=>Im
def PV.cells:PV->List PV
 | .agg cs=>cs
 |v=>[v]
mutual
def er(ι:Nat->Nat):PV->AV
 | .undef=>.undef
 | .bool b=>.bool b
 | .int k n=>.int k n
 | .str s=>.str s
 | .nilp=>.nilp
 | .nilf=>.nilf
 | .err b=>.err b
 | .fz _ a _ _=>a
 | .fp a _=>a
 | .ptr s i=>.ptr (ι s) i
 | .sl s off len cap=>.sl (ι s) off len cap
 | .clo f a b=>.clo f (kA ι a) (kA ι b)
 | .agg cs=>.agg (kA ι cs)
 | .tup cs=>.tup (kA ι cs)
def kA(ι:Nat->Nat):List PV->List AV
 |[]=>[]
 |c::cs=>er ι c::kA ι cs
end
mutual
def mQ:AV->PV
 | .undef=>.undef
 | .bool b=>.bool b
 | .int k n=>.int k n
 | .str s=>.str s
 | .nilp=>.nilp
 | .nilf=>.nilf
 | .err b=>.err b
 | .cU=>.fz Im .cU 0 []
 | .ptr o i=>.fp (.ptr o i) []
 | .sl o off n c=>.fp (.sl o off n c) []
 | .clo f a b=>.clo f (gH a) (gH b)
 | .agg cs=>.agg (gH cs)
 | .tup cs=>.tup (gH cs)
def gH:List AV->List PV
 |[]=>[]
 |c::cs=>mQ c::gH cs
end
structure dj where
 bY:Nat
 top:Nat
 cd:Nat->Option (List PV)
namespace dj
def cb(σ:dj)(cs:List PV):dj:=⟨σ.bY+1,σ.top,λs=>if s=σ.bY then Ik cs else σ.cd s⟩
def set(σ:dj)(s:Nat)(cs:List PV):dj:=⟨σ.bY,σ.top,λm=>if m=s then Ik cs else σ.cd m⟩
def kill(σ:dj)(s:Nat):dj:=⟨σ.bY,σ.top,λm=>if m=s then none else σ.cd m⟩
def up(σ:dj)(t:Nat):dj:=⟨σ.bY,t,σ.cd⟩
def gv(σ:dj)(s i:Nat):Option PV:=(σ.cd s).bind λcs=>cs[i]?
def rd(σ:dj)(s i n:Nat):Option (List PV):=(σ.cd s).bind λcs=>if i+n<=cs.length then Ik ((cs.drop i).take n)else none
def wr(σ:dj)(s i:Nat)(vs:List PV):Option dj:=(σ.cd s).bind λcs=>
 if i+Tw vs<=Tw cs/\vs.all PV.one=Im then Ik (σ.set s (cs.take i++vs++cs.drop (i+Tw vs)))else none
def news(σ:dj):List (List AV)->dj
 |[]=>σ
 |z::zs=>(σ.cb (gH z)).news zs
end dj
abbrev gr:=Nat->PV
def gr.put(e:gr)(d:Option Nat)(v:PV):gr:=match d with
 |some d=>λt=>if t=d then v else e t
 |none=>e
def gr.mk:List Nat->List PV->gr
 |s::S,v::vs=>λt=>if t=s then v else gr.mk S vs t
 |_,_=>λ_=>.undef
def IX.pv(e:gr):IX->PV
 | .t n=>e n
 | .c v=>mQ v
def ZG:AV->Bool
 | .cU=>Im
 |_=>false
def D1(op:BinOp)(r:Bool):Option PV:=
 match op with
 | .eql=>Ik (.bool r)
 | .neq=>Ik (.bool !r)
 |_=>none
def BE:List PV->List PV->Option Bool
 |[],[]=>Ik Im
 | .int k a::xs,.int k' b::ys=>if k=k' then(BE xs ys).map λr=>decide (a=b) && r else none
 |_,_=>none
def mR(op:BinOp)(m:He)(x y:PV):Option PV:=
 match x,y with
 | .int k a,.int k' b=>(AW op m (.int k a) (.int k' b)).map mQ
 | .str a,.str b=>(astr op a b).map mQ
 | .bool a,.bool b=>match m with | .bool=>D1 op (a == b)|_=>none
 | .fz _ a _ _,.fz _ b _ _=>match m with | .slice=>if ZG b=Im then D1 op (ZG a)else if ZG a=Im then D1 op false else none|_=>none
 | .sl _ _ _ _,.fz _ b _ _=>match m with | .slice=>if ZG b=Im then D1 op false else none|_=>none
 | .fz _ a _ _,.sl _ _ _ _=>match m with | .slice=>if ZG a=Im then D1 op false else none|_=>none
 | .nilp,.nilp=>match m with | .pointer=>D1 op Im|_=>none
 | .ptr _ _,.nilp=>match m with | .pointer=>D1 op false|_=>none
 | .nilp,.ptr _ _=>match m with | .pointer=>D1 op false|_=>none
 | .nilf,.nilf=>match m with | .func=>D1 op Im|_=>none
 | .clo _ _ _,.nilf=>match m with | .func=>D1 op false|_=>none
 | .nilf,.clo _ _ _=>match m with | .func=>D1 op false|_=>none
 | .agg xs,.agg ys=>match m with | .ints n=>if xs.length=n/\Tw ys=n then(BE xs ys).bind λr=>D1 op r else none|_=>none
 |_,_=>none
def pErr(op:BinOp)(x:PV):Option PV:=
 match x with
 | .err b=>D1 op b
 |_=>none
def pun(op:UnOp)(x:PV):Option PV:=
 match x with
 | .int k n=>(aun op (.int k n)).map mQ
 | .bool b=>(aun op (.bool b)).map mQ
 |_=>none
def Dn(cells:List PV):List (Nat×Nat×PV)->Option (List PV)
 |[]=>Ik cells
 |(off,size,v)::rest=>
  if v.cells.length=size/\off+size<=Tw cells/\v.cells.all PV.one=Im then Dn (cells.take off++v.cells++cells.drop (off+size)) rest else none
def QN(x:PV)(y:Nat):Option Nat:=
 match x with
 | .int _ i=>if 0<=i/\i<=y then Ik i.toNat else none
 |_=>none
def zn(x:Option PV)(m y:Nat):Option Nat:=
 match x with
 |some x=>QN x y
 |none=>Ik m
def pslA(e:Nat)(a:AV)(l h:Nat):AV:=
 match a with
 | .sl o off _ (.cm c)=>.sl o (if c=l then off else off+l*e) (h-l) (.cm (c-l))
 | .sl o off _ (.grown g)=>.sl o (off+l*e) (h-l) (.grown (if g=e then g else 0))
 |a=>a
def pslM(e:Nat)(a:AV)(l h m:Nat):AV:=
 match a with
 | .sl o off _ _=>.sl o (if m=l then off else off+l*e) (h-l) (.cm (m-l))
 |a=>a
def Ql(e:Nat)(x:PV)(lo hi mx:Option PV):Option PV:=
 match x with
 | .sl s off len (.cm c)=>
  (zn mx c c).bind λm=>(zn hi len m).bind λh=>(zn lo 0 h).bind λl=>
   if hi.isNone=Im/\mx.isSome=Im then none else Ik (.sl s (if m=l then off else off+l*e) (h-l) (.cm (m-l)))
 | .sl s off len (.grown g)=>
  match mx with
  |some mx=>(QN mx len).bind λm=>(zn hi len m).bind λh=>(zn lo 0 h).bind λl=>
   if hi.isNone=Im then none else Ik (.sl s (if m=l then 0 else off+l*e) (h-l) (.cm (m-l)))
  |none=>(zn hi len len).bind λh=>(zn lo 0 h).bind λl=>
   Ik (.sl s (off+l*e) (h-l) (.grown (if g=e then g else 0)))
 | .fz _ a len cs=>
  match mx with
  |none=>(zn hi len len).bind λh=>(zn lo 0 h).bind λl=>Ik (.fz false (pslA e a l h) (h-l) ((cs.drop (l*e)).take ((h-l)*e)))
  |some mx=>match a with
   | .cU=>(QN mx 0).bind λm=>(zn hi 0 m).bind λh=>(zn lo 0 h).bind λ_=>if hi.isNone=Im then none else Ik (.fz Im .cU 0 [])
   |_=>none
 |_=>none
def zBG(x:PV)(lo hi:Option PV):Option PV:=
 match x with
 | .str s=>(zn hi s.length s.length).bind λh=>(zn lo 0 h).bind λl=>Ik (.str ((s.take h).drop l))
 |_=>none
def pPick(c a b:PV):Option PV:=
 match c with
 | .bool t=>Ik (if t=Im then a else b)
 |_=>none
def pConv(k:IntKind)(x:PV):Option PV:=
 match x with
 | .int _ n=>Ik (.int k (k.wrap n))
 |_=>none
def pNil(x:PV):Option PV:=
 match x with
 | .ptr s i=>Ik (.ptr s i)
 | .fp a cs=>if cs.isEmpty=Im then none else Ik (.fp a cs)
 | .clo f a b=>Ik (.clo f a b)
 |_=>none
def zCu(agg:Bool)(n off:Nat)(x:PV):Option PV:=
 match x with
 | .agg cs=>if agg=Im then Ik (.agg ((cs.drop off).take n))else cs[off]?
 |_=>none
def pAdd(a:AV)(k:Nat):AV:=
 match a with
 | .ptr o i=>.ptr o (i+k)
 |a=>a
def Qn(off:Nat)(x:PV):Option PV:=
 match x with
 | .ptr s i=>Ik (.ptr s (i+off))
 | .fp a cs=>if cs.isEmpty=Im then none else Ik (.fp (pAdd a off) (cs.drop off))
 |_=>none
def pAt(a:AV)(k:Nat):AV:=
 match a with
 | .sl o off _ _=>.ptr o (off+k)
 |_=>.ptr 0 0
def zBu(sz:Nat)(x i:PV):Option PV:=
 match x,i with
 | .sl s off len _,.int _ n=>if 0<=n/\n<len then Ik (.ptr s (off+n.toNat*sz))else none
 | .fz _ a len cs,.int _ n=>if 0<=n/\n<len then Ik (.fp (pAt a (n.toNat*sz)) (cs.drop (n.toNat*sz)))else none
 |_,_=>none
def zDh(x i:PV):Option PV:=
 match x,i with
 | .str s,.int _ n=>if 0<=n then(s[n.toNat]?).map λc=>.int .u8 c.toNat else none
 |_,_=>none
def zCI(x:PV)(i:Nat):Option PV:=
 match x with
 | .tup vs=>vs[i]?
 |_=>none
def BO(x:PV):Option Nat:=
 match x with
 | .fz _ _ n _=>Ik n
 | .sl _ _ n _=>Ik n
 |_=>none
def nN(x:PV):Option PV:=(BO x).map λn=>.int .i64 n
def zDg(x:PV):Option PV:=
 match x with
 | .str s=>Ik (.int .i64 s.length)
 |_=>none
def pCap(x:PV):Option PV:=
 match x with
 | .sl _ _ _ (.cm c)=>Ik (.int .i64 c)
 | .fz _ .cU _ _=>Ik (.int .i64 0)
 |_=>none
def zBt(mx:Bool)(x y:PV):Option PV:=
 match x,y with
 | .int k a,.int k' b=>if k=k' then Ik (.int k (if mx=Im then max a b else min a b))else none
 |_,_=>none
def DW(agg:Bool)(n:Nat)(x:PV)(σ:dj):Option PV:=
 match x with
 | .ptr s i=>if agg=Im then(σ.rd s i n).map .agg else σ.gv s i
 | .fp _ cs=>if agg=Im then(if 0<n/\n<=cs.length then Ik (.agg (cs.take n))else none)else cs[0]?
 |_=>none
def qp(nb nr:Nat)(op:tT)(e:gr)(σ:dj):Option PV:=
 match op with
 | .mv x=>Ik (x.pv e)
 | .pick c a b=>pPick (c.pv e) (a.pv e) (b.pv e)
 | .bin op ek x y=>mR op ek (x.pv e) (y.pv e)
 | .un op x=>pun op (x.pv e)
 | .errB op x=>pErr op (x.pv e)
 | .conv k x=>pConv k (x.pv e)
 | .nilCheck x=>pNil (x.pv e)
 | .build z ps=>(Dn (gH z) (ps.map λp=>(p.1,p.2.1,p.2.2.pv e))).map .agg
 | .field agg n off x=>zCu agg n off (x.pv e)
 | .fieldAddr off x=>Qn off (x.pv e)
 | .indexAddr sz x i=>zBu sz (x.pv e) (i.pv e)
 | .indexStr x i=>zDh (x.pv e) (i.pv e)
 | .extract x i=>zCI (x.pv e) i
 | .len x=>nN (x.pv e)
 | .lenStr x=>zDg (x.pv e)
 | .cap x=>pCap (x.pv e)
 | .slice sz x lo hi mx=>Ql sz (x.pv e) (lo.map (·.pv e)) (hi.map (·.pv e)) (mx.map (·.pv e))
 | .sliceStr x lo hi=>zBG (x.pv e) (lo.map (·.pv e)) (hi.map (·.pv e))
 | .maxmin mx x y=>zBt mx (x.pv e) (y.pv e)
 | .makeFunc f first dw=>Ik (.clo f (first.map (·.pv e)) (dw.map (·.pv e)))
 | .load agg n x=>DW agg n (x.pv e) σ
 | .rev k=>if k<nr then Ik (.ptr (nb+k) 0)else none
 | .revS k n=>if k<nr then Ik (.sl (nb+k) 0 n (.cm n))else none
 |_=>none
def q8(e:Nat)(σ:dj)(x:PV)(n:Nat):Option (List PV):=
 if n=0 then Ik []else
 match x with
 | .sl s off len _=>if n<=len then σ.rd s off (n*e)else none
 | .fz _ _ len cs=>if n<=len/\n*e<=Tw cs/\0<e then Ik (cs.take (n*e))else none
 |_=>none
def Qm:List PV->Option (List UInt8)
 |[]=>Ik []
 | .int .u8 n::r=>(Qm r).map λs=>UInt8.ofNat n.toNat::s
 |_=>none
def Z5(σ:dj)(x:PV):Option (List UInt8):=(BO x).bind λn=>(q8 1 σ x n).bind Qm
def xL(e bytes:Nat)(σ:dj)(s:PV)(news:List PV)(m:Nat):Option (PV×dj):=
 match s with
 | .fz _ .cU _ _=>if m*bytes<=140737488355328/\m<=4611686018427387904 then Ik (.sl σ.bY 0 m (.grown e),σ.cb news)else none
 | .fz w (.sl _ _ _ (.cm c)) len cs=>
  if c<len+m/\(w=Im\/cs.isEmpty=false)/\Tw cs=len*e/\(len+m)*bytes<=140737488355328/\len+m<=4611686018427387904 then Ik (.sl σ.bY 0 (len+m) (.grown e),σ.cb (cs++news))else none
 | .sl s off len (.cm c)=>
  if len+m<=c then(σ.wr s (off+len*e) news).map λσ'=>(.sl s off (len+m) (.cm c),σ')
  else if (len+m)*bytes<=140737488355328/\len+m<=4611686018427387904 then(σ.rd s off (len*e)).map λold=>(.sl σ.bY 0 (len+m) (.grown e),σ.cb (old++news))else none
 | .sl s off len (.grown g)=>
  if (len+m)*bytes<=140737488355328/\len+m<=4611686018427387904/\g=e then
   (σ.cd s).bind λcs=>if off+len*e<=cs.length then Ik (.sl σ.bY 0 (len+m) (.grown e),(σ.kill s).cb ((cs.drop off).take (len*e)++news))else none
  else none
 |_=>none
def EE(s:PV):Option PV:=
 match s with
 | .fz _ .cU _ _=>Ik (.fz Im .cU 0 [])
 | .sl s off len (.cm c)=>if len<=c then Ik (.sl s off len (.cm c))else none
 | .sl s off len (.grown e)=>Ik (.sl s off len (.grown e))
 | .fz w (.sl o off l c) len cs=>Ik (.fz w (.sl o off l c) len cs)
 |_=>none
def zW(e bytes:Nat)(σ:dj)(s x:PV):Option (PV×dj):=
 (BO x).bind λm=>if m=0 then(EE s).map λv=>(v,σ)else(q8 e σ x m).bind λnews=>xL e bytes σ s news m
def pcopy(e:Nat)(σ:dj)(d s:PV):Option (PV×dj):=
 (BO d).bind λn=>(BO s).bind λm=>if min m n=0 then Ik (.int .i64 0,σ)else
  match d with
  | .sl o off _ _=>(q8 e σ s (min m n)).bind λcs=>(σ.wr o off cs).map λσ'=>(.int .i64 (min m n:Nat),σ')
  |_=>none
section
variable{ι ι':Nat->Nat}{Z Z':Nat->Prop}{h h':dN}{σ σ':dj}
def qP(ι:Nat->Nat):∀cs:List PV,kA ι cs=cs.map (er ι)
 |[]=>rfl
 |c::cs=>by rw[kA,qP ι cs];rfl
def zGb:∀cs:List AV,gH cs=cs.map mQ
 |[]=>rfl
 |c::cs=>by rw[gH,zGb cs];rfl
mutual
def zGO(ι:Nat->Nat):∀v:AV,er ι (mQ v)=v
 | .undef | .bool _ | .int _ _ | .str _ | .nilp | .nilf | .err _ | .cU | .ptr _ _ | .sl _ _ _ _=>rfl
 | .clo f a b=>by simp only[mQ,er,qa ι a,qa ι b]
 | .agg a=>by simp only[mQ,er,qa ι a]
 | .tup a=>by simp only[mQ,er,qa ι a]
def qa(ι:Nat->Nat):∀v:List AV,kA ι (gH v)=v
 |[]=>rfl
 |c::cs=>by simp only[gH,kA,zGO ι c,qa ι cs]
end
def FzAt(Z:Nat->Prop)(h:dN)(w:Bool)(a:AV)(len:Nat)(ws:List AV):Prop:=
 (a=.cU/\len=0/\ws=[])\/∃o off cap,a=.sl o off len cap/\Z o/\(ws=[]\/h.rd o off ws.length=Ik ws)/\(∀c,cap=.cm c->len<=c)/\(w=Im->off=0/\h.cd o=Ik ⟨Im,ws⟩)
def FpAt(Z:Nat->Prop)(h:dN)(a:AV)(ws:List AV):Prop:=
 a.one=Im/\(ws=[]\/∃o i,a=.ptr o i/\Z o/\h.rd o i ws.length=Ik ws)
def zj:Nat->Nat:=λ_=>0
mutual
def mA(Z:Nat->Prop)(h:dN)(n:Nat):PV->Prop
 | .undef | .bool _ | .int _ _ | .str _ | .nilp | .nilf | .err _=>True
 | .fz w a len cs=>FzAt Z h w a len (kA zj cs)/\fQ Z h 0 cs
 | .fp a cs=>FpAt Z h a (kA zj cs)/\fQ Z h 0 cs
 | .ptr s _=>s<n
 | .sl s _ _ _=>s<n
 | .clo _ a b=>fQ Z h n a/\fQ Z h n b
 | .agg cs=>fQ Z h n cs
 | .tup cs=>fQ Z h n cs
def fQ(Z:Nat->Prop)(h:dN)(n:Nat):List PV->Prop
 |[]=>True
 |c::cs=>mA Z h n c/\fQ Z h n cs
end
def ZW:∀{cs:List PV},fQ Z h n cs↔∀c∈cs,mA Z h n c
 |[]=>by simp[fQ]
 |c::cs=>by simp[fQ,ZW (cs:=cs)]
def FzAt.mono(C:∀o,Z o->Z' o/\h'.cd o=h.cd o){w:Bool}{a:AV}{len:Nat}{ws:List AV}(A:FzAt Z h w a len ws):FzAt Z' h' w a len ws:=by
 rcases A with A|⟨o,off,cap,rfl,m,u,G,D⟩
 .exact .inl A
 .exact .inr ⟨o,off,cap,rfl,(C o m).1,u.imp id λu=>by rw[zHn (C o m).2];exact u,G,λE=>⟨(D E).1,by rw[(C o m).2];exact(D E).2⟩⟩
def FpAt.mono(A:∀o,Z o->Z' o/\h'.cd o=h.cd o){a:AV}{ws:List AV}(D:FpAt Z h a ws):FpAt Z' h' a ws:=by
 obtain⟨m,rfl|⟨o,i,rfl,u,C⟩⟩:=D
 .exact⟨m,.inl rfl⟩
 .exact⟨m,.inr ⟨o,i,rfl,(A o u).1,by rw[zHn (A o u).2];exact C⟩⟩
mutual
def mA.mono(m:∀o,Z o->Z' o/\h'.cd o=h.cd o){n n':Nat}(u:n<=n'):∀{v:PV},mA Z h n v->mA Z' h' n' v
 | .undef,_ | .bool _,_ | .int _ _,_ | .str _,_ | .nilp,_ | .nilf,_ | .err _,_=>trivial
 | .fz w a len cs,hv=>⟨hv.1.mono m,fQ.mono m (sB 0) hv.2⟩
 | .fp a cs,hv=>⟨hv.1.mono m,fQ.mono m (sB 0) hv.2⟩
 | .ptr s _,hv=>YO (show s<n from hv) u
 | .sl s _ _ _,hv=>YO (show s<n from hv) u
 | .clo _ a b,hv=>⟨fQ.mono m u hv.1,fQ.mono m u hv.2⟩
 | .agg cs,hv=>fQ.mono (cs:=cs) m u hv
 | .tup cs,hv=>fQ.mono (cs:=cs) m u hv
def fQ.mono(u:∀o,Z o->Z' o/\h'.cd o=h.cd o){n n':Nat}(m:n<=n'):∀{cs:List PV},fQ Z h n cs->fQ Z' h' n' cs
 |[],_=>trivial
 |c::cs,hv=>⟨mA.mono u m hv.1,fQ.mono u m hv.2⟩
end
def fQ.up{v:List PV}(A:fQ Z h n v)(m:n<=n'):fQ Z h n' v:=A.mono (λo u=>⟨u,rfl⟩) m
mutual
def zEr{n:Nat}(hi:∀s,s<n->ι' s=ι s):∀{v:PV},mA Z h n v->er ι' v=er ι v
 | .undef,_ | .bool _,_ | .int _ _,_ | .str _,_ | .nilp,_ | .nilf,_ | .err _,_=>rfl
 | .fz w a len cs,hv=>rfl
 | .fp a cs,hv=>rfl
 | .ptr s _,hv=>by simp only[er];rw[hi s hv]
 | .sl s _ _ _,hv=>by simp only[er];rw[hi s hv]
 | .clo _ a b,hv=>by simp only[er];rw[ZT hi hv.1,ZT hi hv.2]
 | .agg cs,hv=>by simp only[er];rw[ZT (cs:=cs) hi hv]
 | .tup cs,hv=>by simp only[er];rw[ZT (cs:=cs) hi hv]
def ZT{n:Nat}(hi:∀s,s<n->ι' s=ι s):∀{cs:List PV},fQ Z h n cs->kA ι' cs=kA ι cs
 |[],_=>rfl
 |c::cs,hv=>by simp only[kA];rw[zEr hi hv.1,ZT hi hv.2]
end
def ZR{cs:List PV}(m:fQ Z h 0 cs):kA ι cs=kA zj cs:=ZT (λs hs=>absurd hs (Jv _)) m
def zDN{v:PV}(m:mA Z h 0 v):er ι v=er zj v:=zEr (λs hs=>absurd hs (Jv _)) m
mutual
def mA.mQ:∀(v:AV),mA Z h n (mQ v)
 | .undef | .bool _ | .int _ _ | .str _ | .nilp | .nilf | .err _=>trivial
 | .cU=>⟨.inl ⟨rfl,rfl,rfl⟩,Is⟩
 | .ptr _ _ | .sl _ _ _ _=>⟨⟨rfl,.inl rfl⟩,Is⟩
 | .clo f a b=>⟨fQ.gH a,fQ.gH b⟩
 | .agg cs=>fQ.gH cs
 | .tup cs=>fQ.gH cs
def fQ.gH:∀(v:List AV),fQ Z h n (gH v)
 |[]=>trivial
 |c::cs=>⟨mA.mQ c,fQ.gH cs⟩
end
def zSG{v:PV}(m:mA Z h n v):(er ι v).one=v.one:=by
 cases v with
 |fz w a len cs=>
  obtain⟨rfl,_⟩|⟨o,off,cap,rfl,_⟩:=m.1<;>rfl
 |fp a cs=>exact m.1.1
 |_=>rfl
def zI7{a:AV}(m:a.one=Im):a.cells=[a]:=by cases a<;>first|rfl|cases m
def zEs{v:PV}(m:mA Z h n v):(er ι v).cells=kA ι v.cells:=by
 cases v with
 |fz w a len cs=>
  obtain⟨rfl,_⟩|⟨o,off,cap,rfl,_⟩:=m.1<;>rfl
 |fp a cs=>exact zI7 m.1.1
 |_=>rfl
def mA.cells{v:PV}(m:mA Z h n v):fQ Z h n v.cells:=by
 cases v with
 |agg cs=>exact m
 |_=>exact⟨m,Is⟩
def ze(cs:List PV):(kA ι cs).length=Tw cs:=by simp[qP]
def q9(as m:List PV):kA ι (as++m)=kA ι as++kA ι m:=by simp[qP]
def Zi(as:List PV)(k:Nat):kA ι (as.take k)=(kA ι as).take k:=by simp[qP,List.map_take]
def Zj(as:List PV)(k:Nat):kA ι (as.drop k)=(kA ι as).drop k:=by simp[qP,List.map_drop]
def zB0(as:List PV)(k:Nat):(kA ι as)[k]? = (as[k]?).map (er ι):=by simp[qP]
def zDo{cs:List PV}(m:fQ Z h n cs):(kA ι cs).all AV.one=cs.all PV.one:=by
 induction cs with
 |nil=>rfl
 |cons c cs ih=>simp only[kA,List.all_cons,zSG m.1,ih m.2]
def fQ.append{as m:List PV}(u:fQ Z h n as)(A:fQ Z h n m):fQ Z h n (as++m):=by
 rw[ZW]at *;intro c hc;rcases YZ.1 hc with hc|hc
 .exact u c hc
 .exact A c hc
def fQ.take{as:List PV}(m:fQ Z h n as)(k:Nat):fQ Z h n (as.take k):=by
 rw[ZW]at *;exactλc u=>m c (Y7 u)
def fQ.drop{as:List PV}(m:fQ Z h n as)(k:Nat):fQ Z h n (as.drop k):=by
 rw[ZW]at *;exactλc u=>m c (Jx u)
def fQ.get{as:List PV}(m:fQ Z h n as){k:Nat}{v:PV}(u:as[k]? = Ik v):mA Z h n v:=ZW.1 m v (Ub u)
structure Rel(ι:Nat->Nat)(Z:Nat->Prop)(σ:dj)(h:dN):Prop where
 hwf:HWF h
 Dy:∀o,Z o->o<h.bY
 top:σ.top<=h.bY
 wf:∀s,σ.bY<=s->σ.cd s=none
 cd:∀s cs,σ.cd s=Ik cs->h.cd (ι s)=Ik ⟨Im,kA ι cs⟩/\fQ Z h σ.bY cs/\¬Z (ι s)
 inj:∀s s' cs dc,σ.cd s=Ik cs->σ.cd s'=Ik dc->ι s=ι s'->s=s'
structure r6(ι:Nat->Nat)(Z:Nat->Prop)(σ:dj)(h:dN)(ι':Nat->Nat)(Z':Nat->Prop)(σ':dj)(h':dN):Prop where
 bY:σ.bY<=σ'.bY
 hnext:h.bY<=h'.bY
 inj:∀s,s<σ.bY->ι' s=ι s
 z:∀o,Z o->Z' o/\h'.cd o=h.cd o
 dead:∀s,s<σ.bY->σ.cd s=none->σ'.cd s=none
 fresh:∀s cs,σ.bY<=s->σ'.cd s=Ik cs->h.bY<=ι' s
def Rel.none_lt(r:Rel ι Z σ h){s:Nat}{cs:List PV}(hs:σ.cd s=Ik cs):s<σ.bY:=by
 rcases YY s σ.bY with x|x
 .exact x
 .rw[r.wf s x]at hs;cases hs
def r6.refl(r:Rel ι Z σ h):r6 ι Z σ h ι Z σ h:=⟨sB _,sB _,λ_ _=>rfl,λo m=>⟨m,rfl⟩,λ_ _ h=>h,λs cs hs m=>absurd (r.none_lt m) aH⟩
def r6.trans{ι'':Nat->Nat}{u:Nat->Prop}{σ'':dj}{fJ:dN}(a:r6 ι Z σ h ι' Z' σ' h')(b:r6 ι' Z' σ' h' ι'' u σ'' fJ):r6 ι Z σ h ι'' u σ'' fJ:=
 ⟨Yv a.bY b.bY,Yv a.hnext b.hnext,λs hs=>(b.inj s (YO hs a.bY)).trans (a.inj s hs),
  λo m=>⟨(b.z o (a.z o m).1).1,(b.z o (a.z o m).1).2.trans (a.z o m).2⟩,λs hs A=>b.dead s (YO hs a.bY) (a.dead s hs A),
  λs cs hs m=>by
   rcases YY s σ'.bY with x|x
   .rw[b.inj s x];cases hc:σ'.cd s with
    |none=>rw[b.dead s x hc]at m;cases m
    |some ds=>exact a.fresh s ds hs hc
   .exact Yv a.hnext (b.fresh s cs x m)⟩
def r6.vok{v:PV}(a:r6 ι Z σ h ι' Z' σ' h')(m:mA Z h σ.bY v):mA Z' h' σ'.bY v:=m.mono a.z a.bY
def r6.voks{v:List PV}(a:r6 ι Z σ h ι' Z' σ' h')(m:fQ Z h σ.bY v):fQ Z' h' σ'.bY v:=m.mono a.z a.bY
def r6.er{v:PV}(a:r6 ι Z σ h ι' Z' σ' h')(m:mA Z h σ.bY v):er ι' v=er ι v:=zEr a.inj m
def r6.kA{v:List PV}(a:r6 ι Z σ h ι' Z' σ' h')(m:fQ Z h σ.bY v):kA ι' v=kA ι v:=ZT a.inj m
def CQ(Z:Nat->Prop)(h:dN)(n:Nat)(E:gr):Prop:=∀t,mA Z h n (E t)
def yE(ι:Nat->Nat)(E:gr):Env:=λt=>er ι (E t)
def r6.eok{E:gr}(a:r6 ι Z σ h ι' Z' σ' h')(m:CQ Z h σ.bY E):CQ Z' h' σ'.bY E:=λt=>a.vok (m t)
def r6.yE{E:gr}(a:r6 ι Z σ h ι' Z' σ' h')(m:CQ Z h σ.bY E):yE ι' E=yE ι E:=funext λt=>a.er (m t)
def zAk(E:gr)(d:Option Nat)(v:PV):yE ι (E.put d v)=(yE ι E).put d (er ι v):=by
 cases d with
 |none=>rfl
 |some d=>funext t;simp only[Go.Ab.yE,gr.put,Env.put];split<;>rfl
def CQ.put{E:gr}(m:CQ Z h n E){v:PV}(u:mA Z h n v)(d:Option Nat):CQ Z h n (E.put d v):=by
 cases d with
 |none=>exact m
 |some d=>intro t;simp only[gr.put];split;exact u;exact m t
def zB2:∀(S:List Nat) (vs:List PV),yE ι (gr.mk S vs)=Env.mk S (kA ι vs)
 |[],vs=>by funext t;simp[Go.Ab.yE,gr.mk,Env.mk,er]
 |s::S,[]=>by funext t;simp[Go.Ab.yE,gr.mk,Env.mk,er,Go.Ab.kA]
 |s::S,v::vs=>by
  funext t
  have:=congrFun (zB2 S vs) t
  simp only[Go.Ab.yE,gr.mk,Env.mk,Go.Ab.kA]at this ⊢;split
  .rfl
  .exact this
def CQ.mk:∀{S:List Nat} {vs:List PV},fQ Z h n vs->CQ Z h n (gr.mk S vs)
 |[],vs,_=>λt=>trivial
 |s::S,[],_=>λt=>trivial
 |s::S,v::vs,hv=>λt=>by simp only[gr.mk];split;exact hv.1;exact CQ.mk hv.2 t
def zB1(E:gr)(S:List Nat):kA ι (S.map E)=S.map (yE ι E):=by simp[qP,yE]
def CQ.map{E:gr}(u:CQ Z h n E)(S:List Nat):fQ Z h n (S.map E):=by
 rw[ZW];intro c m;obtain⟨t,_,rfl⟩:=YD.1 m;exact u t
def FW(E:gr)(x:IX):er ι (x.pv E)=x.ev (yE ι E):=by
 cases x with
 |t n=>rfl
 |c v=>exact zGO ι v
def CQ.pv{E:gr}(m:CQ Z h n E)(x:IX):mA Z h n (x.pv E):=by
 cases x with
 |t n=>exact m n
 |c v=>exact mA.mQ v
def zGN(E:gr)(l:List IX):kA ι (l.map (·.pv E))=l.map (·.ev (yE ι E)):=by
 rw[qP,UR];exact JI λx _=>FW E x
def CQ.pvs{E:gr}(u:CQ Z h n E)(l:List IX):fQ Z h n (l.map (·.pv E)):=by
 rw[ZW];intro c m;obtain⟨x,_,rfl⟩:=YD.1 m;exact u.pv x
def zGA(r:Rel ι Z σ h){s i k:Nat}{vs:List PV}(m:σ.rd s i k=Ik vs):h.rd (ι s) i k=Ik (kA ι vs)/\fQ Z h σ.bY vs:=by
 simp only[dj.rd,YX]at m;obtain⟨cs,C,m⟩:=m;split at m
 .rename_i D;cases m;obtain⟨u,A,_⟩:=r.cd s cs C;refine⟨?_,(A.drop _).take _⟩;rw[zBF u (by simpa [ze]using D),Zi,Zj]
 .cases m
def zOs(r:Rel ι Z σ h){s i:Nat}{v:PV}(m:σ.gv s i=Ik v):h.gv (ι s) i=Ik (er ι v)/\mA Z h σ.bY v:=by
 simp only[dj.gv,YX]at m;obtain⟨cs,C,m⟩:=m;obtain⟨u,A,_⟩:=r.cd s cs C;exact⟨by rw[zFH u,zB0,m];rfl,A.get m⟩
def zCF(r:Rel ι Z σ h){agg:Bool}{k:Nat}{x v:PV}(I:mA Z h σ.bY x)(m:DW agg k x σ=Ik v):GZ agg k (er ι x) h=Ik (er ι v)/\mA Z h σ.bY v:=by
 cases x<;>simp only[DW,reduceCtorEq]at m
 case ptr s i=>
  simp only[er,GZ];cases agg with
  |true=>
   simp only[if_true,YJ]at m ⊢;obtain⟨vs,m,rfl⟩:=m;obtain⟨u,A⟩:=zGA r m;exact⟨⟨_,u,rfl⟩,A⟩
  |false=>
   simp only[JM,if_false]at m ⊢;exact zOs r m
 case fp a cs=>
  obtain⟨⟨J,u⟩,A⟩:=I;have E:=A.up (YQ σ.bY);rcases u with u|⟨o,i,rfl,N,C⟩
  .have:cs=[]:=YM (by rw[<-ze (ι:=zj),u];rfl)
   subst this;cases agg with
   |true=>
    simp only[if_true]at m;split at m
    .rename_i D;simp at D;omega
    .cases m
   |false=>simp at m
  .simp only[er,GZ];cases agg with
   |true=>
    simp only[if_true]at m ⊢;split at m
    .rename_i D;cases m
     have:=zBq C (a:=0) (b:=k) (by rw[ze];omega)
     rw[Y6,J0]at this;rw[this,<-Zi];exact⟨by simp[er,ZR (ι:=ι) (A.take k)],E.take k⟩
    .cases m
   |false=>
    simp only[JM,if_false]at m ⊢;have G:0<(kA zj cs).length:=by
     rw[ze];exact(Yg.1 m).1
    have:=zMy C G
    rw[Y6]at this;rw[this,zB0,m];exact⟨by simp[zDN (ι:=ι) (A.get m)],E.get m⟩
def zBU:∀{m:List (Nat×Nat×PV)} {cells cs:List PV},(∀p∈m,mA Z h n p.2.2)->fQ Z h n cells->Dn cells m=Ik cs->
  xK (kA ι cells) (m.map λp=>(p.1,p.2.1,er ι p.2.2))=Ik (kA ι cs)/\fQ Z h n cs
 |[],cells,cs,_,hc,hv=>by cases hv;exact⟨rfl,hc⟩
 |(off,size,v)::m,cells,cs,hp,hc,hv=>by
  simp only[Dn]at hv;split at hv
  .rename_i A;have u:mA Z h n v:=hp (off,size,v) bj;have C:=zBU (λp D=>hp p (by simp[D])) (((hc.take off).append u.cells).append (hc.drop (off+size))) hv;simp only[Yw,xK];rw[zEs u,Iu ⟨by rw[ze];exact A.1,by rw[ze];exact A.2.1,by rw[zDo u.cells];exact A.2.2⟩];rw[q9,q9,Zi,Zj]at C;exact C
  .cases hv
def zMJ{a:AV}(m:ZG a=Im):a=.cU:=by cases a<;>first|rfl|cases m
def zAt{x:PV}{y k:Nat}(m:QN x y=Ik k):zAQ (er ι x) y=Ik k:=by
 cases x<;>simp only[QN,reduceCtorEq]at m
 exact m
def za{x:Option PV}{d y k:Nat}(m:zn x d y=Ik k):zY (x.map (er ι)) d y=Ik k:=by
 cases x with
 |none=>exact m
 |some x=>exact zAt m
def zNM{x:PV}{y k:Nat}(m:QN x y=Ik k):k<=y:=by
 cases x<;>simp only[QN,reduceCtorEq]at m
 split at m
 .cases m;omega
 .cases m
def zFJ{x:Option PV}{d y k:Nat}(u:d<=y)(m:zn x d y=Ik k):k<=y:=by
 cases x with
 |none=>cases m;exact u
 |some x=>exact zNM m
def zJE(e:Nat)(lo hi:Option AV):QC e .cU lo hi none=(zY hi 0 0).bind λh=>(zY lo 0 h).bind λ_=>if hi.isNone=Im/\(none:Option AV).isSome=Im then none else Ik .cU:=rfl
def zHI(e o off len c:Nat)(lo hi:Option AV):QC e (.sl o off len (.cm c)) lo hi none=(zY hi len c).bind λh=>(zY lo 0 h).bind λl=>
   if hi.isNone=Im/\(none:Option AV).isSome=Im then none else Ik (.sl o (if c=l then off else off+l*e) (h-l) (.cm (c-l))):=rfl
def zHt{e:Nat}{x v:PV}{lo hi mx:Option PV}(J:mA Z h n x)(u:Ql e x lo hi mx=Ik v):
  QC e (er ι x) (lo.map (er ι)) (hi.map (er ι)) (mx.map (er ι))=Ik (er ι v)/\mA Z h n v:=by
 cases x<;>simp only[Ql,reduceCtorEq]at u
 case sl s off len cap=>
  cases cap with
  |cm c=>
   simp only[YX]at u;obtain⟨m,E,k,A,l,C,u⟩:=u;split at u
   .cases u
   .rename_i D;cases u;simp only[er,QC];rw[za E];simp only[YG];rw[za A];simp only[YG];rw[za C];simp only[YG,Option.isNone_map,Option.isSome_map];rw[Iv D];exact⟨rfl,J⟩
  |grown g=>
   cases mx with
   |none=>
    simp only[YX]at u;obtain⟨k,A,l,C,u⟩:=u;cases u;simp only[er,QC,Option.map_none];rw[za A];simp only[YG];rw[za C];simp only[YG];exact⟨Is,J⟩
   |some mx=>
    simp only[YX]at u;obtain⟨m,E,k,A,l,C,u⟩:=u;split at u
    .cases u
    .rename_i D;cases u;simp only[er,QC,Kc];rw[zAt E];simp only[YG];rw[za A];simp only[YG];rw[za C];simp only[YG,Option.isNone_map];rw[Iv D];exact⟨rfl,J⟩
 case fz w a len cs=>
  cases mx with
  |some mx=>
   cases a<;>try cases u
   simp only[YX]at u;obtain⟨m,E,k,A,l,C,u⟩:=u;split at u
   .cases u
   .rename_i D;cases u;simp only[er,QC,Kc];rw[show zY (Ik (er ι mx)) 0 0=Ik m from zAt E];simp only[YG];rw[za A];simp only[YG];rw[za C];simp only[YG,Option.isNone_map];rw[Iv λh=>D h.1];exact⟨rfl,.inl ⟨rfl,rfl,rfl⟩,Is⟩
  |none=>
   simp only[YX]at u;obtain⟨k,A,l,C,u⟩:=u;cases u;have hk:=zFJ (sB _) A;have hl:=zFJ (YQ _) C;obtain⟨V,D⟩:=J;have N:fQ Z h 0 ((cs.drop (l*e)).take ((k-l)*e)):=(D.drop _).take _;simp only[er,Option.map_none];rcases V with ⟨rfl,rfl,U⟩|⟨o,off,cap,rfl,O,h5,S,Y⟩
   .have:cs=[]:=YM (by rw[<-ze (ι:=zj),U];rfl)
    subst this;obtain rfl:k=0:=aH
    obtain rfl:l=0:=aH
    rw[zJE];rw[show zY (hi.map (er ι)) 0 0=Ik 0 from za A];simp only[YG];rw[show zY (lo.map (er ι)) 0 0=Ik 0 from za C];simp only[YG];refine⟨by simp[pslA],.inl ⟨rfl,rfl,by simp[kA]⟩,by simp[fQ]⟩
   .have dk:∀I,(I=off+l*e\/(I=off/\(k-l)*e=0))->(kA zj ((cs.drop (l*e)).take ((k-l)*e))=[]\/h.rd o I (kA zj ((cs.drop (l*e)).take ((k-l)*e))).length=Ik (kA zj ((cs.drop (l*e)).take ((k-l)*e)))):=by
     rintro I (rfl|⟨rfl,R⟩)
     .rw[Zi,Zj];by_cases hle:l*e<(kA zj cs).length
      .right;rcases h5 with h5|h5
       .rw[h5]at hle;simp at hle
       .have:=zBq h5 (a:=l*e) (b:=((Kf (l*e) (kA zj cs)).take ((k-l)*e)).length) (by simp;omega)
        rw[this];congr 1;rw[Ym];apply Kr;intro q;simp only[Y3];split
        .split
         .rfl
         .omega
        .split
         .have:(Kf (l*e) (kA zj cs)).length<=q:=aH
          rw[YN this]
         .rfl
      simp_all
     .left;rw[R];rfl
    cases cap with
    |cm c=>
     have ud:=S c rfl;rw[zHI];have T:∀{x:Option PV} {d q:Nat},d=len->zn x d len=Ik q->zY (x.map (er ι)) d c=Ik q:=by
      intro x d q hd G;cases x with
      |none=>exact G
      |some x=>
       cases x<;>simp only[zn,QN,reduceCtorEq]at G
       split at G
       .rename_i X;cases G;simp only[Kc,er,zY,zAQ];rw[Iu ⟨X.1,aH⟩]
       .cases G
     rw[T rfl A];simp only[YG];rw[za C];simp only[YG,Kx,JM,and_false,if_false];refine⟨rfl,.inr ⟨o,_,_,rfl,O,?_,?_,bj⟩,N⟩
     .grind
     .intro c' jw;cases jw;omega
    |grown g=>
     simp only[QC,Option.map_none];rw[za A];simp only[YG];rw[za C];simp only[YG];exact⟨rfl,.inr ⟨o,_,_,rfl,O,dk _ (.inl rfl),(λc D=>by cases D),bj⟩,N⟩
end
section
variable{P:Program}{ι ι':Nat->Nat}{Z Z':Nat->Prop}{h h':dN}{σ σ':dj}
def qC{op:BinOp}{b:Bool}{v:PV}(m:D1 op b=Ik v):DR op b=Ik (er ι v)/\mA Z h n v:=by
 cases op<;>simp only[D1,reduceCtorEq]at m<;>cases m<;>exact⟨rfl,Is⟩
def zAa{o:Option AV}{v:PV}(m:o.map mQ=Ik v):o=Ik (er ι v)/\mA Z h n v:=by
 obtain⟨a,rfl,rfl⟩:=YJ.1 m;exact⟨by rw[zGO],mA.mQ a⟩
def zEC:∀{xs m:List PV} {r:Bool},BE xs m=Ik r->aggB (kA ι xs) (kA ι m)=Ik r
 |[],[],r,h=>h
 |[],y::m,r,h=>by cases y<;>simp[BE]at h
 |x::xs,[],r,h=>by cases x<;>simp[BE]at h
 |x::xs,y::m,r,h=>by
  cases x<;>cases y<;>simp only[BE,reduceCtorEq]at h
  split at h
  .rename_i u;obtain⟨C,A,rfl⟩:=YJ.1 h;simp only[kA,er,aggB,Iu u,zEC A,Kc]
  .cases h
def zLV{op:BinOp}{u:He}{x y v:PV}(D:mA Z h n x)(E:mA Z h n y)(m:mR op u x y=Ik v):AW op u (er ι x) (er ι y)=Ik (er ι v)/\mA Z h n v:=by
 cases x<;>cases y<;>simp only[mR,reduceCtorEq]at m
 case int.int k a k' b=>exact zAa m
 case str.str a b=>
  have:=zAa (ι:=ι) (Z:=Z) (h:=h) (n:=n) m
  exact⟨this.1,this.2⟩
 case bool.bool a b=>cases u<;>simp only[reduceCtorEq]at m;exact qC m
 case agg.agg xs ys=>
  cases u<;>simp only[reduceCtorEq]at m
  split at m
  .rename_i I;obtain⟨r,J,m⟩:=YX.1 m
   have:=qC (ι:=ι) (Z:=Z) (h:=h) (n:=n) m
   refine⟨?_,this.2⟩;simp only[er,AW,ze,Iu I,zEC J,YG];exact this.1
  .cases m
 case nilp.nilp=>cases u<;>simp only[reduceCtorEq]at m;exact qC m
 case nilp.ptr=>cases u<;>simp only[reduceCtorEq]at m;exact qC m
 case ptr.nilp=>cases u<;>simp only[reduceCtorEq]at m;exact qC m
 case nilf.nilf=>cases u<;>simp only[reduceCtorEq]at m;exact qC m
 case nilf.clo=>cases u<;>simp only[reduceCtorEq]at m;exact qC m
 case clo.nilf=>cases u<;>simp only[reduceCtorEq]at m;exact qC m
 case fz.fz w a l cs w' a' l' dc=>
  cases u<;>simp only[reduceCtorEq]at m
  obtain⟨rfl,_⟩|⟨o,off,cap,rfl,_⟩:=D.1<;>obtain⟨rfl,_⟩|⟨G,C,A,rfl,_⟩:=E.1<;>simp only[ZG,if_true,JM,if_false,reduceCtorEq]at m
  .exact qC m
  .exact qC m
  .exact qC m
 case sl.fz s off len cap w' a' l' dc=>
  cases u<;>simp only[reduceCtorEq]at m
  obtain⟨rfl,_⟩|⟨G,C,A,rfl,_⟩:=E.1<;>simp only[ZG,if_true,JM,if_false,reduceCtorEq]at m
  exact qC m
 case fz.sl w' a' l' dc s off len cap=>
  cases u<;>simp only[reduceCtorEq]at m
  obtain⟨rfl,_⟩|⟨G,C,A,rfl,_⟩:=D.1<;>simp only[ZG,if_true,JM,if_false,reduceCtorEq]at m
  exact qC m
def zLe{op:BinOp}{x v:PV}(m:pErr op x=Ik v):aErr op (er ι x)=Ik (er ι v)/\mA Z h n v:=by
 cases x<;>simp only[pErr,reduceCtorEq]at m
 exact qC m
def zM2{op:UnOp}{x v:PV}(m:pun op x=Ik v):aun op (er ι x)=Ik (er ι v)/\mA Z h n v:=by
 cases x<;>simp only[pun,reduceCtorEq]at m
 .exact zAa m
 .exact zAa m
def zH7{sz:Nat}{x i v:PV}(C:mA Z h n x)(u:zBu sz x i=Ik v):qR sz (er ι x) (er ι i)=Ik (er ι v)/\mA Z h n v:=by
 cases x<;>cases i<;>simp only[zBu,reduceCtorEq]at u
 case sl.int s off len cap k m=>
  split at u
  .rename_i A;cases u;simp only[er,qR];rw[Iu A];exact⟨rfl,C⟩
  .cases u
 case fz.int w a len cs k m=>
  split at u
  .rename_i A;cases u;obtain⟨G,D⟩:=C;rcases G with ⟨rfl,rfl,_⟩|⟨o,off,cap,rfl,E,h2,_⟩
   .omega
   .simp only[er,qR,pAt];rw[Iu A];refine⟨rfl,⟨rfl,?_⟩,D.drop _⟩;rw[Zj];rcases h2 with h2|h2
    .left;rw[h2];simp
    .by_cases I:m.toNat*sz<(kA zj cs).length
     .right;refine⟨_,_,rfl,E,?_⟩;rw[zBq h2 (a:=m.toNat*sz) (b:=(Kf (m.toNat*sz) (kA zj cs)).length) (by simp;omega),YP]
     .left;exact Kz aH
  .cases u
def RevOK(ι:Nat->Nat)(σ:dj)(nb nr nb1:Nat):Prop:=∀k,k<nr->nb+k<σ.bY/\ι (nb+k)=nb1+k
def zHo(r:Rel ι Z σ h){E:gr}(C:CQ Z h σ.bY E){nb nr nb1:Nat}(U:RevOK ι σ nb nr nb1){op:tT}{v:PV}(u:qp nb nr op E σ=Ik v):
  qv nb1 op (yE ι E) h=Ik (er ι v)/\mA Z h σ.bY v:=by
 cases op<;>simp only[qp,reduceCtorEq]at u<;>simp only[qv,<-FW]
 case mv x=>cases u;exact⟨rfl,C.pv x⟩
 case pick c a b=>
  have J:=C.pv c
  revert u;generalize c.pv E=c';intro u
  cases c'<;>simp only[pPick,reduceCtorEq]at u
  cases u;simp only[er,sn];split
  .exact⟨rfl,C.pv a⟩
  .exact⟨rfl,C.pv b⟩
 case bin o k x y=>exact zLV (C.pv x) (C.pv y) u
 case un o x=>exact zM2 u
 case errB o x=>exact zLe u
 case conv k x=>
  revert u;generalize x.pv E=x';intro u
  cases x'<;>simp only[pConv,reduceCtorEq]at u
  cases u;exact⟨rfl,Is⟩
 case nilCheck x=>
  have A:=C.pv x
  revert u A;generalize x.pv E=x';intro u A
  cases x'<;>simp only[pNil,reduceCtorEq]at u
  .rename_i a cs;split at u
   .cases u
   .rename_i N;cases u;obtain⟨⟨V,D⟩,G⟩:=A;rcases D with D|⟨o,i,rfl,I⟩
    .cases cs with
     |nil=>exact absurd rfl N
     |cons c cs=>simp[kA]at D
    .exact⟨rfl,⟨V,.inr ⟨o,i,rfl,I⟩⟩,G⟩
  .cases u;exact⟨rfl,A⟩
  .cases u;exact⟨rfl,A⟩
 case build z ps=>
  obtain⟨cs,hf,rfl⟩:=YJ.1 u
  have:=zBU (ι:=ι) (Z:=Z) (h:=h) (n:=σ.bY) (λp hp=>by obtain⟨q,_,rfl⟩:=YD.1 hp;exact C.pv _) (fQ.gH z) hf
  rw[qa,UR]at this;refine⟨?_,this.2⟩;have G:(List.map ((λp:Nat×Nat×PV=>(p.1,p.2.1,er ι p.2.2)) ∘ λp:Nat×Nat×IX=>(p.1,p.2.1,p.2.2.pv E)) ps)=ps.map λp=>(p.1,p.2.1,er ι (p.2.2.pv E)):=rfl;rw[G]at this;rw[this.1];rfl
 case field a k off x=>
  have A:=C.pv x
  revert u A;generalize x.pv E=x';intro u A
  cases x'<;>simp only[zCu,reduceCtorEq]at u
  rename_i cs;simp only[er,qb];have T:fQ Z h σ.bY cs:=A;cases a with
  |true=>
   simp only[if_true]at u ⊢;cases u;simp only[er,Zi,Zj];exact⟨Is,(T.drop _).take _⟩
  |false=>
   simp only[JM,if_false]at u ⊢;rw[zB0,u];exact⟨rfl,T.get u⟩
 case fieldAddr off x=>
  have A:=C.pv x
  revert u A;generalize x.pv E=x';intro u A
  cases x'<;>simp only[Qn,reduceCtorEq]at u
  .rename_i a cs;split at u
   .cases u
   .rename_i N;cases u;obtain⟨⟨V,D⟩,G⟩:=A;rcases D with D|⟨o,i,rfl,I,Y⟩
    .cases cs with
     |nil=>exact absurd rfl N
     |cons c cs=>simp[kA]at D
    .refine⟨rfl,⟨rfl,?_⟩,G.drop _⟩;rw[Zj];by_cases hl:off<(kA zj cs).length
     .right;refine⟨o,i+off,rfl,I,?_⟩;rw[zBq Y (a:=off) (b:=(Kf off (kA zj cs)).length) (by simp;omega),YP]
     .left;exact Kz aH
  .cases u;exact⟨rfl,A⟩
 case indexAddr sz x i=>exact zH7 (C.pv x) u
 case indexStr x i=>
  revert u;generalize x.pv E=x';generalize i.pv E=i';intro u
  cases x'<;>cases i'<;>simp only[zDh,reduceCtorEq]at u
  split at u
  .rename_i J;obtain⟨c,X,rfl⟩:=YJ.1 u;simp only[er,qM];rw[Iu J,X];exact⟨rfl,Is⟩
  .cases u
 case extract x i=>
  have A:=C.pv x
  revert u A;generalize x.pv E=x';intro u A
  cases x'<;>simp only[zCI,reduceCtorEq]at u
  rename_i vs;simp only[er,qB];rw[zB0,u];exact⟨rfl,fQ.get (as:=vs) A u⟩
 case len x=>
  have A:=C.pv x
  revert u A;generalize x.pv E=x';intro u A
  cases x'<;>simp only[nN,BO,Option.map_none,Kc,reduceCtorEq]at u<;>cases u
  .obtain⟨rfl,rfl,_⟩|⟨o,off,cap,rfl,_⟩:=A.1<;>exact⟨rfl,Is⟩
  .exact⟨rfl,Is⟩
 case lenStr x=>
  revert u;generalize x.pv E=x';intro u
  cases x'<;>simp only[zDg,reduceCtorEq]at u
  cases u;exact⟨rfl,Is⟩
 case cap x=>
  revert u;generalize x.pv E=x';intro u
  cases x'<;>(try (simp only[pCap,reduceCtorEq]at u;done))
  case sl s off len cap=>
   simp only[pCap]at u;cases cap<;>simp only[reduceCtorEq]at u
   cases u;exact⟨rfl,Is⟩
  case fz w a l cs=>
   cases a<;>simp only[pCap,reduceCtorEq]at u
   cases u;exact⟨rfl,Is⟩
 case slice sz x lo hi mx=>
  have:=zHt (ι:=ι) (C.pv x) u
  simpa only[Option.map_map,Function.comp_def]using this
 case sliceStr x lo hi=>
  revert u;generalize x.pv E=x';intro u
  cases x'<;>simp only[zBG,reduceCtorEq]at u
  simp only[YX]at u;obtain⟨k,G,l,I,u⟩:=u;cases u;simp only[er,zBQ];have O:=za (ι:=ι) G;have R:=za (ι:=ι) I;rw[Option.map_map]at O R;simp only[Function.comp_def]at O R;rw[O];simp only[YG];rw[R];simp only[YG];exact⟨Is,Is⟩
 case maxmin m x y=>
  revert u;generalize x.pv E=x';generalize y.pv E=y';intro u
  cases x'<;>cases y'<;>simp only[zBt,reduceCtorEq]at u
  split at u
  .rename_i J;cases u;simp only[er,qL];rw[Iu J];exact⟨rfl,Is⟩
  .cases u
 case makeFunc f a b=>
  cases u;simp only[er,zGN,FW];exact⟨Is,C.pvs a,C.pvs b⟩
 case load a k x=>exact zCF r (C.pv x) u
 case rev k=>
  split at u
  .rename_i S;cases u;obtain⟨D,G⟩:=U k S;exact⟨by simp only[er];rw[G],D⟩
  .cases u
 case revS k m=>
  split at u
  .rename_i S;cases u;obtain⟨D,G⟩:=U k S;exact⟨by simp only[er];rw[G],D⟩
  .cases u
def Up(ι:Nat->Nat)(Z:Nat->Prop)(σ:dj)(h:dN)(K:PV->dj->Prop):AV->dN->Prop:=λv h'=>
 ∃pv σ' ι' Z',Rel ι' Z' σ' h'/\r6 ι Z σ h ι' Z' σ' h'/\mA Z' h' σ'.bY pv/\v=er ι' pv/\K pv σ'
def zA(P:Program)(f:FuncId)(args:List PV)(σ:dj)(K:PV->dj->Prop):Prop:=
 ∀(ι:Nat->Nat) (Z:Nat->Prop) (h:dN),Rel ι Z σ h->fQ Z h σ.bY args->ZH P f (kA ι args) h (Up ι Z σ h K)
def zA.mono{f:FuncId}{args:List PV}{K K':PV->dj->Prop}(c:zA P f args σ K)(m:∀v σ',K v σ'->K' v σ'):zA P f args σ K':=
 λι Z h r u=>(c ι Z h r u).mono λ_ _ ⟨pv,σ',ι',Z',a,b,d,e,k⟩=>⟨pv,σ',ι',Z',a,b,d,e,m _ _ k⟩
def ep(P:Program)(op:tT)(e:gr)(σ:dj)(K:PV->dj->Prop):Prop:=
 match op with
 | .alloc z=>K (.ptr σ.bY 0) (σ.cb (gH z))
 | .box x=>(x.pv e).cells.all PV.one=Im/\K (.ptr σ.bY 0) (σ.cb (x.pv e).cells)
 | .buildSl sz len z ps=>iU (Dn (gH (jE z len)) (ps.map λp=>(p.1,p.2.1,p.2.2.pv e))) λcs=>K (.sl σ.bY 0 len (.cm len)) (σ.cb cs)
 | .store n x v=>match x.pv e with
  | .ptr s i=>(v.pv e).cells.length=n/\iU (σ.wr s i (v.pv e).cells) λσ'=>K .undef σ'
  |_=>False
 | .makeSl sz bytes z l c=>match l.pv e,c.pv e with
  | .int _ l,.int _ c=>(0<=l/\l<=c/\c*bytes<=140737488355328/\c<=9223372036854775807)/\K (.sl σ.bY 0 l.toNat (.cm c.toNat)) (σ.cb (gH (jE z c.toNat)))
  |_,_=>False
 | .append sz bytes s x=>iU (zW sz bytes σ (s.pv e) (x.pv e)) λp=>K p.1 p.2
 | .appendMk sz bytes z s n=>match s.pv e,n.pv e with
  | .fz _ .cU _ _,.int _ n=>(0<=n/\n*bytes<=140737488355328/\n<=4611686018427387904)/\if 0<n then K (.sl σ.bY 0 n.toNat (.grown sz)) (σ.cb (gH (jE z n.toNat)))else K (.fz Im .cU 0 []) σ
  | .sl s off len c,.int _ n=>(0<=n/\n*bytes<=140737488355328/\n<=4611686018427387904)/\iU (if 0<n then xL sz bytes σ (.sl s off len c) (gH (jE z n.toNat)) n.toNat else(EE (.sl s off len c)).map λv=>(v,σ)) λp=>K p.1 p.2
  |_,_=>False
 | .copy sz d s=>iU (pcopy sz σ (d.pv e) (s.pv e)) λp=>K p.1 p.2
 | .call f args=>zA P f (args.map (·.pv e)) σ K
 | .callV f args=>match f.pv e with
  | .clo f first dw=>okF P f=Im/\zA P f (first++args.map (·.pv e)++dw) σ K
  |_=>False
 | .strOf x=>iU (Z5 σ (x.pv e)) λs=>K (.str s) σ
 |_=>False
def qt(ι:Nat->Nat)(s o:Nat):Nat->Nat:=λm=>if m=s then o else ι m
def Rel.cb(r:Rel ι Z σ h){cs:List PV}(I:fQ Z h σ.bY cs):Rel (qt ι σ.bY h.bY) Z (σ.cb cs) (h.cb ⟨Im,kA ι cs⟩)/\r6 ι Z σ h (qt ι σ.bY h.bY) Z (σ.cb cs) (h.cb ⟨Im,kA ι cs⟩):=by
 have A:r6 ι Z σ h (qt ι σ.bY h.bY) Z (σ.cb cs) (h.cb ⟨Im,kA ι cs⟩):=
  ⟨by simp[dj.cb],by simp[dN.cb],λs hs=>by simp[qt,Jn hs],λo m=>⟨m,zCN (by have:=r.Dy o m;omega) _⟩,λs hs O=>by simp only[dj.cb];rw[Iv aH];exact O,
   λs E hs m=>by
    by_cases e:s=σ.bY
    .subst e;simp[qt]
    .simp only[dj.cb,Iv e]at m;exact absurd (r.none_lt m) aH⟩
 refine⟨⟨r.hwf.cb _,λo m=>by have:=r.Dy o m;simp only[dN.cb];omega,by have:=r.top;simp only[dj.cb,dN.cb];omega,λs hs=>?_,λs E hs=>?_,λs C a b hs D hi=>?_⟩,A⟩
 .simp only[dj.cb]at hs ⊢;rw[Iv aH];exact r.wf s aH
 .simp only[dj.cb]at hs;by_cases e:s=σ.bY
  .subst e;rw[Iu rfl]at hs;cases hs;refine⟨?_,A.voks I,λS=>?_⟩
   .rw[A.kA I];simp[qt,dN.cb]
   .have:=r.Dy _ S;simp[qt]at this
  .rw[Iv e]at hs;obtain⟨u,G,J⟩:=r.cd s E hs;refine⟨?_,A.voks G,by simpa [qt,e]using J⟩;rw[A.kA G];simp only[qt,Iv e];rw[zCN (by have:=r.hwf.lt u;omega)];exact u
 .have af:∀{t:Nat} {a:List PV},t≠σ.bY->(σ.cb cs).cd t=Ik a->σ.cd t=Ik a:=λR N=>by simpa [dj.cb,R]using N
  by_cases e:s=σ.bY
  .by_cases e':C=σ.bY
   .rw[e,e']
   .obtain⟨u,_⟩:=r.cd C b (af e' D)
    have:=r.hwf.lt u
    subst e;simp[qt,e']at hi;omega
  .by_cases e':C=σ.bY
   .obtain⟨u,_⟩:=r.cd s a (af e hs)
    have:=r.hwf.lt u
    subst e';simp[qt,e]at hi;omega
   .simp only[qt,Iv e,Iv e']at hi;exact r.inj s C a b (af e hs) (af e' D) hi
def Rel.set(r:Rel ι Z σ h){s:Nat}{cs u:List PV}(hs:σ.cd s=Ik cs)(R:fQ Z h σ.bY u):Rel ι Z (σ.set s u) (h.set (ι s) (kA ι u))/\r6 ι Z σ h ι Z (σ.set s u) (h.set (ι s) (kA ι u)):=by
 obtain⟨O,T,D⟩:=r.cd s cs hs;have C:r6 ι Z σ h ι Z (σ.set s u) (h.set (ι s) (kA ι u)):=
  ⟨sB _,sB _,λ_ _=>rfl,λo A=>⟨A,zFA (λe=>D (by rw[<-e];exact A)) _⟩,λt m U=>by
   simp only[dj.set];grind,λt u m A=>by
   have:=r.none_lt hs
   simp only[dj.set]at A;rw[Iv aH]at A;exact absurd (r.none_lt A) aH⟩
 refine⟨⟨r.hwf.set (r.hwf.lt O) _,r.Dy,r.top,λt m=>?_,λt as m=>?_,λt t' a b m G hi=>?_⟩,C⟩
 .have aj:t≠s:=λe=>by subst e;rw[r.wf t m]at hs;cases hs
  simp only[dj.set,Iv aj];exact r.wf t m
 .simp only[dj.set]at m;by_cases e:t=s
  .subst e;rw[Iu rfl]at m;cases m;exact⟨zK8 _ _,C.voks R,D⟩
  .rw[Iv e]at m;obtain⟨I,J,N⟩:=r.cd t as m;exact⟨by rw[zFA (λe'=>e (r.inj t s as cs m hs e'))];exact I,C.voks J,N⟩
 .have conv:∀{t:Nat} {a:List PV},(σ.set s u).cd t=Ik a->∃a',σ.cd t=Ik a':=λ{t a} m=>by
   simp only[dj.set]at m;by_cases e:t=s
   .subst e;exact⟨_,hs⟩
   .rw[Iv e]at m;exact⟨_,m⟩
  obtain⟨a',E⟩:=conv m;obtain⟨b',S⟩:=conv G;exact r.inj t t' a' b' E S hi
def Rel.kill(r:Rel ι Z σ h){s:Nat}{cs:List PV}(hs:σ.cd s=Ik cs):Rel ι Z (σ.kill s) (h.kill (ι s))/\r6 ι Z σ h ι Z (σ.kill s) (h.kill (ι s)):=by
 obtain⟨O,R,I⟩:=r.cd s cs hs;have A:r6 ι Z σ h ι Z (σ.kill s) (h.kill (ι s)):=
  ⟨sB _,sB _,λ_ _=>rfl,λo u=>⟨u,zEI (λe=>I (by rw[<-e];exact u))⟩,λt m J=>by
   simp only[dj.kill];split;rfl;exact J,λt N m u=>by
   simp only[dj.kill]at u;split at u;cases u;exact absurd (r.none_lt u) aH⟩
 have conv:∀{t:Nat} {a:List PV},(σ.kill s).cd t=Ik a->t≠s/\σ.cd t=Ik a:=λ{t a} m=>by
  simp only[dj.kill]at m;simp_all
 refine⟨⟨r.hwf.kill _,r.Dy,r.top,λt m=>?_,λt as m=>?_,λt t' a b m C hi=>r.inj t t' a b (conv m).2 (conv C).2 hi⟩,A⟩
 .simp only[dj.kill];split
  .rfl
  .exact r.wf t m
 .obtain⟨e,m⟩:=conv m
  obtain⟨D,E,G⟩:=r.cd t as m;exact⟨by rw[zEI (λe'=>e (r.inj t s as cs m hs e'))];exact D,A.voks E,G⟩
def zCs(r:Rel ι Z σ h){s i:Nat}{vs:List PV}(C:fQ Z h σ.bY vs)(m:σ.wr s i vs=Ik σ'):
  ∃h',h.wr (ι s) i (kA ι vs)=Ik h'/\Rel ι Z σ' h'/\r6 ι Z σ h ι Z σ' h':=by
 simp only[dj.wr,YX]at m;obtain⟨cs,hs,m⟩:=m;split at m
 .rename_i A;cases m;obtain⟨D,u,G⟩:=r.cd s cs hs;obtain⟨E,a'⟩:=r.set hs (((u.take i).append C).append (u.drop (i+Tw vs)));refine⟨_,?_,E,a'⟩;rw[zRY D (by rw[ze,ze];exact A.1) (by rw[zDo C];exact A.2)];rw[q9,q9,Zi,Zj,ze]
 .cases m
def zAY{x:PV}(A:mA Z h n x){m:Nat}(u:BO x=Ik m):alen (er ι x)=Ik m:=by
 cases x<;>simp only[BO,reduceCtorEq]at u<;>cases u
 .obtain⟨rfl,rfl,_⟩|⟨o,off,cap,rfl,_⟩:=A.1<;>rfl
 .rfl
def zAs(r:Rel ι Z σ h){e:Nat}{x:PV}(G:mA Z h σ.bY x){m:Nat}{cs:List PV}(u:q8 e σ x m=Ik cs):Qx e h (er ι x) m=Ik (kA ι cs)/\fQ Z h σ.bY cs:=by
 unfold q8 at u;unfold Qx;split at u
 .rename_i C;cases u;rw[Iu C];exact⟨rfl,Is⟩
 .rename_i C;rw[Iv C];split at u
  .rename_i s off len cap;split at u
   .rename_i A;simp only[er];rw[Iu A];exact zGA r u
   .cases u
  .rename_i w a len cs;split at u
   .rename_i A;cases u;obtain⟨E,D⟩:=G;have I:=(D.take (m*e)).up (YQ σ.bY);simp only[er];rcases E with ⟨rfl,rfl,_⟩|⟨o,off,cap,rfl,J,h2,_⟩
    .omega
    .simp only;rw[Iu A.1,ZR (ι:=ι) (D.take _),Zi];refine⟨?_,I⟩;rcases h2 with h2|h2
     .have:=A.2.1
      have N:cs.length=0:=by rw[<-ze (ι:=zj),h2];rfl
      have:=Nat.mul_pos (Nat.pos_of_ne_zero C) A.2.2
      omega
     .have:=zBq h2 (a:=0) (b:=m*e) (by rw[ze];omega)
      simpa using this
   .cases u
  .cases u
def zEB(r:Rel ι Z σ h){e bytes:Nat}{s:PV}(hs:mA Z h σ.bY s){news:List PV}(D:fQ Z h σ.bY news){m:Nat}{p:PV×dj}(u:xL e bytes σ s news m=Ik p):
  ∃q,u9 e bytes h (er ι s) (kA ι news) m=Ik q/\∃ι' Z',Rel ι' Z' p.2 q.2/\r6 ι Z σ h ι' Z' p.2 q.2/\mA Z' q.2 p.2.bY p.1/\q.1=er ι' p.1:=by
 unfold xL at u;split at u
 ·-- nil
  split at u
  .rename_i A;cases u;obtain⟨C,a'⟩:=r.cb D;simp only[er,u9];rw[Iu A];exact⟨_,rfl,_,_,C,a',YB _,by simp[er,qt]⟩
  .cases u
 ·-- frozen, full
  rename_i w o off l c len cs;split at u
  .rename_i A;cases u;obtain⟨G,O⟩:=hs;have R:=O.up (YQ σ.bY);obtain⟨C,a'⟩:=r.cb (R.append D);rcases G with ⟨G,_⟩|⟨o',dZ,aq,X,E,h2,U,V⟩
   .cases G
   cases X;simp only[er,u9];rw[Iv aH,Iu A.2.2.2]
   have:h.rd o off (l*e)=Ik (kA ι cs):=by
    rw[ZR (ι:=ι) O];rcases h2 with h2|h2
    .have yB:cs=[]:=YM (by rw[<-ze (ι:=zj),h2];rfl);subst yB;rcases A.2.1 with hw|hw
     .obtain⟨rfl,I⟩:=V hw;rw[<-A.2.2.1,zBF I bj];rfl
     .simp at hw
    .rw[ze,A.2.2.1]at h2;exact h2
   rw[this,Kc,<-q9];exact⟨_,rfl,_,_,C,a',YB _,by simp[er,qt]⟩
  .cases u
 .rename_i s off len c;simp only[er,u9];split at u
  .rename_i A;rw[Iu A];obtain⟨σ',hw,rfl⟩:=YJ.1 u;obtain⟨h',tO,C,a'⟩:=zCs r D hw;rw[tO];exact⟨_,rfl,_,_,C,a',a'.vok hs,rfl⟩
  .rename_i A;rw[Iv A];split at u
   .rename_i T;rw[Iu T];obtain⟨old,I,rfl⟩:=YJ.1 u;obtain⟨E,h2⟩:=zGA r I;obtain⟨C,a'⟩:=r.cb (h2.append D);rw[E,Kc,<-q9];exact⟨_,rfl,_,_,C,a',YB _,by simp[er,qt]⟩
   .cases u
 .rename_i s off len g;simp only[er,u9];split at u
  .rename_i A;rw[Iu A];simp only[YX]at u;obtain⟨cs,N,u⟩:=u;split at u
   .rename_i Y;cases u;obtain⟨E,h2,U⟩:=r.cd s cs N;obtain⟨r1,J⟩:=r.kill N;obtain⟨r2,S⟩:=r1.cb (J.voks (((h2.drop off).take (len*e)).append D));rw[E];simp only[YG];rw[Iu ⟨Is,by rw[ze];exact Y⟩,<-Zj,<-Zi,<-q9];exact⟨_,rfl,_,_,r2,J.trans S,YB _,by simp[er,qt,dj.kill,dN.kill]⟩
   .cases u
  .cases u
 .cases u
def zD9{s v:PV}(hs:mA Z h n s)(m:EE s=Ik v):Ek (er ι s)=Ik (er ι v)/\mA Z h n v:=by
 unfold EE at m;split at m
 .cases m;exact⟨rfl,.inl ⟨rfl,rfl,rfl⟩,Is⟩
 .split at m
  .rename_i D;cases m;simp only[er,Ek];rw[Iu D];exact⟨rfl,hs⟩
  .cases m
 .cases m;exact⟨rfl,hs⟩
 .rename_i w o off l c len cs;cases m;have A:=hs;obtain⟨u,_⟩:=hs;rcases u with ⟨u,_⟩|⟨O,I,G,E,J,N,C,_⟩
  .cases u
  cases E;simp only[er];cases c with
  |cm c=>simp only[Ek];rw[Iu (C c rfl)];exact⟨rfl,A⟩
  |grown g=>exact⟨rfl,A⟩
 .cases m
def zG4(r:Rel ι Z σ h){e bytes:Nat}{s x:PV}(hs:mA Z h σ.bY s)(E:mA Z h σ.bY x){p:PV×dj}(u:zW e bytes σ s x=Ik p):
  ∃q,zB5 e bytes h (er ι s) (er ι x)=Ik q/\∃ι' Z',Rel ι' Z' p.2 q.2/\r6 ι Z σ h ι' Z' p.2 q.2/\mA Z' q.2 p.2.bY p.1/\q.1=er ι' p.1:=by
 simp only[zW,YX]at u;obtain⟨m,I,u⟩:=u;simp only[zB5];rw[zAY E I];simp only[YG];split at u
 .rename_i A;rw[Iu A];obtain⟨v,G,rfl⟩:=YJ.1 u;obtain⟨C,D⟩:=zD9 (ι:=ι) hs G;rw[C];exact⟨_,rfl,_,_,r,r6.refl r,D,rfl⟩
 .rename_i A;rw[Iv A];simp only[YX]at u;obtain⟨news,J,u⟩:=u;obtain⟨C,D⟩:=zAs r E J;rw[C];exact zEB r hs D u
def zJa(r:Rel ι Z σ h){e:Nat}{d s:PV}(G:mA Z h σ.bY d)(hs:mA Z h σ.bY s){p:PV×dj}(u:pcopy e σ d s=Ik p):
  ∃q,acopy e h (er ι d) (er ι s)=Ik q/\∃ι' Z',Rel ι' Z' p.2 q.2/\r6 ι Z σ h ι' Z' p.2 q.2/\mA Z' q.2 p.2.bY p.1/\q.1=er ι' p.1:=by
 simp only[pcopy,YX]at u;obtain⟨m,J,k,I,u⟩:=u;simp only[acopy];rw[zAY G J,zAY hs I];simp only[YG];split at u
 .rename_i A;rw[Iu A];cases u;exact⟨_,rfl,_,_,r,r6.refl r,Is,rfl⟩
 .rename_i A;rw[Iv A];split at u
  .rename_i o off len cap;simp only[YX]at u;obtain⟨cs,E,u⟩:=u;obtain⟨σ',N,rfl⟩:=YJ.1 u;obtain⟨C,D⟩:=zAs r hs E;obtain⟨h',R,O,a'⟩:=zCs r D N;simp only[er];rw[C];simp only[YG];rw[R];exact⟨_,rfl,_,_,O,a',Is,rfl⟩
  .cases u
def zCt:∀{cs:List PV} {s:List UInt8},Qm cs=Ik s->zA8 (kA ι cs)=Ik s
 |[],s,hs=>hs
 |c::cs,s,hs=>by
  unfold Qm at hs;split at hs
  .rename_i heq;cases heq
  .rename_i n r heq;cases heq;obtain⟨t,m,rfl⟩:=YJ.1 hs;simp only[kA,er,zA8,zCt m,Kc]
  .cases hs
def zIw(r:Rel ι Z σ h){E:gr}(A:CQ Z h σ.bY E){op:tT}{K:PV->dj->Prop}(m:ep P op E σ K):eff P op (yE ι E) h (Up ι Z σ h K):=by
 have mk:∀{v:PV} {σ':dj} {ι':Nat->Nat} {Z':Nat->Prop} {h':dN},Rel ι' Z' σ' h'->r6 ι Z σ h ι' Z' σ' h'->mA Z' h' σ'.bY v->K v σ'->Up ι Z σ h K (er ι' v) h':=λa b c d=>⟨_,_,_,_,a,b,c,rfl,d⟩
 have nw:∀{cs:List PV} {v:PV} ,fQ Z h σ.bY cs->(∀ι',mA Z (h.cb ⟨Im,kA ι cs⟩) (σ.bY+1) v/\(ι' σ.bY=h.bY->er ι' v=er (qt ι σ.bY h.bY) v))->K v (σ.cb cs)->Up ι Z σ h K (er (qt ι σ.bY h.bY) v) (h.cb ⟨Im,kA ι cs⟩):=λC I m=>by
  obtain⟨u,a'⟩:=r.cb C;exact⟨_,_,_,_,u,a',(I (qt ι σ.bY h.bY)).1,rfl,m⟩
 cases op<;>simp only[ep]at m<;>simp only[eff,<-FW]<;>(try (exact m.elim))
 case alloc z=>
  obtain⟨u,a'⟩:=r.cb (fQ.gH z);rw[qa]at u a';exact⟨_,_,_,_,u,a',YB _,by simp[er,qt],m⟩
 case box x=>
  have G:=(A.pv x).cells;obtain⟨u,a'⟩:=r.cb G;rw[zEs (A.pv x)];exact⟨by rw[zDo G];exact m.1,_,_,_,_,u,a',YB _,by simp[er,qt],m.2⟩
 case buildSl sz len z ps=>
  obtain⟨cs,hf,m⟩:=m
  have:=zBU (ι:=ι) (Z:=Z) (h:=h) (n:=σ.bY) (λp D=>by obtain⟨q,_,rfl⟩:=YD.1 D;exact A.pv _) (fQ.gH (jE z len)) hf
  rw[qa,UR]at this;have O:(List.map ((λp:Nat×Nat×PV=>(p.1,p.2.1,er ι p.2.2)) ∘ λp:Nat×Nat×IX=>(p.1,p.2.1,p.2.2.pv E)) ps)=ps.map λp=>(p.1,p.2.1,er ι (p.2.2.pv E)):=rfl;rw[O]at this;obtain⟨u,a'⟩:=r.cb this.2;exact⟨_,this.1,_,_,_,_,u,a',YB _,by simp[er,qt],m⟩
 case store k x v=>
  have G:=A.pv x
  revert m G;generalize x.pv E=x';intro m G
  cases x'<;>simp only at m
  rename_i s i;obtain⟨hl,σ',hw,m⟩:=m;obtain⟨h',tO,u,a'⟩:=zCs r (A.pv v).cells hw;simp only[er];rw[zEs (A.pv v)];exact⟨by rw[ze];exact hl,_,tO,.undef,_,_,_,u,a',Is,rfl,m⟩
 case makeSl sz bytes z l c=>
  revert m;generalize l.pv E=l';generalize c.pv E=c';intro m
  cases l'<;>cases c'<;>simp only at m
  obtain⟨C,m⟩:=m;simp only[er];rename_i k1 l S c;obtain⟨u,a'⟩:=r.cb (fQ.gH (jE z c.toNat));rw[qa]at u a';exact⟨C,_,_,_,_,u,a',YB _,by simp[er,qt],m⟩
 case appendMk sz bytes z s n=>
  have hs:=A.pv s
  revert m hs;generalize s.pv E=s';generalize n.pv E=n';intro m hs
  cases s'<;>cases n'<;>(try (simp only at m;done))
  .rename_i w1 T l1 V S n;cases T with
   |cU=>
    obtain⟨C,m⟩:=m;simp only[er];refine⟨C,?_⟩;by_cases N:0<n
    .rw[Iu N]at m ⊢;obtain⟨u,a'⟩:=r.cb (fQ.gH (jE z n.toNat));rw[qa]at u a';exact⟨_,_,_,_,u,a',YB _,by simp[er,qt],m⟩
    .rw[Iv N]at m ⊢;exact⟨.fz Im .cU 0 [],_,_,_,r,r6.refl r,(show mA Z h σ.bY (.fz Im .cU 0 []) from⟨.inl ⟨rfl,rfl,rfl⟩,Is⟩),rfl,m⟩
   |_=>simp only at m
  .rename_i s1 MG l1 V S n;obtain⟨C,p,D,m⟩:=m;simp only[er];by_cases N:0<n
   .rw[Iu N]at D ⊢;have hz:fQ Z h σ.bY (gH (jE z n.toNat)):=fQ.gH _;obtain⟨q,J,ι',Z',u,a',I,e⟩:=zEB r hs hz D;rw[qa]at J;exact⟨C,q,J,_,_,_,_,u,a',I,e,m⟩
   .rw[Iv N]at D ⊢;obtain⟨v,Y,rfl⟩:=YJ.1 D;obtain⟨R,O⟩:=zD9 (ι:=ι) hs Y;simp only[er]at R;rw[R];exact⟨C,_,rfl,_,_,_,_,r,r6.refl r,O,rfl,m⟩
 case append sz bytes s x=>
  obtain⟨p,D,m⟩:=m;obtain⟨q,J,ι',Z',u,a',I,e⟩:=zG4 r (A.pv s) (A.pv x) D;exact⟨q,J,_,_,_,_,u,a',I,e,m⟩
 case copy sz s x=>
  obtain⟨p,D,m⟩:=m;obtain⟨q,J,ι',Z',u,a',I,e⟩:=zJa r (A.pv s) (A.pv x) D;exact⟨q,J,_,_,_,_,u,a',I,e,m⟩
 case call f args=>
  have:=m ι Z h r (A.pvs args)
  rw[zGN]at this;simpa only[<-FW]using this
 case callV f args=>
  have G:=A.pv f
  revert m G;generalize f.pv E=f';intro m G
  cases f'<;>simp only at m
  rename_i f first dw
  obtain⟨R,O⟩:=m
  have:=O ι Z h r ((G.1.append (A.pvs args)).append G.2)
  rw[q9,q9,zGN]at this;simp only[er];exact⟨R,by simpa only[<-FW]using this⟩
 case strOf x=>
  obtain⟨s,hs,m⟩:=m;unfold Z5 at hs;simp only[YX]at hs;obtain⟨k,U,cs,C,hb⟩:=hs;obtain⟨X,g2⟩:=zAs r (A.pv x) C;refine⟨s,?_,.str s,_,_,_,r,r6.refl r,Is,rfl,m⟩;simp only[zAY (A.pv x) U,YG,X];exact zCt hb
end
section
variable{ι:Nat->Nat}{Z Z':Nat->Prop}{h:dN}{σ σ':dj}
mutual
def DA(n:Nat):PV->Prop
 | .ptr s _=>s<n
 | .sl s _ _ _=>s<n
 | .clo _ a b=>ko n a/\ko n b
 | .agg cs=>ko n cs
 | .tup cs=>ko n cs
 |_=>True
def ko(n:Nat):List PV->Prop
 |[]=>True
 |c::cs=>DA n c/\ko n cs
end
def Zl:∀{cs:List PV},ko n cs↔∀c∈cs,DA n c
 |[]=>by simp[ko]
 |c::cs=>by simp[ko,Zl (cs:=cs)]
mutual
def mA.bel:∀{v:PV},mA Z h n v->DA n v
 | .undef,_ | .bool _,_ | .int _ _,_ | .str _,_ | .nilp,_ | .nilf,_ | .err _,_ | .fz _ _ _ _,_ | .fp _ _,_=>trivial
 | .ptr _ _,hv=>hv
 | .sl _ _ _ _,hv=>hv
 | .clo _ a b,hv=>⟨fQ.bel hv.1,fQ.bel hv.2⟩
 | .agg cs,hv=>fQ.bel (cs:=cs) hv
 | .tup cs,hv=>fQ.bel (cs:=cs) hv
def fQ.bel:∀{cs:List PV},fQ Z h n cs->ko n cs
 |[],_=>trivial
 |c::cs,hv=>⟨mA.bel hv.1,fQ.bel hv.2⟩
end
mutual
def mA.of_bel:∀{v:PV},mA Z h n v->DA n' v->mA Z h n' v
 | .undef,_,_ | .bool _,_,_ | .int _ _,_,_ | .str _,_,_ | .nilp,_,_ | .nilf,_,_ | .err _,_,_=>trivial
 | .fz _ _ _ _,hv,_=>hv
 | .fp _ _,hv,_=>hv
 | .ptr _ _,_,hb=>hb
 | .sl _ _ _ _,_,hb=>hb
 | .clo _ a b,hv,hb=>⟨fQ.of_bel hv.1 hb.1,fQ.of_bel hv.2 hb.2⟩
 | .agg cs,hv,hb=>fQ.of_bel (cs:=cs) hv hb
 | .tup cs,hv,hb=>fQ.of_bel (cs:=cs) hv hb
def fQ.of_bel:∀{cs:List PV},fQ Z h n cs->ko n' cs->fQ Z h n' cs
 |[],_,_=>trivial
 |c::cs,hv,hb=>⟨mA.of_bel hv.1 hb.1,fQ.of_bel hv.2 hb.2⟩
end
mutual
def DA.up(m:n<=n'):∀{v:PV},DA n v->DA n' v
 | .undef,_ | .bool _,_ | .int _ _,_ | .str _,_ | .nilp,_ | .nilf,_ | .err _,_ | .fz _ _ _ _,_ | .fp _ _,_=>trivial
 | .ptr _ _,hv=>YO hv m
 | .sl _ _ _ _,hv=>YO hv m
 | .clo _ a b,hv=>⟨ko.up m hv.1,ko.up m hv.2⟩
 | .agg cs,hv=>ko.up (cs:=cs) m hv
 | .tup cs,hv=>ko.up (cs:=cs) m hv
def ko.up(m:n<=n'):∀{cs:List PV},ko n cs->ko n' cs
 |[],_=>trivial
 |c::cs,hv=>⟨DA.up m hv.1,ko.up m hv.2⟩
end
structure PWF(σ:dj):Prop where
 wf:∀s,σ.bY<=s->σ.cd s=none
 bel:∀s cs,σ.cd s=Ik cs->ko σ.bY cs
def Rel.pwf(r:Rel ι Z σ h):PWF σ:=⟨r.wf,λs cs hs=>(r.cd s cs hs).2.1.bel⟩
def PWF.lt(w:PWF σ){s:Nat}{cs:List PV}(hs:σ.cd s=Ik cs):s<σ.bY:=by
 rcases YY s σ.bY with x|x
 .exact x
 .rw[w.wf s x]at hs;cases hs
def kv:nK->Nat->Bool
 | .cm c,l=>decide (l<=c)
 | .grown _,_=>Im
mutual
def sb(s o:Nat)(cs:List PV):PV->PV
 | .sl s' off l cap=>if s'=s/\off=0/\kv cap l=Im then .fz Im (.sl o 0 l cap) l cs else .sl s' off l cap
 | .clo f a b=>.clo f (nD s o cs a) (nD s o cs b)
 | .agg vs=>.agg (nD s o cs vs)
 | .tup vs=>.tup (nD s o cs vs)
 |v=>v
def nD(s o:Nat)(cs:List PV):List PV->List PV
 |[]=>[]
 |v::vs=>sb s o cs v::nD s o cs vs
end
mutual
def er_sb{s o:Nat}{cs:List PV}(m:o=ι s):∀v:PV,er ι (sb s o cs v)=er ι v
 | .undef | .bool _ | .int _ _ | .str _ | .nilp | .nilf | .err _ | .fz _ _ _ _ | .fp _ _ | .ptr _ _=>rfl
 | .sl s' off l cap=>by
  simp only[sb];split
  .rename_i u;simp only[er];rw[u.1,u.2.1,m]
  .rfl
 | .clo f a b=>by simp only[sb,er,QH m a,QH m b]
 | .agg a=>by simp only[sb,er,QH m a]
 | .tup a=>by simp only[sb,er,QH m a]
def QH{s o:Nat}{cs:List PV}(m:o=ι s):∀vs:List PV,kA ι (nD s o cs vs)=kA ι vs
 |[]=>rfl
 |v::vs=>by simp only[nD,kA,er_sb m v,QH m vs]
end
mutual
def mA.sb{s o:Nat}{cs:List PV}(A:Z o)(m:h.cd o=Ik ⟨Im,kA zj cs⟩)(u:fQ Z h 0 cs):∀{v:PV},mA Z h n v->mA Z h n (sb s o cs v)
 | .undef,_ | .bool _,_ | .int _ _,_ | .str _,_ | .nilp,_ | .nilf,_ | .err _,_=>trivial
 | .fz _ _ _ _,hv | .fp _ _,hv | .ptr _ _,hv=>hv
 | .sl s' off l cap,hv=>by
  simp only[Go.Ab.sb];split
  .rename_i C;refine⟨.inr ⟨o,0,cap,rfl,A,.inr (QW m rfl),λc D=>?_,λ_=>⟨rfl,m⟩⟩,u⟩;subst D;simpa [kv]using C.2.2
  .exact hv
 | .clo f a b,hv=>⟨fQ.nD A m u hv.1,fQ.nD A m u hv.2⟩
 | .agg a,hv=>fQ.nD (vs:=a) A m u hv
 | .tup a,hv=>fQ.nD (vs:=a) A m u hv
def fQ.nD{s o:Nat}{cs:List PV}(A:Z o)(u:h.cd o=Ik ⟨Im,kA zj cs⟩)(m:fQ Z h 0 cs):∀{vs:List PV},fQ Z h n vs->fQ Z h n (nD s o cs vs)
 |[],_=>trivial
 |v::vs,hv=>⟨mA.sb A u m hv.1,fQ.nD A u m hv.2⟩
end
def Rel.freeze(r:Rel ι Z σ h){s:Nat}{cs:List PV}(hs:σ.cd s=Ik cs)(I:ko 0 cs):
  (Rel ι (λo=>Z o\/o=ι s) ((σ.kill s).up (max σ.top (ι s+1))) h)/\fQ Z h 0 cs/\h.cd (ι s)=Ik ⟨Im,kA zj cs⟩/\¬Z (ι s):=by
 obtain⟨D,T,U⟩:=r.cd s cs hs;have C:fQ Z h 0 cs:=T.of_bel I;have E:=r.hwf.lt D;have conv:∀{t:Nat} {a:List PV},(σ.kill s).cd t=Ik a->t≠s/\σ.cd t=Ik a:=λ{t a} m=>by
  simp only[dj.kill]at m;split at m
  .cases m
  .exact⟨by assumption,m⟩
 refine⟨⟨r.hwf,?_,?_,λt m=>?_,λt u m=>?_,λt t' u N m G J=>r.inj t t' u N (conv m).2 (conv G).2 J⟩,C,by rw[<-ZR C];exact D,U⟩
 .rintro o (A|rfl)
  .exact r.Dy o A
  .exact E
 .have:=r.top
  simp only[dj.up];omega
 .simp only[dj.kill,dj.up];split
  .rfl
  .exact r.wf t m
 .obtain⟨e,m⟩:=conv m
  obtain⟨O,R,S⟩:=r.cd t u m;refine⟨O,R.mono (λo A=>⟨.inl A,rfl⟩) (sB _),?_⟩
  rintro(hz|hz)
  .exact S hz
  .exact e (r.inj t s u cs m hs hz)
def dj.sub(σ:dj)(s o:Nat)(cs:List PV):dj:=⟨σ.bY,σ.top,λt=>(σ.cd t).map (nD s o cs)⟩
def Rel.sub(r:Rel ι Z σ h){s o:Nat}{cs:List PV}(hs:o=ι s)(J:Z o)(I:h.cd o=Ik ⟨Im,kA zj cs⟩)(E:fQ Z h 0 cs):Rel ι Z (σ.sub s o cs) h:=by
 have conv:∀{t:Nat} {a:List PV},(σ.sub s o cs).cd t=Ik a->∃b,σ.cd t=Ik b/\a=nD s o cs b:=λ{t a} m=>by
  simp only[dj.sub,YJ]at m;obtain⟨b,u,D⟩:=m;exact⟨b,u,D.symm⟩
 refine⟨r.hwf,r.Dy,r.top,λt m=>by simp only[dj.sub];rw[r.wf t m];rfl,λt C m=>?_,λt t' C T m A G=>?_⟩
 .obtain⟨b,u,rfl⟩:=conv m
  obtain⟨O,R,S⟩:=r.cd t b u;exact⟨by rw[QH hs];exact O,fQ.nD J I E R,S⟩
 .obtain⟨b,u,_⟩:=conv m
  obtain⟨b',N,_⟩:=conv A;exact r.inj t t' b b' u N G
mutual
def ZL{s o:Nat}{cs:List PV}:∀{n:Nat} {v:PV},n<=s->DA n v->sb s o cs v=v
 |n,.undef,_,_|n,.bool _,_,_|n,.int _ _,_,_|n,.str _,_,_|n,.nilp,_,_|n,.nilf,_,_|n,.err _,_,_|n,.fz _ _ _ _,_,_|n,.fp _ _,_,_|n,.ptr _ _,_,_=>rfl
 |n,.sl s' _ _ _,hn,hb=>by
  have:s'<n:=hb
  simp only[sb];rw[Iv aH]
 |n,.clo _ a b,hn,hb=>by simp only[sb,qc hn hb.1,qc hn hb.2]
 |n,.agg a,hn,hb=>by simp only[sb,qc (vs:=a) hn hb]
 |n,.tup a,hn,hb=>by simp only[sb,qc (vs:=a) hn hb]
def qc{s o:Nat}{cs:List PV}:∀{n:Nat} {vs:List PV},n<=s->ko n vs->nD s o cs vs=vs
 |n,[],_,_=>rfl
 |n,v::vs,hn,hb=>by simp only[nD,ZL hn hb.1,qc hn hb.2]
end
def zAX{s o:Nat}{cs:List PV}:∀(a b:List PV),nD s o cs (a++b)=nD s o cs a++nD s o cs b
 |[],b=>rfl
 |v::a,b=>by simp only[Yy,nD,zAX a b]
inductive GL(I:List PV->dj->Prop):List PV->dj->Prop where
 |here {vs:List PV} {h:dj} (k:I vs h):GL I vs h
 |fz {vs:List PV} {h:dj} (s:Nat) (cs:List PV) (hs:h.cd s=Ik cs) (hb:ko 0 cs) (k:∀o,GL I (nD s o cs vs) (h.kill s)):GL I vs h
 |fzh {vs:List PV} {h:dj} (s:Nat) (cs:List PV) (hs:h.cd s=Ik cs) (hb:ko 0 cs) (k:∀o,GL I (nD s o cs vs) ((h.kill s).sub s o cs)):GL I vs h
def GL.sound{I:List PV->dj->Prop}{vs:List PV}{σ:dj}(g:GL I vs σ):∀{ι:Nat->Nat} {Z:Nat->Prop} {h:dN},Rel ι Z σ h->fQ Z h σ.bY vs->
  ∃Z' σ' D,Rel ι Z' σ' h/\r6 ι Z σ h ι Z' σ' h/\fQ Z' h σ'.bY D/\kA ι D=kA ι vs/\I D σ':=by
 induction g with
 |here k=>intro ι Z h r hv;exact⟨Z,_,_,r,r6.refl r,hv,rfl,k⟩
 |fz s cs hs hb k ih=>
  rename_i vs σ;intro ι Z h r hv;obtain⟨m,E,C,X⟩:=r.freeze hs hb;have A:∀o,Z o->(Z o\/o=ι s)/\h.cd o=h.cd o:=λo C=>⟨.inl C,rfl⟩
  have r2:Rel ι (λo=>Z o\/o=ι s) (σ.kill s) h:=⟨m.hwf,m.Dy,by have:=r.top;exact this,m.wf,m.cd,m.inj⟩
  obtain⟨Z',σ',D,O,R,S,T,U⟩:=ih (ι s) r2 (fQ.nD (.inr rfl) C (E.mono A (sB _)) (hv.mono A (sB _)));have G:r6 ι Z σ h ι (λo=>Z o\/o=ι s) (σ.kill s) h:=⟨sB _,sB _,λ_ _=>rfl,A,λt N J=>by simp only[dj.kill];split;rfl;exact J,λt V N u=>by
   simp only[dj.kill]at u;split at u;cases u;exact absurd (r.none_lt u) aH⟩
  exact⟨Z',σ',D,O,G.trans R,S,T.trans (QH rfl vs),U⟩
 |fzh s cs hs hb k ih=>
  rename_i vs σ;intro ι Z h r hv;obtain⟨m,E,C,X⟩:=r.freeze hs hb;have A:∀o,Z o->(Z o\/o=ι s)/\h.cd o=h.cd o:=λo C=>⟨.inl C,rfl⟩
  have r2:Rel ι (λo=>Z o\/o=ι s) (σ.kill s) h:=⟨m.hwf,m.Dy,by have:=r.top;exact this,m.wf,m.cd,m.inj⟩
  have r3:=r2.sub (s:=s) rfl (.inr rfl) C (E.mono A (sB _));obtain⟨Z',σ',D,O,R,S,T,U⟩:=ih (ι s) r3 (fQ.nD (.inr rfl) C (E.mono A (sB _)) (hv.mono A (sB _)));have G:r6 ι Z σ h ι (λo=>Z o\/o=ι s) ((σ.kill s).sub s (ι s) cs) h:=⟨sB _,sB _,λ_ _=>rfl,A,λt N J=>by simp only[dj.kill,dj.sub];split;rfl;rw[J];rfl,λt V N u=>by
   simp only[dj.kill,dj.sub]at u;split at u;cases u;cases AZ:σ.cd t with
   |none=>rw[AZ]at u;cases u
   |some b=>exact absurd (r.none_lt AZ) aH⟩
  exact⟨Z',σ',D,O,G.trans R,S,T.trans (QH rfl vs),U⟩
end
section
variable{P:Program}{ι ι':Nat->Nat}{Z Z':Nat->Prop}{h h':dN}{σ σ':dj}
def Qf(v:PV)(b:Bool)(x:Option PV):Option PV:=
 match v with
 | .bool c=>if c=b then x else Ik (.tup [])
 | .tup []=>Ik (.tup [])
 |_=>none
def Zr(v:PV)(b:Bool)(x y:Prop):Prop:=
 match v with
 | .bool c=>if c=b then x else y
 | .tup []=>y
 |_=>False
def Zn(v:PV)(a b:Prop):Prop:=
 match v with
 | .bool t=>if t=Im then a else b
 |_=>False
def gqp(nb nr:Nat)(it:II)(e:gr)(σ:dj):Option PV:=
 match it.guard with
 |none=>qp nb nr it.op e σ
 |some (t,b)=>Qf (e t) b (qp nb nr it.op e σ)
def gep(P:Program)(it:II)(e:gr)(σ:dj)(K:PV->dj->Prop):Prop:=
 match it.guard with
 |none=>ep P it.op e σ K
 |some (t,b)=>Zr (e t) b (ep P it.op e σ K) (K (.tup []) σ)
def RVp(P:Program):List II->gr->dj->(gr->dj->Prop)->Prop
 |[],e,h,K=>K e h
 |it::r,e,h,K=>match it.q with
  |true=>iU (gqp 0 0 it e h) λv=>RVp P r (e.put it.dst v) h K
  |false=>gep P it e h λv h'=>RVp P r (e.put it.dst v) h' K
structure tK where
 idx:Nat
 agg:Bool
 n:Nat
 x:PV
 v:PV
def zAe(g:Option (Nat×Bool))(e:gr):Bool:=
 match g with
 |none=>Im
 |some (t,b)=>match e t with
  | .bool c=>decide (c=b)
  |_=>false
def zR(it:DI)(e:gr)(v:PV):List tK:=
 match it.op with
 | .load agg n x=>if zAe it.guard e=Im then [⟨it.idx,agg,n,x.pv e,v⟩]else []
 |_=>[]
def qA(chk:List Nat):List tK->dj->Prop
 |[],_=>True
 |r::rs,h=>(if chk.contains r.idx=Im then DW r.agg r.n r.x h=Ik r.v else True)/\qA chk rs h
def DVp(P:Program)(nb nr:Nat):List DI->List tK->gr->dj->(gr->dj->Prop)->Prop
 |[],_,e,h,K=>K e h
 |it::r,recs,e,h,K=>match it.q with
  |true=>iU (gqp nb nr it.toII e h) λv=>DVp P nb nr r (zR it e v++recs) (e.put it.dst v) h K
  |false=>gep P it.toII e h λv h'=>qA it.chk recs h'/\DVp P nb nr r recs (e.put it.dst v) h' K
def TVp(P:Program):OT->List tK->gr->dj->(gr->dj->Prop)->Prop
 | .done,_,e,h,K=>K e h
 | .none,_,_,_,_=>True
 | .q it nx,recs,e,h,K=>iU (gqp 0 0 it.toII e h) λv=>TVp P nx (zR it e v++recs) (e.put it.dst v) h K
 | .e it nx alt,recs,e,h,K=>(gep P it.toII e h λv h'=>qA it.chk recs h'/\TVp P nx recs (e.put it.dst v) h' K)/\TVp P alt recs e h K
def vp(P:Program):IC->(Exit->gr->dj->Prop)->gr->dj->Prop
 | .skip,Q,e,h=>Q .normal e h
 | .region S bA,Q,e,h=>RVp P bA e h λe' h'=>Q .normal (gr.mk S (S.map e')) h'
 | .draw S zs bA,Q,e,h=>DVp P h.bY zs.length bA [] e (h.news zs) λe' h'=>Q .normal (gr.mk S (S.map e')) h'
 | .tree S t,Q,e,h=>TVp P t [] e h λe' h'=>Q .normal (gr.mk S (S.map e')) h'
 | .seq a b,Q,e,h=>vp P a (λx e' h'=>match x with | .normal=>vp P b Q e' h'|x=>Q x e' h') e h
 | .cond c a b,Q,e,h=>Zn (c.pv e) (vp P a Q e h) (vp P b Q e h)
 | .block id c,Q,e,h=>vp P c (λx e' h'=>match x with | .exit sU=>if sU=id then Q .normal e' h' else Q (.exit sU) e' h'|x=>Q x e' h') e h
 | .loop S c,Q,e,h=>∃I:Nat->List PV->dj->Prop,(∃n,GL (I n) (S.map e) h)/\
   ∀n vs h,I n vs h->vp P c (λx e' h'=>match x with | .normal=>∃n',n'<n/\GL (I n') (S.map e') h'|x=>Q x e' h') (gr.mk S vs) h
 | .exit id,Q,e,h=>Q (.exit id) e h
 | .ret,Q,e,h=>Q .ret e h
def ZF:List B1->gr->dj->Option (List PV)
 |[],_,_=>Ik []
 | .tmp t::r,e,h=>(ZF r e h).map λvs=>e t::vs
 | .cell t agg n::r,e,h=>(DW agg n (e t) h).bind λv=>(ZF r e h).map λvs=>v::vs
def Bt:List PV->PV
 |[v]=>v
 |vs=>.tup vs
def retP(res:List B1)(Q:PV->dj->Prop):Exit->gr->dj->Prop
 | .normal,e,h=>iU (ZF res e h) λvs=>Q (Bt vs) h
 | .ret,e,h=>iU (ZF res e h) λvs=>Q (Bt vs) h
 |_,_,_=>False
def zKr{op:tT}{e:gr}{K K':PV->dj->Prop}(A:∀v h',K v h'->K' v h')(m:ep P op e σ K):ep P op e σ K':=by
 cases op<;>simp only[ep]at m ⊢
 case alloc z=>exact A _ _ m
 case box x=>exact⟨m.1,A _ _ m.2⟩
 case buildSl a b c ps=>obtain⟨x,y,z⟩:=m;exact⟨x,y,A _ _ z⟩
 case store n x v=>
  split at m
  .obtain⟨x,y,z,u⟩:=m;exact⟨x,y,z,A _ _ u⟩
  .exact m
 case makeSl a b z l c=>
  grind
 case appendMk a b z l c=>
  split at m
  .grind
  .obtain⟨x,y,z,u⟩:=m;exact⟨x,y,z,A _ _ u⟩
  .exact m
 case append a b s x=>obtain⟨x,y,z⟩:=m;exact⟨x,y,A _ _ z⟩
 case copy a d s=>obtain⟨x,y,z⟩:=m;exact⟨x,y,A _ _ z⟩
 case call f a=>exact m.mono A
 case callV f a=>
  split at m
  .exact⟨m.1,m.2.mono A⟩
  .exact m
 case strOf x=>obtain⟨s,hs,m⟩:=m;exact⟨s,hs,A _ _ m⟩
def zEn{it:II}{e:gr}{K K':PV->dj->Prop}(u:∀v h',K v h'->K' v h')(m:gep P it e σ K):gep P it e σ K':=by
 obtain⟨dst,op,q,guard⟩:=it;cases guard with
 |none=>exact zKr u m
 |some g=>
  obtain⟨t,b⟩:=g;simp only[gep,Zr]at m ⊢;split at m
  .split at m
   .rename_i h;rw[Iu h];exact zKr u m
   .rename_i h;rw[Iv h];exact u _ _ m
  .exact u _ _ m
  .exact m
def zEw{K K':gr->dj->Prop}(A:∀e h',K e h'->K' e h'):∀(u:List II) {e:gr} {σ:dj},RVp P u e σ K->RVp P u e σ K'
 |[],e,σ,m=>A _ _ m
 |it::u,e,σ,m=>by
  simp only[RVp]at m ⊢;split at m
  .obtain⟨v,C,m⟩:=m;exact⟨v,C,zEw A u m⟩
  .exact zEn (λv h' k=>zEw A u k) m
def zCV{K K':gr->dj->Prop}(u:∀e h',K e h'->K' e h'):∀(t:OT) {recs:List tK} {e:gr} {σ:dj},TVp P t recs e σ K->TVp P t recs e σ K'
 | .done,_,e,σ,m=>u _ _ m
 | .none,_,e,σ,m=>trivial
 | .q it nx,_,e,σ,m=>by
  obtain⟨v,A,m⟩:=m;exact⟨v,A,zCV u nx m⟩
 | .e it nx alt,_,e,σ,m=>⟨zEn (λv h' k=>⟨k.1,zCV u nx k.2⟩) m.1,zCV u alt m.2⟩
def zE3{nb nr:Nat}{K K':gr->dj->Prop}(A:∀e h',K e h'->K' e h'):∀(u:List DI) {recs:List tK} {e:gr} {σ:dj},DVp P nb nr u recs e σ K->DVp P nb nr u recs e σ K'
 |[],_,e,σ,m=>A _ _ m
 |it::u,_,e,σ,m=>by
  simp only[DVp]at m ⊢;split at m
  .obtain⟨v,C,m⟩:=m;exact⟨v,C,zE3 A u m⟩
  .exact zEn (λv h' k=>⟨k.1,zE3 A u k.2⟩) m
def QD:∀(c:IC) {Q Q':Exit->gr->dj->Prop} {e:gr} {σ:dj},(∀x e h,Q x e h->Q' x e h)->vp P c Q e σ->vp P c Q' e σ
 | .skip,Q,Q',e,σ,hm,hk=>hm _ _ _ hk
 | .exit id,Q,Q',e,σ,hm,hk=>hm _ _ _ hk
 | .ret,Q,Q',e,σ,hm,hk=>hm _ _ _ hk
 | .region S bA,Q,Q',e,σ,hm,hk=>zEw (λe h k=>hm _ _ _ k) bA hk
 | .tree S t,Q,Q',e,σ,hm,hk=>zCV (λe h k=>hm _ _ _ k) t hk
 | .draw S zs bA,Q,Q',e,σ,hm,hk=>zE3 (λe h k=>hm _ _ _ k) bA hk
 | .seq a b,Q,Q',e,σ,hm,hk=>QD a (λx e h k=>by cases x<;>first|exact QD b hm k|exact hm _ _ _ k) hk
 | .cond c a b,Q,Q',e,σ,hm,hk=>by
  simp only[vp,Zn]at hk ⊢;split at hk
  .split at hk
   .rename_i h;rw[Iu h];exact QD a hm hk
   .rename_i h;rw[Iv h];exact QD b hm hk
  .exact hk
 | .block id c,Q,Q',e,σ,hm,hk=>QD c (λx e h k=>by
   grind) hk
 | .loop S c,Q,Q',e,σ,hm,⟨I,h0,hr⟩=>⟨I,h0,λn vs h m=>QD c (λx e h k=>by cases x<;>first|exact k|exact hm _ _ _ k) (hr n vs h m)⟩
def Rest(ι:Nat->Nat)(Z:Nat->Prop)(σ:dj)(h:dN)(K:gr->dj->Prop)(K1:Env->dN->Prop):Prop:=
 ∀(m:gr) (σ':dj) (ι':Nat->Nat) (Z':Nat->Prop) (h':dN),Rel ι' Z' σ' h'->r6 ι Z σ h ι' Z' σ' h'->CQ Z' h' σ'.bY m->K m σ'->K1 (yE ι' m) h'
def Rest.later{σ':dj}{K:gr->dj->Prop}{K1:Env->dN->Prop}(c:Rest ι Z σ h K K1)(a:r6 ι Z σ h ι' Z' σ' h'):Rest ι' Z' σ' h' K K1:=
 λu σ'' ι'' m fJ r b e k=>c u σ'' ι'' m fJ r (a.trans b) e k
def zDI(r:Rel ι Z σ h){E:gr}(C:CQ Z h σ.bY E){nb nr nb1:Nat}(A:RevOK ι σ nb nr nb1){it:II}{v:PV}(m:gqp nb nr it E σ=Ik v):
  gq nb1 it (yE ι E) h=Ik (er ι v)/\mA Z h σ.bY v:=by
 obtain⟨dst,op,q,guard⟩:=it;cases guard with
 |none=>exact zHo r C A m
 |some g=>
  obtain⟨t,b⟩:=g;simp only[gqp,gq,yE]at m ⊢;cases ht:E t with
  |bool c=>
   rw[ht]at m;simp only[Qf]at m;simp only[er];split at m
   .rename_i u;rw[Iu u];exact zHo r C A m
   .rename_i u;rw[Iv u];cases m;exact⟨rfl,Is⟩
  |tup cs=>
   rw[ht]at m;cases cs with
   |nil=>cases m;exact⟨rfl,Is⟩
   |cons x cs=>simp only[Qf,reduceCtorEq]at m
  |_=>rw[ht]at m;simp only[Qf,reduceCtorEq]at m
def zDJ(r:Rel ι Z σ h){E:gr}(A:CQ Z h σ.bY E){it:II}{K:PV->dj->Prop}(m:gep P it E σ K):ge P it (yE ι E) h (Up ι Z σ h K):=by
 obtain⟨dst,op,q,guard⟩:=it;cases guard with
 |none=>exact zIw r A m
 |some g=>
  obtain⟨t,b⟩:=g;simp only[gep,ge,yE]at m ⊢;cases ht:E t with
  |bool c=>
   rw[ht]at m;simp only[Zr]at m;simp only[er];split at m
   .rename_i u;rw[Iu u];exact zIw r A m
   .rename_i u;rw[Iv u];exact⟨.tup [],σ,ι,Z,r,r6.refl r,Is,rfl,m⟩
  |tup cs=>
   rw[ht]at m;cases cs with
   |nil=>exact⟨.tup [],σ,ι,Z,r,r6.refl r,Is,rfl,m⟩
   |cons x cs=>simp only[Zr]at m
  |_=>rw[ht]at m;simp only[Zr]at m
def zDW:∀(u:List II) {ι:Nat->Nat} {Z:Nat->Prop} {σ:dj} {h:dN} {E:gr} {K:gr->dj->Prop} {K1:Env->dN->Prop},Rel ι Z σ h->CQ Z h σ.bY E->RVp P u E σ K->Rest ι Z σ h K K1->RV P u (yE ι E) h K1
 |[],ι,Z,σ,h,E,K,K1,r,he,m,hr=>hr E σ ι Z h r (r6.refl r) he m
 |it::u,ι,Z,σ,h,E,K,K1,r,he,m,hr=>by
  simp only[RVp,RV]at m ⊢;split at m
  .rename_i A;simp only[A];obtain⟨v,C,m⟩:=m;obtain⟨G,I⟩:=zDI r he (nb1:=0) (λk m=>absurd m (Jv _)) C;refine⟨_,G,?_⟩
   have:=zDW u r (he.put I it.dst) m hr
   rw[zAk]at this;exact this
  .rename_i A;simp only[A];refine Q6 ?_ (zDJ r he m)
   rintro v h' ⟨pv,σ',ι',Z',J,a',C,rfl,D⟩
   have:=zDW u J ((a'.eok he).put C it.dst) D (hr.later a')
   rw[zAk,a'.yE he]at this;exact this
def erR(ι:Nat->Nat)(r:tK):Rec:=⟨r.idx,r.agg,r.n,er ι r.x,er ι r.v⟩
def ROK(Z:Nat->Prop)(h:dN)(n:Nat)(m:List tK):Prop:=∀r∈m,mA Z h n r.x/\mA Z h n r.v
def r6.rok{A:List tK}(a:r6 ι Z σ h ι' Z' σ' h')(u:ROK Z h σ.bY A):ROK Z' h' σ'.bY A:=λr m=>⟨a.vok (u r m).1,a.vok (u r m).2⟩
def r6.erR{m:List tK}(a:r6 ι Z σ h ι' Z' σ' h')(A:ROK Z h σ.bY m):m.map (Go.Ab.erR ι')=m.map (Go.Ab.erR ι):=
 JI λr u=>by simp only[Go.Ab.erR];rw[a.er (A r u).1,a.er (A r u).2]
def zD7{E:gr}{it:DI}{v:PV}{nb nr:Nat}(m:gqp nb nr it.toII E σ=Ik v):xn it (yE ι E) (er ι v)=(zR it E v).map (erR ι):=by
 obtain⟨⟨dst,op,q,guard⟩,idx,chk⟩:=it;have u:ZI guard (yE ι E)=zAe guard E:=by
  cases guard with
  |none=>rfl
  |some g=>
   obtain⟨t,b⟩:=g;simp only[gqp]at m;simp only[ZI,zAe,yE];cases ht:E t with
   |bool c=>rfl
   |tup cs=>rfl
   |_=>rw[ht]at m;simp only[Qf,reduceCtorEq]at m
 cases op<;>simp only[xn,zR]<;>try rfl
 rw[u];split
 .simp only[Yw,UJ,erR,FW]
 .rfl
def zGY(r:Rel ι Z σ h){E:gr}(m:CQ Z h σ.bY E){it:DI}{v:PV}(u:mA Z h σ.bY v):ROK Z h σ.bY (zR it E v):=by
 unfold zR;split
 .split
  .intro r hr;simp only[YW]at hr;subst hr;exact⟨m.pv _,u⟩
  .intro r hr;simp at hr
 .intro r hr;simp at hr
def zBA(r:Rel ι Z σ h){chk:List Nat}:∀{m:List tK},ROK Z h σ.bY m->qA chk m σ->sN chk (m.map (erR ι)) h
 |[],_,_=>trivial
 |x::m,hr,hk=>by
  simp only[Yw,qA,sN]at hk ⊢;refine⟨?_,zBA r (λy C=>hr y (by simp[C])) hk.2⟩;have A:=hk.1;by_cases u:chk.contains x.idx=Im
  .rw[Iu u]at A;rw[Iu (show chk.contains (erR ι x).idx=Im from u)];exact(zCF r (hr x bj).1 A).1
  .rw[Iv (show ¬chk.contains (erR ι x).idx=Im from u)];trivial
def RevOK.later{nb nr nb1:Nat}(u:RevOK ι σ nb nr nb1)(a:r6 ι Z σ h ι' Z' σ' h'):RevOK ι' σ' nb nr nb1:=
 λk m=>⟨YO (u k m).1 a.bY,by rw[a.inj _ (u k m).1];exact(u k m).2⟩
def zDb{nb nr nb1:Nat}:∀(u:List DI) {recs:List tK} {ι:Nat->Nat} {Z:Nat->Prop} {σ:dj} {h:dN} {E:gr} {K:gr->dj->Prop} {K1:Env->dN->Prop},RevOK ι σ nb nr nb1->Rel ι Z σ h->CQ Z h σ.bY E->ROK Z h σ.bY recs->
  DVp P nb nr u recs E σ K->Rest ι Z σ h K K1->DV P nb1 u (recs.map (erR ι)) (yE ι E) h K1
 |[],recs,ι,Z,σ,h,E,K,K1,hv,r,he,jC,m,hr=>hr E σ ι Z h r (r6.refl r) he m
 |it::u,recs,ι,Z,σ,h,E,K,K1,hv,r,he,jC,m,hr=>by
  simp only[DVp,DV]at m ⊢;split at m
  .rename_i D;simp only[D];obtain⟨v,C,m⟩:=m;obtain⟨O,G⟩:=zDI r he hv C;refine⟨_,O,?_⟩
   have:=zDb u hv r (he.put G it.dst) (recs:=zR it E v++recs) (λx A=>(YZ.1 A).elim (λA=>zGY r he G x A) (λA=>jC x A)) m hr
   rw[zAk,YI,<-zD7 C]at this;exact this
  .rename_i D;simp only[D];refine Q6 ?_ (zDJ r he m)
   rintro v h' ⟨pv,σ',ι',Z',J,a',C,rfl,N,R⟩
   have I:=zBA J (a'.rok jC) N;rw[a'.erR jC]at I;refine⟨I,?_⟩
   have:=zDb u (hv.later a') J ((a'.eok he).put C it.dst) (a'.rok jC) R (hr.later a')
   rw[zAk,a'.yE he,a'.erR jC]at this;exact this
def zBR:∀(t:OT) {recs:List tK} {ι:Nat->Nat} {Z:Nat->Prop} {σ:dj} {h:dN} {E:gr} {K:gr->dj->Prop} {K1:Env->dN->Prop},Rel ι Z σ h->CQ Z h σ.bY E->ROK Z h σ.bY recs->TVp P t recs E σ K->Rest ι Z σ h K K1->TV P t (recs.map (erR ι)) (yE ι E) h K1
 | .done,_,ι,Z,σ,h,E,K,K1,r,he,jC,m,hr=>hr E σ ι Z h r (r6.refl r) he m
 | .none,_,ι,Z,σ,h,E,K,K1,r,he,jC,m,hr=>trivial
 | .q it nx,recs,ι,Z,σ,h,E,K,K1,r,he,jC,m,hr=>by
  obtain⟨v,A,m⟩:=m;obtain⟨J,C⟩:=zDI r he (nb1:=0) (λk m=>absurd m (Jv _)) A;refine⟨_,J,?_⟩
  have:=zBR nx r (he.put C it.dst) (recs:=zR it E v++recs) (λx u=>(YZ.1 u).elim (λu=>zGY r he C x u) (λu=>jC x u)) m hr
  rw[zAk,YI,<-zD7 A]at this;exact this
 | .e it nx alt,recs,ι,Z,σ,h,E,K,K1,r,he,jC,m,hr=>by
  refine⟨?_,zBR alt r he jC m.2 hr⟩;refine Q6 ?_ (zDJ r he m.1)
  rintro v h' ⟨pv,σ',ι',Z',G,a',A,rfl,I,N⟩
  have D:=zBA G (a'.rok jC) I;rw[a'.erR jC]at D;refine⟨D,?_⟩
  have:=zBR nx G ((a'.eok he).put A it.dst) (a'.rok jC) N (hr.later a')
  rw[zAk,a'.yE he,a'.erR jC]at this;exact this
def zIE:∀(zs:List (List AV)) {ι:Nat->Nat} {σ:dj} {h:dN},Rel ι Z σ h->
  ∃ι',Rel ι' Z (σ.news zs) (h.news zs)/\r6 ι Z σ h ι' Z (σ.news zs) (h.news zs)/\(σ.news zs).bY=σ.bY+Tw zs/\∀k,k<Tw zs->ι' (σ.bY+k)=h.bY+k
 |[],ι,σ,h,r=>⟨ι,r,r6.refl r,rfl,λk m=>absurd m (Jv _)⟩
 |z::zs,ι,σ,h,r=>by
  obtain⟨r1,u⟩:=r.cb (cs:=gH z) (fQ.gH z);rw[qa]at r1 u;obtain⟨ι',r2,A,C,D⟩:=zIE zs r1;refine⟨ι',r2,u.trans A,?_,λk m=>?_⟩
  .show((σ.cb (gH z)).news zs).bY=_
   rw[C];simp only[dj.cb,YF];omega
  .cases k with
   |zero=>
    rw[Y6,Y6,A.inj _ (by simp[dj.cb])];simp[qt]
   |succ k=>
    have:=D k (by simpa using m)
    simp only[dj.cb,dN.cb]at this;rw[show σ.bY+(k+1)=σ.bY+1+k by omega,this];omega
def RestC(ι:Nat->Nat)(Z:Nat->Prop)(σ:dj)(h:dN)(Q:Exit->gr->dj->Prop)(u:Exit->Env->dN->Prop):Prop:=
 ∀(x:Exit) (m:gr) (σ':dj) (ι':Nat->Nat) (Z':Nat->Prop) (h':dN),Rel ι' Z' σ' h'->r6 ι Z σ h ι' Z' σ' h'->CQ Z' h' σ'.bY m->Q x m σ'->u x (yE ι' m) h'
def RestC.later{σ':dj}{Q:Exit->gr->dj->Prop}{m:Exit->Env->dN->Prop}(c:RestC ι Z σ h Q m)(a:r6 ι Z σ h ι' Z' σ' h'):RestC ι' Z' σ' h' Q m:=
 λx A σ'' ι'' u fJ r b e k=>c x A σ'' ι'' u fJ r (a.trans b) e k
def QT:∀(c:IC) {ι:Nat->Nat} {Z:Nat->Prop} {σ:dj} {h:dN} {E:gr} {Q:Exit->gr->dj->Prop} {C:Exit->Env->dN->Prop},Rel ι Z σ h->CQ Z h σ.bY E->vp P c Q E σ->RestC ι Z σ h Q C->vc P c C (yE ι E) h
 | .skip,ι,Z,σ,h,E,Q,C,r,he,m,hr=>hr .normal E σ ι Z h r (r6.refl r) he m
 | .exit id,ι,Z,σ,h,E,Q,C,r,he,m,hr=>hr (.exit id) E σ ι Z h r (r6.refl r) he m
 | .ret,ι,Z,σ,h,E,Q,C,r,he,m,hr=>hr .ret E σ ι Z h r (r6.refl r) he m
 | .region S bA,ι,Z,σ,h,E,Q,C,r,he,m,hr=>by
  refine zDW bA r he m ?_;intro T σ' ι' Z' h' A a' e' u
  have:=hr .normal _ σ' ι' Z' h' A a' (CQ.mk (e'.map S)) u
  rw[zB2,zB1]at this;exact this
 | .tree S t,ι,Z,σ,h,E,Q,C,r,he,m,hr=>by
  refine zBR t r he (recs:=[]) (λx V=>by simp at V) m ?_;intro T σ' ι' Z' h' A a' e' u
  have:=hr .normal _ σ' ι' Z' h' A a' (CQ.mk (e'.map S)) u
  rw[zB2,zB1]at this;exact this
 | .draw S zs bA,ι,Z,σ,h,E,Q,C,r,he,m,hr=>by
  obtain⟨ι1,r1,O,h1,h2⟩:=zIE zs r
  have:=zDb (nb1:=h.bY) (K1:=λe' h'=>C .normal (Env.mk S (S.map e')) h') bA (recs:=[]) (λk m=>⟨by rw[h1];omega,h2 k m⟩) r1 (O.eok he) (λx V=>by simp at V) m ?_
  .rw[O.yE he]at this;exact this
  .intro T σ' ι' Z' h' A a' e' u
   have:=hr .normal _ σ' ι' Z' h' A (O.trans a') (CQ.mk (e'.map S)) u
   rw[zB2,zB1]at this;exact this
 | .seq a b,ι,Z,σ,h,E,Q,C,r,he,m,hr=>by
  refine QT a r he m ?_;intro x T σ' ι' Z' h' A a' e' u;cases x with
  |normal=>exact QT b A e' u (hr.later a')
  |exit id=>exact hr _ _ _ _ _ _ A a' e' u
  |goto l=>exact hr _ _ _ _ _ _ A a' e' u
  |ret=>exact hr _ _ _ _ _ _ A a' e' u
  |panic ch=>exact hr _ _ _ _ _ _ A a' e' u
  |outgrown=>exact hr _ _ _ _ _ _ A a' e' u
 | .cond c a b,ι,Z,σ,h,E,Q,C,r,he,m,hr=>by
  simp only[vp,vc,<-FW]at m ⊢;cases R:c.pv E<;>rw[R]at m<;>simp only[Zn]at m
  simp only[er];split at m
  .rename_i U;rw[Iu U];exact QT a r he m hr
  .rename_i U;rw[Iv U];exact QT b r he m hr
 | .block id c,ι,Z,σ,h,E,Q,C,r,he,m,hr=>by
  refine QT c r he m ?_;intro x T σ' ι' Z' h' A a' e' u;cases x with
  |exit sU=>
   simp only at u ⊢;split at u
   .rename_i R;rw[Iu R];exact hr _ _ _ _ _ _ A a' e' u
   .rename_i R;rw[Iv R];exact hr _ _ _ _ _ _ A a' e' u
  |normal=>exact hr _ _ _ _ _ _ A a' e' u
  |goto l=>exact hr _ _ _ _ _ _ A a' e' u
  |ret=>exact hr _ _ _ _ _ _ A a' e' u
  |panic ch=>exact hr _ _ _ _ _ _ A a' e' u
  |outgrown=>exact hr _ _ _ _ _ _ A a' e' u
 | .loop S c,ι,Z,σ,h,E,Q,C,r,he,m,hr=>by
  obtain⟨I,⟨n,h0⟩,lF⟩:=m;obtain⟨Z0,σ0,Jb,r0,a0,v0,e0,i0⟩:=h0.sound r (he.map S);refine⟨λn vs h'=>∃ι' Z' σ' pvs,Rel ι' Z' σ' h'/\r6 ι Z σ h ι' Z' σ' h'/\fQ Z' h' σ'.bY pvs/\vs=kA ι' pvs/\I n pvs σ',⟨n,ι,Z0,σ0,Jb,r0,a0,v0,(zB1 E S).symm.trans e0.symm,i0⟩,?_⟩
  rintro n vs h' ⟨ι',Z',σ',pvs,A,a',hv,rfl,hI⟩
  rw[<-zB2];refine QT c A (CQ.mk hv) (lF n pvs σ' hI) ?_;intro x X σ'' ι'' Ar fJ G N J D;cases x with
  |normal=>
   obtain⟨n',af,Y⟩:=D;obtain⟨Z1,σ1,LB,r1,O,v1,e1,i1⟩:=Y.sound G (J.map S);exact⟨n',af,ι'',Z1,σ1,LB,r1,a'.trans (N.trans O),v1,(zB1 X S).symm.trans e1.symm,i1⟩
  |exit id=>exact hr _ _ _ _ _ _ G (a'.trans N) J D
  |goto l=>exact hr _ _ _ _ _ _ G (a'.trans N) J D
  |ret=>exact hr _ _ _ _ _ _ G (a'.trans N) J D
  |panic ch=>exact hr _ _ _ _ _ _ G (a'.trans N) J D
  |outgrown=>exact hr _ _ _ _ _ _ G (a'.trans N) J D
def zAp(r:Rel ι Z σ h){E:gr}(u:CQ Z h σ.bY E):∀{A:List B1} {vs:List PV},ZF A E σ=Ik vs->xT A (yE ι E) h=Ik (kA ι vs)/\fQ Z h σ.bY vs
 |[],vs,m=>by cases m;exact⟨rfl,Is⟩
 | .tmp t::A,vs,m=>by
  simp only[ZF,YJ]at m;obtain⟨N,m,rfl⟩:=m;obtain⟨C,D⟩:=zAp r u m;exact⟨by simp only[xT,C,Kc,kA,yE],u t,D⟩
 | .cell t a k::A,vs,m=>by
  simp only[ZF,YX,YJ]at m;obtain⟨v,J,N,m,rfl⟩:=m;obtain⟨C,D⟩:=zAp r u m;obtain⟨G,I⟩:=zCF r (u t) J;refine⟨?_,I,D⟩;simp only[xT,yE];rw[G];simp only[YG];rw[C];rfl
def zJm{vs:List PV}(m:fQ Z h n vs):FX (kA ι vs)=er ι (Bt vs)/\mA Z h n (Bt vs):=by
 cases vs with
 |nil=>exact⟨rfl,Is⟩
 |cons v vs=>
  cases vs with
  |nil=>exact⟨rfl,m.1⟩
  |cons u us=>exact⟨rfl,m⟩
def zt(G:P.follows .mixedOrders=Im){f:FuncId}{D:Func}{m:IFn}(S:P.funcs[f]? = Ik D)(R:cF P D=Ik m){args:List PV}{K:PV->dj->Prop}(T:args.length=Tw m.params)
  (A:vp P m.body (retP m.res K) (gr.mk m.params args) σ):zA P f args σ K:=by
 intro ι Z h r va;refine zJJ G S R (by rw[ze];exact T) ?_;rw[<-zB2];refine QT m.body r (CQ.mk va) A ?_;intro x C σ' ι' Z' h' E a' e' u;have fin:iU (ZF m.res C σ') (λvs=>K (Bt vs) σ')->iU (xT m.res (yE ι' C) h') λvs=>Up ι Z σ h K (FX vs) h':=by
  rintro⟨vs,U,A⟩
  obtain⟨I,J⟩:=zAp E e' U;obtain⟨N,O⟩:=zJm (ι:=ι') J;exact⟨_,I,Bt vs,σ',ι',Z',E,a',O,N,A⟩
 cases x with
 |normal=>exact fin u
 |ret=>exact fin u
 |exit id=>exact u.elim
 |goto l=>exact u.elim
 |panic ch=>exact u.elim
 |outgrown=>exact u.elim
def zD{P:Program}(u:P.follows .mixedOrders=Im){f:FuncId}{m:Func}(C:P.funcs[f]? = Ik m){args:List PV}{K:PV->dj->Prop}{σ:dj}{p:List Nat}{r:List B1}{b:IC}(D:vp P b (retP r K) (gr.mk p args) σ)(A:cF P m=Ik ⟨p,r,b⟩:=by conv=>lhs;cbv)(E:args.length=Tw p:=by rfl):zA P f args σ K:=zt u C A E D
def ZY{P:Program}(u:P.follows .mixedOrders=Im){f:FuncId}{m:Func}(C:P.funcs[f]? = Ik m){args:List PV}{K:PV->dj->Prop}{σ:dj}{p:List Nat}{r:List B1}{b:IC}(D:vp P b (retP r K) (gr.mk p args) σ)(A:cF P m=Ik ⟨p,r,b⟩:=by conv=>lhs;reduce)(E:args.length=Tw p:=by rfl):zA P f args σ K:=zt u C A E D
end
section
variable{P:Program}{ι ι':Nat->Nat}{Z Z':Nat->Prop}{h h':dN}{σ σ' σ0 σ1 σ2:dj}{K:PV->dj->Prop}
mutual
def mP:PV->List Nat
 | .fz _ (.sl o _ _ _) _ cs=>o::z8 cs
 | .fp (.ptr o _) cs=>(if cs.isEmpty then []else [o])++z8 cs
 | .clo _ a b=>z8 a++z8 b
 | .agg cs=>z8 cs
 | .tup cs=>z8 cs
 |_=>[]
def z8:List PV->List Nat
 |[]=>[]
 |c::cs=>mP c++z8 cs
end
mutual
def zDt:∀{n:Nat} {v:PV},mA Z h n v->∀o∈mP v,Z o
 |n,.undef,_,o,ho|n,.bool _,_,o,ho|n,.int _ _,_,o,ho|n,.str _,_,o,ho|n,.nilp,_,o,ho|n,.nilf,_,o,ho|n,.err _,_,o,ho=>by simp[mP]at ho
 |n,.ptr _ _,_,o,ho|n,.sl _ _ _ _,_,o,ho=>by simp[mP]at ho
 |n,.fz w a len cs,hv,o,ho=>by
  obtain⟨rfl,_,_⟩|⟨D,off,cap,rfl,m,_⟩:=hv.1
  .simp[mP]at ho
  .simp only[mP,Yq]at ho;rcases ho with rfl|ho
   .exact m
   .exact Zk hv.2 o ho
 |n,.fp a cs,hv,o,ho=>by
  cases a with
  |ptr D i=>
   simp only[mP,YZ]at ho;rcases ho with ho|ho
   .split at ho
    .simp at ho
    .rename_i u;simp only[YW]at ho;subst ho;obtain⟨_,m|⟨G,E,C,A,_⟩⟩:=hv.1
     .cases cs with
      |nil=>exact absurd rfl u
      |cons c cs=>simp[kA]at m
     .cases C;exact A
   .exact Zk hv.2 o ho
  |_=>simp[mP]at ho
 |n,.clo _ a b,hv,o,ho=>by
  simp only[mP,YZ]at ho;exact ho.elim (Zk hv.1 o) (Zk hv.2 o)
 |n,.agg cs,hv,o,ho=>Zk (cs:=cs) hv o (by simpa only[mP]using ho)
 |n,.tup cs,hv,o,ho=>Zk (cs:=cs) hv o (by simpa only[mP]using ho)
def Zk:∀{n:Nat} {cs:List PV},fQ Z h n cs->∀o∈z8 cs,Z o
 |n,[],_,o,ho=>by simp[z8]at ho
 |n,c::cs,hv,o,ho=>by
  simp only[z8,YZ]at ho;exact ho.elim (zDt hv.1 o) (Zk hv.2 o)
end
def Gh(σ0:dj)(K:PV->dj->Prop)(v:PV)(σ1:dj):Prop:=
 PWF σ0->∀(ι:Nat->Nat) (Z:Nat->Prop) (h:dN) (b:Nat),Rel ι Z σ1 h->mA Z h σ1.bY v->σ0.bY<=σ1.bY->σ0.top<=b->(∀s cs,σ0.bY<=s->σ1.cd s=Ik cs->b<=ι s)->(∀s,s<σ0.bY->σ0.cd s=none->σ1.cd s=none)->
  ∃v2 σ2 ι2 Z2,Rel ι2 Z2 σ2 h/\mA Z2 h σ2.bY v2/\σ0.bY<=σ2.bY/\(∀s,s<σ0.bY->ι2 s=ι s)/\(∀o,Z o->Z2 o)/\(∀s cs,σ0.bY<=s->σ2.cd s=Ik cs->b<=ι2 s)/\(∀s,s<σ0.bY->σ0.cd s=none->σ2.cd s=none)/\er ι2 v2=er ι v/\K v2 σ2
def zA.gh{f:FuncId}{args:List PV}(c:zA P f args σ (Gh σ K)):zA P f args σ K:=by
 intro ι Z h r va;refine(c ι Z h r va).mono ?_
 rintro _ h' ⟨pv,σ',ι',Z',S,a',R,rfl,k⟩
 obtain⟨T,σ2,ι2,u,A,C,D,E,G,I,J,N,O⟩:=k r.pwf ι' Z' h' h.bY S R a'.bY r.top (λs cs hs m=>a'.fresh s cs hs m) a'.dead;exact⟨T,σ2,ι2,u,A,⟨D,a'.hnext,λs hs=>(E s hs).trans (a'.inj s hs),λo m=>⟨G o (a'.z o m).1,(a'.z o m).2⟩,J,I⟩,C,N.symm,O⟩
def zA.pwf{f:FuncId}{args:List PV}(c:PWF σ->zA P f args σ K):zA P f args σ K:=λι Z h r m=>c r.pwf ι Z h r m
def zA.nil0{f:FuncId}{w:Bool}{a:AV}{l:Nat}{cs:List PV}{rest:List PV}(c:(ZG a=Im->l=0/\cs=[])->zA P f (.fz w a l cs::rest) σ K):zA P f (.fz w a l cs::rest) σ K:=λι Z h r u=>c (λC=>by
 rw[zMJ C]at u;obtain⟨_,m,A⟩|⟨_,_,_,m,_⟩:=u.1.1
 .exact⟨m,YM (by rw[<-ze (ι:=zj),A];rfl)⟩
 .cases m) ι Z h r u
def Gh.ret{v:PV}(k:K v σ1):Gh σ0 K v σ1:=λ_ ι Z h b r C A D u m=>⟨v,σ1,ι,Z,r,C,A,λ_ _=>rfl,λ_ h=>h,u,m,rfl,k⟩
def Gh.cut{v:PV}(C:σ2.bY=σ0.bY)(R:σ2.top<=σ1.top)(m:∀s cs,σ2.cd s=Ik cs->s<σ0.bY/\σ1.cd s=Ik cs/\(σ0.cd s=Ik cs\/ko σ0.bY cs))(O:DA σ0.bY v)(k:K v σ2):Gh σ0 K v σ1:=by
 intro w ι Z h b r S Y h2 J N;refine⟨v,σ2,ι,Z,⟨r.hwf,r.Dy,Yv R r.top,λs hs=>?_,λs cs hs=>?_,λs D cs A hs E hi=>r.inj s D cs A (m s cs hs).2.1 (m D A E).2.1 hi⟩,by rw[C];exact S.of_bel O,aH,λ_ _=>rfl,λ_ h=>h,λs cs hs u=>?_,λs hs u=>?_,rfl,k⟩
 .cases u:σ2.cd s with
  |none=>rfl
  |some cs=>have:=(m s cs u).1;omega
 .obtain⟨X,G,I⟩:=m s cs hs;obtain⟨T,U,V⟩:=r.cd s cs G;exact⟨T,by rw[C];exact U.of_bel (I.elim (λg=>w.bel s cs g) id),V⟩
 .exact J s cs hs (m s cs u).2.1
 .cases jw:σ2.cd s with
  |none=>rfl
  |some cs=>have:=(m s cs jw).2.1;rw[N s hs u]at this;cases this
structure dq(σ0 σ1:dj):Prop where
 bY:σ0.bY<=σ1.bY
 top:σ0.top<=σ1.top
 cd:∀s,s<σ0.bY->σ1.cd s=σ0.cd s
def dq.refl(σ:dj):dq σ σ:=⟨sB _,sB _,λ_ _=>rfl⟩
def dq.trans(a:dq σ0 σ1)(b:dq σ1 σ2):dq σ0 σ2:=⟨Yv a.bY b.bY,Yv a.top b.top,λs hs=>(b.cd s (YO hs a.bY)).trans (a.cd s hs)⟩
def dq.cb(a:dq σ0 σ1)(cs:List PV):dq σ0 (σ1.cb cs):=
 ⟨by have:=a.bY;simp only[dj.cb];omega,a.top,λs hs=>by have:=a.bY;simp only[dj.cb];rw[Iv aH];exact a.cd s hs⟩
def dq.set(a:dq σ0 σ1){s:Nat}(hs:σ0.bY<=s)(cs:List PV):dq σ0 (σ1.set s cs):=
 ⟨a.bY,a.top,λt m=>by simp only[dj.set];rw[Iv aH];exact a.cd t m⟩
def dq.kill(a:dq σ0 σ1){s:Nat}(hs:σ0.bY<=s):dq σ0 (σ1.kill s):=
 ⟨a.bY,a.top,λt m=>by simp only[dj.kill];rw[Iv aH];exact a.cd t m⟩
def dq.up(a:dq σ0 σ1){t:Nat}(m:σ1.top<=t):dq σ0 (σ1.up t):=⟨a.bY,Yv a.top m,a.cd⟩
def Gh.fin0T{v:PV}{t:Nat}(u:dq σ0 σ1)(A:t<=σ1.top)(m:DA σ0.bY v)(k:PWF σ0->K v (σ0.up t)):Gh σ0 K v σ1:=λw=>
 Gh.cut (σ2:=σ0.up t) rfl A (λs cs hs=>⟨w.lt hs,by rw[u.cd s (w.lt hs)];exact hs,.inl hs⟩) m (k w) w
def Gh.fin0{v:PV}(m:dq σ0 σ1)(u:DA σ0.bY v)(k:K v σ0):Gh σ0 K v σ1:=Gh.fin0T (t:=σ0.top) m m.top u λ_=>k
def Gh.finS{s off l:Nat}{cap:nK}{cs:List PV}(E:dq σ0 σ1)(hs:σ1.cd s=Ik cs)(N:σ0.bY<=s)(R:ko σ0.bY cs)(k:K (.sl σ0.bY off l cap) (σ0.cb cs)):Gh σ0 K (.sl s off l cap) σ1:=by
 intro w ι Z h b r hv h1 h2 O h4;obtain⟨X,Y,q3⟩:=r.cd s cs hs;have hi:∀{t:Nat} {A:List PV},σ0.cd t=Ik A->ι t≠ι s:=λ{t A} m u=>by
  have:=r.inj t s A cs (by rw[E.cd t (w.lt m)];exact m) hs u
  have:=w.lt m
  omega
 have conv:∀t,t<σ0.bY->qt ι σ0.bY (ι s) t=ι t:=λt m=>by simp[qt,Jn m]
 have G:fQ Z h σ0.bY cs:=Y.of_bel R;refine⟨.sl σ0.bY off l cap,σ0.cb cs,qt ι σ0.bY (ι s),Z,⟨r.hwf,r.Dy,Yv E.top r.top,λt m=>?_,λt A m=>?_,λt t' A S m C u=>?_⟩,YB _,by simp[dj.cb],conv,λ_ h=>h,λt A m D=>?_,λt m D=>?_,(by simp[er,qt]),k⟩
 .simp only[dj.cb]at m ⊢;rw[Iv aH];exact w.wf t aH
 .simp only[dj.cb]at m ⊢;by_cases e:t=σ0.bY
  .subst e;rw[Iu rfl]at m;cases m;rw[ZT conv G];simp only[qt,if_true];exact⟨X,G.up (Yb _),q3⟩
  .rw[Iv e]at m;have I:=w.lt m;obtain⟨T,U,V⟩:=r.cd t A (by rw[E.cd t I];exact m);have J:=U.of_bel (w.bel t A m);rw[conv t I,ZT conv J];exact⟨T,J.up (Yb _),V⟩
 .simp only[dj.cb]at m C;by_cases e:t=σ0.bY
  .by_cases e':t'=σ0.bY
   .rw[e,e']
   .rw[Iv e']at C;rw[conv t' (w.lt C)]at u;subst e;simp only[qt,if_true]at u;exact absurd u.symm (hi C)
  .rw[Iv e]at m;rw[conv t (w.lt m)]at u;by_cases e':t'=σ0.bY
   .subst e';simp only[qt,if_true]at u;exact absurd u (hi m)
   .rw[Iv e']at C;rw[conv t' (w.lt C)]at u;exact r.inj t t' A S (by rw[E.cd t (w.lt m)];exact m) (by rw[E.cd t' (w.lt C)];exact C) u
 .simp only[dj.cb]at D;by_cases e:t=σ0.bY
  .subst e;simp only[qt,if_true];exact O s cs N hs
  .rw[Iv e]at D;have:=w.lt D;omega
 .simp only[dj.cb];rw[Iv aH];exact D
def Gh.freeze{v:PV}{s:Nat}{cs:List PV}(hs:σ1.cd s=Ik cs)(h0:σ0.bY<=s)(hb:ko 0 cs)
  (k:∀o,σ0.top<=o->o∉z8 cs->o∉mP v->Gh σ0 K (sb s o cs v) ((σ1.kill s).up (max σ1.top (o+1)))):Gh σ0 K v σ1:=by
 intro w ι Z h b r E h1 h2 D h4;obtain⟨r',I,u,G⟩:=r.freeze hs hb;have rM:=D s cs h0 hs;have conv:∀{t:Nat} {a:List PV},(σ1.kill s).cd t=Ik a->t≠s/\σ1.cd t=Ik a:=λ{t a} m=>by
  simp only[dj.kill]at m;split at m
  .cases m
  .exact⟨by assumption,m⟩
 obtain⟨v2,σ2,ι2,J,O,R,S,T,U,V,X,Y,g9⟩:=k (ι s) aH (λC=>G (Zk I _ C)) (λC=>G (zDt E _ C)) w ι (λo=>Z o\/o=ι s) h b r'
  (mA.sb (.inr rfl) u (I.mono (λo u=>⟨.inl u,rfl⟩) (sB _)) (E.mono (λo u=>⟨.inl u,rfl⟩) (sB _))) h1 h2 (λt N m A=>D t N m (conv A).2)
  (λt m A=>by simp only[dj.kill,dj.up];split;rfl;exact h4 t m A)
 exact⟨v2,σ2,ι2,J,O,R,S,T,λo u=>U o (.inl u),V,X,Y.trans (er_sb rfl v),g9⟩
def Gh.finF{s l:Nat}{cap:nK}{cs:List PV}(C:dq σ0 σ1)(hs:σ1.cd s=Ik cs)(m:σ0.bY<=s)(A:ko 0 cs)(u:kv cap l=Im)
  (k:∀o,K (.fz Im (.sl o 0 l cap) l cs) σ0):Gh σ0 K (.sl s 0 l cap) σ1:=
 Gh.freeze hs m A λo E D _=>by
  simp only[sb];rw[Iu ⟨Is,Is,u⟩];exact Gh.fin0 ((C.kill m).up (by simp only[dj.kill];omega)) trivial (k o)
def zA.frz{f:FuncId}{args:List PV}{s:Nat}{cs:List PV}(hs:σ.cd s=Ik cs)(D:ko 0 cs)(c:∀o,zA P f (nD s o cs args) (σ.kill s) K):zA P f args σ K:=by
 intro ι Z h r va;obtain⟨A,I,u,T⟩:=r.freeze hs D;have r2:Rel ι (λo=>Z o\/o=ι s) (σ.kill s) h:=⟨A.hwf,A.Dy,by have:=r.top;exact this,A.wf,A.cd,A.inj⟩
 have C:∀o,Z o->(Z o\/o=ι s)/\h.cd o=h.cd o:=λo u=>⟨.inl u,rfl⟩
 have S:(σ.kill s).bY=σ.bY:=rfl
 have:=c (ι s) ι _ h r2 (fQ.nD (.inr rfl) u (I.mono C (sB _)) (va.mono C (sB _)))
 rw[QH rfl]at this;refine this.mono ?_
 rintro v h' ⟨pv,σ',ι',Z',J,m,N,O,R⟩
 exact⟨pv,σ',ι',Z',J,⟨m.bY,m.hnext,m.inj,λo u=>m.z o (.inl u),λt G E=>m.dead t G (by simp only[dj.kill];split;rfl;exact E),m.fresh⟩,N,O,R⟩
end
section
variable{P:Program}{Q:Exit->gr->dj->Prop}{e:gr}{h:dj}{K:gr->dj->Prop}{KA:PV->dj->Prop}{nb nr:Nat}
def zQH:vp P .skip Q e h=Q .normal e h:=rfl
def zMg(S:List Nat)(m:List II):vp P (.region S m) Q e h=RVp P m e h λe' h'=>Q .normal (gr.mk S (S.map e')) h':=rfl
def Qc(S:List Nat)(t:OT):vp P (.tree S t) Q e h=TVp P t [] e h λe' h'=>Q .normal (gr.mk S (S.map e')) h':=rfl
def qY(recs:List tK):TVp P .done recs e h K=K e h:=rfl
def qX(recs:List tK):TVp P .none recs e h K=True:=rfl
def uE(d:Option Nat)(op:tT)(g:Option (Nat×Bool))(q:Bool)(i:Nat)(c:List Nat)(nx:OT)(recs:List tK):TVp P (.q ⟨⟨d,op,q,g⟩,i,c⟩ nx) recs e h K=iU (gqp 0 0 ⟨d,op,q,g⟩ e h) λv=>TVp P nx (zR ⟨⟨d,op,q,g⟩,i,c⟩ e v++recs) (e.put d v) h K:=rfl
def uk(d:Option Nat)(op:tT)(g:Option (Nat×Bool))(q:Bool)(i:Nat)(c:List Nat)(nx alt:OT)(recs:List tK):TVp P (.e ⟨⟨d,op,q,g⟩,i,c⟩ nx alt) recs e h K=((gep P ⟨d,op,q,g⟩ e h λv h'=>qA c recs h'/\TVp P nx recs (e.put d v) h' K)/\TVp P alt recs e h K):=rfl
def zQJ(S:List Nat)(zs:List (List AV))(m:List DI):vp P (.draw S zs m) Q e h=DVp P h.bY zs.length m [] e (h.news zs) λe' h'=>Q .normal (gr.mk S (S.map e')) h':=rfl
def zRZ(a b:IC):vp P (.seq a b) Q e h=vp P a (λx e' h'=>match x with | .normal=>vp P b Q e' h'|x=>Q x e' h') e h:=rfl
def zQK(c:IX)(a b:IC):vp P (.cond c a b) Q e h=Zn (c.pv e) (vp P a Q e h) (vp P b Q e h):=rfl
def zOg(id:Nat)(c:IC):vp P (.block id c) Q e h=vp P c (λx e' h'=>match x with | .exit sU=>if sU=id then Q .normal e' h' else Q (.exit sU) e' h'|x=>Q x e' h') e h:=rfl
def zQI(id:Nat):vp P (.exit id) Q e h=Q (.exit id) e h:=rfl
def zRa:vp P .ret Q e h=Q .ret e h:=rfl
def zRT:RVp P [] e h K=K e h:=rfl
def RVp_q(d:Option Nat)(op:tT)(g:Option (Nat×Bool))(r:List II):RVp P (⟨d,op,Im,g⟩::r) e h K=iU (gqp 0 0 ⟨d,op,Im,g⟩ e h) λv=>RVp P r (e.put d v) h K:=rfl
def RVp_e(d:Option Nat)(op:tT)(g:Option (Nat×Bool))(r:List II):RVp P (⟨d,op,false,g⟩::r) e h K=gep P ⟨d,op,false,g⟩ e h λv h'=>RVp P r (e.put d v) h' K:=rfl
def zRW(recs:List tK):DVp P nb nr [] recs e h K=K e h:=rfl
def DVp_q(d:Option Nat)(op:tT)(g:Option (Nat×Bool))(i:Nat)(c:List Nat)(r:List DI)(recs:List tK):DVp P nb nr (⟨⟨d,op,Im,g⟩,i,c⟩::r) recs e h K=iU (gqp nb nr ⟨d,op,Im,g⟩ e h) λv=>DVp P nb nr r (zR ⟨⟨d,op,Im,g⟩,i,c⟩ e v++recs) (e.put d v) h K:=rfl
def DVp_e(d:Option Nat)(op:tT)(g:Option (Nat×Bool))(i:Nat)(c:List Nat)(r:List DI)(recs:List tK):DVp P nb nr (⟨⟨d,op,false,g⟩,i,c⟩::r) recs e h K=gep P ⟨d,op,false,g⟩ e h λv h'=>qA c recs h'/\DVp P nb nr r recs (e.put d v) h' K:=rfl
def zPm(d:Option Nat)(op:tT)(q:Bool):gqp nb nr ⟨d,op,q,none⟩ e h=qp nb nr op e h:=rfl
def zPl(d:Option Nat)(op:tT)(q:Bool)(t:Nat)(b:Bool):gqp nb nr ⟨d,op,q,Ik (t,b)⟩ e h=Qf (e t) b (qp nb nr op e h):=rfl
def zPp(d:Option Nat)(op:tT)(q:Bool):gep P ⟨d,op,q,none⟩ e h KA=ep P op e h KA:=rfl
def zPo(d:Option Nat)(op:tT)(q:Bool)(t:Nat)(b:Bool):gep P ⟨d,op,q,Ik (t,b)⟩ e h KA=Zr (e t) b (ep P op e h KA) (KA (.tup []) h):=rfl
def zJb(a b:Prop):Zn (.bool Im) a b=a:=rfl
def zH6(a b:Prop):Zn (.bool false) a b=b:=rfl
def zLN(c:Prop)[Decidable c](a b:Prop):Zn (.bool (decide c)) a b=if c then a else b:=by by_cases x:c<;>simp[Zn,x]
def zJc(c:Prop)[Decidable c](a b:Prop):Zn (.bool (!decide c)) a b=if c then b else a:=by by_cases x:c<;>simp[Zn,x]
def zH5(c b:Bool)(x y:Prop):Zr (.bool c) b x y=if c=b then x else y:=rfl
def zH3(c b:Bool)(x:Option PV):Qf (.bool c) b x=if c=b then x else Ik (.tup []):=rfl
def zH2(b:Bool)(x:Option PV):Qf (.tup []) b x=Ik (.tup []):=rfl
def zH4(b:Bool)(x y:Prop):Zr (.tup []) b x y=y:=rfl
def pv_t(n:Nat):(IX.t n).pv e=e n:=rfl
def pv_c(v:AV):(IX.c v).pv e=mQ v:=rfl
def zO9(s:Nat)(S:List Nat)(v:PV)(vs:List PV)(t:Nat):gr.mk (s::S) (v::vs) t=if t=s then v else gr.mk S vs t:=rfl
def zM7(d:Nat)(v:PV)(t:Nat):e.put (Ik d) v t=if t=d then v else e t:=rfl
def zM8(v:PV):e.put none v=e:=rfl
def qp_mv(x:IX):qp nb nr (.mv x) e h=Ik (x.pv e):=rfl
def zQZ(c a b:IX):qp nb nr (.pick c a b) e h=pPick (c.pv e) (a.pv e) (b.pv e):=rfl
def zRs(op:BinOp)(m:He)(x y:IX):qp nb nr (.bin op m x y) e h=mR op m (x.pv e) (y.pv e):=rfl
def zQb(op:BinOp)(x:IX):qp nb nr (.errB op x) e h=pErr op (x.pv e):=rfl
def zPR(b:Bool):pErr .neq (.err b)=Ik (.bool !b):=rfl
def zPS(b:Bool):pErr .eql (.err b)=Ik (.bool b):=rfl
def qp_un(op:UnOp)(x:IX):qp nb nr (.un op x) e h=pun op (x.pv e):=rfl
def zQc(k:IntKind)(x:IX):qp nb nr (.conv k x) e h=pConv k (x.pv e):=rfl
def zJX(x:IX):qp nb nr (.nilCheck x) e h=pNil (x.pv e):=rfl
def zOw(z:List AV)(m:List (Nat×Nat×IX)):qp nb nr (.build z m) e h=(Dn (gH z) (m.map λp=>(p.1,p.2.1,p.2.2.pv e))).map .agg:=rfl
def zOv(a:Bool)(n off:Nat)(x:IX):qp nb nr (.field a n off x) e h=zCu a n off (x.pv e):=rfl
def zHq(off:Nat)(x:IX):qp nb nr (.fieldAddr off x) e h=Qn off (x.pv e):=rfl
def zHp(sz:Nat)(x i:IX):qp nb nr (.indexAddr sz x i) e h=zBu sz (x.pv e) (i.pv e):=rfl
def zJZ(x i:IX):qp nb nr (.indexStr x i) e h=zDh (x.pv e) (i.pv e):=rfl
def zLH(x:IX)(i:Nat):qp nb nr (.extract x i) e h=zCI (x.pv e) i:=rfl
def zRq(x:IX):qp nb nr (.len x) e h=nN (x.pv e):=rfl
def zM1(x:IX):qp nb nr (.lenStr x) e h=zDg (x.pv e):=rfl
def zRr(x:IX):qp nb nr (.cap x) e h=pCap (x.pv e):=rfl
def zOu(sz:Nat)(x:IX)(lo hi mx:Option IX):qp nb nr (.slice sz x lo hi mx) e h=Ql sz (x.pv e) (lo.map (·.pv e)) (hi.map (·.pv e)) (mx.map (·.pv e)):=rfl
def zJW(x:IX)(lo hi:Option IX):qp nb nr (.sliceStr x lo hi) e h=zBG (x.pv e) (lo.map (·.pv e)) (hi.map (·.pv e)):=rfl
def zM0(mx:Bool)(x y:IX):qp nb nr (.maxmin mx x y) e h=zBt mx (x.pv e) (y.pv e):=rfl
def zJY(f:FuncId)(a b:List IX):qp nb nr (.makeFunc f a b) e h=Ik (.clo f (a.map (·.pv e)) (b.map (·.pv e))):=rfl
def zQa(a:Bool)(n:Nat)(x:IX):qp nb nr (.load a n x) e h=DW a n (x.pv e) h:=rfl
def zRp(k:Nat):qp nb nr (.rev k) e h=if k<nr then Ik (.ptr (nb+k) 0)else none:=rfl
def zQY(k n:Nat):qp nb nr (.revS k n) e h=if k<nr then Ik (.sl (nb+k) 0 n (.cm n))else none:=rfl
def zP0(z:List AV):ep P (.alloc z) e h KA=KA (.ptr h.bY 0) (h.cb (gH z)):=rfl
def zSH(x:IX):ep P (.box x) e h KA=((x.pv e).cells.all PV.one=Im/\KA (.ptr h.bY 0) (h.cb (x.pv e).cells)):=rfl
def zMP(sz len:Nat)(z:List AV)(m:List (Nat×Nat×IX)):ep P (.buildSl sz len z m) e h KA=iU (Dn (gH (jE z len)) (m.map λp=>(p.1,p.2.1,p.2.2.pv e))) λcs=>KA (.sl h.bY 0 len (.cm len)) (h.cb cs):=rfl
def zFL(n:Nat)(x v:PV)(h:dj)(KA:PV->dj->Prop):Prop:=
 match x with
 | .ptr s i=>v.cells.length=n/\iU (h.wr s i v.cells) λh'=>KA .undef h'
 |_=>False
def pMake(sz bytes:Nat)(z:List AV)(l c:PV)(h:dj)(KA:PV->dj->Prop):Prop:=
 match l,c with
 | .int _ l,.int _ c=>(0<=l/\l<=c/\c*bytes<=140737488355328/\c<=9223372036854775807)/\KA (.sl h.bY 0 l.toNat (.cm c.toNat)) (h.cb (gH (jE z c.toNat)))
 |_,_=>False
def zBv(sz bytes:Nat)(z:List AV)(s n:PV)(h:dj)(KA:PV->dj->Prop):Prop:=
 match s,n with
 | .fz _ .cU _ _,.int _ n=>(0<=n/\n*bytes<=140737488355328/\n<=4611686018427387904)/\if 0<n then KA (.sl h.bY 0 n.toNat (.grown sz)) (h.cb (gH (jE z n.toNat)))else KA (.fz Im .cU 0 []) h
 | .sl s off len c,.int _ n=>(0<=n/\n*bytes<=140737488355328/\n<=4611686018427387904)/\iU (if 0<n then xL sz bytes h (.sl s off len c) (gH (jE z n.toNat)) n.toNat else(EE (.sl s off len c)).map λv=>(v,h)) λp=>KA p.1 p.2
 |_,_=>False
def zFM(P:Program)(f:PV)(args:List PV)(h:dj)(KA:PV->dj->Prop):Prop:=
 match f with
 | .clo f first dw=>okF P f=Im/\zA P f (first++args++dw) h KA
 |_=>False
def zPy(n:Nat)(x v:IX):ep P (.store n x v) e h KA=zFL n (x.pv e) (v.pv e) h KA:=rfl
def zLa(n s i:Nat)(v:PV):zFL n (.ptr s i) v h KA=(Tw v.cells=n/\iU (h.wr s i v.cells) λh'=>KA .undef h'):=rfl
def zOL(sz bytes:Nat)(z:List AV)(l c:IX):ep P (.makeSl sz bytes z l c) e h KA=pMake sz bytes z (l.pv e) (c.pv e) h KA:=rfl
def zKC(sz bytes:Nat)(z:List AV)(s n:IX):ep P (.appendMk sz bytes z s n) e h KA=zBv sz bytes z (s.pv e) (n.pv e) h KA:=rfl
def zJr(sz bytes:Nat)(z:List AV)(w:Bool)(l:Nat)(cs:List PV)(k:IntKind)(n:Int):zBv sz bytes z (.fz w .cU l cs) (.int k n) h KA=((0<=n/\n*bytes<=140737488355328/\n<=4611686018427387904)/\if 0<n then KA (.sl h.bY 0 n.toNat (.grown sz)) (h.cb (gH (jE z n.toNat)))else KA (.fz Im .cU 0 []) h):=rfl
def zNY(sz bytes:Nat)(z:List AV)(s off len:Nat)(c:nK)(k:IntKind)(n:Int):zBv sz bytes z (.sl s off len c) (.int k n) h KA=((0<=n/\n*bytes<=140737488355328/\n<=4611686018427387904)/\iU (if 0<n then xL sz bytes h (.sl s off len c) (gH (jE z n.toNat)) n.toNat else(EE (.sl s off len c)).map λv=>(v,h)) λp=>KA p.1 p.2):=rfl
def zNT(sz bytes:Nat)(z:List AV)(k m:IntKind)(l c:Int):pMake sz bytes z (.int k l) (.int m c) h KA=((0<=l/\l<=c/\c*bytes<=140737488355328/\c<=9223372036854775807)/\KA (.sl h.bY 0 l.toNat (.cm c.toNat)) (h.cb (gH (jE z c.toNat)))):=rfl
def zOM(sz bytes:Nat)(s x:IX):ep P (.append sz bytes s x) e h KA=iU (zW sz bytes h (s.pv e) (x.pv e)) λp=>KA p.1 p.2:=rfl
def zRL(sz:Nat)(d s:IX):ep P (.copy sz d s) e h KA=iU (pcopy sz h (d.pv e) (s.pv e)) λp=>KA p.1 p.2:=rfl
def zRM(f:FuncId)(args:List IX):ep P (.call f args) e h KA=zA P f (args.map (·.pv e)) h KA:=rfl
def qz(x:IX):ep P (.strOf x) e h KA=iU (Z5 h (x.pv e)) λs=>KA (.str s) h:=rfl
def zPz(f:IX)(args:List IX):ep P (.callV f args) e h KA=zFM P (f.pv e) (args.map (·.pv e)) h KA:=rfl
def zLf(f:FuncId)(a b args:List PV):zFM P (.clo f a b) args h KA=(okF P f=Im/\zA P f (a++args++b) h KA):=rfl
def zPa:mQ .undef=.undef:=rfl
def of_bool(b:Bool):mQ (.bool b)=.bool b:=rfl
def of_int(k:IntKind)(n:Int):mQ (.int k n)=.int k n:=rfl
def zR0(s:List UInt8):mQ (.str s)=.str s:=rfl
def zQ0:mQ .nilp=.nilp:=rfl
def zQ1:mQ .nilf=.nilf:=rfl
def zR1(b:Bool):mQ (.err b)=.err b:=rfl
def zQz:mQ .cU=.fz Im .cU 0 []:=rfl
def zR2(f:FuncId)(a b:List AV):mQ (.clo f a b)=.clo f (gH a) (gH b):=rfl
def zR3(a:List AV):mQ (.agg a)=.agg (gH a):=rfl
def zQy:gH []=[]:=rfl
def zPZ(c:AV)(cs:List AV):gH (c::cs)=mQ c::gH cs:=rfl
def zKb(n:Nat)(c:AV):gH (Jf n c)=Jf n (mQ c):=by rw[zGb,List.map_replicate]
def zPO(k:IntKind)(m:He)(a b:Int):mR .add m (.int k a) (.int k b)=Ik (.int k (k.wrap (a+b))):=by simp[mR,AW,B6,mQ]
def zPE(k:IntKind)(m:He)(a b:Int):mR .sub m (.int k a) (.int k b)=Ik (.int k (k.wrap (a-b))):=by simp[mR,AW,B6,mQ]
def zPI(k:IntKind)(m:He)(a b:Int):mR .mul m (.int k a) (.int k b)=Ik (.int k (k.wrap (a*b))):=by simp[mR,AW,B6,mQ]
def zPN(k:IntKind)(m:He)(a b:Int):mR .eql m (.int k a) (.int k b)=Ik (.bool (decide (a=b))):=by simp[mR,AW,B6,mQ]
def zPH(k:IntKind)(m:He)(a b:Int):mR .neq m (.int k a) (.int k b)=Ik (.bool (!decide (a=b))):=by simp[mR,AW,B6,mQ]
def zPJ(k:IntKind)(m:He)(a b:Int):mR .lss m (.int k a) (.int k b)=Ik (.bool (decide (a<b))):=by simp[mR,AW,B6,mQ]
def zPK(k:IntKind)(m:He)(a b:Int):mR .leq m (.int k a) (.int k b)=Ik (.bool (decide (a<=b))):=by simp[mR,AW,B6,mQ]
def zPL(k:IntKind)(m:He)(a b:Int):mR .gtr m (.int k a) (.int k b)=Ik (.bool (decide (b<a))):=by simp[mR,AW,B6,mQ]
def zPM(k:IntKind)(m:He)(a b:Int):mR .geq m (.int k a) (.int k b)=Ik (.bool (decide (b<=a))):=by simp[mR,AW,B6,mQ]
def zPG(k:IntKind)(m:He)(a b:Int):mR .quo m (.int k a) (.int k b)=if b=0 then none else Ik (.int k (k.wrap (a.tdiv b))):=by simp only[mR,AW,B6,if_true];split<;>rfl
def zPF(k:IntKind)(m:He)(a b:Int):mR .rem m (.int k a) (.int k b)=if b=0 then none else Ik (.int k (a.tmod b)):=by simp only[mR,AW,B6,if_true];split<;>rfl
def zLY(n:Nat)(xs m:List PV):mR .eql (.ints n) (.agg xs) (.agg m)=if xs.length=n/\Tw m=n then(BE xs m).bind λr=>Ik (.bool r)else none:=rfl
def zNP:BE [] []=Ik Im:=rfl
def zLZ(k:IntKind)(a b:Int)(xs m:List PV):BE (.int k a::xs) (.int k b::m)=(BE xs m).map λr=>decide (a=b) && r:=by simp[BE]
def zNO(a b:Bool):mR .eql .bool (.bool a) (.bool b)=Ik (.bool (a == b)):=rfl
def zNN(a b:Bool):mR .neq .bool (.bool a) (.bool b)=Ik (.bool !(a == b)):=rfl
def zLX(w w':Bool)(a:AV)(n n':Nat)(cs m:List PV):mR .eql .slice (.fz w a n cs) (.fz w' .cU n' m)=Ik (.bool (ZG a)):=rfl
def zJk(w w':Bool)(a:AV)(n n':Nat)(cs m:List PV):mR .neq .slice (.fz w a n cs) (.fz w' .cU n' m)=Ik (.bool (!ZG a)):=rfl
def zLW(s o n:Nat)(c:nK)(w':Bool)(n':Nat)(m:List PV):mR .eql .slice (.sl s o n c) (.fz w' .cU n' m)=Ik (.bool false):=rfl
def zJj(s o n:Nat)(c:nK)(w':Bool)(n':Nat)(m:List PV):mR .neq .slice (.sl s o n c) (.fz w' .cU n' m)=Ik (.bool Im):=rfl
def zJi(m:He)(a b:List UInt8):mR .add m (.str a) (.str b)=if a.length+Tw b<=9223372036854775807 then Ik (.str (a++b))else none:=by simp only[mR,astr];split<;>rfl
def zJh(m:He)(a b:List UInt8):mR .eql m (.str a) (.str b)=Ik (.bool (a == b)):=rfl
def zJg(m:He)(a b:List UInt8):mR .neq m (.str a) (.str b)=Ik (.bool !(a == b)):=rfl
def zJ9:ZG .cU=Im:=rfl
def zN3(o f n:Nat)(c:nK):ZG (.sl o f n c)=false:=rfl
def zQg(k:IntKind)(n:Int):pun .neg (.int k n)=Ik (.int k (k.wrap (0-n))):=rfl
def zQf(b:Bool):pun .not (.bool b)=Ik (.bool !b):=rfl
def zLb(a b:PV):pPick (.bool Im) a b=Ik a:=rfl
def zJn(a b:PV):pPick (.bool false) a b=Ik b:=rfl
def zNW(k m:IntKind)(n:Int):pConv k (.int m n)=Ik (.int k (k.wrap n)):=rfl
def zPP(s i:Nat):pNil (.ptr s i)=Ik (.ptr s i):=rfl
def zPQ(f:FuncId)(a b:List PV):pNil (.clo f a b)=Ik (.clo f a b):=rfl
def zQr(a:AV)(c:PV)(cs:List PV):pNil (.fp a (c::cs))=Ik (.fp a (c::cs)):=rfl
def zLd(n off:Nat)(cs:List PV):zCu Im n off (.agg cs)=Ik (.agg ((cs.drop off).take n)):=rfl
def zLc(n off:Nat)(cs:List PV):zCu false n off (.agg cs)=cs[off]?:=rfl
def zGC(off s i:Nat):Qn off (.ptr s i)=Ik (.ptr s (i+off)):=rfl
def zG5(off:Nat)(a:AV)(c:PV)(cs:List PV):Qn off (.fp a (c::cs))=Ik (.fp (pAdd a off) ((c::cs).drop off)):=rfl
def zNU(sz s off len:Nat)(c:nK)(k:IntKind)(n:Int):zBu sz (.sl s off len c) (.int k n)=if 0<=n/\n<len then Ik (.ptr s (off+n.toNat*sz))else none:=rfl
def zNV(sz:Nat)(w:Bool)(a:AV)(len:Nat)(cs:List PV)(k:IntKind)(n:Int):zBu sz (.fz w a len cs) (.int k n)=if 0<=n/\n<len then Ik (.fp (pAt a (n.toNat*sz)) (cs.drop (n.toNat*sz)))else none:=rfl
def zJq(s:List UInt8)(k:IntKind)(n:Int):zDh (.str s) (.int k n)=if 0<=n then(s[n.toNat]?).map λc=>.int .u8 c.toNat else none:=rfl
def zH8(vs:List PV)(i:Nat):zCI (.tup vs) i=vs[i]?:=rfl
def zQt(w:Bool)(a:AV)(n:Nat)(cs:List PV):nN (.fz w a n cs)=Ik (.int .i64 n):=rfl
def zQs(s o n:Nat)(c:nK):nN (.sl s o n c)=Ik (.int .i64 n):=rfl
def zJp(s:List UInt8):zDg (.str s)=Ik (.int .i64 s.length):=rfl
def zNX(w:Bool)(l:Nat)(cs:List PV):pCap (.fz w .cU l cs)=Ik (.int .i64 0):=rfl
def zQu(s o n c:Nat):pCap (.sl s o n (.cm c))=Ik (.int .i64 c):=rfl
def zJo(mx:Bool)(k:IntKind)(a b:Int):zBt mx (.int k a) (.int k b)=Ik (.int k (if mx=Im then max a b else min a b)):=by simp[zBt]
def zNG(n s i:Nat):DW false n (.ptr s i) h=h.gv s i:=rfl
def zNF(n s i:Nat):DW Im n (.ptr s i) h=(h.rd s i n).map .agg:=rfl
def zPB(n:Nat)(a:AV)(cs:List PV):DW false n (.fp a cs) h=cs[0]?:=rfl
def zPA(n:Nat)(a:AV)(cs:List PV):DW Im n (.fp a cs) h=if 0<n/\n<=cs.length then Ik (.agg (cs.take n))else none:=rfl
def zNE:h.news []=h:=rfl
def zLL(z:List AV)(zs:List (List AV)):h.news (z::zs)=(h.cb (gH z)).news zs:=rfl
def zMb(recs:List tK):qA [] recs h=True:=by
 apply propext;refine⟨λ_=>trivial,λ_=>?_⟩
 induction recs with
 |nil=>trivial
 |cons r rs ih=>exact⟨bj,ih⟩
def zKF(c:List Nat):qA c [] h=True:=rfl
def zKG(c:List Nat)(i:Nat)(a:Bool)(n:Nat)(x v:PV)(m:List tK):qA c (⟨i,a,n,x,v⟩::m) h=((if c.contains i=Im then DW a n x h=Ik v else True)/\qA c m h):=rfl
def zJT(d:Option Nat)(a:Bool)(n:Nat)(x:IX)(g:Option (Nat×Bool))(i:Nat)(c:List Nat)(v:PV):zR ⟨⟨d,.load a n x,Im,g⟩,i,c⟩ e v=if zAe g e=Im then [⟨i,a,n,x.pv e,v⟩]else []:=rfl
def zMx(d:Option Nat)(x:IX)(g:Option (Nat×Bool))(i:Nat)(c:List Nat)(v:PV):zR ⟨⟨d,(.mv x),Im,g⟩,i,c⟩ e v=[]:=rfl
def zJS(d:Option Nat)(x y z:IX)(g:Option (Nat×Bool))(i:Nat)(c:List Nat)(v:PV):zR ⟨⟨d,(.pick x y z),Im,g⟩,i,c⟩ e v=[]:=rfl
def zLE(d:Option Nat)(op:BinOp)(m:He)(x y:IX)(g:Option (Nat×Bool))(i:Nat)(c:List Nat)(v:PV):zR ⟨⟨d,(.bin op m x y),Im,g⟩,i,c⟩ e v=[]:=rfl
def zJU(d:Option Nat)(op:BinOp)(x:IX)(g:Option (Nat×Bool))(i:Nat)(c:List Nat)(v:PV):zR ⟨⟨d,(.errB op x),Im,g⟩,i,c⟩ e v=[]:=rfl
def zMw(d:Option Nat)(op:UnOp)(x:IX)(g:Option (Nat×Bool))(i:Nat)(c:List Nat)(v:PV):zR ⟨⟨d,(.un op x),Im,g⟩,i,c⟩ e v=[]:=rfl
def zJV(d:Option Nat)(k:IntKind)(x:IX)(g:Option (Nat×Bool))(i:Nat)(c:List Nat)(v:PV):zR ⟨⟨d,(.conv k x),Im,g⟩,i,c⟩ e v=[]:=rfl
def zFE(d:Option Nat)(x:IX)(g:Option (Nat×Bool))(i:Nat)(c:List Nat)(v:PV):zR ⟨⟨d,(.nilCheck x),Im,g⟩,i,c⟩ e v=[]:=rfl
def zHm(d:Option Nat)(z:List AV)(m:List (Nat×Nat×IX))(g:Option (Nat×Bool))(i:Nat)(c:List Nat)(v:PV):zR ⟨⟨d,(.build z m),Im,g⟩,i,c⟩ e v=[]:=rfl
def zHl(d:Option Nat)(a:Bool)(n off:Nat)(x:IX)(g:Option (Nat×Bool))(i:Nat)(c:List Nat)(v:PV):zR ⟨⟨d,(.field a n off x),Im,g⟩,i,c⟩ e v=[]:=rfl
def zEV(d:Option Nat)(off:Nat)(x:IX)(g:Option (Nat×Bool))(i:Nat)(c:List Nat)(v:PV):zR ⟨⟨d,(.fieldAddr off x),Im,g⟩,i,c⟩ e v=[]:=rfl
def zEU(d:Option Nat)(sz:Nat)(x y:IX)(g:Option (Nat×Bool))(i:Nat)(c:List Nat)(v:PV):zR ⟨⟨d,(.indexAddr sz x y),Im,g⟩,i,c⟩ e v=[]:=rfl
def zFG(d:Option Nat)(x y:IX)(g:Option (Nat×Bool))(i:Nat)(c:List Nat)(v:PV):zR ⟨⟨d,(.indexStr x y),Im,g⟩,i,c⟩ e v=[]:=rfl
def zF9(d:Option Nat)(x:IX)(j:Nat)(g:Option (Nat×Bool))(i:Nat)(c:List Nat)(v:PV):zR ⟨⟨d,(.extract x j),Im,g⟩,i,c⟩ e v=[]:=rfl
def zLC(d:Option Nat)(x:IX)(g:Option (Nat×Bool))(i:Nat)(c:List Nat)(v:PV):zR ⟨⟨d,(.len x),Im,g⟩,i,c⟩ e v=[]:=rfl
def zG1(d:Option Nat)(x:IX)(g:Option (Nat×Bool))(i:Nat)(c:List Nat)(v:PV):zR ⟨⟨d,(.lenStr x),Im,g⟩,i,c⟩ e v=[]:=rfl
def zLD(d:Option Nat)(x:IX)(g:Option (Nat×Bool))(i:Nat)(c:List Nat)(v:PV):zR ⟨⟨d,(.cap x),Im,g⟩,i,c⟩ e v=[]:=rfl
def zHk(d:Option Nat)(sz:Nat)(x:IX)(lo hi mx:Option IX)(g:Option (Nat×Bool))(i:Nat)(c:List Nat)(v:PV):zR ⟨⟨d,(.slice sz x lo hi mx),Im,g⟩,i,c⟩ e v=[]:=rfl
def zFD(d:Option Nat)(x:IX)(lo hi:Option IX)(g:Option (Nat×Bool))(i:Nat)(c:List Nat)(v:PV):zR ⟨⟨d,(.sliceStr x lo hi),Im,g⟩,i,c⟩ e v=[]:=rfl
def zG0(d:Option Nat)(mx:Bool)(x y:IX)(g:Option (Nat×Bool))(i:Nat)(c:List Nat)(v:PV):zR ⟨⟨d,(.maxmin mx x y),Im,g⟩,i,c⟩ e v=[]:=rfl
def zFF(d:Option Nat)(f:FuncId)(y z:List IX)(g:Option (Nat×Bool))(i:Nat)(c:List Nat)(v:PV):zR ⟨⟨d,(.makeFunc f y z),Im,g⟩,i,c⟩ e v=[]:=rfl
def zLB(d:Option Nat)(j:Nat)(g:Option (Nat×Bool))(i:Nat)(c:List Nat)(v:PV):zR ⟨⟨d,(.rev j),Im,g⟩,i,c⟩ e v=[]:=rfl
def zJR(d:Option Nat)(j m:Nat)(g:Option (Nat×Bool))(i:Nat)(c:List Nat)(v:PV):zR ⟨⟨d,(.revS j m),Im,g⟩,i,c⟩ e v=[]:=rfl
def zHS:zAe none e=Im:=rfl
def zHR(t:Nat)(b:Bool):zAe (Ik (t,b)) e=(match e t with | .bool c=>decide (c=b)|_=>false):=rfl
def zLA:ZF [] e h=Ik []:=rfl
def zK9(t:Nat)(r:List B1):ZF (.tmp t::r) e h=(ZF r e h).map λvs=>e t::vs:=rfl
def zJP(t:Nat)(a:Bool)(n:Nat)(r:List B1):ZF (.cell t a n::r) e h=(DW a n (e t) h).bind λv=>(ZF r e h).map λvs=>v::vs:=rfl
def zJQ(res:List B1):retP res KA .normal e h=iU (ZF res e h) λvs=>KA (Bt vs) h:=rfl
def zOp(res:List B1):retP res KA .ret e h=iU (ZF res e h) λvs=>KA (Bt vs) h:=rfl
def zNR(v:PV):Bt [v]=v:=rfl
def zNS:Bt []=.tup []:=rfl
def zNQ(u v:PV)(r:List PV):Bt (u::v::r)=.tup (u::v::r):=rfl
def zNI(cs:List PV):Dn cs []=Ik cs:=rfl
def zLM(cs:List PV)(off size:Nat)(v:PV)(r:List (Nat×Nat×PV)):Dn cs ((off,size,v)::r)=if v.cells.length=size/\off+size<=Tw cs/\v.cells.all PV.one=Im then Dn (cs.take off++v.cells++cs.drop (off+size)) r else none:=rfl
def zLQ(k:IntKind)(n:Int):PV.cells (.int k n)=[(.int k n)]:=rfl
def zO5(k:IntKind)(n:Int):PV.one (.int k n)=Im:=rfl
def zJf(b:Bool):PV.cells (.bool b)=[(.bool b)]:=rfl
def zNB(b:Bool):PV.one (.bool b)=Im:=rfl
def zLO(s:List UInt8):PV.cells (.str s)=[(.str s)]:=rfl
def zO3(s:List UInt8):PV.one (.str s)=Im:=rfl
def zJd:PV.cells .nilp=[.nilp]:=rfl
def zM9:PV.one .nilp=Im:=rfl
def zJe:PV.cells .nilf=[.nilf]:=rfl
def zLR(b:Bool):PV.cells (.err b)=[.err b]:=rfl
def zNA:PV.one .nilf=Im:=rfl
def zO6(b:Bool):PV.one (.err b)=Im:=rfl
def zNK(w:Bool)(a:AV)(n:Nat)(cs:List PV):PV.cells (.fz w a n cs)=[(.fz w a n cs)]:=rfl
def zQm(w:Bool)(a:AV)(n:Nat)(cs:List PV):PV.one (.fz w a n cs)=Im:=rfl
def zNL(a:AV)(cs:List PV):PV.cells (.fp a cs)=[(.fp a cs)]:=rfl
def zQn(a:AV)(cs:List PV):PV.one (.fp a cs)=Im:=rfl
def zLP(s i:Nat):PV.cells (.ptr s i)=[(.ptr s i)]:=rfl
def zO4(s i:Nat):PV.one (.ptr s i)=Im:=rfl
def zNJ(s o n:Nat)(c:nK):PV.cells (.sl s o n c)=[(.sl s o n c)]:=rfl
def zQl(s o n:Nat)(c:nK):PV.one (.sl s o n c)=Im:=rfl
def zLS(f:FuncId)(a b:List PV):PV.cells (.clo f a b)=[(.clo f a b)]:=rfl
def zO7(f:FuncId)(a b:List PV):PV.one (.clo f a b)=Im:=rfl
def zLT(cs:List PV):PV.cells (.agg cs)=cs:=rfl
def zLU(k:IntKind)(i:Int)(y:Nat):QN (.int k i) y=if 0<=i/\i<=y then Ik i.toNat else none:=rfl
def zHy(x:PV)(d y:Nat):zn (Ik x) d y=QN x y:=rfl
def zHz(d y:Nat):zn none d y=Ik d:=rfl
def zM4(sz:Nat)(w:Bool)(a:AV)(len:Nat)(cs:List PV)(lo hi:Option PV):Ql sz (.fz w a len cs) lo hi none=(zn hi len len).bind λh=>(zn lo 0 h).bind λl=>Ik (.fz false (pslA sz a l h) (h-l) ((cs.drop (l*sz)).take ((h-l)*sz))):=rfl
def zHu(sz s off len c:Nat)(lo hi mx:Option PV):Ql sz (.sl s off len (.cm c)) lo hi mx=(zn mx c c).bind λm=>(zn hi len m).bind λh=>(zn lo 0 h).bind λl=>if hi.isNone=Im/\mx.isSome=Im then none else Ik (.sl s (if m=l then off else off+l*sz) (h-l) (.cm (m-l))):=rfl
def zHv(sz s off len g:Nat)(lo hi:Option PV):Ql sz (.sl s off len (.grown g)) lo hi none=(zn hi len len).bind λh=>(zn lo 0 h).bind λl=>Ik (.sl s (off+l*sz) (h-l) (.grown (if g=sz then g else 0))):=rfl
def zG2(s:List UInt8)(lo hi:Option PV):zBG (.str s) lo hi=(zn hi s.length s.length).bind λh=>(zn lo 0 h).bind λl=>Ik (.str ((s.take h).drop l)):=rfl
def zGB(w:Bool)(a:AV)(n:Nat)(cs:List PV):BO (.fz w a n cs)=Ik n:=rfl
def zBr(s o n:Nat)(c:nK):BO (.sl s o n c)=Ik n:=rfl
def ZM(sz bytes:Nat)(s x:PV):zW sz bytes h s x=(BO x).bind λm=>if m=0 then(EE s).map λv=>(v,h)else(q8 sz h x m).bind λnews=>xL sz bytes h s news m:=rfl
def zEA(s o n c:Nat):EE (.sl s o n (.cm c))=if n<=c then Ik (.sl s o n (.cm c))else none:=rfl
def zBI(sz:Nat)(w:Bool)(a:AV)(len:Nat)(cs:List PV)(n:Nat):q8 sz h (.fz w a len cs) n=if n=0 then Ik []else if n<=len/\n*sz<=Tw cs/\0<sz then Ik (cs.take (n*sz))else none:=rfl
def qO(sz s off len:Nat)(c:nK)(n:Nat):q8 sz h (.sl s off len c) n=if n=0 then Ik []else if n<=len then h.rd s off (n*sz)else none:=rfl
def zAZ(sz bytes:Nat)(w:Bool)(n:Nat)(cs news:List PV)(m:Nat):xL sz bytes h (.fz w .cU n cs) news m=if m*bytes<=140737488355328/\m<=4611686018427387904 then Ik (.sl h.bY 0 m (.grown sz),h.cb news)else none:=rfl
def zBS(sz bytes s off len c:Nat)(news:List PV)(m:Nat):xL sz bytes h (.sl s off len (.cm c)) news m=if len+m<=c then(h.wr s (off+len*sz) news).map λσ'=>(.sl s off (len+m) (.cm c),σ')else if (len+m)*bytes<=140737488355328/\len+m<=4611686018427387904 then(h.rd s off (len*sz)).map λold=>(.sl h.bY 0 (len+m) (.grown sz),h.cb (old++news))else none:=rfl
def zBT(sz bytes s off len g:Nat)(news:List PV)(m:Nat):xL sz bytes h (.sl s off len (.grown g)) news m=if (len+m)*bytes<=140737488355328/\len+m<=4611686018427387904/\g=sz then(h.cd s).bind λcs=>if off+len*sz<=cs.length then Ik (.sl h.bY 0 (len+m) (.grown sz),(h.kill s).cb ((cs.drop off).take (len*sz)++news))else none else none:=rfl
def zHw(cs:List PV)(s i:Nat):(h.cb cs).gv s i=if s=h.bY then cs[i]? else h.gv s i:=by by_cases x:s=h.bY<;>simp[dj.gv,dj.cb,x]
def ZC(cs:List PV)(s i n:Nat):(h.cb cs).rd s i n=if s=h.bY then(if i+n<=cs.length then Ik ((cs.drop i).take n)else none)else h.rd s i n:=by by_cases x:s=h.bY<;>simp[dj.rd,dj.cb,x]
def zC(cs:List PV)(s:Nat):(h.cb cs).cd s=if s=h.bY then Ik cs else h.cd s:=rfl
def zQe(cs:List PV)(s i:Nat)(vs:List PV):(h.cb cs).wr s i vs=if s=h.bY then(if i+Tw vs<=Tw cs/\vs.all PV.one=Im then Ik (h.cb (cs.take i++vs++cs.drop (i+Tw vs)))else none)else(h.wr s i vs).map λh'=>h'.cb cs:=by
 by_cases x:s=h.bY
 .subst x;simp only[dj.wr,dj.cb,if_true,YG];split
  .congr 1;simp only[dj.set];congr 1;funext y;by_cases m:y=h.bY<;>simp[m]
  .rfl
 .simp only[dj.wr,dj.cb,Iv x];cases ho:h.cd s with
  |none=>rfl
  |some ob=>
   simp only[YG];split
   .simp only[Kc,dj.set];grind
   .rfl
def zND(cs:List PV):(h.cb cs).bY=h.bY+1:=rfl
def zOx(cs:List PV):(h.cb cs).top=h.top:=rfl
def zOz(cs:List PV)(s:Nat)(m:List PV):(h.cb cs).set s m=if s=h.bY then h.cb m else(h.set s m).cb cs:=by
 by_cases x:s=h.bY
 .subst x;rw[Iu rfl];simp only[dj.set,dj.cb];simp_all
 .rw[Iv x];simp only[dj.set,dj.cb];grind
def zOy(s:Nat)(cs m:List PV):(h.set s cs).set s m=h.set s m:=by
 simp only[dj.set];congr 1;funext y;by_cases u:y=s<;>simp[u]
def zNC(s:Nat)(cs:List PV):(h.set s cs).bY=h.bY:=rfl
def zLK(s:Nat):(h.kill s).bY=h.bY:=rfl
def zO8(t:Nat):(h.up t).bY=h.bY:=rfl
def zQh(t:Nat):(h.up t).top=t:=rfl
def zQp(t:Nat)(cs:List PV):(h.up t).cb cs=(h.cb cs).up t:=rfl
def zQj(t s i:Nat):(h.up t).gv s i=h.gv s i:=rfl
def zRv(t s i n:Nat):(h.up t).rd s i n=h.rd s i n:=rfl
def zQo(t s:Nat):(h.up t).cd s=h.cd s:=rfl
def zRt(t s i:Nat)(vs:List PV):(h.up t).wr s i vs=(h.wr s i vs).map λh'=>h'.up t:=by
 simp only[dj.wr,dj.up];cases h.cd s with
 |none=>rfl
 |some cs=>simp only[YG];split<;>rfl
def zBH(s t:Nat):(h.kill s).cd t=if t=s then none else h.cd t:=rfl
def zG(s:Nat)(cs:List PV)(t:Nat):(h.set s cs).cd t=if t=s then Ik cs else h.cd t:=rfl
def zM6(s t i:Nat):(h.kill s).gv t i=if t=s then none else h.gv t i:=by by_cases x:t=s<;>simp[dj.gv,dj.kill,x]
def zO1(s t i n:Nat):(h.kill s).rd t i n=if t=s then none else h.rd t i n:=by by_cases x:t=s<;>simp[dj.rd,dj.kill,x]
def zO2(s:Nat)(cs:List PV)(t i:Nat):(h.set s cs).gv t i=if t=s then cs[i]? else h.gv t i:=by by_cases x:t=s<;>simp[dj.gv,dj.set,x]
def zZ(s:Nat)(cs:List PV)(t i n:Nat):(h.set s cs).rd t i n=if t=s then(if i+n<=cs.length then Ik ((cs.drop i).take n)else none)else h.rd t i n:=by by_cases x:t=s<;>simp[dj.rd,dj.set,x]
def zQd(s:Nat)(cs:List PV)(i:Nat)(vs:List PV):(h.set s cs).wr s i vs=if i+Tw vs<=Tw cs/\vs.all PV.one=Im then Ik (h.set s (cs.take i++vs++cs.drop (i+Tw vs)))else none:=by
 simp only[dj.wr,dj.set,if_true,YG];simp_all
end
def pw0:=se @zQH <| se @zMg <| se @zQJ <| se @zRZ <| se @zQK <| se @zOg <| se @zQI <| se @zRa <| se @zRT <| se @RVp_q <| se @RVp_e <| se @zRW <| se @DVp_q <| se @DVp_e <| se @zPm <| se @zPl <| se @zPp <| se @zPo <| se @zJb <| se @zH6 <| se @zLN <| se @zJc <| se @zH5 <| se @zH3 <| se @zH2 <| se @zH4 <| se @pv_t <| se @pv_c <| se @zO9 <| @zM7
def pw1:=se @zM8 <| se @qp_mv <| se @zQZ <| se @zRs <| se @zQb <| se @zPR <| se @zPS <| se @qp_un <| se @zQc <| se @zJX <| se @zOw <| se @zOv <| se @zHq <| se @zHp <| se @zJZ <| se @zLH <| se @zRq <| se @zM1 <| se @zRr <| se @zOu <| se @zJW <| se @zM0 <| se @zJY <| se @zQa <| se @zRp <| se @zQY <| se @zP0 <| se @zSH <| se @zMP <| se @zPy <| se @zLa <| se @zOL <| se @zKC <| @zJr
def pw2:=se @zNT <| se @zOM <| se @zRL <| se @zRM <| se @zPz <| se @zLf <| se @zR1 <| se @zPa <| se @of_bool <| se @of_int <| se @zR0 <| se @zQ0 <| se @zQ1 <| se @zQz <| se @zR2 <| se @zR3 <| se @zQy <| se @zPZ <| se @zKb <| se @zPO <| se @zPE <| se @zPI <| se @zPN <| se @zPH <| se @zPJ <| se @zPK <| se @zPL <| se @zPM <| se @zPG <| se @zPF <| @zLY
def pw3:=se @zNP <| se @zLZ <| se @zNO <| se @zNN <| se @zLX <| se @zJk <| se @zLW <| se @zJj <| se @zJi <| se @zJh <| se @zJg <| se @zJ9 <| se @zN3 <| se @zQg <| se @zQf <| se @zLb <| se @zJn <| se @zNW <| se @zPP <| se @zPQ <| se @zQr <| se @zLd <| se @zLc <| se @zGC <| se @zG5 <| se @zNU <| se @zNV <| se @zJq <| se @zH8 <| @zQt
def pw4:=se @zQs <| se @zJp <| se @zNX <| se @zQu <| se @zJo <| se @zNG <| se @zNF <| se @zPB <| se @zPA <| se @zNE <| se @zLL <| se @zMb <| se @zKF <| se @zKG <| se @zJT <| se @zMx <| se @zJS <| se @zLE <| se @zMw <| se @zJV <| se @zFE <| se @zHm <| se @zHl <| se @zEV <| se @zEU <| se @zFG <| se @zF9 <| se @zLC <| se @zG1 <| @zLD
def pw5:=se @zHk <| se @zFD <| se @zJU <| se @zG0 <| se @zFF <| se @zLB <| se @zJR <| se @zHS <| se @zHR <| se @zLA <| se @zK9 <| se @zJP <| se @zJQ <| se @zOp <| se @zNR <| se @zNS <| se @zNQ <| se @zNI <| se @zLM <| se @zLQ <| se @zO5 <| se @zJf <| se @zNB <| se @zLO <| se @zO3 <| se @zJd <| se @zM9 <| se @zJe <| se @zNA <| se @zNK <| se @zQm <| @zNL
def pw6:=se @zLR <| se @zO6 <| se @zQn <| se @zLP <| se @zO4 <| se @zNJ <| se @zQl <| se @zLS <| se @zO7 <| se @zLT <| se @zLU <| se @zHy <| se @zHz <| se @zM4 <| se @zHu <| se @zHv <| se @zG2 <| se @zGB <| se @zBr <| se @zHw <| se @ZC <| se @zC <| se @zQe <| se @zND <| se @zOx <| se @zOz <| se @zOy <| se @zNC <| se @zLK <| se @zO8 <| se @zQh <| @zQp
def pw7:=se @zQj <| se @zRv <| se @zQo <| se @zRt <| se @zBH <| se @zG <| se @zM6 <| se @zO1 <| se @zO2 <| se @zZ <| se @zQd <| se @zBJ <| se @zAF <| se @zNZ <| se @zPY <| se @List.map_cons.{0,0} <| se @List.map_nil.{0,0} <| se @List.length_cons.{0} <| se @Ov.{0} <| se @Og.{0} <| se @IU.{0} <| se @List.take_succ_cons.{0} <| se @List.take_zero.{0} <| se @List.drop_succ_cons.{0} <| se @J0.{0} <| se @List.take_nil.{0} <| se @List.drop_nil.{0} <| se @List.nil_append.{0} <| se @List.cons_append.{0} <| @List.append_nil.{0}
def pw8:=se @List.all_cons.{0} <| se @List.all_nil.{0} <| se @List.contains_cons.{0} <| se @List.contains_nil.{0} <| se @Kc.{0,0} <| se @Option.map_none.{0,0} <| se @Option.bind_some.{0,0} <| se @Option.bind_none.{0,0} <| se @decide_true <| se @decide_false <| se @Bool.not_true <| se @Bool.not_false <| se @Bool.and_true <| se @Bool.true_and <| se @Bool.and_self <| se @Bool.or_false <| se @Bool.or_true <| se @Bool.true_or <| se @Bool.false_or <| se @true_and <| se @and_true <| se @Bool.true_eq_false <| se @JM <| se @Nat.left_eq_add <| se @Nat.add_eq_left <| se @Nat.succ_ne_self <| se @Nat.one_ne_zero <| se @Nat.add_left_cancel_iff <| se @Nat.add_assoc <| @KE
def pw9:=se @Nat.zero_add <| se @Nat.add_zero <| se @Nat.le_refl <| se @Nat.lt_add_one <| se @KH <| se @Int.natCast_nonneg <| se @Int.ofNat_lt <| se @Int.le_refl <| se @zK1 <| se @zK2 <| se @zCk <| se @Nat.one_mul <| @Nat.zero_mul
def Z3:=se pw0 <| se pw1 <| se pw2 <| se pw3 <| se pw4 <| se pw5 <| se pw6 <| se pw7 <| se pw8 <| se pw9 <| se @mr <| se @eq_self.{1} <| se @Int.ofNat_le @List.getElem?_drop.{0}
section
open Go.RowKit
variable{P:Program}{w0 w w':World}{j:jv}{h h':dN}{ι:Nat->Nat}{Z:Nat->Prop}{σ:dj}
def dN.ro(h:dN):dN:=⟨h.bY,λo=>(h.cd o).map λm=>⟨false,m.cells⟩⟩
def dN.ro_rd(o i n:Nat):h.ro.rd o i n=h.rd o i n:=by
 unfold dN.rd;have e:h.ro.cd o=(h.cd o).map λm=>⟨false,m.cells⟩:=rfl;rw[e];cases h.cd o<;>rfl
def MR.ro(m:MR B w0 j h w):MR w.heap.size w j h.ro w:=by
 refine⟨Below.refl _ _,sB _,m.gd.later m.below m.bnd,λo u=>?_,λo I l u D=>?_,λo T I R l S J u O D N E=>?_⟩
 .have:=m.fresh o u
  exact⟨by simp[dN.ro,this.1],this.2⟩
 .simp only[dN.ro,YJ]at u;obtain⟨A,C,rfl⟩:=u;have q:=m.cd o A l C D;obtain⟨cur,ty,fz,r1,r2,r3,U⟩:=q.row;have G:l.blk<w.heap.size:=(YA.1 r1).1;exact⟨q.one,cur,ty,fz,r1,r2,(λx=>by cases x),(λ_=>G)⟩
 .simp only[dN.ro,YJ]at u;obtain⟨A,C,rfl⟩:=u;cases E
def MR.quiet(m:MR B w0 j h w)(u:Below w.heap.size w w'):MR B w0 j h w':=by
 refine⟨m.below.trans (u.mono m.bnd),Yv m.bnd u.size,m.gd,m.fresh,λo E l D C=>?_,m.apart⟩;have q:=m.cd o E l D C;obtain⟨cur,ty,fz,r1,r2,r3,G⟩:=q.row;have A:l.blk<w.heap.size:=(YA.1 r1).1;exact⟨q.one,cur,ty,fz,by rw[u.block _ A];exact r1,r2,r3,G⟩
mutual
def loose:PV->PV
 | .fz _ a n cs=>.fz false a n (mg cs)
 | .fp a cs=>.fp a (mg cs)
 | .clo f a b=>.clo f (mg a) (mg b)
 | .agg cs=>.agg (mg cs)
 | .tup cs=>.tup (mg cs)
 | .undef=>.undef
 | .bool b=>.bool b
 | .int k z=>.int k z
 | .str s=>.str s
 | .nilp=>.nilp
 | .ptr s i=>.ptr s i
 | .sl s o n c=>.sl s o n c
 | .nilf=>.nilf
 | .err b=>.err b
def mg:List PV->List PV
 |[]=>[]
 |c::cs=>loose c::mg cs
end
mutual
def zPv(ι:Nat->Nat):∀v:PV,er ι (loose v)=er ι v
 | .fz _ a n cs=>rfl
 | .fp a cs=>rfl
 | .clo f a b=>by simp only[loose,er,ZQ ι a,ZQ ι b]
 | .agg cs=>by simp only[loose,er,ZQ ι cs]
 | .tup cs=>by simp only[loose,er,ZQ ι cs]
 | .undef | .bool _ | .int _ _ | .str _ | .nilp | .ptr _ _ | .sl _ _ _ _ | .nilf | .err _=>rfl
def ZQ(ι:Nat->Nat):∀cs:List PV,kA ι (mg cs)=kA ι cs
 |[]=>rfl
 |c::cs=>by simp only[mg,kA,zPv ι c,ZQ ι cs]
end
def FzAt.ro{b:Bool}{a:AV}{len:Nat}{ws:List AV}(f:FzAt Z h b a len ws):FzAt Z h.ro false a len ws:=by
 rcases f with f|⟨o,off,cap,rfl,u,m,A,C⟩
 .exact .inl f
 .exact .inr ⟨o,off,cap,rfl,u,m.imp id λm=>by rw[dN.ro_rd];exact m,A,λx=>by cases x⟩
def FpAt.ro{a:AV}{ws:List AV}(f:FpAt Z h a ws):FpAt Z h.ro a ws:=by
 obtain⟨m,e|⟨o,i,e,u,A⟩⟩:=f
 .exact⟨m,.inl e⟩
 .exact⟨m,.inr ⟨o,i,e,u,by rw[dN.ro_rd];exact A⟩⟩
mutual
def mA.loose:∀{n:Nat} {v:PV},mA Z h n v->mA Z h.ro n (loose v)
 |_,.fz w a len cs,hv=>⟨by rw[ZQ];exact FzAt.ro hv.1,fQ.mg hv.2⟩
 |_,.fp a cs,hv=>⟨by rw[ZQ];exact FpAt.ro hv.1,fQ.mg hv.2⟩
 |_,.clo _ a b,hv=>⟨fQ.mg hv.1,fQ.mg hv.2⟩
 |_,.agg cs,hv=>fQ.mg (cs:=cs) hv
 |_,.tup cs,hv=>fQ.mg (cs:=cs) hv
 |_,.undef,_|_,.bool _,_|_,.int _ _,_|_,.str _,_|_,.nilp,_|_,.nilf,_|_,.err _,_=>trivial
 |_,.ptr s _,hv=>hv
 |_,.sl s _ _ _,hv=>hv
def fQ.mg:∀{n:Nat} {cs:List PV},fQ Z h n cs->fQ Z h.ro n (mg cs)
 |_,[],_=>trivial
 |_,c::cs,hv=>⟨mA.loose hv.1,fQ.mg hv.2⟩
end
def dj.nulh:dj:=⟨0,0,λ_=>Option.none⟩
def zA.quietC{f:FuncId}{args:List PV}{q:List UInt8}(c:zA P f (mg args) dj.nulh λv _=>v=.str q)(r:Rel ι Z σ h)(E:fQ Z h 0 args)(m:MR B w0 j h w){cargs:List Value}(G:oy j (kA ι args) cargs):
  Calls P f cargs.toArray w λe w'=>e=.returned (.string ⟨q.toArray⟩)/\Below w.heap.size w w':=by
 have rel:Rel ι Z dj.nulh h.ro:=⟨λo C=>by simp[dN.ro,r.hwf o C],r.Dy,YQ _,λ_ _=>rfl,(λs cs e=>by cases e),(λs O cs I e=>by cases e)⟩
 refine(c ι Z h.ro rel (fQ.mg E) w.heap.size w j w cargs m.ro (by rw[ZQ];exact G)).mono ?_
 rintro e w' ⟨v,h',N,A,rfl,J,D,u,pv,σ',ι',Z',_,_,_,rfl,rfl⟩
 exact⟨by rw[show A=_ from u],D.below⟩
def zA.quietS{f:FuncId}{args:List PV}{q:List UInt8}{K:PV->dj->Prop}
  (H:∀(ι:Nat->Nat) (Z:Nat->Prop) (h:dN),Rel ι Z σ h->fQ Z h σ.bY args->∀(B:Nat) (w0:World) (j:jv) (w:World) (cargs:List Value),MR B w0 j h w->oy j (kA ι args) cargs->
   Calls P f cargs.toArray w λe w'=>e=.returned (.string ⟨q.toArray⟩)/\Below w.heap.size w w') (D:K (.str q) σ):zA P f args σ K:=
 λι Z h r E B w0 j w cargs m G=>(H ι Z h r E B w0 j w cargs m G).mono λe w' ⟨C,A⟩=>
  ⟨.str q,h,j,_,C,FR.refl _ _,m.quiet A,rfl,.str q,σ,ι,Z,r,⟨sB _,sB _,λ_ _=>rfl,λo u=>⟨u,rfl⟩,λ_ _ x=>x,λs cs hs u=>by rw[r.wf s hs]at u;cases u⟩,Is,rfl,D⟩
end
section
variable{P:Program}
@[congr] theorem cg_vp {c:IC} {Q:Exit->gr->dj->Prop} {e e':gr} {h h':dj} (m:nm e=e') (u:h=h'):vp P c Q e h=vp P c Q e' h':=by rw[mr]at m;rw[m,u]
@[congr] theorem zSi {t:OT} {recs m:List tK} {K:gr->dj->Prop} {e e':gr} {h h':dj} (A:recs=m) (u:nm e=e') (C:h=h'):TVp P t recs e h K=TVp P t m e' h' K:=by rw[mr]at u;rw[A,u,C]
@[congr] theorem zSj {m:List II} {K:gr->dj->Prop} {e e':gr} {h h':dj} (u:nm e=e') (A:h=h'):RVp P m e h K=RVp P m e' h' K:=by rw[mr]at u;rw[u,A]
@[congr] theorem zSk {nb m nr u:Nat} {A:List DI} {recs C:List tK} {K:gr->dj->Prop} {e e':gr} {h h':dj} (D:nm nb=m) (J:nr=u) (E:recs=C) (G:e=e') (I:h=h'):DVp P nb nr A recs e h K=DVp P m u A C e' h' K:=by rw[mr]at D;rw[D,E,G,I,J]
@[congr] theorem zSg {it:II} {K:PV->dj->Prop} {e e':gr} {h h':dj} (m:nm e=e') (u:h=h'):gep P it e h K=gep P it e' h' K:=by rw[mr]at m;rw[m,u]
@[congr] theorem cg_ep {op:tT} {K:PV->dj->Prop} {e e':gr} {h h':dj} (m:nm e=e') (u:h=h'):ep P op e h K=ep P op e' h' K:=by rw[mr]at m;rw[m,u]
@[congr] theorem zSa {f:FuncId} {K:PV->dj->Prop} {args m:List PV} {h h':dj} (u:nm args=m) (A:h=h'):zA P f args h K=zA P f m h' K:=by rw[mr]at u;rw[u,A]
@[congr] theorem zSU {n:Nat} {K:PV->dj->Prop} {x A v u:PV} {h h':dj} (m:nm x=A) (C:v=u) (D:h=h'):zFL n x v h K=zFL n A u h' K:=by rw[mr]at m;rw[m,C,D]
@[congr] theorem zSc {sz b:Nat} {z:List AV} {K:PV->dj->Prop} {x A v u:PV} {h h':dj} (m:nm x=A) (C:v=u) (D:h=h'):pMake sz b z x v h K=pMake sz b z A u h' K:=by rw[mr]at m;rw[m,C,D]
@[congr] theorem zSW {sz b:Nat} {z:List AV} {K:PV->dj->Prop} {x A v u:PV} {h h':dj} (m:nm x=A) (C:v=u) (D:h=h'):zBv sz b z x v h K=zBv sz b z A u h' K:=by rw[mr]at m;rw[m,C,D]
@[congr] theorem zSV {K:PV->dj->Prop} {f u:PV} {args m:List PV} {h h':dj} (A:nm f=u) (C:args=m) (D:h=h'):zFM P f args h K=zFM P u m h' K:=by rw[mr]at A;rw[A,C,D]
@[congr] theorem zST {v u:PV} {a b:Prop} (m:nm v=u):Zn v a b=Zn u a b:=by rw[mr]at m;rw[m]
@[congr] theorem zSS {v u:PV} {b:Bool} {x y:Prop} (m:nm v=u):Zr v b x y=Zr u b x y:=by rw[mr]at m;rw[m]
end
def eh(xs:V1):List PV:=xs.map (.int .i64)
def zPD(x:Int)(xs:V1):eh (x::xs)=.int .i64 x::eh xs:=rfl
def zK(xs:V1):(eh xs).length=Tw xs:=by simp[eh]
def zJ(xs:V1)(k:Nat):(eh xs)[k]? = (xs[k]?).map (.int .i64):=by simp[eh]
def zQq(xs:V1)(k:Nat)(x:Int):(eh xs).set k (.int .i64 x)=eh (xs.set k x):=by simp[eh,List.map_set]
def qh(xs m:V1):eh xs++eh m=eh (xs++m):=by simp[eh]
def zPC(xs:V1)(k:Nat):(eh xs).take k=eh (xs.take k):=by simp[eh,List.map_take]
def zi(n:Nat)(x:Int):Jf n (PV.int .i64 x)=eh (Jf n x):=by simp[eh]
def zO(n:Nat)(xs:V1):ko n (eh xs):=by
 induction xs with
 |nil=>trivial
 |cons x xs ih=>exact⟨Is,ih⟩
def zq{xs:V1}{i:Nat}(hi:i<Tw xs){x:Int}:(eh xs).take i++[.int .i64 x]++(eh xs).drop (i+1)=eh (xs.set i x):=by
 rw[<-zQq,KL,Iu (by rw[zK];exact hi),YH,UB]
def zHg{h:dj}{s:Nat}{cs:List PV}(hs:h.cd s=Ik cs):h.set s cs=h:=by
 cases h with
 |mk n t f=>
  simp only[dj.set];congr 1;grind
def take_set{α:Type}(xs:List α){i:Nat}(hi:i<Tw xs)(v:α):xs.take i++v::xs.drop (i+1)=xs.set i v:=by
 rw[KL,Iu hi]
def gi{α:Type}{xs:List α}{i:Nat}(hi:i<Tw xs):xs[i]? = Ik xs[i]:=na hi
def E4{n:Nat}(h:n<=4294967296):(n:Int)*((8:Nat):Int)<=140737488355328:=aH
def mk24{n:Nat}(h:n<=4294967296):(n:Int)*((24:Nat):Int)<=140737488355328:=aH
def zx{n:Nat}(h:n<=4294967296):(n:Int)<=9223372036854775807:=aH
def FI(v:PV)(xs:V1):Prop:=∃w a,v=.fz w a xs.length (eh xs)
def FL{α:Type}(R:PV->α->Prop)(v:PV)(xs:List α):Prop:=∃w a rows,v=.fz w a xs.length rows/\ez R rows xs
abbrev hK:PV->V2->Prop:=FL FI
abbrev DB:PV->V3->Prop:=FL hK
def FI.one{v:PV}{xs:V1}(h:FI v xs):v.one=Im:=by obtain⟨w,a,rfl⟩:=h;rfl
def FI.cells{v:PV}{xs:V1}(h:FI v xs):v.cells=[v]:=by obtain⟨w,a,rfl⟩:=h;rfl
def FI.bel{v:PV}{xs:V1}(h:FI v xs)(n:Nat):DA n v:=by obtain⟨w,a,rfl⟩:=h;trivial
def FL.one{α:Type}{R:PV->α->Prop}{v:PV}{xs:List α}(h:FL R v xs):v.one=Im:=by obtain⟨w,a,r,rfl,_⟩:=h;rfl
def FL.cells{α:Type}{R:PV->α->Prop}{v:PV}{xs:List α}(h:FL R v xs):v.cells=[v]:=by obtain⟨w,a,r,rfl,_⟩:=h;rfl
def FL.bel{α:Type}{R:PV->α->Prop}{v:PV}{xs:List α}(h:FL R v xs)(n:Nat):DA n v:=by obtain⟨w,a,r,rfl,_⟩:=h;trivial
def FI.sb{v:PV}{xs:V1}(h:FI v xs)(s o:Nat)(cs:List PV):sb s o cs v=v:=by obtain⟨w,a,rfl⟩:=h;rfl
def FL.sb{α:Type}{R:PV->α->Prop}{v:PV}{xs:List α}(h:FL R v xs)(s o:Nat)(cs:List PV):sb s o cs v=v:=by obtain⟨w,a,r,rfl,_⟩:=h;rfl
def ez.at{α β:Type}{R:α->β->Prop}{as:List α}{m:List β}(h:ez R as m){k:Nat}(u:k<Tw m):∃a,as[k]? = Ik a/\R a m[k]:=h.get u
def ez.rowI{rows:List PV}{m:V2}(h:ez FI rows m){k:Nat}(A:k<Tw m):∃w a,rows[k]? = Ik (.fz w a m[k].length (eh m[k])):=by
 obtain⟨r,u,w,a,rfl⟩:=h.get A;exact⟨w,a,u⟩
def ez.rowL{α:Type}{R:PV->α->Prop}{rows:List PV}{u:List (List α)}(h:ez (FL R) rows u){k:Nat}(D:k<Tw u):∃w a m,rows[k]? = Ik (.fz w a u[k].length m)/\ez R m u[k]:=by
 obtain⟨r,A,w,a,m,rfl,C⟩:=h.get D;exact⟨w,a,m,A,C⟩
def ez.bels{α:Type}{R:PV->α->Prop}{n:Nat}{rows:List PV}{xs:List α}(h:ez R rows xs)(u:∀v x,R v x->DA n v):ko n rows:=by
 rw[Zl];intro c A;obtain⟨k,m,rfl⟩:=YE.1 A;exact u _ _ (h.2 k _ (xs[k]'(by rw[<-h.1];exact m)) (na m) (na _))
def ez.bI{rows:List PV}{xs:V2}(h:ez FI rows xs)(n:Nat):ko n rows:=h.bels λ_ _ k=>k.bel n
def ez.bL{α:Type}{R:PV->α->Prop}{rows:List PV}{xs:List (List α)}(h:ez (FL R) rows xs)(n:Nat):ko n rows:=h.bels λ_ _ k=>k.bel n
def ez.take{α β:Type}{R:α->β->Prop}{as:List α}{u:List β}(h:ez R as u)(k:Nat):ez R (as.take k) (u.take k):=by
 refine⟨by simp[h.1],λj a b m A=>?_⟩;rw[Y3]at m A;split at m
 .exact h.2 j a b m (by simpa [*]using A)
 .cases m
def ez.drop{α β:Type}{R:α->β->Prop}{as:List α}{m:List β}(h:ez R as m)(k:Nat):ez R (as.drop k) (m.drop k):=by
 refine⟨by simp[h.1],λj a b u A=>?_⟩;rw[Y0]at u A;exact h.2 _ a b u A
def ez.append{α β:Type}{R:α->β->Prop}{as cs:List α}{A C:List β}(h:ez R as A)(g:ez R cs C):ez R (as++cs) (A++C):=by
 refine⟨by simp[h.1,g.1],λj a b m u=>?_⟩;rcases YY j as.length with x|x
 .rw[YC x]at m;rw[YC (by rw[<-h.1];exact x)]at u;exact h.2 j a b m u
 .rw[Yz x]at m;rw[Yz (by rw[<-h.1];exact x),<-h.1]at u;exact g.2 _ a b m u
def zF{P:Program}{Q:Exit->gr->dj->Prop}{e:gr}{h:dj}{S:List Nat}{c:IC}(I:Nat->List PV->dj->Prop)(n:Nat)(m:I n (S.map e) h)
  (round:∀n vs h,I n vs h->vp P c (λx e' h'=>match x with | .normal=>∃n',n'<n/\I n' (S.map e') h'|x=>Q x e' h') (gr.mk S vs) h):vp P (.loop S c) Q e h:=
 ⟨I,⟨n,.here m⟩,λn vs h u=>QD c (λx e h k=>by cases x<;>first|exact k.imp λ_ q=>⟨q.1,.here q.2⟩|exact k) (round n vs h u)⟩
def qF{P:Program}{Q:Exit->gr->dj->Prop}{e:gr}{h:dj}{S:List Nat}{c:IC}(I:Nat->List PV->dj->Prop)(n:Nat)(m:GL (I n) (S.map e) h)
  (round:∀n vs h,I n vs h->vp P c (λx e' h'=>match x with | .normal=>∃n',n'<n/\GL (I n') (S.map e') h'|x=>Q x e' h') (gr.mk S vs) h):vp P (.loop S c) Q e h:=⟨I,⟨n,m⟩,round⟩
def fi{c:Prop}[Decidable c]{A B:Prop}(m:c->A)(u:¬c->B):if c then A else B:=by
 simp_all
def Tr{c:Prop}[Decidable c]{a b:Prop}(k:¬c->b)(h:c->a):if c then a else b:=fi h k
def pkt{K:PV->dj->Prop}{h:dj}{p:Prop}[Decidable p](m:K (.bool (decide p)) h)(u:p):K (.bool Im) h:=by
 rw[decide_eq_true u]at m;exact m
def pkf{K:PV->dj->Prop}{h:dj}{p:Prop}[Decidable p](m:K (.bool (decide p)) h)(u:¬p):K (.bool false) h:=by
 rw[decide_eq_false u]at m;exact m
def pke{K:PV->dj->Prop}{h:dj}{p q:Prop}[Decidable p][Decidable q](m:K (.bool (decide p)) h)(u:p↔q):K (.bool (decide q)) h:=by
 simp_all
def zB(σ:dj)(cs:List PV):dq σ (σ.cb cs):=(dq.refl σ).cb cs
def dq.setN{σ0 σ1:dj}{cs:List PV}(a:dq (σ0.cb cs) σ1)(m:List PV):dq (σ0.cb m) (σ1.set σ0.bY m):=
 ⟨a.bY,a.top,λt u=>by
  by_cases e:t=σ0.bY
  .subst e;simp[dj.set,dj.cb]
  .have:=a.cd t u
   simp only[dj.set,dj.cb,Iv e]at this ⊢;exact this⟩
def zH{h:dj}{s:Nat}{cs:List PV}(m:h.cd s=Ik cs)(i:Nat):h.gv s i=cs[i]?:=by simp[dj.gv,m]
def zN{h:dj}{s:Nat}{cs:List PV}(m:h.cd s=Ik cs)(i n:Nat):h.rd s i n=if i+n<=cs.length then Ik ((cs.drop i).take n)else none:=by simp[dj.rd,m]
def zL{h:dj}{s:Nat}{cs:List PV}(m:h.cd s=Ik cs)(i:Nat)(vs:List PV):h.wr s i vs=if i+Tw vs<=Tw cs/\vs.all PV.one=Im then Ik (h.set s (cs.take i++vs++cs.drop (i+Tw vs)))else none:=by simp[dj.wr,m]
def full(e:Nat)(cap:nK)(n:Nat):Prop:=cap=.grown e\/cap=.cm n
def full.ok{e n:Nat}{cap:nK}(h:full e cap n):kv cap n=Im:=by
 rcases h with rfl|rfl
 .rfl
 .simp[kv]
def ft(b e:Nat)(h:dj)(v:PV)(n:Nat)(cs:List PV):Prop:=∃s cap,v=.sl s 0 n cap/\full e cap n/\h.cd s=Ik cs/\Tw cs=n*e/\b<=s/\s<h.bY
def fB(b e:Nat)(h:dj)(v:PV)(n:Nat)(cs:List PV):Prop:=
 (v=.fz Im .cU 0 []/\n=0/\cs=[])\/ft b e h v n cs
def fB.nil(b e:Nat)(h:dj):fB b e h (.fz Im .cU 0 []) 0 []:=.inl ⟨rfl,rfl,rfl⟩
def ft.own{b e n s:Nat}{h:dj}{cap:nK}{cs:List PV}(u:full e cap n)(C:h.cd s=Ik cs)(A:cs.length=n*e)(m:b<=s)(hs:s<h.bY):ft b e h (.sl s 0 n cap) n cs:=⟨s,cap,rfl,u,C,A,m,hs⟩
def ft.acc{b e n:Nat}{h:dj}{v:PV}{cs:List PV}(a:ft b e h v n cs):fB b e h v n cs:=.inr a
def ft.cb(b e:Nat){h:dj}{n:Nat}{cs:List PV}(u:cs.length=n*e)(m:b<=h.bY):ft b e (h.cb cs) (.sl h.bY 0 n (.cm n)) n cs:=⟨_,_,rfl,.inr rfl,by simp[dj.cb],u,m,by simp[dj.cb]⟩
def ft.c7{b e n:Nat}{h h':dj}{v:PV}{cs:List PV}(a:ft b e h v n cs)(u:dq h h'):ft b e h' v n cs:=by
 obtain⟨s,cap,rfl,A,C,D,E,m⟩:=a;exact⟨s,cap,rfl,A,by rw[u.cd s m];exact C,D,E,YO m u.bY⟩
def ft.setO{b e n t:Nat}{h:dj}{v:PV}{cs:List PV}(a:ft b e h v n cs)(G:t<b)(m:List PV):ft b e (h.set t m) v n cs:=by
 obtain⟨s,cap,rfl,u,A,C,D,E⟩:=a;exact⟨s,cap,rfl,u,by rw[zG,Iv aH];exact A,C,D,E⟩
def ft.one{b e n:Nat}{h:dj}{v:PV}{cs:List PV}(a:ft b e h v n cs):v.one=Im:=by obtain⟨s,cap,rfl,_⟩:=a;rfl
def ft.cells{b e n:Nat}{h:dj}{v:PV}{cs:List PV}(a:ft b e h v n cs):v.cells=[v]:=by obtain⟨s,cap,rfl,_⟩:=a;rfl
def ft.nN{b e n:Nat}{h:dj}{v:PV}{cs:List PV}(a:ft b e h v n cs):nN v=Ik (.int .i64 n):=by obtain⟨s,cap,rfl,_⟩:=a;rfl
def fB.c7{b e n:Nat}{h h':dj}{v:PV}{cs:List PV}(a:fB b e h v n cs)(u:dq h h'):fB b e h' v n cs:=by
 rcases a with ⟨rfl,rfl,rfl⟩|⟨s,cap,rfl,A,C,D,E,m⟩
 .exact fB.nil _ _ _
 .exact .inr ⟨s,cap,rfl,A,by rw[u.cd s m];exact C,D,E,YO m u.bY⟩
def fB.set{b e n t:Nat}{h:dj}{v:PV}{cs:List PV}(a:fB b e h v n cs)(G:t<b)(m:List PV):fB b e (h.set t m) v n cs:=by
 rcases a with ⟨rfl,rfl,rfl⟩|⟨s,cap,rfl,u,A,C,D,E⟩
 .exact fB.nil _ _ _
 .exact .inr ⟨s,cap,rfl,u,by rw[zG,Iv aH];exact A,C,D,E⟩
def fB.one{b e n:Nat}{h:dj}{v:PV}{cs:List PV}(a:fB b e h v n cs):v.one=Im:=by
 rcases a with ⟨rfl,rfl,rfl⟩|⟨s,cap,rfl,_⟩<;>rfl
def fB.cells{b e n:Nat}{h:dj}{v:PV}{cs:List PV}(a:fB b e h v n cs):v.cells=[v]:=by
 rcases a with ⟨rfl,rfl,rfl⟩|⟨s,cap,rfl,_⟩<;>rfl
def fB.nN{b e n:Nat}{h:dj}{v:PV}{cs:List PV}(a:fB b e h v n cs):nN v=Ik (.int .i64 n):=by
 rcases a with ⟨rfl,rfl,rfl⟩|⟨s,cap,rfl,_⟩<;>rfl
def ft.app{σb h:dj}{b e bytes n m:Nat}{v x:PV}{cs news:List PV}{K:PV×dj->Prop}(u:dq σb h)(V:b<=σb.bY)(a:ft σb.bY e h v n cs)(U:BO x=Ik m)(T:m≠0->q8 e h x m=Ik news)(N:news.length=m*e)
  (G:(n+m)*bytes<=140737488355328) (I:n+m<=4611686018427387904) (k:∀S h',dq σb h'->ft σb.bY e h' S (n+m) (cs++news)->K (S,h')):iU (zW e bytes h v x) K:=by
 rw[ZM,U];simp only[YG];obtain⟨s,cap,rfl,J,C,D,E,R⟩:=a;by_cases A:m=0
 .rw[Iu A];subst A
  have:news=[]:=YM aH
  subst this;rcases J with rfl|rfl
  .refine qo rfl (k _ _ u ?_);rw[YL,Y6];exact⟨s,_,rfl,.inl rfl,C,D,E,R⟩
  .rw[zEA,Iu (sB _)];refine qo rfl (k _ _ u ?_);rw[YL,Y6];exact⟨s,_,rfl,.inr rfl,C,D,E,R⟩
 .rw[Iv A,T A];simp only[YG];have O:=u.bY;rcases J with rfl|rfl
  .rw[zBT,Iu ⟨G,I,rfl⟩,C];simp only[YG];rw[Iu aH,J0];refine qo rfl (k _ _ ((u.kill E).cb _) ?_);rw[YU aH];exact⟨h.bY,_,rfl,.inl rfl,by simp[dj.cb,dj.kill],by rw[cO,D,N,La],O,by simp[dj.cb,dj.kill]⟩
  .rw[zBS,Iv aH,Iu ⟨G,I⟩,zN C,Iu aH,J0,YU aH];simp only[Kc];refine qo rfl (k _ _ (u.cb _) ?_);exact⟨h.bY,_,rfl,.inl rfl,by simp[dj.cb],by rw[cO,D,N,La],O,by simp[dj.cb]⟩
def fB.app{σb h:dj}{b e bytes n m:Nat}{v x:PV}{cs news:List PV}{K:PV×dj->Prop}(C:dq σb h)(R:b<=σb.bY)(a:fB σb.bY e h v n cs)(J:BO x=Ik m)(E:m≠0->q8 e h x m=Ik news)(G:news.length=m*e)
  (D:(n+m)*bytes<=140737488355328) (O:n+m<=4611686018427387904) (k:∀u h',dq σb h'->fB σb.bY e h' u (n+m) (cs++news)->(0<n+m->ft σb.bY e h' u (n+m) (cs++news))->K (u,h')):iU (zW e bytes h v x) K:=by
 rcases a with ⟨rfl,rfl,rfl⟩|a
 .rw[ZM,J];simp only[YG];by_cases A:m=0
  .rw[Iu A];subst A
   have:news=[]:=YM aH
   subst this;exact qo rfl (k _ _ C (fB.nil _ _ _) aH)
  .rw[Iv A,E A];simp only[YG];rw[zAZ,Iu ⟨by simpa using D,aH⟩];have I:ft σb.bY e (h.cb news) (.sl h.bY 0 m (.grown e)) m news:=⟨h.bY,_,rfl,.inl rfl,by simp[dj.cb],G,C.bY,by simp[dj.cb]⟩
   refine qo rfl (k _ _ (C.cb _) ?_ ?_)
   .rw[Yn,Y4];exact .inr I
   .rw[Yn,Y4];exactλ_=>I
 .exact ft.app C R a J E G D O λu h' S N=>k u h' S (.inr N) λ_=>N
def fB.push{σb h:dj}{bytes n:Nat}{v x:PV}{cs:List PV}{K:PV×dj->Prop}(D:dq σb h)(a:fB σb.bY 1 h v n cs) 
  (A:(n+1)*bytes<=140737488355328) (C:n+1<=4611686018427387904) (k:∀u h',dq σb h'->ft σb.bY 1 h' u (n+1) (cs++[x])->K (u,h')):iU (zW 1 bytes (h.cb [x]) v (.sl h.bY 0 1 (.cm 1))) K:=
 fB.app (news:=[x]) (m:=1) (D.cb _) (sB _) (a.c7 (zB _ _)) rfl (λ_=>by simp[qO,ZC]) rfl A C λu h' E _ G=>k u h' E (G aH)
def ft.push{σb h:dj}{bytes n:Nat}{v x:PV}{cs:List PV}{K:PV×dj->Prop}(C:dq σb h)(a:ft σb.bY 1 h v n cs)
  (u:(n+1)*bytes<=140737488355328) (A:n+1<=4611686018427387904) (k:∀m h',dq σb h'->ft σb.bY 1 h' m (n+1) (cs++[x])->K (m,h')):iU (zW 1 bytes (h.cb [x]) v (.sl h.bY 0 1 (.cm 1))) K:=
 fB.push C a.acc u A k
def ft.cat{σb h:dj}{bytes n m:Nat}{w:Bool}{av:AV}{v:PV}{cs news:List PV}{K:PV×dj->Prop}(E:dq σb h)(a:ft σb.bY 1 h v n cs)(G:news.length=m)
  (C:(n+m)*bytes<=140737488355328) (D:n+m<=4611686018427387904) (k:∀u h',dq σb h'->ft σb.bY 1 h' u (n+m) (cs++news)->K (u,h')):iU (zW 1 bytes h v (.fz w av m news)) K:=
 ft.app (b:=0) (news:=news) (m:=m) E (YQ _) a rfl (λA=>by rw[zBI,Iv A,Iu ⟨sB _,aH,aH⟩,YU aH]) aH C D k
def ft.fin{σ h:dj}{e n:Nat}{v:PV}{cs:List PV}{K:PV->dj->Prop}(A:dq σ h)(a:ft σ.bY e h v n cs)(m:ko 0 cs)(k:∀o cap,K (.fz Im (.sl o 0 n cap) n cs) σ):Gh σ K v h:=by
 obtain⟨s,cap,rfl,u,C,E,D,G⟩:=a;exact Gh.finF A C D m u.ok λo=>k _ _
def ft.out{σ h:dj}{e n:Nat}{v:PV}{cs:List PV}{K:PV->dj->Prop}(A:dq σ h)(a:ft σ.bY e h v n cs)(m:ko σ.bY cs)(k:∀cap,full e cap n->K (.sl σ.bY 0 n cap) (σ.cb cs)):Gh σ K v h:=by
 obtain⟨s,cap,rfl,u,C,E,D,G⟩:=a;exact Gh.finS A C D m (k cap u)
def fB.fin{σ h:dj}{e n:Nat}{v:PV}{cs:List PV}{K:PV->dj->Prop}(m:dq σ h)(a:fB σ.bY e h v n cs)(u:ko 0 cs)(k:∀a,K (.fz Im a n cs) σ):Gh σ K v h:=by
 rcases a with ⟨rfl,rfl,rfl⟩|⟨s,cap,rfl,A,C,E,D,G⟩
 .exact Gh.fin0 m trivial (k _)
 .exact Gh.finF m C D u A.ok λo=>k _
def zA.fz{P:Program}{f:FuncId}{args:List PV}{σ:dj}{K:PV->dj->Prop}{l e:Nat}{cs:List PV}(c:∀K':PV->dj->Prop,(∀cap,full e cap l->K' (.sl σ.bY 0 l cap) (σ.cb cs))->zA P f args σ K')(m:ko 0 cs)
  (k:∀o cap,K (.fz Im (.sl o 0 l cap) l cs) σ):zA P f args σ K:=
 zA.gh (c _ λcap u=>Gh.finF (zB σ cs) (by simp[dj.cb]) (sB _) m u.ok λo=>k o cap)
def ResI(σ:dj)(K:PV->dj->Prop)(xs:V1):Prop:=(xs=[]->K (.fz Im .cU 0 []) σ)/\∀cap,full 1 cap xs.length->K (.sl σ.bY 0 xs.length cap) (σ.cb (eh xs))
def zA.fzI{P:Program}{f:FuncId}{args:List PV}{σ:dj}{K:PV->dj->Prop}{xs:V1}(c:∀K':PV->dj->Prop,ResI σ K' xs->zA P f args σ K')(k:∀a,K (.fz Im a xs.length (eh xs)) σ):zA P f args σ K:=
 zA.gh (c _ ⟨λm=>by subst m;exact Gh.ret (k _),λcap u=>Gh.finF (zB σ _) (by simp[dj.cb]) (sB _) (zO _ _) u.ok λo=>k _⟩)
def fB.res{σ h:dj}{n:Nat}{v:PV}{xs:V1}{K:PV->dj->Prop}(m:dq σ h)(A:n=Tw xs)(a:fB σ.bY 1 h v n (eh xs))(k:ResI σ K xs):Gh σ K v h:=by
 subst A;rcases a with ⟨rfl,u,C⟩|a
 .exact Gh.fin0 m trivial (k.1 (YM u))
 .exact a.out m (zO _ _) k.2
abbrev qI(d:Nat)(o:tT):II:=⟨Ik d,o,Im,none⟩
abbrev eI(d:Nat)(o:tT):II:=⟨Ik d,o,false,none⟩
abbrev nI(o:tT):II:=⟨none,o,false,none⟩
abbrev qD(d:Nat)(o:tT)(i:Nat):DI:=⟨⟨Ik d,o,Im,none⟩,i,[]⟩
abbrev eD(d:Nat)(o:tT)(i:Nat)(c:List Nat):DI:=⟨⟨Ik d,o,false,none⟩,i,c⟩
def zFB{s o:Nat}{cs:List PV}:∀vs:List PV,(nD s o cs vs).length=Tw vs
 |[]=>rfl
 |v::vs=>by simp only[nD,YF,zFB vs]
def dq.sub{σ0 h:dj}(w:PWF σ0)(m:dq σ0 h){s o:Nat}{cs:List PV}(hs:σ0.bY<=s):dq σ0 (h.sub s o cs):=
 ⟨m.bY,m.top,λt u=>by
  simp only[dj.sub];rw[m.cd t u];cases hd:σ0.cd t with
  |none=>rfl
  |some b=>simp only[Kc];rw[qc hs (w.bel t b hd)]⟩
def fB.ne{b e n t:Nat}{h:dj}{v:PV}{cs:List PV}(a:fB b e h v n cs)(u:h.bY<=t)(off l:Nat)(c:nK):v≠.sl t off l c:=by
 rcases a with ⟨rfl,_,_⟩|⟨s,cap,rfl,_,_,_,_,m⟩
 .exactλe=>by cases e
 .intro e;simp only[PV.sl.injEq]at e;omega
def fB.ne'{b e n t:Nat}{h:dj}{v:PV}{cs:List PV}(a:fB b e h v n cs)(u:t<b)(off l:Nat)(c:nK):v≠.sl t off l c:=by
 rcases a with ⟨rfl,_,_⟩|⟨s,cap,rfl,_,_,_,m,_⟩
 .exactλe=>by cases e
 .intro e;simp only[PV.sl.injEq]at e;omega
def fB.pos{b e n:Nat}{h:dj}{v:PV}{cs:List PV}(a:fB b e h v n cs)(u:0<n):ft b e h v n cs:=by
 rcases a with ⟨_,m,_⟩|a
 .omega
 .exact a
def fB.low{b b' e n:Nat}{h:dj}{v:PV}{cs:List PV}(a:fB b e h v n cs)(E:b'<=b):fB b' e h v n cs:=by
 rcases a with a|⟨s,cap,rfl,m,u,A,C,D⟩
 .exact .inl a
 .exact .inr ⟨s,cap,rfl,m,u,A,Yv E C,D⟩
def ft.high{b b' e n:Nat}{h:dj}{v:PV}{cs:List PV}(a:ft b e h v n cs)(D:∀t,t<b'->∀off l c,v≠.sl t off l c):ft b' e h v n cs:=by
 obtain⟨s,cap,rfl,m,u,A,E,C⟩:=a;refine⟨s,cap,rfl,m,u,A,?_,C⟩;rcases YY s b' with x|x
 .exact absurd rfl (D s x 0 n cap)
 .exact x
def fB.appS{σb h:dj}{e bytes n m:Nat}{v x:PV}{rows news:List PV}{K:PV×dj->Prop}(C:dq σb h)(a:fB σb.bY e h v n rows)(hx:BO x=Ik m)(Y:m≠0)(X:q8 e h x m=Ik news)(E:news.length=m*e)
  (D:(n+m)*bytes<=140737488355328) (R:n+m<=4611686018427387904)
  (k:∀J h',dq σb h'->ft σb.bY e h' J (n+m) (rows++news)->(∀t,t<h.bY->(∀off l c,v≠.sl t off l c)->h'.cd t=h.cd t)->(∀t,t<h.bY->∀off l c,J≠.sl t off l c)->h.bY<h'.bY->K (J,h')):iU (zW e bytes h v x) K:=by
 rw[ZM,hx];simp only[YG];rw[Iv Y,X];simp only[YG];have G:=C.bY;have nw:∀t,t<h.bY->∀(off l:Nat) (c:nK) (S:Nat) (O:nK),PV.sl h.bY 0 S O≠.sl t off l c:=λt I off l c S O e=>by
  simp only[PV.sl.injEq]at e;omega
 rcases a with ⟨rfl,rfl,rfl⟩|⟨t,c,rfl,V,T,U,q4,q5⟩
 .rw[zAZ,Iu ⟨by simpa using D,aH⟩];refine qo rfl (k _ _ (C.cb _) ⟨_,_,by rw[Y4],.inl rfl,by simp[dj.cb],by simpa using E,G,by simp[dj.cb]⟩ (λt I _=>?_) (λt I off l c=>nw t I off l c _ _) (YB _));rw[zC,Iv aH]
 .rcases V with rfl|rfl
  .rw[zBT,Iu ⟨D,R,rfl⟩,T];simp only[YG];rw[Iu aH,J0,YU aH];refine qo rfl (k _ _ ((C.kill q4).cb _) ⟨_,_,rfl,.inl rfl,by simp[dj.cb,dj.kill],by rw[cO,U,E,La],G,by simp[dj.cb,dj.kill]⟩ (λu A N=>?_) (λu A off l c=>nw u A off l c _ _) (YB _));rw[zC,Iv (by simp only[dj.kill];omega)]
   show(if u=t then none else _)=_
   rw[Iv λe=>N 0 n _ (by rw[e])]
  .rw[zBS,Iv aH,Iu ⟨D,R⟩,zN T,Iu aH,J0,YU aH];simp only[Kc];refine qo rfl (k _ _ (C.cb _) ⟨_,_,rfl,.inl rfl,by simp[dj.cb],by rw[cO,U,E,La],G,by simp[dj.cb]⟩ (λu A N=>?_) (λu A off l c=>nw u A off l c _ _) (YB _));rw[zC,Iv aH]
def fB.pushS{σb h:dj}{e bytes n:Nat}{v:PV}{rows news:List PV}{K:PV×dj->Prop}(G:dq σb h)(a:fB σb.bY e h v n rows)(S:news.length=e)(D:(n+1)*bytes<=140737488355328)(E:n+1<=4611686018427387904)
  (k:∀u h',dq σb h'->ft σb.bY e h' u (n+1) (rows++news)->(∀t,t<h.bY->(∀off l c,v≠.sl t off l c)->h'.cd t=h.cd t)->(∀t,t<h.bY->∀off l c,u≠.sl t off l c)->h.bY<h'.bY->K (u,h')):iU (zW e bytes (h.cb news) v (.sl h.bY 0 1 (.cm 1))) K:=
 fB.appS (m:=1) (G.cb _) (a.c7 (zB _ _)) rfl aH (by rw[qO,Iv aH,Iu (sB _),ZC,Iu rfl,Iu aH,J0,YU aH]) aH D E
  λu h' I J N O R=>k u h' I J (λt A C=>by rw[N t (Lk A) C,zC,Iv aH]) (λt A=>O t (Lk A)) (Nat.lt_trans (YB _) R)
def ft.fzr{σb h:dj}{e n s:Nat}{v:PV}{cells cs:List PV}(w:PWF σb)(A:dq σb h)(a:ft σb.bY e h v n cells)(hs:σb.bY<=s)(u:∀off l c,v≠.sl s off l c)(o:Nat):
  dq σb ((h.kill s).sub s o cs)/\ft σb.bY e ((h.kill s).sub s o cs) v n (nD s o cs cells)/\sb s o cs v=v:=by
 obtain⟨t,c,rfl,C,D,E,G,I⟩:=a;have m:t≠s:=λe=>u 0 n c (by rw[e]);refine⟨(A.kill hs).sub w hs,⟨t,c,rfl,C,?_,by rw[zFB];exact E,G,I⟩,?_⟩
 .simp only[dj.sub,dj.kill,Iv m,D,Kc]
 .simp only[sb];rw[Iv λe=>m e.1]
def zBo{s o l:Nat}{cap:nK}{rows cs:List PV}(m:ko 0 rows)(u:kv cap l=Im):nD s o cs (rows++[.sl s 0 l cap])=rows++[.fz Im (.sl o 0 l cap) l cs]:=by
 rw[zAX,qc (YQ _) m];simp only[nD,sb,u,and_self,if_true]
section
open Go.ChangeShapes Go.WideShapes Go.RowKit Go.Deep
variable{w0 W:World}{j:jv}{h h':dN}{H:Type}{enc:TypeId×Value->H}{P:Program}{α:Type}
abbrev Dy(h:dN):Nat->Prop:=λo=>o<h.bY
def Ext.voks{pvs:List PV}{n:Nat}(e:Ext h h')(u:fQ (Dy h) h n pvs):fQ (Dy h') h' n pvs:=u.mono (λo m=>⟨YO m e.bY,e.cd o m⟩) (sB _)
def MR.name(m:MR W.heap.size w0 j h W)(l:Loc):MR W.heap.size w0 (j.put h.bY l) ⟨h.bY+1,h.cd⟩ W/\j.le (j.put h.bY l)/\Ext h ⟨h.bY+1,h.cd⟩:=by
 have hle:=jv.le_put m l;have S:h.cd h.bY=none:=(m.fresh _ (sB _)).1;have conv:∀{o:Nat} {D:u2} {C:Loc},h.cd o=Ik D->(j.put h.bY l) o=Ik C->j o=Ik C:=λ{o D C} u A=>by
  have:o≠h.bY:=λe=>by subst e;rw[S]at u;cases u
  simpa [jv.put,this]using A
 refine⟨⟨m.below,m.bnd,m.gd,λo u=>?_,λo D C u A=>?_,λo T x U O R G u E A I N=>m.apart o T x U O R G u E (conv u A) (conv E I) N⟩,hle,⟨bj,λ_ _=>rfl,λo u=>m.wf o (by simp at u;omega)⟩⟩
 .simp only at u;refine⟨m.wf o aH,?_⟩;simp only[jv.put];rw[Iv aH];exact(m.fresh o aH).2
 .obtain⟨a,cur,ty,fz,b,c,d⟩:=m.cd o D C u (conv u A);exact⟨a,cur,ty,fz,b,λi v hi=>by obtain⟨J,x,y⟩:=c i v hi;exact⟨J,x,VI.mono hle _ _ y⟩,d⟩
def Lay1(enc:TypeId×Value->H)(P:Program)(W:World)(t:TypeId)(R:PV->α->Prop):Prop:=∀(w0:World) (j:jv) (h:dN) (held:Bool) (fuel:Nat) (v:Value) (x:DataW H×List MemPlace),MR W.heap.size w0 j h W->
 DataW.trod enc P W 0 (λ_=>Im) held fuel t [v]=Ik x->∃(m:jv) (h':dN) (pv:PV) (a:α),MR W.heap.size w0 m h' W/\j.le m/\Ext h h'/\VI m (er zj pv) v/\mA (Dy h') h' 0 pv/\pv.one=Im/\R pv a
def Lay1.cells{e:TypeId}{R:PV->α->Prop}(L:Lay1 enc P W e R){V:Nat->Value}{D:Nat->DataW H}{J:Nat->List MemPlace}{held:Bool}{fuel:Nat}{w0:World}:∀(n:Nat) {j:jv} {h:dN},MR W.heap.size w0 j h W->
  (∀i,i<n->DataW.trod enc P W 0 (λ_=>Im) held fuel e [V i]=Ik (D i,J i))->
  ∃(u:jv) (h':dN) (pvs:List PV) (as:List α),MR W.heap.size w0 u h' W/\j.le u/\Ext h h'/\Tw pvs=n/\(∀i pv,pvs[i]? = Ik pv->VI u (er zj pv) (V i))/\fQ (Dy h') h' 0 pvs/\pvs.all PV.one=Im/\ez R pvs as
 |0,j,h,m,_=>⟨j,h,[],[],m,jv.le.refl _,Ext.refl m.wf,rfl,λi pv hi=>(by simp at hi),Is,rfl,ez.nil _⟩
 |n+1,j,h,m,hx=>by
  obtain⟨j1,S,pvs,as,m1,l1,O,C,Y,U,N,X⟩:=Lay1.cells L n m λi hi=>hx i aH;obtain⟨j2,T,pv,a,m2,E,A,v2,o2,G,r2⟩:=L w0 j1 S held fuel (V n) _ m1 (hx n aH);refine⟨j2,T,pvs++[pv],as++[a],m2,l1.trans E,O.trans A,by simp[C],λi I hi=>?_,(A.voks U).append ⟨o2,Is⟩,by simp[N,G],X.snoc r2⟩;rcases Je i n with x|x|x
  .rw[YC aH]at hi;exact VI.mono E _ _ (Y i I hi)
  .subst x;rw[Yz aH]at hi;simp[C]at hi;subst hi;exact v2
  .rw[YN (by simp;omega)]at hi;cases hi
def addr_add(a:Addr)(i:Nat):(a.add i).block=a.block:=by unfold Addr.add;split<;>rfl
def zNm{t e:TypeId}(ht:P.underlying t=Ik (.slice e))(u:P.cellsOf e=1){R:PV->α->Prop}(L:Lay1 enc P W e R):Lay1 enc P W t (λv (xs:List α)=>FL R v xs/\Tw xs<=9223372036854775807):=by
 intro w0 j h held fuel v x m hx;rcases open_slice1 ht u hx with ⟨A,rfl⟩|⟨a,len,c0,cap,n,a0,D,Pl,A,_,hl,hm,N,rfl,C⟩
 .simp only[List.cons.injEq,and_true]at A;subst A;exact⟨j,h,.fz Im .cU 0 [],[],m,jv.le.refl _,Ext.refl m.wf,rfl,⟨.inl ⟨rfl,rfl,rfl⟩,Is⟩,rfl,⟨Im,.cU,[],rfl,ez.nil _⟩,bj⟩
 simp only[if_true]at N;subst N;simp only[List.cons.injEq,and_true]at A;subst A;have ub:maxLen=9223372036854775807:=rfl;by_cases h0:cap=0
 .subst h0;obtain rfl:len=0:=aH
  obtain⟨m',l',e'⟩:=m.name ⟨0,0,0⟩;exact⟨_,_,.fz false (.sl h.bY 0 0 (.cm 0)) 0 [],[],m',l',e',⟨⟨0,0,0⟩,a,by simp[jv.put],rfl,.inr ⟨rfl,rfl⟩⟩,⟨.inr ⟨h.bY,0,.cm 0,rfl,by simp[Dy],.inl rfl,λc u=>by cases u;exact sB _,bj⟩,Is⟩,rfl,⟨false,_,[],rfl,ez.nil _⟩,bj⟩
 obtain⟨hs,cur,ty,fz,hb,_⟩:=zKx (C 0 aH).1;obtain⟨blk,off,spot⟩:=a;have Y:spot=none:=by simpa [Addr.add]using hs
 subst Y;have I:W.heap[blk]? = Ik (.cells cur ty fz):=by simpa [Addr.add]using hb
 have zE:=zSO I;obtain⟨j1,U,pvs,as,G,l1,e1,X,fh,S,bh,V⟩:=L.cells len m λi hi=>(C i aH).2;have m2:=G.lay (cells:=kA zj pvs) (l:=⟨blk,off,0⟩) (by rw[zDo S];exact bh) zE I (by
  intro i v hi;rw[zB0]at hi;obtain⟨pv,J,rfl⟩:=YJ.1 hi;have aK:i<len:=by rw[<-X];exact(Yg.1 J).1
  obtain⟨_,uF,tE,Iz,E,O⟩:=zKx (C i aH).1;rw[addr_add]at E;rw[I]at E;cases E;rw[show((⟨blk,off,none⟩:Addr).add i).off=off+i by unfold Addr.add;split<;>simp_all]at O;exact⟨_,O,fh i pv J⟩)
 have T:=Ext.cb G.wf ⟨false,kA zj pvs⟩;have lu:=V.1;refine⟨_,_,.fz false (.sl U.bY 0 len (.cm cap)) len pvs,as,m2,l1.trans (jv.le_put G _),e1.trans T,⟨⟨blk,off,0⟩,_,by simp[jv.put],rfl,.inl rfl⟩,⟨.inr ⟨U.bY,0,.cm cap,rfl,by simp[Dy,dN.cb],.inr (QW (zLj _) rfl),λc u=>by cases u;exact hl,bj⟩,T.voks S⟩,rfl,⟨false,_,pvs,by rw[<-lu,X],V⟩,aH⟩
def ez.all{β γ:Type}{R:β->γ->Prop}{as:List β}{m:List γ}(h:ez R as m){p:γ->Prop}(C:∀a b,R a b->p b):∀b∈m,p b:=by
 intro b u;obtain⟨k,A,rfl⟩:=YE.1 u;obtain⟨a,_,D⟩:=h.get A;exact C _ _ D
def FL.all{R:PV->α->Prop}{v:PV}{xs:List α}(h:FL R v xs){p:α->Prop}(m:∀v x,R v x->p x):∀x∈xs,p x:=by
 obtain⟨w,a,rows,rfl,h⟩:=h;exact h.all m
def dj.start(h:dN):dj:=⟨0,h.bY,λ_=>none⟩
def zMv(u:HWF h):Rel zj (Dy h) (dj.start h) h:=⟨u,λ_ m=>m,sB _,λ_ _=>rfl,λ_ _ m=>(by cases m),λ_ _ _ _ m=>(by cases m)⟩
def zA.law{f:FuncId}{args:List PV}(c:zA P f args (dj.start h) (λv _=>v=.bool Im))(u:HWF h)(m:fQ (Dy h) h 0 args):ZH P f (kA zj args) h (λv _=>v=.bool Im):=by
 refine(c zj (Dy h) h (zMv u) m).mono ?_
 rintro v h' ⟨pv,σ',ι',Z',_,_,_,rfl,rfl⟩
 rfl
end
section
variable{σ:dj}{L:List (Nat×List PV)}
mutual
def F3:PV->List Nat
 | .fz _ a _ cs=>bif cs.isEmpty then []else match a with | .sl o _ _ _=>o::lH cs|_=>[]
 | .fp a cs=>bif cs.isEmpty then []else match a with | .ptr o _=>o::lH cs|_=>[]
 | .clo _ a b=>lH a++lH b
 | .agg cs=>lH cs
 | .tup cs=>lH cs
 |_=>[]
def lH:List PV->List Nat
 |[]=>[]
 |c::cs=>F3 c++lH cs
end
mutual
def rm(L:List (Nat×List PV)):PV->PV
 | .fz w a len cs=>bif cs.isEmpty then .fz w a len cs else
  match a with
  | .sl o off l cap=>
   match L.lookup o with
   |some ms=>bif w then .fz Im (.sl o off l cap) len ms else .fp (.sl o off l cap) []
   |none=>.fz w (.sl o off l cap) len (rms L cs)
  |a=>.fz w a len cs
 | .fp a cs=>bif cs.isEmpty then .fp a cs else
  match a with
  | .ptr o i=>
   match L.lookup o with
   |some _=>.fp (.ptr o i) []
   |none=>.fp (.ptr o i) (rms L cs)
  |a=>.fp a cs
 | .clo f a b=>.clo f (rms L a) (rms L b)
 | .agg cs=>.agg (rms L cs)
 | .tup cs=>.tup (rms L cs)
 |v=>v
def rms(L:List (Nat×List PV)):List PV->List PV
 |[]=>[]
 |c::cs=>rm L c::rms L cs
end
def zU:∀(as m:List PV),lH (as++m)=lH as++lH m
 |[],_=>rfl
 |a::as,m=>by simp only[Yy,lH,zU as m,YH]
def dj.rmap(σ:dj)(L:List (Nat×List PV)):dj:=⟨σ.bY,σ.top,λs=>(σ.cd s).map (rms L)⟩
end
section
variable{P:Program}{h:dN}{σ:dj}{K:PV->dj->Prop}
def isSl:AV->Bool
 | .sl _ _ _ _=>Im
 |_=>false
mutual
def Wh:PV->Prop
 | .fz w a _ cs=>cs=[]\/(w=Im/\isSl a=Im/\Whs cs)
 | .fp _ cs=>cs=[]
 | .clo _ a b=>Whs a/\Whs b
 | .agg cs=>Whs cs
 | .tup cs=>Whs cs
 |_=>True
def Whs:List PV->Prop
 |[]=>True
 |c::cs=>Wh c/\Whs cs
end
def qg:∀{cs:List PV},Whs cs↔∀c∈cs,Wh c
 |[]=>by simp[Whs]
 |c::cs=>by simp[Whs,qg (cs:=cs)]
structure Own(lo hi:Nat)(v:PV):Prop where
 wh:Wh v
 nd:(F3 v).Nodup
 lt:∀o∈F3 v,lo<=o/\o<hi
structure kz(lo hi:Nat)(cs:List PV):Prop where
 wh:Whs cs
 nd:(lH cs).Nodup
 lt:∀o∈lH cs,lo<=o/\o<hi
def kz.mono{v:List PV}(h:kz lo hi v)(u:Jy<=lo)(A:hi<=hi'):kz Jy hi' v:=⟨h.wh,h.nd,λo m=>by have:=h.lt o m;omega⟩
def kz.nil(lo hi:Nat):kz lo hi []:=⟨Is,LC,λo m=>by cases m⟩
def kz.snoc{cs:List PV}{c:PV}(h:kz lo t cs)(g:Own t hi c)(A:lo<=t)(C:t<=hi):kz lo hi (cs++[c]):=by
 refine⟨qg.2 λx hx=>?_,?_,λo ho=>?_⟩
 .rcases YZ.1 hx with hx|hx
  .exact qg.1 h.wh x hx
  .rw[YW.1 hx];exact g.wh
 .rw[zU,LD];simp only[lH,YL];refine⟨h.nd,g.nd,λa m b u e=>?_⟩
  have:=h.lt a m
  have:=g.lt b u
  omega
 .rw[zU]at ho;simp only[lH,YL,YZ]at ho;rcases ho with ho|ho
  .have:=h.lt o ho;omega
  .have:=g.lt o ho;omega
def Own.empty(lo hi:Nat)(w:Bool)(a:AV)(l:Nat):Own lo hi (.fz w a l []):=⟨.inl rfl,LC,λo m=>by cases m⟩
def kz.fz{cs:List PV}{o l:Nat}{cap:nK}(h:kz lo hi cs)(m:lo<=o)(u:o<hi)(A:o∉lH cs):Own lo hi (.fz Im (.sl o 0 l cap) l cs):=by
 refine⟨.inr ⟨rfl,rfl,h.wh⟩,?_,λx hx=>?_⟩
 .unfold F3;cases cs.isEmpty
  .simp only[cond_false,UB];exact Q1.2 ⟨A,h.nd⟩
  .exact LC
 .unfold F3 at hx;cases he:cs.isEmpty<;>rw[he]at hx
  .simp only[cond_false,UB,Yq]at hx;rcases hx with rfl|hx
   .exact⟨m,u⟩
   .exact h.lt x hx
  .cases hx
def zP2(xs:V1):lH (eh xs)=[]:=by
 induction xs with
 |nil=>rfl
 |cons x xs ih=>simp only[zPD,lH,F3,ih,YL]
def zRS(xs:V1):Whs (eh xs):=by
 induction xs with
 |nil=>trivial
 |cons x xs ih=>exact⟨Is,ih⟩
mutual
def zAM:∀{v:PV} {o:Nat},o∈F3 v->o∈mP v
 | .undef,o,ho | .bool _,o,ho | .int _ _,o,ho | .str _,o,ho | .nilp,o,ho | .nilf,o,ho | .err _,o,ho | .ptr _ _,o,ho | .sl _ _ _ _,o,ho=>by simp[F3]at ho
 | .fz w a len cs,o,ho=>by
  unfold F3 at ho;cases he:cs.isEmpty<;>rw[he]at ho
  .simp only[cond_false,YZ]at ho;have m:o∈lH cs->o∈z8 cs:=zf;cases a<;>simp only[mP,Yq,Ya,false_or,or_false]at ho ⊢<;>first|exact ho.imp id m|skip
  .cases ho
 | .fp a cs,o,ho=>by
  unfold F3 at ho;cases he:cs.isEmpty<;>rw[he]at ho
  .simp only[cond_false,YZ]at ho;have m:o∈lH cs->o∈z8 cs:=zf;cases a<;>simp only[mP,he,JM,if_false,YZ,Yq,Ya,false_or,or_false]at ho ⊢<;>first|exact ho.imp id m|skip
  .cases ho
 | .clo _ a b,o,ho=>by
  simp only[F3,mP,YZ]at ho ⊢;exact ho.imp zf zf
 | .agg cs,o,ho=>zf (cs:=cs) ho
 | .tup cs,o,ho=>zf (cs:=cs) ho
def zf:∀{cs:List PV} {o:Nat},o∈lH cs->o∈z8 cs
 |[],o,ho=>by cases ho
 |c::cs,o,ho=>by
  simp only[lH,z8,YZ]at ho ⊢;exact ho.imp zAM zf
end
def zA.notop{f:FuncId}{args:List PV}{p:PV->Nat->Prop}(c:∀K':PV->dj->Prop,(∀v t,DA σ.bY v->p v t->σ.top<=t->K' v (σ.up t))->zA P f args σ K')(k:∀v t,p v t->K v σ):zA P f args σ K:=
 zA.gh (c _ λv t m u A=>Gh.fin0 (dq.up (dq.refl σ) A) m (k v t u))
def zMK{α:Type}{cs:List α}(h:cs≠[]):cs.isEmpty=false:=by cases cs;exact absurd rfl h;rfl
def zIz{w:Bool}{o off l n:Nat}{cap:nK}{cs:List PV}(m:cs≠[]):F3 (.fz w (.sl o off l cap) n cs)=o::lH cs:=by
 rw[F3,zMK m];rfl
variable{α:Type}{len:α->Nat}
end
section
variable{σ0 σ1:dj}{K:PV->dj->Prop}
def Gh.freezeH{v:PV}{s:Nat}{cs:List PV}(hs:σ1.cd s=Ik cs)(h0:σ0.bY<=s)(u:ko 0 cs)
  (k:∀o,σ0.top<=o->(∀t C,σ1.cd t=Ik C->o∉z8 C)->o∉mP v->Gh σ0 K (sb s o cs v) (((σ1.kill s).sub s o cs).up (max σ1.top (o+1)))):Gh σ0 K v σ1:=by
 intro w ι Z h b r J h1 h2 I h4;obtain⟨r',O,A,N⟩:=r.freeze hs u;have rM:=I s cs h0 hs;have D:∀o,Z o->(Z o\/o=ι s)/\h.cd o=h.cd o:=λo A=>⟨.inl A,rfl⟩
 have r3:=r'.sub (s:=s) rfl (.inr rfl) A (O.mono D (sB _));have conv:∀{t:Nat} {a:List PV},((σ1.kill s).sub s (ι s) cs).cd t=Ik a->∃b,σ1.cd t=Ik b:=λ{t a} m=>by
  simp only[dj.sub,dj.kill,YJ]at m;obtain⟨b,u,_⟩:=m;split at u
  .cases u
  .exact⟨b,u⟩
 obtain⟨v2,σ2,ι2,R,S,T,U,V,X,Y,g7,g8,g9⟩:=k (ι s) aH (λt C m G=>N (Zk (r.cd t C m).2.1 _ G)) (λG=>N (zDt J _ G)) w ι (λo=>Z o\/o=ι s) h b r3
  (mA.sb (.inr rfl) A (O.mono D (sB _)) (J.mono D (sB _))) h1 h2 (λt C m E=>by obtain⟨b,u⟩:=conv E;exact I t b m u)
  (λt m E=>by
   have:=h4 t m E
   simp only[dj.sub,dj.kill,dj.up];split
   .rfl
   .rw[this];rfl)
 exact⟨v2,σ2,ι2,R,S,T,U,V,λo A=>X o (.inl A),Y,g7,g8.trans (er_sb rfl v),g9⟩
def ez.imp{α β:Type}{R S:α->β->Prop}{as:List α}{m:List β}(h:ez R as m)(hi:∀a b,R a b->S a b):ez S as m:=⟨h.1,λk a b u A=>hi a b (h.2 k a b u A)⟩
end
section
variable{K:PV->dj->Prop}
def fB.setX{b e n s:Nat}{h:dj}{v:PV}{cs m:List PV}(a:fB b e h v n cs)(hs:s<b):fB b e (h.set s m) v n cs:=by
 rcases a with a|⟨t,cap,rfl,u,A,C,D,E⟩
 .exact .inl a
 .exact .inr ⟨t,cap,rfl,u,by rw[zG,Iv aH];exact A,C,D,E⟩
def zRX{h h':dj}{s i:Nat}{vs:List PV}(m:h.wr s i vs=Ik h'):h'.top=h.top:=by
 unfold dj.wr at m;cases ho:h.cd s with
 |none=>rw[ho]at m;cases m
 |some cs=>
  rw[ho]at m;simp only[YG]at m;split at m
  .cases m;rfl
  .cases m
def zNH{e b m:Nat}{h:dj}{v:PV}{news:List PV}{q:PV×dj}(u:xL e b h v news m=Ik q):q.2.top=h.top:=by
 unfold xL at u;split at u
 .split at u
  .cases u;rfl
  .cases u
 .split at u
  .cases u;rfl
  .cases u
 .split at u
  .simp only[YJ]at u;obtain⟨C,A,rfl⟩:=u;exact zRX A
  .split at u
   .simp only[YJ]at u;obtain⟨C,A,rfl⟩:=u;rfl
   .cases u
 .split at u
  .simp only[YX]at u;obtain⟨cs,C,A⟩:=u;split at A
   .cases A;rfl
   .cases A
  .cases u
 .cases u
def zJl{e b:Nat}{h:dj}{v x:PV}{q:PV×dj}(A:zW e b h v x=Ik q):q.2.top=h.top:=by
 unfold zW at A;simp only[YX]at A;obtain⟨m,E,u⟩:=A;split at u
 .simp only[YJ]at u;obtain⟨G,C,rfl⟩:=u;rfl
 .simp only[YX]at u;obtain⟨news,C,D⟩:=u;exact zNH D
def zEb{e b:Nat}{h:dj}{v x:PV}{K:PV×dj->Prop}(c:iU (zW e b h v x) λq=>q.2.top=h.top->K q):iU (zW e b h v x) K:=by
 obtain⟨q,m,k⟩:=c;exact⟨q,m,k (zJl m)⟩
end
structure SR where
 s:Nat
 cap:nK
 x:V1
def SR.pv(q:SR):PV:=.sl q.s 0 q.x.length q.cap
def SR.ok(σ:dj)(b:Nat)(q:SR):Prop:=full 1 q.cap q.x.length/\σ.cd q.s=Ik (eh q.x)/\b<=q.s/\q.s<σ.bY
def zBn(rows:List SR):List Nat:=rows.map SR.s
def Tq{P Q:Prop}(h:Q)(e:P=Q:=by simp only[Z3,seval,-Int.reduceNatCast'];rfl):P:=e.mpr h
def Ts{A:Prop}(h:¬A):(false=true)↔A:=⟨λx=>(by cases x),λx=>absurd x h⟩
abbrev Tt:PV:=.fz true .cU 0 []
end Go.Ab
